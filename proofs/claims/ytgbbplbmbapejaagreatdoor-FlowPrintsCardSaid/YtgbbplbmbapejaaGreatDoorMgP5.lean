/- Several texts of ours in one. No conditions. -/
import Derived.Test.YtgbbplbmbapejaaGreatDoorMgSo
import Derived.Test.YtgbbplbmbapejaaGreatDoorMgFB
import Derived.Test.YtgbbplbmbapejaaGreatDoorMgB4
open Nat renaming reduceEqDiff → Za, reduceAdd → Zb, reduceMul → Zc
namespace Go.Mg
open Go Go.RowKit
set_option linter.all false
set_option maxRecDepth 100000
def c_clipP (ι : Ids) : S :=
 .seq (.reg [.p (.v 2) (.mv (.c (.slice .none 0 0)))]) (.seq (.reg [.p (.t 3) (.mv (.v 0)), .p (.t 4) (.mv (.v 0)), .p (.t 5) (.m (.lenl (.t 4))), .p (.t 6) (.mv (.v 0)), .p (.t 7) (.m (.lenl (.t 6))),
 .p (.t 8) (.m (.slm 2 (.t 3) .none (.t 5) (.t 7))), .p (.v 2) (.mv (.t 8))]) .ret)
def r_clipP : List RV := [.t 2]
def c_compactP (ι : Ids) : S :=
 .seq (.reg [.p (.v 2) (.mv (.c (.slice .none 0 0)))]) (.seq (.seq (.reg [.p (.t 6) (.mv (.v 0)), .p (.t 7) (.m (.lenl (.t 6))), .p (.v 8) (.cm .lss .i64 (.t 7) (.c (.int .i64 2)))]) (.ite (.v 8) (.seq
 (.reg [.p (.t 9) (.mv (.v 0)), .p (.v 2) (.mv (.t 9))]) .ret) .skip)) (.seq (.seq (.reg [.p (.v 3) (.mv (.c (.int .i64 1)))]) (.blk 0 (.loop (.seq (.seq (.reg [.p (.t 10) (.mv (.v 3)), .p (.t 11) (.mv
 (.v 0)), .p (.t 12) (.m (.lenl (.t 11))), .p (.v 13) (.cm .lss .i64 (.t 10) (.t 12))]) (.ite (.v 13) .skip (.exit 0))) (.seq (.blk 1 (.seq (.reg [.p (.t 16) (.mv (.v 0)), .p (.t 17) (.mv (.v 3)), .p
 (.t 18) (.is 2 (.t 16) (.t 17)), .p (.t 19) (.m (.ldn 2 (.t 18))), .p (.t 20) (.mv (.v 0)), .p (.t 21) (.mv (.v 3)), .p (.t 22) (.ar .sub .i64 (.t 21) (.c (.int .i64 1))), .p (.t 23) (.is 2 (.t 20)
 (.t 22)), .p (.t 24) (.m (.ldn 2 (.t 23))), .p (.v 25) (.m (.eqa false .i64 2 (.t 19) (.t 24)))]) (.ite (.v 25) (.seq (.reg [.p (.t 26) (.mv (.v 0)), .p (.t 27) (.mv (.v 3)), .p (.t 28) (.m (.sls 2
 (.t 26) (.some (.t 27)) .none)), .p (.v 4) (.mv (.t 28))]) (.seq (.seq (.reg [.p (.v 5) (.mv (.c (.int .i64 1)))]) (.blk 2 (.loop (.seq (.seq (.reg [.p (.t 29) (.mv (.v 5)), .p (.t 30) (.mv (.v 4)),
 .p (.t 31) (.m (.lenl (.t 30))), .p (.v 32) (.cm .lss .i64 (.t 29) (.t 31))]) (.ite (.v 32) .skip (.exit 2))) (.seq (.blk 3 (.seq (.reg [.p (.t 35) (.mv (.v 4)), .p (.t 36) (.mv (.v 5)), .p (.t 37)
 (.is 2 (.t 35) (.t 36)), .p (.t 38) (.m (.ldn 2 (.t 37))), .p (.t 39) (.mv (.v 4)), .p (.t 40) (.mv (.v 5)), .p (.t 41) (.ar .sub .i64 (.t 40) (.c (.int .i64 1))), .p (.t 42) (.is 2 (.t 39) (.t 41)),
 .p (.t 43) (.m (.ldn 2 (.t 42))), .p (.v 44) (.m (.eqa true .i64 2 (.t 38) (.t 43)))]) (.ite (.v 44) (.seq (.reg [.p (.t 45) (.mv (.v 0)), .p (.t 46) (.mv (.v 3)), .p (.t 47) (.mv (.v 4)), .p (.t 48)
 (.mv (.v 5)), .p (.t 49) (.is 2 (.t 47) (.t 48)), .p (.t 50) (.m (.ldn 2 (.t 49))), .p (.t 51) (.is 2 (.t 45) (.t 46)), .e .no (.stn 2 (.t 51) (.t 50))]) (.reg [.p (.t 52) (.mv (.v 3)), .p (.t 53)
 (.ar .add .i64 (.t 52) (.c (.int .i64 1))), .p (.v 3) (.mv (.t 53))])) .skip))) (.reg [.p (.t 33) (.mv (.v 5)), .p (.t 34) (.ar .add .i64 (.t 33) (.c (.int .i64 1))), .p (.v 5) (.mv (.t 34))]))))))
 (.seq (.reg [.p (.t 54) (.mv (.v 0)), .p (.t 55) (.mv (.v 3)), .p (.t 56) (.m (.sls 2 (.t 54) (.some (.t 55)) .none)), .e .no (.clr #[.int .i64 0, .int .i64 0] (.t 56))]) (.seq (.reg [.p (.t 57) (.mv
 (.v 0)), .p (.t 58) (.mv (.v 3)), .p (.t 59) (.m (.sls 2 (.t 57) .none (.some (.t 58)))), .p (.v 2) (.mv (.t 59))]) .ret)))) .skip))) (.reg [.p (.t 14) (.mv (.v 3)), .p (.t 15) (.ar .add .i64 (.t 14)
 (.c (.int .i64 1))), .p (.v 3) (.mv (.t 15))])))))) (.seq (.reg [.p (.t 60) (.mv (.v 0)), .p (.v 2) (.mv (.t 60))]) .ret)))
def r_compactP : List RV := [.t 2]
def ClipSpec (P : Program) (k : FuncId) : Prop := ∀ (l : List NP) (v : Value) (H : Hp), SlE nE 2 H v l -> CallsM P k #[v] H fun r H' => SlE nE 2 H' r l /\ (∀ q, slB r q -> slB v q) /\ H' = H
theorem clipP_ok {P : Program} {ι : Ids} {k : FuncId} (hk : FnIs P k (c_clipP ι) r_clipP 1) : ClipSpec P k := by
 intro l v H hv
 refine calls_of_vc hk (args := [_]) (by simp) ?_
 unfold c_clipP r_clipP
 obtain ⟨a, c, rfl, hc⟩ := hv.mk
 have ea : (if l.length = 0 then a else Option.map (fun x => x) a) = a := by cases a <;> simp
 simp only [go_sem, zS, ↓reduceIte, Za, Zb, Zc, reduceCtorEq, kont_eq, ea]
 refine ⟨⟨by omega, by omega, by omega, by omega⟩, ?_, fun q hq => ?_⟩
 ·rcases hv with ⟨_, _, h, rfl⟩ | ⟨b, o, c', hl, h, h0, C, T, z, h1, h2, h3⟩
  ·exact SlE.nil _ _ _
  ·cases h
   exact .inr ⟨b, o, _, hl, rfl, Nat.le_refl _, C, T, z, h1, h2, h3⟩
 ·cases a with
  | none => exact hq.elim
  | some p => exact hq
theorem eqa_nE (a b : NP) : ([(a.1 : Int), (a.2 : Int)] == [(b.1 : Int), (b.2 : Int)]) = decide (a = b) := by
 obtain ⟨a1, a2⟩ := a
 obtain ⟨b1, b2⟩ := b
 rw [Bool.eq_iff_iff]
 simp
 omega
theorem wrL_take {L xs : List Value} {o t : Nat} (h : t <= o) (ho : o <= L.length) : (wrL L o xs).take t = L.take t := by
 unfold wrL
 rw [List.append_assoc, List.take_append_of_le_length (by rw [List.length_take]; omega), List.take_take, Nat.min_eq_left h]
theorem wrL_take2 {L xs : List Value} {o : Nat} (ho : o <= L.length) : (wrL L o xs).take (o + xs.length) = L.take o ++ xs := by
 unfold wrL
 exact List.take_left' (by rw [List.length_append, List.length_take]; omega)
theorem wrL_drop {L xs : List Value} {o d : Nat} (h : o + xs.length <= d) (ho : o <= L.length) : (wrL L o xs).drop d = L.drop d := by
 unfold wrL
 have e : (L.take o ++ xs).length = o + xs.length := by rw [List.length_append, List.length_take]; omega
 rw [show d = (o + xs.length) + (d - (o + xs.length)) by omega, <- List.drop_drop, List.drop_left' e, List.drop_drop]
theorem bl_el {H : Hp} {b : Nat} {L : List Value} (h : Bl H b L) {j : Nat} {p : NP} (hL : j * 2 + 2 <= L.length) (hp : (L.drop (j * 2)).take 2 = nE p) : ldNA H ⟨b, j * 2, none⟩ 2 = some #[.int .i64 (p.1 : Int), .int .i64 (p.2 : Int)] := by
 rw [h.ldNA (by omega), hp]; rfl
def CompSpec (P : Program) (k : FuncId) : Prop := ∀ (l : List NP) (v : Value) (H : Hp), OwE nE 2 H v l -> l.length < 1000000 -> CallsM P k #[v] H fun r H' => SlE nE 2 H' r (ddF l l.length) /\ (∀ q, slB r q -> ownB v q) /\ Keep (ownB v) H H'
theorem compactP_ok {P : Program} {ι : Ids} {k : FuncId} (hk : FnIs P k (c_compactP ι) r_compactP 1) : CompSpec P k := by
 intro l v H hv hn
 refine calls_of_vc hk (args := [_]) (by simp) ?_
 unfold c_compactP r_compactP
 have hs := hv.sl
 by_cases h0 : l = []
 ·obtain ⟨a, c, rfl, hc⟩ := hs.mk
  subst h0
  have e0 : decide ((((0 : Nat) : Int)) < 2) = true := rfl
  simp only [go_sem, zS, ↓reduceIte, Za, Zb, Zc, reduceCtorEq, kont_eq, List.length_nil, e0]
  exact ⟨hv.sl, fun q hq => hv.slB hq, Keep.refl _ _⟩
 obtain ⟨b, c, L, rfl, h1, h2, hB, h3⟩ := hv.some h0
 have h0' : 0 < l.length := List.length_pos_iff.2 h0
 have keep0 : keepB l 0 = true := rfl
 have hLl : l.length * 2 <= L.length := by omega
 have elL : ∀ j, j < l.length -> (L.drop (j * 2)).take 2 = nE (at0 l j) := fun j hj => by
  have := fl_at nE_len l j l[j] (List.getElem?_eq_getElem hj)
  rw [<- h3, List.drop_take, List.take_take, Nat.min_eq_left (by omega)] at this
  rw [this, at0_eq hj]
 simp only [go_sem, zS, ↓reduceIte, Za, Zb, Zc, reduceCtorEq, kont_eq]
 refine iteV_dec (fun hlt => ?_) (fun hge => ?_)
 ·refine ⟨?_, fun q hq => hv.slB hq, Keep.refl _ _⟩
  rw [ddF_all _ (fun i hi => by rw [show i = 0 by omega]; exact keep0) (Nat.le_refl _), List.take_length]
  exact hs
 ·refine vc_loop [3, 13, 25, 4, 5, 32, 44, 2] rfl (fun n f H' => ∃ i : Nat, 1 <= i /\ i <= l.length /\ n = l.length - i /\ f 3 = .int .i64 i /\ H' = H /\ ∀ j < i, keepB l j = true) (l.length - 1) ?_ ?_
  ·exact ⟨1, by omega, by omega, rfl, by simp only [go_sem, zS, ↓reduceIte, Za, Zb, Zc, reduceCtorEq, kont_eq]; rfl, rfl, fun j hj => by rw [show j = 0 by omega]; exact keep0⟩
  ·rintro n f H1 ⟨i, g1, g2, rfl, hf, rfl, hkeep⟩
   simp only [go_sem, zS, ↓reduceIte, Za, Zb, Zc, reduceCtorEq, kont_eq] at hf
   simp only [go_sem, zS, ↓reduceIte, Za, Zb, Zc, reduceCtorEq, kont_eq, hf]
   refine iteV_dec (fun hlt => ?_) (fun hge => ?_)
   ·have hi : i < l.length := by omega
    have hsub : IntKind.i64.wrap ((i : Int) - 1) = ((i - 1 : Nat) : Int) := by rw [IntWalk.i64_in _ (by omega)]; omega
    have r1 := bl_el hB (j := i) (by omega) (elL i hi)
    have r2 := bl_el hB (j := i - 1) (by omega) (elL (i - 1) (by omega))
    simp only [go_sem, zS, ↓reduceIte, Za, Zb, Zc, reduceCtorEq, kont_eq, hsub, tn_cast, ldNO_ptr, r1, r2]
    refine ⟨by omega, by omega, ⟨by simp [isI], by simp [isI]⟩, ?_⟩
    rw [eqa_nE]
    have hkb : decide (at0 l i = at0 l (i - 1)) = !keepB l i := by
     unfold keepB
     have : decide (i = 0) = false := by simp; omega
     rw [this, Bool.false_or]; simp
    rw [hkb]
    cases hki : keepB l i with
    | true =>
     simp (disch := omega) only [go_sem, zS, ↓reduceIte, Za, Zb, Zc, reduceCtorEq, kont_eq, Bool.not_true, IntWalk.i64_in]
     exact ⟨l.length - (i + 1), by omega, i + 1, by omega, by omega, rfl, by rfl, fun j hj => by
      by_cases e : j = i
      ·subst e; exact hki
      ·exact hkeep j (by omega)⟩
    | false =>
     simp only [go_sem, zS, ↓reduceIte, Za, Zb, Zc, reduceCtorEq, kont_eq, Bool.not_false]
     refine ⟨by omega, ?_⟩
     have hci : ¬ c = i := by omega
     rw [if_neg hci]
     refine vc_loop [32, 44, 3, 5] rfl (fun n f H' => ∃ (m : Nat) (L2 : List Value), i + 1 <= m /\ m <= l.length /\ n = l.length - m /\ f 5 = .int .i64 ((m - i : Nat) : Int) /\ f 3 = .int .i64 ((ddF l m).length : Int) /\ (ddF l m).length + 1 <= m ∧
       Bl H' b L2 /\ L2.length = L.length /\ L2.take ((ddF l m).length * 2) = (ddF l m).flatMap nE /\ (∀ j, m <= j + 1 -> j < l.length -> (L2.drop (j * 2)).take 2 = nE (at0 l j)) /\ Keep (fun q => q = b) H1 H') (l.length - (i + 1)) ?_ ?_
     ·have ed : ddF l (i + 1) = l.take i := by rw [ddF_succ, if_neg (by rw [hki]; simp), ddF_all i hkeep (by omega)]
      have el : (ddF l (i + 1)).length = i := by rw [ed, List.length_take]; omega
      refine ⟨i + 1, L, by omega, by omega, rfl, ?_, ?_, by omega, hB, rfl, ?_, fun j _ hj => elL j hj, Keep.refl _ _⟩
      ·simp only [go_sem, zS, ↓reduceIte, Za, Zb, Zc, reduceCtorEq, kont_eq, Nat.add_sub_cancel_left]; rfl
      ·simp only [go_sem, zS, ↓reduceIte, Za, Zb, Zc, reduceCtorEq, kont_eq, el, hf]
      ·rw [el, ed, <- fl_take nE_len l i (by omega), <- h3, List.take_take, Nat.min_eq_left (by omega)]
     ·rintro n f2 H2 ⟨m, L2, q1, q2, rfl, q3, q4, q5, q6, q7, q8, q9, q10⟩
      generalize hkd : (ddF l m).length = kd at q4 q5 q8
      simp only [go_sem, zS, ↓reduceIte, Za, Zb, Zc, reduceCtorEq, kont_eq] at q3 q4
      simp only [go_sem, zS, ↓reduceIte, Za, Zb, Zc, reduceCtorEq, kont_eq, q3, q4, hf]
      refine iteV_dec (fun hlt => ?_) (fun hge => ?_)
      ·have hm : m < l.length := by omega
       have hsub : IntKind.i64.wrap (((m - i : Nat) : Int) - 1) = ((m - i - 1 : Nat) : Int) := by rw [IntWalk.i64_in _ (by omega)]; omega
       have r1 := bl_el q6 (j := m) (by omega) (q9 m (by omega) hm)
       have r2 := bl_el q6 (j := m - 1) (by omega) (q9 (m - 1) (by omega) (by omega))
       have e1 : i * 2 + (m - i) * 2 = m * 2 := by omega
       have e2 : i * 2 + (m - i - 1) * 2 = (m - 1) * 2 := by omega
       simp only [go_sem, zS, ↓reduceIte, Za, Zb, Zc, reduceCtorEq, kont_eq, hsub, tn_cast, ldNO_ptr, Nat.zero_add, e1, e2, r1, r2]
       refine ⟨by omega, by omega, ⟨by simp [isI], by simp [isI]⟩, ?_⟩
       have hne : (!decide (at0 l m = at0 l (m - 1))) = keepB l m := by
        unfold keepB
        have : decide (m = 0) = false := by simp; omega
        rw [this, Bool.false_or]; simp
       rw [eqa_nE, hne]
       cases hkm : keepB l m with
       | true =>
        simp only [go_sem, zS, ↓reduceIte, Za, Zb, Zc, reduceCtorEq, kont_eq, r1, okN_ptr, stNH_ptr]
        have hst := q6.okNA (o := kd * 2) (n := 2) (by omega)
        have B3 := q6.stNA (kd * 2) (nE (at0 l m))
        have K3 : Keep (fun q => q = b) H2 (stNA H2 ⟨b, kd * 2, none⟩ (nE (at0 l m))) := (Keep.refl _ _).stNA _ (.inl rfl)
        have eS : ddF l (m + 1) = ddF l m ++ [at0 l m] := by rw [ddF_succ, if_pos hkm]
        have eL : (ddF l (m + 1)).length = kd + 1 := by rw [eS, List.length_append, hkd]; rfl
        refine ⟨by omega, by omega, ⟨hst, fun x hx => by simp at hx; rcases hx with rfl | rfl <;> rfl⟩, l.length - (m + 1), by omega, m + 1, _, by omega, by omega, rfl, ?_, ?_, by omega, B3, ?_, ?_, ?_, q10.trans K3⟩
        ·rw [IntWalk.i64_in _ (by omega), show m + 1 - i = m - i + 1 by omega]; rfl
        ·rw [IntWalk.i64_in _ (by omega), eL]; rfl
        ·rw [wrL_len (by show kd * 2 + 2 <= _; omega), q7]
        ·rw [eL, show (kd + 1) * 2 = kd * 2 + (nE (at0 l m)).length by show _ = _ + 2; omega, wrL_take2 (by omega), q8, eS, List.flatMap_append]
         simp
        ·intro j hj1 hj2
         rw [wrL_drop (by show kd * 2 + 2 <= _; omega) (by omega)]
         exact q9 j (by omega) hj2
       | false =>
        have eS : ddF l (m + 1) = ddF l m := by rw [ddF_succ, if_neg (by rw [hkm]; simp)]
        simp (disch := omega) only [go_sem, zS, ↓reduceIte, Za, Zb, Zc, reduceCtorEq, kont_eq, IntWalk.i64_in, q3, q4]
        refine ⟨l.length - (m + 1), by omega, m + 1, L2, by omega, by omega, rfl, ?_, by rw [eS, hkd], by rw [eS]; omega, q6, q7, by rw [eS, hkd]; exact q8, fun j hj1 hj2 => q9 j (by omega) hj2, q10⟩
        rw [show m + 1 - i = m - i + 1 by omega]; rfl
      ·have hm : m = l.length := by omega
       subst hm
       have hck : ¬ c = kd := by omega
       simp only [go_sem, zS, ↓reduceIte, Za, Zb, Zc, reduceCtorEq, kont_eq, if_neg hck, tn_cast, Nat.zero_add, ite_self]
       have hz : (rep #[Value.int .i64 0, Value.int .i64 0] ((l.length - kd) * 2)).size = (l.length - kd) * 2 := by simp [rep]
       have hza : all1 (rep #[Value.int .i64 0, Value.int .i64 0] ((l.length - kd) * 2)) := by
        intro x hx
        simp only [rep, Array.toList_map, List.mem_map] at hx
        obtain ⟨t, _, rfl⟩ := hx
        have : t % 2 = 0 \/ t % 2 = 1 := by omega
        show (#[Value.int .i64 0, Value.int .i64 0][t % 2]!).oneCell' = true
        rcases this with e | e <;> rw [e] <;> rfl
       have ho := q6.okPut (kd * 2) 0 _ hza (by rw [hz]; omega)
       have B3 := q6.put (kd * 2) 0 (rep #[Value.int .i64 0, Value.int .i64 0] ((l.length - kd) * 2))
       have K3 : Keep (fun q => q = b) H2 (putH H2 (some ⟨b, kd * 2, none⟩) 0 (rep #[Value.int .i64 0, Value.int .i64 0] ((l.length - kd) * 2))) := (Keep.refl _ _).put rfl _ _ (.inl rfl)
       refine ⟨by omega, ho, by omega, ?_, fun q hq => ?_, ?_⟩
       ·have := SlE.bl (k := 2) (enc := nE) B3 (l := ddF l l.length) (c := c) ?_ ?_ ?_
        ·rw [hkd] at this; exact this
        ·rw [hkd, Nat.add_zero, wrL_take (Nat.le_refl _) (by omega)]; exact q8
        ·rw [hkd, Nat.add_zero, wrL_len (by rw [Array.length_toList, hz]; omega)]; omega
        ·omega
       ·exact hq.1
       ·exact q10.trans K3
   ·have : i = l.length := by omega
    subst this
    refine ⟨?_, fun q hq => hv.slB hq, Keep.refl _ _⟩
    rw [ddF_all _ hkeep (Nat.le_refl _), List.take_length]
    exact hs
end Go.Mg
namespace Go.Mg
open Go Go.RowKit
set_option linter.all false
set_option maxRecDepth 100000
def c_iidx (ι : Ids) : S :=
 .seq (.reg [.p (.v 4) (.mv (.c (.int .i64 0)))]) (.seq (.seq (.reg [.p (.t 6) (.mv (.v 0)), .p (.v 7) (.m (.lenl (.t 6))), .p (.v 8) (.mv (.c (.int .i64 0)))]) (.blk 0 (.loop (.seq (.reg [.p (.v 9)
 (.cm .lss .i64 (.v 8) (.v 7))]) (.seq (.ite (.v 9) .skip (.exit 0)) (.seq (.blk 1 (.seq (.reg [.p (.t 10) (.mv (.v 8)), .p (.v 5) (.mv (.t 10))]) (.seq (.reg [.p (.t 11) (.mv (.v 1)), .p (.t 12) (.mv
 (.v 0)), .p (.t 13) (.mv (.v 5)), .p (.t 14) (.is 1 (.t 12) (.t 13)), .p (.t 15) (.ld (.t 14)), .p (.v 16) (.cm .eql .i64 (.t 11) (.t 15))]) (.ite (.v 16) (.seq (.reg [.p (.t 17) (.mv (.v 5)), .p (.v
 4) (.mv (.t 17))]) .ret) .skip)))) (.reg [.p (.t 18) (.ar .add .i64 (.v 8) (.c (.int .i64 1))), .p (.v 8) (.mv (.t 18))]))))))) (.seq (.reg [.p (.v 4) (.mv (.c (.int .i64 (-1))))]) .ret))
def r_iidx : List RV := [.t 4]
def c_osort (ι : Ids) : S :=
 .seq (.reg [.p (.v 2) (.mv (.c (.bool false)))]) (.seq (.reg [.p (.t 9) (.mv (.v 0)), .p (.t 10) (.nil (.t 9)), .p (.t 11) (.fa 0 (.t 10)), .p (.t 12) (.ld (.t 11)), .e (.t 13) (.mkS (ι.t 26) 1 8
 #[.int .i64 0] (.t 12) (.t 12)), .p (.v 3) (.mv (.t 13))]) (.seq (.seq (.reg [.p (.t 14) (.mv (.v 0)), .p (.t 15) (.nil (.t 14)), .p (.t 16) (.fa 1 (.t 15)), .p (.v 17) (.ld (.t 16)), .p (.v 18) (.m
 (.lenl (.v 17))), .p (.v 19) (.mv (.c (.int .i64 0)))]) (.blk 0 (.loop (.seq (.reg [.p (.v 20) (.cm .lss .i64 (.v 19) (.v 18))]) (.seq (.ite (.v 20) .skip (.exit 0)) (.seq (.blk 1 (.seq (.reg [.p (.t
 21) (.is 2 (.v 17) (.v 19)), .p (.t 22) (.m (.ldn 2 (.t 21))), .e (.v 5) (.new (ι.t 194) #[.int .i64 0, .int .i64 0]), .e .no (.stn 2 (.v 5) (.t 22))]) (.reg [.p (.t 23) (.mv (.v 3)), .p (.t 24) (.ia
 2 1 (.v 5) (.c (.int .i64 1))), .p (.t 25) (.ld (.t 24)), .p (.t 26) (.is 1 (.t 23) (.t 25)), .p (.t 27) (.ld (.t 26)), .p (.t 28) (.ar .add .i64 (.t 27) (.c (.int .i64 1))), .p (.t 29) (.is 1 (.t 23)
 (.t 25)), .e .no (.st (.t 29) (.t 28))]))) (.reg [.p (.t 30) (.ar .add .i64 (.v 19) (.c (.int .i64 1))), .p (.v 19) (.mv (.t 30))]))))))) (.seq (.blk 2 (.loop (.seq (.seq (.reg [.p (.t 31) (.mv (.v
 0)), .p (.t 32) (.nil (.t 31)), .p (.t 33) (.fa 4 (.t 32)), .p (.t 34) (.ld (.t 33)), .p (.t 35) (.m (.lenl (.t 34))), .p (.t 36) (.mv (.v 0)), .p (.t 37) (.nil (.t 36)), .p (.t 38) (.fa 0 (.t 37)),
 .p (.t 39) (.ld (.t 38)), .p (.v 40) (.cm .lss .i64 (.t 35) (.t 39))]) (.ite (.v 40) .skip (.exit 2))) (.blk 3 (.seq (.reg [.p (.t 41) (.mv (.v 3)), .e (.t 42) (.call (ι.f 157) [.t 41, .c (.int .i64
 0)]), .p (.v 6) (.mv (.t 42))]) (.seq (.seq (.reg [.p (.t 43) (.mv (.v 6)), .p (.v 44) (.cm .lss .i64 (.t 43) (.c (.int .i64 0)))]) (.ite (.v 44) (.seq (.reg [.p (.v 2) (.mv (.c (.bool false)))])
 .ret) .skip)) (.seq (.reg [.p (.t 45) (.mv (.v 3)), .p (.t 46) (.mv (.v 6)), .p (.t 47) (.is 1 (.t 45) (.t 46)), .e .no (.st (.t 47) (.c (.int .i64 (-1))))]) (.seq (.reg [.p (.t 48) (.mv (.v 0)), .p
 (.t 49) (.mv (.v 0)), .p (.t 50) (.nil (.t 49)), .p (.t 51) (.fa 4 (.t 50)), .p (.t 52) (.ld (.t 51)), .p (.t 53) (.mv (.v 6)), .e (.t 54) (.bldF (ι.t 26) 1 1 [.t 53]), .e (.t 55) (.app false (ι.t 26)
 1 8 #[.int .i64 0] (.t 52) (.t 54)), .p (.t 56) (.nil (.t 48)), .p (.t 57) (.fa 4 (.t 56)), .e .no (.st (.t 57) (.t 55))]) (.seq (.reg [.p (.t 58) (.mv (.v 0)), .p (.t 59) (.nil (.t 58)), .p (.t 60)
 (.fa 1 (.t 59)), .p (.v 61) (.ld (.t 60)), .p (.v 62) (.m (.lenl (.v 61))), .p (.v 63) (.mv (.c (.int .i64 0)))]) (.blk 4 (.loop (.seq (.reg [.p (.v 64) (.cm .lss .i64 (.v 63) (.v 62))]) (.seq (.ite
 (.v 64) .skip (.exit 4)) (.seq (.blk 5 (.seq (.reg [.p (.t 65) (.is 2 (.v 61) (.v 63)), .p (.t 66) (.m (.ldn 2 (.t 65))), .e (.v 8) (.new (ι.t 194) #[.int .i64 0, .int .i64 0]), .e .no (.stn 2 (.v 8)
 (.t 66))]) (.seq (.reg [.p (.t 67) (.ia 2 1 (.v 8) (.c (.int .i64 0))), .p (.t 68) (.ld (.t 67)), .p (.t 69) (.mv (.v 6)), .p (.v 70) (.cm .eql .i64 (.t 68) (.t 69))]) (.ite (.v 70) (.reg [.p (.t 71)
 (.mv (.v 3)), .p (.t 72) (.ia 2 1 (.v 8) (.c (.int .i64 1))), .p (.t 73) (.ld (.t 72)), .p (.t 74) (.is 1 (.t 71) (.t 73)), .p (.t 75) (.ld (.t 74)), .p (.t 76) (.ar .sub .i64 (.t 75) (.c (.int .i64
 1))), .p (.t 77) (.is 1 (.t 71) (.t 73)), .e .no (.st (.t 77) (.t 76))]) .skip)))) (.reg [.p (.t 78) (.ar .add .i64 (.v 63) (.c (.int .i64 1))), .p (.v 63) (.mv (.t 78))]))))))))))))))) (.seq (.reg
 [.p (.v 2) (.mv (.c (.bool true)))]) .ret))))
def r_osort : List RV := [.t 2]
def IIdx1Spec (P : Program) (k : FuncId) : Prop := ∀ (l : List Int) (v : Value) (x : Int) (H : Hp), SlR H v (iL l) -> l.length <= 1000000 →
 CallsM P k #[v, .int .i64 x] H fun r H' => ((r = .int .i64 (-1) /\ x ∉ l) \/ ∃ i : Nat, r = .int .i64 (i : Int) /\ i < l.length /\ l.getD i 0 = x /\ ∀ j < i, l.getD j 0 ≠ x) /\ H' = H
theorem iidx_ok {P : Program} {ι : Ids} {k : FuncId} (hk : FnIs P k (c_iidx ι) r_iidx 2) : IIdx1Spec P k := by
 intro l v x H hv hl1
 refine calls_of_vc hk (args := [_, _]) (by simp) ?_
 unfold c_iidx r_iidx
 simp only [go_sem, zS, ↓reduceIte, Za, Zb, Zc, reduceCtorEq, kont_eq, hv.isSl, hv.len, iL_len]
 refine vc_loop [9, 5, 16, 4, 8] rfl (fun n f H' => ∃ i : Nat, i <= l.length /\ n = l.length - i /\ f 8 = .int .i64 i /\ (∀ a < i, l.getD a 0 ≠ x) /\ H' = H) l.length
  ⟨0, by omega, by omega, by simp only [go_sem, zS, ↓reduceIte, Za, Zb, Zc, reduceCtorEq, kont_eq]; rfl, fun a ha => by omega, rfl⟩ ?_
 rintro n f H1 ⟨i, hi, rfl, hf, hx, rfl⟩
 simp only [go_sem, zS, ↓reduceIte, Za, Zb, Zc, reduceCtorEq, kont_eq] at hf
 simp only [go_sem, zS, ↓reduceIte, Za, Zb, Zc, reduceCtorEq, hf]
 refine iteV_dec (fun hlt => ?_) (fun hge => ?_)
 ·have hlt : i < l.length := by omega
  obtain ⟨b, o, c, rfl, hlm, hc⟩ := hv.cells (by intro e; have h := congrArg List.length e; rw [iL_len, List.length_nil] at h; omega)
  rw [iL_len] at hc hlm
  have hci := hc i hlt
  rw [iL_get _ _ hlt] at hci
  by_cases h : x = l.getD i 0
  ·have e : (x == l.getD i 0) = true := by simpa using h
   simp only [go_sem, zS, ↓reduceIte, Za, Zb, Zc, reduceCtorEq, kont_eq, hf, iL_len, tn_cast, Nat.mul_one, hci, e]
   exact ⟨by omega, .inr ⟨i, rfl, hlt, h.symm, hx⟩⟩
  ·have e : (x == l.getD i 0) = false := by simpa using h
   simp (disch := omega) only [go_sem, zS, ↓reduceIte, Za, Zb, Zc, reduceCtorEq, kont_eq, hf, iL_len, tn_cast, Nat.mul_one, hci, e, IntWalk.i64_in]
   refine ⟨by omega, l.length - (i + 1), by omega, i + 1, by omega, rfl, by simp, fun a ha => ?_⟩
   by_cases e2 : a = i
   ·subst e2; exact fun h' => h h'.symm
   ·exact hx a (by omega)
 ·refine .inl fun h => ?_
  obtain ⟨a, ha, e⟩ := List.getElem_of_mem h
  exact hx a (by omega) (by rw [List.getD_eq_getElem?_getD, List.getElem?_eq_getElem ha]; exact e)
def fnL (n : Nat) (f : Nat -> Int) : List Int := (List.range n).map f
theorem fnL_len (n : Nat) (f : Nat -> Int) : (fnL n f).length = n := by simp [fnL]
theorem fnL_get {n i : Nat} (f : Nat -> Int) (h : i < n) (d : Int) : (fnL n f).getD i d = f i := by simp [fnL, List.getD_eq_getElem?_getD, h]
theorem fnL_congr {n : Nat} {f g : Nat -> Int} (h : ∀ i < n, f i = g i) : fnL n f = fnL n g := List.map_congr_left fun i hi => h i (List.mem_range.1 hi)
theorem fnL_set {n j : Nat} {f : Nat -> Int} {x : Int} (h : j < n) : (fnL n f).set j x = fnL n fun i => if i = j then x else f i := by
 refine List.ext_getElem (by simp [fnL]) fun i h1 h2 => ?_
 rw [List.getElem_set]
 simp only [fnL, List.getElem_map, List.getElem_range]
 by_cases e : j = i
 ·subst e; simp
 ·have : ¬ i = j := fun h => e h.symm
  simp [e, this]
theorem fnL_rep (n : Nat) (x : Int) : List.replicate n x = fnL n fun _ => x := by simp [fnL, List.map_const']
theorem fnL_cell {H : Hp} {b n i : Nat} {f : Nat -> Int} (h : Bl H b (iL (fnL n f))) (hi : i < n) : cell H ⟨b, i, none⟩ = some (.int .i64 (f i)) := by
 rw [h.cell, iL_get _ _ (by rw [fnL_len]; exact hi), fnL_get _ hi]
theorem gridP_len (n : Nat) (R : Nat -> Nat -> Bool) : (gridP n R).length <= n * n := by
 unfold gridP
 have : ∀ m, ((List.range m).flatMap (rowP n R)).length <= m * n := fun m => by
  induction m with
  | zero => simp
  | succ m ih =>
   rw [List.range_succ, List.flatMap_append, List.length_append, Nat.succ_mul]
   have : ((List.flatMap (rowP n R) [m])).length <= n := by
    simp only [List.flatMap_cons, List.flatMap_nil, List.append_nil, rowP, List.length_map]
    have := List.length_filter_le (R m) (List.range n)
    simpa using this
   omega
 exact this n
def cntP (L : List NP) (i b : Nat) (q : Nat -> Bool) : Nat := (L.take i).countP fun p => decide (p.2 = b) && q p.1
theorem cntP_succ {L : List NP} {i : Nat} (h : i < L.length) (b : Nat) (q : Nat -> Bool) : cntP L (i + 1) b q = cntP L i b q + if (decide ((at0 L i).2 = b) && q (at0 L i).1) = true then 1 else 0 := by
 unfold cntP
 rw [List.take_succ_eq_append_getElem h, List.countP_append, List.countP_cons, List.countP_nil, at0_eq h, Nat.zero_add]
theorem cntP_le (L : List NP) (i b : Nat) (q : Nat -> Bool) : cntP L i b q <= L.length := by
 unfold cntP
 refine Nat.le_trans List.countP_le_length ?_
 rw [List.length_take]; omega
theorem cntP_all {n : Nat} {R : Nat -> Nat -> Bool} {b : Nat} (q : Nat -> Bool) (hb : b < n) : cntP (gridP n R) (gridP n R).length b q = cn n fun a => R a b && q a := by
 unfold cntP
 rw [List.take_length]
 exact countP_grid n R b q hb
def lfF (n : Nat) (R : Nat -> Nat -> Bool) (s : List Nat) (b : Nat) : Int := if b ∈ s then -1 else (cn n fun a => R a b && !decide (a ∈ s) : Nat)
theorem lfF_zero {n : Nat} {R : Nat -> Nat -> Bool} {s : List Nat} {b : Nat} : lfF n R s b = 0 ↔ rdy n R s b = true := by
 unfold lfF
 rw [rdy_iff]
 by_cases h : b ∈ s
 ·simp [h]
 ·rw [if_neg h]
  constructor
  ·intro e
   have e : cn n (fun a => R a b && !decide (a ∈ s)) = 0 := by omega
   refine ⟨h, fun a ha hr => ?_⟩
   have := cn_pos_iff.1 e a ha
   rw [hr, Bool.true_and] at this
   simpa using this
  ·rintro ⟨_, h2⟩
   have : cn n (fun a => R a b && !decide (a ∈ s)) = 0 := cn_pos_iff.2 fun a ha => by
    cases hr : R a b with
    | false => rfl
    | true => simp [h2 a ha hr]
   omega
theorem lfF_step {n : Nat} {R : Nat -> Nat -> Bool} (hR : Rng n R) {s : List Nat} (hs : Pre n R s) {k : Nat} (hk : nxt n R s = some k) (b : Nat) (hb : b < n) :
  (if b = k then -1 else lfF n R s b) - (cn n fun a => R a b && decide (a = k) : Nat) = lfF n R (s ++ [k]) b := by
 obtain ⟨h1, h2, _⟩ := nxt_some hk
 obtain ⟨h3, h4⟩ := rdy_iff.1 h2
 have e1 : cn n (fun a => R a b && decide (a = k)) = if R k b = true then 1 else 0 := by
  cases hr : R k b with
  | false =>
   rw [if_neg (by simp)]
   refine cn_pos_iff.2 fun a ha => ?_
   by_cases e : a = k
   ·subst e; simp [hr]
   ·simp [e]
  | true =>
   rw [if_pos rfl, cn_congr (q := fun a => decide (a = k)) fun a ha => by
    by_cases e : a = k
    ·subst e; simp [hr]
    ·simp [e]]
   exact cn_one n k h1
 rw [e1]
 unfold lfF
 by_cases e : b = k
 ·subst e
  have : R b b = false := by
   cases hr : R b b with
   | false => rfl
   | true => exact absurd (h4 b hb hr) h3
  simp [this]
 ·rw [if_neg e]
  by_cases hbs : b ∈ s
  ·have : R k b = false := by
    cases hr : R k b with
    | false => rfl
    | true => exact absurd (hs.mem hR hbs hr) h3
   simp [this, hbs]
  ·have hm : b ∉ s ++ [k] := by simp [hbs, e]
   rw [if_neg hbs, if_neg hm]
   have e2 : cn n (fun a => R a b && !decide (a ∈ s ++ [k])) = cn n fun a => (R a b && !decide (a ∈ s)) && !decide (a = k) := cn_congr fun a ha => by
    by_cases e : a = k
    ·subst e; simp
    ·simp [e]
   rw [e2]
   cases hr : R k b with
   | false =>
    rw [cn_congr (p := fun a => (R a b && !decide (a ∈ s)) && !decide (a = k)) (q := fun a => R a b && !decide (a ∈ s)) fun a ha => by
     by_cases e : a = k
     ·subst e; simp [hr]
     ·simp [e]]
    simp
   | true =>
    have := cn_del (n := n) (p := fun a => R a b && !decide (a ∈ s)) h1 (by simp [hr, h3])
    simp only [if_true]
    omega
def iN (s : List Nat) : List Value := iL (s.map fun n : Nat => (n : Int))
theorem iN_len (s : List Nat) : (iN s).length = s.length := by simp [iN, iL]
theorem iN_app (s t : List Nat) : iN (s ++ t) = iN s ++ iN t := by simp [iN, iL]
theorem fnL_len8 (n : Nat) (f : Nat -> Int) : (iL (fnL n f)).length = n := by rw [iL_len, fnL_len]
def OSortSpec (P : Program) (k : FuncId) : Prop := ∀ (n : Nat) (R : Nat -> Nat -> Bool) (b : Nat) (pv av bv : Value) (H : Hp), n <= 256 -> Rng n R -> Bl H b [.int .i64 (n : Int), pv, av, bv, .slice none 0 0] -> SlE nE 2 H pv (gridP n R) -> (∀ q, slB pv q -> q ≠ b) →
 CallsM P k #[.pointer (some ⟨b, 0, none⟩)] H fun r H' => r = .bool (decide ((srt n R).length = n)) /\ (∃ sv, Bl H' b [.int .i64 (n : Int), pv, av, bv, sv] /\ OwS H' sv (iN (srt n R)) /\ ∀ q, ownB sv q -> H.size <= q) /\ Keep (fun q => q = b) H H'
theorem osort_ok {P : Program} {ι : Ids} {k : FuncId} (hk : FnIs P k (c_osort ι) r_osort 1) (hi : IIdx1Spec P (ι.f 157)) : OSortSpec P k := by
 intro n R b pv av bv H hn hR hB hp hpb
 refine calls_of_vc hk (args := [_]) (by simp) ?_
 unfold c_osort r_osort
 have hblt := hB.lt
 have hgl : (gridP n R).length <= 65536 := Nat.le_trans (gridP_len n R) (Nat.mul_le_mul hn hn)
 have hc0 : cell H ⟨b, 0, none⟩ = some (.int .i64 (n : Int)) := by rw [hB.cell]; rfl
 simp only [go_sem, zS, ↓reduceIte, Za, Zb, Zc, reduceCtorEq, hc0, tn_cast]
 refine ⟨⟨by omega, by omega, by omega, by unfold maxLen; omega⟩, ?_⟩
 refine kont_news fun H1 bl e1 z1 B1 K1 => ?_
 rw [rep_one, iL_rep, fnL_rep] at B1
 have s1 := K1.size
 have hB1 := K1.bl hB (by simp)
 have hc1 : cell H1 ⟨b, 1, none⟩ = some pv := by rw [hB1.cell]; rfl
 simp only [go_sem, zS, ↓reduceIte, Za, Zb, Zc, reduceCtorEq, kont_eq, hc1, hp.isSl, hp.lenS, hp.len]
 generalize hL : gridP n R = L at hp hgl ⊢
 have hpairs : ∀ i, i < L.length -> (at0 L i).1 < n /\ (at0 L i).2 < n /\ R (at0 L i).1 (at0 L i).2 = true := fun i hi => by
  have : at0 L i ∈ gridP n R := by rw [hL, at0_eq hi]; exact List.getElem_mem _
  exact mem_gridP.1 this
 refine vc_loop [20, 5, 19] rfl (fun m f H' => ∃ i : Nat, i <= L.length /\ m = L.length - i /\ f 19 = .int .i64 i /\ Bl H' bl (iL (fnL n fun c => (cntP L i c fun _ => true : Nat))) /\ Keep (fun q => q = bl) H1 H') L.length ?_ ?_
 ·exact ⟨0, by omega, by omega, by simp only [go_sem, zS, ↓reduceIte, Za, Zb, Zc, reduceCtorEq, kont_eq]; rfl, B1, Keep.refl _ _⟩
 rintro m f H2 ⟨i, hil, rfl, hf, B2, K2⟩
 have s2 := K2.size
 simp only [go_sem, zS, ↓reduceIte, Za, Zb, Zc, reduceCtorEq, kont_eq] at hf
 simp only [go_sem, zS, ↓reduceIte, Za, Zb, Zc, reduceCtorEq, hf]
 refine iteV_dec (fun hlt => ?_) (fun hge => ?_)
 ·have hlt : i < L.length := by omega
  have hp2 := (hp.keep K1 (by simp)).keep K2 (fun q hq e => by have := hp.old hq; omega)
  obtain ⟨pb, po, pc, rfl, hpq, hld⟩ := hp2.elem nE_len hlt
  obtain ⟨q1, q2, q3⟩ := hpairs i hlt
  rw [<- at0_eq hlt] at hld
  have hld' : ldNA H2 ⟨pb, po + i * 2, none⟩ 2 = some #[.int .i64 ((at0 L i).1 : Int), .int .i64 ((at0 L i).2 : Int)] := hld
  simp only [go_sem, zS, ↓reduceIte, Za, Zb, Zc, reduceCtorEq, zF, tn_cast, ldNO_ptr, hld']
  refine ⟨by omega, ?_⟩
  refine kont_new fun H3 b3 e3 z3 B3 K3 => ?_
  have s3 := K3.size
  have hst := B3.okNA (o := 0) (n := 2) (by simp)
  have B4 := B3.stNA 0 [.int .i64 ((at0 L i).1 : Int), .int .i64 ((at0 L i).2 : Int)]
  have K4 : Keep (fun q => q = b3) H3 (stNA H3 ⟨b3, 0, none⟩ [.int .i64 ((at0 L i).1 : Int), .int .i64 ((at0 L i).2 : Int)]) := (Keep.refl _ _).stNA _ (.inl rfl)
  simp only [go_sem, zS, ↓reduceIte, Za, Zb, Zc, reduceCtorEq, kont_eq, zF, hst]
  generalize stNA H3 ⟨b3, 0, none⟩ [.int .i64 ((at0 L i).1 : Int), .int .i64 ((at0 L i).2 : Int)] = H4 at B4 K4 ⊢
  have s4 := K4.size
  have hc4 : cell H4 ⟨b3, 1, none⟩ = some (.int .i64 ((at0 L i).2 : Int)) := by rw [B4.cell]; rfl
  have B24 := K4.bl (K3.bl B2 (by simp)) (by have := B2.lt; omega)
  have hcl := fnL_cell B24 q2
  have hle := cntP_le L i (at0 L i).2 fun _ => true
  have hst5 := B24.okSt (o := (at0 L i).2) (by rw [fnL_len8]; exact q2)
  simp (disch := omega) only [go_sem, zS, ↓reduceIte, Za, Zb, Zc, reduceCtorEq, kont_eq, hf, hc4, tn_cast, Nat.mul_one, Nat.zero_add, hcl, hst5, IntWalk.i64_in]
  refine ⟨fun x hx => by simp at hx; rcases hx with rfl | rfl <;> rfl, by omega, by omega, by omega, L.length - (i + 1), by omega, i + 1, by omega, by omega, by rfl, ?_, ?_⟩
  ·have B5 := B24.setc (at0 L i).2 (.int .i64 ((cntP L i (at0 L i).2 (fun _ => true) : Int) + 1))
   rw [iL_set, fnL_set q2] at B5
   rw [show (fnL n fun c => ((cntP L (i + 1) c fun _ => true : Nat) : Int)) = fnL n fun c => if c = (at0 L i).2 then (cntP L i (at0 L i).2 (fun _ => true) : Int) + 1 else (cntP L i c (fun _ => true) : Int) from fnL_congr fun c hc => by
    rw [cntP_succ hlt]
    by_cases e : c = (at0 L i).2
    ·subst e; simp
    ·have : ¬ (at0 L i).2 = c := fun h => e h.symm
     simp [e, this]]
   exact B5
  ·exact ((K2.trans (K3.mono fun _ _ h => h.elim)).trans' K4 (fun j hj h => by omega)).trans ((Keep.refl _ _).setc _ (.inl rfl))
 ·have : i = L.length := by omega
  subst this
  have e0 : (fnL n fun c => ((cntP L L.length c fun _ => true : Nat) : Int)) = fnL n (lfF n R []) := fnL_congr fun c hc => by
   rw [<- hL, cntP_all _ hc]
   unfold lfF
   rw [if_neg (by simp)]
   congr 2
  rw [e0] at B2
  have hB2 := K2.bl hB1 (by omega)
  have hgl' := hgl
  refine vc_loop [40, 6, 44, 2, 61, 62, 63, 64, 8, 70] rfl (fun m f H' => ∃ (s : List Nat) (sv : Value), Pre n R s /\ m = n - s.length /\ Bl H' b [.int .i64 (n : Int), pv, av, bv, sv] /\ OwS H' sv (iN s) /\ (∀ q, ownB sv q -> H.size <= q /\ q ≠ bl) ∧
    Bl H' bl (iL (fnL n (lfF n R s))) /\ Keep (fun q => q = b \/ H.size <= q) H1 H') n ?_ ?_
  ·exact ⟨[], _, Pre.nil n R, rfl, hB2, OwS.nil _, fun q h => h.elim, B2, K2.mono fun q _ h => .inr (by omega)⟩
  rintro m g H3 ⟨s, sv, hs, rfl, B3, O3, own3, C3, K3⟩
  have s3 := K3.size
  have hsl := nodup_cn hs.nd hs.lt
  have hsn : s.length <= n := by have := cn_le n fun k => decide (k ∈ s); omega
  have c0 : cell H3 ⟨b, 0, none⟩ = some (.int .i64 (n : Int)) := by rw [B3.cell]; rfl
  have c4 : cell H3 ⟨b, 4, none⟩ = some sv := by rw [B3.cell]; rfl
  simp only [go_sem, zS, ↓reduceIte, Za, Zb, Zc, reduceCtorEq, kont_eq, c0, c4, O3.sl.isSl, O3.sl.len, iN_len]
  refine iteV_dec (fun hlt => ?_) (fun hge => ?_)
  ·have hlt : s.length < n := by omega
   have hC : SlR H3 (.slice (some ⟨bl, 0, none⟩) n n) (iL (fnL n (lfF n R s))) := by
    have := SlR.bl C3 0 n n (Nat.le_refl _) (by rw [fnL_len8]; omega)
    rwa [List.drop_zero, List.take_of_length_le (by rw [fnL_len8]; exact Nat.le_refl _)] at this
   refine (hi _ _ 0 H3 hC (by rw [fnL_len]; omega)).mono ?_
   rintro r H4 ⟨⟨rfl, hno⟩ | ⟨k, rfl, hk1, hk2, hk3⟩, rfl⟩
   ·have e : decide ((-1 : Int) < 0) = true := rfl
    simp only [go_sem, zS, ↓reduceIte, Za, Zb, Zc, reduceCtorEq, kont_eq, e]
    have hno' : nxt n R s = none := by
     cases hx : nxt n R s with
     | none => rfl
     | some k =>
      obtain ⟨h1, h2, _⟩ := nxt_some hx
      exact absurd (List.mem_map.2 ⟨k, List.mem_range.2 h1, lfF_zero.2 h2⟩) hno
    have hsrt := hs.eq hR (.inr hno')
    refine ⟨?_, ⟨sv, B3, by rw [<- hsrt]; exact O3, fun q hq => (own3 q hq).1⟩, ?_⟩
    ·rw [<- hsrt, decide_eq_false (by omega)]
    ·exact (K1.any (W := fun q => q = b)).trans' K3 (fun i hi h => by omega)
   ·have hkn : k < n := by rw [fnL_len] at hk1; exact hk1
    rw [fnL_get _ hkn] at hk2
    have hk : nxt n R s = some k := nxt_eq hkn (lfF_zero.1 hk2) fun j hj => by
     have := hk3 j hj
     rw [fnL_get _ (by omega)] at this
     cases hr : rdy n R s j with
     | false => rfl
     | true => exact absurd (lfF_zero.2 hr) this
    have e : decide ((k : Int) < 0) = false := by rw [decide_eq_false_iff_not]; omega
    have hst := C3.okSt (o := k) (by rw [fnL_len8]; exact hkn)
    have C5 := C3.setc k (.int .i64 (-1))
    rw [iL_set, fnL_set hkn] at C5
    have M5 : Keep (fun q => q = bl) H4 (setc H4 ⟨bl, k, none⟩ (.int .i64 (-1))) := (Keep.refl _ _).setc _ (.inl rfl)
    rw [kont_eq]
    simp only [go_sem, zS, ↓reduceIte, Za, Zb, Zc, reduceCtorEq, e, tn_cast, Nat.mul_one, Nat.zero_add, hst]
    refine ⟨by omega, ?_⟩
    rw [kont_eq]
    generalize setc H4 ⟨bl, k, none⟩ (.int .i64 (-1)) = H5 at C5 M5 ⊢
    have s5 := M5.size
    have B5 := M5.bl B3 (by omega)
    have O5 := O3.keep M5 (fun q hq => (own3 q hq).2)
    have c5 : cell H5 ⟨b, 4, none⟩ = some sv := by rw [B5.cell]; rfl
    simp only [go_sem, zS, ↓reduceIte, Za, Zb, Zc, reduceCtorEq, zF, c5]
    refine kont_news fun H6 b6 e6 z6 B6 K6 => ?_
    have s6 := K6.size
    have B6' : Bl H6 b6 (iN [k]) := B6
    simp only [go_sem, zS, ↓reduceIte, Za, Zb, Zc, reduceCtorEq, kont_eq]
    have hs6 : SlR H6 (.slice (some ⟨b6, 0, none⟩) 1 1) (iN [k]) := SlR.bl B6' 0 1 1 (by omega) (by simp [iN_len])
    refine app_sl (l := iN s) (m := iN [k]) (O5.keep K6 (by simp)) hs6 (iL_all1 _) rfl (by unfold maxLen; rw [iN_len, iN_len]; simp; omega) (by rw [iN_len, iN_len]; simp; omega) fun v' H7 O7 M7 own7 => ?_
    have s7 := M7.size
    rw [<- iN_app] at O7
    have own8 : ∀ q, ownB v' q -> H.size <= q /\ q ≠ bl := fun q hq => by
     rcases own7 q hq with h | h
     ·exact own3 q h
     ·have := C5.lt
      exact ⟨by omega, by omega⟩
    have nob : ∀ q, ownB sv q -> q ≠ b := fun q hq => by have := (own3 q hq).1; omega
    have B7 := M7.bl (K6.bl B5 (by simp)) (fun h => nob _ h rfl)
    have C7 := M7.bl (K6.bl C5 (by simp)) (fun h => (own3 _ h).2 rfl)
    have hst7 := B7.okSt (o := 4) (by simp)
    obtain ⟨va, vn, vc, rfl⟩ := O7.shape
    have B8 := B7.setc 4 (.slice va vn vc)
    have M8 : Keep (fun q => q = b) H7 (setc H7 ⟨b, 4, none⟩ (.slice va vn vc)) := (Keep.refl _ _).setc _ (.inl rfl)
    have K78 : Keep (fun q => q = b \/ H.size <= q) H1 H7 := ((K3.trans (M5.mono fun q _ h => .inr (by omega))).trans (K6.mono fun _ _ h => h.elim)).trans (M7.mono fun q _ h => .inr (own3 q h).1)
    simp only [go_sem, zS, ↓reduceIte, Za, Zb, Zc, reduceCtorEq, kont_eq, hst7]
    generalize setc H7 ⟨b, 4, none⟩ (.slice va vn vc) = H8 at B8 M8 ⊢
    have s8 := M8.size
    have B8' : Bl H8 b [.int .i64 (n : Int), pv, av, bv, .slice va vn vc] := B8
    have O8 := O7.keep M8 (fun q hq e => by have := (own8 q hq).1; omega)
    have C8 := M8.bl C7 (by omega)
    have c1 : cell H8 ⟨b, 1, none⟩ = some pv := by rw [B8'.cell]; rfl
    have K8 := K78.trans (M8.mono fun q _ h => .inl h)
    simp only [go_sem, zS, ↓reduceIte, Za, Zb, Zc, reduceCtorEq, kont_eq, c1, hp.isSl, hp.lenS, hp.len]
    refine vc_loop [64, 8, 70, 63] rfl (fun m f H' => ∃ i : Nat, i <= L.length /\ m = L.length - i /\ f 63 = .int .i64 i /\ Bl H' bl (iL (fnL n fun c => (if c = k then -1 else lfF n R s c) - (cntP L i c fun a => decide (a = k) : Nat))) /\ Keep (fun q => q = bl) H8 H') L.length ?_ ?_
    ·refine ⟨0, by omega, by omega, by simp only [go_sem, zS, ↓reduceIte, Za, Zb, Zc, reduceCtorEq, kont_eq]; rfl, ?_, Keep.refl _ _⟩
     rw [fnL_congr (g := fun i => if i = k then -1 else lfF n R s i) fun c hc => by simp [cntP]]
     exact C8
    rintro m f H9 ⟨i, hil, rfl, hf, C9, K9⟩
    have s9 := K9.size
    simp only [go_sem, zS, ↓reduceIte, Za, Zb, Zc, reduceCtorEq, kont_eq] at hf
    simp only [go_sem, zS, ↓reduceIte, Za, Zb, Zc, reduceCtorEq, hf]
    refine iteV_dec (fun hlt => ?_) (fun hge => ?_)
    ·have hlt : i < L.length := by omega
     have hp9 : SlE nE 2 H9 pv L := hp.keep (((K1.any (W := fun q => q = b \/ H.size <= q)).trans K8).trans (K9.mono fun q _ h => .inr (by omega))) (fun q hq h => by
      have := hp.old hq
      rcases h with h | h
      ·exact hpb q hq h
      ·omega)
     obtain ⟨pb, po, pc, rfl, hpq, hld⟩ := hp9.elem nE_len hlt
     obtain ⟨q1, q2, q3⟩ := hpairs i hlt
     rw [<- at0_eq hlt] at hld
     have hld' : ldNA H9 ⟨pb, po + i * 2, none⟩ 2 = some #[.int .i64 ((at0 L i).1 : Int), .int .i64 ((at0 L i).2 : Int)] := hld
     simp only [go_sem, zS, ↓reduceIte, Za, Zb, Zc, reduceCtorEq, zF, tn_cast, ldNO_ptr, hld']
     refine ⟨by omega, ?_⟩
     refine kont_new fun HA bA eA zA BA KA => ?_
     have sA := KA.size
     have hstA := BA.okNA (o := 0) (n := 2) (by simp)
     have BB := BA.stNA 0 [.int .i64 ((at0 L i).1 : Int), .int .i64 ((at0 L i).2 : Int)]
     have KB : Keep (fun q => q = bA) HA (stNA HA ⟨bA, 0, none⟩ [.int .i64 ((at0 L i).1 : Int), .int .i64 ((at0 L i).2 : Int)]) := (Keep.refl _ _).stNA _ (.inl rfl)
     simp only [go_sem, zS, ↓reduceIte, Za, Zb, Zc, reduceCtorEq, zF, hstA]
     refine ⟨fun x hx => by simp at hx; rcases hx with rfl | rfl <;> rfl, ?_⟩
     rw [kont_eq]
     generalize stNA HA ⟨bA, 0, none⟩ [.int .i64 ((at0 L i).1 : Int), .int .i64 ((at0 L i).2 : Int)] = HB at BB KB ⊢
     have sB := KB.size
     have cB0 : cell HB ⟨bA, 0, none⟩ = some (.int .i64 ((at0 L i).1 : Int)) := by rw [BB.cell]; rfl
     have cB1 : cell HB ⟨bA, 1, none⟩ = some (.int .i64 ((at0 L i).2 : Int)) := by rw [BB.cell]; rfl
     have C10 := KB.bl (KA.bl C9 (by simp)) (by have := C9.lt; omega)
     have K10 : Keep (fun q => q = bl) H8 HB := (K9.trans (KA.mono fun _ _ h => h.elim)).trans' KB (fun j hj h => by omega)
     have hcl := fnL_cell C10 q2
     have hstl := C10.okSt (o := (at0 L i).2) (by rw [fnL_len8]; exact q2)
     have hc1 := cntP_le L i (at0 L i).2 fun a => decide (a = k)
     have hc2 : -1 <= (if (at0 L i).2 = k then -1 else lfF n R s (at0 L i).2) /\ (if (at0 L i).2 = k then -1 else lfF n R s (at0 L i).2) <= 256 := by
      have h2 := cn_le n fun a => R a (at0 L i).2 && !decide (a ∈ s)
      unfold lfF
      split
      ·omega
      ·split <;> omega
     generalize hX : (if (at0 L i).2 = k then -1 else lfF n R s (at0 L i).2) = X at hcl hc2
     simp only [go_sem, zS, ↓reduceIte, Za, Zb, Zc, reduceCtorEq, kont_eq, hf, cB0]
     by_cases e1 : (at0 L i).1 = k
     ·have eb : (((at0 L i).1 : Int) == (k : Int)) = true := by rw [beq_iff_eq, e1]
      simp (disch := omega) only [go_sem, zS, ↓reduceIte, Za, Zb, Zc, reduceCtorEq, kont_eq, eb, hf, cB1, tn_cast, Nat.mul_one, Nat.zero_add, hcl, hstl, IntWalk.i64_in]
      refine ⟨by omega, by omega, by omega, by omega, L.length - (i + 1), by omega, i + 1, by omega, rfl, by rfl, ?_, K10.trans ((Keep.refl _ _).setc _ (.inl rfl))⟩
      have C11 := C10.setc (at0 L i).2 (.int .i64 (X - (cntP L i (at0 L i).2 fun a => decide (a = k)) - 1))
      rw [iL_set, fnL_set q2] at C11
      rw [fnL_congr (g := fun c => if c = (at0 L i).2 then (X - (cntP L i (at0 L i).2 fun a => decide (a = k)) - 1) else (if c = k then -1 else lfF n R s c) - ((cntP L i c fun a => decide (a = k) : Nat) : Int)) fun c hc => ?_]
      ·exact C11
      ·rw [cntP_succ hlt]
       by_cases e : c = (at0 L i).2
       ·subst e
        rw [hX]; simp [e1]; omega
       ·have : ¬ (at0 L i).2 = c := fun h => e h.symm
        simp [e, this]
     ·have eb : (((at0 L i).1 : Int) == (k : Int)) = false := by rw [beq_eq_false_iff_ne]; omega
      simp (disch := omega) only [go_sem, zS, ↓reduceIte, Za, Zb, Zc, reduceCtorEq, kont_eq, eb, hf, IntWalk.i64_in]
      refine ⟨by omega, L.length - (i + 1), by omega, i + 1, by omega, rfl, by rfl, ?_, K10⟩
      rw [fnL_congr (g := fun c => (if c = k then -1 else lfF n R s c) - ((cntP L i c fun a => decide (a = k) : Nat) : Int)) fun c hc => ?_]
      ·exact C10
      ·rw [cntP_succ hlt]; simp [e1]
    ·have : i = L.length := by omega
     subst this
     have eL : (fnL n fun c => (if c = k then -1 else lfF n R s c) - ((cntP L L.length c fun a => decide (a = k) : Nat) : Int)) = fnL n (lfF n R (s ++ [k])) := fnL_congr fun c hc => by
      rw [<- hL, cntP_all _ hc, lfF_step hR hs hk c hc]
     rw [eL] at C9
     have B9 := K9.bl B8' (by omega)
     refine ⟨n - (s ++ [k]).length, by simp; omega, s ++ [k], _, hs.snoc hk, rfl, B9, O8.keep K9 (fun q hq => (own8 q hq).2), own8, C9, K8.trans (K9.mono fun q _ h => .inr (by omega))⟩
  ·have hsrt := hs.eq hR (.inl (by omega))
   refine ⟨?_, ⟨sv, B3, by rw [<- hsrt]; exact O3, fun q hq => (own3 q hq).1⟩, ?_⟩
   ·rw [<- hsrt, decide_eq_true (by omega)]
   ·exact (K1.any (W := fun q => q = b)).trans' K3 (fun i hi h => by omega)
end Go.Mg
namespace Go.Mg
open Go Go.RowKit
set_option linter.all false
set_option maxRecDepth 100000
def c_orelate (ι : Ids) : S :=
 .seq (.reg [.e (.v 1) (.box (ι.t 196) (.v 0))]) (.seq (.dr (.px (.t 10) .none (.ld (.v 1)) (.px (.t 11) .none (.ld (.v 1)) (.px (.t 12) .none (.ld (.v 1)) (.px (.t 13) .none (.nil (.t 12)) (.px (.t
 14) .none (.fa 0 (.t 13)) (.px (.t 15) .none (.ld (.t 14)) (.px (.t 17) .none (.ld (.v 1)) (.px (.t 18) .none (.nil (.t 17)) (.px (.t 19) .none (.fa 0 (.t 18)) (.px (.t 20) .none (.ld (.t 19)) (.wcons
 (.t 16) .none (.mkS (ι.t 128) 1 24 #[.slice .none 0 0] (.t 15) (.t 15)) (.px (.t 22) .none (.nil (.t 10)) (.px (.t 23) .none (.fa 2 (.t 22)) (.wcons (.t 21) .none (.mkS (ι.t 128) 1 24 #[.slice .none 0
 0] (.t 20) (.t 20)) (.wcons .no .none (.st (.t 23) (.t 16)) (.px (.t 24) .none (.nil (.t 11)) (.px (.t 25) .none (.fa 3 (.t 24)) (.wcons .no .none (.st (.t 25) (.t 21)) .done .wnil))) .wnil) (.wcons
 .no .none (.st (.t 23) (.t 16)) (.wcons (.t 21) .none (.mkS (ι.t 128) 1 24 #[.slice .none 0 0] (.t 20) (.t 20)) (.px (.t 24) .none (.nil (.t 11)) (.px (.t 25) .none (.fa 3 (.t 24)) (.wcons .no .none
 (.st (.t 25) (.t 21)) .done .wnil))) .wnil) .wnil)))) (.wcons (.t 21) .none (.mkS (ι.t 128) 1 24 #[.slice .none 0 0] (.t 20) (.t 20)) (.wcons (.t 16) .none (.mkS (ι.t 128) 1 24 #[.slice .none 0 0] (.t
 15) (.t 15)) (.px (.t 22) .none (.nil (.t 10)) (.px (.t 23) .none (.fa 2 (.t 22)) (.wcons .no .none (.st (.t 23) (.t 16)) (.px (.t 24) .none (.nil (.t 11)) (.px (.t 25) .none (.fa 3 (.t 24)) (.wcons
 .no .none (.st (.t 25) (.t 21)) .done .wnil))) .wnil))) .wnil) .wnil))))))))))))) (.seq (.reg [.p (.t 26) (.ld (.v 1)), .p (.t 27) (.nil (.t 26)), .p (.t 28) (.fa 0 (.t 27)), .p (.t 29) (.ld (.t 28)),
 .e (.t 30) (.mkS (ι.t 138) 1 24 #[.slice .none 0 0] (.t 29) (.t 29)), .p (.v 2) (.mv (.t 30))]) (.seq (.seq (.reg [.p (.t 31) (.ld (.v 1)), .p (.t 32) (.nil (.t 31)), .p (.t 33) (.fa 1 (.t 32)), .p
 (.v 34) (.ld (.t 33)), .p (.v 35) (.m (.lenl (.v 34))), .p (.v 36) (.mv (.c (.int .i64 0)))]) (.blk 0 (.loop (.seq (.reg [.p (.v 37) (.cm .lss .i64 (.v 36) (.v 35))]) (.seq (.ite (.v 37) .skip (.exit
 0)) (.seq (.blk 1 (.seq (.reg [.p (.t 38) (.is 2 (.v 34) (.v 36)), .p (.t 39) (.m (.ldn 2 (.t 38))), .e (.v 4) (.new (ι.t 194) #[.int .i64 0, .int .i64 0]), .e .no (.stn 2 (.v 4) (.t 39))]) (.dr (.px
 (.t 40) .none (.mv (.v 2)) (.px (.t 41) .none (.ia 2 1 (.v 4) (.c (.int .i64 1))) (.px (.t 42) .none (.ld (.t 41)) (.px (.t 43) .none (.mv (.v 2)) (.px (.t 44) .none (.ia 2 1 (.v 4) (.c (.int .i64
 1))) (.px (.t 45) .none (.ld (.t 44)) (.px (.t 46) .none (.is 1 (.t 43) (.t 45)) (.px (.t 48) .none (.ia 2 1 (.v 4) (.c (.int .i64 0))) (.px (.t 49) .none (.ld (.t 48)) (.wcons (.t 47) .none (.rd (.ld
 (.t 46))) (.wcons (.t 50) .none (.bldF (ι.t 26) 1 1 [.t 49]) (.wcons (.t 51) .none (.app false (ι.t 26) 1 8 #[.int .i64 0] (.t 47) (.t 50)) (.px (.t 52) .none (.is 1 (.t 40) (.t 42)) (.wcons .no .none
 (.st (.t 52) (.t 51)) .done .wnil)) .wnil) .wnil) (.wcons (.t 50) .none (.bldF (ι.t 26) 1 1 [.t 49]) (.wcons (.t 47) .none (.rd (.ld (.t 46))) (.wcons (.t 51) .none (.app false (ι.t 26) 1 8 #[.int
 .i64 0] (.t 47) (.t 50)) (.px (.t 52) .none (.is 1 (.t 40) (.t 42)) (.wcons .no .none (.st (.t 52) (.t 51)) .done .wnil)) .wnil) .wnil) .wnil)))))))))))))) (.reg [.p (.t 53) (.ar .add .i64 (.v 36) (.c
 (.int .i64 1))), .p (.v 36) (.mv (.t 53))]))))))) (.seq (.reg [.p (.t 54) (.ld (.v 1)), .p (.t 55) (.nil (.t 54)), .p (.t 56) (.fa 4 (.t 55)), .p (.v 57) (.ld (.t 56)), .p (.v 58) (.m (.lenl (.v
 57))), .p (.v 59) (.mv (.c (.int .i64 0)))]) (.blk 2 (.loop (.seq (.reg [.p (.v 60) (.cm .lss .i64 (.v 59) (.v 58))]) (.seq (.ite (.v 60) .skip (.exit 2)) (.seq (.blk 3 (.seq (.reg [.p (.t 61) (.is 1
 (.v 57) (.v 59)), .p (.t 62) (.ld (.t 61)), .e (.v 6) (.new (ι.t 26) #[.int .i64 0]), .e .no (.st (.v 6) (.t 62))]) (.seq (.seq (.reg [.p (.t 63) (.mv (.v 2)), .p (.t 64) (.ld (.v 6)), .p (.t 65) (.is
 1 (.t 63) (.t 64)), .p (.v 66) (.ld (.t 65)), .p (.v 67) (.m (.lenl (.v 66))), .p (.v 68) (.mv (.c (.int .i64 0)))]) (.blk 4 (.loop (.seq (.reg [.p (.v 69) (.cm .lss .i64 (.v 68) (.v 67))]) (.seq
 (.ite (.v 69) .skip (.exit 4)) (.seq (.blk 5 (.seq (.reg [.p (.t 70) (.is 1 (.v 66) (.v 68)), .p (.t 71) (.ld (.t 70)), .p (.v 8) (.mv (.t 71))]) (.dr (.px (.t 72) .none (.ld (.v 1)) (.px (.t 73)
 .none (.nil (.t 72)) (.px (.t 74) .none (.fa 2 (.t 73)) (.px (.t 75) .none (.ld (.t 74)) (.px (.t 76) .none (.ld (.v 6)) (.px (.t 77) .none (.ld (.v 1)) (.px (.t 78) .none (.nil (.t 77)) (.px (.t 79)
 .none (.fa 2 (.t 78)) (.px (.t 80) .none (.ld (.t 79)) (.px (.t 81) .none (.ld (.v 6)) (.px (.t 82) .none (.is 1 (.t 80) (.t 81)) (.px (.t 84) .none (.ld (.v 1)) (.px (.t 85) .none (.nil (.t 84)) (.px
 (.t 86) .none (.fa 2 (.t 85)) (.px (.t 87) .none (.ld (.t 86)) (.px (.t 88) .none (.mv (.v 8)) (.px (.t 89) .none (.is 1 (.t 87) (.t 88)) (.px (.t 92) .none (.mv (.v 8)) (.wcons (.t 83) .none (.rd (.m
 (.ldn 1 (.t 82)))) (.wcons (.t 90) .none (.rd (.m (.ldn 1 (.t 89)))) (.wcons (.t 91) .none (.call (ι.f 132) [.t 83, .t 90]) (.wcons (.t 93) .none (.call (ι.f 131) [.t 91, .t 92]) (.px (.t 94) .none
 (.is 1 (.t 75) (.t 76)) (.wcons .no .none (.stn 1 (.t 94) (.t 93)) .done .wnil)) .wnil) .wnil) .wnil) (.wcons (.t 90) .none (.rd (.m (.ldn 1 (.t 89)))) (.wcons (.t 83) .none (.rd (.m (.ldn 1 (.t
 82)))) (.wcons (.t 91) .none (.call (ι.f 132) [.t 83, .t 90]) (.wcons (.t 93) .none (.call (ι.f 131) [.t 91, .t 92]) (.px (.t 94) .none (.is 1 (.t 75) (.t 76)) (.wcons .no .none (.stn 1 (.t 94) (.t
 93)) .done .wnil)) .wnil) .wnil) .wnil) .wnil))))))))))))))))))))))) (.reg [.p (.t 95) (.ar .add .i64 (.v 68) (.c (.int .i64 1))), .p (.v 68) (.mv (.t 95))]))))))) (.seq (.reg [.p (.t 96) (.ld (.v
 1)), .p (.t 97) (.nil (.t 96)), .p (.t 98) (.fa 2 (.t 97)), .p (.t 99) (.ld (.t 98)), .p (.t 100) (.ld (.v 6)), .p (.t 101) (.is 1 (.t 99) (.t 100)), .p (.t 102) (.m (.ldn 1 (.t 101))), .e (.v 103)
 (.call (ι.f 137) [.t 102])]) (.blk 6 (.rf 121 (.v 103) 104 9 (.blk 7 (.dr (.px (.t 105) .none (.ld (.v 1)) (.px (.t 106) .none (.nil (.t 105)) (.px (.t 107) .none (.fa 3 (.t 106)) (.px (.t 108) .none
 (.ld (.t 107)) (.px (.t 109) .none (.mv (.v 9)) (.px (.t 110) .none (.ld (.v 1)) (.px (.t 111) .none (.nil (.t 110)) (.px (.t 112) .none (.fa 3 (.t 111)) (.px (.t 113) .none (.ld (.t 112)) (.px (.t
 114) .none (.mv (.v 9)) (.px (.t 115) .none (.is 1 (.t 113) (.t 114)) (.px (.t 117) .none (.ld (.v 6)) (.wcons (.t 116) .none (.rd (.m (.ldn 1 (.t 115)))) (.wcons (.t 118) .none (.call (ι.f 131) [.t
 116, .t 117]) (.px (.t 119) .none (.is 1 (.t 108) (.t 109)) (.wcons .no .none (.stn 1 (.t 119) (.t 118)) .done .wnil)) .wnil) .wnil))))))))))))))))))))) (.reg [.p (.t 120) (.ar .add .i64 (.v 59) (.c
 (.int .i64 1))), .p (.v 59) (.mv (.t 120))]))))))))))
def r_orelate : List RV := []
structure StA (H : Hp) (ab n : Nat) (ps : Nat -> Nat -> Bool) (vs : List Value) (B : Nat) : Prop where
 bl : Bl H ab vs
 len : vs.length = n
 at_ : ∀ i, i < n -> SetM H (.agg #[vs.getD i undef]) (ps i)
 ge : ∀ i, i < n -> ∀ q, slB (vs.getD i undef) q -> B <= q
theorem StA.keep {H H' : Hp} {ab n : Nat} {ps : Nat -> Nat -> Bool} {vs : List Value} {B : Nat} {W : Nat -> Prop} (h : StA H ab n ps vs B) (hk : Keep W H H') (h1 : ¬ W ab) (h2 : ∀ q, B <= q -> q < H.size -> ¬ W q) : StA H' ab n ps vs B :=
 ⟨hk.bl h.bl h1, h.len, fun i hi => (h.at_ i hi).keep hk fun q hq => h2 q (h.ge i hi q hq) ((h.at_ i hi).old hq), h.ge⟩
theorem SlR.isCells {H : Hp} {v : Value} {l : List Value} (h : SlR H v l) {q : Nat} (hq : slB v q) : ∃ C T z, H[q]? = some (.cells C T z) := by
 rcases h with ⟨a, c, rfl, _⟩ | ⟨b, o, c, _, rfl, h0, C, T, z, h1, h2, h3⟩
 ·cases a <;> simp [Mg.slB] at hq
 ·obtain ⟨rfl, _⟩ := hq; exact ⟨C, T, z, h1⟩
theorem StA.keepM {H H' : Hp} {ab n : Nat} {ps : Nat -> Nat -> Bool} {vs : List Value} {B : Nat} {ms : List Nat} (h : StA H ab n ps vs B) (hk : Keep (fun q => q ∈ ms) H H') (hm : ∀ q ∈ ms, H[q]? = some (.deferred (some []))) : StA H' ab n ps vs B := by
 refine ⟨hk.bl h.bl fun hq => ?_, h.len, fun i hi => (h.at_ i hi).keep hk fun q hq hq' => ?_, h.ge⟩
 ·obtain ⟨T, hb⟩ := h.bl
  rw [hm _ hq] at hb; cases hb
 ·obtain ⟨v, W, e, hV⟩ := h.at_ i hi
  cases e
  obtain ⟨C, T, z, hb⟩ := hV.sl.isCells hq
  rw [hm _ hq'] at hb; cases hb
theorem StA.congr {H : Hp} {ab n : Nat} {ps ps' : Nat -> Nat -> Bool} {vs : List Value} {B : Nat} (h : StA H ab n ps vs B) (e : ∀ i < n, ∀ x, ps i x = ps' i x) : StA H ab n ps' vs B :=
 ⟨h.bl, h.len, fun i hi => (h.at_ i hi).congr (e i hi), h.ge⟩
theorem StA.ld {H : Hp} {ab n : Nat} {ps : Nat -> Nat -> Bool} {vs : List Value} {B : Nat} (h : StA H ab n ps vs B) {i : Nat} (hi : i < n) : ldNA H ⟨ab, i, none⟩ 1 = some #[vs.getD i undef] := by
 rw [h.bl.ldNA (by rw [h.len]; omega)]
 have hl : i < vs.length := by rw [h.len]; exact hi
 have e : vs.getD i undef = vs[i] := by simp [List.getD_eq_getElem?_getD, hl]
 rw [e, List.drop_eq_getElem_cons hl]; rfl
theorem StA.ok {H : Hp} {ab n : Nat} {ps : Nat -> Nat -> Bool} {vs : List Value} {B : Nat} (h : StA H ab n ps vs B) {i : Nat} (hi : i < n) : okNA H ⟨ab, i, none⟩ 1 := h.bl.okNA (by rw [h.len]; omega)
theorem StA.st {H : Hp} {ab n : Nat} {ps : Nat -> Nat -> Bool} {vs : List Value} {B : Nat} (h : StA H ab n ps vs B) {i : Nat} (hi : i < n) {v : Value} {p : Nat -> Bool} (hv : SetM H (.agg #[v]) p) (hb : ∀ q, slB v q -> B <= q) (hab : ab < B) :
  StA (stNA H ⟨ab, i, none⟩ [v]) ab n (fun c => if c = i then p else ps c) (vs.set i v) B := by
 have hl : i < vs.length := by rw [h.len]; exact hi
 have K : Keep (fun q => q = ab) H (stNA H ⟨ab, i, none⟩ [v]) := (Keep.refl _ _).stNA _ (.inl rfl)
 have e : wrL vs i [v] = vs.set i v := by
  unfold wrL
  rw [List.set_eq_take_append_cons_drop, if_pos hl]
  simp
 refine ⟨by rw [<- e]; exact h.bl.stNA i [v], by simp [h.len], fun c hc => ?_, fun c hc q hq => ?_⟩
 ·by_cases ec : c = i
  ·subst ec
   simp only [if_true]
   rw [List.getD_eq_getElem?_getD, List.getElem?_set_self hl]
   exact hv.keep K fun q hq e => by have := hb q hq; omega
  ·simp only [if_neg ec]
   rw [List.getD_eq_getElem?_getD, List.getElem?_set_ne (fun e => ec e.symm), <- List.getD_eq_getElem?_getD]
   exact (h.at_ c hc).keep K fun q hq e => by have := h.ge c hc q hq; omega
 ·by_cases ec : c = i
  ·subst ec
   rw [List.getD_eq_getElem?_getD, List.getElem?_set_self hl] at hq
   exact hb q hq
  ·rw [List.getD_eq_getElem?_getD, List.getElem?_set_ne (fun e => ec e.symm), <- List.getD_eq_getElem?_getD] at hq
   exact h.ge c hc q hq
theorem StA.new {H : Hp} {ab n B : Nat} (h : Bl H ab (List.replicate n (.slice none 0 0))) : StA H ab n (fun _ _ => false) (List.replicate n (.slice none 0 0)) B := by
 refine ⟨h, by simp, fun i hi => ?_, fun i hi q hq => ?_⟩
 ·rw [List.getD_eq_getElem?_getD, List.getElem?_replicate, if_pos hi]
  exact SetM.empty H none 0
 ·rw [List.getD_eq_getElem?_getD, List.getElem?_replicate, if_pos hi] at hq
  exact hq.elim
structure LoA (H : Hp) (db n : Nat) (ls : Nat -> List Nat) (vs : List Value) (B : Nat) : Prop where
 bl : Bl H db vs
 len : vs.length = n
 at_ : ∀ i, i < n -> OwS H (vs.getD i undef) (iN (ls i))
 ge : ∀ i, i < n -> ∀ q, ownB (vs.getD i undef) q -> B <= q
 dj : ∀ i j, i < n -> j < n -> i ≠ j -> ∀ q, ownB (vs.getD i undef) q -> ¬ ownB (vs.getD j undef) q
theorem LoA.keep {H H' : Hp} {db n : Nat} {ls : Nat -> List Nat} {vs : List Value} {B : Nat} {W : Nat -> Prop} (h : LoA H db n ls vs B) (hk : Keep W H H') (h1 : ¬ W db) (h2 : ∀ q, B <= q -> q < H.size -> ¬ W q) : LoA H' db n ls vs B :=
 ⟨hk.bl h.bl h1, h.len, fun i hi => (h.at_ i hi).keep hk fun q hq => h2 q (h.ge i hi q hq) ((h.at_ i hi).old hq), h.ge, h.dj⟩
theorem LoA.cell {H : Hp} {db n : Nat} {ls : Nat -> List Nat} {vs : List Value} {B : Nat} (h : LoA H db n ls vs B) {i : Nat} (hi : i < n) : Mg.cell H ⟨db, i, none⟩ = some (vs.getD i undef) := by
 have hl : i < vs.length := by rw [h.len]; exact hi
 rw [h.bl.cell]; simp [List.getD_eq_getElem?_getD, hl]
theorem LoA.new {H : Hp} {db n B : Nat} (h : Bl H db (List.replicate n (.slice none 0 0))) : LoA H db n (fun _ => []) (List.replicate n (.slice none 0 0)) B := by
 have e : ∀ i, i < n -> (List.replicate n (Value.slice none 0 0)).getD i undef = .slice none 0 0 := fun i hi => by rw [List.getD_eq_getElem?_getD, List.getElem?_replicate, if_pos hi]; rfl
 refine ⟨h, by simp, fun i hi => ?_, fun i hi q hq => ?_, fun i j hi hj hij q hq => ?_⟩
 ·rw [e i hi]; exact OwS.nil _
 ·rw [e i hi] at hq; exact hq.elim
 ·rw [e i hi] at hq; exact hq.elim
theorem LoA.app {H H1 : Hp} {db n : Nat} {ls : Nat -> List Nat} {vs : List Value} {B i : Nat} {v : Value} {a : Nat} (h : LoA H db n ls vs B) (hi : i < n) (hO : OwS H1 v (iN (ls i ++ [a]))) (hK : Keep (ownB (vs.getD i undef)) H H1) (hv : ∀ q, ownB v q -> ownB (vs.getD i undef) q \/ H.size <= q) (hdb : db < B) (hB : B <= H.size) :
  LoA (setc H1 ⟨db, i, none⟩ v) db n (fun c => if c = i then ls i ++ [a] else ls c) (vs.set i v) B := by
 have hl : i < vs.length := by rw [h.len]; exact hi
 have hdbi : ∀ c, c < n -> ¬ ownB (vs.getD c undef) db := fun c hc e => by have := h.ge c hc db e; omega
 have B1 := hK.bl h.bl (hdbi i hi)
 have K : Keep (fun q => q = db) H1 (setc H1 ⟨db, i, none⟩ v) := (Keep.refl _ _).setc _ (.inl rfl)
 have e1 : ∀ c, c ≠ i -> (vs.set i v).getD c undef = vs.getD c undef := fun c hc => by
  rw [List.getD_eq_getElem?_getD, List.getElem?_set_ne (fun e => hc e.symm), <- List.getD_eq_getElem?_getD]
 have e2 : (vs.set i v).getD i undef = v := by rw [List.getD_eq_getElem?_getD, List.getElem?_set_self hl]; rfl
 have vge : ∀ q, ownB v q -> B <= q := fun q hq => by rcases hv q hq with h' | h'; exact h.ge i hi q h'; omega
 have vdj : ∀ c, c < n -> c ≠ i -> ∀ q, ownB v q -> ¬ ownB (vs.getD c undef) q := fun c hc hci q hq hq' => by
  rcases hv q hq with h' | h'
  ·exact h.dj i c hi hc (fun e => hci e.symm) q h' hq'
  ·have := (h.at_ c hc).old hq'; omega
 refine ⟨B1.setc i v, by simp [h.len], fun c hc => ?_, fun c hc q hq => ?_, fun c d hc hd hcd q hq hq' => ?_⟩
 ·by_cases ec : c = i
  ·subst ec
   rw [e2, if_pos rfl]
   exact hO.keep K fun q hq e => by have := vge q hq; omega
  ·rw [e1 c ec, if_neg ec]
   exact ((h.at_ c hc).keep hK fun q hq hq' => h.dj c i hc hi ec q hq hq').keep K fun q hq e => by have := h.ge c hc q hq; omega
 ·by_cases ec : c = i
  ·subst ec; rw [e2] at hq; exact vge q hq
  ·rw [e1 c ec] at hq; exact h.ge c hc q hq
 ·by_cases ec : c = i
  ·subst ec
   rw [e2] at hq; rw [e1 d (fun e => hcd e.symm)] at hq'
   exact vdj d hd (fun e => hcd e.symm) q hq hq'
  ·by_cases ed : d = i
   ·subst ed
    rw [e2] at hq'; rw [e1 c ec] at hq
    exact vdj c hc ec q hq' hq
   ·rw [e1 c ec] at hq; rw [e1 d ed] at hq'
    exact h.dj c d hc hd hcd q hq hq'
def dirL (L : List NP) (i c : Nat) : List Nat := ((L.take i).filter fun p => decide (p.2 = c)).map (·.1)
theorem dirL_succ {L : List NP} {i : Nat} (h : i < L.length) (c : Nat) : dirL L (i + 1) c = if c = (at0 L i).2 then dirL L i c ++ [(at0 L i).1] else dirL L i c := by
 unfold dirL
 rw [List.take_succ_eq_append_getElem h, List.filter_append, List.map_append, at0_eq h]
 by_cases e : c = L[i].2
 ·rw [if_pos e]; simp [e]
 ·rw [if_neg e]
  have : ¬ L[i].2 = c := fun h => e h.symm
  simp [this]
theorem dirL_mem {n : Nat} {R : Nat -> Nat -> Bool} (hR : Rng n R) {a c : Nat} : a ∈ dirL (gridP n R) (gridP n R).length c ↔ R a c = true := by
 unfold dirL
 rw [List.take_length]
 simp only [List.mem_map, List.mem_filter, decide_eq_true_eq]
 constructor
 ·rintro ⟨p, ⟨hp, rfl⟩, rfl⟩; exact (mem_gridP.1 hp).2.2
 ·intro h; exact ⟨(a, c), ⟨mem_gridP.2 ⟨(hR _ _ h).1, (hR _ _ h).2, h⟩, rfl⟩, rfl⟩
theorem dirL_len (L : List NP) (i c : Nat) : (dirL L i c).length <= L.length := by
 unfold dirL
 rw [List.length_map]
 refine Nat.le_trans (List.length_filter_le _ _) ?_
 rw [List.length_take]; omega
noncomputable def abvP (R : Nat -> Nat -> Bool) (s : List Nat) (i x : Nat) : Bool := decide (i ∈ s) && tcB R x i
noncomputable def blwP (R : Nat -> Nat -> Bool) (s : List Nat) (a y : Nat) : Bool := decide (y ∈ s) && tcB R a y
noncomputable def uniP (R : Nat -> Nat -> Bool) (l : List Nat) (x : Nat) : Bool := l.any fun a => decide (x = a) || tcB R x a
theorem uniP_snoc (R : Nat -> Nat -> Bool) (l : List Nat) (a x : Nat) : uniP R (l ++ [a]) x = (uniP R l x || tcB R x a || decide (x = a)) := by
 unfold uniP
 rw [List.any_append]
 simp only [List.any_cons, List.any_nil, Bool.or_false]
 cases l.any (fun a => decide (x = a) || tcB R x a) <;> cases tcB R x a <;> cases decide (x = a) <;> rfl
theorem uniP_all {R : Nat -> Nat -> Bool} {l : List Nat} {b : Nat} (h : ∀ a, a ∈ l ↔ R a b = true) (x : Nat) : uniP R l x = tcB R x b := by
 rw [Bool.eq_iff_iff, tcB_iff]
 unfold uniP
 simp only [List.any_eq_true, Bool.or_eq_true, decide_eq_true_eq, tcB_iff]
 constructor
 ·rintro ⟨a, ha, e | t⟩
  ·subst e; exact .one ((h x).1 ha)
  ·exact t.trans (.one ((h a).1 ha))
 ·intro t
  obtain ⟨c, h1, h2⟩ := t.last
  exact ⟨c, (h c).2 h1, h2⟩
def Rl5 (b n : Nat) (pv sv : Value) (H1 A : Hp) (x y : Value) : Prop := Bl A b [.int .i64 (n : Int), pv, x, y, sv] /\ Keep (fun q => q = b) H1 A
section
variable {b n : Nat} {pv sv : Value} {H1 A : Hp} {x y : Value}
theorem Rl5.psh (h : Rl5 b n pv sv H1 A x y) (o : Obj) : Rl5 b n pv sv H1 (A.push o) x y := ⟨h.1.push o, h.2.push o⟩
theorem Rl5.st2 (h : Rl5 b n pv sv H1 A x y) (v : Value) : Rl5 b n pv sv H1 (setc A ⟨b, 2, none⟩ v) v y := ⟨h.1.setc 2 v, h.2.setc _ (.inl rfl)⟩
theorem Rl5.st3 (h : Rl5 b n pv sv H1 A x y) (v : Value) : Rl5 b n pv sv H1 (setc A ⟨b, 3, none⟩ v) x v := ⟨h.1.setc 3 v, h.2.setc _ (.inl rfl)⟩
theorem Rl5.ok2 (h : Rl5 b n pv sv H1 A x y) : (cell A ⟨b, 2, none⟩).isSome = true /\ frz A ⟨b, 2, none⟩ = false := h.1.okSt (o := 2) (by simp)
theorem Rl5.ok3 (h : Rl5 b n pv sv H1 A x y) : (cell A ⟨b, 3, none⟩).isSome = true /\ frz A ⟨b, 3, none⟩ = false := h.1.okSt (o := 3) (by simp)
theorem Rl5.cnd {b1 : Nat} {v : Value} (hb : b ≠ b1) (hB : Bl H1 b1 [v]) (h : Rl5 b n pv sv H1 A x y) : Keep (fun q => q = b) H1 A /\ cell A ⟨b, 0, none⟩ = some (.int .i64 (n : Int)) /\ cell A ⟨b1, 0, none⟩ = some v :=
 ⟨h.2, by rw [h.1.cell]; rfl, by rw [(h.2.bl hB fun e => hb e.symm).cell]; rfl⟩
end
def RelSpec (P : Program) (ι : Ids) (k : FuncId) : Prop := ∀ (n : Nat) (R : Nat -> Nat -> Bool) (b : Nat) (pv sv : Value) (H : Hp), n <= 256 -> Rng n R -> Acy R -> TabOk ι H -> (ι.g 125 ≠ b) -> Bl H b [.int .i64 (n : Int), pv, .slice none 0 0, .slice none 0 0, sv] -> SlE nE 2 H pv (gridP n R) -> (∀ q, slB pv q -> q ≠ b) →
 SlR H sv (iN (srt n R)) -> (∀ q, slB sv q -> q ≠ b) →
 CallsM P k #[.pointer (some ⟨b, 0, none⟩)] H fun r H' => r = .tuple #[] /\ (∃ ab bb avs bvs B, Bl H' b [.int .i64 (n : Int), pv, .slice (some ⟨ab, 0, none⟩) n n, .slice (some ⟨bb, 0, none⟩) n n, sv] /\ StA H' ab n (fun i x => tcB R x i) avs B /\ StA H' bb n (fun i x => tcB R i x) bvs B ∧
  H.size <= ab /\ H.size <= bb /\ H.size <= B) /\ Keep (fun q => q = b) H H'
theorem relate_ok {P : Program} {ι : Ids} {k g : FuncId} (hk : FnIsR P k (c_orelate ι) r_orelate 1 121) (ha : BAllSpec P (ι.f 137) (ι.f 136)) (hb1 : bodyOk P (ι.f 136) = true) (hY : FnIsY P (ι.f 136) (c_ball1 ι) r_ball1 2) (htz : TzSpec P ι (ι.f 126)) (hor : BOrSpec P (ι.f 132)) (hwi : BWithSpec P (ι.f 131)) : RelSpec P ι k := by
 intro n R b pv sv H hn hR hA hT hgb hB hp hpb hs hsb
 refine calls_of_vcR hk (args := [_]) (by simp) ?_
 unfold c_orelate r_orelate
 have hblt := hB.lt
 have hgl : (gridP n R).length <= 65536 := Nat.le_trans (gridP_len n R) (Nat.mul_le_mul hn hn)
 have hc0 : cell H ⟨b, 0, none⟩ = some (.int .i64 (n : Int)) := by rw [hB.cell]; rfl
 simp only [go_sem, zS, ↓reduceIte, Za, Zb, Zc, reduceCtorEq]
 refine kont_new fun H1 b1 e1 z1 B1 K1 => ?_
 have s1 := K1.size
 have hB1 := K1.bl hB (by simp)
 have hcp : cell H1 ⟨b1, 0, none⟩ = some (.pointer (some ⟨b, 0, none⟩)) := by rw [B1.cell]; rfl
 have hc0 : cell H1 ⟨b, 0, none⟩ = some (.int .i64 (n : Int)) := by rw [hB1.cell]; rfl
 simp only [go_sem, zS, ↓reduceIte, Za, Zb, Zc, reduceCtorEq, kont_eq]
 refine vc_mono (Q := fun e f' A => e = .n /\ f' = upd (look [(0, .pointer (some ⟨b, 0, none⟩))]) 1 (.pointer (some ⟨b1, 0, none⟩)) /\ ∃ ab bb, Bl A ab (List.replicate n (.slice none 0 0)) /\ Bl A bb (List.replicate n (.slice none 0 0)) /\ H1.size <= ab /\ H1.size <= bb /\ ab ≠ bb /\ Bl A b [.int .i64 (n : Int), pv, .slice (some ⟨ab, 0, none⟩) n n, .slice (some ⟨bb, 0, none⟩) n n, sv] /\ Keep (fun q => q = b) H1 A) ?_ ?_
 rotate_left
 ·refine vc_drc (fun A => Keep (fun q => q = b) H1 A /\ Mg.cell A ⟨b, 0, none⟩ = some (.int .i64 (n : Int)) /\ Mg.cell A ⟨b1, 0, none⟩ = some (.pointer (some ⟨b, 0, none⟩))) ⟨Keep.refl _ _, hc0, hcp⟩ ?_
  have hmx : (0 : Int) <= (n : Int) /\ (n : Int) <= n /\ ((24 : Nat) : Int) * n <= 281474976710656 /\ (n : Int) <= (maxLen : Int) := ⟨by omega, by omega, by omega, by unfold maxLen; omega⟩
  have w0 : Rl5 b n pv sv H1 H1 (.slice none 0 0) (.slice none 0 0) := ⟨hB1, Keep.refl _ _⟩
  have hb1b : b ≠ b1 := by omega
  simp (config := {contextual := true}) only [go_sem, zS, ↓reduceIte, Za, Zb, Zc, reduceCtorEq, kont_eq, hcp, hc0, stabC, and_imp, hmx, tn_cast]
  have hz : ∀ (A : Hp), Bl (A.push (.cells (rep #[Value.slice none 0 0] n) (ι.t 128))) A.size (List.replicate n (.slice none 0 0)) := fun A => by
   have := Bl.new' A (rep #[Value.slice none 0 0] n) (ι.t 128)
   rwa [rep_one] at this
  have hne : ∀ (A : Hp), H1.size <= A.size -> A.size ≠ (⟨b, 2, none⟩ : Addr).block := fun A h => by show A.size ≠ b; omega
  have hne3 : ∀ (A : Hp), H1.size <= A.size -> A.size ≠ (⟨b, 3, none⟩ : Addr).block := fun A h => by show A.size ≠ b; omega
  have hs1 : ∀ (o : Obj), H1.size <= (H1.push o).size := fun o => by simp
  have hs2 : ∀ (o : Obj) (p : Addr) (v : Value), H1.size <= (setc (H1.push o) p v).size := fun o p v => by rw [size_setc]; simp
  have h1 := fun o => w0.psh o
  have h2 := fun o o' => (w0.psh o).psh o'
  refine ⟨⟨Rl5.cnd hb1b B1 (h1 _), ⟨Rl5.cnd hb1b B1 (h2 _ _), (h2 _ _).ok2, Rl5.cnd hb1b B1 ((h2 _ _).st2 _), ((h2 _ _).st2 _).ok3, Rl5.cnd hb1b B1 (((h2 _ _).st2 _).st3 _), ?_⟩, (h1 _).ok2, Rl5.cnd hb1b B1 ((h1 _).st2 _), Rl5.cnd hb1b B1 (((h1 _).st2 _).psh _), (((h1 _).st2 _).psh _).ok3, Rl5.cnd hb1b B1 ((((h1 _).st2 _).psh _).st3 _), ?_⟩,
   Rl5.cnd hb1b B1 (h1 _), Rl5.cnd hb1b B1 (h2 _ _), (h2 _ _).ok2, Rl5.cnd hb1b B1 ((h2 _ _).st2 _), ((h2 _ _).st2 _).ok3, Rl5.cnd hb1b B1 (((h2 _ _).st2 _).st3 _), ?_⟩
  ·exact ⟨_, _, (((hz H1).push _).setc_ne _ (hne _ (Nat.le_refl _))).setc_ne _ (hne3 _ (Nat.le_refl _)), ((hz (H1.push _)).setc_ne _ (hne _ (hs1 _))).setc_ne _ (hne3 _ (hs1 _)), Nat.le_refl _, hs1 _, by simp, (((h2 _ _).st2 _).st3 _).1, (((h2 _ _).st2 _).st3 _).2⟩
  ·exact ⟨_, _, (((hz H1).setc_ne _ (hne _ (Nat.le_refl _))).push _).setc_ne _ (hne3 _ (Nat.le_refl _)), (hz (setc (H1.push _) _ _)).setc_ne _ (hne3 _ (hs2 _ _ _)), Nat.le_refl _, hs2 _ _ _, by rw [size_setc]; simp, ((((h1 _).st2 _).psh _).st3 _).1, ((((h1 _).st2 _).psh _).st3 _).2⟩
  ·exact ⟨_, _, ((hz (H1.push _)).setc_ne _ (hne _ (hs1 _))).setc_ne _ (hne3 _ (hs1 _)), (((hz H1).push _).setc_ne _ (hne _ (Nat.le_refl _))).setc_ne _ (hne3 _ (Nat.le_refl _)), hs1 _, Nat.le_refl _, by simp, (((h2 _ _).st2 _).st3 _).1, (((h2 _ _).st2 _).st3 _).2⟩
 rintro e f' H2 ⟨rfl, rfl, ab, bb, A2, D2, gab, gbb, hab, B2, K2⟩
 have s2 := K2.size
 have hcp2 : cell H2 ⟨b1, 0, none⟩ = some (.pointer (some ⟨b, 0, none⟩)) := by rw [(K2.bl B1 (by omega)).cell]; rfl
 have hc02 : cell H2 ⟨b, 0, none⟩ = some (.int .i64 (n : Int)) := by rw [B2.cell]; rfl
 have habl := A2.lt
 have hbbl := D2.lt
 simp only [go_sem, zS, ↓reduceIte, Za, Zb, Zc, reduceCtorEq, hcp2, hc02, tn_cast]
 refine ⟨⟨by omega, by omega, by omega, by unfold maxLen; omega⟩, ?_⟩
 refine kont_news fun H3 db e3 z3 C3 K3 => ?_
 rw [rep_one] at C3
 have s3 := K3.size
 have B13 := K3.bl (K2.bl B1 (by omega)) (by simp)
 have B3 := K3.bl B2 (by simp)
 have A3 := K3.bl A2 (by simp)
 have D3 := K3.bl D2 (by simp)
 have hcp3 : cell H3 ⟨b1, 0, none⟩ = some (.pointer (some ⟨b, 0, none⟩)) := by rw [B13.cell]; rfl
 have hc13 : cell H3 ⟨b, 1, none⟩ = some pv := by rw [B3.cell]; rfl
 have K03 : Keep (fun q => q = b) H H3 := ((K1.any (W := fun q => q = b)).trans K2).trans K3.any
 have hp3 := hp.keep K03 hpb
 have hs3 := hs.keep K03 hsb
 have hT3 := fun {A : Hp} (K : Keep (fun q => q = b \/ H.size <= q) H A) => (show TabOk ι A from K.bl hT (by
  have := (show Bl H (ι.g 125) _ from hT).lt
  omega))
 simp only [go_sem, zS, ↓reduceIte, Za, Zb, Zc, reduceCtorEq, kont_eq, hcp3, hc13, hp.isSl, hp.lenS, hp.len]
 generalize hL : gridP n R = L at hp hgl hp3 ⊢
 have hpairs : ∀ i, i < L.length -> (at0 L i).1 < n /\ (at0 L i).2 < n /\ R (at0 L i).1 (at0 L i).2 = true := fun i hi => by
  have : at0 L i ∈ gridP n R := by rw [hL, at0_eq hi]; exact List.getElem_mem _
  exact mem_gridP.1 this
 refine vc_loop [37, 4, 36] rfl (fun m f H' => ∃ (i : Nat) (dvs : List Value), i <= L.length /\ m = L.length - i /\ f 36 = .int .i64 i /\ LoA H' db n (dirL L i) dvs H3.size /\ Keep (fun q => q = db) H3 H') L.length ?_ ?_
 ·refine ⟨0, List.replicate n (.slice none 0 0), by omega, by omega, by simp only [go_sem, zS, ↓reduceIte, Za, Zb, Zc, reduceCtorEq, kont_eq]; rfl, ?_, Keep.refl _ _⟩
  have := LoA.new (B := H3.size) C3
  exact this
 rintro m f H4 ⟨i, dvs, hil, rfl, hf, L4, K4⟩
 have s4 := K4.size
 simp only [go_sem, zS, ↓reduceIte, Za, Zb, Zc, reduceCtorEq, kont_eq] at hf
 simp only [go_sem, zS, ↓reduceIte, Za, Zb, Zc, reduceCtorEq, hf]
 refine iteV_dec (fun hlt => ?_) (fun hge => ?_)
 ·have hlt : i < L.length := by omega
  have hp4 : SlE nE 2 H4 pv L := hp3.keep K4 (fun q hq e => by have := hp.old hq; omega)
  obtain ⟨pb, po, pc, rfl, hpq, hld⟩ := hp4.elem nE_len hlt
  obtain ⟨q1, q2, q3⟩ := hpairs i hlt
  rw [<- at0_eq hlt] at hld
  have hld' : ldNA H4 ⟨pb, po + i * 2, none⟩ 2 = some #[.int .i64 ((at0 L i).1 : Int), .int .i64 ((at0 L i).2 : Int)] := hld
  simp only [go_sem, zS, ↓reduceIte, Za, Zb, Zc, reduceCtorEq, zF, tn_cast, ldNO_ptr, hld']
  refine ⟨by omega, ?_⟩
  refine kont_new fun H5 b5 e5 z5 B5 K5 => ?_
  have s5 := K5.size
  have hst := B5.okNA (o := 0) (n := 2) (by simp)
  have B6 := B5.stNA 0 [.int .i64 ((at0 L i).1 : Int), .int .i64 ((at0 L i).2 : Int)]
  have K6 : Keep (fun q => q = b5) H5 (stNA H5 ⟨b5, 0, none⟩ [.int .i64 ((at0 L i).1 : Int), .int .i64 ((at0 L i).2 : Int)]) := (Keep.refl _ _).stNA _ (.inl rfl)
  simp only [go_sem, zS, ↓reduceIte, Za, Zb, Zc, reduceCtorEq, kont_eq, zF, hst]
  generalize stNA H5 ⟨b5, 0, none⟩ [.int .i64 ((at0 L i).1 : Int), .int .i64 ((at0 L i).2 : Int)] = H6 at B6 K6 ⊢
  have s6 := K6.size
  have cB0 : cell H6 ⟨b5, 0, none⟩ = some (.int .i64 ((at0 L i).1 : Int)) := by rw [B6.cell]; rfl
  have cB1 : cell H6 ⟨b5, 1, none⟩ = some (.int .i64 ((at0 L i).2 : Int)) := by rw [B6.cell]; rfl
  have hdb := L4.bl.lt
  have K46 : Keep (fun q => q = b5) H4 H6 := (K5.any (W := fun q => q = b5)).trans K6
  have L6 := L4.keep K46 (by omega) (fun q h1 h2 e => by omega)
  have hcd := L6.cell q2
  refine ⟨fun x hx => by simp at hx; rcases hx with rfl | rfl <;> rfl, ?_⟩
  have nb5 : ∀ q, q = db \/ ownB (dvs.getD (at0 L i).2 undef) q -> q ≠ b5 := fun q hq e => by
   rcases hq with h | h
   ·omega
   ·have := (L4.at_ _ q2).old h; omega
  have hnb : ¬ (b5 = db \/ ownB (dvs.getD (at0 L i).2 undef) b5) := fun h => nb5 _ h rfl
  refine vc_drk (fun q => q = db \/ ownB (dvs.getD (at0 L i).2 undef) q) ?_
  have K7 : ∀ o, Keep (fun q => q = db \/ ownB (dvs.getD (at0 L i).2 undef) q) H6 (H6.push o) := fun o => (Keep.refl _ _).push o
  have hdl := dirL_len L i (at0 L i).2
  have happ : ∀ (Kk : Value -> Hp -> Prop), (∀ v' H8, LoA (setc H8 ⟨db, (at0 L i).2, none⟩ v') db n (dirL L (i + 1)) (dvs.set (at0 L i).2 v') H3.size -> v'.oneCell' = true -> ((cell H8 ⟨db, (at0 L i).2, none⟩).isSome = true /\ frz H8 ⟨db, (at0 L i).2, none⟩ = false) -> Keep (fun q => q = db \/ ownB (dvs.getD (at0 L i).2 undef) q) (H6.push (Obj.cells #[Value.int .i64 ((at0 L i).1 : Int)] (ι.t 26))) H8 -> Keep (fun q => q = db \/ ownB (dvs.getD (at0 L i).2 undef) q) H8 (setc H8 ⟨db, (at0 L i).2, none⟩ v') -> Keep (fun q => q = db) H3 (setc H8 ⟨db, (at0 L i).2, none⟩ v') -> Kk v' H8) →
    AppC false (ι.t 26) 1 8 #[Value.int .i64 0] (dvs.getD (at0 L i).2 undef) (.slice (some ⟨H6.size, 0, none⟩) 1 1) (H6.push (Obj.cells #[Value.int .i64 ((at0 L i).1 : Int)] (ι.t 26))) Kk := by
   intro Kk hKk
   have B7 := Bl.new' H6 #[Value.int .i64 ((at0 L i).1 : Int)] (ι.t 26)
   have M7 : Keep (fun _ => False) H6 (H6.push (Obj.cells #[Value.int .i64 ((at0 L i).1 : Int)] (ι.t 26))) := (Keep.refl _ _).push _
   generalize H6.push (Obj.cells #[Value.int .i64 ((at0 L i).1 : Int)] (ι.t 26)) = H7 at B7 M7 hKk ⊢
   have B7' : Bl H7 H6.size (iN [(at0 L i).1]) := B7
   have s7 := M7.size
   have L7 := L6.keep M7 (by simp) (by simp)
   have hs7 : SlR H7 (.slice (some ⟨H6.size, 0, none⟩) 1 1) (iN [(at0 L i).1]) := SlR.bl B7' 0 1 1 (by omega) (by simp [iN_len])
   refine app_sl (l := iN (dirL L i (at0 L i).2)) (m := iN [(at0 L i).1]) (L7.at_ _ q2) hs7 (iL_all1 _) rfl (by unfold maxLen; rw [iN_len, iN_len]; simp; omega) (by rw [iN_len, iN_len]; simp; omega) fun v' H8 O8 M8 N8 => ?_
   rw [<- iN_app] at O8
   have s8 := M8.size
   have L9 := L7.app q2 O8 M8 N8 (by omega) (by omega)
   have KD : Keep (fun q => q = db) H8 (setc H8 ⟨db, (at0 L i).2, none⟩ v') := (Keep.refl _ _).setc _ (.inl rfl)
   have odb : ¬ ownB (dvs.getD (at0 L i).2 undef) db := fun h => by have := L7.ge _ q2 _ h; omega
   obtain ⟨va, vn, vc, rfl⟩ := O8.shape
   refine hKk _ H8 ?_ rfl ?_ (M8.mono fun q _ h => .inr h) (KD.mono fun q _ h => .inl h) ?_
   ·have e : dirL L (i + 1) = fun c => if c = (at0 L i).2 then dirL L i (at0 L i).2 ++ [(at0 L i).1] else dirL L i c := by
     funext c
     rw [dirL_succ hlt]
     by_cases e : c = (at0 L i).2
     ·rw [if_pos e, if_pos e, e]
     ·rw [if_neg e, if_neg e]
    rw [e]; exact L9
   ·exact (M8.bl L7.bl odb).okSt (by rw [L7.len]; exact q2)
   ·exact (((K4.trans' K46 (fun j hj h => by omega)).trans M7.any).trans' M8 (fun j hj h => by have := L7.ge _ q2 _ h; omega)).trans KD
  have hcdp : ∀ o, cell (H6.push o) ⟨db, (at0 L i).2, none⟩ = some (dvs.getD (at0 L i).2 undef) := fun o => (L6.keep (W := fun _ => False) ((Keep.refl _ _).push o) (by simp) (by simp)).cell q2
  simp only [go_sem, zS, ↓reduceIte, Za, Zb, Zc, reduceCtorEq, kont_eq, hf, cB0, cB1, hcd, hcdp, tn_cast, Nat.mul_one, Nat.zero_add]
  refine ⟨by omega, hnb, by omega, hnb, by omega, by omega, hnb, ⟨Keep.refl _ _, K7 _, happ _ fun v' H8 g1 g2 g3 g4 g5 g6 => ?_⟩, K7 _, Keep.refl _ _, happ _ fun v' H8 g1 g2 g3 g4 g5 g6 => ?_⟩
  all_goals
   simp (disch := omega) only [go_sem, zS, ↓reduceIte, Za, Zb, Zc, reduceCtorEq, kont_eq, hf, g2, g3, g4, g5, tn_cast, Nat.mul_one, Nat.zero_add, IntWalk.i64_in]
   exact ⟨by omega, g2, L.length - (i + 1), by omega, i + 1, _, by omega, rfl, by rfl, g1, g6⟩
 ·have : i = L.length := by omega
  subst this
  have hdm : ∀ a c, a ∈ dirL L L.length c ↔ R a c = true := fun a c => by rw [<- hL]; exact dirL_mem hR
  have hdlen : ∀ c, (dirL L L.length c).length <= 65536 := fun c => Nat.le_trans (dirL_len L _ c) hgl
  generalize hls : dirL L L.length = ls at L4 hdm hdlen
  have hsn := (srt_all hR).2 hA
  have hpre := srt_pre hR
  have B4 := K4.bl B3 (by omega)
  have B14 := K4.bl B13 (by omega)
  have hcp4 : cell H4 ⟨b1, 0, none⟩ = some (.pointer (some ⟨b, 0, none⟩)) := by rw [B14.cell]; rfl
  have hc44 : cell H4 ⟨b, 4, none⟩ = some sv := by rw [B4.cell]; rfl
  have A4 := StA.new (B := H4.size) (K4.bl A3 (by omega))
  have D4 := StA.new (B := H4.size) (K4.bl D3 (by omega))
  have KB4 : Keep (fun q => q = b \/ H.size <= q) H H4 := (K03.mono fun q _ h => .inl h).trans (K4.mono fun q _ h => .inr (by omega))
  have hs4 := hs.keep KB4 (fun q hq h => by
   rcases h with h | h
   ·exact hsb q hq h
   ·have := hs.old hq; omega)
  have hs4lt : ∀ q, slB sv q -> q < H.size := fun q hq => hs.old hq
  have hT4 := hT3 KB4
  have hdb4 := L4.bl.lt
  simp only [go_sem, zS, ↓reduceIte, Za, Zb, Zc, reduceCtorEq, kont_eq, hcp4, hc44, hs.isSl, hs.len, iN_len, hsn]
  generalize hsd : srt n R = s at hs4 hsn hpre ⊢
  refine vc_loop [60, 6, 66, 67, 68, 69, 8, 103, 59, 121] rfl (fun m f A => ∃ (t : Nat) (avs bvs : List Value) (ms : List Nat), t <= n /\ m = n - t /\ f 59 = .int .i64 t /\ mks (f 121) = ms /\ ms.Nodup /\ (∀ q ∈ ms, H4.size <= q /\ A[q]? = some (.deferred (some []))) ∧
   StA A ab n (abvP R (s.take t)) avs H4.size /\ StA A bb n (blwP R (s.take t)) bvs H4.size /\ Keep (fun q => q = ab \/ q = bb) H4 A) n ?_ ?_
  ·refine ⟨0, _, _, [], by omega, by omega, by simp only [go_sem, zS, ↓reduceIte, Za, Zb, Zc, reduceCtorEq, kont_eq]; rfl, by rfl, List.nodup_nil, by simp, A4.congr fun i hi x => by simp [abvP], D4.congr fun i hi x => by simp [blwP], Keep.refl _ _⟩
  rintro m g H5 ⟨t, avs, bvs, ms, htn, rfl, hf, hms, hnd, hmk, A5, D5, K5⟩
  have s5 := K5.size
  simp only [go_sem, zS, ↓reduceIte, Za, Zb, Zc, reduceCtorEq, kont_eq] at hf hms
  simp only [go_sem, zS, ↓reduceIte, Za, Zb, Zc, reduceCtorEq, hf]
  refine iteV_dec (fun hlt => ?_) (fun hge => ?_)
  ·have hlt : t < s.length := by omega
   have hs5 := hs4.keep K5 (fun q hq h => by have := hs4lt q hq; omega)
   obtain ⟨sb, so, sc, rfl, -, -⟩ := hs5.cells (by intro e; have := congrArg List.length e; rw [iN_len, List.length_nil] at this; omega)
   have hcs := hs5.cell_at (i := t) (by rw [iN_len]; exact hlt)
   obtain ⟨b0, hb0⟩ : ∃ b0, b0 = s[t] := ⟨_, rfl⟩
   have hcs : cell H5 ⟨sb, so + t, none⟩ = some (.int .i64 (b0 : Int)) := by
    rw [hcs, hb0]; simp [iN, iL, hlt]
   have hb0n : b0 < n := by rw [hb0]; exact hpre.lt _ (List.getElem_mem _)
   simp only [go_sem, zS, ↓reduceIte, Za, Zb, Zc, reduceCtorEq, zF, tn_cast, Nat.mul_one, hcs, iN_len]
   refine ⟨by omega, ?_⟩
   refine kont_new fun H6 b6 e6 z6 B6 K6 => ?_
   have s6 := K6.size
   have hst6 := B6.okSt (o := 0) (by simp)
   have B7 := B6.setc 0 (.int .i64 (b0 : Int))
   have K7 : Keep (fun q => q = b6) H6 (setc H6 ⟨b6, 0, none⟩ (.int .i64 (b0 : Int))) := (Keep.refl _ _).setc _ (.inl rfl)
   simp only [go_sem, zS, ↓reduceIte, Za, Zb, Zc, reduceCtorEq, zF, hst6]
   rw [kont_eq]
   generalize setc H6 ⟨b6, 0, none⟩ (.int .i64 (b0 : Int)) = H7 at B7 K7 ⊢
   have s7 := K7.size
   have K57 : Keep (fun q => q = b6) H5 H7 := (K6.any (W := fun q => q = b6)).trans K7
   have c6 : cell H7 ⟨b6, 0, none⟩ = some (.int .i64 (b0 : Int)) := by rw [B7.cell]; rfl
   have L7 : LoA H7 db n ls dvs H3.size := (L4.keep K5 (by omega) (fun q h1 h2 e => by omega)).keep K57 (by omega) (fun q h1 h2 e => by omega)
   have cdb := L7.cell hb0n
   have OL := L7.at_ b0 hb0n
   have A7 := A5.keep K57 (by omega) (fun q h1 h2 e => by omega)
   have D7 := D5.keep K57 (by omega) (fun q h1 h2 e => by omega)
   have hm7 : ∀ q ∈ ms, H7[q]? = some (.deferred (some [])) := fun q hq => by
    have h := (hmk q hq).2
    have hlt := (Array.getElem?_eq_some_iff.1 h).1
    rw [K57.at_ q hlt (by omega)]; exact h
   have K47 : Keep (fun q => q = ab \/ q = bb) H4 H7 := K5.trans' K57 (fun j hj h => by omega)
   have B14' := K47.bl B14 (by omega)
   have B4' := K47.bl B4 (by omega)
   have hT7 := hT3 (KB4.trans (K47.mono fun q _ h => .inr (by omega)))
   have hT7' : ∀ {A : Hp} {W : Nat -> Prop}, Keep W H7 A -> (∀ q, q < H.size -> ¬ W q) -> TabOk ι A := fun K hw => K.bl hT7 (hw _ (show Bl H (ι.g 125) _ from hT).lt)
   have htk : s.take (t + 1) = s.take t ++ [b0] := by rw [List.take_succ_eq_append_getElem hlt, hb0]
   have hb0t : b0 ∉ s.take t := fun hm => by
    obtain ⟨q, hq, e⟩ := List.getElem_of_mem hm
    rw [List.length_take] at hq
    rw [List.getElem_take] at e
    have := List.pairwise_iff_getElem.1 hpre.nd q t (by omega) hlt (by omega)
    exact this (by rw [e, hb0])
   have hpr : ∀ a, R a b0 = true -> a ∈ s.take t := fun a ha => hpre.closed hR hlt (by rw [<- hb0]; exact ha)
   simp only [go_sem, zS, ↓reduceIte, Za, Zb, Zc, reduceCtorEq, kont_eq, c6, tn_cast, Nat.mul_one, Nat.zero_add, cdb, OL.sl.isSl, OL.sl.len, iN_len]
   refine ⟨by omega, ?_⟩
   refine vc_loop [69, 8, 68] rfl (fun m f A => ∃ (j : Nat) (avs' : List Value), j <= (ls b0).length /\ m = (ls b0).length - j /\ f 68 = .int .i64 j /\ StA A ab n (fun i => if i = b0 then uniP R ((ls b0).take j) else abvP R (s.take t) i) avs' H4.size /\ Keep (fun q => q = ab) H7 A) (ls b0).length ?_ ?_
   ·refine ⟨0, _, by omega, by omega, by simp only [go_sem, zS, ↓reduceIte, Za, Zb, Zc, reduceCtorEq, kont_eq]; rfl, A7.congr fun i hi x => ?_, Keep.refl _ _⟩
    by_cases e : i = b0
    ·subst e; simp [abvP, uniP, hb0t]
    ·simp [e]
   rintro m f H8 ⟨j, avs8, hj, rfl, hf8, A8, K8⟩
   have s8 := K8.size
   simp only [go_sem, zS, ↓reduceIte, Za, Zb, Zc, reduceCtorEq, kont_eq] at hf8
   simp only [go_sem, zS, ↓reduceIte, Za, Zb, Zc, reduceCtorEq, hf8]
   refine iteV_dec (fun hlt2 => ?_) (fun hge2 => ?_)
   ·have hjl : j < (ls b0).length := by omega
    have L8 : LoA H8 db n ls dvs H3.size := L7.keep K8 (by omega) (fun q h1 h2 e => by omega)
    have O8 := L8.at_ b0 hb0n
    obtain ⟨lb, lo, lc, hlv, -, -⟩ := O8.sl.cells (by intro e; have := congrArg List.length e; rw [iN_len, List.length_nil] at this; omega)
    have O8' := O8.sl
    rw [hlv] at O8'
    have hcl := O8'.cell_at (i := j) (by rw [iN_len]; exact hjl)
    obtain ⟨a, ha⟩ : ∃ a, a = (ls b0)[j] := ⟨_, rfl⟩
    have hcl : cell H8 ⟨lb, lo + j, none⟩ = some (.int .i64 (a : Int)) := by
     rw [hcl, ha]; simp [iN, iL, hjl]
    have hRa : R a b0 = true := (hdm a b0).1 (by rw [ha]; exact List.getElem_mem _)
    have han := (hR _ _ hRa).1
    have hat := hpr a hRa
    have hab0 : a ≠ b0 := fun e => hb0t (e ▸ hat)
    have B18 := K8.bl B14' (by omega)
    have B48 := K8.bl B4' (by omega)
    have B68 := K8.bl B7 (by omega)
    have cp8 : cell H8 ⟨b1, 0, none⟩ = some (.pointer (some ⟨b, 0, none⟩)) := by rw [B18.cell]; rfl
    have c28 : cell H8 ⟨b, 2, none⟩ = some (.slice (some ⟨ab, 0, none⟩) n n) := by rw [B48.cell]; rfl
    have c68 : cell H8 ⟨b6, 0, none⟩ = some (.int .i64 (b0 : Int)) := by rw [B68.cell]; rfl
    simp only [go_sem, zS, ↓reduceIte, Za, Zb, Zc, reduceCtorEq, kont_eq, hf8, hlv, tn_cast, Nat.mul_one, Nat.zero_add, hcl, iN_len]
    refine ⟨by omega, ?_⟩
    refine vc_drk (fun q => q = ab) ?_
    have nab : ¬ b1 = ab /\ ¬ b = ab /\ ¬ b6 = ab := ⟨by omega, by omega, by omega⟩
    simp only [go_sem, zS, ↓reduceIte, Za, Zb, Zc, reduceCtorEq, kont_eq, hf8, cp8, c28, c68, tn_cast, Nat.mul_one, Nat.zero_add, ldNO_ptr, A8.ld hb0n, A8.ld han, nab.1, nab.2.1, nab.2.2]
    have SA := A8.at_ b0 hb0n
    have SB := A8.at_ a han
    simp only [if_pos rfl] at SA
    rw [if_neg hab0] at SB
    refine ⟨by omega, by omega, ⟨Keep.refl _ _, Keep.refl _ _, (hor _ _ _ _ H8 SA SB).mono ?_⟩, Keep.refl _ _, Keep.refl _ _, (hor _ _ _ _ H8 SA SB).mono ?_⟩
    all_goals
     rintro r H9 ⟨S9, K9, g9⟩
     simp only [go_sem, zS, ↓reduceIte, Za, Zb, Zc, reduceCtorEq, kont_eq]
     refine ⟨K9.any, (hwi _ _ (a : Int) H9 S9).mono ?_⟩
     rintro r HA ⟨S10, K10, g10⟩
     obtain ⟨v, Wd, rfl, hV⟩ := S10
     have s9 := K9.size
     have s10 := K10.size
     have A10 : StA HA ab n (fun i => if i = b0 then uniP R ((ls b0).take j) else abvP R (s.take t) i) avs8 H4.size := (A8.keep K9 (by simp) (by simp)).keep K10 (by simp) (by simp)
     have hvb : ∀ q, slB v q -> H4.size <= q := fun q hq => by
      rcases g10 q hq with h | h
      ·have := g9 q h; omega
      ·omega
     have A11 := A10.st hb0n ⟨v, Wd, rfl, hV⟩ hvb (by omega)
     have ok10 := A10.ok hb0n
     have K11 : Keep (fun q => q = ab) HA (stNA HA ⟨ab, b0, none⟩ [v]) := (Keep.refl _ _).stNA _ (.inl rfl)
     have hone : all1 #[v] := hV.sl.one
     simp (disch := omega) only [go_sem, zS, ↓reduceIte, Za, Zb, Zc, reduceCtorEq, kont_eq, hf8, tn_cast, Nat.mul_one, Nat.zero_add, okN_ptr, stNH_ptr, cells_agg, IntWalk.i64_in]
     have hlb := hdlen b0
     refine ⟨K10.any, by omega, ⟨ok10, hone⟩, K11, (ls b0).length - (j + 1), by omega, j + 1, _, by omega, rfl, by rw [IntWalk.i64_in _ (by omega)]; rfl, A11.congr fun i hi x => ?_, ((K8.trans K9.any).trans K10.any).trans K11⟩
     by_cases e : i = b0
     ·subst e
      simp only [if_true]
      rw [List.take_succ_eq_append_getElem hjl, uniP_snoc, <- ha]
      unfold withP abvP
      have e1 : decide (((x : Nat) : Int) = (a : Int)) = decide (x = a) := by rw [decide_eq_decide]; omega
      rw [e1]
      by_cases ex : x = a
      ·subst ex; simp [hat]; omega
      ·simp [ex, hat]
     ·simp only [if_neg e]
   ·have : j = (ls b0).length := by omega
    subst this
    have A9 : StA H8 ab n (abvP R (s.take (t + 1))) avs8 H4.size := A8.congr fun i hi x => by
     by_cases e : i = b0
     ·subst e
      simp only [if_true, List.take_length]
      rw [uniP_all (fun a => hdm a i) x]
      unfold abvP
      rw [htk]; simp
     ·simp only [if_neg e]
      unfold abvP
      rw [htk]
      simp [e]
    have B18 := K8.bl B14' (by omega)
    have B48 := K8.bl B4' (by omega)
    have B68 := K8.bl B7 (by omega)
    have cp8 : cell H8 ⟨b1, 0, none⟩ = some (.pointer (some ⟨b, 0, none⟩)) := by rw [B18.cell]; rfl
    have c28 : cell H8 ⟨b, 2, none⟩ = some (.slice (some ⟨ab, 0, none⟩) n n) := by rw [B48.cell]; rfl
    have c68 : cell H8 ⟨b6, 0, none⟩ = some (.int .i64 (b0 : Int)) := by rw [B68.cell]; rfl
    have D8 := D7.keep K8 (by omega) (fun q h1 h2 e => by omega)
    have SA := A9.at_ b0 hb0n
    obtain ⟨v0, W0, hv0, hV0⟩ := SA
    simp only [Value.agg.injEq, Array.mk.injEq, List.cons.injEq, and_true] at hv0
    have hm8 : ∀ q ∈ ms, H8[q]? = some (.deferred (some [])) := fun q hq => by
     have h := hm7 q hq
     have hlt := (Array.getElem?_eq_some_iff.1 h).1
     rw [K8.at_ q hlt (fun e => by
      obtain ⟨T, hb⟩ := A7.bl
      have e : q = ab := e
      rw [e] at h; rw [hb] at h; cases h)]
     exact h
    simp only [go_sem, zS, ↓reduceIte, Za, Zb, Zc, reduceCtorEq, kont_eq, cp8, c28, c68, tn_cast, Nat.mul_one, Nat.zero_add, ldNO_ptr, A9.ld hb0n]
    refine ⟨by omega, (ha _ H8).mono ?_⟩
    rintro r H9 ⟨rfl, B9, K9, s9⟩
    simp only [go_sem, zS, ↓reduceIte, Za, Zb, Zc, reduceCtorEq, kont_eq]
    have s9' := K9.size
    have A10 := A9.keep K9 (by simp) (by simp)
    have D10 := D8.keep K9 (by simp) (by simp)
    have hV9 : SetV H9 v0 W0 (abvP R (s.take (t + 1)) b0) := hV0.keep K9 (by simp)
    have hpq : ∀ a, abvP R (s.take (t + 1)) b0 a = tcB R a b0 := fun a => by unfold abvP; rw [htk]; simp
    generalize hp' : abvP R (s.take (t + 1)) b0 = p at hV9 hpq
    have B9' : Bl H9 H8.size [v0] := by rw [<- hv0]; exact B9
    have hmem : ∀ a ∈ mems p, R a b0 = R a b0 /\ a < n /\ tcB R a b0 = true := fun a h => by
     obtain ⟨h1, h2⟩ := mem_mems.1 h
     rw [hpq] at h2
     exact ⟨rfl, (hR.tc (tcB_iff.1 h2)).1, h2⟩
    have B19 := K9.bl B18 (by simp)
    have B49 := K9.bl B48 (by simp)
    have B69 := K9.bl B68 (by simp)
    have hb6 := B7.lt
    have hT9 : TabOk ι H9 := hT7' (K8.trans K9.any) (fun q hq e => by omega)
    refine vc_rf (fun q => q = bb) (fun k A => ∃ bvs', StA A bb n (fun a y => blwP R (s.take t) a y || (decide (y = b0) && decide (a ∈ (mems p).take k))) bvs' H4.size /\ ∀ i < n, ∀ q, slB (bvs'.getD i undef) q -> q < H9.size \/ H9.size + 2 <= q) (fun _ _ => False) (G := fun H => TabOk ι H /\ Bl H H8.size [v0] /\ SetV H v0 W0 p) (by simp only [go_sem, zS, ↓reduceIte, Za, Zb, Zc, reduceCtorEq, kont_eq]; rfl) hb1 (ball1_ok hY htz) (by omega) ?_ ?_ ?_ ?_ ?_ ?_ ?_
    ·rintro k A KA _
     refine ⟨KA.bl hT9 (by have := (show Bl H (ι.g 125) _ from hT).lt; omega), KA.bl B9' (by omega), hV9.keep KA fun q hq e => ?_⟩
     have h1 := A10.ge b0 hb0n q (by rw [hv0]; exact hq)
     omega
    ·intro A KA hs0
     refine ⟨bvs, (D10.keep KA (by simp) (by simp)).congr fun i hi x => by simp, fun i hi q hq => .inl ?_⟩
     exact (D10.at_ i hi).old hq
    ·rintro k A A' hs0 KA ⟨bvs', g1, g2⟩ K
     exact ⟨bvs', ⟨K.bl g1.bl (by omega), g1.len, fun i hi => (g1.at_ i hi).keep K fun q hq e => by have := g2 i hi q hq; omega, g1.ge⟩, g2⟩
    ·rintro e A A2 hs KA h; exact h.elim
    ·rintro k A hk KA hs0 ⟨bvs', g1, g2⟩
     have hkl : k < (mems p).length := by simpa [memL] using hk
     obtain ⟨a, ha⟩ : ∃ a, a = (mems p)[k] := ⟨_, rfl⟩
     have hxv : (memL p).getD k undef = .int .i64 (a : Int) := by
      rw [List.getD_eq_getElem?_getD, List.getElem?_eq_getElem hk]
      simp [memL, ha]
     rw [hxv]
     obtain ⟨_, han, hta⟩ := hmem a (by rw [ha]; exact List.getElem_mem _)
     have hab0 : a ≠ b0 := fun e => by subst e; exact hA a (tcB_iff.1 hta)
     have B1A := KA.bl B19 (by omega)
     have B4A := KA.bl B49 (by omega)
     have B6A := KA.bl B69 (by omega)
     have cpA : cell A ⟨b1, 0, none⟩ = some (.pointer (some ⟨b, 0, none⟩)) := by rw [B1A.cell]; rfl
     have c3A : cell A ⟨b, 3, none⟩ = some (.slice (some ⟨bb, 0, none⟩) n n) := by rw [B4A.cell]; rfl
     have c6A : cell A ⟨b6, 0, none⟩ = some (.int .i64 (b0 : Int)) := by rw [B6A.cell]; rfl
     simp only [go_sem, zS, ↓reduceIte, Za, Zb, Zc, reduceCtorEq, kont_eq]
     refine vc_drk (fun q => q = bb) ?_
     have nbb : ¬ b1 = bb /\ ¬ b = bb /\ ¬ b6 = bb := ⟨by omega, by omega, by omega⟩
     simp only [go_sem, zS, ↓reduceIte, Za, Zb, Zc, reduceCtorEq, kont_eq, cpA, c3A, c6A, tn_cast, Nat.mul_one, Nat.zero_add, ldNO_ptr, g1.ld han, nbb.1, nbb.2.1, nbb.2.2]
     refine ⟨by omega, Keep.refl _ _, (hwi _ _ (b0 : Int) A (g1.at_ a han)).mono ?_⟩
     rintro r A1 ⟨S1, L1, l1⟩
     obtain ⟨v, Wd, rfl, hV⟩ := S1
     have t1 := L1.size
     have G1 := g1.keep L1 (by simp) (by simp)
     have hvb : ∀ q, slB v q -> H4.size <= q /\ (q < H9.size \/ H9.size + 2 <= q) := fun q hq => by
      rcases l1 q hq with h | h
      ·exact ⟨g1.ge a han q h, g2 a han q h⟩
      ·exact ⟨by omega, by omega⟩
     have G2 := G1.st han ⟨v, Wd, rfl, hV⟩ (fun q hq => (hvb q hq).1) (by omega)
     have okA := G1.ok han
     have M2 : Keep (fun q => q = bb) A1 (stNA A1 ⟨bb, a, none⟩ [v]) := (Keep.refl _ _).stNA _ (.inl rfl)
     have hone : all1 #[v] := hV.sl.one
     simp only [go_sem, zS, ↓reduceIte, Za, Zb, Zc, reduceCtorEq, kont_eq, tn_cast, Nat.mul_one, Nat.zero_add, okN_ptr, stNH_ptr, cells_agg]
     refine ⟨L1.any, by omega, ⟨okA, hone⟩, M2, L1.any.trans (M2.mono fun q _ h => .inl h), _, G2.congr fun i hi x => ?_, fun i hi q hq => ?_⟩
     ·rw [List.take_succ_eq_append_getElem hkl, <- ha]
      by_cases e : i = a
      ·subst e
       simp only [if_true]
       unfold withP
       have e1 : decide (((x : Nat) : Int) = (b0 : Int)) = decide (x = b0) := by rw [decide_eq_decide]; omega
       rw [e1]
       by_cases ex : x = b0
       ·subst ex; simp; omega
       ·simp [ex]
      ·simp only [if_neg e]
       simp [e]
     ·by_cases e : i = a
      ·subst e
       rw [List.getD_eq_getElem?_getD, List.getElem?_set_self (by rw [g1.len]; exact hi)] at hq
       exact (hvb q hq).2
      ·rw [List.getD_eq_getElem?_getD, List.getElem?_set_ne (fun h => e h.symm), <- List.getD_eq_getElem?_getD] at hq
       exact g2 i hi q hq
    ·rintro A KA hs0 hd ⟨bvs', g1, g2⟩
     simp (disch := omega) only [go_sem, zS, ↓reduceIte, Za, Zb, Zc, reduceCtorEq, kont_eq, hf, hms, IntWalk.i64_in]
     have hms8 : ∀ q ∈ ms, q < H8.size := fun q hq => (Array.getElem?_eq_some_iff.1 (hm8 q hq)).1
     refine ⟨n - (t + 1), by omega, t + 1, avs8, bvs', H9.size :: ms, by omega, rfl, by rfl, ?_, ?_, ?_, (by rw [<- htk] at *; exact A10.keep KA (by omega) (fun q h1 h2 e => by omega)), g1.congr fun i hi x => ?_, ?_⟩
     ·rfl
     ·exact List.nodup_cons.2 ⟨fun h => by have := hms8 _ h; omega, hnd⟩
     ·intro q hq
      rcases List.mem_cons.1 hq with e | hq
      ·subst e; exact ⟨by omega, hd⟩
      ·refine ⟨(hmk q hq).1, ?_⟩
       have := hms8 q hq
       rw [KA.at_ q (by omega) (fun e => by
        have e : q = bb := e
        obtain ⟨T, hb⟩ := D8.bl
        have h := hm8 q hq
        rw [e] at h; rw [hb] at h; cases h), K9.at_ q (by omega) (by simp)]
       exact hm8 q hq
     ·have e0 : (mems p).take (memL p).length = mems p := List.take_of_length_le (by simp [memL])
      rw [e0]
      unfold blwP
      rw [htk]
      have em : decide (i ∈ mems p) = tcB R i b0 := by
       rw [Bool.eq_iff_iff, decide_eq_true_iff, mem_mems, hpq]
       exact ⟨fun h => h.2, fun h => ⟨by omega, h⟩⟩
      rw [em]
      by_cases e : x = b0
      ·subst e; simp [hb0t]
      ·simp [e]
     ·exact ((K47.trans (K8.mono fun q _ h => .inl h)).trans K9.any).trans (KA.mono fun q _ h => .inr h)
    ·rintro e A _ _ _ h; exact h.elim
  ·have ht : t = n := by omega
   subst ht
   have hall : ∀ i, i < t -> i ∈ s.take t := fun i hi => by
    rw [List.take_of_length_le (by omega)]
    exact nodup_full hpre.nd hpre.lt (by omega) hi
   simp only [go_sem, zS, ↓reduceIte, Za, Zb, Zc, reduceCtorEq, kont_eq, hms]
   refine ⟨hnd, fun m hm => (hmk m hm).2, fun A2 ha2 hb2 => ?_⟩
   have M : Keep (fun q => q ∈ ms) H5 A2 := ⟨by omega, fun q _ h => hb2 q h⟩
   have hm5 : ∀ q ∈ ms, H5[q]? = some (.deferred (some [])) := fun q hq => (hmk q hq).2
   have B5 := K5.bl B4 (by omega)
   refine ⟨⟨ab, bb, avs, bvs, H4.size, M.bl B5 (fun h => by have := (hmk b h).1; omega), (A5.congr fun i hi x => ?_).keepM M hm5, (D5.congr fun i hi x => ?_).keepM M hm5, by omega, by omega, by omega⟩, ?_⟩
   ·unfold abvP; simp [hall i hi]
   ·unfold blwP
    cases hx : tcB R i x with
    | false => simp
    | true => simp [hall x (hR.tc (tcB_iff.1 hx)).2]
   ·exact ((KB4.trans' K5 (fun j hj h => by omega)).trans' M (fun j hj h => by have := (hmk j h).1; omega)).mono fun q hq h => by omega
end Go.Mg
namespace Go.Mg
open Go Go.RowKit
set_option linter.all false
set_option maxRecDepth 100000
def c_onew (ι : Ids) : S :=
 .seq (.reg [.p (.v 4) (.mv (.c (.pointer .none))), .p (.v 5) (.mv (.c (.int .i64 0)))]) (.seq (.seq (.reg [.p (.t 10) (.mv (.v 0)), .p (.t 11) (.cm .lss .i64 (.t 10) (.c (.int .i64 0))), .p (.t 12)
 (.mv (.t 11)), .gp (.t 13) (.t 12) false (.mv (.v 0)), .gp (.t 14) (.t 12) false (.cm .gtr .i64 (.t 13) (.c (.int .i64 256))), .p (.v 15) (.pick (.t 12) (.c (.bool true)) (.t 14))]) (.ite (.v 15)
 (.seq (.reg [.p (.v 4) (.mv (.c (.pointer .none))), .p (.v 5) (.mv (.c (.int .i64 1)))]) .ret) .skip)) (.seq (.seq (.reg [.p (.v 16) (.mv (.v 1)), .p (.v 17) (.m (.lenl (.v 16))), .p (.v 18) (.mv (.c
 (.int .i64 0)))]) (.blk 0 (.loop (.seq (.reg [.p (.v 19) (.cm .lss .i64 (.v 18) (.v 17))]) (.seq (.ite (.v 19) .skip (.exit 0)) (.seq (.blk 1 (.seq (.reg [.p (.t 20) (.is 2 (.v 16) (.v 18)), .p (.t
 21) (.m (.ldn 2 (.t 20))), .e (.v 7) (.new (ι.t 194) #[.int .i64 0, .int .i64 0]), .e .no (.stn 2 (.v 7) (.t 21))]) (.seq (.reg [.p (.t 22) (.ia 2 1 (.v 7) (.c (.int .i64 0))), .p (.t 23) (.ld (.t
 22)), .p (.t 24) (.ia 2 1 (.v 7) (.c (.int .i64 1))), .p (.t 25) (.ld (.t 24)), .p (.t 26) (.m (.mn (.t 23) (.t 25))), .p (.t 27) (.cm .lss .i64 (.t 26) (.c (.int .i64 0))), .p (.t 28) (.mv (.t 27)),
 .gp (.t 29) (.t 28) false (.ia 2 1 (.v 7) (.c (.int .i64 0))), .gp (.t 30) (.t 28) false (.ld (.t 29)), .gp (.t 31) (.t 28) false (.ia 2 1 (.v 7) (.c (.int .i64 1))), .gp (.t 32) (.t 28) false (.ld
 (.t 31)), .gp (.t 33) (.t 28) false (.m (.mx (.t 30) (.t 32))), .gp (.t 34) (.t 28) false (.mv (.v 0)), .gp (.t 35) (.t 28) false (.cm .geq .i64 (.t 33) (.t 34)), .p (.v 36) (.pick (.t 28) (.c (.bool
 true)) (.t 35))]) (.ite (.v 36) (.seq (.reg [.p (.v 4) (.mv (.c (.pointer .none))), .p (.v 5) (.mv (.c (.int .i64 2)))]) .ret) .skip)))) (.reg [.p (.t 37) (.ar .add .i64 (.v 18) (.c (.int .i64 1))),
 .p (.v 18) (.mv (.t 37))]))))))) (.seq (.reg [.e (.t 38) (.bldF (ι.t 194) 2 0 []), .p (.t 39) (.mv (.v 1)), .e (.t 40) (.app false (ι.t 194) 2 16 #[.int .i64 0, .int .i64 0] (.t 38) (.t 39)), .p (.v
 8) (.mv (.t 40))]) (.seq (.reg [.p (.t 41) (.mv (.v 8)), .e (.t 42) (.call (ι.f 198) [.t 41, .c (.func (.func (ι.f 200)) #[] #[])])]) (.seq (.reg [.p (.t 43) (.mv (.v 0)), .p (.t 44) (.mv (.v 8)), .e
 (.t 45) (.call (ι.f 193) [.t 44]), .e (.t 46) (.call (ι.f 192) [.t 45]), .p (.t 47) (.m (.bld #[.int .i64 0, .slice .none 0 0, .slice .none 0 0, .slice .none 0 0, .slice .none 0 0] [(0, (1, .t 43)),
 (1, (1, .t 46))])), .e (.t 48) (.box (ι.t 199) (.t 47)), .p (.v 9) (.mv (.t 48))]) (.seq (.seq (.reg [.p (.t 49) (.mv (.v 9)), .e (.t 50) (.call (ι.f 195) [.t 49]), .p (.v 51) (.not (.t 50))]) (.ite
 (.v 51) (.seq (.reg [.p (.v 4) (.mv (.c (.pointer .none))), .p (.v 5) (.mv (.c (.int .i64 16)))]) .ret) .skip)) (.seq (.reg [.p (.t 52) (.mv (.v 9)), .e (.t 53) (.call (ι.f 197) [.t 52])]) (.seq (.reg
 [.p (.t 54) (.mv (.v 9)), .p (.v 4) (.mv (.t 54)), .p (.v 5) (.mv (.c (.int .i64 0)))]) .ret))))))))
def r_onew : List RV := [.t 4, .t 5]
theorem wrA50 (a b c d e x : Value) : wrA #[a, b, c, d, e] 0 [x] = #[x, b, c, d, e] := rfl
theorem wrA51 (a b c d e x : Value) : wrA #[a, b, c, d, e] 1 [x] = #[a, x, c, d, e] := rfl
theorem SlE.conv {α β : Type} {enc : α -> List Value} {enc' : β -> List Value} {k : Nat} {H : Hp} {v : Value} {l : List α} {l' : List β} (h : SlE enc k H v l) (e : l'.length = l.length) (f : l'.flatMap enc' = l.flatMap enc) : SlE enc' k H v l' := by
 rcases h with ⟨a, c, rfl, rfl⟩ | ⟨b, o, c, hl, rfl, h0, C, T, z, h1, h2, h3⟩
 ·have : l' = [] := List.eq_nil_of_length_eq_zero (by simpa using e)
  subst this; exact SlE.nil _ _ _
 ·exact .inr ⟨b, o, c, fun h => by subst h; exact hl (List.eq_nil_of_length_eq_zero (by simpa using e.symm)), by rw [e], by omega, C, T, z, h1, by rw [e]; exact h2, by rw [e, f]; exact h3⟩
def OrdV (H : Hp) (v : Value) (n : Nat) (R : Nat -> Nat -> Bool) : Prop := n <= 256 /\ Rng n R /\ Acy R /\ ∃ b pv sv ab bb avs bvs C, v = .pointer (some ⟨b, 0, none⟩) /\ Bl H b [.int .i64 (n : Int), pv, .slice (some ⟨ab, 0, none⟩) n n, .slice (some ⟨bb, 0, none⟩) n n, sv] ∧
 SlE nE 2 H pv (gridP n R) /\ StA H ab n (fun i x => tcB R x i) avs C /\ StA H bb n (fun i x => tcB R i x) bvs C /\ SlR H sv (iN (srt n R))
theorem OrdV.keep0 {H H' : Hp} {v : Value} {n : Nat} {R : Nat -> Nat -> Bool} (h : OrdV H v n R) (hk : Keep (fun _ => False) H H') : OrdV H' v n R := by
 obtain ⟨h1, h2, h3, b, pv, sv, ab, bb, avs, bvs, C, e, g1, g2, g3, g4, g5⟩ := h
 exact ⟨h1, h2, h3, b, pv, sv, ab, bb, avs, bvs, C, e, hk.bl g1 (by simp), g2.keep0 hk, g3.keep hk (by simp) (by simp), g4.keep hk (by simp) (by simp), g5.keep hk (by simp)⟩
theorem Bl.uniq {H : Hp} {b : Nat} {l m : List Value} (h : Bl H b l) (k : Bl H b m) : l = m := by
 obtain ⟨T, h⟩ := h
 obtain ⟨T', k⟩ := k
 rw [h] at k
 simp only [Option.some.injEq, Obj.cells.injEq] at k
 have := congrArg Array.toList k.1
 simpa using this
def frV (B : Nat) (H : Hp) (v : Value) : Prop := ∀ b n ab bb pv sv, v = .pointer (some ⟨b, 0, none⟩) -> Bl H b [.int .i64 ((n : Nat) : Int), pv, .slice (some ⟨ab, 0, none⟩) n n, .slice (some ⟨bb, 0, none⟩) n n, sv] -> B <= b /\ B <= ab /\ B <= bb /\ (∀ q, slB pv q -> B <= q) /\ (∀ q, slB sv q -> B <= q) ∧
 ∀ vs, (Bl H ab vs \/ Bl H bb vs) -> ∀ i < n, ∀ q, slB (vs.getD i undef) q -> B <= q
def frN (B : Nat) (H : Hp) (r : Value) : Prop := ∀ v e, r = .tuple #[v, e] -> frV B H v
theorem frV.mono {B B' : Nat} {H : Hp} {v : Value} (h : frV B H v) (hb : B' <= B) : frV B' H v := fun b n ab bb pv sv e h1 => by
 obtain ⟨k1, k2, k3, k4, k5, k6⟩ := h b n ab bb pv sv e h1
 exact ⟨by omega, by omega, by omega, fun q hq => Nat.le_trans hb (k4 q hq), fun q hq => Nat.le_trans hb (k5 q hq), fun vs hv i hi q hq => Nat.le_trans hb (k6 vs hv i hi q hq)⟩
theorem frN.mono {B B' : Nat} {H : Hp} {v : Value} (h : frN B H v) (hb : B' <= B) : frN B' H v := fun v e he => (h v e he).mono hb
theorem frN.z (B : Nat) (H : Hp) (e : Value) : frN B H (.tuple #[.pointer none, e]) := fun v e' he b n ab bb pv sv hv => by
 simp only [Value.tuple.injEq, Array.mk.injEq, List.cons.injEq] at he
 rw [<- he.1] at hv
 cases hv
def relI (L : List (Int × Int)) (a b : Nat) : Bool := decide ((((a : Nat) : Int), ((b : Nat) : Int)) ∈ L)
def okP (n : Int) (p : Int × Int) : Prop := 0 <= p.1 /\ p.1 < n /\ 0 <= p.2 /\ p.2 < n
def badN (n : Int) : Prop := n < 0 \/ 256 < n
def NewRes (n : Int) (L : List (Int × Int)) (r : Value) (H : Hp) : Prop :=
 (badN n /\ r = .tuple #[.pointer none, .int .i64 1]) \/ (¬ badN n /\ (¬ ∀ p ∈ L, okP n p) /\ r = .tuple #[.pointer none, .int .i64 2]) ∨
 (¬ badN n /\ (∀ p ∈ L, okP n p) /\ ¬ Acy (relI L) /\ r = .tuple #[.pointer none, .int .i64 16]) ∨
 (¬ badN n /\ (∀ p ∈ L, okP n p) /\ Acy (relI L) /\ ∃ pv, r = .tuple #[pv, .int .i64 0] /\ OrdV H pv n.toNat (relI L))
def toN (p : Int × Int) : NP := (p.1.toNat, p.2.toNat)
theorem toN_flat {n : Int} : ∀ {L : List (Int × Int)}, (∀ p ∈ L, okP n p) -> (L.map toN).flatMap nE = L.flatMap pE
 | [], _ => rfl
 | p :: L, h => by
  obtain ⟨h1, h2, h3, h4⟩ := h p (by simp)
  rw [List.map_cons, List.flatMap_cons, List.flatMap_cons, toN_flat fun q hq => h q (by simp [hq])]
  congr 1
  simp only [nE, toN, pE, Int.toNat_of_nonneg h1, Int.toNat_of_nonneg h3]
theorem toN_rel {n : Int} {L : List (Int × Int)} (h : ∀ p ∈ L, okP n p) : inP (L.map toN) = relI L := by
 funext a b
 unfold inP relI
 rw [decide_eq_decide, List.mem_map]
 constructor
 ·rintro ⟨p, hp, e⟩
  obtain ⟨h1, _, h3, _⟩ := h p hp
  simp only [toN, Prod.mk.injEq] at e
  have : p = ((a : Int), (b : Int)) := Prod.ext (by simp; omega) (by simp; omega)
  rw [<- this]; exact hp
 ·intro hp
  exact ⟨_, hp, by simp [toN]⟩
def ONewSpec (P : Program) (ι : Ids) (k : FuncId) : Prop := ∀ (n : Int) (L : List (Int × Int)) (v : Value) (H : Hp), TabOk ι H -> SlP H v L -> L.length < 1000000 -> CallsM P k #[.int .i64 n, v] H fun r H' => NewRes n L r H' /\ Keep (fun _ => False) H H' /\ frN H.size H' r
theorem onew_ok {P : Program} {ι : Ids} {k : FuncId} (hk : FnIs P k (c_onew ι) r_onew 2) (hso : PSortSpec P (ι.f 198) (ι.f 200)) (hcl : ClipSpec P (ι.f 192)) (hco : CompSpec P (ι.f 193)) (hos : OSortSpec P (ι.f 195)) (hre : RelSpec P ι (ι.f 197)) : ONewSpec P ι k := by
 intro n L v H hT hv hn
 refine calls_of_vc hk (args := [_, _]) (by simp) ?_
 unfold c_onew r_onew
 by_cases hn0 : n < 0
 ·have e1 : decide (n < 0) = true := decide_eq_true hn0
  simp only [go_sem, zS, ↓reduceIte, Za, Zb, Zc, reduceCtorEq, kont_eq, e1, Bool.not_true]
  exact ⟨.inl ⟨.inl hn0, rfl⟩, Keep.refl _ _, frN.z _ _ _⟩
 have e1 : decide (n < 0) = false := decide_eq_false hn0
 by_cases hn2 : n > 256
 ·have e2 : decide (n > 256) = true := decide_eq_true hn2
  simp only [go_sem, zS, ↓reduceIte, Za, Zb, Zc, reduceCtorEq, kont_eq, e1, e2, Bool.not_false]
  exact ⟨.inl ⟨.inr hn2, rfl⟩, Keep.refl _ _, frN.z _ _ _⟩
 have e2 : decide (n > 256) = false := decide_eq_false hn2
 have hbad : ¬ badN n := by unfold badN; omega
 simp only [go_sem, zS, ↓reduceIte, Za, Zb, Zc, reduceCtorEq, kont_eq, e1, e2, Bool.not_false, hv.isSl, hv.lenS, hv.len]
 refine vc_loop [19, 7, 36, 4, 5, 18] rfl (fun m f A => ∃ i : Nat, i <= L.length /\ m = L.length - i /\ f 18 = .int .i64 i /\ (∀ p ∈ L.take i, okP n p) /\ Keep (fun _ => False) H A) L.length ?_ ?_
 ·exact ⟨0, by omega, by omega, by simp only [go_sem, zS, ↓reduceIte, Za, Zb, Zc, reduceCtorEq, kont_eq]; rfl, by simp, Keep.refl _ _⟩
 rintro m f H1 ⟨i, hi, rfl, hf, hok, K1⟩
 have s1 := K1.size
 simp only [go_sem, zS, ↓reduceIte, Za, Zb, Zc, reduceCtorEq, kont_eq] at hf
 simp only [go_sem, zS, ↓reduceIte, Za, Zb, Zc, reduceCtorEq, hf]
 refine iteV_dec (fun hlt => ?_) (fun hge => ?_)
 ·have hlt : i < L.length := by omega
  have hv1 := hv.keep0 K1
  obtain ⟨pb, po, pc, rfl, hpq, hld⟩ := hv1.elem pE_len hlt
  obtain ⟨p, hp⟩ : ∃ p, p = L[i] := ⟨_, rfl⟩
  rw [<- hp] at hld
  have hld' : ldNA H1 ⟨pb, po + i * 2, none⟩ 2 = some #[.int .i64 p.1, .int .i64 p.2] := hld
  simp only [go_sem, zS, ↓reduceIte, Za, Zb, Zc, reduceCtorEq, zF, tn_cast, ldNO_ptr, hld']
  refine ⟨by omega, ?_⟩
  refine kont_new fun H2 b2 e2' z2 B2 K2 => ?_
  have s2 := K2.size
  have hst := B2.okNA (o := 0) (n := 2) (by simp)
  have B3 := B2.stNA 0 [.int .i64 p.1, .int .i64 p.2]
  have K3 : Keep (fun q => q = b2) H2 (stNA H2 ⟨b2, 0, none⟩ [.int .i64 p.1, .int .i64 p.2]) := (Keep.refl _ _).stNA _ (.inl rfl)
  simp only [go_sem, zS, ↓reduceIte, Za, Zb, Zc, reduceCtorEq, zF, hst]
  refine ⟨fun x hx => by simp at hx; rcases hx with rfl | rfl <;> rfl, ?_⟩
  rw [kont_eq]
  generalize stNA H2 ⟨b2, 0, none⟩ [.int .i64 p.1, .int .i64 p.2] = H3 at B3 K3 ⊢
  have cB0 : cell H3 ⟨b2, 0, none⟩ = some (.int .i64 p.1) := by rw [B3.cell]; rfl
  have cB1 : cell H3 ⟨b2, 1, none⟩ = some (.int .i64 p.2) := by rw [B3.cell]; rfl
  have K13 : Keep (fun _ => False) H H3 := (K1.trans K2).to_old K3 (by omega)
  have hpL : p ∈ L := by rw [hp]; exact List.getElem_mem _
  by_cases h1 : (if p.2 < p.1 then p.2 else p.1) < 0
  ·have e3 : decide ((if p.2 < p.1 then p.2 else p.1) < 0) = true := decide_eq_true h1
   simp only [go_sem, zS, ↓reduceIte, Za, Zb, Zc, reduceCtorEq, kont_eq, hf, cB0, cB1, e3, Bool.not_true]
   refine ⟨by omega, by omega, rfl, .inr (.inl ⟨hbad, fun h => ?_, rfl⟩), K13, frN.z _ _ _⟩
   have := h p hpL
   unfold okP at this; split at h1 <;> omega
  ·have e3 : decide ((if p.2 < p.1 then p.2 else p.1) < 0) = false := decide_eq_false h1
   by_cases h2 : (if p.2 > p.1 then p.2 else p.1) ≥ n
   ·have e4 : decide ((if p.2 > p.1 then p.2 else p.1) ≥ n) = true := decide_eq_true h2
    simp only [go_sem, zS, ↓reduceIte, Za, Zb, Zc, reduceCtorEq, kont_eq, hf, cB0, cB1, e3, e4, Bool.not_false]
    refine ⟨by omega, by omega, rfl, by omega, by omega, rfl, .inr (.inl ⟨hbad, fun h => ?_, rfl⟩), K13, frN.z _ _ _⟩
    have := h p hpL
    unfold okP at this; split at h2 <;> omega
   ·have e4 : decide ((if p.2 > p.1 then p.2 else p.1) ≥ n) = false := decide_eq_false h2
    simp only [go_sem, zS, ↓reduceIte, Za, Zb, Zc, reduceCtorEq, kont_eq, hf, cB0, cB1, e3, e4, Bool.not_false]
    refine ⟨by omega, by omega, rfl, by omega, by omega, rfl, L.length - (i + 1), by omega, i + 1, by omega, rfl, by rw [IntWalk.i64_in _ (by omega)]; rfl, fun q hq => ?_, K13⟩
    rw [List.take_succ_eq_append_getElem hlt, List.mem_append] at hq
    rcases hq with hq | hq
    ·exact hok q hq
    ·simp only [List.mem_singleton] at hq
     rw [<- hp] at hq
     subst hq
     unfold okP
     split at h1 <;> split at h2 <;> omega
 ·have : i = L.length := by omega
  subst this
  rw [List.take_length] at hok
  have hv1 := hv.keep0 K1
  refine kont_news fun H2 b2 e2' z2 B2 K2 => ?_
  have s2 := K2.size
  simp only [go_sem, zS, ↓reduceIte, Za, Zb, Zc, reduceCtorEq]
  have hx : SlE nE 2 H2 v (L.map toN) := (hv1.keep0 K2).conv (by simp) (toN_flat hok)
  have hs0 : OwE nE 2 H2 (.slice (some ⟨b2, 0, none⟩) 0 0) [] := OwE.bl B2 rfl (by omega) (by omega) (by simp)
  refine app_EN (l := ([] : List NP)) (m := L.map toN) H.size nE_len nE_one hs0 (fun q hq => by have hq : q = b2 := hq; omega) (by omega) hx rfl (by omega) (by simp; omega) fun v3 H3 O3 own3 K3 => ?_
  rw [List.nil_append] at O3
  have s3 := K3.size
  have hR : Rng n.toNat (inP (L.map toN)) := Rng.inP fun q hq => by
   obtain ⟨p, hp, rfl⟩ := List.mem_map.1 hq
   obtain ⟨h1, h2, h3, h4⟩ := hok p hp
   exact ⟨by simp only [toN]; omega, by simp only [toN]; omega⟩
  have hlm : ∀ q ∈ L.map toN, q.1 < 256 /\ q.2 < 256 := fun q hq => by
   obtain ⟨p, hp, rfl⟩ := List.mem_map.1 hq
   obtain ⟨h1, h2, h3, h4⟩ := hok p hp
   exact ⟨by simp only [toN]; omega, by simp only [toN]; omega⟩
  have hlr : ∀ q ∈ L.map toN, q.1 < n.toNat /\ q.2 < n.toNat := fun q hq => by
   obtain ⟨p, hp, rfl⟩ := List.mem_map.1 hq
   obtain ⟨h1, h2, h3, h4⟩ := hok p hp
   exact ⟨by simp only [toN]; omega, by simp only [toN]; omega⟩
  simp only [go_sem, zS, ↓reduceIte, Za, Zb, Zc, reduceCtorEq, kont_eq]
  refine (hso _ v3 H3 O3 hlm (by simp; omega)).mono ?_
  rintro r H4 ⟨rfl, ⟨l', hperm, hsrt, O4⟩, K4⟩
  have s4 := K4.size
  have hl4 : l'.length = L.length := by rw [hperm.length_eq]; simp
  simp only [go_sem, zS, ↓reduceIte, Za, Zb, Zc, reduceCtorEq, kont_eq]
  refine (hco l' v3 H4 O4 (by omega)).mono ?_
  rintro r5 H5 ⟨S5, own5, K5⟩
  have s5 := K5.size
  rw [ddF_grid hperm hsrt hlr] at S5
  simp only [go_sem, zS, ↓reduceIte, Za, Zb, Zc, reduceCtorEq, kont_eq]
  refine (hcl _ r5 H5 S5).mono ?_
  rintro r6 H6 ⟨S6, own6, rfl⟩
  obtain ⟨pa, pc, rfl, hpc⟩ := S6.mk
  rw [kont_eq]
  simp only [go_sem, zS, ↓reduceIte, Za, Zb, Zc, reduceCtorEq, zF, wrA50, wrA51]
  refine ⟨by omega, ?_⟩
  refine kont_new fun H7 b7 e7 z7 B7 K7 => ?_
  have s7 := K7.size
  have hnn : ((n.toNat : Nat) : Int) = n := by unfold badN at hbad; omega
  have B7' : Bl H7 b7 [.int .i64 ((n.toNat : Nat) : Int), .slice pa (gridP n.toNat (inP (L.map toN))).length pc, .slice none 0 0, .slice none 0 0, .slice none 0 0] := by rw [hnn]; exact B7
  have S7 := S6.keep0 K7
  have hpb : ∀ q, slB (.slice pa (gridP n.toNat (inP (L.map toN))).length pc) q -> q ≠ b7 := fun q hq => by have := S6.old hq; omega
  have K06 : Keep (fun _ => False) H H6 := ((K1.trans K2).at_old K3 (Nat.le_refl _)).trans' (K4.trans K5) (fun j hj h => by have := own3 j h; omega)
  simp only [go_sem, zS, ↓reduceIte, Za, Zb, Zc, reduceCtorEq, kont_eq]
  refine (hos n.toNat _ b7 _ _ _ H7 (by unfold badN at hbad; omega) hR B7' S7 hpb).mono ?_
  rintro r H8 ⟨rfl, ⟨sv, B8, O8, own8⟩, K8⟩
  have s8 := K8.size
  have K08 : Keep (fun _ => False) H H8 := (K06.trans K7).to_old K8 (by omega)
  rw [toN_rel hok] at *
  by_cases hA : Acy (relI L)
  ·have e : decide ((srt n.toNat (relI L)).length = n.toNat) = true := decide_eq_true ((srt_all hR).2 hA)
   simp only [go_sem, zS, ↓reduceIte, Za, Zb, Zc, reduceCtorEq, kont_eq, e, Bool.not_true]
   have S8 := S7.keep K8 hpb
   have hgb : ι.g 125 ≠ b7 := by have := (show Bl H (ι.g 125) _ from hT).lt; omega
   have hsb : ∀ q, slB sv q -> q ≠ b7 := fun q hq => by have := own8 q (O8.slB hq); omega
   refine (hre n.toNat _ b7 _ sv H8 (by unfold badN at hbad; omega) hR hA (hT.keep K08) hgb B8 S8 hpb O8.sl hsb).mono ?_
   rintro r H9 ⟨rfl, ⟨ab, bb, avs, bvs, C, B9, A9, D9, h1, h2, h3⟩, K9⟩
   simp only [go_sem, zS, ↓reduceIte, Za, Zb, Zc, reduceCtorEq, kont_eq]
   refine ⟨.inr (.inr (.inr ⟨hbad, hok, hA, _, rfl, ?_⟩)), K08.to_old K9 (by omega), fun v' e' he b n' ab' bb' pv' sv' hv' hb' => ?_⟩
   rotate_left
   ·simp only [Value.tuple.injEq, Array.mk.injEq, List.cons.injEq, and_true] at he
    rw [<- he.1] at hv'
    cases hv'
    have hl := B9.uniq hb'
    simp only [List.cons.injEq, Value.int.injEq, Value.slice.injEq, Option.some.injEq, Addr.mk.injEq, and_true, true_and] at hl
    obtain ⟨l1, l2, l3, l4, l5⟩ := hl
    obtain ⟨rfl, -⟩ := l3
    obtain ⟨rfl, -⟩ := l4
    subst l5
    refine ⟨by omega, by omega, by omega, fun q hq => ?_, fun q hq => ?_, fun vs hvs i hi q hq => ?_⟩
    ·rw [<- l2] at hq
     have := own3 q (own5 q (own6 q hq))
     omega
    ·have := own8 q (O8.slB hq); omega
    ·rcases hvs with hvs | hvs
     ·have := hvs.uniq A9.bl
      subst this
      have := A9.ge i (by omega) q hq
      omega
     ·have := hvs.uniq D9.bl
      subst this
      have := D9.ge i (by omega) q hq
      omega
   exact ⟨by unfold badN at hbad; omega, hR, hA, b7, _, sv, ab, bb, avs, bvs, C, rfl, B9, S8.keep K9 hpb, A9, D9, O8.sl.keep K9 hsb⟩
  ·have e : decide ((srt n.toNat (relI L)).length = n.toNat) = false := decide_eq_false fun h => hA ((srt_all hR).1 h)
   simp only [go_sem, zS, ↓reduceIte, Za, Zb, Zc, reduceCtorEq, kont_eq, e, Bool.not_false]
   exact ⟨.inr (.inr (.inl ⟨hbad, hok, hA, rfl⟩)), K08, frN.z _ _ _⟩
end Go.Mg
namespace Go.Mg
open Go Go.RowKit
set_option linter.all false
set_option maxRecDepth 100000
def c_clnP (ι : Ids) : S :=
 .seq (.reg [.p (.v 2) (.mv (.c (.slice .none 0 0)))]) (.seq (.seq (.reg [.p (.t 3) (.mv (.v 0)), .p (.v 4) (.m (.eqn .sl false (.t 3)))]) (.ite (.v 4) (.seq (.reg [.p (.v 2) (.mv (.c (.slice .none 0
 0)))]) .ret) .skip)) (.seq (.reg [.e (.t 5) (.bldF (ι.t 194) 2 0 []), .p (.t 6) (.mv (.v 0)), .e (.t 7) (.app false (ι.t 194) 2 16 #[.int .i64 0, .int .i64 0] (.t 5) (.t 6)), .p (.v 2) (.mv (.t 7))])
 .ret))
def r_clnP : List RV := [.t 2]
abbrev OO := Option (Nat × (Nat -> Nat -> Bool))
def OrdO (H : Hp) (v : Value) : OO -> Prop
 | none => v = .pointer none
 | some o => OrdV H v o.1 o.2
theorem OrdO.keep0 {H H' : Hp} {v : Value} {o : OO} (h : OrdO H v o) (hk : Keep (fun _ => False) H H') : OrdO H' v o := by
 cases o with
 | none => exact h
 | some o => exact OrdV.keep0 h hk
def OrdDb (D : Nat) (H : Hp) (v : Value) : Prop := ∀ b n ab bb pv sv vs, v = .pointer (some ⟨b, 0, none⟩) -> Bl H b [.int .i64 ((n : Nat) : Int), pv, .slice (some ⟨ab, 0, none⟩) n n, .slice (some ⟨bb, 0, none⟩) n n, sv] -> (Bl H ab vs \/ Bl H bb vs) -> ∀ i < n, ∀ q, slB (vs.getD i undef) q -> q < D
theorem ordL {n n' : Nat} {pv pv' sv sv' : Value} {ab bb ab' bb' : Nat} (h : [Value.int .i64 ((n : Nat) : Int), pv, .slice (some ⟨ab, 0, none⟩) n n, .slice (some ⟨bb, 0, none⟩) n n, sv] = [.int .i64 ((n' : Nat) : Int), pv', .slice (some ⟨ab', 0, none⟩) n' n', .slice (some ⟨bb', 0, none⟩) n' n', sv']) : n = n' /\ ab = ab' /\ bb = bb' := by
 simp only [List.cons.injEq, Value.int.injEq, Value.slice.injEq, Option.some.injEq, Addr.mk.injEq, and_true, true_and] at h
 exact ⟨by omega, h.2.2.1.1, h.2.2.2.1.1⟩
theorem OrdV.db {H : Hp} {v : Value} {n : Nat} {R : Nat -> Nat -> Bool} (h : OrdV H v n R) : OrdDb H.size H v := by
 obtain ⟨h1, h2, h3, b, pv, sv, ab, bb, avs, bvs, C, rfl, g1, g2, g3, g4, g5⟩ := h
 intro b' n' ab' bb' pv' sv' vs e hb hv i hi q hq
 cases e
 obtain ⟨rfl, rfl, rfl⟩ := ordL (g1.uniq hb)
 rcases hv with hv | hv
 ·have := hv.uniq g3.bl; subst this
  exact (g3.at_ i hi).old hq
 ·have := hv.uniq g4.bl; subst this
  exact (g4.at_ i hi).old hq
theorem OrdDb.keep0 {D : Nat} {H H' : Hp} {v : Value} {n : Nat} {R : Nat -> Nat -> Bool} (h : OrdV H v n R) (hd : OrdDb D H v) (hk : Keep (fun _ => False) H H') : OrdDb D H' v := by
 obtain ⟨h1, h2, h3, b, pv, sv, ab, bb, avs, bvs, C, rfl, g1, g2, g3, g4, g5⟩ := h
 intro b' n' ab' bb' pv' sv' vs e hb hv i hi q hq
 cases e
 obtain ⟨rfl, rfl, rfl⟩ := ordL ((hk.bl g1 (by simp)).uniq hb)
 rcases hv with hv | hv
 ·have := hv.uniq (hk.bl g3.bl (by simp)); subst this
  exact hd b n ab bb pv sv _ rfl g1 (.inl g3.bl) i hi q hq
 ·have := hv.uniq (hk.bl g4.bl (by simp)); subst this
  exact hd b n ab bb pv sv _ rfl g1 (.inr g4.bl) i hi q hq
theorem rng_of {n : Nat} {L : List (Int × Int)} (h : ∀ p ∈ L, okP (n : Int) p) : Rng n (relI L) := fun a b hab => by
 have := h _ (of_decide_eq_true hab)
 unfold okP at this
 simp only at this
 omega
theorem NewRes.good {n : Nat} {L : List (Int × Int)} {r : Value} {H : Hp} (hn : n <= 256) (h : NewRes (n : Int) L r H) (h1 : ∀ p ∈ L, okP (n : Int) p) (h2 : Acy (relI L)) : ∃ v, r = .tuple #[v, .int .i64 0] /\ OrdV H v n (relI L) := by
 rcases h with ⟨h, _⟩ | ⟨_, h, _⟩ | ⟨_, _, h, _⟩ | ⟨_, _, _, v, h3, h4⟩
 ·unfold badN at h; omega
 ·exact absurd h1 h
 ·exact absurd h2 h
 ·rw [Int.toNat_natCast] at h4; exact ⟨v, h3, h4⟩
end Go.Mg

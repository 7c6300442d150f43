/- flow: the law Checks. -/
import Derived.Test.YtjiacmbjgccfcaaDoorMgVJ
namespace Go.Mg
open Go Go.RowKit
set_option linter.unusedSimpArgs false
set_option linter.unusedVariables false
set_option maxRecDepth 100000
def c_fkT (ι : Ids) : S :=
  (.seq (.reg [.p (.t 36) (.mv (.v 2)), .p (.t 37) (.ii .u64 (.t 36)), .p (.t 38) (.bt .andNot .u64 (.t 37) (.c (.int .u64 1))), .p (.v 9) (.mv (.t 38))]) (.seq (.dr (.px (.t 39) .none (.m (.ldn 5 (.v
  7))) (.px (.t 41) .none (.mv (.v 9)) (.px (.t 44) .none (.m (.ldn 5 (.v 7))) (.px (.t 45) .none (.mv (.v 9)) (.wcons (.t 40) .none (.call (ι.f 299) [.t 39]) (.wcons (.t 42) .none (.call (ι.f 283) [.t
  41]) (.wcons (.t 43) .none (.call (ι.f 307) [.t 40, .c (.int .i64 4), .t 42]) (.wcons (.t 46) .none (.call (ι.f 311) [.t 44, .c (.int .i64 4), .t 45]) (.px (.t 47) .none (.cm .eql .i64 (.t 43) (.t
  46)) (.px (.v 6) .none (.mv (.t 47)) .done)) .wnil) .wnil) .wnil) .wnil)))))) .ret))
def c_lfchk (ι : Ids) : S :=
  .seq (.reg [.e (.v 3) (.box (ι.t 288) (.v 0)), .p (.v 6) (.mv (.c (.bool false)))]) (.seq (.seq (.reg [.e (.t 10) (.call (ι.f 323) []), .p (.v 11) (.not (.t 10))]) (.ite (.v 11) (.seq (.reg [.p (.v 6)
  (.mv (.c (.bool false)))]) .ret) .skip)) (.seq (.reg [.p (.t 12) (.m (.ldn 7 (.v 3))), .e (.t 13) (.call (ι.f 292) [.t 12]), .e (.v 7) (.new (ι.t 289) #[.slice .none 0 0, .slice .none 0 0, .slice
  .none 0 0, .slice .none 0 0, .slice .none 0 0]), .e .no (.stn 5 (.v 7) (.t 13))]) (.seq (.seq (.reg [.p (.v 8) (.mv (.c (.int .i64 0)))]) (.blk 0 (.loop (.seq (.seq (.reg [.p (.t 14) (.mv (.v 8)), .p
  (.t 15) (.mv (.v 1)), .p (.t 16) (.m (.lenl (.t 15))), .p (.t 17) (.cm .lss .i64 (.t 14) (.t 16)), .p (.t 18) (.mv (.t 17)), .gp (.t 19) (.t 18) true (.mv (.v 8)), .gp (.t 20) (.t 18) true (.cm .lss
  .i64 (.t 19) (.c (.int .i64 2))), .p (.t 21) (.pick (.t 18) (.t 20) (.c (.bool false))), .p (.t 22) (.mv (.t 21)), .gp (.t 23) (.t 22) true (.fa 0 (.v 7)), .gp (.t 24) (.t 22) true (.ld (.t 23)), .gp
  (.t 25) (.t 22) true (.m (.lenl (.t 24))), .gp (.t 26) (.t 22) true (.cm .gtr .i64 (.t 25) (.c (.int .i64 0))), .p (.v 27) (.pick (.t 22) (.t 26) (.c (.bool false)))]) (.ite (.v 27) .skip (.exit 0)))
  (.seq (.blk 1 (.reg [.p (.t 30) (.m (.ldn 5 (.v 7))), .p (.t 31) (.mv (.v 1)), .p (.t 32) (.mv (.v 8)), .p (.t 33) (.is 4 (.t 31) (.t 32)), .p (.t 34) (.m (.ldn 4 (.t 33))), .e (.t 35) (.call (ι.f
  328) [.t 30, .t 34]), .e .no (.stn 5 (.v 7) (.t 35))])) (.reg [.p (.t 28) (.mv (.v 8)), .p (.t 29) (.ar .add .i64 (.t 28) (.c (.int .i64 1))), .p (.v 8) (.mv (.t 29))])))))) (c_fkT ι))))
def r_lfchk : List RV := [.t 6]
structure LCC (P : Program) (ι : Ids) : Prop where
  aw : FAwkSpec P ι (ι.f 323)
  mak : RMakSpec P (ι.f 292)
  ro : RolesSpec P (ι.f 283)
  flo : LFlowSpec P (ι.f 299)
  chk : FChkSpec P ι (ι.f 307)
  rchk : RChkSpec P (ι.f 311)
  spo : SpoilSpec P (ι.f 328)
theorem mkF_smK (r : RawF) : SmK 20 (mkF r) := by
  have h := (mkF_good r).lim
  unfold tooL at h
  exact ⟨by omega, by omega, by omega, by omega, by omega⟩
theorem all1_cs {cs : Array Value} (h : all1 cs) : cs.toList.all (fun v => v.oneCell') = true := List.all_eq_true.2 h
theorem RefFl.cs {H : Hp} {v : Value} {F : FlN} (h : RefFl H v F) : ∃ cs : List Value, v = .agg cs.toArray ∧ cs.length = 5 ∧ (cs.all fun v => v.oneCell') = true := by
  have h0 := h
  obtain ⟨s, b, d, a, m, rfl, _⟩ := h
  exact ⟨[s, b, d, a, m], rfl, rfl, all1_cs h0.all1⟩
theorem RefFl.nil {H : Hp} {cs : List Value} {F : FlN} (h : RefFl H (.agg cs.toArray) F) : isSl (cs.getD 0 undef) ∧ lenV (cs.getD 0 undef) = F.st.length ∧ cs[0]? = some (cs.getD 0 undef) := by
  obtain ⟨s, b, d, a, m, e, h1, _⟩ := h
  have e : cs = [s, b, d, a, m] := by simpa using congrArg (fun v : Value => match v with | .agg c => c.toList | _ => []) e
  subst e
  exact ⟨h1.isSl, h1.len, rfl⟩
theorem mask_ok (adm : UInt8) : ∃ m : UInt64, bits .andNot .u64 (adm.toNat : Int) 1 = (m.toNat : Int) := by
  have h := bits_andNot (UInt64.ofNat adm.toNat) 1
  have h2 : (UInt64.ofNat adm.toNat).toNat = adm.toNat := by
    rw [UInt64.toNat_ofNat']; have := adm.toNat_lt; omega
  rw [h2] at h
  exact ⟨_, h⟩
theorem fkT_ok {P : Program} {ι : Ids} (c : LCC P ι) {f : Fr} {A : Hp} {b7 : Nat} {cs : List Value} {F : FlN} {adm : UInt8} {Q : Value → Hp → Prop} (hT : TabOk ι A) (h2 : f 2 = .int .u8 adm.toNat) (h7 : f 7 = .pointer (some ⟨b7, 0, none⟩)) (B : Bl A b7 cs) (hcl : cs.length = 5) (R : RefFl A (.agg cs.toArray) F) (hsm : SmallF F)
    (hK : ∀ A', Keep (fun _ => False) A A' → Q (.bool true) A') : vc P (c_fkT ι) (retQ [.t 6] Q) f A := by
  unfold c_fkT
  obtain ⟨m, hm⟩ := mask_ok adm
  obtain ⟨v, hv⟩ : ∃ v, v = Value.agg cs.toArray := ⟨_, rfl⟩
  rw [← hv] at R
  have w8 : IntKind.u64.wrap (adm.toNat : Int) = (adm.toNat : Int) := by
    have := adm.toNat_lt
    show (adm.toNat : Int) % 18446744073709551616 = _
    omega
  simp -implicitDefEqProofs only [go_sem, zS, ↓reduceIte, Nat.reduceEqDiff, Nat.reduceAdd, Nat.reduceMul, reduceCtorEq, kont_eq, zU, zV, Int.reduceBEq, Int.reduceBNe, Int.reduceLE, Int.reduceLT, Nat.reduceLeDiff, Nat.reduceLT, zF, h2, w8, hm]
  refine vc_drk (fun _ => False) ?_
  simp -implicitDefEqProofs only [go_sem, zS, ↓reduceIte, Nat.reduceEqDiff, Nat.reduceAdd, Nat.reduceMul, reduceCtorEq, kont_eq, zU, zV, Int.reduceBEq, Int.reduceBNe, Int.reduceLE, Int.reduceLT, Nat.reduceLeDiff, Nat.reduceLT, zF, h7, B.ldNO 5 hcl.symm, ← hv]
  refine (c.flo F v A R hsm).mono ?_
  rintro pv A1 ⟨hP, K1⟩
  simp -implicitDefEqProofs only [go_sem, zS, ↓reduceIte, Nat.reduceEqDiff, Nat.reduceAdd, Nat.reduceMul, reduceCtorEq, kont_eq, zU, zV, Int.reduceBEq, Int.reduceBNe, Int.reduceLE, Int.reduceLT, Nat.reduceLeDiff, Nat.reduceLT, zF]
  refine ⟨K1, (c.ro m A1).mono ?_⟩
  rintro sv A2 ⟨hS, _, K2⟩
  simp -implicitDefEqProofs only [go_sem, zS, ↓reduceIte, Nat.reduceEqDiff, Nat.reduceAdd, Nat.reduceMul, reduceCtorEq, kont_eq, zU, zV, Int.reduceBEq, Int.reduceBNe, Int.reduceLE, Int.reduceLT, Nat.reduceLeDiff, Nat.reduceLT, zF]
  refine ⟨K2, (c.chk F pv sv 4 (bt m) A2 (hT.keep (K1.trans K2)) (hP.fl.keep0 K2) hS).mono ?_⟩
  rintro e A3 ⟨rfl, K3⟩
  have K13 := (K1.trans K2).trans K3
  simp -implicitDefEqProofs only [go_sem, zS, ↓reduceIte, Nat.reduceEqDiff, Nat.reduceAdd, Nat.reduceMul, reduceCtorEq, kont_eq, zU, zV, Int.reduceBEq, Int.reduceBNe, Int.reduceLE, Int.reduceLT, Nat.reduceLeDiff, Nat.reduceLT, zF]
  refine ⟨K3, (c.rchk F v 4 m A3 (R.keep0 K13)).mono ?_⟩
  rintro e A4 ⟨rfl, K4⟩
  simp -implicitDefEqProofs only [go_sem, zS, ↓reduceIte, Nat.reduceEqDiff, Nat.reduceAdd, Nat.reduceMul, reduceCtorEq, kont_eq, zU, zV, Int.reduceBEq, Int.reduceBNe, Int.reduceLE, Int.reduceLT, Nat.reduceLeDiff, Nat.reduceLT, zF]
  exact ⟨K4, hK _ (K13.trans K4)⟩
def LawFCSpec (P : Program) (ι : Ids) (k : FuncId) : Prop := ∀ (r : RawF) (v lv : Value) (xs : List SpN) (adm : UInt8) (H : Hp), TabOk ι H → RawFV H v r → SlE encX 4 H lv xs → CallsM P k #[v, lv, .int .u8 adm.toNat] H fun x H' => x = .bool true ∧ Keep (fun _ => False) H H'
theorem lfchk_ok {P : Program} {ι : Ids} {k : FuncId} (hk : FnIs P k (c_lfchk ι) r_lfchk 3) (c : LCC P ι) : LawFCSpec P ι k := by
  intro r v lv xs adm H hT hv hx
  obtain ⟨Q, hQ⟩ : ∃ Q : Value → Hp → Prop, Q = fun x H' => x = .bool true ∧ Keep (fun _ => False) H H' := ⟨_, rfl⟩
  rw [← hQ]
  refine calls_of_vc hk (args := [_, _, _]) (by simp) ?_
  unfold c_lfchk r_lfchk
  have hvr := hv
  obtain ⟨h0, ro, be, di, sa, mo, el, rfl, _⟩ := hv
  simp -implicitDefEqProofs only [go_sem, zS, ↓reduceIte, Nat.reduceEqDiff, Nat.reduceAdd, Nat.reduceMul, reduceCtorEq, zU, zV, Int.reduceBEq, Int.reduceBNe, Int.reduceLE, Int.reduceLT, Nat.reduceLeDiff, Nat.reduceLT, zF]
  refine kont_new fun H1 b2 e1 z1 B1 K1 => ?_
  have B1' : Bl H1 b2 [.int .u8 (r.n : Int), ro, be, di, sa, mo, el] := B1
  simp -implicitDefEqProofs only [go_sem, zS, ↓reduceIte, Nat.reduceEqDiff, Nat.reduceAdd, Nat.reduceMul, reduceCtorEq, zU, zV, Int.reduceBEq, Int.reduceBNe, Int.reduceLE, Int.reduceLT, Nat.reduceLeDiff, Nat.reduceLT, zF]
  refine (c.aw H1 (hT.keep K1)).mono ?_
  rintro x H2 ⟨rfl, K2⟩
  have K02 := K1.trans K2
  have B2 := K2.bl B1' (by simp)
  rw [kont_eq]
  simp -implicitDefEqProofs only [go_sem, zS, ↓reduceIte, Nat.reduceEqDiff, Nat.reduceAdd, Nat.reduceMul, reduceCtorEq, zU, zV, Int.reduceBEq, Int.reduceBNe, Int.reduceLE, Int.reduceLT, Nat.reduceLeDiff, Nat.reduceLT, zF, Bool.not_true, B2.ldNO 7 rfl]
  refine (c.mak r _ H2 (RawFV.keep0 hvr K02)).mono ?_
  rintro x H3 ⟨hM, hf, K3⟩
  have K03 := K02.trans K3
  have s1 := K02.size
  have s3 := K3.size
  have hM0 := hM
  obtain ⟨s', b', d', a', m', rfl, _⟩ := hM
  have ha' : all1 #[s', b', d', a', m'] := hM0.all1
  rw [kont_eq]
  simp -implicitDefEqProofs only [go_sem, zS, ↓reduceIte, Nat.reduceEqDiff, Nat.reduceAdd, Nat.reduceMul, reduceCtorEq, zU, zV, Int.reduceBEq, Int.reduceBNe, Int.reduceLE, Int.reduceLT, Nat.reduceLeDiff, Nat.reduceLT, zF]
  refine kont_newst [s', b', d', a', m'] (by simp -implicitDefEqProofs only [go_sem, zS, ↓reduceIte, Nat.reduceEqDiff, Nat.reduceAdd, Nat.reduceMul, reduceCtorEq, kont_eq, zU, zV, Int.reduceBEq, Int.reduceBNe, Int.reduceLE, Int.reduceLT, Nat.reduceLeDiff, Nat.reduceLT]) rfl rfl (all1_cs ha') fun H4 b7 e4 z4 B4 K4 => ?_
  simp -implicitDefEqProofs only [go_sem, zS, ↓reduceIte, Nat.reduceEqDiff, Nat.reduceAdd, Nat.reduceMul, reduceCtorEq, kont_eq, zU, zV, Int.reduceBEq, Int.reduceBNe, Int.reduceLE, Int.reduceLT, Nat.reduceLeDiff, Nat.reduceLT, zF, thenQ_n]
  have s4 := K4.size
  have S4 := hx.keep0 (K03.trans K4)
  refine vc_loop [27, 8] rfl (fun n g A => ∃ i F cs, n = 2 - i ∧ i ≤ 2 ∧ g 8 = .int .i64 (i : Int) ∧ Bl A b7 cs ∧ cs.length = 5 ∧ RefFl A (.agg cs.toArray) F ∧ SmK (20 + 30 * i) F ∧ (∀ q, flB (.agg cs.toArray) q → q ≠ b7) ∧ Keep (fun q => q = b7) H4 A) 2
    ⟨0, mkF r, _, rfl, by omega, by simp -implicitDefEqProofs only [go_sem, zS, ↓reduceIte, Nat.reduceEqDiff, Nat.reduceAdd, Nat.reduceMul, reduceCtorEq, kont_eq, zU, zV, Int.reduceBEq, Int.reduceBNe, Int.reduceLE, Int.reduceLT, Nat.reduceLeDiff, Nat.reduceLT], B4, rfl, hM0.keep0 K4, mkF_smK r, fun q hq => ?_, Keep.refl _ _⟩ ?_
  · have hM0 := hM0
    obtain ⟨_, _, _, _, _, e, g1, g2, g3, g4, g5⟩ := hM0
    cases e
    have : q < H3.size := by
      obtain ⟨w, hw, hq⟩ := hq
      have hw : w ∈ [s', b', d', a', m'] := hw
      simp only [List.mem_cons, List.not_mem_nil, or_false] at hw
      rcases hw with rfl | rfl | rfl | rfl | rfl
      · exact g1.old hq
      · exact g2.old hq
      · exact g3.old hq
      · exact g4.old hq
      · exact g5.old hq
    omega
  rintro n g A ⟨i, F, cs, rfl, hi, g8, B, hcl, R, hsm, hnb, KA⟩
  simp -implicitDefEqProofs only [go_sem, zS, ↓reduceIte, Nat.reduceEqDiff, Nat.reduceAdd, Nat.reduceMul, reduceCtorEq, kont_eq, zU, zV, Int.reduceBEq, Int.reduceBNe, Int.reduceLE, Int.reduceLT, Nat.reduceLeDiff, Nat.reduceLT] at g8
  have SA := S4.keep KA (fun q hq e => by have := hx.old hq; omega)
  obtain ⟨n1, n2, n3⟩ := R.nil
  have c0 : cell A ⟨b7, 0, none⟩ = some (cs.getD 0 undef) := by rw [B.cell]; exact n3
  have hsF : SmallF F := ⟨by have := hsm.st; omega, by have := hsm.be; omega, by have := hsm.di; omega, by have := hsm.sa; omega, by have := hsm.mo; omega⟩
  have KHA : Keep (fun _ => False) H A := (K03.trans K4).trans' KA fun q hq e => by omega
  have hTA : TabOk ι A := hT.keep KHA
  have out : ∀ g' : Fr, g' 2 = .int .u8 adm.toNat → g' 7 = .pointer (some ⟨b7, 0, none⟩) → vc P (c_fkT ι) (retQ [.t 6] Q) g' A := fun g' q2 q7 => fkT_ok c hTA q2 q7 B hcl R hsF fun A' K => by
    rw [hQ]
    exact ⟨rfl, KHA.trans K⟩
  have e0 := SA.isSl
  have e1 := SA.len
  by_cases c1 : (i : Int) < (xs.length : Int)
  · have d1 : decide ((i : Int) < (xs.length : Int)) = true := decide_eq_true c1
    by_cases c2 : (i : Int) < 2
    · have d2 : decide ((i : Int) < 2) = true := decide_eq_true c2
      by_cases c3 : (F.st.length : Int) > 0
      · have d3 : decide ((F.st.length : Int) > 0) = true := decide_eq_true c3
        obtain ⟨xb, xo, xc, rfl, hxb, hld⟩ := SA.elem encX_len (i := i) (by omega)
        simp -implicitDefEqProofs only [go_sem, zS, ↓reduceIte, Nat.reduceEqDiff, Nat.reduceAdd, Nat.reduceMul, reduceCtorEq, zU, zV, Int.reduceBEq, Int.reduceBNe, Int.reduceLE, Int.reduceLT, Nat.reduceLeDiff, Nat.reduceLT, zF, g8, e0, e1, d1, d2, d3, c0, n1, n2, forall_const]
        have hld' : ldNA A ⟨xb, xo + i * 4, none⟩ 4 = some (encX xs[i]).toArray := hld
        have hsA := KHA.size
        simp -implicitDefEqProofs only [go_sem, zS, ↓reduceIte, Nat.reduceEqDiff, Nat.reduceAdd, Nat.reduceMul, reduceCtorEq, zU, zV, Int.reduceBEq, Int.reduceBNe, Int.reduceLE, Int.reduceLT, Nat.reduceLeDiff, Nat.reduceLT, zF, B.ldNO 5 hcl.symm, ldNO_ptr, hld']
        refine ⟨⟨by omega, by omega⟩, (c.spo (20 + 30 * i) F xs[i] _ A R (by intro e; rw [e] at c3; simp at c3) hsm (by omega)).mono ?_⟩
        rintro w A1 ⟨F', R', hsm', ho, K'⟩
        obtain ⟨cs', rfl, hcl', hca'⟩ := R'.cs
        have B' := K'.bl B (by simp)
        have t' := B'.okNA (o := 0) (n := 5) (by omega)
        have hb7 : b7 < A.size := B.lt
        have k5 : Keep (fun q => q = b7) A1 (stNA A1 ⟨b7, 0, none⟩ cs') := (Keep.refl _ _).stNA _ (.inl rfl)
        have B5 := B'.stNA 0 cs'
        rw [wrL_all _ _ (by rw [hcl', hcl])] at B5
        have a5 : all1 cs'.toArray := all1_of hca'
        have w1 : IntKind.i64.wrap ((i : Int) + 1) = ((i + 1 : Nat) : Int) := by rw [IntWalk.i64_in _ (by omega)]; omega
        have nb' : ∀ q, flB (.agg cs'.toArray) q → q ≠ b7 := fun q hq => by
          rcases ho q hq with h | h
          · exact hnb q h
          · omega
        rw [kont_eq]
        simp -implicitDefEqProofs only [go_sem, zS, ↓reduceIte, Nat.reduceEqDiff, Nat.reduceAdd, Nat.reduceMul, reduceCtorEq, kont_eq, zU, zV, Int.reduceBEq, Int.reduceBNe, Int.reduceLE, Int.reduceLT, Nat.reduceLeDiff, Nat.reduceLT, zF, t', g8, w1]
        exact ⟨⟨hcl', a5⟩, 2 - (i + 1), by omega, i + 1, F', cs', rfl, by omega, rfl, B5, hcl', R'.keep k5 nb', hsm', nb', (KA.trans K'.any).trans k5⟩
      · have d3 : decide ((F.st.length : Int) > 0) = false := decide_eq_false c3
        simp -implicitDefEqProofs only [go_sem, zS, ↓reduceIte, Nat.reduceEqDiff, Nat.reduceAdd, Nat.reduceMul, reduceCtorEq, kont_eq, zU, zV, Int.reduceBEq, Int.reduceBNe, Int.reduceLE, Int.reduceLT, Nat.reduceLeDiff, Nat.reduceLT, zF, g8, e0, e1, d1, d2, d3, c0, n1, n2, forall_const]
        exact out _ (by simp -implicitDefEqProofs only [go_sem, zS, ↓reduceIte, Nat.reduceEqDiff, Nat.reduceAdd, Nat.reduceMul, reduceCtorEq, kont_eq, zU, zV, Int.reduceBEq, Int.reduceBNe, Int.reduceLE, Int.reduceLT, Nat.reduceLeDiff, Nat.reduceLT]) (by simp -implicitDefEqProofs only [go_sem, zS, ↓reduceIte, Nat.reduceEqDiff, Nat.reduceAdd, Nat.reduceMul, reduceCtorEq, kont_eq, zU, zV, Int.reduceBEq, Int.reduceBNe, Int.reduceLE, Int.reduceLT, Nat.reduceLeDiff, Nat.reduceLT])
    · have d2 : decide ((i : Int) < 2) = false := decide_eq_false c2
      simp -implicitDefEqProofs only [go_sem, zS, ↓reduceIte, Nat.reduceEqDiff, Nat.reduceAdd, Nat.reduceMul, reduceCtorEq, kont_eq, zU, zV, Int.reduceBEq, Int.reduceBNe, Int.reduceLE, Int.reduceLT, Nat.reduceLeDiff, Nat.reduceLT, zF, g8, e0, e1, d1, d2, c0, n1, n2, forall_const, false_imp_iff]
      exact out _ (by simp -implicitDefEqProofs only [go_sem, zS, ↓reduceIte, Nat.reduceEqDiff, Nat.reduceAdd, Nat.reduceMul, reduceCtorEq, kont_eq, zU, zV, Int.reduceBEq, Int.reduceBNe, Int.reduceLE, Int.reduceLT, Nat.reduceLeDiff, Nat.reduceLT]) (by simp -implicitDefEqProofs only [go_sem, zS, ↓reduceIte, Nat.reduceEqDiff, Nat.reduceAdd, Nat.reduceMul, reduceCtorEq, kont_eq, zU, zV, Int.reduceBEq, Int.reduceBNe, Int.reduceLE, Int.reduceLT, Nat.reduceLeDiff, Nat.reduceLT])
  · have d1 : decide ((i : Int) < (xs.length : Int)) = false := decide_eq_false c1
    simp -implicitDefEqProofs only [go_sem, zS, ↓reduceIte, Nat.reduceEqDiff, Nat.reduceAdd, Nat.reduceMul, reduceCtorEq, kont_eq, zU, zV, Int.reduceBEq, Int.reduceBNe, Int.reduceLE, Int.reduceLT, Nat.reduceLeDiff, Nat.reduceLT, zF, g8, e0, e1, d1, c0, n1, n2, forall_const, false_imp_iff]
    exact out _ (by simp -implicitDefEqProofs only [go_sem, zS, ↓reduceIte, Nat.reduceEqDiff, Nat.reduceAdd, Nat.reduceMul, reduceCtorEq, kont_eq, zU, zV, Int.reduceBEq, Int.reduceBNe, Int.reduceLE, Int.reduceLT, Nat.reduceLeDiff, Nat.reduceLT]) (by simp -implicitDefEqProofs only [go_sem, zS, ↓reduceIte, Nat.reduceEqDiff, Nat.reduceAdd, Nat.reduceMul, reduceCtorEq, kont_eq, zU, zV, Int.reduceBEq, Int.reduceBNe, Int.reduceLE, Int.reduceLT, Nat.reduceLeDiff, Nat.reduceLT])
end Go.Mg

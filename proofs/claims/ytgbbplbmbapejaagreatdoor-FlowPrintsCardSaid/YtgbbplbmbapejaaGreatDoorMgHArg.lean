/- Several texts of ours in one. No conditions. -/
import Derived.Test.YtgbbplbmbapejaaGreatDoorMgV3
import Derived.Test.YtgbbplbmbapejaaGreatDoorMgOpen3
import Derived.Test.YtgbbplbmbapejaaGreatDoorMgVE
import Derived.Test.YtgbbplbmbapejaaGreatDoorMgTvr
namespace Go.Mg
open Go Go.ChangeShapes Go.WideShapes Go.RowKit
set_option linter.all false
section
variable {H : Type} {enc : TypeId × Value -> H} {P : Program}
theorem wf_u8' {n : Int} (h : (Lit.int .u8 n).wf = true) : 0 <= n /\ n <= 255 := by
 simp only [Lit.wf, Bool.and_eq_true, decide_eq_true_eq] at h
 exact ⟨h.1, h.2⟩
def toU (p : Int × Int) : UInt8 × UInt8 := (UInt8.ofNat p.1.toNat, UInt8.ofNat p.2.toNat)
theorem enc8_toU {W : Hp} {v : Value} {qs : List (Int × Int)} (hq : ∀ p ∈ qs, (Lit.int .u8 p.1).wf = true /\ (Lit.int .u8 p.2).wf = true) (h : SlE (kE .u8) 2 W v qs) : SlE enc8 2 W v (qs.map toU) := by
 refine h.conv (by simp) ?_
 have : ∀ l : List (Int × Int), (∀ p ∈ l, (Lit.int .u8 p.1).wf = true /\ (Lit.int .u8 p.2).wf = true) -> (l.map toU).flatMap enc8 = l.flatMap (kE .u8) := fun l hl => by
  induction l with
  | nil => rfl
  | cons p l ih =>
   rw [List.map_cons, List.flatMap_cons, List.flatMap_cons, ih fun q hq => hl q (List.mem_cons_of_mem _ hq)]
   congr 1
   have h1 := wf_u8' (hl p List.mem_cons_self).1
   have h2 := wf_u8' (hl p List.mem_cons_self).2
   have e : ∀ n : Int, 0 <= n -> n <= 255 -> (((UInt8.ofNat n.toNat).toNat : Nat) : Int) = n := fun n a b => by
    rw [UInt8.toNat_ofNat']; omega
   simp only [enc8, kE, toU, e _ h1.1 h1.2, e _ h2.1 h2.2]
 exact this qs hq
theorem rawF_arg {W : World} {r : Reach} {b0 base : Nat} {sp : Nat -> Bool} {held : Bool} {t tb tl ts te : TypeId} {n1 n2 n3 n4 n5 n6 n7 : String} {m1 m2 m3 m4 m5 m6 m7 : Bool} {g1 g2 g3 g4 g5 g6 g7 p1 p2 p3 p4 p5 p6 p7 : String} {o1 o2 o3 o4 o5 o6 o7 : Nat} {v : Value} {d : DataW H} {ps : List MemPlace}
  (ht : P.underlying t = some (.struct #[⟨n1, tb, 0, m1, g1, p1, o1⟩, ⟨n2, tl, 1, m2, g2, p2, o2⟩, ⟨n3, ts, 2, m3, g3, p3, o3⟩, ⟨n4, ts, 3, m4, g4, p4, o4⟩, ⟨n5, ts, 4, m5, g5, p5, o5⟩, ⟨n6, ts, 5, m6, g6, p6, o6⟩, ⟨n7, tl, 6, m7, g7, p7, o7⟩])) (hc : P.cellsOf t = 7) (hb : P.underlying tb = some (.int .u8)) (cb : P.cellsOf tb = 1)
  (hl : P.underlying tl = some (.slice tb)) (cl : P.cellsOf tl = 1) (hs : P.underlying ts = some (.slice te)) (cs1 : P.cellsOf ts = 1)
  (he : P.underlying te = some (.array 2 tb)) (ce : P.cellsOf te = 2) (hval : Value.okWide P W r b0 t v) (hd : DataW.Trod enc P W base sp held t v d ps) : ∃ x : RawF, RawFV W.heap v x := by
 have hv : ∃ cs : Array Value, v = .agg cs /\ cs.size = P.cellsOf t := by
  simp only [Value.okWide, ht] at hval
  obtain ⟨cs, h1, h2, _⟩ := hval
  exact ⟨cs, h1, h2⟩
 obtain ⟨cs, rfl, hcs⟩ := hv
 rw [hc] at hcs
 obtain ⟨fuel, hf⟩ := hd
 obtain ⟨xs, m, -, -, hxl0, hxl, hel⟩ := DataW.trod_struct ht hf
 have hxl : xs.length = 7 := hxl
 have hcl : (Value.cells (.agg cs) : Array Value) = cs := rfl
 rw [hcl] at hel hxl0
 obtain ⟨ccs⟩ := cs
 have hcs : ccs.length = 7 := hcs
 obtain ⟨v0, v1, v2, v3, v4, v5, v6, rfl⟩ : ∃ v0 v1 v2 v3 v4 v5 v6, ccs = [v0, v1, v2, v3, v4, v5, v6] := by
  match ccs, hcs with
  | [a, b, c, d, e, f, g], _ => exact ⟨a, b, c, d, e, f, g, rfl⟩
 have f0 : DataW.trod enc P W base sp held m tb (([v0, v1, v2, v3, v4, v5, v6].drop 0).take (P.cellsOf tb)) = xs[0]? := hel 0 _ rfl
 have f1 : DataW.trod enc P W base sp held m tl (([v0, v1, v2, v3, v4, v5, v6].drop 1).take (P.cellsOf tl)) = xs[1]? := hel 1 _ rfl
 have f2 : DataW.trod enc P W base sp held m ts (([v0, v1, v2, v3, v4, v5, v6].drop 2).take (P.cellsOf ts)) = xs[2]? := hel 2 _ rfl
 have f3 : DataW.trod enc P W base sp held m ts (([v0, v1, v2, v3, v4, v5, v6].drop 3).take (P.cellsOf ts)) = xs[3]? := hel 3 _ rfl
 have f4 : DataW.trod enc P W base sp held m ts (([v0, v1, v2, v3, v4, v5, v6].drop 4).take (P.cellsOf ts)) = xs[4]? := hel 4 _ rfl
 have f5 : DataW.trod enc P W base sp held m ts (([v0, v1, v2, v3, v4, v5, v6].drop 5).take (P.cellsOf ts)) = xs[5]? := hel 5 _ rfl
 have f6 : DataW.trod enc P W base sp held m tl (([v0, v1, v2, v3, v4, v5, v6].drop 6).take (P.cellsOf tl)) = xs[6]? := hel 6 _ rfl
 rw [List.getElem?_eq_getElem (by omega), cb] at f0
 rw [List.getElem?_eq_getElem (by omega), cl] at f1 f6
 rw [List.getElem?_eq_getElem (by omega), cs1] at f2 f3 f4 f5
 obtain ⟨a0, e0, -, w0⟩ := DataW.trod_int hb f0
 obtain ⟨u1, e1, l1, S1⟩ := bytes_of_cells hl hb cb f1
 obtain ⟨u2, e2, q2, hq2, _, S2⟩ := pairs_of_cells hs he hb cb ce f2
 obtain ⟨u3, e3, q3, hq3, _, S3⟩ := pairs_of_cells hs he hb cb ce f3
 obtain ⟨u4, e4, q4, hq4, _, S4⟩ := pairs_of_cells hs he hb cb ce f4
 obtain ⟨u5, e5, q5, hq5, _, S5⟩ := pairs_of_cells hs he hb cb ce f5
 obtain ⟨u6, e6, l6, S6⟩ := bytes_of_cells hl hb cb f6
 have k0 : [v0] = [Value.int .u8 a0] := e0
 have k1 : [v1] = [u1] := e1
 have k2 : [v2] = [u2] := e2
 have k3 : [v3] = [u3] := e3
 have k4 : [v4] = [u4] := e4
 have k5 : [v5] = [u5] := e5
 have k6 : [v6] = [u6] := e6
 simp only [List.cons.injEq, and_true] at k0 k1 k2 k3 k4 k5 k6
 clear e0 e1 e2 e3 e4 e5 e6
 subst k0 k1 k2 k3 k4 k5 k6
 have r0 := wf_u8' w0
 refine ⟨⟨a0.toNat, l1, q2.map toU, q3.map toU, q4.map toU, q5.map toU, l6⟩, by show a0.toNat < 256; omega, v1, v2, v3, v4, v5, v6, ?_, S1, enc8_toU hq2 S2, enc8_toU hq3 S3, enc8_toU hq4 S4, enc8_toU hq5 S5, S6⟩
 have : ((a0.toNat : Nat) : Int) = a0 := by omega
 simp only [this]
end
end Go.Mg
namespace Go.Mg
open Go Go.RowKit
set_option linter.all false
set_option maxRecDepth 100000
structure SpN where
 d : UInt8
 a : Int
 b : Int
 nm : List UInt8
def encX (x : SpN) : List Value := [.int .u8 x.d.toNat, .int .i64 x.a, .int .i64 x.b, sV x.nm]
structure SmK (k : Nat) (F : FlN) : Prop where
 st : F.st.length <= k
 be : F.be.length <= k
 di : F.di.length <= k
 sa : F.sa.length <= k
 mo : F.mo.length <= k
structure SpI (k : Nat) (f : Fr) (A : Hp) (b2 b3 b6 : Nat) (F : FlN) (x : SpN) (s b d a m : Value) : Prop where
 h2 : f 2 = .pointer (some ⟨b2, 0, none⟩)
 h3 : f 3 = .pointer (some ⟨b3, 0, none⟩)
 h5 : f 5 = .int .i64 (F.st.length : Int)
 h6 : f 6 = .pointer (some ⟨b6, 0, none⟩)
 B2 : Bl A b2 [s, b, d, a, m]
 B3 : Bl A b3 (encX x)
 B6 : Bl A b6 [.int .i64 x.a, .int .i64 x.b]
 S : SlE encS 2 A s F.st
 Pb : SlP A b F.be
 Pd : SlP A d F.di
 Pa : SlP A a F.sa
 M : SlE encM 2 A m F.mo
 n3 : b3 ≠ b2
 n6 : b6 ≠ b2
 sm : SmK k F
 k1 : k <= 1000
 ne : F.st ≠ []
 o : ∀ c ∈ [s, b, d, a, m], ∀ q, slB c q -> q ≠ b2
theorem SpI.w {k : Nat} {f : Fr} {A : Hp} {b2 b3 b6 : Nat} {F : FlN} {x : SpN} {s b d a m : Value} (h : SpI k f A b2 b3 b6 F x s b d a m) : ∀ c ∈ [s, b, d, a, m], ∀ q, slB c q -> ¬ (q = b2 \/ A.size <= q) := by
 intro c hc q hq
 have hne := h.o c hc q hq
 have : q < A.size := by
  simp only [List.mem_cons, List.not_mem_nil, or_false] at hc
  rcases hc with rfl | rfl | rfl | rfl | rfl
  ·exact h.S.old hq
  ·exact h.Pb.old hq
  ·exact h.Pd.old hq
  ·exact h.Pa.old hq
  ·exact h.M.old hq
 omega
theorem SpI.old {k : Nat} {f : Fr} {A : Hp} {b2 b3 b6 : Nat} {F : FlN} {x : SpN} {s b d a m : Value} (h : SpI k f A b2 b3 b6 F x s b d a m) {cs : List Value} {v : Value} (hcs : ∀ c ∈ cs, c = v \/ c ∈ [s, b, d, a, m]) (hv : ∀ q, slB v q -> (∃ c0 ∈ [s, b, d, a, m], slB c0 q) \/ A.size <= q) : ∀ c ∈ cs, ∀ q, slB c q -> (∃ c0 ∈ [s, b, d, a, m], slB c0 q) \/ A.size <= q := fun c hc q hq => by
 rcases hcs c hc with rfl | h'
 ·exact hv q hq
 ·exact .inl ⟨c, h', hq⟩
theorem SpI.cl {P : Program} {j : FuncId} (hc : ClnSpec encS P j) {k : Nat} {f : Fr} {A : Hp} {b2 b3 b6 : Nat} {F : FlN} {x : SpN} {s b d a m : Value} (h : SpI k f A b2 b3 b6 F x s b d a m) {Kp : Value -> Hp -> Prop}
  (hK : ∀ v A2, OwE encS 2 A2 v F.st -> (∀ q, ownB v q -> A.size <= q) -> Keep (fun _ => False) A A2 -> OwE encS 2 (setc A2 ⟨b2, 0, none⟩ v) v F.st -> Bl (setc A2 ⟨b2, 0, none⟩ v) b2 [v, b, d, a, m] -> Keep (fun q => q = b2 \/ A.size <= q) A (setc A2 ⟨b2, 0, none⟩ v) -> Keep (fun q => q = b2) A2 (setc A2 ⟨b2, 0, none⟩ v) -> Kp v A2) : CallsM P j #[s] A Kp := by
 have hk := h.sm.st
 have hk1 := h.k1
 have hb2 := h.B2.lt
 refine (hc F.st s A h.S (by omega)).mono fun v A2 ⟨O, o, K2⟩ => ?_
 have k3 : Keep (fun q => q = b2) A2 (setc A2 ⟨b2, 0, none⟩ v) := (Keep.refl _ _).setc _ (.inl rfl)
 refine hK v A2 O o K2 (O.keep k3 fun q hq e => ?_) ((K2.bl h.B2 (by simp)).setc 0 v) (K2.any.trans (k3.mono fun q _ e => .inl e)) k3
 have := o q hq
 omega
theorem all1_cs {cs : Array Value} (h : all1 cs) : cs.toList.all (fun v => v.oneCell') = true := List.all_eq_true.2 h
theorem RefFl.cs {H : Hp} {v : Value} {F : FlN} (h : RefFl H v F) : ∃ cs : List Value, v = .agg cs.toArray /\ cs.length = 5 /\ (cs.all fun v => v.oneCell') = true := by
 have h0 := h
 obtain ⟨s, b, d, a, m, rfl, _⟩ := h
 exact ⟨[s, b, d, a, m], rfl, rfl, all1_cs h0.all1⟩
end Go.Mg
namespace Go.Mg
open Go Go.RowKit
set_option linter.all false
set_option maxRecDepth 100000
theorem RefFl.nil {H : Hp} {cs : List Value} {F : FlN} (h : RefFl H (.agg cs.toArray) F) : isSl (cs.getD 0 undef) /\ lenV (cs.getD 0 undef) = F.st.length /\ cs[0]? = some (cs.getD 0 undef) := by
 obtain ⟨s, b, d, a, m, e, h1, _⟩ := h
 have e : cs = [s, b, d, a, m] := by simpa using congrArg (fun v : Value => match v with | .agg c => c.toList | _ => []) e
 subst e
 exact ⟨h1.isSl, h1.len, rfl⟩
end Go.Mg
namespace Go.Mg
open Go Go.ChangeShapes Go.WideShapes Go.RowKit
set_option linter.all false
section
variable {H : Type} {enc : TypeId × Value -> H} {P : Program}
end
end Go.Mg
namespace Go.Mg
open Go Go.ChangeShapes Go.WideShapes Go.RowKit
set_option linter.all false
section
variable {H : Type} {enc : TypeId × Value -> H} {P : Program}
end
end Go.Mg

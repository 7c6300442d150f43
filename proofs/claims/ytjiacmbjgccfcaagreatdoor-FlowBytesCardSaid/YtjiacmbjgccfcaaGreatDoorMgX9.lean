/- Several texts of ours in one. No conditions. -/
import Derived.Test.YtjiacmbjgccfcaaGreatDoorMgX6
import Derived.Test.YtjiacmbjgccfcaaGreatDoorMgTvr
import Derived.Test.YtjiacmbjgccfcaaGreatDoorMgVK
open Nat renaming reduceEqDiff → Za, reduceAdd → Zb, reduceMul → Zc, reduceLeDiff → Zd, reduceLT → Ze
open Int renaming reduceBEq → Zf, reduceBNe → Zg, reduceLE → Zh, reduceLT → Zi
namespace Go.Mg
open Go Go.RowKit
set_option linter.unusedSimpArgs false
set_option linter.unusedVariables false
set_option maxRecDepth 100000
def c_frl1 (ι : Ids) : T :=
  (.wcons (.t 22) .none (.app false (ι.t 297) 2 24 #[.string ⟨#[]⟩, .int .i64 0] (.t 15) (.t 21)) (.px (.t 23) .none (.fa 0 (.v 5)) (.wcons .no .none (.st (.t 23) (.t 22)) .done .wnil)) .wnil)
def c_frl2 (ι : Ids) : T :=
  (.wcons (.t 48) .none (.app false (ι.t 194) 2 16 #[.int .i64 0, .int .i64 0] (.t 41) (.t 47)) (.px (.t 49) .none (.nil (.t 38)) (.wcons .no .none (.st (.t 49) (.t 48)) .done .wnil)) .wnil)
def c_frl3 (ι : Ids) : T :=
  (.wcons (.t 64) .none (.app false (ι.t 298) 2 32 #[.int .i64 0, .slice .none 0 0] (.t 57) (.t 63)) (.px (.t 65) .none (.fa 4 (.v 5)) (.wcons .no .none (.st (.t 65) (.t 64)) .done .wnil)) .wnil)
def c_frd1 (ι : Ids) : S :=
  (.dr (.px (.t 14) .none (.fa 0 (.v 5)) (.px (.t 16) .none (.mv (.v 4)) (.px (.t 18) .none (.mv (.v 4)) (.wcons (.t 15) .none (.rd (.ld (.t 14))) (.wcons (.t 17) .none (.call (ι.f 115) [.t 16, .c (.int
  .i64 12)]) (.wcons (.t 19) .none (.call (ι.f 342) [.t 18, .c (.int .i64 63)]) (.px (.t 20) .none (.m (.bld #[.string ⟨#[]⟩, .int .i64 0] [(0, (1, .t 17)), (1, (1, .t 19))])) (.wcons (.t 21) .none
  (.bldF (ι.t 297) 2 1 [.t 20]) (c_frl1 ι) .wnil)) .wnil) .wnil) (.wcons (.t 17) .none (.call (ι.f 115) [.t 16, .c (.int .i64 12)]) (.wcons (.t 15) .none (.rd (.ld (.t 14))) (.wcons (.t 19) .none (.call
  (ι.f 342) [.t 18, .c (.int .i64 63)]) (.px (.t 20) .none (.m (.bld #[.string ⟨#[]⟩, .int .i64 0] [(0, (1, .t 17)), (1, (1, .t 19))])) (.wcons (.t 21) .none (.bldF (ι.t 297) 2 1 [.t 20]) (c_frl1 ι)
  .wnil)) .wnil) (.wcons (.t 19) .none (.call (ι.f 342) [.t 18, .c (.int .i64 63)]) (.px (.t 20) .none (.m (.bld #[.string ⟨#[]⟩, .int .i64 0] [(0, (1, .t 17)), (1, (1, .t 19))])) (.wcons (.t 15) .none
  (.rd (.ld (.t 14))) (.wcons (.t 21) .none (.bldF (ι.t 297) 2 1 [.t 20]) (c_frl1 ι) .wnil) (.wcons (.t 21) .none (.bldF (ι.t 297) 2 1 [.t 20]) (.wcons (.t 15) .none (.rd (.ld (.t 14))) (c_frl1 ι)
  .wnil) .wnil))) .wnil)) .wnil))))))
def c_frd2 (ι : Ids) : S :=
  (.dr (.px (.t 38) .none (.mv (.v 7)) (.px (.t 39) .none (.mv (.v 7)) (.px (.t 40) .none (.nil (.t 39)) (.px (.t 42) .none (.mv (.v 4)) (.px (.t 44) .none (.mv (.v 4)) (.wcons (.t 41) .none (.rd (.ld
  (.t 40))) (.wcons (.t 43) .none (.call (ι.f 342) [.t 42, .c (.int .i64 10)]) (.wcons (.t 45) .none (.call (ι.f 342) [.t 44, .c (.int .i64 10)]) (.px (.t 46) .none (.m (.bld #[.int .i64 0, .int .i64 0]
  [(0, (1, .t 43)), (1, (1, .t 45))])) (.wcons (.t 47) .none (.bldF (ι.t 194) 2 1 [.t 46]) (c_frl2 ι) .wnil)) .wnil) .wnil) (.wcons (.t 43) .none (.call (ι.f 342) [.t 42, .c (.int .i64 10)]) (.wcons (.t
  41) .none (.rd (.ld (.t 40))) (.wcons (.t 45) .none (.call (ι.f 342) [.t 44, .c (.int .i64 10)]) (.px (.t 46) .none (.m (.bld #[.int .i64 0, .int .i64 0] [(0, (1, .t 43)), (1, (1, .t 45))])) (.wcons
  (.t 47) .none (.bldF (ι.t 194) 2 1 [.t 46]) (c_frl2 ι) .wnil)) .wnil) (.wcons (.t 45) .none (.call (ι.f 342) [.t 44, .c (.int .i64 10)]) (.px (.t 46) .none (.m (.bld #[.int .i64 0, .int .i64 0] [(0,
  (1, .t 43)), (1, (1, .t 45))])) (.wcons (.t 41) .none (.rd (.ld (.t 40))) (.wcons (.t 47) .none (.bldF (ι.t 194) 2 1 [.t 46]) (c_frl2 ι) .wnil) (.wcons (.t 47) .none (.bldF (ι.t 194) 2 1 [.t 46])
  (.wcons (.t 41) .none (.rd (.ld (.t 40))) (c_frl2 ι) .wnil) .wnil))) .wnil)) .wnil))))))))
def c_frd3 (ι : Ids) : S :=
  (.dr (.px (.t 56) .none (.fa 4 (.v 5)) (.px (.t 58) .none (.mv (.v 4)) (.px (.t 60) .none (.mv (.v 4)) (.wcons (.t 57) .none (.rd (.ld (.t 56))) (.wcons (.t 59) .none (.call (ι.f 342) [.t 58, .c (.int
  .i64 10)]) (.wcons (.t 61) .none (.call (ι.f 343) [.t 60, .c (.int .i64 10)]) (.px (.t 62) .none (.m (.bld #[.int .i64 0, .slice .none 0 0] [(0, (1, .t 59)), (1, (1, .t 61))])) (.wcons (.t 63) .none
  (.bldF (ι.t 298) 2 1 [.t 62]) (c_frl3 ι) .wnil)) .wnil) .wnil) (.wcons (.t 59) .none (.call (ι.f 342) [.t 58, .c (.int .i64 10)]) (.wcons (.t 57) .none (.rd (.ld (.t 56))) (.wcons (.t 61) .none (.call
  (ι.f 343) [.t 60, .c (.int .i64 10)]) (.px (.t 62) .none (.m (.bld #[.int .i64 0, .slice .none 0 0] [(0, (1, .t 59)), (1, (1, .t 61))])) (.wcons (.t 63) .none (.bldF (ι.t 298) 2 1 [.t 62]) (c_frl3 ι)
  .wnil)) .wnil) (.wcons (.t 61) .none (.call (ι.f 343) [.t 60, .c (.int .i64 10)]) (.px (.t 62) .none (.m (.bld #[.int .i64 0, .slice .none 0 0] [(0, (1, .t 59)), (1, (1, .t 61))])) (.wcons (.t 57)
  .none (.rd (.ld (.t 56))) (.wcons (.t 63) .none (.bldF (ι.t 298) 2 1 [.t 62]) (c_frl3 ι) .wnil) (.wcons (.t 63) .none (.bldF (ι.t 298) 2 1 [.t 62]) (.wcons (.t 57) .none (.rd (.ld (.t 56))) (c_frl3 ι)
  .wnil) .wnil))) .wnil)) .wnil))))))
def c_fread (ι : Ids) : S :=
  .seq (.reg [.e (.v 2) (.new (ι.t 296) #[.slice .none 0 0, .slice .none 0 0, .slice .none 0 0, .slice .none 0 0, .slice .none 0 0]), .p (.v 3) (.mv (.c (.int .i64 0)))]) (.seq (.reg [.p (.t 8) (.mv (.v
  0)), .e (.t 9) (.call (ι.f 108) [.t 8]), .p (.v 4) (.mv (.t 9))]) (.seq (.reg [.e (.v 5) (.new (ι.t 296) #[.slice .none 0 0, .slice .none 0 0, .slice .none 0 0, .slice .none 0 0, .slice .none 0 0])])
  (.seq (.seq (.reg [.p (.t 10) (.mv (.v 4)), .e (.v 11) (.call (ι.f 113) [.t 10, .c (.int .i64 10)]), .p (.v 12) (.mv (.c (.int .i64 0)))]) (.blk 0 (.loop (.seq (.reg [.p (.v 13) (.cm .lss .i64 (.v 12)
  (.v 11))]) (.seq (.ite (.v 13) .skip (.exit 0)) (.seq (.blk 1 (c_frd1 ι)) (.reg [.p (.t 24) (.ar .add .i64 (.v 12) (.c (.int .i64 1))), .p (.v 12) (.mv (.t 24))]))))))) (.seq (.seq (.reg [.p (.t 25)
  (.fa 1 (.v 5)), .p (.t 26) (.fa 2 (.v 5)), .p (.t 27) (.fa 3 (.v 5)), .e (.v 28) (.bldF (ι.t 350) 1 3 [.t 25, .t 26, .t 27]), .p (.v 29) (.m (.lenl (.v 28))), .p (.v 30) (.mv (.c (.int .i64 0)))])
  (.blk 2 (.loop (.seq (.reg [.p (.v 31) (.cm .lss .i64 (.v 30) (.v 29))]) (.seq (.ite (.v 31) .skip (.exit 2)) (.seq (.blk 3 (.seq (.reg [.p (.t 32) (.is 1 (.v 28) (.v 30)), .p (.t 33) (.ld (.t 32)),
  .p (.v 7) (.mv (.t 33))]) (.seq (.reg [.p (.t 34) (.mv (.v 4)), .e (.v 35) (.call (ι.f 113) [.t 34, .c (.int .i64 20)]), .p (.v 36) (.mv (.c (.int .i64 0)))]) (.blk 4 (.loop (.seq (.reg [.p (.v 37)
  (.cm .lss .i64 (.v 36) (.v 35))]) (.seq (.ite (.v 37) .skip (.exit 4)) (.seq (.blk 5 (c_frd2 ι)) (.reg [.p (.t 50) (.ar .add .i64 (.v 36) (.c (.int .i64 1))), .p (.v 36) (.mv (.t 50))]))))))))) (.reg
  [.p (.t 51) (.ar .add .i64 (.v 30) (.c (.int .i64 1))), .p (.v 30) (.mv (.t 51))]))))))) (.seq (.seq (.reg [.p (.t 52) (.mv (.v 4)), .e (.v 53) (.call (ι.f 113) [.t 52, .c (.int .i64 20)]), .p (.v 54)
  (.mv (.c (.int .i64 0)))]) (.blk 6 (.loop (.seq (.reg [.p (.v 55) (.cm .lss .i64 (.v 54) (.v 53))]) (.seq (.ite (.v 55) .skip (.exit 6)) (.seq (.blk 7 (c_frd3 ι)) (.reg [.p (.t 66) (.ar .add .i64 (.v
  54) (.c (.int .i64 1))), .p (.v 54) (.mv (.t 66))]))))))) (.seq (.seq (.reg [.p (.t 67) (.mv (.v 4)), .e (.t 68) (.call (ι.f 117) [.t 67]), .p (.t 69) (.cm .neq .i64 (.t 68) (.c (.int .i64 0))), .p
  (.t 70) (.mv (.t 69)), .gp (.t 71) (.t 70) false (.m (.ldn 5 (.v 5))), .ge (.t 72) (.t 70) false (.call (ι.f 312) [.t 71]), .gp (.t 73) (.t 70) false (.not (.t 72)), .p (.t 74) (.pick (.t 70) (.c
  (.bool true)) (.t 73)), .p (.t 75) (.mv (.t 74)), .gp (.t 76) (.t 75) false (.m (.ldn 5 (.v 5))), .ge (.t 77) (.t 75) false (.call (ι.f 348) [.t 76]), .gp (.t 78) (.t 75) false (.mv (.v 0)), .ge (.t
  79) (.t 75) false (.call (ι.f 344) [.t 77, .t 78]), .gp (.t 80) (.t 75) false (.not (.t 79)), .p (.v 81) (.pick (.t 75) (.c (.bool true)) (.t 80))]) (.ite (.v 81) (.seq (.reg [.p (.t 82) (.m (.bld
  #[.slice .none 0 0, .slice .none 0 0, .slice .none 0 0, .slice .none 0 0, .slice .none 0 0] [])), .e .no (.stn 5 (.v 2) (.t 82)), .p (.v 3) (.mv (.c (.int .i64 6)))]) .ret) .skip)) (.seq (.reg [.p (.t
  83) (.m (.ldn 5 (.v 5))), .e .no (.stn 5 (.v 2) (.t 83)), .p (.v 3) (.mv (.c (.int .i64 0)))]) .ret)))))))
def r_fread : List RV := [.cn 2 5, .t 3]
structure RdS (rb b : Nat) (cs : List Value) (F : Nat → Prop) (Y : Hp → Prop) (A0 : Hp) (s : RS) (A : Hp) : Prop where
  k : Keep (fun q => q = rb) A0 A
  B : Bl A b cs
  R : RdB F A rb s.1 s.2
  l : s.1.length ≤ 1000000
  n : b ≠ rb
  y : Y A
  st : ∀ A A', Keep (fun _ => False) A A' → Y A → Y A'
section
variable {P : Program} {W : Nat → Prop} {rb b : Nat} {cs : List Value} {F : Nat → Prop} {A0 A : Hp} {s : RS} {e : Env} {f : Fr} {Q : Fr → Hp → Prop} {t m : T} {d a : Nat} {Y : Hp → Prop}
theorem RdS.rd (h : RdS rb b cs F Y A0 s A) {off : Nat} {lv : Value} (hc : cs[off]? = some lv) (he : look e a = .pointer (some ⟨b, off, none⟩)) (hK : tvk P W t ((d, lv) :: e) f A Q) (hm : tvk P W m e f A Q) : tvk P W (.wcons (.t d) none (.rd (.ld (.t a))) t m) e f A Q := by
  have c0 : cell A ⟨b, off, none⟩ = some lv := by rw [h.B.cell]; exact hc
  rw [tvk_w]
  refine ⟨?_, hm⟩
  simp only [EX.wp, PX.pre, PX.val, rd_t, he, ldO_ptr, c0, Option.isSome_some, Option.getD_some, kontK_eq, env_t, fr_t, true_and]
  exact ⟨Keep.refl _ _, hK⟩
theorem rdByt_le (most : Nat) (s : RS) : (rdByt most s).2.1.length ≤ s.1.length := by
  unfold rdByt
  split
  · exact Nat.le_refl _
  · split
    · exact Nat.le_refl _
    · next v r h =>
      have := (dec7_drop _ _ _ _ _ h).1
      split
      · exact Nat.le_refl _
      · split
        · exact Nat.le_refl _
        · simp only [List.length_drop]; omega
theorem rdNum_le2 (most : Nat) (s : RS) : (rdNum most s).2.1.length ≤ s.1.length := by
  unfold rdNum
  split
  · exact Nat.le_refl _
  · split
    · exact Nat.le_refl _
    · next v r h =>
      have := (dec7_drop _ _ _ _ _ h).1
      split
      · exact Nat.le_refl _
      · simp only; omega
theorem rdCnt_le2 (most : Nat) (s : RS) : (rdCnt most s).2.1.length ≤ s.1.length ∧ (rdCnt most s).1 ≤ most := by
  unfold rdCnt
  split
  · exact ⟨Nat.le_refl _, Nat.zero_le _⟩
  · split
    · exact ⟨Nat.le_refl _, Nat.zero_le _⟩
    · next v r h =>
      have := (dec7_drop _ _ _ _ _ h).1
      split
      · exact ⟨Nat.le_refl _, Nat.zero_le _⟩
      · simp only; omega
theorem rdSt_le (most : Nat) (s : RS) : (rdSt most s).2.1.length ≤ s.1.length := by
  have := rdByt_le 512 s
  unfold rdSt
  split
  · exact Nat.le_refl _
  · split
    · exact this
    · split
      · exact Nat.le_refl _
      · split
        · exact Nat.le_refl _
        · exact this
theorem RdS.next (h : RdS rb b cs F Y A0 s A) {s' : RS} {A' : Hp} (hl : s'.1.length ≤ s.1.length) (R : RdB F A' rb s'.1 s'.2) (k : Keep (fun q => q = rb) A A') {Y' : Hp → Prop} (y : Y' A') (st : ∀ A A', Keep (fun _ => False) A A' → Y' A → Y' A') : RdS rb b cs F Y' A0 s' A' :=
  ⟨h.k.trans k, k.bl h.B h.n, R, Nat.le_trans hl h.l, h.n, y, st⟩
theorem RdS.str {j : FuncId} (hj : RStrSpec P j) (h : RdS rb b cs F (fun _ => True) A0 s A) (hW : W rb) {most : Nat} (hm : most ≤ 1000000000) (he : look e a = .pointer (some ⟨rb, 0, none⟩))
    (hK : ∀ A', RdS rb b cs F (fun _ => True) A0 (rdByt most s).2 A' → tvk P W t ((d, .string ⟨(rdByt most s).1.toArray⟩) :: e) f A' Q) (hm' : tvk P W m e f A Q) : tvk P W (.wcons (.t d) none (.call j [.t a, .c (.int .i64 (most : Int))]) t m) e f A Q := by
  rw [tvk_w]
  refine ⟨?_, hm'⟩
  simp only [EX.wp, List.map_cons, List.map_nil, rd_t, rd_c, he]
  refine (hj F rb s most A h.R (Nat.le_trans h.l (by omega)) hm).mono ?_
  rintro x A' ⟨rfl, R, k⟩
  exact ⟨k.mono fun q _ e => by rw [e]; exact hW, hK A' (h.next (rdByt_le most s) R k trivial fun _ _ _ _ => trivial)⟩
theorem RdS.num {j : FuncId} (hj : RNumSpec P j) (h : RdS rb b cs F (fun _ => True) A0 s A) (hW : W rb) {most : Nat} (hm : most ≤ 1000000000) (he : look e a = .pointer (some ⟨rb, 0, none⟩))
    (hK : ∀ A', RdS rb b cs F (fun _ => True) A0 (rdNum most s).2 A' → tvk P W t ((d, .int .i64 ((rdNum most s).1 : Int)) :: e) f A' Q) (hm' : tvk P W m e f A Q) : tvk P W (.wcons (.t d) none (.call j [.t a, .c (.int .i64 (most : Int))]) t m) e f A Q := by
  rw [tvk_w]
  refine ⟨?_, hm'⟩
  simp only [EX.wp, List.map_cons, List.map_nil, rd_t, rd_c, he]
  refine (hj F rb s most A h.R (Nat.le_trans h.l (by omega)) hm).mono ?_
  rintro x A' ⟨rfl, R, k⟩
  exact ⟨k.mono fun q _ e => by rw [e]; exact hW, hK A' (h.next (rdNum_le2 most s) R k trivial fun _ _ _ _ => trivial)⟩
def SetY (C : Nat) (y : Value) (p : Nat → Bool) (A : Hp) : Prop := SetM A y p ∧ ∀ q, setB y q → C ≤ q
theorem RdS.set {j : FuncId} (hj : RSetSpec P j) (h : RdS rb b cs F (fun _ => True) A0 s A) (hW : W rb) {most : Nat} (hm : most ≤ 1000000000) (he : look e a = .pointer (some ⟨rb, 0, none⟩))
    (hK : ∀ y A', RdS rb b cs F (SetY A0.size (.agg #[y]) (bitL (rdSt most s).1)) A0 (rdSt most s).2 A' → tvk P W t ((d, .agg #[y]) :: e) f A' Q) (hm' : tvk P W m e f A Q) : tvk P W (.wcons (.t d) none (.call j [.t a, .c (.int .i64 (most : Int))]) t m) e f A Q := by
  rw [tvk_w]
  refine ⟨?_, hm'⟩
  simp only [EX.wp, List.map_cons, List.map_nil, rd_t, rd_c, he]
  refine (hj F rb s most A h.R (Nat.le_trans h.l (by omega)) hm).mono ?_
  rintro x A' ⟨S, o, R, k⟩
  have hS := S
  obtain ⟨y, _, rfl, _⟩ := hS
  have := h.k.size
  exact ⟨k.mono fun q _ e => by rw [e]; exact hW, hK y A' (h.next (rdSt_le most s) R k ⟨S, fun q hq => by have := o q hq; omega⟩ fun _ _ K h => ⟨h.1.keep0 K, h.2⟩)⟩
theorem bld_T {z : Array Value} {te a1 a2 : Nat} {x y cx cy : Value} (h1 : look e a1 = x) (h2 : look e a2 = y) (hx : x.cells = #[cx]) (hy : y.cells = #[cy]) (hz : z.size = 2) (hK : tvk P W t ((te, .agg #[cx, cy]) :: e) f A Q) : tvk P W (.px (.t te) none (.m (.bld z [(0, (1, .t a1)), (1, (1, .t a2))])) t) e f A Q := by
  obtain ⟨l⟩ := z
  match l, hz with
  | [u, w], _ =>
    rw [tvk_px]
    simp only [stabX, PX.free, PM.free, if_true, PX.pre, PM.pre, okFill, rd_t, h1, h2, hx, hy, PX.val, PM.val, fillV_cons, fillV_nil, env_t, fr_t]
    exact ⟨⟨rfl, by simp, rfl, by simp, trivial⟩, hK⟩
theorem RdS.bldF (h : RdS rb b cs F Y A0 s A) {T : TypeId} {cx cy : Value} (he : look e a = .agg #[cx, cy]) (hK : ∀ A' bn, RdS rb b cs F Y A0 s A' → Bl A' bn [cx, cy] → tvk P W t ((d, .slice (some ⟨bn, 0, none⟩) 1 1) :: e) f A' Q) (hm' : tvk P W m e f A Q) : tvk P W (.wcons (.t d) none (.bldF T 2 1 [.t a]) t m) e f A Q := by
  rw [tvk_w]
  refine ⟨?_, hm'⟩
  simp only [EX.wp, List.forall_mem_cons, List.not_mem_nil, false_imp_iff, implies_true, and_true, rd_t, he, Value.cells, List.flatMap_cons, List.flatMap_nil, List.append_nil]
  have K1 : Keep (fun _ => False) A (A.push (.cells #[cx, cy] T)) := (Keep.refl _ _).push _
  refine ⟨rfl, K1.any, hK _ _ ⟨h.k.trans K1.any, K1.bl h.B (by simp), h.R.keep K1 (by simp), h.l, h.n, h.st _ _ K1 h.y, h.st⟩ (Bl.new' _ _ _)⟩
end
theorem app_ptrX {α : Type} {enc : α → List Value} {k : Nat} {P : Program} {T : TypeId} {bytes : Nat} {z : Array Value} {lv sv : Value} {H : Hp} {a c p off : Nat} {e : Env} {f : Fr} {Q : Fr → Hp → Prop} {b C : Nat} {cs : List Value} {L M : List α} {W : Nat → Prop} (hWb : W b) (hWo : ∀ q, ownB lv q → W q)
    (hk : ∀ x, (enc x).length = k) (h1c : ∀ x, ∀ v ∈ enc x, v.oneCell' = true) (hs : OwE enc k H lv L) (hn : ∀ q, ownB lv q → C ≤ q) (hH : C ≤ H.size) (hx : SlE enc k H sv M) (hz : z.size = k) (hb : bytes ≤ 64) (h1 : L.length + M.length ≤ 1000000000)
    (hB : Bl H b cs) (hbC : b < C) (hoff : off < cs.length) (hf : look e c = .pointer (some ⟨b, off, none⟩)) (hap : (p == a || c == a) = false)
    (hK : ∀ v' H', OwE enc k H' v' (L ++ M) → (∀ q, ownB v' q → ownB lv q ∨ H.size ≤ q) → Bl H' b (cs.set off v') → Keep (fun q => q = b ∨ ownB lv q) H H' → Q f H') :
    AppC false T k bytes z lv sv H (kontK P W H (.t a) (.px (.t p) none (.nil (.t c)) (.wcons .no none (.st (.t p) (.t a)) .done .wnil)) e f Q) := by
  refine app_E hk h1c hs hx hz (by unfold maxLen; omega) (Nat.le_trans (Nat.mul_le_mul h1 hb) (by omega)) fun v' H' O' K' o' => ?_
  simp only [Bool.or_eq_false_iff, beq_eq_false_iff_ne, ne_eq] at hap
  have hap' : ¬ a = p := fun h => hap.1 h.symm
  have B' := K'.bl hB (fun h => by have := hn b h; omega)
  have hsl : isSl v' := by obtain ⟨_, _, _, rfl⟩ := O'.shape; trivial
  have hs' := K'.size
  refine ⟨K'.mono fun q _ h => hWo q h, ?_⟩
  have K2 : Keep (fun q => q = b ∨ ownB lv q) H (setc H' ⟨b, off, none⟩ v') := (K'.mono fun q _ h => .inr h).setc _ (.inl (.inl rfl))
  have K3 : Keep W H' (setc H' ⟨b, off, none⟩ v') := (Keep.refl _ _).setc _ (.inl hWb)
  simp only [tvk_px, tvk_w, tvk_wnil, tvk_done, stabX, PX.free, PX.pre, PX.val, noMeth, rd_t, env_t, fr_t, fr_no, env_no, look_cons, hf, if_true, hap', hap.2, if_false, EX.wp, okSt, stH, kontK_eq, and_true, true_and]
  exact ⟨⟨B'.okSt hoff, all1_sl hsl⟩, K3, hK v' _ (O'.keep ((Keep.refl (fun q => q = b) H').setc v' (.inl rfl)) fun q hq e => by
    rcases o' q hq with h | h
    · have := hn q h; omega
    · omega) o' (B'.setc off v') K2⟩
structure RdI (rb b C : Nat) (cs : List Value) (F : Nat → Prop) (s : RS) (A : Hp) : Prop where
  B : Bl A b cs
  R : RdB F A rb s.1 s.2
  l : s.1.length ≤ 1000000
  n : b ≠ rb
  bC : b < C
  rC : rb < C
  hC : C ≤ A.size
  nF : ¬ F b
  FC : ∀ q, F q → q < C
def rdW (rb b C : Nat) (q : Nat) : Prop := q = b ∨ q = rb ∨ C ≤ q
theorem RdI.s {rb b C : Nat} {cs : List Value} {F : Nat → Prop} {s : RS} {A : Hp} (h : RdI rb b C cs F s A) : RdS rb b cs F (fun _ => True) A s A :=
  ⟨Keep.refl _ _, h.B, h.R, h.l, h.n, trivial, fun _ _ _ _ => trivial⟩
def RdK {α : Type} (enc : α → List Value) (rb b C off : Nat) (cs : List Value) (F : Nat → Prop) (s' : RS) (x : α) (L : List α) (A : Hp) (N : Fr → Hp → Prop) (f : Fr) : Prop := ∀ A' lv', Bl A' b (cs.set off lv') → OwE enc 2 A' lv' (L ++ [x]) → (∀ q, ownB lv' q → C ≤ q) → RdB F A' rb s'.1 s'.2 → Keep (rdW rb b C) A A' → N f A'
theorem frl1_ok {P : Program} {ι : Ids} {off : Nat} {f : Fr} {A A' : Hp} {e : Env} {rb b C bn : Nat} {cs : List Value} {F : Nat → Prop} {s s' : RS} {lv : Value} {L : List _} {x : _} {N : Fr → Hp → Prop} (h5 : f 5 = .pointer (some ⟨b, 0, none⟩)) (hI : RdI rb b C cs F s A) (O : OwE encS 2 A lv L) (o : ∀ q, ownB lv q → C ≤ q) (hL : L.length ≤ 100) (hoff : 0 < cs.length)
    (hS : RdS rb b cs F (fun _ => True) A s' A') (hBn : Bl A' bn (encS x)) (e1 : look e 15 = lv) (e2 : look e 21 = .slice (some ⟨bn, 0, none⟩) 1 1)   (hK : RdK encS rb b C 0 cs F s' x L A N f) : tvk P (rdW rb b C) (c_frl1 ι) e f A' N := by
  unfold c_frl1
  rw [tvk_w]
  refine ⟨?_, trivial⟩
  simp only [EX.wp, rd_t, e1, e2]
  have hs := hS.k.size
  have n1 : ∀ q, ownB lv q → q ≠ rb := fun q hq e => by have := o q hq; have := hI.rC; omega
  have hC := hI.hC
  refine app_fieldX (C := C) (.inl rfl) (fun q hq => .inr (.inr (o q hq))) encS_len encS_one (O.keep hS.k n1) o (by omega) (SlE.bl hBn (l := [x]) rfl (by simp [encS_len]) (by simp)) rfl (by omega) (by simp; omega) hS.B hI.bC hoff h5 rfl fun v' A2 O' o' B' K' => ?_
  refine hK A2 v' B' O' (fun q hq => ?_) (hS.R.keep K' fun q hq e => ?_) ((hS.k.mono fun q _ e => .inr (.inl e)).trans (K'.mono fun q _ hq => ?_))
  · rcases o' q hq with h | h
    · exact o q h
    · omega
  · rcases e with e | e
    · exact hI.nF (e ▸ hq)
    · have := o q e; have := hI.FC q hq; omega
  · rcases hq with h | h
    · exact .inl h
    · exact .inr (.inr (o q h))
theorem frl2_ok {P : Program} {ι : Ids} {off : Nat} {f : Fr} {A A' : Hp} {e : Env} {rb b C bn : Nat} {cs : List Value} {F : Nat → Prop} {s s' : RS} {lv : Value} {L : List _} {x : _} {N : Fr → Hp → Prop}   (hI : RdI rb b C cs F s A) (O : OwE pE 2 A lv L) (o : ∀ q, ownB lv q → C ≤ q) (hL : L.length ≤ 100) (hoff : off < cs.length)
    (hS : RdS rb b cs F (fun _ => True) A s' A') (hBn : Bl A' bn (pE x)) (e1 : look e 41 = lv) (e2 : look e 47 = .slice (some ⟨bn, 0, none⟩) 1 1) (e3 : look e 38 = .pointer (some ⟨b, off, none⟩)) (hK : RdK pE rb b C off cs F s' x L A N f) : tvk P (rdW rb b C) (c_frl2 ι) e f A' N := by
  unfold c_frl2
  rw [tvk_w]
  refine ⟨?_, trivial⟩
  simp only [EX.wp, rd_t, e1, e2]
  have hs := hS.k.size
  have n1 : ∀ q, ownB lv q → q ≠ rb := fun q hq e => by have := o q hq; have := hI.rC; omega
  have hC := hI.hC
  refine app_ptrX (C := C) (.inl rfl) (fun q hq => .inr (.inr (o q hq))) pE_len pE_one (O.keep hS.k n1) o (by omega) (SlE.bl hBn (l := [x]) rfl (by simp [pE_len]) (by simp)) rfl (by omega) (by simp; omega) hS.B hI.bC hoff e3 rfl fun v' A2 O' o' B' K' => ?_
  refine hK A2 v' B' O' (fun q hq => ?_) (hS.R.keep K' fun q hq e => ?_) ((hS.k.mono fun q _ e => .inr (.inl e)).trans (K'.mono fun q _ hq => ?_))
  · rcases o' q hq with h | h
    · exact o q h
    · omega
  · rcases e with e | e
    · exact hI.nF (e ▸ hq)
    · have := o q e; have := hI.FC q hq; omega
  · rcases hq with h | h
    · exact .inl h
    · exact .inr (.inr (o q h))
theorem frd1_ok {P : Program} {ι : Ids} (hs : RStrSpec P (ι.f 115)) (hn : RNumSpec P (ι.f 342)) {f : Fr} {A : Hp} {rb b C : Nat} {cs : List Value} {F : Nat → Prop} {s : RS} {lv : Value} {L : List StN} {Qb : Ex → Fr → Hp → Prop} (h4 : f 4 = .pointer (some ⟨rb, 0, none⟩)) (h5 : f 5 = .pointer (some ⟨b, 0, none⟩)) (hI : RdI rb b C cs F s A) (hc : cs[0]? = some lv) (O : OwE encS 2 A lv L) (o : ∀ q, ownB lv q → C ≤ q) (hL : L.length ≤ 100)
    (hK : RdK encS rb b C 0 cs F (rdStp s).2 (rdStp s).1 L A (Qb .n) f) : vc P (c_frd1 ι) Qb f A := by
  unfold c_frd1
  refine vc_drk (rdW rb b C) ?_
  have hoff : 0 < cs.length := (List.getElem?_eq_some_iff.1 hc).1
  have S0 := hI.s
  have hW : rdW rb b C rb := .inr (.inl rfl)
  simp only [tvk_px, stabX, PX.free, if_true, PX.pre, PX.val, rd_v, h4, h5, isP, ptrAdd, add_mk, env_t, fr_t, true_and, and_true]
  repeat' (first | exact trivial | exact frl1_ok (off := 0) h5 hI O o hL hoff (by assumption) (by assumption) rfl rfl hK | refine RdS.rd (by assumption) hc rfl ?_ ?_ | refine RdS.str hs (most := 12) (by assumption) hW (by omega) rfl (fun _ _ => ?_) ?_ | refine RdS.num hn (most := 63) (by assumption) hW (by omega) rfl (fun _ _ => ?_) ?_ | refine bld_T rfl rfl rfl rfl rfl ?_ | refine RdS.bldF (by assumption) rfl (fun _ _ _ _ => ?_) ?_)
theorem frd2_ok {P : Program} {ι : Ids} (hn : RNumSpec P (ι.f 342)) {f : Fr} {A : Hp} {rb b C off : Nat} {cs : List Value} {F : Nat → Prop} {s : RS} {lv : Value} {L : List PrN} {Qb : Ex → Fr → Hp → Prop} (h4 : f 4 = .pointer (some ⟨rb, 0, none⟩)) (h7 : f 7 = .pointer (some ⟨b, off, none⟩)) (hI : RdI rb b C cs F s A) (hc : cs[off]? = some lv) (O : OwE pE 2 A lv L) (o : ∀ q, ownB lv q → C ≤ q) (hL : L.length ≤ 100)
    (hK : RdK pE rb b C off cs F (rdPr s).2 (rdPr s).1 L A (Qb .n) f) : vc P (c_frd2 ι) Qb f A := by
  unfold c_frd2
  refine vc_drk (rdW rb b C) ?_
  have hoff : off < cs.length := (List.getElem?_eq_some_iff.1 hc).1
  have S0 := hI.s
  have hW : rdW rb b C rb := .inr (.inl rfl)
  simp only [tvk_px, stabX, PX.free, if_true, PX.pre, PX.val, rd_v, rd_t, look_cons, noMeth, h4, h7, isP, ptrAdd, add_mk, env_t, fr_t, true_and, and_true]
  repeat' (first | exact trivial | exact frl2_ok hI O o hL hoff (by assumption) (by assumption) rfl rfl rfl hK | refine RdS.rd (by assumption) hc rfl ?_ ?_ | refine RdS.num hn (most := 10) (by assumption) hW (by omega) rfl (fun _ _ => ?_) ?_ | refine bld_T rfl rfl rfl rfl rfl ?_ | refine RdS.bldF (by assumption) rfl (fun _ _ _ _ => ?_) ?_)
def RdK3 (rb b C : Nat) (cs : List Value) (F : Nat → Prop) (s' : RS) (k : Int) (p : Nat → Bool) (lv : Value) (L : List MV) (A : Hp) (N : Fr → Hp → Prop) (f : Fr) : Prop := ∀ A' lv' (x : MV), Bl A' b (cs.set 4 lv') → OwE encV 2 A' lv' (L ++ [x]) → (∀ q, ownB lv' q → ownB lv q ∨ A.size ≤ q) → RdB F A' rb s'.1 s'.2 → Keep (fun q => q = b ∨ q = rb ∨ ownB lv q) A A' → x.1 = k → SetM A' (.agg #[mvV x]) p → (∀ q, slB (mvV x) q → C ≤ q ∧ ¬ ownB lv' q) → N f A'
theorem frl3_ok {P : Program} {ι : Ids} {f : Fr} {A A' : Hp} {e : Env} {rb b C bn : Nat} {cs : List Value} {F : Nat → Prop} {s s' : RS} {lv : Value} {L : List MV} {k : Int} {y : Value} {p : Nat → Bool} {N : Fr → Hp → Prop} (h5 : f 5 = .pointer (some ⟨b, 0, none⟩)) (hI : RdI rb b C cs F s A) (O : OwE encV 2 A lv L) (o : ∀ q, ownB lv q → C ≤ q) (hL : L.length ≤ 100) (hoff : 4 < cs.length)
    (hS : RdS rb b cs F (SetY A.size (.agg #[y]) p) A s' A') (hBn : Bl A' bn [.int .i64 k, y]) (e1 : look e 57 = lv) (e2 : look e 63 = .slice (some ⟨bn, 0, none⟩) 1 1) (hK : RdK3 rb b C cs F s' k p lv L A N f) : tvk P (rdW rb b C) (c_frl3 ι) e f A' N := by
  unfold c_frl3
  rw [tvk_w]
  refine ⟨?_, trivial⟩
  simp only [EX.wp, rd_t, e1, e2]
  have hs := hS.k.size
  have n1 : ∀ q, ownB lv q → q ≠ rb := fun q hq e => by have := o q hq; have := hI.rC; omega
  have hC := hI.hC
  obtain ⟨hSM, hfr⟩ := hS.y
  obtain ⟨x, rfl, hx⟩ : ∃ x : MV, y = mvV x ∧ x.1 = k := by
    have h0 := hSM
    obtain ⟨v, W, ev, hv⟩ := h0
    simp only [Value.agg.injEq, Array.mk.injEq, List.cons.injEq, and_true] at ev
    subst ev
    obtain ⟨a, c, e, _⟩ := hv.sl.mk
    exact ⟨(k, a, _, c), e, rfl⟩
  have hB0 : Bl A' bn (encV x) := by unfold encV; rw [hx]; exact hBn
  refine app_fieldX (C := C) (.inl rfl) (fun q hq => .inr (.inr (o q hq))) encV_len encV_one (O.keep hS.k n1) o (by omega) (SlE.bl hB0 (l := [x]) rfl (by simp [encV_len]) (by simp)) rfl (by omega) (by simp; omega) hS.B hI.bC hoff h5 rfl fun v' A2 O' o' B' K' => ?_
  have nl : ∀ q, slB (mvV x) q → ¬ ownB lv q := fun q hq h => by have := hfr q hq; have := O.old h; omega
  refine hK A2 v' x B' O' (fun q hq => ?_) (hS.R.keep K' fun q hq e => ?_) ((hS.k.mono fun q _ e => .inr (.inl e)).trans (K'.mono fun q _ hq => ?_)) hx (hSM.keep K' fun q hq e => ?_) fun q hq => ⟨by have := hfr q hq; omega, fun h => ?_⟩
  · rcases o' q hq with h | h
    · exact .inl h
    · exact .inr (by omega)
  · rcases e with e | e
    · exact hI.nF (e ▸ hq)
    · have := o q e; have := hI.FC q hq; omega
  · rcases hq with h | h
    · exact .inl h
    · exact .inr (.inr h)
  · rcases e with e | e
    · have := hfr q hq; have := hI.bC; omega
    · exact nl q hq e
  · rcases o' q h with h | h
    · exact nl q hq h
    · have := hSM.old (k := q) hq; omega
theorem frd3_ok {P : Program} {ι : Ids} (hn : RNumSpec P (ι.f 342)) (hs : RSetSpec P (ι.f 343)) {f : Fr} {A : Hp} {rb b C : Nat} {cs : List Value} {F : Nat → Prop} {s : RS} {lv : Value} {L : List MV} {Qb : Ex → Fr → Hp → Prop} (h4 : f 4 = .pointer (some ⟨rb, 0, none⟩)) (h5 : f 5 = .pointer (some ⟨b, 0, none⟩)) (hI : RdI rb b C cs F s A) (hc : cs[4]? = some lv) (O : OwE encV 2 A lv L) (o : ∀ q, ownB lv q → C ≤ q) (hL : L.length ≤ 100)
    (hK : RdK3 rb b C cs F (rdMo s).2 (rdMo s).1.1 (bitL (rdSt 10 (rdNum 10 s).2).1) lv L A (Qb .n) f) : vc P (c_frd3 ι) Qb f A := by
  unfold c_frd3
  refine vc_drk (rdW rb b C) ?_
  have hoff : 4 < cs.length := (List.getElem?_eq_some_iff.1 hc).1
  have S0 := hI.s
  have hW : rdW rb b C rb := .inr (.inl rfl)
  simp only [tvk_px, stabX, PX.free, if_true, PX.pre, PX.val, rd_v, h4, h5, isP, ptrAdd, add_mk, env_t, fr_t, true_and, and_true]
  repeat' (first | exact trivial | exact frl3_ok h5 hI O o hL hoff (by assumption) (by assumption) rfl rfl hK | refine RdS.rd (by assumption) hc rfl ?_ ?_ | refine RdS.num hn (most := 10) (by assumption) hW (by omega) rfl (fun _ _ => ?_) ?_ | refine RdS.set hs (most := 10) (by assumption) hW (by omega) rfl (fun _ _ _ => ?_) ?_ | refine bld_T rfl rfl rfl rfl rfl ?_ | refine RdS.bldF (by assumption) rfl (fun _ _ _ _ => ?_) ?_)
end Go.Mg
namespace Go.Mg
open Go Go.RowKit
set_option linter.unusedSimpArgs false
set_option linter.unusedVariables false
set_option maxRecDepth 100000
theorem rdRep_le {α : Type} {f : RS → α × RS} (hf : ∀ s, (f s).2.1.length ≤ s.1.length) : ∀ (n : Nat) (s : RS), (rdRep f n s).2.1.length ≤ s.1.length
  | 0, _ => Nat.le_refl _
  | n + 1, s => Nat.le_trans (hf _) (rdRep_le hf n s)
theorem rdStp_le (s : RS) : (rdStp s).2.1.length ≤ s.1.length := Nat.le_trans (rdNum_le2 _ _) (rdByt_le _ _)
theorem rdPr_le (s : RS) : (rdPr s).2.1.length ≤ s.1.length := Nat.le_trans (rdNum_le2 _ _) (rdNum_le2 _ _)
theorem rdMo_le (s : RS) : (rdMo s).2.1.length ≤ s.1.length := Nat.le_trans (rdSt_le _ _) (rdNum_le2 _ _)
theorem rdLst_le {α : Type} {f : RS → α × RS} (hf : ∀ s, (f s).2.1.length ≤ s.1.length) (most : Nat) (s : RS) : (rdLst most f s).2.1.length ≤ s.1.length := Nat.le_trans (rdRep_le hf _ _) (rdCnt_le2 _ _).1
def Ph {α : Type} (enc : α → List Value) (fr : RS → α × RS) (rb b off : Nat) (cs : List Value) (F : Nat → Prop) (s0 : RS) (A0 : Hp) (k : Nat) (A : Hp) : Prop := ∃ lv, Bl A b (cs.set off lv) ∧ OwE enc 2 A lv (rdRep fr k s0).1 ∧ (∀ q, ownB lv q → A0.size ≤ q) ∧ RdB F A rb (rdRep fr k s0).2.1 (rdRep fr k s0).2.2 ∧ Keep (rdW rb b A0.size) A0 A
structure PhC (rb b : Nat) (F : Nat → Prop) (s0 : RS) (A0 : Hp) : Prop where
  l : s0.1.length ≤ 1000000
  n : b ≠ rb
  bC : b < A0.size
  rC : rb < A0.size
  nF : ¬ F b
  FC : ∀ q, F q → q < A0.size
theorem Ph.zero {α : Type} {enc : α → List Value} {fr : RS → α × RS} {rb b off : Nat} {cs : List Value} {F : Nat → Prop} {s0 : RS} {A0 : Hp} (B : Bl A0 b cs) (hc : cs[off]? = some (.slice none 0 0)) (R : RdB F A0 rb s0.1 s0.2) : Ph enc fr rb b off cs F s0 A0 0 A0 :=
  ⟨.slice none 0 0, by
    obtain ⟨h, e⟩ := List.getElem?_eq_some_iff.1 hc
    rw [← e, List.set_getElem_self h]; exact B, OwE.nil _, fun q h => h.elim, R, Keep.refl _ _⟩
theorem Ph.step {α : Type} {enc : α → List Value} {fr : RS → α × RS} (hf : ∀ s, (fr s).2.1.length ≤ s.1.length) {rb b off : Nat} {cs : List Value} {F : Nat → Prop} {s0 : RS} {A0 A : Hp} {k : Nat} (c : PhC rb b F s0 A0) (h : Ph enc fr rb b off cs F s0 A0 k A) (hoff : off < cs.length) (hk : k ≤ 100) :
    ∃ lv, RdI rb b A0.size (cs.set off lv) F (rdRep fr k s0).2 A ∧ (cs.set off lv)[off]? = some lv ∧ OwE enc 2 A lv (rdRep fr k s0).1 ∧ (∀ q, ownB lv q → A0.size ≤ q) ∧ (rdRep fr k s0).1.length ≤ 100 ∧
      ∀ {N : Fr → Hp → Prop} {f : Fr}, (∀ A', Ph enc fr rb b off cs F s0 A0 (k + 1) A' → N f A') → RdK enc rb b A0.size off (cs.set off lv) F (fr (rdRep fr k s0).2).2 (fr (rdRep fr k s0).2).1 (rdRep fr k s0).1 A N f := by
  obtain ⟨lv, B, O, o, R, K⟩ := h
  have hs := K.size
  refine ⟨lv, ⟨B, R, Nat.le_trans (rdRep_le hf k s0) c.l, c.n, c.bC, c.rC, hs, c.nF, c.FC⟩, by simp [hoff], O, o, by rw [rdRep_len]; exact hk, ?_⟩
  intro N f hN A' lv' B' O' o' R' K'
  refine hN A' ⟨lv', ?_, O', o', R', K.trans K'⟩
  rwa [List.set_set] at B'
theorem rdSt_bit {most : Nat} {s : RS} {n : Nat} (h : bitL (rdSt most s).1 n = true) : n ≤ most := by
  unfold rdSt at h
  split at h
  · rw [bitL_nil] at h; cases h
  · split at h
    · rw [bitL_nil] at h; cases h
    · split at h
      · rw [bitL_nil] at h; cases h
      · split at h
        · rw [bitL_nil] at h; cases h
        · next hn =>
          apply Classical.byContradiction
          intro hc
          exact hn ⟨n, h, by omega⟩
theorem OwE.phase {α : Type} {enc : α → List Value} {rb b C : Nat} {A A' : Hp} {v : Value} {l : List α} (h : OwE enc 2 A v l) {C0 : Nat} (o : ∀ q, ownB v q → C0 ≤ q) (hb : b < C0) (hr : rb < C0) (hC : A.size ≤ C) (K : Keep (rdW rb b C) A A') : OwE enc 2 A' v l :=
  h.keep K fun q hq e => by
    have := o q hq
    have := h.old hq
    rcases e with e | e | e <;> omega
def FReadSpec (P : Program) (ι : Ids) (k : FuncId) : Prop := ∀ (l : List UInt8) (v : Value) (H : Hp), TabOk ι H → SlR H v (w8 l) → l.length ≤ 1000000 → CallsM P k #[v] H fun r H' =>
  ((∃ F fv, okF F = true ∧ encF F = l ∧ r = .tuple #[fv, .int .i64 0] ∧ ProFl H' fv F) ∨ ((∀ F, okF F = true → encF F ≠ l) ∧ r = .tuple #[.agg #[.slice none 0 0, .slice none 0 0, .slice none 0 0, .slice none 0 0, .slice none 0 0], .int .i64 6])) ∧ Keep (fun _ => False) H H'
structure FRdC (P : Program) (ι : Ids) : Prop where
  newr : RNewRSpec P (ι.f 108)
  cnt : RCountSpec P (ι.f 113)
  str : RStrSpec P (ι.f 115)
  num : RNumSpec P (ι.f 342)
  set : RSetSpec P (ι.f 343)
  fin : REndSpec P (ι.f 117)
  good : FGoodSpec P ι (ι.f 312)
  byt : FBytSpec P ι (ι.f 348)
  beq : BEqSpec P (ι.f 344)
theorem fread_ok {P : Program} {ι : Ids} {k : FuncId} (hk : FnIs P k (c_fread ι) r_fread 1) (c : FRdC P ι) : FReadSpec P ι k := by
  intro l v H hT hv hl
  obtain ⟨Q, hQ⟩ : ∃ Q : Value → Hp → Prop, Q = fun r H' => ((∃ F fv, okF F = true ∧ encF F = l ∧ r = .tuple #[fv, .int .i64 0] ∧ ProFl H' fv F) ∨ ((∀ F, okF F = true → encF F ≠ l) ∧ r = .tuple #[.agg #[.slice none 0 0, .slice none 0 0, .slice none 0 0, .slice none 0 0, .slice none 0 0], .int .i64 6])) ∧ Keep (fun _ => False) H H' := ⟨_, rfl⟩
  rw [← hQ]
  refine calls_of_vc hk (args := [_]) (by simp) ?_
  unfold c_fread r_fread
  simp -implicitDefEqProofs only [go_sem, zS, ↓reduceIte, Za, Zb, Zc, reduceCtorEq, zU, zV, Zf, Zg, Zh, Zi, Zd, Ze, zF]
  refine kont_new fun H1 b2 e1 z1 B1 K1 => ?_
  have B1' : Bl H1 b2 [.slice none 0 0, .slice none 0 0, .slice none 0 0, .slice none 0 0, .slice none 0 0] := B1
  have s1 := K1.size
  simp -implicitDefEqProofs only [go_sem, zS, ↓reduceIte, Za, Zb, Zc, reduceCtorEq, zU, zV, Zf, Zg, Zh, Zi, Zd, Ze, zF]
  refine (c.newr l v H1 (hv.keep K1 (by simp)) (by omega)).mono ?_
  rintro r H2 ⟨rb, FF, rfl, R2, o2, K2⟩
  have B2 := K2.bl B1' (by simp)
  have K12 := K1.trans K2
  have s2 := K2.size
  have hrb := o2 rb R2.at
  have hF2 := R2.bound
  have hrl := hF2 rb R2.at
  rw [kont_eq]
  simp -implicitDefEqProofs only [go_sem, zS, ↓reduceIte, Za, Zb, Zc, reduceCtorEq, zU, zV, Zf, Zg, Zh, Zi, Zd, Ze, zF]
  refine kont_new fun H3 b5 e5 z5 B5 K5 => ?_
  have B5' : Bl H3 b5 [.slice none 0 0, .slice none 0 0, .slice none 0 0, .slice none 0 0, .slice none 0 0] := B5
  have B3 := K5.bl B2 (by simp)
  have K13 := K12.trans K5
  have s5 := K5.size
  have R3 : RdB FF H3 rb (l, (0 : Int)).1 (l, (0 : Int)).2 := R2.keep K5 (by simp)
  have nFb : ¬ FF b5 := fun h => by have := hF2 b5 h; omega
  have hl0 : ((l, (0 : Int)) : RS).1.length ≤ 1000000 := hl
  obtain ⟨s0, hs0⟩ : ∃ s0 : RS, s0 = (l, 0) := ⟨_, rfl⟩
  rw [← hs0] at R3 hl0
  simp -implicitDefEqProofs only [go_sem, zS, ↓reduceIte, Za, Zb, Zc, reduceCtorEq, zU, zV, Zf, Zg, Zh, Zi, Zd, Ze, zF]
  refine (c.cnt FF rb s0 10 H3 R3 (by omega) (by omega)).mono ?_
  rintro r A0 ⟨rfl, R4, K4⟩
  obtain ⟨hc1, hc2⟩ := rdCnt_le2 10 s0
  have B54 := K4.bl B5' (by omega)
  have s4 := K4.size
  have P1 : PhC rb b5 FF (rdCnt 10 s0).2 A0 := ⟨by omega, by omega, by omega, by omega, nFb, fun q hq => by have := hF2 q hq; omega⟩
  rw [kont_eq]
  simp -implicitDefEqProofs only [go_sem, zS, ↓reduceIte, Za, Zb, Zc, reduceCtorEq, zU, zV, Zf, Zg, Zh, Zi, Zd, Ze, zF]
  refine vc_range (rdCnt 10 s0).1 [13, 12] rfl rfl (by omega) (by simp -implicitDefEqProofs only [go_sem, zS, ↓reduceIte, Za, Zb, Zc, reduceCtorEq, kont_eq, zU, zV, Zf, Zg, Zh, Zi, Zd, Ze]) (by simp -implicitDefEqProofs only [go_sem, zS, ↓reduceIte, Za, Zb, Zc, reduceCtorEq, kont_eq, zU, zV, Zf, Zg, Zh, Zi, Zd, Ze]) (fun k g A => Ph encS rdStp rb b5 0 [.slice none 0 0, .slice none 0 0, .slice none 0 0, .slice none 0 0, .slice none 0 0] FF (rdCnt 10 s0).2 A0 k A) (Ph.zero B54 rfl R4) ?_ ?_
  · intro k g A hk' gi gn hP
    obtain ⟨lv, hI, hc, O, o, hL, hN⟩ := hP.step rdStp_le P1 (by simp) (by omega)
    refine frd1_ok c.str c.num (by simp -implicitDefEqProofs only [go_sem, zS, ↓reduceIte, Za, Zb, Zc, reduceCtorEq, kont_eq, zU, zV, Zf, Zg, Zh, Zi, Zd, Ze]) (by simp -implicitDefEqProofs only [go_sem, zS, ↓reduceIte, Za, Zb, Zc, reduceCtorEq, kont_eq, zU, zV, Zf, Zg, Zh, Zi, Zd, Ze]) hI hc O o hL (hN fun A' h => ?_)
    simp -implicitDefEqProofs only [go_sem, zS, ↓reduceIte, Za, Zb, Zc, reduceCtorEq, kont_eq, zU, zV, Zf, Zg, Zh, Zi, Zd, Ze]
    exact h
  rintro g A1 - ⟨sv, BS, OS, oS, RS1, KS⟩
  have e1' : (rdRep rdStp (rdCnt 10 s0).1 (rdCnt 10 s0).2) = rdLst 10 rdStp s0 := rfl
  rw [e1'] at OS RS1
  have hs1 := rdLst_le rdStp_le 10 s0
  generalize hst : rdLst 10 rdStp s0 = p1 at *
  have sS := KS.size
  simp -implicitDefEqProofs only [go_sem, zS, ↓reduceIte, Za, Zb, Zc, reduceCtorEq, zU, zV, Zf, Zg, Zh, Zi, Zd, Ze, zF]
  refine kont_news fun A2 b28 e28 z28 B28 K28 => ?_
  have B28' : Bl A2 b28 [.pointer (some ⟨b5, 1, none⟩), .pointer (some ⟨b5, 2, none⟩), .pointer (some ⟨b5, 3, none⟩)] := B28
  have s28 := K28.size
  have BS2 : Bl A2 b5 (sv :: ([.slice none 0 0, .slice none 0 0, .slice none 0 0] ++ [.slice none 0 0])) := K28.bl BS (by simp)
  have OS2 := OS.keep K28 (by simp)
  have RS2 := RS1.keep K28 (by simp)
  clear B28
  simp -implicitDefEqProofs only [go_sem, zS, ↓reduceIte, Za, Zb, Zc, reduceCtorEq, zU, zV, Zf, Zg, Zh, Zi, Zd, Ze, zF]
  refine vc_range 3 [31, 7, 35, 36, 37, 30] rfl rfl (by omega) (by simp -implicitDefEqProofs only [go_sem, zS, ↓reduceIte, Za, Zb, Zc, reduceCtorEq, kont_eq, zU, zV, Zf, Zg, Zh, Zi, Zd, Ze]) (by simp -implicitDefEqProofs only [go_sem, zS, ↓reduceIte, Za, Zb, Zc, reduceCtorEq, kont_eq, zU, zV, Zf, Zg, Zh, Zi, Zd, Ze]) (fun j g A => ∃ u : List Value, u.length = 3 ∧ Bl A b5 (sv :: (u ++ [.slice none 0 0])) ∧ (∀ i < j, OwE pE 2 A (u.getD i undef) ((rdRep (rdLst 20 rdPr) j p1.2).1.getD i []) ∧ ∀ q, ownB (u.getD i undef) q → A0.size ≤ q) ∧
      (∀ i, j ≤ i → i < 3 → u.getD i undef = .slice none 0 0) ∧ OwE encS 2 A sv p1.1 ∧ RdB FF A rb (rdRep (rdLst 20 rdPr) j p1.2).2.1 (rdRep (rdLst 20 rdPr) j p1.2).2.2 ∧ Bl A b28 [.pointer (some ⟨b5, 1, none⟩), .pointer (some ⟨b5, 2, none⟩), .pointer (some ⟨b5, 3, none⟩)] ∧ Keep (rdW rb b5 A2.size) A2 A)
    ⟨[.slice none 0 0, .slice none 0 0, .slice none 0 0], rfl, BS2, fun i hi => by omega, fun i h1 h2 => by
      have : i = 0 ∨ i = 1 ∨ i = 2 := by omega
      rcases this with rfl | rfl | rfl <;> rfl, OS2, RS2, B28', Keep.refl _ _⟩ ?_ ?_
  · rintro j g1 A hj gi gn ⟨u, ul, B, hdone, hrest, OSA, RA, B28A, KA⟩
    simp -implicitDefEqProofs only [go_sem, zS, ↓reduceIte, Za, Zb, Zc, reduceCtorEq, kont_eq, zU, zV, Zf, Zg, Zh, Zi, Zd, Ze] at gi gn
    have sA := KA.size
    have hp : cell A ⟨b28, j, none⟩ = some (.pointer (some ⟨b5, 1 + j, none⟩)) := by
      rw [B28A.cell]
      have : j = 0 ∨ j = 1 ∨ j = 2 := by omega
      rcases this with rfl | rfl | rfl <;> rfl
    have hlj := rdRep_le (rdLst_le rdPr_le 20) j p1.2
    generalize hS : (rdRep (rdLst 20 rdPr) j p1.2).2 = sj at *
    simp -implicitDefEqProofs only [go_sem, zS, ↓reduceIte, Za, Zb, Zc, reduceCtorEq, zU, zV, Zf, Zg, Zh, Zi, Zd, Ze, zF, gi, tn_cast, hp]
    refine ⟨by omega, (c.cnt FF rb sj 20 A RA (by omega) (by omega)).mono ?_⟩
    rintro r A' ⟨rfl, RA', KA'⟩
    obtain ⟨hd1, hd2⟩ := rdCnt_le2 20 sj
    have sA' := KA'.size
    have B' := KA'.bl B (by omega)
    have nrb : ∀ {q : Nat}, A0.size ≤ q → q ≠ rb := fun h e => by omega
    have P2 : PhC rb b5 FF (rdCnt 20 sj).2 A' := ⟨by omega, by omega, by omega, by omega, nFb, fun q hq => by have := hF2 q hq; omega⟩
    have hcj : (sv :: (u ++ [.slice none 0 0]))[1 + j]? = some (.slice none 0 0) := by
      rw [Nat.add_comm, List.getElem?_cons_succ, List.getElem?_append_left (by omega), List.getElem?_eq_getElem (by omega)]
      have := hrest j (Nat.le_refl _) hj
      rw [List.getD_eq_getElem?_getD, List.getElem?_eq_getElem (by omega)] at this
      exact congrArg some this
    rw [kont_eq]
    simp -implicitDefEqProofs only [go_sem, zS, ↓reduceIte, Za, Zb, Zc, reduceCtorEq, zU, zV, Zf, Zg, Zh, Zi, Zd, Ze, zF]
    refine vc_range (rdCnt 20 sj).1 [37, 36] rfl rfl (by omega) (by simp -implicitDefEqProofs only [go_sem, zS, ↓reduceIte, Za, Zb, Zc, reduceCtorEq, kont_eq, zU, zV, Zf, Zg, Zh, Zi, Zd, Ze]) (by simp -implicitDefEqProofs only [go_sem, zS, ↓reduceIte, Za, Zb, Zc, reduceCtorEq, kont_eq, zU, zV, Zf, Zg, Zh, Zi, Zd, Ze]) (fun k g X => Ph pE rdPr rb b5 (1 + j) (sv :: (u ++ [.slice none 0 0])) FF (rdCnt 20 sj).2 A' k X) (Ph.zero B' hcj RA') ?_ ?_
    · intro k g X hk' gi gn hP
      obtain ⟨lv, hI, hc, O, o, hL, hN⟩ := hP.step rdPr_le P2 (by simp [ul]; omega) (by omega)
      refine frd2_ok c.num (by simp -implicitDefEqProofs only [go_sem, zS, ↓reduceIte, Za, Zb, Zc, reduceCtorEq, kont_eq, zU, zV, Zf, Zg, Zh, Zi, Zd, Ze]) (by simp -implicitDefEqProofs only [go_sem, zS, ↓reduceIte, Za, Zb, Zc, reduceCtorEq, kont_eq, zU, zV, Zf, Zg, Zh, Zi, Zd, Ze]) hI hc O o hL (hN fun A' h => ?_)
      simp -implicitDefEqProofs only [go_sem, zS, ↓reduceIte, Za, Zb, Zc, reduceCtorEq, kont_eq, zU, zV, Zf, Zg, Zh, Zi, Zd, Ze]
      exact h
    · rintro g X - ⟨lv, BX, OX, oX, RX, KX⟩
      have e2 : (rdRep rdPr (rdCnt 20 sj).1 (rdCnt 20 sj).2) = rdLst 20 rdPr sj := rfl
      rw [e2] at OX RX
      have hset : (sv :: (u ++ [.slice none 0 0])).set (1 + j) lv = sv :: (u.set j lv ++ [.slice none 0 0]) := by
        rw [Nat.add_comm, List.set_cons_succ, List.set_append, if_pos (by omega)]
      rw [hset] at BX
      have b28n : ¬ (rdW rb b5 A'.size b28) := fun h => by
        have := B28A.lt
        rcases h with h | h | h <;> omega
      have KAX : Keep (rdW rb b5 A2.size) A X := (KA'.mono fun q _ e => .inr (.inl e)).trans (KX.mono fun q _ e => by
        rcases e with e | e | e
        · exact .inl e
        · exact .inr (.inl e)
        · exact .inr (.inr (by omega)))
      have keepL : ∀ {α : Type} {enc : α → List Value} {v : Value} {l : List α}, OwE enc 2 A v l → (∀ q, ownB v q → A0.size ≤ q) → OwE enc 2 X v l := fun h o =>
        (h.keep KA' fun q hq e => nrb (o q hq) e).phase o (by omega) (by omega) (Nat.le_refl _) KX
      simp -implicitDefEqProofs only [go_sem, zS, ↓reduceIte, Za, Zb, Zc, reduceCtorEq, kont_eq, zU, zV, Zf, Zg, Zh, Zi, Zd, Ze, zF]
      refine ⟨u.set j lv, by simp [ul], BX, fun i hi => ?_, fun i h1 h2 => ?_, keepL OSA oS, ?_, (KX.bl (KA'.bl B28A (by omega)) b28n), KA.trans KAX⟩
      · by_cases e : i = j
        · subst e
          have eg : (u.set i lv).getD i undef = lv := by rw [List.getD_eq_getElem?_getD, List.getElem?_set_self (by omega)]; rfl
          have er : (rdRep (rdLst 20 rdPr) (i + 1) p1.2).1.getD i [] = (rdLst 20 rdPr sj).1 := by
            rw [rdRep, hS]
            simp only
            rw [List.getD_eq_getElem?_getD, List.getElem?_append_right (by rw [rdRep_len]; omega), rdRep_len, Nat.sub_self]; rfl
          rw [eg, er]
          exact ⟨OX, fun q hq => by have := oX q hq; omega⟩
        · have hi' : i < j := by omega
          have eg : (u.set j lv).getD i undef = u.getD i undef := by rw [List.getD_eq_getElem?_getD, List.getElem?_set_ne (by omega), ← List.getD_eq_getElem?_getD]
          have er : (rdRep (rdLst 20 rdPr) (j + 1) p1.2).1.getD i [] = (rdRep (rdLst 20 rdPr) j p1.2).1.getD i [] := by
            rw [rdRep]
            simp only
            rw [List.getD_eq_getElem?_getD, List.getElem?_append_left (by rw [rdRep_len]; omega), ← List.getD_eq_getElem?_getD]
          rw [eg, er]
          exact ⟨keepL (hdone i hi').1 (hdone i hi').2, (hdone i hi').2⟩
      · have eg : (u.set j lv).getD i undef = u.getD i undef := by rw [List.getD_eq_getElem?_getD, List.getElem?_set_ne (by omega), ← List.getD_eq_getElem?_getD]
        rw [eg]
        exact hrest i (by omega) h2
      · rw [rdRep, hS]
        exact RX
  · rintro g1 A - ⟨u, ul, B, hdone, -, OSA, RA, -, KA⟩
    have sA := KA.size
    obtain ⟨bv, dv, av, rfl⟩ : ∃ bv dv av, u = [bv, dv, av] := by
      match u, ul with
      | [x, y, z], _ => exact ⟨x, y, z, rfl⟩
    have B : Bl A b5 [sv, bv, dv, av, .slice none 0 0] := B
    obtain ⟨Ob, ob⟩ := hdone 0 (by omega)
    obtain ⟨Od, od⟩ := hdone 1 (by omega)
    obtain ⟨Oa, oa⟩ := hdone 2 (by omega)
    have hl3 := rdRep_le (rdLst_le rdPr_le 20) 3 p1.2
    have hF0 : rdFl s0 = (⟨p1.1, (rdRep (rdLst 20 rdPr) 3 p1.2).1.getD 0 [], (rdRep (rdLst 20 rdPr) 3 p1.2).1.getD 1 [], (rdRep (rdLst 20 rdPr) 3 p1.2).1.getD 2 [], (rdLst 20 rdMo (rdRep (rdLst 20 rdPr) 3 p1.2).2).1⟩, (rdLst 20 rdMo (rdRep (rdLst 20 rdPr) 3 p1.2).2).2) := by
      rw [← hst]; rfl
    generalize hG0 : (rdRep (rdLst 20 rdPr) 3 p1.2).1.getD 0 [] = g0 at *
    generalize hG1 : (rdRep (rdLst 20 rdPr) 3 p1.2).1.getD 1 [] = g1 at *
    generalize hG2 : (rdRep (rdLst 20 rdPr) 3 p1.2).1.getD 2 [] = g2 at *
    generalize hS3 : (rdRep (rdLst 20 rdPr) 3 p1.2).2 = s3 at *
    have Ob : OwE pE 2 A bv g0 := Ob
    have Od : OwE pE 2 A dv g1 := Od
    have Oa : OwE pE 2 A av g2 := Oa
    simp -implicitDefEqProofs only [go_sem, zS, ↓reduceIte, Za, Zb, Zc, reduceCtorEq, zU, zV, Zf, Zg, Zh, Zi, Zd, Ze, zF]
    refine (c.cnt FF rb s3 20 A RA (by omega) (by omega)).mono ?_
    rintro r A' ⟨rfl, RA', KA'⟩
    obtain ⟨hd1, hd2⟩ := rdCnt_le2 20 s3
    have sA' := KA'.size
    have B' := KA'.bl B (by omega)
    have hlc : ((rdCnt 20 s3).2).1.length ≤ 1000000 := by omega
    rw [kont_eq]
    simp -implicitDefEqProofs only [go_sem, zS, ↓reduceIte, Za, Zb, Zc, reduceCtorEq, zU, zV, Zf, Zg, Zh, Zi, Zd, Ze, zF]
    refine vc_range (rdCnt 20 s3).1 [55, 54] rfl rfl (by omega) (by simp -implicitDefEqProofs only [go_sem, zS, ↓reduceIte, Za, Zb, Zc, reduceCtorEq, kont_eq, zU, zV, Zf, Zg, Zh, Zi, Zd, Ze]) (by simp -implicitDefEqProofs only [go_sem, zS, ↓reduceIte, Za, Zb, Zc, reduceCtorEq, kont_eq, zU, zV, Zf, Zg, Zh, Zi, Zd, Ze]) (fun k g X => ∃ mv ms, Bl X b5 [sv, bv, dv, av, mv] ∧ OwE encV 2 X mv ms ∧ (∀ q, ownB mv q → A'.size ≤ q) ∧ MosR X ms (rdRep rdMo k (rdCnt 20 s3).2).1 ∧ (∀ x ∈ ms, ∀ q, slB (mvV x) q → A'.size ≤ q ∧ ¬ ownB mv q) ∧ RdB FF X rb (rdRep rdMo k (rdCnt 20 s3).2).2.1 (rdRep rdMo k (rdCnt 20 s3).2).2.2 ∧ Keep (rdW rb b5 A'.size) A' X)
      ⟨_, [], B', OwE.nil _, fun q h => h.elim, ⟨rfl, fun i h => by simp at h⟩, by simp, RA', Keep.refl _ _⟩ ?_ ?_
    · rintro k g X hk' gi gn ⟨mv, ms, BX, OX, oX, MX, nX, RX, KX⟩
      have sX := KX.size
      have hlk := rdRep_le rdMo_le k (rdCnt 20 s3).2
      have hI : RdI rb b5 A'.size [sv, bv, dv, av, mv] FF (rdRep rdMo k (rdCnt 20 s3).2).2 X := ⟨BX, RX, by omega, by omega, by omega, by omega, sX, nFb, fun q hq => by have := hF2 q hq; omega⟩
      have hml : ms.length ≤ 100 := by rw [MX.len, rdRep_len]; omega
      refine frd3_ok c.num c.set (by simp -implicitDefEqProofs only [go_sem, zS, ↓reduceIte, Za, Zb, Zc, reduceCtorEq, kont_eq, zU, zV, Zf, Zg, Zh, Zi, Zd, Ze]) (by simp -implicitDefEqProofs only [go_sem, zS, ↓reduceIte, Za, Zb, Zc, reduceCtorEq, kont_eq, zU, zV, Zf, Zg, Zh, Zi, Zd, Ze]) hI rfl OX oX hml ?_
      intro Y mv' x BY OY oY RY KY hx1 hxS hxn
      simp -implicitDefEqProofs only [go_sem, zS, ↓reduceIte, Za, Zb, Zc, reduceCtorEq, kont_eq, zU, zV, Zf, Zg, Zh, Zi, Zd, Ze]
      have hle : ∀ n, bitL (rdSt 10 (rdNum 10 (rdRep rdMo k (rdCnt 20 s3).2).2).2).1 n = true → n < 64 := fun n hn => by
        have := rdSt_bit hn
        omega
      refine ⟨mv', ms ++ [x], BY, OY, fun q hq => ?_, ?_, fun z hz q hq => ?_, RY, KX.trans (KY.mono fun q _ e => ?_)⟩
      · rcases oY q hq with h | h
        · exact oX q h
        · omega
      · refine MosR.snoc (MX.keep KY fun z hz q hq e => ?_) hx1 (hxS.congr fun n => (mskP_bt hle n).symm)
        obtain ⟨n1, n2⟩ := nX z hz q hq
        rcases e with e | e | e
        · omega
        · omega
        · exact n2 e
      · rcases List.mem_append.1 hz with h | h
        · obtain ⟨n1, n2⟩ := nX z h q hq
          refine ⟨n1, fun ho => ?_⟩
          rcases oY q ho with h' | h'
          · exact n2 h'
          · obtain ⟨i, hi, rfl⟩ := List.getElem_of_mem h
            have := (MX.at_ i hi (by rw [← MX.len]; exact hi)).2.old (k := q) hq
            omega
        · simp only [List.mem_singleton] at h
          subst h
          exact hxn q hq
      · rcases e with e | e | e
        · exact .inl e
        · exact .inr (.inl e)
        · exact .inr (.inr (oX q e))
    · rintro g Z - ⟨mv, ms, BZ, OZ, oZ, MZ, nZ, RZ, KZ⟩
      have e3 : (rdRep rdMo (rdCnt 20 s3).1 (rdCnt 20 s3).2) = rdLst 20 rdMo s3 := rfl
      rw [e3] at MZ RZ
      have nrb : ∀ {q : Nat}, A0.size ≤ q → q ≠ rb := fun h e => by omega
      have keepL : ∀ {α : Type} {enc : α → List Value} {v : Value} {l : List α} {Y : Hp}, Keep (fun q => q = b2) Z Y → OwE enc 2 A v l → (∀ q, ownB v q → A0.size ≤ q) → SlE enc 2 Y v l := fun K h o =>
        (((h.keep KA' fun q hq e => nrb (o q hq) e).phase o (by omega) (by omega) (Nat.le_refl _) KZ).keep K fun q hq e => by have := o q hq; omega).sl
      have hPFk : ∀ Y, Keep (fun q => q = b2) Z Y → ProFl Y (.agg #[sv, bv, dv, av, mv]) (rdFl s0).1 := fun Y K => by
        rw [hF0]
        exact ⟨sv, bv, dv, av, mv, ms, rfl, keepL K OSA oS, keepL K Ob ob, keepL K Od od, keepL K Oa oa, (OZ.keep K fun q hq e => by have := oZ q hq; omega).sl, MZ.keep K fun x hx q hq e => by have := (nZ x hx q hq).1; omega⟩
      have hPF := hPFk Z (Keep.refl _ _)
      have sZ := KZ.size
      have hrb' : H.size ≤ rb := by omega
      have w : ∀ (C q : Nat), H.size ≤ C → q < H.size → ¬ rdW rb b5 C q := fun C q h1 h2 e => by
        rcases e with e | e | e <;> omega
      have KHZ : Keep (fun _ => False) H Z := (((((K13.trans' K4 fun q hq e => by omega).trans' KS fun q hq e => w _ q (by omega) hq e).trans K28).trans' KA fun q hq e => w _ q (by omega) hq e).trans' KA' fun q hq e => by omega).trans' KZ fun q hq e => w _ q (by omega) hq e
      have hTZ := hT.keep KHZ
      have hsn : (rdFl s0).2 = (rdLst 20 rdMo s3).2 := by rw [hF0]
      have hrt : ∀ G, okF G = true → encF G = l → rdFl s0 = (G, ([], 0)) := fun G hG he => by
        rw [hs0, ← he]
        have := rdFl_rt (okF_E hG) []
        rwa [List.append_nil] at this
      have w2 : ∀ C, H1.size ≤ C → ¬ rdW rb b5 C b2 := fun C h e => by
        rcases e with e | e | e <;> omega
      have B2Z := KZ.bl (KA'.bl (KA.bl (K28.bl (KS.bl (K4.bl B3 (by omega)) (w2 _ (by omega))) (by simp)) (w2 _ (by omega))) (by omega)) (w2 _ (by omega))
      have t2 := B2Z.okNA (o := 0) (n := 5) (by simp)
      have hFs := RZ.bound
      simp -implicitDefEqProofs only [go_sem, zS, ↓reduceIte, Za, Zb, Zc, reduceCtorEq, zU, zV, Zf, Zg, Zh, Zi, Zd, Ze, zF]
      refine (c.fin FF rb _ _ Z RZ).mono ?_
      rintro r Z1 ⟨rfl, rfl⟩
      rw [← hsn]
      have bad : ∀ A', Keep (fun _ => False) Z1 A' → (∀ G, okF G = true → encF G ≠ l) → (okNA A' ⟨b2, 0, none⟩ 5 ∧ all1 #[Value.slice none 0 0, .slice none 0 0, .slice none 0 0, .slice none 0 0, .slice none 0 0]) ∧ (ldNO (stNA A' ⟨b2, 0, none⟩ [.slice none 0 0, .slice none 0 0, .slice none 0 0, .slice none 0 0, .slice none 0 0]) (.pointer (some ⟨b2, 0, none⟩)) 5).isSome = true ∧
          Q (.tuple #[.agg ((ldNO (stNA A' ⟨b2, 0, none⟩ [.slice none 0 0, .slice none 0 0, .slice none 0 0, .slice none 0 0, .slice none 0 0]) (.pointer (some ⟨b2, 0, none⟩)) 5).getD #[]), .int .i64 6]) (stNA A' ⟨b2, 0, none⟩ [.slice none 0 0, .slice none 0 0, .slice none 0 0, .slice none 0 0, .slice none 0 0]) := fun A' KA' h =>
        retN (R := fun v H' => Q (.tuple #[v, .int .i64 6]) H') (KA'.bl B2Z (by simp)) rfl rfl rfl fun H' z' B' K' => by
          rw [hQ]
          exact ⟨.inr ⟨h, rfl⟩, (KHZ.trans KA').trans' K' fun q hq e => by omega⟩
      have hone : ([sv, bv, dv, av, mv].all fun v => v.oneCell') = true := by
        simp only [List.all_cons, List.all_nil, Bool.and_true, Bool.and_eq_true]
        exact ⟨all1_sl OSA.sl.isSl, all1_sl Ob.sl.isSl, all1_sl Od.sl.isSl, all1_sl Oa.sl.isSl, all1_sl OZ.sl.isSl⟩
      rw [kont_eq]
      by_cases hE : endE (rdFl s0).2 = 0
      case neg =>
        have d1 : ((endE (rdFl s0).2) != 0) = true := bne_iff_ne.2 hE
        simp -implicitDefEqProofs only [go_sem, zS, ↓reduceIte, Za, Zb, Zc, reduceCtorEq, kont_eq, zU, zV, Zf, Zg, Zh, Zi, Zd, Ze, zF, d1, false_imp_iff, forall_const, fillV_nil]
        exact bad Z1 (Keep.refl _ _) fun G hG he => by
          rw [hrt G hG he] at hE
          exact hE rfl
      have d1 : ((endE (rdFl s0).2) != 0) = false := by rw [hE]; rfl
      simp -implicitDefEqProofs only [go_sem, zS, ↓reduceIte, Za, Zb, Zc, reduceCtorEq, zU, zV, Zf, Zg, Zh, Zi, Zd, Ze, zF, d1, BZ.ldNO 5 rfl, forall_const]
      refine (c.good (rdFl s0).1 _ Z1 hTZ hPF).mono ?_
      rintro r Z2 ⟨rfl, KZ2⟩
      rw [kont_eq]
      cases hok : okF (rdFl s0).1 with
      | false =>
        simp -implicitDefEqProofs only [go_sem, zS, ↓reduceIte, Za, Zb, Zc, reduceCtorEq, kont_eq, zU, zV, Zf, Zg, Zh, Zi, Zd, Ze, zF, Bool.not_false, false_imp_iff, forall_const, fillV_nil]
        exact bad Z2 KZ2 fun G hG he => by
          rw [hrt G hG he] at hok
          simp only at hok
          rw [hG] at hok
          cases hok
      | true =>
        have BZ2 := KZ2.bl BZ (by simp)
        simp -implicitDefEqProofs only [go_sem, zS, ↓reduceIte, Za, Zb, Zc, reduceCtorEq, zU, zV, Zf, Zg, Zh, Zi, Zd, Ze, zF, Bool.not_true, BZ2.ldNO 5 rfl, forall_const]
        refine (c.byt (rdFl s0).1 _ Z2 (hTZ.keep KZ2) (hPF.keep0 KZ2) hok).mono ?_
        rintro r Z3 ⟨O3, o3, KZ3⟩
        have KH3 := (KHZ.trans KZ2).trans KZ3
        rw [kont_eq]
        simp -implicitDefEqProofs only [go_sem, zS, ↓reduceIte, Za, Zb, Zc, reduceCtorEq, zU, zV, Zf, Zg, Zh, Zi, Zd, Ze, zF, forall_const]
        refine (c.beq _ l _ v Z3 O3.sl (hv.keep KH3 (by simp))).mono ?_
        rintro r Z4 ⟨rfl, rfl⟩
        rw [kont_eq]
        by_cases heq : encF (rdFl s0).1 = l
        · have BZ4 := (KZ2.trans KZ3).bl BZ (by simp)
          have B24 := (KZ2.trans KZ3).bl B2Z (by simp)
          have t24 := B24.okNA (o := 0) (n := 5) (by simp)
          simp -implicitDefEqProofs only [go_sem, zS, ↓reduceIte, Za, Zb, Zc, reduceCtorEq, kont_eq, zU, zV, Zf, Zg, Zh, Zi, Zd, Ze, zF, heq, decide_true, Bool.not_true, BZ4.ldNO 5 rfl, forall_const]
          refine (fun h => ⟨⟨h.1.1, h.1.2⟩, h.2⟩) (retN (cs := [sv, bv, dv, av, mv]) (R := fun v H' => Q (.tuple #[v, .int .i64 0]) H') B24 rfl rfl hone fun H' z' B' K' => ?_)
          rw [hQ]
          exact ⟨.inl ⟨(rdFl s0).1, _, hok, heq, rfl, hPFk _ ((KZ2.trans KZ3).any.trans K')⟩, KH3.trans' K' fun q hq e => by omega⟩
        · have d4 : decide (encF (rdFl s0).1 = l) = false := decide_eq_false heq
          simp -implicitDefEqProofs only [go_sem, zS, ↓reduceIte, Za, Zb, Zc, reduceCtorEq, kont_eq, zU, zV, Zf, Zg, Zh, Zi, Zd, Ze, zF, d4, Bool.not_false, false_imp_iff, forall_const, fillV_nil]
          exact bad Z4 (KZ2.trans KZ3) fun G hG he => by
            rw [hrt G hG he] at heq
            exact heq he
end Go.Mg
namespace Go.Mg
open Go Go.RowKit
set_option linter.unusedSimpArgs false
set_option linter.unusedVariables false
set_option maxRecDepth 100000
def c_lfbyt (ι : Ids) : S :=
  .seq (.reg [.e (.v 2) (.box (ι.t 288) (.v 0)), .e (.v 3) (.box (ι.t 49) (.v 1)), .p (.v 4) (.mv (.c (.bool false)))]) (.seq (.seq (.reg [.e (.t 14) (.call (ι.f 323) []), .p (.v 15) (.not (.t 14))])
  (.ite (.v 15) (.seq (.reg [.p (.v 4) (.mv (.c (.bool false)))]) .ret) .skip)) (.seq (.reg [.p (.t 17) (.m (.ldn 7 (.v 2))), .e (.t 18) (.call (ι.f 300) [.t 17]), .p (.t 16) (.mv (.t 18)), .p (.t 19)
  (.ext (.t 16) 0), .p (.t 20) (.ext (.t 16) 1), .p (.t 21) (.ext (.t 16) 2), .p (.t 22) (.ext (.t 16) 3), .e (.v 5) (.new (ι.t 296) #[.slice .none 0 0, .slice .none 0 0, .slice .none 0 0, .slice .none
  0 0, .slice .none 0 0]), .e (.v 7) (.new (ι.t 289) #[.slice .none 0 0, .slice .none 0 0, .slice .none 0 0, .slice .none 0 0, .slice .none 0 0]), .e .no (.stn 5 (.v 5) (.t 19)), .p (.t 6) (.mv (.t
  20)), .e .no (.stn 5 (.v 7) (.t 21)), .p (.t 8) (.mv (.t 22))]) (.seq (.reg [.p (.t 23) (.m (.ldn 5 (.v 5))), .e (.t 24) (.call (ι.f 348) [.t 23]), .p (.v 9) (.mv (.t 24))]) (.seq (.reg [.p (.t 26)
  (.mv (.v 9)), .e (.t 27) (.call (ι.f 351) [.t 26]), .p (.t 25) (.mv (.t 27)), .p (.t 28) (.ext (.t 25) 0), .p (.t 29) (.ext (.t 25) 1), .e (.v 10) (.new (ι.t 296) #[.slice .none 0 0, .slice .none 0 0,
  .slice .none 0 0, .slice .none 0 0, .slice .none 0 0]), .e .no (.stn 5 (.v 10) (.t 28)), .p (.v 11) (.mv (.t 29))]) (.seq (.seq (.reg [.p (.t 30) (.mv (.v 9)), .p (.t 31) (.m (.ldn 5 (.v 7))), .e (.t
  32) (.call (ι.f 349) [.t 31]), .e (.t 33) (.call (ι.f 345) [.t 30, .t 32]), .p (.t 34) (.not (.t 33)), .p (.t 35) (.mv (.t 34)), .gp (.t 36) (.t 35) false (.mv (.v 11)), .gp (.t 37) (.t 35) false (.cm
  .neq .i64 (.t 36) (.c (.int .i64 0))), .p (.t 38) (.pick (.t 35) (.c (.bool true)) (.t 37)), .p (.t 39) (.mv (.t 38)), .gp (.t 40) (.t 39) false (.m (.ldn 5 (.v 5))), .gp (.t 41) (.t 39) false (.m
  (.ldn 5 (.v 10))), .ge (.t 42) (.t 39) false (.call (ι.f 333) [.t 40, .t 41]), .gp (.t 43) (.t 39) false (.not (.t 42)), .p (.v 44) (.pick (.t 39) (.c (.bool true)) (.t 43))]) (.ite (.v 44) (.seq
  (.reg [.p (.v 4) (.mv (.c (.bool false)))]) .ret) .skip)) (.seq (.reg [.e (.t 45) (.bldF (ι.t 19) 1 0 []), .p (.t 46) (.mv (.v 9)), .e (.t 47) (.app false (ι.t 19) 1 1 #[.int .u8 0] (.t 45) (.t 46)),
  .p (.v 12) (.mv (.t 47))]) (.seq (.reg [.p (.t 48) (.mv (.v 12)), .p (.t 49) (.ia 2 1 (.v 3) (.c (.int .i64 0))), .p (.t 50) (.ld (.t 49)), .p (.t 51) (.ii .i64 (.t 50)), .p (.t 52) (.mv (.v 12)), .p
  (.t 53) (.m (.lenl (.t 52))), .p (.t 54) (.dv .rem .i64 (.t 51) (.t 53)), .p (.t 55) (.ia 2 1 (.v 3) (.c (.int .i64 1))), .p (.t 56) (.ld (.t 55)), .p (.t 57) (.is 1 (.t 48) (.t 54)), .e .no (.st (.t
  57) (.t 56))]) (.seq (.reg [.p (.t 59) (.mv (.v 12)), .e (.t 60) (.call (ι.f 351) [.t 59]), .p (.t 58) (.mv (.t 60)), .p (.t 61) (.ext (.t 58) 0), .p (.t 62) (.ext (.t 58) 1), .e (.v 13) (.new (ι.t
  296) #[.slice .none 0 0, .slice .none 0 0, .slice .none 0 0, .slice .none 0 0, .slice .none 0 0]), .e .no (.stn 5 (.v 13) (.t 61)), .p (.v 11) (.mv (.t 62))]) (.seq (.seq (.reg [.p (.t 63) (.mv (.v
  11)), .p (.v 64) (.cm .neq .i64 (.t 63) (.c (.int .i64 0)))]) (.ite (.v 64) (.seq (.reg [.p (.t 65) (.mv (.v 11)), .p (.t 66) (.cm .eql .i64 (.t 65) (.c (.int .i64 6))), .p (.t 67) (.mv (.t 66)), .gp
  (.t 68) (.t 67) true (.mv (.v 9)), .gp (.t 69) (.t 67) true (.mv (.v 12)), .ge (.t 70) (.t 67) true (.call (ι.f 345) [.t 68, .t 69]), .gp (.t 71) (.t 67) true (.not (.t 70)), .p (.t 72) (.pick (.t 67)
  (.t 71) (.c (.bool false))), .p (.t 73) (.mv (.t 72)), .gp (.t 74) (.t 73) true (.fa 0 (.v 13)), .gp (.t 75) (.t 73) true (.ld (.t 74)), .gp (.t 76) (.t 73) true (.m (.lenl (.t 75))), .gp (.t 77) (.t
  73) true (.cm .eql .i64 (.t 76) (.c (.int .i64 0))), .p (.t 78) (.pick (.t 73) (.t 77) (.c (.bool false))), .p (.v 4) (.mv (.t 78))]) .ret) .skip)) (.seq (.dr (.px (.t 79) .none (.m (.ldn 5 (.v 13)))
  (.wcons (.t 80) .none (.call (ι.f 143) [.c (.slice .none 0 0)]) (.wcons (.t 81) .none (.call (ι.f 307) [.t 79, .c (.int .i64 63), .t 80]) (.px (.t 82) .none (.cm .eql .i64 (.t 81) (.c (.int .i64 0)))
  (.px (.t 83) .none (.mv (.t 82)) (.px (.t 84) (.some (.t 83, true)) (.m (.ldn 5 (.v 13))) (.px (.t 86) (.some (.t 83, true)) (.mv (.v 12)) (.wcons (.t 85) (.some (.t 83, true)) (.call (ι.f 348) [.t
  84]) (.wcons (.t 87) (.some (.t 83, true)) (.call (ι.f 345) [.t 85, .t 86]) (.px (.t 88) .none (.pick (.t 83) (.t 87) (.c (.bool false))) (.px (.t 89) .none (.mv (.t 88)) (.px (.t 90) (.some (.t 89,
  true)) (.m (.ldn 5 (.v 5))) (.px (.t 91) (.some (.t 89, true)) (.m (.ldn 5 (.v 13))) (.px (.t 93) (.some (.t 89, true)) (.mv (.v 9)) (.px (.t 94) (.some (.t 89, true)) (.mv (.v 12)) (.wcons (.t 92)
  (.some (.t 89, true)) (.call (ι.f 333) [.t 90, .t 91]) (.wcons (.t 95) (.some (.t 89, true)) (.call (ι.f 345) [.t 93, .t 94]) (.px (.t 96) (.some (.t 89, true)) (.eqb false (.t 92) (.t 95)) (.px (.t
  97) .none (.pick (.t 89) (.t 96) (.c (.bool false))) (.px (.v 4) .none (.mv (.t 97)) .done))) .wnil) .wnil))))))) .wnil) .wnil))))) .wnil) .wnil))) .ret))))))))))
def r_lfbyt : List RV := [.t 4]
structure LBC (P : Program) (ι : Ids) : Prop where
  aw : FAwkSpec P ι (ι.f 323)
  mak : LMakfSpec P (ι.f 300)
  byt : FBytSpec P ι (ι.f 348)
  read : FReadSpec P ι (ι.f 351)
  rbyt : RBytesSpec P (ι.f 349)
  same : BEqSpec P (ι.f 345)
  eq : FEqSpec P (ι.f 333)
  chk : FChkSpec P ι (ι.f 307)
  of_ : BOfSpec P (ι.f 143)
theorem OkE.smK {F : FlN} (h : OkE F) : SmK 1000 F := ⟨by have := h.st.1; omega, by have := h.be.1; omega, by have := h.di.1; omega, by have := h.sa.1; omega, by have := h.mo.1; omega⟩
theorem encF_len {F : FlN} (h : OkE F) : 0 < (encF F).length ∧ (encF F).length ≤ 10000 := by
  have h1 := h.stl F.st.length
  have h2 := h.l3l 3
  have h3 := h.mol F.mo.length
  rw [List.take_length] at h1 h3
  rw [show (L3 F).take 3 = L3 F from List.take_length (l := L3 F)] at h2
  have e : 0 < (enc7 F.st.length).length := by simp [enc7, le7]
  rw [encF_3]
  simp only [encL, List.length_append] at h1 h2 h3 ⊢
  omega
theorem okF_inj {F G : FlN} (h1 : okF F = true) (h2 : okF G = true) : encF F = encF G ↔ F = G := by
  constructor
  · intro h
    exact (encF_inj (r := []) (t := []) (okF_E h1) (okF_E h2) (by rw [h])).1
  · rintro rfl; rfl
theorem ProFl.cs {H : Hp} {v : Value} {F : FlN} (h : ProFl H v F) : ∃ cs : List Value, v = .agg cs.toArray ∧ cs.length = 5 ∧ (cs.all fun v => v.oneCell') = true ∧ isSl (cs.getD 0 undef) ∧ lenV (cs.getD 0 undef) = F.st.length ∧ cs[0]? = some (cs.getD 0 undef) := by
  obtain ⟨s, b, d, a, m, ms, rfl, h1, h2, h3, h4, h5, _⟩ := h
  refine ⟨[s, b, d, a, m], rfl, rfl, ?_, h1.isSl, h1.len, rfl⟩
  simp only [List.all_cons, List.all_nil, Bool.and_true, Bool.and_eq_true]
  exact ⟨all1_sl h1.isSl, all1_sl h2.isSl, all1_sl h3.isSl, all1_sl h4.isSl, all1_sl h5.isSl⟩
def LawFBSpec (P : Program) (ι : Ids) (k : FuncId) : Prop := ∀ (r : RawF) (v : Value) (ch : List UInt8) (H : Hp), TabOk ι H → RawFV H v r → ch.length = 2 → CallsM P k #[v, .agg (w8 ch).toArray] H fun x H' => x = .bool true ∧ Keep (fun _ => False) H H'
theorem lfbyt_ok {P : Program} {ι : Ids} {k : FuncId} (hk : FnIs P k (c_lfbyt ι) r_lfbyt 2) (c : LBC P ι) : LawFBSpec P ι k := by
  intro r v ch H hT hv hch
  obtain ⟨Q, hQ⟩ : ∃ Q : Value → Hp → Prop, Q = fun x H' => x = .bool true ∧ Keep (fun _ => False) H H' := ⟨_, rfl⟩
  rw [← hQ]
  obtain ⟨ca, cb, rfl⟩ : ∃ a b, ch = [a, b] := by
    match ch, hch with
    | [a, b], _ => exact ⟨a, b, rfl⟩
  refine calls_of_vc hk (args := [_, _]) (by simp) ?_
  unfold c_lfbyt r_lfbyt
  have hvr := hv
  obtain ⟨h0, ro, be, di, sa, mo, el, rfl, _⟩ := hv
  simp -implicitDefEqProofs only [go_sem, zS, ↓reduceIte, Za, Zb, Zc, reduceCtorEq, zU, zV, Zf, Zg, Zh, Zi, Zd, Ze, zF]
  refine kont_new fun H1 b2 e1 z1 B1 K1 => ?_
  have B1' : Bl H1 b2 [.int .u8 (r.n : Int), ro, be, di, sa, mo, el] := B1
  simp -implicitDefEqProofs only [go_sem, zS, ↓reduceIte, Za, Zb, Zc, reduceCtorEq, zU, zV, Zf, Zg, Zh, Zi, Zd, Ze, zF]
  refine kont_new fun H1b b3 e1b z1b B3 K1b => ?_
  have B3' : Bl H1b b3 [.int .u8 ca.toNat, .int .u8 cb.toNat] := B3
  simp -implicitDefEqProofs only [go_sem, zS, ↓reduceIte, Za, Zb, Zc, reduceCtorEq, zU, zV, Zf, Zg, Zh, Zi, Zd, Ze, zF]
  refine (c.aw H1b (hT.keep (K1.trans K1b))).mono ?_
  rintro x H2 ⟨rfl, K2⟩
  have K02 := (K1.trans K1b).trans K2
  have B2 := (K1b.trans K2).bl B1' (by simp)
  have B32 := K2.bl B3' (by simp)
  rw [kont_eq]
  simp -implicitDefEqProofs only [go_sem, zS, ↓reduceIte, Za, Zb, Zc, reduceCtorEq, zU, zV, Zf, Zg, Zh, Zi, Zd, Ze, zF, Bool.not_true, B2.ldNO 7 rfl]
  refine (c.mak r _ H2 (RawFV.keep0 hvr K02)).mono ?_
  rintro x H3 ⟨fv, lv, mv, uv, rfl, hP, _, hM, _, K3⟩
  have K03 := K02.trans K3
  have B33 := K3.bl B32 (by simp)
  have hP := hP.fl
  have hP0 := hP
  have hM0 := hM
  obtain ⟨s, b, d, a, m, ms, rfl, _⟩ := hP
  obtain ⟨s', b', d', a', m', rfl, _⟩ := hM
  rw [kont_eq]
  simp -implicitDefEqProofs only [go_sem, zS, ↓reduceIte, Za, Zb, Zc, reduceCtorEq, zU, zV, Zf, Zg, Zh, Zi, Zd, Ze, zF]
  refine kont_new fun H4 b5 e4 z4 B4 K4 => ?_
  have B4' : Bl H4 b5 [.slice none 0 0, .slice none 0 0, .slice none 0 0, .slice none 0 0, .slice none 0 0] := B4
  simp -implicitDefEqProofs only [go_sem, zS, ↓reduceIte, Za, Zb, Zc, reduceCtorEq, zU, zV, Zf, Zg, Zh, Zi, Zd, Ze, zF]
  refine kont_new fun H5 b7 e5 z5 B5 K5 => ?_
  have B5' : Bl H5 b7 [.slice none 0 0, .slice none 0 0, .slice none 0 0, .slice none 0 0, .slice none 0 0] := B5
  have s4 := K4.size
  have s5 := K5.size
  have B45 := K5.bl B4' (by simp)
  have t4 := B45.okNA (o := 0) (n := 5) (by simp)
  have C5 := B45.stNA 0 [s, b, d, a, m]
  have L1 : Keep (fun q => q = b5) H5 (stNA H5 ⟨b5, 0, none⟩ [s, b, d, a, m]) := (Keep.refl _ _).stNA _ (.inl rfl)
  have D7 := L1.bl B5' (by omega)
  have t7 := D7.okNA (o := 0) (n := 5) (by simp)
  have C7 := D7.stNA 0 [s', b', d', a', m']
  have L2 : Keep (fun q => q = b7) (stNA H5 ⟨b5, 0, none⟩ [s, b, d, a, m]) (stNA (stNA H5 ⟨b5, 0, none⟩ [s, b, d, a, m]) ⟨b7, 0, none⟩ [s', b', d', a', m']) := (Keep.refl _ _).stNA _ (.inl rfl)
  have D5 := L2.bl C5 (by omega)
  have ha : all1 #[s, b, d, a, m] := hP0.all1
  have ha' : all1 #[s', b', d', a', m'] := hM0.all1
  simp -implicitDefEqProofs only [go_sem, zS, ↓reduceIte, Za, Zb, Zc, reduceCtorEq, zU, zV, Zf, Zg, Zh, Zi, Zd, Ze, zF, t4, t7]
  refine ⟨ha, ?_⟩
  rw [kont_eq]
  simp -implicitDefEqProofs only [go_sem, zS, ↓reduceIte, Za, Zb, Zc, reduceCtorEq, zU, zV, Zf, Zg, Zh, Zi, Zd, Ze, zF, t7]
  refine ⟨ha', ?_⟩
  generalize stNA (stNA H5 ⟨b5, 0, none⟩ [s, b, d, a, m]) ⟨b7, 0, none⟩ [s', b', d', a', m'] = H6 at L2 D5 C7 ⊢
  have K36 : Keep (fun _ => False) H3 H6 := ((K4.trans K5).trans' L1 fun q hq h => by omega).trans' L2 fun q hq h => by omega
  have K06 := K03.trans K36
  have C5' : Bl H6 b5 [s, b, d, a, m] := D5
  have C7' : Bl H6 b7 [s', b', d', a', m'] := C7
  have p6 := hP0.keep0 K36
  have m6 := hM0.keep0 K36
  have hT6 := hT.keep K06
  have hok := mkF_ok r
  have hE := okF_E hok
  have hbl := encF_len hE
  have B36 := K36.bl B33 (by simp)
  clear K1 K1b K2 K3 K4 K5 L1 L2 B1 B1' B3 B3' B2 B32 B33 B4 B4' B5 B5' B45 C5 C7 D7 D5 K02 K03 K36
  generalize mkF r = F at *
  rw [kont_eq]
  simp -implicitDefEqProofs only [go_sem, zS, ↓reduceIte, Za, Zb, Zc, reduceCtorEq, zU, zV, Zf, Zg, Zh, Zi, Zd, Ze, zF, C5'.ldNO 5 rfl]
  refine (c.byt F _ H6 hT6 p6 hok).mono ?_
  rintro pv H7 ⟨O7, o7, K7⟩
  rw [kont_eq]
  simp -implicitDefEqProofs only [go_sem, zS, ↓reduceIte, Za, Zb, Zc, reduceCtorEq, zU, zV, Zf, Zg, Zh, Zi, Zd, Ze, zF]
  refine (c.read (encF F) pv H7 (hT6.keep K7) O7.sl (by omega)).mono ?_
  rintro x H8 ⟨hx, K8⟩
  obtain ⟨gv, rfl, hPg⟩ : ∃ gv, x = .tuple #[gv, .int .i64 0] ∧ ProFl H8 gv F := by
    rcases hx with ⟨G, gv, hG, he, rfl, hPG⟩ | ⟨hn, _⟩
    · have : G = F := (okF_inj hG hok).1 he
      subst this
      exact ⟨gv, rfl, hPG⟩
    · exact absurd rfl (hn F hok)
  obtain ⟨gs, rfl, gl, ga, -⟩ := hPg.cs
  have K68 := K7.trans K8
  rw [kont_eq]
  simp -implicitDefEqProofs only [go_sem, zS, ↓reduceIte, Za, Zb, Zc, reduceCtorEq, zU, zV, Zf, Zg, Zh, Zi, Zd, Ze, zF]
  refine kont_newst gs (by simp -implicitDefEqProofs only [go_sem, zS, ↓reduceIte, Za, Zb, Zc, reduceCtorEq, kont_eq, zU, zV, Zf, Zg, Zh, Zi, Zd, Ze]) gl rfl ga fun H9 b10 e10 z10 B10 K9 => ?_
  have K69 := K68.trans K9
  have C79 := K69.bl C7' (by simp)
  simp -implicitDefEqProofs only [go_sem, zS, ↓reduceIte, Za, Zb, Zc, reduceCtorEq, zU, zV, Zf, Zg, Zh, Zi, Zd, Ze, zF, C79.ldNO 5 rfl]
  refine (c.rbyt F _ H9 (m6.keep0 K69) hE).mono ?_
  rintro rv HA ⟨OA, oA, KA⟩
  have K6A := K69.trans KA
  have K7A := (K8.trans K9).trans KA
  rw [kont_eq]
  simp -implicitDefEqProofs only [go_sem, zS, ↓reduceIte, Za, Zb, Zc, reduceCtorEq, zU, zV, Zf, Zg, Zh, Zi, Zd, Ze, zF]
  refine (c.same _ _ pv rv HA (O7.keep K7A (by simp)).sl OA.sl).mono ?_
  rintro x HB ⟨rfl, rfl⟩
  have C5A := K6A.bl C5' (by simp)
  have B10A := KA.bl B10 (by simp)
  have e00 : ((0 : Int) != 0) = false := rfl
  rw [kont_eq]
  simp -implicitDefEqProofs only [go_sem, zS, ↓reduceIte, Za, Zb, Zc, reduceCtorEq, zU, zV, Zf, Zg, Zh, Zi, Zd, Ze, zF, decide_true, Bool.not_true, e00, C5A.ldNO 5 rfl, B10A.ldNO 5 gl.symm, forall_const]
  refine (c.eq F F _ _ HB (p6.keep0 K6A) (hPg.keep0 (K9.trans KA)) hE.smK hE.smK).mono ?_
  rintro x HC ⟨rfl, KC⟩
  have hself : feqB F F = true := feqB_iff.2 rfl
  rw [kont_eq]
  simp -implicitDefEqProofs only [go_sem, zS, ↓reduceIte, Za, Zb, Zc, reduceCtorEq, zU, zV, Zf, Zg, Zh, Zi, Zd, Ze, zF, hself, Bool.not_true]
  refine kont_news fun HD b45 eD zD BD KD => ?_
  have K7D := (K7A.trans KC).trans KD
  have K6D := (K6A.trans KC).trans KD
  have OD : OwS HD (.slice (some ⟨b45, 0, none⟩) 0 0) (w8 []) := OwS.new (l := []) BD rfl rfl
  have s6D := K6D.size
  have sD := (KC.trans KD).size
  simp -implicitDefEqProofs only [go_sem, zS, ↓reduceIte, Za, Zb, Zc, reduceCtorEq, zU, zV, Zf, Zg, Zh, Zi, Zd, Ze, zF]
  refine app_bytes OD (O7.keep K7D (by simp)).sl rfl (by simp; omega) fun qv HE OE KE oE => ?_
  rw [List.nil_append] at OE
  have KE' : Keep (fun q => HC.size ≤ q) HD HE := KE.mono fun q _ (h : q = b45) => by omega
  have oq : ∀ q, ownB qv q → HC.size ≤ q := fun q hq => by
    rcases oE q hq with h | h
    · have h : q = b45 := h; omega
    · omega
  have K6E : Keep (fun _ => False) H6 HE := K6D.trans' KE' fun q hq e => by have := (K6A.trans KC).size; omega
  have B3E := K6E.bl B36 (by simp)
  have c0 : cell HE ⟨b3, 0, none⟩ = some (.int .u8 ca.toNat) := by rw [B3E.cell]; rfl
  have c1 : cell HE ⟨b3, 1, none⟩ = some (.int .u8 cb.toNat) := by rw [B3E.cell]; rfl
  obtain ⟨vb, vc', L, rfl, hlc, hcL, BL, hL, -⟩ := OE.some (by intro e; have := congrArg List.length e; rw [w8_len, List.length_nil] at this; omega)
  rw [w8_len] at hlc hL
  have wa : IntKind.i64.wrap (ca.toNat : Int) = (ca.toNat : Int) := IntWalk.i64_in _ (by have := ca.toNat_lt; omega)
  have hmod : ((ca.toNat : Nat) : Int).tmod ((encF F).length : Int) = ((ca.toNat % (encF F).length : Nat) : Int) := tmod_nat _ _
  have hlt : ca.toNat % (encF F).length < (encF F).length := Nat.mod_lt _ hbl.1
  have hne : ((encF F).length : Int) ≠ 0 := by omega
  have lt := BL.okSt (o := ca.toNat % (encF F).length) (by omega)
  generalize hi : ca.toNat % (encF F).length = i at *
  have OS : OwS (setc HE ⟨vb, i, none⟩ (.int .u8 cb.toNat)) (.slice (some ⟨vb, 0, none⟩) (encF F).length vc') (w8 ((encF F).set i cb)) := by
    have := setOwS (l := w8 (encF F)) BL (by rw [w8_len]; exact hlc) hcL (by rw [w8_len]; exact hL) i (.int .u8 cb.toNat) (by rw [w8_len]; exact hlt)
    rwa [w8_set, w8_len] at this
  have KF : Keep (fun q => HC.size ≤ q) HE (setc HE ⟨vb, i, none⟩ (.int .u8 cb.toNat)) := (Keep.refl _ _).setc _ (.inl (oq vb rfl))
  rw [kont_eq]
  simp -implicitDefEqProofs only [go_sem, zS, ↓reduceIte, Za, Zb, Zc, reduceCtorEq, zU, zV, Zf, Zg, Zh, Zi, Zd, Ze, zF, w8_len, c0, c1, wa, hmod, tn_cast, lt]
  refine ⟨hne, ⟨by omega, by omega⟩, ?_⟩
  rw [kont_eq]
  have sE := KE'.size
  have K6F : Keep (fun _ => False) H6 (setc HE ⟨vb, i, none⟩ (.int .u8 cb.toNat)) := K6E.trans' KF fun q hq e => by have := (K6A.trans KC).size; omega
  have KCF : Keep (fun q => HC.size ≤ q) HC (setc HE ⟨vb, i, none⟩ (.int .u8 cb.toNat)) := (KD.any.trans KE').trans KF
  have K7F : Keep (fun _ => False) H7 (setc HE ⟨vb, i, none⟩ (.int .u8 cb.toNat)) := (K7A.trans KC).trans' KCF fun q hq e => by have := (K7A.trans KC).size; omega
  generalize setc HE ⟨vb, i, none⟩ (.int .u8 cb.toNat) = HF at *
  generalize hq : (encF F).set i cb = ql at *
  have hql : ql.length = (encF F).length := by rw [← hq]; simp
  generalize hqv : Value.slice (some ⟨vb, 0, none⟩) (encF F).length vc' = qv at *
  simp -implicitDefEqProofs only [go_sem, zS, ↓reduceIte, Za, Zb, Zc, reduceCtorEq, zU, zV, Zf, Zg, Zh, Zi, Zd, Ze, zF]
  refine (c.read ql qv HF (hT6.keep K6F) OS.sl (by omega)).mono ?_
  rintro x HG ⟨hx, KG⟩
  have K6G := K6F.trans KG
  have K7G := K7F.trans KG
  rw [kont_eq]
  rcases hx with ⟨G, gv, hG, he, rfl, hPG⟩ | ⟨hno, rfl⟩
  · obtain ⟨hs, rfl, hl5, ha5, hsl, hsn, hs0⟩ := hPG.cs
    simp -implicitDefEqProofs only [go_sem, zS, ↓reduceIte, Za, Zb, Zc, reduceCtorEq, zU, zV, Zf, Zg, Zh, Zi, Zd, Ze, zF]
    refine kont_newst hs (by simp -implicitDefEqProofs only [go_sem, zS, ↓reduceIte, Za, Zb, Zc, reduceCtorEq, kont_eq, zU, zV, Zf, Zg, Zh, Zi, Zd, Ze]) hl5 rfl ha5 fun HH b13 e13 z13 B13 KH => ?_
    have K6H := K6G.trans KH
    have K7H := K7G.trans KH
    simp -implicitDefEqProofs only [go_sem, zS, ↓reduceIte, Za, Zb, Zc, reduceCtorEq, zU, zV, Zf, Zg, Zh, Zi, Zd, Ze, zF, e00]
    refine vc_drk (fun _ => False) ?_
    simp -implicitDefEqProofs only [go_sem, zS, ↓reduceIte, Za, Zb, Zc, reduceCtorEq, zU, zV, Zf, Zg, Zh, Zi, Zd, Ze, zF, B13.ldNO 5 hl5.symm]
    refine (c.of_ [] (.slice none 0 0) HH (SlR.nil _ _ _) (by simp)).mono ?_
    rintro ov HI ⟨SI, KI, _⟩
    have SI := SI.congr (q := fun _ => false) fun n => by simp [ofP]
    have K6I := K6H.trans KI
    simp -implicitDefEqProofs only [go_sem, zS, ↓reduceIte, Za, Zb, Zc, reduceCtorEq, zU, zV, Zf, Zg, Zh, Zi, Zd, Ze, zF]
    refine ⟨KI, (c.chk G _ ov 63 (fun _ => false) HI (hT6.keep K6I) (hPG.keep0 (KH.trans KI)) SI).mono ?_⟩
    rintro x HJ ⟨rfl, KJ⟩
    have h0 : flwE G 63 (fun _ => false) = 0 := okF_iff.1 hG
    have e01 : ((0 : Int) == 0) = true := rfl
    have B13J := (KI.trans KJ).bl B13 (by simp)
    have K6J := K6I.trans KJ
    have hPGJ := hPG.keep0 ((KH.trans KI).trans KJ)
    rw [h0]
    simp -implicitDefEqProofs only [go_sem, zS, ↓reduceIte, Za, Zb, Zc, reduceCtorEq, zU, zV, Zf, Zg, Zh, Zi, Zd, Ze, zF, e01, B13J.ldNO 5 hl5.symm, forall_const]
    refine ⟨KJ, (c.byt G _ HJ (hT6.keep K6J) hPGJ hG).mono ?_⟩
    rintro bv HK ⟨OK, oK, KK⟩
    have K6K := K6J.trans KK
    have KGK := ((KH.trans KI).trans KJ).trans KK
    have OSK := OS.keep (KG.trans KGK) (by simp)
    simp -implicitDefEqProofs only [go_sem, zS, ↓reduceIte, Za, Zb, Zc, reduceCtorEq, zU, zV, Zf, Zg, Zh, Zi, Zd, Ze, zF, forall_const]
    refine ⟨KK, (c.same _ _ bv qv HK OK.sl OSK.sl).mono ?_⟩
    rintro x HL ⟨rfl, rfl⟩
    have C5K := K6K.bl C5' (by simp)
    have B13K := KK.bl B13J (by simp)
    simp -implicitDefEqProofs only [go_sem, zS, ↓reduceIte, Za, Zb, Zc, reduceCtorEq, zU, zV, Zf, Zg, Zh, Zi, Zd, Ze, zF, he, decide_true, C5K.ldNO 5 rfl, B13K.ldNO 5 hl5.symm, forall_const]
    refine ⟨Keep.refl _ _, (c.eq F G _ _ HL (p6.keep0 K6K) (hPGJ.keep0 KK) hE.smK (okF_E hG).smK).mono ?_⟩
    rintro x HM ⟨rfl, KM⟩
    simp -implicitDefEqProofs only [go_sem, zS, ↓reduceIte, Za, Zb, Zc, reduceCtorEq, zU, zV, Zf, Zg, Zh, Zi, Zd, Ze, zF, forall_const]
    refine ⟨KM, (c.same _ _ pv qv HM (O7.keep ((K7G.trans KGK).trans KM) (by simp)).sl (OSK.keep KM (by simp)).sl).mono ?_⟩
    rintro x HN ⟨rfl, rfl⟩
    have hfe : feqB F G = decide (encF F = ql) := by
      rw [Bool.eq_iff_iff, feqB_iff, decide_eq_true_eq, ← he, okF_inj hok hG]
    simp -implicitDefEqProofs only [go_sem, zS, ↓reduceIte, Za, Zb, Zc, reduceCtorEq, kont_eq, zU, zV, Zf, Zg, Zh, Zi, Zd, Ze, zF, hfe, forall_const]
    rw [hQ]
    exact ⟨Keep.refl _ _, rfl, K06.trans (K6K.trans KM)⟩
  · simp -implicitDefEqProofs only [go_sem, zS, ↓reduceIte, Za, Zb, Zc, reduceCtorEq, zU, zV, Zf, Zg, Zh, Zi, Zd, Ze, zF]
    refine kont_newst [.slice none 0 0, .slice none 0 0, .slice none 0 0, .slice none 0 0, .slice none 0 0] (by simp -implicitDefEqProofs only [go_sem, zS, ↓reduceIte, Za, Zb, Zc, reduceCtorEq, kont_eq, zU, zV, Zf, Zg, Zh, Zi, Zd, Ze]) rfl rfl rfl fun HH b13 e13 z13 B13 KH => ?_
    have e60 : ((6 : Int) != 0) = true := rfl
    have e66 : ((6 : Int) == 6) = true := rfl
    have e01 : (((0 : Nat) : Int) == 0) = true := rfl
    have K6H := K6G.trans KH
    simp -implicitDefEqProofs only [go_sem, zS, ↓reduceIte, Za, Zb, Zc, reduceCtorEq, zU, zV, Zf, Zg, Zh, Zi, Zd, Ze, zF, e60, e66, forall_const]
    refine (c.same _ _ pv qv HH (O7.keep (K7G.trans KH) (by simp)).sl (OS.keep (KG.trans KH) (by simp)).sl).mono ?_
    rintro x HI ⟨rfl, rfl⟩
    have d0 : decide (encF F = ql) = false := decide_eq_false fun e => hno F hok e
    have c13 : cell HI ⟨b13, 0, none⟩ = some (.slice none 0 0) := by rw [B13.cell]; rfl
    rw [kont_eq]
    simp -implicitDefEqProofs only [go_sem, zS, ↓reduceIte, Za, Zb, Zc, reduceCtorEq, kont_eq, zU, zV, Zf, Zg, Zh, Zi, Zd, Ze, zF, d0, Bool.not_false, c13, e01, forall_const]
    rw [hQ]
    exact ⟨rfl, K06.trans K6H⟩
end Go.Mg

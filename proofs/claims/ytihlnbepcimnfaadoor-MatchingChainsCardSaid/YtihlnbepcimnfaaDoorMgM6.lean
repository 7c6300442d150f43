/- matching: the search for an augmenting path, walked. -/
import Derived.Test.YtihlnbepcimnfaaDoorMgM5
namespace Go.Mg
open Go Go.RowKit
set_option linter.unusedSimpArgs false
set_option linter.unusedVariables false
set_option linter.unusedSectionVars false
set_option maxRecDepth 100000
/- (ptr matching.search).augment -/
def c_maug (ι : Ids) : S :=
  .seq (.reg [.p (.v 4) (.mv (.c (.bool false)))]) (.seq (.seq (.reg [.p (.t 7) (.mv (.v 0)), .p (.t 8) (.nil (.t 7)), .p (.t 9) (.fa 0 (.t 8)), .p (.t 10) (.ld (.t 9)), .p (.t 11) (.mv (.v 1)), .p (.t
  12) (.is 1 (.t 10) (.t 11)), .p (.v 13) (.ld (.t 12)), .p (.v 14) (.m (.lenl (.v 13))), .p (.v 15) (.mv (.c (.int .i64 0)))]) (.blk 0 (.loop (.seq (.reg [.p (.v 16) (.cm .lss .i64 (.v 15) (.v 14))])
  (.seq (.ite (.v 16) .skip (.exit 0)) (.seq (.blk 1 (.seq (.reg [.p (.t 17) (.is 1 (.v 13) (.v 15)), .p (.t 18) (.ld (.t 17)), .p (.v 6) (.mv (.t 18))]) (.seq (.seq (.reg [.p (.t 19) (.mv (.v 0)), .p
  (.t 20) (.mv (.v 6)), .p (.t 21) (.nil (.t 19)), .p (.t 22) (.fa 514 (.t 21)), .p (.t 23) (.ia 256 1 (.t 22) (.t 20)), .p (.t 24) (.ld (.t 23)), .p (.t 25) (.mv (.t 24)), .gp (.t 26) (.t 25) false
  (.mv (.v 0)), .gp (.t 27) (.t 25) false (.mv (.v 6)), .gp (.t 28) (.t 25) false (.nil (.t 26)), .gp (.t 29) (.t 25) false (.fa 258 (.t 28)), .gp (.t 30) (.t 25) false (.ia 256 1 (.t 29) (.t 27)), .gp
  (.t 31) (.t 25) false (.ld (.t 30)), .p (.v 32) (.pick (.t 25) (.c (.bool true)) (.t 31))]) (.ite (.v 32) (.exit 1) .skip)) (.seq (.reg [.p (.t 33) (.mv (.v 0)), .p (.t 34) (.mv (.v 6)), .p (.t 35)
  (.nil (.t 33)), .p (.t 36) (.fa 514 (.t 35)), .p (.t 37) (.ia 256 1 (.t 36) (.t 34)), .e .no (.st (.t 37) (.c (.bool true)))]) (.seq (.reg [.p (.t 38) (.mv (.v 0)), .p (.t 39) (.mv (.v 6)), .p (.t 40)
  (.nil (.t 38)), .p (.t 41) (.fa 2 (.t 40)), .p (.t 42) (.ia 256 1 (.t 41) (.t 39)), .p (.t 43) (.ld (.t 42)), .p (.t 44) (.cm .lss .i64 (.t 43) (.c (.int .i64 0))), .p (.t 45) (.mv (.t 44)), .gp (.t
  46) (.t 45) false (.mv (.v 0)), .gp (.t 47) (.t 45) false (.mv (.v 0)), .gp (.t 48) (.t 45) false (.mv (.v 6)), .gp (.t 49) (.t 45) false (.nil (.t 47)), .gp (.t 50) (.t 45) false (.fa 2 (.t 49)), .gp
  (.t 51) (.t 45) false (.ia 256 1 (.t 50) (.t 48)), .gp (.t 52) (.t 45) false (.ld (.t 51)), .ge (.t 53) (.t 45) false (.call (ι.f 147) [.t 46, .t 52]), .p (.v 54) (.pick (.t 45) (.c (.bool true)) (.t
  53))]) (.ite (.v 54) (.seq (.dr (.px (.t 55) .none (.mv (.v 0)) (.px (.t 56) .none (.nil (.t 55)) (.px (.t 57) .none (.fa 1 (.t 56)) (.px (.t 59) .none (.mv (.v 1)) (.px (.t 60) .none (.mv (.v 0))
  (.px (.t 61) .none (.mv (.v 6)) (.px (.t 62) .none (.mv (.v 6)) (.px (.t 63) .none (.mv (.v 1)) (.px (.t 65) .none (.nil (.t 60)) (.px (.t 66) .none (.fa 2 (.t 65)) (.wcons (.t 58) .none (.rd (.ld (.t
  57))) (.px (.t 64) .none (.is 1 (.t 58) (.t 59)) (.wcons .no .none (.st (.t 64) (.t 62)) (.px (.t 67) .none (.ia 256 1 (.t 66) (.t 61)) (.wcons .no .none (.st (.t 67) (.t 63)) .done .wnil)) .wnil))
  .wnil)))))))))))) (.seq (.reg [.p (.v 4) (.mv (.c (.bool true)))]) .ret)) .skip)))))) (.reg [.p (.t 68) (.ar .add .i64 (.v 15) (.c (.int .i64 1))), .p (.v 15) (.mv (.t 68))]))))))) (.seq (.reg [.p (.v
  4) (.mv (.c (.bool false)))]) .ret))
def r_maug : List RV := [.t 4]

def srL (gv lv : Value) (R : List Int) (F Se : List Bool) : List Value := gv :: lv :: (iL R ++ (bL F ++ bL Se))
section
variable {gv lv : Value} {R : List Int} {F Se : List Bool} (hR : R.length = 256) (hF : F.length = 256) (hS : Se.length = 256)
include hR in
theorem srL_R {j : Nat} (hj : j < 256) : (srL gv lv R F Se)[2 + j]? = some (.int .i64 (gi R j)) := by
  unfold srL gi
  rw [show 2 + j = j + 1 + 1 by omega, List.getElem?_cons_succ, List.getElem?_cons_succ, List.getElem?_append_left (by rw [iL_len]; omega), iL_get _ _ (by omega)]
  simp [List.getD_eq_getElem?_getD, show j < R.length by omega]
include hR hF in
theorem srL_F {j : Nat} (hj : j < 256) : (srL gv lv R F Se)[258 + j]? = some (.bool (gb' F j)) := by
  unfold srL gb'
  rw [show 258 + j = 256 + j + 1 + 1 by omega, List.getElem?_cons_succ, List.getElem?_cons_succ, List.getElem?_append_right (by rw [iL_len]; omega), iL_len, hR, show 256 + j - 256 = j by omega, List.getElem?_append_left (by rw [bL_len]; omega), bL_get _ _ (by omega)]
  simp [List.getD_eq_getElem?_getD, show j < F.length by omega]
include hR hF hS in
theorem srL_S {j : Nat} (hj : j < 256) : (srL gv lv R F Se)[514 + j]? = some (.bool (gb' Se j)) := by
  unfold srL gb'
  rw [show 514 + j = 512 + j + 1 + 1 by omega, List.getElem?_cons_succ, List.getElem?_cons_succ, List.getElem?_append_right (by rw [iL_len]; omega), iL_len, hR, show 512 + j - 256 = 256 + j by omega, List.getElem?_append_right (by rw [bL_len]; omega), bL_len, hF, show 256 + j - 256 = j by omega, bL_get _ _ (by omega)]
  simp [List.getD_eq_getElem?_getD, show j < Se.length by omega]
include hR in
theorem srL_setR {j : Nat} (hj : j < 256) (x : Int) : (srL gv lv R F Se).set (2 + j) (.int .i64 x) = srL gv lv (R.set j x) F Se := by
  unfold srL
  rw [show 2 + j = j + 1 + 1 by omega, List.set_cons_succ, List.set_cons_succ, List.set_append_left _ _ (by rw [iL_len]; omega), iL_set]
include hR hF in
theorem srL_setF {j : Nat} (hj : j < 256) (x : Bool) : (srL gv lv R F Se).set (258 + j) (.bool x) = srL gv lv R (F.set j x) Se := by
  unfold srL
  rw [show 258 + j = 256 + j + 1 + 1 by omega, List.set_cons_succ, List.set_cons_succ, List.set_append_right _ _ (by rw [iL_len]; omega), iL_len, hR, show 256 + j - 256 = j by omega, List.set_append_left _ _ (by rw [bL_len]; omega), bL_set]
include hR hF hS in
theorem srL_setS {j : Nat} (hj : j < 256) (x : Bool) : (srL gv lv R F Se).set (514 + j) (.bool x) = srL gv lv R F (Se.set j x) := by
  unfold srL
  rw [show 514 + j = 512 + j + 1 + 1 by omega, List.set_cons_succ, List.set_cons_succ, List.set_append_right _ _ (by rw [iL_len]; omega), iL_len, hR, show 512 + j - 256 = 256 + j by omega, List.set_append_right _ _ (by rw [bL_len]; omega), bL_len, hF, show 256 + j - 256 = j by omega, bL_set]
include hR hF hS in
theorem srL_len : (srL gv lv R F Se).length = 770 := by
  unfold srL; simp [iL_len, bL_len, hR, hF, hS]
include hR hF hS in
theorem srL_wrS {S' : List Bool} (h : S'.length = 256) : wrL (srL gv lv R F Se) 514 (bL S') = srL gv lv R F S' := by
  unfold wrL
  have e1 : (srL gv lv R F Se).take 514 = gv :: lv :: (iL R ++ bL F) := by
    unfold srL
    rw [show 514 = 512 + 1 + 1 from rfl, List.take_succ_cons, List.take_succ_cons, ← List.append_assoc, List.take_left' (by simp [iL_len, bL_len, hR, hF])]
  have e2 : (srL gv lv R F Se).drop (514 + (bL S').length) = [] := List.drop_eq_nil_of_le (by rw [srL_len hR hF hS, bL_len, h]; omega)
  rw [e1, e2]
  unfold srL; simp
include hR hF hS in
theorem srL_wrR {R' : List Int} (h : R'.length = 256) : wrL (srL gv lv R F Se) 2 (iL R') = srL gv lv R' F Se := by
  unfold wrL srL
  rw [iL_len, h, show 2 + 256 = 256 + 1 + 1 from rfl, List.drop_succ_cons, List.drop_succ_cons, List.drop_left' (by rw [iL_len, hR])]
  simp
include hR in
theorem srL_getR : ((srL gv lv R F Se).drop 2).take 256 = iL R := by
  unfold srL
  rw [show 2 = 0 + 1 + 1 from rfl, List.drop_succ_cons, List.drop_succ_cons, List.drop_zero, List.take_left' (by rw [iL_len, hR])]
end
/-- block s is a search over the lists g; block bl its partners of the left -/
structure SrH (H : Hp) (s bl : Nat) (gv : Value) (vs : List Value) (g : List (List Nat)) (Z : Nat → Prop) (st : Sst) (F : List Bool) : Prop where
  S : Bl H s (srL gv (.slice (some ⟨bl, 0, none⟩) st.L.length st.L.length) st.R F st.Se)
  L : Bl H bl (iL st.L)
  ne : s ≠ bl
  sl : SlR H gv vs
  len : vs.length = g.length
  at_ : ∀ i, i < g.length → SlR H (vs.getD i undef) (iL (nI (g.getD i [])))
  z1 : ∀ k, slB gv k → Z k
  z2 : ∀ i k, i < g.length → slB (vs.getD i undef) k → Z k
  zs : ¬ Z s
  zl : ¬ Z bl
  lL : st.L.length = g.length
  lR : st.R.length = 256
  lS : st.Se.length = 256
  lF : F.length = 256
theorem SrH.keep {H H' : Hp} {s bl : Nat} {gv : Value} {vs : List Value} {g : List (List Nat)} {Z X : Nat → Prop} {st : Sst} {F : List Bool} (h : SrH H s bl gv vs g Z st F) (hk : Keep X H H') (h1 : ¬ X s) (h2 : ¬ X bl) (h3 : ∀ k, k < H.size → Z k → ¬ X k) : SrH H' s bl gv vs g Z st F :=
  ⟨hk.bl h.S h1, hk.bl h.L h2, h.ne, h.sl.keep hk fun k hb => h3 k (h.sl.old hb) (h.z1 k hb), h.len, fun i hi => (h.at_ i hi).keep hk fun k hb => h3 k ((h.at_ i hi).old hb) (h.z2 i k hi hb), h.z1, h.z2, h.zs, h.zl, h.lL, h.lR, h.lS, h.lF⟩
theorem SrH.toLen {H : Hp} {s bl : Nat} {gv : Value} {vs : List Value} {g : List (List Nat)} {Z : Nat → Prop} {st : Sst} {F : List Bool} (h : SrH H s bl gv vs g Z st F) : Len g.length 256 st := ⟨h.lL, h.lR, h.lS⟩
/-- the state behind a store -/
theorem SrH.setSe {H : Hp} {s bl : Nat} {gv : Value} {vs : List Value} {g : List (List Nat)} {Z : Nat → Prop} {st : Sst} {F : List Bool} (h : SrH H s bl gv vs g Z st F) {j : Nat} (hj : j < 256) (x : Bool) : SrH (setc H ⟨s, 514 + j, none⟩ (.bool x)) s bl gv vs g Z ⟨st.L, st.R, st.Se.set j x⟩ F := by
  have K : Keep (fun k => k = s) H (setc H ⟨s, 514 + j, none⟩ (.bool x)) := (Keep.refl _ _).setc _ (.inl rfl)
  have B := h.S.setc (514 + j) (.bool x)
  rw [srL_setS h.lR h.lF h.lS hj] at B
  exact ⟨B, K.bl h.L (fun e => h.ne e.symm), h.ne, h.sl.keep K fun k hb e => h.zs (e ▸ h.z1 k hb), h.len, fun i hi => (h.at_ i hi).keep K fun k hb e => h.zs (e ▸ h.z2 i k hi hb), h.z1, h.z2, h.zs, h.zl, h.lL, h.lR, by simp [h.lS], h.lF⟩
theorem SrH.setR {H : Hp} {s bl : Nat} {gv : Value} {vs : List Value} {g : List (List Nat)} {Z : Nat → Prop} {st : Sst} {F : List Bool} (h : SrH H s bl gv vs g Z st F) {j : Nat} (hj : j < 256) (x : Int) : SrH (setc H ⟨s, 2 + j, none⟩ (.int .i64 x)) s bl gv vs g Z ⟨st.L, st.R.set j x, st.Se⟩ F := by
  have K : Keep (fun k => k = s) H (setc H ⟨s, 2 + j, none⟩ (.int .i64 x)) := (Keep.refl _ _).setc _ (.inl rfl)
  have B := h.S.setc (2 + j) (.int .i64 x)
  rw [srL_setR h.lR hj] at B
  exact ⟨B, K.bl h.L (fun e => h.ne e.symm), h.ne, h.sl.keep K fun k hb e => h.zs (e ▸ h.z1 k hb), h.len, fun i hi => (h.at_ i hi).keep K fun k hb e => h.zs (e ▸ h.z2 i k hi hb), h.z1, h.z2, h.zs, h.zl, h.lL, by simp [h.lR], h.lS, h.lF⟩
theorem SrH.setF {H : Hp} {s bl : Nat} {gv : Value} {vs : List Value} {g : List (List Nat)} {Z : Nat → Prop} {st : Sst} {F : List Bool} (h : SrH H s bl gv vs g Z st F) {j : Nat} (hj : j < 256) (x : Bool) : SrH (setc H ⟨s, 258 + j, none⟩ (.bool x)) s bl gv vs g Z st (F.set j x) := by
  have K : Keep (fun k => k = s) H (setc H ⟨s, 258 + j, none⟩ (.bool x)) := (Keep.refl _ _).setc _ (.inl rfl)
  have B := h.S.setc (258 + j) (.bool x)
  rw [srL_setF h.lR h.lF hj] at B
  exact ⟨B, K.bl h.L (fun e => h.ne e.symm), h.ne, h.sl.keep K fun k hb e => h.zs (e ▸ h.z1 k hb), h.len, fun i hi => (h.at_ i hi).keep K fun k hb e => h.zs (e ▸ h.z2 i k hi hb), h.z1, h.z2, h.zs, h.zl, h.lL, h.lR, h.lS, by simp [h.lF]⟩
theorem SrH.setL {H : Hp} {s bl : Nat} {gv : Value} {vs : List Value} {g : List (List Nat)} {Z : Nat → Prop} {st : Sst} {F : List Bool} (h : SrH H s bl gv vs g Z st F) (i : Nat) (x : Int) : SrH (setc H ⟨bl, i, none⟩ (.int .i64 x)) s bl gv vs g Z ⟨st.L.set i x, st.R, st.Se⟩ F := by
  have K : Keep (fun k => k = bl) H (setc H ⟨bl, i, none⟩ (.int .i64 x)) := (Keep.refl _ _).setc _ (.inl rfl)
  have B := h.L.setc i (.int .i64 x)
  rw [iL_set] at B
  exact ⟨by have := K.bl h.S h.ne; simpa using this, B, h.ne, h.sl.keep K fun k hb e => h.zl (e ▸ h.z1 k hb), h.len, fun i hi => (h.at_ i hi).keep K fun k hb e => h.zl (e ▸ h.z2 i k hi hb), h.z1, h.z2, h.zs, h.zl, by simp [h.lL], h.lR, h.lS, h.lF⟩
theorem SrH.resetSe {H : Hp} {s bl : Nat} {gv : Value} {vs : List Value} {g : List (List Nat)} {Z : Nat → Prop} {st : Sst} {F : List Bool} (h : SrH H s bl gv vs g Z st F) {S' : List Bool} (hS : S'.length = 256) : SrH (stNA H ⟨s, 514, none⟩ (bL S')) s bl gv vs g Z ⟨st.L, st.R, S'⟩ F := by
  have K : Keep (fun k => k = s) H (stNA H ⟨s, 514, none⟩ (bL S')) := (Keep.refl _ _).stNA _ (.inl rfl)
  have B := h.S.stNA 514 (bL S')
  rw [srL_wrS h.lR h.lF h.lS hS] at B
  exact ⟨B, K.bl h.L (fun e => h.ne e.symm), h.ne, h.sl.keep K fun k hb e => h.zs (e ▸ h.z1 k hb), h.len, fun i hi => (h.at_ i hi).keep K fun k hb e => h.zs (e ▸ h.z2 i k hi hb), h.z1, h.z2, h.zs, h.zl, h.lL, h.lR, hS, h.lF⟩

/-- block s is a search over the lists g; block bl its partners of the left and some room X, c places in all -/
structure SrG (H : Hp) (s bl c : Nat) (X : List Value) (gv : Value) (vs : List Value) (g : List (List Nat)) (Z : Nat → Prop) (st : Sst) (F : List Bool) : Prop where
  S : Bl H s (srL gv (.slice (some ⟨bl, 0, none⟩) st.L.length c) st.R F st.Se)
  L : Bl H bl (iL st.L ++ X)
  ne : s ≠ bl
  sl : SlR H gv vs
  len : vs.length = g.length
  at_ : ∀ i, i < g.length → SlR H (vs.getD i undef) (iL (nI (g.getD i [])))
  z1 : ∀ k, slB gv k → Z k
  z2 : ∀ i k, i < g.length → slB (vs.getD i undef) k → Z k
  zs : ¬ Z s
  zl : ¬ Z bl
  lL : st.L.length = g.length
  lR : st.R.length = 256
  lS : st.Se.length = 256
  lF : F.length = 256
theorem SrG.keep {H H' : Hp} {s bl c : Nat} {X : List Value} {gv : Value} {vs : List Value} {g : List (List Nat)} {Z Y : Nat → Prop} {st : Sst} {F : List Bool} (h : SrG H s bl c X gv vs g Z st F) (hk : Keep Y H H') (h1 : ¬ Y s) (h2 : ¬ Y bl) (h3 : ∀ k, k < H.size → Z k → ¬ Y k) : SrG H' s bl c X gv vs g Z st F :=
  ⟨hk.bl h.S h1, hk.bl h.L h2, h.ne, h.sl.keep hk fun k hb => h3 k (h.sl.old hb) (h.z1 k hb), h.len, fun i hi => (h.at_ i hi).keep hk fun k hb => h3 k ((h.at_ i hi).old hb) (h.z2 i k hi hb), h.z1, h.z2, h.zs, h.zl, h.lL, h.lR, h.lS, h.lF⟩
theorem SrG.toLen {H : Hp} {s bl c : Nat} {X : List Value} {gv : Value} {vs : List Value} {g : List (List Nat)} {Z : Nat → Prop} {st : Sst} {F : List Bool} (h : SrG H s bl c X gv vs g Z st F) : Len g.length 256 st := ⟨h.lL, h.lR, h.lS⟩
/-- the state behind a store -/
theorem SrG.setSe {H : Hp} {s bl c : Nat} {X : List Value} {gv : Value} {vs : List Value} {g : List (List Nat)} {Z : Nat → Prop} {st : Sst} {F : List Bool} (h : SrG H s bl c X gv vs g Z st F) {j : Nat} (hj : j < 256) (x : Bool) : SrG (setc H ⟨s, 514 + j, none⟩ (.bool x)) s bl c X gv vs g Z ⟨st.L, st.R, st.Se.set j x⟩ F := by
  have K : Keep (fun k => k = s) H (setc H ⟨s, 514 + j, none⟩ (.bool x)) := (Keep.refl _ _).setc _ (.inl rfl)
  have B := h.S.setc (514 + j) (.bool x)
  rw [srL_setS h.lR h.lF h.lS hj] at B
  exact ⟨B, K.bl h.L (fun e => h.ne e.symm), h.ne, h.sl.keep K fun k hb e => h.zs (e ▸ h.z1 k hb), h.len, fun i hi => (h.at_ i hi).keep K fun k hb e => h.zs (e ▸ h.z2 i k hi hb), h.z1, h.z2, h.zs, h.zl, h.lL, h.lR, by simp [h.lS], h.lF⟩
theorem SrG.setR {H : Hp} {s bl c : Nat} {X : List Value} {gv : Value} {vs : List Value} {g : List (List Nat)} {Z : Nat → Prop} {st : Sst} {F : List Bool} (h : SrG H s bl c X gv vs g Z st F) {j : Nat} (hj : j < 256) (x : Int) : SrG (setc H ⟨s, 2 + j, none⟩ (.int .i64 x)) s bl c X gv vs g Z ⟨st.L, st.R.set j x, st.Se⟩ F := by
  have K : Keep (fun k => k = s) H (setc H ⟨s, 2 + j, none⟩ (.int .i64 x)) := (Keep.refl _ _).setc _ (.inl rfl)
  have B := h.S.setc (2 + j) (.int .i64 x)
  rw [srL_setR h.lR hj] at B
  exact ⟨B, K.bl h.L (fun e => h.ne e.symm), h.ne, h.sl.keep K fun k hb e => h.zs (e ▸ h.z1 k hb), h.len, fun i hi => (h.at_ i hi).keep K fun k hb e => h.zs (e ▸ h.z2 i k hi hb), h.z1, h.z2, h.zs, h.zl, h.lL, by simp [h.lR], h.lS, h.lF⟩
theorem SrG.setF {H : Hp} {s bl c : Nat} {X : List Value} {gv : Value} {vs : List Value} {g : List (List Nat)} {Z : Nat → Prop} {st : Sst} {F : List Bool} (h : SrG H s bl c X gv vs g Z st F) {j : Nat} (hj : j < 256) (x : Bool) : SrG (setc H ⟨s, 258 + j, none⟩ (.bool x)) s bl c X gv vs g Z st (F.set j x) := by
  have K : Keep (fun k => k = s) H (setc H ⟨s, 258 + j, none⟩ (.bool x)) := (Keep.refl _ _).setc _ (.inl rfl)
  have B := h.S.setc (258 + j) (.bool x)
  rw [srL_setF h.lR h.lF hj] at B
  exact ⟨B, K.bl h.L (fun e => h.ne e.symm), h.ne, h.sl.keep K fun k hb e => h.zs (e ▸ h.z1 k hb), h.len, fun i hi => (h.at_ i hi).keep K fun k hb e => h.zs (e ▸ h.z2 i k hi hb), h.z1, h.z2, h.zs, h.zl, h.lL, h.lR, h.lS, by simp [h.lF]⟩
theorem SrG.setL {H : Hp} {s bl c : Nat} {X : List Value} {gv : Value} {vs : List Value} {g : List (List Nat)} {Z : Nat → Prop} {st : Sst} {F : List Bool} (h : SrG H s bl c X gv vs g Z st F) {i : Nat} (hi : i < g.length) (x : Int) : SrG (setc H ⟨bl, i, none⟩ (.int .i64 x)) s bl c X gv vs g Z ⟨st.L.set i x, st.R, st.Se⟩ F := by
  have K : Keep (fun k => k = bl) H (setc H ⟨bl, i, none⟩ (.int .i64 x)) := (Keep.refl _ _).setc _ (.inl rfl)
  have B := h.L.setc i (.int .i64 x)
  rw [List.set_append_left _ _ (by rw [iL_len, h.lL]; exact hi), iL_set] at B
  exact ⟨by have := K.bl h.S h.ne; simpa using this, B, h.ne, h.sl.keep K fun k hb e => h.zl (e ▸ h.z1 k hb), h.len, fun i hi => (h.at_ i hi).keep K fun k hb e => h.zl (e ▸ h.z2 i k hi hb), h.z1, h.z2, h.zs, h.zl, by simp [h.lL], h.lR, h.lS, h.lF⟩
theorem SrG.resetSe {H : Hp} {s bl c : Nat} {X : List Value} {gv : Value} {vs : List Value} {g : List (List Nat)} {Z : Nat → Prop} {st : Sst} {F : List Bool} (h : SrG H s bl c X gv vs g Z st F) {S' : List Bool} (hS : S'.length = 256) : SrG (stNA H ⟨s, 514, none⟩ (bL S')) s bl c X gv vs g Z ⟨st.L, st.R, S'⟩ F := by
  have K : Keep (fun k => k = s) H (stNA H ⟨s, 514, none⟩ (bL S')) := (Keep.refl _ _).stNA _ (.inl rfl)
  have B := h.S.stNA 514 (bL S')
  rw [srL_wrS h.lR h.lF h.lS hS] at B
  exact ⟨B, K.bl h.L (fun e => h.ne e.symm), h.ne, h.sl.keep K fun k hb e => h.zs (e ▸ h.z1 k hb), h.len, fun i hi => (h.at_ i hi).keep K fun k hb e => h.zs (e ▸ h.z2 i k hi hb), h.z1, h.z2, h.zs, h.zl, h.lL, h.lR, hS, h.lF⟩

theorem SrH.toG {H : Hp} {s bl : Nat} {gv : Value} {vs : List Value} {g : List (List Nat)} {Z : Nat → Prop} {st : Sst} {F : List Bool} (h : SrH H s bl gv vs g Z st F) : SrG H s bl g.length [] gv vs g Z st F :=
  ⟨by have := h.S; rwa [h.lL] at this ⊢, by rw [List.append_nil]; exact h.L, h.ne, h.sl, h.len, h.at_, h.z1, h.z2, h.zs, h.zl, h.lL, h.lR, h.lS, h.lF⟩
theorem SrG.toH {H : Hp} {s bl : Nat} {gv : Value} {vs : List Value} {g : List (List Nat)} {Z : Nat → Prop} {st : Sst} {F : List Bool} (h : SrG H s bl g.length [] gv vs g Z st F) : SrH H s bl gv vs g Z st F :=
  ⟨by have := h.S; rwa [h.lL] at this ⊢, by have := h.L; rwa [List.append_nil] at this, h.ne, h.sl, h.len, h.at_, h.z1, h.z2, h.zs, h.zl, h.lL, h.lR, h.lS, h.lF⟩

def AugSpec (P : Program) (k : FuncId) (m : Nat) : Prop := ∀ (H : Hp) (s bl : Nat) (gv : Value) (vs : List Value) (g : List (List Nat)) (Z : Nat → Prop) (st : Sst) (F : List Bool) (i : Nat), SrH H s bl gv vs g Z st F → (∀ i, ∀ j ∈ g.getD i [], j < 256) → (∀ i, (g.getD i []).length ≤ 4096) → g.length ≤ 256 → uns st.Se < m →
  Inv g.length 256 (Eg g) (gi st.L) (gi st.R) → i < g.length → (gi st.L i = -1 ∨ ∃ j : Nat, j < 256 ∧ gi st.L i = (j : Int) ∧ gb' st.Se j = true) →
  CallsM P k #[.pointer (some ⟨s, 0, none⟩), .int .i64 i] H fun r H' => r = .bool (augF g F m st i).1 ∧ SrH H' s bl gv vs g Z (augF g F m st i).2 F ∧ Keep (fun k => k = s ∨ k = bl) H H'
def AugSpecG (P : Program) (k : FuncId) (m : Nat) : Prop := ∀ (H : Hp) (s bl c : Nat) (X : List Value) (gv : Value) (vs : List Value) (g : List (List Nat)) (Z : Nat → Prop) (st : Sst) (F : List Bool) (i : Nat), SrG H s bl c X gv vs g Z st F → (∀ i, ∀ j ∈ g.getD i [], j < 256) → (∀ i, (g.getD i []).length ≤ 4096) → g.length ≤ 256 → uns st.Se < m →
  Inv g.length 256 (Eg g) (gi st.L) (gi st.R) → i < g.length → (gi st.L i = -1 ∨ ∃ j : Nat, j < 256 ∧ gi st.L i = (j : Int) ∧ gb' st.Se j = true) →
  CallsM P k #[.pointer (some ⟨s, 0, none⟩), .int .i64 i] H fun r H' => r = .bool (augF g F m st i).1 ∧ SrG H' s bl c X gv vs g Z (augF g F m st i).2 F ∧ Keep (fun k => k = s ∨ k = bl) H H'
theorem maug_okG {P : Program} {ι : Ids} {k : FuncId} (hk : FnIs P k (c_maug ι) r_maug 2) (hself : ι.f 147 = k) : ∀ m, AugSpecG P k m := by
  intro m
  induction m with
  | zero => intro H s bl c X gv vs g Z st F i _ _ _ _ h; omega
  | succ m ih =>
    intro H s bl c X gv vs g Z st F i hH hg hgl hgn hu hI hi h0
    refine calls_of_vc hk (args := [_, _]) (by simp) ?_
    unfold c_maug r_maug
    rw [hself]
    have hc0 : cell H ⟨s, 0, none⟩ = some gv := by rw [hH.S.cell]; rfl
    obtain ⟨gb, go, gc, rfl, -, hgc⟩ := hH.sl.cells (by intro e; have := hH.len; rw [e, List.length_nil] at this; omega)
    have hvl := hH.len
    rw [hvl] at hH hgc
    have hgi := hgc i hi
    have hvi : vs[i]? = some (vs.getD i undef) := by rw [List.getD_eq_getElem?_getD, List.getElem?_eq_getElem (by rw [hH.len]; exact hi)]; rfl
    rw [hvi] at hgi
    have hA := hH.at_ i hi
    have hAz := fun k => hH.z2 i k hi
    generalize vs.getD i undef = u at hgi hA hAz
    generalize hl : g.getD i [] = l at hA
    have hll : l.length ≤ 4096 := hl ▸ hgl i
    have hlg : ∀ j ∈ l, j < 256 := fun j hj => hg i j (hl ▸ hj)
    simp only [go_sem, List.map_cons, List.map_nil, ↓reduceIte, Nat.reduceEqDiff, Nat.reduceAdd, Nat.reduceMul, reduceCtorEq, and_true, true_and, Nat.mul_one, Nat.zero_add, Bool.false_eq_true, decide_true, decide_false, not_false_eq_true, kont_eq, hvl, hc0, tn_cast, Nat.mul_one, hgi, hA.isSl, hA.len, iL_len, nI_len]
    refine ⟨by omega, ?_⟩
    have hres : augF g F (m + 1) st i = augL (augF g F m) F i l st := by
      show augL (augF g F m) F i (g.getD i []) st = _
      rw [hl]
    rw [hres]
    refine vc_loop [16, 6, 32, 54, 4, 15] rfl (fun n f H' => ∃ (q : Nat) (st' : Sst), q ≤ l.length ∧ n = l.length - q ∧ f 15 = .int .i64 q ∧ SrG H' s bl c X (.slice (some ⟨gb, go, none⟩) g.length gc) vs g Z st' F ∧ augL (augF g F m) F i (l.drop q) st' = augL (augF g F m) F i l st ∧
        st'.L = st.L ∧ st'.R = st.R ∧ (∀ j, gb' st.Se j = true → gb' st'.Se j = true) ∧ uns st'.Se ≤ m ∧ Keep (fun k => k = s ∨ k = bl) H H') l.length
      ⟨0, st, by omega, by omega, by simp only [go_sem, List.map_cons, List.map_nil, ↓reduceIte, Nat.reduceEqDiff, Nat.reduceAdd, Nat.reduceMul, reduceCtorEq, and_true, true_and, Nat.mul_one, Nat.zero_add, Bool.false_eq_true, decide_true, decide_false, not_false_eq_true, kont_eq]; rfl, hH, by simp, rfl, rfl, fun j h => h, by omega, Keep.refl _ _⟩ ?_
    rintro n f2 H1 ⟨q, st1, hq, rfl, hf, hH1, haug, hL1, hR1, hm1, hu1, K1⟩
    simp only [go_sem, List.map_cons, List.map_nil, ↓reduceIte, Nat.reduceEqDiff, Nat.reduceAdd, Nat.reduceMul, reduceCtorEq, and_true, true_and, Nat.mul_one, Nat.zero_add, Bool.false_eq_true, decide_true, decide_false, not_false_eq_true, kont_eq] at hf
    simp only [go_sem, List.map_cons, List.map_nil, ↓reduceIte, Nat.reduceEqDiff, Nat.reduceAdd, Nat.reduceMul, reduceCtorEq, and_true, true_and, Nat.mul_one, Nat.zero_add, Bool.false_eq_true, decide_true, decide_false, not_false_eq_true, hf]
    refine iteV_dec (fun hlt => ?_) (fun hge => ?_)
    · have hlt : q < l.length := by omega
      have hA1 : SlR H1 u (iL (nI l)) := hA.keep K1 fun k hb e => by
        rcases e with e | e
        · subst e; exact hH.zs (hAz _ hb)
        · subst e; exact hH.zl (hAz _ hb)
      obtain ⟨lb, lo, lc, rfl, -, hlc⟩ := hA1.cells (by intro e; have h := congrArg List.length e; rw [iL_len, nI_len, List.length_nil] at h; omega)
      rw [iL_len, nI_len] at hlc
      have hcq := hlc q hlt
      rw [iL_get _ _ (by rw [nI_len]; exact hlt), nI_get _ _ hlt] at hcq
      have hdrop : l.drop q = l.getD q 0 :: l.drop (q + 1) := by
        rw [List.drop_eq_getElem_cons hlt, List.getD_eq_getElem?_getD, List.getElem?_eq_getElem hlt]; rfl
      rw [hdrop] at haug
      have hj256 : l.getD q 0 < 256 := hlg _ (by rw [List.getD_eq_getElem?_getD, List.getElem?_eq_getElem hlt]; exact List.getElem_mem _)
      have hjE : Eg g i (l.getD q 0) := by
        unfold Eg; rw [hl, List.getD_eq_getElem?_getD, List.getElem?_eq_getElem hlt]; exact List.getElem_mem _
      generalize l.getD q 0 = j at *
      have cS : cell H1 ⟨s, 514 + j, none⟩ = some (.bool (gb' st1.Se j)) := by rw [hH1.S.cell, srL_S hH1.lR hH1.lF hH1.lS hj256]
      have cF : cell H1 ⟨s, 258 + j, none⟩ = some (.bool (gb' F j)) := by rw [hH1.S.cell, srL_F hH1.lR hH1.lF hj256]
      have cR : cell H1 ⟨s, 2 + j, none⟩ = some (.int .i64 (gi st1.R j)) := by rw [hH1.S.cell, srL_R hH1.lR hj256]
      have next : ∀ st2 H2, SrG H2 s bl c X (.slice (some ⟨gb, go, none⟩) g.length gc) vs g Z st2 F → augL (augF g F m) F i (l.drop (q + 1)) st2 = augL (augF g F m) F i l st → st2.L = st.L → st2.R = st.R → (∀ j, gb' st.Se j = true → gb' st2.Se j = true) → uns st2.Se ≤ m → Keep (fun k => k = s ∨ k = bl) H1 H2 →
          ∃ n', n' < l.length - q ∧ ∃ (q' : Nat) (st' : Sst), q' ≤ l.length ∧ n' = l.length - q' ∧ ((q + 1 : Nat) = q') ∧ SrG H2 s bl c X (.slice (some ⟨gb, go, none⟩) g.length gc) vs g Z st' F ∧ augL (augF g F m) F i (l.drop q') st' = augL (augF g F m) F i l st ∧
            st'.L = st.L ∧ st'.R = st.R ∧ (∀ j, gb' st.Se j = true → gb' st'.Se j = true) ∧ uns st'.Se ≤ m ∧ Keep (fun k => k = s ∨ k = bl) H H2 := fun st2 H2 a b c d e f2 K =>
        ⟨_, by omega, q + 1, st2, by omega, rfl, rfl, a, b, c, d, e, f2, K1.trans K⟩
      by_cases hsk : (gb' st1.Se j || gb' F j) = true
      · have haug1 : augL (augF g F m) F i (l.drop (q + 1)) st1 = augL (augF g F m) F i l st := by
          rw [← haug]; unfold gb' at hsk; conv => rhs; unfold augL
          rw [if_pos hsk]
        obtain ⟨n', a1, q', st', a2, a3, a4, a5⟩ := next st1 H1 hH1 haug1 hL1 hR1 hm1 hu1 (Keep.refl _ _)
        cases hse : gb' st1.Se j with
        | true =>
          rw [hse] at cS
          simp (disch := omega) only [go_sem, List.map_cons, List.map_nil, ↓reduceIte, Nat.reduceEqDiff, Nat.reduceAdd, Nat.reduceMul, reduceCtorEq, and_true, true_and, Nat.mul_one, Nat.zero_add, Bool.false_eq_true, decide_true, decide_false, not_false_eq_true, kont_eq, hf, iL_len, nI_len, tn_cast, Nat.mul_one, hcq, cS, IntWalk.i64_in]
          exact ⟨by omega, by omega, n', a1, q', st', a2, a3, by rw [← a4]; simp, a5⟩
        | false =>
          rw [hse] at cS hsk
          rw [Bool.false_or] at hsk
          rw [hsk] at cF
          simp (disch := omega) only [go_sem, List.map_cons, List.map_nil, ↓reduceIte, Nat.reduceEqDiff, Nat.reduceAdd, Nat.reduceMul, reduceCtorEq, and_true, true_and, Nat.mul_one, Nat.zero_add, Bool.false_eq_true, decide_true, decide_false, not_false_eq_true, kont_eq, hf, iL_len, nI_len, tn_cast, Nat.mul_one, hcq, cS, cF, IntWalk.i64_in]
          exact ⟨by omega, by omega, by omega, n', a1, q', st', a2, a3, by rw [← a4]; simp, a5⟩
      · have hse : gb' st1.Se j = false := by cases h : gb' st1.Se j <;> simp_all
        have hfj : gb' F j = false := by cases h : gb' F j <;> simp_all
        have hsk' : ¬ (st1.Se.getD j true || F.getD j true) = true := by unfold gb' at hse hfj; rw [hse, hfj]; simp
        rw [hse] at cS
        rw [hfj] at cF
        have hstS := hH1.S.okSt (o := 514 + j) (by rw [srL_len hH1.lR hH1.lF hH1.lS]; omega)
        have hH2 := hH1.setSe hj256 true
        have K2 : Keep (fun k => k = s ∨ k = bl) H1 (setc H1 ⟨s, 514 + j, none⟩ (.bool true)) := (Keep.refl _ _).setc _ (.inl (.inl rfl))
        simp only [go_sem, List.map_cons, List.map_nil, ↓reduceIte, Nat.reduceEqDiff, Nat.reduceAdd, Nat.reduceMul, reduceCtorEq, and_true, true_and, Nat.mul_one, Nat.zero_add, Bool.false_eq_true, decide_true, decide_false, not_false_eq_true, hf, iL_len, nI_len, tn_cast, Nat.mul_one, hcq, cS, cF]
        refine ⟨by omega, by omega, by omega, by omega, hstS.2, ?_⟩
        generalize setc H1 ⟨s, 514 + j, none⟩ (.bool true) = H2 at hH2 K2 ⊢
        rw [kont_eq]
        have cR2 : cell H2 ⟨s, 2 + j, none⟩ = some (.int .i64 (gi st1.R j)) := by rw [hH2.S.cell, srL_R hH2.lR hj256]
        have fin : ∀ (H3 : Hp) (st3 : Sst), SrG H3 s bl c X (.slice (some ⟨gb, go, none⟩) g.length gc) vs g Z st3 F → Keep (fun k => k = s ∨ k = bl) H1 H3 → augL (augF g F m) F i l st = (true, ⟨st3.L.set i (j : Int), st3.R.set j (i : Int), st3.Se⟩) →
            cell H3 ⟨s, 1, none⟩ = some (.slice (some ⟨bl, 0, none⟩) g.length c) ∧ ((cell H3 ⟨bl, i, none⟩).isSome = true ∧ frz H3 ⟨bl, i, none⟩ = false) ∧ Keep (fun k => k = s ∨ k = bl) H3 (setc H3 ⟨bl, i, none⟩ (.int .i64 (j : Int))) ∧
            ((cell (setc H3 ⟨bl, i, none⟩ (.int .i64 (j : Int))) ⟨s, 2 + j, none⟩).isSome = true ∧ frz (setc H3 ⟨bl, i, none⟩ (.int .i64 (j : Int))) ⟨s, 2 + j, none⟩ = false) ∧
            Keep (fun k => k = s ∨ k = bl) (setc H3 ⟨bl, i, none⟩ (.int .i64 (j : Int))) (setc (setc H3 ⟨bl, i, none⟩ (.int .i64 (j : Int))) ⟨s, 2 + j, none⟩ (.int .i64 (i : Int))) ∧
            SrG (setc (setc H3 ⟨bl, i, none⟩ (.int .i64 (j : Int))) ⟨s, 2 + j, none⟩ (.int .i64 (i : Int))) s bl c X (.slice (some ⟨gb, go, none⟩) g.length gc) vs g Z (augL (augF g F m) F i l st).2 F ∧
            Keep (fun k => k = s ∨ k = bl) H (setc (setc H3 ⟨bl, i, none⟩ (.int .i64 (j : Int))) ⟨s, 2 + j, none⟩ (.int .i64 (i : Int))) := by
          intro H3 st3 h3 K3 he
          have h4 := h3.setL hi (j : Int)
          have h5 := h4.setR hj256 (i : Int)
          have k4 : Keep (fun k => k = s ∨ k = bl) H3 (setc H3 ⟨bl, i, none⟩ (.int .i64 (j : Int))) := (Keep.refl _ _).setc _ (.inl (.inr rfl))
          have k5 : Keep (fun k => k = s ∨ k = bl) (setc H3 ⟨bl, i, none⟩ (.int .i64 (j : Int))) (setc (setc H3 ⟨bl, i, none⟩ (.int .i64 (j : Int))) ⟨s, 2 + j, none⟩ (.int .i64 (i : Int))) := (Keep.refl _ _).setc _ (.inl (.inl rfl))
          rw [he]
          refine ⟨by rw [h3.S.cell, h3.lL]; rfl, h3.L.okSt (o := i) (by rw [List.length_append, iL_len, h3.lL]; omega), k4, h4.S.okSt (o := 2 + j) (by rw [srL_len h4.lR h4.lF h4.lS]; omega), k5, h5, ((K1.trans K3).trans k4).trans k5⟩
        by_cases hfr : gi st1.R j < 0
        · have haug1 : augL (augF g F m) F i l st = (true, ⟨st1.L.set i (j : Int), st1.R.set j (i : Int), st1.Se.set j true⟩) := by
            rw [← haug]; conv => lhs; unfold augL
            rw [if_neg hsk', if_pos (show st1.R.getD j (-1) < 0 from hfr)]
          obtain ⟨f1, f2', f3, f4, f5, f6, f7⟩ := fin H2 ⟨st1.L, st1.R, st1.Se.set j true⟩ hH2 K2 haug1
          simp only [go_sem, List.map_cons, List.map_nil, ↓reduceIte, Nat.reduceEqDiff, Nat.reduceAdd, Nat.reduceMul, reduceCtorEq, and_true, true_and, Nat.mul_one, Nat.zero_add, Bool.false_eq_true, decide_true, decide_false, not_false_eq_true, kont_eq, cR2, hfr]
          refine ⟨by omega, ?_⟩
          refine vc_drk (fun k => k = s ∨ k = bl) ?_
          simp only [go_sem, List.map_cons, List.map_nil, ↓reduceIte, Nat.reduceEqDiff, Nat.reduceAdd, Nat.reduceMul, reduceCtorEq, and_true, true_and, Nat.mul_one, Nat.zero_add, Bool.false_eq_true, decide_true, decide_false, not_false_eq_true, kont_eq, f1]
          exact ⟨Keep.refl _ _, by omega, f2', f3, by omega, f4, f5, by rw [haug1], f6, f7⟩
        · have hfr' : ¬ st1.R.getD j (-1) < 0 := hfr
          obtain ⟨a, ha, hRa, hLa⟩ : ∃ a < g.length, gi st1.R j = (a : Int) ∧ gi st1.L a = (j : Int) := by
            rw [hL1, hR1] at *
            rcases hI.r j hj256 with h | ⟨a, ha, e1, e2⟩
            · omega
            · exact ⟨a, ha, e1, e2⟩
          have hRn : (st1.R.getD j (-1)).toNat = a := by unfold gi at hRa; rw [hRa]; simp
          have hn0 : ¬ ((a : Int) < 0) := by omega
          have hus : uns (st1.Se.set j true) < m := Nat.lt_of_lt_of_le (uns_set (by rw [hH1.lS]; exact hj256) hse) hu1
          have hI1 : Inv g.length 256 (Eg g) (gi st1.L) (gi st1.R) := by rw [hL1, hR1]; exact hI
          have h01 : gi st1.L a = -1 ∨ ∃ j' : Nat, j' < 256 ∧ gi st1.L a = (j' : Int) ∧ gb' (st1.Se.set j true) j' = true := .inr ⟨j, hj256, hLa, by rw [gb_set, hH1.lS]; simp [hj256]⟩
          have hcall := ih H2 s bl c X _ vs g Z ⟨st1.L, st1.R, st1.Se.set j true⟩ F a hH2 hg hgl hgn hus hI1 ha h01
          obtain ⟨hY, hN⟩ := augF_ok (n := g.length) (F := F) hg m ⟨st1.L, st1.R, st1.Se.set j true⟩ a hus hH2.toLen hI1 ha (by
            rcases h01 with h | ⟨j', h1, h2, h3⟩
            · exact .inl h
            · exact .inr ⟨j', h1, h2, h3⟩)
          have haug2 : augL (augF g F m) F i l st = if (augF g F m ⟨st1.L, st1.R, st1.Se.set j true⟩ a).1 = true then (true, ⟨(augF g F m ⟨st1.L, st1.R, st1.Se.set j true⟩ a).2.L.set i (j : Int), (augF g F m ⟨st1.L, st1.R, st1.Se.set j true⟩ a).2.R.set j (i : Int), (augF g F m ⟨st1.L, st1.R, st1.Se.set j true⟩ a).2.Se⟩) else augL (augF g F m) F i (l.drop (q + 1)) (augF g F m ⟨st1.L, st1.R, st1.Se.set j true⟩ a).2 := by
            rw [← haug]; conv => lhs; unfold augL
            rw [if_neg hsk', if_neg hfr', hRn]
          rw [hRa] at cR2
          simp only [go_sem, List.map_cons, List.map_nil, ↓reduceIte, Nat.reduceEqDiff, Nat.reduceAdd, Nat.reduceMul, reduceCtorEq, and_true, true_and, Nat.mul_one, Nat.zero_add, Bool.false_eq_true, decide_true, decide_false, not_false_eq_true, kont_eq, cR2, hn0]
          refine ⟨by omega, by omega, ?_⟩
          refine hcall.mono ?_
          rintro r H3 ⟨rfl, hH3, K3⟩
          generalize augF g F m ⟨st1.L, st1.R, st1.Se.set j true⟩ a = R at hH3 haug2 hY hN
          obtain ⟨rb, st3⟩ := R
          simp only at hH3 haug2 hY hN
          cases rb with
          | true =>
            rw [if_pos rfl] at haug2
            obtain ⟨f1, f2', f3, f4, f5, f6, f7⟩ := fin H3 st3 hH3 (K2.trans K3) haug2
            simp only [go_sem, List.map_cons, List.map_nil, ↓reduceIte, Nat.reduceEqDiff, Nat.reduceAdd, Nat.reduceMul, reduceCtorEq, and_true, true_and, Nat.mul_one, Nat.zero_add, Bool.false_eq_true, decide_true, decide_false, not_false_eq_true, kont_eq]
            refine vc_drk (fun k => k = s ∨ k = bl) ?_
            simp only [go_sem, List.map_cons, List.map_nil, ↓reduceIte, Nat.reduceEqDiff, Nat.reduceAdd, Nat.reduceMul, reduceCtorEq, and_true, true_and, Nat.mul_one, Nat.zero_add, Bool.false_eq_true, decide_true, decide_false, not_false_eq_true, kont_eq, f1]
            exact ⟨Keep.refl _ _, by omega, f2', f3, by omega, f4, f5, by rw [haug2], f6, f7⟩
          | false =>
            rw [if_neg (by simp)] at haug2
            obtain ⟨hn, _⟩ := hN rfl
            have e1 : st3.L = st1.L := hn.L
            have e2 : st3.R = st1.R := hn.R
            have mono : ∀ j', gb' st1.Se j' = true → gb' st3.Se j' = true := fun j' h => hn.mono j' (by
              simp only
              rw [gb_set]; split
              · rfl
              · exact h)
            obtain ⟨n', a1, q', st', a2, a3, a4, a5⟩ := next st3 H3 hH3 haug2.symm (e1.trans hL1) (e2.trans hR1) (fun j' h => mono j' (hm1 j' h)) (Nat.le_trans (uns_mono (by rw [hH3.lS, hH1.lS]) mono) hu1) (K2.trans K3)
            simp (disch := omega) only [go_sem, List.map_cons, List.map_nil, ↓reduceIte, Nat.reduceEqDiff, Nat.reduceAdd, Nat.reduceMul, reduceCtorEq, and_true, true_and, Nat.mul_one, Nat.zero_add, Bool.false_eq_true, decide_true, decide_false, not_false_eq_true, kont_eq, hf, IntWalk.i64_in]
            exact ⟨n', a1, q', st', a2, a3, by rw [← a4]; simp, a5⟩
    · have : q = l.length := by omega
      subst this
      have haug1 : augL (augF g F m) F i l st = (false, st1) := by
        rw [← haug, List.drop_length]; rfl
      rw [haug1]
      exact ⟨rfl, hH1, K1⟩
theorem AugSpecG.toH {P : Program} {k : FuncId} {m : Nat} (h : AugSpecG P k m) : AugSpec P k m := by
  intro H s bl gv vs g Z st F i hH h1 h2 h3 h4 h5 h6 h7
  refine (h H s bl _ _ gv vs g Z st F i hH.toG h1 h2 h3 h4 h5 h6 h7).mono ?_
  rintro r H' ⟨a, b, c⟩
  exact ⟨a, b.toH, c⟩
theorem maug_ok {P : Program} {ι : Ids} {k : FuncId} (hk : FnIs P k (c_maug ι) r_maug 2) (hself : ι.f 147 = k) : ∀ m, AugSpec P k m := fun m => (maug_okG hk hself m).toH
end Go.Mg

/- Lemmas of ours. No conditions. -/
import Derived.Test.YteeemadonfcliaaGreatDoorMgM10
open Nat renaming reduceEqDiff→Za,reduceAdd→Zb,reduceMul→Zc
set_option linter.all false
set_option maxRecDepth 100000
namespace Go.Mg
open Go Go.RowKit
def qC (ι:aJ):S:=
 kY [kC 2 (kZ),kC 3 (.bool false)] (.seq (kY [kA 8 0,kc 9 (kg (ι.f 144) [.t 8]),kV 10 (.cm .neq .i64 (.t 9) (.c (.int .i64 0)))] (.ite (.v 10) (kY [kC 2 (kZ),kC 3 (.bool false)] .ret) .skip)) (kY [kA 11 0,kc 12 (kg (ι.f 146) [.t 11]),kB 4 12] (kY [kA 13 4,kc 14 (kg (ι.f 148) [.t 13])] (.seq (kY [kA 15 4,kU 16 (.nil (.t 15)),kU 17 (.fa 1 (.t 16)),kD 18 17,kd 19 (kg (ι.f 158) [.t 18,.c (.int .i64 (-1))])] (.ite (.v 19) (kY [kC 2 (kZ),kC 3 (.bool false)] .ret) .skip)) (.seq (kY [kA 20 4,kU 21 (.nil (.t 20)),kU 22 (.fa 0 (.t 21)),kD 23 22,kV 24 (.m (.lenl (.t 23))),kC 25 (.int .i64 0)] (.blk 0 (.loop (kY [kH 26 25 24] (.seq (.ite (.v 26) .skip (.exit 0)) (.seq (.blk 1 (kY [kA 27 25,kB 5 27] (.seq (kY [kA 28 4,kU 29 (.nil (.t 28)),kU 30 (.fa 0 (.t 29)),kD 31 30,kA 32 5,kI 33 1 31 32,kV 34 (.ld (.t 33)),kO 35 34,kC 36 (.int .i64 0)] (.blk 2 (.loop (kY [kH 37 36 35] (.seq (.ite (.v 37) .skip (.exit 2)) (.seq (.blk 3 (kY [kK 38 1 34 36,kD 39 38,kB 7 39] (.seq (kY [kA 40 4,kA 41 7,kU 42 (.nil (.t 40)),kU 43 (.fa 258 (.t 42)),kU 44 (.ia 256 1 (.t 43) (.t 41)),kV 45 (.ld (.t 44))] (.ite (.v 45) (.exit 3) .skip)) (kY [kA 46 7,kA 47 4,kU 48 (.nil (.t 47)),kU 49 (.fa 1 (.t 48)),kD 50 49,kA 51 5,kI 52 1 50 51,kD 53 52,kU 54 (.cm .eql .i64 (.t 46) (.t 53)),kF 55 54,kS 56 55 false 4,kS 57 55 false 5,kS 58 55 false 7,.ge (.t 59) (.t 55) false (kg (ι.f 161) [.t 56,.t 57,.t 58]),kV 60 (.pick (.t 55) (.c (.bool true)) (.t 59))] (.ite (.v 60) (.exit 2) .skip))))) (.reg [ke 61 36,kB 36 61]))))))) (.reg [kA 62 4,kA 63 4,kU 64 (.nil (.t 63)),kU 65 (.fa 1 (.t 64)),kD 66 65,kA 67 5,kI 68 1 66 67,kD 69 68,kU 70 (.nil (.t 62)),kU 71 (.fa 258 (.t 70)),kU 72 (.ia 256 1 (.t 71) (.t 69)),kf (.st (.t 72) (.c (.bool true)))])))) (.reg [ke 73 25,kB 25 73]))))))) (kY [kA 74 4,kU 75 (.nil (.t 74)),kU 76 (.fa 1 (.t 75)),kD 77 76,kB 2 77,kC 3 (.bool true)] .ret))))))
def qD:List RV:=[.t 2,.t 3]
theorem Lj (p:Nat->Bool) {a b:Nat} (hab:a<b) (hb:b<(aD p).length):(aD p).getD a 0<(aD p).getD b 0:=by
 have h:=wx p;rw[List.pairwise_iff_getElem]at h;have:=h a b (by omega) hb hab;rw[List.getD_eq_getElem?_getD,List.getD_eq_getElem?_getD,List.getElem?_eq_getElem hb,List.getElem?_eq_getElem (by omega:a<_)];exact this
theorem xE {n N:Nat} {E:Nat->Nat->Prop} {L0:Nat->Int} {i q:Nat} {l:List Nat} (hi:i<n) (hs:∀a b,a<b->b<l.length->l.getD a 0<l.getD b 0) (hm:∀j,E i j->j∈l)
  (hno:∀p<q,∀L',Pf n N E L'->(∀b<i,L' b=L0 b)->L' i≠(l.getD p 0:Int)):∀L',Pf n N E L'->(∀b<i,L' b=L0 b)->((l.getD q 0:Nat):Int)<=L' i/\q<l.length:=by
 intro L' p' hb;have h0:=p'.all i hi;obtain⟨_,h2⟩:=p'.m.at hi h0;obtain⟨a,ha,e⟩:=List.getElem_of_mem (hm _ h2);have ea:l.getD a 0=(L' i).toNat:=by rw[List.getD_eq_getElem?_getD,List.getElem?_eq_getElem ha];exact e
 have h3:¬a<q:=fun h=>by have:=hno a h L' p' hb;omega
 by_cases e2:a=q
 ·subst e2;exact⟨by omega,ha⟩
 ·have:=hs q a (by omega) ha;exact⟨by omega,by omega⟩
def qE (ps:List (Nat->Bool)) (H:Hp) (r:Value) (H':Hp):Prop:=(((je ps≠0\/∃L,Mx ps.length 256 (Eg (gl ps)) (gi L)/\∃i,i<ps.length/\gi L i=-1)/\r=.tuple #[.slice none 0 0,.bool false])∨
 ∃v L,je ps=0/\Pf ps.length 256 (Eg (gl ps)) (gi L)/\dT ps.length 256 (Eg (gl ps)) (gi L) ps.length/\L.length=ps.length/\r=.tuple #[v,.bool true]/\aG H' v (iL L)/\∀k,aU v k->H.size<=k)/\af (fun _=>False) H H'
def j0 (P:Program) (ι:aJ) (k:FuncId):Prop:=∀(ps:List (Nat->Bool)) (v:Value) (Z:Nat->Prop) (H:Hp),br ι H->Hd H v ps Z->ps.length<=100000→
 an P k #[v] H (qE ps H)
theorem DH {P : Program} {ι : aJ} {k : FuncId} (hk : aq P k (qC ι) qD 1) (hc : ik P (ι.f 144)) (hb : oa P ι (ι.f 146)) (hm : lO P (ι.f 148)) (hcon : ly P (ι.f 158)) (hmv : qA P (ι.f 161)) : j0 P ι k := by
  intro ps v Z H hT hv hn;refine ah hk (args := [_]) (by simp) ?_;unfold qC qD kA kB kF kC kD ke kH kI kK kO kS kU kV kc kd kf kg kY kZ;obtain ⟨R, hR⟩ : ∃ R, R = qE ps H := ⟨_, rfl⟩
  rw [<- hR];simp only [go_sem, zS, ↓reduceIte, Za, Zb, Zc, reduceCtorEq, ae];refine (hc ps v Z H hv hn).mono ?_;rintro r H1 ⟨rfl, K1⟩
  by_cases h0 : je ps = 0
  · obtain ⟨c1, c2, c3⟩ := Ho h0;have e0 : ((0 : Int) != 0) = false := rfl;simp only [go_sem, zS, ↓reduceIte, Za, Zb, Zc, reduceCtorEq, ae, h0, e0];refine (hb ps v Z H1 (hT.ag K1) (hv.aj K1) hn).mono ?_;rintro r H2 ⟨s, bl, gv, vs, Se, rfl, hS, K2, g1, g2⟩;simp only [go_sem, zS, ↓reduceIte, Za, Zb, Zc, reduceCtorEq, ae];refine (hm H2 s bl gv vs (ps.map aD) _ _ hS c2 c3 (by simpa using c1) (by simp) rfl).mono ?_;rintro r H3 ⟨L, R', TR, He, hM, K3⟩;have s1 := K1.size;have s3 := K3.size;have s2 := K2.size;have ny := (K1.trans K2).trans' K3 (fun i hi h => by omega);have c1' : ps.length <= 256 := c1;have hc1 : cell H3 ⟨s, 1, none⟩ = some (.slice (some ⟨bl, 0, none⟩) ps.length ps.length) := by
      have := He.lL;rw [List.length_map] at this;rw [He.S.cell, this]; rfl
    have yK : L.length = ps.length := by have := He.lL; rwa [List.length_map] at this
    have hsl : aG H3 (.slice (some ⟨bl, 0, none⟩) ps.length ps.length) (iL L) := by
      have := aG.bl He.L 0 ps.length ps.length (by omega) (by rw [ak, yK]; omega)
      rwa [List.drop_zero, List.take_of_length_le (by rw [ak, yK]; omega)] at this
    simp only [go_sem, zS, ↓reduceIte, Za, Zb, Zc, reduceCtorEq, ae, hc1];refine (hcon L _ (-1) H3 hsl (by omega)).mono ?_;rintro r Lk ⟨⟨b, rfl, hb1⟩, rfl⟩;have hMx : Mx ps.length 256 (Eg (gl ps)) (gi L) := by simpa [gl] using hM.mx
    cases b with
    | true =>
      simp only [go_sem, zS, ↓reduceIte, Za, Zb, Zc, reduceCtorEq, ae];subst hR;obtain ⟨i, hi, e⟩ := List.getElem_of_mem (hb1.1 rfl);refine ⟨.inl ⟨.inr ⟨L, hMx, i, by omega, ?_⟩, rfl⟩, ny⟩;unfold gi; rw [List.getD_eq_getElem?_getD, List.getElem?_eq_getElem hi, e]; rfl
    | false =>
      have hA : ∀ a < ps.length, 0 <= gi L a := by
        intro a ha;have hin : Inv ps.length 256 (Eg (gl ps)) (gi L) (gi R') := by simpa [gl] using hM.inv
        rcases hin.l a ha with h | ⟨j, _, h, _⟩
        · exfalso
          have : (-1 : Int) ∈ L := by
            have hal : a < L.length := by omega
            unfold gi at h;rw [List.getD_eq_getElem?_getD, List.getElem?_eq_getElem hal] at h;have h : L[a] = -1 := h;rw [<- h]; exact List.getElem_mem _
          have := hb1.2 this
          cases this
        · omega
      have vw := He.toG.narrow;rw [<- show gl ps = ps.map aD from rfl] at vw He;have hgl : (gl ps).length = ps.length := Hq ps;rw [hgl] at vw;have Hw : vs.length = ps.length := by rw [vw.len, hgl]
      obtain ⟨Z', Z0⟩ : ∃ Z' : Nat -> Prop, Z' = fun k => (H1.size <= k /\ k ≠ s /\ k ≠ bl) /\ k < Lk.size := ⟨_, rfl⟩
      rw [<- Z0] at vw;have hZo : ∀ k, Z' k -> k < Lk.size := fun k h => by rw [Z0] at h; exact h.2
      have hZn : ∀ k, Z' k -> H.size <= k := fun k h => by rw [Z0] at h; have := h.1.1; omega
      rw [ae];have vr : cell Lk ⟨s, 0, none⟩ = some gv := by rw [vw.S.cell]; rfl
      simp only [go_sem, zS, ↓reduceIte, Za, Zb, Zc, reduceCtorEq, ae, vr, vw.sl.ax, vw.sl.len, Hw];refine aL [26, 5, 34, 35, 36, 37, 7, 45, 60, 25] rfl (fun n f H' => ∃ (i bl c : Nat) (X : List Value) (st : cN) (F : List Bool), i <= ps.length /\ n = ps.length - i /\ f 25 = .int .i64 i /\ fh H' s bl c X gv vs (gl ps) Z' st F /\ ps.length <= c /\ H.size <= bl ∧
          Inv ps.length 256 (Eg (gl ps)) (gi st.L) (gi st.R) /\ (∀ a < ps.length, 0 <= gi st.L a) /\ dT ps.length 256 (Eg (gl ps)) (gi st.L) i /\ (∀ b < 256, bu F b = true ↔ ∃ a < i, gi st.L a = (b : Int)) /\ af (fun k => H.size <= k) Lk H') ps.length
        ⟨0, bl, _, _, _, _, by omega, by omega, by simp only [go_sem, zS, ↓reduceIte, Za, Zb, Zc, reduceCtorEq, ae]; rfl, vw, by omega, by omega, by simpa [gl] using hM.inv, hA, fun a ha => by omega, fun b hb => ⟨fun h => (by rw [oI 256 b hb] at h; cases h), fun ⟨a, ha, _⟩ => by omega⟩, af.refl _ _⟩ ?_
      rintro n f H4 ⟨i, bl, c, X, st, F, hi, rfl, hf, S4, Eu, GX, hI, hA, hLT, hF, K4⟩;simp only [go_sem, zS, ↓reduceIte, Za, Zb, Zc, reduceCtorEq, ae] at hf;simp only [go_sem, zS, ↓reduceIte, Za, Zb, Zc, reduceCtorEq, hf];refine aC (fun hlt => ?_) (fun gx => ?_)
      · have hlt : i < ps.length := by omega
        have s4 := K4.size;have c0 : cell H4 ⟨s, 0, none⟩ = some gv := by rw [S4.S.cell]; rfl
        obtain ⟨gb, go, gc, rfl, -, hgc⟩ := S4.sl.cells (by intro e; rw [e, List.length_nil] at Hw; omega);have Er := hgc i (by rw [Hw]; exact hlt);have Gj : vs[i]? = some (vs.getD i undef) := by rw [List.getD_eq_getElem?_getD, List.getElem?_eq_getElem (by rw [Hw]; exact hlt)]; rfl
        rw [Gj] at Er;have Vu := S4.at_ i (by rw [hgl]; exact hlt);have hlm : (gl ps).getD i [] = aD (ps.getD i fun _ => false) := gM ps i hlt;have Vv : ∀ j, Eg (gl ps) i j ↔ j ∈ (gl ps).getD i [] := fun j => Iff.rfl;have Hx : ∀ a b, a < b -> b < ((gl ps).getD i []).length -> ((gl ps).getD i []).getD a 0 < ((gl ps).getD i []).getD b 0 := by
          rw [hlm]; exact fun a b => Lj _
        have vu : ((gl ps).getD i []).length <= 4096 := c3 i;have hl256 : ∀ j ∈ (gl ps).getD i [], j < 256 := c2 i;have hzu : ∀ k, aU (vs.getD i undef) k -> Z' k := fun k hk => S4.z2 i k (by rw [hgl]; exact hlt) hk;generalize hu : vs.getD i undef = u at Er Vu hzu;obtain ⟨l, hl⟩ : ∃ l, l = (gl ps).getD i [] := ⟨_, rfl⟩
        rw [<- hl] at Vu Vv Hx vu hl256;have aaO : i < vs.length := by rw [Hw]; exact hlt
        have qU : aP u = l.length := by rw [Vu.len, ak, bh]
        simp only [go_sem, zS, ↓reduceIte, Za, Zb, Zc, reduceCtorEq, c0, Er, ai, Nat.mul_one, Vu.ax, qU];refine ⟨by omega, ?_⟩;refine eQ ?_ ?_ (Q := fun e f' H' => e = .x 2 /\ f' 4 = .pointer (some ⟨s, 0, none⟩) /\ f' 5 = .int .i64 i /\ f' 25 = .int .i64 i /\ ∃ (bl c : Nat) (X : List Value) (fH : cN), fh H' s bl c X (.slice (some ⟨gb, go, none⟩) vs.length gc) vs (gl ps) Z' fH F /\ ps.length <= c /\ H.size <= bl ∧
            Inv ps.length 256 (Eg (gl ps)) (gi fH.L) (gi fH.R) /\ (∀ a < ps.length, 0 <= gi fH.L a) /\ (∀ a < i, gi fH.L a = gi st.L a) /\ (∀ L', Pf ps.length 256 (Eg (gl ps)) L' -> (∀ b < i, L' b = gi st.L b) -> gi fH.L i <= L' i) /\ af (fun k => H.size <= k) Lk H')
        · rintro e f5 H5 ⟨rfl, wF, Rp, Z1, bl, c, X, fH, S5, Eu, GX, Mm, hA', Et, hLe, K5⟩;have YQ := hA' i hlt;obtain ⟨hj1, qS⟩ := Mm.mt.at hlt YQ;obtain ⟨j, hj⟩ : ∃ j : Nat, gi fH.L i = (j : Int) := ⟨(gi fH.L i).toNat, by omega⟩
          have iD : j < 256 := by omega
          have c1 : cell H5 ⟨s, 1, none⟩ = some (.slice (some ⟨bl, 0, none⟩) ps.length c) := by rw [S5.S.cell, S5.lL, hgl]; rfl
          have cL : cell H5 ⟨bl, i, none⟩ = some (.int .i64 (j : Int)) := by
            have hal : i < fH.L.length := by rw [S5.lL, hgl]; exact hlt
            rw [S5.L.cell, List.getElem?_append_left (by rw [ak]; exact hal), bW _ _ hal, <- hj];unfold gi;simp [List.getD_eq_getElem?_getD, hal]
          have okF : (cell H5 ⟨s, 258 + j, none⟩).isSome = true /\ j8 H5 ⟨s, 258 + j, none⟩ = false := S5.S.bk (o := 258 + j) (by rw [cT S5.lR S5.lF S5.lS]; omega);have S6 := S5.TF iD true;have K6 : af (fun k => H.size <= k) H5 (al H5 ⟨s, 258 + j, none⟩ (.bool true)) := (af.refl _ _).al _ (.inl (by show H.size <= s; omega));have hF6 : F.length = 256 := S5.lF;simp (disch := omega) only [go_sem, zS, ↓reduceIte, Za, Zb, Zc, reduceCtorEq, ae, wF, Rp, Z1, c1, cL, ai, Nat.mul_one, okF, IntWalk.i64_in];refine ⟨by omega, by omega, ps.length - (i + 1), by omega, i + 1, bl, c, X, fH, F.set j true, by omega, rfl, by simp, S6, Eu, GX, Mm, hA', fun a ha L' p' hb => ?_, fun b hb => ?_, K5.trans K6⟩
          · by_cases e : a = i
            · subst e;exact hLe L' p' (fun b jz => by rw [hb b jz, Et b jz])
            · rw [Et a (by omega)];exact hLT a (by omega) L' p' (fun b jz => by rw [hb b jz, Et b (by omega)])
          · rw [lZ]
            by_cases e : b = j
            · subst e; rw [if_pos ⟨rfl, by omega⟩]; exact ⟨fun _ => ⟨i, by omega, hj⟩, fun _ => rfl⟩
            · rw [if_neg (fun h => e h.1), hF b hb];refine ⟨fun ⟨a, ha, h⟩ => ⟨a, by omega, by rw [Et a ha]; exact h⟩, fun ⟨a, ha, h⟩ => ?_⟩
              by_cases e2 : a = i
              · subst e2; omega
              · exact ⟨a, by omega, by rw [<- Et a (by omega)]; exact h⟩
        · refine aL [37, 7, 45, 60, 36] rfl (fun n f H' => ∃ (q bl c : Nat) (X : List Value) (Se : List Bool), q <= l.length /\ n = l.length - q /\ f 36 = .int .i64 q /\ fh H' s bl c X (.slice (some ⟨gb, go, none⟩) vs.length gc) vs (gl ps) Z' ⟨st.L, st.R, Se⟩ F /\ ps.length <= c /\ H.size <= bl ∧
              (∀ p < q, ∀ L', Pf ps.length 256 (Eg (gl ps)) L' -> (∀ b < i, L' b = gi st.L b) -> L' i ≠ (l.getD p 0 : Int)) /\ af (fun k => H.size <= k) Lk H') l.length
            ⟨0, bl, c, X, st.Se, by omega, by omega, by simp only [go_sem, zS, ↓reduceIte, Za, Zb, Zc, reduceCtorEq, ae]; rfl, S4, Eu, GX, fun p hp => by omega, K4⟩ ?_
          rintro n f6 H5 ⟨q, bl, c, X, Se5, hq, rfl, MJ, S5, Eu, GX, hno, K5⟩;simp only [go_sem, zS, ↓reduceIte, Za, Zb, Zc, reduceCtorEq, ae] at MJ;simp only [go_sem, zS, ↓reduceIte, Za, Zb, Zc, reduceCtorEq, MJ];refine aC (fun TX => ?_) (fun gx => ?_)
          · have TX : q < l.length := by omega
            have s5 := K5.size;have hA5 : aG H5 u (iL (nI l)) := by
              have := S5.at_ i (by rw [hgl]; exact hlt);rw [hu, <- hl] at this; exact this
            obtain ⟨lb, lo, lc, rfl, -, hlc⟩ := hA5.cells (by intro e; have h := congrArg List.length e; rw [ak, bh, List.length_nil] at h; omega);rw [ak, bh] at hlc;have Cj := hlc q TX;rw [bW _ _ (by rw [bh]; exact TX), yJ _ _ TX] at Cj;have Ro : l.getD q 0 ∈ l := by rw [List.getD_eq_getElem?_getD, List.getElem?_eq_getElem TX]; exact List.getElem_mem _
            have hle := fun (st2 : Nat -> Int) (h : st2 i = (l.getD q 0 : Int)) => fun L' (p' : Pf ps.length 256 (Eg (gl ps)) L') (hb : ∀ b < i, L' b = gi st.L b) => show st2 i <= L' i by
              have := (xE hlt Hx (fun j h => (Vv j).1 h) hno L' p' hb).1;omega
            have next : ∀ (H6 : Hp) (bl c : Nat) (X : List Value) (Se : List Bool), fh H6 s bl c X (.slice (some ⟨gb, go, none⟩) vs.length gc) vs (gl ps) Z' ⟨st.L, st.R, Se⟩ F -> ps.length <= c -> H.size <= bl -> (∀ L', Pf ps.length 256 (Eg (gl ps)) L' -> (∀ b < i, L' b = gi st.L b) -> L' i ≠ (l.getD q 0 : Int)) -> af (fun k => H.size <= k) Lk H6 →
                ∃ n', n' < l.length - q /\ ∃ (q' bl c : Nat) (X : List Value) (Se : List Bool), q' <= l.length /\ n' = l.length - q' /\ (q + 1 : Nat) = q' /\ fh H6 s bl c X (.slice (some ⟨gb, go, none⟩) vs.length gc) vs (gl ps) Z' ⟨st.L, st.R, Se⟩ F /\ ps.length <= c /\ H.size <= bl ∧
                  (∀ p < q', ∀ L', Pf ps.length 256 (Eg (gl ps)) L' -> (∀ b < i, L' b = gi st.L b) -> L' i ≠ (l.getD p 0 : Int)) /\ af (fun k => H.size <= k) Lk H6 :=
              fun H6 bl c X Se a1 a2 a3 a4 a5 => ⟨l.length - (q + 1), by omega, q + 1, bl, c, X, Se, by omega, rfl, rfl, a1, a2, a3, fun p hp L' p' hb => by
                by_cases e : p = q
                · subst e; exact a4 L' p' hb
                · exact hno p (by omega) L' p' hb, a5⟩
            generalize l.getD q 0 = j at *;have hj := hl256 j Ro;have cF : cell H5 ⟨s, 258 + j, none⟩ = some (.bool (bu F j)) := by rw [S5.S.cell, M3 S5.lR S5.lF hj]
            cases Iz : bu F j with
            | true =>
              obtain ⟨a, ha, Et⟩ := (hF j hj).1 Iz;obtain ⟨n', a1, q', Lh, c', X', TR, a2, a3, a4, a5⟩ := next H5 bl c X Se5 S5 Eu GX (fun L' p' hb e => by
                have := p'.m.inj a (by omega) i hlt (by rw [hb a ha, Et, e]) (by rw [hb a ha, Et]; omega);omega) K5
              rw [Iz] at cF;simp (disch := omega) only [go_sem, zS, ↓reduceIte, Za, Zb, Zc, reduceCtorEq, ae, MJ, ak, bh, ai, Nat.mul_one, Cj, cF, IntWalk.i64_in];exact ⟨by omega, by omega, n', a1, q', Lh, c', X', TR, a2, a3, by rw [<- a4]; simp, a5⟩
            | false =>
              rw [Iz] at cF;have c1 : cell H5 ⟨s, 1, none⟩ = some (.slice (some ⟨bl, 0, none⟩) ps.length c) := by rw [S5.S.cell, S5.lL, hgl]; rfl
              have cL : cell H5 ⟨bl, i, none⟩ = some (.int .i64 (gi st.L i)) := by
                have hal : i < st.L.length := by have := S5.lL; rw [hgl] at this; simp only at this; omega
                rw [S5.L.cell, List.getElem?_append_left (by rw [ak]; exact hal), bW _ _ hal];unfold gi;simp [List.getD_eq_getElem?_getD, hal]
              by_cases Z2 : (j : Int) = gi st.L i
              · have e1 : ((j : Int) == gi st.L i) = true := by simpa using Z2
                simp (disch := omega) only [go_sem, zS, ↓reduceIte, Za, Zb, Zc, reduceCtorEq, ae, MJ, ak, bh, ai, Nat.mul_one, Cj, cF, c1, cL, e1];exact ⟨by omega, by omega, by omega, hf, bl, c, X, _, S5, Eu, GX, hI, hA, fun _ _ => rfl, hle _ Z2.symm, K5⟩
              · have e1 : ((j : Int) == gi st.L i) = false := by simpa using Z2
                simp (disch := omega) only [go_sem, zS, ↓reduceIte, Za, Zb, Zc, reduceCtorEq, MJ, ak, bh, ai, Nat.mul_one, Cj, cF, c1, cL, e1];obtain ⟨p, hp⟩ : ∃ p : Nat, gi st.L i = (p : Int) := ⟨(gi st.L i).toNat, by have := hA i hlt; omega⟩
                have hm6 := hmv H5 s bl c X _ vs (gl ps) Z' ⟨st.L, st.R, Se5⟩ F i j p S5 (fun k h => by have := hZo k h; omega) c2 c3 (by rw [hgl]; exact c1') (by rw [hgl]; exact hI) (by rw [hgl]; exact hA) (by rw [hgl]; exact hlt) hj ((Vv j).2 Ro) hp (by omega) hF Iz (by rw [hgl]; exact Eu);refine ⟨by omega, by omega, by omega, ?_⟩;refine hm6.mono ?_;rintro r H6 ⟨b, Lh, c', X', fH, rfl, S6, Z3, jL, hok, K6⟩;rw [hgl] at jL hok;have TY : H.size <= Lh := by
                  have := K5.size;rcases Z3 with h | h <;> omega
                have K56 : af (fun k => H.size <= k) Lk H6 := K5.trans (K6.mono (fun k _ h => by
                  rcases h with h | h
                  · show H.size <= k; omega
                  · show H.size <= k; omega))
                cases b with
                | true =>
                  obtain ⟨o1, o2, o3, o4⟩ := hok.1 rfl;simp only [go_sem, zS, ↓reduceIte, Za, Zb, Zc, reduceCtorEq, ae];exact ⟨hf, Lh, c', X', fH, S6, jL, TY, o1, o2, o4, hle _ o3, K56⟩
                | false =>
                  obtain ⟨o1, o2, o3⟩ := hok.2 rfl;obtain ⟨L6, R6, Se6⟩ := fH;simp only at o1 o2;subst o1 o2;obtain ⟨n', a1, q', Z4, c'', X'', TR, a2, a3, a4, a5⟩ := next H6 Lh c' X' Se6 S6 jL TY o3 K56
                  simp (disch := omega) only [go_sem, zS, ↓reduceIte, Za, Zb, Zc, reduceCtorEq, ae, MJ, IntWalk.i64_in];exact ⟨n', a1, q', Z4, c'', X'', TR, a2, a3, by rw [<- a4]; simp, a5⟩
          · have hql : q = l.length := by omega
            subst hql;have WJ : Pf ps.length 256 (Eg (gl ps)) (gi st.L) := ⟨hI.mt, hA⟩
            have := (xE hlt Hx (fun j h => (Vv j).1 h) hno _ WJ (fun _ _ => rfl)).2;omega
      · have rD : i = ps.length := by omega
        subst rD;have c1 : cell H4 ⟨s, 1, none⟩ = some (.slice (some ⟨bl, 0, none⟩) ps.length c) := by rw [S4.S.cell, S4.lL, hgl]; rfl
        have yK : st.L.length = ps.length := by rw [S4.lL, hgl]
        have hsl : aG H4 (.slice (some ⟨bl, 0, none⟩) ps.length c) (iL st.L) := by
          have := aG.bl S4.L 0 ps.length c Eu (by rw [List.length_append, ak, yK]; omega)
          rwa [List.drop_zero, List.take_append_of_le_length (by rw [ak, yK]; omega), List.take_of_length_le (by rw [ak, yK]; omega)] at this
        simp only [c1, Option.isSome_some, Option.getD_some, true_and];subst hR;exact ⟨.inr ⟨_, st.L, h0, ⟨hI.mt, hA⟩, hLT, yK, rfl, hsl, fun k hk => by have hk : k = bl := hk.1; omega⟩, ny.lW K4 (by omega)⟩
  · have e0 : (je ps != 0) = true := by simpa using h0
    simp only [go_sem, zS, ↓reduceIte, Za, Zb, Zc, reduceCtorEq, ae, e0];subst hR;exact ⟨.inl ⟨.inl h0, rfl⟩, K1⟩
end Go.Mg

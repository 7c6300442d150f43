/- Several texts of ours in one. No conditions. -/
import Derived.Test.YtgbbplbmbapejaaGreatDoorMgY5
import Derived.Test.YtgbbplbmbapejaaGreatDoorMgB4
open Nat renaming reduceEqDiff → Za, reduceAdd → Zb, reduceMul → Zc, reduceLeDiff → Zd, reduceLT → Ze
open Int renaming reduceBEq → Zf, reduceBNe → Zg, reduceLE → Zh, reduceLT → Zi
namespace Go.Mg
open Go Go.RowKit
set_option linter.all false
set_option maxRecDepth 100000
def BdM (ι : Ids) (A N : Nat) (M : Nat -> Prop) (X : Hp) (b : Nat) (l : List UInt8) : Prop := ∃ G, Bld ι G X b l /\ ∀ q, G q -> A <= q /\ q < N /\ ¬ M q
theorem BdM.n {ι : Ids} {A N : Nat} {M : Nat -> Prop} {X : Hp} {b : Nat} {l : List UInt8} (h : BdM ι A N M X b l) : BdN ι A N X b l := by
 obtain ⟨G, h1, h2⟩ := h
 exact ⟨G, h1, fun q hq => ⟨(h2 q hq).1, (h2 q hq).2.1⟩⟩
theorem BdN.m {ι : Ids} {A N : Nat} {X : Hp} {b : Nat} {l : List UInt8} (h : BdN ι A N X b l) : BdM ι A N (fun _ => False) X b l := by
 obtain ⟨G, h1, h2⟩ := h
 exact ⟨G, h1, fun q hq => ⟨(h2 q hq).1, (h2 q hq).2, fun h => h⟩⟩
theorem BdM.keep {ι : Ids} {A N N' : Nat} {M M' : Nat -> Prop} {X X' : Hp} {b : Nat} {l : List UInt8} {W : Nat -> Prop} (h : BdM ι A N M X b l) (hk : Keep W X X') (hw : ∀ q, W q -> N <= q) (hN : N <= N') (hM : ∀ q, M' q -> M q \/ N <= q) : BdM ι A N' M' X' b l := by
 obtain ⟨G, h1, h2⟩ := h
 refine ⟨G, h1.keep hk fun q hq _ hW => by have := (h2 q hq).2.1; have := hw q hW; omega, fun q hq => ?_⟩
 obtain ⟨a1, a2, a3⟩ := h2 q hq
 exact ⟨a1, by omega, fun h => by rcases hM q h with h | h; exact a3 h; omega⟩
theorem BdM.line {P : Program} {ι : Ids} {k : FuncId} (hl : LineSpec P ι k) {A N : Nat} {M : Nat -> Prop} {X : Hp} {b : Nat} {l : List UInt8} {w : List (List UInt8)} {v : Value} (h : BdM ι A N M X b l) (hA : A <= N) (hN : N <= X.size) (hM : ∀ q, M q -> q < X.size) (hv : SlR X v (sL w)) (h2 : 2 <= w.length) (h3 : w.length <= 100) (hw : ∀ x ∈ w, x.length <= 1000) (hll : l.length <= 800000) :
  CallsM P k #[v, .pointer (some ⟨b, 0, none⟩)] X fun r X' => BdM ι A X'.size M X' b (l ++ linF w) /\ Keep (fun q => A <= q /\ q < N /\ ¬ M q) X X' := by
 obtain ⟨G, g1, g2⟩ := h
 refine (hl G b l w v X g1 hv h2 h3 hw hll).mono ?_
 rintro r X' ⟨D, K⟩
 exact ⟨⟨fun q => (G q \/ X.size <= q) /\ q < X'.size, D.mono fun q hq hs => ⟨hq, hs⟩, fun q hq => ⟨by rcases hq.1 with h | h; exact (g2 q h).1; omega, hq.2, by
  rcases hq.1 with h | h
  ·exact (g2 q h).2.2
  ·exact fun hm => by have := hM q hm; omega⟩⟩, K.mono fun q _ h => g2 q h⟩
theorem mems_64 (m : UInt64) : (mems (bt m)).length <= 90 := by
 have h : ∀ u, bt m u = true -> u < 64 := fun u hu => by
  have h1 := Nat.ge_two_pow_of_testBit hu
  have h2 := m.toNat_lt
  exact Classical.byContradiction fun hc => by
   have : 2 ^ 64 <= 2 ^ u := Nat.pow_le_pow_right (by omega) (by omega)
   omega
 unfold mems
 have e : (4096 : Nat) = 64 + 4032 := rfl
 rw [e, List.range_add, List.filter_append, List.length_append]
 have h0 : ((List.range 4032).map (64 + ·)).filter (bt m) = [] := by
  rw [List.filter_eq_nil_iff]
  intro x hx hb
  obtain ⟨y, _, rfl⟩ := List.mem_map.1 hx
  have := h _ hb
  omega
 rw [h0]
 have := List.length_filter_le (bt m) (List.range 64)
 rw [List.length_range] at this
 simp only [List.length_nil]
 omega
theorem moW_sm {F : FlN} (hn : ∀ k, (nmF F k).length <= 100) {x : MoN} (hk : 0 <= x.1 /\ x.1 < 100) (hm : (mems (bt x.2)).length <= 90) : SmW (moW F x) := by
 refine ⟨by simp [moW], by simp [moW]; omega, fun y hy => ?_⟩
 unfold moW at hy
 rcases List.mem_append.1 hy with hy | hy
 ·simp only [List.mem_cons, List.not_mem_nil, or_false] at hy
  rcases hy with rfl | rfl
  ·decide
  ·have := (itoaB_len x.1.toNat).2; omega
 ·obtain ⟨z, _, rfl⟩ := List.mem_map.1 hy
  exact hn _
structure AllC (P : Program) (ι : Ids) : Prop where
 all : BAllSpec P (ι.f 137) (ι.f 136)
 a1 : bodyOk P (ι.f 136) = true
 aY : FnIsY P (ι.f 136) (c_ball1 ι) r_ball1 2
 tz : TzSpec P ι (ι.f 126)
theorem fpM_ok {P : Program} {ι : Ids} {F : FlN} {C0 b2 c0 : Nat} {s b d a m : Value} {ms : List MV} {f : Fr} {A : Hp} {txt : List UInt8} {Qb : Ex -> Fr -> Hp -> Prop} (hl : LineSpec P ι (ι.f 448)) (hbo : bodyOk P (ι.f 448) = true) (hi : ItoaSpec P (ι.f 217)) (c : AllC P ι) (hT : TabOk ι A) (hTl : ι.g 125 < C0) (h : FpI P ι F C0 b2 s b d a m ms f A txt) (hn : ∀ k, (nmF F k).length <= 100) (f161 : mks (f 161) = [])
  (hmo : ∀ x ∈ F.mo, 0 <= x.1 /\ x.1 < 100 /\ ∀ u, bt x.2 u = true -> u < F.st.length) (hst : F.st.length <= 10) (ht : txt.length <= 10301 * c0) (hc : c0 + F.mo.length <= 70)
  (hK : ∀ g X, g 5 = f 5 -> FpI P ι F C0 b2 s b d a m ms g X (txt ++ (F.mo.map (moW F)).flatMap linF) -> BdM ι C0 X.size (fun q => q ∈ mks (g 161)) X C0 (txt ++ (F.mo.map (moW F)).flatMap linF) -> (mks (g 161)).Nodup -> (∀ d ∈ mks (g 161), C0 <= d /\ X[d]? = some (.deferred (some []))) -> Keep (fun q => C0 <= q) A X -> Qb .n g X) : vc P (c_fpM ι) Qb f A := by
 unfold c_fpM
 have c1 : cell A ⟨b2, 4, none⟩ = some m := by rw [h.B2.cell]; rfl
 have hml := h.mr.len
 have lb : lenV m = ms.length := h.hm.len
 have mml : ∀ x ∈ F.mo, (mems (bt x.2)).length <= 90 := fun x _ => mems_64 x.2
 simp -implicitDefEqProofs only [go_sem, zS, ↓reduceIte, Za, Zb, Zc, reduceCtorEq, kont_eq, zU, zV, Zf, Zg, Zh, Zi, Zd, Ze, zF, h.f2, c1, h.hm.isSl, lb]
 refine vc_range ms.length [136, 19, 20, 145, 161, 146, 21, 135] rfl rfl (by omega) (by simp -implicitDefEqProofs only [go_sem, zS, ↓reduceIte, Za, Zb, Zc, reduceCtorEq, kont_eq, zU, zV, Zf, Zg, Zh, Zi, Zd, Ze]) (by simp -implicitDefEqProofs only [go_sem, zS, ↓reduceIte, Za, Zb, Zc, reduceCtorEq, kont_eq, zU, zV, Zf, Zg, Zh, Zi, Zd, Ze]) (fun i g X => g 5 = f 5 /\ FpI P ι F C0 b2 s b d a m ms g X (txt ++ ((F.mo.take i).map (moW F)).flatMap linF) /\ BdM ι C0 X.size (fun q => q ∈ mks (g 161)) X C0 (txt ++ ((F.mo.take i).map (moW F)).flatMap linF) /\ (mks (g 161)).Nodup /\ (∀ d ∈ mks (g 161), C0 <= d /\ X[d]? = some (.deferred (some []))) /\ Keep (fun q => C0 <= q) A X) ?_ ?_ ?_
 ·refine ⟨by simp -implicitDefEqProofs only [go_sem, zS, ↓reduceIte, Za, Zb, Zc, reduceCtorEq, kont_eq, zU, zV, Zf, Zg, Zh, Zi, Zd, Ze], h.next (Keep.refl _ _) (by simp -implicitDefEqProofs only [go_sem, zS, ↓reduceIte, Za, Zb, Zc, reduceCtorEq, kont_eq, zU, zV, Zf, Zg, Zh, Zi, Zd, Ze]) (by simp -implicitDefEqProofs only [go_sem, zS, ↓reduceIte, Za, Zb, Zc, reduceCtorEq, kont_eq, zU, zV, Zf, Zg, Zh, Zi, Zd, Ze]) (by simpa using h.bd), ?_, ?_, ?_, Keep.refl _ _⟩
  ·simp -implicitDefEqProofs only [go_sem, zS, ↓reduceIte, Za, Zb, Zc, reduceCtorEq, kont_eq, zU, zV, Zf, Zg, Zh, Zi, Zd, Ze, f161]
   have := h.bd.m
   simpa using this
  ·simp -implicitDefEqProofs only [go_sem, zS, ↓reduceIte, Za, Zb, Zc, reduceCtorEq, kont_eq, zU, zV, Zf, Zg, Zh, Zi, Zd, Ze, f161]; exact List.nodup_nil
  ·simp [go_sem, zS, ↓reduceIte, Za, Zb, Zc, reduceCtorEq, kont_eq, zU, zV, Zf, Zg, Zh, Zi, Zd, Ze, f161]
 ·rintro i g X hi' gi gn ⟨g5, hI, hM, hnd, hmk, KX⟩
  have f2 := hI.f2
  have f6 := hI.f6
  simp -implicitDefEqProofs only [go_sem, zS, ↓reduceIte, Za, Zb, Zc, reduceCtorEq, kont_eq, zU, zV, Zf, Zg, Zh, Zi, Zd, Ze] at gi gn f2 f6 g5 hM hnd hmk
  obtain ⟨pb, po, pc, hbe, -, hld⟩ := hI.hm.elem encV_len hi'
  have hmi : i < F.mo.length := by omega
  obtain ⟨x, hx⟩ : ∃ x, x = ms[i] := ⟨_, rfl⟩
  obtain ⟨y, hy⟩ : ∃ y, y = F.mo[i] := ⟨_, rfl⟩
  have hxy := hI.mr.at_ i hi' hmi
  rw [<- hx, <- hy] at hxy
  rw [<- hx] at hld
  obtain ⟨hxy1, hxy2⟩ := hxy
  have hld : ldNA X ⟨pb, po + i * 2, none⟩ 2 = some #[.int .i64 x.1, mvV x] := hld
  have hym : y ∈ F.mo := by rw [hy]; exact List.getElem_mem _
  obtain ⟨hy1, hy2, hy3⟩ := hmo y hym
  obtain ⟨wv, hwv⟩ : ∃ wv, wv = mvV x := ⟨_, rfl⟩
  have hwo : ∀ q, slB wv q -> q < C0 := fun q hq => hI.vo x (by rw [hx]; exact List.getElem_mem _) q (by rw [<- hwv]; exact hq)
  rw [<- hwv] at hxy2 hld
  have hwsl : isSl wv := by
   obtain ⟨_, _, e, hV⟩ := hxy2
   cases e
   exact hV.sl.isSl
  cases hbe
  have hib : (0 : Int) <= (i : Int) /\ (i : Int) < (ms.length : Int) := by omega
  simp -implicitDefEqProofs only [go_sem, zS, ↓reduceIte, Za, Zb, Zc, reduceCtorEq, zU, zV, Zf, Zg, Zh, Zi, Zd, Ze, zF, gi, tn_cast, hld, ldNO_ptr, hib]
  refine kont_newst [.int .i64 x.1, wv] (by simp -implicitDefEqProofs only [go_sem, zS, ↓reduceIte, Za, Zb, Zc, reduceCtorEq, kont_eq, zU, zV, Zf, Zg, Zh, Zi, Zd, Ze]) rfl rfl (by simp only [List.all_cons, List.all_nil, all1_sl hwsl]; rfl) fun X1 b19 e1 z1 B19 K1 => ?_
  have c190 : cell X1 ⟨b19, 0, none⟩ = some (.int .i64 x.1) := by rw [B19.cell]; rfl
  have hK1 : x.1 = ((y.1.toNat : Nat) : Int) := by omega
  simp -implicitDefEqProofs only [go_sem, zS, ↓reduceIte, Za, Zb, Zc, reduceCtorEq, zU, zV, Zf, Zg, Zh, Zi, Zd, Ze, zF, c190]
  rw [hK1]
  refine (hi y.1.toNat X1 (by omega)).mono ?_
  rintro r X1' ⟨rfl, rfl⟩
  rw [kont_eq]
  simp -implicitDefEqProofs only [go_sem, zS, ↓reduceIte, Za, Zb, Zc, reduceCtorEq, zU, zV, Zf, Zg, Zh, Zi, Zd, Ze, zF]
  refine kont_news fun X2 bw e2 z2 BW K2 => ?_
  have BW' : Bl X2 bw (sL [wMost, itoaB y.1.toNat]) := BW
  simp -implicitDefEqProofs only [go_sem, zS, ↓reduceIte, Za, Zb, Zc, reduceCtorEq, zU, zV, Zf, Zg, Zh, Zi, Zd, Ze, zF]
  refine kont_newst1 (.slice (some ⟨bw, 0, none⟩) 2 2) (by simp -implicitDefEqProofs only [go_sem, zS, ↓reduceIte, Za, Zb, Zc, reduceCtorEq, kont_eq, zU, zV, Zf, Zg, Zh, Zi, Zd, Ze]) rfl fun X3 b20 e3 z3 B20 K3 => ?_
  have B193 := (K2.trans K3).bl B19 (by simp)
  have l19 : ldNO X3 (.pointer (some ⟨b19, 1, none⟩)) 1 = some #[wv] := by
   have := B193.ldNA (o := 1) (n := 1) (by simp)
   rw [ldNO_ptr]
   simpa using this
  simp -implicitDefEqProofs only [go_sem, zS, ↓reduceIte, Za, Zb, Zc, reduceCtorEq, zU, zV, Zf, Zg, Zh, Zi, Zd, Ze, zF, l19]
  refine (c.all wv X3).mono ?_
  rintro r X4 ⟨rfl, Bs, K4, z4⟩
  rw [kont_eq]
  have s1 := K1.size
  have s2 := K2.size
  have s3 := K3.size
  have s4 := K4.size
  have hlt := hI.lt
  have hb2 := hI.hb2
  have KX4 : Keep (fun _ => False) X X4 := ((K1.trans K2).trans K3).trans K4
  have BW4 := (K3.trans K4).bl BW' (by simp)
  have B204 := K4.bl B20 (by simp)
  have lw := BW4.lt
  have lw2 := BW'.lt
  have l20 := B204.lt
  obtain ⟨wv', Wx, hw', hV⟩ := hxy2
  cases hw'
  have hV4 := hV.keep KX4 (by simp)
  have hTX : ∀ Y, Keep (fun q => C0 <= q) X Y -> TabOk ι Y := fun Y KY => (KX.trans KY).bl hT (by omega)
  simp -implicitDefEqProofs only [go_sem, zS, ↓reduceIte, Za, Zb, Zc, reduceCtorEq, zU, zV, Zf, Zg, Zh, Zi, Zd, Ze, zF]
  refine vc_rf (fun q => q = b20 \/ q = bw) (fun k Y => ∃ uv, Bl Y b20 [uv] /\ OwS Y uv (sL ([wMost, itoaB y.1.toNat] ++ ((mems (bt y.2)).take k).map (nmF F))) /\ ∀ q, ownB uv q -> q = bw \/ X4.size + 2 <= q) (fun _ _ => False) (G := fun Y => TabOk ι Y /\ Bl Y X3.size [wv] /\ SetV Y wv Wx (bt y.2)) (by simp -implicitDefEqProofs only [go_sem, zS, ↓reduceIte, Za, Zb, Zc, reduceCtorEq, kont_eq, zU, zV, Zf, Zg, Zh, Zi, Zd, Ze]; rfl) c.a1 (ball1_ok c.aY c.tz) ?_ ?_ ?_ ?_ ?_ ?_ ?_ ?_
  ·rintro q (rfl | rfl) <;> omega
  ·rintro k Y KY _
   exact ⟨hTX Y (KX4.any.trans (KY.mono fun q _ h => by omega)), KY.bl Bs (by omega), hV4.keep KY fun q hq h => by have := hwo q hq; omega⟩
  ·intro Y KY hs0
   have O0 : OwS X4 (.slice (some ⟨bw, 0, none⟩) 2 2) (sL [wMost, itoaB y.1.toNat]) := OwS.new BW4 (by rw [sL_len']; rfl) rfl
   exact ⟨_, KY.bl B204 (by simp), by simpa using O0.keep KY (by simp), fun q hq => .inl hq⟩
  ·rintro k Y Y2 hs0 KY ⟨uv, j1, j2, j3⟩ KK
   exact ⟨uv, KK.bl j1 (by omega), j2.keep KK fun q hq h => by have := j3 q hq; omega, j3⟩
  ·rintro e' Y Y2 hs0 KY hh KK
   exact hh
  ·rintro k Y hk' KY hs0 ⟨uv, j1, j2, j3⟩
   have hkm : k < (mems (bt y.2)).length := by simpa [memL] using hk'
   obtain ⟨u, hu⟩ : ∃ u, u = (mems (bt y.2))[k] := ⟨_, rfl⟩
   have hxv : (memL (bt y.2)).getD k undef = .int .i64 (u : Int) := by
    rw [List.getD_eq_getElem?_getD, List.getElem?_eq_getElem hk']
    simp [memL, hu]
   have hum : bt y.2 u = true := (mem_mems.1 (show u ∈ mems (bt y.2) by rw [hu]; exact List.getElem_mem _)).2
   have hun := hy3 u hum
   rw [hxv]
   have KXY : Keep (fun q => C0 <= q) X Y := KX4.any.trans (KY.mono fun q _ h => by omega)
   have cs0 : cell Y ⟨b2, 0, none⟩ = some s := by rw [(KXY.bl hI.B2 (by omega)).cell]; rfl
   obtain ⟨sb, so, sc, he, n1, _, _⟩ := encS_name (hI.hs.keep KXY fun q hq h => by have := hI.so q hq; omega) (j := u) hun
   have hsb : sb < C0 := hI.so sb (by rw [he]; exact ⟨rfl, by show F.st.length ≠ 0; omega⟩)
   have hub : (0 : Int) <= (u : Int) /\ (u : Int) < (F.st.length : Int) := by omega
   have hnext : [wMost, itoaB y.1.toNat] ++ ((mems (bt y.2)).take (k + 1)).map (nmF F) = ([wMost, itoaB y.1.toNat] ++ ((mems (bt y.2)).take k).map (nmF F)) ++ [nmF F u] := by
    rw [take_snoc' hkm, <- hu, List.map_append, List.append_assoc]; rfl
   have hwl : ([wMost, itoaB y.1.toNat] ++ ((mems (bt y.2)).take k).map (nmF F)).length <= 2000 := by
    have := mml y hym
    rw [List.length_append, List.length_map, List.length_take]
    simp only [List.length_cons, List.length_nil]
    omega
   have nb : ((b2 = b20 \/ b2 = bw) \/ X4.size + 2 <= b2) = False := eq_false (by omega)
   have nsb : ((sb = b20 \/ sb = bw) \/ X4.size + 2 <= sb) = False := eq_false (by omega)
   have c20 : cell Y ⟨b20, 0, none⟩ = some uv := by rw [j1.cell]; rfl
   rw [sV] at n1
   simp -implicitDefEqProofs only [go_sem, zS, ↓reduceIte, Za, Zb, Zc, reduceCtorEq, zU, zV, Zf, Zg, Zh, Zi, Zd, Ze, zF]
   refine vc_drk (fun b => (b = b20 \/ b = bw) \/ X4.size + 2 <= b) ?_
   have push : ∀ T, Keep (fun _ => False) Y (Y.push (.cells #[.string ⟨(nmF F u).toArray⟩] T)) /\ Bl (Y.push (.cells #[.string ⟨(nmF F u).toArray⟩] T)) Y.size [sV (nmF F u)] := fun T => ⟨(Keep.refl _ _).push _, Bl.new' Y #[.string ⟨(nmF F u).toArray⟩] T⟩
   have fin : ∀ (T : TypeId) (Y1 : Hp) (e : Env) (f' : Fr) (Qx : Fr -> Hp -> Prop), Keep (fun _ => False) Y Y1 -> Bl Y1 Y.size [sV (nmF F u)] -> f' 20 = .pointer (some ⟨b20, 0, none⟩) -> (∀ uv' Y3, Bl Y3 b20 [uv'] -> OwS Y3 uv' (sL ([wMost, itoaB y.1.toNat] ++ ((mems (bt y.2)).take (k + 1)).map (nmF F))) -> (∀ q, ownB uv' q -> q = bw \/ X4.size + 2 <= q) -> Keep (fun b => (b = b20 \/ b = bw) \/ X4.size + 2 <= b) Y Y3 -> Qx f' Y3) →
     AppC false T 1 16 #[.string ⟨#[]⟩] uv (.slice (some ⟨Y.size, 0, none⟩) 1 1) Y1 (kontK P (fun b => (b = b20 \/ b = bw) \/ X4.size + 2 <= b) Y1 (.t 155) (.wcons .no none (.st (.v 20) (.t 155)) .done .wnil) e f' Qx) := fun T Y1 e f' Qx K1 B1 h20 hQx => by
    have hx : SlR Y1 (.slice (some ⟨Y.size, 0, none⟩) 1 1) (sL [nmF F u]) := SlR.bl B1 0 1 1 (by omega) (by simp)
    refine app_sl (j2.keep K1 (by simp)) hx (sL_one [nmF F u]) rfl (by rw [sL_len', sL_len']; unfold maxLen; simp only [List.length_cons, List.length_nil] at hwl ⊢; omega) (by rw [sL_len', sL_len']; simp only [List.length_cons, List.length_nil] at hwl ⊢; omega) fun v' H' h1 h2 h3 => ?_
    rw [<- sL_app, <- hnext] at h1
    have sY1 := K1.size
    have hb20 : ¬ ownB uv b20 := fun hq => by have := j3 b20 hq; omega
    have B2 := h2.bl (K1.bl j1 (by simp)) hb20
    have B3 := B2.setc 0 v'
    have o3 : ∀ q, ownB v' q -> q = bw \/ X4.size + 2 <= q := fun q hq => by
     rcases h3 q hq with hh | hh
     ·exact j3 q hh
     ·omega
    have hsl : isSl v' := h1.sl.isSl
    have K3 : Keep (fun b => (b = b20 \/ b = bw) \/ X4.size + 2 <= b) Y1 H' := h2.mono fun q _ hq => by
     rcases j3 q hq with hh | hh
     ·exact .inl (.inr hh)
     ·exact .inr hh
    have K4 : Keep (fun q => q = b20) H' (setc H' ⟨b20, 0, none⟩ v') := (Keep.refl _ _).setc _ (.inl rfl)
    have K4' : Keep (fun b => (b = b20 \/ b = bw) \/ X4.size + 2 <= b) H' (setc H' ⟨b20, 0, none⟩ v') := K4.mono fun q _ hq => .inl (.inl hq)
    refine ⟨K3, ?_⟩
    have t20 := B2.okSt (o := 0) (by simp)
    have fin2 := hQx v' _ B3 (h1.keep K4 fun q hq e => by have := o3 q hq; omega) o3 ((K1.any.trans K3).trans K4')
    simp only [tvk_w, tvk_wnil, tvk_done, rd_v, rd_t, env_t, fr_t, fr_no, env_no, look_cons, h20, if_true, EX.wp, okSt, stH, kontK_eq, and_true, true_and]
    exact ⟨⟨t20, all1_sl hsl⟩, K4', fin2⟩
   have KP := push (ι.t 67)
   have cP : cell (Y.push (.cells #[.string ⟨(nmF F u).toArray⟩] (ι.t 67))) ⟨b20, 0, none⟩ = some uv := by rw [(KP.1.bl j1 (by simp)).cell]; rfl
   simp -implicitDefEqProofs only [go_sem, zS, ↓reduceIte, Za, Zb, Zc, reduceCtorEq, kont_eq, zU, zV, Zf, Zg, Zh, Zi, Zd, Ze, zF, f2, cs0, he, tn_cast, hub, n1, nb, nsb, c20, cP]
   have hQx : ∀ uv' Y3, Bl Y3 b20 [uv'] -> OwS Y3 uv' (sL ([wMost, itoaB y.1.toNat] ++ ((mems (bt y.2)).take (k + 1)).map (nmF F))) -> (∀ q, ownB uv' q -> q = bw \/ X4.size + 2 <= q) -> Keep (fun b => (b = b20 \/ b = bw) \/ X4.size + 2 <= b) Y Y3 -> (Keep (fun b => (b = b20 \/ b = bw) \/ X4.size + 2 <= b) Y Y3 /\ ∃ uv, Bl Y3 b20 [uv] /\ OwS Y3 uv (sL ([wMost, itoaB y.1.toNat] ++ ((mems (bt y.2)).take (k + 1)).map (nmF F))) /\ ∀ q, ownB uv q -> q = bw \/ X4.size + 2 <= q) := fun uv' Y3 a1 a2 a3 a4 => ⟨a4, uv', a1, a2, a3⟩
   refine ⟨⟨Keep.refl _ _, KP.1.any, fin _ _ _ _ _ KP.1 KP.2 (by simp -implicitDefEqProofs only [go_sem, zS, ↓reduceIte, Za, Zb, Zc, reduceCtorEq, kont_eq, zU, zV, Zf, Zg, Zh, Zi, Zd, Ze]) hQx⟩, KP.1.any, Keep.refl _ _, fin _ _ _ _ _ KP.1 KP.2 (by simp -implicitDefEqProofs only [go_sem, zS, ↓reduceIte, Za, Zb, Zc, reduceCtorEq, kont_eq, zU, zV, Zf, Zg, Zh, Zi, Zd, Ze]) hQx⟩
  ·rintro Y KY hs0 hd ⟨uv, j1, j2, j3⟩
   have hfull : (memL (bt y.2)).length = (mems (bt y.2)).length := by simp [memL]
   rw [hfull, List.take_length] at j2
   have j2 : OwS Y uv (sL (moW F y)) := j2
   have KXY : Keep (fun q => X.size <= q) X Y := KX4.any.trans (KY.mono fun q _ h => by omega)
   have sY := KXY.size
   have hdl : ∀ q, q ∈ mks (g 161) -> q < X.size := fun q hq => (Array.getElem?_eq_some_iff.1 (hmk q hq).2).1
   have hMY : BdM ι C0 X.size (fun q => q = X4.size \/ q ∈ mks (g 161)) Y C0 _ := hM.keep KXY (fun q h => h) (Nat.le_refl _) fun q hq => by
    rcases hq with hq | hq
    ·exact .inr (by omega)
    ·exact .inl hq
   have hsm := moW_sm hn ⟨hy1, hy2⟩ (mml y hym)
   have hlen : (txt ++ ((F.mo.take i).map (moW F)).flatMap linF).length <= 800000 := by
    have := lin_flat (l := (F.mo.take i).map (moW F)) fun w hw => by
     obtain ⟨z, hz, rfl⟩ := List.mem_map.1 hw
     have hzm := List.mem_of_mem_take hz
     exact moW_sm hn ⟨(hmo z hzm).1, (hmo z hzm).2.1⟩ (mml z hzm)
    rw [List.length_append]
    rw [List.length_map, List.length_take] at this
    omega
   have c20 : cell Y ⟨b20, 0, none⟩ = some uv := by rw [j1.cell]; rfl
   simp -implicitDefEqProofs only [go_sem, zS, ↓reduceIte, Za, Zb, Zc, reduceCtorEq, zU, zV, Zf, Zg, Zh, Zi, Zd, Ze, zF, f6, c20]
   refine ⟨hbo, (BdM.line hl hMY (by omega) (by omega) (fun q hq => by rcases hq with hq | hq; omega; have := hdl q hq; omega) j2.sl hsm.1 hsm.2.1 (fun z hz => Nat.le_trans (hsm.2.2 z hz) (by omega)) hlen).mono ?_⟩
   rintro r Z ⟨D, KZ⟩
   have tk : F.mo.take (i + 1) = F.mo.take i ++ [y] := by rw [take_snoc' hmi, hy]
   have D2 : BdM ι C0 Z.size (fun q => q = X4.size \/ q ∈ mks (g 161)) Z C0 (txt ++ ((F.mo.take (i + 1)).map (moW F)).flatMap linF) := by
    rw [tk, List.map_append, List.map_singleton, flat_snoc, <- List.append_assoc]; exact D
   have KXZ : Keep (fun q => C0 <= q) X Z := (KXY.mono fun q _ h => by omega).trans (KZ.mono fun q _ h => h.1)
   rw [kont_eq]
   simp -implicitDefEqProofs only [go_sem, zS, ↓reduceIte, Za, Zb, Zc, reduceCtorEq, kont_eq, zU, zV, Zf, Zg, Zh, Zi, Zd, Ze, zF]
   have dY : ∀ q, q = X4.size \/ q ∈ mks (g 161) -> Y[q]? = some (.deferred (some [])) -> Z[q]? = some (.deferred (some [])) := fun q hq hYq => by
    have := (Array.getElem?_eq_some_iff.1 hYq).1
    rw [KZ.at_ q this fun hh => hh.2.2 hq]; exact hYq
   refine ⟨hI.next KXZ (by simp -implicitDefEqProofs only [go_sem, zS, ↓reduceIte, Za, Zb, Zc, reduceCtorEq, kont_eq, zU, zV, Zf, Zg, Zh, Zi, Zd, Ze]) (by simp -implicitDefEqProofs only [go_sem, zS, ↓reduceIte, Za, Zb, Zc, reduceCtorEq, kont_eq, zU, zV, Zf, Zg, Zh, Zi, Zd, Ze]) D2.n, ?_, List.nodup_cons.2 ⟨fun hh => by have := hdl _ hh; omega, hnd⟩, ⟨⟨by omega, dY _ (.inl rfl) hd⟩, fun q hq => ⟨(hmk q hq).1, dY q (.inr hq) ?_⟩⟩, KX.trans KXZ⟩
   ·obtain ⟨G, G1, G2⟩ := D2
    exact ⟨G, G1, fun q hq => ⟨(G2 q hq).1, (G2 q hq).2.1, fun hh => (G2 q hq).2.2 (List.mem_cons.1 hh)⟩⟩
   ·have := hdl q hq
    rw [KXY.at_ q this (by omega)]; exact (hmk q hq).2
  ·rintro e' Y KY hs0 hd hh
   exact hh.elim
 ·rintro g X gi ⟨g5, hI, hM, hnd, hmk, KX⟩
  rw [hml, List.take_of_length_le (Nat.le_refl _)] at hI hM
  refine hK _ X (by simp -implicitDefEqProofs only [go_sem, zS, ↓reduceIte, Za, Zb, Zc, reduceCtorEq, kont_eq, zU, zV, Zf, Zg, Zh, Zi, Zd, Ze]) (hI.next (Keep.refl _ _) (by simp -implicitDefEqProofs only [go_sem, zS, ↓reduceIte, Za, Zb, Zc, reduceCtorEq, kont_eq, zU, zV, Zf, Zg, Zh, Zi, Zd, Ze]) (by simp -implicitDefEqProofs only [go_sem, zS, ↓reduceIte, Za, Zb, Zc, reduceCtorEq, kont_eq, zU, zV, Zf, Zg, Zh, Zi, Zd, Ze]) hI.bd) (by simp -implicitDefEqProofs only [go_sem, zS, ↓reduceIte, Za, Zb, Zc, reduceCtorEq, kont_eq, zU, zV, Zf, Zg, Zh, Zi, Zd, Ze] at hM; exact hM) (by simp -implicitDefEqProofs only [go_sem, zS, ↓reduceIte, Za, Zb, Zc, reduceCtorEq, kont_eq, zU, zV, Zf, Zg, Zh, Zi, Zd, Ze] at hnd; exact hnd) (by simp -implicitDefEqProofs only [go_sem, zS, ↓reduceIte, Za, Zb, Zc, reduceCtorEq, kont_eq, zU, zV, Zf, Zg, Zh, Zi, Zd, Ze] at hmk; exact hmk) KX
end Go.Mg
namespace Go.Mg
open Go Go.RowKit
set_option linter.all false
set_option maxRecDepth 100000
def prtF (F : FlN) (rl : List (List UInt8)) : List UInt8 := (((((List.range F.st.length).map (stW F rl)).flatMap linF) ++ (F.di.map (prW wDiffer F)).flatMap linF) ++ (F.sa.map (prW wSame F)).flatMap linF) ++ (F.mo.map (moW F)).flatMap linF
structure PrtOk (F : FlN) (rl : List (List UInt8)) : Prop where
 ok : okF F = true
 n0 : 0 < F.st.length
 nm : ∀ k, (nmF F k).length <= 100
 rw_ : ∀ x, (roW rl x).length <= 100
 be : ∀ x ∈ F.be, okP (F.st.length : Int) x
 di : ∀ x ∈ F.di, okP (F.st.length : Int) x
 sa : ∀ x ∈ F.sa, okP (F.st.length : Int) x
 ro : ∀ k, k < F.st.length -> 0 <= (F.st.getD k ([], 0)).2 /\ (F.st.getD k ([], 0)).2 < 100
 mo : ∀ x ∈ F.mo, 0 <= x.1 /\ x.1 < 100 /\ ∀ u, bt x.2 u = true -> u < F.st.length
 st : F.st.length <= 10
 bl : F.be.length <= 20
 dl : F.di.length <= 20
 sl : F.sa.length <= 20
 ml : F.mo.length <= 20
structure FPrC (P : Program) (ι : Ids) : Prop where
 good : FGoodSpec P ι (ι.f 312)
 line : LineSpec P ι (ι.f 448)
 lb : bodyOk P (ι.f 448) = true
 ito : ItoaSpec P (ι.f 217)
 nam : NNameSpec P (ι.f 88)
 all : AllC P ι
 str : BStrSpec P ι (ι.f 224)
def FPrnSpec (P : Program) (ι : Ids) (k : FuncId) : Prop := ∀ (F : FlN) (rl : List (List UInt8)) (v tv : Value) (H : Hp), TabOk ι H -> ProFl H v F -> PrtOk F rl -> rl.length <= 1000 -> ((tv = .pointer none /\ rl = []) \/ ∃ t G, tv = .pointer (some ⟨t, 0, none⟩) /\ TabB G H t rl) →
 CallsM P k #[v, tv] H fun r H' => r = .string ⟨(prtF F rl).toArray⟩ /\ Keep (fun _ => False) H H'
theorem fprn_ok {P : Program} {ι : Ids} {k : FuncId} (hk : FnIsR P k (c_fprn ι) r_fprn 2 161) (c : FPrC P ι) : FPrnSpec P ι k := by
 intro F rl v tv H hT hv hO hrl htv
 obtain ⟨Q, hQ⟩ : ∃ Q : Value -> Hp -> Prop, Q = fun r H' => r = .string ⟨(prtF F rl).toArray⟩ /\ Keep (fun _ => False) H H' := ⟨_, rfl⟩
 rw [<- hQ]
 have hv0 := hv
 obtain ⟨s, b, d, a, m, ms, rfl, h1, h2, h3, h4, h5, h6⟩ := hv
 refine calls_of_vcR hk (args := [_, _]) (by simp) ?_
 unfold c_fprn r_fprn
 simp -implicitDefEqProofs only [go_sem, zS, ↓reduceIte, Za, Zb, Zc, reduceCtorEq, zU, zV, Zf, Zg, Zh, Zi, Zd, Ze, zF]
 refine kont_new fun H1 b2 e1 z1 B1 K1 => ?_
 have B1' : Bl H1 b2 [s, b, d, a, m] := B1
 simp -implicitDefEqProofs only [go_sem, zS, ↓reduceIte, Za, Zb, Zc, reduceCtorEq, zU, zV, Zf, Zg, Zh, Zi, Zd, Ze, zF, B1'.ldNO 5 rfl]
 refine (c.good F _ H1 (hT.keep K1) (hv0.keep0 K1)).mono ?_
 rintro r H2 ⟨rfl, K2⟩
 have K02 := K1.trans K2
 rw [kont_eq]
 simp -implicitDefEqProofs only [go_sem, zS, ↓reduceIte, Za, Zb, Zc, reduceCtorEq, zU, zV, Zf, Zg, Zh, Zi, Zd, Ze, zF, hO.ok, Bool.not_true]
 have hN : (H2.push (.cells #[.pointer none, .slice none 0 0] (ι.t 215)))[H2.size]? = some (.cells #[.pointer none, .slice none 0 0] (ι.t 215) (0, 0)) := by simp
 have K3 : Keep (fun _ => False) H2 (H2.push (.cells #[.pointer none, .slice none 0 0] (ι.t 215))) := (Keep.refl _ _).push _
 have z3 : (H2.push (.cells #[.pointer none, .slice none 0 0] (ι.t 215))).size = H2.size + 1 := by simp
 rw [kont_eq]
 generalize H2.push (.cells #[.pointer none, .slice none 0 0] (ι.t 215)) = H3 at *
 have K03 := K02.trans K3
 have s0 := K02.size
 have s1 := K1.size
 have s2 := K2.size
 have lb2 := B1'.lt
 have B3 := (K2.trans K3).bl B1' (by simp)
 have lt : ∀ {v : Value} {l : List Value}, SlR H v l -> ∀ q, slB v q -> q < H2.size := fun h q hq => by have := h.old hq; omega
 have old : ∀ q, q < H.size -> q < H2.size := fun q hq => by omega
 have bd0 : BdN ι H2.size H3.size H3 H2.size [] := ⟨fun q => q = H2.size, ⟨rfl, _, _, hN, .inl rfl, OwS.nil _, fun q hq => hq.elim⟩, fun q hq => by have hq : q = H2.size := hq; omega⟩
 simp -implicitDefEqProofs only [go_sem, zS, ↓reduceIte, Za, Zb, Zc, reduceCtorEq, zU, zV, Zf, Zg, Zh, Zi, Zd, Ze, zF]
 have I0 : ∀ f : Fr, f 2 = .pointer (some ⟨b2, 0, none⟩) -> f 6 = .func (.func (ι.f 448)) #[] #[.pointer (some ⟨H2.size, 0, none⟩)] -> FpI P ι F H2.size b2 s b d a m ms f H3 [] := fun f f2 f6 =>
  ⟨f2, f6, B3, by omega, h1.keep0 K03, h2.keep0 K03, h3.keep0 K03, h4.keep0 K03, h5.keep0 K03, h6.keep0 K03, fun q hq => old q (h1.old hq), fun q hq => old q (h2.old hq), fun q hq => old q (h3.old hq), fun q hq => old q (h4.old hq), fun q hq => old q (h5.old hq), fun x hx q hq => by
   obtain ⟨i, hi, rfl⟩ := List.getElem_of_mem hx
   exact old q ((h6.at_ i hi (by rw [<- h6.len]; exact hi)).2.old (k := q) hq), bd0, by omega⟩
 have hnm : ∀ X x, Keep (fun q => H2.size <= q) H3 X -> CallsM P (ι.f 88) #[tv, .int .i64 x] X fun r X' => r = nameR rl x /\ X' = X := fun X x KX => by
  rcases htv with ⟨rfl, rfl⟩ | ⟨t, G, rfl, hG⟩
  ·refine (c.nam.2 x X).mono ?_
   rintro r X' ⟨rfl, rfl⟩
   refine ⟨?_, rfl⟩
   unfold nameR
   rw [if_neg (by simp; omega)]
  ·have hGl : ∀ q, G q -> q < H.size := by
    obtain ⟨_, _, _, _, _, _, _, _, h7⟩ := hG
    exact h7
   exact c.nam.1 G t rl x X ((hG.keep K03 (by simp)).keep KX fun q hq hc => by have := hGl q hq; omega) (by omega)
 have hTl : ι.g 125 < H2.size := by
  obtain ⟨T, hT'⟩ := hT
  have := (Array.getElem?_eq_some_iff.1 hT').1
  omega
 have e1 := lin_flat (l := (List.range F.st.length).map (stW F rl)) fun w hw => by
  obtain ⟨y, _, rfl⟩ := List.mem_map.1 hw
  exact stW_sm hO.nm hO.rw_ (by have := hO.bl; omega) y
 have e2 := lin_flat (l := F.di.map (prW wDiffer F)) fun w hw => by
  obtain ⟨y, _, rfl⟩ := List.mem_map.1 hw
  exact prW_sm (by decide) hO.nm y
 have e3 := lin_flat (l := F.sa.map (prW wSame F)) fun w hw => by
  obtain ⟨y, _, rfl⟩ := List.mem_map.1 hw
  exact prW_sm (by decide) hO.nm y
 have e4 := lin_flat (l := F.mo.map (moW F)) fun w hw => by
  obtain ⟨y, hy, rfl⟩ := List.mem_map.1 hw
  exact moW_sm hO.nm ⟨(hO.mo y hy).1, (hO.mo y hy).2.1⟩ (mems_64 y.2)
 rw [List.length_map, List.length_range] at e1
 rw [List.length_map] at e2 e3 e4
 have q1 := hO.st
 have q2 := hO.dl
 have q3 := hO.sl
 have q4 := hO.ml
 have q5 := hO.n0
 refine fpS_ok c.line c.lb c.ito (rl := rl) (tv := tv) (I0 _ (by simp -implicitDefEqProofs only [go_sem, zS, ↓reduceIte, Za, Zb, Zc, reduceCtorEq, kont_eq, zU, zV, Zf, Zg, Zh, Zi, Zd, Ze]) (by simp -implicitDefEqProofs only [go_sem, zS, ↓reduceIte, Za, Zb, Zc, reduceCtorEq, kont_eq, zU, zV, Zf, Zg, Zh, Zi, Zd, Ze])) hO.nm hO.rw_ (by simp -implicitDefEqProofs only [go_sem, zS, ↓reduceIte, Za, Zb, Zc, reduceCtorEq, kont_eq, zU, zV, Zf, Zg, Zh, Zi, Zd, Ze]) hnm hO.be hO.ro hO.st (by have := hO.bl; omega) fun g X hf I1 KX => ?_
 have g5 : g 5 = .pointer (some ⟨H2.size, 0, none⟩) := by rw [hf 5 (by decide)]; simp -implicitDefEqProofs only [go_sem, zS, ↓reduceIte, Za, Zb, Zc, reduceCtorEq, kont_eq, zU, zV, Zf, Zg, Zh, Zi, Zd, Ze]
 have g161 : mks (g 161) = [] := by rw [hf 161 (by decide)]; simp -implicitDefEqProofs only [go_sem, zS, ↓reduceIte, Za, Zb, Zc, reduceCtorEq, kont_eq, zU, zV, Zf, Zg, Zh, Zi, Zd, Ze, mks_undef]
 simp -implicitDefEqProofs only [go_sem, zS, ↓reduceIte, Za, Zb, Zc, reduceCtorEq, zU, zV, Zf, Zg, Zh, Zi, Zd, Ze, zF]
 refine fpD_ok (c0 := F.st.length) c.line c.lb I1 hO.nm hO.di (by omega) (by omega) fun g' X' hf' I2 KX' => ?_
 simp -implicitDefEqProofs only [go_sem, zS, ↓reduceIte, Za, Zb, Zc, reduceCtorEq, zU, zV, Zf, Zg, Zh, Zi, Zd, Ze, zF]
 refine fpE_ok (c0 := F.st.length + F.di.length) c.line c.lb I2 hO.nm hO.sa (by rw [List.length_append]; omega) (by omega) fun g2 X2 hf2 I3 KX2 => ?_
 have KA := (KX.trans KX').trans KX2
 have k5 : g2 5 = .pointer (some ⟨H2.size, 0, none⟩) := by rw [hf2 5 (by decide), hf' 5 (by decide), g5]
 have k161 : mks (g2 161) = [] := by rw [hf2 161 (by decide), hf' 161 (by decide), g161]
 simp -implicitDefEqProofs only [go_sem, zS, ↓reduceIte, Za, Zb, Zc, reduceCtorEq, zU, zV, Zf, Zg, Zh, Zi, Zd, Ze, zF]
 refine fpM_ok (c0 := F.st.length + F.di.length + F.sa.length) c.line c.lb c.ito c.all (KA.bl (K03.bl hT (by simp)) (by omega)) hTl I3 hO.nm k161 hO.mo hO.st (by rw [List.length_append, List.length_append]; omega) (by omega) fun g3 X3 n5 I4 hM hnd hmk KX3 => ?_
 have KB := KA.trans KX3
 obtain ⟨G, D, hG⟩ := hM
 have hpl : (prtF F rl).length < 1000000 := by unfold prtF; rw [List.length_append, List.length_append, List.length_append]; omega
 have hne : prtF F rl ≠ [] := by
  intro e
  have e0 : ((List.range F.st.length).map (stW F rl)).flatMap linF = [] := by
   unfold prtF at e
   simp only [List.append_eq_nil_iff] at e
   exact e.1.1.1
  rw [List.flatMap_eq_nil_iff] at e0
  have := e0 (stW F rl 0) (List.mem_map.2 ⟨0, List.mem_range.2 q5, rfl⟩)
  unfold linF at this
  simp at this
 simp -implicitDefEqProofs only [go_sem, zS, ↓reduceIte, Za, Zb, Zc, reduceCtorEq, zU, zV, Zf, Zg, Zh, Zi, Zd, Ze, zF, n5, k5]
 refine (c.str G H2.size _ X3 D hne hpl).mono ?_
 rintro r X4 ⟨rfl, K4⟩
 rw [kont_eq]
 have K04 : Keep (fun _ => False) H X4 := (K03.trans' KB fun q hq h => by omega).trans' K4 fun q hq h => by have := (hG q h).1; omega
 have dd : ∀ q, q ∈ mks (g3 161) -> X4[q]? = some (.deferred (some [])) := fun q hq => by
  have h1 := (hmk q hq).2
  have := (Array.getElem?_eq_some_iff.1 h1).1
  rw [K4.at_ q this fun hh => (hG q hh).2.2 hq]; exact h1
 simp -implicitDefEqProofs only [go_sem, zS, ↓reduceIte, Za, Zb, Zc, reduceCtorEq, kont_eq, zU, zV, Zf, Zg, Zh, Zi, Zd, Ze, zF]
 refine ⟨hnd, dd, fun A2 hs2 hk2 => ?_⟩
 have M : Keep (fun q => q ∈ mks (g3 161)) X4 A2 := ⟨by omega, fun q _ h => hk2 q h⟩
 rw [hQ]
 exact ⟨rfl, K04.trans' M fun q hq h => by have := (hmk q h).1; omega⟩
end Go.Mg

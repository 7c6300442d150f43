/- Several texts of ours in one. No conditions. -/
import Derived.Test.YtgbbplbmbapejaaGreatDoorMgEl
import Derived.ProofKit
import Derived.LaidMore
import Derived.OpenShut
import Derived.Stop.Joined
set_option linter.all false
namespace Go.Mg
open Go Go.ChangeShapes Go.WideShapes Go.RowKit
section
variable {H : Type} {enc : TypeId × Value -> H} {P : Program}
theorem trodAll_stays {W W' : World} (hl : laidOutB P = true) (hb : Below W.heap.size W W') {sp : Nat -> Bool} :
  ∀ {ts : List TypeId} {vs : List Value} {ds : List (DataW H)} {ps : List MemPlace}, ts.all (fun t => P.readableRec t && decide (t < P.types.size)) = true →
   DataW.TrodAll enc P W 0 (fun _ => true) true ts vs ds ps -> (∀ p ∈ ps, p.block < W.heap.size) -> (∀ p ∈ ps, sp p.block = true) -> DataW.TrodAll enc P W' 0 sp true ts vs ds ps
 | [], _, _, _, _, h, _, _ => by
  obtain ⟨rfl, rfl, rfl⟩ := trodAll_nil h
  exact trodAll_mk0
 | t :: ts, _, _, _, hp, h, hlt, hsp => by
  obtain ⟨v, vs1, d, ds1, a, b, rfl, rfl, rfl, h1, h2⟩ := trodAll_cons h
  simp only [List.all_cons, Bool.and_eq_true, decide_eq_true_eq] at hp
  have i1 := WideElems.Trod_stays (sp' := sp) hl hp.1.1 hp.1.2 h1 (fun x hx => hb.same (hlt x (by simp [hx]))) (fun x hx => hsp x (by simp [hx]))
  have i2 := trodAll_stays hl hb (sp := sp) (by simpa using hp.2) h2 (fun p hp => hlt p (by simp [hp])) (fun p hp => hsp p (by simp [hp]))
  exact ⟨a, b, i1, i2, rfl⟩
theorem law_post {f : Func} {s : ChangeSpec} {apart fresh handsOn again : Bool} {W W' : World} {args : Array Value} {ds gs : List (DataW H)} {before : List MemPlace} {t : TypeId}
  (hW : DataW.Whole enc P f.params.toList s.vars apart W args.toList ds gs before) (hv : s.vars = []) (hfn : (s.fn H (ds ++ gs)) = { results := [.lit (.bool true)], args := ds })
  (hb : Below W.heap.size W W') (hr : f.resultTypes = #[t]) (ht : P.underlying t = some .bool) (hl : laidOutB P = true) (hp : f.params.toList.all (fun t => P.readableRec t && decide (t < P.types.size)) = true) :
  s.post enc P f apart fresh handsOn again W args (.bool true) W' := by
 have hlt := hW.lt
 have hW' := hW
 obtain ⟨p, q, hA, hV, rfl, hz, hn⟩ := hW'
 have hV' := hV
 rw [hv] at hV'
 obtain ⟨rfl, rfl⟩ := trodVars_none hV'
 simp only [List.append_nil] at hlt hz hn
 have hres : ∀ (b : Nat) (sp : Nat -> Bool) (hd : Bool), DataW.TrodAll enc P W' b sp hd f.resultTypes.toList ((Value.bool true).resultList f.resultTypes.size) (s.fn H (ds ++ [])).results [] := fun b sp hd => by
  rw [hfn, hr]
  exact trodAll_mk1 (shut_bool ht true)
 have hargs : ∀ sp : Nat -> Bool, (∀ x ∈ p, sp x.block = true) -> DataW.TrodAll enc P W' 0 sp true f.params.toList args.toList (s.fn H (ds ++ [])).args p := fun sp hsp => by
  rw [hfn]
  exact trodAll_stays hl hb hp hA hlt hsp
 have hvars : ∀ sp : Nat -> Bool, DataW.TrodVars enc P W' sp s.vars (s.fn H (ds ++ [])).vars [] := fun sp => by
  rw [hfn, hv]; rfl
 refine ⟨ds, [], _, [], p, [], hW, hres _ _ _, hargs _ (fun x hx => by simpa using hlt x hx), hvars _, hb.frame _, fun _ => ?_⟩
 refine ⟨ok_one hr rfl (okWide_bool_mk ht true), _, _, ([] ++ p) ++ [], ⟨[] ++ p, [], trodAll_append (hargs _ (fun _ _ => rfl)) (hres _ _ _), hvars _, rfl, ?_, ?_⟩, ?_⟩
 ·intro b off hx
  rw [hb.frozen (p := ⟨b, off, none⟩) (hlt (.cell b off) (by simpa using hx))]
  exact hz b off (by simpa using hx)
 ·intro ha
  simpa using hn ha
 ·intro x hx _
  simpa using hx
theorem below_of_keep {W W' : World} (hk : Keep (fun _ => False) W.heap W'.heap) (hs : Same W W') : Below W.heap.size W W' :=
 ⟨hs.os, hs.tape, hs.output, hk.size, fun k hlt => hk.at_ k hlt (fun h => h)⟩
theorem calls_post {f : FuncId} {fn : Func} {s : ChangeSpec} {apart fresh handsOn again : Bool} {W : World} {args : Array Value} {ds gs : List (DataW H)} {before : List MemPlace} {t : TypeId}
  (hW : DataW.Whole enc P fn.params.toList s.vars apart W args.toList ds gs before) (hv : s.vars = []) (hfn : (s.fn H (ds ++ gs)) = { results := [.lit (.bool true)], args := ds })
  (hr : fn.resultTypes = #[t]) (ht : P.underlying t = some .bool) (hl : laidOutB P = true) (hp : fn.params.toList.all (fun t => P.readableRec t && decide (t < P.types.size)) = true)
  (h : CallsM P f args W.heap fun v H' => v = .bool true /\ Keep (fun _ => False) W.heap H') :
  Calls P f args W fun e W' => ∃ v, e = .returned v /\ s.post enc P fn apart fresh handsOn again W args v W' := by
 refine (h W rfl).mono ?_
 rintro e W' ⟨v, rfl, ⟨rfl, hk⟩, hs⟩
 exact ⟨_, rfl, law_post hW hv hfn (below_of_keep hk hs) hr ht hl hp⟩
end
end Go.Mg
namespace Go.Mg
open Go Go.ChangeShapes Go.WideShapes Go.RowKit
section
variable {H : Type} {enc : TypeId × Value -> H} {P : Program}
theorem ints_of_trod {w : World} {base : Nat} {sp : Nat -> Bool} {held : Bool} {fuel n : Nat} {t e : TypeId} {k : IntKind} {cs : List Value} {ns : List Int} {p : List MemPlace}
  (ht : P.underlying t = some (.array n e)) (he : P.underlying e = some (.int k)) (h1 : P.cellsOf e = 1) (hn : P.cellsOf t = n) (hns : ns.length = n)
  (h : DataW.trod enc P w base sp held fuel t cs = some (.agg (ns.map fun x => .lit (.int k x)), p)) : cs = ns.map (Value.int k) := by
 obtain ⟨xs, m, -, hx, hl, hxl, hel⟩ := DataW.trod_array ht h
 simp only [Prod.mk.injEq, DataW.agg.injEq] at hx
 obtain ⟨hx, -⟩ := hx
 apply List.ext_getElem
 ·simp [hns, hl, hn]
 ·intro i hi hi2
  have hin : i < n := by omega
  have := hel i hin
  rw [h1, Nat.mul_one] at this
  have hxi : i < xs.length := by omega
  rw [List.getElem?_eq_getElem hxi] at this
  obtain ⟨y, hc, hy, -⟩ := DataW.trod_int he this
  have e1 : (cs.drop i).take 1 = [cs[i]] := by
   rw [List.drop_eq_getElem_cons hi]; rfl
  rw [e1] at hc
  simp only [List.cons.injEq, and_true] at hc
  rw [hc, List.getElem_map]
  have hni : i < ns.length := by omega
  have hg : (ns.map fun x => (DataW.lit (.int k x) : DataW H))[i]? = (xs.map (·.1))[i]? := by rw [hx]
  rw [List.getElem?_map, List.getElem?_map, List.getElem?_eq_getElem hni, List.getElem?_eq_getElem hxi, hy] at hg
  simp at hg
  rw [hg]
theorem bl_of_var {w : World} {name : String} {g : Nat} {n : Nat} {t e : TypeId} {k : IntKind} {cs : Array Value} {ns : List Int} {p : List MemPlace} {fuel : Nat} {d : DataW Unit}
  (hg : P.globalNamed name = some g) (hv : w.var? P name = some cs) (hd : DataW.trod (fun _ => ()) P w 0 (fun _ => true) false fuel t cs.toList = some (d, p)) (hdd : d = .agg (ns.map fun x => .lit (.int k x)))
  (ht : P.underlying t = some (.array n e)) (he : P.underlying e = some (.int k)) (h1 : P.cellsOf e = 1) (hn : P.cellsOf t = n) (hns : ns.length = n) (h0 : 0 < n) {ps : List MemPlace}
  (hrow : ∀ x ∈ MemPlace.row ⟨g, 0, none⟩ cs.size, x ∈ ps) (hz : ∀ b off, MemPlace.cell b off ∈ ps -> ∃ c t, w.heap[b]? = some (.cells c t (0, 0))) : Bl w.heap g (ns.map (Value.int k)) := by
 subst hdd
 have hcs := ints_of_trod ht he h1 hn hns hd
 have hsz : 0 < cs.size := by
  have := congrArg List.length hcs
  simp at this; omega
 obtain ⟨c, T, hc⟩ := hz g 0 (hrow _ (MemPlace.mem_row.2 ⟨0, hsz, rfl⟩))
 refine ⟨T, ?_⟩
 rw [hc]
 have : w.var? P name = some c := by simp [World.var?, hg, hc]
 rw [hv] at this
 cases this
 rw [<- hcs]
end
end Go.Mg
namespace Go.Mg
open Go Go.ChangeShapes Go.WideShapes Go.RowKit
section
variable {H : Type} {enc : TypeId × Value -> H} {P : Program}
theorem cellAt {w : World} {a : Addr} {u : Value} (h : w.cell? a = some u) : a.spot = none /\ ∃ c e fr, w.heap[a.block]? = some (.cells c e fr) /\ c[a.off]? = some u := by
 unfold World.cell? at h
 split at h
 ·rename_i hb hs
  split at h
  ·cases h
  ·rename_i hn
   exact ⟨by simpa using hn, _, _, _, hs, h⟩
 ·simp at h
theorem ints_of_cells {W : World} {base : Nat} {sp : Nat -> Bool} {held : Bool} {t e : TypeId} {k : IntKind} {cs : List Value} {x : DataW H × List MemPlace} {fuel : Nat}
  (ht : P.underlying t = some (.slice e)) (he : P.underlying e = some (.int k)) (hc : P.cellsOf e = 1) (hf : DataW.trod enc P W base sp held fuel t cs = some x) :
  ∃ v, cs = [v] /\ ∃ zs : List Int, (∀ n ∈ zs, (Lit.int k n).wf = true) /\ SlR W.heap v (zs.map (Value.int k)) := by
 rcases open_ints ht he hc hf with ⟨hcs, -⟩ | ⟨a, len, cap, zs, rfl, -, hl, -, hz, -, hcell, hwf⟩
 ·subst hcs
  exact ⟨_, rfl, [], by simp, .inl ⟨_, _, rfl, rfl⟩⟩
 ·refine ⟨_, rfl, ?_⟩
  have hle : len <= zs.length := by rw [hz]; split <;> omega
  refine ⟨zs.take len, fun n hn => hwf n (List.mem_of_mem_take hn), ?_⟩
  by_cases h0 : len = 0
  ·subst h0; exact .inl ⟨_, _, rfl, by simp⟩
  ·obtain ⟨hs, c, T, fr, hb, -⟩ := cellAt (hcell 0 (by omega))
   obtain ⟨ab, ao, as⟩ := a
   have hs' : as = none := by unfold Addr.add at hs; split at hs <;> simp_all
   subst hs'
   have hb' : W.heap[ab]? = some (.cells c T fr) := hb
   have hall : ∀ i, i < len -> c[ao + i]? = some (.int k (zs.getD i 0)) := by
    intro i hi
    have hc := hcell i (by omega)
    rw [add_off _ rfl] at hc
    obtain ⟨-, c', T', fr', hb2, hg⟩ := cellAt hc
    have hb2 : W.heap[ab]? = some (.cells c' T' fr') := hb2
    rw [hb'] at hb2
    cases hb2
    exact hg
   have hsz : ao + len <= c.size := by
    have := hall (len - 1) (by omega)
    have := (Array.getElem?_eq_some_iff.1 this).1
    omega
   have hL : ((zs.take len).map (Value.int k)).length = len := by simp; omega
   have := SlR.at_ (H := W.heap) (b := ab) (o := ao) (c := cap) (l := (zs.take len).map (Value.int k)) (by omega) hb' (by omega) (by
    rw [hL]
    apply List.ext_getElem?
    intro i
    rw [List.getElem?_take, List.getElem?_drop, List.getElem?_map, List.getElem?_take]
    split
    ·rename_i hi
     rw [Array.getElem?_toList, hall i hi]
     have : i < zs.length := by omega
     simp [List.getD_eq_getElem?_getD, this]
    ·rfl)
   rwa [hL] at this
theorem bytes_of_ints {H : Hp} {v : Value} {zs : List Int} (hw : ∀ n ∈ zs, (Lit.int .u8 n).wf = true) (hs : SlR H v (zs.map (Value.int .u8))) : ∃ l : List UInt8, SlR H v (w8 l) := by
 refine ⟨zs.map fun n => UInt8.ofNat n.toNat, ?_⟩
 have : w8 (zs.map fun n => UInt8.ofNat n.toNat) = zs.map (Value.int .u8) := by
  unfold w8
  rw [List.map_map]
  apply List.map_congr_left
  intro n hn
  have h := hw n hn
  simp only [Lit.wf, Bool.and_eq_true, decide_eq_true_eq] at h
  obtain ⟨h1, h2⟩ := h
  have h1 : (0 : Int) <= n := h1
  have h2 : n <= 255 := h2
  simp only [Function.comp_apply, Value.int.injEq, true_and, UInt8.toNat_ofNat']
  omega
 rw [this]; exact hs
theorem bytes_of_cells {W : World} {base : Nat} {sp : Nat -> Bool} {held : Bool} {t e : TypeId} {cs : List Value} {x : DataW H × List MemPlace} {fuel : Nat}
  (ht : P.underlying t = some (.slice e)) (he : P.underlying e = some (.int .u8)) (hc : P.cellsOf e = 1) (hf : DataW.trod enc P W base sp held fuel t cs = some x) :
  ∃ v, cs = [v] /\ ∃ l : List UInt8, SlR W.heap v (w8 l) := by
 obtain ⟨v, h1, zs, hw, hs⟩ := ints_of_cells ht he hc hf
 exact ⟨v, h1, bytes_of_ints hw hs⟩
theorem u8_arg {W : World} {r : Reach} {b0 base : Nat} {sp : Nat -> Bool} {held : Bool} {t : TypeId} {v : Value} {d : DataW H} {ps : List MemPlace} (ht : P.underlying t = some (.int .u8)) (h : Value.okWide P W r b0 t v) (hd : DataW.Trod enc P W base sp held t v d ps) : ∃ x : UInt8, v = .int .u8 x.toNat := by
 obtain ⟨n, rfl⟩ := okWide_int ht h
 obtain ⟨fuel, hf⟩ := hd
 obtain ⟨m, h1, -, hw⟩ := DataW.trod_int ht hf
 simp [Value.cells] at h1
 subst h1
 simp only [Lit.wf, Bool.and_eq_true, decide_eq_true_eq] at hw
 have h1 : (0 : Int) <= n := hw.1
 have h2 : n <= 255 := hw.2
 refine ⟨UInt8.ofNat n.toNat, ?_⟩
 simp only [Value.int.injEq, true_and, UInt8.toNat_ofNat']
 omega
end
end Go.Mg
namespace Go.Mg
open Go Go.ChangeShapes Go.WideShapes Go.RowKit
def WdR (m : Nat) (H : Hp) (v : Value) (ws : List (List UInt8)) : Prop :=
 ∃ a c, v = .slice a ws.length c /\ ws.length <= c /\ ∀ i, i < ws.length -> (ws.getD i []).length = m /\ ∃ b o, a = some ⟨b, o, none⟩ /\ b < H.size /\ Mg.ldNA H ⟨b, o + i * m, none⟩ m = some (w8 (ws.getD i [])).toArray
theorem WdR.keep0 {m : Nat} {H H' : Hp} {v : Value} {ws : List (List UInt8)} (h : WdR m H v ws) (hk : Keep (fun _ => False) H H') : WdR m H' v ws := by
 obtain ⟨a, c, h1, h2, h3⟩ := h
 refine ⟨a, c, h1, h2, fun i hi => ?_⟩
 obtain ⟨h4, b, o, h5, h6, h7⟩ := h3 i hi
 exact ⟨h4, b, o, h5, Nat.lt_of_lt_of_le h6 hk.size, by rw [hk.ldNA (p := ⟨b, o + i * m, none⟩) h6 (by simp)]; exact h7⟩
section
variable {H : Type} {enc : TypeId × Value -> H} {P : Program}
end
end Go.Mg
namespace Go.Mg
open Go Go.ChangeShapes Go.WideShapes Go.RowKit
def kE (k : IntKind) (p : Int × Int) : List Value := [.int k p.1, .int k p.2]
theorem kE_len (k : IntKind) (p : Int × Int) : (kE k p).length = 2 := rfl
section
variable {H : Type} {enc' : TypeId × Value -> H} {P : Program}
theorem pair_of_acells {W : World} {base : Nat} {sp : Nat -> Bool} {held : Bool} {t e : TypeId} {k : IntKind} {cs : List Value} {x : DataW H × List MemPlace} {fuel : Nat}
  (ht : P.underlying t = some (.array 2 e)) (he : P.underlying e = some (.int k)) (hc : P.cellsOf e = 1) (hn : P.cellsOf t = 2) (hf : DataW.trod enc' P W base sp held fuel t cs = some x) : ∃ p : Int × Int, ((Lit.int k p.1).wf = true /\ (Lit.int k p.2).wf = true) /\ cs = kE k p := by
 obtain ⟨xs, m, -, -, hl, hxl, hel⟩ := DataW.trod_array ht hf
 rw [hn] at hl
 have each : ∀ i, i < 2 -> ∃ y : Int, (Lit.int k y).wf = true /\ cs[i]? = some (.int k y) := by
  intro i hi
  have := hel i hi
  rw [hc, Nat.mul_one, List.getElem?_eq_getElem (by omega)] at this
  obtain ⟨y, h1, -, hw⟩ := DataW.trod_int he this
  have hi' : i < cs.length := by omega
  have e1 : (cs.drop i).take 1 = [cs[i]] := by rw [List.drop_eq_getElem_cons hi']; rfl
  rw [e1] at h1
  simp only [List.cons.injEq, and_true] at h1
  exact ⟨y, hw, by rw [List.getElem?_eq_getElem hi', h1]⟩
 obtain ⟨y0, w0, g0⟩ := each 0 (by omega)
 obtain ⟨y1, w1, g1⟩ := each 1 (by omega)
 refine ⟨(y0, y1), ⟨w0, w1⟩, List.ext_getElem? fun i => ?_⟩
 match i with
 | 0 => rw [g0]; rfl
 | 1 => rw [g1]; rfl
 | i + 2 => rw [List.getElem?_eq_none (by omega), List.getElem?_eq_none (by show 2 <= i + 2; omega)]
theorem els_of_cells {α : Type} {enc : α -> List Value} {k : Nat} (hk : ∀ x, (enc x).length = k) (hk0 : 0 < k) (pr : α -> Prop) (z : α) {W : World} {base : Nat} {sp : Nat -> Bool} {held : Bool} {t e : TypeId} {cs : List Value} {x : DataW H × List MemPlace} {fuel : Nat}
  (ht : P.underlying t = some (.slice e)) (hm : P.cellsOf e = k) (el : ∀ {m : Nat} {cs : List Value} {x : DataW H × List MemPlace}, DataW.trod enc' P W base sp held m e cs = some x -> ∃ a, pr a /\ cs = enc a) (hf : DataW.trod enc' P W base sp held fuel t cs = some x) :
  ∃ v, cs = [v] /\ ∃ ps : List α, (∀ p ∈ ps, pr p) /\ ps.length <= maxLen /\ SlE enc k W.heap v ps := by
 rcases DataW.trod_slice ht hf with ⟨hcs, -⟩ | ⟨a, len, cap, elems, rest, n, -, hcs, -, -, hl, hcap, hlen, hel, -, -⟩
 ·subst hcs
  exact ⟨_, rfl, [], by simp, by simp, SlE.nil _ _ _⟩
 ·subst hcs
  refine ⟨_, rfl, ?_⟩
  have each : ∀ i, i < len -> ∃ p : α, pr p /\ W.cells? base (a.add (i * k)) k = some (enc p) := by
   intro i hi
   have := hel i hi
   rw [List.getElem?_eq_getElem (by omega), Option.bind_eq_some_iff] at this
   obtain ⟨cs', hcs, hy⟩ := this
   obtain ⟨p, h1, rfl⟩ := el hy
   rw [hm] at hcs
   exact ⟨p, h1, hcs⟩
  obtain ⟨ps, hx, hps⟩ := choose_list (fun i (p : α) => pr p /\ W.cells? base (a.add (i * k)) k = some (enc p)) z len each
  refine ⟨ps, fun p hp => ?_, by omega, ?_⟩
  ·obtain ⟨i, hi, rfl⟩ := List.getElem_of_mem hp
   have := (hps i (by omega)).1
   rwa [List.getD_eq_getElem?_getD, List.getElem?_eq_getElem hi] at this
  ·by_cases h0 : len = 0
   ·have : ps = [] := List.eq_nil_of_length_eq_zero (by omega)
    subst this
    rw [h0]; exact SlE.nil _ _ _
   ·obtain ⟨ab, ao, as⟩ := a
    have hs' : as = none := by
     obtain ⟨_, h2⟩ := hps 0 (by omega)
     obtain ⟨-, -, hcell⟩ := World.cells?_some h2
     have hc0 := hcell 0 (by omega)
     rw [List.getElem?_eq_getElem (by rw [hk]; omega)] at hc0
     obtain ⟨hs, -⟩ := cellAt (hc0 : W.cell? _ = some _)
     simpa [Addr.add] using hs
    subst hs'
    have get : ∀ i, i < len -> ∀ j, j < k -> ∃ C T fr, W.heap[ab]? = some (.cells C T fr) /\ C[ao + i * k + j]? = (enc (ps.getD i z))[j]? := by
     intro i hi j hj
     obtain ⟨_, h2⟩ := hps i hi
     obtain ⟨-, -, hcell⟩ := World.cells?_some h2
     have hc0 := hcell j hj
     have hjl : j < (enc (ps.getD i z)).length := by rw [hk]; exact hj
     rw [List.getElem?_eq_getElem hjl] at hc0 ⊢
     obtain ⟨hs, C, T, fr, hb, hg⟩ := cellAt hc0
     rw [add_mk, add_mk] at hb hg
     exact ⟨C, T, fr, hb, hg⟩
    obtain ⟨C, T, fr, hb, -⟩ := get 0 (by omega) 0 (by omega)
    have get' : ∀ i, i < len -> ∀ j, j < k -> C[ao + i * k + j]? = (enc (ps.getD i z))[j]? := fun i hi j hj => by
     obtain ⟨C', T', fr', hb', hg⟩ := get i hi j hj
     rw [hb] at hb'
     cases hb'
     exact hg
    have hsz : ao + len * k <= C.size := by
     have h1 := get' (len - 1) (by omega) (k - 1) (by omega)
     rw [List.getElem?_eq_getElem (by rw [hk]; omega)] at h1
     have := (Array.getElem?_eq_some_iff.1 h1).1
     have e : len * k = (len - 1) * k + k := by rw [<- Nat.succ_mul]; congr 1; omega
     omega
    rw [<- hx]
    refine SlE.at_ (by omega) hb (by rw [hx]; exact hsz) (List.ext_getElem? fun j => ?_)
    rw [List.getElem?_take, List.getElem?_drop]
    have hfl := fl_len hk ps
    split
    ·next hj =>
     have hi : j / k < ps.length := (Nat.div_lt_iff_lt_mul hk0).2 hj
     have hr := Nat.mod_lt j hk0
     have hd : j / k * k + j % k = j := by rw [Nat.mul_comm]; exact Nat.div_add_mod j k
     have h1 := fl_at hk ps (j / k) ps[j / k] (List.getElem?_eq_getElem hi)
     have h2 : (ps.flatMap enc)[j]? = (enc ps[j / k])[j % k]? := by
      rw [<- h1, List.getElem?_take, if_pos hr, List.getElem?_drop]
      congr 1
      omega
     have h3 := get' (j / k) (by omega) (j % k) hr
     rw [List.getD_eq_getElem?_getD, List.getElem?_eq_getElem hi] at h3
     rw [h2, Array.getElem?_toList, show ao + j = ao + j / k * k + j % k by omega, h3]
     rfl
    ·rw [List.getElem?_eq_none (by omega)]
theorem pairs_of_cells {W : World} {base : Nat} {sp : Nat -> Bool} {held : Bool} {t e e2 : TypeId} {k : IntKind} {cs : List Value} {x : DataW H × List MemPlace} {fuel : Nat}
  (ht : P.underlying t = some (.slice e)) (he : P.underlying e = some (.array 2 e2)) (hu : P.underlying e2 = some (.int k)) (c2 : P.cellsOf e2 = 1) (hm : P.cellsOf e = 2) (hf : DataW.trod enc' P W base sp held fuel t cs = some x) :
  ∃ v, cs = [v] /\ ∃ ps : List (Int × Int), (∀ p ∈ ps, (Lit.int k p.1).wf = true /\ (Lit.int k p.2).wf = true) /\ ps.length <= maxLen /\ SlE (kE k) 2 W.heap v ps :=
 els_of_cells (kE_len k) (by omega) _ (0, 0) ht hm (fun h => pair_of_acells he hu c2 hm h) hf
end
end Go.Mg

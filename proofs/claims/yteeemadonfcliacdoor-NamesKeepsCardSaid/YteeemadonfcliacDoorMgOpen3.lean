/- Several texts of ours in one. No conditions. -/
import Derived.Test.YteeemadonfcliacDoorMgEl
import Derived.ProofKit
import Derived.LaidMore
import Derived.OpenShut
import Derived.Stop.Joined
namespace Go.Mg
open Go Go.ChangeShapes Go.WideShapes Go.RowKit
section
variable {H : Type} {enc : TypeId × Value -> H} {P : Program}
theorem trodAll_stays {W W' : World} (hl : laidOutB P = true) (hb : Below W.heap.size W W') {sp : Nat -> Bool} :
  ∀ {ts : List TypeId} {vs : List Value} {ds : List (DataW H)} {ps : List MemPlace}, ts.all (fun t => P.readableRec t && decide (t < P.types.size)) = true →
   DataW.TrodAll enc P W 0 (fun _ => true) true ts vs ds ps -> (∀ p ∈ ps, p.block < W.heap.size) -> (∀ p ∈ ps, sp p.block = true) -> DataW.TrodAll enc P W' 0 sp true ts vs ds ps
 | [], _, _, _, _, h, _, _ => by
  obtain ⟨rfl, rfl, rfl⟩ := trodAll_nil h
  exact trodAll_mk0
 | t :: ts, _, _, _, hp, h, hlt, hsp => by
  obtain ⟨v, vs1, d, ds1, a, b, rfl, rfl, rfl, h1, h2⟩ := trodAll_cons h
  simp only [List.all_cons, Bool.and_eq_true, decide_eq_true_eq] at hp
  have i1 := WideElems.Trod_stays (sp' := sp) hl hp.1.1 hp.1.2 h1 (fun x hx => hb.same (hlt x (by simp [hx]))) (fun x hx => hsp x (by simp [hx]))
  have i2 := trodAll_stays hl hb (sp := sp) (by simpa using hp.2) h2 (fun p hp => hlt p (by simp [hp])) (fun p hp => hsp p (by simp [hp]))
  exact ⟨a, b, i1, i2, rfl⟩
theorem law_post {f : Func} {s : ChangeSpec} {apart fresh handsOn again : Bool} {W W' : World} {args : Array Value} {ds gs : List (DataW H)} {before : List MemPlace} {t : TypeId}
  (hW : DataW.Whole enc P f.params.toList s.vars apart W args.toList ds gs before) (hv : s.vars = []) (hfn : (s.fn H (ds ++ gs)) = { results := [.lit (.bool true)], args := ds })
  (hb : Below W.heap.size W W') (hr : f.resultTypes = #[t]) (ht : P.underlying t = some .bool) (hl : laidOutB P = true) (hp : f.params.toList.all (fun t => P.readableRec t && decide (t < P.types.size)) = true) :
  s.post enc P f apart fresh handsOn again W args (.bool true) W' := by
 have hlt := hW.lt
 have hW' := hW
 obtain ⟨p, q, hA, hV, rfl, hz, hn⟩ := hW'
 have hV' := hV
 rw [hv] at hV'
 obtain ⟨rfl, rfl⟩ := trodVars_none hV'
 simp only [List.append_nil] at hlt hz hn
 have hres : ∀ (b : Nat) (sp : Nat -> Bool) (hd : Bool), DataW.TrodAll enc P W' b sp hd f.resultTypes.toList ((Value.bool true).resultList f.resultTypes.size) (s.fn H (ds ++ [])).results [] := fun b sp hd => by
  rw [hfn, hr]
  exact trodAll_mk1 (shut_bool ht true)
 have hargs : ∀ sp : Nat -> Bool, (∀ x ∈ p, sp x.block = true) -> DataW.TrodAll enc P W' 0 sp true f.params.toList args.toList (s.fn H (ds ++ [])).args p := fun sp hsp => by
  rw [hfn]
  exact trodAll_stays hl hb hp hA hlt hsp
 have hvars : ∀ sp : Nat -> Bool, DataW.TrodVars enc P W' sp s.vars (s.fn H (ds ++ [])).vars [] := fun sp => by
  rw [hfn, hv]; rfl
 refine ⟨ds, [], _, [], p, [], hW, hres _ _ _, hargs _ (fun x hx => by simpa using hlt x hx), hvars _, hb.frame _, fun _ => ?_⟩
 refine ⟨ok_one hr rfl (okWide_bool_mk ht true), _, _, ([] ++ p) ++ [], ⟨[] ++ p, [], trodAll_append (hargs _ (fun _ _ => rfl)) (hres _ _ _), hvars _, rfl, ?_, ?_⟩, ?_⟩
 ·intro b off hx
  rw [hb.frozen (p := ⟨b, off, none⟩) (hlt (.cell b off) (by simpa using hx))]
  exact hz b off (by simpa using hx)
 ·intro ha
  simpa using hn ha
 ·intro x hx _
  simpa using hx
theorem below_of_keep {W W' : World} (hk : Keep (fun _ => False) W.heap W'.heap) (hs : Same W W') : Below W.heap.size W W' :=
 ⟨hs.os, hs.tape, hs.output, hk.size, fun k hlt => hk.at_ k hlt (fun h => h)⟩
theorem calls_post {f : FuncId} {fn : Func} {s : ChangeSpec} {apart fresh handsOn again : Bool} {W : World} {args : Array Value} {ds gs : List (DataW H)} {before : List MemPlace} {t : TypeId}
  (hW : DataW.Whole enc P fn.params.toList s.vars apart W args.toList ds gs before) (hv : s.vars = []) (hfn : (s.fn H (ds ++ gs)) = { results := [.lit (.bool true)], args := ds })
  (hr : fn.resultTypes = #[t]) (ht : P.underlying t = some .bool) (hl : laidOutB P = true) (hp : fn.params.toList.all (fun t => P.readableRec t && decide (t < P.types.size)) = true)
  (h : CallsM P f args W.heap fun v H' => v = .bool true /\ Keep (fun _ => False) W.heap H') :
  Calls P f args W fun e W' => ∃ v, e = .returned v /\ s.post enc P fn apart fresh handsOn again W args v W' := by
 refine (h W rfl).mono ?_
 rintro e W' ⟨v, rfl, ⟨rfl, hk⟩, hs⟩
 exact ⟨_, rfl, law_post hW hv hfn (below_of_keep hk hs) hr ht hl hp⟩
end
end Go.Mg
namespace Go.Mg
open Go Go.ChangeShapes Go.WideShapes Go.RowKit
section
variable {H : Type} {enc : TypeId × Value -> H} {P : Program}
end
end Go.Mg
namespace Go.Mg
open Go Go.ChangeShapes Go.WideShapes Go.RowKit
section
variable {H : Type} {enc : TypeId × Value -> H} {P : Program}
theorem cellAt {w : World} {a : Addr} {u : Value} (h : w.cell? a = some u) : a.spot = none /\ ∃ c e fr, w.heap[a.block]? = some (.cells c e fr) /\ c[a.off]? = some u := by
 unfold World.cell? at h
 split at h
 ·rename_i hb hs
  split at h
  ·cases h
  ·rename_i hn
   exact ⟨by simpa using hn, _, _, _, hs, h⟩
 ·simp at h
theorem ints_of_cells {W : World} {base : Nat} {sp : Nat -> Bool} {held : Bool} {t e : TypeId} {k : IntKind} {cs : List Value} {x : DataW H × List MemPlace} {fuel : Nat}
  (ht : P.underlying t = some (.slice e)) (he : P.underlying e = some (.int k)) (hc : P.cellsOf e = 1) (hf : DataW.trod enc P W base sp held fuel t cs = some x) :
  ∃ v, cs = [v] /\ ∃ zs : List Int, (∀ n ∈ zs, (Lit.int k n).wf = true) /\ SlR W.heap v (zs.map (Value.int k)) := by
 rcases open_ints ht he hc hf with ⟨hcs, -⟩ | ⟨a, len, cap, zs, rfl, -, hl, -, hz, -, hcell, hwf⟩
 ·subst hcs
  exact ⟨_, rfl, [], by simp, .inl ⟨_, _, rfl, rfl⟩⟩
 ·refine ⟨_, rfl, ?_⟩
  have hle : len <= zs.length := by rw [hz]; split <;> omega
  refine ⟨zs.take len, fun n hn => hwf n (List.mem_of_mem_take hn), ?_⟩
  by_cases h0 : len = 0
  ·subst h0; exact .inl ⟨_, _, rfl, by simp⟩
  ·obtain ⟨hs, c, T, fr, hb, -⟩ := cellAt (hcell 0 (by omega))
   obtain ⟨ab, ao, as⟩ := a
   have hs' : as = none := by unfold Addr.add at hs; split at hs <;> simp_all
   subst hs'
   have hb' : W.heap[ab]? = some (.cells c T fr) := hb
   have hall : ∀ i, i < len -> c[ao + i]? = some (.int k (zs.getD i 0)) := by
    intro i hi
    have hc := hcell i (by omega)
    rw [add_off _ rfl] at hc
    obtain ⟨-, c', T', fr', hb2, hg⟩ := cellAt hc
    have hb2 : W.heap[ab]? = some (.cells c' T' fr') := hb2
    rw [hb'] at hb2
    cases hb2
    exact hg
   have hsz : ao + len <= c.size := by
    have := hall (len - 1) (by omega)
    have := (Array.getElem?_eq_some_iff.1 this).1
    omega
   have hL : ((zs.take len).map (Value.int k)).length = len := by simp; omega
   have := SlR.at_ (H := W.heap) (b := ab) (o := ao) (c := cap) (l := (zs.take len).map (Value.int k)) (by omega) hb' (by omega) (by
    rw [hL]
    apply List.ext_getElem?
    intro i
    rw [List.getElem?_take, List.getElem?_drop, List.getElem?_map, List.getElem?_take]
    split
    ·rename_i hi
     rw [Array.getElem?_toList, hall i hi]
     have : i < zs.length := by omega
     simp [List.getD_eq_getElem?_getD, this]
    ·rfl)
   rwa [hL] at this
theorem ints_of_slice {W : World} {r : Reach} {b0 base : Nat} {sp : Nat -> Bool} {held : Bool} {t e : TypeId} {k : IntKind} {v : Value} {d : DataW H} {ps : List MemPlace}
  (ht : P.underlying t = some (.slice e)) (he : P.underlying e = some (.int k)) (hc : P.cellsOf e = 1) (hval : Value.okWide P W r b0 t v) (hd : DataW.Trod enc P W base sp held t v d ps) :
  ∃ zs : List Int, (∀ n ∈ zs, (Lit.int k n).wf = true) /\ SlR W.heap v (zs.map (Value.int k)) := by
 obtain ⟨a0, len, cap, rfl⟩ := okWide_slice ht hval
 obtain ⟨fuel, hf⟩ := hd
 obtain ⟨v, h1, h2⟩ := ints_of_cells ht he hc hf
 simp [Value.cells] at h1
 subst h1
 exact h2
theorem bytes_of_ints {H : Hp} {v : Value} {zs : List Int} (hw : ∀ n ∈ zs, (Lit.int .u8 n).wf = true) (hs : SlR H v (zs.map (Value.int .u8))) : ∃ l : List UInt8, SlR H v (w8 l) := by
 refine ⟨zs.map fun n => UInt8.ofNat n.toNat, ?_⟩
 have : w8 (zs.map fun n => UInt8.ofNat n.toNat) = zs.map (Value.int .u8) := by
  unfold w8
  rw [List.map_map]
  apply List.map_congr_left
  intro n hn
  have h := hw n hn
  simp only [Lit.wf, Bool.and_eq_true, decide_eq_true_eq] at h
  obtain ⟨h1, h2⟩ := h
  have h1 : (0 : Int) <= n := h1
  have h2 : n <= 255 := h2
  simp only [Function.comp_apply, Value.int.injEq, true_and, UInt8.toNat_ofNat']
  omega
 rw [this]; exact hs
theorem bytes_of_slice {W : World} {r : Reach} {b0 base : Nat} {sp : Nat -> Bool} {held : Bool} {t e : TypeId} {v : Value} {d : DataW H} {ps : List MemPlace}
  (ht : P.underlying t = some (.slice e)) (he : P.underlying e = some (.int .u8)) (hc : P.cellsOf e = 1) (hval : Value.okWide P W r b0 t v) (hd : DataW.Trod enc P W base sp held t v d ps) :
  ∃ l : List UInt8, SlR W.heap v (w8 l) := by
 obtain ⟨zs, hw, hs⟩ := ints_of_slice ht he hc hval hd
 exact bytes_of_ints hw hs
theorem string_of {W : World} {r : Reach} {b0 base : Nat} {sp : Nat -> Bool} {held : Bool} {t : TypeId} {v : Value} {d : DataW H} {ps : List MemPlace} (ht : P.underlying t = some .string) (h : Value.okWide P W r b0 t v) (hd : DataW.Trod enc P W base sp held t v d ps) : ∃ l : List UInt8, v = .string ⟨l.toArray⟩ /\ l.length <= maxLen := by
 obtain ⟨s, rfl⟩ := okWide_string ht h
 obtain ⟨fuel, hf⟩ := hd
 obtain ⟨s', h1, -, h2⟩ := DataW.trod_string ht hf
 simp [Value.cells] at h1
 subst h1
 exact ⟨s.data.toList, by simp, by simpa using h2⟩
end
end Go.Mg
namespace Go.Mg
open Go Go.ChangeShapes Go.WideShapes Go.RowKit
section
variable {H : Type} {enc : TypeId × Value -> H} {P : Program}
end
end Go.Mg
namespace Go.Mg
open Go Go.ChangeShapes Go.WideShapes Go.RowKit
section
variable {H : Type} {enc' : TypeId × Value -> H} {P : Program}
end
end Go.Mg

/- Lemmas of ours. No conditions. -/
import Derived.Test.YtkfikjdbdfekfabDoorMgLaid
import Derived.Test.YtkfikjdbdfekfabDoorMgOwn
namespace Go.Mg
open Go Go.ChangeShapes Go.WideShapes Go.RowKit
section
variable {H:Type} {enc:TypeId×Value->H} {P:Program}
theorem cellAt {w:World} {a:Addr} {u:Value} (h:w.cell? a=some u):a.spot=none/\∃c e fr,w.heap[a.block]?=some (.cells c e fr)/\c[a.off]?=some u:=by
 unfold World.cell? at h
 split at h
 ·rename_i hb hs
  split at h
  ·cases h
  ·rename_i hn;exact⟨by simpa using hn,_,_,_,hs,h⟩
 ·simp at h
theorem fG {W:World} {base:Nat} {sp:Nat->Bool} {held:Bool} {t e:TypeId} {k:IntKind} {cs:List Value} {x:DataW H×List MemPlace} {fuel:Nat}
  (ht:P.underlying t=some (.slice e)) (he:P.underlying e=some (.int k)) (hc:P.cellsOf e=1) (hf:DataW.trod enc P W base sp held fuel t cs=some x):
  ∃v,cs=[v]/\∃zs:List Int,(∀n∈zs,(Lit.int k n).wf=true)/\aC W.heap v (zs.map (Value.int k)):=by
 rcases open_ints ht he hc hf with⟨sM,-⟩|⟨a,len,cap,zs,rfl,-,hl,-,hz,-,hcell,hwf⟩
 ·subst sM;exact⟨_,rfl,[],by simp,.inl ⟨_,_,rfl,rfl⟩⟩
 ·refine⟨_,rfl,?_⟩;have hle:len<=zs.length:=by rw[hz];split<;>omega
  refine⟨zs.take len,fun n hn=>hwf n (List.mem_of_mem_take hn),?_⟩
  by_cases h0:len=0
  ·subst h0;exact .inl ⟨_,_,rfl,by simp⟩
  ·obtain⟨hs,c,T,fr,hb,-⟩:=cellAt (hcell 0 (by omega));obtain⟨ab,ao,as⟩:=a;have cP:as=none:=by unfold Addr.add at hs;split at hs<;>simp_all
   subst cP;have lK:W.heap[ab]?=some (.cells c T fr):=hb;have hall:∀i,i<len->c[ao+i]?=some (.int k (zs.getD i 0)):=by
    intro i hi;have hc:=hcell i (by omega);rw[bj _ rfl]at hc;obtain⟨-,c',T',xz,hb2,hg⟩:=cellAt hc;have hb2:W.heap[ab]?=some (.cells c' T' xz):=hb2;rw[lK]at hb2
    cases hb2
    exact hg
   have ko:ao+len<=c.size:=by
    have:=hall (len -1) (by omega);have:=(Array.getElem?_eq_some_iff.1 this).1;omega
   have hL:((zs.take len).map (Value.int k)).length=len:=by simp;omega
   have:=aC.at_ (H:=W.heap) (b:=ab) (o:=ao) (c:=cap) (l:=(zs.take len).map (Value.int k)) (by omega) lK (by omega) (by
    rw[hL];apply List.ext_getElem?;intro i;rw[List.getElem?_take,List.getElem?_drop,List.getElem?_map,List.getElem?_take]
    split
    ·rename_i hi;rw[Array.getElem?_toList,hall i hi];have:i<zs.length:=by omega
     simp[List.getD_eq_getElem?_getD,this]
    ·rfl)
   rwa [hL]at this
theorem fH {W:World} {r:Reach} {b0 base:Nat} {sp:Nat->Bool} {held:Bool} {t e:TypeId} {k:IntKind} {v:Value} {d:DataW H} {ps:List MemPlace}
  (ht:P.underlying t=some (.slice e)) (he:P.underlying e=some (.int k)) (hc:P.cellsOf e=1) (hval:Value.okWide P W r b0 t v) (hd:DataW.Trod enc P W base sp held t v d ps):
  ∃zs:List Int,(∀n∈zs,(Lit.int k n).wf=true)/\aC W.heap v (zs.map (Value.int k)):=by
 obtain⟨a0,len,cap,rfl⟩:=okWide_slice ht hval;obtain⟨fuel,hf⟩:=hd;obtain⟨v,h1,h2⟩:=fG ht he hc hf;simp[Value.cells]at h1;subst h1;exact h2
theorem fI {H:Hp} {v:Value} {zs:List Int} (hw:∀n∈zs,(Lit.int .u8 n).wf=true) (hs:aC H v (zs.map (Value.int .u8))):∃l:List UInt8,aC H v (w8 l):=by
 refine⟨zs.map fun n=>UInt8.ofNat n.toNat,?_⟩;have:w8 (zs.map fun n=>UInt8.ofNat n.toNat)=zs.map (Value.int .u8):=by
  unfold w8;rw[List.map_map];apply List.map_congr_left;intro n hn;have h:=hw n hn;simp only[Lit.wf,Bool.and_eq_true,decide_eq_true_eq]at h;obtain⟨h1,h2⟩:=h;have h1:(0:Int)<=n:=h1;have h2:n<=255:=h2;simp only[Function.comp_apply,Value.int.injEq,true_and,UInt8.toNat_ofNat'];omega
 rw[this];exact hs
theorem cB {W:World} {r:Reach} {b0 base:Nat} {sp:Nat->Bool} {held:Bool} {t e:TypeId} {v:Value} {d:DataW H} {ps:List MemPlace}
  (ht:P.underlying t=some (.slice e)) (he:P.underlying e=some (.int .u8)) (hc:P.cellsOf e=1) (hval:Value.okWide P W r b0 t v) (hd:DataW.Trod enc P W base sp held t v d ps):
  ∃l:List UInt8,aC W.heap v (w8 l):=by
 obtain⟨zs,hw,hs⟩:=fH ht he hc hval hd;exact fI hw hs
theorem lA {W:World} {r:Reach} {b0 base:Nat} {sp:Nat->Bool} {held:Bool} {t:TypeId} {v:Value} {d:DataW H} {ps:List MemPlace} (ht:P.underlying t=some .string) (h:Value.okWide P W r b0 t v) (hd:DataW.Trod enc P W base sp held t v d ps):∃l:List UInt8,v=.string ⟨l.toArray⟩/\l.length<=maxLen:=by
 obtain⟨s,rfl⟩:=okWide_string ht h;obtain⟨fuel,hf⟩:=hd;obtain⟨s',h1,-,h2⟩:=DataW.trod_string ht hf;simp[Value.cells]at h1;subst h1;exact⟨s.data.toList,by simp,by simpa using h2⟩
end
end Go.Mg

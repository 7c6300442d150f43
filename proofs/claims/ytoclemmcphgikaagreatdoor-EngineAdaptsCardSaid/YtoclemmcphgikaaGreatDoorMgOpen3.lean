/- Several texts of ours in one. No conditions. -/
import Derived.Test.YtoclemmcphgikaaGreatDoorMgLaid
import Derived.Test.YtoclemmcphgikaaGreatDoorMgOwn
import Derived.Test.YtoclemmcphgikaaGreatDoorMgEl
namespace Go.Mg
open Go Go.ChangeShapes Go.WideShapes Go.RowKit
section
variable {H:Type} {enc:TypeId×Value->H} {P:Program}
theorem cellAt {w:World} {a:Addr} {u:Value} (h:w.cell? a=some u):a.spot=none/\∃c e fr,w.heap[a.block]?=some (.cells c e fr)/\c[a.off]?=some u:=by
 unfold World.cell? at h
 split at h
 ·rename_i hb hs
  split at h
  ·cases h
  ·rename_i hn
   exact⟨by simpa using hn,_,_,_,hs,h⟩
 ·simp at h
theorem ints_of_cells {W:World} {base:Nat} {sp:Nat->Bool} {held:Bool} {t e:TypeId} {k:IntKind} {cs:List Value} {x:DataW H×List MemPlace} {fuel:Nat}
  (ht:P.underlying t=some (.slice e)) (he:P.underlying e=some (.int k)) (hc:P.cellsOf e=1) (hf:DataW.trod enc P W base sp held fuel t cs=some x):
  ∃v,cs=[v]/\∃zs:List Int,(∀n∈zs,(Lit.int k n).wf=true)/\SlR W.heap v (zs.map (Value.int k)):=by
 rcases open_ints ht he hc hf with⟨hcs,-⟩|⟨a,len,cap,zs,rfl,-,hl,-,hz,-,hcell,hwf⟩
 ·subst hcs
  exact⟨_,rfl,[],by simp,.inl ⟨_,_,rfl,rfl⟩⟩
 ·refine⟨_,rfl,?_⟩
  have hle:len<=zs.length:=by rw[hz];split<;>omega
  refine⟨zs.take len,fun n hn=>hwf n (List.mem_of_mem_take hn),?_⟩
  by_cases h0:len=0
  ·subst h0;exact .inl ⟨_,_,rfl,by simp⟩
  ·obtain⟨hs,c,T,fr,hb,-⟩:=cellAt (hcell 0 (by omega))
   obtain⟨ab,ao,as⟩:=a
   have hs':as=none:=by unfold Addr.add at hs;split at hs<;>simp_all
   subst hs'
   have hb':W.heap[ab]?=some (.cells c T fr):=hb
   have hall:∀i,i<len->c[ao+i]?=some (.int k (zs.getD i 0)):=by
    intro i hi
    have hc:=hcell i (by omega)
    rw[add_off _ rfl]at hc
    obtain⟨-,c',T',fr',hb2,hg⟩:=cellAt hc
    have hb2:W.heap[ab]?=some (.cells c' T' fr'):=hb2
    rw[hb']at hb2
    cases hb2
    exact hg
   have hsz:ao+len<=c.size:=by
    have:=hall (len -1) (by omega)
    have:=(Array.getElem?_eq_some_iff.1 this).1
    omega
   have hL:((zs.take len).map (Value.int k)).length=len:=by simp;omega
   have:=SlR.at_ (H:=W.heap) (b:=ab) (o:=ao) (c:=cap) (l:=(zs.take len).map (Value.int k)) (by omega) hb' (by omega) (by
    rw[hL]
    apply List.ext_getElem?
    intro i
    rw[List.getElem?_take,List.getElem?_drop,List.getElem?_map,List.getElem?_take]
    split
    ·rename_i hi
     rw[Array.getElem?_toList,hall i hi]
     have:i<zs.length:=by omega
     simp[List.getD_eq_getElem?_getD,this]
    ·rfl)
   rwa [hL]at this
theorem ints_of_slice {W:World} {r:Reach} {b0 base:Nat} {sp:Nat->Bool} {held:Bool} {t e:TypeId} {k:IntKind} {v:Value} {d:DataW H} {ps:List MemPlace}
  (ht:P.underlying t=some (.slice e)) (he:P.underlying e=some (.int k)) (hc:P.cellsOf e=1) (hval:Value.okWide P W r b0 t v) (hd:DataW.Trod enc P W base sp held t v d ps):
  ∃zs:List Int,(∀n∈zs,(Lit.int k n).wf=true)/\SlR W.heap v (zs.map (Value.int k)):=by
 obtain⟨a0,len,cap,rfl⟩:=okWide_slice ht hval
 obtain⟨fuel,hf⟩:=hd
 obtain⟨v,h1,h2⟩:=ints_of_cells ht he hc hf
 simp[Value.cells]at h1
 subst h1
 exact h2
theorem bytes_of_ints {H:Hp} {v:Value} {zs:List Int} (hw:∀n∈zs,(Lit.int .u8 n).wf=true) (hs:SlR H v (zs.map (Value.int .u8))):∃l:List UInt8,SlR H v (w8 l):=by
 refine⟨zs.map fun n=>UInt8.ofNat n.toNat,?_⟩
 have:w8 (zs.map fun n=>UInt8.ofNat n.toNat)=zs.map (Value.int .u8):=by
  unfold w8
  rw[List.map_map]
  apply List.map_congr_left
  intro n hn
  have h:=hw n hn
  simp only[Lit.wf,Bool.and_eq_true,decide_eq_true_eq]at h
  obtain⟨h1,h2⟩:=h
  have h1:(0:Int)<=n:=h1
  have h2:n<=255:=h2
  simp only[Function.comp_apply,Value.int.injEq,true_and,UInt8.toNat_ofNat']
  omega
 rw[this];exact hs
theorem bytes_of_slice {W:World} {r:Reach} {b0 base:Nat} {sp:Nat->Bool} {held:Bool} {t e:TypeId} {v:Value} {d:DataW H} {ps:List MemPlace}
  (ht:P.underlying t=some (.slice e)) (he:P.underlying e=some (.int .u8)) (hc:P.cellsOf e=1) (hval:Value.okWide P W r b0 t v) (hd:DataW.Trod enc P W base sp held t v d ps):
  ∃l:List UInt8,SlR W.heap v (w8 l):=by
 obtain⟨zs,hw,hs⟩:=ints_of_slice ht he hc hval hd
 exact bytes_of_ints hw hs
theorem bytes_of_cells {W:World} {base:Nat} {sp:Nat->Bool} {held:Bool} {t e:TypeId} {cs:List Value} {x:DataW H×List MemPlace} {fuel:Nat}
  (ht:P.underlying t=some (.slice e)) (he:P.underlying e=some (.int .u8)) (hc:P.cellsOf e=1) (hf:DataW.trod enc P W base sp held fuel t cs=some x):
  ∃v,cs=[v]/\∃l:List UInt8,SlR W.heap v (w8 l):=by
 obtain⟨v,h1,zs,hw,hs⟩:=ints_of_cells ht he hc hf
 exact⟨v,h1,bytes_of_ints hw hs⟩
end
end Go.Mg
namespace Go.Mg
open Go Go.ChangeShapes Go.WideShapes Go.RowKit
def WdR (m:Nat) (H:Hp) (v:Value) (ws:List (List UInt8)):Prop:=
 ∃a c,v=.slice a ws.length c/\ws.length<=c/\∀i,i<ws.length->(ws.getD i []).length=m/\∃b o,a=some ⟨b,o,none⟩/\b<H.size/\Mg.ldNA H ⟨b,o+i*m,none⟩ m=some (w8 (ws.getD i [])).toArray
theorem WdR.keep0 {m:Nat} {H H':Hp} {v:Value} {ws:List (List UInt8)} (h:WdR m H v ws) (hk:Keep (fun _=>False) H H'):WdR m H' v ws:=by
 obtain⟨a,c,h1,h2,h3⟩:=h
 refine⟨a,c,h1,h2,fun i hi=>?_⟩
 obtain⟨h4,b,o,h5,h6,h7⟩:=h3 i hi
 exact⟨h4,b,o,h5,Nat.lt_of_lt_of_le h6 hk.size,by rw[hk.ldNA (p:=⟨b,o+i*m,none⟩) h6 (by simp)];exact h7⟩
section
variable {H:Type} {enc:TypeId×Value->H} {P:Program}
end
end Go.Mg
namespace Go.Mg
open Go Go.ChangeShapes Go.WideShapes Go.RowKit
def kE (k:IntKind) (p:Int×Int):List Value:=[.int k p.1,.int k p.2]
theorem kE_len (k:IntKind) (p:Int×Int):(kE k p).length=2:=rfl
section
variable {H:Type} {enc':TypeId×Value->H} {P:Program}
theorem pair_of_acells {W:World} {base:Nat} {sp:Nat->Bool} {held:Bool} {t e:TypeId} {k:IntKind} {cs:List Value} {x:DataW H×List MemPlace} {fuel:Nat}
  (ht:P.underlying t=some (.array 2 e)) (he:P.underlying e=some (.int k)) (hc:P.cellsOf e=1) (hn:P.cellsOf t=2) (hf:DataW.trod enc' P W base sp held fuel t cs=some x):∃p:Int×Int,((Lit.int k p.1).wf=true/\(Lit.int k p.2).wf=true)/\cs=kE k p:=by
 obtain⟨xs,m,-,-,hl,hxl,hel⟩:=DataW.trod_array ht hf
 rw[hn]at hl
 have each:∀i,i<2->∃y:Int,(Lit.int k y).wf=true/\cs[i]?=some (.int k y):=by
  intro i hi
  have:=hel i hi
  rw[hc,Nat.mul_one,List.getElem?_eq_getElem (by omega)]at this
  obtain⟨y,h1,-,hw⟩:=DataW.trod_int he this
  have hi':i<cs.length:=by omega
  have e1:(cs.drop i).take 1=[cs[i]]:=by rw[List.drop_eq_getElem_cons hi'];rfl
  rw[e1]at h1
  simp only[List.cons.injEq,and_true]at h1
  exact⟨y,hw,by rw[List.getElem?_eq_getElem hi',h1]⟩
 obtain⟨y0,w0,g0⟩:=each 0 (by omega)
 obtain⟨y1,w1,g1⟩:=each 1 (by omega)
 refine⟨(y0,y1),⟨w0,w1⟩,List.ext_getElem? fun i=>?_⟩
 match i with
 |0=>rw[g0];rfl
 |1=>rw[g1];rfl
 |i+2=>rw[List.getElem?_eq_none (by omega),List.getElem?_eq_none (by show 2<=i+2;omega)]
theorem els_of_cells {α:Type} {enc:α->List Value} {k:Nat} (hk:∀x,(enc x).length=k) (hk0:0<k) (pr:α->Prop) (z:α) {W:World} {base:Nat} {sp:Nat->Bool} {held:Bool} {t e:TypeId} {cs:List Value} {x:DataW H×List MemPlace} {fuel:Nat}
  (ht:P.underlying t=some (.slice e)) (hm:P.cellsOf e=k) (el:∀{m:Nat} {cs:List Value} {x:DataW H×List MemPlace},DataW.trod enc' P W base sp held m e cs=some x->∃a,pr a/\cs=enc a) (hf:DataW.trod enc' P W base sp held fuel t cs=some x):
  ∃v,cs=[v]/\∃ps:List α,(∀p∈ps,pr p)/\ps.length<=maxLen/\SlE enc k W.heap v ps:=by
 rcases DataW.trod_slice ht hf with⟨hcs,-⟩|⟨a,len,cap,elems,rest,n,-,hcs,-,-,hl,hcap,hlen,hel,-,-⟩
 ·subst hcs
  exact⟨_,rfl,[],by simp,by simp,SlE.nil _ _ _⟩
 ·subst hcs
  refine⟨_,rfl,?_⟩
  have each:∀i,i<len->∃p:α,pr p/\W.cells? base (a.add (i*k)) k=some (enc p):=by
   intro i hi
   have:=hel i hi
   rw[List.getElem?_eq_getElem (by omega),Option.bind_eq_some_iff]at this
   obtain⟨cs',hcs,hy⟩:=this
   obtain⟨p,h1,rfl⟩:=el hy
   rw[hm]at hcs
   exact⟨p,h1,hcs⟩
  obtain⟨ps,hx,hps⟩:=choose_list (fun i (p:α)=>pr p/\W.cells? base (a.add (i*k)) k=some (enc p)) z len each
  refine⟨ps,fun p hp=>?_,by omega,?_⟩
  ·obtain⟨i,hi,rfl⟩:=List.getElem_of_mem hp
   have:=(hps i (by omega)).1
   rwa [List.getD_eq_getElem?_getD,List.getElem?_eq_getElem hi]at this
  ·by_cases h0:len=0
   ·have:ps=[]:=List.eq_nil_of_length_eq_zero (by omega)
    subst this
    rw[h0];exact SlE.nil _ _ _
   ·obtain⟨ab,ao,as⟩:=a
    have hs':as=none:=by
     obtain⟨_,h2⟩:=hps 0 (by omega)
     obtain⟨-,-,hcell⟩:=World.cells?_some h2
     have hc0:=hcell 0 (by omega)
     rw[List.getElem?_eq_getElem (by rw[hk];omega)]at hc0
     obtain⟨hs,-⟩:=cellAt (hc0:W.cell? _=some _)
     simpa[Addr.add]using hs
    subst hs'
    have get:∀i,i<len->∀j,j<k->∃C T fr,W.heap[ab]?=some (.cells C T fr)/\C[ao+i*k+j]?=(enc (ps.getD i z))[j]?:=by
     intro i hi j hj
     obtain⟨_,h2⟩:=hps i hi
     obtain⟨-,-,hcell⟩:=World.cells?_some h2
     have hc0:=hcell j hj
     have hjl:j<(enc (ps.getD i z)).length:=by rw[hk];exact hj
     rw[List.getElem?_eq_getElem hjl]at hc0⊢
     obtain⟨hs,C,T,fr,hb,hg⟩:=cellAt hc0
     rw[add_mk,add_mk]at hb hg
     exact⟨C,T,fr,hb,hg⟩
    obtain⟨C,T,fr,hb,-⟩:=get 0 (by omega) 0 (by omega)
    have get':∀i,i<len->∀j,j<k->C[ao+i*k+j]?=(enc (ps.getD i z))[j]?:=fun i hi j hj=>by
     obtain⟨C',T',fr',hb',hg⟩:=get i hi j hj
     rw[hb]at hb'
     cases hb'
     exact hg
    have hsz:ao+len*k<=C.size:=by
     have h1:=get' (len -1) (by omega) (k -1) (by omega)
     rw[List.getElem?_eq_getElem (by rw[hk];omega)]at h1
     have:=(Array.getElem?_eq_some_iff.1 h1).1
     have e:len*k=(len -1)*k+k:=by rw[<-Nat.succ_mul];congr 1;omega
     omega
    rw[<-hx]
    refine SlE.at_ (by omega) hb (by rw[hx];exact hsz) (List.ext_getElem? fun j=>?_)
    rw[List.getElem?_take,List.getElem?_drop]
    have hfl:=fl_len hk ps
    split
    ·next hj=>
     have hi:j/k<ps.length:=(Nat.div_lt_iff_lt_mul hk0).2 hj
     have hr:=Nat.mod_lt j hk0
     have hd:j/k*k+j % k=j:=by rw[Nat.mul_comm];exact Nat.div_add_mod j k
     have h1:=fl_at hk ps (j/k) ps[j/k] (List.getElem?_eq_getElem hi)
     have h2:(ps.flatMap enc)[j]?=(enc ps[j/k])[j % k]?:=by
      rw[<-h1,List.getElem?_take,if_pos hr,List.getElem?_drop]
      congr 1
      omega
     have h3:=get' (j/k) (by omega) (j % k) hr
     rw[List.getD_eq_getElem?_getD,List.getElem?_eq_getElem hi]at h3
     rw[h2,Array.getElem?_toList,show ao+j=ao+j/k*k+j % k by omega,h3]
     rfl
    ·rw[List.getElem?_eq_none (by omega)]
theorem pairs_of_cells {W:World} {base:Nat} {sp:Nat->Bool} {held:Bool} {t e e2:TypeId} {k:IntKind} {cs:List Value} {x:DataW H×List MemPlace} {fuel:Nat}
  (ht:P.underlying t=some (.slice e)) (he:P.underlying e=some (.array 2 e2)) (hu:P.underlying e2=some (.int k)) (c2:P.cellsOf e2=1) (hm:P.cellsOf e=2) (hf:DataW.trod enc' P W base sp held fuel t cs=some x):
  ∃v,cs=[v]/\∃ps:List (Int×Int),(∀p∈ps,(Lit.int k p.1).wf=true/\(Lit.int k p.2).wf=true)/\ps.length<=maxLen/\SlE (kE k) 2 W.heap v ps:=
 els_of_cells (kE_len k) (by omega) _ (0,0) ht hm (fun h=>pair_of_acells he hu c2 hm h) hf
end
end Go.Mg

/- Lemmas of ours. No conditions. -/
import Derived.Shelf.SlSortCmp.NoneTotal
import Derived.Test.YtoclemmcphgikaaGreatDoorMgEl
import Derived.Test.YtoclemmcphgikaaGreatDoorMgO3
set_option linter.all false
namespace Go.Mg
open Go Go.RowKit Go.Shelf Go.Sort
def nE (p:Nat×Nat):List Value:=[.int .i64 (p.1:Int),.int .i64 (p.2:Int)]
theorem lp (p:Nat×Nat):(nE p).length=2:=rfl
theorem Nv (p:Nat×Nat):∀v∈nE p,v.oneCell'=true:=by
 intro v hv;simp[nE]at hv;rcases hv with rfl|rfl<;>rfl
abbrev F2:=Fin 256×Fin 256
def Kh (x:F2):Nat×Nat:=(x.1.val,x.2.val)
def Cp (x:F2):List Value:=nE (Kh x)
def Mw (x y:F2):Int:=if x.1=y.1 then(x.2.val:Int) -y.2.val else(x.1.val:Int) -y.1.val
def WM (P:Program) (g:FuncId):Prop:=∀(x y:F2) (W:World),Calls P g #[.agg (Cp x).toArray,.agg (Cp y).toArray] W fun e w'=>e=.returned (.int .i64 (Mw x y))/\∃q os',w'=grow (W.drewN q) os'
theorem WN (x y:F2):Go.Proofs.ltOf Mw x y=decide (x.1.val<y.1.val\/(x.1.val=y.1.val/\x.2.val<y.2.val)):=by
 unfold Go.Proofs.ltOf Mw
 by_cases h:x.1=y.1
 ·simp[h];omega
 ·have:x.1.val≠y.1.val:=fun e=>h (Fin.ext e);simp[h,this];omega
theorem adY:SWO (Go.Proofs.ltOf Mw)where
 irrefl x:=by rw[WN];simp
 trans x y z h1 h2:=by rw[WN]at*;simp at*;omega
 ntrans x y z h1 h2:=by rw[WN]at*;simp at*;omega
theorem adZ (x y:F2) (h1:Go.Proofs.ltOf Mw x y=false) (h2:Go.Proofs.ltOf Mw y x=false):x=y:=by
 rw[WN]at h1 h2;simp at h1 h2;obtain⟨a,b⟩:=x;obtain⟨c,d⟩:=y;have e1:a.val=c.val:=by simp at h1 h2;omega
 have e2:b.val=d.val:=by simp at h1 h2;omega
 rw[Fin.ext e1,Fin.ext e2]
def qp (P:Program) (k g:FuncId):Prop:=∀(l:List (Nat×Nat)) (v:Value) (H:Hp),bT nE 2 H v l->(∀p∈l,p.1<256/\p.2<256)->l.length<1000000→
 an P k #[v,.func (.func g) #[] #[]] H fun r H'=>r=.tuple #[]/\(∃l':List (Nat×Nat),l'.Perm l/\l'.Pairwise IV/\bT nE 2 H' v l')/\af (ax v) H H'
theorem WO:∀(l:List (Nat×Nat)),(∀p∈l,p.1<256/\p.2<256)->∃d:List F2,d.map Kh=l
 |[],_=>⟨[],rfl⟩
 |p::l,h=>by
  obtain⟨d,hd⟩:=WO l fun q hq=>h q (by simp[hq]);obtain⟨h1,h2⟩:=h p (by simp);exact⟨(⟨p.1,h1⟩,⟨p.2,h2⟩)::d,by simp[hd,Kh]⟩
theorem Da (d:List F2):(flatK Cp 2 d.toArray).toList=(d.map Kh).flatMap nE:=by
 apply List.ext_getElem?;intro i;have e:∀i,i<d.length*2->((d.map Kh).flatMap nE)[i]?=(Cp (d.toArray[i/2]!))[i % 2]?:=by
  intro i hi;have hd:i/2<d.length:=by omega
  have:=CR lp (d.map Kh) (i/2) (Kh d[i/2]) (by simp[hd]);have h2:=congrArg (fun l=>l[i % 2]?) this;simp only[List.getElem?_take,List.getElem?_drop]at h2;rw[if_pos (by omega),show i/2*2+i % 2=i by omega]at h2;rw[h2];simp[Cp,hd]
 by_cases hi:i<d.length*2
 ·rw[e i hi];have hs:i<(flatK Cp 2 d.toArray).size:=by simpa using hi
  rw[Array.getElem?_toList,Array.getElem?_eq_getElem hs,<-getElem!_pos (flatK Cp 2 d.toArray) i hs,get_flatK Cp 2 d.toArray i (by simpa using hi)];have hm:i % 2<(Cp (d.toArray[i/2]!)).length:=by show i % 2<2;omega
  rw[List.getElem?_eq_getElem hm,getElem!_pos (Cp (d.toArray[i/2]!)) (i % 2) hm]
 ·rw[List.getElem?_eq_none (by rw[Array.length_toList,size_flatK];simpa using hi),List.getElem?_eq_none (by rw[ug lp];simpa using hi)]
variable {w:World} {b m:Nat} {Lc:List Value}
theorem YF (hb:Bl w.heap b Lc) {d:List F2} (hL:d.length*2<=Lc.length) (h:Lc.take (d.length*2)=(d.map Kh).flatMap nE):HoldsK Cp 2 w b 0 d.toArray:=by
 intro j hj;rw[size_flatK]at hj;have EB:j<d.length*2:=by simpa using hj
 rw[Iw,XT,Nat.zero_add,hb.cell,hb.rO];refine⟨?_,rfl⟩;have e:Lc[j]?=(Lc.take (d.length*2))[j]?:=by rw[List.getElem?_take,if_pos EB]
 rw[e,h,<-Da,Array.getElem?_toList,Array.getElem?_eq_getElem (by rw[size_flatK];exact hj)];rw[<-getElem!_pos (flatK Cp 2 d.toArray) j (by rw[size_flatK];exact hj)]
 rfl
theorem ad0 (hb:Bl w.heap b Lc) (d:List F2) (hL:d.length*2<=Lc.length) (os:Array Obj):
  ∃L',Bl (Go.Proofs.sortWorldK Cp 2 w b 0 m d.toArray os).heap b L'/\L'.length=Lc.length/\L'.take (d.length*2)=(d.map Kh).flatMap nE:=by
 obtain⟨T,pS⟩:=hb;refine⟨(putCells id 0 (flatK Cp 2 d.toArray) Lc.toArray).toList,⟨T,?_⟩,by simp[putCells],?_⟩
 ·have hlt:=(Array.getElem?_eq_some_iff.1 pS).1
  show((w.heap.modify b (onCells _))++os)[b]?=_
  rw[Array.getElem?_append_left (by simpa using hlt),Array.getElem?_modify,if_pos rfl,pS]
  rfl
 ·rw[<-Da];apply List.ext_getElem?;intro i;rw[List.getElem?_take]
  by_cases hi:i<d.length*2
  ·have hs:i<(flatK Cp 2 d.toArray).size:=by simpa using hi
   have ch:i<Lc.length:=by omega
   rw[if_pos hi,Array.getElem?_toList,Array.getElem?_toList];simp only[putCells,Array.getElem?_mapIdx,Nat.zero_le,true_and,Nat.zero_add,Nat.sub_zero];rw[List.getElem?_toArray,List.getElem?_eq_getElem ch,Option.map_some,if_pos hs,Array.getElem?_eq_getElem hs,<-getElem!_pos (flatK Cp 2 d.toArray) i hs]
   rfl
  ·rw[if_neg hi,List.getElem?_eq_none (by rw[Array.length_toList,size_flatK];simpa using hi)]
theorem Nw {d:Array F2} {os:Array Obj}:af (fun q=>q=b) w.heap (Go.Proofs.sortWorldK Cp 2 w b 0 m d os).heap:=by
 refine⟨?_,fun q hq hn=>?_⟩
 ·show w.heap.size<=((w.heap.modify b (onCells _))++os).size
  simp
 ·show((w.heap.modify b (onCells _))++os)[q]?=_
  rw[Array.getElem?_append_left (by simpa using hq),Array.getElem?_modify,if_neg (fun e=>hn e.symm)]
theorem SY {P:Program} {ρ:Ren} (L:Go.Proofs.SlLaysF0.n6 P ρ) (aE:∀w,(isAgg (ρ.t 24)).run P w=.ok true w) (zE:∀w,(Go.sizeOf (ρ.t 24)).run P w=.ok 2 w) (g:FuncId)
  (eg:∀args w,(callFunc g args).run P w=.ok (.enter g args) w) (hC:WM P g):qp P (ρ.f 6) g:=by
 intro l v H hv hl hn w hw;subst hw
 by_cases h0:l=[]
 ·subst h0;obtain⟨a,c,rfl,-⟩:=hv.sl.mk;refine(Go.Proofs.AnyF.slices_SortFunc_none L a c _ w).mono ?_;rintro e w' ⟨rfl,rfl⟩;exact⟨_,rfl,⟨rfl,⟨[],.refl _,.nil,hv⟩,af.refl _ _⟩,bD.refl _⟩
 ·obtain⟨b,c,Lc,rfl,h1,h2,hb,h3⟩:=hv.some h0;obtain⟨d,rfl⟩:=WO l hl;have hlen:(d.map Kh).length=d.length:=by simp
  rw[hlen]at h1 h3;have hL:d.length*2<=Lc.length:=Nat.le_trans (Nat.mul_le_mul_right 2 h1) h2;have hcon:=Go.Proofs.AnyQ.slices_SortFunc_total L 2 aE zE Cp (fun _=>rfl) (fun x=>Nv _) Mw adY g #[] b 0 c d.toArray w eg (fun _ _ _ _ x y=>hC x y _) (YF hb hL h3) hb.lt (by simp at hn⊢;omega) adZ;have e1:(d.map Kh).length=d.toArray.size:=by simp
  rw[e1];refine hcon.mono ?_;rintro e w' ⟨rfl,m,os,rfl⟩;have hp:=List.mergeSort_perm d.toArray.toList fun x y=>!(Go.Proofs.ltOf Mw) y x;have hs:(d.toArray.toList.mergeSort fun x y=>!(Go.Proofs.ltOf Mw) y x).Pairwise fun x y=>(!(Go.Proofs.ltOf Mw) y x)=true:=by
   refine List.pairwise_mergeSort ?_ ?_ _
   ·intro x y z h1 h2;rw[WN]at*;simp at*;omega
   ·intro x y;rw[WN,WN];simp;omega
  generalize d.toArray.toList.mergeSort (fun x y=>!(Go.Proofs.ltOf Mw) y x)=d' at hp hs⊢;have hl':d'.length=d.length:=hp.length_eq;obtain⟨L',hB,rR,ht⟩:=ad0 (m:=m) hb d' (by omega) os;refine⟨_,rfl,⟨rfl,⟨d'.map Kh,hp.map _,?_,?_⟩,Nw⟩,⟨rfl,rfl,rfl⟩⟩
  ·rw[List.pairwise_map];refine hs.imp fun{x y} h=>?_;rw[WN]at h;simp[IV,Kh]at h⊢;omega
  ·refine bT.bl hB (by simp[hl']) (by simpa using h1) (by omega) ?_;simp only[List.size_toArray];rw[<-hl'];exact ht
end Go.Mg

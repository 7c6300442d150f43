/- Lemmas of ours. No conditions. -/
import Derived.Shelf.SlSortCmp.NoneTotal
import Derived.Test.YteeemadonfcliaaGreatDoorMgEl
import Derived.Test.YteeemadonfcliaaGreatDoorMgO3
set_option linter.all false
namespace Go.Mg
open Go Go.RowKit Go.Shelf Go.Sort
def nE (p:Nat×Nat):List Value:=[.int .i64 (p.1:Int),.int .i64 (p.2:Int)]
theorem iR (p:Nat×Nat):(nE p).length=2:=rfl
theorem Fa (p:Nat×Nat):∀v∈nE p,v.oneCell'=true:=by
 intro v hv;simp[nE]at hv;rcases hv with rfl|rfl<;>rfl
abbrev F2:=Fin 256×Fin 256
def CD (x:F2):Nat×Nat:=(x.1.val,x.2.val)
def vq (x:F2):List Value:=nE (CD x)
def Ei (x y:F2):Int:=if x.1=y.1 then(x.2.val:Int) -y.2.val else(x.1.val:Int) -y.1.val
def Mq (P:Program) (g:FuncId):Prop:=∀(x y:F2) (W:World),Calls P g #[.agg (vq x).toArray,.agg (vq y).toArray] W fun e w'=>e=.returned (.int .i64 (Ei x y))/\∃q os',w'=grow (W.drewN q) os'
theorem Mr (x y:F2):Go.Proofs.ltOf Ei x y=decide (x.1.val<y.1.val\/(x.1.val=y.1.val/\x.2.val<y.2.val)):=by
 unfold Go.Proofs.ltOf Ei
 by_cases h:x.1=y.1
 ·simp[h];omega
 ·have:x.1.val≠y.1.val:=fun e=>h (Fin.ext e);simp[h,this];omega
theorem WO:SWO (Go.Proofs.ltOf Ei)where
 irrefl x:=by rw[Mr];simp
 trans x y z h1 h2:=by rw[Mr]at*;simp at*;omega
 ntrans x y z h1 h2:=by rw[Mr]at*;simp at*;omega
theorem WQ (x y:F2) (h1:Go.Proofs.ltOf Ei x y=false) (h2:Go.Proofs.ltOf Ei y x=false):x=y:=by
 rw[Mr]at h1 h2;simp at h1 h2;obtain⟨a,b⟩:=x;obtain⟨c,d⟩:=y;have e1:a.val=c.val:=by simp at h1 h2;omega
 have e2:b.val=d.val:=by simp at h1 h2;omega
 rw[Fin.ext e1,Fin.ext e2]
def mb (P:Program) (k g:FuncId):Prop:=∀(l:List (Nat×Nat)) (v:Value) (H:Hp),dG nE 2 H v l->(∀p∈l,p.1<256/\p.2<256)->l.length<1000000→
 an P k #[v,.func (.func g) #[] #[]] H fun r H'=>r=.tuple #[]/\(∃l':List (Nat×Nat),l'.Perm l/\l'.Pairwise Bf/\dG nE 2 H' v l')/\af (az v) H H'
theorem Ms:∀(l:List (Nat×Nat)),(∀p∈l,p.1<256/\p.2<256)->∃d:List F2,d.map CD=l
 |[],_=>⟨[],rfl⟩
 |p::l,h=>by
  obtain⟨d,hd⟩:=Ms l fun q hq=>h q (by simp[hq]);obtain⟨h1,h2⟩:=h p (by simp);exact⟨(⟨p.1,h1⟩,⟨p.2,h2⟩)::d,by simp[hd,CD]⟩
theorem wj (d:List F2):(flatK vq 2 d.toArray).toList=(d.map CD).flatMap nE:=by
 apply List.ext_getElem?;intro i;have e:∀i,i<d.length*2->((d.map CD).flatMap nE)[i]?=(vq (d.toArray[i/2]!))[i % 2]?:=by
  intro i hi;have hd:i/2<d.length:=by omega
  have:=AV iR (d.map CD) (i/2) (CD d[i/2]) (by simp[hd]);have h2:=congrArg (fun l=>l[i % 2]?) this;simp only[List.getElem?_take,List.getElem?_drop]at h2;rw[if_pos (by omega),show i/2*2+i % 2=i by omega]at h2;rw[h2];simp[vq,hd]
 by_cases hi:i<d.length*2
 ·rw[e i hi];have hs:i<(flatK vq 2 d.toArray).size:=by simpa using hi
  rw[Array.getElem?_toList,Array.getElem?_eq_getElem hs,<-getElem!_pos (flatK vq 2 d.toArray) i hs,get_flatK vq 2 d.toArray i (by simpa using hi)];have hm:i % 2<(vq (d.toArray[i/2]!)).length:=by show i % 2<2;omega
  rw[List.getElem?_eq_getElem hm,getElem!_pos (vq (d.toArray[i/2]!)) (i % 2) hm]
 ·rw[List.getElem?_eq_none (by rw[Array.length_toList,size_flatK];simpa using hi),List.getElem?_eq_none (by rw[sG iR];simpa using hi)]
variable {w:World} {b m:Nat} {Lc:List Value}
theorem Ob (hb:Bl w.heap b Lc) {d:List F2} (hL:d.length*2<=Lc.length) (h:Lc.take (d.length*2)=(d.map CD).flatMap nE):HoldsK vq 2 w b 0 d.toArray:=by
 intro j hj;rw[size_flatK]at hj;have sQ:j<d.length*2:=by simpa using hj
 rw[Ay,Nl,Nat.zero_add,hb.cell,hb.j8];refine⟨?_,rfl⟩;have e:Lc[j]?=(Lc.take (d.length*2))[j]?:=by rw[List.getElem?_take,if_pos sQ]
 rw[e,h,<-wj,Array.getElem?_toList,Array.getElem?_eq_getElem (by rw[size_flatK];exact hj)];rw[<-getElem!_pos (flatK vq 2 d.toArray) j (by rw[size_flatK];exact hj)]
 rfl
theorem WR (hb:Bl w.heap b Lc) (d:List F2) (hL:d.length*2<=Lc.length) (os:Array Obj):
  ∃L',Bl (Go.Proofs.sortWorldK vq 2 w b 0 m d.toArray os).heap b L'/\L'.length=Lc.length/\L'.take (d.length*2)=(d.map CD).flatMap nE:=by
 obtain⟨T,jz⟩:=hb;refine⟨(putCells id 0 (flatK vq 2 d.toArray) Lc.toArray).toList,⟨T,?_⟩,by simp[putCells],?_⟩
 ·have hlt:=(Array.getElem?_eq_some_iff.1 jz).1
  show((w.heap.modify b (onCells _))++os)[b]?=_
  rw[Array.getElem?_append_left (by simpa using hlt),Array.getElem?_modify,if_pos rfl,jz]
  rfl
 ·rw[<-wj];apply List.ext_getElem?;intro i;rw[List.getElem?_take]
  by_cases hi:i<d.length*2
  ·have hs:i<(flatK vq 2 d.toArray).size:=by simpa using hi
   have bO:i<Lc.length:=by omega
   rw[if_pos hi,Array.getElem?_toList,Array.getElem?_toList];simp only[putCells,Array.getElem?_mapIdx,Nat.zero_le,true_and,Nat.zero_add,Nat.sub_zero];rw[List.getElem?_toArray,List.getElem?_eq_getElem bO,Option.map_some,if_pos hs,Array.getElem?_eq_getElem hs,<-getElem!_pos (flatK vq 2 d.toArray) i hs]
   rfl
  ·rw[if_neg hi,List.getElem?_eq_none (by rw[Array.length_toList,size_flatK];simpa using hi)]
theorem R5 {d:Array F2} {os:Array Obj}:af (fun q=>q=b) w.heap (Go.Proofs.sortWorldK vq 2 w b 0 m d os).heap:=by
 refine⟨?_,fun q hq hn=>?_⟩
 ·show w.heap.size<=((w.heap.modify b (onCells _))++os).size
  simp
 ·show((w.heap.modify b (onCells _))++os)[q]?=_
  rw[Array.getElem?_append_left (by simpa using hq),Array.getElem?_modify,if_neg (fun e=>hn e.symm)]
theorem Jv {P:Program} {ρ:Ren} (L:Go.Proofs.SlLaysF0.n6 P ρ) (aE:∀w,(isAgg (ρ.t 24)).run P w=.ok true w) (zE:∀w,(Go.sizeOf (ρ.t 24)).run P w=.ok 2 w) (g:FuncId)
  (eg:∀args w,(callFunc g args).run P w=.ok (.enter g args) w) (hC:Mq P g):mb P (ρ.f 6) g:=by
 intro l v H hv hl hn w hw;subst hw
 by_cases h0:l=[]
 ·subst h0;obtain⟨a,c,rfl,-⟩:=hv.sl.mk;refine(Go.Proofs.AnyF.slices_SortFunc_none L a c _ w).mono ?_;rintro e w' ⟨rfl,rfl⟩;exact⟨_,rfl,⟨rfl,⟨[],.refl _,.nil,hv⟩,af.refl _ _⟩,aW.refl _⟩
 ·obtain⟨b,c,Lc,rfl,h1,h2,hb,h3⟩:=hv.some h0;obtain⟨d,rfl⟩:=Ms l hl;have hlen:(d.map CD).length=d.length:=by simp
  rw[hlen]at h1 h3;have hL:d.length*2<=Lc.length:=Nat.le_trans (Nat.mul_le_mul_right 2 h1) h2;have hcon:=Go.Proofs.AnyQ.slices_SortFunc_total L 2 aE zE vq (fun _=>rfl) (fun x=>Fa _) Ei WO g #[] b 0 c d.toArray w eg (fun _ _ _ _ x y=>hC x y _) (Ob hb hL h3) hb.lt (by simp at hn⊢;omega) WQ;have e1:(d.map CD).length=d.toArray.size:=by simp
  rw[e1];refine hcon.mono ?_;rintro e w' ⟨rfl,m,os,rfl⟩;have hp:=List.mergeSort_perm d.toArray.toList fun x y=>!(Go.Proofs.ltOf Ei) y x;have hs:(d.toArray.toList.mergeSort fun x y=>!(Go.Proofs.ltOf Ei) y x).Pairwise fun x y=>(!(Go.Proofs.ltOf Ei) y x)=true:=by
   refine List.pairwise_mergeSort ?_ ?_ _
   ·intro x y z h1 h2;rw[Mr]at*;simp at*;omega
   ·intro x y;rw[Mr,Mr];simp;omega
  generalize d.toArray.toList.mergeSort (fun x y=>!(Go.Proofs.ltOf Ei) y x)=d' at hp hs⊢;have R1:d'.length=d.length:=hp.length_eq;obtain⟨L',hB,mX,ht⟩:=WR (m:=m) hb d' (by omega) os;refine⟨_,rfl,⟨rfl,⟨d'.map CD,hp.map _,?_,?_⟩,R5⟩,⟨rfl,rfl,rfl⟩⟩
  ·rw[List.pairwise_map];refine hs.imp fun{x y} h=>?_;rw[Mr]at h;simp[Bf,CD]at h⊢;omega
  ·refine dG.bl hB (by simp[R1]) (by simpa using h1) (by omega) ?_;simp only[List.size_toArray];rw[<-R1];exact ht
end Go.Mg

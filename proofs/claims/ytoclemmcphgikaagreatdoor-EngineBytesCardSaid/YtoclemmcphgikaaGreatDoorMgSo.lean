/- Lemmas of ours. No conditions. -/
import Derived.Shelf.SlSortCmp.NoneTotal
import Derived.Test.YtoclemmcphgikaaGreatDoorMgEl
import Derived.Test.YtoclemmcphgikaaGreatDoorMgO3
open Array renaming getElem?_append_left→WN,getElem?_eq_getElem→Xp,getElem?_modify→XH,getElem?_toList→Ym,length_toList→W5
open List renaming ext_getElem?→XM,getElem?_eq_getElem→ZO,getElem?_eq_none→Zz,getElem?_take→YZ
open Nat renaming zero_add→Zt
set_option linter.all false
namespace Go.Mg
open Go Go.RowKit Go.Shelf Go.Sort
def nE (p:Nat×Nat):List Value:=[.int .i64 (p.1:Int),.int .i64 (p.2:Int)]
def mu (p:Nat×Nat):(nE p).length=2:=rfl
def Qa (p:Nat×Nat):∀v∈nE p,v.oneCell'=true:=by
 intro v hv;simp[nE]at hv;rcases hv with rfl|rfl<;>rfl
abbrev F2:=Fin 256×Fin 256
def MY (x:F2):Nat×Nat:=(x.1.val,x.2.val)
def DP (x:F2):List Value:=nE (MY x)
def Pk (x y:F2):Int:=if x.1=y.1 then(x.2.val:Int) -y.2.val else(x.1.val:Int) -y.1.val
def ad9 (P:Program) (g:FuncId):Prop:=∀(x y:F2) (W:World),Calls P g #[.agg (DP x).toArray,.agg (DP y).toArray] W fun e w'=>e=.returned (.int .i64 (Pk x y))/\∃q os',w'=grow (W.drewN q) os'
def lt2 (x y:F2):Go.Proofs.ltOf Pk x y=decide (x.1.val<y.1.val\/(x.1.val=y.1.val/\x.2.val<y.2.val)):=by
 unfold Go.Proofs.ltOf Pk
 by_cases h:x.1=y.1
 ·simp[h];omega
 ·have:x.1.val≠y.1.val:=fun e=>h (Fin.ext e);simp[h,this];omega
def ake:SWO (Go.Proofs.ltOf Pk)where
 irrefl x:=by rw[lt2];simp
 trans x y z h1 h2:=by rw[lt2]at*;simp at*;omega
 ntrans x y z h1 h2:=by rw[lt2]at*;simp at*;omega
def akf (x y:F2) (h1:Go.Proofs.ltOf Pk x y=false) (h2:Go.Proofs.ltOf Pk y x=false):x=y:=by
 rw[lt2]at h1 h2;simp at h1 h2;obtain⟨a,b⟩:=x;obtain⟨c,d⟩:=y;have e1:a.val=c.val:=by simp at h1 h2;omega
 have e2:b.val=d.val:=by simp at h1 h2;omega
 rw[Fin.ext e1,Fin.ext e2]
def rQ (P:Program) (k g:FuncId):Prop:=∀(l:List (Nat×Nat)) (v:Value) (H:Hp),cr nE 2 H v l->(∀p∈l,p.1<256/\p.2<256)->l.length<1000000→
 an P k #[v,.func (.func g) #[] #[]] H fun r H'=>r=.tuple #[]/\(∃l':List (Nat×Nat),l'.Perm l/\l'.Pairwise Lq/\cr nE 2 H' v l')/\af (ay v) H H'
def aea:∀(l:List (Nat×Nat)),(∀p∈l,p.1<256/\p.2<256)->∃d:List F2,d.map MY=l
 |[],_=>⟨[],rfl⟩
 |p::l,h=>by
  obtain⟨d,hd⟩:=aea l fun q hq=>h q (by simp[hq]);obtain⟨h1,h2⟩:=h p (by simp);exact⟨(⟨p.1,h1⟩,⟨p.2,h2⟩)::d,by simp[hd,MY]⟩
def EA (d:List F2):(flatK DP 2 d.toArray).toList=(d.map MY).flatMap nE:=by
 apply XM;intro i;have e:∀i,i<d.length*2->((d.map MY).flatMap nE)[i]?=(DP (d.toArray[i/2]!))[i % 2]?:=by
  intro i hi;have hd:i/2<d.length:=by omega
  have:=Es mu (d.map MY) (i/2) (MY d[i/2]) (by simp[hd]);have h2:=congrArg (fun l=>l[i % 2]?) this;simp only[YZ,List.getElem?_drop]at h2;rw[if_pos (by omega),show i/2*2+i % 2=i by omega]at h2;rw[h2];simp[DP,hd]
 by_cases hi:i<d.length*2
 ·rw[e i hi];have hs:i<(flatK DP 2 d.toArray).size:=by simpa using hi
  rw[Ym,Xp hs,<-getElem!_pos (flatK DP 2 d.toArray) i hs,get_flatK DP 2 d.toArray i (by simpa using hi)];have hm:i % 2<(DP (d.toArray[i/2]!)).length:=by show i % 2<2;omega
  rw[ZO hm,getElem!_pos (DP (d.toArray[i/2]!)) (i % 2) hm]
 ·rw[Zz (by rw[W5,size_flatK];simpa using hi),Zz (by rw[vy mu];simpa using hi)]
variable {w:World} {b m:Nat} {Lc:List Value}
def afr (hb:Bl w.heap b Lc) {d:List F2} (hL:d.length*2<=Lc.length) (h:Lc.take (d.length*2)=(d.map MY).flatMap nE):HoldsK DP 2 w b 0 d.toArray:=by
 intro j hj;rw[size_flatK]at hj;have F0:j<d.length*2:=by simpa using hj
 rw[KJ,aeT,Zt,hb.cell,hb.tL];refine⟨?_,rfl⟩;have e:Lc[j]?=(Lc.take (d.length*2))[j]?:=by rw[YZ,if_pos F0]
 rw[e,h,<-EA,Ym,Xp (by rw[size_flatK];exact hj)];rw[<-getElem!_pos (flatK DP 2 d.toArray) j (by rw[size_flatK];exact hj)]
 rfl
def akg (hb:Bl w.heap b Lc) (d:List F2) (hL:d.length*2<=Lc.length) (os:Array Obj):
  ∃L',Bl (Go.Proofs.sortWorldK DP 2 w b 0 m d.toArray os).heap b L'/\L'.length=Lc.length/\L'.take (d.length*2)=(d.map MY).flatMap nE:=by
 obtain⟨T,rB⟩:=hb;refine⟨(putCells id 0 (flatK DP 2 d.toArray) Lc.toArray).toList,⟨T,?_⟩,by simp[putCells],?_⟩
 ·have hlt:=(Array.getElem?_eq_some_iff.1 rB).1
  show((w.heap.modify b (onCells _))++os)[b]?=_
  rw[WN (by simpa using hlt),XH,if_pos rfl,rB]
  rfl
 ·rw[<-EA];apply XM;intro i;rw[YZ]
  by_cases hi:i<d.length*2
  ·have hs:i<(flatK DP 2 d.toArray).size:=by simpa using hi
   have cI:i<Lc.length:=by omega
   rw[if_pos hi,Ym,Ym];simp only[putCells,Array.getElem?_mapIdx,Nat.zero_le,true_and,Zt,Nat.sub_zero];rw[List.getElem?_toArray,ZO cI,Option.map_some,if_pos hs,Xp hs,<-getElem!_pos (flatK DP 2 d.toArray) i hs]
   rfl
  ·rw[if_neg hi,Zz (by rw[W5,size_flatK];simpa using hi)]
def Qc {d:Array F2} {os:Array Obj}:af (fun q=>q=b) w.heap (Go.Proofs.sortWorldK DP 2 w b 0 m d os).heap:=by
 refine⟨?_,fun q hq hn=>?_⟩
 ·show w.heap.size<=((w.heap.modify b (onCells _))++os).size
  simp
 ·show((w.heap.modify b (onCells _))++os)[q]?=_
  rw[WN (by simpa using hq),XH,if_neg (fun e=>hn e.symm)]
def aaw {P:Program} {ρ:Ren} (L:Go.Proofs.SlLaysF0.n6 P ρ) (aE:∀w,(isAgg (ρ.t 24)).run P w=.ok true w) (zE:∀w,(Go.sizeOf (ρ.t 24)).run P w=.ok 2 w) (g:FuncId)
  (eg:∀args w,(callFunc g args).run P w=.ok (.enter g args) w) (hC:ad9 P g):rQ P (ρ.f 6) g:=by
 intro l v H hv hl hn w hw;subst hw
 by_cases h0:l=[]
 ·subst h0;obtain⟨a,c,rfl,-⟩:=hv.sl.mk;refine(Go.Proofs.AnyF.slices_SortFunc_none L a c _ w).mono ?_;rintro e w' ⟨rfl,rfl⟩;exact⟨_,rfl,⟨rfl,⟨[],.refl _,.nil,hv⟩,af.refl _ _⟩,bI.refl _⟩
 ·obtain⟨b,c,Lc,rfl,h1,h2,hb,h3⟩:=hv.some h0;obtain⟨d,rfl⟩:=aea l hl;have hlen:(d.map MY).length=d.length:=by simp
  rw[hlen]at h1 h3;have hL:d.length*2<=Lc.length:=Nat.le_trans (Nat.mul_le_mul_right 2 h1) h2;have hcon:=Go.Proofs.AnyQ.slices_SortFunc_total L 2 aE zE DP (fun _=>rfl) (fun x=>Qa _) Pk ake g #[] b 0 c d.toArray w eg (fun _ _ _ _ x y=>hC x y _) (afr hb hL h3) hb.lt (by simp at hn⊢;omega) akf;have e1:(d.map MY).length=d.toArray.size:=by simp
  rw[e1];refine hcon.mono ?_;rintro e w' ⟨rfl,m,os,rfl⟩;have hp:=List.mergeSort_perm d.toArray.toList fun x y=>!(Go.Proofs.ltOf Pk) y x;have hs:(d.toArray.toList.mergeSort fun x y=>!(Go.Proofs.ltOf Pk) y x).Pairwise fun x y=>(!(Go.Proofs.ltOf Pk) y x)=true:=by
   refine List.pairwise_mergeSort ?_ ?_ _
   ·intro x y z h1 h2;rw[lt2]at*;simp at*;omega
   ·intro x y;rw[lt2,lt2];simp;omega
  generalize d.toArray.toList.mergeSort (fun x y=>!(Go.Proofs.ltOf Pk) y x)=d' at hp hs⊢;have hl':d'.length=d.length:=hp.length_eq;obtain⟨L',hB,tN,ht⟩:=akg (m:=m) hb d' (by omega) os;refine⟨_,rfl,⟨rfl,⟨d'.map MY,hp.map _,?_,?_⟩,Qc⟩,⟨rfl,rfl,rfl⟩⟩
  ·rw[List.pairwise_map];refine hs.imp fun{x y} h=>?_;rw[lt2]at h;simp[Lq,MY]at h⊢;omega
  ·refine cr.bl hB (by simp[hl']) (by simpa using h1) (by omega) ?_;simp only[List.size_toArray];rw[<-hl'];exact ht
end Go.Mg

/- Lemmas of ours. No conditions. -/
import Derived.Test.YtkfikjdbdfekfabDoorMgBytes
namespace Go.Mg
open Go Go.RowKit
def ba (H:Hp) (v:Value) (l:List Value):Prop:=
 (v=.slice none 0 0/\l=[])\/∃b c L,v=.slice (some ⟨b,0,none⟩) l.length c/\l.length<=c/\c<=L.length/\Bl H b L/\L.take l.length=l
def bc:Value->Nat->Prop
 |.slice (some p) _ _,k=>k=p.block
 |_,_=>False
variable {H:Hp} {v s x:Value} {l m:List Value} {k b n c bytes:Nat} {T:TypeId} {z:Array Value} {K:Value->Hp->Prop}
theorem ba.sl (h:ba H v l):aC H v l:=by
 rcases h with⟨rfl,rfl⟩|⟨b,c,L,rfl,h1,h2,hb,h3⟩
 ·exact aC.nil _ _ _
 ·have:=aC.bl hb 0 l.length c h1 (by omega);rw[List.drop_zero,h3]at this;exact this
theorem ba.cQ (h:ba H v l) (hk:cQ v k):bc v k:=by
 rcases h with⟨rfl,rfl⟩|⟨b,c,L,rfl,h1,h2,hb,h3⟩
 ·exact hk.elim
 ·exact hk.1
theorem ba.nS (h:ba H v l) (hk:bc v k):k<H.size:=by
 rcases h with⟨rfl,rfl⟩|⟨b,c,L,rfl,h1,h2,hb,h3⟩
 ·exact hk.elim
 ·cases hk;exact hb.lt
theorem ba.ax {W:Nat->Prop} {H':Hp} (h:ba H v l) (hk:ae W H H') (hw:∀k,bc v k->¬W k):ba H' v l:=by
 rcases h with h|⟨b,c,L,rfl,h1,h2,hb,h3⟩
 ·exact .inl h
 ·exact .inr ⟨b,c,L,rfl,h1,h2,hk.bl hb (hw b rfl),h3⟩
theorem ba.nil (H:Hp):ba H (.slice none 0 0) []:=.inl ⟨rfl,rfl⟩
theorem ba.new (h:Bl H b l) (hn:n=l.length) (hc:n=c):ba H (.slice (some ⟨b,0,none⟩) n c) l:=by
 subst hc;subst hn;exact .inr ⟨b,_,l,rfl,Nat.le_refl _,Nat.le_refl _,h,List.take_length⟩
theorem ba.bl {L:List Value} (h:Bl H b L) (hn:n=l.length) (h1:n<=c) (h2:c<=L.length) (h3:L.take n=l):ba H (.slice (some ⟨b,0,none⟩) n c) l:=by
 subst hn;exact .inr ⟨b,c,L,rfl,h1,h2,h,h3⟩
theorem iM (l m r:List Value):List.take (l.length+m.length) (l++m++r)=l++m:=by
 rw[<-List.length_append];exact List.take_left' rfl
theorem oj {str:Bool} (hs:ba H s l) (hx0:dN str x) (hxl:aF x=m.length) (hx:bD H x m.length=some m.toArray)
  (hm:iX m.toArray) (hz:z.size=1) (h1:l.length+m.length<=maxLen) (h2:(l.length+m.length)*bytes<=140737488355328)
  (hK:∀v' H',ba H' v' (l++m)->ae (bc s) H H'->(∀k,bc v' k->bc s k\/H.size<=k)->K v' H'):kq str T 1 bytes z s x H K:=by
 have hsl:=hs.sl;have hlen:=hsl.len;refine⟨⟨hsl.aT,hx0,by rw[hlen,hxl];exact h1,by rw[hlen,hxl];exact h2⟩,m.toArray,by rw[Nat.mul_one,hxl];exact hx,?_⟩;rw[hlen,hxl,Nat.mul_one];rcases hs with⟨rfl,rfl⟩|⟨b,c,L,rfl,g1,g2,hb,g3⟩
 ·refine⟨fun hle=>?_,fun _=>⟨#[],rfl,fun c hc=>?_⟩⟩
  ·have:m=[]:=by
    have:([]:List Value).length+m.length<=0:=hle;apply List.eq_nil_of_length_eq_zero;simpa using this
   subst this;exact⟨trivial,hK _ _ (ba.nil _) (ae.refl _ _) (fun k h=>.inl h)⟩
  ·have hB:=Bl.eL H (#[]++m.toArray++rep z ((c -(([]:List Value).length+m.length))*z.size)) T;refine hK _ _ (ba.bl hB (by simp) (by simpa using hc) ?_ ?_) ((ae.refl _ _).push _) (fun k h=>.inr (Nat.le_of_eq h.symm))
   ·simp[rep,hz]at hc⊢;omega
   ·simp
 ·refine⟨fun hle=>?_,fun hlt=>⟨_,hsl.bD (Nat.le_refl _),fun c' hc=>?_⟩⟩
  ·have hle:l.length+m.length<=c:=hle;refine⟨hb.b6 _ _ _ hm (by simp;omega),?_⟩;have hB:=hb.put 0 l.length m.toArray;refine hK _ _ (ba.bl hB (by simp) hle ?_ ?_) ((ae.refl _ _).put rfl _ _ (.inl rfl)) (fun k h=>.inl h)
   ·rw[nQ (by simp;omega)];exact g2
   ·unfold fD;rw[Nat.zero_add,g3];exact iM _ _ _
  ·rw[List.take_length];have hB:=Bl.eL H (l.toArray++m.toArray++rep z ((c' -(l.length+m.length))*z.size)) T;refine hK _ _ (ba.bl hB (by simp) hc ?_ ?_) ((ae.refl _ _).push _) (fun k h=>.inr (Nat.le_of_eq h.symm))
   ·simp[rep,hz];omega
   ·rw[Array.toList_append,Array.toList_append];exact iM _ _ _
theorem p9 (hs:ba H s l) (hx:aC H x m)
  (hm:iX m.toArray) (hz:z.size=1) (h1:l.length+m.length<=maxLen) (h2:(l.length+m.length)*bytes<=140737488355328)
  (hK:∀v' H',ba H' v' (l++m)->ae (bc s) H H'->(∀k,bc v' k->bc s k\/H.size<=k)->K v' H'):kq false T 1 bytes z s x H K:=
 oj hs hx.aT hx.aF (by have:=hx.bD (Nat.le_refl m.length);rwa [List.take_length]at this) hm hz h1 h2 hK
theorem fV {l m:List UInt8} (hs:ba H s (w8 l)) (hx:aC H x (w8 m))
  (hz:z.size=1) (h1:l.length+m.length<=1000000000)
  (hK:∀v' H',ba H' v' (w8 (l++m))->ae (bc s) H H'->(∀k,bc v' k->bc s k\/H.size<=k)->K v' H'):kq false T 1 1 z s x H K:=
 p9 hs hx (bS _) hz (by rw[af,af];unfold maxLen;omega) (by rw[af,af];omega) (by rw[<-mo];exact hK)
end Go.Mg
namespace Go.Mg
variable {H:Hp}
theorem ff {T:TypeId} {z:Array Value} {s x:Value} {K:Value->Hp->Prop} {l m:List UInt8} (n:Nat) (hs:ba H s (w8 l)) (hn:∀k,bc s k->n<=k) (hH:n<=H.size) (hx:aC H x (w8 m))
  (hz:z.size=1) (h1:l.length+m.length<=1000000000)
  (hK:∀v' H',ba H' v' (w8 (l++m))->(∀k,bc v' k->n<=k)->ae (fun k=>n<=k) H H'->K v' H'):kq false T 1 1 z s x H K:=
 fV hs hx hz h1 fun v' H' h1 h2 h3=>hK v' H' h1 (fun k hk=>by rcases h3 k hk with h|h;exact hn k h;omega) (h2.mono fun k _ hk=>hn k hk)
theorem ae.mF {n:Nat} {H0 H':Hp} (h:ae (fun _=>False) H0 H) (k:ae (fun k=>n<=k) H H') (hn:H0.size<=n):ae (fun _=>False) H0 H':=
 h.trans' k (fun i hi e=>by omega)
end Go.Mg
namespace Go.Mg
theorem ba.some {H:Hp} {v:Value} {l:List Value} (h:ba H v l) (hl:l≠[]):∃b c L,v=.slice (some ⟨b,0,none⟩) l.length c/\l.length<=c/\c<=L.length/\Bl H b L/\L.take l.length=l/\∀i,i<l.length->L[i]?=l[i]?:=by
 rcases h with⟨_,rfl⟩|⟨b,c,L,h1,h2,h3,h4,h5⟩
 ·exact(hl rfl).elim
 ·refine⟨b,c,L,h1,h2,h3,h4,h5,fun i hi=>?_⟩
  conv=>rhs;rw[<-h5]
  rw[List.getElem?_take,if_pos hi]
end Go.Mg
namespace Go.Mg
end Go.Mg
namespace Go.Mg
variable {H:Hp} {l:List Value}
theorem aC.cells {v:Value} (h:aC H v l) (hl:l≠[]):∃b o c,v=.slice (Option.some ⟨b,o,none⟩) l.length c/\l.length<=c/\∀i,i<l.length->Mg.cell H ⟨b,o+i,none⟩=l[i]?:=by
 rcases h with⟨_,_,_,rfl⟩|⟨b,o,c,_,h1,h2,C,T,z,h3,h4,h5⟩
 ·exact(hl rfl).elim
 ·refine⟨b,o,c,h1,h2,fun i hi=>?_⟩
  conv=>rhs;rw[<-h5]
  rw[List.getElem?_take,if_pos hi,List.getElem?_drop];simp[Mg.cell,h3]
theorem aC.j7 {b o n c:Nat} (h:aC H (.slice (Option.some ⟨b,o,none⟩) n c) l) {i:Nat} (hi:i<l.length):Mg.cell H ⟨b,o+i,none⟩=l[i]?:=by
 obtain⟨b',o',c',e,-,hc⟩:=h.cells (by intro e;rw[e]at hi;simp at hi)
 cases e
 exact hc i hi
def vA (H:Hp) (v:Value) (ls:List (List UInt8)):Prop:=∃vs,aC H v vs/\vs.length=ls.length/\∀i,i<ls.length->aC H (vs.getD i undef) (w8 (ls.getD i []))
end Go.Mg
namespace Go.Mg
theorem qa {H:Hp} {b c:Nat} {L l:List Value} (hB:Bl H b L) (h1:l.length<=c) (h2:c<=L.length) (h3:L.take l.length=l) (i:Nat) (v:Value) (_:i<l.length):
  ba (al H ⟨b,i,none⟩ v) (.slice (some ⟨b,0,none⟩) l.length c) (l.set i v):=
 ba.bl (hB.al i v) (by simp) h1 (by simpa using h2) (by rw[List.take_set,h3])
end Go.Mg
namespace Go.Mg
theorem ba.shape {H:Hp} {v:Value} {l:List Value} (h:ba H v l):∃a n c,v=.slice a n c:=by
 rcases h with⟨rfl,_⟩|⟨b,c,L,rfl,_⟩<;>exact⟨_,_,_,rfl⟩
end Go.Mg
namespace Go.Mg
end Go.Mg

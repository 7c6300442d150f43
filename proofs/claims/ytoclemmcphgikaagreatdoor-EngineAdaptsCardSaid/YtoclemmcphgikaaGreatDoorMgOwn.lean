/- slices that a function owns, and append. -/
import Derived.Test.YtoclemmcphgikaaGreatDoorMgBytes
namespace Go.Mg
open Go Go.RowKit
def OwS (H:Hp) (v:Value) (l:List Value):Prop:=
 (v=.slice none 0 0/\l=[])\/∃b c L,v=.slice (some ⟨b,0,none⟩) l.length c/\l.length<=c/\c<=L.length/\Bl H b L/\L.take l.length=l
def ownB:Value->Nat->Prop
 |.slice (some p) _ _,k=>k=p.block
 |_,_=>False
variable {H:Hp} {v s x:Value} {l m:List Value} {k b n c bytes:Nat} {T:TypeId} {z:Array Value} {K:Value->Hp->Prop}
theorem OwS.sl (h:OwS H v l):SlR H v l:=by
 rcases h with⟨rfl,rfl⟩|⟨b,c,L,rfl,h1,h2,hb,h3⟩
 ·exact SlR.nil _ _ _
 ·have:=SlR.bl hb 0 l.length c h1 (by omega)
  rw[List.drop_zero,h3]at this
  exact this
theorem OwS.slB (h:OwS H v l) (hk:slB v k):ownB v k:=by
 rcases h with⟨rfl,rfl⟩|⟨b,c,L,rfl,h1,h2,hb,h3⟩
 ·exact hk.elim
 ·exact hk.1
theorem OwS.old (h:OwS H v l) (hk:ownB v k):k<H.size:=by
 rcases h with⟨rfl,rfl⟩|⟨b,c,L,rfl,h1,h2,hb,h3⟩
 ·exact hk.elim
 ·cases hk;exact hb.lt
theorem OwS.keep {W:Nat->Prop} {H':Hp} (h:OwS H v l) (hk:Keep W H H') (hw:∀k,ownB v k->¬W k):OwS H' v l:=by
 rcases h with h|⟨b,c,L,rfl,h1,h2,hb,h3⟩
 ·exact .inl h
 ·exact .inr ⟨b,c,L,rfl,h1,h2,hk.bl hb (hw b rfl),h3⟩
theorem OwS.nil (H:Hp):OwS H (.slice none 0 0) []:=.inl ⟨rfl,rfl⟩
theorem OwS.new (h:Bl H b l) (hn:n=l.length) (hc:n=c):OwS H (.slice (some ⟨b,0,none⟩) n c) l:=by
 subst hc;subst hn
 exact .inr ⟨b,_,l,rfl,Nat.le_refl _,Nat.le_refl _,h,List.take_length⟩
theorem OwS.bl {L:List Value} (h:Bl H b L) (hn:n=l.length) (h1:n<=c) (h2:c<=L.length) (h3:L.take n=l):OwS H (.slice (some ⟨b,0,none⟩) n c) l:=by
 subst hn;exact .inr ⟨b,c,L,rfl,h1,h2,h,h3⟩
theorem take_pre (l m r:List Value):List.take (l.length+m.length) (l++m++r)=l++m:=by
 rw[<-List.length_append];exact List.take_left' rfl
theorem app_own {str:Bool} (hs:OwS H s l) (hx0:srcOk str x) (hxl:lenS x=m.length) (hx:srcN H x m.length=some m.toArray)
  (hm:all1 m.toArray) (hz:z.size=1) (h1:l.length+m.length<=maxLen) (h2:(l.length+m.length)*bytes<=140737488355328)
  (hK:∀v' H',OwS H' v' (l++m)->Keep (ownB s) H H'->(∀k,ownB v' k->ownB s k\/H.size<=k)->K v' H'):AppC str T 1 bytes z s x H K:=by
 have hsl:=hs.sl
 have hlen:=hsl.len
 refine⟨⟨hsl.isSl,hx0,by rw[hlen,hxl];exact h1,by rw[hlen,hxl];exact h2⟩,m.toArray,by rw[Nat.mul_one,hxl];exact hx,?_⟩
 rw[hlen,hxl,Nat.mul_one]
 rcases hs with⟨rfl,rfl⟩|⟨b,c,L,rfl,g1,g2,hb,g3⟩
 ·refine⟨fun hle=>?_,fun _=>⟨#[],rfl,fun c hc=>?_⟩⟩
  ·have:m=[]:=by
    have:([]:List Value).length+m.length<=0:=hle
    apply List.eq_nil_of_length_eq_zero;simpa using this
   subst this
   exact⟨trivial,hK _ _ (OwS.nil _) (Keep.refl _ _) (fun k h=>.inl h)⟩
  ·have hB:=Bl.new' H (#[]++m.toArray++rep z ((c -(([]:List Value).length+m.length))*z.size)) T
   refine hK _ _ (OwS.bl hB (by simp) (by simpa using hc) ?_ ?_) ((Keep.refl _ _).push _) (fun k h=>.inr (Nat.le_of_eq h.symm))
   ·simp[rep,hz]at hc⊢;omega
   ·simp
 ·refine⟨fun hle=>?_,fun hlt=>⟨_,hsl.srcN (Nat.le_refl _),fun c' hc=>?_⟩⟩
  ·have hle:l.length+m.length<=c:=hle
   refine⟨hb.okPut _ _ _ hm (by simp;omega),?_⟩
   have hB:=hb.put 0 l.length m.toArray
   refine hK _ _ (OwS.bl hB (by simp) hle ?_ ?_) ((Keep.refl _ _).put rfl _ _ (.inl rfl)) (fun k h=>.inl h)
   ·rw[wrL_len (by simp;omega)];exact g2
   ·unfold wrL
    rw[Nat.zero_add,g3]
    exact take_pre _ _ _
  ·rw[List.take_length]
   have hB:=Bl.new' H (l.toArray++m.toArray++rep z ((c' -(l.length+m.length))*z.size)) T
   refine hK _ _ (OwS.bl hB (by simp) hc ?_ ?_) ((Keep.refl _ _).push _) (fun k h=>.inr (Nat.le_of_eq h.symm))
   ·simp[rep,hz];omega
   ·rw[Array.toList_append,Array.toList_append];exact take_pre _ _ _
theorem app_sl (hs:OwS H s l) (hx:SlR H x m)
  (hm:all1 m.toArray) (hz:z.size=1) (h1:l.length+m.length<=maxLen) (h2:(l.length+m.length)*bytes<=140737488355328)
  (hK:∀v' H',OwS H' v' (l++m)->Keep (ownB s) H H'->(∀k,ownB v' k->ownB s k\/H.size<=k)->K v' H'):AppC false T 1 bytes z s x H K:=
 app_own hs hx.isSl hx.lenS (by have:=hx.srcN (Nat.le_refl m.length);rwa [List.take_length]at this) hm hz h1 h2 hK
end Go.Mg
namespace Go.Mg
variable {n:Nat} {H H':Hp}
theorem Keep.at_old {H0:Hp} (h:Keep (fun _=>False) H0 H) (k:Keep (fun k=>n<=k) H H') (hn:H0.size<=n):Keep (fun _=>False) H0 H':=
 h.trans' k (fun i hi e=>by omega)
theorem Keep.weak (h:Keep (fun _=>False) H H'):Keep (fun k=>n<=k) H H':=h.mono fun _ _ h=>h.elim
end Go.Mg
namespace Go.Mg
theorem OwS.some {H:Hp} {v:Value} {l:List Value} (h:OwS H v l) (hl:l≠[]):∃b c L,v=.slice (some ⟨b,0,none⟩) l.length c/\l.length<=c/\c<=L.length/\Bl H b L/\L.take l.length=l/\∀i,i<l.length->L[i]?=l[i]?:=by
 rcases h with⟨_,rfl⟩|⟨b,c,L,h1,h2,h3,h4,h5⟩
 ·exact(hl rfl).elim
 ·refine⟨b,c,L,h1,h2,h3,h4,h5,fun i hi=>?_⟩
  conv=>rhs;rw[<-h5]
  rw[List.getElem?_take,if_pos hi]
end Go.Mg
namespace Go.Mg
theorem app_slN {T:TypeId} {bytes:Nat} {z:Array Value} {s x:Value} {H:Hp} {K:Value->Hp->Prop} {l m:List Value} (n:Nat) (hs:OwS H s l) (hn:∀k,ownB s k->n<=k) (hH:n<=H.size) (hx:SlR H x m)
  (hm:all1 m.toArray) (hz:z.size=1) (hb:bytes<=64) (h1:l.length+m.length<=1000000000)
  (hK:∀v' H',OwS H' v' (l++m)->(∀k,ownB v' k->n<=k)->Keep (fun k=>n<=k) H H'->K v' H'):AppC false T 1 bytes z s x H K:=
 app_sl hs hx hm hz (by unfold maxLen;omega) (Nat.le_trans (Nat.mul_le_mul h1 hb) (by omega)) fun v' H' h1 h2 h3=>hK v' H' h1 (fun k hk=>by rcases h3 k hk with h|h;exact hn k h;omega) (h2.mono fun k _ hk=>hn k hk)
end Go.Mg
namespace Go.Mg
variable {H:Hp} {l:List Value}
theorem SlR.cells {v:Value} (h:SlR H v l) (hl:l≠[]):∃b o c,v=.slice (Option.some ⟨b,o,none⟩) l.length c/\l.length<=c/\∀i,i<l.length->Mg.cell H ⟨b,o+i,none⟩=l[i]?:=by
 rcases h with⟨_,_,_,rfl⟩|⟨b,o,c,_,h1,h2,C,T,z,h3,h4,h5⟩
 ·exact(hl rfl).elim
 ·refine⟨b,o,c,h1,h2,fun i hi=>?_⟩
  conv=>rhs;rw[<-h5]
  rw[List.getElem?_take,if_pos hi,List.getElem?_drop]
  simp[Mg.cell,h3]
theorem SlR.cell_at {b o n c:Nat} (h:SlR H (.slice (Option.some ⟨b,o,none⟩) n c) l) {i:Nat} (hi:i<l.length):Mg.cell H ⟨b,o+i,none⟩=l[i]?:=by
 obtain⟨b',o',c',e,-,hc⟩:=h.cells (by intro e;rw[e]at hi;simp at hi)
 cases e
 exact hc i hi
theorem choose_list {α:Type} (p:Nat->α->Prop) (d:α):∀n,(∀i,i<n->∃x,p i x)->∃xs:List α,xs.length=n/\∀i,i<n->p i (xs.getD i d)
 |0,_=>⟨[],rfl,fun i h=>by omega⟩
 |n+1,h=>by
  obtain⟨xs,h1,h2⟩:=choose_list p d n (fun i hi=>h i (by omega))
  obtain⟨x,hx⟩:=h n (by omega)
  refine⟨xs++[x],by simp[h1],fun i hi=>?_⟩
  by_cases e:i<n
  ·rw[List.getD_eq_getElem?_getD,List.getElem?_append_left (by omega),<-List.getD_eq_getElem?_getD];exact h2 i e
  ·have:i=n:=by omega
   subst this
   rw[List.getD_eq_getElem?_getD,List.getElem?_append_right (by omega),h1]
   simpa using hx
end Go.Mg
namespace Go.Mg
theorem setOwS {H:Hp} {b c:Nat} {L l:List Value} (hB:Bl H b L) (h1:l.length<=c) (h2:c<=L.length) (h3:L.take l.length=l) (i:Nat) (v:Value) (_:i<l.length):
  OwS (setc H ⟨b,i,none⟩ v) (.slice (some ⟨b,0,none⟩) l.length c) (l.set i v):=
 OwS.bl (hB.setc i v) (by simp) h1 (by simpa using h2) (by rw[List.take_set,h3])
end Go.Mg
namespace Go.Mg
theorem OwS.shape {H:Hp} {v:Value} {l:List Value} (h:OwS H v l):∃a n c,v=.slice a n c:=by
 rcases h with⟨rfl,_⟩|⟨b,c,L,rfl,_⟩<;>exact⟨_,_,_,rfl⟩
end Go.Mg
namespace Go.Mg
def iL (l:List Int):List Value:=l.map (Value.int .i64)
theorem iL_len (l:List Int):(iL l).length=l.length:=by simp[iL]
theorem iL_get (l:List Int) (i:Nat) (h:i<l.length):(iL l)[i]?=some (.int .i64 (l.getD i 0)):=by simp[iL,h]
theorem iL_app (a b:List Int):iL (a++b)=iL a++iL b:=by simp[iL]
theorem iL_set (l:List Int) (i:Nat) (x:Int):(iL l).set i (.int .i64 x)=iL (l.set i x):=by simp[iL,List.map_set]
theorem iL_all1 (l:List Int):all1 (iL l).toArray:=by
 intro x hx
 simp[iL]at hx
 obtain⟨y,_,rfl⟩:=hx;rfl
theorem iL_rep (n:Nat) (x:Int):List.replicate n (Value.int .i64 x)=iL (List.replicate n x):=by simp[iL]
end Go.Mg

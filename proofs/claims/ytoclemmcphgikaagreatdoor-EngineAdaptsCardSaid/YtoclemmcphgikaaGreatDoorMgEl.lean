/- slices whose elements have k cells each: what they show, what a function owns, append. -/
import Derived.Test.YtoclemmcphgikaaGreatDoorMgOwn
namespace Go.Mg
open Go Go.RowKit
set_option linter.all false
section
variable {α:Type} {enc:α->List Value} {k:Nat}
theorem fl_len (hk:∀x,(enc x).length=k) (l:List α):(l.flatMap enc).length=l.length*k:=by
 induction l with
 |nil=>simp
 |cons a l ih=>simp[ih,hk,Nat.succ_mul,Nat.add_comm]
theorem fl_at (hk:∀x,(enc x).length=k) (l:List α) (i:Nat) (x:α) (h:l[i]?=some x):((l.flatMap enc).drop (i*k)).take k=enc x:=by
 induction l generalizing i with
 |nil=>simp at h
 |cons a l ih=>
  cases i with
  |zero=>
   simp at h;subst h
   rw[Nat.zero_mul,List.drop_zero,List.flatMap_cons]
   exact List.take_left' (hk _)
  |succ i=>
   simp at h
   rw[List.flatMap_cons,Nat.succ_mul,Nat.add_comm,<-List.drop_drop,List.drop_left' (hk _)]
   exact ih i h
theorem fl_take (hk:∀x,(enc x).length=k) (l:List α) (i:Nat) (h:i<=l.length):(l.flatMap enc).take (i*k)=(l.take i).flatMap enc:=by
 induction l generalizing i with
 |nil=>simp
 |cons a l ih=>
  cases i with
  |zero=>simp
  |succ i=>
   rw[List.flatMap_cons,List.take_succ_cons,List.flatMap_cons,Nat.succ_mul,Nat.add_comm,List.take_append,hk,List.take_of_length_le (by rw[hk];omega),Nat.add_sub_cancel_left,ih i (by simpa using h)]
theorem fl_drop (hk:∀x,(enc x).length=k) (l:List α) (i:Nat) (h:i<=l.length):(l.flatMap enc).drop (i*k)=(l.drop i).flatMap enc:=by
 induction l generalizing i with
 |nil=>simp
 |cons a l ih=>
  cases i with
  |zero=>simp
  |succ i=>
   rw[List.flatMap_cons,List.drop_succ_cons,Nat.succ_mul,Nat.add_comm,<-List.drop_drop,List.drop_left' (hk _),ih i (by simpa using h)]
theorem fl_all1 (h1:∀x,∀v∈enc x,v.oneCell'=true) (l:List α):all1 (l.flatMap enc).toArray:=by
 intro x hx
 simp only[List.mem_flatMap]at hx
 obtain⟨a,_,hx⟩:=hx
 exact h1 a x hx
def SlE (enc:α->List Value) (k:Nat) (H:Hp) (v:Value) (l:List α):Prop:=
 (∃a c,v=.slice a 0 c/\l=[])\/∃b o c,l≠[]/\v=.slice (some ⟨b,o,none⟩) l.length c/\l.length<=c/\∃C T z,H[b]?=some (.cells C T z)/\o+l.length*k<=C.size/\(C.toList.drop o).take (l.length*k)=l.flatMap enc
theorem SlE.nil (H:Hp) (a:Option Addr) (c:Nat):SlE enc k H (.slice a 0 c) []:=.inl ⟨a,c,rfl,rfl⟩
theorem SlE.at_ {H:Hp} {b o c:Nat} {l:List α} {C:Array Value} {T:TypeId} {z:Nat×Nat} (hc:l.length<=c) (h:H[b]?=some (.cells C T z)) (h1:o+l.length*k<=C.size) (h2:(C.toList.drop o).take (l.length*k)=l.flatMap enc):
  SlE enc k H (.slice (some ⟨b,o,none⟩) l.length c) l:=by
 by_cases hl:l=[]
 ·subst hl;exact SlE.nil _ _ _
 ·exact .inr ⟨b,o,c,hl,rfl,hc,C,T,z,h,h1,h2⟩
theorem SlE.congr {H H':Hp} {v:Value} {l:List α} (h:SlE enc k H v l) (hk:∀q,slB v q->H'[q]?=H[q]?):SlE enc k H' v l:=by
 rcases h with h|⟨b,o,c,hl,rfl,h0,C,T,z,h1,h2,h3⟩
 ·exact .inl h
 ·exact .inr ⟨b,o,c,hl,rfl,h0,C,T,z,by rw[hk b ⟨rfl,by simpa using hl⟩];exact h1,h2,h3⟩
theorem SlE.old {H:Hp} {v:Value} {l:List α} (h:SlE enc k H v l) {q:Nat} (hq:slB v q):q<H.size:=by
 rcases h with⟨a,c,rfl,_⟩|⟨b,o,c,_,rfl,h0,C,T,z,h1,h2,h3⟩
 ·cases a<;>simp[slB]at hq
 ·obtain⟨rfl,_⟩:=hq;exact(Array.getElem?_eq_some_iff.1 h1).1
theorem SlE.keep {W:Nat->Prop} {H H':Hp} {v:Value} {l:List α} (h:SlE enc k H v l) (hk:Keep W H H') (hw:∀q,slB v q->¬W q):SlE enc k H' v l:=
 h.congr fun q hb=>hk.at_ q (h.old hb) (hw q hb)
theorem SlE.keep0 {H H':Hp} {v:Value} {l:List α} (h:SlE enc k H v l) (hk:Keep (fun _=>False) H H'):SlE enc k H' v l:=h.keep hk fun _ _ h=>h
theorem SlE.isSl {H:Hp} {v:Value} {l:List α} (h:SlE enc k H v l):Mg.isSl v:=by
 rcases h with⟨a,c,rfl,_⟩|⟨b,o,c,_,rfl,_⟩<;>trivial
theorem SlE.len {H:Hp} {v:Value} {l:List α} (h:SlE enc k H v l):lenV v=l.length:=by
 rcases h with⟨a,c,rfl,rfl⟩|⟨b,o,c,_,rfl,_⟩<;>rfl
theorem SlE.lenS {H:Hp} {v:Value} {l:List α} (h:SlE enc k H v l):Mg.lenS v=l.length:=by
 rcases h with⟨a,c,rfl,rfl⟩|⟨b,o,c,_,rfl,_⟩<;>rfl
theorem SlE.mk {H:Hp} {v:Value} {l:List α} (h:SlE enc k H v l):∃a c,v=.slice a l.length c/\l.length<=c:=by
 rcases h with⟨a,c,rfl,rfl⟩|⟨b,o,c,_,rfl,h0,_⟩
 ·exact⟨a,c,rfl,Nat.zero_le _⟩
 ·exact⟨_,c,rfl,h0⟩
theorem SlE.srcN {H:Hp} {v:Value} {l:List α} (h:SlE enc k H v l):Mg.srcN H v (l.length*k)=some (l.flatMap enc).toArray:=by
 rcases h with⟨a,c,rfl,rfl⟩|⟨b,o,c,_,rfl,h0,C,T,z,h1,h2,h3⟩
 ·rw[List.length_nil,Nat.zero_mul,srcN_0];rfl
 ·show(if l.length*k=0 then some #[]else Mg.ldNA H ⟨b,o,none⟩ (l.length*k))=_
  split
  ·rename_i hk0;rw[<-h3,hk0];simp
  ·simp only[Mg.ldNA,Option.isSome_none,Bool.false_eq_true,if_false,h1]
   rw[if_pos (by omega)]
   congr 1
   apply Array.ext'
   simp only[Array.toList_extract,List.extract_eq_take_drop,Nat.add_sub_cancel_left]
   exact h3
theorem SlE.bl {H:Hp} {b:Nat} {L:List Value} (h:Bl H b L) {l:List α} (hl:L.take (l.length*k)=l.flatMap enc) (hL:l.length*k<=L.length) {c:Nat} (hc:l.length<=c):SlE enc k H (.slice (some ⟨b,0,none⟩) l.length c) l:=by
 obtain⟨T,h⟩:=h
 exact SlE.at_ hc h (by simpa using hL) (by simpa using hl)
theorem SlE.elem {H:Hp} {v:Value} {l:List α} (h:SlE enc k H v l) (hk:∀x,(enc x).length=k) {i:Nat} (hi:i<l.length):∃b o c,v=.slice (some ⟨b,o,none⟩) l.length c/\slB v b/\Mg.ldNA H ⟨b,o+i*k,none⟩ k=some (enc l[i]).toArray:=by
 rcases h with⟨a,c,_,rfl⟩|⟨b,o,c,hl,rfl,h0,C,T,z,h1,h2,h3⟩
 ·simp at hi
 ·refine⟨b,o,c,rfl,⟨rfl,by simpa using hl⟩,?_⟩
  have hle:i*k+k<=l.length*k:=by rw[<-Nat.succ_mul];exact Nat.mul_le_mul_right k hi
  unfold Mg.ldNA
  simp only[h1,Option.isSome_none,Bool.false_eq_true,if_false]
  rw[if_pos (by omega)]
  congr 1
  apply Array.ext'
  simp only[Array.toList_extract,List.extract_eq_take_drop,Nat.add_sub_cancel_left]
  rw[<-fl_at hk l i l[i] (List.getElem?_eq_getElem hi),<-h3,List.drop_take,List.take_take,List.drop_drop,Nat.min_eq_left (by omega)]
theorem SlE.cell {H:Hp} {v:Value} {l:List α} (h:SlE enc k H v l) (hk:∀x,(enc x).length=k) {i:Nat} (hi:i<l.length) {j:Nat} (hj:j<k):∃b o c,v=.slice (some ⟨b,o,none⟩) l.length c/\slB v b/\Mg.cell H ⟨b,o+i*k+j,none⟩=(enc l[i])[j]?:=by
 rcases h with⟨a,c,_,rfl⟩|⟨b,o,c,hl,rfl,h0,C,T,z,h1,h2,h3⟩
 ·simp at hi
 ·refine⟨b,o,c,rfl,⟨rfl,by simpa using hl⟩,?_⟩
  have hle:i*k+k<=l.length*k:=by rw[<-Nat.succ_mul];exact Nat.mul_le_mul_right k hi
  rw[<-fl_at hk l i l[i] (List.getElem?_eq_getElem hi),<-h3,List.drop_take,List.take_take,List.drop_drop,Nat.min_eq_left (by omega),List.getElem?_take,if_pos hj,List.getElem?_drop]
  simp[Mg.cell,h1]
def OwE (enc:α->List Value) (k:Nat) (H:Hp) (v:Value) (l:List α):Prop:=
 (v=.slice none 0 0/\l=[])\/∃b c L,v=.slice (some ⟨b,0,none⟩) l.length c/\l.length<=c/\c*k<=L.length/\Bl H b L/\L.take (l.length*k)=l.flatMap enc
theorem OwE.sl {H:Hp} {v:Value} {l:List α} (h:OwE enc k H v l):SlE enc k H v l:=by
 rcases h with⟨rfl,rfl⟩|⟨b,c,L,rfl,h1,h2,hb,h3⟩
 ·exact SlE.nil _ _ _
 ·exact SlE.bl hb h3 (Nat.le_trans (Nat.mul_le_mul_right k h1) h2) h1
theorem OwE.slB {H:Hp} {v:Value} {l:List α} (h:OwE enc k H v l) {q:Nat} (hq:slB v q):ownB v q:=by
 rcases h with⟨rfl,rfl⟩|⟨b,c,L,rfl,h1,h2,hb,h3⟩
 ·exact hq.elim
 ·exact hq.1
theorem OwE.old {H:Hp} {v:Value} {l:List α} (h:OwE enc k H v l) {q:Nat} (hq:ownB v q):q<H.size:=by
 rcases h with⟨rfl,rfl⟩|⟨b,c,L,rfl,h1,h2,hb,h3⟩
 ·exact hq.elim
 ·cases hq;exact hb.lt
theorem OwE.keep {W:Nat->Prop} {H H':Hp} {v:Value} {l:List α} (h:OwE enc k H v l) (hk:Keep W H H') (hw:∀q,ownB v q->¬W q):OwE enc k H' v l:=by
 rcases h with h|⟨b,c,L,rfl,h1,h2,hb,h3⟩
 ·exact .inl h
 ·exact .inr ⟨b,c,L,rfl,h1,h2,hk.bl hb (hw b rfl),h3⟩
theorem OwE.nil (H:Hp):OwE enc k H (.slice none 0 0) []:=.inl ⟨rfl,rfl⟩
theorem OwE.bl {H:Hp} {b n c:Nat} {l:List α} {L:List Value} (h:Bl H b L) (hn:n=l.length) (h1:n<=c) (h2:c*k<=L.length) (h3:L.take (n*k)=l.flatMap enc):OwE enc k H (.slice (some ⟨b,0,none⟩) n c) l:=by
 subst hn;exact .inr ⟨b,c,L,rfl,h1,h2,h,h3⟩
theorem OwE.shape {H:Hp} {v:Value} {l:List α} (h:OwE enc k H v l):∃a n c,v=.slice a n c:=by
 rcases h with⟨rfl,_⟩|⟨b,c,L,rfl,_⟩<;>exact⟨_,_,_,rfl⟩
theorem OwE.some {H:Hp} {v:Value} {l:List α} (h:OwE enc k H v l) (hl:l≠[]):∃b c L,v=.slice (some ⟨b,0,none⟩) l.length c/\l.length<=c/\c*k<=L.length/\Bl H b L/\L.take (l.length*k)=l.flatMap enc:=by
 rcases h with⟨_,rfl⟩|h
 ·exact(hl rfl).elim
 ·exact h
theorem app_E0 {T:TypeId} {bytes:Nat} {z:Array Value} {s x:Value} {H:Hp} {K:Value->Hp->Prop} {l m:List α} (hk:∀x,(enc x).length=k) (h1c:∀x,∀v∈enc x,v.oneCell'=true) (hs:OwE enc k H s l) (hx:SlE enc k H x m)
  (hz:z.size=k) (h1:l.length+m.length<=maxLen) (h2:(l.length+m.length)*bytes<=140737488355328)
  (hK:∀v' H',OwE enc k H' v' (l++m)->Keep (ownB s) H H'->(∀q,ownB v' q->ownB s q\/H.size<=q)->SlE enc k H' s l->K v' H'):AppC false T k bytes z s x H K:=by
 have hsl:=hs.sl
 have hlen:=hsl.len
 have hxl:=hx.lenS
 have fm:=fl_len hk m
 have fl:=fl_len hk l
 have hsum:(l.flatMap enc++m.flatMap enc).length=(l.length+m.length)*k:=by rw[List.length_append,fm,fl,Nat.add_mul]
 refine⟨⟨hsl.isSl,hx.isSl,by rw[hlen,hxl];exact h1,by rw[hlen,hxl];exact h2⟩,(m.flatMap enc).toArray,by rw[hxl];exact hx.srcN,?_⟩
 rw[hlen,hxl]
 rcases hs with⟨rfl,rfl⟩|⟨b,c,L,rfl,g1,g2,hb,g3⟩
 ·refine⟨fun hle=>?_,fun _=>⟨#[],by rw[List.length_nil,Nat.zero_mul,srcN_0],fun c hc=>?_⟩⟩
  ·have:m=[]:=by
    have:([]:List α).length+m.length<=0:=hle
    apply List.eq_nil_of_length_eq_zero;simpa using this
   subst this
   exact⟨trivial,hK _ _ (OwE.nil _) (Keep.refl _ _) (fun k h=>.inl h) (SlE.nil _ _ _)⟩
  ·have hB:=Bl.new' H (#[]++(m.flatMap enc).toArray++rep z ((c -(([]:List α).length+m.length))*z.size)) T
   refine hK _ _ (OwE.bl hB (by simp) (by simpa using hc) ?_ ?_) ((Keep.refl _ _).push _) (fun k h=>.inr (Nat.le_of_eq h.symm)) (SlE.nil _ _ _)
   ·simp only[List.length_nil,Nat.zero_add]at hc⊢
    simp only[rep,hz,Array.toList_append,List.length_append,fm,List.length_map,Array.toList_map,Array.length_toList,Array.size_range,List.length_nil,Nat.zero_add]
    rw[<-Nat.add_mul,Nat.add_sub_of_le hc];exact Nat.le_refl _
   ·simp only[List.length_nil,Nat.zero_add,List.nil_append,Array.toList_append]
    exact List.take_left' (by simpa using fm)
 ·refine⟨fun hle=>?_,fun hlt=>⟨_,hsl.srcN,fun c' hc=>?_⟩⟩
  ·have hle:l.length+m.length<=c:=hle
   have hle2:(l.length+m.length)*k<=c*k:=Nat.mul_le_mul_right k hle
   rw[Nat.add_mul]at hle2
   refine⟨hb.okPut _ _ _ (fl_all1 h1c m) (by simp only[List.size_toArray,fm,Nat.zero_add];omega),?_⟩
   have hB:=hb.put 0 (l.length*k) (m.flatMap enc).toArray
   refine hK _ _ (OwE.bl hB (by simp) hle ?_ ?_) ((Keep.refl _ _).put rfl _ _ (.inl rfl)) (fun k h=>.inl h) (SlE.bl hB ?_ ?_ g1)
   ·rw[wrL_len (by simp only[Nat.zero_add,fm];omega)];exact g2
   ·unfold wrL
    rw[Nat.zero_add,g3,List.flatMap_append]
    exact List.take_left' hsum
   ·unfold wrL
    rw[Nat.zero_add,g3,List.append_assoc]
    exact List.take_left' fl
   ·rw[wrL_len (by simp only[Nat.zero_add,fm];omega)];exact Nat.le_trans (Nat.mul_le_mul_right k g1) g2
  ·have hB:=Bl.new' H ((l.flatMap enc).toArray++(m.flatMap enc).toArray++rep z ((c' -(l.length+m.length))*z.size)) T
   refine hK _ _ (OwE.bl hB (by simp) hc ?_ ?_) ((Keep.refl _ _).push _) (fun k h=>.inr (Nat.le_of_eq h.symm)) (hsl.keep0 ((Keep.refl _ _).push _))
   ·simp only[rep,hz,Array.toList_append,List.length_append,fm,fl,List.length_map,Array.toList_map,Array.length_toList,Array.size_range]
    rw[<-Nat.add_mul,<-Nat.add_mul,Nat.add_sub_of_le hc];exact Nat.le_refl _
   ·rw[Array.toList_append,Array.toList_append,List.flatMap_append];exact List.take_left' hsum
theorem app_E {T:TypeId} {bytes:Nat} {z:Array Value} {s x:Value} {H:Hp} {K:Value->Hp->Prop} {l m:List α} (hk:∀x,(enc x).length=k) (h1c:∀x,∀v∈enc x,v.oneCell'=true) (hs:OwE enc k H s l) (hx:SlE enc k H x m)
  (hz:z.size=k) (h1:l.length+m.length<=maxLen) (h2:(l.length+m.length)*bytes<=140737488355328)
  (hK:∀v' H',OwE enc k H' v' (l++m)->Keep (ownB s) H H'->(∀q,ownB v' q->ownB s q\/H.size<=q)->K v' H'):AppC false T k bytes z s x H K:=
 app_E0 hk h1c hs hx hz h1 h2 fun v' H' a b c _=>hK v' H' a b c
theorem app_EN {T:TypeId} {bytes:Nat} {z:Array Value} {s x:Value} {H:Hp} {K:Value->Hp->Prop} {l m:List α} (n:Nat) (hk:∀x,(enc x).length=k) (h1c:∀x,∀v∈enc x,v.oneCell'=true) (hs:OwE enc k H s l) (hn:∀q,ownB s q->n<=q) (hH:n<=H.size) (hx:SlE enc k H x m)
  (hz:z.size=k) (hb:bytes<=64) (h1:l.length+m.length<=1000000000)
  (hK:∀v' H',OwE enc k H' v' (l++m)->(∀q,ownB v' q->n<=q)->Keep (fun q=>n<=q) H H'->K v' H'):AppC false T k bytes z s x H K:=
 app_E hk h1c hs hx hz (by unfold maxLen;omega) (Nat.le_trans (Nat.mul_le_mul h1 hb) (by omega)) fun v' H' h1 h2 h3=>hK v' H' h1 (fun q hq=>by rcases h3 q hq with h|h;exact hn q h;omega) (h2.mono fun q _ hq=>hn q hq)
end
def pE (p:Int×Int):List Value:=[.int .i64 p.1,.int .i64 p.2]
theorem pE_len (p:Int×Int):(pE p).length=2:=rfl
theorem pE_one (p:Int×Int):∀v∈pE p,v.oneCell'=true:=by
 intro v hv;simp[pE]at hv;rcases hv with rfl|rfl<;>rfl
abbrev SlP:=SlE pE 2
abbrev OwP:=OwE pE 2
end Go.Mg

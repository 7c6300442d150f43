/- Lemmas of ours. No conditions. -/
import Derived.Test.YtoclemmcphgikaaGreatDoorMgGN
import Derived.Test.YtoclemmcphgikaaGreatDoorMgVE
set_option linter.all false
set_option maxRecDepth 100000
namespace Go.Mg
open Go Go.RowKit
variable {H H':Hp} {ms:List UInt64} {α:Type} {k b rb:Nat} {v:Value} {L l:List Value} {W:Nat->Prop} {F:cf} {st:List Int}
theorem iI.el {vs:List Value} (h:iI H vs ms):vs.length=(ms.map bt).length/\∀i<vs.length,aQ H (.agg #[vs.getD i undef]) ((ms.map bt).getD i fun _=>false):=by
 refine⟨by rw[List.length_map];exact h.len,fun i hi=>?_⟩;have oh:i<ms.length:=by rw[<-h.len];exact hi
 have:=h.at_ i hi oh;rw[List.getD_eq_getElem?_getD,List.getElem?_eq_getElem hi,cR,List.getD_eq_getElem?_getD,List.getElem?_eq_getElem oh];exact this
theorem bk.apart {enc:α->List Value} (he:∀a,∃x∈enc a,¬Mg.aq x) {l:List α} (h:bk enc k H v l) (B:Bl H b L) (hL:∀x∈L,Mg.aq x):∀q,aT v q->q≠b:=by
 rintro q hq rfl;rcases h with⟨a,c,rfl,_⟩|⟨b',o,c,hl,rfl,h0,C,T,z,h1,h2,h3⟩
 ·cases a<;>simp[aT]at hq
 ·obtain⟨rfl,_⟩:=hq;obtain⟨T',h4⟩:=B;rw[h1]at h4
  cases h4
  match l,hl with
  |a::l',_=>
   obtain⟨x,hxa,hxs⟩:=he a;have hx:x∈(a::l').flatMap enc:=by rw[List.flatMap_cons];exact List.mem_append_left _ hxa
   rw[<-h3]at hx;exact hxs (hL x (by simpa using List.mem_of_mem_drop (List.mem_of_mem_take hx)))
theorem aO.apart (h:aO H v l) (hl:∀x∈l,¬Mg.aq x) (B:Bl H b L) (hL:∀x∈L,Mg.aq x):∀q,aT v q->q≠b:=by
 rintro q hq rfl;rcases h with⟨a,c,rfl,_⟩|⟨b',o,c,hne,rfl,h0,C,T,z,h1,h2,h3⟩
 ·cases a<;>simp[aT]at hq
 ·obtain⟨rfl,_⟩:=hq;obtain⟨T',h4⟩:=B;rw[h1]at h4
  cases h4
  match l,hne with
  |x::l',_=>
   have hx:x∈x::l':=List.mem_cons_self;rw[<-h3]at hx;exact hl x List.mem_cons_self (hL x (by simpa using List.mem_of_mem_drop (List.mem_of_mem_take hx)))
theorem Ed (a:wO):∃x∈cj a,¬aq x:=⟨.int .i64 a.2,by simp[cj],fun h=>h⟩
theorem qY (a:fV):∃x∈pE a,¬aq x:=⟨.int .i64 a.1,by simp[pE],fun h=>h⟩
theorem Qj (a:tk):∃x∈mP a,¬aq x:=⟨.int .i64 a.1,by simp[mP],fun h=>h⟩
theorem Qk (a:MV):∃x∈cH a,¬aq x:=⟨.int .i64 a.1,by simp[cH],fun h=>h⟩
def UO (H:Hp) (W:Nat->Prop):Prop:=∀p,W p->∃L,Bl H p L/\∀x∈L,aq x
theorem UO.one {p:Nat} (B:Bl H p L) (hL:∀x∈L,aq x):UO H (fun q=>q=p):=fun q e=>⟨L,e▸B,hL⟩
theorem bk.ct {enc:α->List Value} (he:∀a,∃x∈enc a,¬Mg.aq x) {l:List α} (h:bk enc k H v l) (hW:UO H W) (hk:af W H H'):bk enc k H' v l:=
 h.ai hk fun q hq hw=>by
  obtain⟨L,B,hL⟩:=hW q hw;exact h.apart he B hL q hq rfl
theorem aO.ct (hl:∀x∈l,¬Mg.aq x) (h:aO H v l) (hW:UO H W) (hk:af W H H'):aO H' v l:=
 h.ai hk fun q hq hw=>by
  obtain⟨L,B,hL⟩:=hW q hw;exact h.apart hl B hL q hq rfl
theorem c9.ct (h:c9 H v F) (hW:UO H W) (hk:af W H H'):c9 H' v F:=by
 obtain⟨s,b,d,a,m,rfl,h1,h2,h3,h4,h5⟩:=h;exact⟨s,b,d,a,m,rfl,h1.ct Ed hW hk,h2.ct qY hW hk,h3.ct qY hW hk,h4.ct qY hW hk,h5.ct Qj hW hk⟩
theorem Jz (l:List UInt64):∀x∈cN l,¬aq x:=by
 intro x hx;simp only[cN,List.mem_map]at hx;obtain⟨y,_,rfl⟩:=hx;exact fun h=>h
theorem Ql (l:List Int):∀x∈iL l,¬aq x:=by
 intro x hx;simp only[iL,List.mem_map]at hx;obtain⟨y,_,rfl⟩:=hx;exact fun h=>h
theorem aQ.ct {x:Value} {p:Nat->Bool} (h:aQ H x p) (hW:UO H W) (hk:af W H H'):aQ H' x p:=by
 obtain⟨v,Ws,rfl,hv⟩:=h;exact aQ.ai ⟨v,Ws,rfl,hv⟩ hk fun q hq hw=>by
  obtain⟨L,B,hL⟩:=hW q hw;exact hv.sl.apart (Jz _) B hL q hq rfl
theorem dY.ct (h:dY H v F ms st) (hW:UO H W) (hk:af W H H'):dY H' v F ms st:=by
 obtain⟨s',b',d',a',m',JB,Jg,rfl,h1,h2,h3⟩:=h;exact⟨_,_,_,_,_,_,_,rfl,h1.ct hW hk,h2.ct (Jz _) hW hk,h3.ct (Ql _) hW hk⟩
theorem bU.ct (h:bU H v F) (hW:UO H W) (hk:af W H H'):bU H' v F:=by
 obtain⟨s,b,d,a,m,ms,rfl,h1,h2,h3,h4,h5,h6⟩:=h;exact⟨s,b,d,a,m,ms,rfl,h1.ct Ed hW hk,h2.ct qY hW hk,h3.ct qY hW hk,h4.ct qY hW hk,h5.ct Qk hW hk,h6.len,fun i h1 h2=>⟨(h6.at_ i h1 h2).1,(h6.at_ i h1 h2).2.ct hW hk⟩⟩
theorem dI.ct {el:List (Nat->Bool)} (h:dI H rb F el st) (hA:pD W H rb) (hW:UO H W) (hk:af W H H'):dI H' rb F el st:=by
 obtain⟨s,b,d,a,m,ev,sv,vs,h1,h2,h3,h4,h5,h6,h7⟩:=h;obtain⟨a1,JB,a2,a3⟩:=hA;have c5:cell H ⟨rb,5,none⟩=some ev:=by rw[h1.cell];rfl
 rw[c5]at a2
 cases a2
 exact⟨s,b,d,a,m,ev,sv,vs,hk.bl h1 a1,h2.ct hW hk,h3.ai hk a3,h4,h5,fun i hi=>(h6 i hi).ct hW hk,h7.ct (Ql _) hW hk⟩
theorem pD.ct {W':Nat->Prop} (h:pD W H rb) (hl:rb<H.size) (hr:¬W' rb) (hk:af W' H H'):pD W H' rb:=by
 obtain⟨a1,ev,a2,a3⟩:=h;exact⟨a1,ev,by rw[hk.cell hl hr];exact a2,a3⟩
end Go.Mg
namespace Go.Mg
open Go Go.RowKit
structure PlI (r:dX) (H:Hp) (rb:Nat) (sv:Value) (st:List Int):Prop where
 run:dI H rb (dt r) ((bf r).map bt) st
 ref:dY H sv (dt r) (bf r) st
 ok:Ec (dt r).st.length st
 ne:qW (dt r) (bf r) st≠[]
 ord:AU (dt r).be st=true
theorem PlI.aj {r:dX} {H H':Hp} {rb:Nat} {sv:Value} {st:List Int} (h:PlI r H rb sv st) (hk:af (fun _=>False) H H'):PlI r H' rb sv st:=⟨h.run.aj hk,h.ref.aj hk,h.ok,h.ne,h.ord⟩
end Go.Mg

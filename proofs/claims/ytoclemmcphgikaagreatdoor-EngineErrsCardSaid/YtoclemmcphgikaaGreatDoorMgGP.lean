/- Several texts of ours in one. No conditions. -/
import Derived.Test.YtoclemmcphgikaaGreatDoorMgGN
import Derived.Test.YtoclemmcphgikaaGreatDoorMgGI
import Derived.Test.YtoclemmcphgikaaGreatDoorMgGF
import Derived.Test.YtoclemmcphgikaaGreatDoorMgV5
import Derived.Test.YtoclemmcphgikaaGreatDoorMgVE
namespace Go.Mg
open Go Go.RowKit
set_option linter.all false
set_option maxRecDepth 100000
variable {H H':Hp} {ms:List UInt64} {α:Type} {k b rb:Nat} {v:Value} {L l:List Value} {W:Nat->Prop} {F:FlN} {st:List Int}
theorem SetsR.el {vs:List Value} (h:SetsR H vs ms):vs.length=(ms.map bt).length/\∀i<vs.length,SetM H (.agg #[vs.getD i undef]) ((ms.map bt).getD i fun _=>false):=by
 refine⟨by rw[List.length_map];exact h.len,fun i hi=>?_⟩
 have hi':i<ms.length:=by rw[<-h.len];exact hi
 have:=h.at_ i hi hi'
 rw[List.getD_eq_getElem?_getD,List.getElem?_eq_getElem hi,getD_map_bt,List.getD_eq_getElem?_getD,List.getElem?_eq_getElem hi']
 exact this
def zerS (r:RawF):List Int:=List.replicate (nuF r) 0
theorem zerS_okS (r:RawF):okS (mkF r).st.length (zerS r):=⟨by rw[mkF_len];simp[zerS],fun u hu=>by
 have:=List.eq_of_mem_replicate hu
 omega⟩
theorem SlE.apart {enc:α->List Value} (he:∀a,∃x∈enc a,¬Mg.isSl x) {l:List α} (h:SlE enc k H v l) (B:Bl H b L) (hL:∀x∈L,Mg.isSl x):∀q,slB v q->q≠b:=by
 rintro q hq rfl
 rcases h with⟨a,c,rfl,_⟩|⟨b',o,c,hl,rfl,h0,C,T,z,h1,h2,h3⟩
 ·cases a<;>simp[slB]at hq
 ·obtain⟨rfl,_⟩:=hq
  obtain⟨T',h4⟩:=B
  rw[h1]at h4
  cases h4
  match l,hl with
  |a::l',_=>
   obtain⟨x,hxa,hxs⟩:=he a
   have hx:x∈(a::l').flatMap enc:=by rw[List.flatMap_cons];exact List.mem_append_left _ hxa
   rw[<-h3]at hx
   exact hxs (hL x (by simpa using List.mem_of_mem_drop (List.mem_of_mem_take hx)))
theorem SlR.apart (h:SlR H v l) (hl:∀x∈l,¬Mg.isSl x) (B:Bl H b L) (hL:∀x∈L,Mg.isSl x):∀q,slB v q->q≠b:=by
 rintro q hq rfl
 rcases h with⟨a,c,rfl,_⟩|⟨b',o,c,hne,rfl,h0,C,T,z,h1,h2,h3⟩
 ·cases a<;>simp[slB]at hq
 ·obtain⟨rfl,_⟩:=hq
  obtain⟨T',h4⟩:=B
  rw[h1]at h4
  cases h4
  match l,hne with
  |x::l',_=>
   have hx:x∈x::l':=List.mem_cons_self
   rw[<-h3]at hx
   exact hl x List.mem_cons_self (hL x (by simpa using List.mem_of_mem_drop (List.mem_of_mem_take hx)))
theorem encS_nsl (a:StN):∃x∈encS a,¬isSl x:=⟨.int .i64 a.2,by simp[encS],fun h=>h⟩
theorem pE_nsl (a:PrN):∃x∈pE a,¬isSl x:=⟨.int .i64 a.1,by simp[pE],fun h=>h⟩
theorem encM_nsl (a:MoN):∃x∈encM a,¬isSl x:=⟨.int .i64 a.1,by simp[encM],fun h=>h⟩
theorem encV_nsl (a:MV):∃x∈encV a,¬isSl x:=⟨.int .i64 a.1,by simp[encV],fun h=>h⟩
def SlW (H:Hp) (W:Nat->Prop):Prop:=∀p,W p->∃L,Bl H p L/\∀x∈L,isSl x
theorem SlW.one {p:Nat} (B:Bl H p L) (hL:∀x∈L,isSl x):SlW H (fun q=>q=p):=fun q e=>⟨L,e▸B,hL⟩
theorem SlE.keepW {enc:α->List Value} (he:∀a,∃x∈enc a,¬Mg.isSl x) {l:List α} (h:SlE enc k H v l) (hW:SlW H W) (hk:Keep W H H'):SlE enc k H' v l:=
 h.keep hk fun q hq hw=>by
  obtain⟨L,B,hL⟩:=hW q hw
  exact h.apart he B hL q hq rfl
theorem SlR.keepW (hl:∀x∈l,¬Mg.isSl x) (h:SlR H v l) (hW:SlW H W) (hk:Keep W H H'):SlR H' v l:=
 h.keep hk fun q hq hw=>by
  obtain⟨L,B,hL⟩:=hW q hw
  exact h.apart hl B hL q hq rfl
theorem RefFl.keepW (h:RefFl H v F) (hW:SlW H W) (hk:Keep W H H'):RefFl H' v F:=by
 obtain⟨s,b,d,a,m,rfl,h1,h2,h3,h4,h5⟩:=h
 exact⟨s,b,d,a,m,rfl,h1.keepW encS_nsl hW hk,h2.keepW pE_nsl hW hk,h3.keepW pE_nsl hW hk,h4.keepW pE_nsl hW hk,h5.keepW encM_nsl hW hk⟩
theorem w64_nsl (l:List UInt64):∀x∈w64 l,¬isSl x:=by
 intro x hx
 simp only[w64,List.mem_map]at hx
 obtain⟨y,_,rfl⟩:=hx
 exact fun h=>h
theorem iL_nsl (l:List Int):∀x∈iL l,¬isSl x:=by
 intro x hx
 simp only[iL,List.mem_map]at hx
 obtain⟨y,_,rfl⟩:=hx
 exact fun h=>h
theorem SetM.keepW {x:Value} {p:Nat->Bool} (h:SetM H x p) (hW:SlW H W) (hk:Keep W H H'):SetM H' x p:=by
 obtain⟨v,Ws,rfl,hv⟩:=h
 exact SetM.keep ⟨v,Ws,rfl,hv⟩ hk fun q hq hw=>by
  obtain⟨L,B,hL⟩:=hW q hw
  exact hv.sl.apart (w64_nsl _) B hL q hq rfl
theorem RefRun.keepW (h:RefRun H v F ms st) (hW:SlW H W) (hk:Keep W H H'):RefRun H' v F ms st:=by
 obtain⟨s',b',d',a',m',ev',sv',rfl,h1,h2,h3⟩:=h
 exact⟨_,_,_,_,_,_,_,rfl,h1.keepW hW hk,h2.keepW (w64_nsl _) hW hk,h3.keepW (iL_nsl _) hW hk⟩
theorem ProFl.keepW (h:ProFl H v F) (hW:SlW H W) (hk:Keep W H H'):ProFl H' v F:=by
 obtain⟨s,b,d,a,m,ms,rfl,h1,h2,h3,h4,h5,h6⟩:=h
 exact⟨s,b,d,a,m,ms,rfl,h1.keepW encS_nsl hW hk,h2.keepW pE_nsl hW hk,h3.keepW pE_nsl hW hk,h4.keepW pE_nsl hW hk,h5.keepW encV_nsl hW hk,h6.len,fun i h1 h2=>⟨(h6.at_ i h1 h2).1,(h6.at_ i h1 h2).2.keepW hW hk⟩⟩
theorem RunV.keepW {el:List (Nat->Bool)} (h:RunV H rb F el st) (hA:RunA W H rb) (hW:SlW H W) (hk:Keep W H H'):RunV H' rb F el st:=by
 obtain⟨s,b,d,a,m,ev,sv,vs,h1,h2,h3,h4,h5,h6,h7⟩:=h
 obtain⟨a1,ev',a2,a3⟩:=hA
 have c5:cell H ⟨rb,5,none⟩=some ev:=by rw[h1.cell];rfl
 rw[c5]at a2
 cases a2
 exact⟨s,b,d,a,m,ev,sv,vs,hk.bl h1 a1,h2.keepW hW hk,h3.keep hk a3,h4,h5,fun i hi=>(h6 i hi).keepW hW hk,h7.keepW (iL_nsl _) hW hk⟩
theorem RunA.keepW {W':Nat->Prop} (h:RunA W H rb) (hl:rb<H.size) (hr:¬W' rb) (hk:Keep W' H H'):RunA W H' rb:=by
 obtain⟨a1,ev,a2,a3⟩:=h
 exact⟨a1,ev,by rw[hk.cell hl hr];exact a2,a3⟩
end Go.Mg
namespace Go.Mg
open Go Go.RowKit
set_option linter.all false
set_option maxRecDepth 100000
structure PlI (r:RawF) (H:Hp) (rb:Nat) (sv:Value) (st:List Int):Prop where
 run:RunV H rb (mkF r) ((masksF r).map bt) st
 ref:RefRun H sv (mkF r) (masksF r) st
 ok:okS (mkF r).st.length st
 ne:cmpV (mkF r) (masksF r) st≠[]
theorem PlI.keep0 {r:RawF} {H H':Hp} {rb:Nat} {sv:Value} {st:List Int} (h:PlI r H rb sv st) (hk:Keep (fun _=>False) H H'):PlI r H' rb sv st:=⟨h.run.keep0 hk,h.ref.keep0 hk,h.ok,h.ne⟩
theorem el_len (r:RawF):((masksF r).map bt).length=(mkF r).st.length:=by rw[List.length_map,masksF_len,mkF_len]
end Go.Mg

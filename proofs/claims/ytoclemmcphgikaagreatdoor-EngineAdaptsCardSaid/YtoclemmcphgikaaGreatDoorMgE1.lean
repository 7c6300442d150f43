/- Staffings, plain: the search through partial staffings finds those that a list of all shows, in its order. No program. -/
import Derived.Test.YtoclemmcphgikaaGreatDoorMgV3
namespace Go.Mg
set_option linter.all false
def lexL:Nat->List (List Int)
 |0=>[[]]
 |n+1=>(List.range 5).flatMap fun u:Nat=>(lexL n).map fun s=>((u:Nat):Int)::s
theorem lexL_len:∀(n:Nat),∀s∈lexL n,s.length=n
 |0,s,h=>by simp[lexL]at h;subst h;rfl
 |n+1,s,h=>by
  simp only[lexL,List.mem_flatMap,List.mem_map]at h
  obtain⟨u,_,t,ht,rfl⟩:=h
  simp[lexL_len n t ht]
theorem lexL_mem:∀{n:Nat} {s:List Int},s∈lexL n↔s.length=n/\∀u∈s,0<=u/\u<=4
 |0,s=>by
  simp only[lexL,List.mem_singleton]
  constructor
  ·rintro rfl;simp
  ·rintro⟨h,_⟩;exact List.eq_nil_of_length_eq_zero h
 |n+1,s=>by
  simp only[lexL,List.mem_flatMap,List.mem_map,List.mem_range]
  constructor
  ·rintro⟨u,hu,t,ht,rfl⟩
   obtain⟨h1,h2⟩:=lexL_mem.1 ht
   refine⟨by simp[h1],fun v hv=>?_⟩
   rcases List.mem_cons.1 hv with rfl|hv
   ·omega
   ·exact h2 v hv
  ·rintro⟨h1,h2⟩
   match s,h1 with
   |u::t,h1=>
    have hu:=h2 u List.mem_cons_self
    refine⟨u.toNat,by omega,t,lexL_mem.2 ⟨by simpa using h1,fun v hv=>h2 v (List.mem_cons_of_mem _ hv)⟩,?_⟩
    rw[Int.toNat_of_nonneg hu.1]
variable {α β:Type} {s t:List Int} {k:Nat} {u:Int}
theorem filter_none {l:List α} {p:α->Bool} (h:∀x∈l,p x=false):l.filter p=[]:=by
 rw[List.filter_eq_nil_iff];intro x hx;rw[h x hx];simp
theorem filter_flatMap' (f:α->List β) (p:β->Bool) (l:List α):(l.flatMap f).filter p=l.flatMap fun x=>(f x).filter p:=by
 induction l with
 |nil=>rfl
 |cons a l ih=>simp only[List.flatMap_cons,List.filter_append,ih]
theorem flatMap_congr' {f g:α->List β} {l:List α} (h:∀x∈l,f x=g x):l.flatMap f=l.flatMap g:=by
 induction l with
 |nil=>rfl
 |cons a l ih=>simp only[List.flatMap_cons,h a List.mem_cons_self,ih fun x hx=>h x (List.mem_cons_of_mem _ hx)]
theorem flatMap_pick {β:Type} (g:Nat->List β) (v:Nat):∀m,((List.range m).flatMap fun u=>if u=v then g u else[])=if v<m then g v else[]
 |0=>rfl
 |m+1=>by
  rw[List.range_succ,List.flatMap_append,flatMap_pick g v m]
  simp only[List.flatMap_cons,List.flatMap_nil,List.append_nil]
  by_cases h1:v<m
  ·rw[if_pos h1,if_neg (by omega),if_pos (by omega),List.append_nil]
  ·rw[if_neg h1]
   by_cases h2:m=v
   ·subst h2;rw[if_pos rfl,if_pos (by omega)];rfl
   ·rw[if_neg h2,if_neg (by omega)];rfl
theorem lex_split:∀(k n:Nat) (q:List Int->Bool) (c:List Int),c.length=k->k<n->(∀s,q s=true->s.take k=c)→
  (lexL n).filter q=(List.range 5).flatMap fun u=>(lexL n).filter fun s=>q s&&decide (s.getD k 0=((u:Nat):Int))
 |0,0,_,_,_,h,_=>by omega
 |k+1,0,_,_,_,h,_=>by omega
 |0,n+1,q,c,hc,hk,hq=>by
  have e:∀u<5,((lexL (n+1)).filter fun s=>q s&&decide (s.getD 0 0=((u:Nat):Int)))=((lexL n).map fun s=>((u:Nat):Int)::s).filter q:=fun u hu=>by
   simp only[lexL]
   rw[filter_flatMap']
   have:∀v∈List.range 5,(((lexL n).map fun s=>((v:Nat):Int)::s).filter fun s=>q s&&decide (s.getD 0 0=((u:Nat):Int)))=if v=u then((lexL n).map fun s=>((v:Nat):Int)::s).filter q else[]:=fun v _=>by
    split
    ·next h=>
     subst h
     refine List.filter_congr fun s hs=>?_
     obtain⟨t,_,rfl⟩:=List.mem_map.1 hs
     simp
    ·next h=>
     refine filter_none fun s hs=>?_
     obtain⟨t,_,rfl⟩:=List.mem_map.1 hs
     have:¬((v:Nat):Int)=((u:Nat):Int):=by omega
     simp[this]
   rw[flatMap_congr' this,flatMap_pick (fun v=>((lexL n).map fun s=>((v:Nat):Int)::s).filter q) u 5,if_pos hu]
  rw[flatMap_congr' (g:=fun u=>((lexL n).map fun s=>((u:Nat):Int)::s).filter q) fun u hu=>e u (List.mem_range.1 hu)]
  simp only[lexL]
  rw[filter_flatMap']
 |k+1,n+1,q,[],hc,hk,hq=>by simp at hc
 |k+1,n+1,q,a::c,hc,hk,hq=>by
  have hs:∀(q':List Int->Bool),(∀s,q' s=true->q s=true)->(lexL (n+1)).filter q'=(List.range 5).flatMap fun u=>if((u:Nat):Int)=a then((lexL n).filter fun s=>q' (((u:Nat):Int)::s)).map fun s=>((u:Nat):Int)::s else[]:=fun q' hq'=>by
   simp only[lexL]
   rw[filter_flatMap']
   refine flatMap_congr' fun u _=>?_
   split
   ·rw[List.filter_map];rfl
   ·next h=>
    refine filter_none fun s hs=>?_
    obtain⟨t,_,rfl⟩:=List.mem_map.1 hs
    cases hb:q' (((u:Nat):Int)::t)with
    |false=>rfl
    |true=>
     have:=hq _ (hq' _ hb)
     simp only[List.take_succ_cons,List.cons.injEq]at this
     exact absurd this.1 h
  by_cases ha:∃v:Nat,v<5/\((v:Nat):Int)=a
  ·obtain⟨v,hv,rfl⟩:=ha
   have pick:∀(g:Nat->List (List Int)),((List.range 5).flatMap fun u=>if((u:Nat):Int)=((v:Nat):Int)then g u else[])=g v:=fun g=>by
    rw[flatMap_congr' (g:=fun u=>if u=v then g u else[]) fun u _=>by
     by_cases h:u=v
     ·rw[if_pos h,if_pos (by omega)]
     ·rw[if_neg h,if_neg (by omega)]]
    rw[flatMap_pick,if_pos hv]
   rw[hs q fun _ h=>h,pick]
   have ih:=lex_split k n (fun s=>q (((v:Nat):Int)::s)) c (by simpa using hc) (by omega) fun s h=>by
    have:=hq _ h
    simp only[List.take_succ_cons,List.cons.injEq]at this
    exact this.2
   rw[ih,List.map_flatMap]
   refine flatMap_congr' fun u _=>?_
   rw[hs (fun s=>q s&&decide (s.getD (k+1) 0=((u:Nat):Int))) (fun s h=>by simp only[Bool.and_eq_true]at h;exact h.1),pick]
   rfl
  ·have none:∀(g:Nat->List (List Int)),((List.range 5).flatMap fun u=>if((u:Nat):Int)=a then g u else[])=[]:=fun g=>by
    rw[flatMap_congr' (g:=fun _=>[]) fun u hu=>if_neg fun e=>ha ⟨u,List.mem_range.1 hu,e⟩]
    simp
   rw[hs q fun _ h=>h,none]
   symm
   rw[flatMap_congr' (g:=fun _=>[]) fun u _=>by rw[hs (fun s=>q s&&decide (s.getD (k+1) 0=((u:Nat):Int))) (fun s h=>by simp only[Bool.and_eq_true]at h;exact h.1),none]]
   simp
theorem lexL_one:∀(n:Nat) (s:List Int),s∈lexL n->(lexL n).filter (fun t=>decide (t=s))=[s]
 |0,s,h=>by simp[lexL]at h;subst h;rfl
 |n+1,s,h=>by
  obtain⟨h1,h2⟩:=lexL_mem.1 h
  match s,h1,h2 with
  |a::s',h1,h2=>
   have ha:=h2 a List.mem_cons_self
   obtain⟨v,rfl⟩:∃v:Nat,a=(v:Int):=⟨a.toNat,by omega⟩
   have hs':s'∈lexL n:=lexL_mem.2 ⟨by simpa using h1,fun u hu=>h2 u (List.mem_cons_of_mem _ hu)⟩
   simp only[lexL]
   rw[filter_flatMap',flatMap_congr' (g:=fun u=>if u=v then[((v:Nat):Int)::s']else[]) fun u _=>?_,flatMap_pick,if_pos (by omega)]
   rw[List.filter_map]
   by_cases e:u=v
   ·subst e
    rw[if_pos rfl]
    have:((fun t=>decide (t=((u:Nat):Int)::s'))∘fun s=>((u:Nat):Int)::s)=fun t=>decide (t=s'):=by
     funext t;simp
    rw[this,lexL_one n s' hs'];rfl
   ·rw[if_neg e]
    have:((fun t=>decide (t=((v:Nat):Int)::s'))∘fun s=>((u:Nat):Int)::s)=fun t=>false:=by
     funext t
     have:¬((u:Nat):Int)=((v:Nat):Int):=by omega
     simp[this]
    rw[this];simp
structure PbN where
 el:List (Nat->Bool)
 di:List PrN
 sa:List PrN
 mo:List MoN
def elA (p:PbN) (k:Nat):Nat->Bool:=p.el.getD k fun _=>false
def elB (p:PbN) (s:List Int):Bool:=(List.range s.length).any fun k=>decide (s.getD k 0≠0)&&!memI (elA p k) (s.getD k 0)
def brkB (p:PbN) (s:List Int):Bool:=elB p s||p.di.any (difB s)||p.sa.any (samB s)||p.mo.any (mosB s)
def srcF (p:PbN):Nat->List Int->List (List Int)
 |0,_=>[]
 |m+1,s=>if brkB p s=true then[]else match s.findIdx? (fun u=>decide (u=0))with
  |none=>[s]
  |some k=>(mems (elA p k)).flatMap fun u=>srcF p m (s.set k ((u:Nat):Int))
def agrB (s t:List Int):Bool:=(List.range s.length).all fun k=>decide (s.getD k 0=0)||decide (s.getD k 0=t.getD k 0)
def allB (p:PbN) (t:List Int):Bool:=(t.all fun u=>decide (u≠0))&&!brkB p t
theorem agr_at (h:agrB s t=true) (hk:s.getD k 0≠0):t.getD k 0=s.getD k 0:=by
 unfold agrB at h
 rw[List.all_eq_true]at h
 by_cases hl:k<s.length
 ·have:=h k (List.mem_range.2 hl)
  simp only[Bool.or_eq_true,decide_eq_true_eq]at this
  rcases this with h|h
  ·exact absurd h hk
  ·exact h.symm
 ·rw[List.getD_eq_getElem?_getD,List.getElem?_eq_none (by omega)]at hk
  exact absurd rfl hk
theorem elB_iff {p:PbN}:elB p s=true↔∃k,k<s.length/\s.getD k 0≠0/\memI (elA p k) (s.getD k 0)=false:=by
 unfold elB
 simp only[List.any_eq_true,List.mem_range,Bool.and_eq_true,decide_eq_true_eq,Bool.not_eq_true']
theorem brk_mono {p:PbN} (hl:t.length=s.length) (h:agrB s t=true) (hb:brkB p s=true):brkB p t=true:=by
 have at_:∀k,s.getD k 0≠0->t.getD k 0=s.getD k 0:=fun k hk=>agr_at h hk
 unfold brkB at hb⊢
 simp only[Bool.or_eq_true]at hb⊢
 rcases hb with((hb|hb)|hb)|hb
 ·obtain⟨k,h1,h2,h3⟩:=elB_iff.1 hb
  exact .inl (.inl (.inl (elB_iff.2 ⟨k,by omega,by rw[at_ k h2];exact h2,by rw[at_ k h2];exact h3⟩)))
 ·obtain⟨x,hx,h1⟩:=List.any_eq_true.1 hb
  refine .inl (.inl (.inr (List.any_eq_true.2 ⟨x,hx,?_⟩)))
  simp only[difB,sI,Bool.and_eq_true]at h1⊢
  obtain⟨h1,h2⟩:=h1
  have h1:=of_decide_eq_true h1
  have h2:=of_decide_eq_true h2
  refine⟨decide_eq_true ?_,decide_eq_true ?_⟩
  ·rw[at_ _ h1];exact h1
  rw[at_ _ h1,at_ _ (by rw[<-h2];exact h1)]
  exact h2
 ·obtain⟨x,hx,h1⟩:=List.any_eq_true.1 hb
  refine .inl (.inr (List.any_eq_true.2 ⟨x,hx,?_⟩))
  simp only[samB,sI,Bool.and_eq_true]at h1⊢
  obtain⟨⟨h1,h2⟩,h3⟩:=h1
  have h1':=of_decide_eq_true h1
  have h2':=of_decide_eq_true h2
  have h3':=of_decide_eq_true h3
  refine⟨⟨decide_eq_true ?_,decide_eq_true ?_⟩,decide_eq_true ?_⟩
  ·rw[at_ _ h1'];exact h1'
  ·rw[at_ _ h2'];exact h2'
  ·rw[at_ _ h1',at_ _ h2'];exact h3'
 ·obtain⟨x,hx,h1⟩:=List.any_eq_true.1 hb
  refine .inr (List.any_eq_true.2 ⟨x,hx,?_⟩)
  obtain⟨u,hu,h2⟩:=List.any_eq_true.1 h1
  simp only[Bool.and_eq_true,decide_eq_true_eq]at h2
  obtain⟨h2,h3⟩:=h2
  obtain⟨k,hk,rfl⟩:=List.getElem_of_mem hu
  have hg:s.getD k 0=s[k]:=by rw[List.getD_eq_getElem?_getD,List.getElem?_eq_getElem hk];rfl
  have ht:=at_ k (by rw[hg];exact h2)
  rw[hg,List.getD_eq_getElem?_getD,List.getElem?_eq_getElem (by omega),Option.getD_some]at ht
  refine List.any_eq_true.2 ⟨s[k],by rw[<-ht];exact List.getElem_mem _,?_⟩
  simp only[Bool.and_eq_true,decide_eq_true_eq]
  refine⟨h2,Int.lt_of_lt_of_le h3 ?_⟩
  rw[hl]
  have:usN s x.2 s[k] s.length<=usN t x.2 s[k] s.length:=by
   refine cn_mono fun i _ hi=>?_
   simp only[Bool.and_eq_true,decide_eq_true_eq]at hi⊢
   exact⟨hi.1,by rw[at_ i (by rw[hi.2];exact h2)];exact hi.2⟩
  omega
def zerN (s:List Int):Nat:=s.countP fun u=>decide (u=0)
theorem findIdx_first (h:s.findIdx? (fun u=>decide (u=0))=some k):k<s.length/\s.getD k 0=0/\∀j<k,s.getD j 0≠0:=by
 obtain⟨hk,h1,h2⟩:=List.findIdx?_eq_some_iff_getElem.1 h
 refine⟨hk,?_,fun j hj=>?_⟩
 ·rw[List.getD_eq_getElem?_getD,List.getElem?_eq_getElem hk];simpa using h1
 ·rw[List.getD_eq_getElem?_getD,List.getElem?_eq_getElem (by omega)];simpa using h2 j hj
theorem zerN_set (hk:k<s.length) (h0:s.getD k 0=0) (hu:u≠0):zerN (s.set k u)+1=zerN s:=by
 unfold zerN
 rw[List.countP_set hk]
 rw[List.getD_eq_getElem?_getD,List.getElem?_eq_getElem hk,Option.getD_some]at h0
 have hp:0<s.countP fun u=>decide (u=0):=List.countP_pos_iff.2 ⟨s[k],List.getElem_mem _,by simp[h0]⟩
 simp[h0,hu]
 omega
theorem getD_set (s:List Int) (k j:Nat) (u:Int) (hk:k<s.length):(s.set k u).getD j 0=if j=k then u else s.getD j 0:=by
 rw[List.getD_eq_getElem?_getD,List.getD_eq_getElem?_getD,List.getElem?_set]
 by_cases h:k=j
 ·subst h;simp[hk]
 ·rw[if_neg h,if_neg (fun e=>h e.symm)]
theorem agr_set (hk:k<s.length) (h0:s.getD k 0=0) (hu:u≠0):agrB (s.set k u) t=(agrB s t&&decide (t.getD k 0=u)):=by
 rw[Bool.eq_iff_iff]
 unfold agrB
 simp only[Bool.and_eq_true,List.all_eq_true,List.mem_range,Bool.or_eq_true,decide_eq_true_eq,List.length_set]
 constructor
 ·intro h
  refine⟨fun j hj=>?_,?_⟩
  ·have:=h j hj
   rw[getD_set s k j u hk]at this
   by_cases e:j=k
   ·rw[e];exact .inl h0
   ·rw[if_neg e]at this;exact this
  ·have:=h k hk
   rw[getD_set s k k u hk,if_pos rfl]at this
   rcases this with h|h
   ·exact absurd h hu
   ·exact h.symm
 ·rintro⟨h1,h2⟩ j hj
  rw[getD_set s k j u hk]
  by_cases e:j=k
  ·rw[if_pos e,e];exact .inr h2.symm
  ·rw[if_neg e];exact h1 j hj
theorem mems_4 {q:Nat->Bool} (h:∀u,q u=true->u<=4):mems q=(List.range 5).filter q:=by
 unfold mems
 have:(4096:Nat)=5+4091:=rfl
 rw[this,List.range_add,List.filter_append]
 rw[filter_none (l:=(List.range 4091).map (5+·)) fun x hx=>?_,List.append_nil]
 obtain⟨y,_,rfl⟩:=List.mem_map.1 hx
 cases hb:q (5+y)with
 |false=>rfl
 |true=>have:=h _ hb;omega
theorem flatMap_filter' {α β:Type} (q:α->Bool) (f:α->List β):∀l:List α,(l.filter q).flatMap f=l.flatMap fun x=>if q x=true then f x else[]
 |[]=>rfl
 |a::l=>by
  rw[List.filter_cons,List.flatMap_cons,<-flatMap_filter' q f l]
  split<;>simp
theorem src_lex {p:PbN} (hel:∀k u,elA p k u=true->1<=u/\u<=4):∀(m:Nat) (s:List Int),zerN s<m->srcF p m s=(lexL s.length).filter fun t=>agrB s t&&allB p t
 |0,s,h=>by omega
 |m+1,s,h=>by
  rw[srcF]
  by_cases hb:brkB p s=true
  ·rw[if_pos hb]
   symm
   refine filter_none fun t ht=>?_
   cases ha:agrB s t with
   |false=>rfl
   |true=>
    have:=brk_mono (lexL_len _ t ht) ha hb
    simp[allB,this]
  ·rw[if_neg hb]
   have hb:brkB p s=false:=by simpa using hb
   have hel0:elB p s=false:=by
    unfold brkB at hb
    simp only[Bool.or_eq_false_iff]at hb
    exact hb.1.1.1
   have hin:∀k,k<s.length->s.getD k 0≠0->1<=s.getD k 0/\s.getD k 0<=4:=fun k hk h0=>by
    have:memI (elA p k) (s.getD k 0)=true:=by
     cases hm:memI (elA p k) (s.getD k 0)with
     |true=>rfl
     |false=>rw[elB_iff.2 ⟨k,hk,h0,hm⟩]at hel0;cases hel0
    unfold memI at this
    simp only[Bool.and_eq_true,decide_eq_true_eq]at this
    have:=hel k _ this.2
    omega
   cases hf:s.findIdx? (fun u=>decide (u=0))with
   |none=>
    simp only
    have hz:∀u∈s,u≠0:=by
     rw[List.findIdx?_eq_none_iff]at hf
     intro u hu;simpa using hf u hu
    have hg:∀k,k<s.length->s.getD k 0≠0:=fun k hk=>by
     rw[List.getD_eq_getElem?_getD,List.getElem?_eq_getElem hk];exact hz _ (List.getElem_mem _)
    have hs:s∈lexL s.length:=lexL_mem.2 ⟨rfl,fun u hu=>by
     obtain⟨k,hk,rfl⟩:=List.getElem_of_mem hu
     have h2:=hin k hk (hg k hk)
     rw[List.getD_eq_getElem?_getD,List.getElem?_eq_getElem hk,Option.getD_some]at h2
     omega⟩
    rw[<-lexL_one _ s hs]
    refine List.filter_congr fun t ht=>?_
    rw[Bool.eq_iff_iff]
    simp only[decide_eq_true_eq,Bool.and_eq_true]
    constructor
    ·rintro rfl
     refine⟨?_,?_⟩
     ·simp[agrB]
     ·simp only[allB,hb,Bool.not_false,Bool.and_true,List.all_eq_true,decide_eq_true_eq];exact hz
    ·rintro⟨h1,_⟩
     have hlt:=lexL_len _ t ht
     refine List.ext_getElem hlt fun i h2 h3=>?_
     have:=agr_at h1 (hg i h3)
     rw[List.getD_eq_getElem?_getD,List.getElem?_eq_getElem h2,List.getD_eq_getElem?_getD,List.getElem?_eq_getElem h3]at this
     exact this
   |some k=>
    simp only
    obtain⟨hk,h0,hlt⟩:=findIdx_first hf
    rw[lex_split k s.length _ (s.take k) (by rw[List.length_take];omega) hk fun t ht=>?_]
    ·rw[mems_4 fun u hu=>(hel k u hu).2,flatMap_filter']
     refine flatMap_congr' fun u hu=>?_
     by_cases he:elA p k u=true
     ·rw[if_pos he]
      have hu1:=hel k u he
      have hu0:((u:Nat):Int)≠0:=by omega
      have hz:=zerN_set hk h0 hu0
      rw[src_lex hel m _ (by omega),List.length_set]
      refine List.filter_congr fun t ht=>?_
      rw[agr_set hk h0 hu0]
      cases agrB s t<;>cases allB p t<;>simp
     ·rw[if_neg he]
      symm
      refine filter_none fun t ht=>?_
      have hlt:=lexL_len _ t ht
      by_cases hd:t.getD k 0=((u:Nat):Int)
      ·have:allB p t=false:=by
        by_cases h00:u=0
        ·subst h00
         have hm:(0:Int)∈t:=by
          have:t[k]'(by omega)=0:=by
           rw[List.getD_eq_getElem?_getD,List.getElem?_eq_getElem (by omega)]at hd;simpa using hd
          rw[<-this];exact List.getElem_mem _
         simp only[allB,Bool.and_eq_false_iff]
         left
         rw[List.all_eq_false]
         exact⟨0,hm,by simp⟩
        ·have:elB p t=true:=elB_iff.2 ⟨k,by omega,by rw[hd];omega,by
          rw[hd]
          have:=List.mem_range.1 hu
          rw[memI_nat (by omega)]
          simpa using he⟩
         simp[allB,brkB,this]
       simp[this]
      ·rw[decide_eq_false hd];simp
    ·simp only[Bool.and_eq_true]at ht
     refine List.ext_getElem? fun i=>?_
     rw[List.getElem?_take,List.getElem?_take]
     split
     ·next hi=>
      have hn:=hlt i hi
      have h1:=agr_at ht.1 hn
      have hti:i<t.length:=by
       apply Classical.byContradiction
       intro hc
       rw[List.getD_eq_getElem?_getD,List.getElem?_eq_none (by omega)]at h1
       exact hn h1.symm
      rw[List.getD_eq_getElem?_getD,List.getElem?_eq_getElem hti,List.getD_eq_getElem?_getD,List.getElem?_eq_getElem (by omega)]at h1
      rw[List.getElem?_eq_getElem hti,List.getElem?_eq_getElem (by omega)]
      exact congrArg some h1
     ·rfl
end Go.Mg

/- Lemmas of ours. No conditions. -/
import Derived.Test.YteeemadonfcliaaGreatDoorMgVC
open Nat renaming reduceEqDiff→Za,reduceAdd→Zb,reduceMul→Zc,reduceLeDiff→Zd,reduceLT→Ze
open Int renaming reduceBEq→Zf,reduceBNe→Zg,reduceLE→Zh,reduceLT→Zi
set_option linter.all false
set_option maxRecDepth 100000
namespace Go.Mg
def dH:Nat->List (List Int)
 |0=>[[]]
 |n+1=>(List.range 5).flatMap fun u:Nat=>(dH n).map fun s=>((u:Nat):Int)::s
theorem lH:∀(n:Nat),∀s∈dH n,s.length=n
 |0,s,h=>by simp[dH]at h;subst h;rfl
 |n+1,s,h=>by
  simp only[dH,List.mem_flatMap,List.mem_map]at h;obtain⟨u,_,t,ht,rfl⟩:=h;simp[lH n t ht]
theorem gF:∀{n:Nat} {s:List Int},s∈dH n↔s.length=n/\∀u∈s,0<=u/\u<=4
 |0,s=>by
  simp only[dH,List.mem_singleton]
  constructor
  ·rintro rfl;simp
  ·rintro⟨h,_⟩;exact List.eq_nil_of_length_eq_zero h
 |n+1,s=>by
  simp only[dH,List.mem_flatMap,List.mem_map,List.mem_range]
  constructor
  ·rintro⟨u,hu,t,ht,rfl⟩;obtain⟨h1,h2⟩:=gF.1 ht;refine⟨by simp[h1],fun v hv=>?_⟩;rcases List.mem_cons.1 hv with rfl|hv
   ·omega
   ·exact h2 v hv
  ·rintro⟨h1,h2⟩
   match s,h1 with
   |u::t,h1=>
    have hu:=h2 u List.mem_cons_self;refine⟨u.toNat,by omega,t,gF.2 ⟨by simpa using h1,fun v hv=>h2 v (List.mem_cons_of_mem _ hv)⟩,?_⟩;rw[Int.toNat_of_nonneg hu.1]
variable {α β:Type} {s t:List Int} {k:Nat} {u:Int}
theorem filter_none {l:List α} {p:α->Bool} (h:∀x∈l,p x=false):l.filter p=[]:=by
 rw[List.filter_eq_nil_iff];intro x hx;rw[h x hx];simp
theorem cQ (f:α->List β) (p:β->Bool) (l:List α):(l.flatMap f).filter p=l.flatMap fun x=>(f x).filter p:=by
 induction l with
 |nil=>rfl
 |cons a l ih=>simp only[List.flatMap_cons,List.filter_append,ih]
theorem bj {f g:α->List β} {l:List α} (h:∀x∈l,f x=g x):l.flatMap f=l.flatMap g:=by
 induction l with
 |nil=>rfl
 |cons a l ih=>simp only[List.flatMap_cons,h a List.mem_cons_self,ih fun x hx=>h x (List.mem_cons_of_mem _ hx)]
theorem eV {β:Type} (g:Nat->List β) (v:Nat):∀m,((List.range m).flatMap fun u=>if u=v then g u else[])=if v<m then g v else[]
 |0=>rfl
 |m+1=>by
  rw[List.range_succ,List.flatMap_append,eV g v m];simp only[List.flatMap_cons,List.flatMap_nil,List.append_nil]
  by_cases h1:v<m
  ·rw[if_pos h1,if_neg (by omega),if_pos (by omega),List.append_nil]
  ·rw[if_neg h1]
   by_cases h2:m=v
   ·subst h2;rw[if_pos rfl,if_pos (by omega)];rfl
   ·rw[if_neg h2,if_neg (by omega)];rfl
theorem rJ:∀(k n:Nat) (q:List Int->Bool) (c:List Int),c.length=k->k<n->(∀s,q s=true->s.take k=c)→
  (dH n).filter q=(List.range 5).flatMap fun u=>(dH n).filter fun s=>q s&&decide (s.getD k 0=((u:Nat):Int))
 |0,0,_,_,_,h,_=>by omega
 |k+1,0,_,_,_,h,_=>by omega
 |0,n+1,q,c,hc,hk,hq=>by
  have e:∀u<5,((dH (n+1)).filter fun s=>q s&&decide (s.getD 0 0=((u:Nat):Int)))=((dH n).map fun s=>((u:Nat):Int)::s).filter q:=fun u hu=>by
   simp only[dH];rw[cQ];have:∀v∈List.range 5,(((dH n).map fun s=>((v:Nat):Int)::s).filter fun s=>q s&&decide (s.getD 0 0=((u:Nat):Int)))=if v=u then((dH n).map fun s=>((v:Nat):Int)::s).filter q else[]:=fun v _=>by
    split
    ·next h=>
     subst h;refine List.filter_congr fun s hs=>?_;obtain⟨t,_,rfl⟩:=List.mem_map.1 hs;simp
    ·next h=>
     refine filter_none fun s hs=>?_;obtain⟨t,_,rfl⟩:=List.mem_map.1 hs;have:¬((v:Nat):Int)=((u:Nat):Int):=by omega
     simp[this]
   rw[bj this,eV (fun v=>((dH n).map fun s=>((v:Nat):Int)::s).filter q) u 5,if_pos hu]
  rw[bj (g:=fun u=>((dH n).map fun s=>((u:Nat):Int)::s).filter q) fun u hu=>e u (List.mem_range.1 hu)];simp only[dH];rw[cQ]
 |k+1,n+1,q,[],hc,hk,hq=>by simp at hc
 |k+1,n+1,q,a::c,hc,hk,hq=>by
  have hs:∀(q':List Int->Bool),(∀s,q' s=true->q s=true)->(dH (n+1)).filter q'=(List.range 5).flatMap fun u=>if((u:Nat):Int)=a then((dH n).filter fun s=>q' (((u:Nat):Int)::s)).map fun s=>((u:Nat):Int)::s else[]:=fun q' iJ=>by
   simp only[dH];rw[cQ];refine bj fun u _=>?_
   split
   ·rw[List.filter_map];rfl
   ·next h=>
    refine filter_none fun s hs=>?_;obtain⟨t,_,rfl⟩:=List.mem_map.1 hs
    cases hb:q' (((u:Nat):Int)::t)with
    |false=>rfl
    |true=>
     have:=hq _ (iJ _ hb);simp only[List.take_succ_cons,List.cons.injEq]at this;exact absurd this.1 h
  by_cases ha:∃v:Nat,v<5/\((v:Nat):Int)=a
  ·obtain⟨v,hv,rfl⟩:=ha;have pick:∀(g:Nat->List (List Int)),((List.range 5).flatMap fun u=>if((u:Nat):Int)=((v:Nat):Int)then g u else[])=g v:=fun g=>by
    rw[bj (g:=fun u=>if u=v then g u else[]) fun u _=>by
     by_cases h:u=v
     ·rw[if_pos h,if_pos (by omega)]
     ·rw[if_neg h,if_neg (by omega)]]
    rw[eV,if_pos hv]
   rw[hs q fun _ h=>h,pick];have ih:=rJ k n (fun s=>q (((v:Nat):Int)::s)) c (by simpa using hc) (by omega) fun s h=>by
    have:=hq _ h;simp only[List.take_succ_cons,List.cons.injEq]at this;exact this.2
   rw[ih,List.map_flatMap];refine bj fun u _=>?_;rw[hs (fun s=>q s&&decide (s.getD (k+1) 0=((u:Nat):Int))) (fun s h=>by simp only[Bool.and_eq_true]at h;exact h.1),pick]
   rfl
  ·have none:∀(g:Nat->List (List Int)),((List.range 5).flatMap fun u=>if((u:Nat):Int)=a then g u else[])=[]:=fun g=>by
    rw[bj (g:=fun _=>[]) fun u hu=>if_neg fun e=>ha ⟨u,List.mem_range.1 hu,e⟩];simp
   rw[hs q fun _ h=>h,none]
   symm
   rw[bj (g:=fun _=>[]) fun u _=>by rw[hs (fun s=>q s&&decide (s.getD (k+1) 0=((u:Nat):Int))) (fun s h=>by simp only[Bool.and_eq_true]at h;exact h.1),none]];simp
theorem xe:∀(n:Nat) (s:List Int),s∈dH n->(dH n).filter (fun t=>decide (t=s))=[s]
 |0,s,h=>by simp[dH]at h;subst h;rfl
 |n+1,s,h=>by
  obtain⟨h1,h2⟩:=gF.1 h
  match s,h1,h2 with
  |a::s',h1,h2=>
   have ha:=h2 a List.mem_cons_self;obtain⟨v,rfl⟩:∃v:Nat,a=(v:Int):=⟨a.toNat,by omega⟩
   have bO:s'∈dH n:=gF.2 ⟨by simpa using h1,fun u hu=>h2 u (List.mem_cons_of_mem _ hu)⟩;simp only[dH];rw[cQ,bj (g:=fun u=>if u=v then[((v:Nat):Int)::s']else[]) fun u _=>?_,eV,if_pos (by omega)];rw[List.filter_map]
   by_cases e:u=v
   ·subst e;rw[if_pos rfl];have:((fun t=>decide (t=((u:Nat):Int)::s'))∘fun s=>((u:Nat):Int)::s)=fun t=>decide (t=s'):=by
     funext t;simp
    rw[this,xe n s' bO];rfl
   ·rw[if_neg e];have:((fun t=>decide (t=((v:Nat):Int)::s'))∘fun s=>((u:Nat):Int)::s)=fun t=>false:=by
     funext t
     have:¬((u:Nat):Int)=((v:Nat):Int):=by omega
     simp[this]
    rw[this];simp
structure eX where
 el:List (Nat->Bool)
 di:List gR
 sa:List gR
 mo:List Dk
def bS (p:eX) (k:Nat):Nat->Bool:=p.el.getD k fun _=>false
def IF (p:eX) (s:List Int):Bool:=(List.range s.length).any fun k=>decide (s.getD k 0≠0)&&!cX (bS p k) (s.getD k 0)
def cZ (p:eX) (s:List Int):Bool:=IF p s||p.di.any (jU s)||p.sa.any (mB s)||p.mo.any (mC s)
def c9 (p:eX):Nat->List Int->List (List Int)
 |0,_=>[]
 |m+1,s=>if cZ p s=true then[]else match s.findIdx? (fun u=>decide (u=0))with
  |none=>[s]
  |some k=>(aD (bS p k)).flatMap fun u=>c9 p m (s.set k ((u:Nat):Int))
def et (s t:List Int):Bool:=(List.range s.length).all fun k=>decide (s.getD k 0=0)||decide (s.getD k 0=t.getD k 0)
def eK (p:eX) (t:List Int):Bool:=(t.all fun u=>decide (u≠0))&&!cZ p t
theorem jb (h:et s t=true) (hk:s.getD k 0≠0):t.getD k 0=s.getD k 0:=by
 unfold et at h;rw[List.all_eq_true]at h
 by_cases hl:k<s.length
 ·have:=h k (List.mem_range.2 hl);simp only[Bool.or_eq_true,decide_eq_true_eq]at this;rcases this with h|h
  ·exact absurd h hk
  ·exact h.symm
 ·rw[List.getD_eq_getElem?_getD,List.getElem?_eq_none (by omega)]at hk;exact absurd rfl hk
theorem dY {p:eX}:IF p s=true↔∃k,k<s.length/\s.getD k 0≠0/\cX (bS p k) (s.getD k 0)=false:=by
 unfold IF;simp only[List.any_eq_true,List.mem_range,Bool.and_eq_true,decide_eq_true_eq,Bool.not_eq_true']
theorem xf {p:eX} (hl:t.length=s.length) (h:et s t=true) (hb:cZ p s=true):cZ p t=true:=by
 have at_:∀k,s.getD k 0≠0->t.getD k 0=s.getD k 0:=fun k hk=>jb h hk
 unfold cZ at hb⊢;simp only[Bool.or_eq_true]at hb⊢;rcases hb with((hb|hb)|hb)|hb
 ·obtain⟨k,h1,h2,h3⟩:=dY.1 hb;exact .inl (.inl (.inl (dY.2 ⟨k,by omega,by rw[at_ k h2];exact h2,by rw[at_ k h2];exact h3⟩)))
 ·obtain⟨x,hx,h1⟩:=List.any_eq_true.1 hb;refine .inl (.inl (.inr (List.any_eq_true.2 ⟨x,hx,?_⟩)));simp only[jU,sI,Bool.and_eq_true]at h1⊢;obtain⟨h1,h2⟩:=h1;have h1:=of_decide_eq_true h1;have h2:=of_decide_eq_true h2;refine⟨decide_eq_true ?_,decide_eq_true ?_⟩
  ·rw[at_ _ h1];exact h1
  rw[at_ _ h1,at_ _ (by rw[<-h2];exact h1)];exact h2
 ·obtain⟨x,hx,h1⟩:=List.any_eq_true.1 hb;refine .inl (.inr (List.any_eq_true.2 ⟨x,hx,?_⟩));simp only[mB,sI,Bool.and_eq_true]at h1⊢;obtain⟨⟨h1,h2⟩,h3⟩:=h1;have D0:=of_decide_eq_true h1;have Iw:=of_decide_eq_true h2;have QU:=of_decide_eq_true h3;refine⟨⟨decide_eq_true ?_,decide_eq_true ?_⟩,decide_eq_true ?_⟩
  ·rw[at_ _ D0];exact D0
  ·rw[at_ _ Iw];exact Iw
  ·rw[at_ _ D0,at_ _ Iw];exact QU
 ·obtain⟨x,hx,h1⟩:=List.any_eq_true.1 hb;refine .inr (List.any_eq_true.2 ⟨x,hx,?_⟩);obtain⟨u,hu,h2⟩:=List.any_eq_true.1 h1;simp only[Bool.and_eq_true,decide_eq_true_eq]at h2;obtain⟨h2,h3⟩:=h2;obtain⟨k,hk,rfl⟩:=List.getElem_of_mem hu;have hg:s.getD k 0=s[k]:=by rw[List.getD_eq_getElem?_getD,List.getElem?_eq_getElem hk];rfl
  have ht:=at_ k (by rw[hg];exact h2)
  rw[hg,List.getD_eq_getElem?_getD,List.getElem?_eq_getElem (by omega),Option.getD_some]at ht;refine List.any_eq_true.2 ⟨s[k],by rw[<-ht];exact List.getElem_mem _,?_⟩;simp only[Bool.and_eq_true,decide_eq_true_eq];refine⟨h2,Int.lt_of_lt_of_le h3 ?_⟩;rw[hl];have:Q4 s x.2 s[k] s.length<=Q4 t x.2 s[k] s.length:=by
   refine eU fun i _ hi=>?_;simp only[Bool.and_eq_true,decide_eq_true_eq]at hi⊢;exact⟨hi.1,by rw[at_ i (by rw[hi.2];exact h2)];exact hi.2⟩
  omega
def eM (s:List Int):Nat:=s.countP fun u=>decide (u=0)
theorem bf (h:s.findIdx? (fun u=>decide (u=0))=some k):k<s.length/\s.getD k 0=0/\∀j<k,s.getD j 0≠0:=by
 obtain⟨hk,h1,h2⟩:=List.findIdx?_eq_some_iff_getElem.1 h;refine⟨hk,?_,fun j hj=>?_⟩
 ·rw[List.getD_eq_getElem?_getD,List.getElem?_eq_getElem hk];simpa using h1
 ·rw[List.getD_eq_getElem?_getD,List.getElem?_eq_getElem (by omega)];simpa using h2 j hj
theorem gG (hk:k<s.length) (h0:s.getD k 0=0) (hu:u≠0):eM (s.set k u)+1=eM s:=by
 unfold eM;rw[List.countP_set hk];rw[List.getD_eq_getElem?_getD,List.getElem?_eq_getElem hk,Option.getD_some]at h0;have hp:0<s.countP fun u=>decide (u=0):=List.countP_pos_iff.2 ⟨s[k],List.getElem_mem _,by simp[h0]⟩;simp[h0,hu];omega
theorem pK (s:List Int) (k j:Nat) (u:Int) (hk:k<s.length):(s.set k u).getD j 0=if j=k then u else s.getD j 0:=by
 rw[List.getD_eq_getElem?_getD,List.getD_eq_getElem?_getD,List.getElem?_set]
 by_cases h:k=j
 ·subst h;simp[hk]
 ·rw[if_neg h,if_neg (fun e=>h e.symm)]
theorem jq (hk:k<s.length) (h0:s.getD k 0=0) (hu:u≠0):et (s.set k u) t=(et s t&&decide (t.getD k 0=u)):=by
 rw[Bool.eq_iff_iff];unfold et;simp only[Bool.and_eq_true,List.all_eq_true,List.mem_range,Bool.or_eq_true,decide_eq_true_eq,List.length_set]
 constructor
 ·intro h;refine⟨fun j hj=>?_,?_⟩
  ·have:=h j hj;rw[pK s k j u hk]at this
   by_cases e:j=k
   ·rw[e];exact .inl h0
   ·rw[if_neg e]at this;exact this
  ·have:=h k hk;rw[pK s k k u hk,if_pos rfl]at this;rcases this with h|h
   ·exact absurd h hu
   ·exact h.symm
 ·rintro⟨h1,h2⟩ j hj;rw[pK s k j u hk]
  by_cases e:j=k
  ·rw[if_pos e,e];exact .inr h2.symm
  ·rw[if_neg e];exact h1 j hj
theorem Pl {q:Nat->Bool} (h:∀u,q u=true->u<=4):aD q=(List.range 5).filter q:=by
 unfold aD;have:(4096:Nat)=5+4091:=rfl;rw[this,List.range_add,List.filter_append];rw[filter_none (l:=(List.range 4091).map (5+·)) fun x hx=>?_,List.append_nil];obtain⟨y,_,rfl⟩:=List.mem_map.1 hx
 cases hb:q (5+y)with
 |false=>rfl
 |true=>have:=h _ hb;omega
theorem iB {α β:Type} (q:α->Bool) (f:α->List β):∀l:List α,(l.filter q).flatMap f=l.flatMap fun x=>if q x=true then f x else[]
 |[]=>rfl
 |a::l=>by
  rw[List.filter_cons,List.flatMap_cons,<-iB q f l]
  split<;>simp
theorem BM {p:eX} (hel:∀k u,bS p k u=true->1<=u/\u<=4):∀(m:Nat) (s:List Int),eM s<m->c9 p m s=(dH s.length).filter fun t=>et s t&&eK p t
 |0,s,h=>by omega
 |m+1,s,h=>by
  rw[c9]
  by_cases hb:cZ p s=true
  ·rw[if_pos hb]
   symm
   refine filter_none fun t ht=>?_
   cases ha:et s t with
   |false=>rfl
   |true=>
    have:=xf (lH _ t ht) ha hb;simp[eK,this]
  ·rw[if_neg hb];have hb:cZ p s=false:=by simpa using hb
   have SN:IF p s=false:=by
    unfold cZ at hb;simp only[Bool.or_eq_false_iff]at hb;exact hb.1.1.1
   have hin:∀k,k<s.length->s.getD k 0≠0->1<=s.getD k 0/\s.getD k 0<=4:=fun k hk h0=>by
    have:cX (bS p k) (s.getD k 0)=true:=by
     cases hm:cX (bS p k) (s.getD k 0)with
     |true=>rfl
     |false=>rw[dY.2 ⟨k,hk,h0,hm⟩]at SN;cases SN
    unfold cX at this;simp only[Bool.and_eq_true,decide_eq_true_eq]at this;have:=hel k _ this.2;omega
   cases hf:s.findIdx? (fun u=>decide (u=0))with
   |none=>
    simp only;have hz:∀u∈s,u≠0:=by
     rw[List.findIdx?_eq_none_iff]at hf;intro u hu;simpa using hf u hu
    have hg:∀k,k<s.length->s.getD k 0≠0:=fun k hk=>by
     rw[List.getD_eq_getElem?_getD,List.getElem?_eq_getElem hk];exact hz _ (List.getElem_mem _)
    have hs:s∈dH s.length:=gF.2 ⟨rfl,fun u hu=>by
     obtain⟨k,hk,rfl⟩:=List.getElem_of_mem hu;have h2:=hin k hk (hg k hk);rw[List.getD_eq_getElem?_getD,List.getElem?_eq_getElem hk,Option.getD_some]at h2;omega⟩
    rw[<-xe _ s hs];refine List.filter_congr fun t ht=>?_;rw[Bool.eq_iff_iff];simp only[decide_eq_true_eq,Bool.and_eq_true]
    constructor
    ·rintro rfl;refine⟨?_,?_⟩
     ·simp[et]
     ·simp only[eK,hb,Bool.not_false,Bool.and_true,List.all_eq_true,decide_eq_true_eq];exact hz
    ·rintro⟨h1,_⟩;have hlt:=lH _ t ht;refine List.ext_getElem hlt fun i h2 h3=>?_;have:=jb h1 (hg i h3);rw[List.getD_eq_getElem?_getD,List.getElem?_eq_getElem h2,List.getD_eq_getElem?_getD,List.getElem?_eq_getElem h3]at this;exact this
   |some k=>
    simp only;obtain⟨hk,h0,hlt⟩:=bf hf;rw[rJ k s.length _ (s.take k) (by rw[List.length_take];omega) hk fun t ht=>?_]
    ·rw[Pl fun u hu=>(hel k u hu).2,iB];refine bj fun u hu=>?_
     by_cases he:bS p k u=true
     ·rw[if_pos he];have hu1:=hel k u he;have Va:((u:Nat):Int)≠0:=by omega
      have hz:=gG hk h0 Va;rw[BM hel m _ (by omega),List.length_set];refine List.filter_congr fun t ht=>?_;rw[jq hk h0 Va]
      cases et s t<;>cases eK p t<;>simp
     ·rw[if_neg he]
      symm
      refine filter_none fun t ht=>?_;have hlt:=lH _ t ht
      by_cases hd:t.getD k 0=((u:Nat):Int)
      ·have:eK p t=false:=by
        by_cases h00:u=0
        ·subst h00;have hm:(0:Int)∈t:=by
          have:t[k]'(by omega)=0:=by
           rw[List.getD_eq_getElem?_getD,List.getElem?_eq_getElem (by omega)]at hd;simpa using hd
          rw[<-this];exact List.getElem_mem _
         simp only[eK,Bool.and_eq_false_iff]
         left
         rw[List.all_eq_false];exact⟨0,hm,by simp⟩
        ·have:IF p t=true:=dY.2 ⟨k,by omega,by rw[hd];omega,by
          rw[hd];have:=List.mem_range.1 hu;rw[lE (by omega)];simpa using he⟩
         simp[eK,cZ,this]
       simp[this]
      ·rw[decide_eq_false hd];simp
    ·simp only[Bool.and_eq_true]at ht;refine List.ext_getElem? fun i=>?_;rw[List.getElem?_take,List.getElem?_take]
     split
     ·next hi=>
      have hn:=hlt i hi;have h1:=jb ht.1 hn;have Uv:i<t.length:=by
       apply Classical.byContradiction;intro hc;rw[List.getD_eq_getElem?_getD,List.getElem?_eq_none (by omega)]at h1;exact hn h1.symm
      rw[List.getD_eq_getElem?_getD,List.getElem?_eq_getElem Uv,List.getD_eq_getElem?_getD,List.getElem?_eq_getElem (by omega)]at h1;rw[List.getElem?_eq_getElem Uv,List.getElem?_eq_getElem (by omega)];exact congrArg some h1
     ·rfl
end Go.Mg
namespace Go.Mg
open Go Go.RowKit
def pL (ι:aJ):S:=
 kY [kC 4 (.int .i64 0)] (.seq (kY [kA 6 0,kV 7 (.m (.lenl (.t 6))),kC 8 (.int .i64 0)] (.blk 0 (.loop (kY [kH 9 8 7] (.seq (.ite (.v 9) .skip (.exit 0)) (.seq (.blk 1 (kY [kA 10 8,kB 5 10] (kY [kA 11 1,kA 12 0,kA 13 5,kI 14 1 12 13,kD 15 14,kd 16 (.callv (.t 11) [.t 15])] (.ite (.v 16) (kY [kA 17 5,kB 4 17] .ret) .skip)))) (.reg [ke 18 8,kB 8 18]))))))) (kY [kC 4 (.int .i64 (-1))] .ret))
def pM:List RV:=[.t 4]
def pN (ι:aJ):S:=
 kY [kC 4 (.bool false)] (kY [kA 5 0,kA 6 1,kc 7 (kg (ι.f 353) [.t 5,.t 6]),kU 8 (.cm .geq .i64 (.t 7) (.c (.int .i64 0))),kB 4 8] .ret)
def pO:List RV:=[.t 4]
def uk (ι:aJ):S:=
 kY [kC 2 (.bool false)] (kY [kA 3 0,kU 4 (.cm .geq .i64 (.t 3) (.c (.int .i64 1))),kF 5 4,kS 6 5 true 0,kT 7 5 true (.cm .leq .i64 (.t 6) (.c (.int .i64 256))),kJ 8 5 7,kB 2 8] .ret)
def um:List RV:=[.t 2]
def pP (ι:aJ):S:=
 kY [kC 2 (.bool false)] (kY [kA 3 0,kU 4 (.cm .neq .i64 (.t 3) (.c (.int .i64 0))),kF 5 4,kS 6 5 true 0,.ge (.t 7) (.t 5) true (kg (ι.f 355) [.t 6]),kT 8 5 true (.not (.t 7)),kJ 9 5 8,kB 2 9] .ret)
def pQ:List RV:=[.t 2]
def pR (ι:aJ):S:=
 kY [kC 2 (.bool false)] (kY [kA 3 0,kU 4 (.cm .neq .i64 (.t 3) (.c (.int .i64 0))),kF 5 4,kS 6 5 true 0,.ge (.t 7) (.t 5) true (kg (ι.f 355) [.t 6]),kT 8 5 true (.not (.t 7)),kJ 9 5 8,kB 2 9] .ret)
def pS:List RV:=[.t 2]
def zh (ι:aJ):S:=
 kY [kR 2 (ι.t 358) 0,kC 4 (.int .i64 0)] (.seq (kY [kV 7 (.mv (.v 1)),kO 8 7,kC 9 (.int .i64 0)] (.blk 0 (.loop (kY [kH 10 9 8] (.seq (.ite (.v 10) .skip (.exit 0)) (.seq (.blk 1 (kY [kK 11 2 7 9,kN 12 2 11,kd 6 (.new (ι.t 194) #[.int .i64 0,.int .i64 0]),kf (.stn 2 (.v 6) (.t 12))] (.seq (kY [kP 13 2 1 6 0,kD 14 13,kP 15 2 1 6 1,kD 16 15,kU 17 (.m (.mn (.t 14) (.t 16))),kU 18 (.cm .lss .i64 (.t 17) (.c (.int .i64 0))),kF 19 18,kT 20 19 false (.ia 2 1 (.v 6) (.c (.int .i64 0))),kT 21 19 false (.ld (.t 20)),kT 22 19 false (.ia 2 1 (.v 6) (.c (.int .i64 1))),kT 23 19 false (.ld (.t 22)),kT 24 19 false (.m (.mx (.t 21) (.t 23))),kT 25 19 false (.fa 0 (.v 2)),kT 26 19 false (.ld (.t 25)),kT 27 19 false (.m (.lenl (.t 26))),kT 28 19 false (.cm .geq .i64 (.t 24) (.t 27)),kV 29 (.pick (.t 19) (.c (.bool true)) (.t 28))] (.ite (.v 29) (kY [kC 4 (.int .i64 2)] .ret) .skip)) (kY [kP 30 2 1 6 0,kD 31 30,kP 32 2 1 6 1,kD 33 32,kV 34 (.cm .eql .i64 (.t 31) (.t 33))] (.ite (.v 34) (kY [kC 4 (.int .i64 1)] .ret) .skip))))) (.reg [ke 35 9,kB 9 35]))))))) (kY [kC 4 (.int .i64 0)] .ret))
def zi:List RV:=[.t 4]
def uq (ι:aJ):S:=
 kY [kR 1 (ι.t 358) 0,kC 2 (.int .i64 0)] (kY [kG 10 0 1,kD 11 10,kL 12 11,kB 3 12] (.seq (.blk 0 (kY [kA 14 3,kU 15 (.cm .eql .i64 (.t 14) (.c (.int .i64 0))),kB 13 15] (.ite (.v 13) (kY [kC 2 (.int .i64 4)] .ret) (kY [kA 17 3,kU 18 (.cm .gtr .i64 (.t 17) (.c (.int .i64 10))),kF 19 18,kT 20 19 false (.fa 1 (.v 1)),kT 21 19 false (.ld (.t 20)),kT 22 19 false (.m (.lenl (.t 21))),kT 23 19 false (.fa 2 (.v 1)),kT 24 19 false (.ld (.t 23)),kT 25 19 false (.m (.lenl (.t 24))),kT 26 19 false (.fa 3 (.v 1)),kT 27 19 false (.ld (.t 26)),kT 28 19 false (.m (.lenl (.t 27))),kT 29 19 false (.m (.mxs (.t 22) [.t 25,.t 28])),kT 30 19 false (.cm .gtr .i64 (.t 29) (.c (.int .i64 20))),kU 31 (.pick (.t 19) (.c (.bool true)) (.t 30)),kB 16 31] (.ite (.v 16) (kY [kC 2 (.int .i64 3)] .ret) (kY [kG 33 4 1,kD 34 33,kL 35 34,kA 36 3,kU 37 (.cm .neq .i64 (.t 35) (.t 36)),kB 32 37] (.ite (.v 32) (kY [kC 2 (.int .i64 1)] .ret) .skip))))))) (.seq (kY [kG 38 0 1,kV 39 (.ld (.t 38)),kO 40 39,kC 41 (.int .i64 0)] (.blk 1 (.loop (kY [kH 42 41 40] (.seq (.ite (.v 42) .skip (.exit 1)) (.seq (.blk 2 (kY [kK 43 1 39 41,kN 44 1 43,kd 5 (.new (ι.t 128) #[kZ]),kf (.stn 1 (.v 5) (.t 44))] (.seq (.dr (kW 45 (.m (.ldn 1 (.v 5))) (ka 46 (kg (ι.f 130) [.t 45,.c (.int .i64 0)]) (kW 47 (.mv (.t 46)) (.px (.t 48) (.some (.t 47,false)) (.m (.ldn 1 (.v 5))) (.wcons (.t 49) (.some (.t 47,false)) (kg (ι.f 306) [.c (.int .i64 257)]) (.wcons (.t 50) (.some (.t 47,false)) (kg (ι.f 141) [.t 48,.t 49]) (.px (.t 51) (.some (.t 47,false)) (.not (.t 50)) (kX 52 (.pick (.t 47) (.c (.bool true)) (.t 51)) .done)) .wnil) .wnil))) .wnil))) (.ite (.v 52) (kY [kC 2 (.int .i64 2)] .ret) .skip)))) (.reg [ke 53 41,kB 41 53]))))))) (.seq (kY [kG 54 4 1,kD 55 54,kd 56 (kg (ι.f 354) [.t 55,.c (.func (.func (ι.f 356)) #[] #[])])] (.ite (.v 56) (kY [kC 2 (.int .i64 2)] .ret) .skip)) (.seq (kY [kM 57 5 1,kG 58 1 1,kD 59 58,kc 60 (kg (ι.f 359) [.t 57,.t 59]),kB 6 60] (kY [kA 61 6,kV 62 (.cm .neq .i64 (.t 61) (.c (.int .i64 0)))] (.ite (.v 62) (kY [kA 63 6,kB 2 63] .ret) .skip))) (.seq (kY [kM 64 5 1,kG 65 2 1,kD 66 65,kc 67 (kg (ι.f 359) [.t 64,.t 66]),kB 7 67] (kY [kA 68 7,kV 69 (.cm .neq .i64 (.t 68) (.c (.int .i64 0)))] (.ite (.v 69) (kY [kA 70 7,kB 2 70] .ret) .skip))) (.seq (kY [kG 71 3 1,kV 72 (.ld (.t 71)),kO 73 72,kC 74 (.int .i64 0)] (.blk 3 (.loop (kY [kH 75 74 73] (.seq (.ite (.v 75) .skip (.exit 3)) (.seq (.blk 4 (kY [kK 76 2 72 74,kN 77 2 76,kd 9 (.new (ι.t 298) #[.int .i64 0,kZ]),kf (.stn 2 (.v 9) (.t 77))] (.seq (.dr (kW 78 (.fa 0 (.v 9)) (kW 79 (.ld (.t 78)) (kW 80 (.cm .lss .i64 (.t 79) (.c (.int .i64 1))) (kW 81 (.mv (.t 80)) (.px (.t 82) (.some (.t 81,false)) (.fa 0 (.v 9)) (.px (.t 83) (.some (.t 81,false)) (.ld (.t 82)) (.px (.t 84) (.some (.t 81,false)) (.cm .gtr .i64 (.t 83) (.c (.int .i64 10))) (kW 85 (.pick (.t 81) (.c (.bool true)) (.t 84)) (kW 86 (.mv (.t 85)) (.px (.t 87) (.some (.t 86,false)) (.fa 1 (.v 9)) (.px (.t 88) (.some (.t 86,false)) (.m (.ldn 1 (.t 87))) (.wcons (.t 89) (.some (.t 86,false)) (kg (ι.f 133) [.t 88]) (kW 90 (.pick (.t 86) (.c (.bool true)) (.t 89)) (kW 91 (.mv (.t 90)) (.px (.t 92) (.some (.t 91,false)) (.fa 1 (.v 9)) (.px (.t 93) (.some (.t 91,false)) (.m (.ldn 1 (.t 92))) (.px (.t 94) (.some (.t 91,false)) (.mv (.v 3)) (.wcons (.t 95) (.some (.t 91,false)) (kg (ι.f 306) [.t 94]) (.wcons (.t 96) (.some (.t 91,false)) (kg (ι.f 141) [.t 93,.t 95]) (.px (.t 97) (.some (.t 91,false)) (.not (.t 96)) (kX 98 (.pick (.t 91) (.c (.bool true)) (.t 97)) .done)) .wnil) .wnil)))))) .wnil))))))))))))) (.ite (.v 98) (kY [kC 2 (.int .i64 2)] .ret) .skip)))) (.reg [ke 99 74,kB 74 99]))))))) (kY [kC 2 (.int .i64 0)] .ret))))))))
def ur:List RV:=[.t 2]
def uu (ι:aJ):S:=
 kY [kR 2 (ι.t 358) 0,kC 4 (.bool false)] (kY [kM 5 5 2,kc 6 (kg (ι.f 360) [.t 5]),kU 7 (.cm .eql .i64 (.t 6) (.c (.int .i64 0))),kF 8 7,kS 9 8 true 1,kT 10 8 true (.m (.lenl (.t 9))),kT 11 8 true (.fa 0 (.v 2)),kT 12 8 true (.ld (.t 11)),kT 13 8 true (.m (.lenl (.t 12))),kT 14 8 true (.cm .eql .i64 (.t 10) (.t 13)),kJ 15 8 14,kF 16 15,kS 17 16 true 1,.ge (.t 18) (.t 16) true (kg (ι.f 354) [.t 17,.c (.func (.func (ι.f 357)) #[] #[])]),kT 19 16 true (.not (.t 18)),kJ 20 16 19,kB 4 20] .ret)
def uw:List RV:=[.t 4]
def SO (P:Program) (q:Int->Bool) (l:List Int) (g:FuncId):Prop:=bF P g=true/\∀x∈l,∀A,an P g #[.int .i64 x] A fun r A'=>r=.bool (q x)/\A'=A
def xg (P:Program) (k:FuncId):Prop:=∀(l:List Int) (q:Int->Bool) (v:Value) (g:FuncId) (H:Hp),aG H v (iL l)->l.length<=1000000->SO P q l g->an P k #[v,.func (.func g) #[] #[]] H fun r H'=>r=.int .i64 (ja q l)/\H'=H
variable {H H':Hp} {v:Value} {i:Nat} {P:Program} {ι:aJ} {k:FuncId} {p:eX} {fx:List Int}
theorem aG.Pm {l:List Int} (h:aG H v (iL l)) (hi:i<l.length):∃b o c,v=.slice (some ⟨b,o,none⟩) l.length c/\Mg.cell H ⟨b,o+i,none⟩=some (.int .i64 l[i]):=by
 obtain⟨b,o,c,rfl,hc,hl⟩:=h.cells (by intro e;have h:=congrArg List.length e;rw[ak,List.length_nil]at h;omega);rw[ak]at hl⊢;refine⟨b,o,c,rfl,?_⟩;rw[hl i hi,bW _ _ hi,List.getD_eq_getElem?_getD,List.getElem?_eq_getElem hi]
 rfl
theorem Ge {b o:Nat} {x:Value} (h:Mg.cell H ⟨b,o,none⟩=some x):Mg.aR H ⟨b,o,none⟩ 1=some #[x]:=by
 unfold Mg.cell at h;unfold Mg.aR
 split at h
 ·next C T z hb=>
  simp only[Option.isSome_none,Bool.false_eq_true,if_false]at h hb⊢;obtain⟨hlt,e⟩:=Array.getElem?_eq_some_iff.1 h
  try rw[hb]
  try simp only
  rw[if_pos (by omega)]
  congr 1
  apply Array.ext';simp only[Array.toList_extract,List.extract_eq_take_drop,Nat.add_sub_cancel_left];rw[List.drop_eq_getElem_cons (by simpa using hlt)];simp[e]
 ·cases h
theorem aG.ld1 {l:List Value} (h:aG H v l) (hi:i<l.length):∃b o c,v=.slice (some ⟨b,o,none⟩) l.length c/\Mg.aR H ⟨b,o+i,none⟩ 1=some #[l.getD i undef]:=by
 obtain⟨b,o,c,rfl,hc,hl⟩:=h.cells (by intro e;rw[e]at hi;simp at hi);refine⟨b,o,c,rfl,Ge ?_⟩;rw[hl i hi,List.getD_eq_getElem?_getD,List.getElem?_eq_getElem hi]
 rfl
theorem Kh (hk:aq P k (pL ι) pM 2):xg P k:=by
 intro l q v g H hv hl ⟨hg,hq⟩;refine ah hk (args:=[_,_]) (by simp) ?_;unfold pL pM kA kB kC kD ke kH kI kV kd kY;have hlen:aP v=l.length:=by rw[hv.len,ak]
 simp-implicitDefEqProofs only[go_sem,zS,↓reduceIte,Za,Zb,Zc,reduceCtorEq,ae,zU,zV,Zf,Zg,Zh,Zi,Zd,Ze,zF,hv.ax,hlen];refine aO l.length [9,5,16,4,8] rfl rfl (by omega) (by simp-implicitDefEqProofs only[go_sem,zS,↓reduceIte,Za,Zb,Zc,reduceCtorEq,ae,zU,zV,Zf,Zg,Zh,Zi,Zd,Ze]) (by simp-implicitDefEqProofs only[go_sem,zS,↓reduceIte,Za,Zb,Zc,reduceCtorEq,ae,zU,zV,Zf,Zg,Zh,Zi,Zd,Ze]) (fun i g A=>(∀j<i,∀hj:j<l.length,q l[j]=false)/\A=H) ⟨fun j h=>by omega,rfl⟩ ?_ ?_
 ·rintro i f A hi gi gn ⟨hno,rfl⟩;simp-implicitDefEqProofs only[go_sem,zS,↓reduceIte,Za,Zb,Zc,reduceCtorEq,ae,zU,zV,Zf,Zg,Zh,Zi,Zd,Ze]at gi gn;obtain⟨b,o,c,e,hc⟩:=hv.Pm hi;simp-implicitDefEqProofs only[go_sem,zS,↓reduceIte,Za,Zb,Zc,reduceCtorEq,ae,zU,zV,Zf,Zg,Zh,Zi,Zd,Ze,zF,gi,e,ai,hc,hg];refine⟨by omega,(hq l[i] (List.getElem_mem hi) A).mono ?_⟩;rintro r A1 ⟨rfl,rfl⟩;rw[ae];simp-implicitDefEqProofs only[go_sem,zS,↓reduceIte,Za,Zb,Zc,reduceCtorEq,ae,zU,zV,Zf,Zg,Zh,Zi,Zd,Ze,zF];refine sC (fun hb=>?_) (fun hb=>?_)
  ·have:l.findIdx? q=some i:=List.findIdx?_eq_some_iff_getElem.2 ⟨hi,hb,fun j hj=>by rw[hno j hj (by omega)];simp⟩;simp only[ja,this]
  ·refine fun j hj sQ=>?_
   by_cases e:j=i
   ·subst e;exact hb
   ·exact hno j (by omega) sQ
 ·rintro f A -⟨hno,rfl⟩;simp-implicitDefEqProofs only[go_sem,zS,↓reduceIte,Za,Zb,Zc,reduceCtorEq,ae,zU,zV,Zf,Zg,Zh,Zi,Zd,Ze,zF];have:l.findIdx? q=none:=by
   rw[List.findIdx?_eq_none_iff];intro x hx;obtain⟨j,hj,rfl⟩:=List.getElem_of_mem hx;exact hno j hj hj
  simp only[ja,this]
def lI (P:Program) (k:FuncId):Prop:=∀(l:List Int) (q:Int->Bool) (v:Value) (g:FuncId) (H:Hp),aG H v (iL l)->l.length<=1000000->SO P q l g->an P k #[v,.func (.func g) #[] #[]] H fun r H'=>r=.bool (l.any q)/\H'=H
theorem Ki (hk:aq P k (pN ι) pO 2) (hi:xg P (ι.f 353)):lI P k:=by
 intro l q v g H hv hl ha;refine ah hk (args:=[_,_]) (by simp) ?_;unfold pN pO kA kB kC kU kc kg kY;simp-implicitDefEqProofs only[go_sem,zS,↓reduceIte,Za,Zb,Zc,reduceCtorEq,ae,zU,zV,Zf,Zg,Zh,Zi,Zd,Ze];refine(hi l q v g H hv hl ha).mono ?_;rintro r A ⟨rfl,rfl⟩;rw[ae];simp-implicitDefEqProofs only[go_sem,zS,↓reduceIte,Za,Zb,Zc,reduceCtorEq,ae,zU,zV,Zf,Zg,Zh,Zi,Zd,Ze,mF]
def Gf (u:Int):Bool:=decide (1<=u)&&decide (u<=256)
def ux (u:Int):Bool:=decide (u≠0)&&!Gf u
def mG (P:Program) (k:FuncId):Prop:=∀(u:Int) (H:Hp),an P k #[.int .i64 u] H fun r H'=>r=.bool (Gf u)/\H'=H
theorem xh (hk:aq P k (uk ι) um 1):mG P k:=by
 intro u H;refine ah hk (args:=[_]) (by simp) ?_;unfold uk um kA kB kF kC kJ kS kT kU kY
 by_cases h:u≥1
 ·have d1:decide (u≥1)=true:=decide_eq_true h;have d2:decide (1<=u)=true:=decide_eq_true h;simp-implicitDefEqProofs only[go_sem,zS,↓reduceIte,Za,Zb,Zc,reduceCtorEq,ae,zU,zV,Zf,Zg,Zh,Zi,Zd,Ze,d1,Gf,d2,forall_const,Bool.true_and]
 ·have d1:decide (u≥1)=false:=decide_eq_false h;have d2:decide (1<=u)=false:=decide_eq_false h;simp-implicitDefEqProofs only[go_sem,zS,↓reduceIte,Za,Zb,Zc,reduceCtorEq,ae,zU,zV,Zf,Zg,Zh,Zi,Zd,Ze,d1,Gf,d2,false_imp_iff,Bool.false_and]
def gH (P:Program) (k:FuncId):Prop:=bF P k=true/\∀(u:Int) (H:Hp),an P k #[.int .i64 u] H fun r H'=>r=.bool (ux u)/\H'=H
theorem Dr (hk:aq P k (pP ι) pQ 1) (hu:mG P (ι.f 355)):gH P k:=by
 refine⟨hk.body,fun u H=>?_⟩;refine ah hk (args:=[_]) (by simp) ?_;unfold pP pQ kA kB kF kC kJ kS kT kU kg kY
 by_cases h:u=0
 ·have d1:(u !=0)=false:=by simpa using h
  have d2:decide (u≠0)=false:=decide_eq_false (fun hn=>hn h);simp-implicitDefEqProofs only[go_sem,zS,↓reduceIte,Za,Zb,Zc,reduceCtorEq,ae,zU,zV,Zf,Zg,Zh,Zi,Zd,Ze,d1,ux,d2,false_imp_iff,forall_const,Bool.false_and]
 ·have d1:(u !=0)=true:=by simpa using h
  have d2:decide (u≠0)=true:=decide_eq_true h;simp-implicitDefEqProofs only[go_sem,zS,↓reduceIte,Za,Zb,Zc,reduceCtorEq,ae,zU,zV,Zf,Zg,Zh,Zi,Zd,Ze,d1,ux,d2,forall_const,Bool.true_and];refine(hu u H).mono ?_;rintro r A ⟨rfl,rfl⟩;rw[ae];simp-implicitDefEqProofs only[go_sem,zS,↓reduceIte,Za,Zb,Zc,reduceCtorEq,ae,zU,zV,Zf,Zg,Zh,Zi,Zd,Ze,false_imp_iff,forall_const]
theorem Ds (hk:aq P k (pR ι) pS 1) (hu:mG P (ι.f 355)):gH P k:=by
 refine⟨hk.body,fun u H=>?_⟩;refine ah hk (args:=[_]) (by simp) ?_;unfold pR pS kA kB kF kC kJ kS kT kU kg kY
 by_cases h:u=0
 ·have d1:(u !=0)=false:=by simpa using h
  have d2:decide (u≠0)=false:=decide_eq_false (fun hn=>hn h);simp-implicitDefEqProofs only[go_sem,zS,↓reduceIte,Za,Zb,Zc,reduceCtorEq,ae,zU,zV,Zf,Zg,Zh,Zi,Zd,Ze,d1,ux,d2,false_imp_iff,forall_const,Bool.false_and]
 ·have d1:(u !=0)=true:=by simpa using h
  have d2:decide (u≠0)=true:=decide_eq_true h;simp-implicitDefEqProofs only[go_sem,zS,↓reduceIte,Za,Zb,Zc,reduceCtorEq,ae,zU,zV,Zf,Zg,Zh,Zi,Zd,Ze,d1,ux,d2,forall_const,Bool.true_and];refine(hu u H).mono ?_;rintro r A ⟨rfl,rfl⟩;rw[ae];simp-implicitDefEqProofs only[go_sem,zS,↓reduceIte,Za,Zb,Zc,reduceCtorEq,ae,zU,zV,Zf,Zg,Zh,Zi,Zd,Ze,false_imp_iff,forall_const]
structure uy (H:Hp) (p:eX) (fx:List Int) (el di sa mo fv:Value) (vs:List Value) (ms:List MV):Prop where
 e:aG H el vs
 el:vs.length=p.el.length
 es:∀i<vs.length,aS H (.agg #[vs.getD i undef]) (bS p i)
 d:sN H di p.di
 s:sN H sa p.sa
 m:bo eJ 2 H mo ms
 ms:mE H ms p.mo
 f:aG H fv (iL fx)
def dE (H:Hp) (v:Value) (p:eX) (fx:List Int):Prop:=∃el di sa mo fv vs ms,v=.agg #[el,di,sa,mo,fv]/\uy H p fx el di sa mo fv vs ms
theorem uy.aj {el di sa mo fv:Value} {vs:List Value} {ms:List MV} (h:uy H p fx el di sa mo fv vs ms) (hk:af (fun _=>False) H H'):uy H' p fx el di sa mo fv vs ms:=
 ⟨h.e.ag hk (by simp),h.el,fun i hi=>(h.es i hi).aj hk,h.d.aj hk,h.s.aj hk,h.m.aj hk,h.ms.aj hk,h.f.ag hk (by simp)⟩
theorem dE.aj (h:dE H v p fx) (hk:af (fun _=>False) H H'):dE H' v p fx:=by
 obtain⟨el,di,sa,mo,fv,vs,ms,e,h⟩:=h;exact⟨el,di,sa,mo,fv,vs,ms,e,h.aj hk⟩
structure cD (p:eX):Prop where
 n0:0<p.el.length
 n:p.el.length<=10
 us:∀k u,bS p k u=true->1<=u/\u<=256
 dl:p.di.length<=20
 sl:p.sa.length<=20
 ml:p.mo.length<=20
 di:∀x∈p.di,qW (p.el.length:Int) x/\x.1≠x.2
 sa:∀x∈p.sa,qW (p.el.length:Int) x/\x.1≠x.2
 mo:∀x∈p.mo,uf p.el.length x=0
def jV (n:Nat) (s:List Int):Prop:=s.length=n/\∀u∈s,0<=u/\u<=256
theorem BN {n:Nat} {s:List Int} (h:jV n s):s.any ux=false:=by
 rw[List.any_eq_false];intro u hu;have:=h.2 u hu;unfold ux Gf
 by_cases e:u=0
 ·rw[decide_eq_false (fun hn=>hn e)];simp
 ·rw[decide_eq_true (show 1<=u by omega),decide_eq_true (show u<=256 by omega)];simp
def xi (P:Program) (k:FuncId):Prop:=∀(p:eX) (fx:List Int) (v w:Value) (l:List gR) (H:Hp),dE H v p fx->sN H w l->l.length<=1000->p.el.length<=1000->(∀x∈l,qW (p.el.length:Int) x/\x.1≠x.2)->an P k #[v,w] H fun r H'=>r=.int .i64 0/\af (fun _=>False) H H'
theorem Kj (hk:aq P k (zh ι) zi 2):xi P k:=by
 intro p fx v w l H hv hw hl hn hok;obtain⟨el,di,sa,mo,fv,vs,ms,rfl,hp⟩:=hv;refine ah hk (args:=[_,_]) (by simp) ?_;unfold zh zi kB kF kC kD ke kH kK kN kO kP kR kT kU kV kd kf kY;simp-implicitDefEqProofs only[go_sem,zS,↓reduceIte,Za,Zb,Zc,reduceCtorEq,zU,zV,Zf,Zg,Zh,Zi,Zd,Ze,zF];refine ay fun H1 b2 e1 z1 B1 K1=>?_;have eB:Bl H1 b2 [el,di,sa,mo,fv]:=B1;have hw1:=hw.aj K1;simp-implicitDefEqProofs only[go_sem,zS,↓reduceIte,Za,Zb,Zc,reduceCtorEq,zU,zV,Zf,Zg,Zh,Zi,Zd,Ze,zF,hw1.ax,hw1.len];refine aO l.length [10,6,29,4,34,9] rfl rfl (by omega) (by simp-implicitDefEqProofs only[go_sem,zS,↓reduceIte,Za,Zb,Zc,reduceCtorEq,ae,zU,zV,Zf,Zg,Zh,Zi,Zd,Ze]) (by simp-implicitDefEqProofs only[go_sem,zS,↓reduceIte,Za,Zb,Zc,reduceCtorEq,ae,zU,zV,Zf,Zg,Zh,Zi,Zd,Ze]) (fun i g A=>af (fun _=>False) H1 A) (af.refl _ _) ?_ ?_
 ·intro i g A hi gi gn KA;simp-implicitDefEqProofs only[go_sem,zS,↓reduceIte,Za,Zb,Zc,reduceCtorEq,ae,zU,zV,Zf,Zg,Zh,Zi,Zd,Ze]at gi gn;obtain⟨sb,so,sc,e,-,hld⟩:=(hw1.aj KA).elem oG (i:=i) hi;obtain⟨⟨o1,o2,o3,o4⟩,hne⟩:=hok _ (List.getElem_mem hi);simp-implicitDefEqProofs only[go_sem,zS,↓reduceIte,Za,Zb,Zc,reduceCtorEq,zU,zV,Zf,Zg,Zh,Zi,Zd,Ze,zF,gi,e,ai,aB,hld];refine⟨⟨by omega,by omega⟩,?_⟩;refine bB (pE l[i]) (by simp-implicitDefEqProofs only[go_sem,zS,↓reduceIte,Za,Zb,Zc,reduceCtorEq,ae,zU,zV,Zf,Zg,Zh,Zi,Zd,Ze]) rfl rfl (List.all_eq_true.2 (oH _)) fun A1 b6 e6 z6 B6 K6=>?_;have c0:cell A1 ⟨b6,0,none⟩=some (.int .i64 l[i].1):=by rw[B6.cell];rfl
  have c1:cell A1 ⟨b6,1,none⟩=some (.int .i64 l[i].2):=by rw[B6.cell];rfl
  have K16:=KA.trans K6;have cE:cell A1 ⟨b2,0,none⟩=some el:=by rw[(K16.bl eB (by simp)).cell];rfl
  have d1:decide ((if l[i].2<l[i].1 then l[i].2 else l[i].1)<0)=false:=decide_eq_false (by split<;>omega);have d2:decide ((if l[i].2>l[i].1 then l[i].2 else l[i].1)≥(p.el.length:Int))=false:=decide_eq_false (by split<;>omega);have d3:(l[i].1==l[i].2)=false:=by simpa using hne
  simp-implicitDefEqProofs only[go_sem,zS,↓reduceIte,Za,Zb,Zc,reduceCtorEq,ae,zU,zV,Zf,Zg,Zh,Zi,Zd,Ze,zF,c0,c1,cE,d1,d2,d3,hp.e.ax,hp.e.len,hp.el,forall_const,kindOf];exact K16
 ·rintro g A -KA;simp-implicitDefEqProofs only[go_sem,zS,↓reduceIte,Za,Zb,Zc,reduceCtorEq,ae,zU,zV,Zf,Zg,Zh,Zi,Zd,Ze,zF];exact K1.trans KA
def fg (P:Program) (ι:aJ) (k:FuncId):Prop:=∀(p:eX) (fx:List Int) (v:Value) (H:Hp),dE H v p fx->cD p->jV p.el.length fx->an P k #[v] H fun r H'=>r=.int .i64 0/\af (fun _=>False) H H'
structure X0 (P:Program) (ι:aJ):Prop where
 has:fP P (ι.f 130)
 emp:fu P (ι.f 133)
 sub:fQ P (ι.f 141)
 bel:ig P (ι.f 306)
 con:lI P (ι.f 354)
 u1:gH P (ι.f 356)
 prs:xi P (ι.f 359)
theorem Gg (hk:aq P k (uq ι) ur 1) (c:X0 P ι):fg P ι k:=by
 intro p fx v H hv hG hU;have wR:=hv;obtain⟨el,di,sa,mo,fv,vs,ms,rfl,hp⟩:=hv;refine ah hk (args:=[_]) (by simp) ?_;unfold uq ur kA kB kF kC kD ke kG kH kK kL kM kN kO kR kT kU kV kW kX ka kc kd kf kg kY kZ;have hn:=hG.n;have hn0:=hG.n0;have MF:=hG.dl;have hsl:=hG.sl;have JN:=hG.ml;have qU:=hU.1;simp-implicitDefEqProofs only[go_sem,zS,↓reduceIte,Za,Zb,Zc,reduceCtorEq,zU,zV,Zf,Zg,Zh,Zi,Zd,Ze,zF];refine ay fun H1 b1 e1 z1 B1 K1=>?_;have eB:Bl H1 b1 [el,di,sa,mo,fv]:=B1;have p1:=hp.aj K1;have cl:∀{A:Hp},Bl A b1 [el,di,sa,mo,fv]->cell A ⟨b1,0,none⟩=some el/\cell A ⟨b1,1,none⟩=some di/\cell A ⟨b1,2,none⟩=some sa/\cell A ⟨b1,3,none⟩=some mo/\cell A ⟨b1,4,none⟩=some fv:=fun B=>⟨by rw[B.cell];rfl,by rw[B.cell];rfl,by rw[B.cell];rfl,by rw[B.cell];rfl,by rw[B.cell];rfl⟩
 obtain⟨c0,c1,c2,c3,c4⟩:=cl eB;have le:aP el=p.el.length:=by rw[hp.e.len,hp.el]
 have lf:aP fv=p.el.length:=by rw[hp.f.len,ak,qU]
 have lm:aP mo=p.mo.length:=by rw[hp.m.len,hp.ms.len]
 have d0:((p.el.length:Int)==0)=false:=by rw[beq_eq_false_iff_ne];omega
 have d1:decide ((p.el.length:Int)>10)=false:=decide_eq_false (by omega);have d2:decide ((if(p.mo.length:Int)>if(p.sa.length:Int)>(p.di.length:Int)then(p.sa.length:Int)else(p.di.length:Int)then(p.mo.length:Int)else if(p.sa.length:Int)>(p.di.length:Int)then(p.sa.length:Int)else(p.di.length:Int))>20)=false:=decide_eq_false (by split<;>split<;>omega);have d3:((p.el.length:Int)!=(p.el.length:Int))=false:=by simp
 simp-implicitDefEqProofs only[go_sem,zS,↓reduceIte,Za,Zb,Zc,reduceCtorEq,zU,zV,Zf,Zg,Zh,Zi,Zd,Ze,zF,c0,c1,c2,c3,c4,hp.e.ax,hp.d.ax,hp.s.ax,hp.m.ax,hp.f.ax,le,lf,hp.d.len,hp.s.len,lm,d0,d1,d2,d3,forall_const,kindOf];have one:∀{B:Hp} {u:Value} {p:Nat->Bool},aS B (.agg #[u]) p->u.oneCell'=true:=fun S=>by
  obtain⟨_,W,e,hV⟩:=S
  cases e
  exact aM hV.sl.ax
 refine aO p.el.length [42,5,52,2,41] rfl rfl (by omega) (by simp-implicitDefEqProofs only[go_sem,zS,↓reduceIte,Za,Zb,Zc,reduceCtorEq,ae,zU,zV,Zf,Zg,Zh,Zi,Zd,Ze]) (by simp-implicitDefEqProofs only[go_sem,zS,↓reduceIte,Za,Zb,Zc,reduceCtorEq,ae,zU,zV,Zf,Zg,Zh,Zi,Zd,Ze]) (fun i g A=>af (fun _=>False) H1 A) (af.refl _ _) ?_ ?_
 ·intro i g A hi gi gn KA;simp-implicitDefEqProofs only[go_sem,zS,↓reduceIte,Za,Zb,Zc,reduceCtorEq,ae,zU,zV,Zf,Zg,Zh,Zi,Zd,Ze]at gi gn;have hvl:=hp.el;have pA:=p1.aj KA;have hS:=pA.es i (by omega);obtain⟨sb,so,sc,e,hld⟩:=pA.e.ld1 (i:=i) (by omega);have o1:=one hS;generalize vs.getD i undef=u at*;simp-implicitDefEqProofs only[go_sem,zS,↓reduceIte,Za,Zb,Zc,reduceCtorEq,zU,zV,Zf,Zg,Zh,Zi,Zd,Ze,zF,gi,e,ai,aB,hvl,hld,Nat.mul_one];refine⟨⟨by omega,by omega⟩,?_⟩;refine bB [u] (by simp-implicitDefEqProofs only[go_sem,zS,↓reduceIte,Za,Zb,Zc,reduceCtorEq,ae,zU,zV,Zf,Zg,Zh,Zi,Zd,Ze]) rfl rfl (by simp[o1]) fun A1 b5 e5 z5 B5 K5=>?_;have hS1:=hS.aj K5;simp-implicitDefEqProofs only[go_sem,zS,↓reduceIte,Za,Zb,Zc,reduceCtorEq,zU,zV,Zf,Zg,Zh,Zi,Zd,Ze,zF];refine bC (fun _=>False) ?_;simp-implicitDefEqProofs only[go_sem,zS,↓reduceIte,Za,Zb,Zc,reduceCtorEq,zU,zV,Zf,Zg,Zh,Zi,Zd,Ze,zF,B5.aI 1 rfl];refine(c.has _ _ 0 A1 hS1).mono ?_;rintro r A2 ⟨rfl,K6⟩;have m0:cX (bS p i) 0=false:=by
   cases hm:cX (bS p i) 0 with
   |false=>rfl
   |true=>
    have:cX (bS p i) ((0:Nat):Int)=true:=hm;rw[lE (by omega)]at this;have:=(hG.us i 0 this).1;omega
  have SF:=K6.bl B5 (by simp);simp-implicitDefEqProofs only[go_sem,zS,↓reduceIte,Za,Zb,Zc,reduceCtorEq,zU,zV,Zf,Zg,Zh,Zi,Zd,Ze,zF,m0,SF.aI 1 rfl,false_imp_iff,forall_const];refine⟨K6,(c.bel 257 A2 (by omega)).mono ?_⟩;rintro r A3 ⟨S3,K7,_⟩;simp-implicitDefEqProofs only[go_sem,zS,↓reduceIte,Za,Zb,Zc,reduceCtorEq,zU,zV,Zf,Zg,Zh,Zi,Zd,Ze,zF,false_imp_iff,forall_const];refine⟨K7,(c.sub _ _ _ _ A3 (hS1.aj (K6.trans K7)) S3).mono ?_⟩;rintro r A4 ⟨⟨bb,rfl,hbb⟩,K8⟩;have:bb=true:=hbb.2 fun n hn=>decide_eq_true (by have:=(hG.us i n hn).2;omega);subst this;simp-implicitDefEqProofs only[go_sem,zS,↓reduceIte,Za,Zb,Zc,reduceCtorEq,ae,zU,zV,Zf,Zg,Zh,Zi,Zd,Ze,zF,Bool.not_true,false_imp_iff,forall_const];exact⟨K8,(((KA.trans K5).trans K6).trans K7).trans K8⟩
 ·rintro g A -KA;obtain⟨c0,c1,c2,c3,c4⟩:=cl (KA.bl eB (by simp));have pA:=p1.aj KA;simp-implicitDefEqProofs only[go_sem,zS,↓reduceIte,Za,Zb,Zc,reduceCtorEq,zU,zV,Zf,Zg,Zh,Zi,Zd,Ze,zF,c4];refine(c.con fx ux fv (ι.f 356) A pA.f (by omega) ⟨c.u1.1,fun u _ A=>c.u1.2 u A⟩).mono ?_;rintro r A1 ⟨rfl,rfl⟩;have BA:=KA.bl eB (by simp);have hv1:dE A1 (.agg #[el,di,sa,mo,fv]) p fx:=⟨_,_,_,_,_,_,_,rfl,pA⟩
  rw[ae];simp-implicitDefEqProofs only[go_sem,zS,↓reduceIte,Za,Zb,Zc,reduceCtorEq,zU,zV,Zf,Zg,Zh,Zi,Zd,Ze,zF,BN hU,BA.aI 5 rfl,c1];refine(c.prs p fx _ di p.di A1 hv1 pA.d (by omega) (by omega) hG.di).mono ?_;rintro r A2 ⟨rfl,K2⟩;have Eo:=K2.bl BA (by simp);obtain⟨c0,c1,c2,c3,c4⟩:=cl Eo;have xS:((0:Int)!=0)=false:=rfl;rw[ae];simp-implicitDefEqProofs only[go_sem,zS,↓reduceIte,Za,Zb,Zc,reduceCtorEq,zU,zV,Zf,Zg,Zh,Zi,Zd,Ze,zF,xS,Eo.aI 5 rfl,c2];refine(c.prs p fx _ sa p.sa A2 (hv1.aj K2) (pA.s.aj K2) (by omega) (by omega) hG.sa).mono ?_;rintro r A3 ⟨rfl,K3⟩;have KA3:=(KA.trans K2).trans K3;have BA3:=K3.bl Eo (by simp);obtain⟨c0,c1,c2,c3,c4⟩:=cl BA3;have hms:=hp.ms.len;rw[ae];simp-implicitDefEqProofs only[go_sem,zS,↓reduceIte,Za,Zb,Zc,reduceCtorEq,zU,zV,Zf,Zg,Zh,Zi,Zd,Ze,zF,xS,c3,hp.m.ax,lm];refine aO p.mo.length [75,9,98,2,74] rfl rfl (by omega) (by simp-implicitDefEqProofs only[go_sem,zS,↓reduceIte,Za,Zb,Zc,reduceCtorEq,ae,zU,zV,Zf,Zg,Zh,Zi,Zd,Ze]) (by simp-implicitDefEqProofs only[go_sem,zS,↓reduceIte,Za,Zb,Zc,reduceCtorEq,ae,zU,zV,Zf,Zg,Zh,Zi,Zd,Ze]) (fun i g A=>af (fun _=>False) H1 A) KA3 ?_ ?_
  ·intro i g X hi gi gn KX;simp-implicitDefEqProofs only[go_sem,zS,↓reduceIte,Za,Zb,Zc,reduceCtorEq,ae,zU,zV,Zf,Zg,Zh,Zi,Zd,Ze]at gi gn;have pX:=p1.aj KX;obtain⟨sb,so,sc,e,-,hld⟩:=pX.m.elem lG (i:=i) (by omega);obtain⟨g1,hset⟩:=pX.ms.at_ i (by omega) hi;have hmo:=hG.mo _ (List.getElem_mem hi);unfold uf at hmo
   split at hmo
   ·omega
   next SP=>
   rw[not_or,not_or,not_or]at SP;obtain⟨m1,m2,m3,m4⟩:=SP;simp-implicitDefEqProofs only[go_sem,zS,↓reduceIte,Za,Zb,Zc,reduceCtorEq,zU,zV,Zf,Zg,Zh,Zi,Zd,Ze,zF,gi,e,ai,aB,hld];refine⟨⟨by omega,by omega⟩,?_⟩;refine bB (eJ ms[i]) (by simp-implicitDefEqProofs only[go_sem,zS,↓reduceIte,Za,Zb,Zc,reduceCtorEq,ae,zU,zV,Zf,Zg,Zh,Zi,Zd,Ze]) rfl rfl (List.all_eq_true.2 (pw _)) fun X1 b9 e9 z9 B9 K9=>?_;have ck:cell X1 ⟨b9,0,none⟩=some (.int .i64 p.mo[i].1):=by rw[B9.cell,<-g1];rfl
   have l1:aR X1 ⟨b9,1,none⟩ 1=some #[ug ms[i]]:=B9.aR (o:=1) (n:=1) (by simp[eJ]);have d4:decide (p.mo[i].1<1)=false:=decide_eq_false (by omega);have d5:decide (p.mo[i].1>10)=false:=decide_eq_false (by omega);have X8:=hset.aj K9;obtain⟨u,W,eu,hV⟩:=X8;simp only[Value.agg.injEq,Array.mk.injEq,List.cons.injEq,and_true]at eu;simp-implicitDefEqProofs only[go_sem,zS,↓reduceIte,Za,Zb,Zc,reduceCtorEq,zU,zV,Zf,Zg,Zh,Zi,Zd,Ze,zF];refine bC (fun _=>False) ?_;simp-implicitDefEqProofs only[go_sem,zS,↓reduceIte,Za,Zb,Zc,reduceCtorEq,zU,zV,Zf,Zg,Zh,Zi,Zd,Ze,zF,ck,d4,d5,aB,l1,forall_const,false_imp_iff];rw[eu];refine(c.emp _ u W X1 hV).mono ?_;rintro r X2 ⟨rfl,jF⟩;have hW:W≠[]:=fun h=>m3 (uh.1 (hV.nM.1 h));have l1:aR X2 ⟨b9,1,none⟩ 1=some #[ug ms[i]]:=(jF.bl B9 (by simp)).aR (o:=1) (n:=1) (by simp[eJ]);simp-implicitDefEqProofs only[go_sem,zS,↓reduceIte,Za,Zb,Zc,reduceCtorEq,zU,zV,Zf,Zg,Zh,Zi,Zd,Ze,zF,decide_eq_false hW,aB,l1,forall_const,false_imp_iff];refine⟨jF,(c.bel p.el.length X2 (by omega)).mono ?_⟩;rintro r X3 ⟨S3,Dd,_⟩;simp-implicitDefEqProofs only[go_sem,zS,↓reduceIte,Za,Zb,Zc,reduceCtorEq,zU,zV,Zf,Zg,Zh,Zi,Zd,Ze,zF,forall_const,false_imp_iff];refine⟨Dd,(c.sub _ _ _ _ X3 (hset.aj ((K9.trans jF).trans Dd)) S3).mono ?_⟩;rintro r X4 ⟨⟨bb,rfl,hbb⟩,gz⟩;have:bb=true:=hbb.2 ((jo (by omega)).2 (by omega));subst this;simp-implicitDefEqProofs only[go_sem,zS,↓reduceIte,Za,Zb,Zc,reduceCtorEq,ae,zU,zV,Zf,Zg,Zh,Zi,Zd,Ze,zF,Bool.not_true,forall_const,false_imp_iff];exact⟨gz,(((KX.trans K9).trans jF).trans Dd).trans gz⟩
  ·rintro g X -KX;simp-implicitDefEqProofs only[go_sem,zS,↓reduceIte,Za,Zb,Zc,reduceCtorEq,ae,zU,zV,Zf,Zg,Zh,Zi,Zd,Ze,zF];exact K1.trans KX
end Go.Mg
namespace Go.Mg
def dd (p:eX) (fx:List Int):Option (List Int):=(c9 p (eM fx+1) fx).head?
structure eC where
 kd:Nat
 st:Nat
 ch:List Nat
 sp:List Nat
def bX:eC:=⟨0,0,[],[]⟩
structure BO (p:eX) (d:List Nat) (s:List Int):Prop where
 op:∀k∈d,k<s.length/\s.getD k 0=0
 df:∀i k,d[i]?=some k->∀j∈d.take i,j≠k/\(((j:Int),(k:Int))∈p.di\/((k:Int),(j:Int))∈p.di)
 few:(aD fun u=>d.any fun k=>bS p k u).length<d.length
 sz:d.length<=4096
def xj (p:eX) (n:Nat) (σ:Nat->List Int) (i:Nat) (x:eC):Prop:=
 (x.kd=1/\x.sp=[]/\x.st<(σ i).length/\(σ i).getD x.st 0=0/\x.ch.length=(aD (bS p x.st)).length/\∀j<x.ch.length,i<x.ch.getD j 0/\x.ch.getD j 0<n/\σ (x.ch.getD j 0)=(σ i).set x.st (((aD (bS p x.st)).getD j 0:Nat):Int))∨
 (x=⟨2,0,[],[]⟩/\cZ p (σ i)=true)\/(x.kd=3/\x.st=0/\x.ch=[]/\BO p x.sp (σ i))
variable {p:eX} {n:Nat} {σ:Nat->List Int} {fx:List Int}
theorem xj.mono {n' i:Nat} {uz:Nat->List Int} {x:eC} (h:xj p n σ i x) (hi:i<n) (hn:n<=n') (hs:∀j<n,uz j=σ j):xj p n' uz i x:=by
 have e:=hs i hi;unfold xj;rw[e];rcases h with⟨h1,h2,h3,h4,h5,h6⟩|h|h
 ·refine .inl ⟨h1,h2,h3,h4,h5,fun j hj=>?_⟩;obtain⟨a,b,c⟩:=h6 j hj;exact⟨a,by omega,by rw[hs _ b];exact c⟩
 ·exact .inr (.inl h)
 ·exact .inr (.inr h)
structure ij (p:eX) (L:List eC) (σ:Nat->List Int):Prop where
 ok:∀i<L.length,L.getD i bX=bX\/xj p L.length σ i (L.getD i bX)
 us:∀i<L.length,jV p.el.length (σ i)
 cnt:∀i,(L.flatMap eC.ch).count i=if 0<i/\i<L.length then 1 else 0
theorem ij.start (h:jV p.el.length fx):ij p [bX] fun _=>fx:=by
 refine⟨fun i hi=>.inl ?_,fun i _=>h,fun i=>?_⟩
 ·have:i=0:=by simpa using hi
  subst this;rfl
 ·have:¬(0<i/\i<([bX]:List eC).length):=by simp only[List.length_cons,List.length_nil];omega
  rw[if_neg this];rfl
theorem de {L:List eC} (hn:n<L.length) (x:eC) (j:Nat):(L.set n x).getD j bX=if j=n then x else L.getD j bX:=by
 rw[List.getD_eq_getElem?_getD,List.getD_eq_getElem?_getD,List.getElem?_set]
 by_cases h:n=j
 ·subst h;simp[hn]
 ·rw[if_neg h,if_neg (fun e=>h e.symm)]
theorem pT {L:List eC} (hn:n<L.length) (h0:L.getD n bX=bX) (x:eC) (i:Nat):((L.set n x).flatMap eC.ch).count i=(L.flatMap eC.ch).count i+x.ch.count i:=by
 have e1:L.set n x=L.take n++x::L.drop (n+1):=by rw[List.set_eq_take_append_cons_drop,if_pos hn]
 have hz:L[n]=bX:=by
  rw[List.getD_eq_getElem?_getD,List.getElem?_eq_getElem hn]at h0;exact h0
 have e2:L=L.take n++bX::L.drop (n+1):=by
  conv=>lhs;rw[<-List.take_append_drop n L,List.drop_eq_getElem_cons hn,hz]
 rw[e1]
 conv=>rhs;rw[e2]
 simp only[List.flatMap_append,List.flatMap_cons,List.count_append];have:(bX:eC).ch=[]:=rfl;rw[this,List.count_nil];omega
theorem ij.AK {L:List eC} (h:ij p L σ) (hn:n<L.length) (h0:L.getD n bX=bX) (hb:cZ p (σ n)=true):ij p (L.set n ⟨2,0,[],[]⟩) σ:=by
 refine⟨fun i hi=>?_,fun i hi=>h.us i (by simpa using hi),fun i=>?_⟩
 ·rw[List.length_set]at hi⊢;rw[de hn]
  by_cases e:i=n
  ·subst e;rw[if_pos rfl];exact .inr (.inr (.inl ⟨rfl,hb⟩))
  ·rw[if_neg e];exact h.ok i hi
 ·rw[pT hn h0,h.cnt,List.length_set];rfl
theorem rK (N:Nat) (i:Nat):∀n,((List.range n).map fun j=>N+j).count i=if N<=i/\i<N+n then 1 else 0
 |0=>by rw[if_neg (by omega)];rfl
 |n+1=>by
  rw[List.range_succ,List.map_append,List.count_append,rK N i n];simp only[List.map_cons,List.map_nil,List.count_cons,List.count_nil,Nat.zero_add,beq_iff_eq]
  by_cases e:N+n=i
  ·rw[if_pos e,if_neg (by omega),if_pos (by omega)]
  ·rw[if_neg e]
   by_cases e2:N<=i/\i<N+n
   ·rw[if_pos e2,if_pos (by omega)]
   ·rw[if_neg e2,if_neg (by omega)]
def Q8 (σ:Nat->List Int) (N n k:Nat) (us:List Nat) (i:Nat):List Int:=if i<N then σ i else(σ n).set k ((us.getD (i -N) 0:Nat):Int)
theorem Gh (m:Nat):(List.replicate m bX).flatMap eC.ch=[]:=by
 induction m with
 |zero=>rfl
 |succ m ih=>rw[List.replicate_succ,List.flatMap_cons,ih];rfl
theorem mH (L:List eC) (m i:Nat):(L++List.replicate m bX).getD i bX=L.getD i bX:=by
 rw[List.getD_eq_getElem?_getD,List.getD_eq_getElem?_getD]
 by_cases h:i<L.length
 ·rw[List.getElem?_append_left h]
 ·rw[List.getElem?_append_right (by omega),List.getElem?_eq_none (show L.length<=i by omega),List.getElem?_replicate]
  split<;>rfl
theorem ij.branch {L:List eC} {k m:Nat} (h:ij p L σ) (hn:n<L.length) (h0:L.getD n bX=bX) (hk:k<(σ n).length) (hz:(σ n).getD k 0=0) (hm:m=(aD (bS p k)).length) (hu:∀u∈aD (bS p k),u<=256):
  ij p ((L++List.replicate m bX).set n ⟨1,k,(List.range m).map fun j=>L.length+j,[]⟩) (Q8 σ L.length n k (aD (bS p k))):=by
 obtain⟨us,hus⟩:∃us,us=aD (bS p k):=⟨_,rfl⟩
 rw[<-hus]at hm hu⊢;have hlen:(L++List.replicate m bX).length=L.length+m:=by simp
 have QG:n<(L++List.replicate m bX).length:=by omega
 have Gi:∀j<L.length,Q8 σ L.length n k us j=σ j:=fun j hj=>if_pos hj;have SQ:∀j,L.length<=j->Q8 σ L.length n k us j=(σ n).set k ((us.getD (j -L.length) 0:Nat):Int):=fun j hj=>if_neg (by omega);refine⟨fun i hi=>?_,fun i hi=>?_,fun i=>?_⟩
 ·rw[List.length_set,hlen]at hi;rw[de QG,List.length_set,hlen]
  by_cases e:i=n
  ·subst e;rw[if_pos rfl];refine .inr (.inl ⟨rfl,rfl,by rw[Gi i hn];exact hk,by rw[Gi i hn];exact hz,by rw[<-hus,<-hm];simp,fun j hj=>?_⟩);simp only[List.length_map,List.length_range]at hj;have e1:(((List.range m).map fun j=>L.length+j).getD j 0)=L.length+j:=by simp[List.getD_eq_getElem?_getD,hj]
   simp only[e1];refine⟨by omega,by omega,?_⟩;rw[<-hus,SQ _ (by omega),Gi i hn,Nat.add_sub_cancel_left]
  ·rw[if_neg e,mH]
   by_cases hl:i<L.length
   ·rcases h.ok i hl with h'|h'
    ·exact .inl h'
    ·exact .inr (h'.mono hl (by omega) Gi)
   ·left
    rw[List.getD_eq_getElem?_getD,List.getElem?_eq_none (by omega)];rfl
 ·rw[List.length_set,hlen]at hi
  by_cases hl:i<L.length
  ·rw[Gi i hl];exact h.us i hl
  ·rw[SQ i (by omega)];obtain⟨a,b⟩:=h.us n hn;refine⟨by rw[List.length_set];exact a,fun u Mj=>?_⟩;rcases List.mem_or_eq_of_mem_set Mj with h'|rfl
   ·exact b u h'
   ·have hx:i -L.length<us.length:=by omega
    have:us.getD (i -L.length) 0∈us:=by
     rw[List.getD_eq_getElem?_getD,List.getElem?_eq_getElem hx];exact List.getElem_mem _
    have:=hu _ this;omega
 ·have WI:(L++List.replicate m bX).getD n bX=bX:=by rw[mH];exact h0
  rw[pT QG WI,List.flatMap_append,Gh,List.append_nil,h.cnt,rK,List.length_set,hlen]
  by_cases c1:0<i/\i<L.length
  ·rw[if_pos c1,if_neg (by omega),if_pos (by omega)]
  ·rw[if_neg c1]
   by_cases c2:L.length<=i/\i<L.length+m
   ·rw[if_pos c2,if_pos (by omega)]
   ·rw[if_neg c2,if_neg (by omega)]
structure Pn (L L':List eC) (σ uz:Nat->List Int) (n:Nat) (nil:Prop):Prop where
 len:L.length<=L'.length
 bM:∀j<L.length,j≠n->L'.getD j bX=L.getD j bX
 st:∀j<L.length,uz j=σ j
 new:nil->L'.getD n bX≠bX/\∀j,L.length<=j->j<L'.length->L'.getD j bX≠bX
structure iC (p:eX) (fx:List Int) (L:List eC) (σ:Nat->List Int):Prop where
 ne:L≠[]
 fx:σ 0=fx
 ok:∀i<L.length,xj p L.length σ i (L.getD i bX)
 us:∀i<L.length,jV p.el.length (σ i)
 cnt:∀i,(L.flatMap eC.ch).count i=if 0<i/\i<L.length then 1 else 0
theorem ij.fin {L:List eC} (h:ij p L σ) (hne:L≠[]) (hz:∀i<L.length,L.getD i bX≠bX):iC p (σ 0) L σ:=
 ⟨hne,rfl,fun i hi=>(h.ok i hi).resolve_left (hz i hi),h.us,h.cnt⟩
theorem iC.ek {d:List Nat} (hU:jV p.el.length fx) (h:BO p d fx):iC p fx [⟨3,0,[],d⟩] fun _=>fx:=by
 refine⟨by simp,rfl,fun i hi=>?_,fun i _=>hU,fun i=>?_⟩
 ·have:i=0:=by simpa using hi
  subst this;exact .inr (.inr ⟨rfl,rfl,rfl,h⟩)
 ·rw[if_neg (by simp only[List.length_cons,List.length_nil];omega)];rfl
end Go.Mg
namespace Go.Mg
open Go Go.RowKit
def zj (ι:aJ):S:=
 (kY [kA 22 6,kU 23 (.cm .neq .i64 (.t 22) (.c (.int .i64 0))),kF 24 23,kT 25 24 true (.fa 0 (.v 2)),kT 26 24 true (.ld (.t 25)),kS 27 24 true 5,kT 28 24 true (.is 1 (.t 26) (.t 27)),kT 29 24 true (.m (.ldn 1 (.t 28))),kS 30 24 true 6,.ge (.t 31) (.t 24) true (kg (ι.f 130) [.t 29,.t 30]),kT 32 24 true (.not (.t 31)),kV 33 (.pick (.t 24) (.t 32) (.c (.bool false)))] (.ite (.v 33) (kY [kf (.st (.v 4) (.c (.bool true)))] .ret) .skip))
def zk (ι:aJ):S:=
 (kY [kU 42 (.ld (.v 3)),kP 43 2 1 8 0,kD 44 43,kI 45 1 42 44,kD 46 45,kU 47 (.cm .neq .i64 (.t 46) (.c (.int .i64 0))),kF 48 47,kT 49 48 true (.ld (.v 3)),kT 50 48 true (.ia 2 1 (.v 8) (.c (.int .i64 0))),kT 51 48 true (.ld (.t 50)),kT 52 48 true (.is 1 (.t 49) (.t 51)),kT 53 48 true (.ld (.t 52)),kT 54 48 true (.ld (.v 3)),kT 55 48 true (.ia 2 1 (.v 8) (.c (.int .i64 1))),kT 56 48 true (.ld (.t 55)),kT 57 48 true (.is 1 (.t 54) (.t 56)),kT 58 48 true (.ld (.t 57)),kT 59 48 true (.cm .eql .i64 (.t 53) (.t 58)),kV 60 (.pick (.t 48) (.t 59) (.c (.bool false)))] (.ite (.v 60) (kY [kf (.st (.v 4) (.c (.bool true)))] .ret) .skip))
def zm (ι:aJ):S:=
 (kY [kU 69 (.ld (.v 3)),kP 70 2 1 10 0,kD 71 70,kI 72 1 69 71,kD 73 72,kU 74 (.cm .neq .i64 (.t 73) (.c (.int .i64 0))),kF 75 74,kT 76 75 true (.ld (.v 3)),kT 77 75 true (.ia 2 1 (.v 10) (.c (.int .i64 1))),kT 78 75 true (.ld (.t 77)),kT 79 75 true (.is 1 (.t 76) (.t 78)),kT 80 75 true (.ld (.t 79)),kT 81 75 true (.cm .neq .i64 (.t 80) (.c (.int .i64 0))),kJ 82 75 81,kF 83 82,kT 84 83 true (.ld (.v 3)),kT 85 83 true (.ia 2 1 (.v 10) (.c (.int .i64 0))),kT 86 83 true (.ld (.t 85)),kT 87 83 true (.is 1 (.t 84) (.t 86)),kT 88 83 true (.ld (.t 87)),kT 89 83 true (.ld (.v 3)),kT 90 83 true (.ia 2 1 (.v 10) (.c (.int .i64 1))),kT 91 83 true (.ld (.t 90)),kT 92 83 true (.is 1 (.t 89) (.t 91)),kT 93 83 true (.ld (.t 92)),kT 94 83 true (.cm .neq .i64 (.t 88) (.t 93)),kV 95 (.pick (.t 83) (.t 94) (.c (.bool false)))] (.ite (.v 95) (kY [kf (.st (.v 4) (.c (.bool true)))] .ret) .skip))
def uA (ι:aJ):S:=
 (.seq (.dr (kW 121 (.ld (.v 13)) (kW 122 (.ld (.v 3)) (kW 123 (.mv (.v 14)) (kW 124 (.is 1 (.t 122) (.t 123)) (kW 125 (.ld (.t 124)) (kW 126 (.m (.lki .i64 (.int .i64 0) (.t 121) (.t 125))) (kW 127 (.fa 0 (.v 12)) (kW 128 (.ld (.t 127)) (kX 129 (.cm .gtr .i64 (.t 126) (.t 128)) .done)))))))))) (.ite (.v 129) (kY [kf (.st (.v 4) (.c (.bool true)))] .ret) .skip))
def zn (ι:aJ):S:=
 (.blk 9 (.seq (kY [kU 109 (.ld (.v 3)),kA 110 14,kI 111 1 109 110,kD 112 111,kV 113 (.cm .neq .i64 (.t 112) (.c (.int .i64 0)))] (.ite (.v 113) (.dr (kW 114 (.ld (.v 13)) (kW 115 (.ld (.v 3)) (kW 116 (.mv (.v 14)) (kW 117 (.is 1 (.t 115) (.t 116)) (kW 118 (.ld (.t 117)) (ka 119 (.rd (.m (.lki .i64 (.int .i64 0) (.t 114) (.t 118)))) (kW 120 (.ar .add .i64 (.t 119) (.c (.int .i64 1))) (kb (.mui .i64 (.t 114) (.t 118) (.t 120)) .done .wnil)) .wnil))))))) .skip)) (uA ι)))
def zo (ι:aJ):S:=
 (kY [kc 104 .mkm,kd 13 (.new (ι.t 362) #[.map .none]),kf (.st (.v 13) (.t 104))] (kY [kG 105 1 12,kN 106 1 105,kd 107 (kg (ι.f 137) [.t 106])] (.blk 8 (.rf 131 (.v 107) 108 14 (zn ι)))))
def zp (ι:aJ):S:=
 kY [kR 2 (ι.t 358) 0,kR 3 (ι.t 138) 1,kd 4 (.new (ι.t 151) #[.bool false])] (.seq (kY [kV 15 (.ld (.v 3)),kO 16 15,kC 17 (.int .i64 0)] (.blk 0 (.loop (kY [kH 18 17 16] (.seq (.ite (.v 18) .skip (.exit 0)) (.seq (.blk 1 (kY [kA 19 17,kK 20 1 15 17,kD 21 20,kB 5 19,kB 6 21] (zj ι))) (.reg [ke 34 17,kB 17 34]))))))) (.seq (kY [kG 35 1 2,kV 36 (.ld (.t 35)),kO 37 36,kC 38 (.int .i64 0)] (.blk 2 (.loop (kY [kH 39 38 37] (.seq (.ite (.v 39) .skip (.exit 2)) (.seq (.blk 3 (kY [kK 40 2 36 38,kN 41 2 40,kd 8 (.new (ι.t 194) #[.int .i64 0,.int .i64 0]),kf (.stn 2 (.v 8) (.t 41))] (zk ι))) (.reg [ke 61 38,kB 38 61]))))))) (.seq (kY [kG 62 2 2,kV 63 (.ld (.t 62)),kO 64 63,kC 65 (.int .i64 0)] (.blk 4 (.loop (kY [kH 66 65 64] (.seq (.ite (.v 66) .skip (.exit 4)) (.seq (.blk 5 (kY [kK 67 2 63 65,kN 68 2 67,kd 10 (.new (ι.t 194) #[.int .i64 0,.int .i64 0]),kf (.stn 2 (.v 10) (.t 68))] (zm ι))) (.reg [ke 96 65,kB 65 96]))))))) (.seq (kY [kG 97 3 2,kV 98 (.ld (.t 97)),kO 99 98,kC 100 (.int .i64 0)] (.blk 6 (.loop (kY [kH 101 100 99] (.seq (.ite (.v 101) .skip (.exit 6)) (.seq (.blk 7 (kY [kK 102 2 98 100,kN 103 2 102,kd 12 (.new (ι.t 298) #[.int .i64 0,kZ]),kf (.stn 2 (.v 12) (.t 103))] (zo ι))) (.reg [ke 130 100,kB 100 130]))))))) (kY [kf (.st (.v 4) (.c (.bool false)))] .ret)))))
def zq:List RV:=[.c1 4]
theorem rL {u v:Int}:∀(es:List MapEntry) (i:Nat),es.findIdx? (fun e=>u==e.key.i)=some i->∀w:Int,fj w (es.modify i fun e=>{e with key:=.int .i64 u,val:=.int .i64 v})=if w=u then some (.int .i64 v)else fj w es
 |[],i,h,w=>by simp at h
 |e::es,i,h,w=>by
  rw[List.findIdx?_cons]at h
  by_cases hu:(u==e.key.i)=true
  ·rw[if_pos hu]at h
   cases h
   have he:u=e.key.i:=by simpa using hu
   have Gj:(Value.int .i64 u).i=u:=rfl;simp only[List.modify_zero_cons,fj,List.find?_cons,Gj]
   by_cases hw:w=u
   ·have:(w==u)=true:=by simp[hw]
    rw[this,if_pos hw];rfl
   ·have h1:(w==u)=false:=by simp[hw]
    have h2:(w==e.key.i)=false:=by rw[<-he];exact h1
    rw[h1,if_neg hw,h2]
  ·rw[if_neg hu]at h;obtain⟨j,hj,rfl⟩:=Option.map_eq_some_iff.1 h;have ih:=rL (v:=v) es j hj w;simp only[List.modify_succ_cons,fj,List.find?_cons]at ih⊢
   by_cases hw:(w==e.key.i)=true
   ·rw[hw];have h1:w=e.key.i:=by simpa using hw
    have:¬w=u:=fun e'=>hu (by rw[<-e',h1];simp);rw[if_neg this]
   ·have EM:(w==e.key.i)=false:=by simpa using hw
    rw[EM];exact ih
variable {u K:Int} {H A:Hp} {b b4 b3 b7 n k b12:Nat} {g:Int->Nat} {P:Program} {ι:aJ} {f:Fr} {c4 sv mv:Value} {Qb:Ex->Fr->Hp->Prop} {x:gR} {st:List Int} {m:UInt64}
theorem zt {v:Int} {c:Nat}:∀(es:List MapEntry),es.findIdx? (fun e=>u==e.key.i)=none->∀w:Int,fj w (es++[{key:=.int .i64 u,val:=.int .i64 v,born:=c}])=if w=u then some (.int .i64 v)else fj w es:=fun es h w=>by
 rw[List.findIdx?_eq_none_iff]at h;unfold fj;rw[List.find?_append]
 by_cases hw:w=u
 ·subst hw;have:es.find? (fun e=>w==e.key.i)=none:=by
   rw[List.find?_eq_none];intro e he;rw[h e he];simp
  rw[this,if_pos rfl];simp[Value.i]
 ·rw[if_neg hw];have:(w==u)=false:=by simp[hw]
  simp[Value.i,this]
def gI (H:Hp) (b:Nat) (g:Int->Nat):Prop:=∃es c,H[b]?=some (.map es c)/\(∀e∈es.toList,fB .i64 e.key)/\∀w,(fj w es.toList).getD (.int .i64 0)=.int .i64 (g w:Int)
theorem gI.ag {W:Nat->Prop} {H':Hp} (h:gI H b g) (hk:af W H H') (hw:¬W b):gI H' b g:=by
 obtain⟨es,c,h1,h2⟩:=h;exact⟨es,c,by rw[hk.at_ b (Array.getElem?_eq_some_iff.1 h1).1 hw];exact h1,h2⟩
theorem gI.lt (h:gI H b g):b<H.size:=by
 obtain⟨es,c,h1,h2⟩:=h;exact(Array.getElem?_eq_some_iff.1 h1).1
theorem gI.new (H:Hp):gI (H.push (.map #[] 0)) H.size (fun _=>0):=⟨#[],0,by simp,by simp,fun w=>rfl⟩
theorem gI.inn (h:gI H b g):∃es,dh H (.map (some b))=some es/\(∀e∈es,fB .i64 e.key)/\∀w,(fj w es).getD (.int .i64 0)=.int .i64 (g w:Int):=by
 obtain⟨es,c,h1,h2,h3⟩:=h;exact⟨es.toList,by simp[dh,h1],h2,h3⟩
theorem gI.bN (h:gI H b g) (u:Int) (n:Nat):∃es c,H[b]?=some (.map es c)/\(∀e∈es.toList,fB .i64 e.key)∧
  gI (H.setIfInBounds b (.map (ox es c (.int .i64 u) (.int .i64 (n:Int))).1 (ox es c (.int .i64 u) (.int .i64 (n:Int))).2)) b (fun w=>if w=u then n else g w):=by
 have hb:=h.lt;obtain⟨es,c,h1,h2,h3⟩:=h;refine⟨es,c,h1,h2,_,_,by rw[Array.getElem?_setIfInBounds_self_of_lt hb],?_,?_⟩
 ·unfold ox
  split
  ·next i hi=>
   intro e he;simp only[Array.toList_modify]at he;obtain⟨j,hj,rfl⟩:=List.getElem_of_mem he;rw[List.getElem_modify]
   split
   ·rfl
   ·exact h2 _ (List.getElem_mem _)
  ·intro e he;simp only[Array.toList_push,List.mem_append,List.mem_singleton]at he;rcases he with he|rfl
   ·exact h2 e he
   ·rfl
 ·intro w;have hk:(Value.int .i64 u).i=u:=rfl;unfold ox;rw[hk]
  split
  ·next i hi=>
   simp only[Array.toList_modify];rw[rL es.toList i hi w]
   split
   ·rfl
   ·exact h3 w
  ·next hi=>
   simp only[Array.toList_push];rw[zt es.toList hi w]
   split
   ·rfl
   ·exact h3 w
theorem Kl (has:fP P (ι.f 130)) {b2 i:Nat} {el di sa mo fv:Value} {vs:List Value} {ms:List MV} {p:eX} {fx:List Int}
  (h2:f 2=.pointer (some ⟨b2,0,none⟩)) (h4:f 4=.pointer (some ⟨b4,0,none⟩)) (h5:f 5=.int .i64 (i:Int)) (h6:f 6=.int .i64 u) (B2:Bl A b2 [el,di,sa,mo,fv]) (B4:Bl A b4 [c4]) (hp:uy A p fx el di sa mo fv vs ms) (hi:i<p.el.length) (AE:p.el.length<=10)
  (hT:u≠0->cX (bS p i) u=false->∀f' A',(∀j,j≠33->f' j=f j)->Bl A' b4 [.bool true]->af (fun q=>q=b4) A A'->Qb .r f' A')
  (hF:¬(u≠0/\cX (bS p i) u=false)->∀f' A',(∀j,j≠33->f' j=f j)->af (fun _=>False) A A'->Qb .n f' A'):vc P (zj ι) Qb f A:=by
 unfold zj kA kF kS kT kU kV kf kg kY;have ag:∀(z:Value),∀j,j≠33->bN f 33 z j=f j:=fun z j hj=>by simp only[bN,hj,if_false]
 by_cases e1:u=0
 ·have d1:(u !=0)=false:=by rw[e1];rfl
  simp-implicitDefEqProofs only[go_sem,zS,↓reduceIte,Za,Zb,Zc,reduceCtorEq,ae,zU,zV,Zf,Zg,Zh,Zi,Zd,Ze,zF,h6,d1];exact hF (fun h=>h.1 e1) _ _ (ag _) (af.refl _ _)
 have d1:(u !=0)=true:=bne_iff_ne.2 e1;have hvl:=hp.el;have c2:cell A ⟨b2,0,none⟩=some el:=by rw[B2.cell];rfl
 obtain⟨sb,so,sc,e,hld⟩:=hp.e.ld1 (i:=i) (by omega);have hS:=hp.es i (by omega);generalize vs.getD i undef=w at*;simp-implicitDefEqProofs only[go_sem,zS,↓reduceIte,Za,Zb,Zc,reduceCtorEq,ae,zU,zV,Zf,Zg,Zh,Zi,Zd,Ze,zF,h2,h5,h6,d1,c2,e,ai,hvl,hld,aB];refine⟨by omega,?_⟩;refine(has _ _ u A hS).mono ?_;rintro r A1 ⟨rfl,K1⟩;rw[ae]
 cases hm:cX (bS p i) u with
 |true=>
  simp-implicitDefEqProofs only[go_sem,zS,↓reduceIte,Za,Zb,Zc,reduceCtorEq,ae,zU,zV,Zf,Zg,Zh,Zi,Zd,Ze,zF,Bool.not_true,false_imp_iff,forall_const];exact hF (fun h=>by rw[hm]at h;cases h.2) _ _ (ag _) K1
 |false=>
  have SR:=K1.bl B4 (by simp);have t4:=SR.bk (o:=0) (by simp);have Dt:=SR.al 0 (.bool true);have k4:af (fun q=>q=b4) A1 (al A1 ⟨b4,0,none⟩ (.bool true)):=(af.refl _ _).al _ (.inl rfl);simp-implicitDefEqProofs only[go_sem,zS,↓reduceIte,Za,Zb,Zc,reduceCtorEq,ae,zU,zV,Zf,Zg,Zh,Zi,Zd,Ze,zF,Bool.not_false,forall_const,h4,t4];exact hT e1 hm _ _ (ag _) Dt (K1.any.trans k4)
theorem Km (h3:f 3=.pointer (some ⟨b3,0,none⟩)) (h4:f 4=.pointer (some ⟨b4,0,none⟩)) (h7:f 8=.pointer (some ⟨b7,0,none⟩))
  (B3:Bl A b3 [sv]) (B4:Bl A b4 [c4]) (B7:Bl A b7 (pE x)) (hs:aG A sv (iL st)) (hn:st.length=n) (hx:qW (n:Int) x)
  (hT:jU st x=true->∀f' A',(∀j,j≠60->f' j=f j)->Bl A' b4 [.bool true]->af (fun q=>q=b4) A A'->Qb .r f' A') (hF:jU st x=false->∀f',(∀j,j≠60->f' j=f j)->Qb .n f' A):vc P (zk ι) Qb f A:=by
 unfold zk kF kD kI kP kT kU kV kf kY;obtain⟨x1,x2,x3,x4⟩:=hx;have c3:cell A ⟨b3,0,none⟩=some sv:=by rw[B3.cell];rfl
 have MM:cell A ⟨b7,0,none⟩=some (.int .i64 x.1):=by rw[B7.cell];rfl
 have MN:cell A ⟨b7,1,none⟩=some (.int .i64 x.2):=by rw[B7.cell];rfl
 obtain⟨sb,so,sc,rfl,k1⟩:=fz hs x1 (by omega);obtain⟨sb',so',sc',e,k2⟩:=fz hs x3 (by omega);simp only[Value.slice.injEq,Option.some.injEq,Addr.mk.injEq,true_and,and_true]at e;obtain⟨⟨rfl,rfl⟩,rfl⟩:=e;have ag:∀(z:Value),∀j,j≠60->bN f 60 z j=f j:=fun z j hj=>by simp only[bN,hj,if_false]
 have t4:=B4.bk (o:=0) (by simp);have Dt:=B4.al 0 (.bool true);have k4:af (fun q=>q=b4) A (al A ⟨b4,0,none⟩ (.bool true)):=(af.refl _ _).al _ (.inl rfl)
 by_cases e1:sI st x.1=0
 ·have d1:(sI st x.1 !=0)=false:=by rw[e1];rfl
  simp-implicitDefEqProofs only[go_sem,zS,↓reduceIte,Za,Zb,Zc,reduceCtorEq,ae,zU,zV,Zf,Zg,Zh,Zi,Zd,Ze,zF,h3,h7,c3,MM,MN,k1,k2,d1];refine⟨by omega,hF ?_ _ (ag _)⟩;simp[jU,e1]
 have d1:(sI st x.1 !=0)=true:=bne_iff_ne.2 e1
 by_cases e2:sI st x.1=sI st x.2
 ·have d2:(sI st x.1==sI st x.2)=true:=by rw[e2];simp
  simp-implicitDefEqProofs only[go_sem,zS,↓reduceIte,Za,Zb,Zc,reduceCtorEq,ae,zU,zV,Zf,Zg,Zh,Zi,Zd,Ze,zF,h3,h4,h7,c3,MM,MN,k1,k2,d1,d2,t4];refine⟨by omega,by omega,by omega,?_⟩;refine hT ?_ _ _ (ag _) Dt k4;simp only[jU,Bool.and_eq_true,decide_eq_true_eq];exact⟨e1,e2⟩
 ·have d2:(sI st x.1==sI st x.2)=false:=by simp[e2]
  simp-implicitDefEqProofs only[go_sem,zS,↓reduceIte,Za,Zb,Zc,reduceCtorEq,ae,zU,zV,Zf,Zg,Zh,Zi,Zd,Ze,zF,h3,h7,c3,MM,MN,k1,k2,d1,d2];refine⟨by omega,by omega,by omega,hF ?_ _ (ag _)⟩;simp[jU,e2]
theorem Kn (h3:f 3=.pointer (some ⟨b3,0,none⟩)) (h4:f 4=.pointer (some ⟨b4,0,none⟩)) (h7:f 10=.pointer (some ⟨b7,0,none⟩))
  (B3:Bl A b3 [sv]) (B4:Bl A b4 [c4]) (B7:Bl A b7 (pE x)) (hs:aG A sv (iL st)) (hn:st.length=n) (hx:qW (n:Int) x)
  (hT:mB st x=true->∀f' A',(∀j,j≠95->f' j=f j)->Bl A' b4 [.bool true]->af (fun q=>q=b4) A A'->Qb .r f' A') (hF:mB st x=false->∀f',(∀j,j≠95->f' j=f j)->Qb .n f' A):vc P (zm ι) Qb f A:=by
 unfold zm kF kD kI kJ kP kT kU kV kf kY;obtain⟨x1,x2,x3,x4⟩:=hx;have c3:cell A ⟨b3,0,none⟩=some sv:=by rw[B3.cell];rfl
 have MM:cell A ⟨b7,0,none⟩=some (.int .i64 x.1):=by rw[B7.cell];rfl
 have MN:cell A ⟨b7,1,none⟩=some (.int .i64 x.2):=by rw[B7.cell];rfl
 obtain⟨sb,so,sc,rfl,k1⟩:=fz hs x1 (by omega);obtain⟨sb',so',sc',e,k2⟩:=fz hs x3 (by omega);simp only[Value.slice.injEq,Option.some.injEq,Addr.mk.injEq,true_and,and_true]at e;obtain⟨⟨rfl,rfl⟩,rfl⟩:=e;have ag:∀(z:Value),∀j,j≠95->bN f 95 z j=f j:=fun z j hj=>by simp only[bN,hj,if_false]
 have t4:=B4.bk (o:=0) (by simp);have Dt:=B4.al 0 (.bool true);have k4:af (fun q=>q=b4) A (al A ⟨b4,0,none⟩ (.bool true)):=(af.refl _ _).al _ (.inl rfl)
 by_cases e1:sI st x.1=0
 ·have d1:(sI st x.1 !=0)=false:=by rw[e1];rfl
  simp-implicitDefEqProofs only[go_sem,zS,↓reduceIte,Za,Zb,Zc,reduceCtorEq,ae,zU,zV,Zf,Zg,Zh,Zi,Zd,Ze,zF,h3,h7,c3,MM,MN,k1,k2,d1];refine⟨by omega,hF ?_ _ (ag _)⟩;simp[mB,e1]
 have d1:(sI st x.1 !=0)=true:=bne_iff_ne.2 e1
 by_cases e0:sI st x.2=0
 ·have d0:(sI st x.2 !=0)=false:=by rw[e0];rfl
  simp-implicitDefEqProofs only[go_sem,zS,↓reduceIte,Za,Zb,Zc,reduceCtorEq,ae,zU,zV,Zf,Zg,Zh,Zi,Zd,Ze,zF,h3,h7,c3,MM,MN,k1,k2,d1,d0];refine⟨by omega,by omega,hF ?_ _ (ag _)⟩;simp[mB,e0]
 have d0:(sI st x.2 !=0)=true:=bne_iff_ne.2 e0
 by_cases e2:sI st x.1=sI st x.2
 ·have d2:(sI st x.1 !=sI st x.2)=false:=by rw[e2];simp
  simp-implicitDefEqProofs only[go_sem,zS,↓reduceIte,Za,Zb,Zc,reduceCtorEq,ae,zU,zV,Zf,Zg,Zh,Zi,Zd,Ze,zF,h3,h7,c3,MM,MN,k1,k2,d1,d0,d2];refine⟨by omega,by omega,by omega,by omega,hF ?_ _ (ag _)⟩;simp[mB,e2]
 ·have d2:(sI st x.1 !=sI st x.2)=true:=bne_iff_ne.2 e2;simp-implicitDefEqProofs only[go_sem,zS,↓reduceIte,Za,Zb,Zc,reduceCtorEq,ae,zU,zV,Zf,Zg,Zh,Zi,Zd,Ze,zF,h3,h4,h7,c3,MM,MN,k1,k2,d1,d0,d2,t4];refine⟨by omega,by omega,by omega,by omega,?_⟩;refine hT ?_ _ _ (ag _) Dt k4;simp only[mB,Bool.and_eq_true,decide_eq_true_eq];exact⟨⟨e1,e0⟩,e2⟩
theorem gI.ne {l:List Value} (h:gI H b g) (B:Bl H k l):k≠b:=by
 rintro rfl;obtain⟨es,c,h1,_⟩:=h;obtain⟨T,h2⟩:=B;rw[h2]at h1;cases h1
def bump (g:Int->Nat) (u:Int):Int->Nat:=if u=0 then g else fun w=>if w=u then g u+1 else g w
theorem Ko {b13 bm kk:Nat}
  (h3:f 3=.pointer (some ⟨b3,0,none⟩)) (h4:f 4=.pointer (some ⟨b4,0,none⟩)) (h12:f 12=.pointer (some ⟨b12,0,none⟩)) (h13:f 13=.pointer (some ⟨b13,0,none⟩)) (h14:f 14=.int .i64 (kk:Int))
  (B3:Bl A b3 [sv]) (B4:Bl A b4 [c4]) (nO:Bl A b12 [.int .i64 K,mv]) (qM:Bl A b13 [.map (some bm)]) (M:gI A bm g) (hs:aG A sv (iL st)) (hsn:∀q,aU sv q->q≠bm) (hkk:kk<st.length) (hb:g (st.getD kk 0)<=10000)
  (hT:K<(bump g (st.getD kk 0) (st.getD kk 0):Int)->∀f' A',Bl A' b4 [.bool true]->af (fun q=>q=b4\/q=bm) A A'->Qb .r f' A')
  (hF:¬K<(bump g (st.getD kk 0) (st.getD kk 0):Int)->∀f' A',gI A' bm (bump g (st.getD kk 0))->af (fun q=>q=bm) A A'->Qb .n f' A'):vc P (zn ι) Qb f A:=by
 unfold zn kA kD kI kU kV kW ka kb kY;have c3:cell A ⟨b3,0,none⟩=some sv:=by rw[B3.cell];rfl
 have X9:cell A ⟨b13,0,none⟩=some (.map (some bm)):=by rw[qM.cell];rfl
 have n3:=M.ne B3;have n4:=M.ne B4;have n12:=M.ne nO;have n13:=M.ne qM;obtain⟨sb,so,sc,rfl,k1⟩:=fz (a:=(kk:Int)) hs (by omega) (by omega);have AM:aU (.slice (some ⟨sb,so,none⟩) st.length sc) sb:=⟨rfl,by omega⟩
 have ns:sb≠bm:=hsn sb AM;have Ya:sI st (kk:Int)=st.getD kk 0:=rfl;rw[Ya,Int.toNat_natCast]at k1;obtain⟨u,hu⟩:∃u,u=st.getD kk 0:=⟨_,rfl⟩
 rw[<-hu]at k1 hb hT hF;have m3:(b3=bm)=False:=eq_false n3;have m13:(b13=bm)=False:=eq_false n13;have ms:(sb=bm)=False:=eq_false ns
 -- what comes last
 have fin:∀(f':Fr) (A1:Hp),f' 3=f 3->f' 4=f 4->f' 12=f 12->f' 13=f 13->f' 14=f 14->gI A1 bm (bump g u)->af (fun q=>q=bm) A A1→
   vc P (uA ι) (oz 9 Qb) f' A1:=fun f' A1 e3 e4 e12 e13 e14 M1 K1=>by
  unfold uA kW kX kf kY;rw[h3]at e3;rw[h4]at e4;rw[h12]at e12;rw[h13]at e13;rw[h14]at e14;have XS:cell A1 ⟨b3,0,none⟩=some (.slice (some ⟨sb,so,none⟩) st.length sc):=by rw[(K1.bl B3 n3).cell];rfl
  have Yb:cell A1 ⟨b13,0,none⟩=some (.map (some bm)):=by rw[(K1.bl qM n13).cell];rfl
  have Yc:cell A1 ⟨b12,0,none⟩=some (.int .i64 K):=by rw[(K1.bl nO n12).cell];rfl
  have SR:=K1.bl B4 n4;have k11:cell A1 ⟨sb,so+kk,none⟩=some (.int .i64 u):=by
   have lt:=hs.bM (k:=sb) AM;rw[K1.cell lt ns];exact k1
  obtain⟨es,e1,e2,e3'⟩:=M1.inn;have eu:=e3' u;have t4:=SR.bk (o:=0) (by simp);have Dt:=SR.al 0 (.bool true);have k4:af (fun q=>q=b4) A1 (al A1 ⟨b4,0,none⟩ (.bool true)):=(af.refl _ _).al _ (.inl rfl);simp-implicitDefEqProofs only[go_sem,zS,↓reduceIte,Za,Zb,Zc,reduceCtorEq,ae,zU,zV,Zf,Zg,Zh,Zi,Zd,Ze,zF];refine bC (fun _=>False) ?_;simp-implicitDefEqProofs only[go_sem,zS,↓reduceIte,Za,Zb,Zc,reduceCtorEq,ae,zU,zV,Zf,Zg,Zh,Zi,Zd,Ze,zF,e3,e12,e13,e14,XS,Yb,Yc,k11,ai,e1,eu];refine⟨by omega,⟨es,rfl,e2⟩,?_⟩
  by_cases e:(bump g u u:Int)>K
  ·have d:decide ((bump g u u:Int)>K)=true:=decide_eq_true e;simp-implicitDefEqProofs only[go_sem,zS,↓reduceIte,Za,Zb,Zc,reduceCtorEq,ae,zU,zV,Zf,Zg,Zh,Zi,Zd,Ze,zF,d,e4,t4];exact hT (by omega) _ _ Dt ((K1.mono fun q _ h=>.inr h).trans (k4.mono fun q _ h=>.inl h))
  ·have d:decide ((bump g u u:Int)>K)=false:=decide_eq_false e;simp-implicitDefEqProofs only[go_sem,zS,↓reduceIte,Za,Zb,Zc,reduceCtorEq,ae,zU,zV,Zf,Zg,Zh,Zi,Zd,Ze,zF,d];exact hF (by omega) _ _ M1 K1
 have Dt:=B4.al 0 (.bool true)
 by_cases e1:u=0
 ·have d1:(u !=0)=false:=by rw[e1];rfl
  have Yd:bump g u=g:=by unfold bump;rw[if_pos e1]
  rw[Yd]at fin;simp-implicitDefEqProofs only[go_sem,zS,↓reduceIte,Za,Zb,Zc,reduceCtorEq,ae,zU,zV,Zf,Zg,Zh,Zi,Zd,Ze,zF,h3,h14,c3,ai,k1,d1];refine⟨by omega,?_⟩;have:=fin (bN f 113 (.bool false)) A (by simp-implicitDefEqProofs only[go_sem,zS,↓reduceIte,Za,Zb,Zc,reduceCtorEq,ae,zU,zV,Zf,Zg,Zh,Zi,Zd,Ze]) (by simp-implicitDefEqProofs only[go_sem,zS,↓reduceIte,Za,Zb,Zc,reduceCtorEq,ae,zU,zV,Zf,Zg,Zh,Zi,Zd,Ze]) (by simp-implicitDefEqProofs only[go_sem,zS,↓reduceIte,Za,Zb,Zc,reduceCtorEq,ae,zU,zV,Zf,Zg,Zh,Zi,Zd,Ze]) (by simp-implicitDefEqProofs only[go_sem,zS,↓reduceIte,Za,Zb,Zc,reduceCtorEq,ae,zU,zV,Zf,Zg,Zh,Zi,Zd,Ze]) (by simp-implicitDefEqProofs only[go_sem,zS,↓reduceIte,Za,Zb,Zc,reduceCtorEq,ae,zU,zV,Zf,Zg,Zh,Zi,Zd,Ze]) M (af.refl _ _);unfold uA kW kX kf kY at this;exact this
 have d1:(u !=0)=true:=bne_iff_ne.2 e1;have Yd:bump g u=fun w=>if w=u then g u+1 else g w:=by unfold bump;rw[if_neg e1]
 obtain⟨es,i1,i2,i3⟩:=M.inn;obtain⟨Ye,ec,j1,j2,j3⟩:=M.bN u (g u+1);have eu:=i3 u;have w1:IntKind.i64.wrap ((g u:Int)+1)=((g u+1:Nat):Int):=IntWalk.i64_in _ (by omega);have ku:af (fun q=>q=bm) A (A.setIfInBounds bm (.map (ox Ye ec (.int .i64 u) (.int .i64 ((g u+1:Nat):Int))).1 (ox Ye ec (.int .i64 u) (.int .i64 ((g u+1:Nat):Int))).2)):=
  ⟨by simp,fun q _ hq=>by rw[Array.getElem?_setIfInBounds_ne (fun e=>hq e.symm)]⟩
 simp-implicitDefEqProofs only[go_sem,zS,↓reduceIte,Za,Zb,Zc,reduceCtorEq,ae,zU,zV,Zf,Zg,Zh,Zi,Zd,Ze,zF,h3,h14,c3,ai,k1,d1];refine⟨by omega,?_⟩;refine bC (fun q=>q=bm) ?_;simp-implicitDefEqProofs only[go_sem,zS,↓reduceIte,Za,Zb,Zc,reduceCtorEq,ae,zU,zV,Zf,Zg,Zh,Zi,Zd,Ze,zF,h3,h13,h14,c3,X9,ai,k1,m3,m13,ms,i1,eu,w1];refine⟨by omega,⟨es,rfl,i2⟩,af.refl _ _,bm,Ye,ec,rfl,j1,j2,ku,?_⟩;rw[Yd]at fin;exact fin _ _ (by simp-implicitDefEqProofs only[go_sem,zS,↓reduceIte,Za,Zb,Zc,reduceCtorEq,ae,zU,zV,Zf,Zg,Zh,Zi,Zd,Ze]) (by simp-implicitDefEqProofs only[go_sem,zS,↓reduceIte,Za,Zb,Zc,reduceCtorEq,ae,zU,zV,Zf,Zg,Zh,Zi,Zd,Ze]) (by simp-implicitDefEqProofs only[go_sem,zS,↓reduceIte,Za,Zb,Zc,reduceCtorEq,ae,zU,zV,Zf,Zg,Zh,Zi,Zd,Ze]) (by simp-implicitDefEqProofs only[go_sem,zS,↓reduceIte,Za,Zb,Zc,reduceCtorEq,ae,zU,zV,Zf,Zg,Zh,Zi,Zd,Ze]) (by simp-implicitDefEqProofs only[go_sem,zS,↓reduceIte,Za,Zb,Zc,reduceCtorEq,ae,zU,zV,Zf,Zg,Zh,Zi,Zd,Ze]) j3 ku
def xk (st:List Int) (m:UInt64) (k:Nat) (u:Int):Nat:=if u=0 then 0 else xR st m k u
theorem Gk {s:List Int} (hk:k<(aD (bt m)).length):xk s m (k+1)=bump (xk s m k) (s.getD (aD (bt m))[k] 0):=by
 funext u
 unfold bump
 by_cases h0:s.getD (aD (bt m))[k] 0=0
 ·rw[if_pos h0];unfold xk
  by_cases hu:u=0
  ·rw[if_pos hu,if_pos hu]
  ·rw[if_neg hu,if_neg hu,pJ hk,h0,if_neg (fun e=>hu e.symm)];rfl
 ·rw[if_neg h0];unfold xk
  by_cases hu:u=0
  ·subst hu;rw[if_pos rfl,if_pos rfl,if_neg (fun e=>h0 e.symm)]
  ·rw[if_neg hu,if_neg hu,pJ hk]
   by_cases e:u=s.getD (aD (bt m))[k] 0
   ·rw[if_pos e.symm,if_pos e,if_neg h0,e]
   ·rw[if_neg (fun h=>e h.symm),if_neg e];rfl
theorem Kq (hba:gB P (ι.f 137) (ι.f 136)) (hb1:bF P (ι.f 136)=true) (hY:lu P (ι.f 136) (jl ι) jm 2) (htz:mc P ι (ι.f 126))
  (h3:f 3=.pointer (some ⟨b3,0,none⟩)) (h4:f 4=.pointer (some ⟨b4,0,none⟩)) (h12:f 12=.pointer (some ⟨b12,0,none⟩))
  (B3:Bl A b3 [sv]) (B4:Bl A b4 [c4]) (nO:Bl A b12 [.int .i64 K,mv]) (h34:b3≠b4) (h124:b12≠b4)
  (hs:aG A sv (iL st)) (hsn:∀q,aU sv q->q≠b4) (hm:aS A (.agg #[mv]) (bt m)) (hmn:∀q,aU mv q->q≠b4) (hT:br ι A) (hTn:∀A',af (fun q=>q=b4\/A.size<=q) A A'->br ι A')
  (hl:st.length<=10) (hK:1<=K) (hmt:m.toNat<2^st.length) (hr:∀u∈st,0<=u/\u<=256)
  (hR:mC st (K,m)=true->∀f' A' q,(∀j,j∉[13,107,131]->f' j=f j)->f' 131=nr (f 131) q->A.size<=q->A'[q]?=some (.deferred (some []))->Bl A' b4 [.bool true]->af (fun q=>q=b4) A A'->Qb .r f' A')
  (hN:mC st (K,m)=false->∀f' A' q,(∀j,j∉[13,107,131]->f' j=f j)->f' 131=nr (f 131) q->A.size<=q->A'[q]?=some (.deferred (some []))->Bl A' b4 [c4]->af (fun q=>q=b4) A A'->Qb .n f' A'):vc P (zo ι) Qb f A:=by
 unfold zo kG kN kc kd kf kg kY;have s4:=B4.lt;have s3:=B3.lt;have s12:=nO.lt;simp-implicitDefEqProofs only[go_sem,zS,↓reduceIte,Za,Zb,Zc,reduceCtorEq,zU,zV,Zf,Zg,Zh,Zi,Zd,Ze,zF];have M0:=gI.new A;have K0:af (fun _=>False) A (A.push (.map #[] 0)):=(af.refl _ _).push _;have z0:(A.push (Obj.map #[] 0)).size=A.size+1:=by simp
 obtain⟨bm,hbm⟩:∃bm,bm=A.size:=⟨_,rfl⟩
 rw[<-hbm]at M0⊢;generalize A.push (.map #[] 0)=A0 at M0 K0 z0⊢;rw[ae];simp-implicitDefEqProofs only[go_sem,zS,↓reduceIte,Za,Zb,Zc,reduceCtorEq,zU,zV,Zf,Zg,Zh,Zi,Zd,Ze,zF];refine ay fun H1 b13 e13 z1 qM K1=>?_;have SS:Bl H1 b13 [.map none]:=qM;have t13:=SS.bk (o:=0) (by simp);have D13:=SS.al 0 (.map (some bm));have SU:Bl (al H1 ⟨b13,0,none⟩ (.map (some bm))) b13 [.map (some bm)]:=D13;have Yf:af (fun q=>q=b13) H1 (al H1 ⟨b13,0,none⟩ (.map (some bm))):=(af.refl _ _).al _ (.inl rfl);simp-implicitDefEqProofs only[go_sem,zS,↓reduceIte,Za,Zb,Zc,reduceCtorEq,zU,zV,Zf,Zg,Zh,Zi,Zd,Ze,zF,t13];have zc:(al H1 ⟨b13,0,none⟩ (.map (some bm))).size=H1.size:=eZ _ _ _;generalize al H1 ⟨b13,0,none⟩ (.map (some bm))=G1 at SU Yf zc⊢;have KG:af (fun _=>False) A G1:=(K0.trans K1).trans' Yf fun q hq h=>by omega
 have M1:gI G1 bm (fun _=>0):=(M0.ag K1 (by simp)).ag Yf (by omega);have Yg:=KG.bl nO (by simp);have mS:aR G1 ⟨b12,1,none⟩ 1=some #[mv]:=by
  have:=Yg.aR (o:=1) (n:=1) (by simp);simpa using this
 rw[ae];simp-implicitDefEqProofs only[go_sem,zS,↓reduceIte,Za,Zb,Zc,reduceCtorEq,zU,zV,Zf,Zg,Zh,Zi,Zd,Ze,zF,h12,aB,mS];refine(hba mv G1).mono ?_;rintro r H2 ⟨rfl,Bs,K2,z2⟩;rw[ae];have fy:=KG.trans K2;have BK:=fy.bl B3 (by simp);have B42:=fy.bl B4 (by simp);have Yh:=fy.bl nO (by simp);have Yi:=K2.bl SU (by simp);have M2:=M1.ag K2 (by simp);obtain⟨u,W0,hu,hV⟩:=hm;simp only[Value.agg.injEq,Array.mk.injEq,List.cons.injEq,and_true]at hu;rw[<-hu]at hV;have hmo:∀q,aU mv q->q<A.size:=fun q hq=>aS.bM (x:=.agg #[mv]) ⟨mv,W0,rfl,hV⟩ (k:=q) hq;have hV2:=hV.ag fy (by simp);have hso:∀q,aU sv q->q<A.size:=fun q hq=>hs.bM hq;have hs2:=hs.ag fy (by simp);simp-implicitDefEqProofs only[go_sem,zS,↓reduceIte,Za,Zb,Zc,reduceCtorEq,ae,zU,zV,Zf,Zg,Zh,Zi,Zd,Ze];refine FA (fun p=>p=b4\/p=bm) (fun k A=>gI A bm (xk st m k)/\(∀u:Int,0<=u->u<=256->(xk st m k u:Int)<=K)/\Bl A b4 [c4])
  (fun e A=>e=.r/\mC st (K,m)=true/\Bl A b4 [.bool true]) (G:=fun H=>br ι H/\Bl H G1.size [mv]/\eH H mv W0 (bt m)) (by simp-implicitDefEqProofs only[go_sem,zS,↓reduceIte,Za,Zb,Zc,reduceCtorEq,ae,zU,zV,Zf,Zg,Zh,Zi,Zd,Ze];rfl) hb1 (o9 hY htz) ?_ ?_ ?_ ?_ ?_ ?_ ?_ ?_
 ·rintro p (rfl|rfl)<;>omega
 ·rintro k X KX _;refine⟨hTn X (fy.any.trans (KX.mono fun q _ h=>?_)),KX.bl Bs (by omega),hV2.ag KX fun q hq h=>?_⟩
  ·rcases h with h|h
   ·exact .inl h
   ·exact .inr (by omega)
  ·have:=hmn q hq;have:=hmo q hq;omega
 ·intro X KX pg;refine⟨?_,fun u _ hu=>?_,KX.bl B42 (by simp)⟩
  ·have:xk st m 0=fun _=>0:=by funext u;unfold xk;rw[ML];split<;>rfl
   rw[this];exact M2.ag KX (by simp)
  ·unfold xk;rw[ML];split<;>omega
 ·rintro k X X2 pg KX ⟨j1,j2,j3⟩ KK;exact⟨j1.ag KK (by omega),j2,KK.bl j3 (by omega)⟩
 ·rintro e X X2 pg KX ⟨j1,j2,j3⟩ KK;exact⟨j1,j2,KK.bl j3 (by omega)⟩
 ·rintro k X hk KX pg ⟨j1,j2,j3⟩;have hkl:k<(aD (bt m)).length:=by simpa[cf]using hk
  obtain⟨x,hx⟩:∃x,x=(aD (bt m))[k]:=⟨_,rfl⟩
  have hxv:(cf (bt m)).getD k undef=.int .i64 (x:Int):=by
   rw[List.getD_eq_getElem?_getD,List.getElem?_eq_getElem hk];simp[cf,hx]
  rw[hxv];have hxm:bt m x=true:=(bH.1 (show x∈aD (bt m) by rw[hx];exact List.getElem_mem _)).2;have hxl:x<st.length:=by
   have:=(jo (n:=st.length) (by omega)).2 hmt x hxm;simpa using this
  have hxr:=hr (st.getD x 0) (by rw[List.getD_eq_getElem?_getD,List.getElem?_eq_getElem hxl];exact List.getElem_mem _);have Yj:xk st m (k+1)=bump (xk st m k) (st.getD x 0):=by rw[hx];exact Gk hkl
  have hle:xk st m k (st.getD x 0)<=10000:=by
   unfold xk;have:=Pk st m k (st.getD x 0)
   split<;>omega
  have X8:=hs2.ag KX fun q hq h=>by
   have:=hsn q hq;have:=hso q hq;omega
  refine Ko (kk:=x) (K:=K) (mv:=mv) (bm:=bm) (g:=xk st m k) (by simp-implicitDefEqProofs only[go_sem,zS,↓reduceIte,Za,Zb,Zc,reduceCtorEq,ae,zU,zV,Zf,Zg,Zh,Zi,Zd,Ze,h3]) (by simp-implicitDefEqProofs only[go_sem,zS,↓reduceIte,Za,Zb,Zc,reduceCtorEq,ae,zU,zV,Zf,Zg,Zh,Zi,Zd,Ze,h4]) (by simp-implicitDefEqProofs only[go_sem,zS,↓reduceIte,Za,Zb,Zc,reduceCtorEq,ae,zU,zV,Zf,Zg,Zh,Zi,Zd,Ze,h12]) (by simp-implicitDefEqProofs only[go_sem,zS,↓reduceIte,Za,Zb,Zc,reduceCtorEq,ae,zU,zV,Zf,Zg,Zh,Zi,Zd,Ze]) (by simp-implicitDefEqProofs only[go_sem,zS,↓reduceIte,Za,Zb,Zc,reduceCtorEq,ae,zU,zV,Zf,Zg,Zh,Zi,Zd,Ze]) (KX.bl BK (by omega)) j3 (KX.bl Yh (by omega)) (KX.bl Yi (by omega)) j1 X8 (fun q hq=>by have:=hso q hq;omega) hxl hle ?_ ?_
  ·intro E8 f' A' w4 KK;rw[<-Yj]at E8;refine⟨KK.mono fun q _ h=>.inl h,rfl,?_,w4⟩;have e0:st.getD x 0≠0:=by
    intro e;unfold xk at E8;rw[if_pos e]at E8;omega
   refine Gd hl hmt (k:=k+1) hxl e0 ?_;unfold xk at E8;rw[if_neg e0]at E8;exact E8
  ·intro Yk f' A' M' KK;rw[<-Yj]at Yk M';refine⟨KK.mono fun q _ h=>.inl (.inr h),M',fun u Va hu1=>?_,KK.bl j3 (by omega)⟩
   by_cases e:u=st.getD x 0
   ·rw[e];omega
   ·have:=j2 u Va hu1;rw[Yj];unfold bump
    split
    ·exact this
    ·change (((if u=st.getD x 0 then _ else _:Nat):Nat):Int)<=K;rw[if_neg e];exact this
 ·rintro X KX pg hd ⟨j1,j2,j3⟩;have SV:(cf (bt m)).length=(aD (bt m)).length:=by simp[cf]
  rw[SV]at j2;refine hN (Dq hl hmt hr fun u h0 h1 h2=>?_) _ X H2.size (fun j hj=>?_) (by simp-implicitDefEqProofs only[go_sem,zS,↓reduceIte,Za,Zb,Zc,reduceCtorEq,ae,zU,zV,Zf,Zg,Zh,Zi,Zd,Ze]) (by omega) hd j3 ?_
  ·have:=j2 u h0 h1;unfold xk at this;rw[if_neg h2]at this;exact this
  ·simp only[List.mem_cons,List.not_mem_nil,or_false,not_or]at hj;simp only[bN,D.fr,hj.1,hj.2.1,hj.2.2,if_false]
  ·refine fy.any.trans' KX fun q hq h=>?_;rcases h with h|h
   ·exact h
   ·omega
 ·rintro e X KX pg hd ⟨rfl,j2,j3⟩;refine hR j2 _ X H2.size (fun j hj=>?_) (by simp-implicitDefEqProofs only[go_sem,zS,↓reduceIte,Za,Zb,Zc,reduceCtorEq,ae,zU,zV,Zf,Zg,Zh,Zi,Zd,Ze]) (by omega) hd j3 ?_
  ·simp only[List.mem_cons,List.not_mem_nil,or_false,not_or]at hj;simp only[bN,D.fr,hj.1,hj.2.1,hj.2.2,if_false]
  ·refine fy.any.trans' KX fun q hq h=>?_;rcases h with h|h
   ·exact h
   ·omega
end Go.Mg
namespace Go.Mg
open Go Go.RowKit
def uB (ι:aJ):S:=
 kY [kR 2 (ι.t 358) 0,kC 4 (.bool false)] (kY [kM 5 5 2,kA 6 1,kc 7 (kg (ι.f 361) [.t 5,.t 6]),kF 8 7,kT 9 8 true (.m (.ldn 5 (.v 2))),kS 10 8 true 1,.ge (.t 11) (.t 8) true (kg (ι.f 363) [.t 9,.t 10]),kJ 12 8 11,kB 4 12] .ret)
def uC:List RV:=[.t 4]
def zu (ι:aJ):S:=
 kY [kR 2 (ι.t 358) 0,kC 4 (.bool false)] (.seq (kY [kM 7 5 2,kA 8 1,kc 9 (kg (ι.f 361) [.t 7,.t 8]),kU 10 (.not (.t 9)),kF 11 10,kS 12 11 false 1,.ge (.t 13) (.t 11) false (kg (ι.f 158) [.t 12,.c (.int .i64 0)]),kU 14 (.pick (.t 11) (.c (.bool true)) (.t 13)),kF 15 14,kT 16 15 false (.m (.ldn 5 (.v 2))),kS 17 15 false 1,.ge (.t 18) (.t 15) false (kg (ι.f 363) [.t 16,.t 17]),kV 19 (.pick (.t 15) (.c (.bool true)) (.t 18))] (.ite (.v 19) (kY [kC 4 (.bool false)] .ret) .skip)) (.seq (kY [kG 20 4 2,kV 21 (.ld (.t 20)),kO 22 21,kC 23 (.int .i64 0)] (.blk 0 (.loop (kY [kH 24 23 22] (.seq (.ite (.v 24) .skip (.exit 0)) (.seq (.blk 1 (kY [kA 25 23,kK 26 1 21 23,kD 27 26,kB 5 25,kB 6 27] (kY [kA 28 6,kU 29 (.cm .neq .i64 (.t 28) (.c (.int .i64 0))),kF 30 29,kS 31 30 true 6,kS 32 30 true 1,kS 33 30 true 5,kT 34 30 true (.is 1 (.t 32) (.t 33)),kT 35 30 true (.ld (.t 34)),kT 36 30 true (.cm .neq .i64 (.t 31) (.t 35)),kV 37 (.pick (.t 30) (.t 36) (.c (.bool false)))] (.ite (.v 37) (kY [kC 4 (.bool false)] .ret) .skip)))) (.reg [ke 38 23,kB 23 38]))))))) (kY [kC 4 (.bool true)] .ret)))
def zv:List RV:=[.t 4]
structure Yl (P:Program) (ι:aJ):Prop where
 has:fP P (ι.f 130)
 all:gB P (ι.f 137) (ι.f 136)
 a1:bF P (ι.f 136)=true
 aY:lu P (ι.f 136) (jl ι) jm 2
 tz:mc P ι (ι.f 126)
def jc (P:Program) (ι:aJ) (k:FuncId):Prop:=∀(p:eX) (fx st:List Int) (v sv:Value) (H:Hp),br ι H->dE H v p fx->cD p->jV p.el.length st->aG H sv (iL st)->an P k #[v,sv] H fun r H'=>r=.bool (cZ p st)/\af (fun _=>False) H H'
variable {P:Program} {ι:aJ} {k:FuncId}
theorem Kr (hk:iz P k (zp ι) zq 2 131) (c:Yl P ι):jc P ι k:=by
 intro p fx st v sv H hT hv hG hU hst;have wR:=hv;obtain⟨el,di,sa,mo,fv,vs,ms,rfl,hp⟩:=hv;have hn:=hG.n;have hn0:=hG.n0;have MF:=hG.dl;have hsl:=hG.sl;have JN:=hG.ml;have qU:=hU.1;refine qI fun Q hQ=>?_;refine ie hk (args:=[_,_]) (by simp) ?_;unfold zp zq kA kB kC kD ke kG kH kK kN kO kR kV kd kf kY kZ;simp-implicitDefEqProofs only[go_sem,zS,↓reduceIte,Za,Zb,Zc,reduceCtorEq,zU,zV,Zf,Zg,Zh,Zi,Zd,Ze,zF];refine ay fun H1 b2 e1 z1 B1 K1=>?_;have eB:Bl H1 b2 [el,di,sa,mo,fv]:=B1;simp-implicitDefEqProofs only[go_sem,zS,↓reduceIte,Za,Zb,Zc,reduceCtorEq,zU,zV,Zf,Zg,Zh,Zi,Zd,Ze,zF];refine ay fun H2 b3 e2 z2 B2 K2=>?_;have vt:Bl H2 b3 [sv]:=by
  have:=hst.ax
  cases sv<;>first|exact B2|exact absurd this (by simp[ax])
 simp-implicitDefEqProofs only[go_sem,zS,↓reduceIte,Za,Zb,Zc,reduceCtorEq,zU,zV,Zf,Zg,Zh,Zi,Zd,Ze,zF];refine ay fun H3 b4 e3 z3 B3 K3=>?_;have nV:Bl H3 b4 [.bool false]:=B3;have ny:=(K1.trans K2).trans K3;have s1:=K1.size;have s2:=K2.size;have s3:=K3.size;have qM:=(K2.trans K3).bl eB (by simp);have Ej:=K3.bl vt (by simp);have Xw:=hT.ag ny;have p3:=hp.aj ny;have nx:=hst.ag ny (by simp);have aax:=nV.lt;have fin:∀(q:Bool) f' A',f' 4=.pointer (some ⟨b4,0,none⟩)->(mW (f' 131)).Nodup->(∀p∈mW (f' 131),H3.size<=p/\A'[p]?=some (.deferred (some [])))->Bl A' b4 [.bool q]->af (fun p=>p=b4) H3 A'->cZ p st=q->oZ 131 [.c1 4] Q .r f' A':=fun q f' A' f4 hnd hmk j4 K hr=>by
  refine⟨hnd,fun p hp=>(hmk p hp).2,fun A2 hs2 hk2=>?_⟩;have M:af (fun p=>p∈mW (f' 131)) A' A2:=⟨by omega,fun p _ h=>hk2 p h⟩
  have i4:=M.bl j4 (fun h=>by have:=(hmk _ h).1;omega);have c4:cell A2 ⟨b4,0,none⟩=some (.bool q):=by rw[i4.cell];rfl
  subst hr;rw[hQ];simp-implicitDefEqProofs only[go_sem,zS,↓reduceIte,Za,Zb,Zc,reduceCtorEq,ae,zU,zV,Zf,Zg,Zh,Zi,Zd,Ze,cU,cV,f4,c4];exact(ny.trans' K fun p hp h=>by omega).trans' M fun p hp h=>by have:=(hmk p h).1;omega
 have Po:∀(q:Bool) f' A',f' 4=.pointer (some ⟨b4,0,none⟩)->f' 131=undef->Bl A' b4 [.bool q]->af (fun p=>p=b4) H3 A'->cZ p st=q->oZ 131 [.c1 4] Q .r f' A':=fun q f' A' f4 f6 j4 K hr=>
  fin q f' A' f4 (by rw[f6,gA];exact List.nodup_nil) (by rw[f6,gA];intro p hp;cases hp) j4 K hr
 have c3:cell H3 ⟨b3,0,none⟩=some sv:=by rw[Ej.cell];rfl
 have lf:aP sv=st.length:=by rw[hst.len,ak]
 have hso:∀q,aU sv q->q<H.size:=fun q hq=>hst.bM hq;have bM:∀X,af (fun p=>p=b4) H3 X->af (fun _=>False) H X:=fun X K=>ny.trans' K fun p hp h=>by omega
 simp-implicitDefEqProofs only[go_sem,zS,↓reduceIte,Za,Zb,Zc,reduceCtorEq,zU,zV,Zf,Zg,Zh,Zi,Zd,Ze,zF,c3,hst.ax,lf];refine aO st.length [18,5,6,33,17] rfl rfl (by omega) (by simp-implicitDefEqProofs only[go_sem,zS,↓reduceIte,Za,Zb,Zc,reduceCtorEq,ae,zU,zV,Zf,Zg,Zh,Zi,Zd,Ze]) (by simp-implicitDefEqProofs only[go_sem,zS,↓reduceIte,Za,Zb,Zc,reduceCtorEq,ae,zU,zV,Zf,Zg,Zh,Zi,Zd,Ze]) (fun i g X=>(∀j,j<i->¬(st.getD j 0≠0/\cX (bS p j) (st.getD j 0)=false))/\af (fun _=>False) H3 X) ⟨fun j h=>by omega,af.refl _ _⟩ ?_ ?_
 ·rintro i g X hi gi gn ⟨Pg,KX⟩;simp-implicitDefEqProofs only[go_sem,zS,↓reduceIte,Za,Zb,Zc,reduceCtorEq,ae,zU,zV,Zf,Zg,Zh,Zi,Zd,Ze]at gi gn;have MO:=nx.ag KX (by simp);obtain⟨sb,so,sc,e,hc⟩:=MO.Pm (i:=i) hi;have hg:st.getD i 0=st[i]:=by rw[List.getD_eq_getElem?_getD,List.getElem?_eq_getElem hi];rfl
  simp-implicitDefEqProofs only[go_sem,zS,↓reduceIte,Za,Zb,Zc,reduceCtorEq,zU,zV,Zf,Zg,Zh,Zi,Zd,Ze,zF,gi,e,ai,hc];refine⟨by omega,?_⟩;refine Kl c.has (b2:=b2) (b4:=b4) (i:=i) (u:=st[i]) (by simp-implicitDefEqProofs only[go_sem,zS,↓reduceIte,Za,Zb,Zc,reduceCtorEq,ae,zU,zV,Zf,Zg,Zh,Zi,Zd,Ze]) (by simp-implicitDefEqProofs only[go_sem,zS,↓reduceIte,Za,Zb,Zc,reduceCtorEq,ae,zU,zV,Zf,Zg,Zh,Zi,Zd,Ze]) (by simp-implicitDefEqProofs only[go_sem,zS,↓reduceIte,Za,Zb,Zc,reduceCtorEq,ae,zU,zV,Zf,Zg,Zh,Zi,Zd,Ze]) (by simp-implicitDefEqProofs only[go_sem,zS,↓reduceIte,Za,Zb,Zc,reduceCtorEq,ae,zU,zV,Zf,Zg,Zh,Zi,Zd,Ze]) (KX.bl qM (by simp)) (KX.bl nV (by simp)) (p3.aj KX) (by omega) (by omega) ?_ ?_
  ·intro h1 h2 f' A' f4 j4 KK;refine Po true f' A' (by rw[f4 4 (by decide)];simp-implicitDefEqProofs only[go_sem,zS,↓reduceIte,Za,Zb,Zc,reduceCtorEq,ae,zU,zV,Zf,Zg,Zh,Zi,Zd,Ze]) (by rw[f4 131 (by decide)];simp-implicitDefEqProofs only[go_sem,zS,↓reduceIte,Za,Zb,Zc,reduceCtorEq,ae,zU,zV,Zf,Zg,Zh,Zi,Zd,Ze]) j4 (KX.any.trans KK) ?_
   ·unfold cZ;rw[dY.2 ⟨i,hi,by rw[hg];exact h1,by rw[hg];exact h2⟩];rfl
  ·intro h f' A' Pc KK;simp-implicitDefEqProofs only[go_sem,zS,↓reduceIte,Za,Zb,Zc,reduceCtorEq,ae,zU,zV,Zf,Zg,Zh,Zi,Zd,Ze];refine⟨fun j hj=>?_,KX.trans KK⟩
   by_cases e:j=i
   ·rw[e,hg];exact h
   ·exact Pg j (by omega)
 rintro g X gi ⟨Pg,KX⟩;have fE:IF p st=false:=by
  cases hb:IF p st with
  |false=>rfl
  |true=>obtain⟨k,k1,k2,k3⟩:=dY.1 hb;exact absurd ⟨k2,k3⟩ (Pg k k1)
 have c1:cell X ⟨b2,1,none⟩=some di:=by rw[(KX.bl qM (by simp)).cell];rfl
 simp-implicitDefEqProofs only[go_sem,zS,↓reduceIte,Za,Zb,Zc,reduceCtorEq,zU,zV,Zf,Zg,Zh,Zi,Zd,Ze,zF,c1,hp.d.ax,hp.d.len];refine aO p.di.length [39,8,60,38] rfl rfl (by omega) (by simp-implicitDefEqProofs only[go_sem,zS,↓reduceIte,Za,Zb,Zc,reduceCtorEq,ae,zU,zV,Zf,Zg,Zh,Zi,Zd,Ze]) (by simp-implicitDefEqProofs only[go_sem,zS,↓reduceIte,Za,Zb,Zc,reduceCtorEq,ae,zU,zV,Zf,Zg,Zh,Zi,Zd,Ze]) (fun i g X=>(∀j,(hj:j<p.di.length)->j<i->jU st p.di[j]=false)/\af (fun _=>False) H3 X) ⟨fun j _ h=>by omega,KX⟩ ?_ ?_
 ·clear KX Pg gi c1;rintro i g1 X hi gi gn ⟨Vb,KX⟩;simp-implicitDefEqProofs only[go_sem,zS,↓reduceIte,Za,Zb,Zc,reduceCtorEq,ae,zU,zV,Zf,Zg,Zh,Zi,Zd,Ze]at gi gn;have ui:=ny.trans KX;obtain⟨pb,po,pc,yY,BC,hld⟩:=(hp.d.aj ui).elem (enc:=pE) (k:=2) (fun _=>rfl) hi;simp-implicitDefEqProofs only[go_sem,zS,↓reduceIte,Za,Zb,Zc,reduceCtorEq,zU,zV,Zf,Zg,Zh,Zi,Zd,Ze,zF,gi,yY,ai,aB,hld];refine⟨by omega,?_⟩;refine bB (pE p.di[i]) (by simp-implicitDefEqProofs only[go_sem,zS,↓reduceIte,Za,Zb,Zc,reduceCtorEq,ae,zU,zV,Zf,Zg,Zh,Zi,Zd,Ze]) rfl rfl (List.all_eq_true.2 (oH _)) fun A1 b8 e8 z8 B8 K8=>?_;simp-implicitDefEqProofs only[go_sem,zS,↓reduceIte,Za,Zb,Zc,reduceCtorEq,zU,zV,Zf,Zg,Zh,Zi,Zd,Ze,zF];refine Km (b3:=b3) (b4:=b4) (b7:=b8) (x:=p.di[i]) (st:=st) (by simp-implicitDefEqProofs only[go_sem,zS,↓reduceIte,Za,Zb,Zc,reduceCtorEq,ae,zU,zV,Zf,Zg,Zh,Zi,Zd,Ze]) (by simp-implicitDefEqProofs only[go_sem,zS,↓reduceIte,Za,Zb,Zc,reduceCtorEq,ae,zU,zV,Zf,Zg,Zh,Zi,Zd,Ze]) (by simp-implicitDefEqProofs only[go_sem,zS,↓reduceIte,Za,Zb,Zc,reduceCtorEq,ae,zU,zV,Zf,Zg,Zh,Zi,Zd,Ze]) (K8.bl (KX.bl Ej (by simp)) (by simp)) (K8.bl (KX.bl nV (by simp)) (by simp)) B8 ((nx.ag KX (by simp)).ag K8 (by simp)) qU (hG.di _ (List.getElem_mem hi)).1 (fun hh f' A' f4 j4 KK=>?_) (fun hh f' Pc=>?_)
  ·refine Po true f' A' (by rw[f4 4 (by decide)];simp-implicitDefEqProofs only[go_sem,zS,↓reduceIte,Za,Zb,Zc,reduceCtorEq,ae,zU,zV,Zf,Zg,Zh,Zi,Zd,Ze]) (by rw[f4 131 (by decide)];simp-implicitDefEqProofs only[go_sem,zS,↓reduceIte,Za,Zb,Zc,reduceCtorEq,ae,zU,zV,Zf,Zg,Zh,Zi,Zd,Ze]) j4 ((KX.trans K8).any.trans KK) ?_
   ·unfold cZ;rw[List.any_eq_true.2 ⟨_,List.getElem_mem hi,hh⟩];simp
  ·simp-implicitDefEqProofs only[go_sem,zS,↓reduceIte,Za,Zb,Zc,reduceCtorEq,ae,zU,zV,Zf,Zg,Zh,Zi,Zd,Ze];exact⟨uj hi hh Vb,KX.trans K8⟩
 clear KX Pg c1;rintro g1 X gi1 ⟨Vb,KX⟩;have fD:p.di.any (jU st)=false:=by
  rw[List.any_eq_false];intro x hx;obtain⟨j,hj,rfl⟩:=List.getElem_of_mem hx;rw[Vb j hj hj];simp
 have c1:cell X ⟨b2,2,none⟩=some sa:=by rw[(KX.bl qM (by simp)).cell];rfl
 simp-implicitDefEqProofs only[go_sem,zS,↓reduceIte,Za,Zb,Zc,reduceCtorEq,zU,zV,Zf,Zg,Zh,Zi,Zd,Ze,zF,c1,hp.s.ax,hp.s.len];refine aO p.sa.length [66,10,95,65] rfl rfl (by omega) (by simp-implicitDefEqProofs only[go_sem,zS,↓reduceIte,Za,Zb,Zc,reduceCtorEq,ae,zU,zV,Zf,Zg,Zh,Zi,Zd,Ze]) (by simp-implicitDefEqProofs only[go_sem,zS,↓reduceIte,Za,Zb,Zc,reduceCtorEq,ae,zU,zV,Zf,Zg,Zh,Zi,Zd,Ze]) (fun i g X=>(∀j,(hj:j<p.sa.length)->j<i->mB st p.sa[j]=false)/\af (fun _=>False) H3 X) ⟨fun j _ h=>by omega,KX⟩ ?_ ?_
 ·clear KX Vb gi c1;rintro i g2 X hi gi gn ⟨Pe,KX⟩;simp-implicitDefEqProofs only[go_sem,zS,↓reduceIte,Za,Zb,Zc,reduceCtorEq,ae,zU,zV,Zf,Zg,Zh,Zi,Zd,Ze]at gi gn;have ui:=ny.trans KX;obtain⟨pb,po,pc,yY,BC,hld⟩:=(hp.s.aj ui).elem (enc:=pE) (k:=2) (fun _=>rfl) hi;simp-implicitDefEqProofs only[go_sem,zS,↓reduceIte,Za,Zb,Zc,reduceCtorEq,zU,zV,Zf,Zg,Zh,Zi,Zd,Ze,zF,gi,yY,ai,aB,hld];refine⟨by omega,?_⟩;refine bB (pE p.sa[i]) (by simp-implicitDefEqProofs only[go_sem,zS,↓reduceIte,Za,Zb,Zc,reduceCtorEq,ae,zU,zV,Zf,Zg,Zh,Zi,Zd,Ze]) rfl rfl (List.all_eq_true.2 (oH _)) fun A1 b8 e8 z8 B8 K8=>?_;simp-implicitDefEqProofs only[go_sem,zS,↓reduceIte,Za,Zb,Zc,reduceCtorEq,zU,zV,Zf,Zg,Zh,Zi,Zd,Ze,zF];refine Kn (b3:=b3) (b4:=b4) (b7:=b8) (x:=p.sa[i]) (st:=st) (by simp-implicitDefEqProofs only[go_sem,zS,↓reduceIte,Za,Zb,Zc,reduceCtorEq,ae,zU,zV,Zf,Zg,Zh,Zi,Zd,Ze]) (by simp-implicitDefEqProofs only[go_sem,zS,↓reduceIte,Za,Zb,Zc,reduceCtorEq,ae,zU,zV,Zf,Zg,Zh,Zi,Zd,Ze]) (by simp-implicitDefEqProofs only[go_sem,zS,↓reduceIte,Za,Zb,Zc,reduceCtorEq,ae,zU,zV,Zf,Zg,Zh,Zi,Zd,Ze]) (K8.bl (KX.bl Ej (by simp)) (by simp)) (K8.bl (KX.bl nV (by simp)) (by simp)) B8 ((nx.ag KX (by simp)).ag K8 (by simp)) qU (hG.sa _ (List.getElem_mem hi)).1 (fun hh f' A' f4 j4 KK=>?_) (fun hh f' Pc=>?_)
  ·refine Po true f' A' (by rw[f4 4 (by decide)];simp-implicitDefEqProofs only[go_sem,zS,↓reduceIte,Za,Zb,Zc,reduceCtorEq,ae,zU,zV,Zf,Zg,Zh,Zi,Zd,Ze]) (by rw[f4 131 (by decide)];simp-implicitDefEqProofs only[go_sem,zS,↓reduceIte,Za,Zb,Zc,reduceCtorEq,ae,zU,zV,Zf,Zg,Zh,Zi,Zd,Ze]) j4 ((KX.trans K8).any.trans KK) ?_
   ·unfold cZ;rw[List.any_eq_true.2 ⟨_,List.getElem_mem hi,hh⟩];simp
  ·simp-implicitDefEqProofs only[go_sem,zS,↓reduceIte,Za,Zb,Zc,reduceCtorEq,ae,zU,zV,Zf,Zg,Zh,Zi,Zd,Ze];exact⟨uj hi hh Pe,KX.trans K8⟩
 clear KX c1;rintro g2 X gi2 ⟨Pe,KX⟩;have fS:p.sa.any (mB st)=false:=by
  rw[List.any_eq_false];intro x hx;obtain⟨j,hj,rfl⟩:=List.getElem_of_mem hx;rw[Pe j hj hj];simp
 have c1:cell X ⟨b2,3,none⟩=some mo:=by rw[(KX.bl qM (by simp)).cell];rfl
 have hms:ms.length=p.mo.length:=hp.ms.len;simp-implicitDefEqProofs only[go_sem,zS,↓reduceIte,Za,Zb,Zc,reduceCtorEq,zU,zV,Zf,Zg,Zh,Zi,Zd,Ze,zF,c1,hp.m.ax,hp.m.len,hms];refine aO p.mo.length [101,12,13,107,108,14,113,129,131,100] rfl rfl (by omega) (by simp-implicitDefEqProofs only[go_sem,zS,↓reduceIte,Za,Zb,Zc,reduceCtorEq,ae,zU,zV,Zf,Zg,Zh,Zi,Zd,Ze]) (by simp-implicitDefEqProofs only[go_sem,zS,↓reduceIte,Za,Zb,Zc,reduceCtorEq,ae,zU,zV,Zf,Zg,Zh,Zi,Zd,Ze]) (fun i g X=>(∀j,(hj:j<p.mo.length)->j<i->mC st p.mo[j]=false)/\(mW (g 131)).Nodup/\(∀p∈mW (g 131),H3.size<=p/\X[p]?=some (.deferred (some [])))/\Bl X b4 [.bool false]/\af (fun p=>p=b4) H3 X) ⟨fun j _ h=>by omega,?_,?_,KX.bl nV (by simp),KX.any⟩ ?_ ?_
 ·simp-implicitDefEqProofs only[go_sem,zS,↓reduceIte,Za,Zb,Zc,reduceCtorEq,ae,zU,zV,Zf,Zg,Zh,Zi,Zd,Ze,gA];exact List.nodup_nil
 ·simp[go_sem,zS,↓reduceIte,Za,Zb,Zc,reduceCtorEq,ae,zU,zV,Zf,Zg,Zh,Zi,Zd,Ze,gA]
 ·clear KX c1 Pe gi2;rintro i g3 X hi gi gn ⟨Ym,hnd,hmk,j4,KX⟩;simp-implicitDefEqProofs only[go_sem,zS,↓reduceIte,Za,Zb,Zc,reduceCtorEq,ae,zU,zV,Zf,Zg,Zh,Zi,Zd,Ze]at gi gn hnd hmk;have ui:=bM X KX;have sX:=KX.size;have hmi:i<ms.length:=by omega
  obtain⟨pb,po,pc,yY,BC,hld⟩:=(hp.m.aj ui).elem lG hmi;obtain⟨x,hx⟩:∃x,x=ms[i]:=⟨_,rfl⟩
  obtain⟨y,hy⟩:∃y,y=p.mo[i]:=⟨_,rfl⟩
  obtain⟨x1,xm⟩:=hp.ms.at_ i hmi hi;rw[<-hx,<-hy]at x1 xm;rw[<-hx]at hld;rw[hms]at yY;have iF:aR X ⟨pb,po+i*2,none⟩ 2=some #[.int .i64 x.1,ug x]:=hld;simp-implicitDefEqProofs only[go_sem,zS,↓reduceIte,Za,Zb,Zc,reduceCtorEq,zU,zV,Zf,Zg,Zh,Zi,Zd,Ze,zF,gi,yY,ai,aB,iF];refine⟨by omega,?_⟩;refine bB (eJ x) (by simp-implicitDefEqProofs only[go_sem,zS,↓reduceIte,Za,Zb,Zc,reduceCtorEq,ae,zU,zV,Zf,Zg,Zh,Zi,Zd,Ze];rfl) rfl rfl (List.all_eq_true.2 (pw _)) fun X3 b12 e12 z12 nO gz=>?_;have MP:=ui.trans gz;have Yn:Bl X3 b12 [.int .i64 y.1,ug x]:=by rw[<-x1];exact nO
  have hmx:∀q,aU (ug x) q->q<H.size:=fun q hq=>aS.bM xm (k:=q) hq;have hmo:=hG.mo _ (List.getElem_mem hi);rw[<-hy]at hmo;have m12:1<=y.1/\y.2.toNat<2^p.el.length:=by
   unfold uf at hmo
   split at hmo
   ·omega
   ·next h=>omega
  have s12:=gz.size;have mk3:∀A',af (fun q=>q=b4) X3 A'->∀p∈mW (g3 131),H3.size<=p/\A'[p]?=some (.deferred (some [])):=fun A' K p hp=>by
   obtain⟨p1,p2⟩:=hmk p hp;have hlt:=(Array.getElem?_eq_some_iff.1 p2).1;refine⟨p1,?_⟩;rw[K.at_ p (by omega) (by omega),gz.at_ p hlt (by simp)];exact p2
  simp-implicitDefEqProofs only[go_sem,zS,↓reduceIte,Za,Zb,Zc,reduceCtorEq,zU,zV,Zf,Zg,Zh,Zi,Zd,Ze,zF];refine Kq c.all c.a1 c.aY c.tz (b3:=b3) (b4:=b4) (b12:=b12) (K:=y.1) (m:=y.2) (mv:=ug x) (st:=st) (by simp-implicitDefEqProofs only[go_sem,zS,↓reduceIte,Za,Zb,Zc,reduceCtorEq,ae,zU,zV,Zf,Zg,Zh,Zi,Zd,Ze]) (by simp-implicitDefEqProofs only[go_sem,zS,↓reduceIte,Za,Zb,Zc,reduceCtorEq,ae,zU,zV,Zf,Zg,Zh,Zi,Zd,Ze]) (by simp-implicitDefEqProofs only[go_sem,zS,↓reduceIte,Za,Zb,Zc,reduceCtorEq,ae,zU,zV,Zf,Zg,Zh,Zi,Zd,Ze]) (gz.bl (KX.bl Ej (by omega)) (by simp)) (gz.bl j4 (by simp)) Yn (by omega) (by omega) (hst.ag MP (by simp)) (fun q hq=>by have:=hso q hq;omega) (xm.aj MP) (fun q hq=>by have:=hmx q hq;omega) (hT.ag MP) (fun A' K=>hT.ag (MP.trans' K fun q hq h=>by omega)) (by omega) m12.1 (by rw[qU];exact m12.2) hU.2 (fun hh g' A' q xY Gl hq Yo w4 KK=>?_) (fun hh g' A' q xY Gl hq Yo w4 KK=>?_)
  ·simp-implicitDefEqProofs only[go_sem,zS,↓reduceIte,Za,Zb,Zc,reduceCtorEq,ae,zU,zV,Zf,Zg,Zh,Zi,Zd,Ze]at Gl;have Ks:mW (g' 131)=q::mW (g3 131):=by rw[Gl,lq]
   refine fin true g' A' (by rw[xY 4 (by decide)];simp-implicitDefEqProofs only[go_sem,zS,↓reduceIte,Za,Zb,Zc,reduceCtorEq,ae,zU,zV,Zf,Zg,Zh,Zi,Zd,Ze]) ?_ ?_ w4 ((KX.trans gz.any).trans KK) ?_
   ·rw[Ks];refine List.nodup_cons.2 ⟨fun h=>?_,hnd⟩;have:=(Array.getElem?_eq_some_iff.1 (hmk q h).2).1;omega
   ·rw[Ks];intro p hp;rcases List.mem_cons.1 hp with rfl|hp
    ·exact⟨by omega,Yo⟩
    ·exact mk3 A' KK p hp
   ·unfold cZ;rw[List.any_eq_true.2 ⟨_,List.getElem_mem hi,by rw[<-hy];exact hh⟩];simp
  ·simp-implicitDefEqProofs only[go_sem,zS,↓reduceIte,Za,Zb,Zc,reduceCtorEq,ae,zU,zV,Zf,Zg,Zh,Zi,Zd,Ze]at Gl;have Ks:mW (g' 131)=q::mW (g3 131):=by rw[Gl,lq]
   simp-implicitDefEqProofs only[go_sem,zS,↓reduceIte,Za,Zb,Zc,reduceCtorEq,ae,zU,zV,Zf,Zg,Zh,Zi,Zd,Ze];refine⟨uj hi (by rw[<-hy];exact hh) Ym,?_,?_,w4,(KX.trans gz.any).trans KK⟩
   ·rw[Ks];refine List.nodup_cons.2 ⟨fun h=>?_,hnd⟩;have:=(Array.getElem?_eq_some_iff.1 (hmk q h).2).1;omega
   ·rw[Ks];intro p hp;rcases List.mem_cons.1 hp with rfl|hp
    ·exact⟨by omega,Yo⟩
    ·exact mk3 A' KK p hp
 ·rintro g3 Y gi3 ⟨Ym,hnd,hmk,w4,KY⟩;have fM:p.mo.any (mC st)=false:=by
   rw[List.any_eq_false];intro x hx;obtain⟨j,hj,rfl⟩:=List.getElem_of_mem hx;rw[Ym j hj hj];simp
  simp-implicitDefEqProofs only[go_sem,zS,↓reduceIte,Za,Zb,Zc,reduceCtorEq,ae,zU,zV,Zf,Zg,Zh,Zi,Zd,Ze]at hnd hmk;have t4:=w4.bk (o:=0) (by simp);have Dt:=w4.al 0 (.bool false);have k4:af (fun q=>q=b4) Y (al Y ⟨b4,0,none⟩ (.bool false)):=(af.refl _ _).al _ (.inl rfl);simp-implicitDefEqProofs only[go_sem,zS,↓reduceIte,Za,Zb,Zc,reduceCtorEq,ae,zU,zV,Zf,Zg,Zh,Zi,Zd,Ze,zF,t4];generalize al Y ⟨b4,0,none⟩ (.bool false)=Z at k4 Dt⊢;have:=fin false (bN (bN (fun _=>undef) 4 (.pointer (some ⟨b4,0,none⟩))) 131 (g3 131)) Z (by simp-implicitDefEqProofs only[go_sem,zS,↓reduceIte,Za,Zb,Zc,reduceCtorEq,ae,zU,zV,Zf,Zg,Zh,Zi,Zd,Ze]) (by simp-implicitDefEqProofs only[go_sem,zS,↓reduceIte,Za,Zb,Zc,reduceCtorEq,ae,zU,zV,Zf,Zg,Zh,Zi,Zd,Ze];exact hnd) (by
   simp-implicitDefEqProofs only[go_sem,zS,↓reduceIte,Za,Zb,Zc,reduceCtorEq,ae,zU,zV,Zf,Zg,Zh,Zi,Zd,Ze];intro p hp;obtain⟨p1,p2⟩:=hmk p hp;have hlt:=(Array.getElem?_eq_some_iff.1 p2).1;exact⟨p1,by rw[k4.at_ p hlt (by omega)];exact p2⟩) Dt (KY.trans k4) (by unfold cZ;rw[fE,fD,fS,fM];rfl)
  simpa only[oZ,go_sem,zS,↓reduceIte,Za,Zb,Zc,reduceCtorEq,ae,zU,zV,Zf,Zg,Zh,Zi,Zd,Ze,zF]using this
def jr (P:Program) (ι:aJ) (k:FuncId):Prop:=∀(p:eX) (fx st:List Int) (v sv:Value) (H:Hp),dE H v p fx->cD p->jV p.el.length fx->jV p.el.length st->aG H sv (iL st)->an P k #[v,sv] H fun r H'=>r=.bool true/\af (fun _=>False) H H'
theorem Gm (hk:aq P k (uu ι) uw 2) (hc:fg P ι (ι.f 360)) (hcon:lI P (ι.f 354)) (hu1:gH P (ι.f 357)):jr P ι k:=by
 intro p fx st v sv H hv hG hF hU hst;have wR:=hv;obtain⟨el,di,sa,mo,fv,vs,ms,rfl,hp⟩:=hv;refine ah hk (args:=[_,_]) (by simp) ?_;unfold uu uw kB kF kC kJ kM kR kS kT kU kc kg kY;simp-implicitDefEqProofs only[go_sem,zS,↓reduceIte,Za,Zb,Zc,reduceCtorEq,zU,zV,Zf,Zg,Zh,Zi,Zd,Ze,zF];refine ay fun H1 b2 e1 z1 B1 K1=>?_;have eB:Bl H1 b2 [el,di,sa,mo,fv]:=B1;simp-implicitDefEqProofs only[go_sem,zS,↓reduceIte,Za,Zb,Zc,reduceCtorEq,zU,zV,Zf,Zg,Zh,Zi,Zd,Ze,zF,eB.aI 5 rfl];refine(hc p fx _ H1 (wR.aj K1) hG hF).mono ?_;rintro r H2 ⟨rfl,K2⟩;have B2:=K2.bl eB (by simp);have c0:cell H2 ⟨b2,0,none⟩=some el:=by rw[B2.cell];rfl
 have le:aP el=p.el.length:=by rw[hp.e.len,hp.el]
 have ls:aP sv=p.el.length:=by rw[hst.len,ak,hU.1]
 have d1:((p.el.length:Int)==(p.el.length:Int))=true:=by simp
 have hn:=hG.n;have qU:=hU.1;rw[ae];simp-implicitDefEqProofs only[go_sem,zS,↓reduceIte,Za,Zb,Zc,reduceCtorEq,zU,zV,Zf,Zg,Zh,Zi,Zd,Ze,zF,c0,hst.ax,hp.e.ax,le,ls,d1];refine(hcon st ux sv (ι.f 357) H2 (hst.ag (K1.trans K2) (by simp)) (by omega) ⟨hu1.1,fun u _ A=>hu1.2 u A⟩).mono ?_;rintro r H3 ⟨rfl,rfl⟩;rw[ae];simp-implicitDefEqProofs only[go_sem,zS,↓reduceIte,Za,Zb,Zc,reduceCtorEq,zU,zV,Zf,Zg,Zh,Zi,Zd,Ze,zF,BN hU];exact K1.trans K2
def mI (P:Program) (ι:aJ) (k:FuncId):Prop:=∀(p:eX) (fx st:List Int) (v sv:Value) (H:Hp),br ι H->dE H v p fx->cD p->jV p.el.length fx->jV p.el.length st->aG H sv (iL st)->an P k #[v,sv] H fun r H'=>r=.bool (cZ p st)/\af (fun _=>False) H H'
theorem Gn (hk:aq P k (uB ι) uC 2) (hpr:jr P ι (ι.f 361)) (hb:jc P ι (ι.f 363)):mI P ι k:=by
 intro p fx st v sv H hT hv hG hF hU hst;have wR:=hv;obtain⟨el,di,sa,mo,fv,vs,ms,rfl,hp⟩:=hv;refine ah hk (args:=[_,_]) (by simp) ?_;unfold uB uC kA kB kF kC kJ kM kR kS kT kc kg kY;simp-implicitDefEqProofs only[go_sem,zS,↓reduceIte,Za,Zb,Zc,reduceCtorEq,zU,zV,Zf,Zg,Zh,Zi,Zd,Ze,zF];refine ay fun H1 b2 e1 z1 B1 K1=>?_;have eB:Bl H1 b2 [el,di,sa,mo,fv]:=B1;simp-implicitDefEqProofs only[go_sem,zS,↓reduceIte,Za,Zb,Zc,reduceCtorEq,zU,zV,Zf,Zg,Zh,Zi,Zd,Ze,zF,eB.aI 5 rfl];refine(hpr p fx st _ sv H1 (wR.aj K1) hG hF hU (hst.ag K1 (by simp))).mono ?_;rintro r H2 ⟨rfl,K2⟩;have B2:=K2.bl eB (by simp);have gz:=K1.trans K2;rw[ae];simp-implicitDefEqProofs only[go_sem,zS,↓reduceIte,Za,Zb,Zc,reduceCtorEq,zU,zV,Zf,Zg,Zh,Zi,Zd,Ze,zF,B2.aI 5 rfl];refine(hb p fx st _ sv H2 (hT.ag gz) (wR.aj gz) hG hU (hst.ag gz (by simp))).mono ?_;rintro r H3 ⟨rfl,K3⟩;rw[ae];simp-implicitDefEqProofs only[go_sem,zS,↓reduceIte,Za,Zb,Zc,reduceCtorEq,zU,zV,Zf,Zg,Zh,Zi,Zd,Ze,zF];exact gz.trans K3
def pU (P:Program) (ι:aJ) (k:FuncId):Prop:=∀(p:eX) (fx st:List Int) (v sv:Value) (H:Hp),br ι H->dE H v p fx->cD p->jV p.el.length fx->jV p.el.length st->aG H sv (iL st)->an P k #[v,sv] H fun r H'=>r=.bool (eK p st&&et fx st)/\af (fun _=>False) H H'
theorem Kt (hk:aq P k (zu ι) zv 2) (hpr:jr P ι (ι.f 361)) (hb:jc P ι (ι.f 363)) (hic:ly P (ι.f 158)):pU P ι k:=by
 intro p fx st v sv H hT hv hG hF hU hst;have wR:=hv;obtain⟨el,di,sa,mo,fv,vs,ms,rfl,hp⟩:=hv;refine qI fun Q hQ=>?_;refine ah hk (args:=[_,_]) (by simp) ?_;unfold zu zv kA kB kF kC kD ke kG kH kK kM kO kR kS kT kU kV kc kg kY;simp-implicitDefEqProofs only[go_sem,zS,↓reduceIte,Za,Zb,Zc,reduceCtorEq,zU,zV,Zf,Zg,Zh,Zi,Zd,Ze,zF];refine ay fun H1 b2 e1 z1 B1 K1=>?_;have eB:Bl H1 b2 [el,di,sa,mo,fv]:=B1;have hn:=hG.n;have qU:=hU.1;have SY:=hF.1;simp-implicitDefEqProofs only[go_sem,zS,↓reduceIte,Za,Zb,Zc,reduceCtorEq,zU,zV,Zf,Zg,Zh,Zi,Zd,Ze,zF,eB.aI 5 rfl];refine(hpr p fx st _ sv H1 (wR.aj K1) hG hF hU (hst.ag K1 (by simp))).mono ?_;rintro r H2 ⟨rfl,K2⟩;have B2:=K2.bl eB (by simp);have gz:=K1.trans K2;rw[ae];simp-implicitDefEqProofs only[go_sem,zS,↓reduceIte,Za,Zb,Zc,reduceCtorEq,zU,zV,Zf,Zg,Zh,Zi,Zd,Ze,zF,Bool.not_true];refine(hic st sv 0 H2 (hst.ag gz (by simp)) (by omega)).mono ?_;rintro r H3 ⟨⟨z,rfl,hz⟩,rfl⟩;rw[ae];have ek:(st.all fun u=>decide (u≠0))=!z:=by
  cases z with
  |true=>rw[Bool.not_true,List.all_eq_false];exact⟨0,hz.1 rfl,by simp⟩
  |false=>rw[Bool.not_false,List.all_eq_true];intro u hu;exact decide_eq_true fun e=>by rw[e]at hu;cases hz.2 hu
 cases z with
 |true=>
  have hr:(eK p st&&et fx st)=false:=by unfold eK;rw[ek];rfl
  simp-implicitDefEqProofs only[go_sem,zS,↓reduceIte,Za,Zb,Zc,reduceCtorEq,zU,zV,Zf,Zg,Zh,Zi,Zd,Ze,zF];rw[hQ,hr];exact⟨rfl,gz⟩
 |false=>
 simp-implicitDefEqProofs only[go_sem,zS,↓reduceIte,Za,Zb,Zc,reduceCtorEq,zU,zV,Zf,Zg,Zh,Zi,Zd,Ze,zF,B2.aI 5 rfl];refine(hb p fx st _ sv H3 (hT.ag gz) (wR.aj gz) hG hU (hst.ag gz (by simp))).mono ?_;rintro r H4 ⟨rfl,K3⟩;have mf:=gz.trans K3;rw[ae]
 by_cases zw:cZ p st=true
 ·have hr:(eK p st&&et fx st)=false:=by unfold eK;rw[zw];simp
  simp-implicitDefEqProofs only[go_sem,zS,↓reduceIte,Za,Zb,Zc,reduceCtorEq,zU,zV,Zf,Zg,Zh,Zi,Zd,Ze,zF,zw];rw[hQ,hr];exact⟨rfl,mf⟩
 have zw:cZ p st=false:=by simpa using zw
 have hal:eK p st=true:=by unfold eK;rw[ek,zw];rfl
 have B4:=K3.bl B2 (by simp);have c4:cell H4 ⟨b2,4,none⟩=some fv:=by rw[B4.cell];rfl
 have lf:aP fv=fx.length:=by rw[hp.f.len,ak]
 have ls:aP sv=st.length:=by rw[hst.len,ak]
 have fv4:=hp.f.ag mf (by simp);have sv4:=hst.ag mf (by simp);simp-implicitDefEqProofs only[go_sem,zS,↓reduceIte,Za,Zb,Zc,reduceCtorEq,zU,zV,Zf,Zg,Zh,Zi,Zd,Ze,zF,zw,c4,hp.f.ax,lf];refine aO fx.length [24,5,6,37,4,23] rfl rfl (by omega) (by simp-implicitDefEqProofs only[go_sem,zS,↓reduceIte,Za,Zb,Zc,reduceCtorEq,ae,zU,zV,Zf,Zg,Zh,Zi,Zd,Ze]) (by simp-implicitDefEqProofs only[go_sem,zS,↓reduceIte,Za,Zb,Zc,reduceCtorEq,ae,zU,zV,Zf,Zg,Zh,Zi,Zd,Ze]) (fun i g X=>(∀j,j<i->fx.getD j 0=0\/fx.getD j 0=st.getD j 0)/\X=H4) ⟨fun j h=>by omega,rfl⟩ ?_ ?_
 ·rintro i g X hi gi gn ⟨Q9,rfl⟩;simp-implicitDefEqProofs only[go_sem,zS,↓reduceIte,Za,Zb,Zc,reduceCtorEq,ae,zU,zV,Zf,Zg,Zh,Zi,Zd,Ze]at gi gn;obtain⟨b1,o1,q1,ev,ec⟩:=fv4.Pm (i:=i) hi;obtain⟨b3,o3,q3,ew,ed⟩:=sv4.Pm (i:=i) (by omega);have hg:fx.getD i 0=fx[i]:=by rw[List.getD_eq_getElem?_getD,List.getElem?_eq_getElem hi];rfl
  have xY:st.getD i 0=st[i]:=by rw[List.getD_eq_getElem?_getD,List.getElem?_eq_getElem (by omega)];rfl
  have next:(fx[i]=0\/fx[i]=st[i])->∀j,j<i+1->fx.getD j 0=0\/fx.getD j 0=st.getD j 0:=fun h j hj=>by
   by_cases e:j=i
   ·rw[e,hg,xY];exact h
   ·exact Q9 j (by omega)
  by_cases e1:fx[i]=0
  ·have d1:(fx[i] !=0)=false:=by rw[e1];rfl
   simp-implicitDefEqProofs only[go_sem,zS,↓reduceIte,Za,Zb,Zc,reduceCtorEq,zU,zV,Zf,Zg,Zh,Zi,Zd,Ze,zF,gi,ev,ew,ai,ec,ed,d1];exact⟨by omega,next (.inl e1)⟩
  have d1:(fx[i] !=0)=true:=bne_iff_ne.2 e1
  by_cases e2:fx[i]=st[i]
  ·have d2:(fx[i] !=st[i])=false:=by rw[e2];simp
   simp-implicitDefEqProofs only[go_sem,zS,↓reduceIte,Za,Zb,Zc,reduceCtorEq,zU,zV,Zf,Zg,Zh,Zi,Zd,Ze,zF,gi,ev,ew,ai,ec,ed,d1,d2];exact⟨by omega,by omega,next (.inr e2)⟩
  ·have d2:(fx[i] !=st[i])=true:=bne_iff_ne.2 e2;simp-implicitDefEqProofs only[go_sem,zS,↓reduceIte,Za,Zb,Zc,reduceCtorEq,zU,zV,Zf,Zg,Zh,Zi,Zd,Ze,zF,gi,ev,ew,ai,ec,ed,d1,d2];refine⟨by omega,by omega,?_⟩;have ha:et fx st=false:=by
    cases hb:et fx st with
    |false=>rfl
    |true=>exact absurd ((jb hb (k:=i) (by rw[hg];exact e1)).trans hg) (by rw[xY];exact fun h=>e2 h.symm)
   rw[hQ,ha,Bool.and_false];exact⟨rfl,mf⟩
 ·rintro g X -⟨Q9,rfl⟩;simp-implicitDefEqProofs only[go_sem,zS,↓reduceIte,Za,Zb,Zc,reduceCtorEq,ae,zU,zV,Zf,Zg,Zh,Zi,Zd,Ze,zF];have ha:et fx st=true:=by
   unfold et;rw[List.all_eq_true];intro k hk;rw[List.mem_range]at hk;simp only[Bool.or_eq_true,decide_eq_true_eq];exact Q9 k hk
  rw[hQ,hal,ha];exact⟨rfl,mf⟩
end Go.Mg

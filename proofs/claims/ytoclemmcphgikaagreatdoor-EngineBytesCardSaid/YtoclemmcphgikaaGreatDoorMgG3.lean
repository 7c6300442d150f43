/- Lemmas of ours. No conditions. -/
import Derived.Test.YtoclemmcphgikaaGreatDoorMgVC
open Bool renaming false→ZS,true→ZT
open Decidable renaming decide→ZQ
open Go renaming Value→ZR
open Go.IntKind renaming i64→ZY
open Go.Value renaming agg→Z0,bool→Z5,int→Z8,pointer→Z7,slice→Z6
open Option renaming none→ZU,some→ZV
open Array renaming toList_modify→Wm,toList_push→We
open Bool renaming and_eq_true→ZJ,eq_iff_iff→YU,false_and→Yy,not_false→ZB,not_true→ZE,or_eq_true→Yq,true_and→X0
open Classical renaming byContradiction→Zn
open List renaming all_eq_true→YH,any_eq_false→XJ,append_nil→YY,filter_append→XD,filter_congr→WV,filter_map→VU,find?_cons→VT,findIdx?_eq_none_iff→Yd,flatMap_cons→Zq,getD_eq_getElem?_getD→ZP,getElem?_eq_getElem→ZO,getElem?_eq_none→Zz,getElem?_take→YZ,getElem_mem→ZL,getElem_of_mem→ZC,length_set→YE,mem_cons→YW,mem_cons_of_mem→YL,mem_cons_self→YB,mem_flatMap→V5,mem_map→XR,mem_range→YK,mem_singleton→XC,nodup_nil→WA,not_mem_nil→Zk,range→ZF,take_succ_cons→Yu
open Option renaming getD_some→Zu
open Nat renaming reduceEqDiff→Za,reduceAdd→Zb,reduceMul→Zc,reduceLeDiff→Zd,reduceLT→Ze
open Int renaming reduceBEq→Zf,reduceBNe→Zg,reduceLE→Zh,reduceLT→Zi
set_option maxRecDepth 100000
set_option linter.all false
namespace Go.Mg
def c9:Nat->List (List Int)
 |0=>[[]]
 |n+1=>(ZF 5).flatMap fun u:Nat=>(c9 n).map fun s=>((u:Nat):Int)::s
def mM:∀(n:Nat),∀s∈c9 n,s.length=n
 |0,s,h=>by simp[c9]at h;subst h;rfl
 |n+1,s,h=>by
  simp only[c9,V5,XR]at h;obtain⟨u,_,t,ht,rfl⟩:=h;simp[mM n t ht]
def gE:∀{n:Nat} {s:List Int},s∈c9 n↔s.length=n/\∀u∈s,0<=u/\u<=4
 |0,s=>by
  simp only[c9,XC]
  constructor
  ·rintro rfl;simp
  ·rintro⟨h,_⟩;exact List.eq_nil_of_length_eq_zero h
 |n+1,s=>by
  simp only[c9,V5,XR,YK]
  constructor
  ·rintro⟨u,hu,t,ht,rfl⟩;obtain⟨h1,h2⟩:=gE.1 ht;refine⟨by simp[h1],fun v hv=>?_⟩;rcases List.mem_cons.1 hv with rfl|hv
   ·omega
   ·exact h2 v hv
  ·rintro⟨h1,h2⟩
   match s,h1 with
   |u::t,h1=>
    have hu:=h2 u YB;refine⟨u.toNat,by omega,t,gE.2 ⟨by simpa using h1,fun v hv=>h2 v (YL _ hv)⟩,?_⟩;rw[Int.toNat_of_nonneg hu.1]
variable {α β:Type} {s t fx st:List Int} {k:FuncId} {u K:Int} {H H' A:Hp} {v el di sa mo fv c4 sv mv:ZR} {l vs:List ZR} {i b n b4 b3 b7 b12:Nat} {x:fC} {P:Program} {V:aH} {ms:List MV} {g:Int->Nat} {f:Fr} {Qb:Ex->Fr->Hp->Prop} {m:UInt64}
def filter_none {l:List α} {p:α->Bool} (h:∀x∈l,p x=ZS):l.filter p=[]:=by
 rw[List.filter_eq_nil_iff];intro x hx;rw[h x hx];simp
def eH (f:α->List β) (p:β->Bool) (l:List α):(l.flatMap f).filter p=l.flatMap fun x=>(f x).filter p:=by
 induction l with
 |nil=>rfl
 |cons a l ih=>simp only[Zq,XD,ih]
def bW {f g:α->List β} {l:List α} (h:∀x∈l,f x=g x):l.flatMap f=l.flatMap g:=by
 induction l with
 |nil=>rfl
 |cons a l ih=>simp only[Zq,h a YB,ih fun x hx=>h x (YL _ hx)]
def hZ {β:Type} (g:Nat->List β) (v:Nat):∀m,((ZF m).flatMap fun u=>if u=v then g u else[])=if v<m then g v else[]
 |0=>rfl
 |m+1=>by
  rw[List.range_succ,List.flatMap_append,hZ g v m];simp only[Zq,List.flatMap_nil,YY]
  by_cases h1:v<m
  ·rw[if_pos h1,if_neg (by omega),if_pos (by omega),YY]
  ·rw[if_neg h1]
   by_cases h2:m=v
   ·subst h2;rw[if_pos rfl,if_pos (by omega)];rfl
   ·rw[if_neg h2,if_neg (by omega)];rfl
def yT:∀(k n:Nat) (q:List Int->Bool) (c:List Int),c.length=k->k<n->(∀s,q s=ZT->s.take k=c)→
  (c9 n).filter q=(ZF 5).flatMap fun u=>(c9 n).filter fun s=>q s&&ZQ (s.getD k 0=((u:Nat):Int))
 |0,0,_,_,_,h,_=>by omega
 |k+1,0,_,_,_,h,_=>by omega
 |0,n+1,q,c,hc,hk,hq=>by
  have e:∀u<5,((c9 (n+1)).filter fun s=>q s&&ZQ (s.getD 0 0=((u:Nat):Int)))=((c9 n).map fun s=>((u:Nat):Int)::s).filter q:=fun u hu=>by
   simp only[c9];rw[eH];have:∀v∈ZF 5,(((c9 n).map fun s=>((v:Nat):Int)::s).filter fun s=>q s&&ZQ (s.getD 0 0=((u:Nat):Int)))=if v=u then((c9 n).map fun s=>((v:Nat):Int)::s).filter q else[]:=fun v _=>by
    split
    ·next h=>
     subst h;refine WV fun s hs=>?_;obtain⟨t,_,rfl⟩:=List.mem_map.1 hs;simp
    ·next h=>
     refine filter_none fun s hs=>?_;obtain⟨t,_,rfl⟩:=List.mem_map.1 hs;have:¬((v:Nat):Int)=((u:Nat):Int):=by omega
     simp[this]
   rw[bW this,hZ (fun v=>((c9 n).map fun s=>((v:Nat):Int)::s).filter q) u 5,if_pos hu]
  rw[bW (g:=fun u=>((c9 n).map fun s=>((u:Nat):Int)::s).filter q) fun u hu=>e u (List.mem_range.1 hu)];simp only[c9];rw[eH]
 |k+1,n+1,q,[],hc,hk,hq=>by simp at hc
 |k+1,n+1,q,a::c,hc,hk,hq=>by
  have hs:∀(q':List Int->Bool),(∀s,q' s=ZT->q s=ZT)->(c9 (n+1)).filter q'=(ZF 5).flatMap fun u=>if((u:Nat):Int)=a then((c9 n).filter fun s=>q' (((u:Nat):Int)::s)).map fun s=>((u:Nat):Int)::s else[]:=fun q' vl=>by
   simp only[c9];rw[eH];refine bW fun u _=>?_
   split
   ·rw[VU];rfl
   ·next h=>
    refine filter_none fun s hs=>?_;obtain⟨t,_,rfl⟩:=List.mem_map.1 hs
    cases hb:q' (((u:Nat):Int)::t)with
    |false=>rfl
    |true=>
     have:=hq _ (vl _ hb);simp only[Yu,List.cons.injEq]at this;exact absurd this.1 h
  by_cases ha:∃v:Nat,v<5/\((v:Nat):Int)=a
  ·obtain⟨v,hv,rfl⟩:=ha;have pick:∀(g:Nat->List (List Int)),((ZF 5).flatMap fun u=>if((u:Nat):Int)=((v:Nat):Int)then g u else[])=g v:=fun g=>by
    rw[bW (g:=fun u=>if u=v then g u else[]) fun u _=>by
     by_cases h:u=v
     ·rw[if_pos h,if_pos (by omega)]
     ·rw[if_neg h,if_neg (by omega)]]
    rw[hZ,if_pos hv]
   rw[hs q fun _ h=>h,pick];have ih:=yT k n (fun s=>q (((v:Nat):Int)::s)) c (by simpa using hc) (by omega) fun s h=>by
    have:=hq _ h;simp only[Yu,List.cons.injEq]at this;exact this.2
   rw[ih,List.map_flatMap];refine bW fun u _=>?_;rw[hs (fun s=>q s&&ZQ (s.getD (k+1) 0=((u:Nat):Int))) (fun s h=>by simp only[ZJ]at h;exact h.1),pick]
   rfl
  ·have ZU:∀(g:Nat->List (List Int)),((ZF 5).flatMap fun u=>if((u:Nat):Int)=a then g u else[])=[]:=fun g=>by
    rw[bW (g:=fun _=>[]) fun u hu=>if_neg fun e=>ha ⟨u,List.mem_range.1 hu,e⟩];simp
   rw[hs q fun _ h=>h,ZU]
   symm
   rw[bW (g:=fun _=>[]) fun u _=>by rw[hs (fun s=>q s&&ZQ (s.getD (k+1) 0=((u:Nat):Int))) (fun s h=>by simp only[ZJ]at h;exact h.1),ZU]];simp
def Fg:∀(n:Nat) (s:List Int),s∈c9 n->(c9 n).filter (fun t=>ZQ (t=s))=[s]
 |0,s,h=>by simp[c9]at h;subst h;rfl
 |n+1,s,h=>by
  obtain⟨h1,h2⟩:=gE.1 h
  match s,h1,h2 with
  |a::s',h1,h2=>
   have ha:=h2 a YB;obtain⟨v,rfl⟩:∃v:Nat,a=(v:Int):=⟨a.toNat,by omega⟩
   have cI:s'∈c9 n:=gE.2 ⟨by simpa using h1,fun u hu=>h2 u (YL _ hu)⟩;simp only[c9];rw[eH,bW (g:=fun u=>if u=v then[((v:Nat):Int)::s']else[]) fun u _=>?_,hZ,if_pos (by omega)];rw[VU]
   by_cases e:u=v
   ·subst e;rw[if_pos rfl];have:((fun t=>ZQ (t=((u:Nat):Int)::s'))∘fun s=>((u:Nat):Int)::s)=fun t=>ZQ (t=s'):=by
     funext t;simp
    rw[this,Fg n s' cI];rfl
   ·rw[if_neg e];have:((fun t=>ZQ (t=((v:Nat):Int)::s'))∘fun s=>((u:Nat):Int)::s)=fun t=>ZS:=by
     funext t
     have:¬((u:Nat):Int)=((v:Nat):Int):=by omega
     simp[this]
    rw[this];simp
structure rF where
 el:List (Nat->Bool)
 di:List fC
 sa:List fC
 mo:List tW
def fu (p:rF) (k:Nat):Nat->Bool:=p.el.getD k fun _=>ZS
def elB (p:rF) (s:List Int):Bool:=(ZF s.length).any fun k=>ZQ (s.getD k 0≠0)&&!cz (fu p k) (s.getD k 0)
def jr (p:rF) (s:List Int):Bool:=elB p s||p.di.any (gC s)||p.sa.any (fq s)||p.mo.any (iX s)
def lV (p:rF):Nat->List Int->List (List Int)
 |0,_=>[]
 |m+1,s=>if jr p s=ZT then[]else match s.findIdx? (fun u=>ZQ (u=0))with
  |none=>[s]
  |some k=>(bf (fu p k)).flatMap fun u=>lV p m (s.set k ((u:Nat):Int))
def jO (s t:List Int):Bool:=(ZF s.length).all fun k=>ZQ (s.getD k 0=0)||ZQ (s.getD k 0=t.getD k 0)
def Bx (p:rF) (t:List Int):Bool:=(t.all fun u=>ZQ (u≠0))&&!jr p t
def Ir (h:jO s t=ZT) {k:Nat} (hk:s.getD k 0≠0):t.getD k 0=s.getD k 0:=by
 unfold jO at h;rw[YH]at h
 by_cases hl:k<s.length
 ·have:=h k (List.mem_range.2 hl);simp only[Yq,decide_eq_true_eq]at this;rcases this with h|h
  ·exact absurd h hk
  ·exact h.symm
 ·rw[ZP,Zz (by omega)]at hk;exact absurd rfl hk
def jl {p:rF}:elB p s=ZT↔∃k,k<s.length/\s.getD k 0≠0/\cz (fu p k) (s.getD k 0)=ZS:=by
 unfold elB;simp only[List.any_eq_true,YK,ZJ,decide_eq_true_eq,Bool.not_eq_true']
def Rx {p:rF} (hl:t.length=s.length) (h:jO s t=ZT) (hb:jr p s=ZT):jr p t=ZT:=by
 have at_:∀k,s.getD k 0≠0->t.getD k 0=s.getD k 0:=fun k hk=>Ir h hk
 unfold jr at hb⊢;simp only[Yq]at hb⊢;rcases hb with((hb|hb)|hb)|hb
 ·obtain⟨k,h1,h2,h3⟩:=jl.1 hb;exact .inl (.inl (.inl (jl.2 ⟨k,by omega,by rw[at_ k h2];exact h2,by rw[at_ k h2];exact h3⟩)))
 ·obtain⟨x,hx,h1⟩:=List.any_eq_true.1 hb;refine .inl (.inl (.inr (List.any_eq_true.2 ⟨x,hx,?_⟩)));simp only[gC,sI,ZJ]at h1⊢;obtain⟨h1,h2⟩:=h1;have h1:=of_decide_eq_true h1;have h2:=of_decide_eq_true h2;refine⟨decide_eq_true ?_,decide_eq_true ?_⟩
  ·rw[at_ _ h1];exact h1
  rw[at_ _ h1,at_ _ (by rw[<-h2];exact h1)];exact h2
 ·obtain⟨x,hx,h1⟩:=List.any_eq_true.1 hb;refine .inl (.inr (List.any_eq_true.2 ⟨x,hx,?_⟩));simp only[fq,sI,ZJ]at h1⊢;obtain⟨⟨h1,h2⟩,h3⟩:=h1;have KV:=of_decide_eq_true h1;have MN:=of_decide_eq_true h2;have h3':=of_decide_eq_true h3;refine⟨⟨decide_eq_true ?_,decide_eq_true ?_⟩,decide_eq_true ?_⟩
  ·rw[at_ _ KV];exact KV
  ·rw[at_ _ MN];exact MN
  ·rw[at_ _ KV,at_ _ MN];exact h3'
 ·obtain⟨x,hx,h1⟩:=List.any_eq_true.1 hb;refine .inr (List.any_eq_true.2 ⟨x,hx,?_⟩);obtain⟨u,hu,h2⟩:=List.any_eq_true.1 h1;simp only[ZJ,decide_eq_true_eq]at h2;obtain⟨h2,h3⟩:=h2;obtain⟨k,hk,rfl⟩:=ZC hu;have hg:s.getD k 0=s[k]:=by rw[ZP,ZO hk];rfl
  have ht:=at_ k (by rw[hg];exact h2)
  rw[hg,ZP,ZO (by omega),Zu]at ht;refine List.any_eq_true.2 ⟨s[k],by rw[<-ht];exact ZL _,?_⟩;simp only[ZJ,decide_eq_true_eq];refine⟨h2,Int.lt_of_lt_of_le h3 ?_⟩;rw[hl];have:E1 s x.2 s[k] s.length<=E1 t x.2 s[k] s.length:=by
   refine jb fun i _ hi=>?_;simp only[ZJ,decide_eq_true_eq]at hi⊢;exact⟨hi.1,by rw[at_ i (by rw[hi.2];exact h2)];exact hi.2⟩
  omega
def lW (s:List Int):Nat:=s.countP fun u=>ZQ (u=0)
def de {k:Nat} (h:s.findIdx? (fun u=>ZQ (u=0))=ZV k):k<s.length/\s.getD k 0=0/\∀j<k,s.getD j 0≠0:=by
 obtain⟨hk,h1,h2⟩:=List.findIdx?_eq_some_iff_getElem.1 h;refine⟨hk,?_,fun j hj=>?_⟩
 ·rw[ZP,ZO hk];simpa using h1
 ·rw[ZP,ZO (by omega)];simpa using h2 j hj
def Fh {k:Nat} (hk:k<s.length) (h0:s.getD k 0=0) (hu:u≠0):lW (s.set k u)+1=lW s:=by
 unfold lW;rw[List.countP_set hk];rw[ZP,ZO hk,Zu]at h0;have hp:0<s.countP fun u=>ZQ (u=0):=List.countP_pos_iff.2 ⟨s[k],ZL _,by simp[h0]⟩;simp[h0,hu];omega
def wP (s:List Int) (k j:Nat) (u:Int) (hk:k<s.length):(s.set k u).getD j 0=if j=k then u else s.getD j 0:=by
 rw[ZP,ZP,List.getElem?_set]
 by_cases h:k=j
 ·subst h;simp[hk]
 ·rw[if_neg h,if_neg (fun e=>h e.symm)]
def aby {k:Nat} (hk:k<s.length) (h0:s.getD k 0=0) (hu:u≠0):jO (s.set k u) t=(jO s t&&ZQ (t.getD k 0=u)):=by
 rw[YU];unfold jO;simp only[ZJ,YH,YK,Yq,decide_eq_true_eq,YE]
 constructor
 ·intro h;refine⟨fun j hj=>?_,?_⟩
  ·have:=h j hj;rw[wP s k j u hk]at this
   by_cases e:j=k
   ·rw[e];exact .inl h0
   ·rw[if_neg e]at this;exact this
  ·have:=h k hk;rw[wP s k k u hk,if_pos rfl]at this;rcases this with h|h
   ·exact absurd h hu
   ·exact h.symm
 ·rintro⟨h1,h2⟩ j hj;rw[wP s k j u hk]
  by_cases e:j=k
  ·rw[if_pos e,e];exact .inr h2.symm
  ·rw[if_neg e];exact h1 j hj
def afW {q:Nat->Bool} (h:∀u,q u=ZT->u<=4):bf q=(ZF 5).filter q:=by
 unfold bf;have:(4096:Nat)=5+4091:=rfl;rw[this,List.range_add,XD];rw[filter_none (l:=(ZF 4091).map (5+·)) fun x hx=>?_,YY];obtain⟨y,_,rfl⟩:=List.mem_map.1 hx
 cases hb:q (5+y)with
 |false=>rfl
 |true=>have:=h _ hb;omega
def lQ {α β:Type} (q:α->Bool) (f:α->List β):∀l:List α,(l.filter q).flatMap f=l.flatMap fun x=>if q x=ZT then f x else[]
 |[]=>rfl
 |a::l=>by
  rw[List.filter_cons,Zq,<-lQ q f l]
  split<;>simp
def LR {p:rF} (hel:∀k u,fu p k u=ZT->1<=u/\u<=4):∀(m:Nat) (s:List Int),lW s<m->lV p m s=(c9 s.length).filter fun t=>jO s t&&Bx p t
 |0,s,h=>by omega
 |m+1,s,h=>by
  rw[lV]
  by_cases hb:jr p s=ZT
  ·rw[if_pos hb]
   symm
   refine filter_none fun t ht=>?_
   cases ha:jO s t with
   |false=>rfl
   |true=>
    have:=Rx (mM _ t ht) ha hb;simp[Bx,this]
  ·rw[if_neg hb];have hb:jr p s=ZS:=by simpa using hb
   have ahW:elB p s=ZS:=by
    unfold jr at hb;simp only[Bool.or_eq_false_iff]at hb;exact hb.1.1.1
   have hin:∀k,k<s.length->s.getD k 0≠0->1<=s.getD k 0/\s.getD k 0<=4:=fun k hk h0=>by
    have:cz (fu p k) (s.getD k 0)=ZT:=by
     cases hm:cz (fu p k) (s.getD k 0)with
     |true=>rfl
     |false=>rw[jl.2 ⟨k,hk,h0,hm⟩]at ahW;cases ahW
    unfold cz at this;simp only[ZJ,decide_eq_true_eq]at this;have:=hel k _ this.2;omega
   cases hf:s.findIdx? (fun u=>ZQ (u=0))with
   |none=>
    simp only;have hz:∀u∈s,u≠0:=by
     rw[Yd]at hf;intro u hu;simpa using hf u hu
    have hg:∀k,k<s.length->s.getD k 0≠0:=fun k hk=>by
     rw[ZP,ZO hk];exact hz _ (ZL _)
    have hs:s∈c9 s.length:=gE.2 ⟨rfl,fun u hu=>by
     obtain⟨k,hk,rfl⟩:=ZC hu;have h2:=hin k hk (hg k hk);rw[ZP,ZO hk,Zu]at h2;omega⟩
    rw[<-Fg _ s hs];refine WV fun t ht=>?_;rw[YU];simp only[decide_eq_true_eq,ZJ]
    constructor
    ·rintro rfl;refine⟨?_,?_⟩
     ·simp[jO]
     ·simp only[Bx,hb,ZB,Bool.and_true,YH,decide_eq_true_eq];exact hz
    ·rintro⟨h1,_⟩;have hlt:=mM _ t ht;refine List.ext_getElem hlt fun i h2 h3=>?_;have:=Ir h1 (hg i h3);rw[ZP,ZO h2,ZP,ZO h3]at this;exact this
   |some k=>
    simp only;obtain⟨hk,h0,hlt⟩:=de hf;rw[yT k s.length _ (s.take k) (by rw[List.length_take];omega) hk fun t ht=>?_]
    ·rw[afW fun u hu=>(hel k u hu).2,lQ];refine bW fun u hu=>?_
     by_cases he:fu p k u=ZT
     ·rw[if_pos he];have hu1:=hel k u he;have hu0:((u:Nat):Int)≠0:=by omega
      have hz:=Fh hk h0 hu0;rw[LR hel m _ (by omega),YE];refine WV fun t ht=>?_;rw[aby hk h0 hu0]
      cases jO s t<;>cases Bx p t<;>simp
     ·rw[if_neg he]
      symm
      refine filter_none fun t ht=>?_;have hlt:=mM _ t ht
      by_cases hd:t.getD k 0=((u:Nat):Int)
      ·have:Bx p t=ZS:=by
        by_cases h00:u=0
        ·subst h00;have hm:(0:Int)∈t:=by
          have:t[k]'(by omega)=0:=by
           rw[ZP,ZO (by omega)]at hd;simpa using hd
          rw[<-this];exact ZL _
         simp only[Bx,Bool.and_eq_false_iff]
         left
         rw[List.all_eq_false];exact⟨0,hm,by simp⟩
        ·have:elB p t=ZT:=jl.2 ⟨k,by omega,by rw[hd];omega,by
          rw[hd];have:=List.mem_range.1 hu;rw[gB (by omega)];simpa using he⟩
         simp[Bx,jr,this]
       simp[this]
      ·rw[decide_eq_false hd];simp
    ·simp only[ZJ]at ht;refine List.ext_getElem? fun i=>?_;rw[YZ,YZ]
     split
     ·next hi=>
      have hn:=hlt i hi;have h1:=Ir ht.1 hn;have PJ:i<t.length:=by
       apply Zn;intro hc;rw[ZP,Zz (by omega)]at h1;exact hn h1.symm
      rw[ZP,ZO PJ,ZP,ZO (by omega)]at h1;rw[ZO PJ,ZO (by omega)];exact congrArg ZV h1
     ·rfl
def Is (V:aH):S:=
 kY [kC 4 (Z8 ZY 0)] (.seq (kY [kA 6 0,kV 7 (.m (.lenl (.t 6))),kC 8 (Z8 ZY 0)] (.blk 0 (.loop (kY [kH 9 8 7] (.seq (.ite (.v 9) .skip (.exit 0)) (.seq (.blk 1 (kY [kA 10 8,kB 5 10] (kY [kA 11 1,kA 12 0,kA 13 5,kI 14 1 12 13,kD 15 14,kd 16 (.callv (.t 11) [.t 15])] (.ite (.v 16) (kY [kA 17 5,kB 4 17] .ret) .skip)))) (.reg [ke 18 8,kB 8 18]))))))) (kY [kC 4 (Z8 ZY (-1))] .ret))
def It:List RV:=[.t 4]
def Iu (V:aH):S:=
 kY [kC 4 (Z5 ZS)] (kY [kA 5 0,kA 6 1,kc 7 (kg (V.f 353) [.t 5,.t 6]),kU 8 (.cm .geq ZY (.t 7) (.c (Z8 ZY 0))),kB 4 8] .ret)
def Iv:List RV:=[.t 4]
def By (V:aH):S:=
 kY [kC 2 (Z5 ZS)] (kY [kA 3 0,kU 4 (.cm .geq ZY (.t 3) (.c (Z8 ZY 1))),kF 5 4,kS 6 5 ZT 0,kT 7 5 ZT (.cm .leq ZY (.t 6) (.c (Z8 ZY 256))),kJ 8 5 7,kB 2 8] .ret)
def BC:List RV:=[.t 2]
def wQ (V:aH):S:=
 kY [kC 2 (Z5 ZS)] (kY [kA 3 0,kU 4 (.cm .neq ZY (.t 3) (.c (Z8 ZY 0))),kF 5 4,kS 6 5 ZT 0,.ge (.t 7) (.t 5) ZT (kg (V.f 355) [.t 6]),kT 8 5 ZT (.not (.t 7)),kJ 9 5 8,kB 2 9] .ret)
def wR:List RV:=[.t 2]
def wS (V:aH):S:=
 kY [kC 2 (Z5 ZS)] (kY [kA 3 0,kU 4 (.cm .neq ZY (.t 3) (.c (Z8 ZY 0))),kF 5 4,kS 6 5 ZT 0,.ge (.t 7) (.t 5) ZT (kg (V.f 355) [.t 6]),kT 8 5 ZT (.not (.t 7)),kJ 9 5 8,kB 2 9] .ret)
def wT:List RV:=[.t 2]
def Iw (V:aH):S:=
 kY [kR 2 (V.t 358) 0,kC 4 (Z8 ZY 0)] (.seq (kY [kV 7 (.mv (.v 1)),kO 8 7,kC 9 (Z8 ZY 0)] (.blk 0 (.loop (kY [kH 10 9 8] (.seq (.ite (.v 10) .skip (.exit 0)) (.seq (.blk 1 (kY [kK 11 2 7 9,kN 12 2 11,kd 6 (.new (V.t 194) #[Z8 ZY 0,Z8 ZY 0]),kf (.stn 2 (.v 6) (.t 12))] (.seq (kY [kP 13 2 1 6 0,kD 14 13,kP 15 2 1 6 1,kD 16 15,kU 17 (.m (.mn (.t 14) (.t 16))),kU 18 (.cm .lss ZY (.t 17) (.c (Z8 ZY 0))),kF 19 18,kT 20 19 ZS (.ia 2 1 (.v 6) (.c (Z8 ZY 0))),kT 21 19 ZS (.ld (.t 20)),kT 22 19 ZS (.ia 2 1 (.v 6) (.c (Z8 ZY 1))),kT 23 19 ZS (.ld (.t 22)),kT 24 19 ZS (.m (.mx (.t 21) (.t 23))),kT 25 19 ZS (.fa 0 (.v 2)),kT 26 19 ZS (.ld (.t 25)),kT 27 19 ZS (.m (.lenl (.t 26))),kT 28 19 ZS (.cm .geq ZY (.t 24) (.t 27)),kV 29 (.pick (.t 19) (.c (Z5 ZT)) (.t 28))] (.ite (.v 29) (kY [kC 4 (Z8 ZY 2)] .ret) .skip)) (kY [kP 30 2 1 6 0,kD 31 30,kP 32 2 1 6 1,kD 33 32,kV 34 (.cm .eql ZY (.t 31) (.t 33))] (.ite (.v 34) (kY [kC 4 (Z8 ZY 1)] .ret) .skip))))) (.reg [ke 35 9,kB 9 35]))))))) (kY [kC 4 (Z8 ZY 0)] .ret))
def Ix:List RV:=[.t 4]
def BE (V:aH):S:=
 kY [kR 1 (V.t 358) 0,kC 2 (Z8 ZY 0)] (kY [kG 10 0 1,kD 11 10,kL 12 11,kB 3 12] (.seq (.blk 0 (kY [kA 14 3,kU 15 (.cm .eql ZY (.t 14) (.c (Z8 ZY 0))),kB 13 15] (.ite (.v 13) (kY [kC 2 (Z8 ZY 4)] .ret) (kY [kA 17 3,kU 18 (.cm .gtr ZY (.t 17) (.c (Z8 ZY 10))),kF 19 18,kT 20 19 ZS (.fa 1 (.v 1)),kT 21 19 ZS (.ld (.t 20)),kT 22 19 ZS (.m (.lenl (.t 21))),kT 23 19 ZS (.fa 2 (.v 1)),kT 24 19 ZS (.ld (.t 23)),kT 25 19 ZS (.m (.lenl (.t 24))),kT 26 19 ZS (.fa 3 (.v 1)),kT 27 19 ZS (.ld (.t 26)),kT 28 19 ZS (.m (.lenl (.t 27))),kT 29 19 ZS (.m (.mxs (.t 22) [.t 25,.t 28])),kT 30 19 ZS (.cm .gtr ZY (.t 29) (.c (Z8 ZY 20))),kU 31 (.pick (.t 19) (.c (Z5 ZT)) (.t 30)),kB 16 31] (.ite (.v 16) (kY [kC 2 (Z8 ZY 3)] .ret) (kY [kG 33 4 1,kD 34 33,kL 35 34,kA 36 3,kU 37 (.cm .neq ZY (.t 35) (.t 36)),kB 32 37] (.ite (.v 32) (kY [kC 2 (Z8 ZY 1)] .ret) .skip))))))) (.seq (kY [kG 38 0 1,kV 39 (.ld (.t 38)),kO 40 39,kC 41 (Z8 ZY 0)] (.blk 1 (.loop (kY [kH 42 41 40] (.seq (.ite (.v 42) .skip (.exit 1)) (.seq (.blk 2 (kY [kK 43 1 39 41,kN 44 1 43,kd 5 (.new (V.t 128) #[kZ]),kf (.stn 1 (.v 5) (.t 44))] (.seq (.dr (kW 45 (.m (.ldn 1 (.v 5))) (ka 46 (kg (V.f 130) [.t 45,.c (Z8 ZY 0)]) (kW 47 (.mv (.t 46)) (.px (.t 48) (.some (.t 47,ZS)) (.m (.ldn 1 (.v 5))) (.wcons (.t 49) (.some (.t 47,ZS)) (kg (V.f 306) [.c (Z8 ZY 257)]) (.wcons (.t 50) (.some (.t 47,ZS)) (kg (V.f 141) [.t 48,.t 49]) (.px (.t 51) (.some (.t 47,ZS)) (.not (.t 50)) (kX 52 (.pick (.t 47) (.c (Z5 ZT)) (.t 51)) .done)) .wnil) .wnil))) .wnil))) (.ite (.v 52) (kY [kC 2 (Z8 ZY 2)] .ret) .skip)))) (.reg [ke 53 41,kB 41 53]))))))) (.seq (kY [kG 54 4 1,kD 55 54,kd 56 (kg (V.f 354) [.t 55,.c (.func (.func (V.f 356)) #[] #[])])] (.ite (.v 56) (kY [kC 2 (Z8 ZY 2)] .ret) .skip)) (.seq (kY [kM 57 5 1,kG 58 1 1,kD 59 58,kc 60 (kg (V.f 359) [.t 57,.t 59]),kB 6 60] (kY [kA 61 6,kV 62 (.cm .neq ZY (.t 61) (.c (Z8 ZY 0)))] (.ite (.v 62) (kY [kA 63 6,kB 2 63] .ret) .skip))) (.seq (kY [kM 64 5 1,kG 65 2 1,kD 66 65,kc 67 (kg (V.f 359) [.t 64,.t 66]),kB 7 67] (kY [kA 68 7,kV 69 (.cm .neq ZY (.t 68) (.c (Z8 ZY 0)))] (.ite (.v 69) (kY [kA 70 7,kB 2 70] .ret) .skip))) (.seq (kY [kG 71 3 1,kV 72 (.ld (.t 71)),kO 73 72,kC 74 (Z8 ZY 0)] (.blk 3 (.loop (kY [kH 75 74 73] (.seq (.ite (.v 75) .skip (.exit 3)) (.seq (.blk 4 (kY [kK 76 2 72 74,kN 77 2 76,kd 9 (.new (V.t 298) #[Z8 ZY 0,kZ]),kf (.stn 2 (.v 9) (.t 77))] (.seq (.dr (kW 78 (.fa 0 (.v 9)) (kW 79 (.ld (.t 78)) (kW 80 (.cm .lss ZY (.t 79) (.c (Z8 ZY 1))) (kW 81 (.mv (.t 80)) (.px (.t 82) (.some (.t 81,ZS)) (.fa 0 (.v 9)) (.px (.t 83) (.some (.t 81,ZS)) (.ld (.t 82)) (.px (.t 84) (.some (.t 81,ZS)) (.cm .gtr ZY (.t 83) (.c (Z8 ZY 10))) (kW 85 (.pick (.t 81) (.c (Z5 ZT)) (.t 84)) (kW 86 (.mv (.t 85)) (.px (.t 87) (.some (.t 86,ZS)) (.fa 1 (.v 9)) (.px (.t 88) (.some (.t 86,ZS)) (.m (.ldn 1 (.t 87))) (.wcons (.t 89) (.some (.t 86,ZS)) (kg (V.f 133) [.t 88]) (kW 90 (.pick (.t 86) (.c (Z5 ZT)) (.t 89)) (kW 91 (.mv (.t 90)) (.px (.t 92) (.some (.t 91,ZS)) (.fa 1 (.v 9)) (.px (.t 93) (.some (.t 91,ZS)) (.m (.ldn 1 (.t 92))) (.px (.t 94) (.some (.t 91,ZS)) (.mv (.v 3)) (.wcons (.t 95) (.some (.t 91,ZS)) (kg (V.f 306) [.t 94]) (.wcons (.t 96) (.some (.t 91,ZS)) (kg (V.f 141) [.t 93,.t 95]) (.px (.t 97) (.some (.t 91,ZS)) (.not (.t 96)) (kX 98 (.pick (.t 91) (.c (Z5 ZT)) (.t 97)) .done)) .wnil) .wnil)))))) .wnil))))))))))))) (.ite (.v 98) (kY [kC 2 (Z8 ZY 2)] .ret) .skip)))) (.reg [ke 99 74,kB 74 99]))))))) (kY [kC 2 (Z8 ZY 0)] .ret))))))))
def BG:List RV:=[.t 2]
def BH (V:aH):S:=
 kY [kR 2 (V.t 358) 0,kC 4 (Z5 ZS)] (kY [kM 5 5 2,kc 6 (kg (V.f 360) [.t 5]),kU 7 (.cm .eql ZY (.t 6) (.c (Z8 ZY 0))),kF 8 7,kS 9 8 ZT 1,kT 10 8 ZT (.m (.lenl (.t 9))),kT 11 8 ZT (.fa 0 (.v 2)),kT 12 8 ZT (.ld (.t 11)),kT 13 8 ZT (.m (.lenl (.t 12))),kT 14 8 ZT (.cm .eql ZY (.t 10) (.t 13)),kJ 15 8 14,kF 16 15,kS 17 16 ZT 1,.ge (.t 18) (.t 16) ZT (kg (V.f 354) [.t 17,.c (.func (.func (V.f 357)) #[] #[])]),kT 19 16 ZT (.not (.t 18)),kJ 20 16 19,kB 4 20] .ret)
def BI:List RV:=[.t 4]
def ahX (P:Program) (q:Int->Bool) (l:List Int) (g:FuncId):Prop:=bS P g=ZT/\∀x∈l,∀A,an P g #[Z8 ZY x] A fun r A'=>r=.bool (q x)/\A'=A
def Fi (P:Program) (k:FuncId):Prop:=∀(l:List Int) (q:Int->Bool) (v:ZR) (g:FuncId) (H:Hp),aP H v (iL l)->l.length<=1000000->ahX P q l g->an P k #[v,.func (.func g) #[] #[]] H fun r H'=>r=Z8 ZY (ue q l)/\H'=H
def aP.iat {l:List Int} (h:aP H v (iL l)) (hi:i<l.length):∃b o c,v=Z6 (ZV ⟨b,o,ZU⟩) l.length c/\Mg.cell H ⟨b,o+i,ZU⟩=ZV (Z8 ZY l[i]):=by
 obtain⟨b,o,c,rfl,hc,hl⟩:=h.cells (by intro e;have h:=congrArg List.length e;rw[aA,List.length_nil]at h;omega);rw[aA]at hl⊢;refine⟨b,o,c,rfl,?_⟩;rw[hl i hi,dM _ _ hi,ZP,ZO hi]
 rfl
def Ry {o:Nat} {x:ZR} (h:Mg.cell H ⟨b,o,ZU⟩=ZV x):Mg.aQ H ⟨b,o,ZU⟩ 1=ZV #[x]:=by
 unfold Mg.cell at h;unfold Mg.aQ
 split at h
 ·next C T z hb=>
  simp only[Option.isSome_none,Bool.false_eq_true,if_false]at h hb⊢;obtain⟨hlt,e⟩:=Array.getElem?_eq_some_iff.1 h
  try rw[hb]
  try simp only
  rw[if_pos (by omega)]
  congr 1
  apply Array.ext';simp only[Array.toList_extract,List.extract_eq_take_drop,Nat.add_sub_cancel_left];rw[List.drop_eq_getElem_cons (by simpa using hlt)];simp[e]
 ·cases h
def aP.ld1 (h:aP H v l) (hi:i<l.length):∃b o c,v=Z6 (ZV ⟨b,o,ZU⟩) l.length c/\Mg.aQ H ⟨b,o+i,ZU⟩ 1=ZV #[l.getD i undef]:=by
 obtain⟨b,o,c,rfl,hc,hl⟩:=h.cells (by intro e;rw[e]at hi;simp at hi);refine⟨b,o,c,rfl,Ry ?_⟩;rw[hl i hi,ZP,ZO hi]
 rfl
def abz (hk:ak P k (Is V) It 2):Fi P k:=by
 intro l q v g H hv hl ⟨hg,hq⟩;refine ah hk (args:=[_,_]) (by simp) ?_;unfold Is It kA kB kC kD ke kH kI kV kd kY;have hlen:aW v=l.length:=by rw[hv.len,aA]
 simp only[go_sem,Za,Zb,ae,hv.aq,hlen];refine aF l.length [9,5,16,4,8] rfl rfl (by omega) (by rfl) (by rfl) (fun i g A=>(∀j<i,∀hj:j<l.length,q l[j]=ZS)/\A=H) ⟨fun j h=>by omega,rfl⟩ ?_ ?_
 ·rintro i f A hi gi gn ⟨hno,rfl⟩;simp only[go_sem,Za,Zb,ae]at gi gn;obtain⟨b,o,c,e,hc⟩:=hv.iat hi;simp only[go_sem,Za,Zb,ae,gi,e,al,hc,hg];refine⟨by omega,(hq l[i] (ZL hi) A).mono ?_⟩;rintro r A1 ⟨rfl,rfl⟩;rw[ae];simp only[go_sem,Za,Zb,ae];refine zP (fun hb=>?_) (fun hb=>?_)
  ·have:l.findIdx? q=ZV i:=List.findIdx?_eq_some_iff_getElem.2 ⟨hi,hb,fun j hj=>by rw[hno j hj (by omega)];simp⟩;simp only[ue,this]
  ·refine fun j hj F0=>?_
   by_cases e:j=i
   ·subst e;exact hb
   ·exact hno j (by omega) F0
 ·rintro f A -⟨hno,rfl⟩;simp only[go_sem,Za,Zb,ae];have:l.findIdx? q=ZU:=by
   rw[Yd];intro x hx;obtain⟨j,hj,rfl⟩:=ZC hx;exact hno j hj hj
  simp only[ue,this]
def qE (P:Program) (k:FuncId):Prop:=∀(l:List Int) (q:Int->Bool) (v:ZR) (g:FuncId) (H:Hp),aP H v (iL l)->l.length<=1000000->ahX P q l g->an P k #[v,.func (.func g) #[] #[]] H fun r H'=>r=.bool (l.any q)/\H'=H
def abA (hk:ak P k (Iu V) Iv 2) (hi:Fi P (V.f 353)):qE P k:=by
 intro l q v g H hv hl ha;refine ah hk (args:=[_,_]) (by simp) ?_;unfold Iu Iv kA kB kC kU kc kg kY;simp only[go_sem,Za,Zb,ae];refine(hi l q v g H hv hl ha).mono ?_;rintro r A ⟨rfl,rfl⟩;rw[ae];simp only[go_sem,Za,Zb,ae,ss]
def Rz (u:Int):Bool:=ZQ (1<=u)&&ZQ (u<=256)
def BJ (u:Int):Bool:=ZQ (u≠0)&&!Rz u
def sE (P:Program) (k:FuncId):Prop:=∀(u:Int) (H:Hp),an P k #[Z8 ZY u] H fun r H'=>r=.bool (Rz u)/\H'=H
def Fj (hk:ak P k (By V) BC 1):sE P k:=by
 intro u H;refine ah hk (args:=[_]) (by simp) ?_;unfold By BC kA kB kF kC kJ kS kT kU kY
 by_cases h:u≥1
 ·have d1:ZQ (u≥1)=ZT:=decide_eq_true h;have d2:ZQ (1<=u)=ZT:=decide_eq_true h;simp only[go_sem,Za,Zb,ae,d1,Rz,d2,forall_const,X0]
 ·have d1:ZQ (u≥1)=ZS:=decide_eq_false h;have d2:ZQ (1<=u)=ZS:=decide_eq_false h;simp only[go_sem,Za,Zb,ae,d1,Rz,d2,false_imp_iff,Yy]
def jP (P:Program) (k:FuncId):Prop:=bS P k=ZT/\∀(u:Int) (H:Hp),an P k #[Z8 ZY u] H fun r H'=>r=.bool (BJ u)/\H'=H
def N0 (hk:ak P k (wQ V) wR 1) (hu:sE P (V.f 355)):jP P k:=by
 refine⟨hk.body,fun u H=>?_⟩;refine ah hk (args:=[_]) (by simp) ?_;unfold wQ wR kA kB kF kC kJ kS kT kU kg kY
 by_cases h:u=0
 ·have d1:(u !=0)=ZS:=by simpa using h
  have d2:ZQ (u≠0)=ZS:=decide_eq_false (fun hn=>hn h);simp only[go_sem,Za,Zb,ae,d1,BJ,d2,false_imp_iff,forall_const,Yy]
 ·have d1:(u !=0)=ZT:=by simpa using h
  have d2:ZQ (u≠0)=ZT:=decide_eq_true h;simp-implicitDefEqProofs only[go_sem,↓reduceIte,Za,Zb,Zc,reduceCtorEq,ae,d1,BJ,d2,forall_const,X0];refine(hu u H).mono ?_;rintro r A ⟨rfl,rfl⟩;rw[ae];simp only[go_sem,Za,Zb,ae,false_imp_iff,forall_const]
def N1 (hk:ak P k (wS V) wT 1) (hu:sE P (V.f 355)):jP P k:=by
 refine⟨hk.body,fun u H=>?_⟩;refine ah hk (args:=[_]) (by simp) ?_;unfold wS wT kA kB kF kC kJ kS kT kU kg kY
 by_cases h:u=0
 ·have d1:(u !=0)=ZS:=by simpa using h
  have d2:ZQ (u≠0)=ZS:=decide_eq_false (fun hn=>hn h);simp only[go_sem,Za,Zb,ae,d1,BJ,d2,false_imp_iff,forall_const,Yy]
 ·have d1:(u !=0)=ZT:=by simpa using h
  have d2:ZQ (u≠0)=ZT:=decide_eq_true h;simp-implicitDefEqProofs only[go_sem,↓reduceIte,Za,Zb,Zc,reduceCtorEq,ae,d1,BJ,d2,forall_const,X0];refine(hu u H).mono ?_;rintro r A ⟨rfl,rfl⟩;rw[ae];simp only[go_sem,Za,Zb,ae,false_imp_iff,forall_const]
structure Fk (H:Hp) (p:rF) (fx:List Int) (el di sa mo fv:ZR) (vs:List ZR) (ms:List MV):Prop where
 e:aP H el vs
 el:vs.length=p.el.length
 es:∀i<vs.length,aR H (Z0 #[vs.getD i undef]) (fu p i)
 d:rP H di p.di
 s:rP H sa p.sa
 m:bk cq 2 H mo ms
 ms:gY H ms p.mo
 f:aP H fv (iL fx)
def lz (H:Hp) (v:ZR) (p:rF) (fx:List Int):Prop:=∃el di sa mo fv vs ms,v=Z0 #[el,di,sa,mo,fv]/\Fk H p fx el di sa mo fv vs ms
def Fk.aj {p:rF} (h:Fk H p fx el di sa mo fv vs ms) (hk:af (fun _=>False) H H'):Fk H' p fx el di sa mo fv vs ms:=
 ⟨h.e.ai hk (by simp),h.el,fun i hi=>(h.es i hi).aj hk,h.d.aj hk,h.s.aj hk,h.m.aj hk,h.ms.aj hk,h.f.ai hk (by simp)⟩
def lz.aj {p:rF} (h:lz H v p fx) (hk:af (fun _=>False) H H'):lz H' v p fx:=by
 obtain⟨el,di,sa,mo,fv,vs,ms,e,h⟩:=h;exact⟨el,di,sa,mo,fv,vs,ms,e,h.aj hk⟩
structure eT (p:rF):Prop where
 n0:0<p.el.length
 n:p.el.length<=10
 us:∀k u,fu p k u=ZT->1<=u/\u<=256
 dl:p.di.length<=20
 sl:p.sa.length<=20
 ml:p.mo.length<=20
 di:∀x∈p.di,kj (p.el.length:Int) x/\x.1≠x.2
 sa:∀x∈p.sa,kj (p.el.length:Int) x/\x.1≠x.2
 mo:∀x∈p.mo,pk p.el.length x=0
def yp (n:Nat) (s:List Int):Prop:=s.length=n/\∀u∈s,0<=u/\u<=256
def LS (h:yp n s):s.any BJ=ZS:=by
 rw[XJ];intro u hu;have:=h.2 u hu;unfold BJ Rz
 by_cases e:u=0
 ·rw[decide_eq_false (fun hn=>hn e)];simp
 ·rw[decide_eq_true (show 1<=u by omega),decide_eq_true (show u<=256 by omega)];simp
def Fl (P:Program) (k:FuncId):Prop:=∀(p:rF) (fx:List Int) (v w:ZR) (l:List fC) (H:Hp),lz H v p fx->rP H w l->l.length<=1000->p.el.length<=1000->(∀x∈l,kj (p.el.length:Int) x/\x.1≠x.2)->an P k #[v,w] H fun r H'=>r=Z8 ZY 0/\af (fun _=>False) H H'
def abB (hk:ak P k (Iw V) Ix 2):Fl P k:=by
 intro p fx v w l H hv hw hl hn hok;obtain⟨el,di,sa,mo,fv,vs,ms,rfl,hp⟩:=hv;refine ah hk (args:=[_,_]) (by simp) ?_;unfold Iw Ix kB kF kC kD ke kH kK kN kO kP kR kT kU kV kd kf kY;simp only[go_sem,Za,Zb];refine ax fun H1 b2 e1 z1 B1 K1=>?_;have bL:Bl H1 b2 [el,di,sa,mo,fv]:=B1;have hw1:=hw.aj K1;simp only[go_sem,Za,Zb,hw1.aq,hw1.len];refine aF l.length [10,6,29,4,34,9] rfl rfl (by omega) (by rfl) (by rfl) (fun i g A=>af (fun _=>False) H1 A) (af.refl _ _) ?_ ?_
 ·intro i g A hi gi gn KA;simp only[go_sem,Za,Zb,ae]at gi gn;obtain⟨sb,so,sc,e,-,hld⟩:=(hw1.aj KA).elem dy (i:=i) hi;obtain⟨⟨o1,o2,o3,o4⟩,hne⟩:=hok _ (ZL hi);simp only[go_sem,Za,Zb,gi,e,al,aC,hld];refine⟨⟨by omega,by omega⟩,?_⟩;refine aO (pE l[i]) (by rfl) rfl rfl (List.all_eq_true.2 (iE _)) fun A1 b6 e6 z6 B6 K6=>?_;have c0:cell A1 ⟨b6,0,ZU⟩=ZV (Z8 ZY l[i].1):=by rw[B6.cell];rfl
  have c1:cell A1 ⟨b6,1,ZU⟩=ZV (Z8 ZY l[i].2):=by rw[B6.cell];rfl
  have LU:=KA.trans K6;have cE:cell A1 ⟨b2,0,ZU⟩=ZV el:=by rw[(LU.bl bL (by simp)).cell];rfl
  have d1:ZQ ((if l[i].2<l[i].1 then l[i].2 else l[i].1)<0)=ZS:=decide_eq_false (by split<;>omega);have d2:ZQ ((if l[i].2>l[i].1 then l[i].2 else l[i].1)≥(p.el.length:Int))=ZS:=decide_eq_false (by split<;>omega);have d3:(l[i].1==l[i].2)=ZS:=by simpa using hne
  simp-implicitDefEqProofs only[go_sem,↓reduceIte,Za,Zb,Zc,reduceCtorEq,ae,Zf,Zg,Zh,Zi,Zd,Ze,c0,c1,cE,d1,d2,d3,hp.e.aq,hp.e.len,hp.el,forall_const,kindOf];exact LU
 ·rintro g A -KA;simp only[go_sem,Za,Zb,ae];exact K1.trans KA
def jQ (P:Program) (V:aH) (k:FuncId):Prop:=∀(p:rF) (fx:List Int) (v:ZR) (H:Hp),lz H v p fx->eT p->yp p.el.length fx->an P k #[v] H fun r H'=>r=Z8 ZY 0/\af (fun _=>False) H H'
structure akZ (P:Program) (V:aH):Prop where
 has:fk P (V.f 130)
 emp:iF P (V.f 133)
 sub:jh P (V.f 141)
 bel:lu P (V.f 306)
 con:qE P (V.f 354)
 u1:jP P (V.f 356)
 prs:Fl P (V.f 359)
def RB (hk:ak P k (BE V) BG 1) (c:akZ P V):jQ P V k:=by
 intro p fx v H hv hG hU;have pg:=hv;obtain⟨el,di,sa,mo,fv,vs,ms,rfl,hp⟩:=hv;refine ah hk (args:=[_]) (by simp) ?_;unfold BE BG kA kB kF kC kD ke kG kH kK kL kM kN kO kR kT kU kV kW kX ka kc kd kf kg kY kZ;have hn:=hG.n;have xX:=hG.n0;have hdl:=hG.dl;have hsl:=hG.sl;have mb:=hG.ml;have hul:=hU.1;simp only[go_sem,Za,Zb];refine ax fun H1 b1 e1 z1 B1 K1=>?_;have bL:Bl H1 b1 [el,di,sa,mo,fv]:=B1;have p1:=hp.aj K1;have cl:∀{A:Hp},Bl A b1 [el,di,sa,mo,fv]->cell A ⟨b1,0,ZU⟩=ZV el/\cell A ⟨b1,1,ZU⟩=ZV di/\cell A ⟨b1,2,ZU⟩=ZV sa/\cell A ⟨b1,3,ZU⟩=ZV mo/\cell A ⟨b1,4,ZU⟩=ZV fv:=fun B=>⟨by rw[B.cell];rfl,by rw[B.cell];rfl,by rw[B.cell];rfl,by rw[B.cell];rfl,by rw[B.cell];rfl⟩
 obtain⟨c0,c1,c2,c3,c4⟩:=cl bL;have le:aW el=p.el.length:=by rw[hp.e.len,hp.el]
 have lf:aW fv=p.el.length:=by rw[hp.f.len,aA,hul]
 have lm:aW mo=p.mo.length:=by rw[hp.m.len,hp.ms.len]
 have d0:((p.el.length:Int)==0)=ZS:=by rw[beq_eq_false_iff_ne];omega
 have d1:ZQ ((p.el.length:Int)>10)=ZS:=decide_eq_false (by omega);have d2:ZQ ((if(p.mo.length:Int)>if(p.sa.length:Int)>(p.di.length:Int)then(p.sa.length:Int)else(p.di.length:Int)then(p.mo.length:Int)else if(p.sa.length:Int)>(p.di.length:Int)then(p.sa.length:Int)else(p.di.length:Int))>20)=ZS:=decide_eq_false (by split<;>split<;>omega);have d3:((p.el.length:Int)!=(p.el.length:Int))=ZS:=by simp
 simp only[go_sem,Za,Zb,c0,c1,c2,c3,c4,hp.e.aq,hp.d.aq,hp.s.aq,hp.m.aq,hp.f.aq,le,lf,hp.d.len,hp.s.len,lm,d0,d1,d2,d3,forall_const,kindOf];have one:∀{B:Hp} {u:ZR} {p:Nat->Bool},aR B (Z0 #[u]) p->u.oneCell'=ZT:=fun S=>by
  obtain⟨_,W,e,hV⟩:=S
  cases e
  exact aK hV.sl.aq
 refine aF p.el.length [42,5,52,2,41] rfl rfl (by omega) (by rfl) (by rfl) (fun i g A=>af (fun _=>False) H1 A) (af.refl _ _) ?_ ?_
 ·intro i g A hi gi gn KA;simp only[go_sem,Za,Zb,ae]at gi gn;have hvl:=hp.el;have pA:=p1.aj KA;have hS:=pA.es i (by omega);obtain⟨sb,so,sc,e,hld⟩:=pA.e.ld1 (i:=i) (by omega);have o1:=one hS;generalize vs.getD i undef=u at*;simp only[go_sem,Za,Zb,gi,e,al,aC,hvl,hld,Nat.mul_one];refine⟨⟨by omega,by omega⟩,?_⟩;refine aO [u] (by rfl) rfl rfl (by simp[o1]) fun A1 b5 e5 z5 B5 K5=>?_;have hS1:=hS.aj K5;simp only[go_sem,Za,Zb];refine aZ (fun _=>False) ?_;simp only[go_sem,Za,Zb,B5.aL 1 rfl];refine(c.has _ _ 0 A1 hS1).mono ?_;rintro r A2 ⟨rfl,K6⟩;have m0:cz (fu p i) 0=ZS:=by
   cases hm:cz (fu p i) 0 with
   |false=>rfl
   |true=>
    have:cz (fu p i) ((0:Nat):Int)=ZT:=hm;rw[gB (by omega)]at this;have:=(hG.us i 0 this).1;omega
  have B52:=K6.bl B5 id;simp-implicitDefEqProofs only[go_sem,↓reduceIte,Za,Zb,Zc,reduceCtorEq,m0,B52.aL 1 rfl,false_imp_iff,forall_const];refine⟨K6,(c.bel 257 A2 (by omega)).mono ?_⟩;rintro r A3 ⟨S3,K7,_⟩;simp-implicitDefEqProofs only[go_sem,↓reduceIte,Za,Zb,Zc,reduceCtorEq,false_imp_iff,forall_const];refine⟨K7,(c.sub _ _ _ _ A3 (hS1.aj (K6.trans K7)) S3).mono ?_⟩;rintro r A4 ⟨⟨bb,rfl,hbb⟩,K8⟩;have:bb=ZT:=hbb.2 fun n hn=>decide_eq_true (by have:=(hG.us i n hn).2;omega);subst this;simp only[go_sem,Za,Zb,ae,ZE,false_imp_iff,forall_const];exact⟨K8,(((KA.trans K5).trans K6).trans K7).trans K8⟩
 ·rintro g A -KA;obtain⟨c0,c1,c2,c3,c4⟩:=cl (KA.bl bL id);have pA:=p1.aj KA;simp only[go_sem,Za,Zb,c4];refine(c.con fx BJ fv (V.f 356) A pA.f (by omega) ⟨c.u1.1,fun u _ A=>c.u1.2 u A⟩).mono ?_;rintro r A1 ⟨rfl,rfl⟩;have BA:=KA.bl bL id;have hv1:lz A1 (Z0 #[el,di,sa,mo,fv]) p fx:=⟨_,_,_,_,_,_,_,rfl,pA⟩
  rw[ae];simp only[go_sem,Za,Zb,LS hU,BA.aL 5 rfl,c1];refine(c.prs p fx _ di p.di A1 hv1 pA.d (by omega) (by omega) hG.di).mono ?_;rintro r A2 ⟨rfl,K2⟩;have BA2:=K2.bl BA id;obtain⟨c0,c1,c2,c3,c4⟩:=cl BA2;have uz:((0:Int)!=0)=ZS:=rfl;rw[ae];simp only[go_sem,Za,Zb,uz,BA2.aL 5 rfl,c2];refine(c.prs p fx _ sa p.sa A2 (hv1.aj K2) (pA.s.aj K2) (by omega) (by omega) hG.sa).mono ?_;rintro r A3 ⟨rfl,K3⟩;have KA3:=(KA.trans K2).trans K3;have BA3:=K3.bl BA2 id;obtain⟨c0,c1,c2,c3,c4⟩:=cl BA3;have hms:=hp.ms.len;rw[ae];simp only[go_sem,Za,Zb,uz,c3,hp.m.aq,lm];refine aF p.mo.length [75,9,98,2,74] rfl rfl (by omega) (by rfl) (by rfl) (fun i g A=>af (fun _=>False) H1 A) KA3 ?_ ?_
  ·intro i g X hi gi gn KX;simp only[go_sem,Za,Zb,ae]at gi gn;have pX:=p1.aj KX;obtain⟨sb,so,sc,e,-,hld⟩:=pX.m.elem dG (i:=i) (by omega);obtain⟨g1,yd⟩:=pX.ms.at_ i (by omega) hi;have hmo:=hG.mo _ (ZL hi);unfold pk at hmo
   split at hmo
   ·omega
   next ahY=>
   rw[not_or,not_or,not_or]at ahY;obtain⟨m1,m2,m3,m4⟩:=ahY;simp only[go_sem,Za,Zb,gi,e,al,aC,hld];refine⟨⟨by omega,by omega⟩,?_⟩;refine aO (cq ms[i]) (by rfl) rfl rfl (List.all_eq_true.2 (gD _)) fun X1 b9 e9 z9 B9 K9=>?_;have ck:cell X1 ⟨b9,0,ZU⟩=ZV (Z8 ZY p.mo[i].1):=by rw[B9.cell,<-g1];rfl
   have l1:aQ X1 ⟨b9,1,ZU⟩ 1=ZV #[gP ms[i]]:=B9.aQ (o:=1) (n:=1) (by simp[cq]);have d4:ZQ (p.mo[i].1<1)=ZS:=decide_eq_false (by omega);have d5:ZQ (p.mo[i].1>10)=ZS:=decide_eq_false (by omega);have hsX:=yd.aj K9;obtain⟨u,W,eu,hV⟩:=hsX;simp only[Value.agg.injEq,Array.mk.injEq,List.cons.injEq,and_true]at eu;simp only[go_sem,Za,Zb];refine aZ (fun _=>False) ?_;simp-implicitDefEqProofs only[go_sem,↓reduceIte,Za,Zb,Zc,reduceCtorEq,ck,d4,d5,aC,l1,forall_const,false_imp_iff];rw[eu];refine(c.emp _ u W X1 hV).mono ?_;rintro r X2 ⟨rfl,x8⟩;have hW:W≠[]:=fun h=>m3 (Bo.1 (hV.uK.1 h));have l1:aQ X2 ⟨b9,1,ZU⟩ 1=ZV #[gP ms[i]]:=(x8.bl B9 (by simp)).aQ (o:=1) (n:=1) (by simp[cq]);simp-implicitDefEqProofs only[go_sem,↓reduceIte,Za,Zb,Zc,reduceCtorEq,decide_eq_false hW,aC,l1,forall_const,false_imp_iff];refine⟨x8,(c.bel p.el.length X2 (by omega)).mono ?_⟩;rintro r X3 ⟨S3,Ny,_⟩;simp-implicitDefEqProofs only[go_sem,↓reduceIte,Za,Zb,Zc,reduceCtorEq,forall_const,false_imp_iff];refine⟨Ny,(c.sub _ _ _ _ X3 (yd.aj ((K9.trans x8).trans Ny)) S3).mono ?_⟩;rintro r X4 ⟨⟨bb,rfl,hbb⟩,df⟩;have:bb=ZT:=hbb.2 ((jN (by omega)).2 (by omega));subst this;simp only[go_sem,Za,Zb,ae,ZE,forall_const,false_imp_iff];exact⟨df,(((KX.trans K9).trans x8).trans Ny).trans df⟩
  ·rintro g X -KX;simp only[go_sem,Za,Zb,ae];exact K1.trans KX
def Iy (V:aH):S:=
 (kY [kA 22 6,kU 23 (.cm .neq ZY (.t 22) (.c (Z8 ZY 0))),kF 24 23,kT 25 24 ZT (.fa 0 (.v 2)),kT 26 24 ZT (.ld (.t 25)),kS 27 24 ZT 5,kT 28 24 ZT (.is 1 (.t 26) (.t 27)),kT 29 24 ZT (.m (.ldn 1 (.t 28))),kS 30 24 ZT 6,.ge (.t 31) (.t 24) ZT (kg (V.f 130) [.t 29,.t 30]),kT 32 24 ZT (.not (.t 31)),kV 33 (.pick (.t 24) (.t 32) (.c (Z5 ZS)))] (.ite (.v 33) (kY [kf (.st (.v 4) (.c (Z5 ZT)))] .ret) .skip))
def Iz (V:aH):S:=
 (kY [kU 42 (.ld (.v 3)),kP 43 2 1 8 0,kD 44 43,kI 45 1 42 44,kD 46 45,kU 47 (.cm .neq ZY (.t 46) (.c (Z8 ZY 0))),kF 48 47,kT 49 48 ZT (.ld (.v 3)),kT 50 48 ZT (.ia 2 1 (.v 8) (.c (Z8 ZY 0))),kT 51 48 ZT (.ld (.t 50)),kT 52 48 ZT (.is 1 (.t 49) (.t 51)),kT 53 48 ZT (.ld (.t 52)),kT 54 48 ZT (.ld (.v 3)),kT 55 48 ZT (.ia 2 1 (.v 8) (.c (Z8 ZY 1))),kT 56 48 ZT (.ld (.t 55)),kT 57 48 ZT (.is 1 (.t 54) (.t 56)),kT 58 48 ZT (.ld (.t 57)),kT 59 48 ZT (.cm .eql ZY (.t 53) (.t 58)),kV 60 (.pick (.t 48) (.t 59) (.c (Z5 ZS)))] (.ite (.v 60) (kY [kf (.st (.v 4) (.c (Z5 ZT)))] .ret) .skip))
def IA (V:aH):S:=
 (kY [kU 69 (.ld (.v 3)),kP 70 2 1 10 0,kD 71 70,kI 72 1 69 71,kD 73 72,kU 74 (.cm .neq ZY (.t 73) (.c (Z8 ZY 0))),kF 75 74,kT 76 75 ZT (.ld (.v 3)),kT 77 75 ZT (.ia 2 1 (.v 10) (.c (Z8 ZY 1))),kT 78 75 ZT (.ld (.t 77)),kT 79 75 ZT (.is 1 (.t 76) (.t 78)),kT 80 75 ZT (.ld (.t 79)),kT 81 75 ZT (.cm .neq ZY (.t 80) (.c (Z8 ZY 0))),kJ 82 75 81,kF 83 82,kT 84 83 ZT (.ld (.v 3)),kT 85 83 ZT (.ia 2 1 (.v 10) (.c (Z8 ZY 0))),kT 86 83 ZT (.ld (.t 85)),kT 87 83 ZT (.is 1 (.t 84) (.t 86)),kT 88 83 ZT (.ld (.t 87)),kT 89 83 ZT (.ld (.v 3)),kT 90 83 ZT (.ia 2 1 (.v 10) (.c (Z8 ZY 1))),kT 91 83 ZT (.ld (.t 90)),kT 92 83 ZT (.is 1 (.t 89) (.t 91)),kT 93 83 ZT (.ld (.t 92)),kT 94 83 ZT (.cm .neq ZY (.t 88) (.t 93)),kV 95 (.pick (.t 83) (.t 94) (.c (Z5 ZS)))] (.ite (.v 95) (kY [kf (.st (.v 4) (.c (Z5 ZT)))] .ret) .skip))
def BK (V:aH):S:=
 (.seq (.dr (kW 121 (.ld (.v 13)) (kW 122 (.ld (.v 3)) (kW 123 (.mv (.v 14)) (kW 124 (.is 1 (.t 122) (.t 123)) (kW 125 (.ld (.t 124)) (kW 126 (.m (.lki ZY (Z8 ZY 0) (.t 121) (.t 125))) (kW 127 (.fa 0 (.v 12)) (kW 128 (.ld (.t 127)) (kX 129 (.cm .gtr ZY (.t 126) (.t 128)) .done)))))))))) (.ite (.v 129) (kY [kf (.st (.v 4) (.c (Z5 ZT)))] .ret) .skip))
def IB (V:aH):S:=
 (.blk 9 (.seq (kY [kU 109 (.ld (.v 3)),kA 110 14,kI 111 1 109 110,kD 112 111,kV 113 (.cm .neq ZY (.t 112) (.c (Z8 ZY 0)))] (.ite (.v 113) (.dr (kW 114 (.ld (.v 13)) (kW 115 (.ld (.v 3)) (kW 116 (.mv (.v 14)) (kW 117 (.is 1 (.t 115) (.t 116)) (kW 118 (.ld (.t 117)) (ka 119 (.rd (.m (.lki ZY (Z8 ZY 0) (.t 114) (.t 118)))) (kW 120 (.ar .add ZY (.t 119) (.c (Z8 ZY 1))) (kb (.mui ZY (.t 114) (.t 118) (.t 120)) .done .wnil)) .wnil))))))) .skip)) (BK V)))
def IC (V:aH):S:=
 (kY [kc 104 .mkm,kd 13 (.new (V.t 362) #[.map .none]),kf (.st (.v 13) (.t 104))] (kY [kG 105 1 12,kN 106 1 105,kd 107 (kg (V.f 137) [.t 106])] (.blk 8 (.rf 131 (.v 107) 108 14 (IB V)))))
def ID (V:aH):S:=
 kY [kR 2 (V.t 358) 0,kR 3 (V.t 138) 1,kd 4 (.new (V.t 151) #[Z5 ZS])] (.seq (kY [kV 15 (.ld (.v 3)),kO 16 15,kC 17 (Z8 ZY 0)] (.blk 0 (.loop (kY [kH 18 17 16] (.seq (.ite (.v 18) .skip (.exit 0)) (.seq (.blk 1 (kY [kA 19 17,kK 20 1 15 17,kD 21 20,kB 5 19,kB 6 21] (Iy V))) (.reg [ke 34 17,kB 17 34]))))))) (.seq (kY [kG 35 1 2,kV 36 (.ld (.t 35)),kO 37 36,kC 38 (Z8 ZY 0)] (.blk 2 (.loop (kY [kH 39 38 37] (.seq (.ite (.v 39) .skip (.exit 2)) (.seq (.blk 3 (kY [kK 40 2 36 38,kN 41 2 40,kd 8 (.new (V.t 194) #[Z8 ZY 0,Z8 ZY 0]),kf (.stn 2 (.v 8) (.t 41))] (Iz V))) (.reg [ke 61 38,kB 38 61]))))))) (.seq (kY [kG 62 2 2,kV 63 (.ld (.t 62)),kO 64 63,kC 65 (Z8 ZY 0)] (.blk 4 (.loop (kY [kH 66 65 64] (.seq (.ite (.v 66) .skip (.exit 4)) (.seq (.blk 5 (kY [kK 67 2 63 65,kN 68 2 67,kd 10 (.new (V.t 194) #[Z8 ZY 0,Z8 ZY 0]),kf (.stn 2 (.v 10) (.t 68))] (IA V))) (.reg [ke 96 65,kB 65 96]))))))) (.seq (kY [kG 97 3 2,kV 98 (.ld (.t 97)),kO 99 98,kC 100 (Z8 ZY 0)] (.blk 6 (.loop (kY [kH 101 100 99] (.seq (.ite (.v 101) .skip (.exit 6)) (.seq (.blk 7 (kY [kK 102 2 98 100,kN 103 2 102,kd 12 (.new (V.t 298) #[Z8 ZY 0,kZ]),kf (.stn 2 (.v 12) (.t 103))] (IC V))) (.reg [ke 130 100,kB 100 130]))))))) (kY [kf (.st (.v 4) (.c (Z5 ZS)))] .ret)))))
def IE:List RV:=[.c1 4]
def yU {u v:Int}:∀(es:List MapEntry) (i:Nat),es.findIdx? (fun e=>u==e.key.i)=ZV i->∀w:Int,iy w (es.modify i fun e=>{e with key:=Z8 ZY u,val:=Z8 ZY v})=if w=u then ZV (Z8 ZY v)else iy w es
 |[],i,h,w=>by simp at h
 |e::es,i,h,w=>by
  rw[List.findIdx?_cons]at h
  by_cases hu:(u==e.key.i)=ZT
  ·rw[if_pos hu]at h
   cases h
   have he:u=e.key.i:=by simpa using hu
   have hvi:(Value.int ZY u).i=u:=rfl;simp only[List.modify_zero_cons,iy,VT,hvi]
   by_cases hw:w=u
   ·have:(w==u)=ZT:=by simp[hw]
    rw[this,if_pos hw];rfl
   ·have h1:(w==u)=ZS:=by simp[hw]
    have h2:(w==e.key.i)=ZS:=by rw[<-he];exact h1
    rw[h1,if_neg hw,h2]
  ·rw[if_neg hu]at h;obtain⟨j,hj,rfl⟩:=Option.map_eq_some_iff.1 h;have ih:=yU (v:=v) es j hj w;simp only[List.modify_succ_cons,iy,VT]at ih⊢
   by_cases hw:(w==e.key.i)=ZT
   ·rw[hw];have h1:w=e.key.i:=by simpa using hw
    have:¬w=u:=fun e'=>hu (by rw[<-e',h1];simp);rw[if_neg this]
   ·have hw':(w==e.key.i)=ZS:=by simpa using hw
    rw[hw'];exact ih
def IF {v:Int} {c:Nat}:∀(es:List MapEntry),es.findIdx? (fun e=>u==e.key.i)=ZU->∀w:Int,iy w (es++[{key:=Z8 ZY u,val:=Z8 ZY v,born:=c}])=if w=u then ZV (Z8 ZY v)else iy w es:=fun es h w=>by
 rw[Yd]at h;unfold iy;rw[List.find?_append]
 by_cases hw:w=u
 ·subst hw;have:es.find? (fun e=>w==e.key.i)=ZU:=by
   rw[List.find?_eq_none];intro e he;rw[h e he];simp
  rw[this,if_pos rfl];simp[Value.i]
 ·rw[if_neg hw];have:(w==u)=ZS:=by simp[hw]
  simp[Value.i,this]
def jR (H:Hp) (b:Nat) (g:Int->Nat):Prop:=∃es c,H[b]?=ZV (.map es c)/\(∀e∈es.toList,ju ZY e.key)/\∀w,(iy w es.toList).getD (Z8 ZY 0)=Z8 ZY (g w:Int)
def jR.ai {W:Nat->Prop} (h:jR H b g) (hk:af W H H') (hw:¬W b):jR H' b g:=by
 obtain⟨es,c,h1,h2⟩:=h;exact⟨es,c,by rw[hk.at_ b (Array.getElem?_eq_some_iff.1 h1).1 hw];exact h1,h2⟩
def jR.lt (h:jR H b g):b<H.size:=by
 obtain⟨es,c,h1,h2⟩:=h;exact(Array.getElem?_eq_some_iff.1 h1).1
def jR.new (H:Hp):jR (H.push (.map #[] 0)) H.size (fun _=>0):=⟨#[],0,by simp,by simp,fun w=>rfl⟩
def jR.inn (h:jR H b g):∃es,eQ H (.map (ZV b))=ZV es/\(∀e∈es,ju ZY e.key)/\∀w,(iy w es).getD (Z8 ZY 0)=Z8 ZY (g w:Int):=by
 obtain⟨es,c,h1,h2,h3⟩:=h;exact⟨es.toList,by simp[eQ,h1],h2,h3⟩
def jR.bR (h:jR H b g) (u:Int) (n:Nat):∃es c,H[b]?=ZV (.map es c)/\(∀e∈es.toList,ju ZY e.key)∧
  jR (H.setIfInBounds b (.map (vm es c (Z8 ZY u) (Z8 ZY (n:Int))).1 (vm es c (Z8 ZY u) (Z8 ZY (n:Int))).2)) b (fun w=>if w=u then n else g w):=by
 have hb:=h.lt;obtain⟨es,c,h1,h2,h3⟩:=h;refine⟨es,c,h1,h2,_,_,by rw[Array.getElem?_setIfInBounds_self_of_lt hb],?_,?_⟩
 ·unfold vm
  split
  ·next i hi=>
   intro e he;simp only[Wm]at he;obtain⟨j,hj,rfl⟩:=ZC he;rw[List.getElem_modify]
   split
   ·rfl
   ·exact h2 _ (ZL _)
  ·intro e he;simp only[We,List.mem_append,XC]at he;rcases he with he|rfl
   ·exact h2 e he
   ·rfl
 ·intro w;have hk:(Value.int ZY u).i=u:=rfl;unfold vm;rw[hk]
  split
  ·next i hi=>
   simp only[Wm];rw[yU es.toList i hi w]
   split
   ·rfl
   ·exact h3 w
  ·next hi=>
   simp only[We];rw[IF es.toList hi w]
   split
   ·rfl
   ·exact h3 w
def abC (has:fk P (V.f 130)) {b2:Nat} {p:rF}
  (h2:f 2=Z7 (ZV ⟨b2,0,ZU⟩)) (h4:f 4=Z7 (ZV ⟨b4,0,ZU⟩)) (h5:f 5=Z8 ZY (i:Int)) (h6:f 6=Z8 ZY u) (B2:Bl A b2 [el,di,sa,mo,fv]) (B4:Bl A b4 [c4]) (hp:Fk A p fx el di sa mo fv vs ms) (hi:i<p.el.length) (iU:p.el.length<=10)
  (hT:u≠0->cz (fu p i) u=ZS->∀f' A',(∀j,j≠33->f' j=f j)->Bl A' b4 [Z5 ZT]->af (fun q=>q=b4) A A'->Qb .r f' A')
  (hF:¬(u≠0/\cz (fu p i) u=ZS)->∀f' A',(∀j,j≠33->f' j=f j)->af (fun _=>False) A A'->Qb .n f' A'):vc P (Iy V) Qb f A:=by
 unfold Iy kA kF kS kT kU kV kf kg kY;have ai:∀(z:ZR),∀j,j≠33->bR f 33 z j=f j:=fun z j hj=>by simp only[bR,hj,if_false]
 by_cases e1:u=0
 ·have d1:(u !=0)=ZS:=by rw[e1];rfl
  simp only[go_sem,Za,Zb,ae,h6,d1];exact hF (fun h=>h.1 e1) _ _ (ai _) (af.refl _ _)
 have d1:(u !=0)=ZT:=bne_iff_ne.2 e1;have hvl:=hp.el;have c2:cell A ⟨b2,0,ZU⟩=ZV el:=by rw[B2.cell];rfl
 obtain⟨sb,so,sc,e,hld⟩:=hp.e.ld1 (i:=i) (by omega);have hS:=hp.es i (by omega);generalize vs.getD i undef=w at*;simp-implicitDefEqProofs only[go_sem,↓reduceIte,Za,Zb,Zc,reduceCtorEq,ae,h2,h5,h6,d1,c2,e,al,hvl,hld,aC];refine⟨by omega,?_⟩;refine(has _ _ u A hS).mono ?_;rintro r A1 ⟨rfl,K1⟩;rw[ae]
 cases hm:cz (fu p i) u with
 |true=>
  simp only[go_sem,Za,Zb,ae,ZE,false_imp_iff,forall_const];exact hF (fun h=>by rw[hm]at h;cases h.2) _ _ (ai _) K1
 |false=>
  have B41:=K1.bl B4 id;have t4:=B41.bw (o:=0) (by simp);have yb:=B41.az 0 (Z5 ZT);have k4:af (fun q=>q=b4) A1 (az A1 ⟨b4,0,ZU⟩ (Z5 ZT)):=(af.refl _ _).az _ (.inl rfl);simp only[go_sem,Za,Zb,ae,ZB,forall_const,h4,t4];exact hT e1 hm _ _ (ai _) yb (K1.any.trans k4)
def abD (h3:f 3=Z7 (ZV ⟨b3,0,ZU⟩)) (h4:f 4=Z7 (ZV ⟨b4,0,ZU⟩)) (h7:f 8=Z7 (ZV ⟨b7,0,ZU⟩))
  (B3:Bl A b3 [sv]) (B4:Bl A b4 [c4]) (B7:Bl A b7 (pE x)) (hs:aP A sv (iL st)) (hn:st.length=n) (hx:kj (n:Int) x)
  (hT:gC st x=ZT->∀f' A',(∀j,j≠60->f' j=f j)->Bl A' b4 [Z5 ZT]->af (fun q=>q=b4) A A'->Qb .r f' A') (hF:gC st x=ZS->∀f',(∀j,j≠60->f' j=f j)->Qb .n f' A):vc P (Iz V) Qb f A:=by
 unfold Iz kF kD kI kP kT kU kV kf kY;obtain⟨x1,x2,x3,x4⟩:=hx;have c3:cell A ⟨b3,0,ZU⟩=ZV sv:=by rw[B3.cell];rfl
 have uf:cell A ⟨b7,0,ZU⟩=ZV (Z8 ZY x.1):=by rw[B7.cell];rfl
 have ug:cell A ⟨b7,1,ZU⟩=ZV (Z8 ZY x.2):=by rw[B7.cell];rfl
 obtain⟨sb,so,sc,rfl,k1⟩:=bU hs x1 (by omega);obtain⟨sb',so',sc',e,k2⟩:=bU hs x3 (by omega);simp only[Value.slice.injEq,Option.some.injEq,Addr.mk.injEq,true_and,and_true]at e;obtain⟨⟨rfl,rfl⟩,rfl⟩:=e;have ai:∀(z:ZR),∀j,j≠60->bR f 60 z j=f j:=fun z j hj=>by simp only[bR,hj,if_false]
 have t4:=B4.bw (o:=0) (by simp);have yb:=B4.az 0 (Z5 ZT);have k4:af (fun q=>q=b4) A (az A ⟨b4,0,ZU⟩ (Z5 ZT)):=(af.refl _ _).az _ (.inl rfl)
 by_cases e1:sI st x.1=0
 ·have d1:(sI st x.1 !=0)=ZS:=by rw[e1];rfl
  simp-implicitDefEqProofs only[go_sem,↓reduceIte,Za,Zb,Zc,reduceCtorEq,ae,Zf,Zg,Zh,Zi,Zd,Ze,h3,h7,c3,uf,ug,k1,k2,d1];refine⟨by omega,hF ?_ _ (ai _)⟩;simp[gC,e1]
 have d1:(sI st x.1 !=0)=ZT:=bne_iff_ne.2 e1
 by_cases e2:sI st x.1=sI st x.2
 ·have d2:(sI st x.1==sI st x.2)=ZT:=by rw[e2];simp
  simp-implicitDefEqProofs only[go_sem,↓reduceIte,Za,Zb,Zc,reduceCtorEq,ae,Zf,Zg,Zh,Zi,Zd,Ze,h3,h4,h7,c3,uf,ug,k1,k2,d1,d2,t4];refine⟨by omega,by omega,by omega,?_⟩;refine hT ?_ _ _ (ai _) yb k4;simp only[gC,ZJ,decide_eq_true_eq];exact⟨e1,e2⟩
 ·have d2:(sI st x.1==sI st x.2)=ZS:=by simp[e2]
  simp-implicitDefEqProofs only[go_sem,↓reduceIte,Za,Zb,Zc,reduceCtorEq,ae,Zf,Zg,Zh,Zi,Zd,Ze,h3,h7,c3,uf,ug,k1,k2,d1,d2];refine⟨by omega,by omega,by omega,hF ?_ _ (ai _)⟩;simp[gC,e2]
def abE (h3:f 3=Z7 (ZV ⟨b3,0,ZU⟩)) (h4:f 4=Z7 (ZV ⟨b4,0,ZU⟩)) (h7:f 10=Z7 (ZV ⟨b7,0,ZU⟩))
  (B3:Bl A b3 [sv]) (B4:Bl A b4 [c4]) (B7:Bl A b7 (pE x)) (hs:aP A sv (iL st)) (hn:st.length=n) (hx:kj (n:Int) x)
  (hT:fq st x=ZT->∀f' A',(∀j,j≠95->f' j=f j)->Bl A' b4 [Z5 ZT]->af (fun q=>q=b4) A A'->Qb .r f' A') (hF:fq st x=ZS->∀f',(∀j,j≠95->f' j=f j)->Qb .n f' A):vc P (IA V) Qb f A:=by
 unfold IA kF kD kI kJ kP kT kU kV kf kY;obtain⟨x1,x2,x3,x4⟩:=hx;have c3:cell A ⟨b3,0,ZU⟩=ZV sv:=by rw[B3.cell];rfl
 have uf:cell A ⟨b7,0,ZU⟩=ZV (Z8 ZY x.1):=by rw[B7.cell];rfl
 have ug:cell A ⟨b7,1,ZU⟩=ZV (Z8 ZY x.2):=by rw[B7.cell];rfl
 obtain⟨sb,so,sc,rfl,k1⟩:=bU hs x1 (by omega);obtain⟨sb',so',sc',e,k2⟩:=bU hs x3 (by omega);simp only[Value.slice.injEq,Option.some.injEq,Addr.mk.injEq,true_and,and_true]at e;obtain⟨⟨rfl,rfl⟩,rfl⟩:=e;have ai:∀(z:ZR),∀j,j≠95->bR f 95 z j=f j:=fun z j hj=>by simp only[bR,hj,if_false]
 have t4:=B4.bw (o:=0) (by simp);have yb:=B4.az 0 (Z5 ZT);have k4:af (fun q=>q=b4) A (az A ⟨b4,0,ZU⟩ (Z5 ZT)):=(af.refl _ _).az _ (.inl rfl)
 by_cases e1:sI st x.1=0
 ·have d1:(sI st x.1 !=0)=ZS:=by rw[e1];rfl
  simp-implicitDefEqProofs only[go_sem,↓reduceIte,Za,Zb,Zc,reduceCtorEq,ae,Zf,Zg,Zh,Zi,Zd,Ze,h3,h7,c3,uf,ug,k1,k2,d1];refine⟨by omega,hF ?_ _ (ai _)⟩;simp[fq,e1]
 have d1:(sI st x.1 !=0)=ZT:=bne_iff_ne.2 e1
 by_cases e0:sI st x.2=0
 ·have d0:(sI st x.2 !=0)=ZS:=by rw[e0];rfl
  simp-implicitDefEqProofs only[go_sem,↓reduceIte,Za,Zb,Zc,reduceCtorEq,ae,Zf,Zg,Zh,Zi,Zd,Ze,h3,h7,c3,uf,ug,k1,k2,d1,d0];refine⟨by omega,by omega,hF ?_ _ (ai _)⟩;simp[fq,e0]
 have d0:(sI st x.2 !=0)=ZT:=bne_iff_ne.2 e0
 by_cases e2:sI st x.1=sI st x.2
 ·have d2:(sI st x.1 !=sI st x.2)=ZS:=by rw[e2];simp
  simp-implicitDefEqProofs only[go_sem,↓reduceIte,Za,Zb,Zc,reduceCtorEq,ae,Zf,Zg,Zh,Zi,Zd,Ze,h3,h7,c3,uf,ug,k1,k2,d1,d0,d2];refine⟨by omega,by omega,by omega,by omega,hF ?_ _ (ai _)⟩;simp[fq,e2]
 ·have d2:(sI st x.1 !=sI st x.2)=ZT:=bne_iff_ne.2 e2;simp-implicitDefEqProofs only[go_sem,↓reduceIte,Za,Zb,Zc,reduceCtorEq,ae,Zf,Zg,Zh,Zi,Zd,Ze,h3,h4,h7,c3,uf,ug,k1,k2,d1,d0,d2,t4];refine⟨by omega,by omega,by omega,by omega,?_⟩;refine hT ?_ _ _ (ai _) yb k4;simp only[fq,ZJ,decide_eq_true_eq];exact⟨⟨e1,e0⟩,e2⟩
def jR.ne {k:Nat} (h:jR H b g) (B:Bl H k l):k≠b:=by
 rintro rfl;obtain⟨es,c,h1,_⟩:=h;obtain⟨T,h2⟩:=B;rw[h2]at h1;cases h1
def bump (g:Int->Nat) (u:Int):Int->Nat:=if u=0 then g else fun w=>if w=u then g u+1 else g w
def abF {b13 bm kk:Nat}
  (h3:f 3=Z7 (ZV ⟨b3,0,ZU⟩)) (h4:f 4=Z7 (ZV ⟨b4,0,ZU⟩)) (h12:f 12=Z7 (ZV ⟨b12,0,ZU⟩)) (h13:f 13=Z7 (ZV ⟨b13,0,ZU⟩)) (h14:f 14=Z8 ZY (kk:Int))
  (B3:Bl A b3 [sv]) (B4:Bl A b4 [c4]) (gI:Bl A b12 [Z8 ZY K,mv]) (jv:Bl A b13 [.map (ZV bm)]) (M:jR A bm g) (hs:aP A sv (iL st)) (hsn:∀q,aV sv q->q≠bm) (hkk:kk<st.length) (hb:g (st.getD kk 0)<=10000)
  (hT:K<(bump g (st.getD kk 0) (st.getD kk 0):Int)->∀f' A',Bl A' b4 [Z5 ZT]->af (fun q=>q=b4\/q=bm) A A'->Qb .r f' A')
  (hF:¬K<(bump g (st.getD kk 0) (st.getD kk 0):Int)->∀f' A',jR A' bm (bump g (st.getD kk 0))->af (fun q=>q=bm) A A'->Qb .n f' A'):vc P (IB V) Qb f A:=by
 unfold IB kA kD kI kU kV kW ka kb kY;have c3:cell A ⟨b3,0,ZU⟩=ZV sv:=by rw[B3.cell];rfl
 have c13:cell A ⟨b13,0,ZU⟩=ZV (.map (ZV bm)):=by rw[jv.cell];rfl
 have n3:=M.ne B3;have n4:=M.ne B4;have n12:=M.ne gI;have n13:=M.ne jv;obtain⟨sb,so,sc,rfl,k1⟩:=bU (a:=(kk:Int)) hs (by omega) (by omega);have Pg:aV (Z6 (ZV ⟨sb,so,ZU⟩) st.length sc) sb:=⟨rfl,by omega⟩
 have ns:sb≠bm:=hsn sb Pg;have hsi:sI st (kk:Int)=st.getD kk 0:=rfl;rw[hsi,Int.toNat_natCast]at k1;obtain⟨u,hu⟩:∃u,u=st.getD kk 0:=⟨_,rfl⟩
 rw[<-hu]at k1 hb hT hF;have m3:(b3=bm)=False:=eq_false n3;have m13:(b13=bm)=False:=eq_false n13;have ms:(sb=bm)=False:=eq_false ns
 -- what comes last
 have fin:∀(f':Fr) (A1:Hp),f' 3=f 3->f' 4=f 4->f' 12=f 12->f' 13=f 13->f' 14=f 14->jR A1 bm (bump g u)->af (fun q=>q=bm) A A1→
   vc P (BK V) (uj 9 Qb) f' A1:=fun f' A1 e3 e4 e12 e13 e14 M1 K1=>by
  unfold BK kW kX kf kY;rw[h3]at e3;rw[h4]at e4;rw[h12]at e12;rw[h13]at e13;rw[h14]at e14;have c31:cell A1 ⟨b3,0,ZU⟩=ZV (Z6 (ZV ⟨sb,so,ZU⟩) st.length sc):=by rw[(K1.bl B3 n3).cell];rfl
  have ak0:cell A1 ⟨b13,0,ZU⟩=ZV (.map (ZV bm)):=by rw[(K1.bl jv n13).cell];rfl
  have ak1:cell A1 ⟨b12,0,ZU⟩=ZV (Z8 ZY K):=by rw[(K1.bl gI n12).cell];rfl
  have B41:=K1.bl B4 n4;have k11:cell A1 ⟨sb,so+kk,ZU⟩=ZV (Z8 ZY u):=by
   have lt:=hs.bo (k:=sb) Pg;rw[K1.cell lt ns];exact k1
  obtain⟨es,e1,e2,e3'⟩:=M1.inn;have eu:=e3' u;have t4:=B41.bw (o:=0) (by simp);have yb:=B41.az 0 (Z5 ZT);have k4:af (fun q=>q=b4) A1 (az A1 ⟨b4,0,ZU⟩ (Z5 ZT)):=(af.refl _ _).az _ (.inl rfl);simp only[go_sem,Za,Zb,ae];refine aZ (fun _=>False) ?_;simp only[go_sem,Za,Zb,ae,e3,e12,e13,e14,c31,ak0,ak1,k11,al,e1,eu];refine⟨by omega,⟨es,rfl,e2⟩,?_⟩
  by_cases e:(bump g u u:Int)>K
  ·have d:ZQ ((bump g u u:Int)>K)=ZT:=decide_eq_true e;simp only[go_sem,Za,Zb,ae,d,e4,t4];exact hT (by omega) _ _ yb ((K1.mono fun q _ h=>.inr h).trans (k4.mono fun q _ h=>.inl h))
  ·have d:ZQ ((bump g u u:Int)>K)=ZS:=decide_eq_false e;simp only[go_sem,Za,Zb,ae,d];exact hF (by omega) _ _ M1 K1
 have yb:=B4.az 0 (Z5 ZT)
 by_cases e1:u=0
 ·have d1:(u !=0)=ZS:=by rw[e1];rfl
  have hbu:bump g u=g:=by unfold bump;rw[if_pos e1]
  rw[hbu]at fin;simp only[go_sem,Za,Zb,ae,h3,h14,c3,al,k1,d1];refine⟨by omega,?_⟩;have:=fin (bR f 113 (Z5 ZS)) A (by rfl) (by rfl) (by rfl) (by rfl) (by rfl) M (af.refl _ _);unfold BK kW kX kf kY at this;exact this
 have d1:(u !=0)=ZT:=bne_iff_ne.2 e1;have hbu:bump g u=fun w=>if w=u then g u+1 else g w:=by unfold bump;rw[if_neg e1]
 obtain⟨es,i1,i2,i3⟩:=M.inn;obtain⟨es',ec,j1,j2,j3⟩:=M.bR u (g u+1);have eu:=i3 u;have w1:IntKind.i64.wrap ((g u:Int)+1)=((g u+1:Nat):Int):=IntWalk.i64_in _ (by omega);have ku:af (fun q=>q=bm) A (A.setIfInBounds bm (.map (vm es' ec (Z8 ZY u) (Z8 ZY ((g u+1:Nat):Int))).1 (vm es' ec (Z8 ZY u) (Z8 ZY ((g u+1:Nat):Int))).2)):=
  ⟨by simp,fun q _ hq=>by rw[Array.getElem?_setIfInBounds_ne (fun e=>hq e.symm)]⟩
 simp only[go_sem,Za,Zb,ae,h3,h14,c3,al,k1,d1];refine⟨by omega,?_⟩;refine aZ (fun q=>q=bm) ?_;simp only[go_sem,Za,Zb,ae,h3,h13,h14,c3,c13,al,k1,m3,m13,ms,i1,eu,w1];refine⟨by omega,⟨es,rfl,i2⟩,af.refl _ _,bm,es',ec,rfl,j1,j2,ku,?_⟩;rw[hbu]at fin;exact fin _ _ (by rfl) (by rfl) (by rfl) (by rfl) (by rfl) j3 ku
def Fm (st:List Int) (m:UInt64) (k:Nat) (u:Int):Nat:=if u=0 then 0 else yo st m k u
def RC {k:Nat} (hk:k<(bf (bt m)).length):Fm s m (k+1)=bump (Fm s m k) (s.getD (bf (bt m))[k] 0):=by
 funext u
 unfold bump
 by_cases h0:s.getD (bf (bt m))[k] 0=0
 ·rw[if_pos h0];unfold Fm
  by_cases hu:u=0
  ·rw[if_pos hu,if_pos hu]
  ·rw[if_neg hu,if_neg hu,qC hk,h0,if_neg (fun e=>hu e.symm)];rfl
 ·rw[if_neg h0];unfold Fm
  by_cases hu:u=0
  ·subst hu;rw[if_pos rfl,if_pos rfl,if_neg (fun e=>h0 e.symm)]
  ·rw[if_neg hu,if_neg hu,qC hk]
   by_cases e:u=s.getD (bf (bt m))[k] 0
   ·rw[if_pos e.symm,if_pos e,if_neg h0,e]
   ·rw[if_neg (fun h=>e h.symm),if_neg e];rfl
def abG (hba:gz P (V.f 137) (V.f 136)) (hb1:bS P (V.f 136)=ZT) (hY:mF P (V.f 136) (jf V) jg 2) (htz:mz P V (V.f 126))
  (h3:f 3=Z7 (ZV ⟨b3,0,ZU⟩)) (h4:f 4=Z7 (ZV ⟨b4,0,ZU⟩)) (h12:f 12=Z7 (ZV ⟨b12,0,ZU⟩))
  (B3:Bl A b3 [sv]) (B4:Bl A b4 [c4]) (gI:Bl A b12 [Z8 ZY K,mv]) (h34:b3≠b4) (h124:b12≠b4)
  (hs:aP A sv (iL st)) (hsn:∀q,aV sv q->q≠b4) (hm:aR A (Z0 #[mv]) (bt m)) (hmn:∀q,aV mv q->q≠b4) (hT:bh V A) (hTn:∀A',af (fun q=>q=b4\/A.size<=q) A A'->bh V A')
  (hl:st.length<=10) (hK:1<=K) (hmt:m.toNat<2^st.length) (hr:∀u∈st,0<=u/\u<=256)
  (hR:iX st (K,m)=ZT->∀f' A' q,(∀j,j∉[13,107,131]->f' j=f j)->f' 131=pS (f 131) q->A.size<=q->A'[q]?=ZV (.deferred (ZV []))->Bl A' b4 [Z5 ZT]->af (fun q=>q=b4) A A'->Qb .r f' A')
  (hN:iX st (K,m)=ZS->∀f' A' q,(∀j,j∉[13,107,131]->f' j=f j)->f' 131=pS (f 131) q->A.size<=q->A'[q]?=ZV (.deferred (ZV []))->Bl A' b4 [c4]->af (fun q=>q=b4) A A'->Qb .n f' A'):vc P (IC V) Qb f A:=by
 unfold IC kG kN kc kd kf kg kY;have s4:=B4.lt;have s3:=B3.lt;have s12:=gI.lt;simp only[go_sem,Za,Zb];have M0:=jR.new A;have K0:af (fun _=>False) A (A.push (.map #[] 0)):=(af.refl _ _).push _;have z0:(A.push (Obj.map #[] 0)).size=A.size+1:=by simp
 obtain⟨bm,hbm⟩:∃bm,bm=A.size:=⟨_,rfl⟩
 rw[<-hbm]at M0⊢;generalize A.push (.map #[] 0)=A0 at M0 K0 z0⊢;rw[ae];simp only[go_sem,Za,Zb];refine ax fun H1 b13 e13 z1 jv K1=>?_;have ahZ:Bl H1 b13 [.map ZU]:=jv;have t13:=ahZ.bw (o:=0) (by simp);have D13:=ahZ.az 0 (.map (ZV bm));have ah0:Bl (az H1 ⟨b13,0,ZU⟩ (.map (ZV bm))) b13 [.map (ZV bm)]:=D13;have k13:af (fun q=>q=b13) H1 (az H1 ⟨b13,0,ZU⟩ (.map (ZV bm))):=(af.refl _ _).az _ (.inl rfl);simp only[go_sem,Za,Zb,t13];have zc:(az H1 ⟨b13,0,ZU⟩ (.map (ZV bm))).size=H1.size:=dV _ _ _;generalize az H1 ⟨b13,0,ZU⟩ (.map (ZV bm))=G1 at ah0 k13 zc⊢;have KG:af (fun _=>False) A G1:=(K0.trans K1).trans' k13 fun q hq h=>by omega
 have M1:jR G1 bm (fun _=>0):=(M0.ai K1 (by simp)).ai k13 (by omega);have ak2:=KG.bl gI id;have mS:aQ G1 ⟨b12,1,ZU⟩ 1=ZV #[mv]:=by
  have:=ak2.aQ (o:=1) (n:=1) (by simp);simpa using this
 rw[ae];simp only[go_sem,Za,Zb,h12,aC,mS];refine(hba mv G1).mono ?_;rintro r H2 ⟨rfl,Bs,K2,z2⟩;rw[ae];have cS:=KG.trans K2;have NV:=cS.bl B3 (by simp);have B42:=cS.bl B4 (by simp);have ak3:=cS.bl gI (by simp);have ak4:=K2.bl ah0 id;have M2:=M1.ai K2 (by simp);obtain⟨u,W0,hu,hV⟩:=hm;simp only[Value.agg.injEq,Array.mk.injEq,List.cons.injEq,and_true]at hu;rw[<-hu]at hV;have hmo:∀q,aV mv q->q<A.size:=fun q hq=>aR.bo (x:=Z0 #[mv]) ⟨mv,W0,rfl,hV⟩ (k:=q) hq;have hV2:=hV.ai cS (by simp);have hso:∀q,aV sv q->q<A.size:=fun q hq=>hs.bo hq;have hs2:=hs.ai cS (by simp);simp only[go_sem,Za,Zb,ae];refine LB (fun p=>p=b4\/p=bm) (fun k A=>jR A bm (Fm st m k)/\(∀u:Int,0<=u->u<=256->(Fm st m k u:Int)<=K)/\Bl A b4 [c4])
  (fun e A=>e=.r/\iX st (K,m)=ZT/\Bl A b4 [Z5 ZT]) (G:=fun H=>bh V H/\Bl H G1.size [mv]/\fR H mv W0 (bt m)) (by rfl) hb1 (qk hY htz) ?_ ?_ ?_ ?_ ?_ ?_ ?_ ?_
 ·rintro p (rfl|rfl)<;>omega
 ·rintro k X KX _;refine⟨hTn X (cS.any.trans (KX.mono fun q _ h=>?_)),KX.bl Bs (by omega),hV2.ai KX fun q hq h=>?_⟩
  ·rcases h with h|h
   ·exact .inl h
   ·exact .inr (by omega)
  ·have:=hmn q hq;have:=hmo q hq;omega
 ·intro X KX ph;refine⟨?_,fun u _ hu=>?_,KX.bl B42 id⟩
  ·have:Fm st m 0=fun _=>0:=by funext u;unfold Fm;rw[LP];split<;>rfl
   rw[this];exact M2.ai KX (by simp)
  ·unfold Fm;rw[LP];split<;>omega
 ·rintro k X X2 ph KX ⟨j1,j2,j3⟩ KK;exact⟨j1.ai KK (by omega),j2,KK.bl j3 (by omega)⟩
 ·rintro e X X2 ph KX ⟨j1,j2,j3⟩ KK;exact⟨j1,j2,KK.bl j3 (by omega)⟩
 ·rintro k X hk KX ph ⟨j1,j2,j3⟩;have hkl:k<(bf (bt m)).length:=by simpa[cU]using hk
  obtain⟨x,hx⟩:∃x,x=(bf (bt m))[k]:=⟨_,rfl⟩
  have hxv:(cU (bt m)).getD k undef=Z8 ZY (x:Int):=by
   rw[ZP,ZO hk];simp[cU,hx]
  rw[hxv];have hxm:bt m x=ZT:=(my.1 (show x∈bf (bt m) by rw[hx];exact ZL _)).2;have hxl:x<st.length:=by
   have:=(jN (n:=st.length) (by omega)).2 hmt x hxm;simpa using this
  have hxr:=hr (st.getD x 0) (by rw[ZP,ZO hxl];exact ZL _);have htm:Fm st m (k+1)=bump (Fm st m k) (st.getD x 0):=by rw[hx];exact RC hkl
  have hle:Fm st m k (st.getD x 0)<=10000:=by
   unfold Fm;have:=Ro st m k (st.getD x 0)
   split<;>omega
  have hsX:=hs2.ai KX fun q hq h=>by
   have:=hsn q hq;have:=hso q hq;omega
  refine abF (kk:=x) (K:=K) (mv:=mv) (bm:=bm) (g:=Fm st m k) (by simp only[go_sem,Za,Zb,ae,h3]) (by simp only[go_sem,Za,Zb,ae,h4]) (by simp only[go_sem,Za,Zb,ae,h12]) (by rfl) (by rfl) (KX.bl NV (by omega)) j3 (KX.bl ak3 (by omega)) (KX.bl ak4 (by omega)) j1 hsX (fun q hq=>by have:=hso q hq;omega) hxl hle ?_ ?_
  ·intro Ac f' A' w4 KK;rw[<-htm]at Ac;refine⟨KK.mono fun q _ h=>.inl h,rfl,?_,w4⟩;have e0:st.getD x 0≠0:=by
    intro e;unfold Fm at Ac;rw[if_pos e]at Ac;omega
   refine Fb hl hmt (k:=k+1) hxl e0 ?_;unfold Fm at Ac;rw[if_neg e0]at Ac;exact Ac
  ·intro ak5 f' A' M' KK;rw[<-htm]at ak5 M';refine⟨KK.mono fun q _ h=>.inl (.inr h),M',fun u hu0 hu1=>?_,KK.bl j3 (by omega)⟩
   by_cases e:u=st.getD x 0
   ·rw[e];omega
   ·have:=j2 u hu0 hu1;rw[htm];unfold bump
    split
    ·exact this
    ·change (((if u=st.getD x 0 then _ else _:Nat):Nat):Int)<=K;rw[if_neg e];exact this
 ·rintro X KX ph hd ⟨j1,j2,j3⟩;have Rp:(cU (bt m)).length=(bf (bt m)).length:=by simp[cU]
  rw[Rp]at j2;refine hN (yS hl hmt hr fun u h0 h1 h2=>?_) _ X H2.size (fun j hj=>?_) (by rfl) (by omega) hd j3 ?_
  ·have:=j2 u h0 h1;unfold Fm at this;rw[if_neg h2]at this;exact this
  ·simp only[YW,Zk,or_false,not_or]at hj;simp only[bR,D.fr,hj.1,hj.2.1,hj.2.2,if_false]
  ·refine cS.any.trans' KX fun q hq h=>?_;rcases h with h|h
   ·exact h
   ·omega
 ·rintro e X KX ph hd ⟨rfl,j2,j3⟩;refine hR j2 _ X H2.size (fun j hj=>?_) (by rfl) (by omega) hd j3 ?_
  ·simp only[YW,Zk,or_false,not_or]at hj;simp only[bR,D.fr,hj.1,hj.2.1,hj.2.2,if_false]
  ·refine cS.any.trans' KX fun q hq h=>?_;rcases h with h|h
   ·exact h
   ·omega
def BM (V:aH):S:=
 kY [kR 2 (V.t 358) 0,kC 4 (Z5 ZS)] (kY [kM 5 5 2,kA 6 1,kc 7 (kg (V.f 361) [.t 5,.t 6]),kF 8 7,kT 9 8 ZT (.m (.ldn 5 (.v 2))),kS 10 8 ZT 1,.ge (.t 11) (.t 8) ZT (kg (V.f 363) [.t 9,.t 10]),kJ 12 8 11,kB 4 12] .ret)
def BN:List RV:=[.t 4]
structure ak6 (P:Program) (V:aH):Prop where
 has:fk P (V.f 130)
 all:gz P (V.f 137) (V.f 136)
 a1:bS P (V.f 136)=ZT
 aY:mF P (V.f 136) (jf V) jg 2
 tz:mz P V (V.f 126)
def wU (P:Program) (V:aH) (k:FuncId):Prop:=∀(p:rF) (fx st:List Int) (v sv:ZR) (H:Hp),bh V H->lz H v p fx->eT p->yp p.el.length st->aP H sv (iL st)->an P k #[v,sv] H fun r H'=>r=.bool (jr p st)/\af (fun _=>False) H H'
def abH (hk:iH P k (ID V) IE 2 131) (c:ak6 P V):wU P V k:=by
 intro p fx st v sv H hT hv hG hU hst;have pg:=hv;obtain⟨el,di,sa,mo,fv,vs,ms,rfl,hp⟩:=hv;have hn:=hG.n;have xX:=hG.n0;have hdl:=hG.dl;have hsl:=hG.sl;have mb:=hG.ml;have hul:=hU.1;refine qI fun Q hQ=>?_;refine gW hk (args:=[_,_]) (by simp) ?_;unfold ID IE kA kB kC kD ke kG kH kK kN kO kR kV kd kf kY kZ;simp only[go_sem,Za,Zb];refine ax fun H1 b2 e1 z1 B1 K1=>?_;have bL:Bl H1 b2 [el,di,sa,mo,fv]:=B1;simp only[go_sem,Za,Zb];refine ax fun H2 b3 e2 z2 B2 K2=>?_;have fG:Bl H2 b3 [sv]:=by
  have:=hst.aq
  cases sv<;>first|exact B2|exact absurd this (by simp[aq])
 simp only[go_sem,Za,Zb];refine ax fun H3 b4 e3 z3 B3 K3=>?_;have uT:Bl H3 b4 [Z5 ZS]:=B3;have eo:=(K1.trans K2).trans K3;have s1:=K1.size;have s2:=K2.size;have s3:=K3.size;have jv:=(K2.trans K3).bl bL (by simp);have tR:=K3.bl fG id;have hT3:=hT.ai eo;have p3:=hp.aj eo;have Nw:=hst.ai eo (by simp);have ahV:=uT.lt;have fin:∀(q:Bool) f' A',f' 4=Z7 (ZV ⟨b4,0,ZU⟩)->(l8 (f' 131)).Nodup->(∀p∈l8 (f' 131),H3.size<=p/\A'[p]?=ZV (.deferred (ZV [])))->Bl A' b4 [.bool q]->af (fun p=>p=b4) H3 A'->jr p st=q->oy 131 [.c1 4] Q .r f' A':=fun q f' A' f4 hnd hmk j4 K hr=>by
  refine⟨hnd,fun p hp=>(hmk p hp).2,fun A2 hs2 hk2=>?_⟩;have M:af (fun p=>p∈l8 (f' 131)) A' A2:=⟨by omega,fun p _ h=>hk2 p h⟩
  have i4:=M.bl j4 (fun h=>by have:=(hmk _ h).1;omega);have c4:cell A2 ⟨b4,0,ZU⟩=ZV (.bool q):=by rw[i4.cell];rfl
  subst hr;rw[hQ];simp only[go_sem,Za,Zb,ae,dQ,dR,f4,c4];exact(eo.trans' K fun p hp h=>by omega).trans' M fun p hp h=>by have:=(hmk p h).1;omega
 have Io:∀(q:Bool) f' A',f' 4=Z7 (ZV ⟨b4,0,ZU⟩)->f' 131=undef->Bl A' b4 [.bool q]->af (fun p=>p=b4) H3 A'->jr p st=q->oy 131 [.c1 4] Q .r f' A':=fun q f' A' f4 f6 j4 K hr=>
  fin q f' A' f4 (by rw[f6,dX];exact WA) (by rw[f6,dX];intro p hp;cases hp) j4 K hr
 have c3:cell H3 ⟨b3,0,ZU⟩=ZV sv:=by rw[tR.cell];rfl
 have lf:aW sv=st.length:=by rw[hst.len,aA]
 have hso:∀q,aV sv q->q<H.size:=fun q hq=>hst.bo hq;have bo:∀X,af (fun p=>p=b4) H3 X->af (fun _=>False) H X:=fun X K=>eo.trans' K fun p hp h=>by omega
 simp only[go_sem,Za,Zb,c3,hst.aq,lf];refine aF st.length [18,5,6,33,17] rfl rfl (by omega) (by rfl) (by rfl) (fun i g X=>(∀j,j<i->¬(st.getD j 0≠0/\cz (fu p j) (st.getD j 0)=ZS))/\af (fun _=>False) H3 X) ⟨fun j h=>by omega,af.refl _ _⟩ ?_ ?_
 ·rintro i g X hi gi gn ⟨hpE,KX⟩;simp only[go_sem,Za,Zb,ae]at gi gn;have stX:=Nw.ai KX (by simp);obtain⟨sb,so,sc,e,hc⟩:=stX.iat (i:=i) hi;have hg:st.getD i 0=st[i]:=by rw[ZP,ZO hi];rfl
  simp only[go_sem,Za,Zb,gi,e,al,hc];refine⟨by omega,?_⟩;refine abC c.has (b2:=b2) (b4:=b4) (i:=i) (u:=st[i]) (by rfl) (by rfl) (by rfl) (by rfl) (KX.bl jv id) (KX.bl uT id) (p3.aj KX) (by omega) (by omega) ?_ ?_
  ·intro h1 h2 f' A' f4 j4 KK;refine Io ZT f' A' (by rw[f4 4 (by decide)];simp only[go_sem,Za,Zb,ae]) (by rw[f4 131 (by decide)];simp only[go_sem,Za,Zb,ae]) j4 (KX.any.trans KK) ?_
   ·unfold jr;rw[jl.2 ⟨i,hi,by rw[hg];exact h1,by rw[hg];exact h2⟩];rfl
  ·intro h f' A' yQ KK;simp only[go_sem,Za,Zb,ae];refine⟨fun j hj=>?_,KX.trans KK⟩
   by_cases e:j=i
   ·rw[e,hg];exact h
   ·exact hpE j (by omega)
 rintro g X gi ⟨hpE,KX⟩;have fE:elB p st=ZS:=by
  cases hb:elB p st with
  |false=>rfl
  |true=>obtain⟨k,k1,k2,k3⟩:=jl.1 hb;exact absurd ⟨k2,k3⟩ (hpE k k1)
 have c1:cell X ⟨b2,1,ZU⟩=ZV di:=by rw[(KX.bl jv id).cell];rfl
 simp only[go_sem,Za,Zb,c1,hp.d.aq,hp.d.len];refine aF p.di.length [39,8,60,38] rfl rfl (by omega) (by rfl) (by rfl) (fun i g X=>(∀j,(hj:j<p.di.length)->j<i->gC st p.di[j]=ZS)/\af (fun _=>False) H3 X) ⟨fun j _ h=>by omega,KX⟩ ?_ ?_
 ·clear KX hpE gi c1;rintro i g1 X hi gi gn ⟨UJ,KX⟩;simp only[go_sem,Za,Zb,ae]at gi gn;have lP:=eo.trans KX;obtain⟨pb,po,pc,fT,oz,hld⟩:=(hp.d.aj lP).elem (enc:=pE) (k:=2) (fun _=>rfl) hi;simp only[go_sem,Za,Zb,gi,fT,al,aC,hld];refine⟨by omega,?_⟩;refine aO (pE p.di[i]) (by rfl) rfl rfl (List.all_eq_true.2 (iE _)) fun A1 b8 e8 z8 B8 K8=>?_;simp only[go_sem,Za,Zb];refine abD (b3:=b3) (b4:=b4) (b7:=b8) (x:=p.di[i]) (st:=st) (by rfl) (by rfl) (by rfl) (K8.bl (KX.bl tR id) (by simp)) (K8.bl (KX.bl uT id) (by simp)) B8 ((Nw.ai KX (by simp)).ai K8 (by simp)) hul (hG.di _ (ZL hi)).1 (fun hh f' A' f4 j4 KK=>?_) (fun hh f' yQ=>?_)
  ·refine Io ZT f' A' (by rw[f4 4 (by decide)];simp only[go_sem,Za,Zb,ae]) (by rw[f4 131 (by decide)];simp only[go_sem,Za,Zb,ae]) j4 ((KX.trans K8).any.trans KK) ?_
   ·unfold jr;rw[List.any_eq_true.2 ⟨_,ZL hi,hh⟩];simp
  ·simp only[go_sem,Za,Zb,ae];exact⟨gZ hi hh UJ,KX.trans K8⟩
 clear KX hpE c1;rintro g1 X gi1 ⟨UJ,KX⟩;have fD:p.di.any (gC st)=ZS:=by
  rw[XJ];intro x hx;obtain⟨j,hj,rfl⟩:=ZC hx;rw[UJ j hj hj];simp
 have c1:cell X ⟨b2,2,ZU⟩=ZV sa:=by rw[(KX.bl jv id).cell];rfl
 simp only[go_sem,Za,Zb,c1,hp.s.aq,hp.s.len];refine aF p.sa.length [66,10,95,65] rfl rfl (by omega) (by rfl) (by rfl) (fun i g X=>(∀j,(hj:j<p.sa.length)->j<i->fq st p.sa[j]=ZS)/\af (fun _=>False) H3 X) ⟨fun j _ h=>by omega,KX⟩ ?_ ?_
 ·clear KX UJ gi c1;rintro i g2 X hi gi gn ⟨NW,KX⟩;simp only[go_sem,Za,Zb,ae]at gi gn;have lP:=eo.trans KX;obtain⟨pb,po,pc,fT,oz,hld⟩:=(hp.s.aj lP).elem (enc:=pE) (k:=2) (fun _=>rfl) hi;simp only[go_sem,Za,Zb,gi,fT,al,aC,hld];refine⟨by omega,?_⟩;refine aO (pE p.sa[i]) (by rfl) rfl rfl (List.all_eq_true.2 (iE _)) fun A1 b8 e8 z8 B8 K8=>?_;simp only[go_sem,Za,Zb];refine abE (b3:=b3) (b4:=b4) (b7:=b8) (x:=p.sa[i]) (st:=st) (by rfl) (by rfl) (by rfl) (K8.bl (KX.bl tR id) (by simp)) (K8.bl (KX.bl uT id) (by simp)) B8 ((Nw.ai KX (by simp)).ai K8 (by simp)) hul (hG.sa _ (ZL hi)).1 (fun hh f' A' f4 j4 KK=>?_) (fun hh f' yQ=>?_)
  ·refine Io ZT f' A' (by rw[f4 4 (by decide)];simp only[go_sem,Za,Zb,ae]) (by rw[f4 131 (by decide)];simp only[go_sem,Za,Zb,ae]) j4 ((KX.trans K8).any.trans KK) ?_
   ·unfold jr;rw[List.any_eq_true.2 ⟨_,ZL hi,hh⟩];simp
  ·simp only[go_sem,Za,Zb,ae];exact⟨gZ hi hh NW,KX.trans K8⟩
 clear KX c1;rintro g2 X gi2 ⟨NW,KX⟩;have fS:p.sa.any (fq st)=ZS:=by
  rw[XJ];intro x hx;obtain⟨j,hj,rfl⟩:=ZC hx;rw[NW j hj hj];simp
 have c1:cell X ⟨b2,3,ZU⟩=ZV mo:=by rw[(KX.bl jv id).cell];rfl
 have hms:ms.length=p.mo.length:=hp.ms.len;simp only[go_sem,Za,Zb,c1,hp.m.aq,hp.m.len,hms];refine aF p.mo.length [101,12,13,107,108,14,113,129,131,100] rfl rfl (by omega) (by rfl) (by rfl) (fun i g X=>(∀j,(hj:j<p.mo.length)->j<i->iX st p.mo[j]=ZS)/\(l8 (g 131)).Nodup/\(∀p∈l8 (g 131),H3.size<=p/\X[p]?=ZV (.deferred (ZV [])))/\Bl X b4 [Z5 ZS]/\af (fun p=>p=b4) H3 X) ⟨fun j _ h=>by omega,?_,?_,KX.bl uT id,KX.any⟩ ?_ ?_
 ·simp only[go_sem,Za,Zb,ae,dX];exact WA
 ·simp[go_sem,Za,Zb,ae,dX]
 ·clear KX c1 NW gi2;rintro i g3 X hi gi gn ⟨hpM,hnd,hmk,j4,KX⟩;simp only[go_sem,Za,Zb,ae]at gi gn hnd hmk;have lP:=bo X KX;have sX:=KX.size;have hmi:i<ms.length:=by omega
  obtain⟨pb,po,pc,fT,oz,hld⟩:=(hp.m.aj lP).elem dG hmi;obtain⟨x,hx⟩:∃x,x=ms[i]:=⟨_,rfl⟩
  obtain⟨y,hy⟩:∃y,y=p.mo[i]:=⟨_,rfl⟩
  obtain⟨x1,xm⟩:=hp.ms.at_ i hmi hi;rw[<-hx,<-hy]at x1 xm;rw[<-hx]at hld;rw[hms]at fT;have dm:aQ X ⟨pb,po+i*2,ZU⟩ 2=ZV #[Z8 ZY x.1,gP x]:=hld;simp only[go_sem,Za,Zb,gi,fT,al,aC,dm];refine⟨by omega,?_⟩;refine aO (cq x) (by rfl) rfl rfl (List.all_eq_true.2 (gD _)) fun X3 b12 e12 z12 gI df=>?_;have F4:=lP.trans df;have ak7:Bl X3 b12 [Z8 ZY y.1,gP x]:=by rw[<-x1];exact gI
  have hmx:∀q,aV (gP x) q->q<H.size:=fun q hq=>aR.bo xm (k:=q) hq;have hmo:=hG.mo _ (ZL hi);rw[<-hy]at hmo;have m12:1<=y.1/\y.2.toNat<2^p.el.length:=by
   unfold pk at hmo
   split at hmo
   ·omega
   ·next h=>omega
  have s12:=df.size;have mk3:∀A',af (fun q=>q=b4) X3 A'->∀p∈l8 (g3 131),H3.size<=p/\A'[p]?=ZV (.deferred (ZV [])):=fun A' K p hp=>by
   obtain⟨p1,p2⟩:=hmk p hp;have hlt:=(Array.getElem?_eq_some_iff.1 p2).1;refine⟨p1,?_⟩;rw[K.at_ p (by omega) (by omega),df.at_ p hlt (by simp)];exact p2
  simp only[go_sem,Za,Zb];refine abG c.all c.a1 c.aY c.tz (b3:=b3) (b4:=b4) (b12:=b12) (K:=y.1) (m:=y.2) (mv:=gP x) (st:=st) (by rfl) (by rfl) (by rfl) (df.bl (KX.bl tR (by omega)) (by simp)) (df.bl j4 (by simp)) ak7 (by omega) (by omega) (hst.ai F4 (by simp)) (fun q hq=>by have:=hso q hq;omega) (xm.aj F4) (fun q hq=>by have:=hmx q hq;omega) (hT.ai F4) (fun A' K=>hT.ai (F4.trans' K fun q hq h=>by omega)) (by omega) m12.1 (by rw[hul];exact m12.2) hU.2 (fun hh g' A' q rD RD hq hdq w4 KK=>?_) (fun hh g' A' q rD RD hq hdq w4 KK=>?_)
  ·simp only[go_sem,Za,Zb,ae]at RD;have wO:l8 (g' 131)=q::l8 (g3 131):=by rw[RD,jI]
   refine fin ZT g' A' (by rw[rD 4 (by decide)];simp only[go_sem,Za,Zb,ae]) ?_ ?_ w4 ((KX.trans df.any).trans KK) ?_
   ·rw[wO];refine List.nodup_cons.2 ⟨fun h=>?_,hnd⟩;have:=(Array.getElem?_eq_some_iff.1 (hmk q h).2).1;omega
   ·rw[wO];intro p hp;rcases List.mem_cons.1 hp with rfl|hp
    ·exact⟨by omega,hdq⟩
    ·exact mk3 A' KK p hp
   ·unfold jr;rw[List.any_eq_true.2 ⟨_,ZL hi,by rw[<-hy];exact hh⟩];simp
  ·simp only[go_sem,Za,Zb,ae]at RD;have wO:l8 (g' 131)=q::l8 (g3 131):=by rw[RD,jI]
   simp only[go_sem,Za,Zb,ae];refine⟨gZ hi (by rw[<-hy];exact hh) hpM,?_,?_,w4,(KX.trans df.any).trans KK⟩
   ·rw[wO];refine List.nodup_cons.2 ⟨fun h=>?_,hnd⟩;have:=(Array.getElem?_eq_some_iff.1 (hmk q h).2).1;omega
   ·rw[wO];intro p hp;rcases List.mem_cons.1 hp with rfl|hp
    ·exact⟨by omega,hdq⟩
    ·exact mk3 A' KK p hp
 ·rintro g3 Y gi3 ⟨hpM,hnd,hmk,w4,KY⟩;have fM:p.mo.any (iX st)=ZS:=by
   rw[XJ];intro x hx;obtain⟨j,hj,rfl⟩:=ZC hx;rw[hpM j hj hj];simp
  simp only[go_sem,Za,Zb,ae]at hnd hmk;have t4:=w4.bw (o:=0) (by simp);have yb:=w4.az 0 (Z5 ZS);have k4:af (fun q=>q=b4) Y (az Y ⟨b4,0,ZU⟩ (Z5 ZS)):=(af.refl _ _).az _ (.inl rfl);simp only[go_sem,Za,Zb,ae,t4];generalize az Y ⟨b4,0,ZU⟩ (Z5 ZS)=Z at k4 yb⊢;have:=fin ZS (bR (bR (fun _=>undef) 4 (Z7 (ZV ⟨b4,0,ZU⟩))) 131 (g3 131)) Z (by rfl) (by simp only[go_sem,Za,Zb,ae];exact hnd) (by
   simp only[go_sem,Za,Zb,ae];intro p hp;obtain⟨p1,p2⟩:=hmk p hp;have hlt:=(Array.getElem?_eq_some_iff.1 p2).1;exact⟨p1,by rw[k4.at_ p hlt (by omega)];exact p2⟩) yb (KY.trans k4) (by unfold jr;rw[fE,fD,fS,fM];rfl)
  simpa only[oy,go_sem,Za,Zb,ae]using this
def sF (P:Program) (V:aH) (k:FuncId):Prop:=∀(p:rF) (fx st:List Int) (v sv:ZR) (H:Hp),lz H v p fx->eT p->yp p.el.length fx->yp p.el.length st->aP H sv (iL st)->an P k #[v,sv] H fun r H'=>r=Z5 ZT/\af (fun _=>False) H H'
def RE (hk:ak P k (BH V) BI 2) (hc:jQ P V (V.f 360)) (hcon:qE P (V.f 354)) (hu1:jP P (V.f 357)):sF P V k:=by
 intro p fx st v sv H hv hG hF hU hst;have pg:=hv;obtain⟨el,di,sa,mo,fv,vs,ms,rfl,hp⟩:=hv;refine ah hk (args:=[_,_]) (by simp) ?_;unfold BH BI kB kF kC kJ kM kR kS kT kU kc kg kY;simp only[go_sem,Za,Zb];refine ax fun H1 b2 e1 z1 B1 K1=>?_;have bL:Bl H1 b2 [el,di,sa,mo,fv]:=B1;simp only[go_sem,Za,Zb,bL.aL 5 rfl];refine(hc p fx _ H1 (pg.aj K1) hG hF).mono ?_;rintro r H2 ⟨rfl,K2⟩;have B2:=K2.bl bL id;have c0:cell H2 ⟨b2,0,ZU⟩=ZV el:=by rw[B2.cell];rfl
 have le:aW el=p.el.length:=by rw[hp.e.len,hp.el]
 have ls:aW sv=p.el.length:=by rw[hst.len,aA,hU.1]
 have d1:((p.el.length:Int)==(p.el.length:Int))=ZT:=by simp
 have hn:=hG.n;have hul:=hU.1;rw[ae];simp-implicitDefEqProofs only[go_sem,↓reduceIte,Za,Zb,Zc,reduceCtorEq,c0,hst.aq,hp.e.aq,le,ls,d1];refine(hcon st BJ sv (V.f 357) H2 (hst.ai (K1.trans K2) (by simp)) (by omega) ⟨hu1.1,fun u _ A=>hu1.2 u A⟩).mono ?_;rintro r H3 ⟨rfl,rfl⟩;rw[ae];simp only[go_sem,Za,Zb,LS hU];exact K1.trans K2
def sG (P:Program) (V:aH) (k:FuncId):Prop:=∀(p:rF) (fx st:List Int) (v sv:ZR) (H:Hp),bh V H->lz H v p fx->eT p->yp p.el.length fx->yp p.el.length st->aP H sv (iL st)->an P k #[v,sv] H fun r H'=>r=.bool (jr p st)/\af (fun _=>False) H H'
def RF (hk:ak P k (BM V) BN 2) (hpr:sF P V (V.f 361)) (hb:wU P V (V.f 363)):sG P V k:=by
 intro p fx st v sv H hT hv hG hF hU hst;have pg:=hv;obtain⟨el,di,sa,mo,fv,vs,ms,rfl,hp⟩:=hv;refine ah hk (args:=[_,_]) (by simp) ?_;unfold BM BN kA kB kF kC kJ kM kR kS kT kc kg kY;simp only[go_sem,Za,Zb];refine ax fun H1 b2 e1 z1 B1 K1=>?_;have bL:Bl H1 b2 [el,di,sa,mo,fv]:=B1;simp only[go_sem,Za,Zb,bL.aL 5 rfl];refine(hpr p fx st _ sv H1 (pg.aj K1) hG hF hU (hst.ai K1 (by simp))).mono ?_;rintro r H2 ⟨rfl,K2⟩;have B2:=K2.bl bL id;have df:=K1.trans K2;rw[ae];simp-implicitDefEqProofs only[go_sem,↓reduceIte,Za,Zb,Zc,reduceCtorEq,B2.aL 5 rfl];refine(hb p fx st _ sv H2 (hT.ai df) (pg.aj df) hG hU (hst.ai df (by simp))).mono ?_;rintro r H3 ⟨rfl,K3⟩;rw[ae];simp only[go_sem,Za,Zb];exact df.trans K3
end Go.Mg

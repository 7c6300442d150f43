/- Lemmas of ours. No conditions. -/
import Derived.Test.YtoclemmcphgikaaGreatDoorMgMA
open Bool renaming false→ZS,true→ZT
open Decidable renaming decide→ZQ
open Option renaming none→ZU,some→ZV
open Bool renaming and_eq_true→ZJ,not_eq_true'→Yx,or_eq_true→Yq
open Classical renaming byContradiction→Zn,propDecidable→Xu
open Decidable renaming not_not→Vw
open Function renaming comp→Vu
open List renaming append_nil→YY,countP_append→Wf,flatMap_append→Yo,flatMap_cons→Zq,flatMap_nil→WS,getD_eq_getElem?_getD→ZP,getElem?_range→Wk,getElem_mem→ZL,getElem_of_mem→ZC,getElem_take→WY,length_take→Zr,mem_filter→XV,mem_map→XR,mem_range→YK,range→ZF,range_succ→Yg,take_length→ZI,take_succ_eq_append_getElem→Zw
open Nat renaming le_refl→ZH,lt_trichotomy→V6,zero_add→Zt
set_option linter.all false
namespace Go.Mg
inductive Tc (R:Nat->Nat->Bool):Nat->Nat->Prop
 |one {a b:Nat}:R a b=ZT->Tc R a b
 |more {a b c:Nat}:R a b=ZT->Tc R b c->Tc R a c
variable {R:Nat->Nat->Bool} {a b c n k:Nat} {s:List Nat}
def Tc.trans (h:Tc R a b) (k:Tc R b c):Tc R a c:=by
 induction h with
 |one h=>exact .more h k
 |more h _ ih=>exact .more h (ih k)
def Tc.mono {R':Nat->Nat->Bool} (hR:∀a b,R a b=ZT->Tc R' a b) (h:Tc R a b):Tc R' a b:=by
 induction h with
 |one h=>exact hR _ _ h
 |more h _ ih=>exact(hR _ _ h).trans ih
def Tc.last (h:Tc R a b):∃c,R c b=ZT/\(a=c\/Tc R a c):=by
 induction h with
 |one h=>exact⟨_,h,.inl rfl⟩
 |more h _ ih=>
  obtain⟨c,h1,h2⟩:=ih;refine⟨c,h1,.inr ?_⟩;rcases h2 with rfl|h2
  ·exact .one h
  ·exact .more h h2
def Tc.first (h:Tc R a b):∃c,R a c=ZT/\(c=b\/Tc R c b):=by
 cases h with
 |one h=>exact⟨_,h,.inl rfl⟩
 |more h k=>exact⟨_,h,.inr k⟩
def Tc.snoc (h:a=b\/Tc R a b) (k:R b c=ZT):Tc R a c:=by
 rcases h with rfl|h
 ·exact .one k
 ·exact h.trans (.one k)
noncomputable def xZ (R:Nat->Nat->Bool) (a b:Nat):Bool:=@ZQ (Tc R a b) (Xu _)
def jc:xZ R a b=ZT↔Tc R a b:=by unfold xZ;exact@decide_eq_true_iff _ (Xu _)
def yG (n:Nat) (R:Nat->Nat->Bool):Prop:=∀a b,R a b=ZT->a<n/\b<n
def yG.tc (h:yG n R) (k:Tc R a b):a<n/\b<n:=by
 induction k with
 |one k=>exact h _ _ k
 |more k _ ih=>exact⟨(h _ _ k).1,ih.2⟩
def Eu (R:Nat->Nat->Bool):Prop:=∀a,¬Tc R a a
def F1 (n:Nat) (R:Nat->Nat->Bool) (s:List Nat) (k:Nat):Bool:=!decide (k∈s)&&(ZF n).all fun a=>!R a k||ZQ (a∈s)
def pZ:F1 n R s k=ZT↔k∉s/\∀a<n,R a k=ZT->a∈s:=by
 unfold F1;simp only[ZJ,Yx,decide_eq_false_iff_not,List.all_eq_true,YK,Yq,decide_eq_true_eq]
 constructor
 ·rintro⟨h1,h2⟩;refine⟨h1,fun a ha hr=>?_⟩;rcases h2 a ha with h|h
  ·rw[h]at hr;cases hr
  ·exact h
 ·rintro⟨h1,h2⟩;refine⟨h1,fun a ha=>?_⟩
  cases hr:R a k with
  |false=>exact .inl rfl
  |true=>exact .inr (h2 a ha hr)
def Ev (n:Nat) (R:Nat->Nat->Bool) (s:List Nat):Option Nat:=(ZF n).find? (F1 n R s)
def mr (h:Ev n R s=ZV k):k<n/\F1 n R s k=ZT/\∀j<k,F1 n R s j=ZS:=by
 unfold Ev at h;have h1:=List.find?_some h;have h2:=List.mem_of_find?_eq_some h;refine⟨List.mem_range.1 h2,h1,fun j hj=>?_⟩;obtain⟨as,bs,e,hn⟩:=(List.find?_eq_some_iff_append.1 h).2;have hk:=List.mem_range.1 h2;have hl:as.length=k:=by
  have h3:(ZF n)[as.length]?=ZV k:=by rw[e];simp
  rw[Wk]at h3
  ·exact Option.some.inj h3
  ·have:=congrArg List.length e;simp at this;omega
 have hm:j∈as:=by
  have h3:(ZF n)[j]?=ZV j:=Wk (by omega);rw[e,List.getElem?_append_left (by omega)]at h3;exact List.mem_of_getElem? h3
 have:=hn j hm;simpa using this
def Ew (h:Ev n R s=ZU) (hk:k<n):F1 n R s k=ZS:=by
 unfold Ev at h;have:=List.find?_eq_none.1 h k (List.mem_range.2 hk);simpa using this
def afq (h1:k<n) (h2:F1 n R s k=ZT) (h3:∀j<k,F1 n R s j=ZS):Ev n R s=ZV k:=by
 cases h:Ev n R s with
 |none=>rw[Ew h h1]at h2;cases h2
 |some j=>
  obtain⟨g1,g2,g3⟩:=mr h;rcases V6 j k with hj|hj|hj
  ·rw[h3 j hj]at g2;cases g2
  ·rw[hj]
  ·rw[g3 k hj]at h2;cases h2
def Ey (n:Nat) (R:Nat->Nat->Bool):Nat->List Nat->List Nat
 |0,s=>s
 |m+1,s=>match Ev n R s with
  |some k=>Ey n R m (s++[k])
  |none=>s
def DO (n:Nat) (R:Nat->Nat->Bool):List Nat:=Ey n R n []
structure qa (n:Nat) (R:Nat->Nat->Bool) (s:List Nat):Prop where
 nd:s.Nodup
 lt:∀k∈s,k<n
 at_:∀i (h:i<s.length),Ev n R (s.take i)=ZV s[i]
def qa.nil (n:Nat) (R:Nat->Nat->Bool):qa n R []:=⟨List.nodup_nil,fun _ h=>by simp at h,fun i h=>by simp at h⟩
def qa.snoc (h:qa n R s) (hk:Ev n R s=ZV k):qa n R (s++[k]):=by
 obtain⟨h1,h2,_⟩:=mr hk;have MN:=(pZ.1 h2).1;refine⟨?_,fun a ha=>?_,fun i hi=>?_⟩
 ·rw[List.nodup_append];exact⟨h.nd,by simp,fun a ha b hb=>by simp at hb;subst hb;intro e;subst e;exact MN ha⟩
 ·rcases List.mem_append.1 ha with ha|ha
  ·exact h.lt a ha
  ·simp at ha;subst ha;exact h1
 ·by_cases e:i<s.length
  ·rw[List.take_append_of_le_length (by omega),List.getElem_append_left e];exact h.at_ i e
  ·have:i=s.length:=by simp at hi;omega
   subst this;simp[hk]
def qa.closed (h:qa n R s) (hR:yG n R) {i:Nat} (hi:i<s.length) (ha:R a s[i]=ZT):a∈s.take i:=by
 obtain⟨_,h2,_⟩:=mr (h.at_ i hi);exact(pZ.1 h2).2 a (hR _ _ ha).1 ha
def qa.mem (h:qa n R s) (hR:yG n R) (hb:b∈s) (ha:R a b=ZT):a∈s:=by
 obtain⟨i,hi,rfl⟩:=ZC hb;exact List.mem_of_mem_take (h.closed hR hi ha)
def qa.ahead (h:qa n R s) (hR:yG n R) (ha:Tc R a b):∀i (hi:i<s.length),s[i]=b->a∈s.take i:=by
 induction ha with
 |one k=>intro i hi e;subst e;exact h.closed hR hi k
 |@more a b c k _ ih=>
  intro i hi e;obtain⟨j,hj,ej⟩:=ZC (ih i hi e);rw[Zr]at hj;rw[WY]at ej;have hja:R a s[j]=ZT:=by rw[ej];exact k
  have:=h.closed hR (i:=j) (by omega) hja;obtain⟨q,hq,eq⟩:=ZC this;rw[Zr]at hq;rw[WY]at eq;rw[List.mem_take_iff_getElem];exact⟨q,by omega,eq⟩
def qa.P7 (h:qa n R s) (hR:yG n R) (ha:a∈s):¬Tc R a a:=by
 intro hc;obtain⟨i,hi,e⟩:=ZC ha;have:=h.ahead hR hc i hi e;obtain⟨q,hq,eq⟩:=ZC this;rw[Zr]at hq;rw[WY]at eq;have:=List.pairwise_iff_getElem.1 h.nd q i (by omega) hi (by omega);exact this (by rw[eq,e])
def jE (h1:s.Nodup) (h2:∀k∈s,k<n):s.length=cn n fun k=>ZQ (k∈s):=by
 induction s with
 |nil=>simp[jD]
 |cons a s ih=>
  obtain⟨h3,h4⟩:=List.nodup_cons.1 h1;rw[lg (p:=fun k=>ZQ (k∈a::s)) (h2 a (by simp)) (by simp),List.length_cons,ih h4 fun k hk=>h2 k (by simp[hk])]
  congr 1
  refine bY fun i hi=>?_
  by_cases e:i=a
  ·subst e;simp[h3]
  ·simp[e]
def vD (h1:s.Nodup) (h2:∀k∈s,k<n) (h3:n<=s.length) (hk:k<n):k∈s:=by
 have e:=jE h1 h2;have:=afp (n:=n) (p:=fun k=>ZQ (k∈s)) (q:=fun _=>ZT) (fun _ _ _=>rfl) (by have:=lN n fun _=>ZT;omega) k hk rfl;simpa using this
def Eu.top {n:Nat} {R:Nat->Nat->Bool} (h:Eu R) (U:Nat->Prop):∀(m u:Nat),cn n (fun v=>xZ R v u)<m->u<n->U u->(∀a b,R a b=ZT->a<n)->∃t,t<n/\U t/\∀a,R a t=ZT->¬U a
 |0,_,hm,_,_,_=>by omega
 |m+1,u,hm,hu,hU,hR=>by
  by_cases e:∃a,R a u=ZT/\U a
  ·obtain⟨a,h1,h2⟩:=e;refine Eu.top h U m a ?_ (hR _ _ h1) h2 hR;have h3:cn n (fun v=>xZ R v a)<cn n (fun v=>xZ R v u):=by
    rw[lg (p:=fun v=>xZ R v u) (k:=a) (hR _ _ h1) (jc.2 (.one h1))];refine Nat.lt_succ_of_le (jb fun i hi hp=>?_);have hp:=jc.1 hp;have:i≠a:=fun e=>by subst e;exact h i hp
    simp only[ZJ,jc,Yx,decide_eq_false_iff_not];exact⟨hp.trans (.one h1),this⟩
   omega
  ·exact⟨u,hu,hU,fun a h1 h2=>e ⟨a,h1,h2⟩⟩
def qa.stuck (h:qa n R s) (hR:yG n R) (hn:Ev n R s=ZU) (hl:s.length<n):¬Eu R:=by
 intro ha;have:∃u,u<n/\u∉s:=by
  apply Zn;intro hc;have h1:=jE h.nd h.lt;have h2:cn n (fun k=>ZQ (k∈s))=cn n fun _=>ZT:=bY fun i hi=>by
   have:i∈s:=Zn fun e=>hc ⟨i,hi,e⟩;simp[this]
  have h3:=PZ n fun _=>ZT;have h4:cn n (fun _=>!true)=0:=jD n;omega
 obtain⟨u,hu,hus⟩:=this;obtain⟨t,ht,h1,h2⟩:=ha.top (fun v=>v∉s) (cn n (fun v=>xZ R v u)+1) u (by omega) hu hus (fun a b h=>(hR a b h).1);have:=Ew hn ht;rw[pZ.2 ⟨h1,fun a _ hr=>Zn fun e=>h2 a hr e⟩]at this
 cases this
def nA {n:Nat} {R:Nat->Nat->Bool} (hR:yG n R):∀(m:Nat) (s:List Nat),qa n R s->n<=s.length+m->qa n R (Ey n R m s)/\((Ey n R m s).length=n\/(Ev n R (Ey n R m s)=ZU/\(Ey n R m s).length<n))
 |0,s,h,hm=>by
  have h1:=jE h.nd h.lt;have h2:=lN n fun k=>ZQ (k∈s);exact⟨h,.inl (by unfold Ey;omega)⟩
 |m+1,s,h,hm=>by
  unfold Ey
  cases hn:Ev n R s with
  |none=>
   have h1:=jE h.nd h.lt;have h2:=lN n fun k=>ZQ (k∈s);refine⟨h,?_⟩
   by_cases e:s.length=n
   ·exact .inl e
   ·exact .inr ⟨hn,(by omega:s.length<n)⟩
  |some k=>exact nA hR m (s++[k]) (h.snoc hn) (by simp;omega)
def Ln (hR:yG n R):qa n R (DO n R):=(nA hR n [] (qa.nil n R) (by simp)).1
def Aa (hR:yG n R):(DO n R).length=n↔Eu R:=by
 have h:=nA hR n [] (qa.nil n R) (by simp)
 constructor
 ·intro hl a ha;have:=(hR.tc ha).1;exact h.1.P7 hR (vD h.1.nd h.1.lt (by unfold DO at hl;omega) this) ha
 ·intro ha;rcases h.2 with h'|⟨h1,h2⟩
  ·exact h'
  ·exact absurd ha (h.1.stuck hR h1 h2)
def qa.uniq {t:List Nat} (h:qa n R s) (k:qa n R t):∀i,i<=s.length->i<=t.length->s.take i=t.take i
 |0,_,_=>by simp
 |i+1,h1,h2=>by
  have ih:=h.uniq k i (by omega) (by omega);have e1:=h.at_ i (by omega);have e2:=k.at_ i (by omega);rw[ih]at e1;have e:s[i]=t[i]:=Option.some.inj (e1.symm.trans e2);rw[Zw (by omega),Zw (by omega),ih,e]
def qa.eq (hR:yG n R) (h:qa n R s) (hl:s.length=n\/Ev n R s=ZU):s=DO n R:=by
 have k:=Ln hR;have k2:=(nA hR n [] (qa.nil n R) (by simp)).2;have kl:(DO n R).length<=n:=by rcases k2 with e|⟨_,e⟩<;>unfold DO<;>omega
 have sl:s.length<=n:=by have:=jE h.nd h.lt;have:=lN n fun k=>ZQ (k∈s);omega
 rcases V6 s.length (DO n R).length with e|e|e
 ·rcases hl with hl|hl
  ·omega
  ·have e1:=k.at_ s.length e;rw[<-h.uniq k s.length (ZH _) (by omega),ZI,hl]at e1
   cases e1
 ·have:=h.uniq k s.length (ZH _) (by omega);rw[ZI,e,ZI]at this;exact this
 ·have e1:=h.at_ (DO n R).length e;rw[h.uniq k (DO n R).length (by omega) (ZH _),ZI]at e1;rcases k2 with e2|⟨e2,_⟩
  ·unfold DO at e;omega
  ·unfold DO at e1;rw[e2]at e1;cases e1
def vE (n:Nat) (R:Nat->Nat->Bool) (x:Nat):List (Nat×Nat):=((ZF n).filter (R x)).map fun y=>(x,y)
def dP (n:Nat) (R:Nat->Nat->Bool):List (Nat×Nat):=(ZF n).flatMap (vE n R)
def jF {p:Nat×Nat}:p∈dP n R↔p.1<n/\p.2<n/\R p.1 p.2=ZT:=by
 unfold dP vE;simp only[List.mem_flatMap,YK,XR,XV]
 constructor
 ·rintro⟨x,hx,y,⟨hy,hr⟩,rfl⟩;exact⟨hx,hy,hr⟩
 ·rintro⟨h1,h2,h3⟩;exact⟨p.1,h1,p.2,⟨h2,h3⟩,rfl⟩
def yj (p q:Nat×Nat):Prop:=p.1<q.1\/(p.1=q.1/\p.2<q.2)
def yj.irr {p:Nat×Nat}:¬yj p p:=by rintro(h|⟨_,h⟩)<;>omega
def yj.trans {p q r:Nat×Nat} (h:yj p q) (k:yj q r):yj p r:=by unfold yj at*;omega
def Ab (n:Nat) (R:Nat->Nat->Bool):(dP n R).Pairwise yj:=by
 unfold dP;have:∀m,((ZF m).flatMap (vE n R)).Pairwise yj:=fun m=>by
  induction m with
  |zero=>simp
  |succ m ih=>
   rw[Yg,Yo,List.pairwise_append];refine⟨ih,?_,fun a ha b hb=>?_⟩
   ·simp only[Zq,WS,YY,vE];refine List.pairwise_map.2 ((List.pairwise_lt_range.filter _).imp fun h=>.inr ⟨rfl,h⟩)
   ·obtain⟨x,hx,ha⟩:=List.mem_flatMap.1 ha;simp only[Zq,WS,YY]at hb;simp only[vE,XR]at ha hb;obtain⟨_,_,rfl⟩:=ha;obtain⟨_,_,rfl⟩:=hb;exact .inl (List.mem_range.1 hx)
 exact this n
def Lo:∀{l m:List (Nat×Nat)},l.Pairwise yj->m.Pairwise yj->(∀p,p∈l↔p∈m)->l=m
 |[],[],_,_,_=>rfl
 |[],b::m,_,_,h=>by have:=(h b).2 (by simp);simp at this
 |a::l,[],_,_,h=>by have:=(h a).1 (by simp);simp at this
 |a::l,b::m,hl,hm,h=>by
  obtain⟨h1,h2⟩:=List.pairwise_cons.1 hl;obtain⟨k1,k2⟩:=List.pairwise_cons.1 hm;have e:a=b:=by
   have ha:=(h a).1 (by simp);have hb:=(h b).2 (by simp);rcases List.mem_cons.1 ha with e|ha
   ·exact e
   ·rcases List.mem_cons.1 hb with e|hb
    ·exact e.symm
    ·exact absurd ((h1 b hb).trans (k1 a ha)) yj.irr
  subst e
  congr 1
  refine Lo h2 k2 fun p=>?_
  constructor
  ·intro hp;rcases List.mem_cons.1 ((h p).1 (by simp[hp]))with e|hp'
   ·subst e;exact absurd (h1 p hp) yj.irr
   ·exact hp'
  ·intro hp;rcases List.mem_cons.1 ((h p).2 (by simp[hp]))with e|hp'
   ·subst e;exact absurd (k1 p hp) yj.irr
   ·exact hp'
def P8 (l:List (Nat×Nat)) (a b:Nat):Bool:=ZQ ((a,b)∈l)
def Lp {l:List (Nat×Nat)}:P8 l a b=ZT↔(a,b)∈l:=by unfold P8;exact decide_eq_true_iff
end Go.Mg
namespace Go.Mg
def ahz (p:List Nat):Nat:=p.getLastD 0
def akc (n:Nat) (R:Nat->Nat->Bool) (l:List (List Nat)):List (List Nat):=l.flatMap fun p=>((ZF n).filter (R (ahz p))).map fun y=>p++[y]
def akd (l:List Nat):Nat:=l.foldl max 0
def rnk (n:Nat) (R:Nat->Nat->Bool):Nat->Nat->Nat
 |0,_=>0
 |m+1,b=>akd (((ZF n).filter fun a=>R a b).map (rnk n R m))+1
def Ac (n:Nat) (R:Nat->Nat->Bool) (b:Nat):Nat:=rnk n R (n+1) b
end Go.Mg
namespace Go.Mg
abbrev NP:=Nat×Nat
def Lq (p q:NP):Prop:=p.1<q.1\/(p.1=q.1/\p.2<=q.2)
def bT (l:List NP) (i:Nat):NP:=l.getD i (0,0)
def fL (l:List NP) (i:Nat):Bool:=ZQ (i=0)||ZQ (bT l i≠bT l (i -1))
def uq (l:List NP) (m:Nat):List NP:=((ZF m).filter (fL l)).map (bT l)
def qd (l:List NP) (m:Nat):uq l (m+1)=if fL l m=ZT then uq l m++[bT l m]else uq l m:=by
 unfold uq;rw[Yg,List.filter_append,List.map_append]
 by_cases h:fL l m=ZT
 ·rw[if_pos h];simp[h]
 ·rw[if_neg h];simp[h]
def uH {l:List NP}:∀m,(∀i<m,fL l i=ZT)->m<=l.length->uq l m=l.take m
 |0,_,_=>by simp[uq]
 |m+1,h,hm=>by
  rw[qd,if_pos (h m (by omega)),uH m (fun i hi=>h i (by omega)) (by omega),Zw (by omega)]
  congr 1
  simp[bT,ZP,show m<l.length by omega]
def dZ {l:List NP} {i:Nat} (h:i<l.length):bT l i=l[i]:=by simp[bT,ZP,h]
def Lq.trans {p q r:NP} (h:Lq p q) (k:Lq q r):Lq p r:=by unfold Lq at*;omega
def Lq.lt {p q:NP} (h:Lq p q) (k:p≠q):yj p q:=by
 obtain⟨a,b⟩:=p;obtain⟨c,d⟩:=q;unfold Lq at h;unfold yj;simp only[ne_eq,Prod.mk.injEq,not_and]at*;omega
def aau {p q r:NP} (h:Lq p q) (k:yj q r):yj p r:=by unfold Lq at h;unfold yj at*;omega
def aav {l:List NP} {p:NP}:p∈uq l l.length↔p∈l:=by
 unfold uq;simp only[XR,XV,YK]
 constructor
 ·rintro⟨i,⟨hi,_⟩,rfl⟩;rw[dZ hi];exact ZL _
 ·intro hp;obtain⟨i,hi,rfl⟩:=ZC hp
  induction i using Nat.strongRecOn with
  |_ i ih=>
   by_cases hk:fL l i=ZT
   ·exact⟨i,⟨hi,hk⟩,dZ hi⟩
   ·unfold fL at hk;simp only[Yq,decide_eq_true_eq,not_or,Vw]at hk;obtain⟨h0,h1⟩:=hk;rw[dZ hi,dZ (by omega)]at h1;obtain⟨j,hj,e⟩:=ih (i -1) (by omega) (by omega) (ZL _);exact⟨j,hj,e.trans h1.symm⟩
def Gl {l:List NP} (h:l.Pairwise Lq):(uq l l.length).Pairwise yj:=by
 unfold uq;rw[List.pairwise_map];have hr:((ZF l.length).filter (fL l)).Pairwise fun i j=>(i<l.length/\i<j/\j<l.length/\fL l j=ZT):=by
  have h1:((ZF l.length).filter (fL l)).Pairwise (·<·):=List.pairwise_lt_range.filter _;refine h1.imp_of_mem fun{i j} hi hj hij=>?_;simp only[XV,YK]at hi hj;exact⟨hi.1,hij,hj.1,hj.2⟩
 refine hr.imp fun{i j} ⟨hi,hij,hj,hk⟩=>?_;have hp:=List.pairwise_iff_getElem.1 h;unfold fL at hk;simp only[Yq,decide_eq_true_eq]at hk;have hk:bT l j≠bT l (j -1):=by rcases hk with hk|hk;omega;exact hk
 rw[dZ hj,dZ (by omega)]at hk;have h2:yj l[j -1] l[j]:=(hp (j -1) j (by omega) hj (by omega)).lt (fun e=>hk e.symm);rw[dZ hi,dZ hj]
 by_cases e:i=j -1
 ·subst e;exact h2
 ·exact aau (hp i (j -1) hi (by omega) (by omega)) h2
variable {n:Nat}
def P9 {l l':List NP} (hp:l'.Perm l) (hs:l'.Pairwise Lq) (h:∀p∈l,p.1<n/\p.2<n):uq l' l'.length=dP n (P8 l):=
 Lo (Gl hs) (Ab _ _) fun p=>by
  rw[aav,jF,Lp,hp.mem_iff];exact⟨fun hp=>⟨(h p hp).1,(h p hp).2,hp⟩,fun h=>h.2.2⟩
def yG.P8 {l:List NP} (h:∀p∈l,p.1<n/\p.2<n):yG n (P8 l):=fun a b k=>h _ (Lp.1 k)
def Gm (n:Nat) (R:Nat->Nat->Bool) (x b:Nat) (q:Nat->Bool) (hb:b<n):(vE n R x).countP (fun p=>ZQ (p.2=b)&&q p.1)=if(R x b&&q x)=ZT then 1 else 0:=by
 unfold vE;rw[List.countP_map,List.countP_filter];have:∀m,(ZF m).countP (fun y=>((fun p:NP=>ZQ (p.2=b)&&q p.1)∘fun y=>(x,y)) y&&R x y)=if b<m/\(R x b&&q x)=ZT then 1 else 0:=fun m=>by
  induction m with
  |zero=>simp
  |succ m ih=>
   rw[Yg,Wf,ih,List.countP_cons,List.countP_nil];simp only[Vu,Zt]
   by_cases e:m=b
   ·subst e;simp only[Nat.lt_irrefl,false_and,if_false,Nat.lt_succ_self,true_and,decide_true,Bool.true_and,Zt];rw[Bool.and_comm]
   ·have:(ZQ (m=b))=ZS:=by simp[e]
    simp only[this,Bool.false_and,Bool.false_eq_true,if_false,Nat.add_zero]
    by_cases h:b<m
    ·simp[h,show b<m+1 by omega]
    ·simp[h,show¬b<m+1 by omega]
 rw[this n];simp[hb]
def Ez (n:Nat) (R:Nat->Nat->Bool) (b:Nat) (q:Nat->Bool) (hb:b<n):(dP n R).countP (fun p=>ZQ (p.2=b)&&q p.1)=cn n fun a=>R a b&&q a:=by
 unfold dP;have:∀m,((ZF m).flatMap (vE n R)).countP (fun p=>ZQ (p.2=b)&&q p.1)=cn m fun a=>R a b&&q a:=fun m=>by
  induction m with
  |zero=>rfl
  |succ m ih=>rw[Yg,Yo,Wf,ih,bK,Zq,WS,YY,Gm n R m b q hb]
 exact this n
def oQ {p:Nat->Bool}:cn n p=0↔∀i<n,p i=ZS:=by
 constructor
 ·intro h i hi
  cases hp:p i with
  |false=>rfl
  |true=>have:=lg hi hp;omega
 ·intro h;rw[bY h,jD]
end Go.Mg

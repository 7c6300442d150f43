/- Lemmas of ours. No conditions. -/
import Derived.Test.YteeemadonfcliaaGreatDoorMgMA
set_option linter.all false
namespace Go.Mg
inductive Tc (R:Nat->Nat->Bool):Nat->Nat->Prop
 |one {a b:Nat}:R a b=true->Tc R a b
 |more {a b c:Nat}:R a b=true->Tc R b c->Tc R a c
variable {R:Nat->Nat->Bool} {a b c n k:Nat} {s:List Nat}
theorem Tc.trans (h:Tc R a b) (k:Tc R b c):Tc R a c:=by
 induction h with
 |one h=>exact .more h k
 |more h _ ih=>exact .more h (ih k)
theorem Tc.mono {R':Nat->Nat->Bool} (hR:∀a b,R a b=true->Tc R' a b) (h:Tc R a b):Tc R' a b:=by
 induction h with
 |one h=>exact hR _ _ h
 |more h _ ih=>exact(hR _ _ h).trans ih
theorem Tc.last (h:Tc R a b):∃c,R c b=true/\(a=c\/Tc R a c):=by
 induction h with
 |one h=>exact⟨_,h,.inl rfl⟩
 |more h _ ih=>
  obtain⟨c,h1,h2⟩:=ih;refine⟨c,h1,.inr ?_⟩;rcases h2 with rfl|h2
  ·exact .one h
  ·exact .more h h2
theorem Tc.first (h:Tc R a b):∃c,R a c=true/\(c=b\/Tc R c b):=by
 cases h with
 |one h=>exact⟨_,h,.inl rfl⟩
 |more h k=>exact⟨_,h,.inr k⟩
theorem Tc.snoc (h:a=b\/Tc R a b) (k:R b c=true):Tc R a c:=by
 rcases h with rfl|h
 ·exact .one k
 ·exact h.trans (.one k)
noncomputable def qL (R:Nat->Nat->Bool) (a b:Nat):Bool:=@decide (Tc R a b) (Classical.propDecidable _)
theorem fI:qL R a b=true↔Tc R a b:=by unfold qL;exact@decide_eq_true_iff _ (Classical.propDecidable _)
def rA (n:Nat) (R:Nat->Nat->Bool):Prop:=∀a b,R a b=true->a<n/\b<n
theorem rA.tc (h:rA n R) (k:Tc R a b):a<n/\b<n:=by
 induction k with
 |one k=>exact h _ _ k
 |more k _ ih=>exact⟨(h _ _ k).1,ih.2⟩
def yk (R:Nat->Nat->Bool):Prop:=∀a,¬Tc R a a
def IA (n:Nat) (R:Nat->Nat->Bool) (s:List Nat) (k:Nat):Bool:=!decide (k∈s)&&(List.range n).all fun a=>!R a k||decide (a∈s)
theorem k8:IA n R s k=true↔k∉s/\∀a<n,R a k=true->a∈s:=by
 unfold IA;simp only[Bool.and_eq_true,Bool.not_eq_true',decide_eq_false_iff_not,List.all_eq_true,List.mem_range,Bool.or_eq_true,decide_eq_true_eq]
 constructor
 ·rintro⟨h1,h2⟩;refine⟨h1,fun a ha hr=>?_⟩;rcases h2 a ha with h|h
  ·rw[h]at hr;cases hr
  ·exact h
 ·rintro⟨h1,h2⟩;refine⟨h1,fun a ha=>?_⟩
  cases hr:R a k with
  |false=>exact .inl rfl
  |true=>exact .inr (h2 a ha hr)
def v8 (n:Nat) (R:Nat->Nat->Bool) (s:List Nat):Option Nat:=(List.range n).find? (IA n R s)
theorem iQ (h:v8 n R s=some k):k<n/\IA n R s k=true/\∀j<k,IA n R s j=false:=by
 unfold v8 at h;have h1:=List.find?_some h;have h2:=List.mem_of_find?_eq_some h;refine⟨List.mem_range.1 h2,h1,fun j hj=>?_⟩;obtain⟨as,bs,e,hn⟩:=(List.find?_eq_some_iff_append.1 h).2;have hk:=List.mem_range.1 h2;have hl:as.length=k:=by
  have h3:(List.range n)[as.length]?=some k:=by rw[e];simp
  rw[List.getElem?_range]at h3
  ·exact Option.some.inj h3
  ·have:=congrArg List.length e;simp at this;omega
 have hm:j∈as:=by
  have h3:(List.range n)[j]?=some j:=List.getElem?_range (by omega);rw[e,List.getElem?_append_left (by omega)]at h3;exact List.mem_of_getElem? h3
 have:=hn j hm;simpa using this
theorem we (h:v8 n R s=none) (hk:k<n):IA n R s k=false:=by
 unfold v8 at h;have:=List.find?_eq_none.1 h k (List.mem_range.2 hk);simpa using this
theorem Oa (h1:k<n) (h2:IA n R s k=true) (h3:∀j<k,IA n R s j=false):v8 n R s=some k:=by
 cases h:v8 n R s with
 |none=>rw[we h h1]at h2;cases h2
 |some j=>
  obtain⟨g1,g2,g3⟩:=iQ h;rcases Nat.lt_trichotomy j k with hj|hj|hj
  ·rw[h3 j hj]at g2;cases g2
  ·rw[hj]
  ·rw[g3 k hj]at h2;cases h2
def wg (n:Nat) (R:Nat->Nat->Bool):Nat->List Nat->List Nat
 |0,s=>s
 |m+1,s=>match v8 n R s with
  |some k=>wg n R m (s++[k])
  |none=>s
def vp (n:Nat) (R:Nat->Nat->Bool):List Nat:=wg n R n []
structure k9 (n:Nat) (R:Nat->Nat->Bool) (s:List Nat):Prop where
 nd:s.Nodup
 lt:∀k∈s,k<n
 at_:∀i (h:i<s.length),v8 n R (s.take i)=some s[i]
theorem k9.nil (n:Nat) (R:Nat->Nat->Bool):k9 n R []:=⟨List.nodup_nil,fun _ h=>by simp at h,fun i h=>by simp at h⟩
theorem k9.snoc (h:k9 n R s) (hk:v8 n R s=some k):k9 n R (s++[k]):=by
 obtain⟨h1,h2,_⟩:=iQ hk;have Iw:=(k8.1 h2).1;refine⟨?_,fun a ha=>?_,fun i hi=>?_⟩
 ·rw[List.nodup_append];exact⟨h.nd,by simp,fun a ha b hb=>by simp at hb;subst hb;intro e;subst e;exact Iw ha⟩
 ·rcases List.mem_append.1 ha with ha|ha
  ·exact h.lt a ha
  ·simp at ha;subst ha;exact h1
 ·by_cases e:i<s.length
  ·rw[List.take_append_of_le_length (by omega),List.getElem_append_left e];exact h.at_ i e
  ·have:i=s.length:=by simp at hi;omega
   subst this;simp[hk]
theorem k9.closed (h:k9 n R s) (hR:rA n R) {i:Nat} (hi:i<s.length) (ha:R a s[i]=true):a∈s.take i:=by
 obtain⟨_,h2,_⟩:=iQ (h.at_ i hi);exact(k8.1 h2).2 a (hR _ _ ha).1 ha
theorem k9.mem (h:k9 n R s) (hR:rA n R) (hb:b∈s) (ha:R a b=true):a∈s:=by
 obtain⟨i,hi,rfl⟩:=List.getElem_of_mem hb;exact List.mem_of_mem_take (h.closed hR hi ha)
theorem k9.ahead (h:k9 n R s) (hR:rA n R) (ha:Tc R a b):∀i (hi:i<s.length),s[i]=b->a∈s.take i:=by
 induction ha with
 |one k=>intro i hi e;subst e;exact h.closed hR hi k
 |@more a b c k _ ih=>
  intro i hi e;obtain⟨j,hj,ej⟩:=List.getElem_of_mem (ih i hi e);rw[List.length_take]at hj;rw[List.getElem_take]at ej;have Eh:R a s[j]=true:=by rw[ej];exact k
  have:=h.closed hR (i:=j) (by omega) Eh;obtain⟨q,hq,eq⟩:=List.getElem_of_mem this;rw[List.length_take]at hq;rw[List.getElem_take]at eq;rw[List.mem_take_iff_getElem];exact⟨q,by omega,eq⟩
theorem k9.E6 (h:k9 n R s) (hR:rA n R) (ha:a∈s):¬Tc R a a:=by
 intro hc;obtain⟨i,hi,e⟩:=List.getElem_of_mem ha;have:=h.ahead hR hc i hi e;obtain⟨q,hq,eq⟩:=List.getElem_of_mem this;rw[List.length_take]at hq;rw[List.getElem_take]at eq;have:=List.pairwise_iff_getElem.1 h.nd q i (by omega) hi (by omega);exact this (by rw[eq,e])
theorem gu (h1:s.Nodup) (h2:∀k∈s,k<n):s.length=cn n fun k=>decide (k∈s):=by
 induction s with
 |nil=>simp[gq]
 |cons a s ih=>
  obtain⟨h3,h4⟩:=List.nodup_cons.1 h1;rw[fV (p:=fun k=>decide (k∈a::s)) (h2 a (by simp)) (by simp),List.length_cons,ih h4 fun k hk=>h2 k (by simp[hk])]
  congr 1
  refine aZ fun i hi=>?_
  by_cases e:i=a
  ·subst e;simp[h3]
  ·simp[e]
theorem oJ (h1:s.Nodup) (h2:∀k∈s,k<n) (h3:n<=s.length) (hk:k<n):k∈s:=by
 have e:=gu h1 h2;have:=yg (n:=n) (p:=fun k=>decide (k∈s)) (q:=fun _=>true) (fun _ _ _=>rfl) (by have:=dw n fun _=>true;omega) k hk rfl;simpa using this
theorem yk.top {n:Nat} {R:Nat->Nat->Bool} (h:yk R) (U:Nat->Prop):∀(m u:Nat),cn n (fun v=>qL R v u)<m->u<n->U u->(∀a b,R a b=true->a<n)->∃t,t<n/\U t/\∀a,R a t=true->¬U a
 |0,_,hm,_,_,_=>by omega
 |m+1,u,hm,hu,hU,hR=>by
  by_cases e:∃a,R a u=true/\U a
  ·obtain⟨a,h1,h2⟩:=e;refine yk.top h U m a ?_ (hR _ _ h1) h2 hR;have h3:cn n (fun v=>qL R v a)<cn n (fun v=>qL R v u):=by
    rw[fV (p:=fun v=>qL R v u) (k:=a) (hR _ _ h1) (fI.2 (.one h1))];refine Nat.lt_succ_of_le (eU fun i hi hp=>?_);have hp:=fI.1 hp;have:i≠a:=fun e=>by subst e;exact h i hp
    simp only[Bool.and_eq_true,fI,Bool.not_eq_true',decide_eq_false_iff_not];exact⟨hp.trans (.one h1),this⟩
   omega
  ·exact⟨u,hu,hU,fun a h1 h2=>e ⟨a,h1,h2⟩⟩
theorem k9.stuck (h:k9 n R s) (hR:rA n R) (hn:v8 n R s=none) (hl:s.length<n):¬yk R:=by
 intro ha;have:∃u,u<n/\u∉s:=by
  apply Classical.byContradiction;intro hc;have h1:=gu h.nd h.lt;have h2:cn n (fun k=>decide (k∈s))=cn n fun _=>true:=aZ fun i hi=>by
   have:i∈s:=Classical.byContradiction fun e=>hc ⟨i,hi,e⟩;simp[this]
  have h3:=ye n fun _=>true;have h4:cn n (fun _=>!true)=0:=gq n;omega
 obtain⟨u,hu,hus⟩:=this;obtain⟨t,ht,h1,h2⟩:=ha.top (fun v=>v∉s) (cn n (fun v=>qL R v u)+1) u (by omega) hu hus (fun a b h=>(hR a b h).1);have:=we hn ht;rw[k8.2 ⟨h1,fun a _ hr=>Classical.byContradiction fun e=>h2 a hr e⟩]at this
 cases this
theorem jk {n:Nat} {R:Nat->Nat->Bool} (hR:rA n R):∀(m:Nat) (s:List Nat),k9 n R s->n<=s.length+m->k9 n R (wg n R m s)/\((wg n R m s).length=n\/(v8 n R (wg n R m s)=none/\(wg n R m s).length<n))
 |0,s,h,hm=>by
  have h1:=gu h.nd h.lt;have h2:=dw n fun k=>decide (k∈s);exact⟨h,.inl (by unfold wg;omega)⟩
 |m+1,s,h,hm=>by
  unfold wg
  cases hn:v8 n R s with
  |none=>
   have h1:=gu h.nd h.lt;have h2:=dw n fun k=>decide (k∈s);refine⟨h,?_⟩
   by_cases e:s.length=n
   ·exact .inl e
   ·exact .inr ⟨hn,(by omega:s.length<n)⟩
  |some k=>exact jk hR m (s++[k]) (h.snoc hn) (by simp;omega)
theorem Bc (hR:rA n R):k9 n R (vp n R):=(jk hR n [] (k9.nil n R) (by simp)).1
theorem ta (hR:rA n R):(vp n R).length=n↔yk R:=by
 have h:=jk hR n [] (k9.nil n R) (by simp)
 constructor
 ·intro hl a ha;have:=(hR.tc ha).1;exact h.1.E6 hR (oJ h.1.nd h.1.lt (by unfold vp at hl;omega) this) ha
 ·intro ha;rcases h.2 with h'|⟨h1,h2⟩
  ·exact h'
  ·exact absurd ha (h.1.stuck hR h1 h2)
theorem k9.uniq {t:List Nat} (h:k9 n R s) (k:k9 n R t):∀i,i<=s.length->i<=t.length->s.take i=t.take i
 |0,_,_=>by simp
 |i+1,h1,h2=>by
  have ih:=h.uniq k i (by omega) (by omega);have e1:=h.at_ i (by omega);have e2:=k.at_ i (by omega);rw[ih]at e1;have e:s[i]=t[i]:=Option.some.inj (e1.symm.trans e2);rw[List.take_succ_eq_append_getElem (by omega),List.take_succ_eq_append_getElem (by omega),ih,e]
theorem k9.eq (hR:rA n R) (h:k9 n R s) (hl:s.length=n\/v8 n R s=none):s=vp n R:=by
 have k:=Bc hR;have k2:=(jk hR n [] (k9.nil n R) (by simp)).2;have kl:(vp n R).length<=n:=by rcases k2 with e|⟨_,e⟩<;>unfold vp<;>omega
 have sl:s.length<=n:=by have:=gu h.nd h.lt;have:=dw n fun k=>decide (k∈s);omega
 rcases Nat.lt_trichotomy s.length (vp n R).length with e|e|e
 ·rcases hl with hl|hl
  ·omega
  ·have e1:=k.at_ s.length e;rw[<-h.uniq k s.length (Nat.le_refl _) (by omega),List.take_length,hl]at e1
   cases e1
 ·have:=h.uniq k s.length (Nat.le_refl _) (by omega);rw[List.take_length,e,List.take_length]at this;exact this
 ·have e1:=h.at_ (vp n R).length e;rw[h.uniq k (vp n R).length (by omega) (Nat.le_refl _),List.take_length]at e1;rcases k2 with e2|⟨e2,_⟩
  ·unfold vp at e;omega
  ·unfold vp at e1;rw[e2]at e1;cases e1
def oK (n:Nat) (R:Nat->Nat->Bool) (x:Nat):List (Nat×Nat):=((List.range n).filter (R x)).map fun y=>(x,y)
def cy (n:Nat) (R:Nat->Nat->Bool):List (Nat×Nat):=(List.range n).flatMap (oK n R)
theorem gw {p:Nat×Nat}:p∈cy n R↔p.1<n/\p.2<n/\R p.1 p.2=true:=by
 unfold cy oK;simp only[List.mem_flatMap,List.mem_range,List.mem_map,List.mem_filter]
 constructor
 ·rintro⟨x,hx,y,⟨hy,hr⟩,rfl⟩;exact⟨hx,hy,hr⟩
 ·rintro⟨h1,h2,h3⟩;exact⟨p.1,h1,p.2,⟨h2,h3⟩,rfl⟩
def qT (p q:Nat×Nat):Prop:=p.1<q.1\/(p.1=q.1/\p.2<q.2)
theorem qT.WK {p:Nat×Nat}:¬qT p p:=by rintro(h|⟨_,h⟩)<;>omega
theorem qT.trans {p q r:Nat×Nat} (h:qT p q) (k:qT q r):qT p r:=by unfold qT at*;omega
theorem tb (n:Nat) (R:Nat->Nat->Bool):(cy n R).Pairwise qT:=by
 unfold cy;have:∀m,((List.range m).flatMap (oK n R)).Pairwise qT:=fun m=>by
  induction m with
  |zero=>simp
  |succ m ih=>
   rw[List.range_succ,List.flatMap_append,List.pairwise_append];refine⟨ih,?_,fun a ha b hb=>?_⟩
   ·simp only[List.flatMap_cons,List.flatMap_nil,List.append_nil,oK];refine List.pairwise_map.2 ((List.pairwise_lt_range.filter _).imp fun h=>.inr ⟨rfl,h⟩)
   ·obtain⟨x,hx,ha⟩:=List.mem_flatMap.1 ha;simp only[List.flatMap_cons,List.flatMap_nil,List.append_nil]at hb;simp only[oK,List.mem_map]at ha hb;obtain⟨_,_,rfl⟩:=ha;obtain⟨_,_,rfl⟩:=hb;exact .inl (List.mem_range.1 hx)
 exact this n
theorem Bd:∀{l m:List (Nat×Nat)},l.Pairwise qT->m.Pairwise qT->(∀p,p∈l↔p∈m)->l=m
 |[],[],_,_,_=>rfl
 |[],b::m,_,_,h=>by have:=(h b).2 (by simp);simp at this
 |a::l,[],_,_,h=>by have:=(h a).1 (by simp);simp at this
 |a::l,b::m,hl,hm,h=>by
  obtain⟨h1,h2⟩:=List.pairwise_cons.1 hl;obtain⟨k1,k2⟩:=List.pairwise_cons.1 hm;have e:a=b:=by
   have ha:=(h a).1 (by simp);have hb:=(h b).2 (by simp);rcases List.mem_cons.1 ha with e|ha
   ·exact e
   ·rcases List.mem_cons.1 hb with e|hb
    ·exact e.symm
    ·exact absurd ((h1 b hb).trans (k1 a ha)) qT.WK
  subst e
  congr 1
  refine Bd h2 k2 fun p=>?_
  constructor
  ·intro hp;rcases List.mem_cons.1 ((h p).1 (by simp[hp]))with e|N3
   ·subst e;exact absurd (h1 p hp) qT.WK
   ·exact N3
  ·intro hp;rcases List.mem_cons.1 ((h p).2 (by simp[hp]))with e|N3
   ·subst e;exact absurd (k1 p hp) qT.WK
   ·exact N3
def E7 (l:List (Nat×Nat)) (a b:Nat):Bool:=decide ((a,b)∈l)
theorem Be {l:List (Nat×Nat)}:E7 l a b=true↔(a,b)∈l:=by unfold E7;exact decide_eq_true_iff
end Go.Mg
namespace Go.Mg
def R4 (p:List Nat):Nat:=p.getLastD 0
def WL (n:Nat) (R:Nat->Nat->Bool) (l:List (List Nat)):List (List Nat):=l.flatMap fun p=>((List.range n).filter (R (R4 p))).map fun y=>p++[y]
def WM (l:List Nat):Nat:=l.foldl max 0
def rnk (n:Nat) (R:Nat->Nat->Bool):Nat->Nat->Nat
 |0,_=>0
 |m+1,b=>WM (((List.range n).filter fun a=>R a b).map (rnk n R m))+1
def E8 (n:Nat) (R:Nat->Nat->Bool) (b:Nat):Nat:=rnk n R (n+1) b
end Go.Mg
namespace Go.Mg
abbrev NP:=Nat×Nat
def Bf (p q:NP):Prop:=p.1<q.1\/(p.1=q.1/\p.2<=q.2)
def bg (l:List NP) (i:Nat):NP:=l.getD i (0,0)
def dK (l:List NP) (i:Nat):Bool:=decide (i=0)||decide (bg l i≠bg l (i -1))
def nu (l:List NP) (m:Nat):List NP:=((List.range m).filter (dK l)).map (bg l)
theorem lg (l:List NP) (m:Nat):nu l (m+1)=if dK l m=true then nu l m++[bg l m]else nu l m:=by
 unfold nu;rw[List.range_succ,List.filter_append,List.map_append]
 by_cases h:dK l m=true
 ·rw[if_pos h];simp[h]
 ·rw[if_neg h];simp[h]
theorem nG {l:List NP}:∀m,(∀i<m,dK l i=true)->m<=l.length->nu l m=l.take m
 |0,_,_=>by simp[nu]
 |m+1,h,hm=>by
  rw[lg,if_pos (h m (by omega)),nG m (fun i hi=>h i (by omega)) (by omega),List.take_succ_eq_append_getElem (by omega)]
  congr 1
  simp[bg,List.getD_eq_getElem?_getD,show m<l.length by omega]
theorem cJ {l:List NP} {i:Nat} (h:i<l.length):bg l i=l[i]:=by simp[bg,List.getD_eq_getElem?_getD,h]
theorem Bf.trans {p q r:NP} (h:Bf p q) (k:Bf q r):Bf p r:=by unfold Bf at*;omega
theorem Bf.lt {p q:NP} (h:Bf p q) (k:p≠q):qT p q:=by
 obtain⟨a,b⟩:=p;obtain⟨c,d⟩:=q;unfold Bf at h;unfold qT;simp only[ne_eq,Prod.mk.injEq,not_and]at*;omega
theorem Jt {p q r:NP} (h:Bf p q) (k:qT q r):qT p r:=by unfold Bf at h;unfold qT at*;omega
theorem Ju {l:List NP} {p:NP}:p∈nu l l.length↔p∈l:=by
 unfold nu;simp only[List.mem_map,List.mem_filter,List.mem_range]
 constructor
 ·rintro⟨i,⟨hi,_⟩,rfl⟩;rw[cJ hi];exact List.getElem_mem _
 ·intro hp;obtain⟨i,hi,rfl⟩:=List.getElem_of_mem hp
  induction i using Nat.strongRecOn with
  |_ i ih=>
   by_cases hk:dK l i=true
   ·exact⟨i,⟨hi,hk⟩,cJ hi⟩
   ·unfold dK at hk;simp only[Bool.or_eq_true,decide_eq_true_eq,not_or,Decidable.not_not]at hk;obtain⟨h0,h1⟩:=hk;rw[cJ hi,cJ (by omega)]at h1;obtain⟨j,hj,e⟩:=ih (i -1) (by omega) (by omega) (List.getElem_mem _);exact⟨j,hj,e.trans h1.symm⟩
theorem yl {l:List NP} (h:l.Pairwise Bf):(nu l l.length).Pairwise qT:=by
 unfold nu;rw[List.pairwise_map];have hr:((List.range l.length).filter (dK l)).Pairwise fun i j=>(i<l.length/\i<j/\j<l.length/\dK l j=true):=by
  have h1:((List.range l.length).filter (dK l)).Pairwise (·<·):=List.pairwise_lt_range.filter _;refine h1.imp_of_mem fun{i j} hi hj WN=>?_;simp only[List.mem_filter,List.mem_range]at hi hj;exact⟨hi.1,WN,hj.1,hj.2⟩
 refine hr.imp fun{i j} ⟨hi,WN,hj,hk⟩=>?_;have hp:=List.pairwise_iff_getElem.1 h;unfold dK at hk;simp only[Bool.or_eq_true,decide_eq_true_eq]at hk;have hk:bg l j≠bg l (j -1):=by rcases hk with hk|hk;omega;exact hk
 rw[cJ hj,cJ (by omega)]at hk;have h2:qT l[j -1] l[j]:=(hp (j -1) j (by omega) hj (by omega)).lt (fun e=>hk e.symm);rw[cJ hi,cJ hj]
 by_cases e:i=j -1
 ·subst e;exact h2
 ·exact Jt (hp i (j -1) hi (by omega) (by omega)) h2
variable {n:Nat}
theorem E9 {l l':List NP} (hp:l'.Perm l) (hs:l'.Pairwise Bf) (h:∀p∈l,p.1<n/\p.2<n):nu l' l'.length=cy n (E7 l):=
 Bd (yl hs) (tb _ _) fun p=>by
  rw[Ju,gw,Be,hp.mem_iff];exact⟨fun hp=>⟨(h p hp).1,(h p hp).2,hp⟩,fun h=>h.2.2⟩
theorem rA.E7 {l:List NP} (h:∀p∈l,p.1<n/\p.2<n):rA n (E7 l):=fun a b k=>h _ (Be.1 k)
theorem ym (n:Nat) (R:Nat->Nat->Bool) (x b:Nat) (q:Nat->Bool) (hb:b<n):(oK n R x).countP (fun p=>decide (p.2=b)&&q p.1)=if(R x b&&q x)=true then 1 else 0:=by
 unfold oK;rw[List.countP_map,List.countP_filter];have:∀m,(List.range m).countP (fun y=>((fun p:NP=>decide (p.2=b)&&q p.1)∘fun y=>(x,y)) y&&R x y)=if b<m/\(R x b&&q x)=true then 1 else 0:=fun m=>by
  induction m with
  |zero=>simp
  |succ m ih=>
   rw[List.range_succ,List.countP_append,ih,List.countP_cons,List.countP_nil];simp only[Function.comp,Nat.zero_add]
   by_cases e:m=b
   ·subst e;simp only[Nat.lt_irrefl,false_and,if_false,Nat.lt_succ_self,true_and,decide_true,Bool.true_and,Nat.zero_add];rw[Bool.and_comm]
   ·have:(decide (m=b))=false:=by simp[e]
    simp only[this,Bool.false_and,Bool.false_eq_true,if_false,Nat.add_zero]
    by_cases h:b<m
    ·simp[h,show b<m+1 by omega]
    ·simp[h,show¬b<m+1 by omega]
 rw[this n];simp[hb]
theorem wh (n:Nat) (R:Nat->Nat->Bool) (b:Nat) (q:Nat->Bool) (hb:b<n):(cy n R).countP (fun p=>decide (p.2=b)&&q p.1)=cn n fun a=>R a b&&q a:=by
 unfold cy;have:∀m,((List.range m).flatMap (oK n R)).countP (fun p=>decide (p.2=b)&&q p.1)=cn m fun a=>R a b&&q a:=fun m=>by
  induction m with
  |zero=>rfl
  |succ m ih=>rw[List.range_succ,List.flatMap_append,List.countP_append,ih,aX,List.flatMap_cons,List.flatMap_nil,List.append_nil,ym n R m b q hb]
 exact this n
theorem jO {p:Nat->Bool}:cn n p=0↔∀i<n,p i=false:=by
 constructor
 ·intro h i hi
  cases hp:p i with
  |false=>rfl
  |true=>have:=fV hi hp;omega
 ·intro h;rw[aZ h,gq]
end Go.Mg

/- Lemmas of ours. No conditions. -/
import Derived.Test.YtoclemmcphgikaaGreatDoorMgMA
set_option linter.all false
namespace Go.Mg
inductive Tc (R:Nat->Nat->Bool):Nat->Nat->Prop
 |one {a b:Nat}:R a b=true->Tc R a b
 |more {a b c:Nat}:R a b=true->Tc R b c->Tc R a c
variable {R:Nat->Nat->Bool} {a b c n k:Nat} {s:List Nat}
theorem Tc.trans (h:Tc R a b) (k:Tc R b c):Tc R a c:=by
 induction h with
 |one h=>exact .more h k
 |more h _ ih=>exact .more h (ih k)
theorem Tc.mono {R':Nat->Nat->Bool} (hR:∀a b,R a b=true->Tc R' a b) (h:Tc R a b):Tc R' a b:=by
 induction h with
 |one h=>exact hR _ _ h
 |more h _ ih=>exact(hR _ _ h).trans ih
theorem Tc.last (h:Tc R a b):∃c,R c b=true/\(a=c\/Tc R a c):=by
 induction h with
 |one h=>exact⟨_,h,.inl rfl⟩
 |more h _ ih=>
  obtain⟨c,h1,h2⟩:=ih;refine⟨c,h1,.inr ?_⟩;rcases h2 with rfl|h2
  ·exact .one h
  ·exact .more h h2
theorem Tc.first (h:Tc R a b):∃c,R a c=true/\(c=b\/Tc R c b):=by
 cases h with
 |one h=>exact⟨_,h,.inl rfl⟩
 |more h k=>exact⟨_,h,.inr k⟩
theorem Tc.snoc (h:a=b\/Tc R a b) (k:R b c=true):Tc R a c:=by
 rcases h with rfl|h
 ·exact .one k
 ·exact h.trans (.one k)
noncomputable def wN (R:Nat->Nat->Bool) (a b:Nat):Bool:=@decide (Tc R a b) (Classical.propDecidable _)
theorem iA:wN R a b=true↔Tc R a b:=by unfold wN;exact@decide_eq_true_iff _ (Classical.propDecidable _)
def xu (n:Nat) (R:Nat->Nat->Bool):Prop:=∀a b,R a b=true->a<n/\b<n
theorem xu.tc (h:xu n R) (k:Tc R a b):a<n/\b<n:=by
 induction k with
 |one k=>exact h _ _ k
 |more k _ ih=>exact⟨(h _ _ k).1,ih.2⟩
def CT (R:Nat->Nat->Bool):Prop:=∀a,¬Tc R a a
def IQ (n:Nat) (R:Nat->Nat->Bool) (s:List Nat) (k:Nat):Bool:=!decide (k∈s)&&(List.range n).all fun a=>!R a k||decide (a∈s)
theorem oE:IQ n R s k=true↔k∉s/\∀a<n,R a k=true->a∈s:=by
 unfold IQ;simp only[Bool.and_eq_true,Bool.not_eq_true',decide_eq_false_iff_not,List.all_eq_true,List.mem_range,Bool.or_eq_true,decide_eq_true_eq]
 constructor
 ·rintro⟨h1,h2⟩;refine⟨h1,fun a ha hr=>?_⟩;rcases h2 a ha with h|h
  ·rw[h]at hr;cases hr
  ·exact h
 ·rintro⟨h1,h2⟩;refine⟨h1,fun a ha=>?_⟩
  cases hr:R a k with
  |false=>exact .inl rfl
  |true=>exact .inr (h2 a ha hr)
def CU (n:Nat) (R:Nat->Nat->Bool) (s:List Nat):Option Nat:=(List.range n).find? (IQ n R s)
theorem lj (h:CU n R s=some k):k<n/\IQ n R s k=true/\∀j<k,IQ n R s j=false:=by
 unfold CU at h;have h1:=List.find?_some h;have h2:=List.mem_of_find?_eq_some h;refine⟨List.mem_range.1 h2,h1,fun j hj=>?_⟩;obtain⟨as,bs,e,hn⟩:=(List.find?_eq_some_iff_append.1 h).2;have hk:=List.mem_range.1 h2;have hl:as.length=k:=by
  have h3:(List.range n)[as.length]?=some k:=by rw[e];simp
  rw[List.getElem?_range]at h3
  ·exact Option.some.inj h3
  ·have:=congrArg List.length e;simp at this;omega
 have hm:j∈as:=by
  have h3:(List.range n)[j]?=some j:=List.getElem?_range (by omega);rw[e,List.getElem?_append_left (by omega)]at h3;exact List.mem_of_getElem? h3
 have:=hn j hm;simpa using this
theorem CV (h:CU n R s=none) (hk:k<n):IQ n R s k=false:=by
 unfold CU at h;have:=List.find?_eq_none.1 h k (List.mem_range.2 hk);simpa using this
theorem YE (h1:k<n) (h2:IQ n R s k=true) (h3:∀j<k,IQ n R s j=false):CU n R s=some k:=by
 cases h:CU n R s with
 |none=>rw[CV h h1]at h2;cases h2
 |some j=>
  obtain⟨g1,g2,g3⟩:=lj h;rcases Nat.lt_trichotomy j k with hj|hj|hj
  ·rw[h3 j hj]at g2;cases g2
  ·rw[hj]
  ·rw[g3 k hj]at h2;cases h2
def CW (n:Nat) (R:Nat->Nat->Bool):Nat->List Nat->List Nat
 |0,s=>s
 |m+1,s=>match CU n R s with
  |some k=>CW n R m (s++[k])
  |none=>s
def Co (n:Nat) (R:Nat->Nat->Bool):List Nat:=CW n R n []
structure oF (n:Nat) (R:Nat->Nat->Bool) (s:List Nat):Prop where
 nd:s.Nodup
 lt:∀k∈s,k<n
 at_:∀i (h:i<s.length),CU n R (s.take i)=some s[i]
theorem oF.nil (n:Nat) (R:Nat->Nat->Bool):oF n R []:=⟨List.nodup_nil,fun _ h=>by simp at h,fun i h=>by simp at h⟩
theorem oF.snoc (h:oF n R s) (hk:CU n R s=some k):oF n R (s++[k]):=by
 obtain⟨h1,h2,_⟩:=lj hk;have MK:=(oE.1 h2).1;refine⟨?_,fun a ha=>?_,fun i hi=>?_⟩
 ·rw[List.nodup_append];exact⟨h.nd,by simp,fun a ha b hb=>by simp at hb;subst hb;intro e;subst e;exact MK ha⟩
 ·rcases List.mem_append.1 ha with ha|ha
  ·exact h.lt a ha
  ·simp at ha;subst ha;exact h1
 ·by_cases e:i<s.length
  ·rw[List.take_append_of_le_length (by omega),List.getElem_append_left e];exact h.at_ i e
  ·have:i=s.length:=by simp at hi;omega
   subst this;simp[hk]
theorem oF.closed (h:oF n R s) (hR:xu n R) {i:Nat} (hi:i<s.length) (ha:R a s[i]=true):a∈s.take i:=by
 obtain⟨_,h2,_⟩:=lj (h.at_ i hi);exact(oE.1 h2).2 a (hR _ _ ha).1 ha
theorem oF.mem (h:oF n R s) (hR:xu n R) (hb:b∈s) (ha:R a b=true):a∈s:=by
 obtain⟨i,hi,rfl⟩:=List.getElem_of_mem hb;exact List.mem_of_mem_take (h.closed hR hi ha)
theorem oF.ahead (h:oF n R s) (hR:xu n R) (ha:Tc R a b):∀i (hi:i<s.length),s[i]=b->a∈s.take i:=by
 induction ha with
 |one k=>intro i hi e;subst e;exact h.closed hR hi k
 |@more a b c k _ ih=>
  intro i hi e;obtain⟨j,hj,ej⟩:=List.getElem_of_mem (ih i hi e);rw[List.length_take]at hj;rw[List.getElem_take]at ej;have hja:R a s[j]=true:=by rw[ej];exact k
  have:=h.closed hR (i:=j) (by omega) hja;obtain⟨q,hq,eq⟩:=List.getElem_of_mem this;rw[List.length_take]at hq;rw[List.getElem_take]at eq;rw[List.mem_take_iff_getElem];exact⟨q,by omega,eq⟩
theorem oF.Ns (h:oF n R s) (hR:xu n R) (ha:a∈s):¬Tc R a a:=by
 intro hc;obtain⟨i,hi,e⟩:=List.getElem_of_mem ha;have:=h.ahead hR hc i hi e;obtain⟨q,hq,eq⟩:=List.getElem_of_mem this;rw[List.length_take]at hq;rw[List.getElem_take]at eq;have:=List.pairwise_iff_getElem.1 h.nd q i (by omega) hi (by omega);exact this (by rw[eq,e])
theorem ja (h1:s.Nodup) (h2:∀k∈s,k<n):s.length=cn n fun k=>decide (k∈s):=by
 induction s with
 |nil=>simp[i7]
 |cons a s ih=>
  obtain⟨h3,h4⟩:=List.nodup_cons.1 h1;rw[jM (p:=fun k=>decide (k∈a::s)) (h2 a (by simp)) (by simp),List.length_cons,ih h4 fun k hk=>h2 k (by simp[hk])]
  congr 1
  refine bP fun i hi=>?_
  by_cases e:i=a
  ·subst e;simp[h3]
  ·simp[e]
theorem uq (h1:s.Nodup) (h2:∀k∈s,k<n) (h3:n<=s.length) (hk:k<n):k∈s:=by
 have e:=ja h1 h2;have:=YB (n:=n) (p:=fun k=>decide (k∈s)) (q:=fun _=>true) (fun _ _ _=>rfl) (by have:=kc n fun _=>true;omega) k hk rfl;simpa using this
theorem CT.top {n:Nat} {R:Nat->Nat->Bool} (h:CT R) (U:Nat->Prop):∀(m u:Nat),cn n (fun v=>wN R v u)<m->u<n->U u->(∀a b,R a b=true->a<n)->∃t,t<n/\U t/\∀a,R a t=true->¬U a
 |0,_,hm,_,_,_=>by omega
 |m+1,u,hm,hu,hU,hR=>by
  by_cases e:∃a,R a u=true/\U a
  ·obtain⟨a,h1,h2⟩:=e;refine CT.top h U m a ?_ (hR _ _ h1) h2 hR;have h3:cn n (fun v=>wN R v a)<cn n (fun v=>wN R v u):=by
    rw[jM (p:=fun v=>wN R v u) (k:=a) (hR _ _ h1) (iA.2 (.one h1))];refine Nat.lt_succ_of_le (jL fun i hi hp=>?_);have hp:=iA.1 hp;have:i≠a:=fun e=>by subst e;exact h i hp
    simp only[Bool.and_eq_true,iA,Bool.not_eq_true',decide_eq_false_iff_not];exact⟨hp.trans (.one h1),this⟩
   omega
  ·exact⟨u,hu,hU,fun a h1 h2=>e ⟨a,h1,h2⟩⟩
theorem oF.stuck (h:oF n R s) (hR:xu n R) (hn:CU n R s=none) (hl:s.length<n):¬CT R:=by
 intro ha;have:∃u,u<n/\u∉s:=by
  apply Classical.byContradiction;intro hc;have h1:=ja h.nd h.lt;have h2:cn n (fun k=>decide (k∈s))=cn n fun _=>true:=bP fun i hi=>by
   have:i∈s:=Classical.byContradiction fun e=>hc ⟨i,hi,e⟩;simp[this]
  have h3:=Nj n fun _=>true;have h4:cn n (fun _=>!true)=0:=i7 n;omega
 obtain⟨u,hu,hus⟩:=this;obtain⟨t,ht,h1,h2⟩:=ha.top (fun v=>v∉s) (cn n (fun v=>wN R v u)+1) u (by omega) hu hus (fun a b h=>(hR a b h).1);have:=CV hn ht;rw[oE.2 ⟨h1,fun a _ hr=>Classical.byContradiction fun e=>h2 a hr e⟩]at this
 cases this
theorem my {n:Nat} {R:Nat->Nat->Bool} (hR:xu n R):∀(m:Nat) (s:List Nat),oF n R s->n<=s.length+m->oF n R (CW n R m s)/\((CW n R m s).length=n\/(CU n R (CW n R m s)=none/\(CW n R m s).length<n))
 |0,s,h,hm=>by
  have h1:=ja h.nd h.lt;have h2:=kc n fun k=>decide (k∈s);exact⟨h,.inl (by unfold CW;omega)⟩
 |m+1,s,h,hm=>by
  unfold CW
  cases hn:CU n R s with
  |none=>
   have h1:=ja h.nd h.lt;have h2:=kc n fun k=>decide (k∈s);refine⟨h,?_⟩
   by_cases e:s.length=n
   ·exact .inl e
   ·exact .inr ⟨hn,(by omega:s.length<n)⟩
  |some k=>exact my hR m (s++[k]) (h.snoc hn) (by simp;omega)
theorem IS (hR:xu n R):oF n R (Co n R):=(my hR n [] (oF.nil n R) (by simp)).1
theorem yz (hR:xu n R):(Co n R).length=n↔CT R:=by
 have h:=my hR n [] (oF.nil n R) (by simp)
 constructor
 ·intro hl a ha;have:=(hR.tc ha).1;exact h.1.Ns hR (uq h.1.nd h.1.lt (by unfold Co at hl;omega) this) ha
 ·intro ha;rcases h.2 with h'|⟨h1,h2⟩
  ·exact h'
  ·exact absurd ha (h.1.stuck hR h1 h2)
theorem oF.uniq {t:List Nat} (h:oF n R s) (k:oF n R t):∀i,i<=s.length->i<=t.length->s.take i=t.take i
 |0,_,_=>by simp
 |i+1,h1,h2=>by
  have ih:=h.uniq k i (by omega) (by omega);have e1:=h.at_ i (by omega);have e2:=k.at_ i (by omega);rw[ih]at e1;have e:s[i]=t[i]:=Option.some.inj (e1.symm.trans e2);rw[List.take_succ_eq_append_getElem (by omega),List.take_succ_eq_append_getElem (by omega),ih,e]
theorem oF.eq (hR:xu n R) (h:oF n R s) (hl:s.length=n\/CU n R s=none):s=Co n R:=by
 have k:=IS hR;have k2:=(my hR n [] (oF.nil n R) (by simp)).2;have kl:(Co n R).length<=n:=by rcases k2 with e|⟨_,e⟩<;>unfold Co<;>omega
 have sl:s.length<=n:=by have:=ja h.nd h.lt;have:=kc n fun k=>decide (k∈s);omega
 rcases Nat.lt_trichotomy s.length (Co n R).length with e|e|e
 ·rcases hl with hl|hl
  ·omega
  ·have e1:=k.at_ s.length e;rw[<-h.uniq k s.length (Nat.le_refl _) (by omega),List.take_length,hl]at e1
   cases e1
 ·have:=h.uniq k s.length (Nat.le_refl _) (by omega);rw[List.take_length,e,List.take_length]at this;exact this
 ·have e1:=h.at_ (Co n R).length e;rw[h.uniq k (Co n R).length (by omega) (Nat.le_refl _),List.take_length]at e1;rcases k2 with e2|⟨e2,_⟩
  ·unfold Co at e;omega
  ·unfold Co at e1;rw[e2]at e1;cases e1
def ur (n:Nat) (R:Nat->Nat->Bool) (x:Nat):List (Nat×Nat):=((List.range n).filter (R x)).map fun y=>(x,y)
def dp (n:Nat) (R:Nat->Nat->Bool):List (Nat×Nat):=(List.range n).flatMap (ur n R)
theorem jb {p:Nat×Nat}:p∈dp n R↔p.1<n/\p.2<n/\R p.1 p.2=true:=by
 unfold dp ur;simp only[List.mem_flatMap,List.mem_range,List.mem_map,List.mem_filter]
 constructor
 ·rintro⟨x,hx,y,⟨hy,hr⟩,rfl⟩;exact⟨hx,hy,hr⟩
 ·rintro⟨h1,h2,h3⟩;exact⟨p.1,h1,p.2,⟨h2,h3⟩,rfl⟩
def wZ (p q:Nat×Nat):Prop:=p.1<q.1\/(p.1=q.1/\p.2<q.2)
theorem wZ.irr {p:Nat×Nat}:¬wZ p p:=by rintro(h|⟨_,h⟩)<;>omega
theorem wZ.trans {p q r:Nat×Nat} (h:wZ p q) (k:wZ q r):wZ p r:=by unfold wZ at*;omega
theorem yA (n:Nat) (R:Nat->Nat->Bool):(dp n R).Pairwise wZ:=by
 unfold dp;have:∀m,((List.range m).flatMap (ur n R)).Pairwise wZ:=fun m=>by
  induction m with
  |zero=>simp
  |succ m ih=>
   rw[List.range_succ,List.flatMap_append,List.pairwise_append];refine⟨ih,?_,fun a ha b hb=>?_⟩
   ·simp only[List.flatMap_cons,List.flatMap_nil,List.append_nil,ur];refine List.pairwise_map.2 ((List.pairwise_lt_range.filter _).imp fun h=>.inr ⟨rfl,h⟩)
   ·obtain⟨x,hx,ha⟩:=List.mem_flatMap.1 ha;simp only[List.flatMap_cons,List.flatMap_nil,List.append_nil]at hb;simp only[ur,List.mem_map]at ha hb;obtain⟨_,_,rfl⟩:=ha;obtain⟨_,_,rfl⟩:=hb;exact .inl (List.mem_range.1 hx)
 exact this n
theorem IT:∀{l m:List (Nat×Nat)},l.Pairwise wZ->m.Pairwise wZ->(∀p,p∈l↔p∈m)->l=m
 |[],[],_,_,_=>rfl
 |[],b::m,_,_,h=>by have:=(h b).2 (by simp);simp at this
 |a::l,[],_,_,h=>by have:=(h a).1 (by simp);simp at this
 |a::l,b::m,hl,hm,h=>by
  obtain⟨h1,h2⟩:=List.pairwise_cons.1 hl;obtain⟨k1,k2⟩:=List.pairwise_cons.1 hm;have e:a=b:=by
   have ha:=(h a).1 (by simp);have hb:=(h b).2 (by simp);rcases List.mem_cons.1 ha with e|ha
   ·exact e
   ·rcases List.mem_cons.1 hb with e|hb
    ·exact e.symm
    ·exact absurd ((h1 b hb).trans (k1 a ha)) wZ.irr
  subst e
  congr 1
  refine IT h2 k2 fun p=>?_
  constructor
  ·intro hp;rcases List.mem_cons.1 ((h p).1 (by simp[hp]))with e|YC
   ·subst e;exact absurd (h1 p hp) wZ.irr
   ·exact YC
  ·intro hp;rcases List.mem_cons.1 ((h p).2 (by simp[hp]))with e|YC
   ·subst e;exact absurd (k1 p hp) wZ.irr
   ·exact YC
def Nt (l:List (Nat×Nat)) (a b:Nat):Bool:=decide ((a,b)∈l)
theorem IU {l:List (Nat×Nat)}:Nt l a b=true↔(a,b)∈l:=by unfold Nt;exact decide_eq_true_iff
end Go.Mg
namespace Go.Mg
def abi (p:List Nat):Nat:=p.getLastD 0
def adW (n:Nat) (R:Nat->Nat->Bool) (l:List (List Nat)):List (List Nat):=l.flatMap fun p=>((List.range n).filter (R (abi p))).map fun y=>p++[y]
def adX (l:List Nat):Nat:=l.foldl max 0
def rnk (n:Nat) (R:Nat->Nat->Bool):Nat->Nat->Nat
 |0,_=>0
 |m+1,b=>adX (((List.range n).filter fun a=>R a b).map (rnk n R m))+1
def yB (n:Nat) (R:Nat->Nat->Bool) (b:Nat):Nat:=rnk n R (n+1) b
end Go.Mg
namespace Go.Mg
abbrev NP:=Nat×Nat
def IV (p q:NP):Prop:=p.1<q.1\/(p.1=q.1/\p.2<=q.2)
def bI (l:List NP) (i:Nat):NP:=l.getD i (0,0)
def eZ (l:List NP) (i:Nat):Bool:=decide (i=0)||decide (bI l i≠bI l (i -1))
def sC (l:List NP) (m:Nat):List NP:=((List.range m).filter (eZ l)).map (bI l)
theorem oG (l:List NP) (m:Nat):sC l (m+1)=if eZ l m=true then sC l m++[bI l m]else sC l m:=by
 unfold sC;rw[List.range_succ,List.filter_append,List.map_append]
 by_cases h:eZ l m=true
 ·rw[if_pos h];simp[h]
 ·rw[if_neg h];simp[h]
theorem sP {l:List NP}:∀m,(∀i<m,eZ l i=true)->m<=l.length->sC l m=l.take m
 |0,_,_=>by simp[sC]
 |m+1,h,hm=>by
  rw[oG,if_pos (h m (by omega)),sP m (fun i hi=>h i (by omega)) (by omega),List.take_succ_eq_append_getElem (by omega)]
  congr 1
  simp[bI,List.getD_eq_getElem?_getD,show m<l.length by omega]
theorem dH {l:List NP} {i:Nat} (h:i<l.length):bI l i=l[i]:=by simp[bI,List.getD_eq_getElem?_getD,h]
theorem IV.trans {p q r:NP} (h:IV p q) (k:IV q r):IV p r:=by unfold IV at*;omega
theorem IV.lt {p q:NP} (h:IV p q) (k:p≠q):wZ p q:=by
 obtain⟨a,b⟩:=p;obtain⟨c,d⟩:=q;unfold IV at h;unfold wZ;simp only[ne_eq,Prod.mk.injEq,not_and]at*;omega
theorem SU {p q r:NP} (h:IV p q) (k:wZ q r):wZ p r:=by unfold IV at h;unfold wZ at*;omega
theorem SV {l:List NP} {p:NP}:p∈sC l l.length↔p∈l:=by
 unfold sC;simp only[List.mem_map,List.mem_filter,List.mem_range]
 constructor
 ·rintro⟨i,⟨hi,_⟩,rfl⟩;rw[dH hi];exact List.getElem_mem _
 ·intro hp;obtain⟨i,hi,rfl⟩:=List.getElem_of_mem hp
  induction i using Nat.strongRecOn with
  |_ i ih=>
   by_cases hk:eZ l i=true
   ·exact⟨i,⟨hi,hk⟩,dH hi⟩
   ·unfold eZ at hk;simp only[Bool.or_eq_true,decide_eq_true_eq,not_or,Decidable.not_not]at hk;obtain⟨h0,h1⟩:=hk;rw[dH hi,dH (by omega)]at h1;obtain⟨j,hj,e⟩:=ih (i -1) (by omega) (by omega) (List.getElem_mem _);exact⟨j,hj,e.trans h1.symm⟩
theorem EW {l:List NP} (h:l.Pairwise IV):(sC l l.length).Pairwise wZ:=by
 unfold sC;rw[List.pairwise_map];have hr:((List.range l.length).filter (eZ l)).Pairwise fun i j=>(i<l.length/\i<j/\j<l.length/\eZ l j=true):=by
  have h1:((List.range l.length).filter (eZ l)).Pairwise (·<·):=List.pairwise_lt_range.filter _;refine h1.imp_of_mem fun{i j} hi hj hij=>?_;simp only[List.mem_filter,List.mem_range]at hi hj;exact⟨hi.1,hij,hj.1,hj.2⟩
 refine hr.imp fun{i j} ⟨hi,hij,hj,hk⟩=>?_;have hp:=List.pairwise_iff_getElem.1 h;unfold eZ at hk;simp only[Bool.or_eq_true,decide_eq_true_eq]at hk;have hk:bI l j≠bI l (j -1):=by rcases hk with hk|hk;omega;exact hk
 rw[dH hj,dH (by omega)]at hk;have h2:wZ l[j -1] l[j]:=(hp (j -1) j (by omega) hj (by omega)).lt (fun e=>hk e.symm);rw[dH hi,dH hj]
 by_cases e:i=j -1
 ·subst e;exact h2
 ·exact SU (hp i (j -1) hi (by omega) (by omega)) h2
variable {n:Nat}
theorem Nu {l l':List NP} (hp:l'.Perm l) (hs:l'.Pairwise IV) (h:∀p∈l,p.1<n/\p.2<n):sC l' l'.length=dp n (Nt l):=
 IT (EW hs) (yA _ _) fun p=>by
  rw[SV,jb,IU,hp.mem_iff];exact⟨fun hp=>⟨(h p hp).1,(h p hp).2,hp⟩,fun h=>h.2.2⟩
theorem xu.Nt {l:List NP} (h:∀p∈l,p.1<n/\p.2<n):xu n (Nt l):=fun a b k=>h _ (IU.1 k)
theorem EY (n:Nat) (R:Nat->Nat->Bool) (x b:Nat) (q:Nat->Bool) (hb:b<n):(ur n R x).countP (fun p=>decide (p.2=b)&&q p.1)=if(R x b&&q x)=true then 1 else 0:=by
 unfold ur;rw[List.countP_map,List.countP_filter];have:∀m,(List.range m).countP (fun y=>((fun p:NP=>decide (p.2=b)&&q p.1)∘fun y=>(x,y)) y&&R x y)=if b<m/\(R x b&&q x)=true then 1 else 0:=fun m=>by
  induction m with
  |zero=>simp
  |succ m ih=>
   rw[List.range_succ,List.countP_append,ih,List.countP_cons,List.countP_nil];simp only[Function.comp,Nat.zero_add]
   by_cases e:m=b
   ·subst e;simp only[Nat.lt_irrefl,false_and,if_false,Nat.lt_succ_self,true_and,decide_true,Bool.true_and,Nat.zero_add];rw[Bool.and_comm]
   ·have:(decide (m=b))=false:=by simp[e]
    simp only[this,Bool.false_and,Bool.false_eq_true,if_false,Nat.add_zero]
    by_cases h:b<m
    ·simp[h,show b<m+1 by omega]
    ·simp[h,show¬b<m+1 by omega]
 rw[this n];simp[hb]
theorem C6 (n:Nat) (R:Nat->Nat->Bool) (b:Nat) (q:Nat->Bool) (hb:b<n):(dp n R).countP (fun p=>decide (p.2=b)&&q p.1)=cn n fun a=>R a b&&q a:=by
 unfold dp;have:∀m,((List.range m).flatMap (ur n R)).countP (fun p=>decide (p.2=b)&&q p.1)=cn m fun a=>R a b&&q a:=fun m=>by
  induction m with
  |zero=>rfl
  |succ m ih=>rw[List.range_succ,List.flatMap_append,List.countP_append,ih,bG,List.flatMap_cons,List.flatMap_nil,List.append_nil,EY n R m b q hb]
 exact this n
theorem nt {p:Nat->Bool}:cn n p=0↔∀i<n,p i=false:=by
 constructor
 ·intro h i hi
  cases hp:p i with
  |false=>rfl
  |true=>have:=jM hi hp;omega
 ·intro h;rw[bP h,i7]
end Go.Mg

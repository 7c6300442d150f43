/- Lemmas of ours. No conditions. -/
import Derived.Test.YteeemadonfcliaaGreatDoorMgMem0
set_option linter.all false
namespace Go.Mg
def cn:Nat->(Nat->Bool)->Nat
 |0,_=>0
 |n+1,p=>cn n p+(if p n=true then 1 else 0)
theorem aX (n:Nat) (p:Nat->Bool):cn (n+1) p=cn n p+(if p n=true then 1 else 0):=rfl
variable {n k m:Nat} {p q:Nat->Bool}
theorem eU (h:∀i<n,p i=true->q i=true):cn n p<=cn n q:=by
 induction n with
 |zero=>exact Nat.le_refl _
 |succ n ih=>
  have:=ih fun i hi=>h i (by omega);have hn:=h n (by omega);rw[aX,aX]
  split
  ·rw[if_pos (hn ‹_›)];omega
  ·omega
theorem aZ (h:∀i<n,p i=q i):cn n p=cn n q:=
 Nat.le_antisymm (eU fun i hi e=>h i hi▸e) (eU fun i hi e=>(h i hi).symm▸e)
theorem iO (n:Nat) (p q:Nat->Bool):cn n p=cn n (fun i=>p i&&q i)+cn n (fun i=>p i&&!q i):=by
 induction n with
 |zero=>rfl
 |succ n ih=>
  rw[aX,aX,aX,ih]
  cases hp:p n<;>cases hq:q n<;>simp only[hp,hq,Bool.and_self,Bool.not_true,Bool.not_false,Bool.and_true,Bool.and_false,Bool.true_and,Bool.false_and,Bool.or_self,Bool.or_true,Bool.true_or,Bool.or_false,Bool.false_or,if_true,if_false,Bool.false_eq_true]<;>omega
theorem ye (n:Nat) (p:Nat->Bool):cn n p+cn n (fun i=>!p i)=n:=by
 induction n with
 |zero=>rfl
 |succ n ih=>
  rw[aX,aX]
  cases hp:p n<;>simp only[Bool.not_true,Bool.not_false,if_true,if_false,Bool.false_eq_true]<;>omega
theorem dw (n:Nat) (p:Nat->Bool):cn n p<=n:=by have:=ye n p;omega
theorem gq (n:Nat):cn n (fun _=>false)=0:=by
 induction n with
 |zero=>rfl
 |succ n ih=>rw[aX];simp[ih]
theorem Mn (n:Nat) (p q:Nat->Bool):cn n (fun i=>p i||q i)=cn n p+cn n (fun i=>q i&&!p i):=by
 induction n with
 |zero=>rfl
 |succ n ih=>
  rw[aX,aX,aX,ih]
  cases hp:p n<;>cases hq:q n<;>simp only[hp,hq,Bool.and_self,Bool.not_true,Bool.not_false,Bool.and_true,Bool.and_false,Bool.true_and,Bool.false_and,Bool.or_self,Bool.or_true,Bool.true_or,Bool.or_false,Bool.false_or,if_true,if_false,Bool.false_eq_true]<;>omega
theorem yf (n k:Nat) (hk:k<n):cn n (fun i=>decide (i=k))=1:=by
 induction n with
 |zero=>omega
 |succ n ih=>
  rw[aX]
  by_cases h:n=k
  ·subst h;rw[show cn n (fun i=>decide (i=n))=0 from by
    rw[aZ (q:=fun _=>false) fun i hi=>by simp;omega,gq]]
   simp
  ·rw[ih (by omega)];simp[h]
theorem fV (hk:k<n) (hp:p k=true):cn n p=cn n (fun i=>p i&&!decide (i=k))+1:=by
 rw[iO n p fun i=>decide (i=k)];rw[aZ (p:=fun i=>p i&&decide (i=k)) (q:=fun i=>decide (i=k)) fun i hi=>by
  by_cases h:i=k
  ·subst h;simp[hp]
  ·simp[h],yf n k hk]
 omega
theorem NZ (hk:k<n) (hp:p k=false) (hq:∀i<n,q i=(p i||decide (i=k))):cn n q=cn n p+1:=by
 rw[aZ hq,Mn];rw[aZ (p:=fun i=>decide (i=k)&&!p i) (q:=fun i=>decide (i=k)) fun i hi=>by
  by_cases h:i=k
  ·subst h;simp[hp]
  ·simp[h],yf n k hk]
theorem lY (f:Nat->Nat) (hf:∀i<n,p i=true->f i<m/\q (f i)=true) (hi:∀i<n,∀k<n,p i=true->p k=true->f i=f k->i=k):cn n p<=cn m q:=by
 induction n generalizing q with
 |zero=>exact Nat.zero_le _
 |succ n ih=>
  rw[aX]
  split
  ·rename_i h;obtain⟨h1,h2⟩:=hf n (by omega) h;rw[fV h1 h2];have:=ih (q:=fun j=>q j&&!decide (j=f n)) (fun i hin hp=>by
    obtain⟨a,b⟩:=hf i (by omega) hp;refine⟨a,?_⟩;have:f i≠f n:=fun e=>by have:=hi i (by omega) n (by omega) hp h e;omega
    simp[b,this]) (fun i QS k hk=>hi i (by omega) k (by omega))
   omega
  ·have:=ih (q:=q) (fun i QS=>hf i (by omega)) (fun i QS k hk=>hi i (by omega) k (by omega));omega
theorem Jm (f:Nat->Nat) (hf:∀i<n,p i=true->f i<m/\q (f i)=true) (hi:∀i<n,∀k<n,p i=true->p k=true->f i=f k->i=k) (hc:cn m q<=cn n p):
  ∀j<m,q j=true->∃i<n,p i=true/\f i=j:=by
 intro j hj hq;apply Classical.byContradiction;intro hno;have:=lY (n:=n) (m:=m) (p:=p) (q:=fun k=>q k&&!decide (k=j)) f (fun i hin hp=>by
  obtain⟨a,b⟩:=hf i hin hp;refine⟨a,?_⟩;have:f i≠j:=fun e=>hno ⟨i,hin,hp,e⟩;simp[b,this]) hi
 rw[fV hj hq]at hc;omega
theorem yg (h:∀i<n,p i=true->q i=true) (hc:cn n q<=cn n p):∀i<n,q i=true->p i=true:=by
 intro i hi hq;obtain⟨k,_,hp,e⟩:=Jm id (fun i hi hp=>⟨hi,h i hi hp⟩) (fun i _ k _ _ _ e=>e) hc i hi hq
 cases e
 exact hp
section
variable {n N:Nat} {E:Nat->Nat->Prop} {L:Nat->Int} {A B:Nat->Bool}
structure Mt (n N:Nat) (E:Nat->Nat->Prop) (L:Nat->Int):Prop where
 ed:∀i<n,L i=-1\/∃j<N,L i=(j:Int)/\E i j
 inj:∀i<n,∀k<n,L i=L k->0<=L i->i=k
def mt (L:Nat->Int) (i:Nat):Bool:=decide (0<=L i)
def RZ (n N:Nat) (E:Nat->Nat->Prop) (A B:Nat->Bool):Prop:=∀i<n,∀j<N,E i j->A i=true\/B j=true
theorem Mt.at (h:Mt n N E L) {i:Nat} (hi:i<n) (hp:0<=L i):(L i).toNat<N/\E i (L i).toNat:=by
 rcases h.ed i hi with e|⟨j,hj,e,he⟩
 ·omega
 ·rw[e];exact⟨hj,he⟩
theorem Mt.part (hM:Mt n N E L) (hC:RZ n N E A B):cn n (fun i=>mt L i&&!A i)<=cn N B:=by
 refine lY (fun i=>(L i).toNat) (fun i hi h=>?_) (fun i hi k hk h1 h2 e=>?_)
 ·simp only[mt,Bool.and_eq_true,decide_eq_true_eq,Bool.not_eq_true']at h;obtain⟨h1,h2⟩:=hM.at hi h.1;refine⟨h1,?_⟩;rcases hC i hi _ h1 h2 with a|b
  ·rw[h.2]at a;cases a
  ·exact b
 ·simp only[mt,Bool.and_eq_true,decide_eq_true_eq]at h1 h2;exact hM.inj i hi k hk (by omega) h1.1
theorem yd (hM:Mt n N E L) (hC:RZ n N E A B):cn n (mt L)<=cn n A+cn N B:=by
 rw[iO n (mt L) A];have h1:cn n (fun i=>mt L i&&A i)<=cn n A:=eU fun i _ h=>by simp at h;exact h.2
 have h2:=hM.part hC;omega
theorem yh (hM:Mt n N E L) (hC:RZ n N E A B) (h:cn n A+cn N B<=cn n (mt L)):∀i<n,A i=true->0<=L i:=by
 have h2:=hM.part hC;have h1:cn n (fun i=>mt L i&&A i)<=cn n A:=eU fun i _ h=>by simp at h;exact h.2
 rw[iO n (mt L) A]at h;intro i hi ha;have:=yg (p:=fun i=>mt L i&&A i) (q:=A) (fun i _ h=>by simp at h;exact h.2) (by omega) i hi ha;simp[mt]at this;exact this.1
def Mx (n N:Nat) (E:Nat->Nat->Prop) (L:Nat->Int):Prop:=Mt n N E L/\∃A B,RZ n N E A B/\cn n A+cn N B<=cn n (mt L)
theorem Mx.max (h:Mx n N E L) {L':Nat->Int} (h':Mt n N E L'):cn n (mt L')<=cn n (mt L):=by
 obtain⟨_,A,B,hC,hc⟩:=h;exact Nat.le_trans (yd h' hC) hc
theorem Mx.R0 (h:Mx n N E L) {L':Nat->Int} (h':Mt n N E L') (hc:cn n (mt L)<=cn n (mt L')):Mx n N E L':=by
 obtain⟨_,A,B,hC,UM⟩:=h;exact⟨h',A,B,hC,by omega⟩
def flip (L:Nat->Int) (i k:Nat):Nat->Int:=fun l=>if l=i then L k else if l=k then-1 else L l
def Grown (n N:Nat) (E:Nat->Nat->Prop) (L:Nat->Int):List Nat->Prop
 |[]=>True
 |k::l=>Grown n N E L l/\k<n/\k∉l/\(L k=-1\/∃i∈l,∃j<N,E i j/\L k=(j:Int))
theorem Grown.lt {l:List Nat} (h:Grown n N E L l):∀i∈l,i<n:=by
 induction l with
 |nil=>intro i hi;cases hi
 |cons k l ih=>
  intro i hi;rcases List.mem_cons.1 hi with rfl|hi
  ·exact h.2.1
  ·exact ih h.1 i hi
theorem Grown.free {l:List Nat} (hg:Grown n N E L l) (hM:Mt n N E L):∀i∈l,∃L',Mt n N E L'/\cn n (mt L')=cn n (mt L)/\L' i=-1/\(∀k<n,k∉l->L' k=L k)/\∀k<n,0<=L' k->∃k'<n,L k'=L' k:=by
 induction l with
 |nil=>intro i hi;cases hi
 |cons k l ih=>
  obtain⟨WH,hk,hkl,hr⟩:=hg;intro i hi;rcases List.mem_cons.1 hi with rfl|hi
  ·rcases hr with h|⟨p,hp,j,hj,he,hL⟩
   ·exact⟨L,hM,rfl,h,fun _ _ _=>rfl,fun k hk _=>⟨k,hk,rfl⟩⟩
   ·obtain⟨L',EZ,hc,hf,hsame,him⟩:=ih WH p hp;have hpn:=WH.lt p hp;have hne:p≠i:=fun e=>hkl (e▸hp);have AE:L' i=(j:Int):=by rw[hsame i hk hkl,hL]
    refine⟨flip L' p i,⟨fun a ha=>?_,fun a ha b hb e h0=>?_⟩,?_,?_,fun a ha hal=>?_,fun a ha h0=>?_⟩
    ·unfold flip
     by_cases h1:a=p
     ·subst h1;rw[if_pos rfl];exact Or.inr ⟨j,hj,AE,he⟩
     ·rw[if_neg h1]
      by_cases h2:a=i
      ·rw[if_pos h2];exact Or.inl rfl
      ·rw[if_neg h2];exact EZ.ed a ha
    ·unfold flip at e h0
     by_cases h1:a=p
     ·by_cases h2:b=p
      ·omega
      ·rw[if_pos h1,if_neg h2]at e
       by_cases h3:b=i
       ·rw[if_pos h3]at e;omega
       ·rw[if_neg h3]at e;have:=EZ.inj i hk b hb e (by omega);omega
     ·rw[if_neg h1]at e h0
      by_cases h4:a=i
      ·rw[if_pos h4]at h0;omega
      ·rw[if_neg h4]at e h0
       by_cases h2:b=p
       ·rw[if_pos h2]at e;have:=EZ.inj a ha i hk e h0;omega
       ·rw[if_neg h2]at e
        by_cases h3:b=i
        ·rw[if_pos h3]at e;omega
        ·rw[if_neg h3]at e;exact EZ.inj a ha b hb e h0
    ·rw[<-hc];have e1:=fV (n:=n) (k:=i) (p:=mt L') hk (by simp[mt,AE]);have e2:=fV (n:=n) (k:=p) (p:=mt (flip L' p i)) hpn (by simp[mt,flip,AE]);rw[e1,e2]
     congr 1
     refine aZ fun a ha=>?_;unfold mt flip
     by_cases h1:a=p
     ·subst h1;simp[hf]
     ·by_cases h2:a=i
      ·subst h2;simp[h1]
      ·simp[h1,h2]
    ·unfold flip;rw[if_neg (Ne.symm hne),if_pos rfl]
    ·unfold flip;have h1:a≠p:=fun e=>hal (by rw[e];exact List.mem_cons_of_mem _ hp);have h2:a≠i:=fun e=>hal (by rw[e];exact List.mem_cons_self ..);rw[if_neg h1,if_neg h2];exact hsame a ha fun h=>hal (List.mem_cons_of_mem _ h)
    ·unfold flip at h0⊢
     by_cases h1:a=p
     ·rw[if_pos h1]at h0⊢;exact him i hk h0
     ·rw[if_neg h1]at h0⊢
      by_cases h2:a=i
      ·rw[if_pos h2]at h0;omega
      ·rw[if_neg h2]at h0⊢;exact him a ha h0
  ·obtain⟨L',EZ,hc,hf,hsame,him⟩:=ih WH i hi;exact⟨L',EZ,hc,hf,fun a ha hal=>hsame a ha fun h=>hal (List.mem_cons_of_mem _ h),him⟩
structure iP (n N:Nat) (E:Nat->Nat->Prop) (L:Nat->Int) (l:List Nat):Prop where
 gr:Grown n N E L l
 un:∀i<n,L i=-1->i∈l
 cl:∀i∈l,∀j<N,E i j->∀k<n,L k=(j:Int)->k∈l
open Classical in
noncomputable def E0 (N:Nat) (E:Nat->Nat->Prop) (l:List Nat) (j:Nat):Bool:=decide (∃i∈l,E i j)
open Classical in
theorem kE {l:List Nat} {j:Nat}:E0 N E l j=true↔∃i∈l,E i j:=by unfold E0;exact decide_eq_true_iff
theorem iP.nb {l:List Nat} (h:iP n N E L l) (hX:Mx n N E L):∀i∈l,∀j<N,E i j->∃k<n,L k=(j:Int):=by
 intro i hi j hj he;obtain⟨L',EZ,hc,hf,hsame,him⟩:=h.gr.free hX.1 i hi;have hin:=h.gr.lt i hi;apply Classical.byContradiction;intro hno;have hnj:∀k<n,L' k≠(j:Int):=fun k hk e=>by
  obtain⟨k',D1,e'⟩:=him k hk (by omega);exact hno ⟨k',D1,by omega⟩
 have hM2:Mt n N E (fun l=>if l=i then(j:Int)else L' l):=by
  refine⟨fun a ha=>?_,fun a ha b hb e h0=>?_⟩
  ·by_cases h1:a=i
   ·subst h1;rw[if_pos rfl];exact Or.inr ⟨j,hj,rfl,he⟩
   ·rw[if_neg h1];exact EZ.ed a ha
  ·by_cases h1:a=i
   ·by_cases h2:b=i
    ·omega
    ·rw[if_pos h1,if_neg h2]at e;exact absurd e.symm (hnj b hb)
   ·rw[if_neg h1]at e h0
    by_cases h2:b=i
    ·rw[if_pos h2]at e;exact absurd e (hnj a ha)
    ·rw[if_neg h2]at e;exact EZ.inj a ha b hb e h0
 have h2:=hX.max hM2;have h3:=NZ (n:=n) (k:=i) (p:=mt L') (q:=mt fun l=>if l=i then(j:Int)else L' l) hin (by simp[mt,hf]) (fun a ha=>by
  unfold mt
  by_cases h1:a=i
  ·subst h1;simp
  ·simp[h1])
 omega
theorem iP.cov {l:List Nat} (h:iP n N E L l):RZ n N E (fun i=>!decide (i∈l)) (E0 N E l):=by
 intro i hi j hj he
 by_cases hl:i∈l
 ·refine Or.inr ?_;exact kE.2 ⟨i,hl,he⟩
 ·exact Or.inl (by simp[hl])
theorem iP.small {l:List Nat} (h:iP n N E L l) (hX:Mx n N E L):cn n (fun i=>!decide (i∈l))+cn N (E0 N E l)=cn n (mt L):=by
 refine Nat.le_antisymm ?_ (yd hX.1 h.cov);rw[iO n (mt L) fun i=>!decide (i∈l)];have h1:cn n (fun i=>!decide (i∈l))<=cn n fun i=>mt L i&&!decide (i∈l):=eU fun i hi e=>by
  simp only[Bool.not_eq_true',decide_eq_false_iff_not]at e;have:L i≠-1:=fun e'=>e (h.un i hi e');rcases hX.1.ed i hi with h'|⟨j,_,h',_⟩
  ·exact absurd h' this
  ·simp[mt,h',e]
 have vY:∀j,∃k,j<N->E0 N E l j=true->k<n/\L k=(j:Int):=by
  intro j
  by_cases hj:j<N/\E0 N E l j=true
  ·obtain⟨hj,hb⟩:=hj;obtain⟨i,hi,he⟩:=kE.1 hb;obtain⟨k,hk,e⟩:=h.nb hX i hi j hj he;exact⟨k,fun _ _=>⟨hk,e⟩⟩
  ·exact⟨0,fun a b=>absurd ⟨a,b⟩ hj⟩
 obtain⟨f,hf⟩:=Classical.axiomOfChoice vY;have h2:cn N (E0 N E l)<=cn n fun i=>mt L i&&!(!decide (i∈l)):=by
  refine lY f (fun j hj hb=>?_) (fun j hj k hk h1 h2 e=>?_)
  ·obtain⟨a,b⟩:=hf j hj hb;refine⟨a,?_⟩;obtain⟨i,hi,he⟩:=kE.1 hb;have:=h.cl i hi j hj he _ a b;simp[mt,b,this]
  ·have e1:=(hf j hj h1).2;have e2:=(hf k hk h2).2;rw[e,e2]at e1;omega
 omega
theorem iP.iff {l:List Nat} (h:iP n N E L l) (hX:Mx n N E L) {i:Nat} (hi:i<n):i∈l↔∃L',Mx n N E L'/\L' i=-1:=by
 constructor
 ·intro hl;obtain⟨L',EZ,hc,hf,_⟩:=h.gr.free hX.1 i hl;exact⟨L',hX.R0 EZ (by omega),hf⟩
 ·intro ⟨L',hX',hf⟩;apply Classical.byContradiction;intro hl;have h1:=h.small hX;have h2:=hX'.max hX.1;have h3:=yh hX'.1 h.cov (by omega) i hi (by simp[hl]);omega
end
end Go.Mg
namespace Go.Mg
structure cN where
 L:List Int
 R:List Int
 Se:List Bool
def dm (rec:cN->Nat->Bool×cN) (F:List Bool) (i:Nat):List Nat->cN->Bool×cN
 |[],s=>(false,s)
 |j::l,s=>
  if(s.Se.getD j true||F.getD j true)=true then dm rec F i l s else
  if s.R.getD j (-1)<0 then(true,⟨s.L.set i j,s.R.set j i,s.Se.set j true⟩)else
  if(rec ⟨s.L,s.R,s.Se.set j true⟩ (s.R.getD j (-1)).toNat).1=true then
   (true,⟨(rec ⟨s.L,s.R,s.Se.set j true⟩ (s.R.getD j (-1)).toNat).2.L.set i j,(rec ⟨s.L,s.R,s.Se.set j true⟩ (s.R.getD j (-1)).toNat).2.R.set j i,(rec ⟨s.L,s.R,s.Se.set j true⟩ (s.R.getD j (-1)).toNat).2.Se⟩)
  else dm rec F i l (rec ⟨s.L,s.R,s.Se.set j true⟩ (s.R.getD j (-1)).toNat).2
def cr (g:List (List Nat)) (F:List Bool):Nat->cN->Nat->Bool×cN
 |0,s,_=>(false,s)
 |m+1,s,i=>dm (cr g F m) F i (g.getD i []) s
def gi (l:List Int) (i:Nat):Int:=l.getD i (-1)
def bu (l:List Bool) (i:Nat):Bool:=l.getD i true
def Eg (g:List (List Nat)) (i j:Nat):Prop:=j∈g.getD i []
theorem gY (l:List Int) (i:Nat) (x:Int) (k:Nat):gi (l.set i x) k=if k=i/\i<l.length then x else gi l k:=by
 unfold gi;rw[List.getD_eq_getElem?_getD,List.getD_eq_getElem?_getD,List.getElem?_set]
 by_cases h:i=k
 ·subst h
  by_cases hl:i<l.length
  ·simp[hl]
  ·simp[hl,List.getElem?_eq_none (Nat.le_of_not_lt hl)]
 ·simp[h,Ne.symm h]
theorem lZ (l:List Bool) (i:Nat) (x:Bool) (k:Nat):bu (l.set i x) k=if k=i/\i<l.length then x else bu l k:=by
 unfold bu;rw[List.getD_eq_getElem?_getD,List.getD_eq_getElem?_getD,List.getElem?_set]
 by_cases h:i=k
 ·subst h
  by_cases hl:i<l.length
  ·simp[hl]
  ·simp[hl,List.getElem?_eq_none (Nat.le_of_not_lt hl)]
 ·simp[h,Ne.symm h]
def j5 (Se:List Bool):Nat:=cn Se.length fun j=>!bu Se j
variable {a F:List Bool} {n N:Nat} {E:Nat->Nat->Prop}
theorem vZ {b:List Bool} (hl:b.length=a.length) (h:∀j,bu a j=true->bu b j=true):j5 b<=j5 a:=by
 unfold j5;rw[hl];refine eU fun j _ hj=>?_
 cases hx:bu a j with
 |false=>rfl
 |true=>rw[h j hx]at hj;cases hj
theorem sP {j:Nat} (hj:j<a.length) (h:bu a j=false):j5 (a.set j true)<j5 a:=by
 unfold j5;rw[List.length_set,fV (p:=fun j=>!bu a j) (k:=j) hj (by simp only[h];rfl)];refine Nat.lt_succ_of_le (eU fun k _ hk=>?_);rw[lZ]at hk
 by_cases e:k=j
 ·subst e;rw[if_pos ⟨rfl,hj⟩]at hk;cases hk
 ·rw[if_neg (fun h=>e h.1)]at hk;simp[hk,e]
structure Ec (n N:Nat) (s:cN):Prop where
 L:s.L.length=n
 R:s.R.length=N
 S:s.Se.length=N
structure Inv (n N:Nat) (E:Nat->Nat->Prop) (L R:Nat->Int):Prop where
 l:∀i<n,L i=-1\/∃j<N,L i=(j:Int)/\E i j/\R j=(i:Int)
 r:∀j<N,R j=-1\/∃i<n,R j=(i:Int)/\L i=(j:Int)
theorem Inv.mt {L R:Nat->Int} (h:Inv n N E L R):Mt n N E L:=by
 refine⟨fun i hi=>?_,fun i hi k hk e h0=>?_⟩
 ·rcases h.l i hi with a|⟨j,hj,a,b,_⟩
  ·exact Or.inl a
  ·exact Or.inr ⟨j,hj,a,b⟩
 ·rcases h.l i hi with a|⟨j,hj,a,b,c⟩
  ·omega
  ·rcases h.l k hk with a'|⟨j',sQ,a',b',c'⟩
   ·omega
   ·have:j=j':=by omega
    subst this;omega
structure Cz (n N:Nat) (E:Nat->Nat->Prop) (F:List Bool) (s s':cN):Prop where
 L:s'.L=s.L
 R:s'.R=s.R
 len:s'.Se.length=s.Se.length
 mono:∀j,bu s.Se j=true->bu s'.Se j=true
 nw:∀j<N,bu s'.Se j=true->bu s.Se j=false->bu F j=false/\∃k<n,gi s.R j=(k:Int)/\∀j'<N,E k j'->bu s'.Se j'=true\/bu F j'=true
structure E1 (n N:Nat) (E:Nat->Nat->Prop) (F:List Bool) (i:Nat) (s s':cN):Prop where
 len:Ec n N s'
 AW:∀l<n,l≠i->(gi s.L l=-1\/∃j:Nat,gi s.L l=(j:Int)/\(bu s.Se j=true\/bu F j=true))->gi s'.L l=gi s.L l
 Mo:∀j<N,(bu s.Se j=true\/bu F j=true)->gi s'.R j=gi s.R j
 at_:∃j<N,gi s'.L i=(j:Int)/\E i j/\bu s.Se j=false/\bu F j=false
 sm:∀l<n,l≠i->(0<=gi s'.L l↔0<=gi s.L l)
 l:∀l<n,gi s'.L l=-1\/∃j<N,gi s'.L l=(j:Int)/\E l j/\gi s'.R j=(l:Int)
 r:∀j<N,(j:Int)≠gi s.L i->gi s'.R j=-1\/∃k<n,gi s'.R j=(k:Int)/\gi s'.L k=(j:Int)
theorem Jn {m:Nat} {rec:cN->Nat->Bool×cN} {i:Nat} (hrec:∀(s:cN) (k:Nat),j5 s.Se<m->Ec n N s->Inv n N E (gi s.L) (gi s.R)->k<n->(∃j<N,gi s.L k=(j:Int)/\bu s.Se j=true)→
  ((rec s k).1=true->E1 n N E F k s (rec s k).2)∧
  ((rec s k).1=false->Cz n N E F s (rec s k).2/\∀j<N,E k j->bu (rec s k).2.Se j=true\/bu F j=true))
  (l:List Nat) (hl:∀j∈l,j<N/\E i j) (hi:i<n) (s:cN) (hu:j5 s.Se<=m) (hs:Ec n N s) (hI:Inv n N E (gi s.L) (gi s.R)) (h0:gi s.L i=-1\/∃j<N,gi s.L i=(j:Int)/\bu s.Se j=true):
  ((dm rec F i l s).1=true->E1 n N E F i s (dm rec F i l s).2)∧
  ((dm rec F i l s).1=false->Cz n N E F s (dm rec F i l s).2/\∀j∈l,bu (dm rec F i l s).2.Se j=true\/bu F j=true):=by
 induction l generalizing s with
 |nil=>
  refine⟨fun h=>by simp[dm]at h,fun _=>⟨⟨rfl,rfl,rfl,fun _ h=>h,fun j _ h h'=>?_⟩,fun j hj=>by cases hj⟩⟩;rw[dm]at h;rw[h]at h';cases h'
 |cons j l ih=>
  obtain⟨Ed,hE⟩:=hl j (List.mem_cons_self ..);have R1:∀j∈l,j<N/\E i j:=fun a ha=>hl a (List.mem_cons_of_mem _ ha);unfold dm
  by_cases Ee:(s.Se.getD j true||F.getD j true)=true
  ·rw[if_pos Ee];obtain⟨a,b⟩:=ih R1 s hu hs hI h0;refine⟨a,fun h=>?_⟩;obtain⟨b1,b2⟩:=b h;refine⟨b1,fun k hk=>?_⟩;rcases List.mem_cons.1 hk with rfl|hk
   ·rw[Bool.or_eq_true]at Ee;rcases Ee with h'|h'
    ·exact Or.inl (b1.mono k h')
    ·exact Or.inr h'
   ·exact b2 k hk
  ·rw[if_neg Ee];have yi:bu s.Se j=false:=by unfold bu;revert Ee;cases s.Se.getD j true<;>simp
   have CA:bu F j=false:=by unfold bu;revert Ee;cases F.getD j true<;>simp
   have N0:∀k,bu (s.Se.set j true) k=if k=j then true else bu s.Se k:=fun k=>by
    rw[lZ,hs.S];simp[Ed]
   have h0j:gi s.L i≠(j:Int):=by
    rcases h0 with h|⟨k,_,h,h'⟩
    ·omega
    ·intro e;have:k=j:=by omega
     subst this;rw[yi]at h';cases h'
   by_cases hfr:s.R.getD j (-1)<0
   ·rw[if_pos hfr];refine⟨fun _=>?_,fun h=>by simp at h⟩;have E2:gi s.R j=-1:=by
     rcases hI.r j Ed with h|⟨k,_,h,_⟩
     ·exact h
     ·unfold gi at h;omega
    have CB:∀k,gi (s.L.set i (j:Int)) k=if k=i then(j:Int)else gi s.L k:=fun k=>by rw[gY,hs.L];simp[hi]
    have N1:∀k,gi (s.R.set j (i:Int)) k=if k=j then(i:Int)else gi s.R k:=fun k=>by rw[gY,hs.R];simp[Ed]
    refine⟨⟨by simp[hs.L],by simp[hs.R],by simp[hs.S]⟩,fun a ha hne _=>by simp only[CB,if_neg hne],fun a ha AX=>?_,⟨j,Ed,by simp[CB],hE,yi,CA⟩,fun a ha hne=>by simp only[CB,if_neg hne],fun a ha=>?_,fun a ha hne=>?_⟩
    ·have:a≠j:=fun e=>by subst e;rw[yi,CA]at AX;simp at AX
     simp only[N1,if_neg this]
    ·simp only[CB,N1]
     by_cases h1:a=i
     ·subst h1;rw[if_pos rfl];exact Or.inr ⟨j,Ed,rfl,hE,by simp⟩
     ·rw[if_neg h1];rcases hI.l a ha with h|⟨b,hb,e1,e2,e3⟩
      ·exact Or.inl h
      ·refine Or.inr ⟨b,hb,e1,e2,?_⟩;have:b≠j:=fun e=>by subst e;omega
       rw[if_neg this];exact e3
    ·simp only[CB,N1]
     by_cases h1:a=j
     ·subst h1;rw[if_pos rfl];exact Or.inr ⟨i,hi,rfl,by simp⟩
     ·rw[if_neg h1];rcases hI.r a ha with h|⟨b,hb,e1,e2⟩
      ·exact Or.inl h
      ·refine Or.inr ⟨b,hb,e1,?_⟩;have:b≠i:=fun e=>by subst e;omega
       rw[if_neg this];exact e2
   ·rw[if_neg hfr];obtain⟨k,hk,QT,AY⟩:∃k<n,gi s.R j=(k:Int)/\gi s.L k=(j:Int):=by
     rcases hI.r j Ed with h|h
     ·unfold gi at h;omega
     ·exact h
    have hkN:(s.R.getD j (-1)).toNat=k:=by unfold gi at QT;omega
    have hki:k≠i:=fun e=>by subst e;exact h0j AY
    rw[hkN];have hs1:Ec n N ⟨s.L,s.R,s.Se.set j true⟩:=⟨hs.L,hs.R,by simp[hs.S]⟩
    obtain⟨hY,hN⟩:=hrec ⟨s.L,s.R,s.Se.set j true⟩ k (Nat.lt_of_lt_of_le (sP (by rw[hs.S];exact Ed) yi) hu) hs1 hI hk ⟨j,Ed,AY,by simp[N0]⟩;generalize rec ⟨s.L,s.R,s.Se.set j true⟩ k=q at hY hN⊢;obtain⟨b,s2⟩:=q;simp only at hY hN⊢
    cases b with
    |true=>
     rw[if_pos rfl];refine⟨fun _=>?_,fun h=>by simp at h⟩;have y:=hY rfl;have CB:∀a,gi (s2.L.set i (j:Int)) a=if a=i then(j:Int)else gi s2.L a:=fun a=>by rw[gY,y.len.L];simp[hi]
     have N1:∀a,gi (s2.R.set j (i:Int)) a=if a=j then(i:Int)else gi s2.R a:=fun a=>by rw[gY,y.len.R];simp[Ed]
     have kL:=y.AW;have kR:=y.Mo;have yr:=y.r;simp only[N0]at kL kR
     -- nobody but the one who finds has j
     have qS:∀a<n,gi s2.L a≠(j:Int):=fun a ha e=>by
      by_cases h1:a=k
      ·subst h1;obtain⟨b,hb,e1,_,e3,_⟩:=y.at_;have:b=j:=by omega
       subst this;simp only[N0,if_pos rfl]at e3
       cases e3
      ·rcases y.l a ha with h|⟨b,hb,e1,_,e3⟩
       ·omega
       ·have:b=j:=by omega
        subst this;have:=kR b Ed (Or.inl (by simp));omega
     -- i has what it had
     have ma:gi s2.L i=gi s.L i:=kL i hi (Ne.symm hki) (by
      rcases h0 with h|⟨a,_,h,h'⟩
      ·exact Or.inl h
      ·exact Or.inr ⟨a,h,Or.inl (by by_cases e:a=j<;>simp[e,h'])⟩)
     refine⟨⟨by simp[y.len.L],by simp[y.len.R],y.len.S⟩,fun a ha hne h=>?_,fun a ha AX=>?_,⟨j,Ed,by simp[CB],hE,yi,CA⟩,fun a ha hne=>?_,fun a ha=>?_,fun a ha hne=>?_⟩
     ·simp only[CB,if_neg hne]
      by_cases h1:a=k
      ·subst h1;rcases h with h|⟨b,hb,h'⟩
       ·omega
       ·have:b=j:=by omega
        subst this;rw[yi,CA]at h';simp at h'
      ·refine kL a ha h1 ?_;rcases h with h|⟨b,hb,h'⟩
       ·exact Or.inl h
       ·refine Or.inr ⟨b,hb,?_⟩;rcases h' with h'|h'
        ·exact Or.inl (by by_cases e:b=j<;>simp[e,h'])
        ·exact Or.inr h'
     ·have h1:a≠j:=fun e=>by subst e;rw[yi,CA]at AX;simp at AX
      simp only[N1,if_neg h1];refine kR a ha ?_;rw[if_neg h1];exact AX
     ·simp only[CB,if_neg hne]
      by_cases h1:a=k
      ·subst h1;obtain⟨b,hb,e1,_⟩:=y.at_;omega
      ·exact y.sm a ha h1
     ·simp only[CB,N1]
      by_cases h1:a=i
      ·subst h1;rw[if_pos rfl];exact Or.inr ⟨j,Ed,rfl,hE,by simp⟩
      ·rw[if_neg h1];rcases y.l a ha with h|⟨b,hb,e1,e2,e3⟩
       ·exact Or.inl h
       ·refine Or.inr ⟨b,hb,e1,e2,?_⟩;have:b≠j:=fun e=>by subst e;exact qS a ha e1
        rw[if_neg this];exact e3
     ·simp only[CB,N1]
      by_cases h1:a=j
      ·subst h1;rw[if_pos rfl];exact Or.inr ⟨i,hi,rfl,by simp⟩
      ·rw[if_neg h1];rcases yr a ha (by simp only;omega)with h|⟨b,hb,e1,e2⟩
       ·exact Or.inl h
       ·refine Or.inr ⟨b,hb,e1,?_⟩;have:b≠i:=fun e=>by subst e;rw[ma]at e2;exact hne e2.symm
        rw[if_neg this];exact e2
    |false=>
     rw[if_neg (by simp)];obtain⟨hn,hc⟩:=hN rfl;obtain⟨nL,nR,Jo,nmono,nnw⟩:=hn;simp only[N0]at nL nR Jo nmono nnw;have hs2:Ec n N s2:=⟨by rw[nL,hs.L],by rw[nR,hs.R],by rw[Jo];simp[hs.S]⟩
     have mono2:∀a,bu s.Se a=true->bu s2.Se a=true:=fun a ha=>nmono a (by by_cases e:a=j<;>simp[e,ha]);have qS:bu s2.Se j=true:=nmono j (by simp);obtain⟨a,b⟩:=ih R1 s2 (Nat.le_trans (vZ (by rw[Jo];simp) mono2) hu) hs2 (by rw[nL,nR];exact hI) (by
      rw[nL];rcases h0 with h|⟨a,h1,h2,h3⟩
      ·exact Or.inl h
      ·exact Or.inr ⟨a,h1,h2,mono2 a h3⟩)
     refine⟨fun h=>?_,fun h=>?_⟩
     ·have y:=a h;refine⟨y.len,fun c jL hne hh=>?_,fun c jL hh=>?_,?_,fun c jL hne=>?_,y.l,fun c jL hne=>?_⟩
      ·have:=y.AW c jL hne (by
        rw[nL];rcases hh with hh|⟨d,hd,hh⟩
        ·exact Or.inl hh
        ·exact Or.inr ⟨d,hd,hh.imp (mono2 d) id⟩)
       rw[this,nL]
      ·rw[y.Mo c jL (hh.imp (mono2 c) id),nR]
      ·obtain⟨d,hd,e1,e2,e3,e4⟩:=y.at_;refine⟨d,hd,e1,e2,?_,e4⟩
       cases hx:bu s.Se d with
       |false=>rfl
       |true=>rw[mono2 d hx]at e3;cases e3
      ·rw[y.sm c jL hne,nL]
      ·exact y.r c jL (by rw[nL];exact hne)
     ·obtain⟨b1,b2⟩:=b h;refine⟨⟨b1.L.trans nL,b1.R.trans nR,by rw[b1.len,Jo];simp,fun c jL=>b1.mono c (mono2 c jL),fun c hcN h1 h2=>?_⟩,fun c jL=>?_⟩
      ·cases hx:bu s2.Se c with
       |false=>
        obtain⟨d1,d,hd,e1,e2⟩:=b1.nw c hcN h1 hx;exact⟨d1,d,hd,by rw[<-nR];exact e1,e2⟩
       |true=>
        by_cases UN:c=j
        ·subst UN;exact⟨CA,k,hk,QT,fun j' sQ he=>(hc j' sQ he).imp (b1.mono j') id⟩
        ·obtain⟨d1,d,hd,e1,e2⟩:=nnw c hcN hx (by rw[if_neg UN];exact h2);exact⟨d1,d,hd,e1,fun j' sQ he=>(e2 j' sQ he).imp (b1.mono j') id⟩
      ·rcases List.mem_cons.1 jL with rfl|jL
       ·exact Or.inl (b1.mono c qS)
       ·exact b2 c jL
theorem sT {g:List (List Nat)} (hg:∀i,∀j∈g.getD i [],j<N) (m:Nat):∀(s:cN) (i:Nat),j5 s.Se<m->Ec n N s->Inv n N (Eg g) (gi s.L) (gi s.R)->i<n->(gi s.L i=-1\/∃j<N,gi s.L i=(j:Int)/\bu s.Se j=true)→
  ((cr g F m s i).1=true->E1 n N (Eg g) F i s (cr g F m s i).2)∧
  ((cr g F m s i).1=false->Cz n N (Eg g) F s (cr g F m s i).2/\∀j<N,Eg g i j->bu (cr g F m s i).2.Se j=true\/bu F j=true):=by
 induction m with
 |zero=>intro s i h;omega
 |succ m ih=>
  intro s i hu hs hI hi h0;unfold cr;obtain⟨a,b⟩:=Jn (E:=Eg g) (fun s k hu hs hI hk ⟨j,hj,e,e'⟩=>ih s k hu hs hI hk (Or.inr ⟨j,hj,e,e'⟩)) (g.getD i []) (fun j hj=>⟨hg i j hj,hj⟩) hi s (by omega) hs hI h0;exact⟨a,fun h=>⟨(b h).1,fun j hj he=>(b h).2 j he⟩⟩
end Go.Mg
namespace Go.Mg
variable {n N k:Nat} {E:Nat->Nat->Prop} {L R:List Int} {s':cN}
theorem Mt.sub {m:Nat} {L:Nat->Int} (h:Mt n N E L) (hm:m<=n):Mt m N E L:=
 ⟨fun i hi=>h.ed i (by omega),fun i hi k hk=>h.inj i (by omega) k (by omega)⟩
theorem oI (N j:Nat) (hj:j<N):bu (List.replicate N false) j=false:=by
 unfold bu;rw[List.getD_eq_getElem?_getD,List.getElem?_replicate,if_pos hj];rfl
theorem yj (n i:Nat):gi (List.replicate n (-1)) i=-1:=by
 unfold gi;rw[List.getD_eq_getElem?_getD,List.getElem?_replicate];split<;>rfl
theorem AZ (N:Nat):j5 (List.replicate N false)<=N:=by
 unfold j5;have:=dw (List.replicate N false).length (fun j=>!bu (List.replicate N false) j);simpa using this
structure k7 (n N:Nat) (E:Nat->Nat->Prop) (k:Nat) (L R:List Int):Prop where
 lL:L.length=n
 lR:R.length=N
 inv:Inv n N E (gi L) (gi R)
 out:∀i,k<=i->i<n->gi L i=-1
 mx:Mx k N E (gi L)
theorem k7.start (n N:Nat) (E:Nat->Nat->Prop):k7 n N E 0 (List.replicate n (-1)) (List.replicate N (-1)):=by
 refine⟨by simp,by simp,⟨fun i _=>.inl (yj _ _),fun j _=>.inl (yj _ _)⟩,fun i _ _=>yj _ _,⟨fun i hi=>absurd hi (by omega),fun i hi=>absurd hi (by omega)⟩,fun _=>false,fun _=>false,fun i hi=>absurd hi (by omega),?_⟩;rw[gq,gq];exact Nat.zero_le _
theorem k7.yes (h:k7 n N E k L R) (hk:k<n) (y:E1 n N E (List.replicate N false) k ⟨L,R,List.replicate N false⟩ s'):k7 n N E (k+1) s'.L s'.R:=by
 have AY:gi L k=-1:=h.out k (Nat.le_refl _) hk;have hI:Inv n N E (gi s'.L) (gi s'.R):=⟨y.l,fun j hj=>y.r j hj (by simp only[AY];omega)⟩
 refine⟨y.len.L,y.len.R,hI,fun i QS ma=>?_,hI.mt.sub (by omega),?_⟩
 ·have:=y.sm i ma (by omega);simp only[h.out i (by omega) ma]at this;rcases y.l i ma with e|⟨j,_,e,_⟩
  ·exact e
  ·omega
 ·obtain⟨hM,A,B,hC,hc⟩:=h.mx;refine⟨fun i=>A i||decide (i=k),B,fun i hi j hj he=>?_,?_⟩
  ·by_cases e:i=k
   ·left;simp[e]
   ·rcases hC i (by omega) j hj he with a|b
    ·left;simp[a]
    ·exact .inr b
  ·have e1:cn (k+1) (mt (gi s'.L))=cn k (mt (gi L))+1:=by
    rw[aX];obtain⟨j,_,e,_⟩:=y.at_;rw[if_pos (by simp only[mt,decide_eq_true_eq];omega)]
    congr 1
    refine aZ fun i hi=>?_;have:=y.sm i (by omega) (by omega);simp only[mt];exact decide_eq_decide.2 this
   have e2:cn (k+1) (fun i=>A i||decide (i=k))<=cn k A+1:=by
    rw[aX];have:cn k (fun i=>A i||decide (i=k))=cn k A:=aZ fun i hi=>by
     have:i≠k:=by omega
     simp[this]
    rw[this];split<;>omega
   omega
theorem k7.no (h:k7 n N E k L R) (hk:k<n) (y:Cz n N E (List.replicate N false) ⟨L,R,List.replicate N false⟩ s') (hcl:∀j<N,E k j->bu s'.Se j=true):k7 n N E (k+1) L R:=by
 have AY:gi L k=-1:=h.out k (Nat.le_refl _) hk;refine⟨h.lL,h.lR,h.inv,fun i h1 h2=>h.out i (by omega) h2,h.inv.mt.sub (by omega),?_⟩;obtain⟨hM,A,B,hC,hc⟩:=h.mx;have nw:∀j<N,bu s'.Se j=true->∃a<k,gi R j=(a:Int)/\gi L a=(j:Int)/\∀j'<N,E a j'->bu s'.Se j'=true:=by
  intro j hj hs;obtain⟨_,a,ha,h1,h2⟩:=y.nw j hj hs (oI N j hj);have h3:gi L a=(j:Int):=by
   rcases h.inv.r j hj with e|⟨b,hb,e,e'⟩
   ·simp only at h1;omega
   ·simp only at h1;have:a=b:=by omega
    subst this;exact e'
  have hak:a<k:=by
   apply Decidable.byContradiction;intro hn;have:=h.out a (by omega) ha;omega
  refine⟨a,hak,h1,h3,fun j' sQ he=>?_⟩;rcases h2 j' sQ he with e|e
  ·exact e
  ·rw[oI N j' sQ]at e;cases e
 -- the partners of what was seen
 let K:Nat->Bool:=fun a=>decide (0<=gi L a)&&bu s'.Se (gi L a).toNat
 have hK:∀a<k,K a=true->(gi L a).toNat<N/\gi L a=((gi L a).toNat:Int)/\∀j'<N,E a j'->bu s'.Se j'=true:=by
  intro a ha hka;simp only[K,Bool.and_eq_true,decide_eq_true_eq]at hka;obtain⟨h0,h1⟩:=hka;obtain⟨h2,_⟩:=hM.at ha h0;refine⟨h2,by omega,?_⟩;obtain⟨b,hb,e1,e2,e3⟩:=nw _ h2 h1;have:a=b:=h.inv.mt.inj a (by omega) b (by omega) (by rw[e2];omega) h0;subst this;exact e3
 refine⟨fun i=>decide (i<k)&&(A i&&!K i),fun j=>B j||(decide (j<N)&&bu s'.Se j),fun i hi j hj he=>?_,?_⟩
 ·by_cases e:i=k
  ·subst e;right;simp[hcl j hj he,hj]
  ·have hik:i<k:=by omega
   by_cases hKi:K i=true
   ·right;simp[(hK i hik hKi).2.2 j hj he,hj]
   ·rcases hC i hik j hj he with a|b
    ·left;simp[a,hik];simpa using hKi
    ·right;simp[b]
 ·have e1:cn (k+1) (mt (gi L))=cn k (mt (gi L)):=by
   rw[aX,if_neg (by simp[mt,AY])];rfl
  have e2:cn (k+1) (fun i=>decide (i<k)&&(A i&&!K i))=cn k fun i=>A i&&!K i:=by
   rw[aX,if_neg (by simp)];exact aZ fun i hi=>by simp[hi]
  have e3:=iO k A K;have e4:cn N (fun j=>B j||(decide (j<N)&&bu s'.Se j))=cn N B+cn N (fun j=>(decide (j<N)&&bu s'.Se j)&&!B j):=Mn _ _ _;have e5:cn N (fun j=>(decide (j<N)&&bu s'.Se j)&&!B j)<=cn k fun i=>A i&&K i:=by
   refine lY (fun j=>(gi R j).toNat) (fun j hj hp=>?_) (fun j hj j' sQ hp N3 e=>?_)
   ·simp only[Bool.and_eq_true,decide_eq_true_eq,Bool.not_eq_true']at hp;obtain⟨⟨_,hs⟩,hb⟩:=hp;obtain⟨a,ha,r1,r2,r3⟩:=nw j hj hs;rw[r1,Int.toNat_natCast];refine⟨ha,?_⟩;have hE:E a j:=by
     have:=(hM.at ha (by omega)).2;rw[r2]at this;exact this
    have hA:A a=true:=by
     rcases hC a ha j hj hE with x|x
     ·exact x
     ·rw[hb]at x;cases x
    simp only[Bool.and_eq_true,hA,true_and,K,r2,Int.toNat_natCast,hs,and_true,decide_eq_true_eq];omega
   ·simp only[Bool.and_eq_true,decide_eq_true_eq,Bool.not_eq_true']at hp N3;obtain⟨a,ha,r1,r2,_⟩:=nw j hj hp.1.2;obtain⟨a',R2,r1',r2',_⟩:=nw j' sQ N3.1.2;simp only[r1,r1',Int.toNat_natCast]at e;subst e;omega
  omega
theorem k7.step {g:List (List Nat)} (hg:∀i,∀j∈g.getD i [],j<N) (h:k7 n N (Eg g) k L R) (hk:k<n) (m:Nat) (hm:N<m):
  k7 n N (Eg g) (k+1) (cr g (List.replicate N false) m ⟨L,R,List.replicate N false⟩ k).2.L (cr g (List.replicate N false) m ⟨L,R,List.replicate N false⟩ k).2.R:=by
 have hu:=AZ N;obtain⟨a,b⟩:=sT (n:=n) (F:=List.replicate N false) hg m ⟨L,R,List.replicate N false⟩ k (by simp only;omega) ⟨h.lL,h.lR,by simp⟩ h.inv hk (.inl (h.out k (Nat.le_refl _) hk))
 cases e:(cr g (List.replicate N false) m ⟨L,R,List.replicate N false⟩ k).1 with
 |true=>exact h.yes hk (a e)
 |false=>
  obtain⟨c,d⟩:=b e;rw[c.L,c.R];refine h.no hk c fun j hj he=>?_;rcases d j hj he with x|x
  ·exact x
  ·rw[oI N j hj]at x;cases x
end Go.Mg
namespace Go.Mg
section
variable {n N:Nat} {g:List (List Nat)} {L R:Nat->Int} {O:List Bool}
structure jB (n N:Nat) (E:Nat->Nat->Prop) (L:Nat->Int) (O:List Bool) (D Q:List Nat):Prop where
 len:O.length=n
 is:∀i<n,O.getD i true=decide (i∈Q.reverse++D)
 gr:Grown n N E L (Q.reverse++D)
 cl:∀i∈D,∀j<N,E i j->∀k<n,L k=(j:Int)->k∈Q.reverse++D
theorem jB.done {E:Nat->Nat->Prop} {D:List Nat} (h:jB n N E L O D []) (un:∀i<n,L i=-1->i∈D):iP n N E L D/\∀i<n,O.getD i true=decide (i∈D):=
 ⟨⟨h.gr,un,h.cl⟩,h.is⟩
theorem sU (Q:List Nat) (k:Nat) (D:List Nat):(Q++[k]).reverse++D=k::(Q.reverse++D):=by simp
theorem Ba (i:Nat) (Q D:List Nat):(i::Q).reverse++D=Q.reverse++(i::D):=by simp
theorem jB.mark {E:Nat->Nat->Prop} {D Q:List Nat} {k:Nat} (h:jB n N E L O D Q) (hk:k<n) (hO:O.getD k true=false) (hr:L k=-1\/∃i∈Q.reverse++D,∃j<N,E i j/\L k=(j:Int)):jB n N E L (O.set k true) D (Q++[k]):=by
 have hn:k∉Q.reverse++D:=by
  have:=h.is k hk;rw[hO]at this;simpa using this.symm
 refine⟨by simp[h.len],fun i hi=>?_,?_,fun i hi j hj he a ha e=>?_⟩
 ·rw[sU,List.getD_eq_getElem?_getD,List.getElem?_set]
  by_cases e:k=i
  ·subst e;simp[h.len,hi]
  ·rw[if_neg e,<-List.getD_eq_getElem?_getD,h.is i hi];have:i≠k:=fun h=>e h.symm;simp[this]
 ·rw[sU];exact⟨h.gr,hk,hn,hr⟩
 ·rw[sU];exact List.mem_cons_of_mem _ (h.cl i hi j hj he a ha e)
theorem jB.pop {E:Nat->Nat->Prop} {D Q Q':List Nat} {i:Nat} (h:jB n N E L O D (i::Q')) (hc:∀j<N,E i j->∀k<n,L k=(j:Int)->k∈(i::Q').reverse++D):jB n N E L O (i::D) Q':=by
 have e:=Ba i Q' D;refine⟨h.len,by rw[<-e];exact h.is,by rw[<-e];exact h.gr,fun a ha j hj he k hk hL=>?_⟩;rw[<-e];rcases List.mem_cons.1 ha with rfl|ha
 ·exact hc j hj he k hk hL
 ·exact h.cl a ha j hj he k hk hL
end
section
variable {n N:Nat} {E:Nat->Nat->Prop} {L:Nat->Int}
structure Pf (n N:Nat) (E:Nat->Nat->Prop) (L:Nat->Int):Prop where
 m:Mt n N E L
 all:∀i<n,0<=L i
def dT (n N:Nat) (E:Nat->Nat->Prop) (L:Nat->Int) (m:Nat):Prop:=∀a<m,∀L',Pf n N E L'->(∀b<a,L' b=L b)->L a<=L' a
theorem dT.uniq {L':Nat->Int} (h:dT n N E L n) (h':dT n N E L' n) (p:Pf n N E L) (p':Pf n N E L'):∀i<n,L i=L' i:=by
 intro i
 induction i using Nat.strongRecOn with
 |ind i ih=>
  intro hi;have a:=h i hi L' p' fun b hb=>(ih b hb (by omega)).symm;have b:=h' i hi L p fun b hb=>ih b hb (by omega);omega
theorem dT.congr {L':Nat->Int} {m:Nat} (h:dT n N E L m) (e:∀i<m,L' i=L i):dT n N E L' m:=by
 intro a ha L2 p h2;rw[e a ha];exact h a ha L2 p fun b hb=>by rw[h2 b hb,e b (by omega)]
theorem Jp {i k j:Nat} {L0:Nat->Int} {F:List Bool} {s s':cN} (hi:i<n) (hk:k<n) (hik:i<k) (hj:j<N)
  (Jq:Pf n N E L0) (hkj:L0 k=(j:Int))
  (sL:∀a<n,gi s.L a=if a=i then(j:Int)else if a=k then-1 else L0 a)
  (sR:∀b<N,gi s.R b=-1\/∃a<n,gi s.R b=(a:Int)/\gi s.L a=(b:Int))
  (sS:∀b<N,bu s.Se b=decide (b=j))
  (hF:∀b<N,bu F b=true↔∃a<i,L0 a=(b:Int))
  (y:Cz n N E F s s') (hcl:∀b<N,E k b->bu s'.Se b=true\/bu F b=true):
  ∀L',Pf n N E L'->(∀b<i,L' b=L0 b)->L' i≠(j:Int):=by
 intro L' p' hb sW;have Iz:bu F j≠true:=fun h=>by
  obtain⟨a,ha,e⟩:=(hF j hj).1 h;have:=Jq.m.inj a (by omega) k hk (by omega) (by omega);omega
 have hsj:bu s'.Se j=true:=y.mono j (by rw[sS j hj];simp);have hFs:∀b<N,bu s'.Se b=true->bu F b≠true:=by
  intro b hb h1 h2
  by_cases e:b=j
  ·subst e;exact Iz h2
  ·have:=(y.nw b hb h1 (by rw[sS b hb];simp[e])).1;rw[this]at h2;cases h2
 -- who has what was seen
 have own:∀b<N,bu s'.Se b=true->b≠j->∃a<n,i<a/\a≠k/\L0 a=(b:Int)/\∀b'<N,E a b'->bu s'.Se b'=true\/bu F b'=true:=by
  intro b hb h1 h2;obtain⟨h3,a,ha,h4,h5⟩:=y.nw b hb h1 (by rw[sS b hb];simp[h2]);have h6:gi s.L a=(b:Int):=by
   rcases sR b hb with e|⟨c,_,e,e'⟩
   ·omega
   ·have:a=c:=by omega
    subst this;exact e'
  rw[sL a ha]at h6
  by_cases e1:a=i
  ·rw[if_pos e1]at h6;omega
  ·rw[if_neg e1]at h6
   by_cases e2:a=k
   ·rw[if_pos e2]at h6;omega
   ·rw[if_neg e2]at h6;refine⟨a,ha,?_,e2,h6,h5⟩;apply Decidable.byContradiction;intro hn;have:=(hF b hb).2 ⟨a,by omega,h6⟩;rw[h3]at this;cases this
 -- the lefts reached
 let Z:Nat->Bool:=fun a=>decide (a=k)||(decide (i<a)&&decide (0<=L0 a)&&bu s'.Se (L0 a).toNat&&decide ((L0 a).toNat≠j))
 have hZ:∀a<n,Z a=true->i<a/\∀b'<N,E a b'->bu s'.Se b'=true\/bu F b'=true:=by
  intro a ha hz;simp only[Z,Bool.or_eq_true,Bool.and_eq_true,decide_eq_true_eq]at hz;rcases hz with rfl|⟨⟨⟨h1,h2⟩,h3⟩,h4⟩
  ·exact⟨hik,hcl⟩
  ·refine⟨h1,?_⟩;obtain⟨h5,_⟩:=Jq.m.at ha h2;obtain⟨c,hc,_,_,h6,h7⟩:=own _ h5 h3 h4;have:a=c:=Jq.m.inj a ha c hc (by rw[h6];omega) h2;subst this;exact h7
 have c1:cn N (fun b=>bu s'.Se b)<=cn n Z:=by
  refine lY (fun b=>if b=j then k else(gi s.R b).toNat) (fun b hb hs=>?_) (fun b hb b' jz h1 h2 e=>?_)
  ·by_cases e:b=j
   ·rw[if_pos e];exact⟨hk,by simp[Z]⟩
   ·rw[if_neg e];obtain⟨a,ha,h1,h2,h3,_⟩:=own b hb hs e;have h4:gi s.R b=(a:Int):=by
     obtain⟨_,c,hc,h5,_⟩:=y.nw b hb hs (by rw[sS b hb];simp[e]);rcases sR b hb with e'|⟨d,hd,e1,e2⟩
     ·omega
     ·rw[sL d hd]at e2
      by_cases x1:d=i
      ·rw[if_pos x1]at e2;omega
      ·rw[if_neg x1]at e2
       by_cases x2:d=k
       ·rw[if_pos x2]at e2;omega
       ·rw[if_neg x2]at e2;have:d=a:=Jq.m.inj d hd a ha (by omega) (by omega);omega
    rw[h4,Int.toNat_natCast];refine⟨ha,?_⟩;simp only[Z,Bool.or_eq_true,Bool.and_eq_true,decide_eq_true_eq,h3,Int.toNat_natCast];exact .inr ⟨⟨⟨h1,by omega⟩,hs⟩,e⟩
  ·have val:∀b<N,bu s'.Se b=true->b≠j->∃a<n,a≠k/\L0 a=(b:Int)/\(gi s.R b).toNat=a:=by
    intro b hb hs e;obtain⟨a,ha,h1,h2,h3,_⟩:=own b hb hs e;obtain⟨_,c,hc,h5,_⟩:=y.nw b hb hs (by rw[sS b hb];simp[e]);refine⟨a,ha,h2,h3,?_⟩;rcases sR b hb with e'|⟨d,hd,e1,e2⟩
    ·omega
    ·rw[sL d hd]at e2
     by_cases x1:d=i
     ·rw[if_pos x1]at e2;omega
     ·rw[if_neg x1]at e2
      by_cases x2:d=k
      ·rw[if_pos x2]at e2;omega
      ·rw[if_neg x2]at e2;have:d=a:=Jq.m.inj d hd a ha (by omega) (by omega);omega
   by_cases e1:b=j
   ·by_cases e2:b'=j
    ·omega
    ·rw[if_pos e1,if_neg e2]at e;obtain⟨a,ha,h3,h4,h5⟩:=val b' jz h2 e2;omega
   ·by_cases e2:b'=j
    ·rw[if_neg e1,if_pos e2]at e;obtain⟨a,ha,h3,h4,h5⟩:=val b hb h1 e1;omega
    ·rw[if_neg e1,if_neg e2]at e;obtain⟨a,ha,h3,h4,h5⟩:=val b hb h1 e1;obtain⟨a',R2,QU,h4',h5'⟩:=val b' jz h2 e2;have:a=a':=by omega
     subst this;omega
 have c2:cn n Z<=cn N fun b=>bu s'.Se b&&!decide (b=j):=by
  refine lY (fun a=>(L' a).toNat) (fun a ha hz=>?_) (fun a ha b hb h1 h2 e=>?_)
  ·obtain⟨h1,h2⟩:=hZ a ha hz;have h0:=p'.all a ha;obtain⟨h3,h4⟩:=p'.m.at ha h0;refine⟨h3,?_⟩;have hnF:bu F (L' a).toNat≠true:=fun h=>by
    obtain⟨c,hc,e⟩:=(hF _ h3).1 h;have:=p'.m.inj a ha c (by omega) (by rw[hb c hc,e];omega) h0;omega
   have hnj:(L' a).toNat≠j:=fun h=>by
    have:=p'.m.inj a ha i hi (by rw[sW];omega) h0;omega
   simp only[Bool.and_eq_true,Bool.not_eq_true',decide_eq_false_iff_not];refine⟨?_,hnj⟩;rcases h2 _ h3 h4 with x|x
   ·exact x
   ·exact absurd x hnF
  ·have h0:=p'.all a ha;have WI:=p'.all b hb;exact p'.m.inj a ha b hb (by omega) h0
 have c3:=fV (n:=N) (k:=j) (p:=fun b=>bu s'.Se b) hj hsj;omega
end
end Go.Mg
namespace Go.Mg
def bt (x:UInt64) (v:Nat):Bool:=x.toNat.testBit v
def Ef (x:UInt64) (v:Nat):UInt64:=x|||UInt64.ofNat (2^v)
variable {x:UInt64} {v:Nat}
theorem Mp (h:bt x v=true):v<64:=by
 apply Decidable.byContradiction;intro hn;unfold bt at h;rw[Nat.testBit_lt_two_pow (Nat.lt_of_lt_of_le x.toNat_lt (Nat.pow_le_pow_right (by omega) (by omega:64<=v)))]at h
 cases h
theorem dU (v:Nat):bt 0 v=false:=by simp[bt]
theorem E3 (x:UInt64) (hv:v<64) (k:Nat):bt (Ef x v) k=(bt x k||decide (k=v)):=by
 unfold bt Ef;rw[UInt64.toNat_or,Nat.testBit_or,UInt64.toNat_ofNat',Nat.mod_eq_of_lt (Nat.pow_lt_pow_right (by omega) hv),Nat.testBit_two_pow]
 congr 1
 by_cases e:v=k
 ·subst e;simp
 ·have:k≠v:=fun h=>e h.symm;simp[e,this]
theorem sZ {y:UInt64} (h:∀k<64,bt x k=bt y k):x=y:=by
 apply UInt64.toNat_inj.1;apply Nat.eq_of_testBit_eq;intro k
 by_cases hk:k<64
 ·exact h k hk
 ·have a:bt x k=false:=by cases e:bt x k with
   |false=>rfl
   |true=>exact absurd (Mp e) hk
  have b:bt y k=false:=by cases e:bt y k with
   |false=>rfl
   |true=>exact absurd (Mp e) hk
  unfold bt at a b;rw[a,b]
def bx (g:List UInt64) (i:Nat):UInt64:=g.getD i 0
structure InF (g:List UInt64) (used:UInt64) (m:List Int):Prop where
 len:m.length=g.length
 ed:∀i<g.length,gi m i=-1\/∃j:Nat,j<64/\gi m i=(j:Int)/\bt (bx g i) j=true/\bt used j=false
 inj:∀i<g.length,∀k<g.length,gi m i=gi m k->0<=gi m i->i=k
theorem v7 (v:Int) (m:List Int):gi (v::m) 0=v:=rfl
def E4 (a b:List Int):Prop:=∀i,(∀k<i,gi b k=gi a k)->gi a i<=gi b i
theorem E4.cons {v:Int} {a b:List Int} (h:E4 a b):E4 (v::a) (v::b):=by
 intro i hk
 cases i with
 |zero=>exact Int.le_refl _
 |succ i=>exact h i fun k D1=>hk (k+1) (by omega)
theorem E4.lt {v w:Int} (a b:List Int) (h:v<w):E4 (v::a) (w::b):=by
 intro i hk
 cases i with
 |zero=>exact Int.le_of_lt h
 |succ i=>have:=hk 0 (by omega);rw[v7,v7]at this;omega
theorem cH (n:Nat) (p:Nat->Bool):((List.range n).filter p).length=cn n p:=by
 induction n with
 |zero=>rfl
 |succ n ih=>rw[List.range_succ,List.filter_append,List.length_append,ih,aX];congr 1;cases h:p n<;>simp[h]
def Eb (g:List UInt64) (i j:Nat):Prop:=bt (bx g i) j=true
theorem InF.mt {g:List UInt64} {m:List Int} (h:InF g 0 m) {N:Nat} (hN:64<=N):Mt g.length N (Eb g) (gi m):=
 ⟨fun i hi=>(h.ed i hi).imp id fun⟨j,a,b,c,_⟩=>⟨j,by omega,b,c⟩,h.inj⟩
theorem Bb {n:Nat} {p:Nat->Bool} (h:cn n p=n):∀i<n,p i=true:=by
 intro i hi;exact yg (p:=p) (q:=fun _=>true) (fun _ _ _=>rfl) (by have:=dw n (fun _=>true);omega) i hi rfl
theorem Jr (n:Nat):cn n (fun _=>true)=n:=by
 induction n with
 |zero=>rfl
 |succ n ih=>rw[aX,ih];simp
end Go.Mg
namespace Go.Mg
section
variable {n N:Nat} {E:Nat->Nat->Prop}
def nF (st:cN) (i j:Nat):cN:=⟨st.L.set i (j:Int),(st.R.set (gi st.L i).toNat (-1)).set j (i:Int),st.Se⟩
theorem N4 (st:cN) {i j:Nat} (hi:i<st.L.length) (a:Nat):gi (st.L.set i (j:Int)) a=if a=i then(j:Int)else gi st.L a:=by
 rw[gY];by_cases e:a=i<;>simp[e,hi]
theorem R3 (st:cN) {i j p:Nat} (hj:j<st.R.length) (hp:p<st.R.length) (b:Nat):gi ((st.R.set p (-1)).set j (i:Int)) b=if b=j then(i:Int)else if b=p then-1 else gi st.R b:=by
 rw[gY,gY]
 by_cases e:b=j
 ·subst e;simp[hj]
 ·by_cases e2:b=p
  ·subst e2;simp[e,hp]
  ·simp[e,e2]
theorem Js {st:cN} {i j p:Nat} (hl:Ec n N st) (hI:Inv n N E (gi st.L) (gi st.R)) (hi:i<n) (hj:j<N) (hE:E i j) (sW:gi st.L i=(p:Int)) (hpj:p≠j) (hR:gi st.R j=-1):
  Inv n N E (gi (nF st i j).L) (gi (nF st i j).R):=by
 have hp:p<N:=by
  rcases hI.l i hi with h|⟨q,hq,h,_⟩
  ·omega
  ·omega
 have eL:∀a,gi (nF st i j).L a=if a=i then(j:Int)else gi st.L a:=N4 st (by rw[hl.L];exact hi)
 have eR:∀b,gi (nF st i j).R b=if b=j then(i:Int)else if b=p then-1 else gi st.R b:=by
  intro b;have:=R3 st (i:=i) (j:=j) (p:=p) (by rw[hl.R];exact hj) (by rw[hl.R];exact hp) b;unfold nF;rw[sW,Int.toNat_natCast];exact this
 refine⟨fun a ha=>?_,fun b hb=>?_⟩
 ·rw[eL]
  by_cases e:a=i
  ·subst e;rw[if_pos rfl];exact .inr ⟨j,hj,rfl,hE,by rw[eR,if_pos rfl]⟩
  ·rw[if_neg e];rcases hI.l a ha with h|⟨q,hq,h1,h2,h3⟩
   ·exact .inl h
   ·refine .inr ⟨q,hq,h1,h2,?_⟩;have h4:q≠j:=fun h=>by subst h;omega
    have h5:q≠p:=fun h=>by
     subst h;rcases hI.l i hi with h'|⟨q',iJ,D0,Iw,QU⟩
     ·omega
     ·have:q'=q:=by omega
      subst this;omega
    rw[eR,if_neg h4,if_neg h5,h3]
 ·rw[eR]
  by_cases e:b=j
  ·subst e;rw[if_pos rfl];exact .inr ⟨i,hi,rfl,by rw[eL,if_pos rfl]⟩
  ·rw[if_neg e]
   by_cases e2:b=p
   ·rw[if_pos e2];exact .inl rfl
   ·rw[if_neg e2];rcases hI.r b hb with h|⟨a,ha,h1,h2⟩
    ·exact .inl h
    ·refine .inr ⟨a,ha,h1,?_⟩;have h3:a≠i:=fun h=>by subst h;omega
     rw[eL,if_neg h3,h2]
theorem E5 {st:cN} {i j k p:Nat} (hl:Ec n N st) (hI:Inv n N E (gi st.L) (gi st.R)) (hi:i<n) (hj:j<N) (hE:E i j) (sW:gi st.L i=(p:Int)) (hpj:p≠j) (hk:k<n) (hR:gi st.R j=(k:Int)) (AY:gi st.L k=(j:Int)):
  Inv n N E (gi ((nF st i j).L.set k (-1))) (gi (nF st i j).R)/\(∀a,gi ((nF st i j).L.set k (-1)) a=if a=i then(j:Int)else if a=k then-1 else gi st.L a)/\k≠i:=by
 have hki:k≠i:=fun h=>by subst h;omega
 have hp:p<N:=by
  rcases hI.l i hi with h|⟨q,hq,h,_⟩
  ·omega
  ·omega
 have eL:∀a,gi ((nF st i j).L.set k (-1)) a=if a=i then(j:Int)else if a=k then-1 else gi st.L a:=by
  intro a;rw[gY];unfold nF;rw[N4 st (by rw[hl.L];exact hi),List.length_set,hl.L]
  by_cases e:a=i
  ·subst e;rw[if_pos rfl,if_neg (fun h=>hki h.1.symm),if_pos rfl]
  ·rw[if_neg e,if_neg e]
   by_cases e2:a=k
   ·rw[if_pos ⟨e2,hk⟩,if_pos e2]
   ·rw[if_neg (fun h=>e2 h.1),if_neg e2]
 have eR:∀b,gi (nF st i j).R b=if b=j then(i:Int)else if b=p then-1 else gi st.R b:=by
  intro b;have:=R3 st (i:=i) (j:=j) (p:=p) (by rw[hl.R];exact hj) (by rw[hl.R];exact hp) b;unfold nF;rw[sW,Int.toNat_natCast];exact this
 refine⟨⟨fun a ha=>?_,fun b hb=>?_⟩,eL,hki⟩
 ·rw[eL]
  by_cases e:a=i
  ·subst e;rw[if_pos rfl];exact .inr ⟨j,hj,rfl,hE,by rw[eR,if_pos rfl]⟩
  ·rw[if_neg e]
   by_cases e2:a=k
   ·rw[if_pos e2];exact .inl rfl
   ·rw[if_neg e2];rcases hI.l a ha with h|⟨q,hq,h1,h2,h3⟩
    ·exact .inl h
    ·refine .inr ⟨q,hq,h1,h2,?_⟩;have h4:q≠j:=fun h=>by subst h;omega
     have h5:q≠p:=fun h=>by
      subst h;rcases hI.l i hi with h'|⟨q',iJ,D0,Iw,QU⟩
      ·omega
      ·have:q'=q:=by omega
       subst this;omega
     rw[eR,if_neg h4,if_neg h5,h3]
 ·rw[eR]
  by_cases e:b=j
  ·subst e;rw[if_pos rfl];exact .inr ⟨i,hi,rfl,by rw[eL,if_pos rfl]⟩
  ·rw[if_neg e]
   by_cases e2:b=p
   ·rw[if_pos e2];exact .inl rfl
   ·rw[if_neg e2];rcases hI.r b hb with h|⟨a,ha,h1,h2⟩
    ·exact .inl h
    ·refine .inr ⟨a,ha,h1,?_⟩;have h3:a≠i:=fun h=>by subst h;omega
     have h4:a≠k:=fun h=>by subst h;omega
     rw[eL,if_neg h3,if_neg h4,h2]
def N6 (n N:Nat) (E:Nat->Nat->Prop) (st:cN) (i j:Nat) (b:Bool) (fH:cN):Prop:=
 (b=true->Inv n N E (gi fH.L) (gi fH.R)/\(∀a<n,0<=gi fH.L a)/\gi fH.L i=(j:Int)/\∀a<i,gi fH.L a=gi st.L a)∧
 (b=false->fH.L=st.L/\fH.R=st.R/\∀L',Pf n N E L'->(∀b<i,L' b=gi st.L b)->L' i≠(j:Int))
theorem CC {st:cN} {i j p:Nat} (hl:Ec n N st) (hI:Inv n N E (gi st.L) (gi st.R)) (hA:∀a<n,0<=gi st.L a) (hi:i<n) (hj:j<N) (hE:E i j) (sW:gi st.L i=(p:Int)) (hpj:p≠j) (hR:gi st.R j=-1):N6 n N E st i j true (nF st i j):=by
 have eL:∀a,gi (nF st i j).L a=if a=i then(j:Int)else gi st.L a:=N4 st (by rw[hl.L];exact hi)
 refine⟨fun _=>⟨Js hl hI hi hj hE sW hpj hR,fun a ha=>?_,by rw[eL,if_pos rfl],fun a ha=>by rw[eL,if_neg (by omega)]⟩,fun h=>by cases h⟩;rw[eL];split
 ·omega
 ·exact hA a ha
theorem N9 {st:cN} {i j k p:Nat} {F:List Bool} {b:Bool} {s':cN} (hl:Ec n N st) (hI:Inv n N E (gi st.L) (gi st.R)) (hA:∀a<n,0<=gi st.L a) (hi:i<n) (hj:j<N) (hE:E i j) (sW:gi st.L i=(p:Int)) (hpj:p≠j) (hk:k<n) (hR:gi st.R j=(k:Int)) (AY:gi st.L k=(j:Int))
  (hF:∀b<N,bu F b=true↔∃a<i,gi st.L a=(b:Int)) (Iz:bu F j=false)
  (hY:b=true->E1 n N E F k ⟨(nF st i j).L.set k (-1),(nF st i j).R,(List.replicate N false).set j true⟩ s')
  (hN:b=false->Cz n N E F ⟨(nF st i j).L.set k (-1),(nF st i j).R,(List.replicate N false).set j true⟩ s'/\∀b<N,E k b->bu s'.Se b=true\/bu F b=true):
  N6 n N E st i j b (if b=true then s' else⟨st.L,st.R,s'.Se⟩):=by
 obtain⟨NN,eL,hki⟩:=E5 hl hI hi hj hE sW hpj hk hR AY;have WJ:Pf n N E (gi st.L):=⟨hI.mt,hA⟩
 have hik:i<k:=by
  apply Decidable.byContradiction;intro hn;have:=(hF j hj).2 ⟨k,by omega,AY⟩;rw[Iz]at this;cases this
 have N0:∀b<N,bu ((List.replicate N false).set j true) b=decide (b=j):=by
  intro b hb;rw[lZ,List.length_replicate,oI N b hb]
  by_cases e:b=j<;>simp[e,hj]
 cases b with
 |true=>
  have y:=hY rfl;refine⟨fun _=>?_,fun h=>by cases h⟩;simp only[if_true];refine⟨⟨y.l,fun b hb=>y.r b hb (by simp only;rw[eL,if_neg hki,if_pos rfl];omega)⟩,fun a ha=>?_,?_,fun a ha=>?_⟩
  ·by_cases e:a=k
   ·subst e;obtain⟨q,_,h,_⟩:=y.at_;omega
   ·refine(y.sm a ha e).2 ?_;simp only;rw[eL];split
    ·omega
    ·exact hA a ha
  ·rw[y.AW i hi (fun h=>hki h.symm) (.inr ⟨j,by simp only;rw[eL,if_pos rfl],.inl (by simp only;rw[N0 j hj];simp)⟩)];simp only;rw[eL,if_pos rfl]
  ·have hL:gi ((nF st i j).L.set k (-1)) a=gi st.L a:=by rw[eL,if_neg (by omega),if_neg (by omega)]
   have h0:=hA a (by omega);obtain⟨h1,_⟩:=hI.mt.at (show a<n by omega) h0;rw[y.AW a (by omega) (by omega) (.inr ⟨(gi st.L a).toNat,by simp only;rw[hL];omega,.inr ((hF _ h1).2 ⟨a,ha,by omega⟩)⟩)];exact hL
 |false=>
  obtain⟨y,hcl⟩:=hN rfl;refine⟨fun h=>(by cases h),fun _=>⟨rfl,rfl,?_⟩⟩;exact Jp hi hk hik hj WJ AY (fun a ha=>by simp only;rw[eL]) NN.r (fun b hb=>N0 b hb) hF y hcl
end
end Go.Mg

/- Lemmas of ours. No conditions. -/
import Derived.Test.YteeemadonfcliabGreatDoorMgMem0
set_option linter.all false
namespace Go.Mg
def cn:Nat->(Nat->Bool)->Nat
 |0,_=>0
 |n+1,p=>cn n p+(if p n=true then 1 else 0)
theorem bu (n:Nat) (p:Nat->Bool):cn (n+1) p=cn n p+(if p n=true then 1 else 0):=rfl
variable {n k m:Nat} {p q:Nat->Bool}
theorem gI (h:∀i<n,p i=true->q i=true):cn n p<=cn n q:=by
 induction n with
 |zero=>exact Nat.le_refl _
 |succ n ih=>
  have:=ih fun i hi=>h i (by omega);have hn:=h n (by omega);rw[bu,bu]
  split
  ·rw[if_pos (hn ‹_›)];omega
  ·omega
theorem bH (h:∀i<n,p i=q i):cn n p=cn n q:=
 Nat.le_antisymm (gI fun i hi e=>h i hi▸e) (gI fun i hi e=>(h i hi).symm▸e)
theorem qT (n:Nat) (p q:Nat->Bool):cn n p=cn n (fun i=>p i&&q i)+cn n (fun i=>p i&&!q i):=by
 induction n with
 |zero=>rfl
 |succ n ih=>
  rw[bu,bu,bu,ih]
  cases hp:p n<;>cases hq:q n<;>simp only[hp,hq,Bool.and_self,Bool.not_true,Bool.not_false,Bool.and_true,Bool.and_false,Bool.true_and,Bool.false_and,Bool.or_self,Bool.or_true,Bool.true_or,Bool.or_false,Bool.false_or,if_true,if_false,Bool.false_eq_true]<;>omega
theorem HR (n:Nat) (p:Nat->Bool):cn n p+cn n (fun i=>!p i)=n:=by
 induction n with
 |zero=>rfl
 |succ n ih=>
  rw[bu,bu]
  cases hp:p n<;>simp only[Bool.not_true,Bool.not_false,if_true,if_false,Bool.false_eq_true]<;>omega
theorem fA (n:Nat) (p:Nat->Bool):cn n p<=n:=by have:=HR n p;omega
theorem ik (n:Nat):cn n (fun _=>false)=0:=by
 induction n with
 |zero=>rfl
 |succ n ih=>rw[bu];simp[ih]
theorem QO (n:Nat) (p q:Nat->Bool):cn n (fun i=>p i||q i)=cn n p+cn n (fun i=>q i&&!p i):=by
 induction n with
 |zero=>rfl
 |succ n ih=>
  rw[bu,bu,bu,ih]
  cases hp:p n<;>cases hq:q n<;>simp only[hp,hq,Bool.and_self,Bool.not_true,Bool.not_false,Bool.and_true,Bool.and_false,Bool.true_and,Bool.false_and,Bool.or_self,Bool.or_true,Bool.true_or,Bool.or_false,Bool.false_or,if_true,if_false,Bool.false_eq_true]<;>omega
theorem AP (n k:Nat) (hk:k<n):cn n (fun i=>decide (i=k))=1:=by
 induction n with
 |zero=>omega
 |succ n ih=>
  rw[bu]
  by_cases h:n=k
  ·subst h;rw[show cn n (fun i=>decide (i=n))=0 from by
    rw[bH (q:=fun _=>false) fun i hi=>by simp;omega,ik]]
   simp
  ·rw[ih (by omega)];simp[h]
theorem iY (hk:k<n) (hp:p k=true):cn n p=cn n (fun i=>p i&&!decide (i=k))+1:=by
 rw[qT n p fun i=>decide (i=k)];rw[bH (p:=fun i=>p i&&decide (i=k)) (q:=fun i=>decide (i=k)) fun i hi=>by
  by_cases h:i=k
  ·subst h;simp[hp]
  ·simp[h],AP n k hk]
 omega
theorem Su (hk:k<n) (hp:p k=false) (hq:∀i<n,q i=(p i||decide (i=k))):cn n q=cn n p+1:=by
 rw[bH hq,QO];rw[bH (p:=fun i=>decide (i=k)&&!p i) (q:=fun i=>decide (i=k)) fun i hi=>by
  by_cases h:i=k
  ·subst h;simp[hp]
  ·simp[h],AP n k hk]
theorem AQ (f:Nat->Nat) (hf:∀i<n,p i=true->f i<m/\q (f i)=true) (hi:∀i<n,∀k<n,p i=true->p k=true->f i=f k->i=k):cn n p<=cn m q:=by
 induction n generalizing q with
 |zero=>exact Nat.zero_le _
 |succ n ih=>
  rw[bu]
  split
  ·rename_i h;obtain⟨h1,h2⟩:=hf n (by omega) h;rw[iY h1 h2];have:=ih (q:=fun j=>q j&&!decide (j=f n)) (fun i hin hp=>by
    obtain⟨a,b⟩:=hf i (by omega) hp;refine⟨a,?_⟩;have:f i≠f n:=fun e=>by have:=hi i (by omega) n (by omega) hp h e;omega
    simp[b,this]) (fun i Hd k hk=>hi i (by omega) k (by omega))
   omega
  ·have:=ih (q:=q) (fun i Hd=>hf i (by omega)) (fun i Hd k hk=>hi i (by omega) k (by omega));omega
theorem Nd (f:Nat->Nat) (hf:∀i<n,p i=true->f i<m/\q (f i)=true) (hi:∀i<n,∀k<n,p i=true->p k=true->f i=f k->i=k) (hc:cn m q<=cn n p):
  ∀j<m,q j=true->∃i<n,p i=true/\f i=j:=by
 intro j hj hq;apply Classical.byContradiction;intro hno;have:=AQ (n:=n) (m:=m) (p:=p) (q:=fun k=>q k&&!decide (k=j)) f (fun i hin hp=>by
  obtain⟨a,b⟩:=hf i hin hp;refine⟨a,?_⟩;have:f i≠j:=fun e=>hno ⟨i,hin,hp,e⟩;simp[b,this]) hi
 rw[iY hj hq]at hc;omega
theorem Sv (h:∀i<n,p i=true->q i=true) (hc:cn n q<=cn n p):∀i<n,q i=true->p i=true:=by
 intro i hi hq;obtain⟨k,_,hp,e⟩:=Nd id (fun i hi hp=>⟨hi,h i hi hp⟩) (fun i _ k _ _ _ e=>e) hc i hi hq
 cases e
 exact hp
section
variable {n N:Nat} {E:Nat->Nat->Prop} {L:Nat->Int} {A B:Nat->Bool}
structure Mt (n N:Nat) (E:Nat->Nat->Prop) (L:Nat->Int):Prop where
 ed:∀i<n,L i=-1\/∃j<N,L i=(j:Int)/\E i j
 inj:∀i<n,∀k<n,L i=L k->0<=L i->i=k
def mt (L:Nat->Int) (i:Nat):Bool:=decide (0<=L i)
def Cov (n N:Nat) (E:Nat->Nat->Prop) (A B:Nat->Bool):Prop:=∀i<n,∀j<N,E i j->A i=true\/B j=true
theorem Mt.at (h:Mt n N E L) {i:Nat} (hi:i<n) (hp:0<=L i):(L i).toNat<N/\E i (L i).toNat:=by
 rcases h.ed i hi with e|⟨j,hj,e,he⟩
 ·omega
 ·rw[e];exact⟨hj,he⟩
theorem Mt.part (hM:Mt n N E L) (hC:Cov n N E A B):cn n (fun i=>mt L i&&!A i)<=cn N B:=by
 refine AQ (fun i=>(L i).toNat) (fun i hi h=>?_) (fun i hi k hk h1 h2 e=>?_)
 ·simp only[mt,Bool.and_eq_true,decide_eq_true_eq,Bool.not_eq_true']at h;obtain⟨h1,h2⟩:=hM.at hi h.1;refine⟨h1,?_⟩;rcases hC i hi _ h1 h2 with a|b
  ·rw[h.2]at a;cases a
  ·exact b
 ·simp only[mt,Bool.and_eq_true,decide_eq_true_eq]at h1 h2;exact hM.inj i hi k hk (by omega) h1.1
theorem dh (hM:Mt n N E L) (hC:Cov n N E A B):cn n (mt L)<=cn n A+cn N B:=by
 rw[qT n (mt L) A];have h1:cn n (fun i=>mt L i&&A i)<=cn n A:=gI fun i _ h=>by simp at h;exact h.2
 have h2:=hM.part hC;omega
def Mx (n N:Nat) (E:Nat->Nat->Prop) (L:Nat->Int):Prop:=Mt n N E L/\∃A B,Cov n N E A B/\cn n A+cn N B<=cn n (mt L)
theorem Mx.max (h:Mx n N E L) {L':Nat->Int} (h':Mt n N E L'):cn n (mt L')<=cn n (mt L):=by
 obtain⟨_,A,B,hC,hc⟩:=h;exact Nat.le_trans (dh h' hC) hc
def flip (L:Nat->Int) (i k:Nat):Nat->Int:=fun l=>if l=i then L k else if l=k then-1 else L l
def Grown (n N:Nat) (E:Nat->Nat->Prop) (L:Nat->Int):List Nat->Prop
 |[]=>True
 |k::l=>Grown n N E L l/\k<n/\k∉l/\(L k=-1\/∃i∈l,∃j<N,E i j/\L k=(j:Int))
theorem Grown.lt {l:List Nat} (h:Grown n N E L l):∀i∈l,i<n:=by
 induction l with
 |nil=>intro i hi;cases hi
 |cons k l ih=>
  intro i hi;rcases List.mem_cons.1 hi with rfl|hi
  ·exact h.2.1
  ·exact ih h.1 i hi
theorem Grown.free {l:List Nat} (hg:Grown n N E L l) (hM:Mt n N E L):∀i∈l,∃L',Mt n N E L'/\cn n (mt L')=cn n (mt L)/\L' i=-1/\(∀k<n,k∉l->L' k=L k)/\∀k<n,0<=L' k->∃k'<n,L k'=L' k:=by
 induction l with
 |nil=>intro i hi;cases hi
 |cons k l ih=>
  obtain⟨hg1,hk,hkl,hr⟩:=hg;intro i hi;rcases List.mem_cons.1 hi with rfl|hi
  ·rcases hr with h|⟨p,hp,j,hj,he,hL⟩
   ·exact⟨L,hM,rfl,h,fun _ _ _=>rfl,fun k hk _=>⟨k,hk,rfl⟩⟩
   ·obtain⟨L',Nf,hc,hf,hsame,him⟩:=ih hg1 p hp;have hpn:=hg1.lt p hp;have hne:p≠i:=fun e=>hkl (e▸hp);have qE:L' i=(j:Int):=by rw[hsame i hk hkl,hL]
    refine⟨flip L' p i,⟨fun a ha=>?_,fun a ha b hb e h0=>?_⟩,?_,?_,fun a ha hal=>?_,fun a ha h0=>?_⟩
    ·unfold flip
     by_cases h1:a=p
     ·subst h1;rw[if_pos rfl];exact Or.inr ⟨j,hj,qE,he⟩
     ·rw[if_neg h1]
      by_cases h2:a=i
      ·rw[if_pos h2];exact Or.inl rfl
      ·rw[if_neg h2];exact Nf.ed a ha
    ·unfold flip at e h0
     by_cases h1:a=p
     ·by_cases h2:b=p
      ·omega
      ·rw[if_pos h1,if_neg h2]at e
       by_cases h3:b=i
       ·rw[if_pos h3]at e;omega
       ·rw[if_neg h3]at e;have:=Nf.inj i hk b hb e (by omega);omega
     ·rw[if_neg h1]at e h0
      by_cases h4:a=i
      ·rw[if_pos h4]at h0;omega
      ·rw[if_neg h4]at e h0
       by_cases h2:b=p
       ·rw[if_pos h2]at e;have:=Nf.inj a ha i hk e h0;omega
       ·rw[if_neg h2]at e
        by_cases h3:b=i
        ·rw[if_pos h3]at e;omega
        ·rw[if_neg h3]at e;exact Nf.inj a ha b hb e h0
    ·rw[<-hc];have e1:=iY (n:=n) (k:=i) (p:=mt L') hk (by simp[mt,qE]);have e2:=iY (n:=n) (k:=p) (p:=mt (flip L' p i)) hpn (by simp[mt,flip,qE]);rw[e1,e2]
     congr 1
     refine bH fun a ha=>?_;unfold mt flip
     by_cases h1:a=p
     ·subst h1;simp[hf]
     ·by_cases h2:a=i
      ·subst h2;simp[h1]
      ·simp[h1,h2]
    ·unfold flip;rw[if_neg (Ne.symm hne),if_pos rfl]
    ·unfold flip;have h1:a≠p:=fun e=>hal (by rw[e];exact List.mem_cons_of_mem _ hp);have h2:a≠i:=fun e=>hal (by rw[e];exact List.mem_cons_self ..);rw[if_neg h1,if_neg h2];exact hsame a ha fun h=>hal (List.mem_cons_of_mem _ h)
    ·unfold flip at h0⊢
     by_cases h1:a=p
     ·rw[if_pos h1]at h0⊢;exact him i hk h0
     ·rw[if_neg h1]at h0⊢
      by_cases h2:a=i
      ·rw[if_pos h2]at h0;omega
      ·rw[if_neg h2]at h0⊢;exact him a ha h0
  ·obtain⟨L',Nf,hc,hf,hsame,him⟩:=ih hg1 i hi;exact⟨L',Nf,hc,hf,fun a ha hal=>hsame a ha fun h=>hal (List.mem_cons_of_mem _ h),him⟩
structure HS (n N:Nat) (E:Nat->Nat->Prop) (L:Nat->Int) (l:List Nat):Prop where
 gr:Grown n N E L l
 un:∀i<n,L i=-1->i∈l
 cl:∀i∈l,∀j<N,E i j->∀k<n,L k=(j:Int)->k∈l
open Classical in
open Classical in
theorem HS.nb {l:List Nat} (h:HS n N E L l) (hX:Mx n N E L):∀i∈l,∀j<N,E i j->∃k<n,L k=(j:Int):=by
 intro i hi j hj he;obtain⟨L',Nf,hc,hf,hsame,him⟩:=h.gr.free hX.1 i hi;have hin:=h.gr.lt i hi;apply Classical.byContradiction;intro hno;have hnj:∀k<n,L' k≠(j:Int):=fun k hk e=>by
  obtain⟨k',AL,e'⟩:=him k hk (by omega);exact hno ⟨k',AL,by omega⟩
 have hM2:Mt n N E (fun l=>if l=i then(j:Int)else L' l):=by
  refine⟨fun a ha=>?_,fun a ha b hb e h0=>?_⟩
  ·by_cases h1:a=i
   ·subst h1;rw[if_pos rfl];exact Or.inr ⟨j,hj,rfl,he⟩
   ·rw[if_neg h1];exact Nf.ed a ha
  ·by_cases h1:a=i
   ·by_cases h2:b=i
    ·omega
    ·rw[if_pos h1,if_neg h2]at e;exact absurd e.symm (hnj b hb)
   ·rw[if_neg h1]at e h0
    by_cases h2:b=i
    ·rw[if_pos h2]at e;exact absurd e (hnj a ha)
    ·rw[if_neg h2]at e;exact Nf.inj a ha b hb e h0
 have h2:=hX.max hM2;have h3:=Su (n:=n) (k:=i) (p:=mt L') (q:=mt fun l=>if l=i then(j:Int)else L' l) hin (by simp[mt,hf]) (fun a ha=>by
  unfold mt
  by_cases h1:a=i
  ·subst h1;simp
  ·simp[h1])
 omega
end
end Go.Mg
namespace Go.Mg
structure AR where
 L:List Int
 R:List Int
 Se:List Bool
def qU (rec:AR->Nat->Bool×AR) (F:List Bool) (i:Nat):List Nat->AR->Bool×AR
 |[],s=>(false,s)
 |j::l,s=>
  if(s.Se.getD j true||F.getD j true)=true then qU rec F i l s else
  if s.R.getD j (-1)<0 then(true,⟨s.L.set i j,s.R.set j i,s.Se.set j true⟩)else
  if(rec ⟨s.L,s.R,s.Se.set j true⟩ (s.R.getD j (-1)).toNat).1=true then
   (true,⟨(rec ⟨s.L,s.R,s.Se.set j true⟩ (s.R.getD j (-1)).toNat).2.L.set i j,(rec ⟨s.L,s.R,s.Se.set j true⟩ (s.R.getD j (-1)).toNat).2.R.set j i,(rec ⟨s.L,s.R,s.Se.set j true⟩ (s.R.getD j (-1)).toNat).2.Se⟩)
  else qU rec F i l (rec ⟨s.L,s.R,s.Se.set j true⟩ (s.R.getD j (-1)).toNat).2
def tT (g:List (List Nat)) (F:List Bool):Nat->AR->Nat->Bool×AR
 |0,s,_=>(false,s)
 |m+1,s,i=>qU (tT g F m) F i (g.getD i []) s
def gi (l:List Int) (i:Nat):Int:=l.getD i (-1)
def eN (l:List Bool) (i:Nat):Bool:=l.getD i true
def Eg (g:List (List Nat)) (i j:Nat):Prop:=j∈g.getD i []
theorem vr (l:List Int) (i:Nat) (x:Int) (k:Nat):gi (l.set i x) k=if k=i/\i<l.length then x else gi l k:=by
 unfold gi;rw[List.getD_eq_getElem?_getD,List.getD_eq_getElem?_getD,List.getElem?_set]
 by_cases h:i=k
 ·subst h
  by_cases hl:i<l.length
  ·simp[hl]
  ·simp[hl,List.getElem?_eq_none (Nat.le_of_not_lt hl)]
 ·simp[h,Ne.symm h]
theorem HT (l:List Bool) (i:Nat) (x:Bool) (k:Nat):eN (l.set i x) k=if k=i/\i<l.length then x else eN l k:=by
 unfold eN;rw[List.getD_eq_getElem?_getD,List.getD_eq_getElem?_getD,List.getElem?_set]
 by_cases h:i=k
 ·subst h
  by_cases hl:i<l.length
  ·simp[hl]
  ·simp[hl,List.getElem?_eq_none (Nat.le_of_not_lt hl)]
 ·simp[h,Ne.symm h]
def HU (Se:List Bool):Nat:=cn Se.length fun j=>!eN Se j
variable {a F:List Bool} {n N:Nat} {E:Nat->Nat->Prop}
theorem HV {b:List Bool} (hl:b.length=a.length) (h:∀j,eN a j=true->eN b j=true):HU b<=HU a:=by
 unfold HU;rw[hl];refine gI fun j _ hj=>?_
 cases hx:eN a j with
 |false=>rfl
 |true=>rw[h j hx]at hj;cases hj
theorem Ng {j:Nat} (hj:j<a.length) (h:eN a j=false):HU (a.set j true)<HU a:=by
 unfold HU;rw[List.length_set,iY (p:=fun j=>!eN a j) (k:=j) hj (by simp only[h];rfl)];refine Nat.lt_succ_of_le (gI fun k _ hk=>?_);rw[HT]at hk
 by_cases e:k=j
 ·subst e;rw[if_pos ⟨rfl,hj⟩]at hk;cases hk
 ·rw[if_neg (fun h=>e h.1)]at hk;simp[hk,e]
structure U2 (n N:Nat) (s:AR):Prop where
 L:s.L.length=n
 R:s.R.length=N
 S:s.Se.length=N
structure Inv (n N:Nat) (E:Nat->Nat->Prop) (L R:Nat->Int):Prop where
 l:∀i<n,L i=-1\/∃j<N,L i=(j:Int)/\E i j/\R j=(i:Int)
 r:∀j<N,R j=-1\/∃i<n,R j=(i:Int)/\L i=(j:Int)
theorem Inv.mt {L R:Nat->Int} (h:Inv n N E L R):Mt n N E L:=by
 refine⟨fun i hi=>?_,fun i hi k hk e h0=>?_⟩
 ·rcases h.l i hi with a|⟨j,hj,a,b,_⟩
  ·exact Or.inl a
  ·exact Or.inr ⟨j,hj,a,b⟩
 ·rcases h.l i hi with a|⟨j,hj,a,b,c⟩
  ·omega
  ·rcases h.l k hk with a'|⟨j',uy,a',b',c'⟩
   ·omega
   ·have:j=j':=by omega
    subst this;omega
structure Nh (n N:Nat) (E:Nat->Nat->Prop) (F:List Bool) (s s':AR):Prop where
 L:s'.L=s.L
 R:s'.R=s.R
 len:s'.Se.length=s.Se.length
 mono:∀j,eN s.Se j=true->eN s'.Se j=true
 nw:∀j<N,eN s'.Se j=true->eN s.Se j=false->eN F j=false/\∃k<n,gi s.R j=(k:Int)/\∀j'<N,E k j'->eN s'.Se j'=true\/eN F j'=true
structure Nj (n N:Nat) (E:Nat->Nat->Prop) (F:List Bool) (i:Nat) (s s':AR):Prop where
 len:U2 n N s'
 QP:∀l<n,l≠i->(gi s.L l=-1\/∃j:Nat,gi s.L l=(j:Int)/\(eN s.Se j=true\/eN F j=true))->gi s'.L l=gi s.L l
 QQ:∀j<N,(eN s.Se j=true\/eN F j=true)->gi s'.R j=gi s.R j
 at_:∃j<N,gi s'.L i=(j:Int)/\E i j/\eN s.Se j=false/\eN F j=false
 sm:∀l<n,l≠i->(0<=gi s'.L l↔0<=gi s.L l)
 l:∀l<n,gi s'.L l=-1\/∃j<N,gi s'.L l=(j:Int)/\E l j/\gi s'.R j=(l:Int)
 r:∀j<N,(j:Int)≠gi s.L i->gi s'.R j=-1\/∃k<n,gi s'.R j=(k:Int)/\gi s'.L k=(j:Int)
theorem Nk {m:Nat} {rec:AR->Nat->Bool×AR} {i:Nat} (hrec:∀(s:AR) (k:Nat),HU s.Se<m->U2 n N s->Inv n N E (gi s.L) (gi s.R)->k<n->(∃j<N,gi s.L k=(j:Int)/\eN s.Se j=true)→
  ((rec s k).1=true->Nj n N E F k s (rec s k).2)∧
  ((rec s k).1=false->Nh n N E F s (rec s k).2/\∀j<N,E k j->eN (rec s k).2.Se j=true\/eN F j=true))
  (l:List Nat) (hl:∀j∈l,j<N/\E i j) (hi:i<n) (s:AR) (hu:HU s.Se<=m) (hs:U2 n N s) (hI:Inv n N E (gi s.L) (gi s.R)) (h0:gi s.L i=-1\/∃j<N,gi s.L i=(j:Int)/\eN s.Se j=true):
  ((qU rec F i l s).1=true->Nj n N E F i s (qU rec F i l s).2)∧
  ((qU rec F i l s).1=false->Nh n N E F s (qU rec F i l s).2/\∀j∈l,eN (qU rec F i l s).2.Se j=true\/eN F j=true):=by
 induction l generalizing s with
 |nil=>
  refine⟨fun h=>by simp[qU]at h,fun _=>⟨⟨rfl,rfl,rfl,fun _ h=>h,fun j _ h h'=>?_⟩,fun j hj=>by cases hj⟩⟩;rw[qU]at h;rw[h]at h';cases h'
 |cons j l ih=>
  obtain⟨qV,hE⟩:=hl j (List.mem_cons_self ..);have U3:∀j∈l,j<N/\E i j:=fun a ha=>hl a (List.mem_cons_of_mem _ ha);unfold qU
  by_cases U4:(s.Se.getD j true||F.getD j true)=true
  ·rw[if_pos U4];obtain⟨a,b⟩:=ih U3 s hu hs hI h0;refine⟨a,fun h=>?_⟩;obtain⟨b1,b2⟩:=b h;refine⟨b1,fun k hk=>?_⟩;rcases List.mem_cons.1 hk with rfl|hk
   ·rw[Bool.or_eq_true]at U4;rcases U4 with h'|h'
    ·exact Or.inl (b1.mono k h')
    ·exact Or.inr h'
   ·exact b2 k hk
  ·rw[if_neg U4];have AS:eN s.Se j=false:=by unfold eN;revert U4;cases s.Se.getD j true<;>simp
   have FF:eN F j=false:=by unfold eN;revert U4;cases F.getD j true<;>simp
   have YO:∀k,eN (s.Se.set j true) k=if k=j then true else eN s.Se k:=fun k=>by
    rw[HT,hs.S];simp[qV]
   have h0j:gi s.L i≠(j:Int):=by
    rcases h0 with h|⟨k,_,h,h'⟩
    ·omega
    ·intro e;have:k=j:=by omega
     subst this;rw[AS]at h';cases h'
   by_cases hfr:s.R.getD j (-1)<0
   ·rw[if_pos hfr];refine⟨fun _=>?_,fun h=>by simp at h⟩;have hRj:gi s.R j=-1:=by
     rcases hI.r j qV with h|⟨k,_,h,_⟩
     ·exact h
     ·unfold gi at h;omega
    have HW:∀k,gi (s.L.set i (j:Int)) k=if k=i then(j:Int)else gi s.L k:=fun k=>by rw[vr,hs.L];simp[hi]
    have Sw:∀k,gi (s.R.set j (i:Int)) k=if k=j then(i:Int)else gi s.R k:=fun k=>by rw[vr,hs.R];simp[qV]
    refine⟨⟨by simp[hs.L],by simp[hs.R],by simp[hs.S]⟩,fun a ha hne _=>by simp only[HW,if_neg hne],fun a ha U5=>?_,⟨j,qV,by simp[HW],hE,AS,FF⟩,fun a ha hne=>by simp only[HW,if_neg hne],fun a ha=>?_,fun a ha hne=>?_⟩
    ·have:a≠j:=fun e=>by subst e;rw[AS,FF]at U5;simp at U5
     simp only[Sw,if_neg this]
    ·simp only[HW,Sw]
     by_cases h1:a=i
     ·subst h1;rw[if_pos rfl];exact Or.inr ⟨j,qV,rfl,hE,by simp⟩
     ·rw[if_neg h1];rcases hI.l a ha with h|⟨b,hb,e1,e2,e3⟩
      ·exact Or.inl h
      ·refine Or.inr ⟨b,hb,e1,e2,?_⟩;have:b≠j:=fun e=>by subst e;omega
       rw[if_neg this];exact e3
    ·simp only[HW,Sw]
     by_cases h1:a=j
     ·subst h1;rw[if_pos rfl];exact Or.inr ⟨i,hi,rfl,by simp⟩
     ·rw[if_neg h1];rcases hI.r a ha with h|⟨b,hb,e1,e2⟩
      ·exact Or.inl h
      ·refine Or.inr ⟨b,hb,e1,?_⟩;have:b≠i:=fun e=>by subst e;omega
       rw[if_neg this];exact e2
   ·rw[if_neg hfr];obtain⟨k,hk,hRk,U6⟩:∃k<n,gi s.R j=(k:Int)/\gi s.L k=(j:Int):=by
     rcases hI.r j qV with h|h
     ·unfold gi at h;omega
     ·exact h
    have hkN:(s.R.getD j (-1)).toNat=k:=by unfold gi at hRk;omega
    have YP:k≠i:=fun e=>by subst e;exact h0j U6
    rw[hkN];have hs1:U2 n N ⟨s.L,s.R,s.Se.set j true⟩:=⟨hs.L,hs.R,by simp[hs.S]⟩
    obtain⟨hY,hN⟩:=hrec ⟨s.L,s.R,s.Se.set j true⟩ k (Nat.lt_of_lt_of_le (Ng (by rw[hs.S];exact qV) AS) hu) hs1 hI hk ⟨j,qV,U6,by simp[YO]⟩;generalize rec ⟨s.L,s.R,s.Se.set j true⟩ k=q at hY hN⊢;obtain⟨b,s2⟩:=q;simp only at hY hN⊢
    cases b with
    |true=>
     rw[if_pos rfl];refine⟨fun _=>?_,fun h=>by simp at h⟩;have y:=hY rfl;have HW:∀a,gi (s2.L.set i (j:Int)) a=if a=i then(j:Int)else gi s2.L a:=fun a=>by rw[vr,y.len.L];simp[hi]
     have Sw:∀a,gi (s2.R.set j (i:Int)) a=if a=j then(i:Int)else gi s2.R a:=fun a=>by rw[vr,y.len.R];simp[qV]
     have kL:=y.QP;have kR:=y.QQ;have yr:=y.r;simp only[YO]at kL kR
     -- nobody but the one who finds has j
     have AT:∀a<n,gi s2.L a≠(j:Int):=fun a ha e=>by
      by_cases h1:a=k
      ·subst h1;obtain⟨b,hb,e1,_,e3,_⟩:=y.at_;have:b=j:=by omega
       subst this;simp only[YO,if_pos rfl]at e3
       cases e3
      ·rcases y.l a ha with h|⟨b,hb,e1,_,e3⟩
       ·omega
       ·have:b=j:=by omega
        subst this;have:=kR b qV (Or.inl (by simp));omega
     -- i has what it had
     have tK:gi s2.L i=gi s.L i:=kL i hi (Ne.symm YP) (by
      rcases h0 with h|⟨a,_,h,h'⟩
      ·exact Or.inl h
      ·exact Or.inr ⟨a,h,Or.inl (by by_cases e:a=j<;>simp[e,h'])⟩)
     refine⟨⟨by simp[y.len.L],by simp[y.len.R],y.len.S⟩,fun a ha hne h=>?_,fun a ha U5=>?_,⟨j,qV,by simp[HW],hE,AS,FF⟩,fun a ha hne=>?_,fun a ha=>?_,fun a ha hne=>?_⟩
     ·simp only[HW,if_neg hne]
      by_cases h1:a=k
      ·subst h1;rcases h with h|⟨b,hb,h'⟩
       ·omega
       ·have:b=j:=by omega
        subst this;rw[AS,FF]at h';simp at h'
      ·refine kL a ha h1 ?_;rcases h with h|⟨b,hb,h'⟩
       ·exact Or.inl h
       ·refine Or.inr ⟨b,hb,?_⟩;rcases h' with h'|h'
        ·exact Or.inl (by by_cases e:b=j<;>simp[e,h'])
        ·exact Or.inr h'
     ·have h1:a≠j:=fun e=>by subst e;rw[AS,FF]at U5;simp at U5
      simp only[Sw,if_neg h1];refine kR a ha ?_;rw[if_neg h1];exact U5
     ·simp only[HW,if_neg hne]
      by_cases h1:a=k
      ·subst h1;obtain⟨b,hb,e1,_⟩:=y.at_;omega
      ·exact y.sm a ha h1
     ·simp only[HW,Sw]
      by_cases h1:a=i
      ·subst h1;rw[if_pos rfl];exact Or.inr ⟨j,qV,rfl,hE,by simp⟩
      ·rw[if_neg h1];rcases y.l a ha with h|⟨b,hb,e1,e2,e3⟩
       ·exact Or.inl h
       ·refine Or.inr ⟨b,hb,e1,e2,?_⟩;have:b≠j:=fun e=>by subst e;exact AT a ha e1
        rw[if_neg this];exact e3
     ·simp only[HW,Sw]
      by_cases h1:a=j
      ·subst h1;rw[if_pos rfl];exact Or.inr ⟨i,hi,rfl,by simp⟩
      ·rw[if_neg h1];rcases yr a ha (by simp only;omega)with h|⟨b,hb,e1,e2⟩
       ·exact Or.inl h
       ·refine Or.inr ⟨b,hb,e1,?_⟩;have:b≠i:=fun e=>by subst e;rw[tK]at e2;exact hne e2.symm
        rw[if_neg this];exact e2
    |false=>
     rw[if_neg (by simp)];obtain⟨hn,hc⟩:=hN rfl;obtain⟨nL,nR,Nl,nmono,nnw⟩:=hn;simp only[YO]at nL nR Nl nmono nnw;have hs2:U2 n N s2:=⟨by rw[nL,hs.L],by rw[nR,hs.R],by rw[Nl];simp[hs.S]⟩
     have mono2:∀a,eN s.Se a=true->eN s2.Se a=true:=fun a ha=>nmono a (by by_cases e:a=j<;>simp[e,ha]);have AT:eN s2.Se j=true:=nmono j (by simp);obtain⟨a,b⟩:=ih U3 s2 (Nat.le_trans (HV (by rw[Nl];simp) mono2) hu) hs2 (by rw[nL,nR];exact hI) (by
      rw[nL];rcases h0 with h|⟨a,h1,h2,h3⟩
      ·exact Or.inl h
      ·exact Or.inr ⟨a,h1,h2,mono2 a h3⟩)
     refine⟨fun h=>?_,fun h=>?_⟩
     ·have y:=a h;refine⟨y.len,fun c lY hne hh=>?_,fun c lY hh=>?_,?_,fun c lY hne=>?_,y.l,fun c lY hne=>?_⟩
      ·have:=y.QP c lY hne (by
        rw[nL];rcases hh with hh|⟨d,hd,hh⟩
        ·exact Or.inl hh
        ·exact Or.inr ⟨d,hd,hh.imp (mono2 d) id⟩)
       rw[this,nL]
      ·rw[y.QQ c lY (hh.imp (mono2 c) id),nR]
      ·obtain⟨d,hd,e1,e2,e3,e4⟩:=y.at_;refine⟨d,hd,e1,e2,?_,e4⟩
       cases hx:eN s.Se d with
       |false=>rfl
       |true=>rw[mono2 d hx]at e3;cases e3
      ·rw[y.sm c lY hne,nL]
      ·exact y.r c lY (by rw[nL];exact hne)
     ·obtain⟨b1,b2⟩:=b h;refine⟨⟨b1.L.trans nL,b1.R.trans nR,by rw[b1.len,Nl];simp,fun c lY=>b1.mono c (mono2 c lY),fun c hcN h1 h2=>?_⟩,fun c lY=>?_⟩
      ·cases hx:eN s2.Se c with
       |false=>
        obtain⟨d1,d,hd,e1,e2⟩:=b1.nw c hcN h1 hx;exact⟨d1,d,hd,by rw[<-nR];exact e1,e2⟩
       |true=>
        by_cases YQ:c=j
        ·subst YQ;exact⟨FF,k,hk,hRk,fun j' uy he=>(hc j' uy he).imp (b1.mono j') id⟩
        ·obtain⟨d1,d,hd,e1,e2⟩:=nnw c hcN hx (by rw[if_neg YQ];exact h2);exact⟨d1,d,hd,e1,fun j' uy he=>(e2 j' uy he).imp (b1.mono j') id⟩
      ·rcases List.mem_cons.1 lY with rfl|lY
       ·exact Or.inl (b1.mono c AT)
       ·exact b2 c lY
theorem Nn {g:List (List Nat)} (hg:∀i,∀j∈g.getD i [],j<N) (m:Nat):∀(s:AR) (i:Nat),HU s.Se<m->U2 n N s->Inv n N (Eg g) (gi s.L) (gi s.R)->i<n->(gi s.L i=-1\/∃j<N,gi s.L i=(j:Int)/\eN s.Se j=true)→
  ((tT g F m s i).1=true->Nj n N (Eg g) F i s (tT g F m s i).2)∧
  ((tT g F m s i).1=false->Nh n N (Eg g) F s (tT g F m s i).2/\∀j<N,Eg g i j->eN (tT g F m s i).2.Se j=true\/eN F j=true):=by
 induction m with
 |zero=>intro s i h;omega
 |succ m ih=>
  intro s i hu hs hI hi h0;unfold tT;obtain⟨a,b⟩:=Nk (E:=Eg g) (fun s k hu hs hI hk ⟨j,hj,e,e'⟩=>ih s k hu hs hI hk (Or.inr ⟨j,hj,e,e'⟩)) (g.getD i []) (fun j hj=>⟨hg i j hj,hj⟩) hi s (by omega) hs hI h0;exact⟨a,fun h=>⟨(b h).1,fun j hj he=>(b h).2 j he⟩⟩
end Go.Mg
namespace Go.Mg
variable {n N k:Nat} {E:Nat->Nat->Prop} {L R:List Int} {s':AR}
theorem Mt.sub {m:Nat} {L:Nat->Int} (h:Mt n N E L) (hm:m<=n):Mt m N E L:=
 ⟨fun i hi=>h.ed i (by omega),fun i hi k hk=>h.inj i (by omega) k (by omega)⟩
theorem AU (N j:Nat) (hj:j<N):eN (List.replicate N false) j=false:=by
 unfold eN;rw[List.getD_eq_getElem?_getD,List.getElem?_replicate,if_pos hj];rfl
theorem AV (n i:Nat):gi (List.replicate n (-1)) i=-1:=by
 unfold gi;rw[List.getD_eq_getElem?_getD,List.getElem?_replicate];split<;>rfl
theorem No (N:Nat):HU (List.replicate N false)<=N:=by
 unfold HU;have:=fA (List.replicate N false).length (fun j=>!eN (List.replicate N false) j);simpa using this
structure qW (n N:Nat) (E:Nat->Nat->Prop) (k:Nat) (L R:List Int):Prop where
 lL:L.length=n
 lR:R.length=N
 inv:Inv n N E (gi L) (gi R)
 out:∀i,k<=i->i<n->gi L i=-1
 mx:Mx k N E (gi L)
theorem qW.start (n N:Nat) (E:Nat->Nat->Prop):qW n N E 0 (List.replicate n (-1)) (List.replicate N (-1)):=by
 refine⟨by simp,by simp,⟨fun i _=>.inl (AV _ _),fun j _=>.inl (AV _ _)⟩,fun i _ _=>AV _ _,⟨fun i hi=>absurd hi (by omega),fun i hi=>absurd hi (by omega)⟩,fun _=>false,fun _=>false,fun i hi=>absurd hi (by omega),?_⟩;rw[ik,ik];exact Nat.zero_le _
theorem qW.yes (h:qW n N E k L R) (hk:k<n) (y:Nj n N E (List.replicate N false) k ⟨L,R,List.replicate N false⟩ s'):qW n N E (k+1) s'.L s'.R:=by
 have U6:gi L k=-1:=h.out k (Nat.le_refl _) hk;have hI:Inv n N E (gi s'.L) (gi s'.R):=⟨y.l,fun j hj=>y.r j hj (by simp only[U6];omega)⟩
 refine⟨y.len.L,y.len.R,hI,fun i Hd tK=>?_,hI.mt.sub (by omega),?_⟩
 ·have:=y.sm i tK (by omega);simp only[h.out i (by omega) tK]at this;rcases y.l i tK with e|⟨j,_,e,_⟩
  ·exact e
  ·omega
 ·obtain⟨hM,A,B,hC,hc⟩:=h.mx;refine⟨fun i=>A i||decide (i=k),B,fun i hi j hj he=>?_,?_⟩
  ·by_cases e:i=k
   ·left;simp[e]
   ·rcases hC i (by omega) j hj he with a|b
    ·left;simp[a]
    ·exact .inr b
  ·have e1:cn (k+1) (mt (gi s'.L))=cn k (mt (gi L))+1:=by
    rw[bu];obtain⟨j,_,e,_⟩:=y.at_;rw[if_pos (by simp only[mt,decide_eq_true_eq];omega)]
    congr 1
    refine bH fun i hi=>?_;have:=y.sm i (by omega) (by omega);simp only[mt];exact decide_eq_decide.2 this
   have e2:cn (k+1) (fun i=>A i||decide (i=k))<=cn k A+1:=by
    rw[bu];have:cn k (fun i=>A i||decide (i=k))=cn k A:=bH fun i hi=>by
     have:i≠k:=by omega
     simp[this]
    rw[this];split<;>omega
   omega
theorem qW.no (h:qW n N E k L R) (hk:k<n) (y:Nh n N E (List.replicate N false) ⟨L,R,List.replicate N false⟩ s') (hcl:∀j<N,E k j->eN s'.Se j=true):qW n N E (k+1) L R:=by
 have U6:gi L k=-1:=h.out k (Nat.le_refl _) hk;refine⟨h.lL,h.lR,h.inv,fun i h1 h2=>h.out i (by omega) h2,h.inv.mt.sub (by omega),?_⟩;obtain⟨hM,A,B,hC,hc⟩:=h.mx;have nw:∀j<N,eN s'.Se j=true->∃a<k,gi R j=(a:Int)/\gi L a=(j:Int)/\∀j'<N,E a j'->eN s'.Se j'=true:=by
  intro j hj hs;obtain⟨_,a,ha,h1,h2⟩:=y.nw j hj hs (AU N j hj);have h3:gi L a=(j:Int):=by
   rcases h.inv.r j hj with e|⟨b,hb,e,e'⟩
   ·simp only at h1;omega
   ·simp only at h1;have:a=b:=by omega
    subst this;exact e'
  have hak:a<k:=by
   apply Decidable.byContradiction;intro hn;have:=h.out a (by omega) ha;omega
  refine⟨a,hak,h1,h3,fun j' uy he=>?_⟩;rcases h2 j' uy he with e|e
  ·exact e
  ·rw[AU N j' uy]at e;cases e
 -- the partners of what was seen
 let K:Nat->Bool:=fun a=>decide (0<=gi L a)&&eN s'.Se (gi L a).toNat
 have hK:∀a<k,K a=true->(gi L a).toNat<N/\gi L a=((gi L a).toNat:Int)/\∀j'<N,E a j'->eN s'.Se j'=true:=by
  intro a ha hka;simp only[K,Bool.and_eq_true,decide_eq_true_eq]at hka;obtain⟨h0,h1⟩:=hka;obtain⟨h2,_⟩:=hM.at ha h0;refine⟨h2,by omega,?_⟩;obtain⟨b,hb,e1,e2,e3⟩:=nw _ h2 h1;have:a=b:=h.inv.mt.inj a (by omega) b (by omega) (by rw[e2];omega) h0;subst this;exact e3
 refine⟨fun i=>decide (i<k)&&(A i&&!K i),fun j=>B j||(decide (j<N)&&eN s'.Se j),fun i hi j hj he=>?_,?_⟩
 ·by_cases e:i=k
  ·subst e;right;simp[hcl j hj he,hj]
  ·have QR:i<k:=by omega
   by_cases hKi:K i=true
   ·right;simp[(hK i QR hKi).2.2 j hj he,hj]
   ·rcases hC i QR j hj he with a|b
    ·left;simp[a,QR];simpa using hKi
    ·right;simp[b]
 ·have e1:cn (k+1) (mt (gi L))=cn k (mt (gi L)):=by
   rw[bu,if_neg (by simp[mt,U6])];rfl
  have e2:cn (k+1) (fun i=>decide (i<k)&&(A i&&!K i))=cn k fun i=>A i&&!K i:=by
   rw[bu,if_neg (by simp)];exact bH fun i hi=>by simp[hi]
  have e3:=qT k A K;have e4:cn N (fun j=>B j||(decide (j<N)&&eN s'.Se j))=cn N B+cn N (fun j=>(decide (j<N)&&eN s'.Se j)&&!B j):=QO _ _ _;have e5:cn N (fun j=>(decide (j<N)&&eN s'.Se j)&&!B j)<=cn k fun i=>A i&&K i:=by
   refine AQ (fun j=>(gi R j).toNat) (fun j hj hp=>?_) (fun j hj j' uy hp Sx e=>?_)
   ·simp only[Bool.and_eq_true,decide_eq_true_eq,Bool.not_eq_true']at hp;obtain⟨⟨_,hs⟩,hb⟩:=hp;obtain⟨a,ha,r1,r2,r3⟩:=nw j hj hs;rw[r1,Int.toNat_natCast];refine⟨ha,?_⟩;have hE:E a j:=by
     have:=(hM.at ha (by omega)).2;rw[r2]at this;exact this
    have hA:A a=true:=by
     rcases hC a ha j hj hE with x|x
     ·exact x
     ·rw[hb]at x;cases x
    simp only[Bool.and_eq_true,hA,true_and,K,r2,Int.toNat_natCast,hs,and_true,decide_eq_true_eq];omega
   ·simp only[Bool.and_eq_true,decide_eq_true_eq,Bool.not_eq_true']at hp Sx;obtain⟨a,ha,r1,r2,_⟩:=nw j hj hp.1.2;obtain⟨a',Mu,r1',r2',_⟩:=nw j' uy Sx.1.2;simp only[r1,r1',Int.toNat_natCast]at e;subst e;omega
  omega
theorem qW.step {g:List (List Nat)} (hg:∀i,∀j∈g.getD i [],j<N) (h:qW n N (Eg g) k L R) (hk:k<n) (m:Nat) (hm:N<m):
  qW n N (Eg g) (k+1) (tT g (List.replicate N false) m ⟨L,R,List.replicate N false⟩ k).2.L (tT g (List.replicate N false) m ⟨L,R,List.replicate N false⟩ k).2.R:=by
 have hu:=No N;obtain⟨a,b⟩:=Nn (n:=n) (F:=List.replicate N false) hg m ⟨L,R,List.replicate N false⟩ k (by simp only;omega) ⟨h.lL,h.lR,by simp⟩ h.inv hk (.inl (h.out k (Nat.le_refl _) hk))
 cases e:(tT g (List.replicate N false) m ⟨L,R,List.replicate N false⟩ k).1 with
 |true=>exact h.yes hk (a e)
 |false=>
  obtain⟨c,d⟩:=b e;rw[c.L,c.R];refine h.no hk c fun j hj he=>?_;rcases d j hj he with x|x
  ·exact x
  ·rw[AU N j hj]at x;cases x
end Go.Mg
namespace Go.Mg
section
variable {n N:Nat} {g:List (List Nat)} {L R:Nat->Int} {O:List Bool}
structure HX (n N:Nat) (E:Nat->Nat->Prop) (L:Nat->Int) (O:List Bool) (D Q:List Nat):Prop where
 len:O.length=n
 is:∀i<n,O.getD i true=decide (i∈Q.reverse++D)
 gr:Grown n N E L (Q.reverse++D)
 cl:∀i∈D,∀j<N,E i j->∀k<n,L k=(j:Int)->k∈Q.reverse++D
theorem HX.done {E:Nat->Nat->Prop} {D:List Nat} (h:HX n N E L O D []) (un:∀i<n,L i=-1->i∈D):HS n N E L D/\∀i<n,O.getD i true=decide (i∈D):=
 ⟨⟨h.gr,un,h.cl⟩,h.is⟩
theorem vt (Q:List Nat) (k:Nat) (D:List Nat):(Q++[k]).reverse++D=k::(Q.reverse++D):=by simp
theorem HX.mark {E:Nat->Nat->Prop} {D Q:List Nat} {k:Nat} (h:HX n N E L O D Q) (hk:k<n) (hO:O.getD k true=false) (hr:L k=-1\/∃i∈Q.reverse++D,∃j<N,E i j/\L k=(j:Int)):HX n N E L (O.set k true) D (Q++[k]):=by
 have hn:k∉Q.reverse++D:=by
  have:=h.is k hk;rw[hO]at this;simpa using this.symm
 refine⟨by simp[h.len],fun i hi=>?_,?_,fun i hi j hj he a ha e=>?_⟩
 ·rw[vt,List.getD_eq_getElem?_getD,List.getElem?_set]
  by_cases e:k=i
  ·subst e;simp[h.len,hi]
  ·rw[if_neg e,<-List.getD_eq_getElem?_getD,h.is i hi];have:i≠k:=fun h=>e h.symm;simp[this]
 ·rw[vt];exact⟨h.gr,hk,hn,hr⟩
 ·rw[vt];exact List.mem_cons_of_mem _ (h.cl i hi j hj he a ha e)
end
section
variable {n N:Nat} {E:Nat->Nat->Prop} {L:Nat->Int}
structure Pf (n N:Nat) (E:Nat->Nat->Prop) (L:Nat->Int):Prop where
 m:Mt n N E L
 all:∀i<n,0<=L i
def ki (n N:Nat) (E:Nat->Nat->Prop) (L:Nat->Int) (m:Nat):Prop:=∀a<m,∀L',Pf n N E L'->(∀b<a,L' b=L b)->L a<=L' a
theorem ki.uniq {L':Nat->Int} (h:ki n N E L n) (h':ki n N E L' n) (p:Pf n N E L) (p':Pf n N E L'):∀i<n,L i=L' i:=by
 intro i
 induction i using Nat.strongRecOn with
 |ind i ih=>
  intro hi;have a:=h i hi L' p' fun b hb=>(ih b hb (by omega)).symm;have b:=h' i hi L p fun b hb=>ih b hb (by omega);omega
theorem ki.congr {L':Nat->Int} {m:Nat} (h:ki n N E L m) (e:∀i<m,L' i=L i):ki n N E L' m:=by
 intro a ha L2 p h2;rw[e a ha];exact h a ha L2 p fun b hb=>by rw[h2 b hb,e b (by omega)]
end
end Go.Mg
namespace Go.Mg
def bt (x:UInt64) (v:Nat):Bool:=x.toNat.testBit v
def FG (x:UInt64) (v:Nat):UInt64:=x|||UInt64.ofNat (2^v)
variable {x:UInt64} {v:Nat}
theorem HY (h:bt x v=true):v<64:=by
 apply Decidable.byContradiction;intro hn;unfold bt at h;rw[Nat.testBit_lt_two_pow (Nat.lt_of_lt_of_le x.toNat_lt (Nat.pow_le_pow_right (by omega) (by omega:64<=v)))]at h
 cases h
theorem eO (v:Nat):bt 0 v=false:=by simp[bt]
theorem AW (x:UInt64) (hv:v<64) (k:Nat):bt (FG x v) k=(bt x k||decide (k=v)):=by
 unfold bt FG;rw[UInt64.toNat_or,Nat.testBit_or,UInt64.toNat_ofNat',Nat.mod_eq_of_lt (Nat.pow_lt_pow_right (by omega) hv),Nat.testBit_two_pow]
 congr 1
 by_cases e:v=k
 ·subst e;simp
 ·have:k≠v:=fun h=>e h.symm;simp[e,this]
theorem vu {y:UInt64} (h:∀k<64,bt x k=bt y k):x=y:=by
 apply UInt64.toNat_inj.1;apply Nat.eq_of_testBit_eq;intro k
 by_cases hk:k<64
 ·exact h k hk
 ·have a:bt x k=false:=by cases e:bt x k with
   |false=>rfl
   |true=>exact absurd (HY e) hk
  have b:bt y k=false:=by cases e:bt y k with
   |false=>rfl
   |true=>exact absurd (HY e) hk
  unfold bt at a b;rw[a,b]
def bx (g:List UInt64) (i:Nat):UInt64:=g.getD i 0
structure InF (g:List UInt64) (used:UInt64) (m:List Int):Prop where
 len:m.length=g.length
 ed:∀i<g.length,gi m i=-1\/∃j:Nat,j<64/\gi m i=(j:Int)/\bt (bx g i) j=true/\bt used j=false
 inj:∀i<g.length,∀k<g.length,gi m i=gi m k->0<=gi m i->i=k
theorem yS (v:Int) (m:List Int):gi (v::m) 0=v:=rfl
def Ia (a b:List Int):Prop:=∀i,(∀k<i,gi b k=gi a k)->gi a i<=gi b i
theorem Ia.cons {v:Int} {a b:List Int} (h:Ia a b):Ia (v::a) (v::b):=by
 intro i hk
 cases i with
 |zero=>exact Int.le_refl _
 |succ i=>exact h i fun k AL=>hk (k+1) (by omega)
theorem Ia.lt {v w:Int} (a b:List Int) (h:v<w):Ia (v::a) (w::b):=by
 intro i hk
 cases i with
 |zero=>exact Int.le_of_lt h
 |succ i=>have:=hk 0 (by omega);rw[yS,yS]at this;omega
theorem fC (n:Nat) (p:Nat->Bool):((List.range n).filter p).length=cn n p:=by
 induction n with
 |zero=>rfl
 |succ n ih=>rw[List.range_succ,List.filter_append,List.length_append,ih,bu];congr 1;cases h:p n<;>simp[h]
def Eb (g:List UInt64) (i j:Nat):Prop:=bt (bx g i) j=true
theorem InF.mt {g:List UInt64} {m:List Int} (h:InF g 0 m) {N:Nat} (hN:64<=N):Mt g.length N (Eb g) (gi m):=
 ⟨fun i hi=>(h.ed i hi).imp id fun⟨j,a,b,c,_⟩=>⟨j,by omega,b,c⟩,h.inj⟩
end Go.Mg
namespace Go.Mg
section
variable {n N:Nat} {E:Nat->Nat->Prop}
end
end Go.Mg

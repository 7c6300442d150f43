/- Lemmas of ours. No conditions. -/
import Derived.Test.YtoclemmcphgikaaGreatDoorMgMem0
open Bool renaming false→ZS,true→ZT
open Decidable renaming decide→ZQ
open Bool renaming and_eq_true→ZJ,and_false→Ya,and_self→VK,and_true→Wu,false_and→Yy,false_eq_true→ZD,false_or→Wt,not_eq_true'→Yx,not_false→ZB,not_true→ZE,or_false→Wx,or_self→VF,or_true→VE,true_and→X0,true_or→VD
open Classical renaming axiomOfChoice→Vx,byContradiction→Zn
open Decidable renaming byContradiction→YX
open Int renaming toNat_natCast→Zo
open List renaming getD_eq_getElem?_getD→ZP,getElem?_eq_none→Zz,getElem?_replicate→Zj,getElem?_set→XA,mem_cons_of_mem→YL,mem_cons_self→YB,replicate→ZM
open Nat renaming le_antisymm→VP,le_of_not_lt→VX,le_refl→ZH,le_trans→Zp,lt_of_lt_of_le→Xv,zero_le→Xf
open Or renaming inl→XY,inr→Yj
set_option linter.all false
namespace Go.Mg
def cn:Nat->(Nat->Bool)->Nat
 |0,_=>0
 |n+1,p=>cn n p+(if p n=ZT then 1 else 0)
def bK (n:Nat) (p:Nat->Bool):cn (n+1) p=cn n p+(if p n=ZT then 1 else 0):=rfl
variable {n k m:Nat} {p q:Nat->Bool}
def jb (h:∀i<n,p i=ZT->q i=ZT):cn n p<=cn n q:=by
 induction n with
 |zero=>exact ZH _
 |succ n ih=>
  have:=ih fun i hi=>h i (by omega);have hn:=h n (by omega);rw[bK,bK]
  split
  ·rw[if_pos (hn ‹_›)];omega
  ·omega
def bY (h:∀i<n,p i=q i):cn n p=cn n q:=
 VP (jb fun i hi e=>h i hi▸e) (jb fun i hi e=>(h i hi).symm▸e)
def pW (n:Nat) (p q:Nat->Bool):cn n p=cn n (fun i=>p i&&q i)+cn n (fun i=>p i&&!q i):=by
 induction n with
 |zero=>rfl
 |succ n ih=>
  rw[bK,bK,bK,ih]
  cases hp:p n<;>cases hq:q n<;>simp only[hp,hq,VK,ZE,ZB,Wu,Ya,X0,Yy,VF,VE,VD,Wx,Wt,if_true,if_false,ZD]<;>omega
def PZ (n:Nat) (p:Nat->Bool):cn n p+cn n (fun i=>!p i)=n:=by
 induction n with
 |zero=>rfl
 |succ n ih=>
  rw[bK,bK]
  cases hp:p n<;>simp only[ZE,ZB,if_true,if_false,ZD]<;>omega
def lN (n:Nat) (p:Nat->Bool):cn n p<=n:=by have:=PZ n p;omega
def jD (n:Nat):cn n (fun _=>ZS)=0:=by
 induction n with
 |zero=>rfl
 |succ n ih=>rw[bK];simp[ih]
def ad7 (n:Nat) (p q:Nat->Bool):cn n (fun i=>p i||q i)=cn n p+cn n (fun i=>q i&&!p i):=by
 induction n with
 |zero=>rfl
 |succ n ih=>
  rw[bK,bK,bK,ih]
  cases hp:p n<;>cases hq:q n<;>simp only[hp,hq,VK,ZE,ZB,Wu,Ya,X0,Yy,VF,VE,VD,Wx,Wt,if_true,if_false,ZD]<;>omega
def Ge (n k:Nat) (hk:k<n):cn n (fun i=>ZQ (i=k))=1:=by
 induction n with
 |zero=>omega
 |succ n ih=>
  rw[bK]
  by_cases h:n=k
  ·subst h;rw[show cn n (fun i=>ZQ (i=n))=0 from by
    rw[bY (q:=fun _=>ZS) fun i hi=>by simp;omega,jD]]
   simp
  ·rw[ih (by omega)];simp[h]
def lg (hk:k<n) (hp:p k=ZT):cn n p=cn n (fun i=>p i&&!decide (i=k))+1:=by
 rw[pW n p fun i=>ZQ (i=k)];rw[bY (p:=fun i=>p i&&ZQ (i=k)) (q:=fun i=>ZQ (i=k)) fun i hi=>by
  by_cases h:i=k
  ·subst h;simp[hp]
  ·simp[h],Ge n k hk]
 omega
def afo (hk:k<n) (hp:p k=ZS) (hq:∀i<n,q i=(p i||ZQ (i=k))):cn n q=cn n p+1:=by
 rw[bY hq,ad7];rw[bY (p:=fun i=>ZQ (i=k)&&!p i) (q:=fun i=>ZQ (i=k)) fun i hi=>by
  by_cases h:i=k
  ·subst h;simp[hp]
  ·simp[h],Ge n k hk]
def zT (f:Nat->Nat) (hf:∀i<n,p i=ZT->f i<m/\q (f i)=ZT) (hi:∀i<n,∀k<n,p i=ZT->p k=ZT->f i=f k->i=k):cn n p<=cn m q:=by
 induction n generalizing q with
 |zero=>exact Xf _
 |succ n ih=>
  rw[bK]
  split
  ·rename_i h;obtain⟨h1,h2⟩:=hf n (by omega) h;rw[lg h1 h2];have:=ih (q:=fun j=>q j&&!decide (j=f n)) (fun i hin hp=>by
    obtain⟨a,b⟩:=hf i (by omega) hp;refine⟨a,?_⟩;have:f i≠f n:=fun e=>by have:=hi i (by omega) n (by omega) hp h e;omega
    simp[b,this]) (fun i Pj k hk=>hi i (by omega) k (by omega))
   omega
  ·have:=ih (q:=q) (fun i Pj=>hf i (by omega)) (fun i Pj k hk=>hi i (by omega) k (by omega));omega
def aam (f:Nat->Nat) (hf:∀i<n,p i=ZT->f i<m/\q (f i)=ZT) (hi:∀i<n,∀k<n,p i=ZT->p k=ZT->f i=f k->i=k) (hc:cn m q<=cn n p):
  ∀j<m,q j=ZT->∃i<n,p i=ZT/\f i=j:=by
 intro j hj hq;apply Zn;intro hno;have:=zT (n:=n) (m:=m) (p:=p) (q:=fun k=>q k&&!decide (k=j)) f (fun i hin hp=>by
  obtain⟨a,b⟩:=hf i hin hp;refine⟨a,?_⟩;have:f i≠j:=fun e=>hno ⟨i,hin,hp,e⟩;simp[b,this]) hi
 rw[lg hj hq]at hc;omega
def afp (h:∀i<n,p i=ZT->q i=ZT) (hc:cn n q<=cn n p):∀i<n,q i=ZT->p i=ZT:=by
 intro i hi hq;obtain⟨k,_,hp,e⟩:=aam id (fun i hi hp=>⟨hi,h i hi hp⟩) (fun i _ k _ _ _ e=>e) hc i hi hq
 cases e
 exact hp
section
variable {n N:Nat} {E:Nat->Nat->Prop} {L:Nat->Int} {A B:Nat->Bool}
structure Mt (n N:Nat) (E:Nat->Nat->Prop) (L:Nat->Int):Prop where
 ed:∀i<n,L i=-1\/∃j<N,L i=(j:Int)/\E i j
 inj:∀i<n,∀k<n,L i=L k->0<=L i->i=k
def mt (L:Nat->Int) (i:Nat):Bool:=ZQ (0<=L i)
def Cov (n N:Nat) (E:Nat->Nat->Prop) (A B:Nat->Bool):Prop:=∀i<n,∀j<N,E i j->A i=ZT\/B j=ZT
def Mt.at (h:Mt n N E L) {i:Nat} (hi:i<n) (hp:0<=L i):(L i).toNat<N/\E i (L i).toNat:=by
 rcases h.ed i hi with e|⟨j,hj,e,he⟩
 ·omega
 ·rw[e];exact⟨hj,he⟩
def Mt.part (hM:Mt n N E L) (hC:Cov n N E A B):cn n (fun i=>mt L i&&!A i)<=cn N B:=by
 refine zT (fun i=>(L i).toNat) (fun i hi h=>?_) (fun i hi k hk h1 h2 e=>?_)
 ·simp only[mt,ZJ,decide_eq_true_eq,Yx]at h;obtain⟨h1,h2⟩:=hM.at hi h.1;refine⟨h1,?_⟩;rcases hC i hi _ h1 h2 with a|b
  ·rw[h.2]at a;cases a
  ·exact b
 ·simp only[mt,ZJ,decide_eq_true_eq]at h1 h2;exact hM.inj i hi k hk (by omega) h1.1
def eX (hM:Mt n N E L) (hC:Cov n N E A B):cn n (mt L)<=cn n A+cn N B:=by
 rw[pW n (mt L) A];have h1:cn n (fun i=>mt L i&&A i)<=cn n A:=jb fun i _ h=>by simp at h;exact h.2
 have h2:=hM.part hC;omega
def Mx (n N:Nat) (E:Nat->Nat->Prop) (L:Nat->Int):Prop:=Mt n N E L/\∃A B,Cov n N E A B/\cn n A+cn N B<=cn n (mt L)
def Mx.max (h:Mx n N E L) {L':Nat->Int} (h':Mt n N E L'):cn n (mt L')<=cn n (mt L):=by
 obtain⟨_,A,B,hC,hc⟩:=h;exact Zp (eX h' hC) hc
def flip (L:Nat->Int) (i k:Nat):Nat->Int:=fun l=>if l=i then L k else if l=k then-1 else L l
def Grown (n N:Nat) (E:Nat->Nat->Prop) (L:Nat->Int):List Nat->Prop
 |[]=>True
 |k::l=>Grown n N E L l/\k<n/\k∉l/\(L k=-1\/∃i∈l,∃j<N,E i j/\L k=(j:Int))
def Grown.lt {l:List Nat} (h:Grown n N E L l):∀i∈l,i<n:=by
 induction l with
 |nil=>intro i hi;cases hi
 |cons k l ih=>
  intro i hi;rcases List.mem_cons.1 hi with rfl|hi
  ·exact h.2.1
  ·exact ih h.1 i hi
def Grown.free {l:List Nat} (hg:Grown n N E L l) (hM:Mt n N E L):∀i∈l,∃L',Mt n N E L'/\cn n (mt L')=cn n (mt L)/\L' i=-1/\(∀k<n,k∉l->L' k=L k)/\∀k<n,0<=L' k->∃k'<n,L k'=L' k:=by
 induction l with
 |nil=>intro i hi;cases hi
 |cons k l ih=>
  obtain⟨hg1,hk,hkl,hr⟩:=hg;intro i hi;rcases List.mem_cons.1 hi with rfl|hi
  ·rcases hr with h|⟨p,hp,j,hj,he,hL⟩
   ·exact⟨L,hM,rfl,h,fun _ _ _=>rfl,fun k hk _=>⟨k,hk,rfl⟩⟩
   ·obtain⟨L',hM',hc,hf,hsame,him⟩:=ih hg1 p hp;have hpn:=hg1.lt p hp;have hne:p≠i:=fun e=>hkl (e▸hp);have iU:L' i=(j:Int):=by rw[hsame i hk hkl,hL]
    refine⟨flip L' p i,⟨fun a ha=>?_,fun a ha b hb e h0=>?_⟩,?_,?_,fun a ha hal=>?_,fun a ha h0=>?_⟩
    ·unfold flip
     by_cases h1:a=p
     ·subst h1;rw[if_pos rfl];exact Yj ⟨j,hj,iU,he⟩
     ·rw[if_neg h1]
      by_cases h2:a=i
      ·rw[if_pos h2];exact XY rfl
      ·rw[if_neg h2];exact hM'.ed a ha
    ·unfold flip at e h0
     by_cases h1:a=p
     ·by_cases h2:b=p
      ·omega
      ·rw[if_pos h1,if_neg h2]at e
       by_cases h3:b=i
       ·rw[if_pos h3]at e;omega
       ·rw[if_neg h3]at e;have:=hM'.inj i hk b hb e (by omega);omega
     ·rw[if_neg h1]at e h0
      by_cases h4:a=i
      ·rw[if_pos h4]at h0;omega
      ·rw[if_neg h4]at e h0
       by_cases h2:b=p
       ·rw[if_pos h2]at e;have:=hM'.inj a ha i hk e h0;omega
       ·rw[if_neg h2]at e
        by_cases h3:b=i
        ·rw[if_pos h3]at e;omega
        ·rw[if_neg h3]at e;exact hM'.inj a ha b hb e h0
    ·rw[<-hc];have e1:=lg (n:=n) (k:=i) (p:=mt L') hk (by simp[mt,iU]);have e2:=lg (n:=n) (k:=p) (p:=mt (flip L' p i)) hpn (by simp[mt,flip,iU]);rw[e1,e2]
     congr 1
     refine bY fun a ha=>?_;unfold mt flip
     by_cases h1:a=p
     ·subst h1;simp[hf]
     ·by_cases h2:a=i
      ·subst h2;simp[h1]
      ·simp[h1,h2]
    ·unfold flip;rw[if_neg (Ne.symm hne),if_pos rfl]
    ·unfold flip;have h1:a≠p:=fun e=>hal (by rw[e];exact YL _ hp);have h2:a≠i:=fun e=>hal (by rw[e];exact YB ..);rw[if_neg h1,if_neg h2];exact hsame a ha fun h=>hal (YL _ h)
    ·unfold flip at h0⊢
     by_cases h1:a=p
     ·rw[if_pos h1]at h0⊢;exact him i hk h0
     ·rw[if_neg h1]at h0⊢
      by_cases h2:a=i
      ·rw[if_pos h2]at h0;omega
      ·rw[if_neg h2]at h0⊢;exact him a ha h0
  ·obtain⟨L',hM',hc,hf,hsame,him⟩:=ih hg1 i hi;exact⟨L',hM',hc,hf,fun a ha hal=>hsame a ha fun h=>hal (YL _ h),him⟩
structure vz (n N:Nat) (E:Nat->Nat->Prop) (L:Nat->Int) (l:List Nat):Prop where
 gr:Grown n N E L l
 un:∀i<n,L i=-1->i∈l
 cl:∀i∈l,∀j<N,E i j->∀k<n,L k=(j:Int)->k∈l
open Classical in
noncomputable def nbB (N:Nat) (E:Nat->Nat->Prop) (l:List Nat) (j:Nat):Bool:=ZQ (∃i∈l,E i j)
open Classical in
def zW {l:List Nat} {j:Nat}:nbB N E l j=ZT↔∃i∈l,E i j:=by unfold nbB;exact decide_eq_true_iff
def vz.nb {l:List Nat} (h:vz n N E L l) (hX:Mx n N E L):∀i∈l,∀j<N,E i j->∃k<n,L k=(j:Int):=by
 intro i hi j hj he;obtain⟨L',hM',hc,hf,hsame,him⟩:=h.gr.free hX.1 i hi;have hin:=h.gr.lt i hi;apply Zn;intro hno;have hnj:∀k<n,L' k≠(j:Int):=fun k hk e=>by
  obtain⟨k',MO,e'⟩:=him k hk (by omega);exact hno ⟨k',MO,by omega⟩
 have hM2:Mt n N E (fun l=>if l=i then(j:Int)else L' l):=by
  refine⟨fun a ha=>?_,fun a ha b hb e h0=>?_⟩
  ·by_cases h1:a=i
   ·subst h1;rw[if_pos rfl];exact Yj ⟨j,hj,rfl,he⟩
   ·rw[if_neg h1];exact hM'.ed a ha
  ·by_cases h1:a=i
   ·by_cases h2:b=i
    ·omega
    ·rw[if_pos h1,if_neg h2]at e;exact absurd e.symm (hnj b hb)
   ·rw[if_neg h1]at e h0
    by_cases h2:b=i
    ·rw[if_pos h2]at e;exact absurd e (hnj a ha)
    ·rw[if_neg h2]at e;exact hM'.inj a ha b hb e h0
 have h2:=hX.max hM2;have h3:=afo (n:=n) (k:=i) (p:=mt L') (q:=mt fun l=>if l=i then(j:Int)else L' l) hin (by simp[mt,hf]) (fun a ha=>by
  unfold mt
  by_cases h1:a=i
  ·subst h1;simp
  ·simp[h1])
 omega
def vz.cov {l:List Nat} (h:vz n N E L l):Cov n N E (fun i=>!decide (i∈l)) (nbB N E l):=by
 intro i hi j hj he
 by_cases hl:i∈l
 ·refine Yj ?_;exact zW.2 ⟨i,hl,he⟩
 ·exact XY (by simp[hl])
def vz.small {l:List Nat} (h:vz n N E L l) (hX:Mx n N E L):cn n (fun i=>!decide (i∈l))+cn N (nbB N E l)=cn n (mt L):=by
 refine VP ?_ (eX hX.1 h.cov);rw[pW n (mt L) fun i=>!decide (i∈l)];have h1:cn n (fun i=>!decide (i∈l))<=cn n fun i=>mt L i&&!decide (i∈l):=jb fun i hi e=>by
  simp only[Yx,decide_eq_false_iff_not]at e;have:L i≠-1:=fun e'=>e (h.un i hi e');rcases hX.1.ed i hi with h'|⟨j,_,h',_⟩
  ·exact absurd h' this
  ·simp[mt,h',e]
 have hch:∀j,∃k,j<N->nbB N E l j=ZT->k<n/\L k=(j:Int):=by
  intro j
  by_cases hj:j<N/\nbB N E l j=ZT
  ·obtain⟨hj,hb⟩:=hj;obtain⟨i,hi,he⟩:=zW.1 hb;obtain⟨k,hk,e⟩:=h.nb hX i hi j hj he;exact⟨k,fun _ _=>⟨hk,e⟩⟩
  ·exact⟨0,fun a b=>absurd ⟨a,b⟩ hj⟩
 obtain⟨f,hf⟩:=Vx hch;have h2:cn N (nbB N E l)<=cn n fun i=>mt L i&&!(!decide (i∈l)):=by
  refine zT f (fun j hj hb=>?_) (fun j hj k hk h1 h2 e=>?_)
  ·obtain⟨a,b⟩:=hf j hj hb;refine⟨a,?_⟩;obtain⟨i,hi,he⟩:=zW.1 hb;have:=h.cl i hi j hj he _ a b;simp[mt,b,this]
  ·have e1:=(hf j hj h1).2;have e2:=(hf k hk h2).2;rw[e,e2]at e1;omega
 omega
end
end Go.Mg
namespace Go.Mg
structure Gf where
 L:List Int
 R:List Int
 Se:List Bool
def vA (rec:Gf->Nat->Bool×Gf) (F:List Bool) (i:Nat):List Nat->Gf->Bool×Gf
 |[],s=>(ZS,s)
 |j::l,s=>
  if(s.Se.getD j ZT||F.getD j ZT)=ZT then vA rec F i l s else
  if s.R.getD j (-1)<0 then(ZT,⟨s.L.set i j,s.R.set j i,s.Se.set j ZT⟩)else
  if(rec ⟨s.L,s.R,s.Se.set j ZT⟩ (s.R.getD j (-1)).toNat).1=ZT then
   (ZT,⟨(rec ⟨s.L,s.R,s.Se.set j ZT⟩ (s.R.getD j (-1)).toNat).2.L.set i j,(rec ⟨s.L,s.R,s.Se.set j ZT⟩ (s.R.getD j (-1)).toNat).2.R.set j i,(rec ⟨s.L,s.R,s.Se.set j ZT⟩ (s.R.getD j (-1)).toNat).2.Se⟩)
  else vA rec F i l (rec ⟨s.L,s.R,s.Se.set j ZT⟩ (s.R.getD j (-1)).toNat).2
def yi (g:List (List Nat)) (F:List Bool):Nat->Gf->Nat->Bool×Gf
 |0,s,_=>(ZS,s)
 |m+1,s,i=>vA (yi g F m) F i (g.getD i []) s
def gi (l:List Int) (i:Nat):Int:=l.getD i (-1)
def fY (l:List Bool) (i:Nat):Bool:=l.getD i ZT
def Eg (g:List (List Nat)) (i j:Nat):Prop:=j∈g.getD i []
def zX (l:List Int) (i:Nat) (x:Int) (k:Nat):gi (l.set i x) k=if k=i/\i<l.length then x else gi l k:=by
 unfold gi;rw[ZP,ZP,XA]
 by_cases h:i=k
 ·subst h
  by_cases hl:i<l.length
  ·simp[hl]
  ·simp[hl,Zz (VX hl)]
 ·simp[h,Ne.symm h]
def P0 (l:List Bool) (i:Nat) (x:Bool) (k:Nat):fY (l.set i x) k=if k=i/\i<l.length then x else fY l k:=by
 unfold fY;rw[ZP,ZP,XA]
 by_cases h:i=k
 ·subst h
  by_cases hl:i<l.length
  ·simp[hl]
  ·simp[hl,Zz (VX hl)]
 ·simp[h,Ne.symm h]
def P3 (Se:List Bool):Nat:=cn Se.length fun j=>!fY Se j
variable {a F:List Bool} {n N:Nat} {E:Nat->Nat->Prop}
def P4 {b:List Bool} (hl:b.length=a.length) (h:∀j,fY a j=ZT->fY b j=ZT):P3 b<=P3 a:=by
 unfold P3;rw[hl];refine jb fun j _ hj=>?_
 cases hx:fY a j with
 |false=>rfl
 |true=>rw[h j hx]at hj;cases hj
def aan {j:Nat} (hj:j<a.length) (h:fY a j=ZS):P3 (a.set j ZT)<P3 a:=by
 unfold P3;rw[List.length_set,lg (p:=fun j=>!fY a j) (k:=j) hj (by simp only[h];rfl)];refine Nat.lt_succ_of_le (jb fun k _ hk=>?_);rw[P0]at hk
 by_cases e:k=j
 ·subst e;rw[if_pos ⟨rfl,hj⟩]at hk;cases hk
 ·rw[if_neg (fun h=>e h.1)]at hk;simp[hk,e]
structure Len (n N:Nat) (s:Gf):Prop where
 L:s.L.length=n
 R:s.R.length=N
 S:s.Se.length=N
structure Inv (n N:Nat) (E:Nat->Nat->Prop) (L R:Nat->Int):Prop where
 l:∀i<n,L i=-1\/∃j<N,L i=(j:Int)/\E i j/\R j=(i:Int)
 r:∀j<N,R j=-1\/∃i<n,R j=(i:Int)/\L i=(j:Int)
def Inv.mt {L R:Nat->Int} (h:Inv n N E L R):Mt n N E L:=by
 refine⟨fun i hi=>?_,fun i hi k hk e h0=>?_⟩
 ·rcases h.l i hi with a|⟨j,hj,a,b,_⟩
  ·exact XY a
  ·exact Yj ⟨j,hj,a,b⟩
 ·rcases h.l i hi with a|⟨j,hj,a,b,c⟩
  ·omega
  ·rcases h.l k hk with a'|⟨j',F0,a',b',c'⟩
   ·omega
   ·have:j=j':=by omega
    subst this;omega
structure aao (n N:Nat) (E:Nat->Nat->Prop) (F:List Bool) (s s':Gf):Prop where
 L:s'.L=s.L
 R:s'.R=s.R
 len:s'.Se.length=s.Se.length
 mono:∀j,fY s.Se j=ZT->fY s'.Se j=ZT
 nw:∀j<N,fY s'.Se j=ZT->fY s.Se j=ZS->fY F j=ZS/\∃k<n,gi s.R j=(k:Int)/\∀j'<N,E k j'->fY s'.Se j'=ZT\/fY F j'=ZT
structure aap (n N:Nat) (E:Nat->Nat->Prop) (F:List Bool) (i:Nat) (s s':Gf):Prop where
 len:Len n N s'
 ot:∀l<n,l≠i->(gi s.L l=-1\/∃j:Nat,gi s.L l=(j:Int)/\(fY s.Se j=ZT\/fY F j=ZT))->gi s'.L l=gi s.L l
 ad8:∀j<N,(fY s.Se j=ZT\/fY F j=ZT)->gi s'.R j=gi s.R j
 at_:∃j<N,gi s'.L i=(j:Int)/\E i j/\fY s.Se j=ZS/\fY F j=ZS
 sm:∀l<n,l≠i->(0<=gi s'.L l↔0<=gi s.L l)
 l:∀l<n,gi s'.L l=-1\/∃j<N,gi s'.L l=(j:Int)/\E l j/\gi s'.R j=(l:Int)
 r:∀j<N,(j:Int)≠gi s.L i->gi s'.R j=-1\/∃k<n,gi s'.R j=(k:Int)/\gi s'.L k=(j:Int)
def aaq {m:Nat} {rec:Gf->Nat->Bool×Gf} {i:Nat} (hrec:∀(s:Gf) (k:Nat),P3 s.Se<m->Len n N s->Inv n N E (gi s.L) (gi s.R)->k<n->(∃j<N,gi s.L k=(j:Int)/\fY s.Se j=ZT)→
  ((rec s k).1=ZT->aap n N E F k s (rec s k).2)∧
  ((rec s k).1=ZS->aao n N E F s (rec s k).2/\∀j<N,E k j->fY (rec s k).2.Se j=ZT\/fY F j=ZT))
  (l:List Nat) (hl:∀j∈l,j<N/\E i j) (hi:i<n) (s:Gf) (hu:P3 s.Se<=m) (hs:Len n N s) (hI:Inv n N E (gi s.L) (gi s.R)) (h0:gi s.L i=-1\/∃j<N,gi s.L i=(j:Int)/\fY s.Se j=ZT):
  ((vA rec F i l s).1=ZT->aap n N E F i s (vA rec F i l s).2)∧
  ((vA rec F i l s).1=ZS->aao n N E F s (vA rec F i l s).2/\∀j∈l,fY (vA rec F i l s).2.Se j=ZT\/fY F j=ZT):=by
 induction l generalizing s with
 |nil=>
  refine⟨fun h=>by simp[vA]at h,fun _=>⟨⟨rfl,rfl,rfl,fun _ h=>h,fun j _ h h'=>?_⟩,fun j hj=>by cases hj⟩⟩;rw[vA]at h;rw[h]at h';cases h'
 |cons j l ih=>
  obtain⟨vB,hE⟩:=hl j (YB ..);have hl':∀j∈l,j<N/\E i j:=fun a ha=>hl a (YL _ ha);unfold vA
  by_cases hsk:(s.Se.getD j ZT||F.getD j ZT)=ZT
  ·rw[if_pos hsk];obtain⟨a,b⟩:=ih hl' s hu hs hI h0;refine⟨a,fun h=>?_⟩;obtain⟨b1,b2⟩:=b h;refine⟨b1,fun k hk=>?_⟩;rcases List.mem_cons.1 hk with rfl|hk
   ·rw[Bool.or_eq_true]at hsk;rcases hsk with h'|h'
    ·exact XY (b1.mono k h')
    ·exact Yj h'
   ·exact b2 k hk
  ·rw[if_neg hsk];have Gg:fY s.Se j=ZS:=by unfold fY;revert hsk;cases s.Se.getD j ZT<;>simp
   have MU:fY F j=ZS:=by unfold fY;revert hsk;cases F.getD j ZT<;>simp
   have hSe:∀k,fY (s.Se.set j ZT) k=if k=j then ZT else fY s.Se k:=fun k=>by
    rw[P0,hs.S];simp[vB]
   have h0j:gi s.L i≠(j:Int):=by
    rcases h0 with h|⟨k,_,h,h'⟩
    ·omega
    ·intro e;have:k=j:=by omega
     subst this;rw[Gg]at h';cases h'
   by_cases hfr:s.R.getD j (-1)<0
   ·rw[if_pos hfr];refine⟨fun _=>?_,fun h=>by simp at h⟩;have hRj:gi s.R j=-1:=by
     rcases hI.r j vB with h|⟨k,_,h,_⟩
     ·exact h
     ·unfold gi at h;omega
    have MW:∀k,gi (s.L.set i (j:Int)) k=if k=i then(j:Int)else gi s.L k:=fun k=>by rw[zX,hs.L];simp[hi]
    have Gh:∀k,gi (s.R.set j (i:Int)) k=if k=j then(i:Int)else gi s.R k:=fun k=>by rw[zX,hs.R];simp[vB]
    refine⟨⟨by simp[hs.L],by simp[hs.R],by simp[hs.S]⟩,fun a ha hne _=>by simp only[MW,if_neg hne],fun a ha pC=>?_,⟨j,vB,by simp[MW],hE,Gg,MU⟩,fun a ha hne=>by simp only[MW,if_neg hne],fun a ha=>?_,fun a ha hne=>?_⟩
    ·have:a≠j:=fun e=>by subst e;rw[Gg,MU]at pC;simp at pC
     simp only[Gh,if_neg this]
    ·simp only[MW,Gh]
     by_cases h1:a=i
     ·subst h1;rw[if_pos rfl];exact Yj ⟨j,vB,rfl,hE,by simp⟩
     ·rw[if_neg h1];rcases hI.l a ha with h|⟨b,hb,e1,e2,e3⟩
      ·exact XY h
      ·refine Yj ⟨b,hb,e1,e2,?_⟩;have:b≠j:=fun e=>by subst e;omega
       rw[if_neg this];exact e3
    ·simp only[MW,Gh]
     by_cases h1:a=j
     ·subst h1;rw[if_pos rfl];exact Yj ⟨i,hi,rfl,by simp⟩
     ·rw[if_neg h1];rcases hI.r a ha with h|⟨b,hb,e1,e2⟩
      ·exact XY h
      ·refine Yj ⟨b,hb,e1,?_⟩;have:b≠i:=fun e=>by subst e;omega
       rw[if_neg this];exact e2
   ·rw[if_neg hfr];obtain⟨k,hk,hRk,hLk⟩:∃k<n,gi s.R j=(k:Int)/\gi s.L k=(j:Int):=by
     rcases hI.r j vB with h|h
     ·unfold gi at h;omega
     ·exact h
    have hkN:(s.R.getD j (-1)).toNat=k:=by unfold gi at hRk;omega
    have hki:k≠i:=fun e=>by subst e;exact h0j hLk
    rw[hkN];have hs1:Len n N ⟨s.L,s.R,s.Se.set j ZT⟩:=⟨hs.L,hs.R,by simp[hs.S]⟩
    obtain⟨hY,hN⟩:=hrec ⟨s.L,s.R,s.Se.set j ZT⟩ k (Xv (aan (by rw[hs.S];exact vB) Gg) hu) hs1 hI hk ⟨j,vB,hLk,by simp[hSe]⟩;generalize rec ⟨s.L,s.R,s.Se.set j ZT⟩ k=q at hY hN⊢;obtain⟨b,s2⟩:=q;simp only at hY hN⊢
    cases b with
    |true=>
     rw[if_pos rfl];refine⟨fun _=>?_,fun h=>by simp at h⟩;have y:=hY rfl;have MW:∀a,gi (s2.L.set i (j:Int)) a=if a=i then(j:Int)else gi s2.L a:=fun a=>by rw[zX,y.len.L];simp[hi]
     have Gh:∀a,gi (s2.R.set j (i:Int)) a=if a=j then(i:Int)else gi s2.R a:=fun a=>by rw[zX,y.len.R];simp[vB]
     have kL:=y.ot;have kR:=y.ad8;have yr:=y.r;simp only[hSe]at kL kR
     -- nobody but the one who finds has j
     have UD:∀a<n,gi s2.L a≠(j:Int):=fun a ha e=>by
      by_cases h1:a=k
      ·subst h1;obtain⟨b,hb,e1,_,e3,_⟩:=y.at_;have:b=j:=by omega
       subst this;simp only[hSe,if_pos rfl]at e3
       cases e3
      ·rcases y.l a ha with h|⟨b,hb,e1,_,e3⟩
       ·omega
       ·have:b=j:=by omega
        subst this;have:=kR b vB (XY (by simp));omega
     -- i has what it had
     have ou:gi s2.L i=gi s.L i:=kL i hi (Ne.symm hki) (by
      rcases h0 with h|⟨a,_,h,h'⟩
      ·exact XY h
      ·exact Yj ⟨a,h,XY (by by_cases e:a=j<;>simp[e,h'])⟩)
     refine⟨⟨by simp[y.len.L],by simp[y.len.R],y.len.S⟩,fun a ha hne h=>?_,fun a ha pC=>?_,⟨j,vB,by simp[MW],hE,Gg,MU⟩,fun a ha hne=>?_,fun a ha=>?_,fun a ha hne=>?_⟩
     ·simp only[MW,if_neg hne]
      by_cases h1:a=k
      ·subst h1;rcases h with h|⟨b,hb,h'⟩
       ·omega
       ·have:b=j:=by omega
        subst this;rw[Gg,MU]at h';simp at h'
      ·refine kL a ha h1 ?_;rcases h with h|⟨b,hb,h'⟩
       ·exact XY h
       ·refine Yj ⟨b,hb,?_⟩;rcases h' with h'|h'
        ·exact XY (by by_cases e:b=j<;>simp[e,h'])
        ·exact Yj h'
     ·have h1:a≠j:=fun e=>by subst e;rw[Gg,MU]at pC;simp at pC
      simp only[Gh,if_neg h1];refine kR a ha ?_;rw[if_neg h1];exact pC
     ·simp only[MW,if_neg hne]
      by_cases h1:a=k
      ·subst h1;obtain⟨b,hb,e1,_⟩:=y.at_;omega
      ·exact y.sm a ha h1
     ·simp only[MW,Gh]
      by_cases h1:a=i
      ·subst h1;rw[if_pos rfl];exact Yj ⟨j,vB,rfl,hE,by simp⟩
      ·rw[if_neg h1];rcases y.l a ha with h|⟨b,hb,e1,e2,e3⟩
       ·exact XY h
       ·refine Yj ⟨b,hb,e1,e2,?_⟩;have:b≠j:=fun e=>by subst e;exact UD a ha e1
        rw[if_neg this];exact e3
     ·simp only[MW,Gh]
      by_cases h1:a=j
      ·subst h1;rw[if_pos rfl];exact Yj ⟨i,hi,rfl,by simp⟩
      ·rw[if_neg h1];rcases yr a ha (by simp only;omega)with h|⟨b,hb,e1,e2⟩
       ·exact XY h
       ·refine Yj ⟨b,hb,e1,?_⟩;have:b≠i:=fun e=>by subst e;rw[ou]at e2;exact hne e2.symm
        rw[if_neg this];exact e2
    |false=>
     rw[if_neg (by simp)];obtain⟨hn,hc⟩:=hN rfl;obtain⟨nL,nR,aar,nmono,nnw⟩:=hn;simp only[hSe]at nL nR aar nmono nnw;have hs2:Len n N s2:=⟨by rw[nL,hs.L],by rw[nR,hs.R],by rw[aar];simp[hs.S]⟩
     have mono2:∀a,fY s.Se a=ZT->fY s2.Se a=ZT:=fun a ha=>nmono a (by by_cases e:a=j<;>simp[e,ha]);have UD:fY s2.Se j=ZT:=nmono j (by simp);obtain⟨a,b⟩:=ih hl' s2 (Zp (P4 (by rw[aar];simp) mono2) hu) hs2 (by rw[nL,nR];exact hI) (by
      rw[nL];rcases h0 with h|⟨a,h1,h2,h3⟩
      ·exact XY h
      ·exact Yj ⟨a,h1,h2,mono2 a h3⟩)
     refine⟨fun h=>?_,fun h=>?_⟩
     ·have y:=a h;refine⟨y.len,fun c pB hne hh=>?_,fun c pB hh=>?_,?_,fun c pB hne=>?_,y.l,fun c pB hne=>?_⟩
      ·have:=y.ot c pB hne (by
        rw[nL];rcases hh with hh|⟨d,hd,hh⟩
        ·exact XY hh
        ·exact Yj ⟨d,hd,hh.imp (mono2 d) id⟩)
       rw[this,nL]
      ·rw[y.ad8 c pB (hh.imp (mono2 c) id),nR]
      ·obtain⟨d,hd,e1,e2,e3,e4⟩:=y.at_;refine⟨d,hd,e1,e2,?_,e4⟩
       cases hx:fY s.Se d with
       |false=>rfl
       |true=>rw[mono2 d hx]at e3;cases e3
      ·rw[y.sm c pB hne,nL]
      ·exact y.r c pB (by rw[nL];exact hne)
     ·obtain⟨b1,b2⟩:=b h;refine⟨⟨b1.L.trans nL,b1.R.trans nR,by rw[b1.len,aar];simp,fun c pB=>b1.mono c (mono2 c pB),fun c hcN h1 h2=>?_⟩,fun c pB=>?_⟩
      ·cases hx:fY s2.Se c with
       |false=>
        obtain⟨d1,d,hd,e1,e2⟩:=b1.nw c hcN h1 hx;exact⟨d1,d,hd,by rw[<-nR];exact e1,e2⟩
       |true=>
        by_cases Lm:c=j
        ·subst Lm;exact⟨MU,k,hk,hRk,fun j' F0 he=>(hc j' F0 he).imp (b1.mono j') id⟩
        ·obtain⟨d1,d,hd,e1,e2⟩:=nnw c hcN hx (by rw[if_neg Lm];exact h2);exact⟨d1,d,hd,e1,fun j' F0 he=>(e2 j' F0 he).imp (b1.mono j') id⟩
      ·rcases List.mem_cons.1 pB with rfl|pB
       ·exact XY (b1.mono c UD)
       ·exact b2 c pB
def aas {g:List (List Nat)} (hg:∀i,∀j∈g.getD i [],j<N) (m:Nat):∀(s:Gf) (i:Nat),P3 s.Se<m->Len n N s->Inv n N (Eg g) (gi s.L) (gi s.R)->i<n->(gi s.L i=-1\/∃j<N,gi s.L i=(j:Int)/\fY s.Se j=ZT)→
  ((yi g F m s i).1=ZT->aap n N (Eg g) F i s (yi g F m s i).2)∧
  ((yi g F m s i).1=ZS->aao n N (Eg g) F s (yi g F m s i).2/\∀j<N,Eg g i j->fY (yi g F m s i).2.Se j=ZT\/fY F j=ZT):=by
 induction m with
 |zero=>intro s i h;omega
 |succ m ih=>
  intro s i hu hs hI hi h0;unfold yi;obtain⟨a,b⟩:=aaq (E:=Eg g) (fun s k hu hs hI hk ⟨j,hj,e,e'⟩=>ih s k hu hs hI hk (Yj ⟨j,hj,e,e'⟩)) (g.getD i []) (fun j hj=>⟨hg i j hj,hj⟩) hi s (by omega) hs hI h0;exact⟨a,fun h=>⟨(b h).1,fun j hj he=>(b h).2 j he⟩⟩
end Go.Mg
namespace Go.Mg
variable {n N k:Nat} {E:Nat->Nat->Prop} {L R:List Int} {s':Gf}
def Mt.sub {m:Nat} {L:Nat->Int} (h:Mt n N E L) (hm:m<=n):Mt m N E L:=
 ⟨fun i hi=>h.ed i (by omega),fun i hi k hk=>h.inj i (by omega) k (by omega)⟩
def Gi (N j:Nat) (hj:j<N):fY (ZM N ZS) j=ZS:=by
 unfold fY;rw[ZP,Zj,if_pos hj];rfl
def Gj (n i:Nat):gi (ZM n (-1)) i=-1:=by
 unfold gi;rw[ZP,Zj];split<;>rfl
def aat (N:Nat):P3 (ZM N ZS)<=N:=by
 unfold P3;have:=lN (ZM N ZS).length (fun j=>!fY (ZM N ZS) j);simpa using this
structure vC (n N:Nat) (E:Nat->Nat->Prop) (k:Nat) (L R:List Int):Prop where
 lL:L.length=n
 lR:R.length=N
 inv:Inv n N E (gi L) (gi R)
 out:∀i,k<=i->i<n->gi L i=-1
 mx:Mx k N E (gi L)
def vC.start (n N:Nat) (E:Nat->Nat->Prop):vC n N E 0 (ZM n (-1)) (ZM N (-1)):=by
 refine⟨by simp,by simp,⟨fun i _=>.inl (Gj _ _),fun j _=>.inl (Gj _ _)⟩,fun i _ _=>Gj _ _,⟨fun i hi=>absurd hi (by omega),fun i hi=>absurd hi (by omega)⟩,fun _=>ZS,fun _=>ZS,fun i hi=>absurd hi (by omega),?_⟩;rw[jD,jD];exact Xf _
def vC.yes (h:vC n N E k L R) (hk:k<n) (y:aap n N E (ZM N ZS) k ⟨L,R,ZM N ZS⟩ s'):vC n N E (k+1) s'.L s'.R:=by
 have hLk:gi L k=-1:=h.out k (ZH _) hk;have hI:Inv n N E (gi s'.L) (gi s'.R):=⟨y.l,fun j hj=>y.r j hj (by simp only[hLk];omega)⟩
 refine⟨y.len.L,y.len.R,hI,fun i Pj ou=>?_,hI.mt.sub (by omega),?_⟩
 ·have:=y.sm i ou (by omega);simp only[h.out i (by omega) ou]at this;rcases y.l i ou with e|⟨j,_,e,_⟩
  ·exact e
  ·omega
 ·obtain⟨hM,A,B,hC,hc⟩:=h.mx;refine⟨fun i=>A i||ZQ (i=k),B,fun i hi j hj he=>?_,?_⟩
  ·by_cases e:i=k
   ·left;simp[e]
   ·rcases hC i (by omega) j hj he with a|b
    ·left;simp[a]
    ·exact .inr b
  ·have e1:cn (k+1) (mt (gi s'.L))=cn k (mt (gi L))+1:=by
    rw[bK];obtain⟨j,_,e,_⟩:=y.at_;rw[if_pos (by simp only[mt,decide_eq_true_eq];omega)]
    congr 1
    refine bY fun i hi=>?_;have:=y.sm i (by omega) (by omega);simp only[mt];exact decide_eq_decide.2 this
   have e2:cn (k+1) (fun i=>A i||ZQ (i=k))<=cn k A+1:=by
    rw[bK];have:cn k (fun i=>A i||ZQ (i=k))=cn k A:=bY fun i hi=>by
     have:i≠k:=by omega
     simp[this]
    rw[this];split<;>omega
   omega
def vC.no (h:vC n N E k L R) (hk:k<n) (y:aao n N E (ZM N ZS) ⟨L,R,ZM N ZS⟩ s') (hcl:∀j<N,E k j->fY s'.Se j=ZT):vC n N E (k+1) L R:=by
 have hLk:gi L k=-1:=h.out k (ZH _) hk;refine⟨h.lL,h.lR,h.inv,fun i h1 h2=>h.out i (by omega) h2,h.inv.mt.sub (by omega),?_⟩;obtain⟨hM,A,B,hC,hc⟩:=h.mx;have nw:∀j<N,fY s'.Se j=ZT->∃a<k,gi R j=(a:Int)/\gi L a=(j:Int)/\∀j'<N,E a j'->fY s'.Se j'=ZT:=by
  intro j hj hs;obtain⟨_,a,ha,h1,h2⟩:=y.nw j hj hs (Gi N j hj);have h3:gi L a=(j:Int):=by
   rcases h.inv.r j hj with e|⟨b,hb,e,e'⟩
   ·simp only at h1;omega
   ·simp only at h1;have:a=b:=by omega
    subst this;exact e'
  have hak:a<k:=by
   apply YX;intro hn;have:=h.out a (by omega) ha;omega
  refine⟨a,hak,h1,h3,fun j' F0 he=>?_⟩;rcases h2 j' F0 he with e|e
  ·exact e
  ·rw[Gi N j' F0]at e;cases e
 -- the partners of what was seen
 let K:Nat->Bool:=fun a=>ZQ (0<=gi L a)&&fY s'.Se (gi L a).toNat
 have hK:∀a<k,K a=ZT->(gi L a).toNat<N/\gi L a=((gi L a).toNat:Int)/\∀j'<N,E a j'->fY s'.Se j'=ZT:=by
  intro a ha hka;simp only[K,ZJ,decide_eq_true_eq]at hka;obtain⟨h0,h1⟩:=hka;obtain⟨h2,_⟩:=hM.at ha h0;refine⟨h2,by omega,?_⟩;obtain⟨b,hb,e1,e2,e3⟩:=nw _ h2 h1;have:a=b:=h.inv.mt.inj a (by omega) b (by omega) (by rw[e2];omega) h0;subst this;exact e3
 refine⟨fun i=>ZQ (i<k)&&(A i&&!K i),fun j=>B j||(ZQ (j<N)&&fY s'.Se j),fun i hi j hj he=>?_,?_⟩
 ·by_cases e:i=k
  ·subst e;right;simp[hcl j hj he,hj]
  ·have hik:i<k:=by omega
   by_cases hKi:K i=ZT
   ·right;simp[(hK i hik hKi).2.2 j hj he,hj]
   ·rcases hC i hik j hj he with a|b
    ·left;simp[a,hik];simpa using hKi
    ·right;simp[b]
 ·have e1:cn (k+1) (mt (gi L))=cn k (mt (gi L)):=by
   rw[bK,if_neg (by simp[mt,hLk])];rfl
  have e2:cn (k+1) (fun i=>ZQ (i<k)&&(A i&&!K i))=cn k fun i=>A i&&!K i:=by
   rw[bK,if_neg (by simp)];exact bY fun i hi=>by simp[hi]
  have e3:=pW k A K;have e4:cn N (fun j=>B j||(ZQ (j<N)&&fY s'.Se j))=cn N B+cn N (fun j=>(ZQ (j<N)&&fY s'.Se j)&&!B j):=ad7 _ _ _;have e5:cn N (fun j=>(ZQ (j<N)&&fY s'.Se j)&&!B j)<=cn k fun i=>A i&&K i:=by
   refine zT (fun j=>(gi R j).toNat) (fun j hj hp=>?_) (fun j hj j' F0 hp hp' e=>?_)
   ·simp only[ZJ,decide_eq_true_eq,Yx]at hp;obtain⟨⟨_,hs⟩,hb⟩:=hp;obtain⟨a,ha,r1,r2,r3⟩:=nw j hj hs;rw[r1,Zo];refine⟨ha,?_⟩;have hE:E a j:=by
     have:=(hM.at ha (by omega)).2;rw[r2]at this;exact this
    have hA:A a=ZT:=by
     rcases hC a ha j hj hE with x|x
     ·exact x
     ·rw[hb]at x;cases x
    simp only[ZJ,hA,true_and,K,r2,Zo,hs,and_true,decide_eq_true_eq];omega
   ·simp only[ZJ,decide_eq_true_eq,Yx]at hp hp';obtain⟨a,ha,r1,r2,_⟩:=nw j hj hp.1.2;obtain⟨a',ha',r1',r2',_⟩:=nw j' F0 hp'.1.2;simp only[r1,r1',Zo]at e;subst e;omega
  omega
def vC.step {g:List (List Nat)} (hg:∀i,∀j∈g.getD i [],j<N) (h:vC n N (Eg g) k L R) (hk:k<n) (m:Nat) (hm:N<m):
  vC n N (Eg g) (k+1) (yi g (ZM N ZS) m ⟨L,R,ZM N ZS⟩ k).2.L (yi g (ZM N ZS) m ⟨L,R,ZM N ZS⟩ k).2.R:=by
 have hu:=aat N;obtain⟨a,b⟩:=aas (n:=n) (F:=ZM N ZS) hg m ⟨L,R,ZM N ZS⟩ k (by simp only;omega) ⟨h.lL,h.lR,by simp⟩ h.inv hk (.inl (h.out k (ZH _) hk))
 cases e:(yi g (ZM N ZS) m ⟨L,R,ZM N ZS⟩ k).1 with
 |true=>exact h.yes hk (a e)
 |false=>
  obtain⟨c,d⟩:=b e;rw[c.L,c.R];refine h.no hk c fun j hj he=>?_;rcases d j hj he with x|x
  ·exact x
  ·rw[Gi N j hj]at x;cases x
end Go.Mg
namespace Go.Mg
section
variable {n N:Nat} {g:List (List Nat)} {L R:Nat->Int} {O:List Bool}
structure P5 (n N:Nat) (E:Nat->Nat->Prop) (L:Nat->Int) (O:List Bool) (D Q:List Nat):Prop where
 len:O.length=n
 is:∀i<n,O.getD i ZT=ZQ (i∈Q.reverse++D)
 gr:Grown n N E L (Q.reverse++D)
 cl:∀i∈D,∀j<N,E i j->∀k<n,L k=(j:Int)->k∈Q.reverse++D
def P5.done {E:Nat->Nat->Prop} {D:List Nat} (h:P5 n N E L O D []) (un:∀i<n,L i=-1->i∈D):vz n N E L D/\∀i<n,O.getD i ZT=ZQ (i∈D):=
 ⟨⟨h.gr,un,h.cl⟩,h.is⟩
def zY (Q:List Nat) (k:Nat) (D:List Nat):(Q++[k]).reverse++D=k::(Q.reverse++D):=by simp
def P5.mark {E:Nat->Nat->Prop} {D Q:List Nat} {k:Nat} (h:P5 n N E L O D Q) (hk:k<n) (hO:O.getD k ZT=ZS) (hr:L k=-1\/∃i∈Q.reverse++D,∃j<N,E i j/\L k=(j:Int)):P5 n N E L (O.set k ZT) D (Q++[k]):=by
 have hn:k∉Q.reverse++D:=by
  have:=h.is k hk;rw[hO]at this;simpa using this.symm
 refine⟨by simp[h.len],fun i hi=>?_,?_,fun i hi j hj he a ha e=>?_⟩
 ·rw[zY,ZP,XA]
  by_cases e:k=i
  ·subst e;simp[h.len,hi]
  ·rw[if_neg e,<-ZP,h.is i hi];have:i≠k:=fun h=>e h.symm;simp[this]
 ·rw[zY];exact⟨h.gr,hk,hn,hr⟩
 ·rw[zY];exact YL _ (h.cl i hi j hj he a ha e)
end
section
variable {n N:Nat} {E:Nat->Nat->Prop} {L:Nat->Int}
structure Pf (n N:Nat) (E:Nat->Nat->Prop) (L:Nat->Int):Prop where
 m:Mt n N E L
 all:∀i<n,0<=L i
def nz (n N:Nat) (E:Nat->Nat->Prop) (L:Nat->Int) (m:Nat):Prop:=∀a<m,∀L',Pf n N E L'->(∀b<a,L' b=L b)->L a<=L' a
def nz.uniq {L':Nat->Int} (h:nz n N E L n) (h':nz n N E L' n) (p:Pf n N E L) (p':Pf n N E L'):∀i<n,L i=L' i:=by
 intro i
 induction i using Nat.strongRecOn with
 |ind i ih=>
  intro hi;have a:=h i hi L' p' fun b hb=>(ih b hb (by omega)).symm;have b:=h' i hi L p fun b hb=>ih b hb (by omega);omega
def nz.congr {L':Nat->Int} {m:Nat} (h:nz n N E L m) (e:∀i<m,L' i=L i):nz n N E L' m:=by
 intro a ha L2 p h2;rw[e a ha];exact h a ha L2 p fun b hb=>by rw[h2 b hb,e b (by omega)]
end
end Go.Mg
namespace Go.Mg
def bt (x:UInt64) (v:Nat):Bool:=x.toNat.testBit v
def Gk (x:UInt64) (v:Nat):UInt64:=x|||UInt64.ofNat (2^v)
variable {x:UInt64} {v:Nat}
def pY (h:bt x v=ZT):v<64:=by
 apply YX;intro hn;unfold bt at h;rw[Nat.testBit_lt_two_pow (Xv x.toNat_lt (Nat.pow_le_pow_right (by omega) (by omega:64<=v)))]at h
 cases h
def eF (v:Nat):bt 0 v=ZS:=by simp[bt]
def zZ (x:UInt64) (hv:v<64) (k:Nat):bt (Gk x v) k=(bt x k||ZQ (k=v)):=by
 unfold bt Gk;rw[UInt64.toNat_or,Nat.testBit_or,UInt64.toNat_ofNat',Nat.mod_eq_of_lt (Nat.pow_lt_pow_right (by omega) hv),Nat.testBit_two_pow]
 congr 1
 by_cases e:v=k
 ·subst e;simp
 ·have:k≠v:=fun h=>e h.symm;simp[e,this]
def oP {y:UInt64} (h:∀k<64,bt x k=bt y k):x=y:=by
 apply UInt64.toNat_inj.1;apply Nat.eq_of_testBit_eq;intro k
 by_cases hk:k<64
 ·exact h k hk
 ·have a:bt x k=ZS:=by cases e:bt x k with
   |false=>rfl
   |true=>exact absurd (pY e) hk
  have b:bt y k=ZS:=by cases e:bt y k with
   |false=>rfl
   |true=>exact absurd (pY e) hk
  unfold bt at a b;rw[a,b]
def bx (g:List UInt64) (i:Nat):UInt64:=g.getD i 0
structure InF (g:List UInt64) (used:UInt64) (m:List Int):Prop where
 len:m.length=g.length
 ed:∀i<g.length,gi m i=-1\/∃j:Nat,j<64/\gi m i=(j:Int)/\bt (bx g i) j=ZT/\bt used j=ZS
 inj:∀i<g.length,∀k<g.length,gi m i=gi m k->0<=gi m i->i=k
def Et (v:Int) (m:List Int):gi (v::m) 0=v:=rfl
def P6 (a b:List Int):Prop:=∀i,(∀k<i,gi b k=gi a k)->gi a i<=gi b i
def P6.cons {v:Int} {a b:List Int} (h:P6 a b):P6 (v::a) (v::b):=by
 intro i hk
 cases i with
 |zero=>exact Int.le_refl _
 |succ i=>exact h i fun k MO=>hk (k+1) (by omega)
def P6.lt {v w:Int} (a b:List Int) (h:v<w):P6 (v::a) (w::b):=by
 intro i hk
 cases i with
 |zero=>exact Int.le_of_lt h
 |succ i=>have:=hk 0 (by omega);rw[Et,Et]at this;omega
def gU (n:Nat) (p:Nat->Bool):((List.range n).filter p).length=cn n p:=by
 induction n with
 |zero=>rfl
 |succ n ih=>rw[List.range_succ,List.filter_append,List.length_append,ih,bK];congr 1;cases h:p n<;>simp[h]
def Eb (g:List UInt64) (i j:Nat):Prop:=bt (bx g i) j=ZT
def InF.mt {g:List UInt64} {m:List Int} (h:InF g 0 m) {N:Nat} (hN:64<=N):Mt g.length N (Eb g) (gi m):=
 ⟨fun i hi=>(h.ed i hi).imp id fun⟨j,a,b,c,_⟩=>⟨j,by omega,b,c⟩,h.inj⟩
end Go.Mg
namespace Go.Mg
section
variable {n N:Nat} {E:Nat->Nat->Prop}
end
end Go.Mg

/- Lemmas of ours. No conditions. -/
import Derived.Test.YteeemadonfcliabGreatDoorMgGI
set_option linter.all false
set_option maxRecDepth 100000
namespace Go.Mg
theorem E9 (w:Nat):∀m,gN w m<=gN w (m+1)
 |0=>by rw[gN];exact Nat.zero_le _
 |m+1=>by
  rw[gN,gN];exact Nat.mul_le_mul_left _ (by have:=E9 w m;omega)
theorem uT (w : Nat) {m : Nat} : ∀ {m'}, m <= m' -> gN w m <= gN w m'
  | 0, h => by have : m = 0 := by omega
               subst this; exact Nat.le_refl _
  | m' + 1, h => by
    by_cases e : m = m' + 1
    · subst e; exact Nat.le_refl _
    · exact Nat.le_trans (uT w (show m <= m' by omega)) (E9 w m')
theorem Ua:gN 256 5=1103823438080:=rfl
theorem Kq {q:Nat->Bool} (h:∀u,q u=true->1<=u/\u<=256):(aJ q).length<=256:=by
 unfold aJ;have e:(4096:Nat)=257+3839:=rfl;rw[e,List.range_add,List.filter_append];rw[filter_none (l:=(List.range 3839).map (257+·)) fun x hx=>?_,List.append_nil]
 ·rw[List.range_succ_eq_map,List.filter_cons];have h0:q 0=false:=by
   cases hb:q 0 with
   |false=>rfl
   |true=>have:=(h 0 hb).1;omega
  rw[h0,if_neg (by simp)];refine Nat.le_trans (List.length_filter_le _ _) ?_;simp
 ·obtain⟨y,_,rfl⟩:=List.mem_map.1 hx
  cases hb:q (257+y)with
  |false=>rfl
  |true=>have:=(h _ hb).2;omega
theorem tg {p:eT} {fx:List Int} (hG:bP p) (hU:lj p.el.length fx) (h5:p.el.length<=5):jV p fx:=by
 refine⟨hU,256,fun k=>Kq fun u hu=>hG.us k u hu,Nat.le_refl _,?_⟩;have hz:cK fx<=5:=by
  unfold cK;have:=List.countP_le_length (p:=fun u:Int=>decide (u=0)) (l:=fx);have:=hU.1;omega
 have:=uT 256 hz;rw[Ua]at this;omega
end Go.Mg
namespace Go.Mg
open Go Go.RowKit
def th (most:Int):List Int->List Int×Bool
 |[]=>([],false)
 |a::t=>if(th most t).2=true then(a::(th most t).1,true)else if a<most then((a+1)::(th most t).1,true)else(0::(th most t).1,false)
end Go.Mg
namespace Go.Mg
def ME (t:List Int×Bool):List (List Int)->Prop
 |[]=>False
 |[a]=>th 4 a=t
 |a::b::l=>th 4 a=(b,true)/\ME t (b::l)
theorem ME.app {t:List Int×Bool} {b:List Int} {m:List (List Int)} (hm:ME t (b::m)):∀{l:List (List Int)},ME (b,true) l->ME t (l++b::m)
 |[],h=>h.elim
 |[a],h=>⟨h,hm⟩
 |a::c::l,h=>⟨h.1,ME.app hm h.2⟩
theorem ME.map {z:List Int} (u:Int):∀{l:List (List Int)},ME (z,false) l->ME (if u<4 then((u+1)::z,true)else(0::z,false)) (l.map fun s=>u::s)
 |[],h=>h.elim
 |[a],h=>by
  have h:th 4 a=(z,false):=h
  show th 4 (u::a)=_
  rw[th,h]
  rfl
 |a::b::l,h=>by
  refine⟨?_,ME.map u h.2⟩
  show th 4 (u::a)=(u::b,true)
  rw[th,h.1]
  rfl
def Px (ms:List UInt64) (s:List Int):Bool:=(List.range s.length).all fun k=>decide (0<s.getD k 0)&&bt (ms.getD k 0) (s.getD k 0).toNat
def GF (F:dz) (ms:List UInt64) (s:List Int):Bool:=Px ms s&&decide ((jP F s).1=0)
def Ub (F:dz) (ms:List UInt64):List (List Int):=(ek F.st.length).filter (GF F ms)
def fz (F:dz) (ms:List UInt64) (st:List Int):List (List Int):=(Ub F ms).filter (ng st)
variable {F:dz} {s st:List Int} {ms:List UInt64}
theorem DF:(jP F s).1=0↔F.di.any (ft s)=false/\F.sa.any (fu s)=false/\F.mo.any (iy s)=false:=by
 have key:∀{α:Type} {p:α->Bool} {l:List α},l.findIdx? p=none↔l.any p=false:=fun{α p l}=>by
  rw[List.findIdx?_eq_none_iff,List.any_eq_false];simp
 unfold jP
 cases h1:F.di.findIdx? (ft s)with
 |some i=>
  simp only
  constructor
  ·intro h;omega
  ·rintro⟨h,_⟩;rw[key.2 h]at h1;cases h1
 |none=>
  cases h2:F.sa.findIdx? (fu s)with
  |some i=>
   simp only
   constructor
   ·intro h;omega
   ·rintro⟨_,h,_⟩;rw[key.2 h]at h2;cases h2
  |none=>
   cases h3:F.mo.findIdx? (iy s)with
   |some i=>
    simp only
    constructor
    ·intro h;omega
    ·rintro⟨_,_,h⟩;rw[key.2 h]at h3;cases h3
   |none=>simp only[true_iff];exact⟨key.1 h1,key.1 h2,key.1 h3⟩
theorem bN (ms:List UInt64) (k:Nat):(ms.map bt).getD k (fun _=>false)=bt (ms.getD k 0):=by
 rw[List.getD_eq_getElem?_getD,List.getD_eq_getElem?_getD,List.getElem?_map]
 by_cases h:k<ms.length
 ·rw[List.getElem?_eq_getElem h];rfl
 ·rw[List.getElem?_eq_none (by omega)]
  funext n
  simp[bt]
theorem Kr (hs:∀u∈s,0<=u/\u<=4):GF F ms s=wW (aZ F (ms.map bt)) s:=by
 rw[Bool.eq_iff_iff];unfold GF wW eI;have e:∀k,bM (aZ F (ms.map bt)) k=bt (ms.getD k 0):=fun k=>bN ms k;have mi:∀(k:Nat),k<s.length->bS (bt (ms.getD k 0)) (s.getD k 0)=bt (ms.getD k 0) (s.getD k 0).toNat:=fun k hk=>by
  have:s.getD k 0∈s:=by rw[List.getD_eq_getElem?_getD,List.getElem?_eq_getElem hk];exact List.getElem_mem _
  have:=hs _ this;unfold bS;rw[decide_eq_true (by omega),decide_eq_true (by omega)];rfl
 have hel:Px ms s=true↔(s.all fun u=>decide (u≠0))=true/\Rm (aZ F (ms.map bt)) s=false:=by
  unfold Px;simp only[List.all_eq_true,List.mem_range,Bool.and_eq_true,decide_eq_true_eq];rw[Bool.eq_false_iff]
  constructor
  ·intro h;refine⟨fun u hu=>?_,fun hb=>?_⟩
   ·obtain⟨k,hk,rfl⟩:=List.getElem_of_mem hu;have:=(h k hk).1;rw[List.getD_eq_getElem?_getD,List.getElem?_eq_getElem hk]at this;simp only[Option.getD_some]at this;omega
   ·obtain⟨k,hk,h0,h1⟩:=fI.1 hb;rw[e,mi k hk,(h k hk).2]at h1
    cases h1
  ·rintro⟨h1,h2⟩ k hk;have hm:s.getD k 0∈s:=by rw[List.getD_eq_getElem?_getD,List.getElem?_eq_getElem hk];exact List.getElem_mem _
   have:=h1 _ hm;have:=hs _ hm;refine⟨by omega,?_⟩
   cases hb:bt (ms.getD k 0) (s.getD k 0).toNat with
   |true=>rfl
   |false=>exact absurd (fI.2 ⟨k,hk,by omega,by rw[e,mi k hk];exact hb⟩) h2
 simp only[Bool.and_eq_true,decide_eq_true_eq,hel,DF,Bool.not_eq_true',Bool.or_eq_false_iff]
 constructor
 ·rintro⟨⟨a,b⟩,c,d,e⟩;exact⟨a,⟨⟨b,c⟩,d⟩,e⟩
 ·rintro⟨a,⟨⟨b,c⟩,d⟩,e⟩;exact⟨⟨a,b⟩,c,d,e⟩
theorem xL (hst:st.length=F.st.length) (hms:∀k u,bt (ms.getD k 0) u=true->1<=u/\u<=4):en (aZ F (ms.map bt)) (cK st+1) st=fz F ms st:=by
 rw[E6 (fun k u h=>by rw[bM,aZ,bN]at h;exact hms k u h) _ _ (by omega)];unfold fz Ub;rw[List.filter_filter,hst];refine List.filter_congr fun t ht=>?_;rw[Kr (gq.1 ht).2]
theorem k8 (hst:st.length=F.st.length) (hms:∀k u,bt (ms.getD k 0) u=true->1<=u/\u<=4):cM (aZ F (ms.map bt)) st=(fz F ms st).head?:=by
 unfold cM;rw[xL hst hms]
end Go.Mg
namespace Go.Mg
def Vr (st:List Int):Nat->UInt64
 |0=>0
 |k+1=>if st.getD k 0≠0 then FG (Vr st k) k else Vr st k
theorem tj {st:List Int}:∀{n:Nat},n<=64->bt (Vr st n)=bR st n
 |0,_=>by funext j;simp[Vr,bR,bt]
 |n+1,h=>by
  rw[Vr]
  split
  ·next h1=>
   funext j
   rw[AW _ (by omega),tj (by omega)];unfold bR;rw[Bool.eq_iff_iff];simp only[Bool.or_eq_true,Bool.and_eq_true,decide_eq_true_eq]
   constructor
   ·rintro(⟨a,b⟩|rfl)
    ·exact⟨by omega,b⟩
    ·exact⟨by omega,h1⟩
   ·rintro⟨a,b⟩
    by_cases e:j=n
    ·exact .inr e
    ·exact .inl ⟨by omega,b⟩
  ·next h1=>rw[tj (by omega),sW (by simpa using h1)]
def GG (ms:List UInt64):Prop:=∀k u,bt (ms.getD k 0) u=true->1<=u/\u<=4
theorem dt (r:cQ):GG (aN r):=fun k u h=>by
 by_cases hk:k<rN r
 ·have e:(aN r).getD k 0=mW r k:=by simp[aN,List.getD_eq_getElem?_getD,hk]
  rw[e]at h;unfold bt at h;rw[oC]at h;obtain⟨m,hm⟩:∃m,m=if k<r.el.length then(r.el.getD k 0).toNat % 16 else 15:=⟨_,rfl⟩
  rw[<-hm]at h;have Hk:m<16:=by rw[hm];split<;>omega
  have h2:=Nat.ge_two_pow_of_testBit h;have hu:u<5:=by
   apply Classical.byContradiction;intro hc;have:2^5<=2^u:=Nat.pow_le_pow_right (by omega) (by omega);omega
  have h0:u≠0:=by
   rintro rfl;rw[Nat.testBit_zero]at h;simp at h
  omega
 ·rw[List.getD_eq_getElem?_getD,List.getElem?_eq_none (by rw[cZ];omega)]at h;simp[bt]at h
def pG (F:dz) (ms:List UInt64) (st:List Int) (step user:Int):Int:=
 if step∈nI (jb F.st.length F.be (bt (Vr st st.length)))then
  if user<1\/4<user\/bt (ms.getD step.toNat 0) user.toNat=false then 3 else
  if(jP F (st.set step.toNat user)).1≠0 then 4 else if fz F ms (st.set step.toNat user)=[]then 5 else 1
 else 2
def yk (n:Nat) (st:List Int):Prop:=st.length=n/\∀u∈st,0<=u/\u<=4
variable {n:Nat} {st:List Int} {ms:List UInt64} {F:dz}
theorem yk.set (h:yk n st) {k:Nat} {u:Int} (hu:0<=u/\u<=4):yk n (st.set k u):=by
 refine⟨by rw[List.length_set];exact h.1,fun v hv=>?_⟩;rcases List.mem_or_eq_of_mem_set hv with h'|rfl
 ·exact h.2 v h'
 ·exact hu
theorem yk.U (h:yk n st):lj n st:=⟨h.1,fun u hu=>by have:=h.2 u hu;omega⟩
theorem yk.fit (h:yk n st):pR n st=true:=by
 unfold pR;simp only[Bool.and_eq_true,List.all_eq_true,decide_eq_true_eq];exact⟨fun u hu=>by have:=h.2 u hu;omega,h.1⟩
theorem qt (hm:GG ms) (k:Nat) (u:Int):bS (bt (ms.getD k 0)) u=true↔¬(u<1\/4<u\/bt (ms.getD k 0) u.toNat=false):=by
 unfold bS;simp only[Bool.and_eq_true,decide_eq_true_eq]
 constructor
 ·rintro⟨⟨h0,h1⟩,h2⟩;have:=hm k _ h2;rw[h2];simp;omega
 ·intro h;have h2:bt (ms.getD k 0) u.toNat=true:=by
   cases hb:bt (ms.getD k 0) u.toNat with
   |true=>rfl
   |false=>exact absurd (.inr (.inr hb)) h
  exact⟨⟨by omega,by omega⟩,h2⟩
theorem Fa (hS:yk F.st.length st) (hn:F.st.length<=10) (hm:GG ms) (step user:Int):dY F (ms.map bt) st step user=pG F ms st step user:=by
 unfold dY pG;rw[tj (by rw[hS.1];omega),bN]
 by_cases h1:step∈nI (jb F.st.length F.be (bR st st.length))
 ·rw[if_pos h1,if_pos h1]
  by_cases h2:bS (bt (ms.getD step.toNat 0)) user=true
  ·rw[if_pos h2,if_neg ((qt hm _ _).1 h2)];have MI:=(qt hm _ _).1 h2;have hS':yk F.st.length (st.set step.toNat user):=hS.set (by omega);have e:(jf F (st.set step.toNat user)).2.2=decide ((jP F (st.set step.toNat user)).1=0):=by
    unfold jf;rw[if_pos hS'.fit]
   rw[e]
   by_cases h3:(jP F (st.set step.toNat user)).1=0
   ·rw[if_pos (decide_eq_true h3),if_neg (show¬(jP F (st.set step.toNat user)).1≠0 from fun hc=>hc h3),k8 hS'.1 hm]
    cases fz F ms (st.set step.toNat user)with
    |nil=>rfl
    |cons a l=>rfl
   ·rw[if_neg (fun hc=>h3 (of_decide_eq_true hc)),if_pos h3]
  ·rw[if_neg h2,if_pos];apply Classical.byContradiction;intro hc;exact h2 ((qt hm _ _).2 hc)
 ·rw[if_neg h1,if_neg h1]
theorem nA {t:List Int}:t∈fz F ms st↔(t.length=F.st.length/\∀u∈t,0<=u/\u<=4)/\GF F ms t=true/\ng st t=true:=by
 unfold fz Ub;rw[List.mem_filter,List.mem_filter,gq,and_assoc]
end Go.Mg
namespace Go.Mg
variable {k:Nat} {F:dz} {ms:List UInt64} {st t:List Int}
theorem tn {n:Nat} {be:List eH} {d:Nat->Bool}:k∈jb n be d↔k<n/\jO be d k=false/\bS d (k:Int)=false:=by
 unfold jb;rw[List.mem_filter,List.mem_range];simp only[Bool.and_eq_true,Bool.not_eq_true']
theorem Uc {l:List Nat}:(k:Int)∈nI l↔k∈l:=by
 unfold nI;rw[List.mem_map]
 constructor
 ·rintro⟨j,hj,e⟩;have:j=k:=by omega
  subst this;exact hj
 ·exact fun h=>⟨k,h,rfl⟩
theorem Ud (ht:t∈fz F ms st) (hk:k<F.st.length):1<=t.getD k 0/\t.getD k 0<=4/\bt (ms.getD k 0) (t.getD k 0).toNat=true:=by
 obtain⟨⟨h1,h2⟩,h3,_⟩:=nA.1 ht;unfold GF Px at h3;simp only[Bool.and_eq_true,List.all_eq_true,List.mem_range,decide_eq_true_eq]at h3;obtain⟨ha,hb⟩:=h3.1 k (by omega);have hm:t.getD k 0∈t:=by rw[List.getD_eq_getElem?_getD,List.getElem?_eq_getElem (by omega)];exact List.getElem_mem _
 have:=h2 _ hm;exact⟨by omega,by omega,hb⟩
theorem GH {s:List Int} (hl:t.length=s.length) (ha:ng s t=true) (h:(jP F t).1=0):(jP F s).1=0:=by
 obtain⟨h1,h2,h3⟩:=DF.1 h;apply DF.2;refine⟨?_,?_,?_⟩
 ·cases hb:F.di.any (ft s)with
  |false=>rfl
  |true=>
   obtain⟨x,hx,h4⟩:=List.any_eq_true.1 hb;have h5:ft t x=false:=by
    cases h6:ft t x with
    |false=>rfl
    |true=>rw[List.any_eq_true.2 ⟨x,hx,h6⟩]at h1;cases h1
   exfalso
   have h4':=h4;simp only[ft,sI,Bool.and_eq_true]at h4;have q1:=of_decide_eq_true h4.1;have q2:=of_decide_eq_true h4.2;have e1:=jg ha q1;have e2:=jg ha (k:=x.2.toNat) (by rw[<-q2];exact q1);have:ft t x=true:=by
    simp only[ft,sI,Bool.and_eq_true];exact⟨decide_eq_true (by rw[e1];exact q1),decide_eq_true (by rw[e1,e2];exact q2)⟩
   rw[h5]at this;cases this
 ·cases hb:F.sa.any (fu s)with
  |false=>rfl
  |true=>
   obtain⟨x,hx,h4⟩:=List.any_eq_true.1 hb
   exfalso
   have h4':=h4;simp only[fu,sI,Bool.and_eq_true]at h4;have e1:=jg ha (of_decide_eq_true h4.1.1);have e2:=jg ha (of_decide_eq_true h4.1.2);have:fu t x=true:=by
    simp only[fu,sI,Bool.and_eq_true];exact⟨⟨decide_eq_true (by rw[e1];exact of_decide_eq_true h4.1.1),decide_eq_true (by rw[e2];exact of_decide_eq_true h4.1.2)⟩,decide_eq_true (by rw[e1,e2];exact of_decide_eq_true h4.2)⟩
   rw[List.any_eq_true.2 ⟨x,hx,this⟩]at h2;cases h2
 ·cases hb:F.mo.any (iy s)with
  |false=>rfl
  |true=>
   exfalso
   have hne:eI (⟨[],[],[],F.mo⟩:eT) s=true:=by unfold eI;rw[hb];simp
   have:=zW hl ha hne;unfold eI at this;simp only[List.any_nil,h3,Bool.or_false]at this;obtain⟨k,hk,h4,_⟩:=fI.1 this;obtain⟨x,hx,h5⟩:=List.any_eq_true.1 hb;obtain⟨u,hu,h6⟩:=List.any_eq_true.1 h5;simp only[Bool.and_eq_true,decide_eq_true_eq]at h6;obtain⟨h6,h7⟩:=h6;obtain⟨j,hj,rfl⟩:=List.getElem_of_mem hu;have hg:s.getD j 0=s[j]:=by rw[List.getD_eq_getElem?_getD,List.getElem?_eq_getElem hj];rfl
   have ht:=jg ha (k:=j) (by rw[hg];exact h6);rw[hg,List.getD_eq_getElem?_getD,List.getElem?_eq_getElem (by omega),Option.getD_some]at ht;have hm:iy t x=true:=by
    refine List.any_eq_true.2 ⟨s[j],by rw[<-ht];exact List.getElem_mem _,?_⟩;simp only[Bool.and_eq_true,decide_eq_true_eq];refine⟨h6,Int.lt_of_lt_of_le h7 ?_⟩;rw[hl];have:Q8 s x.2 s[j] s.length<=Q8 t x.2 s[j] s.length:=by
     refine gI fun i _ hi=>?_;simp only[Bool.and_eq_true,decide_eq_true_eq]at hi⊢;exact⟨hi.1,by rw[jg ha (k:=i) (by rw[hi.2];exact h6)];exact hi.2⟩
    omega
   rw[List.any_eq_true.2 ⟨x,hx,hm⟩]at h3;cases h3
theorem Kt (hS:yk F.st.length st) (hn:F.st.length<=10) (ht:t∈fz F ms st) (hk:k∈jb F.st.length F.be (bR st st.length)):
  pG F ms st (k:Int) (t.getD k 0)=1/\t∈fz F ms (st.set k (t.getD k 0)):=by
 obtain⟨rE,hw,hd⟩:=tn.1 hk;have h0:st.getD k 0=0:=by
  rw[fZ (by omega)]at hd;unfold bR at hd;rw[hS.1,decide_eq_true rE,Bool.true_and]at hd;simpa using hd
 obtain⟨h1,h2,h3⟩:=Ud ht rE;obtain⟨hl,hv,ha⟩:=nA.1 ht;have AL:k<st.length:=by rw[hS.1];exact rE
 have Mu:ng (st.set k (t.getD k 0)) t=true:=by
  rw[qn AL h0 (by omega),ha];simp
 have hm:t∈fz F ms (st.set k (t.getD k 0)):=nA.2 ⟨hl,hv,Mu⟩;refine⟨?_,hm⟩;unfold pG;rw[tj (by rw[hS.1];omega),if_pos (Uc.2 hk),Int.toNat_natCast,if_neg,if_neg,if_neg]
 ·intro e;rw[e]at hm;cases hm
 ·intro hc;refine hc (GH (t:=t) (by rw[List.length_set,hS.1];exact hl.1) Mu ?_);unfold GF at hv;simp only[Bool.and_eq_true,decide_eq_true_eq]at hv;exact hv.2
 ·rintro(h|h|h)
  ·omega
  ·omega
  ·rw[h3]at h;cases h
theorem XD (hS:yk F.st.length st) (hn:F.st.length<=10) {step user:Int} (h:pG F ms st step user=1):
  ∃k:Nat,step=(k:Int)/\k∈jb F.st.length F.be (bR st st.length)/\k<F.st.length/\st.getD k 0=0/\1<=user/\user<=4/\bt (ms.getD k 0) user.toNat=true/\fz F ms (st.set k user)≠[]/\yk F.st.length (st.set k user):=by
 unfold pG at h;rw[tj (by rw[hS.1];omega)]at h
 split at h
 ·next h1=>
  split at h
  ·omega
  ·next h2=>
   split at h
   ·omega
   ·next h3=>
    split at h
    ·omega
    ·next h4=>
     unfold nI at h1;obtain⟨k,hk,rfl⟩:=List.mem_map.1 h1;obtain⟨rE,hw,hd⟩:=tn.1 hk;have h0:st.getD k 0=0:=by
      rw[fZ (by omega)]at hd;unfold bR at hd;rw[hS.1,decide_eq_true rE,Bool.true_and]at hd;simpa using hd
     rw[Int.toNat_natCast]at h2 h4;refine⟨k,rfl,hk,rE,h0,by omega,by omega,?_,h4,hS.set (by omega)⟩
     cases hb:bt (ms.getD k 0) user.toNat with
     |true=>rfl
     |false=>exact absurd (.inr (.inr hb)) h2
 ·omega
end Go.Mg

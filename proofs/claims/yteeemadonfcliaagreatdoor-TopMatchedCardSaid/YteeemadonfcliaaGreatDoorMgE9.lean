/- Lemmas of ours. No conditions. -/
import Derived.Test.YteeemadonfcliaaGreatDoorMgG3
import Derived.Test.YteeemadonfcliaaGreatDoorMgM11
set_option linter.all false
set_option maxRecDepth 100000
namespace Go.Mg
theorem oe {p:eX} {t:List Int} (h:eK p t=true) {k:Nat} (hk:k<t.length):t.getD k 0≠0/\cX (bS p k) (t.getD k 0)=true:=by
 simp only[eK,Bool.and_eq_true,List.all_eq_true,decide_eq_true_eq,Bool.not_eq_true']at h;obtain⟨h1,h2⟩:=h;have h0:t.getD k 0≠0:=by
  rw[List.getD_eq_getElem?_getD,List.getElem?_eq_getElem hk];exact h1 _ (List.getElem_mem _)
 refine⟨h0,?_⟩
 cases hm:cX (bS p k) (t.getD k 0)with
 |true=>rfl
 |false=>
  have:IF p t=true:=dY.2 ⟨k,hk,h0,hm⟩;simp[cZ,this]at h2
theorem jw {q:Nat->Bool} {u:Int} (h:cX q u=true):∃n:Nat,u=(n:Int)/\n∈aD q:=by
 unfold cX at h;simp only[Bool.and_eq_true,decide_eq_true_eq]at h;obtain⟨⟨h1,h2⟩,h3⟩:=h;exact⟨u.toNat,by omega,bH.2 ⟨by omega,h3⟩⟩
theorem im {p:eX} (hel:∀k u,bS p k u=true->1<=u):∀(m:Nat) (s t:List Int),eM s<m->(t∈c9 p m s↔t.length=s.length/\et s t=true/\eK p t=true)
 |0,s,t,h=>by omega
 |m+1,s,t,h=>by
  rw[c9]
  by_cases hb:cZ p s=true
  ·rw[if_pos hb];refine⟨(fun h=>by cases h),fun⟨h1,h2,h3⟩=>?_⟩;have:=xf h1 h2 hb;simp[eK,this]at h3
  rw[if_neg hb];have hb:cZ p s=false:=by simpa using hb
  cases hf:s.findIdx? (fun u=>decide (u=0))with
  |none=>
   simp only[List.mem_singleton];have hz:∀u∈s,u≠0:=by
    rw[List.findIdx?_eq_none_iff]at hf;intro u hu;simpa using hf u hu
   constructor
   ·rintro rfl;refine⟨rfl,by simp[et],?_⟩;simp only[eK,hb,Bool.not_false,Bool.and_true,List.all_eq_true,decide_eq_true_eq];exact hz
   ·rintro⟨h1,h2,_⟩;refine List.ext_getElem h1 fun i h3 h4=>?_;have hg:s.getD i 0≠0:=by
     rw[List.getD_eq_getElem?_getD,List.getElem?_eq_getElem h4];exact hz _ (List.getElem_mem _)
    have:=jb h2 hg;rw[List.getD_eq_getElem?_getD,List.getElem?_eq_getElem h3,List.getD_eq_getElem?_getD,List.getElem?_eq_getElem h4]at this;exact this
  |some k=>
   simp only[List.mem_flatMap];obtain⟨hk,h0,hlt⟩:=bf hf
   constructor
   ·rintro⟨u,hu,ht⟩;have hu1:=hel k u (bH.1 hu).2;have hz:=gG hk h0 (u:=(u:Int)) (by omega);obtain⟨a,b,c⟩:=(im hel m _ t (by omega)).1 ht;rw[jq hk h0 (by omega),Bool.and_eq_true]at b;exact⟨by simpa using a,b.1,c⟩
   ·rintro⟨a,b,c⟩;obtain⟨c1,c2⟩:=oe c (k:=k) (by omega);obtain⟨u,hu,hm⟩:=jw c2;have hu1:=hel k u (bH.1 hm).2;have hz:=gG hk h0 (u:=(u:Int)) (by omega);refine⟨u,hm,(im hel m _ t (by omega)).2 ⟨by simpa using a,?_,c⟩⟩;rw[jq hk h0 (by omega),Bool.and_eq_true];exact⟨b,by simpa using hu⟩
theorem lP {α β:Type} {f:α->List β} {t:β} {r:List β}:∀{l:List α},l.flatMap f=t::r->∃a x b r',l=a++x::b/\(∀y∈a,f y=[])/\f x=t::r'
 |[],h=>by cases h
 |x::l,h=>by
  rw[List.flatMap_cons]at h
  cases hx:f x with
  |nil=>
   rw[hx,List.nil_append]at h;obtain⟨a,y,b,r',e,h1,h2⟩:=lP h;exact⟨x::a,y,b,r',by rw[e];rfl,(fun z hz=>by rcases List.mem_cons.1 hz with rfl|hz;exact hx;exact h1 z hz),h2⟩
  |cons t' r'=>
   rw[hx]at h;simp only[List.cons_append,List.cons.injEq]at h;exact⟨[],x,l,r',rfl,(fun z hz=>by cases hz),by rw[hx,h.1]⟩
theorem rZ {p:eX} (hel:∀k u,bS p k u=true->1<=u):∀(m:Nat) (s t:List Int) (r:List (List Int)),eM s<m->c9 p m s=t::r→
  ∀t':List Int,t'.length=s.length->et s t'=true->eK p t'=true->∀a,(∀b<a,t'.getD b 0=t.getD b 0)->t.getD a 0<=t'.getD a 0
 |0,s,_,_,h,_=>by omega
 |m+1,s,t,r,h,hs=>by
  intro t' g1 g2 g3 a ha;have hmem:t∈c9 p (m+1) s:=by rw[hs];simp
  obtain⟨t1,t2,t3⟩:=(im hel (m+1) s t h).1 hmem;rw[c9]at hs
  by_cases hb:cZ p s=true
  ·rw[if_pos hb]at hs;cases hs
  rw[if_neg hb]at hs
  cases hf:s.findIdx? (fun u=>decide (u=0))with
  |none=>
   rw[hf]at hs;simp only[List.cons.injEq]at hs;obtain⟨rfl,_⟩:=hs;have hz:∀u∈s,u≠0:=by
    rw[List.findIdx?_eq_none_iff]at hf;intro u hu;simpa using hf u hu
   by_cases hl:a<s.length
   ·have hg:s.getD a 0≠0:=by
     rw[List.getD_eq_getElem?_getD,List.getElem?_eq_getElem hl];exact hz _ (List.getElem_mem _)
    rw[jb g2 hg];exact Int.le_refl _
   ·rw[List.getD_eq_getElem?_getD,List.getD_eq_getElem?_getD,List.getElem?_eq_none (by omega),List.getElem?_eq_none (by omega)];exact Int.le_refl _
  |some k=>
   rw[hf]at hs;simp only at hs;obtain⟨hk,h0,hlt⟩:=bf hf;obtain⟨us,u,vs,r',e,hn,hx⟩:=lP hs;have Yu:u∈aD (bS p k):=by rw[e];simp
   have hu1:=hel k u (bH.1 Yu).2;have hz:=gG hk h0 (u:=(u:Int)) (by omega);have ht:t∈c9 p m (s.set k (u:Int)):=by rw[hx];simp
   obtain⟨_,b2,_⟩:=(im hel m _ t (by omega)).1 ht;rw[jq hk h0 (by omega),Bool.and_eq_true,decide_eq_true_eq]at b2;have wG:=b2.2;obtain⟨c1,c2⟩:=oe g3 (k:=k) (by omega);obtain⟨u',Mj,Ks⟩:=jw c2;have aaP:=hel k u' (bH.1 Ks).2;have hz':=gG hk h0 (u:=(u':Int)) (by omega);have hle:u<=u':=by
    apply Classical.byContradiction;intro aaQ;have hin:u'∈us:=by
     rw[e]at Ks;rcases List.mem_append.1 Ks with h|h
     ·exact h
     ·have hp:(aD (bS p k)).Pairwise (·<·):=by unfold aD;exact List.Pairwise.filter _ List.pairwise_lt_range
      rw[e,List.pairwise_append]at hp;have OE:=List.pairwise_cons.1 hp.2.1;rcases List.mem_cons.1 h with rfl|h
      ·omega
      ·have:=OE.1 _ h;omega
    have zD:=hn u' hin;have:t'∈c9 p m (s.set k (u':Int)):=(im hel m _ t' (by omega)).2 ⟨by simpa using g1,by rw[jq hk h0 (by omega),Bool.and_eq_true];exact⟨g2,by simpa using Mj⟩,g3⟩;rw[zD]at this
    cases this
   rcases Nat.lt_trichotomy a k with hak|rfl|hak
   ·have hg:=hlt a hak;rw[jb g2 hg,jb t2 hg];exact Int.le_refl _
   ·rw[wG,Mj];omega
   ·have hkk:=ha k hak;refine rZ hel m (s.set k (u:Int)) t r' (by omega) hx t' (by simpa using g1) ?_ g3 a ha;rw[jq hk h0 (by omega),Bool.and_eq_true];exact⟨g2,by simpa using hkk.trans wG⟩
end Go.Mg
namespace Go.Mg
open Go Go.RowKit
variable {i n:Nat} {L:Nat->Int} {D:List Nat}
theorem Qf {ps:List (Nat->Bool)} {j:Nat} (hi:i<ps.length):Eg (gl ps) i j↔j<4096/\(ps.getD i fun _=>false) j=true:=by
 unfold Eg gl;rw[gM ps i hi,bH]
theorem Mx.same {N:Nat} {E:Nat->Nat->Prop} {L':Nat->Int} (h:Mx n N E L) (h':Mx n N E L'):cn n (mt L)=cn n (mt L'):=Nat.le_antisymm (h'.max h.1) (h.max h'.1)
def M6 (ps:List (Nat->Bool)):Prop:=ps.length<=256/\∀p∈ps,∀n,p n=true->n<256
theorem M6.BR {ps:List (Nat->Bool)} (h:M6 ps):je ps=0:=by
 unfold je;rw[if_neg (by have:=h.1;omega),if_neg];intro hw;obtain⟨p,hp,n,_,h1,h2⟩:=lN.1 hw;have:=h.2 p hp n h1;omega
theorem M6.at_ {ps:List (Nat->Bool)} (h:M6 ps) (i n:Nat) (hn:(ps.getD i fun _=>false) n=true):n<256/\i<ps.length:=by
 by_cases hi:i<ps.length
 ·rw[List.getD_eq_getElem?_getD,List.getElem?_eq_getElem hi]at hn;exact⟨h.2 _ (List.getElem_mem _) n hn,hi⟩
 ·rw[List.getD_eq_getElem?_getD,List.getElem?_eq_none (by omega)]at hn
  cases hn
theorem M6.eg {ps:List (Nat->Bool)} (h:M6 ps) (i j:Nat):Eg (gl ps) i j↔(ps.getD i fun _=>false) j=true:=by
 by_cases hi:i<ps.length
 ·rw[Qf hi];exact⟨fun h=>h.2,fun hh=>⟨by have:=(h.at_ i j hh).1;omega,hh⟩⟩
 ·have e:(ps.getD i fun _=>false) j=false:=by rw[List.getD_eq_getElem?_getD,List.getElem?_eq_none (by omega)];rfl
  have e2:(gl ps).getD i []=[]:=by rw[List.getD_eq_getElem?_getD,List.getElem?_eq_none (by rw[Hq];omega)];rfl
  unfold Eg;rw[e,e2];exact⟨fun h=>(by cases h),fun h=>(by cases h)⟩
theorem jg.iff {ps:List (Nat->Bool)} (h:jg ps D) (hi:i<ps.length):i∈D↔∃L',Mx ps.length 256 (Eg (gl ps)) L'/\L' i=-1:=by
 obtain⟨L,hX,hl,hD⟩:=h;exact hD.iff hX hi
theorem jx:i∈gP D n↔i<n/\i∈D:=by unfold gP;simp
theorem jg.uniq {ps:List (Nat->Bool)} {D':List Nat} (h:jg ps D) (h':jg ps D'):gP D ps.length=gP D' ps.length:=by
 unfold gP;refine List.filter_congr fun i hi=>?_;have hi:i<ps.length:=by simpa using hi
 exact decide_eq_decide.2 ((h.iff hi).trans (h'.iff hi).symm)
theorem Qg (D:List Nat) (n:Nat):(gP D n).length=cn n fun i=>decide (i∈D):=cH _ _
theorem Cl (D:List Nat) (n:Nat):(Qd D n).length=cn n fun i=>!decide (i∈D):=cH _ _
theorem Qh (D:List Nat) (n:Nat):(gP D n).length+(Qd D n).length=n:=by rw[Qg,Cl];exact ye _ _
theorem jg.small {ps:List (Nat->Bool)} (hl:M6 ps) (h:jg ps D) (hX:Mx ps.length 256 (Eg (gl ps)) L):
  (Qd D ps.length).length+(aD (IM ps (gP D ps.length))).length=cn ps.length (mt L)/\(∀i<ps.length,∀j<256,Eg (gl ps) i j->i∉D\/IM ps (gP D ps.length) j=true):=by
 obtain⟨L0,hX0,hl0,hD⟩:=h;have hlt:=hD.gr.lt;have hnb:∀j,E0 256 (Eg (gl ps)) D j=IM ps (gP D ps.length) j:=by
  intro j;have:E0 256 (Eg (gl ps)) D j=true↔IM ps (gP D ps.length) j=true:=by
   rw[kE];unfold IM;rw[List.any_eq_true];exact⟨fun⟨i,hi,he⟩=>⟨i,jx.2 ⟨hlt i hi,hi⟩,(hl.eg i j).1 he⟩,fun⟨i,hi,he⟩=>⟨i,(jx.1 hi).2,(hl.eg i j).2 he⟩⟩
  cases h1:E0 256 (Eg (gl ps)) D j<;>cases h2:IM ps (gP D ps.length) j<;>simp_all
 refine⟨?_,fun i hi j hj he=>?_⟩
 ·have hs:=hD.small hX0;rw[Cl,bR,iS (p:=IM ps (gP D ps.length)) (a:=256) (b:=4096) (by omega) (fun j h1 h2=>?_),<-aZ (n:=256) (p:=E0 256 (Eg (gl ps)) D) (fun j _=>hnb j),hs]
  ·exact Mx.same hX0 hX
  ·cases hc:IM ps (gP D ps.length) j with
   |false=>rfl
   |true=>
    unfold IM at hc;rw[List.any_eq_true]at hc;obtain⟨i,_,h⟩:=hc;have:=(hl.at_ i j h).1;omega
 ·by_cases ma:i∈D
  ·refine .inr ?_;rw[<-hnb,kE];exact⟨i,ma,he⟩
  ·exact .inl ma
theorem jy {p:Nat->Bool}:cn n p=n↔∀i<n,p i=true:=
 ⟨Bb,fun h=>by rw[aZ (q:=fun _=>true) h,Jr]⟩
theorem jg.none {ps:List (Nat->Bool)} (h:jg ps D) (hX:Mx ps.length 256 (Eg (gl ps)) L):gP D ps.length=[]↔cn ps.length (mt L)=ps.length:=by
 constructor
 ·intro he;rw[jy];intro i hi;rcases hX.1.ed i hi with h1|⟨j,_,h1,_⟩
  ·have:i∈gP D ps.length:=jx.2 ⟨hi,(h.iff hi).2 ⟨L,hX,h1⟩⟩;rw[he]at this;cases this
  ·unfold mt;exact decide_eq_true (by omega)
 ·intro he
  cases hc:gP D ps.length with
  |nil=>rfl
  |cons i l=>
   have hi:i∈gP D ps.length:=by rw[hc];exact List.mem_cons_self
   obtain⟨QS,ma⟩:=jx.1 hi;obtain⟨L',CB,h0⟩:=(h.iff QS).1 ma;have h1:=Mx.same CB hX;rw[he]at h1;have:=Bb h1 i QS;unfold mt at this;rw[h0]at this;cases this
end Go.Mg
namespace Go.Mg
def Aq (n:Nat):List gR:=(List.range n).flatMap fun k=>(List.range k).map fun i=>(((i:Nat):Int),((k:Nat):Int))
variable {n:Nat} {t:List Int} {L:Nat->Int}
theorem qF {x:gR}:x∈Aq n↔∃i k:Nat,i<k/\k<n/\x=((i:Int),(k:Int)):=by
 unfold Aq;simp only[List.mem_flatMap,List.mem_map,List.mem_range]
 constructor
 ·rintro⟨k,hk,i,hi,rfl⟩;exact⟨i,k,hi,hk,rfl⟩
 ·rintro⟨i,k,hi,hk,rfl⟩;exact⟨k,hk,i,hi,rfl⟩
def r0 (el:List (Nat->Bool)):eX:=⟨el,Aq el.length,[],[]⟩
def Qi (el:List (Nat->Bool)):Prop:=∀k u,(el.getD k fun _=>false) u=true->1<=u/\u<=255
theorem Qi.low {el:List (Nat->Bool)} (h:Qi el) (hn:el.length<=256):M6 el:=by
 refine⟨hn,fun p hp n hn=>?_⟩;obtain⟨i,hi,rfl⟩:=List.getElem_of_mem hp;have:=h i n (by rw[List.getD_eq_getElem?_getD,List.getElem?_eq_getElem hi];exact hn);omega
theorem dF {k:Nat} (h:k<t.length):gi t k=t.getD k 0:=by
 unfold gi;rw[List.getD_eq_getElem?_getD,List.getD_eq_getElem?_getD,List.getElem?_eq_getElem h];rfl
theorem vg {el:List (Nat->Bool)} (h:Qi el) (hn:el.length<=256) (hl:t.length=el.length):eK (r0 el) t=true↔Pf el.length 256 (Eg (gl el)) (gi t):=by
 have low:=h.low hn
 constructor
 ·intro ha;have hat:∀k<el.length,∃j:Nat,gi t k=(j:Int)/\j<256/\1<=j/\Eg (gl el) k j:=fun k hk=>by
   obtain⟨h0,hm⟩:=oe ha (k:=k) (by omega);obtain⟨j,hj,Y4⟩:=jw hm;have hjt:=(bH.1 Y4).2;have:=h k j hjt;exact⟨j,by rw[dF (by omega)];exact hj,by omega,by omega,(low.eg k j).2 hjt⟩
  have hd:(Aq el.length).any (jU t)=false:=by
   simp only[eK,Bool.and_eq_true,Bool.not_eq_true']at ha;have:=ha.2;unfold cZ at this;simp only[Bool.or_eq_false_iff]at this;exact this.1.1.2
  refine⟨⟨fun i hi=>?_,fun i hi k hk e h0=>?_⟩,fun i hi=>?_⟩
  ·obtain⟨j,e,h1,_,h2⟩:=hat i hi;exact .inr ⟨j,h1,e,h2⟩
  ·have key:∀a b:Nat,a<b->b<el.length->gi t a≠gi t b:=fun a b hab hb e=>by
    have hx:(((a:Nat):Int),((b:Nat):Int))∈Aq el.length:=qF.2 ⟨a,b,hab,hb,rfl⟩;rw[List.any_eq_false]at hd;have:=hd _ hx;obtain⟨j,ea,_,j1,_⟩:=hat a (by omega);rw[dF (by omega),dF (by omega)]at e;rw[dF (by omega)]at ea;refine this ?_;simp only[jU,sI,Int.toNat_natCast,Bool.and_eq_true];exact⟨decide_eq_true (by omega),decide_eq_true e⟩
   rcases Nat.lt_trichotomy i k with h'|h'|h'
   ·exact absurd e (key i k h' hk)
   ·exact h'
   ·exact absurd e.symm (key k i h' hi)
  ·obtain⟨j,e,_⟩:=hat i hi;rw[e];omega
 ·intro hp;have hat:∀k<el.length,∃j:Nat,t.getD k 0=(j:Int)/\1<=j/\(el.getD k fun _=>false) j=true:=fun k hk=>by
   obtain⟨h1,h2⟩:=hp.m.at hk (hp.all k hk);have:=(low.eg k _).1 h2;have h3:=h k _ this;have h4:=hp.all k hk;rw[dF (by omega)]at this h3 h4;exact⟨(t.getD k 0).toNat,by omega,by omega,this⟩
  simp only[eK,Bool.and_eq_true,Bool.not_eq_true',List.all_eq_true,decide_eq_true_eq];refine⟨fun u hu=>?_,?_⟩
  ·obtain⟨k,hk,rfl⟩:=List.getElem_of_mem hu;obtain⟨j,e,h1,_⟩:=hat k (by omega);rw[List.getD_eq_getElem?_getD,List.getElem?_eq_getElem hk,Option.getD_some]at e;omega
  ·unfold cZ;simp only[Bool.or_eq_false_iff];refine⟨⟨⟨?_,?_⟩,rfl⟩,rfl⟩
   ·cases hb:IF (r0 el) t with
    |false=>rfl
    |true=>
     obtain⟨k,hk,h1,h2⟩:=dY.1 hb;obtain⟨j,e,j1,j2⟩:=hat k (by omega);have:=h k j j2;rw[e,lE (by omega)]at h2;have h2:(el.getD k fun _=>false) j=false:=h2;rw[h2]at j2;cases j2
   ·rw[List.any_eq_false];intro x hx hd;obtain⟨i,k,hik,hk,rfl⟩:=qF.1 hx;have hk:k<el.length:=hk;simp only[jU,sI,Int.toNat_natCast,Bool.and_eq_true,decide_eq_true_eq]at hd;have:=hp.m.inj i (by omega) k hk (by rw[dF (by omega),dF (by omega)];exact of_decide_eq_true hd.2) (hp.all i (by omega));omega
theorem DI {el:List (Nat->Bool)} (h:Qi el) (hn:el.length<=256) (hs:dd (r0 el) (List.replicate el.length 0)=some t):t.length=el.length/\Pf el.length 256 (Eg (gl el)) (gi t)/\dT el.length 256 (Eg (gl el)) (gi t) el.length:=by
 have hel:∀k u,bS (r0 el) k u=true->1<=u:=fun k u hk=>(h k u hk).1;unfold dd at hs;have agr0:∀t':List Int,et (List.replicate el.length 0) t'=true:=fun t'=>by
  simp only[et,List.all_eq_true,List.mem_range,Bool.or_eq_true,decide_eq_true_eq];intro k _
  left
  rw[List.getD_eq_getElem?_getD,List.getElem?_replicate]
  split<;>rfl
 cases hc:c9 (r0 el) (eM (List.replicate el.length 0)+1) (List.replicate el.length 0)with
 |nil=>rw[hc]at hs;cases hs
 |cons t' r=>
  rw[hc]at hs
  cases hs
  have hm:t∈c9 (r0 el) (eM (List.replicate el.length 0)+1) (List.replicate el.length 0):=by rw[hc];simp
  obtain⟨a,b,c⟩:=(im hel _ _ t (by omega)).1 hm;rw[List.length_replicate]at a;refine⟨a,(vg h hn a).1 c,fun k hk L' hp hb=>?_⟩;obtain⟨T,hT⟩:∃T:List Int,T=(List.range el.length).map L':=⟨_,rfl⟩
  have TZ:T.length=el.length:=by rw[hT];simp
  have Hy:∀i<el.length,gi T i=L' i:=fun i hi=>by rw[hT];unfold gi;simp[List.getD_eq_getElem?_getD,hi]
  have Z5:Pf el.length 256 (Eg (gl el)) (gi T):=by
   refine⟨⟨fun i hi=>by rw[Hy i hi];exact hp.m.ed i hi,fun i hi k hk=>by rw[Hy i hi,Hy k hk];exact hp.m.inj i hi k hk⟩,fun i hi=>by rw[Hy i hi];exact hp.all i hi⟩
  have:=rZ hel _ _ t r (by omega) hc T (by rw[List.length_replicate];exact TZ) (agr0 T) ((vg h hn TZ).2 Z5) k fun i hi=>by
   rw[<-dF (by omega),<-dF (by omega),Hy i (by omega)];exact hb i hi
  rw[<-dF (by omega),<-dF (by omega),Hy k hk]at this;exact this
theorem xF {el:List (Nat->Bool)} (h:Qi el) (hn:el.length<=256) (hs:dd (r0 el) (List.replicate el.length 0)=none) (hp:Pf el.length 256 (Eg (gl el)) L):False:=by
 have hel:∀k u,bS (r0 el) k u=true->1<=u:=fun k u hk=>(h k u hk).1;obtain⟨T,hT⟩:∃T:List Int,T=(List.range el.length).map L:=⟨_,rfl⟩
 have TZ:T.length=el.length:=by rw[hT];simp
 have Hy:∀i<el.length,gi T i=L i:=fun i hi=>by rw[hT];unfold gi;simp[List.getD_eq_getElem?_getD,hi]
 have Z5:Pf el.length 256 (Eg (gl el)) (gi T):=by
  refine⟨⟨fun i hi=>by rw[Hy i hi];exact hp.m.ed i hi,fun i hi k hk=>by rw[Hy i hi,Hy k hk];exact hp.m.inj i hi k hk⟩,fun i hi=>by rw[Hy i hi];exact hp.all i hi⟩
 have hm:T∈c9 (r0 el) (eM (List.replicate el.length 0)+1) (List.replicate el.length 0):=(im hel _ _ T (by omega)).2 ⟨by rw[List.length_replicate];exact TZ,by
  simp only[et,List.all_eq_true,List.mem_range,Bool.or_eq_true,decide_eq_true_eq];intro k _
  left
  rw[List.getD_eq_getElem?_getD,List.getElem?_replicate]
  split<;>rfl,(vg h hn TZ).2 Z5⟩
 unfold dd at hs
 cases hc:c9 (r0 el) (eM (List.replicate el.length 0)+1) (List.replicate el.length 0)with
 |nil=>rw[hc]at hm;cases hm
 |cons a l=>rw[hc]at hs;cases hs
theorem Pf.full {N:Nat} {E:Nat->Nat->Prop} (h:Pf n N E L):cn n (mt L)=n:=by
 rw[jy];intro i hi;unfold mt;exact decide_eq_true (h.all i hi)
theorem Hz {el:List (Nat->Bool)} (h:Qi el) (hn:el.length<=256) (hs:dd (r0 el) (List.replicate el.length 0)=none) {D:List Nat} (hD:jg el D):gP D el.length≠[]/\BO (r0 el) (gP D el.length) (List.replicate el.length 0):=by
 have low:=h.low hn;have hD0:=hD;obtain⟨L,hX,hl,hL⟩:=hD;have hlt:cn el.length (mt (gi L))≠el.length:=fun e=>by
  have:=jy.1 e;exact xF h hn hs (L:=gi L) ⟨hX.1,fun i hi=>by have:=this i hi;unfold mt at this;simpa using this⟩
 have hle:cn el.length (mt (gi L))<=el.length:=dw _ _;have hne:gP D el.length≠[]:=fun e=>hlt ((hD0.none hX).1 e);obtain⟨h1,h2⟩:=hD0.small low hX;have h3:=Qh D el.length;refine⟨hne,fun k hk=>?_,fun i k hi j hj=>?_,?_,by have:=Ht D el.length;omega⟩
 ·have:=(jx.1 hk).1;refine⟨by rw[List.length_replicate];exact this,?_⟩;rw[List.getD_eq_getElem?_getD,List.getElem?_replicate]
  split<;>rfl
 ·have hp:(gP D el.length).Pairwise (·<·):=by unfold gP;exact List.Pairwise.filter _ List.pairwise_lt_range
  obtain⟨rD,hie⟩:=List.getElem?_eq_some_iff.1 hi;obtain⟨a,ha,hae⟩:=List.getElem_of_mem hj;rw[List.getElem_take]at hae;rw[List.length_take]at ha;have hjk:j<k:=by
   rw[<-hae,<-hie];exact List.pairwise_iff_getElem.1 hp a i (by omega) rD (by omega)
  have hk:k∈gP D el.length:=by rw[<-hie];exact List.getElem_mem _
  exact⟨by omega,.inl (qF.2 ⟨j,k,hjk,(jx.1 hk).1,rfl⟩)⟩
 ·have e:(fun u=>(gP D el.length).any fun k=>bS (r0 el) k u)=IM el (gP D el.length):=rfl;rw[e];omega
end Go.Mg

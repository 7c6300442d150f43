/- Lemmas of ours. No conditions. -/
import Derived.Test.YteeemadonfcliaaGreatDoorMgGI
set_option linter.all false
set_option maxRecDepth 100000
namespace Go.Mg
theorem BU (w:Nat):∀m,gN w m<=gN w (m+1)
 |0=>by rw[gN];exact Nat.zero_le _
 |m+1=>by
  rw[gN,gN];exact Nat.mul_le_mul_left _ (by have:=BU w m;omega)
theorem rU (w : Nat) {m : Nat} : ∀ {m'}, m <= m' -> gN w m <= gN w m'
  | 0, h => by have : m = 0 := by omega
               subst this; exact Nat.le_refl _
  | m' + 1, h => by
    by_cases e : m = m' + 1
    · subst e; exact Nat.le_refl _
    · exact Nat.le_trans (rU w (show m <= m' by omega)) (BU w m')
theorem PV:gN 256 5=1103823438080:=rfl
theorem G0 {q:Nat->Bool} (h:∀u,q u=true->1<=u/\u<=256):(aD q).length<=256:=by
 unfold aD;have e:(4096:Nat)=257+3839:=rfl;rw[e,List.range_add,List.filter_append];rw[filter_none (l:=(List.range 3839).map (257+·)) fun x hx=>?_,List.append_nil]
 ·rw[List.range_succ_eq_map,List.filter_cons];have h0:q 0=false:=by
   cases hb:q 0 with
   |false=>rfl
   |true=>have:=(h 0 hb).1;omega
  rw[h0,if_neg (by simp)];refine Nat.le_trans (List.length_filter_le _ _) ?_;simp
 ·obtain⟨y,_,rfl⟩:=List.mem_map.1 hx
  cases hb:q (257+y)with
  |false=>rfl
  |true=>have:=(h _ hb).2;omega
theorem Ab {p:eX} {fx:List Int} (hG:cD p) (hU:jV p.el.length fx) (h5:p.el.length<=5):xq p fx:=by
 refine⟨hU,256,fun k=>G0 fun u hu=>hG.us k u hu,Nat.le_refl _,?_⟩;have hz:eM fx<=5:=by
  unfold eM;have:=List.countP_le_length (p:=fun u:Int=>decide (u=0)) (l:=fx);have:=hU.1;omega
 have:=rU 256 hz;rw[PV]at this;omega
end Go.Mg
namespace Go.Mg
open Go Go.RowKit
def ql (most:Int):List Int->List Int×Bool
 |[]=>([],false)
 |a::t=>if(ql most t).2=true then(a::(ql most t).1,true)else if a<most then((a+1)::(ql most t).1,true)else(0::(ql most t).1,false)
end Go.Mg
namespace Go.Mg
def II (t:List Int×Bool):List (List Int)->Prop
 |[]=>False
 |[a]=>ql 4 a=t
 |a::b::l=>ql 4 a=(b,true)/\II t (b::l)
theorem II.app {t:List Int×Bool} {b:List Int} {m:List (List Int)} (hm:II t (b::m)):∀{l:List (List Int)},II (b,true) l->II t (l++b::m)
 |[],h=>h.elim
 |[a],h=>⟨h,hm⟩
 |a::c::l,h=>⟨h.1,II.app hm h.2⟩
theorem II.map {z:List Int} (u:Int):∀{l:List (List Int)},II (z,false) l->II (if u<4 then((u+1)::z,true)else(0::z,false)) (l.map fun s=>u::s)
 |[],h=>h.elim
 |[a],h=>by
  have h:ql 4 a=(z,false):=h
  show ql 4 (u::a)=_
  rw[ql,h]
  rfl
 |a::b::l,h=>by
  refine⟨?_,II.map u h.2⟩
  show ql 4 (u::a)=(u::b,true)
  rw[ql,h.1]
  rfl
def PW (ms:List UInt64) (s:List Int):Bool:=(List.range s.length).all fun k=>decide (0<s.getD k 0)&&bt (ms.getD k 0) (s.getD k 0).toNat
def PY (F:jn) (ms:List UInt64) (s:List Int):Bool:=PW ms s&&decide ((OZ F s).1=0)
def Ty (F:jn) (ms:List UInt64):List (List Int):=(dH F.st.length).filter (PY F ms)
def PZ (F:jn) (ms:List UInt64) (st:List Int):List (List Int):=(Ty F ms).filter (et st)
variable {F:jn} {s st:List Int} {ms:List UInt64}
theorem P0:(OZ F s).1=0↔F.di.any (jU s)=false/\F.sa.any (mB s)=false/\F.mo.any (mC s)=false:=by
 have key:∀{α:Type} {p:α->Bool} {l:List α},l.findIdx? p=none↔l.any p=false:=fun{α p l}=>by
  rw[List.findIdx?_eq_none_iff,List.any_eq_false];simp
 unfold OZ
 cases h1:F.di.findIdx? (jU s)with
 |some i=>
  simp only
  constructor
  ·intro h;omega
  ·rintro⟨h,_⟩;rw[key.2 h]at h1;cases h1
 |none=>
  cases h2:F.sa.findIdx? (mB s)with
  |some i=>
   simp only
   constructor
   ·intro h;omega
   ·rintro⟨_,h,_⟩;rw[key.2 h]at h2;cases h2
  |none=>
   cases h3:F.mo.findIdx? (mC s)with
   |some i=>
    simp only
    constructor
    ·intro h;omega
    ·rintro⟨_,_,h⟩;rw[key.2 h]at h3;cases h3
   |none=>simp only[true_iff];exact⟨key.1 h1,key.1 h2,key.1 h3⟩
theorem fT (ms:List UInt64) (k:Nat):(ms.map bt).getD k (fun _=>false)=bt (ms.getD k 0):=by
 rw[List.getD_eq_getElem?_getD,List.getD_eq_getElem?_getD,List.getElem?_map]
 by_cases h:k<ms.length
 ·rw[List.getElem?_eq_getElem h];rfl
 ·rw[List.getElem?_eq_none (by omega)]
  funext n
  simp[bt]
theorem G6 (hs:∀u∈s,0<=u/\u<=4):PY F ms s=eK (bV F (ms.map bt)) s:=by
 rw[Bool.eq_iff_iff];unfold PY eK cZ;have e:∀k,bS (bV F (ms.map bt)) k=bt (ms.getD k 0):=fun k=>fT ms k;have mi:∀(k:Nat),k<s.length->cX (bt (ms.getD k 0)) (s.getD k 0)=bt (ms.getD k 0) (s.getD k 0).toNat:=fun k hk=>by
  have:s.getD k 0∈s:=by rw[List.getD_eq_getElem?_getD,List.getElem?_eq_getElem hk];exact List.getElem_mem _
  have:=hs _ this;unfold cX;rw[decide_eq_true (by omega),decide_eq_true (by omega)];rfl
 have hel:PW ms s=true↔(s.all fun u=>decide (u≠0))=true/\IF (bV F (ms.map bt)) s=false:=by
  unfold PW;simp only[List.all_eq_true,List.mem_range,Bool.and_eq_true,decide_eq_true_eq];rw[Bool.eq_false_iff]
  constructor
  ·intro h;refine⟨fun u hu=>?_,fun hb=>?_⟩
   ·obtain⟨k,hk,rfl⟩:=List.getElem_of_mem hu;have:=(h k hk).1;rw[List.getD_eq_getElem?_getD,List.getElem?_eq_getElem hk]at this;simp only[Option.getD_some]at this;omega
   ·obtain⟨k,hk,h0,h1⟩:=dY.1 hb;rw[e,mi k hk,(h k hk).2]at h1
    cases h1
  ·rintro⟨h1,h2⟩ k hk;have hm:s.getD k 0∈s:=by rw[List.getD_eq_getElem?_getD,List.getElem?_eq_getElem hk];exact List.getElem_mem _
   have:=h1 _ hm;have:=hs _ hm;refine⟨by omega,?_⟩
   cases hb:bt (ms.getD k 0) (s.getD k 0).toNat with
   |true=>rfl
   |false=>exact absurd (dY.2 ⟨k,hk,by omega,by rw[e,mi k hk];exact hb⟩) h2
 simp only[Bool.and_eq_true,decide_eq_true_eq,hel,P0,Bool.not_eq_true',Bool.or_eq_false_iff]
 constructor
 ·rintro⟨⟨a,b⟩,c,d,e⟩;exact⟨a,⟨⟨b,c⟩,d⟩,e⟩
 ·rintro⟨a,⟨⟨b,c⟩,d⟩,e⟩;exact⟨⟨a,b⟩,c,d,e⟩
theorem KR (hst:st.length=F.st.length) (hms:∀k u,bt (ms.getD k 0) u=true->1<=u/\u<=4):c9 (bV F (ms.map bt)) (eM st+1) st=PZ F ms st:=by
 rw[BM (fun k u h=>by rw[bS,bV,fT]at h;exact hms k u h) _ _ (by omega)];unfold PZ Ty;rw[List.filter_filter,hst];refine List.filter_congr fun t ht=>?_;rw[G6 (gF.1 ht).2]
theorem BV (hst:st.length=F.st.length) (hms:∀k u,bt (ms.getD k 0) u=true->1<=u/\u<=4):dd (bV F (ms.map bt)) st=(PZ F ms st).head?:=by
 unfold dd;rw[KR hst hms]
end Go.Mg
namespace Go.Mg
def Zt (ms:List UInt64):Prop:=∀k u,bt (ms.getD k 0) u=true->1<=u/\u<=4
def KT (n:Nat) (st:List Int):Prop:=st.length=n/\∀u∈st,0<=u/\u<=4
variable {n:Nat} {st:List Int}
theorem KT.set (h:KT n st) {k:Nat} {u:Int} (hu:0<=u/\u<=4):KT n (st.set k u):=by
 refine⟨by rw[List.length_set];exact h.1,fun v hv=>?_⟩;rcases List.mem_or_eq_of_mem_set hv with h'|rfl
 ·exact h.2 v h'
 ·exact hu
theorem KT.U (h:KT n st):jV n st:=⟨h.1,fun u hu=>by have:=h.2 u hu;omega⟩
theorem KT.fit (h:KT n st):Sz n st=true:=by
 unfold Sz;simp only[Bool.and_eq_true,List.all_eq_true,decide_eq_true_eq];exact⟨fun u hu=>by have:=h.2 u hu;omega,h.1⟩
end Go.Mg
namespace Go.Mg
end Go.Mg

/- Several texts of ours in one. No conditions. -/
import Derived.Test.YtoclemmcphgikaaGreatDoorMgGA
import Derived.Test.YtoclemmcphgikaaGreatDoorMgGI
namespace Go.Mg
set_option linter.all false
theorem gN_step (w:Nat):∀m,gN w m<=gN w (m+1)
 |0=>by rw[gN];exact Nat.zero_le _
 |m+1=>by
  rw[gN,gN]
  exact Nat.mul_le_mul_left _ (by have:=gN_step w m;omega)
theorem gN_mono_m (w : Nat) {m : Nat} : ∀ {m'}, m <= m' -> gN w m <= gN w m'
  | 0, h => by have : m = 0 := by omega
               subst this; exact Nat.le_refl _
  | m' + 1, h => by
    by_cases e : m = m' + 1
    · subst e; exact Nat.le_refl _
    · exact Nat.le_trans (gN_mono_m w (show m <= m' by omega)) (gN_step w m')
theorem gN_256:gN 256 5=1103823438080:=rfl
theorem mems_256 {q:Nat->Bool} (h:∀u,q u=true->1<=u/\u<=256):(mems q).length<=256:=by
 unfold mems
 have e:(4096:Nat)=257+3839:=rfl
 rw[e,List.range_add,List.filter_append]
 rw[filter_none (l:=(List.range 3839).map (257+·)) fun x hx=>?_,List.append_nil]
 ·rw[List.range_succ_eq_map,List.filter_cons]
  have h0:q 0=false:=by
   cases hb:q 0 with
   |false=>rfl
   |true=>have:=(h 0 hb).1;omega
  rw[h0,if_neg (by simp)]
  refine Nat.le_trans (List.length_filter_le _ _) ?_
  simp
 ·obtain⟨y,_,rfl⟩:=List.mem_map.1 hx
  cases hb:q (257+y)with
  |false=>rfl
  |true=>have:=(h _ hb).2;omega
theorem solB_small {p:PbN} {fx:List Int} (hG:GoodP p) (hU:okU p.el.length fx) (h5:p.el.length<=5):SolB p fx:=by
 refine⟨hU,256,fun k=>mems_256 fun u hu=>hG.us k u hu,Nat.le_refl _,?_⟩
 have hz:zerN fx<=5:=by
  unfold zerN
  have:=List.countP_le_length (p:=fun u:Int=>decide (u=0)) (l:=fx)
  have:=hU.1
  omega
 have:=gN_mono_m 256 hz
 rw[gN_256]at this
 omega
end Go.Mg
namespace Go.Mg
open Go Go.RowKit
set_option linter.all false
set_option maxRecDepth 100000
def nxtF (most:Int):List Int->List Int×Bool
 |[]=>([],false)
 |a::t=>if(nxtF most t).2=true then(a::(nxtF most t).1,true)else if a<most then((a+1)::(nxtF most t).1,true)else(0::(nxtF most t).1,false)
end Go.Mg
namespace Go.Mg
set_option linter.all false
def ChG (t:List Int×Bool):List (List Int)->Prop
 |[]=>False
 |[a]=>nxtF 4 a=t
 |a::b::l=>nxtF 4 a=(b,true)/\ChG t (b::l)
theorem ChG.app {t:List Int×Bool} {b:List Int} {m:List (List Int)} (hm:ChG t (b::m)):∀{l:List (List Int)},ChG (b,true) l->ChG t (l++b::m)
 |[],h=>h.elim
 |[a],h=>⟨h,hm⟩
 |a::c::l,h=>⟨h.1,ChG.app hm h.2⟩
theorem ChG.map {z:List Int} (u:Int):∀{l:List (List Int)},ChG (z,false) l->ChG (if u<4 then((u+1)::z,true)else(0::z,false)) (l.map fun s=>u::s)
 |[],h=>h.elim
 |[a],h=>by
  have h:nxtF 4 a=(z,false):=h
  show nxtF 4 (u::a)=_
  rw[nxtF,h]
  rfl
 |a::b::l,h=>by
  refine⟨?_,ChG.map u h.2⟩
  show nxtF 4 (u::a)=(u::b,true)
  rw[nxtF,h.1]
  rfl
def elgB (ms:List UInt64) (s:List Int):Bool:=(List.range s.length).all fun k=>decide (0<s.getD k 0)&&bt (ms.getD k 0) (s.getD k 0).toNat
def valB (F:FlN) (ms:List UInt64) (s:List Int):Bool:=elgB ms s&&decide ((hldF F s).1=0)
def valL (F:FlN) (ms:List UInt64):List (List Int):=(lexL F.st.length).filter (valB F ms)
def cmpV (F:FlN) (ms:List UInt64) (st:List Int):List (List Int):=(valL F ms).filter (agrB st)
variable {F:FlN} {s st:List Int} {ms:List UInt64}
theorem hldF_0:(hldF F s).1=0↔F.di.any (difB s)=false/\F.sa.any (samB s)=false/\F.mo.any (mosB s)=false:=by
 have key:∀{α:Type} {p:α->Bool} {l:List α},l.findIdx? p=none↔l.any p=false:=fun{α p l}=>by
  rw[List.findIdx?_eq_none_iff,List.any_eq_false]
  simp
 unfold hldF
 cases h1:F.di.findIdx? (difB s)with
 |some i=>
  simp only
  constructor
  ·intro h;omega
  ·rintro⟨h,_⟩;rw[key.2 h]at h1;cases h1
 |none=>
  cases h2:F.sa.findIdx? (samB s)with
  |some i=>
   simp only
   constructor
   ·intro h;omega
   ·rintro⟨_,h,_⟩;rw[key.2 h]at h2;cases h2
  |none=>
   cases h3:F.mo.findIdx? (mosB s)with
   |some i=>
    simp only
    constructor
    ·intro h;omega
    ·rintro⟨_,_,h⟩;rw[key.2 h]at h3;cases h3
   |none=>simp only[true_iff];exact⟨key.1 h1,key.1 h2,key.1 h3⟩
theorem getD_map_bt (ms:List UInt64) (k:Nat):(ms.map bt).getD k (fun _=>false)=bt (ms.getD k 0):=by
 rw[List.getD_eq_getElem?_getD,List.getD_eq_getElem?_getD,List.getElem?_map]
 by_cases h:k<ms.length
 ·rw[List.getElem?_eq_getElem h];rfl
 ·rw[List.getElem?_eq_none (by omega)]
  funext n
  simp[bt]
theorem valB_all (hs:∀u∈s,0<=u/\u<=4):valB F ms s=allB (pbOf F (ms.map bt)) s:=by
 rw[Bool.eq_iff_iff]
 unfold valB allB brkB
 have e:∀k,elA (pbOf F (ms.map bt)) k=bt (ms.getD k 0):=fun k=>getD_map_bt ms k
 have mi:∀(k:Nat),k<s.length->memI (bt (ms.getD k 0)) (s.getD k 0)=bt (ms.getD k 0) (s.getD k 0).toNat:=fun k hk=>by
  have:s.getD k 0∈s:=by rw[List.getD_eq_getElem?_getD,List.getElem?_eq_getElem hk];exact List.getElem_mem _
  have:=hs _ this
  unfold memI
  rw[decide_eq_true (by omega),decide_eq_true (by omega)];rfl
 have hel:elgB ms s=true↔(s.all fun u=>decide (u≠0))=true/\elB (pbOf F (ms.map bt)) s=false:=by
  unfold elgB
  simp only[List.all_eq_true,List.mem_range,Bool.and_eq_true,decide_eq_true_eq]
  rw[Bool.eq_false_iff]
  constructor
  ·intro h
   refine⟨fun u hu=>?_,fun hb=>?_⟩
   ·obtain⟨k,hk,rfl⟩:=List.getElem_of_mem hu
    have:=(h k hk).1
    rw[List.getD_eq_getElem?_getD,List.getElem?_eq_getElem hk]at this
    simp only[Option.getD_some]at this
    omega
   ·obtain⟨k,hk,h0,h1⟩:=elB_iff.1 hb
    rw[e,mi k hk,(h k hk).2]at h1
    cases h1
  ·rintro⟨h1,h2⟩ k hk
   have hm:s.getD k 0∈s:=by rw[List.getD_eq_getElem?_getD,List.getElem?_eq_getElem hk];exact List.getElem_mem _
   have:=h1 _ hm
   have:=hs _ hm
   refine⟨by omega,?_⟩
   cases hb:bt (ms.getD k 0) (s.getD k 0).toNat with
   |true=>rfl
   |false=>exact absurd (elB_iff.2 ⟨k,hk,by omega,by rw[e,mi k hk];exact hb⟩) h2
 simp only[Bool.and_eq_true,decide_eq_true_eq,hel,hldF_0,Bool.not_eq_true',Bool.or_eq_false_iff]
 constructor
 ·rintro⟨⟨a,b⟩,c,d,e⟩;exact⟨a,⟨⟨b,c⟩,d⟩,e⟩
 ·rintro⟨a,⟨⟨b,c⟩,d⟩,e⟩;exact⟨⟨a,b⟩,c,d,e⟩
theorem src_cmp (hst:st.length=F.st.length) (hms:∀k u,bt (ms.getD k 0) u=true->1<=u/\u<=4):srcF (pbOf F (ms.map bt)) (zerN st+1) st=cmpV F ms st:=by
 rw[src_lex (fun k u h=>by rw[elA,pbOf,getD_map_bt]at h;exact hms k u h) _ _ (by omega)]
 unfold cmpV valL
 rw[List.filter_filter,hst]
 refine List.filter_congr fun t ht=>?_
 rw[valB_all (lexL_mem.1 ht).2]
theorem sol_cmp (hst:st.length=F.st.length) (hms:∀k u,bt (ms.getD k 0) u=true->1<=u/\u<=4):solF (pbOf F (ms.map bt)) st=(cmpV F ms st).head?:=by
 unfold solF;rw[src_cmp hst hms]
end Go.Mg
namespace Go.Mg
set_option linter.all false
def dnM (st:List Int):Nat->UInt64
 |0=>0
 |k+1=>if st.getD k 0≠0 then orB (dnM st k) k else dnM st k
theorem dnM_bt {st:List Int}:∀{n:Nat},n<=64->bt (dnM st n)=doneP st n
 |0,_=>by funext j;simp[dnM,doneP,bt]
 |n+1,h=>by
  rw[dnM]
  split
  ·next h1=>
   funext j
   rw[bt_orB _ (by omega),dnM_bt (by omega)]
   unfold doneP
   rw[Bool.eq_iff_iff]
   simp only[Bool.or_eq_true,Bool.and_eq_true,decide_eq_true_eq]
   constructor
   ·rintro(⟨a,b⟩|rfl)
    ·exact⟨by omega,b⟩
    ·exact⟨by omega,h1⟩
   ·rintro⟨a,b⟩
    by_cases e:j=n
    ·exact .inr e
    ·exact .inl ⟨by omega,b⟩
  ·next h1=>rw[dnM_bt (by omega),doneP_skip (by simpa using h1)]
def MsOk (ms:List UInt64):Prop:=∀k u,bt (ms.getD k 0) u=true->1<=u/\u<=4
theorem masksF_ok (r:RawF):MsOk (masksF r):=fun k u h=>by
 by_cases hk:k<nuF r
 ·have e:(masksF r).getD k 0=maskF r k:=by simp[masksF,List.getD_eq_getElem?_getD,hk]
  rw[e]at h
  unfold bt at h
  rw[maskF_nat]at h
  obtain⟨m,hm⟩:∃m,m=if k<r.el.length then(r.el.getD k 0).toNat % 16 else 15:=⟨_,rfl⟩
  rw[<-hm]at h
  have hm':m<16:=by rw[hm];split<;>omega
  have h2:=Nat.ge_two_pow_of_testBit h
  have hu:u<5:=by
   apply Classical.byContradiction
   intro hc
   have:2^5<=2^u:=Nat.pow_le_pow_right (by omega) (by omega)
   omega
  have h0:u≠0:=by
   rintro rfl
   rw[Nat.testBit_zero]at h
   simp at h
  omega
 ·rw[List.getD_eq_getElem?_getD,List.getElem?_eq_none (by rw[masksF_len];omega)]at h
  simp[bt]at h
def rAskF (F:FlN) (ms:List UInt64) (st:List Int) (step user:Int):Int:=
 if step∈nI (rdyL F.st.length F.be (bt (dnM st st.length)))then
  if user<1\/4<user\/bt (ms.getD step.toNat 0) user.toNat=false then 3 else
  if(hldF F (st.set step.toNat user)).1≠0 then 4 else if cmpV F ms (st.set step.toNat user)=[]then 5 else 1
 else 2
def okS (n:Nat) (st:List Int):Prop:=st.length=n/\∀u∈st,0<=u/\u<=4
variable {n:Nat} {st:List Int} {ms:List UInt64} {F:FlN}
theorem okS.set (h:okS n st) {k:Nat} {u:Int} (hu:0<=u/\u<=4):okS n (st.set k u):=by
 refine⟨by rw[List.length_set];exact h.1,fun v hv=>?_⟩
 rcases List.mem_or_eq_of_mem_set hv with h'|rfl
 ·exact h.2 v h'
 ·exact hu
theorem okS.U (h:okS n st):okU n st:=⟨h.1,fun u hu=>by have:=h.2 u hu;omega⟩
theorem okS.fit (h:okS n st):fitB n st=true:=by
 unfold fitB
 simp only[Bool.and_eq_true,List.all_eq_true,decide_eq_true_eq]
 exact⟨fun u hu=>by have:=h.2 u hu;omega,h.1⟩
theorem memI_ms (hm:MsOk ms) (k:Nat) (u:Int):memI (bt (ms.getD k 0)) u=true↔¬(u<1\/4<u\/bt (ms.getD k 0) u.toNat=false):=by
 unfold memI
 simp only[Bool.and_eq_true,decide_eq_true_eq]
 constructor
 ·rintro⟨⟨h0,h1⟩,h2⟩
  have:=hm k _ h2
  rw[h2]
  simp
  omega
 ·intro h
  have h2:bt (ms.getD k 0) u.toNat=true:=by
   cases hb:bt (ms.getD k 0) u.toNat with
   |true=>rfl
   |false=>exact absurd (.inr (.inr hb)) h
  exact⟨⟨by omega,by omega⟩,h2⟩
theorem ask_ref (hS:okS F.st.length st) (hn:F.st.length<=10) (hm:MsOk ms) (step user:Int):askF F (ms.map bt) st step user=rAskF F ms st step user:=by
 unfold askF rAskF
 rw[dnM_bt (by rw[hS.1];omega),getD_map_bt]
 by_cases h1:step∈nI (rdyL F.st.length F.be (doneP st st.length))
 ·rw[if_pos h1,if_pos h1]
  by_cases h2:memI (bt (ms.getD step.toNat 0)) user=true
  ·rw[if_pos h2,if_neg ((memI_ms hm _ _).1 h2)]
   have h2':=(memI_ms hm _ _).1 h2
   have hS':okS F.st.length (st.set step.toNat user):=hS.set (by omega)
   have e:(hldR F (st.set step.toNat user)).2.2=decide ((hldF F (st.set step.toNat user)).1=0):=by
    unfold hldR;rw[if_pos hS'.fit]
   rw[e]
   by_cases h3:(hldF F (st.set step.toNat user)).1=0
   ·rw[if_pos (decide_eq_true h3),if_neg (show¬(hldF F (st.set step.toNat user)).1≠0 from fun hc=>hc h3),sol_cmp hS'.1 hm]
    cases cmpV F ms (st.set step.toNat user)with
    |nil=>rfl
    |cons a l=>rfl
   ·rw[if_neg (fun hc=>h3 (of_decide_eq_true hc)),if_pos h3]
  ·rw[if_neg h2,if_pos]
   apply Classical.byContradiction
   intro hc
   exact h2 ((memI_ms hm _ _).2 hc)
 ·rw[if_neg h1,if_neg h1]
theorem mem_cmp {t:List Int}:t∈cmpV F ms st↔(t.length=F.st.length/\∀u∈t,0<=u/\u<=4)/\valB F ms t=true/\agrB st t=true:=by
 unfold cmpV valL
 rw[List.mem_filter,List.mem_filter,lexL_mem,and_assoc]
end Go.Mg
namespace Go.Mg
set_option linter.all false
theorem cmp_at {F:FlN} {ms:List UInt64} {st t:List Int} (ht:t∈cmpV F ms st) {k:Nat} (hk:k<F.st.length):1<=t.getD k 0/\t.getD k 0<=4/\bt (ms.getD k 0) (t.getD k 0).toNat=true:=by
 obtain⟨⟨h1,h2⟩,h3,_⟩:=mem_cmp.1 ht
 unfold valB elgB at h3
 simp only[Bool.and_eq_true,List.all_eq_true,List.mem_range,decide_eq_true_eq]at h3
 obtain⟨ha,hb⟩:=h3.1 k (by omega)
 have hm:t.getD k 0∈t:=by rw[List.getD_eq_getElem?_getD,List.getElem?_eq_getElem (by omega)];exact List.getElem_mem _
 have:=h2 _ hm
 exact⟨by omega,by omega,hb⟩
end Go.Mg

/- Lemmas of ours. No conditions. -/
import Derived.Test.YtoclemmcphgikaaGreatDoorMgGI
open Nat renaming reduceEqDiff→Za,reduceAdd→Zb
set_option linter.all false
set_option maxRecDepth 100000
namespace Go.Mg
theorem Jw (w:Nat):∀m,gN w m<=gN w (m+1)
 |0=>by rw[gN];exact Nat.zero_le _
 |m+1=>by
  rw[gN,gN];exact Nat.mul_le_mul_left _ (by have:=Jw w m;omega)
theorem xP (w : Nat) {m : Nat} : ∀ {m'}, m <= m' -> gN w m <= gN w m'
  | 0, h => by have : m = 0 := by omega
               subst this; exact Nat.le_refl _
  | m' + 1, h => by
    by_cases e : m = m' + 1
    · subst e; exact Nat.le_refl _
    · exact Nat.le_trans (xP w (show m <= m' by omega)) (Jw w m')
theorem Z7:gN 256 5=1103823438080:=rfl
theorem Qc {q:Nat->Bool} (h:∀u,q u=true->1<=u/\u<=256):(aW q).length<=256:=by
 unfold aW;have e:(4096:Nat)=257+3839:=rfl;rw[e,List.range_add,List.filter_append];rw[filter_none (l:=(List.range 3839).map (257+·)) fun x hx=>?_,List.append_nil]
 ·rw[List.range_succ_eq_map,List.filter_cons];have h0:q 0=false:=by
   cases hb:q 0 with
   |false=>rfl
   |true=>have:=(h 0 hb).1;omega
  rw[h0,if_neg (by simp)];refine Nat.le_trans (List.length_filter_le _ _) ?_;simp
 ·obtain⟨y,_,rfl⟩:=List.mem_map.1 hx
  cases hb:q (257+y)with
  |false=>rfl
  |true=>have:=(h _ hb).2;omega
theorem vK {p:pZ} {fx:List Int} (hG:ff p) (hU:xe p.el.length fx) (h5:p.el.length<=5):Ay p fx:=by
 refine⟨hU,256,fun k=>Qc fun u hu=>hG.us k u hu,Nat.le_refl _,?_⟩;have hz:ko fx<=5:=by
  unfold ko;have:=List.countP_le_length (p:=fun u:Int=>decide (u=0)) (l:=fx);have:=hU.1;omega
 have:=xP 256 hz;rw[Z7]at this;omega
end Go.Mg
namespace Go.Mg
open Go Go.RowKit
def AR (ι:aG):S:=
 kY [kC 4 (kZ),kC 5 (.bool false)] (kY [.e (.t 8) (.aV (ι.t 26) 1 0 []),kA 9 0,.e (.t 10) (.app false (ι.t 26) 1 8 #[.int .i64 0] (.t 8) (.t 9)),kB 6 10] (.seq (kY [kA 11 6,kL 12 11,kU 13 (.ar .sub .i64 (.t 12) (.c (.int .i64 1))),kB 7 13] (.blk 0 (.loop (.seq (kY [kA 14 7,kV 15 (.cm .geq .i64 (.t 14) (.c (.int .i64 0)))] (.ite (.v 15) .skip (.exit 0))) (.seq (.blk 1 (.seq (kY [kA 18 6,kA 19 7,kI 20 1 18 19,kD 21 20,kA 22 1,kV 23 (.cm .lss .i64 (.t 21) (.t 22))] (.ite (.v 23) (kY [kA 24 6,kA 25 7,kI 26 1 24 25,kD 27 26,kU 28 (.ar .add .i64 (.t 27) (.c (.int .i64 1))),kI 29 1 24 25,.e .no (.st (.t 29) (.t 28))] (kY [kA 30 6,kB 4 30,kC 5 (.bool true)] .ret)) .skip)) (.reg [kA 31 6,kA 32 7,kI 33 1 31 32,.e .no (.st (.t 33) (.c (.int .i64 0)))]))) (.reg [kA 16 7,kU 17 (.ar .sub .i64 (.t 16) (.c (.int .i64 1))),kB 7 17])))))) (kY [kA 34 6,kB 4 34,kC 5 (.bool false)] .ret)))
def AS:List RV:=[.t 4,.t 5]
def cY (most:Int):List Int->List Int×Bool
 |[]=>([],false)
 |a::t=>if(cY most t).2=true then(a::(cY most t).1,true)else if a<most then((a+1)::(cY most t).1,true)else(0::(cY most t).1,false)
theorem Ea (most:Int):∀l,(cY most l).1.length=l.length
 |[]=>rfl
 |a::t=>by
  have:=Ea most t;unfold cY
  split
  ·simp[this]
  ·split<;>simp[this]
theorem xQ {most:Int}:∀{k:Nat} {l:List Int},(cY most (l.drop k)).2=true->cY most l=(l.take k++(cY most (l.drop k)).1,true)
 |0,l,h=>by
  rw[List.drop_zero]at h⊢;rw[List.take_zero,List.nil_append,<-h]
 |k+1,[],h=>by simp[cY]at h
 |k+1,a::t,h=>by
  rw[List.drop_succ_cons]at h⊢;have:=xQ h;rw[cY,this];simp
def qV (P:Program) (k:FuncId):Prop:=∀(l:List Int) (v:Value) (most:Int) (H:Hp),aO H v (iL l)->l.length<=1000->(∀u∈l,0<=u/\u<=1000)->an P k #[v,.int .i64 most] H fun r H'=>∃w,r=.tuple #[w,.bool (cY most l).2]/\bq H' w (iL (cY most l).1)/\(∀q,ax w q->H.size<=q)/\af (fun _=>False) H H'
theorem Qd {P:Program} {ι:aG} {k:FuncId} (hk:al P k (AR ι) AS 2):qV P k:=by
 intro l v most H hv hl hr;refine qI fun Q hQ=>?_;refine ah hk (args:=[_,_]) (by simp) ?_;unfold AR AS kA kB kC kD kI kL kU kV kY kZ;simp only[go_sem,Za,Zb];refine aF fun H1 b1 e1 z1 B1 K1=>?_;have s1:=K1.size;simp only[go_sem,Za,Zb];refine jK H.size (l:=([]:List Value)) (m:=iL l) (bq.new B1 rfl rfl) (fun q (hq:q=b1)=>by omega) (by omega) (hv.ai K1 (by simp)) (iz _) rfl (by omega) (by simp[aA];omega) fun w H2 O2 o2 K2=>?_;rw[List.nil_append]at O2;have dB:=K1.gV K2 (Nat.le_refl _);have lw:aU w=l.length:=by rw[O2.sl.len,aA]
 have w1:IntKind.i64.wrap ((l.length:Int) -1)=(l.length:Int) -1:=IntWalk.i64_in _ (by omega);rw[ae];simp only[go_sem,Za,Zb,O2.sl.aq,lw,w1];refine aS [7,15,23,4,5] rfl (fun n f A=>∃i:Nat,n=i/\i<=l.length/\f 7=.int .i64 ((i:Int) -1)/\(cY most (l.drop i)).2=false/\bq A w (iL (l.take i++(cY most (l.drop i)).1))/\af (fun _=>False) H A) l.length ⟨l.length,rfl,Nat.le_refl _,by simp only[go_sem,Za,Zb,ae],by rw[List.drop_length];rfl,by rw[List.drop_length,List.take_length];simpa[cY]using O2,dB⟩ ?_;rintro n f A ⟨i,rfl,hi,f7,hb,O,K⟩;simp only[go_sem,Za,Zb,ae]at f7
 by_cases h0:n=0
 ·subst h0;have f7':f 7=.int .i64 (-1):=by rw[f7];rfl
  have d:decide ((-1:Int)≥0)=false:=rfl;simp only[go_sem,Za,Zb,f7',d];rw[List.drop_zero]at hb O;rw[List.take_zero,List.nil_append]at O;rw[hQ,hb];exact⟨w,rfl,O,o2,K⟩
 obtain⟨j,rfl⟩:∃j,n=j+1:=⟨n -1,by omega⟩
 have f7':f 7=.int .i64 (j:Int):=by rw[f7];congr 1;omega
 have hj:j<l.length:=by omega
 have hdj:l.drop j=l[j]::l.drop (j+1):=List.drop_eq_getElem_cons hj;have hra:=hr l[j] (List.getElem_mem hj);have htl:l.take (j+1)=l.take j++[l[j]]:=List.take_succ_eq_append_getElem hj;have hlt:(l.take j).length=j:=by rw[List.length_take];omega
 have hcl:(l.take (j+1)++(cY most (l.drop (j+1))).1).length=l.length:=by rw[List.length_append,Ea,List.length_take,List.length_drop];omega
 obtain⟨b,c,L,gz,h1,h2,hB,h3,h4⟩:=O.some (by intro e';have:=congrArg List.length e';rw[aA,hcl,List.length_nil]at this;omega);rw[aA,hcl]at gz h1 h3;subst gz;have wT:∀x:Int,(l.take (j+1)++(cY most (l.drop (j+1))).1).set j x=l.take j++x::(cY most (l.drop (j+1))).1:=fun x=>by
  rw[htl,List.append_assoc,List.set_append_right _ _ (by omega),hlt,Nat.sub_self];rfl
 have abU:cell A ⟨b,j,none⟩=some (.int .i64 l[j]):=by
  have:=O.sl.oC (i:=j) (by rw[aA,hcl];exact hj);rw[Nat.zero_add]at this;rw[this,dk _ _ (by rw[hcl];exact hj),htl,List.getD_eq_getElem?_getD,List.append_assoc,List.getElem?_append_right (by omega),hlt,Nat.sub_self]
  rfl
 have hb2:=o2 b rfl;have ts:=hB.bu (o:=j) (by omega);have st:∀x:Int,bq (az A ⟨b,j,none⟩ (.int .i64 x)) (.slice (some ⟨b,0,none⟩) l.length c) (iL (l.take j++x::(cY most (l.drop (j+1))).1)):=fun x=>by
  have:=yu hB (l:=iL (l.take (j+1)++(cY most (l.drop (j+1))).1)) (by rw[aA,hcl];exact h1) h2 (by rw[aA,hcl];exact h3) j (.int .i64 x) (by rw[aA,hcl];exact hj);rw[lh,wT,aA,hcl]at this;exact this
 have Ks:∀x:Int,af (fun q=>q=b) A (az A ⟨b,j,none⟩ (.int .i64 x)):=fun x=>(af.refl _ _).az _ (.inl rfl);have d0:decide ((j:Int)≥0)=true:=decide_eq_true (by omega);have wa:IntKind.i64.wrap (l[j]+1)=l[j]+1:=IntWalk.i64_in _ (by omega);have wj:IntKind.i64.wrap ((j:Int) -1)=(j:Int) -1:=IntWalk.i64_in _ (by omega)
 by_cases UH:l[j]<most
 ·have d1:decide (l[j]<most)=true:=decide_eq_true UH;have hn:cY most (l.drop j)=((l[j]+1)::(cY most (l.drop (j+1))).1,true):=by
   rw[hdj,cY,hb];simp[UH]
  have hN:=xQ (most:=most) (k:=j) (l:=l) (by rw[hn]);rw[hn]at hN;simp only[go_sem,Za,Zb,f7',d0,ak,abU,d1,wa,ts];refine⟨by omega,by omega,by omega,?_⟩;rw[ae];simp only[go_sem,Za,Zb];rw[hQ,hN];exact⟨_,rfl,st _,o2,K.trans' (Ks _) fun q hq e=>by omega⟩
 ·have d1:decide (l[j]<most)=false:=decide_eq_false UH;have hn:cY most (l.drop j)=(0::(cY most (l.drop (j+1))).1,false):=by
   rw[hdj,cY,hb];simp[UH]
  simp only[go_sem,Za,Zb,f7',d0,ak,abU,d1,ts,wj];refine⟨by omega,by omega,?_⟩;rw[ae];simp only[go_sem,Za,Zb,f7',wj];refine⟨j,by omega,j,rfl,by omega,rfl,by rw[hn],by rw[hn];exact st 0,K.trans' (Ks 0) fun q hq e=>by omega⟩
end Go.Mg
namespace Go.Mg
def xg (t:List Int×Bool):List (List Int)->Prop
 |[]=>False
 |[a]=>cY 4 a=t
 |a::b::l=>cY 4 a=(b,true)/\xg t (b::l)
theorem xg.app {t:List Int×Bool} {b:List Int} {m:List (List Int)} (hm:xg t (b::m)):∀{l:List (List Int)},xg (b,true) l->xg t (l++b::m)
 |[],h=>h.elim
 |[a],h=>⟨h,hm⟩
 |a::c::l,h=>⟨h.1,xg.app hm h.2⟩
theorem xg.map {z:List Int} (u:Int):∀{l:List (List Int)},xg (z,false) l->xg (if u<4 then((u+1)::z,true)else(0::z,false)) (l.map fun s=>u::s)
 |[],h=>h.elim
 |[a],h=>by
  have h:cY 4 a=(z,false):=h
  show cY 4 (u::a)=_
  rw[cY,h]
  rfl
 |a::b::l,h=>by
  refine⟨?_,xg.map u h.2⟩
  show cY 4 (u::a)=(u::b,true)
  rw[cY,h.1]
  rfl
theorem xR (n:Nat):cL (n+1)=(cL n).map (fun s=>(0:Int)::s)++((cL n).map (fun s=>(1:Int)::s)++((cL n).map (fun s=>(2:Int)::s)++((cL n).map (fun s=>(3:Int)::s)++(cL n).map fun s=>(4:Int)::s))):=by
 have e:List.range 5=[0,1,2,3,4]:=rfl;rw[cL,e];simp only[List.flatMap_cons,List.flatMap_nil,List.append_nil]
 rfl
theorem Jx:∀n,xg (List.replicate n 0,false) (cL n)/\∃L,cL n=List.replicate n 0::L
 |0=>⟨rfl,[],rfl⟩
 |n+1=>by
  obtain⟨h1,L,hL⟩:=Jx n;have h0:=xg.map 0 h1;have h2:=xg.map 1 h1;have h3:=xg.map 2 h1;have h4:=xg.map 3 h1;have h5:=xg.map 4 h1;rw[if_pos (by decide)]at h0 h2 h3 h4;rw[if_neg (by decide)]at h5;rw[xR];refine⟨?_,?_⟩
  ·rw[hL]at h0 h2 h3 h4 h5⊢;simp only[List.map_cons,List.cons_append]at h0 h2 h3 h4 h5⊢;refine xg.app (l:=_::_) ?_ h0;refine xg.app (l:=_::_) ?_ h2;refine xg.app (l:=_::_) ?_ h3;exact xg.app (l:=_::_) h5 h4
  ·rw[hL];exact⟨_,rfl⟩
theorem lT:∀n,(cL n).length=5^n
 |0=>rfl
 |n+1=>by rw[xR];simp only[List.length_append,List.length_map,lT n];omega
def Hc (ms:List UInt64) (s:List Int):Bool:=(List.range s.length).all fun k=>decide (0<s.getD k 0)&&bt (ms.getD k 0) (s.getD k 0).toNat
def sJ (F:cf) (ms:List UInt64) (s:List Int):Bool:=Hc ms s&&decide ((fQ F s).1=0)
def lU (F:cf) (ms:List UInt64):List (List Int):=(cL F.st.length).filter (sJ F ms)
def qW (F:cf) (ms:List UInt64) (st:List Int):List (List Int):=(lU F ms).filter (jV st)
variable {F:cf} {s st:List Int} {ms:List UInt64}
theorem Z8:(fQ F s).1=0↔F.di.any (fP s)=false/\F.sa.any (eO s)=false/\F.mo.any (im s)=false:=by
 have key:∀{α:Type} {p:α->Bool} {l:List α},l.findIdx? p=none↔l.any p=false:=fun{α p l}=>by
  rw[List.findIdx?_eq_none_iff,List.any_eq_false];simp
 unfold fQ
 cases h1:F.di.findIdx? (fP s)with
 |some i=>
  simp only
  constructor
  ·intro h;omega
  ·rintro⟨h,_⟩;rw[key.2 h]at h1;cases h1
 |none=>
  cases h2:F.sa.findIdx? (eO s)with
  |some i=>
   simp only
   constructor
   ·intro h;omega
   ·rintro⟨_,h,_⟩;rw[key.2 h]at h2;cases h2
  |none=>
   cases h3:F.mo.findIdx? (im s)with
   |some i=>
    simp only
    constructor
    ·intro h;omega
    ·rintro⟨_,_,h⟩;rw[key.2 h]at h3;cases h3
   |none=>simp only[true_iff];exact⟨key.1 h1,key.1 h2,key.1 h3⟩
theorem cR (ms:List UInt64) (k:Nat):(ms.map bt).getD k (fun _=>false)=bt (ms.getD k 0):=by
 rw[List.getD_eq_getElem?_getD,List.getD_eq_getElem?_getD,List.getElem?_map]
 by_cases h:k<ms.length
 ·rw[List.getElem?_eq_getElem h];rfl
 ·rw[List.getElem?_eq_none (by omega)]
  funext n
  simp[bt]
theorem Qe (hs:∀u∈s,0<=u/\u<=4):sJ F ms s=Aa (bW F (ms.map bt)) s:=by
 rw[Bool.eq_iff_iff];unfold sJ Aa iR;have e:∀k,eV (bW F (ms.map bt)) k=bt (ms.getD k 0):=fun k=>cR ms k;have mi:∀(k:Nat),k<s.length->bZ (bt (ms.getD k 0)) (s.getD k 0)=bt (ms.getD k 0) (s.getD k 0).toNat:=fun k hk=>by
  have:s.getD k 0∈s:=by rw[List.getD_eq_getElem?_getD,List.getElem?_eq_getElem hk];exact List.getElem_mem _
  have:=hs _ this;unfold bZ;rw[decide_eq_true (by omega),decide_eq_true (by omega)];rfl
 have hel:Hc ms s=true↔(s.all fun u=>decide (u≠0))=true/\Xl (bW F (ms.map bt)) s=false:=by
  unfold Hc;simp only[List.all_eq_true,List.mem_range,Bool.and_eq_true,decide_eq_true_eq];rw[Bool.eq_false_iff]
  constructor
  ·intro h;refine⟨fun u hu=>?_,fun hb=>?_⟩
   ·obtain⟨k,hk,rfl⟩:=List.getElem_of_mem hu;have:=(h k hk).1;rw[List.getD_eq_getElem?_getD,List.getElem?_eq_getElem hk]at this;simp only[Option.getD_some]at this;omega
   ·obtain⟨k,hk,h0,h1⟩:=iJ.1 hb;rw[e,mi k hk,(h k hk).2]at h1
    cases h1
  ·rintro⟨h1,h2⟩ k hk;have hm:s.getD k 0∈s:=by rw[List.getD_eq_getElem?_getD,List.getElem?_eq_getElem hk];exact List.getElem_mem _
   have:=h1 _ hm;have:=hs _ hm;refine⟨by omega,?_⟩
   cases hb:bt (ms.getD k 0) (s.getD k 0).toNat with
   |true=>rfl
   |false=>exact absurd (iJ.2 ⟨k,hk,by omega,by rw[e,mi k hk];exact hb⟩) h2
 simp only[Bool.and_eq_true,decide_eq_true_eq,hel,Z8,Bool.not_eq_true',Bool.or_eq_false_iff]
 constructor
 ·rintro⟨⟨a,b⟩,c,d,e⟩;exact⟨a,⟨⟨b,c⟩,d⟩,e⟩
 ·rintro⟨a,⟨⟨b,c⟩,d⟩,e⟩;exact⟨⟨a,b⟩,c,d,e⟩
theorem UI (hst:st.length=F.st.length) (hms:∀k u,bt (ms.getD k 0) u=true->1<=u/\u<=4):kn (bW F (ms.map bt)) (ko st+1) st=qW F ms st:=by
 rw[Jr (fun k u h=>by rw[eV,bW,cR]at h;exact hms k u h) _ _ (by omega)];unfold qW lU;rw[List.filter_filter,hst];refine List.filter_congr fun t ht=>?_;rw[Qe (ib.1 ht).2]
theorem mI (hst:st.length=F.st.length) (hms:∀k u,bt (ms.getD k 0) u=true->1<=u/\u<=4):en (bW F (ms.map bt)) st=(qW F ms st).head?:=by
 unfold en;rw[UI hst hms]
end Go.Mg
namespace Go.Mg
def LH (st:List Int):Nat->UInt64
 |0=>0
 |k+1=>if st.getD k 0≠0 then EV (LH st k) k else LH st k
theorem AT {st:List Int}:∀{n:Nat},n<=64->bt (LH st n)=cI st n
 |0,_=>by funext j;simp[LH,cI,bt]
 |n+1,h=>by
  rw[LH]
  split
  ·next h1=>
   funext j
   rw[yy _ (by omega),AT (by omega)];unfold cI;rw[Bool.eq_iff_iff];simp only[Bool.or_eq_true,Bool.and_eq_true,decide_eq_true_eq]
   constructor
   ·rintro(⟨a,b⟩|rfl)
    ·exact⟨by omega,b⟩
    ·exact⟨by omega,h1⟩
   ·rintro⟨a,b⟩
    by_cases e:j=n
    ·exact .inr e
    ·exact .inl ⟨by omega,b⟩
  ·next h1=>rw[AT (by omega),vG (by simpa using h1)]
def UJ (ms:List UInt64):Prop:=∀k u,bt (ms.getD k 0) u=true->1<=u/\u<=4
theorem qX (r:dX):UJ (bf r):=fun k u h=>by
 by_cases hk:k<jR r
 ·have e:(bf r).getD k 0=pk r k:=by simp[bf,List.getD_eq_getElem?_getD,hk]
  rw[e]at h;unfold bt at h;rw[qJ]at h;obtain⟨m,hm⟩:∃m,m=if k<r.el.length then(r.el.getD k 0).toNat % 16 else 15:=⟨_,rfl⟩
  rw[<-hm]at h;have wR:m<16:=by rw[hm];split<;>omega
  have h2:=Nat.ge_two_pow_of_testBit h;have hu:u<5:=by
   apply Classical.byContradiction;intro hc;have:2^5<=2^u:=Nat.pow_le_pow_right (by omega) (by omega);omega
  have h0:u≠0:=by
   rintro rfl;rw[Nat.testBit_zero]at h;simp at h
  omega
 ·rw[List.getD_eq_getElem?_getD,List.getElem?_eq_none (by rw[fo];omega)]at h;simp[bt]at h
def Xs (F:cf) (ms:List UInt64) (st:List Int) (step user:Int):Int:=
 if step∈nI (uU F.st.length F.be (bt (LH st st.length)))then
  if user<1\/4<user\/bt (ms.getD step.toNat 0) user.toNat=false then 3 else
  if(fQ F (st.set step.toNat user)).1≠0 then 4 else if qW F ms (st.set step.toNat user)=[]then 5 else 1
 else 2
def Ec (n:Nat) (st:List Int):Prop:=st.length=n/\∀u∈st,0<=u/\u<=4
variable {n:Nat} {st:List Int} {ms:List UInt64}
theorem Ec.set (h:Ec n st) {k:Nat} {u:Int} (hu:0<=u/\u<=4):Ec n (st.set k u):=by
 refine⟨by rw[List.length_set];exact h.1,fun v hv=>?_⟩;rcases List.mem_or_eq_of_mem_set hv with h'|rfl
 ·exact h.2 v h'
 ·exact hu
theorem Ec.U (h:Ec n st):xe n st:=⟨h.1,fun u hu=>by have:=h.2 u hu;omega⟩
theorem Ec.fit (h:Ec n st):sG n st=true:=by
 unfold sG;simp only[Bool.and_eq_true,List.all_eq_true,decide_eq_true_eq];exact⟨fun u hu=>by have:=h.2 u hu;omega,h.1⟩
theorem tC (hm:UJ ms) (k:Nat) (u:Int):bZ (bt (ms.getD k 0)) u=true↔¬(u<1\/4<u\/bt (ms.getD k 0) u.toNat=false):=by
 unfold bZ;simp only[Bool.and_eq_true,decide_eq_true_eq]
 constructor
 ·rintro⟨⟨h0,h1⟩,h2⟩;have:=hm k _ h2;rw[h2];simp;omega
 ·intro h;have h2:bt (ms.getD k 0) u.toNat=true:=by
   cases hb:bt (ms.getD k 0) u.toNat with
   |true=>rfl
   |false=>exact absurd (.inr (.inr hb)) h
  exact⟨⟨by omega,by omega⟩,h2⟩
theorem tD {F:cf} (hS:Ec F.st.length st) (hn:F.st.length<=10) (hm:UJ ms) (step user:Int):nJ F (ms.map bt) st step user=Xs F ms st step user:=by
 unfold nJ Xs;rw[AT (by rw[hS.1];omega),cR]
 by_cases h1:step∈nI (uU F.st.length F.be (cI st st.length))
 ·rw[if_pos h1,if_pos h1]
  by_cases h2:bZ (bt (ms.getD step.toNat 0)) user=true
  ·rw[if_pos h2,if_neg ((tC hm _ _).1 h2)];have MK:=(tC hm _ _).1 h2;have hS':Ec F.st.length (st.set step.toNat user):=hS.set (by omega);have e:(jU F (st.set step.toNat user)).2.2=decide ((fQ F (st.set step.toNat user)).1=0):=by
    unfold jU;rw[if_pos hS'.fit]
   rw[e]
   by_cases h3:(fQ F (st.set step.toNat user)).1=0
   ·rw[if_pos (decide_eq_true h3),if_neg (show¬(fQ F (st.set step.toNat user)).1≠0 from fun hc=>hc h3),mI hS'.1 hm]
    cases qW F ms (st.set step.toNat user)with
    |nil=>rfl
    |cons a l=>rfl
   ·rw[if_neg (fun hc=>h3 (of_decide_eq_true hc)),if_pos h3]
  ·rw[if_neg h2,if_pos];apply Classical.byContradiction;intro hc;exact h2 ((tC hm _ _).2 hc)
 ·rw[if_neg h1,if_neg h1]
end Go.Mg
namespace Go.Mg
def AU (be:List fV) (st:List Int):Bool:=be.all fun x=>decide (sI st x.2=0)||decide (sI st x.1≠0)
end Go.Mg

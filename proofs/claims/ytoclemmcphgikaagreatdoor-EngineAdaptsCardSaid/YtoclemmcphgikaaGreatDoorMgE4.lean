/- Several texts of ours in one. No conditions. -/
import Derived.Test.YtoclemmcphgikaaGreatDoorMgGA
import Derived.Test.YtoclemmcphgikaaGreatDoorMgGI
open Nat renaming reduceEqDiff→Za,reduceAdd→Zb
namespace Go.Mg
set_option linter.all false
theorem gN_step (w:Nat):∀m,gN w m<=gN w (m+1)
 |0=>by rw[gN];exact Nat.zero_le _
 |m+1=>by
  rw[gN,gN]
  exact Nat.mul_le_mul_left _ (by have:=gN_step w m;omega)
theorem gN_mono_m (w : Nat) {m : Nat} : ∀ {m'}, m <= m' -> gN w m <= gN w m'
  | 0, h => by have : m = 0 := by omega
               subst this; exact Nat.le_refl _
  | m' + 1, h => by
    by_cases e : m = m' + 1
    · subst e; exact Nat.le_refl _
    · exact Nat.le_trans (gN_mono_m w (show m <= m' by omega)) (gN_step w m')
theorem gN_256:gN 256 5=1103823438080:=rfl
theorem mems_256 {q:Nat->Bool} (h:∀u,q u=true->1<=u/\u<=256):(mems q).length<=256:=by
 unfold mems
 have e:(4096:Nat)=257+3839:=rfl
 rw[e,List.range_add,List.filter_append]
 rw[filter_none (l:=(List.range 3839).map (257+·)) fun x hx=>?_,List.append_nil]
 ·rw[List.range_succ_eq_map,List.filter_cons]
  have h0:q 0=false:=by
   cases hb:q 0 with
   |false=>rfl
   |true=>have:=(h 0 hb).1;omega
  rw[h0,if_neg (by simp)]
  refine Nat.le_trans (List.length_filter_le _ _) ?_
  simp
 ·obtain⟨y,_,rfl⟩:=List.mem_map.1 hx
  cases hb:q (257+y)with
  |false=>rfl
  |true=>have:=(h _ hb).2;omega
theorem solB_small {p:PbN} {fx:List Int} (hG:GoodP p) (hU:okU p.el.length fx) (h5:p.el.length<=5):SolB p fx:=by
 refine⟨hU,256,fun k=>mems_256 fun u hu=>hG.us k u hu,Nat.le_refl _,?_⟩
 have hz:zerN fx<=5:=by
  unfold zerN
  have:=List.countP_le_length (p:=fun u:Int=>decide (u=0)) (l:=fx)
  have:=hU.1
  omega
 have:=gN_mono_m 256 hz
 rw[gN_256]at this
 omega
end Go.Mg
namespace Go.Mg
open Go Go.RowKit
set_option linter.all false
set_option maxRecDepth 100000
def c_rnext (ι:Ids):S:=
 kY [kC 4 (kZ),kC 5 (.bool false)] (kY [.e (.t 8) (.bldF (ι.t 26) 1 0 []),kA 9 0,.e (.t 10) (.app false (ι.t 26) 1 8 #[.int .i64 0] (.t 8) (.t 9)),kB 6 10] (.seq (kY [kA 11 6,kL 12 11,kU 13 (.ar .sub .i64 (.t 12) (.c (.int .i64 1))),kB 7 13] (.blk 0 (.loop (.seq (kY [kA 14 7,kV 15 (.cm .geq .i64 (.t 14) (.c (.int .i64 0)))] (.ite (.v 15) .skip (.exit 0))) (.seq (.blk 1 (.seq (kY [kA 18 6,kA 19 7,kI 20 1 18 19,kD 21 20,kA 22 1,kV 23 (.cm .lss .i64 (.t 21) (.t 22))] (.ite (.v 23) (kY [kA 24 6,kA 25 7,kI 26 1 24 25,kD 27 26,kU 28 (.ar .add .i64 (.t 27) (.c (.int .i64 1))),kI 29 1 24 25,.e .no (.st (.t 29) (.t 28))] (kY [kA 30 6,kB 4 30,kC 5 (.bool true)] .ret)) .skip)) (.reg [kA 31 6,kA 32 7,kI 33 1 31 32,.e .no (.st (.t 33) (.c (.int .i64 0)))]))) (.reg [kA 16 7,kU 17 (.ar .sub .i64 (.t 16) (.c (.int .i64 1))),kB 7 17])))))) (kY [kA 34 6,kB 4 34,kC 5 (.bool false)] .ret)))
def r_rnext:List RV:=[.t 4,.t 5]
def nxtF (most:Int):List Int->List Int×Bool
 |[]=>([],false)
 |a::t=>if(nxtF most t).2=true then(a::(nxtF most t).1,true)else if a<most then((a+1)::(nxtF most t).1,true)else(0::(nxtF most t).1,false)
theorem nxtF_len (most:Int):∀l,(nxtF most l).1.length=l.length
 |[]=>rfl
 |a::t=>by
  have:=nxtF_len most t
  unfold nxtF
  split
  ·simp[this]
  ·split<;>simp[this]
theorem nxtF_true {most:Int}:∀{k:Nat} {l:List Int},(nxtF most (l.drop k)).2=true->nxtF most l=(l.take k++(nxtF most (l.drop k)).1,true)
 |0,l,h=>by
  rw[List.drop_zero]at h⊢
  rw[List.take_zero,List.nil_append,<-h]
 |k+1,[],h=>by simp[nxtF]at h
 |k+1,a::t,h=>by
  rw[List.drop_succ_cons]at h⊢
  have:=nxtF_true h
  rw[nxtF,this]
  simp
def RNextSpec (P:Program) (k:FuncId):Prop:=∀(l:List Int) (v:Value) (most:Int) (H:Hp),SlR H v (iL l)->l.length<=1000->(∀u∈l,0<=u/\u<=1000)->CallsM P k #[v,.int .i64 most] H fun r H'=>∃w,r=.tuple #[w,.bool (nxtF most l).2]/\OwS H' w (iL (nxtF most l).1)/\(∀q,ownB w q->H.size<=q)/\Keep (fun _=>False) H H'
theorem rnext_ok {P:Program} {ι:Ids} {k:FuncId} (hk:FnIs P k (c_rnext ι) r_rnext 2):RNextSpec P k:=by
 intro l v most H hv hl hr
 obtain⟨Q,hQ⟩:∃Q:Value->Hp->Prop,Q=fun r H'=>∃w,r=.tuple #[w,.bool (nxtF most l).2]/\OwS H' w (iL (nxtF most l).1)/\(∀q,ownB w q->H.size<=q)/\Keep (fun _=>False) H H':=⟨_,rfl⟩
 rw[<-hQ]
 refine calls_of_vc hk (args:=[_,_]) (by simp) ?_
 unfold c_rnext r_rnext kA kB kC kD kI kL kU kV kY kZ
 simp only[go_sem,Za,Zb]
 refine kont_news fun H1 b1 e1 z1 B1 K1=>?_
 have s1:=K1.size
 simp only[go_sem,Za,Zb]
 refine app_slN H.size (l:=([]:List Value)) (m:=iL l) (OwS.new B1 rfl rfl) (fun q (hq:q=b1)=>by omega) (by omega) (hv.keep K1 (by simp)) (iL_all1 _) rfl (by omega) (by simp[iL_len];omega) fun w H2 O2 o2 K2=>?_
 rw[List.nil_append]at O2
 have K02:=K1.at_old K2 (Nat.le_refl _)
 have lw:lenV w=l.length:=by rw[O2.sl.len,iL_len]
 have w1:IntKind.i64.wrap ((l.length:Int) -1)=(l.length:Int) -1:=IntWalk.i64_in _ (by omega)
 rw[kont_eq]
 simp only[go_sem,Za,Zb,O2.sl.isSl,lw,w1]
 refine vc_loop [7,15,23,4,5] rfl (fun n f A=>∃i:Nat,n=i/\i<=l.length/\f 7=.int .i64 ((i:Int) -1)/\(nxtF most (l.drop i)).2=false/\OwS A w (iL (l.take i++(nxtF most (l.drop i)).1))/\Keep (fun _=>False) H A) l.length ⟨l.length,rfl,Nat.le_refl _,by simp only[go_sem,Za,Zb,kont_eq],by rw[List.drop_length];rfl,by rw[List.drop_length,List.take_length];simpa[nxtF]using O2,K02⟩ ?_
 rintro n f A ⟨i,rfl,hi,f7,hb,O,K⟩
 simp only[go_sem,Za,Zb,kont_eq]at f7
 by_cases h0:n=0
 ·subst h0
  have f7':f 7=.int .i64 (-1):=by rw[f7];rfl
  have d:decide ((-1:Int)≥0)=false:=rfl
  simp only[go_sem,Za,Zb,f7',d]
  rw[List.drop_zero]at hb O
  rw[List.take_zero,List.nil_append]at O
  rw[hQ,hb]
  exact⟨w,rfl,O,o2,K⟩
 obtain⟨j,rfl⟩:∃j,n=j+1:=⟨n -1,by omega⟩
 have f7':f 7=.int .i64 (j:Int):=by rw[f7];congr 1;omega
 have hj:j<l.length:=by omega
 have hdj:l.drop j=l[j]::l.drop (j+1):=List.drop_eq_getElem_cons hj
 have hra:=hr l[j] (List.getElem_mem hj)
 have htl:l.take (j+1)=l.take j++[l[j]]:=List.take_succ_eq_append_getElem hj
 have hlt:(l.take j).length=j:=by rw[List.length_take];omega
 have hcl:(l.take (j+1)++(nxtF most (l.drop (j+1))).1).length=l.length:=by rw[List.length_append,nxtF_len,List.length_take,List.length_drop];omega
 obtain⟨b,c,L,hwe,h1,h2,hB,h3,h4⟩:=O.some (by intro e';have:=congrArg List.length e';rw[iL_len,hcl,List.length_nil]at this;omega)
 rw[iL_len,hcl]at hwe h1 h3
 subst hwe
 have hset:∀x:Int,(l.take (j+1)++(nxtF most (l.drop (j+1))).1).set j x=l.take j++x::(nxtF most (l.drop (j+1))).1:=fun x=>by
  rw[htl,List.append_assoc,List.set_append_right _ _ (by omega),hlt,Nat.sub_self];rfl
 have hget:cell A ⟨b,j,none⟩=some (.int .i64 l[j]):=by
  have:=O.sl.cell_at (i:=j) (by rw[iL_len,hcl];exact hj)
  rw[Nat.zero_add]at this
  rw[this,iL_get _ _ (by rw[hcl];exact hj),htl,List.getD_eq_getElem?_getD,List.append_assoc,List.getElem?_append_right (by omega),hlt,Nat.sub_self]
  rfl
 have hb2:=o2 b rfl
 have ts:=hB.okSt (o:=j) (by omega)
 have st:∀x:Int,OwS (setc A ⟨b,j,none⟩ (.int .i64 x)) (.slice (some ⟨b,0,none⟩) l.length c) (iL (l.take j++x::(nxtF most (l.drop (j+1))).1)):=fun x=>by
  have:=setOwS hB (l:=iL (l.take (j+1)++(nxtF most (l.drop (j+1))).1)) (by rw[iL_len,hcl];exact h1) h2 (by rw[iL_len,hcl];exact h3) j (.int .i64 x) (by rw[iL_len,hcl];exact hj)
  rw[iL_set,hset,iL_len,hcl]at this
  exact this
 have Ks:∀x:Int,Keep (fun q=>q=b) A (setc A ⟨b,j,none⟩ (.int .i64 x)):=fun x=>(Keep.refl _ _).setc _ (.inl rfl)
 have d0:decide ((j:Int)≥0)=true:=decide_eq_true (by omega)
 have wa:IntKind.i64.wrap (l[j]+1)=l[j]+1:=IntWalk.i64_in _ (by omega)
 have wj:IntKind.i64.wrap ((j:Int) -1)=(j:Int) -1:=IntWalk.i64_in _ (by omega)
 by_cases hlt':l[j]<most
 ·have d1:decide (l[j]<most)=true:=decide_eq_true hlt'
  have hn:nxtF most (l.drop j)=((l[j]+1)::(nxtF most (l.drop (j+1))).1,true):=by
   rw[hdj,nxtF,hb];simp[hlt']
  have hN:=nxtF_true (most:=most) (k:=j) (l:=l) (by rw[hn])
  rw[hn]at hN
  simp only[go_sem,Za,Zb,f7',d0,tn_cast,hget,d1,wa,ts]
  refine⟨by omega,by omega,by omega,?_⟩
  rw[kont_eq]
  simp only[go_sem,Za,Zb]
  rw[hQ,hN]
  exact⟨_,rfl,st _,o2,K.trans' (Ks _) fun q hq e=>by omega⟩
 ·have d1:decide (l[j]<most)=false:=decide_eq_false hlt'
  have hn:nxtF most (l.drop j)=(0::(nxtF most (l.drop (j+1))).1,false):=by
   rw[hdj,nxtF,hb];simp[hlt']
  simp only[go_sem,Za,Zb,f7',d0,tn_cast,hget,d1,ts,wj]
  refine⟨by omega,by omega,?_⟩
  rw[kont_eq]
  simp only[go_sem,Za,Zb,f7',wj]
  refine⟨j,by omega,j,rfl,by omega,rfl,by rw[hn],by rw[hn];exact st 0,K.trans' (Ks 0) fun q hq e=>by omega⟩
end Go.Mg
namespace Go.Mg
set_option linter.all false
def ChG (t:List Int×Bool):List (List Int)->Prop
 |[]=>False
 |[a]=>nxtF 4 a=t
 |a::b::l=>nxtF 4 a=(b,true)/\ChG t (b::l)
theorem ChG.app {t:List Int×Bool} {b:List Int} {m:List (List Int)} (hm:ChG t (b::m)):∀{l:List (List Int)},ChG (b,true) l->ChG t (l++b::m)
 |[],h=>h.elim
 |[a],h=>⟨h,hm⟩
 |a::c::l,h=>⟨h.1,ChG.app hm h.2⟩
theorem ChG.map {z:List Int} (u:Int):∀{l:List (List Int)},ChG (z,false) l->ChG (if u<4 then((u+1)::z,true)else(0::z,false)) (l.map fun s=>u::s)
 |[],h=>h.elim
 |[a],h=>by
  have h:nxtF 4 a=(z,false):=h
  show nxtF 4 (u::a)=_
  rw[nxtF,h]
  rfl
 |a::b::l,h=>by
  refine⟨?_,ChG.map u h.2⟩
  show nxtF 4 (u::a)=(u::b,true)
  rw[nxtF,h.1]
  rfl
theorem lexL_succ (n:Nat):lexL (n+1)=(lexL n).map (fun s=>(0:Int)::s)++((lexL n).map (fun s=>(1:Int)::s)++((lexL n).map (fun s=>(2:Int)::s)++((lexL n).map (fun s=>(3:Int)::s)++(lexL n).map fun s=>(4:Int)::s))):=by
 have e:List.range 5=[0,1,2,3,4]:=rfl
 rw[lexL,e]
 simp only[List.flatMap_cons,List.flatMap_nil,List.append_nil]
 rfl
theorem lexL_ch:∀n,ChG (List.replicate n 0,false) (lexL n)/\∃L,lexL n=List.replicate n 0::L
 |0=>⟨rfl,[],rfl⟩
 |n+1=>by
  obtain⟨h1,L,hL⟩:=lexL_ch n
  have h0:=ChG.map 0 h1
  have h2:=ChG.map 1 h1
  have h3:=ChG.map 2 h1
  have h4:=ChG.map 3 h1
  have h5:=ChG.map 4 h1
  rw[if_pos (by decide)]at h0 h2 h3 h4
  rw[if_neg (by decide)]at h5
  rw[lexL_succ]
  refine⟨?_,?_⟩
  ·rw[hL]at h0 h2 h3 h4 h5⊢
   simp only[List.map_cons,List.cons_append]at h0 h2 h3 h4 h5⊢
   refine ChG.app (l:=_::_) ?_ h0
   refine ChG.app (l:=_::_) ?_ h2
   refine ChG.app (l:=_::_) ?_ h3
   exact ChG.app (l:=_::_) h5 h4
  ·rw[hL]
   exact⟨_,rfl⟩
theorem lexL_length:∀n,(lexL n).length=5^n
 |0=>rfl
 |n+1=>by rw[lexL_succ];simp only[List.length_append,List.length_map,lexL_length n];omega
def elgB (ms:List UInt64) (s:List Int):Bool:=(List.range s.length).all fun k=>decide (0<s.getD k 0)&&bt (ms.getD k 0) (s.getD k 0).toNat
def valB (F:FlN) (ms:List UInt64) (s:List Int):Bool:=elgB ms s&&decide ((hldF F s).1=0)
def valL (F:FlN) (ms:List UInt64):List (List Int):=(lexL F.st.length).filter (valB F ms)
def cmpV (F:FlN) (ms:List UInt64) (st:List Int):List (List Int):=(valL F ms).filter (agrB st)
variable {F:FlN} {s st:List Int} {ms:List UInt64}
theorem hldF_0:(hldF F s).1=0↔F.di.any (difB s)=false/\F.sa.any (samB s)=false/\F.mo.any (mosB s)=false:=by
 have key:∀{α:Type} {p:α->Bool} {l:List α},l.findIdx? p=none↔l.any p=false:=fun{α p l}=>by
  rw[List.findIdx?_eq_none_iff,List.any_eq_false]
  simp
 unfold hldF
 cases h1:F.di.findIdx? (difB s)with
 |some i=>
  simp only
  constructor
  ·intro h;omega
  ·rintro⟨h,_⟩;rw[key.2 h]at h1;cases h1
 |none=>
  cases h2:F.sa.findIdx? (samB s)with
  |some i=>
   simp only
   constructor
   ·intro h;omega
   ·rintro⟨_,h,_⟩;rw[key.2 h]at h2;cases h2
  |none=>
   cases h3:F.mo.findIdx? (mosB s)with
   |some i=>
    simp only
    constructor
    ·intro h;omega
    ·rintro⟨_,_,h⟩;rw[key.2 h]at h3;cases h3
   |none=>simp only[true_iff];exact⟨key.1 h1,key.1 h2,key.1 h3⟩
theorem getD_map_bt (ms:List UInt64) (k:Nat):(ms.map bt).getD k (fun _=>false)=bt (ms.getD k 0):=by
 rw[List.getD_eq_getElem?_getD,List.getD_eq_getElem?_getD,List.getElem?_map]
 by_cases h:k<ms.length
 ·rw[List.getElem?_eq_getElem h];rfl
 ·rw[List.getElem?_eq_none (by omega)]
  funext n
  simp[bt]
theorem valB_all (hs:∀u∈s,0<=u/\u<=4):valB F ms s=allB (pbOf F (ms.map bt)) s:=by
 rw[Bool.eq_iff_iff]
 unfold valB allB brkB
 have e:∀k,elA (pbOf F (ms.map bt)) k=bt (ms.getD k 0):=fun k=>getD_map_bt ms k
 have mi:∀(k:Nat),k<s.length->memI (bt (ms.getD k 0)) (s.getD k 0)=bt (ms.getD k 0) (s.getD k 0).toNat:=fun k hk=>by
  have:s.getD k 0∈s:=by rw[List.getD_eq_getElem?_getD,List.getElem?_eq_getElem hk];exact List.getElem_mem _
  have:=hs _ this
  unfold memI
  rw[decide_eq_true (by omega),decide_eq_true (by omega)];rfl
 have hel:elgB ms s=true↔(s.all fun u=>decide (u≠0))=true/\elB (pbOf F (ms.map bt)) s=false:=by
  unfold elgB
  simp only[List.all_eq_true,List.mem_range,Bool.and_eq_true,decide_eq_true_eq]
  rw[Bool.eq_false_iff]
  constructor
  ·intro h
   refine⟨fun u hu=>?_,fun hb=>?_⟩
   ·obtain⟨k,hk,rfl⟩:=List.getElem_of_mem hu
    have:=(h k hk).1
    rw[List.getD_eq_getElem?_getD,List.getElem?_eq_getElem hk]at this
    simp only[Option.getD_some]at this
    omega
   ·obtain⟨k,hk,h0,h1⟩:=elB_iff.1 hb
    rw[e,mi k hk,(h k hk).2]at h1
    cases h1
  ·rintro⟨h1,h2⟩ k hk
   have hm:s.getD k 0∈s:=by rw[List.getD_eq_getElem?_getD,List.getElem?_eq_getElem hk];exact List.getElem_mem _
   have:=h1 _ hm
   have:=hs _ hm
   refine⟨by omega,?_⟩
   cases hb:bt (ms.getD k 0) (s.getD k 0).toNat with
   |true=>rfl
   |false=>exact absurd (elB_iff.2 ⟨k,hk,by omega,by rw[e,mi k hk];exact hb⟩) h2
 simp only[Bool.and_eq_true,decide_eq_true_eq,hel,hldF_0,Bool.not_eq_true',Bool.or_eq_false_iff]
 constructor
 ·rintro⟨⟨a,b⟩,c,d,e⟩;exact⟨a,⟨⟨b,c⟩,d⟩,e⟩
 ·rintro⟨a,⟨⟨b,c⟩,d⟩,e⟩;exact⟨⟨a,b⟩,c,d,e⟩
theorem src_cmp (hst:st.length=F.st.length) (hms:∀k u,bt (ms.getD k 0) u=true->1<=u/\u<=4):srcF (pbOf F (ms.map bt)) (zerN st+1) st=cmpV F ms st:=by
 rw[src_lex (fun k u h=>by rw[elA,pbOf,getD_map_bt]at h;exact hms k u h) _ _ (by omega)]
 unfold cmpV valL
 rw[List.filter_filter,hst]
 refine List.filter_congr fun t ht=>?_
 rw[valB_all (lexL_mem.1 ht).2]
theorem sol_cmp (hst:st.length=F.st.length) (hms:∀k u,bt (ms.getD k 0) u=true->1<=u/\u<=4):solF (pbOf F (ms.map bt)) st=(cmpV F ms st).head?:=by
 unfold solF;rw[src_cmp hst hms]
end Go.Mg
namespace Go.Mg
set_option linter.all false
def dnM (st:List Int):Nat->UInt64
 |0=>0
 |k+1=>if st.getD k 0≠0 then orB (dnM st k) k else dnM st k
theorem dnM_bt {st:List Int}:∀{n:Nat},n<=64->bt (dnM st n)=doneP st n
 |0,_=>by funext j;simp[dnM,doneP,bt]
 |n+1,h=>by
  rw[dnM]
  split
  ·next h1=>
   funext j
   rw[bt_orB _ (by omega),dnM_bt (by omega)]
   unfold doneP
   rw[Bool.eq_iff_iff]
   simp only[Bool.or_eq_true,Bool.and_eq_true,decide_eq_true_eq]
   constructor
   ·rintro(⟨a,b⟩|rfl)
    ·exact⟨by omega,b⟩
    ·exact⟨by omega,h1⟩
   ·rintro⟨a,b⟩
    by_cases e:j=n
    ·exact .inr e
    ·exact .inl ⟨by omega,b⟩
  ·next h1=>rw[dnM_bt (by omega),doneP_skip (by simpa using h1)]
def MsOk (ms:List UInt64):Prop:=∀k u,bt (ms.getD k 0) u=true->1<=u/\u<=4
theorem masksF_ok (r:RawF):MsOk (masksF r):=fun k u h=>by
 by_cases hk:k<nuF r
 ·have e:(masksF r).getD k 0=maskF r k:=by simp[masksF,List.getD_eq_getElem?_getD,hk]
  rw[e]at h
  unfold bt at h
  rw[maskF_nat]at h
  obtain⟨m,hm⟩:∃m,m=if k<r.el.length then(r.el.getD k 0).toNat % 16 else 15:=⟨_,rfl⟩
  rw[<-hm]at h
  have hm':m<16:=by rw[hm];split<;>omega
  have h2:=Nat.ge_two_pow_of_testBit h
  have hu:u<5:=by
   apply Classical.byContradiction
   intro hc
   have:2^5<=2^u:=Nat.pow_le_pow_right (by omega) (by omega)
   omega
  have h0:u≠0:=by
   rintro rfl
   rw[Nat.testBit_zero]at h
   simp at h
  omega
 ·rw[List.getD_eq_getElem?_getD,List.getElem?_eq_none (by rw[masksF_len];omega)]at h
  simp[bt]at h
def rAskF (F:FlN) (ms:List UInt64) (st:List Int) (step user:Int):Int:=
 if step∈nI (rdyL F.st.length F.be (bt (dnM st st.length)))then
  if user<1\/4<user\/bt (ms.getD step.toNat 0) user.toNat=false then 3 else
  if(hldF F (st.set step.toNat user)).1≠0 then 4 else if cmpV F ms (st.set step.toNat user)=[]then 5 else 1
 else 2
def okS (n:Nat) (st:List Int):Prop:=st.length=n/\∀u∈st,0<=u/\u<=4
variable {n:Nat} {st:List Int} {ms:List UInt64} {F:FlN}
theorem okS.set (h:okS n st) {k:Nat} {u:Int} (hu:0<=u/\u<=4):okS n (st.set k u):=by
 refine⟨by rw[List.length_set];exact h.1,fun v hv=>?_⟩
 rcases List.mem_or_eq_of_mem_set hv with h'|rfl
 ·exact h.2 v h'
 ·exact hu
theorem okS.U (h:okS n st):okU n st:=⟨h.1,fun u hu=>by have:=h.2 u hu;omega⟩
theorem okS.fit (h:okS n st):fitB n st=true:=by
 unfold fitB
 simp only[Bool.and_eq_true,List.all_eq_true,decide_eq_true_eq]
 exact⟨fun u hu=>by have:=h.2 u hu;omega,h.1⟩
theorem memI_ms (hm:MsOk ms) (k:Nat) (u:Int):memI (bt (ms.getD k 0)) u=true↔¬(u<1\/4<u\/bt (ms.getD k 0) u.toNat=false):=by
 unfold memI
 simp only[Bool.and_eq_true,decide_eq_true_eq]
 constructor
 ·rintro⟨⟨h0,h1⟩,h2⟩
  have:=hm k _ h2
  rw[h2]
  simp
  omega
 ·intro h
  have h2:bt (ms.getD k 0) u.toNat=true:=by
   cases hb:bt (ms.getD k 0) u.toNat with
   |true=>rfl
   |false=>exact absurd (.inr (.inr hb)) h
  exact⟨⟨by omega,by omega⟩,h2⟩
theorem ask_ref (hS:okS F.st.length st) (hn:F.st.length<=10) (hm:MsOk ms) (step user:Int):askF F (ms.map bt) st step user=rAskF F ms st step user:=by
 unfold askF rAskF
 rw[dnM_bt (by rw[hS.1];omega),getD_map_bt]
 by_cases h1:step∈nI (rdyL F.st.length F.be (doneP st st.length))
 ·rw[if_pos h1,if_pos h1]
  by_cases h2:memI (bt (ms.getD step.toNat 0)) user=true
  ·rw[if_pos h2,if_neg ((memI_ms hm _ _).1 h2)]
   have h2':=(memI_ms hm _ _).1 h2
   have hS':okS F.st.length (st.set step.toNat user):=hS.set (by omega)
   have e:(hldR F (st.set step.toNat user)).2.2=decide ((hldF F (st.set step.toNat user)).1=0):=by
    unfold hldR;rw[if_pos hS'.fit]
   rw[e]
   by_cases h3:(hldF F (st.set step.toNat user)).1=0
   ·rw[if_pos (decide_eq_true h3),if_neg (show¬(hldF F (st.set step.toNat user)).1≠0 from fun hc=>hc h3),sol_cmp hS'.1 hm]
    cases cmpV F ms (st.set step.toNat user)with
    |nil=>rfl
    |cons a l=>rfl
   ·rw[if_neg (fun hc=>h3 (of_decide_eq_true hc)),if_pos h3]
  ·rw[if_neg h2,if_pos]
   apply Classical.byContradiction
   intro hc
   exact h2 ((memI_ms hm _ _).2 hc)
 ·rw[if_neg h1,if_neg h1]
theorem mem_cmp {t:List Int}:t∈cmpV F ms st↔(t.length=F.st.length/\∀u∈t,0<=u/\u<=4)/\valB F ms t=true/\agrB st t=true:=by
 unfold cmpV valL
 rw[List.mem_filter,List.mem_filter,lexL_mem,and_assoc]
end Go.Mg
namespace Go.Mg
set_option linter.all false
variable {n k:Nat} {be:List PrN} {F:FlN} {ms:List UInt64} {st:List Int} {user:Int}
theorem mem_rdyL {d:Nat->Bool}:k∈rdyL n be d↔k<n/\waitB be d k=false/\memI d (k:Int)=false:=by
 unfold rdyL
 rw[List.mem_filter,List.mem_range]
 simp only[Bool.and_eq_true,Bool.not_eq_true']
theorem cmp_at {t:List Int} (ht:t∈cmpV F ms st) (hk:k<F.st.length):1<=t.getD k 0/\t.getD k 0<=4/\bt (ms.getD k 0) (t.getD k 0).toNat=true:=by
 obtain⟨⟨h1,h2⟩,h3,_⟩:=mem_cmp.1 ht
 unfold valB elgB at h3
 simp only[Bool.and_eq_true,List.all_eq_true,List.mem_range,decide_eq_true_eq]at h3
 obtain⟨ha,hb⟩:=h3.1 k (by omega)
 have hm:t.getD k 0∈t:=by rw[List.getD_eq_getElem?_getD,List.getElem?_eq_getElem (by omega)];exact List.getElem_mem _
 have:=h2 _ hm
 exact⟨by omega,by omega,hb⟩
def ordB (be:List PrN) (st:List Int):Bool:=be.all fun x=>decide (sI st x.2=0)||decide (sI st x.1≠0)
theorem ord_rep (be:List PrN) (n:Nat):ordB be (List.replicate n (0:Int))=true:=by
 unfold ordB
 rw[List.all_eq_true]
 intro x _
 have:sI (List.replicate n (0:Int)) x.2=0:=by
  unfold sI
  rw[List.getD_eq_getElem?_getD,List.getElem?_replicate]
  split<;>rfl
 rw[this];simp
theorem ord_set (hbe:∀x∈be,okP (n:Int) x) (hl:st.length=n) (hn:n<=1000) (h:ordB be st=true) (hk:k∈rdyL n be (doneP st st.length)) (hu:user≠0):ordB be (st.set k user)=true:=by
 obtain⟨hkn,hw,_⟩:=mem_rdyL.1 hk
 unfold ordB at h⊢
 rw[List.all_eq_true]at h⊢
 rintro⟨x1,x2⟩ hx
 have hx':=h _ hx
 obtain⟨p1,p2,p3,p4⟩:=hbe _ hx
 simp only at p1 p2 p3 p4
 obtain⟨j1,rfl⟩:∃j:Nat,x1=(j:Int):=⟨x1.toNat,by omega⟩
 obtain⟨j2,rfl⟩:∃j:Nat,x2=(j:Int):=⟨x2.toNat,by omega⟩
 have g:∀j,j<n->(st.set k user).getD j 0=if k=j then user else st.getD j 0:=fun j hj=>by
  rw[List.getD_eq_getElem?_getD,List.getElem?_set]
  by_cases e:k=j
  ·subst e;simp[hl,hj]
  ·rw[if_neg e,if_neg e,<-List.getD_eq_getElem?_getD]
 rw[Bool.or_eq_true,decide_eq_true_eq,decide_eq_true_eq]at hx'⊢
 have s1:∀s:List Int,sI s ((j1:Nat):Int)=s.getD j1 0:=fun s=>by unfold sI;rw[Int.toNat_natCast]
 have s2:∀s:List Int,sI s ((j2:Nat):Int)=s.getD j2 0:=fun s=>by unfold sI;rw[Int.toNat_natCast]
 have hx':st.getD j2 0=0\/st.getD j1 0≠0:=by rw[<-s1,<-s2];exact hx'
 show sI (st.set k user) ((j2:Nat):Int)=0\/sI (st.set k user) ((j1:Nat):Int)≠0
 rw[s1,s2,g j1 (by omega),g j2 (by omega)]
 have key:st.getD j1 0≠0->(if k=j1 then user else st.getD j1 0)≠0:=fun h=>by split;exact hu;exact h
 by_cases e2:k=j2
 ·right
  apply key
  unfold waitB at hw
  rw[List.any_eq_false]at hw
  have:=hw _ hx
  simp only[e2,decide_true,Bool.true_and,Bool.not_eq_true',Bool.not_eq_false]at this
  rw[memI_nat (by omega)]at this
  unfold doneP at this
  rw[Bool.and_eq_true,decide_eq_true_eq,decide_eq_true_eq]at this
  exact this.2
 ·rw[if_neg e2]
  exact hx'.imp id key
theorem ask_1 (hS:okS F.st.length st) (hn:F.st.length<=10) {step:Int} (h:rAskF F ms st step user=1):
  ∃k:Nat,step=(k:Int)/\k∈rdyL F.st.length F.be (doneP st st.length)/\k<F.st.length/\st.getD k 0=0/\1<=user/\user<=4/\bt (ms.getD k 0) user.toNat=true/\cmpV F ms (st.set k user)≠[]/\okS F.st.length (st.set k user):=by
 unfold rAskF at h
 rw[dnM_bt (by rw[hS.1];omega)]at h
 split at h
 ·next h1=>
  split at h
  ·omega
  ·next h2=>
   split at h
   ·omega
   ·next h3=>
    split at h
    ·omega
    ·next h4=>
     unfold nI at h1
     obtain⟨k,hk,rfl⟩:=List.mem_map.1 h1
     obtain⟨hkn,hw,hd⟩:=mem_rdyL.1 hk
     have h0:st.getD k 0=0:=by
      rw[memI_nat (by omega)]at hd
      unfold doneP at hd
      rw[hS.1,decide_eq_true hkn,Bool.true_and]at hd
      simpa using hd
     rw[Int.toNat_natCast]at h2 h4
     refine⟨k,rfl,hk,hkn,h0,by omega,by omega,?_,h4,hS.set (by omega)⟩
     cases hb:bt (ms.getD k 0) user.toNat with
     |true=>rfl
     |false=>exact absurd (.inr (.inr hb)) h2
 ·omega
end Go.Mg

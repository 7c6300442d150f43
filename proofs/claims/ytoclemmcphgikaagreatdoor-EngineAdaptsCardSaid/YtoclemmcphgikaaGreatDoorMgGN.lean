/- Several texts of ours in one. No conditions. -/
import Derived.Test.YtoclemmcphgikaaGreatDoorMgE4
import Derived.Test.YtoclemmcphgikaaGreatDoorMgVC
open Nat renaming reduceEqDiff→Za,reduceAdd→Zb,reduceMul→Zc,reduceLeDiff→Zd,reduceLT→Ze
open Int renaming reduceBEq→Zf,reduceBNe→Zg,reduceLE→Zh,reduceLT→Zi
namespace Go.Mg
open Go Go.RowKit
set_option linter.all false
set_option maxRecDepth 100000
def c_alB (ι:Ids):S:=
 (.reg [kA 25 8,kF 26 25,kS 27 26 true 10,kT 28 26 true (.cm .gtr .i64 (.t 27) (.c (.int .i64 0))),kJ 29 26 28,kF 30 29,kS 31 30 true 1,kS 32 30 true 9,kT 33 30 true (.is 1 (.t 31) (.t 32)),kT 34 30 true (.ld (.t 33)),kS 35 30 true 10,kT 36 30 true (.sh .shr .u64 (.t 34) (.t 35)),kT 37 30 true (.dv .rem .u64 (.t 36) (.c (.int .u64 2))),kT 38 30 true (.cm .eql .u64 (.t 37) (.c (.int .u64 1))),kJ 39 30 38,kB 8 39])
def c_alN (ι:Ids):S:=
 (.reg [kA 55 6,.e (.t 56) (.call (ι.f 394) [.t 55,.c (.int .i64 4)]),kF 54 56,kQ 57 54 0,kQ 58 54 1,kB 6 57,kB 7 58])
def c_rall (ι:Ids):S:=
 kY [kR 2 (ι.t 289) 0,kC 4 (kZ)] (kY [kC 5 (kZ)] (kY [kG 13 0 2,kD 14 13,kL 15 14,.e (.t 16) (.mkS (ι.t 26) 1 8 #[.int .i64 0] (.t 15) (.t 15)),kB 6 16] (.seq (kY [kC 7 (.bool true)] (.blk 0 (.loop (.seq (kY [kV 17 (.mv (.v 7))] (.ite (.v 17) .skip (.exit 0))) (.blk 1 (kY [kC 8 (.bool true)] (.seq (kY [kV 18 (.mv (.v 6)),kO 19 18,kC 20 (.int .i64 0)] (.blk 2 (.loop (kY [kH 21 20 19] (.seq (.ite (.v 21) .skip (.exit 2)) (.seq (.blk 3 (kY [kA 22 20,kK 23 1 18 20,kD 24 23,kB 9 22,kB 10 24] (c_alB ι))) (.reg [ke 40 20,kB 20 40]))))))) (.seq (kY [kV 41 (.mv (.v 8))] (.ite (.v 41) (kY [kM 43 5 2,kA 44 6,.e (.t 45) (.call (ι.f 321) [.t 43,.t 44]),kF 42 45,kQ 46 42 0,kQ 47 42 1,kB 11 46,kF 12 47] (kY [kA 48 11,kV 49 (.cm .eql .i64 (.t 48) (.c (.int .i64 0)))] (.ite (.v 49) (.reg [kA 50 5,kA 51 6,.e (.t 52) (.bldF (ι.t 138) 1 1 [.t 51]),.e (.t 53) (.app false (ι.t 138) 1 24 #[kZ] (.t 50) (.t 52)),kB 5 53]) .skip))) .skip)) (c_alN ι))))))))) (kY [kA 59 5,kB 4 59] .ret))))
def r_rall:List RV:=[.t 4]
structure LsR (H:Hp) (vs:List Value) (ls:List (List Int)):Prop where
 len:vs.length=ls.length
 at_:∀i (h:i<vs.length) (h':i<ls.length),SlR H vs[i] (iL ls[i])
variable {H H' A:Hp} {vs:List Value} {ls:List (List Int)} {C:Nat} {v sv:Value} {s:List Int} {P:Program} {ι:Ids} {f:Fr} {Qb:Ex->Fr->Hp->Prop}
theorem LsR.keep {W:Nat->Prop} (h:LsR H vs ls) (hk:Keep W H H') (hw:∀x∈vs,∀q,slB x q->¬W q):LsR H' vs ls:=
 ⟨h.len,fun i h1 h2=>(h.at_ i h1 h2).keep hk fun q hq=>hw _ (List.getElem_mem h1) q hq⟩
theorem LsR.keep0 (h:LsR H vs ls) (hk:Keep (fun _=>False) H H'):LsR H' vs ls:=h.keep hk fun _ _ _ _ h=>h
theorem LsR.snoc (h:LsR H vs ls) {x:Value} {y:List Int} (h2:SlR H x (iL y)):LsR H (vs++[x]) (ls++[y]):=by
 refine⟨by simp[h.len],fun i hi hi'=>?_⟩
 by_cases e:i<vs.length
 ·rw[List.getElem_append_left e,List.getElem_append_left (by rw[<-h.len];exact e)];exact h.at_ i e (by rw[<-h.len];exact e)
 ·have hi2:i=vs.length:=by simp at hi;omega
  subst hi2
  have e1:(vs++[x])[vs.length]=x:=by simp
  have e2:(ls++[y])[vs.length]'hi'=y:=by
   have:=h.len
   simp[this]
  rw[e1,e2];exact h2
def LsO (C:Nat) (H:Hp) (v:Value) (ls:List (List Int)):Prop:=∃vs,OwS H v vs/\LsR H vs ls/\(∀q,ownB v q->C<=q)/\∀x∈vs,∀q,slB x q->¬ownB v q
theorem LsO.keep0 (h:LsO C H v ls) (hk:Keep (fun _=>False) H H'):LsO C H' v ls:=by
 obtain⟨vs,h1,h2,h3⟩:=h
 exact⟨vs,h1.keep hk (by simp),h2.keep0 hk,h3⟩
theorem LsO.nil (C:Nat) (H:Hp):LsO C H (.slice none 0 0) []:=⟨[],OwS.nil _,⟨rfl,fun i h=>by simp at h⟩,fun q h=>h.elim,fun x h=>by simp at h⟩
theorem LsO.app {bb:Nat} {A2:Hp} {ov:Value} (h:LsO C A ov ls) (hC:C<=A.size) (hs:SlR A sv (iL s)) (hn:∀q,slB sv q->¬ownB ov q) (hl:ls.length<=1000000) (BB:Bl A2 bb [sv]) (KB:Keep (fun _=>False) A A2)
  {T:TypeId} {K:Value->Hp->Prop} (hK:∀v' A',LsO C A' v' (ls++[s])->Keep (ownB ov) A2 A'->(∀q,ownB v' q->ownB ov q\/A2.size<=q)->K v' A'):AppC false T 1 24 #[.slice none 0 0] ov (.slice (some ⟨bb,0,none⟩) 1 1) A2 K:=by
 obtain⟨vs,OA,RA,oA,rA⟩:=h
 have sA:=KB.size
 have h1:all1 #[sv]:=all1_of (by simp only[List.all_cons,List.all_nil,all1_sl hs.isSl];rfl)
 have hv:=RA.len
 refine app_sl (OA.keep KB (by simp)) (SlR.bl BB 0 1 1 (by omega) (by simp)) h1 rfl (by unfold maxLen;simp;omega) (by simp;omega) fun v' A3 O3 K3 o3=>?_
 have hown:∀q,ownB ov q->q<A.size:=fun q hq=>OA.old hq
 have hvs:∀z∈vs,∀q,slB z q->q<A.size:=fun z hz q hq=>by
  obtain⟨j,hj,rfl⟩:=List.getElem_of_mem hz
  exact(RA.at_ j hj (by rw[<-RA.len];exact hj)).old hq
 refine hK v' A3 ⟨vs++[sv],O3,((RA.keep0 KB).keep K3 fun z hz q hq=>rA z hz q hq).snoc ((hs.keep KB (by simp)).keep K3 fun q hq=>hn q hq),fun q hq=>?_,fun z hz q hq=>?_⟩ K3 o3
 ·rcases o3 q hq with h|h
  ·exact oA q h
  ·omega
 ·rcases List.mem_append.1 hz with hz|hz
  ·intro h
   rcases o3 q h with h|h
   ·exact rA z hz q hq h
   ·have:=hvs z hz q hq;omega
  ·simp only[List.mem_singleton]at hz
   subst hz
   intro h
   rcases o3 q h with h|h
   ·exact hn q hq h
   ·have:=hs.old hq;omega
def elgT (ms:List UInt64) (s:List Int) (i:Nat):Bool:=(List.range i).all fun k=>decide (0<s.getD k 0)&&bt (ms.getD k 0) (s.getD k 0).toNat
theorem elgT_succ (ms:List UInt64) (s:List Int) (i:Nat):elgT ms s (i+1)=(elgT ms s i&&(decide (0<s.getD i 0)&&bt (ms.getD i 0) (s.getD i 0).toNat)):=by
 unfold elgT
 rw[List.range_succ,List.all_append]
 simp
theorem bit_rem1 (x:UInt64) (i:Nat):((((x.toNat:Int)/2^i).tmod 2)==1)=bt x i:=by
 have h:=bit_rem0 x i
 have e:((x.toNat:Int)/2^i)=((x.toNat/2^i:Nat):Int):=by simp
 have e2:(((x.toNat/2^i:Nat):Int)).tmod 2=((x.toNat/2^i % 2:Nat):Int):=tmod_nat _ 2
 rw[e,e2]at h⊢
 have:x.toNat/2^i % 2<2:=Nat.mod_lt _ (by omega)
 cases hb:bt x i with
 |true=>
  rw[hb]at h
  simp only[Bool.not_true,beq_eq_false_iff_ne,ne_eq]at h
  rw[beq_iff_eq];omega
 |false=>
  rw[hb]at h
  simp only[Bool.not_false,beq_iff_eq]at h
  rw[beq_eq_false_iff_ne];omega
theorem alB_ok {ms:List UInt64} {ev:Value} {k:Nat} {u:Int} {ok:Bool} (h1:f 1=ev) (h8:f 8=.bool ok) (h9:f 9=.int .i64 (k:Int)) (h10:f 10=.int .i64 u) (he:SlR A ev (w64 ms)) (hk:k<ms.length) (hu:u<=4)
  (hK:Qb .n (upd f 8 (.bool (ok&&(decide (0<u)&&bt (ms.getD k 0) u.toNat)))) A):vc P (c_alB ι) Qb f A:=by
 unfold c_alB kA kB kF kJ kS kT
 cases ok with
 |false=>
  simp only[go_sem,Za,Zb,kont_eq,h8]
  exact hK
 |true=>
  by_cases h0:0<u
  ·have d0:decide (u>0)=true:=decide_eq_true h0
   have d0':decide (0<u)=true:=decide_eq_true h0
   rw[d0']at hK
   obtain⟨b,o,c,rfl,-,hc⟩:=he.cells (by intro e;have:=congrArg List.length e;rw[w64_len,List.length_nil]at this;omega)
   have hci:=hc k (by rw[w64_len];exact hk)
   rw[w64_get _ _ hk]at hci
   have hln:(w64 ms).length=ms.length:=w64_len _
   obtain⟨j,rfl⟩:∃j:Nat,u=(j:Int):=⟨u.toNat,by omega⟩
   rw[Int.toNat_natCast]at hK
   have hj64:((j:Int)).toNat=j:=by omega
   rw[hln]at h1
   simp only[go_sem,Za,Zb,kont_eq,h1,h8,h9,h10,d0,tn_cast,hci,hj64,bit_rem1]
   refine⟨by omega,⟨by omega,by show((j:Nat):Int)<=((64:Nat):Int);omega⟩,by decide,?_⟩
   exact hK
  ·have d0:decide (u>0)=false:=decide_eq_false h0
   have d0':decide (0<u)=false:=decide_eq_false h0
   rw[d0']at hK
   simp only[go_sem,Za,Zb,kont_eq,h8,h10,d0]
   exact hK
theorem iL_cell {l:List Int} (h:SlR H v (iL l)) {i:Nat} (hi:i<l.length):∃b o c,v=.slice (some ⟨b,o,none⟩) l.length c/\cell H ⟨b,o+i,none⟩=some (.int .i64 (l.getD i 0)):=by
 obtain⟨b,o,c,rfl,-,hc⟩:=h.cells (by intro e;have:=congrArg List.length e;rw[iL_len,List.length_nil]at this;omega)
 rw[iL_len]at hc⊢
 have:=hc i hi
 rw[iL_get _ _ hi]at this
 exact⟨b,o,c,rfl,this⟩
theorem alN_ok (hx:RNextSpec P (ι.f 394)) (h6:f 6=sv) (hs:SlR A sv (iL s)) (hl:s.length<=1000) (hr:∀u∈s,0<=u/\u<=4)
  (hK:∀w A',OwS A' w (iL (nxtF 4 s).1)->(∀q,ownB w q->A.size<=q)->Keep (fun _=>False) A A'->Qb .n (upd (upd f 6 w) 7 (.bool (nxtF 4 s).2)) A'):vc P (c_alN ι) Qb f A:=by
 unfold c_alN kA kB kF kQ
 simp only[go_sem,Za,Zb,h6]
 refine(hx s sv 4 A hs hl fun u hu=>by have:=hr u hu;omega).mono ?_
 rintro r A1 ⟨w,rfl,O,o,K⟩
 rw[kont_eq]
 simp only[go_sem,Za,Zb]
 exact hK w A1 O o K
def AlI (F:FlN) (ms:List UInt64) (H2:Hp) (n:Nat) (f:Fr) (A:Hp):Prop:=∃pre rest sv ov more,lexL F.st.length=pre++rest/\n=rest.length/\f 7=.bool more/\f 6=sv/\f 5=ov∧
 (more=true->∃s rest',rest=s::rest'/\ChG (List.replicate F.st.length 0,false) rest/\SlR A sv (iL s)/\∀q,slB sv q->¬ownB ov q)/\(more=false->rest=[])/\LsO H2.size A ov (pre.filter (valB F ms))/\Keep (fun _=>False) H2 A
def RAllSpec (P:Program) (k:FuncId):Prop:=∀(F:FlN) (ms:List UInt64) (v ev:Value) (H:Hp),RefFl H v F->Good F->F.st.length<=5->SlR H ev (w64 ms)->ms.length=F.st.length->CallsM P k #[v,ev] H fun r H'=>LsO H.size H' r (valL F ms)/\Keep (fun _=>False) H H'
theorem rall_ok {k:FuncId} (hk:FnIs P k (c_rall ι) r_rall 2) (hh:RHldSpec P (ι.f 321)) (hx:RNextSpec P (ι.f 394)):RAllSpec P k:=by
 intro F ms v ev H hv hG hn he hml
 obtain⟨Q,hQ⟩:∃Q:Value->Hp->Prop,Q=fun r H'=>LsO H.size H' r (valL F ms)/\Keep (fun _=>False) H H':=⟨_,rfl⟩
 rw[<-hQ]
 have hv0:=hv
 obtain⟨s,b,d,a,m,rfl,h1,h2,h3,h4,h5⟩:=hv
 refine calls_of_vc hk (args:=[_,_]) (by simp) ?_
 unfold c_rall r_rall kA kB kF kC kD ke kG kH kK kL kM kO kQ kR kV kY kZ
 simp only[go_sem,Za,Zb]
 refine kont_new fun H1 b2 e1 z1 B1 K1=>?_
 have B1':Bl H1 b2 [s,b,d,a,m]:=B1
 have s1:=K1.size
 have c0:cell H1 ⟨b2,0,none⟩=some s:=by rw[B1'.cell];rfl
 have bnd:(F.st.length:Int)<=281474976710655:=by omega
 simp only[go_sem,Za,Zb,c0,h1.isSl,h1.len,tn_cast]
 refine⟨⟨by omega,by omega,by unfold maxLen;omega⟩,?_⟩
 refine kont_news fun H2 bz e2 z2 B2 K2=>?_
 rw[rep_one,iL_rep]at B2
 have s2:=K2.size
 have K02:=K1.trans K2
 have O2:SlR H2 (.slice (some ⟨bz,0,none⟩) F.st.length F.st.length) (iL (List.replicate F.st.length 0)):=(OwS.new (n:=F.st.length) (c:=F.st.length) B2 (by simp[iL_len]) rfl).sl
 obtain⟨hch,L,hL⟩:=lexL_ch F.st.length
 simp only[go_sem,Za,Zb]
 refine vc_loop [17,8,18,19,20,21,9,10,41,11,49,5,6,7] rfl (AlI F ms H2) (lexL F.st.length).length
  ⟨[],lexL F.st.length,.slice (some ⟨bz,0,none⟩) F.st.length F.st.length,.slice none 0 0,true,rfl,rfl,by simp only[go_sem,Za,Zb,kont_eq],by simp only[go_sem,Za,Zb,kont_eq],by simp only[go_sem,Za,Zb,kont_eq],fun _=>⟨_,L,hL,hch,O2,fun q hq h=>h.elim⟩,(fun h=>by cases h),LsO.nil _ _,Keep.refl _ _⟩ ?_
 rintro n f A ⟨pre,rest,sv,ov,more,hpr,hnr,f7,f6,f5,hmt,hmf,LO,KA⟩
 simp only[go_sem,Za,Zb,kont_eq]at f7 f6 f5
 cases more with
 |false=>
  have hr:=hmf rfl
  subst hr
  rw[List.append_nil]at hpr
  simp only[go_sem,Za,Zb,kont_eq,f7,f5]
  rw[hQ]
  refine⟨?_,K02.trans KA⟩
  obtain⟨ws,a1,a2,a3,a4⟩:=LO
  have e:valL F ms=pre.filter (valB F ms):=by unfold valL;rw[hpr]
  rw[e]
  exact⟨ws,a1,a2,fun q hq=>by have:=a3 q hq;omega,a4⟩
 |true=>
  obtain⟨s,rest',rfl,hcg,hsv,hno⟩:=hmt rfl
  have hsm:s∈lexL F.st.length:=by rw[hpr];simp
  obtain⟨hsl,hsr⟩:=lexL_mem.1 hsm
  have K0A:=K02.trans KA
  have hprl:pre.length<=3125:=by
   have h1:=congrArg List.length hpr
   rw[lexL_length,List.length_append]at h1
   have:5^F.st.length<=5^5:=Nat.pow_le_pow_right (by omega) hn
   omega
  have sA:=KA.size
  simp only[go_sem,Za,Zb,kont_eq,f7,f6,hsv.isSl,hsv.len,iL_len,hsl]
  refine vc_range F.st.length [21,9,10,8,20] rfl rfl (by omega) (by rfl) (by rfl) (fun j g2 X=>g2 8=.bool (elgT ms s j)/\X=A) ⟨by rfl,rfl⟩ ?_ ?_
  ·rintro j g2 X hj gj gm ⟨g8,rfl⟩
   simp only[go_sem,Za,Zb,kont_eq]at gj gm g8
   obtain⟨pb,po,pc,hse,hcj⟩:=iL_cell hsv (i:=j) (by omega)
   have hmem:s.getD j 0∈s:=by rw[List.getD_eq_getElem?_getD,List.getElem?_eq_getElem (by omega)];exact List.getElem_mem _
   simp only[go_sem,Za,Zb,kont_eq,gj,hse,tn_cast,hcj]
   refine⟨by omega,?_⟩
   refine alB_ok (ms:=ms) (ev:=ev) (k:=j) (u:=s.getD j 0) (ok:=elgT ms s j) (by rfl) (by simp only[go_sem,Za,Zb,kont_eq,g8]) (by rfl) (by rfl) (he.keep K0A (by simp)) (by omega) (by have:=hsr _ hmem;omega) ?_
   simp only[go_sem,Za,Zb,kont_eq]
   rw[elgT_succ]
  rintro g2 X gj ⟨g8,rfl⟩
  simp only[go_sem,Za,Zb,kont_eq]at g8
  have hel:elgT ms s F.st.length=elgB ms s:=by unfold elgT elgB;rw[hsl]
  rw[hel]at g8
  have hfl:(pre.filter (valB F ms)).length<=1000000:=by
   have:=List.length_filter_le (valB F ms) pre
   omega
  have hnx:∀(Z:Ex->Fr->Hp->Prop) (g:Fr) (Y:Hp) (ov':Value),g 6=sv->g 5=ov'->Keep (fun _=>False) H2 Y->SlR Y sv (iL s)->LsO H2.size Y ov' ((pre++[s]).filter (valB F ms))->(∀q,slB sv q->¬ownB ov' q)→
    vc P (c_alN ι) (blkQ 1 (loopQ (AlI F ms H2) n Z)) g Y:=fun Z g Y ov' g6 g5 KY hsY LY nY=>by
   refine alN_ok hx (s:=s) g6 hsY (by omega) hsr fun w Y' O o K'=>?_
   simp only[go_sem,Za,Zb,kont_eq]
   have hp2:lexL F.st.length=(pre++[s])++rest':=by rw[hpr];simp
   have g5':upd (upd g 6 w) 7 (.bool (nxtF 4 s).2) 5=ov':=by simp only[go_sem,Za,Zb,kont_eq];exact g5
   refine⟨rest'.length,by rw[hnr];simp,pre++[s],rest',w,ov',(nxtF 4 s).2,hp2,rfl,by simp only[go_sem,Za,Zb,kont_eq],by simp only[go_sem,Za,Zb,kont_eq],g5',fun hm=>?_,fun hm=>?_,LY.keep0 K',KY.trans K'⟩
   ·match rest',hcg with
    |[],hcg=>
     have hcg:nxtF 4 s=_:=hcg
     rw[hcg]at hm;cases hm
    |b'::l',hcg=>
     obtain⟨h1',h2'⟩:=hcg
     rw[h1']at O
     refine⟨b',l',rfl,h2',O.sl,fun q hq h=>?_⟩
     obtain⟨ws,a1,a2,a3,a4⟩:=LY
     have:=a1.old h
     have:=o q (O.slB hq)
     omega
   ·match rest',hcg with
    |[],hcg=>rfl
    |b'::l',hcg=>
     rw[hcg.1]at hm;cases hm
  have hval:valB F ms s=(elgB ms s&&decide ((hldF F s).1=0)):=rfl
  have fil:(pre++[s]).filter (valB F ms)=pre.filter (valB F ms)++if valB F ms s=true then[s]else[]:=by
   rw[List.filter_append];simp only[List.filter_cons,List.filter_nil]
  cases hb:elgB ms s with
  |false=>
   rw[hb,Bool.false_and]at hval
   rw[hval,if_neg (by simp),List.append_nil]at fil
   simp only[go_sem,Za,Zb,g8,hb]
   exact hnx _ _ _ ov (by simp only[go_sem,Za,Zb,kont_eq,f6]) (by simp only[go_sem,Za,Zb,kont_eq,f5]) KA hsv (by rw[fil];exact LO) hno
  |true=>
   rw[hb,Bool.true_and]at hval
   have l5:=((K2.trans KA).bl B1' (by simp)).ldNO 5 rfl
   simp only[go_sem,Za,Zb,g8,hb,f6,l5]
   refine(hh F _ sv s X (hv0.keep0 K0A) hG hsv hsl).mono ?_
   rintro r Y ⟨rfl,KY⟩
   have sY:=KY.size
   rw[kont_eq]
   by_cases hz:(hldF F s).1=0
   ·have d:(((hldF F s).1:Int)==0)=true:=by rw[hz];rfl
    rw[decide_eq_true hz]at hval
    rw[hval,if_pos rfl]at fil
    obtain⟨pa,pcc,rfl,-⟩:=hsv.mk
    simp only[go_sem,Za,Zb,d,f5,f6,and_self,true_and]
    refine kont_news fun Y2 bb eb zb BB KB=>?_
    simp only[go_sem,Za,Zb,kont_eq,f5]
    refine(LO.keep0 KY).app (by omega) (hsv.keep KY (by simp)) hno hfl BB KB fun v' Y3 LY K3 o3=>?_
    simp only[go_sem,Za,Zb,kont_eq]
    refine hnx _ _ _ v' (by simp only[go_sem,Za,Zb,kont_eq,f6]) (by rfl) (((KA.trans KY).trans KB).trans' K3 fun q hq h=>by
     obtain⟨ws,a1,a2,a3,a4⟩:=LO
     have:=a3 q h;omega) (((hsv.keep KY (by simp)).keep KB (by simp)).keep K3 fun q hq=>hno q hq) (by rw[fil];exact LY) fun q hq h=>?_
    rcases o3 q h with h|h
    ·exact hno q hq h
    ·have:=hsv.old hq
     have:=KB.size
     omega
   ·have d:(((hldF F s).1:Int)==0)=false:=by rw[beq_eq_false_iff_ne];omega
    rw[decide_eq_false hz]at hval
    rw[hval,if_neg (by simp),List.append_nil]at fil
    simp only[go_sem,Za,Zb,d]
    exact hnx _ _ _ ov (by simp only[go_sem,Za,Zb,kont_eq,f6]) (by simp only[go_sem,Za,Zb,kont_eq,f5]) (KA.trans KY) (hsv.keep KY (by simp)) (by rw[fil];exact LO.keep0 KY) hno
end Go.Mg
namespace Go.Mg
open Go Go.RowKit
set_option linter.all false
set_option maxRecDepth 100000
def c_cmB (ι:Ids):S:=
 (.reg [kA 27 6,kF 28 27,kS 29 28 true 8,kT 30 28 true (.cm .eql .i64 (.t 29) (.c (.int .i64 0))),kT 31 28 true (.mv (.t 30)),kS 32 31 false 8,kS 33 31 false 5,kS 34 31 false 7,kT 35 31 false (.is 1 (.t 33) (.t 34)),kT 36 31 false (.ld (.t 35)),kT 37 31 false (.cm .eql .i64 (.t 32) (.t 36)),kT 38 28 true (.pick (.t 31) (.c (.bool true)) (.t 37)),kJ 39 28 38,kB 6 39])
def c_rcmp (ι:Ids):S:=
 kY [kR 1 (ι.t 396) 0,kC 2 (kZ)] (kY [kC 3 (kZ)] (.seq (kY [kG 9 0 1,kN 10 5 9,kG 11 5 1,kD 12 11,.e (.v 13) (.call (ι.f 395) [.t 10,.t 12]),kO 14 13,kC 15 (.int .i64 0)] (.blk 0 (.loop (kY [kH 16 15 14] (.seq (.ite (.v 16) .skip (.exit 0)) (.seq (.blk 1 (kY [kK 17 1 13 15,kD 18 17,kB 5 18] (kY [kC 6 (.bool true)] (.seq (kY [kG 19 6 1,kV 20 (.ld (.t 19)),kO 21 20,kC 22 (.int .i64 0)] (.blk 2 (.loop (kY [kH 23 22 21] (.seq (.ite (.v 23) .skip (.exit 2)) (.seq (.blk 3 (kY [kA 24 22,kK 25 1 20 22,kD 26 25,kB 7 24,kB 8 26] (c_cmB ι))) (.reg [ke 40 22,kB 22 40]))))))) (kY [kV 41 (.mv (.v 6))] (.ite (.v 41) (.reg [kA 42 3,kA 43 5,.e (.t 44) (.bldF (ι.t 138) 1 1 [.t 43]),.e (.t 45) (.app false (ι.t 138) 1 24 #[kZ] (.t 42) (.t 44)),kB 3 45]) .skip)))))) (.reg [ke 46 15,kB 15 46]))))))) (kY [kA 47 3,kB 2 47] .ret)))
def r_rcmp:List RV:=[.t 2]
def c_rdon (ι:Ids):S:=
 kY [kR 1 (ι.t 396) 0,kC 2 (.int .u64 0)] (kY [kC 3 (.int .u64 0)] (.seq (kY [kG 6 6 1,kV 7 (.ld (.t 6)),kO 8 7,kC 9 (.int .i64 0)] (.blk 0 (.loop (kY [kH 10 9 8] (.seq (.ite (.v 10) .skip (.exit 0)) (.seq (.blk 1 (kY [kA 11 9,kK 12 1 7 9,kD 13 12,kB 4 11,kB 5 13] (kY [kA 14 5,kV 15 (.cm .neq .i64 (.t 14) (.c (.int .i64 0)))] (.ite (.v 15) (.reg [kA 16 3,kA 17 4,kU 18 (.sh .shl .u64 (.c (.int .u64 1)) (.t 17)),kU 19 (.bt .or .u64 (.t 16) (.t 18)),kB 3 19]) .skip)))) (.reg [ke 20 9,kB 9 20]))))))) (kY [kA 21 3,kB 2 21] .ret)))
def r_rdon:List RV:=[.t 2]
def c_rwth (ι:Ids):S:=
 kY [kR 3 (ι.t 396) 0,.e (.v 6) (.new (ι.t 396) #[kZ,kZ,kZ,kZ,kZ,kZ,kZ])] (kY [.e (.t 8) (.bldF (ι.t 26) 1 0 []),kG 9 6 3,kD 10 9,.e (.t 11) (.app false (ι.t 26) 1 8 #[.int .i64 0] (.t 8) (.t 10)),kB 7 11] (kY [kA 12 7,kA 13 1,kA 14 2,kI 15 1 12 13,.e .no (.st (.t 15) (.t 14))] (kY [kG 16 0 3,kN 17 5 16,kG 18 5 3,kD 19 18,kA 20 7,kU 21 (.m (.bld #[kZ,kZ,kZ,kZ,kZ,kZ,kZ] [(0,(5,.t 17)),(5,(1,.t 19)),(6,(1,.t 20))])),.e .no (.stn 7 (.v 6) (.t 21))] .ret)))
def r_rwth:List RV:=[.cn 6 7]
def RefRun (H:Hp) (v:Value) (F:FlN) (ms:List UInt64) (st:List Int):Prop:=∃s b d a m ev sv,v=.agg #[s,b,d,a,m,ev,sv]/\RefFl H (.agg #[s,b,d,a,m]) F/\SlR H ev (w64 ms)/\SlR H sv (iL st)
variable {H:Hp} {v s b d a m:Value} {F:FlN} {ms:List UInt64} {P:Program} {ι:Ids} {k:FuncId}
theorem RefRun.keep0 {H':Hp} {st:List Int} (h:RefRun H v F ms st) (hk:Keep (fun _=>False) H H'):RefRun H' v F ms st:=by
 obtain⟨s,b,d,a,m,ev,sv,rfl,h1,h2,h3⟩:=h
 exact⟨s,b,d,a,m,ev,sv,rfl,h1.keep0 hk,h2.keep hk (by simp),h3.keep hk (by simp)⟩
theorem RefFl.sl5 (h:RefFl H (.agg #[s,b,d,a,m]) F):isSl s/\isSl b/\isSl d/\isSl a/\isSl m:=by
 obtain⟨s',b',d',a',m',e,h1,h2,h3,h4,h5⟩:=h
 cases e
 exact⟨h1.isSl,h2.isSl,h3.isSl,h4.isSl,h5.isSl⟩
theorem sl7 {e:Value} (h:isSl s/\isSl b/\isSl d/\isSl a/\isSl m) (he:isSl e) (hv:isSl v):([s,b,d,a,m,e,v].all fun v=>v.oneCell')=true:=by
 obtain⟨h1,h2,h3,h4,h5⟩:=h
 simp only[List.all_cons,List.all_nil,Bool.and_true,Bool.and_eq_true]
 exact⟨all1_sl h1,all1_sl h2,all1_sl h3,all1_sl h4,all1_sl h5,all1_sl he,all1_sl hv⟩
theorem wrA7 (s b d a m e v:Value):wrA (wrA (wrA #[Value.slice none 0 0,.slice none 0 0,.slice none 0 0,.slice none 0 0,.slice none 0 0,.slice none 0 0,.slice none 0 0] 0 [s,b,d,a,m]) 5 [e]) 6 [v]=#[s,b,d,a,m,e,v]:=rfl
def agrT (s t:List Int) (i:Nat):Bool:=(List.range i).all fun k=>decide (s.getD k 0=0)||decide (s.getD k 0=t.getD k 0)
theorem agrT_succ (s t:List Int) (i:Nat):agrT s t (i+1)=(agrT s t i&&(decide (s.getD i 0=0)||decide (s.getD i 0=t.getD i 0))):=by
 unfold agrT
 rw[List.range_succ,List.all_append]
 simp
theorem cmB_ok {f:Fr} {A:Hp} {t:List Int} {tv:Value} {k:Nat} {u:Int} {ag:Bool} {Qb:Ex->Fr->Hp->Prop} (h5:f 5=tv) (h6:f 6=.bool ag) (h7:f 7=.int .i64 (k:Int)) (h8:f 8=.int .i64 u) (ht:SlR A tv (iL t)) (hk:k<t.length)
  (hK:Qb .n (upd f 6 (.bool (ag&&(decide (u=0)||decide (u=t.getD k 0))))) A):vc P (c_cmB ι) Qb f A:=by
 unfold c_cmB kA kB kF kJ kS kT
 cases ag with
 |false=>
  simp only[go_sem,Za,Zb,kont_eq,h6]
  exact hK
 |true=>
  by_cases h0:u=0
  ·have d0:(u==0)=true:=by rw[h0];rfl
   have d1:decide (u=0)=true:=decide_eq_true h0
   rw[d1]at hK
   simp only[go_sem,Za,Zb,kont_eq,h6,h8,d0]
   exact hK
  ·have d0:(u==0)=false:=by simpa using h0
   have d1:decide (u=0)=false:=decide_eq_false h0
   rw[d1]at hK
   obtain⟨b,o,c,rfl,hci⟩:=iL_cell ht hk
   have d2:(u==t.getD k 0)=decide (u=t.getD k 0):=by
    by_cases e:u=t.getD k 0
    ·rw[decide_eq_true e,beq_iff_eq.2 e]
    ·rw[decide_eq_false e,beq_eq_false_iff_ne.2 e]
   simp only[go_sem,Za,Zb,kont_eq,h5,h6,h7,h8,d0,tn_cast,hci,d2]
   refine⟨by omega,?_⟩
   exact hK
structure SmG (F:FlN) (ms:List UInt64) (st:List Int):Prop where
 g:Good F
 n:F.st.length<=5
 ml:ms.length=F.st.length
 sl:st.length=F.st.length
def RCmpSpec (P:Program) (k:FuncId):Prop:=∀(F:FlN) (ms:List UInt64) (st:List Int) (v:Value) (H:Hp),RefRun H v F ms st->SmG F ms st->CallsM P k #[v] H fun r H'=>LsO H.size H' r (cmpV F ms st)/\Keep (fun _=>False) H H'
theorem valL_len (F:FlN) (ms:List UInt64) (h:F.st.length<=5):(valL F ms).length<=3125:=by
 unfold valL
 refine Nat.le_trans (List.length_filter_le _ _) ?_
 rw[lexL_length]
 exact Nat.pow_le_pow_right (n:=5) (by omega) h
theorem valL_at {i:Nat} (h:i<(valL F ms).length):(valL F ms)[i].length=F.st.length:=by
 have:=List.getElem_mem h
 unfold valL at this
 exact lexL_len _ _ (List.mem_filter.1 this).1
theorem rcmp_ok (hk:FnIs P k (c_rcmp ι) r_rcmp 1) (ha:RAllSpec P (ι.f 395)):RCmpSpec P k:=by
 intro F ms st v H hv hS
 obtain⟨Q,hQ⟩:∃Q:Value->Hp->Prop,Q=fun r H'=>LsO H.size H' r (cmpV F ms st)/\Keep (fun _=>False) H H':=⟨_,rfl⟩
 rw[<-hQ]
 obtain⟨s,b,d,a,m,ev,sv,rfl,hF,he,hs⟩:=hv
 refine calls_of_vc hk (args:=[_]) (by simp) ?_
 unfold c_rcmp r_rcmp kA kB kC kD ke kG kH kK kN kO kR kV kY kZ
 simp only[go_sem,Za,Zb]
 refine kont_new fun H1 b1 e1 z1 B1 K1=>?_
 have B1':Bl H1 b1 [s,b,d,a,m,ev,sv]:=B1
 have s1:=K1.size
 have c5:cell H1 ⟨b1,5,none⟩=some ev:=by rw[B1'.cell];rfl
 have l5:ldNA H1 ⟨b1,0,none⟩ 5=some #[s,b,d,a,m]:=by
  have:=B1'.ldNA (o:=0) (n:=5) (by simp)
  simpa using this
 simp only[go_sem,Za,Zb,c5,l5,ldNO_ptr]
 refine(ha F ms _ ev H1 (hF.keep0 K1) hS.g hS.n (he.keep K1 (by simp)) hS.ml).mono ?_
 rintro r H2 ⟨⟨vs,O,R,o,rr⟩,K2⟩
 have hvl:=R.len
 have hal:=valL_len F ms hS.n
 have K02:=K1.trans K2
 have s2:=K2.size
 rw[kont_eq]
 simp only[go_sem,Za,Zb,kont_eq,O.sl.isSl,O.sl.len,hvl]
 refine vc_range (valL F ms).length [16,5,6,20,21,22,23,7,8,41,3,15] rfl rfl (by omega) (by rfl) (by rfl) (fun i g A=>∃ov,g 3=ov/\LsO H2.size A ov (((valL F ms).take i).filter (agrB st))/\Keep (fun _=>False) H2 A) ⟨_,by simp only[go_sem,Za,Zb,kont_eq],LsO.nil _ _,Keep.refl _ _⟩ ?_ ?_
 ·rintro i g A hi gi gn ⟨ov,g3,LO,KA⟩
  simp only[go_sem,Za,Zb,kont_eq]at gi gn g3
  have sA:=KA.size
  have OA:=O.sl.keep KA (by simp)
  have hiv:i<vs.length:=by omega
  obtain⟨rb,ro,rc,hwe,-,hld⟩:=OA.cells (by intro e;rw[e]at hiv;simp at hiv)
  have hld:=hld i hiv
  have hti:=R.at_ i hiv hi
  rw[List.getElem?_eq_getElem hiv]at hld
  obtain⟨t,ht⟩:∃t,t=(valL F ms)[i]:=⟨_,rfl⟩
  have htl:t.length=F.st.length:=by rw[ht];exact valL_at hi
  rw[<-ht]at hti
  obtain⟨x,hx⟩:∃x,x=vs[i]:=⟨_,rfl⟩
  rw[<-hx]at hld hti
  obtain⟨pa,pcc,hxe,-⟩:=hti.mk
  rw[iL_len]at hxe
  subst hxe
  have c6:cell A ⟨b1,6,none⟩=some sv:=by rw[((K2.trans KA).bl B1' (by simp)).cell];rfl
  have hsA:=hs.keep (K02.trans KA) (by simp)
  have hsl:=hS.sl
  have hn5:=hS.n
  simp only[go_sem,Za,Zb,kont_eq,gi,hwe,tn_cast,hld,c6,hsA.isSl,hsA.len,iL_len]
  refine⟨by omega,?_⟩
  refine vc_range st.length [23,7,8,6,22] rfl rfl (by omega) (by rfl) (by rfl) (fun j g2 X=>g2 6=.bool (agrT st t j)/\X=A) ⟨by rfl,rfl⟩ ?_ ?_
  ·rintro j g2 X hj gj gm ⟨g6,rfl⟩
   simp only[go_sem,Za,Zb,kont_eq]at gj gm g6
   obtain⟨pb,po,pc,hse,hcj⟩:=iL_cell hsA hj
   simp only[go_sem,Za,Zb,kont_eq,gj,hse,tn_cast,hcj]
   refine⟨by omega,?_⟩
   refine cmB_ok (t:=t) (k:=j) (u:=st.getD j 0) (ag:=agrT st t j) (by rfl) (by simp only[go_sem,Za,Zb,kont_eq,g6]) (by rfl) (by rfl) (hti.keep KA (by simp)) (by omega) ?_
   simp only[go_sem,Za,Zb,kont_eq]
   rw[agrT_succ]
  ·rintro g2 X gj ⟨g6,rfl⟩
   simp only[go_sem,Za,Zb,kont_eq]at g6
   have hag:agrT st t st.length=agrB st t:=rfl
   rw[hag]at g6
   have htk:((valL F ms).take (i+1)).filter (agrB st)=((valL F ms).take i).filter (agrB st)++if agrB st t=true then[t]else[]:=by
    rw[take_snoc' hi,List.filter_append,<-ht]
    simp only[List.filter_cons,List.filter_nil]
   have hfl:(((valL F ms).take i).filter (agrB st)).length<=1000000:=by
    have:=List.length_filter_le (agrB st) ((valL F ms).take i)
    rw[List.length_take]at this
    omega
   cases hb:agrB st t with
   |false=>
    simp only[go_sem,Za,Zb,kont_eq,g6,hb,g3]
    refine⟨ov,rfl,?_,KA⟩
    rw[htk,hb,if_neg (by simp),List.append_nil];exact LO
   |true=>
    simp only[go_sem,Za,Zb,g6,hb,g3,and_self,true_and]
    refine kont_news fun A2 bb eb zb BB KB=>?_
    simp only[go_sem,Za,Zb,kont_eq,g3]
    refine LO.app (by omega) (hti.keep KA (by simp)) (fun q hq h=>by
     have:=hti.old hq
     obtain⟨ws,_,_,oW,_⟩:=LO
     have:=oW q h;omega) hfl BB KB fun v' A' LO' K' o'=>?_
    simp only[go_sem,Za,Zb,kont_eq]
    refine⟨v',rfl,?_,(KA.trans KB).trans' K' fun q hq h=>by
     obtain⟨ws,_,_,oW,_⟩:=LO
     have:=oW q h;omega⟩
    rw[htk,hb,if_pos rfl];exact LO'
 ·rintro g A gi ⟨ov,g3,LO,KA⟩
  simp only[go_sem,Za,Zb,kont_eq]at g3
  simp only[go_sem,Za,Zb,kont_eq,g3]
  rw[hQ]
  rw[List.take_length]at LO
  obtain⟨ws,a1,a2,a3,a4⟩:=LO
  exact⟨⟨ws,a1,a2,fun q hq=>by have:=a3 q hq;omega,a4⟩,K02.trans KA⟩
def RDonSpec (P:Program) (k:FuncId):Prop:=∀(F:FlN) (ms:List UInt64) (st:List Int) (v:Value) (H:Hp),RefRun H v F ms st->st.length<=10->CallsM P k #[v] H fun r H'=>r=.int .u64 (dnM st st.length).toNat/\Keep (fun _=>False) H H'
theorem rdon_ok (hk:FnIs P k (c_rdon ι) r_rdon 1):RDonSpec P k:=by
 intro F ms st v H hv hl
 obtain⟨Q,hQ⟩:∃Q:Value->Hp->Prop,Q=fun r H'=>r=.int .u64 (dnM st st.length).toNat/\Keep (fun _=>False) H H':=⟨_,rfl⟩
 rw[<-hQ]
 obtain⟨s,b,d,a,m,ev,sv,rfl,hF,he,hs⟩:=hv
 refine calls_of_vc hk (args:=[_]) (by simp) ?_
 unfold c_rdon r_rdon kA kB kC kD ke kG kH kK kO kR kU kV kY
 simp only[go_sem,Za,Zb]
 refine kont_new fun H1 b1 e1 z1 B1 K1=>?_
 have B1':Bl H1 b1 [s,b,d,a,m,ev,sv]:=B1
 have c6:cell H1 ⟨b1,6,none⟩=some sv:=by rw[B1'.cell];rfl
 have hs1:=hs.keep K1 (by simp)
 simp only[go_sem,Za,Zb,kont_eq,c6,hs1.isSl,hs1.len,iL_len]
 refine vc_range st.length [10,4,5,15,3,9] rfl rfl (by omega) (by rfl) (by rfl) (fun i g A=>g 3=.int .u64 (dnM st i).toNat/\A=H1) ⟨by rfl,rfl⟩ ?_ ?_
 ·rintro i g A hi gi gn ⟨g3,rfl⟩
  simp only[go_sem,Za,Zb,kont_eq]at gi gn g3
  obtain⟨pb,po,pc,hse,hci⟩:=iL_cell hs1 hi
  by_cases h0:st.getD i 0=0
  ·have d0:(st.getD i 0 !=0)=false:=by rw[h0];rfl
   simp only[go_sem,Za,Zb,kont_eq,gi,hse,tn_cast,hci,d0,g3]
   refine⟨by omega,?_⟩
   rw[dnM,if_neg (by simpa using h0)]
  ·have d0:(st.getD i 0 !=0)=true:=by simpa using h0
   have hi64:((i:Int)).toNat=i:=by omega
   have hor:bits .or .u64 ((dnM st i).toNat:Int) (IntKind.u64.wrap (1*2^i))=((orB (dnM st i) i).toNat:Int):=or_orB _ i (by omega)
   simp only[go_sem,Za,Zb,kont_eq,gi,hse,tn_cast,hci,d0,g3,hi64,hor]
   refine⟨by omega,⟨by omega,by omega⟩,?_⟩
   rw[dnM,if_pos h0]
 ·rintro g A gi ⟨g3,rfl⟩
  simp only[go_sem,Za,Zb,kont_eq]at g3
  simp only[go_sem,Za,Zb,kont_eq,g3]
  rw[hQ]
  exact⟨rfl,K1⟩
def RWthSpec (P:Program) (k:FuncId):Prop:=∀(F:FlN) (ms:List UInt64) (st:List Int) (i:Nat) (u:Int) (v:Value) (H:Hp),RefRun H v F ms st->st.length<=1000->i<st.length->CallsM P k #[v,.int .i64 (i:Int),.int .i64 u] H fun r H'=>RefRun H' r F ms (st.set i u)/\Keep (fun _=>False) H H'
theorem rwth_ok (hk:FnIs P k (c_rwth ι) r_rwth 3):RWthSpec P k:=by
 intro F ms st i u v H hv hl hi
 obtain⟨Q,hQ⟩:∃Q:Value->Hp->Prop,Q=fun r H'=>RefRun H' r F ms (st.set i u)/\Keep (fun _=>False) H H':=⟨_,rfl⟩
 rw[<-hQ]
 obtain⟨s,b,d,a,m,ev,sv,rfl,hF,he,hs⟩:=hv
 obtain⟨ea,ec,rfl,-⟩:=he.mk
 refine calls_of_vc hk (args:=[_,_,_]) (by simp) ?_
 unfold c_rwth r_rwth kA kB kD kG kI kN kR kU kY kZ
 simp-implicitDefEqProofs only[go_sem,↓reduceIte,Za,Zb,Zc,reduceCtorEq,Zf,Zg,Zh,Zi,Zd,Ze]
 refine kont_new fun H1 b1 e1 z1 B1 K1=>?_
 have B1':Bl H1 b1 [s,b,d,a,m,.slice ea (w64 ms).length ec,sv]:=B1
 simp-implicitDefEqProofs only[go_sem,↓reduceIte,Za,Zb,Zc,reduceCtorEq,Zf,Zg,Zh,Zi,Zd,Ze]
 refine kont_new fun H2 b6 e2 z2 B2 K2=>?_
 have B2':Bl H2 b6 [.slice none 0 0,.slice none 0 0,.slice none 0 0,.slice none 0 0,.slice none 0 0,.slice none 0 0,.slice none 0 0]:=B2
 have K02:=K1.trans K2
 have s1:=K1.size
 have s2:=K2.size
 simp-implicitDefEqProofs only[go_sem,↓reduceIte,Za,Zb,Zc,reduceCtorEq,Zf,Zg,Zh,Zi,Zd,Ze]
 refine kont_news fun H3 bz e3 z3 B3 K3=>?_
 have K03:=K02.trans K3
 have s3:=K3.size
 have B13:=(K2.trans K3).bl B1' (by simp)
 have c6:cell H3 ⟨b1,6,none⟩=some sv:=by rw[B13.cell];rfl
 have lsv:(iL st).length=st.length:=iL_len st
 simp-implicitDefEqProofs only[go_sem,↓reduceIte,Za,Zb,Zc,reduceCtorEq,Zf,Zg,Zh,Zi,Zd,Ze,c6]
 refine app_slN H2.size (l:=([]:List Value)) (m:=iL st) (OwS.new B3 rfl rfl) (fun q (hq:q=bz)=>by omega) (by omega) (hs.keep K03 (by simp)) (iL_all1 _) rfl (by omega) (by simp[iL_len];omega) fun w H4 O4 o4 K4=>?_
 rw[List.nil_append]at O4
 have K24:=K3.at_old K4 (Nat.le_refl _)
 have K04:=K02.trans K24
 have B14:=(K2.trans K24).bl B1' (by simp)
 have B64:=K24.bl B2' (by simp)
 obtain⟨wb,wc,L,hwe,h1,h2,hB,h3,h4⟩:=O4.some (by intro e';have:=congrArg List.length e';rw[iL_len,List.length_nil]at this;omega)
 rw[iL_len]at hwe h1 h3
 subst hwe
 have hb2:=o4 wb rfl
 have ts:=hB.okSt (o:=i) (by omega)
 have O5:=setOwS hB (l:=iL st) (by rw[iL_len];exact h1) h2 (by rw[iL_len];exact h3) i (.int .i64 u) (by rw[iL_len];exact hi)
 rw[iL_set,iL_len]at O5
 have K5:Keep (fun q=>q=wb) H4 (setc H4 ⟨wb,i,none⟩ (.int .i64 u)):=(Keep.refl _ _).setc _ (.inl rfl)
 rw[kont_eq]
 simp-implicitDefEqProofs only[go_sem,↓reduceIte,Za,Zb,Zc,reduceCtorEq,Zf,Zg,Zh,Zi,Zd,Ze,tn_cast,ts]
 refine⟨by omega,?_⟩
 generalize setc H4 ⟨wb,i,none⟩ (.int .i64 u)=H5 at O5 K5⊢
 have K25:Keep (fun _=>False) H2 H5:=K24.trans' K5 fun q hq e=>by omega
 have B15:=K5.bl B14 (by omega)
 have B65:=K5.bl B64 (by omega)
 have l5:ldNA H5 ⟨b1,0,none⟩ 5=some #[s,b,d,a,m]:=by
  have:=B15.ldNA (o:=0) (n:=5) (by simp)
  simpa using this
 have c5:cell H5 ⟨b1,5,none⟩=some (.slice ea (w64 ms).length ec):=by rw[B15.cell];rfl
 have t6:=B65.okNA (o:=0) (n:=7) (by simp)
 have ha:all1 #[s,b,d,a,m,.slice ea (w64 ms).length ec,.slice (some ⟨wb,0,none⟩) st.length wc]:=all1_of (sl7 hF.sl5 he.isSl trivial)
 rw[kont_eq]
 simp-implicitDefEqProofs only[go_sem,↓reduceIte,Za,Zb,Zc,reduceCtorEq,Zf,Zg,Zh,Zi,Zd,Ze,l5,c5,ldNO_ptr,t6,wrA7]
 refine⟨ha,?_⟩
 rw[kont_eq]
 have C6:=B65.stNA 0 [s,b,d,a,m,.slice ea (w64 ms).length ec,.slice (some ⟨wb,0,none⟩) st.length wc]
 have K6:Keep (fun q=>q=b6) H5 (stNA H5 ⟨b6,0,none⟩ [s,b,d,a,m,.slice ea (w64 ms).length ec,.slice (some ⟨wb,0,none⟩) st.length wc]):=(Keep.refl _ _).stNA _ (.inl rfl)
 have C6':Bl (stNA H5 ⟨b6,0,none⟩ [s,b,d,a,m,.slice ea (w64 ms).length ec,.slice (some ⟨wb,0,none⟩) st.length wc]) b6 [s,b,d,a,m,.slice ea (w64 ms).length ec,.slice (some ⟨wb,0,none⟩) st.length wc]:=C6
 have K1F:Keep (fun _=>False) H1 (stNA H5 ⟨b6,0,none⟩ [s,b,d,a,m,.slice ea (w64 ms).length ec,.slice (some ⟨wb,0,none⟩) st.length wc]):=(K2.trans K25).trans' K6 fun q hq e=>by omega
 simp-implicitDefEqProofs only[go_sem,↓reduceIte,Za,Zb,Zc,reduceCtorEq,kont_eq,Zf,Zg,Zh,Zi,Zd,Ze,C6'.ldNO 7 rfl]
 rw[hQ]
 refine⟨⟨s,b,d,a,m,_,_,rfl,hF.keep0 (K1.trans K1F),he.keep (K1.trans K1F) (by simp),?_⟩,K1.trans K1F⟩
 exact O5.sl.keep K6 fun q hq e=>by
  have h:q=wb:=O5.slB hq
  have hw:H2.size<=wb:=hb2
  omega
end Go.Mg
namespace Go.Mg
open Go Go.RowKit
set_option linter.all false
set_option maxRecDepth 100000
def c_raB (ι:Ids):S:=
 (.reg [kA 23 7,kF 24 23,kS 25 24 false 9,kS 26 24 false 1,kT 27 24 false (.cm .eql .i64 (.t 25) (.t 26)),kU 28 (.pick (.t 24) (.c (.bool true)) (.t 27)),kB 7 28])
def c_raE (ι:Ids):S:=
 (.reg [kA 32 2,kU 33 (.cm .lss .i64 (.t 32) (.c (.int .i64 1))),kF 34 33,kS 35 34 false 2,kT 36 34 false (.cm .gtr .i64 (.t 35) (.c (.int .i64 4))),kU 37 (.pick (.t 34) (.c (.bool true)) (.t 36)),kF 38 37,kT 39 38 false (.fa 5 (.v 3)),kT 40 38 false (.ld (.t 39)),kS 41 38 false 1,kT 42 38 false (.is 1 (.t 40) (.t 41)),kT 43 38 false (.ld (.t 42)),kS 44 38 false 2,kT 45 38 false (.sh .shr .u64 (.t 43) (.t 44)),kT 46 38 false (.dv .rem .u64 (.t 45) (.c (.int .u64 2))),kT 47 38 false (.cm .eql .u64 (.t 46) (.c (.int .u64 0))),kV 48 (.pick (.t 38) (.c (.bool true)) (.t 47))])
def c_rask (ι:Ids):S:=
 kY [kR 3 (ι.t 396) 0,kC 6 (.int .i64 0)] (kY [kC 7 (.bool false)] (.seq (.seq (.dr (kW 13 (.fa 0 (.v 3)) (kW 14 (.m (.ldn 5 (.t 13))) (kW 15 (.m (.ldn 7 (.v 3))) (kX 19 (.mv (.c (.int .i64 0))) (.wcons (.t 16) .none (.call (ι.f 398) [.t 15]) (.wcons (.v 17) .none (.call (ι.f 308) [.t 14,.t 16]) (kX 18 (.m (.lenl (.v 17))) .done) .wnil) .wnil)))))) (.blk 0 (.loop (kY [kH 20 19 18] (.seq (.ite (.v 20) .skip (.exit 0)) (.seq (.blk 1 (kY [kK 21 1 17 19,kD 22 21,kB 9 22] (c_raB ι))) (.reg [ke 29 19,kB 19 29]))))))) (.seq (kY [kA 30 7,kV 31 (.not (.t 30))] (.ite (.v 31) (kY [kC 6 (.int .i64 2)] .ret) .skip)) (.seq (.seq (c_raE ι) (.ite (.v 48) (kY [kC 6 (.int .i64 3)] .ret) .skip)) (kY [kM 49 7 3,kA 50 1,kA 51 2,.e (.t 52) (.call (ι.f 399) [.t 49,.t 50,.t 51]),.e (.v 10) (.new (ι.t 396) #[kZ,kZ,kZ,kZ,kZ,kZ,kZ]),.e .no (.stn 7 (.v 10) (.t 52))] (.seq (kY [kG 54 0 3,kN 55 5 54,kG 56 6 10,kD 57 56,.e (.t 58) (.call (ι.f 321) [.t 55,.t 57]),kF 53 58,kQ 59 53 0,kQ 60 53 1,kB 11 59,kF 12 60] (kY [kA 61 11,kV 62 (.cm .neq .i64 (.t 61) (.c (.int .i64 0)))] (.ite (.v 62) (kY [kC 6 (.int .i64 4)] .ret) .skip))) (.seq (kY [kM 63 7 10,.e (.t 64) (.call (ι.f 397) [.t 63]),kL 65 64,kV 66 (.cm .eql .i64 (.t 65) (.c (.int .i64 0)))] (.ite (.v 66) (kY [kC 6 (.int .i64 5)] .ret) .skip)) (kY [kC 6 (.int .i64 1)] .ret))))))))
def r_rask:List RV:=[.t 6]
structure RAsC (P:Program) (ι:Ids):Prop where
 don:RDonSpec P (ι.f 398)
 rdy:RRdySpec P (ι.f 308)
 wth:RWthSpec P (ι.f 399)
 hld:RHldSpec P (ι.f 321)
 cmp:RCmpSpec P (ι.f 397)
variable {P:Program} {ι:Ids} {f:Fr} {A:Hp} {Qb:Ex->Fr->Hp->Prop}
theorem raB_ok {k step:Int} {rd:Bool} (h1:f 1=.int .i64 step) (h7:f 7=.bool rd) (h9:f 9=.int .i64 k) (hK:Qb .n (upd f 7 (.bool (rd||decide (k=step)))) A):vc P (c_raB ι) Qb f A:=by
 unfold c_raB kA kB kF kS kT kU
 have d:(k==step)=decide (k=step):=by
  by_cases e:k=step
  ·rw[decide_eq_true e,beq_iff_eq.2 e]
  ·rw[decide_eq_false e,beq_eq_false_iff_ne.2 e]
 cases rd with
 |true=>simp only[go_sem,Za,Zb,kont_eq,h7];exact hK
 |false=>simp only[go_sem,Za,Zb,kont_eq,h1,h7,h9,d];exact hK
theorem raE_ok {ms:List UInt64} {b3 step:Nat} {user:Int} {s b d a m ev sv:Value} (h1:f 1=.int .i64 (step:Int)) (h2:f 2=.int .i64 user) (h3:f 3=.pointer (some ⟨b3,0,none⟩)) (B:Bl A b3 [s,b,d,a,m,ev,sv])
  (he:SlR A ev (w64 ms)) (hk:step<ms.length) (hK:Qb .n (upd f 48 (.bool (decide (user<1\/4<user\/bt (ms.getD step 0) user.toNat=false)))) A):vc P (c_raE ι) Qb f A:=by
 unfold c_raE kA kF kS kT kU kV
 by_cases h0:user<1
 ·have d0:decide (user<1)=true:=decide_eq_true h0
  rw[decide_eq_true (.inl h0)]at hK
  simp only[go_sem,Za,Zb,kont_eq,h2,d0]
  exact hK
 have d0:decide (user<1)=false:=decide_eq_false h0
 by_cases h4:4<user
 ·have d1:decide (user>4)=true:=decide_eq_true h4
  rw[decide_eq_true (.inr (.inl h4))]at hK
  simp only[go_sem,Za,Zb,kont_eq,h2,d0,d1]
  exact hK
 have d1:decide (user>4)=false:=decide_eq_false h4
 obtain⟨pb,po,pc,rfl,-,hc⟩:=he.cells (by intro e;have:=congrArg List.length e;rw[w64_len,List.length_nil]at this;omega)
 have hci:=hc step (by rw[w64_len];exact hk)
 rw[w64_get _ _ hk]at hci
 have hln:(w64 ms).length=ms.length:=w64_len _
 rw[hln]at B
 obtain⟨j,rfl⟩:∃j:Nat,user=(j:Int):=⟨user.toNat,by omega⟩
 rw[Int.toNat_natCast]at hK
 have hj64:((j:Int)).toNat=j:=by omega
 have c5:cell A ⟨b3,5,none⟩=some (.slice (some ⟨pb,po,none⟩) ms.length pc):=by rw[B.cell];rfl
 have e:decide ((j:Int)<1\/4<(j:Int)\/bt (ms.getD step 0) j=false)=!bt (ms.getD step 0) j:=by
  rw[Bool.eq_iff_iff]
  simp only[decide_eq_true_eq,Bool.not_eq_true']
  constructor
  ·rintro(h|h|h)
   ·omega
   ·omega
   ·exact h
  ·exact fun h=>.inr (.inr h)
 rw[e]at hK
 simp only[go_sem,Za,Zb,kont_eq,h1,h2,h3,d0,d1,c5,tn_cast,hci,hj64,bit_rem0]
 refine⟨by omega,⟨by omega,by show((j:Nat):Int)<=((64:Nat):Int);omega⟩,by decide,?_⟩
 exact hK
def RAskSpec (P:Program) (k:FuncId):Prop:=∀(F:FlN) (ms:List UInt64) (st:List Int) (step user:Int) (v:Value) (H:Hp),RefRun H v F ms st->SmG F ms st->CallsM P k #[v,.int .i64 step,.int .i64 user] H fun r H'=>r=.int .i64 (rAskF F ms st step user)/\Keep (fun _=>False) H H'
theorem rask_ok {k:FuncId} (hk:FnIs P k (c_rask ι) r_rask 3) (c:RAsC P ι):RAskSpec P k:=by
 intro F ms st step user v H hv hS
 obtain⟨Q,hQ⟩:∃Q:Value->Hp->Prop,Q=fun r H'=>r=.int .i64 (rAskF F ms st step user)/\Keep (fun _=>False) H H':=⟨_,rfl⟩
 rw[<-hQ]
 have hv0:=hv
 have hn:=hS.n
 have hml:=hS.ml
 have hsl:=hS.sl
 have hG:=hS.g
 have hlim:=hG.lim
 unfold tooL at hlim
 obtain⟨s,b,d,a,m,ev,sv,rfl,hF,he,hs⟩:=hv
 refine calls_of_vc hk (args:=[_,_,_]) (by simp) ?_
 unfold c_rask r_rask kA kB kF kC kD ke kG kH kK kL kM kN kQ kR kV kW kX kY kZ
 simp only[go_sem,Za,Zb]
 refine kont_new fun H1 b3 e1 z1 B1 K1=>?_
 have B1':Bl H1 b3 [s,b,d,a,m,ev,sv]:=B1
 have l5:ldNA H1 ⟨b3,0,none⟩ 5=some #[s,b,d,a,m]:=by
  have:=B1'.ldNA (o:=0) (n:=5) (by simp)
  simpa using this
 simp only[go_sem,Za,Zb]
 refine vc_drk (fun _=>False) ?_
 simp only[go_sem,Za,Zb,kont_eq,l5,ldNO_ptr,B1'.ldNO 7 rfl]
 refine(c.don F ms st _ H1 (hv0.keep0 K1) (by omega)).mono ?_
 rintro r H2 ⟨rfl,K2⟩
 simp only[go_sem,Za,Zb,kont_eq]
 refine⟨K2,(c.rdy F _ (dnM st st.length) H2 (hF.keep0 (K1.trans K2)) (by omega) (by omega) fun x hx=>(hG.be x hx).1).mono ?_⟩
 rintro r H3 ⟨O3,o3,K3⟩
 obtain⟨rl,hrl⟩:∃rl,rl=rdyL F.st.length F.be (bt (dnM st st.length)):=⟨_,rfl⟩
 have hrn:=rdyL_len F.st.length F.be (bt (dnM st st.length))
 rw[<-hrl]at O3 hrn
 have K03:=(K1.trans K2).trans K3
 have inl:(iN rl).length=rl.length:=iN_len rl
 simp only[go_sem,Za,Zb,kont_eq,O3.sl.isSl,O3.sl.len,inl]
 refine⟨K3,?_⟩
 refine vc_range rl.length [20,9,7,19] rfl rfl (by omega) (by rfl) (by rfl) (fun i g A=>g 7=.bool (decide (step∈nI (rl.take i)))/\A=H3) ⟨by simp only[go_sem,Za,Zb,kont_eq];simp[nI],rfl⟩ ?_ ?_
 ·rintro i g A hi gi gn ⟨g7,rfl⟩
  simp only[go_sem,Za,Zb,kont_eq]at gi gn g7
  obtain⟨pb,po,pc,hse,hci⟩:=iL_cell (l:=nI rl) O3.sl (by rw[nI_len];exact hi)
  have hgi:(nI rl).getD i 0=((rl[i]:Nat):Int):=by simp[nI,List.getD_eq_getElem?_getD,hi]
  rw[hgi]at hci
  rw[nI_len]at hse
  simp only[go_sem,Za,Zb,kont_eq,gi,hse,tn_cast,hci]
  refine⟨by omega,?_⟩
  refine raB_ok (k:=((rl[i]:Nat):Int)) (step:=step) (rd:=decide (step∈nI (rl.take i))) (by rfl) (by simp only[go_sem,Za,Zb,kont_eq,g7]) (by rfl) ?_
  simp only[go_sem,Za,Zb,kont_eq]
  have:nI (rl.take (i+1))=nI (rl.take i)++[((rl[i]:Nat):Int)]:=by unfold nI;rw[take_snoc' hi,List.map_append];rfl
  rw[this]
  congr 1
  rw[Bool.eq_iff_iff]
  simp only[Bool.or_eq_true,decide_eq_true_eq,List.mem_append,List.mem_singleton]
  constructor
  ·rintro(h|h)
   ·exact .inl h
   ·exact .inr h.symm
  ·rintro(h|h)
   ·exact .inl h
   ·exact .inr h.symm
 rintro g A gi ⟨g7,rfl⟩
 simp only[go_sem,Za,Zb,kont_eq]at g7
 rw[List.take_length]at g7
 have hR:rAskF F ms st step user=if step∈nI rl then
  if user<1\/4<user\/bt (ms.getD step.toNat 0) user.toNat=false then 3 else
  if(hldF F (st.set step.toNat user)).1≠0 then 4 else if cmpV F ms (st.set step.toNat user)=[]then 5 else 1
 else 2:=by unfold rAskF;rw[<-hrl]
 by_cases hm:step∈nI rl
 case neg=>
  rw[if_neg hm]at hR
  rw[decide_eq_false hm]at g7
  simp only[go_sem,Za,Zb,kont_eq,g7,Bool.not_false]
  rw[hQ]
  exact⟨by rw[hR],K03⟩
 rw[if_pos hm]at hR
 rw[decide_eq_true hm]at g7
 obtain⟨j,rfl,hj⟩:∃j:Nat,step=(j:Int)/\j<F.st.length:=by
  unfold nI at hm
  obtain⟨j,hj,rfl⟩:=List.mem_map.1 hm
  rw[hrl]at hj
  exact⟨j,rfl,(mem_rdyL.1 hj).1⟩
 rw[Int.toNat_natCast]at hR
 simp only[go_sem,Za,Zb,g7,Bool.not_true]
 have B3:=(K2.trans K3).bl B1' (by simp)
 refine raE_ok (b3:=b3) (step:=j) (user:=user) (ms:=ms) (by rfl) (by rfl) (by rfl) B3 (he.keep K03 (by simp)) (by omega) ?_
 by_cases hq:user<1\/4<user\/bt (ms.getD j 0) user.toNat=false
 ·rw[if_pos hq]at hR
  rw[decide_eq_true hq]
  simp only[go_sem,Za,Zb,kont_eq]
  rw[hQ]
  exact⟨by rw[hR],K03⟩
 rw[if_neg hq]at hR
 rw[decide_eq_false hq]
 simp only[go_sem,Za,Zb,B3.ldNO 7 rfl]
 refine(c.wth F ms st j user _ _ (hv0.keep0 K03) (by omega) (by omega)).mono ?_
 rintro r H4 ⟨R4,K4⟩
 have R40:=R4
 obtain⟨s',b',d',a',m',ev',sv',rfl,hF',he',hs'⟩:=R4
 have K04:=K03.trans K4
 rw[kont_eq]
 simp only[go_sem,Za,Zb]
 refine kont_newst [s',b',d',a',m',ev',sv'] (by rfl) rfl rfl (sl7 hF'.sl5 he'.isSl hs'.isSl) fun H5 b10 e5 z5 B5 K5=>?_
 have B35:=(K4.trans K5).bl B3 (by simp)
 have l53:ldNA H5 ⟨b3,0,none⟩ 5=some #[s,b,d,a,m]:=by
  have:=B35.ldNA (o:=0) (n:=5) (by simp)
  simpa using this
 have c6:cell H5 ⟨b10,6,none⟩=some sv':=by rw[B5.cell];rfl
 have K05:=K04.trans K5
 simp only[go_sem,Za,Zb,l53,ldNO_ptr,c6]
 refine(c.hld F _ sv' (st.set j user) H5 (hF.keep0 K05) hG (hs'.keep K5 (by simp)) (by rw[List.length_set];exact hsl)).mono ?_
 rintro r H6 ⟨rfl,K6⟩
 have K06:=K05.trans K6
 rw[kont_eq]
 by_cases hz:(hldF F (st.set j user)).1=0
 case neg=>
  rw[if_pos hz]at hR
  have d:(((hldF F (st.set j user)).1:Int)!=0)=true:=by rw[bne_iff_ne];omega
  simp only[go_sem,Za,Zb,kont_eq,d]
  rw[hQ]
  exact⟨by rw[hR],K06⟩
 rw[if_neg (by simpa using hz)]at hR
 have d:(((hldF F (st.set j user)).1:Int)!=0)=false:=by rw[hz];rfl
 have B56:=K6.bl B5 (by simp)
 simp only[go_sem,Za,Zb,d,B56.ldNO 7 rfl]
 refine(c.cmp F ms (st.set j user) _ H6 (R40.keep0 (K5.trans K6)) ⟨hG,hn,hml,by rw[List.length_set];exact hsl⟩).mono ?_
 rintro r H7 ⟨⟨vs,O7,R7,-,-⟩,K7⟩
 have K07:=K06.trans K7
 rw[kont_eq]
 have hl7:=R7.len
 cases hcm:cmpV F ms (st.set j user)with
 |nil=>
  rw[if_pos hcm]at hR
  rw[hcm,List.length_nil]at hl7
  have d2:(((0:Nat):Int)==0)=true:=rfl
  simp only[go_sem,Za,Zb,kont_eq,O7.sl.isSl,O7.sl.len,hl7,d2]
  rw[hQ]
  exact⟨by rw[hR],K07⟩
 |cons x xs=>
  rw[if_neg (by rw[hcm];simp)]at hR
  rw[hcm,List.length_cons]at hl7
  have d2:(((xs.length+1:Nat):Int)==0)=false:=by rw[beq_eq_false_iff_ne];omega
  simp only[go_sem,Za,Zb,kont_eq,O7.sl.isSl,O7.sl.len,hl7,d2]
  rw[hQ]
  exact⟨by rw[hR],K07⟩
end Go.Mg

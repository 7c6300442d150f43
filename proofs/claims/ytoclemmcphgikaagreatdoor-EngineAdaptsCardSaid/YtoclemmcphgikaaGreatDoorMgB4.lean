/- sets of small numbers: equal, within, of a list. -/
import Derived.Test.YtoclemmcphgikaaGreatDoorMgB3
open Nat renaming reduceEqDiff→Za,reduceAdd→Zb,reduceMul→Zc
namespace Go.Mg
open Go Go.RowKit
set_option linter.all false
set_option maxRecDepth 100000
def c_bwithin (ι:Ids):S:=
 kY [kR 2 (ι.t 128) 0,kR 3 (ι.t 128) 1,kC 4 (.bool false)] (.seq (kY [kG 7 0 2,kV 8 (.ld (.t 7)),kO 9 8,kC 10 (.int .i64 0)] (.blk 0 (.loop (kY [kH 11 10 9] (.seq (.ite (.v 11) .skip (.exit 0)) (.seq (.blk 1 (kY [kA 12 10,kK 13 1 8 10,kD 14 13,kB 5 12,kB 6 14] (kY [kA 15 6,kM 16 1 3,kA 17 5,.e (.t 18) (.call (ι.f 129) [.t 16,.t 17]),kU 19 (.bt .andNot .u64 (.t 15) (.t 18)),kV 20 (.cm .neq .u64 (.t 19) (.c (.int .u64 0)))] (.ite (.v 20) (kY [kC 4 (.bool false)] .ret) .skip)))) (.reg [ke 21 10,kB 10 21]))))))) (kY [kC 4 (.bool true)] .ret))
def r_bwithin:List RV:=[.t 4]
def c_btrim (ι:Ids):S:=
 kY [.e (.v 2) (.new (ι.t 128) #[kZ])] (.seq (.blk 0 (.loop (.seq (kY [kA 3 0,kL 4 3,kU 5 (.cm .gtr .i64 (.t 4) (.c (.int .i64 0))),kF 6 5,kS 7 6 true 0,kS 8 6 true 0,kT 9 6 true (.m (.lenl (.t 8))),kT 10 6 true (.ar .sub .i64 (.t 9) (.c (.int .i64 1))),kT 11 6 true (.is 1 (.t 7) (.t 10)),kT 12 6 true (.ld (.t 11)),kT 13 6 true (.cm .eql .u64 (.t 12) (.c (.int .u64 0))),kV 14 (.pick (.t 6) (.t 13) (.c (.bool false)))] (.ite (.v 14) .skip (.exit 0))) (.blk 1 (.reg [kA 15 0,kA 16 0,kL 17 16,kU 18 (.ar .sub .i64 (.t 17) (.c (.int .i64 1))),kU 19 (.m (.sls 1 (.t 15) .none (.some (.t 18)))),kB 0 19]))))) (kY [kA 20 0,kU 21 (.m (.bld #[kZ] [(0,(1,.t 20))])),.e .no (.stn 1 (.v 2) (.t 21))] .ret))
def r_btrim:List RV:=[.cn 2 1]
def c_bof (ι:Ids):S:=
 kY [.e (.v 2) (.new (ι.t 128) #[kZ])] (kY [kC 3 (.int .i64 (-1))] (.seq (kY [kV 9 (.mv (.v 0)),kO 10 9,kC 11 (.int .i64 0)] (.blk 0 (.loop (kY [kH 12 11 10] (.seq (.ite (.v 12) .skip (.exit 0)) (.seq (.blk 1 (kY [kK 13 1 9 11,kD 14 13,kB 5 14] (kY [kA 15 5,kV 16 (.cm .leq .i64 (.t 15) (.c (.int .i64 4095)))] (.ite (.v 16) (.reg [kA 17 3,kA 18 5,kU 19 (.m (.mx (.t 17) (.t 18))),kB 3 19]) .skip)))) (.reg [ke 20 11,kB 11 20]))))))) (.seq (kY [kA 21 3,kV 22 (.cm .lss .i64 (.t 21) (.c (.int .i64 0)))] (.ite (.v 22) (kY [kU 23 (.m (.bld #[kZ] [])),.e .no (.stn 1 (.v 2) (.t 23))] .ret) .skip)) (kY [kA 24 3,kU 25 (.dv .quo .i64 (.t 24) (.c (.int .i64 64))),kU 26 (.ar .add .i64 (.t 25) (.c (.int .i64 1))),.e (.t 27) (.mkS (ι.t 28) 1 8 #[.int .u64 0] (.t 26) (.t 26)),kB 6 27] (.seq (kY [kV 28 (.mv (.v 0)),kO 29 28,kC 30 (.int .i64 0)] (.blk 2 (.loop (kY [kH 31 30 29] (.seq (.ite (.v 31) .skip (.exit 2)) (.seq (.blk 3 (kY [kK 32 1 28 30,kD 33 32,kB 8 33] (kY [kA 34 8,kU 35 (.cm .geq .i64 (.t 34) (.c (.int .i64 0))),kF 36 35,kS 37 36 true 8,kS 38 36 true 3,kT 39 36 true (.cm .leq .i64 (.t 37) (.t 38)),kV 40 (.pick (.t 36) (.t 39) (.c (.bool false)))] (.ite (.v 40) (.reg [kA 41 6,kA 42 8,kU 43 (.dv .quo .i64 (.t 42) (.c (.int .i64 64))),kI 44 1 41 43,kD 45 44,kA 46 8,kU 47 (.dv .rem .i64 (.t 46) (.c (.int .i64 64))),kU 48 (.sh .shl .u64 (.c (.int .u64 1)) (.t 47)),kU 49 (.bt .or .u64 (.t 45) (.t 48)),kI 50 1 41 43,.e .no (.st (.t 50) (.t 49))]) .skip)))) (.reg [ke 51 30,kB 30 51]))))))) (kY [kA 52 6,.e (.t 53) (.call (ι.f 142) [.t 52]),.e .no (.stn 1 (.v 2) (.t 53))] .ret))))))
def r_bof:List RV:=[.cn 2 1]
variable {i:Nat} {P:Program} {ι:Ids} {k:FuncId}
theorem SetV.cells {H:Hp} {v:Value} {W:List UInt64} {p:Nat->Bool} (h:SetV H v W p) (hi:i<W.length):∃b o c,v=.slice (some ⟨b,o,none⟩) W.length c/\∀j,j<W.length->cell H ⟨b,o+j,none⟩=some (.int .u64 ((W.getD j 0).toNat:Int)):=by
 obtain⟨b,o,c,h1,-,hc⟩:=h.sl.cells (by intro e;have h:=congrArg List.length e;rw[w64_len,List.length_nil]at h;omega)
 rw[w64_len]at h1 hc
 exact⟨b,o,c,h1,fun j hj=>by rw[hc j hj,w64_get _ _ hj]⟩
theorem u64_bne (a b:UInt64):((a.toNat:Int)!=(b.toNat:Int))=!decide (a=b):=by
 by_cases h:a=b
 ·subst h;simp
 ·have:(a.toNat:Int)≠(b.toNat:Int):=fun e=>h (UInt64.toNat_inj.1 (by exact_mod_cast e))
  rw[decide_eq_false h,bne_iff_ne.2 this];rfl
theorem bits_andNot (x y:UInt64):bits .andNot .u64 (x.toNat:Int) (y.toNat:Int)=((x&&&~~~y).toNat:Int):=by
 show IntKind.u64.wrap ((BitVec.ofInt 64 (x.toNat:Int)&&&~~~BitVec.ofInt 64 (y.toNat:Int)).toNat:Int)=_
 rw[bitsOf,bitsOf];exact wrapNat (x&&&~~~y)
theorem bt_andNot (x y:UInt64) (k:Nat) (hk:k<64):bt (x&&&~~~y) k=(bt x k&&!bt y k):=by
 unfold bt
 rw[UInt64.toNat_and,Nat.testBit_and,UInt64.toNat_not]
 congr 1
 have:UInt64.size -1 -y.toNat=2^64 -(y.toNat+1):=by
  have:UInt64.size=2^64:=rfl
  rw[this];omega
 rw[this,Nat.testBit_two_pow_sub_succ y.toNat_lt]
 simp[hk]
def BWithinSpec (P:Program) (k:FuncId):Prop:=∀(p q:Nat->Bool) (x y:Value) (H:Hp),SetM H x p->SetM H y q->CallsM P k #[x,y] H fun r H'=>(∃b:Bool,r=.bool b/\(b=true↔∀n,p n=true->q n=true))/\Keep (fun _=>False) H H'
theorem bwithin_ok (hk:FnIs P k (c_bwithin ι) r_bwithin 2) (hw:WordSpec P (ι.f 129)):BWithinSpec P k:=by
 intro p q x y H hx hy
 obtain⟨v,A,rfl,hv⟩:=hx
 obtain⟨u,B,rfl,hu⟩:=hy
 refine calls_of_vc hk (args:=[_,_]) (by simp) ?_
 unfold c_bwithin r_bwithin kA kB kC kD ke kG kH kK kM kO kR kU kV kY
 simp only[go_sem,zS,↓reduceIte,Za,Zb,Zc,reduceCtorEq,cells_agg]
 refine kont_new fun H1 b1 e1 z1 B1 K1=>?_
 simp only[go_sem,zS,↓reduceIte,Za,Zb,Zc,reduceCtorEq,cells_agg]
 refine kont_new fun H2 b2 e2 z2 B2 K2=>?_
 have K12:=K1.trans K2
 have B12:=K2.bl B1 (by simp)
 have hv2:=hv.keep K12 (by simp)
 have hu2:=hu.keep K12 (by simp)
 have lA:=hv.len
 have lB:=hu.len
 simp only[go_sem,zS,↓reduceIte,Za,Zb,Zc,reduceCtorEq,kont_eq,B12.cell,B2.cell,hv2.sl.isSl,hv2.sl.len,w64_len]
 refine vc_loop [11,5,6,20,4,10] rfl (fun n f H'=>∃i,i<=A.length/\n=A.length -i/\f 10=.int .i64 i/\(∀m,m<64*i->p m=true->q m=true)/\Keep (fun _=>False) H2 H') A.length
  ⟨0,by omega,by omega,rfl,fun j hj=>by omega,Keep.refl _ _⟩ ?_
 rintro n g H3 ⟨i,hi,rfl,hf,hx,K3⟩
 simp only[go_sem,zS,↓reduceIte,Za,Zb,Zc,reduceCtorEq,kont_eq]at hf
 simp only[go_sem,zS,↓reduceIte,Za,Zb,Zc,reduceCtorEq,kont_eq,hf]
 refine iteV_dec (fun hlt=>?_) (fun hge=>?_)
 ·have hlt:i<A.length:=by omega
  have hv3:=hv2.keep K3 (by simp)
  have hu3:=hu2.keep K3 (by simp)
  have B23:=K3.bl B2 (by simp)
  obtain⟨b,o,c,rfl,hc⟩:=hv3.cells hlt
  simp only[go_sem,zS,↓reduceIte,Za,Zb,Zc,reduceCtorEq,kont_eq,B23.ldNO 1 rfl,cells_agg,tn_cast,Nat.mul_one,hc i hlt]
  refine⟨by omega,?_⟩
  refine(hw B u i H3 hu3.sl hu3.len (by omega)).mono ?_
  rintro r H4 ⟨rfl,K4⟩
  have K34:=K3.trans K4
  have hne:=u64_bne (A.getD i 0&&&~~~B.getD i 0) 0
  have z0:(((0:UInt64).toNat:Nat):Int)=0:=rfl
  rw[z0]at hne
  simp only[go_sem,zS,↓reduceIte,Za,Zb,Zc,reduceCtorEq,kont_eq,bits_andNot,hne]
  have hb:∀b,b<64->bt (A.getD i 0&&&~~~B.getD i 0) b=(p (64*i+b)&&!q (64*i+b)):=fun b hb=>by
   rw[bt_andNot _ _ _ hb,<-hv.is,<-hu.is,memb_at _ _ _ hb,memb_at _ _ _ hb]
  by_cases e:A.getD i 0&&&~~~B.getD i 0=0
  ·rw[decide_eq_true e]
   simp(disch:=omega)only[go_sem,zS,↓reduceIte,Za,Zb,Zc,reduceCtorEq,kont_eq,hf,IntWalk.i64_in]
   refine⟨A.length -(i+1),by omega,i+1,by omega,rfl,by simp,fun m hm hp=>?_,K34⟩
   by_cases e2:m<64*i
   ·exact hx m e2 hp
   ·have:=hb (m -64*i) (by omega)
    rw[e,bt_zero,show 64*i+(m -64*i)=m by omega,hp]at this
    cases hq:q m with
    |true=>rfl
    |false=>rw[hq]at this;simp at this
  ·rw[decide_eq_false e]
   obtain⟨l1,l2,_⟩:=lowB_spec e
   rw[hb _ l1]at l2
   simp only[Bool.and_eq_true,Bool.not_eq_true']at l2
   simp only[go_sem,zS,↓reduceIte,Za,Zb,Zc,reduceCtorEq,kont_eq]
   refine⟨⟨false,rfl,fun h=>(by cases h),fun h=>?_⟩,K12.trans K34⟩
   rw[h _ l2.1]at l2
   exact absurd l2.2 (by simp)
 ·have:i=A.length:=by omega
  subst this
  exact⟨⟨true,rfl,fun _ n hn=>hx n (hv.lt hn) hn,fun _=>rfl⟩,K12.trans K3⟩
theorem take_snoc0 (W:List UInt64) (k:Nat) (hk:k<W.length) (n:Nat) (h:W.getD k 0=0):memb (W.take (k+1)) n=memb (W.take k) n:=by
 unfold memb
 rw[List.getD_eq_getElem?_getD,List.getD_eq_getElem?_getD,List.getElem?_take,List.getElem?_take]
 by_cases e:n/64<k
 ·rw[if_pos (by omega),if_pos e]
 ·rw[if_neg e]
  by_cases e2:n/64=k
  ·rw[if_pos (by omega),e2]
   rw[List.getD_eq_getElem?_getD]at h
   rw[h];rfl
  ·rw[if_neg (by omega)]
def TrimSpec (P:Program) (k:FuncId):Prop:=∀(p:Nat->Bool) (W:List UInt64) (v:Value) (H:Hp),SlR H v (w64 W)->W.length<=64->(∀n,memb W n=p n)->CallsM P k #[v] H fun r H'=>SetM H' r p/\Keep (fun _=>False) H H'/\∀k,setB r k->slB v k
theorem btrim_ok (hk:FnIs P k (c_btrim ι) r_btrim 1):TrimSpec P k:=by
 intro p W v H hv hW hp
 obtain⟨R,hR⟩:∃R:Value->Hp->Prop,R=fun r H'=>SetM H' r p/\Keep (fun _=>False) H H'/\∀k,setB r k->slB v k:=⟨_,rfl⟩
 rw[<-hR]
 refine calls_of_vc hk (args:=[_]) (by simp) ?_
 unfold c_btrim r_btrim kA kB kF kL kS kT kU kV kY kZ
 simp only[go_sem,zS,↓reduceIte,Za,Zb,Zc,reduceCtorEq]
 refine kont_new fun H1 b1 e1 z1 B1 K1=>?_
 have hv1:=hv.keep K1 (by simp)
 simp only[go_sem,zS,↓reduceIte,Za,Zb,Zc,reduceCtorEq,kont_eq]
 refine vc_loop [14,0] rfl (fun n f H'=>∃u,n<=W.length/\f 0=u/\SlR H1 u (w64 (W.take n))/\(∀k,slB u k->slB v k)/\(∀m,memb (W.take n) m=p m)/\H'=H1) W.length
  ⟨v,by omega,by simp only[go_sem,zS,↓reduceIte,Za,Zb,Zc,reduceCtorEq,kont_eq],by rw[List.take_length];exact hv1,fun k h=>h,fun m=>by rw[List.take_length];exact hp m,rfl⟩ ?_
 rintro n g H' ⟨u,hn,hf,hu,hb,hm,rfl⟩
 simp only[go_sem,zS,↓reduceIte,Za,Zb,Zc,reduceCtorEq,kont_eq]at hf
 have hlen:(W.take n).length=n:=by rw[List.length_take];omega
 have hul:=hu.len
 rw[w64_len,hlen]at hul
 have fin:Can (W.take n)->∀H2,H2.size=H'.size->Keep (fun k=>k=b1) H' H2->R (.agg #[u]) H2:=by
  intro hcan H2 z2 K2
  rw[hR]
  exact⟨⟨u,W.take n,rfl,hu.keep K2 (fun k h e=>by
   have:=hv.old (hb k h);omega),by omega,hcan,hm⟩,K1.to_old K2 (by omega),fun k h=>hb k h⟩
 cases n with
 |zero=>
  have e0:decide (((0:Nat):Int)>0)=false:=rfl
  obtain⟨au,cu,rfl,hcu⟩:=hu.mk
  rw[w64_len,hlen]at hu hb fin hf
  simp only[go_sem,zS,↓reduceIte,Za,Zb,Zc,reduceCtorEq,kont_eq,hf,e0,zF]
  exact⟨by decide,ret1 B1 hu.one fun H2 z2 K2=>fin (fun h=>absurd rfl h) H2 z2 K2⟩
 |succ m=>
  have e0:decide (((m+1:Nat):Int)>0)=true:=decide_eq_true (by omega)
  obtain⟨b,o,c,rfl,hcle,hc⟩:=hu.cells (by intro e;have h:=congrArg List.length e;rw[w64_len,List.length_nil]at h;omega)
  rw[w64_len,hlen]at hc hu hb fin hcle
  have hcm:=hc m (by omega)
  rw[w64_get _ _ (by omega)]at hcm
  have hWm:(W.take (m+1)).getD m 0=W.getD m 0:=by
   rw[List.getD_eq_getElem?_getD,List.getD_eq_getElem?_getD,List.getElem?_take,if_pos (by omega)]
  rw[hWm]at hcm
  have w1:IntKind.i64.wrap (((m+1:Nat):Int) -1)=(m:Int):=by rw[show((m+1:Nat):Int) -1=(m:Int) by omega];exact IntWalk.i64_in _ ⟨by omega,by omega⟩
  have heq:(((W.getD m 0).toNat:Int)==0)=decide (W.getD m 0=0):=by
   have:=u64_bne (W.getD m 0) 0
   have z0:(((0:UInt64).toNat:Nat):Int)=0:=rfl
   rw[z0]at this
   simp only[bne]at this
   cases h1:(((W.getD m 0).toNat:Int)==0)<;>cases h2:decide (W.getD m 0=0)<;>simp_all
  have hc0:c≠0:=by omega
  rw[w64_len,hlen]at hf
  simp only[go_sem,zS,↓reduceIte,Za,Zb,Zc,reduceCtorEq,kont_eq,hf,e0,w1,tn_cast,Nat.mul_one,hcm,heq]
  refine⟨by omega,?_⟩
  by_cases hz:W.getD m 0=0
  ·rw[decide_eq_true hz]
   simp only[go_sem,zS,↓reduceIte,Za,Zb,Zc,reduceCtorEq,kont_eq,w1,tn_cast,Nat.zero_mul]
   refine⟨by omega,m,by omega,_,by omega,rfl,?_,?_,fun n=>?_⟩
   ·have:=hu.take (n:=m) (by rw[w64_len,hlen];omega)
    rw[w64_take,List.take_take,show min m (m+1)=m by omega]at this
    simpa[slV,loN,hiN,hc0,add_mk]using this
   ·intro k hk
    apply hb k
    refine slB_take (z:=1) (n:=m) (by show m<=m+1;omega) ?_
    simpa[slV,loN,hiN,hc0,add_mk]using hk
   ·rw[<-hm,take_snoc0 W m (by omega) n hz]
  ·rw[decide_eq_false hz]
   simp only[go_sem,zS,↓reduceIte,Za,Zb,Zc,reduceCtorEq,kont_eq,zF]
   refine⟨by decide,ret1 B1 ?_ fun H2 z2 K2=>?_⟩
   ·intro y hy;simp at hy;subst hy;rfl
   ·refine fin ?_ H2 z2 K2
    intro h h0
    apply hz
    rw[List.getLast_eq_getElem]at h0
    have hl2:(W.take (m+1)).length -1=m:=by omega
    simp only[hl2]at h0
    rw[<-hWm,List.getD_eq_getElem?_getD,List.getElem?_eq_getElem (by omega)]
    exact h0
theorem orAt_mem (W:List UInt64) (m:Nat) (hm:m/64<W.length) (n:Nat):memb (W.set (m/64) (orB (W.getD (m/64) 0) (m % 64))) n=(memb W n||decide (n=m)):=by
 rw[memb_set _ _ hm]
 by_cases e:n/64=m/64
 ·rw[if_pos e,bt_orB _ (by omega)]
  have e1:memb W n=bt (W.getD (m/64) 0) (n % 64):=by unfold memb;rw[e]
  rw[e1]
  congr 1
  by_cases h:n % 64=m % 64
  ·have:n=m:=by omega
   simp[h,this]
  ·have:n≠m:=fun h'=>h (by rw[h'])
   simp[h,this]
 ·rw[if_neg e]
  have:n≠m:=fun h=>e (by rw[h])
  simp[this]
def ofP (l:List Int) (n:Nat):Bool:=decide ((n:Int)∈l)&&decide (n<4096)
def BOfSpec (P:Program) (k:FuncId):Prop:=∀(l:List Int) (v:Value) (H:Hp),SlR H v (iL l)->l.length<=1000000->CallsM P k #[v] H fun r H'=>SetM H' r (ofP l)/\Keep (fun _=>False) H H'/\∀k,setB r k->H.size<=k
theorem mem_take_succ {l:List Int} (hi:i<l.length) (x:Int):x∈l.take (i+1)↔x∈l.take i\/x=l.getD i 0:=by
 rw[List.take_succ_eq_append_getElem hi,List.mem_append,List.mem_singleton,List.getD_eq_getElem?_getD,List.getElem?_eq_getElem hi]
 rfl
theorem bof_ok (hk:FnIs P k (c_bof ι) r_bof 1) (htr:TrimSpec P (ι.f 142)):BOfSpec P k:=by
 intro l v H hv hl
 obtain⟨R,hR⟩:∃R:Value->Hp->Prop,R=fun r H'=>SetM H' r (ofP l)/\Keep (fun _=>False) H H'/\∀k,setB r k->H.size<=k:=⟨_,rfl⟩
 rw[<-hR]
 refine calls_of_vc hk (args:=[_]) (by simp) ?_
 unfold c_bof r_bof kA kB kF kC kD ke kH kI kK kO kS kT kU kV kY kZ
 simp only[go_sem,zS,↓reduceIte,Za,Zb,Zc,reduceCtorEq]
 refine kont_new fun H1 b1 e1 z1 B1 K1=>?_
 have hv1:=hv.keep K1 (by simp)
 simp only[go_sem,zS,↓reduceIte,Za,Zb,Zc,reduceCtorEq,kont_eq,hv1.isSl,hv1.len,iL_len]
 refine vc_loop [12,5,16,3,11] rfl (fun n f H'=>∃(i:Nat) (t:Int),i<=l.length/\n=l.length -i/\f 11=.int .i64 i/\f 3=.int .i64 t/\-1<=t/\t<=4095/\(∀x∈l.take i,x<=4095->x<=t)/\H'=H1) l.length
  ⟨0,-1,by omega,by omega,by simp only[go_sem,zS,↓reduceIte,Za,Zb,Zc,reduceCtorEq,kont_eq];rfl,by simp only[go_sem,zS,↓reduceIte,Za,Zb,Zc,reduceCtorEq,kont_eq],by omega,by omega,fun x h=>by simp at h,rfl⟩ ?_
 rintro n g H' ⟨i,t,hi,rfl,hf11,hf3,ht0,ht1,hx,rfl⟩
 simp only[go_sem,zS,↓reduceIte,Za,Zb,Zc,reduceCtorEq,kont_eq]at hf11 hf3
 simp only[go_sem,zS,↓reduceIte,Za,Zb,Zc,reduceCtorEq,kont_eq,hf11]
 refine iteV_dec (fun hlt=>?_) (fun hge=>?_)
 ·have hlt:i<l.length:=by omega
  obtain⟨b,o,c,rfl,-,hc⟩:=hv1.cells (by intro e;have h:=congrArg List.length e;rw[iL_len,List.length_nil]at h;omega)
  rw[iL_len]at hc
  have hci:=hc i hlt
  rw[iL_get _ _ hlt]at hci
  simp only[go_sem,zS,↓reduceIte,Za,Zb,Zc,reduceCtorEq,kont_eq,hf11,hf3,iL_len,tn_cast,Nat.mul_one,hci]
  refine⟨by omega,?_⟩
  generalize hxi:l.getD i 0=x at*
  refine iteV_dec (fun h4=>?_) (fun h4=>?_)
  ·simp(disch:=omega)only[go_sem,zS,↓reduceIte,Za,Zb,Zc,reduceCtorEq,kont_eq,hf11,hf3,IntWalk.i64_in]
   refine⟨l.length -(i+1),by omega,i+1,_,by omega,rfl,by simp,rfl,?_,?_,fun y hy h=>?_⟩
   ·split<;>omega
   ·split<;>omega
   ·rcases(mem_take_succ hlt y).1 hy with h1|h1
    ·have:=hx y h1 h
     split<;>omega
    ·rw[hxi]at h1
     split<;>omega
  ·simp(disch:=omega)only[go_sem,zS,↓reduceIte,Za,Zb,Zc,reduceCtorEq,kont_eq,hf11,hf3,IntWalk.i64_in]
   refine⟨l.length -(i+1),by omega,i+1,_,by omega,rfl,by simp,rfl,ht0,ht1,fun y hy h=>?_⟩
   rcases(mem_take_succ hlt y).1 hy with h1|h1
   ·exact hx y h1 h
   ·rw[hxi]at h1;omega
 ·have hil:i=l.length:=by omega
  subst hil
  rw[List.take_length]at hx
  simp only[go_sem,zS,↓reduceIte,Za,Zb,Zc,reduceCtorEq,kont_eq,hf3]
  refine iteV_dec (fun h4=>?_) (fun h4=>?_)
  ·simp only[go_sem,zS,↓reduceIte,Za,Zb,Zc,reduceCtorEq,kont_eq,zF]
   refine ret1 B1 ?_ fun H2 z2 K2=>?_
   ·intro y hy;simp at hy;subst hy;rfl
   ·rw[hR]
    refine⟨(SetM.empty H2 _ _).congr fun n=>?_,K1.to_old K2 (by omega),fun k h=>h.elim⟩
    unfold ofP
    by_cases e:(n:Int)∈l
    ·have:=hx n e
     have:¬n<4096:=by omega
     simp[this]
    ·simp[e]
  ·obtain⟨m,rfl⟩:=Int.eq_ofNat_of_zero_le (Int.not_lt.1 h4)
   have hm:m<4096:=by omega
   have wq:IntKind.i64.wrap (((m/64:Nat):Int)+1)=((m/64+1:Nat):Int):=IntWalk.i64_in _ ⟨by omega,by omega⟩
   simp only[go_sem,zS,↓reduceIte,Za,Zb,Zc,reduceCtorEq,tdiv64 m hm,wq,tn_cast]
   generalize hM:m/64+1=M at*
   refine⟨by decide,⟨by omega,by omega,by unfold maxLen;omega⟩,?_⟩
   obtain⟨b2,e2⟩:∃b2,b2=H'.size:=⟨_,rfl⟩
   have K2:=(Keep.refl (fun _=>False) H').push (Obj.cells (rep #[Value.int .u64 0] M) (ι.t 28))
   have B2:=Bl.new' H' (rep #[Value.int .u64 0] M) (ι.t 28)
   have z2:(H'.push (Obj.cells (rep #[Value.int .u64 0] M) (ι.t 28))).size=H'.size+1:=by simp
   rw[<-e2]at B2⊢
   generalize H'.push (Obj.cells (rep #[Value.int .u64 0] M) (ι.t 28))=H2 at K2 B2 z2⊢
   have s1:=K1.size
   have s2:=K2.size
   have B2:Bl H2 b2 (w64 (List.replicate M 0)):=by
    have:=B2
    rw[rep_one,w64_rep]at this;exact this
   have B12:=K2.bl B1 (by simp)
   have hv2:=hv1.keep K2 (by simp)
   simp only[go_sem,zS,↓reduceIte,Za,Zb,Zc,reduceCtorEq,kont_eq,hv2.isSl,hv2.len,iL_len]
   refine vc_loop [31,8,40,30] rfl (fun n f H'=>∃(i:Nat) (W:List UInt64),i<=l.length/\n=l.length -i/\f 30=.int .i64 i/\W.length=M/\Bl H' b2 (w64 W)/\(∀n:Nat,memb W n=(decide ((n:Int)∈l.take i)&&decide (n<=m)))/\Keep (fun k=>k=b2) H2 H') l.length
    ⟨0,List.replicate M 0,by omega,by omega,by simp only[go_sem,zS,↓reduceIte,Za,Zb,Zc,reduceCtorEq,kont_eq];rfl,by simp,B2,fun n=>by have:=memb_pad [] M n;rw[List.nil_append]at this;rw[this,memb_ge (by simp)];simp,Keep.refl _ _⟩ ?_
   rintro n g2 H3 ⟨i,W,hi,rfl,hf,hW,B3,hmb,K3⟩
   simp only[go_sem,zS,↓reduceIte,Za,Zb,Zc,reduceCtorEq,kont_eq]at hf
   simp only[go_sem,zS,↓reduceIte,Za,Zb,Zc,reduceCtorEq,kont_eq,hf]
   refine iteV_dec (fun hlt=>?_) (fun hge=>?_)
   ·have hlt:i<l.length:=by omega
    have hv3:=hv.keep ((K1.trans K2).to_old K3 (by omega)) (by simp)
    obtain⟨b,o,c,rfl,-,hc⟩:=hv3.cells (by intro e;have h:=congrArg List.length e;rw[iL_len,List.length_nil]at h;omega)
    rw[iL_len]at hc
    have hci:=hc i hlt
    rw[iL_get _ _ hlt]at hci
    have hlast:∀H4 W',W'.length=M->Bl H4 b2 (w64 W')->(∀n:Nat,memb W' n=(decide ((n:Int)∈l.take (i+1))&&decide (n<=m)))->Keep (fun k=>k=b2) H3 H4→
      ∃n',n'<l.length -i/\∃(i':Nat) (W:List UInt64),i'<=l.length/\n'=l.length -i'/\(i+1:Nat)=i'/\W.length=M/\Bl H4 b2 (w64 W)/\(∀n:Nat,memb W n=(decide ((n:Int)∈l.take i')&&decide (n<=m)))/\Keep (fun k=>k=b2) H2 H4:=fun H4 W' h1 h2 h3 h4=>
     ⟨_,by omega,i+1,W',by omega,rfl,rfl,h1,h2,h3,K3.trans h4⟩
    by_cases hin:(0:Int)<=l.getD i 0/\l.getD i 0<=(m:Int)
    ·obtain⟨h0,h1⟩:=hin
     obtain⟨q,hq⟩:=Int.eq_ofNat_of_zero_le h0
     have hq4:q<4096:=by omega
     have hqm:((q:Nat):Int)<=(m:Int):=by omega
     have hqn:(0:Int)<=((q:Nat):Int):=by omega
     have hqM:q/64<M:=by omega
     rw[hq]at hci
     have hc5:cell H3 ⟨b2,q/64,none⟩=some (.int .u64 ((W.getD (q/64) 0).toNat:Int)):=by rw[B3.cell,w64_get _ _ (by omega)]
     have hst:=B3.okSt (o:=q/64) (by rw[w64_len];omega)
     simp only[go_sem,zS,↓reduceIte,Za,Zb,Zc,reduceCtorEq,kont_eq,hf,hf3,iL_len,tn_cast,Nat.mul_one,hci,ge_iff_le,hqn,hqm,tdiv64 q hq4,tmod64,hc5,or_orB _ (q % 64) (by omega:q % 64<64),hst]
     refine⟨by omega,by decide,by omega,by decide,by omega,by omega,?_⟩
     have B6:=B3.setc (q/64) (.int .u64 ((orB (W.getD (q/64) 0) (q % 64)).toNat:Int))
     rw[w64_set _ _ (by omega)]at B6
     have K6:Keep (fun k=>k=b2) H3 (setc H3 ⟨b2,q/64,none⟩ (.int .u64 ((orB (W.getD (q/64) 0) (q % 64)).toNat:Int))):=(Keep.refl _ _).setc _ (.inl rfl)
     generalize setc H3 ⟨b2,q/64,none⟩ (.int .u64 ((orB (W.getD (q/64) 0) (q % 64)).toNat:Int))=H6 at B6 K6⊢
     simp(disch:=omega)only[go_sem,zS,↓reduceIte,Za,Zb,Zc,reduceCtorEq,kont_eq,hf,IntWalk.i64_in]
     obtain⟨n',a1,i',W',a2,a3,a4,a5,a6,a7,a8⟩:=hlast H6 _ (by simp[hW]) B6 (fun n=>by
      rw[orAt_mem _ _ (by omega),hmb]
      have e1:=mem_take_succ hlt (n:Int)
      rw[hq]at e1
      by_cases h1:(n:Int)∈l.take i
      ·have h2:=e1.2 (.inl h1)
       by_cases h3:n<=m
       ·simp[h1,h2,h3]
       ·have:n≠q:=by omega
        simp[h1,h2,h3,this]
      ·by_cases h4:n=q
       ·subst h4
        have h2:=e1.2 (.inr rfl)
        have h3:n<=m:=by omega
        simp[h2,h3]
       ·have h2:¬(n:Int)∈l.take (i+1):=fun h=>by
         rcases e1.1 h with h|h
         ·exact h1 h
         ·omega
        simp[h1,h2,h4]) K6
     exact⟨n',a1,i',W',a2,a3,by rw[<-a4];simp,a5,a6,a7,a8⟩
    ·have hb0:∀n:Nat,(decide ((n:Int)∈l.take (i+1))&&decide (n<=m))=(decide ((n:Int)∈l.take i)&&decide (n<=m)):=fun n=>by
      have e1:=mem_take_succ hlt (n:Int)
      by_cases h3:n<=m
      ·have:(n:Int)≠l.getD i 0:=fun h=>hin ⟨by omega,by omega⟩
       have e2:(n:Int)∈l.take (i+1)↔(n:Int)∈l.take i:=e1.trans ⟨fun h=>h.resolve_right this,.inl⟩
       rw[decide_eq_decide.2 e2]
      ·simp[h3]
     obtain⟨n',a1,i',W',a2,a3,a4,a5,a6,a7,a8⟩:=hlast H3 W hW B3 (fun n=>by rw[hb0,hmb]) (Keep.refl _ _)
     simp only[go_sem,zS,↓reduceIte,Za,Zb,Zc,reduceCtorEq,kont_eq,hf,hf3,iL_len,tn_cast,Nat.mul_one,hci]
     by_cases h0:l.getD i 0≥0
     ·have h1:¬l.getD i 0<=(m:Int):=fun h=>hin ⟨h0,h⟩
      simp(disch:=omega)only[go_sem,zS,↓reduceIte,Za,Zb,Zc,reduceCtorEq,kont_eq,hf,hf3,h0,h1,IntWalk.i64_in]
      exact⟨by omega,n',a1,i',W',a2,a3,by rw[<-a4];simp,a5,a6,a7,a8⟩
     ·simp(disch:=omega)only[go_sem,zS,↓reduceIte,Za,Zb,Zc,reduceCtorEq,kont_eq,hf,hf3,h0,IntWalk.i64_in]
      exact⟨by omega,n',a1,i',W',a2,a3,by rw[<-a4];simp,a5,a6,a7,a8⟩
   ·have hil:i=l.length:=by omega
    subst hil
    rw[List.take_length]at hmb
    have hs:=SlR.bl B3 0 M M (Nat.le_refl _) (by rw[w64_len];omega)
    rw[List.drop_zero,w64_take,List.take_of_length_le (by omega)]at hs
    have hmb':∀n,memb W n=ofP l n:=fun n=>by
     rw[hmb]
     unfold ofP
     by_cases e:(n:Int)∈l
     ·have:=hx n e
      by_cases h3:n<=m
      ·have:n<4096:=by omega
       simp[h3,this]
      ·have:¬n<4096:=by omega
       simp[h3,this]
     ·simp[e]
    refine(htr (ofP l) W _ H3 hs (by omega) hmb').mono ?_
    rintro r H4 ⟨hr,K4,hb4⟩
    have B14:Bl H4 b1 [.slice none 0 0]:=K4.bl (K3.bl B12 (by omega)) (by simp)
    obtain⟨rv,rW,rfl,hrv⟩:=hr
    simp only[go_sem,zS,↓reduceIte,Za,Zb,Zc,reduceCtorEq,kont_eq,zF]
    refine ret1 B14 hrv.sl.one fun H5 z5 K5=>?_
    have s4:=K4.size
    have s3:=K3.size
    have hbb:∀k,slB rv k->H2.size<=k+1/\k≠b1:=fun k h=>by
     have:=hb4 k h
     have:k=b2:=this.1
     omega
    rw[hR]
    refine⟨⟨rv,rW,rfl,hrv.keep K5 (fun k h e=>(hbb k h).2 e)⟩,(((K1.trans K2).to_old K3 (by omega)).trans K4).to_old K5 (by omega),fun k h=>?_⟩
    have:=hbb k h
    omega
end Go.Mg

/- Several texts of ours in one. No conditions. -/
import Derived.Test.YtoclemmcphgikaaGreatDoorMgGT
import Derived.Test.YtoclemmcphgikaaGreatDoorMgGI
open Nat renaming reduceEqDiff→Za,reduceAdd→Zb,reduceMul→Zc,reduceLeDiff→Zd,reduceLT→Ze
open Int renaming reduceBEq→Zf,reduceBNe→Zg,reduceLE→Zh,reduceLT→Zi
namespace Go.Mg
open Go Go.RowKit
set_option linter.all false
set_option maxRecDepth 100000
def wanL (F:FlN) (ms:List UInt64) (st:List Int) (k m:Nat):List Nat:=(List.range m).filter fun u=>decide (rAskF F ms st (k:Int) ((u:Nat):Int)=1)
theorem wanL_len (F:FlN) (ms:List UInt64) (st:List Int) (k m:Nat):(wanL F ms st k m).length<=m:=by
 unfold wanL
 have:=List.length_filter_le (fun u:Nat=>decide (rAskF F ms st (k:Int) ((u:Nat):Int)=1)) (List.range m)
 rwa [List.length_range]at this
variable {F:FlN} {ms:List UInt64} {st:List Int}
theorem rAsk_1 {k:Nat} {u:Int} (h:rAskF F ms st (k:Int) u=1):k<F.st.length/\1<=u/\u<=4/\bt (ms.getD k 0) u.toNat=true:=by
 unfold rAskF at h
 split at h
 ·next h1=>
  split at h
  ·omega
  ·next h2=>
   rw[Int.toNat_natCast]at h2
   refine⟨(mem_rdyL.1 (mem_nI.1 h1)).1,by omega,by omega,?_⟩
   cases hb:bt (ms.getD k 0) u.toNat with
   |true=>rfl
   |false=>exact absurd (.inr (.inr hb)) h2
 ·omega
theorem wan_usr (hS:okS F.st.length st) (hn:F.st.length<=10) (hm:MsOk ms) (k:Nat):usrL F (ms.map bt) st k 4096=wanL F ms st k 6:=by
 unfold usrL wanL
 rw[getD_map_bt,List.take_of_length_le (by unfold mems;exact Nat.le_trans (List.length_filter_le _ _) (by simp)),mems_4 fun u hu=>(hm k u hu).2,List.filter_filter]
 have e:List.range 6=List.range 5++[5]:=rfl
 rw[e,List.filter_append,filter_none (l:=[5]) fun x hx=>?_,List.append_nil]
 ·refine List.filter_congr fun u hu=>?_
  rw[ask_ref hS hn hm]
  by_cases h:rAskF F ms st (k:Int) ((u:Nat):Int)=1
  ·have:=(rAsk_1 h).2.2.2
   rw[Int.toNat_natCast]at this
   rw[this,decide_eq_true h];rfl
  ·rw[decide_eq_false h];rfl
 ·simp only[List.mem_singleton]at hx
  subst hx
  refine decide_eq_false fun h=>?_
  have:=(rAsk_1 h).2.2.1
  omega
end Go.Mg
namespace Go.Mg
open Go Go.RowKit
set_option linter.all false
set_option maxRecDepth 100000
def c_eeG (ι:Ids):S:=
 (.dr (kW 83 (.mv (.v 7)) (kW 84 (.mv (.v 11)) (kW 85 (.mv (.v 16)) (kW 86 (.is 2 (.t 84) (.t 85)) (kW 87 (.ia 2 1 (.t 86) (.c (.int .i64 0))) (kW 88 (.ld (.t 87)) (kW 89 (.mv (.v 11)) (kW 90 (.mv (.v 16)) (kW 91 (.is 2 (.t 89) (.t 90)) (kW 92 (.ia 2 1 (.t 91) (.c (.int .i64 1))) (kW 93 (.ld (.t 92)) (.wcons (.t 94) .none (.call (ι.f 388) [.t 83,.t 88,.t 93]) (kW 82 (.mv (.t 94)) (kW 95 (.ext (.t 82) 0) (kW 96 (.ext (.t 82) 1) (kX 17 (.mv (.t 95)) (kX 18 (.mv (.t 96)) .done))))) .wnil)))))))))))))
def c_eeC (ι:Ids):S:=
 (kY [kA 70 10,kA 71 2,kL 72 71,kV 73 (.cm .lss .i64 (.t 70) (.t 72))] (.ite (.v 73) (.reg [kA 74 2,kA 75 10,kI 76 1 74 75,kD 77 76,kU 78 (.ii .i64 (.t 77)),kA 79 11,kL 80 79,kU 81 (.dv .rem .i64 (.t 78) (.t 80)),kB 16 81]) .skip))
def c_eeA (ι:Ids):S:=
 (.reg [kA 59 11,kA 60 13,kA 61 15,kU 62 (.m (.bld #[.int .i64 0,.int .i64 0] [(0,(1,.t 60)),(1,(1,.t 61))])),.e (.t 63) (.bldF (ι.t 194) 2 1 [.t 62]),.e (.t 64) (.app false (ι.t 194) 2 16 #[.int .i64 0,.int .i64 0] (.t 59) (.t 63)),kB 11 64])
def c_eeF (ι:Ids):S:=
 (kY [kA 100 7,.e (.t 101) (.call (ι.f 381) [.t 100]),kF 102 101,kS 103 102 true 7,.ge (.t 104) (.t 102) true (.call (ι.f 382) [.t 103]),kS 105 102 true 7,.ge (.t 106) (.t 102) true (.call (ι.f 379) [.t 105]),.ge (.t 107) (.t 102) true (.call (ι.f 165) [.t 104,.t 106]),kJ 108 102 107,kF 109 108,kS 110 109 true 7,.ge (.t 111) (.t 109) true (.call (ι.f 385) [.t 110]),kT 112 109 true (.m (.lenl (.t 111))),kT 113 109 true (.cm .eql .i64 (.t 112) (.c (.int .i64 0))),kJ 114 109 113,kB 6 114] .ret)
def c_leend (ι:Ids):S:=
 kY [kR 3 (ι.t 288) 0,kC 6 (.bool false)] (.seq (kY [.e (.t 19) (.call (ι.f 407) []),kV 20 (.not (.t 19))] (.ite (.v 20) (kY [kC 6 (.bool false)] .ret) .skip)) (kY [kM 22 7 3,kA 23 1,.e (.t 24) (.call (ι.f 405) [.t 22,.t 23]),kF 21 24,kQ 25 21 0,kQ 26 21 1,kQ 27 21 2,.e (.t 8) (.new (ι.t 396) #[kZ,kZ,kZ,kZ,kZ,kZ,kZ]),kB 7 25,.e .no (.stn 7 (.t 8) (.t 26)),kB 9 27] (.seq (kY [kA 28 9,kU 29 (.not (.t 28)),kF 30 29,kS 31 30 false 7,kT 32 30 false (.m (.eqn .ptr false (.t 31))),kV 33 (.pick (.t 30) (.c (.bool true)) (.t 32))] (.ite (.v 33) (kY [kA 34 9,kB 6 34] .ret) .skip)) (.seq (kY [kC 10 (.int .i64 0)] (.blk 0 (.loop (.seq (kY [kA 35 10,kU 36 (.cm .lss .i64 (.t 35) (.c (.int .i64 5))),kF 37 36,kS 38 37 true 7,.ge (.t 39) (.t 37) true (.call (ι.f 381) [.t 38]),kT 40 37 true (.not (.t 39)),kV 41 (.pick (.t 37) (.t 40) (.c (.bool false)))] (.ite (.v 41) .skip (.exit 0))) (.seq (.blk 1 (kY [kC 11 (kZ)] (.seq (kY [kA 44 7,.e (.v 45) (.call (ι.f 385) [.t 44]),kO 46 45,kC 47 (.int .i64 0)] (.blk 2 (.loop (kY [kH 48 47 46] (.seq (.ite (.v 48) .skip (.exit 2)) (.seq (.blk 3 (kY [kK 49 1 45 47,kD 50 49,kB 13 50] (kY [kA 51 7,kA 52 13,.e (.v 53) (.call (ι.f 393) [.t 51,.t 52]),kO 54 53,kC 55 (.int .i64 0)] (.blk 4 (.loop (kY [kH 56 55 54] (.seq (.ite (.v 56) .skip (.exit 4)) (.seq (.blk 5 (kY [kK 57 1 53 55,kD 58 57,kB 15 58] (c_eeA ι))) (.reg [ke 65 55,kB 55 65]))))))))) (.reg [ke 66 47,kB 47 66]))))))) (.seq (kY [kA 67 11,kL 68 67,kV 69 (.cm .eql .i64 (.t 68) (.c (.int .i64 0)))] (.ite (.v 69) (kY [kC 6 (.bool false)] .ret) .skip)) (kY [kC 16 (.int .i64 0)] (.seq (c_eeC ι) (.seq (c_eeG ι) (.seq (kY [kA 97 18,kV 98 (.cm .neq .i64 (.t 97) (.c (.int .i64 0)))] (.ite (.v 98) (kY [kC 6 (.bool false)] .ret) .skip)) (.reg [kA 99 17,kB 7 99]))))))))) (.reg [kA 42 10,kU 43 (.ar .add .i64 (.t 42) (.c (.int .i64 1))),kB 10 43])))))) (c_eeF ι)))))
def r_leend:List RV:=[.t 6]
def actS (F:FlN) (ms:List UInt64) (st:List Int) (k:Nat):List PrN:=(wanL F ms st k 6).map fun u:Nat=>(((k:Nat):Int),((u:Nat):Int))
def actL (F:FlN) (ms:List UInt64) (st:List Int) (l:List Nat):List PrN:=l.flatMap (actS F ms st)
variable {F:FlN} {ms:List UInt64} {st:List Int} {r:RawF} {H A:Hp} {rb i:Nat} {P:Program} {ι:Ids} {k:FuncId} {L:List PrN} {lv:Value} {f:Fr} {Qb:Ex->Fr->Hp->Prop}
theorem actL_mem {l:List Nat} {x:PrN}:x∈actL F ms st l->rAskF F ms st x.1 x.2=1:=by
 unfold actL actS
 rw[List.mem_flatMap]
 rintro⟨k,_,h⟩
 obtain⟨u,hu,rfl⟩:=List.mem_map.1 h
 unfold wanL at hu
 exact of_decide_eq_true (List.mem_filter.1 hu).2
theorem flat_le {α β:Type} {e:α->List β} {c:Nat}:∀{l:List α},(∀x∈l,(e x).length<=c)->(l.flatMap e).length<=c*l.length
 |[],_=>by simp
 |x::l,h=>by
  have h1:=h x List.mem_cons_self
  have h2:=flat_le (l:=l) fun y hy=>h y (List.mem_cons_of_mem _ hy)
  rw[List.flatMap_cons,List.length_append,List.length_cons,Nat.mul_succ]
  omega
theorem actL_len (l:List Nat):(actL F ms st l).length<=6*l.length:=by
 unfold actL
 refine flat_le fun k _=>?_
 unfold actS
 rw[List.length_map]
 exact wanL_len _ _ _ _ _
theorem actL_ne (r:RawF) (hS:okS (mkF r).st.length st) (hne:cmpV (mkF r) (masksF r) st≠[]) (h0:0∈st):actL (mkF r) (masksF r) st (rdyL (mkF r).st.length (mkF r).be (doneP st st.length))≠[]:=by
 obtain⟨t,ht⟩:∃t,t∈cmpV (mkF r) (masksF r) st:=by
  cases h:cmpV (mkF r) (masksF r) st with
  |nil=>exact absurd h hne
  |cons a l=>exact⟨a,List.mem_cons_self⟩
 have h5:=mkF_le5 r
 obtain⟨k,hk⟩:∃k,st.findIdx? (fun u=>decide (u=0))=some k:=by
  cases h:st.findIdx? (fun u=>decide (u=0))with
  |none=>
   rw[List.findIdx?_eq_none_iff]at h
   have:=h 0 h0
   simp at this
  |some k=>exact⟨k,rfl⟩
 have hr:=rdy_first (fun x hx=>mkF_be hx) hS.1 (by omega) hk
 obtain⟨h1,_⟩:=ask_fill hS (by omega) ht hr
 have hkn:=(mem_rdyL.1 hr).1
 obtain⟨a1,a2,a3⟩:=cmp_at ht hkn
 intro he
 have hm:(((k:Nat):Int),t.getD k 0)∈actL (mkF r) (masksF r) st (rdyL (mkF r).st.length (mkF r).be (doneP st st.length)):=by
  unfold actL
  rw[List.mem_flatMap]
  refine⟨k,hr,?_⟩
  unfold actS
  rw[List.mem_map]
  refine⟨(t.getD k 0).toNat,?_,?_⟩
  ·unfold wanL
   rw[List.mem_filter,List.mem_range]
   refine⟨by omega,decide_eq_true ?_⟩
   rw[Int.toNat_of_nonneg (by omega)];exact h1
  ·rw[Int.toNat_of_nonneg (by omega)]
 rw[he]at hm
 cases hm
theorem zerN_0:zerN st=0↔0∉st:=by
 unfold zerN
 rw[List.countP_eq_zero]
 constructor
 ·intro h hm
  have:=h 0 hm
  simp at this
 ·intro h u hu
  simp only[decide_eq_true_eq]
  rintro rfl
  exact h hu
theorem rdyL_full {n:Nat} {be:List PrN} (hl:st.length=n) (hn:n<=10) (h0:0∉st):rdyL n be (doneP st st.length)=[]:=by
 cases h:rdyL n be (doneP st st.length)with
 |nil=>rfl
 |cons k l=>
  have hk:k∈rdyL n be (doneP st st.length):=by rw[h];exact List.mem_cons_self
  obtain⟨h1,_,h3⟩:=mem_rdyL.1 hk
  rw[memI_nat (by omega)]at h3
  unfold doneP at h3
  rw[decide_eq_true (by omega),Bool.true_and]at h3
  have:st.getD k 0=0:=by simpa using h3
  rw[List.getD_eq_getElem?_getD,List.getElem?_eq_getElem (by omega),Option.getD_some]at this
  exact absurd (by rw[<-this];exact List.getElem_mem _) h0
structure LEnC (P:Program) (ι:Ids):Prop where
 aw:EAwkSpec P ι (ι.f 407)
 play:LPlaySpec P ι (ι.f 405)
 fin:EFinSpec P (ι.f 381)
 rdy:ERdySpec P ι (ι.f 385)
 usr:EUsrsSpec P ι (ι.f 393)
 gra:EGraSpec P ι (ι.f 388)
 pln:EPlnSpec P ι (ι.f 382)
 stf:EStaffSpec P (ι.f 379)
 eqI:IEqSpec P (ι.f 165)
structure RnI (r:RawF) (H:Hp) (rb:Nat) (st:List Int):Prop where
 run:RunV H rb (mkF r) ((masksF r).map bt) st
 ok:okS (mkF r).st.length st
 ne:cmpV (mkF r) (masksF r) st≠[]
theorem RnI.keep0 {H':Hp} (h:RnI r H rb st) (hk:Keep (fun _=>False) H H'):RnI r H' rb st:=⟨h.run.keep0 hk,h.ok,h.ne⟩
theorem gra_1 (hg:EGraSpec P ι k) {step user:Int} (hT:TabOk ι H) (hI:RnI r H rb st) (h1:rAskF (mkF r) (masksF r) st step user=1):
  CallsM P k #[.pointer (some ⟨rb,0,none⟩),.int .i64 step,.int .i64 user] H fun x H'=>∃rb' j,step=((j:Nat):Int)/\x=.tuple #[.pointer (some ⟨rb',0,none⟩),.int .i64 0]/\RnI r H' rb' (st.set j user)/\zerN (st.set j user)+1=zerN st/\j<st.length/\st.getD j 0=0/\Keep (fun _=>False) H H'/\∀W:Nat->Prop,(∀q,W q->q<H.size)->RunA W H rb->RunA W H' rb':=by
 have h5:=mkF_le5 r
 have hsl:=hI.ok.1
 have hel:=el_len r
 refine(hg.1 (mkF r) ((masksF r).map bt) st rb step user H hT hI.run (mkF_ok r) (by omega) (goodP_mk r) (solB_set r hI.ok)).mono ?_
 rintro x H' ⟨K,hx⟩
 obtain⟨j,rfl,j1,j2,j3,j4,j5,j6,j7,j8⟩:=ask_1 hI.ok (by omega) h1
 have hg0:graE (mkF r) ((masksF r).map bt) st (j:Int) user=0:=by
  unfold graE
  rw[if_neg (by omega),ask_ref hI.ok (by omega) (masksF_ok r),if_pos h1]
 rcases hx with⟨h,_⟩|⟨_,rb',rfl,hR,hW⟩
 ·exact absurd hg0 h
 ·rw[Int.toNat_natCast]at hR
  exact⟨rb',j,rfl,rfl,⟨hR,j8,j7⟩,zerN_set (by omega) j3 (by omega),by omega,j3,K,hW⟩
theorem eeG_ok (c:LEnC P ι) (f7:f 7=.pointer (some ⟨rb,0,none⟩)) (f11:f 11=lv) (f16:f 16=.int .i64 (i:Int)) (hT:TabOk ι A) (hI:RnI r A rb st)
  (hL:SlP A lv L) (hi:i<L.length) (hL1:∀x∈L,rAskF (mkF r) (masksF r) st x.1 x.2=1)
  (hK:∀A' rb' st',RnI r A' rb' st'->zerN st'+1=zerN st->Keep (fun _=>False) A A'->Qb .n (upd (upd f 17 (.pointer (some ⟨rb',0,none⟩))) 18 (.int .i64 0)) A'):vc P (c_eeG ι) Qb f A:=by
 unfold c_eeG kW kX
 obtain⟨x,hx⟩:∃x,x=L[i]:=⟨_,rfl⟩
 have h1:=hL1 x (by rw[hx];exact List.getElem_mem _)
 obtain⟨pb,po,pc,hwe,-,hld⟩:=hL.elem pE_len hi
 rw[<-hx]at hld
 have hld':ldNA A ⟨pb,po+i*2,none⟩ 2=some [Value.int .i64 x.1,.int .i64 x.2].toArray:=hld
 have hc0:=ldNA_cell hld' (j:=0) (by omega)
 have hc1:=ldNA_cell hld' (j:=1) (by omega)
 have hc0:cell A ⟨pb,po+i*2,none⟩=some (.int .i64 x.1):=hc0
 have hc1:cell A ⟨pb,po+i*2+1,none⟩=some (.int .i64 x.2):=hc1
 refine vc_drk (fun _=>False) ?_
 simp-implicitDefEqProofs only[go_sem,↓reduceIte,Za,Zb,Zc,reduceCtorEq,kont_eq,Zf,Zg,Zh,Zi,Zd,Ze,f7,f11,f16,hwe,tn_cast,hc0,hc1,Nat.add_zero]
 refine⟨by omega,by omega,(gra_1 c.gra hT hI h1).mono ?_⟩
 rintro y X ⟨rb',j,hj,rfl,hR,hz,hjl,hj0,KX,-⟩
 rw[kontK_eq]
 refine⟨KX,?_⟩
 simp-implicitDefEqProofs only[go_sem,↓reduceIte,Za,Zb,Zc,reduceCtorEq,kont_eq,Zf,Zg,Zh,Zi,Zd,Ze]
 exact hK X rb' _ hR hz KX
theorem eeA_ok {k u:Nat} (f11:f 11=lv) (f13:f 13=.int .i64 (k:Int)) (f15:f 15=.int .i64 (u:Int)) (O:OwE pE 2 A lv L) (hL:L.length<=1000)
  (hK:∀v' A',OwE pE 2 A' v' (L++[(((k:Nat):Int),((u:Nat):Int))])->(∀q,ownB v' q->ownB lv q\/A.size<=q)->Keep (ownB lv) A A'->Qb .n (upd f 11 v') A'):vc P (c_eeA ι) Qb f A:=by
 unfold c_eeA kA kB kU
 simp-implicitDefEqProofs only[go_sem,↓reduceIte,Za,Zb,Zc,reduceCtorEq,Zf,Zg,Zh,Zi,Zd,Ze,f11,f13,f15]
 refine kont_news fun A2 bb eb zb BB KB=>?_
 have BB':Bl A2 bb [.int .i64 (k:Int),.int .i64 (u:Int)]:=BB
 have hx:SlE pE 2 A2 (.slice (some ⟨bb,0,none⟩) 1 1) [(((k:Nat):Int),((u:Nat):Int))]:=SlE.bl BB' (l:=[(((k:Nat):Int),((u:Nat):Int))]) rfl (by simp) (by simp)
 simp-implicitDefEqProofs only[go_sem,↓reduceIte,Za,Zb,Zc,reduceCtorEq,kont_eq,Zf,Zg,Zh,Zi,Zd,Ze,f11]
 have sB:=KB.size
 refine app_E pE_len pE_one (O.keep KB (by simp)) hx rfl (by unfold maxLen;simp;omega) (by simp;omega) fun v' A3 O3 K3 o3=>?_
 simp-implicitDefEqProofs only[go_sem,↓reduceIte,Za,Zb,Zc,reduceCtorEq,kont_eq,Zf,Zg,Zh,Zi,Zd,Ze]
 exact hK v' A3 O3 (fun q hq=>by rcases o3 q hq with h|h;exact .inl h;exact .inr (by omega)) (KB.any.trans K3)
theorem eeC_ok {cv:Value} {ch:List UInt8} (f2:f 2=cv) (f10:f 10=.int .i64 (i:Int)) (f11:f 11=lv) (f16:f 16=.int .i64 0) (hc:SlR A cv (w8 ch)) (hL:SlP A lv L) (h0:0<L.length) (hl:L.length<=1000)
  (hK:∀(g:Fr) (j:Nat),j<L.length->g 16=.int .i64 (j:Int)->g 7=f 7->g 10=f 10->g 11=f 11->Qb .n g A):vc P (c_eeC ι) Qb f A:=by
 unfold c_eeC kA kB kD kI kL kU kV kY
 have lc:lenV cv=ch.length:=by rw[hc.len,w8_len]
 by_cases h:(i:Int)<(ch.length:Int)
 ·have d:decide ((i:Int)<(ch.length:Int))=true:=decide_eq_true h
  obtain⟨pb,po,pc,hwe,-,hcl⟩:=hc.cells (by intro e;have:=congrArg List.length e;rw[w8_len,List.length_nil]at this;omega)
  have hci:=hcl i (by rw[w8_len];omega)
  rw[w8_get _ _ (by omega)]at hci
  rw[w8_len]at hwe
  have w1:IntKind.i64.wrap (((ch.getD i 0).toNat:Nat):Int)=(((ch.getD i 0).toNat:Nat):Int):=IntWalk.i64_in _ (by have:=(ch.getD i 0).toNat_lt;omega)
  have m1:(((ch.getD i 0).toNat:Nat):Int).tmod (L.length:Int)=(((ch.getD i 0).toNat % L.length:Nat):Int):=tmod_nat _ _
  simp only[go_sem,Za,Zb,kont_eq,f2,f10,f11,hc.isSl,lc,d,hwe,tn_cast,hci,w1,hL.isSl,hL.len,m1]
  exact⟨by omega,by omega,hK _ ((ch.getD i 0).toNat % L.length) (Nat.mod_lt _ h0) (by rfl) (by rfl) (by rfl) (by rfl)⟩
 ·have d:decide ((i:Int)<(ch.length:Int))=false:=decide_eq_false h
  simp only[go_sem,Za,Zb,kont_eq,f2,f10,hc.isSl,lc,d]
  exact hK _ 0 h0 (by simp only[go_sem,Za,Zb,kont_eq,f16]) (by rfl) (by rfl) (by rfl)
def LawE3Spec (P:Program) (ι:Ids) (k:FuncId):Prop:=∀(r:RawF) (acts:List (UInt8×UInt8)) (ch:List UInt8) (v w u:Value) (H:Hp),TabOk ι H->RawFV H v r->SlE enc8 2 H w acts->SlR H u (w8 ch)->CallsM P k #[v,w,u] H fun x H'=>x=.bool true/\Keep (fun _=>False) H H'
theorem leend_ok (hk:FnIs P k (c_leend ι) r_leend 3) (c:LEnC P ι):LawE3Spec P ι k:=by
 intro r acts ch v w cv H hT hv hw hch
 obtain⟨Q,hQ⟩:∃Q:Value->Hp->Prop,Q=fun x H'=>x=.bool true/\Keep (fun _=>False) H H':=⟨_,rfl⟩
 rw[<-hQ]
 have hvr:=hv
 obtain⟨h0,ro,be,di,sa,mo,el,rfl,_⟩:=hv
 refine calls_of_vc hk (args:=[_,_,_]) (by simp) ?_
 unfold c_leend r_leend kA kB kF kC kD ke kH kK kL kM kO kQ kR kS kT kU kV kY kZ
 simp-implicitDefEqProofs only[go_sem,↓reduceIte,Za,Zb,Zc,reduceCtorEq]
 refine kont_new fun H1 b2 e1 z1 B1 K1=>?_
 have B1':Bl H1 b2 [.int .u8 (r.n:Int),ro,be,di,sa,mo,el]:=B1
 simp-implicitDefEqProofs only[go_sem,↓reduceIte,Za,Zb,Zc,reduceCtorEq]
 refine(c.aw H1 (hT.keep K1)).mono ?_
 rintro x H2 ⟨rfl,K2⟩
 have K02:=K1.trans K2
 have B12:=K2.bl B1' (by simp)
 rw[kont_eq]
 simp-implicitDefEqProofs only[go_sem,↓reduceIte,Za,Zb,Zc,reduceCtorEq,Bool.not_true,B12.ldNO 7 rfl]
 refine(c.play r acts _ w H2 (hT.keep K02) (RawFV.keep0 hvr K02) (hw.keep0 K02)).mono ?_
 rintro x H3 ⟨rp,sv,rfl,K3,hc⟩
 have K03:=K02.trans K3
 have hcs:∃cs:List Value,sv=.agg cs.toArray/\cs.length=7/\(cs.all fun v=>v.oneCell')=true/\∀x∈cs,isSl x:=by
  rcases hc with⟨_,_,hR⟩|⟨rb,st,_,hP⟩
  ·exact hR.cs
  ·exact hP.ref.cs
 obtain⟨cs,rfl,hcl,hc1,hcs⟩:=hcs
 rw[kont_eq]
 simp-implicitDefEqProofs only[go_sem,↓reduceIte,Za,Zb,Zc,reduceCtorEq]
 refine kont_new fun H4 b8 e4 z4 B4 K4=>?_
 have B4':Bl H4 b8 [.slice none 0 0,.slice none 0 0,.slice none 0 0,.slice none 0 0,.slice none 0 0,.slice none 0 0,.slice none 0 0]:=B4
 have t8:=B4'.okNA (o:=0) (n:=7) (by simp)
 simp-implicitDefEqProofs only[go_sem,↓reduceIte,Za,Zb,Zc,reduceCtorEq,t8,hcl]
 refine⟨all1_of hc1,?_⟩
 rw[kont_eq]
 have KS:Keep (fun q=>q=b8) H4 (stNA H4 ⟨b8,0,none⟩ cs):=(Keep.refl _ _).stNA _ (.inl rfl)
 generalize stNA H4 ⟨b8,0,none⟩ cs=H5 at KS⊢
 have s3:=K3.size
 have K35:Keep (fun _=>False) H3 H5:=K4.trans' KS fun q hq e=>by omega
 have K05:=K03.trans K35
 rcases hc with⟨_,rfl,hR⟩|⟨rb,st,rfl,hP⟩
 ·simp-implicitDefEqProofs only[go_sem,↓reduceIte,Za,Zb,Zc,reduceCtorEq,kont_eq]
  rw[hQ]
  exact⟨rfl,K05⟩
 have hP5:=hP.keep0 K35
 have h5:=mkF_le5 r
 have hel:=el_len r
 have hok:=mkF_ok r
 have e00:((0:Int)==0)=true:=rfl
 have out:∀(g:Fr) (A:Hp) (rb:Nat) (st:List Int),g 7=.pointer (some ⟨rb,0,none⟩)->RnI r A rb st->0∉st->Keep (fun _=>False) H A->vc P (c_eeF ι) (retQ [.t 6] Q) g A:=fun g A rb st g7 hI hz KA=>by
  unfold c_eeF kA kB kF kJ kS kT kY
  have hsl:=hI.ok.1
  simp-implicitDefEqProofs only[go_sem,↓reduceIte,Za,Zb,Zc,reduceCtorEq,g7]
  refine(c.fin.1 _ _ st rb A hI.run (by omega)).mono ?_
  rintro y A1 ⟨⟨b,rfl,hb⟩,rfl⟩
  have hb:=hb.2 hz
  subst hb
  rw[kont_eq]
  simp-implicitDefEqProofs only[go_sem,↓reduceIte,Za,Zb,Zc,reduceCtorEq,g7]
  refine(c.pln.1 (mkF r) ((masksF r).map bt) st rb A1 (hT.keep KA) hI.run (goodP_mk r) (solB_mk r hI.ok)).mono ?_
  rintro y A2 ⟨J2,hy⟩
  rw[sol_cmp hsl (masksF_ok r),cmp_head hsl hz hI.ne]at hy
  have hy:SlR A2 y (iL st):=hy
  rw[kont_eq]
  simp-implicitDefEqProofs only[go_sem,↓reduceIte,Za,Zb,Zc,reduceCtorEq,g7]
  refine(c.stf.1 _ _ st rb A2 (hI.run.keep0 J2) (by omega)).mono ?_
  rintro y2 A3 ⟨O3,o3,J3⟩
  rw[kont_eq]
  simp-implicitDefEqProofs only[go_sem,↓reduceIte,Za,Zb,Zc,reduceCtorEq]
  refine(c.eqI st st y y2 A3 (hy.keep J3 (by simp)) O3.sl (by omega)).mono ?_
  rintro y3 A4 ⟨rfl,rfl⟩
  have hd:decide (st=st)=true:=decide_eq_true rfl
  rw[kont_eq]
  simp-implicitDefEqProofs only[go_sem,↓reduceIte,Za,Zb,Zc,reduceCtorEq,hd,g7]
  refine(c.rdy.1 (mkF r) ((masksF r).map bt) st rb A4 (hT.keep ((KA.trans J2).trans J3)) (hI.run.keep0 (J2.trans J3)) hok (by omega)).mono ?_
  rintro y4 A5 ⟨O5,J5⟩
  rw[rdyL_full hsl (by omega) hz]at O5
  have ly:lenV y4=0:=O5.len
  rw[kont_eq]
  simp-implicitDefEqProofs only[go_sem,↓reduceIte,Za,Zb,Zc,reduceCtorEq,O5.isSl,ly,Int.natCast_zero,e00]
  rw[hQ]
  exact⟨rfl,((KA.trans J2).trans J3).trans J5⟩
 simp-implicitDefEqProofs only[go_sem,↓reduceIte,Za,Zb,Zc,reduceCtorEq]
 refine vc_loop [41,11,45,46,47,48,13,53,54,55,56,15,69,6,16,73,17,18,98,7,10] rfl (fun n f A=>∃(i rb:Nat) (st:List Int),n+i=5/\f 10=.int .i64 (i:Int)/\f 7=.pointer (some ⟨rb,0,none⟩)/\RnI r A rb st/\zerN st<=n/\Keep (fun _=>False) H5 A) 5
  ⟨0,rb,st,rfl,by simp-implicitDefEqProofs only[go_sem,↓reduceIte,Za,Zb,Zc,reduceCtorEq,kont_eq],by simp-implicitDefEqProofs only[go_sem,↓reduceIte,Za,Zb,Zc,reduceCtorEq,kont_eq],⟨hP5.run,hP5.ok,hP5.ne⟩,by
   unfold zerN
   have:=List.countP_le_length (p:=fun u:Int=>decide (u=0)) (l:=st)
   have:=hP.ok.1
   omega,Keep.refl _ _⟩ ?_
 rintro n f A ⟨i,rb',st',hni,f10,f7,hI,hz,KA⟩
 simp-implicitDefEqProofs only[go_sem,↓reduceIte,Za,Zb,Zc,reduceCtorEq,kont_eq]at f10 f7
 have K0A:=K05.trans KA
 have hsl:=hI.ok.1
 by_cases hi:(i:Int)<5
 case neg=>
  have d:decide ((i:Int)<5)=false:=decide_eq_false hi
  have hz0:0∉st':=zerN_0.1 (by omega)
  simp-implicitDefEqProofs only[go_sem,↓reduceIte,Za,Zb,Zc,reduceCtorEq,f10,d]
  exact out _ A rb' st' (by simp-implicitDefEqProofs only[go_sem,↓reduceIte,Za,Zb,Zc,reduceCtorEq,kont_eq,f7]) hI hz0 K0A
 have d:decide ((i:Int)<5)=true:=decide_eq_true hi
 simp-implicitDefEqProofs only[go_sem,↓reduceIte,Za,Zb,Zc,reduceCtorEq,f10,f7,d]
 refine(c.fin.1 _ _ st' rb' A hI.run (by omega)).mono ?_
 rintro y A1 ⟨⟨b,rfl,hb⟩,rfl⟩
 rw[kont_eq]
 cases b with
 |true=>
  simp-implicitDefEqProofs only[go_sem,↓reduceIte,Za,Zb,Zc,reduceCtorEq,Bool.not_true]
  exact out _ A1 rb' st' (by simp-implicitDefEqProofs only[go_sem,↓reduceIte,Za,Zb,Zc,reduceCtorEq,kont_eq,f7]) hI (hb.1 rfl) K0A
 |false=>
 have hz0:0∈st':=by
  apply Classical.byContradiction
  intro h
  have:=hb.2 h
  cases this
 simp-implicitDefEqProofs only[go_sem,↓reduceIte,Za,Zb,Zc,reduceCtorEq,Bool.not_false,f7]
 refine(c.rdy.1 (mkF r) ((masksF r).map bt) st' rb' A1 (hT.keep K0A) hI.run hok (by omega)).mono ?_
 rintro yl A2 ⟨O2,J2⟩
 obtain⟨rl,hrl⟩:∃rl,rl=rdyL (mkF r).st.length (mkF r).be (doneP st' st'.length):=⟨_,rfl⟩
 have hrn:=rdyL_len (mkF r).st.length (mkF r).be (doneP st' st'.length)
 have hne:=actL_ne r hI.ok hI.ne hz0
 rw[<-hrl]at O2 hrn hne
 have inl:(iN rl).length=rl.length:=iN_len rl
 rw[kont_eq]
 simp-implicitDefEqProofs only[go_sem,↓reduceIte,Za,Zb,Zc,reduceCtorEq,O2.isSl,O2.len,inl]
 refine vc_range rl.length [48,13,53,54,55,56,15,11,47] rfl rfl (by omega) (by rfl) (by rfl) (fun j g X=>∃lv,g 11=lv/\OwE pE 2 X lv (actL (mkF r) (masksF r) st' (rl.take j))/\(∀q,ownB lv q->A2.size<=q)/\Keep (fun _=>False) A2 X) ⟨.slice none 0 0,by simp-implicitDefEqProofs only[go_sem,↓reduceIte,Za,Zb,Zc,reduceCtorEq,kont_eq],OwE.nil _,fun q h=>h.elim,Keep.refl _ _⟩ ?_ ?_
 ·rintro j g X hj gj gm ⟨lv,g11,OX,oX,KX⟩
  simp-implicitDefEqProofs only[go_sem,↓reduceIte,Za,Zb,Zc,reduceCtorEq,kont_eq]at gj gm g11
  have sX:=KX.size
  have KHX:=K0A.trans (J2.trans KX)
  obtain⟨pb,po,pc,hse,hcj⟩:=iL_cell (l:=nI rl) (O2.keep KX (by simp)) (i:=j) (by rw[nI_len];exact hj)
  obtain⟨k,hk'⟩:∃k,k=rl[j]:=⟨_,rfl⟩
  have hgj:(nI rl).getD j 0=((k:Nat):Int):=by simp[nI,List.getD_eq_getElem?_getD,hj,hk']
  rw[hgj]at hcj
  rw[nI_len]at hse
  have hkn:k<st'.length:=by
   have:k∈rdyL (mkF r).st.length (mkF r).be (doneP st' st'.length):=by rw[<-hrl,hk'];exact List.getElem_mem _
   have:=(mem_rdyL.1 this).1
   omega
  simp-implicitDefEqProofs only[go_sem,↓reduceIte,Za,Zb,Zc,reduceCtorEq,gj,hse,tn_cast,hcj]
  refine⟨by omega,?_⟩
  simp-implicitDefEqProofs only[go_sem,↓reduceIte,Za,Zb,Zc,reduceCtorEq,f7]
  refine(c.usr (mkF r) ((masksF r).map bt) st' rb' k X (hT.keep KHX) (hI.run.keep0 (J2.trans KX)) hok (by omega) hkn (goodP_mk r) (solB_set r hI.ok)).mono ?_
  rintro ul X1 ⟨OU,oU,J3⟩
  rw[wan_usr hI.ok (by omega) (masksF_ok r)]at OU
  have hwl:=wanL_len (mkF r) (masksF r) st' k 6
  have iul:(iN (wanL (mkF r) (masksF r) st' k 6)).length=(wanL (mkF r) (masksF r) st' k 6).length:=iN_len _
  have s3:=J3.size
  rw[kont_eq]
  simp-implicitDefEqProofs only[go_sem,↓reduceIte,Za,Zb,Zc,reduceCtorEq,OU.isSl,OU.len,iul]
  have hal:=actL_len (F:=mkF r) (ms:=masksF r) (st:=st') (rl.take j)
  have htk:(rl.take j).length<=5:=by rw[List.length_take];omega
  refine vc_range (wanL (mkF r) (masksF r) st' k 6).length [56,15,11,55] rfl rfl (by omega) (by rfl) (by rfl) (fun i2 g2 Y=>∃lv2,g2 11=lv2/\OwE pE 2 Y lv2 (actL (mkF r) (masksF r) st' (rl.take j)++(actS (mkF r) (masksF r) st' k).take i2)/\(∀q,ownB lv2 q->A2.size<=q)/\(∀q,slB ul q->¬ownB lv2 q)/\SlR Y ul (iN (wanL (mkF r) (masksF r) st' k 6))/\Keep (fun _=>False) A2 Y) ⟨lv,by simp-implicitDefEqProofs only[go_sem,↓reduceIte,Za,Zb,Zc,reduceCtorEq,kont_eq,g11],by rw[List.take_zero,List.append_nil];exact OX.keep J3 (by simp),oX,fun q hq h=>by have:=oU q hq;have:=OX.old h;omega,OU,KX.trans J3⟩ ?_ ?_
  ·rintro i2 g2 Y hi2 gi2 gm2 ⟨lv2,g112,OY,oY,nY,OUY,KY⟩
   simp-implicitDefEqProofs only[go_sem,↓reduceIte,Za,Zb,Zc,reduceCtorEq,kont_eq]at gi2 gm2 g112
   have sY:=KY.size
   obtain⟨qb,qo,qc,hue,huj⟩:=iL_cell (l:=nI (wanL (mkF r) (masksF r) st' k 6)) OUY (i:=i2) (by rw[nI_len];exact hi2)
   obtain⟨u,hu⟩:∃u,u=(wanL (mkF r) (masksF r) st' k 6)[i2]:=⟨_,rfl⟩
   have hgu:(nI (wanL (mkF r) (masksF r) st' k 6)).getD i2 0=((u:Nat):Int):=by simp[nI,List.getD_eq_getElem?_getD,hi2,hu]
   rw[hgu]at huj
   rw[nI_len]at hue
   simp-implicitDefEqProofs only[go_sem,↓reduceIte,Za,Zb,Zc,reduceCtorEq,kont_eq,gi2,hue,tn_cast,huj]
   refine⟨by omega,?_⟩
   have has:(actS (mkF r) (masksF r) st' k).length=(wanL (mkF r) (masksF r) st' k 6).length:=by unfold actS;rw[List.length_map]
   refine eeA_ok (k:=k) (u:=u) (by simp-implicitDefEqProofs only[go_sem,↓reduceIte,Za,Zb,Zc,reduceCtorEq,kont_eq,g112]) (by rfl) (by rfl) OY (by rw[List.length_append,List.length_take];omega) fun v' Y' O' o' K'=>?_
   simp-implicitDefEqProofs only[go_sem,↓reduceIte,Za,Zb,Zc,reduceCtorEq,kont_eq]
   rw[<-hue]
   refine⟨v',rfl,?_,fun q hq=>by rcases o' q hq with h|h;exact oY q h;omega,fun q hq h=>by rcases o' q h with h|h;exact nY q hq h;(have:=OUY.old hq;omega),OUY.keep K' fun q hq=>nY q hq,KY.trans' K' fun q hq h=>by have:=oY q h;omega⟩
   have e:(actS (mkF r) (masksF r) st' k).take (i2+1)=(actS (mkF r) (masksF r) st' k).take i2++[(((k:Nat):Int),((u:Nat):Int))]:=by
    rw[List.take_succ_eq_append_getElem (by rw[has];exact hi2)]
    congr 1
    simp[actS,hu]
   rw[e,<-List.append_assoc];exact O'
  ·rintro g2 Y gi2 ⟨lv2,g112,OY,oY,nY,OUY,KY⟩
   simp-implicitDefEqProofs only[go_sem,↓reduceIte,Za,Zb,Zc,reduceCtorEq,kont_eq]at g112
   have has:(actS (mkF r) (masksF r) st' k).length=(wanL (mkF r) (masksF r) st' k 6).length:=by unfold actS;rw[List.length_map]
   have e4:(actS (mkF r) (masksF r) st' k).take (wanL (mkF r) (masksF r) st' k 6).length=actS (mkF r) (masksF r) st' k:=by rw[<-has,List.take_length]
   rw[e4]at OY
   simp-implicitDefEqProofs only[go_sem,↓reduceIte,Za,Zb,Zc,reduceCtorEq,kont_eq]
   refine⟨lv2,g112,?_,oY,KY⟩
   have e:actL (mkF r) (masksF r) st' (rl.take (j+1))=actL (mkF r) (masksF r) st' (rl.take j)++actS (mkF r) (masksF r) st' k:=by
    unfold actL
    rw[take_snoc' hj,List.flatMap_append,<-hk']
    simp
   rw[e];exact OY
 ·rintro g X gj ⟨lv,g11,OX,oX,KX⟩
  simp-implicitDefEqProofs only[go_sem,↓reduceIte,Za,Zb,Zc,reduceCtorEq,kont_eq]at g11
  rw[List.take_length]at OX
  have KHX:=K0A.trans (J2.trans KX)
  have hal:=actL_len (F:=mkF r) (ms:=masksF r) (st:=st') rl
  have hln:0<(actL (mkF r) (masksF r) st' rl).length:=by
   cases h:actL (mkF r) (masksF r) st' rl with
   |nil=>exact absurd h hne
   |cons a l=>simp
  have d0:(((actL (mkF r) (masksF r) st' rl).length:Int)==0)=false:=by rw[beq_eq_false_iff_ne];omega
  simp-implicitDefEqProofs only[go_sem,↓reduceIte,Za,Zb,Zc,reduceCtorEq,g11,OX.sl.isSl,OX.sl.len,d0]
  refine eeC_ok (i:=i) (cv:=cv) (ch:=ch) (by rfl) (by simp-implicitDefEqProofs only[go_sem,↓reduceIte,Za,Zb,Zc,reduceCtorEq,kont_eq,f10]) (by simp-implicitDefEqProofs only[go_sem,↓reduceIte,Za,Zb,Zc,reduceCtorEq,kont_eq,g11]) (by rfl) (hch.keep KHX (by simp)) OX.sl hln (by omega) fun g3 j hj q16 q7 q10 q11=>?_
  simp-implicitDefEqProofs only[go_sem,↓reduceIte,Za,Zb,Zc,reduceCtorEq,kont_eq]at q7 q10 q11
  rw[f7]at q7
  rw[f10]at q10
  rw[g11]at q11
  refine eeG_ok c (r:=r) (st:=st') (rb:=rb') (i:=j) q7 q11 q16 (hT.keep KHX) (hI.keep0 (J2.trans KX)) OX.sl hj (fun x hx=>actL_mem hx) fun X' rbn stn hRn hzn KX'=>?_
  have e0':((0:Int)!=0)=false:=rfl
  have wi:IntKind.i64.wrap ((i:Int)+1)=(i:Int)+1:=IntWalk.i64_in _ (by omega)
  simp-implicitDefEqProofs only[go_sem,↓reduceIte,Za,Zb,Zc,reduceCtorEq,kont_eq,e0',q10,wi]
  exact⟨n -1,by omega,i+1,rbn,stn,by omega,rfl,rfl,hRn,by omega,(KA.trans (J2.trans KX)).trans KX'⟩
end Go.Mg
namespace Go.Mg
open Go Go.RowKit
set_option linter.all false
set_option maxRecDepth 100000
end Go.Mg
namespace Go.Mg
open Go Go.RowKit
set_option linter.all false
set_option maxRecDepth 100000
end Go.Mg

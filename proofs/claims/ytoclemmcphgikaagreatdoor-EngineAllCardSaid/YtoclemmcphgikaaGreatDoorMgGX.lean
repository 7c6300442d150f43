/- Several texts of ours in one. No conditions. -/
import Derived.Test.YtoclemmcphgikaaGreatDoorMgGT
import Derived.Test.YtoclemmcphgikaaGreatDoorMgGI
open Nat renaming reduceEqDiff→Za,reduceAdd→Zb,reduceMul→Zc
namespace Go.Mg
open Go Go.RowKit
set_option linter.all false
set_option maxRecDepth 100000
end Go.Mg
namespace Go.Mg
open Go Go.RowKit
set_option linter.all false
set_option maxRecDepth 100000
variable {st:List Int} {r:RawF} {H:Hp} {rb:Nat}
theorem zerN_0:zerN st=0↔0∉st:=by
 unfold zerN
 rw[List.countP_eq_zero]
 constructor
 ·intro h hm
  have:=h 0 hm
  simp at this
 ·intro h u hu
  simp only[decide_eq_true_eq]
  rintro rfl
  exact h hu
structure RnI (r:RawF) (H:Hp) (rb:Nat) (st:List Int):Prop where
 run:RunV H rb (mkF r) ((masksF r).map bt) st
 ok:okS (mkF r).st.length st
 ne:cmpV (mkF r) (masksF r) st≠[]
theorem RnI.keep0 {H':Hp} (h:RnI r H rb st) (hk:Keep (fun _=>False) H H'):RnI r H' rb st:=⟨h.run.keep0 hk,h.ok,h.ne⟩
theorem gra_1 {P:Program} {ι:Ids} {k:FuncId} (hg:EGraSpec P ι k) {step user:Int} (hT:TabOk ι H) (hI:RnI r H rb st) (h1:rAskF (mkF r) (masksF r) st step user=1):
  CallsM P k #[.pointer (some ⟨rb,0,none⟩),.int .i64 step,.int .i64 user] H fun x H'=>∃rb' j,step=((j:Nat):Int)/\x=.tuple #[.pointer (some ⟨rb',0,none⟩),.int .i64 0]/\RnI r H' rb' (st.set j user)/\zerN (st.set j user)+1=zerN st/\j<st.length/\st.getD j 0=0/\Keep (fun _=>False) H H'/\∀W:Nat->Prop,(∀q,W q->q<H.size)->RunA W H rb->RunA W H' rb':=by
 have h5:=mkF_le5 r
 have hsl:=hI.ok.1
 have hel:=el_len r
 refine(hg.1 (mkF r) ((masksF r).map bt) st rb step user H hT hI.run (mkF_ok r) (by omega) (goodP_mk r) (solB_set r hI.ok)).mono ?_
 rintro x H' ⟨K,hx⟩
 obtain⟨j,rfl,j1,j2,j3,j4,j5,j6,j7,j8⟩:=ask_1 hI.ok (by omega) h1
 have hg0:graE (mkF r) ((masksF r).map bt) st (j:Int) user=0:=by
  unfold graE
  rw[if_neg (by omega),ask_ref hI.ok (by omega) (masksF_ok r),if_pos h1]
 rcases hx with⟨h,_⟩|⟨_,rb',rfl,hR,hW⟩
 ·exact absurd hg0 h
 ·rw[Int.toNat_natCast]at hR
  exact⟨rb',j,rfl,rfl,⟨hR,j8,j7⟩,zerN_set (by omega) j3 (by omega),by omega,j3,K,hW⟩
end Go.Mg
namespace Go.Mg
open Go Go.RowKit
set_option linter.all false
set_option maxRecDepth 100000
def c_eaW (ι:Ids):S:=
 (.dr (kW 82 (.mv (.v 15)) (kW 84 (.mv (.v 14)) (kW 85 (.mv (.v 11)) (kW 86 (.mv (.v 14)) (kW 87 (.is 1 (.t 85) (.t 86)) (kW 88 (.ld (.t 87)) (.wcons (.t 83) .none (.rd (.m (.ldn 7 (.v 8)))) (.wcons (.t 89) .none (.call (ι.f 399) [.t 83,.t 84,.t 88]) (kX 7 (.mv (.t 82)) (.wcons .no .none (.stn 7 (.v 8) (.t 89)) .done .wnil)) .wnil) .wnil))))))))
def c_eaR (ι:Ids):S:=
 (.dr (kW 47 (.fa 0 (.v 8)) (kW 48 (.m (.ldn 5 (.t 47))) (kW 49 (.m (.ldn 7 (.v 8))) (.wcons (.t 50) .none (.call (ι.f 398) [.t 49]) (.wcons (.t 51) .none (.call (ι.f 308) [.t 48,.t 50]) (kX 13 (.mv (.t 51)) .done) .wnil) .wnil)))))
def c_eaC (ι:Ids):S:=
 (kY [kA 55 12,kA 56 2,kL 57 56,kV 58 (.cm .lss .i64 (.t 55) (.t 57))] (.ite (.v 58) (.reg [kA 59 13,kA 60 2,kA 61 12,kI 62 1 60 61,kD 63 62,kU 64 (.ii .i64 (.t 63)),kA 65 13,kL 66 65,kU 67 (.dv .rem .i64 (.t 64) (.t 66)),kI 68 1 59 67,kD 69 68,kB 14 69]) .skip))
def c_eaF (ι:Ids):S:=
 (kY [kA 91 7,.e (.t 92) (.call (ι.f 381) [.t 91]),kF 93 92,kS 94 93 true 7,.ge (.t 95) (.t 93) true (.call (ι.f 379) [.t 94]),kS 96 93 true 11,.ge (.t 97) (.t 93) true (.call (ι.f 165) [.t 95,.t 96]),kJ 98 93 97,kB 6 98] .ret)
def c_leall (ι:Ids):S:=
 kY [kR 3 (ι.t 288) 0,kC 6 (.bool false)] (.seq (kY [.e (.t 17) (.call (ι.f 407) []),kV 18 (.not (.t 17))] (.ite (.v 18) (kY [kC 6 (.bool false)] .ret) .skip)) (kY [kM 20 7 3,.e (.t 21) (.call (ι.f 401) [.t 20]),kF 19 21,kQ 22 19 0,kQ 23 19 1,kQ 24 19 2,.e (.v 8) (.new (ι.t 396) #[kZ,kZ,kZ,kZ,kZ,kZ,kZ]),kB 7 22,.e .no (.stn 7 (.v 8) (.t 23)),kB 9 24] (.seq (kY [kA 25 9,kU 26 (.not (.t 25)),kF 27 26,kS 28 27 false 7,kT 29 27 false (.m (.eqn .ptr false (.t 28))),kV 30 (.pick (.t 27) (.c (.bool true)) (.t 29))] (.ite (.v 30) (kY [kA 31 9,kB 6 31] .ret) .skip)) (kY [kM 32 7 8,.e (.t 33) (.call (ι.f 397) [.t 32]),kB 10 33] (kY [kA 34 10,kA 35 1,kU 36 (.ii .i64 (.t 35)),kA 37 10,kL 38 37,kU 39 (.dv .rem .i64 (.t 36) (.t 38)),kI 40 1 34 39,kD 41 40,kB 11 41] (.seq (kY [kA 42 11,kV 43 (.m (.lenl (.t 42))),kC 44 (.int .i64 0)] (.blk 0 (.loop (kY [kH 45 44 43] (.seq (.ite (.v 45) .skip (.exit 0)) (.seq (.blk 1 (kY [kA 46 44,kB 12 46] (.seq (c_eaR ι) (kY [kA 52 13,kU 53 (.is 1 (.t 52) (.c (.int .i64 0))),kD 54 53,kB 14 54] (.seq (c_eaC ι) (kY [kA 71 7,kA 72 14,kA 73 11,kA 74 14,kI 75 1 73 74,kD 76 75,.e (.t 77) (.call (ι.f 388) [.t 71,.t 72,.t 76]),kF 70 77,kQ 78 70 0,kQ 79 70 1,kB 15 78,kB 16 79] (.seq (kY [kA 80 16,kV 81 (.cm .neq .i64 (.t 80) (.c (.int .i64 0)))] (.ite (.v 81) (kY [kC 6 (.bool false)] .ret) .skip)) (c_eaW ι)))))))) (.reg [ke 90 44,kB 44 90]))))))) (c_eaF ι)))))))
def r_leall:List RV:=[.t 6]
structure LAlC (P:Program) (ι:Ids):Prop where
 aw:EAwkSpec P ι (ι.f 407)
 beg:LBegSpec P ι (ι.f 401)
 cmp:RCmpSpec P (ι.f 397)
 don:RDonSpec P (ι.f 398)
 rdy:RRdySpec P (ι.f 308)
 wth:RWthSpec P (ι.f 399)
 gra:EGraSpec P ι (ι.f 388)
 fin:EFinSpec P (ι.f 381)
 stf:EStaffSpec P (ι.f 379)
 eqI:IEqSpec P (ι.f 165)
variable {P:Program} {ι:Ids} {r:RawF} {st:List Int} {b8:Nat} {cs:List Value} {f:Fr} {A:Hp} {Qb:Ex->Fr->Hp->Prop}
theorem eaR_ok (c:LAlC P ι) (f8:f 8=.pointer (some ⟨b8,0,none⟩)) (B8:Bl A b8 cs) (hR:RefRun A (.agg cs.toArray) (mkF r) (masksF r) st) (hS:okS (mkF r).st.length st)
  (hK:∀v A',OwS A' v (iN (rdyL (mkF r).st.length (mkF r).be (doneP st st.length)))->Keep (fun _=>False) A A'->Qb .n (upd f 13 v) A'):vc P (c_eaR ι) Qb f A:=by
 have h5:=mkF_le5 r
 have hG:=mkF_good r
 have hl:=hG.lim
 unfold tooL at hl
 have hsl:=hS.1
 have hR0:=hR
 obtain⟨s,b,d,a,m,ev,sv,e,q1,q2,q3⟩:=hR
 have e:cs=[s,b,d,a,m,ev,sv]:=by simpa using congrArg (fun v:Value=>match v with|.agg c=>c.toList|_=>[]) e
 subst e
 have l5:ldNA A ⟨b8,0,none⟩ 5=some #[s,b,d,a,m]:=by
  have:=B8.ldNA (o:=0) (n:=5) (by simp)
  simpa using this
 unfold c_eaR kW kX
 refine vc_drk (fun _=>False) ?_
 simp only[go_sem,Za,Zb,kont_eq,f8,l5,ldNO_ptr,B8.ldNO 7 rfl]
 refine(c.don (mkF r) (masksF r) st _ A hR0 (by omega)).mono ?_
 rintro y A1 ⟨rfl,K1⟩
 rw[kontK_eq]
 refine⟨K1,?_⟩
 simp only[go_sem,Za,Zb,kont_eq]
 refine(c.rdy (mkF r) _ (dnM st st.length) A1 (q1.keep0 K1) (by omega) (by omega) fun x hx=>(hG.be x hx).1).mono ?_
 rintro y A2 ⟨O2,o2,K2⟩
 rw[dnM_bt (by omega)]at O2
 rw[kontK_eq]
 refine⟨K2,?_⟩
 simp only[go_sem,Za,Zb,kont_eq]
 exact hK y A2 O2 (K1.trans K2)
theorem eaC_ok {i:Nat} {L:List Nat} {lv cv:Value} {ch:List UInt8} (f2:f 2=cv) (f12:f 12=.int .i64 (i:Int)) (f13:f 13=lv) (f14:f 14=.int .i64 ((L.getD 0 0:Nat):Int)) (hc:SlR A cv (w8 ch)) (hL:SlR A lv (iN L)) (h0:0<L.length) (hl:L.length<=1000)
  (hK:∀(g:Fr) (k:Nat),k∈L->g 14=.int .i64 (k:Int)->g 7=f 7->g 8=f 8->g 11=f 11->g 44=f 44->Qb .n g A):vc P (c_eaC ι) Qb f A:=by
 unfold c_eaC kA kB kD kI kL kU kV kY
 have lc:lenV cv=ch.length:=by rw[hc.len,w8_len]
 have hm:L.getD 0 0∈L:=by rw[List.getD_eq_getElem?_getD,List.getElem?_eq_getElem h0];exact List.getElem_mem _
 by_cases h:(i:Int)<(ch.length:Int)
 ·have d:decide ((i:Int)<(ch.length:Int))=true:=decide_eq_true h
  obtain⟨pb,po,pc,hwe,-,hcl⟩:=hc.cells (by intro e;have:=congrArg List.length e;rw[w8_len,List.length_nil]at this;omega)
  have hci:=hcl i (by rw[w8_len];omega)
  rw[w8_get _ _ (by omega)]at hci
  rw[w8_len]at hwe
  have w1:IntKind.i64.wrap (((ch.getD i 0).toNat:Nat):Int)=(((ch.getD i 0).toNat:Nat):Int):=IntWalk.i64_in _ (by have:=(ch.getD i 0).toNat_lt;omega)
  have m1:(((ch.getD i 0).toNat:Nat):Int).tmod (L.length:Int)=(((ch.getD i 0).toNat % L.length:Nat):Int):=tmod_nat _ _
  obtain⟨j,hj⟩:∃j,j=(ch.getD i 0).toNat % L.length:=⟨_,rfl⟩
  have hjl:j<L.length:=by rw[hj];exact Nat.mod_lt _ h0
  rw[<-hj]at m1
  obtain⟨qb,qo,qc,hse,hcj⟩:=iL_cell (l:=nI L) hL (i:=j) (by rw[nI_len];exact hjl)
  have hgj:(nI L).getD j 0=((L[j]:Nat):Int):=by simp[nI,List.getD_eq_getElem?_getD,hjl]
  rw[hgj]at hcj
  rw[nI_len]at hse
  have lL:lenV lv=L.length:=by rw[hL.len,iN_len]
  simp only[go_sem,Za,Zb,kont_eq,f2,f12,f13,hc.isSl,lc,d,hwe,tn_cast,hci,w1,hse,m1,hcj]
  exact⟨by omega,by omega,by omega,hK _ L[j] (List.getElem_mem _) (by rfl) (by rfl) (by rfl) (by rfl) (by rfl)⟩
 ·have d:decide ((i:Int)<(ch.length:Int))=false:=decide_eq_false h
  simp only[go_sem,Za,Zb,kont_eq,f2,f12,hc.isSl,lc,d]
  exact hK _ (L.getD 0 0) hm (by simp only[go_sem,Za,Zb,kont_eq,f14]) (by rfl) (by rfl) (by rfl) (by rfl)
theorem eaW_ok (c:LAlC P ι) {t:List Int} {rbn k:Nat} {tv:Value} (f8:f 8=.pointer (some ⟨b8,0,none⟩)) (f15:f 15=.pointer (some ⟨rbn,0,none⟩)) (f14:f 14=.int .i64 (k:Int)) (f11:f 11=tv) (ht:SlR A tv (iL t)) (B8:Bl A b8 cs) (hcs:∀x∈cs,isSl x)
  (hR:RefRun A (.agg cs.toArray) (mkF r) (masksF r) st) (hS:okS (mkF r).st.length st) (hk:k<st.length) (htl:t.length=st.length) (hI:RnI r A rbn (st.set k (t.getD k 0))) (hA:RunA (fun q=>q=b8) A rbn)
  (hK:∀A' cs',cs'.length=7->(∀x∈cs',isSl x)->Bl A' b8 cs'->RefRun A' (.agg cs'.toArray) (mkF r) (masksF r) (st.set k (t.getD k 0))->RnI r A' rbn (st.set k (t.getD k 0))->RunA (fun q=>q=b8) A' rbn->SlR A' tv (iL t)->Keep (fun q=>q=b8) A A'->Qb .n (upd f 7 (.pointer (some ⟨rbn,0,none⟩))) A'):vc P (c_eaW ι) Qb f A:=by
 have h5:=mkF_le5 r
 have hsl:=hS.1
 obtain⟨pb,po,pc,hte,hct⟩:=iL_cell ht (i:=k) (by omega)
 have hpb:pb≠b8:=ht.apart (iL_nsl _) B8 hcs pb (by rw[hte];exact⟨rfl,by omega⟩)
 have hcl:cs.length=7:=by
  obtain⟨c2,e,h,_⟩:=hR.cs
  have:cs=c2:=by simpa using congrArg (fun v:Value=>match v with|.agg c=>c.toList|_=>[]) e
  rw[this];exact h
 unfold c_eaW kW kX
 refine vc_drk (fun q=>q=b8) ?_
 simp only[go_sem,Za,Zb,kont_eq,f8,f15,f14,f11,hte,tn_cast,hct,B8.ldNO 7 hcl.symm]
 refine⟨by omega,by omega,Keep.refl _ _,(c.wth (mkF r) (masksF r) st k _ _ A hR (by omega) hk).mono ?_⟩
 rintro y X ⟨hy,KX⟩
 obtain⟨c2,rfl,hcl2,hc12,hcs2⟩:=hy.cs
 rw[kontK_eq]
 have BX:=KX.bl B8 (by simp)
 have t8:=BX.okNA (o:=0) (n:=7) (by omega)
 have KS:Keep (fun q=>q=b8) X (stNA X ⟨b8,0,none⟩ c2):=(Keep.refl _ _).stNA _ (.inl rfl)
 have C8:Bl (stNA X ⟨b8,0,none⟩ c2) b8 c2:=by
  obtain⟨y0,y1,y2,y3,y4,y5,y6,rfl⟩:∃y0 y1 y2 y3 y4 y5 y6,c2=[y0,y1,y2,y3,y4,y5,y6]:=by
   match c2,hcl2 with
   |[y0,y1,y2,y3,y4,y5,y6],_=>exact⟨_,_,_,_,_,_,_,rfl⟩
  obtain⟨z0,z1,z2,z3,z4,z5,z6,rfl⟩:∃y0 y1 y2 y3 y4 y5 y6,cs=[y0,y1,y2,y3,y4,y5,y6]:=by
   match cs,hcl with
   |[y0,y1,y2,y3,y4,y5,y6],_=>exact⟨_,_,_,_,_,_,_,rfl⟩
  exact BX.stNA 0 _
 have hW:SlW X (fun q=>q=b8):=SlW.one BX hcs
 have hA':=hA.keep0 hI.run.lt KX
 refine⟨KX.any,?_⟩
 simp only[go_sem,Za,Zb,kont_eq,f8,t8]
 refine⟨⟨hcl2,all1_of hc12⟩,KS,?_⟩
 exact hK _ c2 hcl2 hcs2 C8 (hy.keepW hW KS) ⟨(hI.run.keep0 KX).keepW hA' hW KS,hI.ok,hI.ne⟩ (hA'.keepW (by have:=hI.run.lt;have:=KX.size;omega) hA'.1 KS) ((ht.keep KX (by simp)).keepW (iL_nsl _) hW KS) (KX.any.trans KS)
def LawEAllSpec (P:Program) (ι:Ids) (k:FuncId):Prop:=∀(r:RawF) (which:Nat) (ch:List UInt8) (v u:Value) (H:Hp),TabOk ι H->RawFV H v r->which<65536->SlR H u (w8 ch)->CallsM P k #[v,.int .u16 which,u] H fun x H'=>x=.bool true/\Keep (fun _=>False) H H'
theorem leall_ok {k:FuncId} (hk:FnIs P k (c_leall ι) r_leall 3) (c:LAlC P ι):LawEAllSpec P ι k:=by
 intro r which ch v cv H hT hv hwh hch
 obtain⟨Q,hQ⟩:∃Q:Value->Hp->Prop,Q=fun x H'=>x=.bool true/\Keep (fun _=>False) H H':=⟨_,rfl⟩
 rw[<-hQ]
 have hvr:=hv
 obtain⟨h0,ro,be,di,sa,mo,el,rfl,_⟩:=hv
 refine calls_of_vc hk (args:=[_,_,_]) (by simp) ?_
 unfold c_leall r_leall kA kB kF kC kD ke kH kI kL kM kQ kR kS kT kU kV kY kZ
 simp-implicitDefEqProofs only[go_sem,↓reduceIte,Za,Zb,Zc,reduceCtorEq]
 refine kont_new fun H1 b3 e1 z1 B1 K1=>?_
 have B1':Bl H1 b3 [.int .u8 (r.n:Int),ro,be,di,sa,mo,el]:=B1
 simp-implicitDefEqProofs only[go_sem,↓reduceIte,Za,Zb,Zc,reduceCtorEq]
 refine(c.aw H1 (hT.keep K1)).mono ?_
 rintro x H2 ⟨rfl,K2⟩
 have K02:=K1.trans K2
 have B12:=K2.bl B1' (by simp)
 rw[kont_eq]
 simp-implicitDefEqProofs only[go_sem,↓reduceIte,Za,Zb,Zc,reduceCtorEq,Bool.not_true,B12.ldNO 7 rfl]
 refine(c.beg r _ H2 (hT.keep K02) (RawFV.keep0 hvr K02)).mono ?_
 rintro x H3 ⟨rp,sv,rfl,hR,K3,hcase⟩
 obtain⟨cs,rfl,hcl,hc1,hcs⟩:=hR.cs
 have K03:=K02.trans K3
 rw[kont_eq]
 simp-implicitDefEqProofs only[go_sem,↓reduceIte,Za,Zb,Zc,reduceCtorEq]
 refine kont_newstP cs rp rfl (by rfl) (by rfl) hcl rfl hc1 fun H4 b8 e4 z4 B4 K4=>?_
 have K04:=K03.trans K4
 rcases hcase with⟨_,rfl⟩|⟨hne,rb,rfl,hV⟩
 ·simp-implicitDefEqProofs only[go_sem,↓reduceIte,Za,Zb,Zc,reduceCtorEq,kont_eq]
  rw[hQ]
  exact⟨rfl,K04⟩
 have h5:=mkF_le5 r
 have hz:=zerS_okS r
 have s3:=K3.size
 have hA4:RunA (fun q=>q=b8) H4 rb:=(hV.newer (W:=fun q=>q=b8) fun q e=>by omega).keep0 hV.lt K4
 simp-implicitDefEqProofs only[go_sem,↓reduceIte,Za,Zb,Zc,reduceCtorEq,B4.ldNO 7 hcl.symm]
 refine(c.cmp (mkF r) (masksF r) (zerS r) _ H4 (hR.keep0 K4) (smG_mk r hz.1)).mono ?_
 rintro y H5 ⟨⟨ws,O5,R5,-,-⟩,K5⟩
 have hwl:=R5.len
 have hw0:0<ws.length:=by
  rw[hwl]
  cases h:cmpV (mkF r) (masksF r) (zerS r)with
  |nil=>exact absurd h hne
  |cons a l=>simp
 obtain⟨x,hx⟩:∃x,x=which % ws.length:=⟨_,rfl⟩
 have hxl:x<ws.length:=by rw[hx];exact Nat.mod_lt _ hw0
 obtain⟨pb,po,pc,hwe,-,hld⟩:=O5.sl.cells (by intro e;rw[e]at hw0;simp at hw0)
 have hld:=hld x hxl
 rw[List.getElem?_eq_getElem hxl]at hld
 have hti:=R5.at_ x hxl (by omega)
 obtain⟨t,htt⟩:∃t,t=(cmpV (mkF r) (masksF r) (zerS r))[x]'(by omega):=⟨_,rfl⟩
 rw[<-htt]at hti
 have htm:t∈cmpV (mkF r) (masksF r) (zerS r):=by rw[htt];exact List.getElem_mem _
 obtain⟨⟨htl,htr⟩,htv,-⟩:=mem_cmp.1 htm
 obtain⟨tv,htv'⟩:∃tv,tv=ws[x]:=⟨_,rfl⟩
 rw[<-htv']at hti hld
 have w1:IntKind.i64.wrap (which:Int)=(which:Int):=IntWalk.i64_in _ (by omega)
 have m1:((which:Int)).tmod (ws.length:Int)=(x:Int):=by rw[hx];exact tmod_nat _ _
 rw[kont_eq]
 simp-implicitDefEqProofs only[go_sem,↓reduceIte,Za,Zb,Zc,reduceCtorEq,hwe,w1,m1,tn_cast,hld]
 refine⟨by omega,by omega,?_⟩
 have K05:=K04.trans K5
 have hti0:=hti
 simp-implicitDefEqProofs only[go_sem,↓reduceIte,Za,Zb,Zc,reduceCtorEq,hti.isSl,hti.len,iL_len]
 refine vc_range t.length [45,12,13,14,58,15,16,81,6,7,44] rfl rfl (by omega) (by rfl) (by rfl) (fun i g A=>∃rb st cs,g 7=.pointer (some ⟨rb,0,none⟩)/\cs.length=7/\(∀x∈cs,isSl x)/\Bl A b8 cs/\RefRun A (.agg cs.toArray) (mkF r) (masksF r) st/\RnI r A rb st/\RunA (fun q=>q=b8) A rb/\t∈cmpV (mkF r) (masksF r) st/\zerN st+i=t.length/\SlR A tv (iL t)/\Keep (fun q=>q=b8) H5 A)
  ⟨rb,zerS r,cs,by simp-implicitDefEqProofs only[go_sem,↓reduceIte,Za,Zb,Zc,reduceCtorEq,kont_eq],hcl,hcs,K5.bl B4 (by simp),(hR.keep0 K4).keep0 K5,⟨(hV.keep0 K4).keep0 K5,hz,hne⟩,hA4.keep0 (by have:=hV.lt;have:=K4.size;omega) K5,htm,by
   have:zerN (zerS r)=nuF r:=by
    unfold zerN zerS
    rw[List.countP_replicate,if_pos (by simp)]
   rw[this,htl,mkF_len];rfl,hti,Keep.refl _ _⟩ ?_ ?_
 ·rintro i g A hi gi gn ⟨rb',st,cs',g7,hcl',hcs',BA,hRA,hIA,hAA,htA,hzA,hvA,KA⟩
  simp-implicitDefEqProofs only[go_sem,↓reduceIte,Za,Zb,Zc,reduceCtorEq,kont_eq]at gi gn g7
  have hsl:=hIA.ok.1
  have K0A:Keep (fun _=>False) H A:=K05.trans' KA fun q hq e=>by have:=K03.size;omega
  obtain⟨z,hzf⟩:∃z,st.findIdx? (fun u=>decide (u=0))=some z:=by
   cases h:st.findIdx? (fun u=>decide (u=0))with
   |none=>
    rw[List.findIdx?_eq_none_iff]at h
    have:zerN st=0:=zerN_0.2 fun hm=>by have:=h 0 hm;simp at this
    omega
   |some k=>exact⟨k,rfl⟩
  have hrd:=rdy_first (fun x hx=>mkF_be hx) hsl (by omega) hzf
  obtain⟨rl,hrl⟩:∃rl,rl=rdyL (mkF r).st.length (mkF r).be (doneP st st.length):=⟨_,rfl⟩
  have hrn:=rdyL_len (mkF r).st.length (mkF r).be (doneP st st.length)
  rw[<-hrl]at hrd hrn
  have hr0:0<rl.length:=List.length_pos_of_mem hrd
  simp-implicitDefEqProofs only[go_sem,↓reduceIte,Za,Zb,Zc,reduceCtorEq,gi]
  refine eaR_ok c (r:=r) (st:=st) (b8:=b8) (cs:=cs') (by rfl) BA hRA hIA.ok fun lv A1 O1 J1=>?_
  rw[<-hrl]at O1
  obtain⟨qb,qo,qc,hse,hcj⟩:=iL_cell (l:=nI rl) O1.sl (i:=0) (by rw[nI_len];exact hr0)
  have hg0:(nI rl).getD 0 0=((rl.getD 0 0:Nat):Int):=by simp[nI,List.getD_eq_getElem?_getD,hr0]
  rw[hg0,Nat.add_zero]at hcj
  rw[nI_len]at hse
  simp-implicitDefEqProofs only[go_sem,↓reduceIte,Za,Zb,Zc,reduceCtorEq,hse,hcj,Nat.add_zero]
  rw[<-hse]
  refine⟨by omega,?_⟩
  have K0A1:=K0A.trans J1
  refine eaC_ok (i:=i) (L:=rl) (cv:=cv) (lv:=lv) (ch:=ch) (by rfl) (by rfl) (by rfl) (by rfl) (hch.keep K0A1 (by simp)) O1.sl hr0 (by omega) fun g3 k hk q14 q7 q8 q11 q44=>?_
  simp-implicitDefEqProofs only[go_sem,↓reduceIte,Za,Zb,Zc,reduceCtorEq,kont_eq]at q7 q8 q11 q44
  rw[g7]at q7
  rw[gi]at q44
  have hIA1:=hIA.keep0 J1
  obtain⟨ha1,ha2⟩:=ask_fill hIA.ok (by omega) htA (by rw[<-hrl];exact hk)
  have hkn:k<st.length:=by
   have:k∈rdyL (mkF r).st.length (mkF r).be (doneP st st.length):=by rw[<-hrl];exact hk
   have:=(mem_rdyL.1 this).1
   omega
  have hvA1:=hvA.keep J1 (by simp)
  obtain⟨tb,to,tc,hte,htc⟩:=iL_cell hvA1 (i:=k) (by omega)
  rw[hte]at q11
  simp-implicitDefEqProofs only[go_sem,↓reduceIte,Za,Zb,Zc,reduceCtorEq,q7,q14,q11,tn_cast,htc]
  refine⟨by omega,(gra_1 c.gra (hT.keep K0A1) hIA1 ha1).mono ?_⟩
  rintro y A2 ⟨rbn,j,hj,rfl,hIn,hzn,hjl,hj0,J2,hWn⟩
  have hkj:k=j:=by omega
  subst hkj
  rw[kont_eq]
  have e00:((0:Int)!=0)=false:=rfl
  simp-implicitDefEqProofs only[go_sem,↓reduceIte,Za,Zb,Zc,reduceCtorEq,e00]
  have BA1:=J1.bl BA (by simp)
  have BA2:=J2.bl BA1 (by simp)
  have hA2:RunA (fun q=>q=b8) A2 rbn:=hWn _ (fun q e=>by rw[e];exact BA1.lt) (hAA.keep0 hIA.run.lt J1)
  refine eaW_ok c (r:=r) (st:=st) (t:=t) (b8:=b8) (rbn:=rbn) (k:=k) (cs:=cs') (tv:=tv) (by simp-implicitDefEqProofs only[go_sem,↓reduceIte,Za,Zb,Zc,reduceCtorEq,kont_eq,q8]) (by rfl) (by simp-implicitDefEqProofs only[go_sem,↓reduceIte,Za,Zb,Zc,reduceCtorEq,kont_eq,q14]) (by simp-implicitDefEqProofs only[go_sem,↓reduceIte,Za,Zb,Zc,reduceCtorEq,kont_eq,q11,hte]) (hvA1.keep J2 (by simp)) BA2 hcs' ((hRA.keep0 J1).keep0 J2) hIA.ok hkn (by omega) hIn hA2 fun A3 c3 hc3 hs3 B3' hR3 hI3 hA3 ht3 K3'=>?_
  have w44:IntKind.i64.wrap ((i:Int)+1)=(i:Int)+1:=IntWalk.i64_in _ (by omega)
  simp-implicitDefEqProofs only[go_sem,↓reduceIte,Za,Zb,Zc,reduceCtorEq,kont_eq]
  exact⟨rbn,_,c3,rfl,hc3,hs3,B3',hR3,hI3,hA3,ha2,by omega,ht3,((KA.trans J1.any).trans J2.any).trans K3'⟩
 ·rintro g A gi ⟨rb',st,cs',g7,hcl',hcs',BA,hRA,hIA,hAA,htA,hzA,hvA,KA⟩
  simp-implicitDefEqProofs only[go_sem,↓reduceIte,Za,Zb,Zc,reduceCtorEq,kont_eq]at g7
  have hsl:=hIA.ok.1
  have K0A:Keep (fun _=>False) H A:=K05.trans' KA fun q hq e=>by have:=K03.size;omega
  have hz0:0∉st:=zerN_0.1 (by omega)
  have hts:=cmp_full hsl hz0 htA
  subst hts
  unfold c_eaF kA kB kF kJ kS kY
  simp-implicitDefEqProofs only[go_sem,↓reduceIte,Za,Zb,Zc,reduceCtorEq,g7]
  refine(c.fin.1 _ _ t rb' A hIA.run (by omega)).mono ?_
  rintro y A1 ⟨⟨b,rfl,hb⟩,rfl⟩
  have hb:=hb.2 hz0
  subst hb
  rw[kont_eq]
  simp-implicitDefEqProofs only[go_sem,↓reduceIte,Za,Zb,Zc,reduceCtorEq,g7]
  refine(c.stf.1 _ _ t rb' A1 hIA.run (by omega)).mono ?_
  rintro y2 A2 ⟨O2,o2,J2⟩
  rw[kont_eq]
  simp-implicitDefEqProofs only[go_sem,↓reduceIte,Za,Zb,Zc,reduceCtorEq]
  refine(c.eqI t t y2 tv A2 O2.sl (hvA.keep J2 (by simp)) (by omega)).mono ?_
  rintro y3 A3 ⟨rfl,rfl⟩
  have hd:decide (t=t)=true:=decide_eq_true rfl
  rw[kont_eq]
  simp-implicitDefEqProofs only[go_sem,↓reduceIte,Za,Zb,Zc,reduceCtorEq,kont_eq,hd]
  rw[hQ]
  exact⟨rfl,K0A.trans J2⟩
end Go.Mg
namespace Go.Mg
open Go Go.RowKit
set_option linter.all false
set_option maxRecDepth 100000
end Go.Mg

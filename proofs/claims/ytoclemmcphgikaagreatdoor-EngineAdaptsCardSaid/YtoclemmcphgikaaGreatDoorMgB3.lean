/- sets of small numbers: the members one after the other. -/
import Derived.Test.YtoclemmcphgikaaGreatDoorMgB2
import Derived.Test.YtoclemmcphgikaaGreatDoorMgRf4
open Nat renaming reduceEqDiff→Za,reduceAdd→Zb,reduceMul→Zc
namespace Go.Mg
open Go Go.RowKit
set_option linter.all false
set_option maxRecDepth 100000
def c_ball (ι:Ids):S:=
 kY [kR 1 (ι.t 128) 0,kV 2 (.mv (.c .nilFunc))] (kY [kU 3 (.m (.mkf (ι.f 136) [] [.v 1])),kB 2 3] .ret)
def r_ball:List RV:=[.t 2]
def c_ball1 (ι:Ids):S:=
 kY [kG 5 0 1,kV 6 (.ld (.t 5)),kO 7 6,kC 8 (.int .i64 0)] (.blk 0 (.loop (kY [kH 9 8 7] (.seq (.ite (.v 9) .skip (.exit 0)) (.seq (.blk 1 (kY [kA 10 8,kK 11 1 6 8,kD 12 11,kB 3 10,kB 4 12] (.blk 2 (.loop (.seq (kY [kA 13 4,kV 14 (.cm .neq .u64 (.t 13) (.c (.int .u64 0)))] (.ite (.v 14) .skip (.exit 2))) (.seq (.blk 3 (kY [kA 19 0,kA 20 3,kU 21 (.ar .mul .i64 (.c (.int .i64 64)) (.t 20)),kA 22 4,.e (.t 23) (.call (ι.f 126) [.t 22]),kU 24 (.ar .add .i64 (.t 21) (.t 23)),.e (.t 25) (.cally (.t 19) [.t 24]),kV 26 (.not (.t 25))] (.ite (.v 26) .ret .skip))) (.reg [kA 15 4,kA 16 4,kU 17 (.ar .sub .u64 (.t 16) (.c (.int .u64 1))),kU 18 (.bt .and .u64 (.t 15) (.t 17)),kB 4 18]))))))) (.reg [ke 27 8,kB 8 27]))))))
def r_ball1:List RV:=[]
def c_blist (ι:Ids):S:=
 kY [kR 1 (ι.t 128) 0,kC 2 (kZ)] (kY [kM 5 1 1,.e (.t 6) (.call (ι.f 135) [.t 5]),.e (.t 7) (.mkS (ι.t 26) 1 8 #[.int .i64 0] (.c (.int .i64 0)) (.t 6)),.e (.v 3) (.new (ι.t 138) #[kZ]),.e .no (.st (.v 3) (.t 7))] (.seq (kY [kM 8 1 1,.e (.v 9) (.call (ι.f 137) [.t 8])] (.blk 0 (.rf 16 (.v 9) 10 4 (.blk 1 (.reg [kU 11 (.ld (.v 3)),kA 12 4,.e (.t 13) (.bldF (ι.t 26) 1 1 [.t 12]),.e (.t 14) (.app false (ι.t 26) 1 8 #[.int .i64 0] (.t 11) (.t 13)),.e .no (.st (.v 3) (.t 14))]))))) (kY [kU 15 (.ld (.v 3)),kB 2 15] .ret)))
def r_blist:List RV:=[.t 2]
def allV (k b:Nat):Value:=.func (.func k) #[] #[.pointer (some ⟨b,0,none⟩)]
def BAllSpec (P:Program) (k k1:FuncId):Prop:=∀(v:Value) (H:Hp),CallsM P k #[.agg #[v]] H fun r H'=>r=allV k1 H.size/\Bl H' H.size [v]/\Keep (fun _=>False) H H'/\H'.size=H.size+1
variable {P:Program} {ι:Ids} {k:FuncId} {p:Nat->Bool} {n:Nat}
theorem ball_ok (hk:FnIs P k (c_ball ι) r_ball 1):BAllSpec P k (ι.f 136):=by
 intro v H
 refine calls_of_vc hk (args:=[_]) (by simp) ?_
 unfold c_ball r_ball kB kR kU kV kY
 simp only[go_sem,zS,↓reduceIte,Za,Zb,Zc,reduceCtorEq,cells_agg]
 refine kont_new fun H1 b1 e1 z1 B1 K1=>?_
 subst e1
 simp only[go_sem,zS,↓reduceIte,Za,Zb,Zc,reduceCtorEq,kont_eq]
 exact⟨rfl,B1,K1,z1⟩
def memL (p:Nat->Bool):List Value:=(mems p).map fun n:Nat=>Value.int .i64 (n:Int)
theorem memL_len (p:Nat->Bool):(memL p).length=cn 4096 p:=by simp[memL,mems_length]
theorem memL_get (h:n<4096) (hp:p n=true):(memL p).getD (cn n p) undef=.int .i64 (n:Int):=by
 have:=filter_get p 4096 n h hp
 unfold memL mems
 rw[List.getD_eq_getElem?_getD,List.getElem?_map,this];rfl
theorem cn_lt {N:Nat} (h:n<N) (hp:p n=true):cn n p<cn N p:=by
 have h1:cn (n+1) p=cn n p+1:=by rw[cn_succ,if_pos hp]
 have h2:cn (n+1) p<=cn N p:=by
  obtain⟨d,rfl⟩:∃d,N=n+1+d:=⟨N -(n+1),by omega⟩
  rw[cn_add_n (n+1) d];omega
 omega
theorem bits_and' (x y:UInt64):bits .and .u64 (x.toNat:Int) (IntKind.u64.wrap ((y.toNat:Int) -1))=((x&&&(y -1)).toNat:Int):=by
 have:IntKind.u64.wrap ((y.toNat:Int) -1)=((y -1).toNat:Int):=by
  have:=y.toNat_lt
  rw[IntKind.wrap_u64,UInt64.toNat_sub]
  have e:(1:UInt64).toNat=1:=rfl
  rw[e];omega
 rw[this];exact bits_and _ _
theorem ball1_ok (hk:FnIsY P k (c_ball1 ι) r_ball1 2) (ht:TzSpec P ι (ι.f 126)) {v:Value} {W:List UInt64} {b:Nat}:
  IterC P k #[.pointer (some ⟨b,0,none⟩)] (memL p) (fun H=>TabOk ι H/\Bl H b [v]/\SetV H v W p):=by
 intro l J K hY hG H h0 w hw
 have main:CallsM P k #[.func (.yield l) #[] #[],.pointer (some ⟨b,0,none⟩)] H fun r H'=>J (memL p).length H'\/K H':=by
  refine calls_of_vcY hk (args:=[_,_]) (by simp) ?_
  unfold c_ball1 r_ball1 kA kB kC kD ke kG kH kK kO kU kV kY
  obtain⟨_,B0,V0⟩:=hG 0 H h0
  have hlen:=V0.len
  simp only[go_sem,zS,↓reduceIte,Za,Zb,Zc,reduceCtorEq,kont_eq,B0.cell,V0.sl.isSl,V0.sl.len,w64_len]
  have hall:(memL p).length=cn (64*W.length) p:=by rw[memL_len,V0.count,mems_length]
  refine vc_loop [9,3,4,14,26,8] rfl (fun n f H'=>∃i,i<=W.length/\n=W.length -i/\f 8=.int .i64 i/\J (cn (64*i) p) H') W.length
   ⟨0,by omega,by omega,rfl,h0⟩ ?_
  rintro n g H1 ⟨i,hi,rfl,hf8,hJ⟩
  simp only[go_sem,zS,↓reduceIte,Za,Zb,Zc,reduceCtorEq,kont_eq]at hf8
  simp only[go_sem,zS,↓reduceIte,Za,Zb,Zc,reduceCtorEq,kont_eq,hf8]
  refine iteV_dec (fun hlt=>?_) (fun hge=>?_)
  ·have hlt:i<W.length:=by omega
   obtain⟨_,_,V1⟩:=hG _ _ hJ
   obtain⟨bb,o,c,rfl,-,hc⟩:=V1.sl.cells (by intro e;have h:=congrArg List.length e;rw[w64_len,List.length_nil]at h;omega)
   rw[w64_len]at hc
   have hci:=hc i hlt
   rw[w64_get _ _ hlt]at hci
   simp only[go_sem,zS,↓reduceIte,Za,Zb,Zc,reduceCtorEq,kont_eq,hf8,w64_len,tn_cast,Nat.mul_one,hci]
   refine⟨by omega,?_⟩
   refine vc_loop [4,14,26] rfl (fun n f H'=>∃(t:Nat) (y:UInt64),t<=64/\n=64 -t/\f 4=.int .u64 y.toNat/\(∀q<64,bt y q=(bt (W.getD i 0) q&&decide (t<=q)))/\J (cn (64*i+t) p) H') 64
    ⟨0,W.getD i 0,by omega,by omega,by simp only[go_sem,zS,↓reduceIte,Za,Zb,Zc,reduceCtorEq,kont_eq],fun q _=>by simp,hJ⟩ ?_
   rintro n g2 H2 ⟨t,y,ht64,rfl,hf4,hy,hJ2⟩
   simp only[go_sem,zS,↓reduceIte,Za,Zb,Zc,reduceCtorEq,kont_eq]at hf4
   have hf3:∀a,over (upd (upd a 3 (Value.int .i64 (i:Int))) 4 (.int .u64 ((W.getD i 0).toNat:Int))) g2 [4,14,26] 3=.int .i64 (i:Int):=fun a=>by simp only[go_sem,zS,↓reduceIte,Za,Zb,Zc,reduceCtorEq,kont_eq]
   simp only[go_sem,zS,↓reduceIte,Za,Zb,Zc,reduceCtorEq,kont_eq,hf4]
   obtain⟨T2,_,V2⟩:=hG _ _ hJ2
   have hbit:∀q<64,p (64*i+q)=bt (W.getD i 0) q:=fun q hq=>by rw[<-V2.is,memb_at _ _ _ hq]
   by_cases h0:y=0
   ·subst h0
    have e0:(((0:UInt64).toNat:Int)!=0)=false:=rfl
    simp only[go_sem,zS,↓reduceIte,Za,Zb,Zc,reduceCtorEq,kont_eq,e0]
    have hnone:∀q,t<=q->q<64->p (64*i+q)=false:=fun q h1 h2=>by
     rw[hbit q h2]
     have:=hy q h2
     rw[bt_zero]at this
     simpa[h1]using this.symm
    have hcn:cn (64*(i+1)) p=cn (64*i+t) p:=cn_range (by omega) fun q h1 h2=>by
     have:=hnone (q -64*i) (by omega) (by omega)
     rwa [show 64*i+(q -64*i)=q by omega]at this
    simp(disch:=omega)only[go_sem,zS,↓reduceIte,Za,Zb,Zc,reduceCtorEq,kont_eq,hf8,IntWalk.i64_in]
    exact⟨W.length -(i+1),by omega,i+1,by omega,rfl,by simp,by rw[hcn];exact hJ2⟩
   ·have e0:((y.toNat:Int)!=0)=true:=by
     simp only[bne_iff_ne,ne_eq]
     intro e
     exact h0 (UInt64.toNat_inj.1 (by simpa using e))
    obtain⟨l1,l2,l3⟩:=lowB_spec h0
    have hlow:=hy _ l1
    rw[l2]at hlow
    simp only[Bool.and_eq_true,decide_eq_true_eq,Bool.true_eq]at hlow
    obtain⟨g1,g2'⟩:=hlow
    have w1:IntKind.i64.wrap (64*(i:Int))=((64*i:Nat):Int):=by rw[show(64*(i:Int))=((64*i:Nat):Int) by omega];exact IntWalk.i64_in _ ⟨by omega,by omega⟩
    simp only[go_sem,zS,↓reduceIte,Za,Zb,Zc,reduceCtorEq,kont_eq,e0,w1]
    refine(ht y H2 T2 h0).mono ?_
    rintro r H3 ⟨rfl,rfl⟩
    have w2:IntKind.i64.wrap (((64*i:Nat):Int)+((lowB y:Nat):Int))=((64*i+lowB y:Nat):Int):=by rw[show(((64*i:Nat):Int)+((lowB y:Nat):Int))=((64*i+lowB y:Nat):Int) by omega];exact IntWalk.i64_in _ ⟨by omega,by omega⟩
    have hp:p (64*i+lowB y)=true:=by rw[hbit _ l1];exact g1
    have hcn:cn (64*i+lowB y) p=cn (64*i+t) p:=cn_range (by omega) fun q h1 h2=>by
     have e:=hy (q -64*i) (by omega)
     rw[l3 (q -64*i) (by omega)]at e
     have e2:=hbit (q -64*i) (by omega)
     rw[show 64*i+(q -64*i)=q by omega]at e2
     rw[e2]
     have:t<=q -64*i:=by omega
     simpa[this]using e.symm
    rw[kont_eq]
    simp only[go_sem,zS,↓reduceIte,Za,Zb,Zc,reduceCtorEq,kont_eq,w2]
    refine⟨l,rfl,?_⟩
    have hy1:=hY (cn (64*i+t) p) H3 (by rw[hall,<-hcn];exact cn_lt (by omega) hp) hJ2
    rw[<-hcn,memL_get (by omega) hp]at hy1
    refine hy1.mono ?_
    rintro r H4 (⟨rfl,hJ4⟩|⟨rfl,hK⟩)
    ·have hcl:=bits_and' y y
     simp only[go_sem,zS,↓reduceIte,Za,Zb,Zc,reduceCtorEq,kont_eq,hf4,hcl]
     refine⟨64 -(lowB y+1),by omega,lowB y+1,clrB y,by omega,rfl,rfl,fun q hq=>?_,?_⟩
     ·rw[bt_clr h0,hy q hq]
      by_cases e:q=lowB y
      ·subst e;simp
      ·by_cases e1:t<=q
       ·by_cases e2:lowB y+1<=q
        ·simp[e1,e2,e]
        ·have e3:=l3 q (by omega)
         rw[hy q hq]at e3
         have:bt (W.getD i 0) q=false:=by simpa[e1]using e3
         rw[this];simp[e2]
       ·have:¬lowB y+1<=q:=by omega
        simp[e1,this]
     ·rw[show 64*i+(lowB y+1)=64*i+lowB y+1 by omega,cn_succ,if_pos hp];exact hJ4
    ·simp only[go_sem,zS,↓reduceIte,Za,Zb,Zc,reduceCtorEq,kont_eq]
     exact .inr hK
  ·have:i=W.length:=by omega
   subst this
   exact .inl (by rw[hall];exact hJ)
 refine(main w hw).mono ?_
 rintro e w' ⟨r,rfl,hR,hs⟩
 exact⟨r,rfl,hs,hR⟩
def BListSpec (P:Program) (ι:Ids) (k:FuncId):Prop:=∀(p:Nat->Bool) (x:Value) (H:Hp),TabOk ι H->SetM H x p->CallsM P k #[x] H fun r H'=>OwS H' r (memL p)/\(∀k,ownB r k->H.size<=k)/\Keep (fun _=>False) H H'
theorem blist_ok {g:FuncId} (hk:FnIsR P k (c_blist ι) r_blist 1 16) (hl:BLenSpec P (ι.f 135)) (ha:BAllSpec P (ι.f 137) (ι.f 136)) (hb1:bodyOk P (ι.f 136)=true)
  (h1:∀{v:Value} {W:List UInt64} {p:Nat->Bool} {b:Nat},IterC P (ι.f 136) #[.pointer (some ⟨b,0,none⟩)] (memL p) (fun H=>TabOk ι H/\Bl H b [v]/\SetV H v W p)):BListSpec P ι k:=by
 intro p x H hT hx
 obtain⟨v,W,rfl,hv⟩:=hx
 refine calls_of_vcR hk (args:=[_]) (by simp) ?_
 unfold c_blist r_blist kA kB kC kM kR kU kY kZ
 simp only[go_sem,zS,↓reduceIte,Za,Zb,Zc,reduceCtorEq,cells_agg]
 refine kont_new fun H1 b1 e1 z1 B1 K1=>?_
 simp only[go_sem,zS,↓reduceIte,Za,Zb,Zc,reduceCtorEq,kont_eq,B1.ldNO 1 rfl]
 refine(hl p _ H1 ⟨v,W,rfl,hv.keep K1 (by simp)⟩).mono ?_
 rintro r H2 ⟨rfl,K2⟩
 have hml:(mems p).length<=4096:=by rw[mems_length];exact cn_le _ _
 rw[kont_eq]
 simp only[go_sem,zS,↓reduceIte,Za,Zb,Zc,reduceCtorEq,tn_cast]
 refine⟨⟨by omega,by omega,by unfold maxLen;omega⟩,?_⟩
 refine kont_news fun H3 b3 e3 z3 B3 K3=>?_
 simp only[go_sem,zS,↓reduceIte,Za,Zb,Zc,reduceCtorEq]
 refine kont_new fun H4 b4 e4 z4 B4 K4=>?_
 have s1:=K1.size
 have s2:=K2.size
 have s3:=K3.size
 have s4:=K4.size
 have hst4:=B4.okSt (o:=0) (by simp)
 have B5:=B4.setc 0 (.slice (some ⟨b3,0,none⟩) 0 (mems p).length)
 have K5:Keep (fun k=>k=b4) H4 (setc H4 ⟨b4,0,none⟩ (.slice (some ⟨b3,0,none⟩) 0 (mems p).length)):=(Keep.refl _ _).setc _ (.inl rfl)
 simp only[go_sem,zS,↓reduceIte,Za,Zb,Zc,reduceCtorEq,kont_eq,hst4]
 generalize setc H4 ⟨b4,0,none⟩ (.slice (some ⟨b3,0,none⟩) 0 (mems p).length)=H5 at B5 K5⊢
 have s5:=K5.size
 have B15:Bl H5 b1 [v]:=K5.bl (K4.bl (K3.bl (K2.bl B1 (by simp)) (by simp)) (by simp)) (by omega)
 have O5:OwS H5 (.slice (some ⟨b3,0,none⟩) 0 (mems p).length) []:=by
  have h:=B3
  rw[rep_one]at h
  exact OwS.bl (K5.bl (K4.bl h (by simp)) (by omega)) rfl (by omega) (by simp) rfl
 have K15:Keep (fun _=>False) H H5:=((((K1.trans K2).trans K3).trans K4)).to_old K5 (by omega)
 simp only[go_sem,zS,↓reduceIte,Za,Zb,Zc,reduceCtorEq,kont_eq,B15.ldNO 1 rfl]
 refine(ha v H5).mono ?_
 rintro r H6 ⟨rfl,B6,K6,z6⟩
 have s6:=K6.size
 simp only[go_sem,zS,↓reduceIte,Za,Zb,Zc,reduceCtorEq,kont_eq]
 have B5':Bl H5 b4 [.slice (some ⟨b3,0,none⟩) 0 (mems p).length]:=B5
 have hTf:=fun{A:Hp} {X:Nat->Prop} (K:Keep X H A) (hx:∀k,k<H.size->¬X k)=>hT.keep (K.none hx)
 refine vc_rf (fun k=>k=b4\/k=b3) (fun k A=>∃vs,Bl A b4 [vs]/\OwS A vs ((memL p).take k)/\∀q,ownB vs q->q=b3\/H6.size+2<=q) (fun _ _=>False) (G:=fun H=>TabOk ι H/\Bl H H5.size [v]/\SetV H v W p) (by simp only[go_sem,zS,↓reduceIte,Za,Zb,Zc,reduceCtorEq,kont_eq];rfl) hb1 h1 (by omega) ?_ ?_ ?_ ?_ ?_ ?_ ?_
 ·rintro k A KA _
  have K:Keep (fun _=>False) H A:=(K15.trans K6).trans' KA (fun i hi h=>by omega)
  exact⟨hT.keep K,KA.bl B6 (by omega),hv.keep K (by simp)⟩
 ·intro A KA hs
  have KA5:=K6.trans KA
  exact⟨_,KA5.bl B5' (by simp),O5.keep KA5 (by simp),fun q h=>.inl h⟩
 ·rintro k A A2 hs KA ⟨vs,g1,g2,g3⟩ K
  refine⟨vs,K.bl g1 (by omega),g2.keep K (fun q hq e=>?_),g3⟩
  rcases g3 q hq with h|h<;>omega
 ·rintro e A A2 hs KA h;exact h.elim
 ·rintro k A hk KA hs ⟨vs,g1,g2,g3⟩
  have hkl:k<(memL p).length:=hk
  generalize hxv:(memL p).getD k undef=xv
  obtain⟨n,rfl⟩:∃n:Nat,xv=.int .i64 (n:Int):=by
   rw[<-hxv,List.getD_eq_getElem?_getD,List.getElem?_eq_getElem hkl]
   refine⟨(mems p)[k]'(by simpa[memL]using hkl),?_⟩
   simp[memL]
  have hst:=g1.okSt (o:=0) (by simp)
  simp only[go_sem,zS,↓reduceIte,Za,Zb,Zc,reduceCtorEq,zF,g1.cell]
  refine kont_news fun A1 c1 f1 y1 C1 L1=>?_
  have t1:=L1.size
  have hlen:((memL p).take k).length+1<=4096:=by
   rw[List.length_take,memL_len]
   have:=cn_le 4096 p
   have:=memL_len p
   omega
  simp only[go_sem,zS,↓reduceIte,Za,Zb,Zc,reduceCtorEq,kont_eq]
  have hC:Bl A1 c1 [.int .i64 (n:Int)]:=C1
  refine app_sl (l:=(memL p).take k) (m:=[.int .i64 (n:Int)]) (g2.keep L1 (by simp)) (SlR.bl hC 0 1 1 (by omega) (by simp)) ?_ rfl (by unfold maxLen;simp only[List.length_singleton];omega) (by simp only[List.length_singleton];omega) fun v' A2 O2 M2 N2=>?_
  ·intro y hy;simp at hy;subst hy;rfl
  ·have t2:=M2.size
   have g12:Bl A2 b4 [vs]:=M2.bl (L1.bl g1 (by simp)) (fun h=>by
    rcases g3 _ h with h|h<;>omega)
   have hst2:=g12.okSt (o:=0) (by simp)
   obtain⟨aa,nn,cc,rfl⟩:=O2.shape
   simp only[go_sem,zS,↓reduceIte,Za,Zb,Zc,reduceCtorEq,kont_eq,hst2]
   have C3:=g12.setc 0 (.slice aa nn cc)
   have L3:Keep (fun k=>k=b4) A2 (setc A2 ⟨b4,0,none⟩ (.slice aa nn cc)):=(Keep.refl _ _).setc _ (.inl rfl)
   generalize setc A2 ⟨b4,0,none⟩ (.slice aa nn cc)=A3 at C3 L3⊢
   have htk:(memL p).take (k+1)=(memL p).take k++[.int .i64 (n:Int)]:=by
    rw[List.take_succ_eq_append_getElem hkl]
    congr 1
    rw[<-hxv,List.getD_eq_getElem?_getD,List.getElem?_eq_getElem hkl];rfl
   have own2:∀q,ownB (.slice aa nn cc) q->q=b3\/H6.size+2<=q:=fun q hq=>by
    rcases N2 q hq with h|h
    ·exact g3 q h
    ·omega
   refine⟨?_,_,C3,?_,own2⟩
   ·have M2':Keep (fun b=>(b=b4\/b=b3)\/H6.size+2<=b) A1 A2:=M2.mono fun q _ hq=>by
     rcases g3 q hq with h|h
     ·exact .inl (.inr h)
     ·exact .inr h
    have L3':Keep (fun b=>(b=b4\/b=b3)\/H6.size+2<=b) A2 A3:=L3.mono fun q _ hq=>.inl (.inl hq)
    exact(L1.any.trans M2').trans L3'
   ·rw[htk]
    refine O2.keep L3 (fun q hq e=>?_)
    rcases own2 q hq with h|h<;>omega
 ·rintro A KA hs hd ⟨vs,g1,g2,g3⟩
  rw[List.take_length]at g2
  simp only[go_sem,zS,↓reduceIte,Za,Zb,Zc,reduceCtorEq,kont_eq,g1.cell,List.nodup_cons,List.nodup_nil]
  refine⟨hd,fun A2 ha hb=>?_⟩
  have M:Keep (fun k=>k=H6.size) A A2:=⟨by omega,fun k _ h=>hb k (by simpa using h)⟩
  refine⟨g2.keep M (fun q hq e=>?_),fun q hq=>?_,?_⟩
  ·rcases g3 q hq with h|h<;>omega
  ·rcases g3 q hq with h|h<;>omega
  ·exact((K15.trans K6).trans' KA (fun i hi h=>by omega)).trans' M (fun i hi h=>by omega)
 ·rintro e A _ _ _ h;exact h.elim
end Go.Mg

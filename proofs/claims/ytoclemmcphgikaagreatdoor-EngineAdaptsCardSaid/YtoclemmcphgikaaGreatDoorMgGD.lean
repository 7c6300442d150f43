/- Several texts of ours in one. No conditions. -/
import Derived.Test.YtoclemmcphgikaaGreatDoorMgGA
open Nat renaming reduceEqDiff→Za,reduceAdd→Zb,reduceMul→Zc
namespace Go.Mg
open Go Go.RowKit
set_option linter.all false
set_option maxRecDepth 100000
def c_eusers (ι:Ids):S:=
 kY [kC 4 (.int .i64 0)] (.seq (kY [kA 9 0,kL 10 9,kA 11 1,kV 12 (.cm .neq .i64 (.t 10) (.t 11))] (.ite (.v 12) (kY [kC 4 (.int .i64 1)] .ret) .skip)) (.seq (kY [kV 13 (.mv (.v 0)),kO 14 13,kC 15 (.int .i64 0)] (.blk 0 (.loop (kY [kH 16 15 14] (.seq (.ite (.v 16) .skip (.exit 0)) (.seq (.blk 1 (kY [kK 17 1 13 15,kN 18 1 17,.e (.v 6) (.new (ι.t 128) #[kZ]),.e .no (.stn 1 (.v 6) (.t 18))] (kY [kM 20 1 6,.e (.t 21) (.call (ι.f 134) [.t 20]),kF 19 21,kQ 22 19 0,kQ 23 19 1,kB 7 22,kB 8 23] (kY [kA 24 8,kF 25 24,kS 26 25 true 7,kT 27 25 true (.cm .gtr .i64 (.t 26) (.c (.int .i64 256))),kJ 28 25 27,kF 29 28,kT 30 29 false (.m (.ldn 1 (.v 6))),.ge (.t 31) (.t 29) false (.call (ι.f 130) [.t 30,.c (.int .i64 0)]),kV 32 (.pick (.t 29) (.c (.bool true)) (.t 31))] (.ite (.v 32) (kY [kC 4 (.int .i64 2)] .ret) .skip))))) (.reg [ke 33 15,kB 15 33]))))))) (kY [kC 4 (.int .i64 0)] .ret)))
def r_eusers:List RV:=[.t 4]
def badS (q:Nat->Bool):Prop:=∃u,q u=true/\(u=0\/256<u)
def EUsrSpec (P:Program) (k:FuncId):Prop:=∀(el:List (Nat->Bool)) (vs:List Value) (v:Value) (n:Int) (H:Hp),SlR H v vs->vs.length=el.length->el.length<=1000->(∀i<vs.length,SetM H (.agg #[vs.getD i undef]) (el.getD i fun _=>false))→
 CallsM P k #[v,.int .i64 n] H fun r H'=>∃e:Int,r=.int .i64 e/\Keep (fun _=>False) H H'/\(((el.length:Int)≠n/\e=1)\/((el.length:Int)=n/\((e=2/\∃i,i<el.length/\badS (el.getD i fun _=>false))\/(e=0/\∀i,i<el.length->¬badS (el.getD i fun _=>false)))))
theorem eusers_ok {P:Program} {ι:Ids} {k:FuncId} (hk:FnIs P k (c_eusers ι) r_eusers 2) (hg:BGreatSpec P (ι.f 134)) (hh:HasSpec P (ι.f 130)):EUsrSpec P k:=by
 intro el vs v n H hv hl hll hes
 obtain⟨Q,hQ⟩:∃Q:Value->Hp->Prop,Q=fun r H'=>∃e:Int,r=.int .i64 e/\Keep (fun _=>False) H H'/\(((el.length:Int)≠n/\e=1)\/((el.length:Int)=n/\((e=2/\∃i,i<el.length/\badS (el.getD i fun _=>false))\/(e=0/\∀i,i<el.length->¬badS (el.getD i fun _=>false))))):=⟨_,rfl⟩
 rw[<-hQ]
 refine calls_of_vc hk (args:=[_,_]) (by simp) ?_
 unfold c_eusers r_eusers kA kB kF kC ke kH kK kJ kL kM kN kO kQ kS kT kV kY kZ
 have lv:lenV v=el.length:=by rw[hv.len,hl]
 by_cases h:(el.length:Int)=n
 case neg=>
  have d1:((el.length:Int)!=n)=true:=bne_iff_ne.2 h
  simp-implicitDefEqProofs only[go_sem,↓reduceIte,Za,Zb,Zc,reduceCtorEq,hv.isSl,lv,d1]
  rw[hQ]
  exact⟨1,rfl,Keep.refl _ _,.inl ⟨h,rfl⟩⟩
 have d1:((el.length:Int)!=n)=false:=by rw[h];simp
 simp-implicitDefEqProofs only[go_sem,↓reduceIte,Za,Zb,Zc,reduceCtorEq,hv.isSl,lv,d1]
 refine vc_range el.length [16,6,7,8,32,4,15] rfl rfl (by omega) (by rfl) (by rfl) (fun i g X=>(∀j,j<i->¬badS (el.getD j fun _=>false))/\Keep (fun _=>False) H X) ⟨fun j h=>by omega,Keep.refl _ _⟩ ?_ ?_
 ·rintro i g X hi gi gn ⟨hp,KX⟩
  simp-implicitDefEqProofs only[go_sem,↓reduceIte,Za,Zb,Zc,reduceCtorEq,kont_eq]at gi gn
  obtain⟨sb,so,sc,e,hld⟩:=(hv.keep KX (by simp)).ld1 (i:=i) (by omega)
  have hS:=(hes i (by omega)).keep0 KX
  obtain⟨q,hq⟩:∃q,q=el.getD i fun _=>false:=⟨_,rfl⟩
  rw[<-hq]at hS
  have o1:(vs.getD i undef).oneCell'=true:=by
   obtain⟨u,W,e',hV⟩:=hS
   cases e'
   exact all1_sl hV.sl.isSl
  generalize vs.getD i undef=u at*
  have next:¬badS q->∀j,j<i+1->¬badS (el.getD j fun _=>false):=fun hb j hj=>by
   by_cases ej:j=i
   ·rw[ej,<-hq];exact hb
   ·exact hp j (by omega)
  have bad:badS q->∀X',Keep (fun _=>False) H X'->Q (.int .i64 2) X':=fun hb X' K=>by
   rw[hQ]
   exact⟨2,rfl,K,.inr ⟨h,.inl ⟨rfl,i,hi,by rw[<-hq];exact hb⟩⟩⟩
  simp-implicitDefEqProofs only[go_sem,↓reduceIte,Za,Zb,Zc,reduceCtorEq,gi,e,tn_cast,ldNO_ptr,hl,hld,Nat.mul_one]
  refine⟨by omega,?_⟩
  refine kont_newst [u] (by rfl) rfl rfl (by simp[o1]) fun X1 b6 e6 z6 B6 K6=>?_
  have S1:=hS.keep0 K6
  simp-implicitDefEqProofs only[go_sem,↓reduceIte,Za,Zb,Zc,reduceCtorEq,B6.ldNO 1 rfl]
  refine(hg q _ X1 S1).mono ?_
  rintro r X2 ⟨hr,K7⟩
  have B62:=K7.bl B6 (by simp)
  have KH2:=(KX.trans K6).trans K7
  -- the question whether 0 is in
  have hm0:memI q 0=q 0:=memI_nat (k:=0) (by omega)
  rcases hr with⟨rfl,hno⟩|⟨t,rfl,ht⟩
  ·rw[kont_eq]
   simp-implicitDefEqProofs only[go_sem,↓reduceIte,Za,Zb,Zc,reduceCtorEq,B62.ldNO 1 rfl]
   refine(hh q _ 0 X2 (S1.keep0 K7)).mono ?_
   rintro r X3 ⟨rfl,K8⟩
   rw[kont_eq,hm0,hno 0]
   simp-implicitDefEqProofs only[go_sem,↓reduceIte,Za,Zb,Zc,reduceCtorEq]
   exact⟨next (fun⟨x,hx,_⟩=>by rw[hno x]at hx;cases hx),KH2.trans K8⟩
  ·by_cases h256:(t:Int)>256
   ·have d2:decide ((t:Int)>256)=true:=decide_eq_true h256
    rw[kont_eq]
    simp-implicitDefEqProofs only[go_sem,↓reduceIte,Za,Zb,Zc,reduceCtorEq,d2]
    exact bad ⟨t,ht.1,.inr (by omega)⟩ _ KH2
   ·have d2:decide ((t:Int)>256)=false:=decide_eq_false h256
    rw[kont_eq]
    simp-implicitDefEqProofs only[go_sem,↓reduceIte,Za,Zb,Zc,reduceCtorEq,d2,B62.ldNO 1 rfl]
    refine(hh q _ 0 X2 (S1.keep0 K7)).mono ?_
    rintro r X3 ⟨rfl,K8⟩
    rw[kont_eq,hm0]
    cases h0:q 0 with
    |true=>
     simp-implicitDefEqProofs only[go_sem,↓reduceIte,Za,Zb,Zc,reduceCtorEq]
     exact bad ⟨0,h0,.inl rfl⟩ _ (KH2.trans K8)
    |false=>
     simp-implicitDefEqProofs only[go_sem,↓reduceIte,Za,Zb,Zc,reduceCtorEq]
     refine⟨next fun⟨x,hx,hx'⟩=>?_,KH2.trans K8⟩
     have:=ht.2 x hx
     rcases hx' with rfl|hx'
     ·rw[h0]at hx;cases hx
     ·omega
 ·rintro g X -⟨hp,KX⟩
  simp-implicitDefEqProofs only[go_sem,↓reduceIte,Za,Zb,Zc,reduceCtorEq,kont_eq]
  rw[hQ]
  exact⟨0,rfl,KX,.inr ⟨h,.inr ⟨rfl,hp⟩⟩⟩
end Go.Mg
namespace Go.Mg
open Go Go.RowKit
set_option linter.all false
set_option maxRecDepth 100000
def c_estaff (ι:Ids):S:=
 kY [kC 2 (kZ)] (.seq (kY [kA 3 0,kV 4 (.m (.eqn .ptr false (.t 3)))] (.ite (.v 4) (kY [kC 2 (kZ)] .ret) .skip)) (kY [kA 5 0,kU 6 (.nil (.t 5)),kU 7 (.fa 6 (.t 6)),kD 8 7,.e (.t 9) (.call (ι.f 159) [.t 8]),kB 2 9] .ret))
def r_estaff:List RV:=[.t 2]
def c_ewith (ι:Ids):S:=
 kY [kC 6 (kZ)] (kY [kA 8 0,kU 9 (.nil (.t 8)),kU 10 (.fa 6 (.t 9)),kD 11 10,.e (.t 12) (.call (ι.f 159) [.t 11]),kB 7 12] (kY [kA 13 7,kA 14 1,kA 15 2,kI 16 1 13 14,.e .no (.st (.t 16) (.t 15))] (kY [kA 17 7,kB 6 17] .ret)))
def r_ewith:List RV:=[.t 6]
def c_efin (ι:Ids):S:=
 kY [kC 2 (.bool false)] (kY [kA 3 0,kU 4 (.m (.eqn .ptr true (.t 3))),kF 5 4,kS 6 5 true 0,kT 7 5 true (.nil (.t 6)),kT 8 5 true (.fa 6 (.t 7)),kT 9 5 true (.ld (.t 8)),.ge (.t 10) (.t 5) true (.call (ι.f 158) [.t 9,.c (.int .i64 0)]),kT 11 5 true (.not (.t 10)),kJ 12 5 11,kB 2 12] .ret)
def r_efin:List RV:=[.t 2]
def c_epln (ι:Ids):S:=
 kY [kC 2 (kZ)] (.seq (kY [kA 5 0,kV 6 (.m (.eqn .ptr false (.t 5)))] (.ite (.v 6) (kY [kC 2 (kZ)] .ret) .skip)) (kY [kA 8 0,kA 9 0,kU 10 (.nil (.t 9)),kU 11 (.fa 6 (.t 10)),kD 12 11,.e (.t 13) (.call (ι.f 377) [.t 8,.t 12]),kF 7 13,kQ 14 7 0,kQ 15 7 1,kB 3 14,kF 4 15] (kY [kA 16 3,kB 2 16] .ret)))
def r_epln:List RV:=[.t 2]
theorem RunV.staff {H:Hp} {rb:Nat} {F:FlN} {el:List (Nat->Bool)} {st:List Int} (h:RunV H rb F el st):∃sv,cell H ⟨rb,6,none⟩=some sv/\SlR H sv (iL st):=by
 obtain⟨s,b,d,a,m,ev,sv,vs,h1,h2,h3,h4,h5,h6,h7⟩:=h
 exact⟨sv,by rw[h1.cell];rfl,h7⟩
def EStaffSpec (P:Program) (k:FuncId):Prop:=(∀(F:FlN) (el:List (Nat->Bool)) (st:List Int) (rb:Nat) (H:Hp),RunV H rb F el st->st.length<=1000->CallsM P k #[.pointer (some ⟨rb,0,none⟩)] H fun r H'=>OwS H' r (iL st)/\(∀q,ownB r q->H.size<=q)/\Keep (fun _=>False) H H')∧
 ∀H,CallsM P k #[.pointer none] H fun r H'=>r=.slice none 0 0/\H'=H
variable {P:Program} {ι:Ids} {k:FuncId}
theorem estaff_ok (hk:FnIs P k (c_estaff ι) r_estaff 1) (hc:IClnSpec P (ι.f 159)):EStaffSpec P k:=by
 refine⟨fun F el st rb H hR hl=>?_,fun H=>?_⟩
 ·obtain⟨sv,c6,hs⟩:=hR.staff
  refine calls_of_vc hk (args:=[_]) (by simp) ?_
  unfold c_estaff r_estaff kA kB kC kD kU kV kY kZ
  simp only[go_sem,Za,Zb,c6]
  refine(hc st sv H hs (by omega)).mono ?_
  rintro r H1 ⟨O,o,K⟩
  rw[kont_eq]
  simp only[go_sem,Za,Zb]
  exact⟨O,o,K⟩
 ·refine calls_of_vc hk (args:=[_]) (by simp) ?_
  unfold c_estaff r_estaff kA kB kC kD kU kV kY kZ
  simp only[go_sem,Za,Zb,kont_eq]
def EWithSpec (P:Program) (k:FuncId):Prop:=∀(F:FlN) (el:List (Nat->Bool)) (st:List Int) (rb i:Nat) (u:Int) (H:Hp),RunV H rb F el st->st.length<=1000->i<st.length->CallsM P k #[.pointer (some ⟨rb,0,none⟩),.int .i64 (i:Int),.int .i64 u] H fun r H'=>OwS H' r (iL (st.set i u))/\(∀q,ownB r q->H.size<=q)/\Keep (fun _=>False) H H'
theorem ewith_ok (hk:FnIs P k (c_ewith ι) r_ewith 3) (hc:IClnSpec P (ι.f 159)):EWithSpec P k:=by
 intro F el st rb i u H hR hl hi
 obtain⟨sv,c6,hs⟩:=hR.staff
 refine calls_of_vc hk (args:=[_,_,_]) (by simp) ?_
 unfold c_ewith r_ewith kA kB kC kD kI kU kY kZ
 simp only[go_sem,Za,Zb,c6]
 refine(hc st sv H hs (by omega)).mono ?_
 rintro r H1 ⟨O,o,K⟩
 obtain⟨b,c,L,rfl,h1,h2,hB,h3,_⟩:=O.some (by intro e';have:=congrArg List.length e';rw[iL_len,List.length_nil]at this;omega)
 rw[iL_len]at h1 h3⊢
 have hb:=o b rfl
 have t:=hB.okSt (o:=i) (by omega)
 have O':=setOwS hB (l:=iL st) (by rw[iL_len];exact h1) h2 (by rw[iL_len];exact h3) i (.int .i64 u) (by rw[iL_len];exact hi)
 rw[iL_set,iL_len]at O'
 have K':Keep (fun q=>q=b) H1 (setc H1 ⟨b,i,none⟩ (.int .i64 u)):=(Keep.refl _ _).setc _ (.inl rfl)
 rw[kont_eq]
 simp only[go_sem,Za,Zb,tn_cast,t]
 refine⟨by omega,?_⟩
 rw[kont_eq]
 simp only[go_sem,Za,Zb]
 refine⟨O',fun q hq=>?_,K.trans' K' fun q hq e=>by omega⟩
 have hq':q=b:=hq
 omega
def EFinSpec (P:Program) (k:FuncId):Prop:=(∀(F:FlN) (el:List (Nat->Bool)) (st:List Int) (rb:Nat) (H:Hp),RunV H rb F el st->st.length<=1000->CallsM P k #[.pointer (some ⟨rb,0,none⟩)] H fun r H'=>(∃b:Bool,r=.bool b/\(b=true↔0∉st))/\H'=H)∧
 ∀H,CallsM P k #[.pointer none] H fun r H'=>r=.bool false/\H'=H
theorem efin_ok (hk:FnIs P k (c_efin ι) r_efin 1) (hc:IConSpec P (ι.f 158)):EFinSpec P k:=by
 refine⟨fun F el st rb H hR hl=>?_,fun H=>?_⟩
 ·obtain⟨sv,c6,hs⟩:=hR.staff
  refine calls_of_vc hk (args:=[_]) (by simp) ?_
  unfold c_efin r_efin kA kB kF kC kJ kS kT kU kY
  simp-implicitDefEqProofs only[go_sem,↓reduceIte,Za,Zb,Zc,reduceCtorEq,c6]
  refine(hc st sv 0 H hs (by omega)).mono ?_
  rintro r H1 ⟨⟨b,rfl,hb⟩,rfl⟩
  rw[kont_eq]
  simp-implicitDefEqProofs only[go_sem,↓reduceIte,Za,Zb,Zc,reduceCtorEq]
  refine⟨!b,rfl,?_⟩
  cases b with
  |true=>simp[hb.1 rfl]
  |false=>simp;exact fun h=>by have:=hb.2 h;cases this
 ·refine calls_of_vc hk (args:=[_]) (by simp) ?_
  unfold c_efin r_efin kA kB kF kC kJ kS kT kU kY
  simp-implicitDefEqProofs only[go_sem,↓reduceIte,Za,Zb,Zc,reduceCtorEq,kont_eq]
def EPlnSpec (P:Program) (ι:Ids) (k:FuncId):Prop:=(∀(F:FlN) (el:List (Nat->Bool)) (st:List Int) (rb:Nat) (H:Hp),TabOk ι H->RunV H rb F el st->GoodP (pbOf F el)->SolB (pbOf F el) st->CallsM P k #[.pointer (some ⟨rb,0,none⟩)] H fun r H'=>Keep (fun _=>False) H H'/\match solF (pbOf F el) st with|none=>r=.slice none 0 0|some t=>SlR H' r (iL t))∧
 ∀H,CallsM P k #[.pointer none] H fun r H'=>r=.slice none 0 0/\H'=H
theorem epln_ok (hk:FnIs P k (c_epln ι) r_epln 1) (hc:EPlanSpec P ι (ι.f 377)):EPlnSpec P ι k:=by
 refine⟨fun F el st rb H hT hR hG hB=>?_,fun H=>?_⟩
 ·obtain⟨sv,c6,hs⟩:=hR.staff
  refine calls_of_vc hk (args:=[_]) (by simp) ?_
  unfold c_epln r_epln kA kB kF kC kD kQ kU kV kY kZ
  simp only[go_sem,Za,Zb,c6]
  refine(hc F el st st rb sv H hT hR hs hG hB).mono ?_
  rintro r H1 ⟨y,rfl,K,hy⟩
  rw[kont_eq]
  simp only[go_sem,Za,Zb]
  exact⟨K,hy⟩
 ·refine calls_of_vc hk (args:=[_]) (by simp) ?_
  unfold c_epln r_epln kA kB kF kC kD kQ kU kV kY kZ
  simp only[go_sem,Za,Zb,kont_eq]
end Go.Mg
namespace Go.Mg
open Go Go.RowKit
set_option linter.all false
set_option maxRecDepth 100000
def c_edone (ι:Ids):S:=
 kY [.e (.v 2) (.new (ι.t 128) #[kZ])] (kY [kU 6 (.m (.bld #[kZ] [])),.e (.v 3) (.new (ι.t 128) #[kZ]),.e .no (.stn 1 (.v 3) (.t 6))] (.seq (kY [kA 7 0,.e (.v 8) (.call (ι.f 379) [.t 7]),kO 9 8,kC 10 (.int .i64 0)] (.blk 0 (.loop (kY [kH 11 10 9] (.seq (.ite (.v 11) .skip (.exit 0)) (.seq (.blk 1 (kY [kA 12 10,kK 13 1 8 10,kD 14 13,kB 4 12,kB 5 14] (kY [kA 15 5,kV 16 (.cm .neq .i64 (.t 15) (.c (.int .i64 0)))] (.ite (.v 16) (.reg [kM 17 1 3,kA 18 4,.e (.t 19) (.call (ι.f 131) [.t 17,.t 18]),.e .no (.stn 1 (.v 3) (.t 19))]) .skip)))) (.reg [ke 20 10,kB 10 20]))))))) (kY [kM 21 1 3,.e .no (.stn 1 (.v 2) (.t 21))] .ret)))
def r_edone:List RV:=[.cn 2 1]
def c_edon2 (ι:Ids):S:=
 kY [kC 2 (kZ)] (kY [kA 3 0,.e (.t 4) (.call (ι.f 383) [.t 3]),.e (.t 5) (.call (ι.f 139) [.t 4]),kB 2 5] .ret)
def r_edon2:List RV:=[.t 2]
def c_erdy (ι:Ids):S:=
 kY [kC 2 (kZ)] (.seq (kY [kA 3 0,kV 4 (.m (.eqn .ptr false (.t 3)))] (.ite (.v 4) (kY [kC 2 (kZ)] .ret) .skip)) (.seq (.dr (kW 5 (.mv (.v 0)) (kW 6 (.nil (.t 5)) (kW 7 (.fa 0 (.t 6)) (kW 8 (.m (.ldn 5 (.t 7))) (kW 9 (.mv (.v 0)) (.wcons (.t 10) .none (.call (ι.f 383) [.t 9]) (.wcons (.t 11) .none (.call (ι.f 314) [.t 8,.t 10]) (kX 2 (.mv (.t 11)) .done) .wnil) .wnil))))))) .ret))
def r_erdy:List RV:=[.t 2]
def doneP (st:List Int) (i:Nat) (k:Nat):Bool:=decide (k<i)&&decide (st.getD k 0≠0)
variable {st:List Int} {i:Nat} {P:Program} {ι:Ids} {k:FuncId}
theorem doneP_with (hi:i<=1000) (h:st.getD i 0≠0):withP (doneP st i) (i:Int)=doneP st (i+1):=by
 funext k
 unfold withP doneP
 rw[Bool.eq_iff_iff]
 simp only[Bool.or_eq_true,Bool.and_eq_true,decide_eq_true_eq]
 constructor
 ·rintro(⟨h1,h2⟩|⟨h1,h2⟩)
  ·exact⟨by omega,h2⟩
  ·have:k=i:=by omega
   subst this;exact⟨by omega,h⟩
 ·rintro⟨h1,h2⟩
  by_cases e:k=i
  ·exact .inr ⟨by omega,by omega⟩
  ·exact .inl ⟨by omega,h2⟩
theorem doneP_skip (h:st.getD i 0=0):doneP st i=doneP st (i+1):=by
 funext k
 unfold doneP
 by_cases hk:k=i
 ·subst hk;rw[decide_eq_false (show¬(st.getD k 0≠0)from fun hn=>hn h)];simp
 ·have:decide (k<i)=decide (k<i+1):=by rw[decide_eq_decide];omega
  rw[this]
def EDoneSpec (P:Program) (k:FuncId):Prop:=(∀(F:FlN) (el:List (Nat->Bool)) (st:List Int) (rb:Nat) (H:Hp),RunV H rb F el st->st.length<=1000->CallsM P k #[.pointer (some ⟨rb,0,none⟩)] H fun r H'=>SetM H' r (doneP st st.length)/\Keep (fun _=>False) H H'/\∀q,setB r q->H.size<=q)∧
 ∀H,CallsM P k #[.pointer none] H fun r H'=>SetM H' r (fun _=>false)/\Keep (fun _=>False) H H'
theorem edone_ok (hk:FnIs P k (c_edone ι) r_edone 1) (hs:EStaffSpec P (ι.f 379)) (hw:BWithSpec P (ι.f 131)):EDoneSpec P k:=by
 have main:∀(x:Value) (st:List Int) (H:Hp),(∀X,Keep (fun _=>False) H X->CallsM P (ι.f 379) #[x] X fun r H'=>SlR H' r (iL st)/\(∀q,slB r q->X.size<=q)/\Keep (fun _=>False) X H')->st.length<=1000->CallsM P k #[x] H fun r H'=>SetM H' r (doneP st st.length)/\Keep (fun _=>False) H H'/\∀q,setB r q->H.size<=q:=fun x st H hc hl=>by
  refine calls_of_vc hk (args:=[_]) (by simp) ?_
  unfold c_edone r_edone kA kB kC kD ke kH kK kM kO kU kV kY kZ
  simp only[go_sem,Za,Zb]
  refine kont_new fun H1 b2 e1 z1 B1 K1=>?_
  have B1':Bl H1 b2 [.slice none 0 0]:=B1
  simp only[go_sem,Za,Zb]
  refine kont_newst [.slice none 0 0] (by rfl) rfl rfl rfl fun H2 b3 e2 z2 B2 K2=>?_
  simp only[go_sem,Za,Zb]
  refine(hc H2 (K1.trans K2)).mono ?_
  rintro r H3 ⟨hr,ho,K3⟩
  have B23:=K3.bl B2 (by simp)
  have B13:=(K2.trans K3).bl B1' (by simp)
  have lr:lenV r=st.length:=by rw[hr.len,iL_len]
  have K03:=(K1.trans K2).trans K3
  have s1:=K1.size
  have s2:=K2.size
  have s3:=K3.size
  have lt3:=B2.lt
  rw[kont_eq]
  simp only[go_sem,Za,Zb,hr.isSl,lr]
  refine vc_range st.length [11,4,5,16,10] rfl rfl (by omega) (by rfl) (by rfl) (fun i g X=>∃w,Bl X b3 [w]/\SetM X (.agg #[w]) (doneP st i)/\(∀q,slB w q->q≠b3/\q≠b2/\H.size<=q)/\Keep (fun q=>q=b3) H3 X) ⟨.slice none 0 0,B23,?_,fun q hq=>hq.elim,Keep.refl _ _⟩ ?_ ?_
  ·have:doneP st 0=fun _=>false:=by funext k;simp[doneP]
   rw[this];exact SetM.empty _ _ _
  ·rintro i g X hi gi gn ⟨w,BX,SX,ow,KX⟩
   simp only[go_sem,Za,Zb,kont_eq]at gi gn
   obtain⟨sb,so,sc,e,hc'⟩:=(hr.keep KX fun q hq e=>by have:=ho q hq;omega).iat (i:=i) hi
   have hg:st.getD i 0=st[i]:=by rw[List.getD_eq_getElem?_getD,List.getElem?_eq_getElem hi];rfl
   by_cases h0:st[i]=0
   ·have d1:(st[i] !=0)=false:=by rw[h0];rfl
    simp only[go_sem,Za,Zb,gi,e,tn_cast,hc',d1]
    exact⟨by omega,w,BX,by rw[<-doneP_skip (by rw[hg];exact h0)];exact SX,ow,KX⟩
   ·have d1:(st[i] !=0)=true:=bne_iff_ne.2 h0
    have l3:ldNO X (.pointer (some ⟨b3,0,none⟩)) 1=some #[w]:=BX.ldNO 1 rfl
    simp only[go_sem,Za,Zb,gi,e,tn_cast,hc',d1,l3]
    refine⟨by omega,?_⟩
    refine(hw _ _ (i:Int) X SX).mono ?_
    rintro r X1 ⟨S1,K4,o4⟩
    rw[doneP_with (by omega) (by rw[hg];exact h0)]at S1
    obtain⟨w',W',rfl,hV'⟩:=S1
    have B31:=K4.bl BX (by simp)
    have t3:=B31.okNA (o:=0) (n:=1) (by simp)
    have a1:all1 #[w']:=hV'.sl.one
    have K5:Keep (fun q=>q=b3) X1 (stNA X1 ⟨b3,0,none⟩ [w']):=(Keep.refl _ _).stNA _ (.inl rfl)
    have B5:=B31.stNA 0 [w']
    have sX:=KX.size
    have ow':∀q,slB w' q->q≠b3/\q≠b2/\H.size<=q:=fun q hq=>by
     rcases o4 q hq with h|h
     ·exact ow q h
     ·have:=BX.lt
      have:=B13.lt
      omega
    rw[kont_eq]
    simp only[go_sem,Za,Zb,t3]
    refine⟨a1,?_⟩
    rw[kont_eq]
    simp only[go_sem,Za,Zb]
    exact⟨w',B5,⟨w',W',rfl,hV'.keep K5 fun q hq=>(ow' q hq).1⟩,ow',(KX.trans K4.any).trans K5⟩
  ·rintro g X -⟨w,BX,SX,ow,KX⟩
   have l3:ldNO X (.pointer (some ⟨b3,0,none⟩)) 1=some #[w]:=BX.ldNO 1 rfl
   have B2X:=KX.bl B13 (by omega)
   have t2:=B2X.okNA (o:=0) (n:=1) (by simp)
   obtain⟨w',W',e',hV'⟩:=SX
   cases e'
   have a1:all1 #[w]:=hV'.sl.one
   have K5:Keep (fun q=>q=b2) X (stNA X ⟨b2,0,none⟩ [w]):=(Keep.refl _ _).stNA _ (.inl rfl)
   have B5:Bl (stNA X ⟨b2,0,none⟩ [w]) b2 [w]:=B2X.stNA 0 [w]
   have l2:ldNO (stNA X ⟨b2,0,none⟩ [w]) (.pointer (some ⟨b2,0,none⟩)) 1=some #[w]:=B5.ldNO 1 rfl
   simp only[go_sem,Za,Zb,l3,t2]
   refine⟨a1,?_⟩
   rw[kont_eq]
   simp only[go_sem,Za,Zb,resPre,resVal,l2]
   exact⟨⟨w,W',rfl,hV'.keep K5 fun q hq=>(ow q hq).2.1⟩,(K03.trans' KX fun q hq e=>by omega).trans' K5 fun q hq e=>by omega,fun q hq=>(ow q hq).2.2⟩
 refine⟨fun F el st rb H hR hl=>main _ st H (fun X K=>(hs.1 F el st rb X (hR.keep0 K) hl).mono fun r X' ⟨O,o,K'⟩=>⟨O.sl,fun q hq=>o q (O.slB hq),K'⟩) hl,fun H=>?_⟩
 have:=main (.pointer none) [] H (fun X K=>(hs.2 X).mono fun r X' ⟨e,e'⟩=>by rw[e,e'];exact⟨SlR.nil _ _ _,fun q hq=>hq.elim,Keep.refl _ _⟩) (by simp)
 have hd:doneP [] 0=fun _=>false:=by funext k;simp[doneP]
 rw[List.length_nil,hd]at this
 exact this.mono fun r X h=>⟨h.1,h.2.1⟩
def EDon2Spec (P:Program) (ι:Ids) (k:FuncId):Prop:=(∀(F:FlN) (el:List (Nat->Bool)) (st:List Int) (rb:Nat) (H:Hp),TabOk ι H->RunV H rb F el st->st.length<=1000->CallsM P k #[.pointer (some ⟨rb,0,none⟩)] H fun r H'=>SlR H' r (memL (doneP st st.length))/\Keep (fun _=>False) H H')∧
 ∀H,TabOk ι H->CallsM P k #[.pointer none] H fun r H'=>SlR H' r (memL fun _=>false)/\Keep (fun _=>False) H H'
theorem edon2_ok (hk:FnIs P k (c_edon2 ι) r_edon2 1) (hd:EDoneSpec P (ι.f 383)) (hli:BListSpec P ι (ι.f 139)):EDon2Spec P ι k:=by
 have main:∀(x:Value) (d:Nat->Bool) (H:Hp),TabOk ι H->(CallsM P (ι.f 383) #[x] H fun r H'=>SetM H' r d/\Keep (fun _=>False) H H')->CallsM P k #[x] H fun r H'=>SlR H' r (memL d)/\Keep (fun _=>False) H H':=fun x d H hT hc=>by
  refine calls_of_vc hk (args:=[_]) (by simp) ?_
  unfold c_edon2 r_edon2 kA kB kC kY kZ
  simp only[go_sem,Za,Zb]
  refine hc.mono ?_
  rintro r H1 ⟨S,K⟩
  rw[kont_eq]
  simp only[go_sem,Za,Zb]
  refine(hli d r H1 (hT.keep K) S).mono ?_
  rintro r H2 ⟨O,o,K2⟩
  rw[kont_eq]
  simp only[go_sem,Za,Zb]
  exact⟨O.sl,K.trans K2⟩
 exact⟨fun F el st rb H hT hR hl=>main _ _ H hT ((hd.1 F el st rb H hR hl).mono fun r X h=>⟨h.1,h.2.1⟩),fun H hT=>main _ _ H hT (hd.2 H)⟩
def ERdySpec (P:Program) (ι:Ids) (k:FuncId):Prop:=(∀(F:FlN) (el:List (Nat->Bool)) (st:List Int) (rb:Nat) (H:Hp),TabOk ι H->RunV H rb F el st->okF F=true->st.length<=1000->CallsM P k #[.pointer (some ⟨rb,0,none⟩)] H fun r H'=>SlR H' r (iN (rdyL F.st.length F.be (doneP st st.length)))/\Keep (fun _=>False) H H')∧
 ∀H,CallsM P k #[.pointer none] H fun r H'=>r=.slice none 0 0/\H'=H
theorem erdy_ok (hk:FnIs P k (c_erdy ι) r_erdy 1) (hd:EDoneSpec P (ι.f 383)) (hr:FRdySpec P ι (ι.f 314)):ERdySpec P ι k:=by
 refine⟨fun F el st rb H hT hR hok hl=>?_,fun H=>?_⟩
 ·have hR0:=hR
  obtain⟨s,b,d,a,m,ev,sv,vs,B,hF,he,hel,hst,hes,hsv⟩:=hR
  have l5:ldNA H ⟨rb,0,none⟩ 5=some #[s,b,d,a,m]:=by
   have:=B.ldNA (o:=0) (n:=5) (by simp)
   simpa using this
  refine calls_of_vc hk (args:=[_]) (by simp) ?_
  unfold c_erdy r_erdy kA kC kV kW kX kY kZ
  simp only[go_sem,Za,Zb]
  refine vc_drk (fun _=>False) ?_
  simp only[go_sem,Za,Zb,l5,ldNO_ptr]
  refine(hd.1 F el st rb H hR0 hl).mono ?_
  rintro r H1 ⟨S,K,-⟩
  rw[kontK_eq]
  refine⟨K,?_⟩
  simp only[go_sem,Za,Zb]
  refine(hr F _ r _ H1 (hT.keep K) (hF.keep0 K) hok S).mono ?_
  rintro r H2 ⟨O,o,K2⟩
  rw[kontK_eq]
  refine⟨K2,?_⟩
  simp only[go_sem,Za,Zb]
  exact⟨O.sl,K.trans K2⟩
 ·refine calls_of_vc hk (args:=[_]) (by simp) ?_
  unfold c_erdy r_erdy kA kC kV kW kX kY kZ
  simp only[go_sem,Za,Zb,kont_eq]
end Go.Mg

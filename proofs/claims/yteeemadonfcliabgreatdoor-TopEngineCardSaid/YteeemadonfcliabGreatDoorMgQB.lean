/- Lemmas of ours. No conditions. -/
import Derived.Test.YteeemadonfcliabGreatDoorMgQ9
import Derived.Test.YteeemadonfcliabGreatDoorMgQ5
open Nat renaming reduceEqDiff→Za,reduceAdd→Zb,reduceMul→Zc,reduceLeDiff→Zd,reduceLT→Ze
open Int renaming reduceBEq→Zf,reduceBNe→Zg,reduceLE→Zh,reduceLT→Zi
set_option linter.all false
set_option maxRecDepth 100000
namespace Go.Mg
open Go Go.RowKit
variable {H:Hp} {vs:List Value} {st:List Int} {r:cQ} {rb:Nat} {P:Program} {ι:aC} {k:FuncId}
theorem gk.el {ms:List UInt64} (h:gk H vs ms):vs.length=(ms.map bt).length/\∀i<vs.length,aQ H (.agg #[vs.getD i undef]) ((ms.map bt).getD i fun _=>false):=by
 refine⟨by rw[List.length_map];exact h.len,fun i hi=>?_⟩;have qE:i<ms.length:=by rw[<-h.len];exact hi
 have:=h.at_ i hi qE;rw[List.getD_eq_getElem?_getD,List.getElem?_eq_getElem hi,bN,List.getD_eq_getElem?_getD,List.getElem?_eq_getElem qE];exact this
def DX (r:cQ):List Int:=List.replicate (rN r) 0
theorem tE (r:cQ):yk (bT r).st.length (DX r):=⟨by rw[dm];simp[DX],fun u hu=>by
 have:=List.eq_of_mem_replicate hu;omega⟩
theorem Lm (r:cQ) (k u:Nat) (h:bM (aZ (bT r) ((aN r).map bt)) k u=true):1<=u/\u<=4:=by
 unfold bM aZ at h;rw[bN]at h;exact dt r k u h
theorem gx (r:cQ):bP (aZ (bT r) ((aN r).map bt)):=by
 have hn:=gg r;have hG:=mR r;have hl:=hG.lim;unfold mQ at hl;have e:(aZ (bT r) ((aN r).map bt)).el.length=(bT r).st.length:=by simp[aZ,cZ,dm]
 have e0:=dm r;refine⟨by omega,by omega,fun k u h=>by have:=Lm r k u h;omega,?_,?_,?_,?_,?_,?_⟩
 ·show(bT r).di.length<=20;omega
 ·show(bT r).sa.length<=20;omega
 ·show(bT r).mo.length<=20;omega
 ·rw[e];exact hG.di
 ·rw[e];exact hG.sa
 ·rw[e];exact hG.mo
theorem qw (r:cQ) (h:yk (bT r).st.length st):jV (aZ (bT r) ((aN r).map bt)) st:=by
 have e:(aZ (bT r) ((aN r).map bt)).el.length=(bT r).st.length:=by simp[aZ,cZ,dm]
 have hn:=gg r;refine tg (gx r) ?_ ?_
 ·rw[e];exact h.U
 ·rw[e,dm];omega
theorem ya (r:cQ):(bT r).st.length<=5:=by have:=gg r;rw[dm];omega
theorem tF (r:cQ):((aN r).map bt).length=(bT r).st.length:=by rw[List.length_map,cZ,dm]
theorem Ap (r:cQ) (h:yk (bT r).st.length st) (i:Nat) (u:Int) (hi:i<st.length) (hu:bS (((aN r).map bt).getD i fun _=>false) u=true):jV (aZ (bT r) ((aN r).map bt)) (st.set i u):=by
 rw[bN]at hu;have:=(qt (dt r) i u).1 hu;exact qw r (h.set (by omega))
structure PO (r:cQ) (H:Hp) (rb:Nat) (st:List Int):Prop where
 run:fJ H rb (bT r) ((aN r).map bt) st
 ok:yk (bT r).st.length st
 ne:fz (bT r) (aN r) st≠[]
theorem PO.ai {H':Hp} (h:PO r H rb st) (hk:af (fun _=>False) H H'):PO r H' rb st:=⟨h.run.ai hk,h.ok,h.ne⟩
theorem PQ (hs:gw P ι k) {v ev:Value} (hT:aU ι H) (hP:bW H v (bT r)) (he:aM H ev vs) (hv:gk H vs (aN r)):
  ak P k #[v,ev] H fun x H'=>af (fun _=>False) H H'/\((cM (aZ (bT r) ((aN r).map bt)) (DX r)=none/\x=.tuple #[.pointer none,.int .i64 12])∨
    ((cM (aZ (bT r) ((aN r).map bt)) (DX r)).isSome=true/\∃rb,x=.tuple #[.pointer (some ⟨rb,0,none⟩),.int .i64 0]/\PO r H' rb (DX r))):=by
 have hnu:=gg r;have pO:=dm r;have hel:((aN r).map bt).length=(bT r).st.length:=by rw[List.length_map,cZ,pO]
 obtain⟨e1,e2⟩:=hv.el;refine(hs (bT r) ((aN r).map bt) vs v ev H hT hP he e1 (by omega) e2 fun _ _ _=>⟨gx r,?_,?_⟩).mono ?_
 ·rw[hel,pO];exact qw r (tE r)
 ·have:=(mR r).lim;unfold mQ at this;omega
 rintro x H' ⟨K,hx⟩;refine⟨K,?_⟩;have f0:=wR.1 (wS r);have ez:List.replicate ((aN r).map bt).length (0:Int)=DX r:=by rw[hel,pO];rfl
 rw[ez]at hx;rcases hx with⟨h,_⟩|⟨_,h,_⟩|⟨_,_,⟨i,hi,hb⟩,_⟩|⟨_,_,_,h⟩
 ·exact absurd f0 h
 ·exact absurd hel h
 ·obtain⟨u,hu,hu2⟩:=hb;rw[bN]at hu;have:=dt r i u hu;omega
 ·rcases h with h|⟨h1,rb,h2,h3⟩
  ·exact .inl h
  ·refine .inr ⟨h1,rb,h2,h3,tE r,fun hc=>?_⟩;rw[k8 (tE r).1 (dt r),hc]at h1
   cases h1
theorem Ln (hg:nz P ι k) (hT:aU ι H) (hI:PO r H rb st) (x1 x2:Nat):
  ak P k #[.pointer (some ⟨rb,0,none⟩),.int .i64 (x1:Int),.int .i64 (x2:Int)] H fun x H'=>∃(nx:Value) (e:Int),x=.tuple #[nx,.int .i64 e]/\af (fun _=>False) H H'/\((e≠0/\nx=.pointer none)\/(e=0/\∃E8 j u,nx=.pointer (some ⟨E8,0,none⟩)/\PO r H' E8 (st.set j u)/\j<st.length/\st.getD j 0=0/\u≠0)):=by
 have h5:=ya r;have hsl:=hI.ok.1;have hel:=tF r;refine(hg.1 (bT r) ((aN r).map bt) st rb (x1:Int) (x2:Int) H hT hI.run (wS r) (by omega) (gx r) (Ap r hI.ok)).mono ?_;rintro x H' ⟨K,hx⟩;obtain⟨e,he⟩:∃e,e=lU (bT r) ((aN r).map bt) st (x1:Int) (x2:Int):=⟨_,rfl⟩
 rw[<-he]at hx;rcases hx with⟨h,rfl⟩|⟨h,E8,rfl,hR,hW⟩
 ·exact⟨_,e,rfl,K,.inl ⟨h,rfl⟩⟩
 ·rw[h]at he;have h1:pG (bT r) (aN r) st (x1:Int) (x2:Int)=1:=by
   have:=he.symm;unfold lU at this
   split at this
   ·omega
   ·split at this
    ·next h=>rw[<-Fa hI.ok (by omega) (dt r)];exact h
    ·split at this
     ·omega
     ·split at this<;>omega
  obtain⟨j,hj,j1,j2,j3,j4,j5,j6,j7,j8⟩:=XD hI.ok (by omega) h1;have:x1=j:=by omega
  subst this;exact⟨_,0,rfl,K,.inr ⟨rfl,E8,_,_,rfl,⟨hR,j8,j7⟩,by omega,j3,by omega⟩⟩
end Go.Mg
namespace Go.Mg
open Go Go.RowKit
def Lo (ι:aC):S:=
 (.dr (kW 52 (.m (.ldn 5 (.v 5))) (kW 53 (.mv (.v 6)) (kW 54 (.mv (.v 9)) (ka 55 (kg (ι.f 379) [.t 54]) (ka 56 (kg (ι.f 376) [.t 52,.t 53,.t 55]) (kW 51 (.mv (.t 56)) (kW 57 (.ext (.t 51) 0) (kW 58 (.ext (.t 51) 1) (.wcons (.v 13) .none (.new (ι.t 358) #[kZ,kZ,kZ,kZ,kZ]) (kb (.stn 5 (.v 13) (.t 57)) (kX 14 (.mv (.t 58)) .done) .wnil) .wnil)))) (.wcons (.v 13) .none (.new (ι.t 358) #[kZ,kZ,kZ,kZ,kZ]) (ka 56 (kg (ι.f 376) [.t 52,.t 53,.t 55]) (kW 51 (.mv (.t 56)) (kW 57 (.ext (.t 51) 0) (kW 58 (.ext (.t 51) 1) (kb (.stn 5 (.v 13) (.t 57)) (kX 14 (.mv (.t 58)) .done) .wnil)))) .wnil) .wnil)) (.wcons (.v 13) .none (.new (ι.t 358) #[kZ,kZ,kZ,kZ,kZ]) (ka 55 (kg (ι.f 379) [.t 54]) (ka 56 (kg (ι.f 376) [.t 52,.t 53,.t 55]) (kW 51 (.mv (.t 56)) (kW 57 (.ext (.t 51) 0) (kW 58 (.ext (.t 51) 1) (kb (.stn 5 (.v 13) (.t 57)) (kX 14 (.mv (.t 58)) .done) .wnil)))) .wnil) .wnil) .wnil))))))
def Lp (ι:aC):S:=
 (.dr (kW 94 (.mv (.v 9)) (kW 95 (.mv (.v 19)) (kW 97 (.mv (.v 17)) (kW 98 (.mv (.v 19)) (kW 99 (.is 1 (.t 97) (.t 98)) (kW 100 (.ld (.t 99)) (ka 96 (kg (ι.f 393) [.t 94,.t 95]) (ka 101 (kg (ι.f 165) [.t 96,.t 100]) (kX 102 (.not (.t 101)) .done) .wnil) .wnil))))))))
def RC (ι:aC):S:=
 (.dr (kW 109 (.mv (.v 9)) (kW 110 (.mv (.v 1)) (kW 111 (.mv (.v 12)) (kW 112 (.is 2 (.t 110) (.t 111)) (kW 113 (.fa 0 (.t 112)) (kW 114 (.ld (.t 113)) (kW 115 (.dv .rem .u8 (.t 114) (.c (.int .u8 6))) (kW 116 (.ii .i64 (.t 115)) (kW 117 (.mv (.v 1)) (kW 118 (.mv (.v 12)) (kW 119 (.is 2 (.t 117) (.t 118)) (kW 120 (.fa 1 (.t 119)) (kW 121 (.ld (.t 120)) (kW 122 (.dv .rem .u8 (.t 121) (.c (.int .u8 6))) (kW 123 (.ii .i64 (.t 122)) (ka 124 (kg (ι.f 388) [.t 109,.t 116,.t 123]) (kW 108 (.mv (.t 124)) (kW 125 (.ext (.t 108) 0) (kW 126 (.ext (.t 108) 1) (kX 20 (.mv (.t 125)) (kX 21 (.mv (.t 126)) .done))))) .wnil)))))))))))))))))
def DY (ι:aC):S:=
 kY [kR 2 (ι.t 288) 0,kC 4 (.bool false)] (.seq (kY [kc 22 (kg (ι.f 444) []),kV 23 (.not (.t 22))] (.ite (.v 23) (kY [kC 4 (.bool false)] .ret) .skip)) (kY [kM 25 7 2,kc 26 (kg (ι.f 300) [.t 25]),kF 24 26,kQ 27 24 0,kQ 28 24 1,kQ 29 24 2,kQ 30 24 3,kd 5 (.new (ι.t 296) #[kZ,kZ,kZ,kZ,kZ]),kc 7 (.new (ι.t 289) #[kZ,kZ,kZ,kZ,kZ]),kf (.stn 5 (.v 5) (.t 27)),kB 6 28,kf (.stn 5 (.t 7) (.t 29)),kF 8 30] (kY [kM 32 5 5,kA 33 6,kc 34 (kg (ι.f 391) [.t 32,.t 33]),kF 31 34,kQ 35 31 0,kQ 36 31 1,kB 9 35,kB 10 36] (.seq (kY [kA 37 10,kV 38 (.cm .neq .i64 (.t 37) (.c (.int .i64 0)))] (.ite (.v 38) (kY [kA 39 10,kU 40 (.cm .eql .i64 (.t 39) (.c (.int .i64 12))),kB 4 40] .ret) .skip)) (kY [kC 11 (.int .i64 1024)] (.seq (kY [kC 12 (.int .i64 0)] (.blk 0 (.loop (.seq (kY [kA 41 12,kA 42 1,kL 43 42,kU 44 (.cm .leq .i64 (.t 41) (.t 43)),kF 45 44,kS 46 45 true 12,kT 47 45 true (.cm .leq .i64 (.t 46) (.c (.int .i64 8))),kV 48 (.pick (.t 45) (.t 47) (.c (.bool false)))] (.ite (.v 48) .skip (.exit 0))) (.seq (.blk 1 (.seq (Lo ι) (kY [kM 60 5 13,kc 61 (kg (ι.f 439) [.t 60,.c (.int .i64 2000)]),kF 59 61,kQ 62 59 0,kQ 63 59 1,kB 15 62,kB 16 63] (.seq (kY [kA 64 14,kU 65 (.cm .neq .i64 (.t 64) (.c (.int .i64 0))),kF 66 65,kS 67 66 false 16,kT 68 66 false (.cm .neq .i64 (.t 67) (.c (.int .i64 0))),kU 69 (.pick (.t 66) (.c (.bool true)) (.t 68)),kF 70 69,kS 71 70 false 15,kT 72 70 false (.cm .lss .i64 (.t 71) (.c (.int .i64 1))),kU 73 (.pick (.t 70) (.c (.bool true)) (.t 72)),kF 74 73,kS 75 74 false 15,kS 76 74 false 11,kT 77 74 false (.cm .gtr .i64 (.t 75) (.t 76)),kV 78 (.pick (.t 74) (.c (.bool true)) (.t 77))] (.ite (.v 78) (kY [kC 4 (.bool false)] .ret) .skip)) (kY [kM 79 5 13,kc 80 (kg (ι.f 442) [.t 79]),kB 17 80] (.seq (kY [kA 81 17,kL 82 81,kG 83 0 5,kD 84 83,kL 85 84,kV 86 (.cm .neq .i64 (.t 82) (.t 85))] (.ite (.v 86) (kY [kC 4 (.bool false)] .ret) .skip)) (.seq (kY [kA 87 9,kd 88 (kg (ι.f 385) [.t 87]),kO 89 88,kC 90 (.int .i64 0)] (.blk 2 (.loop (kY [kH 91 90 89] (.seq (.ite (.v 91) .skip (.exit 2)) (.seq (.blk 3 (kY [kK 92 1 88 90,kD 93 92,kB 19 93] (.seq (Lp ι) (.ite (.v 102) (kY [kC 4 (.bool false)] .ret) .skip)))) (.reg [ke 103 90,kB 90 103]))))))) (.seq (kY [kA 104 12,kA 105 1,kL 106 105,kV 107 (.cm .eql .i64 (.t 104) (.t 106))] (.ite (.v 107) (.exit 0) .skip)) (.seq (.seq (RC ι) (kY [kA 127 21,kV 128 (.cm .eql .i64 (.t 127) (.c (.int .i64 0)))] (.ite (.v 128) (.reg [kA 129 20,kB 9 129]) .skip))) (.reg [kA 130 15,kB 11 130])))))))))) (.reg [kA 49 12,kU 50 (.ar .add .i64 (.t 49) (.c (.int .i64 1))),kB 12 50])))))) (kY [kC 4 (.bool true)] .ret)))))))
def DZ:List RV:=[.t 4]
structure XP (P:Program) (ι:aC):Prop where
 aw:tA P ι (ι.f 444)
 mak:oE P (ι.f 300)
 sta:gw P ι (ι.f 391)
 prb:c9 P ι (ι.f 376)
 stf:gv P (ι.f 379)
 cnt:pd P ι (ι.f 439)
 pos:tD P ι (ι.f 442)
 Ez:ny P ι (ι.f 385)
 usr:oO P ι (ι.f 393)
 gra:nz P ι (ι.f 388)
 eqI:qi P (ι.f 165)
def Ho (A:Hp) (st:List Int) (i:Nat) (X:Hp) (v:Value):Prop:=match i with
 |55=>aM X v (iL st)
 |13=>∃b,v=.pointer (some ⟨b,0,none⟩)/\A.size<=b/\Bl X b ue
 |_=>False
variable {st:List Int}
theorem Ho.ag {A:Hp}:∀i X X' v,Ho A st i X v->af (fun _=>False) X X'->Ho A st i X' v:=fun i X X' v h hk=>by
 unfold Ho at*
 split at h
 ·exact aM.ag h hk (by simp)
 ·obtain⟨b,e,hb,B⟩:=h;exact⟨b,e,hb,hk.bl B (by simp)⟩
 ·exact h
set_option maxHeartbeats 4000000 in
theorem Ur {P:Program} {ι:aC} (hs:gv P (ι.f 379)) (hp:c9 P ι (ι.f 376)) {r:cQ} {f:Fr} {A0:Hp} {b5 rb:Nat} {s b d a m lv:Value} {vs:List Value} {Qb:Ex->Fr->Hp->Prop} (h5:f 5=.pointer (some ⟨b5,0,none⟩)) (h6:f 6=lv) (h9:f 9=.pointer (some ⟨rb,0,none⟩))
  (B5:Bl A0 b5 [s,b,d,a,m]) (hF:bW A0 (.agg #[s,b,d,a,m]) (bT r)) (hl:aM A0 lv vs) (hv:gk A0 vs (aN r)) (hI:PO r A0 rb st)
  (hK:KO (aZ (bT r) ((aN r).map bt)) st A0 13 14 f (Qb .n)):vc P (Lo ι) Qb f A0:=by
 unfold Lo kW kX ka kb kg kZ;have lt:=B5.lt;have hlt:(A0.size<=b5)=False:=eq_false (by omega);have l5:aD A0 (.pointer (some ⟨b5,0,none⟩)) 5=some #[s,b,d,a,m]:=B5.aD 5 rfl;have hnu:=gg r;have pO:=dm r;have hel:=tF r;have hsl:=hI.ok.1;have hne:st≠[]:=by rintro rfl;simp at hsl;omega
 have hfx:fixF ((aN r).map bt).length st=st:=by unfold fixF;rw[if_neg hne]
 obtain⟨g1,g2⟩:=hv.el;refine bj (fun q=>A0.size<=q) ?_;have s0:o9 (Ho A0 st) A0 A0 []:=o9.nil A0;rw[cj,cj,cj];refine⟨by simp-implicitDefEqProofs only[go_sem,zS,↓reduceIte,Za,Zb,Zc,reduceCtorEq,zU,zV,Zf,Zg,Zh,Zi,Zd,Ze,zF,h5,hlt,l5],by simp-implicitDefEqProofs only[go_sem,zS,↓reduceIte,Za,Zb,Zc,reduceCtorEq,zU,zV,Zf,Zg,Zh,Zi,Zd,Ze,zF],by simp-implicitDefEqProofs only[go_sem,zS,↓reduceIte,Za,Zb,Zc,reduceCtorEq,zU,zV,Zf,Zg,Zh,Zi,Zd,Ze,zF],?_⟩;have YS:∀e,(PM.ldn 5 (.v 5)).val (A.rd e f) A0=.agg #[s,b,d,a,m]:=fun e=>by simp-implicitDefEqProofs only[go_sem,zS,↓reduceIte,Za,Zb,Zc,reduceCtorEq,zU,zV,Zf,Zg,Zh,Zi,Zd,Ze,zF,h5,l5]
 simp only[PX.val,YS,jA,qQ,lg,h6,h9];have C1:∀X,af (fun _=>False) A0 X->ak P (ι.f 379) #[.pointer (some ⟨rb,0,none⟩)] X fun r X'=>Ho A0 st 55 X' r/\af (fun _=>False) X X':=fun X K=>(hs.1 _ _ st rb X (hI.run.ai K) (by omega)).mono fun r X' ⟨O,_,K'⟩=>⟨O.sl,K'⟩
 have C2:∀X v55,af (fun _=>False) A0 X->Ho A0 st 55 X v55->ak P (ι.f 376) #[.agg #[s,b,d,a,m],lv,v55] X (PE (aZ (bT r) ((aN r).map bt)) st X):=fun X v55 K h55=>by
  have h55:aM X v55 (iL st):=h55;refine(hp (bT r) ((aN r).map bt) vs st _ _ _ X X (af.refl _ _) (hF.ai K) (hl.ag K (by simp)) g1 hel.symm (fun i hi=>(g2 i hi).ai K) h55 (.inr (by omega)) (gx r) (by rw[hfx,hel];exact hI.ok.U)).mono ?_;rintro x X' ⟨pv,rfl,h1,h2⟩;rw[hfx]at h1;refine⟨pv,rfl,fun Y W KW hW=>h1 Y W KW fun q hq=>⟨(hW q hq).1,.inr (hW q hq).2⟩,h2⟩
 have N:∀X b,A0.size<=b->Bl X b (#[.slice none 0 0,.slice none 0 0,.slice none 0 0,.slice none 0 0,.slice none 0 0]:Array Value).toList->Ho A0 st 13 X (.pointer (some ⟨b,0,none⟩)):=fun X b h B=>⟨b,rfl,h,B⟩
 have Ld:∀X l e v2 v55 m',o9 (Ho A0 st) A0 X l->(13,v2)∈l->(55,v55)∈l->look e 52=.agg #[s,b,d,a,m]->look e 53=lv->look e 55=v55->cT P (fun q=>A0.size<=q) m' e (bw f 13 v2) X (Qb .n)->cT P (fun q=>A0.size<=q) (.wcons (.t 56) none (.call (ι.f 376) [.t 52,.t 53,.t 55]) (ZO 56 51 57 58 13 14) m') e (bw f 13 v2) X (Qb .n):=fun X l e v2 v55 m' S m2 m55 e52 e53 e55 hm=>by
  obtain⟨b,rfl,hb,B⟩:∃b,v2=.pointer (some ⟨b,0,none⟩)/\A0.size<=b/\Bl X b ue:=S.v _ m2;exact KR (C2 X v55 S.k (S.v _ m55)) (by simp only[List.map_cons,List.map_nil,nO,e52,e53,e55]) hK hb S.k B (fun j h2 _=>by simp only[bw,h2,if_false]) (by simp only[bw,if_true]) (by decide) (by decide) (by decide) hm
 have Le:∀X l e v55 m',o9 (Ho A0 st) A0 X l->(55,v55)∈l->look e 52=.agg #[s,b,d,a,m]->look e 53=lv->look e 55=v55->cT P (fun q=>A0.size<=q) m' e f X (Qb .n)->cT P (fun q=>A0.size<=q) (.wcons (.t 56) none (.call (ι.f 376) [.t 52,.t 53,.t 55]) (ZP ι 56 51 57 58 13 14) m') e f X (Qb .n):=fun X l e v55 m' S m55 e52 e53 e55 hm=>
  KU (C2 X v55 S.k (S.v _ m55)) (by simp only[List.map_cons,List.map_nil,nO,e52,e53,e55]) hK S.k (fun j _ _=>rfl) (by decide) (by decide) (by decide) hm
 repeat' (first
  |exact trivial
  |refine Ld _ _ _ _ _ _ (by assumption) (by simp) (by simp[aS]) rfl rfl rfl ?_
  |refine Le _ _ _ _ _ (by assumption) (by simp[aS]) rfl rfl rfl ?_
  |refine o9.call Ho.ag (by assumption) C1 rfl (fun _ _ _=>?_) ?_
  |refine o9.new Ho.ag (by assumption) N (fun _ _ _=>?_) ?_)
end Go.Mg
namespace Go.Mg
open Go Go.RowKit
variable {P:Program} {ι:aC}
theorem Us (c:XP P ι) {r:cQ} {st:List Int} {f:Fr} {A0:Hp} {rb k:Nat} {pv:Value} {vs:List Value} {Qb:Ex->Fr->Hp->Prop} (hT:aU ι A0) (h9:f 9=.pointer (some ⟨rb,0,none⟩)) (h17:f 17=pv) (h19:f 19=.int .i64 (k:Int)) (hI:PO r A0 rb st)
  (hp:aM A0 pv vs) (hvl:vs.length=(bT r).st.length) (hvs:∀j<(bT r).st.length,aM A0 (vs.getD j undef) (iN (uf (aZ (bT r) ((aN r).map bt)) st j))) (hk:k∈jb (bT r).st.length (bT r).be (bR st st.length))
  (hK:∀X,af (fun _=>False) A0 X->Qb .n (bw f 102 (.bool false)) X):vc P (Lp ι) Qb f A0:=by
 unfold Lp kW kX ka kg;have h5:=ya r;have hel:=tF r;have hsl:=hI.ok.1;have rE:=(Am hsl (by omega) hk).1;obtain⟨pb,po,pc,Yy,hld⟩:=hp.ld1 (i:=k) (by omega);have hS:=hvs k rE;have hb:(0:Int)<=(k:Int)/\(k:Int)<(vs.length:Int):=by omega
 generalize vs.getD k undef=wv at*;have c1:=fO hld (j:=0) (by omega);have c1:cell A0 ⟨pb,po+k,none⟩=some wv:=c1;refine bj (fun _=>False) ?_;simp-implicitDefEqProofs only[go_sem,zS,↓reduceIte,Za,Zb,Zc,reduceCtorEq,ae,zU,zV,Zf,Zg,Zh,Zi,Zd,Ze,zF,h9,h17,h19,Yy,aj,Nat.mul_one,hb,c1];refine(c.usr _ _ st rb k A0 hT hI.run (wS r) (by omega) (by omega) (gx r) (Ap r hI.ok)).mono ?_;rintro x X1 ⟨hx,-,K1⟩;rw[PJ hI.ok (by omega) (dt r) hk]at hx;rw[aF];refine⟨K1,?_⟩;simp-implicitDefEqProofs only[go_sem,zS,↓reduceIte,Za,Zb,Zc,reduceCtorEq,ae,zU,zV,Zf,Zg,Zh,Zi,Zd,Ze,zF];have uL:(uf (aZ (bT r) ((aN r).map bt)) st k).length<=1000000:=by
  unfold uf;refine Nat.le_trans (List.length_filter_le _ _) ?_;unfold aJ;exact Nat.le_trans (List.length_filter_le _ _) (by simp)
 refine(c.eqI (nI (uf (aZ (bT r) ((aN r).map bt)) st k)) (nI (uf (aZ (bT r) ((aN r).map bt)) st k)) _ wv X1 hx (hS.ag K1 (by simp)) (by simpa[nI]using uL)).mono ?_;rintro y X2 ⟨rfl,rfl⟩;rw[aF];refine⟨af.refl _ _,?_⟩;have hd:∀l:List Int,decide (l=l)=true:=fun l=>decide_eq_true rfl;simp-implicitDefEqProofs only[go_sem,zS,↓reduceIte,Za,Zb,Zc,reduceCtorEq,ae,zU,zV,Zf,Zg,Zh,Zi,Zd,Ze,zF,hd,Bool.not_true];exact hK _ K1
theorem PS {k:FuncId} (hk:an P k (DY ι) DZ 2) (c:XP P ι):∀(r:cQ) (acts:List (UInt8×UInt8)) (v w:Value) (H:Hp),aU ι H->lz H v r->bk jQ 2 H w acts->ak P k #[v,w] H fun x H'=>x=.bool true/\af (fun _=>False) H H':=by
 intro r acts v w H hT hv hw;refine qI fun Q hQ=>?_;have hvr:=hv;obtain⟨h0,ro,be,di,sa,mo,el,rfl,_⟩:=hv;refine ah hk (args:=[_,_]) (by simp) ?_;unfold DY DZ kA kB kF kC kD ke kG kH kK kL kM kO kQ kR kS kT kU kV kc kd kf kg kY kZ;simp-implicitDefEqProofs only[go_sem,zS,↓reduceIte,Za,Zb,Zc,reduceCtorEq,zU,zV,Zf,Zg,Zh,Zi,Zd,Ze,zF];refine al fun H1 b2 e1 z1 B1 K1=>?_;have cf:Bl H1 b2 [.int .u8 (r.n:Int),ro,be,di,sa,mo,el]:=B1;simp-implicitDefEqProofs only[go_sem,zS,↓reduceIte,Za,Zb,Zc,reduceCtorEq,zU,zV,Zf,Zg,Zh,Zi,Zd,Ze,zF];refine(c.aw H1 (hT.ag K1)).mono ?_;rintro x H2 ⟨rfl,K2⟩;have cG:=K1.trans K2;have fY:=K2.bl cf (by simp);rw[ae];simp-implicitDefEqProofs only[go_sem,zS,↓reduceIte,Za,Zb,Zc,reduceCtorEq,zU,zV,Zf,Zg,Zh,Zi,Zd,Ze,zF,Bool.not_true,fY.aD 7 rfl];refine(c.mak r _ H2 (lz.ai hvr cG)).mono ?_;rintro x H3 ⟨fv,lv,mv,uv,rfl,hP,hL,hM,hU,K3⟩;have ew:=cG.trans K3;have hP:=hP.fl;have Vt:=hP;have hM0:=hM;obtain⟨s,b,d,a,m,ms,rfl,hFs,_⟩:=hP;obtain⟨s',b',d',a',m',rfl,_⟩:=hM;rw[ae];simp-implicitDefEqProofs only[go_sem,zS,↓reduceIte,Za,Zb,Zc,reduceCtorEq,zU,zV,Zf,Zg,Zh,Zi,Zd,Ze,zF];refine al fun H4 b5 e4 z4 B4 K4=>?_;have mM:Bl H4 b5 [.slice none 0 0,.slice none 0 0,.slice none 0 0,.slice none 0 0,.slice none 0 0]:=B4;simp-implicitDefEqProofs only[go_sem,zS,↓reduceIte,Za,Zb,Zc,reduceCtorEq,zU,zV,Zf,Zg,Zh,Zi,Zd,Ze,zF];refine al fun H5 b7 e5 z5 B5 K5=>?_;have nK:Bl H5 b7 [.slice none 0 0,.slice none 0 0,.slice none 0 0,.slice none 0 0,.slice none 0 0]:=B5;have s4:=K4.size;have s5:=K5.size;have RB:=K5.bl mM (by simp);have t4:=RB.bK (o:=0) (n:=5) (by simp);have C5:=RB.az 0 [s,b,d,a,m];have L1:af (fun q=>q=b5) H5 (az H5 ⟨b5,0,none⟩ [s,b,d,a,m]):=(af.refl _ _).az _ (.inl rfl);have D7:=L1.bl nK (by omega);have t7:=D7.bK (o:=0) (n:=5) (by simp);have L2:af (fun q=>q=b7) (az H5 ⟨b5,0,none⟩ [s,b,d,a,m]) (az (az H5 ⟨b5,0,none⟩ [s,b,d,a,m]) ⟨b7,0,none⟩ [s',b',d',a',m']):=(af.refl _ _).az _ (.inl rfl);have D5:=L2.bl C5 (by omega);have ha:bI #[s,b,d,a,m]:=Vt.bI;have Mu:bI #[s',b',d',a',m']:=hM0.bI;simp-implicitDefEqProofs only[go_sem,zS,↓reduceIte,Za,Zb,Zc,reduceCtorEq,zU,zV,Zf,Zg,Zh,Zi,Zd,Ze,zF,t4,t7];refine⟨ha,?_⟩;rw[ae];simp-implicitDefEqProofs only[go_sem,zS,↓reduceIte,Za,Zb,Zc,reduceCtorEq,zU,zV,Zf,Zg,Zh,Zi,Zd,Ze,zF,t7];refine⟨Mu,?_⟩;generalize az (az H5 ⟨b5,0,none⟩ [s,b,d,a,m]) ⟨b7,0,none⟩ [s',b',d',a',m']=H6 at L2 D5⊢;have XQ:af (fun _=>False) H3 H6:=((K4.trans K5).trans' L1 fun q hq h=>by omega).trans' L2 fun q hq h=>by omega
 have F9:=ew.trans XQ;have C5':Bl H6 b5 [s,b,d,a,m]:=D5;have p6:=Vt.ai XQ;have acG:=hFs.ai XQ;obtain⟨vs,OL,RL,-,-⟩:=hL;have RL6:=RL.ai XQ;have OL6:=OL.sl.ag XQ (by simp);have hnu:=gg r;have pO:=dm r;have hel:=tF r;have h5:=ya r;rw[ae];simp-implicitDefEqProofs only[go_sem,zS,↓reduceIte,Za,Zb,Zc,reduceCtorEq,zU,zV,Zf,Zg,Zh,Zi,Zd,Ze,zF,C5'.aD 5 rfl];refine(PQ c.sta (r:=r) (hT.ag F9) p6 OL6 RL6).mono ?_;rintro x H7 ⟨K7,hx⟩;have AE:=F9.trans K7;have sD:((0:Int)!=0)=false:=rfl;have Rs:((0:Int)==0)=true:=rfl;have e12:((12:Int)==12)=true:=rfl;have acH:((12:Int)!=0)=true:=rfl;rw[ae];rcases hx with⟨gX,rfl⟩|⟨hs1,rb,rfl,hI⟩
 ·simp-implicitDefEqProofs only[go_sem,zS,↓reduceIte,Za,Zb,Zc,reduceCtorEq,ae,zU,zV,Zf,Zg,Zh,Zi,Zd,Ze,zF,acH,e12];rw[hQ];exact⟨rfl,AE⟩
 simp-implicitDefEqProofs only[go_sem,zS,↓reduceIte,Za,Zb,Zc,reduceCtorEq,zU,zV,Zf,Zg,Zh,Zi,Zd,Ze,zF,sD];have C7:=K7.bl C5' (by simp);have p7:=p6.ai K7;have OL7:=OL6.ag K7 (by simp);have RL7:=RL6.ai K7;have ady:=acG.ai K7;have hw7:=hw.ai AE;have lim:∀st:List Int,yk (bT r).st.length st->(fz (bT r) (aN r) st).length<=1024:=fun st hst=>Lj hst.1 h5 (dt r);refine aP [48,13,14,15,16,78,4,17,86,88,89,90,91,19,102,107,20,21,128,9,11,12] rfl (fun n f A=>∃(i rb:Nat) (bb:Nat) (st:List Int),i<=9/\n+i=9/\f 12=.int .i64 (i:Int)/\f 9=.pointer (some ⟨rb,0,none⟩)/\f 11=.int .i64 (bb:Int)/\PO r A rb st/\(fz (bT r) (aN r) st).length<=bb/\af (fun _=>False) H7 A) 9 ⟨0,rb,1024,DX r,by omega,by omega,by simp-implicitDefEqProofs only[go_sem,zS,↓reduceIte,Za,Zb,Zc,reduceCtorEq,ae,zU,zV,Zf,Zg,Zh,Zi,Zd,Ze],by simp-implicitDefEqProofs only[go_sem,zS,↓reduceIte,Za,Zb,Zc,reduceCtorEq,ae,zU,zV,Zf,Zg,Zh,Zi,Zd,Ze],by simp-implicitDefEqProofs only[go_sem,zS,↓reduceIte,Za,Zb,Zc,reduceCtorEq,ae,zU,zV,Zf,Zg,Zh,Zi,Zd,Ze],hI,lim _ hI.ok,af.refl _ _⟩ ?_;rintro n f A ⟨i,E8,bb,st,hi9,Hi,f12,f9,f11,PT,hbb,KA⟩;simp-implicitDefEqProofs only[go_sem,zS,↓reduceIte,Za,Zb,Zc,reduceCtorEq,ae,zU,zV,Zf,Zg,Zh,Zi,Zd,Ze]at f12 f9 f11;have Oy:=AE.trans KA;have hsl:=PT.ok.1;have lw:aO w=acts.length:=hw.len;have XR:aq w:=hw.aq
 by_cases h1:(i:Int)<=(acts.length:Int)
 case neg=>
  have d1:decide ((i:Int)<=(acts.length:Int))=false:=decide_eq_false h1;simp-implicitDefEqProofs only[go_sem,zS,↓reduceIte,Za,Zb,Zc,reduceCtorEq,zU,zV,Zf,Zg,Zh,Zi,Zd,Ze,zF,f12,lw,XR,d1];rw[hQ];exact⟨rfl,Oy⟩
 have d1:decide ((i:Int)<=(acts.length:Int))=true:=decide_eq_true h1
 by_cases h2:(i:Int)<=8
 case neg=>
  have d2:decide ((i:Int)<=8)=false:=decide_eq_false h2;simp-implicitDefEqProofs only[go_sem,zS,↓reduceIte,Za,Zb,Zc,reduceCtorEq,zU,zV,Zf,Zg,Zh,Zi,Zd,Ze,zF,f12,lw,XR,d1,d2];rw[hQ];exact⟨rfl,Oy⟩
 have d2:decide ((i:Int)<=8)=true:=decide_eq_true h2;have CA:=KA.bl C7 (by simp);have RLA:=RL7.ai KA;simp-implicitDefEqProofs only[go_sem,zS,↓reduceIte,Za,Zb,Zc,reduceCtorEq,zU,zV,Zf,Zg,Zh,Zi,Zd,Ze,zF,f12,lw,XR,d1,d2];refine Ur c.stf c.prb (r:=r) (st:=st) (b5:=b5) (rb:=E8) (by simp-implicitDefEqProofs only[go_sem,zS,↓reduceIte,Za,Zb,Zc,reduceCtorEq,ae,zU,zV,Zf,Zg,Zh,Zi,Zd,Ze]) rfl (by simp-implicitDefEqProofs only[go_sem,zS,↓reduceIte,Za,Zb,Zc,reduceCtorEq,ae,zU,zV,Zf,Zg,Zh,Zi,Zd,Ze,f9]) CA (p7.ai KA) (OL7.ag KA (by simp)) RLA PT ?_;intro g X b13 w1 w2 w3 w4 w5 hf g13 g14 adz gC PX KX;have g1:g 1=w:=by rw[hf 1 (by decide) (by decide)];simp-implicitDefEqProofs only[go_sem,zS,↓reduceIte,Za,Zb,Zc,reduceCtorEq,ae,zU,zV,Zf,Zg,Zh,Zi,Zd,Ze]
 have g5:g 5=.pointer (some ⟨b5,0,none⟩):=by rw[hf 5 (by decide) (by decide)];simp-implicitDefEqProofs only[go_sem,zS,↓reduceIte,Za,Zb,Zc,reduceCtorEq,ae,zU,zV,Zf,Zg,Zh,Zi,Zd,Ze]
 have g6:g 6=lv:=by rw[hf 6 (by decide) (by decide)];simp-implicitDefEqProofs only[go_sem,zS,↓reduceIte,Za,Zb,Zc,reduceCtorEq,ae,zU,zV,Zf,Zg,Zh,Zi,Zd,Ze]
 have g9:g 9=.pointer (some ⟨E8,0,none⟩):=by rw[hf 9 (by decide) (by decide)];simp-implicitDefEqProofs only[go_sem,zS,↓reduceIte,Za,Zb,Zc,reduceCtorEq,ae,zU,zV,Zf,Zg,Zh,Zi,Zd,Ze,f9]
 have g11:g 11=.int .i64 (bb:Int):=by rw[hf 11 (by decide) (by decide)];simp-implicitDefEqProofs only[go_sem,zS,↓reduceIte,Za,Zb,Zc,reduceCtorEq,ae,zU,zV,Zf,Zg,Zh,Zi,Zd,Ze,f11]
 have g12:g 12=.int .i64 (i:Int):=by rw[hf 12 (by decide) (by decide)];simp-implicitDefEqProofs only[go_sem,zS,↓reduceIte,Za,Zb,Zc,reduceCtorEq,ae,zU,zV,Zf,Zg,Zh,Zi,Zd,Ze,f12]
 have ZJ:=Oy.trans KX;have hSB:=qw r PT.ok;obtain⟨wd,hwd,acI,acJ⟩:=hSB.w;have IA:en (aZ (bT r) ((aN r).map bt)) (cK st+1) st=fz (bT r) (aN r) st:=xL hsl (dt r);have hlim:=lim st PT.ok;have SN:0<(fz (bT r) (aN r) st).length:=List.length_pos_iff.2 PT.ne;have l13:aD X (.pointer (some ⟨b13,0,none⟩)) 5=some #[w1,w2,w3,w4,w5]:=gC.aD 5 rfl;have cnt:=c.cnt (aZ (bT r) ((aN r).map bt)) st wd 2000 _ X (hT.ag ZJ) PX (gx r) hSB.u hwd acI acJ (by omega) (by omega) (by rw[IA];omega);rw[IA]at cnt;obtain⟨nn,Q5⟩:∃nn,nn=(fz (bT r) (aN r) st).length:=⟨_,rfl⟩
 rw[<-Q5]at cnt hlim SN hbb;have d3:decide ((nn:Int)<1)=false:=decide_eq_false (by omega);have d4:decide ((bb:Int)<(nn:Int))=false:=decide_eq_false (by omega);simp-implicitDefEqProofs only[go_sem,zS,↓reduceIte,Za,Zb,Zc,reduceCtorEq,zU,zV,Zf,Zg,Zh,Zi,Zd,Ze,zF,g13,l13];refine cnt.mono ?_;rintro x X1 ⟨rfl,K8⟩;rw[ae];have acK:=K8.bl gC (by simp);have l13:aD X1 (.pointer (some ⟨b13,0,none⟩)) 5=some #[w1,w2,w3,w4,w5]:=acK.aD 5 rfl;have XS:=ZJ.trans K8;simp-implicitDefEqProofs only[go_sem,zS,↓reduceIte,Za,Zb,Zc,reduceCtorEq,zU,zV,Zf,Zg,Zh,Zi,Zd,Ze,zF,g13,g14,sD,d3,d4,g11,l13];have GN:(cM (aZ (bT r) ((aN r).map bt)) st).isSome=true:=by
  rw[k8 hsl (dt r)]
  cases h:fz (bT r) (aN r) st with
  |nil=>exact absurd h PT.ne
  |cons a l=>rfl
 refine(c.pos (aZ (bT r) ((aN r).map bt)) st _ X1 (hT.ag XS) (PX.ai K8) (gx r) hSB (fun k u hk hu=>qw r (PT.ok.set (by have:=Lm r k u hu;omega))) GN).mono ?_;rintro pv X2 ⟨⟨pvs,hpv,ML,hps⟩,K9⟩;have acL:(aZ (bT r) ((aN r).map bt)).el.length=(bT r).st.length:=tF r;rw[acL]at ML hps;have XT:=XS.trans K9;have lC:=(KX.trans K8).trans K9;have C2:=lC.bl CA (by simp);have c50:cell X2 ⟨b5,0,none⟩=some s:=by rw[C2.cell];rfl
 have ls:aO s=(bT r).st.length:=hFs.len;have sls:aq s:=hFs.aq;have lpv:aO pv=(bT r).st.length:=by rw[hpv.len,ML]
 have spv:aq pv:=hpv.aq;have d5:(((bT r).st.length:Int)!=((bT r).st.length:Int))=false:=bne_self_eq_false _;rw[ae];simp-implicitDefEqProofs only[go_sem,zS,↓reduceIte,Za,Zb,Zc,reduceCtorEq,zU,zV,Zf,Zg,Zh,Zi,Zd,Ze,zF,c50,ls,sls,lpv,spv,d5,g5];have hR2:=PT.ai lC;simp-implicitDefEqProofs only[go_sem,zS,↓reduceIte,Za,Zb,Zc,reduceCtorEq,zU,zV,Zf,Zg,Zh,Zi,Zd,Ze,zF,g9];refine(c.Ez.1 _ _ st E8 X2 (hT.ag XT) hR2.run (wS r) (by omega)).mono ?_;rintro rv X3 ⟨F1,og⟩;rw[ae];have acM:=XT.trans og;have lrv:aO rv=(jb (bT r).st.length (bT r).be (bR st st.length)).length:=by rw[F1.len,aW]
 obtain⟨rd,hrd⟩:∃rd,rd=jb (bT r).st.length (bT r).be (bR st st.length):=⟨_,rfl⟩
 rw[<-hrd]at F1 lrv;have adA:rd.length<=1000:=by
  rw[hrd];unfold jb;exact Nat.le_trans (List.length_filter_le _ _) (by rw[List.length_range];omega)
 simp-implicitDefEqProofs only[go_sem,zS,↓reduceIte,Za,Zb,Zc,reduceCtorEq,zU,zV,Zf,Zg,Zh,Zi,Zd,Ze,zF,lrv,F1.aq];refine aP [91,19,102,4,90] rfl (fun t f Y=>∃j:Nat,j<=rd.length/\t=rd.length -j/\f 90=.int .i64 (j:Int)/\af (fun _=>False) X3 Y) rd.length ⟨0,by omega,by omega,by simp-implicitDefEqProofs only[go_sem,zS,↓reduceIte,Za,Zb,Zc,reduceCtorEq,ae,zU,zV,Zf,Zg,Zh,Zi,Zd,Ze],af.refl _ _⟩ ?_;rintro t f Y ⟨j,hj,rfl,f90,KY⟩;simp-implicitDefEqProofs only[go_sem,zS,↓reduceIte,Za,Zb,Zc,reduceCtorEq,ae,zU,zV,Zf,Zg,Zh,Zi,Zd,Ze]at f90;have K0Y:=acM.trans KY;have KAY:=lC.trans (og.trans KY);have hRY:=PT.ai KAY;simp-implicitDefEqProofs only[go_sem,zS,↓reduceIte,Za,Zb,Zc,reduceCtorEq,zU,zV,Zf,Zg,Zh,Zi,Zd,Ze,zF,f90];refine aH (fun hlt=>?_) (fun jt=>?_)
 ·have hlt:j<rd.length:=by omega
  obtain⟨qb,qo,qc,hre,hld⟩:=(F1.ag KY (by simp)).ld1 (i:=j) (by rw[aW];exact hlt);have cq:=fO hld (j:=0) (by omega);have cq:cell Y ⟨qb,qo+j,none⟩=some ((iN rd).getD j undef):=cq;have Wq:(iN rd).getD j undef=.int .i64 (rd[j]:Int):=by simp[iN,iL,hlt]
  rw[Wq]at cq;rw[aW]at hre;have XE:(0:Int)<=(j:Int)/\(j:Int)<(rd.length:Int):=by omega
  have wj:IntKind.i64.wrap ((j:Int)+1)=((j+1:Nat):Int):=by rw[IntWalk.i64_in _ (by omega)];rfl
  simp-implicitDefEqProofs only[go_sem,zS,↓reduceIte,Za,Zb,Zc,reduceCtorEq,zU,zV,Zf,Zg,Zh,Zi,Zd,Ze,zF,hre,aj,Nat.mul_one,XE,cq];refine Us c (r:=r) (st:=st) (rb:=E8) (k:=rd[j]) (pv:=pv) (vs:=pvs) (hT.ag K0Y) (by simp-implicitDefEqProofs only[go_sem,zS,↓reduceIte,Za,Zb,Zc,reduceCtorEq,ae,zU,zV,Zf,Zg,Zh,Zi,Zd,Ze,g9]) (by simp-implicitDefEqProofs only[go_sem,zS,↓reduceIte,Za,Zb,Zc,reduceCtorEq,ae,zU,zV,Zf,Zg,Zh,Zi,Zd,Ze]) (by simp-implicitDefEqProofs only[go_sem,zS,↓reduceIte,Za,Zb,Zc,reduceCtorEq,ae,zU,zV,Zf,Zg,Zh,Zi,Zd,Ze]) hRY (hpv.ag (og.trans KY) (by simp)) ML (fun j hj=>(hps j hj).ag (og.trans KY) (by simp)) (by rw[<-hrd];exact List.getElem_mem _) fun Z KZ=>?_;simp-implicitDefEqProofs only[go_sem,zS,↓reduceIte,Za,Zb,Zc,reduceCtorEq,ae,zU,zV,Zf,Zg,Zh,Zi,Zd,Ze,zF,f90,wj];exact⟨rd.length -(j+1),by omega,j+1,by omega,by omega,rfl,KY.trans KZ⟩
 by_cases h3:(i:Int)=(acts.length:Int)
 ·have d6:((i:Int)==(acts.length:Int))=true:=by simpa using h3
  simp-implicitDefEqProofs only[go_sem,zS,↓reduceIte,Za,Zb,Zc,reduceCtorEq,zU,zV,Zf,Zg,Zh,Zi,Zd,Ze,zF,g12,g1,lw,XR,d6];rw[hQ];exact⟨rfl,K0Y⟩
 have d6:((i:Int)==(acts.length:Int))=false:=by simpa using h3
 have hi:i<acts.length:=by omega
 obtain⟨ab,ao,ac,jr,-,hld⟩:=(hw7.ai (KA.trans KAY)).elem gh hi;obtain⟨x,hx⟩:∃x,x=acts[i]:=⟨_,rfl⟩
 rw[<-hx]at hld;have cP:aR Y ⟨ab,ao+i*2,none⟩ 2=some [Value.int .u8 x.1.toNat,.int .u8 x.2.toNat].toArray:=hld;have hc0:=fO cP (j:=0) (by omega);have hc1:=fO cP (j:=1) (by omega);have hc0:cell Y ⟨ab,ao+i*2,none⟩=some (.int .u8 x.1.toNat):=hc0;have hc1:cell Y ⟨ab,ao+i*2+1,none⟩=some (.int .u8 x.2.toNat):=hc1;obtain⟨x1,hx1⟩:∃y:Nat,y=x.1.toNat % 6:=⟨_,rfl⟩
 obtain⟨x2,Mz⟩:∃y:Nat,y=x.2.toNat % 6:=⟨_,rfl⟩
 have m1:((x.1.toNat:Int)).tmod 6=(x1:Int):=by rw[hx1];exact cY _ _
 have m2:((x.2.toNat:Int)).tmod 6=(x2:Int):=by rw[Mz];exact cY _ _
 have y1:IntKind.i64.wrap (x1:Int)=(x1:Int):=IntWalk.i64_in _ (by omega);have y2':IntKind.i64.wrap (x2:Int)=(x2:Int):=IntWalk.i64_in _ (by omega);have wi:IntKind.i64.wrap ((i:Int)+1)=((i+1:Nat):Int):=by rw[IntWalk.i64_in _ (by omega)];rfl
 simp-implicitDefEqProofs only[go_sem,zS,↓reduceIte,Za,Zb,Zc,reduceCtorEq,zU,zV,Zf,Zg,Zh,Zi,Zd,Ze,zF,g12,g1,lw,XR,d6];unfold RC kW kX ka kg;refine bj (fun _=>False) ?_;simp-implicitDefEqProofs only[go_sem,zS,↓reduceIte,Za,Zb,Zc,reduceCtorEq,ae,zU,zV,Zf,Zg,Zh,Zi,Zd,Ze,zF,g12,g1,g9,jr,aj,hc0,hc1,Nat.add_zero,m1,m2,y1,y2'];refine⟨by omega,by decide,by omega,by decide,(Ln c.gra (hT.ag K0Y) hRY x1 x2).mono ?_⟩;rintro y3 Z ⟨nx,e,rfl,KZ,Kn⟩;rw[aF];refine⟨KZ,?_⟩;have KAZ:=KA.trans (KAY.trans KZ);rcases Kn with⟨he,rfl⟩|⟨rfl,rbn,jj,u,rfl,hIn,j1,j2,j3⟩
 ·have e0:(e==0)=false:=by simpa using he
  simp-implicitDefEqProofs only[go_sem,zS,↓reduceIte,Za,Zb,Zc,reduceCtorEq,ae,zU,zV,Zf,Zg,Zh,Zi,Zd,Ze,zF,e0,g12,g9,wi];exact⟨n -1,by omega,i+1,E8,nn,st,by omega,by omega,rfl,rfl,rfl,hRY.ai KZ,by omega,KAZ⟩
 ·simp-implicitDefEqProofs only[go_sem,zS,↓reduceIte,Za,Zb,Zc,reduceCtorEq,ae,zU,zV,Zf,Zg,Zh,Zi,Zd,Ze,zF,Rs,g12,wi];refine⟨n -1,by omega,i+1,rbn,nn,st.set jj u,by omega,by omega,rfl,rfl,rfl,hIn,?_,KAZ⟩;rw[Q5];exact Lk j1 j2 j3
end Go.Mg

/- Lemmas of ours. No conditions. -/
import Derived.Test.YtoclemmcphgikaaGreatDoorMgGP
open Bool renaming false→ZS,true→ZT
open Decidable renaming decide→ZQ
open Go renaming Value→ZR
open Go.IntKind renaming i64→ZY,u8→ZX
open Go.Value renaming agg→Z0,bool→Z5,int→Z8,pointer→Z7,slice→Z6,tuple→ZZ
open Option renaming none→ZU,some→ZV
open Bool renaming false_and→Yy,not_true→ZE
open Classical renaming byContradiction→Zn
open List renaming append_nil→YY,filter_append→XD,getD_eq_getElem?_getD→ZP,getElem?_eq_none→Zz,length_filter_le→YS,length_range→Xl,mem_cons→YW,not_mem_nil→Zk,range→ZF
open Nat renaming pow_le_pow_right→YO
open Nat renaming reduceEqDiff→Za,reduceAdd→Zb,reduceMul→Zc,reduceLeDiff→Zd,reduceLT→Ze
open Int renaming reduceBEq→Zf,reduceBNe→Zg,reduceLE→Zh,reduceLT→Zi
set_option maxRecDepth 100000
set_option linter.all false
namespace Go.Mg
open Go Go.RowKit
def SC (V:aH):S:=
 (.dr (kW 45 (.mv (.v 7)) (kW 47 (.mv (.v 9)) (kX 4 (.mv (.t 45)) (ka 46 (.rd (.m (.ldn 7 (.v 8)))) (kb (.stn 7 (.v 5) (.t 46)) (kX 6 (.mv (.t 47)) .done) .wnil) .wnil)))))
def CC (V:aH):S:=
 kY [kR 2 (V.t 288) 0,kC 4 (Z7 .none),kd 5 (.new (V.t 396) #[kZ,kZ,kZ,kZ,kZ,kZ,kZ]),kC 6 (Z5 ZS)] (kY [kM 12 7 2,kc 13 (kg (V.f 401) [.t 12]),kF 11 13,kQ 14 11 0,kQ 15 11 1,kQ 16 11 2,kd 8 (.new (V.t 396) #[kZ,kZ,kZ,kZ,kZ,kZ,kZ]),kB 7 14,kf (.stn 7 (.v 8) (.t 15)),kB 9 16] (.seq (kY [kC 10 (Z8 ZY 0)] (.blk 0 (.loop (.seq (kY [kA 17 10,kA 18 1,kL 19 18,kU 20 (.cm .lss ZY (.t 17) (.t 19)),kF 21 20,kS 22 21 ZT 10,kT 23 21 ZT (.cm .lss ZY (.t 22) (.c (Z8 ZY 12))),kJ 24 21 23,kF 25 24,kS 26 25 ZT 9,kJ 27 25 26,kF 28 27,kS 29 28 ZT 7,kT 30 28 ZT (.m (.eqn .ptr ZT (.t 29))),kV 31 (.pick (.t 28) (.t 30) (.c (Z5 ZS)))] (.ite (.v 31) .skip (.exit 0))) (.seq (.blk 1 (.dr (kW 35 (.mv (.v 7)) (kW 37 (.mv (.v 1)) (kW 38 (.mv (.v 10)) (kW 39 (.is 2 (.t 37) (.t 38)) (kW 40 (.m (.ldn 2 (.t 39))) (ka 36 (.rd (.m (.ldn 7 (.v 8)))) (ka 41 (kg (V.f 404) [.t 35,.t 36,.t 40]) (kW 34 (.mv (.t 41)) (kW 42 (.ext (.t 34) 0) (kW 43 (.ext (.t 34) 1) (kW 44 (.ext (.t 34) 2) (kX 7 (.mv (.t 42)) (kb (.stn 7 (.v 8) (.t 43)) (kX 9 (.mv (.t 44)) .done) .wnil)))))) .wnil) .wnil)))))))) (.reg [kA 32 10,kU 33 (.ar .add ZY (.t 32) (.c (Z8 ZY 1))),kB 10 33])))))) (.seq (SC V) .ret)))
def CD:List RV:=[.t 4,.cn 5 7,.t 6]
variable {W W':Nat->Prop} {H:Hp} {rb:Nat} {F:cf} {st:List Int} {r:cF} {P:Program} {V:aH} {k:FuncId}
def dY.mono (h:dY W H rb) (hw:∀q,W' q->W q):dY W' H rb:=by
 obtain⟨a1,ev,a2,a3⟩:=h;exact⟨fun h=>a1 (hw _ h),ev,a2,fun q hq h=>a3 q hq (hw _ h)⟩
def dY.or (h:dY W H rb) (h':dY W' H rb):dY (fun q=>W q\/W' q) H rb:=by
 obtain⟨a1,ev,a2,a3⟩:=h;obtain⟨b1,Cw,b2,b3⟩:=h';rw[a2]at b2
 cases b2
 exact⟨fun h=>h.elim a1 b1,ev,a2,fun q hq h=>h.elim (a3 q hq) (b3 q hq)⟩
def cH.aie {el:List (Nat->Bool)} (h:cH H rb F el st) (hW:∀q,W q->H.size<=q):dY W H rb:=by
 obtain⟨s,b,d,a,m,ev,sv,vs,h1,h2,h3,h4,h5,h6,h7⟩:=h;exact⟨fun h=>by have:=hW _ h;have:=h1.lt;omega,ev,by rw[h1.cell];rfl,fun q hq h=>by have:=hW _ h;have:=h3.bo hq;omega⟩
def cH.aif {p:Nat} (h:cH H rb (bu r) ((aD r).map bt) st) (hne:eN (bu r) (aD r) st≠[]) (B:Bl H p [Z6 ZU 0 0,Z6 ZU 0 0,Z6 ZU 0 0,Z6 ZU 0 0,Z6 ZU 0 0,Z6 ZU 0 0,Z6 ZU 0 0]):dY (fun q=>q=p) H rb:=by
 obtain⟨t,ht⟩:∃t,t∈eN (bu r) (aD r) st:=by
  cases h:eN (bu r) (aD r) st with
  |nil=>exact absurd h hne
  |cons a l=>exact⟨a,List.mem_cons_self⟩
 have hn:=ft r;have hl:=cK r;have hu:=(Sn ht (k:=0) (by omega)).2.2;exact h.aib (by rw[Jj];omega) (u:=(t.getD 0 0).toNat) (by rw[bN];exact hu) B fun x hx=>by
  simp only[YW,Zk,or_false,or_self]at hx;exact hx
def dp.cs {v:ZR} {ms:List UInt64} (h:dp H v F ms st):∃cs:List ZR,v=.agg cs.toArray/\cs.length=7/\(cs.all fun v=>v.oneCell')=ZT/\∀x∈cs,aq x:=by
 obtain⟨s,b,d,a,m,ev,sv,rfl,h1,h2,h3⟩:=h;obtain⟨q1,q2,q3,q4,q5⟩:=h1.sl5;refine⟨[s,b,d,a,m,ev,sv],rfl,rfl,sl7 h1.sl5 h2.aq h3.aq,fun x hx=>?_⟩;simp only[YW,Zk,or_false]at hx;rcases hx with rfl|rfl|rfl|rfl|rfl|rfl|rfl
 ·exact q1
 ·exact q2
 ·exact q3
 ·exact q4
 ·exact q5
 ·exact h2.aq
 ·exact h3.aq
def alp (r:cF) (H:Hp) (x:ZR) (H':Hp):Prop:=∃rp sv,x=ZZ #[rp,sv,Z5 ZT]/\af (fun _=>False) H H'∧
 ((eN (bu r) (aD r) (eO r)=[]/\rp=Z7 ZU/\dp H' sv (bu r) (aD r) (eO r))\/∃rb st,rp=Z7 (ZV ⟨rb,0,ZU⟩)/\Ps r H' rb sv st)
def sU (P:Program) (V:aH) (k:FuncId):Prop:=∀(r:cF) (acts:List (UInt8×UInt8)) (v w:ZR) (H:Hp),bh V H->jj H v r->bk lU 2 H w acts->an P k #[v,w] H (alp r H)
def PlS (r:cF) (b5 b8:Nat) (rp:ZR) (cs:List ZR) (A:Hp):Prop:=
 (eN (bu r) (aD r) (eO r)=[]/\rp=Z7 ZU/\dp A (.agg cs.toArray) (bu r) (aD r) (eO r))\/∃rb st,rp=Z7 (ZV ⟨rb,0,ZU⟩)/\Ps r A rb (.agg cs.toArray) st/\dY (fun q=>q=b5\/q=b8) A rb
def SE (hk:ak P k (CC V) CD 2) (hb:xl P V (V.f 401)) (hg:xn P V (V.f 404)):sU P V k:=by
 intro r acts v w H hT hv hw;refine qI fun Q hQ=>?_;have hvr:=hv;obtain⟨h0,ro,be,di,sa,mo,el,rfl,_⟩:=hv;refine ah hk (args:=[_,_]) (by simp) ?_;unfold CC CD kA kB kF kC kJ kL kM kQ kR kS kT kU kV kW kX ka kb kc kd kf kg kY kZ;simp only[go_sem,Za,Zb];refine ax fun H1 b2 e1 z1 B1 K1=>?_;have bL:Bl H1 b2 [Z8 ZX (r.n:Int),ro,be,di,sa,mo,el]:=B1;simp only[go_sem,Za,Zb];refine ax fun H2 b5 e2 z2 B2 K2=>?_;have fG:Bl H2 b5 [Z6 ZU 0 0,Z6 ZU 0 0,Z6 ZU 0 0,Z6 ZU 0 0,Z6 ZU 0 0,Z6 ZU 0 0,Z6 ZU 0 0]:=B2;have cS:=K1.trans K2;have gI:=K2.bl bL id;simp only[go_sem,Za,Zb,gI.aL 7 rfl];refine(hb r _ H2 (hT.ai cS) (jj.aj hvr cS)).mono ?_;rintro x H3 ⟨rp,sv,rfl,hR,K3,hcase⟩;obtain⟨cs,rfl,hcl,hc1,hcs⟩:=hR.cs;have eo:=cS.trans K3;have tR:=K3.bl fG id;rw[ae];simp only[go_sem,Za,Zb];refine cG cs rp rfl (by rfl) (by rfl) hcl rfl hc1 fun H4 b8 e4 z4 B4 K4=>?_;have oF:=eo.trans K4;have Lw:=K4.bl tR id;have s1:=K1.size;have s2:=K2.size;have s3:=K3.size;have l2:=fG.lt;have hS4:PlS r b5 b8 rp cs H4:=by
  rcases hcase with⟨h1,rfl⟩|⟨h1,rb,rfl,h2⟩
  ·exact .inl ⟨h1,rfl,hR.aj K4⟩
  ·refine .inr ⟨rb,eO r,rfl,⟨h2.aj K4,hR.aj K4,mQ r,h1,abY _ _⟩,?_⟩;exact((h2.aif h1 tR).or (h2.aie (W:=fun q=>q=b8) fun q e=>by omega)).aj h2.lt K4
 simp only[go_sem,Za,Zb];refine aT [31,7,9,10] rfl (fun n f A=>∃(i:Nat) (rp:ZR) (cs:List ZR),n+i=acts.length/\f 10=Z8 ZY (i:Int)/\f 9=Z5 ZT/\f 7=rp/\cs.length=7/\(∀x∈cs,aq x)/\Bl A b8 cs/\PlS r b5 b8 rp cs A/\af (fun q=>q=b8) H4 A) acts.length ⟨0,rp,cs,by omega,by simp only[go_sem,Za,Zb,ae],by simp only[go_sem,Za,Zb,ae],by simp only[go_sem,Za,Zb,ae],hcl,hcs,B4,hS4,af.refl _ _⟩ ?_;rintro n f A ⟨i,rp',SF,hni,f10,f9,f7,Oh,alq,BA,hSA,KA⟩;simp only[go_sem,Za,Zb,ae]at f10 f9 f7;have HQ:af (fun _=>False) H A:=oF.trans' KA fun q hq e=>by omega
 have UG:af (fun q=>q=b8) H2 A:=((K3.trans K4).any (W:=fun q=>q=b8)).trans KA;have NT:=UG.bl fG (by omega);have sA:=KA.size;have s4:=K4.size;have e0:(acts.length:Int)=(n:Int)+(i:Int):=by omega
 have out:∀(g:Fr),g 7=rp'->g 8=Z7 (ZV ⟨b8,0,ZU⟩)->g 9=Z5 ZT->g 5=Z7 (ZV ⟨b5,0,ZU⟩)->vc P (SC V) (yB (vc P .ret (kr [.t 4,.cn 5 7,.t 6] Q)) (kr [.t 4,.cn 5 7,.t 6] Q)) g A:=fun g g7 g8 g9 g5=>by
  unfold SC kW kX ka kb;refine aZ (fun q=>q=b5) ?_;have t5:=NT.bG (o:=0) (n:=7) (by simp);have a7:bM SF.toArray:=by
   rcases hSA with⟨_,_,Gh⟩|⟨rb,st,_,hP,_⟩
   ·obtain⟨c2,e,_,h1,_⟩:=Gh.cs;have:SF=c2:=by simpa using congrArg (fun v:ZR=>match v with|.agg c=>c.toList|_=>[]) e
    rw[this];exact aU h1
   ·obtain⟨c2,e,_,h1,_⟩:=hP.ref.cs;have:SF=c2:=by simpa using congrArg (fun v:ZR=>match v with|.agg c=>c.toList|_=>[]) e
    rw[this];exact aU h1
  have C5:Bl (aB A ⟨b5,0,ZU⟩ SF) b5 SF:=by
   obtain⟨y0,y1,y2,y3,y4,y5,y6,rfl⟩:∃y0 y1 y2 y3 y4 y5 y6,SF=[y0,y1,y2,y3,y4,y5,y6]:=by
    match SF,Oh with
    |[y0,y1,y2,y3,y4,y5,y6],_=>exact⟨_,_,_,_,_,_,_,rfl⟩
   exact NT.aB 0 _
  have KS:af (fun q=>q=b5) A (aB A ⟨b5,0,ZU⟩ SF):=(af.refl _ _).aB _ (.inl rfl);have hW:zg A (fun q=>q=b5):=zg.one NT qV;simp only[go_sem,Za,Zb,ae,g7,g8,g9,g5,BA.aL 7 Oh.symm,t5];rw[C5.aL 7 Oh.symm];refine⟨af.refl _ _,⟨Oh,a7⟩,KS,rfl,?_⟩;rw[hQ];refine⟨_,_,rfl,HQ.trans' KS fun q hq e=>by omega,?_⟩;rcases hSA with⟨h1,rfl,Gh⟩|⟨rb,st,rfl,hP,hAA⟩
  ·exact .inl ⟨h1,rfl,Gh.bE hW KS⟩
  ·exact .inr ⟨rb,st,rfl,hP.run.bE (hAA.mono fun q h=>.inl h) hW KS,hP.ref.bE hW KS,hP.ok,hP.ne,hP.ord⟩
 by_cases xX:n=0
 ·have d1:ZQ ((i:Int)<(acts.length:Int))=ZS:=decide_eq_false (by omega);simp only[go_sem,Za,Zb,f10,hw.aq,hw.len,d1];exact out _ (by simp only[go_sem,Za,Zb,ae,f7]) (by rfl) (by simp only[go_sem,Za,Zb,ae,f9]) (by rfl)
 have d1:ZQ ((i:Int)<(acts.length:Int))=ZT:=decide_eq_true (by omega)
 by_cases h12:(i:Int)<12
 case neg=>
  have d2:ZQ ((i:Int)<12)=ZS:=decide_eq_false h12;simp only[go_sem,Za,Zb,f10,hw.aq,hw.len,d1,d2];exact out _ (by simp only[go_sem,Za,Zb,ae,f7]) (by rfl) (by simp only[go_sem,Za,Zb,ae,f9]) (by rfl)
 have d2:ZQ ((i:Int)<12)=ZT:=decide_eq_true h12;rcases hSA with⟨hz,rfl,Gh⟩|⟨rb,st,rfl,hP,hAA⟩
 ·simp only[go_sem,Za,Zb,f10,f9,f7,hw.aq,hw.len,d1,d2];exact out _ (by simp only[go_sem,Za,Zb,ae,f7]) (by rfl) (by simp only[go_sem,Za,Zb,ae,f9]) (by rfl)
 ·simp only[go_sem,Za,Zb,f10,f9,f7,hw.aq,hw.len,d1,d2];refine aZ (fun q=>q=b8) ?_;have hi:i<acts.length:=by omega
  obtain⟨pb,po,pc,fT,-,hld⟩:=(hw.aj HQ).elem iM hi;obtain⟨x,hx⟩:∃x,x=acts[i]:=⟨_,rfl⟩
  rw[<-hx]at hld;have dm:aQ A ⟨pb,po+i*2,ZU⟩ 2=ZV #[Z8 ZX x.1.toNat,Z8 ZX x.2.toNat]:=hld;have t8:=BA.bG (o:=0) (n:=7) (by omega);have oz:pb<H.size:=(hw.bo (q:=pb) (by rw[fT];exact⟨rfl,by omega⟩))
  simp only[go_sem,Za,Zb,ae,f7,f10,fT,BA.aL 7 Oh.symm,al,aC,dm];refine⟨by omega,by omega,af.refl _ _,(hg r st rb _ x.1 x.2 A (hT.ai HQ) hP).mono ?_⟩;rintro y X ⟨rbn,svn,stn,rfl,hPn,KX,hWn⟩;obtain⟨c2,rfl,agm,alr,als⟩:=hPn.ref.cs;rw[aJ];have BX:=KX.bl BA id;have t8':=BX.bG (o:=0) (n:=7) (by omega);have KS:af (fun q=>q=b8) X (aB X ⟨b8,0,ZU⟩ c2):=(af.refl _ _).aB _ (.inl rfl);have C8:Bl (aB X ⟨b8,0,ZU⟩ c2) b8 c2:=by
   obtain⟨y0,y1,y2,y3,y4,y5,y6,rfl⟩:∃y0 y1 y2 y3 y4 y5 y6,c2=[y0,y1,y2,y3,y4,y5,y6]:=by
    match c2,agm with
    |[y0,y1,y2,y3,y4,y5,y6],_=>exact⟨_,_,_,_,_,_,_,rfl⟩
   obtain⟨z0,z1,z2,z3,z4,z5,z6,rfl⟩:∃y0 y1 y2 y3 y4 y5 y6,SF=[y0,y1,y2,y3,y4,y5,y6]:=by
    match SF,Oh with
    |[y0,y1,y2,y3,y4,y5,y6],_=>exact⟨_,_,_,_,_,_,_,rfl⟩
   exact BX.aB 0 _
  have hW:zg X (fun q=>q=b8):=zg.one BX alq;have hAX:dY (fun q=>q=b5\/q=b8) X rbn:=hWn _ (fun q hq=>by
   have:=BA.lt;have:=NT.lt;rcases hq with rfl|rfl<;>omega) hAA
  have w1:IntKind.i64.wrap ((i:Int)+1)=(i:Int)+1:=IntWalk.i64_in _ (by omega);refine⟨KX.any,?_⟩;simp only[go_sem,Za,Zb,ae,t8',f10,w1];refine⟨⟨agm,aU alr⟩,KS,?_⟩;have hr8:¬rbn=b8:=fun e=>hAX.1 (.inr e);refine⟨n -1,by omega,i+1,_,c2,by omega,rfl,rfl,agm,als,C8,.inr ⟨rbn,stn,rfl,⟨hPn.run.bE (hAX.mono fun q h=>.inr h) hW KS,hPn.ref.bE hW KS,hPn.ok,hPn.ne,hPn.ord⟩,hAX.bE hPn.run.lt hr8 KS⟩,(KA.trans (KX.any)).trans KS⟩
def aeo (V:aH):S:=
 (.dr (kW 8 (.mv (.v 0)) (kW 10 (.fa 6 (.v 3)) (kW 11 (.ld (.t 10)) (ka 9 (kg (V.f 379) [.t 8]) (ka 12 (kg (V.f 165) [.t 9,.t 11]) (kW 13 (.not (.t 12)) (kW 14 (.mv (.t 13)) (.px (.t 15) (.some (.t 14,ZS)) (.mv (.v 0)) (.px (.t 17) (.some (.t 14,ZS)) (.fa 0 (.v 3)) (.px (.t 18) (.some (.t 14,ZS)) (.m (.ldn 5 (.t 17))) (.px (.t 19) (.some (.t 14,ZS)) (.m (.ldn 7 (.v 3))) (.wcons (.t 16) (.some (.t 14,ZS)) (kg (V.f 385) [.t 15]) (.wcons (.t 20) (.some (.t 14,ZS)) (kg (V.f 398) [.t 19]) (.wcons (.t 21) (.some (.t 14,ZS)) (kg (V.f 308) [.t 18,.t 20]) (.wcons (.t 22) (.some (.t 14,ZS)) (kg (V.f 165) [.t 16,.t 21]) (.px (.t 23) (.some (.t 14,ZS)) (.not (.t 22)) (kW 24 (.pick (.t 14) (.c (Z5 ZT)) (.t 23)) (kW 25 (.mv (.t 24)) (.px (.t 26) (.some (.t 25,ZS)) (.mv (.v 0)) (.px (.t 28) (.some (.t 25,ZS)) (.fa 6 (.v 3)) (.px (.t 29) (.some (.t 25,ZS)) (.ld (.t 28)) (.wcons (.t 27) (.some (.t 25,ZS)) (kg (V.f 381) [.t 26]) (.wcons (.t 30) (.some (.t 25,ZS)) (kg (V.f 158) [.t 29,.c (Z8 ZY 0)]) (.px (.t 31) (.some (.t 25,ZS)) (.not (.t 30)) (.px (.t 32) (.some (.t 25,ZS)) (.eqb ZT (.t 27) (.t 31)) (kX 33 (.pick (.t 25) (.c (Z5 ZT)) (.t 32)) .done))) .wnil) .wnil))))))) .wnil) .wnil) .wnil) .wnil))))))) .wnil) .wnil)))))
def SG (V:aH):S:=
 kY [kR 3 (V.t 396) 1,kC 4 (Z5 ZS)] (.seq (.seq (aeo V) (.ite (.v 33) (kY [kC 4 (Z5 ZS)] .ret) .skip)) (kY [kC 5 (kZ)] (.seq (kY [kG 34 6 3,kV 35 (.ld (.t 34)),kO 36 35,kC 37 (Z8 ZY 0)] (.blk 0 (.loop (kY [kH 38 37 36] (.seq (.ite (.v 38) .skip (.exit 0)) (.seq (.blk 1 (kY [kA 39 37,kK 40 1 35 37,kD 41 40,kB 6 39,kB 7 41] (kY [kA 42 7,kV 43 (.cm .neq ZY (.t 42) (.c (Z8 ZY 0)))] (.ite (.v 43) (.reg [kA 44 5,kA 45 6,kc 46 (.aX (V.t 26) 1 1 [.t 45]),kc 47 (.app ZS (V.t 26) 1 8 #[Z8 ZY 0] (.t 44) (.t 46)),kB 5 47]) .skip)))) (.reg [ke 48 37,kB 37 48]))))))) (kY [kA 49 0,kc 50 (kg (V.f 384) [.t 49]),kA 51 5,kc 52 (kg (V.f 165) [.t 50,.t 51]),kB 4 52] .ret))))
def SH:List RV:=[.t 4]
structure IsC (P:Program) (V:aH):Prop where
 stf:iO P (V.f 379)
 F1:qL P V (V.f 385)
 fin:xa P (V.f 381)
 don:sN P V (V.f 384)
 rdon:qS P (V.f 398)
 rrdy:qA P (V.f 308)
 eqI:nG P (V.f 165)
 con:mG P (V.f 158)
def mR (st:List Int) (n:Nat):List Nat:=(ZF n).filter fun k=>ZQ (st.getD k 0≠0)
def zh (st:List Int) (n:Nat):mR st (n+1)=mR st n++if st.getD n 0≠0 then[n]else[]:=by
 unfold mR;rw[List.range_succ,XD];simp only[List.filter_cons,List.filter_nil,decide_eq_true_eq]
def ab9 {n:Nat} (hn:n<=4096):bf (cD st n)=mR st n:=by
 unfold bf mR;obtain⟨k,hk⟩:∃k,4096=n+k:=⟨4096 -n,by omega⟩
 rw[hk,List.range_add,XD,filter_none (l:=(ZF k).map (n+·)) fun x hx=>?_,YY]
 ·refine List.filter_congr fun x hx=>?_;have:=List.mem_range.1 hx;unfold cD;rw[decide_eq_true this,Bool.true_and]
 ·obtain⟨y,_,rfl⟩:=List.mem_map.1 hx;unfold cD;rw[decide_eq_false (by omega),Yy]
structure IsI (F:cf) (el:List (Nat->Bool)) (ms:List UInt64) (H:Hp) (rb:Nat) (sv:ZR) (st:List Int):Prop where
 run:cH H rb F el st
 ref:dp H sv F ms st
 ok:nM F=ZT
 sl:st.length=F.st.length
def CE (P:Program) (V:aH) (k:FuncId):Prop:=∀(F:cf) (el:List (Nat->Bool)) (ms:List UInt64) (st:List Int) (rb:Nat) (sv:ZR) (H:Hp),bh V H->IsI F el ms H rb sv st->an P k #[Z7 (ZV ⟨rb,0,ZU⟩),sv] H fun x H'=>x=Z5 ZT/\af (fun _=>False) H H'
def agn (hk:ak P k (SG V) SH 2) (c:IsC P V):CE P V k:=by
 intro F el ms st rb sv H hT hI;refine qI fun Q hQ=>?_;have hRr:=hI.ref;have hok:=hI.ok;have hG:=dH hok;have hlt:=hG.lt;have su:=hG.lim;unfold iJ at su;have hsl:=hI.sl;obtain⟨s,b,d,a,m,ev,sw,rfl,q1,q2,q3⟩:=hI.ref;refine ah hk (args:=[_,_]) (by simp) ?_;unfold SG SH kA kB kC kD ke kG kH kK kO kR kV kc kg kY kZ;simp only[go_sem,Za,Zb];refine ax fun H1 b3 e1 z1 B1 K1=>?_;have bL:Bl H1 b3 [s,b,d,a,m,ev,sw]:=B1;have c6:cell H1 ⟨b3,6,ZU⟩=ZV sw:=by rw[bL.cell];rfl
 have l5:aQ H1 ⟨b3,0,ZU⟩ 5=ZV #[s,b,d,a,m]:=by
  have:=bL.aQ (o:=0) (n:=5) (by simp);simpa using this
 simp only[go_sem,Za,Zb];unfold aeo kW kX ka kg;refine aZ (fun _=>False) ?_;simp only[go_sem,Za,Zb,ae,c6];refine(c.stf.1 F el st rb H1 (hI.run.aj K1) (by omega)).mono ?_;rintro y H2 ⟨O2,o2,K2⟩;rw[aJ];refine⟨K2,?_⟩;simp only[go_sem,Za,Zb,ae];refine(c.eqI st st y sw H2 O2.sl ((q3.ai K1 (by simp)).ai K2 (by simp)) (by omega)).mono ?_;rintro y H3 ⟨rfl,rfl⟩;have hd:ZQ (st=st)=ZT:=decide_eq_true rfl;rw[aJ];refine⟨af.refl _ _,?_⟩;have B3:=K2.bl bL id;have l53:aQ H3 ⟨b3,0,ZU⟩ 5=ZV #[s,b,d,a,m]:=by
  have:=B3.aQ (o:=0) (n:=5) (by simp);simpa using this
 simp-implicitDefEqProofs only[go_sem,↓reduceIte,Za,Zb,Zc,reduceCtorEq,ae,hd,ZE,l53,aC,B3.aL 7 rfl];have mD:=K1.trans K2;refine(c.F1.1 F el st rb H3 (hT.ai mD) (hI.run.aj mD) hok (by omega)).mono ?_;rintro y2 H4 ⟨O4,K4⟩;have F3:=mD.trans K4;rw[aJ];refine⟨K4,?_⟩;simp-implicitDefEqProofs only[go_sem,↓reduceIte,Za,Zb,Zc,reduceCtorEq,ae];refine(c.rdon F ms st _ H4 (hRr.aj F3) (by omega)).mono ?_;rintro y3 H5 ⟨rfl,K5⟩;have Nq:=F3.trans K5;rw[aJ];refine⟨K5,?_⟩;simp-implicitDefEqProofs only[go_sem,↓reduceIte,Za,Zb,Zc,reduceCtorEq,ae];refine(c.rrdy F _ (F5 st st.length) H5 (q1.aj Nq) (by omega) (by omega) fun x hx=>(hG.be x hx).1).mono ?_;rintro y4 H6 ⟨O6,o6,K6⟩;rw[xg (by omega)]at O6;have LU:=Nq.trans K6;rw[aJ];refine⟨K6,?_⟩;have hrn:=wK F.st.length F.be (cD st st.length);obtain⟨rl,UK⟩:∃rl,rl=nW F.st.length F.be (cD st st.length):=⟨_,rfl⟩
 rw[<-UK]at O4 O6 hrn;simp-implicitDefEqProofs only[go_sem,↓reduceIte,Za,Zb,Zc,reduceCtorEq,ae];refine(c.eqI (nI rl) (nI rl) y2 y4 H6 ((O4.ai K5 (by simp)).ai K6 (by simp)) O6.sl (by rw[vY];omega)).mono ?_;rintro y5 H7 ⟨rfl,rfl⟩;have hd2:ZQ (nI rl=nI rl)=ZT:=decide_eq_true rfl;have B7:=(((K2.trans K4).trans K5).trans K6).bl bL (by simp);have c67:cell H7 ⟨b3,6,ZU⟩=ZV sw:=by rw[B7.cell];rfl
 rw[aJ];refine⟨af.refl _ _,?_⟩;simp-implicitDefEqProofs only[go_sem,↓reduceIte,Za,Zb,Zc,reduceCtorEq,ae,hd2,ZE,c67];refine(c.fin.1 F el st rb H7 (hI.run.aj LU) (by omega)).mono ?_;rintro y6 H8 ⟨⟨bb,rfl,hbb⟩,rfl⟩;rw[aJ];refine⟨af.refl _ _,?_⟩;simp-implicitDefEqProofs only[go_sem,↓reduceIte,Za,Zb,Zc,reduceCtorEq,ae];refine(c.con st sw 0 H8 (q3.ai LU (by simp)) (by omega)).mono ?_;rintro y7 H9 ⟨⟨z,rfl,hz⟩,rfl⟩;rw[aJ];refine⟨af.refl _ _,?_⟩;have hbz:bb=!z:=by
  cases bb with
  |true=>
   have h:=hbb.1 rfl
   cases z with
   |true=>exact absurd (hz.1 rfl) h
   |false=>rfl
  |false=>
   cases z with
   |true=>rfl
   |false=>
    have:0∉st:=fun h=>by have:=hz.2 h;cases this
    have:=hbb.2 this
    cases this
 subst hbz;simp only[go_sem,Za,Zb,ae,bne_self_eq_false];have q39:=q3.ai LU (by simp);simp only[go_sem,Za,Zb,ae,c67,q39.aq,q39.len,aA];refine aF st.length [38,6,7,43,5,37] rfl rfl (by omega) (by rfl) (by rfl) (fun i g A=>∃lv,g 5=lv/\br A lv (iN (mR st i))/\(∀q,ay lv q->H9.size<=q)/\af (fun _=>False) H9 A) ⟨Z6 ZU 0 0,by simp only[go_sem,Za,Zb,ae],br.nil _,fun q h=>h.elim,af.refl _ _⟩ ?_ ?_
 ·rintro i g A hi gi gn ⟨lv,g5,OA,oA,KA⟩;simp only[go_sem,Za,Zb,ae]at gi gn g5;have sA:=KA.size;obtain⟨pb,po,pc,pC,hci⟩:=ib (q39.ai KA (by simp)) hi;have DT:(mR st i).length<=i:=by
   unfold mR;have:=YS (fun k=>ZQ (st.getD k 0≠0)) (ZF i)
   rwa [Xl]at this
  by_cases h0:st.getD i 0=0
  ·have d0:(st.getD i 0 !=0)=ZS:=by rw[h0];rfl
   simp only[go_sem,Za,Zb,ae,gi,pC,al,hci,d0,g5];refine⟨by omega,lv,rfl,?_,oA,KA⟩;rw[zh,if_neg (by simpa using h0),YY];exact OA
  ·have d0:(st.getD i 0 !=0)=ZT:=by simpa using h0
   simp only[go_sem,Za,Zb,gi,pC,al,hci,d0,g5];refine⟨by omega,?_⟩;refine aG fun A2 bb eb zb BB KB=>?_;have BB':Bl A2 bb [Z8 ZY (i:Int)]:=BB;simp only[go_sem,Za,Zb,ae,g5];refine ja H9.size (OA.ai KB (by simp)) oA (by have:=KB.size;omega) (aP.bl BB' 0 1 1 (by omega) (by simp)) (aU rfl) rfl (by omega) (by simp[iN,iL];omega) fun v' A3 O3 o3 K3=>?_;simp only[go_sem,Za,Zb,ae];refine⟨v',rfl,?_,o3,(KA.trans KB).trans' K3 fun q hq h=>by omega⟩;rw[zh,if_pos h0];have:iN (mR st i++[i])=iN (mR st i)++[Z8 ZY (i:Int)]:=by simp[iN,iL]
   rw[this];exact O3
 ·rintro g A gi ⟨lv,g5,OA,oA,KA⟩;simp only[go_sem,Za,Zb,ae]at g5;simp only[go_sem,Za,Zb,g5];refine(c.don.1 F el st rb A (hT.ai (LU.trans KA)) (hI.run.aj (LU.trans KA)) (by omega)).mono ?_;rintro y8 A1 ⟨O8,K8⟩;rw[ae];have e8:cU (cD st st.length)=iN (mR st st.length):=by rw[<-ab9 (st:=st) (n:=st.length) (by omega)];simp[cU,iN,iL]
  rw[e8]at O8;have DT:(mR st st.length).length<=st.length:=by
   unfold mR;have:=YS (fun k=>ZQ (st.getD k 0≠0)) (ZF st.length)
   rwa [Xl]at this
  simp only[go_sem,Za,Zb,g5];refine(c.eqI (nI (mR st st.length)) (nI (mR st st.length)) y8 lv A1 O8 (OA.sl.ai K8 (by simp)) (by rw[vY];omega)).mono ?_;rintro y9 A2 ⟨rfl,rfl⟩;rw[ae];have hd3:ZQ (nI (mR st st.length)=nI (mR st st.length))=ZT:=decide_eq_true rfl;simp only[go_sem,Za,Zb,ae,hd3];rw[hQ];exact⟨rfl,(LU.trans KA).trans K8⟩
def Jk (V:aH):S:=
 kY [kC 0 (Z5 ZS)] (kY [kU 11 (.m (.bld #[.string ⟨#[]⟩,Z8 ZY 0] [(0,(1,.c (.string ⟨#[97]⟩))),(1,(1,.c (Z8 ZY 1)))])),kU 12 (.m (.bld #[.string ⟨#[]⟩,Z8 ZY 0] [(0,(1,.c (.string ⟨#[98]⟩))),(1,(1,.c (Z8 ZY 1)))])),kc 13 (.aX (V.t 297) 2 2 [.t 11,.t 12]),kU 14 (.m (.bld #[Z8 ZY 0,Z8 ZY 0] [(0,(1,.c (Z8 ZY 0))),(1,(1,.c (Z8 ZY 1)))])),kc 15 (.aX (V.t 194) 2 1 [.t 14]),kU 16 (.m (.bld #[kZ,kZ,kZ,kZ,kZ] [(0,(1,.t 13)),(2,(1,.t 15))])),kd 1 (.new (V.t 296) #[kZ,kZ,kZ,kZ,kZ]),kf (.stn 5 (.v 1) (.t 16))] (kY [kG 17 0 1,kD 18 17,kG 19 2 1,kD 20 19,kU 21 (.m (.bld #[kZ,kZ,kZ,kZ,kZ] [(0,(1,.t 18)),(3,(1,.t 20))])),kd 2 (.new (V.t 296) #[kZ,kZ,kZ,kZ,kZ]),kf (.stn 5 (.v 2) (.t 21))] (kY [kG 22 0 1,kD 23 22,kG 24 2 1,kD 25 24,kG 26 2 1,kD 27 26,kU 28 (.m (.bld #[kZ,kZ,kZ,kZ,kZ] [(0,(1,.t 23)),(2,(1,.t 25)),(3,(1,.t 27))])),kd 3 (.new (V.t 296) #[kZ,kZ,kZ,kZ,kZ]),kf (.stn 5 (.v 3) (.t 28))] (kY [kc 29 (.aX (V.t 26) 1 2 [.c (Z8 ZY 1),.c (Z8 ZY 2)]),kc 30 (kg (V.f 143) [.t 29]),kc 31 (.aX (V.t 26) 1 1 [.c (Z8 ZY 1)]),kc 32 (kg (V.f 143) [.t 31]),kc 33 (.aX (V.t 128) 1 2 [.t 30,.t 32]),kB 4 33] (kY [kM 35 5 1,kA 36 4,kc 37 (kg (V.f 391) [.t 35,.t 36]),kF 34 37,kQ 38 34 0,kQ 39 34 1,kB 5 38,kB 6 39] (kY [kM 41 5 2,kA 42 4,kc 43 (kg (V.f 391) [.t 41,.t 42]),kF 40 43,kQ 44 40 0,kQ 45 40 1,kB 7 44,kB 8 45] (kY [kM 47 5 3,kA 48 4,kc 49 (kg (V.f 391) [.t 47,.t 48]),kF 46 49,kQ 50 46 0,kQ 51 46 1,kF 9 50,kB 10 51] (kY [kA 52 6,kU 53 (.cm .eql ZY (.t 52) (.c (Z8 ZY 0))),kF 54 53,kS 55 54 ZT 8,kT 56 54 ZT (.cm .eql ZY (.t 55) (.c (Z8 ZY 0))),kJ 57 54 56,kF 58 57,kS 59 58 ZT 10,kT 60 58 ZT (.cm .eql ZY (.t 59) (.c (Z8 ZY 12))),kJ 61 58 60,kF 62 61,kS 63 62 ZT 5,.ge (.t 64) (.t 62) ZT (kg (V.f 386) [.t 63,.c (Z8 ZY 0),.c (Z8 ZY 1)]),kT 65 62 ZT (.cm .eql ZX (.t 64) (.c (Z8 ZX 5))),kJ 66 62 65,kF 67 66,kS 68 67 ZT 5,.ge (.t 69) (.t 67) ZT (kg (V.f 386) [.t 68,.c (Z8 ZY 0),.c (Z8 ZY 2)]),kT 70 67 ZT (.cm .eql ZX (.t 69) (.c (Z8 ZX 1))),kJ 71 67 70,kF 72 71,kS 73 72 ZT 5,.ge (.t 74) (.t 72) ZT (kg (V.f 382) [.t 73]),.ge (.t 75) (.t 72) ZT (.aX (V.t 26) 1 2 [.c (Z8 ZY 2),.c (Z8 ZY 1)]),.ge (.t 76) (.t 72) ZT (kg (V.f 165) [.t 74,.t 75]),kJ 77 72 76,kF 78 77,kS 79 78 ZT 7,.ge (.t 80) (.t 78) ZT (kg (V.f 386) [.t 79,.c (Z8 ZY 0),.c (Z8 ZY 2)]),kT 81 78 ZT (.cm .eql ZX (.t 80) (.c (Z8 ZX 5))),kJ 82 78 81,kF 83 82,kS 84 83 ZT 7,.ge (.t 85) (.t 83) ZT (kg (V.f 386) [.t 84,.c (Z8 ZY 0),.c (Z8 ZY 1)]),kT 86 83 ZT (.cm .eql ZX (.t 85) (.c (Z8 ZX 1))),kJ 87 83 86,kB 0 87] .ret))))))))
def Jl:List RV:=[.t 0]
def WF:cf:={st:=[([97],1),([98],1)],be:=[],di:=[(0,1)],sa:=[],mo:=[]}
def WG:cf:={WF with di:=[],sa:=[(0,1)]}
def WH:cf:={WF with sa:=[(0,1)]}
def alu:Eu (jK []):=tX (by simp)
def stW:AT 63 (fun _=>ZS) WF.st 2=0:=by decide+kernel
def aih (hF:F=WF\/F=WG\/F=WH):fF F 63 (fun _=>ZS)=0:=by
 have h1:=stW;have h2:E0 (jK [])=0:=G8 alu;unfold fF;rcases hF with rfl|rfl|rfl
 ·rw[if_neg (by decide),if_neg (by unfold iJ;decide)]
  show iI (AT 63 (fun _=>ZS) WF.st 2) (iI (ji 2 WF.be) (iI (ji 2 WF.di) (iI (ji 2 WF.sa) (iI (uw 2 WF.mo) (E0 (jK []))))))=0
  rw[h1,h2];decide
 ·rw[if_neg (by decide),if_neg (by unfold iJ;decide)]
  show iI (AT 63 (fun _=>ZS) WF.st 2) (iI (ji 2 WG.be) (iI (ji 2 WG.di) (iI (ji 2 WG.sa) (iI (uw 2 WG.mo) (E0 (jK []))))))=0
  rw[h1,h2];decide
 ·rw[if_neg (by decide),if_neg (by unfold iJ;decide)]
  show iI (AT 63 (fun _=>ZS) WF.st 2) (iI (ji 2 WH.be) (iI (ji 2 WH.di) (iI (ji 2 WH.sa) (iI (uw 2 WH.mo) (E0 (jK []))))))=0
  rw[h1,h2];decide
def okW (hF:F=WF\/F=WG\/F=WH):nM F=ZT:=qB.2 (aih hF)
def mW:List UInt64:=[6,2]
def oG:abW mW:=fun k u h=>by
 unfold bt at h;have hk:k=0\/k=1\/2<=k:=by omega
 have hb:=Nat.ge_two_pow_of_testBit h;have h4:u<3:=by
  apply Zn;intro hc;have:2^3<=2^u:=YO (by omega) (by omega);rcases hk with rfl|rfl|hk
  ·have:(mW.getD 0 0).toNat=6:=rfl;omega
  ·have:(mW.getD 1 0).toNat=2:=rfl;omega
  ·have:mW.getD k 0=0:=by simp[mW,ZP,show¬k<2 by omega,Zz (show([6,2]:List UInt64).length<=k by simpa using hk)]
   rw[this]at hb;have:(0:UInt64).toNat=0:=rfl;have:=Nat.two_pow_pos u;omega
 have h0:u≠0:=by
  rintro rfl;rcases hk with rfl|rfl|hk
  ·revert h;decide
  ·revert h;decide
  ·have:mW.getD k 0=0:=by simp[mW,ZP,Zz (show([6,2]:List UInt64).length<=k by simpa using hk)]
   rw[this]at h;simp at h
 omega
def Mh {l:List Int} {m:UInt64} {b:Nat} (hb:b<=10) (h1:∀n:Fin 11,Po l n.val=bt m n.val) (h2:∀x∈l,x<=10) (h3:m.toNat<2^11):Po l=bt m:=by
 funext n
 by_cases h:n<11
 ·exact h1 ⟨n,h⟩
 ·have e1:bt m n=ZS:=by
   unfold bt;exact Nat.testBit_lt_two_pow (Nat.lt_of_lt_of_le h3 (YO (by omega) (by omega)))
  rw[e1];unfold Po;have:¬((n:Int)∈l):=fun hm=>by have:=h2 _ hm;omega
  rw[decide_eq_false this,Yy]
def ago:Po [1,2]=bt 6:=Mh (b:=10) (by omega) (by decide) (by decide) (by decide)
def aii:Po [1]=bt 2:=Mh (b:=10) (by omega) (by decide) (by decide) (by decide)
def Mi (hF:F=WF\/F=WG\/F=WH):eT (bJ F (mW.map bt)):=by
 have hG:=dH (okW hF);have hl:=hG.lim;unfold iJ at hl;have e:(bJ F (mW.map bt)).el.length=F.st.length:=by rcases hF with rfl|rfl|rfl<;>rfl
 have e2:F.st.length=2:=by rcases hF with rfl|rfl|rfl<;>rfl
 refine⟨by omega,by omega,fun k u h=>?_,?_,?_,?_,?_,?_,?_⟩
 ·unfold fu bJ at h;rw[bN]at h;have:=oG k u h;omega
 ·show F.di.length<=20;omega
 ·show F.sa.length<=20;omega
 ·show F.mo.length<=20;omega
 ·rw[e];exact hG.di
 ·rw[e];exact hG.sa
 ·rw[e];exact hG.mo
def agp (hF:F=WF\/F=WG\/F=WH) (h:uC 2 st):uB (bJ F (mW.map bt)) st:=by
 have e:(bJ F (mW.map bt)).el.length=2:=by rcases hF with rfl|rfl|rfl<;>rfl
 exact pq (Mi hF) (by rw[e];exact h.U) (by omega)
def QR {a b:Int} (h:0<=a/\a<=4/\0<=b/\b<=4):uC 2 [a,b]:=⟨rfl,fun u hu=>by
 simp only[YW,Zk,or_false]at hu;rcases hu with rfl|rfl<;>omega⟩
def aep:et (bJ WF (mW.map bt)) [0,0]=ZV [2,1]:=by rw[nS rfl oG];decide+kernel
def aij:et (bJ WG (mW.map bt)) [0,0]=ZV [1,1]:=by rw[nS rfl oG];decide+kernel
def aik:et (bJ WH (mW.map bt)) [0,0]=ZU:=by rw[nS rfl oG];decide+kernel
def ail:fH WF (mW.map bt) [0,0] 0 1=5:=by rw[qP (F:=WF) (show uC WF.st.length [0,0]from QR (by decide)) (by decide) oG];decide+kernel
def aim:fH WF (mW.map bt) [0,0] 0 2=1:=by rw[qP (F:=WF) (show uC WF.st.length [0,0]from QR (by decide)) (by decide) oG];decide+kernel
def ain:fH WG (mW.map bt) [0,0] 0 2=5:=by rw[qP (F:=WG) (show uC WG.st.length [0,0]from QR (by decide)) (by decide) oG];decide+kernel
def aio:fH WG (mW.map bt) [0,0] 0 1=1:=by rw[qP (F:=WG) (show uC WG.st.length [0,0]from QR (by decide)) (by decide) oG];decide+kernel
def alv (hF:F=WF\/F=WG\/F=WH) (i:Nat) (u:Int) (hi:i<([0,0]:List Int).length) (hu:cz ((mW.map bt).getD i fun _=>ZS) u=ZT):uB (bJ F (mW.map bt)) (([0,0]:List Int).set i u):=by
 rw[bN]at hu;have:=(qO oG i u).1 hu;exact agp hF ((QR (by decide)).set (by omega))
structure alw (P:Program) (V:aH):Prop where
 of_:uN P (V.f 143)
 sta:lC P V (V.f 391)
 ask:mN P V (V.f 386)
 pln:xb P V (V.f 382)
 eqI:nG P (V.f 165)
def xo (P:Program) (V:aH) (k:FuncId):Prop:=∀(H:Hp),bh V H->an P k #[] H fun r H'=>r=Z5 ZT/\af (fun _=>False) H H'
def aca (hk:ak P k (Jk V) Jl 0) (c:alw P V):xo P V k:=by
 intro H hT;refine qI fun Q hQ=>?_;refine ah hk (args:=[]) (by simp) ?_;unfold Jk Jl kA kB kF kC kD kG kJ kM kQ kS kT kU kc kd kf kg kY kZ;simp-implicitDefEqProofs only[go_sem,↓reduceIte,Za,Zb,Zc,reduceCtorEq,Zf,Zg,Zh,Zi,Zd,Ze];refine aG fun H1 p1 e1 z1 B1 K1=>?_;have v1:bk cB 2 H1 (Z6 (ZV ⟨p1,0,ZU⟩) 2 2) WF.st:=bk.bl B1 (l:=WF.st) rfl (by simp[WF]) (by simp[WF]);simp-implicitDefEqProofs only[go_sem,↓reduceIte,Za,Zb,Zc,reduceCtorEq,Zf,Zg,Zh,Zi,Zd,Ze];refine aG fun H2 p2 e2 z2 B2 K2=>?_;have v2:rP H2 (Z6 (ZV ⟨p2,0,ZU⟩) 1 1) WF.di:=bk.bl B2 (l:=WF.di) rfl (by simp[WF]) (by simp[WF]);simp-implicitDefEqProofs only[go_sem,↓reduceIte,Za,Zb,Zc,reduceCtorEq,Zf,Zg,Zh,Zi,Zd,Ze];refine aO [Z6 (ZV ⟨p1,0,ZU⟩) 2 2,Z6 ZU 0 0,Z6 (ZV ⟨p2,0,ZU⟩) 1 1,Z6 ZU 0 0,Z6 ZU 0 0] (by rfl) rfl rfl rfl fun H3 f1 e3 z3 B3 K3=>?_;have c30:cell H3 ⟨f1,0,ZU⟩=ZV (Z6 (ZV ⟨p1,0,ZU⟩) 2 2):=by rw[B3.cell];rfl
 have c32:cell H3 ⟨f1,2,ZU⟩=ZV (Z6 (ZV ⟨p2,0,ZU⟩) 1 1):=by rw[B3.cell];rfl
 simp-implicitDefEqProofs only[go_sem,↓reduceIte,Za,Zb,Zc,reduceCtorEq,Zf,Zg,Zh,Zi,Zd,Ze,c30,c32];refine aO [Z6 (ZV ⟨p1,0,ZU⟩) 2 2,Z6 ZU 0 0,Z6 ZU 0 0,Z6 (ZV ⟨p2,0,ZU⟩) 1 1,Z6 ZU 0 0] (by rfl) rfl rfl rfl fun H4 f2 e4 z4 B4 K4=>?_;have Pl:=K4.bl B3 id;have Rn:cell H4 ⟨f1,0,ZU⟩=ZV (Z6 (ZV ⟨p1,0,ZU⟩) 2 2):=by rw[Pl.cell];rfl
 have c42:cell H4 ⟨f1,2,ZU⟩=ZV (Z6 (ZV ⟨p2,0,ZU⟩) 1 1):=by rw[Pl.cell];rfl
 simp-implicitDefEqProofs only[go_sem,↓reduceIte,Za,Zb,Zc,reduceCtorEq,Zf,Zg,Zh,Zi,Zd,Ze,Rn,c42];refine aO [Z6 (ZV ⟨p1,0,ZU⟩) 2 2,Z6 ZU 0 0,Z6 (ZV ⟨p2,0,ZU⟩) 1 1,Z6 (ZV ⟨p2,0,ZU⟩) 1 1,Z6 ZU 0 0] (by rfl) rfl rfl rfl fun H5 f3 e5 z5 B5 K5=>?_;have Nq:=((K2.trans K3).trans K4).trans K5;have w1:=v1.aj Nq;have w2:=v2.aj ((K3.trans K4).trans K5);have B35:=K5.bl Pl id;have B45:=K5.bl B4 id;have agq:gY H5 [] []:=⟨rfl,fun i h=>by simp at h⟩
 have pF:bZ H5 (Z0 #[Z6 (ZV ⟨p1,0,ZU⟩) 2 2,Z6 ZU 0 0,Z6 (ZV ⟨p2,0,ZU⟩) 1 1,Z6 ZU 0 0,Z6 ZU 0 0]) WF:=⟨_,_,_,_,_,[],rfl,w1,bk.nil _ _ _,w2,bk.nil _ _ _,bk.nil _ _ _,agq⟩
 have pG:bZ H5 (Z0 #[Z6 (ZV ⟨p1,0,ZU⟩) 2 2,Z6 ZU 0 0,Z6 ZU 0 0,Z6 (ZV ⟨p2,0,ZU⟩) 1 1,Z6 ZU 0 0]) WG:=⟨_,_,_,_,_,[],rfl,w1,bk.nil _ _ _,bk.nil _ _ _,w2,bk.nil _ _ _,agq⟩
 have pH:bZ H5 (Z0 #[Z6 (ZV ⟨p1,0,ZU⟩) 2 2,Z6 ZU 0 0,Z6 (ZV ⟨p2,0,ZU⟩) 1 1,Z6 (ZV ⟨p2,0,ZU⟩) 1 1,Z6 ZU 0 0]) WH:=⟨_,_,_,_,_,[],rfl,w1,bk.nil _ _ _,w2,w2,bk.nil _ _ _,agq⟩
 have DS:=K1.trans Nq;simp only[go_sem,Za,Zb];refine aG fun H6 p6 e6 z6 B6 K6=>?_;have B6':Bl H6 p6 (iL [1,2]):=B6;simp only[go_sem,Za,Zb];refine(c.of_ [1,2] _ H6 (aP.bl B6' 0 2 2 (by omega) (by simp[aA])) (by simp)).mono ?_;rintro r H7 ⟨hs7,K7,-⟩;rw[ago]at hs7;obtain⟨u7,W7,rfl,hV7⟩:=hs7;obtain⟨ua,uc,rfl,_⟩:=hV7.sl.mk;rw[ae];simp only[go_sem,Za,Zb];refine aG fun H8 p8 e8 z8 B8 K8=>?_;have B8':Bl H8 p8 (iL [1]):=B8;simp only[go_sem,Za,Zb];refine(c.of_ [1] _ H8 (aP.bl B8' 0 1 1 (by omega) (by simp[aA])) (by simp)).mono ?_;rintro r H9 ⟨hs9,K9,-⟩;rw[aii]at hs9;obtain⟨u9,W9,rfl,hV9⟩:=hs9;obtain⟨ub,ud,rfl,_⟩:=hV9.sl.mk;rw[ae];simp only[go_sem,Za,Zb];refine aG fun HA pA eA zA BA KA=>?_;have K7A:=(K8.trans K9).trans KA;have K5A:=(K6.trans K7).trans K7A;have HQ:=DS.trans K5A;have BA':Bl HA pA [.slice ua (cj W7).length uc,.slice ub (cj W9).length ud]:=BA;have ev:aP HA (Z6 (ZV ⟨pA,0,ZU⟩) 2 2) [.slice ua (cj W7).length uc,.slice ub (cj W9).length ud]:=aP.bl BA' 0 2 2 (by omega) (by simp);have hes:∀i,i<([.slice ua (cj W7).length uc,.slice ub (cj W9).length ud]:List ZR).length->aR HA (Z0 #[([.slice ua (cj W7).length uc,.slice ub (cj W9).length ud]:List ZR).getD i undef]) ((mW.map bt).getD i fun _=>ZS):=fun i hi=>by
  have:i=0\/i=1:=by simp at hi;omega
  rcases this with rfl|rfl
  ·exact aR.aj ⟨_,W7,rfl,hV7⟩ K7A
  ·exact aR.aj ⟨_,W9,rfl,hV9⟩ KA
 have start:∀(F:cf) (v:ZR) (X:Hp),(F=WF\/F=WG\/F=WH)->bZ X v F->af (fun _=>False) HA X->an P (V.f 391) #[v,Z6 (ZV ⟨pA,0,ZU⟩) 2 2] X fun r X'=>af (fun _=>False) X X'∧
   ((et (bJ F (mW.map bt)) [0,0]=ZU/\r=ZZ #[Z7 ZU,Z8 ZY 12])\/((et (bJ F (mW.map bt)) [0,0]).isSome=ZT/\∃rb,r=ZZ #[Z7 (ZV ⟨rb,0,ZU⟩),Z8 ZY 0]/\cH X' rb F (mW.map bt) [0,0])):=fun F v X hF hP KX=>by
  have f2:F.st.length=2:=by rcases hF with rfl|rfl|rfl<;>rfl
  have fb:F.be.length<=1000:=by rcases hF with rfl|rfl|rfl<;>decide
  refine(c.sta F (mW.map bt) _ v _ X (hT.ai (HQ.trans KX)) hP (ev.ai KX (by simp)) rfl (by decide) (fun i hi=>(hes i hi).aj KX) fun _ _ _=>⟨Mi hF,agp hF (QR (by decide)),fb⟩).mono ?_;rintro r X' ⟨K,hx⟩;refine⟨K,?_⟩;rcases hx with⟨h,_⟩|⟨_,h,_⟩|⟨_,_,⟨i,hi,u,hu,hu2⟩,_⟩|⟨_,_,_,h⟩
  ·exact absurd (aih hF) h
  ·exact absurd (by rw[f2];rfl) h
  ·rw[bN]at hu;have:=oG i u hu;omega
  ·exact h
 have B3A:=K5A.bl B35 id;simp only[go_sem,Za,Zb,B3A.aL 5 rfl];refine(start WF _ HA (.inl rfl) (pF.aj K5A) (af.refl _ _)).mono ?_;rintro r HB ⟨KB,hx⟩;rw[aep]at hx;rcases hx with⟨h,_⟩|⟨_,rb1,rfl,R1⟩
 ·cases h
 have B4B:=(K5A.trans KB).bl B45 (by simp);rw[ae];simp only[go_sem,Za,Zb,B4B.aL 5 rfl];refine(start WG _ HB (.inr (.inl rfl)) (pG.aj (K5A.trans KB)) KB).mono ?_;rintro r HC ⟨KC,hx⟩;rw[aij]at hx;rcases hx with⟨h,_⟩|⟨_,rb2,rfl,R2⟩
 ·cases h
 have KAC:=KB.trans KC;have B5C:=(K5A.trans KAC).bl B5 (by simp);rw[ae];simp only[go_sem,Za,Zb,B5C.aL 5 rfl];refine(start WH _ HC (.inr (.inr rfl)) (pH.aj (K5A.trans KAC)) KAC).mono ?_;rintro r HD ⟨KD,hx⟩;rw[aik]at hx;rcases hx with⟨_,rfl⟩|⟨h,_⟩
 case inr=>cases h
 have R1':=R1.aj (KC.trans KD);have R2':=R2.aj KD;have K0D:=HQ.trans (KAC.trans KD);have ask:∀(F:cf) (rb:Nat) (x:Int) (X:Hp),(F=WF\/F=WG\/F=WH)->cH HD rb F (mW.map bt) [0,0]->af (fun _=>False) HD X->an P (V.f 386) #[Z7 (ZV ⟨rb,0,ZU⟩),Z8 ZY 0,Z8 ZY x] X fun r X'=>r=Z8 ZX (fH F (mW.map bt) [0,0] 0 x)/\af (fun _=>False) X X':=fun F rb x X hF hR KX=>
  c.ask.1 F (mW.map bt) [0,0] rb 0 x X (hT.ai (K0D.trans KX)) (hR.aj KX) (okW hF) rfl (Mi hF) (alv hF)
 rw[ae];have uz:((0:Int)==0)=ZT:=rfl;have e12:((12:Int)==12)=ZT:=rfl;have e55:((5:Int)==5)=ZT:=rfl;have e11:((1:Int)==1)=ZT:=rfl;simp-implicitDefEqProofs only[go_sem,↓reduceIte,Za,Zb,Zc,reduceCtorEq,Zf,Zg,Zh,Zi,Zd,Ze,uz,e12];refine(ask WF rb1 1 HD (.inl rfl) R1' (af.refl _ _)).mono ?_;rintro r X1 ⟨rfl,L1⟩;rw[ae];simp-implicitDefEqProofs only[go_sem,↓reduceIte,Za,Zb,Zc,reduceCtorEq,Zf,Zg,Zh,Zi,Zd,Ze,ail,e55];refine(ask WF rb1 2 X1 (.inl rfl) R1' L1).mono ?_;rintro r X2 ⟨rfl,L2⟩;have M2:=L1.trans L2;rw[ae];simp-implicitDefEqProofs only[go_sem,↓reduceIte,Za,Zb,Zc,reduceCtorEq,Zf,Zg,Zh,Zi,Zd,Ze,aim,e11];refine(c.pln.1 WF (mW.map bt) [0,0] rb1 X2 (hT.ai (K0D.trans M2)) (R1'.aj M2) (Mi (.inl rfl)) (agp (.inl rfl) (QR (by decide)))).mono ?_;rintro r X3 ⟨L3,hp⟩;rw[aep]at hp;have hp:aP X3 r (iL [2,1]):=hp;rw[ae];simp-implicitDefEqProofs only[go_sem,↓reduceIte,Za,Zb,Zc,reduceCtorEq,Zf,Zg,Zh,Zi,Zd,Ze];refine aG fun X4 p4 e4' z4' tU L4=>?_;have alx:Bl X4 p4 (iL [2,1]):=tU;have M4:=(M2.trans L3).trans L4;simp-implicitDefEqProofs only[go_sem,↓reduceIte,Za,Zb,Zc,reduceCtorEq,Zf,Zg,Zh,Zi,Zd,Ze];refine(c.eqI [2,1] [2,1] r _ X4 (hp.ai L4 (by simp)) (aP.bl alx 0 2 2 (by omega) (by simp[aA])) (by simp)).mono ?_;rintro r' X5 ⟨rfl,rfl⟩;have dq:ZQ (([2,1]:List Int)=[2,1])=ZT:=rfl;rw[ae];simp-implicitDefEqProofs only[go_sem,↓reduceIte,Za,Zb,Zc,reduceCtorEq,Zf,Zg,Zh,Zi,Zd,Ze,dq];refine(ask WG rb2 2 X5 (.inr (.inl rfl)) R2' M4).mono ?_;rintro r X6 ⟨rfl,L6⟩;have M6:=M4.trans L6;rw[ae];simp-implicitDefEqProofs only[go_sem,↓reduceIte,Za,Zb,Zc,reduceCtorEq,Zf,Zg,Zh,Zi,Zd,Ze,ain,e55];refine(ask WG rb2 1 X6 (.inr (.inl rfl)) R2' M6).mono ?_;rintro r X7 ⟨rfl,L7⟩;rw[ae];simp only[go_sem,Za,Zb,aio,e11];rw[hQ];exact⟨rfl,K0D.trans (M6.trans L7)⟩
def Ps.is {sv:ZR} (h:Ps r H rb sv st):IsI (bu r) ((aD r).map bt) (aD r) H rb sv st:=⟨h.run,h.ref,wL r,h.ok.1⟩
end Go.Mg

/- Lemmas of ours. No conditions. -/
import Derived.Test.YtoclemmcphgikaaGreatDoorMgV3
open Bool renaming false→ZS,true→ZT
open Decidable renaming decide→ZQ
open Go renaming Value→ZR
open Go.IntKind renaming i64→ZY,u64→ZW,u8→ZX
open Go.Value renaming agg→Z0,bool→Z5,int→Z8,pointer→Z7,slice→Z6,tuple→ZZ
open Option renaming none→ZU,some→ZV
open Go.IntKind renaming wrap_u64→Y0
open Go.IntWalk renaming i64_in→ZN
open List renaming findIdx?_eq_none_iff→Yd,getD_eq_getElem?_getD→ZP,getElem?_append_left→YP,getElem?_append_right→Yf,getElem?_replicate→Zj,getElem?_set→XA,getElem_append_left→YJ,getElem_mem→ZL,getElem_of_mem→ZC,length_take→Zr,map_append→XZ,mem_cons→YW,mem_singleton→XC,not_mem_nil→Zk,range→ZF,replicate→ZM,take_length→ZI,take_of_length_le→Zy
open Nat renaming le_refl→ZH,le_trans→Zp,mod_eq_of_lt→YF
open UInt64 renaming ofNat→Y7,toNat_ofNat'→Zm
open Nat renaming reduceEqDiff→Za,reduceAdd→Zb,reduceMul→Zc,reduceLeDiff→Zd,reduceLT→Ze
open Int renaming reduceBEq→Zf,reduceBNe→Zg,reduceLE→Zh,reduceLT→Zi
set_option maxRecDepth 100000
set_option linter.all false
namespace Go.Mg
open Go Go.RowKit
def Hm (V:aH):S:=
 (.reg [kA 26 5,kA 27 7,kU 28 (.sh .shl ZW (.t 27) (.c (Z8 ZW 1))),kc 29 (.aX (V.t 28) 1 1 [.t 28]),kc 30 (.app ZS (V.t 28) 1 8 #[Z8 ZW 0] (.t 26) (.t 29)),kB 5 30])
def wD (V:aH):S:=
 kY [kR 2 (V.t 288) 0,kR 3 (V.t 289) 1,kC 4 (kZ)] (kY [kC 5 (kZ)] (.seq (kY [kG 8 0 3,kD 9 8,kV 10 (.m (.lenl (.t 9))),kC 11 (Z8 ZY 0)] (.blk 0 (.loop (kY [kH 12 11 10] (.seq (.ite (.v 12) .skip (.exit 0)) (.seq (.blk 1 (kY [kA 13 11,kB 6 13] (kY [kC 7 (Z8 ZW 15)] (.seq (kY [kA 14 6,kG 15 6 2,kD 16 15,kL 17 16,kV 18 (.cm .lss ZY (.t 14) (.t 17))] (.ite (.v 18) (.reg [kG 19 6 2,kD 20 19,kA 21 6,kI 22 1 20 21,kD 23 22,kU 24 (.dv .rem ZX (.t 23) (.c (Z8 ZX 16))),kU 25 (.ii ZW (.t 24)),kB 7 25]) .skip)) (Hm V))))) (.reg [ke 31 11,kB 11 31]))))))) (kY [kA 32 5,kB 4 32] .ret)))
def wE:List RV:=[.t 4]
def Hn (V:aH):S:=
 (.reg [kG 15 0 3,kD 16 15,kG 17 0 5,kD 18 17,kG 19 1 5,kD 20 19,kU 21 (.m (.bld #[.string ⟨#[]⟩,Z8 ZY 0] [(0,(1,.t 18)),(1,(1,.t 20))])),kc 22 (.aX (V.t 297) 2 1 [.t 21]),kc 23 (.app ZS (V.t 297) 2 24 #[.string ⟨#[]⟩,Z8 ZY 0] (.t 16) (.t 22)),kG 24 0 3,kf (.st (.t 24) (.t 23))])
def Ho (V:aH):S:=
 (.dr (kW 26 (.fa 1 (.v 1)) (kW 27 (.ld (.t 26)) (kW 29 (.fa 2 (.v 1)) (kW 30 (.ld (.t 29)) (kW 32 (.fa 3 (.v 1)) (kW 33 (.ld (.t 32)) (ka 28 (kg (V.f 204) [.t 27]) (kW 35 (.fa 1 (.v 3)) (ka 31 (kg (V.f 204) [.t 30]) (ka 34 (kg (V.f 204) [.t 33]) (kb (.st (.t 35) (.t 28)) (kW 36 (.fa 2 (.v 3)) (kb (.st (.t 36) (.t 31)) (kW 37 (.fa 3 (.v 3)) (kb (.st (.t 37) (.t 34)) .done .wnil)) .wnil)) .wnil) .wnil) .wnil)) .wnil))))))))
def Hq (V:aH):S:=
 (.dr (kW 45 (.fa 4 (.v 3)) (kW 47 (.fa 0 (.v 7)) (kW 48 (.ld (.t 47)) (kW 49 (.fa 1 (.v 7)) (kW 50 (.ld (.t 49)) (ka 46 (.rd (.ld (.t 45))) (ka 51 (kg (V.f 283) [.t 50]) (kW 52 (.m (.bld #[Z8 ZY 0,kZ] [(0,(1,.t 48)),(1,(1,.t 51))])) (ka 53 (.aX (V.t 298) 2 1 [.t 52]) (ka 54 (.app ZS (V.t 298) 2 32 #[Z8 ZY 0,kZ] (.t 46) (.t 53)) (kW 55 (.fa 4 (.v 3)) (kb (.st (.t 55) (.t 54)) .done .wnil)) .wnil) .wnil)) .wnil) (ka 51 (kg (V.f 283) [.t 50]) (kW 52 (.m (.bld #[Z8 ZY 0,kZ] [(0,(1,.t 48)),(1,(1,.t 51))])) (ka 46 (.rd (.ld (.t 45))) (ka 53 (.aX (V.t 298) 2 1 [.t 52]) (ka 54 (.app ZS (V.t 298) 2 32 #[Z8 ZY 0,kZ] (.t 46) (.t 53)) (kW 55 (.fa 4 (.v 3)) (kb (.st (.t 55) (.t 54)) .done .wnil)) .wnil) .wnil) (ka 53 (.aX (V.t 298) 2 1 [.t 52]) (ka 46 (.rd (.ld (.t 45))) (ka 54 (.app ZS (V.t 298) 2 32 #[Z8 ZY 0,kZ] (.t 46) (.t 53)) (kW 55 (.fa 4 (.v 3)) (kb (.st (.t 55) (.t 54)) .done .wnil)) .wnil) .wnil) .wnil))) .wnil))))))))
def Bh (V:aH):S:=
 kY [kR 1 (V.t 289) 0,kd 2 (.new (V.t 296) #[kZ,kZ,kZ,kZ,kZ])] (kY [kd 3 (.new (V.t 296) #[kZ,kZ,kZ,kZ,kZ])] (.seq (kY [kG 8 0 1,kV 9 (.ld (.t 8)),kO 10 9,kC 11 (Z8 ZY 0)] (.blk 0 (.loop (kY [kH 12 11 10] (.seq (.ite (.v 12) .skip (.exit 0)) (.seq (.blk 1 (kY [kK 13 2 9 11,kN 14 2 13,kd 5 (.new (V.t 290) #[.string ⟨#[]⟩,Z8 ZY 0]),kf (.stn 2 (.v 5) (.t 14))] (Hn V))) (.reg [ke 25 11,kB 11 25]))))))) (.seq (Ho V) (.seq (kY [kG 38 4 1,kV 39 (.ld (.t 38)),kO 40 39,kC 41 (Z8 ZY 0)] (.blk 2 (.loop (kY [kH 42 41 40] (.seq (.ite (.v 42) .skip (.exit 2)) (.seq (.blk 3 (kY [kK 43 2 39 41,kN 44 2 43,kd 7 (.new (V.t 291) #[Z8 ZY 0,Z8 ZW 0]),kf (.stn 2 (.v 7) (.t 44))] (Hq V))) (.reg [ke 56 41,kB 41 56]))))))) (kY [kM 57 5 3,kf (.stn 5 (.v 2) (.t 57))] .ret)))))
def Bi:List RV:=[.cn 2 5]
def uR (V:aH):S:=
 kY [kR 1 (V.t 288) 0,kd 2 (.new (V.t 296) #[kZ,kZ,kZ,kZ,kZ]),kC 3 (kZ),kd 4 (.new (V.t 289) #[kZ,kZ,kZ,kZ,kZ]),kC 5 (kZ)] (kY [kM 11 7 1,kc 12 (kg (V.f 292) [.t 11]),kd 6 (.new (V.t 289) #[kZ,kZ,kZ,kZ,kZ]),kf (.stn 5 (.v 6) (.t 12))] (kY [kM 13 7 1,kM 14 5 6,kc 15 (kg (V.f 295) [.t 13,.t 14]),kB 7 15] (kY [kC 8 (kZ)] (.seq (kY [kV 16 (.mv (.v 7)),kO 17 16,kC 18 (Z8 ZY 0)] (.blk 0 (.loop (kY [kH 19 18 17] (.seq (.ite (.v 19) .skip (.exit 0)) (.seq (.blk 1 (kY [kK 20 1 16 18,kD 21 20,kB 10 21] (.reg [kA 22 8,kA 23 10,kc 24 (kg (V.f 283) [.t 23]),kc 25 (.aX (V.t 128) 1 1 [.t 24]),kc 26 (.app ZS (V.t 128) 1 24 #[kZ] (.t 22) (.t 25)),kB 8 26]))) (.reg [ke 27 18,kB 18 27]))))))) (.seq (.dr (kW 28 (.m (.ldn 5 (.v 6))) (kW 30 (.mv (.v 8)) (kW 31 (.m (.ldn 5 (.v 6))) (kW 32 (.mv (.v 7)) (ka 29 (kg (V.f 299) [.t 28]) (kb (.stn 5 (.v 2) (.t 29)) (kX 3 (.mv (.t 30)) (kb (.stn 5 (.v 4) (.t 31)) (kX 5 (.mv (.t 32)) .done) .wnil)) .wnil) .wnil)))))) .ret)))))
def uS:List RV:=[.cn 2 5,.t 3,.cn 4 5,.t 5]
def dz {α:Type} (enc:α->List ZR) (P:Program) (k:FuncId):Prop:=∀(l:List α) (v:ZR) (H:Hp),bk enc 2 H v l->l.length<1000000->an P k #[v] H fun r H'=>cr enc 2 H' r l/\(∀q,ay r q->H.size<=q)/\af (fun _=>False) H H'
variable {α:Type} {P:Program} {V:aH} {k:FuncId} {f:Fr} {A H H':Hp} {C b bp:Nat} {Qb:Ex->Fr->Hp->Prop} {W:Nat->Prop} {mo:List tW} {y:tW} {v y0 y1 y2 y3 y4:ZR} {vs:List ZR}
def Re {enc:α->List ZR} (hl:∀x,(enc x).length=2) (h1:∀x,∀v∈enc x,v.oneCell'=ZT) (hk:ak P k (GX V) GY 1):dz enc P k:=by
 intro l v H hv hn;refine ah hk (args:=[_]) (by simp) ?_;unfold GX GY kA kB kC kV kc kY kZ;obtain⟨a,c,rfl,hc⟩:=hv.mk
 cases a with
 |none=>
  have h0:l=[]:=by
   rcases hv with⟨_,_,_,h⟩|⟨_,_,_,_,h,_⟩
   ·exact h
   ·cases h
  subst h0;simp only[go_sem,zS,↓reduceIte,Za,Zb,Zc,reduceCtorEq,ae];exact⟨cr.nil _,fun k h=>h.elim,af.refl _ _⟩
 |some p=>
  simp only[go_sem,zS,↓reduceIte,Za,Zb,Zc,reduceCtorEq];refine aG fun H1 b1 e1 z1 B1 K1=>?_;have s1:=K1.size;simp only[go_sem,zS,↓reduceIte,Za,Zb,Zc,reduceCtorEq];have ph:cr enc 2 H1 (Z6 (ZV ⟨b1,0,ZU⟩) 0 0) []:=cr.bl B1 rfl (by omega) (by omega) (by simp);refine rO (l:=([]:List α)) (m:=l) H.size hl h1 ph (fun q hq=>by have hq:q=b1:=hq;omega) (by omega) (hv.aj K1) rfl (by omega) (by simp;omega) fun v3 H3 O3 own3 K3=>?_;rw[List.nil_append]at O3;simp only[go_sem,zS,↓reduceIte,Za,Zb,Zc,reduceCtorEq,ae];exact⟨O3,own3,K1.gK K3 (ZH _)⟩
def qx (r:cF) (k:Nat):UInt64:=Y7 ((if k<r.el.length then(r.el.getD k 0).toNat % 16 else 15)*2)
def aD (r:cF):List UInt64:=(ZF (oC r)).map (qx r)
def cJ (r:cF):(aD r).length=oC r:=by simp[aD]
def sq (r:cF) (k:Nat):(qx r k).toNat=(if k<r.el.length then(r.el.getD k 0).toNat % 16 else 15)*2:=by
 unfold qx;rw[Zm];apply YF
 split<;>omega
def LL {mm:Nat} {lv:ZR} {L:List UInt64} {x:UInt64} (h5:f 5=lv) (h7:f 7=Z8 ZW (mm:Int)) (hm:mm<16) (hx:x.toNat=mm*2) (hL:L.length<=1000)
  (O:br A lv (cj L)) (o:∀q,ay lv q->C<=q) (hC:C<=A.size)
  (hK:∀v' A',br A' v' (cj (L++[x]))->(∀q,ay v' q->C<=q)->af (fun q=>C<=q) A A'->Qb .n (bR f 5 v') A'):vc P (Hm V) Qb f A:=by
 unfold Hm kA kB kU kc;have e1:((1:Int)).toNat=1:=rfl;have w1:IntKind.u64.wrap ((mm:Int)*2^1)=(x.toNat:Int):=by rw[Y0];omega
 simp-implicitDefEqProofs only[go_sem,↓reduceIte,Za,Zb,Zc,reduceCtorEq,Zf,Zg,Zh,Zi,Zd,Ze,h5,h7,e1,w1];refine aG fun A2 b2 e2 z2 B2 K2=>?_;have fG:Bl A2 b2 (cj [x]):=B2;simp only[go_sem,Za,Zb,ae];refine ja C (O.ai K2 (by simp)) o (by omega) (aP.bl fG 0 1 1 (by omega) (by simp[aI])) (Qq [x]) rfl (by omega) (by rw[aI];simp[aI];omega) fun v' A3 O3 o3 K3=>?_;simp only[go_sem,Za,Zb,ae];exact hK v' A3 (by rw[Lv];exact O3) o3 (K2.any.trans K3)
def lq (P:Program) (k:FuncId):Prop:=∀(r:cF) (v w:ZR) (H:Hp),jj H v r->dF H w (bu r)->an P k #[v,w] H fun x H'=>br H' x (cj (aD r))/\(∀q,ay x q->H.size<=q)/\af (fun _=>False) H H'
def NQ (hk:ak P k (wD V) wE 2):lq P k:=by
 intro r v w H hv hw;obtain⟨hn,ro,be,di,sa,mo,el,rfl,hro,hbe,hdi,UF,hmo,hel⟩:=hv;obtain⟨ws,wb,wd,wa,wm,rfl,h1,h2,h3,h4,h5⟩:=hw;refine qI fun Q hQ=>?_;refine ah hk (args:=[_,_]) (by simp) ?_;unfold wD wE kA kB kC kD ke kG kH kI kL kR kU kV kY kZ;simp only[go_sem,Za,Zb];refine ax fun H1 b1 e1 z1 B1 K1=>?_;have bL:Bl H1 b1 [Z8 ZX (r.n:Int),ro,be,di,sa,mo,el]:=B1;simp only[go_sem,Za,Zb];refine ax fun H2 b2 e2 z2 B2 K2=>?_;have gI:=K2.bl bL id;have fG:Bl H2 b2 [ws,wb,wd,wa,wm]:=B2;have cS:=K1.trans K2;have c0:cell H2 ⟨b2,0,ZU⟩=ZV ws:=by rw[fG.cell];rfl
 have hsn:(bu r).st.length=oC r:=cK r;have hn5:=ft r;simp only[go_sem,Za,Zb,ae,c0,h1.aq,h1.len,hsn];refine aF (oC r) [12,6,7,18,5,11] rfl rfl (by omega) (by rfl) (by rfl) (fun i f A=>∃lv,f 5=lv/\br A lv (cj ((ZF i).map (qx r)))/\(∀q,ay lv q->H2.size<=q)/\af (fun _=>False) H2 A) ⟨_,by simp only[go_sem,Za,Zb,ae],br.nil _,fun q h=>h.elim,af.refl _ _⟩ ?_ ?_
 ·rintro i g A hi gi gn ⟨lv,g5,OA,oA,KA⟩;simp only[go_sem,Za,Zb,ae]at gi gn g5;have sA:=KA.size;have sH:=cS.size;have c6:cell A ⟨b1,6,ZU⟩=ZV el:=by rw[(KA.bl gI id).cell];rfl
  have fu:=(hel.ai cS (by simp)).ai KA (by simp);simp only[go_sem,Za,Zb,ae,gi,c6,fu.aq,fu.len,aM];refine aN (fun hlt=>?_) (fun ki=>?_)
  ·have hlt:i<r.el.length:=by omega
   obtain⟨rb,rof,rc,hre,hrc,hcell⟩:=fu.cells (by intro e;have:=aM r.el;rw[e]at this;simp at this;omega);have hci:=hcell i (by rw[aM];exact hlt);rw[k8 _ _ hlt]at hci;have amq:=(r.el.getD i 0).toNat_lt;have m4:(((r.el.getD i 0).toNat:Int)).tmod 16=(((r.el.getD i 0).toNat % 16:Nat):Int):=ct _ 16;have w4:IntKind.u64.wrap (((r.el.getD i 0).toNat % 16:Nat):Int)=(((r.el.getD i 0).toNat % 16:Nat):Int):=by rw[Y0];omega
   simp only[go_sem,Za,Zb,ae,gi,hre,al,hci,m4,w4,aM];refine⟨by omega,by decide,?_⟩;refine LL (mm:=(r.el.getD i 0).toNat % 16) (x:=qx r i) (L:=(ZF i).map (qx r)) (C:=H2.size) (by simp only[go_sem,Za,Zb,ae,g5]) (by rfl) (by omega) (by rw[sq,if_pos hlt]) (by simp;omega) OA oA (by omega) fun v' A' O' o' K'=>?_;simp only[go_sem,Za,Zb,ae];exact⟨v',rfl,by rw[XZ];exact O',o',KA.trans' K' fun q hq h=>by omega⟩
  ·refine LL (mm:=15) (x:=qx r i) (L:=(ZF i).map (qx r)) (C:=H2.size) (by simp only[go_sem,Za,Zb,ae,g5]) (by rfl) (by omega) (by rw[sq,if_neg (by omega)]) (by simp;omega) OA oA (by omega) fun v' A' O' o' K'=>?_;simp only[go_sem,Za,Zb,ae];exact⟨v',rfl,by rw[XZ];exact O',o',KA.trans' K' fun q hq h=>by omega⟩
 ·rintro g A gi ⟨lv,g5,OA,oA,KA⟩;simp only[go_sem,Za,Zb,ae]at g5;simp only[go_sem,Za,Zb,ae,g5];rw[hQ];have:=cS.size;exact⟨OA,fun q hq=>by have:=oA q hq;omega,cS.trans KA⟩
abbrev MV:=Int×Option Addr×Nat×Nat
def gP (x:MV):ZR:=.slice x.2.1 x.2.2.1 x.2.2.2
def cq (x:MV):List ZR:=[Z8 ZY x.1,gP x]
def dG (x:MV):(cq x).length=2:=rfl
def gD (x:MV):∀v∈cq x,v.oneCell'=ZT:=by
 intro v hv;simp[cq,gP]at hv;rcases hv with rfl|rfl<;>rfl
structure gY (H:Hp) (ms:List MV) (mo:List tW):Prop where
 len:ms.length=mo.length
 at_:∀i (h:i<ms.length) (h':i<mo.length),ms[i].1=mo[i].1/\aR H (Z0 #[gP ms[i]]) (bt mo[i].2)
def gY.ai {ms:List MV} (h:gY H ms mo) (hk:af W H H') (hw:∀x∈ms,∀q,aV (gP x) q->¬W q):gY H' ms mo:=
 ⟨h.len,fun i h1 h2=>⟨(h.at_ i h1 h2).1,(h.at_ i h1 h2).2.ai hk fun q hq=>hw _ (ZL h1) q hq⟩⟩
def gY.aj {ms:List MV} (h:gY H ms mo) (hk:af (fun _=>False) H H'):gY H' ms mo:=h.ai hk fun _ _ _ _ h=>h
def gY.snoc {ms:List MV} (h:gY H ms mo) {x:MV} (h1:x.1=y.1) (h2:aR H (Z0 #[gP x]) (bt y.2)):gY H (ms++[x]) (mo++[y]):=by
 refine⟨by simp[h.len],fun i hi iU=>?_⟩
 by_cases e:i<ms.length
 ·rw[YJ e,YJ (by rw[<-h.len];exact e)];exact h.at_ i e (by rw[<-h.len];exact e)
 ·have ou:i=ms.length:=by simp at hi;omega
  subst ou;have e1:(ms++[x])[ms.length]=x:=by simp
  have e2:(mo++[y])[ms.length]'iU=y:=by
   have:=h.len;simp[this]
  rw[e1,e2];exact⟨h1,h2⟩
def bZ (H:Hp) (v:ZR) (f:cf):Prop:=∃s b d a m ms,v=Z0 #[s,b,d,a,m]/\bk cB 2 H s f.st/\rP H b f.be/\rP H d f.di/\rP H a f.sa/\bk cq 2 H m ms/\gY H ms f.mo
def bZ.aj {f:cf} (h:bZ H v f) (hk:af (fun _=>False) H H'):bZ H' v f:=by
 obtain⟨s,b,d,a,m,ms,rfl,h1,h2,h3,h4,h5,h6⟩:=h;exact⟨s,b,d,a,m,ms,rfl,h1.aj hk,h2.aj hk,h3.aj hk,h4.aj hk,h5.aj hk,h6.aj hk⟩
def tZ (C:Nat) (H:Hp) (v:ZR) (f:cf):Prop:=∃s b d a m ms,v=Z0 #[s,b,d,a,m]/\cr cB 2 H s f.st/\FZ H b f.be/\FZ H d f.di/\FZ H a f.sa/\cr cq 2 H m ms/\gY H ms f.mo∧
 (∀c∈[s,b,d,a,m],∀q,ay c q->C<=q)/\(∀x∈ms,∀q,aV (gP x) q->C<=q)/\(∀c∈[b,d,a,m],∀q,ay c q->¬ay s q)/\∀x∈ms,∀q,aV (gP x) q->¬ay s q
def tZ.fl {f:cf} (h:tZ C H v f):bZ H v f:=by
 obtain⟨s,b,d,a,m,ms,rfl,h1,h2,h3,h4,h5,h6,_⟩:=h;exact⟨s,b,d,a,m,ms,rfl,h1.sl,h2.sl,h3.sl,h4.sl,h5.sl,h6⟩
def tZ.aj {f:cf} (h:tZ C H v f) (hk:af (fun _=>False) H H'):tZ C H' v f:=by
 obtain⟨s,b,d,a,m,ms,rfl,h1,h2,h3,h4,h5,h6,h7⟩:=h;exact⟨s,b,d,a,m,ms,rfl,h1.ai hk (by simp),h2.ai hk (by simp),h3.ai hk (by simp),h4.ai hk (by simp),h5.ai hk (by simp),h6.aj hk,h7⟩
def fR.shape {W:List UInt64} {p:Nat->Bool} (h:fR H v W p):∃a n c,v=.slice a n c:=by
 obtain⟨a,c,rfl,_⟩:=h.sl.mk;exact⟨_,_,_,rfl⟩
def aa5 (hr:il P (V.f 283)) {ms:List MV} (h3:f 3=Z7 (ZV ⟨b,0,ZU⟩)) (h7:f 7=Z7 (ZV ⟨bp,0,ZU⟩)) (hL:ms.length<=1000)
  (Bp:Bl A bp (og y)) (B:Bl A b [y0,y1,y2,y3,y4]) (hb:b<C) (hbp:C<=bp) (hC:C<=A.size) (O:cr cq 2 A y4 ms) (o:∀q,ay y4 q->C<=q) (hbo:¬ay y4 bp) (M:gY A ms mo) (om:∀x∈ms,∀q,aV (gP x) q->C<=q/\¬ay y4 q)
  (hK:∀v' A' ms',cr cq 2 A' v' ms'->ms'.length=ms.length+1->gY A' ms' (mo++[y])->(∀q,ay v' q->C<=q)->(∀x∈ms',∀q,aV (gP x) q->C<=q/\¬ay v' q)->Bl A' b [y0,y1,y2,y3,v']->af (fun q=>q=b\/C<=q) A A'->Qb .n f A'):vc P (Hq V) Qb f A:=by
 have hsz:∀{X:Hp} {x:MV} {p:Nat->Bool},aR X (Z0 #[gP x]) p->∀q,aV (gP x) q->q<X.size:=fun h q hq=>h.bo (k:=q) hq;unfold Hq kW ka kb kg kZ;refine aZ (fun q=>q=b\/ay y4 q) ?_;have c0:∀{A':Hp},af (fun _=>False) A A'->cell A' ⟨b,4,ZU⟩=ZV y4:=fun K=>by rw[(K.bl B id).cell];rfl
 have p0:cell A ⟨bp,0,ZU⟩=ZV (Z8 ZY y.1):=by rw[Bp.cell];rfl
 have p1:cell A ⟨bp,1,ZU⟩=ZV (Z8 ZW y.2.toNat):=by rw[Bp.cell];rfl
 have hlt:bp<A.size:=Bp.lt;have ahO:¬(bp=b\/ay y4 bp):=by rintro(h|h);omega;exact hbo h
 have eX:∀{X Y:Hp},af (fun _=>False) X Y->af (fun q=>q=b\/ay y4 q) X Y:=fun K=>K.any;have fin:∀(A1 A2:Hp) (bb:Nat) (e:Env) (x:MV),af (fun _=>False) A A1->af (fun _=>False) A1 A2->x.1=y.1->aR A1 (Z0 #[gP x]) (bt y.2)->(∀q,aV (gP x) q->A.size<=q)->Bl A2 bb (cq x)->jn ZS (V.t 298) 2 32 #[Z8 ZY 0,Z6 ZU 0 0] y4 (Z6 (ZV ⟨bb,0,ZU⟩) 1 1) A2 (mg P (fun q=>q=b\/ay y4 q) A2 (.t 54) (.px (.t 55) ZU (.fa 4 (.v 3)) (.wcons .no ZU (.st (.t 55) (.t 54)) .done .wnil)) e f (Qb .n)):=fun A1 A2 bb e x K1 K2 hx1 Pp hx3 B2=>by
  have KK:=K1.trans K2;refine pj (.inl rfl) (fun q hq=>.inr hq) dG gD (O.ai KK (by simp)) o (by have:=KK.size;omega) (bk.bl B2 (l:=[x]) rfl (by simp[cq]) (by simp)) rfl (by omega) (by simp;omega) (KK.bl B id) hb (by simp) h3 rfl fun v' A' O' o' B' K'=>?_;have s1:=K1.size;have s2:=K2.size;have hyo:∀q,ay y4 q->q<A.size:=fun q hq=>O.bo hq;have ahH:b<A.size:=B.lt;have hxs:∀q,aV (gP x) q->q<A2.size:=fun q hq=>by have:=hsz Pp q hq;omega
  have hms:∀z∈ms,∀q,aV (gP z) q->q<A2.size:=fun z hz q hq=>by
   obtain⟨i,hi,rfl⟩:=ZC hz;have:=hsz (M.at_ i hi (by rw[<-M.len];exact hi)).2 q hq;omega
  refine hK v' A' (ms++[x]) O' (by simp) ?_ (fun q hq=>?_) (fun z hz q hq=>?_) B' ((KK.any).trans (K'.mono fun q _ h=>?_))
  ·refine gY.snoc ((M.aj KK).ai K' fun z hz q hq h=>?_) hx1 ((Pp.aj K2).ai K' fun q hq h=>?_)
   ·rcases h with h|h
    ·have:=(om z hz q hq).1;omega
    ·exact(om z hz q hq).2 h
   ·have:=hx3 q hq;rcases h with h|h
    ·omega
    ·have:=hyo q h;omega
  ·rcases o' q hq with h|h
   ·exact o q h
   ·omega
  ·rcases List.mem_append.1 hz with hz|hz
   ·refine⟨(om z hz q hq).1,fun h=>?_⟩;rcases o' q h with h|h
    ·exact(om z hz q hq).2 h
    ·have:=hms z hz q hq;omega
   ·simp only[XC]at hz;subst hz;have:=hx3 q hq;refine⟨by omega,fun h=>?_⟩;rcases o' q h with h|h
    ·have:=hyo q h;omega
    ·have:=hxs q hq;omega
  ·rcases h with h|h
   ·exact .inl h
   ·exact .inr (o q h)
 have key:∀(A1:Hp) (v:ZR) (W:List UInt64),fR A1 v W (bt y.2)->(∀q,aV v q->A.size<=q)->af (fun _=>False) A A1->∃x:MV,v=gP x/\x.1=y.1/\aR A1 (Z0 #[gP x]) (bt y.2)/\∀q,aV (gP x) q->A.size<=q:=fun A1 v W hV hf K=>by
  obtain⟨a,n,c,rfl⟩:=hV.shape;exact⟨(y.1,a,n,c),rfl,rfl,⟨_,W,rfl,hV⟩,hf⟩
 simp only[go_sem,Za,Zb,ae,h3,h7,c0 (af.refl _ A),p0,p1];refine⟨ahO,ahO,⟨af.refl _ _,(hr y.2 A).mono ?_⟩,(hr y.2 A).mono ?_⟩
 ·rintro rv A1 ⟨⟨v,W,rfl,hV⟩,rf,K1⟩;obtain⟨x,rfl,hx1,Pp,hx3⟩:=key A1 v W hV rf K1;have hmv:gP x=.slice x.2.1 x.2.2.1 x.2.2.2:=rfl;rw[hmv];simp-implicitDefEqProofs only[go_sem,↓reduceIte,Za,Zb,Zc,reduceCtorEq,ae,Zf,Zg,Zh,Zi,Zd,Ze];refine⟨eX K1,?_⟩;generalize tY:A1.push _=A2;have B2:Bl A2 A1.size (cq x):=by rw[<-tY,cq,hx1];exact Bl.dh _ _ _
  have K2:af (fun _=>False) A1 A2:=by rw[<-tY];exact(af.refl _ _).push _
  exact⟨eX K2,fin A1 A2 _ _ x K1 K2 hx1 Pp hx3 B2⟩
 ·rintro rv A1 ⟨⟨v,W,rfl,hV⟩,rf,K1⟩;obtain⟨x,rfl,hx1,Pp,hx3⟩:=key A1 v W hV rf K1;have hmv:gP x=.slice x.2.1 x.2.2.1 x.2.2.2:=rfl;rw[hmv];simp only[go_sem,Za,Zb,ae,h3,c0 K1];refine⟨eX K1,?_⟩;generalize tY:A1.push _=A2;have B2:Bl A2 A1.size (cq x):=by rw[<-tY,cq,hx1];exact Bl.dh _ _ _
  have K2:af (fun _=>False) A1 A2:=by rw[<-tY];exact(af.refl _ _).push _
  simp-implicitDefEqProofs only[go_sem,↓reduceIte,Za,Zb,Zc,reduceCtorEq,ae,Zf,Zg,Zh,Zi,Zd,Ze,c0 (K1.trans K2)];exact⟨⟨af.refl _ _,eX K2,fin A1 A2 _ _ x K1 K2 hx1 Pp hx3 B2⟩,eX K2,af.refl _ _,fin A1 A2 _ _ x K1 K2 hx1 Pp hx3 B2⟩
def aa6 {x:x9} {L:List x9} (h3:f 3=Z7 (ZV ⟨b,0,ZU⟩)) (h5:f 5=Z7 (ZV ⟨bp,0,ZU⟩)) (hL:L.length<=1000)
  (Bp:Bl A bp (cB x)) (B:Bl A b [y0,y1,y2,y3,y4]) (hb:b<C) (hC:C<=A.size) (O:cr cB 2 A y0 L) (o:∀q,ay y0 q->C<=q)
  (hK:∀v' A',cr cB 2 A' v' (L++[x])->(∀q,ay v' q->C<=q)->Bl A' b [v',y1,y2,y3,y4]->af (fun q=>q=b\/C<=q) A A'->Qb .n f A'):vc P (Hn V) Qb f A:=by
 unfold Hn kD kG kU kc kf;have c0:cell A ⟨b,0,ZU⟩=ZV y0:=by rw[B.cell];rfl
 have p0:cell A ⟨bp,0,ZU⟩=ZV (sV x.1):=by rw[Bp.cell];rfl
 have p1:cell A ⟨bp,1,ZU⟩=ZV (Z8 ZY x.2):=by rw[Bp.cell];rfl
 rw[sV]at p0;simp-implicitDefEqProofs only[go_sem,↓reduceIte,Za,Zb,Zc,reduceCtorEq,Zf,Zg,Zh,Zi,Zd,Ze,h3,h5,c0,p0,p1];refine aG fun A2 b2 e2 z2 B2 K2=>?_;have fG:Bl A2 b2 (cB x):=B2;simp only[go_sem,Za,Zb];exact wx dE jL (O.ai K2 (by simp)) o (by omega) (bk.bl fG (l:=[x]) rfl (by simp[cB]) (by simp)) rfl (by omega) (by simp;omega) (K2.bl B id) hb (by simp) h3 rfl fun v' A' O' o' B' K'=>hK v' A' O' o' B' ((K2.mono fun _ _ h=>h.elim).trans K')
def aa7 (hc:dz pE P (V.f 204)) {b1 b3:Nat} {s b d a m:ZR} {L1 L2 L3:List fC} (h1:f 1=Z7 (ZV ⟨b1,0,ZU⟩)) (h3:f 3=Z7 (ZV ⟨b3,0,ZU⟩)) (hne:b1≠b3)
  (B1:Bl A b1 [s,b,d,a,m]) (B:Bl A b3 [y0,y1,y2,y3,y4]) (hb:rP A b L1) (hd:rP A d L2) (ha:rP A a L3) (l1:L1.length<=1000) (l2:L2.length<=1000) (l3:L3.length<=1000)
  (hK:∀bv dv av A',FZ A' bv L1->FZ A' dv L2->FZ A' av L3->(∀q,ay bv q->A.size<=q)->(∀q,ay dv q->A.size<=q)->(∀q,ay av q->A.size<=q)->Bl A' b3 [y0,bv,dv,av,y4]->af (fun q=>q=b3) A A'->Qb .n f A'):vc P (Ho V) Qb f A:=by
 unfold Ho kW ka kb kg;refine aZ (fun q=>q=b3) ?_;have c1:cell A ⟨b1,1,ZU⟩=ZV b:=by rw[B1.cell];rfl
 have c2:cell A ⟨b1,2,ZU⟩=ZV d:=by rw[B1.cell];rfl
 have c3:cell A ⟨b1,3,ZU⟩=ZV a:=by rw[B1.cell];rfl
 simp only[go_sem,Za,Zb,ae,h1,c1,c2,c3];refine⟨hne,hne,hne,(hc L1 b A hb (by omega)).mono ?_⟩;rintro bv A1 ⟨O1,o1,K1⟩;simp only[go_sem,Za,Zb,ae,h3];refine⟨K1.any,(hc L2 d A1 (hd.aj K1) (by omega)).mono ?_⟩;rintro dv A2 ⟨O2,o2,K2⟩;simp only[go_sem,Za,Zb,ae];have df:=K1.trans K2;refine⟨K2.any,(hc L3 a A2 (ha.aj df) (by omega)).mono ?_⟩;rintro av A3 ⟨O3,o3,K3⟩;have eo:=df.trans K3;have s1:=K1.size;have s2:=K2.size;have DR:b3<A.size:=B.lt;have B3:=eo.bl B (by simp);have B4:=B3.az 1 bv;have B5:=B4.az 2 dv;have B6:=B5.az 3 av;have k4:af (fun q=>q=b3) A3 (az A3 ⟨b3,1,ZU⟩ bv):=(af.refl _ _).az _ (.inl rfl);have k5:af (fun q=>q=b3) (az A3 ⟨b3,1,ZU⟩ bv) (az (az A3 ⟨b3,1,ZU⟩ bv) ⟨b3,2,ZU⟩ dv):=(af.refl _ _).az _ (.inl rfl);have k6:af (fun q=>q=b3) (az (az A3 ⟨b3,1,ZU⟩ bv) ⟨b3,2,ZU⟩ dv) (az (az (az A3 ⟨b3,1,ZU⟩ bv) ⟨b3,2,ZU⟩ dv) ⟨b3,3,ZU⟩ av):=(af.refl _ _).az _ (.inl rfl);have t4:=B3.bw (o:=1) (by simp);have t5:=B4.bw (o:=2) (by simp);have t6:=B5.bw (o:=3) (by simp);have q1:=aK (O1.sl.aq);have q2:=aK (O2.sl.aq);have q3:=aK (O3.sl.aq);simp only[go_sem,Za,Zb,ae,h3,t4,t5,t6,q1,q2,q3];have k46:=(k4.trans k5).trans k6;exact⟨K3.any,q1,k4,q2,k5,q3,k6,hK bv dv av _ ((O1.ai (K2.trans K3) (by simp)).ai k46 fun q hq e=>by have:=o1 q hq;omega) ((O2.ai K3 (by simp)).ai k46 fun q hq e=>by have:=o2 q hq;omega) (O3.ai k46 fun q hq e=>by have:=o3 q hq;omega) o1 (fun q hq=>by have:=o2 q hq;omega) (fun q hq=>by have:=o3 q hq;omega) B6 (eo.any.trans k46)⟩
structure Rf (f:cf):Prop where
 st:f.st.length<=1000
 be:f.be.length<=1000
 di:f.di.length<=1000
 sa:f.sa.length<=1000
 mo:f.mo.length<=1000
def nK (P:Program) (k:FuncId):Prop:=∀(f:cf) (w:ZR) (H:Hp),dF H w f->Rf f->an P k #[w] H fun r H'=>tZ H.size H' r f/\af (fun _=>False) H H'
def Rg (hk:ak P k (Bh V) Bi 1) (hc:dz pE P (V.f 204)) (hr:il P (V.f 283)):nK P k:=by
 intro f w H hw hsm;obtain⟨s,b,d,a,m,rfl,h1,h2,h3,h4,h5⟩:=hw;refine qI fun Q hQ=>?_;refine ah hk (args:=[_]) (by simp) ?_;unfold Bh Bi kB kC ke kG kH kK kM kN kO kR kV kd kf kY kZ;simp only[go_sem,Za,Zb];refine ax fun H1 b1 e1 z1 B1 K1=>?_;have bL:Bl H1 b1 [s,b,d,a,m]:=B1;simp only[go_sem,Za,Zb];refine ax fun H2 b2 e2 z2 B2 K2=>?_;have gI:=K2.bl bL id;simp only[go_sem,Za,Zb];refine ax fun H3 b3 e3 z3 B3 K3=>?_;have jv:=K3.bl gI id;have tR:=K3.bl B2 id;have uT:Bl H3 b3 [Z6 ZU 0 0,Z6 ZU 0 0,Z6 ZU 0 0,Z6 ZU 0 0,Z6 ZU 0 0]:=B3;have eo:=(K1.trans K2).trans K3;have hb1:b1<b2:=by have:=bL.lt;omega
 have hb2:b2<b3:=by have:=B2.lt;omega
 obtain⟨C,hC⟩:∃C,C=H3.size:=⟨_,rfl⟩
 have hCH:H.size<=b1:=by omega
 have DR:b3<C:=by have:=uT.lt;omega
 have W0:∀{X:Hp},af (fun q=>q=b3\/C<=q) H3 X->Bl X b1 [s,b,d,a,m]:=fun K=>K.bl jv (by omega);have c0:cell H3 ⟨b1,0,ZU⟩=ZV s:=by rw[jv.cell];rfl
 simp only[go_sem,Za,Zb,ae,c0,h1.aq,h1.len];refine aF f.st.length [12,5,11] rfl rfl (by have:=hsm.st;omega) (by rfl) (by rfl) (fun i g A=>∃sv,Bl A b3 [sv,Z6 ZU 0 0,Z6 ZU 0 0,Z6 ZU 0 0,Z6 ZU 0 0]/\cr cB 2 A sv (f.st.take i)/\(∀q,ay sv q->C<=q)/\af (fun q=>q=b3\/C<=q) H3 A) ⟨_,uT,cr.nil _,fun q h=>h.elim,af.refl _ _⟩ ?_ ?_
 ·rintro i g A hi gi gn ⟨sv,BA,OA,oA,KA⟩;simp only[go_sem,Za,Zb,ae]at gi gn;have sA:=KA.size;have hA:=(h1.aj eo).ai KA fun q hq h=>by have:=h1.bo hq;omega
  obtain⟨pb,po,pc,fT,oz,hld⟩:=hA.elem dE hi;obtain⟨x,hx⟩:∃x,x=f.st[i]:=⟨_,rfl⟩
  rw[<-hx]at hld;have dm:aQ A ⟨pb,po+i*2,ZU⟩ 2=ZV #[sV x.1,Z8 ZY x.2]:=hld;simp only[go_sem,Za,Zb,gi,fT,al,aC,dm];refine⟨by omega,?_⟩;refine aO [sV x.1,Z8 ZY x.2] (by rfl) rfl rfl rfl fun A1 bp eb zb BP KP=>?_;simp only[go_sem,Za,Zb,ae];refine aa6 (x:=x) (C:=C) (by rfl) (by rfl) (by have:=hsm.st;rw[Zr];omega) BP (KP.bl BA id) (by omega) (by omega) (OA.ai KP (by simp)) oA fun v' A' O' o' B' K'=>?_;simp only[go_sem,Za,Zb,ae];exact⟨v',B',by rw[cZ hi,<-hx];exact O',o',(KA.trans KP.any).trans K'⟩
 ·rintro g A gi ⟨sv,BA,OA,oA,KA⟩;rw[ZI]at OA;have sA:=KA.size;have W1:=W0 KA;have c1:cell A ⟨b1,1,ZU⟩=ZV b:=by rw[W1.cell];rfl
  have c2:cell A ⟨b1,2,ZU⟩=ZV d:=by rw[W1.cell];rfl
  have c3:cell A ⟨b1,3,ZU⟩=ZV a:=by rw[W1.cell];rfl
  have up:∀{v:ZR} {l:List fC},rP H v l->rP A v l:=fun h=>(h.aj eo).ai KA fun q hq hw=>by have:=h.bo hq;omega
  obtain⟨C1,hC1⟩:∃C1,C1=A.size:=⟨_,rfl⟩
  have oS:∀q,ay sv q->C<=q/\q<C1:=fun q hq=>⟨oA q hq,by have:=OA.bo hq;omega⟩
  simp only[go_sem,Za,Zb,ae];refine aa7 (b1:=b1) (b3:=b3) hc (by rfl) (by rfl) (by omega) W1 BA (up h2) (up h3) (up h4) hsm.be hsm.di hsm.sa fun bv dv av X OB OD OA2 ob od oa BX KX=>?_;have sX:=KX.size;have OSX:=OA.ai KX fun q hq e=>by have:=oS q hq;omega
  have K3X:af (fun q=>q=b3\/C<=q) H3 X:=KA.trans (KX.mono fun q _ e=>.inl e);have W2:=W0 K3X;have c4:cell X ⟨b1,4,ZU⟩=ZV m:=by rw[W2.cell];rfl
  obtain⟨C2,hC2⟩:∃C2,C2=X.size:=⟨_,rfl⟩
  have oB:∀q,ay bv q->C1<=q/\q<C2:=fun q hq=>⟨by have:=ob q hq;omega,by have:=OB.bo hq;omega⟩
  have oD:∀q,ay dv q->C1<=q/\q<C2:=fun q hq=>⟨by have:=od q hq;omega,by have:=OD.bo hq;omega⟩
  have oA2:∀q,ay av q->C1<=q/\q<C2:=fun q hq=>⟨by have:=oa q hq;omega,by have:=OA2.bo hq;omega⟩
  simp only[go_sem,Za,Zb,ae,c4,h5.aq,h5.len];refine aF f.mo.length [42,7,41] rfl rfl (by have:=hsm.mo;omega) (by rfl) (by rfl) (fun i g T=>∃mv ms,Bl T b3 [sv,bv,dv,av,mv]/\cr cq 2 T mv ms/\gY T ms (f.mo.take i)/\(∀q,ay mv q->C2<=q)/\(∀x∈ms,∀q,aV (gP x) q->C2<=q/\¬ay mv q)/\af (fun q=>q=b3\/C2<=q) X T) ⟨_,[],BX,cr.nil _,⟨by simp,fun i h=>by simp at h⟩,fun q h=>h.elim,fun x h=>by simp at h,af.refl _ _⟩ ?_ ?_
  ·rintro i g2 T hi gi gn ⟨mv,ms,BT,OT,MT,oT,omT,KT⟩;simp only[go_sem,Za,Zb,ae]at gi gn;have sT:=KT.size;have Rb:af (fun q=>q=b3\/C<=q) H3 T:=K3X.trans (KT.mono fun q _ h=>by omega);have hT:=(h5.aj eo).ai Rb fun q hq h=>by have:=h5.bo hq;omega
   obtain⟨pb,po,pc,fT,oz,hld⟩:=hT.elem qt hi;obtain⟨x,hx⟩:∃x,x=f.mo[i]:=⟨_,rfl⟩
   rw[<-hx]at hld;have dm:aQ T ⟨pb,po+i*2,ZU⟩ 2=ZV #[Z8 ZY x.1,Z8 ZW x.2.toNat]:=hld;simp only[go_sem,Za,Zb,gi,fT,al,aC,dm];refine⟨by omega,?_⟩;refine aO [Z8 ZY x.1,Z8 ZW x.2.toNat] (by rfl) rfl rfl rfl fun T1 bp eb zb BP KP=>?_;simp only[go_sem,Za,Zb,ae];have mb:ms.length=i:=by rw[MT.len,Zr];omega
   refine aa5 (y:=x) (C:=C2) hr (by rfl) (by rfl) (by have:=hsm.mo;omega) BP (KP.bl BT id) (by omega) (by omega) (by omega) (OT.ai KP (by simp)) oT (fun h=>by have:=OT.bo h;omega) (MT.aj KP) omT fun v' A' ms' O' hl' M' o' om' B' K'=>?_;simp only[go_sem,Za,Zb,ae];exact⟨v',ms',B',O',by rw[cZ hi,<-hx];exact M',o',om',(KT.trans KP.any).trans K'⟩
  ·rintro g2 T gi ⟨mv,ms,BT,OT,MT,oT,omT,KT⟩;rw[ZI]at MT;have sT:=KT.size;have Rb:af (fun q=>q=b3\/C<=q) H3 T:=K3X.trans (KT.mono fun q _ h=>by omega);have OST:=OSX.ai KT fun q hq h=>by have:=oS q hq;omega
   have OBT:=OB.ai KT fun q hq h=>by have:=oB q hq;omega
   have ODT:=OD.ai KT fun q hq h=>by have:=oD q hq;omega
   have OAT:=OA2.ai KT fun q hq h=>by have:=oA2 q hq;omega
   have B2T:=Rb.bl tR (by omega);simp only[go_sem,Za,Zb,ae,BT.aL 5 rfl];have one:([sv,bv,dv,av,mv].all fun v=>v.oneCell')=ZT:=by
    obtain⟨_,_,_,rfl⟩:=OST.shape;obtain⟨_,_,_,rfl⟩:=OBT.shape;obtain⟨_,_,_,rfl⟩:=ODT.shape;obtain⟨_,_,_,rfl⟩:=OAT.shape;obtain⟨_,_,_,rfl⟩:=OT.shape
    rfl
   refine G6 (n:=5) (cs:=[sv,bv,dv,av,mv]) B2T rfl rfl one fun HZ zz BZ2 uQ=>?_;rw[hQ];have K0T:af (fun _=>False) H T:=eo.trans' Rb fun q hq h=>by omega
   refine⟨⟨sv,bv,dv,av,mv,ms,rfl,OST.ai uQ fun q hq e=>?_,OBT.ai uQ fun q hq e=>?_,ODT.ai uQ fun q hq e=>?_,OAT.ai uQ fun q hq e=>?_,OT.ai uQ fun q hq e=>?_,MT.ai uQ fun x hx q hq e=>?_,?_,?_,?_,?_⟩,K0T.trans' uQ fun q hq e=>by omega⟩
   ·have:=oS q hq;omega
   ·have:=oB q hq;omega
   ·have:=oD q hq;omega
   ·have:=oA2 q hq;omega
   ·have:=oT q hq;omega
   ·have:=(omT x hx q hq).1;omega
   ·intro c hc q hq;simp only[YW,Zk,or_false]at hc;rcases hc with rfl|rfl|rfl|rfl|rfl
    ·have:=oS q hq;omega
    ·have:=oB q hq;omega
    ·have:=oD q hq;omega
    ·have:=oA2 q hq;omega
    ·have:=oT q hq;omega
   ·intro x hx q hq;have:=(omT x hx q hq).1;omega
   ·intro c hc q hq hs;have:=oS q hs;simp only[YW,Zk,or_false]at hc;rcases hc with rfl|rfl|rfl|rfl
    ·have:=oB q hq;omega
    ·have:=oD q hq;omega
    ·have:=oA2 q hq;omega
    ·have:=oT q hq;omega
   ·intro x hx q hq hs;have:=oS q hs;have:=(omT x hx q hq).1;omega
structure jk (H:Hp) (vs:List ZR) (ms:List UInt64):Prop where
 len:vs.length=ms.length
 at_:∀i (h:i<vs.length) (h':i<ms.length),aR H (Z0 #[vs[i]]) (bt ms[i])
def jk.ai {ms:List UInt64} (h:jk H vs ms) (hk:af W H H') (hw:∀x∈vs,∀q,aV x q->¬W q):jk H' vs ms:=
 ⟨h.len,fun i h1 h2=>(h.at_ i h1 h2).ai hk fun q hq=>hw _ (ZL h1) q hq⟩
def jk.aj {ms:List UInt64} (h:jk H vs ms) (hk:af (fun _=>False) H H'):jk H' vs ms:=h.ai hk fun _ _ _ _ h=>h
def jk.snoc {ms:List UInt64} (h:jk H vs ms) {x:ZR} {y:UInt64} (h2:aR H (Z0 #[x]) (bt y)):jk H (vs++[x]) (ms++[y]):=by
 refine⟨by simp[h.len],fun i hi iU=>?_⟩
 by_cases e:i<vs.length
 ·rw[YJ e,YJ (by rw[<-h.len];exact e)];exact h.at_ i e (by rw[<-h.len];exact e)
 ·have ou:i=vs.length:=by simp at hi;omega
  subst ou;have e1:(vs++[x])[vs.length]=x:=by simp
  have e2:(ms++[y])[vs.length]'iU=y:=by
   have:=h.len;simp[this]
  rw[e1,e2];exact h2
def E4 (C:Nat) (H:Hp) (v:ZR) (ms:List UInt64):Prop:=∃vs,br H v vs/\jk H vs ms/\(∀q,ay v q->C<=q)/\∀x∈vs,∀q,aV x q->C<=q/\¬ay v q
def E4.aj {ms:List UInt64} (h:E4 C H v ms) (hk:af (fun _=>False) H H'):E4 C H' v ms:=by
 obtain⟨vs,h1,h2,h3⟩:=h;exact⟨vs,h1.ai hk (by simp),h2.aj hk,h3⟩
def sr (P:Program) (k:FuncId):Prop:=∀(r:cF) (v:ZR) (H:Hp),jj H v r->an P k #[v] H fun x H'=>∃fv lv mv uv,x=ZZ #[fv,lv,mv,uv]/\tZ H.size H' fv (bu r)/\E4 H.size H' lv (aD r)/\dF H' mv (bu r)/\aP H' uv (cj (aD r))/\af (fun _=>False) H H'
def Hr (P:Program) (k:FuncId):Prop:=∀(r:cF) (v:ZR) (H:Hp),jj H v r->an P k #[v] H fun x H'=>∃C fv lv mv uv,x=ZZ #[fv,lv,mv,uv]/\H.size<=C/\tZ C H' fv (bu r)/\(∀q,ay lv q->q<C)/\E4 H.size H' lv (aD r)/\dF H' mv (bu r)/\aP H' uv (cj (aD r))/\af (fun _=>False) H H'
def NR (r:cF):Rf (bu r):=by
 have h:=(iK r).lim;unfold iJ at h;exact⟨by omega,by omega,by omega,by omega,by omega⟩
def NS (hk:ak P k (uR V) uS 1) (hm:qw P (V.f 292)) (hu:lq P (V.f 295)) (hr:il P (V.f 283)) (hf:nK P (V.f 299)):Hr P k:=by
 intro r v H hv;have pg:=hv;obtain⟨hn,ro,be,di,sa,mo,el,rfl,hro,hbe,hdi,UF,hmo,hel⟩:=hv;refine qI fun Q hQ=>?_;refine ah hk (args:=[_]) (by simp) ?_;unfold uR uS kA kB kC kD ke kH kK kM kO kR kV kW kX ka kb kc kd kf kg kY kZ;simp only[go_sem,Za,Zb];refine ax fun H1 b1 e1 z1 B1 K1=>?_;have bL:Bl H1 b1 [Z8 ZX (r.n:Int),ro,be,di,sa,mo,el]:=B1;simp only[go_sem,Za,Zb];refine ax fun H2 b2 e2 z2 B2 K2=>?_;have fG:Bl H2 b2 [Z6 ZU 0 0,Z6 ZU 0 0,Z6 ZU 0 0,Z6 ZU 0 0,Z6 ZU 0 0]:=B2;simp only[go_sem,Za,Zb];refine ax fun H3 b4 e3 z3 B3 K3=>?_;have uT:Bl H3 b4 [Z6 ZU 0 0,Z6 ZU 0 0,Z6 ZU 0 0,Z6 ZU 0 0,Z6 ZU 0 0]:=B3;have eo:=(K1.trans K2).trans K3;have mD:=K2.trans K3;have jv:=mD.bl bL (by simp);have hb1:b1<b2:=by have:=bL.lt;omega
 have hb2:b2<b4:=by have:=B2.lt;omega
 simp only[go_sem,Za,Zb,jv.aL 7 rfl];refine(hm r _ H3 (pg.aj eo)).mono ?_;rintro w H4 ⟨hw,fw,K4⟩;have hw0:=hw;obtain⟨ws,wb,wd,wa,wm,rfl,w1,w2,w3,w4,w5⟩:=hw;have one:([ws,wb,wd,wa,wm].all fun v=>v.oneCell')=ZT:=by
  have q1:=aK w1.aq;have q2:=aK w2.aq;have q3:=aK w3.aq;have q4:=aK w4.aq;have q5:=aK w5.aq;simp[q1,q2,q3,q4,q5]
 rw[ae];simp only[go_sem,Za,Zb];refine aO [ws,wb,wd,wa,wm] (by rfl) rfl rfl one fun H5 b6 e5 z5 B5 K5=>?_;have K35:=K4.trans K5;have DS:=eo.trans K35;have GB:=K35.bl jv id;simp only[go_sem,Za,Zb,GB.aL 7 rfl,B5.aL 5 rfl];refine(hu r _ _ H5 (pg.aj DS) (hw0.aj K5)).mono ?_;rintro uv H6 ⟨OU,oU,K6⟩;have DQ:=DS.trans K6;have hn5:=ft r;have mb:(cj (aD r)).length=oC r:=by rw[aI,cJ]
 rw[ae];simp only[go_sem,Za,Zb,ae,OU.sl.aq,OU.sl.len,mb];refine aF (oC r) [19,10,8,18] rfl rfl (by omega) (by rfl) (by rfl) (fun i g A=>∃lv vs,g 8=lv/\br A lv vs/\jk A vs ((aD r).take i)/\(∀q,ay lv q->H6.size<=q)/\(∀x∈vs,∀q,aV x q->H6.size<=q/\¬ay lv q)/\af (fun _=>False) H6 A) ⟨_,[],by simp only[go_sem,Za,Zb,ae],br.nil _,⟨by simp,fun i h=>by simp at h⟩,fun q h=>h.elim,fun x h=>by simp at h,af.refl _ _⟩ ?_ ?_
 ·rintro i g A hi gi gn ⟨lv,vs,g8,OA,RA,oA,rA,KA⟩;simp only[go_sem,Za,Zb,ae]at gi gn g8;have sA:=KA.size;have uA:=OU.sl.ai KA (by simp);have UE:i<(aD r).length:=by rw[cJ];exact hi
  obtain⟨ub,uo,uc,hue,huc,hcell⟩:=uA.cells (by intro e;rw[e]at mb;simp at mb;omega);have hci:=hcell i (by rw[mb];exact hi);rw[dW _ _ UE]at hci;rw[mb]at hue;have hvl:vs.length=i:=by rw[RA.len,Zr];omega
  obtain⟨x,hx⟩:∃x,x=(aD r)[i]:=⟨_,rfl⟩
  have hxd:(aD r).getD i 0=x:=by rw[ZP,List.getElem?_eq_getElem UE,hx];rfl
  rw[hxd]at hci;simp only[go_sem,Za,Zb,ae,gi,hue,al,hci];refine⟨by omega,(hr x A).mono ?_⟩;rintro rv A1 ⟨⟨u,W,rfl,hV⟩,rf,Rh⟩;have sA1:=Rh.size;rw[ae];simp only[go_sem,Za,Zb];refine aG fun A2 bb eb zb BB KB=>?_;have BB':Bl A2 bb [u]:=BB;simp only[go_sem,Za,Zb,ae,g8];have hu1:bM #[u]:=hV.sl.one;refine iD (OA.ai (Rh.trans KB) (by simp)) (aP.bl BB' 0 1 1 (by omega) (by simp)) hu1 rfl (by unfold maxLen;simp;omega) (by simp;omega) fun v' A3 O3 K3 o3=>?_;have k3:af (fun q=>H6.size<=q) A2 A3:=K3.mono fun q _ h=>oA q h;have hown:∀q,ay lv q->q<A.size:=fun q hq=>OA.bo hq;have hus:∀q,aV u q->q<A1.size:=fun q hq=>(aR.bo (x:=Z0 #[u]) ⟨u,W,rfl,hV⟩ (k:=q) hq)
  have hvs:∀z∈vs,∀q,aV z q->q<A.size:=fun z hz q hq=>by
   obtain⟨j,hj,rfl⟩:=ZC hz;exact(RA.at_ j hj (by rw[<-RA.len];exact hj)).bo (k:=q) hq
  simp only[go_sem,Za,Zb,ae];refine⟨v',vs++[u],rfl,O3,?_,fun q hq=>?_,fun z hz q hq=>?_,((KA.trans Rh).trans KB).trans' k3 fun q hq h=>by omega⟩
  ·rw[cZ UE,<-hx];refine((RA.aj (Rh.trans KB)).ai K3 fun z hz q hq=>(rA z hz q hq).2).snoc ((aR.aj ⟨u,W,rfl,hV⟩ KB).ai K3 fun q hq h=>?_);have:=rf q hq;have:=hown q h;omega
  ·rcases o3 q hq with h|h
   ·exact oA q h
   ·omega
  ·rcases List.mem_append.1 hz with hz|hz
   ·refine⟨(rA z hz q hq).1,fun h=>?_⟩;rcases o3 q h with h|h
    ·exact(rA z hz q hq).2 h
    ·have:=hvs z hz q hq;omega
   ·simp only[XC]at hz;subst hz;have h1:=rf q hq;have h2:=hus q hq;refine⟨by omega,fun h=>?_⟩;rcases o3 q h with h|h
    ·have:=hown q h;omega
    ·omega
 ·rintro g A gi ⟨lv,vs,g8,OA,RA,oA,rA,KA⟩;simp only[go_sem,Za,Zb,ae]at g8;rw[Zy (by rw[cJ];omega)]at RA;have sA:=KA.size;have K6A:=K6.trans KA;have B5A:=K6A.bl B5 id;have UG:af (fun _=>False) H2 A:=(K3.trans K35).trans K6A;have K3A:af (fun _=>False) H3 A:=K35.trans K6A;have NT:=UG.bl fG (by simp);have B4A:=K3A.bl uT id;have hb4:b4<b6:=by have:=uT.lt;have:=K4.size;omega
  simp only[go_sem,Za,Zb,ae];refine aZ (fun q=>q=b2\/q=b4) ?_;simp only[go_sem,Za,Zb,ae,B5A.aL 5 rfl,g8];have rw0:=hw0.aj (K5.trans K6A);refine⟨by omega,by omega,(hf (bu r) _ A rw0 (NR r)).mono ?_⟩;rintro fv X ⟨hfv,KX⟩;have amr:=hfv;obtain⟨fs,fb,fd,fa,fm,ms,rfl,f1,f2,f3,f4,f5,f6,f7,f8,f9,f10⟩:=hfv;have akO:([fs,fb,fd,fa,fm].all fun v=>v.oneCell')=ZT:=by
   obtain⟨_,_,_,rfl⟩:=f1.shape;obtain⟨_,_,_,rfl⟩:=f2.shape;obtain⟨_,_,_,rfl⟩:=f3.shape;obtain⟨_,_,_,rfl⟩:=f4.shape;obtain⟨_,_,_,rfl⟩:=f5.shape
   rfl
  have s3:=K3A.size;have s0A:H.size<=A.size:=by have:=eo.size;omega
  have B2X:=KX.bl NT id;have B4X:=KX.bl B4A id;have hbX:b4<X.size:=B4X.lt;have B2Y:=B2X.aB 0 [fs,fb,fd,fa,fm];have ky:af (fun q=>q=b2) X (aB X ⟨b2,0,ZU⟩ [fs,fb,fd,fa,fm]):=(af.refl _ _).aB _ (.inl rfl);have B4Y:=ky.bl B4X (by omega);have B4Z:=B4Y.aB 0 [ws,wb,wd,wa,wm];have kz:af (fun q=>q=b4) (aB X ⟨b2,0,ZU⟩ [fs,fb,fd,fa,fm]) (aB (aB X ⟨b2,0,ZU⟩ [fs,fb,fd,fa,fm]) ⟨b4,0,ZU⟩ [ws,wb,wd,wa,wm]):=(af.refl _ _).aB _ (.inl rfl);have B2Z:=kz.bl B2Y (by omega);have akP:Bl (aB (aB X ⟨b2,0,ZU⟩ [fs,fb,fd,fa,fm]) ⟨b4,0,ZU⟩ [ws,wb,wd,wa,wm]) b2 [fs,fb,fd,fa,fm]:=B2Z;have akQ:Bl (aB (aB X ⟨b2,0,ZU⟩ [fs,fb,fd,fa,fm]) ⟨b4,0,ZU⟩ [ws,wb,wd,wa,wm]) b4 [ws,wb,wd,wa,wm]:=B4Z;have kk:af (fun q=>q=b2\/q=b4) X (aB (aB X ⟨b2,0,ZU⟩ [fs,fb,fd,fa,fm]) ⟨b4,0,ZU⟩ [ws,wb,wd,wa,wm]):=(ky.mono fun q _ e=>.inl e).trans (kz.mono fun q _ e=>.inr e);have hlow:∀q,H3.size<=q->¬(q=b2\/q=b4):=fun q hq h=>by have:=uT.lt;omega
  have s36:H3.size<=H6.size:=by have:=K35.size;have:=K6.size;omega
  simp only[go_sem,Za,Zb,ae,B2X.bG (o:=0) (n:=5) (by simp),B4Y.bG (o:=0) (n:=5) (by simp),akP.aL 5 rfl,akQ.aL 5 rfl];refine⟨KX.any,aU akO,ky.mono fun q _ e=>.inl e,aU one,kz.mono fun q _ e=>.inr e,?_⟩;rw[hQ];have pres:∀c∈[fs,fb,fd,fa,fm],∀q,ay c q->¬(q=b2\/q=b4):=fun c hc q hq=>hlow q (by have:=f7 c hc q hq;omega);refine⟨A.size,_,lv,_,uv,rfl,s0A,⟨fs,fb,fd,fa,fm,ms,rfl,f1.ai kk (pres _ (by simp)),f2.ai kk (pres _ (by simp)),f3.ai kk (pres _ (by simp)),f4.ai kk (pres _ (by simp)),f5.ai kk (pres _ (by simp)),f6.ai kk fun x hx q hq=>hlow q (by have:=f8 x hx q hq;omega),f7,f8,f9,f10⟩,fun q hq=>OA.bo hq,⟨vs,(OA.ai KX (by simp)).ai kk fun q hq=>hlow q (by have:=oA q hq;omega),(RA.aj KX).ai kk fun x hx q hq=>hlow q (by have:=(rA x hx q hq).1;omega),fun q hq=>by have:=oA q hq;have:=DQ.size;omega,fun x hx q hq=>⟨by have:=(rA x hx q hq).1;have:=DQ.size;omega,(rA x hx q hq).2⟩⟩,?_,?_,?_⟩
  ·exact(rw0.aj KX).ai kk fun q hq=>hlow q (by have:=fw q hq;omega)
  ·exact((OU.sl.ai KA (by simp)).ai KX (by simp)).ai kk fun q hq=>hlow q (by have:=oU q (OU.aV hq);have:=K35.size;omega)
  ·exact((DQ.trans KA).trans KX).trans' kk fun q hq h=>by omega
def Ri (hk:ak P k (uR V) uS 1) (hm:qw P (V.f 292)) (hu:lq P (V.f 295)) (hr:il P (V.f 283)) (hf:nK P (V.f 299)):sr P k:=by
 intro r v H hv;refine(NS hk hm hu hr hf r v H hv).mono ?_;rintro x H' ⟨C,fv,lv,mv,uv,rfl,hC,⟨s,b,d,a,m,ms,rfl,p1,p2,p3,p4,p5,p6,p7,p8,p9,p10⟩,-,hL,hM,hU,K⟩;exact⟨_,lv,mv,uv,rfl,⟨s,b,d,a,m,ms,rfl,p1,p2,p3,p4,p5,p6,fun c hc q hq=>Zp hC (p7 c hc q hq),fun x hx q hq=>Zp hC (p8 x hx q hq),p9,p10⟩,hL,hM,hU,K⟩
def Bj (V:aH):S:=
 kY [kC 4 (Z8 ZY 0)] (.seq (kY [kA 6 0,kV 7 (.m (.lenl (.t 6))),kC 8 (Z8 ZY 0)] (.blk 0 (.loop (kY [kH 9 8 7] (.seq (.ite (.v 9) .skip (.exit 0)) (.seq (.blk 1 (kY [kA 10 8,kB 5 10] (kY [kA 11 1,kA 12 0,kA 13 5,kI 14 2 12 13,kN 15 2 14,kd 16 (.callv (.t 11) [.t 15])] (.ite (.v 16) (kY [kA 17 5,kB 4 17] .ret) .skip)))) (.reg [ke 18 8,kB 8 18]))))))) (kY [kC 4 (Z8 ZY (-1))] .ret))
def Bk:List RV:=[.t 4]
def Hs (V:aH):S:=
 kY [kC 4 (Z5 ZS)] (kY [kA 5 0,kA 6 1,kc 7 (kg (V.f 301) [.t 5,.t 6]),kU 8 (.cm .geq ZY (.t 7) (.c (Z8 ZY 0))),kB 4 8] .ret)
def Ht:List RV:=[.t 4]
def Hu (V:aH):S:=
 kY [kC 4 (Z5 ZS)] (kY [kA 5 0,kA 6 1,kc 7 (kg (V.f 303) [.t 5,.t 6]),kU 8 (.cm .geq ZY (.t 7) (.c (Z8 ZY 0))),kB 4 8] .ret)
def Hv:List RV:=[.t 4]
def Hw (V:aH):S:=
 kY [kR 2 (V.t 297) 0,kC 3 (Z5 ZS)] (kY [kG 4 0 2,kD 5 4,kG 6 0 1,kD 7 6,kU 8 (.sc .eql (.t 5) (.t 7)),kB 3 8] .ret)
def Hx:List RV:=[.t 3]
def wF (V:aH):S:=
 kY [kd 2 (.new (V.t 128) #[kZ])] (kY [kA 5 0,kU 6 (.m (.mx (.t 5) (.c (Z8 ZY 0)))),kU 7 (.m (.mn (.t 6) (.c (Z8 ZY 4096)))),kB 0 7] (kY [kA 8 0,kU 9 (.ar .add ZY (.t 8) (.c (Z8 ZY 63))),kU 10 (.dv .quo ZY (.t 9) (.c (Z8 ZY 64))),kc 11 (.rJ (V.t 28) 1 8 #[Z8 ZW 0] (.t 10) (.t 10)),kB 3 11] (.seq (kY [kA 12 3,kV 13 (.m (.lenl (.t 12))),kC 14 (Z8 ZY 0)] (.blk 0 (.loop (kY [kH 15 14 13] (.seq (.ite (.v 15) .skip (.exit 0)) (.seq (.blk 1 (kY [kA 16 14,kB 4 16] (.reg [kA 17 3,kA 18 4,kI 19 1 17 18,kf (.st (.t 19) (.c (Z8 ZW 18446744073709551615)))]))) (.reg [ke 20 14,kB 14 20]))))))) (.seq (kY [kA 21 0,kU 22 (.dv .rem ZY (.t 21) (.c (Z8 ZY 64))),kV 23 (.cm .gtr ZY (.t 22) (.c (Z8 ZY 0)))] (.ite (.v 23) (.reg [kA 24 3,kA 25 3,kL 26 25,kU 27 (.ar .sub ZY (.t 26) (.c (Z8 ZY 1))),kA 28 0,kU 29 (.dv .rem ZY (.t 28) (.c (Z8 ZY 64))),kU 30 (.sh .shl ZW (.c (Z8 ZW 1)) (.t 29)),kU 31 (.ar .sub ZW (.t 30) (.c (Z8 ZW 1))),kI 32 1 24 27,kf (.st (.t 32) (.t 31))]) .skip)) (kY [kA 33 3,kU 34 (.m (.bld #[kZ] [(0,(1,.t 33))])),kf (.stn 1 (.v 2) (.t 34))] .ret)))))
def wG:List RV:=[.cn 2 1]
def wH (P:Program) (k:FuncId):Prop:=∀(s:List UInt8) (H:Hp),an P k #[sV s] H fun r H'=>r=.bool (cY s)/\af (fun _=>False) H H'
def Hy (hk:ak P k (mJ V) mK 1) (h:sf P k):wH P k:=by
 intro s H
 by_cases hs:s.length<=1000000
 ·exact h s H hs
 refine ah hk (args:=[_]) (by simp) ?_;unfold mJ mK kA kB kF kC ke kH kS kT kU kV kW kX ka kd kf kg kY;have e0:((s.length:Int)==0)=ZS:=by
  apply beq_eq_false_iff_ne.2;omega
 have e1:ZQ ((s.length:Int)>12)=ZT:=decide_eq_true (by omega);have hv:cY s=ZS:=by
  have:¬s.length<=12:=by omega
  simp[cY,this]
 simp only[go_sem,Za,Zb,ae,sV,jd,e0,e1,hv];exact af.refl _ _
def aa8 {α:Type} (P:Program) (enc:α->List ZR) (q:α->Bool) (l:List α) (g:FuncId) (fi ca:Array ZR) (H:Hp):Prop:=bS P g=ZT/\∀x∈l,∀A,af (fun _=>False) H A->an P g (fi++#[.agg (enc x).toArray]++ca) A fun r A'=>r=.bool (q x)/\af (fun _=>False) A A'
def ue {α:Type} (q:α->Bool) (l:List α):Int:=match l.findIdx? q with|some i=>(i:Int)|none=>-1
def mL {α:Type} (enc:α->List ZR) (P:Program) (k:FuncId):Prop:=∀(l:List α) (q:α->Bool) (v:ZR) (g:FuncId) (fi ca:Array ZR) (H:Hp),bk enc 2 H v l->l.length<=1000000->aa8 P enc q l g fi ca H->an P k #[v,.func (.func g) fi ca] H fun r H'=>r=Z8 ZY (ue q l)/\af (fun _=>False) H H'
def LM {enc:α->List ZR} (he:∀x,(enc x).length=2) (hk:ak P k (Bj V) Bk 2):mL enc P k:=by
 intro l q v g fi ca H hv hl ⟨hg,hq⟩;refine qI fun Q hQ=>?_;refine ah hk (args:=[_,_]) (by simp) ?_;unfold Bj Bk kA kB kC ke kH kI kN kV kd kY;simp only[go_sem,Za,Zb,ae,hv.aq,hv.len];refine aF l.length [9,5,16,4,8] rfl rfl (by omega) (by rfl) (by rfl) (fun i g A=>(∀j<i,∀hj:j<l.length,q l[j]=ZS)/\af (fun _=>False) H A) ⟨fun j h=>by omega,af.refl _ _⟩ ?_ ?_
 ·rintro i f A hi gi gn ⟨hno,KA⟩;simp only[go_sem,Za,Zb,ae]at gi gn;obtain⟨pb,po,pc,fT,oz,hld⟩:=(hv.aj KA).elem he hi;have:=hq l[i] (ZL hi) A KA;simp only[go_sem,Za,Zb,ae,gi,fT,al,aC,hld,hg];refine⟨by omega,this.mono ?_⟩;rintro r A1 ⟨rfl,K1⟩;rw[ae];simp only[go_sem,Za,Zb,ae];refine zP (fun hb=>?_) (fun hb=>?_)
  ·rw[hQ];have:l.findIdx? q=ZV i:=List.findIdx?_eq_some_iff_getElem.2 ⟨hi,hb,fun j hj=>by rw[hno j hj (by omega)];simp⟩;refine⟨?_,KA.trans K1⟩;simp only[ue,this]
  ·refine⟨fun j hj F0=>?_,KA.trans K1⟩
   by_cases e:j=i
   ·subst e;exact hb
   ·exact hno j (by omega) F0
 ·rintro f A gi ⟨hno,KA⟩;simp only[go_sem,Za,Zb,ae];rw[hQ];have:l.findIdx? q=ZU:=by
   rw[Yd];intro x hx;obtain⟨j,hj,rfl⟩:=ZC hx;exact hno j hj hj
  refine⟨?_,KA⟩;simp only[ue,this]
def jM {α:Type} (enc:α->List ZR) (P:Program) (k:FuncId):Prop:=∀(l:List α) (q:α->Bool) (v:ZR) (g:FuncId) (fi ca:Array ZR) (H:Hp),bk enc 2 H v l->l.length<=1000000->aa8 P enc q l g fi ca H->an P k #[v,.func (.func g) fi ca] H fun r H'=>r=.bool (l.any q)/\af (fun _=>False) H H'
def ss (q:α->Bool) (l:List α):ZQ (ue q l≥0)=l.any q:=by
 unfold ue
 cases h:l.findIdx? q with
 |none=>
  rw[Yd]at h;have:l.any q=ZS:=by rw[List.any_eq_false];intro x hx;rw[h x hx];simp
  rw[this];rfl
 |some i=>
  obtain⟨hi,h1,_⟩:=List.findIdx?_eq_some_iff_getElem.1 h;have:l.any q=ZT:=List.any_eq_true.2 ⟨_,ZL hi,h1⟩;rw[this];simp
def aa9 {enc:α->List ZR} (hk:ak P k (Hs V) Ht 2) (hi:mL enc P (V.f 301)):jM enc P k:=by
 intro l q v g fi ca H hv hl hq;refine ah hk (args:=[_,_]) (by simp) ?_;unfold Hs Ht kA kB kC kU kc kg kY;simp only[go_sem,Za,Zb,ae];refine(hi l q v g fi ca H hv hl hq).mono ?_;rintro r A ⟨rfl,K⟩;rw[ae];simp only[go_sem,Za,Zb,ae,ss];exact K
def aba {enc:α->List ZR} (hk:ak P k (Hu V) Hv 2) (hi:mL enc P (V.f 303)):jM enc P k:=by
 intro l q v g fi ca H hv hl hq;refine ah hk (args:=[_,_]) (by simp) ?_;unfold Hu Hv kA kB kC kU kc kg kY;simp only[go_sem,Za,Zb,ae];refine(hi l q v g fi ca H hv hl hq).mono ?_;rintro r A ⟨rfl,K⟩;rw[ae];simp only[go_sem,Za,Zb,ae,ss];exact K
def toList_ba (a b:List UInt8):((⟨a.toArray⟩:ByteArray).toList==(⟨b.toArray⟩:ByteArray).toList)=ZQ (a=b):=by
 have e:∀x:List UInt8,(⟨x.toArray⟩:ByteArray).toList=x:=fun x=>by rw[ByteArray.toList_eq]
 rw[e,e];rw[Bool.eq_iff_iff];simp
def wI (P:Program) (k:FuncId):Prop:=bS P k=ZT/\∀(x y:x9) (b:Nat) (H:Hp),Bl H b (cB y)->an P k #[.agg (cB x).toArray,Z7 (ZV ⟨b,0,ZU⟩)] H fun r H'=>r=.bool (ZQ (x.1=y.1))/\af (fun _=>False) H H'
def abb (hk:ak P k (Hw V) Hx 2):wI P k:=by
 refine⟨hk.body,fun x y b H hB=>?_⟩;refine ah hk (args:=[_,_]) (by simp) ?_;unfold Hw Hx kB kC kD kG kR kU kY;simp only[go_sem,Za,Zb];refine ax fun H1 b1 e1 z1 B1 K1=>?_;have bL:Bl H1 b1 (cB x):=B1;have c0:cell H1 ⟨b1,0,ZU⟩=ZV (sV x.1):=by rw[bL.cell];rfl
 have c1:cell H1 ⟨b,0,ZU⟩=ZV (sV y.1):=by rw[(K1.bl hB id).cell];rfl
 rw[sV]at c0 c1;simp only[go_sem,Za,Zb,ae,c0,c1,toList_ba];exact K1
def bk.ahP {enc:α->List ZR} {k:Nat} {l:List α} (hk:∀x,(enc x).length=k) (h:bk enc k H v l) {n:Nat} (hn:n<=l.length):bk enc k H (xW v k ZU (ZV (n:Int))) (l.take n):=by
 rcases h with⟨a,c,rfl,rfl⟩|⟨b,o,c,hne,rfl,h0,C,T,z,h1,h2,h3⟩
 ·have:n=0:=by simpa using hn
  subst this;exact .inl ⟨_,c -0,rfl,by simp⟩
 ·have hl:(l.take n).length=n:=by simp;omega
  have hm:n*k<=l.length*k:=Nat.mul_le_mul hn (ZH _);have:=bk.at_ (enc:=enc) (k:=k) (l:=l.take n) (o:=o) (c:=c) (by omega) h1 (by rw[hl];omega) (by
   rw[hl];rw[<-zR hk l n hn,<-h3];rw[List.take_take,Nat.min_eq_left hm])
  rw[hl]at this;simp[xW,pz,DM,fW]at this⊢;exact this
def fy:UInt64:=18446744073709551615
def LN (k:Nat) (hk:k<64):bt fy k=ZT:=by
 have:∀m:Fin 64,bt fy m.val=ZT:=by decide
 exact this ⟨k,hk⟩
def E5 (k:Nat):UInt64:=Y7 (2^k -1)
def abc (k j:Nat) (hk:k<64):bt (E5 k) j=ZQ (j<k):=by
 have e:(E5 k).toNat=2^k -1:=by
  unfold E5;rw[Zm];apply YF;have:2^k<=2^63:=Nat.pow_le_pow_right (by omega) (by omega);omega
 unfold bt;rw[e,Nat.testBit_two_pow_sub_one]
def wJ (n:Nat):List UInt64:=if n % 64>0 then(ZM ((n+63)/64) fy).set ((n+63)/64 -1) (E5 (n % 64))else ZM ((n+63)/64) fy
def E6 (n:Nat):(wJ n).length=(n+63)/64:=by unfold wJ;split<;>simp
def E7 (n i:Nat):cC (wJ n) i=ZQ (i<n):=by
 have hi:i % 64<64:=Nat.mod_lt _ (by omega);have rep:∀m j,(ZM m fy).getD j 0=if j<m then fy else 0:=fun m j=>by
  rw[ZP,Zj];split<;>rfl
 unfold wJ cC
 split
 ·next h=>
  have hm:0<(n+63)/64:=by omega
  rw[ZP,XA]
  by_cases e:(n+63)/64 -1=i/64
  ·rw[if_pos e,if_pos (by simp;omega),Option.getD_some,abc _ _ (by omega)];rw[decide_eq_decide];omega
  ·rw[if_neg e,<-ZP,rep]
   split
   ·next h2=>rw[LN _ hi,eq_comm,decide_eq_true_iff];omega
   ·next h2=>rw[eF,eq_comm,decide_eq_false_iff_not];omega
 ·next h=>
  rw[rep]
  split
  ·next h2=>rw[LN _ hi,eq_comm,decide_eq_true_iff];omega
  ·next h2=>rw[eF,eq_comm,decide_eq_false_iff_not];omega
def lu (P:Program) (k:FuncId):Prop:=∀(n:Nat) (H:Hp),n<=4096->an P k #[Z8 ZY n] H fun r H'=>aR H' r (fun i=>ZQ (i<n))/\af (fun _=>False) H H'/\∀q,jG r q->H.size<=q
def ahQ (k:Nat) (hk:k<64):IntKind.u64.wrap (IntKind.u64.wrap (1*2^k) -1)=((E5 k).toNat:Int):=by
 have:∀m:Fin 64,IntKind.u64.wrap (IntKind.u64.wrap (1*2^m.val) -1)=((E5 m.val).toNat:Int):=by decide
 exact this ⟨k,hk⟩
def NU (hk:ak P k (wF V) wG 1):lu P k:=by
 intro n H hn;refine qI fun Q hQ=>?_;refine ah hk (args:=[_]) (by simp) ?_;unfold wF wG kA kB kC ke kH kI kL kU kV kc kd kf kY kZ;simp only[go_sem,Za,Zb];refine ax fun H1 b1 e1 z1 B1 K1=>?_;have bL:Bl H1 b1 [Z6 ZU 0 0]:=B1;have m1:(if(0:Int)>(n:Int)then(0:Int)else(n:Int))=(n:Int):=if_neg (by omega);have m2:(if(4096:Int)<(n:Int)then(4096:Int)else(n:Int))=(n:Int):=if_neg (by omega);have w1:IntKind.i64.wrap ((n:Int)+63)=((n+63:Nat):Int):=by rw[ZN _ (by omega)];omega
 have w2:IntKind.i64.wrap (((n+63:Nat):Int).tdiv 64)=(((n+63)/64:Nat):Int):=by
  have:((n+63:Nat):Int).tdiv 64=(((n+63)/64:Nat):Int):=rfl;rw[this,ZN _ (by omega)]
 have hm:(n+63)/64<=maxLen:=by unfold maxLen;omega
 obtain⟨N,hN⟩:∃N,N=(n+63)/64:=⟨_,rfl⟩
 have ams:N<=64:=by omega
 have mb:N<=maxLen:=by unfold maxLen;omega
 simp only[go_sem,Za,Zb,m1,m2,w1,w2,al,kindOf,<-hN];refine⟨by decide,⟨by omega,by omega,by omega⟩,?_⟩;refine aG fun H2 b2 e2 z2 B2 K2=>?_;have fG:Bl H2 b2 (ZM N (Z8 ZW 0)):=by rw[dx]at B2;exact B2
 have amt:b1<b2:=by have:=bL.lt;omega
 simp only[go_sem,Za,Zb,ae];refine aF N [15,4,14] rfl rfl (by omega) (by rfl) (by rfl) (fun i g A=>Bl A b2 (cj (ZM i fy++ZM (N -i) 0))/\af (fun q=>q=b2) H2 A) ⟨by rw[qf]at fG;simpa using fG,af.refl _ _⟩ ?_ ?_
 ·rintro i g A hi gi gn ⟨BA,KA⟩;simp only[go_sem,Za,Zb,ae]at gi gn;have hlen:(cj (ZM i fy++ZM (N -i) 0)).length=N:=by rw[aI];simp;omega
  have hst:=BA.bw (o:=i) (by rw[hlen];exact hi);have BS:=BA.az i (Z8 ZW 18446744073709551615);have e64:(Value.int ZW 18446744073709551615)=Z8 ZW (fy.toNat:Int):=rfl;rw[e64,nB _ _ (by simp;omega)]at BS;have es:(ZM i fy++ZM (N -i) 0).set i fy=ZM (i+1) fy++ZM (N -(i+1)) (0:UInt64):=by
   refine List.ext_getElem? fun j=>?_;rw[XA]
   by_cases hj:i=j
   ·subst hj;rw[if_pos rfl,if_pos (by simp;omega),YP (by simp),Zj,if_pos (by omega)]
   ·rw[if_neg hj]
    by_cases hl:j<i
    ·rw[YP (by simpa using hl),YP (by simp;omega),Zj,Zj,if_pos hl,if_pos (by omega)]
    ·rw[Yf (by simp;omega),Yf (by simp;omega),Zj,Zj];simp only[List.length_replicate]
     split<;>split<;>first|rfl|omega
  rw[es]at BS;simp only[go_sem,Za,Zb,ae,gi,al,hst];exact⟨by omega,BS,KA.az _ (.inl rfl)⟩
 ·rintro g A gi ⟨BA,KA⟩;rw[Nat.sub_self,List.replicate_zero,List.append_nil]at BA;have m3:((n:Int)).tmod 64=((n % 64:Nat):Int):=ct _ 64;have QU:=(K2.any.trans KA).bl bL (by omega);have sA:=KA.size;simp only[go_sem,Za,Zb,ae,m3];have fin:∀(W:List UInt64) (X:Hp),Bl X b2 (cj W)->W.length=N->(∀i,cC W i=ZQ (i<n))->(W=wJ n)->af (fun q=>q=b2) A X->(bG X ⟨b1,0,ZU⟩ 1/\bM #[Value.slice (ZV ⟨b2,0,ZU⟩) N N])/\(aL (aB X ⟨b1,0,ZU⟩ [Value.slice (ZV ⟨b2,0,ZU⟩) N N]) (Z7 (ZV ⟨b1,0,ZU⟩)) 1).isSome=ZT/\Q (.agg ((aL (aB X ⟨b1,0,ZU⟩ [Value.slice (ZV ⟨b2,0,ZU⟩) N N]) (Z7 (ZV ⟨b1,0,ZU⟩)) 1).getD #[])) (aB X ⟨b1,0,ZU⟩ [Value.slice (ZV ⟨b2,0,ZU⟩) N N]):=fun W X hB hl hmem hW hK=>by
   have B1X:=hK.bl QU (by omega);refine G6 (n:=1) (cs:=[Z6 (ZV ⟨b2,0,ZU⟩) N N]) B1X rfl rfl rfl fun HZ zz BZ KZ=>?_;rw[hQ];have hsl:aP HZ (Z6 (ZV ⟨b2,0,ZU⟩) N N) (cj W):=by
    have:=aP.bl (KZ.bl hB (by omega)) 0 N N (ZH _) (by rw[aI];omega);rw[List.drop_zero,Zy (by rw[aI];omega)]at this;exact this
   refine⟨⟨_,W,rfl,⟨hsl,by omega,?_,hmem⟩⟩,?_,?_⟩
   ·refine Can.mC fun hne=>⟨n -1,?_,?_⟩
    ·rw[hmem];exact decide_eq_true (by
      have:0<N:=by rw[<-hl];exact List.length_pos_iff.2 hne
      omega)
    ·omega
   ·exact((K1.trans K2).trans' (KA.trans hK) fun q hq e=>by have:=K1.size;omega).trans' KZ fun q hq e=>by omega
   ·intro q hq;have hq:q=b2/\_:=hq;have:=K1.size;omega
  by_cases hp:n % 64>0
  ·have d1:ZQ (((n % 64:Nat):Int)>0)=ZT:=decide_eq_true (by omega);have w4:IntKind.i64.wrap ((N:Int) -1)=((N -1:Nat):Int):=by rw[ZN _ (by omega)];omega
   have hst:=BA.bw (o:=N -1) (by rw[aI];simp;omega);have BS:=BA.az (N -1) (Z8 ZW ((E5 (n % 64)).toNat:Int));rw[nB _ _ (by simp;omega)]at BS;have eW:(ZM N fy).set (N -1) (E5 (n % 64))=wJ n:=by unfold wJ;rw[if_pos hp,hN]
   rw[eW]at BS;simp only[go_sem,Za,Zb,ae,d1,w4,al,ahQ (n % 64) (by omega),hst];refine⟨by decide,by decide,by omega,by omega,?_⟩;exact fin (wJ n) _ BS (by rw[E6,hN]) (E7 n) rfl ((af.refl _ _).az _ (.inl rfl))
  ·have d1:ZQ (((n % 64:Nat):Int)>0)=ZS:=decide_eq_false (by omega);have eW:ZM N fy=wJ n:=by unfold wJ;rw[if_neg hp,hN]
   rw[eW]at BA;simp only[go_sem,Za,Zb,ae,d1];refine⟨by decide,?_⟩;exact fin (wJ n) _ BA (by rw[E6,hN]) (E7 n) rfl (af.refl _ _)
end Go.Mg

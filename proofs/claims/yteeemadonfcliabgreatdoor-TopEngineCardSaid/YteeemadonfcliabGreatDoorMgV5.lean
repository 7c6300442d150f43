/- Lemmas of ours. No conditions. -/
import Derived.Test.YteeemadonfcliabGreatDoorMgV3
open Nat renaming reduceEqDiff→Za,reduceAdd→Zb,reduceMul→Zc,reduceLeDiff→Zd,reduceLT→Ze
open Int renaming reduceBEq→Zf,reduceBNe→Zg,reduceLE→Zh,reduceLT→Zi
set_option linter.all false
set_option maxRecDepth 100000
namespace Go.Mg
open Go Go.RowKit
def Cr (ι:aC):S:=
 (.reg [kA 26 5,kA 27 7,kU 28 (.sh .shl .u64 (.t 27) (.c (.int .u64 1))),kc 29 (.bF (ι.t 28) 1 1 [.t 28]),kc 30 (.app false (ι.t 28) 1 8 #[.int .u64 0] (.t 26) (.t 29)),kB 5 30])
def rT (ι:aC):S:=
 kY [kR 2 (ι.t 288) 0,kR 3 (ι.t 289) 1,kC 4 (kZ)] (kY [kC 5 (kZ)] (.seq (kY [kG 8 0 3,kD 9 8,kV 10 (.m (.lenl (.t 9))),kC 11 (.int .i64 0)] (.blk 0 (.loop (kY [kH 12 11 10] (.seq (.ite (.v 12) .skip (.exit 0)) (.seq (.blk 1 (kY [kA 13 11,kB 6 13] (kY [kC 7 (.int .u64 15)] (.seq (kY [kA 14 6,kG 15 6 2,kD 16 15,kL 17 16,kV 18 (.cm .lss .i64 (.t 14) (.t 17))] (.ite (.v 18) (.reg [kG 19 6 2,kD 20 19,kA 21 6,kI 22 1 20 21,kD 23 22,kU 24 (.dv .rem .u8 (.t 23) (.c (.int .u8 16))),kU 25 (.ii .u64 (.t 24)),kB 7 25]) .skip)) (Cr ι))))) (.reg [ke 31 11,kB 11 31]))))))) (kY [kA 32 5,kB 4 32] .ret)))
def rU:List RV:=[.t 4]
def Cs (ι:aC):S:=
 (.reg [kG 15 0 3,kD 16 15,kG 17 0 5,kD 18 17,kG 19 1 5,kD 20 19,kU 21 (.m (.gz #[.string ⟨#[]⟩,.int .i64 0] [(0,(1,.t 18)),(1,(1,.t 20))])),kc 22 (.bF (ι.t 297) 2 1 [.t 21]),kc 23 (.app false (ι.t 297) 2 24 #[.string ⟨#[]⟩,.int .i64 0] (.t 16) (.t 22)),kG 24 0 3,kf (.st (.t 24) (.t 23))])
def Ct (ι:aC):S:=
 (.dr (kW 26 (.fa 1 (.v 1)) (kW 27 (.ld (.t 26)) (kW 29 (.fa 2 (.v 1)) (kW 30 (.ld (.t 29)) (kW 32 (.fa 3 (.v 1)) (kW 33 (.ld (.t 32)) (ka 28 (kg (ι.f 204) [.t 27]) (kW 35 (.fa 1 (.v 3)) (ka 31 (kg (ι.f 204) [.t 30]) (ka 34 (kg (ι.f 204) [.t 33]) (kb (.st (.t 35) (.t 28)) (kW 36 (.fa 2 (.v 3)) (kb (.st (.t 36) (.t 31)) (kW 37 (.fa 3 (.v 3)) (kb (.st (.t 37) (.t 34)) .done .wnil)) .wnil)) .wnil) .wnil) .wnil)) .wnil))))))))
def Cu (ι:aC):S:=
 (.dr (kW 45 (.fa 4 (.v 3)) (kW 47 (.fa 0 (.v 7)) (kW 48 (.ld (.t 47)) (kW 49 (.fa 1 (.v 7)) (kW 50 (.ld (.t 49)) (ka 46 (.rd (.ld (.t 45))) (ka 51 (kg (ι.f 283) [.t 50]) (kW 52 (.m (.gz #[.int .i64 0,kZ] [(0,(1,.t 48)),(1,(1,.t 51))])) (ka 53 (.bF (ι.t 298) 2 1 [.t 52]) (ka 54 (.app false (ι.t 298) 2 32 #[.int .i64 0,kZ] (.t 46) (.t 53)) (kW 55 (.fa 4 (.v 3)) (kb (.st (.t 55) (.t 54)) .done .wnil)) .wnil) .wnil)) .wnil) (ka 51 (kg (ι.f 283) [.t 50]) (kW 52 (.m (.gz #[.int .i64 0,kZ] [(0,(1,.t 48)),(1,(1,.t 51))])) (ka 46 (.rd (.ld (.t 45))) (ka 53 (.bF (ι.t 298) 2 1 [.t 52]) (ka 54 (.app false (ι.t 298) 2 32 #[.int .i64 0,kZ] (.t 46) (.t 53)) (kW 55 (.fa 4 (.v 3)) (kb (.st (.t 55) (.t 54)) .done .wnil)) .wnil) .wnil) (ka 53 (.bF (ι.t 298) 2 1 [.t 52]) (ka 46 (.rd (.ld (.t 45))) (ka 54 (.app false (ι.t 298) 2 32 #[.int .i64 0,kZ] (.t 46) (.t 53)) (kW 55 (.fa 4 (.v 3)) (kb (.st (.t 55) (.t 54)) .done .wnil)) .wnil) .wnil) .wnil))) .wnil))))))))
def wK (ι:aC):S:=
 kY [kR 1 (ι.t 289) 0,kd 2 (.new (ι.t 296) #[kZ,kZ,kZ,kZ,kZ])] (kY [kd 3 (.new (ι.t 296) #[kZ,kZ,kZ,kZ,kZ])] (.seq (kY [kG 8 0 1,kV 9 (.ld (.t 8)),kO 10 9,kC 11 (.int .i64 0)] (.blk 0 (.loop (kY [kH 12 11 10] (.seq (.ite (.v 12) .skip (.exit 0)) (.seq (.blk 1 (kY [kK 13 2 9 11,kN 14 2 13,kd 5 (.new (ι.t 290) #[.string ⟨#[]⟩,.int .i64 0]),kf (.stn 2 (.v 5) (.t 14))] (Cs ι))) (.reg [ke 25 11,kB 11 25]))))))) (.seq (Ct ι) (.seq (kY [kG 38 4 1,kV 39 (.ld (.t 38)),kO 40 39,kC 41 (.int .i64 0)] (.blk 2 (.loop (kY [kH 42 41 40] (.seq (.ite (.v 42) .skip (.exit 2)) (.seq (.blk 3 (kY [kK 43 2 39 41,kN 44 2 43,kd 7 (.new (ι.t 291) #[.int .i64 0,.int .u64 0]),kf (.stn 2 (.v 7) (.t 44))] (Cu ι))) (.reg [ke 56 41,kB 41 56]))))))) (kY [kM 57 5 3,kf (.stn 5 (.v 2) (.t 57))] .ret)))))
def wL:List RV:=[.cn 2 5]
def ql (ι:aC):S:=
 kY [kR 1 (ι.t 288) 0,kd 2 (.new (ι.t 296) #[kZ,kZ,kZ,kZ,kZ]),kC 3 (kZ),kd 4 (.new (ι.t 289) #[kZ,kZ,kZ,kZ,kZ]),kC 5 (kZ)] (kY [kM 11 7 1,kc 12 (kg (ι.f 292) [.t 11]),kd 6 (.new (ι.t 289) #[kZ,kZ,kZ,kZ,kZ]),kf (.stn 5 (.v 6) (.t 12))] (kY [kM 13 7 1,kM 14 5 6,kc 15 (kg (ι.f 295) [.t 13,.t 14]),kB 7 15] (kY [kC 8 (kZ)] (.seq (kY [kV 16 (.mv (.v 7)),kO 17 16,kC 18 (.int .i64 0)] (.blk 0 (.loop (kY [kH 19 18 17] (.seq (.ite (.v 19) .skip (.exit 0)) (.seq (.blk 1 (kY [kK 20 1 16 18,kD 21 20,kB 10 21] (.reg [kA 22 8,kA 23 10,kc 24 (kg (ι.f 283) [.t 23]),kc 25 (.bF (ι.t 128) 1 1 [.t 24]),kc 26 (.app false (ι.t 128) 1 24 #[kZ] (.t 22) (.t 25)),kB 8 26]))) (.reg [ke 27 18,kB 18 27]))))))) (.seq (.dr (kW 28 (.m (.ldn 5 (.v 6))) (kW 30 (.mv (.v 8)) (kW 31 (.m (.ldn 5 (.v 6))) (kW 32 (.mv (.v 7)) (ka 29 (kg (ι.f 299) [.t 28]) (kb (.stn 5 (.v 2) (.t 29)) (kX 3 (.mv (.t 30)) (kb (.stn 5 (.v 4) (.t 31)) (kX 5 (.mv (.t 32)) .done) .wnil)) .wnil) .wnil)))))) .ret)))))
def qm:List RV:=[.cn 2 5,.t 3,.cn 4 5,.t 5]
def cJ {α:Type} (enc:α->List Value) (P:Program) (k:FuncId):Prop:=∀(l:List α) (v:Value) (H:Hp),bk enc 2 H v l->l.length<1000000->ak P k #[v] H fun r H'=>ct enc 2 H' r l/\(∀q,ay r q->H.size<=q)/\af (fun _=>False) H H'
variable {P:Program} {ι:aC} {k:FuncId} {f:dz} {A H H':Hp} {C bp:Nat} {Qb:Ex->Fr->Hp->Prop} {W:Nat->Prop} {mo:List yi} {y:yi} {v b y0 y1 y2 y3 y4 s d a m:Value} {vs:List Value}
theorem Jr {α:Type} {enc:α->List Value} (hl:∀x,(enc x).length=2) (h1:∀x,∀v∈enc x,v.oneCell'=true) (hk:an P k (Ca ι) Cb 1):cJ enc P k:=by
 intro l v H hv hn;refine ah hk (args:=[_]) (by simp) ?_;unfold Ca Cb kA kB kC kV kc kY kZ;obtain⟨a,c,rfl,hc⟩:=hv.mk
 cases a with
 |none=>
  have h0:l=[]:=by
   rcases hv with⟨_,_,_,h⟩|⟨_,_,_,_,h,_⟩
   ·exact h
   ·cases h
  subst h0;simp-implicitDefEqProofs only[go_sem,zS,↓reduceIte,Za,Zb,Zc,reduceCtorEq,ae];exact⟨ct.nil _,fun k h=>h.elim,af.refl _ _⟩
 |some p=>
  simp-implicitDefEqProofs only[go_sem,zS,↓reduceIte,Za,Zb,Zc,reduceCtorEq];refine aG fun H1 b1 e1 z1 B1 K1=>?_;have s1:=K1.size;simp-implicitDefEqProofs only[go_sem,zS,↓reduceIte,Za,Zb,Zc,reduceCtorEq];have gX:ct enc 2 H1 (.slice (some ⟨b1,0,none⟩) 0 0) []:=ct.bl B1 rfl (by omega) (by omega) (by simp);refine nS (l:=([]:List α)) (m:=l) H.size hl h1 gX (fun q hq=>by have hq:q=b1:=hq;omega) (by omega) (hv.ai K1) rfl (by omega) (by simp;omega) fun v3 H3 O3 own3 K3=>?_;rw[List.nil_append]at O3;simp-implicitDefEqProofs only[go_sem,zS,↓reduceIte,Za,Zb,Zc,reduceCtorEq,ae];exact⟨O3,own3,K1.nQ K3 (Nat.le_refl _)⟩
def mW (r:cQ) (k:Nat):UInt64:=UInt64.ofNat ((if k<r.el.length then(r.el.getD k 0).toNat % 16 else 15)*2)
def aN (r:cQ):List UInt64:=(List.range (rN r)).map (mW r)
theorem cZ (r:cQ):(aN r).length=rN r:=by simp[aN]
theorem oC (r:cQ) (k:Nat):(mW r k).toNat=(if k<r.el.length then(r.el.getD k 0).toNat % 16 else 15)*2:=by
 unfold mW;rw[UInt64.toNat_ofNat'];apply Nat.mod_eq_of_lt
 split<;>omega
theorem E1 {f:Fr} {mm:Nat} {lv:Value} {L:List UInt64} {x:UInt64} (h5:f 5=lv) (h7:f 7=.int .u64 (mm:Int)) (hm:mm<16) (hx:x.toNat=mm*2) (hL:L.length<=1000)
  (O:bY A lv (dI L)) (o:∀q,ay lv q->C<=q) (hC:C<=A.size)
  (hK:∀v' A',bY A' v' (dI (L++[x]))->(∀q,ay v' q->C<=q)->af (fun q=>C<=q) A A'->Qb .n (bw f 5 v') A'):vc P (Cr ι) Qb f A:=by
 unfold Cr kA kB kU kc;have e1:((1:Int)).toNat=1:=rfl;have w1:IntKind.u64.wrap ((mm:Int)*2^1)=(x.toNat:Int):=by rw[IntKind.wrap_u64];omega
 simp-implicitDefEqProofs only[go_sem,zS,↓reduceIte,Za,Zb,Zc,reduceCtorEq,zU,zV,Zf,Zg,Zh,Zi,Zd,Ze,zF,h5,h7,e1,w1];refine aG fun A2 b2 e2 z2 B2 K2=>?_;have jc:Bl A2 b2 (dI [x]):=B2;simp-implicitDefEqProofs only[go_sem,zS,↓reduceIte,Za,Zb,Zc,reduceCtorEq,ae,zU,zV,Zf,Zg,Zh,Zi,Zd,Ze,zF];refine kh C (O.ag K2 (by simp)) o (by omega) (aM.bl jc 0 1 1 (by omega) (by simp[aK])) (Iv [x]) rfl (by omega) (by rw[aK];simp[aK];omega) fun v' A3 O3 o3 K3=>?_;simp-implicitDefEqProofs only[go_sem,zS,↓reduceIte,Za,Zb,Zc,reduceCtorEq,ae,zU,zV,Zf,Zg,Zh,Zi,Zd,Ze];exact hK v' A3 (by rw[EJ];exact O3) o3 (K2.any.trans K3)
def jd (P:Program) (k:FuncId):Prop:=∀(r:cQ) (v w:Value) (H:Hp),lz H v r->fh H w (bT r)->ak P k #[v,w] H fun x H'=>bY H' x (dI (aN r))/\(∀q,ay x q->H.size<=q)/\af (fun _=>False) H H'
theorem Gn (hk:an P k (rT ι) rU 2):jd P k:=by
 intro r v w H hv hw;obtain⟨hn,ro,be,di,sa,mo,el,rfl,WE,Tu,My,Q9,hmo,hel⟩:=hv;obtain⟨ws,wb,wd,wa,wm,rfl,h1,h2,h3,h4,h5⟩:=hw;refine qI fun Q hQ=>?_;refine ah hk (args:=[_,_]) (by simp) ?_;unfold rT rU kA kB kC kD ke kG kH kI kL kR kU kV kY kZ;simp-implicitDefEqProofs only[go_sem,zS,↓reduceIte,Za,Zb,Zc,reduceCtorEq,zU,zV,Zf,Zg,Zh,Zi,Zd,Ze,zF];refine al fun H1 b1 e1 z1 B1 K1=>?_;have cf:Bl H1 b1 [.int .u8 (r.n:Int),ro,be,di,sa,mo,el]:=B1;simp-implicitDefEqProofs only[go_sem,zS,↓reduceIte,Za,Zb,Zc,reduceCtorEq,zU,zV,Zf,Zg,Zh,Zi,Zd,Ze,zF];refine al fun H2 b2 e2 z2 B2 K2=>?_;have fY:=K2.bl cf (by simp);have jc:Bl H2 b2 [ws,wb,wd,wa,wm]:=B2;have cG:=K1.trans K2;have c0:cell H2 ⟨b2,0,none⟩=some ws:=by rw[jc.cell];rfl
 have hsn:(bT r).st.length=rN r:=dm r;have hn5:=gg r;simp-implicitDefEqProofs only[go_sem,zS,↓reduceIte,Za,Zb,Zc,reduceCtorEq,ae,zU,zV,Zf,Zg,Zh,Zi,Zd,Ze,zF,c0,h1.aq,h1.len,hsn];refine aL (rN r) [12,6,7,18,5,11] rfl rfl (by omega) (by simp-implicitDefEqProofs only[go_sem,zS,↓reduceIte,Za,Zb,Zc,reduceCtorEq,ae,zU,zV,Zf,Zg,Zh,Zi,Zd,Ze]) (by simp-implicitDefEqProofs only[go_sem,zS,↓reduceIte,Za,Zb,Zc,reduceCtorEq,ae,zU,zV,Zf,Zg,Zh,Zi,Zd,Ze]) (fun i f A=>∃lv,f 5=lv/\bY A lv (dI ((List.range i).map (mW r)))/\(∀q,ay lv q->H2.size<=q)/\af (fun _=>False) H2 A) ⟨_,by simp-implicitDefEqProofs only[go_sem,zS,↓reduceIte,Za,Zb,Zc,reduceCtorEq,ae,zU,zV,Zf,Zg,Zh,Zi,Zd,Ze],bY.nil _,fun q h=>h.elim,af.refl _ _⟩ ?_ ?_
 ·rintro i g A hi gi gn ⟨lv,g5,OA,oA,KA⟩;simp-implicitDefEqProofs only[go_sem,zS,↓reduceIte,Za,Zb,Zc,reduceCtorEq,ae,zU,zV,Zf,Zg,Zh,Zi,Zd,Ze]at gi gn g5;have sA:=KA.size;have sH:=cG.size;have c6:cell A ⟨b1,6,none⟩=some el:=by rw[(KA.bl fY (by simp)).cell];rfl
  have bM:=(hel.ag cG (by simp)).ag KA (by simp);simp-implicitDefEqProofs only[go_sem,zS,↓reduceIte,Za,Zb,Zc,reduceCtorEq,ae,zU,zV,Zf,Zg,Zh,Zi,Zd,Ze,zF,gi,c6,bM.aq,bM.len,iU];refine aH (fun hlt=>?_) (fun jt=>?_)
  ·have hlt:i<r.el.length:=by omega
   obtain⟨rb,rof,rc,hre,hrc,hcell⟩:=bM.cells (by intro e;have:=iU r.el;rw[e]at this;simp at this;omega);have hci:=hcell i (by rw[iU];exact hlt);rw[HP _ _ hlt]at hci;have adh:=(r.el.getD i 0).toNat_lt;have m4:(((r.el.getD i 0).toNat:Int)).tmod 16=(((r.el.getD i 0).toNat % 16:Nat):Int):=cY _ 16;have w4:IntKind.u64.wrap (((r.el.getD i 0).toNat % 16:Nat):Int)=(((r.el.getD i 0).toNat % 16:Nat):Int):=by rw[IntKind.wrap_u64];omega
   simp-implicitDefEqProofs only[go_sem,zS,↓reduceIte,Za,Zb,Zc,reduceCtorEq,ae,zU,zV,Zf,Zg,Zh,Zi,Zd,Ze,zF,gi,hre,aj,hci,m4,w4,iU];refine⟨by omega,by decide,?_⟩;refine E1 (mm:=(r.el.getD i 0).toNat % 16) (x:=mW r i) (L:=(List.range i).map (mW r)) (C:=H2.size) (by simp-implicitDefEqProofs only[go_sem,zS,↓reduceIte,Za,Zb,Zc,reduceCtorEq,ae,zU,zV,Zf,Zg,Zh,Zi,Zd,Ze,g5]) (by simp-implicitDefEqProofs only[go_sem,zS,↓reduceIte,Za,Zb,Zc,reduceCtorEq,ae,zU,zV,Zf,Zg,Zh,Zi,Zd,Ze]) (by omega) (by rw[oC,if_pos hlt]) (by simp;omega) OA oA (by omega) fun v' A' O' o' K'=>?_;simp-implicitDefEqProofs only[go_sem,zS,↓reduceIte,Za,Zb,Zc,reduceCtorEq,ae,zU,zV,Zf,Zg,Zh,Zi,Zd,Ze];exact⟨v',rfl,by rw[List.map_append];exact O',o',KA.trans' K' fun q hq h=>by omega⟩
  ·refine E1 (mm:=15) (x:=mW r i) (L:=(List.range i).map (mW r)) (C:=H2.size) (by simp-implicitDefEqProofs only[go_sem,zS,↓reduceIte,Za,Zb,Zc,reduceCtorEq,ae,zU,zV,Zf,Zg,Zh,Zi,Zd,Ze,g5]) (by simp-implicitDefEqProofs only[go_sem,zS,↓reduceIte,Za,Zb,Zc,reduceCtorEq,ae,zU,zV,Zf,Zg,Zh,Zi,Zd,Ze]) (by omega) (by rw[oC,if_neg (by omega)]) (by simp;omega) OA oA (by omega) fun v' A' O' o' K'=>?_;simp-implicitDefEqProofs only[go_sem,zS,↓reduceIte,Za,Zb,Zc,reduceCtorEq,ae,zU,zV,Zf,Zg,Zh,Zi,Zd,Ze];exact⟨v',rfl,by rw[List.map_append];exact O',o',KA.trans' K' fun q hq h=>by omega⟩
 ·rintro g A gi ⟨lv,g5,OA,oA,KA⟩;simp-implicitDefEqProofs only[go_sem,zS,↓reduceIte,Za,Zb,Zc,reduceCtorEq,ae,zU,zV,Zf,Zg,Zh,Zi,Zd,Ze]at g5;simp-implicitDefEqProofs only[go_sem,zS,↓reduceIte,Za,Zb,Zc,reduceCtorEq,ae,zU,zV,Zf,Zg,Zh,Zi,Zd,Ze,g5];rw[hQ];have:=cG.size;exact⟨OA,fun q hq=>by have:=oA q hq;omega,cG.trans KA⟩
abbrev MV:=Int×Option Addr×Nat×Nat
def iK (x:MV):Value:=.slice x.2.1 x.2.2.1 x.2.2.2
def dp (x:MV):List Value:=[.int .i64 x.1,iK x]
theorem iz (x:MV):(dp x).length=2:=rfl
theorem mX (x:MV):∀v∈dp x,v.oneCell'=true:=by
 intro v hv;simp[dp,iK]at hv;rcases hv with rfl|rfl<;>rfl
structure jR (H:Hp) (ms:List MV) (mo:List yi):Prop where
 len:ms.length=mo.length
 at_:∀i (h:i<ms.length) (h':i<mo.length),ms[i].1=mo[i].1/\aQ H (.agg #[iK ms[i]]) (bt mo[i].2)
theorem jR.ag {ms:List MV} (h:jR H ms mo) (hk:af W H H') (hw:∀x∈ms,∀q,aV (iK x) q->¬W q):jR H' ms mo:=
 ⟨h.len,fun i h1 h2=>⟨(h.at_ i h1 h2).1,(h.at_ i h1 h2).2.ag hk fun q hq=>hw _ (List.getElem_mem h1) q hq⟩⟩
theorem jR.ai {ms:List MV} (h:jR H ms mo) (hk:af (fun _=>False) H H'):jR H' ms mo:=h.ag hk fun _ _ _ _ h=>h
theorem jR.snoc {ms:List MV} (h:jR H ms mo) {x:MV} (h1:x.1=y.1) (h2:aQ H (.agg #[iK x]) (bt y.2)):jR H (ms++[x]) (mo++[y]):=by
 refine⟨by simp[h.len],fun i hi qE=>?_⟩
 by_cases e:i<ms.length
 ·rw[List.getElem_append_left e,List.getElem_append_left (by rw[<-h.len];exact e)];exact h.at_ i e (by rw[<-h.len];exact e)
 ·have tK:i=ms.length:=by simp at hi;omega
  subst tK;have e1:(ms++[x])[ms.length]=x:=by simp
  have e2:(mo++[y])[ms.length]'qE=y:=by
   have:=h.len;simp[this]
  rw[e1,e2];exact⟨h1,h2⟩
def bW (H:Hp) (v:Value) (f:dz):Prop:=∃s b d a m ms,v=.agg #[s,b,d,a,m]/\bk cL 2 H s f.st/\nT H b f.be/\nT H d f.di/\nT H a f.sa/\bk dp 2 H m ms/\jR H ms f.mo
theorem bW.ai (h:bW H v f) (hk:af (fun _=>False) H H'):bW H' v f:=by
 obtain⟨s,b,d,a,m,ms,rfl,h1,h2,h3,h4,h5,h6⟩:=h;exact⟨s,b,d,a,m,ms,rfl,h1.ai hk,h2.ai hk,h3.ai hk,h4.ai hk,h5.ai hk,h6.ai hk⟩
def pC (C:Nat) (H:Hp) (v:Value) (f:dz):Prop:=∃s b d a m ms,v=.agg #[s,b,d,a,m]/\ct cL 2 H s f.st/\vq H b f.be/\vq H d f.di/\vq H a f.sa/\ct dp 2 H m ms/\jR H ms f.mo∧
 (∀c∈[s,b,d,a,m],∀q,ay c q->C<=q)/\(∀x∈ms,∀q,aV (iK x) q->C<=q)/\(∀c∈[b,d,a,m],∀q,ay c q->¬ay s q)/\∀x∈ms,∀q,aV (iK x) q->¬ay s q
theorem pC.fl (h:pC C H v f):bW H v f:=by
 obtain⟨s,b,d,a,m,ms,rfl,h1,h2,h3,h4,h5,h6,_⟩:=h;exact⟨s,b,d,a,m,ms,rfl,h1.sl,h2.sl,h3.sl,h4.sl,h5.sl,h6⟩
theorem pC.ai (h:pC C H v f) (hk:af (fun _=>False) H H'):pC C H' v f:=by
 obtain⟨s,b,d,a,m,ms,rfl,h1,h2,h3,h4,h5,h6,h7⟩:=h;exact⟨s,b,d,a,m,ms,rfl,h1.ag hk (by simp),h2.ag hk (by simp),h3.ag hk (by simp),h4.ag hk (by simp),h5.ag hk (by simp),h6.ai hk,h7⟩
theorem dS.shape {W:List UInt64} {p:Nat->Bool} (h:dS H v W p):∃a n c,v=.slice a n c:=by
 obtain⟨a,c,rfl,_⟩:=h.sl.mk;exact⟨_,_,_,rfl⟩
theorem Oh (hr:fN P (ι.f 283)) {f:Fr} {b:Nat} {ms:List MV} (h3:f 3=.pointer (some ⟨b,0,none⟩)) (h7:f 7=.pointer (some ⟨bp,0,none⟩)) (hL:ms.length<=1000)
  (Bp:Bl A bp (oz y)) (B:Bl A b [y0,y1,y2,y3,y4]) (hb:b<C) (hbp:C<=bp) (hC:C<=A.size) (O:ct dp 2 A y4 ms) (o:∀q,ay y4 q->C<=q) (hbo:¬ay y4 bp) (M:jR A ms mo) (om:∀x∈ms,∀q,aV (iK x) q->C<=q/\¬ay y4 q)
  (hK:∀v' A' Rg,ct dp 2 A' v' Rg->Rg.length=ms.length+1->jR A' Rg (mo++[y])->(∀q,ay v' q->C<=q)->(∀x∈Rg,∀q,aV (iK x) q->C<=q/\¬ay v' q)->Bl A' b [y0,y1,y2,y3,v']->af (fun q=>q=b\/C<=q) A A'->Qb .n f A'):vc P (Cu ι) Qb f A:=by
 have hsz:∀{X:Hp} {x:MV} {p:Nat->Bool},aQ X (.agg #[iK x]) p->∀q,aV (iK x) q->q<X.size:=fun h q hq=>h.bE (k:=q) hq;unfold Cu kW ka kb kg kZ;refine bj (fun q=>q=b\/ay y4 q) ?_;have c0:∀{A':Hp},af (fun _=>False) A A'->cell A' ⟨b,4,none⟩=some y4:=fun K=>by rw[(K.bl B (by simp)).cell];rfl
 have p0:cell A ⟨bp,0,none⟩=some (.int .i64 y.1):=by rw[Bp.cell];rfl
 have p1:cell A ⟨bp,1,none⟩=some (.int .u64 y.2.toNat):=by rw[Bp.cell];rfl
 have hlt:bp<A.size:=Bp.lt;have WJ:¬(bp=b\/ay y4 bp):=by rintro(h|h);omega;exact hbo h
 have dh:∀{X Y:Hp},af (fun _=>False) X Y->af (fun q=>q=b\/ay y4 q) X Y:=fun K=>K.any;have fin:∀(A1 A2:Hp) (bb:Nat) (e:Env) (x:MV),af (fun _=>False) A A1->af (fun _=>False) A1 A2->x.1=y.1->aQ A1 (.agg #[iK x]) (bt y.2)->(∀q,aV (iK x) q->A.size<=q)->Bl A2 bb (dp x)->jy false (ι.t 298) 2 32 #[.int .i64 0,.slice none 0 0] y4 (.slice (some ⟨bb,0,none⟩) 1 1) A2 (lq P (fun q=>q=b\/ay y4 q) A2 (.t 54) (.px (.t 55) none (.fa 4 (.v 3)) (.wcons .no none (.st (.t 55) (.t 54)) .done .wnil)) e f (Qb .n)):=fun A1 A2 bb e x K1 K2 hx1 Mz hx3 B2=>by
  have KK:=K1.trans K2;refine Cf (.inl rfl) (fun q hq=>.inr hq) iz mX (O.ag KK (by simp)) o (by have:=KK.size;omega) (bk.bl B2 (l:=[x]) rfl (by simp[dp]) (by simp)) rfl (by omega) (by simp;omega) (KK.bl B (by simp)) hb (by simp) h3 rfl fun v' A' O' o' B' K'=>?_;have s1:=K1.size;have s2:=K2.size;have hyo:∀q,ay y4 q->q<A.size:=fun q hq=>O.bE hq;have Wl:b<A.size:=B.lt;have hxs:∀q,aV (iK x) q->q<A2.size:=fun q hq=>by have:=hsz Mz q hq;omega
  have hms:∀z∈ms,∀q,aV (iK z) q->q<A2.size:=fun z hz q hq=>by
   obtain⟨i,hi,rfl⟩:=List.getElem_of_mem hz;have:=hsz (M.at_ i hi (by rw[<-M.len];exact hi)).2 q hq;omega
  refine hK v' A' (ms++[x]) O' (by simp) ?_ (fun q hq=>?_) (fun z hz q hq=>?_) B' ((KK.any).trans (K'.mono fun q _ h=>?_))
  ·refine jR.snoc ((M.ai KK).ag K' fun z hz q hq h=>?_) hx1 ((Mz.ai K2).ag K' fun q hq h=>?_)
   ·rcases h with h|h
    ·have:=(om z hz q hq).1;omega
    ·exact(om z hz q hq).2 h
   ·have:=hx3 q hq;rcases h with h|h
    ·omega
    ·have:=hyo q h;omega
  ·rcases o' q hq with h|h
   ·exact o q h
   ·omega
  ·rcases List.mem_append.1 hz with hz|hz
   ·refine⟨(om z hz q hq).1,fun h=>?_⟩;rcases o' q h with h|h
    ·exact(om z hz q hq).2 h
    ·have:=hms z hz q hq;omega
   ·simp only[List.mem_singleton]at hz;subst hz;have:=hx3 q hq;refine⟨by omega,fun h=>?_⟩;rcases o' q h with h|h
    ·have:=hyo q h;omega
    ·have:=hxs q hq;omega
  ·rcases h with h|h
   ·exact .inl h
   ·exact .inr (o q h)
 have key:∀(A1:Hp) (v:Value) (W:List UInt64),dS A1 v W (bt y.2)->(∀q,aV v q->A.size<=q)->af (fun _=>False) A A1->∃x:MV,v=iK x/\x.1=y.1/\aQ A1 (.agg #[iK x]) (bt y.2)/\∀q,aV (iK x) q->A.size<=q:=fun A1 v W hV hf K=>by
  obtain⟨a,n,c,rfl⟩:=hV.shape;exact⟨(y.1,a,n,c),rfl,rfl,⟨_,W,rfl,hV⟩,hf⟩
 simp-implicitDefEqProofs only[go_sem,zS,↓reduceIte,Za,Zb,Zc,reduceCtorEq,ae,zU,zV,Zf,Zg,Zh,Zi,Zd,Ze,zF,h3,h7,c0 (af.refl _ A),p0,p1];refine⟨WJ,WJ,⟨af.refl _ _,(hr y.2 A).mono ?_⟩,(hr y.2 A).mono ?_⟩
 ·rintro rv A1 ⟨⟨v,W,rfl,hV⟩,rf,K1⟩;obtain⟨x,rfl,hx1,Mz,hx3⟩:=key A1 v W hV rf K1;have hmv:iK x=.slice x.2.1 x.2.2.1 x.2.2.2:=rfl;rw[hmv];simp-implicitDefEqProofs only[go_sem,zS,↓reduceIte,Za,Zb,Zc,reduceCtorEq,ae,zU,zV,Zf,Zg,Zh,Zi,Zd,Ze,zF];refine⟨dh K1,?_⟩;generalize pB:A1.push _=A2;have B2:Bl A2 A1.size (dp x):=by rw[<-pB,dp,hx1];exact Bl.cH _ _ _
  have K2:af (fun _=>False) A1 A2:=by rw[<-pB];exact(af.refl _ _).push _
  exact⟨dh K2,fin A1 A2 _ _ x K1 K2 hx1 Mz hx3 B2⟩
 ·rintro rv A1 ⟨⟨v,W,rfl,hV⟩,rf,K1⟩;obtain⟨x,rfl,hx1,Mz,hx3⟩:=key A1 v W hV rf K1;have hmv:iK x=.slice x.2.1 x.2.2.1 x.2.2.2:=rfl;rw[hmv];simp-implicitDefEqProofs only[go_sem,zS,↓reduceIte,Za,Zb,Zc,reduceCtorEq,ae,zU,zV,Zf,Zg,Zh,Zi,Zd,Ze,zF,h3,c0 K1];refine⟨dh K1,?_⟩;generalize pB:A1.push _=A2;have B2:Bl A2 A1.size (dp x):=by rw[<-pB,dp,hx1];exact Bl.cH _ _ _
  have K2:af (fun _=>False) A1 A2:=by rw[<-pB];exact(af.refl _ _).push _
  simp-implicitDefEqProofs only[go_sem,zS,↓reduceIte,Za,Zb,Zc,reduceCtorEq,ae,zU,zV,Zf,Zg,Zh,Zi,Zd,Ze,c0 (K1.trans K2)];exact⟨⟨af.refl _ _,dh K2,fin A1 A2 _ _ x K1 K2 hx1 Mz hx3 B2⟩,dh K2,af.refl _ _,fin A1 A2 _ _ x K1 K2 hx1 Mz hx3 B2⟩
theorem Oi {f:Fr} {b:Nat} {x:wx} {L:List wx} (h3:f 3=.pointer (some ⟨b,0,none⟩)) (h5:f 5=.pointer (some ⟨bp,0,none⟩)) (hL:L.length<=1000)
  (Bp:Bl A bp (cL x)) (B:Bl A b [y0,y1,y2,y3,y4]) (hb:b<C) (hC:C<=A.size) (O:ct cL 2 A y0 L) (o:∀q,ay y0 q->C<=q)
  (hK:∀v' A',ct cL 2 A' v' (L++[x])->(∀q,ay v' q->C<=q)->Bl A' b [v',y1,y2,y3,y4]->af (fun q=>q=b\/C<=q) A A'->Qb .n f A'):vc P (Cs ι) Qb f A:=by
 unfold Cs kD kG kU kc kf;have c0:cell A ⟨b,0,none⟩=some y0:=by rw[B.cell];rfl
 have p0:cell A ⟨bp,0,none⟩=some (sV x.1):=by rw[Bp.cell];rfl
 have p1:cell A ⟨bp,1,none⟩=some (.int .i64 x.2):=by rw[Bp.cell];rfl
 rw[sV]at p0;simp-implicitDefEqProofs only[go_sem,zS,↓reduceIte,Za,Zb,Zc,reduceCtorEq,zU,zV,Zf,Zg,Zh,Zi,Zd,Ze,zF,h3,h5,c0,p0,p1];refine aG fun A2 b2 e2 z2 B2 K2=>?_;have jc:Bl A2 b2 (cL x):=B2;simp-implicitDefEqProofs only[go_sem,zS,↓reduceIte,Za,Zb,Zc,reduceCtorEq,zU,zV,Zf,Zg,Zh,Zi,Zd,Ze,zF];exact rL fg mU (O.ag K2 (by simp)) o (by omega) (bk.bl jc (l:=[x]) rfl (by simp[cL]) (by simp)) rfl (by omega) (by simp;omega) (K2.bl B (by simp)) hb (by simp) h3 rfl fun v' A' O' o' B' K'=>hK v' A' O' o' B' ((K2.mono fun _ _ h=>h.elim).trans K')
theorem Oj (hc:cJ pE P (ι.f 204)) {f:Fr} {b1 b3:Nat} {L1 L2 L3:List eH} (h1:f 1=.pointer (some ⟨b1,0,none⟩)) (h3:f 3=.pointer (some ⟨b3,0,none⟩)) (hne:b1≠b3)
  (B1:Bl A b1 [s,b,d,a,m]) (B:Bl A b3 [y0,y1,y2,y3,y4]) (hb:nT A b L1) (hd:nT A d L2) (ha:nT A a L3) (l1:L1.length<=1000) (l2:L2.length<=1000) (l3:L3.length<=1000)
  (hK:∀bv dv av A',vq A' bv L1->vq A' dv L2->vq A' av L3->(∀q,ay bv q->A.size<=q)->(∀q,ay dv q->A.size<=q)->(∀q,ay av q->A.size<=q)->Bl A' b3 [y0,bv,dv,av,y4]->af (fun q=>q=b3) A A'->Qb .n f A'):vc P (Ct ι) Qb f A:=by
 unfold Ct kW ka kb kg;refine bj (fun q=>q=b3) ?_;have c1:cell A ⟨b1,1,none⟩=some b:=by rw[B1.cell];rfl
 have c2:cell A ⟨b1,2,none⟩=some d:=by rw[B1.cell];rfl
 have c3:cell A ⟨b1,3,none⟩=some a:=by rw[B1.cell];rfl
 simp-implicitDefEqProofs only[go_sem,zS,↓reduceIte,Za,Zb,Zc,reduceCtorEq,ae,zU,zV,Zf,Zg,Zh,Zi,Zd,Ze,zF,h1,c1,c2,c3];refine⟨hne,hne,hne,(hc L1 b A hb (by omega)).mono ?_⟩;rintro bv A1 ⟨O1,o1,K1⟩;simp-implicitDefEqProofs only[go_sem,zS,↓reduceIte,Za,Zb,Zc,reduceCtorEq,ae,zU,zV,Zf,Zg,Zh,Zi,Zd,Ze,zF,h3];refine⟨K1.any,(hc L2 d A1 (hd.ai K1) (by omega)).mono ?_⟩;rintro dv A2 ⟨O2,o2,K2⟩;simp-implicitDefEqProofs only[go_sem,zS,↓reduceIte,Za,Zb,Zc,reduceCtorEq,ae,zU,zV,Zf,Zg,Zh,Zi,Zd,Ze,zF];have jo:=K1.trans K2;refine⟨K2.any,(hc L3 a A2 (ha.ai jo) (by omega)).mono ?_⟩;rintro av A3 ⟨O3,o3,K3⟩;have ew:=jo.trans K3;have s1:=K1.size;have s2:=K2.size;have Zm:b3<A.size:=B.lt;have B3:=ew.bl B (by simp);have B4:=B3.ax 1 bv;have B5:=B4.ax 2 dv;have B6:=B5.ax 3 av;have k4:af (fun q=>q=b3) A3 (ax A3 ⟨b3,1,none⟩ bv):=(af.refl _ _).ax _ (.inl rfl);have k5:af (fun q=>q=b3) (ax A3 ⟨b3,1,none⟩ bv) (ax (ax A3 ⟨b3,1,none⟩ bv) ⟨b3,2,none⟩ dv):=(af.refl _ _).ax _ (.inl rfl);have k6:af (fun q=>q=b3) (ax (ax A3 ⟨b3,1,none⟩ bv) ⟨b3,2,none⟩ dv) (ax (ax (ax A3 ⟨b3,1,none⟩ bv) ⟨b3,2,none⟩ dv) ⟨b3,3,none⟩ av):=(af.refl _ _).ax _ (.inl rfl);have t4:=B3.br (o:=1) (by simp);have t5:=B4.br (o:=2) (by simp);have t6:=B5.br (o:=3) (by simp);have q1:=aI (O1.sl.aq);have q2:=aI (O2.sl.aq);have q3:=aI (O3.sl.aq);simp-implicitDefEqProofs only[go_sem,zS,↓reduceIte,Za,Zb,Zc,reduceCtorEq,ae,zU,zV,Zf,Zg,Zh,Zi,Zd,Ze,zF,h3,t4,t5,t6,q1,q2,q3];have Zr:=(k4.trans k5).trans k6;exact⟨K3.any,q1,k4,q2,k5,q3,k6,hK bv dv av _ ((O1.ag (K2.trans K3) (by simp)).ag Zr fun q hq e=>by have:=o1 q hq;omega) ((O2.ag K3 (by simp)).ag Zr fun q hq e=>by have:=o2 q hq;omega) (O3.ag Zr fun q hq e=>by have:=o3 q hq;omega) o1 (fun q hq=>by have:=o2 q hq;omega) (fun q hq=>by have:=o3 q hq;omega) B6 (ew.any.trans Zr)⟩
structure Js (f:dz):Prop where
 st:f.st.length<=1000
 be:f.be.length<=1000
 di:f.di.length<=1000
 sa:f.sa.length<=1000
 mo:f.mo.length<=1000
def kp (P:Program) (k:FuncId):Prop:=∀(f:dz) (w:Value) (H:Hp),fh H w f->Js f->ak P k #[w] H fun r H'=>pC H.size H' r f/\af (fun _=>False) H H'
theorem Jt (hk:an P k (wK ι) wL 1) (hc:cJ pE P (ι.f 204)) (hr:fN P (ι.f 283)):kp P k:=by
 intro f w H hw hsm;obtain⟨s,b,d,a,m,rfl,h1,h2,h3,h4,h5⟩:=hw;refine qI fun Q hQ=>?_;refine ah hk (args:=[_]) (by simp) ?_;unfold wK wL kB kC ke kG kH kK kM kN kO kR kV kd kf kY kZ;simp-implicitDefEqProofs only[go_sem,zS,↓reduceIte,Za,Zb,Zc,reduceCtorEq,zU,zV,Zf,Zg,Zh,Zi,Zd,Ze,zF];refine al fun H1 b1 e1 z1 B1 K1=>?_;have cf:Bl H1 b1 [s,b,d,a,m]:=B1;simp-implicitDefEqProofs only[go_sem,zS,↓reduceIte,Za,Zb,Zc,reduceCtorEq,zU,zV,Zf,Zg,Zh,Zi,Zd,Ze,zF];refine al fun H2 b2 e2 z2 B2 K2=>?_;have fY:=K2.bl cf (by simp);simp-implicitDefEqProofs only[go_sem,zS,↓reduceIte,Za,Zb,Zc,reduceCtorEq,zU,zV,Zf,Zg,Zh,Zi,Zd,Ze,zF];refine al fun H3 b3 e3 z3 B3 K3=>?_;have gC:=K3.bl fY (by simp);have nX:=K3.bl B2 (by simp);have jv:Bl H3 b3 [.slice none 0 0,.slice none 0 0,.slice none 0 0,.slice none 0 0,.slice none 0 0]:=B3;have ew:=(K1.trans K2).trans K3;have hb1:b1<b2:=by have:=cf.lt;omega
 have hb2:b2<b3:=by have:=B2.lt;omega
 obtain⟨C,hC⟩:∃C,C=H3.size:=⟨_,rfl⟩
 have hCH:H.size<=b1:=by omega
 have Zm:b3<C:=by have:=jv.lt;omega
 have W0:∀{X:Hp},af (fun q=>q=b3\/C<=q) H3 X->Bl X b1 [s,b,d,a,m]:=fun K=>K.bl gC (by omega);have c0:cell H3 ⟨b1,0,none⟩=some s:=by rw[gC.cell];rfl
 simp-implicitDefEqProofs only[go_sem,zS,↓reduceIte,Za,Zb,Zc,reduceCtorEq,ae,zU,zV,Zf,Zg,Zh,Zi,Zd,Ze,zF,c0,h1.aq,h1.len];refine aL f.st.length [12,5,11] rfl rfl (by have:=hsm.st;omega) (by simp-implicitDefEqProofs only[go_sem,zS,↓reduceIte,Za,Zb,Zc,reduceCtorEq,ae,zU,zV,Zf,Zg,Zh,Zi,Zd,Ze]) (by simp-implicitDefEqProofs only[go_sem,zS,↓reduceIte,Za,Zb,Zc,reduceCtorEq,ae,zU,zV,Zf,Zg,Zh,Zi,Zd,Ze]) (fun i g A=>∃sv,Bl A b3 [sv,.slice none 0 0,.slice none 0 0,.slice none 0 0,.slice none 0 0]/\ct cL 2 A sv (f.st.take i)/\(∀q,ay sv q->C<=q)/\af (fun q=>q=b3\/C<=q) H3 A) ⟨_,jv,ct.nil _,fun q h=>h.elim,af.refl _ _⟩ ?_ ?_
 ·rintro i g A hi gi gn ⟨sv,BA,OA,oA,KA⟩;simp-implicitDefEqProofs only[go_sem,zS,↓reduceIte,Za,Zb,Zc,reduceCtorEq,ae,zU,zV,Zf,Zg,Zh,Zi,Zd,Ze]at gi gn;have sA:=KA.size;have hA:=(h1.ai ew).ag KA fun q hq h=>by have:=h1.bE hq;omega
  obtain⟨pb,po,pc,jr,oe,hld⟩:=hA.elem fg hi;obtain⟨x,hx⟩:∃x,x=f.st[i]:=⟨_,rfl⟩
  rw[<-hx]at hld;have cP:aR A ⟨pb,po+i*2,none⟩ 2=some #[sV x.1,.int .i64 x.2]:=hld;simp-implicitDefEqProofs only[go_sem,zS,↓reduceIte,Za,Zb,Zc,reduceCtorEq,zU,zV,Zf,Zg,Zh,Zi,Zd,Ze,zF,gi,jr,aj,aB,cP];refine⟨by omega,?_⟩;refine bf [sV x.1,.int .i64 x.2] (by simp-implicitDefEqProofs only[go_sem,zS,↓reduceIte,Za,Zb,Zc,reduceCtorEq,ae,zU,zV,Zf,Zg,Zh,Zi,Zd,Ze]) rfl rfl rfl fun A1 bp eb zb BP KP=>?_;simp-implicitDefEqProofs only[go_sem,zS,↓reduceIte,Za,Zb,Zc,reduceCtorEq,ae,zU,zV,Zf,Zg,Zh,Zi,Zd,Ze];refine Oi (x:=x) (C:=C) (by simp-implicitDefEqProofs only[go_sem,zS,↓reduceIte,Za,Zb,Zc,reduceCtorEq,ae,zU,zV,Zf,Zg,Zh,Zi,Zd,Ze]) (by simp-implicitDefEqProofs only[go_sem,zS,↓reduceIte,Za,Zb,Zc,reduceCtorEq,ae,zU,zV,Zf,Zg,Zh,Zi,Zd,Ze]) (by have:=hsm.st;rw[List.length_take];omega) BP (KP.bl BA (by simp)) (by omega) (by omega) (OA.ag KP (by simp)) oA fun v' A' O' o' B' K'=>?_;simp-implicitDefEqProofs only[go_sem,zS,↓reduceIte,Za,Zb,Zc,reduceCtorEq,ae,zU,zV,Zf,Zg,Zh,Zi,Zd,Ze];exact⟨v',B',by rw[dD hi,<-hx];exact O',o',(KA.trans KP.any).trans K'⟩
 ·rintro g A gi ⟨sv,BA,OA,oA,KA⟩;rw[List.take_length]at OA;have sA:=KA.size;have W1:=W0 KA;have c1:cell A ⟨b1,1,none⟩=some b:=by rw[W1.cell];rfl
  have c2:cell A ⟨b1,2,none⟩=some d:=by rw[W1.cell];rfl
  have c3:cell A ⟨b1,3,none⟩=some a:=by rw[W1.cell];rfl
  have up:∀{v:Value} {l:List eH},nT H v l->nT A v l:=fun h=>(h.ai ew).ag KA fun q hq hw=>by have:=h.bE hq;omega
  obtain⟨C1,hC1⟩:∃C1,C1=A.size:=⟨_,rfl⟩
  have oS:∀q,ay sv q->C<=q/\q<C1:=fun q hq=>⟨oA q hq,by have:=OA.bE hq;omega⟩
  simp-implicitDefEqProofs only[go_sem,zS,↓reduceIte,Za,Zb,Zc,reduceCtorEq,ae,zU,zV,Zf,Zg,Zh,Zi,Zd,Ze];refine Oj (b1:=b1) (b3:=b3) hc (by simp-implicitDefEqProofs only[go_sem,zS,↓reduceIte,Za,Zb,Zc,reduceCtorEq,ae,zU,zV,Zf,Zg,Zh,Zi,Zd,Ze]) (by simp-implicitDefEqProofs only[go_sem,zS,↓reduceIte,Za,Zb,Zc,reduceCtorEq,ae,zU,zV,Zf,Zg,Zh,Zi,Zd,Ze]) (by omega) W1 BA (up h2) (up h3) (up h4) hsm.be hsm.di hsm.sa fun bv dv av X OB OD OA2 ob od oa BX KX=>?_;have sX:=KX.size;have OSX:=OA.ag KX fun q hq e=>by have:=oS q hq;omega
  have Rb:af (fun q=>q=b3\/C<=q) H3 X:=KA.trans (KX.mono fun q _ e=>.inl e);have W2:=W0 Rb;have c4:cell X ⟨b1,4,none⟩=some m:=by rw[W2.cell];rfl
  obtain⟨C2,hC2⟩:∃C2,C2=X.size:=⟨_,rfl⟩
  have oB:∀q,ay bv q->C1<=q/\q<C2:=fun q hq=>⟨by have:=ob q hq;omega,by have:=OB.bE hq;omega⟩
  have oD:∀q,ay dv q->C1<=q/\q<C2:=fun q hq=>⟨by have:=od q hq;omega,by have:=OD.bE hq;omega⟩
  have Og:∀q,ay av q->C1<=q/\q<C2:=fun q hq=>⟨by have:=oa q hq;omega,by have:=OA2.bE hq;omega⟩
  simp-implicitDefEqProofs only[go_sem,zS,↓reduceIte,Za,Zb,Zc,reduceCtorEq,ae,zU,zV,Zf,Zg,Zh,Zi,Zd,Ze,zF,c4,h5.aq,h5.len];refine aL f.mo.length [42,7,41] rfl rfl (by have:=hsm.mo;omega) (by simp-implicitDefEqProofs only[go_sem,zS,↓reduceIte,Za,Zb,Zc,reduceCtorEq,ae,zU,zV,Zf,Zg,Zh,Zi,Zd,Ze]) (by simp-implicitDefEqProofs only[go_sem,zS,↓reduceIte,Za,Zb,Zc,reduceCtorEq,ae,zU,zV,Zf,Zg,Zh,Zi,Zd,Ze]) (fun i g T=>∃mv ms,Bl T b3 [sv,bv,dv,av,mv]/\ct dp 2 T mv ms/\jR T ms (f.mo.take i)/\(∀q,ay mv q->C2<=q)/\(∀x∈ms,∀q,aV (iK x) q->C2<=q/\¬ay mv q)/\af (fun q=>q=b3\/C2<=q) X T) ⟨_,[],BX,ct.nil _,⟨by simp,fun i h=>by simp at h⟩,fun q h=>h.elim,fun x h=>by simp at h,af.refl _ _⟩ ?_ ?_
  ·rintro i g2 T hi gi gn ⟨mv,ms,BT,OT,MT,oT,WK,KT⟩;simp-implicitDefEqProofs only[go_sem,zS,↓reduceIte,Za,Zb,Zc,reduceCtorEq,ae,zU,zV,Zf,Zg,Zh,Zi,Zd,Ze]at gi gn;have sT:=KT.size;have Jq:af (fun q=>q=b3\/C<=q) H3 T:=Rb.trans (KT.mono fun q _ h=>by omega);have hT:=(h5.ai ew).ag Jq fun q hq h=>by have:=h5.bE hq;omega
   obtain⟨pb,po,pc,jr,oe,hld⟩:=hT.elem zC hi;obtain⟨x,hx⟩:∃x,x=f.mo[i]:=⟨_,rfl⟩
   rw[<-hx]at hld;have cP:aR T ⟨pb,po+i*2,none⟩ 2=some #[.int .i64 x.1,.int .u64 x.2.toNat]:=hld;simp-implicitDefEqProofs only[go_sem,zS,↓reduceIte,Za,Zb,Zc,reduceCtorEq,zU,zV,Zf,Zg,Zh,Zi,Zd,Ze,zF,gi,jr,aj,aB,cP];refine⟨by omega,?_⟩;refine bf [.int .i64 x.1,.int .u64 x.2.toNat] (by simp-implicitDefEqProofs only[go_sem,zS,↓reduceIte,Za,Zb,Zc,reduceCtorEq,ae,zU,zV,Zf,Zg,Zh,Zi,Zd,Ze]) rfl rfl rfl fun T1 bp eb zb BP KP=>?_;simp-implicitDefEqProofs only[go_sem,zS,↓reduceIte,Za,Zb,Zc,reduceCtorEq,ae,zU,zV,Zf,Zg,Zh,Zi,Zd,Ze];have pO:ms.length=i:=by rw[MT.len,List.length_take];omega
   refine Oh (y:=x) (C:=C2) hr (by simp-implicitDefEqProofs only[go_sem,zS,↓reduceIte,Za,Zb,Zc,reduceCtorEq,ae,zU,zV,Zf,Zg,Zh,Zi,Zd,Ze]) (by simp-implicitDefEqProofs only[go_sem,zS,↓reduceIte,Za,Zb,Zc,reduceCtorEq,ae,zU,zV,Zf,Zg,Zh,Zi,Zd,Ze]) (by have:=hsm.mo;omega) BP (KP.bl BT (by simp)) (by omega) (by omega) (by omega) (OT.ag KP (by simp)) oT (fun h=>by have:=OT.bE h;omega) (MT.ai KP) WK fun v' A' Rg O' U3 M' o' om' B' K'=>?_;simp-implicitDefEqProofs only[go_sem,zS,↓reduceIte,Za,Zb,Zc,reduceCtorEq,ae,zU,zV,Zf,Zg,Zh,Zi,Zd,Ze];exact⟨v',Rg,B',O',by rw[dD hi,<-hx];exact M',o',om',(KT.trans KP.any).trans K'⟩
  ·rintro g2 T gi ⟨mv,ms,BT,OT,MT,oT,WK,KT⟩;rw[List.take_length]at MT;have sT:=KT.size;have Jq:af (fun q=>q=b3\/C<=q) H3 T:=Rb.trans (KT.mono fun q _ h=>by omega);have Rf:=OSX.ag KT fun q hq h=>by have:=oS q hq;omega
   have Tv:=OB.ag KT fun q hq h=>by have:=oB q hq;omega
   have Tw:=OD.ag KT fun q hq h=>by have:=oD q hq;omega
   have Tx:=OA2.ag KT fun q hq h=>by have:=Og q hq;omega
   have B2T:=Jq.bl nX (by omega);simp-implicitDefEqProofs only[go_sem,zS,↓reduceIte,Za,Zb,Zc,reduceCtorEq,ae,zU,zV,Zf,Zg,Zh,Zi,Zd,Ze,zF,BT.aD 5 rfl];have one:([sv,bv,dv,av,mv].all fun v=>v.oneCell')=true:=by
    obtain⟨_,_,_,rfl⟩:=Rf.shape;obtain⟨_,_,_,rfl⟩:=Tv.shape;obtain⟨_,_,_,rfl⟩:=Tw.shape;obtain⟨_,_,_,rfl⟩:=Tx.shape;obtain⟨_,_,_,rfl⟩:=OT.shape
    rfl
   refine Jc (n:=5) (cs:=[sv,bv,dv,av,mv]) B2T rfl rfl one fun HZ zz BZ2 E0=>?_;rw[hQ];have K0T:af (fun _=>False) H T:=ew.trans' Jq fun q hq h=>by omega
   refine⟨⟨sv,bv,dv,av,mv,ms,rfl,Rf.ag E0 fun q hq e=>?_,Tv.ag E0 fun q hq e=>?_,Tw.ag E0 fun q hq e=>?_,Tx.ag E0 fun q hq e=>?_,OT.ag E0 fun q hq e=>?_,MT.ag E0 fun x hx q hq e=>?_,?_,?_,?_,?_⟩,K0T.trans' E0 fun q hq e=>by omega⟩
   ·have:=oS q hq;omega
   ·have:=oB q hq;omega
   ·have:=oD q hq;omega
   ·have:=Og q hq;omega
   ·have:=oT q hq;omega
   ·have:=(WK x hx q hq).1;omega
   ·intro c hc q hq;simp only[List.mem_cons,List.not_mem_nil,or_false]at hc;rcases hc with rfl|rfl|rfl|rfl|rfl
    ·have:=oS q hq;omega
    ·have:=oB q hq;omega
    ·have:=oD q hq;omega
    ·have:=Og q hq;omega
    ·have:=oT q hq;omega
   ·intro x hx q hq;have:=(WK x hx q hq).1;omega
   ·intro c hc q hq hs;have:=oS q hs;simp only[List.mem_cons,List.not_mem_nil,or_false]at hc;rcases hc with rfl|rfl|rfl|rfl
    ·have:=oB q hq;omega
    ·have:=oD q hq;omega
    ·have:=Og q hq;omega
    ·have:=oT q hq;omega
   ·intro x hx q hq hs;have:=oS q hs;have:=(WK x hx q hq).1;omega
structure gk (H:Hp) (vs:List Value) (ms:List UInt64):Prop where
 len:vs.length=ms.length
 at_:∀i (h:i<vs.length) (h':i<ms.length),aQ H (.agg #[vs[i]]) (bt ms[i])
theorem gk.ag {ms:List UInt64} (h:gk H vs ms) (hk:af W H H') (hw:∀x∈vs,∀q,aV x q->¬W q):gk H' vs ms:=
 ⟨h.len,fun i h1 h2=>(h.at_ i h1 h2).ag hk fun q hq=>hw _ (List.getElem_mem h1) q hq⟩
theorem gk.ai {ms:List UInt64} (h:gk H vs ms) (hk:af (fun _=>False) H H'):gk H' vs ms:=h.ag hk fun _ _ _ _ h=>h
theorem gk.snoc {ms:List UInt64} (h:gk H vs ms) {x:Value} {y:UInt64} (h2:aQ H (.agg #[x]) (bt y)):gk H (vs++[x]) (ms++[y]):=by
 refine⟨by simp[h.len],fun i hi qE=>?_⟩
 by_cases e:i<vs.length
 ·rw[List.getElem_append_left e,List.getElem_append_left (by rw[<-h.len];exact e)];exact h.at_ i e (by rw[<-h.len];exact e)
 ·have tK:i=vs.length:=by simp at hi;omega
  subst tK;have e1:(vs++[x])[vs.length]=x:=by simp
  have e2:(ms++[y])[vs.length]'qE=y:=by
   have:=h.len;simp[this]
  rw[e1,e2];exact h2
def zD (C:Nat) (H:Hp) (v:Value) (ms:List UInt64):Prop:=∃vs,bY H v vs/\gk H vs ms/\(∀q,ay v q->C<=q)/\∀x∈vs,∀q,aV x q->C<=q/\¬ay v q
theorem zD.ai {ms:List UInt64} (h:zD C H v ms) (hk:af (fun _=>False) H H'):zD C H' v ms:=by
 obtain⟨vs,h1,h2,h3⟩:=h;exact⟨vs,h1.ag hk (by simp),h2.ai hk,h3⟩
def oE (P:Program) (k:FuncId):Prop:=∀(r:cQ) (v:Value) (H:Hp),lz H v r->ak P k #[v] H fun x H'=>∃fv lv mv uv,x=.tuple #[fv,lv,mv,uv]/\pC H.size H' fv (bT r)/\zD H.size H' lv (aN r)/\fh H' mv (bT r)/\aM H' uv (dI (aN r))/\af (fun _=>False) H H'
def Cv (P:Program) (k:FuncId):Prop:=∀(r:cQ) (v:Value) (H:Hp),lz H v r->ak P k #[v] H fun x H'=>∃C fv lv mv uv,x=.tuple #[fv,lv,mv,uv]/\H.size<=C/\pC C H' fv (bT r)/\(∀q,ay lv q->q<C)/\zD H.size H' lv (aN r)/\fh H' mv (bT r)/\aM H' uv (dI (aN r))/\af (fun _=>False) H H'
theorem Gp (r:cQ):Js (bT r):=by
 have h:=(mR r).lim;unfold mQ at h;exact⟨by omega,by omega,by omega,by omega,by omega⟩
theorem Gq (hk:an P k (ql ι) qm 1) (hm:mV P (ι.f 292)) (hu:jd P (ι.f 295)) (hr:fN P (ι.f 283)) (hf:kp P (ι.f 299)):Cv P k:=by
 intro r v H hv;have lO:=hv;obtain⟨hn,ro,be,di,sa,mo,el,rfl,WE,Tu,My,Q9,hmo,hel⟩:=hv;refine qI fun Q hQ=>?_;refine ah hk (args:=[_]) (by simp) ?_;unfold ql qm kA kB kC kD ke kH kK kM kO kR kV kW kX ka kb kc kd kf kg kY kZ;simp-implicitDefEqProofs only[go_sem,zS,↓reduceIte,Za,Zb,Zc,reduceCtorEq,zU,zV,Zf,Zg,Zh,Zi,Zd,Ze,zF];refine al fun H1 b1 e1 z1 B1 K1=>?_;have cf:Bl H1 b1 [.int .u8 (r.n:Int),ro,be,di,sa,mo,el]:=B1;simp-implicitDefEqProofs only[go_sem,zS,↓reduceIte,Za,Zb,Zc,reduceCtorEq,zU,zV,Zf,Zg,Zh,Zi,Zd,Ze,zF];refine al fun H2 b2 e2 z2 B2 K2=>?_;have jc:Bl H2 b2 [.slice none 0 0,.slice none 0 0,.slice none 0 0,.slice none 0 0,.slice none 0 0]:=B2;simp-implicitDefEqProofs only[go_sem,zS,↓reduceIte,Za,Zb,Zc,reduceCtorEq,zU,zV,Zf,Zg,Zh,Zi,Zd,Ze,zF];refine al fun H3 b4 e3 z3 B3 K3=>?_;have jv:Bl H3 b4 [.slice none 0 0,.slice none 0 0,.slice none 0 0,.slice none 0 0,.slice none 0 0]:=B3;have ew:=(K1.trans K2).trans K3;have vG:=K2.trans K3;have gC:=vG.bl cf (by simp);have hb1:b1<b2:=by have:=cf.lt;omega
 have hb2:b2<b4:=by have:=B2.lt;omega
 simp-implicitDefEqProofs only[go_sem,zS,↓reduceIte,Za,Zb,Zc,reduceCtorEq,zU,zV,Zf,Zg,Zh,Zi,Zd,Ze,zF,gC.aD 7 rfl];refine(hm r _ H3 (lO.ai ew)).mono ?_;rintro w H4 ⟨hw,fw,K4⟩;have WL:=hw;obtain⟨ws,wb,wd,wa,wm,rfl,w1,w2,w3,w4,w5⟩:=hw;have one:([ws,wb,wd,wa,wm].all fun v=>v.oneCell')=true:=by
  have q1:=aI w1.aq;have q2:=aI w2.aq;have q3:=aI w3.aq;have q4:=aI w4.aq;have q5:=aI w5.aq;simp[q1,q2,q3,q4,q5]
 rw[ae];simp-implicitDefEqProofs only[go_sem,zS,↓reduceIte,Za,Zb,Zc,reduceCtorEq,zU,zV,Zf,Zg,Zh,Zi,Zd,Ze,zF];refine bf [ws,wb,wd,wa,wm] (by simp-implicitDefEqProofs only[go_sem,zS,↓reduceIte,Za,Zb,Zc,reduceCtorEq,ae,zU,zV,Zf,Zg,Zh,Zi,Zd,Ze]) rfl rfl one fun H5 b6 e5 z5 B5 K5=>?_;have Vg:=K4.trans K5;have Cw:=ew.trans Vg;have EK:=Vg.bl gC (by simp);simp-implicitDefEqProofs only[go_sem,zS,↓reduceIte,Za,Zb,Zc,reduceCtorEq,zU,zV,Zf,Zg,Zh,Zi,Zd,Ze,zF,EK.aD 7 rfl,B5.aD 5 rfl];refine(hu r _ _ H5 (lO.ai Cw) (WL.ai K5)).mono ?_;rintro uv H6 ⟨OU,oU,K6⟩;have F9:=Cw.trans K6;have hn5:=gg r;have pO:(dI (aN r)).length=rN r:=by rw[aK,cZ]
 rw[ae];simp-implicitDefEqProofs only[go_sem,zS,↓reduceIte,Za,Zb,Zc,reduceCtorEq,ae,zU,zV,Zf,Zg,Zh,Zi,Zd,Ze,zF,OU.sl.aq,OU.sl.len,pO];refine aL (rN r) [19,10,8,18] rfl rfl (by omega) (by simp-implicitDefEqProofs only[go_sem,zS,↓reduceIte,Za,Zb,Zc,reduceCtorEq,ae,zU,zV,Zf,Zg,Zh,Zi,Zd,Ze]) (by simp-implicitDefEqProofs only[go_sem,zS,↓reduceIte,Za,Zb,Zc,reduceCtorEq,ae,zU,zV,Zf,Zg,Zh,Zi,Zd,Ze]) (fun i g A=>∃lv vs,g 8=lv/\bY A lv vs/\gk A vs ((aN r).take i)/\(∀q,ay lv q->H6.size<=q)/\(∀x∈vs,∀q,aV x q->H6.size<=q/\¬ay lv q)/\af (fun _=>False) H6 A) ⟨_,[],by simp-implicitDefEqProofs only[go_sem,zS,↓reduceIte,Za,Zb,Zc,reduceCtorEq,ae,zU,zV,Zf,Zg,Zh,Zi,Zd,Ze],bY.nil _,⟨by simp,fun i h=>by simp at h⟩,fun q h=>h.elim,fun x h=>by simp at h,af.refl _ _⟩ ?_ ?_
 ·rintro i g A hi gi gn ⟨lv,vs,g8,OA,RA,oA,rA,KA⟩;simp-implicitDefEqProofs only[go_sem,zS,↓reduceIte,Za,Zb,Zc,reduceCtorEq,ae,zU,zV,Zf,Zg,Zh,Zi,Zd,Ze]at gi gn g8;have sA:=KA.size;have uA:=OU.sl.ag KA (by simp);have IM:i<(aN r).length:=by rw[cZ];exact hi
  obtain⟨ub,uo,uc,hue,huc,hcell⟩:=uA.cells (by intro e;rw[e]at pO;simp at pO;omega);have hci:=hcell i (by rw[pO];exact hi);rw[fF _ _ IM]at hci;rw[pO]at hue;have hvl:vs.length=i:=by rw[RA.len,List.length_take];omega
  obtain⟨x,hx⟩:∃x,x=(aN r)[i]:=⟨_,rfl⟩
  have hxd:(aN r).getD i 0=x:=by rw[List.getD_eq_getElem?_getD,List.getElem?_eq_getElem IM,hx];rfl
  rw[hxd]at hci;simp-implicitDefEqProofs only[go_sem,zS,↓reduceIte,Za,Zb,Zc,reduceCtorEq,ae,zU,zV,Zf,Zg,Zh,Zi,Zd,Ze,zF,gi,hue,aj,hci];refine⟨by omega,(hr x A).mono ?_⟩;rintro rv A1 ⟨⟨u,W,rfl,hV⟩,rf,Ty⟩;have sA1:=Ty.size;rw[ae];simp-implicitDefEqProofs only[go_sem,zS,↓reduceIte,Za,Zb,Zc,reduceCtorEq,zU,zV,Zf,Zg,Zh,Zi,Zd,Ze,zF];refine aG fun A2 bb eb zb BB KB=>?_;have BB':Bl A2 bb [u]:=BB;simp-implicitDefEqProofs only[go_sem,zS,↓reduceIte,Za,Zb,Zc,reduceCtorEq,ae,zU,zV,Zf,Zg,Zh,Zi,Zd,Ze,zF,g8];have hu1:bI #[u]:=hV.sl.one;refine lI (OA.ag (Ty.trans KB) (by simp)) (aM.bl BB' 0 1 1 (by omega) (by simp)) hu1 rfl (by unfold maxLen;simp;omega) (by simp;omega) fun v' A3 O3 K3 o3=>?_;have k3:af (fun q=>H6.size<=q) A2 A3:=K3.mono fun q _ h=>oA q h;have hown:∀q,ay lv q->q<A.size:=fun q hq=>OA.bE hq;have hus:∀q,aV u q->q<A1.size:=fun q hq=>(aQ.bE (x:=.agg #[u]) ⟨u,W,rfl,hV⟩ (k:=q) hq)
  have hvs:∀z∈vs,∀q,aV z q->q<A.size:=fun z hz q hq=>by
   obtain⟨j,hj,rfl⟩:=List.getElem_of_mem hz;exact(RA.at_ j hj (by rw[<-RA.len];exact hj)).bE (k:=q) hq
  simp-implicitDefEqProofs only[go_sem,zS,↓reduceIte,Za,Zb,Zc,reduceCtorEq,ae,zU,zV,Zf,Zg,Zh,Zi,Zd,Ze];refine⟨v',vs++[u],rfl,O3,?_,fun q hq=>?_,fun z hz q hq=>?_,((KA.trans Ty).trans KB).trans' k3 fun q hq h=>by omega⟩
  ·rw[dD IM,<-hx];refine((RA.ai (Ty.trans KB)).ag K3 fun z hz q hq=>(rA z hz q hq).2).snoc ((aQ.ai ⟨u,W,rfl,hV⟩ KB).ag K3 fun q hq h=>?_);have:=rf q hq;have:=hown q h;omega
  ·rcases o3 q hq with h|h
   ·exact oA q h
   ·omega
  ·rcases List.mem_append.1 hz with hz|hz
   ·refine⟨(rA z hz q hq).1,fun h=>?_⟩;rcases o3 q h with h|h
    ·exact(rA z hz q hq).2 h
    ·have:=hvs z hz q hq;omega
   ·simp only[List.mem_singleton]at hz;subst hz;have h1:=rf q hq;have h2:=hus q hq;refine⟨by omega,fun h=>?_⟩;rcases o3 q h with h|h
    ·have:=hown q h;omega
    ·omega
 ·rintro g A gi ⟨lv,vs,g8,OA,RA,oA,rA,KA⟩;simp-implicitDefEqProofs only[go_sem,zS,↓reduceIte,Za,Zb,Zc,reduceCtorEq,ae,zU,zV,Zf,Zg,Zh,Zi,Zd,Ze]at g8;rw[List.take_of_length_le (by rw[cZ];omega)]at RA;have sA:=KA.size;have Zs:=K6.trans KA;have B5A:=Zs.bl B5 (by simp);have Rh:af (fun _=>False) H2 A:=(K3.trans Vg).trans Zs;have K3A:af (fun _=>False) H3 A:=Vg.trans Zs;have MA:=Rh.bl jc (by simp);have Wv:=K3A.bl jv (by simp);have hb4:b4<b6:=by have:=jv.lt;have:=K4.size;omega
  simp-implicitDefEqProofs only[go_sem,zS,↓reduceIte,Za,Zb,Zc,reduceCtorEq,ae,zU,zV,Zf,Zg,Zh,Zi,Zd,Ze,zF];refine bj (fun q=>q=b2\/q=b4) ?_;simp-implicitDefEqProofs only[go_sem,zS,↓reduceIte,Za,Zb,Zc,reduceCtorEq,ae,zU,zV,Zf,Zg,Zh,Zi,Zd,Ze,zF,B5A.aD 5 rfl,g8];have rw0:=WL.ai (K5.trans Zs);refine⟨by omega,by omega,(hf (bT r) _ A rw0 (Gp r)).mono ?_⟩;rintro fv X ⟨hfv,KX⟩;have adi:=hfv;obtain⟨fs,fb,fd,fa,fm,ms,rfl,f1,f2,f3,f4,f5,f6,f7,f8,f9,f10⟩:=hfv;have abD:([fs,fb,fd,fa,fm].all fun v=>v.oneCell')=true:=by
   obtain⟨_,_,_,rfl⟩:=f1.shape;obtain⟨_,_,_,rfl⟩:=f2.shape;obtain⟨_,_,_,rfl⟩:=f3.shape;obtain⟨_,_,_,rfl⟩:=f4.shape;obtain⟨_,_,_,rfl⟩:=f5.shape
   rfl
  have s3:=K3A.size;have s0A:H.size<=A.size:=by have:=ew.size;omega
  have WM:=KX.bl MA (by simp);have B4X:=KX.bl Wv (by simp);have hbX:b4<X.size:=B4X.lt;have B2Y:=WM.az 0 [fs,fb,fd,fa,fm];have ky:af (fun q=>q=b2) X (az X ⟨b2,0,none⟩ [fs,fb,fd,fa,fm]):=(af.refl _ _).az _ (.inl rfl);have B4Y:=ky.bl B4X (by omega);have B4Z:=B4Y.az 0 [ws,wb,wd,wa,wm];have kz:af (fun q=>q=b4) (az X ⟨b2,0,none⟩ [fs,fb,fd,fa,fm]) (az (az X ⟨b2,0,none⟩ [fs,fb,fd,fa,fm]) ⟨b4,0,none⟩ [ws,wb,wd,wa,wm]):=(af.refl _ _).az _ (.inl rfl);have B2Z:=kz.bl B2Y (by omega);have abE:Bl (az (az X ⟨b2,0,none⟩ [fs,fb,fd,fa,fm]) ⟨b4,0,none⟩ [ws,wb,wd,wa,wm]) b2 [fs,fb,fd,fa,fm]:=B2Z;have abF:Bl (az (az X ⟨b2,0,none⟩ [fs,fb,fd,fa,fm]) ⟨b4,0,none⟩ [ws,wb,wd,wa,wm]) b4 [ws,wb,wd,wa,wm]:=B4Z;have kk:af (fun q=>q=b2\/q=b4) X (az (az X ⟨b2,0,none⟩ [fs,fb,fd,fa,fm]) ⟨b4,0,none⟩ [ws,wb,wd,wa,wm]):=(ky.mono fun q _ e=>.inl e).trans (kz.mono fun q _ e=>.inr e);have hlow:∀q,H3.size<=q->¬(q=b2\/q=b4):=fun q hq h=>by have:=jv.lt;omega
  have s36:H3.size<=H6.size:=by have:=Vg.size;have:=K6.size;omega
  simp-implicitDefEqProofs only[go_sem,zS,↓reduceIte,Za,Zb,Zc,reduceCtorEq,ae,zU,zV,Zf,Zg,Zh,Zi,Zd,Ze,zF,WM.bK (o:=0) (n:=5) (by simp),B4Y.bK (o:=0) (n:=5) (by simp),abE.aD 5 rfl,abF.aD 5 rfl];refine⟨KX.any,bg abD,ky.mono fun q _ e=>.inl e,bg one,kz.mono fun q _ e=>.inr e,?_⟩;rw[hQ];have pres:∀c∈[fs,fb,fd,fa,fm],∀q,ay c q->¬(q=b2\/q=b4):=fun c hc q hq=>hlow q (by have:=f7 c hc q hq;omega);refine⟨A.size,_,lv,_,uv,rfl,s0A,⟨fs,fb,fd,fa,fm,ms,rfl,f1.ag kk (pres _ (by simp)),f2.ag kk (pres _ (by simp)),f3.ag kk (pres _ (by simp)),f4.ag kk (pres _ (by simp)),f5.ag kk (pres _ (by simp)),f6.ag kk fun x hx q hq=>hlow q (by have:=f8 x hx q hq;omega),f7,f8,f9,f10⟩,fun q hq=>OA.bE hq,⟨vs,(OA.ag KX (by simp)).ag kk fun q hq=>hlow q (by have:=oA q hq;omega),(RA.ai KX).ag kk fun x hx q hq=>hlow q (by have:=(rA x hx q hq).1;omega),fun q hq=>by have:=oA q hq;have:=F9.size;omega,fun x hx q hq=>⟨by have:=(rA x hx q hq).1;have:=F9.size;omega,(rA x hx q hq).2⟩⟩,?_,?_,?_⟩
  ·exact(rw0.ai KX).ag kk fun q hq=>hlow q (by have:=fw q hq;omega)
  ·exact((OU.sl.ag KA (by simp)).ag KX (by simp)).ag kk fun q hq=>hlow q (by have:=oU q (OU.aV hq);have:=Vg.size;omega)
  ·exact((F9.trans KA).trans KX).trans' kk fun q hq h=>by omega
theorem Ju (hk:an P k (ql ι) qm 1) (hm:mV P (ι.f 292)) (hu:jd P (ι.f 295)) (hr:fN P (ι.f 283)) (hf:kp P (ι.f 299)):oE P k:=by
 intro r v H hv;refine(Gq hk hm hu hr hf r v H hv).mono ?_;rintro x H' ⟨C,fv,lv,mv,uv,rfl,hC,⟨s,b,d,a,m,ms,rfl,p1,p2,p3,p4,p5,p6,p7,p8,p9,p10⟩,-,hL,hM,hU,K⟩;exact⟨_,lv,mv,uv,rfl,⟨s,b,d,a,m,ms,rfl,p1,p2,p3,p4,p5,p6,fun c hc q hq=>Nat.le_trans hC (p7 c hc q hq),fun x hx q hq=>Nat.le_trans hC (p8 x hx q hq),p9,p10⟩,hL,hM,hU,K⟩
theorem bW.bI (h:bW H (.agg #[s,b,d,a,m]) f):Mg.bI #[s,b,d,a,m]:=by
 obtain⟨s',b',d',a',m',ms,e,h1,h2,h3,h4,h5,_⟩:=h;simp only[Value.agg.injEq,Array.mk.injEq,List.cons.injEq,and_true]at e;obtain⟨rfl,rfl,rfl,rfl,rfl⟩:=e;obtain⟨_,_,rfl,_⟩:=h1.mk;obtain⟨_,_,rfl,_⟩:=h2.mk;obtain⟨_,_,rfl,_⟩:=h3.mk;obtain⟨_,_,rfl,_⟩:=h4.mk;obtain⟨_,_,rfl,_⟩:=h5.mk;exact bg rfl
theorem fh.bI (h:fh H (.agg #[s,b,d,a,m]) f):Mg.bI #[s,b,d,a,m]:=by
 obtain⟨s',b',d',a',m',e,h1,h2,h3,h4,h5⟩:=h;simp only[Value.agg.injEq,Array.mk.injEq,List.cons.injEq,and_true]at e;obtain⟨rfl,rfl,rfl,rfl,rfl⟩:=e;obtain⟨_,_,rfl,_⟩:=h1.mk;obtain⟨_,_,rfl,_⟩:=h2.mk;obtain⟨_,_,rfl,_⟩:=h3.mk;obtain⟨_,_,rfl,_⟩:=h4.mk;obtain⟨_,_,rfl,_⟩:=h5.mk;exact bg rfl
end Go.Mg
namespace Go.Mg
open Go Go.RowKit
def wM (ι:aC):S:=
 kY [kC 4 (.int .i64 0)] (.seq (kY [kA 6 0,kV 7 (.m (.lenl (.t 6))),kC 8 (.int .i64 0)] (.blk 0 (.loop (kY [kH 9 8 7] (.seq (.ite (.v 9) .skip (.exit 0)) (.seq (.blk 1 (kY [kA 10 8,kB 5 10] (kY [kA 11 1,kA 12 0,kA 13 5,kI 14 2 12 13,kN 15 2 14,kd 16 (.callv (.t 11) [.t 15])] (.ite (.v 16) (kY [kA 17 5,kB 4 17] .ret) .skip)))) (.reg [ke 18 8,kB 8 18]))))))) (kY [kC 4 (.int .i64 (-1))] .ret))
def wN:List RV:=[.t 4]
def Cx (ι:aC):S:=
 kY [kC 4 (.bool false)] (kY [kA 5 0,kA 6 1,kc 7 (kg (ι.f 301) [.t 5,.t 6]),kU 8 (.cm .geq .i64 (.t 7) (.c (.int .i64 0))),kB 4 8] .ret)
def Cy:List RV:=[.t 4]
def Cz (ι:aC):S:=
 kY [kC 4 (.bool false)] (kY [kA 5 0,kA 6 1,kc 7 (kg (ι.f 303) [.t 5,.t 6]),kU 8 (.cm .geq .i64 (.t 7) (.c (.int .i64 0))),kB 4 8] .ret)
def CB:List RV:=[.t 4]
def CC (ι:aC):S:=
 kY [kR 2 (ι.t 297) 0,kC 3 (.bool false)] (kY [kG 4 0 2,kD 5 4,kG 6 0 1,kD 7 6,kU 8 (.sc .eql (.t 5) (.t 7)),kB 3 8] .ret)
def CD:List RV:=[.t 3]
def rV (ι:aC):S:=
 kY [kd 2 (.new (ι.t 128) #[kZ])] (kY [kA 5 0,kU 6 (.m (.mx (.t 5) (.c (.int .i64 0)))),kU 7 (.m (.mn (.t 6) (.c (.int .i64 4096)))),kB 0 7] (kY [kA 8 0,kU 9 (.ar .add .i64 (.t 8) (.c (.int .i64 63))),kU 10 (.dv .quo .i64 (.t 9) (.c (.int .i64 64))),kc 11 (.pV (ι.t 28) 1 8 #[.int .u64 0] (.t 10) (.t 10)),kB 3 11] (.seq (kY [kA 12 3,kV 13 (.m (.lenl (.t 12))),kC 14 (.int .i64 0)] (.blk 0 (.loop (kY [kH 15 14 13] (.seq (.ite (.v 15) .skip (.exit 0)) (.seq (.blk 1 (kY [kA 16 14,kB 4 16] (.reg [kA 17 3,kA 18 4,kI 19 1 17 18,kf (.st (.t 19) (.c (.int .u64 18446744073709551615)))]))) (.reg [ke 20 14,kB 14 20]))))))) (.seq (kY [kA 21 0,kU 22 (.dv .rem .i64 (.t 21) (.c (.int .i64 64))),kV 23 (.cm .gtr .i64 (.t 22) (.c (.int .i64 0)))] (.ite (.v 23) (.reg [kA 24 3,kA 25 3,kL 26 25,kU 27 (.ar .sub .i64 (.t 26) (.c (.int .i64 1))),kA 28 0,kU 29 (.dv .rem .i64 (.t 28) (.c (.int .i64 64))),kU 30 (.sh .shl .u64 (.c (.int .u64 1)) (.t 29)),kU 31 (.ar .sub .u64 (.t 30) (.c (.int .u64 1))),kI 32 1 24 27,kf (.st (.t 32) (.t 31))]) .skip)) (kY [kA 33 3,kU 34 (.m (.gz #[kZ] [(0,(1,.t 33))])),kf (.stn 1 (.v 2) (.t 34))] .ret)))))
def rX:List RV:=[.cn 2 1]
def rY (P:Program) (k:FuncId):Prop:=∀(s:List UInt8) (H:Hp),ak P k #[sV s] H fun r H'=>r=.bool (cI s)/\af (fun _=>False) H H'
variable {P:Program} {ι:aC} {k:FuncId} {α:Type}
theorem CE (hk:an P k (jM ι) jN 1) (h:ov P k):rY P k:=by
 intro s H
 by_cases hs:s.length<=1000000
 ·exact h s H hs
 refine ah hk (args:=[_]) (by simp) ?_;unfold jM jN kA kB kF kC ke kH kS kT kU kV kW kX ka kd kf kg kY;have e0:((s.length:Int)==0)=false:=by
  apply beq_eq_false_iff_ne.2;omega
 have e1:decide ((s.length:Int)>12)=true:=decide_eq_true (by omega);have hv:cI s=false:=by
  have:¬s.length<=12:=by omega
  simp[cI,this]
 simp-implicitDefEqProofs only[go_sem,zS,↓reduceIte,Za,Zb,Zc,reduceCtorEq,ae,zU,zV,Zf,Zg,Zh,Zi,Zd,Ze,zF,sV,gK,e0,e1,hv];exact af.refl _ _
def Ol {α:Type} (P:Program) (enc:α->List Value) (q:α->Bool) (l:List α) (g:FuncId) (fi ca:Array Value) (H:Hp):Prop:=bB P g=true/\∀x∈l,∀A,af (fun _=>False) H A->ak P g (fi++#[.agg (enc x).toArray]++ca) A fun r A'=>r=.bool (q x)/\af (fun _=>False) A A'
def jS {α:Type} (q:α->Bool) (l:List α):Int:=match l.findIdx? q with|some i=>(i:Int)|none=>-1
def jT {α:Type} (enc:α->List Value) (P:Program) (k:FuncId):Prop:=∀(l:List α) (q:α->Bool) (v:Value) (g:FuncId) (fi ca:Array Value) (H:Hp),bk enc 2 H v l->l.length<=1000000->Ol P enc q l g fi ca H->ak P k #[v,.func (.func g) fi ca] H fun r H'=>r=.int .i64 (jS q l)/\af (fun _=>False) H H'
theorem E2 {enc:α->List Value} (he:∀x,(enc x).length=2) (hk:an P k (wM ι) wN 2):jT enc P k:=by
 intro l q v g fi ca H hv hl ⟨hg,hq⟩;refine qI fun Q hQ=>?_;refine ah hk (args:=[_,_]) (by simp) ?_;unfold wM wN kA kB kC ke kH kI kN kV kd kY;simp-implicitDefEqProofs only[go_sem,zS,↓reduceIte,Za,Zb,Zc,reduceCtorEq,ae,zU,zV,Zf,Zg,Zh,Zi,Zd,Ze,zF,hv.aq,hv.len];refine aL l.length [9,5,16,4,8] rfl rfl (by omega) (by simp-implicitDefEqProofs only[go_sem,zS,↓reduceIte,Za,Zb,Zc,reduceCtorEq,ae,zU,zV,Zf,Zg,Zh,Zi,Zd,Ze]) (by simp-implicitDefEqProofs only[go_sem,zS,↓reduceIte,Za,Zb,Zc,reduceCtorEq,ae,zU,zV,Zf,Zg,Zh,Zi,Zd,Ze]) (fun i g A=>(∀j<i,∀hj:j<l.length,q l[j]=false)/\af (fun _=>False) H A) ⟨fun j h=>by omega,af.refl _ _⟩ ?_ ?_
 ·rintro i f A hi gi gn ⟨hno,KA⟩;simp-implicitDefEqProofs only[go_sem,zS,↓reduceIte,Za,Zb,Zc,reduceCtorEq,ae,zU,zV,Zf,Zg,Zh,Zi,Zd,Ze]at gi gn;obtain⟨pb,po,pc,jr,oe,hld⟩:=(hv.ai KA).elem he hi;have:=hq l[i] (List.getElem_mem hi) A KA;simp-implicitDefEqProofs only[go_sem,zS,↓reduceIte,Za,Zb,Zc,reduceCtorEq,ae,zU,zV,Zf,Zg,Zh,Zi,Zd,Ze,zF,gi,jr,aj,aB,hld,hg];refine⟨by omega,this.mono ?_⟩;rintro r A1 ⟨rfl,K1⟩;rw[ae];simp-implicitDefEqProofs only[go_sem,zS,↓reduceIte,Za,Zb,Zc,reduceCtorEq,ae,zU,zV,Zf,Zg,Zh,Zi,Zd,Ze,zF];refine pY (fun hb=>?_) (fun hb=>?_)
  ·rw[hQ];have:l.findIdx? q=some i:=List.findIdx?_eq_some_iff_getElem.2 ⟨hi,hb,fun j hj=>by rw[hno j hj (by omega)];simp⟩;refine⟨?_,KA.trans K1⟩;simp only[jS,this]
  ·refine⟨fun j hj uy=>?_,KA.trans K1⟩
   by_cases e:j=i
   ·subst e;exact hb
   ·exact hno j (by omega) uy
 ·rintro f A gi ⟨hno,KA⟩;simp-implicitDefEqProofs only[go_sem,zS,↓reduceIte,Za,Zb,Zc,reduceCtorEq,ae,zU,zV,Zf,Zg,Zh,Zi,Zd,Ze,zF];rw[hQ];have:l.findIdx? q=none:=by
   rw[List.findIdx?_eq_none_iff];intro x hx;obtain⟨j,hj,rfl⟩:=List.getElem_of_mem hx;exact hno j hj hj
  refine⟨?_,KA⟩;simp only[jS,this]
def iA {α:Type} (enc:α->List Value) (P:Program) (k:FuncId):Prop:=∀(l:List α) (q:α->Bool) (v:Value) (g:FuncId) (fi ca:Array Value) (H:Hp),bk enc 2 H v l->l.length<=1000000->Ol P enc q l g fi ca H->ak P k #[v,.func (.func g) fi ca] H fun r H'=>r=.bool (l.any q)/\af (fun _=>False) H H'
theorem kq (q:α->Bool) (l:List α):decide (jS q l≥0)=l.any q:=by
 unfold jS
 cases h:l.findIdx? q with
 |none=>
  rw[List.findIdx?_eq_none_iff]at h;have:l.any q=false:=by rw[List.any_eq_false];intro x hx;rw[h x hx];simp
  rw[this];rfl
 |some i=>
  obtain⟨hi,h1,_⟩:=List.findIdx?_eq_some_iff_getElem.1 h;have:l.any q=true:=List.any_eq_true.2 ⟨_,List.getElem_mem hi,h1⟩;rw[this];simp
theorem Om {enc:α->List Value} (hk:an P k (Cx ι) Cy 2) (hi:jT enc P (ι.f 301)):iA enc P k:=by
 intro l q v g fi ca H hv hl hq;refine ah hk (args:=[_,_]) (by simp) ?_;unfold Cx Cy kA kB kC kU kc kg kY;simp-implicitDefEqProofs only[go_sem,zS,↓reduceIte,Za,Zb,Zc,reduceCtorEq,ae,zU,zV,Zf,Zg,Zh,Zi,Zd,Ze,zF];refine(hi l q v g fi ca H hv hl hq).mono ?_;rintro r A ⟨rfl,K⟩;rw[ae];simp-implicitDefEqProofs only[go_sem,zS,↓reduceIte,Za,Zb,Zc,reduceCtorEq,ae,zU,zV,Zf,Zg,Zh,Zi,Zd,Ze,zF,kq];exact K
theorem On {enc:α->List Value} (hk:an P k (Cz ι) CB 2) (hi:jT enc P (ι.f 303)):iA enc P k:=by
 intro l q v g fi ca H hv hl hq;refine ah hk (args:=[_,_]) (by simp) ?_;unfold Cz CB kA kB kC kU kc kg kY;simp-implicitDefEqProofs only[go_sem,zS,↓reduceIte,Za,Zb,Zc,reduceCtorEq,ae,zU,zV,Zf,Zg,Zh,Zi,Zd,Ze,zF];refine(hi l q v g fi ca H hv hl hq).mono ?_;rintro r A ⟨rfl,K⟩;rw[ae];simp-implicitDefEqProofs only[go_sem,zS,↓reduceIte,Za,Zb,Zc,reduceCtorEq,ae,zU,zV,Zf,Zg,Zh,Zi,Zd,Ze,zF,kq];exact K
theorem toList_ba (a b:List UInt8):((⟨a.toArray⟩:ByteArray).toList==(⟨b.toArray⟩:ByteArray).toList)=decide (a=b):=by
 have e:∀x:List UInt8,(⟨x.toArray⟩:ByteArray).toList=x:=fun x=>by rw[ByteArray.toList_eq]
 rw[e,e];rw[Bool.eq_iff_iff];simp
def rZ (P:Program) (k:FuncId):Prop:=bB P k=true/\∀(x y:wx) (b:Nat) (H:Hp),Bl H b (cL y)->ak P k #[.agg (cL x).toArray,.pointer (some ⟨b,0,none⟩)] H fun r H'=>r=.bool (decide (x.1=y.1))/\af (fun _=>False) H H'
theorem Oo (hk:an P k (CC ι) CD 2):rZ P k:=by
 refine⟨hk.body,fun x y b H hB=>?_⟩;refine ah hk (args:=[_,_]) (by simp) ?_;unfold CC CD kB kC kD kG kR kU kY;simp-implicitDefEqProofs only[go_sem,zS,↓reduceIte,Za,Zb,Zc,reduceCtorEq,zU,zV,Zf,Zg,Zh,Zi,Zd,Ze,zF];refine al fun H1 b1 e1 z1 B1 K1=>?_;have cf:Bl H1 b1 (cL x):=B1;have c0:cell H1 ⟨b1,0,none⟩=some (sV x.1):=by rw[cf.cell];rfl
 have c1:cell H1 ⟨b,0,none⟩=some (sV y.1):=by rw[(K1.bl hB (by simp)).cell];rfl
 rw[sV]at c0 c1;simp-implicitDefEqProofs only[go_sem,zS,↓reduceIte,Za,Zb,Zc,reduceCtorEq,ae,zU,zV,Zf,Zg,Zh,Zi,Zd,Ze,zF,c0,c1,toList_ba];exact K1
theorem bk.WN {enc:α->List Value} {k:Nat} {H:Hp} {v:Value} {l:List α} (hk:∀x,(enc x).length=k) (h:bk enc k H v l) {n:Nat} (hn:n<=l.length):bk enc k H (Ax v k none (some (n:Int))) (l.take n):=by
 rcases h with⟨a,c,rfl,rfl⟩|⟨b,o,c,hne,rfl,h0,C,T,z,h1,h2,h3⟩
 ·have:n=0:=by simpa using hn
  subst this;exact .inl ⟨_,c -0,rfl,by simp⟩
 ·have hl:(l.take n).length=n:=by simp;omega
  have hm:n*k<=l.length*k:=Nat.mul_le_mul hn (Nat.le_refl _);have:=bk.at_ (enc:=enc) (k:=k) (l:=l.take n) (o:=o) (c:=c) (by omega) h1 (by rw[hl];omega) (by
   rw[hl];rw[<-vp hk l n hn,<-h3];rw[List.take_take,Nat.min_eq_left hm])
  rw[hl]at this;simp[Ax,mg,Aw,eJ]at this⊢;exact this
def dW:UInt64:=18446744073709551615
theorem E3 (k:Nat) (hk:k<64):bt dW k=true:=by
 have:∀m:Fin 64,bt dW m.val=true:=by decide
 exact this ⟨k,hk⟩
def zG (k:Nat):UInt64:=UInt64.ofNat (2^k -1)
theorem Oq (k j:Nat) (hk:k<64):bt (zG k) j=decide (j<k):=by
 have e:(zG k).toNat=2^k -1:=by
  unfold zG;rw[UInt64.toNat_ofNat'];apply Nat.mod_eq_of_lt;have:2^k<=2^63:=Nat.pow_le_pow_right (by omega) (by omega);omega
 unfold bt;rw[e,Nat.testBit_two_pow_sub_one]
def r7 (n:Nat):List UInt64:=if n % 64>0 then(List.replicate ((n+63)/64) dW).set ((n+63)/64 -1) (zG (n % 64))else List.replicate ((n+63)/64) dW
theorem zH (n:Nat):(r7 n).length=(n+63)/64:=by unfold r7;split<;>simp
theorem zI (n i:Nat):cw (r7 n) i=decide (i<n):=by
 have hi:i % 64<64:=Nat.mod_lt _ (by omega);have rep:∀m j,(List.replicate m dW).getD j 0=if j<m then dW else 0:=fun m j=>by
  rw[List.getD_eq_getElem?_getD,List.getElem?_replicate];split<;>rfl
 unfold r7 cw
 split
 ·next h=>
  have hm:0<(n+63)/64:=by omega
  rw[List.getD_eq_getElem?_getD,List.getElem?_set]
  by_cases e:(n+63)/64 -1=i/64
  ·rw[if_pos e,if_pos (by simp;omega),Option.getD_some,Oq _ _ (by omega)];rw[decide_eq_decide];omega
  ·rw[if_neg e,<-List.getD_eq_getElem?_getD,rep]
   split
   ·next h2=>rw[E3 _ hi,eq_comm,decide_eq_true_iff];omega
   ·next h2=>rw[eO,eq_comm,decide_eq_false_iff_not];omega
 ·next h=>
  rw[rep]
  split
  ·next h2=>rw[E3 _ hi,eq_comm,decide_eq_true_iff];omega
  ·next h2=>rw[eO,eq_comm,decide_eq_false_iff_not];omega
def je (P:Program) (k:FuncId):Prop:=∀(n:Nat) (H:Hp),n<=4096->ak P k #[.int .i64 n] H fun r H'=>aQ H' r (fun i=>decide (i<n))/\af (fun _=>False) H H'/\∀q,iZ r q->H.size<=q
theorem WO (k:Nat) (hk:k<64):IntKind.u64.wrap (IntKind.u64.wrap (1*2^k) -1)=((zG k).toNat:Int):=by
 have:∀m:Fin 64,IntKind.u64.wrap (IntKind.u64.wrap (1*2^m.val) -1)=((zG m.val).toNat:Int):=by decide
 exact this ⟨k,hk⟩
theorem Gr (hk:an P k (rV ι) rX 1):je P k:=by
 intro n H hn;refine qI fun Q hQ=>?_;refine ah hk (args:=[_]) (by simp) ?_;unfold rV rX kA kB kC ke kH kI kL kU kV kc kd kf kY kZ;simp-implicitDefEqProofs only[go_sem,zS,↓reduceIte,Za,Zb,Zc,reduceCtorEq,zU,zV,Zf,Zg,Zh,Zi,Zd,Ze,zF];refine al fun H1 b1 e1 z1 B1 K1=>?_;have cf:Bl H1 b1 [.slice none 0 0]:=B1;have m1:(if(0:Int)>(n:Int)then(0:Int)else(n:Int))=(n:Int):=if_neg (by omega);have m2:(if(4096:Int)<(n:Int)then(4096:Int)else(n:Int))=(n:Int):=if_neg (by omega);have w1:IntKind.i64.wrap ((n:Int)+63)=((n+63:Nat):Int):=by rw[IntWalk.i64_in _ (by omega)];omega
 have w2:IntKind.i64.wrap (((n+63:Nat):Int).tdiv 64)=(((n+63)/64:Nat):Int):=by
  have:((n+63:Nat):Int).tdiv 64=(((n+63)/64:Nat):Int):=rfl;rw[this,IntWalk.i64_in _ (by omega)]
 have hm:(n+63)/64<=maxLen:=by unfold maxLen;omega
 obtain⟨N,hN⟩:∃N,N=(n+63)/64:=⟨_,rfl⟩
 have adj:N<=64:=by omega
 have pO:N<=maxLen:=by unfold maxLen;omega
 simp-implicitDefEqProofs only[go_sem,zS,↓reduceIte,Za,Zb,Zc,reduceCtorEq,zU,zV,Zf,Zg,Zh,Zi,Zd,Ze,zF,m1,m2,w1,w2,aj,kindOf,<-hN];refine⟨by decide,⟨by omega,by omega,by omega⟩,?_⟩;refine aG fun H2 b2 e2 z2 B2 K2=>?_;have jc:Bl H2 b2 (List.replicate N (.int .u64 0)):=by rw[dg]at B2;exact B2
 have adk:b1<b2:=by have:=cf.lt;omega
 simp-implicitDefEqProofs only[go_sem,zS,↓reduceIte,Za,Zb,Zc,reduceCtorEq,ae,zU,zV,Zf,Zg,Zh,Zi,Zd,Ze,zF];refine aL N [15,4,14] rfl rfl (by omega) (by simp-implicitDefEqProofs only[go_sem,zS,↓reduceIte,Za,Zb,Zc,reduceCtorEq,ae,zU,zV,Zf,Zg,Zh,Zi,Zd,Ze]) (by simp-implicitDefEqProofs only[go_sem,zS,↓reduceIte,Za,Zb,Zc,reduceCtorEq,ae,zU,zV,Zf,Zg,Zh,Zi,Zd,Ze]) (fun i g A=>Bl A b2 (dI (List.replicate i dW++List.replicate (N -i) 0))/\af (fun q=>q=b2) H2 A) ⟨by rw[qd]at jc;simpa using jc,af.refl _ _⟩ ?_ ?_
 ·rintro i g A hi gi gn ⟨BA,KA⟩;simp-implicitDefEqProofs only[go_sem,zS,↓reduceIte,Za,Zb,Zc,reduceCtorEq,ae,zU,zV,Zf,Zg,Zh,Zi,Zd,Ze]at gi gn;have hlen:(dI (List.replicate i dW++List.replicate (N -i) 0)).length=N:=by rw[aK];simp;omega
  have hst:=BA.br (o:=i) (by rw[hlen];exact hi);have BS:=BA.ax i (.int .u64 18446744073709551615);have e64:(Value.int .u64 18446744073709551615)=.int .u64 (dW.toNat:Int):=rfl;rw[e64,mG _ _ (by simp;omega)]at BS;have es:(List.replicate i dW++List.replicate (N -i) 0).set i dW=List.replicate (i+1) dW++List.replicate (N -(i+1)) (0:UInt64):=by
   refine List.ext_getElem? fun j=>?_;rw[List.getElem?_set]
   by_cases hj:i=j
   ·subst hj;rw[if_pos rfl,if_pos (by simp;omega),List.getElem?_append_left (by simp),List.getElem?_replicate,if_pos (by omega)]
   ·rw[if_neg hj]
    by_cases hl:j<i
    ·rw[List.getElem?_append_left (by simpa using hl),List.getElem?_append_left (by simp;omega),List.getElem?_replicate,List.getElem?_replicate,if_pos hl,if_pos (by omega)]
    ·rw[List.getElem?_append_right (by simp;omega),List.getElem?_append_right (by simp;omega),List.getElem?_replicate,List.getElem?_replicate];simp only[List.length_replicate]
     split<;>split<;>first|rfl|omega
  rw[es]at BS;simp-implicitDefEqProofs only[go_sem,zS,↓reduceIte,Za,Zb,Zc,reduceCtorEq,ae,zU,zV,Zf,Zg,Zh,Zi,Zd,Ze,zF,gi,aj,hst];exact⟨by omega,BS,KA.ax _ (.inl rfl)⟩
 ·rintro g A gi ⟨BA,KA⟩;rw[Nat.sub_self,List.replicate_zero,List.append_nil]at BA;have m3:((n:Int)).tmod 64=((n % 64:Nat):Int):=cY _ 64;have Hh:=(K2.any.trans KA).bl cf (by omega);have sA:=KA.size;simp-implicitDefEqProofs only[go_sem,zS,↓reduceIte,Za,Zb,Zc,reduceCtorEq,ae,zU,zV,Zf,Zg,Zh,Zi,Zd,Ze,zF,m3];have fin:∀(W:List UInt64) (X:Hp),Bl X b2 (dI W)->W.length=N->(∀i,cw W i=decide (i<n))->(W=r7 n)->af (fun q=>q=b2) A X->(bK X ⟨b1,0,none⟩ 1/\bI #[Value.slice (some ⟨b2,0,none⟩) N N])/\(aD (az X ⟨b1,0,none⟩ [Value.slice (some ⟨b2,0,none⟩) N N]) (.pointer (some ⟨b1,0,none⟩)) 1).isSome=true/\Q (.agg ((aD (az X ⟨b1,0,none⟩ [Value.slice (some ⟨b2,0,none⟩) N N]) (.pointer (some ⟨b1,0,none⟩)) 1).getD #[])) (az X ⟨b1,0,none⟩ [Value.slice (some ⟨b2,0,none⟩) N N]):=fun W X hB hl hmem hW hK=>by
   have Zt:=hK.bl Hh (by omega);refine Jc (n:=1) (cs:=[.slice (some ⟨b2,0,none⟩) N N]) Zt rfl rfl rfl fun HZ zz BZ KZ=>?_;rw[hQ];have hsl:aM HZ (.slice (some ⟨b2,0,none⟩) N N) (dI W):=by
    have:=aM.bl (KZ.bl hB (by omega)) 0 N N (Nat.le_refl _) (by rw[aK];omega);rw[List.drop_zero,List.take_of_length_le (by rw[aK];omega)]at this;exact this
   refine⟨⟨_,W,rfl,⟨hsl,by omega,?_,hmem⟩⟩,?_,?_⟩
   ·refine Can.Bt fun hne=>⟨n -1,?_,?_⟩
    ·rw[hmem];exact decide_eq_true (by
      have:0<N:=by rw[<-hl];exact List.length_pos_iff.2 hne
      omega)
    ·omega
   ·exact((K1.trans K2).trans' (KA.trans hK) fun q hq e=>by have:=K1.size;omega).trans' KZ fun q hq e=>by omega
   ·intro q hq;have hq:q=b2/\_:=hq;have:=K1.size;omega
  by_cases hp:n % 64>0
  ·have d1:decide (((n % 64:Nat):Int)>0)=true:=decide_eq_true (by omega);have w4:IntKind.i64.wrap ((N:Int) -1)=((N -1:Nat):Int):=by rw[IntWalk.i64_in _ (by omega)];omega
   have hst:=BA.br (o:=N -1) (by rw[aK];simp;omega);have BS:=BA.ax (N -1) (.int .u64 ((zG (n % 64)).toNat:Int));rw[mG _ _ (by simp;omega)]at BS;have eW:(List.replicate N dW).set (N -1) (zG (n % 64))=r7 n:=by unfold r7;rw[if_pos hp,hN]
   rw[eW]at BS;simp-implicitDefEqProofs only[go_sem,zS,↓reduceIte,Za,Zb,Zc,reduceCtorEq,ae,zU,zV,Zf,Zg,Zh,Zi,Zd,Ze,zF,d1,w4,aj,WO (n % 64) (by omega),hst];refine⟨by decide,by decide,by omega,by omega,?_⟩;exact fin (r7 n) _ BS (by rw[zH,hN]) (zI n) rfl ((af.refl _ _).ax _ (.inl rfl))
  ·have d1:decide (((n % 64:Nat):Int)>0)=false:=decide_eq_false (by omega);have eW:List.replicate N dW=r7 n:=by unfold r7;rw[if_neg hp,hN]
   rw[eW]at BA;simp-implicitDefEqProofs only[go_sem,zS,↓reduceIte,Za,Zb,Zc,reduceCtorEq,ae,zU,zV,Zf,Zg,Zh,Zi,Zd,Ze,zF,d1];refine⟨by decide,?_⟩;exact fin (r7 n) _ BA (by rw[zH,hN]) (zI n) rfl (af.refl _ _)
end Go.Mg

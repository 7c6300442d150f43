/- Lemmas of ours. No conditions. -/
import Derived.Test.YtoclemmcphgikaaGreatDoorMgV3
open Nat renaming reduceEqDiff→Za,reduceAdd→Zb,reduceMul→Zc,reduceLeDiff→Zd,reduceLT→Ze
open Int renaming reduceBEq→Zf,reduceBNe→Zg,reduceLE→Zh,reduceLT→Zi
set_option linter.all false
set_option maxRecDepth 100000
namespace Go.Mg
open Go Go.RowKit
def FU (ι:aG):S:=
 (.reg [kA 26 5,kA 27 7,kU 28 (.sh .shl .u64 (.t 27) (.c (.int .u64 1))),.e (.t 29) (.aV (ι.t 28) 1 1 [.t 28]),.e (.t 30) (.app false (ι.t 28) 1 8 #[.int .u64 0] (.t 26) (.t 29)),kB 5 30])
def vd (ι:aG):S:=
 kY [kR 2 (ι.t 288) 0,kR 3 (ι.t 289) 1,kC 4 (kZ)] (kY [kC 5 (kZ)] (.seq (kY [kG 8 0 3,kD 9 8,kV 10 (.m (.lenl (.t 9))),kC 11 (.int .i64 0)] (.blk 0 (.loop (kY [kH 12 11 10] (.seq (.ite (.v 12) .skip (.exit 0)) (.seq (.blk 1 (kY [kA 13 11,kB 6 13] (kY [kC 7 (.int .u64 15)] (.seq (kY [kA 14 6,kG 15 6 2,kD 16 15,kL 17 16,kV 18 (.cm .lss .i64 (.t 14) (.t 17))] (.ite (.v 18) (.reg [kG 19 6 2,kD 20 19,kA 21 6,kI 22 1 20 21,kD 23 22,kU 24 (.dv .rem .u8 (.t 23) (.c (.int .u8 16))),kU 25 (.ii .u64 (.t 24)),kB 7 25]) .skip)) (FU ι))))) (.reg [ke 31 11,kB 11 31]))))))) (kY [kA 32 5,kB 4 32] .ret)))
def ve:List RV:=[.t 4]
def FV (ι:aG):S:=
 (.reg [kG 15 0 3,kD 16 15,kG 17 0 5,kD 18 17,kG 19 1 5,kD 20 19,kU 21 (.m (.bld #[.string ⟨#[]⟩,.int .i64 0] [(0,(1,.t 18)),(1,(1,.t 20))])),.e (.t 22) (.aV (ι.t 297) 2 1 [.t 21]),.e (.t 23) (.app false (ι.t 297) 2 24 #[.string ⟨#[]⟩,.int .i64 0] (.t 16) (.t 22)),kG 24 0 3,.e .no (.st (.t 24) (.t 23))])
def FW (ι:aG):S:=
 (.dr (kW 26 (.fa 1 (.v 1)) (kW 27 (.ld (.t 26)) (kW 29 (.fa 2 (.v 1)) (kW 30 (.ld (.t 29)) (kW 32 (.fa 3 (.v 1)) (kW 33 (.ld (.t 32)) (.wcons (.t 28) .none (.call (ι.f 204) [.t 27]) (kW 35 (.fa 1 (.v 3)) (.wcons (.t 31) .none (.call (ι.f 204) [.t 30]) (.wcons (.t 34) .none (.call (ι.f 204) [.t 33]) (.wcons .no .none (.st (.t 35) (.t 28)) (kW 36 (.fa 2 (.v 3)) (.wcons .no .none (.st (.t 36) (.t 31)) (kW 37 (.fa 3 (.v 3)) (.wcons .no .none (.st (.t 37) (.t 34)) .done .wnil)) .wnil)) .wnil) .wnil) .wnil)) .wnil))))))))
def FX (ι:aG):S:=
 (.dr (kW 45 (.fa 4 (.v 3)) (kW 47 (.fa 0 (.v 7)) (kW 48 (.ld (.t 47)) (kW 49 (.fa 1 (.v 7)) (kW 50 (.ld (.t 49)) (.wcons (.t 46) .none (.rd (.ld (.t 45))) (.wcons (.t 51) .none (.call (ι.f 283) [.t 50]) (kW 52 (.m (.bld #[.int .i64 0,kZ] [(0,(1,.t 48)),(1,(1,.t 51))])) (.wcons (.t 53) .none (.aV (ι.t 298) 2 1 [.t 52]) (.wcons (.t 54) .none (.app false (ι.t 298) 2 32 #[.int .i64 0,kZ] (.t 46) (.t 53)) (kW 55 (.fa 4 (.v 3)) (.wcons .no .none (.st (.t 55) (.t 54)) .done .wnil)) .wnil) .wnil)) .wnil) (.wcons (.t 51) .none (.call (ι.f 283) [.t 50]) (kW 52 (.m (.bld #[.int .i64 0,kZ] [(0,(1,.t 48)),(1,(1,.t 51))])) (.wcons (.t 46) .none (.rd (.ld (.t 45))) (.wcons (.t 53) .none (.aV (ι.t 298) 2 1 [.t 52]) (.wcons (.t 54) .none (.app false (ι.t 298) 2 32 #[.int .i64 0,kZ] (.t 46) (.t 53)) (kW 55 (.fa 4 (.v 3)) (.wcons .no .none (.st (.t 55) (.t 54)) .done .wnil)) .wnil) .wnil) (.wcons (.t 53) .none (.aV (ι.t 298) 2 1 [.t 52]) (.wcons (.t 46) .none (.rd (.ld (.t 45))) (.wcons (.t 54) .none (.app false (ι.t 298) 2 32 #[.int .i64 0,kZ] (.t 46) (.t 53)) (kW 55 (.fa 4 (.v 3)) (.wcons .no .none (.st (.t 55) (.t 54)) .done .wnil)) .wnil) .wnil) .wnil))) .wnil))))))))
def zN (ι:aG):S:=
 kY [kR 1 (ι.t 289) 0,.e (.v 2) (.new (ι.t 296) #[kZ,kZ,kZ,kZ,kZ])] (kY [.e (.v 3) (.new (ι.t 296) #[kZ,kZ,kZ,kZ,kZ])] (.seq (kY [kG 8 0 1,kV 9 (.ld (.t 8)),kO 10 9,kC 11 (.int .i64 0)] (.blk 0 (.loop (kY [kH 12 11 10] (.seq (.ite (.v 12) .skip (.exit 0)) (.seq (.blk 1 (kY [kK 13 2 9 11,kN 14 2 13,.e (.v 5) (.new (ι.t 290) #[.string ⟨#[]⟩,.int .i64 0]),.e .no (.stn 2 (.v 5) (.t 14))] (FV ι))) (.reg [ke 25 11,kB 11 25]))))))) (.seq (FW ι) (.seq (kY [kG 38 4 1,kV 39 (.ld (.t 38)),kO 40 39,kC 41 (.int .i64 0)] (.blk 2 (.loop (kY [kH 42 41 40] (.seq (.ite (.v 42) .skip (.exit 2)) (.seq (.blk 3 (kY [kK 43 2 39 41,kN 44 2 43,.e (.v 7) (.new (ι.t 291) #[.int .i64 0,.int .u64 0]),.e .no (.stn 2 (.v 7) (.t 44))] (FX ι))) (.reg [ke 56 41,kB 41 56]))))))) (kY [kM 57 5 3,.e .no (.stn 5 (.v 2) (.t 57))] .ret)))))
def zO:List RV:=[.cn 2 5]
def tq (ι:aG):S:=
 kY [kR 1 (ι.t 288) 0,.e (.v 2) (.new (ι.t 296) #[kZ,kZ,kZ,kZ,kZ]),kC 3 (kZ),.e (.v 4) (.new (ι.t 289) #[kZ,kZ,kZ,kZ,kZ]),kC 5 (kZ)] (kY [kM 11 7 1,.e (.t 12) (.call (ι.f 292) [.t 11]),.e (.v 6) (.new (ι.t 289) #[kZ,kZ,kZ,kZ,kZ]),.e .no (.stn 5 (.v 6) (.t 12))] (kY [kM 13 7 1,kM 14 5 6,.e (.t 15) (.call (ι.f 295) [.t 13,.t 14]),kB 7 15] (kY [kC 8 (kZ)] (.seq (kY [kV 16 (.mv (.v 7)),kO 17 16,kC 18 (.int .i64 0)] (.blk 0 (.loop (kY [kH 19 18 17] (.seq (.ite (.v 19) .skip (.exit 0)) (.seq (.blk 1 (kY [kK 20 1 16 18,kD 21 20,kB 10 21] (.reg [kA 22 8,kA 23 10,.e (.t 24) (.call (ι.f 283) [.t 23]),.e (.t 25) (.aV (ι.t 128) 1 1 [.t 24]),.e (.t 26) (.app false (ι.t 128) 1 24 #[kZ] (.t 22) (.t 25)),kB 8 26]))) (.reg [ke 27 18,kB 18 27]))))))) (.seq (.dr (kW 28 (.m (.ldn 5 (.v 6))) (kW 30 (.mv (.v 8)) (kW 31 (.m (.ldn 5 (.v 6))) (kW 32 (.mv (.v 7)) (.wcons (.t 29) .none (.call (ι.f 299) [.t 28]) (.wcons .no .none (.stn 5 (.v 2) (.t 29)) (kX 3 (.mv (.t 30)) (.wcons .no .none (.stn 5 (.v 4) (.t 31)) (kX 5 (.mv (.t 32)) .done) .wnil)) .wnil) .wnil)))))) .ret)))))
def tt:List RV:=[.cn 2 5,.t 3,.cn 4 5,.t 5]
def cX {α:Type} (enc:α->List Value) (P:Program) (k:FuncId):Prop:=∀(l:List α) (v:Value) (H:Hp),bk enc 2 H v l->l.length<1000000->an P k #[v] H fun r H'=>bT enc 2 H' r l/\(∀q,ax r q->H.size<=q)/\af (fun _=>False) H H'
variable {P:Program} {ι:aG} {k:FuncId} {f:Fr} {A H H':Hp} {C b bp:Nat} {Qb:Ex->Fr->Hp->Prop} {W:Nat->Prop} {mo:List tk} {y:tk} {v y0 y1 y2 y3 y4:Value} {vs:List Value}
theorem OW {α:Type} {enc:α->List Value} (hl:∀x,(enc x).length=2) (h1:∀x,∀v∈enc x,v.oneCell'=true) (hk:al P k (Fz ι) FA 1):cX enc P k:=by
 intro l v H hv hn;refine ah hk (args:=[_]) (by simp) ?_;unfold Fz FA kA kB kC kV kY kZ;obtain⟨a,c,rfl,hc⟩:=hv.mk
 cases a with
 |none=>
  have h0:l=[]:=by
   rcases hv with⟨_,_,_,h⟩|⟨_,_,_,_,h,_⟩
   ·exact h
   ·cases h
  subst h0;simp only[go_sem,zS,↓reduceIte,Za,Zb,Zc,reduceCtorEq,ae];exact⟨bT.nil _,fun k h=>h.elim,af.refl _ _⟩
 |some p=>
  simp only[go_sem,zS,↓reduceIte,Za,Zb,Zc,reduceCtorEq];refine aF fun H1 b1 e1 z1 B1 K1=>?_;have s1:=K1.size;simp only[go_sem,zS,↓reduceIte,Za,Zb,Zc,reduceCtorEq];have pW:bT enc 2 H1 (.slice (some ⟨b1,0,none⟩) 0 0) []:=bT.bl B1 rfl (by omega) (by omega) (by simp);refine qk (l:=([]:List α)) (m:=l) H.size hl h1 pW (fun q hq=>by have hq:q=b1:=hq;omega) (by omega) (hv.aj K1) rfl (by omega) (by simp;omega) fun v3 H3 O3 own3 K3=>?_;rw[List.nil_append]at O3;simp only[go_sem,zS,↓reduceIte,Za,Zb,Zc,reduceCtorEq,ae];exact⟨O3,own3,K1.gV K3 (Nat.le_refl _)⟩
def pk (r:dX) (k:Nat):UInt64:=UInt64.ofNat ((if k<r.el.length then(r.el.getD k 0).toNat % 16 else 15)*2)
def bf (r:dX):List UInt64:=(List.range (jR r)).map (pk r)
theorem fo (r:dX):(bf r).length=jR r:=by simp[bf]
theorem qJ (r:dX) (k:Nat):(pk r k).toNat=(if k<r.el.length then(r.el.getD k 0).toNat % 16 else 15)*2:=by
 unfold pk;rw[UInt64.toNat_ofNat'];apply Nat.mod_eq_of_lt
 split<;>omega
theorem Jl {mm:Nat} {lv:Value} {L:List UInt64} {x:UInt64} (h5:f 5=lv) (h7:f 7=.int .u64 (mm:Int)) (hm:mm<16) (hx:x.toNat=mm*2) (hL:L.length<=1000)
  (O:bq A lv (cN L)) (o:∀q,ax lv q->C<=q) (hC:C<=A.size)
  (hK:∀v' A',bq A' v' (cN (L++[x]))->(∀q,ax v' q->C<=q)->af (fun q=>C<=q) A A'->Qb .n (bL f 5 v') A'):vc P (FU ι) Qb f A:=by
 unfold FU kA kB kU;have e1:((1:Int)).toNat=1:=rfl;have w1:IntKind.u64.wrap ((mm:Int)*2^1)=(x.toNat:Int):=by rw[IntKind.wrap_u64];omega
 simp-implicitDefEqProofs only[go_sem,↓reduceIte,Za,Zb,Zc,reduceCtorEq,Zf,Zg,Zh,Zi,Zd,Ze,h5,h7,e1,w1];refine aF fun A2 b2 e2 z2 B2 K2=>?_;have km:Bl A2 b2 (cN [x]):=B2;simp-implicitDefEqProofs only[go_sem,↓reduceIte,Za,Zb,Zc,reduceCtorEq,ae,Zf,Zg,Zh,Zi,Zd,Ze];refine jK C (O.ai K2 (by simp)) o (by omega) (aO.bl km 0 1 1 (by omega) (by simp[aH])) (NS [x]) rfl (by omega) (by rw[aH];simp[aH];omega) fun v' A3 O3 o3 K3=>?_;simp-implicitDefEqProofs only[go_sem,↓reduceIte,Za,Zb,Zc,reduceCtorEq,ae,Zf,Zg,Zh,Zi,Zd,Ze];exact hK v' A3 (by rw[I0];exact O3) o3 (K2.any.trans K3)
def jS (P:Program) (k:FuncId):Prop:=∀(r:dX) (v w:Value) (H:Hp),mY H v r->c9 H w (dt r)->an P k #[v,w] H fun x H'=>bq H' x (cN (bf r))/\(∀q,ax x q->H.size<=q)/\af (fun _=>False) H H'
theorem Ln (hk:al P k (vd ι) ve 2):jS P k:=by
 intro r v w H hv hw;obtain⟨hn,ro,be,di,sa,mo,el,rfl,hro,Zs,TN,R8,hmo,hel⟩:=hv;obtain⟨ws,wb,wd,wa,wm,rfl,h1,h2,h3,h4,h5⟩:=hw;refine qI fun Q hQ=>?_;refine ah hk (args:=[_,_]) (by simp) ?_;unfold vd ve kA kB kC kD ke kG kH kI kL kR kU kV kY kZ;simp only[go_sem,Za,Zb];refine ay fun H1 b1 e1 z1 B1 K1=>?_;have bQ:Bl H1 b1 [.int .u8 (r.n:Int),ro,be,di,sa,mo,el]:=B1;simp only[go_sem,Za,Zb];refine ay fun H2 b2 e2 z2 B2 K2=>?_;have kx:=K2.bl bQ (by simp);have km:Bl H2 b2 [ws,wb,wd,wa,wm]:=B2;have dB:=K1.trans K2;have c0:cell H2 ⟨b2,0,none⟩=some ws:=by rw[km.cell];rfl
 have hsn:(dt r).st.length=jR r:=pf r;have hn5:=nC r;simp only[go_sem,Za,Zb,ae,c0,h1.aq,h1.len,hsn];refine aD (jR r) [12,6,7,18,5,11] rfl rfl (by omega) (by rfl) (by rfl) (fun i f A=>∃lv,f 5=lv/\bq A lv (cN ((List.range i).map (pk r)))/\(∀q,ax lv q->H2.size<=q)/\af (fun _=>False) H2 A) ⟨_,by simp only[go_sem,Za,Zb,ae],bq.nil _,fun q h=>h.elim,af.refl _ _⟩ ?_ ?_
 ·rintro i g A hi gi gn ⟨lv,g5,OA,oA,KA⟩;simp only[go_sem,Za,Zb,ae]at gi gn g5;have sA:=KA.size;have sH:=dB.size;have c6:cell A ⟨b1,6,none⟩=some el:=by rw[(KA.bl kx (by simp)).cell];rfl
  have eV:=(hel.ai dB (by simp)).ai KA (by simp);simp only[go_sem,Za,Zb,ae,gi,c6,eV.aq,eV.len,aK];refine aL (fun hlt=>?_) (fun jN=>?_)
  ·have hlt:i<r.el.length:=by omega
   obtain⟨rb,rof,rc,hre,hrc,hcell⟩:=eV.cells (by intro e;have:=aK r.el;rw[e]at this;simp at this;omega);have hci:=hcell i (by rw[aK];exact hlt);rw[jH _ _ hlt]at hci;have afS:=(r.el.getD i 0).toNat_lt;have m4:(((r.el.getD i 0).toNat:Int)).tmod 16=(((r.el.getD i 0).toNat % 16:Nat):Int):=cg _ 16;have w4:IntKind.u64.wrap (((r.el.getD i 0).toNat % 16:Nat):Int)=(((r.el.getD i 0).toNat % 16:Nat):Int):=by rw[IntKind.wrap_u64];omega
   simp only[go_sem,Za,Zb,ae,gi,hre,ak,hci,m4,w4,aK];refine⟨by omega,by decide,?_⟩;refine Jl (mm:=(r.el.getD i 0).toNat % 16) (x:=pk r i) (L:=(List.range i).map (pk r)) (C:=H2.size) (by simp only[go_sem,Za,Zb,ae,g5]) (by rfl) (by omega) (by rw[qJ,if_pos hlt]) (by simp;omega) OA oA (by omega) fun v' A' O' o' K'=>?_;simp only[go_sem,Za,Zb,ae];exact⟨v',rfl,by rw[List.map_append];exact O',o',KA.trans' K' fun q hq h=>by omega⟩
  ·refine Jl (mm:=15) (x:=pk r i) (L:=(List.range i).map (pk r)) (C:=H2.size) (by simp only[go_sem,Za,Zb,ae,g5]) (by rfl) (by omega) (by rw[qJ,if_neg (by omega)]) (by simp;omega) OA oA (by omega) fun v' A' O' o' K'=>?_;simp only[go_sem,Za,Zb,ae];exact⟨v',rfl,by rw[List.map_append];exact O',o',KA.trans' K' fun q hq h=>by omega⟩
 ·rintro g A gi ⟨lv,g5,OA,oA,KA⟩;simp only[go_sem,Za,Zb,ae]at g5;simp only[go_sem,Za,Zb,ae,g5];rw[hQ];have:=dB.size;exact⟨OA,fun q hq=>by have:=oA q hq;omega,dB.trans KA⟩
abbrev MV:=Int×Option Addr×Nat×Nat
def hZ (x:MV):Value:=.slice x.2.1 x.2.2.1 x.2.2.2
def cH (x:MV):List Value:=[.int .i64 x.1,hZ x]
theorem eP (x:MV):(cH x).length=2:=rfl
theorem ji (x:MV):∀v∈cH x,v.oneCell'=true:=by
 intro v hv;simp[cH,hZ]at hv;rcases hv with rfl|rfl<;>rfl
structure iq (H:Hp) (ms:List MV) (mo:List tk):Prop where
 len:ms.length=mo.length
 at_:∀i (h:i<ms.length) (h':i<mo.length),ms[i].1=mo[i].1/\aQ H (.agg #[hZ ms[i]]) (bt mo[i].2)
theorem iq.ai {ms:List MV} (h:iq H ms mo) (hk:af W H H') (hw:∀x∈ms,∀q,aT (hZ x) q->¬W q):iq H' ms mo:=
 ⟨h.len,fun i h1 h2=>⟨(h.at_ i h1 h2).1,(h.at_ i h1 h2).2.ai hk fun q hq=>hw _ (List.getElem_mem h1) q hq⟩⟩
theorem iq.aj {ms:List MV} (h:iq H ms mo) (hk:af (fun _=>False) H H'):iq H' ms mo:=h.ai hk fun _ _ _ _ h=>h
theorem iq.snoc {ms:List MV} (h:iq H ms mo) {x:MV} (h1:x.1=y.1) (h2:aQ H (.agg #[hZ x]) (bt y.2)):iq H (ms++[x]) (mo++[y]):=by
 refine⟨by simp[h.len],fun i hi oh=>?_⟩
 by_cases e:i<ms.length
 ·rw[List.getElem_append_left e,List.getElem_append_left (by rw[<-h.len];exact e)];exact h.at_ i e (by rw[<-h.len];exact e)
 ·have mU:i=ms.length:=by simp at hi;omega
  subst mU;have e1:(ms++[x])[ms.length]=x:=by simp
  have e2:(mo++[y])[ms.length]'oh=y:=by
   have:=h.len;simp[this]
  rw[e1,e2];exact⟨h1,h2⟩
def bU (H:Hp) (v:Value) (f:cf):Prop:=∃s b d a m ms,v=.agg #[s,b,d,a,m]/\bk cj 2 H s f.st/\ql H b f.be/\ql H d f.di/\ql H a f.sa/\bk cH 2 H m ms/\iq H ms f.mo
theorem bU.aj {f:cf} (h:bU H v f) (hk:af (fun _=>False) H H'):bU H' v f:=by
 obtain⟨s,b,d,a,m,ms,rfl,h1,h2,h3,h4,h5,h6⟩:=h;exact⟨s,b,d,a,m,ms,rfl,h1.aj hk,h2.aj hk,h3.aj hk,h4.aj hk,h5.aj hk,h6.aj hk⟩
def se (C:Nat) (H:Hp) (v:Value) (f:cf):Prop:=∃s b d a m ms,v=.agg #[s,b,d,a,m]/\bT cj 2 H s f.st/\EA H b f.be/\EA H d f.di/\EA H a f.sa/\bT cH 2 H m ms/\iq H ms f.mo∧
 (∀c∈[s,b,d,a,m],∀q,ax c q->C<=q)/\(∀x∈ms,∀q,aT (hZ x) q->C<=q)/\(∀c∈[b,d,a,m],∀q,ax c q->¬ax s q)/\∀x∈ms,∀q,aT (hZ x) q->¬ax s q
theorem se.fl {f:cf} (h:se C H v f):bU H v f:=by
 obtain⟨s,b,d,a,m,ms,rfl,h1,h2,h3,h4,h5,h6,_⟩:=h;exact⟨s,b,d,a,m,ms,rfl,h1.sl,h2.sl,h3.sl,h4.sl,h5.sl,h6⟩
theorem se.aj {f:cf} (h:se C H v f) (hk:af (fun _=>False) H H'):se C H' v f:=by
 obtain⟨s,b,d,a,m,ms,rfl,h1,h2,h3,h4,h5,h6,h7⟩:=h;exact⟨s,b,d,a,m,ms,rfl,h1.ai hk (by simp),h2.ai hk (by simp),h3.ai hk (by simp),h4.ai hk (by simp),h5.ai hk (by simp),h6.aj hk,h7⟩
theorem fj.shape {W:List UInt64} {p:Nat->Bool} (h:fj H v W p):∃a n c,v=.slice a n c:=by
 obtain⟨a,c,rfl,_⟩:=h.sl.mk;exact⟨_,_,_,rfl⟩
theorem TQ (hr:gG P (ι.f 283)) {ms:List MV} (h3:f 3=.pointer (some ⟨b,0,none⟩)) (h7:f 7=.pointer (some ⟨bp,0,none⟩)) (hL:ms.length<=1000)
  (Bp:Bl A bp (mP y)) (B:Bl A b [y0,y1,y2,y3,y4]) (hb:b<C) (hbp:C<=bp) (hC:C<=A.size) (O:bT cH 2 A y4 ms) (o:∀q,ax y4 q->C<=q) (hbo:¬ax y4 bp) (M:iq A ms mo) (om:∀x∈ms,∀q,aT (hZ x) q->C<=q/\¬ax y4 q)
  (hK:∀v' A' Xd,bT cH 2 A' v' Xd->Xd.length=ms.length+1->iq A' Xd (mo++[y])->(∀q,ax v' q->C<=q)->(∀x∈Xd,∀q,aT (hZ x) q->C<=q/\¬ax v' q)->Bl A' b [y0,y1,y2,y3,v']->af (fun q=>q=b\/C<=q) A A'->Qb .n f A'):vc P (FX ι) Qb f A:=by
 have hsz:∀{X:Hp} {x:MV} {p:Nat->Bool},aQ X (.agg #[hZ x]) p->∀q,aT (hZ x) q->q<X.size:=fun h q hq=>h.bj (k:=q) hq;unfold FX kW kZ;refine bo (fun q=>q=b\/ax y4 q) ?_;have c0:∀{A':Hp},af (fun _=>False) A A'->cell A' ⟨b,4,none⟩=some y4:=fun K=>by rw[(K.bl B (by simp)).cell];rfl
 have p0:cell A ⟨bp,0,none⟩=some (.int .i64 y.1):=by rw[Bp.cell];rfl
 have p1:cell A ⟨bp,1,none⟩=some (.int .u64 y.2.toNat):=by rw[Bp.cell];rfl
 have hlt:bp<A.size:=Bp.lt;have abz:¬(bp=b\/ax y4 bp):=by rintro(h|h);omega;exact hbo h
 have eF:∀{X Y:Hp},af (fun _=>False) X Y->af (fun q=>q=b\/ax y4 q) X Y:=fun K=>K.any;have fin:∀(A1 A2:Hp) (bb:Nat) (e:Env) (x:MV),af (fun _=>False) A A1->af (fun _=>False) A1 A2->x.1=y.1->aQ A1 (.agg #[hZ x]) (bt y.2)->(∀q,aT (hZ x) q->A.size<=q)->Bl A2 bb (cH x)->iM false (ι.t 298) 2 32 #[.int .i64 0,.slice none 0 0] y4 (.slice (some ⟨bb,0,none⟩) 1 1) A2 (la P (fun q=>q=b\/ax y4 q) A2 (.t 54) (.px (.t 55) none (.fa 4 (.v 3)) (.wcons .no none (.st (.t 55) (.t 54)) .done .wnil)) e f (Qb .n)):=fun A1 A2 bb e x K1 K2 hx1 Xb hx3 B2=>by
  have KK:=K1.trans K2;refine nB (.inl rfl) (fun q hq=>.inr hq) eP ji (O.ai KK (by simp)) o (by have:=KK.size;omega) (bk.bl B2 (l:=[x]) rfl (by simp[cH]) (by simp)) rfl (by omega) (by simp;omega) (KK.bl B (by simp)) hb (by simp) h3 rfl fun v' A' O' o' B' K'=>?_;have s1:=K1.size;have s2:=K2.size;have hyo:∀q,ax y4 q->q<A.size:=fun q hq=>O.bj hq;have abr:b<A.size:=B.lt;have hxs:∀q,aT (hZ x) q->q<A2.size:=fun q hq=>by have:=hsz Xb q hq;omega
  have hms:∀z∈ms,∀q,aT (hZ z) q->q<A2.size:=fun z hz q hq=>by
   obtain⟨i,hi,rfl⟩:=List.getElem_of_mem hz;have:=hsz (M.at_ i hi (by rw[<-M.len];exact hi)).2 q hq;omega
  refine hK v' A' (ms++[x]) O' (by simp) ?_ (fun q hq=>?_) (fun z hz q hq=>?_) B' ((KK.any).trans (K'.mono fun q _ h=>?_))
  ·refine iq.snoc ((M.aj KK).ai K' fun z hz q hq h=>?_) hx1 ((Xb.aj K2).ai K' fun q hq h=>?_)
   ·rcases h with h|h
    ·have:=(om z hz q hq).1;omega
    ·exact(om z hz q hq).2 h
   ·have:=hx3 q hq;rcases h with h|h
    ·omega
    ·have:=hyo q h;omega
  ·rcases o' q hq with h|h
   ·exact o q h
   ·omega
  ·rcases List.mem_append.1 hz with hz|hz
   ·refine⟨(om z hz q hq).1,fun h=>?_⟩;rcases o' q h with h|h
    ·exact(om z hz q hq).2 h
    ·have:=hms z hz q hq;omega
   ·simp only[List.mem_singleton]at hz;subst hz;have:=hx3 q hq;refine⟨by omega,fun h=>?_⟩;rcases o' q h with h|h
    ·have:=hyo q h;omega
    ·have:=hxs q hq;omega
  ·rcases h with h|h
   ·exact .inl h
   ·exact .inr (o q h)
 have key:∀(A1:Hp) (v:Value) (W:List UInt64),fj A1 v W (bt y.2)->(∀q,aT v q->A.size<=q)->af (fun _=>False) A A1->∃x:MV,v=hZ x/\x.1=y.1/\aQ A1 (.agg #[hZ x]) (bt y.2)/\∀q,aT (hZ x) q->A.size<=q:=fun A1 v W hV hf K=>by
  obtain⟨a,n,c,rfl⟩:=hV.shape;exact⟨(y.1,a,n,c),rfl,rfl,⟨_,W,rfl,hV⟩,hf⟩
 simp-implicitDefEqProofs only[go_sem,↓reduceIte,Za,Zb,Zc,reduceCtorEq,ae,Zf,Zg,Zh,Zi,Zd,Ze,h3,h7,c0 (af.refl _ A),p0,p1];refine⟨abz,abz,⟨af.refl _ _,(hr y.2 A).mono ?_⟩,(hr y.2 A).mono ?_⟩
 ·rintro rv A1 ⟨⟨v,W,rfl,hV⟩,rf,K1⟩;obtain⟨x,rfl,hx1,Xb,hx3⟩:=key A1 v W hV rf K1;have hmv:hZ x=.slice x.2.1 x.2.2.1 x.2.2.2:=rfl;rw[hmv];simp-implicitDefEqProofs only[go_sem,↓reduceIte,Za,Zb,Zc,reduceCtorEq,ae,Zf,Zg,Zh,Zi,Zd,Ze];refine⟨eF K1,?_⟩;generalize sd:A1.push _=A2;have B2:Bl A2 A1.size (cH x):=by rw[<-sd,cH,hx1];exact Bl.cS _ _ _
  have K2:af (fun _=>False) A1 A2:=by rw[<-sd];exact(af.refl _ _).push _
  exact⟨eF K2,fin A1 A2 _ _ x K1 K2 hx1 Xb hx3 B2⟩
 ·rintro rv A1 ⟨⟨v,W,rfl,hV⟩,rf,K1⟩;obtain⟨x,rfl,hx1,Xb,hx3⟩:=key A1 v W hV rf K1;have hmv:hZ x=.slice x.2.1 x.2.2.1 x.2.2.2:=rfl;rw[hmv];simp-implicitDefEqProofs only[go_sem,↓reduceIte,Za,Zb,Zc,reduceCtorEq,ae,Zf,Zg,Zh,Zi,Zd,Ze,h3,c0 K1];refine⟨eF K1,?_⟩;generalize sd:A1.push _=A2;have B2:Bl A2 A1.size (cH x):=by rw[<-sd,cH,hx1];exact Bl.cS _ _ _
  have K2:af (fun _=>False) A1 A2:=by rw[<-sd];exact(af.refl _ _).push _
  simp-implicitDefEqProofs only[go_sem,↓reduceIte,Za,Zb,Zc,reduceCtorEq,ae,Zf,Zg,Zh,Zi,Zd,Ze,c0 (K1.trans K2)];exact⟨⟨af.refl _ _,eF K2,fin A1 A2 _ _ x K1 K2 hx1 Xb hx3 B2⟩,eF K2,af.refl _ _,fin A1 A2 _ _ x K1 K2 hx1 Xb hx3 B2⟩
theorem TR {x:wO} {L:List wO} (h3:f 3=.pointer (some ⟨b,0,none⟩)) (h5:f 5=.pointer (some ⟨bp,0,none⟩)) (hL:L.length<=1000)
  (Bp:Bl A bp (cj x)) (B:Bl A b [y0,y1,y2,y3,y4]) (hb:b<C) (hC:C<=A.size) (O:bT cj 2 A y0 L) (o:∀q,ax y0 q->C<=q)
  (hK:∀v' A',bT cj 2 A' v' (L++[x])->(∀q,ax v' q->C<=q)->Bl A' b [v',y1,y2,y3,y4]->af (fun q=>q=b\/C<=q) A A'->Qb .n f A'):vc P (FV ι) Qb f A:=by
 unfold FV kD kG kU;have c0:cell A ⟨b,0,none⟩=some y0:=by rw[B.cell];rfl
 have p0:cell A ⟨bp,0,none⟩=some (sV x.1):=by rw[Bp.cell];rfl
 have p1:cell A ⟨bp,1,none⟩=some (.int .i64 x.2):=by rw[Bp.cell];rfl
 rw[sV]at p0;simp-implicitDefEqProofs only[go_sem,↓reduceIte,Za,Zb,Zc,reduceCtorEq,Zf,Zg,Zh,Zi,Zd,Ze,h3,h5,c0,p0,p1];refine aF fun A2 b2 e2 z2 B2 K2=>?_;have km:Bl A2 b2 (cj x):=B2;simp-implicitDefEqProofs only[go_sem,↓reduceIte,Za,Zb,Zc,reduceCtorEq,Zf,Zg,Zh,Zi,Zd,Ze];exact uT dD jh (O.ai K2 (by simp)) o (by omega) (bk.bl km (l:=[x]) rfl (by simp[cj]) (by simp)) rfl (by omega) (by simp;omega) (K2.bl B (by simp)) hb (by simp) h3 rfl fun v' A' O' o' B' K'=>hK v' A' O' o' B' ((K2.mono fun _ _ h=>h.elim).trans K')
theorem TS (hc:cX pE P (ι.f 204)) {b1 b3:Nat} {s b d a m:Value} {L1 L2 L3:List fV} (h1:f 1=.pointer (some ⟨b1,0,none⟩)) (h3:f 3=.pointer (some ⟨b3,0,none⟩)) (hne:b1≠b3)
  (B1:Bl A b1 [s,b,d,a,m]) (B:Bl A b3 [y0,y1,y2,y3,y4]) (hb:ql A b L1) (hd:ql A d L2) (ha:ql A a L3) (l1:L1.length<=1000) (l2:L2.length<=1000) (l3:L3.length<=1000)
  (hK:∀bv dv av A',EA A' bv L1->EA A' dv L2->EA A' av L3->(∀q,ax bv q->A.size<=q)->(∀q,ax dv q->A.size<=q)->(∀q,ax av q->A.size<=q)->Bl A' b3 [y0,bv,dv,av,y4]->af (fun q=>q=b3) A A'->Qb .n f A'):vc P (FW ι) Qb f A:=by
 unfold FW kW;refine bo (fun q=>q=b3) ?_;have c1:cell A ⟨b1,1,none⟩=some b:=by rw[B1.cell];rfl
 have c2:cell A ⟨b1,2,none⟩=some d:=by rw[B1.cell];rfl
 have c3:cell A ⟨b1,3,none⟩=some a:=by rw[B1.cell];rfl
 simp only[go_sem,Za,Zb,ae,h1,c1,c2,c3];refine⟨hne,hne,hne,(hc L1 b A hb (by omega)).mono ?_⟩;rintro bv A1 ⟨O1,o1,K1⟩;simp only[go_sem,Za,Zb,ae,h3];refine⟨K1.any,(hc L2 d A1 (hd.aj K1) (by omega)).mono ?_⟩;rintro dv A2 ⟨O2,o2,K2⟩;simp only[go_sem,Za,Zb,ae];have fk:=K1.trans K2;refine⟨K2.any,(hc L3 a A2 (ha.aj fk) (by omega)).mono ?_⟩;rintro av A3 ⟨O3,o3,K3⟩;have gg:=fk.trans K3;have s1:=K1.size;have s2:=K2.size;have Cq:b3<A.size:=B.lt;have B3:=gg.bl B (by simp);have B4:=B3.az 1 bv;have B5:=B4.az 2 dv;have B6:=B5.az 3 av;have k4:af (fun q=>q=b3) A3 (az A3 ⟨b3,1,none⟩ bv):=(af.refl _ _).az _ (.inl rfl);have k5:af (fun q=>q=b3) (az A3 ⟨b3,1,none⟩ bv) (az (az A3 ⟨b3,1,none⟩ bv) ⟨b3,2,none⟩ dv):=(af.refl _ _).az _ (.inl rfl);have k6:af (fun q=>q=b3) (az (az A3 ⟨b3,1,none⟩ bv) ⟨b3,2,none⟩ dv) (az (az (az A3 ⟨b3,1,none⟩ bv) ⟨b3,2,none⟩ dv) ⟨b3,3,none⟩ av):=(af.refl _ _).az _ (.inl rfl);have t4:=B3.bu (o:=1) (by simp);have t5:=B4.bu (o:=2) (by simp);have t6:=B5.bu (o:=3) (by simp);have q1:=aI (O1.sl.aq);have q2:=aI (O2.sl.aq);have q3:=aI (O3.sl.aq);simp only[go_sem,Za,Zb,ae,h3,t4,t5,t6,q1,q2,q3];have k46:=(k4.trans k5).trans k6;exact⟨K3.any,q1,k4,q2,k5,q3,k6,hK bv dv av _ ((O1.ai (K2.trans K3) (by simp)).ai k46 fun q hq e=>by have:=o1 q hq;omega) ((O2.ai K3 (by simp)).ai k46 fun q hq e=>by have:=o2 q hq;omega) (O3.ai k46 fun q hq e=>by have:=o3 q hq;omega) o1 (fun q hq=>by have:=o2 q hq;omega) (fun q hq=>by have:=o3 q hq;omega) B6 (gg.any.trans k46)⟩
structure O0 (f:cf):Prop where
 st:f.st.length<=1000
 be:f.be.length<=1000
 di:f.di.length<=1000
 sa:f.sa.length<=1000
 mo:f.mo.length<=1000
def mE (P:Program) (k:FuncId):Prop:=∀(f:cf) (w:Value) (H:Hp),c9 H w f->O0 f->an P k #[w] H fun r H'=>se H.size H' r f/\af (fun _=>False) H H'
theorem Pc (hk:al P k (zN ι) zO 1) (hc:cX pE P (ι.f 204)) (hr:gG P (ι.f 283)):mE P k:=by
 intro f w H hw hsm;obtain⟨s,b,d,a,m,rfl,h1,h2,h3,h4,h5⟩:=hw;refine qI fun Q hQ=>?_;refine ah hk (args:=[_]) (by simp) ?_;unfold zN zO kB kC ke kG kH kK kM kN kO kR kV kY kZ;simp only[go_sem,Za,Zb];refine ay fun H1 b1 e1 z1 B1 K1=>?_;have bQ:Bl H1 b1 [s,b,d,a,m]:=B1;simp only[go_sem,Za,Zb];refine ay fun H2 b2 e2 z2 B2 K2=>?_;have kx:=K2.bl bQ (by simp);simp only[go_sem,Za,Zb];refine ay fun H3 b3 e3 z3 B3 K3=>?_;have kj:=K3.bl kx (by simp);have xy:=K3.bl B2 (by simp);have xc:Bl H3 b3 [.slice none 0 0,.slice none 0 0,.slice none 0 0,.slice none 0 0,.slice none 0 0]:=B3;have gg:=(K1.trans K2).trans K3;have hb1:b1<b2:=by have:=bQ.lt;omega
 have hb2:b2<b3:=by have:=B2.lt;omega
 obtain⟨C,hC⟩:∃C,C=H3.size:=⟨_,rfl⟩
 have hCH:H.size<=b1:=by omega
 have Cq:b3<C:=by have:=xc.lt;omega
 have W0:∀{X:Hp},af (fun q=>q=b3\/C<=q) H3 X->Bl X b1 [s,b,d,a,m]:=fun K=>K.bl kj (by omega);have c0:cell H3 ⟨b1,0,none⟩=some s:=by rw[kj.cell];rfl
 simp only[go_sem,Za,Zb,ae,c0,h1.aq,h1.len];refine aD f.st.length [12,5,11] rfl rfl (by have:=hsm.st;omega) (by rfl) (by rfl) (fun i g A=>∃sv,Bl A b3 [sv,.slice none 0 0,.slice none 0 0,.slice none 0 0,.slice none 0 0]/\bT cj 2 A sv (f.st.take i)/\(∀q,ax sv q->C<=q)/\af (fun q=>q=b3\/C<=q) H3 A) ⟨_,xc,bT.nil _,fun q h=>h.elim,af.refl _ _⟩ ?_ ?_
 ·rintro i g A hi gi gn ⟨sv,BA,OA,oA,KA⟩;simp only[go_sem,Za,Zb,ae]at gi gn;have sA:=KA.size;have hA:=(h1.aj gg).ai KA fun q hq h=>by have:=h1.bj hq;omega
  obtain⟨pb,po,pc,gz,nz,hld⟩:=hA.elem dD hi;obtain⟨x,hx⟩:∃x,x=f.st[i]:=⟨_,rfl⟩
  rw[<-hx]at hld;have cU:aR A ⟨pb,po+i*2,none⟩ 2=some #[sV x.1,.int .i64 x.2]:=hld;simp only[go_sem,Za,Zb,gi,gz,ak,aC,cU];refine⟨by omega,?_⟩;refine aN [sV x.1,.int .i64 x.2] (by rfl) rfl rfl rfl fun A1 bp eb zb BP KP=>?_;simp only[go_sem,Za,Zb,ae];refine TR (x:=x) (C:=C) (by rfl) (by rfl) (by have:=hsm.st;rw[List.length_take];omega) BP (KP.bl BA (by simp)) (by omega) (by omega) (OA.ai KP (by simp)) oA fun v' A' O' o' B' K'=>?_;simp only[go_sem,Za,Zb,ae];exact⟨v',B',by rw[cW hi,<-hx];exact O',o',(KA.trans KP.any).trans K'⟩
 ·rintro g A gi ⟨sv,BA,OA,oA,KA⟩;rw[List.take_length]at OA;have sA:=KA.size;have W1:=W0 KA;have c1:cell A ⟨b1,1,none⟩=some b:=by rw[W1.cell];rfl
  have c2:cell A ⟨b1,2,none⟩=some d:=by rw[W1.cell];rfl
  have c3:cell A ⟨b1,3,none⟩=some a:=by rw[W1.cell];rfl
  have up:∀{v:Value} {l:List fV},ql H v l->ql A v l:=fun h=>(h.aj gg).ai KA fun q hq hw=>by have:=h.bj hq;omega
  obtain⟨C1,hC1⟩:∃C1,C1=A.size:=⟨_,rfl⟩
  have oS:∀q,ax sv q->C<=q/\q<C1:=fun q hq=>⟨oA q hq,by have:=OA.bj hq;omega⟩
  simp only[go_sem,Za,Zb,ae];refine TS (b1:=b1) (b3:=b3) hc (by rfl) (by rfl) (by omega) W1 BA (up h2) (up h3) (up h4) hsm.be hsm.di hsm.sa fun bv dv av X OB OD OA2 ob od oa BX KX=>?_;have sX:=KX.size;have OSX:=OA.ai KX fun q hq e=>by have:=oS q hq;omega
  have W8:af (fun q=>q=b3\/C<=q) H3 X:=KA.trans (KX.mono fun q _ e=>.inl e);have W2:=W0 W8;have c4:cell X ⟨b1,4,none⟩=some m:=by rw[W2.cell];rfl
  obtain⟨C2,hC2⟩:∃C2,C2=X.size:=⟨_,rfl⟩
  have oB:∀q,ax bv q->C1<=q/\q<C2:=fun q hq=>⟨by have:=ob q hq;omega,by have:=OB.bj hq;omega⟩
  have oD:∀q,ax dv q->C1<=q/\q<C2:=fun q hq=>⟨by have:=od q hq;omega,by have:=OD.bj hq;omega⟩
  have TP:∀q,ax av q->C1<=q/\q<C2:=fun q hq=>⟨by have:=oa q hq;omega,by have:=OA2.bj hq;omega⟩
  simp only[go_sem,Za,Zb,ae,c4,h5.aq,h5.len];refine aD f.mo.length [42,7,41] rfl rfl (by have:=hsm.mo;omega) (by rfl) (by rfl) (fun i g T=>∃mv ms,Bl T b3 [sv,bv,dv,av,mv]/\bT cH 2 T mv ms/\iq T ms (f.mo.take i)/\(∀q,ax mv q->C2<=q)/\(∀x∈ms,∀q,aT (hZ x) q->C2<=q/\¬ax mv q)/\af (fun q=>q=b3\/C2<=q) X T) ⟨_,[],BX,bT.nil _,⟨by simp,fun i h=>by simp at h⟩,fun q h=>h.elim,fun x h=>by simp at h,af.refl _ _⟩ ?_ ?_
  ·rintro i g2 T hi gi gn ⟨mv,ms,BT,OT,MT,oT,omT,KT⟩;simp only[go_sem,Za,Zb,ae]at gi gn;have sT:=KT.size;have OR:af (fun q=>q=b3\/C<=q) H3 T:=W8.trans (KT.mono fun q _ h=>by omega);have hT:=(h5.aj gg).ai OR fun q hq h=>by have:=h5.bj hq;omega
   obtain⟨pb,po,pc,gz,nz,hld⟩:=hT.elem ph hi;obtain⟨x,hx⟩:∃x,x=f.mo[i]:=⟨_,rfl⟩
   rw[<-hx]at hld;have cU:aR T ⟨pb,po+i*2,none⟩ 2=some #[.int .i64 x.1,.int .u64 x.2.toNat]:=hld;simp only[go_sem,Za,Zb,gi,gz,ak,aC,cU];refine⟨by omega,?_⟩;refine aN [.int .i64 x.1,.int .u64 x.2.toNat] (by rfl) rfl rfl rfl fun T1 bp eb zb BP KP=>?_;simp only[go_sem,Za,Zb,ae];have nQ:ms.length=i:=by rw[MT.len,List.length_take];omega
   refine TQ (y:=x) (C:=C2) hr (by rfl) (by rfl) (by have:=hsm.mo;omega) BP (KP.bl BT (by simp)) (by omega) (by omega) (by omega) (OT.ai KP (by simp)) oT (fun h=>by have:=OT.bj h;omega) (MT.aj KP) omT fun v' A' Xd O' hl' M' o' om' B' K'=>?_;simp only[go_sem,Za,Zb,ae];exact⟨v',Xd,B',O',by rw[cW hi,<-hx];exact M',o',om',(KT.trans KP.any).trans K'⟩
  ·rintro g2 T gi ⟨mv,ms,BT,OT,MT,oT,omT,KT⟩;rw[List.take_length]at MT;have sT:=KT.size;have OR:af (fun q=>q=b3\/C<=q) H3 T:=W8.trans (KT.mono fun q _ h=>by omega);have Xc:=OSX.ai KT fun q hq h=>by have:=oS q hq;omega
   have Zt:=OB.ai KT fun q hq h=>by have:=oB q hq;omega
   have Zu:=OD.ai KT fun q hq h=>by have:=oD q hq;omega
   have Zv:=OA2.ai KT fun q hq h=>by have:=TP q hq;omega
   have B2T:=OR.bl xy (by omega);simp only[go_sem,Za,Zb,ae,BT.aM 5 rfl];have one:([sv,bv,dv,av,mv].all fun v=>v.oneCell')=true:=by
    obtain⟨_,_,_,rfl⟩:=Xc.shape;obtain⟨_,_,_,rfl⟩:=Zt.shape;obtain⟨_,_,_,rfl⟩:=Zu.shape;obtain⟨_,_,_,rfl⟩:=Zv.shape;obtain⟨_,_,_,rfl⟩:=OT.shape
    rfl
   refine FE (n:=5) (cs:=[sv,bv,dv,av,mv]) B2T rfl rfl one fun HZ zz BZ2 tn=>?_;rw[hQ];have K0T:af (fun _=>False) H T:=gg.trans' OR fun q hq h=>by omega
   refine⟨⟨sv,bv,dv,av,mv,ms,rfl,Xc.ai tn fun q hq e=>?_,Zt.ai tn fun q hq e=>?_,Zu.ai tn fun q hq e=>?_,Zv.ai tn fun q hq e=>?_,OT.ai tn fun q hq e=>?_,MT.ai tn fun x hx q hq e=>?_,?_,?_,?_,?_⟩,K0T.trans' tn fun q hq e=>by omega⟩
   ·have:=oS q hq;omega
   ·have:=oB q hq;omega
   ·have:=oD q hq;omega
   ·have:=TP q hq;omega
   ·have:=oT q hq;omega
   ·have:=(omT x hx q hq).1;omega
   ·intro c hc q hq;simp only[List.mem_cons,List.not_mem_nil,or_false]at hc;rcases hc with rfl|rfl|rfl|rfl|rfl
    ·have:=oS q hq;omega
    ·have:=oB q hq;omega
    ·have:=oD q hq;omega
    ·have:=TP q hq;omega
    ·have:=oT q hq;omega
   ·intro x hx q hq;have:=(omT x hx q hq).1;omega
   ·intro c hc q hq hs;have:=oS q hs;simp only[List.mem_cons,List.not_mem_nil,or_false]at hc;rcases hc with rfl|rfl|rfl|rfl
    ·have:=oB q hq;omega
    ·have:=oD q hq;omega
    ·have:=TP q hq;omega
    ·have:=oT q hq;omega
   ·intro x hx q hq hs;have:=oS q hs;have:=(omT x hx q hq).1;omega
structure iI (H:Hp) (vs:List Value) (ms:List UInt64):Prop where
 len:vs.length=ms.length
 at_:∀i (h:i<vs.length) (h':i<ms.length),aQ H (.agg #[vs[i]]) (bt ms[i])
theorem iI.ai {ms:List UInt64} (h:iI H vs ms) (hk:af W H H') (hw:∀x∈vs,∀q,aT x q->¬W q):iI H' vs ms:=
 ⟨h.len,fun i h1 h2=>(h.at_ i h1 h2).ai hk fun q hq=>hw _ (List.getElem_mem h1) q hq⟩
theorem iI.aj {ms:List UInt64} (h:iI H vs ms) (hk:af (fun _=>False) H H'):iI H' vs ms:=h.ai hk fun _ _ _ _ h=>h
theorem iI.snoc {ms:List UInt64} (h:iI H vs ms) {x:Value} {y:UInt64} (h2:aQ H (.agg #[x]) (bt y)):iI H (vs++[x]) (ms++[y]):=by
 refine⟨by simp[h.len],fun i hi oh=>?_⟩
 by_cases e:i<vs.length
 ·rw[List.getElem_append_left e,List.getElem_append_left (by rw[<-h.len];exact e)];exact h.at_ i e (by rw[<-h.len];exact e)
 ·have mU:i=vs.length:=by simp at hi;omega
  subst mU;have e1:(vs++[x])[vs.length]=x:=by simp
  have e2:(ms++[y])[vs.length]'oh=y:=by
   have:=h.len;simp[this]
  rw[e1,e2];exact h2
def DF (C:Nat) (H:Hp) (v:Value) (ms:List UInt64):Prop:=∃vs,bq H v vs/\iI H vs ms/\(∀q,ax v q->C<=q)/\∀x∈vs,∀q,aT x q->C<=q/\¬ax v q
theorem DF.aj {ms:List UInt64} (h:DF C H v ms) (hk:af (fun _=>False) H H'):DF C H' v ms:=by
 obtain⟨vs,h1,h2,h3⟩:=h;exact⟨vs,h1.ai hk (by simp),h2.aj hk,h3⟩
def qK (P:Program) (k:FuncId):Prop:=∀(r:dX) (v:Value) (H:Hp),mY H v r->an P k #[v] H fun x H'=>∃fv lv mv uv,x=.tuple #[fv,lv,mv,uv]/\se H.size H' fv (dt r)/\DF H.size H' lv (bf r)/\c9 H' mv (dt r)/\aO H' uv (cN (bf r))/\af (fun _=>False) H H'
def FY (P:Program) (k:FuncId):Prop:=∀(r:dX) (v:Value) (H:Hp),mY H v r->an P k #[v] H fun x H'=>∃C fv lv mv uv,x=.tuple #[fv,lv,mv,uv]/\H.size<=C/\se C H' fv (dt r)/\(∀q,ax lv q->q<C)/\DF H.size H' lv (bf r)/\c9 H' mv (dt r)/\aO H' uv (cN (bf r))/\af (fun _=>False) H H'
theorem Lo (r:dX):O0 (dt r):=by
 have h:=(DB r).lim;unfold iQ at h;exact⟨by omega,by omega,by omega,by omega,by omega⟩
theorem Lp (hk:al P k (tq ι) tt 1) (hm:pj P (ι.f 292)) (hu:jS P (ι.f 295)) (hr:gG P (ι.f 283)) (hf:mE P (ι.f 299)):FY P k:=by
 intro r v H hv;have pV:=hv;obtain⟨hn,ro,be,di,sa,mo,el,rfl,hro,Zs,TN,R8,hmo,hel⟩:=hv;refine qI fun Q hQ=>?_;refine ah hk (args:=[_]) (by simp) ?_;unfold tq tt kA kB kC kD ke kH kK kM kO kR kV kW kX kY kZ;simp only[go_sem,Za,Zb];refine ay fun H1 b1 e1 z1 B1 K1=>?_;have bQ:Bl H1 b1 [.int .u8 (r.n:Int),ro,be,di,sa,mo,el]:=B1;simp only[go_sem,Za,Zb];refine ay fun H2 b2 e2 z2 B2 K2=>?_;have km:Bl H2 b2 [.slice none 0 0,.slice none 0 0,.slice none 0 0,.slice none 0 0,.slice none 0 0]:=B2;simp only[go_sem,Za,Zb];refine ay fun H3 b4 e3 z3 B3 K3=>?_;have xc:Bl H3 b4 [.slice none 0 0,.slice none 0 0,.slice none 0 0,.slice none 0 0,.slice none 0 0]:=B3;have gg:=(K1.trans K2).trans K3;have lF:=K2.trans K3;have kj:=lF.bl bQ (by simp);have hb1:b1<b2:=by have:=bQ.lt;omega
 have hb2:b2<b4:=by have:=B2.lt;omega
 simp only[go_sem,Za,Zb,kj.aM 7 rfl];refine(hm r _ H3 (pV.aj gg)).mono ?_;rintro w H4 ⟨hw,fw,K4⟩;have hw0:=hw;obtain⟨ws,wb,wd,wa,wm,rfl,w1,w2,w3,w4,w5⟩:=hw;have one:([ws,wb,wd,wa,wm].all fun v=>v.oneCell')=true:=by
  have q1:=aI w1.aq;have q2:=aI w2.aq;have q3:=aI w3.aq;have q4:=aI w4.aq;have q5:=aI w5.aq;simp[q1,q2,q3,q4,q5]
 rw[ae];simp only[go_sem,Za,Zb];refine aN [ws,wb,wd,wa,wm] (by rfl) rfl rfl one fun H5 b6 e5 z5 B5 K5=>?_;have K35:=K4.trans K5;have Pe:=gg.trans K35;have Mz:=K35.bl kj (by simp);simp only[go_sem,Za,Zb,Mz.aM 7 rfl,B5.aM 5 rfl];refine(hu r _ _ H5 (pV.aj Pe) (hw0.aj K5)).mono ?_;rintro uv H6 ⟨OU,oU,K6⟩;have Fy:=Pe.trans K6;have hn5:=nC r;have nQ:(cN (bf r)).length=jR r:=by rw[aH,fo]
 rw[ae];simp only[go_sem,Za,Zb,ae,OU.sl.aq,OU.sl.len,nQ];refine aD (jR r) [19,10,8,18] rfl rfl (by omega) (by rfl) (by rfl) (fun i g A=>∃lv vs,g 8=lv/\bq A lv vs/\iI A vs ((bf r).take i)/\(∀q,ax lv q->H6.size<=q)/\(∀x∈vs,∀q,aT x q->H6.size<=q/\¬ax lv q)/\af (fun _=>False) H6 A) ⟨_,[],by simp only[go_sem,Za,Zb,ae],bq.nil _,⟨by simp,fun i h=>by simp at h⟩,fun q h=>h.elim,fun x h=>by simp at h,af.refl _ _⟩ ?_ ?_
 ·rintro i g A hi gi gn ⟨lv,vs,g8,OA,RA,oA,rA,KA⟩;simp only[go_sem,Za,Zb,ae]at gi gn g8;have sA:=KA.size;have uA:=OU.sl.ai KA (by simp);have R0:i<(bf r).length:=by rw[fo];exact hi
  obtain⟨ub,uo,uc,hue,huc,hcell⟩:=uA.cells (by intro e;rw[e]at nQ;simp at nQ;omega);have hci:=hcell i (by rw[nQ];exact hi);rw[dT _ _ R0]at hci;rw[nQ]at hue;have hvl:vs.length=i:=by rw[RA.len,List.length_take];omega
  obtain⟨x,hx⟩:∃x,x=(bf r)[i]:=⟨_,rfl⟩
  have hxd:(bf r).getD i 0=x:=by rw[List.getD_eq_getElem?_getD,List.getElem?_eq_getElem R0,hx];rfl
  rw[hxd]at hci;simp only[go_sem,Za,Zb,ae,gi,hue,ak,hci];refine⟨by omega,(hr x A).mono ?_⟩;rintro rv A1 ⟨⟨u,W,rfl,hV⟩,rf,Pg⟩;have sA1:=Pg.size;rw[ae];simp only[go_sem,Za,Zb];refine aF fun A2 bb eb zb BB KB=>?_;have BB':Bl A2 bb [u]:=BB;simp only[go_sem,Za,Zb,ae,g8];have hu1:bO #[u]:=hV.sl.one;refine gU (OA.ai (Pg.trans KB) (by simp)) (aO.bl BB' 0 1 1 (by omega) (by simp)) hu1 rfl (by unfold maxLen;simp;omega) (by simp;omega) fun v' A3 O3 K3 o3=>?_;have k3:af (fun q=>H6.size<=q) A2 A3:=K3.mono fun q _ h=>oA q h;have hown:∀q,ax lv q->q<A.size:=fun q hq=>OA.bj hq;have hus:∀q,aT u q->q<A1.size:=fun q hq=>(aQ.bj (x:=.agg #[u]) ⟨u,W,rfl,hV⟩ (k:=q) hq)
  have hvs:∀z∈vs,∀q,aT z q->q<A.size:=fun z hz q hq=>by
   obtain⟨j,hj,rfl⟩:=List.getElem_of_mem hz;exact(RA.at_ j hj (by rw[<-RA.len];exact hj)).bj (k:=q) hq
  simp only[go_sem,Za,Zb,ae];refine⟨v',vs++[u],rfl,O3,?_,fun q hq=>?_,fun z hz q hq=>?_,((KA.trans Pg).trans KB).trans' k3 fun q hq h=>by omega⟩
  ·rw[cW R0,<-hx];refine((RA.aj (Pg.trans KB)).ai K3 fun z hz q hq=>(rA z hz q hq).2).snoc ((aQ.aj ⟨u,W,rfl,hV⟩ KB).ai K3 fun q hq h=>?_);have:=rf q hq;have:=hown q h;omega
  ·rcases o3 q hq with h|h
   ·exact oA q h
   ·omega
  ·rcases List.mem_append.1 hz with hz|hz
   ·refine⟨(rA z hz q hq).1,fun h=>?_⟩;rcases o3 q h with h|h
    ·exact(rA z hz q hq).2 h
    ·have:=hvs z hz q hq;omega
   ·simp only[List.mem_singleton]at hz;subst hz;have h1:=rf q hq;have h2:=hus q hq;refine⟨by omega,fun h=>?_⟩;rcases o3 q h with h|h
    ·have:=hown q h;omega
    ·omega
 ·rintro g A gi ⟨lv,vs,g8,OA,RA,oA,rA,KA⟩;simp only[go_sem,Za,Zb,ae]at g8;rw[List.take_of_length_le (by rw[fo];omega)]at RA;have sA:=KA.size;have Zw:=K6.trans KA;have B5A:=Zw.bl B5 (by simp);have Xe:af (fun _=>False) H2 A:=(K3.trans K35).trans Zw;have K3A:af (fun _=>False) H3 A:=K35.trans Zw;have Xf:=Xe.bl km (by simp);have B4A:=K3A.bl xc (by simp);have hb4:b4<b6:=by have:=xc.lt;have:=K4.size;omega
  simp only[go_sem,Za,Zb,ae];refine bo (fun q=>q=b2\/q=b4) ?_;simp only[go_sem,Za,Zb,ae,B5A.aM 5 rfl,g8];have rw0:=hw0.aj (K5.trans Zw);refine⟨by omega,by omega,(hf (dt r) _ A rw0 (Lo r)).mono ?_⟩;rintro fv X ⟨hfv,KX⟩;have afT:=hfv;obtain⟨fs,fb,fd,fa,fm,ms,rfl,f1,f2,f3,f4,f5,f6,f7,f8,f9,f10⟩:=hfv;have aey:([fs,fb,fd,fa,fm].all fun v=>v.oneCell')=true:=by
   obtain⟨_,_,_,rfl⟩:=f1.shape;obtain⟨_,_,_,rfl⟩:=f2.shape;obtain⟨_,_,_,rfl⟩:=f3.shape;obtain⟨_,_,_,rfl⟩:=f4.shape;obtain⟨_,_,_,rfl⟩:=f5.shape
   rfl
  have s3:=K3A.size;have s0A:H.size<=A.size:=by have:=gg.size;omega
  have B2X:=KX.bl Xf (by simp);have B4X:=KX.bl B4A (by simp);have hbX:b4<X.size:=B4X.lt;have B2Y:=B2X.aB 0 [fs,fb,fd,fa,fm];have ky:af (fun q=>q=b2) X (aB X ⟨b2,0,none⟩ [fs,fb,fd,fa,fm]):=(af.refl _ _).aB _ (.inl rfl);have B4Y:=ky.bl B4X (by omega);have B4Z:=B4Y.aB 0 [ws,wb,wd,wa,wm];have kz:af (fun q=>q=b4) (aB X ⟨b2,0,none⟩ [fs,fb,fd,fa,fm]) (aB (aB X ⟨b2,0,none⟩ [fs,fb,fd,fa,fm]) ⟨b4,0,none⟩ [ws,wb,wd,wa,wm]):=(af.refl _ _).aB _ (.inl rfl);have B2Z:=kz.bl B2Y (by omega);have aez:Bl (aB (aB X ⟨b2,0,none⟩ [fs,fb,fd,fa,fm]) ⟨b4,0,none⟩ [ws,wb,wd,wa,wm]) b2 [fs,fb,fd,fa,fm]:=B2Z;have aeA:Bl (aB (aB X ⟨b2,0,none⟩ [fs,fb,fd,fa,fm]) ⟨b4,0,none⟩ [ws,wb,wd,wa,wm]) b4 [ws,wb,wd,wa,wm]:=B4Z;have kk:af (fun q=>q=b2\/q=b4) X (aB (aB X ⟨b2,0,none⟩ [fs,fb,fd,fa,fm]) ⟨b4,0,none⟩ [ws,wb,wd,wa,wm]):=(ky.mono fun q _ e=>.inl e).trans (kz.mono fun q _ e=>.inr e);have hlow:∀q,H3.size<=q->¬(q=b2\/q=b4):=fun q hq h=>by have:=xc.lt;omega
  have s36:H3.size<=H6.size:=by have:=K35.size;have:=K6.size;omega
  simp only[go_sem,Za,Zb,ae,B2X.bM (o:=0) (n:=5) (by simp),B4Y.bM (o:=0) (n:=5) (by simp),aez.aM 5 rfl,aeA.aM 5 rfl];refine⟨KX.any,bd aey,ky.mono fun q _ e=>.inl e,bd one,kz.mono fun q _ e=>.inr e,?_⟩;rw[hQ];have pres:∀c∈[fs,fb,fd,fa,fm],∀q,ax c q->¬(q=b2\/q=b4):=fun c hc q hq=>hlow q (by have:=f7 c hc q hq;omega);refine⟨A.size,_,lv,_,uv,rfl,s0A,⟨fs,fb,fd,fa,fm,ms,rfl,f1.ai kk (pres _ (by simp)),f2.ai kk (pres _ (by simp)),f3.ai kk (pres _ (by simp)),f4.ai kk (pres _ (by simp)),f5.ai kk (pres _ (by simp)),f6.ai kk fun x hx q hq=>hlow q (by have:=f8 x hx q hq;omega),f7,f8,f9,f10⟩,fun q hq=>OA.bj hq,⟨vs,(OA.ai KX (by simp)).ai kk fun q hq=>hlow q (by have:=oA q hq;omega),(RA.aj KX).ai kk fun x hx q hq=>hlow q (by have:=(rA x hx q hq).1;omega),fun q hq=>by have:=oA q hq;have:=Fy.size;omega,fun x hx q hq=>⟨by have:=(rA x hx q hq).1;have:=Fy.size;omega,(rA x hx q hq).2⟩⟩,?_,?_,?_⟩
  ·exact(rw0.aj KX).ai kk fun q hq=>hlow q (by have:=fw q hq;omega)
  ·exact((OU.sl.ai KA (by simp)).ai KX (by simp)).ai kk fun q hq=>hlow q (by have:=oU q (OU.aT hq);have:=K35.size;omega)
  ·exact((Fy.trans KA).trans KX).trans' kk fun q hq h=>by omega
theorem Pj (hk:al P k (tq ι) tt 1) (hm:pj P (ι.f 292)) (hu:jS P (ι.f 295)) (hr:gG P (ι.f 283)) (hf:mE P (ι.f 299)):qK P k:=by
 intro r v H hv;refine(Lp hk hm hu hr hf r v H hv).mono ?_;rintro x H' ⟨C,fv,lv,mv,uv,rfl,hC,⟨s,b,d,a,m,ms,rfl,p1,p2,p3,p4,p5,p6,p7,p8,p9,p10⟩,-,hL,hM,hU,K⟩;exact⟨_,lv,mv,uv,rfl,⟨s,b,d,a,m,ms,rfl,p1,p2,p3,p4,p5,p6,fun c hc q hq=>Nat.le_trans hC (p7 c hc q hq),fun x hx q hq=>Nat.le_trans hC (p8 x hx q hq),p9,p10⟩,hL,hM,hU,K⟩
end Go.Mg
namespace Go.Mg
open Go Go.RowKit
def zP (ι:aG):S:=
 kY [kC 4 (.int .i64 0)] (.seq (kY [kA 6 0,kV 7 (.m (.lenl (.t 6))),kC 8 (.int .i64 0)] (.blk 0 (.loop (kY [kH 9 8 7] (.seq (.ite (.v 9) .skip (.exit 0)) (.seq (.blk 1 (kY [kA 10 8,kB 5 10] (kY [kA 11 1,kA 12 0,kA 13 5,kI 14 2 12 13,kN 15 2 14,.e (.v 16) (.callv (.t 11) [.t 15])] (.ite (.v 16) (kY [kA 17 5,kB 4 17] .ret) .skip)))) (.reg [ke 18 8,kB 8 18]))))))) (kY [kC 4 (.int .i64 (-1))] .ret))
def zQ:List RV:=[.t 4]
def FZ (ι:aG):S:=
 kY [kC 4 (.bool false)] (kY [kA 5 0,kA 6 1,.e (.t 7) (.call (ι.f 301) [.t 5,.t 6]),kU 8 (.cm .geq .i64 (.t 7) (.c (.int .i64 0))),kB 4 8] .ret)
def F0:List RV:=[.t 4]
def F1 (ι:aG):S:=
 kY [kC 4 (.bool false)] (kY [kA 5 0,kA 6 1,.e (.t 7) (.call (ι.f 303) [.t 5,.t 6]),kU 8 (.cm .geq .i64 (.t 7) (.c (.int .i64 0))),kB 4 8] .ret)
def F3:List RV:=[.t 4]
def F4 (ι:aG):S:=
 kY [kR 2 (ι.t 297) 0,kC 3 (.bool false)] (kY [kG 4 0 2,kD 5 4,kG 6 0 1,kD 7 6,kU 8 (.sc .eql (.t 5) (.t 7)),kB 3 8] .ret)
def F5:List RV:=[.t 3]
def vf (ι:aG):S:=
 kY [.e (.v 2) (.new (ι.t 128) #[kZ])] (kY [kA 5 0,kU 6 (.m (.mx (.t 5) (.c (.int .i64 0)))),kU 7 (.m (.mn (.t 6) (.c (.int .i64 4096)))),kB 0 7] (kY [kA 8 0,kU 9 (.ar .add .i64 (.t 8) (.c (.int .i64 63))),kU 10 (.dv .quo .i64 (.t 9) (.c (.int .i64 64))),.e (.t 11) (.qf (ι.t 28) 1 8 #[.int .u64 0] (.t 10) (.t 10)),kB 3 11] (.seq (kY [kA 12 3,kV 13 (.m (.lenl (.t 12))),kC 14 (.int .i64 0)] (.blk 0 (.loop (kY [kH 15 14 13] (.seq (.ite (.v 15) .skip (.exit 0)) (.seq (.blk 1 (kY [kA 16 14,kB 4 16] (.reg [kA 17 3,kA 18 4,kI 19 1 17 18,.e .no (.st (.t 19) (.c (.int .u64 18446744073709551615)))]))) (.reg [ke 20 14,kB 14 20]))))))) (.seq (kY [kA 21 0,kU 22 (.dv .rem .i64 (.t 21) (.c (.int .i64 64))),kV 23 (.cm .gtr .i64 (.t 22) (.c (.int .i64 0)))] (.ite (.v 23) (.reg [kA 24 3,kA 25 3,kL 26 25,kU 27 (.ar .sub .i64 (.t 26) (.c (.int .i64 1))),kA 28 0,kU 29 (.dv .rem .i64 (.t 28) (.c (.int .i64 64))),kU 30 (.sh .shl .u64 (.c (.int .u64 1)) (.t 29)),kU 31 (.ar .sub .u64 (.t 30) (.c (.int .u64 1))),kI 32 1 24 27,.e .no (.st (.t 32) (.t 31))]) .skip)) (kY [kA 33 3,kU 34 (.m (.bld #[kZ] [(0,(1,.t 33))])),.e .no (.stn 1 (.v 2) (.t 34))] .ret)))))
def vg:List RV:=[.cn 2 1]
def vh (P:Program) (k:FuncId):Prop:=∀(s:List UInt8) (H:Hp),an P k #[sV s] H fun r H'=>r=.bool (cK s)/\af (fun _=>False) H H'
variable {P:Program} {ι:aG} {k:FuncId} {α:Type}
theorem F6 (hk:al P k (lM ι) lN 1) (h:qD P k):vh P k:=by
 intro s H
 by_cases hs:s.length<=1000000
 ·exact h s H hs
 refine ah hk (args:=[_]) (by simp) ?_;unfold lM lN kA kB kF kC ke kH kS kT kU kV kW kX kY;have e0:((s.length:Int)==0)=false:=by
  apply beq_eq_false_iff_ne.2;omega
 have e1:decide ((s.length:Int)>12)=true:=decide_eq_true (by omega);have hv:cK s=false:=by
  have:¬s.length<=12:=by omega
  simp[cK,this]
 simp only[go_sem,Za,Zb,ae,sV,iB,e0,e1,hv];exact af.refl _ _
def TT {α:Type} (P:Program) (enc:α->List Value) (q:α->Bool) (l:List α) (g:FuncId) (fi ca:Array Value) (H:Hp):Prop:=bS P g=true/\∀x∈l,∀A,af (fun _=>False) H A->an P g (fi++#[.agg (enc x).toArray]++ca) A fun r A'=>r=.bool (q x)/\af (fun _=>False) A A'
def sf {α:Type} (q:α->Bool) (l:List α):Int:=match l.findIdx? q with|some i=>(i:Int)|none=>-1
def lP {α:Type} (enc:α->List Value) (P:Program) (k:FuncId):Prop:=∀(l:List α) (q:α->Bool) (v:Value) (g:FuncId) (fi ca:Array Value) (H:Hp),bk enc 2 H v l->l.length<=1000000->TT P enc q l g fi ca H->an P k #[v,.func (.func g) fi ca] H fun r H'=>r=.int .i64 (sf q l)/\af (fun _=>False) H H'
theorem Jm {enc:α->List Value} (he:∀x,(enc x).length=2) (hk:al P k (zP ι) zQ 2):lP enc P k:=by
 intro l q v g fi ca H hv hl ⟨hg,hq⟩;refine qI fun Q hQ=>?_;refine ah hk (args:=[_,_]) (by simp) ?_;unfold zP zQ kA kB kC ke kH kI kN kV kY;simp only[go_sem,Za,Zb,ae,hv.aq,hv.len];refine aD l.length [9,5,16,4,8] rfl rfl (by omega) (by rfl) (by rfl) (fun i g A=>(∀j<i,∀hj:j<l.length,q l[j]=false)/\af (fun _=>False) H A) ⟨fun j h=>by omega,af.refl _ _⟩ ?_ ?_
 ·rintro i f A hi gi gn ⟨hno,KA⟩;simp only[go_sem,Za,Zb,ae]at gi gn;obtain⟨pb,po,pc,gz,nz,hld⟩:=(hv.aj KA).elem he hi;have:=hq l[i] (List.getElem_mem hi) A KA;simp only[go_sem,Za,Zb,ae,gi,gz,ak,aC,hld,hg];refine⟨by omega,this.mono ?_⟩;rintro r A1 ⟨rfl,K1⟩;rw[ae];simp only[go_sem,Za,Zb,ae];refine yp (fun hb=>?_) (fun hb=>?_)
  ·rw[hQ];have:l.findIdx? q=some i:=List.findIdx?_eq_some_iff_getElem.2 ⟨hi,hb,fun j hj=>by rw[hno j hj (by omega)];simp⟩;refine⟨?_,KA.trans K1⟩;simp only[sf,this]
  ·refine⟨fun j hj EB=>?_,KA.trans K1⟩
   by_cases e:j=i
   ·subst e;exact hb
   ·exact hno j (by omega) EB
 ·rintro f A gi ⟨hno,KA⟩;simp only[go_sem,Za,Zb,ae];rw[hQ];have:l.findIdx? q=none:=by
   rw[List.findIdx?_eq_none_iff];intro x hx;obtain⟨j,hj,rfl⟩:=List.getElem_of_mem hx;exact hno j hj hj
  refine⟨?_,KA⟩;simp only[sf,this]
def jj {α:Type} (enc:α->List Value) (P:Program) (k:FuncId):Prop:=∀(l:List α) (q:α->Bool) (v:Value) (g:FuncId) (fi ca:Array Value) (H:Hp),bk enc 2 H v l->l.length<=1000000->TT P enc q l g fi ca H->an P k #[v,.func (.func g) fi ca] H fun r H'=>r=.bool (l.any q)/\af (fun _=>False) H H'
theorem qL (q:α->Bool) (l:List α):decide (sf q l≥0)=l.any q:=by
 unfold sf
 cases h:l.findIdx? q with
 |none=>
  rw[List.findIdx?_eq_none_iff]at h;have:l.any q=false:=by rw[List.any_eq_false];intro x hx;rw[h x hx];simp
  rw[this];rfl
 |some i=>
  obtain⟨hi,h1,_⟩:=List.findIdx?_eq_some_iff_getElem.1 h;have:l.any q=true:=List.any_eq_true.2 ⟨_,List.getElem_mem hi,h1⟩;rw[this];simp
theorem TU {enc:α->List Value} (hk:al P k (FZ ι) F0 2) (hi:lP enc P (ι.f 301)):jj enc P k:=by
 intro l q v g fi ca H hv hl hq;refine ah hk (args:=[_,_]) (by simp) ?_;unfold FZ F0 kA kB kC kU kY;simp only[go_sem,Za,Zb,ae];refine(hi l q v g fi ca H hv hl hq).mono ?_;rintro r A ⟨rfl,K⟩;rw[ae];simp only[go_sem,Za,Zb,ae,qL];exact K
theorem TV {enc:α->List Value} (hk:al P k (F1 ι) F3 2) (hi:lP enc P (ι.f 303)):jj enc P k:=by
 intro l q v g fi ca H hv hl hq;refine ah hk (args:=[_,_]) (by simp) ?_;unfold F1 F3 kA kB kC kU kY;simp only[go_sem,Za,Zb,ae];refine(hi l q v g fi ca H hv hl hq).mono ?_;rintro r A ⟨rfl,K⟩;rw[ae];simp only[go_sem,Za,Zb,ae,qL];exact K
theorem toList_ba (a b:List UInt8):((⟨a.toArray⟩:ByteArray).toList==(⟨b.toArray⟩:ByteArray).toList)=decide (a=b):=by
 have e:∀x:List UInt8,(⟨x.toArray⟩:ByteArray).toList=x:=fun x=>by rw[ByteArray.toList_eq]
 rw[e,e];rw[Bool.eq_iff_iff];simp
def vi (P:Program) (k:FuncId):Prop:=bS P k=true/\∀(x y:wO) (b:Nat) (H:Hp),Bl H b (cj y)->an P k #[.agg (cj x).toArray,.pointer (some ⟨b,0,none⟩)] H fun r H'=>r=.bool (decide (x.1=y.1))/\af (fun _=>False) H H'
theorem TW (hk:al P k (F4 ι) F5 2):vi P k:=by
 refine⟨hk.body,fun x y b H hB=>?_⟩;refine ah hk (args:=[_,_]) (by simp) ?_;unfold F4 F5 kB kC kD kG kR kU kY;simp only[go_sem,Za,Zb];refine ay fun H1 b1 e1 z1 B1 K1=>?_;have bQ:Bl H1 b1 (cj x):=B1;have c0:cell H1 ⟨b1,0,none⟩=some (sV x.1):=by rw[bQ.cell];rfl
 have c1:cell H1 ⟨b,0,none⟩=some (sV y.1):=by rw[(K1.bl hB (by simp)).cell];rfl
 rw[sV]at c0 c1;simp only[go_sem,Za,Zb,ae,c0,c1,toList_ba];exact K1
theorem bk.abA {enc:α->List Value} {k:Nat} {H:Hp} {v:Value} {l:List α} (hk:∀x,(enc x).length=k) (h:bk enc k H v l) {n:Nat} (hn:n<=l.length):bk enc k H (wL v k none (some (n:Int))) (l.take n):=by
 rcases h with⟨a,c,rfl,rfl⟩|⟨b,o,c,hne,rfl,h0,C,T,z,h1,h2,h3⟩
 ·have:n=0:=by simpa using hn
  subst this;exact .inl ⟨_,c -0,rfl,by simp⟩
 ·have hl:(l.take n).length=n:=by simp;omega
  have hm:n*k<=l.length*k:=Nat.mul_le_mul hn (Nat.le_refl _);have:=bk.at_ (enc:=enc) (k:=k) (l:=l.take n) (o:=o) (c:=c) (by omega) h1 (by rw[hl];omega) (by
   rw[hl];rw[<-yv hk l n hn,<-h3];rw[List.take_take,Nat.min_eq_left hm])
  rw[hl]at this;simp[wL,nP,Cm,ft]at this⊢;exact this
def eQ:UInt64:=18446744073709551615
theorem Jn (k:Nat) (hk:k<64):bt eQ k=true:=by
 have:∀m:Fin 64,bt eQ m.val=true:=by decide
 exact this ⟨k,hk⟩
def DG (k:Nat):UInt64:=UInt64.ofNat (2^k -1)
theorem TX (k j:Nat) (hk:k<64):bt (DG k) j=decide (j<k):=by
 have e:(DG k).toNat=2^k -1:=by
  unfold DG;rw[UInt64.toNat_ofNat'];apply Nat.mod_eq_of_lt;have:2^k<=2^63:=Nat.pow_le_pow_right (by omega) (by omega);omega
 unfold bt;rw[e,Nat.testBit_two_pow_sub_one]
def vj (n:Nat):List UInt64:=if n % 64>0 then(List.replicate ((n+63)/64) eQ).set ((n+63)/64 -1) (DG (n % 64))else List.replicate ((n+63)/64) eQ
theorem DH (n:Nat):(vj n).length=(n+63)/64:=by unfold vj;split<;>simp
theorem DI (n i:Nat):bY (vj n) i=decide (i<n):=by
 have hi:i % 64<64:=Nat.mod_lt _ (by omega);have rep:∀m j,(List.replicate m eQ).getD j 0=if j<m then eQ else 0:=fun m j=>by
  rw[List.getD_eq_getElem?_getD,List.getElem?_replicate];split<;>rfl
 unfold vj bY
 split
 ·next h=>
  have hm:0<(n+63)/64:=by omega
  rw[List.getD_eq_getElem?_getD,List.getElem?_set]
  by_cases e:(n+63)/64 -1=i/64
  ·rw[if_pos e,if_pos (by simp;omega),Option.getD_some,TX _ _ (by omega)];rw[decide_eq_decide];omega
  ·rw[if_neg e,<-List.getD_eq_getElem?_getD,rep]
   split
   ·next h2=>rw[Jn _ hi,eq_comm,decide_eq_true_iff];omega
   ·next h2=>rw[dS,eq_comm,decide_eq_false_iff_not];omega
 ·next h=>
  rw[rep]
  split
  ·next h2=>rw[Jn _ hi,eq_comm,decide_eq_true_iff];omega
  ·next h2=>rw[dS,eq_comm,decide_eq_false_iff_not];omega
def jT (P:Program) (k:FuncId):Prop:=∀(n:Nat) (H:Hp),n<=4096->an P k #[.int .i64 n] H fun r H'=>aQ H' r (fun i=>decide (i<n))/\af (fun _=>False) H H'/\∀q,jc r q->H.size<=q
theorem abB (k:Nat) (hk:k<64):IntKind.u64.wrap (IntKind.u64.wrap (1*2^k) -1)=((DG k).toNat:Int):=by
 have:∀m:Fin 64,IntKind.u64.wrap (IntKind.u64.wrap (1*2^m.val) -1)=((DG m.val).toNat:Int):=by decide
 exact this ⟨k,hk⟩
theorem Lq (hk:al P k (vf ι) vg 1):jT P k:=by
 intro n H hn;refine qI fun Q hQ=>?_;refine ah hk (args:=[_]) (by simp) ?_;unfold vf vg kA kB kC ke kH kI kL kU kV kY kZ;simp only[go_sem,Za,Zb];refine ay fun H1 b1 e1 z1 B1 K1=>?_;have bQ:Bl H1 b1 [.slice none 0 0]:=B1;have m1:(if(0:Int)>(n:Int)then(0:Int)else(n:Int))=(n:Int):=if_neg (by omega);have m2:(if(4096:Int)<(n:Int)then(4096:Int)else(n:Int))=(n:Int):=if_neg (by omega);have w1:IntKind.i64.wrap ((n:Int)+63)=((n+63:Nat):Int):=by rw[IntWalk.i64_in _ (by omega)];omega
 have w2:IntKind.i64.wrap (((n+63:Nat):Int).tdiv 64)=(((n+63)/64:Nat):Int):=by
  have:((n+63:Nat):Int).tdiv 64=(((n+63)/64:Nat):Int):=rfl;rw[this,IntWalk.i64_in _ (by omega)]
 have hm:(n+63)/64<=maxLen:=by unfold maxLen;omega
 obtain⟨N,hN⟩:∃N,N=(n+63)/64:=⟨_,rfl⟩
 have afU:N<=64:=by omega
 have nQ:N<=maxLen:=by unfold maxLen;omega
 simp only[go_sem,Za,Zb,m1,m2,w1,w2,ak,kindOf,<-hN];refine⟨by decide,⟨by omega,by omega,by omega⟩,?_⟩;refine aF fun H2 b2 e2 z2 B2 K2=>?_;have km:Bl H2 b2 (List.replicate N (.int .u64 0)):=by rw[cT]at B2;exact B2
 have afV:b1<b2:=by have:=bQ.lt;omega
 simp only[go_sem,Za,Zb,ae];refine aD N [15,4,14] rfl rfl (by omega) (by rfl) (by rfl) (fun i g A=>Bl A b2 (cN (List.replicate i eQ++List.replicate (N -i) 0))/\af (fun q=>q=b2) H2 A) ⟨by rw[oI]at km;simpa using km,af.refl _ _⟩ ?_ ?_
 ·rintro i g A hi gi gn ⟨BA,KA⟩;simp only[go_sem,Za,Zb,ae]at gi gn;have hlen:(cN (List.replicate i eQ++List.replicate (N -i) 0)).length=N:=by rw[aH];simp;omega
  have hst:=BA.bu (o:=i) (by rw[hlen];exact hi);have BS:=BA.az i (.int .u64 18446744073709551615);have e64:(Value.int .u64 18446744073709551615)=.int .u64 (eQ.toNat:Int):=rfl;rw[e64,mz _ _ (by simp;omega)]at BS;have es:(List.replicate i eQ++List.replicate (N -i) 0).set i eQ=List.replicate (i+1) eQ++List.replicate (N -(i+1)) (0:UInt64):=by
   refine List.ext_getElem? fun j=>?_;rw[List.getElem?_set]
   by_cases hj:i=j
   ·subst hj;rw[if_pos rfl,if_pos (by simp;omega),List.getElem?_append_left (by simp),List.getElem?_replicate,if_pos (by omega)]
   ·rw[if_neg hj]
    by_cases hl:j<i
    ·rw[List.getElem?_append_left (by simpa using hl),List.getElem?_append_left (by simp;omega),List.getElem?_replicate,List.getElem?_replicate,if_pos hl,if_pos (by omega)]
    ·rw[List.getElem?_append_right (by simp;omega),List.getElem?_append_right (by simp;omega),List.getElem?_replicate,List.getElem?_replicate];simp only[List.length_replicate]
     split<;>split<;>first|rfl|omega
  rw[es]at BS;simp only[go_sem,Za,Zb,ae,gi,ak,hst];exact⟨by omega,BS,KA.az _ (.inl rfl)⟩
 ·rintro g A gi ⟨BA,KA⟩;rw[Nat.sub_self,List.replicate_zero,List.append_nil]at BA;have m3:((n:Int)).tmod 64=((n % 64:Nat):Int):=cg _ 64;have Ov:=(K2.any.trans KA).bl bQ (by omega);have sA:=KA.size;simp only[go_sem,Za,Zb,ae,m3];have fin:∀(W:List UInt64) (X:Hp),Bl X b2 (cN W)->W.length=N->(∀i,bY W i=decide (i<n))->(W=vj n)->af (fun q=>q=b2) A X->(bM X ⟨b1,0,none⟩ 1/\bO #[Value.slice (some ⟨b2,0,none⟩) N N])/\(aM (aB X ⟨b1,0,none⟩ [Value.slice (some ⟨b2,0,none⟩) N N]) (.pointer (some ⟨b1,0,none⟩)) 1).isSome=true/\Q (.agg ((aM (aB X ⟨b1,0,none⟩ [Value.slice (some ⟨b2,0,none⟩) N N]) (.pointer (some ⟨b1,0,none⟩)) 1).getD #[])) (aB X ⟨b1,0,none⟩ [Value.slice (some ⟨b2,0,none⟩) N N]):=fun W X hB hl hmem hW hK=>by
   have B1X:=hK.bl Ov (by omega);refine FE (n:=1) (cs:=[.slice (some ⟨b2,0,none⟩) N N]) B1X rfl rfl rfl fun HZ zz BZ KZ=>?_;rw[hQ];have hsl:aO HZ (.slice (some ⟨b2,0,none⟩) N N) (cN W):=by
    have:=aO.bl (KZ.bl hB (by omega)) 0 N N (Nat.le_refl _) (by rw[aH];omega);rw[List.drop_zero,List.take_of_length_le (by rw[aH];omega)]at this;exact this
   refine⟨⟨_,W,rfl,⟨hsl,by omega,?_,hmem⟩⟩,?_,?_⟩
   ·refine Can.lE fun hne=>⟨n -1,?_,?_⟩
    ·rw[hmem];exact decide_eq_true (by
      have:0<N:=by rw[<-hl];exact List.length_pos_iff.2 hne
      omega)
    ·omega
   ·exact((K1.trans K2).trans' (KA.trans hK) fun q hq e=>by have:=K1.size;omega).trans' KZ fun q hq e=>by omega
   ·intro q hq;have hq:q=b2/\_:=hq;have:=K1.size;omega
  by_cases hp:n % 64>0
  ·have d1:decide (((n % 64:Nat):Int)>0)=true:=decide_eq_true (by omega);have w4:IntKind.i64.wrap ((N:Int) -1)=((N -1:Nat):Int):=by rw[IntWalk.i64_in _ (by omega)];omega
   have hst:=BA.bu (o:=N -1) (by rw[aH];simp;omega);have BS:=BA.az (N -1) (.int .u64 ((DG (n % 64)).toNat:Int));rw[mz _ _ (by simp;omega)]at BS;have eW:(List.replicate N eQ).set (N -1) (DG (n % 64))=vj n:=by unfold vj;rw[if_pos hp,hN]
   rw[eW]at BS;simp only[go_sem,Za,Zb,ae,d1,w4,ak,abB (n % 64) (by omega),hst];refine⟨by decide,by decide,by omega,by omega,?_⟩;exact fin (vj n) _ BS (by rw[DH,hN]) (DI n) rfl ((af.refl _ _).az _ (.inl rfl))
  ·have d1:decide (((n % 64:Nat):Int)>0)=false:=decide_eq_false (by omega);have eW:List.replicate N eQ=vj n:=by unfold vj;rw[if_neg hp,hN]
   rw[eW]at BA;simp only[go_sem,Za,Zb,ae,d1];refine⟨by decide,?_⟩;exact fin (vj n) _ BA (by rw[DH,hN]) (DI n) rfl (af.refl _ _)
end Go.Mg

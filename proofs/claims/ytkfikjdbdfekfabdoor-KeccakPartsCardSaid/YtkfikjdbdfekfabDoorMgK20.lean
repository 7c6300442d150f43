/- Lemmas of ours. No conditions. -/
import Derived.Test.YtkfikjdbdfekfabDoorMgK21
import Derived.Test.YtkfikjdbdfekfabDoorMgW2
import Derived.Test.YtkfikjdbdfekfabDoorMgLib
open Nat renaming reduceEqDiff→Za,reduceAdd→Zb,reduceMul→Zc
open Int renaming reduceBEq→Zf,reduceBNe→Zg
set_option linter.all false
set_option maxRecDepth 100000
namespace Go.Mg
open Go Go.RowKit
def fx (ι:bh):S:=
 kY [kC 6 (.bool false)] (.seq (kY [kc 12 (kg (ι.f 21) []),kV 13 (.not (.t 12))] (.ite (.v 13) (kY [kC 6 (.bool false)] .ret) .skip)) (.seq (.dr (kW 14 (.mv (.v 0)) (kW 15 (.mv (.v 0)) (kW 16 (.m (.lens (.t 15))) (kW 17 (.m (.mn (.t 16) (.c (.int .i64 200)))) (kW 18 (.m (.slt (.t 14) .none (.some (.t 17)))) (kW 19 (.mv (.v 1)) (kW 21 (.mv (.v 2)) (ka 20 (kg (ι.f 18) [.t 19]) (ka 22 (kg (ι.f 18) [.t 21]) (kX 0 (.mv (.t 18)) (kX 1 (.mv (.t 20)) (kX 2 (.mv (.t 22)) .done))) .wnil) .wnil))))))))) (kY [kc 23 (kg (ι.f 55) []),kB 7 23] (kY [kA 24 7,kA 25 0,kc 26 (kg (ι.f 59) [.t 24,.t 25])] (kY [kA 27 7,kA 28 1,kc 29 (kg (ι.f 58) [.t 27,.t 28])] (kY [kA 30 7,kA 31 2,kc 32 (kg (ι.f 58) [.t 30,.t 31])] (kY [kA 33 7,kc 34 (kg (ι.f 60) [.t 33]),kc 35 (kg (ι.f 108) [.t 34]),kB 8 35] (kY [kA 36 8,kc 37 (kg (ι.f 115) [.t 36,.c (.int .i64 200)]),kA 38 8,kc 39 (kg (ι.f 114) [.t 38,.c (.int .i64 600)]),kA 40 8,kc 41 (kg (ι.f 114) [.t 40,.c (.int .i64 600)]),kB 9 37,kB 10 39,kB 11 41] (kY [kA 42 8,kc 43 (kg (ι.f 117) [.t 42]),kU 44 (.cm .eql .i64 (.t 43) (.c (.int .i64 0))),kF 45 44,kS 46 45 true 9,kS 47 45 true 0,kT 48 45 true (.sc .eql (.t 46) (.t 47)),kJ 49 45 48,kF 50 49,kS 51 50 true 9,kS 52 50 true 10,kS 53 50 true 11,.ge (.t 54) (.t 50) true (.dS (ι.t 65) 1 2 [.t 52,.t 53]),.ge (.t 55) (.t 50) true (kg (ι.f 63) [.t 51,.t 54]),kS 56 50 true 7,.ge (.t 57) (.t 50) true (kg (ι.f 60) [.t 56]),.ge (.t 58) (.t 50) true (kg (ι.f 14) [.t 57]),kT 59 50 true (.m (.eqa false .u8 32 (.t 55) (.t 58))),kJ 60 50 59,kF 61 60,kS 62 61 true 0,kS 63 61 true 1,kS 64 61 true 2,.ge (.t 65) (.t 61) true (.dS (ι.t 65) 1 2 [.t 63,.t 64]),.ge (.t 66) (.t 61) true (kg (ι.f 63) [.t 62,.t 65]),kS 67 61 true 9,kS 68 61 true 10,kS 69 61 true 11,.ge (.t 70) (.t 61) true (.dS (ι.t 65) 1 2 [.t 68,.t 69]),.ge (.t 71) (.t 61) true (kg (ι.f 63) [.t 67,.t 70]),kT 72 61 true (.m (.eqa false .u8 32 (.t 66) (.t 71))),kJ 73 61 72,kB 6 73] .ret)))))))))
def fy:List RV:=[.t 6]
theorem hE (l:List UInt8):∀x∈(w8 l).toArray,cb .u8 x:=by
 intro x hx;simp[w8]at hx;obtain⟨y,_,rfl⟩:=hx;rfl
theorem cO (m:Nat) (x r:List UInt8) (h:x.length<=m) (hm:m<=1000000):bf m (bd x++r,0)=(x,(r,0)):=by
 unfold bf;rw[if_neg (by simp),bd,List.append_assoc,mL _ (by omega)];simp only;rw[if_neg (by omega),if_neg (by simp),List.take_left,List.drop_left]
variable {x y:List UInt8}
theorem oG {H:Hp} {b:Nat} {vx vy:Value} (hB:Bl H b [vx,vy]) (hx:aC H vx (w8 x)) (hy:aC H vy (w8 y)):vA H (.slice (some ⟨b,0,none⟩) 2 2) [x,y]:=by
 refine⟨[vx,vy],aC.bl hB 0 2 2 (by omega) (by simp),rfl,fun i hi=>?_⟩;have:i=0\/i=1:=by simp at hi;omega
 rcases this with rfl|rfl
 ·exact hx
 ·exact hy
theorem ly (hx:x.length<=1000) (hy:y.length<=1000):Small [x,y]:=by
 refine⟨by simp,fun i hi=>?_⟩;have:i=0\/i=1:=by simp at hi;omega
 rcases this with rfl|rfl
 ·exact hx
 ·exact hy
theorem lz {P:Program} {ι:bh} {k:FuncId} (hk:ah P k (fx ι) fy 3) (ha:dA P ι (ι.f 21)) (hsh:fU P (ι.f 18)) (hn:dd P (ι.f 55)) (hst:bH P (ι.f 59)) (hb:bB P (ι.f 58)) (ho:de P (ι.f 60)) (hs:cz P ι (ι.f 14))
  (ht:cM P ι (ι.f 63)) (hrn:dJ P (ι.f 108)) (hrs:fw P (ι.f 115)) (hrb:di P (ι.f 114)) (hre:fv P (ι.f 117))
  (tag0 a0 b0:List UInt8) (va vb:Value) (H:Hp) (hG:aE ι H) (hva:aC H va (w8 a0)) (hvb:aC H vb (w8 b0)):ai P k #[.string ⟨tag0.toArray⟩,va,vb] H fun r H'=>r=.bool true/\ae (fun _=>False) H H':=by
 refine ag hk (args:=[_,_,_]) (by simp) ?_;unfold fx fy kA kB kF kC kJ kS kT kU kV kW kX ka kc kg kY;simp only[go_sem,zS,↓reduceIte,Za,Zb,Zc,reduceCtorEq,aa,zU,Zf,Zg];refine(ha _ hG).mono ?_;rintro r H1 ⟨rfl,K1⟩;have xj:(if(200:Int)<(tag0.length:Int)then(200:Int)else(tag0.length:Int))=((min tag0.length 200:Nat):Int):=by split<;>omega
 have htl:(tag0.take (min tag0.length 200)).length<=200:=by rw[List.length_take];omega
 simp only[go_sem,zS,↓reduceIte,Za,Zb,Zc,reduceCtorEq,aa,zU,Zf,Zg];refine eM (fun _=>False) ?_;simp only[go_sem,zS,↓reduceIte,Za,Zb,Zc,reduceCtorEq,aa,zU,Zf,Zg,oE,xj,aq,oF];refine And.intro (by omega) ?_;have xk:(tag0.take (min tag0.length 200)).length<=200:=htl;generalize tag0.take (min tag0.length 200)=tag at*;refine(hsh a0 va H1 (hva.ax K1 (by simp))).mono ?_;rintro sa X1 ⟨Sa,oa,rfl⟩;rw[iD];refine⟨ae.refl _ _,?_⟩;simp only[go_sem,zS,↓reduceIte,Za,Zb,Zc,reduceCtorEq,aa,zU,Zf,Zg];refine(hsh b0 vb X1 (hvb.ax K1 (by simp))).mono ?_;rintro sb X2 ⟨Sb,ob,rfl⟩;rw[iD];refine⟨ae.refl _ _,?_⟩;have la:(a0.take 600).length<=600:=by rw[List.length_take];omega
 have lb:(b0.take 600).length<=600:=by rw[List.length_take];omega
 have oA:∀q,cQ sa q->q<X2.size:=fun q hq=>Sa.nS hq;have oB:∀q,cQ sb q->q<X2.size:=fun q hq=>Sb.nS hq;generalize a0.take 600=a at*;generalize b0.take 600=b at*;obtain⟨ya,yc,rfl,-⟩:=Sa.mk;obtain⟨za,zc,rfl,-⟩:=Sb.mk;have eT:=cA tag (by omega);have eA:=cA a (by omega);have eB:=cA b (by omega);simp only[go_sem,zS,↓reduceIte,Za,Zb,Zc,reduceCtorEq,aa,zU,Zf,Zg];refine(hn X2).mono ?_;rintro r H2 ⟨rfl,W2,K2⟩;rw[aa];simp only[go_sem,zS,↓reduceIte,Za,Zb,Zc,reduceCtorEq,aa,zU,Zf,Zg];refine(hst _ _ _ tag H2 W2 (by simp;omega)).mono ?_;rintro r H3 ⟨rfl,W3,K3⟩;rw[List.nil_append]at W3;have s2:=K2.size;have uT:ae (fun _=>False) X2 H3:=K2.trans' K3 fun q hq e=>by omega
 rw[aa];simp only[go_sem,zS,↓reduceIte,Za,Zb,Zc,reduceCtorEq,aa,zU,Zf,Zg];refine(hb _ _ _ a _ H3 W3 (Sa.ax uT (by simp)) (fun q hq hf=>by
  have:=oA q hq;rcases hf with h|h<;>omega) (by omega)).mono ?_
 rintro r H4 ⟨rfl,W4,K4⟩;have s3:=uT.size;have uU:ae (fun _=>False) X2 H4:=uT.trans' K4 fun q hq e=>by rcases e with h|h<;>omega
 have s4:=uU.size;rw[aa];simp only[go_sem,zS,↓reduceIte,Za,Zb,Zc,reduceCtorEq,aa,zU,Zf,Zg];refine(hb _ _ _ b _ H4 W4 (Sb.ax uU (by simp)) (fun q hq hf=>by
  have:=oB q hq;rcases hf with(h|h)|h<;>omega) (by rw[List.length_append];omega)).mono ?_
 rintro r H5 ⟨rfl,W5,K5⟩;have xl:ae (fun _=>False) X2 H5:=uU.trans' K5 fun q hq e=>by rcases e with(h|h)|h<;>omega
 obtain⟨l,hl⟩:∃l,l=bd tag++bd a++bd b:=⟨_,rfl⟩
 rw[<-hl]at W5;have ll:l.length<=4000:=by rw[hl];simp only[List.length_append];omega
 rw[aa];simp only[go_sem,zS,↓reduceIte,Za,Zb,Zc,reduceCtorEq,aa,zU,Zf,Zg];refine(ho _ _ l H5 W5 (by omega)).mono ?_;rintro o6 H6 ⟨O6,xm,K6⟩;have uV:=xl.trans K6;rw[aa];simp only[go_sem,zS,↓reduceIte,Za,Zb,Zc,reduceCtorEq,aa,zU,Zf,Zg];refine(hrn l o6 H6 O6.sl (by omega)).mono ?_;rintro r H7 ⟨rb,FF,rfl,R7,nF,K7⟩;have xZ:=uV.trans K7;have x0:=R7.bound;have x4:H6.size<=rb:=by obtain⟨_,_,_,h,_⟩:=R7;exact nF rb h
 have s6:=uV.size;rw[aa];simp only[go_sem,zS,↓reduceIte,Za,Zb,Zc,reduceCtorEq,aa,zU,Zf,Zg];refine(hrs FF rb (l,0) 200 H7 R7 (by simp only;omega) (by omega)).mono ?_;rintro r H8 ⟨rfl,R8,K8⟩;have e8:bf 200 (l,0)=(tag,(bd a++bd b,0)):=by rw[hl,List.append_assoc];exact cO 200 tag _ (by omega) (by omega)
 rw[e8]at R8;rw[aa,e8];simp only[go_sem,zS,↓reduceIte,Za,Zb,Zc,reduceCtorEq,aa,zU,Zf,Zg];refine(hrb FF rb (bd a++bd b,0) 600 H8 R8 (by simp only[List.length_append];omega) (by omega)).mono ?_;rintro xv H9 ⟨O9,own9,R9,K9⟩;obtain⟨x1,x2,x3,rfl⟩:=O9.shape;have e9:bf 600 (bd a++bd b,0)=(a,(bd b,0)):=cO 600 a _ la (by omega);rw[e9]at O9 R9;rw[aa];simp only[go_sem,zS,↓reduceIte,Za,Zb,Zc,reduceCtorEq,aa,zU,Zf,Zg];refine(hrb FF rb (bd b,0) 600 H9 R9 (by simp only;omega) (by omega)).mono ?_;rintro yv HA ⟨OA,xn,RA,KA⟩;obtain⟨w1,w2,w3,rfl⟩:=OA.shape;have xo:bf 600 (bd b,0)=(b,([],0)):=by have:=cO 600 b [] lb (by omega);rwa [List.append_nil]at this
 rw[xo]at OA RA;rw[aa];simp only[go_sem,zS,↓reduceIte,Za,Zb,Zc,reduceCtorEq,aa,zU,Zf,Zg];refine(hre FF rb [] 0 HA RA).mono ?_;rintro r HB ⟨rfl,rfl⟩;have eE:iO (([]:List UInt8),(0:Int))=0:=rfl;rw[aa,eE];simp only[go_sem,zS,↓reduceIte,Za,Zb,Zc,reduceCtorEq,aa,zU,Zf,Zg];have KR:ae (fun q=>q=rb) H7 HB:=(K8.trans K9).trans KA;have vF:ae (fun _=>False) H6 HB:=K7.trans' KR fun q hq e=>by omega
 have sL:=uV.trans vF;have xp:=K6.trans vF;have WB:=W5.ax xp (by simp);have s9:=K9.size;have vG:aC HB (.slice x1 x2 x3) (w8 a):=(O9.ax KA fun q hq e=>by have:=own9 q hq;have:=K8.size;have:=R7.bound;have:=K7.size;have:rb<H7.size:=by{obtain⟨_,h,_⟩:=R7;exact h.lt};omega).sl;have vH:aC HB (.slice w1 w2 w3) (w8 b):=OA.sl;have xq:=Sa.ax sL (by simp);have xr:=Sb.ax sL (by simp);have vI:aE ι HB:=(hG.ax K1 (by simp) (by simp)).ax sL (by simp) (by simp);have xu:qb tag [a,b]=l:=by rw[hl];simp[qb,df,iter]
 have lw:(w8 (cx l)).toArray.size=32:=by rw[List.size_toArray,af,cy]
 have qe:∀(A A':Hp) (bb:Nat) (u v:Value),ae (fun _=>False) HB A->Bl A' bb [u,v]->ae (fun _=>False) A A'->aC HB u (w8 a)->aC HB v (w8 b)->∀{R:Value->Hp->Prop},(∀A2,ae (fun _=>False) HB A2->R (.agg (w8 (cx l)).toArray) A2)->ai P (ι.f 63) #[.string ⟨tag.toArray⟩,.slice (some ⟨bb,0,none⟩) 2 2] A' R:=fun A A' bb u v KA B KB hu hv R hR=>by
  have K:=KA.trans KB;refine(ht tag [a,b] _ A' (oG B (hu.ax K (by simp)) (hv.ax K (by simp))) (ly (by omega) (by omega)) (by omega) (vI.ax K (by simp) (by simp))).mono ?_;rintro r A2 ⟨rfl,K2⟩;rw[xu];exact hR A2 (K.trans K2)
 refine qe HB _ HB.size _ _ (ae.refl _ _) (Bl.eL _ _ _) ((ae.refl _ _).push _) vG vH fun HD KD=>?_;rw[aa];simp only[go_sem,zS,↓reduceIte,Za,Zb,Zc,reduceCtorEq,aa,zU,Zf,Zg];refine(ho _ _ l HD (WB.ax KD (by simp)) (by omega)).mono ?_;rintro oe HE ⟨OE,xw,KE⟩;have vJ:=KD.trans KE;rw[aa];simp only[go_sem,zS,↓reduceIte,Za,Zb,Zc,reduceCtorEq,aa,zU,Zf,Zg];refine(hs l oe HE OE.sl (vI.ax vJ (by simp) (by simp))).mono ?_;rintro r HF ⟨rfl,KF⟩;have xx:=vJ.trans KF;rw[aa];simp only[go_sem,zS,↓reduceIte,Za,Zb,Zc,reduceCtorEq,aa,zU,Zf,Zg,lw,beq_self_eq_true];refine⟨⟨hE _,hE _⟩,?_⟩;refine qe HF _ HF.size _ _ xx (Bl.eL _ _ _) ((ae.refl _ _).push _) xq xr fun HG KG=>?_;rw[aa];simp only[go_sem,zS,↓reduceIte,Za,Zb,Zc,reduceCtorEq,aa,zU,Zf,Zg];refine qe HG _ HG.size _ _ KG (Bl.eL _ _ _) ((ae.refl _ _).push _) vG vH fun HI KI=>?_;rw[aa];simp only[go_sem,zS,↓reduceIte,Za,Zb,Zc,reduceCtorEq,aa,zU,Zf,Zg,lw,beq_self_eq_true];exact⟨⟨hE _,hE _⟩,(K1.trans sL).trans KI⟩
end Go.Mg

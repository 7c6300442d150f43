/- Lemmas of ours. No conditions. -/
import Derived.Test.YtoclemmcphgikaaGreatDoorMgGP
open Nat renaming reduceEqDiff→Za,reduceAdd→Zb,reduceMul→Zc,reduceLeDiff→Zd,reduceLT→Ze
open Int renaming reduceBEq→Zf,reduceBNe→Zg,reduceLE→Zh,reduceLT→Zi
set_option linter.all false
set_option maxRecDepth 100000
namespace Go.Mg
open Go Go.RowKit
variable {W W':Nat->Prop} {H:Hp} {rb:Nat}
theorem pD.mono (h:pD W H rb) (hw:∀q,W' q->W q):pD W' H rb:=by
 obtain⟨a1,ev,a2,a3⟩:=h;exact⟨fun h=>a1 (hw _ h),ev,a2,fun q hq h=>a3 q hq (hw _ h)⟩
theorem pD.or (h:pD W H rb) (h':pD W' H rb):pD (fun q=>W q\/W' q) H rb:=by
 obtain⟨a1,ev,a2,a3⟩:=h;obtain⟨b1,JB,b2,b3⟩:=h';rw[a2]at b2
 cases b2
 exact⟨fun h=>h.elim a1 b1,ev,a2,fun q hq h=>h.elim (a3 q hq) (b3 q hq)⟩
theorem dY.cs {v:Value} {F:cf} {ms:List UInt64} {st:List Int} (h:dY H v F ms st):∃cs:List Value,v=.agg cs.toArray/\cs.length=7/\(cs.all fun v=>v.oneCell')=true/\∀x∈cs,aq x:=by
 obtain⟨s,b,d,a,m,ev,sv,rfl,h1,h2,h3⟩:=h;obtain⟨q1,q2,q3,q4,q5⟩:=h1.sl5;refine⟨[s,b,d,a,m,ev,sv],rfl,rfl,sl7 h1.sl5 h2.aq h3.aq,fun x hx=>?_⟩;simp only[List.mem_cons,List.not_mem_nil,or_false]at hx;rcases hx with rfl|rfl|rfl|rfl|rfl|rfl|rfl
 ·exact q1
 ·exact q2
 ·exact q3
 ·exact q4
 ·exact q5
 ·exact h2.aq
 ·exact h3.aq
end Go.Mg
namespace Go.Mg
open Go Go.RowKit
def Xt (ι:aG):S:=
 (.dr (kW 8 (.mv (.v 0)) (kW 10 (.fa 6 (.v 3)) (kW 11 (.ld (.t 10)) (.wcons (.t 9) .none (.call (ι.f 379) [.t 8]) (.wcons (.t 12) .none (.call (ι.f 165) [.t 9,.t 11]) (kW 13 (.not (.t 12)) (kW 14 (.mv (.t 13)) (.px (.t 15) (.some (.t 14,false)) (.mv (.v 0)) (.px (.t 17) (.some (.t 14,false)) (.fa 0 (.v 3)) (.px (.t 18) (.some (.t 14,false)) (.m (.ldn 5 (.t 17))) (.px (.t 19) (.some (.t 14,false)) (.m (.ldn 7 (.v 3))) (.wcons (.t 16) (.some (.t 14,false)) (.call (ι.f 385) [.t 15]) (.wcons (.t 20) (.some (.t 14,false)) (.call (ι.f 398) [.t 19]) (.wcons (.t 21) (.some (.t 14,false)) (.call (ι.f 308) [.t 18,.t 20]) (.wcons (.t 22) (.some (.t 14,false)) (.call (ι.f 165) [.t 16,.t 21]) (.px (.t 23) (.some (.t 14,false)) (.not (.t 22)) (kW 24 (.pick (.t 14) (.c (.bool true)) (.t 23)) (kW 25 (.mv (.t 24)) (.px (.t 26) (.some (.t 25,false)) (.mv (.v 0)) (.px (.t 28) (.some (.t 25,false)) (.fa 6 (.v 3)) (.px (.t 29) (.some (.t 25,false)) (.ld (.t 28)) (.wcons (.t 27) (.some (.t 25,false)) (.call (ι.f 381) [.t 26]) (.wcons (.t 30) (.some (.t 25,false)) (.call (ι.f 158) [.t 29,.c (.int .i64 0)]) (.px (.t 31) (.some (.t 25,false)) (.not (.t 30)) (.px (.t 32) (.some (.t 25,false)) (.eqb true (.t 27) (.t 31)) (kX 33 (.pick (.t 25) (.c (.bool true)) (.t 32)) .done))) .wnil) .wnil))))))) .wnil) .wnil) .wnil) .wnil))))))) .wnil) .wnil)))))
def Qm (ι:aG):S:=
 kY [kR 3 (ι.t 396) 1,kC 4 (.bool false)] (.seq (.seq (Xt ι) (.ite (.v 33) (kY [kC 4 (.bool false)] .ret) .skip)) (kY [kC 5 (kZ)] (.seq (kY [kG 34 6 3,kV 35 (.ld (.t 34)),kO 36 35,kC 37 (.int .i64 0)] (.blk 0 (.loop (kY [kH 38 37 36] (.seq (.ite (.v 38) .skip (.exit 0)) (.seq (.blk 1 (kY [kA 39 37,kK 40 1 35 37,kD 41 40,kB 6 39,kB 7 41] (kY [kA 42 7,kV 43 (.cm .neq .i64 (.t 42) (.c (.int .i64 0)))] (.ite (.v 43) (.reg [kA 44 5,kA 45 6,.e (.t 46) (.aV (ι.t 26) 1 1 [.t 45]),.e (.t 47) (.app false (ι.t 26) 1 8 #[.int .i64 0] (.t 44) (.t 46)),kB 5 47]) .skip)))) (.reg [ke 48 37,kB 37 48]))))))) (kY [kA 49 0,.e (.t 50) (.call (ι.f 384) [.t 49]),kA 51 5,.e (.t 52) (.call (ι.f 165) [.t 50,.t 51]),kB 4 52] .ret))))
def Qn:List RV:=[.t 4]
structure IsC (P:Program) (ι:aG):Prop where
 stf:jX P (ι.f 379)
 IQ:pC P ι (ι.f 385)
 fin:vE P (ι.f 381)
 don:qU P ι (ι.f 384)
 rdon:vP P (ι.f 398)
 rrdy:vl P (ι.f 308)
 eqI:tg P (ι.f 165)
 con:lI P (ι.f 158)
def lV (st:List Int) (n:Nat):List Nat:=(List.range n).filter fun k=>decide (st.getD k 0≠0)
theorem xS (st:List Int) (n:Nat):lV st (n+1)=lV st n++if st.getD n 0≠0 then[n]else[]:=by
 unfold lV;rw[List.range_succ,List.filter_append];simp only[List.filter_cons,List.filter_nil,decide_eq_true_eq]
theorem UP {st:List Int} {n:Nat} (hn:n<=4096):aW (cI st n)=lV st n:=by
 unfold aW lV;obtain⟨k,hk⟩:∃k,4096=n+k:=⟨4096 -n,by omega⟩
 rw[hk,List.range_add,List.filter_append,filter_none (l:=(List.range k).map (n+·)) fun x hx=>?_,List.append_nil]
 ·refine List.filter_congr fun x hx=>?_;have:=List.mem_range.1 hx;unfold cI;rw[decide_eq_true this,Bool.true_and]
 ·obtain⟨y,_,rfl⟩:=List.mem_map.1 hx;unfold cI;rw[decide_eq_false (by omega),Bool.false_and]
structure IsI (F:cf) (el:List (Nat->Bool)) (ms:List UInt64) (H:Hp) (rb:Nat) (sv:Value) (st:List Int):Prop where
 run:dI H rb F el st
 ref:dY H sv F ms st
 ok:nD F=true
 sl:st.length=F.st.length
def AV (P:Program) (ι:aG) (k:FuncId):Prop:=∀(F:cf) (el:List (Nat->Bool)) (ms:List UInt64) (st:List Int) (rb:Nat) (sv:Value) (H:Hp),bg ι H->IsI F el ms H rb sv st->an P k #[.pointer (some ⟨rb,0,none⟩),sv] H fun x H'=>x=.bool true/\af (fun _=>False) H H'
theorem aad {P:Program} {ι:aG} {k:FuncId} (hk:al P k (Qm ι) Qn 2) (c:IsC P ι):AV P ι k:=by
 intro F el ms st rb sv H hT hI;refine qI fun Q hQ=>?_;have hRr:=hI.ref;have hok:=hI.ok;have hG:=de hok;have hlt:=hG.lt;have qM:=hG.lim;unfold iQ at qM;have hsl:=hI.sl;obtain⟨s,b,d,a,m,ev,sw,rfl,q1,q2,q3⟩:=hI.ref;refine ah hk (args:=[_,_]) (by simp) ?_;unfold Qm Qn kA kB kC kD ke kG kH kK kO kR kV kY kZ;simp-implicitDefEqProofs only[go_sem,↓reduceIte,Za,Zb,Zc,reduceCtorEq];refine ay fun H1 b3 e1 z1 B1 K1=>?_;have bQ:Bl H1 b3 [s,b,d,a,m,ev,sw]:=B1;have c6:cell H1 ⟨b3,6,none⟩=some sw:=by rw[bQ.cell];rfl
 have l5:aR H1 ⟨b3,0,none⟩ 5=some #[s,b,d,a,m]:=by
  have:=bQ.aR (o:=0) (n:=5) (by simp);simpa using this
 simp-implicitDefEqProofs only[go_sem,↓reduceIte,Za,Zb,Zc,reduceCtorEq];unfold Xt kW kX;refine bo (fun _=>False) ?_;simp-implicitDefEqProofs only[go_sem,↓reduceIte,Za,Zb,Zc,reduceCtorEq,ae,c6];refine(c.stf.1 F el st rb H1 (hI.run.aj K1) (by omega)).mono ?_;rintro y H2 ⟨O2,o2,K2⟩;rw[aJ];refine⟨K2,?_⟩;simp-implicitDefEqProofs only[go_sem,↓reduceIte,Za,Zb,Zc,reduceCtorEq,ae];refine(c.eqI st st y sw H2 O2.sl ((q3.ai K1 (by simp)).ai K2 (by simp)) (by omega)).mono ?_;rintro y H3 ⟨rfl,rfl⟩;have hd:decide (st=st)=true:=decide_eq_true rfl;rw[aJ];refine⟨af.refl _ _,?_⟩;have B3:=K2.bl bQ (by simp);have l53:aR H3 ⟨b3,0,none⟩ 5=some #[s,b,d,a,m]:=by
  have:=B3.aR (o:=0) (n:=5) (by simp);simpa using this
 simp-implicitDefEqProofs only[go_sem,↓reduceIte,Za,Zb,Zc,reduceCtorEq,ae,hd,Bool.not_true,l53,aC,B3.aM 7 rfl];have lF:=K1.trans K2;refine(c.IQ.1 F el st rb H3 (hT.ai lF) (hI.run.aj lF) hok (by omega)).mono ?_;rintro y2 H4 ⟨O4,K4⟩;have EC:=lF.trans K4;rw[aJ];refine⟨K4,?_⟩;simp-implicitDefEqProofs only[go_sem,↓reduceIte,Za,Zb,Zc,reduceCtorEq,ae];refine(c.rdon F ms st _ H4 (hRr.aj EC) (by omega)).mono ?_;rintro y3 H5 ⟨rfl,K5⟩;have KJ:=EC.trans K5;rw[aJ];refine⟨K5,?_⟩;simp-implicitDefEqProofs only[go_sem,↓reduceIte,Za,Zb,Zc,reduceCtorEq,ae];refine(c.rrdy F _ (LH st st.length) H5 (q1.aj KJ) (by omega) (by omega) fun x hx=>(hG.be x hx).1).mono ?_;rintro y4 H6 ⟨O6,o6,K6⟩;rw[AT (by omega)]at O6;have Jt:=KJ.trans K6;rw[aJ];refine⟨K6,?_⟩;have hrn:=DJ F.st.length F.be (cI st st.length);obtain⟨rl,hrl⟩:∃rl,rl=uU F.st.length F.be (cI st st.length):=⟨_,rfl⟩
 rw[<-hrl]at O4 O6 hrn;simp-implicitDefEqProofs only[go_sem,↓reduceIte,Za,Zb,Zc,reduceCtorEq,ae];refine(c.eqI (nI rl) (nI rl) y2 y4 H6 ((O4.ai K5 (by simp)).ai K6 (by simp)) O6.sl (by rw[Fk];omega)).mono ?_;rintro y5 H7 ⟨rfl,rfl⟩;have hd2:decide (nI rl=nI rl)=true:=decide_eq_true rfl;have B7:=(((K2.trans K4).trans K5).trans K6).bl bQ (by simp);have c67:cell H7 ⟨b3,6,none⟩=some sw:=by rw[B7.cell];rfl
 rw[aJ];refine⟨af.refl _ _,?_⟩;simp-implicitDefEqProofs only[go_sem,↓reduceIte,Za,Zb,Zc,reduceCtorEq,ae,hd2,Bool.not_true,c67];refine(c.fin.1 F el st rb H7 (hI.run.aj Jt) (by omega)).mono ?_;rintro y6 H8 ⟨⟨bb,rfl,hbb⟩,rfl⟩;rw[aJ];refine⟨af.refl _ _,?_⟩;simp-implicitDefEqProofs only[go_sem,↓reduceIte,Za,Zb,Zc,reduceCtorEq,ae];refine(c.con st sw 0 H8 (q3.ai Jt (by simp)) (by omega)).mono ?_;rintro y7 H9 ⟨⟨z,rfl,hz⟩,rfl⟩;rw[aJ];refine⟨af.refl _ _,?_⟩;have hbz:bb=!z:=by
  cases bb with
  |true=>
   have h:=hbb.1 rfl
   cases z with
   |true=>exact absurd (hz.1 rfl) h
   |false=>rfl
  |false=>
   cases z with
   |true=>rfl
   |false=>
    have:0∉st:=fun h=>by have:=hz.2 h;cases this
    have:=hbb.2 this
    cases this
 subst hbz;simp-implicitDefEqProofs only[go_sem,↓reduceIte,Za,Zb,Zc,reduceCtorEq,ae,bne_self_eq_false];have q39:=q3.ai Jt (by simp);simp-implicitDefEqProofs only[go_sem,↓reduceIte,Za,Zb,Zc,reduceCtorEq,ae,c67,q39.aq,q39.len,aA];refine aD st.length [38,6,7,43,5,37] rfl rfl (by omega) (by rfl) (by rfl) (fun i g A=>∃lv,g 5=lv/\bq A lv (iN (lV st i))/\(∀q,ax lv q->H9.size<=q)/\af (fun _=>False) H9 A) ⟨.slice none 0 0,by simp-implicitDefEqProofs only[go_sem,↓reduceIte,Za,Zb,Zc,reduceCtorEq,ae],bq.nil _,fun q h=>h.elim,af.refl _ _⟩ ?_ ?_
 ·rintro i g A hi gi gn ⟨lv,g5,OA,oA,KA⟩;simp-implicitDefEqProofs only[go_sem,↓reduceIte,Za,Zb,Zc,reduceCtorEq,ae]at gi gn g5;have sA:=KA.size;obtain⟨pb,po,pc,qm,hci⟩:=fB (q39.ai KA (by simp)) hi;have Cr:(lV st i).length<=i:=by
   unfold lV;have:=List.length_filter_le (fun k=>decide (st.getD k 0≠0)) (List.range i)
   rwa [List.length_range]at this
  by_cases h0:st.getD i 0=0
  ·have d0:(st.getD i 0 !=0)=false:=by rw[h0];rfl
   simp-implicitDefEqProofs only[go_sem,↓reduceIte,Za,Zb,Zc,reduceCtorEq,ae,gi,qm,ak,hci,d0,g5];refine⟨by omega,lv,rfl,?_,oA,KA⟩;rw[xS,if_neg (by simpa using h0),List.append_nil];exact OA
  ·have d0:(st.getD i 0 !=0)=true:=by simpa using h0
   simp-implicitDefEqProofs only[go_sem,↓reduceIte,Za,Zb,Zc,reduceCtorEq,gi,qm,ak,hci,d0,g5];refine⟨by omega,?_⟩;refine aF fun A2 bb eb zb BB KB=>?_;have BB':Bl A2 bb [.int .i64 (i:Int)]:=BB;simp-implicitDefEqProofs only[go_sem,↓reduceIte,Za,Zb,Zc,reduceCtorEq,ae,g5];refine jK H9.size (OA.ai KB (by simp)) oA (by have:=KB.size;omega) (aO.bl BB' 0 1 1 (by omega) (by simp)) (bd rfl) rfl (by omega) (by simp[iN,iL];omega) fun v' A3 O3 o3 K3=>?_;simp-implicitDefEqProofs only[go_sem,↓reduceIte,Za,Zb,Zc,reduceCtorEq,ae];refine⟨v',rfl,?_,o3,(KA.trans KB).trans' K3 fun q hq h=>by omega⟩;rw[xS,if_pos h0];have:iN (lV st i++[i])=iN (lV st i)++[.int .i64 (i:Int)]:=by simp[iN,iL]
   rw[this];exact O3
 ·rintro g A gi ⟨lv,g5,OA,oA,KA⟩;simp-implicitDefEqProofs only[go_sem,↓reduceIte,Za,Zb,Zc,reduceCtorEq,ae]at g5;simp-implicitDefEqProofs only[go_sem,↓reduceIte,Za,Zb,Zc,reduceCtorEq,g5];refine(c.don.1 F el st rb A (hT.ai (Jt.trans KA)) (hI.run.aj (Jt.trans KA)) (by omega)).mono ?_;rintro y8 A1 ⟨O8,K8⟩;rw[ae];have e8:cG (cI st st.length)=iN (lV st st.length):=by rw[<-UP (st:=st) (n:=st.length) (by omega)];simp[cG,iN,iL]
  rw[e8]at O8;have Cr:(lV st st.length).length<=st.length:=by
   unfold lV;have:=List.length_filter_le (fun k=>decide (st.getD k 0≠0)) (List.range st.length)
   rwa [List.length_range]at this
  simp-implicitDefEqProofs only[go_sem,↓reduceIte,Za,Zb,Zc,reduceCtorEq,g5];refine(c.eqI (nI (lV st st.length)) (nI (lV st st.length)) y8 lv A1 O8 (OA.sl.ai K8 (by simp)) (by rw[Fk];omega)).mono ?_;rintro y9 A2 ⟨rfl,rfl⟩;rw[ae];have hd3:decide (nI (lV st st.length)=nI (lV st st.length))=true:=decide_eq_true rfl;simp-implicitDefEqProofs only[go_sem,↓reduceIte,Za,Zb,Zc,reduceCtorEq,ae,hd3];rw[hQ];exact⟨rfl,(Jt.trans KA).trans K8⟩
end Go.Mg
namespace Go.Mg
open Go Go.RowKit
def Hl (ι:aG):S:=
 kY [kC 0 (.bool false)] (kY [kU 11 (.m (.bld #[.string ⟨#[]⟩,.int .i64 0] [(0,(1,.c (.string ⟨#[97]⟩))),(1,(1,.c (.int .i64 1)))])),kU 12 (.m (.bld #[.string ⟨#[]⟩,.int .i64 0] [(0,(1,.c (.string ⟨#[98]⟩))),(1,(1,.c (.int .i64 1)))])),.e (.t 13) (.aV (ι.t 297) 2 2 [.t 11,.t 12]),kU 14 (.m (.bld #[.int .i64 0,.int .i64 0] [(0,(1,.c (.int .i64 0))),(1,(1,.c (.int .i64 1)))])),.e (.t 15) (.aV (ι.t 194) 2 1 [.t 14]),kU 16 (.m (.bld #[kZ,kZ,kZ,kZ,kZ] [(0,(1,.t 13)),(2,(1,.t 15))])),.e (.v 1) (.new (ι.t 296) #[kZ,kZ,kZ,kZ,kZ]),.e .no (.stn 5 (.v 1) (.t 16))] (kY [kG 17 0 1,kD 18 17,kG 19 2 1,kD 20 19,kU 21 (.m (.bld #[kZ,kZ,kZ,kZ,kZ] [(0,(1,.t 18)),(3,(1,.t 20))])),.e (.v 2) (.new (ι.t 296) #[kZ,kZ,kZ,kZ,kZ]),.e .no (.stn 5 (.v 2) (.t 21))] (kY [kG 22 0 1,kD 23 22,kG 24 2 1,kD 25 24,kG 26 2 1,kD 27 26,kU 28 (.m (.bld #[kZ,kZ,kZ,kZ,kZ] [(0,(1,.t 23)),(2,(1,.t 25)),(3,(1,.t 27))])),.e (.v 3) (.new (ι.t 296) #[kZ,kZ,kZ,kZ,kZ]),.e .no (.stn 5 (.v 3) (.t 28))] (kY [.e (.t 29) (.aV (ι.t 26) 1 2 [.c (.int .i64 1),.c (.int .i64 2)]),.e (.t 30) (.call (ι.f 143) [.t 29]),.e (.t 31) (.aV (ι.t 26) 1 1 [.c (.int .i64 1)]),.e (.t 32) (.call (ι.f 143) [.t 31]),.e (.t 33) (.aV (ι.t 128) 1 2 [.t 30,.t 32]),kB 4 33] (kY [kM 35 5 1,kA 36 4,.e (.t 37) (.call (ι.f 391) [.t 35,.t 36]),kF 34 37,kQ 38 34 0,kQ 39 34 1,kB 5 38,kB 6 39] (kY [kM 41 5 2,kA 42 4,.e (.t 43) (.call (ι.f 391) [.t 41,.t 42]),kF 40 43,kQ 44 40 0,kQ 45 40 1,kB 7 44,kB 8 45] (kY [kM 47 5 3,kA 48 4,.e (.t 49) (.call (ι.f 391) [.t 47,.t 48]),kF 46 49,kQ 50 46 0,kQ 51 46 1,kF 9 50,kB 10 51] (kY [kA 52 6,kU 53 (.cm .eql .i64 (.t 52) (.c (.int .i64 0))),kF 54 53,kS 55 54 true 8,kT 56 54 true (.cm .eql .i64 (.t 55) (.c (.int .i64 0))),kJ 57 54 56,kF 58 57,kS 59 58 true 10,kT 60 58 true (.cm .eql .i64 (.t 59) (.c (.int .i64 12))),kJ 61 58 60,kF 62 61,kS 63 62 true 5,.ge (.t 64) (.t 62) true (.call (ι.f 386) [.t 63,.c (.int .i64 0),.c (.int .i64 1)]),kT 65 62 true (.cm .eql .u8 (.t 64) (.c (.int .u8 5))),kJ 66 62 65,kF 67 66,kS 68 67 true 5,.ge (.t 69) (.t 67) true (.call (ι.f 386) [.t 68,.c (.int .i64 0),.c (.int .i64 2)]),kT 70 67 true (.cm .eql .u8 (.t 69) (.c (.int .u8 1))),kJ 71 67 70,kF 72 71,kS 73 72 true 5,.ge (.t 74) (.t 72) true (.call (ι.f 382) [.t 73]),.ge (.t 75) (.t 72) true (.aV (ι.t 26) 1 2 [.c (.int .i64 2),.c (.int .i64 1)]),.ge (.t 76) (.t 72) true (.call (ι.f 165) [.t 74,.t 75]),kJ 77 72 76,kF 78 77,kS 79 78 true 7,.ge (.t 80) (.t 78) true (.call (ι.f 386) [.t 79,.c (.int .i64 0),.c (.int .i64 2)]),kT 81 78 true (.cm .eql .u8 (.t 80) (.c (.int .u8 5))),kJ 82 78 81,kF 83 82,kS 84 83 true 7,.ge (.t 85) (.t 83) true (.call (ι.f 386) [.t 84,.c (.int .i64 0),.c (.int .i64 1)]),kT 86 83 true (.cm .eql .u8 (.t 85) (.c (.int .u8 1))),kJ 87 83 86,kB 0 87] .ret))))))))
def Hm:List RV:=[.t 0]
def WF:cf:={st:=[([97],1),([98],1)],be:=[],di:=[(0,1)],sa:=[],mo:=[]}
def WG:cf:={WF with di:=[],sa:=[(0,1)]}
def WH:cf:={WF with sa:=[(0,1)]}
theorem ae3:CT (jf []):=r8 (by simp)
theorem stW:zw 63 (fun _=>false) WF.st 2=0:=by decide+kernel
variable {F:cf}
theorem abV (hF:F=WF\/F=WG\/F=WH):eU F 63 (fun _=>false)=0:=by
 have h1:=stW;have h2:Dz (jf [])=0:=FH ae3;unfold eU;rcases hF with rfl|rfl|rfl
 ·rw[if_neg (by decide),if_neg (by unfold iQ;decide)]
  show gZ (zw 63 (fun _=>false) WF.st 2) (gZ (iG 2 WF.be) (gZ (iG 2 WF.di) (gZ (iG 2 WF.sa) (gZ (sF 2 WF.mo) (Dz (jf []))))))=0
  rw[h1,h2];decide
 ·rw[if_neg (by decide),if_neg (by unfold iQ;decide)]
  show gZ (zw 63 (fun _=>false) WF.st 2) (gZ (iG 2 WG.be) (gZ (iG 2 WG.di) (gZ (iG 2 WG.sa) (gZ (sF 2 WG.mo) (Dz (jf []))))))=0
  rw[h1,h2];decide
 ·rw[if_neg (by decide),if_neg (by unfold iQ;decide)]
  show gZ (zw 63 (fun _=>false) WF.st 2) (gZ (iG 2 WH.be) (gZ (iG 2 WH.di) (gZ (iG 2 WH.sa) (gZ (sF 2 WH.mo) (Dz (jf []))))))=0
  rw[h1,h2];decide
theorem okW (hF:F=WF\/F=WG\/F=WH):nD F=true:=tw.2 (abV hF)
def mW:List UInt64:=[6,2]
theorem mZ:UJ mW:=fun k u h=>by
 unfold bt at h;have hk:k=0\/k=1\/2<=k:=by omega
 have hb:=Nat.ge_two_pow_of_testBit h;have h4:u<3:=by
  apply Classical.byContradiction;intro hc;have:2^3<=2^u:=Nat.pow_le_pow_right (by omega) (by omega);rcases hk with rfl|rfl|hk
  ·have:(mW.getD 0 0).toNat=6:=rfl;omega
  ·have:(mW.getD 1 0).toNat=2:=rfl;omega
  ·have:mW.getD k 0=0:=by simp[mW,List.getD_eq_getElem?_getD,show¬k<2 by omega,List.getElem?_eq_none (show([6,2]:List UInt64).length<=k by simpa using hk)]
   rw[this]at hb;have:(0:UInt64).toNat=0:=rfl;have:=Nat.two_pow_pos u;omega
 have h0:u≠0:=by
  rintro rfl;rcases hk with rfl|rfl|hk
  ·revert h;decide
  ·revert h;decide
  ·have:mW.getD k 0=0:=by simp[mW,List.getD_eq_getElem?_getD,List.getElem?_eq_none (show([6,2]:List UInt64).length<=k by simpa using hk)]
   rw[this]at h;simp at h
 omega
theorem JC {l:List Int} {m:UInt64} {b:Nat} (hb:b<=10) (h1:∀n:Fin 11,MC l n.val=bt m n.val) (h2:∀x∈l,x<=10) (h3:m.toNat<2^11):MC l=bt m:=by
 funext n
 by_cases h:n<11
 ·exact h1 ⟨n,h⟩
 ·have e1:bt m n=false:=by
   unfold bt;exact Nat.testBit_lt_two_pow (Nat.lt_of_lt_of_le h3 (Nat.pow_le_pow_right (by omega) (by omega)))
  rw[e1];unfold MC;have:¬((n:Int)∈l):=fun hm=>by have:=h2 _ hm;omega
  rw[decide_eq_false this,Bool.false_and]
theorem aae:MC [1,2]=bt 6:=JC (b:=10) (by omega) (by decide) (by decide) (by decide)
theorem abW:MC [1]=bt 2:=JC (b:=10) (by omega) (by decide) (by decide) (by decide)
theorem JD (hF:F=WF\/F=WG\/F=WH):ff (bW F (mW.map bt)):=by
 have hG:=de (okW hF);have hl:=hG.lim;unfold iQ at hl;have e:(bW F (mW.map bt)).el.length=F.st.length:=by rcases hF with rfl|rfl|rfl<;>rfl
 have e2:F.st.length=2:=by rcases hF with rfl|rfl|rfl<;>rfl
 refine⟨by omega,by omega,fun k u h=>?_,?_,?_,?_,?_,?_,?_⟩
 ·unfold eV bW at h;rw[cR]at h;have:=mZ k u h;omega
 ·show F.di.length<=20;omega
 ·show F.sa.length<=20;omega
 ·show F.mo.length<=20;omega
 ·rw[e];exact hG.di
 ·rw[e];exact hG.sa
 ·rw[e];exact hG.mo
theorem aaf (hF:F=WF\/F=WG\/F=WH) {st:List Int} (h:Ec 2 st):Ay (bW F (mW.map bt)) st:=by
 have e:(bW F (mW.map bt)).el.length=2:=by rcases hF with rfl|rfl|rfl<;>rfl
 exact vK (JD hF) (by rw[e];exact h.U) (by omega)
theorem Oq {a b:Int} (h:0<=a/\a<=4/\0<=b/\b<=4):Ec 2 [a,b]:=⟨rfl,fun u hu=>by
 simp only[List.mem_cons,List.not_mem_nil,or_false]at hu;rcases hu with rfl|rfl<;>omega⟩
theorem Xu:en (bW WF (mW.map bt)) [0,0]=some [2,1]:=by rw[mI rfl mZ];decide+kernel
theorem abX:en (bW WG (mW.map bt)) [0,0]=some [1,1]:=by rw[mI rfl mZ];decide+kernel
theorem abY:en (bW WH (mW.map bt)) [0,0]=none:=by rw[mI rfl mZ];decide+kernel
theorem abZ:nJ WF (mW.map bt) [0,0] 0 1=5:=by rw[tD (F:=WF) (show Ec WF.st.length [0,0]from Oq (by decide)) (by decide) mZ];decide+kernel
theorem ab0:nJ WF (mW.map bt) [0,0] 0 2=1:=by rw[tD (F:=WF) (show Ec WF.st.length [0,0]from Oq (by decide)) (by decide) mZ];decide+kernel
theorem ab1:nJ WG (mW.map bt) [0,0] 0 2=5:=by rw[tD (F:=WG) (show Ec WG.st.length [0,0]from Oq (by decide)) (by decide) mZ];decide+kernel
theorem ab2:nJ WG (mW.map bt) [0,0] 0 1=1:=by rw[tD (F:=WG) (show Ec WG.st.length [0,0]from Oq (by decide)) (by decide) mZ];decide+kernel
theorem ae4 (hF:F=WF\/F=WG\/F=WH) (i:Nat) (u:Int) (hi:i<([0,0]:List Int).length) (hu:bZ ((mW.map bt).getD i fun _=>false) u=true):Ay (bW F (mW.map bt)) (([0,0]:List Int).set i u):=by
 rw[cR]at hu;have:=(tC mZ i u).1 hu;exact aaf hF ((Oq (by decide)).set (by omega))
structure ae5 (P:Program) (ι:aG):Prop where
 of_:tf P (ι.f 143)
 sta:nK P ι (ι.f 391)
 ask:vH P ι (ι.f 386)
 pln:vF P ι (ι.f 382)
 eqI:tg P (ι.f 165)
def vQ (P:Program) (ι:aG) (k:FuncId):Prop:=∀(H:Hp),bg ι H->an P k #[] H fun r H'=>r=.bool true/\af (fun _=>False) H H'
theorem UQ {P:Program} {ι:aG} {k:FuncId} (hk:al P k (Hl ι) Hm 0) (c:ae5 P ι):vQ P ι k:=by
 intro H hT;refine qI fun Q hQ=>?_;refine ah hk (args:=[]) (by simp) ?_;unfold Hl Hm kA kB kF kC kD kG kJ kM kQ kS kT kU kY kZ;simp-implicitDefEqProofs only[go_sem,↓reduceIte,Za,Zb,Zc,reduceCtorEq,Zf,Zg,Zh,Zi,Zd,Ze];refine aF fun H1 p1 e1 z1 B1 K1=>?_;have v1:bk cj 2 H1 (.slice (some ⟨p1,0,none⟩) 2 2) WF.st:=bk.bl B1 (l:=WF.st) rfl (by simp[WF]) (by simp[WF]);simp-implicitDefEqProofs only[go_sem,↓reduceIte,Za,Zb,Zc,reduceCtorEq,Zf,Zg,Zh,Zi,Zd,Ze];refine aF fun H2 p2 e2 z2 B2 K2=>?_;have v2:ql H2 (.slice (some ⟨p2,0,none⟩) 1 1) WF.di:=bk.bl B2 (l:=WF.di) rfl (by simp[WF]) (by simp[WF]);simp-implicitDefEqProofs only[go_sem,↓reduceIte,Za,Zb,Zc,reduceCtorEq,Zf,Zg,Zh,Zi,Zd,Ze];refine aN [.slice (some ⟨p1,0,none⟩) 2 2,.slice none 0 0,.slice (some ⟨p2,0,none⟩) 1 1,.slice none 0 0,.slice none 0 0] (by rfl) rfl rfl rfl fun H3 f1 e3 z3 B3 K3=>?_;have c30:cell H3 ⟨f1,0,none⟩=some (.slice (some ⟨p1,0,none⟩) 2 2):=by rw[B3.cell];rfl
 have c32:cell H3 ⟨f1,2,none⟩=some (.slice (some ⟨p2,0,none⟩) 1 1):=by rw[B3.cell];rfl
 simp-implicitDefEqProofs only[go_sem,↓reduceIte,Za,Zb,Zc,reduceCtorEq,Zf,Zg,Zh,Zi,Zd,Ze,c30,c32];refine aN [.slice (some ⟨p1,0,none⟩) 2 2,.slice none 0 0,.slice none 0 0,.slice (some ⟨p2,0,none⟩) 1 1,.slice none 0 0] (by rfl) rfl rfl rfl fun H4 f2 e4 z4 B4 K4=>?_;have My:=K4.bl B3 (by simp);have Gx:cell H4 ⟨f1,0,none⟩=some (.slice (some ⟨p1,0,none⟩) 2 2):=by rw[My.cell];rfl
 have c42:cell H4 ⟨f1,2,none⟩=some (.slice (some ⟨p2,0,none⟩) 1 1):=by rw[My.cell];rfl
 simp-implicitDefEqProofs only[go_sem,↓reduceIte,Za,Zb,Zc,reduceCtorEq,Zf,Zg,Zh,Zi,Zd,Ze,Gx,c42];refine aN [.slice (some ⟨p1,0,none⟩) 2 2,.slice none 0 0,.slice (some ⟨p2,0,none⟩) 1 1,.slice (some ⟨p2,0,none⟩) 1 1,.slice none 0 0] (by rfl) rfl rfl rfl fun H5 f3 e5 z5 B5 K5=>?_;have KJ:=((K2.trans K3).trans K4).trans K5;have w1:=v1.aj KJ;have w2:=v2.aj ((K3.trans K4).trans K5);have B35:=K5.bl My (by simp);have B45:=K5.bl B4 (by simp);have aag:iq H5 [] []:=⟨rfl,fun i h=>by simp at h⟩
 have pF:bU H5 (.agg #[.slice (some ⟨p1,0,none⟩) 2 2,.slice none 0 0,.slice (some ⟨p2,0,none⟩) 1 1,.slice none 0 0,.slice none 0 0]) WF:=⟨_,_,_,_,_,[],rfl,w1,bk.nil _ _ _,w2,bk.nil _ _ _,bk.nil _ _ _,aag⟩
 have pG:bU H5 (.agg #[.slice (some ⟨p1,0,none⟩) 2 2,.slice none 0 0,.slice none 0 0,.slice (some ⟨p2,0,none⟩) 1 1,.slice none 0 0]) WG:=⟨_,_,_,_,_,[],rfl,w1,bk.nil _ _ _,bk.nil _ _ _,w2,bk.nil _ _ _,aag⟩
 have pH:bU H5 (.agg #[.slice (some ⟨p1,0,none⟩) 2 2,.slice none 0 0,.slice (some ⟨p2,0,none⟩) 1 1,.slice (some ⟨p2,0,none⟩) 1 1,.slice none 0 0]) WH:=⟨_,_,_,_,_,[],rfl,w1,bk.nil _ _ _,w2,w2,bk.nil _ _ _,aag⟩
 have Pe:=K1.trans KJ;simp-implicitDefEqProofs only[go_sem,↓reduceIte,Za,Zb,Zc,reduceCtorEq,Zf,Zg,Zh,Zi,Zd,Ze];refine aF fun H6 p6 e6 z6 B6 K6=>?_;have WU:Bl H6 p6 (iL [1,2]):=B6;simp-implicitDefEqProofs only[go_sem,↓reduceIte,Za,Zb,Zc,reduceCtorEq,Zf,Zg,Zh,Zi,Zd,Ze];refine(c.of_ [1,2] _ H6 (aO.bl WU 0 2 2 (by omega) (by simp[aA])) (by simp)).mono ?_;rintro r H7 ⟨hs7,K7,-⟩;rw[aae]at hs7;obtain⟨u7,W7,rfl,hV7⟩:=hs7;obtain⟨ua,uc,rfl,_⟩:=hV7.sl.mk;rw[ae];simp-implicitDefEqProofs only[go_sem,↓reduceIte,Za,Zb,Zc,reduceCtorEq,Zf,Zg,Zh,Zi,Zd,Ze];refine aF fun H8 p8 e8 z8 B8 K8=>?_;have B8':Bl H8 p8 (iL [1]):=B8;simp-implicitDefEqProofs only[go_sem,↓reduceIte,Za,Zb,Zc,reduceCtorEq,Zf,Zg,Zh,Zi,Zd,Ze];refine(c.of_ [1] _ H8 (aO.bl B8' 0 1 1 (by omega) (by simp[aA])) (by simp)).mono ?_;rintro r H9 ⟨hs9,K9,-⟩;rw[abW]at hs9;obtain⟨u9,W9,rfl,hV9⟩:=hs9;obtain⟨ub,ud,rfl,_⟩:=hV9.sl.mk;rw[ae];simp-implicitDefEqProofs only[go_sem,↓reduceIte,Za,Zb,Zc,reduceCtorEq,Zf,Zg,Zh,Zi,Zd,Ze];refine aF fun HA pA eA zA BA KA=>?_;have K7A:=(K8.trans K9).trans KA;have K5A:=(K6.trans K7).trans K7A;have Jo:=Pe.trans K5A;have BA':Bl HA pA [.slice ua (cN W7).length uc,.slice ub (cN W9).length ud]:=BA;have ev:aO HA (.slice (some ⟨pA,0,none⟩) 2 2) [.slice ua (cN W7).length uc,.slice ub (cN W9).length ud]:=aO.bl BA' 0 2 2 (by omega) (by simp);have hes:∀i,i<([.slice ua (cN W7).length uc,.slice ub (cN W9).length ud]:List Value).length->aQ HA (.agg #[([.slice ua (cN W7).length uc,.slice ub (cN W9).length ud]:List Value).getD i undef]) ((mW.map bt).getD i fun _=>false):=fun i hi=>by
  have:i=0\/i=1:=by simp at hi;omega
  rcases this with rfl|rfl
  ·exact aQ.aj ⟨_,W7,rfl,hV7⟩ K7A
  ·exact aQ.aj ⟨_,W9,rfl,hV9⟩ KA
 have start:∀(F:cf) (v:Value) (X:Hp),(F=WF\/F=WG\/F=WH)->bU X v F->af (fun _=>False) HA X->an P (ι.f 391) #[v,.slice (some ⟨pA,0,none⟩) 2 2] X fun r X'=>af (fun _=>False) X X'∧
   ((en (bW F (mW.map bt)) [0,0]=none/\r=.tuple #[.pointer none,.int .i64 12])\/((en (bW F (mW.map bt)) [0,0]).isSome=true/\∃rb,r=.tuple #[.pointer (some ⟨rb,0,none⟩),.int .i64 0]/\dI X' rb F (mW.map bt) [0,0])):=fun F v X hF hP KX=>by
  have f2:F.st.length=2:=by rcases hF with rfl|rfl|rfl<;>rfl
  have fb:F.be.length<=1000:=by rcases hF with rfl|rfl|rfl<;>decide
  refine(c.sta F (mW.map bt) _ v _ X (hT.ai (Jo.trans KX)) hP (ev.ai KX (by simp)) rfl (by decide) (fun i hi=>(hes i hi).aj KX) fun _ _ _=>⟨JD hF,aaf hF (Oq (by decide)),fb⟩).mono ?_;rintro r X' ⟨K,hx⟩;refine⟨K,?_⟩;rcases hx with⟨h,_⟩|⟨_,h,_⟩|⟨_,_,⟨i,hi,u,hu,hu2⟩,_⟩|⟨_,_,_,h⟩
  ·exact absurd (abV hF) h
  ·exact absurd (by rw[f2];rfl) h
  ·rw[cR]at hu;have:=mZ i u hu;omega
  ·exact h
 have B3A:=K5A.bl B35 (by simp);simp-implicitDefEqProofs only[go_sem,↓reduceIte,Za,Zb,Zc,reduceCtorEq,Zf,Zg,Zh,Zi,Zd,Ze,B3A.aM 5 rfl];refine(start WF _ HA (.inl rfl) (pF.aj K5A) (af.refl _ _)).mono ?_;rintro r HB ⟨KB,hx⟩;rw[Xu]at hx;rcases hx with⟨h,_⟩|⟨_,rb1,rfl,R1⟩
 ·cases h
 have B4B:=(K5A.trans KB).bl B45 (by simp);rw[ae];simp-implicitDefEqProofs only[go_sem,↓reduceIte,Za,Zb,Zc,reduceCtorEq,Zf,Zg,Zh,Zi,Zd,Ze,B4B.aM 5 rfl];refine(start WG _ HB (.inr (.inl rfl)) (pG.aj (K5A.trans KB)) KB).mono ?_;rintro r HC ⟨KC,hx⟩;rw[abX]at hx;rcases hx with⟨h,_⟩|⟨_,rb2,rfl,R2⟩
 ·cases h
 have KAC:=KB.trans KC;have B5C:=(K5A.trans KAC).bl B5 (by simp);rw[ae];simp-implicitDefEqProofs only[go_sem,↓reduceIte,Za,Zb,Zc,reduceCtorEq,Zf,Zg,Zh,Zi,Zd,Ze,B5C.aM 5 rfl];refine(start WH _ HC (.inr (.inr rfl)) (pH.aj (K5A.trans KAC)) KAC).mono ?_;rintro r HD ⟨KD,hx⟩;rw[abY]at hx;rcases hx with⟨_,rfl⟩|⟨h,_⟩
 case inr=>cases h
 have R1':=R1.aj (KC.trans KD);have R2':=R2.aj KD;have K0D:=Jo.trans (KAC.trans KD);have ask:∀(F:cf) (rb:Nat) (x:Int) (X:Hp),(F=WF\/F=WG\/F=WH)->dI HD rb F (mW.map bt) [0,0]->af (fun _=>False) HD X->an P (ι.f 386) #[.pointer (some ⟨rb,0,none⟩),.int .i64 0,.int .i64 x] X fun r X'=>r=.int .u8 (nJ F (mW.map bt) [0,0] 0 x)/\af (fun _=>False) X X':=fun F rb x X hF hR KX=>
  c.ask.1 F (mW.map bt) [0,0] rb 0 x X (hT.ai (K0D.trans KX)) (hR.aj KX) (okW hF) rfl (JD hF) (ae4 hF)
 rw[ae];have Ai:((0:Int)==0)=true:=rfl;have e12:((12:Int)==12)=true:=rfl;have e55:((5:Int)==5)=true:=rfl;have e11:((1:Int)==1)=true:=rfl;simp-implicitDefEqProofs only[go_sem,↓reduceIte,Za,Zb,Zc,reduceCtorEq,Zf,Zg,Zh,Zi,Zd,Ze,Ai,e12];refine(ask WF rb1 1 HD (.inl rfl) R1' (af.refl _ _)).mono ?_;rintro r X1 ⟨rfl,L1⟩;rw[ae];simp-implicitDefEqProofs only[go_sem,↓reduceIte,Za,Zb,Zc,reduceCtorEq,Zf,Zg,Zh,Zi,Zd,Ze,abZ,e55];refine(ask WF rb1 2 X1 (.inl rfl) R1' L1).mono ?_;rintro r X2 ⟨rfl,L2⟩;have M2:=L1.trans L2;rw[ae];simp-implicitDefEqProofs only[go_sem,↓reduceIte,Za,Zb,Zc,reduceCtorEq,Zf,Zg,Zh,Zi,Zd,Ze,ab0,e11];refine(c.pln.1 WF (mW.map bt) [0,0] rb1 X2 (hT.ai (K0D.trans M2)) (R1'.aj M2) (JD (.inl rfl)) (aaf (.inl rfl) (Oq (by decide)))).mono ?_;rintro r X3 ⟨L3,hp⟩;rw[Xu]at hp;have hp:aO X3 r (iL [2,1]):=hp;rw[ae];simp-implicitDefEqProofs only[go_sem,↓reduceIte,Za,Zb,Zc,reduceCtorEq,Zf,Zg,Zh,Zi,Zd,Ze];refine aF fun X4 p4 e4' z4' rZ L4=>?_;have ae6:Bl X4 p4 (iL [2,1]):=rZ;have M4:=(M2.trans L3).trans L4;simp-implicitDefEqProofs only[go_sem,↓reduceIte,Za,Zb,Zc,reduceCtorEq,Zf,Zg,Zh,Zi,Zd,Ze];refine(c.eqI [2,1] [2,1] r _ X4 (hp.ai L4 (by simp)) (aO.bl ae6 0 2 2 (by omega) (by simp[aA])) (by simp)).mono ?_;rintro r' X5 ⟨rfl,rfl⟩;have dq:decide (([2,1]:List Int)=[2,1])=true:=rfl;rw[ae];simp-implicitDefEqProofs only[go_sem,↓reduceIte,Za,Zb,Zc,reduceCtorEq,Zf,Zg,Zh,Zi,Zd,Ze,dq];refine(ask WG rb2 2 X5 (.inr (.inl rfl)) R2' M4).mono ?_;rintro r X6 ⟨rfl,L6⟩;have M6:=M4.trans L6;rw[ae];simp-implicitDefEqProofs only[go_sem,↓reduceIte,Za,Zb,Zc,reduceCtorEq,Zf,Zg,Zh,Zi,Zd,Ze,ab1,e55];refine(ask WG rb2 1 X6 (.inr (.inl rfl)) R2' M6).mono ?_;rintro r X7 ⟨rfl,L7⟩;rw[ae];simp-implicitDefEqProofs only[go_sem,↓reduceIte,Za,Zb,Zc,reduceCtorEq,Zf,Zg,Zh,Zi,Zd,Ze,ab2,e11];rw[hQ];exact⟨rfl,K0D.trans (M6.trans L7)⟩
end Go.Mg
namespace Go.Mg
open Go Go.RowKit
theorem PlI.is {r:dX} {H:Hp} {rb:Nat} {sv:Value} {st:List Int} (h:PlI r H rb sv st):IsI (dt r) ((bf r).map bt) (bf r) H rb sv st:=⟨h.run,h.ref,Gk r,h.ok.1⟩
end Go.Mg

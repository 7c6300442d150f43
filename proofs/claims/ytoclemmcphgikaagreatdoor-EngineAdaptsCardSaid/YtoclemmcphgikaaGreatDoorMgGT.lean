/- Several texts of ours in one. No conditions. -/
import Derived.Test.YtoclemmcphgikaaGreatDoorMgGP
import Derived.Test.YtoclemmcphgikaaGreatDoorMgGD
import Derived.Test.YtoclemmcphgikaaGreatDoorMgV9
open Nat renaming reduceEqDiff→Za,reduceAdd→Zb,reduceMul→Zc,reduceLeDiff→Zd,reduceLT→Ze
open Int renaming reduceBEq→Zf,reduceBNe→Zg,reduceLE→Zh,reduceLT→Zi
namespace Go.Mg
open Go Go.RowKit
set_option linter.all false
set_option maxRecDepth 100000
def c_plE (ι:Ids):S:=
 (.dr (kW 45 (.mv (.v 7)) (kW 47 (.mv (.v 9)) (kX 4 (.mv (.t 45)) (.wcons (.t 46) .none (.rd (.m (.ldn 7 (.v 8)))) (.wcons .no .none (.stn 7 (.v 5) (.t 46)) (kX 6 (.mv (.t 47)) .done) .wnil) .wnil)))))
def c_lplay (ι:Ids):S:=
 kY [kR 2 (ι.t 288) 0,kC 4 (.pointer .none),.e (.v 5) (.new (ι.t 396) #[kZ,kZ,kZ,kZ,kZ,kZ,kZ]),kC 6 (.bool false)] (kY [kM 12 7 2,.e (.t 13) (.call (ι.f 401) [.t 12]),kF 11 13,kQ 14 11 0,kQ 15 11 1,kQ 16 11 2,.e (.v 8) (.new (ι.t 396) #[kZ,kZ,kZ,kZ,kZ,kZ,kZ]),kB 7 14,.e .no (.stn 7 (.v 8) (.t 15)),kB 9 16] (.seq (kY [kC 10 (.int .i64 0)] (.blk 0 (.loop (.seq (kY [kA 17 10,kA 18 1,kL 19 18,kU 20 (.cm .lss .i64 (.t 17) (.t 19)),kF 21 20,kS 22 21 true 10,kT 23 21 true (.cm .lss .i64 (.t 22) (.c (.int .i64 12))),kJ 24 21 23,kF 25 24,kS 26 25 true 9,kJ 27 25 26,kF 28 27,kS 29 28 true 7,kT 30 28 true (.m (.eqn .ptr true (.t 29))),kV 31 (.pick (.t 28) (.t 30) (.c (.bool false)))] (.ite (.v 31) .skip (.exit 0))) (.seq (.blk 1 (.dr (kW 35 (.mv (.v 7)) (kW 37 (.mv (.v 1)) (kW 38 (.mv (.v 10)) (kW 39 (.is 2 (.t 37) (.t 38)) (kW 40 (.m (.ldn 2 (.t 39))) (.wcons (.t 36) .none (.rd (.m (.ldn 7 (.v 8)))) (.wcons (.t 41) .none (.call (ι.f 404) [.t 35,.t 36,.t 40]) (kW 34 (.mv (.t 41)) (kW 42 (.ext (.t 34) 0) (kW 43 (.ext (.t 34) 1) (kW 44 (.ext (.t 34) 2) (kX 7 (.mv (.t 42)) (.wcons .no .none (.stn 7 (.v 8) (.t 43)) (kX 9 (.mv (.t 44)) .done) .wnil)))))) .wnil) .wnil)))))))) (.reg [kA 32 10,kU 33 (.ar .add .i64 (.t 32) (.c (.int .i64 1))),kB 10 33])))))) (.seq (c_plE ι) .ret)))
def r_lplay:List RV:=[.t 4,.cn 5 7,.t 6]
variable {W W':Nat->Prop} {H:Hp} {rb:Nat} {F:FlN} {st:List Int}
theorem RunA.mono (h:RunA W H rb) (hw:∀q,W' q->W q):RunA W' H rb:=by
 obtain⟨a1,ev,a2,a3⟩:=h
 exact⟨fun h=>a1 (hw _ h),ev,a2,fun q hq h=>a3 q hq (hw _ h)⟩
theorem RunA.or (h:RunA W H rb) (h':RunA W' H rb):RunA (fun q=>W q\/W' q) H rb:=by
 obtain⟨a1,ev,a2,a3⟩:=h
 obtain⟨b1,ev',b2,b3⟩:=h'
 rw[a2]at b2
 cases b2
 exact⟨fun h=>h.elim a1 b1,ev,a2,fun q hq h=>h.elim (a3 q hq) (b3 q hq)⟩
theorem RunV.newer {el:List (Nat->Bool)} (h:RunV H rb F el st) (hW:∀q,W q->H.size<=q):RunA W H rb:=by
 obtain⟨s,b,d,a,m,ev,sv,vs,h1,h2,h3,h4,h5,h6,h7⟩:=h
 exact⟨fun h=>by have:=hW _ h;have:=h1.lt;omega,ev,by rw[h1.cell];rfl,fun q hq h=>by have:=hW _ h;have:=h3.old hq;omega⟩
theorem RunV.away7 {r:RawF} {p:Nat} (h:RunV H rb (mkF r) ((masksF r).map bt) st) (hne:cmpV (mkF r) (masksF r) st≠[]) (B:Bl H p [.slice none 0 0,.slice none 0 0,.slice none 0 0,.slice none 0 0,.slice none 0 0,.slice none 0 0,.slice none 0 0]):RunA (fun q=>q=p) H rb:=by
 obtain⟨t,ht⟩:∃t,t∈cmpV (mkF r) (masksF r) st:=by
  cases h:cmpV (mkF r) (masksF r) st with
  |nil=>exact absurd h hne
  |cons a l=>exact⟨a,List.mem_cons_self⟩
 have hn:=nuF_lt r
 have hl:=mkF_len r
 have hu:=(cmp_at ht (k:=0) (by omega)).2.2
 exact h.away (by rw[el_len];omega) (u:=(t.getD 0 0).toNat) (by rw[getD_map_bt];exact hu) B fun x hx=>by
  simp only[List.mem_cons,List.not_mem_nil,or_false,or_self]at hx
  exact hx
theorem RefRun.cs {v:Value} {ms:List UInt64} (h:RefRun H v F ms st):∃cs:List Value,v=.agg cs.toArray/\cs.length=7/\(cs.all fun v=>v.oneCell')=true/\∀x∈cs,isSl x:=by
 obtain⟨s,b,d,a,m,ev,sv,rfl,h1,h2,h3⟩:=h
 obtain⟨q1,q2,q3,q4,q5⟩:=h1.sl5
 refine⟨[s,b,d,a,m,ev,sv],rfl,rfl,sl7 h1.sl5 h2.isSl h3.isSl,fun x hx=>?_⟩
 simp only[List.mem_cons,List.not_mem_nil,or_false]at hx
 rcases hx with rfl|rfl|rfl|rfl|rfl|rfl|rfl
 ·exact q1
 ·exact q2
 ·exact q3
 ·exact q4
 ·exact q5
 ·exact h2.isSl
 ·exact h3.isSl
def PlyQ (r:RawF) (H:Hp) (x:Value) (H':Hp):Prop:=∃rp sv,x=.tuple #[rp,sv,.bool true]/\Keep (fun _=>False) H H'∧
 ((cmpV (mkF r) (masksF r) (zerS r)=[]/\rp=.pointer none/\RefRun H' sv (mkF r) (masksF r) (zerS r))\/∃rb st,rp=.pointer (some ⟨rb,0,none⟩)/\PlI r H' rb sv st)
def LPlaySpec (P:Program) (ι:Ids) (k:FuncId):Prop:=∀(r:RawF) (acts:List (UInt8×UInt8)) (v w:Value) (H:Hp),TabOk ι H->RawFV H v r->SlE enc8 2 H w acts->CallsM P k #[v,w] H (PlyQ r H)
def PlS (r:RawF) (b5 b8:Nat) (rp:Value) (cs:List Value) (A:Hp):Prop:=
 (cmpV (mkF r) (masksF r) (zerS r)=[]/\rp=.pointer none/\RefRun A (.agg cs.toArray) (mkF r) (masksF r) (zerS r))\/∃rb st,rp=.pointer (some ⟨rb,0,none⟩)/\PlI r A rb (.agg cs.toArray) st/\RunA (fun q=>q=b5\/q=b8) A rb
theorem lplay_ok {P:Program} {ι:Ids} {k:FuncId} (hk:FnIs P k (c_lplay ι) r_lplay 2) (hb:LBegSpec P ι (ι.f 401)) (hg:LGraSpec P ι (ι.f 404)):LPlaySpec P ι k:=by
 intro r acts v w H hT hv hw
 obtain⟨Q,hQ⟩:∃Q:Value->Hp->Prop,Q=PlyQ r H:=⟨_,rfl⟩
 rw[<-hQ]
 have hvr:=hv
 obtain⟨h0,ro,be,di,sa,mo,el,rfl,_⟩:=hv
 refine calls_of_vc hk (args:=[_,_]) (by simp) ?_
 unfold c_lplay r_lplay kA kB kF kC kJ kL kM kQ kR kS kT kU kV kW kX kY kZ
 simp only[go_sem,Za,Zb]
 refine kont_new fun H1 b2 e1 z1 B1 K1=>?_
 have B1':Bl H1 b2 [.int .u8 (r.n:Int),ro,be,di,sa,mo,el]:=B1
 simp only[go_sem,Za,Zb]
 refine kont_new fun H2 b5 e2 z2 B2 K2=>?_
 have B2':Bl H2 b5 [.slice none 0 0,.slice none 0 0,.slice none 0 0,.slice none 0 0,.slice none 0 0,.slice none 0 0,.slice none 0 0]:=B2
 have K02:=K1.trans K2
 have B12:=K2.bl B1' (by simp)
 simp only[go_sem,Za,Zb,B12.ldNO 7 rfl]
 refine(hb r _ H2 (hT.keep K02) (RawFV.keep0 hvr K02)).mono ?_
 rintro x H3 ⟨rp,sv,rfl,hR,K3,hcase⟩
 obtain⟨cs,rfl,hcl,hc1,hcs⟩:=hR.cs
 have K03:=K02.trans K3
 have B23:=K3.bl B2' (by simp)
 rw[kont_eq]
 simp only[go_sem,Za,Zb]
 refine kont_newstP cs rp rfl (by rfl) (by rfl) hcl rfl hc1 fun H4 b8 e4 z4 B4 K4=>?_
 have K04:=K03.trans K4
 have B24:=K4.bl B23 (by simp)
 have s1:=K1.size
 have s2:=K2.size
 have s3:=K3.size
 have l2:=B2'.lt
 have hS4:PlS r b5 b8 rp cs H4:=by
  rcases hcase with⟨h1,rfl⟩|⟨h1,rb,rfl,h2⟩
  ·exact .inl ⟨h1,rfl,hR.keep0 K4⟩
  ·refine .inr ⟨rb,zerS r,rfl,⟨h2.keep0 K4,hR.keep0 K4,zerS_okS r,h1,ord_rep _ _⟩,?_⟩
   exact((h2.away7 h1 B23).or (h2.newer (W:=fun q=>q=b8) fun q e=>by omega)).keep0 h2.lt K4
 simp only[go_sem,Za,Zb]
 refine vc_loop [31,7,9,10] rfl (fun n f A=>∃(i:Nat) (rp:Value) (cs:List Value),n+i=acts.length/\f 10=.int .i64 (i:Int)/\f 9=.bool true/\f 7=rp/\cs.length=7/\(∀x∈cs,isSl x)/\Bl A b8 cs/\PlS r b5 b8 rp cs A/\Keep (fun q=>q=b8) H4 A) acts.length ⟨0,rp,cs,by omega,by simp only[go_sem,Za,Zb,kont_eq],by simp only[go_sem,Za,Zb,kont_eq],by simp only[go_sem,Za,Zb,kont_eq],hcl,hcs,B4,hS4,Keep.refl _ _⟩ ?_
 rintro n f A ⟨i,rp',cs',hni,f10,f9,f7,hcl',hcs',BA,hSA,KA⟩
 simp only[go_sem,Za,Zb,kont_eq]at f10 f9 f7
 have K0A:Keep (fun _=>False) H A:=K04.trans' KA fun q hq e=>by omega
 have K2A:Keep (fun q=>q=b8) H2 A:=((K3.trans K4).any (W:=fun q=>q=b8)).trans KA
 have B2A:=K2A.bl B2' (by omega)
 have sA:=KA.size
 have s4:=K4.size
 have e0:(acts.length:Int)=(n:Int)+(i:Int):=by omega
 have out:∀(g:Fr),g 7=rp'->g 8=.pointer (some ⟨b8,0,none⟩)->g 9=.bool true->g 5=.pointer (some ⟨b5,0,none⟩)->vc P (c_plE ι) (thenQ (vc P .ret (retQ [.t 4,.cn 5 7,.t 6] Q)) (retQ [.t 4,.cn 5 7,.t 6] Q)) g A:=fun g g7 g8 g9 g5=>by
  unfold c_plE kW kX
  refine vc_drk (fun q=>q=b5) ?_
  have t5:=B2A.okNA (o:=0) (n:=7) (by simp)
  have a7:all1 cs'.toArray:=by
   rcases hSA with⟨_,_,hR'⟩|⟨rb,st,_,hP,_⟩
   ·obtain⟨c2,e,_,h1,_⟩:=hR'.cs
    have:cs'=c2:=by simpa using congrArg (fun v:Value=>match v with|.agg c=>c.toList|_=>[]) e
    rw[this];exact all1_of h1
   ·obtain⟨c2,e,_,h1,_⟩:=hP.ref.cs
    have:cs'=c2:=by simpa using congrArg (fun v:Value=>match v with|.agg c=>c.toList|_=>[]) e
    rw[this];exact all1_of h1
  have C5:Bl (stNA A ⟨b5,0,none⟩ cs') b5 cs':=by
   obtain⟨y0,y1,y2,y3,y4,y5,y6,rfl⟩:∃y0 y1 y2 y3 y4 y5 y6,cs'=[y0,y1,y2,y3,y4,y5,y6]:=by
    match cs',hcl' with
    |[y0,y1,y2,y3,y4,y5,y6],_=>exact⟨_,_,_,_,_,_,_,rfl⟩
   exact B2A.stNA 0 _
  have KS:Keep (fun q=>q=b5) A (stNA A ⟨b5,0,none⟩ cs'):=(Keep.refl _ _).stNA _ (.inl rfl)
  have hW:SlW A (fun q=>q=b5):=SlW.one B2A nil7_sl
  simp only[go_sem,Za,Zb,kont_eq,g7,g8,g9,g5,BA.ldNO 7 hcl'.symm,t5]
  rw[C5.ldNO 7 hcl'.symm]
  refine⟨Keep.refl _ _,⟨hcl',a7⟩,KS,rfl,?_⟩
  rw[hQ]
  refine⟨_,_,rfl,K0A.trans' KS fun q hq e=>by omega,?_⟩
  rcases hSA with⟨h1,rfl,hR'⟩|⟨rb,st,rfl,hP,hAA⟩
  ·exact .inl ⟨h1,rfl,hR'.keepW hW KS⟩
  ·exact .inr ⟨rb,st,rfl,hP.run.keepW (hAA.mono fun q h=>.inl h) hW KS,hP.ref.keepW hW KS,hP.ok,hP.ne,hP.ord⟩
 by_cases hn0:n=0
 ·have d1:decide ((i:Int)<(acts.length:Int))=false:=decide_eq_false (by omega)
  simp only[go_sem,Za,Zb,f10,hw.isSl,hw.len,d1]
  exact out _ (by simp only[go_sem,Za,Zb,kont_eq,f7]) (by rfl) (by simp only[go_sem,Za,Zb,kont_eq,f9]) (by rfl)
 have d1:decide ((i:Int)<(acts.length:Int))=true:=decide_eq_true (by omega)
 by_cases h12:(i:Int)<12
 case neg=>
  have d2:decide ((i:Int)<12)=false:=decide_eq_false h12
  simp only[go_sem,Za,Zb,f10,hw.isSl,hw.len,d1,d2]
  exact out _ (by simp only[go_sem,Za,Zb,kont_eq,f7]) (by rfl) (by simp only[go_sem,Za,Zb,kont_eq,f9]) (by rfl)
 have d2:decide ((i:Int)<12)=true:=decide_eq_true h12
 rcases hSA with⟨hz,rfl,hR'⟩|⟨rb,st,rfl,hP,hAA⟩
 ·simp only[go_sem,Za,Zb,f10,f9,f7,hw.isSl,hw.len,d1,d2]
  exact out _ (by simp only[go_sem,Za,Zb,kont_eq,f7]) (by rfl) (by simp only[go_sem,Za,Zb,kont_eq,f9]) (by rfl)
 ·simp only[go_sem,Za,Zb,f10,f9,f7,hw.isSl,hw.len,d1,d2]
  refine vc_drk (fun q=>q=b8) ?_
  have hi:i<acts.length:=by omega
  obtain⟨pb,po,pc,hwe,-,hld⟩:=(hw.keep0 K0A).elem enc8_len hi
  obtain⟨x,hx⟩:∃x,x=acts[i]:=⟨_,rfl⟩
  rw[<-hx]at hld
  have hld':ldNA A ⟨pb,po+i*2,none⟩ 2=some #[.int .u8 x.1.toNat,.int .u8 x.2.toNat]:=hld
  have t8:=BA.okNA (o:=0) (n:=7) (by omega)
  have hpb:pb<H.size:=(hw.old (q:=pb) (by rw[hwe];exact⟨rfl,by omega⟩))
  simp only[go_sem,Za,Zb,kont_eq,f7,f10,hwe,BA.ldNO 7 hcl'.symm,tn_cast,ldNO_ptr,hld']
  refine⟨by omega,by omega,Keep.refl _ _,(hg r st rb _ x.1 x.2 A (hT.keep K0A) hP).mono ?_⟩
  rintro y X ⟨rbn,svn,stn,rfl,hPn,KX,hWn⟩
  obtain⟨c2,rfl,hcl2,hc12,hcs2⟩:=hPn.ref.cs
  rw[kontK_eq]
  have BX:=KX.bl BA (by simp)
  have t8':=BX.okNA (o:=0) (n:=7) (by omega)
  have KS:Keep (fun q=>q=b8) X (stNA X ⟨b8,0,none⟩ c2):=(Keep.refl _ _).stNA _ (.inl rfl)
  have C8:Bl (stNA X ⟨b8,0,none⟩ c2) b8 c2:=by
   obtain⟨y0,y1,y2,y3,y4,y5,y6,rfl⟩:∃y0 y1 y2 y3 y4 y5 y6,c2=[y0,y1,y2,y3,y4,y5,y6]:=by
    match c2,hcl2 with
    |[y0,y1,y2,y3,y4,y5,y6],_=>exact⟨_,_,_,_,_,_,_,rfl⟩
   obtain⟨z0,z1,z2,z3,z4,z5,z6,rfl⟩:∃y0 y1 y2 y3 y4 y5 y6,cs'=[y0,y1,y2,y3,y4,y5,y6]:=by
    match cs',hcl' with
    |[y0,y1,y2,y3,y4,y5,y6],_=>exact⟨_,_,_,_,_,_,_,rfl⟩
   exact BX.stNA 0 _
  have hW:SlW X (fun q=>q=b8):=SlW.one BX hcs'
  have hAX:RunA (fun q=>q=b5\/q=b8) X rbn:=hWn _ (fun q hq=>by
   have:=BA.lt
   have:=B2A.lt
   rcases hq with rfl|rfl<;>omega) hAA
  have w1:IntKind.i64.wrap ((i:Int)+1)=(i:Int)+1:=IntWalk.i64_in _ (by omega)
  refine⟨KX.any,?_⟩
  simp only[go_sem,Za,Zb,kont_eq,t8',f10,w1]
  refine⟨⟨hcl2,all1_of hc12⟩,KS,?_⟩
  have hr8:¬rbn=b8:=fun e=>hAX.1 (.inr e)
  refine⟨n -1,by omega,i+1,_,c2,by omega,rfl,rfl,hcl2,hcs2,C8,.inr ⟨rbn,stn,rfl,⟨hPn.run.keepW (hAX.mono fun q h=>.inr h) hW KS,hPn.ref.keepW hW KS,hPn.ok,hPn.ne,hPn.ord⟩,hAX.keepW hPn.run.lt hr8 KS⟩,(KA.trans (KX.any)).trans KS⟩
end Go.Mg
namespace Go.Mg
open Go Go.RowKit
set_option linter.all false
set_option maxRecDepth 100000
def c_isB (ι:Ids):S:=
 (.dr (kW 8 (.mv (.v 0)) (kW 10 (.fa 6 (.v 3)) (kW 11 (.ld (.t 10)) (.wcons (.t 9) .none (.call (ι.f 379) [.t 8]) (.wcons (.t 12) .none (.call (ι.f 165) [.t 9,.t 11]) (kW 13 (.not (.t 12)) (kW 14 (.mv (.t 13)) (.px (.t 15) (.some (.t 14,false)) (.mv (.v 0)) (.px (.t 17) (.some (.t 14,false)) (.fa 0 (.v 3)) (.px (.t 18) (.some (.t 14,false)) (.m (.ldn 5 (.t 17))) (.px (.t 19) (.some (.t 14,false)) (.m (.ldn 7 (.v 3))) (.wcons (.t 16) (.some (.t 14,false)) (.call (ι.f 385) [.t 15]) (.wcons (.t 20) (.some (.t 14,false)) (.call (ι.f 398) [.t 19]) (.wcons (.t 21) (.some (.t 14,false)) (.call (ι.f 308) [.t 18,.t 20]) (.wcons (.t 22) (.some (.t 14,false)) (.call (ι.f 165) [.t 16,.t 21]) (.px (.t 23) (.some (.t 14,false)) (.not (.t 22)) (kW 24 (.pick (.t 14) (.c (.bool true)) (.t 23)) (kW 25 (.mv (.t 24)) (.px (.t 26) (.some (.t 25,false)) (.mv (.v 0)) (.px (.t 28) (.some (.t 25,false)) (.fa 6 (.v 3)) (.px (.t 29) (.some (.t 25,false)) (.ld (.t 28)) (.wcons (.t 27) (.some (.t 25,false)) (.call (ι.f 381) [.t 26]) (.wcons (.t 30) (.some (.t 25,false)) (.call (ι.f 158) [.t 29,.c (.int .i64 0)]) (.px (.t 31) (.some (.t 25,false)) (.not (.t 30)) (.px (.t 32) (.some (.t 25,false)) (.eqb true (.t 27) (.t 31)) (kX 33 (.pick (.t 25) (.c (.bool true)) (.t 32)) .done))) .wnil) .wnil))))))) .wnil) .wnil) .wnil) .wnil))))))) .wnil) .wnil)))))
def c_lis (ι:Ids):S:=
 kY [kR 3 (ι.t 396) 1,kC 4 (.bool false)] (.seq (.seq (c_isB ι) (.ite (.v 33) (kY [kC 4 (.bool false)] .ret) .skip)) (kY [kC 5 (kZ)] (.seq (kY [kG 34 6 3,kV 35 (.ld (.t 34)),kO 36 35,kC 37 (.int .i64 0)] (.blk 0 (.loop (kY [kH 38 37 36] (.seq (.ite (.v 38) .skip (.exit 0)) (.seq (.blk 1 (kY [kA 39 37,kK 40 1 35 37,kD 41 40,kB 6 39,kB 7 41] (kY [kA 42 7,kV 43 (.cm .neq .i64 (.t 42) (.c (.int .i64 0)))] (.ite (.v 43) (.reg [kA 44 5,kA 45 6,.e (.t 46) (.bldF (ι.t 26) 1 1 [.t 45]),.e (.t 47) (.app false (ι.t 26) 1 8 #[.int .i64 0] (.t 44) (.t 46)),kB 5 47]) .skip)))) (.reg [ke 48 37,kB 37 48]))))))) (kY [kA 49 0,.e (.t 50) (.call (ι.f 384) [.t 49]),kA 51 5,.e (.t 52) (.call (ι.f 165) [.t 50,.t 51]),kB 4 52] .ret))))
def r_lis:List RV:=[.t 4]
structure IsC (P:Program) (ι:Ids):Prop where
 stf:EStaffSpec P (ι.f 379)
 rdy:ERdySpec P ι (ι.f 385)
 fin:EFinSpec P (ι.f 381)
 don:EDon2Spec P ι (ι.f 384)
 rdon:RDonSpec P (ι.f 398)
 rrdy:RRdySpec P (ι.f 308)
 eqI:IEqSpec P (ι.f 165)
 con:IConSpec P (ι.f 158)
def dneL (st:List Int) (n:Nat):List Nat:=(List.range n).filter fun k=>decide (st.getD k 0≠0)
theorem dneL_succ (st:List Int) (n:Nat):dneL st (n+1)=dneL st n++if st.getD n 0≠0 then[n]else[]:=by
 unfold dneL
 rw[List.range_succ,List.filter_append]
 simp only[List.filter_cons,List.filter_nil,decide_eq_true_eq]
theorem mems_dn {st:List Int} {n:Nat} (hn:n<=4096):mems (doneP st n)=dneL st n:=by
 unfold mems dneL
 obtain⟨k,hk⟩:∃k,4096=n+k:=⟨4096 -n,by omega⟩
 rw[hk,List.range_add,List.filter_append,filter_none (l:=(List.range k).map (n+·)) fun x hx=>?_,List.append_nil]
 ·refine List.filter_congr fun x hx=>?_
  have:=List.mem_range.1 hx
  unfold doneP
  rw[decide_eq_true this,Bool.true_and]
 ·obtain⟨y,_,rfl⟩:=List.mem_map.1 hx
  unfold doneP
  rw[decide_eq_false (by omega),Bool.false_and]
structure IsI (F:FlN) (el:List (Nat->Bool)) (ms:List UInt64) (H:Hp) (rb:Nat) (sv:Value) (st:List Int):Prop where
 run:RunV H rb F el st
 ref:RefRun H sv F ms st
 ok:okF F=true
 sl:st.length=F.st.length
def LIsSpec (P:Program) (ι:Ids) (k:FuncId):Prop:=∀(F:FlN) (el:List (Nat->Bool)) (ms:List UInt64) (st:List Int) (rb:Nat) (sv:Value) (H:Hp),TabOk ι H->IsI F el ms H rb sv st->CallsM P k #[.pointer (some ⟨rb,0,none⟩),sv] H fun x H'=>x=.bool true/\Keep (fun _=>False) H H'
theorem lis_ok {P:Program} {ι:Ids} {k:FuncId} (hk:FnIs P k (c_lis ι) r_lis 2) (c:IsC P ι):LIsSpec P ι k:=by
 intro F el ms st rb sv H hT hI
 obtain⟨Q,hQ⟩:∃Q:Value->Hp->Prop,Q=fun x H'=>x=.bool true/\Keep (fun _=>False) H H':=⟨_,rfl⟩
 rw[<-hQ]
 have hRr:=hI.ref
 have hok:=hI.ok
 have hG:=okF_good hok
 have hlt:=hG.lt
 have hlim:=hG.lim
 unfold tooL at hlim
 have hsl:=hI.sl
 obtain⟨s,b,d,a,m,ev,sw,rfl,q1,q2,q3⟩:=hI.ref
 refine calls_of_vc hk (args:=[_,_]) (by simp) ?_
 unfold c_lis r_lis kA kB kC kD ke kG kH kK kO kR kV kY kZ
 simp-implicitDefEqProofs only[go_sem,↓reduceIte,Za,Zb,Zc,reduceCtorEq]
 refine kont_new fun H1 b3 e1 z1 B1 K1=>?_
 have B1':Bl H1 b3 [s,b,d,a,m,ev,sw]:=B1
 have c6:cell H1 ⟨b3,6,none⟩=some sw:=by rw[B1'.cell];rfl
 have l5:ldNA H1 ⟨b3,0,none⟩ 5=some #[s,b,d,a,m]:=by
  have:=B1'.ldNA (o:=0) (n:=5) (by simp)
  simpa using this
 simp-implicitDefEqProofs only[go_sem,↓reduceIte,Za,Zb,Zc,reduceCtorEq]
 unfold c_isB kW kX
 refine vc_drk (fun _=>False) ?_
 simp-implicitDefEqProofs only[go_sem,↓reduceIte,Za,Zb,Zc,reduceCtorEq,kont_eq,c6]
 refine(c.stf.1 F el st rb H1 (hI.run.keep0 K1) (by omega)).mono ?_
 rintro y H2 ⟨O2,o2,K2⟩
 rw[kontK_eq]
 refine⟨K2,?_⟩
 simp-implicitDefEqProofs only[go_sem,↓reduceIte,Za,Zb,Zc,reduceCtorEq,kont_eq]
 refine(c.eqI st st y sw H2 O2.sl ((q3.keep K1 (by simp)).keep K2 (by simp)) (by omega)).mono ?_
 rintro y H3 ⟨rfl,rfl⟩
 have hd:decide (st=st)=true:=decide_eq_true rfl
 rw[kontK_eq]
 refine⟨Keep.refl _ _,?_⟩
 have B3:=K2.bl B1' (by simp)
 have l53:ldNA H3 ⟨b3,0,none⟩ 5=some #[s,b,d,a,m]:=by
  have:=B3.ldNA (o:=0) (n:=5) (by simp)
  simpa using this
 simp-implicitDefEqProofs only[go_sem,↓reduceIte,Za,Zb,Zc,reduceCtorEq,kont_eq,hd,Bool.not_true,l53,ldNO_ptr,B3.ldNO 7 rfl]
 have K13:=K1.trans K2
 refine(c.rdy.1 F el st rb H3 (hT.keep K13) (hI.run.keep0 K13) hok (by omega)).mono ?_
 rintro y2 H4 ⟨O4,K4⟩
 have K14:=K13.trans K4
 rw[kontK_eq]
 refine⟨K4,?_⟩
 simp-implicitDefEqProofs only[go_sem,↓reduceIte,Za,Zb,Zc,reduceCtorEq,kont_eq]
 refine(c.rdon F ms st _ H4 (hRr.keep0 K14) (by omega)).mono ?_
 rintro y3 H5 ⟨rfl,K5⟩
 have K15:=K14.trans K5
 rw[kontK_eq]
 refine⟨K5,?_⟩
 simp-implicitDefEqProofs only[go_sem,↓reduceIte,Za,Zb,Zc,reduceCtorEq,kont_eq]
 refine(c.rrdy F _ (dnM st st.length) H5 (q1.keep0 K15) (by omega) (by omega) fun x hx=>(hG.be x hx).1).mono ?_
 rintro y4 H6 ⟨O6,o6,K6⟩
 rw[dnM_bt (by omega)]at O6
 have K16:=K15.trans K6
 rw[kontK_eq]
 refine⟨K6,?_⟩
 have hrn:=rdyL_len F.st.length F.be (doneP st st.length)
 obtain⟨rl,hrl⟩:∃rl,rl=rdyL F.st.length F.be (doneP st st.length):=⟨_,rfl⟩
 rw[<-hrl]at O4 O6 hrn
 simp-implicitDefEqProofs only[go_sem,↓reduceIte,Za,Zb,Zc,reduceCtorEq,kont_eq]
 refine(c.eqI (nI rl) (nI rl) y2 y4 H6 ((O4.keep K5 (by simp)).keep K6 (by simp)) O6.sl (by rw[nI_len];omega)).mono ?_
 rintro y5 H7 ⟨rfl,rfl⟩
 have hd2:decide (nI rl=nI rl)=true:=decide_eq_true rfl
 have B7:=(((K2.trans K4).trans K5).trans K6).bl B1' (by simp)
 have c67:cell H7 ⟨b3,6,none⟩=some sw:=by rw[B7.cell];rfl
 rw[kontK_eq]
 refine⟨Keep.refl _ _,?_⟩
 simp-implicitDefEqProofs only[go_sem,↓reduceIte,Za,Zb,Zc,reduceCtorEq,kont_eq,hd2,Bool.not_true,c67]
 refine(c.fin.1 F el st rb H7 (hI.run.keep0 K16) (by omega)).mono ?_
 rintro y6 H8 ⟨⟨bb,rfl,hbb⟩,rfl⟩
 rw[kontK_eq]
 refine⟨Keep.refl _ _,?_⟩
 simp-implicitDefEqProofs only[go_sem,↓reduceIte,Za,Zb,Zc,reduceCtorEq,kont_eq]
 refine(c.con st sw 0 H8 (q3.keep K16 (by simp)) (by omega)).mono ?_
 rintro y7 H9 ⟨⟨z,rfl,hz⟩,rfl⟩
 rw[kontK_eq]
 refine⟨Keep.refl _ _,?_⟩
 have hbz:bb=!z:=by
  cases bb with
  |true=>
   have h:=hbb.1 rfl
   cases z with
   |true=>exact absurd (hz.1 rfl) h
   |false=>rfl
  |false=>
   cases z with
   |true=>rfl
   |false=>
    have:0∉st:=fun h=>by have:=hz.2 h;cases this
    have:=hbb.2 this
    cases this
 subst hbz
 simp-implicitDefEqProofs only[go_sem,↓reduceIte,Za,Zb,Zc,reduceCtorEq,kont_eq,bne_self_eq_false]
 have q39:=q3.keep K16 (by simp)
 simp-implicitDefEqProofs only[go_sem,↓reduceIte,Za,Zb,Zc,reduceCtorEq,kont_eq,c67,q39.isSl,q39.len,iL_len]
 refine vc_range st.length [38,6,7,43,5,37] rfl rfl (by omega) (by rfl) (by rfl) (fun i g A=>∃lv,g 5=lv/\OwS A lv (iN (dneL st i))/\(∀q,ownB lv q->H9.size<=q)/\Keep (fun _=>False) H9 A) ⟨.slice none 0 0,by simp-implicitDefEqProofs only[go_sem,↓reduceIte,Za,Zb,Zc,reduceCtorEq,kont_eq],OwS.nil _,fun q h=>h.elim,Keep.refl _ _⟩ ?_ ?_
 ·rintro i g A hi gi gn ⟨lv,g5,OA,oA,KA⟩
  simp-implicitDefEqProofs only[go_sem,↓reduceIte,Za,Zb,Zc,reduceCtorEq,kont_eq]at gi gn g5
  have sA:=KA.size
  obtain⟨pb,po,pc,hse,hci⟩:=iL_cell (q39.keep KA (by simp)) hi
  have hll:(dneL st i).length<=i:=by
   unfold dneL
   have:=List.length_filter_le (fun k=>decide (st.getD k 0≠0)) (List.range i)
   rwa [List.length_range]at this
  by_cases h0:st.getD i 0=0
  ·have d0:(st.getD i 0 !=0)=false:=by rw[h0];rfl
   simp-implicitDefEqProofs only[go_sem,↓reduceIte,Za,Zb,Zc,reduceCtorEq,kont_eq,gi,hse,tn_cast,hci,d0,g5]
   refine⟨by omega,lv,rfl,?_,oA,KA⟩
   rw[dneL_succ,if_neg (by simpa using h0),List.append_nil];exact OA
  ·have d0:(st.getD i 0 !=0)=true:=by simpa using h0
   simp-implicitDefEqProofs only[go_sem,↓reduceIte,Za,Zb,Zc,reduceCtorEq,gi,hse,tn_cast,hci,d0,g5]
   refine⟨by omega,?_⟩
   refine kont_news fun A2 bb eb zb BB KB=>?_
   have BB':Bl A2 bb [.int .i64 (i:Int)]:=BB
   simp-implicitDefEqProofs only[go_sem,↓reduceIte,Za,Zb,Zc,reduceCtorEq,kont_eq,g5]
   refine app_slN H9.size (OA.keep KB (by simp)) oA (by have:=KB.size;omega) (SlR.bl BB' 0 1 1 (by omega) (by simp)) (all1_of rfl) rfl (by omega) (by simp[iN,iL];omega) fun v' A3 O3 o3 K3=>?_
   simp-implicitDefEqProofs only[go_sem,↓reduceIte,Za,Zb,Zc,reduceCtorEq,kont_eq]
   refine⟨v',rfl,?_,o3,(KA.trans KB).trans' K3 fun q hq h=>by omega⟩
   rw[dneL_succ,if_pos h0]
   have:iN (dneL st i++[i])=iN (dneL st i)++[.int .i64 (i:Int)]:=by simp[iN,iL]
   rw[this];exact O3
 ·rintro g A gi ⟨lv,g5,OA,oA,KA⟩
  simp-implicitDefEqProofs only[go_sem,↓reduceIte,Za,Zb,Zc,reduceCtorEq,kont_eq]at g5
  simp-implicitDefEqProofs only[go_sem,↓reduceIte,Za,Zb,Zc,reduceCtorEq,g5]
  refine(c.don.1 F el st rb A (hT.keep (K16.trans KA)) (hI.run.keep0 (K16.trans KA)) (by omega)).mono ?_
  rintro y8 A1 ⟨O8,K8⟩
  rw[kont_eq]
  have e8:memL (doneP st st.length)=iN (dneL st st.length):=by rw[<-mems_dn (st:=st) (n:=st.length) (by omega)];simp[memL,iN,iL]
  rw[e8]at O8
  have hll:(dneL st st.length).length<=st.length:=by
   unfold dneL
   have:=List.length_filter_le (fun k=>decide (st.getD k 0≠0)) (List.range st.length)
   rwa [List.length_range]at this
  simp-implicitDefEqProofs only[go_sem,↓reduceIte,Za,Zb,Zc,reduceCtorEq,g5]
  refine(c.eqI (nI (dneL st st.length)) (nI (dneL st st.length)) y8 lv A1 O8 (OA.sl.keep K8 (by simp)) (by rw[nI_len];omega)).mono ?_
  rintro y9 A2 ⟨rfl,rfl⟩
  rw[kont_eq]
  have hd3:decide (nI (dneL st st.length)=nI (dneL st st.length))=true:=decide_eq_true rfl
  simp-implicitDefEqProofs only[go_sem,↓reduceIte,Za,Zb,Zc,reduceCtorEq,kont_eq,hd3]
  rw[hQ]
  exact⟨rfl,(K16.trans KA).trans K8⟩
end Go.Mg
namespace Go.Mg
open Go Go.RowKit
set_option linter.all false
set_option maxRecDepth 100000
def c_eawk (ι:Ids):S:=
 kY [kC 0 (.bool false)] (kY [kU 11 (.m (.bld #[.string ⟨#[]⟩,.int .i64 0] [(0,(1,.c (.string ⟨#[97]⟩))),(1,(1,.c (.int .i64 1)))])),kU 12 (.m (.bld #[.string ⟨#[]⟩,.int .i64 0] [(0,(1,.c (.string ⟨#[98]⟩))),(1,(1,.c (.int .i64 1)))])),.e (.t 13) (.bldF (ι.t 297) 2 2 [.t 11,.t 12]),kU 14 (.m (.bld #[.int .i64 0,.int .i64 0] [(0,(1,.c (.int .i64 0))),(1,(1,.c (.int .i64 1)))])),.e (.t 15) (.bldF (ι.t 194) 2 1 [.t 14]),kU 16 (.m (.bld #[kZ,kZ,kZ,kZ,kZ] [(0,(1,.t 13)),(2,(1,.t 15))])),.e (.v 1) (.new (ι.t 296) #[kZ,kZ,kZ,kZ,kZ]),.e .no (.stn 5 (.v 1) (.t 16))] (kY [kG 17 0 1,kD 18 17,kG 19 2 1,kD 20 19,kU 21 (.m (.bld #[kZ,kZ,kZ,kZ,kZ] [(0,(1,.t 18)),(3,(1,.t 20))])),.e (.v 2) (.new (ι.t 296) #[kZ,kZ,kZ,kZ,kZ]),.e .no (.stn 5 (.v 2) (.t 21))] (kY [kG 22 0 1,kD 23 22,kG 24 2 1,kD 25 24,kG 26 2 1,kD 27 26,kU 28 (.m (.bld #[kZ,kZ,kZ,kZ,kZ] [(0,(1,.t 23)),(2,(1,.t 25)),(3,(1,.t 27))])),.e (.v 3) (.new (ι.t 296) #[kZ,kZ,kZ,kZ,kZ]),.e .no (.stn 5 (.v 3) (.t 28))] (kY [.e (.t 29) (.bldF (ι.t 26) 1 2 [.c (.int .i64 1),.c (.int .i64 2)]),.e (.t 30) (.call (ι.f 143) [.t 29]),.e (.t 31) (.bldF (ι.t 26) 1 1 [.c (.int .i64 1)]),.e (.t 32) (.call (ι.f 143) [.t 31]),.e (.t 33) (.bldF (ι.t 128) 1 2 [.t 30,.t 32]),kB 4 33] (kY [kM 35 5 1,kA 36 4,.e (.t 37) (.call (ι.f 391) [.t 35,.t 36]),kF 34 37,kQ 38 34 0,kQ 39 34 1,kB 5 38,kB 6 39] (kY [kM 41 5 2,kA 42 4,.e (.t 43) (.call (ι.f 391) [.t 41,.t 42]),kF 40 43,kQ 44 40 0,kQ 45 40 1,kB 7 44,kB 8 45] (kY [kM 47 5 3,kA 48 4,.e (.t 49) (.call (ι.f 391) [.t 47,.t 48]),kF 46 49,kQ 50 46 0,kQ 51 46 1,kF 9 50,kB 10 51] (kY [kA 52 6,kU 53 (.cm .eql .i64 (.t 52) (.c (.int .i64 0))),kF 54 53,kS 55 54 true 8,kT 56 54 true (.cm .eql .i64 (.t 55) (.c (.int .i64 0))),kJ 57 54 56,kF 58 57,kS 59 58 true 10,kT 60 58 true (.cm .eql .i64 (.t 59) (.c (.int .i64 12))),kJ 61 58 60,kF 62 61,kS 63 62 true 5,.ge (.t 64) (.t 62) true (.call (ι.f 386) [.t 63,.c (.int .i64 0),.c (.int .i64 1)]),kT 65 62 true (.cm .eql .u8 (.t 64) (.c (.int .u8 5))),kJ 66 62 65,kF 67 66,kS 68 67 true 5,.ge (.t 69) (.t 67) true (.call (ι.f 386) [.t 68,.c (.int .i64 0),.c (.int .i64 2)]),kT 70 67 true (.cm .eql .u8 (.t 69) (.c (.int .u8 1))),kJ 71 67 70,kF 72 71,kS 73 72 true 5,.ge (.t 74) (.t 72) true (.call (ι.f 382) [.t 73]),.ge (.t 75) (.t 72) true (.bldF (ι.t 26) 1 2 [.c (.int .i64 2),.c (.int .i64 1)]),.ge (.t 76) (.t 72) true (.call (ι.f 165) [.t 74,.t 75]),kJ 77 72 76,kF 78 77,kS 79 78 true 7,.ge (.t 80) (.t 78) true (.call (ι.f 386) [.t 79,.c (.int .i64 0),.c (.int .i64 2)]),kT 81 78 true (.cm .eql .u8 (.t 80) (.c (.int .u8 5))),kJ 82 78 81,kF 83 82,kS 84 83 true 7,.ge (.t 85) (.t 83) true (.call (ι.f 386) [.t 84,.c (.int .i64 0),.c (.int .i64 1)]),kT 86 83 true (.cm .eql .u8 (.t 85) (.c (.int .u8 1))),kJ 87 83 86,kB 0 87] .ret))))))))
def r_eawk:List RV:=[.t 0]
def WF:FlN:={st:=[([97],1),([98],1)],be:=[],di:=[(0,1)],sa:=[],mo:=[]}
def WG:FlN:={WF with di:=[],sa:=[(0,1)]}
def WH:FlN:={WF with sa:=[(0,1)]}
theorem acyW:Acy (relI []):=relI_lt_acy (by simp)
theorem stW:stE 63 (fun _=>false) WF.st 2=0:=by decide+kernel
variable {F:FlN}
theorem chkW (hF:F=WF\/F=WG\/F=WH):flwE F 63 (fun _=>false)=0:=by
 have h1:=stW
 have h2:acyE (relI [])=0:=acyE_0 acyW
 unfold flwE
 rcases hF with rfl|rfl|rfl
 ·rw[if_neg (by decide),if_neg (by unfold tooL;decide)]
  show orE (stE 63 (fun _=>false) WF.st 2) (orE (prE 2 WF.be) (orE (prE 2 WF.di) (orE (prE 2 WF.sa) (orE (moE 2 WF.mo) (acyE (relI []))))))=0
  rw[h1,h2];decide
 ·rw[if_neg (by decide),if_neg (by unfold tooL;decide)]
  show orE (stE 63 (fun _=>false) WF.st 2) (orE (prE 2 WG.be) (orE (prE 2 WG.di) (orE (prE 2 WG.sa) (orE (moE 2 WG.mo) (acyE (relI []))))))=0
  rw[h1,h2];decide
 ·rw[if_neg (by decide),if_neg (by unfold tooL;decide)]
  show orE (stE 63 (fun _=>false) WF.st 2) (orE (prE 2 WH.be) (orE (prE 2 WH.di) (orE (prE 2 WH.sa) (orE (moE 2 WH.mo) (acyE (relI []))))))=0
  rw[h1,h2];decide
theorem okW (hF:F=WF\/F=WG\/F=WH):okF F=true:=okF_iff.2 (chkW hF)
def mW:List UInt64:=[6,2]
theorem mW_ok:MsOk mW:=fun k u h=>by
 unfold bt at h
 have hk:k=0\/k=1\/2<=k:=by omega
 have hb:=Nat.ge_two_pow_of_testBit h
 have h4:u<3:=by
  apply Classical.byContradiction
  intro hc
  have:2^3<=2^u:=Nat.pow_le_pow_right (by omega) (by omega)
  rcases hk with rfl|rfl|hk
  ·have:(mW.getD 0 0).toNat=6:=rfl
   omega
  ·have:(mW.getD 1 0).toNat=2:=rfl
   omega
  ·have:mW.getD k 0=0:=by simp[mW,List.getD_eq_getElem?_getD,show¬k<2 by omega,List.getElem?_eq_none (show([6,2]:List UInt64).length<=k by simpa using hk)]
   rw[this]at hb
   have:(0:UInt64).toNat=0:=rfl
   have:=Nat.two_pow_pos u
   omega
 have h0:u≠0:=by
  rintro rfl
  rcases hk with rfl|rfl|hk
  ·revert h;decide
  ·revert h;decide
  ·have:mW.getD k 0=0:=by simp[mW,List.getD_eq_getElem?_getD,List.getElem?_eq_none (show([6,2]:List UInt64).length<=k by simpa using hk)]
   rw[this]at h
   simp at h
 omega
theorem ofP_two {l:List Int} {m:UInt64} {b:Nat} (hb:b<=10) (h1:∀n:Fin 11,ofP l n.val=bt m n.val) (h2:∀x∈l,x<=10) (h3:m.toNat<2^11):ofP l=bt m:=by
 funext n
 by_cases h:n<11
 ·exact h1 ⟨n,h⟩
 ·have e1:bt m n=false:=by
   unfold bt
   exact Nat.testBit_lt_two_pow (Nat.lt_of_lt_of_le h3 (Nat.pow_le_pow_right (by omega) (by omega)))
  rw[e1]
  unfold ofP
  have:¬((n:Int)∈l):=fun hm=>by have:=h2 _ hm;omega
  rw[decide_eq_false this,Bool.false_and]
theorem ofP_12:ofP [1,2]=bt 6:=ofP_two (b:=10) (by omega) (by decide) (by decide) (by decide)
theorem ofP_1:ofP [1]=bt 2:=ofP_two (b:=10) (by omega) (by decide) (by decide) (by decide)
theorem goodW (hF:F=WF\/F=WG\/F=WH):GoodP (pbOf F (mW.map bt)):=by
 have hG:=okF_good (okW hF)
 have hl:=hG.lim
 unfold tooL at hl
 have e:(pbOf F (mW.map bt)).el.length=F.st.length:=by rcases hF with rfl|rfl|rfl<;>rfl
 have e2:F.st.length=2:=by rcases hF with rfl|rfl|rfl<;>rfl
 refine⟨by omega,by omega,fun k u h=>?_,?_,?_,?_,?_,?_,?_⟩
 ·unfold elA pbOf at h
  rw[getD_map_bt]at h
  have:=mW_ok k u h
  omega
 ·show F.di.length<=20;omega
 ·show F.sa.length<=20;omega
 ·show F.mo.length<=20;omega
 ·rw[e];exact hG.di
 ·rw[e];exact hG.sa
 ·rw[e];exact hG.mo
theorem solW (hF:F=WF\/F=WG\/F=WH) {st:List Int} (h:okS 2 st):SolB (pbOf F (mW.map bt)) st:=by
 have e:(pbOf F (mW.map bt)).el.length=2:=by rcases hF with rfl|rfl|rfl<;>rfl
 exact solB_small (goodW hF) (by rw[e];exact h.U) (by omega)
theorem ok2 {a b:Int} (h:0<=a/\a<=4/\0<=b/\b<=4):okS 2 [a,b]:=⟨rfl,fun u hu=>by
 simp only[List.mem_cons,List.not_mem_nil,or_false]at hu
 rcases hu with rfl|rfl<;>omega⟩
theorem solW1:solF (pbOf WF (mW.map bt)) [0,0]=some [2,1]:=by rw[sol_cmp rfl mW_ok];decide+kernel
theorem solW2:solF (pbOf WG (mW.map bt)) [0,0]=some [1,1]:=by rw[sol_cmp rfl mW_ok];decide+kernel
theorem solW3:solF (pbOf WH (mW.map bt)) [0,0]=none:=by rw[sol_cmp rfl mW_ok];decide+kernel
theorem askW1:askF WF (mW.map bt) [0,0] 0 1=5:=by rw[ask_ref (F:=WF) (show okS WF.st.length [0,0]from ok2 (by decide)) (by decide) mW_ok];decide+kernel
theorem askW2:askF WF (mW.map bt) [0,0] 0 2=1:=by rw[ask_ref (F:=WF) (show okS WF.st.length [0,0]from ok2 (by decide)) (by decide) mW_ok];decide+kernel
theorem askW3:askF WG (mW.map bt) [0,0] 0 2=5:=by rw[ask_ref (F:=WG) (show okS WG.st.length [0,0]from ok2 (by decide)) (by decide) mW_ok];decide+kernel
theorem askW4:askF WG (mW.map bt) [0,0] 0 1=1:=by rw[ask_ref (F:=WG) (show okS WG.st.length [0,0]from ok2 (by decide)) (by decide) mW_ok];decide+kernel
theorem setW (hF:F=WF\/F=WG\/F=WH) (i:Nat) (u:Int) (hi:i<([0,0]:List Int).length) (hu:memI ((mW.map bt).getD i fun _=>false) u=true):SolB (pbOf F (mW.map bt)) (([0,0]:List Int).set i u):=by
 rw[getD_map_bt]at hu
 have:=(memI_ms mW_ok i u).1 hu
 exact solW hF ((ok2 (by decide)).set (by omega))
structure EAwC (P:Program) (ι:Ids):Prop where
 of_:BOfSpec P (ι.f 143)
 sta:EStartSpec P ι (ι.f 391)
 ask:EAskSpec P ι (ι.f 386)
 pln:EPlnSpec P ι (ι.f 382)
 eqI:IEqSpec P (ι.f 165)
def EAwkSpec (P:Program) (ι:Ids) (k:FuncId):Prop:=∀(H:Hp),TabOk ι H->CallsM P k #[] H fun r H'=>r=.bool true/\Keep (fun _=>False) H H'
theorem eawk_ok {P:Program} {ι:Ids} {k:FuncId} (hk:FnIs P k (c_eawk ι) r_eawk 0) (c:EAwC P ι):EAwkSpec P ι k:=by
 intro H hT
 obtain⟨Q,hQ⟩:∃Q:Value->Hp->Prop,Q=fun r H'=>r=.bool true/\Keep (fun _=>False) H H':=⟨_,rfl⟩
 rw[<-hQ]
 refine calls_of_vc hk (args:=[]) (by simp) ?_
 unfold c_eawk r_eawk kA kB kF kC kD kG kJ kM kQ kS kT kU kY kZ
 simp-implicitDefEqProofs only[go_sem,↓reduceIte,Za,Zb,Zc,reduceCtorEq,Zf,Zg,Zh,Zi,Zd,Ze]
 refine kont_news fun H1 p1 e1 z1 B1 K1=>?_
 have v1:SlE encS 2 H1 (.slice (some ⟨p1,0,none⟩) 2 2) WF.st:=SlE.bl B1 (l:=WF.st) rfl (by simp[WF]) (by simp[WF])
 simp-implicitDefEqProofs only[go_sem,↓reduceIte,Za,Zb,Zc,reduceCtorEq,Zf,Zg,Zh,Zi,Zd,Ze]
 refine kont_news fun H2 p2 e2 z2 B2 K2=>?_
 have v2:SlP H2 (.slice (some ⟨p2,0,none⟩) 1 1) WF.di:=SlE.bl B2 (l:=WF.di) rfl (by simp[WF]) (by simp[WF])
 simp-implicitDefEqProofs only[go_sem,↓reduceIte,Za,Zb,Zc,reduceCtorEq,Zf,Zg,Zh,Zi,Zd,Ze]
 refine kont_newst [.slice (some ⟨p1,0,none⟩) 2 2,.slice none 0 0,.slice (some ⟨p2,0,none⟩) 1 1,.slice none 0 0,.slice none 0 0] (by rfl) rfl rfl rfl fun H3 f1 e3 z3 B3 K3=>?_
 have c30:cell H3 ⟨f1,0,none⟩=some (.slice (some ⟨p1,0,none⟩) 2 2):=by rw[B3.cell];rfl
 have c32:cell H3 ⟨f1,2,none⟩=some (.slice (some ⟨p2,0,none⟩) 1 1):=by rw[B3.cell];rfl
 simp-implicitDefEqProofs only[go_sem,↓reduceIte,Za,Zb,Zc,reduceCtorEq,Zf,Zg,Zh,Zi,Zd,Ze,c30,c32]
 refine kont_newst [.slice (some ⟨p1,0,none⟩) 2 2,.slice none 0 0,.slice none 0 0,.slice (some ⟨p2,0,none⟩) 1 1,.slice none 0 0] (by rfl) rfl rfl rfl fun H4 f2 e4 z4 B4 K4=>?_
 have B34:=K4.bl B3 (by simp)
 have c40:cell H4 ⟨f1,0,none⟩=some (.slice (some ⟨p1,0,none⟩) 2 2):=by rw[B34.cell];rfl
 have c42:cell H4 ⟨f1,2,none⟩=some (.slice (some ⟨p2,0,none⟩) 1 1):=by rw[B34.cell];rfl
 simp-implicitDefEqProofs only[go_sem,↓reduceIte,Za,Zb,Zc,reduceCtorEq,Zf,Zg,Zh,Zi,Zd,Ze,c40,c42]
 refine kont_newst [.slice (some ⟨p1,0,none⟩) 2 2,.slice none 0 0,.slice (some ⟨p2,0,none⟩) 1 1,.slice (some ⟨p2,0,none⟩) 1 1,.slice none 0 0] (by rfl) rfl rfl rfl fun H5 f3 e5 z5 B5 K5=>?_
 have K15:=((K2.trans K3).trans K4).trans K5
 have w1:=v1.keep0 K15
 have w2:=v2.keep0 ((K3.trans K4).trans K5)
 have B35:=K5.bl B34 (by simp)
 have B45:=K5.bl B4 (by simp)
 have nilM:MosR H5 [] []:=⟨rfl,fun i h=>by simp at h⟩
 have pF:ProFl H5 (.agg #[.slice (some ⟨p1,0,none⟩) 2 2,.slice none 0 0,.slice (some ⟨p2,0,none⟩) 1 1,.slice none 0 0,.slice none 0 0]) WF:=⟨_,_,_,_,_,[],rfl,w1,SlE.nil _ _ _,w2,SlE.nil _ _ _,SlE.nil _ _ _,nilM⟩
 have pG:ProFl H5 (.agg #[.slice (some ⟨p1,0,none⟩) 2 2,.slice none 0 0,.slice none 0 0,.slice (some ⟨p2,0,none⟩) 1 1,.slice none 0 0]) WG:=⟨_,_,_,_,_,[],rfl,w1,SlE.nil _ _ _,SlE.nil _ _ _,w2,SlE.nil _ _ _,nilM⟩
 have pH:ProFl H5 (.agg #[.slice (some ⟨p1,0,none⟩) 2 2,.slice none 0 0,.slice (some ⟨p2,0,none⟩) 1 1,.slice (some ⟨p2,0,none⟩) 1 1,.slice none 0 0]) WH:=⟨_,_,_,_,_,[],rfl,w1,SlE.nil _ _ _,w2,w2,SlE.nil _ _ _,nilM⟩
 have K05:=K1.trans K15
 simp-implicitDefEqProofs only[go_sem,↓reduceIte,Za,Zb,Zc,reduceCtorEq,Zf,Zg,Zh,Zi,Zd,Ze]
 refine kont_news fun H6 p6 e6 z6 B6 K6=>?_
 have B6':Bl H6 p6 (iL [1,2]):=B6
 simp-implicitDefEqProofs only[go_sem,↓reduceIte,Za,Zb,Zc,reduceCtorEq,Zf,Zg,Zh,Zi,Zd,Ze]
 refine(c.of_ [1,2] _ H6 (SlR.bl B6' 0 2 2 (by omega) (by simp[iL_len])) (by simp)).mono ?_
 rintro r H7 ⟨hs7,K7,-⟩
 rw[ofP_12]at hs7
 obtain⟨u7,W7,rfl,hV7⟩:=hs7
 obtain⟨ua,uc,rfl,_⟩:=hV7.sl.mk
 rw[kont_eq]
 simp-implicitDefEqProofs only[go_sem,↓reduceIte,Za,Zb,Zc,reduceCtorEq,Zf,Zg,Zh,Zi,Zd,Ze]
 refine kont_news fun H8 p8 e8 z8 B8 K8=>?_
 have B8':Bl H8 p8 (iL [1]):=B8
 simp-implicitDefEqProofs only[go_sem,↓reduceIte,Za,Zb,Zc,reduceCtorEq,Zf,Zg,Zh,Zi,Zd,Ze]
 refine(c.of_ [1] _ H8 (SlR.bl B8' 0 1 1 (by omega) (by simp[iL_len])) (by simp)).mono ?_
 rintro r H9 ⟨hs9,K9,-⟩
 rw[ofP_1]at hs9
 obtain⟨u9,W9,rfl,hV9⟩:=hs9
 obtain⟨ub,ud,rfl,_⟩:=hV9.sl.mk
 rw[kont_eq]
 simp-implicitDefEqProofs only[go_sem,↓reduceIte,Za,Zb,Zc,reduceCtorEq,Zf,Zg,Zh,Zi,Zd,Ze]
 refine kont_news fun HA pA eA zA BA KA=>?_
 have K7A:=(K8.trans K9).trans KA
 have K5A:=(K6.trans K7).trans K7A
 have K0A:=K05.trans K5A
 have BA':Bl HA pA [.slice ua (w64 W7).length uc,.slice ub (w64 W9).length ud]:=BA
 have ev:SlR HA (.slice (some ⟨pA,0,none⟩) 2 2) [.slice ua (w64 W7).length uc,.slice ub (w64 W9).length ud]:=SlR.bl BA' 0 2 2 (by omega) (by simp)
 have hes:∀i,i<([.slice ua (w64 W7).length uc,.slice ub (w64 W9).length ud]:List Value).length->SetM HA (.agg #[([.slice ua (w64 W7).length uc,.slice ub (w64 W9).length ud]:List Value).getD i undef]) ((mW.map bt).getD i fun _=>false):=fun i hi=>by
  have:i=0\/i=1:=by simp at hi;omega
  rcases this with rfl|rfl
  ·exact SetM.keep0 ⟨_,W7,rfl,hV7⟩ K7A
  ·exact SetM.keep0 ⟨_,W9,rfl,hV9⟩ KA
 have start:∀(F:FlN) (v:Value) (X:Hp),(F=WF\/F=WG\/F=WH)->ProFl X v F->Keep (fun _=>False) HA X->CallsM P (ι.f 391) #[v,.slice (some ⟨pA,0,none⟩) 2 2] X fun r X'=>Keep (fun _=>False) X X'∧
   ((solF (pbOf F (mW.map bt)) [0,0]=none/\r=.tuple #[.pointer none,.int .i64 12])\/((solF (pbOf F (mW.map bt)) [0,0]).isSome=true/\∃rb,r=.tuple #[.pointer (some ⟨rb,0,none⟩),.int .i64 0]/\RunV X' rb F (mW.map bt) [0,0])):=fun F v X hF hP KX=>by
  have f2:F.st.length=2:=by rcases hF with rfl|rfl|rfl<;>rfl
  have fb:F.be.length<=1000:=by rcases hF with rfl|rfl|rfl<;>decide
  refine(c.sta F (mW.map bt) _ v _ X (hT.keep (K0A.trans KX)) hP (ev.keep KX (by simp)) rfl (by decide) (fun i hi=>(hes i hi).keep0 KX) fun _ _ _=>⟨goodW hF,solW hF (ok2 (by decide)),fb⟩).mono ?_
  rintro r X' ⟨K,hx⟩
  refine⟨K,?_⟩
  rcases hx with⟨h,_⟩|⟨_,h,_⟩|⟨_,_,⟨i,hi,u,hu,hu2⟩,_⟩|⟨_,_,_,h⟩
  ·exact absurd (chkW hF) h
  ·exact absurd (by rw[f2];rfl) h
  ·rw[getD_map_bt]at hu
   have:=mW_ok i u hu
   omega
  ·exact h
 have B3A:=K5A.bl B35 (by simp)
 simp-implicitDefEqProofs only[go_sem,↓reduceIte,Za,Zb,Zc,reduceCtorEq,Zf,Zg,Zh,Zi,Zd,Ze,B3A.ldNO 5 rfl]
 refine(start WF _ HA (.inl rfl) (pF.keep0 K5A) (Keep.refl _ _)).mono ?_
 rintro r HB ⟨KB,hx⟩
 rw[solW1]at hx
 rcases hx with⟨h,_⟩|⟨_,rb1,rfl,R1⟩
 ·cases h
 have B4B:=(K5A.trans KB).bl B45 (by simp)
 rw[kont_eq]
 simp-implicitDefEqProofs only[go_sem,↓reduceIte,Za,Zb,Zc,reduceCtorEq,Zf,Zg,Zh,Zi,Zd,Ze,B4B.ldNO 5 rfl]
 refine(start WG _ HB (.inr (.inl rfl)) (pG.keep0 (K5A.trans KB)) KB).mono ?_
 rintro r HC ⟨KC,hx⟩
 rw[solW2]at hx
 rcases hx with⟨h,_⟩|⟨_,rb2,rfl,R2⟩
 ·cases h
 have KAC:=KB.trans KC
 have B5C:=(K5A.trans KAC).bl B5 (by simp)
 rw[kont_eq]
 simp-implicitDefEqProofs only[go_sem,↓reduceIte,Za,Zb,Zc,reduceCtorEq,Zf,Zg,Zh,Zi,Zd,Ze,B5C.ldNO 5 rfl]
 refine(start WH _ HC (.inr (.inr rfl)) (pH.keep0 (K5A.trans KAC)) KAC).mono ?_
 rintro r HD ⟨KD,hx⟩
 rw[solW3]at hx
 rcases hx with⟨_,rfl⟩|⟨h,_⟩
 case inr=>cases h
 have R1':=R1.keep0 (KC.trans KD)
 have R2':=R2.keep0 KD
 have K0D:=K0A.trans (KAC.trans KD)
 have ask:∀(F:FlN) (rb:Nat) (x:Int) (X:Hp),(F=WF\/F=WG\/F=WH)->RunV HD rb F (mW.map bt) [0,0]->Keep (fun _=>False) HD X->CallsM P (ι.f 386) #[.pointer (some ⟨rb,0,none⟩),.int .i64 0,.int .i64 x] X fun r X'=>r=.int .u8 (askF F (mW.map bt) [0,0] 0 x)/\Keep (fun _=>False) X X':=fun F rb x X hF hR KX=>
  c.ask.1 F (mW.map bt) [0,0] rb 0 x X (hT.keep (K0D.trans KX)) (hR.keep0 KX) (okW hF) rfl (goodW hF) (setW hF)
 rw[kont_eq]
 have e00:((0:Int)==0)=true:=rfl
 have e12:((12:Int)==12)=true:=rfl
 have e55:((5:Int)==5)=true:=rfl
 have e11:((1:Int)==1)=true:=rfl
 simp-implicitDefEqProofs only[go_sem,↓reduceIte,Za,Zb,Zc,reduceCtorEq,Zf,Zg,Zh,Zi,Zd,Ze,e00,e12]
 refine(ask WF rb1 1 HD (.inl rfl) R1' (Keep.refl _ _)).mono ?_
 rintro r X1 ⟨rfl,L1⟩
 rw[kont_eq]
 simp-implicitDefEqProofs only[go_sem,↓reduceIte,Za,Zb,Zc,reduceCtorEq,Zf,Zg,Zh,Zi,Zd,Ze,askW1,e55]
 refine(ask WF rb1 2 X1 (.inl rfl) R1' L1).mono ?_
 rintro r X2 ⟨rfl,L2⟩
 have M2:=L1.trans L2
 rw[kont_eq]
 simp-implicitDefEqProofs only[go_sem,↓reduceIte,Za,Zb,Zc,reduceCtorEq,Zf,Zg,Zh,Zi,Zd,Ze,askW2,e11]
 refine(c.pln.1 WF (mW.map bt) [0,0] rb1 X2 (hT.keep (K0D.trans M2)) (R1'.keep0 M2) (goodW (.inl rfl)) (solW (.inl rfl) (ok2 (by decide)))).mono ?_
 rintro r X3 ⟨L3,hp⟩
 rw[solW1]at hp
 have hp:SlR X3 r (iL [2,1]):=hp
 rw[kont_eq]
 simp-implicitDefEqProofs only[go_sem,↓reduceIte,Za,Zb,Zc,reduceCtorEq,Zf,Zg,Zh,Zi,Zd,Ze]
 refine kont_news fun X4 p4 e4' z4' B4' L4=>?_
 have B4'':Bl X4 p4 (iL [2,1]):=B4'
 have M4:=(M2.trans L3).trans L4
 simp-implicitDefEqProofs only[go_sem,↓reduceIte,Za,Zb,Zc,reduceCtorEq,Zf,Zg,Zh,Zi,Zd,Ze]
 refine(c.eqI [2,1] [2,1] r _ X4 (hp.keep L4 (by simp)) (SlR.bl B4'' 0 2 2 (by omega) (by simp[iL_len])) (by simp)).mono ?_
 rintro r' X5 ⟨rfl,rfl⟩
 have dq:decide (([2,1]:List Int)=[2,1])=true:=rfl
 rw[kont_eq]
 simp-implicitDefEqProofs only[go_sem,↓reduceIte,Za,Zb,Zc,reduceCtorEq,Zf,Zg,Zh,Zi,Zd,Ze,dq]
 refine(ask WG rb2 2 X5 (.inr (.inl rfl)) R2' M4).mono ?_
 rintro r X6 ⟨rfl,L6⟩
 have M6:=M4.trans L6
 rw[kont_eq]
 simp-implicitDefEqProofs only[go_sem,↓reduceIte,Za,Zb,Zc,reduceCtorEq,Zf,Zg,Zh,Zi,Zd,Ze,askW3,e55]
 refine(ask WG rb2 1 X6 (.inr (.inl rfl)) R2' M6).mono ?_
 rintro r X7 ⟨rfl,L7⟩
 rw[kont_eq]
 simp-implicitDefEqProofs only[go_sem,↓reduceIte,Za,Zb,Zc,reduceCtorEq,Zf,Zg,Zh,Zi,Zd,Ze,askW4,e11]
 rw[hQ]
 exact⟨rfl,K0D.trans (M6.trans L7)⟩
end Go.Mg
namespace Go.Mg
open Go Go.RowKit
set_option linter.all false
set_option maxRecDepth 100000
theorem PlI.is {r:RawF} {H:Hp} {rb:Nat} {sv:Value} {st:List Int} (h:PlI r H rb sv st):IsI (mkF r) ((masksF r).map bt) (masksF r) H rb sv st:=⟨h.run,h.ref,mkF_ok r,h.ok.1⟩
end Go.Mg

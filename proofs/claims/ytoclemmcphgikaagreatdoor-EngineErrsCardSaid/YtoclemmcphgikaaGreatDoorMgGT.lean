/- Several texts of ours in one. No conditions. -/
import Derived.Test.YtoclemmcphgikaaGreatDoorMgGP
import Derived.Test.YtoclemmcphgikaaGreatDoorMgGD
import Derived.Test.YtoclemmcphgikaaGreatDoorMgV9
open Nat renaming reduceEqDiff→Za,reduceAdd→Zb,reduceMul→Zc,reduceLeDiff→Zd,reduceLT→Ze
open Int renaming reduceBEq→Zf,reduceBNe→Zg,reduceLE→Zh,reduceLT→Zi
namespace Go.Mg
open Go Go.RowKit
set_option linter.all false
set_option maxRecDepth 100000
variable {W W':Nat->Prop} {H:Hp} {rb:Nat}
theorem RunA.mono (h:RunA W H rb) (hw:∀q,W' q->W q):RunA W' H rb:=by
 obtain⟨a1,ev,a2,a3⟩:=h
 exact⟨fun h=>a1 (hw _ h),ev,a2,fun q hq h=>a3 q hq (hw _ h)⟩
theorem RunA.or (h:RunA W H rb) (h':RunA W' H rb):RunA (fun q=>W q\/W' q) H rb:=by
 obtain⟨a1,ev,a2,a3⟩:=h
 obtain⟨b1,ev',b2,b3⟩:=h'
 rw[a2]at b2
 cases b2
 exact⟨fun h=>h.elim a1 b1,ev,a2,fun q hq h=>h.elim (a3 q hq) (b3 q hq)⟩
theorem RefRun.cs {v:Value} {F:FlN} {ms:List UInt64} {st:List Int} (h:RefRun H v F ms st):∃cs:List Value,v=.agg cs.toArray/\cs.length=7/\(cs.all fun v=>v.oneCell')=true/\∀x∈cs,isSl x:=by
 obtain⟨s,b,d,a,m,ev,sv,rfl,h1,h2,h3⟩:=h
 obtain⟨q1,q2,q3,q4,q5⟩:=h1.sl5
 refine⟨[s,b,d,a,m,ev,sv],rfl,rfl,sl7 h1.sl5 h2.isSl h3.isSl,fun x hx=>?_⟩
 simp only[List.mem_cons,List.not_mem_nil,or_false]at hx
 rcases hx with rfl|rfl|rfl|rfl|rfl|rfl|rfl
 ·exact q1
 ·exact q2
 ·exact q3
 ·exact q4
 ·exact q5
 ·exact h2.isSl
 ·exact h3.isSl
end Go.Mg
namespace Go.Mg
open Go Go.RowKit
set_option linter.all false
set_option maxRecDepth 100000
structure IsI (F:FlN) (el:List (Nat->Bool)) (ms:List UInt64) (H:Hp) (rb:Nat) (sv:Value) (st:List Int):Prop where
 run:RunV H rb F el st
 ref:RefRun H sv F ms st
 ok:okF F=true
 sl:st.length=F.st.length
end Go.Mg
namespace Go.Mg
open Go Go.RowKit
set_option linter.all false
set_option maxRecDepth 100000
def c_eawk (ι:Ids):S:=
 kY [kC 0 (.bool false)] (kY [kU 11 (.m (.bld #[.string ⟨#[]⟩,.int .i64 0] [(0,(1,.c (.string ⟨#[97]⟩))),(1,(1,.c (.int .i64 1)))])),kU 12 (.m (.bld #[.string ⟨#[]⟩,.int .i64 0] [(0,(1,.c (.string ⟨#[98]⟩))),(1,(1,.c (.int .i64 1)))])),.e (.t 13) (.bldF (ι.t 297) 2 2 [.t 11,.t 12]),kU 14 (.m (.bld #[.int .i64 0,.int .i64 0] [(0,(1,.c (.int .i64 0))),(1,(1,.c (.int .i64 1)))])),.e (.t 15) (.bldF (ι.t 194) 2 1 [.t 14]),kU 16 (.m (.bld #[kZ,kZ,kZ,kZ,kZ] [(0,(1,.t 13)),(2,(1,.t 15))])),.e (.v 1) (.new (ι.t 296) #[kZ,kZ,kZ,kZ,kZ]),.e .no (.stn 5 (.v 1) (.t 16))] (kY [kG 17 0 1,kD 18 17,kG 19 2 1,kD 20 19,kU 21 (.m (.bld #[kZ,kZ,kZ,kZ,kZ] [(0,(1,.t 18)),(3,(1,.t 20))])),.e (.v 2) (.new (ι.t 296) #[kZ,kZ,kZ,kZ,kZ]),.e .no (.stn 5 (.v 2) (.t 21))] (kY [kG 22 0 1,kD 23 22,kG 24 2 1,kD 25 24,kG 26 2 1,kD 27 26,kU 28 (.m (.bld #[kZ,kZ,kZ,kZ,kZ] [(0,(1,.t 23)),(2,(1,.t 25)),(3,(1,.t 27))])),.e (.v 3) (.new (ι.t 296) #[kZ,kZ,kZ,kZ,kZ]),.e .no (.stn 5 (.v 3) (.t 28))] (kY [.e (.t 29) (.bldF (ι.t 26) 1 2 [.c (.int .i64 1),.c (.int .i64 2)]),.e (.t 30) (.call (ι.f 143) [.t 29]),.e (.t 31) (.bldF (ι.t 26) 1 1 [.c (.int .i64 1)]),.e (.t 32) (.call (ι.f 143) [.t 31]),.e (.t 33) (.bldF (ι.t 128) 1 2 [.t 30,.t 32]),kB 4 33] (kY [kM 35 5 1,kA 36 4,.e (.t 37) (.call (ι.f 391) [.t 35,.t 36]),kF 34 37,kQ 38 34 0,kQ 39 34 1,kB 5 38,kB 6 39] (kY [kM 41 5 2,kA 42 4,.e (.t 43) (.call (ι.f 391) [.t 41,.t 42]),kF 40 43,kQ 44 40 0,kQ 45 40 1,kB 7 44,kB 8 45] (kY [kM 47 5 3,kA 48 4,.e (.t 49) (.call (ι.f 391) [.t 47,.t 48]),kF 46 49,kQ 50 46 0,kQ 51 46 1,kF 9 50,kB 10 51] (kY [kA 52 6,kU 53 (.cm .eql .i64 (.t 52) (.c (.int .i64 0))),kF 54 53,kS 55 54 true 8,kT 56 54 true (.cm .eql .i64 (.t 55) (.c (.int .i64 0))),kJ 57 54 56,kF 58 57,kS 59 58 true 10,kT 60 58 true (.cm .eql .i64 (.t 59) (.c (.int .i64 12))),kJ 61 58 60,kF 62 61,kS 63 62 true 5,.ge (.t 64) (.t 62) true (.call (ι.f 386) [.t 63,.c (.int .i64 0),.c (.int .i64 1)]),kT 65 62 true (.cm .eql .u8 (.t 64) (.c (.int .u8 5))),kJ 66 62 65,kF 67 66,kS 68 67 true 5,.ge (.t 69) (.t 67) true (.call (ι.f 386) [.t 68,.c (.int .i64 0),.c (.int .i64 2)]),kT 70 67 true (.cm .eql .u8 (.t 69) (.c (.int .u8 1))),kJ 71 67 70,kF 72 71,kS 73 72 true 5,.ge (.t 74) (.t 72) true (.call (ι.f 382) [.t 73]),.ge (.t 75) (.t 72) true (.bldF (ι.t 26) 1 2 [.c (.int .i64 2),.c (.int .i64 1)]),.ge (.t 76) (.t 72) true (.call (ι.f 165) [.t 74,.t 75]),kJ 77 72 76,kF 78 77,kS 79 78 true 7,.ge (.t 80) (.t 78) true (.call (ι.f 386) [.t 79,.c (.int .i64 0),.c (.int .i64 2)]),kT 81 78 true (.cm .eql .u8 (.t 80) (.c (.int .u8 5))),kJ 82 78 81,kF 83 82,kS 84 83 true 7,.ge (.t 85) (.t 83) true (.call (ι.f 386) [.t 84,.c (.int .i64 0),.c (.int .i64 1)]),kT 86 83 true (.cm .eql .u8 (.t 85) (.c (.int .u8 1))),kJ 87 83 86,kB 0 87] .ret))))))))
def r_eawk:List RV:=[.t 0]
def WF:FlN:={st:=[([97],1),([98],1)],be:=[],di:=[(0,1)],sa:=[],mo:=[]}
def WG:FlN:={WF with di:=[],sa:=[(0,1)]}
def WH:FlN:={WF with sa:=[(0,1)]}
theorem acyW:Acy (relI []):=relI_lt_acy (by simp)
theorem stW:stE 63 (fun _=>false) WF.st 2=0:=by decide+kernel
variable {F:FlN}
theorem chkW (hF:F=WF\/F=WG\/F=WH):flwE F 63 (fun _=>false)=0:=by
 have h1:=stW
 have h2:acyE (relI [])=0:=acyE_0 acyW
 unfold flwE
 rcases hF with rfl|rfl|rfl
 ·rw[if_neg (by decide),if_neg (by unfold tooL;decide)]
  show orE (stE 63 (fun _=>false) WF.st 2) (orE (prE 2 WF.be) (orE (prE 2 WF.di) (orE (prE 2 WF.sa) (orE (moE 2 WF.mo) (acyE (relI []))))))=0
  rw[h1,h2];decide
 ·rw[if_neg (by decide),if_neg (by unfold tooL;decide)]
  show orE (stE 63 (fun _=>false) WF.st 2) (orE (prE 2 WG.be) (orE (prE 2 WG.di) (orE (prE 2 WG.sa) (orE (moE 2 WG.mo) (acyE (relI []))))))=0
  rw[h1,h2];decide
 ·rw[if_neg (by decide),if_neg (by unfold tooL;decide)]
  show orE (stE 63 (fun _=>false) WF.st 2) (orE (prE 2 WH.be) (orE (prE 2 WH.di) (orE (prE 2 WH.sa) (orE (moE 2 WH.mo) (acyE (relI []))))))=0
  rw[h1,h2];decide
theorem okW (hF:F=WF\/F=WG\/F=WH):okF F=true:=okF_iff.2 (chkW hF)
def mW:List UInt64:=[6,2]
theorem mW_ok:MsOk mW:=fun k u h=>by
 unfold bt at h
 have hk:k=0\/k=1\/2<=k:=by omega
 have hb:=Nat.ge_two_pow_of_testBit h
 have h4:u<3:=by
  apply Classical.byContradiction
  intro hc
  have:2^3<=2^u:=Nat.pow_le_pow_right (by omega) (by omega)
  rcases hk with rfl|rfl|hk
  ·have:(mW.getD 0 0).toNat=6:=rfl
   omega
  ·have:(mW.getD 1 0).toNat=2:=rfl
   omega
  ·have:mW.getD k 0=0:=by simp[mW,List.getD_eq_getElem?_getD,show¬k<2 by omega,List.getElem?_eq_none (show([6,2]:List UInt64).length<=k by simpa using hk)]
   rw[this]at hb
   have:(0:UInt64).toNat=0:=rfl
   have:=Nat.two_pow_pos u
   omega
 have h0:u≠0:=by
  rintro rfl
  rcases hk with rfl|rfl|hk
  ·revert h;decide
  ·revert h;decide
  ·have:mW.getD k 0=0:=by simp[mW,List.getD_eq_getElem?_getD,List.getElem?_eq_none (show([6,2]:List UInt64).length<=k by simpa using hk)]
   rw[this]at h
   simp at h
 omega
theorem ofP_two {l:List Int} {m:UInt64} {b:Nat} (hb:b<=10) (h1:∀n:Fin 11,ofP l n.val=bt m n.val) (h2:∀x∈l,x<=10) (h3:m.toNat<2^11):ofP l=bt m:=by
 funext n
 by_cases h:n<11
 ·exact h1 ⟨n,h⟩
 ·have e1:bt m n=false:=by
   unfold bt
   exact Nat.testBit_lt_two_pow (Nat.lt_of_lt_of_le h3 (Nat.pow_le_pow_right (by omega) (by omega)))
  rw[e1]
  unfold ofP
  have:¬((n:Int)∈l):=fun hm=>by have:=h2 _ hm;omega
  rw[decide_eq_false this,Bool.false_and]
theorem ofP_12:ofP [1,2]=bt 6:=ofP_two (b:=10) (by omega) (by decide) (by decide) (by decide)
theorem ofP_1:ofP [1]=bt 2:=ofP_two (b:=10) (by omega) (by decide) (by decide) (by decide)
theorem goodW (hF:F=WF\/F=WG\/F=WH):GoodP (pbOf F (mW.map bt)):=by
 have hG:=okF_good (okW hF)
 have hl:=hG.lim
 unfold tooL at hl
 have e:(pbOf F (mW.map bt)).el.length=F.st.length:=by rcases hF with rfl|rfl|rfl<;>rfl
 have e2:F.st.length=2:=by rcases hF with rfl|rfl|rfl<;>rfl
 refine⟨by omega,by omega,fun k u h=>?_,?_,?_,?_,?_,?_,?_⟩
 ·unfold elA pbOf at h
  rw[getD_map_bt]at h
  have:=mW_ok k u h
  omega
 ·show F.di.length<=20;omega
 ·show F.sa.length<=20;omega
 ·show F.mo.length<=20;omega
 ·rw[e];exact hG.di
 ·rw[e];exact hG.sa
 ·rw[e];exact hG.mo
theorem solW (hF:F=WF\/F=WG\/F=WH) {st:List Int} (h:okS 2 st):SolB (pbOf F (mW.map bt)) st:=by
 have e:(pbOf F (mW.map bt)).el.length=2:=by rcases hF with rfl|rfl|rfl<;>rfl
 exact solB_small (goodW hF) (by rw[e];exact h.U) (by omega)
theorem ok2 {a b:Int} (h:0<=a/\a<=4/\0<=b/\b<=4):okS 2 [a,b]:=⟨rfl,fun u hu=>by
 simp only[List.mem_cons,List.not_mem_nil,or_false]at hu
 rcases hu with rfl|rfl<;>omega⟩
theorem solW1:solF (pbOf WF (mW.map bt)) [0,0]=some [2,1]:=by rw[sol_cmp rfl mW_ok];decide+kernel
theorem solW2:solF (pbOf WG (mW.map bt)) [0,0]=some [1,1]:=by rw[sol_cmp rfl mW_ok];decide+kernel
theorem solW3:solF (pbOf WH (mW.map bt)) [0,0]=none:=by rw[sol_cmp rfl mW_ok];decide+kernel
theorem askW1:askF WF (mW.map bt) [0,0] 0 1=5:=by rw[ask_ref (F:=WF) (show okS WF.st.length [0,0]from ok2 (by decide)) (by decide) mW_ok];decide+kernel
theorem askW2:askF WF (mW.map bt) [0,0] 0 2=1:=by rw[ask_ref (F:=WF) (show okS WF.st.length [0,0]from ok2 (by decide)) (by decide) mW_ok];decide+kernel
theorem askW3:askF WG (mW.map bt) [0,0] 0 2=5:=by rw[ask_ref (F:=WG) (show okS WG.st.length [0,0]from ok2 (by decide)) (by decide) mW_ok];decide+kernel
theorem askW4:askF WG (mW.map bt) [0,0] 0 1=1:=by rw[ask_ref (F:=WG) (show okS WG.st.length [0,0]from ok2 (by decide)) (by decide) mW_ok];decide+kernel
theorem setW (hF:F=WF\/F=WG\/F=WH) (i:Nat) (u:Int) (hi:i<([0,0]:List Int).length) (hu:memI ((mW.map bt).getD i fun _=>false) u=true):SolB (pbOf F (mW.map bt)) (([0,0]:List Int).set i u):=by
 rw[getD_map_bt]at hu
 have:=(memI_ms mW_ok i u).1 hu
 exact solW hF ((ok2 (by decide)).set (by omega))
structure EAwC (P:Program) (ι:Ids):Prop where
 of_:BOfSpec P (ι.f 143)
 sta:EStartSpec P ι (ι.f 391)
 ask:EAskSpec P ι (ι.f 386)
 pln:EPlnSpec P ι (ι.f 382)
 eqI:IEqSpec P (ι.f 165)
def EAwkSpec (P:Program) (ι:Ids) (k:FuncId):Prop:=∀(H:Hp),TabOk ι H->CallsM P k #[] H fun r H'=>r=.bool true/\Keep (fun _=>False) H H'
theorem eawk_ok {P:Program} {ι:Ids} {k:FuncId} (hk:FnIs P k (c_eawk ι) r_eawk 0) (c:EAwC P ι):EAwkSpec P ι k:=by
 intro H hT
 obtain⟨Q,hQ⟩:∃Q:Value->Hp->Prop,Q=fun r H'=>r=.bool true/\Keep (fun _=>False) H H':=⟨_,rfl⟩
 rw[<-hQ]
 refine calls_of_vc hk (args:=[]) (by simp) ?_
 unfold c_eawk r_eawk kA kB kF kC kD kG kJ kM kQ kS kT kU kY kZ
 simp-implicitDefEqProofs only[go_sem,↓reduceIte,Za,Zb,Zc,reduceCtorEq,Zf,Zg,Zh,Zi,Zd,Ze]
 refine kont_news fun H1 p1 e1 z1 B1 K1=>?_
 have v1:SlE encS 2 H1 (.slice (some ⟨p1,0,none⟩) 2 2) WF.st:=SlE.bl B1 (l:=WF.st) rfl (by simp[WF]) (by simp[WF])
 simp-implicitDefEqProofs only[go_sem,↓reduceIte,Za,Zb,Zc,reduceCtorEq,Zf,Zg,Zh,Zi,Zd,Ze]
 refine kont_news fun H2 p2 e2 z2 B2 K2=>?_
 have v2:SlP H2 (.slice (some ⟨p2,0,none⟩) 1 1) WF.di:=SlE.bl B2 (l:=WF.di) rfl (by simp[WF]) (by simp[WF])
 simp-implicitDefEqProofs only[go_sem,↓reduceIte,Za,Zb,Zc,reduceCtorEq,Zf,Zg,Zh,Zi,Zd,Ze]
 refine kont_newst [.slice (some ⟨p1,0,none⟩) 2 2,.slice none 0 0,.slice (some ⟨p2,0,none⟩) 1 1,.slice none 0 0,.slice none 0 0] (by rfl) rfl rfl rfl fun H3 f1 e3 z3 B3 K3=>?_
 have c30:cell H3 ⟨f1,0,none⟩=some (.slice (some ⟨p1,0,none⟩) 2 2):=by rw[B3.cell];rfl
 have c32:cell H3 ⟨f1,2,none⟩=some (.slice (some ⟨p2,0,none⟩) 1 1):=by rw[B3.cell];rfl
 simp-implicitDefEqProofs only[go_sem,↓reduceIte,Za,Zb,Zc,reduceCtorEq,Zf,Zg,Zh,Zi,Zd,Ze,c30,c32]
 refine kont_newst [.slice (some ⟨p1,0,none⟩) 2 2,.slice none 0 0,.slice none 0 0,.slice (some ⟨p2,0,none⟩) 1 1,.slice none 0 0] (by rfl) rfl rfl rfl fun H4 f2 e4 z4 B4 K4=>?_
 have B34:=K4.bl B3 (by simp)
 have c40:cell H4 ⟨f1,0,none⟩=some (.slice (some ⟨p1,0,none⟩) 2 2):=by rw[B34.cell];rfl
 have c42:cell H4 ⟨f1,2,none⟩=some (.slice (some ⟨p2,0,none⟩) 1 1):=by rw[B34.cell];rfl
 simp-implicitDefEqProofs only[go_sem,↓reduceIte,Za,Zb,Zc,reduceCtorEq,Zf,Zg,Zh,Zi,Zd,Ze,c40,c42]
 refine kont_newst [.slice (some ⟨p1,0,none⟩) 2 2,.slice none 0 0,.slice (some ⟨p2,0,none⟩) 1 1,.slice (some ⟨p2,0,none⟩) 1 1,.slice none 0 0] (by rfl) rfl rfl rfl fun H5 f3 e5 z5 B5 K5=>?_
 have K15:=((K2.trans K3).trans K4).trans K5
 have w1:=v1.keep0 K15
 have w2:=v2.keep0 ((K3.trans K4).trans K5)
 have B35:=K5.bl B34 (by simp)
 have B45:=K5.bl B4 (by simp)
 have nilM:MosR H5 [] []:=⟨rfl,fun i h=>by simp at h⟩
 have pF:ProFl H5 (.agg #[.slice (some ⟨p1,0,none⟩) 2 2,.slice none 0 0,.slice (some ⟨p2,0,none⟩) 1 1,.slice none 0 0,.slice none 0 0]) WF:=⟨_,_,_,_,_,[],rfl,w1,SlE.nil _ _ _,w2,SlE.nil _ _ _,SlE.nil _ _ _,nilM⟩
 have pG:ProFl H5 (.agg #[.slice (some ⟨p1,0,none⟩) 2 2,.slice none 0 0,.slice none 0 0,.slice (some ⟨p2,0,none⟩) 1 1,.slice none 0 0]) WG:=⟨_,_,_,_,_,[],rfl,w1,SlE.nil _ _ _,SlE.nil _ _ _,w2,SlE.nil _ _ _,nilM⟩
 have pH:ProFl H5 (.agg #[.slice (some ⟨p1,0,none⟩) 2 2,.slice none 0 0,.slice (some ⟨p2,0,none⟩) 1 1,.slice (some ⟨p2,0,none⟩) 1 1,.slice none 0 0]) WH:=⟨_,_,_,_,_,[],rfl,w1,SlE.nil _ _ _,w2,w2,SlE.nil _ _ _,nilM⟩
 have K05:=K1.trans K15
 simp-implicitDefEqProofs only[go_sem,↓reduceIte,Za,Zb,Zc,reduceCtorEq,Zf,Zg,Zh,Zi,Zd,Ze]
 refine kont_news fun H6 p6 e6 z6 B6 K6=>?_
 have B6':Bl H6 p6 (iL [1,2]):=B6
 simp-implicitDefEqProofs only[go_sem,↓reduceIte,Za,Zb,Zc,reduceCtorEq,Zf,Zg,Zh,Zi,Zd,Ze]
 refine(c.of_ [1,2] _ H6 (SlR.bl B6' 0 2 2 (by omega) (by simp[iL_len])) (by simp)).mono ?_
 rintro r H7 ⟨hs7,K7,-⟩
 rw[ofP_12]at hs7
 obtain⟨u7,W7,rfl,hV7⟩:=hs7
 obtain⟨ua,uc,rfl,_⟩:=hV7.sl.mk
 rw[kont_eq]
 simp-implicitDefEqProofs only[go_sem,↓reduceIte,Za,Zb,Zc,reduceCtorEq,Zf,Zg,Zh,Zi,Zd,Ze]
 refine kont_news fun H8 p8 e8 z8 B8 K8=>?_
 have B8':Bl H8 p8 (iL [1]):=B8
 simp-implicitDefEqProofs only[go_sem,↓reduceIte,Za,Zb,Zc,reduceCtorEq,Zf,Zg,Zh,Zi,Zd,Ze]
 refine(c.of_ [1] _ H8 (SlR.bl B8' 0 1 1 (by omega) (by simp[iL_len])) (by simp)).mono ?_
 rintro r H9 ⟨hs9,K9,-⟩
 rw[ofP_1]at hs9
 obtain⟨u9,W9,rfl,hV9⟩:=hs9
 obtain⟨ub,ud,rfl,_⟩:=hV9.sl.mk
 rw[kont_eq]
 simp-implicitDefEqProofs only[go_sem,↓reduceIte,Za,Zb,Zc,reduceCtorEq,Zf,Zg,Zh,Zi,Zd,Ze]
 refine kont_news fun HA pA eA zA BA KA=>?_
 have K7A:=(K8.trans K9).trans KA
 have K5A:=(K6.trans K7).trans K7A
 have K0A:=K05.trans K5A
 have BA':Bl HA pA [.slice ua (w64 W7).length uc,.slice ub (w64 W9).length ud]:=BA
 have ev:SlR HA (.slice (some ⟨pA,0,none⟩) 2 2) [.slice ua (w64 W7).length uc,.slice ub (w64 W9).length ud]:=SlR.bl BA' 0 2 2 (by omega) (by simp)
 have hes:∀i,i<([.slice ua (w64 W7).length uc,.slice ub (w64 W9).length ud]:List Value).length->SetM HA (.agg #[([.slice ua (w64 W7).length uc,.slice ub (w64 W9).length ud]:List Value).getD i undef]) ((mW.map bt).getD i fun _=>false):=fun i hi=>by
  have:i=0\/i=1:=by simp at hi;omega
  rcases this with rfl|rfl
  ·exact SetM.keep0 ⟨_,W7,rfl,hV7⟩ K7A
  ·exact SetM.keep0 ⟨_,W9,rfl,hV9⟩ KA
 have start:∀(F:FlN) (v:Value) (X:Hp),(F=WF\/F=WG\/F=WH)->ProFl X v F->Keep (fun _=>False) HA X->CallsM P (ι.f 391) #[v,.slice (some ⟨pA,0,none⟩) 2 2] X fun r X'=>Keep (fun _=>False) X X'∧
   ((solF (pbOf F (mW.map bt)) [0,0]=none/\r=.tuple #[.pointer none,.int .i64 12])\/((solF (pbOf F (mW.map bt)) [0,0]).isSome=true/\∃rb,r=.tuple #[.pointer (some ⟨rb,0,none⟩),.int .i64 0]/\RunV X' rb F (mW.map bt) [0,0])):=fun F v X hF hP KX=>by
  have f2:F.st.length=2:=by rcases hF with rfl|rfl|rfl<;>rfl
  have fb:F.be.length<=1000:=by rcases hF with rfl|rfl|rfl<;>decide
  refine(c.sta F (mW.map bt) _ v _ X (hT.keep (K0A.trans KX)) hP (ev.keep KX (by simp)) rfl (by decide) (fun i hi=>(hes i hi).keep0 KX) fun _ _ _=>⟨goodW hF,solW hF (ok2 (by decide)),fb⟩).mono ?_
  rintro r X' ⟨K,hx⟩
  refine⟨K,?_⟩
  rcases hx with⟨h,_⟩|⟨_,h,_⟩|⟨_,_,⟨i,hi,u,hu,hu2⟩,_⟩|⟨_,_,_,h⟩
  ·exact absurd (chkW hF) h
  ·exact absurd (by rw[f2];rfl) h
  ·rw[getD_map_bt]at hu
   have:=mW_ok i u hu
   omega
  ·exact h
 have B3A:=K5A.bl B35 (by simp)
 simp-implicitDefEqProofs only[go_sem,↓reduceIte,Za,Zb,Zc,reduceCtorEq,Zf,Zg,Zh,Zi,Zd,Ze,B3A.ldNO 5 rfl]
 refine(start WF _ HA (.inl rfl) (pF.keep0 K5A) (Keep.refl _ _)).mono ?_
 rintro r HB ⟨KB,hx⟩
 rw[solW1]at hx
 rcases hx with⟨h,_⟩|⟨_,rb1,rfl,R1⟩
 ·cases h
 have B4B:=(K5A.trans KB).bl B45 (by simp)
 rw[kont_eq]
 simp-implicitDefEqProofs only[go_sem,↓reduceIte,Za,Zb,Zc,reduceCtorEq,Zf,Zg,Zh,Zi,Zd,Ze,B4B.ldNO 5 rfl]
 refine(start WG _ HB (.inr (.inl rfl)) (pG.keep0 (K5A.trans KB)) KB).mono ?_
 rintro r HC ⟨KC,hx⟩
 rw[solW2]at hx
 rcases hx with⟨h,_⟩|⟨_,rb2,rfl,R2⟩
 ·cases h
 have KAC:=KB.trans KC
 have B5C:=(K5A.trans KAC).bl B5 (by simp)
 rw[kont_eq]
 simp-implicitDefEqProofs only[go_sem,↓reduceIte,Za,Zb,Zc,reduceCtorEq,Zf,Zg,Zh,Zi,Zd,Ze,B5C.ldNO 5 rfl]
 refine(start WH _ HC (.inr (.inr rfl)) (pH.keep0 (K5A.trans KAC)) KAC).mono ?_
 rintro r HD ⟨KD,hx⟩
 rw[solW3]at hx
 rcases hx with⟨_,rfl⟩|⟨h,_⟩
 case inr=>cases h
 have R1':=R1.keep0 (KC.trans KD)
 have R2':=R2.keep0 KD
 have K0D:=K0A.trans (KAC.trans KD)
 have ask:∀(F:FlN) (rb:Nat) (x:Int) (X:Hp),(F=WF\/F=WG\/F=WH)->RunV HD rb F (mW.map bt) [0,0]->Keep (fun _=>False) HD X->CallsM P (ι.f 386) #[.pointer (some ⟨rb,0,none⟩),.int .i64 0,.int .i64 x] X fun r X'=>r=.int .u8 (askF F (mW.map bt) [0,0] 0 x)/\Keep (fun _=>False) X X':=fun F rb x X hF hR KX=>
  c.ask.1 F (mW.map bt) [0,0] rb 0 x X (hT.keep (K0D.trans KX)) (hR.keep0 KX) (okW hF) rfl (goodW hF) (setW hF)
 rw[kont_eq]
 have e00:((0:Int)==0)=true:=rfl
 have e12:((12:Int)==12)=true:=rfl
 have e55:((5:Int)==5)=true:=rfl
 have e11:((1:Int)==1)=true:=rfl
 simp-implicitDefEqProofs only[go_sem,↓reduceIte,Za,Zb,Zc,reduceCtorEq,Zf,Zg,Zh,Zi,Zd,Ze,e00,e12]
 refine(ask WF rb1 1 HD (.inl rfl) R1' (Keep.refl _ _)).mono ?_
 rintro r X1 ⟨rfl,L1⟩
 rw[kont_eq]
 simp-implicitDefEqProofs only[go_sem,↓reduceIte,Za,Zb,Zc,reduceCtorEq,Zf,Zg,Zh,Zi,Zd,Ze,askW1,e55]
 refine(ask WF rb1 2 X1 (.inl rfl) R1' L1).mono ?_
 rintro r X2 ⟨rfl,L2⟩
 have M2:=L1.trans L2
 rw[kont_eq]
 simp-implicitDefEqProofs only[go_sem,↓reduceIte,Za,Zb,Zc,reduceCtorEq,Zf,Zg,Zh,Zi,Zd,Ze,askW2,e11]
 refine(c.pln.1 WF (mW.map bt) [0,0] rb1 X2 (hT.keep (K0D.trans M2)) (R1'.keep0 M2) (goodW (.inl rfl)) (solW (.inl rfl) (ok2 (by decide)))).mono ?_
 rintro r X3 ⟨L3,hp⟩
 rw[solW1]at hp
 have hp:SlR X3 r (iL [2,1]):=hp
 rw[kont_eq]
 simp-implicitDefEqProofs only[go_sem,↓reduceIte,Za,Zb,Zc,reduceCtorEq,Zf,Zg,Zh,Zi,Zd,Ze]
 refine kont_news fun X4 p4 e4' z4' B4' L4=>?_
 have B4'':Bl X4 p4 (iL [2,1]):=B4'
 have M4:=(M2.trans L3).trans L4
 simp-implicitDefEqProofs only[go_sem,↓reduceIte,Za,Zb,Zc,reduceCtorEq,Zf,Zg,Zh,Zi,Zd,Ze]
 refine(c.eqI [2,1] [2,1] r _ X4 (hp.keep L4 (by simp)) (SlR.bl B4'' 0 2 2 (by omega) (by simp[iL_len])) (by simp)).mono ?_
 rintro r' X5 ⟨rfl,rfl⟩
 have dq:decide (([2,1]:List Int)=[2,1])=true:=rfl
 rw[kont_eq]
 simp-implicitDefEqProofs only[go_sem,↓reduceIte,Za,Zb,Zc,reduceCtorEq,Zf,Zg,Zh,Zi,Zd,Ze,dq]
 refine(ask WG rb2 2 X5 (.inr (.inl rfl)) R2' M4).mono ?_
 rintro r X6 ⟨rfl,L6⟩
 have M6:=M4.trans L6
 rw[kont_eq]
 simp-implicitDefEqProofs only[go_sem,↓reduceIte,Za,Zb,Zc,reduceCtorEq,Zf,Zg,Zh,Zi,Zd,Ze,askW3,e55]
 refine(ask WG rb2 1 X6 (.inr (.inl rfl)) R2' M6).mono ?_
 rintro r X7 ⟨rfl,L7⟩
 rw[kont_eq]
 simp-implicitDefEqProofs only[go_sem,↓reduceIte,Za,Zb,Zc,reduceCtorEq,Zf,Zg,Zh,Zi,Zd,Ze,askW4,e11]
 rw[hQ]
 exact⟨rfl,K0D.trans (M6.trans L7)⟩
end Go.Mg
namespace Go.Mg
open Go Go.RowKit
set_option linter.all false
set_option maxRecDepth 100000
theorem PlI.is {r:RawF} {H:Hp} {rb:Nat} {sv:Value} {st:List Int} (h:PlI r H rb sv st):IsI (mkF r) ((masksF r).map bt) (masksF r) H rb sv st:=⟨h.run,h.ref,mkF_ok r,h.ok.1⟩
end Go.Mg

/- Several texts of ours in one. No conditions. -/
import Derived.Test.YtoclemmcphgikaaGreatDoorMgE1
import Derived.Test.YtoclemmcphgikaaGreatDoorMgV9
import Derived.Test.YtoclemmcphgikaaGreatDoorMgVC
open Nat renaming reduceEqDiff→Za,reduceAdd→Zb,reduceMul→Zc,reduceLeDiff→Zd,reduceLT→Ze
open Int renaming reduceBEq→Zf,reduceBNe→Zg,reduceLE→Zh,reduceLT→Zi
namespace Go.Mg
open Go Go.RowKit
set_option linter.all false
set_option maxRecDepth 100000
def c_idxI (ι:Ids):S:=
 kY [kC 4 (.int .i64 0)] (.seq (kY [kA 6 0,kV 7 (.m (.lenl (.t 6))),kC 8 (.int .i64 0)] (.blk 0 (.loop (kY [kH 9 8 7] (.seq (.ite (.v 9) .skip (.exit 0)) (.seq (.blk 1 (kY [kA 10 8,kB 5 10] (kY [kA 11 1,kA 12 0,kA 13 5,kI 14 1 12 13,kD 15 14,.e (.v 16) (.callv (.t 11) [.t 15])] (.ite (.v 16) (kY [kA 17 5,kB 4 17] .ret) .skip)))) (.reg [ke 18 8,kB 8 18]))))))) (kY [kC 4 (.int .i64 (-1))] .ret))
def r_idxI:List RV:=[.t 4]
def c_conI (ι:Ids):S:=
 kY [kC 4 (.bool false)] (kY [kA 5 0,kA 6 1,.e (.t 7) (.call (ι.f 353) [.t 5,.t 6]),kU 8 (.cm .geq .i64 (.t 7) (.c (.int .i64 0))),kB 4 8] .ret)
def r_conI:List RV:=[.t 4]
def c_ruser (ι:Ids):S:=
 kY [kC 2 (.bool false)] (kY [kA 3 0,kU 4 (.cm .geq .i64 (.t 3) (.c (.int .i64 1))),kF 5 4,kS 6 5 true 0,kT 7 5 true (.cm .leq .i64 (.t 6) (.c (.int .i64 256))),kJ 8 5 7,kB 2 8] .ret)
def r_ruser:List RV:=[.t 2]
def c_rchkp1 (ι:Ids):S:=
 kY [kC 2 (.bool false)] (kY [kA 3 0,kU 4 (.cm .neq .i64 (.t 3) (.c (.int .i64 0))),kF 5 4,kS 6 5 true 0,.ge (.t 7) (.t 5) true (.call (ι.f 355) [.t 6]),kT 8 5 true (.not (.t 7)),kJ 9 5 8,kB 2 9] .ret)
def r_rchkp1:List RV:=[.t 2]
def c_rprop1 (ι:Ids):S:=
 kY [kC 2 (.bool false)] (kY [kA 3 0,kU 4 (.cm .neq .i64 (.t 3) (.c (.int .i64 0))),kF 5 4,kS 6 5 true 0,.ge (.t 7) (.t 5) true (.call (ι.f 355) [.t 6]),kT 8 5 true (.not (.t 7)),kJ 9 5 8,kB 2 9] .ret)
def r_rprop1:List RV:=[.t 2]
def c_rprs (ι:Ids):S:=
 kY [kR 2 (ι.t 358) 0,kC 4 (.int .i64 0)] (.seq (kY [kV 7 (.mv (.v 1)),kO 8 7,kC 9 (.int .i64 0)] (.blk 0 (.loop (kY [kH 10 9 8] (.seq (.ite (.v 10) .skip (.exit 0)) (.seq (.blk 1 (kY [kK 11 2 7 9,kN 12 2 11,.e (.v 6) (.new (ι.t 194) #[.int .i64 0,.int .i64 0]),.e .no (.stn 2 (.v 6) (.t 12))] (.seq (kY [kP 13 2 1 6 0,kD 14 13,kP 15 2 1 6 1,kD 16 15,kU 17 (.m (.mn (.t 14) (.t 16))),kU 18 (.cm .lss .i64 (.t 17) (.c (.int .i64 0))),kF 19 18,kT 20 19 false (.ia 2 1 (.v 6) (.c (.int .i64 0))),kT 21 19 false (.ld (.t 20)),kT 22 19 false (.ia 2 1 (.v 6) (.c (.int .i64 1))),kT 23 19 false (.ld (.t 22)),kT 24 19 false (.m (.mx (.t 21) (.t 23))),kT 25 19 false (.fa 0 (.v 2)),kT 26 19 false (.ld (.t 25)),kT 27 19 false (.m (.lenl (.t 26))),kT 28 19 false (.cm .geq .i64 (.t 24) (.t 27)),kV 29 (.pick (.t 19) (.c (.bool true)) (.t 28))] (.ite (.v 29) (kY [kC 4 (.int .i64 2)] .ret) .skip)) (kY [kP 30 2 1 6 0,kD 31 30,kP 32 2 1 6 1,kD 33 32,kV 34 (.cm .eql .i64 (.t 31) (.t 33))] (.ite (.v 34) (kY [kC 4 (.int .i64 1)] .ret) .skip))))) (.reg [ke 35 9,kB 9 35]))))))) (kY [kC 4 (.int .i64 0)] .ret))
def r_rprs:List RV:=[.t 4]
def c_rchkp (ι:Ids):S:=
 kY [kR 1 (ι.t 358) 0,kC 2 (.int .i64 0)] (kY [kG 10 0 1,kD 11 10,kL 12 11,kB 3 12] (.seq (.blk 0 (kY [kA 14 3,kU 15 (.cm .eql .i64 (.t 14) (.c (.int .i64 0))),kB 13 15] (.ite (.v 13) (kY [kC 2 (.int .i64 4)] .ret) (kY [kA 17 3,kU 18 (.cm .gtr .i64 (.t 17) (.c (.int .i64 10))),kF 19 18,kT 20 19 false (.fa 1 (.v 1)),kT 21 19 false (.ld (.t 20)),kT 22 19 false (.m (.lenl (.t 21))),kT 23 19 false (.fa 2 (.v 1)),kT 24 19 false (.ld (.t 23)),kT 25 19 false (.m (.lenl (.t 24))),kT 26 19 false (.fa 3 (.v 1)),kT 27 19 false (.ld (.t 26)),kT 28 19 false (.m (.lenl (.t 27))),kT 29 19 false (.m (.mxs (.t 22) [.t 25,.t 28])),kT 30 19 false (.cm .gtr .i64 (.t 29) (.c (.int .i64 20))),kU 31 (.pick (.t 19) (.c (.bool true)) (.t 30)),kB 16 31] (.ite (.v 16) (kY [kC 2 (.int .i64 3)] .ret) (kY [kG 33 4 1,kD 34 33,kL 35 34,kA 36 3,kU 37 (.cm .neq .i64 (.t 35) (.t 36)),kB 32 37] (.ite (.v 32) (kY [kC 2 (.int .i64 1)] .ret) .skip))))))) (.seq (kY [kG 38 0 1,kV 39 (.ld (.t 38)),kO 40 39,kC 41 (.int .i64 0)] (.blk 1 (.loop (kY [kH 42 41 40] (.seq (.ite (.v 42) .skip (.exit 1)) (.seq (.blk 2 (kY [kK 43 1 39 41,kN 44 1 43,.e (.v 5) (.new (ι.t 128) #[kZ]),.e .no (.stn 1 (.v 5) (.t 44))] (.seq (.dr (kW 45 (.m (.ldn 1 (.v 5))) (.wcons (.t 46) .none (.call (ι.f 130) [.t 45,.c (.int .i64 0)]) (kW 47 (.mv (.t 46)) (.px (.t 48) (.some (.t 47,false)) (.m (.ldn 1 (.v 5))) (.wcons (.t 49) (.some (.t 47,false)) (.call (ι.f 306) [.c (.int .i64 257)]) (.wcons (.t 50) (.some (.t 47,false)) (.call (ι.f 141) [.t 48,.t 49]) (.px (.t 51) (.some (.t 47,false)) (.not (.t 50)) (kX 52 (.pick (.t 47) (.c (.bool true)) (.t 51)) .done)) .wnil) .wnil))) .wnil))) (.ite (.v 52) (kY [kC 2 (.int .i64 2)] .ret) .skip)))) (.reg [ke 53 41,kB 41 53]))))))) (.seq (kY [kG 54 4 1,kD 55 54,.e (.v 56) (.call (ι.f 354) [.t 55,.c (.func (.func (ι.f 356)) #[] #[])])] (.ite (.v 56) (kY [kC 2 (.int .i64 2)] .ret) .skip)) (.seq (kY [kM 57 5 1,kG 58 1 1,kD 59 58,.e (.t 60) (.call (ι.f 359) [.t 57,.t 59]),kB 6 60] (kY [kA 61 6,kV 62 (.cm .neq .i64 (.t 61) (.c (.int .i64 0)))] (.ite (.v 62) (kY [kA 63 6,kB 2 63] .ret) .skip))) (.seq (kY [kM 64 5 1,kG 65 2 1,kD 66 65,.e (.t 67) (.call (ι.f 359) [.t 64,.t 66]),kB 7 67] (kY [kA 68 7,kV 69 (.cm .neq .i64 (.t 68) (.c (.int .i64 0)))] (.ite (.v 69) (kY [kA 70 7,kB 2 70] .ret) .skip))) (.seq (kY [kG 71 3 1,kV 72 (.ld (.t 71)),kO 73 72,kC 74 (.int .i64 0)] (.blk 3 (.loop (kY [kH 75 74 73] (.seq (.ite (.v 75) .skip (.exit 3)) (.seq (.blk 4 (kY [kK 76 2 72 74,kN 77 2 76,.e (.v 9) (.new (ι.t 298) #[.int .i64 0,kZ]),.e .no (.stn 2 (.v 9) (.t 77))] (.seq (.dr (kW 78 (.fa 0 (.v 9)) (kW 79 (.ld (.t 78)) (kW 80 (.cm .lss .i64 (.t 79) (.c (.int .i64 1))) (kW 81 (.mv (.t 80)) (.px (.t 82) (.some (.t 81,false)) (.fa 0 (.v 9)) (.px (.t 83) (.some (.t 81,false)) (.ld (.t 82)) (.px (.t 84) (.some (.t 81,false)) (.cm .gtr .i64 (.t 83) (.c (.int .i64 10))) (kW 85 (.pick (.t 81) (.c (.bool true)) (.t 84)) (kW 86 (.mv (.t 85)) (.px (.t 87) (.some (.t 86,false)) (.fa 1 (.v 9)) (.px (.t 88) (.some (.t 86,false)) (.m (.ldn 1 (.t 87))) (.wcons (.t 89) (.some (.t 86,false)) (.call (ι.f 133) [.t 88]) (kW 90 (.pick (.t 86) (.c (.bool true)) (.t 89)) (kW 91 (.mv (.t 90)) (.px (.t 92) (.some (.t 91,false)) (.fa 1 (.v 9)) (.px (.t 93) (.some (.t 91,false)) (.m (.ldn 1 (.t 92))) (.px (.t 94) (.some (.t 91,false)) (.mv (.v 3)) (.wcons (.t 95) (.some (.t 91,false)) (.call (ι.f 306) [.t 94]) (.wcons (.t 96) (.some (.t 91,false)) (.call (ι.f 141) [.t 93,.t 95]) (.px (.t 97) (.some (.t 91,false)) (.not (.t 96)) (kX 98 (.pick (.t 91) (.c (.bool true)) (.t 97)) .done)) .wnil) .wnil)))))) .wnil))))))))))))) (.ite (.v 98) (kY [kC 2 (.int .i64 2)] .ret) .skip)))) (.reg [ke 99 74,kB 74 99]))))))) (kY [kC 2 (.int .i64 0)] .ret))))))))
def r_rchkp:List RV:=[.t 2]
def c_rprop (ι:Ids):S:=
 kY [kR 2 (ι.t 358) 0,kC 4 (.bool false)] (kY [kM 5 5 2,.e (.t 6) (.call (ι.f 360) [.t 5]),kU 7 (.cm .eql .i64 (.t 6) (.c (.int .i64 0))),kF 8 7,kS 9 8 true 1,kT 10 8 true (.m (.lenl (.t 9))),kT 11 8 true (.fa 0 (.v 2)),kT 12 8 true (.ld (.t 11)),kT 13 8 true (.m (.lenl (.t 12))),kT 14 8 true (.cm .eql .i64 (.t 10) (.t 13)),kJ 15 8 14,kF 16 15,kS 17 16 true 1,.ge (.t 18) (.t 16) true (.call (ι.f 354) [.t 17,.c (.func (.func (ι.f 357)) #[] #[])]),kT 19 16 true (.not (.t 18)),kJ 20 16 19,kB 4 20] .ret)
def r_rprop:List RV:=[.t 4]
def AnsI (P:Program) (q:Int->Bool) (l:List Int) (g:FuncId):Prop:=bodyOk P g=true/\∀x∈l,∀A,CallsM P g #[.int .i64 x] A fun r A'=>r=.bool (q x)/\A'=A
def IdxISpec (P:Program) (k:FuncId):Prop:=∀(l:List Int) (q:Int->Bool) (v:Value) (g:FuncId) (H:Hp),SlR H v (iL l)->l.length<=1000000->AnsI P q l g->CallsM P k #[v,.func (.func g) #[] #[]] H fun r H'=>r=.int .i64 (fidxI q l)/\H'=H
variable {H H':Hp} {v:Value} {i:Nat} {P:Program} {ι:Ids} {k:FuncId} {p:PbN} {fx:List Int}
theorem SlR.iat {l:List Int} (h:SlR H v (iL l)) (hi:i<l.length):∃b o c,v=.slice (some ⟨b,o,none⟩) l.length c/\Mg.cell H ⟨b,o+i,none⟩=some (.int .i64 l[i]):=by
 obtain⟨b,o,c,rfl,hc,hl⟩:=h.cells (by intro e;have h:=congrArg List.length e;rw[iL_len,List.length_nil]at h;omega)
 rw[iL_len]at hl⊢
 refine⟨b,o,c,rfl,?_⟩
 rw[hl i hi,iL_get _ _ hi,List.getD_eq_getElem?_getD,List.getElem?_eq_getElem hi]
 rfl
theorem ldNA_one {b o:Nat} {x:Value} (h:Mg.cell H ⟨b,o,none⟩=some x):Mg.ldNA H ⟨b,o,none⟩ 1=some #[x]:=by
 unfold Mg.cell at h
 unfold Mg.ldNA
 split at h
 ·next C T z hb=>
  simp only[Option.isSome_none,Bool.false_eq_true,if_false]at h hb⊢
  obtain⟨hlt,e⟩:=Array.getElem?_eq_some_iff.1 h
  try rw[hb]
  try simp only
  rw[if_pos (by omega)]
  congr 1
  apply Array.ext'
  simp only[Array.toList_extract,List.extract_eq_take_drop,Nat.add_sub_cancel_left]
  rw[List.drop_eq_getElem_cons (by simpa using hlt)]
  simp[e]
 ·cases h
theorem SlR.ld1 {l:List Value} (h:SlR H v l) (hi:i<l.length):∃b o c,v=.slice (some ⟨b,o,none⟩) l.length c/\Mg.ldNA H ⟨b,o+i,none⟩ 1=some #[l.getD i undef]:=by
 obtain⟨b,o,c,rfl,hc,hl⟩:=h.cells (by intro e;rw[e]at hi;simp at hi)
 refine⟨b,o,c,rfl,ldNA_one ?_⟩
 rw[hl i hi,List.getD_eq_getElem?_getD,List.getElem?_eq_getElem hi]
 rfl
theorem idxI_ok (hk:FnIs P k (c_idxI ι) r_idxI 2):IdxISpec P k:=by
 intro l q v g H hv hl ⟨hg,hq⟩
 refine calls_of_vc hk (args:=[_,_]) (by simp) ?_
 unfold c_idxI r_idxI kA kB kC kD ke kH kI kV kY
 have hlen:lenV v=l.length:=by rw[hv.len,iL_len]
 simp only[go_sem,Za,Zb,kont_eq,hv.isSl,hlen]
 refine vc_range l.length [9,5,16,4,8] rfl rfl (by omega) (by rfl) (by rfl) (fun i g A=>(∀j<i,∀hj:j<l.length,q l[j]=false)/\A=H) ⟨fun j h=>by omega,rfl⟩ ?_ ?_
 ·rintro i f A hi gi gn ⟨hno,rfl⟩
  simp only[go_sem,Za,Zb,kont_eq]at gi gn
  obtain⟨b,o,c,e,hc⟩:=hv.iat hi
  simp only[go_sem,Za,Zb,kont_eq,gi,e,tn_cast,hc,hg]
  refine⟨by omega,(hq l[i] (List.getElem_mem hi) A).mono ?_⟩
  rintro r A1 ⟨rfl,rfl⟩
  rw[kont_eq]
  simp only[go_sem,Za,Zb,kont_eq]
  refine iteV_of (fun hb=>?_) (fun hb=>?_)
  ·have:l.findIdx? q=some i:=List.findIdx?_eq_some_iff_getElem.2 ⟨hi,hb,fun j hj=>by rw[hno j hj (by omega)];simp⟩
   simp only[fidxI,this]
  ·refine fun j hj hj'=>?_
   by_cases e:j=i
   ·subst e;exact hb
   ·exact hno j (by omega) hj'
 ·rintro f A -⟨hno,rfl⟩
  simp only[go_sem,Za,Zb,kont_eq]
  have:l.findIdx? q=none:=by
   rw[List.findIdx?_eq_none_iff]
   intro x hx
   obtain⟨j,hj,rfl⟩:=List.getElem_of_mem hx
   exact hno j hj hj
  simp only[fidxI,this]
def ConISpec (P:Program) (k:FuncId):Prop:=∀(l:List Int) (q:Int->Bool) (v:Value) (g:FuncId) (H:Hp),SlR H v (iL l)->l.length<=1000000->AnsI P q l g->CallsM P k #[v,.func (.func g) #[] #[]] H fun r H'=>r=.bool (l.any q)/\H'=H
theorem conI_ok (hk:FnIs P k (c_conI ι) r_conI 2) (hi:IdxISpec P (ι.f 353)):ConISpec P k:=by
 intro l q v g H hv hl ha
 refine calls_of_vc hk (args:=[_,_]) (by simp) ?_
 unfold c_conI r_conI kA kB kC kU kY
 simp only[go_sem,Za,Zb,kont_eq]
 refine(hi l q v g H hv hl ha).mono ?_
 rintro r A ⟨rfl,rfl⟩
 rw[kont_eq]
 simp only[go_sem,Za,Zb,kont_eq,fidxI_any]
def usrB (u:Int):Bool:=decide (1<=u)&&decide (u<=256)
def badU (u:Int):Bool:=decide (u≠0)&&!usrB u
def RUserSpec (P:Program) (k:FuncId):Prop:=∀(u:Int) (H:Hp),CallsM P k #[.int .i64 u] H fun r H'=>r=.bool (usrB u)/\H'=H
theorem ruser_ok (hk:FnIs P k (c_ruser ι) r_ruser 1):RUserSpec P k:=by
 intro u H
 refine calls_of_vc hk (args:=[_]) (by simp) ?_
 unfold c_ruser r_ruser kA kB kF kC kJ kS kT kU kY
 by_cases h:u≥1
 ·have d1:decide (u≥1)=true:=decide_eq_true h
  have d2:decide (1<=u)=true:=decide_eq_true h
  simp only[go_sem,Za,Zb,kont_eq,d1,usrB,d2,forall_const,Bool.true_and]
 ·have d1:decide (u≥1)=false:=decide_eq_false h
  have d2:decide (1<=u)=false:=decide_eq_false h
  simp only[go_sem,Za,Zb,kont_eq,d1,usrB,d2,false_imp_iff,Bool.false_and]
def BadUSpec (P:Program) (k:FuncId):Prop:=bodyOk P k=true/\∀(u:Int) (H:Hp),CallsM P k #[.int .i64 u] H fun r H'=>r=.bool (badU u)/\H'=H
theorem rchkp1_ok (hk:FnIs P k (c_rchkp1 ι) r_rchkp1 1) (hu:RUserSpec P (ι.f 355)):BadUSpec P k:=by
 refine⟨hk.body,fun u H=>?_⟩
 refine calls_of_vc hk (args:=[_]) (by simp) ?_
 unfold c_rchkp1 r_rchkp1 kA kB kF kC kJ kS kT kU kY
 by_cases h:u=0
 ·have d1:(u !=0)=false:=by simpa using h
  have d2:decide (u≠0)=false:=decide_eq_false (fun hn=>hn h)
  simp-implicitDefEqProofs only[go_sem,↓reduceIte,Za,Zb,Zc,reduceCtorEq,kont_eq,d1,badU,d2,false_imp_iff,forall_const,Bool.false_and]
 ·have d1:(u !=0)=true:=by simpa using h
  have d2:decide (u≠0)=true:=decide_eq_true h
  simp-implicitDefEqProofs only[go_sem,↓reduceIte,Za,Zb,Zc,reduceCtorEq,kont_eq,d1,badU,d2,forall_const,Bool.true_and]
  refine(hu u H).mono ?_
  rintro r A ⟨rfl,rfl⟩
  rw[kont_eq]
  simp-implicitDefEqProofs only[go_sem,↓reduceIte,Za,Zb,Zc,reduceCtorEq,kont_eq,false_imp_iff,forall_const]
theorem rprop1_ok (hk:FnIs P k (c_rprop1 ι) r_rprop1 1) (hu:RUserSpec P (ι.f 355)):BadUSpec P k:=by
 refine⟨hk.body,fun u H=>?_⟩
 refine calls_of_vc hk (args:=[_]) (by simp) ?_
 unfold c_rprop1 r_rprop1 kA kB kF kC kJ kS kT kU kY
 by_cases h:u=0
 ·have d1:(u !=0)=false:=by simpa using h
  have d2:decide (u≠0)=false:=decide_eq_false (fun hn=>hn h)
  simp-implicitDefEqProofs only[go_sem,↓reduceIte,Za,Zb,Zc,reduceCtorEq,kont_eq,d1,badU,d2,false_imp_iff,forall_const,Bool.false_and]
 ·have d1:(u !=0)=true:=by simpa using h
  have d2:decide (u≠0)=true:=decide_eq_true h
  simp-implicitDefEqProofs only[go_sem,↓reduceIte,Za,Zb,Zc,reduceCtorEq,kont_eq,d1,badU,d2,forall_const,Bool.true_and]
  refine(hu u H).mono ?_
  rintro r A ⟨rfl,rfl⟩
  rw[kont_eq]
  simp-implicitDefEqProofs only[go_sem,↓reduceIte,Za,Zb,Zc,reduceCtorEq,kont_eq,false_imp_iff,forall_const]
structure PrbR (H:Hp) (p:PbN) (fx:List Int) (el di sa mo fv:Value) (vs:List Value) (ms:List MV):Prop where
 e:SlR H el vs
 el:vs.length=p.el.length
 es:∀i<vs.length,SetM H (.agg #[vs.getD i undef]) (elA p i)
 d:SlP H di p.di
 s:SlP H sa p.sa
 m:SlE encV 2 H mo ms
 ms:MosR H ms p.mo
 f:SlR H fv (iL fx)
def PrbV (H:Hp) (v:Value) (p:PbN) (fx:List Int):Prop:=∃el di sa mo fv vs ms,v=.agg #[el,di,sa,mo,fv]/\PrbR H p fx el di sa mo fv vs ms
theorem PrbR.keep0 {el di sa mo fv:Value} {vs:List Value} {ms:List MV} (h:PrbR H p fx el di sa mo fv vs ms) (hk:Keep (fun _=>False) H H'):PrbR H' p fx el di sa mo fv vs ms:=
 ⟨h.e.keep hk (by simp),h.el,fun i hi=>(h.es i hi).keep0 hk,h.d.keep0 hk,h.s.keep0 hk,h.m.keep0 hk,h.ms.keep0 hk,h.f.keep hk (by simp)⟩
theorem PrbV.keep0 (h:PrbV H v p fx) (hk:Keep (fun _=>False) H H'):PrbV H' v p fx:=by
 obtain⟨el,di,sa,mo,fv,vs,ms,e,h⟩:=h
 exact⟨el,di,sa,mo,fv,vs,ms,e,h.keep0 hk⟩
structure GoodP (p:PbN):Prop where
 n0:0<p.el.length
 n:p.el.length<=10
 us:∀k u,elA p k u=true->1<=u/\u<=256
 dl:p.di.length<=20
 sl:p.sa.length<=20
 ml:p.mo.length<=20
 di:∀x∈p.di,okP (p.el.length:Int) x/\x.1≠x.2
 sa:∀x∈p.sa,okP (p.el.length:Int) x/\x.1≠x.2
 mo:∀x∈p.mo,moE1 p.el.length x=0
def okU (n:Nat) (s:List Int):Prop:=s.length=n/\∀u∈s,0<=u/\u<=256
theorem okU_any {n:Nat} {s:List Int} (h:okU n s):s.any badU=false:=by
 rw[List.any_eq_false]
 intro u hu
 have:=h.2 u hu
 unfold badU usrB
 by_cases e:u=0
 ·rw[decide_eq_false (fun hn=>hn e)];simp
 ·rw[decide_eq_true (show 1<=u by omega),decide_eq_true (show u<=256 by omega)];simp
def RPrsSpec (P:Program) (k:FuncId):Prop:=∀(p:PbN) (fx:List Int) (v w:Value) (l:List PrN) (H:Hp),PrbV H v p fx->SlP H w l->l.length<=1000->p.el.length<=1000->(∀x∈l,okP (p.el.length:Int) x/\x.1≠x.2)->CallsM P k #[v,w] H fun r H'=>r=.int .i64 0/\Keep (fun _=>False) H H'
theorem rprs_ok (hk:FnIs P k (c_rprs ι) r_rprs 2):RPrsSpec P k:=by
 intro p fx v w l H hv hw hl hn hok
 obtain⟨el,di,sa,mo,fv,vs,ms,rfl,hp⟩:=hv
 refine calls_of_vc hk (args:=[_,_]) (by simp) ?_
 unfold c_rprs r_rprs kB kF kC kD ke kH kK kN kO kP kR kT kU kV kY
 simp-implicitDefEqProofs only[go_sem,↓reduceIte,Za,Zb,Zc,reduceCtorEq,Zf,Zg,Zh,Zi,Zd,Ze]
 refine kont_new fun H1 b2 e1 z1 B1 K1=>?_
 have B1':Bl H1 b2 [el,di,sa,mo,fv]:=B1
 have hw1:=hw.keep0 K1
 simp-implicitDefEqProofs only[go_sem,↓reduceIte,Za,Zb,Zc,reduceCtorEq,Zf,Zg,Zh,Zi,Zd,Ze,hw1.isSl,hw1.len]
 refine vc_range l.length [10,6,29,4,34,9] rfl rfl (by omega) (by rfl) (by rfl) (fun i g A=>Keep (fun _=>False) H1 A) (Keep.refl _ _) ?_ ?_
 ·intro i g A hi gi gn KA
  simp-implicitDefEqProofs only[go_sem,↓reduceIte,Za,Zb,Zc,reduceCtorEq,kont_eq,Zf,Zg,Zh,Zi,Zd,Ze]at gi gn
  obtain⟨sb,so,sc,e,-,hld⟩:=(hw1.keep0 KA).elem pE_len (i:=i) hi
  obtain⟨⟨o1,o2,o3,o4⟩,hne⟩:=hok _ (List.getElem_mem hi)
  simp-implicitDefEqProofs only[go_sem,↓reduceIte,Za,Zb,Zc,reduceCtorEq,Zf,Zg,Zh,Zi,Zd,Ze,gi,e,tn_cast,ldNO_ptr,hld]
  refine⟨⟨by omega,by omega⟩,?_⟩
  refine kont_newst (pE l[i]) (by rfl) rfl rfl (List.all_eq_true.2 (pE_one _)) fun A1 b6 e6 z6 B6 K6=>?_
  have c0:cell A1 ⟨b6,0,none⟩=some (.int .i64 l[i].1):=by rw[B6.cell];rfl
  have c1:cell A1 ⟨b6,1,none⟩=some (.int .i64 l[i].2):=by rw[B6.cell];rfl
  have K16:=KA.trans K6
  have cE:cell A1 ⟨b2,0,none⟩=some el:=by rw[(K16.bl B1' (by simp)).cell];rfl
  have d1:decide ((if l[i].2<l[i].1 then l[i].2 else l[i].1)<0)=false:=decide_eq_false (by split<;>omega)
  have d2:decide ((if l[i].2>l[i].1 then l[i].2 else l[i].1)≥(p.el.length:Int))=false:=decide_eq_false (by split<;>omega)
  have d3:(l[i].1==l[i].2)=false:=by simpa using hne
  simp-implicitDefEqProofs only[go_sem,↓reduceIte,Za,Zb,Zc,reduceCtorEq,kont_eq,Zf,Zg,Zh,Zi,Zd,Ze,c0,c1,cE,d1,d2,d3,hp.e.isSl,hp.e.len,hp.el,forall_const,kindOf]
  exact K16
 ·rintro g A -KA
  simp-implicitDefEqProofs only[go_sem,↓reduceIte,Za,Zb,Zc,reduceCtorEq,kont_eq,Zf,Zg,Zh,Zi,Zd,Ze]
  exact K1.trans KA
def RChkPSpec (P:Program) (ι:Ids) (k:FuncId):Prop:=∀(p:PbN) (fx:List Int) (v:Value) (H:Hp),PrbV H v p fx->GoodP p->okU p.el.length fx->CallsM P k #[v] H fun r H'=>r=.int .i64 0/\Keep (fun _=>False) H H'
structure RChC (P:Program) (ι:Ids):Prop where
 has:HasSpec P (ι.f 130)
 emp:BEmptySpec P (ι.f 133)
 sub:BWithinSpec P (ι.f 141)
 bel:BBelowSpec P (ι.f 306)
 con:ConISpec P (ι.f 354)
 u1:BadUSpec P (ι.f 356)
 prs:RPrsSpec P (ι.f 359)
theorem rchkp_ok (hk:FnIs P k (c_rchkp ι) r_rchkp 1) (c:RChC P ι):RChkPSpec P ι k:=by
 intro p fx v H hv hG hU
 have hv0:=hv
 obtain⟨el,di,sa,mo,fv,vs,ms,rfl,hp⟩:=hv
 refine calls_of_vc hk (args:=[_]) (by simp) ?_
 unfold c_rchkp r_rchkp kA kB kF kC kD ke kG kH kK kL kM kN kO kR kT kU kV kW kX kY kZ
 have hn:=hG.n
 have hn0:=hG.n0
 have hdl:=hG.dl
 have hsl:=hG.sl
 have hml:=hG.ml
 have hul:=hU.1
 simp-implicitDefEqProofs only[go_sem,↓reduceIte,Za,Zb,Zc,reduceCtorEq]
 refine kont_new fun H1 b1 e1 z1 B1 K1=>?_
 have B1':Bl H1 b1 [el,di,sa,mo,fv]:=B1
 have p1:=hp.keep0 K1
 have cl:∀{A:Hp},Bl A b1 [el,di,sa,mo,fv]->cell A ⟨b1,0,none⟩=some el/\cell A ⟨b1,1,none⟩=some di/\cell A ⟨b1,2,none⟩=some sa/\cell A ⟨b1,3,none⟩=some mo/\cell A ⟨b1,4,none⟩=some fv:=fun B=>⟨by rw[B.cell];rfl,by rw[B.cell];rfl,by rw[B.cell];rfl,by rw[B.cell];rfl,by rw[B.cell];rfl⟩
 obtain⟨c0,c1,c2,c3,c4⟩:=cl B1'
 have le:lenV el=p.el.length:=by rw[hp.e.len,hp.el]
 have lf:lenV fv=p.el.length:=by rw[hp.f.len,iL_len,hul]
 have lm:lenV mo=p.mo.length:=by rw[hp.m.len,hp.ms.len]
 have d0:((p.el.length:Int)==0)=false:=by rw[beq_eq_false_iff_ne];omega
 have d1:decide ((p.el.length:Int)>10)=false:=decide_eq_false (by omega)
 have d2:decide ((if(p.mo.length:Int)>if(p.sa.length:Int)>(p.di.length:Int)then(p.sa.length:Int)else(p.di.length:Int)then(p.mo.length:Int)else if(p.sa.length:Int)>(p.di.length:Int)then(p.sa.length:Int)else(p.di.length:Int))>20)=false:=decide_eq_false (by split<;>split<;>omega)
 have d3:((p.el.length:Int)!=(p.el.length:Int))=false:=by simp
 simp-implicitDefEqProofs only[go_sem,↓reduceIte,Za,Zb,Zc,reduceCtorEq,c0,c1,c2,c3,c4,hp.e.isSl,hp.d.isSl,hp.s.isSl,hp.m.isSl,hp.f.isSl,le,lf,hp.d.len,hp.s.len,lm,d0,d1,d2,d3,forall_const,kindOf]
 have one:∀{B:Hp} {u:Value} {p:Nat->Bool},SetM B (.agg #[u]) p->u.oneCell'=true:=fun S=>by
  obtain⟨_,W,e,hV⟩:=S
  cases e
  exact all1_sl hV.sl.isSl
 refine vc_range p.el.length [42,5,52,2,41] rfl rfl (by omega) (by rfl) (by rfl) (fun i g A=>Keep (fun _=>False) H1 A) (Keep.refl _ _) ?_ ?_
 ·intro i g A hi gi gn KA
  simp-implicitDefEqProofs only[go_sem,↓reduceIte,Za,Zb,Zc,reduceCtorEq,kont_eq]at gi gn
  have hvl:=hp.el
  have pA:=p1.keep0 KA
  have hS:=pA.es i (by omega)
  obtain⟨sb,so,sc,e,hld⟩:=pA.e.ld1 (i:=i) (by omega)
  have o1:=one hS
  generalize vs.getD i undef=u at*
  simp-implicitDefEqProofs only[go_sem,↓reduceIte,Za,Zb,Zc,reduceCtorEq,gi,e,tn_cast,ldNO_ptr,hvl,hld,Nat.mul_one]
  refine⟨⟨by omega,by omega⟩,?_⟩
  refine kont_newst [u] (by rfl) rfl rfl (by simp[o1]) fun A1 b5 e5 z5 B5 K5=>?_
  have hS1:=hS.keep0 K5
  simp-implicitDefEqProofs only[go_sem,↓reduceIte,Za,Zb,Zc,reduceCtorEq]
  refine vc_drk (fun _=>False) ?_
  simp-implicitDefEqProofs only[go_sem,↓reduceIte,Za,Zb,Zc,reduceCtorEq,B5.ldNO 1 rfl]
  refine(c.has _ _ 0 A1 hS1).mono ?_
  rintro r A2 ⟨rfl,K6⟩
  have m0:memI (elA p i) 0=false:=by
   cases hm:memI (elA p i) 0 with
   |false=>rfl
   |true=>
    have:memI (elA p i) ((0:Nat):Int)=true:=hm
    rw[memI_nat (by omega)]at this
    have:=(hG.us i 0 this).1
    omega
  have B52:=K6.bl B5 (by simp)
  simp-implicitDefEqProofs only[go_sem,↓reduceIte,Za,Zb,Zc,reduceCtorEq,m0,B52.ldNO 1 rfl,false_imp_iff,forall_const]
  refine⟨K6,(c.bel 257 A2 (by omega)).mono ?_⟩
  rintro r A3 ⟨S3,K7,_⟩
  simp-implicitDefEqProofs only[go_sem,↓reduceIte,Za,Zb,Zc,reduceCtorEq,false_imp_iff,forall_const]
  refine⟨K7,(c.sub _ _ _ _ A3 (hS1.keep0 (K6.trans K7)) S3).mono ?_⟩
  rintro r A4 ⟨⟨bb,rfl,hbb⟩,K8⟩
  have:bb=true:=hbb.2 fun n hn=>decide_eq_true (by have:=(hG.us i n hn).2;omega)
  subst this
  simp-implicitDefEqProofs only[go_sem,↓reduceIte,Za,Zb,Zc,reduceCtorEq,kont_eq,Bool.not_true,false_imp_iff,forall_const]
  exact⟨K8,(((KA.trans K5).trans K6).trans K7).trans K8⟩
 ·rintro g A -KA
  obtain⟨c0,c1,c2,c3,c4⟩:=cl (KA.bl B1' (by simp))
  have pA:=p1.keep0 KA
  simp-implicitDefEqProofs only[go_sem,↓reduceIte,Za,Zb,Zc,reduceCtorEq,c4]
  refine(c.con fx badU fv (ι.f 356) A pA.f (by omega) ⟨c.u1.1,fun u _ A=>c.u1.2 u A⟩).mono ?_
  rintro r A1 ⟨rfl,rfl⟩
  have BA:=KA.bl B1' (by simp)
  have hv1:PrbV A1 (.agg #[el,di,sa,mo,fv]) p fx:=⟨_,_,_,_,_,_,_,rfl,pA⟩
  rw[kont_eq]
  simp-implicitDefEqProofs only[go_sem,↓reduceIte,Za,Zb,Zc,reduceCtorEq,okU_any hU,BA.ldNO 5 rfl,c1]
  refine(c.prs p fx _ di p.di A1 hv1 pA.d (by omega) (by omega) hG.di).mono ?_
  rintro r A2 ⟨rfl,K2⟩
  have BA2:=K2.bl BA (by simp)
  obtain⟨c0,c1,c2,c3,c4⟩:=cl BA2
  have e00:((0:Int)!=0)=false:=rfl
  rw[kont_eq]
  simp-implicitDefEqProofs only[go_sem,↓reduceIte,Za,Zb,Zc,reduceCtorEq,e00,BA2.ldNO 5 rfl,c2]
  refine(c.prs p fx _ sa p.sa A2 (hv1.keep0 K2) (pA.s.keep0 K2) (by omega) (by omega) hG.sa).mono ?_
  rintro r A3 ⟨rfl,K3⟩
  have KA3:=(KA.trans K2).trans K3
  have BA3:=K3.bl BA2 (by simp)
  obtain⟨c0,c1,c2,c3,c4⟩:=cl BA3
  have hms:=hp.ms.len
  rw[kont_eq]
  simp-implicitDefEqProofs only[go_sem,↓reduceIte,Za,Zb,Zc,reduceCtorEq,e00,c3,hp.m.isSl,lm]
  refine vc_range p.mo.length [75,9,98,2,74] rfl rfl (by omega) (by rfl) (by rfl) (fun i g A=>Keep (fun _=>False) H1 A) KA3 ?_ ?_
  ·intro i g X hi gi gn KX
   simp-implicitDefEqProofs only[go_sem,↓reduceIte,Za,Zb,Zc,reduceCtorEq,kont_eq]at gi gn
   have pX:=p1.keep0 KX
   obtain⟨sb,so,sc,e,-,hld⟩:=pX.m.elem encV_len (i:=i) (by omega)
   obtain⟨g1,hset⟩:=pX.ms.at_ i (by omega) hi
   have hmo:=hG.mo _ (List.getElem_mem hi)
   unfold moE1 at hmo
   split at hmo
   ·omega
   next hmo'=>
   rw[not_or,not_or,not_or]at hmo'
   obtain⟨m1,m2,m3,m4⟩:=hmo'
   simp-implicitDefEqProofs only[go_sem,↓reduceIte,Za,Zb,Zc,reduceCtorEq,gi,e,tn_cast,ldNO_ptr,hld]
   refine⟨⟨by omega,by omega⟩,?_⟩
   refine kont_newst (encV ms[i]) (by rfl) rfl rfl (List.all_eq_true.2 (encV_one _)) fun X1 b9 e9 z9 B9 K9=>?_
   have ck:cell X1 ⟨b9,0,none⟩=some (.int .i64 p.mo[i].1):=by rw[B9.cell,<-g1];rfl
   have l1:ldNA X1 ⟨b9,1,none⟩ 1=some #[mvV ms[i]]:=B9.ldNA (o:=1) (n:=1) (by simp[encV])
   have d4:decide (p.mo[i].1<1)=false:=decide_eq_false (by omega)
   have d5:decide (p.mo[i].1>10)=false:=decide_eq_false (by omega)
   have hsX:=hset.keep0 K9
   obtain⟨u,W,eu,hV⟩:=hsX
   simp only[Value.agg.injEq,Array.mk.injEq,List.cons.injEq,and_true]at eu
   simp-implicitDefEqProofs only[go_sem,↓reduceIte,Za,Zb,Zc,reduceCtorEq]
   refine vc_drk (fun _=>False) ?_
   simp-implicitDefEqProofs only[go_sem,↓reduceIte,Za,Zb,Zc,reduceCtorEq,ck,d4,d5,ldNO_ptr,l1,forall_const,false_imp_iff]
   rw[eu]
   refine(c.emp _ u W X1 hV).mono ?_
   rintro r X2 ⟨rfl,K10⟩
   have hW:W≠[]:=fun h=>m3 (bt_none.1 (hV.nil_iff.1 h))
   have l1:ldNA X2 ⟨b9,1,none⟩ 1=some #[mvV ms[i]]:=(K10.bl B9 (by simp)).ldNA (o:=1) (n:=1) (by simp[encV])
   simp-implicitDefEqProofs only[go_sem,↓reduceIte,Za,Zb,Zc,reduceCtorEq,decide_eq_false hW,ldNO_ptr,l1,forall_const,false_imp_iff]
   refine⟨K10,(c.bel p.el.length X2 (by omega)).mono ?_⟩
   rintro r X3 ⟨S3,K11,_⟩
   simp-implicitDefEqProofs only[go_sem,↓reduceIte,Za,Zb,Zc,reduceCtorEq,forall_const,false_imp_iff]
   refine⟨K11,(c.sub _ _ _ _ X3 (hset.keep0 ((K9.trans K10).trans K11)) S3).mono ?_⟩
   rintro r X4 ⟨⟨bb,rfl,hbb⟩,K12⟩
   have:bb=true:=hbb.2 ((bt_within (by omega)).2 (by omega))
   subst this
   simp-implicitDefEqProofs only[go_sem,↓reduceIte,Za,Zb,Zc,reduceCtorEq,kont_eq,Bool.not_true,forall_const,false_imp_iff]
   exact⟨K12,(((KX.trans K9).trans K10).trans K11).trans K12⟩
  ·rintro g X -KX
   simp-implicitDefEqProofs only[go_sem,↓reduceIte,Za,Zb,Zc,reduceCtorEq,kont_eq]
   exact K1.trans KX
end Go.Mg
namespace Go.Mg
open Go Go.RowKit
set_option linter.all false
set_option maxRecDepth 100000
def c_brkE (ι:Ids):S:=
 (kY [kA 22 6,kU 23 (.cm .neq .i64 (.t 22) (.c (.int .i64 0))),kF 24 23,kT 25 24 true (.fa 0 (.v 2)),kT 26 24 true (.ld (.t 25)),kS 27 24 true 5,kT 28 24 true (.is 1 (.t 26) (.t 27)),kT 29 24 true (.m (.ldn 1 (.t 28))),kS 30 24 true 6,.ge (.t 31) (.t 24) true (.call (ι.f 130) [.t 29,.t 30]),kT 32 24 true (.not (.t 31)),kV 33 (.pick (.t 24) (.t 32) (.c (.bool false)))] (.ite (.v 33) (kY [.e .no (.st (.v 4) (.c (.bool true)))] .ret) .skip))
def c_brkD (ι:Ids):S:=
 (kY [kU 42 (.ld (.v 3)),kP 43 2 1 8 0,kD 44 43,kI 45 1 42 44,kD 46 45,kU 47 (.cm .neq .i64 (.t 46) (.c (.int .i64 0))),kF 48 47,kT 49 48 true (.ld (.v 3)),kT 50 48 true (.ia 2 1 (.v 8) (.c (.int .i64 0))),kT 51 48 true (.ld (.t 50)),kT 52 48 true (.is 1 (.t 49) (.t 51)),kT 53 48 true (.ld (.t 52)),kT 54 48 true (.ld (.v 3)),kT 55 48 true (.ia 2 1 (.v 8) (.c (.int .i64 1))),kT 56 48 true (.ld (.t 55)),kT 57 48 true (.is 1 (.t 54) (.t 56)),kT 58 48 true (.ld (.t 57)),kT 59 48 true (.cm .eql .i64 (.t 53) (.t 58)),kV 60 (.pick (.t 48) (.t 59) (.c (.bool false)))] (.ite (.v 60) (kY [.e .no (.st (.v 4) (.c (.bool true)))] .ret) .skip))
def c_brkS (ι:Ids):S:=
 (kY [kU 69 (.ld (.v 3)),kP 70 2 1 10 0,kD 71 70,kI 72 1 69 71,kD 73 72,kU 74 (.cm .neq .i64 (.t 73) (.c (.int .i64 0))),kF 75 74,kT 76 75 true (.ld (.v 3)),kT 77 75 true (.ia 2 1 (.v 10) (.c (.int .i64 1))),kT 78 75 true (.ld (.t 77)),kT 79 75 true (.is 1 (.t 76) (.t 78)),kT 80 75 true (.ld (.t 79)),kT 81 75 true (.cm .neq .i64 (.t 80) (.c (.int .i64 0))),kJ 82 75 81,kF 83 82,kT 84 83 true (.ld (.v 3)),kT 85 83 true (.ia 2 1 (.v 10) (.c (.int .i64 0))),kT 86 83 true (.ld (.t 85)),kT 87 83 true (.is 1 (.t 84) (.t 86)),kT 88 83 true (.ld (.t 87)),kT 89 83 true (.ld (.v 3)),kT 90 83 true (.ia 2 1 (.v 10) (.c (.int .i64 1))),kT 91 83 true (.ld (.t 90)),kT 92 83 true (.is 1 (.t 89) (.t 91)),kT 93 83 true (.ld (.t 92)),kT 94 83 true (.cm .neq .i64 (.t 88) (.t 93)),kV 95 (.pick (.t 83) (.t 94) (.c (.bool false)))] (.ite (.v 95) (kY [.e .no (.st (.v 4) (.c (.bool true)))] .ret) .skip))
def c_brkL (ι:Ids):S:=
 (.seq (.dr (kW 121 (.ld (.v 13)) (kW 122 (.ld (.v 3)) (kW 123 (.mv (.v 14)) (kW 124 (.is 1 (.t 122) (.t 123)) (kW 125 (.ld (.t 124)) (kW 126 (.m (.lki .i64 (.int .i64 0) (.t 121) (.t 125))) (kW 127 (.fa 0 (.v 12)) (kW 128 (.ld (.t 127)) (kX 129 (.cm .gtr .i64 (.t 126) (.t 128)) .done)))))))))) (.ite (.v 129) (kY [.e .no (.st (.v 4) (.c (.bool true)))] .ret) .skip))
def c_brkI (ι:Ids):S:=
 (.blk 9 (.seq (kY [kU 109 (.ld (.v 3)),kA 110 14,kI 111 1 109 110,kD 112 111,kV 113 (.cm .neq .i64 (.t 112) (.c (.int .i64 0)))] (.ite (.v 113) (.dr (kW 114 (.ld (.v 13)) (kW 115 (.ld (.v 3)) (kW 116 (.mv (.v 14)) (kW 117 (.is 1 (.t 115) (.t 116)) (kW 118 (.ld (.t 117)) (.wcons (.t 119) .none (.rd (.m (.lki .i64 (.int .i64 0) (.t 114) (.t 118)))) (kW 120 (.ar .add .i64 (.t 119) (.c (.int .i64 1))) (.wcons .no .none (.mui .i64 (.t 114) (.t 118) (.t 120)) .done .wnil)) .wnil))))))) .skip)) (c_brkL ι)))
def c_brkM (ι:Ids):S:=
 (kY [.e (.t 104) .mkm,.e (.v 13) (.new (ι.t 362) #[.map .none]),.e .no (.st (.v 13) (.t 104))] (kY [kG 105 1 12,kN 106 1 105,.e (.v 107) (.call (ι.f 137) [.t 106])] (.blk 8 (.rf 131 (.v 107) 108 14 (c_brkI ι)))))
def c_rbrk (ι:Ids):S:=
 kY [kR 2 (ι.t 358) 0,kR 3 (ι.t 138) 1,.e (.v 4) (.new (ι.t 151) #[.bool false])] (.seq (kY [kV 15 (.ld (.v 3)),kO 16 15,kC 17 (.int .i64 0)] (.blk 0 (.loop (kY [kH 18 17 16] (.seq (.ite (.v 18) .skip (.exit 0)) (.seq (.blk 1 (kY [kA 19 17,kK 20 1 15 17,kD 21 20,kB 5 19,kB 6 21] (c_brkE ι))) (.reg [ke 34 17,kB 17 34]))))))) (.seq (kY [kG 35 1 2,kV 36 (.ld (.t 35)),kO 37 36,kC 38 (.int .i64 0)] (.blk 2 (.loop (kY [kH 39 38 37] (.seq (.ite (.v 39) .skip (.exit 2)) (.seq (.blk 3 (kY [kK 40 2 36 38,kN 41 2 40,.e (.v 8) (.new (ι.t 194) #[.int .i64 0,.int .i64 0]),.e .no (.stn 2 (.v 8) (.t 41))] (c_brkD ι))) (.reg [ke 61 38,kB 38 61]))))))) (.seq (kY [kG 62 2 2,kV 63 (.ld (.t 62)),kO 64 63,kC 65 (.int .i64 0)] (.blk 4 (.loop (kY [kH 66 65 64] (.seq (.ite (.v 66) .skip (.exit 4)) (.seq (.blk 5 (kY [kK 67 2 63 65,kN 68 2 67,.e (.v 10) (.new (ι.t 194) #[.int .i64 0,.int .i64 0]),.e .no (.stn 2 (.v 10) (.t 68))] (c_brkS ι))) (.reg [ke 96 65,kB 65 96]))))))) (.seq (kY [kG 97 3 2,kV 98 (.ld (.t 97)),kO 99 98,kC 100 (.int .i64 0)] (.blk 6 (.loop (kY [kH 101 100 99] (.seq (.ite (.v 101) .skip (.exit 6)) (.seq (.blk 7 (kY [kK 102 2 98 100,kN 103 2 102,.e (.v 12) (.new (ι.t 298) #[.int .i64 0,kZ]),.e .no (.stn 2 (.v 12) (.t 103))] (c_brkM ι))) (.reg [ke 130 100,kB 100 130]))))))) (kY [.e .no (.st (.v 4) (.c (.bool false)))] .ret)))))
def r_rbrk:List RV:=[.c1 4]
theorem findI_mod {u v:Int}:∀(es:List MapEntry) (i:Nat),es.findIdx? (fun e=>u==e.key.i)=some i->∀w:Int,findI w (es.modify i fun e=>{e with key:=.int .i64 u,val:=.int .i64 v})=if w=u then some (.int .i64 v)else findI w es
 |[],i,h,w=>by simp at h
 |e::es,i,h,w=>by
  rw[List.findIdx?_cons]at h
  by_cases hu:(u==e.key.i)=true
  ·rw[if_pos hu]at h
   cases h
   have he:u=e.key.i:=by simpa using hu
   have hvi:(Value.int .i64 u).i=u:=rfl
   simp only[List.modify_zero_cons,findI,List.find?_cons,hvi]
   by_cases hw:w=u
   ·have:(w==u)=true:=by simp[hw]
    rw[this,if_pos hw];rfl
   ·have h1:(w==u)=false:=by simp[hw]
    have h2:(w==e.key.i)=false:=by rw[<-he];exact h1
    rw[h1,if_neg hw,h2]
  ·rw[if_neg hu]at h
   obtain⟨j,hj,rfl⟩:=Option.map_eq_some_iff.1 h
   have ih:=findI_mod (v:=v) es j hj w
   simp only[List.modify_succ_cons,findI,List.find?_cons]at ih⊢
   by_cases hw:(w==e.key.i)=true
   ·rw[hw]
    have h1:w=e.key.i:=by simpa using hw
    have:¬w=u:=fun e'=>hu (by rw[<-e',h1];simp)
    rw[if_neg this]
   ·have hw':(w==e.key.i)=false:=by simpa using hw
    rw[hw']
    exact ih
variable {u K:Int} {H A:Hp} {b b4 b3 b7 n k b12:Nat} {g:Int->Nat} {P:Program} {ι:Ids} {f:Fr} {c4 sv mv:Value} {Qb:Ex->Fr->Hp->Prop} {x:PrN} {st:List Int} {m:UInt64}
theorem findI_push {v:Int} {c:Nat}:∀(es:List MapEntry),es.findIdx? (fun e=>u==e.key.i)=none->∀w:Int,findI w (es++[{key:=.int .i64 u,val:=.int .i64 v,born:=c}])=if w=u then some (.int .i64 v)else findI w es:=fun es h w=>by
 rw[List.findIdx?_eq_none_iff]at h
 unfold findI
 rw[List.find?_append]
 by_cases hw:w=u
 ·subst hw
  have:es.find? (fun e=>w==e.key.i)=none:=by
   rw[List.find?_eq_none]
   intro e he
   rw[h e he];simp
  rw[this,if_pos rfl]
  simp[Value.i]
 ·rw[if_neg hw]
  have:(w==u)=false:=by simp[hw]
  simp[Value.i,this]
def MapZ (H:Hp) (b:Nat) (g:Int->Nat):Prop:=∃es c,H[b]?=some (.map es c)/\(∀e∈es.toList,isI .i64 e.key)/\∀w,(findI w es.toList).getD (.int .i64 0)=.int .i64 (g w:Int)
theorem MapZ.keep {W:Nat->Prop} {H':Hp} (h:MapZ H b g) (hk:Keep W H H') (hw:¬W b):MapZ H' b g:=by
 obtain⟨es,c,h1,h2⟩:=h
 exact⟨es,c,by rw[hk.at_ b (Array.getElem?_eq_some_iff.1 h1).1 hw];exact h1,h2⟩
theorem MapZ.lt (h:MapZ H b g):b<H.size:=by
 obtain⟨es,c,h1,h2⟩:=h
 exact(Array.getElem?_eq_some_iff.1 h1).1
theorem MapZ.new (H:Hp):MapZ (H.push (.map #[] 0)) H.size (fun _=>0):=⟨#[],0,by simp,by simp,fun w=>rfl⟩
theorem MapZ.inn (h:MapZ H b g):∃es,mapIn H (.map (some b))=some es/\(∀e∈es,isI .i64 e.key)/\∀w,(findI w es).getD (.int .i64 0)=.int .i64 (g w:Int):=by
 obtain⟨es,c,h1,h2,h3⟩:=h
 exact⟨es.toList,by simp[mapIn,h1],h2,h3⟩
theorem MapZ.upd (h:MapZ H b g) (u:Int) (n:Nat):∃es c,H[b]?=some (.map es c)/\(∀e∈es.toList,isI .i64 e.key)∧
  MapZ (H.setIfInBounds b (.map (updI es c (.int .i64 u) (.int .i64 (n:Int))).1 (updI es c (.int .i64 u) (.int .i64 (n:Int))).2)) b (fun w=>if w=u then n else g w):=by
 have hb:=h.lt
 obtain⟨es,c,h1,h2,h3⟩:=h
 refine⟨es,c,h1,h2,_,_,by rw[Array.getElem?_setIfInBounds_self_of_lt hb],?_,?_⟩
 ·unfold updI
  split
  ·next i hi=>
   intro e he
   simp only[Array.toList_modify]at he
   obtain⟨j,hj,rfl⟩:=List.getElem_of_mem he
   rw[List.getElem_modify]
   split
   ·rfl
   ·exact h2 _ (List.getElem_mem _)
  ·intro e he
   simp only[Array.toList_push,List.mem_append,List.mem_singleton]at he
   rcases he with he|rfl
   ·exact h2 e he
   ·rfl
 ·intro w
  have hk:(Value.int .i64 u).i=u:=rfl
  unfold updI
  rw[hk]
  split
  ·next i hi=>
   simp only[Array.toList_modify]
   rw[findI_mod es.toList i hi w]
   split
   ·rfl
   ·exact h3 w
  ·next hi=>
   simp only[Array.toList_push]
   rw[findI_push es.toList hi w]
   split
   ·rfl
   ·exact h3 w
theorem brkE_ok (has:HasSpec P (ι.f 130)) {b2 i:Nat} {el di sa mo fv:Value} {vs:List Value} {ms:List MV} {p:PbN} {fx:List Int}
  (h2:f 2=.pointer (some ⟨b2,0,none⟩)) (h4:f 4=.pointer (some ⟨b4,0,none⟩)) (h5:f 5=.int .i64 (i:Int)) (h6:f 6=.int .i64 u) (B2:Bl A b2 [el,di,sa,mo,fv]) (B4:Bl A b4 [c4]) (hp:PrbR A p fx el di sa mo fv vs ms) (hi:i<p.el.length) (hi':p.el.length<=10)
  (hT:u≠0->memI (elA p i) u=false->∀f' A',(∀j,j≠33->f' j=f j)->Bl A' b4 [.bool true]->Keep (fun q=>q=b4) A A'->Qb .r f' A')
  (hF:¬(u≠0/\memI (elA p i) u=false)->∀f' A',(∀j,j≠33->f' j=f j)->Keep (fun _=>False) A A'->Qb .n f' A'):vc P (c_brkE ι) Qb f A:=by
 unfold c_brkE kA kF kS kT kU kV kY
 have keep:∀(z:Value),∀j,j≠33->upd f 33 z j=f j:=fun z j hj=>by simp only[upd,hj,if_false]
 by_cases e1:u=0
 ·have d1:(u !=0)=false:=by rw[e1];rfl
  simp-implicitDefEqProofs only[go_sem,↓reduceIte,Za,Zb,Zc,reduceCtorEq,kont_eq,h6,d1]
  exact hF (fun h=>h.1 e1) _ _ (keep _) (Keep.refl _ _)
 have d1:(u !=0)=true:=bne_iff_ne.2 e1
 have hvl:=hp.el
 have c2:cell A ⟨b2,0,none⟩=some el:=by rw[B2.cell];rfl
 obtain⟨sb,so,sc,e,hld⟩:=hp.e.ld1 (i:=i) (by omega)
 have hS:=hp.es i (by omega)
 generalize vs.getD i undef=w at*
 simp-implicitDefEqProofs only[go_sem,↓reduceIte,Za,Zb,Zc,reduceCtorEq,kont_eq,h2,h5,h6,d1,c2,e,tn_cast,hvl,hld,ldNO_ptr]
 refine⟨by omega,?_⟩
 refine(has _ _ u A hS).mono ?_
 rintro r A1 ⟨rfl,K1⟩
 rw[kont_eq]
 cases hm:memI (elA p i) u with
 |true=>
  simp-implicitDefEqProofs only[go_sem,↓reduceIte,Za,Zb,Zc,reduceCtorEq,kont_eq,Bool.not_true,false_imp_iff,forall_const]
  exact hF (fun h=>by rw[hm]at h;cases h.2) _ _ (keep _) K1
 |false=>
  have B41:=K1.bl B4 (by simp)
  have t4:=B41.okSt (o:=0) (by simp)
  have B4s:=B41.setc 0 (.bool true)
  have k4:Keep (fun q=>q=b4) A1 (setc A1 ⟨b4,0,none⟩ (.bool true)):=(Keep.refl _ _).setc _ (.inl rfl)
  simp-implicitDefEqProofs only[go_sem,↓reduceIte,Za,Zb,Zc,reduceCtorEq,kont_eq,Bool.not_false,forall_const,h4,t4]
  exact hT e1 hm _ _ (keep _) B4s (K1.any.trans k4)
theorem brkD_ok (h3:f 3=.pointer (some ⟨b3,0,none⟩)) (h4:f 4=.pointer (some ⟨b4,0,none⟩)) (h7:f 8=.pointer (some ⟨b7,0,none⟩))
  (B3:Bl A b3 [sv]) (B4:Bl A b4 [c4]) (B7:Bl A b7 (pE x)) (hs:SlR A sv (iL st)) (hn:st.length=n) (hx:okP (n:Int) x)
  (hT:difB st x=true->∀f' A',(∀j,j≠60->f' j=f j)->Bl A' b4 [.bool true]->Keep (fun q=>q=b4) A A'->Qb .r f' A') (hF:difB st x=false->∀f',(∀j,j≠60->f' j=f j)->Qb .n f' A):vc P (c_brkD ι) Qb f A:=by
 unfold c_brkD kF kD kI kP kT kU kV kY
 obtain⟨x1,x2,x3,x4⟩:=hx
 have c3:cell A ⟨b3,0,none⟩=some sv:=by rw[B3.cell];rfl
 have c70:cell A ⟨b7,0,none⟩=some (.int .i64 x.1):=by rw[B7.cell];rfl
 have c71:cell A ⟨b7,1,none⟩=some (.int .i64 x.2):=by rw[B7.cell];rfl
 obtain⟨sb,so,sc,rfl,k1⟩:=staff_cell hs x1 (by omega)
 obtain⟨sb',so',sc',e,k2⟩:=staff_cell hs x3 (by omega)
 simp only[Value.slice.injEq,Option.some.injEq,Addr.mk.injEq,true_and,and_true]at e
 obtain⟨⟨rfl,rfl⟩,rfl⟩:=e
 have keep:∀(z:Value),∀j,j≠60->upd f 60 z j=f j:=fun z j hj=>by simp only[upd,hj,if_false]
 have t4:=B4.okSt (o:=0) (by simp)
 have B4s:=B4.setc 0 (.bool true)
 have k4:Keep (fun q=>q=b4) A (setc A ⟨b4,0,none⟩ (.bool true)):=(Keep.refl _ _).setc _ (.inl rfl)
 by_cases e1:sI st x.1=0
 ·have d1:(sI st x.1 !=0)=false:=by rw[e1];rfl
  simp-implicitDefEqProofs only[go_sem,↓reduceIte,Za,Zb,Zc,reduceCtorEq,kont_eq,Zf,Zg,Zh,Zi,Zd,Ze,h3,h7,c3,c70,c71,k1,k2,d1]
  refine⟨by omega,hF ?_ _ (keep _)⟩
  simp[difB,e1]
 have d1:(sI st x.1 !=0)=true:=bne_iff_ne.2 e1
 by_cases e2:sI st x.1=sI st x.2
 ·have d2:(sI st x.1==sI st x.2)=true:=by rw[e2];simp
  simp-implicitDefEqProofs only[go_sem,↓reduceIte,Za,Zb,Zc,reduceCtorEq,kont_eq,Zf,Zg,Zh,Zi,Zd,Ze,h3,h4,h7,c3,c70,c71,k1,k2,d1,d2,t4]
  refine⟨by omega,by omega,by omega,?_⟩
  refine hT ?_ _ _ (keep _) B4s k4
  simp only[difB,Bool.and_eq_true,decide_eq_true_eq]
  exact⟨e1,e2⟩
 ·have d2:(sI st x.1==sI st x.2)=false:=by simp[e2]
  simp-implicitDefEqProofs only[go_sem,↓reduceIte,Za,Zb,Zc,reduceCtorEq,kont_eq,Zf,Zg,Zh,Zi,Zd,Ze,h3,h7,c3,c70,c71,k1,k2,d1,d2]
  refine⟨by omega,by omega,by omega,hF ?_ _ (keep _)⟩
  simp[difB,e2]
theorem brkS_ok (h3:f 3=.pointer (some ⟨b3,0,none⟩)) (h4:f 4=.pointer (some ⟨b4,0,none⟩)) (h7:f 10=.pointer (some ⟨b7,0,none⟩))
  (B3:Bl A b3 [sv]) (B4:Bl A b4 [c4]) (B7:Bl A b7 (pE x)) (hs:SlR A sv (iL st)) (hn:st.length=n) (hx:okP (n:Int) x)
  (hT:samB st x=true->∀f' A',(∀j,j≠95->f' j=f j)->Bl A' b4 [.bool true]->Keep (fun q=>q=b4) A A'->Qb .r f' A') (hF:samB st x=false->∀f',(∀j,j≠95->f' j=f j)->Qb .n f' A):vc P (c_brkS ι) Qb f A:=by
 unfold c_brkS kF kD kI kJ kP kT kU kV kY
 obtain⟨x1,x2,x3,x4⟩:=hx
 have c3:cell A ⟨b3,0,none⟩=some sv:=by rw[B3.cell];rfl
 have c70:cell A ⟨b7,0,none⟩=some (.int .i64 x.1):=by rw[B7.cell];rfl
 have c71:cell A ⟨b7,1,none⟩=some (.int .i64 x.2):=by rw[B7.cell];rfl
 obtain⟨sb,so,sc,rfl,k1⟩:=staff_cell hs x1 (by omega)
 obtain⟨sb',so',sc',e,k2⟩:=staff_cell hs x3 (by omega)
 simp only[Value.slice.injEq,Option.some.injEq,Addr.mk.injEq,true_and,and_true]at e
 obtain⟨⟨rfl,rfl⟩,rfl⟩:=e
 have keep:∀(z:Value),∀j,j≠95->upd f 95 z j=f j:=fun z j hj=>by simp only[upd,hj,if_false]
 have t4:=B4.okSt (o:=0) (by simp)
 have B4s:=B4.setc 0 (.bool true)
 have k4:Keep (fun q=>q=b4) A (setc A ⟨b4,0,none⟩ (.bool true)):=(Keep.refl _ _).setc _ (.inl rfl)
 by_cases e1:sI st x.1=0
 ·have d1:(sI st x.1 !=0)=false:=by rw[e1];rfl
  simp-implicitDefEqProofs only[go_sem,↓reduceIte,Za,Zb,Zc,reduceCtorEq,kont_eq,Zf,Zg,Zh,Zi,Zd,Ze,h3,h7,c3,c70,c71,k1,k2,d1]
  refine⟨by omega,hF ?_ _ (keep _)⟩
  simp[samB,e1]
 have d1:(sI st x.1 !=0)=true:=bne_iff_ne.2 e1
 by_cases e0:sI st x.2=0
 ·have d0:(sI st x.2 !=0)=false:=by rw[e0];rfl
  simp-implicitDefEqProofs only[go_sem,↓reduceIte,Za,Zb,Zc,reduceCtorEq,kont_eq,Zf,Zg,Zh,Zi,Zd,Ze,h3,h7,c3,c70,c71,k1,k2,d1,d0]
  refine⟨by omega,by omega,hF ?_ _ (keep _)⟩
  simp[samB,e0]
 have d0:(sI st x.2 !=0)=true:=bne_iff_ne.2 e0
 by_cases e2:sI st x.1=sI st x.2
 ·have d2:(sI st x.1 !=sI st x.2)=false:=by rw[e2];simp
  simp-implicitDefEqProofs only[go_sem,↓reduceIte,Za,Zb,Zc,reduceCtorEq,kont_eq,Zf,Zg,Zh,Zi,Zd,Ze,h3,h7,c3,c70,c71,k1,k2,d1,d0,d2]
  refine⟨by omega,by omega,by omega,by omega,hF ?_ _ (keep _)⟩
  simp[samB,e2]
 ·have d2:(sI st x.1 !=sI st x.2)=true:=bne_iff_ne.2 e2
  simp-implicitDefEqProofs only[go_sem,↓reduceIte,Za,Zb,Zc,reduceCtorEq,kont_eq,Zf,Zg,Zh,Zi,Zd,Ze,h3,h4,h7,c3,c70,c71,k1,k2,d1,d0,d2,t4]
  refine⟨by omega,by omega,by omega,by omega,?_⟩
  refine hT ?_ _ _ (keep _) B4s k4
  simp only[samB,Bool.and_eq_true,decide_eq_true_eq]
  exact⟨⟨e1,e0⟩,e2⟩
theorem MapZ.ne {l:List Value} (h:MapZ H b g) (B:Bl H k l):k≠b:=by
 rintro rfl
 obtain⟨es,c,h1,_⟩:=h
 obtain⟨T,h2⟩:=B
 rw[h2]at h1;cases h1
def bump (g:Int->Nat) (u:Int):Int->Nat:=if u=0 then g else fun w=>if w=u then g u+1 else g w
theorem brkI_ok {b13 bm kk:Nat}
  (h3:f 3=.pointer (some ⟨b3,0,none⟩)) (h4:f 4=.pointer (some ⟨b4,0,none⟩)) (h12:f 12=.pointer (some ⟨b12,0,none⟩)) (h13:f 13=.pointer (some ⟨b13,0,none⟩)) (h14:f 14=.int .i64 (kk:Int))
  (B3:Bl A b3 [sv]) (B4:Bl A b4 [c4]) (B12:Bl A b12 [.int .i64 K,mv]) (B13:Bl A b13 [.map (some bm)]) (M:MapZ A bm g) (hs:SlR A sv (iL st)) (hsn:∀q,slB sv q->q≠bm) (hkk:kk<st.length) (hb:g (st.getD kk 0)<=10000)
  (hT:K<(bump g (st.getD kk 0) (st.getD kk 0):Int)->∀f' A',Bl A' b4 [.bool true]->Keep (fun q=>q=b4\/q=bm) A A'->Qb .r f' A')
  (hF:¬K<(bump g (st.getD kk 0) (st.getD kk 0):Int)->∀f' A',MapZ A' bm (bump g (st.getD kk 0))->Keep (fun q=>q=bm) A A'->Qb .n f' A'):vc P (c_brkI ι) Qb f A:=by
 unfold c_brkI kA kD kI kU kV kW kY
 have c3:cell A ⟨b3,0,none⟩=some sv:=by rw[B3.cell];rfl
 have c13:cell A ⟨b13,0,none⟩=some (.map (some bm)):=by rw[B13.cell];rfl
 have n3:=M.ne B3
 have n4:=M.ne B4
 have n12:=M.ne B12
 have n13:=M.ne B13
 obtain⟨sb,so,sc,rfl,k1⟩:=staff_cell (a:=(kk:Int)) hs (by omega) (by omega)
 have hsb:slB (.slice (some ⟨sb,so,none⟩) st.length sc) sb:=⟨rfl,by omega⟩
 have ns:sb≠bm:=hsn sb hsb
 have hsi:sI st (kk:Int)=st.getD kk 0:=rfl
 rw[hsi,Int.toNat_natCast]at k1
 obtain⟨u,hu⟩:∃u,u=st.getD kk 0:=⟨_,rfl⟩
 rw[<-hu]at k1 hb hT hF
 have m3:(b3=bm)=False:=eq_false n3
 have m13:(b13=bm)=False:=eq_false n13
 have ms:(sb=bm)=False:=eq_false ns
 -- what comes last
 have fin:∀(f':Fr) (A1:Hp),f' 3=f 3->f' 4=f 4->f' 12=f 12->f' 13=f 13->f' 14=f 14->MapZ A1 bm (bump g u)->Keep (fun q=>q=bm) A A1→
   vc P (c_brkL ι) (blkQ 9 Qb) f' A1:=fun f' A1 e3 e4 e12 e13 e14 M1 K1=>by
  unfold c_brkL kW kX kY
  rw[h3]at e3;rw[h4]at e4;rw[h12]at e12;rw[h13]at e13;rw[h14]at e14
  have c31:cell A1 ⟨b3,0,none⟩=some (.slice (some ⟨sb,so,none⟩) st.length sc):=by rw[(K1.bl B3 n3).cell];rfl
  have c131:cell A1 ⟨b13,0,none⟩=some (.map (some bm)):=by rw[(K1.bl B13 n13).cell];rfl
  have c121:cell A1 ⟨b12,0,none⟩=some (.int .i64 K):=by rw[(K1.bl B12 n12).cell];rfl
  have B41:=K1.bl B4 n4
  have k11:cell A1 ⟨sb,so+kk,none⟩=some (.int .i64 u):=by
   have lt:=hs.old (k:=sb) hsb
   rw[K1.cell lt ns];exact k1
  obtain⟨es,e1,e2,e3'⟩:=M1.inn
  have eu:=e3' u
  have t4:=B41.okSt (o:=0) (by simp)
  have B4s:=B41.setc 0 (.bool true)
  have k4:Keep (fun q=>q=b4) A1 (setc A1 ⟨b4,0,none⟩ (.bool true)):=(Keep.refl _ _).setc _ (.inl rfl)
  simp only[go_sem,Za,Zb,kont_eq]
  refine vc_drk (fun _=>False) ?_
  simp only[go_sem,Za,Zb,kont_eq,e3,e12,e13,e14,c31,c131,c121,k11,tn_cast,e1,eu]
  refine⟨by omega,⟨es,rfl,e2⟩,?_⟩
  by_cases e:(bump g u u:Int)>K
  ·have d:decide ((bump g u u:Int)>K)=true:=decide_eq_true e
   simp only[go_sem,Za,Zb,kont_eq,d,e4,t4]
   exact hT (by omega) _ _ B4s ((K1.mono fun q _ h=>.inr h).trans (k4.mono fun q _ h=>.inl h))
  ·have d:decide ((bump g u u:Int)>K)=false:=decide_eq_false e
   simp only[go_sem,Za,Zb,kont_eq,d]
   exact hF (by omega) _ _ M1 K1
 have B4s:=B4.setc 0 (.bool true)
 by_cases e1:u=0
 ·have d1:(u !=0)=false:=by rw[e1];rfl
  have hbu:bump g u=g:=by unfold bump;rw[if_pos e1]
  rw[hbu]at fin
  simp only[go_sem,Za,Zb,kont_eq,h3,h14,c3,tn_cast,k1,d1]
  refine⟨by omega,?_⟩
  have:=fin (upd f 113 (.bool false)) A (by rfl) (by rfl) (by rfl) (by rfl) (by rfl) M (Keep.refl _ _)
  unfold c_brkL kW kX kY at this
  exact this
 have d1:(u !=0)=true:=bne_iff_ne.2 e1
 have hbu:bump g u=fun w=>if w=u then g u+1 else g w:=by unfold bump;rw[if_neg e1]
 obtain⟨es,i1,i2,i3⟩:=M.inn
 obtain⟨es',ec,j1,j2,j3⟩:=M.upd u (g u+1)
 have eu:=i3 u
 have w1:IntKind.i64.wrap ((g u:Int)+1)=((g u+1:Nat):Int):=IntWalk.i64_in _ (by omega)
 have ku:Keep (fun q=>q=bm) A (A.setIfInBounds bm (.map (updI es' ec (.int .i64 u) (.int .i64 ((g u+1:Nat):Int))).1 (updI es' ec (.int .i64 u) (.int .i64 ((g u+1:Nat):Int))).2)):=
  ⟨by simp,fun q _ hq=>by rw[Array.getElem?_setIfInBounds_ne (fun e=>hq e.symm)]⟩
 simp only[go_sem,Za,Zb,kont_eq,h3,h14,c3,tn_cast,k1,d1]
 refine⟨by omega,?_⟩
 refine vc_drk (fun q=>q=bm) ?_
 simp only[go_sem,Za,Zb,kont_eq,h3,h13,h14,c3,c13,tn_cast,k1,m3,m13,ms,i1,eu,w1]
 refine⟨by omega,⟨es,rfl,i2⟩,Keep.refl _ _,bm,es',ec,rfl,j1,j2,ku,?_⟩
 rw[hbu]at fin
 exact fin _ _ (by rfl) (by rfl) (by rfl) (by rfl) (by rfl) j3 ku
def tmG (st:List Int) (m:UInt64) (k:Nat) (u:Int):Nat:=if u=0 then 0 else tmN st m k u
theorem tmG_succ {s:List Int} (hk:k<(mems (bt m)).length):tmG s m (k+1)=bump (tmG s m k) (s.getD (mems (bt m))[k] 0):=by
 funext u
 unfold bump
 by_cases h0:s.getD (mems (bt m))[k] 0=0
 ·rw[if_pos h0]
  unfold tmG
  by_cases hu:u=0
  ·rw[if_pos hu,if_pos hu]
  ·rw[if_neg hu,if_neg hu,tmN_succ hk,h0,if_neg (fun e=>hu e.symm)];rfl
 ·rw[if_neg h0]
  unfold tmG
  by_cases hu:u=0
  ·subst hu
   rw[if_pos rfl,if_pos rfl,if_neg (fun e=>h0 e.symm)]
  ·rw[if_neg hu,if_neg hu,tmN_succ hk]
   by_cases e:u=s.getD (mems (bt m))[k] 0
   ·rw[if_pos e.symm,if_pos e,if_neg h0,e]
   ·rw[if_neg (fun h=>e h.symm),if_neg e];rfl
theorem brkM_ok (hba:BAllSpec P (ι.f 137) (ι.f 136)) (hb1:bodyOk P (ι.f 136)=true) (hY:FnIsY P (ι.f 136) (c_ball1 ι) r_ball1 2) (htz:TzSpec P ι (ι.f 126))
  (h3:f 3=.pointer (some ⟨b3,0,none⟩)) (h4:f 4=.pointer (some ⟨b4,0,none⟩)) (h12:f 12=.pointer (some ⟨b12,0,none⟩))
  (B3:Bl A b3 [sv]) (B4:Bl A b4 [c4]) (B12:Bl A b12 [.int .i64 K,mv]) (h34:b3≠b4) (h124:b12≠b4)
  (hs:SlR A sv (iL st)) (hsn:∀q,slB sv q->q≠b4) (hm:SetM A (.agg #[mv]) (bt m)) (hmn:∀q,slB mv q->q≠b4) (hT:TabOk ι A) (hTn:∀A',Keep (fun q=>q=b4\/A.size<=q) A A'->TabOk ι A')
  (hl:st.length<=10) (hK:1<=K) (hmt:m.toNat<2^st.length) (hr:∀u∈st,0<=u/\u<=256)
  (hR:mosB st (K,m)=true->∀f' A' q,(∀j,j∉[13,107,131]->f' j=f j)->f' 131=addM (f 131) q->A.size<=q->A'[q]?=some (.deferred (some []))->Bl A' b4 [.bool true]->Keep (fun q=>q=b4) A A'->Qb .r f' A')
  (hN:mosB st (K,m)=false->∀f' A' q,(∀j,j∉[13,107,131]->f' j=f j)->f' 131=addM (f 131) q->A.size<=q->A'[q]?=some (.deferred (some []))->Bl A' b4 [c4]->Keep (fun q=>q=b4) A A'->Qb .n f' A'):vc P (c_brkM ι) Qb f A:=by
 unfold c_brkM kG kN kY
 have s4:=B4.lt
 have s3:=B3.lt
 have s12:=B12.lt
 simp only[go_sem,Za,Zb]
 have M0:=MapZ.new A
 have K0:Keep (fun _=>False) A (A.push (.map #[] 0)):=(Keep.refl _ _).push _
 have z0:(A.push (Obj.map #[] 0)).size=A.size+1:=by simp
 obtain⟨bm,hbm⟩:∃bm,bm=A.size:=⟨_,rfl⟩
 rw[<-hbm]at M0⊢
 generalize A.push (.map #[] 0)=A0 at M0 K0 z0⊢
 rw[kont_eq]
 simp only[go_sem,Za,Zb]
 refine kont_new fun H1 b13 e13 z1 B13 K1=>?_
 have B13':Bl H1 b13 [.map none]:=B13
 have t13:=B13'.okSt (o:=0) (by simp)
 have D13:=B13'.setc 0 (.map (some bm))
 have D13':Bl (setc H1 ⟨b13,0,none⟩ (.map (some bm))) b13 [.map (some bm)]:=D13
 have k13:Keep (fun q=>q=b13) H1 (setc H1 ⟨b13,0,none⟩ (.map (some bm))):=(Keep.refl _ _).setc _ (.inl rfl)
 simp only[go_sem,Za,Zb,t13]
 have zc:(setc H1 ⟨b13,0,none⟩ (.map (some bm))).size=H1.size:=size_setc _ _ _
 generalize setc H1 ⟨b13,0,none⟩ (.map (some bm))=G1 at D13' k13 zc⊢
 have KG:Keep (fun _=>False) A G1:=(K0.trans K1).trans' k13 fun q hq h=>by omega
 have M1:MapZ G1 bm (fun _=>0):=(M0.keep K1 (by simp)).keep k13 (by omega)
 have B121:=KG.bl B12 (by simp)
 have mS:ldNA G1 ⟨b12,1,none⟩ 1=some #[mv]:=by
  have:=B121.ldNA (o:=1) (n:=1) (by simp)
  simpa using this
 rw[kont_eq]
 simp only[go_sem,Za,Zb,h12,ldNO_ptr,mS]
 refine(hba mv G1).mono ?_
 rintro r H2 ⟨rfl,Bs,K2,z2⟩
 rw[kont_eq]
 have K02:=KG.trans K2
 have B32:=K02.bl B3 (by simp)
 have B42:=K02.bl B4 (by simp)
 have B122:=K02.bl B12 (by simp)
 have B132:=K2.bl D13' (by simp)
 have M2:=M1.keep K2 (by simp)
 obtain⟨u,W0,hu,hV⟩:=hm
 simp only[Value.agg.injEq,Array.mk.injEq,List.cons.injEq,and_true]at hu
 rw[<-hu]at hV
 have hmo:∀q,slB mv q->q<A.size:=fun q hq=>SetM.old (x:=.agg #[mv]) ⟨mv,W0,rfl,hV⟩ (k:=q) hq
 have hV2:=hV.keep K02 (by simp)
 have hso:∀q,slB sv q->q<A.size:=fun q hq=>hs.old hq
 have hs2:=hs.keep K02 (by simp)
 simp only[go_sem,Za,Zb,kont_eq]
 refine vc_rf (fun p=>p=b4\/p=bm) (fun k A=>MapZ A bm (tmG st m k)/\(∀u:Int,0<=u->u<=256->(tmG st m k u:Int)<=K)/\Bl A b4 [c4])
  (fun e A=>e=.r/\mosB st (K,m)=true/\Bl A b4 [.bool true]) (G:=fun H=>TabOk ι H/\Bl H G1.size [mv]/\SetV H mv W0 (bt m)) (by rfl) hb1 (ball1_ok hY htz) ?_ ?_ ?_ ?_ ?_ ?_ ?_ ?_
 ·rintro p (rfl|rfl)<;>omega
 ·rintro k X KX _
  refine⟨hTn X (K02.any.trans (KX.mono fun q _ h=>?_)),KX.bl Bs (by omega),hV2.keep KX fun q hq h=>?_⟩
  ·rcases h with h|h
   ·exact .inl h
   ·exact .inr (by omega)
  ·have:=hmn q hq
   have:=hmo q hq
   omega
 ·intro X KX hs0
  refine⟨?_,fun u _ hu=>?_,KX.bl B42 (by simp)⟩
  ·have:tmG st m 0=fun _=>0:=by funext u;unfold tmG;rw[tmN_0];split<;>rfl
   rw[this];exact M2.keep KX (by simp)
  ·unfold tmG;rw[tmN_0];split<;>omega
 ·rintro k X X2 hs0 KX ⟨j1,j2,j3⟩ KK
  exact⟨j1.keep KK (by omega),j2,KK.bl j3 (by omega)⟩
 ·rintro e X X2 hs0 KX ⟨j1,j2,j3⟩ KK
  exact⟨j1,j2,KK.bl j3 (by omega)⟩
 ·rintro k X hk KX hs0 ⟨j1,j2,j3⟩
  have hkl:k<(mems (bt m)).length:=by simpa[memL]using hk
  obtain⟨x,hx⟩:∃x,x=(mems (bt m))[k]:=⟨_,rfl⟩
  have hxv:(memL (bt m)).getD k undef=.int .i64 (x:Int):=by
   rw[List.getD_eq_getElem?_getD,List.getElem?_eq_getElem hk]
   simp[memL,hx]
  rw[hxv]
  have hxm:bt m x=true:=(mem_mems.1 (show x∈mems (bt m) by rw[hx];exact List.getElem_mem _)).2
  have hxl:x<st.length:=by
   have:=(bt_within (n:=st.length) (by omega)).2 hmt x hxm
   simpa using this
  have hxr:=hr (st.getD x 0) (by rw[List.getD_eq_getElem?_getD,List.getElem?_eq_getElem hxl];exact List.getElem_mem _)
  have htm:tmG st m (k+1)=bump (tmG st m k) (st.getD x 0):=by rw[hx];exact tmG_succ hkl
  have hle:tmG st m k (st.getD x 0)<=10000:=by
   unfold tmG
   have:=tmN_le st m k (st.getD x 0)
   split<;>omega
  have hsX:=hs2.keep KX fun q hq h=>by
   have:=hsn q hq
   have:=hso q hq
   omega
  refine brkI_ok (kk:=x) (K:=K) (mv:=mv) (bm:=bm) (g:=tmG st m k) (by simp only[go_sem,Za,Zb,kont_eq,h3]) (by simp only[go_sem,Za,Zb,kont_eq,h4]) (by simp only[go_sem,Za,Zb,kont_eq,h12]) (by rfl) (by rfl) (KX.bl B32 (by omega)) j3 (KX.bl B122 (by omega)) (KX.bl B132 (by omega)) j1 hsX (fun q hq=>by have:=hso q hq;omega) hxl hle ?_ ?_
  ·intro hgt f' A' w4 KK
   rw[<-htm]at hgt
   refine⟨KK.mono fun q _ h=>.inl h,rfl,?_,w4⟩
   have e0:st.getD x 0≠0:=by
    intro e
    unfold tmG at hgt
    rw[if_pos e]at hgt
    omega
   refine mosB_hit hl hmt (k:=k+1) hxl e0 ?_
   unfold tmG at hgt
   rw[if_neg e0]at hgt
   exact hgt
  ·intro hle' f' A' M' KK
   rw[<-htm]at hle' M'
   refine⟨KK.mono fun q _ h=>.inl (.inr h),M',fun u hu0 hu1=>?_,KK.bl j3 (by omega)⟩
   by_cases e:u=st.getD x 0
   ·rw[e];omega
   ·have:=j2 u hu0 hu1
    rw[htm]
    unfold bump
    split
    ·exact this
    ·change (((if u=st.getD x 0 then _ else _:Nat):Nat):Int)<=K;rw[if_neg e];exact this
 ·rintro X KX hs0 hd ⟨j1,j2,j3⟩
  have hfull:(memL (bt m)).length=(mems (bt m)).length:=by simp[memL]
  rw[hfull]at j2
  refine hN (mosB_miss hl hmt hr fun u h0 h1 h2=>?_) _ X H2.size (fun j hj=>?_) (by rfl) (by omega) hd j3 ?_
  ·have:=j2 u h0 h1
   unfold tmG at this
   rw[if_neg h2]at this
   exact this
  ·simp only[List.mem_cons,List.not_mem_nil,or_false,not_or]at hj
   simp only[upd,D.fr,hj.1,hj.2.1,hj.2.2,if_false]
  ·refine K02.any.trans' KX fun q hq h=>?_
   rcases h with h|h
   ·exact h
   ·omega
 ·rintro e X KX hs0 hd ⟨rfl,j2,j3⟩
  refine hR j2 _ X H2.size (fun j hj=>?_) (by rfl) (by omega) hd j3 ?_
  ·simp only[List.mem_cons,List.not_mem_nil,or_false,not_or]at hj
   simp only[upd,D.fr,hj.1,hj.2.1,hj.2.2,if_false]
  ·refine K02.any.trans' KX fun q hq h=>?_
   rcases h with h|h
   ·exact h
   ·omega
end Go.Mg
namespace Go.Mg
open Go Go.RowKit
set_option linter.all false
set_option maxRecDepth 100000
def c_rbrk2 (ι:Ids):S:=
 kY [kR 2 (ι.t 358) 0,kC 4 (.bool false)] (kY [kM 5 5 2,kA 6 1,.e (.t 7) (.call (ι.f 361) [.t 5,.t 6]),kF 8 7,kT 9 8 true (.m (.ldn 5 (.v 2))),kS 10 8 true 1,.ge (.t 11) (.t 8) true (.call (ι.f 363) [.t 9,.t 10]),kJ 12 8 11,kB 4 12] .ret)
def r_rbrk2:List RV:=[.t 4]
structure BrkC (P:Program) (ι:Ids):Prop where
 has:HasSpec P (ι.f 130)
 all:BAllSpec P (ι.f 137) (ι.f 136)
 a1:bodyOk P (ι.f 136)=true
 aY:FnIsY P (ι.f 136) (c_ball1 ι) r_ball1 2
 tz:TzSpec P ι (ι.f 126)
def RBrkSpec (P:Program) (ι:Ids) (k:FuncId):Prop:=∀(p:PbN) (fx st:List Int) (v sv:Value) (H:Hp),TabOk ι H->PrbV H v p fx->GoodP p->okU p.el.length st->SlR H sv (iL st)->CallsM P k #[v,sv] H fun r H'=>r=.bool (brkB p st)/\Keep (fun _=>False) H H'
variable {P:Program} {ι:Ids} {k:FuncId}
theorem rbrk_ok (hk:FnIsR P k (c_rbrk ι) r_rbrk 2 131) (c:BrkC P ι):RBrkSpec P ι k:=by
 intro p fx st v sv H hT hv hG hU hst
 have hv0:=hv
 obtain⟨el,di,sa,mo,fv,vs,ms,rfl,hp⟩:=hv
 have hn:=hG.n
 have hn0:=hG.n0
 have hdl:=hG.dl
 have hsl:=hG.sl
 have hml:=hG.ml
 have hul:=hU.1
 obtain⟨Q,hQ⟩:∃Q:Value->Hp->Prop,Q=fun r H'=>r=.bool (brkB p st)/\Keep (fun _=>False) H H':=⟨_,rfl⟩
 rw[<-hQ]
 refine calls_of_vcR hk (args:=[_,_]) (by simp) ?_
 unfold c_rbrk r_rbrk kA kB kC kD ke kG kH kK kN kO kR kV kY kZ
 simp only[go_sem,Za,Zb]
 refine kont_new fun H1 b2 e1 z1 B1 K1=>?_
 have B1':Bl H1 b2 [el,di,sa,mo,fv]:=B1
 simp only[go_sem,Za,Zb]
 refine kont_new fun H2 b3 e2 z2 B2 K2=>?_
 have B2':Bl H2 b3 [sv]:=by
  have:=hst.isSl
  cases sv<;>first|exact B2|exact absurd this (by simp[isSl])
 simp only[go_sem,Za,Zb]
 refine kont_new fun H3 b4 e3 z3 B3 K3=>?_
 have B3':Bl H3 b4 [.bool false]:=B3
 have K03:=(K1.trans K2).trans K3
 have s1:=K1.size
 have s2:=K2.size
 have s3:=K3.size
 have B13:=(K2.trans K3).bl B1' (by simp)
 have B23:=K3.bl B2' (by simp)
 have hT3:=hT.keep K03
 have p3:=hp.keep0 K03
 have st3:=hst.keep K03 (by simp)
 have b4lt:=B3'.lt
 have fin:∀(q:Bool) f' A',f' 4=.pointer (some ⟨b4,0,none⟩)->(mks (f' 131)).Nodup->(∀p∈mks (f' 131),H3.size<=p/\A'[p]?=some (.deferred (some [])))->Bl A' b4 [.bool q]->Keep (fun p=>p=b4) H3 A'->brkB p st=q->retQR 131 [.c1 4] Q .r f' A':=fun q f' A' f4 hnd hmk j4 K hr=>by
  refine⟨hnd,fun p hp=>(hmk p hp).2,fun A2 hs2 hk2=>?_⟩
  have M:Keep (fun p=>p∈mks (f' 131)) A' A2:=⟨by omega,fun p _ h=>hk2 p h⟩
  have i4:=M.bl j4 (fun h=>by have:=(hmk _ h).1;omega)
  have c4:cell A2 ⟨b4,0,none⟩=some (.bool q):=by rw[i4.cell];rfl
  subst hr
  rw[hQ]
  simp only[go_sem,Za,Zb,kont_eq,resPre,resVal,f4,c4]
  exact(K03.trans' K fun p hp h=>by omega).trans' M fun p hp h=>by have:=(hmk p h).1;omega
 have fin0:∀(q:Bool) f' A',f' 4=.pointer (some ⟨b4,0,none⟩)->f' 131=undef->Bl A' b4 [.bool q]->Keep (fun p=>p=b4) H3 A'->brkB p st=q->retQR 131 [.c1 4] Q .r f' A':=fun q f' A' f4 f6 j4 K hr=>
  fin q f' A' f4 (by rw[f6,mks_undef];exact List.nodup_nil) (by rw[f6,mks_undef];intro p hp;cases hp) j4 K hr
 have c3:cell H3 ⟨b3,0,none⟩=some sv:=by rw[B23.cell];rfl
 have lf:lenV sv=st.length:=by rw[hst.len,iL_len]
 have hso:∀q,slB sv q->q<H.size:=fun q hq=>hst.old hq
 have old:∀X,Keep (fun p=>p=b4) H3 X->Keep (fun _=>False) H X:=fun X K=>K03.trans' K fun p hp h=>by omega
 simp only[go_sem,Za,Zb,c3,hst.isSl,lf]
 refine vc_range st.length [18,5,6,33,17] rfl rfl (by omega) (by rfl) (by rfl) (fun i g X=>(∀j,j<i->¬(st.getD j 0≠0/\memI (elA p j) (st.getD j 0)=false))/\Keep (fun _=>False) H3 X) ⟨fun j h=>by omega,Keep.refl _ _⟩ ?_ ?_
 ·rintro i g X hi gi gn ⟨hpE,KX⟩
  simp only[go_sem,Za,Zb,kont_eq]at gi gn
  have stX:=st3.keep KX (by simp)
  obtain⟨sb,so,sc,e,hc⟩:=stX.iat (i:=i) hi
  have hg:st.getD i 0=st[i]:=by rw[List.getD_eq_getElem?_getD,List.getElem?_eq_getElem hi];rfl
  simp only[go_sem,Za,Zb,gi,e,tn_cast,hc]
  refine⟨by omega,?_⟩
  refine brkE_ok c.has (b2:=b2) (b4:=b4) (i:=i) (u:=st[i]) (by rfl) (by rfl) (by rfl) (by rfl) (KX.bl B13 (by simp)) (KX.bl B3' (by simp)) (p3.keep0 KX) (by omega) (by omega) ?_ ?_
  ·intro h1 h2 f' A' f4 j4 KK
   refine fin0 true f' A' (by rw[f4 4 (by decide)];simp only[go_sem,Za,Zb,kont_eq]) (by rw[f4 131 (by decide)];simp only[go_sem,Za,Zb,kont_eq]) j4 (KX.any.trans KK) ?_
   ·unfold brkB
    rw[elB_iff.2 ⟨i,hi,by rw[hg];exact h1,by rw[hg];exact h2⟩];rfl
  ·intro h f' A' hf' KK
   simp only[go_sem,Za,Zb,kont_eq]
   refine⟨fun j hj=>?_,KX.trans KK⟩
   by_cases e:j=i
   ·rw[e,hg];exact h
   ·exact hpE j (by omega)
 rintro g X gi ⟨hpE,KX⟩
 have fE:elB p st=false:=by
  cases hb:elB p st with
  |false=>rfl
  |true=>obtain⟨k,k1,k2,k3⟩:=elB_iff.1 hb;exact absurd ⟨k2,k3⟩ (hpE k k1)
 have c1:cell X ⟨b2,1,none⟩=some di:=by rw[(KX.bl B13 (by simp)).cell];rfl
 simp only[go_sem,Za,Zb,c1,hp.d.isSl,hp.d.len]
 refine vc_range p.di.length [39,8,60,38] rfl rfl (by omega) (by rfl) (by rfl) (fun i g X=>(∀j,(hj:j<p.di.length)->j<i->difB st p.di[j]=false)/\Keep (fun _=>False) H3 X) ⟨fun j _ h=>by omega,KX⟩ ?_ ?_
 ·clear KX hpE gi c1
  rintro i g1 X hi gi gn ⟨hpD,KX⟩
  simp only[go_sem,Za,Zb,kont_eq]at gi gn
  have KHX:=K03.trans KX
  obtain⟨pb,po,pc,hwe,hpb,hld⟩:=(hp.d.keep0 KHX).elem (enc:=pE) (k:=2) (fun _=>rfl) hi
  simp only[go_sem,Za,Zb,gi,hwe,tn_cast,ldNO_ptr,hld]
  refine⟨by omega,?_⟩
  refine kont_newst (pE p.di[i]) (by rfl) rfl rfl (List.all_eq_true.2 (pE_one _)) fun A1 b8 e8 z8 B8 K8=>?_
  simp only[go_sem,Za,Zb]
  refine brkD_ok (b3:=b3) (b4:=b4) (b7:=b8) (x:=p.di[i]) (st:=st) (by rfl) (by rfl) (by rfl) (K8.bl (KX.bl B23 (by simp)) (by simp)) (K8.bl (KX.bl B3' (by simp)) (by simp)) B8 ((st3.keep KX (by simp)).keep K8 (by simp)) hul (hG.di _ (List.getElem_mem hi)).1 (fun hh f' A' f4 j4 KK=>?_) (fun hh f' hf'=>?_)
  ·refine fin0 true f' A' (by rw[f4 4 (by decide)];simp only[go_sem,Za,Zb,kont_eq]) (by rw[f4 131 (by decide)];simp only[go_sem,Za,Zb,kont_eq]) j4 ((KX.trans K8).any.trans KK) ?_
   ·unfold brkB
    rw[List.any_eq_true.2 ⟨_,List.getElem_mem hi,hh⟩];simp
  ·simp only[go_sem,Za,Zb,kont_eq]
   exact⟨fI_succ hi hh hpD,KX.trans K8⟩
 clear KX hpE c1
 rintro g1 X gi1 ⟨hpD,KX⟩
 have fD:p.di.any (difB st)=false:=by
  rw[List.any_eq_false];intro x hx;obtain⟨j,hj,rfl⟩:=List.getElem_of_mem hx;rw[hpD j hj hj];simp
 have c1:cell X ⟨b2,2,none⟩=some sa:=by rw[(KX.bl B13 (by simp)).cell];rfl
 simp only[go_sem,Za,Zb,c1,hp.s.isSl,hp.s.len]
 refine vc_range p.sa.length [66,10,95,65] rfl rfl (by omega) (by rfl) (by rfl) (fun i g X=>(∀j,(hj:j<p.sa.length)->j<i->samB st p.sa[j]=false)/\Keep (fun _=>False) H3 X) ⟨fun j _ h=>by omega,KX⟩ ?_ ?_
 ·clear KX hpD gi c1
  rintro i g2 X hi gi gn ⟨hpS,KX⟩
  simp only[go_sem,Za,Zb,kont_eq]at gi gn
  have KHX:=K03.trans KX
  obtain⟨pb,po,pc,hwe,hpb,hld⟩:=(hp.s.keep0 KHX).elem (enc:=pE) (k:=2) (fun _=>rfl) hi
  simp only[go_sem,Za,Zb,gi,hwe,tn_cast,ldNO_ptr,hld]
  refine⟨by omega,?_⟩
  refine kont_newst (pE p.sa[i]) (by rfl) rfl rfl (List.all_eq_true.2 (pE_one _)) fun A1 b8 e8 z8 B8 K8=>?_
  simp only[go_sem,Za,Zb]
  refine brkS_ok (b3:=b3) (b4:=b4) (b7:=b8) (x:=p.sa[i]) (st:=st) (by rfl) (by rfl) (by rfl) (K8.bl (KX.bl B23 (by simp)) (by simp)) (K8.bl (KX.bl B3' (by simp)) (by simp)) B8 ((st3.keep KX (by simp)).keep K8 (by simp)) hul (hG.sa _ (List.getElem_mem hi)).1 (fun hh f' A' f4 j4 KK=>?_) (fun hh f' hf'=>?_)
  ·refine fin0 true f' A' (by rw[f4 4 (by decide)];simp only[go_sem,Za,Zb,kont_eq]) (by rw[f4 131 (by decide)];simp only[go_sem,Za,Zb,kont_eq]) j4 ((KX.trans K8).any.trans KK) ?_
   ·unfold brkB
    rw[List.any_eq_true.2 ⟨_,List.getElem_mem hi,hh⟩];simp
  ·simp only[go_sem,Za,Zb,kont_eq]
   exact⟨fI_succ hi hh hpS,KX.trans K8⟩
 clear KX c1
 rintro g2 X gi2 ⟨hpS,KX⟩
 have fS:p.sa.any (samB st)=false:=by
  rw[List.any_eq_false];intro x hx;obtain⟨j,hj,rfl⟩:=List.getElem_of_mem hx;rw[hpS j hj hj];simp
 have c1:cell X ⟨b2,3,none⟩=some mo:=by rw[(KX.bl B13 (by simp)).cell];rfl
 have hms:ms.length=p.mo.length:=hp.ms.len
 simp only[go_sem,Za,Zb,c1,hp.m.isSl,hp.m.len,hms]
 refine vc_range p.mo.length [101,12,13,107,108,14,113,129,131,100] rfl rfl (by omega) (by rfl) (by rfl) (fun i g X=>(∀j,(hj:j<p.mo.length)->j<i->mosB st p.mo[j]=false)/\(mks (g 131)).Nodup/\(∀p∈mks (g 131),H3.size<=p/\X[p]?=some (.deferred (some [])))/\Bl X b4 [.bool false]/\Keep (fun p=>p=b4) H3 X) ⟨fun j _ h=>by omega,?_,?_,KX.bl B3' (by simp),KX.any⟩ ?_ ?_
 ·simp only[go_sem,Za,Zb,kont_eq,mks_undef];exact List.nodup_nil
 ·simp[go_sem,Za,Zb,kont_eq,mks_undef]
 ·clear KX c1 hpS gi2
  rintro i g3 X hi gi gn ⟨hpM,hnd,hmk,j4,KX⟩
  simp only[go_sem,Za,Zb,kont_eq]at gi gn hnd hmk
  have KHX:=old X KX
  have sX:=KX.size
  have hmi:i<ms.length:=by omega
  obtain⟨pb,po,pc,hwe,hpb,hld⟩:=(hp.m.keep0 KHX).elem encV_len hmi
  obtain⟨x,hx⟩:∃x,x=ms[i]:=⟨_,rfl⟩
  obtain⟨y,hy⟩:∃y,y=p.mo[i]:=⟨_,rfl⟩
  obtain⟨x1,xm⟩:=hp.ms.at_ i hmi hi
  rw[<-hx,<-hy]at x1 xm
  rw[<-hx]at hld
  rw[hms]at hwe
  have hld':ldNA X ⟨pb,po+i*2,none⟩ 2=some #[.int .i64 x.1,mvV x]:=hld
  simp only[go_sem,Za,Zb,gi,hwe,tn_cast,ldNO_ptr,hld']
  refine⟨by omega,?_⟩
  refine kont_newst (encV x) (by rfl) rfl rfl (List.all_eq_true.2 (encV_one _)) fun X3 b12 e12 z12 B12 K12=>?_
  have KH3:=KHX.trans K12
  have B12':Bl X3 b12 [.int .i64 y.1,mvV x]:=by rw[<-x1];exact B12
  have hmx:∀q,slB (mvV x) q->q<H.size:=fun q hq=>SetM.old xm (k:=q) hq
  have hmo:=hG.mo _ (List.getElem_mem hi)
  rw[<-hy]at hmo
  have m12:1<=y.1/\y.2.toNat<2^p.el.length:=by
   unfold moE1 at hmo
   split at hmo
   ·omega
   ·next h=>omega
  have s12:=K12.size
  have mk3:∀A',Keep (fun q=>q=b4) X3 A'->∀p∈mks (g3 131),H3.size<=p/\A'[p]?=some (.deferred (some [])):=fun A' K p hp=>by
   obtain⟨p1,p2⟩:=hmk p hp
   have hlt:=(Array.getElem?_eq_some_iff.1 p2).1
   refine⟨p1,?_⟩
   rw[K.at_ p (by omega) (by omega),K12.at_ p hlt (by simp)]
   exact p2
  simp only[go_sem,Za,Zb]
  refine brkM_ok c.all c.a1 c.aY c.tz (b3:=b3) (b4:=b4) (b12:=b12) (K:=y.1) (m:=y.2) (mv:=mvV x) (st:=st) (by rfl) (by rfl) (by rfl) (K12.bl (KX.bl B23 (by omega)) (by simp)) (K12.bl j4 (by simp)) B12' (by omega) (by omega) (hst.keep KH3 (by simp)) (fun q hq=>by have:=hso q hq;omega) (xm.keep0 KH3) (fun q hq=>by have:=hmx q hq;omega) (hT.keep KH3) (fun A' K=>hT.keep (KH3.trans' K fun q hq h=>by omega)) (by omega) m12.1 (by rw[hul];exact m12.2) hU.2 (fun hh g' A' q hg' g131 hq hdq w4 KK=>?_) (fun hh g' A' q hg' g131 hq hdq w4 KK=>?_)
  ·simp only[go_sem,Za,Zb,kont_eq]at g131
   have hm':mks (g' 131)=q::mks (g3 131):=by rw[g131,mks_addM]
   refine fin true g' A' (by rw[hg' 4 (by decide)];simp only[go_sem,Za,Zb,kont_eq]) ?_ ?_ w4 ((KX.trans K12.any).trans KK) ?_
   ·rw[hm']
    refine List.nodup_cons.2 ⟨fun h=>?_,hnd⟩
    have:=(Array.getElem?_eq_some_iff.1 (hmk q h).2).1
    omega
   ·rw[hm']
    intro p hp
    rcases List.mem_cons.1 hp with rfl|hp
    ·exact⟨by omega,hdq⟩
    ·exact mk3 A' KK p hp
   ·unfold brkB
    rw[List.any_eq_true.2 ⟨_,List.getElem_mem hi,by rw[<-hy];exact hh⟩];simp
  ·simp only[go_sem,Za,Zb,kont_eq]at g131
   have hm':mks (g' 131)=q::mks (g3 131):=by rw[g131,mks_addM]
   simp only[go_sem,Za,Zb,kont_eq]
   refine⟨fI_succ hi (by rw[<-hy];exact hh) hpM,?_,?_,w4,(KX.trans K12.any).trans KK⟩
   ·rw[hm']
    refine List.nodup_cons.2 ⟨fun h=>?_,hnd⟩
    have:=(Array.getElem?_eq_some_iff.1 (hmk q h).2).1
    omega
   ·rw[hm']
    intro p hp
    rcases List.mem_cons.1 hp with rfl|hp
    ·exact⟨by omega,hdq⟩
    ·exact mk3 A' KK p hp
 ·rintro g3 Y gi3 ⟨hpM,hnd,hmk,w4,KY⟩
  have fM:p.mo.any (mosB st)=false:=by
   rw[List.any_eq_false];intro x hx;obtain⟨j,hj,rfl⟩:=List.getElem_of_mem hx;rw[hpM j hj hj];simp
  simp only[go_sem,Za,Zb,kont_eq]at hnd hmk
  have t4:=w4.okSt (o:=0) (by simp)
  have B4s:=w4.setc 0 (.bool false)
  have k4:Keep (fun q=>q=b4) Y (setc Y ⟨b4,0,none⟩ (.bool false)):=(Keep.refl _ _).setc _ (.inl rfl)
  simp only[go_sem,Za,Zb,kont_eq,t4]
  generalize setc Y ⟨b4,0,none⟩ (.bool false)=Z at k4 B4s⊢
  have:=fin false (upd (upd (fun _=>undef) 4 (.pointer (some ⟨b4,0,none⟩))) 131 (g3 131)) Z (by rfl) (by simp only[go_sem,Za,Zb,kont_eq];exact hnd) (by
   simp only[go_sem,Za,Zb,kont_eq]
   intro p hp
   obtain⟨p1,p2⟩:=hmk p hp
   have hlt:=(Array.getElem?_eq_some_iff.1 p2).1
   exact⟨p1,by rw[k4.at_ p hlt (by omega)];exact p2⟩) B4s (KY.trans k4) (by unfold brkB;rw[fE,fD,fS,fM];rfl)
  simpa only[retQR,go_sem,Za,Zb,kont_eq]using this
def RPropSpec (P:Program) (ι:Ids) (k:FuncId):Prop:=∀(p:PbN) (fx st:List Int) (v sv:Value) (H:Hp),PrbV H v p fx->GoodP p->okU p.el.length fx->okU p.el.length st->SlR H sv (iL st)->CallsM P k #[v,sv] H fun r H'=>r=.bool true/\Keep (fun _=>False) H H'
theorem rprop_ok (hk:FnIs P k (c_rprop ι) r_rprop 2) (hc:RChkPSpec P ι (ι.f 360)) (hcon:ConISpec P (ι.f 354)) (hu1:BadUSpec P (ι.f 357)):RPropSpec P ι k:=by
 intro p fx st v sv H hv hG hF hU hst
 have hv0:=hv
 obtain⟨el,di,sa,mo,fv,vs,ms,rfl,hp⟩:=hv
 refine calls_of_vc hk (args:=[_,_]) (by simp) ?_
 unfold c_rprop r_rprop kB kF kC kJ kM kR kS kT kU kY
 simp-implicitDefEqProofs only[go_sem,↓reduceIte,Za,Zb,Zc,reduceCtorEq]
 refine kont_new fun H1 b2 e1 z1 B1 K1=>?_
 have B1':Bl H1 b2 [el,di,sa,mo,fv]:=B1
 simp-implicitDefEqProofs only[go_sem,↓reduceIte,Za,Zb,Zc,reduceCtorEq,B1'.ldNO 5 rfl]
 refine(hc p fx _ H1 (hv0.keep0 K1) hG hF).mono ?_
 rintro r H2 ⟨rfl,K2⟩
 have B2:=K2.bl B1' (by simp)
 have c0:cell H2 ⟨b2,0,none⟩=some el:=by rw[B2.cell];rfl
 have le:lenV el=p.el.length:=by rw[hp.e.len,hp.el]
 have ls:lenV sv=p.el.length:=by rw[hst.len,iL_len,hU.1]
 have d1:((p.el.length:Int)==(p.el.length:Int))=true:=by simp
 have hn:=hG.n
 have hul:=hU.1
 rw[kont_eq]
 simp-implicitDefEqProofs only[go_sem,↓reduceIte,Za,Zb,Zc,reduceCtorEq,c0,hst.isSl,hp.e.isSl,le,ls,d1]
 refine(hcon st badU sv (ι.f 357) H2 (hst.keep (K1.trans K2) (by simp)) (by omega) ⟨hu1.1,fun u _ A=>hu1.2 u A⟩).mono ?_
 rintro r H3 ⟨rfl,rfl⟩
 rw[kont_eq]
 simp-implicitDefEqProofs only[go_sem,↓reduceIte,Za,Zb,Zc,reduceCtorEq,okU_any hU]
 exact K1.trans K2
def RBrk2Spec (P:Program) (ι:Ids) (k:FuncId):Prop:=∀(p:PbN) (fx st:List Int) (v sv:Value) (H:Hp),TabOk ι H->PrbV H v p fx->GoodP p->okU p.el.length fx->okU p.el.length st->SlR H sv (iL st)->CallsM P k #[v,sv] H fun r H'=>r=.bool (brkB p st)/\Keep (fun _=>False) H H'
theorem rbrk2_ok (hk:FnIs P k (c_rbrk2 ι) r_rbrk2 2) (hpr:RPropSpec P ι (ι.f 361)) (hb:RBrkSpec P ι (ι.f 363)):RBrk2Spec P ι k:=by
 intro p fx st v sv H hT hv hG hF hU hst
 have hv0:=hv
 obtain⟨el,di,sa,mo,fv,vs,ms,rfl,hp⟩:=hv
 refine calls_of_vc hk (args:=[_,_]) (by simp) ?_
 unfold c_rbrk2 r_rbrk2 kA kB kF kC kJ kM kR kS kT kY
 simp-implicitDefEqProofs only[go_sem,↓reduceIte,Za,Zb,Zc,reduceCtorEq]
 refine kont_new fun H1 b2 e1 z1 B1 K1=>?_
 have B1':Bl H1 b2 [el,di,sa,mo,fv]:=B1
 simp-implicitDefEqProofs only[go_sem,↓reduceIte,Za,Zb,Zc,reduceCtorEq,B1'.ldNO 5 rfl]
 refine(hpr p fx st _ sv H1 (hv0.keep0 K1) hG hF hU (hst.keep K1 (by simp))).mono ?_
 rintro r H2 ⟨rfl,K2⟩
 have B2:=K2.bl B1' (by simp)
 have K12:=K1.trans K2
 rw[kont_eq]
 simp-implicitDefEqProofs only[go_sem,↓reduceIte,Za,Zb,Zc,reduceCtorEq,B2.ldNO 5 rfl]
 refine(hb p fx st _ sv H2 (hT.keep K12) (hv0.keep0 K12) hG hU (hst.keep K12 (by simp))).mono ?_
 rintro r H3 ⟨rfl,K3⟩
 rw[kont_eq]
 simp-implicitDefEqProofs only[go_sem,↓reduceIte,Za,Zb,Zc,reduceCtorEq]
 exact K12.trans K3
end Go.Mg

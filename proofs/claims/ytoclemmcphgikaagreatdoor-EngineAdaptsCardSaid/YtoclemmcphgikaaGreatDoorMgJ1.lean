/- Several texts of ours in one. No conditions. -/
import Derived.Test.YtoclemmcphgikaaGreatDoorMgGI
import Derived.Test.YtoclemmcphgikaaGreatDoorMgGX
open Nat renaming reduceEqDiff→Za,reduceAdd→Zb,reduceMul→Zc,reduceLeDiff→Zd,reduceLT→Ze
open Int renaming reduceBEq→Zf,reduceBNe→Zg,reduceLE→Zh,reduceLT→Zi
namespace Go.Mg
open Go Go.RowKit
set_option linter.all false
set_option maxRecDepth 100000
def c_adS (ι:Ids):T:=
 (.wcons .no .none (.st (.v 7) (.t 34)) .done .wnil)
def c_adL (ι:Ids):T:=
 (.wcons .no .none (.stn 1 (.t 51) (.t 50)) .done .wnil)
def c_adN (ι:Ids):S:=
 (.dr (kW 23 (.ld (.v 2)) (kW 24 (.nil (.t 23)) (kW 25 (.fa 0 (.t 24)) (kW 26 (.m (.ldn 5 (.t 25))) (kW 27 (.mv (.v 1)) (kW 29 (.ld (.v 2)) (kW 30 (.nil (.t 29)) (kW 31 (.fa 6 (.t 30)) (kW 32 (.ld (.t 31)) (.wcons (.t 28) .none (.call (ι.f 374) [.t 27]) (kW 33 (.m (.bld #[kZ,kZ,kZ,kZ,kZ,kZ,kZ] [(0,(5,.t 26)),(5,(1,.t 28)),(6,(1,.t 32))])) (.wcons (.t 34) .none (.box (ι.t 387) (.t 33)) (.wcons (.v 7) .none (.new (ι.t 392) #[.pointer .none]) (c_adS ι) .wnil) (.wcons (.v 7) .none (.new (ι.t 392) #[.pointer .none]) (.wcons (.t 34) .none (.box (ι.t 387) (.t 33)) (c_adS ι) .wnil) .wnil))) (.wcons (.v 7) .none (.new (ι.t 392) #[.pointer .none]) (.wcons (.t 28) .none (.call (ι.f 374) [.t 27]) (kW 33 (.m (.bld #[kZ,kZ,kZ,kZ,kZ,kZ,kZ] [(0,(5,.t 26)),(5,(1,.t 28)),(6,(1,.t 32))])) (.wcons (.t 34) .none (.box (ι.t 387) (.t 33)) (c_adS ι) .wnil)) .wnil) .wnil))))))))))))
def c_adB (ι:Ids):S:=
 (.dr (kW 43 (.mv (.v 8)) (kW 48 (.mv (.v 8)) (.wcons (.t 39) .none (.rd (.ld (.v 7))) (kW 40 (.nil (.t 39)) (kW 41 (.fa 5 (.t 40)) (.wcons (.t 42) .none (.rd (.ld (.t 41))) (.wcons (.t 44) .none (.rd (.ld (.v 2))) (kW 45 (.nil (.t 44)) (kW 46 (.fa 5 (.t 45)) (.wcons (.t 47) .none (.rd (.ld (.t 46))) (kW 49 (.is 1 (.t 47) (.t 48)) (.wcons (.t 50) .none (.rd (.m (.ldn 1 (.t 49)))) (kW 51 (.is 1 (.t 42) (.t 43)) (c_adL ι)) .wnil)) .wnil))) .wnil) (.wcons (.t 44) .none (.rd (.ld (.v 2))) (kW 45 (.nil (.t 44)) (kW 46 (.fa 5 (.t 45)) (.wcons (.t 42) .none (.rd (.ld (.t 41))) (.wcons (.t 47) .none (.rd (.ld (.t 46))) (kW 49 (.is 1 (.t 47) (.t 48)) (.wcons (.t 50) .none (.rd (.m (.ldn 1 (.t 49)))) (kW 51 (.is 1 (.t 42) (.t 43)) (c_adL ι)) .wnil)) .wnil) (.wcons (.t 47) .none (.rd (.ld (.t 46))) (kW 49 (.is 1 (.t 47) (.t 48)) (.wcons (.t 42) .none (.rd (.ld (.t 41))) (.wcons (.t 50) .none (.rd (.m (.ldn 1 (.t 49)))) (kW 51 (.is 1 (.t 42) (.t 43)) (c_adL ι)) .wnil) (.wcons (.t 50) .none (.rd (.m (.ldn 1 (.t 49)))) (.wcons (.t 42) .none (.rd (.ld (.t 41))) (kW 51 (.is 1 (.t 42) (.t 43)) (c_adL ι)) .wnil) .wnil))) .wnil)))) .wnil)))) (.wcons (.t 44) .none (.rd (.ld (.v 2))) (kW 45 (.nil (.t 44)) (kW 46 (.fa 5 (.t 45)) (.wcons (.t 39) .none (.rd (.ld (.v 7))) (kW 40 (.nil (.t 39)) (kW 41 (.fa 5 (.t 40)) (.wcons (.t 42) .none (.rd (.ld (.t 41))) (.wcons (.t 47) .none (.rd (.ld (.t 46))) (kW 49 (.is 1 (.t 47) (.t 48)) (.wcons (.t 50) .none (.rd (.m (.ldn 1 (.t 49)))) (kW 51 (.is 1 (.t 42) (.t 43)) (c_adL ι)) .wnil)) .wnil) (.wcons (.t 47) .none (.rd (.ld (.t 46))) (kW 49 (.is 1 (.t 47) (.t 48)) (.wcons (.t 42) .none (.rd (.ld (.t 41))) (.wcons (.t 50) .none (.rd (.m (.ldn 1 (.t 49)))) (kW 51 (.is 1 (.t 42) (.t 43)) (c_adL ι)) .wnil) (.wcons (.t 50) .none (.rd (.m (.ldn 1 (.t 49)))) (.wcons (.t 42) .none (.rd (.ld (.t 41))) (kW 51 (.is 1 (.t 42) (.t 43)) (c_adL ι)) .wnil) .wnil))) .wnil)))) (.wcons (.t 47) .none (.rd (.ld (.t 46))) (kW 49 (.is 1 (.t 47) (.t 48)) (.wcons (.t 39) .none (.rd (.ld (.v 7))) (kW 40 (.nil (.t 39)) (kW 41 (.fa 5 (.t 40)) (.wcons (.t 42) .none (.rd (.ld (.t 41))) (.wcons (.t 50) .none (.rd (.m (.ldn 1 (.t 49)))) (kW 51 (.is 1 (.t 42) (.t 43)) (c_adL ι)) .wnil) (.wcons (.t 50) .none (.rd (.m (.ldn 1 (.t 49)))) (.wcons (.t 42) .none (.rd (.ld (.t 41))) (kW 51 (.is 1 (.t 42) (.t 43)) (c_adL ι)) .wnil) .wnil)))) (.wcons (.t 50) .none (.rd (.m (.ldn 1 (.t 49)))) (.wcons (.t 39) .none (.rd (.ld (.v 7))) (kW 40 (.nil (.t 39)) (kW 41 (.fa 5 (.t 40)) (.wcons (.t 42) .none (.rd (.ld (.t 41))) (kW 51 (.is 1 (.t 42) (.t 43)) (c_adL ι)) .wnil))) .wnil) .wnil))) .wnil)))) .wnil)))))
def c_eadp (ι:Ids):S:=
 kY [kR 2 (ι.t 392) 0,kC 4 (.pointer .none),kC 5 (.int .i64 0)] (.seq (kY [kU 11 (.ld (.v 2)),kV 12 (.m (.eqn .ptr false (.t 11)))] (.ite (.v 12) (kY [kC 4 (.pointer .none),kC 5 (.int .i64 1)] .ret) .skip)) (.seq (kY [kA 13 1,kU 14 (.ld (.v 2)),kU 15 (.nil (.t 14)),kU 16 (.fa 6 (.t 15)),kD 17 16,kL 18 17,.e (.t 19) (.call (ι.f 378) [.t 13,.t 18]),kB 6 19] (kY [kA 20 6,kV 21 (.cm .neq .i64 (.t 20) (.c (.int .i64 0)))] (.ite (.v 21) (kY [kA 22 6,kC 4 (.pointer .none),kB 5 22] .ret) .skip))) (.seq (c_adN ι) (.seq (kY [kU 35 (.ld (.v 2)),.e (.t 36) (.call (ι.f 383) [.t 35]),.e (.v 37) (.call (ι.f 137) [.t 36])] (.blk 0 (.rf 64 (.v 37) 38 8 (.blk 1 (c_adB ι))))) (.seq (.seq (.dr (kW 53 (.ld (.v 7)) (kW 54 (.ld (.v 7)) (kW 55 (.nil (.t 54)) (kW 56 (.fa 6 (.t 55)) (kW 57 (.ld (.t 56)) (.wcons (.t 58) .none (.call (ι.f 377) [.t 53,.t 57]) (kW 52 (.mv (.t 58)) (kW 59 (.ext (.t 52) 0) (kW 60 (.ext (.t 52) 1) (kW 9 (.mv (.t 59)) (kX 10 (.mv (.t 60)) .done))))) .wnil))))))) (kY [kA 61 10,kV 62 (.not (.t 61))] (.ite (.v 62) (kY [kC 4 (.pointer .none),kC 5 (.int .i64 12)] .ret) .skip))) (kY [kU 63 (.ld (.v 7)),kB 4 63,kC 5 (.int .i64 0)] .ret))))))
def r_eadp:List RV:=[.t 4,.t 5]
def adE (el el':List (Nat->Bool)) (st:List Int):List (Nat->Bool):=(List.range el.length).map fun k=>if st.getD k 0≠0 then el.getD k fun _=>false else el'.getD k fun _=>false
theorem adE_len (el el':List (Nat->Bool)) (st:List Int):(adE el el' st).length=el.length:=by simp[adE]
variable {k b7 rn rb b2:Nat} {vr vs:List Value} {dn:List Nat} {P:Program} {ι:Ids} {f:Fr} {A:Hp} {s b d a m sv ev:Value} {Qb:Ex->Fr->Hp->Prop}
theorem adE_at {el el':List (Nat->Bool)} {st:List Int} (h:k<el.length):(adE el el' st).getD k (fun _=>false)=if st.getD k 0≠0 then el.getD k fun _=>false else el'.getD k fun _=>false:=by
 rw[List.getD_eq_getElem?_getD,List.getElem?_eq_getElem (by rw[adE_len];exact h),Option.getD_some]
 simp[adE]
def adW (vr vs:List Value) (dn:List Nat) (k:Nat):List Value:=(List.range vs.length).map fun i=>if i∈dn.take k then vr.getD i undef else vs.getD i undef
theorem adW_len (vr vs:List Value) (dn:List Nat) (k:Nat):(adW vr vs dn k).length=vs.length:=by simp[adW]
theorem adW_at {i:Nat} (h:i<vs.length):(adW vr vs dn k).getD i undef=if i∈dn.take k then vr.getD i undef else vs.getD i undef:=by
 rw[List.getD_eq_getElem?_getD,List.getElem?_eq_getElem (by rw[adW_len];exact h),Option.getD_some]
 simp[adW]
theorem adW_0 (vr vs:List Value) (dn:List Nat):adW vr vs dn 0=vs:=by
 refine List.ext_getElem (adW_len _ _ _ _) fun i h1 h2=>?_
 have:=adW_at (vr:=vr) (dn:=dn) (k:=0) h2
 rw[List.getD_eq_getElem?_getD,List.getElem?_eq_getElem h1,Option.getD_some]at this
 rw[this,if_neg (by simp),List.getD_eq_getElem?_getD,List.getElem?_eq_getElem h2,Option.getD_some]
theorem adW_succ (h:k<dn.length) (hx:dn[k]<vs.length):adW vr vs dn (k+1)=(adW vr vs dn k).set dn[k] (vr.getD dn[k] undef):=by
 refine List.ext_getElem (by rw[List.length_set,adW_len,adW_len]) fun i h1 h2=>?_
 rw[adW_len]at h1
 have e1:=adW_at (vr:=vr) (dn:=dn) (k:=k+1) h1
 have e2:=adW_at (vr:=vr) (dn:=dn) (k:=k) h1
 rw[List.getD_eq_getElem?_getD,List.getElem?_eq_getElem (by rw[adW_len];exact h1),Option.getD_some]at e1 e2
 rw[e1,List.getElem_set,List.take_succ_eq_append_getElem h]
 by_cases e:dn[k]=i
 ·rw[if_pos e,if_pos (by rw[<-e];exact List.mem_append_right _ (List.mem_singleton.2 rfl))]
  rw[e]
 ·rw[if_neg e,e2]
  have:(i∈dn.take k++[dn[k]])=(i∈dn.take k):=by
   rw[eq_iff_iff,List.mem_append,List.mem_singleton]
   exact⟨fun h=>h.elim id fun h=>absurd h.symm e,.inl⟩
  simp only[this]
structure AdpC (P:Program) (ι:Ids):Prop where
 usr:EUsrSpec P (ι.f 378)
 cln:ClnVSpec P (ι.f 374)
 don:EDoneSpec P (ι.f 383)
 all:BAllSpec P (ι.f 137) (ι.f 136)
 a1:bodyOk P (ι.f 136)=true
 aY:FnIsY P (ι.f 136) (c_ball1 ι) r_ball1 2
 tz:TzSpec P ι (ι.f 126)
 pln:EPlanSpec P ι (ι.f 377)
def AdK (s b d a m sv:Value) (vs:List Value) (A:Hp) (f:Fr) (Q:Fr->Hp->Prop):Prop:=∀X b7 rn ov,Bl X b7 [.pointer (some ⟨rn,0,none⟩)]->Bl X rn [s,b,d,a,m,ov,sv]->OwS X ov vs->(∀q,ownB ov q->A.size<=q/\q≠b7/\q≠rn)->A.size<=b7->A.size<=rn->b7≠rn->Keep (fun _=>False) A X->Q (upd f 7 (.pointer (some ⟨b7,0,none⟩))) X
theorem adS_ok {X:Hp} {ov:Value} {e:Env} {Q:Fr->Hp->Prop} (e34:look e 34=.pointer (some ⟨rn,0,none⟩)) (B7:Bl X b7 [.pointer none]) (R:Bl X rn [s,b,d,a,m,ov,sv])
  (O:OwS X ov vs) (ho:∀q,ownB ov q->A.size<=q/\q≠b7/\q≠rn) (h7:A.size<=b7) (hr:A.size<=rn) (hne:b7≠rn) (K:Keep (fun _=>False) A X) (hK:AdK s b d a m sv vs A f Q):tvk P (fun q=>A.size<=q) (c_adS ι) e (upd f 7 (.pointer (some ⟨b7,0,none⟩))) X Q:=by
 unfold c_adS
 have t7:=B7.okSt (o:=0) (by simp)
 have K7:Keep (fun q=>q=b7) X (setc X ⟨b7,0,none⟩ (.pointer (some ⟨rn,0,none⟩))):=(Keep.refl _ _).setc _ (.inl rfl)
 simp-implicitDefEqProofs only[go_sem,zS,↓reduceIte,Za,Zb,Zc,reduceCtorEq,zU,zV,Zf,Zg,Zh,Zi,Zd,Ze,zF,e34,t7]
 refine⟨K7.mono fun q _ e=>by omega,?_⟩
 exact hK _ b7 rn ov (B7.setc 0 _) (K7.bl R (Ne.symm hne)) (O.keep K7 fun q hq e=>(ho q hq).2.1 e) ho h7 hr hne (K.trans' K7 fun q hq e=>by omega)
theorem adN_ok (hC:ClnVSpec P (ι.f 374)) {v:Value}
  (f1:f 1=v) (f2:f 2=.pointer (some ⟨b2,0,none⟩)) (B2:Bl A b2 [.pointer (some ⟨rb,0,none⟩)]) (B:Bl A rb [s,b,d,a,m,ev,sv]) (hsv:∃a n c,sv=.slice a n c) (hv:SlR A v vs) (hvs:∀x∈vs,isSl x) (hl:vs.length<1000000)
  (hK:AdK s b d a m sv vs A f (Qb .n)):vc P (c_adN ι) Qb f A:=by
 unfold c_adN kW kZ
 have c2:cell A ⟨b2,0,none⟩=some (.pointer (some ⟨rb,0,none⟩)):=by rw[B2.cell];rfl
 have c6:cell A ⟨rb,6,none⟩=some sv:=by rw[B.cell];rfl
 have l5:ldNA A ⟨rb,0,none⟩ 5=some #[s,b,d,a,m]:=by
  have:=B.ldNA (o:=0) (n:=5) (by simp)
  simpa using this
 have lt2:=B2.lt
 have ltr:=B.lt
 have hW2:(A.size<=b2)=False:=eq_false (by omega)
 have hWr:(A.size<=rb)=False:=eq_false (by omega)
 have Kp:∀(X:Hp) (T:TypeId) (y:Array Value),Keep (fun _=>False) X (X.push (.cells y T)):=fun X T y=>(Keep.refl _ _).push _
 have cb:∀X,Keep (fun _=>False) A X->CallsM P (ι.f 374) #[v] X fun r X'=>OwS X' r vs/\(∀q,ownB r q->X.size<=q)/\Keep (fun _=>False) X X':=fun X K=>hC vs v X (hv.keep K (by simp)) hvs hl
 obtain⟨ya,yn,yc,rfl⟩:=hsv
 refine vc_drk (fun q=>A.size<=q) ?_
 simp-implicitDefEqProofs only[go_sem,zS,↓reduceIte,Za,Zb,Zc,reduceCtorEq,zU,zV,Zf,Zg,Zh,Zi,Zd,Ze,zF,f1,f2,c2,c6,l5,ldNO_ptr,hW2,hWr]
 refine⟨(cb A (Keep.refl _ _)).mono ?_,(Kp _ _ _).any,(cb _ (Kp _ _ _)).mono ?_⟩
 ·rintro ov X1 ⟨O1,o1,K1⟩
  have s1:=K1.size
  obtain⟨x0,xn,xc,rfl⟩:=O1.shape
  rw[kontK_eq]
  refine⟨K1.any,?_⟩
  simp-implicitDefEqProofs only[go_sem,zS,↓reduceIte,Za,Zb,Zc,reduceCtorEq,zU,zV,Zf,Zg,Zh,Zi,Zd,Ze,zF]
  have own:∀{p r:Nat},X1.size<=p->X1.size<=r->∀q,ownB (.slice x0 xn xc) q->A.size<=q/\q≠p/\q≠r:=fun h1 h2 q hq=>by
   have:=o1 q hq
   have:=O1.old hq
   omega
  refine⟨⟨(Kp _ _ _).any,(Kp _ _ _).any,?_⟩,(Kp _ _ _).any,(Kp _ _ _).any,?_⟩
  ·refine adS_ok (A:=A) (s:=s) (b:=b) (d:=d) (a:=a) (m:=m) (ov:=.slice x0 xn xc) (sv:=.slice ya yn yc) (vs:=vs) ?_ (Bl.new' _ _ _) ((Kp _ _ _).bl (Bl.new' _ _ _) (by simp)) ((O1.keep (Kp _ _ _) (by simp)).keep (Kp _ _ _) (by simp)) (own (by simp) (by simp)) (by rw[Array.size_push];omega) (by omega) (by rw[Array.size_push];omega) ((K1.trans (Kp _ _ _)).trans (Kp _ _ _)) hK
   rfl
  ·refine adS_ok (A:=A) (s:=s) (b:=b) (d:=d) (a:=a) (m:=m) (ov:=.slice x0 xn xc) (sv:=.slice ya yn yc) (vs:=vs) ?_ ((Kp _ _ _).bl (Bl.new' _ _ _) (by simp)) (Bl.new' _ _ _) ((O1.keep (Kp _ _ _) (by simp)).keep (Kp _ _ _) (by simp)) (own (by simp) (by simp)) (by omega) (by rw[Array.size_push];omega) (by rw[Array.size_push];omega) ((K1.trans (Kp _ _ _)).trans (Kp _ _ _)) hK
   rfl
 ·rintro ov X1 ⟨O1,o1,K1⟩
  have s1:=K1.size
  rw[Array.size_push]at s1 o1
  obtain⟨x0,xn,xc,rfl⟩:=O1.shape
  rw[kontK_eq]
  refine⟨K1.any,?_⟩
  simp-implicitDefEqProofs only[go_sem,zS,↓reduceIte,Za,Zb,Zc,reduceCtorEq,zU,zV,Zf,Zg,Zh,Zi,Zd,Ze,zF]
  refine⟨(Kp _ _ _).any,?_⟩
  refine adS_ok (b7:=A.size) (rn:=X1.size) rfl ((K1.trans (Kp _ _ _)).bl (Bl.new' A _ _) (by simp)) (Bl.new' _ _ _) (O1.keep (Kp _ _ _) (by simp)) (fun q hq=>by
   have:=o1 q hq
   have:=O1.old hq
   omega) (by omega) (by omega) (by omega) (((Kp _ _ _).trans K1).trans (Kp _ _ _)) hK
theorem adB_ok {ob x n oc:Nat} {s' b' d' a' m' sv':Value} {L:List Value}
  (f2:f 2=.pointer (some ⟨b2,0,none⟩)) (f7:f 7=.pointer (some ⟨b7,0,none⟩)) (f8:f 8=.int .i64 (x:Int)) (B2:Bl A b2 [.pointer (some ⟨rb,0,none⟩)]) (B7:Bl A b7 [.pointer (some ⟨rn,0,none⟩)])
  (B:Bl A rb [s,b,d,a,m,ev,sv]) (R:Bl A rn [s',b',d',a',m',.slice (some ⟨ob,0,none⟩) n oc,sv']) (hev:SlR A ev vr) (hx:x<vr.length) (hxn:x<n) (hvr:isSl (vr.getD x undef)) (O:Bl A ob L) (hL:n<=L.length)
  (hK:∀X,Bl X ob (L.set x (vr.getD x undef))->Keep (fun q=>q=ob) A X->Qb .n f X):vc P (c_adB ι) Qb f A:=by
 unfold c_adB kW
 have c2:cell A ⟨b2,0,none⟩=some (.pointer (some ⟨rb,0,none⟩)):=by rw[B2.cell];rfl
 have c7:cell A ⟨b7,0,none⟩=some (.pointer (some ⟨rn,0,none⟩)):=by rw[B7.cell];rfl
 have c5:cell A ⟨rb,5,none⟩=some ev:=by rw[B.cell];rfl
 have r5:cell A ⟨rn,5,none⟩=some (.slice (some ⟨ob,0,none⟩) n oc):=by rw[R.cell];rfl
 obtain⟨sb,so,sc,e,hld⟩:=hev.ld1 (i:=x) hx
 obtain⟨y,hy⟩:∃y,y=vr.getD x undef:=⟨_,rfl⟩
 rw[<-hy]at hld hK hvr
 have KS:Keep (fun q=>q=ob) A (stNA A ⟨ob,x,none⟩ [y]):=(Keep.refl _ _).stNA _ (.inl rfl)
 have t8:=O.okNA (o:=x) (n:=1) (by omega)
 have a1:all1 #[y]:=all1_of (by simp only[List.all_cons,List.all_nil,all1_sl hvr];rfl)
 have hset:wrL L x [y]=L.set x y:=by
  unfold wrL
  rw[List.set_eq_take_append_cons_drop,if_pos (by omega)]
  simp
 have leaf:∀e:Env,look e 51=.pointer (some ⟨ob,x,none⟩)->look e 50=.agg #[y]->tvk P (fun q=>q=ob) (c_adL ι) e f A (Qb .n):=fun e e51 e50=>by
  unfold c_adL
  simp-implicitDefEqProofs only[go_sem,zS,↓reduceIte,Za,Zb,Zc,reduceCtorEq,zU,zV,Zf,Zg,Zh,Zi,Zd,Ze,zF,e51,e50,t8]
  refine⟨a1,KS,hK _ ?_ KS⟩
  rw[<-hset]
  exact O.stNA x [y]
 refine vc_drk (fun q=>q=ob) ?_
 simp-implicitDefEqProofs only[go_sem,zS,↓reduceIte,Za,Zb,Zc,reduceCtorEq,zU,zV,Zf,Zg,Zh,Zi,Zd,Ze,zF,f2,f7,f8,c2,c7,c5,r5,e,tn_cast,hld,ldNO_ptr,Nat.zero_add,Nat.mul_one]
 repeat' (first|exact Keep.refl _ _|exact leaf _ rfl rfl|refine And.intro ?_ ?_|omega)
def EAdpSpec (P:Program) (ι:Ids) (k:FuncId):Prop:=∀(F:FlN) (el el':List (Nat->Bool)) (st:List Int) (vs:List Value) (rb:Nat) (v:Value) (H:Hp),TabOk ι H->RunV H rb F el st->st.length=el.length->el.length<=10→
  SlR H v vs->vs.length=el'.length->el'.length<=1000->(∀i<vs.length,SetM H (.agg #[vs.getD i undef]) (el'.getD i fun _=>false))->(el'.length=el.length->(∀i,i<el'.length->¬badS (el'.getD i fun _=>false))->GoodP (pbOf F (adE el el' st))/\SolB (pbOf F (adE el el' st)) st)→
  CallsM P k #[.pointer (some ⟨rb,0,none⟩),v] H fun r H'=>Keep (fun _=>False) H H'∧
    ((el'.length≠el.length/\r=.tuple #[.pointer none,.int .i64 1])∨
     (el'.length=el.length/\(∃i,i<el'.length/\badS (el'.getD i fun _=>false))/\r=.tuple #[.pointer none,.int .i64 2])∨
     (el'.length=el.length/\(∀i,i<el'.length->¬badS (el'.getD i fun _=>false))∧
       ((solF (pbOf F (adE el el' st)) st=none/\r=.tuple #[.pointer none,.int .i64 12])∨
        ((solF (pbOf F (adE el el' st)) st).isSome=true/\∃rn,r=.tuple #[.pointer (some ⟨rn,0,none⟩),.int .i64 0]/\RunV H' rn F (adE el el' st) st))))
theorem eadp_ok {k:FuncId} (hk:FnIsR P k (c_eadp ι) r_eadp 2 64) (c:AdpC P ι):EAdpSpec P ι k:=by
  intro F el el' st vs rb v H hT hR hsl hn hv hvl hll hes' hgood
  have hR0:=hR
  obtain⟨s,b,d,a,m,ev,sv,vr,B,hF,he,hel,hfl,hes,hsv⟩:=hR
  have hvs:∀x∈vs,isSl x:=fun x hx=>by
    obtain⟨i,hi,rfl⟩:=List.getElem_of_mem hx
    obtain⟨u,W,e,hV⟩:=hes' i hi
    rw[List.getD_eq_getElem?_getD,List.getElem?_eq_getElem hi,Option.getD_some]at e
    cases e
    exact hV.sl.isSl
  have lsv:lenV sv=el.length:=by rw[hsv.len,iL_len,hsl]
  obtain⟨Q,hQ⟩:∃Q:Value->Hp->Prop,Q=fun r H'=>Keep (fun _=>False) H H'∧
    ((el'.length≠el.length/\r=.tuple #[.pointer none,.int .i64 1])∨
     (el'.length=el.length/\(∃i,i<el'.length/\badS (el'.getD i fun _=>false))/\r=.tuple #[.pointer none,.int .i64 2])∨
     (el'.length=el.length/\(∀i,i<el'.length->¬badS (el'.getD i fun _=>false))∧
       ((solF (pbOf F (adE el el' st)) st=none/\r=.tuple #[.pointer none,.int .i64 12])∨
        ((solF (pbOf F (adE el el' st)) st).isSome=true/\∃rn,r=.tuple #[.pointer (some ⟨rn,0,none⟩),.int .i64 0]/\RunV H' rn F (adE el el' st) st)))):=⟨_,rfl⟩
  rw[<-hQ]
  refine calls_of_vcR hk (args:=[_,_]) (by simp) ?_
  unfold c_eadp r_eadp kA kB kC kD kL kR kU kV kW kX kY
  simp-implicitDefEqProofs only[go_sem,zS,↓reduceIte,Za,Zb,Zc,reduceCtorEq,zU,zV,Zf,Zg,Zh,Zi,Zd,Ze,zF]
  refine kont_new fun H1 b2 e1 z1 B1 K1=>?_
  have B1':Bl H1 b2 [.pointer (some ⟨rb,0,none⟩)]:=B1
  have c2:cell H1 ⟨b2,0,none⟩=some (.pointer (some ⟨rb,0,none⟩)):=by rw[B1'.cell];rfl
  have BR:=K1.bl B (by simp)
  have c6:cell H1 ⟨rb,6,none⟩=some sv:=by rw[BR.cell];rfl
  simp-implicitDefEqProofs only[go_sem,zS,↓reduceIte,Za,Zb,Zc,reduceCtorEq,zU,zV,Zf,Zg,Zh,Zi,Zd,Ze,zF,c2,c6,hsv.isSl,lsv]
  refine(c.usr el' vs v (el.length:Int) H1 (hv.keep K1 (by simp)) hvl hll fun i hi=>(hes' i hi).keep0 K1).mono ?_
  rintro r H2 ⟨e,rfl,K2,hcase⟩
  have K12:=K1.trans K2
  rw[kont_eq]
  rcases hcase with⟨hne,rfl⟩|⟨heq,⟨rfl,hbad⟩|⟨rfl,hok⟩⟩
  · have q2:((1:Int)!=0)=true:=rfl
    simp-implicitDefEqProofs only[go_sem,zS,↓reduceIte,Za,Zb,Zc,reduceCtorEq,zU,zV,Zf,Zg,Zh,Zi,Zd,Ze,zF,q2]
    refine⟨List.nodup_nil,fun X hs hk=>?_⟩
    rw[hQ]
    exact⟨K12.trans ⟨by omega,fun q _ _=>hk q⟩,.inl ⟨by omega,rfl⟩⟩
  · have q2:((2:Int)!=0)=true:=rfl
    simp-implicitDefEqProofs only[go_sem,zS,↓reduceIte,Za,Zb,Zc,reduceCtorEq,zU,zV,Zf,Zg,Zh,Zi,Zd,Ze,zF,q2]
    refine⟨List.nodup_nil,fun X hs hk=>?_⟩
    rw[hQ]
    exact⟨K12.trans ⟨by omega,fun q _ _=>hk q⟩,.inr (.inl ⟨by omega,hbad,rfl⟩)⟩
  have heq':el'.length=el.length:=by omega
  obtain⟨hG,hB⟩:=hgood heq' hok
  have q2:((0:Int)!=0)=false:=rfl
  obtain⟨ya,yc,hys,-⟩:=hsv.mk
  simp-implicitDefEqProofs only[go_sem,zS,↓reduceIte,Za,Zb,Zc,reduceCtorEq,zU,zV,Zf,Zg,Zh,Zi,Zd,Ze,zF,q2]
  refine adN_ok c.cln (b2:=b2) (rb:=rb) (v:=v) (vs:=vs) (by rfl) (by rfl) (K2.bl B1' (by simp)) (K12.bl B (by simp)) ⟨_,_,_,hys⟩ (hv.keep K12 (by simp)) hvs (by omega) ?_
  intro H3 b7 rn ov B7 R O ho h7 hr hne K3
  have K13:=K12.trans K3
  have B3:=(K2.trans K3).bl B1' (by simp)
  have c2:cell H3 ⟨b2,0,none⟩=some (.pointer (some ⟨rb,0,none⟩)):=by rw[B3.cell];rfl
  simp-implicitDefEqProofs only[go_sem,zS,↓reduceIte,Za,Zb,Zc,reduceCtorEq,zU,zV,Zf,Zg,Zh,Zi,Zd,Ze,zF,c2]
  refine(c.don.1 F el st rb H3 (hR0.keep0 K13) (by omega)).mono ?_
  rintro w H4 ⟨hS,K4,oS⟩
  obtain⟨wv,W0,rfl,hV⟩:=hS
  have K14:=K13.trans K4
  rw[kont_eq]
  simp-implicitDefEqProofs only[go_sem,zS,↓reduceIte,Za,Zb,Zc,reduceCtorEq,zU,zV,Zf,Zg,Zh,Zi,Zd,Ze,zF]
  refine(c.all wv H4).mono ?_
  rintro r H5 ⟨rfl,Bs,K5,z5⟩
  rw[kont_eq]
  have K35:=K4.trans K5
  have K15:=K13.trans K35
  have s1:=K1.size
  have s2:=K2.size
  have s3:=K3.size
  have s4:=K4.size
  have s5:=K5.size
  have hnl:vs.length=el.length:=by omega
  have hn0:0<el.length:=by
    have:=hG.n0
    simpa[pbOf,adE_len]using this
  obtain⟨ob,oc,L0,rfl,hoc,hocL,BO,hL0⟩:=O.some (by intro e;rw[e]at hnl;simp at hnl;omega)
  have hob:=ho ob (by simp[ownB])
  have BO5:=K35.bl BO (by simp)
  have B25:=K35.bl B3 (by simp)
  have B75:=K35.bl B7 (by simp)
  have BR5:=K35.bl R (by simp)
  have BB5:=K15.bl B (by simp)
  have lob:=BO.lt
  have l7:=B7.lt
  have lr:=R.lt
  have lrb:=B.lt
  have l2:=B1'.lt
  have old:∀{X:Hp},Keep (fun p=>p=ob) H5 X->Keep (fun _=>False) H X:=fun K=>K15.trans' K fun p hp h=>by omega
  obtain⟨dn,hdn⟩:∃dn,dn=mems (doneP st st.length):=⟨_,rfl⟩
  have hdm:∀i,i∈dn↔(i<el.length/\st.getD i 0≠0):=fun i=>by
    rw[hdn]
    unfold mems doneP
    rw[List.mem_filter,List.mem_range,Bool.and_eq_true,decide_eq_true_eq,decide_eq_true_eq]
    omega
  have hV5:=hV.keep K5 (by simp)
  have hwo:∀q,slB wv q->q<H4.size:=fun q hq=>hV.sl.old hq
  simp-implicitDefEqProofs only[go_sem,zS,↓reduceIte,Za,Zb,Zc,reduceCtorEq,zU,zV,Zf,Zg,Zh,Zi,Zd,Ze,zF]
  refine vc_rf (fun p=>p=ob) (fun k X=>∃L,Bl X ob L/\L.length=L0.length/\L.take vs.length=adW vr vs dn k) (fun _ _=>False) (G:=fun X=>TabOk ι X/\Bl X H4.size [wv]/\SetV X wv W0 (doneP st st.length)) (by simp-implicitDefEqProofs only[go_sem,zS,↓reduceIte,Za,Zb,Zc,reduceCtorEq,kont_eq,zU,zV,Zf,Zg,Zh,Zi,Zd,Ze];rfl) c.a1 (ball1_ok c.aY c.tz) ?_ ?_ ?_ ?_ ?_ ?_ ?_ ?_
  · rintro p rfl;omega
  · rintro k X KX _
    exact⟨hT.keep (old KX),KX.bl Bs (by omega),hV5.keep KX fun q hq h=>by have:=oS q hq;omega⟩
  · intro X KX hs0
    exact⟨L0,KX.bl BO5 (by simp),rfl,by rw[adW_0];exact hL0.1⟩
  · rintro k X X2 hs0 KX ⟨L,j1,j2⟩ KK
    exact⟨L,KK.bl j1 (by omega),j2⟩
  · rintro e X X2 hs0 KX h KK
    exact h
  · rintro k X hk' KX hs0 ⟨L,j1,j2,j3⟩
    have hkl:k<dn.length:=by rw[hdn];simpa[memL]using hk'
    obtain⟨x,hx⟩:∃x,x=dn[k]:=⟨_,rfl⟩
    have hxv:(memL (doneP st st.length)).getD k undef=.int .i64 (x:Int):=by
      rw[List.getD_eq_getElem?_getD,List.getElem?_eq_getElem hk']
      subst hdn
      simp[memL,hx]
    have hxd:=(hdm x).1 (by rw[hx];exact List.getElem_mem _)
    rw[hxv]
    have KHX:=old KX
    have hsx:isSl (vr.getD x undef):=by
      obtain⟨u,W,e,hV⟩:=hes x (by omega)
      cases e
      exact hV.sl.isSl
    simp-implicitDefEqProofs only[go_sem,zS,↓reduceIte,Za,Zb,Zc,reduceCtorEq,zU,zV,Zf,Zg,Zh,Zi,Zd,Ze,zF]
    refine adB_ok (rb:=rb) (rn:=rn) (b2:=b2) (b7:=b7) (ob:=ob) (x:=x) (vr:=vr) (L:=L) (by rfl) (by rfl) (by rfl) (KX.bl B25 (by omega)) (KX.bl B75 (by omega)) (KX.bl BB5 (by omega)) (KX.bl BR5 (by omega)) (he.keep KHX (by simp)) (by omega) (by omega) hsx j1 (by omega) fun X' BX' KX'=>?_
    simp-implicitDefEqProofs only[go_sem,zS,↓reduceIte,Za,Zb,Zc,reduceCtorEq,zU,zV,Zf,Zg,Zh,Zi,Zd,Ze,zF]
    refine⟨KX'.mono fun q _ h=>.inl h,_,BX',by rw[List.length_set];exact j2,?_⟩
    rw[adW_succ hkl (by rw[<-hx];omega),<-hx,<-j3,List.take_set]
  · rintro X KX hs0 hd ⟨L,j1,j2,j3⟩
    have KHX:=old KX
    have hml:(memL (doneP st st.length)).length=dn.length:=by rw[hdn];simp[memL]
    rw[hml]at j3
    have hfull:∀i,i∈dn.take dn.length↔(i<el.length/\st.getD i 0≠0):=fun i=>by rw[List.take_length];exact hdm i
    have RX:=KX.bl BR5 (by omega)
    have SX:SlR X (.slice (some ⟨ob,0,none⟩) vs.length oc) (adW vr vs dn dn.length):=by
      rw[<-j3]
      exact SlR.bl j1 0 vs.length oc hoc (by omega)
    have hRn:∀Y,Keep (fun p=>p=H5.size) X Y->RunV Y rn F (adE el el' st) st:=fun Y KY=>by
      have hso:∀q,slB (.slice (some ⟨ob,0,none⟩) vs.length oc) q->¬q=H5.size:=fun q hq e=>by
        have h:ob=q\/q=ob:=by first|exact .inl hq.1|exact .inr hq.1
        omega
      have KHX:Keep (fun _=>False) H Y:=KHX.trans' KY fun q hq e=>by omega
      refine⟨s,b,d,a,m,_,sv,adW vr vs dn dn.length,KY.bl RX (by omega),hF.keep0 KHX,SX.keep KY hso,by rw[adW_len,adE_len];omega,by rw[adE_len];exact hfl,fun i hi=>?_,hsv.keep KHX (by simp)⟩
      rw[adW_len]at hi
      rw[adW_at hi,adE_at (by omega)]
      by_cases h:st.getD i 0≠0
      · rw[if_pos ((hfull i).2 ⟨by omega,h⟩),if_pos h]
        exact(hes i (by omega)).keep0 KHX
      · rw[if_neg (fun hm=>h ((hfull i).1 hm).2),if_neg h]
        exact(hes' i hi).keep0 KHX
    have B7X:=KX.bl B75 (by omega)
    have c7:cell X ⟨b7,0,none⟩=some (.pointer (some ⟨rn,0,none⟩)):=by rw[B7X.cell];rfl
    have c6:cell X ⟨rn,6,none⟩=some sv:=by rw[RX.cell];rfl
    simp-implicitDefEqProofs only[go_sem,zS,↓reduceIte,Za,Zb,Zc,reduceCtorEq,zU,zV,Zf,Zg,Zh,Zi,Zd,Ze,zF]
    refine vc_drk (fun _=>False) ?_
    simp-implicitDefEqProofs only[go_sem,zS,↓reduceIte,Za,Zb,Zc,reduceCtorEq,zU,zV,Zf,Zg,Zh,Zi,Zd,Ze,zF,c7,c6]
    refine(c.pln F (adE el el' st) st st rn sv X (hT.keep KHX) (hRn X (Keep.refl _ _)) (hsv.keep KHX (by simp)) hG hB).mono ?_
    rintro r X1 ⟨y,rfl,KX1,-⟩
    rw[kontK_eq]
    refine⟨KX1,?_⟩
    have c71:cell X1 ⟨b7,0,none⟩=some (.pointer (some ⟨rn,0,none⟩)):=by rw[(KX1.bl B7X (by simp)).cell];rfl
    have hd1:X1[H5.size]?=some (.deferred (some [])):=by rw[KX1.at_ H5.size (by omega) (by simp)];exact hd
    cases hso:(solF (pbOf F (adE el el' st)) st).isSome with
    |false=>
      simp-implicitDefEqProofs only[go_sem,zS,↓reduceIte,Za,Zb,Zc,reduceCtorEq,zU,zV,Zf,Zg,Zh,Zi,Zd,Ze,zF,Bool.not_false]
      refine⟨by simp,hd1,fun Y hs2 hk2=>?_⟩
      have M:Keep (fun p=>p=H5.size) X1 Y:=⟨by omega,fun p _ h=>hk2 p (by simpa using h)⟩
      rw[hQ]
      exact⟨(KHX.trans KX1).trans' M fun q hq e=>by omega,.inr (.inr ⟨heq',hok,.inl ⟨Option.isNone_iff_eq_none.1 (by rw[<-Option.not_isSome,hso];rfl),rfl⟩⟩)⟩
    |true=>
      simp-implicitDefEqProofs only[go_sem,zS,↓reduceIte,Za,Zb,Zc,reduceCtorEq,zU,zV,Zf,Zg,Zh,Zi,Zd,Ze,zF,Bool.not_true,c71]
      refine⟨by simp,hd1,fun Y hs2 hk2=>?_⟩
      have M:Keep (fun p=>p=H5.size) X1 Y:=⟨by omega,fun p _ h=>hk2 p (by simpa using h)⟩
      rw[hQ]
      exact⟨(KHX.trans KX1).trans' M fun q hq e=>by omega,.inr (.inr ⟨heq',hok,.inr ⟨hso,rn,rfl,hRn Y (KX1.any.trans M)⟩⟩)⟩
  · rintro e X KX hs0 hd h
    exact h.elim
end Go.Mg
namespace Go.Mg
open Go Go.RowKit
set_option linter.all false
set_option maxRecDepth 100000
def c_radp (ι:Ids):S:=
 kY [kR 2 (ι.t 396) 0,.e (.v 4) (.new (ι.t 396) #[kZ,kZ,kZ,kZ,kZ,kZ,kZ])] (kY [kC 5 (kZ)] (.seq (kY [kG 8 6 2,kV 9 (.ld (.t 8)),kO 10 9,kC 11 (.int .i64 0)] (.blk 0 (.loop (kY [kH 12 11 10] (.seq (.ite (.v 12) .skip (.exit 0)) (.seq (.blk 1 (kY [kA 13 11,kK 14 1 9 11,kD 15 14,kB 6 13,kB 7 15] (kY [kA 16 7,kV 17 (.cm .neq .i64 (.t 16) (.c (.int .i64 0)))] (.ite (.v 17) (.reg [kA 18 5,kG 19 5 2,kD 20 19,kA 21 6,kI 22 1 20 21,kD 23 22,.e (.t 24) (.bldF (ι.t 28) 1 1 [.t 23]),.e (.t 25) (.app false (ι.t 28) 1 8 #[.int .u64 0] (.t 18) (.t 24)),kB 5 25]) (.reg [kA 26 5,kA 27 1,kA 28 6,kI 29 1 27 28,kD 30 29,.e (.t 31) (.bldF (ι.t 28) 1 1 [.t 30]),.e (.t 32) (.app false (ι.t 28) 1 8 #[.int .u64 0] (.t 26) (.t 31)),kB 5 32]))))) (.reg [ke 33 11,kB 11 33]))))))) (kY [kG 34 0 2,kN 35 5 34,kA 36 5,kG 37 6 2,kD 38 37,kU 39 (.m (.bld #[kZ,kZ,kZ,kZ,kZ,kZ,kZ] [(0,(5,.t 35)),(5,(1,.t 36)),(6,(1,.t 38))])),.e .no (.stn 7 (.v 4) (.t 39))] .ret)))
def r_radp:List RV:=[.cn 4 7]
def c_laA (ι:Ids):S:=
 (kY [kA 60 11,kA 61 13,.e (.t 62) (.bldF (ι.t 28) 1 1 [.t 61]),.e (.t 63) (.app false (ι.t 28) 1 8 #[.int .u64 0] (.t 60) (.t 62)),kB 11 63] (.reg [kA 64 10,kA 65 13,.e (.t 66) (.call (ι.f 283) [.t 65]),.e (.t 67) (.bldF (ι.t 128) 1 1 [.t 66]),.e (.t 68) (.app false (ι.t 128) 1 24 #[kZ] (.t 64) (.t 67)),kB 10 68]))
def c_laF (ι:Ids):S:=
 (.dr (kW 124 (.mv (.v 15)) (kW 125 (.cm .eql .i64 (.t 124) (.c (.int .i64 0))) (kW 126 (.mv (.t 125)) (.px (.t 127) (.some (.t 126,true)) (.mv (.v 14)) (.px (.t 128) (.some (.t 126,true)) (.m (.ldn 7 (.v 16))) (.wcons (.t 129) (.some (.t 126,true)) (.call (ι.f 406) [.t 127,.t 128]) (kW 130 (.pick (.t 126) (.t 129) (.c (.bool false))) (kW 131 (.mv (.t 130)) (.px (.t 132) (.some (.t 131,true)) (.mv (.v 14)) (.px (.t 134) (.some (.t 131,true)) (.m (.ldn 7 (.v 16))) (.wcons (.t 133) (.some (.t 131,true)) (.call (ι.f 382) [.t 132]) (.wcons (.t 135) (.some (.t 131,true)) (.call (ι.f 397) [.t 134]) (.px (.t 136) (.some (.t 131,true)) (.is 1 (.t 135) (.c (.int .i64 0))) (.px (.t 137) (.some (.t 131,true)) (.ld (.t 136)) (.wcons (.t 138) (.some (.t 131,true)) (.call (ι.f 165) [.t 133,.t 137]) (kW 139 (.pick (.t 131) (.t 138) (.c (.bool false))) (kX 6 (.mv (.t 139)) .done)) .wnil))) .wnil) .wnil))))) .wnil)))))))
def c_laE (ι:Ids):S:=
 (kY [kA 71 7,kA 72 10,.e (.t 73) (.call (ι.f 413) [.t 71,.t 72]),kF 70 73,kQ 74 70 0,kQ 75 70 1,kB 14 74,kB 15 75] (kY [kM 76 7 8,kA 77 11,.e (.t 78) (.call (ι.f 418) [.t 76,.t 77]),.e (.v 16) (.new (ι.t 396) #[kZ,kZ,kZ,kZ,kZ,kZ,kZ]),.e .no (.stn 7 (.v 16) (.t 78))] (kY [kA 80 7,kA 81 10,.e (.t 82) (.call (ι.f 374) [.t 81]),.e (.t 83) (.bldF (ι.t 26) 1 1 [.c (.int .i64 1)]),.e (.t 84) (.call (ι.f 143) [.t 83]),.e (.t 85) (.bldF (ι.t 128) 1 1 [.t 84]),.e (.t 86) (.app false (ι.t 128) 1 24 #[kZ] (.t 82) (.t 85)),.e (.t 87) (.call (ι.f 413) [.t 80,.t 86]),kF 79 87,kQ 88 79 0,kQ 89 79 1,kF 17 88,kB 18 89] (kY [kA 90 10,.e (.t 91) (.call (ι.f 374) [.t 90]),kB 19 91] (kY [kA 92 19,.e (.t 93) (.bldF (ι.t 26) 1 1 [.c (.int .i64 257)]),.e (.t 94) (.call (ι.f 143) [.t 93]),kU 95 (.is 1 (.t 92) (.c (.int .i64 0))),.e .no (.stn 1 (.t 95) (.t 94))] (kY [kA 97 7,kA 98 19,.e (.t 99) (.call (ι.f 413) [.t 97,.t 98]),kF 96 99,kQ 100 96 0,kQ 101 96 1,kF 20 100,kB 21 101] (.seq (kY [kA 102 18,kU 103 (.cm .neq .i64 (.t 102) (.c (.int .i64 1))),kF 104 103,kS 105 104 false 21,kT 106 104 false (.cm .neq .i64 (.t 105) (.c (.int .i64 2))),kU 107 (.pick (.t 104) (.c (.bool true)) (.t 106)),kF 108 107,kS 109 108 false 7,kT 110 108 false (.m (.ldn 7 (.v 8))),.ge (.t 111) (.t 108) false (.call (ι.f 406) [.t 109,.t 110]),kT 112 108 false (.not (.t 111)),kV 113 (.pick (.t 108) (.c (.bool true)) (.t 112))] (.ite (.v 113) (kY [kC 6 (.bool false)] .ret) .skip)) (.seq (kY [kM 114 7 16,.e (.t 115) (.call (ι.f 397) [.t 114]),kL 116 115,kV 117 (.cm .eql .i64 (.t 116) (.c (.int .i64 0)))] (.ite (.v 117) (kY [kA 118 15,kU 119 (.cm .eql .i64 (.t 118) (.c (.int .i64 12))),kF 120 119,kS 121 120 true 14,kT 122 120 true (.m (.eqn .ptr false (.t 121))),kJ 123 120 122,kB 6 123] .ret) .skip)) (.seq (c_laF ι) .ret)))))))))
def c_leadp (ι:Ids):S:=
 kY [kR 3 (ι.t 288) 0,kC 6 (.bool false)] (.seq (kY [.e (.t 22) (.call (ι.f 407) []),kV 23 (.not (.t 22))] (.ite (.v 23) (kY [kC 6 (.bool false)] .ret) .skip)) (kY [kM 25 7 3,kA 26 1,.e (.t 27) (.call (ι.f 405) [.t 25,.t 26]),kF 24 27,kQ 28 24 0,kQ 29 24 1,kQ 30 24 2,.e (.v 8) (.new (ι.t 396) #[kZ,kZ,kZ,kZ,kZ,kZ,kZ]),kB 7 28,.e .no (.stn 7 (.v 8) (.t 29)),kB 9 30] (.seq (kY [kA 31 9,kU 32 (.not (.t 31)),kF 33 32,kS 34 33 false 7,kT 35 33 false (.m (.eqn .ptr false (.t 34))),kV 36 (.pick (.t 33) (.c (.bool true)) (.t 35))] (.ite (.v 36) (kY [kA 37 9,kB 6 37] .ret) .skip)) (kY [kC 10 (kZ)] (kY [kC 11 (kZ)] (.seq (kY [kG 38 6 8,kD 39 38,kV 40 (.m (.lenl (.t 39))),kC 41 (.int .i64 0)] (.blk 0 (.loop (kY [kH 42 41 40] (.seq (.ite (.v 42) .skip (.exit 0)) (.seq (.blk 1 (kY [kA 43 41,kB 12 43] (kY [kG 44 5 8,kD 45 44,kA 46 12,kI 47 1 45 46,kD 48 47,kB 13 48] (.seq (kY [kA 49 12,kA 50 2,kL 51 50,kV 52 (.cm .lss .i64 (.t 49) (.t 51))] (.ite (.v 52) (.reg [kA 53 2,kA 54 12,kI 55 1 53 54,kD 56 55,kU 57 (.dv .rem .u8 (.t 56) (.c (.int .u8 16))),kU 58 (.ii .u64 (.t 57)),kU 59 (.sh .shl .u64 (.t 58) (.c (.int .u64 1))),kB 13 59]) .skip)) (c_laA ι))))) (.reg [ke 69 41,kB 41 69]))))))) (c_laE ι)))))))
def r_leadp:List RV:=[.t 6]
def adM (ms ms':List UInt64) (st:List Int) (n:Nat):List UInt64:=(List.range n).map fun k=>if st.getD k 0≠0 then ms.getD k 0 else ms'.getD k 0
theorem adM_len (ms ms':List UInt64) (st:List Int) (n:Nat):(adM ms ms' st n).length=n:=by simp[adM]
theorem adM_succ (ms ms':List UInt64) (st:List Int) (n:Nat):adM ms ms' st (n+1)=adM ms ms' st n++[if st.getD n 0≠0 then ms.getD n 0 else ms'.getD n 0]:=by
 unfold adM
 rw[List.range_succ,List.map_append];rfl
variable {ms ms' mm:List UInt64} {st:List Int} {k:FuncId} {H A A2:Hp} {v lv mv:Value} {P:Program} {ι:Ids} {x:UInt64} {r:RawF} {C bb rb:Nat} {vs:List Value} {T:TypeId} {R:Value->Hp->Prop} {f:Fr} {F:FlN}
theorem adM_at {n k:Nat} (h:k<n):(adM ms ms' st n).getD k 0=if st.getD k 0≠0 then ms.getD k 0 else ms'.getD k 0:=by
 rw[List.getD_eq_getElem?_getD,List.getElem?_eq_getElem (by rw[adM_len];exact h),Option.getD_some]
 simp[adM]
theorem adM_bt (h:st.length=ms.length):(adM ms ms' st st.length).map bt=adE (ms.map bt) (ms'.map bt) st:=by
 refine List.ext_getElem (by rw[List.length_map,adM_len,adE_len,List.length_map,h]) fun k h1 h2=>?_
 rw[List.length_map,adM_len]at h1
 have e1:=adE_at (el:=ms.map bt) (el':=ms'.map bt) (st:=st) (k:=k) (by rw[List.length_map];omega)
 rw[List.getD_eq_getElem?_getD,List.getElem?_eq_getElem h2,Option.getD_some]at e1
 have e2:=getD_map_bt (adM ms ms' st st.length) k
 rw[List.getD_eq_getElem?_getD,List.getElem?_eq_getElem (by rw[List.length_map,adM_len];exact h1),Option.getD_some]at e2
 rw[e1,e2,adM_at h1,getD_map_bt,getD_map_bt]
 by_cases hz:st.getD k 0≠0
 ·rw[if_pos hz,if_pos hz]
 ·rw[if_neg hz,if_neg hz]
theorem u64_cell {l:List UInt64} (h:SlR H v (w64 l)) {i:Nat} (hi:i<l.length):∃b o c,v=.slice (some ⟨b,o,none⟩) l.length c/\cell H ⟨b,o+i,none⟩=some (.int .u64 (l.getD i 0).toNat):=by
 obtain⟨b,o,c,e,-,hc⟩:=h.cells (by intro e;have:=congrArg List.length e;simp[w64]at this;subst this;simp at hi)
 rw[w64_len]at e hc
 refine⟨b,o,c,e,?_⟩
 rw[hc i hi]
 simp[w64,List.getD_eq_getElem?_getD,hi]
def RAdpSpec (P:Program) (k:FuncId):Prop:=∀(F:FlN) (ms ms':List UInt64) (st:List Int) (v w:Value) (H:Hp),RefRun H v F ms st->SlR H w (w64 ms')->ms.length=st.length->ms'.length=st.length->st.length<=1000->CallsM P k #[v,w] H fun r H'=>RefRun H' r F (adM ms ms' st st.length) st/\Keep (fun _=>False) H H'
theorem radp_ok (hk:FnIs P k (c_radp ι) r_radp 2):RAdpSpec P k:=by
 intro F ms ms' st v w H hv hw hm1 hm2 hl
 obtain⟨Q,hQ⟩:∃Q:Value->Hp->Prop,Q=fun r H'=>RefRun H' r F (adM ms ms' st st.length) st/\Keep (fun _=>False) H H':=⟨_,rfl⟩
 rw[<-hQ]
 obtain⟨s,b,d,a,m,ev,sv,rfl,hF,he,hs⟩:=hv
 refine calls_of_vc hk (args:=[_,_]) (by simp) ?_
 unfold c_radp r_radp kA kB kC kD ke kG kH kI kK kN kO kR kU kV kY kZ
 simp-implicitDefEqProofs only[go_sem,zS,↓reduceIte,Za,Zb,Zc,reduceCtorEq,zU,zV,Zf,Zg,Zh,Zi,Zd,Ze,zF]
 refine kont_new fun H1 b2 e1 z1 B1 K1=>?_
 have B1':Bl H1 b2 [s,b,d,a,m,ev,sv]:=B1
 simp-implicitDefEqProofs only[go_sem,zS,↓reduceIte,Za,Zb,Zc,reduceCtorEq,zU,zV,Zf,Zg,Zh,Zi,Zd,Ze,zF]
 refine kont_new fun H2 b4 e2 z2 B2 K2=>?_
 have B2':Bl H2 b4 [.slice none 0 0,.slice none 0 0,.slice none 0 0,.slice none 0 0,.slice none 0 0,.slice none 0 0,.slice none 0 0]:=B2
 have K02:=K1.trans K2
 have s1:=K1.size
 have s2:=K2.size
 have B12:=K2.bl B1' (by simp)
 have c6:cell H2 ⟨b2,6,none⟩=some sv:=by rw[B12.cell];rfl
 simp-implicitDefEqProofs only[go_sem,zS,↓reduceIte,Za,Zb,Zc,reduceCtorEq,zU,zV,Zf,Zg,Zh,Zi,Zd,Ze,zF,c6,hs.isSl,hs.len,iL_len]
 refine vc_range st.length [12,6,7,17,5,11] rfl rfl (by omega) (by rfl) (by rfl) (fun i g A=>∃lv,g 5=lv/\OwS A lv (w64 (adM ms ms' st i))/\(∀q,ownB lv q->H2.size<=q)/\Keep (fun _=>False) H2 A) ⟨.slice none 0 0,by simp-implicitDefEqProofs only[go_sem,zS,↓reduceIte,Za,Zb,Zc,reduceCtorEq,kont_eq,zU,zV,Zf,Zg,Zh,Zi,Zd,Ze],OwS.nil _,fun q h=>h.elim,Keep.refl _ _⟩ ?_ ?_
 ·rintro i g A hi gi gn ⟨lv,g5,O,o,K⟩
  simp-implicitDefEqProofs only[go_sem,zS,↓reduceIte,Za,Zb,Zc,reduceCtorEq,kont_eq,zU,zV,Zf,Zg,Zh,Zi,Zd,Ze]at gi gn g5
  have sA:=K.size
  have KA:=K02.trans K
  obtain⟨pb,po,pc,hse,hci⟩:=iL_cell (hs.keep KA (by simp)) hi
  have B1A:=K.bl B12 (by simp)
  have c5:cell A ⟨b2,5,none⟩=some ev:=by rw[B1A.cell];rfl
  have nxt:∀(x:UInt64) (A2:Hp) (bb:Nat),Bl A2 bb [.int .u64 x.toNat]->Keep (fun _=>False) A A2->(if st.getD i 0≠0 then ms.getD i 0 else ms'.getD i 0)=x->∀{T:TypeId} {R:Value->Hp->Prop},(∀v' A3,OwS A3 v' (w64 (adM ms ms' st (i+1)))->(∀q,ownB v' q->H2.size<=q)->Keep (fun _=>False) H2 A3->R v' A3)->AppC false T 1 8 #[.int .u64 0] lv (.slice (some ⟨bb,0,none⟩) 1 1) A2 R:=fun x A2 bb BB KB hx T R hR=>by
   refine app_slN H2.size (m:=w64 [x]) (O.keep KB (by simp)) o (by have:=KB.size;omega) (SlR.bl BB 0 1 1 (by omega) (by simp)) (w64_a1 _) rfl (by omega) (by simp[w64,adM_len];omega) fun v' A3 O3 o3 K3=>hR v' A3 ?_ o3 ((K.trans KB).at_old K3 (Nat.le_refl _))
   rw[adM_succ,hx,w64_app];exact O3
  by_cases h0:st.getD i 0=0
  ·have d0:(st.getD i 0 !=0)=false:=by rw[h0];rfl
   obtain⟨qb,qo,qc,hwe,hcw⟩:=u64_cell (hw.keep KA (by simp)) (i:=i) (by omega)
   simp-implicitDefEqProofs only[go_sem,zS,↓reduceIte,Za,Zb,Zc,reduceCtorEq,zU,zV,Zf,Zg,Zh,Zi,Zd,Ze,zF,gi,hse,tn_cast,hci,d0,g5,hwe,hcw,hm2]
   refine⟨by omega,by omega,?_⟩
   refine kont_news fun A2 bb eb zb BB KB=>?_
   simp-implicitDefEqProofs only[go_sem,zS,↓reduceIte,Za,Zb,Zc,reduceCtorEq,zU,zV,Zf,Zg,Zh,Zi,Zd,Ze,zF]
   refine nxt (ms'.getD i 0) A2 bb BB KB (by rw[if_neg (by simpa using h0)]) fun v' A3 O3 o3 K3=>?_
   simp-implicitDefEqProofs only[go_sem,zS,↓reduceIte,Za,Zb,Zc,reduceCtorEq,kont_eq,zU,zV,Zf,Zg,Zh,Zi,Zd,Ze]
   exact⟨v',rfl,O3,o3,K3⟩
  ·have d0:(st.getD i 0 !=0)=true:=by simpa using h0
   obtain⟨qb,qo,qc,hwe,hcw⟩:=u64_cell (he.keep KA (by simp)) (i:=i) (by omega)
   rw[hwe]at c5
   simp-implicitDefEqProofs only[go_sem,zS,↓reduceIte,Za,Zb,Zc,reduceCtorEq,zU,zV,Zf,Zg,Zh,Zi,Zd,Ze,zF,gi,hse,tn_cast,hci,d0,g5,c5,hcw,hm1]
   refine⟨by omega,by omega,?_⟩
   refine kont_news fun A2 bb eb zb BB KB=>?_
   simp-implicitDefEqProofs only[go_sem,zS,↓reduceIte,Za,Zb,Zc,reduceCtorEq,zU,zV,Zf,Zg,Zh,Zi,Zd,Ze,zF]
   refine nxt (ms.getD i 0) A2 bb BB KB (by rw[if_pos h0]) fun v' A3 O3 o3 K3=>?_
   simp-implicitDefEqProofs only[go_sem,zS,↓reduceIte,Za,Zb,Zc,reduceCtorEq,kont_eq,zU,zV,Zf,Zg,Zh,Zi,Zd,Ze]
   exact⟨v',rfl,O3,o3,K3⟩
 ·rintro g A gi ⟨lv,g5,O,o,K⟩
  simp-implicitDefEqProofs only[go_sem,zS,↓reduceIte,Za,Zb,Zc,reduceCtorEq,kont_eq,zU,zV,Zf,Zg,Zh,Zi,Zd,Ze]at g5
  have sA:=K.size
  have KA:=K02.trans K
  have B1A:=K.bl B12 (by simp)
  have B2A:=K.bl B2' (by simp)
  have c6:cell A ⟨b2,6,none⟩=some sv:=by rw[B1A.cell];rfl
  have l5:ldNA A ⟨b2,0,none⟩ 5=some #[s,b,d,a,m]:=by
   have:=B1A.ldNA (o:=0) (n:=5) (by simp)
   simpa using this
  obtain⟨x0,xn,xc,rfl⟩:=O.shape
  obtain⟨ya,yc,hys,-⟩:=hs.mk
  subst hys
  have t4:=B2A.okNA (o:=0) (n:=7) (by simp)
  have ha:all1 #[s,b,d,a,m,.slice x0 xn xc,.slice ya (iL st).length yc]:=all1_of (sl7 hF.sl5 trivial trivial)
  simp-implicitDefEqProofs only[go_sem,zS,↓reduceIte,Za,Zb,Zc,reduceCtorEq,zU,zV,Zf,Zg,Zh,Zi,Zd,Ze,zF,g5,l5,c6,ldNO_ptr,t4,wrA7]
  refine⟨ha,?_⟩
  rw[kont_eq]
  have C4:Bl (stNA A ⟨b4,0,none⟩ [s,b,d,a,m,.slice x0 xn xc,.slice ya (iL st).length yc]) b4 [s,b,d,a,m,.slice x0 xn xc,.slice ya (iL st).length yc]:=B2A.stNA 0 _
  have K6:Keep (fun q=>q=b4) A (stNA A ⟨b4,0,none⟩ [s,b,d,a,m,.slice x0 xn xc,.slice ya (iL st).length yc]):=(Keep.refl _ _).stNA _ (.inl rfl)
  simp-implicitDefEqProofs only[go_sem,zS,↓reduceIte,Za,Zb,Zc,reduceCtorEq,kont_eq,zU,zV,Zf,Zg,Zh,Zi,Zd,Ze,zF,C4.ldNO 7 rfl]
  have KF:=KA.trans' K6 fun q hq e=>by omega
  rw[hQ]
  have l4:=B2'.lt
  exact⟨⟨s,b,d,a,m,_,_,rfl,hF.keep0 KF,(O.keep K6 fun q hq e=>by have:=o q hq;omega).sl,hs.keep KF (by simp)⟩,KF⟩
theorem bt_m16 {m u:Nat} (hx:x.toNat=m*2) (hm:m<16) (h:bt x u=true):1<=u/\u<=4:=by
 unfold bt at h
 rw[hx]at h
 have h2:=Nat.ge_two_pow_of_testBit h
 have hu:u<5:=by
  apply Classical.byContradiction
  intro hc
  have:2^5<=2^u:=Nat.pow_le_pow_right (by omega) (by omega)
  omega
 have h0:u≠0:=by
  rintro rfl
  rw[Nat.testBit_zero]at h
  simp at h
 omega
def mk16 (b:UInt8):UInt64:=UInt64.ofNat ((b.toNat % 16)*2)
theorem mk16_nat (b:UInt8):(mk16 b).toNat=(b.toNat % 16)*2:=by
 unfold mk16
 rw[UInt64.toNat_ofNat']
 apply Nat.mod_eq_of_lt
 omega
def mskL (r:RawF) (us:List UInt8) (n:Nat):List UInt64:=(List.range n).map fun k=>if k<us.length then mk16 (us.getD k 0)else(masksF r).getD k 0
theorem mskL_len (r:RawF) (us:List UInt8) (n:Nat):(mskL r us n).length=n:=by simp[mskL]
theorem mskL_succ (r:RawF) (us:List UInt8) (n:Nat):mskL r us (n+1)=mskL r us n++[if n<us.length then mk16 (us.getD n 0)else(masksF r).getD n 0]:=by
 unfold mskL
 rw[List.range_succ,List.map_append];rfl
theorem mskL_ok (r:RawF) (us:List UInt8) (n:Nat):MsOk (mskL r us n):=fun k u h=>by
 by_cases hk:k<n
 ·have e:(mskL r us n).getD k 0=if k<us.length then mk16 (us.getD k 0)else(masksF r).getD k 0:=by simp[mskL,List.getD_eq_getElem?_getD,hk]
  rw[e]at h
  by_cases hu:k<us.length
  ·rw[if_pos hu]at h
   exact bt_m16 (mk16_nat _) (by omega) h
  ·rw[if_neg hu]at h
   exact masksF_ok r k u h
 ·rw[List.getD_eq_getElem?_getD,List.getElem?_eq_none (by rw[mskL_len];omega)]at h
  simp[bt]at h
theorem adM_ok (h1:MsOk ms) (h2:MsOk ms') (st:List Int) (n:Nat):MsOk (adM ms ms' st n):=fun k u h=>by
 by_cases hk:k<n
 ·rw[adM_at hk]at h
  split at h
  ·exact h1 k u h
  ·exact h2 k u h
 ·rw[List.getD_eq_getElem?_getD,List.getElem?_eq_none (by rw[adM_len];omega)]at h
  simp[bt]at h
theorem goodP_ms (hm:MsOk ms) (hl:ms.length=nuF r):GoodP (pbOf (mkF r) (ms.map bt)):=by
 have hn:=nuF_lt r
 have hG:=mkF_good r
 have hlim:=hG.lim
 unfold tooL at hlim
 have e:(pbOf (mkF r) (ms.map bt)).el.length=(mkF r).st.length:=by simp[pbOf,hl,mkF_len]
 have e0:=mkF_len r
 refine⟨by omega,by omega,fun k u h=>?_,?_,?_,?_,?_,?_,?_⟩
 ·have h:(ms.map bt).getD k (fun _=>false) u=true:=h
  rw[getD_map_bt]at h
  have:=hm k u h;omega
 ·show(mkF r).di.length<=20;omega
 ·show(mkF r).sa.length<=20;omega
 ·show(mkF r).mo.length<=20;omega
 ·rw[e];exact hG.di
 ·rw[e];exact hG.sa
 ·rw[e];exact hG.mo
theorem solB_ms (hm:MsOk ms) (hl:ms.length=nuF r) (h:okS (mkF r).st.length st):SolB (pbOf (mkF r) (ms.map bt)) st:=by
 have e:(pbOf (mkF r) (ms.map bt)).el.length=(mkF r).st.length:=by simp[pbOf,hl,mkF_len]
 have hn:=nuF_lt r
 refine solB_small (goodP_ms hm hl) ?_ ?_
 ·rw[e];exact h.U
 ·rw[e,mkF_len];omega
structure AdI (C:Nat) (A:Hp) (lv mv:Value) (vs:List Value) (ms mm:List UInt64):Prop where
 l:OwS A lv vs
 s:SetsR A vs ms
 m:OwS A mv (w64 mm)
 ol:∀q,ownB lv q->C<=q
 om:∀q,ownB mv q->C<=q/\¬ownB lv q
 os:∀x∈vs,∀q,slB x q->C<=q/\¬ownB lv q/\¬ownB mv q
theorem AdI.keep0 {A':Hp} (h:AdI C A lv mv vs ms mm) (hk:Keep (fun _=>False) A A'):AdI C A' lv mv vs ms mm:=
 ⟨h.l.keep hk (by simp),h.s.keep0 hk,h.m.keep hk (by simp),h.ol,h.om,h.os⟩
theorem AdI.old (h:AdI C A lv mv vs ms mm) {x:Value} (hx:x∈vs) {q:Nat} (hq:slB x q):q<A.size:=by
 obtain⟨j,hj,rfl⟩:=List.getElem_of_mem hx
 exact(h.s.at_ j hj (by rw[<-h.s.len];exact hj)).old (k:=q) hq
theorem AdI.appM (h:AdI C A lv mv vs ms mm) (hC:C<=A.size) (hl:mm.length<=1000000) (BB:Bl A2 bb [.int .u64 x.toNat]) (KB:Keep (fun _=>False) A A2)
  (hR:∀v' A3,AdI C A3 lv v' vs ms (mm++[x])->Keep (fun q=>C<=q) A2 A3->R v' A3):AppC false T 1 8 #[.int .u64 0] mv (.slice (some ⟨bb,0,none⟩) 1 1) A2 R:=by
 have sB:=KB.size
 have hA:=h.keep0 KB
 refine app_sl (m:=w64 [x]) hA.m (SlR.bl BB 0 1 1 (by omega) (by simp)) (w64_a1 _) rfl (by unfold maxLen;simp[w64];omega) (by simp[w64];omega) fun v' A3 O3 K3 o3=>hR v' A3 ⟨hA.l.keep K3 fun q hq e=>(h.om q e).2 hq,hA.s.keep K3 fun z hz q hq e=>(h.os z hz q hq).2.2 e,by rw[w64_app];exact O3,h.ol,fun q hq=>?_,fun z hz q hq=>?_⟩ (K3.mono fun q _ e=>(h.om q e).1)
 ·rcases o3 q hq with h'|h'
  ·exact h.om q h'
  ·exact⟨by omega,fun e=>by have:=h.l.old e;omega⟩
 ·refine⟨(h.os z hz q hq).1,(h.os z hz q hq).2.1,fun e=>?_⟩
  rcases o3 q e with h'|h'
  ·exact(h.os z hz q hq).2.2 h'
  ·have:=h.old hz hq;omega
theorem AdI.appS {u:Value} {m:UInt64} (h:AdI C A lv mv vs ms mm) (hC:C<=A.size) (hu:SetM A (.agg #[u]) (bt m)) (hn:∀q,slB u q->C<=q/\¬ownB lv q/\¬ownB mv q) (hl:ms.length<=1000000) (BB:Bl A2 bb [u]) (KB:Keep (fun _=>False) A A2)
  (hR:∀v' A3,AdI C A3 v' mv (vs++[u]) (ms++[m]) mm->Keep (fun q=>C<=q) A2 A3->R v' A3):AppC false T 1 24 #[.slice none 0 0] lv (.slice (some ⟨bb,0,none⟩) 1 1) A2 R:=by
 have hu1:all1 #[u]:=by
  obtain⟨u',W,e,hV⟩:=hu
  cases e
  exact hV.sl.one
 have hvl:=h.s.len
 have sB:=KB.size
 have hA:=h.keep0 KB
 refine app_sl hA.l (SlR.bl BB 0 1 1 (by omega) (by simp)) hu1 rfl (by unfold maxLen;simp;omega) (by simp;omega) fun v' A3 O3 K3 o3=>hR v' A3 ⟨O3,?_,hA.m.keep K3 fun q hq e=>(h.om q hq).2 e,fun q hq=>?_,fun q hq=>⟨(h.om q hq).1,fun e=>?_⟩,fun z hz q hq=>?_⟩ (K3.mono fun q _ e=>h.ol q e)
 ·exact(hA.s.keep K3 fun z hz q hq e=>(h.os z hz q hq).2.1 e).snoc ((hu.keep0 KB).keep K3 fun q hq h=>(hn q hq).2.1 h)
 ·rcases o3 q hq with h'|h'
  ·exact h.ol q h'
  ·omega
 ·rcases o3 q e with h'|h'
  ·exact(h.om q hq).2 h'
  ·have:=h.m.old hq;omega
 ·rcases List.mem_append.1 hz with hz|hz
  ·refine⟨(h.os z hz q hq).1,fun e=>?_,(h.os z hz q hq).2.2⟩
   rcases o3 q e with h'|h'
   ·exact(h.os z hz q hq).2.1 h'
   ·have:=h.old hz hq;omega
  ·simp only[List.mem_singleton]at hz
   subst hz
   refine⟨(hn q hq).1,fun e=>?_,(hn q hq).2.2⟩
   rcases o3 q e with h'|h'
   ·exact(hn q hq).2.1 h'
   ·have:=hu.old (k:=q) hq;omega
theorem laA_ok (hr:RolesSpec P (ι.f 283)) {Qb:Ex->Fr->Hp->Prop} (f13:f 13=.int .u64 x.toNat) (f10:f 10=lv) (f11:f 11=mv) (I:AdI C A lv mv vs ms mm) (hC:C<=A.size) (hl:ms.length<=1000000) (hl2:mm.length<=1000000)
  (hK:∀A' lv' mv' vs',AdI C A' lv' mv' vs' (ms++[x]) (mm++[x])->Keep (fun q=>C<=q) A A'->Qb .n (upd (upd f 11 mv') 10 lv') A'):vc P (c_laA ι) Qb f A:=by
 unfold c_laA kA kB kY kZ
 simp-implicitDefEqProofs only[go_sem,zS,↓reduceIte,Za,Zb,Zc,reduceCtorEq,zU,zV,Zf,Zg,Zh,Zi,Zd,Ze,zF,f13,f11]
 refine kont_news fun A1 b1 e1 z1 B1 K1=>?_
 have s1:=K1.size
 simp-implicitDefEqProofs only[go_sem,zS,↓reduceIte,Za,Zb,Zc,reduceCtorEq,zU,zV,Zf,Zg,Zh,Zi,Zd,Ze,zF]
 refine I.appM hC hl2 B1 K1 fun mv' A2 I2 K2=>?_
 have s2:=K2.size
 rw[kont_eq]
 simp-implicitDefEqProofs only[go_sem,zS,↓reduceIte,Za,Zb,Zc,reduceCtorEq,zU,zV,Zf,Zg,Zh,Zi,Zd,Ze,zF,f13,f10]
 refine(hr x A2).mono ?_
 rintro rv A3 ⟨⟨u,W,rfl,hV⟩,rf,K3⟩
 have s3:=K3.size
 rw[kont_eq]
 simp-implicitDefEqProofs only[go_sem,zS,↓reduceIte,Za,Zb,Zc,reduceCtorEq,zU,zV,Zf,Zg,Zh,Zi,Zd,Ze,zF]
 refine kont_news fun A4 b4 e4 z4 B4 K4=>?_
 simp-implicitDefEqProofs only[go_sem,zS,↓reduceIte,Za,Zb,Zc,reduceCtorEq,zU,zV,Zf,Zg,Zh,Zi,Zd,Ze,zF]
 refine(I2.keep0 K3).appS (by omega) ⟨u,W,rfl,hV⟩ (fun q hq=>?_) hl B4 K4 fun lv' A5 I5 K5=>?_
 ·have h1:=rf q hq
  exact⟨by omega,fun e=>by have:=I2.l.old e;omega,fun e=>by have:=I2.m.old e;omega⟩
 ·rw[kont_eq]
  simp-implicitDefEqProofs only[go_sem,zS,↓reduceIte,Za,Zb,Zc,reduceCtorEq,kont_eq,zU,zV,Zf,Zg,Zh,Zi,Zd,Ze,zF]
  exact hK A5 lv' mv' _ I5 (((K1.any.trans K2).trans K3.any).trans (K4.any.trans K5))
structure LAdC (P:Program) (ι:Ids):Prop where
 aw:EAwkSpec P ι (ι.f 407)
 play:LPlaySpec P ι (ι.f 405)
 rol:RolesSpec P (ι.f 283)
 adp:EAdpSpec P ι (ι.f 413)
 radp:RAdpSpec P (ι.f 418)
 cln:ClnVSpec P (ι.f 374)
 of_:BOfSpec P (ι.f 143)
 is_:LIsSpec P ι (ι.f 406)
 cmp:RCmpSpec P (ι.f 397)
 pln:EPlnSpec P ι (ι.f 382)
 eqI:IEqSpec P (ι.f 165)
theorem adp_ms (ha:EAdpSpec P ι k) (hT:TabOk ι H) (hR:RunV H rb (mkF r) ((masksF r).map bt) st) (hS:okS (mkF r).st.length st) (hv:SlR H v vs) (hs:SetsR H vs ms') (hm:MsOk ms') (hl:ms'.length=nuF r):
  CallsM P k #[.pointer (some ⟨rb,0,none⟩),v] H fun x H'=>∃np e,x=.tuple #[np,.int .i64 e]/\Keep (fun _=>False) H H'/\((cmpV (mkF r) (adM (masksF r) ms' st st.length) st=[]/\np=.pointer none/\e=12)∨
   ∃t tl rn,cmpV (mkF r) (adM (masksF r) ms' st st.length) st=t::tl/\np=.pointer (some ⟨rn,0,none⟩)/\e=0/\RunV H' rn (mkF r) ((adM (masksF r) ms' st st.length).map bt) st):=by
 have h5:=mkF_le5 r
 have hnu:=mkF_len r
 have hml:=masksF_len r
 have hel:=el_len r
 have hsl:=hS.1
 have hvl:=hs.len
 have hmo:=adM_ok (masksF_ok r) hm st st.length
 have hmn:(adM (masksF r) ms' st st.length).length=nuF r:=by rw[adM_len];omega
 have hbt:=adM_bt (ms:=masksF r) (ms':=ms') (st:=st) (by omega)
 obtain⟨e1,e2⟩:=hs.el
 refine(ha (mkF r) ((masksF r).map bt) (ms'.map bt) st vs rb v H hT hR (by omega) (by omega) hv e1 (by rw[List.length_map];omega) e2 fun _ _=>by rw[<-hbt];exact⟨goodP_ms hmo hmn,solB_ms hmo hmn hS⟩).mono ?_
 rintro x H' ⟨K,h⟩
 rw[<-hbt,sol_cmp hsl hmo]at h
 rcases h with⟨h,_⟩|⟨_,⟨i,hi,u,hu,hb⟩,_⟩|⟨_,_,h⟩
 ·exact absurd (by rw[List.length_map,List.length_map];omega) h
 ·rw[getD_map_bt]at hu
  have:=hm i u hu
  omega
 ·rcases h with⟨h,rfl⟩|⟨h,rn,rfl,hRn⟩
  ·refine⟨_,_,rfl,K,.inl ⟨?_,rfl,rfl⟩⟩
   cases hc:cmpV (mkF r) (adM (masksF r) ms' st st.length) st with
   |nil=>rfl
   |cons a l=>rw[hc]at h;cases h
  ·refine⟨_,_,rfl,K,.inr ?_⟩
   cases hc:cmpV (mkF r) (adM (masksF r) ms' st st.length) st with
   |nil=>rw[hc]at h;cases h
   |cons a l=>exact⟨a,l,rn,rfl,rfl,rfl,hRn⟩
theorem adp_e1 (ha:EAdpSpec P ι k) {el el':List (Nat->Bool)} (hT:TabOk ι H) (hR:RunV H rb F el st) (h1:st.length=el.length) (h2:el.length<=10) (hv:SlR H v vs) (hvl:vs.length=el'.length) (hl:el'.length<=1000)
  (he:∀i<vs.length,SetM H (.agg #[vs.getD i undef]) (el'.getD i fun _=>false)) (hne:el'.length≠el.length):CallsM P k #[.pointer (some ⟨rb,0,none⟩),v] H fun x H'=>x=.tuple #[.pointer none,.int .i64 1]/\Keep (fun _=>False) H H':=by
 refine(ha F el el' st vs rb v H hT hR h1 h2 hv hvl hl he fun h=>absurd h hne).mono ?_
 rintro x H' ⟨K,⟨_,h⟩|⟨h,_⟩|⟨h,_⟩⟩
 ·exact⟨h,K⟩
 ·exact absurd h hne
 ·exact absurd h hne
theorem adp_e2 (ha:EAdpSpec P ι k) {el el':List (Nat->Bool)} (hT:TabOk ι H) (hR:RunV H rb F el st) (h1:st.length=el.length) (h2:el.length<=10) (hv:SlR H v vs) (hvl:vs.length=el'.length)
  (he:∀i<vs.length,SetM H (.agg #[vs.getD i undef]) (el'.getD i fun _=>false)) (heq:el'.length=el.length) {j:Nat} (hj:j<el'.length) (hb:badS (el'.getD j fun _=>false)):CallsM P k #[.pointer (some ⟨rb,0,none⟩),v] H fun x H'=>x=.tuple #[.pointer none,.int .i64 2]/\Keep (fun _=>False) H H':=by
 refine(ha F el el' st vs rb v H hT hR h1 h2 hv hvl (by omega) he fun _ h=>absurd hb (h j hj)).mono ?_
 rintro x H' ⟨K,⟨h,_⟩|⟨_,_,h⟩|⟨_,h,_⟩⟩
 ·exact absurd heq h
 ·exact⟨h,K⟩
 ·exact absurd hb (h j hj)
theorem laE_ok (c:LAdC P ι) {us:List UInt8} {b8:Nat} {cs:List Value} {Q:Value->Hp->Prop} (f7:f 7=.pointer (some ⟨rb,0,none⟩)) (f8:f 8=.pointer (some ⟨b8,0,none⟩)) (f10:f 10=lv) (f11:f 11=mv) (B8:Bl A b8 cs) (hcl:cs.length=7)
  (hP:PlI r A rb (.agg cs.toArray) st) (hT:TabOk ι A) (I:AdI C A lv mv vs (mskL r us (nuF r)) (mskL r us (nuF r))) (hQ:∀A',Keep (fun _=>False) A A'->Q (.bool true) A'):vc P (c_laE ι) (retQ [.t 6] Q) f A:=by
 have h5:=mkF_le5 r
 have hnu:=mkF_len r
 have hn:=nuF_lt r
 have hml:=masksF_len r
 have hsl:=hP.ok.1
 have hel:=el_len r
 have hok:=mkF_ok r
 have hmk:=mskL_ok r us (nuF r)
 have hmkl:=mskL_len r us (nuF r)
 have hvl:=I.s.len
 have hvs:∀x∈vs,isSl x:=fun x hx=>by
  obtain⟨j,hj,rfl⟩:=List.getElem_of_mem hx
  obtain⟨u,W,e,hV⟩:=I.s.at_ j hj (by omega)
  cases e
  exact hV.sl.isSl
 unfold c_laE kA kB kF kC kJ kL kM kQ kS kT kU kV kY kZ
 simp-implicitDefEqProofs only[go_sem,zS,↓reduceIte,Za,Zb,Zc,reduceCtorEq,zU,zV,Zf,Zg,Zh,Zi,Zd,Ze,zF,f7,f10]
 refine(adp_ms c.adp hT hP.run hP.ok I.l.sl I.s hmk hmkl).mono ?_
 rintro x A1 ⟨np,er,rfl,K1,hc⟩
 have I1:=I.keep0 K1
 have B81:=K1.bl B8 (by simp)
 have hP1:=hP.keep0 K1
 rw[kont_eq]
 simp-implicitDefEqProofs only[go_sem,zS,↓reduceIte,Za,Zb,Zc,reduceCtorEq,zU,zV,Zf,Zg,Zh,Zi,Zd,Ze,zF,f8,f11,B81.ldNO 7 hcl.symm]
 refine(c.radp (mkF r) (masksF r) (mskL r us (nuF r)) st _ mv A1 hP1.ref I1.m.sl (by omega) (by omega) (by omega)).mono ?_
 rintro wv A2 ⟨hW,K2⟩
 obtain⟨ds,rfl,hdl,hd1,hds⟩:=hW.cs
 have K02:=K1.trans K2
 rw[kont_eq]
 simp-implicitDefEqProofs only[go_sem,zS,↓reduceIte,Za,Zb,Zc,reduceCtorEq,zU,zV,Zf,Zg,Zh,Zi,Zd,Ze,zF]
 refine kont_newst ds (by rfl) hdl rfl hd1 fun A3 b16 e3 z3 B3 K3=>?_
 have K03:=K02.trans K3
 have I3:=(I1.keep0 K2).keep0 K3
 simp-implicitDefEqProofs only[go_sem,zS,↓reduceIte,Za,Zb,Zc,reduceCtorEq,zU,zV,Zf,Zg,Zh,Zi,Zd,Ze,zF,f7,f10]
 refine(c.cln vs lv A3 I3.l.sl hvs (by omega)).mono ?_
 rintro o4 A4 ⟨O4,own4,K4⟩
 rw[kont_eq]
 simp-implicitDefEqProofs only[go_sem,zS,↓reduceIte,Za,Zb,Zc,reduceCtorEq,zU,zV,Zf,Zg,Zh,Zi,Zd,Ze,zF]
 refine kont_news fun A5 b83 e5 z5 B5 K5=>?_
 have B5':Bl A5 b83 (iL [1]):=B5
 simp-implicitDefEqProofs only[go_sem,zS,↓reduceIte,Za,Zb,Zc,reduceCtorEq,zU,zV,Zf,Zg,Zh,Zi,Zd,Ze,zF]
 refine(c.of_ [1] _ A5 (SlR.bl B5' 0 1 1 (by omega) (by simp[iL_len])) (by simp)).mono ?_
 rintro y A6 ⟨⟨u,W,rfl,hV⟩,K6,n6⟩
 rw[kont_eq]
 simp-implicitDefEqProofs only[go_sem,zS,↓reduceIte,Za,Zb,Zc,reduceCtorEq,zU,zV,Zf,Zg,Zh,Zi,Zd,Ze,zF]
 refine kont_news fun A7 b85 e7 z7 B7 K7=>?_
 have K46:=K5.trans K6
 have K47:=K46.trans K7
 have s4:=K4.size
 have s46:=K46.size
 have s7:=K7.size
 have hS6:SetM A6 (.agg #[u]) (ofP [1]):=⟨u,W,rfl,hV⟩
 simp-implicitDefEqProofs only[go_sem,zS,↓reduceIte,Za,Zb,Zc,reduceCtorEq,zU,zV,Zf,Zg,Zh,Zi,Zd,Ze,zF]
 have old4:∀q,ownB o4 q->q<A4.size:=fun q hq=>O4.old hq
 refine app_sl (O4.keep K47 (by simp)) (SlR.bl B7 0 1 1 (by omega) (by simp)) hV.sl.one rfl (by unfold maxLen;simp;omega) (by simp;omega) fun ov A8 O8 K8 own8=>?_
 have K38:Keep (fun _=>False) A3 A8:=(K4.trans K47).trans' K8 fun q hq e=>by have:=own4 q e;omega
 have K08:=K03.trans K38
 have I4:=I3.keep0 K38
 rw[kont_eq]
 simp-implicitDefEqProofs only[go_sem,zS,↓reduceIte,Za,Zb,Zc,reduceCtorEq,zU,zV,Zf,Zg,Zh,Zi,Zd,Ze,zF]
 obtain⟨g1,g2⟩:=I4.s.el
 have s5:=K5.size
 have hP8:=hP.keep0 K08
 refine(adp_e1 c.adp (el':=(mskL r us (nuF r)).map bt++[ofP [1]]) (vs:=vs++[u]) (hT.keep K08) hP8.run (by omega) (by omega) O8.sl (by simp;omega) (by simp;omega) (fun i hi=>?_) (by simp;omega)).mono ?_
 ·by_cases e:i<vs.length
  ·have e1:(vs++[u]).getD i undef=vs.getD i undef:=by rw[List.getD_eq_getElem?_getD,List.getElem?_append_left e,<-List.getD_eq_getElem?_getD]
   have e2:((mskL r us (nuF r)).map bt++[ofP [1]]).getD i (fun _=>false)=((mskL r us (nuF r)).map bt).getD i fun _=>false:=by rw[List.getD_eq_getElem?_getD,List.getElem?_append_left (by omega),<-List.getD_eq_getElem?_getD]
   rw[e1,e2]
   exact g2 i e
  ·have e':i=vs.length:=by simp at hi;omega
   subst e'
   have e1:(vs++[u]).getD vs.length undef=u:=by simp[List.getD_eq_getElem?_getD]
   have e2:((mskL r us (nuF r)).map bt++[ofP [1]]).getD vs.length (fun _=>false)=ofP [1]:=by rw[g1];simp[List.getD_eq_getElem?_getD]
   rw[e1,e2]
   exact(hS6.keep0 K7).keep K8 fun q hq h=>by
    have h1:=n6 q hq
    have h2:=old4 q h
    have:=K5.size
    omega
 rintro x A9 ⟨rfl,K9⟩
 have K09:=K08.trans K9
 have I9:=I4.keep0 K9
 rw[kont_eq]
 simp-implicitDefEqProofs only[go_sem,zS,↓reduceIte,Za,Zb,Zc,reduceCtorEq,zU,zV,Zf,Zg,Zh,Zi,Zd,Ze,zF,f7,f10]
 refine(c.cln vs lv A9 I9.l.sl hvs (by omega)).mono ?_
 rintro o10 A10 ⟨O10,own10,K10⟩
 rw[kont_eq]
 simp-implicitDefEqProofs only[go_sem,zS,↓reduceIte,Za,Zb,Zc,reduceCtorEq,zU,zV,Zf,Zg,Zh,Zi,Zd,Ze,zF]
 refine kont_news fun A11 b93 e11 z11 B11 K11=>?_
 have B11':Bl A11 b93 (iL [257]):=B11
 simp-implicitDefEqProofs only[go_sem,zS,↓reduceIte,Za,Zb,Zc,reduceCtorEq,zU,zV,Zf,Zg,Zh,Zi,Zd,Ze,zF]
 refine(c.of_ [257] _ A11 (SlR.bl B11' 0 1 1 (by omega) (by simp[iL_len])) (by simp)).mono ?_
 rintro y A12 ⟨⟨u',W',rfl,hV'⟩,K12,n12⟩
 rw[kont_eq]
 simp-implicitDefEqProofs only[go_sem,zS,↓reduceIte,Za,Zb,Zc,reduceCtorEq,zU,zV,Zf,Zg,Zh,Zi,Zd,Ze,zF]
 have h0v:0<vs.length:=by omega
 obtain⟨ob,oc,L,rfl,hoc,hocL,BO,hL1,hL2⟩:=O10.some (by intro e;rw[e]at h0v;simp at h0v)
 have K1012:=K11.trans K12
 have BO2:=K1012.bl BO (by simp)
 have t8:=BO2.okNA (o:=0) (n:=1) (by omega)
 have hob:=own10 ob rfl
 have K912:=K10.trans K1012
 have s10:=K10.size
 have KS:Keep (fun q=>q=ob) A12 (stNA A12 ⟨ob,0,none⟩ [u']):=(Keep.refl _ _).stNA _ (.inl rfl)
 have BO3:=BO2.stNA 0 [u']
 simp-implicitDefEqProofs only[go_sem,zS,↓reduceIte,Za,Zb,Zc,reduceCtorEq,zU,zV,Zf,Zg,Zh,Zi,Zd,Ze,zF,t8]
 refine⟨by omega,hV'.sl.one,?_⟩
 rw[kont_eq]
 have hS12:SetM A12 (.agg #[u']) (ofP [257]):=⟨u',W',rfl,hV'⟩
 have nu':∀q,slB u' q->q≠ob:=fun q hq e=>by
  have h1:=n12 q hq
  have h2:=BO.lt
  have:=K11.size
  omega
 have hS13:SetM (stNA A12 ⟨ob,0,none⟩ [u']) (.agg #[u']) (ofP [257]):=hS12.keep KS fun q hq=>nu' q hq
 generalize stNA A12 ⟨ob,0,none⟩ [u']=A13 at KS BO3 hS13⊢
 have K913:Keep (fun _=>False) A9 A13:=K912.trans' KS fun q hq e=>by omega
 have K013:=K09.trans K913
 have I13:=I9.keep0 K913
 have hP13:=hP.keep0 K013
 obtain⟨g3,g4⟩:=I13.s.el
 have hwr:wrL L 0 [u']=u'::L.drop 1:=by simp[wrL]
 have hLt:(wrL L 0 [u']).take vs.length=u'::vs.drop 1:=by
  rw[hwr]
  obtain⟨n,hn'⟩:∃n,vs.length=n+1:=⟨vs.length -1,by omega⟩
  rw[hn',List.take_succ_cons,<-hL1,hn']
  simp[List.drop_take]
 have hbad:SlR A13 (.slice (some ⟨ob,0,none⟩) vs.length oc) (u'::vs.drop 1):=by
  rw[<-hLt]
  exact SlR.bl BO3 0 vs.length oc hoc (by rw[wrL_len (by simp;omega)];omega)
 simp-implicitDefEqProofs only[go_sem,zS,↓reduceIte,Za,Zb,Zc,reduceCtorEq,zU,zV,Zf,Zg,Zh,Zi,Zd,Ze,zF,f7]
 refine(adp_e2 c.adp (el':=ofP [257]::((mskL r us (nuF r)).map bt).drop 1) (j:=0) (hT.keep K013) hP13.run (by omega) (by omega) hbad (by simp;omega) (fun i hi=>?_) (by simp;omega) (by simp) ⟨257,(by show ofP [257] 257=true;decide),.inr (by decide)⟩).mono ?_
 ·cases i with
  |zero=>exact hS13
  |succ i=>
   have hi':i+1<vs.length:=by simp at hi;omega
   have e1:(u'::vs.drop 1).getD (i+1) undef=vs.getD (i+1) undef:=by simp[List.getD_eq_getElem?_getD,Nat.add_comm]
   have e2:(ofP [257]::((mskL r us (nuF r)).map bt).drop 1).getD (i+1) (fun _=>false)=((mskL r us (nuF r)).map bt).getD (i+1) fun _=>false:=by simp[List.getD_eq_getElem?_getD,Nat.add_comm]
   rw[e1,e2]
   exact g4 (i+1) hi'
 rintro x A14 ⟨rfl,K14⟩
 have K014:=K013.trans K14
 have hP14:=hP.keep0 K014
 have B814:=K014.bl B8 (by simp)
 have d11:((1:Int)!=1)=false:=rfl
 have d22:((2:Int)!=2)=false:=rfl
 rw[kont_eq]
 simp-implicitDefEqProofs only[go_sem,zS,↓reduceIte,Za,Zb,Zc,reduceCtorEq,zU,zV,Zf,Zg,Zh,Zi,Zd,Ze,zF,f7,f8,d11,d22,B814.ldNO 7 hcl.symm]
 refine(c.is_ (mkF r) ((masksF r).map bt) (masksF r) st rb _ A14 (hT.keep K014) ⟨hP14.run,hP14.ref,hok,hsl⟩).mono ?_
 rintro x A15 ⟨rfl,K15⟩
 have K015:=K014.trans K15
 have K315:=(((K38.trans K9).trans K913).trans K14).trans K15
 have B16:=K315.bl B3 (by simp)
 have hW15:=(hW.keep0 K3).keep0 K315
 have hmo:=adM_ok (masksF_ok r) hmk st st.length
 have hmn:(adM (masksF r) (mskL r us (nuF r)) st st.length).length=nuF r:=by rw[adM_len];omega
 have hSm:SmG (mkF r) (adM (masksF r) (mskL r us (nuF r)) st st.length) st:=⟨mkF_good r,by omega,by omega,hsl⟩
 rw[kont_eq]
 simp-implicitDefEqProofs only[go_sem,zS,↓reduceIte,Za,Zb,Zc,reduceCtorEq,zU,zV,Zf,Zg,Zh,Zi,Zd,Ze,zF,Bool.not_true,B16.ldNO 7 hdl.symm]
 refine(c.cmp (mkF r) _ st _ A15 hW15 hSm).mono ?_
 rintro y A16 ⟨⟨ws,O16,R16,-,-⟩,K16⟩
 have K016:=K015.trans K16
 have l16:=R16.len
 rw[kont_eq]
 rcases hc with⟨hz,rfl,rfl⟩|⟨t,tl,rn,hz,rfl,rfl,hRn⟩
 ·rw[hz]at l16
  have l0:lenV y=0:=by rw[O16.sl.len,l16];rfl
  have d0:(((0:Nat):Int)==0)=true:=rfl
  simp-implicitDefEqProofs only[go_sem,zS,↓reduceIte,Za,Zb,Zc,reduceCtorEq,kont_eq,zU,zV,Zf,Zg,Zh,Zi,Zd,Ze,zF,O16.sl.isSl,l0,d0]
  exact hQ _ K016
 ·rw[hz]at l16
  have l0:lenV y=tl.length+1:=by rw[O16.sl.len,l16];rfl
  have d0:(((tl.length+1:Nat):Int)==0)=false:=by rw[beq_eq_false_iff_ne];omega
  have K1_16:Keep (fun _=>False) A1 A16:=(K2.trans K3).trans (K315.trans K16)
  have B17:=K16.bl B16 (by simp)
  simp-implicitDefEqProofs only[go_sem,zS,↓reduceIte,Za,Zb,Zc,reduceCtorEq,zU,zV,Zf,Zg,Zh,Zi,Zd,Ze,zF,O16.sl.isSl,l0,d0]
  unfold c_laF kW kX
  refine vc_drk (fun _=>False) ?_
  simp-implicitDefEqProofs only[go_sem,zS,↓reduceIte,Za,Zb,Zc,reduceCtorEq,zU,zV,Zf,Zg,Zh,Zi,Zd,Ze,zF,B17.ldNO 7 hdl.symm]
  obtain⟨M,hM⟩:∃M,M=adM (masksF r) (mskL r us (nuF r)) st st.length:=⟨_,rfl⟩
  rw[<-hM]at hmo hmn hSm hRn hW15 hz R16
  have hRn16:=hRn.keep0 K1_16
  have hW16:=hW15.keep0 K16
  refine(c.is_ (mkF r) (M.map bt) M st rn _ A16 (hT.keep K016) ⟨hRn16,hW16,hok,hsl⟩).mono ?_
  rintro x A17 ⟨rfl,K17⟩
  rw[kontK_eq]
  refine⟨K17,?_⟩
  have K017:=K016.trans K17
  have B18:=K17.bl B17 (by simp)
  simp-implicitDefEqProofs only[go_sem,zS,↓reduceIte,Za,Zb,Zc,reduceCtorEq,zU,zV,Zf,Zg,Zh,Zi,Zd,Ze,zF,B18.ldNO 7 hdl.symm]
  refine(c.pln.1 (mkF r) (M.map bt) st rn A17 (hT.keep K017) (hRn16.keep0 K17) (goodP_ms hmo hmn) (solB_ms hmo hmn hP.ok)).mono ?_
  rintro y2 A18 ⟨K18,hy⟩
  rw[kontK_eq]
  refine⟨K18,?_⟩
  simp-implicitDefEqProofs only[go_sem,zS,↓reduceIte,Za,Zb,Zc,reduceCtorEq,zU,zV,Zf,Zg,Zh,Zi,Zd,Ze,zF]
  refine(c.cmp (mkF r) M st _ A18 ((hW16.keep0 K17).keep0 K18) hSm).mono ?_
  rintro y3 A19 ⟨⟨ws2,O2,R2,-,-⟩,K19⟩
  rw[kontK_eq]
  refine⟨K19,?_⟩
  have hsol:solF (pbOf (mkF r) (M.map bt)) st=some t:=by rw[sol_cmp hsl hmo,hz];rfl
  rw[hsol]at hy
  have hy:SlR A18 y2 (iL t):=hy
  have hwl:=R2.len
  have hw0:0<ws2.length:=by rw[hwl,hz];simp
  obtain⟨pb,po,pc,hwe,-,hld⟩:=O2.sl.cells (by intro e;rw[e]at hw0;simp at hw0)
  have hld:=hld 0 hw0
  rw[List.getElem?_eq_getElem hw0,Nat.add_zero]at hld
  have hti:=R2.at_ 0 hw0 (by omega)
  have e0:(cmpV (mkF r) M st)[0]'(by omega)=t:=by simp only[hz,List.getElem_cons_zero]
  rw[e0]at hti
  have htl:t.length=(mkF r).st.length:=by
   have:t∈cmpV (mkF r) M st:=by rw[hz];exact List.mem_cons_self
   exact(mem_cmp.1 this).1.1
  simp-implicitDefEqProofs only[go_sem,zS,↓reduceIte,Za,Zb,Zc,reduceCtorEq,zU,zV,Zf,Zg,Zh,Zi,Zd,Ze,zF,hwe,hld,Nat.add_zero]
  refine⟨by omega,(c.eqI t t y2 _ A19 (hy.keep K19 (by simp)) hti (by omega)).mono ?_⟩
  rintro y4 A20 ⟨rfl,rfl⟩
  have hd3:decide (t=t)=true:=decide_eq_true rfl
  rw[kontK_eq]
  refine⟨Keep.refl _ _,?_⟩
  simp-implicitDefEqProofs only[go_sem,zS,↓reduceIte,Za,Zb,Zc,reduceCtorEq,kont_eq,zU,zV,Zf,Zg,Zh,Zi,Zd,Ze,zF,hd3]
  exact hQ _ ((K017.trans K18).trans K19)
def LawE4Spec (P:Program) (ι:Ids) (k:FuncId):Prop:=∀(r:RawF) (acts:List (UInt8×UInt8)) (us:List UInt8) (v w u:Value) (H:Hp),TabOk ι H->RawFV H v r->SlE enc8 2 H w acts->SlR H u (w8 us)->CallsM P k #[v,w,u] H fun x H'=>x=.bool true/\Keep (fun _=>False) H H'
theorem leadp_ok (hk:FnIs P k (c_leadp ι) r_leadp 3) (c:LAdC P ι):LawE4Spec P ι k:=by
 intro r acts us v w uv H hT hv hw hus
 obtain⟨Q,hQ⟩:∃Q:Value->Hp->Prop,Q=fun x H'=>x=.bool true/\Keep (fun _=>False) H H':=⟨_,rfl⟩
 rw[<-hQ]
 have hvr:=hv
 obtain⟨h0,ro,be,di,sa,mo,el,rfl,_⟩:=hv
 refine calls_of_vc hk (args:=[_,_,_]) (by simp) ?_
 unfold c_leadp r_leadp kA kB kF kC kD ke kG kH kI kL kM kQ kR kS kT kU kV kY kZ
 simp-implicitDefEqProofs only[go_sem,zS,↓reduceIte,Za,Zb,Zc,reduceCtorEq,zU,zV,Zf,Zg,Zh,Zi,Zd,Ze,zF]
 refine kont_new fun H1 b3 e1 z1 B1 K1=>?_
 have B1':Bl H1 b3 [.int .u8 (r.n:Int),ro,be,di,sa,mo,el]:=B1
 simp-implicitDefEqProofs only[go_sem,zS,↓reduceIte,Za,Zb,Zc,reduceCtorEq,zU,zV,Zf,Zg,Zh,Zi,Zd,Ze,zF]
 refine(c.aw H1 (hT.keep K1)).mono ?_
 rintro x H2 ⟨rfl,K2⟩
 have K02:=K1.trans K2
 have B12:=K2.bl B1' (by simp)
 rw[kont_eq]
 simp-implicitDefEqProofs only[go_sem,zS,↓reduceIte,Za,Zb,Zc,reduceCtorEq,zU,zV,Zf,Zg,Zh,Zi,Zd,Ze,zF,Bool.not_true,B12.ldNO 7 rfl]
 refine(c.play r acts _ w H2 (hT.keep K02) (RawFV.keep0 hvr K02) (hw.keep0 K02)).mono ?_
 rintro x H3 ⟨rp,sv,rfl,K3,hc⟩
 have K03:=K02.trans K3
 have hcs:∃cs:List Value,sv=.agg cs.toArray/\cs.length=7/\(cs.all fun v=>v.oneCell')=true/\∀x∈cs,isSl x:=by
  rcases hc with⟨_,_,hR⟩|⟨rb,st,_,hP⟩
  ·exact hR.cs
  ·exact hP.ref.cs
 obtain⟨cs,rfl,hcl,hc1,hcs⟩:=hcs
 rw[kont_eq]
 simp-implicitDefEqProofs only[go_sem,zS,↓reduceIte,Za,Zb,Zc,reduceCtorEq,zU,zV,Zf,Zg,Zh,Zi,Zd,Ze,zF]
 refine kont_newstP cs rp rfl (by rfl) (by rfl) hcl rfl hc1 fun H4 b8 e4 z4 B4 K4=>?_
 have K04:=K03.trans K4
 rcases hc with⟨_,rfl,hR⟩|⟨rb,st,rfl,hP⟩
 ·simp-implicitDefEqProofs only[go_sem,zS,↓reduceIte,Za,Zb,Zc,reduceCtorEq,kont_eq,zU,zV,Zf,Zg,Zh,Zi,Zd,Ze,zF]
  rw[hQ]
  exact⟨rfl,K04⟩
 have hP4:=hP.keep0 K4
 have h5:=mkF_le5 r
 have hsl:=hP.ok.1
 have hel:=el_len r
 have hok:=mkF_ok r
 have hnu:=mkF_len r
 have hml:=masksF_len r
 have hR4:=hP4.ref
 obtain⟨s',b',d',a',m',ev',sv',ecs,q1,q2,q3⟩:=hR4
 obtain rfl:cs=[s',b',d',a',m',ev',sv']:=by
  have:=congrArg (fun v:Value=>match v with|.agg c=>c.toList|_=>[]) ecs
  simpa using this
 have c6:cell H4 ⟨b8,6,none⟩=some sv':=by rw[B4.cell];rfl
 simp-implicitDefEqProofs only[go_sem,zS,↓reduceIte,Za,Zb,Zc,reduceCtorEq,zU,zV,Zf,Zg,Zh,Zi,Zd,Ze,zF,c6,q3.isSl,q3.len,iL_len]
 refine vc_range st.length [42,12,13,52,11,10,41] rfl rfl (by omega) (by rfl) (by rfl) (fun i g A=>∃lv mv vs,g 10=lv/\g 11=mv/\AdI H4.size A lv mv vs (mskL r us i) (mskL r us i)/\Keep (fun _=>False) H4 A)
  ⟨.slice none 0 0,.slice none 0 0,[],by simp-implicitDefEqProofs only[go_sem,zS,↓reduceIte,Za,Zb,Zc,reduceCtorEq,kont_eq,zU,zV,Zf,Zg,Zh,Zi,Zd,Ze],by simp-implicitDefEqProofs only[go_sem,zS,↓reduceIte,Za,Zb,Zc,reduceCtorEq,kont_eq,zU,zV,Zf,Zg,Zh,Zi,Zd,Ze],⟨OwS.nil _,⟨rfl,fun i h=>by simp at h⟩,OwS.nil _,fun q h=>h.elim,fun q h=>h.elim,by simp⟩,Keep.refl _ _⟩ ?_ ?_
 ·rintro i g A hi gi gn ⟨lv,mv,vs,g10,g11,I,K⟩
  simp-implicitDefEqProofs only[go_sem,zS,↓reduceIte,Za,Zb,Zc,reduceCtorEq,kont_eq,zU,zV,Zf,Zg,Zh,Zi,Zd,Ze]at gi gn g10 g11
  have sA:=K.size
  have KA:=K04.trans K
  have B8A:=K.bl B4 (by simp)
  obtain⟨pb,po,pc,hme,hcm⟩:=u64_cell (q2.keep K (by simp)) (i:=i) (by omega)
  have c5:cell A ⟨b8,5,none⟩=some ev':=by rw[B8A.cell];rfl
  rw[hme]at c5
  by_cases hiu:(i:Int)<(us.length:Int)
  ·have d1:decide ((i:Int)<(us.length:Int))=true:=decide_eq_true hiu
   obtain⟨ub,uo,uc,hue,-,hcu⟩:=(hus.keep KA (by simp)).cells (by intro e;have:=congrArg List.length e;rw[w8_len,List.length_nil]at this;omega)
   have hci:=hcu i (by rw[w8_len];omega)
   rw[w8_get _ _ (by omega)]at hci
   rw[w8_len]at hue
   have w2:IntKind.u64.wrap (IntKind.u64.wrap ((((us.getD i 0).toNat:Nat):Int).tmod 16)*2^1)=((mk16 (us.getD i 0)).toNat:Int):=by
    rw[show(16:Int)=((16:Nat):Int)from rfl,tmod_nat,mk16_nat,IntKind.wrap_u64,IntKind.wrap_u64]
    have:=(us.getD i 0).toNat_lt
    omega
   simp-implicitDefEqProofs only[go_sem,zS,↓reduceIte,Za,Zb,Zc,reduceCtorEq,zU,zV,Zf,Zg,Zh,Zi,Zd,Ze,zF,gi,c5,hcm,hml,tn_cast,hue,hci,d1,w2]
   refine⟨by omega,by omega,by omega,?_⟩
   refine laA_ok c.rol (x:=mk16 (us.getD i 0)) (by rfl) (by simp-implicitDefEqProofs only[go_sem,zS,↓reduceIte,Za,Zb,Zc,reduceCtorEq,kont_eq,zU,zV,Zf,Zg,Zh,Zi,Zd,Ze,g10]) (by simp-implicitDefEqProofs only[go_sem,zS,↓reduceIte,Za,Zb,Zc,reduceCtorEq,kont_eq,zU,zV,Zf,Zg,Zh,Zi,Zd,Ze,g11]) I (by omega) (by rw[mskL_len];omega) (by rw[mskL_len];omega) fun A' lv' mv' vs' I' K'=>?_
   simp-implicitDefEqProofs only[go_sem,zS,↓reduceIte,Za,Zb,Zc,reduceCtorEq,kont_eq,zU,zV,Zf,Zg,Zh,Zi,Zd,Ze]
   refine⟨lv',mv',vs',rfl,rfl,?_,K.trans' K' fun q hq e=>by omega⟩
   rw[mskL_succ,if_pos (by omega)]
   exact I'
  ·have d1:decide ((i:Int)<(us.length:Int))=false:=decide_eq_false hiu
   simp-implicitDefEqProofs only[go_sem,zS,↓reduceIte,Za,Zb,Zc,reduceCtorEq,zU,zV,Zf,Zg,Zh,Zi,Zd,Ze,zF,gi,c5,hcm,hml,tn_cast,hus.isSl,hus.len,w8_len,d1]
   refine⟨by omega,?_⟩
   refine laA_ok c.rol (x:=(masksF r).getD i 0) (by rfl) (by simp-implicitDefEqProofs only[go_sem,zS,↓reduceIte,Za,Zb,Zc,reduceCtorEq,kont_eq,zU,zV,Zf,Zg,Zh,Zi,Zd,Ze,g10]) (by simp-implicitDefEqProofs only[go_sem,zS,↓reduceIte,Za,Zb,Zc,reduceCtorEq,kont_eq,zU,zV,Zf,Zg,Zh,Zi,Zd,Ze,g11]) I (by omega) (by rw[mskL_len];omega) (by rw[mskL_len];omega) fun A' lv' mv' vs' I' K'=>?_
   simp-implicitDefEqProofs only[go_sem,zS,↓reduceIte,Za,Zb,Zc,reduceCtorEq,kont_eq,zU,zV,Zf,Zg,Zh,Zi,Zd,Ze]
   refine⟨lv',mv',vs',rfl,rfl,?_,K.trans' K' fun q hq e=>by omega⟩
   rw[mskL_succ,if_neg (by omega)]
   exact I'
 ·rintro g A gi ⟨lv,mv,vs,g10,g11,I,K⟩
  simp-implicitDefEqProofs only[go_sem,zS,↓reduceIte,Za,Zb,Zc,reduceCtorEq,kont_eq,zU,zV,Zf,Zg,Zh,Zi,Zd,Ze]at g10 g11
  have KA:=K04.trans K
  simp-implicitDefEqProofs only[go_sem,zS,↓reduceIte,Za,Zb,Zc,reduceCtorEq,kont_eq,zU,zV,Zf,Zg,Zh,Zi,Zd,Ze]
  refine laE_ok c (lv:=lv) (mv:=mv) (by rfl) (by rfl) (by simp-implicitDefEqProofs only[go_sem,zS,↓reduceIte,Za,Zb,Zc,reduceCtorEq,kont_eq,zU,zV,Zf,Zg,Zh,Zi,Zd,Ze,g10]) (by simp-implicitDefEqProofs only[go_sem,zS,↓reduceIte,Za,Zb,Zc,reduceCtorEq,kont_eq,zU,zV,Zf,Zg,Zh,Zi,Zd,Ze,g11]) (K.bl B4 (by simp)) rfl (hP4.keep0 K) (hT.keep KA) (by rw[hsl,hnu]at I;exact I) fun A' K'=>?_
  rw[hQ]
  exact⟨rfl,KA.trans K'⟩
end Go.Mg

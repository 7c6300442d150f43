/- Several texts of ours in one. No conditions. -/
import Derived.Test.YtoclemmcphgikaaGreatDoorMgGN
import Derived.Test.YtoclemmcphgikaaGreatDoorMgGI
import Derived.Test.YtoclemmcphgikaaGreatDoorMgGF
import Derived.Test.YtoclemmcphgikaaGreatDoorMgV5
import Derived.Test.YtoclemmcphgikaaGreatDoorMgVE
open Nat renaming reduceEqDiff→Za,reduceAdd→Zb,reduceMul→Zc,reduceLeDiff→Zd,reduceLT→Ze
open Int renaming reduceBEq→Zf,reduceBNe→Zg,reduceLE→Zh,reduceLT→Zi
namespace Go.Mg
open Go Go.RowKit
set_option linter.all false
set_option maxRecDepth 100000
def c_bgD (ι:Ids):S:=
 (.dr (kW 19 (.m (.ldn 5 (.v 7))) (kW 20 (.mv (.v 8)) (kW 21 (.fa 0 (.v 7)) (kW 22 (.ld (.t 21)) (kW 23 (.m (.lenl (.t 22))) (.wcons (.t 24) .none (.mkS (ι.t 26) 1 8 #[.int .i64 0] (.t 23) (.t 23)) (kW 25 (.m (.bld #[kZ,kZ,kZ,kZ,kZ,kZ,kZ] [(0,(5,.t 19)),(5,(1,.t 20)),(6,(1,.t 24))])) (.wcons (.v 9) .none (.new (ι.t 396) #[kZ,kZ,kZ,kZ,kZ,kZ,kZ]) (.wcons .no .none (.stn 7 (.v 9) (.t 25)) .done .wnil) .wnil)) (.wcons (.v 9) .none (.new (ι.t 396) #[kZ,kZ,kZ,kZ,kZ,kZ,kZ]) (.wcons (.t 24) .none (.mkS (ι.t 26) 1 8 #[.int .i64 0] (.t 23) (.t 23)) (kW 25 (.m (.bld #[kZ,kZ,kZ,kZ,kZ,kZ,kZ] [(0,(5,.t 19)),(5,(1,.t 20)),(6,(1,.t 24))])) (.wcons .no .none (.stn 7 (.v 9) (.t 25)) .done .wnil)) .wnil) .wnil))))))))
def c_bgN (ι:Ids):S:=
 (.dr (kW 36 (.m (.ldn 7 (.v 9))) (kW 37 (.mv (.v 11)) (kW 38 (.cm .eql .i64 (.t 37) (.c (.int .i64 12))) (kW 39 (.mv (.t 38)) (.px (.t 40) (.some (.t 39,true)) (.mv (.v 10)) (.px (.t 41) (.some (.t 39,true)) (.m (.eqn .ptr false (.t 40))) (kW 42 (.pick (.t 39) (.t 41) (.c (.bool false))) (kX 2 (.mv (.c (.pointer .none))) (.wcons .no .none (.stn 7 (.v 3) (.t 36)) (kX 4 (.mv (.t 42)) .done) .wnil))))))))))
def c_bgR (ι:Ids):S:=
 (.dr (kW 43 (.mv (.v 10)) (kW 44 (.m (.ldn 7 (.v 9))) (kW 45 (.mv (.v 11)) (kW 46 (.cm .eql .i64 (.t 45) (.c (.int .i64 0))) (kW 47 (.mv (.t 46)) (.px (.t 48) (.some (.t 47,true)) (.mv (.v 10)) (.px (.t 49) (.some (.t 47,true)) (.m (.eqn .ptr true (.t 48))) (kW 50 (.pick (.t 47) (.t 49) (.c (.bool false))) (kW 51 (.mv (.t 50)) (.px (.t 52) (.some (.t 51,true)) (.mv (.v 10)) (.px (.t 54) (.some (.t 51,true)) (.fa 6 (.v 9)) (.px (.t 55) (.some (.t 51,true)) (.ld (.t 54)) (.wcons (.t 53) (.some (.t 51,true)) (.call (ι.f 379) [.t 52]) (.wcons (.t 56) (.some (.t 51,true)) (.call (ι.f 165) [.t 53,.t 55]) (kW 57 (.pick (.t 51) (.t 56) (.c (.bool false))) (kX 2 (.mv (.t 43)) (.wcons .no .none (.stn 7 (.v 3) (.t 44)) (kX 4 (.mv (.t 57)) .done) .wnil))) .wnil) .wnil))))))))))))))
def c_lbeg (ι:Ids):S:=
 kY [kR 1 (ι.t 288) 0,kC 2 (.pointer .none),.e (.v 3) (.new (ι.t 396) #[kZ,kZ,kZ,kZ,kZ,kZ,kZ]),kC 4 (.bool false)] (kY [kM 13 7 1,.e (.t 14) (.call (ι.f 300) [.t 13]),kF 12 14,kQ 15 12 0,kQ 16 12 1,kQ 17 12 2,kQ 18 12 3,.e (.v 5) (.new (ι.t 296) #[kZ,kZ,kZ,kZ,kZ]),.e (.v 7) (.new (ι.t 289) #[kZ,kZ,kZ,kZ,kZ]),.e .no (.stn 5 (.v 5) (.t 15)),kB 6 16,.e .no (.stn 5 (.v 7) (.t 17)),kB 8 18] (.seq (c_bgD ι) (kY [kM 27 5 5,kA 28 6,.e (.t 29) (.call (ι.f 391) [.t 27,.t 28]),kF 26 29,kQ 30 26 0,kQ 31 26 1,kB 10 30,kB 11 31] (.seq (kY [kM 32 7 9,.e (.t 33) (.call (ι.f 397) [.t 32]),kL 34 33,kV 35 (.cm .eql .i64 (.t 34) (.c (.int .i64 0)))] (.ite (.v 35) (.seq (c_bgN ι) .ret) .skip)) (.seq (c_bgR ι) .ret)))))
def r_lbeg:List RV:=[.t 2,.cn 3 7,.t 4]
variable {H H':Hp} {ms:List UInt64} {st:List Int} {α:Type} {k b p rb:Nat} {v:Value} {L l:List Value} {W:Nat->Prop} {F:FlN} {P:Program} {ι:Ids}
theorem SetsR.el {vs:List Value} (h:SetsR H vs ms):vs.length=(ms.map bt).length/\∀i<vs.length,SetM H (.agg #[vs.getD i undef]) ((ms.map bt).getD i fun _=>false):=by
 refine⟨by rw[List.length_map];exact h.len,fun i hi=>?_⟩
 have hi':i<ms.length:=by rw[<-h.len];exact hi
 have:=h.at_ i hi hi'
 rw[List.getD_eq_getElem?_getD,List.getElem?_eq_getElem hi,getD_map_bt,List.getD_eq_getElem?_getD,List.getElem?_eq_getElem hi']
 exact this
def zerS (r:RawF):List Int:=List.replicate (nuF r) 0
theorem zerS_okS (r:RawF):okS (mkF r).st.length (zerS r):=⟨by rw[mkF_len];simp[zerS],fun u hu=>by
 have:=List.eq_of_mem_replicate hu
 omega⟩
theorem elm_at (r:RawF) (k u:Nat) (h:elA (pbOf (mkF r) ((masksF r).map bt)) k u=true):1<=u/\u<=4:=by
 unfold elA pbOf at h
 rw[getD_map_bt]at h
 exact masksF_ok r k u h
theorem goodP_mk (r:RawF):GoodP (pbOf (mkF r) ((masksF r).map bt)):=by
 have hn:=nuF_lt r
 have hG:=mkF_good r
 have hl:=hG.lim
 unfold tooL at hl
 have e:(pbOf (mkF r) ((masksF r).map bt)).el.length=(mkF r).st.length:=by simp[pbOf,masksF_len,mkF_len]
 have e0:=mkF_len r
 refine⟨by omega,by omega,fun k u h=>by have:=elm_at r k u h;omega,?_,?_,?_,?_,?_,?_⟩
 ·show(mkF r).di.length<=20;omega
 ·show(mkF r).sa.length<=20;omega
 ·show(mkF r).mo.length<=20;omega
 ·rw[e];exact hG.di
 ·rw[e];exact hG.sa
 ·rw[e];exact hG.mo
theorem solB_mk (r:RawF) (h:okS (mkF r).st.length st):SolB (pbOf (mkF r) ((masksF r).map bt)) st:=by
 have e:(pbOf (mkF r) ((masksF r).map bt)).el.length=(mkF r).st.length:=by simp[pbOf,masksF_len,mkF_len]
 have hn:=nuF_lt r
 refine solB_small (goodP_mk r) ?_ ?_
 ·rw[e];exact h.U
 ·rw[e,mkF_len];omega
theorem smG_mk (r:RawF) (h:st.length=(mkF r).st.length):SmG (mkF r) (masksF r) st:=by
 have hn:=nuF_lt r
 have e:=mkF_len r
 exact⟨mkF_good r,by omega,by rw[masksF_len,mkF_len],h⟩
structure BegC (P:Program) (ι:Ids):Prop where
 mak:LMakfSpec P (ι.f 300)
 sta:EStartSpec P ι (ι.f 391)
 stf:EStaffSpec P (ι.f 379)
 cmp:RCmpSpec P (ι.f 397)
 eqI:IEqSpec P (ι.f 165)
theorem SlE.apart {enc:α->List Value} (he:∀a,∃x∈enc a,¬Mg.isSl x) {l:List α} (h:SlE enc k H v l) (B:Bl H b L) (hL:∀x∈L,Mg.isSl x):∀q,slB v q->q≠b:=by
 rintro q hq rfl
 rcases h with⟨a,c,rfl,_⟩|⟨b',o,c,hl,rfl,h0,C,T,z,h1,h2,h3⟩
 ·cases a<;>simp[slB]at hq
 ·obtain⟨rfl,_⟩:=hq
  obtain⟨T',h4⟩:=B
  rw[h1]at h4
  cases h4
  match l,hl with
  |a::l',_=>
   obtain⟨x,hxa,hxs⟩:=he a
   have hx:x∈(a::l').flatMap enc:=by rw[List.flatMap_cons];exact List.mem_append_left _ hxa
   rw[<-h3]at hx
   exact hxs (hL x (by simpa using List.mem_of_mem_drop (List.mem_of_mem_take hx)))
theorem SlR.apart (h:SlR H v l) (hl:∀x∈l,¬Mg.isSl x) (B:Bl H b L) (hL:∀x∈L,Mg.isSl x):∀q,slB v q->q≠b:=by
 rintro q hq rfl
 rcases h with⟨a,c,rfl,_⟩|⟨b',o,c,hne,rfl,h0,C,T,z,h1,h2,h3⟩
 ·cases a<;>simp[slB]at hq
 ·obtain⟨rfl,_⟩:=hq
  obtain⟨T',h4⟩:=B
  rw[h1]at h4
  cases h4
  match l,hne with
  |x::l',_=>
   have hx:x∈x::l':=List.mem_cons_self
   rw[<-h3]at hx
   exact hl x List.mem_cons_self (hL x (by simpa using List.mem_of_mem_drop (List.mem_of_mem_take hx)))
theorem encS_nsl (a:StN):∃x∈encS a,¬isSl x:=⟨.int .i64 a.2,by simp[encS],fun h=>h⟩
theorem pE_nsl (a:PrN):∃x∈pE a,¬isSl x:=⟨.int .i64 a.1,by simp[pE],fun h=>h⟩
theorem encM_nsl (a:MoN):∃x∈encM a,¬isSl x:=⟨.int .i64 a.1,by simp[encM],fun h=>h⟩
theorem encV_nsl (a:MV):∃x∈encV a,¬isSl x:=⟨.int .i64 a.1,by simp[encV],fun h=>h⟩
def SlW (H:Hp) (W:Nat->Prop):Prop:=∀p,W p->∃L,Bl H p L/\∀x∈L,isSl x
theorem SlW.one (B:Bl H p L) (hL:∀x∈L,isSl x):SlW H (fun q=>q=p):=fun q e=>⟨L,e▸B,hL⟩
theorem SlE.keepW {enc:α->List Value} (he:∀a,∃x∈enc a,¬Mg.isSl x) {l:List α} (h:SlE enc k H v l) (hW:SlW H W) (hk:Keep W H H'):SlE enc k H' v l:=
 h.keep hk fun q hq hw=>by
  obtain⟨L,B,hL⟩:=hW q hw
  exact h.apart he B hL q hq rfl
theorem SlR.keepW (hl:∀x∈l,¬Mg.isSl x) (h:SlR H v l) (hW:SlW H W) (hk:Keep W H H'):SlR H' v l:=
 h.keep hk fun q hq hw=>by
  obtain⟨L,B,hL⟩:=hW q hw
  exact h.apart hl B hL q hq rfl
theorem RefFl.keepW (h:RefFl H v F) (hW:SlW H W) (hk:Keep W H H'):RefFl H' v F:=by
 obtain⟨s,b,d,a,m,rfl,h1,h2,h3,h4,h5⟩:=h
 exact⟨s,b,d,a,m,rfl,h1.keepW encS_nsl hW hk,h2.keepW pE_nsl hW hk,h3.keepW pE_nsl hW hk,h4.keepW pE_nsl hW hk,h5.keepW encM_nsl hW hk⟩
theorem nil7_sl:∀x∈([.slice none 0 0,.slice none 0 0,.slice none 0 0,.slice none 0 0,.slice none 0 0,.slice none 0 0,.slice none 0 0]:List Value),isSl x:=by
 intro x hx
 simp only[List.mem_cons,List.not_mem_nil,or_false,or_self]at hx
 subst hx;trivial
theorem w64_nsl (l:List UInt64):∀x∈w64 l,¬isSl x:=by
 intro x hx
 simp only[w64,List.mem_map]at hx
 obtain⟨y,_,rfl⟩:=hx
 exact fun h=>h
theorem iL_nsl (l:List Int):∀x∈iL l,¬isSl x:=by
 intro x hx
 simp only[iL,List.mem_map]at hx
 obtain⟨y,_,rfl⟩:=hx
 exact fun h=>h
theorem SetM.keepW {x:Value} {p:Nat->Bool} (h:SetM H x p) (hW:SlW H W) (hk:Keep W H H'):SetM H' x p:=by
 obtain⟨v,Ws,rfl,hv⟩:=h
 exact SetM.keep ⟨v,Ws,rfl,hv⟩ hk fun q hq hw=>by
  obtain⟨L,B,hL⟩:=hW q hw
  exact hv.sl.apart (w64_nsl _) B hL q hq rfl
theorem RefRun.keepW (h:RefRun H v F ms st) (hW:SlW H W) (hk:Keep W H H'):RefRun H' v F ms st:=by
 obtain⟨s',b',d',a',m',ev',sv',rfl,h1,h2,h3⟩:=h
 exact⟨_,_,_,_,_,_,_,rfl,h1.keepW hW hk,h2.keepW (w64_nsl _) hW hk,h3.keepW (iL_nsl _) hW hk⟩
theorem ProFl.keepW (h:ProFl H v F) (hW:SlW H W) (hk:Keep W H H'):ProFl H' v F:=by
 obtain⟨s,b,d,a,m,ms,rfl,h1,h2,h3,h4,h5,h6⟩:=h
 exact⟨s,b,d,a,m,ms,rfl,h1.keepW encS_nsl hW hk,h2.keepW pE_nsl hW hk,h3.keepW pE_nsl hW hk,h4.keepW pE_nsl hW hk,h5.keepW encV_nsl hW hk,h6.len,fun i h1 h2=>⟨(h6.at_ i h1 h2).1,(h6.at_ i h1 h2).2.keepW hW hk⟩⟩
theorem RunV.keepW {el:List (Nat->Bool)} (h:RunV H rb F el st) (hA:RunA W H rb) (hW:SlW H W) (hk:Keep W H H'):RunV H' rb F el st:=by
 obtain⟨s,b,d,a,m,ev,sv,vs,h1,h2,h3,h4,h5,h6,h7⟩:=h
 obtain⟨a1,ev',a2,a3⟩:=hA
 have c5:cell H ⟨rb,5,none⟩=some ev:=by rw[h1.cell];rfl
 rw[c5]at a2
 cases a2
 exact⟨s,b,d,a,m,ev,sv,vs,hk.bl h1 a1,h2.keepW hW hk,h3.keep hk a3,h4,h5,fun i hi=>(h6 i hi).keepW hW hk,h7.keepW (iL_nsl _) hW hk⟩
theorem RunA.keepW {W':Nat->Prop} (h:RunA W H rb) (hl:rb<H.size) (hr:¬W' rb) (hk:Keep W' H H'):RunA W H' rb:=by
 obtain⟨a1,ev,a2,a3⟩:=h
 exact⟨a1,ev,by rw[hk.cell hl hr];exact a2,a3⟩
theorem RunV.away {el:List (Nat->Bool)} (h:RunV H rb F el st) (hn:0<el.length) {u:Nat} (hu:el.getD 0 (fun _=>false) u=true) (B:Bl H p L) (hL:∀x∈L,x=.slice none 0 0):RunA (fun q=>q=p) H rb:=by
 obtain⟨s,b,d,a,m,ev,sv,vs,h1,h2,h3,h4,h5,h6,h7⟩:=h
 have c5:cell H ⟨rb,5,none⟩=some ev:=by rw[h1.cell];rfl
 refine⟨?_,ev,c5,?_⟩
 ·rintro rfl
  obtain⟨T1,q1⟩:=h1
  obtain⟨T2,q2⟩:=B
  rw[q1]at q2
  have e: [s,b,d,a,m,ev,sv]=L:=by
   have:=congrArg (fun o:Option Obj=>match o with|some (.cells c _ _)=>c.toList|_=>[]) q2
   simpa using this
  have:=hL ev (by rw[<-e];simp)
  subst this
  rcases h3 with⟨_,_,_,e2⟩|⟨_,_,_,_,e2,_⟩
  ·rw[e2]at h4;simp at h4;omega
  ·cases e2
 ·rintro q hq rfl
  rcases h3 with⟨a',c',rfl,_⟩|⟨b',o,c',hne,rfl,h0,C,T,z,g1,g2,g3⟩
  ·cases a'<;>simp[slB]at hq
  ·obtain⟨rfl,_⟩:=hq
   obtain⟨T',g4⟩:=B
   rw[g1]at g4
   cases g4
   have hvl:0<vs.length:=by omega
   have hx:vs.getD 0 undef∈vs:=by rw[List.getD_eq_getElem?_getD,List.getElem?_eq_getElem hvl];exact List.getElem_mem _
   have hx2:vs.getD 0 undef∈(L.toArray.toList.drop o).take vs.length:=by rw[g3];exact hx
   have e:=hL (vs.getD 0 undef) (show _∈L from List.mem_of_mem_drop (List.mem_of_mem_take hx2))
   obtain⟨w,Ws,e2,hV⟩:=h6 0 hvl
   rw[e]at e2
   cases e2
   rcases hV.sl with⟨_,_,_,e3⟩|⟨_,_,_,_,e3,_⟩
   ·have hw:Ws=[]:=by
     cases Ws with
     |nil=>rfl
     |cons y ys=>simp[w64]at e3
    subst hw
    have:=hV.lt hu
    simp at this
   ·cases e3
theorem zer_new (A:Hp) (T:TypeId) (n:Nat):SlR (A.push (.cells (rep #[.int .i64 0] n) T)) (.slice (some ⟨A.size,0,none⟩) n n) (iL (List.replicate n 0)):=by
 have B:=Bl.new' A (rep #[.int .i64 0] n) T
 rw[rep_one,iL_rep]at B
 exact(OwS.new (n:=n) (c:=n) B (by simp[iL_len]) rfl).sl
theorem bgD_ok {f:Fr} {A:Hp} {b7 n un uc:Nat} {ua:Option Addr} {s b d a m:Value} {Qb:Ex->Fr->Hp->Prop} (h7:f 7=.pointer (some ⟨b7,0,none⟩)) (h8:f 8=.slice ua un uc) (B7:Bl A b7 [s,b,d,a,m]) (hs:isSl s) (hl:lenV s=n) (hn:n<=10) (h5:isSl s/\isSl b/\isSl d/\isSl a/\isSl m)
  (hK:∀A' b9 sv,Bl A' b9 [s,b,d,a,m,.slice ua un uc,sv]->SlR A' sv (iL (List.replicate n 0))->A.size<=b9->Keep (fun _=>False) A A'->Qb .n (upd f 9 (.pointer (some ⟨b9,0,none⟩))) A'):vc P (c_bgD ι) Qb f A:=by
 unfold c_bgD kW kZ
 have c0:cell A ⟨b7,0,none⟩=some s:=by rw[B7.cell];rfl
 have lt:=B7.lt
 have bnd:(0:Int)<=(n:Int)/\8*(n:Int)<=281474976710656/\(n:Int)<=(maxLen:Int):=⟨by omega,by omega,by unfold maxLen;omega⟩
 have fin:∀(A2:Hp) (b9 bz:Nat),Bl A2 b9 [.slice none 0 0,.slice none 0 0,.slice none 0 0,.slice none 0 0,.slice none 0 0,.slice none 0 0,.slice none 0 0]->SlR A2 (.slice (some ⟨bz,0,none⟩) n n) (iL (List.replicate n 0))->bz≠b9->A.size<=b9->Keep (fun _=>False) A A2→
   (okNA A2 ⟨b9,0,none⟩ 7/\all1 #[s,b,d,a,m,.slice ua un uc,.slice (some ⟨bz,0,none⟩) n n])/\Keep (fun q=>A.size<=q) A2 (stNA A2 ⟨b9,0,none⟩ [s,b,d,a,m,.slice ua un uc,.slice (some ⟨bz,0,none⟩) n n])/\Qb .n (upd f 9 (.pointer (some ⟨b9,0,none⟩))) (stNA A2 ⟨b9,0,none⟩ [s,b,d,a,m,.slice ua un uc,.slice (some ⟨bz,0,none⟩) n n]):=fun A2 b9 bz B9 Z hne h9 K=>by
  have K9:Keep (fun q=>q=b9) A2 (stNA A2 ⟨b9,0,none⟩ [s,b,d,a,m,.slice ua un uc,.slice (some ⟨bz,0,none⟩) n n]):=(Keep.refl _ _).stNA _ (.inl rfl)
  refine⟨⟨B9.okNA (o:=0) (n:=7) (by simp),all1_of (sl7 h5 trivial trivial)⟩,K9.mono fun q _ e=>by omega,hK _ b9 _ (B9.stNA 0 _) (Z.keep K9 fun q hq e=>?_) h9 (K.trans' K9 fun q hq e=>by omega)⟩
  exact hne (hq.1.symm.trans e)
 have Kp:∀(X:Hp) (T:TypeId) (y:Array Value),Keep (fun _=>False) X (X.push (.cells y T)):=fun X T y=>(Keep.refl _ _).push _
 refine vc_drk (fun q=>A.size<=q) ?_
 simp-implicitDefEqProofs only[go_sem,↓reduceIte,Za,Zb,Zc,reduceCtorEq,Zf,Zg,Zh,Zi,Zd,Ze,h7,h8,B7.ldNO 5 rfl,c0,hs,hl,wrA7]
 refine⟨by omega,by omega,⟨bnd,(Kp _ _ _).any,(Kp _ _ _).any,?_⟩,(Kp _ _ _).any,bnd,(Kp _ _ _).any,?_⟩
 ·exact fin _ _ _ (Bl.new' _ _ _) ((zer_new A (ι.t 26) n).keep (Kp _ _ _) (by simp)) (by simp) (by simp) ((Kp _ _ _).trans (Kp _ _ _))
 ·exact fin _ _ _ ((Kp _ _ _).bl (Bl.new' _ _ _) (by simp)) (zer_new _ (ι.t 26) n) (by simp) (by simp) ((Kp _ _ _).trans (Kp _ _ _))
def BegQ (r:RawF) (H:Hp) (x:Value) (H':Hp):Prop:=∃rp sv,x=.tuple #[rp,sv,.bool true]/\RefRun H' sv (mkF r) (masksF r) (zerS r)/\Keep (fun _=>False) H H'∧
 ((cmpV (mkF r) (masksF r) (zerS r)=[]/\rp=.pointer none)\/(cmpV (mkF r) (masksF r) (zerS r)≠[]/\∃rb,rp=.pointer (some ⟨rb,0,none⟩)/\RunV H' rb (mkF r) ((masksF r).map bt) (zerS r)))
def LBegSpec (P:Program) (ι:Ids) (k:FuncId):Prop:=∀(r:RawF) (v:Value) (H:Hp),TabOk ι H->RawFV H v r->CallsM P k #[v] H (BegQ r H)
theorem lbeg_ok {k : FuncId} (hk : FnIs P k (c_lbeg ι) r_lbeg 1) (c : BegC P ι) : LBegSpec P ι k := by
  intro r v H hT hv
  obtain ⟨Q, hQ⟩ : ∃ Q : Value -> Hp -> Prop, Q = BegQ r H := ⟨_, rfl⟩
  rw [<- hQ]
  have hvr := hv
  obtain ⟨h0, ro, be, di, sa, mo, el, rfl, _⟩ := hv
  refine calls_of_vc hk (args := [_]) (by simp) ?_
  unfold c_lbeg r_lbeg kA kB kF kC kL kM kQ kR kV kY kZ
  simp -implicitDefEqProofs only [go_sem, ↓reduceIte, Za, Zb, Zc, reduceCtorEq]
  refine kont_new fun H1 b1 e1 z1 B1 K1 => ?_
  have B1' : Bl H1 b1 [.int .u8 (r.n : Int), ro, be, di, sa, mo, el] := B1
  simp -implicitDefEqProofs only [go_sem, ↓reduceIte, Za, Zb, Zc, reduceCtorEq]
  refine kont_new fun H2 b3 e2 z2 B2 K2 => ?_
  have B2' : Bl H2 b3 [.slice none 0 0, .slice none 0 0, .slice none 0 0, .slice none 0 0, .slice none 0 0, .slice none 0 0, .slice none 0 0] := B2
  have K02 := K1.trans K2
  have B12 := K2.bl B1' (by simp)
  simp -implicitDefEqProofs only [go_sem, ↓reduceIte, Za, Zb, Zc, reduceCtorEq, B12.ldNO 7 rfl]
  refine (c.mak r _ H2 (RawFV.keep0 hvr K02)).mono ?_
  rintro x H3 ⟨fv, lv, mv, uv, rfl, hP, hL, hM, hU, K3⟩
  have K03 := K02.trans K3
  have hP := hP.fl
  have hP0 := hP
  have hM0 := hM
  obtain ⟨s, b, d, a, m, ms, rfl, _⟩ := hP
  obtain ⟨s', b', d', a', m', rfl, _⟩ := hM
  rw [kont_eq]
  simp -implicitDefEqProofs only [go_sem, ↓reduceIte, Za, Zb, Zc, reduceCtorEq]
  refine kont_new fun H4 b5 e4 z4 B4 K4 => ?_
  have B4' : Bl H4 b5 [.slice none 0 0, .slice none 0 0, .slice none 0 0, .slice none 0 0, .slice none 0 0] := B4
  simp -implicitDefEqProofs only [go_sem, ↓reduceIte, Za, Zb, Zc, reduceCtorEq]
  refine kont_new fun H5 b7 e5 z5 B5 K5 => ?_
  have B5' : Bl H5 b7 [.slice none 0 0, .slice none 0 0, .slice none 0 0, .slice none 0 0, .slice none 0 0] := B5
  have s4 := K4.size
  have s5 := K5.size
  have B45 := K5.bl B4' (by simp)
  have t4 := B45.okNA (o := 0) (n := 5) (by simp)
  have C5 := B45.stNA 0 [s, b, d, a, m]
  have L1 : Keep (fun q => q = b5) H5 (stNA H5 ⟨b5, 0, none⟩ [s, b, d, a, m]) := (Keep.refl _ _).stNA _ (.inl rfl)
  have D7 := L1.bl B5' (by omega)
  have t7 := D7.okNA (o := 0) (n := 5) (by simp)
  have C7 := D7.stNA 0 [s', b', d', a', m']
  have L2 : Keep (fun q => q = b7) (stNA H5 ⟨b5, 0, none⟩ [s, b, d, a, m]) (stNA (stNA H5 ⟨b5, 0, none⟩ [s, b, d, a, m]) ⟨b7, 0, none⟩ [s', b', d', a', m']) := (Keep.refl _ _).stNA _ (.inl rfl)
  have D5 := L2.bl C5 (by omega)
  have ha : all1 #[s, b, d, a, m] := hP0.all1
  have ha' : all1 #[s', b', d', a', m'] := hM0.all1
  simp -implicitDefEqProofs only [go_sem, ↓reduceIte, Za, Zb, Zc, reduceCtorEq, t4, t7]
  refine ⟨ha, ?_⟩
  rw [kont_eq]
  simp -implicitDefEqProofs only [go_sem, ↓reduceIte, Za, Zb, Zc, reduceCtorEq, t7]
  refine ⟨ha', ?_⟩
  generalize stNA (stNA H5 ⟨b5, 0, none⟩ [s, b, d, a, m]) ⟨b7, 0, none⟩ [s', b', d', a', m'] = H6 at L2 D5 C7 ⊢
  have K36 : Keep (fun _ => False) H3 H6 := ((K4.trans K5).trans' L1 fun q hq h => by omega).trans' L2 fun q hq h => by omega
  have K06 := K03.trans K36
  have C5' : Bl H6 b5 [s, b, d, a, m] := D5
  have C7' : Bl H6 b7 [s', b', d', a', m'] := C7
  have p6 := hP0.keep0 K36
  have m6 := hM0.keep0 K36
  have B26 := (K3.trans K36).bl B2' (by simp)
  have hT6 := hT.keep K06
  have hok := mkF_ok r
  have hnu := nuF_lt r
  have hml := mkF_len r
  obtain ⟨ua, uc, rfl, -⟩ := hU.mk
  have m5 := hM0.sl5
  have lm : lenV s' = nuF r := by
    obtain ⟨q1, q2, q3, q4, q5, e, h1, _⟩ := hM0
    cases e
    rw [h1.len, hml]
  rw [kont_eq]
  simp -implicitDefEqProofs only [go_sem, ↓reduceIte, Za, Zb, Zc, reduceCtorEq]
  refine bgD_ok (n := nuF r) (b7 := b7) (ua := ua) (un := (w64 (masksF r)).length) (uc := uc) (by rfl) (by rfl) C7' m5.1 lm (by omega) m5 fun H7 b9 sv B9 Z9 h9 K7 => ?_
  have K07 := K06.trans K7
  have C57 := K7.bl C5' (by simp)
  have B27 := K7.bl B26 (by simp)
  have R9 : RefRun H7 (.agg #[s', b', d', a', m', .slice ua (w64 (masksF r)).length uc, sv]) (mkF r) (masksF r) (zerS r) := ⟨_, _, _, _, _, _, _, rfl, m6.keep0 K7, (hU.keep K36 (by simp)).keep K7 (by simp), Z9⟩
  simp -implicitDefEqProofs only [go_sem, ↓reduceIte, Za, Zb, Zc, reduceCtorEq, C57.ldNO 5 rfl]
  obtain ⟨vs, OL, RL, -, -⟩ := hL
  have RL7 := (RL.keep0 K36).keep0 K7
  obtain ⟨e1, e2⟩ := RL7.el
  have hel : ((masksF r).map bt).length = (mkF r).st.length := by rw [List.length_map, masksF_len, hml]
  refine (c.sta (mkF r) ((masksF r).map bt) vs _ lv H7 (hT.keep K07) (p6.keep0 K7) ((OL.sl.keep K36 (by simp)).keep K7 (by simp)) e1 (by omega) e2 fun _ _ _ => ⟨goodP_mk r, ?_, ?_⟩).mono ?_
  · rw [hel, hml]; exact solB_mk r (zerS_okS r)
  · have := (mkF_good r).lim
    unfold tooL at this; omega
  rintro x H8 ⟨K8, hx⟩
  have hx : (solF (pbOf (mkF r) ((masksF r).map bt)) (zerS r) = none /\ x = .tuple #[.pointer none, .int .i64 12]) ∨
        ((solF (pbOf (mkF r) ((masksF r).map bt)) (zerS r)).isSome = true /\ ∃ rb, x = .tuple #[.pointer (some ⟨rb, 0, none⟩), .int .i64 0] /\ RunV H8 rb (mkF r) ((masksF r).map bt) (zerS r)) := by
    have f0 := okF_iff.1 hok
    have ez : List.replicate ((masksF r).map bt).length (0 : Int) = zerS r := by rw [hel, hml]; rfl
    rw [ez] at hx
    rcases hx with ⟨h, _⟩ | ⟨_, h, _⟩ | ⟨_, _, ⟨i, hi, hb⟩, _⟩ | ⟨_, _, _, h⟩
    · exact absurd f0 h
    · exact absurd hel h
    · obtain ⟨u, hu, hu2⟩ := hb
      rw [getD_map_bt] at hu
      have := masksF_ok r i u hu
      omega
    · exact h
  have K08 := K07.trans K8
  have B28 := K8.bl B27 (by simp)
  have B98 := K8.bl B9 (by simp)
  rw [sol_cmp (zerS_okS r).1 (masksF_ok r)] at hx
  rw [kont_eq]
  have e00 : ((0 : Int) == 0) = true := rfl
  have e12 : ((12 : Int) == 12) = true := rfl
  rcases hx with ⟨hs0, rfl⟩ | ⟨hs1, rb, rfl, hR⟩
  · have hc0 : cmpV (mkF r) (masksF r) (zerS r) = [] := by
      cases h : cmpV (mkF r) (masksF r) (zerS r) with
      | nil => rfl
      | cons a l => rw [h] at hs0; cases hs0
    simp -implicitDefEqProofs only [go_sem, ↓reduceIte, Za, Zb, Zc, reduceCtorEq, B98.ldNO 7 rfl]
    refine (c.cmp (mkF r) (masksF r) (zerS r) _ H8 (R9.keep0 K8) (smG_mk r (zerS_okS r).1)).mono ?_
    rintro y H9 ⟨⟨ws, O9, R9l, -, -⟩, K9⟩
    have l9 := R9l.len
    rw [hc0, List.length_nil] at l9
    have B29 := K9.bl B28 (by simp)
    have B99 := K9.bl B98 (by simp)
    have K89 := K8.trans K9
    rw [kont_eq]
    have t3 := B29.okNA (o := 0) (n := 7) (by simp)
    have a7 : all1 #[s', b', d', a', m', .slice ua (w64 (masksF r)).length uc, sv] := all1_of (sl7 m5 trivial Z9.isSl)
    simp -implicitDefEqProofs only [go_sem, ↓reduceIte, Za, Zb, Zc, reduceCtorEq, O9.sl.isSl, O9.sl.len, l9, Int.natCast_zero, e00]
    unfold c_bgN kW kX
    refine vc_drk (fun q => q = b3) ?_
    simp -implicitDefEqProofs only [go_sem, ↓reduceIte, Za, Zb, Zc, reduceCtorEq, kont_eq, B99.ldNO 7 rfl, e12, t3]
    have C3 : Bl (stNA H9 ⟨b3, 0, none⟩ [s', b', d', a', m', .slice ua (w64 (masksF r)).length uc, sv]) b3 [s', b', d', a', m', .slice ua (w64 (masksF r)).length uc, sv] := B29.stNA 0 [s', b', d', a', m', .slice ua (w64 (masksF r)).length uc, sv]
    have KS : Keep (fun q => q = b3) H9 (stNA H9 ⟨b3, 0, none⟩ [s', b', d', a', m', .slice ua (w64 (masksF r)).length uc, sv]) := (Keep.refl _ _).stNA _ (.inl rfl)
    have s1 := K1.size
    have s2 := K2.size
    have s3 := (K3.trans K36).size
    have KF : Keep (fun _ => False) H (stNA H9 ⟨b3, 0, none⟩ [s', b', d', a', m', .slice ua (w64 (masksF r)).length uc, sv]) := (K08.trans K9).trans' KS fun q hq e => by omega
    have KF7 : Keep (fun q => q = b3) H7 (stNA H9 ⟨b3, 0, none⟩ [s', b', d', a', m', .slice ua (w64 (masksF r)).length uc, sv]) := (K89.mono fun _ _ h => h.elim).trans KS
    rw [C3.ldNO 7 rfl]
    refine ⟨by omega, a7, KS, rfl, ?_⟩
    rw [hQ]
    exact ⟨_, _, rfl, (R9.keep0 K89).keepW (SlW.one B29 nil7_sl) KS, KF, .inl ⟨hc0, rfl⟩⟩
  · have hc0 : cmpV (mkF r) (masksF r) (zerS r) ≠ [] := fun h => by rw [h] at hs1; cases hs1
    obtain ⟨cl, hcl⟩ : ∃ cl, (cmpV (mkF r) (masksF r) (zerS r)).length = cl + 1 := by
      cases h : cmpV (mkF r) (masksF r) (zerS r) with
      | nil => exact absurd h hc0
      | cons a l => exact ⟨l.length, rfl⟩
    simp -implicitDefEqProofs only [go_sem, ↓reduceIte, Za, Zb, Zc, reduceCtorEq, B98.ldNO 7 rfl]
    refine (c.cmp (mkF r) (masksF r) (zerS r) _ H8 (R9.keep0 K8) (smG_mk r (zerS_okS r).1)).mono ?_
    rintro y H9 ⟨⟨ws, O9, R9l, -, -⟩, K9⟩
    have l9 := R9l.len
    rw [hcl] at l9
    have B29 := K9.bl B28 (by simp)
    have B99 := K9.bl B98 (by simp)
    have K89 := K8.trans K9
    have R9' := R9.keep0 K89
    have hR9 := hR.keep0 K9
    rw [kont_eq]
    have t3 := B29.okNA (o := 0) (n := 7) (by simp)
    have a7 : all1 #[s', b', d', a', m', .slice ua (w64 (masksF r)).length uc, sv] := all1_of (sl7 m5 trivial Z9.isSl)
    have d0 : (((cl + 1 : Nat) : Int) == 0) = false := by rw [beq_eq_false_iff_ne]; omega
    have c6 : cell H9 ⟨b9, 6, none⟩ = some sv := by rw [B99.cell]; rfl
    simp -implicitDefEqProofs only [go_sem, ↓reduceIte, Za, Zb, Zc, reduceCtorEq, O9.sl.isSl, O9.sl.len, l9, d0]
    unfold c_bgR kW kX
    refine vc_drk (fun q => q = b3) ?_
    simp -implicitDefEqProofs only [go_sem, ↓reduceIte, Za, Zb, Zc, reduceCtorEq, kont_eq, B99.ldNO 7 rfl, e00, c6]
    have hzl : (zerS r).length = nuF r := by simp [zerS]
    have s1 := K1.size
    have s2 := K2.size
    have s3 := (K3.trans K36).size
    have l3 := B2'.lt
    refine ⟨by omega, by omega, (c.stf.1 _ _ _ rb H9 hR9 (by omega)).mono ?_⟩
    rintro y2 H10 ⟨O10, o10, K10⟩
    rw [kontK_eq]
    refine ⟨K10.any, ?_⟩
    have B210 := K10.bl B29 (by simp)
    have B910 := K10.bl B99 (by simp)
    have t3' := B210.okNA (o := 0) (n := 7) (by simp)
    have K0X := (K08.trans K9).trans K10
    simp -implicitDefEqProofs only [go_sem, ↓reduceIte, Za, Zb, Zc, reduceCtorEq, kont_eq, t3']
    refine (c.eqI (zerS r) (zerS r) y2 sv H10 O10.sl ((Z9.keep K89 (by simp)).keep K10 (by simp)) (by omega)).mono ?_
    rintro y3 H11 ⟨rfl, rfl⟩
    rw [kontK_eq]
    refine ⟨Keep.refl _ _, ?_⟩
    have hd : decide (zerS r = zerS r) = true := decide_eq_true rfl
    simp -implicitDefEqProofs only [go_sem, ↓reduceIte, Za, Zb, Zc, reduceCtorEq, kont_eq, t3', hd]
    have C3 : Bl (stNA H11 ⟨b3, 0, none⟩ [s', b', d', a', m', .slice ua (w64 (masksF r)).length uc, sv]) b3 [s', b', d', a', m', .slice ua (w64 (masksF r)).length uc, sv] := B210.stNA 0 [s', b', d', a', m', .slice ua (w64 (masksF r)).length uc, sv]
    have KS : Keep (fun q => q = b3) H11 (stNA H11 ⟨b3, 0, none⟩ [s', b', d', a', m', .slice ua (w64 (masksF r)).length uc, sv]) := (Keep.refl _ _).stNA _ (.inl rfl)
    have KF : Keep (fun _ => False) H (stNA H11 ⟨b3, 0, none⟩ [s', b', d', a', m', .slice ua (w64 (masksF r)).length uc, sv]) := K0X.trans' KS fun q hq e => by omega
    rw [C3.ldNO 7 rfl]
    refine ⟨a7, KS, rfl, ?_⟩
    rw [hQ]
    obtain ⟨t, ht⟩ : ∃ t, t ∈ cmpV (mkF r) (masksF r) (zerS r) := by
      cases h : cmpV (mkF r) (masksF r) (zerS r) with
      | nil => exact absurd h hc0
      | cons a l => exact ⟨a, List.mem_cons_self⟩
    have hu := (cmp_at ht (k := 0) (by omega)).2.2
    have hW : SlW H11 (fun q => q = b3) := SlW.one B210 nil7_sl
    have hRX := hR9.keep0 K10
    have hA : RunA (fun q => q = b3) H11 rb := hRX.away (by omega) (u := (t.getD 0 0).toNat) (by rw [getD_map_bt]; exact hu) B210 (fun x hx => by
      simp only [List.mem_cons, List.not_mem_nil, or_false, or_self] at hx
      exact hx)
    exact ⟨_, _, rfl, (R9'.keep0 K10).keepW hW KS, KF, .inr ⟨hc0, rb, rfl, hRX.keepW hA hW KS⟩⟩
end Go.Mg
namespace Go.Mg
open Go Go.RowKit
set_option linter.all false
set_option maxRecDepth 100000
def c_gaT (ι:Ids):S:=
 (.seq (kY [kA 56 13,kA 57 14,kU 58 (.cm .neq .i64 (.t 56) (.t 57)),kF 59 58,kS 60 59 false 12,kT 61 59 false (.m (.eqn .ptr false (.t 60))),kS 62 59 false 13,kT 63 59 false (.cm .neq .i64 (.t 62) (.c (.int .i64 0))),kT 64 59 false (.eqb true (.t 61) (.t 63)),kV 65 (.pick (.t 59) (.c (.bool true)) (.t 64))] (.ite (.v 65) (kY [kA 66 0,kM 67 7 4,kB 6 66,.e .no (.stn 7 (.v 7) (.t 67)),kC 8 (.bool false)] .ret) .skip)) (.seq (kY [kA 68 13,kV 69 (.cm .neq .i64 (.t 68) (.c (.int .i64 0)))] (.ite (.v 69) (kY [kA 70 0,kM 71 7 4,kB 6 70,.e .no (.stn 7 (.v 7) (.t 71)),kC 8 (.bool true)] .ret) .skip)) (kY [kA 72 12,kM 73 7 4,kA 74 9,kA 75 10,.e (.t 76) (.call (ι.f 399) [.t 73,.t 74,.t 75]),kB 6 72,.e .no (.stn 7 (.v 7) (.t 76)),kC 8 (.bool true)] .ret)))
def c_gaC (ι:Ids):S:=
 (kY [kA 47 9,kG 48 6 4,kD 49 48,kL 50 49,kU 51 (.cm .geq .i64 (.t 47) (.t 50)),kF 52 51,kS 53 52 false 10,kT 54 52 false (.cm .lss .i64 (.t 53) (.c (.int .i64 1))),kV 55 (.pick (.t 52) (.c (.bool true)) (.t 54))] (.ite (.v 55) (.reg [kC 14 (.int .i64 1)]) .skip))
def c_lgra (ι:Ids):S:=
 kY [kR 4 (ι.t 396) 1,kR 5 (ι.t 402) 2,kC 6 (.pointer .none),.e (.v 7) (.new (ι.t 396) #[kZ,kZ,kZ,kZ,kZ,kZ,kZ]),kC 8 (.bool false)] (kY [kG 15 0 5,kD 16 15,kU 17 (.dv .rem .u8 (.t 16) (.c (.int .u8 6))),kU 18 (.ii .i64 (.t 17)),kG 19 1 5,kD 20 19,kU 21 (.dv .rem .u8 (.t 20) (.c (.int .u8 6))),kU 22 (.ii .i64 (.t 21)),kB 9 18,kB 10 22] (kY [kM 23 7 4,kA 24 9,kA 25 10,.e (.t 26) (.call (ι.f 400) [.t 23,.t 24,.t 25]),kB 11 26] (kY [kA 28 0,kA 29 9,kA 30 10,.e (.t 31) (.call (ι.f 388) [.t 28,.t 29,.t 30]),kF 27 31,kQ 32 27 0,kQ 33 27 1,kB 12 32,kB 13 33] (.seq (kY [kA 34 0,kA 35 9,kA 36 10,.e (.t 37) (.call (ι.f 386) [.t 34,.t 35,.t 36]),kU 38 (.ii .i64 (.t 37)),kA 39 11,kV 40 (.cm .neq .i64 (.t 38) (.t 39))] (.ite (.v 40) (kY [kA 41 0,kM 42 7 4,kB 6 41,.e .no (.stn 7 (.v 7) (.t 42)),kC 8 (.bool false)] .ret) .skip)) (kY [.e (.t 43) (.bldF (ι.t 403) 1 6 [.c (.int .i64 0),.c (.int .i64 0),.c (.int .i64 7),.c (.int .i64 11),.c (.int .i64 12),.c (.int .i64 12)]),kA 44 11,kI 45 1 43 44,kD 46 45,kB 14 46] (.seq (c_gaC ι) (c_gaT ι)))))))
def r_lgra:List RV:=[.t 6,.cn 7 7,.t 8]
structure PlI (r:RawF) (H:Hp) (rb:Nat) (sv:Value) (st:List Int):Prop where
 run:RunV H rb (mkF r) ((masksF r).map bt) st
 ref:RefRun H sv (mkF r) (masksF r) st
 ok:okS (mkF r).st.length st
 ne:cmpV (mkF r) (masksF r) st≠[]
 ord:ordB (mkF r).be st=true
variable {r:RawF} {rb:Nat} {sv:Value} {st:List Int} {P:Program} {ι:Ids}
theorem PlI.keep0 {H H':Hp} (h:PlI r H rb sv st) (hk:Keep (fun _=>False) H H'):PlI r H' rb sv st:=⟨h.run.keep0 hk,h.ref.keep0 hk,h.ok,h.ne,h.ord⟩
theorem mkF_le5 (r:RawF):(mkF r).st.length<=5:=by have:=nuF_lt r;rw[mkF_len];omega
theorem el_len (r:RawF):((masksF r).map bt).length=(mkF r).st.length:=by rw[List.length_map,masksF_len,mkF_len]
theorem rAskF_rng (F:FlN) (ms:List UInt64) (st:List Int) (step user:Int):rAskF F ms st step user=1\/rAskF F ms st step user=2\/rAskF F ms st step user=3\/rAskF F ms st step user=4\/rAskF F ms st step user=5:=by
 unfold rAskF
 split
 ·split
  ·simp
  ·split
   ·simp
   ·split<;>simp
 ·simp
theorem solB_set (r:RawF) (h:okS (mkF r).st.length st) (i:Nat) (u:Int) (hi:i<st.length) (hu:memI (((masksF r).map bt).getD i fun _=>false) u=true):SolB (pbOf (mkF r) ((masksF r).map bt)) (st.set i u):=by
 rw[getD_map_bt]at hu
 have:=(memI_ms (masksF_ok r) i u).1 hu
 exact solB_mk r (h.set (by omega))
def LGraSpec (P:Program) (ι:Ids) (k:FuncId):Prop:=∀(r:RawF) (st:List Int) (rb:Nat) (sv:Value) (a1 a2:UInt8) (H:Hp),TabOk ι H->PlI r H rb sv st→
 CallsM P k #[.pointer (some ⟨rb,0,none⟩),sv,.agg #[.int .u8 a1.toNat,.int .u8 a2.toNat]] H fun x H'=>∃rb' sv' st',x=.tuple #[.pointer (some ⟨rb',0,none⟩),sv',.bool true]/\PlI r H' rb' sv' st'/\Keep (fun _=>False) H H'/\∀W:Nat->Prop,(∀q,W q->q<H.size)->RunA W H rb->RunA W H' rb'
structure GraC (P:Program) (ι:Ids):Prop where
 ask:RAskSpec P (ι.f 400)
 wth:RWthSpec P (ι.f 399)
 gra:EGraSpec P ι (ι.f 388)
 eas:EAskSpec P ι (ι.f 386)
theorem gaT_ok (c:GraC P ι) {f:Fr} {A:Hp} {b4 b7:Nat} {step user e:Int} {nx s b d a m ev:Value} {Q:Value->Hp->Prop}
  (f0:f 0=.pointer (some ⟨rb,0,none⟩)) (f4:f 4=.pointer (some ⟨b4,0,none⟩)) (f7:f 7=.pointer (some ⟨b7,0,none⟩)) (f9:f 9=.int .i64 step) (f10:f 10=.int .i64 user) (f12:f 12=nx) (f13:f 13=.int .i64 e) (f14:f 14=.int .i64 e)
  (B4:Bl A b4 [s,b,d,a,m,ev,sv]) (B7:Bl A b7 [.slice none 0 0,.slice none 0 0,.slice none 0 0,.slice none 0 0,.slice none 0 0,.slice none 0 0,.slice none 0 0]) (hI:PlI r A rb (.agg #[s,b,d,a,m,ev,sv]) st) (hA:RunA (fun q=>q=b7) A rb)
  (hcase:(e≠0/\nx=.pointer none)\/(e=0/\∃(j rb':Nat),step=(j:Int)/\nx=.pointer (some ⟨rb',0,none⟩)/\RunV A rb' (mkF r) ((masksF r).map bt) (st.set j user)/\j<st.length/\okS (mkF r).st.length (st.set j user)/\cmpV (mkF r) (masksF r) (st.set j user)≠[]/\RunA (fun q=>q=b7) A rb'/\ordB (mkF r).be (st.set j user)=true))
  (hK:∀A' rb' sv' st',PlI r A' rb' sv' st'->Keep (fun q=>q=b7) A A'->(∀W,RunA W A rb->(∀rbn,nx=.pointer (some ⟨rbn,0,none⟩)->RunA W A rbn)->RunA W A' rb')->Q (.tuple #[.pointer (some ⟨rb',0,none⟩),sv',.bool true]) A'):vc P (c_gaT ι) (retQ [.t 6,.cn 7 7,.t 8] Q) f A:=by
 unfold c_gaT kA kB kF kC kM kS kT kU kV kY
 have e00:((0:Int)!=0)=false:=rfl
 have ee:(e !=e)=false:=by simp
 have hW:SlW A (fun q=>q=b7):=SlW.one B7 nil7_sl
 have hlt:=hI.run.lt
 rcases hcase with⟨he,rfl⟩|⟨rfl,j,rb',rfl,rfl,hR',hj,hok',hne',hA',hord'⟩
 ·have e0:(e !=0)=true:=bne_iff_ne.2 he
  have ref0:=hI.ref
  obtain⟨s1,b1,d1,a1,m1,ev1,sv1,eq,q1,q2,q3⟩:=hI.ref
  cases eq
  have a7:all1 #[s,b,d,a,m,ev,sv]:=all1_of (sl7 q1.sl5 q2.isSl q3.isSl)
  have t7:=B7.okNA (o:=0) (n:=7) (by simp)
  simp only[go_sem,Za,Zb,f0,f4,f7,f12,f13,f14,e0,ee,B4.ldNO 7 rfl,t7]
  refine⟨a7,?_⟩
  have C7:Bl (stNA A ⟨b7,0,none⟩ [s,b,d,a,m,ev,sv]) b7 [s,b,d,a,m,ev,sv]:=B7.stNA 0 [s,b,d,a,m,ev,sv]
  have KS:Keep (fun q=>q=b7) A (stNA A ⟨b7,0,none⟩ [s,b,d,a,m,ev,sv]):=(Keep.refl _ _).stNA _ (.inl rfl)
  rw[kont_eq]
  simp only[go_sem,Za,Zb,kont_eq,f7,C7.ldNO 7 rfl]
  exact hK _ rb _ st ⟨hI.run.keepW hA hW KS,ref0.keepW hW KS,hI.ok,hI.ne,hI.ord⟩ KS fun W h1 _=>h1.keepW hlt hA.1 KS
 ·have hlt':=hR'.lt
  simp only[go_sem,Za,Zb,f4,f7,f9,f10,f12,f13,f14,e00,ee,B4.ldNO 7 rfl]
  refine(c.wth (mkF r) (masksF r) st j user _ A hI.ref (by have:=hI.ok.1;have:=mkF_le5 r;omega) hj).mono ?_
  rintro y A1 ⟨hy,K1⟩
  have hy0:=hy
  obtain⟨s1,b1,d1,a1,m1,ev1,sv1,rfl,q1,q2,q3⟩:=hy
  have B71:=K1.bl B7 (by simp)
  have t7:=B71.okNA (o:=0) (n:=7) (by simp)
  have a7:all1 #[s1,b1,d1,a1,m1,ev1,sv1]:=all1_of (sl7 q1.sl5 q2.isSl q3.isSl)
  have hW1:SlW A1 (fun q=>q=b7):=SlW.one B71 nil7_sl
  rw[kont_eq]
  simp only[go_sem,Za,Zb,f7,t7]
  refine⟨a7,?_⟩
  have C7:Bl (stNA A1 ⟨b7,0,none⟩ [s1,b1,d1,a1,m1,ev1,sv1]) b7 [s1,b1,d1,a1,m1,ev1,sv1]:=B71.stNA 0 [s1,b1,d1,a1,m1,ev1,sv1]
  have KS:Keep (fun q=>q=b7) A1 (stNA A1 ⟨b7,0,none⟩ [s1,b1,d1,a1,m1,ev1,sv1]):=(Keep.refl _ _).stNA _ (.inl rfl)
  rw[kont_eq]
  simp only[go_sem,Za,Zb,kont_eq,f7,C7.ldNO 7 rfl]
  have s1':=K1.size
  refine hK _ rb' _ (st.set j user) ⟨(hR'.keep0 K1).keepW (hA'.keep0 hlt' K1) hW1 KS,hy0.keepW hW1 KS,hok',hne',hord'⟩ (K1.any.trans KS) fun W _ h2=>?_
  exact((h2 rb' rfl).keep0 hlt' K1).keepW (by omega) hA'.1 KS
theorem lgra_ok {k:FuncId} (hk:FnIs P k (c_lgra ι) r_lgra 3) (c:GraC P ι):LGraSpec P ι k:=by
 intro r st rb sv a1 a2 H hT hI
 obtain⟨Q,hQ⟩:∃Q:Value->Hp->Prop,Q=fun x H'=>∃rb' sv' st',x=.tuple #[.pointer (some ⟨rb',0,none⟩),sv',.bool true]/\PlI r H' rb' sv' st'/\Keep (fun _=>False) H H'/\∀W:Nat->Prop,(∀q,W q->q<H.size)->RunA W H rb->RunA W H' rb':=⟨_,rfl⟩
 rw[<-hQ]
 have hRr:=hI.ref
 obtain⟨s,b,d,a,m,ev,sw,rfl,q1,q2,q3⟩:=hI.ref
 refine calls_of_vc hk (args:=[_,_,_]) (by simp) ?_
 unfold c_lgra r_lgra kA kB kF kC kD kG kI kM kQ kR kU kV kY kZ
 simp only[go_sem,Za,Zb]
 refine kont_new fun H1 b4 e1 z1 B1 K1=>?_
 have B1':Bl H1 b4 [s,b,d,a,m,ev,sw]:=B1
 simp only[go_sem,Za,Zb]
 refine kont_new fun H2 b5 e2 z2 B2 K2=>?_
 have B2':Bl H2 b5 [.int .u8 a1.toNat,.int .u8 a2.toNat]:=B2
 simp only[go_sem,Za,Zb]
 refine kont_new fun H3 b7 e3 z3 B3 K3=>?_
 have B3':Bl H3 b7 [.slice none 0 0,.slice none 0 0,.slice none 0 0,.slice none 0 0,.slice none 0 0,.slice none 0 0,.slice none 0 0]:=B3
 have K03:=(K1.trans K2).trans K3
 have B13:=(K2.trans K3).bl B1' (by simp)
 have B23:=K3.bl B2' (by simp)
 have s1:=K1.size
 have s2:=K2.size
 have s3:=K3.size
 have c50:cell H3 ⟨b5,0,none⟩=some (.int .u8 a1.toNat):=by rw[B23.cell];rfl
 have c51:cell H3 ⟨b5,1,none⟩=some (.int .u8 a2.toNat):=by rw[B23.cell];rfl
 obtain⟨x1,hx1⟩:∃x:Nat,x=a1.toNat % 6:=⟨_,rfl⟩
 obtain⟨x2,hx2⟩:∃x:Nat,x=a2.toNat % 6:=⟨_,rfl⟩
 have m1:((a1.toNat:Int)).tmod 6=(x1:Int):=by rw[hx1];exact tmod_nat _ _
 have m2:((a2.toNat:Int)).tmod 6=(x2:Int):=by rw[hx2];exact tmod_nat _ _
 have w1:IntKind.i64.wrap (x1:Int)=(x1:Int):=IntWalk.i64_in _ (by omega)
 have w2:IntKind.i64.wrap (x2:Int)=(x2:Int):=IntWalk.i64_in _ (by omega)
 simp only[go_sem,Za,Zb,c50,c51,m1,m2,w1,w2,B13.ldNO 7 rfl]
 have h5:=mkF_le5 r
 have hsl:=hI.ok.1
 have hel:=el_len r
 have hok:=mkF_ok r
 refine⟨by decide,by decide,?_⟩
 refine(c.ask (mkF r) (masksF r) st (x1:Int) (x2:Int) _ H3 (hRr.keep0 K03) (smG_mk r hsl)).mono ?_
 rintro y H4 ⟨rfl,K4⟩
 have K04:=K03.trans K4
 rw[kont_eq]
 simp only[go_sem,Za,Zb]
 refine(c.gra.1 (mkF r) ((masksF r).map bt) st rb (x1:Int) (x2:Int) H4 (hT.keep K04) (hI.run.keep0 K04) hok (by omega) (goodP_mk r) (solB_set r hI.ok)).mono ?_
 rintro y H5 ⟨K5,hg⟩
 have K05:=K04.trans K5
 obtain⟨e,he⟩:∃e,e=graE (mkF r) ((masksF r).map bt) st (x1:Int) (x2:Int):=⟨_,rfl⟩
 rw[<-he]at hg
 have hg':∃nx,y=.tuple #[nx,.int .i64 e]/\((e≠0/\nx=.pointer none)\/(e=0/\∃rb',nx=.pointer (some ⟨rb',0,none⟩)/\RunV H5 rb' (mkF r) ((masksF r).map bt) (st.set x1 (x2:Int))/\∀W:Nat->Prop,(∀q,W q->q<H4.size)->RunA W H4 rb->RunA W H5 rb')):=by
  rcases hg with⟨h1,rfl⟩|⟨h1,rb',rfl,h2,h3⟩
  ·exact⟨_,rfl,.inl ⟨h1,rfl⟩⟩
  ·rw[h1];exact⟨_,rfl,.inr ⟨rfl,rb',rfl,h2,h3⟩⟩
 clear hg
 obtain⟨nx,rfl,hgg⟩:=hg'
 rw[kont_eq]
 simp only[go_sem,Za,Zb]
 refine(c.eas.1 (mkF r) ((masksF r).map bt) st rb (x1:Int) (x2:Int) H5 (hT.keep K05) (hI.run.keep0 K05) hok (by omega) (goodP_mk r) (solB_set r hI.ok)).mono ?_
 rintro y H6 ⟨rfl,K6⟩
 have K06:=K05.trans K6
 obtain⟨wn,hwn,hw1,hw5⟩:∃wn:Nat,rAskF (mkF r) (masksF r) st (x1:Int) (x2:Int)=(wn:Int)/\1<=wn/\wn<=5:=by
  rcases rAskF_rng (mkF r) (masksF r) st (x1:Int) (x2:Int)with h|h|h|h|h<;>rw[h]
  ·exact⟨1,rfl,by omega,by omega⟩
  ·exact⟨2,rfl,by omega,by omega⟩
  ·exact⟨3,rfl,by omega,by omega⟩
  ·exact⟨4,rfl,by omega,by omega⟩
  ·exact⟨5,rfl,by omega,by omega⟩
 have hask:askF (mkF r) ((masksF r).map bt) st (x1:Int) (x2:Int)=(wn:Int):=by rw[ask_ref hI.ok (by omega) (masksF_ok r),hwn]
 have ww:IntKind.i64.wrap (wn:Int)=(wn:Int):=IntWalk.i64_in _ (by omega)
 have dw:(((wn:Int))!=(wn:Int))=false:=by simp
 rw[kont_eq]
 simp only[go_sem,Za,Zb,hask,hwn,ww,dw]
 refine kont_news fun H7 bb e7 z7 B7 K7=>?_
 have B7':Bl H7 bb [.int .i64 0,.int .i64 0,.int .i64 7,.int .i64 11,.int .i64 12,.int .i64 12]:=B7
 obtain⟨tb,htb⟩:∃tb:Int,tb=([0,0,7,11,12,12]:List Int).getD wn 0:=⟨_,rfl⟩
 have cw:cell H7 ⟨bb,wn,none⟩=some (.int .i64 tb):=by
  rw[B7'.cell,htb]
  match wn,hw1,hw5 with
  |1,_,_=>rfl
  |2,_,_=>rfl
  |3,_,_=>rfl
  |4,_,_=>rfl
  |5,_,_=>rfl
 have K07:=K06.trans K7
 have K37:=((K4.trans K5).trans K6).trans K7
 have B17:=K37.bl B13 (by simp)
 have B37:=K37.bl B3' (by simp)
 have c6:cell H7 ⟨b4,6,none⟩=some sw:=by rw[B17.cell];rfl
 have gr:e=if(st.length:Int)<=(x1:Int)\/(x2:Int)<1 then 1 else tb:=by
  rw[he]
  unfold graE
  by_cases hc:(st.length:Int)<=(x1:Int)\/(x2:Int)<1
  ·rw[if_pos hc,if_pos (by omega)]
  ·rw[if_neg hc,if_neg (by omega),hask,htb]
   match wn,hw1,hw5 with
   |1,_,_=>rfl
   |2,_,_=>rfl
   |3,_,_=>rfl
   |4,_,_=>rfl
   |5,_,_=>rfl
 have hIx:PlI r H7 rb (.agg #[s,b,d,a,m,ev,sw]) st:=⟨hI.run.keep0 K07,hRr.keep0 K07,hI.ok,hI.ne,hI.ord⟩
 have hA7:RunA (fun q=>q=b7) H7 rb:=by
  obtain⟨y1,y2,y3,y4,y5,y6,y7,y8,g1,g2,g3,g4,g5,g6,g7⟩:=hI.run
  have lt:=g1.lt
  have:RunA (fun q=>q=b7) H rb:=⟨by omega,y6,by rw[g1.cell];rfl,fun q hq e=>by have:=g3.old hq;omega⟩
  exact this.keep0 lt K07
 have fin:∀g:Fr,g 0=.pointer (some ⟨rb,0,none⟩)->g 4=.pointer (some ⟨b4,0,none⟩)->g 7=.pointer (some ⟨b7,0,none⟩)->g 9=.int .i64 (x1:Int)->g 10=.int .i64 (x2:Int)->g 12=nx->g 13=.int .i64 e->g 14=.int .i64 e->vc P (c_gaT ι) (retQ [.t 6,.cn 7 7,.t 8] Q) g H7:=fun g g0 g4 g7 g9 g10 g12 g13 g14=>by
  refine gaT_ok c g0 g4 g7 g9 g10 g12 g13 g14 B17 B37 hIx hA7 ?_ fun A' rbn svn stn hP KK hW=>?_
  ·rcases hgg with h|⟨h0,rb',h1,h2,h3⟩
   ·exact .inl h
   ·have h1':rAskF (mkF r) (masksF r) st (x1:Int) (x2:Int)=1:=by
     rw[h0]at he
     have:=he.symm
     unfold graE at this
     split at this
     ·omega
     ·split at this
      ·next h=>rw[<-hask]at hwn;rw[hwn];exact h
      ·split at this
       ·omega
       ·split at this<;>omega
    obtain⟨j,hj,j1,j2,j3,j4,j5,j6,j7,j8⟩:=ask_1 hI.ok (by omega) h1'
    have:x1=j:=by omega
    subst this
    exact .inr ⟨h0,x1,rb',rfl,h1,(h2.keep0 K6).keep0 K7,by omega,j8,j7,((h3 _ (fun q hq=>by have:=B3'.lt;have:=K4.size;omega) (by
     obtain⟨y1,y2,y3,y4,y5,y6,y7,y8,g1,g2,g3,g4,g5,g6,g7⟩:=hI.run
     have lt:=g1.lt
     have:RunA (fun q=>q=b7) H rb:=⟨by omega,y6,by rw[g1.cell];rfl,fun q hq e=>by have:=g3.old hq;omega⟩
     exact this.keep0 lt K04)).keep0 h2.lt K6).keep0 (by have:=h2.lt;have:=K6.size;omega) K7,ord_set (fun x hx=>((mkF_good r).be x hx).1) hI.ok.1 (by omega) hI.ord j1 (by omega)⟩
  ·rw[hQ]
   refine⟨rbn,svn,stn,rfl,hP,K07.trans' KK fun q hq e=>by omega,fun W hWo hWA=>hW W (hWA.keep0 hI.run.lt K07) fun rbx hx=>?_⟩
   rcases hgg with⟨_,h⟩|⟨h0,rb',h1,h2,h3⟩
   ·rw[h]at hx;cases hx
   ·rw[h1]at hx
    cases hx
    exact((h3 W (fun q hq=>by have:=hWo q hq;have:=K04.size;omega) (hWA.keep0 hI.run.lt K04)).keep0 h2.lt K6).keep0 (by have:=h2.lt;have:=K6.size;omega) K7
 simp only[go_sem,Za,Zb,cw,tn_cast]
 refine⟨by omega,?_⟩
 unfold c_gaC kA kF kC kD kG kL kS kT kU kV kY
 have lsw:lenV sw=st.length:=by rw[q3.len,iL_len]
 by_cases h1:(st.length:Int)<=(x1:Int)
 ·rw[if_pos (.inl h1)]at gr
  have d1:decide ((x1:Int)≥(st.length:Int))=true:=decide_eq_true h1
  simp only[go_sem,Za,Zb,c6,q3.isSl,lsw,d1]
  exact fin _ (by rfl) (by rfl) (by rfl) (by rfl) (by rfl) (by rfl) (by rfl) (by simp only[go_sem,Za,Zb,kont_eq];rw[gr])
 ·have d1:decide ((x1:Int)≥(st.length:Int))=false:=decide_eq_false h1
  by_cases h2:(x2:Int)<1
  ·rw[if_pos (.inr h2)]at gr
   have d2:decide ((x2:Int)<1)=true:=decide_eq_true h2
   simp only[go_sem,Za,Zb,c6,q3.isSl,lsw,d1,d2]
   exact fin _ (by rfl) (by rfl) (by rfl) (by rfl) (by rfl) (by rfl) (by rfl) (by simp only[go_sem,Za,Zb,kont_eq];rw[gr])
  ·rw[if_neg (by omega)]at gr
   have d2:decide ((x2:Int)<1)=false:=decide_eq_false h2
   simp only[go_sem,Za,Zb,c6,q3.isSl,lsw,d1,d2]
   exact fin _ (by rfl) (by rfl) (by rfl) (by rfl) (by rfl) (by rfl) (by rfl) (by simp only[go_sem,Za,Zb,kont_eq];rw[gr])
end Go.Mg

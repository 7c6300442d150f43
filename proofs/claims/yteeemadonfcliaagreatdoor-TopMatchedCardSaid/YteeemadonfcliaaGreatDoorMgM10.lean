/- Lemmas of ours. No conditions. -/
import Derived.Test.YteeemadonfcliaaGreatDoorMgM9
open Nat renaming reduceEqDiff→Za,reduceAdd→Zb,reduceMul→Zc
set_option linter.all false
set_option maxRecDepth 100000
namespace Go.Mg
open Go Go.RowKit
def ve (ι:aJ):S:=
 kY [kC 6 (.bool false)] (.seq (.dr (kW 10 (.mv (.v 0)) (kW 11 (.nil (.t 10)) (kW 12 (.fa 1 (.t 11)) (kW 13 (.ld (.t 12)) (kW 15 (.mv (.v 0)) (kW 16 (.nil (.t 15)) (kW 17 (.fa 2 (.t 16)) (kW 18 (.m (.ldn 256 (.t 17))) (ka 14 (kg (ι.f 159) [.t 13]) (.wcons (.v 8) .none (.new (ι.t 160) (Array.replicate 256 (.int .i64 0))) (kX 7 (.mv (.t 14)) (kb (.stn 256 (.v 8) (.t 18)) .done .wnil)) .wnil) (.wcons (.v 8) .none (.new (ι.t 160) (Array.replicate 256 (.int .i64 0))) (ka 14 (kg (ι.f 159) [.t 13]) (kX 7 (.mv (.t 14)) (kb (.stn 256 (.v 8) (.t 18)) .done .wnil)) .wnil) .wnil))))))))))) (kY [kA 19 0,kA 20 0,kU 21 (.nil (.t 20)),kU 22 (.fa 1 (.t 21)),kD 23 22,kA 24 1,kI 25 1 23 24,kD 26 25,kU 27 (.nil (.t 19)),kU 28 (.fa 2 (.t 27)),kU 29 (.ia 256 1 (.t 28) (.t 26)),kf (.st (.t 29) (.c (.int .i64 (-1))))] (kY [kA 30 0,kA 31 2,kU 32 (.nil (.t 30)),kU 33 (.fa 2 (.t 32)),kU 34 (.ia 256 1 (.t 33) (.t 31)),kD 35 34,kB 9 35] (.seq (.dr (kW 36 (.mv (.v 0)) (kW 37 (.nil (.t 36)) (kW 38 (.fa 1 (.t 37)) (kW 40 (.mv (.v 1)) (kW 41 (.mv (.v 0)) (kW 42 (.mv (.v 2)) (kW 43 (.mv (.v 2)) (kW 44 (.mv (.v 1)) (kW 46 (.nil (.t 41)) (kW 47 (.fa 2 (.t 46)) (ka 39 (.rd (.ld (.t 38))) (kW 45 (.is 1 (.t 39) (.t 40)) (kb (.st (.t 45) (.t 43)) (kW 48 (.ia 256 1 (.t 47) (.t 42)) (kb (.st (.t 48) (.t 44)) .done .wnil)) .wnil)) .wnil)))))))))))) (.seq (kY [kA 49 9,kV 50 (.cm .lss .i64 (.t 49) (.c (.int .i64 0)))] (.ite (.v 50) (kY [kC 6 (.bool true)] .ret) .skip)) (kY [kA 51 0,kU 52 (.nil (.t 51)),kU 53 (.fa 1 (.t 52)),kD 54 53,kA 55 9,kI 56 1 54 55,kf (.st (.t 56) (.c (.int .i64 (-1))))] (kY [kA 57 0,kU 58 (.m (.jA (Array.replicate 256 (.bool false)) [])),kU 59 (.nil (.t 57)),kU 60 (.fa 514 (.t 59)),kf (.stn 256 (.t 60) (.t 58))] (kY [kA 61 0,kA 62 2,kU 63 (.nil (.t 61)),kU 64 (.fa 514 (.t 63)),kU 65 (.ia 256 1 (.t 64) (.t 62)),kf (.st (.t 65) (.c (.bool true)))] (.seq (kY [kA 66 0,kA 67 9,kd 68 (kg (ι.f 147) [.t 66,.t 67])] (.ite (.v 68) (kY [kC 6 (.bool true)] .ret) .skip)) (.seq (.dr (kW 69 (.mv (.v 0)) (kW 70 (.mv (.v 0)) (kW 71 (.mv (.v 7)) (kW 73 (.nil (.t 69)) (kW 74 (.fa 1 (.t 73)) (ka 72 (.rd (.m (.ldn 256 (.v 8)))) (kb (.st (.t 74) (.t 71)) (kW 75 (.nil (.t 70)) (kW 76 (.fa 2 (.t 75)) (kb (.stn 256 (.t 76) (.t 72)) .done .wnil))) .wnil) (kb (.st (.t 74) (.t 71)) (ka 72 (.rd (.m (.ldn 256 (.v 8)))) (kW 75 (.nil (.t 70)) (kW 76 (.fa 2 (.t 75)) (kb (.stn 256 (.t 76) (.t 72)) .done .wnil))) .wnil) .wnil)))))))) (kY [kC 6 (.bool false)] .ret)))))))))))
def vf:List RV:=[.t 6]
variable {H:Hp}
theorem fh.narrow {s bl c:Nat} {X:List Value} {gv:Value} {vs:List Value} {g:List (List Nat)} {Z:Nat->Prop} {st:cN} {F:List Bool} (h:fh H s bl c X gv vs g Z st F):fh H s bl c X gv vs g (fun k=>Z k/\k<H.size) st F:=
 ⟨h.S,h.L,h.ne,h.sl,h.len,h.at_,fun k hk=>⟨h.z1 k hk,h.sl.bM hk⟩,fun i k hi hk=>⟨h.z2 i k hi hk,(h.at_ i hi).bM hk⟩,fun h'=>h.zs h'.1,fun h'=>h.zl h'.1,h.lL,h.lR,h.lS,h.lF⟩
def Hu (H:Hp) (s bl:Nat) (gv:Value) (vs:List Value) (g:List (List Nat)) (Z:Nat->Prop) (st:cN) (F:List Bool) (i j:Nat) (r:Value) (H':Hp):Prop:=∃b Lh c' X' fH,r=.bool b/\fh H' s Lh c' X' gv vs g Z fH F/\(Lh=bl\/H.size<=Lh)/\g.length<=c'/\N6 g.length 256 (Eg g) st i j b fH/\af (fun k=>k=s\/k=bl) H H'
def qA (P:Program) (k:FuncId):Prop:=∀(H:Hp) (s bl c:Nat) (X:List Value) (gv:Value) (vs:List Value) (g:List (List Nat)) (Z:Nat->Prop) (st:cN) (F:List Bool) (i j p:Nat),fh H s bl c X gv vs g Z st F->(∀k,Z k->k<H.size)->(∀i,∀j∈g.getD i [],j<256)->(∀i,(g.getD i []).length<=4096)->g.length<=256→
 Inv g.length 256 (Eg g) (gi st.L) (gi st.R)->(∀a<g.length,0<=gi st.L a)->i<g.length->j<256->Eg g i j->gi st.L i=(p:Int)->p≠j->(∀b<256,bu F b=true↔∃a<i,gi st.L a=(b:Int))->bu F j=false→
 g.length<=c->an P k #[.pointer (some ⟨s,0,none⟩),.int .i64 i,.int .i64 j] H (Hu H s bl gv vs g Z st F i j)
theorem bY.room {v:Value} {l:List Value} (h:bY H v l) (hl:l≠[]):∃b c C,v=.slice (Option.some ⟨b,0,Option.none⟩) l.length c/\l.length<=c/\Bl H b (l++C):=by
 rcases h with⟨_,h⟩|⟨b,c,L,h1,h2,h3,h4,h5⟩
 ·exact absurd h hl
 ·refine⟨b,c,L.drop l.length,h1,by omega,?_⟩;have:l++L.drop l.length=L:=by
   have e:=List.take_append_drop l.length L;rw[h5]at e;exact e
  rw[this];exact h4
theorem Hv {P:Program} {ι:aJ} {k:FuncId} (hk:aq P k (ve ι) vf 3) (ha:jf P (ι.f 147) 257) (hcl:dA P (ι.f 159)):qA P k:=by
 intro H s bl c X gv vs g Z st F i j p hH hZ hg hgl hgn hI hA hi hj hE sW hpj hF Iz Eu;refine ah hk (args:=[_,_,_]) (by simp) ?_;unfold ve vf kA kB kC kD kI kU kV kW kX ka kb kd kf kg kY;obtain⟨R,hR⟩:∃R,R=Hu H s bl gv vs g Z st F i j:=⟨_,rfl⟩
 rw[<-hR];have hc1:cell H ⟨s,1,none⟩=some (.slice (some ⟨bl,0,none⟩) g.length c):=by rw[hH.S.cell,hH.lL];rfl
 have hss:s<H.size:=hH.S.lt;have AM:bl<H.size:=hH.L.lt;have hR2:aR H ⟨s,2,none⟩ 256=some (iL st.R).toArray:=by
  rw[hH.S.aR (by rw[cT hH.lR hH.lF hH.lS];omega),Hf hH.lR]
 have hsl:aG H (.slice (some ⟨bl,0,none⟩) g.length c) (iL st.L):=by
  have:=aG.bl hH.L 0 g.length c Eu (by rw[List.length_append,ak,hH.lL];omega)
  rwa [List.drop_zero,List.take_append_of_le_length (by rw[ak,hH.lL];omega),List.take_of_length_le (by rw[ak,hH.lL];omega)]at this
 simp only[go_sem,zS,↓reduceIte,Za,Zb,Zc,reduceCtorEq];refine eQ ?_ ?_ (Q:=fun e f H'=>e=.n/\f 0=.pointer (some ⟨s,0,none⟩)/\f 1=.int .i64 i/\f 2=.int .i64 j/\∃b8 cb c7 C7,f 7=.slice (some ⟨cb,0,none⟩) g.length c7/\f 8=.pointer (some ⟨b8,0,none⟩)/\Bl H' b8 (iL st.R)/\Bl H' cb (iL st.L++C7)/\g.length<=c7/\H.size<=b8/\H.size<=cb/\cb≠b8/\af (fun _=>False) H H')
 ·rintro e f H1 ⟨rfl,Ck,Rh,TS,b8,cb,c7,C7,ZX,tF,B1,C1,TT,ho8,hoc,U6,K1⟩;have hp:p<256:=by
   rcases hI.l i hi with h|⟨q,hq,h,_⟩
   ·omega
   ·omega
  have S1:=hH.ag K1 (by simp) (by simp) (by simp);have cells:∀{H2:Hp} {st2:cN},fh H2 s bl c X gv vs g Z st2 F->cell H2 ⟨s,1,none⟩=some (.slice (some ⟨bl,0,none⟩) g.length c):=by
   intro H2 st2 h;rw[h.S.cell,h.lL];rfl
  have TU:∀{H2:Hp} {st2:cN} (a:Nat),a<g.length->fh H2 s bl c X gv vs g Z st2 F->cell H2 ⟨bl,a,none⟩=some (.int .i64 (gi st2.L a)):=by
   intro H2 st2 a ha h;have hal:a<st2.L.length:=by rw[h.lL];exact ha
   rw[h.L.cell,List.getElem?_append_left (by rw[ak];exact hal),bW _ _ hal];unfold gi;simp[List.getD_eq_getElem?_getD,hal]
  have TV:∀{H2:Hp} {st2:cN} (b:Nat),b<256->fh H2 s bl c X gv vs g Z st2 F->cell H2 ⟨s,2+b,none⟩=some (.int .i64 (gi st2.R b)):=by
   intro H2 st2 b hb h;rw[h.S.cell,Cg h.lR hb]
  have okR:∀{H2:Hp} {st2:cN} (b:Nat),b<256->fh H2 s bl c X gv vs g Z st2 F->(cell H2 ⟨s,2+b,none⟩).isSome=true/\j8 H2 ⟨s,2+b,none⟩=false:=by
   intro H2 st2 b hb h;exact h.S.bk (o:=2+b) (by rw[cT h.lR h.lF h.lS];omega)
  have KT:∀{H2:Hp} {st2:cN} (b:Nat),b<256->fh H2 s bl c X gv vs g Z st2 F->(cell H2 ⟨s,514+b,none⟩).isSome=true/\j8 H2 ⟨s,514+b,none⟩=false:=by
   intro H2 st2 b hb h;exact h.S.bk (o:=514+b) (by rw[cT h.lR h.lF h.lS];omega)
  have Vt:∀{H2:Hp} {st2:cN} (a:Nat),a<g.length->fh H2 s bl c X gv vs g Z st2 F->(cell H2 ⟨bl,a,none⟩).isSome=true/\j8 H2 ⟨bl,a,none⟩=false:=by
   intro H2 st2 a ha h;exact h.L.bk (o:=a) (by rw[List.length_append,ak,h.lL];omega)
  have KW:∀{H2:Hp} {o:Nat} {x:Value},af (fun k=>k=s\/k=bl) H2 (al H2 ⟨s,o,none⟩ x):=fun{_ _ _}=>(af.refl _ _).al _ (.inl (.inl rfl));have Qe:∀{H2:Hp} {o:Nat} {x:Value},af (fun k=>k=s\/k=bl) H2 (al H2 ⟨bl,o,none⟩ x):=fun{_ _ _}=>(af.refl _ _).al _ (.inl (.inr rfl));simp only[go_sem,zS,↓reduceIte,Za,Zb,Zc,reduceCtorEq,Ck,Rh,TS,cells S1,ai,Nat.mul_one,TU i hi S1,sW,okR p hp S1];refine⟨by omega,by omega,?_⟩;have S2:=S1.Hh hp (-1);have K2:af (fun k=>k=s\/k=bl) H (al H1 ⟨s,2+p,none⟩ (.int .i64 (-1))):=K1.any.trans KW;have C2:∀{b:Nat} {l:List Value},Bl H1 b l->H.size<=b->Bl (al H1 ⟨s,2+p,none⟩ (.int .i64 (-1))) b l:=fun hb h=>KW.bl hb (by omega);have B2:=C2 B1 ho8;have C2:=C2 C1 hoc;generalize al H1 ⟨s,2+p,none⟩ (.int .i64 (-1))=H2 at S2 K2 B2 C2⊢;rw[ae];have eRj:gi (st.R.set p (-1)) j=gi st.R j:=by rw[gY,if_neg (fun h=>hpj h.1.symm)]
  have ZY:=TV j hj S2;simp only at ZY;rw[eRj]at ZY;simp only[go_sem,zS,↓reduceIte,Za,Zb,Zc,reduceCtorEq,Ck,Rh,TS,ZY,ai,Nat.mul_one];refine⟨by omega,?_⟩;refine eQ ?_ ?_ (Q:=fun e f H'=>e=.n/\f 0=.pointer (some ⟨s,0,none⟩)/\f 2=.int .i64 j/\f 7=.slice (some ⟨cb,0,none⟩) g.length c7/\f 8=.pointer (some ⟨b8,0,none⟩)/\f 9=.int .i64 (gi st.R j)/\fh H' s bl c X gv vs g Z (nF st i j) F/\Bl H' b8 (iL st.R)/\Bl H' cb (iL st.L++C7)/\af (fun k=>k=s\/k=bl) H H')
  ·rintro e f3 H3 ⟨rfl,Ck,TS,ZX,tF,IC,S3,B3,C3,K3⟩;rcases hI.r j hj with E2|⟨k,hk,E2,AY⟩
   ·rw[E2]at IC;have e0:decide ((-1:Int)<0)=true:=rfl;simp only[go_sem,zS,↓reduceIte,Za,Zb,Zc,reduceCtorEq,ae,IC,e0];subst hR;exact⟨true,bl,c,X,_,rfl,S3,.inl rfl,Eu,CC hH.toLen hI hA hi hj hE sW hpj E2,K3⟩
   ·rw[E2]at IC;have e0:decide ((k:Int)<0)=false:=decide_eq_false (by omega);obtain⟨NN,eL,hki⟩:=E5 hH.toLen hI hi hj hE sW hpj hk E2 AY;simp only[go_sem,zS,↓reduceIte,Za,Zb,Zc,reduceCtorEq,Ck,IC,e0,cells S3,ai,Nat.mul_one,Vt k hk S3];refine⟨by omega,?_⟩;have S4:=S3.Le hk (-1);have K4:af (fun k=>k=s\/k=bl) H (al H3 ⟨bl,k,none⟩ (.int .i64 (-1))):=K3.trans Qe;have B4:=(Qe (H2:=H3) (o:=k) (x:=.int .i64 (-1))).bl B3 (by omega);have C4:=(Qe (H2:=H3) (o:=k) (x:=.int .i64 (-1))).bl C3 (by omega);generalize al H3 ⟨bl,k,none⟩ (.int .i64 (-1))=H4 at S4 K4 B4 C4⊢;rw[ae];have okn:=S4.S.bK (o:=514) (n:=256) (by rw[cT S4.lR S4.lF S4.lS];omega);simp only[go_sem,zS,↓reduceIte,Za,Zb,Zc,reduceCtorEq,zF,Ck,okn];have hb:(Array.replicate 256 (Value.bool false)).toList=bL (List.replicate 256 false):=by rw[Array.toList_replicate,EW]
    have jS:bQ (Array.replicate 256 (Value.bool false)):=by
     intro y hy;rw[Array.toList_replicate]at hy;rw[List.eq_of_mem_replicate hy];rfl
    refine⟨⟨Array.size_replicate,jS⟩,?_⟩;rw[hb];have S5:=S4.u6 (S':=List.replicate 256 false) (by simp);have KN:af (fun k=>k=s\/k=bl) H4 (aA H4 ⟨s,514,none⟩ (bL (List.replicate 256 false))):=(af.refl _ _).aA _ (.inl (.inl rfl));have K5:=K4.trans KN;have B5:=KN.bl B4 (by omega);have C5:=KN.bl C4 (by omega);generalize aA H4 ⟨s,514,none⟩ (bL (List.replicate 256 false))=H5 at S5 K5 B5 C5⊢;rw[ae];simp only[go_sem,zS,↓reduceIte,Za,Zb,Zc,reduceCtorEq,Ck,TS,ai,Nat.mul_one,KT j hj S5];refine⟨by omega,?_⟩;have S6:=S5.Hg hj true;have K6:af (fun k=>k=s\/k=bl) H (al H5 ⟨s,514+j,none⟩ (.bool true)):=K5.trans KW;have B6:=(KW (H2:=H5) (o:=514+j) (x:=.bool true)).bl B5 (by omega);have C6:=(KW (H2:=H5) (o:=514+j) (x:=.bool true)).bl C5 (by omega);generalize al H5 ⟨s,514+j,none⟩ (.bool true)=H6 at S6 K6 B6 C6⊢;rw[ae];simp only[go_sem,zS,↓reduceIte,Za,Zb,Zc,reduceCtorEq,Ck,IC];obtain⟨zI,yP⟩:∃zI:cN,zI=⟨(nF st i j).L.set k (-1),(nF st i j).R,(List.replicate 256 false).set j true⟩:=⟨_,rfl⟩
    have S6:fh H6 s bl c X gv vs g Z zI F:=by rw[yP];exact S6
    have hI6:Inv g.length 256 (Eg g) (gi zI.L) (gi zI.R):=by rw[yP];exact NN
    have hu:j5 zI.Se<257:=by
     have:=dw zI.Se.length (fun j=>!bu zI.Se j);have:=S6.lS;unfold j5;omega
    have h0k:gi zI.L k=-1:=by rw[yP];simp only;rw[eL,if_neg hki,if_pos rfl]
    obtain⟨hY,hN⟩:=sT (n:=g.length) (F:=F) hg 257 zI k hu ⟨S6.lL,S6.lR,S6.lS⟩ hI6 hk (.inl h0k);refine(ha H6 s bl c X gv vs g Z zI F k S6 hg hgl hgn hu hI6 hk (.inl h0k)).mono ?_;rintro r H7 ⟨rfl,S7,K7⟩;have KI:=K6.trans K7;generalize cr g F 257 zI k=RR at S7 hY hN;obtain⟨rb,st7⟩:=RR;simp only at S7 hY hN;have hmv:=N9 (b:=rb) (s':=st7) hH.toLen hI hA hi hj hE sW hpj hk E2 AY hF Iz (fun h=>by rw[<-yP];exact hY h) (fun h=>by rw[<-yP];exact hN h)
    cases rb with
    |true=>
     simp only[go_sem,zS,↓reduceIte,Za,Zb,Zc,reduceCtorEq,ae];subst hR;exact⟨true,bl,c,X,st7,rfl,S7,.inl rfl,Eu,hmv,KI⟩
    |false=>
     rw[ae];simp only[go_sem,zS,↓reduceIte,Za,Zb,Zc,reduceCtorEq];have B7:=K7.bl B6 (by omega);have C7':=K7.bl C6 (by omega);have hld:aR H7 ⟨b8,0,none⟩ 256=some (iL st.R).toArray:=by
      have:=B7.aI 256 (by rw[ak,hH.lR]);exact this
     have M4:af (fun k=>k=s\/k=bl) H7 (al H7 ⟨s,1,none⟩ (.slice (some ⟨cb,0,none⟩) g.length c7)):=KW;have okc:(cell H7 ⟨s,1,none⟩).isSome=true/\j8 H7 ⟨s,1,none⟩=false:=S7.S.bk (o:=1) (by rw[cT S7.lR S7.lF S7.lS];omega);have B8:=S7.S.al 1 (.slice (some ⟨cb,0,none⟩) g.length c7);have ZE:(il gv (.slice (some ⟨bl,0,none⟩) st7.L.length c) st7.R F st7.Se).set 1 (.slice (some ⟨cb,0,none⟩) g.length c7)=il gv (.slice (some ⟨cb,0,none⟩) g.length c7) st7.R F st7.Se:=rfl;rw[ZE]at B8;have L8:=M4.bl C7' (by omega);have TD:=M4.bl B7 (by omega);have SL8:=S7.sl.ag M4 (fun k hk e=>by rcases e with e|e;exact S7.zs (e▸S7.z1 k hk);exact S7.zl (e▸S7.z1 k hk));have AT8:=fun i hi=>(S7.at_ i hi).ag M4 (fun k hk e=>by rcases e with e|e;exact S7.zs (e▸S7.z2 i k hi hk);exact S7.zl (e▸S7.z2 i k hi hk));have IE:=KI.trans M4;refine bC (fun k=>k=s\/k=bl) ?_;simp only[go_sem,zS,↓reduceIte,Za,Zb,Zc,reduceCtorEq,ae,Ck,ZX,tF];generalize al H7 ⟨s,1,none⟩ (.slice (some ⟨cb,0,none⟩) g.length c7)=H8 at M4 B8 L8 TD SL8 AT8 IE⊢;have ZZ:aR H8 ⟨b8,0,none⟩ 256=some (iL st.R).toArray:=by
      have:=TD.aI 256 (by rw[ak,hH.lR]);exact this
     have ok8:=B8.bK (o:=2) (n:=256) (by rw[cT S7.lR S7.lF S7.lS];omega);have hR8:(iL st.R).length=256:=by rw[ak,hH.lR]
     have B9:=B8.aA 2 (iL st.R);rw[Ld S7.lR S7.lF S7.lS hH.lR]at B9;have K9:af (fun k=>k=s\/k=bl) H8 (aA H8 ⟨s,2,none⟩ (iL st.R)):=(af.refl _ _).aA _ (.inl (.inl rfl));simp only[aB,hld,ZZ,eT,cM,ok8,Option.isSome_some,Option.getD_some,List.size_toArray,hR8,ji,okc,and_true,true_and];have fin:R (.bool false) (aA H8 ⟨s,2,none⟩ (iL st.R)):=by
      subst hR;refine⟨false,cb,c7,C7,⟨st.L,st.R,st7.Se⟩,rfl,⟨?_,K9.bl L8 (by omega),by omega,SL8.ag K9 (fun k hk e=>by rcases e with e|e;exact S7.zs (e▸S7.z1 k hk);exact S7.zl (e▸S7.z1 k hk)),S7.len,fun i hi=>(AT8 i hi).ag K9 (fun k hk e=>by rcases e with e|e;exact S7.zs (e▸S7.z2 i k hi hk);exact S7.zl (e▸S7.z2 i k hi hk)),S7.z1,S7.z2,S7.zs,fun h=>by have:=hZ _ h;omega,hH.lL,hH.lR,S7.lS,S7.lF⟩,.inr hoc,TT,hmv,IE.trans K9⟩;simp only;rw[hH.lL];exact B9
     exact⟨⟨af.refl _ _,M4,K9,fin⟩,M4,af.refl _ _,K9,fin⟩
  ·refine bC (fun k=>k=s\/k=bl) ?_;simp only[go_sem,zS,↓reduceIte,Za,Zb,Zc,reduceCtorEq,ae,Ck,Rh,TS,ZX,tF,cells S2];have S3:=S2.Le hi (j:Int);have S4:=S3.Hh hj (i:Int);have hmv:nF st i j=⟨st.L.set i (j:Int),(st.R.set p (-1)).set j (i:Int),st.Se⟩:=by unfold nF;rw[sW,Int.toNat_natCast]
   rw[<-hmv]at S4;exact⟨af.refl _ _,by omega,Vt i hi S2,Qe,by omega,okR j hj S3,KW,S4,KW.bl (Qe.bl B2 (by omega)) (by omega),KW.bl (Qe.bl C2 (by omega)) (by omega),(K2.trans Qe).trans KW⟩
 ·refine bC (fun k=>H.size<=k) ?_;simp only[go_sem,zS,↓reduceIte,Za,Zb,Zc,reduceCtorEq,ae,hc1,hR2,aB];have hn0:iL st.L≠[]:=by intro e;have h:=congrArg List.length e;rw[ak,hH.lL,List.length_nil]at h;omega
  have jS:=ji st.R;have vm:(iL st.R).length=256:=by rw[ak,hH.lR]
  have wr:∀(H1:Hp) (b:Nat),Bl H1 b (List.replicate 256 (.int .i64 0))->Bl (aA H1 ⟨b,0,none⟩ (iL st.R)) b (iL st.R):=by
   intro H1 b hb;have:=hb.aA 0 (iL st.R)
   rwa [nD _ _ (by rw[vm,List.length_replicate])]at this
  refine⟨by omega,by omega,?_,(af.refl _ _).push _,?_⟩
  ·refine(hcl st.L _ H hsl (by rw[hH.lL];omega)).mono ?_;rintro r H1 ⟨O1,o1,K1⟩;obtain⟨cb,c7,C7,rfl,TT,xA⟩:=O1.room hn0;have U6:H.size<=cb:=o1 cb rfl;have s1:=K1.size;have hB:=Bl.cW H1 (Array.replicate 256 (.int .i64 0)) (ι.t 160);have K2:af (fun _=>False) H1 (H1.push (.cells (Array.replicate 256 (.int .i64 0)) (ι.t 160))):=(af.refl _ _).push _;have C2:=K2.bl xA (by simp);simp only[go_sem,zS,↓reduceIte,Za,Zb,Zc,reduceCtorEq,ae,zF];obtain⟨b2,e2⟩:∃b2,b2=H1.size:=⟨_,rfl⟩
   rw[<-e2]at hB⊢;have aaN:=xA.lt;generalize H1.push (.cells (Array.replicate 256 (.int .i64 0)) (ι.t 160))=H2 at hB K2 C2⊢;have hB:Bl H2 b2 (List.replicate 256 (.int .i64 0)):=by rwa [Array.toList_replicate]at hB
   have s2:=K2.size;have K3:af (fun k=>k=b2) H2 (aA H2 ⟨b2,0,none⟩ (iL st.R)):=(af.refl _ _).aA _ (.inl rfl);refine⟨K1.any,K2.any,⟨hB.bK (by rw[List.length_replicate];exact Nat.le_refl _),vm,jS⟩,K3.mono (fun k _ e=>by omega),b2,cb,c7,C7,by rw[ak,hH.lL],rfl,wr _ _ hB,K3.bl C2 (by omega),by rw[<-hH.lL,<-ak];exact TT,by omega,U6,by omega,(K1.trans K2).bD K3 (by omega)⟩
  ·have hB:=Bl.cW H (Array.replicate 256 (.int .i64 0)) (ι.t 160);have K2:af (fun _=>False) H (H.push (.cells (Array.replicate 256 (.int .i64 0)) (ι.t 160))):=(af.refl _ _).push _;have TW:=hsl.ag K2 (by simp);obtain⟨b2,e2⟩:∃b2,b2=H.size:=⟨_,rfl⟩
   have z2:(H.push (.cells (Array.replicate 256 (.int .i64 0)) (ι.t 160))).size=H.size+1:=by simp
   generalize IK:H.push (.cells (Array.replicate 256 (.int .i64 0)) (ι.t 160))=H2 at hB K2 TW z2⊢;have hB:Bl H2 b2 (List.replicate 256 (.int .i64 0)):=by rw[e2];rwa [Array.toList_replicate]at hB
   refine(hcl st.L _ H2 TW (by rw[hH.lL];omega)).mono ?_;rintro r H1 ⟨O1,o1,K1⟩;obtain⟨cb,c7,C7,rfl,TT,xA⟩:=O1.room hn0;have U6:H2.size<=cb:=o1 cb rfl;have s1:=K1.size;simp only[go_sem,zS,↓reduceIte,Za,Zb,Zc,reduceCtorEq,ae,zF];rw[<-e2];have MA:=K1.bl hB (by simp);have K3:af (fun k=>k=b2) H1 (aA H1 ⟨b2,0,none⟩ (iL st.R)):=(af.refl _ _).aA _ (.inl rfl);refine⟨K1.any,⟨MA.bK (by rw[List.length_replicate];exact Nat.le_refl _),vm,jS⟩,K3.mono (fun k _ e=>by omega),b2,cb,c7,C7,by rw[ak,hH.lL],rfl,wr _ _ MA,K3.bl xA (by omega),by rw[<-hH.lL,<-ak];exact TT,by omega,by omega,by omega,(K2.trans K1).bD K3 (by omega)⟩
end Go.Mg

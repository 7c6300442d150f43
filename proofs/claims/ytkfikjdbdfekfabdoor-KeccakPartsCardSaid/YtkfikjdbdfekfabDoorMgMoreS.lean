/- Lemmas of ours. No conditions. -/
import Derived.Test.YtkfikjdbdfekfabDoorMgMore
namespace Go.Mg
open Go Go.RowKit
variable {v:Value}
theorem aN (h:eu v):v=.agg v.g:=by
 cases v<;>simp only[eu]at h;rfl
theorem aV (h:aT v):v=.slice (bC v) (av v) (bp v):=by
 cases v<;>simp only[aT]at h;rfl
section
variable {P:Program} {o:Oper} {w:World} {ρ:Operand->Value} {tr:Operand->Option A} {r:A->Value}
theorem bq {t:TypeId} (h:iT P t=true) (w:World):(isAgg t).run P w=.ok true w/\(P.info? t).isSome=true:=by
 unfold iT at h
 split at h
 ·rename_i fs hu;exact⟨by simp only[isAgg,Sem.run_bind,run_underlying hu,Result.andThen,Sem.run_pure],h⟩
 ·rename_i n e hu;exact⟨by simp only[isAgg,Sem.run_bind,run_underlying hu,Result.andThen,Sem.run_pure],h⟩
 ·cases h
theorem cg {t:TypeId} (h:dk P t=true) (w:World):(isAgg t).run P w=.ok false w:=by
 unfold dk at h
 cases hu:P.underlying t with
 |none=>simp[hu]at h
 |some d=>
 rw[hu]at h;simp only[isAgg,Sem.run_bind,run_underlying hu,Result.andThen]
 cases d<;>first|rfl|cases h
theorem az {α β:Type} {s:Sem α} {f:α->Sem β} {v:α} {w w':World} (h:s.run P w=.ok v w'):(s>>=f).run P w=(f v).run P w':=by
 simp only[Sem.run_bind,h,Result.andThen]
theorem iU (op:BinOp) (t:TypeId) (x y:Operand) (a b:Value) (h:(∀xs,a≠.agg xs)/\a≠.nilIface):(eqGuard op t x y a b).run P w=.ok () w:=by
 unfold eqGuard
 by_cases ho:(match op with|.eql=>true|.neq=>true|_=>false)=true
 ·cases op<;>simp at ho<;>(cases a<;>first|rfl|exact(h.1 _ rfl).elim|exact(h.2 rfl).elim)
 ·cases op<;>simp at ho<;>rfl
def gh:NK->Value->Prop
 |.ptr,.pointer none=>True
 |.sl,.slice none _ _=>True
 |.mp,.map none=>True
 |.fn,.nilFunc=>True
 |.ifc,.nilIface=>True
 |_,_=>False
theorem iV {y:Operand} {k:NK} (h:lO y=some k):∃v,y=.const v/\gh k v:=by
 unfold lO at h
 split at h<;>cases h<;>exact⟨_,rfl,trivial⟩
theorem qM (d:Nat) {t:TypeId} {td:TypeDesc} (hu:P.underlying t=some td) {k:NK} (hf:jQ k td=true) {v:Value} (hv:hX k v) {z:Value}
  (hz:gh k z):
  (Op.equalIn (d+1) t v z).run P w=.ok (bg v) w:=by
 simp only[Op.equalIn,Sem.run_bind,run_underlying hu,Result.andThen]
 cases k
 case ptr=>
  cases td<;>first|(cases hf;done)|skip
  cases v<;>first|exact hv.elim|skip
  cases z<;>first|exact hz.elim|skip
  rename_i e a b
  cases b<;>first|exact hz.elim|skip
  cases a<;>rfl
 case sl=>
  cases td<;>first|(cases hf;done)|skip
  cases v<;>first|exact hv.elim|skip
  cases z<;>first|exact hz.elim|skip
  rename_i e a l c b l' c'
  cases b<;>first|exact hz.elim|skip
  cases a<;>rfl
 case mp=>
  cases td<;>first|(cases hf;done)|skip
  cases v<;>first|exact hv.elim|skip
  cases z<;>first|exact hz.elim|skip
  rename_i e q a b
  cases b<;>first|exact hz.elim|skip
  cases a<;>rfl
 case fn=>
  cases td<;>first|(cases hf;done)|skip
  cases v<;>first|exact hv.elim|skip
  all_goals
   cases z<;>first|exact hz.elim|skip
   rfl
 case ifc=>
  cases td<;>first|(cases hf;done)|skip
  cases v<;>first|exact hv.elim|skip
  all_goals
   cases z<;>first|exact hz.elim|skip
   rfl
theorem kn {k:NK} {v z:Value} (hv:hX k v)
  (hz:gh k z) (t:TypeId):
  binOp .eql t v z=(do pure (.bool (←Op.equal t v z)))/\binOp .neq t v z=(do pure (.bool (!(←Op.equal t v z)))):=by
 cases k<;>cases v<;>first|exact hv.elim|(cases z<;>first|exact hz.elim|exact⟨rfl,rfl⟩)
theorem ib (op:BinOp) (t:TypeId) (x y:Operand) {k:NK} {v z:Value} (hy:y=.const z) (hv:hX k v)
  (hz:gh k z):(eqGuard op t x y v z).run P w=.ok () w:=by
 subst hy
 cases op<;>cases k<;>cases v<;>first|exact hv.elim|(cases z<;>first|exact hz.elim|rfl|skip)
 all_goals (cases x<;>rfl)
theorem dX {n:Bool} {op:BinOp} (hop:op=if n then .neq else .eql) {t:TypeId} {x y:Operand} {u:TypeId} (ho:o.op=.binOp op t x y u) {v z:Value} (hx:ρ x=v) (hy:ρ y=z) {b:Bool}
  (hg:(eqGuard op t x y v z).run P w=.ok () w) (hnum:binOp .eql t v z=(do pure (.bool (←Op.equal t v z)))/\binOp .neq t v z=(do pure (.bool (!(←Op.equal t v z)))))
  (h:(Op.equal t v z).run P w=.ok b w):(execOp ρ o).run P w=.ok (.value (.bool (n !=b))) w:=by
 simp only[execOp,ho,hx,hy];refine aw ?_;rw[az hg]
 cases n<;>simp at hop<;>subst hop
 ·rw[hnum.1];simp only[Sem.run_bind,h,Result.andThen,Sem.run_pure];simp
 ·rw[hnum.2];simp only[Sem.run_bind,h,Result.andThen,Sem.run_pure];simp
theorem ptrEq (d:Nat) {t e:TypeId} (hu:P.underlying t=some (.pointer e)) {a b:Value} (ha:lL a) (hb:lL b) (h:bg a=true\/bg b=true):
  (Op.equalIn (d+1) t a b).run P w=.ok (bg a&&bg b) w:=by
 simp only[Op.equalIn,Sem.run_bind,run_underlying hu,Result.andThen]
 cases a<;>first|exact ha.elim|skip
 cases b<;>first|exact hb.elim|skip
 rename_i p q
 cases p with
 |none=>cases q<;>rfl
 |some p=>cases q with
  |none=>rfl
  |some q=>simp[bg]at h
theorem cW (f:Nat->Sem Bool) (g:Nat->Bool):∀(l:List Nat),(∀i∈l,(f i).run P w=.ok (g i) w)→
  (forIn l ((none,()):Option Bool×Unit) (fun i _=>do
   let b<-f i
   if(!b)=true then pure (ForInStep.done (some false,()))else pure (ForInStep.yield (none,())):Nat->Option Bool×Unit->Sem (ForInStep (Option Bool×Unit)))).run P w=.ok ((if l.all g then none else some false),()) w
 |[],_=>by simp
 |i::l,h=>by
  have h1:=h i (by simp);have ih:=cW f g l (fun j hj=>h j (by simp[hj]));rw[List.forIn_cons];simp only[bind_assoc,Sem.run_bind,h1,Result.andThen]
  cases hg:g i
  ·simp;simp[hg]
  ·simp only[Bool.not_true,Bool.false_eq_true,if_false,Sem.run_pure];rw[ih];simp[hg]
theorem ic {e:TypeId} {k:IntKind} (he:P.underlying e=some (.int k)) {xs:Array Value} {i:Nat} (hi:i<xs.size) (w:World):(part e xs i).run P w=.ok xs[i] w:=by
 have:(isAgg e).run P w=.ok false w:=by simp only[isAgg,Sem.run_bind,run_underlying he,Result.andThen,Sem.run_pure]
 simp[part,Sem.run_bind,this,Result.andThen,hi]
theorem cX (d:Nat) {e:TypeId} {k:IntKind} (he:P.underlying e=some (.int k)) {x y:Value} (hx:cb k x) (hy:cb k y) (w:World):(Op.equalIn (d+1) e x y).run P w=.ok (x.i==y.i) w:=by
 rw[an hx,an hy];simp only[Op.equalIn,Sem.run_bind,run_underlying he,Result.andThen,if_true,Sem.run_pure,Value.i]
theorem gk (xs ys:Array Value) (n:Nat) (hx:xs.size=n) (hy:ys.size=n):
  ((List.range n).all fun i=>((xs[i]?.getD undef).i==(ys[i]?.getD undef).i))=(xs.toList.map Value.i==ys.toList.map Value.i):=by
 rw[Bool.eq_iff_iff];simp only[List.all_eq_true,List.mem_range,beq_iff_eq]
 constructor
 ·intro h;apply List.ext_getElem
  ·simp[hx,hy]
  ·intro i h1 h2;have hi:i<n:=by simpa[hx]using h1
   have:=h i hi;simpa[hx,hy,hi]using this
 ·intro h i hi;have e:(xs.toList.map Value.i)[i]?=(ys.toList.map Value.i)[i]?:=by rw[h]
  have h1:i<xs.size:=by omega
  have h2:i<ys.size:=by omega
  simp only[List.getElem?_map,Array.getElem?_toList,h1,h2,Array.getElem?_eq_getElem,Option.map_some,Option.some.injEq]at e;simpa[h1,h2]using e
theorem pw (D:Nat) {t e:TypeId} {len:Nat} {k:IntKind} (hu:P.underlying t=some (.array len e)) (he:P.underlying e=some (.int k)) (hs:P.cellsOf e=1) {xs ys:Array Value} (hx:xs.size=len) (hy:ys.size=len)
  (h1:∀x∈xs,cb k x) (h2:∀x∈ys,cb k x) (hD:∀x y,cb k x->cb k y->(Op.equalIn D e x y).run P w=.ok (x.i==y.i) w):(Op.equalIn (D+1) t (.agg xs) (.agg ys)).run P w=.ok (xs.toList.map Value.i==ys.toList.map Value.i) w:=by
 have ko:=bM P e (by omega) w;simp only[Op.equalIn,Sem.run_bind,run_underlying hu,Result.andThen,ko,hs,Nat.mul_one];rw[Std.Legacy.Range.forIn_eq_forIn_range'];have hl:List.range' 0 (Std.Legacy.Range.size [:len]) 1=List.range len:=by rw[List.range_eq_range'];simp[Std.Legacy.Range.size]
 have key:=cW (P:=P) (w:=w) (fun i=>do
   let a<-part e xs i
   let b<-part e ys i
   Op.equalIn D e a b) (fun i=>((xs[i]?.getD undef).i==(ys[i]?.getD undef).i)) (List.range len) ?_
 ·simp only[bind_assoc]at key;rw[show([:len]:Std.Legacy.Range).start=0 from rfl,show([:len]:Std.Legacy.Range).step=1 from rfl,hl,key,gk xs ys len hx hy]
  cases(xs.toList.map Value.i==ys.toList.map Value.i)<;>rfl
 ·intro i hi;have hi:i<len:=List.mem_range.1 hi;have a1:i<xs.size:=by omega
  have a2:i<ys.size:=by omega
  rw[az (ic he a1 w),az (ic he a2 w),hD _ _ (h1 _ (Array.getElem_mem a1)) (h2 _ (Array.getElem_mem a2))];simp[a1,a2]
theorem qN (d:Nat) {t e:TypeId} {len:Nat} {k:IntKind} (hu:P.underlying t=some (.array len e)) (he:P.underlying e=some (.int k)) (hs:P.cellsOf e=1) {xs ys:Array Value} (hx:xs.size=len) (hy:ys.size=len)
  (h1:∀x∈xs,cb k x) (h2:∀x∈ys,cb k x):(Op.equalIn (d+2) t (.agg xs) (.agg ys)).run P w=.ok (xs.toList.map Value.i==ys.toList.map Value.i) w:=
 pw (d+1) hu he hs hx hy h1 h2 fun _ _ a b=>cX d he a b w
theorem dR {t e:TypeId} {len:Nat} {k:IntKind} (hu:P.underlying t=some (.array len e)) (he:P.underlying e=some (.int k)) (d:Nat):P.eqGuardType (d+2) t=false:=by
 simp only[Program.eqGuardType,hu,he]
theorem ie (op:BinOp) {t e:TypeId} {len:Nat} {k:IntKind} (hu:P.underlying t=some (.array len e)) (he:P.underlying e=some (.int k)) (x y:Operand) (xs ys:Array Value):
  (eqGuard op t x y (.agg xs) (.agg ys)).run P w=.ok () w:=by
 have:P.eqGuardType P.depth t=false:=by unfold Program.depth;exact dR hu he _
 exact run_eqGuard_agg (w:=w) op t x y xs ys this
theorem bO {e:TypeId} (he:(∃k,P.underlying e=some (.int k))\/P.underlying e=some .string) {xs:Array Value} {i:Nat} (hi:i<xs.toList.length) (w:World):(part e xs i).run P w=.ok (xs.toList.getD i undef) w:=by
 have:(isAgg e).run P w=.ok false w:=by
  rcases he with⟨k,he⟩|he<;>simp only[isAgg,Sem.run_bind,run_underlying he,Result.andThen,Sem.run_pure]
 have uZ:i<xs.size:=by simpa using hi
 have e2:xs.toList.getD i undef=xs[i]:=by rw[List.getD_eq_getElem?_getD];simp[uZ]
 rw[e2];simp[part,Sem.run_bind,this,Result.andThen,uZ]
theorem bP (d:Nat) {xs ys:Array Value} (w:World):∀(fs:List Field) (l:List (Nat×Option IntKind)),hZ P fs=some l->iS l xs.toList->iS l ys.toList->(Op.eqFields (d+1) xs ys fs).run P w=.ok (hY l xs.toList ys.toList) w
 |[],l,h,_,_=>by cases h;simp[Op.eqFields,hY]
 |f::fs,l,h,h1,h2=>by
  simp only[hZ]at h
  split at h
  ·cases h
  ·rename_i hn
   split at h
   ·rename_i k hk;obtain⟨l',hl,rfl⟩:=Option.map_eq_some_iff.1 h;obtain⟨⟨a1,a2⟩,a3⟩:=h1;obtain⟨⟨b1,b2⟩,b3⟩:=h2;have ih:=bP d w fs l' hl a3 b3;simp only[Op.eqFields,hn,ne_eq,not_false_eq_true,if_true];rw[az (bO (.inl ⟨k,hk⟩) a1 w),az (bO (.inl ⟨k,hk⟩) b1 w),az (cX d hk a2 b2 w)];rw[hY]
    cases((xs.toList.getD f.offset undef).i==(ys.toList.getD f.offset undef).i)<;>simp[ih]
   ·rename_i hk;obtain⟨l',hl,rfl⟩:=Option.map_eq_some_iff.1 h;obtain⟨⟨a1,a2⟩,a3⟩:=h1;obtain⟨⟨b1,b2⟩,b3⟩:=h2;have ih:=bP d w fs l' hl a3 b3;have hs:(Op.equalIn (d+1) f.type (xs.toList.getD f.offset undef) (ys.toList.getD f.offset undef)).run P w=.ok ((xs.toList.getD f.offset undef).s.toList==(ys.toList.getD f.offset undef).s.toList) w:=by
     rw[ay a2,ay b2];exact run_equalIn_string w d f.type _ _ hk
    simp only[Op.eqFields,hn,ne_eq,not_false_eq_true,if_true];rw[az (bO (.inr hk) a1 w),az (bO (.inr hk) b1 w),az hs];rw[hY]
    cases((xs.toList.getD f.offset undef).s.toList==(ys.toList.getD f.offset undef).s.toList)<;>simp[ih]
   ·cases h
theorem cI (d:Nat):∀(fs:List Field) (l:List (Nat×Option IntKind)),hZ P fs=some l->(fs.any fun f=>f.name != "_" &&P.eqGuardType (d+1) f.type)=false
 |[],_,_=>rfl
 |f::fs,l,h=>by
  simp only[hZ]at h
  split at h
  ·cases h
  ·split at h
   ·rename_i k hk;obtain⟨l',hl,rfl⟩:=Option.map_eq_some_iff.1 h;rw[List.any_cons,cI d fs l' hl,Bool.or_false];simp only[Program.eqGuardType,hk,Bool.and_false]
   ·rename_i hk;obtain⟨l',hl,rfl⟩:=Option.map_eq_some_iff.1 h;rw[List.any_cons,cI d fs l' hl,Bool.or_false];simp only[Program.eqGuardType,hk,Bool.and_false]
   ·cases h
theorem gl (op:BinOp) {t:TypeId} {fs:Array Field} {l:List (Nat×Option IntKind)} (hu:P.underlying t=some (.struct fs)) (hl:hZ P fs.toList=some l) (x y:Operand) (xs ys:Array Value):
  (eqGuard op t x y (.agg xs) (.agg ys)).run P w=.ok () w:=by
 have:P.eqGuardType P.depth t=false:=by
  unfold Program.depth;simp only[Program.eqGuardType,hu];rw[<-Array.any_toList];exact cI _ _ _ hl
 exact run_eqGuard_agg (w:=w) op t x y xs ys this
theorem ev {n:Bool} {op:BinOp} (hop:op=if n then .neq else .eql) {t:TypeId} {x y:Operand} {u:TypeId} (ho:o.op=.binOp op t x y u) {q:PM} (hq:nq P tr n t x y=some q)
  (htr:∀y z,tr y=some z->ρ y=r z) (hc:∀v,ρ (.const v)=v) (hpre:q.pre r w.heap):(execOp ρ o).run P w=.ok (.value (q.val r w.heap)) w:=by
 unfold nq at hq
 split at hq
 ·cases hq
 ·rename_i td hu
  split at hq
  ·rename_i k hk
   split at hq
   ·rename_i hf;obtain⟨a,ha,rfl⟩:=Option.map_eq_some_iff.1 hq;obtain⟨z,hy,hz⟩:=iV hk;have ex:=htr _ _ ha;have ey:ρ y=z:=by rw[hy];exact hc z
    exact dX hop ho ex ey (ib op t x y hy hpre hz) (kn hpre hz t) (bI fun d=>qM (d+2) hu hf hpre hz)
   ·cases hq
  ·split at hq
   ·simp only[Option.bind_eq_some_iff]at hq;obtain⟨a,ha,b,hb,hq⟩:=hq
    cases hq
    obtain⟨h1,h2,h3⟩:=hpre;refine dX hop ho (htr _ _ ha) (htr _ _ hb) ?_ ?_ (bI fun d=>ptrEq (d+2) hu h1 h2 h3)
    ·refine iU op t x y _ _ ⟨?_,?_⟩
     ·intro xs hx;rw[hx]at h1;exact h1.elim
     ·intro hx;rw[hx]at h1;exact h1.elim
    ·generalize r a=a' at*;generalize r b=b' at*
     cases a'<;>first|exact h1.elim|skip
     cases b'<;>first|exact h2.elim|exact⟨rfl,rfl⟩
   ·rename_i len e _
    split at hq
    ·rename_i k hk
     split at hq
     ·rename_i hs;simp only[Option.bind_eq_some_iff]at hq;obtain⟨a,ha,b,hb,hq⟩:=hq
      cases hq
      obtain⟨h1,h2,h3,h4,h5,h6⟩:=hpre;refine dX hop ho ((htr _ _ ha).trans (aN h1)) ((htr _ _ hb).trans (aN h2)) (ie op hu hk x y _ _) ⟨rfl,rfl⟩ (bI fun d=>qN (d+1) hu hk hs h3 h4 h5 h6)
     ·cases hq
    ·cases hq
   ·rename_i fs
    split at hq
    ·cases hq
    ·rename_i hst;simp only[Option.bind_eq_some_iff]at hq;obtain⟨l,hl,a,ha,b,hb,hq⟩:=hq
     cases hq
     obtain⟨⟨h1,h2⟩,h3,h4⟩:=hpre;have u0:P.fieldsOf t=fs:=by simp[Program.fieldsOf,hu]
     have ea:=aN h1;have eb:=aN h2;have e1:gL (r a)=(r a).g.toList:=by rw[ea];rfl
     have e2:gL (r b)=(r b).g.toList:=by rw[eb];rfl
     rw[e1]at h3;rw[e2]at h4;refine dX hop ho ((htr _ _ ha).trans ea) ((htr _ _ hb).trans eb) (gl op hu hl x y _ _) ⟨rfl,rfl⟩ (bI fun d=>?_);rw[show d+3=(d+2)+1 from rfl,run_equalIn_agg w (d+2) t _ _ (by rw[u0];exact hu) (by simpa using hst),u0,e1,e2];exact bP (d+1) w _ _ hl h3 h4
   ·cases hq
end
end Go.Mg

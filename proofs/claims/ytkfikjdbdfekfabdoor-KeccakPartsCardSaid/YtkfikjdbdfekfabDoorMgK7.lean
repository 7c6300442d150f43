/- Lemmas of ours. No conditions. -/
import Derived.Test.YtkfikjdbdfekfabDoorMgK6
open Nat renaming reduceEqDiff→Za,reduceAdd→Zb,reduceMul→Zc
set_option linter.all false
set_option maxRecDepth 100000
namespace Go.Mg
open Go Go.RowKit
def gH (ι:bh):S:=
 kY [kC 0 (.bool false)] (kY [kc 1 (kg (ι.f 14) [.c (kZ)]),kc 2 (kg (ι.f 20) [.t 1]),kU 3 (.sc .eql (.t 2) (.c (.string ⟨#[97,55,102,102,99,54,102,56,98,102,49,101,100,55,54,54,53,49,99,49,52,55,53,54,97,48,54,49,100,54,54,50,102,53,56,48,102,102,52,100,101,52,51,98,52,57,102,97,56,50,100,56,48,97,52,98,56,48,102,56,52,51,52,97]⟩))),kF 4 3,.ge (.t 5) (.t 4) true (.dS (ι.t 19) 1 3 [.c (.int .u8 97),.c (.int .u8 98),.c (.int .u8 99)]),.ge (.t 6) (.t 4) true (.mark (.t 5)),.ge (.t 7) (.t 4) true (kg (ι.f 14) [.t 6]),.ge (.t 8) (.t 4) true (kg (ι.f 20) [.t 7]),kT 9 4 true (.sc .eql (.t 8) (.c (.string ⟨#[51,97,57,56,53,100,97,55,52,102,101,50,50,53,98,50,48,52,53,99,49,55,50,100,54,98,100,51,57,48,98,100,56,53,53,102,48,56,54,101,51,101,57,100,53,50,53,98,52,54,98,102,101,50,52,53,49,49,52,51,49,53,51,50]⟩))),kJ 10 4 9,kB 0 10] .ret)
def gI:List RV:=[.t 0]
theorem xb:b8 (cx [])=[97,55,102,102,99,54,102,56,98,102,49,101,100,55,54,54,53,49,99,49,52,55,53,54,97,48,54,49,100,54,54,50,102,53,56,48,102,102,52,100,101,52,51,98,52,57,102,97,56,50,100,56,48,97,52,98,56,48,102,56,52,51,52,97]:=by decide+kernel
theorem xc:b8 (cx [97,98,99])=[51,97,57,56,53,100,97,55,52,102,101,50,50,53,98,50,48,52,53,99,49,55,50,100,54,98,100,51,57,48,98,100,56,53,53,102,48,56,54,101,51,101,57,100,53,50,53,98,52,54,98,102,101,50,52,53,49,49,52,51,49,53,51,50]:=by decide+kernel
def dA (P:Program) (ι:bh) (k:FuncId):Prop:=∀H,aE ι H->ai P k #[] H fun r H'=>r=.bool true/\ae (fun _=>False) H H'
theorem mE {P:Program} {ι:bh} {k:FuncId} (hk:ah P k (gH ι) gI 0) (hs:cz P ι (ι.f 14)) (ht:iL P (ι.f 20)):dA P ι k:=by
 intro H hG;refine ag hk (args:=[]) (by simp) ?_;unfold gH gI kB kF kC kJ kT kU kc kg kY kZ;simp only[go_sem,zS,↓reduceIte,Za,Zb,Zc,reduceCtorEq,aa];refine(hs [] _ _ (.inl ⟨none,0,rfl,rfl⟩) hG).mono ?_;rintro r H1 ⟨rfl,K1⟩;simp only[go_sem,zS,↓reduceIte,Za,Zb,Zc,reduceCtorEq,aa];refine(ht _ _ (cy _)).mono ?_;rintro r H2 ⟨rfl,K2⟩;have p7:=K1.trans K2;rw[xb];simp only[go_sem,zS,↓reduceIte,Za,Zb,Zc,reduceCtorEq,aa,beq_self_eq_true];have hm:=nU H2 #[Value.int IntKind.u8 97,Value.int IntKind.u8 98,Value.int IntKind.u8 99] (ι.t 19) 3;simp only[go_sem,zS,↓reduceIte,Za,Zb,Zc,reduceCtorEq,aa]at hm⊢;obtain⟨K3,-,hS⟩:=hm;generalize lW _ _ _=H3 at*;have ni:=p7.trans K3;refine(hs [97,98,99] _ _ (hS 3 (by omega)) (hG.ax ni (by simp) (by simp))).mono ?_;rintro r H4 ⟨rfl,K4⟩;simp only[go_sem,zS,↓reduceIte,Za,Zb,Zc,reduceCtorEq,aa];refine(ht _ _ (cy _)).mono ?_;rintro r H5 ⟨rfl,K5⟩;rw[xc];simp only[go_sem,zS,↓reduceIte,Za,Zb,Zc,reduceCtorEq,aa,beq_self_eq_true];exact(ni.trans K4).trans K5
end Go.Mg

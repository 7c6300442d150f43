/- law 43: EngineErrs. -/
import Derived.Test.YtoclemmcphgikaaGreatDoorMgGX
import Derived.Test.YtoclemmcphgikaaGreatDoorMgTvr
open Nat renaming reduceEqDiff→Za,reduceAdd→Zb,reduceMul→Zc,reduceLeDiff→Zd,reduceLT→Ze
open Int renaming reduceBEq→Zf,reduceBNe→Zg,reduceLE→Zh,reduceLT→Zi
namespace Go.Mg
open Go Go.RowKit
set_option linter.all false
set_option maxRecDepth 100000
def c_eadp (ι:Ids):S:=
 kY [kR 2 (ι.t 392) 0,kC 4 (.pointer .none),kC 5 (.int .i64 0)] (.seq (kY [kU 11 (.ld (.v 2)),kV 12 (.m (.eqn .ptr false (.t 11)))] (.ite (.v 12) (kY [kC 4 (.pointer .none),kC 5 (.int .i64 1)] .ret) .skip)) (.seq (kY [kA 13 1,kU 14 (.ld (.v 2)),kU 15 (.nil (.t 14)),kU 16 (.fa 6 (.t 15)),kD 17 16,kL 18 17,.e (.t 19) (.call (ι.f 378) [.t 13,.t 18]),kB 6 19] (kY [kA 20 6,kV 21 (.cm .neq .i64 (.t 20) (.c (.int .i64 0)))] (.ite (.v 21) (kY [kA 22 6,kC 4 (.pointer .none),kB 5 22] .ret) .skip))) (.seq (.dr (kW 23 (.ld (.v 2)) (kW 24 (.nil (.t 23)) (kW 25 (.fa 0 (.t 24)) (kW 26 (.m (.ldn 5 (.t 25))) (kW 27 (.mv (.v 1)) (kW 29 (.ld (.v 2)) (kW 30 (.nil (.t 29)) (kW 31 (.fa 6 (.t 30)) (kW 32 (.ld (.t 31)) (.wcons (.t 28) .none (.call (ι.f 374) [.t 27]) (kW 33 (.m (.bld #[kZ,kZ,kZ,kZ,kZ,kZ,kZ] [(0,(5,.t 26)),(5,(1,.t 28)),(6,(1,.t 32))])) (.wcons (.t 34) .none (.box (ι.t 387) (.t 33)) (.wcons (.v 7) .none (.new (ι.t 392) #[.pointer .none]) (.wcons .no .none (.st (.v 7) (.t 34)) .done .wnil) .wnil) (.wcons (.v 7) .none (.new (ι.t 392) #[.pointer .none]) (.wcons (.t 34) .none (.box (ι.t 387) (.t 33)) (.wcons .no .none (.st (.v 7) (.t 34)) .done .wnil) .wnil) .wnil))) (.wcons (.v 7) .none (.new (ι.t 392) #[.pointer .none]) (.wcons (.t 28) .none (.call (ι.f 374) [.t 27]) (kW 33 (.m (.bld #[kZ,kZ,kZ,kZ,kZ,kZ,kZ] [(0,(5,.t 26)),(5,(1,.t 28)),(6,(1,.t 32))])) (.wcons (.t 34) .none (.box (ι.t 387) (.t 33)) (.wcons .no .none (.st (.v 7) (.t 34)) .done .wnil) .wnil)) .wnil) .wnil)))))))))))) (.seq (kY [kU 35 (.ld (.v 2)),.e (.t 36) (.call (ι.f 383) [.t 35]),.e (.v 37) (.call (ι.f 137) [.t 36])] (.blk 0 (.rf 64 (.v 37) 38 8 (.blk 1 (.dr (kW 43 (.mv (.v 8)) (kW 48 (.mv (.v 8)) (.wcons (.t 39) .none (.rd (.ld (.v 7))) (kW 40 (.nil (.t 39)) (kW 41 (.fa 5 (.t 40)) (.wcons (.t 42) .none (.rd (.ld (.t 41))) (.wcons (.t 44) .none (.rd (.ld (.v 2))) (kW 45 (.nil (.t 44)) (kW 46 (.fa 5 (.t 45)) (.wcons (.t 47) .none (.rd (.ld (.t 46))) (kW 49 (.is 1 (.t 47) (.t 48)) (.wcons (.t 50) .none (.rd (.m (.ldn 1 (.t 49)))) (kW 51 (.is 1 (.t 42) (.t 43)) (.wcons .no .none (.stn 1 (.t 51) (.t 50)) .done .wnil)) .wnil)) .wnil))) .wnil) (.wcons (.t 44) .none (.rd (.ld (.v 2))) (kW 45 (.nil (.t 44)) (kW 46 (.fa 5 (.t 45)) (.wcons (.t 42) .none (.rd (.ld (.t 41))) (.wcons (.t 47) .none (.rd (.ld (.t 46))) (kW 49 (.is 1 (.t 47) (.t 48)) (.wcons (.t 50) .none (.rd (.m (.ldn 1 (.t 49)))) (kW 51 (.is 1 (.t 42) (.t 43)) (.wcons .no .none (.stn 1 (.t 51) (.t 50)) .done .wnil)) .wnil)) .wnil) (.wcons (.t 47) .none (.rd (.ld (.t 46))) (kW 49 (.is 1 (.t 47) (.t 48)) (.wcons (.t 42) .none (.rd (.ld (.t 41))) (.wcons (.t 50) .none (.rd (.m (.ldn 1 (.t 49)))) (kW 51 (.is 1 (.t 42) (.t 43)) (.wcons .no .none (.stn 1 (.t 51) (.t 50)) .done .wnil)) .wnil) (.wcons (.t 50) .none (.rd (.m (.ldn 1 (.t 49)))) (.wcons (.t 42) .none (.rd (.ld (.t 41))) (kW 51 (.is 1 (.t 42) (.t 43)) (.wcons .no .none (.stn 1 (.t 51) (.t 50)) .done .wnil)) .wnil) .wnil))) .wnil)))) .wnil)))) (.wcons (.t 44) .none (.rd (.ld (.v 2))) (kW 45 (.nil (.t 44)) (kW 46 (.fa 5 (.t 45)) (.wcons (.t 39) .none (.rd (.ld (.v 7))) (kW 40 (.nil (.t 39)) (kW 41 (.fa 5 (.t 40)) (.wcons (.t 42) .none (.rd (.ld (.t 41))) (.wcons (.t 47) .none (.rd (.ld (.t 46))) (kW 49 (.is 1 (.t 47) (.t 48)) (.wcons (.t 50) .none (.rd (.m (.ldn 1 (.t 49)))) (kW 51 (.is 1 (.t 42) (.t 43)) (.wcons .no .none (.stn 1 (.t 51) (.t 50)) .done .wnil)) .wnil)) .wnil) (.wcons (.t 47) .none (.rd (.ld (.t 46))) (kW 49 (.is 1 (.t 47) (.t 48)) (.wcons (.t 42) .none (.rd (.ld (.t 41))) (.wcons (.t 50) .none (.rd (.m (.ldn 1 (.t 49)))) (kW 51 (.is 1 (.t 42) (.t 43)) (.wcons .no .none (.stn 1 (.t 51) (.t 50)) .done .wnil)) .wnil) (.wcons (.t 50) .none (.rd (.m (.ldn 1 (.t 49)))) (.wcons (.t 42) .none (.rd (.ld (.t 41))) (kW 51 (.is 1 (.t 42) (.t 43)) (.wcons .no .none (.stn 1 (.t 51) (.t 50)) .done .wnil)) .wnil) .wnil))) .wnil)))) (.wcons (.t 47) .none (.rd (.ld (.t 46))) (kW 49 (.is 1 (.t 47) (.t 48)) (.wcons (.t 39) .none (.rd (.ld (.v 7))) (kW 40 (.nil (.t 39)) (kW 41 (.fa 5 (.t 40)) (.wcons (.t 42) .none (.rd (.ld (.t 41))) (.wcons (.t 50) .none (.rd (.m (.ldn 1 (.t 49)))) (kW 51 (.is 1 (.t 42) (.t 43)) (.wcons .no .none (.stn 1 (.t 51) (.t 50)) .done .wnil)) .wnil) (.wcons (.t 50) .none (.rd (.m (.ldn 1 (.t 49)))) (.wcons (.t 42) .none (.rd (.ld (.t 41))) (kW 51 (.is 1 (.t 42) (.t 43)) (.wcons .no .none (.stn 1 (.t 51) (.t 50)) .done .wnil)) .wnil) .wnil)))) (.wcons (.t 50) .none (.rd (.m (.ldn 1 (.t 49)))) (.wcons (.t 39) .none (.rd (.ld (.v 7))) (kW 40 (.nil (.t 39)) (kW 41 (.fa 5 (.t 40)) (.wcons (.t 42) .none (.rd (.ld (.t 41))) (kW 51 (.is 1 (.t 42) (.t 43)) (.wcons .no .none (.stn 1 (.t 51) (.t 50)) .done .wnil)) .wnil))) .wnil) .wnil))) .wnil)))) .wnil))))))))) (.seq (.seq (.dr (kW 53 (.ld (.v 7)) (kW 54 (.ld (.v 7)) (kW 55 (.nil (.t 54)) (kW 56 (.fa 6 (.t 55)) (kW 57 (.ld (.t 56)) (.wcons (.t 58) .none (.call (ι.f 377) [.t 53,.t 57]) (kW 52 (.mv (.t 58)) (kW 59 (.ext (.t 52) 0) (kW 60 (.ext (.t 52) 1) (kW 9 (.mv (.t 59)) (kX 10 (.mv (.t 60)) .done))))) .wnil))))))) (kY [kA 61 10,kV 62 (.not (.t 61))] (.ite (.v 62) (kY [kC 4 (.pointer .none),kC 5 (.int .i64 12)] .ret) .skip))) (kY [kU 63 (.ld (.v 7)),kB 4 63,kC 5 (.int .i64 0)] .ret))))))
def r_eadp:List RV:=[.t 4,.t 5]
def c_ebyt (ι:Ids):S:=
 kY [kC 2 (kZ)] (.seq (kY [kA 6 0,kV 7 (.m (.eqn .ptr false (.t 6)))] (.ite (.v 7) (kY [kC 2 (kZ)] .ret) .skip)) (kY [.e (.t 8) (.call (ι.f 55) []),kB 3 8] (kY [kA 9 3,kA 10 0,kU 11 (.nil (.t 10)),kU 12 (.fa 0 (.t 11)),kN 13 5 12,.e (.t 14) (.call (ι.f 348) [.t 13]),.e (.t 15) (.call (ι.f 58) [.t 9,.t 14])] (kY [kA 16 3,kA 17 0,kU 18 (.nil (.t 17)),kU 19 (.fa 6 (.t 18)),kD 20 19,kL 21 20,kU 22 (.ii .u64 (.t 21)),.e (.t 23) (.call (ι.f 57) [.t 16,.t 22])] (.seq (kY [kA 24 0,kU 25 (.nil (.t 24)),kU 26 (.fa 6 (.t 25)),kV 27 (.ld (.t 26)),kO 28 27,kC 29 (.int .i64 0)] (.blk 0 (.loop (kY [kH 30 29 28] (.seq (.ite (.v 30) .skip (.exit 0)) (.seq (.blk 1 (kY [kA 31 29,kK 32 1 27 29,kD 33 32,kB 4 31,kB 5 33] (kY [kA 34 3,kA 35 0,kU 36 (.nil (.t 35)),kU 37 (.fa 5 (.t 36)),kD 38 37,kA 39 4,kI 40 1 38 39,kN 41 1 40,.e (.t 42) (.call (ι.f 340) [.t 34,.t 41])] (.reg [kA 43 3,kA 44 5,kU 45 (.ii .u64 (.t 44)),.e (.t 46) (.call (ι.f 57) [.t 43,.t 45])])))) (.reg [ke 47 29,kB 29 47]))))))) (kY [kA 48 3,.e (.t 49) (.call (ι.f 60) [.t 48]),kB 2 49] .ret))))))
def r_ebyt:List RV:=[.t 2]
def c_eequ (ι:Ids):S:=
 kY [kC 4 (.bool false)] (.seq (kY [kA 5 0,kU 6 (.m (.eqn .ptr false (.t 5))),kF 7 6,kS 8 7 false 1,kT 9 7 false (.m (.eqn .ptr false (.t 8))),kV 10 (.pick (.t 7) (.c (.bool true)) (.t 9))] (.ite (.v 10) (kY [kA 11 0,kU 12 (.m (.eqn .ptr false (.t 11))),kF 13 12,kS 14 13 true 1,kT 15 13 true (.m (.eqn .ptr false (.t 14))),kJ 16 13 15,kB 4 16] .ret) .skip)) (.seq (.dr (kW 17 (.mv (.v 0)) (kW 18 (.nil (.t 17)) (kW 19 (.fa 0 (.t 18)) (kW 20 (.m (.ldn 5 (.t 19))) (kW 21 (.mv (.v 1)) (kW 22 (.nil (.t 21)) (kW 23 (.fa 0 (.t 22)) (kW 24 (.m (.ldn 5 (.t 23))) (.wcons (.t 25) .none (.call (ι.f 333) [.t 20,.t 24]) (kW 26 (.mv (.t 25)) (.px (.t 27) (.some (.t 26,true)) (.mv (.v 0)) (.px (.t 28) (.some (.t 26,true)) (.nil (.t 27)) (.px (.t 29) (.some (.t 26,true)) (.fa 5 (.t 28)) (.px (.t 30) (.some (.t 26,true)) (.ld (.t 29)) (.px (.t 31) (.some (.t 26,true)) (.mv (.v 1)) (.px (.t 32) (.some (.t 26,true)) (.nil (.t 31)) (.px (.t 33) (.some (.t 26,true)) (.fa 5 (.t 32)) (.px (.t 34) (.some (.t 26,true)) (.ld (.t 33)) (.wcons (.t 35) (.some (.t 26,true)) (.call (ι.f 415) [.t 30,.t 34,.c (.func (.func (ι.f 140)) #[] #[])]) (kW 36 (.pick (.t 26) (.t 35) (.c (.bool false))) (kW 37 (.mv (.t 36)) (.px (.t 38) (.some (.t 37,true)) (.mv (.v 0)) (.px (.t 39) (.some (.t 37,true)) (.nil (.t 38)) (.px (.t 40) (.some (.t 37,true)) (.fa 6 (.t 39)) (.px (.t 41) (.some (.t 37,true)) (.ld (.t 40)) (.px (.t 42) (.some (.t 37,true)) (.mv (.v 1)) (.px (.t 43) (.some (.t 37,true)) (.nil (.t 42)) (.px (.t 44) (.some (.t 37,true)) (.fa 6 (.t 43)) (.px (.t 45) (.some (.t 37,true)) (.ld (.t 44)) (.wcons (.t 46) (.some (.t 37,true)) (.call (ι.f 165) [.t 41,.t 45]) (kW 47 (.pick (.t 37) (.t 46) (.c (.bool false))) (kX 4 (.mv (.t 47)) .done)) .wnil))))))))))) .wnil)))))))))) .wnil)))))))))) .ret))
def r_eequ:List RV:=[.t 4]
def c_erT (ι:Ids):S:=
 (kY [kM 54 5 5,kA 55 6,.e (.t 56) (.call (ι.f 391) [.t 54,.t 55]),kF 53 56,kQ 57 53 0,kQ 58 53 1,kB 10 57,kB 11 58] (kY [kC 12 (.pointer .none)] (kY [kA 60 12,.e (.t 61) (.call (ι.f 388) [.t 60,.c (.int .i64 0),.c (.int .i64 1)]),kF 59 61,kQ 62 59 0,kQ 63 59 1,kF 13 62,kB 14 63] (kY [kA 65 12,.e (.t 66) (.call (ι.f 413) [.t 65,.c (kZ)]),kF 64 66,kQ 67 64 0,kQ 68 64 1,kF 15 67,kB 16 68] (kY [kA 69 11,kA 70 9,kU 71 (.cm .eql .i64 (.t 69) (.t 70)),kF 72 71,kS 73 72 true 10,kT 74 72 true (.m (.eqn .ptr false (.t 73))),kJ 75 72 74,kF 76 75,kS 77 76 true 14,kT 78 76 true (.cm .eql .i64 (.t 77) (.c (.int .i64 1))),kJ 79 76 78,kF 80 79,kS 81 80 true 16,kT 82 80 true (.cm .eql .i64 (.t 81) (.c (.int .i64 1))),kJ 83 80 82,kF 84 83,kS 85 84 true 12,.ge (.t 86) (.t 84) true (.call (ι.f 386) [.t 85,.c (.int .i64 0),.c (.int .i64 1)]),kT 87 84 true (.cm .eql .u8 (.t 86) (.c (.int .u8 2))),kJ 88 84 87,kF 89 88,kS 90 89 true 12,.ge (.t 91) (.t 89) true (.call (ι.f 379) [.t 90]),kT 92 89 true (.m (.lenl (.t 91))),kS 93 89 true 12,.ge (.t 94) (.t 89) true (.call (ι.f 384) [.t 93]),kT 95 89 true (.m (.lenl (.t 94))),kT 96 89 true (.ar .add .i64 (.t 92) (.t 95)),kS 97 89 true 12,.ge (.t 98) (.t 89) true (.call (ι.f 385) [.t 97]),kT 99 89 true (.m (.lenl (.t 98))),kT 100 89 true (.ar .add .i64 (.t 96) (.t 99)),kS 101 89 true 12,.ge (.t 102) (.t 89) true (.call (ι.f 393) [.t 101,.c (.int .i64 0)]),kT 103 89 true (.m (.lenl (.t 102))),kT 104 89 true (.ar .add .i64 (.t 100) (.t 103)),kS 105 89 true 12,.ge (.t 106) (.t 89) true (.call (ι.f 382) [.t 105]),kT 107 89 true (.m (.lenl (.t 106))),kT 108 89 true (.ar .add .i64 (.t 104) (.t 107)),kS 109 89 true 12,.ge (.t 110) (.t 89) true (.call (ι.f 414) [.t 109]),kT 111 89 true (.m (.lenl (.t 110))),kT 112 89 true (.ar .add .i64 (.t 108) (.t 111)),kT 113 89 true (.cm .eql .i64 (.t 112) (.c (.int .i64 0))),kJ 114 89 113,kF 115 114,kS 116 115 true 12,.ge (.t 117) (.t 115) true (.call (ι.f 381) [.t 116]),kT 118 115 true (.not (.t 117)),kJ 119 115 118,kF 120 119,kS 121 120 true 12,.ge (.t 122) (.t 120) true (.call (ι.f 416) [.t 121,.c (.pointer .none)]),kJ 123 120 122,kB 4 123] .ret)))))
def c_leerr (ι:Ids):S:=
 kY [kR 2 (ι.t 288) 0,kC 4 (.bool false)] (.seq (kY [.e (.t 17) (.call (ι.f 407) []),kV 18 (.not (.t 17))] (.ite (.v 18) (kY [kC 4 (.bool false)] .ret) .skip)) (kY [kM 20 7 2,.e (.t 21) (.call (ι.f 300) [.t 20]),kF 19 21,kQ 22 19 0,kQ 23 19 1,kQ 24 19 2,kQ 25 19 3,.e (.v 5) (.new (ι.t 296) #[kZ,kZ,kZ,kZ,kZ]),.e (.t 7) (.new (ι.t 289) #[kZ,kZ,kZ,kZ,kZ]),.e .no (.stn 5 (.v 5) (.t 22)),kB 6 23,.e .no (.stn 5 (.t 7) (.t 24)),kF 8 25] (kY [kC 9 (.int .i64 0)] (.seq (kY [kA 26 1,kV 27 (.dv .rem .u8 (.t 26) (.c (.int .u8 4)))] (.blk 0 (kY [kU 32 (.cm .eql .u8 (.v 27) (.c (.int .u8 0))),kB 31 32] (.ite (.v 31) (kY [kG 33 0 5,kD 34 33,kU 35 (.is 2 (.t 34) (.c (.int .i64 0))),kU 36 (.fa 0 (.t 35)),.e .no (.st (.t 36) (.c (.string ⟨#[105,102]⟩))),kC 9 (.int .i64 9)] (.reg [kC 6 (kZ)])) (kY [kU 38 (.cm .eql .u8 (.v 27) (.c (.int .u8 1))),kB 37 38] (.ite (.v 37) (.reg [kA 39 6,.e (.t 40) (.bldF (ι.t 26) 1 1 [.c (.int .i64 300)]),.e (.t 41) (.call (ι.f 143) [.t 40]),.e (.t 42) (.bldF (ι.t 128) 1 1 [.t 41]),.e (.t 43) (.app false (ι.t 128) 1 24 #[kZ] (.t 39) (.t 42)),kB 6 43,kC 9 (.int .i64 1)]) (kY [kU 45 (.cm .eql .u8 (.v 27) (.c (.int .u8 2))),kB 44 45] (.ite (.v 44) (.reg [kA 46 6,kA 47 6,kL 48 47,kU 49 (.ar .sub .i64 (.t 48) (.c (.int .i64 1))),.e (.t 50) (.bldF (ι.t 26) 1 2 [.c (.int .i64 1),.c (.int .i64 257)]),.e (.t 51) (.call (ι.f 143) [.t 50]),kI 52 1 46 49,.e .no (.stn 1 (.t 52) (.t 51)),kC 9 (.int .i64 2)]) (.reg [kA 28 6,.e (.t 29) (.call (ι.f 143) [.c (kZ)]),kU 30 (.is 1 (.t 28) (.c (.int .i64 0))),.e .no (.stn 1 (.t 30) (.t 29)),kC 9 (.int .i64 12)]))))))))) (c_erT ι)))))
def r_leerr:List RV:=[.t 4]
def EAdNSpec (P:Program) (k:FuncId):Prop:=∀(v:Value) (H:Hp),CallsM P k #[.pointer none,v] H fun r H'=>r=.tuple #[.pointer none,.int .i64 1]/\Keep (fun _=>False) H H'
variable {P:Program} {ι:Ids} {k:FuncId} {ms:List UInt64}
theorem eadN_ok (hk:FnIsR P k (c_eadp ι) r_eadp 2 64):EAdNSpec P k:=by
 intro v H
 refine calls_of_vcR hk (args:=[_,_]) (by simp) ?_
 unfold c_eadp r_eadp kA kB kC kD kL kR kU kV kW kX kY kZ
 simp-implicitDefEqProofs only[go_sem,zS,↓reduceIte,Za,Zb,Zc,reduceCtorEq,zU,zV,Zf,Zg,Zh,Zi,Zd,Ze,zF]
 refine kont_new fun H1 b2 e1 z1 B1 K1=>?_
 have B1':Bl H1 b2 [.pointer none]:=B1
 have c2:cell H1 ⟨b2,0,none⟩=some (.pointer none):=by rw[B1'.cell];rfl
 simp-implicitDefEqProofs only[go_sem,zS,↓reduceIte,Za,Zb,Zc,reduceCtorEq,zU,zV,Zf,Zg,Zh,Zi,Zd,Ze,zF,c2]
 exact⟨List.nodup_nil,fun H' hs hk=>⟨by have:=K1.size;omega,fun q hq hn=>by rw[hk];exact K1.at_ q hq hn⟩⟩
def EByNSpec (P:Program) (k:FuncId):Prop:=∀(H:Hp),CallsM P k #[.pointer none] H fun r H'=>r=.slice none 0 0/\H'=H
theorem ebyN_ok (hk:FnIs P k (c_ebyt ι) r_ebyt 1):EByNSpec P k:=by
 intro H
 refine calls_of_vc hk (args:=[_]) (by simp) ?_
 unfold c_ebyt r_ebyt kA kB kC kD ke kH kI kK kL kN kO kU kV kY kZ
 simp-implicitDefEqProofs only[go_sem,zS,↓reduceIte,Za,Zb,Zc,reduceCtorEq,kont_eq,zU,zV,Zf,Zg,Zh,Zi,Zd,Ze,zF]
def EEqNSpec (P:Program) (k:FuncId):Prop:=∀(H:Hp),CallsM P k #[.pointer none,.pointer none] H fun r H'=>r=.bool true/\H'=H
theorem eeqN_ok (hk:FnIs P k (c_eequ ι) r_eequ 2):EEqNSpec P k:=by
 intro H
 refine calls_of_vc hk (args:=[_,_]) (by simp) ?_
 unfold c_eequ r_eequ kA kB kF kC kJ kS kT kU kV kW kX kY
 simp-implicitDefEqProofs only[go_sem,zS,↓reduceIte,Za,Zb,Zc,reduceCtorEq,kont_eq,zU,zV,Zf,Zg,Zh,Zi,Zd,Ze,zF]
structure LErC (P:Program) (ι:Ids):Prop where
 aw:EAwkSpec P ι (ι.f 407)
 mak:LMakfXSpec P (ι.f 300)
 sta:EStartSpec P ι (ι.f 391)
 of_:BOfSpec P (ι.f 143)
 gra:EGraSpec P ι (ι.f 388)
 adp:EAdNSpec P (ι.f 413)
 ask:EAskSpec P ι (ι.f 386)
 stf:EStaffSpec P (ι.f 379)
 don:EDon2Spec P ι (ι.f 384)
 rdy:ERdySpec P ι (ι.f 385)
 usx:EUsrXSpec P (ι.f 393)
 pln:EPlnSpec P ι (ι.f 382)
 byt:EByNSpec P (ι.f 414)
 fin:EFinSpec P (ι.f 381)
 equ:EEqNSpec P (ι.f 416)
theorem mems_nil:memL (fun _=>false)=[]:=by
 unfold memL mems
 rw[filter_none fun _ _=>rfl];rfl
theorem erT_ok (c:LErC P ι) {f:Fr} {A:Hp} {b5:Nat} {cs:List Value} {ev:Value} {e:Int} {Q:Value->Hp->Prop} (f5:f 5=.pointer (some ⟨b5,0,none⟩)) (f6:f 6=ev) (f9:f 9=.int .i64 e) (B:Bl A b5 cs) (hcl:cs.length=5) (hT:TabOk ι A)
  (hS:CallsM P (ι.f 391) #[.agg cs.toArray,ev] A fun x A'=>x=.tuple #[.pointer none,.int .i64 e]/\Keep (fun _=>False) A A') (hK:∀A',Keep (fun _=>False) A A'->Q (.bool true) A'):vc P (c_erT ι) (retQ [.t 4] Q) f A:=by
 unfold c_erT kA kB kF kC kJ kM kQ kS kT kU kY kZ
 have ee:(e==e)=true:=by simp
 have e11:((1:Int)==1)=true:=rfl
 have e22:((2:Int)==2)=true:=rfl
 have e00:((0:Int)==0)=true:=rfl
 have w00:IntKind.i64.wrap ((0:Int)+0)=0:=rfl
 simp-implicitDefEqProofs only[go_sem,zS,↓reduceIte,Za,Zb,Zc,reduceCtorEq,zU,zV,Zf,Zg,Zh,Zi,Zd,Ze,zF,f5,f6,B.ldNO 5 hcl.symm]
 refine hS.mono ?_
 rintro x A1 ⟨rfl,K1⟩
 rw[kont_eq]
 simp-implicitDefEqProofs only[go_sem,zS,↓reduceIte,Za,Zb,Zc,reduceCtorEq,zU,zV,Zf,Zg,Zh,Zi,Zd,Ze,zF]
 refine(c.gra.2 0 1 A1).mono ?_
 rintro x A2 ⟨rfl,rfl⟩
 rw[kont_eq]
 simp-implicitDefEqProofs only[go_sem,zS,↓reduceIte,Za,Zb,Zc,reduceCtorEq,zU,zV,Zf,Zg,Zh,Zi,Zd,Ze,zF]
 refine(c.adp _ A2).mono ?_
 rintro x A3 ⟨rfl,K3⟩
 have K13:=K1.trans K3
 rw[kont_eq]
 simp-implicitDefEqProofs only[go_sem,zS,↓reduceIte,Za,Zb,Zc,reduceCtorEq,zU,zV,Zf,Zg,Zh,Zi,Zd,Ze,zF,f9,ee,e11]
 refine(c.ask.2 0 1 A3).mono ?_
 rintro x A4 ⟨rfl,rfl⟩
 rw[kont_eq]
 simp-implicitDefEqProofs only[go_sem,zS,↓reduceIte,Za,Zb,Zc,reduceCtorEq,zU,zV,Zf,Zg,Zh,Zi,Zd,Ze,zF,e22]
 refine(c.stf.2 A4).mono ?_
 rintro x A5 ⟨rfl,rfl⟩
 rw[kont_eq]
 simp-implicitDefEqProofs only[go_sem,zS,↓reduceIte,Za,Zb,Zc,reduceCtorEq,zU,zV,Zf,Zg,Zh,Zi,Zd,Ze,zF]
 refine(c.don.2 A5 (hT.keep K13)).mono ?_
 rintro x A6 ⟨h6,K6⟩
 rw[mems_nil]at h6
 have l6:lenV x=0:=h6.len
 have K16:=K13.trans K6
 rw[kont_eq]
 simp-implicitDefEqProofs only[go_sem,zS,↓reduceIte,Za,Zb,Zc,reduceCtorEq,zU,zV,Zf,Zg,Zh,Zi,Zd,Ze,zF,h6.isSl,l6]
 refine(c.rdy.2 A6).mono ?_
 rintro x A7 ⟨rfl,rfl⟩
 rw[kont_eq]
 simp-implicitDefEqProofs only[go_sem,zS,↓reduceIte,Za,Zb,Zc,reduceCtorEq,zU,zV,Zf,Zg,Zh,Zi,Zd,Ze,zF]
 refine(c.usx.2 0 A7).mono ?_
 rintro x A8 ⟨rfl,K8⟩
 have K18:=K16.trans K8
 rw[kont_eq]
 simp-implicitDefEqProofs only[go_sem,zS,↓reduceIte,Za,Zb,Zc,reduceCtorEq,zU,zV,Zf,Zg,Zh,Zi,Zd,Ze,zF]
 refine(c.pln.2 A8).mono ?_
 rintro x A9 ⟨rfl,rfl⟩
 rw[kont_eq]
 simp-implicitDefEqProofs only[go_sem,zS,↓reduceIte,Za,Zb,Zc,reduceCtorEq,zU,zV,Zf,Zg,Zh,Zi,Zd,Ze,zF]
 refine(c.byt A9).mono ?_
 rintro x AA ⟨rfl,rfl⟩
 rw[kont_eq]
 simp-implicitDefEqProofs only[go_sem,zS,↓reduceIte,Za,Zb,Zc,reduceCtorEq,zU,zV,Zf,Zg,Zh,Zi,Zd,Ze,zF,Int.natCast_zero,w00,e00]
 refine(c.fin.2 AA).mono ?_
 rintro x AB ⟨rfl,rfl⟩
 rw[kont_eq]
 simp-implicitDefEqProofs only[go_sem,zS,↓reduceIte,Za,Zb,Zc,reduceCtorEq,zU,zV,Zf,Zg,Zh,Zi,Zd,Ze,zF,Bool.not_false]
 refine(c.equ AB).mono ?_
 rintro x AC ⟨rfl,rfl⟩
 rw[kont_eq]
 simp-implicitDefEqProofs only[go_sem,zS,↓reduceIte,Za,Zb,Zc,reduceCtorEq,kont_eq,zU,zV,Zf,Zg,Zh,Zi,Zd,Ze,zF]
 exact hK _ K18
def kwdN (F:FlN):FlN:={F with st:=F.st.set 0 ([105,102],(F.st.getD 0 ([],0)).2)}
theorem flwE_bad (r:RawF):flwE (kwdN (mkF r)) 63 (fun _=>false)=9:=by
 have hG:=mkF_good r
 have hn:=nuF_lt r
 have hl:=mkF_len r
 have hb:(kwdN (mkF r)).st.length=(mkF r).st.length:=by simp[kwdN]
 unfold flwE
 rw[if_neg (by intro e;have:=congrArg List.length e;rw[hb,List.length_nil]at this;omega),if_neg (by
  have h:=hG.lim
  unfold tooL at h⊢
  rw[hb]
  exact h)]
 have h1:stE 63 (fun _=>false) (kwdN (mkF r)).st 1=9:=by
  have e0:(kwdN (mkF r)).st.getD 0 ([],0)=([105,102],((mkF r).st.getD 0 ([],0)).2):=by
   have h0:0<(mkF r).st.length:=by omega
   simp[kwdN,List.getD_eq_getElem?_getD,h0]
  have hv:validF [105,102]=false:=by decide+kernel
  rw[stE,stE,orE_0,e0]
  unfold stE1
  rw[if_pos hv]
 have h2:=stE_mono (roles:=63) (p:=fun _=>false) (l:=(kwdN (mkF r)).st) (k:=1) (by rw[h1];decide) (kwdN (mkF r)).st.length (by rw[hb];omega)
 rw[h2,h1,orE_ne _ (by decide)]
theorem cmp_none (r:RawF) (ms:List UInt64) (h:ms.getD 0 0=0) (st:List Int):cmpV (mkF r) ms st=[]:=by
 cases hc:cmpV (mkF r) ms st with
 |nil=>rfl
 |cons t l=>
  have ht:t∈cmpV (mkF r) ms st:=by rw[hc];exact List.mem_cons_self
  have hn:=nuF_lt r
  have hl:=mkF_len r
  have:=(cmp_at ht (k:=0) (by omega)).2.2
  rw[h,bt_zero]at this
  cases this
theorem ofP_at {l:List Int} {n:Nat} (h:(n:Int)∈l) (hn:n<=4095):ofP l n=true:=by
 unfold ofP
 rw[decide_eq_true h,Bool.true_and,decide_eq_true (by omega)]
theorem flwE_mk (r:RawF):flwE (mkF r) 63 (fun _=>false)=0:=okF_iff.1 (mkF_ok r)
theorem owS_st {H:Hp} {v:Value} {l:List Value} (h:OwS H v l) {i:Nat} (hi:i<l.length):∃b c,v=.slice (some ⟨b,0,none⟩) l.length c/\ownB v b/\okNA H ⟨b,i,none⟩ 1/\∀x,OwS (stNA H ⟨b,i,none⟩ [x]) v (l.set i x)/\Keep (fun q=>q=b) H (stNA H ⟨b,i,none⟩ [x]):=by
 obtain⟨b,c,L,rfl,h1,h2,hb,h3,h4⟩:=h.some (by intro e;subst e;simp at hi)
 refine⟨b,c,rfl,rfl,hb.okNA (by omega),fun x=>⟨?_,(Keep.refl _ _).stNA _ (.inl rfl)⟩⟩
 refine OwS.bl (hb.stNA i [x]) (by simp) h1 (by rw[wrL_len (by simp;omega)];exact h2) ?_
 have e:wrL L i [x]=L.set i x:=by
  unfold wrL
  rw[List.set_eq_take_append_cons_drop,if_pos (by omega)];simp
 rw[e,List.take_set,h3]
theorem goodP_ms (r:RawF) (hl:ms.length=nuF r) (hm:MsOk ms):GoodP (pbOf (mkF r) (ms.map bt)):=by
 have hn:=nuF_lt r
 have hG:=mkF_good r
 have h0:=hG.lim
 unfold tooL at h0
 have e:(pbOf (mkF r) (ms.map bt)).el.length=(mkF r).st.length:=by simp[pbOf,hl,mkF_len]
 have e0:=mkF_len r
 refine⟨by omega,by omega,fun k u h=>?_,?_,?_,?_,?_,?_,?_⟩
 ·unfold elA pbOf at h
  rw[getD_map_bt]at h
  have:=hm k u h;omega
 ·show(mkF r).di.length<=20;omega
 ·show(mkF r).sa.length<=20;omega
 ·show(mkF r).mo.length<=20;omega
 ·rw[e];exact hG.di
 ·rw[e];exact hG.sa
 ·rw[e];exact hG.mo
theorem solB_ms (r:RawF) (hl:ms.length=nuF r) (hm:MsOk ms) {st:List Int} (h:okS (mkF r).st.length st):SolB (pbOf (mkF r) (ms.map bt)) st:=by
 have e:(pbOf (mkF r) (ms.map bt)).el.length=(mkF r).st.length:=by simp[pbOf,hl,mkF_len]
 have hn:=nuF_lt r
 refine solB_small (goodP_ms r hl hm) ?_ ?_
 ·rw[e];exact h.U
 ·rw[e,mkF_len];omega
def LawEU8Spec (P:Program) (ι:Ids) (k:FuncId):Prop:=∀(r:RawF) (odd:UInt8) (v:Value) (H:Hp),TabOk ι H->RawFV H v r->CallsM P k #[v,.int .u8 odd.toNat] H fun x H'=>x=.bool true/\Keep (fun _=>False) H H'
theorem leerr_ok (hk:FnIs P k (c_leerr ι) r_leerr 2) (c:LErC P ι):LawEU8Spec P ι k:=by
 intro r odd v H hT hv
 obtain⟨Q,hQ⟩:∃Q:Value->Hp->Prop,Q=fun x H'=>x=.bool true/\Keep (fun _=>False) H H':=⟨_,rfl⟩
 rw[<-hQ]
 have hvr:=hv
 obtain⟨h0,ro,be,di,sa,mo,el,rfl,_⟩:=hv
 refine calls_of_vc hk (args:=[_,_]) (by simp) ?_
 unfold c_leerr r_leerr kA kB kF kC kD kG kI kL kM kQ kR kU kV kY kZ
 simp-implicitDefEqProofs only[go_sem,zS,↓reduceIte,Za,Zb,Zc,reduceCtorEq,zU,zV,Zf,Zg,Zh,Zi,Zd,Ze,zF]
 refine kont_new fun H1 b2 e1 z1 B1 K1=>?_
 have B1':Bl H1 b2 [.int .u8 (r.n:Int),ro,be,di,sa,mo,el]:=B1
 simp-implicitDefEqProofs only[go_sem,zS,↓reduceIte,Za,Zb,Zc,reduceCtorEq,zU,zV,Zf,Zg,Zh,Zi,Zd,Ze,zF]
 refine(c.aw H1 (hT.keep K1)).mono ?_
 rintro x H2 ⟨rfl,K2⟩
 have K02:=K1.trans K2
 have B12:=K2.bl B1' (by simp)
 rw[kont_eq]
 simp-implicitDefEqProofs only[go_sem,zS,↓reduceIte,Za,Zb,Zc,reduceCtorEq,zU,zV,Zf,Zg,Zh,Zi,Zd,Ze,zF,Bool.not_true,B12.ldNO 7 rfl]
 refine(c.mak r _ H2 (RawFV.keep0 hvr K02)).mono ?_
 rintro x H3 ⟨C,fv,lv,mv,uv,rfl,hC,hPo,hlC,hL,hM,hU,K3⟩
 have K03:=K02.trans K3
 have hP0:=hPo.fl
 have hM0:=hM
 have hPo0:=hPo
 obtain⟨s,b,d,a,m,ms,rfl,p1,p2,p3,p4,p5,p6,p7,p8,p9,p10⟩:=hPo
 obtain⟨s',b',d',a',m',rfl,_⟩:=hM
 rw[kont_eq]
 simp-implicitDefEqProofs only[go_sem,zS,↓reduceIte,Za,Zb,Zc,reduceCtorEq,zU,zV,Zf,Zg,Zh,Zi,Zd,Ze,zF]
 refine kont_new fun H4 b5 e4 z4 B4 K4=>?_
 have B4':Bl H4 b5 [.slice none 0 0,.slice none 0 0,.slice none 0 0,.slice none 0 0,.slice none 0 0]:=B4
 simp-implicitDefEqProofs only[go_sem,zS,↓reduceIte,Za,Zb,Zc,reduceCtorEq,zU,zV,Zf,Zg,Zh,Zi,Zd,Ze,zF]
 refine kont_new fun H5 b7 e5 z5 B5 K5=>?_
 have B5':Bl H5 b7 [.slice none 0 0,.slice none 0 0,.slice none 0 0,.slice none 0 0,.slice none 0 0]:=B5
 have s3:=K03.size
 have s4:=K4.size
 have s5:=K5.size
 have B45:=K5.bl B4' (by simp)
 have t4:=B45.okNA (o:=0) (n:=5) (by simp)
 have C5:=B45.stNA 0 [s,b,d,a,m]
 have L1:Keep (fun q=>q=b5) H5 (stNA H5 ⟨b5,0,none⟩ [s,b,d,a,m]):=(Keep.refl _ _).stNA _ (.inl rfl)
 have D7:=L1.bl B5' (by omega)
 have t7:=D7.okNA (o:=0) (n:=5) (by simp)
 have L2:Keep (fun q=>q=b7) (stNA H5 ⟨b5,0,none⟩ [s,b,d,a,m]) (stNA (stNA H5 ⟨b5,0,none⟩ [s,b,d,a,m]) ⟨b7,0,none⟩ [s',b',d',a',m']):=(Keep.refl _ _).stNA _ (.inl rfl)
 have D5:=L2.bl C5 (by omega)
 have ha:all1 #[s,b,d,a,m]:=hP0.all1
 have ha':all1 #[s',b',d',a',m']:=hM0.all1
 simp-implicitDefEqProofs only[go_sem,zS,↓reduceIte,Za,Zb,Zc,reduceCtorEq,zU,zV,Zf,Zg,Zh,Zi,Zd,Ze,zF,t4,t7]
 refine⟨ha,?_⟩
 rw[kont_eq]
 simp-implicitDefEqProofs only[go_sem,zS,↓reduceIte,Za,Zb,Zc,reduceCtorEq,zU,zV,Zf,Zg,Zh,Zi,Zd,Ze,zF,t7]
 refine⟨ha',?_⟩
 generalize stNA (stNA H5 ⟨b5,0,none⟩ [s,b,d,a,m]) ⟨b7,0,none⟩ [s',b',d',a',m']=H6 at L2 D5⊢
 have K36:Keep (fun _=>False) H3 H6:=((K4.trans K5).trans' L1 fun q hq h=>by omega).trans' L2 fun q hq h=>by omega
 have K06:=K03.trans K36
 have C5':Bl H6 b5 [s,b,d,a,m]:=D5
 have hT6:=hT.keep K06
 obtain⟨vs,OL,RL,oL,rL⟩:=hL
 have RL6:=RL.keep0 K36
 have OL6:=OL.keep K36 (by simp)
 have P6:=hP0.keep0 K36
 have hnu:=nuF_lt r
 have hml:=mkF_len r
 have hel:=el_len r
 have hvl:vs.length=nuF r:=by rw[RL.len,masksF_len]
 have hbe:(mkF r).be.length<=1000:=by have:=(mkF_good r).lim;unfold tooL at this;omega
 have c50:cell H6 ⟨b5,0,none⟩=some s:=by rw[C5'.cell];rfl
 obtain⟨md,hmd⟩:∃md:Nat,md=odd.toNat % 4:=⟨_,rfl⟩
 have m1:((odd.toNat:Int)).tmod 4=(md:Int):=by rw[hmd];exact tmod_nat _ _
 have hlast:∀A',Keep (fun _=>False) H6 A'->Q (.bool true) A':=fun A' K=>by rw[hQ];exact⟨rfl,K06.trans K⟩
 rw[kont_eq]
 have q:md=0\/md=1\/md=2\/md=3:=by omega
 rcases q with h|h|h|h
 ·-- a step's name is a keyword
  have d0:((md:Int)==0)=true:=by rw[h];rfl
  have hn0:0<(mkF r).st.length:=by omega
  obtain⟨sb,sc,rfl,hsb,-,⟨hc1,hc2⟩,hst⟩:=owE_setc encS_len (p1.keep K36 (by simp)) hn0 (j:=0) (by omega)
  obtain⟨O4,L3⟩:=hst (.string ⟨#[105,102]⟩) ([105,102],((mkF r).st.getD 0 ([],0)).2) (by simp[encS,sV,List.getD_eq_getElem?_getD,hn0])
  simp only[Nat.zero_mul,Nat.add_zero]at O4 L3 hc1 hc2
  have hsb1:C<=sb:=p7 _ (by simp) sb hsb
  have hsb2:sb<H3.size:=p1.old hsb
  have s2:=K02.size
  simp-implicitDefEqProofs only[go_sem,zS,↓reduceIte,Za,Zb,Zc,reduceCtorEq,zU,zV,Zf,Zg,Zh,Zi,Zd,Ze,zF,m1,d0,c50]
  refine⟨by decide,by omega,⟨hc1,hc2⟩,?_⟩
  have K07:=K06.trans' L3 fun q hq h=>by omega
  have C7:=L3.bl C5' (by omega)
  generalize setc H6 ⟨sb,0,none⟩ (.string ⟨#[105,102]⟩)=H7 at O4 L3 K07 C7⊢
  have hPF:ProFl H7 (.agg #[.slice (some ⟨sb,0,none⟩) (mkF r).st.length sc,b,d,a,m]) (kwdN (mkF r)):=by
   have kp:∀(l:List (Int×Int)) (c:Value),OwP H3 c l->c∈[b,d,a,m]->SlP H7 c l:=fun _ c h hc=>((h.keep K36 (by simp)).keep L3 fun q hq e=>p9 _ hc q hq (by rw[e];exact hsb)).sl
   exact⟨_,b,d,a,m,ms,rfl,O4.sl,kp _ b p2 (by simp),kp _ d p3 (by simp),kp _ a p4 (by simp),((p5.keep K36 (by simp)).keep L3 fun q hq e=>p9 _ (by simp) q hq (by rw[e];exact hsb)).sl,(p6.keep0 K36).keep L3 fun x hx q hq e=>p10 x hx q hq (by rw[e];exact hsb)⟩
  rw[kont_eq]
  simp-implicitDefEqProofs only[go_sem,zS,↓reduceIte,Za,Zb,Zc,reduceCtorEq,zU,zV,Zf,Zg,Zh,Zi,Zd,Ze,zF]
  refine erT_ok c (cs:=[_,b,d,a,m]) (e:=9) (ev:=.slice none 0 0) rfl rfl rfl C7 rfl (hT.keep K07) ?_ fun A' K=>by rw[hQ];exact⟨rfl,K07.trans K⟩
  refine(c.sta (kwdN (mkF r)) [] [] _ (.slice none 0 0) H7 (hT.keep K07) hPF (SlR.nil _ _ _) rfl (by simp) (by intro i hi;simp at hi) (by intro h0;rw[flwE_bad]at h0;exact absurd h0 (by decide))).mono ?_
  rintro x A' ⟨K,hx⟩
  rw[flwE_bad]at hx
  rcases hx with⟨_,rfl⟩|⟨h0,_⟩|⟨h0,_⟩|⟨h0,_⟩
  ·exact⟨rfl,K⟩
  all_goals exact absurd h0 (by decide)
 ·-- a set of users too many
  have d0:((md:Int)==0)=false:=by rw[h];rfl
  have d1:((md:Int)==1)=true:=by rw[h];rfl
  simp-implicitDefEqProofs only[go_sem,zS,↓reduceIte,Za,Zb,Zc,reduceCtorEq,zU,zV,Zf,Zg,Zh,Zi,Zd,Ze,zF,m1,d0,d1]
  refine⟨by decide,kont_news fun A1 b6 e6 z6 B6 K6=>?_⟩
  have B6':Bl A1 b6 [.int .i64 300]:=B6
  simp-implicitDefEqProofs only[go_sem,zS,↓reduceIte,Za,Zb,Zc,reduceCtorEq,zU,zV,Zf,Zg,Zh,Zi,Zd,Ze,zF]
  refine(c.of_ [300] _ A1 (SlR.bl B6' 0 1 1 (by omega) (by simp)) (by decide)).mono ?_
  rintro x A2 ⟨⟨u,W,rfl,hV⟩,KA2,oU⟩
  rw[kont_eq]
  simp-implicitDefEqProofs only[go_sem,zS,↓reduceIte,Za,Zb,Zc,reduceCtorEq,zU,zV,Zf,Zg,Zh,Zi,Zd,Ze,zF]
  refine kont_news fun A3 b8 e8 z8 B8 K8=>?_
  have B8':Bl A3 b8 [u]:=B8
  simp-implicitDefEqProofs only[go_sem,zS,↓reduceIte,Za,Zb,Zc,reduceCtorEq,zU,zV,Zf,Zg,Zh,Zi,Zd,Ze,zF]
  have hu1:all1 #[u]:=hV.sl.one
  have K6A:=(K6.trans KA2).trans K8
  refine app_sl (OL6.keep K6A (by simp)) (SlR.bl B8' 0 1 1 (by omega) (by simp)) hu1 rfl (by unfold maxLen;simp;omega) (by simp;omega) fun v' A4 O4 K4' o4=>?_
  simp-implicitDefEqProofs only[go_sem,zS,↓reduceIte,Za,Zb,Zc,reduceCtorEq,kont_eq,zU,zV,Zf,Zg,Zh,Zi,Zd,Ze,zF]
  have K08:Keep (fun _=>False) H A4:=(K06.trans K6A).trans' K4' fun q hq h=>by have:=oL q h;have:=K02.size;omega
  have K38:Keep (fun q=>ownB lv q) H3 A4:=((K36.trans K6A).mono fun _ _ h=>h.elim).trans K4'
  have C8:=K4'.bl (K6A.bl C5' (by simp)) (fun h=>by have:=OL.old h;omega)
  have kp:∀(l:List (Int×Int)) (c:Value),OwP H3 c l->c∈[s,b,d,a,m]->SlP A4 c l:=fun l c h hc=>(h.keep K38 fun q hq e=>by have:=p7 c hc q hq;have:=hlC q e;omega).sl
  have hPF:ProFl A4 (.agg #[s,b,d,a,m]) (mkF r):=
   ⟨_,b,d,a,m,ms,rfl,(p1.keep K38 fun q hq e=>by have:=p7 s (by simp) q hq;have:=hlC q e;omega).sl,kp _ b p2 (by simp),kp _ d p3 (by simp),kp _ a p4 (by simp),(p5.keep K38 fun q hq e=>by have:=p7 m (by simp) q hq;have:=hlC q e;omega).sl,p6.keep K38 fun x hx q hq e=>by have:=p8 x hx q hq;have:=hlC q e;omega⟩
  have RL8:SetsR A4 vs (masksF r):=(RL6.keep0 K6A).keep K4' fun x hx q hq e=>(rL x hx q hq).2 e
  have hU8:SetM A4 (.agg #[u]) (ofP [300]):=((SetM.keep0 ⟨u,W,rfl,hV⟩ K8)).keep K4' fun q hq e=>by have:=oU q hq;have:=OL6.old e;have:=K6.size;omega
  obtain⟨q1,q2⟩:=RL8.el
  have hel2:((masksF r).map bt++[ofP [300]]).length=nuF r+1:=by simp[masksF_len]
  refine erT_ok c (cs:=[s,b,d,a,m]) (e:=1) (ev:=v') rfl rfl rfl C8 rfl (hT.keep K08) ?_ fun A' K=>by rw[hQ];exact⟨rfl,K08.trans K⟩
  refine(c.sta (mkF r) ((masksF r).map bt++[ofP [300]]) (vs++[u]) _ v' A4 (hT.keep K08) hPF O4.sl (by simp[q1]) (by rw[hel2];omega) ?_ (by intro _ h;rw[hel2]at h;omega)).mono ?_
  ·intro i hi
   by_cases e:i<vs.length
   ·have:=q2 i e
    have y1:(vs++[u]).getD i undef=vs.getD i undef:=by rw[List.getD_eq_getElem?_getD,List.getD_eq_getElem?_getD,List.getElem?_append_left e]
    have y2:((masksF r).map bt++[ofP [300]]).getD i (fun _=>false)=((masksF r).map bt).getD i fun _=>false:=by rw[List.getD_eq_getElem?_getD,List.getD_eq_getElem?_getD,List.getElem?_append_left (by rw[<-q1];exact e)]
    rw[y1,y2];exact this
   ·have ei:i=vs.length:=by simp at hi;omega
    have x1:(vs++[u]).getD i undef=u:=by rw[ei];simp
    have x2:((masksF r).map bt++[ofP [300]]).getD i (fun _=>false)=ofP [300]:=by rw[ei,q1];simp
    rw[x1,x2];exact hU8
  rintro x A' ⟨K,hx⟩
  rcases hx with⟨h0,_⟩|⟨_,_,rfl⟩|⟨_,h0,_⟩|⟨_,h0,_⟩
  ·exact absurd (flwE_mk r) h0
  ·exact⟨rfl,K⟩
  all_goals rw[hel2]at h0;omega
 ·-- a user beyond the range
  have d0:((md:Int)==0)=false:=by rw[h];rfl
  have d1:((md:Int)==1)=false:=by rw[h];rfl
  have d2:((md:Int)==2)=true:=by rw[h];rfl
  have ll:=OL6.sl.len
  simp-implicitDefEqProofs only[go_sem,zS,↓reduceIte,Za,Zb,Zc,reduceCtorEq,zU,zV,Zf,Zg,Zh,Zi,Zd,Ze,zF,m1,d0,d1,d2]
  refine⟨by decide,OL6.sl.isSl,kont_news fun A1 b6 e6 z6 B6 K6=>?_⟩
  have B6':Bl A1 b6 [.int .i64 1,.int .i64 257]:=B6
  simp-implicitDefEqProofs only[go_sem,zS,↓reduceIte,Za,Zb,Zc,reduceCtorEq,zU,zV,Zf,Zg,Zh,Zi,Zd,Ze,zF]
  refine(c.of_ [1,257] _ A1 (SlR.bl B6' 0 2 2 (by omega) (by simp)) (by decide)).mono ?_
  rintro x A2 ⟨⟨u,W,rfl,hV⟩,KA2,oU⟩
  have K6A:=K6.trans KA2
  have hi:vs.length -1<vs.length:=by omega
  obtain⟨lb,lc,rfl,hlb,hok1,hst⟩:=owS_st (OL6.keep K6A (by simp)) hi
  obtain⟨O4,K4'⟩:=hst u
  have hp:IntKind.i64.wrap ((vs.length:Int) -1)=((vs.length -1:Nat):Int):=by rw[IntWalk.i64_in _ (by omega)];omega
  have hu1:all1 #[u]:=hV.sl.one
  rw[kont_eq]
  simp-implicitDefEqProofs only[go_sem,zS,↓reduceIte,Za,Zb,Zc,reduceCtorEq,zU,zV,Zf,Zg,Zh,Zi,Zd,Ze,zF,ll,hp]
  refine⟨⟨by omega,by omega⟩,⟨hok1,hu1⟩,?_⟩
  rw[kont_eq]
  simp-implicitDefEqProofs only[go_sem,zS,↓reduceIte,Za,Zb,Zc,reduceCtorEq,zU,zV,Zf,Zg,Zh,Zi,Zd,Ze,zF]
  have K2A:Keep (fun q=>q=lb) H6 (stNA A2 ⟨lb,vs.length -1,none⟩ [u]):=(K6A.mono fun _ _ h=>h.elim).trans K4'
  have hlb1:H2.size<=lb:=oL lb hlb
  have hlb2:=hlC lb hlb
  have s2:=K02.size
  have s6:=K6.size
  have K08:Keep (fun _=>False) H (stNA A2 ⟨lb,vs.length -1,none⟩ [u]):=K06.trans' K2A fun q hq h=>by omega
  have K38:Keep (fun q=>q=lb) H3 (stNA A2 ⟨lb,vs.length -1,none⟩ [u]):=(K36.mono fun _ _ h=>h.elim).trans K2A
  have hlb3:=OL.old hlb
  have C8:=K2A.bl C5' (by omega)
  have RL8:SetsR A2 vs (masksF r):=RL6.keep0 K6A
  obtain⟨q1,q2⟩:=RL8.el
  generalize stNA A2 ⟨lb,vs.length -1,none⟩ [u]=A4 at O4 K4' K2A K08 K38 C8⊢
  have kp:∀(l:List (Int×Int)) (c:Value),OwP H3 c l->c∈[s,b,d,a,m]->SlP A4 c l:=fun l c h hc=>(h.keep K38 fun q hq e=>by have:=p7 c hc q hq;omega).sl
  have hPF:ProFl A4 (.agg #[s,b,d,a,m]) (mkF r):=
   ⟨_,b,d,a,m,ms,rfl,(p1.keep K38 fun q hq e=>by have:=p7 s (by simp) q hq;omega).sl,kp _ b p2 (by simp),kp _ d p3 (by simp),kp _ a p4 (by simp),(p5.keep K38 fun q hq e=>by have:=p7 m (by simp) q hq;omega).sl,p6.keep K38 fun x hx q hq e=>by have:=p8 x hx q hq;omega⟩
  have hU8:SetM A4 (.agg #[u]) (ofP [1,257]):=SetM.keep (x:=.agg #[u]) ⟨u,W,rfl,hV⟩ K4' fun q hq e=>by have:=oU q hq;have:=OL6.old hlb;omega
  have hbad:badS (ofP [1,257]):=⟨257,ofP_at (by simp) (by omega),.inr (by omega)⟩
  have hi2:vs.length -1<((masksF r).map bt).length:=by rw[<-q1];omega
  have x2:(((masksF r).map bt).set (vs.length -1) (ofP [1,257])).getD (vs.length -1) (fun _=>false)=ofP [1,257]:=by rw[List.getD_eq_getElem?_getD,List.getElem?_set_self hi2];rfl
  have hel2:(((masksF r).map bt).set (vs.length -1) (ofP [1,257])).length=nuF r:=by rw[List.length_set,<-q1];exact hvl
  refine erT_ok c (cs:=[s,b,d,a,m]) (e:=2) (ev:=.slice (some ⟨lb,0,none⟩) vs.length lc) rfl rfl rfl C8 rfl (hT.keep K08) ?_ fun A' K=>by rw[hQ];exact⟨rfl,K08.trans K⟩
  refine(c.sta (mkF r) (((masksF r).map bt).set (vs.length -1) (ofP [1,257])) (vs.set (vs.length -1) u) _ _ A4 (hT.keep K08) hPF O4.sl (by rw[hel2,List.length_set,hvl]) (by rw[hel2];omega) ?_ (fun _ _ hn=>absurd hbad (by have:=hn (vs.length -1) (by rw[hel2];omega);rwa [x2]at this))).mono ?_
  ·intro i hi
   have hi':i<vs.length:=by simpa using hi
   by_cases ei:i=vs.length -1
   ·have x1:(vs.set (vs.length -1) u).getD i undef=u:=by rw[ei,List.getD_eq_getElem?_getD,List.getElem?_set_self (by omega)];rfl
    rw[x1,ei,x2];exact hU8
   ·have x1:(vs.set (vs.length -1) u).getD i undef=vs.getD i undef:=by rw[List.getD_eq_getElem?_getD,List.getD_eq_getElem?_getD,List.getElem?_set_ne (fun e=>ei e.symm)]
    have x3:(((masksF r).map bt).set (vs.length -1) (ofP [1,257])).getD i (fun _=>false)=((masksF r).map bt).getD i fun _=>false:=by rw[List.getD_eq_getElem?_getD,List.getD_eq_getElem?_getD,List.getElem?_set_ne (fun e=>ei e.symm)]
    rw[x1,x3]
    refine(q2 i hi').keep K4' fun q hq e=>?_
    have hx:vs.getD i undef=vs[i]:=by rw[List.getD_eq_getElem?_getD,List.getElem?_eq_getElem hi'];rfl
    rw[hx]at hq
    exact(rL _ (List.getElem_mem hi') q hq).2 (by rw[e];exact hlb)
  rintro x A' ⟨K,hx⟩
  rcases hx with⟨h0,_⟩|⟨_,h0,_⟩|⟨_,_,_,rfl⟩|⟨_,_,hn,_⟩
  ·exact absurd (flwE_mk r) h0
  ·exact absurd (by rw[hel2,hml]) h0
  ·exact⟨rfl,K⟩
  ·exact absurd hbad (by have:=hn (vs.length -1) (by rw[hel2];omega);rwa [x2]at this)
 ·have d0:((md:Int)==0)=false:=by rw[h];rfl
  have d1:((md:Int)==1)=false:=by rw[h];rfl
  have d2:((md:Int)==2)=false:=by rw[h];rfl
  simp-implicitDefEqProofs only[go_sem,zS,↓reduceIte,Za,Zb,Zc,reduceCtorEq,zU,zV,Zf,Zg,Zh,Zi,Zd,Ze,zF,m1,d0,d1,d2]
  refine⟨by decide,(c.of_ [] _ H6 (SlR.nil _ _ _) (by decide)).mono ?_⟩
  rintro x A2 ⟨⟨u,W,rfl,hV⟩,KA2,oU⟩
  obtain⟨lb,lc,rfl,hlb,hok1,hst⟩:=owS_st (OL6.keep KA2 (by simp)) (i:=0) (by omega)
  obtain⟨O4,K4'⟩:=hst u
  have hu1:all1 #[u]:=hV.sl.one
  rw[kont_eq]
  simp-implicitDefEqProofs only[go_sem,zS,↓reduceIte,Za,Zb,Zc,reduceCtorEq,zU,zV,Zf,Zg,Zh,Zi,Zd,Ze,zF]
  refine⟨by omega,⟨hok1,hu1⟩,?_⟩
  rw[kont_eq]
  simp-implicitDefEqProofs only[go_sem,zS,↓reduceIte,Za,Zb,Zc,reduceCtorEq,zU,zV,Zf,Zg,Zh,Zi,Zd,Ze,zF]
  have e0:((masksF r).set 0 0).length=nuF r:=by simp[masksF_len]
  have hm0:MsOk ((masksF r).set 0 0):=fun k' u' hh=>by
   by_cases ek:k'=0
   ·subst ek
    have z:((masksF r).set 0 0).getD 0 0=0:=by
     rw[List.getD_eq_getElem?_getD,List.getElem?_set_self (by rw[masksF_len];omega)];rfl
    rw[z,bt_zero]at hh;cases hh
   ·have z:((masksF r).set 0 0).getD k' 0=(masksF r).getD k' 0:=by
     rw[List.getD_eq_getElem?_getD,List.getD_eq_getElem?_getD,List.getElem?_set_ne (fun e=>ek e.symm)]
    rw[z]at hh;exact masksF_ok r k' u' hh
  have K2A:Keep (fun q=>q=lb) H6 (stNA A2 ⟨lb,0,none⟩ [u]):=(KA2.mono fun _ _ h=>h.elim).trans K4'
  have hlb1:H2.size<=lb:=oL lb hlb
  have hlb2:=hlC lb hlb
  have s2:=K02.size
  have K08:Keep (fun _=>False) H (stNA A2 ⟨lb,0,none⟩ [u]):=K06.trans' K2A fun q hq h=>by omega
  have K38:Keep (fun q=>q=lb) H3 (stNA A2 ⟨lb,0,none⟩ [u]):=(K36.mono fun _ _ h=>h.elim).trans K2A
  have hlb3:=OL.old hlb
  have C8:=K2A.bl C5' (by omega)
  have RL8:SetsR A2 vs (masksF r):=RL6.keep0 KA2
  obtain⟨q1,q2⟩:=RL8.el
  generalize stNA A2 ⟨lb,0,none⟩ [u]=A4 at O4 K4' K2A K08 K38 C8⊢
  have kp:∀(l:List (Int×Int)) (c:Value),OwP H3 c l->c∈[s,b,d,a,m]->SlP A4 c l:=fun l c h hc=>(h.keep K38 fun q hq e=>by have:=p7 c hc q hq;omega).sl
  have hPF:ProFl A4 (.agg #[s,b,d,a,m]) (mkF r):=
   ⟨_,b,d,a,m,ms,rfl,(p1.keep K38 fun q hq e=>by have:=p7 s (by simp) q hq;omega).sl,kp _ b p2 (by simp),kp _ d p3 (by simp),kp _ a p4 (by simp),(p5.keep K38 fun q hq e=>by have:=p7 m (by simp) q hq;omega).sl,p6.keep K38 fun x hx q hq e=>by have:=p8 x hx q hq;omega⟩
  have hU8:SetM A4 (.agg #[u]) (ofP []):=SetM.keep (x:=.agg #[u]) ⟨u,W,rfl,hV⟩ K4' fun q hq e=>by have:=oU q hq;have:=OL6.old hlb;omega
  refine erT_ok c (cs:=[s,b,d,a,m]) (e:=12) (ev:=.slice (some ⟨lb,0,none⟩) vs.length lc) rfl rfl rfl C8 rfl (hT.keep K08) ?_ fun A' K=>by rw[hQ];exact⟨rfl,K08.trans K⟩
  have hel2:(((masksF r).set 0 0).map bt).length=nuF r:=by rw[List.length_map,e0]
  refine(c.sta (mkF r) (((masksF r).set 0 0).map bt) (vs.set 0 u) _ _ A4 (hT.keep K08) hPF O4.sl (by rw[hel2,List.length_set,hvl]) (by rw[hel2];omega) ?_ (fun _ _ _=>⟨goodP_ms r e0 hm0,?_,hbe⟩)).mono ?_
  ·intro i hi
   rw[getD_map_bt]
   have hi':i<vs.length:=by simpa using hi
   by_cases ei:i=0
   ·subst ei
    have x1:(vs.set 0 u).getD 0 undef=u:=by rw[List.getD_eq_getElem?_getD,List.getElem?_set_self hi'];rfl
    have x2:((masksF r).set 0 0).getD 0 0=0:=by rw[List.getD_eq_getElem?_getD,List.getElem?_set_self (by rw[masksF_len];omega)];rfl
    rw[x1,x2]
    exact hU8.congr fun n=>by rw[bt_zero];rfl
   ·have x1:(vs.set 0 u).getD i undef=vs.getD i undef:=by rw[List.getD_eq_getElem?_getD,List.getD_eq_getElem?_getD,List.getElem?_set_ne (fun e=>ei e.symm)]
    have x2:((masksF r).set 0 0).getD i 0=(masksF r).getD i 0:=by rw[List.getD_eq_getElem?_getD,List.getD_eq_getElem?_getD,List.getElem?_set_ne (fun e=>ei e.symm)]
    rw[x1,x2]
    have:=q2 i hi'
    rw[getD_map_bt]at this
    refine this.keep K4' fun q hq e=>?_
    have hx:vs.getD i undef=vs[i]:=by rw[List.getD_eq_getElem?_getD,List.getElem?_eq_getElem hi'];rfl
    rw[hx]at hq
    exact(rL _ (List.getElem_mem hi') q hq).2 (by rw[e];exact hlb)
  ·rw[hel2];exact solB_ms r e0 hm0 (by have:=zerS_okS r;exact this)
  rintro x A' ⟨K,hx⟩
  rcases hx with⟨h0,_⟩|⟨_,h0,_⟩|⟨_,_,⟨i,hi,hb⟩,_⟩|⟨_,_,_,h⟩
  ·exact absurd (flwE_mk r) h0
  ·exact absurd (by rw[hel2,hml]) h0
  ·obtain⟨u',hu,hu2⟩:=hb
   rw[getD_map_bt]at hu
   have:=hm0 i u' hu
   omega
  ·rw[hel2]at h
   have hz:solF (pbOf (mkF r) (((masksF r).set 0 0).map bt)) (List.replicate (nuF r) 0)=none:=by
    show solF _ (zerS r)=none
    rw[sol_cmp (zerS_okS r).1 hm0,cmp_none r _ (by rw[List.getD_eq_getElem?_getD,List.getElem?_set_self (by rw[masksF_len];omega)];rfl)];rfl
   rcases h with⟨_,rfl⟩|⟨h,_⟩
   ·exact⟨rfl,K⟩
   ·rw[hz]at h;cases h
end Go.Mg

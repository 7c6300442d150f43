/- Lemmas of ours. No conditions. -/
import Derived.Test.YteeemadonfcliaaGreatDoorRows
import Derived.Test.YteeemadonfcliaaGreatDoorTie
import Derived.Test.YteeemadonfcliaaGreatDoorCards
import Derived.Test.YteeemadonfcliaaGreatDoorMgQD
import Derived.Test.YteeemadonfcliaaGreatDoorMgOpen3
import Derived.SevenTiedAt
set_option maxRecDepth 100000
namespace Go.Proofs.YteeemadonfcliaaGreatDoor
open Go.ChangeShapes Go.WideShapes Go.ChangeAt Go.WideElems Go.RowKit Go.Mg
def ids:aJ:=⟨fun n=>([0,0,0,0,0,0,0,0,0,0,0,0,0,0,0,0,0,0,0,0,0,0,0,0,0,0,0,0,0,0,0,0,0,0,0,0,0,0,0,0,0,0,0,0,0,0,0,0,0,0,0,0,0,0,0,0,0,0,0,0,0,0,0,0,0,0,0,0,76,0,86,75,77,78,0,62,0,0,0,0,0,0,0,0,0,0,0,0,0,0,0,0,0,0,0,0,0,0,0,0,0,0,0,0,0,0,0,0,0,0,0,0,0,0,0,0,0,0,0,0,0,0,0,0,69,0,72,70,0,43,17,5,60,50,55,53,71,58,0,54,0,44,38,14,27,0,28,56,29,0,0,0,34,12,0,0,0,52,30,21,0,31,9,0,0,10,0,0,0,0,0,0,0,0,0,0,0,0,0,0,0,0,0,0,0,0,0,0,0,0,0,0,82,83,0,84,0,85,80,0,81,66,0,0,19,0,0,0,0,0,0,0,0,0,0,0,0,0,0,0,0,0,0,0,0,0,74,61,0,0,0,0,0,0,0,0,0,0,0,0,0,0,0,0,0,0,0,0,0,0,0,0,0,0,0,0,0,0,0,0,0,0,0,0,0,0,0,0,0,0,0,0,0,0,0,0,0,0,0,0,0,0,0,0,65,0,0,0,0,0,0,0,0,0,0,0,0,0,0,0,0,79,63,0,0,64,45,39,0,0,0,0,0,0,0,0,0,0,0,0,0,0,0,0,0,0,0,0,0,0,0,0,0,0,0,0,0,0,0,0,0,0,0,0,0,0,0,0,0,0,0,0,0,68,46,48,47,57,0,49,22,32,0,33,51,11,26,25,0,24,0,23,0,8,18,20,6,42,40,0,0,119,16,0,0,0,0,0,0,67,41,15,0,0,0,0,0,0,0,0,0,0,0,0,0,0,0,0,0,0,0,0,0,0,0,0,0,0,0,0,0,0,0,0,0,0,0,0,0,0,0,0,73,59,35,36,37,13,0,0,0,0,0,7,4,0,3]:List Nat).getD n 0,fun n=>([0,0,0,0,0,0,0,0,0,0,0,0,0,0,0,0,0,0,0,5,0,0,0,0,0,0,3,0,64,0,0,0,0,0,0,0,0,0,0,0,0,0,0,0,0,0,0,0,0,0,0,0,0,0,0,0,0,0,0,0,0,0,0,0,0,22,0,9,0,0,0,0,0,0,129,0,0,0,0,0,0,0,0,0,0,0,0,0,0,0,0,0,0,0,0,0,0,0,0,0,0,0,0,0,0,0,0,0,0,0,0,0,0,0,0,0,0,0,0,0,0,0,0,0,0,0,0,0,27,0,0,0,0,0,0,0,0,0,31,0,0,0,0,0,0,88,0,0,0,0,0,4,0,0,0,86,0,0,0,0,85,0,0,0,0,0,0,0,0,0,0,0,0,0,0,0,0,0,0,0,0,0,0,0,0,0,0,0,0,0,0,0,0,0,67,0,119,0,0,134,0,0,0,0,0,0,0,0,0,0,0,0,0,0,0,0,0,0,0,0,0,0,0,0,0,0,0,0,0,0,0,0,0,0,89,29,0,0,0,0,0,0,0,0,0,0,0,0,90,0,0,0,0,0,0,0,0,0,0,0,0,0,0,0,0,0,0,0,0,0,0,0,0,0,0,0,0,0,0,0,0,0,0,0,0,0,0,0,0,0,0,0,0,0,0,0,39,74,70,0,0,0,0,0,0,0,0,0,0,0,0,0,0,0,0,0,0,0,0,0,0,0,0,0,0,0,0,0,0,0,0,0,0,0,0,0,0,0,0,0,0,0,0,0,0,0,0,0,0,0,0,0,0,0,0,0,0,0,33,0,0,0,108,0,0,0,0,0,53,0,79,0,43,0,0,0,0,0,0,0,0,0,0,0,0,0,0,100,0,0,0,0,59,0,0,0,0,0,0,0,0,0,0,34,0,0,0,0,0,0,0,0,0,0,0,0,0,0,0,0,0,0,0,0,0,0,0,0,0,0,0,0,0,0,0,0,0,0,0,0,0,84,0,0,0,0,0]:List Nat).getD n 0,fun n=>([0,0,0,0,0,0,0,0,0,0,0,0,0,0,0,0,0,0,0,0,0,0,0,0,0,0,0,0,0,0,0,0,0,0,0,0,0,0,0,0,0,0,0,0,0,0,0,0,0,0,0,0,0,0,0,0,0,0,0,0,0,0,0,0,0,0,0,0,0,0,0,0,0,0,0,0,0,0,0,0,0,0,0,0,0,0,0,0,0,0,0,0,0,0,0,0,0,0,0,0,0,0,0,0,0,0,0,0,0,0,0,0,0,0,0,0,0,0,0,0,0,0,0,0,0,0,0,0,0,0,0,0,0,0,0,0,0,0,0,0,0,0,0,0,0,0,0,0,0,0,0,0,0,0,0,0,0,0,0,0,0,0,0,0,0,0,0,0,0,0,0,0,0,0,0,0,0,0,0,0,0,0,0,0,0,0,0,0,0,0,0,0,0,0,0,0,0,0,0,0,0,0,0,0,0,0,0,0,0,0,0,0,0,0,0,0,0,0,0,0,0,0,0,0,0,0,0,0,0,0,0,0,0,0,0,0,0,0,0,0,0,0,0,0,0,0,0,0,0,0,0,0,0,0,0,0,0,0,0,0,0,0,0,0,0,0,0,0,0,0,0,0,0,0,0,0,0,0,0,0,0,0,0,0,0,0,0,0,0,0,0,0,0,0,0,0,0,0,0,0,0,0,0,0,0,0,0,0,0,0,0,0,0,0,0,0,0,0,0,0,0,0,0,0,0,0,0,0,0,0,0,0,0,0,0,0,0,0,0,0,0,0,0,0,0,0,0,0,0,0,0,0,0,0,0,0,0,0,0,0,0,0,0,0,0,0,0,0,0,0,0,0,0,0,0,0,0,0,0,0,0,0,0,0,0,0,0,0,0,0,0,0,0,0,0,0,0,0,0,0,0,0,0,0,0,0,0,0,0,0,0,0,0,0,0,0,0,0,0,0,0,0,0,0,0,0,0,0,0,0,0,0,0,0,0,0,0,0,0,0,0,0,0,0,0,0,0]:List Nat).getD n 0⟩
theorem mix:Tryz.prog.follows .mixedOrders=true:=by kernel_rfl
def Lp:Go.Shelf.Ren:=⟨fun|6=>80|14=>87|15=>88|20=>89|21=>90|22=>91|23=>92|24=>93|25=>94|26=>95|27=>96|28=>97|29=>70|46=>98|47=>99|48=>100|49=>101|50=>102|57=>103|n=>n,fun|0=>0|3=>3|4=>4|5=>5|9=>9|22=>29|24=>67|25=>132|39=>135|45=>141|46=>142|50=>92|53=>148|55=>64|66=>149|70=>153|76=>155|77=>156|n=>n,fun n=>n⟩
theorem Lr:Go.Proofs.SlLaysF0.n6 Tryz.prog Lp where
 mixed:=by kernel_rfl
 f6:=⟨"slices.SortFunc[[][2]int,[2]int]",by decide,Tryz.func80.trans (congrArg some (by kernel_rfl))⟩
 f14:=⟨"slices.pdqsortCmpFunc[[2]int]",by decide,Tryz.func87.trans (congrArg some (by kernel_rfl))⟩
 f15:=Tryz.func88.trans (congrArg some (by kernel_rfl))
 f20:=⟨"slices.insertionSortCmpFunc[[2]int]",by decide,Tryz.func89.trans (congrArg some (by kernel_rfl))⟩
 f21:=⟨"slices.heapSortCmpFunc[[2]int]",by decide,Tryz.func90.trans (congrArg some (by kernel_rfl))⟩
 f22:=⟨"slices.breakPatternsCmpFunc[[2]int]",by decide,Tryz.func91.trans (congrArg some (by kernel_rfl))⟩
 f23:=⟨"slices.choosePivotCmpFunc[[2]int]",by decide,Tryz.func92.trans (congrArg some (by kernel_rfl))⟩
 f24:=⟨"slices.reverseRangeCmpFunc[[2]int]",by decide,Tryz.func93.trans (congrArg some (by kernel_rfl))⟩
 f25:=⟨"slices.partialInsertionSortCmpFunc[[2]int]",by decide,Tryz.func94.trans (congrArg some (by kernel_rfl))⟩
 f26:=⟨"slices.partitionEqualCmpFunc[[2]int]",by decide,Tryz.func95.trans (congrArg some (by kernel_rfl))⟩
 f27:=⟨"slices.partitionCmpFunc[[2]int]",by decide,Tryz.func96.trans (congrArg some (by kernel_rfl))⟩
 f28:=Tryz.func97.trans (congrArg some (by kernel_rfl))
 f29:=Tryz.func70.trans (congrArg some (by kernel_rfl))
 f46:=⟨"slices.siftDownCmpFunc[[2]int]",by decide,Tryz.func98.trans (congrArg some (by kernel_rfl))⟩
 f47:=Tryz.func99.trans (congrArg some (by kernel_rfl))
 f48:=Tryz.func100.trans (congrArg some (by kernel_rfl))
 f49:=⟨"slices.medianAdjacentCmpFunc[[2]int]",by decide,Tryz.func101.trans (congrArg some (by kernel_rfl))⟩
 f50:=⟨"slices.medianCmpFunc[[2]int]",by decide,Tryz.func102.trans (congrArg some (by kernel_rfl))⟩
 f57:=⟨"slices.order2CmpFunc[[2]int]",by decide,Tryz.func103.trans (congrArg some (by kernel_rfl))⟩
 t0:=Tryz.underlying0
 a0:=Tryz.isAgg0
 z0:=Tryz.sizeOf0
 v0:=Tryz.zeroValue0
 t3:=Tryz.underlying3
 a3:=Tryz.isAgg3
 z3:=Tryz.sizeOf3
 v3:=Tryz.zeroValue3
 t4:=Tryz.underlying4
 a4:=Tryz.isAgg4
 z4:=Tryz.sizeOf4
 v4:=Tryz.zeroValue4
 t5:=Tryz.underlying5
 a5:=Tryz.isAgg5
 z5:=Tryz.sizeOf5
 v5:=Tryz.zeroValue5
 t9:=Tryz.underlying9
 a9:=Tryz.isAgg9
 z9:=Tryz.sizeOf9
 v9:=Tryz.zeroValue9
 t22:=Tryz.underlying29
 a22:=Tryz.isAgg29
 z22:=Tryz.sizeOf29
 v22:=Tryz.zeroValue29
 t25:=Tryz.underlying132
 a25:=Tryz.isAgg132
 z25:=Tryz.sizeOf132
 v25:=Tryz.zeroValue132
 t39:=Tryz.underlying135
 a39:=Tryz.isAgg135
 z39:=Tryz.sizeOf135
 v39:=Tryz.zeroValue135
 t45:=Tryz.underlying141
 a45:=Tryz.isAgg141
 z45:=Tryz.sizeOf141
 v45:=Tryz.zeroValue141
 t46:=Tryz.underlying142
 a46:=Tryz.isAgg142
 z46:=Tryz.sizeOf142
 v46:=Tryz.zeroValue142
 t50:=Tryz.underlying92
 a50:=Tryz.isAgg92
 z50:=Tryz.sizeOf92
 v50:=Tryz.zeroValue92
 t53:=Tryz.underlying148
 a53:=Tryz.isAgg148
 z53:=Tryz.sizeOf148
 v53:=Tryz.zeroValue148
 t55:=Tryz.underlying64
 a55:=Tryz.isAgg64
 z55:=Tryz.sizeOf64
 v55:=Tryz.zeroValue64
 t66:=Tryz.underlying149
 a66:=Tryz.isAgg149
 z66:=Tryz.sizeOf149
 v66:=Tryz.zeroValue149
 t70:=Tryz.underlying153
 a70:=Tryz.isAgg153
 z70:=Tryz.sizeOf153
 v70:=Tryz.zeroValue153
 t76:=Tryz.underlying155
 a76:=Tryz.isAgg155
 z76:=Tryz.sizeOf155
 v76:=Tryz.zeroValue155
 t77:=Tryz.underlying156
 a77:=Tryz.isAgg156
 z77:=Tryz.sizeOf156
 v77:=Tryz.zeroValue156
theorem T9:Mq Tryz.prog 81:=by
 intro x y W;obtain⟨x1,x2⟩:=x;obtain⟨y1,y2⟩:=y
 show Calls Tryz.prog 81 #[.agg #[.int .i64 (x1.val:Int),.int .i64 (x2.val:Int)],.agg #[.int .i64 (y1.val:Int),.int .i64 (y2.val:Int)]] W _
 unfold Ei;have w1:IntKind.i64.wrap ((x1.val:Int) -y1.val)=(x1.val:Int) -y1.val:=IntWalk.i64_in _ (by omega);have w2:IntKind.i64.wrap ((x2.val:Int) -y2.val)=(x2.val:Int) -y2.val:=IntWalk.i64_in _ (by omega)
 by_cases h:x1=y1
 ·subst h;simp only[if_true]
  go_enter Tryz.func81,Tryz.ntmps81
  go_wp2
  go_ret
  exact⟨rfl,0,_,by rw[Go.Sort.alloc_eq_grow,Go.Sort.alloc_eq_grow,Go.Sort.grow_grow];rfl⟩
 ·have h':(x1.val:Int)≠(y1.val:Int):=fun e=>h (Fin.ext (by omega));simp only[if_neg h]
  go_enter Tryz.func81,Tryz.ntmps81
  go_wp2
  go_ret
  exact⟨rfl,0,_,by rw[Go.Sort.alloc_eq_grow,Go.Sort.alloc_eq_grow,Go.Sort.grow_grow];rfl⟩
theorem Qp:mb Tryz.prog 80 81:=Jv Lr Tryz.isAgg67 Tryz.sizeOf67 81 (Go.Proofs.enters_of Tryz.func81 (by kernel_rfl) rfl) T9
theorem Ua:aq Tryz.prog 72 (Oh ids) Oi 1:=aq.mk' Tryz.func72 mix (by kernel_rfl) (by kernel_rfl) (by kernel_rfl)
theorem HJ:aq Tryz.prog 43 (tl ids) tn 2:=aq.mk' Tryz.func43 mix (by kernel_rfl) (by kernel_rfl) (by kernel_rfl)
theorem Ls:aq Tryz.prog 17 (yq ids) yt 2:=aq.mk' Tryz.func17 mix (by kernel_rfl) (by kernel_rfl) (by kernel_rfl)
theorem HK:aq Tryz.prog 5 (tt ids) tu 2:=aq.mk' Tryz.func5 mix (by kernel_rfl) (by kernel_rfl) (by kernel_rfl)
theorem Qq:aq Tryz.prog 60 (Fo ids) Fp 2:=aq.mk' Tryz.func60 mix (by kernel_rfl) (by kernel_rfl) (by kernel_rfl)
theorem DL:aq Tryz.prog 50 (oR ids) oS 1:=aq.mk' Tryz.func50 mix (by kernel_rfl) (by kernel_rfl) (by kernel_rfl)
theorem As:aq Tryz.prog 44 (mg ids) mh 2:=aq.mk' Tryz.func44 mix (by kernel_rfl) (by kernel_rfl) (by kernel_rfl)
theorem HL:aq Tryz.prog 38 (tG ids) tH 1:=aq.mk' Tryz.func38 mix (by kernel_rfl) (by kernel_rfl) (by kernel_rfl)
theorem Qr:aq Tryz.prog 14 (FD ids) FE 1:=aq.mk' Tryz.func14 mix (by kernel_rfl) (by kernel_rfl) (by kernel_rfl)
theorem DM:aq Tryz.prog 45 (py ids) pz 1:=aq.mk' Tryz.func45 mix (by kernel_rfl) (by kernel_rfl) (by kernel_rfl)
theorem Cm:aq Tryz.prog 58 (yD ids) yE 1:=aq.mk' Tryz.func58 mix (by kernel_rfl) (by kernel_rfl) (by kernel_rfl)
theorem qH:lu Tryz.prog 71 (jl ids) jm 2:=lu.mk' Tryz.func71 (by kernel_rfl) (by kernel_rfl) (by kernel_rfl)
theorem HM:aq Tryz.prog 82 (tP ids) tQ 1:=aq.mk' Tryz.func82 mix (by kernel_rfl) (by kernel_rfl) (by kernel_rfl)
theorem xH:aq Tryz.prog 83 (jQ ids) jR 1:=aq.mk' Tryz.func83 mix (by kernel_rfl) (by kernel_rfl) (by kernel_rfl)
theorem Lt:aq Tryz.prog 52 (yL ids) yM 2:=aq.mk' Tryz.func52 mix (by kernel_rfl) (by kernel_rfl) (by kernel_rfl)
theorem HN:aq Tryz.prog 84 (tR ids) tT 1:=aq.mk' Tryz.func84 mix (by kernel_rfl) (by kernel_rfl) (by kernel_rfl)
theorem Au:iz Tryz.prog 85 (mm ids) mq 1 121:=iz.mk' Tryz.func85 mix (by kernel_rfl) (by kernel_rfl) (by kernel_rfl)
theorem Lu:aq Tryz.prog 66 (yS ids) yT 2:=aq.mk' Tryz.func66 mix (by kernel_rfl) (by kernel_rfl) (by kernel_rfl)
theorem Lv:aq Tryz.prog 19 (yU ids) yV 1:=aq.mk' Tryz.func19 mix (by kernel_rfl) (by kernel_rfl) (by kernel_rfl)
theorem Lw:aq Tryz.prog 10 (yH ids) yI 2:=aq.mk' Tryz.func10 mix (by kernel_rfl) (by kernel_rfl) (by kernel_rfl)
theorem Qs:aq Tryz.prog 76 (F0 ids) F1 0:=aq.mk' Tryz.func76 mix (by kernel_rfl) (by kernel_rfl) (by kernel_rfl)
theorem Lx:aq Tryz.prog 86 (yW ids) yX 2:=aq.mk' Tryz.func86 mix (by kernel_rfl) (by kernel_rfl) (by kernel_rfl)
theorem HO:aq Tryz.prog 75 (tZ ids) ua 2:=aq.mk' Tryz.func75 mix (by kernel_rfl) (by kernel_rfl) (by kernel_rfl)
theorem qJ:aq Tryz.prog 77 (mu ids) mw 1:=aq.mk' Tryz.func77 mix (by kernel_rfl) (by kernel_rfl) (by kernel_rfl)
theorem DN:aq Tryz.prog 78 (pk ids) pn 2:=aq.mk' Tryz.func78 mix (by kernel_rfl) (by kernel_rfl) (by kernel_rfl)
theorem r7:aq Tryz.prog 62 (iZ ids) i6 1:=aq.mk' Tryz.func62 mix (by kernel_rfl) (by kernel_rfl) (by kernel_rfl)
theorem DO:aq Tryz.prog 65 (pr ids) pt 2:=aq.mk' Tryz.func65 mix (by kernel_rfl) (by kernel_rfl) (by kernel_rfl)
theorem Ly:aq Tryz.prog 79 (y0 ids) y3 2:=aq.mk' Tryz.func79 mix (by kernel_rfl) (by kernel_rfl) (by kernel_rfl)
theorem Lz:aq Tryz.prog 63 (y4 ids) y5 2:=aq.mk' Tryz.func63 mix (by kernel_rfl) (by kernel_rfl) (by kernel_rfl)
theorem LA:aq Tryz.prog 64 (y6 ids) y7 2:=aq.mk' Tryz.func64 mix (by kernel_rfl) (by kernel_rfl) (by kernel_rfl)
theorem LB:aq Tryz.prog 39 (zf ids) zg 3:=aq.mk' Tryz.func39 mix (by kernel_rfl) (by kernel_rfl) (by kernel_rfl)
theorem HP:aq Tryz.prog 52 (tJ ids) tK 2:=aq.mk' Tryz.func52 mix (by kernel_rfl) (by kernel_rfl) (by kernel_rfl)
theorem HQ:aq Tryz.prog 30 (tL ids) tM 2:=aq.mk' Tryz.func30 mix (by kernel_rfl) (by kernel_rfl) (by kernel_rfl)
theorem HR:aq Tryz.prog 21 (tN ids) tO 1:=aq.mk' Tryz.func21 mix (by kernel_rfl) (by kernel_rfl) (by kernel_rfl)
theorem Cn:aq Tryz.prog 68 (pL ids) pM 2:=aq.mk' Tryz.func68 mix (by kernel_rfl) (by kernel_rfl) (by kernel_rfl)
theorem Co:aq Tryz.prog 46 (pN ids) pO 2:=aq.mk' Tryz.func46 mix (by kernel_rfl) (by kernel_rfl) (by kernel_rfl)
theorem xI:aq Tryz.prog 48 (uk ids) um 1:=aq.mk' Tryz.func48 mix (by kernel_rfl) (by kernel_rfl) (by kernel_rfl)
theorem DP:aq Tryz.prog 47 (pP ids) pQ 1:=aq.mk' Tryz.func47 mix (by kernel_rfl) (by kernel_rfl) (by kernel_rfl)
theorem DQ:aq Tryz.prog 57 (pR ids) pS 1:=aq.mk' Tryz.func57 mix (by kernel_rfl) (by kernel_rfl) (by kernel_rfl)
theorem LC:aq Tryz.prog 49 (zh ids) zi 2:=aq.mk' Tryz.func49 mix (by kernel_rfl) (by kernel_rfl) (by kernel_rfl)
theorem HS:aq Tryz.prog 22 (uq ids) ur 1:=aq.mk' Tryz.func22 mix (by kernel_rfl) (by kernel_rfl) (by kernel_rfl)
theorem HT:aq Tryz.prog 32 (uu ids) uw 2:=aq.mk' Tryz.func32 mix (by kernel_rfl) (by kernel_rfl) (by kernel_rfl)
theorem LD:iz Tryz.prog 33 (zp ids) zq 2 131:=iz.mk' Tryz.func33 mix (by kernel_rfl) (by kernel_rfl) (by kernel_rfl)
theorem HU:aq Tryz.prog 51 (uB ids) uC 2:=aq.mk' Tryz.func51 mix (by kernel_rfl) (by kernel_rfl) (by kernel_rfl)
theorem Qt:aq Tryz.prog 52 (Gp ids) Gq 2:=aq.mk' Tryz.func52 mix (by kernel_rfl) (by kernel_rfl) (by kernel_rfl)
theorem HV:aq Tryz.prog 26 (uD ids) uE 1:=aq.mk' Tryz.func26 mix (by kernel_rfl) (by kernel_rfl) (by kernel_rfl)
theorem HW:aq Tryz.prog 25 (nY ids) nZ 2:=aq.mk' Tryz.func25 mix (by kernel_rfl) (by kernel_rfl) (by kernel_rfl)
theorem LF:aq Tryz.prog 24 (uJ ids) uK 3:=aq.mk' Tryz.func24 mix (by kernel_rfl) (by kernel_rfl) (by kernel_rfl)
theorem LG:aq Tryz.prog 23 (zG ids) zH 3:=aq.mk' Tryz.func23 mix (by kernel_rfl) (by kernel_rfl) (by kernel_rfl)
theorem DR:aq Tryz.prog 8 (pW ids) pY 2:=aq.mk' Tryz.func8 mix (by kernel_rfl) (by kernel_rfl) (by kernel_rfl)
theorem LH:aq Tryz.prog 18 (zJ ids) zK 1:=aq.mk' Tryz.func18 mix (by kernel_rfl) (by kernel_rfl) (by kernel_rfl)
theorem LI:aq Tryz.prog 20 (zL ids) zM 1:=aq.mk' Tryz.func20 mix (by kernel_rfl) (by kernel_rfl) (by kernel_rfl)
theorem LJ:aq Tryz.prog 67 (zY ids) zZ 1:=aq.mk' Tryz.func67 mix (by kernel_rfl) (by kernel_rfl) (by kernel_rfl)
theorem HX:aq Tryz.prog 6 (uL ids) uM 3:=aq.mk' Tryz.func6 mix (by kernel_rfl) (by kernel_rfl) (by kernel_rfl)
theorem DS:aq Tryz.prog 55 (oT ids) oU 1:=aq.mk' Tryz.func55 mix (by kernel_rfl) (by kernel_rfl) (by kernel_rfl)
theorem HY:aq Tryz.prog 70 (tf ids) tg 1:=aq.mk' Tryz.func70 mix (by kernel_rfl) (by kernel_rfl) (by kernel_rfl)
theorem LK:aq Tryz.prog 53 (yu ids) yv 1:=aq.mk' Tryz.func53 mix (by kernel_rfl) (by kernel_rfl) (by kernel_rfl)
theorem LL:aq Tryz.prog 69 (yo ids) yp 1:=aq.mk' Tryz.func69 mix (by kernel_rfl) (by kernel_rfl) (by kernel_rfl)
theorem Ia:iz Tryz.prog 54 (tD ids) tE 1 16:=iz.mk' Tryz.func54 mix (by kernel_rfl) (by kernel_rfl) (by kernel_rfl)
theorem Ib:aq Tryz.prog 42 (uN ids) uO 2:=aq.mk' Tryz.func42 mix (by kernel_rfl) (by kernel_rfl) (by kernel_rfl)
theorem DT:aq Tryz.prog 40 (qe ids) qf 2:=aq.mk' Tryz.func40 mix (by kernel_rfl) (by kernel_rfl) (by kernel_rfl)
theorem LM:aq Tryz.prog 16 (u0 ids) u2 1:=aq.mk' Tryz.func16 mix (by kernel_rfl) (by kernel_rfl) (by kernel_rfl)
theorem Ic:aq Tryz.prog 41 (u3 ids) u4 1:=aq.mk' Tryz.func41 mix (by kernel_rfl) (by kernel_rfl) (by kernel_rfl)
theorem DU:aq Tryz.prog 15 (qj ids) qk 2:=aq.mk' Tryz.func15 mix (by kernel_rfl) (by kernel_rfl) (by kernel_rfl)
theorem DV:aq Tryz.prog 73 (p6 ids) p7 3:=aq.mk' Tryz.func73 mix (by kernel_rfl) (by kernel_rfl) (by kernel_rfl)
theorem Ie:aq Tryz.prog 59 (uP ids) uQ 3:=aq.mk' Tryz.func59 mix (by kernel_rfl) (by kernel_rfl) (by kernel_rfl)
theorem Ig:aq Tryz.prog 35 (uR ids) uS 1:=aq.mk' Tryz.func35 mix (by kernel_rfl) (by kernel_rfl) (by kernel_rfl)
theorem LN:aq Tryz.prog 74 (zQ ids) zR 2:=aq.mk' Tryz.func74 mix (by kernel_rfl) (by kernel_rfl) (by kernel_rfl)
theorem LO:aq Tryz.prog 61 (zT ids) zW 2:=aq.mk' Tryz.func61 mix (by kernel_rfl) (by kernel_rfl) (by kernel_rfl)
theorem Ih:aq Tryz.prog 36 (uU ids) uV 4:=aq.mk' Tryz.func36 mix (by kernel_rfl) (by kernel_rfl) (by kernel_rfl)
theorem Ii:aq Tryz.prog 37 (uW ids) uX 3:=aq.mk' Tryz.func37 mix (by kernel_rfl) (by kernel_rfl) (by kernel_rfl)
theorem Ij:aq Tryz.prog 13 (uY ids) uZ 2:=aq.mk' Tryz.func13 mix (by kernel_rfl) (by kernel_rfl) (by kernel_rfl)
theorem LP:aq Tryz.prog 7 (Ac ids) Ad 1:=aq.mk' Tryz.func7 mix (by kernel_rfl) (by kernel_rfl) (by kernel_rfl)
theorem LQ:aq Tryz.prog 4 (Af ids) Ag 0:=aq.mk' Tryz.func4 mix (by kernel_rfl) (by kernel_rfl) (by kernel_rfl)
theorem DW:aq Tryz.prog 27 (qp ids) qq 1:=aq.mk' Tryz.func27 mix (by kernel_rfl) (by kernel_rfl) (by kernel_rfl)
theorem LR:aq Tryz.prog 56 (Ak ids) Al 2:=aq.mk' Tryz.func56 mix (by kernel_rfl) (by kernel_rfl) (by kernel_rfl)
theorem DX:aq Tryz.prog 28 (qt ids) qu 1:=aq.mk' Tryz.func28 mix (by kernel_rfl) (by kernel_rfl) (by kernel_rfl)
theorem Ik:aq Tryz.prog 29 (u9 ids) vb 1:=aq.mk' Tryz.func29 mix (by kernel_rfl) (by kernel_rfl) (by kernel_rfl)
theorem DY:aq Tryz.prog 34 (qw ids) qx 1:=aq.mk' Tryz.func34 mix (by kernel_rfl) (by kernel_rfl) (by kernel_rfl)
theorem LS:aq Tryz.prog 12 (Ao ids) Ap 1:=aq.mk' Tryz.func12 mix (by kernel_rfl) (by kernel_rfl) (by kernel_rfl)
theorem Il:aq Tryz.prog 31 (ve ids) vf 3:=aq.mk' Tryz.func31 mix (by kernel_rfl) (by kernel_rfl) (by kernel_rfl)
theorem DZ:aq Tryz.prog 9 (qC ids) qD 1:=aq.mk' Tryz.func9 mix (by kernel_rfl) (by kernel_rfl) (by kernel_rfl)
theorem LU:aq Tryz.prog 11 (zu ids) zv 2:=aq.mk' Tryz.func11 mix (by kernel_rfl) (by kernel_rfl) (by kernel_rfl)
theorem tz':mc Tryz.prog ids (ids.f 126):=Sa Ua
theorem Av:iU Tryz.prog (ids.f 129):=Fs HJ
theorem xJ:fP Tryz.prog (ids.f 130):=JG (ι:=ids) Ls Av
theorem Im:fc Tryz.prog (ids.f 131):=Fu (ι:=ids) HK xJ
theorem Ub:nK Tryz.prog (ids.f 132):=Ov (ι:=ids) Qq Av
theorem vi:fu Tryz.prog (ids.f 133):=CL DL
theorem xK:fQ Tryz.prog (ids.f 141):=yF (ι:=ids) As Av
theorem aae:tI Tryz.prog (ids.f 143):=OB (ι:=ids) Qr (FF HL)
theorem Cp:ig Tryz.prog (ids.f 306):=Dn DM
theorem Uc:pj Tryz.prog ids (ids.f 201):=JV (ι:=ids) Lu Qp (FM HM) (wM xH) (FU (ι:=ids) HN (JS Lt)) (Db (ι:=ids) (g:=0) Au (Bu (ι:=ids) Cm) (by kernel_rfl) qH tz' Ub Im)
theorem Nb:nP Tryz.prog (ids.f 165):=JR Lw
theorem LV:mz Tryz.prog (ids.f 75):=Dh (ι:=ids) r7 (OU Qs) (F4 (ι:=ids) HO (JW Lx)) (pq qJ) (Dg DN (pq qJ))
theorem LW:mD Tryz.prog (ids.f 284):=Dm DO
theorem Nc:cP pE Tryz.prog (ids.f 204):=F9 oG oH Lv
theorem Ud:pC gE Tryz.prog (ids.f 301):=J8 i7 Ly
theorem Ue:pD gE Tryz.prog (ids.f 302):=J9 (ι:=ids) Lz Ud
theorem Uf:pG Tryz.prog (ids.f 305):=Ka LA
theorem Ug:pI Tryz.prog ids (ids.f 307):=Kg (ι:=ids) LB ⟨y8 r7 LV,Ue,Uf,xJ,vi,xK,Cp,LW,Uc⟩
theorem Io:ly Tryz.prog (ids.f 158):=FJ (ι:=ids) HQ (FI HP)
theorem mT:dA Tryz.prog (ids.f 159):=FK (ι:=ids) HR
theorem Nd:lI Tryz.prog (ids.f 354):=Ki (ι:=ids) Co (Kh Cn)
theorem L5:gH Tryz.prog (ids.f 356):=Dr (ι:=ids) DP (xh xI)
theorem Ma:gH Tryz.prog (ids.f 357):=Ds (ι:=ids) DQ (xh xI)
theorem vj:fg Tryz.prog ids (ids.f 360):=Gg (ι:=ids) HS ⟨xJ,vi,xK,Cp,Nd,L5,Kj LC⟩
theorem Ip:jr Tryz.prog ids (ids.f 361):=Gm (ι:=ids) HT vj Nd Ma
theorem Nf:gB Tryz.prog (ids.f 137) (ids.f 136):=Bu (ι:=ids) Cm
theorem Iq:jc Tryz.prog ids (ids.f 363):=Kr (ι:=ids) LD ⟨xJ,Nf,by kernel_rfl,qH,tz'⟩
theorem Qu:mI Tryz.prog ids (ids.f 364):=Gn (ι:=ids) HU Ip Iq
theorem Cq:ib Tryz.prog (ids.f 134):=CM (ι:=ids) DS vi (Fl (ι:=ids) HY)
theorem Ir:iV Tryz.prog (ids.f 135):=JL (ι:=ids) LK (JD LL)
theorem Aw:gC Tryz.prog ids (ids.f 139):=FC (ι:=ids) (g:=0) Ia Ir Nf (by kernel_rfl) (o9 (ι:=ids) qH tz')
theorem Uh:Gz Tryz.prog ids:=⟨Gr HV,Qu,Pp Qt,mT,Ir,Aw⟩
theorem Ui:mK Tryz.prog (ids.f 371):=Kv (ι:=ids) LG mT
theorem vk:dQ Tryz.prog ids (ids.f 373):=Dv (ι:=ids) DR ⟨vj,Ui,HW,LF,Uh⟩
theorem Ng:gK Tryz.prog (ids.f 374):=Kx LH
theorem Nh:cP eJ Tryz.prog (ids.f 375):=Ky lG pw LI
theorem Ax:dg Tryz.prog ids (ids.f 376):=GI (ι:=ids) HX ⟨Ng,Nc,Nh,mT,vj⟩
theorem Is:js Tryz.prog ids (ids.f 377):=GK (ι:=ids) Ib Ax.yd vk.yd
theorem Mb:qh Tryz.prog (ids.f 378):=Dz (ι:=ids) DT Cq xJ
theorem Uj:qi Tryz.prog ids (ids.f 382):=KL (ι:=ids) LM Is
theorem Qv:ju Tryz.prog (ids.f 390):=GY (ι:=ids) Ic (KM i7 w7 LJ) Nc Nh
theorem Mc:jZ Tryz.prog ids (ids.f 391):=DB (ι:=ids) DU ⟨Ug,Mb,Qv,Ng,Is⟩
theorem Qw:mL Tryz.prog (ids.f 354):=GM (ι:=ids) Co (GL Cn)
theorem Qx:mM Tryz.prog (ids.f 433):=GN (ι:=ids) Ie (Dw DV) Qw
theorem Qy:mN Tryz.prog (ids.f 434):=GP (ι:=ids) Ig Qx
theorem Uk:mP Tryz.prog (ids.f 227):=GS (ι:=ids) LO (GR LN)
theorem Qz:qd Tryz.prog ids (ids.f 435):=GU (ι:=ids) Ih ⟨Aw,mT⟩
theorem QA:mQ Tryz.prog (ids.f 436):=GV (ι:=ids) Ii ⟨Uk,Ub,Ir⟩
theorem It:jt Tryz.prog ids (ids.f 437):=GW (ι:=ids) Ij ⟨vj,Qy,Qz,QA,Iq,mT⟩
theorem Nj:jd Tryz.prog (ids.f 443):=KU (ι:=ids) LP
theorem Ul:qm Tryz.prog ids (ids.f 444):=Lb (ι:=ids) LQ ⟨Nj,aae,Ax,vk,It,Mc,Uj,Nb⟩
theorem Um:pU Tryz.prog ids (ids.f 365):=Kt (ι:=ids) LU Ip Iq Io
theorem Cr:ik Tryz.prog (ids.f 144):=DC (ι:=ids) DW Cq
theorem Nk:jf Tryz.prog (ids.f 147) 257:=Hi (ι:=ids) LR rfl 257
theorem Iu:lO Tryz.prog (ids.f 148):=Hk (ι:=ids) Ik Nk.toH
theorem Cs:oa Tryz.prog ids (ids.f 146):=DD (ι:=ids) DX Aw
theorem Md:mR Tryz.prog (ids.f 152):=DE DY
theorem Un:qz Tryz.prog ids (ids.f 153):=Lg (ι:=ids) LS Cr Cs Iu Md
theorem QB:qA Tryz.prog (ids.f 161):=Hv (ι:=ids) Il Nk mT
theorem Me:j0 Tryz.prog ids (ids.f 162):=DH (ι:=ids) DZ Cr Cs Iu Io QB
abbrev xL:List (String×DataW Unit):=[("math/bits.deBruijn64tab",Rows.laid_math_bits_deBruijn64tab)]
theorem own:ownKnob Tryz.prog.godebug=none:=by kernel_rfl
theorem aaf:Tryz.prog.globalNamed "math/bits.deBruijn64tab" =some 0:=by kernel_rfl
theorem aag:(Tryz.prog.globals[0]?).map (·.type)=some 136/\Tryz.prog.underlying 136=some (.array 64 5)/\Tryz.prog.underlying 5=some (.int .u8)/\Tryz.prog.cellsOf 5=1/\Tryz.prog.cellsOf 136=64:=⟨by kernel_rfl,by kernel_rfl,by kernel_rfl,by kernel_rfl,by kernel_rfl⟩
theorem aah:(Rows.laid_math_bits_deBruijn64tab:DataW Unit)=.agg ((JE.map fun n:Nat=>(n:Int)).map fun x=>.lit (.int .u8 x)):=rfl
theorem Mf {W:World} (h:laidMetH Tryz.prog xL W):br ids W.heap:=by
 rw[MakeChecks.laidMetH_plain _ _ _ (by kernel_rfl)]at h;obtain⟨ps,⟨g0,t0,cs0,f0,p0,q0,hg0,Xd,wR,hd0,rfl,rfl⟩,_,hz⟩:=h;obtain rfl:=Option.some.inj (aaf.symm.trans hg0);obtain⟨a0,b0,c0,d0,i0⟩:=aag;obtain rfl:=Option.some.inj (a0.symm.trans Xd);have hz':∀b off,MemPlace.cell b off∈_->∃c t,W.heap[b]?=some (.cells c t (0,0)):=fun b off h=>(hz b off h).1;exact DK hg0 wR hd0 aah b0 c0 d0 i0 rfl (by omega) (fun x hx=>by simp only[List.mem_append];exact .inl (.inl hx)) hz'
theorem Iv (os:Os) (args:Array Value):laidMetH Tryz.prog xL ((World.doorLaid Tryz.prog 4000 os).forCall (fun _ _=>0) ⟨#[],args,[]⟩).memory:=
 laidMetH_of_parts3 (fuel:=8) (laidMet_of_run' 8 (by kernel_rfl) (by kernel_rfl)) (by kernel_rfl) (by kernel_rfl)
theorem laidOut:laidOutB Tryz.prog=true:=by kernel_rfl
theorem Uo:Tryz.prog.underlying 4=some .bool:=by kernel_rfl
theorem Up:Tryz.prog.cellsOf 5=1:=by kernel_rfl
theorem Uq:Tryz.prog.underlying 5=some (.int .u8):=by kernel_rfl
end Go.Proofs.YteeemadonfcliaaGreatDoor

/- Lemmas of ours. No conditions. -/
import Derived.Test.YteeemadonfcliabGreatDoorRows
import Derived.Test.YteeemadonfcliabGreatDoorTie
import Derived.Test.YteeemadonfcliabGreatDoorCards
import Derived.Test.YteeemadonfcliabGreatDoorMgQB
import Derived.Test.YteeemadonfcliabGreatDoorMgHArg
import Derived.SevenTiedAt
set_option maxRecDepth 100000
namespace Go.Proofs.YteeemadonfcliabGreatDoor
open Go.ChangeShapes Go.WideShapes Go.ChangeAt Go.WideElems Go.RowKit Go.Mg
def ids:aC:=⟨fun n=>([0,0,0,0,0,0,0,0,0,0,0,0,0,0,0,0,0,0,0,0,0,0,0,0,0,0,0,0,0,0,0,0,0,0,0,0,0,0,0,0,0,0,0,0,0,0,0,0,0,0,0,0,0,0,0,0,0,0,0,0,0,0,0,0,0,0,0,0,83,0,103,82,84,85,0,52,0,0,0,0,0,0,0,0,0,0,0,0,0,0,0,0,0,0,0,0,0,0,0,0,0,0,0,0,0,0,0,0,0,0,0,0,0,0,0,0,0,0,0,0,0,0,0,0,97,0,72,94,0,87,55,76,80,57,61,69,71,37,0,70,0,58,42,15,0,0,0,0,0,0,0,0,0,0,0,0,0,68,77,31,0,0,0,0,0,12,0,0,0,0,0,0,0,0,0,0,0,0,0,0,0,0,0,0,0,0,0,0,0,0,0,0,90,91,0,92,0,93,88,0,89,60,0,0,29,0,0,0,0,0,0,0,0,0,0,0,0,0,0,0,0,0,0,0,0,0,102,81,0,0,0,0,0,0,0,0,0,0,0,0,0,0,0,0,0,0,0,0,0,0,0,0,0,0,0,0,0,0,0,0,0,0,0,0,0,0,0,0,0,0,0,0,0,0,0,0,0,0,0,0,0,0,51,22,56,0,50,49,0,0,0,0,20,0,0,21,0,0,0,23,5,86,53,98,74,54,59,24,0,0,0,0,73,75,38,0,99,100,0,0,78,0,0,0,0,0,0,0,0,0,0,0,0,0,0,0,0,0,0,0,0,0,0,0,0,0,0,0,0,0,0,0,0,95,63,65,64,106,0,66,32,96,0,47,67,0,44,35,0,43,0,33,0,17,27,30,7,28,25,8,41,137,19,39,0,11,40,0,14,62,26,6,0,13,0,0,0,0,0,0,0,0,0,0,0,0,0,0,0,0,0,0,0,0,0,0,0,0,0,0,0,0,0,0,0,0,0,0,0,0,0,0,101,79,45,46,48,18,34,9,36,0,10,16,4,3]:List Nat).getD n 0,fun n=>([0,0,0,0,0,0,0,0,0,0,0,0,0,0,0,0,0,0,0,5,0,0,0,0,0,0,3,0,75,0,0,0,0,0,0,0,0,0,0,0,0,0,0,0,0,0,0,0,0,120,0,0,0,0,0,0,0,0,0,0,0,0,0,0,0,22,0,9,0,0,0,0,0,0,157,0,0,0,0,0,0,0,0,0,0,0,0,0,0,0,0,0,0,0,0,0,0,0,0,0,0,0,0,0,0,0,0,0,0,0,0,0,0,0,0,0,0,0,0,0,0,0,0,0,0,0,0,0,62,0,0,0,0,0,0,0,0,0,45,0,0,0,0,0,0,0,0,0,0,0,0,4,0,0,0,0,0,0,0,0,0,0,0,0,0,0,0,0,0,0,0,0,0,0,0,0,0,0,0,0,0,0,0,0,0,0,0,0,0,0,0,0,0,0,87,0,132,0,0,163,0,0,0,0,0,0,0,0,0,0,0,0,0,0,0,0,0,0,0,0,0,0,0,0,0,0,0,0,0,0,0,0,0,0,150,29,0,0,0,0,0,0,0,0,0,0,0,0,0,0,0,0,0,0,0,0,0,0,0,0,0,0,0,0,0,0,0,0,0,0,0,0,0,0,0,0,0,0,0,0,0,0,0,0,0,0,0,0,25,37,118,122,0,0,0,0,32,108,90,0,0,0,0,0,0,0,0,0,0,0,0,0,0,0,0,0,0,0,147,168,0,0,0,0,0,0,0,0,0,0,0,0,0,0,0,0,0,0,0,0,0,0,0,0,0,0,0,0,0,0,0,0,0,0,0,0,0,0,47,0,0,0,151,0,0,0,0,0,115,0,110,0,67,0,0,0,0,0,0,0,0,0,0,0,0,0,0,83,0,0,0,0,41,0,0,0,0,0,0,0,0,0,59,42,0,0,0,0,0,0,0,0,0,0,0,0,0,0,0,0,0,0,0,0,0,0,0,0,0,0,0,0,0,0,0,0,0,0,0,0,0,53,0,0,0,0]:List Nat).getD n 0,fun n=>([0,0,0,0,0,0,0,0,0,0,0,0,0,0,0,0,0,0,0,0,0,0,0,0,0,0,0,0,0,0,0,0,0,0,0,0,0,0,0,0,0,0,0,0,0,0,0,0,0,0,0,0,0,0,0,0,0,0,0,0,0,0,0,0,0,0,0,0,0,0,0,0,0,0,0,0,0,0,0,0,0,0,0,0,0,0,0,0,0,0,0,0,0,0,0,0,0,0,0,0,0,0,0,0,0,0,0,0,0,0,0,0,0,0,0,0,0,0,0,0,0,0,0,0,0,0,0,0,0,0,0,0,0,0,0,0,0,0,0,0,0,0,0,0,0,0,0,0,0,0,0,0,0,0,0,0,0,0,0,0,0,0,0,0,0,0,0,0,0,0,0,0,0,0,0,0,0,0,0,0,0,0,0,0,0,0,0,0,0,0,0,0,0,0,0,0,0,0,0,0,0,0,0,0,0,0,0,0,0,0,0,0,0,0,0,0,0,0,0,0,0,0,0,0,0,0,0,0,0,0,0,0,0,0,0,0,0,0,0,0,0,0,0,0,0,0,0,0,0,0,0,0,0,0,0,0,0,0,0,0,0,0,0,0,0,0,0,0,0,0,0,0,0,0,0,0,0,0,0,0,0,0,0,0,0,0,0,0,0,0,0,0,0,0,0,0,0,0,0,0,0,0,0,0,0,0,0,0,0,0,0,0,0,0,0,0,0,0,0,0,0,0,0,0,0,0,0,0,0,0,0,0,0,0,0,0,0,0,0,0,0,0,0,0,0,0,0,0,0,0,0,0,0,0,0,0,0,0,0,0,0,0,0,0,0,0,0,0,0,0,0,0,0,0,0,0,0,0,0,0,0,0,0,0,0,0,0,0,0,0,0,0,0,0,0,0,0,0,0,0,0,0,0,0,0,0,0,0,0,0,0,0,0,0,0,0,0,0,0,0,0,0,0,0,0,0,0,0,0,0,0,0,0,0,0,0,0,0,0,0,0,0,0,0,0,0]:List Nat).getD n 0⟩
theorem mix:Tryz.prog.follows .mixedOrders=true:=by kernel_rfl
def PW:Go.Shelf.Ren:=⟨fun|6=>88|14=>104|15=>105|20=>107|21=>108|22=>109|23=>110|24=>111|25=>112|26=>113|27=>114|28=>115|29=>94|46=>116|47=>117|48=>118|49=>119|50=>120|57=>121|n=>n,fun|0=>0|3=>3|4=>4|5=>5|9=>9|22=>29|24=>87|25=>161|39=>123|45=>174|46=>175|50=>111|53=>181|55=>75|66=>182|70=>186|76=>188|77=>189|n=>n,fun n=>n⟩
theorem PY:Go.Proofs.SlLaysF0.n6 Tryz.prog PW where
 mixed:=by kernel_rfl
 f6:=⟨"slices.SortFunc[[][2]int,[2]int]",by decide,Tryz.func88.trans (congrArg some (by kernel_rfl))⟩
 f14:=⟨"slices.pdqsortCmpFunc[[2]int]",by decide,Tryz.func104.trans (congrArg some (by kernel_rfl))⟩
 f15:=Tryz.func105.trans (congrArg some (by kernel_rfl))
 f20:=⟨"slices.insertionSortCmpFunc[[2]int]",by decide,Tryz.func107.trans (congrArg some (by kernel_rfl))⟩
 f21:=⟨"slices.heapSortCmpFunc[[2]int]",by decide,Tryz.func108.trans (congrArg some (by kernel_rfl))⟩
 f22:=⟨"slices.breakPatternsCmpFunc[[2]int]",by decide,Tryz.func109.trans (congrArg some (by kernel_rfl))⟩
 f23:=⟨"slices.choosePivotCmpFunc[[2]int]",by decide,Tryz.func110.trans (congrArg some (by kernel_rfl))⟩
 f24:=⟨"slices.reverseRangeCmpFunc[[2]int]",by decide,Tryz.func111.trans (congrArg some (by kernel_rfl))⟩
 f25:=⟨"slices.partialInsertionSortCmpFunc[[2]int]",by decide,Tryz.func112.trans (congrArg some (by kernel_rfl))⟩
 f26:=⟨"slices.partitionEqualCmpFunc[[2]int]",by decide,Tryz.func113.trans (congrArg some (by kernel_rfl))⟩
 f27:=⟨"slices.partitionCmpFunc[[2]int]",by decide,Tryz.func114.trans (congrArg some (by kernel_rfl))⟩
 f28:=Tryz.func115.trans (congrArg some (by kernel_rfl))
 f29:=Tryz.func94.trans (congrArg some (by kernel_rfl))
 f46:=⟨"slices.siftDownCmpFunc[[2]int]",by decide,Tryz.func116.trans (congrArg some (by kernel_rfl))⟩
 f47:=Tryz.func117.trans (congrArg some (by kernel_rfl))
 f48:=Tryz.func118.trans (congrArg some (by kernel_rfl))
 f49:=⟨"slices.medianAdjacentCmpFunc[[2]int]",by decide,Tryz.func119.trans (congrArg some (by kernel_rfl))⟩
 f50:=⟨"slices.medianCmpFunc[[2]int]",by decide,Tryz.func120.trans (congrArg some (by kernel_rfl))⟩
 f57:=⟨"slices.order2CmpFunc[[2]int]",by decide,Tryz.func121.trans (congrArg some (by kernel_rfl))⟩
 t0:=Tryz.underlying0
 a0:=Tryz.isAgg0
 z0:=Tryz.sizeOf0
 v0:=Tryz.zeroValue0
 t3:=Tryz.underlying3
 a3:=Tryz.isAgg3
 z3:=Tryz.sizeOf3
 v3:=Tryz.zeroValue3
 t4:=Tryz.underlying4
 a4:=Tryz.isAgg4
 z4:=Tryz.sizeOf4
 v4:=Tryz.zeroValue4
 t5:=Tryz.underlying5
 a5:=Tryz.isAgg5
 z5:=Tryz.sizeOf5
 v5:=Tryz.zeroValue5
 t9:=Tryz.underlying9
 a9:=Tryz.isAgg9
 z9:=Tryz.sizeOf9
 v9:=Tryz.zeroValue9
 t22:=Tryz.underlying29
 a22:=Tryz.isAgg29
 z22:=Tryz.sizeOf29
 v22:=Tryz.zeroValue29
 t25:=Tryz.underlying161
 a25:=Tryz.isAgg161
 z25:=Tryz.sizeOf161
 v25:=Tryz.zeroValue161
 t39:=Tryz.underlying123
 a39:=Tryz.isAgg123
 z39:=Tryz.sizeOf123
 v39:=Tryz.zeroValue123
 t45:=Tryz.underlying174
 a45:=Tryz.isAgg174
 z45:=Tryz.sizeOf174
 v45:=Tryz.zeroValue174
 t46:=Tryz.underlying175
 a46:=Tryz.isAgg175
 z46:=Tryz.sizeOf175
 v46:=Tryz.zeroValue175
 t50:=Tryz.underlying111
 a50:=Tryz.isAgg111
 z50:=Tryz.sizeOf111
 v50:=Tryz.zeroValue111
 t53:=Tryz.underlying181
 a53:=Tryz.isAgg181
 z53:=Tryz.sizeOf181
 v53:=Tryz.zeroValue181
 t55:=Tryz.underlying75
 a55:=Tryz.isAgg75
 z55:=Tryz.sizeOf75
 v55:=Tryz.zeroValue75
 t66:=Tryz.underlying182
 a66:=Tryz.isAgg182
 z66:=Tryz.sizeOf182
 v66:=Tryz.zeroValue182
 t70:=Tryz.underlying186
 a70:=Tryz.isAgg186
 z70:=Tryz.sizeOf186
 v70:=Tryz.zeroValue186
 t76:=Tryz.underlying188
 a76:=Tryz.isAgg188
 z76:=Tryz.sizeOf188
 v76:=Tryz.zeroValue188
 t77:=Tryz.underlying189
 a77:=Tryz.isAgg189
 z77:=Tryz.sizeOf189
 v77:=Tryz.zeroValue189
theorem X8:QS Tryz.prog 89:=by
 intro x y W;obtain⟨x1,x2⟩:=x;obtain⟨y1,y2⟩:=y
 show Calls Tryz.prog 89 #[.agg #[.int .i64 (x1.val:Int),.int .i64 (x2.val:Int)],.agg #[.int .i64 (y1.val:Int),.int .i64 (y2.val:Int)]] W _
 unfold Hf;have w1:IntKind.i64.wrap ((x1.val:Int) -y1.val)=(x1.val:Int) -y1.val:=IntWalk.i64_in _ (by omega);have w2:IntKind.i64.wrap ((x2.val:Int) -y2.val)=(x2.val:Int) -y2.val:=IntWalk.i64_in _ (by omega)
 by_cases h:x1=y1
 ·subst h;simp only[if_true]
  go_enter Tryz.func89,Tryz.ntmps89
  go_wp2
  go_ret
  exact⟨rfl,0,_,by rw[Go.Sort.alloc_eq_grow,Go.Sort.alloc_eq_grow,Go.Sort.grow_grow];rfl⟩
 ·have h':(x1.val:Int)≠(y1.val:Int):=fun e=>h (Fin.ext (by omega));simp only[if_neg h]
  go_enter Tryz.func89,Tryz.ntmps89
  go_wp2
  go_ret
  exact⟨rfl,0,_,by rw[Go.Sort.alloc_eq_grow,Go.Sort.alloc_eq_grow,Go.Sort.grow_grow];rfl⟩
theorem Uu:nU Tryz.prog 88 89:=Nr PY Tryz.isAgg87 Tryz.sizeOf87 89 (Go.Proofs.enters_of Tryz.func89 (by kernel_rfl) rfl) X8
theorem X9:an Tryz.prog 72 (SH ids) SI 1:=an.mk' Tryz.func72 mix (by kernel_rfl) (by kernel_rfl) (by kernel_rfl)
theorem Lu:an Tryz.prog 87 (vC ids) vD 2:=an.mk' Tryz.func87 mix (by kernel_rfl) (by kernel_rfl) (by kernel_rfl)
theorem PZ:an Tryz.prog 55 (Bf ids) Bg 2:=an.mk' Tryz.func55 mix (by kernel_rfl) (by kernel_rfl) (by kernel_rfl)
theorem Lv:an Tryz.prog 76 (vE ids) vF 2:=an.mk' Tryz.func76 mix (by kernel_rfl) (by kernel_rfl) (by kernel_rfl)
theorem Uv:an Tryz.prog 80 (It ids) Iu 2:=an.mk' Tryz.func80 mix (by kernel_rfl) (by kernel_rfl) (by kernel_rfl)
theorem GQ:an Tryz.prog 57 (rk ids) rl 1:=an.mk' Tryz.func57 mix (by kernel_rfl) (by kernel_rfl) (by kernel_rfl)
theorem D6:an Tryz.prog 58 (nY ids) nZ 2:=an.mk' Tryz.func58 mix (by kernel_rfl) (by kernel_rfl) (by kernel_rfl)
theorem Lw:an Tryz.prog 42 (vP ids) vQ 1:=an.mk' Tryz.func42 mix (by kernel_rfl) (by kernel_rfl) (by kernel_rfl)
theorem Uw:an Tryz.prog 15 (IH ids) II 1:=an.mk' Tryz.func15 mix (by kernel_rfl) (by kernel_rfl) (by kernel_rfl)
theorem GR:an Tryz.prog 59 (rV ids) rX 1:=an.mk' Tryz.func59 mix (by kernel_rfl) (by kernel_rfl) (by kernel_rfl)
theorem yc:an Tryz.prog 37 (Bx ids) By 1:=an.mk' Tryz.func37 mix (by kernel_rfl) (by kernel_rfl) (by kernel_rfl)
theorem iI:iu Tryz.prog 71 (eP ids) eQ 2:=iu.mk' Tryz.func71 (by kernel_rfl) (by kernel_rfl) (by kernel_rfl)
theorem Lx:an Tryz.prog 90 (vX ids) vY 1:=an.mk' Tryz.func90 mix (by kernel_rfl) (by kernel_rfl) (by kernel_rfl)
theorem Aq:an Tryz.prog 91 (lM ids) lN 1:=an.mk' Tryz.func91 mix (by kernel_rfl) (by kernel_rfl) (by kernel_rfl)
theorem P0:an Tryz.prog 68 (BI ids) BJ 2:=an.mk' Tryz.func68 mix (by kernel_rfl) (by kernel_rfl) (by kernel_rfl)
theorem Ly:an Tryz.prog 92 (vZ ids) v7 1:=an.mk' Tryz.func92 mix (by kernel_rfl) (by kernel_rfl) (by kernel_rfl)
theorem Ea:dx Tryz.prog 93 (oh ids) oj 1 121:=dx.mk' Tryz.func93 mix (by kernel_rfl) (by kernel_rfl) (by kernel_rfl)
theorem P1:an Tryz.prog 60 (BU ids) BV 2:=an.mk' Tryz.func60 mix (by kernel_rfl) (by kernel_rfl) (by kernel_rfl)
theorem P2:an Tryz.prog 29 (Ca ids) Cb 1:=an.mk' Tryz.func29 mix (by kernel_rfl) (by kernel_rfl) (by kernel_rfl)
theorem P3:an Tryz.prog 12 (BG ids) BH 2:=an.mk' Tryz.func12 mix (by kernel_rfl) (by kernel_rfl) (by kernel_rfl)
theorem Ux:an Tryz.prog 83 (I8 ids) I9 0:=an.mk' Tryz.func83 mix (by kernel_rfl) (by kernel_rfl) (by kernel_rfl)
theorem P4:an Tryz.prog 103 (Cc ids) Cd 2:=an.mk' Tryz.func103 mix (by kernel_rfl) (by kernel_rfl) (by kernel_rfl)
theorem Lz:an Tryz.prog 82 (wk ids) wo 2:=an.mk' Tryz.func82 mix (by kernel_rfl) (by kernel_rfl) (by kernel_rfl)
theorem tI:an Tryz.prog 84 (oq ids) ot 1:=an.mk' Tryz.func84 mix (by kernel_rfl) (by kernel_rfl) (by kernel_rfl)
theorem GS:an Tryz.prog 85 (rI ids) rJ 2:=an.mk' Tryz.func85 mix (by kernel_rfl) (by kernel_rfl) (by kernel_rfl)
theorem uY:an Tryz.prog 52 (jM ids) jN 1:=an.mk' Tryz.func52 mix (by kernel_rfl) (by kernel_rfl) (by kernel_rfl)
theorem LA:an Tryz.prog 51 (wA ids) wB 1:=an.mk' Tryz.func51 mix (by kernel_rfl) (by kernel_rfl) (by kernel_rfl)
theorem GU:an Tryz.prog 22 (rP ids) rQ 1:=an.mk' Tryz.func22 mix (by kernel_rfl) (by kernel_rfl) (by kernel_rfl)
theorem GV:an Tryz.prog 56 (rR ids) rS 2:=an.mk' Tryz.func56 mix (by kernel_rfl) (by kernel_rfl) (by kernel_rfl)
theorem LB:an Tryz.prog 50 (wC ids) wD 2:=an.mk' Tryz.func50 mix (by kernel_rfl) (by kernel_rfl) (by kernel_rfl)
theorem P5:an Tryz.prog 49 (Ci ids) Cj 1:=an.mk' Tryz.func49 mix (by kernel_rfl) (by kernel_rfl) (by kernel_rfl)
theorem LC:an Tryz.prog 20 (wI ids) wJ 1:=an.mk' Tryz.func20 mix (by kernel_rfl) (by kernel_rfl) (by kernel_rfl)
theorem GW:an Tryz.prog 21 (rT ids) rU 2:=an.mk' Tryz.func21 mix (by kernel_rfl) (by kernel_rfl) (by kernel_rfl)
theorem LD:an Tryz.prog 23 (wK ids) wL 1:=an.mk' Tryz.func23 mix (by kernel_rfl) (by kernel_rfl) (by kernel_rfl)
theorem LG:an Tryz.prog 5 (ql ids) qm 1:=an.mk' Tryz.func5 mix (by kernel_rfl) (by kernel_rfl) (by kernel_rfl)
theorem P6:an Tryz.prog 86 (wM ids) wN 2:=an.mk' Tryz.func86 mix (by kernel_rfl) (by kernel_rfl) (by kernel_rfl)
theorem P7:an Tryz.prog 53 (Cx ids) Cy 2:=an.mk' Tryz.func53 mix (by kernel_rfl) (by kernel_rfl) (by kernel_rfl)
theorem P8:an Tryz.prog 74 (Cz ids) CB 2:=an.mk' Tryz.func74 mix (by kernel_rfl) (by kernel_rfl) (by kernel_rfl)
theorem P9:an Tryz.prog 54 (CC ids) CD 2:=an.mk' Tryz.func54 mix (by kernel_rfl) (by kernel_rfl) (by kernel_rfl)
theorem Qa:an Tryz.prog 24 (CI ids) CJ 3:=an.mk' Tryz.func24 mix (by kernel_rfl) (by kernel_rfl) (by kernel_rfl)
theorem LH:an Tryz.prog 73 (wP ids) wQ 1:=an.mk' Tryz.func73 mix (by kernel_rfl) (by kernel_rfl) (by kernel_rfl)
theorem Qc:an Tryz.prog 75 (CK ids) CL 3:=an.mk' Tryz.func75 mix (by kernel_rfl) (by kernel_rfl) (by kernel_rfl)
theorem Qd:an Tryz.prog 38 (CM ids) CN 2:=an.mk' Tryz.func38 mix (by kernel_rfl) (by kernel_rfl) (by kernel_rfl)
theorem Qe:an Tryz.prog 99 (CP ids) CQ 1:=an.mk' Tryz.func99 mix (by kernel_rfl) (by kernel_rfl) (by kernel_rfl)
theorem Qf:an Tryz.prog 100 (CR ids) CS 1:=an.mk' Tryz.func100 mix (by kernel_rfl) (by kernel_rfl) (by kernel_rfl)
theorem Qg:dx Tryz.prog 78 (C6 ids) Da 2 134:=dx.mk' Tryz.func78 mix (by kernel_rfl) (by kernel_rfl) (by kernel_rfl)
theorem Qh:an Tryz.prog 98 (wM ids) wN 2:=an.mk' Tryz.func98 mix (by kernel_rfl) (by kernel_rfl) (by kernel_rfl)
theorem LI:an Tryz.prog 68 (vR ids) vS 2:=an.mk' Tryz.func68 mix (by kernel_rfl) (by kernel_rfl) (by kernel_rfl)
theorem LJ:an Tryz.prog 77 (vT ids) vU 2:=an.mk' Tryz.func77 mix (by kernel_rfl) (by kernel_rfl) (by kernel_rfl)
theorem LK:an Tryz.prog 31 (vV ids) vW 1:=an.mk' Tryz.func31 mix (by kernel_rfl) (by kernel_rfl) (by kernel_rfl)
theorem Fp:an Tryz.prog 95 (si ids) sj 2:=an.mk' Tryz.func95 mix (by kernel_rfl) (by kernel_rfl) (by kernel_rfl)
theorem Fq:an Tryz.prog 63 (sk ids) sq 2:=an.mk' Tryz.func63 mix (by kernel_rfl) (by kernel_rfl) (by kernel_rfl)
theorem Ar:an Tryz.prog 65 (wX ids) wY 1:=an.mk' Tryz.func65 mix (by kernel_rfl) (by kernel_rfl) (by kernel_rfl)
theorem GX:an Tryz.prog 64 (sr ids) ss 1:=an.mk' Tryz.func64 mix (by kernel_rfl) (by kernel_rfl) (by kernel_rfl)
theorem GY:an Tryz.prog 106 (su ids) sw 1:=an.mk' Tryz.func106 mix (by kernel_rfl) (by kernel_rfl) (by kernel_rfl)
theorem Qi:an Tryz.prog 66 (Dd ids) De 2:=an.mk' Tryz.func66 mix (by kernel_rfl) (by kernel_rfl) (by kernel_rfl)
theorem LL:an Tryz.prog 32 (wZ ids) w9 1:=an.mk' Tryz.func32 mix (by kernel_rfl) (by kernel_rfl) (by kernel_rfl)
theorem LM:an Tryz.prog 96 (xa ids) xb 2:=an.mk' Tryz.func96 mix (by kernel_rfl) (by kernel_rfl) (by kernel_rfl)
theorem Qj:dx Tryz.prog 47 (Dl ids) Dm 2 131:=dx.mk' Tryz.func47 mix (by kernel_rfl) (by kernel_rfl) (by kernel_rfl)
theorem LN:an Tryz.prog 67 (xf ids) xg 2:=an.mk' Tryz.func67 mix (by kernel_rfl) (by kernel_rfl) (by kernel_rfl)
theorem Uy:an Tryz.prog 68 (JN ids) JO 2:=an.mk' Tryz.func68 mix (by kernel_rfl) (by kernel_rfl) (by kernel_rfl)
theorem LO:an Tryz.prog 44 (xh ids) xi 1:=an.mk' Tryz.func44 mix (by kernel_rfl) (by kernel_rfl) (by kernel_rfl)
theorem As:an Tryz.prog 35 (nk ids) nq 2:=an.mk' Tryz.func35 mix (by kernel_rfl) (by kernel_rfl) (by kernel_rfl)
theorem Qk:an Tryz.prog 43 (xo ids) xp 3:=an.mk' Tryz.func43 mix (by kernel_rfl) (by kernel_rfl) (by kernel_rfl)
theorem Ql:an Tryz.prog 33 (Ds ids) Dt 3:=an.mk' Tryz.func33 mix (by kernel_rfl) (by kernel_rfl) (by kernel_rfl)
theorem GZ:an Tryz.prog 17 (sG ids) sJ 2:=an.mk' Tryz.func17 mix (by kernel_rfl) (by kernel_rfl) (by kernel_rfl)
theorem Qm:an Tryz.prog 27 (Du ids) Dv 1:=an.mk' Tryz.func27 mix (by kernel_rfl) (by kernel_rfl) (by kernel_rfl)
theorem Qn:an Tryz.prog 30 (Dw ids) Dx 1:=an.mk' Tryz.func30 mix (by kernel_rfl) (by kernel_rfl) (by kernel_rfl)
theorem Qo:an Tryz.prog 62 (DA ids) DB 1:=an.mk' Tryz.func62 mix (by kernel_rfl) (by kernel_rfl) (by kernel_rfl)
theorem LP:an Tryz.prog 7 (xq ids) xr 3:=an.mk' Tryz.func7 mix (by kernel_rfl) (by kernel_rfl) (by kernel_rfl)
theorem G0:an Tryz.prog 61 (rm ids) rp 1:=an.mk' Tryz.func61 mix (by kernel_rfl) (by kernel_rfl) (by kernel_rfl)
theorem LQ:an Tryz.prog 94 (vy ids) vz 1:=an.mk' Tryz.func94 mix (by kernel_rfl) (by kernel_rfl) (by kernel_rfl)
theorem Qp:an Tryz.prog 69 (Bh ids) Bi 1:=an.mk' Tryz.func69 mix (by kernel_rfl) (by kernel_rfl) (by kernel_rfl)
theorem Qq:an Tryz.prog 97 (Bd ids) Be 1:=an.mk' Tryz.func97 mix (by kernel_rfl) (by kernel_rfl) (by kernel_rfl)
theorem LR:dx Tryz.prog 70 (vL ids) vM 1 16:=dx.mk' Tryz.func70 mix (by kernel_rfl) (by kernel_rfl) (by kernel_rfl)
theorem LS:an Tryz.prog 28 (xu ids) xw 2:=an.mk' Tryz.func28 mix (by kernel_rfl) (by kernel_rfl) (by kernel_rfl)
theorem G6:an Tryz.prog 25 (sP ids) sQ 2:=an.mk' Tryz.func25 mix (by kernel_rfl) (by kernel_rfl) (by kernel_rfl)
theorem G7:an Tryz.prog 8 (nt ids) nu 1:=an.mk' Tryz.func8 mix (by kernel_rfl) (by kernel_rfl) (by kernel_rfl)
theorem LU:an Tryz.prog 41 (xx ids) xy 3:=an.mk' Tryz.func41 mix (by kernel_rfl) (by kernel_rfl) (by kernel_rfl)
theorem Qr:an Tryz.prog 19 (xz ids) xA 1:=an.mk' Tryz.func19 mix (by kernel_rfl) (by kernel_rfl) (by kernel_rfl)
theorem LV:an Tryz.prog 39 (xB ids) xC 1:=an.mk' Tryz.func39 mix (by kernel_rfl) (by kernel_rfl) (by kernel_rfl)
theorem Qs:an Tryz.prog 11 (xD ids) xE 1:=an.mk' Tryz.func11 mix (by kernel_rfl) (by kernel_rfl) (by kernel_rfl)
theorem Qt:an Tryz.prog 40 (xF ids) xG 3:=an.mk' Tryz.func40 mix (by kernel_rfl) (by kernel_rfl) (by kernel_rfl)
theorem Qu:an Tryz.prog 14 (xH ids) xI 3:=an.mk' Tryz.func14 mix (by kernel_rfl) (by kernel_rfl) (by kernel_rfl)
theorem LW:an Tryz.prog 26 (xJ ids) xK 1:=an.mk' Tryz.func26 mix (by kernel_rfl) (by kernel_rfl) (by kernel_rfl)
theorem G8:an Tryz.prog 6 (ta ids) tf 2:=an.mk' Tryz.func6 mix (by kernel_rfl) (by kernel_rfl) (by kernel_rfl)
theorem Qv:dx Tryz.prog 13 (DD ids) DE 2 41:=dx.mk' Tryz.func13 mix (by kernel_rfl) (by kernel_rfl) (by kernel_rfl)
theorem G9:an Tryz.prog 101 (tt ids) tv 3:=an.mk' Tryz.func101 mix (by kernel_rfl) (by kernel_rfl) (by kernel_rfl)
theorem L0:an Tryz.prog 79 (xM ids) xN 3:=an.mk' Tryz.func79 mix (by kernel_rfl) (by kernel_rfl) (by kernel_rfl)
theorem L5:an Tryz.prog 45 (xP ids) xQ 1:=an.mk' Tryz.func45 mix (by kernel_rfl) (by kernel_rfl) (by kernel_rfl)
theorem Qw:an Tryz.prog 102 (DJ ids) DK 2:=an.mk' Tryz.func102 mix (by kernel_rfl) (by kernel_rfl) (by kernel_rfl)
theorem Qx:an Tryz.prog 81 (DL ids) DM 2:=an.mk' Tryz.func81 mix (by kernel_rfl) (by kernel_rfl) (by kernel_rfl)
theorem Ma:an Tryz.prog 46 (xR ids) xS 4:=an.mk' Tryz.func46 mix (by kernel_rfl) (by kernel_rfl) (by kernel_rfl)
theorem Mb:an Tryz.prog 48 (xT ids) xU 3:=an.mk' Tryz.func48 mix (by kernel_rfl) (by kernel_rfl) (by kernel_rfl)
theorem Mc:an Tryz.prog 18 (xV ids) xW 2:=an.mk' Tryz.func18 mix (by kernel_rfl) (by kernel_rfl) (by kernel_rfl)
theorem Md:an Tryz.prog 34 (qu ids) qv 3:=an.mk' Tryz.func34 mix (by kernel_rfl) (by kernel_rfl) (by kernel_rfl)
theorem Qy:an Tryz.prog 9 (DU ids) DV 2:=an.mk' Tryz.func9 mix (by kernel_rfl) (by kernel_rfl) (by kernel_rfl)
theorem Me:an Tryz.prog 36 (xX ids) xY 1:=an.mk' Tryz.func36 mix (by kernel_rfl) (by kernel_rfl) (by kernel_rfl)
theorem Mf:dx Tryz.prog 10 (x8 ids) x9 1 69:=dx.mk' Tryz.func10 mix (by kernel_rfl) (by kernel_rfl) (by kernel_rfl)
theorem Qz:an Tryz.prog 16 (DN ids) DO 1:=an.mk' Tryz.func16 mix (by kernel_rfl) (by kernel_rfl) (by kernel_rfl)
theorem QA:an Tryz.prog 4 (DP ids) DQ 0:=an.mk' Tryz.func4 mix (by kernel_rfl) (by kernel_rfl) (by kernel_rfl)
theorem Vw:gW Tryz.prog ids (ids.f 126):=V9 X9
theorem Ec:jH Tryz.prog (ids.f 129):=Ix Lu
theorem pJ:dT Tryz.prog (ids.f 130):=NF (ι:=ids) PZ Ec
theorem Mh:km Tryz.prog (ids.f 131):=Iz (ι:=ids) Lv pJ
theorem Ya:qe Tryz.prog (ids.f 132):=SO (ι:=ids) Uv Ec
theorem yd:fX Tryz.prog (ids.f 133):=FQ GQ
theorem Au:gR Tryz.prog (ids.f 141):=BD (ι:=ids) D6 Ec
theorem Yb:qh Tryz.prog (ids.f 143):=SV (ι:=ids) Uw (IJ Lw)
theorem Fs:je Tryz.prog (ids.f 306):=Gr GR
theorem Yc:rH Tryz.prog ids (ids.f 201):=NV (ι:=ids) P1 Uu (IS Lx) (zm Aq) (I0 (ι:=ids) Ly (NR P0)) (F7 (ι:=ids) (g:=0) Ea (vN (ι:=ids) yc) (by kernel_rfl) iI Vw Ya Mh)
theorem RF:qi Tryz.prog (ids.f 165):=NO P3
theorem QB:ov Tryz.prog (ids.f 75):=Ge (ι:=ids) uY (Tn Ux) (Jb (ι:=ids) Lz (NW P4)) (rK tI) (Gd GS (rK tI))
theorem Ft:fN Tryz.prog (ids.f 283):=Gk (ι:=ids) GU (Jk LA) Yb
theorem QC:oy Tryz.prog (ids.f 284):=Gl GV
theorem Uz:mV Tryz.prog (ids.f 292):=Jo (ι:=ids) LC (Jl LB) (N4 P5)
theorem QD:jd Tryz.prog (ids.f 295):=Gn GW
theorem Mi:cJ pE Tryz.prog (ids.f 204):=Jr iX jD P2
theorem UA:kp Tryz.prog (ids.f 299):=Jt (ι:=ids) LD Mi Ft
theorem UB:oE Tryz.prog (ids.f 300):=Ju (ι:=ids) LG Uz QD Ft UA
theorem Yd:jT cL Tryz.prog (ids.f 301):=E2 fg P6
theorem Ye:jT pE Tryz.prog (ids.f 303):=E2 iX Qh
theorem Yf:iA cL Tryz.prog (ids.f 302):=Om (ι:=ids) P7 Yd
theorem Yg:iA pE Tryz.prog (ids.f 304):=On (ι:=ids) P8 Ye
theorem Yh:rZ Tryz.prog (ids.f 305):=Oo P9
theorem RG:mY Tryz.prog ids (ids.f 307):=Ox (ι:=ids) Qa ⟨CE uY QB,Yf,Yh,pJ,yd,Au,Fs,QC,Yc⟩
theorem Mj:iC Tryz.prog ids (ids.f 312):=Jy (ι:=ids) LH RG
theorem Yi:r9 Tryz.prog ids (ids.f 314):=OC (ι:=ids) Qd ⟨Mj,Oz (ι:=ids) Qc pJ,Yg,pJ⟩
theorem Yj:se Tryz.prog ids (ids.f 320):=OM (ι:=ids) Qg ⟨Mj,OE Qe,OF Qf,vN (ι:=ids) yc,by kernel_rfl,iI,Vw⟩
theorem UC:rB Tryz.prog (ids.f 158):=IP (ι:=ids) LJ (IN LI)
theorem jZ:cD Tryz.prog (ids.f 159):=IQ (ι:=ids) LK
theorem RH:nh Tryz.prog (ids.f 354):=OR (ι:=ids) Fq (OQ Fp)
theorem QE:iD Tryz.prog (ids.f 356):=Gw (ι:=ids) GX (zZ Ar)
theorem QF:iD Tryz.prog (ids.f 357):=Gx (ι:=ids) GY (zZ Ar)
theorem pf:dJ Tryz.prog ids (ids.f 360):=JF (ι:=ids) LL ⟨pJ,yd,Au,Fs,RH,QE,OV Qi⟩
theorem UD:oH Tryz.prog ids (ids.f 361):=JL (ι:=ids) LM pf RH QF
theorem Fu:dy Tryz.prog (ids.f 137) (ids.f 136):=vN (ι:=ids) yc
theorem RI:nj Tryz.prog ids (ids.f 363):=Pg (ι:=ids) Qj ⟨pJ,Fu,by kernel_rfl,iI,Vw⟩
theorem UE:oI Tryz.prog ids (ids.f 364):=JM (ι:=ids) LN UD RI
theorem QG:lK Tryz.prog (ids.f 134):=FR (ι:=ids) G0 yd (Ir (ι:=ids) LQ)
theorem Mk:jI Tryz.prog (ids.f 135):=NL (ι:=ids) Qp (Ny Qq)
theorem Ml:kn Tryz.prog ids (ids.f 139):=IG (ι:=ids) (g:=0) LR Mk Fu (by kernel_rfl) (iv (ι:=ids) iI Vw)
theorem RJ:Gz Tryz.prog ids:=⟨JP LO,UE,TQ Uy,jZ,Mk,Ml⟩
theorem RK:kt Tryz.prog (ids.f 371):=Pk (ι:=ids) Ql jZ
theorem ye:gu Tryz.prog ids (ids.f 373):=GA (ι:=ids) GZ ⟨pf,RK,As,Qk,RJ⟩
theorem RM:iG Tryz.prog (ids.f 374):=Pm Qm
theorem RN:cJ dp Tryz.prog (ids.f 375):=Pn iz mX Qn
theorem Ed:c9 Tryz.prog ids (ids.f 376):=Kd (ι:=ids) LP ⟨RM,Mi,RN,jZ,pf⟩
theorem Ee:iH Tryz.prog ids (ids.f 377):=Kf (ι:=ids) LS Ed.dh ye.dh
theorem QH:sS Tryz.prog (ids.f 378):=GB (ι:=ids) G6 QG pJ
theorem Fv:gv Tryz.prog (ids.f 379):=GC (ι:=ids) G7 jZ
theorem Mm:kx Tryz.prog (ids.f 380):=Kg (ι:=ids) LU jZ
theorem Yk:sU Tryz.prog ids (ids.f 382):=Pp (ι:=ids) Qr Ee
theorem UF:oN Tryz.prog (ids.f 383):=Kh (ι:=ids) LV Fv Mh
theorem RO:ny Tryz.prog ids (ids.f 385):=Pq (ι:=ids) Qs UF Yi
theorem RP:jW Tryz.prog ids (ids.f 386):=Ps (ι:=ids) Qt ⟨RO,Mm,Ee,UC,pJ,Yj⟩
theorem Yl:nz Tryz.prog ids (ids.f 388):=Pt (ι:=ids) Qu RP Mm
theorem UG:k7 Tryz.prog (ids.f 390):=Kl (ι:=ids) LW (Pu fg mU Qo) Mi RN
theorem Fw:gw Tryz.prog ids (ids.f 391):=GD (ι:=ids) G8 ⟨RG,QH,UG,RM,Ee⟩
theorem Ym:oO Tryz.prog ids (ids.f 393):=Pw (ι:=ids) Qv ⟨RP,Fu,by kernel_rfl,iI,Vw⟩
theorem UH:oP Tryz.prog (ids.f 354):=Kv (ι:=ids) Fq (Ku Fp)
theorem UI:oQ Tryz.prog (ids.f 433):=Kw (ι:=ids) L0 (GJ G9) UH
theorem UJ:oR Tryz.prog (ids.f 434):=Ky (ι:=ids) L5 UI
theorem Yn:oV Tryz.prog (ids.f 227):=KI (ι:=ids) Qx (KE Qw)
theorem UK:tx Tryz.prog ids (ids.f 435):=KJ (ι:=ids) Ma ⟨Ml,jZ⟩
theorem UL:oW Tryz.prog (ids.f 436):=KL (ι:=ids) Mb ⟨Yn,Ya,Mk⟩
theorem UM:o0 Tryz.prog ids (ids.f 437):=KM (ι:=ids) Mc ⟨pf,UJ,UK,UL,RI,jZ⟩
theorem Yo:pd Tryz.prog ids (ids.f 439):=PI (ι:=ids) Qy ⟨pf,RK,As,Md,RJ⟩
theorem UN:jX Tryz.prog ids (ids.f 440):=Lg (ι:=ids) Me ye.dh
theorem UO:tD Tryz.prog ids (ids.f 442):=Ll (ι:=ids) Mf ⟨pf,UN,jZ,Fu,by kernel_rfl,iI,Vw⟩
theorem Yp:nB Tryz.prog (ids.f 443):=PC (ι:=ids) Qz
theorem Yq:tA Tryz.prog ids (ids.f 444):=PG (ι:=ids) QA ⟨Yp,Yb,Ed,ye,UM,Fw,Yk,RF⟩
abbrev Av:List (String×DataW Unit):=[("math/bits.deBruijn64tab",Rows.laid_math_bits_deBruijn64tab)]
theorem own:ownKnob Tryz.prog.godebug=none:=by kernel_rfl
theorem acP:Tryz.prog.globalNamed "math/bits.deBruijn64tab" =some 0:=by kernel_rfl
theorem acQ:(Tryz.prog.globals[0]?).map (·.type)=some 165/\Tryz.prog.underlying 165=some (.array 64 5)/\Tryz.prog.underlying 5=some (.int .u8)/\Tryz.prog.cellsOf 5=1/\Tryz.prog.cellsOf 165=64:=⟨by kernel_rfl,by kernel_rfl,by kernel_rfl,by kernel_rfl,by kernel_rfl⟩
theorem acR:(Rows.laid_math_bits_deBruijn64tab:DataW Unit)=.agg ((Nz.map fun n:Nat=>(n:Int)).map fun x=>.lit (.int .u8 x)):=rfl
theorem QI {W:World} (h:laidMetH Tryz.prog Av W):aU ids W.heap:=by
 rw[MakeChecks.laidMetH_plain _ _ _ (by kernel_rfl)]at h;obtain⟨ps,⟨g0,t0,cs0,f0,p0,q0,hg0,ht0,lO,hd0,rfl,rfl⟩,_,hz⟩:=h;obtain rfl:=Option.some.inj (acP.symm.trans hg0);obtain⟨a0,b0,c0,d0,i0⟩:=acQ;obtain rfl:=Option.some.inj (a0.symm.trans ht0);have hz':∀b off,MemPlace.cell b off∈_->∃c t,W.heap[b]?=some (.cells c t (0,0)):=fun b off h=>(hz b off h).1;exact GO hg0 lO hd0 acR b0 c0 d0 i0 rfl (by omega) (fun x hx=>by simp only[List.mem_append];exact .inl (.inl hx)) hz'
theorem Mn (os:Os) (args:Array Value):laidMetH Tryz.prog Av ((World.doorLaid Tryz.prog 4000 os).forCall (fun _ _=>0) ⟨#[],args,[]⟩).memory:=
 laidMetH_of_parts3 (fuel:=8) (laidMet_of_run' 8 (by kernel_rfl) (by kernel_rfl)) (by kernel_rfl) (by kernel_rfl)
theorem laidOut:laidOutB Tryz.prog=true:=by kernel_rfl
theorem Yr:Tryz.prog.underlying 4=some .bool:=by kernel_rfl
theorem RQ:Tryz.prog.cellsOf 5=1:=by kernel_rfl
theorem RR:Tryz.prog.underlying 5=some (.int .u8):=by kernel_rfl
theorem acS:Tryz.prog.cellsOf 25=7:=by kernel_rfl
theorem uBs:Tryz.prog.underlying 22=some (.slice 5):=by kernel_rfl
theorem cBs:Tryz.prog.cellsOf 22=1:=by kernel_rfl
theorem acT:Tryz.prog.underlying 120=some (.array 2 5):=by kernel_rfl
theorem acU:Tryz.prog.cellsOf 120=2:=by kernel_rfl
theorem acV:Tryz.prog.cellsOf 59=2:=by kernel_rfl
theorem acW:Tryz.prog.underlying 59=some (.struct #[⟨"Step",5,0,false, "", "",0⟩,⟨"User",5,1,false, "", "",1⟩]):=by kernel_rfl
theorem cPs:Tryz.prog.cellsOf 23=1:=by kernel_rfl
end Go.Proofs.YteeemadonfcliabGreatDoor

/- Lemmas of ours. No conditions. -/
import Derived.Test.YtoclemmcphgikaaGreatDoorRows
import Derived.Test.YtoclemmcphgikaaGreatDoorTie
import Derived.Test.YtoclemmcphgikaaGreatDoorCards
import Derived.Test.YtoclemmcphgikaaGreatDoorMgGT
import Derived.Test.YtoclemmcphgikaaGreatDoorMgHArg
import Derived.SevenTiedAt
open Go.IntWalk renaming i64_in→ZN
set_option maxRecDepth 100000
set_option linter.all false
namespace Go.Proofs.YtoclemmcphgikaaGreatDoor
open Go.ChangeShapes Go.WideShapes Go.ChangeAt Go.WideElems Go.RowKit Go.Mg
def ids:aH:=⟨fun n=>([0,0,0,0,0,0,0,0,0,0,0,0,0,0,0,0,0,0,0,0,0,0,0,0,0,0,0,0,0,0,0,0,0,0,0,0,0,0,0,0,0,0,0,0,0,0,0,0,0,0,0,131,160,129,0,76,127,79,77,128,81,96,94,0,0,0,0,0,148,0,162,147,149,150,0,110,0,0,0,0,0,0,0,0,0,0,0,0,0,0,0,0,0,0,0,0,0,0,0,0,0,0,0,0,0,0,0,0,85,137,138,139,140,88,87,136,143,91,161,0,0,0,0,0,146,0,119,158,0,124,73,123,165,108,115,109,118,68,0,75,84,102,72,38,0,0,0,0,0,0,0,0,0,0,0,0,0,99,48,49,0,0,0,0,0,20,0,0,0,0,0,0,0,0,0,0,0,0,0,0,0,0,0,0,0,0,0,0,0,0,0,0,154,155,0,156,0,157,152,0,153,114,0,0,54,0,0,0,0,0,0,0,0,0,0,0,0,0,0,0,0,0,0,0,0,0,0,0,0,133,0,0,0,0,0,0,0,0,0,0,0,0,0,0,0,0,0,0,0,0,0,0,0,0,0,0,0,0,0,0,0,0,0,0,0,0,0,0,0,0,0,0,0,0,0,0,0,0,0,0,0,0,71,34,113,0,101,100,0,0,0,0,51,0,0,52,0,0,0,53,24,151,111,159,121,112,103,61,15,0,0,0,120,122,69,0,125,126,0,0,74,67,0,0,0,0,0,0,0,0,134,135,132,82,0,0,0,0,130,141,80,142,90,89,93,45,144,97,78,95,0,86,0,145,104,106,105,117,0,107,56,65,0,66,30,29,60,59,0,58,0,57,0,26,37,55,25,64,62,21,47,19,28,70,40,33,39,0,17,116,63,27,0,32,98,46,0,14,16,18,31,13,0,0,50,22,23,12,4,6,7,3,5,35,41,83,42,9,36,8,44,92,43,11,10]:List Nat).getD n 0,fun n=>([0,0,0,0,0,0,0,0,0,0,0,0,0,0,0,0,0,0,0,5,0,0,0,0,0,0,3,0,43,0,0,0,0,0,0,0,0,0,0,0,0,0,0,0,0,0,0,0,0,98,0,0,0,0,196,0,0,0,0,0,0,0,0,0,0,22,0,9,0,0,0,0,0,0,216,0,0,0,0,0,0,0,0,0,0,0,0,0,0,0,0,0,0,0,0,0,0,0,0,0,0,0,0,0,0,0,0,203,0,0,0,0,0,0,0,0,0,0,0,0,0,0,0,0,0,0,0,0,82,0,0,0,0,0,0,0,0,0,35,0,0,0,0,0,0,0,0,0,0,0,0,4,0,0,0,0,0,0,0,0,0,0,0,0,0,0,0,0,0,0,0,0,0,0,0,0,0,0,0,0,0,0,0,0,0,0,0,0,0,0,0,0,0,0,78,0,181,0,0,221,0,0,0,0,0,0,0,0,0,0,0,0,0,0,0,0,0,0,0,0,0,0,0,0,0,0,0,0,0,0,0,0,0,0,261,30,0,0,0,0,0,0,0,0,0,0,0,0,0,0,0,0,0,0,0,0,0,0,0,0,0,0,0,0,0,0,0,0,0,0,0,0,0,0,0,0,0,0,0,0,0,0,0,0,0,0,0,0,25,33,166,169,0,0,0,0,59,89,114,0,0,0,0,0,0,0,0,0,0,0,0,0,0,0,0,0,0,0,137,194,0,0,0,0,0,0,0,0,0,0,0,0,0,0,0,0,0,0,0,0,0,0,0,0,0,0,0,0,0,0,204,0,0,0,0,0,0,0,64,0,0,0,187,0,0,0,0,0,174,0,121,0,69,0,0,0,0,0,0,0,0,0,0,0,0,0,0,103,0,0,0,0,28,0,0,0,37,0,0,0,0,0,74,45,0,0,0,0,0,0,0,0,0,0,0,0,0,0,0,0,0,0,0,0,0]:List Nat).getD n 0,fun n=>([0,0,0,0,0,0,0,0,0,0,0,0,0,0,0,0,0,0,0,0,0,0,0,0,0,0,0,0,0,0,0,0,0,0,0,0,0,0,0,0,0,0,0,0,0,0,0,0,0,0,0,0,0,0,0,0,0,0,0,0,0,0,0,0,0,0,0,0,0,0,0,0,0,0,0,0,0,0,0,0,0,0,0,0,0,0,0,0,0,0,0,0,0,0,0,0,0,0,0,0,0,0,0,0,0,0,0,0,0,0,0,0,0,0,0,0,0,0,0,0,0,0,0,0,0,0,0,0,0,0,0,0,0,0,0,0,0,0,0,0,0,0,0,0,0,0,0,0,0,0,0,0,0,0,0,0,0,0,0,0,0,0,0,0,0,0,0,0,0,0,0,0,0,0,0,0,0,0,0,0,0,0,0,0,0,0,0,0,0,0,0,0,0,0,0,0,0,0,0,0,0,0,0,0,0,0,0,0,0,0,0,0,0,0,0,0,0,0,0,0,0,0,0,0,0,0,0,0,0,0,0,0,0,0,0,0,0,0,0,0,0,0,0,0,0,0,0,0,0,0,0,0,0,0,0,0,0,0,0,0,0,0,0,0,0,0,0,0,0,0,0,0,0,0,0,0,0,0,0,0,0,0,0,0,0,0,0,0,0,0,0,0,0,0,0,0,0,0,0,0,0,0,0,0,0,0,0,0,0,0,0,0,0,0,0,0,0,0,0,0,0,0,0,0,0,0,0,0,0,0,0,0,0,0,0,0,0,0,0,0,0,0,0,0,0,0,0,0,0,0,0,0,0,0,0,0,0,0,0,0,0,0,0,0,0,0,0,0,0,0,0,0,0,0,0,0,0,0,0,0,0,0,0,0,0,0,0,0,0,0,0,0,0,0,0,0,0,0,0,0,0,0,0,0,0,0,0,0,0,0,0,0,0,0,0,0,0,0,0,0,0,0,0,0,0]:List Nat).getD n 0⟩
def mix:Tryz.prog.follows .mixedOrders=true:=by kernel_rfl
def ace:Go.Shelf.Ren:=⟨fun|6=>152|14=>163|15=>164|20=>166|21=>167|22=>168|23=>169|24=>170|25=>171|26=>172|27=>173|28=>174|29=>158|46=>175|47=>176|48=>177|49=>178|50=>179|57=>180|n=>n,fun|0=>0|3=>3|4=>4|5=>5|9=>9|22=>30|24=>78|25=>219|39=>80|45=>230|46=>231|50=>184|53=>237|55=>43|66=>238|70=>242|76=>244|77=>127|n=>n,fun n=>n⟩
def acf:Go.Proofs.SlLaysF0.n6 Tryz.prog ace where
 mixed:=by kernel_rfl
 f6:=⟨"slices.SortFunc[[][2]int,[2]int]",by decide,Tryz.func152.trans (congrArg some (by kernel_rfl))⟩
 f14:=⟨"slices.pdqsortCmpFunc[[2]int]",by decide,Tryz.func163.trans (congrArg some (by kernel_rfl))⟩
 f15:=Tryz.func164.trans (congrArg some (by kernel_rfl))
 f20:=⟨"slices.insertionSortCmpFunc[[2]int]",by decide,Tryz.func166.trans (congrArg some (by kernel_rfl))⟩
 f21:=⟨"slices.heapSortCmpFunc[[2]int]",by decide,Tryz.func167.trans (congrArg some (by kernel_rfl))⟩
 f22:=⟨"slices.breakPatternsCmpFunc[[2]int]",by decide,Tryz.func168.trans (congrArg some (by kernel_rfl))⟩
 f23:=⟨"slices.choosePivotCmpFunc[[2]int]",by decide,Tryz.func169.trans (congrArg some (by kernel_rfl))⟩
 f24:=⟨"slices.reverseRangeCmpFunc[[2]int]",by decide,Tryz.func170.trans (congrArg some (by kernel_rfl))⟩
 f25:=⟨"slices.partialInsertionSortCmpFunc[[2]int]",by decide,Tryz.func171.trans (congrArg some (by kernel_rfl))⟩
 f26:=⟨"slices.partitionEqualCmpFunc[[2]int]",by decide,Tryz.func172.trans (congrArg some (by kernel_rfl))⟩
 f27:=⟨"slices.partitionCmpFunc[[2]int]",by decide,Tryz.func173.trans (congrArg some (by kernel_rfl))⟩
 f28:=Tryz.func174.trans (congrArg some (by kernel_rfl))
 f29:=Tryz.func158.trans (congrArg some (by kernel_rfl))
 f46:=⟨"slices.siftDownCmpFunc[[2]int]",by decide,Tryz.func175.trans (congrArg some (by kernel_rfl))⟩
 f47:=Tryz.func176.trans (congrArg some (by kernel_rfl))
 f48:=Tryz.func177.trans (congrArg some (by kernel_rfl))
 f49:=⟨"slices.medianAdjacentCmpFunc[[2]int]",by decide,Tryz.func178.trans (congrArg some (by kernel_rfl))⟩
 f50:=⟨"slices.medianCmpFunc[[2]int]",by decide,Tryz.func179.trans (congrArg some (by kernel_rfl))⟩
 f57:=⟨"slices.order2CmpFunc[[2]int]",by decide,Tryz.func180.trans (congrArg some (by kernel_rfl))⟩
 t0:=Tryz.underlying0
 a0:=Tryz.isAgg0
 z0:=Tryz.sizeOf0
 v0:=Tryz.zeroValue0
 t3:=Tryz.underlying3
 a3:=Tryz.isAgg3
 z3:=Tryz.sizeOf3
 v3:=Tryz.zeroValue3
 t4:=Tryz.underlying4
 a4:=Tryz.isAgg4
 z4:=Tryz.sizeOf4
 v4:=Tryz.zeroValue4
 t5:=Tryz.underlying5
 a5:=Tryz.isAgg5
 z5:=Tryz.sizeOf5
 v5:=Tryz.zeroValue5
 t9:=Tryz.underlying9
 a9:=Tryz.isAgg9
 z9:=Tryz.sizeOf9
 v9:=Tryz.zeroValue9
 t22:=Tryz.underlying30
 a22:=Tryz.isAgg30
 z22:=Tryz.sizeOf30
 v22:=Tryz.zeroValue30
 t25:=Tryz.underlying219
 a25:=Tryz.isAgg219
 z25:=Tryz.sizeOf219
 v25:=Tryz.zeroValue219
 t39:=Tryz.underlying80
 a39:=Tryz.isAgg80
 z39:=Tryz.sizeOf80
 v39:=Tryz.zeroValue80
 t45:=Tryz.underlying230
 a45:=Tryz.isAgg230
 z45:=Tryz.sizeOf230
 v45:=Tryz.zeroValue230
 t46:=Tryz.underlying231
 a46:=Tryz.isAgg231
 z46:=Tryz.sizeOf231
 v46:=Tryz.zeroValue231
 t50:=Tryz.underlying184
 a50:=Tryz.isAgg184
 z50:=Tryz.sizeOf184
 v50:=Tryz.zeroValue184
 t53:=Tryz.underlying237
 a53:=Tryz.isAgg237
 z53:=Tryz.sizeOf237
 v53:=Tryz.zeroValue237
 t55:=Tryz.underlying43
 a55:=Tryz.isAgg43
 z55:=Tryz.sizeOf43
 v55:=Tryz.zeroValue43
 t66:=Tryz.underlying238
 a66:=Tryz.isAgg238
 z66:=Tryz.sizeOf238
 v66:=Tryz.zeroValue238
 t70:=Tryz.underlying242
 a70:=Tryz.isAgg242
 z70:=Tryz.sizeOf242
 v70:=Tryz.zeroValue242
 t76:=Tryz.underlying244
 a76:=Tryz.isAgg244
 z76:=Tryz.sizeOf244
 v76:=Tryz.zeroValue244
 t77:=Tryz.underlying127
 a77:=Tryz.isAgg127
 z77:=Tryz.sizeOf127
 v77:=Tryz.zeroValue127
def ait:ad9 Tryz.prog 153:=by
 intro x y W;obtain⟨x1,x2⟩:=x;obtain⟨y1,y2⟩:=y
 show Calls Tryz.prog 153 #[.agg #[.int .i64 (x1.val:Int),.int .i64 (x2.val:Int)],.agg #[.int .i64 (y1.val:Int),.int .i64 (y2.val:Int)]] W _
 unfold Pk;have w1:IntKind.i64.wrap ((x1.val:Int) -y1.val)=(x1.val:Int) -y1.val:=ZN _ (by omega);have w2:IntKind.i64.wrap ((x2.val:Int) -y2.val)=(x2.val:Int) -y2.val:=ZN _ (by omega)
 by_cases h:x1=y1
 ·subst h;simp only[if_true]
  go_enter Tryz.func153,Tryz.ntmps153
  go_wp2
  go_ret
  exact⟨rfl,0,_,by rw[Go.Sort.alloc_eq_grow,Go.Sort.alloc_eq_grow,Go.Sort.grow_grow];rfl⟩
 ·have h':(x1.val:Int)≠(y1.val:Int):=fun e=>h (Fin.ext (by omega));simp only[if_neg h]
  go_enter Tryz.func153,Tryz.ntmps153
  go_wp2
  go_ret
  exact⟨rfl,0,_,by rw[Go.Sort.alloc_eq_grow,Go.Sort.alloc_eq_grow,Go.Sort.grow_grow];rfl⟩
def ags:rQ Tryz.prog 152 153:=aaw acf Tryz.isAgg78 Tryz.sizeOf78 153 (Go.Proofs.enters_of Tryz.func153 (by kernel_rfl) rfl) ait
def aiu:ak Tryz.prog 119 (afw ids) afx 1:=ak.mk' Tryz.func119 mix (by kernel_rfl) (by kernel_rfl) (by kernel_rfl)
def SL:ak Tryz.prog 124 (Ai ids) Aj 2:=ak.mk' Tryz.func124 mix (by kernel_rfl) (by kernel_rfl) (by kernel_rfl)
def acg:ak Tryz.prog 73 (Gs ids) Gt 2:=ak.mk' Tryz.func73 mix (by kernel_rfl) (by kernel_rfl) (by kernel_rfl)
def SM:ak Tryz.prog 123 (Ak ids) Al 2:=ak.mk' Tryz.func123 mix (by kernel_rfl) (by kernel_rfl) (by kernel_rfl)
def agt:ak Tryz.prog 165 (Qo ids) Qp 2:=ak.mk' Tryz.func165 mix (by kernel_rfl) (by kernel_rfl) (by kernel_rfl)
def Ol:ak Tryz.prog 108 (vK ids) vL 1:=ak.mk' Tryz.func108 mix (by kernel_rfl) (by kernel_rfl) (by kernel_rfl)
def Jo:ak Tryz.prog 102 (rS ids) rT 2:=ak.mk' Tryz.func102 mix (by kernel_rfl) (by kernel_rfl) (by kernel_rfl)
def zi:ak Tryz.prog 84 (vW ids) vX 2:=ak.mk' Tryz.func84 mix (by kernel_rfl) (by kernel_rfl) (by kernel_rfl)
def SN:ak Tryz.prog 72 (Aw ids) Ax 1:=ak.mk' Tryz.func72 mix (by kernel_rfl) (by kernel_rfl) (by kernel_rfl)
def agu:ak Tryz.prog 38 (Qz ids) QA 1:=ak.mk' Tryz.func38 mix (by kernel_rfl) (by kernel_rfl) (by kernel_rfl)
def Om:ak Tryz.prog 103 (wF ids) wG 1:=ak.mk' Tryz.func103 mix (by kernel_rfl) (by kernel_rfl) (by kernel_rfl)
def CH:ak Tryz.prog 68 (GF ids) GG 1:=ak.mk' Tryz.func68 mix (by kernel_rfl) (by kernel_rfl) (by kernel_rfl)
def qY:mF Tryz.prog 118 (jf ids) jg 2:=mF.mk' Tryz.func118 (by kernel_rfl) (by kernel_rfl) (by kernel_rfl)
def SO:ak Tryz.prog 154 (AH ids) AI 1:=ak.mk' Tryz.func154 mix (by kernel_rfl) (by kernel_rfl) (by kernel_rfl)
def FA:ak Tryz.prog 155 (pd ids) pf 1:=ak.mk' Tryz.func155 mix (by kernel_rfl) (by kernel_rfl) (by kernel_rfl)
def ach:ak Tryz.prog 99 (GM ids) GN 2:=ak.mk' Tryz.func99 mix (by kernel_rfl) (by kernel_rfl) (by kernel_rfl)
def SP:ak Tryz.prog 156 (AJ ids) AK 1:=ak.mk' Tryz.func156 mix (by kernel_rfl) (by kernel_rfl) (by kernel_rfl)
def Jp:iH Tryz.prog 157 (rV ids) rX 1 121:=iH.mk' Tryz.func157 mix (by kernel_rfl) (by kernel_rfl) (by kernel_rfl)
def aci:ak Tryz.prog 114 (GS ids) GU 2:=ak.mk' Tryz.func114 mix (by kernel_rfl) (by kernel_rfl) (by kernel_rfl)
def acj:ak Tryz.prog 54 (GX ids) GY 1:=ak.mk' Tryz.func54 mix (by kernel_rfl) (by kernel_rfl) (by kernel_rfl)
def ack:ak Tryz.prog 20 (GK ids) GL 2:=ak.mk' Tryz.func20 mix (by kernel_rfl) (by kernel_rfl) (by kernel_rfl)
def agv:ak Tryz.prog 148 (QW ids) QX 0:=ak.mk' Tryz.func148 mix (by kernel_rfl) (by kernel_rfl) (by kernel_rfl)
def acm:ak Tryz.prog 162 (GZ ids) G0 2:=ak.mk' Tryz.func162 mix (by kernel_rfl) (by kernel_rfl) (by kernel_rfl)
def SQ:ak Tryz.prog 147 (AP ids) AQ 2:=ak.mk' Tryz.func147 mix (by kernel_rfl) (by kernel_rfl) (by kernel_rfl)
def xr:ak Tryz.prog 149 (r8 ids) sd 1:=ak.mk' Tryz.func149 mix (by kernel_rfl) (by kernel_rfl) (by kernel_rfl)
def On:ak Tryz.prog 150 (wh ids) wk 2:=ak.mk' Tryz.func150 mix (by kernel_rfl) (by kernel_rfl) (by kernel_rfl)
def zj:ak Tryz.prog 110 (mJ ids) mK 1:=ak.mk' Tryz.func110 mix (by kernel_rfl) (by kernel_rfl) (by kernel_rfl)
def xu:ak Tryz.prog 71 (AV ids) AW 1:=ak.mk' Tryz.func71 mix (by kernel_rfl) (by kernel_rfl) (by kernel_rfl)
def Oo:ak Tryz.prog 34 (wy ids) wz 1:=ak.mk' Tryz.func34 mix (by kernel_rfl) (by kernel_rfl) (by kernel_rfl)
def Oq:ak Tryz.prog 113 (wA ids) wB 2:=ak.mk' Tryz.func113 mix (by kernel_rfl) (by kernel_rfl) (by kernel_rfl)
def SR:ak Tryz.prog 101 (AX ids) AY 2:=ak.mk' Tryz.func101 mix (by kernel_rfl) (by kernel_rfl) (by kernel_rfl)
def acn:ak Tryz.prog 100 (Hd ids) He 1:=ak.mk' Tryz.func100 mix (by kernel_rfl) (by kernel_rfl) (by kernel_rfl)
def SS:ak Tryz.prog 51 (Bf ids) Bg 1:=ak.mk' Tryz.func51 mix (by kernel_rfl) (by kernel_rfl) (by kernel_rfl)
def Ot:ak Tryz.prog 52 (wD ids) wE 2:=ak.mk' Tryz.func52 mix (by kernel_rfl) (by kernel_rfl) (by kernel_rfl)
def SU:ak Tryz.prog 53 (Bh ids) Bi 1:=ak.mk' Tryz.func53 mix (by kernel_rfl) (by kernel_rfl) (by kernel_rfl)
def SV:ak Tryz.prog 24 (uR ids) uS 1:=ak.mk' Tryz.func24 mix (by kernel_rfl) (by kernel_rfl) (by kernel_rfl)
def aco:ak Tryz.prog 151 (Bj ids) Bk 2:=ak.mk' Tryz.func151 mix (by kernel_rfl) (by kernel_rfl) (by kernel_rfl)
def acp:ak Tryz.prog 111 (Hs ids) Ht 2:=ak.mk' Tryz.func111 mix (by kernel_rfl) (by kernel_rfl) (by kernel_rfl)
def acq:ak Tryz.prog 121 (Hu ids) Hv 2:=ak.mk' Tryz.func121 mix (by kernel_rfl) (by kernel_rfl) (by kernel_rfl)
def acr:ak Tryz.prog 112 (Hw ids) Hx 2:=ak.mk' Tryz.func112 mix (by kernel_rfl) (by kernel_rfl) (by kernel_rfl)
def acs:ak Tryz.prog 61 (HO ids) HP 3:=ak.mk' Tryz.func61 mix (by kernel_rfl) (by kernel_rfl) (by kernel_rfl)
def SY:ak Tryz.prog 120 (Br ids) Bt 1:=ak.mk' Tryz.func120 mix (by kernel_rfl) (by kernel_rfl) (by kernel_rfl)
def acu:ak Tryz.prog 122 (HV ids) HW 3:=ak.mk' Tryz.func122 mix (by kernel_rfl) (by kernel_rfl) (by kernel_rfl)
def acv:ak Tryz.prog 69 (HX ids) HY 2:=ak.mk' Tryz.func69 mix (by kernel_rfl) (by kernel_rfl) (by kernel_rfl)
def acw:ak Tryz.prog 125 (Ia ids) Ib 1:=ak.mk' Tryz.func125 mix (by kernel_rfl) (by kernel_rfl) (by kernel_rfl)
def acx:ak Tryz.prog 126 (Ic ids) Ie 1:=ak.mk' Tryz.func126 mix (by kernel_rfl) (by kernel_rfl) (by kernel_rfl)
def acz:iH Tryz.prog 74 (Il ids) Im 2 134:=iH.mk' Tryz.func74 mix (by kernel_rfl) (by kernel_rfl) (by kernel_rfl)
def acA:ak Tryz.prog 159 (Bj ids) Bk 2:=ak.mk' Tryz.func159 mix (by kernel_rfl) (by kernel_rfl) (by kernel_rfl)
def Ta:ak Tryz.prog 99 (Az ids) AA 2:=ak.mk' Tryz.func99 mix (by kernel_rfl) (by kernel_rfl) (by kernel_rfl)
def Tb:ak Tryz.prog 48 (AB ids) AD 2:=ak.mk' Tryz.func48 mix (by kernel_rfl) (by kernel_rfl) (by kernel_rfl)
def Td:ak Tryz.prog 49 (AE ids) AG 1:=ak.mk' Tryz.func49 mix (by kernel_rfl) (by kernel_rfl) (by kernel_rfl)
def acB:ak Tryz.prog 145 (Is ids) It 2:=ak.mk' Tryz.func145 mix (by kernel_rfl) (by kernel_rfl) (by kernel_rfl)
def acC:ak Tryz.prog 104 (Iu ids) Iv 2:=ak.mk' Tryz.func104 mix (by kernel_rfl) (by kernel_rfl) (by kernel_rfl)
def FB:ak Tryz.prog 106 (By ids) BC 1:=ak.mk' Tryz.func106 mix (by kernel_rfl) (by kernel_rfl) (by kernel_rfl)
def Ou:ak Tryz.prog 105 (wQ ids) wR 1:=ak.mk' Tryz.func105 mix (by kernel_rfl) (by kernel_rfl) (by kernel_rfl)
def Ov:ak Tryz.prog 117 (wS ids) wT 1:=ak.mk' Tryz.func117 mix (by kernel_rfl) (by kernel_rfl) (by kernel_rfl)
def acD:ak Tryz.prog 107 (Iw ids) Ix 2:=ak.mk' Tryz.func107 mix (by kernel_rfl) (by kernel_rfl) (by kernel_rfl)
def Te:ak Tryz.prog 56 (BE ids) BG 1:=ak.mk' Tryz.func56 mix (by kernel_rfl) (by kernel_rfl) (by kernel_rfl)
def Tf:ak Tryz.prog 65 (BH ids) BI 2:=ak.mk' Tryz.func65 mix (by kernel_rfl) (by kernel_rfl) (by kernel_rfl)
def acE:iH Tryz.prog 66 (ID ids) IE 2 131:=iH.mk' Tryz.func66 mix (by kernel_rfl) (by kernel_rfl) (by kernel_rfl)
def Tg:ak Tryz.prog 30 (BM ids) BN 2:=ak.mk' Tryz.func30 mix (by kernel_rfl) (by kernel_rfl) (by kernel_rfl)
def agw:ak Tryz.prog 99 (RG ids) RH 2:=ak.mk' Tryz.func99 mix (by kernel_rfl) (by kernel_rfl) (by kernel_rfl)
def Th:ak Tryz.prog 60 (BO ids) BQ 1:=ak.mk' Tryz.func60 mix (by kernel_rfl) (by kernel_rfl) (by kernel_rfl)
def Ti:ak Tryz.prog 59 (uU ids) uV 2:=ak.mk' Tryz.func59 mix (by kernel_rfl) (by kernel_rfl) (by kernel_rfl)
def acF:ak Tryz.prog 58 (Ca ids) Cb 3:=ak.mk' Tryz.func58 mix (by kernel_rfl) (by kernel_rfl) (by kernel_rfl)
def acG:ak Tryz.prog 57 (II ids) IJ 3:=ak.mk' Tryz.func57 mix (by kernel_rfl) (by kernel_rfl) (by kernel_rfl)
def Ow:ak Tryz.prog 26 (wW ids) wX 2:=ak.mk' Tryz.func26 mix (by kernel_rfl) (by kernel_rfl) (by kernel_rfl)
def acH:ak Tryz.prog 37 (IK ids) IL 1:=ak.mk' Tryz.func37 mix (by kernel_rfl) (by kernel_rfl) (by kernel_rfl)
def acI:ak Tryz.prog 55 (IM ids) IN 1:=ak.mk' Tryz.func55 mix (by kernel_rfl) (by kernel_rfl) (by kernel_rfl)
def acJ:ak Tryz.prog 116 (IT ids) IU 1:=ak.mk' Tryz.func116 mix (by kernel_rfl) (by kernel_rfl) (by kernel_rfl)
def Tj:ak Tryz.prog 25 (Cc ids) Cd 3:=ak.mk' Tryz.func25 mix (by kernel_rfl) (by kernel_rfl) (by kernel_rfl)
def Ox:ak Tryz.prog 115 (vM ids) vN 1:=ak.mk' Tryz.func115 mix (by kernel_rfl) (by kernel_rfl) (by kernel_rfl)
def Tk:ak Tryz.prog 158 (Ae ids) Af 1:=ak.mk' Tryz.func158 mix (by kernel_rfl) (by kernel_rfl) (by kernel_rfl)
def acK:ak Tryz.prog 109 (Gu ids) Gv 1:=ak.mk' Tryz.func109 mix (by kernel_rfl) (by kernel_rfl) (by kernel_rfl)
def acL:ak Tryz.prog 146 (Gq ids) Gr 1:=ak.mk' Tryz.func146 mix (by kernel_rfl) (by kernel_rfl) (by kernel_rfl)
def Tl:iH Tryz.prog 75 (Ar ids) As 1 16:=iH.mk' Tryz.func75 mix (by kernel_rfl) (by kernel_rfl) (by kernel_rfl)
def Tm:ak Tryz.prog 64 (Ce ids) Cf 2:=ak.mk' Tryz.func64 mix (by kernel_rfl) (by kernel_rfl) (by kernel_rfl)
def Oy:ak Tryz.prog 62 (wZ ids) w9 2:=ak.mk' Tryz.func62 mix (by kernel_rfl) (by kernel_rfl) (by kernel_rfl)
def Oz:ak Tryz.prog 21 (qJ ids) qK 1:=ak.mk' Tryz.func21 mix (by kernel_rfl) (by kernel_rfl) (by kernel_rfl)
def Tn:ak Tryz.prog 47 (Cg ids) Ch 3:=ak.mk' Tryz.func47 mix (by kernel_rfl) (by kernel_rfl) (by kernel_rfl)
def acM:ak Tryz.prog 19 (Ci ids) Cj 1:=ak.mk' Tryz.func19 mix (by kernel_rfl) (by kernel_rfl) (by kernel_rfl)
def acN:ak Tryz.prog 28 (Ck ids) Cl 1:=ak.mk' Tryz.func28 mix (by kernel_rfl) (by kernel_rfl) (by kernel_rfl)
def To:ak Tryz.prog 70 (Cm ids) Cn 1:=ak.mk' Tryz.func70 mix (by kernel_rfl) (by kernel_rfl) (by kernel_rfl)
def Tp:ak Tryz.prog 40 (Co ids) Cp 1:=ak.mk' Tryz.func40 mix (by kernel_rfl) (by kernel_rfl) (by kernel_rfl)
def acO:ak Tryz.prog 33 (Cq ids) Cr 1:=ak.mk' Tryz.func33 mix (by kernel_rfl) (by kernel_rfl) (by kernel_rfl)
def acP:ak Tryz.prog 39 (Cs ids) Ct 3:=ak.mk' Tryz.func39 mix (by kernel_rfl) (by kernel_rfl) (by kernel_rfl)
def acQ:ak Tryz.prog 17 (Cu ids) Cv 3:=ak.mk' Tryz.func17 mix (by kernel_rfl) (by kernel_rfl) (by kernel_rfl)
def Tq:ak Tryz.prog 63 (Cx ids) Cy 1:=ak.mk' Tryz.func63 mix (by kernel_rfl) (by kernel_rfl) (by kernel_rfl)
def OC:ak Tryz.prog 27 (xe ids) xf 2:=ak.mk' Tryz.func27 mix (by kernel_rfl) (by kernel_rfl) (by kernel_rfl)
def Tr:ak Tryz.prog 98 (Cz ids) CA 2:=ak.mk' Tryz.func98 mix (by kernel_rfl) (by kernel_rfl) (by kernel_rfl)
def acR:ak Tryz.prog 15 (HT ids) HU 2:=ak.mk' Tryz.func15 mix (by kernel_rfl) (by kernel_rfl) (by kernel_rfl)
def acS:ak Tryz.prog 67 (Ip ids) Iq 2:=ak.mk' Tryz.func67 mix (by kernel_rfl) (by kernel_rfl) (by kernel_rfl)
def acT:ak Tryz.prog 46 (IX ids) IY 2:=ak.mk' Tryz.func46 mix (by kernel_rfl) (by kernel_rfl) (by kernel_rfl)
def acU:ak Tryz.prog 14 (I6 ids) I7 1:=ak.mk' Tryz.func14 mix (by kernel_rfl) (by kernel_rfl) (by kernel_rfl)
def acV:ak Tryz.prog 16 (I8 ids) I9 1:=ak.mk' Tryz.func16 mix (by kernel_rfl) (by kernel_rfl) (by kernel_rfl)
def acW:ak Tryz.prog 18 (Ja ids) Jb 3:=ak.mk' Tryz.func18 mix (by kernel_rfl) (by kernel_rfl) (by kernel_rfl)
def acX:ak Tryz.prog 31 (Jc ids) Jd 3:=ak.mk' Tryz.func31 mix (by kernel_rfl) (by kernel_rfl) (by kernel_rfl)
def acY:ak Tryz.prog 13 (Je ids) Jf 1:=ak.mk' Tryz.func13 mix (by kernel_rfl) (by kernel_rfl) (by kernel_rfl)
def acZ:ak Tryz.prog 50 (Jh ids) Ji 3:=ak.mk' Tryz.func50 mix (by kernel_rfl) (by kernel_rfl) (by kernel_rfl)
def Ts:ak Tryz.prog 22 (CC ids) CD 2:=ak.mk' Tryz.func22 mix (by kernel_rfl) (by kernel_rfl) (by kernel_rfl)
def agx:ak Tryz.prog 23 (SG ids) SH 2:=ak.mk' Tryz.func23 mix (by kernel_rfl) (by kernel_rfl) (by kernel_rfl)
def ac0:ak Tryz.prog 12 (Jk ids) Jl 0:=ak.mk' Tryz.func12 mix (by kernel_rfl) (by kernel_rfl) (by kernel_rfl)
def tz':mz Tryz.prog ids (ids.f 126):=ahC aiu
def Jq:mB Tryz.prog (ids.f 129):=Qs SL
def uh:fk Tryz.prog (ids.f 130):=aaF (V:=ids) acg Jq
def Tt:nC Tryz.prog (ids.f 131):=Qt (V:=ids) SM uh
def alA:An Tryz.prog (ids.f 132):=afA (V:=ids) agt Jq
def CI:iF Tryz.prog (ids.f 133):=Nf Ol
def FD:jh Tryz.prog (ids.f 141):=GI (V:=ids) Jo Jq
def aiv:uN Tryz.prog (ids.f 143):=afE (V:=ids) agu (QB SN)
def Mk:lu Tryz.prog (ids.f 306):=NU Om
def aiw:we Tryz.prog ids (ids.f 201):=aaO (V:=ids) aci ags (QH SO) (EN FA) (QN (V:=ids) SP (aaM ach)) (Nx (V:=ids) (g:=0) Jp (Au (V:=ids) CH) (by kernel_rfl) qY tz' alA Tt)
def Ml:nG Tryz.prog (ids.f 165):=aaL ack
def ac1:sf Tryz.prog (ids.f 75):=NG (V:=ids) zj (afJ agv) (QZ (V:=ids) SQ (aaP acm)) (wu xr) (NF On (wu xr))
def Mm:il Tryz.prog (ids.f 283):=NL (V:=ids) Oo (wC xu) aiv
def ac2:sk Tryz.prog (ids.f 284):=NN Oq
def agy:qw Tryz.prog (ids.f 292):=Q9 (V:=ids) SS (Q7 SR) (aaU acn)
def ac3:lq Tryz.prog (ids.f 295):=NQ Ot
def Tu:dz pE Tryz.prog (ids.f 204):=Re dy iE acj
def agz:nK Tryz.prog (ids.f 299):=Rg (V:=ids) SU Tu Mm
def agA:sr Tryz.prog (ids.f 300):=Ri (V:=ids) SV agy ac3 Mm agz
def aix:mL cB Tryz.prog (ids.f 301):=LM dE aco
def aiy:mL pE Tryz.prog (ids.f 303):=LM dy acA
def aiz:jM cB Tryz.prog (ids.f 302):=aa9 (V:=ids) acp aix
def aiA:jM pE Tryz.prog (ids.f 304):=aba (V:=ids) acq aiy
def aiB:wI Tryz.prog (ids.f 305):=abb acr
def aes:qy Tryz.prog ids (ids.f 307):=abh (V:=ids) acs ⟨Hy zj ac1,aiz,aiB,uh,CI,FD,Mk,ac2,aiw⟩
def CJ:fU Tryz.prog ids (ids.f 312):=Rm (V:=ids) SY aes
def aiC:wM Tryz.prog ids (ids.f 314):=abm (V:=ids) acv ⟨CJ,abl (V:=ids) acu uh,aiA,uh⟩
def aiD:wN Tryz.prog ids (ids.f 320):=abv (V:=ids) acz ⟨CJ,abn acw,abo acx,Au (V:=ids) CH,by kernel_rfl,qY,tz'⟩
def Jr:mG Tryz.prog (ids.f 158):=QF (V:=ids) Tb (QE Ta)
def xw:gA Tryz.prog (ids.f 159):=QG (V:=ids) Td
def aet:qE Tryz.prog (ids.f 354):=abA (V:=ids) acC (abz acB)
def ac4:jP Tryz.prog (ids.f 356):=N0 (V:=ids) Ou (Fj FB)
def ac5:jP Tryz.prog (ids.f 357):=N1 (V:=ids) Ov (Fj FB)
def Js:jQ Tryz.prog ids (ids.f 360):=RB (V:=ids) Te ⟨uh,CI,FD,Mk,aet,ac4,abB acD⟩
def agB:sF Tryz.prog ids (ids.f 361):=RE (V:=ids) Tf Js aet ac5
def aeu:gz Tryz.prog (ids.f 137) (ids.f 136):=Au (V:=ids) CH
def aiE:wU Tryz.prog ids (ids.f 363):=abH (V:=ids) acE ⟨uh,aeu,by kernel_rfl,qY,tz'⟩
def agC:sG Tryz.prog ids (ids.f 364):=RF (V:=ids) Tg agB aiE
def CK:iG Tryz.prog (ids.f 134):=Ng (V:=ids) Ox CI (Qm (V:=ids) Tk)
def aev:qg Tryz.prog (ids.f 135):=aaI (V:=ids) acK (aaD acL)
def Tv:nD Tryz.prog ids (ids.f 139):=Qx (V:=ids) (g:=0) Tl aev aeu (by kernel_rfl) (qk (V:=ids) qY tz')
def aiF:RO Tryz.prog ids:=⟨RI Th,agC,afX agw,xw,aev,Tv⟩
def ac6:sJ Tryz.prog ids (ids.f 373):=N5 (V:=ids) Ow ⟨Js,abL (V:=ids) acG xw,Ti,acF,aiF⟩
def aew:jT Tryz.prog (ids.f 374):=abM acH
def aex:dz cq Tryz.prog (ids.f 375):=abN dG gD acI
def agD:sM Tryz.prog ids (ids.f 376):=Sa (V:=ids) Tj ⟨aew,Tu,aex,xw,Js⟩
def CL:iq Tryz.prog ids (ids.f 377):=Sc (V:=ids) Tm agD ac6
def Mn:qH Tryz.prog (ids.f 378):=N6 (V:=ids) Oy CK uh
def CM:iO Tryz.prog (ids.f 379):=N7 (V:=ids) Oz xw
def Tw:nO Tryz.prog (ids.f 380):=Sd (V:=ids) Tn xw
def aiG:xa Tryz.prog (ids.f 381):=abO (V:=ids) acM Jr
def aiH:xb Tryz.prog ids (ids.f 382):=abP (V:=ids) acN CL
def Tx:nP Tryz.prog (ids.f 383):=Sf (V:=ids) To CM Tt
def agE:sN Tryz.prog ids (ids.f 384):=Sg (V:=ids) Tp Tx Tv
def aey:qL Tryz.prog ids (ids.f 385):=abQ (V:=ids) acO Tx aiC
def Ty:mN Tryz.prog ids (ids.f 386):=abR (V:=ids) acP ⟨aey,Tw,CL,Jr,uh,aiD⟩
def aiI:xd Tryz.prog ids (ids.f 388):=abS (V:=ids) acQ Ty Tw
def agF:nQ Tryz.prog (ids.f 390):=Si (V:=ids) Tq (abT dE jL acJ) Tu aex
def Mo:lC Tryz.prog ids (ids.f 391):=N9 (V:=ids) OC ⟨aes,Mn,agF,aew,CL⟩
def aez:qA Tryz.prog (ids.f 308):=abk (V:=ids) acR
def aeA:qD Tryz.prog (ids.f 321):=abx (V:=ids) acS
def aiJ:xj Tryz.prog (ids.f 395):=ab0 (V:=ids) acT aeA (Sl (V:=ids) Tr)
def aeB:qR Tryz.prog (ids.f 397):=ab2 (V:=ids) acU aiJ
def aeC:qS Tryz.prog (ids.f 398):=ab3 (V:=ids) acV
def aeD:qT Tryz.prog (ids.f 399):=ab4 (V:=ids) acW
def aiK:xk Tryz.prog (ids.f 400):=ab5 (V:=ids) acX ⟨aeC,aez,aeD,aeA,aeB⟩
def aiL:xl Tryz.prog ids (ids.f 401):=ab6 (V:=ids) acY ⟨agA,Mo,CM,aeB,Ml⟩
def aiM:xn Tryz.prog ids (ids.f 404):=ab8 (V:=ids) acZ ⟨aiK,aeD,aiI,Ty⟩
def agG:sU Tryz.prog ids (ids.f 405):=SE (V:=ids) Ts aiL aiM
def alB:CE Tryz.prog ids (ids.f 406):=agn (V:=ids) agx ⟨CM,aey,aiG,agE,aeC,aez,Ml,Jr⟩
def aiN:xo Tryz.prog ids (ids.f 407):=aca (V:=ids) ac0 ⟨aiv,Mo,Ty,aiH,Ml⟩
abbrev FE:List (String×DataW Unit):=[("math/bits.deBruijn64tab",Rows.laid_math_bits_deBruijn64tab)]
def own:ownKnob Tryz.prog.godebug=none:=by kernel_rfl
def alC:Tryz.prog.globalNamed "math/bits.deBruijn64tab" =some 0:=by kernel_rfl
def alD:(Tryz.prog.globals[0]?).map (·.type)=some 222/\Tryz.prog.underlying 222=some (.array 64 5)/\Tryz.prog.underlying 5=some (.int .u8)/\Tryz.prog.cellsOf 5=1/\Tryz.prog.cellsOf 222=64:=⟨by kernel_rfl,by kernel_rfl,by kernel_rfl,by kernel_rfl,by kernel_rfl⟩
def alE:(Rows.laid_math_bits_deBruijn64tab:DataW Unit)=.agg ((aaE.map fun n:Nat=>(n:Int)).map fun x=>.lit (.int .u8 x)):=rfl
def ac7 {W:World} (h:laidMetH Tryz.prog FE W):bh ids W.heap:=by
 rw[MakeChecks.laidMetH_plain _ _ _ (by kernel_rfl)]at h;obtain⟨ps,⟨g0,t0,cs0,f0,p0,q0,hg0,ht0,pg,hd0,rfl,rfl⟩,_,hz⟩:=h;obtain rfl:=Option.some.inj (alC.symm.trans hg0);obtain⟨a0,b0,c0,d0,i0⟩:=alD;obtain rfl:=Option.some.inj (a0.symm.trans ht0);have hz':∀b off,MemPlace.cell b off∈_->∃c t,W.heap[b]?=some (.cells c t (0,0)):=fun b off h=>(hz b off h).1;exact Oi hg0 pg hd0 alE b0 c0 d0 i0 rfl (by omega) (fun x hx=>by simp only[List.mem_append];exact .inl (.inl hx)) hz'
def Tz (os:Os) (args:Array Value):laidMetH Tryz.prog FE ((World.doorLaid Tryz.prog 4000 os).forCall (fun _ _=>0) ⟨#[],args,[]⟩).memory:=
 laidMetH_of_parts3 (fuel:=8) (laidMet_of_run' 8 (by kernel_rfl) (by kernel_rfl)) (by kernel_rfl) (by kernel_rfl)
def laidOut:laidOutB Tryz.prog=true:=by kernel_rfl
def aiO:Tryz.prog.underlying 4=some .bool:=by kernel_rfl
def TA:Tryz.prog.cellsOf 5=1:=by kernel_rfl
def TB:Tryz.prog.underlying 5=some (.int .u8):=by kernel_rfl
def alF:Tryz.prog.cellsOf 25=7:=by kernel_rfl
def uBs:Tryz.prog.underlying 22=some (.slice 5):=by kernel_rfl
def cBs:Tryz.prog.cellsOf 22=1:=by kernel_rfl
def aiP:Tryz.prog.underlying 98=some (.array 2 5):=by kernel_rfl
def aiQ:Tryz.prog.cellsOf 98=2:=by kernel_rfl
def alG:Tryz.prog.cellsOf 74=2:=by kernel_rfl
def alH:Tryz.prog.underlying 74=some (.struct #[⟨"Step",5,0,false, "", "",0⟩,⟨"User",5,1,false, "", "",1⟩]):=by kernel_rfl
def cPs:Tryz.prog.cellsOf 23=1:=by kernel_rfl
end Go.Proofs.YtoclemmcphgikaaGreatDoor

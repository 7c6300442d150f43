/- Lemmas of ours. No conditions. -/
import Derived.Test.YtoclemmcphgikaaGreatDoorRows
import Derived.Test.YtoclemmcphgikaaGreatDoorTie
import Derived.Test.YtoclemmcphgikaaGreatDoorCards
import Derived.Test.YtoclemmcphgikaaGreatDoorMgGT
import Derived.Test.YtoclemmcphgikaaGreatDoorMgHArg
import Derived.SevenTiedAt
set_option maxRecDepth 100000
namespace Go.Proofs.YtoclemmcphgikaaGreatDoor
open Go.ChangeShapes Go.WideShapes Go.ChangeAt Go.WideElems Go.RowKit Go.Mg
def ids:aG:=⟨fun n=>([0,0,0,0,0,0,0,0,0,0,0,0,0,0,0,0,0,0,0,0,0,0,0,0,0,0,0,0,0,0,0,0,0,0,0,0,0,0,0,0,0,0,0,0,0,0,0,0,0,0,0,131,160,129,0,76,127,79,77,128,81,96,94,0,0,0,0,0,148,0,162,147,149,150,0,110,0,0,0,0,0,0,0,0,0,0,0,0,0,0,0,0,0,0,0,0,0,0,0,0,0,0,0,0,0,0,0,0,85,137,138,139,140,88,87,136,143,91,161,0,0,0,0,0,146,0,119,158,0,124,73,123,165,108,115,109,118,68,0,75,84,102,72,38,0,0,0,0,0,0,0,0,0,0,0,0,0,99,48,49,0,0,0,0,0,20,0,0,0,0,0,0,0,0,0,0,0,0,0,0,0,0,0,0,0,0,0,0,0,0,0,0,154,155,0,156,0,157,152,0,153,114,0,0,54,0,0,0,0,0,0,0,0,0,0,0,0,0,0,0,0,0,0,0,0,0,0,0,0,133,0,0,0,0,0,0,0,0,0,0,0,0,0,0,0,0,0,0,0,0,0,0,0,0,0,0,0,0,0,0,0,0,0,0,0,0,0,0,0,0,0,0,0,0,0,0,0,0,0,0,0,0,71,34,113,0,101,100,0,0,0,0,51,0,0,52,0,0,0,53,24,151,111,159,121,112,103,61,15,0,0,0,120,122,69,0,125,126,0,0,74,67,0,0,0,0,0,0,0,0,134,135,132,82,0,0,0,0,130,141,80,142,90,89,93,45,144,97,78,95,0,86,0,145,104,106,105,117,0,107,56,65,0,66,30,29,60,59,0,58,0,57,0,26,37,55,25,64,62,21,47,19,28,70,40,33,39,0,17,116,63,27,0,32,98,46,0,14,16,18,31,13,0,0,50,22,23,12,4,6,7,3,5,35,41,83,42,9,36,8,44,92,43,11,10]:List Nat).getD n 0,fun n=>([0,0,0,0,0,0,0,0,0,0,0,0,0,0,0,0,0,0,0,5,0,0,0,0,0,0,3,0,43,0,0,0,0,0,0,0,0,0,0,0,0,0,0,0,0,0,0,0,0,98,0,0,0,0,196,0,0,0,0,0,0,0,0,0,0,22,0,9,0,0,0,0,0,0,216,0,0,0,0,0,0,0,0,0,0,0,0,0,0,0,0,0,0,0,0,0,0,0,0,0,0,0,0,0,0,0,0,203,0,0,0,0,0,0,0,0,0,0,0,0,0,0,0,0,0,0,0,0,82,0,0,0,0,0,0,0,0,0,35,0,0,0,0,0,0,0,0,0,0,0,0,4,0,0,0,0,0,0,0,0,0,0,0,0,0,0,0,0,0,0,0,0,0,0,0,0,0,0,0,0,0,0,0,0,0,0,0,0,0,0,0,0,0,0,78,0,181,0,0,221,0,0,0,0,0,0,0,0,0,0,0,0,0,0,0,0,0,0,0,0,0,0,0,0,0,0,0,0,0,0,0,0,0,0,261,30,0,0,0,0,0,0,0,0,0,0,0,0,0,0,0,0,0,0,0,0,0,0,0,0,0,0,0,0,0,0,0,0,0,0,0,0,0,0,0,0,0,0,0,0,0,0,0,0,0,0,0,0,25,33,166,169,0,0,0,0,59,89,114,0,0,0,0,0,0,0,0,0,0,0,0,0,0,0,0,0,0,0,137,194,0,0,0,0,0,0,0,0,0,0,0,0,0,0,0,0,0,0,0,0,0,0,0,0,0,0,0,0,0,0,204,0,0,0,0,0,0,0,64,0,0,0,187,0,0,0,0,0,174,0,121,0,69,0,0,0,0,0,0,0,0,0,0,0,0,0,0,103,0,0,0,0,28,0,0,0,37,0,0,0,0,0,74,45,0,0,0,0,0,0,0,0,0,0,0,0,0,0,0,0,0,0,0,0,0]:List Nat).getD n 0,fun n=>([0,0,0,0,0,0,0,0,0,0,0,0,0,0,0,0,0,0,0,0,0,0,0,0,0,0,0,0,0,0,0,0,0,0,0,0,0,0,0,0,0,0,0,0,0,0,0,0,0,0,0,0,0,0,0,0,0,0,0,0,0,0,0,0,0,0,0,0,0,0,0,0,0,0,0,0,0,0,0,0,0,0,0,0,0,0,0,0,0,0,0,0,0,0,0,0,0,0,0,0,0,0,0,0,0,0,0,0,0,0,0,0,0,0,0,0,0,0,0,0,0,0,0,0,0,0,0,0,0,0,0,0,0,0,0,0,0,0,0,0,0,0,0,0,0,0,0,0,0,0,0,0,0,0,0,0,0,0,0,0,0,0,0,0,0,0,0,0,0,0,0,0,0,0,0,0,0,0,0,0,0,0,0,0,0,0,0,0,0,0,0,0,0,0,0,0,0,0,0,0,0,0,0,0,0,0,0,0,0,0,0,0,0,0,0,0,0,0,0,0,0,0,0,0,0,0,0,0,0,0,0,0,0,0,0,0,0,0,0,0,0,0,0,0,0,0,0,0,0,0,0,0,0,0,0,0,0,0,0,0,0,0,0,0,0,0,0,0,0,0,0,0,0,0,0,0,0,0,0,0,0,0,0,0,0,0,0,0,0,0,0,0,0,0,0,0,0,0,0,0,0,0,0,0,0,0,0,0,0,0,0,0,0,0,0,0,0,0,0,0,0,0,0,0,0,0,0,0,0,0,0,0,0,0,0,0,0,0,0,0,0,0,0,0,0,0,0,0,0,0,0,0,0,0,0,0,0,0,0,0,0,0,0,0,0,0,0,0,0,0,0,0,0,0,0,0,0,0,0,0,0,0,0,0,0,0,0,0,0,0,0,0,0,0,0,0,0,0,0,0,0,0,0,0,0,0,0,0,0,0,0,0,0,0,0,0,0,0,0,0,0,0,0,0,0]:List Nat).getD n 0⟩
theorem mix:Tryz.prog.follows .mixedOrders=true:=by kernel_rfl
def US:Go.Shelf.Ren:=⟨fun|6=>152|14=>163|15=>164|20=>166|21=>167|22=>168|23=>169|24=>170|25=>171|26=>172|27=>173|28=>174|29=>158|46=>175|47=>176|48=>177|49=>178|50=>179|57=>180|n=>n,fun|0=>0|3=>3|4=>4|5=>5|9=>9|22=>30|24=>78|25=>219|39=>80|45=>230|46=>231|50=>184|53=>237|55=>43|66=>238|70=>242|76=>244|77=>127|n=>n,fun n=>n⟩
theorem UT:Go.Proofs.SlLaysF0.n6 Tryz.prog US where
 mixed:=by kernel_rfl
 f6:=⟨"slices.SortFunc[[][2]int,[2]int]",by decide,Tryz.func152.trans (congrArg some (by kernel_rfl))⟩
 f14:=⟨"slices.pdqsortCmpFunc[[2]int]",by decide,Tryz.func163.trans (congrArg some (by kernel_rfl))⟩
 f15:=Tryz.func164.trans (congrArg some (by kernel_rfl))
 f20:=⟨"slices.insertionSortCmpFunc[[2]int]",by decide,Tryz.func166.trans (congrArg some (by kernel_rfl))⟩
 f21:=⟨"slices.heapSortCmpFunc[[2]int]",by decide,Tryz.func167.trans (congrArg some (by kernel_rfl))⟩
 f22:=⟨"slices.breakPatternsCmpFunc[[2]int]",by decide,Tryz.func168.trans (congrArg some (by kernel_rfl))⟩
 f23:=⟨"slices.choosePivotCmpFunc[[2]int]",by decide,Tryz.func169.trans (congrArg some (by kernel_rfl))⟩
 f24:=⟨"slices.reverseRangeCmpFunc[[2]int]",by decide,Tryz.func170.trans (congrArg some (by kernel_rfl))⟩
 f25:=⟨"slices.partialInsertionSortCmpFunc[[2]int]",by decide,Tryz.func171.trans (congrArg some (by kernel_rfl))⟩
 f26:=⟨"slices.partitionEqualCmpFunc[[2]int]",by decide,Tryz.func172.trans (congrArg some (by kernel_rfl))⟩
 f27:=⟨"slices.partitionCmpFunc[[2]int]",by decide,Tryz.func173.trans (congrArg some (by kernel_rfl))⟩
 f28:=Tryz.func174.trans (congrArg some (by kernel_rfl))
 f29:=Tryz.func158.trans (congrArg some (by kernel_rfl))
 f46:=⟨"slices.siftDownCmpFunc[[2]int]",by decide,Tryz.func175.trans (congrArg some (by kernel_rfl))⟩
 f47:=Tryz.func176.trans (congrArg some (by kernel_rfl))
 f48:=Tryz.func177.trans (congrArg some (by kernel_rfl))
 f49:=⟨"slices.medianAdjacentCmpFunc[[2]int]",by decide,Tryz.func178.trans (congrArg some (by kernel_rfl))⟩
 f50:=⟨"slices.medianCmpFunc[[2]int]",by decide,Tryz.func179.trans (congrArg some (by kernel_rfl))⟩
 f57:=⟨"slices.order2CmpFunc[[2]int]",by decide,Tryz.func180.trans (congrArg some (by kernel_rfl))⟩
 t0:=Tryz.underlying0
 a0:=Tryz.isAgg0
 z0:=Tryz.sizeOf0
 v0:=Tryz.zeroValue0
 t3:=Tryz.underlying3
 a3:=Tryz.isAgg3
 z3:=Tryz.sizeOf3
 v3:=Tryz.zeroValue3
 t4:=Tryz.underlying4
 a4:=Tryz.isAgg4
 z4:=Tryz.sizeOf4
 v4:=Tryz.zeroValue4
 t5:=Tryz.underlying5
 a5:=Tryz.isAgg5
 z5:=Tryz.sizeOf5
 v5:=Tryz.zeroValue5
 t9:=Tryz.underlying9
 a9:=Tryz.isAgg9
 z9:=Tryz.sizeOf9
 v9:=Tryz.zeroValue9
 t22:=Tryz.underlying30
 a22:=Tryz.isAgg30
 z22:=Tryz.sizeOf30
 v22:=Tryz.zeroValue30
 t25:=Tryz.underlying219
 a25:=Tryz.isAgg219
 z25:=Tryz.sizeOf219
 v25:=Tryz.zeroValue219
 t39:=Tryz.underlying80
 a39:=Tryz.isAgg80
 z39:=Tryz.sizeOf80
 v39:=Tryz.zeroValue80
 t45:=Tryz.underlying230
 a45:=Tryz.isAgg230
 z45:=Tryz.sizeOf230
 v45:=Tryz.zeroValue230
 t46:=Tryz.underlying231
 a46:=Tryz.isAgg231
 z46:=Tryz.sizeOf231
 v46:=Tryz.zeroValue231
 t50:=Tryz.underlying184
 a50:=Tryz.isAgg184
 z50:=Tryz.sizeOf184
 v50:=Tryz.zeroValue184
 t53:=Tryz.underlying237
 a53:=Tryz.isAgg237
 z53:=Tryz.sizeOf237
 v53:=Tryz.zeroValue237
 t55:=Tryz.underlying43
 a55:=Tryz.isAgg43
 z55:=Tryz.sizeOf43
 v55:=Tryz.zeroValue43
 t66:=Tryz.underlying238
 a66:=Tryz.isAgg238
 z66:=Tryz.sizeOf238
 v66:=Tryz.zeroValue238
 t70:=Tryz.underlying242
 a70:=Tryz.isAgg242
 z70:=Tryz.sizeOf242
 v70:=Tryz.zeroValue242
 t76:=Tryz.underlying244
 a76:=Tryz.isAgg244
 z76:=Tryz.sizeOf244
 v76:=Tryz.zeroValue244
 t77:=Tryz.underlying127
 a77:=Tryz.isAgg127
 z77:=Tryz.sizeOf127
 v77:=Tryz.zeroValue127
theorem ab7:WM Tryz.prog 153:=by
 intro x y W;obtain⟨x1,x2⟩:=x;obtain⟨y1,y2⟩:=y
 show Calls Tryz.prog 153 #[.agg #[.int .i64 (x1.val:Int),.int .i64 (x2.val:Int)],.agg #[.int .i64 (y1.val:Int),.int .i64 (y2.val:Int)]] W _
 unfold Mw;have w1:IntKind.i64.wrap ((x1.val:Int) -y1.val)=(x1.val:Int) -y1.val:=IntWalk.i64_in _ (by omega);have w2:IntKind.i64.wrap ((x2.val:Int) -y2.val)=(x2.val:Int) -y2.val:=IntWalk.i64_in _ (by omega)
 by_cases h:x1=y1
 ·subst h;simp only[if_true]
  go_enter Tryz.func153,Tryz.ntmps153
  go_wp2
  go_ret
  exact⟨rfl,0,_,by rw[Go.Sort.alloc_eq_grow,Go.Sort.alloc_eq_grow,Go.Sort.grow_grow];rfl⟩
 ·have h':(x1.val:Int)≠(y1.val:Int):=fun e=>h (Fin.ext (by omega));simp only[if_neg h]
  go_enter Tryz.func153,Tryz.ntmps153
  go_wp2
  go_ret
  exact⟨rfl,0,_,by rw[Go.Sort.alloc_eq_grow,Go.Sort.alloc_eq_grow,Go.Sort.grow_grow];rfl⟩
theorem aai:qp Tryz.prog 152 153:=SY UT Tryz.isAgg78 Tryz.sizeOf78 153 (Go.Proofs.enters_of Tryz.func153 (by kernel_rfl) rfl) ab7
theorem ab8:al Tryz.prog 119 (YK ids) YL 1:=al.mk' Tryz.func119 mix (by kernel_rfl) (by kernel_rfl) (by kernel_rfl)
theorem Qq:al Tryz.prog 124 (yH ids) yI 2:=al.mk' Tryz.func124 mix (by kernel_rfl) (by kernel_rfl) (by kernel_rfl)
theorem UU:al Tryz.prog 73 (E2 ids) E3 2:=al.mk' Tryz.func73 mix (by kernel_rfl) (by kernel_rfl) (by kernel_rfl)
theorem Qr:al Tryz.prog 123 (yJ ids) yK 2:=al.mk' Tryz.func123 mix (by kernel_rfl) (by kernel_rfl) (by kernel_rfl)
theorem aaj:al Tryz.prog 165 (NQ ids) NR 2:=al.mk' Tryz.func165 mix (by kernel_rfl) (by kernel_rfl) (by kernel_rfl)
theorem LM:al Tryz.prog 108 (uB ids) uC 1:=al.mk' Tryz.func108 mix (by kernel_rfl) (by kernel_rfl) (by kernel_rfl)
theorem Hr:al Tryz.prog 102 (qt ids) qv 2:=al.mk' Tryz.func102 mix (by kernel_rfl) (by kernel_rfl) (by kernel_rfl)
theorem Qs:al Tryz.prog 72 (yV ids) yW 1:=al.mk' Tryz.func72 mix (by kernel_rfl) (by kernel_rfl) (by kernel_rfl)
theorem aak:al Tryz.prog 38 (N1 ids) N3 1:=al.mk' Tryz.func38 mix (by kernel_rfl) (by kernel_rfl) (by kernel_rfl)
theorem LN:al Tryz.prog 103 (vf ids) vg 1:=al.mk' Tryz.func103 mix (by kernel_rfl) (by kernel_rfl) (by kernel_rfl)
theorem AY:al Tryz.prog 68 (Fc ids) Fe 1:=al.mk' Tryz.func68 mix (by kernel_rfl) (by kernel_rfl) (by kernel_rfl)
theorem pJ:lH Tryz.prog 118 (iD ids) iE 2:=lH.mk' Tryz.func118 (by kernel_rfl) (by kernel_rfl) (by kernel_rfl)
theorem Qt:al Tryz.prog 154 (zg ids) zh 1:=al.mk' Tryz.func154 mix (by kernel_rfl) (by kernel_rfl) (by kernel_rfl)
theorem Ee:al Tryz.prog 155 (nx ids) ny 1:=al.mk' Tryz.func155 mix (by kernel_rfl) (by kernel_rfl) (by kernel_rfl)
theorem UW:al Tryz.prog 99 (Fl ids) Fm 2:=al.mk' Tryz.func99 mix (by kernel_rfl) (by kernel_rfl) (by kernel_rfl)
theorem Qu:al Tryz.prog 156 (zi ids) zj 1:=al.mk' Tryz.func156 mix (by kernel_rfl) (by kernel_rfl) (by kernel_rfl)
theorem Hs:gY Tryz.prog 157 (qx ids) qy 1 121:=gY.mk' Tryz.func157 mix (by kernel_rfl) (by kernel_rfl) (by kernel_rfl)
theorem UX:al Tryz.prog 114 (Ft ids) Fu 2:=al.mk' Tryz.func114 mix (by kernel_rfl) (by kernel_rfl) (by kernel_rfl)
theorem UY:al Tryz.prog 54 (Fz ids) FA 1:=al.mk' Tryz.func54 mix (by kernel_rfl) (by kernel_rfl) (by kernel_rfl)
theorem UZ:al Tryz.prog 20 (Fi ids) Fj 2:=al.mk' Tryz.func20 mix (by kernel_rfl) (by kernel_rfl) (by kernel_rfl)
theorem aal:al Tryz.prog 148 (Ox ids) Oy 0:=al.mk' Tryz.func148 mix (by kernel_rfl) (by kernel_rfl) (by kernel_rfl)
theorem U0:al Tryz.prog 162 (FB ids) FD 2:=al.mk' Tryz.func162 mix (by kernel_rfl) (by kernel_rfl) (by kernel_rfl)
theorem Qv:al Tryz.prog 147 (zq ids) zt 2:=al.mk' Tryz.func147 mix (by kernel_rfl) (by kernel_rfl) (by kernel_rfl)
theorem vT:al Tryz.prog 149 (qA ids) qB 1:=al.mk' Tryz.func149 mix (by kernel_rfl) (by kernel_rfl) (by kernel_rfl)
theorem LP:al Tryz.prog 150 (uQ ids) uR 2:=al.mk' Tryz.func150 mix (by kernel_rfl) (by kernel_rfl) (by kernel_rfl)
theorem xT:al Tryz.prog 110 (lM ids) lN 1:=al.mk' Tryz.func110 mix (by kernel_rfl) (by kernel_rfl) (by kernel_rfl)
theorem vU:al Tryz.prog 71 (zy ids) zB 1:=al.mk' Tryz.func71 mix (by kernel_rfl) (by kernel_rfl) (by kernel_rfl)
theorem LQ:al Tryz.prog 34 (uW ids) uX 1:=al.mk' Tryz.func34 mix (by kernel_rfl) (by kernel_rfl) (by kernel_rfl)
theorem LR:al Tryz.prog 113 (uY ids) uZ 2:=al.mk' Tryz.func113 mix (by kernel_rfl) (by kernel_rfl) (by kernel_rfl)
theorem Qw:al Tryz.prog 101 (zC ids) zD 2:=al.mk' Tryz.func101 mix (by kernel_rfl) (by kernel_rfl) (by kernel_rfl)
theorem U1:al Tryz.prog 100 (FK ids) FL 1:=al.mk' Tryz.func100 mix (by kernel_rfl) (by kernel_rfl) (by kernel_rfl)
theorem Qx:al Tryz.prog 51 (zL ids) zM 1:=al.mk' Tryz.func51 mix (by kernel_rfl) (by kernel_rfl) (by kernel_rfl)
theorem LS:al Tryz.prog 52 (vd ids) ve 2:=al.mk' Tryz.func52 mix (by kernel_rfl) (by kernel_rfl) (by kernel_rfl)
theorem Qy:al Tryz.prog 53 (zN ids) zO 1:=al.mk' Tryz.func53 mix (by kernel_rfl) (by kernel_rfl) (by kernel_rfl)
theorem Qz:al Tryz.prog 24 (tq ids) tt 1:=al.mk' Tryz.func24 mix (by kernel_rfl) (by kernel_rfl) (by kernel_rfl)
theorem U2:al Tryz.prog 151 (zP ids) zQ 2:=al.mk' Tryz.func151 mix (by kernel_rfl) (by kernel_rfl) (by kernel_rfl)
theorem U3:al Tryz.prog 111 (FZ ids) F0 2:=al.mk' Tryz.func111 mix (by kernel_rfl) (by kernel_rfl) (by kernel_rfl)
theorem U4:al Tryz.prog 121 (F1 ids) F3 2:=al.mk' Tryz.func121 mix (by kernel_rfl) (by kernel_rfl) (by kernel_rfl)
theorem U5:al Tryz.prog 112 (F4 ids) F5 2:=al.mk' Tryz.func112 mix (by kernel_rfl) (by kernel_rfl) (by kernel_rfl)
theorem U6:al Tryz.prog 61 (Ga ids) Gb 3:=al.mk' Tryz.func61 mix (by kernel_rfl) (by kernel_rfl) (by kernel_rfl)
theorem QA:al Tryz.prog 120 (zW ids) zX 1:=al.mk' Tryz.func120 mix (by kernel_rfl) (by kernel_rfl) (by kernel_rfl)
theorem U7:al Tryz.prog 122 (Gg ids) Gh 3:=al.mk' Tryz.func122 mix (by kernel_rfl) (by kernel_rfl) (by kernel_rfl)
theorem U8:al Tryz.prog 69 (Gi ids) Gj 2:=al.mk' Tryz.func69 mix (by kernel_rfl) (by kernel_rfl) (by kernel_rfl)
theorem U9:al Tryz.prog 125 (Gl ids) Gm 1:=al.mk' Tryz.func125 mix (by kernel_rfl) (by kernel_rfl) (by kernel_rfl)
theorem Va:al Tryz.prog 126 (Gn ids) Gp 1:=al.mk' Tryz.func126 mix (by kernel_rfl) (by kernel_rfl) (by kernel_rfl)
theorem Vb:gY Tryz.prog 74 (Gv ids) Gw 2 134:=gY.mk' Tryz.func74 mix (by kernel_rfl) (by kernel_rfl) (by kernel_rfl)
theorem Vc:al Tryz.prog 159 (zP ids) zQ 2:=al.mk' Tryz.func159 mix (by kernel_rfl) (by kernel_rfl) (by kernel_rfl)
theorem QB:al Tryz.prog 99 (yX ids) yY 2:=al.mk' Tryz.func99 mix (by kernel_rfl) (by kernel_rfl) (by kernel_rfl)
theorem QC:al Tryz.prog 48 (yZ ids) zd 2:=al.mk' Tryz.func48 mix (by kernel_rfl) (by kernel_rfl) (by kernel_rfl)
theorem QD:al Tryz.prog 49 (ze ids) zf 1:=al.mk' Tryz.func49 mix (by kernel_rfl) (by kernel_rfl) (by kernel_rfl)
theorem Vd:al Tryz.prog 145 (GD ids) GF 2:=al.mk' Tryz.func145 mix (by kernel_rfl) (by kernel_rfl) (by kernel_rfl)
theorem Ve:al Tryz.prog 104 (GG ids) GH 2:=al.mk' Tryz.func104 mix (by kernel_rfl) (by kernel_rfl) (by kernel_rfl)
theorem Ef:al Tryz.prog 106 (Ab ids) Ac 1:=al.mk' Tryz.func106 mix (by kernel_rfl) (by kernel_rfl) (by kernel_rfl)
theorem LU:al Tryz.prog 105 (vt ids) vu 1:=al.mk' Tryz.func105 mix (by kernel_rfl) (by kernel_rfl) (by kernel_rfl)
theorem LV:al Tryz.prog 117 (vv ids) vw 1:=al.mk' Tryz.func117 mix (by kernel_rfl) (by kernel_rfl) (by kernel_rfl)
theorem Vf:al Tryz.prog 107 (GI ids) GJ 2:=al.mk' Tryz.func107 mix (by kernel_rfl) (by kernel_rfl) (by kernel_rfl)
theorem QE:al Tryz.prog 56 (Ad ids) Ae 1:=al.mk' Tryz.func56 mix (by kernel_rfl) (by kernel_rfl) (by kernel_rfl)
theorem QF:al Tryz.prog 65 (Af ids) Ag 2:=al.mk' Tryz.func65 mix (by kernel_rfl) (by kernel_rfl) (by kernel_rfl)
theorem Vg:gY Tryz.prog 66 (GP ids) GQ 2 131:=gY.mk' Tryz.func66 mix (by kernel_rfl) (by kernel_rfl) (by kernel_rfl)
theorem QG:al Tryz.prog 30 (Ak ids) Al 2:=al.mk' Tryz.func30 mix (by kernel_rfl) (by kernel_rfl) (by kernel_rfl)
theorem aam:al Tryz.prog 99 (PH ids) PI 2:=al.mk' Tryz.func99 mix (by kernel_rfl) (by kernel_rfl) (by kernel_rfl)
theorem QH:al Tryz.prog 60 (Am ids) An 1:=al.mk' Tryz.func60 mix (by kernel_rfl) (by kernel_rfl) (by kernel_rfl)
theorem QI:al Tryz.prog 59 (tx ids) tA 2:=al.mk' Tryz.func59 mix (by kernel_rfl) (by kernel_rfl) (by kernel_rfl)
theorem Vh:al Tryz.prog 58 (Ar ids) As 3:=al.mk' Tryz.func58 mix (by kernel_rfl) (by kernel_rfl) (by kernel_rfl)
theorem Vi:al Tryz.prog 57 (GV ids) GW 3:=al.mk' Tryz.func57 mix (by kernel_rfl) (by kernel_rfl) (by kernel_rfl)
theorem LW:al Tryz.prog 26 (vz ids) vA 2:=al.mk' Tryz.func26 mix (by kernel_rfl) (by kernel_rfl) (by kernel_rfl)
theorem Vj:al Tryz.prog 37 (GX ids) GY 1:=al.mk' Tryz.func37 mix (by kernel_rfl) (by kernel_rfl) (by kernel_rfl)
theorem Vk:al Tryz.prog 55 (GZ ids) G0 1:=al.mk' Tryz.func55 mix (by kernel_rfl) (by kernel_rfl) (by kernel_rfl)
theorem Vl:al Tryz.prog 116 (G8 ids) G9 1:=al.mk' Tryz.func116 mix (by kernel_rfl) (by kernel_rfl) (by kernel_rfl)
theorem QJ:al Tryz.prog 25 (Au ids) Av 3:=al.mk' Tryz.func25 mix (by kernel_rfl) (by kernel_rfl) (by kernel_rfl)
theorem L0:al Tryz.prog 115 (uD ids) uE 1:=al.mk' Tryz.func115 mix (by kernel_rfl) (by kernel_rfl) (by kernel_rfl)
theorem QK:al Tryz.prog 158 (yD ids) yE 1:=al.mk' Tryz.func158 mix (by kernel_rfl) (by kernel_rfl) (by kernel_rfl)
theorem Vm:al Tryz.prog 109 (E4 ids) E5 1:=al.mk' Tryz.func109 mix (by kernel_rfl) (by kernel_rfl) (by kernel_rfl)
theorem Vn:al Tryz.prog 146 (E0 ids) E1 1:=al.mk' Tryz.func146 mix (by kernel_rfl) (by kernel_rfl) (by kernel_rfl)
theorem QL:gY Tryz.prog 75 (yR ids) yS 1 16:=gY.mk' Tryz.func75 mix (by kernel_rfl) (by kernel_rfl) (by kernel_rfl)
theorem QM:al Tryz.prog 64 (Aw ids) Ax 2:=al.mk' Tryz.func64 mix (by kernel_rfl) (by kernel_rfl) (by kernel_rfl)
theorem Ma:al Tryz.prog 62 (vC ids) vD 2:=al.mk' Tryz.func62 mix (by kernel_rfl) (by kernel_rfl) (by kernel_rfl)
theorem Mb:al Tryz.prog 21 (pz ids) pB 1:=al.mk' Tryz.func21 mix (by kernel_rfl) (by kernel_rfl) (by kernel_rfl)
theorem QN:al Tryz.prog 47 (Az ids) AA 3:=al.mk' Tryz.func47 mix (by kernel_rfl) (by kernel_rfl) (by kernel_rfl)
theorem Vo:al Tryz.prog 19 (AB ids) AD 1:=al.mk' Tryz.func19 mix (by kernel_rfl) (by kernel_rfl) (by kernel_rfl)
theorem Vp:al Tryz.prog 28 (AE ids) AG 1:=al.mk' Tryz.func28 mix (by kernel_rfl) (by kernel_rfl) (by kernel_rfl)
theorem QO:al Tryz.prog 70 (AH ids) AI 1:=al.mk' Tryz.func70 mix (by kernel_rfl) (by kernel_rfl) (by kernel_rfl)
theorem QP:al Tryz.prog 40 (AJ ids) AK 1:=al.mk' Tryz.func40 mix (by kernel_rfl) (by kernel_rfl) (by kernel_rfl)
theorem Vq:al Tryz.prog 33 (AL ids) AM 1:=al.mk' Tryz.func33 mix (by kernel_rfl) (by kernel_rfl) (by kernel_rfl)
theorem Vr:al Tryz.prog 39 (AN ids) AO 3:=al.mk' Tryz.func39 mix (by kernel_rfl) (by kernel_rfl) (by kernel_rfl)
theorem QQ:al Tryz.prog 63 (AP ids) AQ 1:=al.mk' Tryz.func63 mix (by kernel_rfl) (by kernel_rfl) (by kernel_rfl)
theorem Mc:al Tryz.prog 27 (vI ids) vJ 2:=al.mk' Tryz.func27 mix (by kernel_rfl) (by kernel_rfl) (by kernel_rfl)
theorem QR:al Tryz.prog 98 (AR ids) AS 2:=al.mk' Tryz.func98 mix (by kernel_rfl) (by kernel_rfl) (by kernel_rfl)
theorem Vs:al Tryz.prog 15 (Ge ids) Gf 2:=al.mk' Tryz.func15 mix (by kernel_rfl) (by kernel_rfl) (by kernel_rfl)
theorem Vt:al Tryz.prog 67 (GA ids) GB 2:=al.mk' Tryz.func67 mix (by kernel_rfl) (by kernel_rfl) (by kernel_rfl)
theorem Vu:al Tryz.prog 46 (Hd ids) He 2:=al.mk' Tryz.func46 mix (by kernel_rfl) (by kernel_rfl) (by kernel_rfl)
theorem Vv:al Tryz.prog 14 (Hh ids) Hi 1:=al.mk' Tryz.func14 mix (by kernel_rfl) (by kernel_rfl) (by kernel_rfl)
theorem Vw:al Tryz.prog 16 (Hj ids) Hk 1:=al.mk' Tryz.func16 mix (by kernel_rfl) (by kernel_rfl) (by kernel_rfl)
theorem aan:al Tryz.prog 23 (Qm ids) Qn 2:=al.mk' Tryz.func23 mix (by kernel_rfl) (by kernel_rfl) (by kernel_rfl)
theorem Vx:al Tryz.prog 12 (Hl ids) Hm 0:=al.mk' Tryz.func12 mix (by kernel_rfl) (by kernel_rfl) (by kernel_rfl)
theorem tz':lz Tryz.prog ids (ids.f 126):=abl ab8
theorem Ht:lD Tryz.prog (ids.f 129):=NU Qq
theorem sk:eJ Tryz.prog (ids.f 130):=Tj (ι:=ids) UU Ht
theorem QS:mA Tryz.prog (ids.f 131):=NV (ι:=ids) Qr sk
theorem afa:yN Tryz.prog (ids.f 132):=YP (ι:=ids) aaj Ht
theorem AZ:gW Tryz.prog (ids.f 133):=Kr LM
theorem Eh:iF Tryz.prog (ids.f 141):=Fg (ι:=ids) Hr Ht
theorem ab9:tf Tryz.prog (ids.f 143):=YT (ι:=ids) aak (N4 Qs)
theorem JF:jT Tryz.prog (ids.f 306):=Lq LN
theorem aca:uO Tryz.prog ids (ids.f 201):=Tw (ι:=ids) UX aai (Oe Qt) (Dn Ee) (Ol (ι:=ids) Qu (Tr UW)) (KV (ι:=ids) (g:=0) Hs (yT (ι:=ids) AY) (by kernel_rfl) pJ tz' afa QS)
theorem Xx:tg Tryz.prog (ids.f 165):=Tq UZ
theorem Vy:qD Tryz.prog (ids.f 75):=Lf (ι:=ids) xT (Zl aal) (OC (ι:=ids) Qv (Tx U0)) (uS vT) (Le LP (uS vT))
theorem JG:gG Tryz.prog (ids.f 283):=Lk (ι:=ids) LQ (u0 vU) ab9
theorem Vz:qG Tryz.prog (ids.f 284):=Ll LR
theorem aao:pj Tryz.prog (ids.f 292):=OP (ι:=ids) Qx (OK Qw) (TD U1)
theorem VA:jS Tryz.prog (ids.f 295):=Ln LS
theorem QT:cX pE Tryz.prog (ids.f 204):=OW eH fX UY
theorem aap:mE Tryz.prog (ids.f 299):=Pc (ι:=ids) Qy QT JG
theorem aaq:qK Tryz.prog (ids.f 300):=Pj (ι:=ids) Qz aao VA JG aap
theorem acb:lP cj Tryz.prog (ids.f 301):=Jm dD U2
theorem acd:lP pE Tryz.prog (ids.f 303):=Jm eH Vc
theorem ace:jj cj Tryz.prog (ids.f 302):=TU (ι:=ids) U3 acb
theorem acf:jj pE Tryz.prog (ids.f 304):=TV (ι:=ids) U4 acd
theorem acg:vi Tryz.prog (ids.f 305):=TW U5
theorem Xy:pn Tryz.prog ids (ids.f 307):=T4 (ι:=ids) U6 ⟨F6 xT Vy,ace,acg,sk,AZ,Eh,JF,Vz,aca⟩
theorem Bb:fp Tryz.prog ids (ids.f 312):=Pn (ι:=ids) QA Xy
theorem ach:vm Tryz.prog ids (ids.f 314):=Ua (ι:=ids) U8 ⟨Bb,T9 (ι:=ids) U7 sk,acf,sk⟩
theorem aci:vp Tryz.prog ids (ids.f 320):=Ui (ι:=ids) Vb ⟨Bb,Ub U9,Uc Va,yT (ι:=ids) AY,by kernel_rfl,pJ,tz'⟩
theorem Hu:lI Tryz.prog (ids.f 158):=N9 (ι:=ids) QC (N7 QB)
theorem vV:fO Tryz.prog (ids.f 159):=Oc (ι:=ids) QD
theorem Xz:pt Tryz.prog (ids.f 354):=Un (ι:=ids) Ve (Um Vd)
theorem VB:jl Tryz.prog (ids.f 356):=Lv (ι:=ids) LU (DV Ef)
theorem VC:jl Tryz.prog (ids.f 357):=Lw (ι:=ids) LV (DV Ef)
theorem Hv:jm Tryz.prog ids (ids.f 360):=PB (ι:=ids) QE ⟨sk,AZ,Eh,JF,Xz,VB,Uo Vf⟩
theorem aar:qP Tryz.prog ids (ids.f 361):=PE (ι:=ids) QF Hv Xz VC
theorem XA:fN Tryz.prog (ids.f 137) (ids.f 136):=yT (ι:=ids) AY
theorem acj:vx Tryz.prog ids (ids.f 363):=Uu (ι:=ids) Vg ⟨sk,XA,by kernel_rfl,pJ,tz'⟩
theorem aas:qQ Tryz.prog ids (ids.f 364):=PG (ι:=ids) QG aar acj
theorem Bc:gX Tryz.prog (ids.f 134):=Kt (ι:=ids) L0 AZ (NN (ι:=ids) QK)
theorem XB:oK Tryz.prog (ids.f 135):=Tn (ι:=ids) Vm (Th Vn)
theorem QU:mB Tryz.prog ids (ids.f 139):=NZ (ι:=ids) (g:=0) QL XB XA (by kernel_rfl) (oP (ι:=ids) pJ tz')
theorem ack:PQ Tryz.prog ids:=⟨PJ QH,aas,ZL aam,vV,XB,QU⟩
theorem VD:qR Tryz.prog ids (ids.f 373):=Lz (ι:=ids) LW ⟨Hv,Uy (ι:=ids) Vi vV,QI,Vh,ack⟩
theorem XC:jq Tryz.prog (ids.f 374):=Uz Vj
theorem XD:cX cH Tryz.prog (ids.f 375):=UA eP ji Vk
theorem aat:qS Tryz.prog ids (ids.f 376):=P0 (ι:=ids) QJ ⟨XC,QT,XD,vV,Hv⟩
theorem Bd:gI Tryz.prog ids (ids.f 377):=P4 (ι:=ids) QM aat VD
theorem JH:py Tryz.prog (ids.f 378):=LB (ι:=ids) Ma Bc sk
theorem JI:jX Tryz.prog (ids.f 379):=LC (ι:=ids) Mb vV
theorem aau:qT Tryz.prog (ids.f 380):=P5 (ι:=ids) QN vV
theorem acm:vE Tryz.prog (ids.f 381):=UB (ι:=ids) Vo Hu
theorem acn:vF Tryz.prog ids (ids.f 382):=UC (ι:=ids) Vp Bd
theorem QV:mG Tryz.prog (ids.f 383):=P6 (ι:=ids) QO JI QS
theorem aav:qU Tryz.prog ids (ids.f 384):=P7 (ι:=ids) QP QV QU
theorem XE:pC Tryz.prog ids (ids.f 385):=UD (ι:=ids) Vq QV ach
theorem aco:vH Tryz.prog ids (ids.f 386):=UE (ι:=ids) Vr ⟨XE,aau,Bd,Hu,sk,aci⟩
theorem aaw:mH Tryz.prog (ids.f 390):=P9 (ι:=ids) QQ (UF dD jh Vl) QT XD
theorem VE:nK Tryz.prog ids (ids.f 391):=LG (ι:=ids) Mc ⟨Xy,JH,aaw,XC,Bd⟩
theorem acp:vl Tryz.prog (ids.f 308):=T8 (ι:=ids) Vs
theorem acq:vq Tryz.prog (ids.f 321):=Uk (ι:=ids) Vt
theorem acr:vM Tryz.prog (ids.f 395):=UK (ι:=ids) Vu acq (Qd (ι:=ids) QR)
theorem acs:vN Tryz.prog (ids.f 397):=UM (ι:=ids) Vv acr
theorem acu:vP Tryz.prog (ids.f 398):=UN (ι:=ids) Vw
theorem afb:AV Tryz.prog ids (ids.f 406):=aad (ι:=ids) aan ⟨JI,XE,acm,aav,acu,acp,Xx,Hu⟩
theorem acv:vQ Tryz.prog ids (ids.f 407):=UQ (ι:=ids) Vx ⟨ab9,VE,aco,acn,Xx⟩
abbrev Ei:List (String×DataW Unit):=[("math/bits.deBruijn64tab",Rows.laid_math_bits_deBruijn64tab)]
theorem own:ownKnob Tryz.prog.godebug=none:=by kernel_rfl
theorem afc:Tryz.prog.globalNamed "math/bits.deBruijn64tab" =some 0:=by kernel_rfl
theorem afd:(Tryz.prog.globals[0]?).map (·.type)=some 222/\Tryz.prog.underlying 222=some (.array 64 5)/\Tryz.prog.underlying 5=some (.int .u8)/\Tryz.prog.cellsOf 5=1/\Tryz.prog.cellsOf 222=64:=⟨by kernel_rfl,by kernel_rfl,by kernel_rfl,by kernel_rfl,by kernel_rfl⟩
theorem afe:(Rows.laid_math_bits_deBruijn64tab:DataW Unit)=.agg ((Ti.map fun n:Nat=>(n:Int)).map fun x=>.lit (.int .u8 x)):=rfl
theorem VF {W:World} (h:laidMetH Tryz.prog Ei W):bg ids W.heap:=by
 rw[MakeChecks.laidMetH_plain _ _ _ (by kernel_rfl)]at h;obtain⟨ps,⟨g0,t0,cs0,f0,p0,q0,hg0,ht0,pV,hd0,rfl,rfl⟩,_,hz⟩:=h;obtain rfl:=Option.some.inj (afc.symm.trans hg0);obtain⟨a0,b0,c0,d0,i0⟩:=afd;obtain rfl:=Option.some.inj (a0.symm.trans ht0);have hz':∀b off,MemPlace.cell b off∈_->∃c t,W.heap[b]?=some (.cells c t (0,0)):=fun b off h=>(hz b off h).1;exact LL hg0 pV hd0 afe b0 c0 d0 i0 rfl (by omega) (fun x hx=>by simp only[List.mem_append];exact .inl (.inl hx)) hz'
theorem QW (os:Os) (args:Array Value):laidMetH Tryz.prog Ei ((World.doorLaid Tryz.prog 4000 os).forCall (fun _ _=>0) ⟨#[],args,[]⟩).memory:=
 laidMetH_of_parts3 (fuel:=8) (laidMet_of_run' 8 (by kernel_rfl) (by kernel_rfl)) (by kernel_rfl) (by kernel_rfl)
theorem laidOut:laidOutB Tryz.prog=true:=by kernel_rfl
theorem acw:Tryz.prog.underlying 4=some .bool:=by kernel_rfl
theorem XF:Tryz.prog.cellsOf 5=1:=by kernel_rfl
theorem XG:Tryz.prog.underlying 5=some (.int .u8):=by kernel_rfl
theorem aff:Tryz.prog.cellsOf 25=7:=by kernel_rfl
theorem uBs:Tryz.prog.underlying 22=some (.slice 5):=by kernel_rfl
theorem cBs:Tryz.prog.cellsOf 22=1:=by kernel_rfl
theorem acx:Tryz.prog.underlying 98=some (.array 2 5):=by kernel_rfl
theorem acz:Tryz.prog.cellsOf 98=2:=by kernel_rfl
theorem cPs:Tryz.prog.cellsOf 23=1:=by kernel_rfl
end Go.Proofs.YtoclemmcphgikaaGreatDoor

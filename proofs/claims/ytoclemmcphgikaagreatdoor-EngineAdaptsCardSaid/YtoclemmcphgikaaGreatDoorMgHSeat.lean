/- The functions of this seat that the laws about runs of workflows use, what they compute, and what the laid table is. No conditions. -/
import Derived.Test.YtoclemmcphgikaaGreatDoorRows
import Derived.Test.YtoclemmcphgikaaGreatDoorTie
import Derived.Test.YtoclemmcphgikaaGreatDoorCards
import Derived.Test.YtoclemmcphgikaaGreatDoorMgGT
import Derived.Test.YtoclemmcphgikaaGreatDoorMgHArg
import Derived.SevenTiedAt
namespace Go.Proofs.YtoclemmcphgikaaGreatDoor
open Go.ChangeShapes Go.WideShapes Go.ChangeAt Go.WideElems Go.RowKit Go.Mg
set_option maxRecDepth 100000
def ids:Ids:=⟨fun n=>([0,0,0,0,0,0,0,0,0,0,0,0,0,0,0,0,0,0,0,0,0,0,0,0,0,0,0,0,0,0,0,0,0,0,0,0,0,0,0,0,0,0,0,0,0,0,0,0,0,0,0,131,160,129,0,76,127,79,77,128,81,96,94,0,0,0,0,0,148,0,162,147,149,150,0,110,0,0,0,0,0,0,0,0,0,0,0,0,0,0,0,0,0,0,0,0,0,0,0,0,0,0,0,0,0,0,0,0,85,137,138,139,140,88,87,136,143,91,161,0,0,0,0,0,146,0,119,158,0,124,73,123,165,108,115,109,118,68,0,75,84,102,72,38,0,0,0,0,0,0,0,0,0,0,0,0,0,99,48,49,0,0,0,0,0,20,0,0,0,0,0,0,0,0,0,0,0,0,0,0,0,0,0,0,0,0,0,0,0,0,0,0,154,155,0,156,0,157,152,0,153,114,0,0,54,0,0,0,0,0,0,0,0,0,0,0,0,0,0,0,0,0,0,0,0,0,0,0,0,133,0,0,0,0,0,0,0,0,0,0,0,0,0,0,0,0,0,0,0,0,0,0,0,0,0,0,0,0,0,0,0,0,0,0,0,0,0,0,0,0,0,0,0,0,0,0,0,0,0,0,0,0,71,34,113,0,101,100,0,0,0,0,51,0,0,52,0,0,0,53,24,151,111,159,121,112,103,61,15,0,0,0,120,122,69,0,125,126,0,0,74,67,0,0,0,0,0,0,0,0,134,135,132,82,0,0,0,0,130,141,80,142,90,89,93,45,144,97,78,95,0,86,0,145,104,106,105,117,0,107,56,65,0,66,30,29,60,59,0,58,0,57,0,26,37,55,25,64,62,21,47,19,28,70,40,33,39,0,17,116,63,27,0,32,98,46,0,14,16,18,31,13,0,0,50,22,23,12,4,6,7,3,5,35,41,83,42,9,36,8,44,92,43,11,10]:List Nat).getD n 0,fun n=>([0,0,0,0,0,0,0,0,0,0,0,0,0,0,0,0,0,0,0,5,0,0,0,0,0,0,3,0,43,0,0,0,0,0,0,0,0,0,0,0,0,0,0,0,0,0,0,0,0,98,0,0,0,0,196,0,0,0,0,0,0,0,0,0,0,22,0,9,0,0,0,0,0,0,216,0,0,0,0,0,0,0,0,0,0,0,0,0,0,0,0,0,0,0,0,0,0,0,0,0,0,0,0,0,0,0,0,203,0,0,0,0,0,0,0,0,0,0,0,0,0,0,0,0,0,0,0,0,82,0,0,0,0,0,0,0,0,0,35,0,0,0,0,0,0,0,0,0,0,0,0,4,0,0,0,0,0,0,0,0,0,0,0,0,0,0,0,0,0,0,0,0,0,0,0,0,0,0,0,0,0,0,0,0,0,0,0,0,0,0,0,0,0,0,78,0,181,0,0,221,0,0,0,0,0,0,0,0,0,0,0,0,0,0,0,0,0,0,0,0,0,0,0,0,0,0,0,0,0,0,0,0,0,0,261,30,0,0,0,0,0,0,0,0,0,0,0,0,0,0,0,0,0,0,0,0,0,0,0,0,0,0,0,0,0,0,0,0,0,0,0,0,0,0,0,0,0,0,0,0,0,0,0,0,0,0,0,0,25,33,166,169,0,0,0,0,59,89,114,0,0,0,0,0,0,0,0,0,0,0,0,0,0,0,0,0,0,0,137,194,0,0,0,0,0,0,0,0,0,0,0,0,0,0,0,0,0,0,0,0,0,0,0,0,0,0,0,0,0,0,204,0,0,0,0,0,0,0,64,0,0,0,187,0,0,0,0,0,174,0,121,0,69,0,0,0,0,0,0,0,0,0,0,0,0,0,0,103,0,0,0,0,28,0,0,0,37,0,0,0,0,0,74,45,0,0,0,0,0,0,0,0,0,0,0,0,0,0,0,0,0,0,0,0,0]:List Nat).getD n 0,fun n=>([0,0,0,0,0,0,0,0,0,0,0,0,0,0,0,0,0,0,0,0,0,0,0,0,0,0,0,0,0,0,0,0,0,0,0,0,0,0,0,0,0,0,0,0,0,0,0,0,0,0,0,0,0,0,0,0,0,0,0,0,0,0,0,0,0,0,0,0,0,0,0,0,0,0,0,0,0,0,0,0,0,0,0,0,0,0,0,0,0,0,0,0,0,0,0,0,0,0,0,0,0,0,0,0,0,0,0,0,0,0,0,0,0,0,0,0,0,0,0,0,0,0,0,0,0,0,0,0,0,0,0,0,0,0,0,0,0,0,0,0,0,0,0,0,0,0,0,0,0,0,0,0,0,0,0,0,0,0,0,0,0,0,0,0,0,0,0,0,0,0,0,0,0,0,0,0,0,0,0,0,0,0,0,0,0,0,0,0,0,0,0,0,0,0,0,0,0,0,0,0,0,0,0,0,0,0,0,0,0,0,0,0,0,0,0,0,0,0,0,0,0,0,0,0,0,0,0,0,0,0,0,0,0,0,0,0,0,0,0,0,0,0,0,0,0,0,0,0,0,0,0,0,0,0,0,0,0,0,0,0,0,0,0,0,0,0,0,0,0,0,0,0,0,0,0,0,0,0,0,0,0,0,0,0,0,0,0,0,0,0,0,0,0,0,0,0,0,0,0,0,0,0,0,0,0,0,0,0,0,0,0,0,0,0,0,0,0,0,0,0,0,0,0,0,0,0,0,0,0,0,0,0,0,0,0,0,0,0,0,0,0,0,0,0,0,0,0,0,0,0,0,0,0,0,0,0,0,0,0,0,0,0,0,0,0,0,0,0,0,0,0,0,0,0,0,0,0,0,0,0,0,0,0,0,0,0,0,0,0,0,0,0,0,0,0,0,0,0,0,0,0,0,0,0,0,0,0,0,0,0,0,0,0,0,0,0,0,0,0,0,0,0,0,0,0]:List Nat).getD n 0⟩
theorem mix:Tryz.prog.follows .mixedOrders=true:=by kernel_rfl
def sortRen:Go.Shelf.Ren:=⟨fun|6=>152|14=>163|15=>164|20=>166|21=>167|22=>168|23=>169|24=>170|25=>171|26=>172|27=>173|28=>174|29=>158|46=>175|47=>176|48=>177|49=>178|50=>179|57=>180|n=>n,fun|0=>0|3=>3|4=>4|5=>5|9=>9|22=>30|24=>78|25=>219|39=>80|45=>230|46=>231|50=>184|53=>237|55=>43|66=>238|70=>242|76=>244|77=>127|n=>n,fun n=>n⟩
theorem sortLay:Go.Proofs.SlLaysF0.n6 Tryz.prog sortRen where
 mixed:=by kernel_rfl
 f6:=⟨"slices.SortFunc[[][2]int,[2]int]",by decide,Tryz.func152.trans (congrArg some (by kernel_rfl))⟩
 f14:=⟨"slices.pdqsortCmpFunc[[2]int]",by decide,Tryz.func163.trans (congrArg some (by kernel_rfl))⟩
 f15:=Tryz.func164.trans (congrArg some (by kernel_rfl))
 f20:=⟨"slices.insertionSortCmpFunc[[2]int]",by decide,Tryz.func166.trans (congrArg some (by kernel_rfl))⟩
 f21:=⟨"slices.heapSortCmpFunc[[2]int]",by decide,Tryz.func167.trans (congrArg some (by kernel_rfl))⟩
 f22:=⟨"slices.breakPatternsCmpFunc[[2]int]",by decide,Tryz.func168.trans (congrArg some (by kernel_rfl))⟩
 f23:=⟨"slices.choosePivotCmpFunc[[2]int]",by decide,Tryz.func169.trans (congrArg some (by kernel_rfl))⟩
 f24:=⟨"slices.reverseRangeCmpFunc[[2]int]",by decide,Tryz.func170.trans (congrArg some (by kernel_rfl))⟩
 f25:=⟨"slices.partialInsertionSortCmpFunc[[2]int]",by decide,Tryz.func171.trans (congrArg some (by kernel_rfl))⟩
 f26:=⟨"slices.partitionEqualCmpFunc[[2]int]",by decide,Tryz.func172.trans (congrArg some (by kernel_rfl))⟩
 f27:=⟨"slices.partitionCmpFunc[[2]int]",by decide,Tryz.func173.trans (congrArg some (by kernel_rfl))⟩
 f28:=Tryz.func174.trans (congrArg some (by kernel_rfl))
 f29:=Tryz.func158.trans (congrArg some (by kernel_rfl))
 f46:=⟨"slices.siftDownCmpFunc[[2]int]",by decide,Tryz.func175.trans (congrArg some (by kernel_rfl))⟩
 f47:=Tryz.func176.trans (congrArg some (by kernel_rfl))
 f48:=Tryz.func177.trans (congrArg some (by kernel_rfl))
 f49:=⟨"slices.medianAdjacentCmpFunc[[2]int]",by decide,Tryz.func178.trans (congrArg some (by kernel_rfl))⟩
 f50:=⟨"slices.medianCmpFunc[[2]int]",by decide,Tryz.func179.trans (congrArg some (by kernel_rfl))⟩
 f57:=⟨"slices.order2CmpFunc[[2]int]",by decide,Tryz.func180.trans (congrArg some (by kernel_rfl))⟩
 t0:=Tryz.underlying0
 a0:=Tryz.isAgg0
 z0:=Tryz.sizeOf0
 v0:=Tryz.zeroValue0
 t3:=Tryz.underlying3
 a3:=Tryz.isAgg3
 z3:=Tryz.sizeOf3
 v3:=Tryz.zeroValue3
 t4:=Tryz.underlying4
 a4:=Tryz.isAgg4
 z4:=Tryz.sizeOf4
 v4:=Tryz.zeroValue4
 t5:=Tryz.underlying5
 a5:=Tryz.isAgg5
 z5:=Tryz.sizeOf5
 v5:=Tryz.zeroValue5
 t9:=Tryz.underlying9
 a9:=Tryz.isAgg9
 z9:=Tryz.sizeOf9
 v9:=Tryz.zeroValue9
 t22:=Tryz.underlying30
 a22:=Tryz.isAgg30
 z22:=Tryz.sizeOf30
 v22:=Tryz.zeroValue30
 t25:=Tryz.underlying219
 a25:=Tryz.isAgg219
 z25:=Tryz.sizeOf219
 v25:=Tryz.zeroValue219
 t39:=Tryz.underlying80
 a39:=Tryz.isAgg80
 z39:=Tryz.sizeOf80
 v39:=Tryz.zeroValue80
 t45:=Tryz.underlying230
 a45:=Tryz.isAgg230
 z45:=Tryz.sizeOf230
 v45:=Tryz.zeroValue230
 t46:=Tryz.underlying231
 a46:=Tryz.isAgg231
 z46:=Tryz.sizeOf231
 v46:=Tryz.zeroValue231
 t50:=Tryz.underlying184
 a50:=Tryz.isAgg184
 z50:=Tryz.sizeOf184
 v50:=Tryz.zeroValue184
 t53:=Tryz.underlying237
 a53:=Tryz.isAgg237
 z53:=Tryz.sizeOf237
 v53:=Tryz.zeroValue237
 t55:=Tryz.underlying43
 a55:=Tryz.isAgg43
 z55:=Tryz.sizeOf43
 v55:=Tryz.zeroValue43
 t66:=Tryz.underlying238
 a66:=Tryz.isAgg238
 z66:=Tryz.sizeOf238
 v66:=Tryz.zeroValue238
 t70:=Tryz.underlying242
 a70:=Tryz.isAgg242
 z70:=Tryz.sizeOf242
 v70:=Tryz.zeroValue242
 t76:=Tryz.underlying244
 a76:=Tryz.isAgg244
 z76:=Tryz.sizeOf244
 v76:=Tryz.zeroValue244
 t77:=Tryz.underlying127
 a77:=Tryz.isAgg127
 z77:=Tryz.sizeOf127
 v77:=Tryz.zeroValue127
theorem cmpOk:CmpOk Tryz.prog 153:=by
 intro x y W
 obtain⟨x1,x2⟩:=x
 obtain⟨y1,y2⟩:=y
 show Calls Tryz.prog 153 #[.agg #[.int .i64 (x1.val:Int),.int .i64 (x2.val:Int)],.agg #[.int .i64 (y1.val:Int),.int .i64 (y2.val:Int)]] W _
 unfold cf2
 have w1:IntKind.i64.wrap ((x1.val:Int) -y1.val)=(x1.val:Int) -y1.val:=IntWalk.i64_in _ (by omega)
 have w2:IntKind.i64.wrap ((x2.val:Int) -y2.val)=(x2.val:Int) -y2.val:=IntWalk.i64_in _ (by omega)
 by_cases h:x1=y1
 ·subst h
  simp only[if_true]
  go_enter Tryz.func153,Tryz.ntmps153
  go_wp2
  go_ret
  exact⟨rfl,0,_,by rw[Go.Sort.alloc_eq_grow,Go.Sort.alloc_eq_grow,Go.Sort.grow_grow];rfl⟩
 ·have h':(x1.val:Int)≠(y1.val:Int):=fun e=>h (Fin.ext (by omega))
  simp only[if_neg h]
  go_enter Tryz.func153,Tryz.ntmps153
  go_wp2
  go_ret
  exact⟨rfl,0,_,by rw[Go.Sort.alloc_eq_grow,Go.Sort.alloc_eq_grow,Go.Sort.grow_grow];rfl⟩
theorem sortP':PSortSpec Tryz.prog 152 153:=sort_ok sortLay Tryz.isAgg78 Tryz.sizeOf78 153 (Go.Proofs.enters_of Tryz.func153 (by kernel_rfl) rfl) cmpOk
theorem is_tz:FnIs Tryz.prog 119 (c_tz ids) r_tz 1:=FnIs.mk' Tryz.func119 mix (by kernel_rfl) (by kernel_rfl) (by kernel_rfl)
theorem is_bword:FnIs Tryz.prog 124 (c_bword ids) r_bword 2:=FnIs.mk' Tryz.func124 mix (by kernel_rfl) (by kernel_rfl) (by kernel_rfl)
theorem is_bhas:FnIs Tryz.prog 73 (c_bhas ids) r_bhas 2:=FnIs.mk' Tryz.func73 mix (by kernel_rfl) (by kernel_rfl) (by kernel_rfl)
theorem is_bwith:FnIs Tryz.prog 123 (c_bwith ids) r_bwith 2:=FnIs.mk' Tryz.func123 mix (by kernel_rfl) (by kernel_rfl) (by kernel_rfl)
theorem is_bor:FnIs Tryz.prog 165 (c_bor ids) r_bor 2:=FnIs.mk' Tryz.func165 mix (by kernel_rfl) (by kernel_rfl) (by kernel_rfl)
theorem is_bempty:FnIs Tryz.prog 108 (c_bempty ids) r_bempty 1:=FnIs.mk' Tryz.func108 mix (by kernel_rfl) (by kernel_rfl) (by kernel_rfl)
theorem is_bwithin:FnIs Tryz.prog 102 (c_bwithin ids) r_bwithin 2:=FnIs.mk' Tryz.func102 mix (by kernel_rfl) (by kernel_rfl) (by kernel_rfl)
theorem is_btrim:FnIs Tryz.prog 72 (c_btrim ids) r_btrim 1:=FnIs.mk' Tryz.func72 mix (by kernel_rfl) (by kernel_rfl) (by kernel_rfl)
theorem is_bof:FnIs Tryz.prog 38 (c_bof ids) r_bof 1:=FnIs.mk' Tryz.func38 mix (by kernel_rfl) (by kernel_rfl) (by kernel_rfl)
theorem is_bbelow:FnIs Tryz.prog 103 (c_bbelow ids) r_bbelow 1:=FnIs.mk' Tryz.func103 mix (by kernel_rfl) (by kernel_rfl) (by kernel_rfl)
theorem is_ball:FnIs Tryz.prog 68 (c_ball ids) r_ball 1:=FnIs.mk' Tryz.func68 mix (by kernel_rfl) (by kernel_rfl) (by kernel_rfl)
theorem is_ball1:FnIsY Tryz.prog 118 (c_ball1 ids) r_ball1 2:=FnIsY.mk' Tryz.func118 (by kernel_rfl) (by kernel_rfl) (by kernel_rfl)
theorem is_clipP:FnIs Tryz.prog 154 (c_clipP ids) r_clipP 1:=FnIs.mk' Tryz.func154 mix (by kernel_rfl) (by kernel_rfl) (by kernel_rfl)
theorem is_compactP:FnIs Tryz.prog 155 (c_compactP ids) r_compactP 1:=FnIs.mk' Tryz.func155 mix (by kernel_rfl) (by kernel_rfl) (by kernel_rfl)
theorem is_iidx:FnIs Tryz.prog 99 (c_iidx ids) r_iidx 2:=FnIs.mk' Tryz.func99 mix (by kernel_rfl) (by kernel_rfl) (by kernel_rfl)
theorem is_osort:FnIs Tryz.prog 156 (c_osort ids) r_osort 1:=FnIs.mk' Tryz.func156 mix (by kernel_rfl) (by kernel_rfl) (by kernel_rfl)
theorem is_orelate:FnIsR Tryz.prog 157 (c_orelate ids) r_orelate 1 121:=FnIsR.mk' Tryz.func157 mix (by kernel_rfl) (by kernel_rfl) (by kernel_rfl)
theorem is_onew:FnIs Tryz.prog 114 (c_onew ids) r_onew 2:=FnIs.mk' Tryz.func114 mix (by kernel_rfl) (by kernel_rfl) (by kernel_rfl)
theorem is_clnP:FnIs Tryz.prog 54 (c_clnP ids) r_clnP 1:=FnIs.mk' Tryz.func54 mix (by kernel_rfl) (by kernel_rfl) (by kernel_rfl)
theorem is_sleq:FnIs Tryz.prog 20 (c_sleq ids) r_sleq 2:=FnIs.mk' Tryz.func20 mix (by kernel_rfl) (by kernel_rfl) (by kernel_rfl)
theorem is_nkw:FnIs Tryz.prog 148 (c_nkw ids) r_nkw 0:=FnIs.mk' Tryz.func148 mix (by kernel_rfl) (by kernel_rfl) (by kernel_rfl)
theorem is_sidx:FnIs Tryz.prog 162 (c_sidx ids) r_sidx 2:=FnIs.mk' Tryz.func162 mix (by kernel_rfl) (by kernel_rfl) (by kernel_rfl)
theorem is_scont:FnIs Tryz.prog 147 (c_scont ids) r_scont 2:=FnIs.mk' Tryz.func147 mix (by kernel_rfl) (by kernel_rfl) (by kernel_rfl)
theorem is_nletter:FnIs Tryz.prog 149 (c_nletter ids) r_nletter 1:=FnIs.mk' Tryz.func149 mix (by kernel_rfl) (by kernel_rfl) (by kernel_rfl)
theorem is_ninner:FnIs Tryz.prog 150 (c_ninner ids) r_ninner 2:=FnIs.mk' Tryz.func150 mix (by kernel_rfl) (by kernel_rfl) (by kernel_rfl)
theorem is_nvalid:FnIs Tryz.prog 110 (c_nvalid ids) r_nvalid 1:=FnIs.mk' Tryz.func110 mix (by kernel_rfl) (by kernel_rfl) (by kernel_rfl)
theorem is_rmemb:FnIs Tryz.prog 71 (c_rmemb ids) r_rmemb 1:=FnIs.mk' Tryz.func71 mix (by kernel_rfl) (by kernel_rfl) (by kernel_rfl)
theorem is_lroles:FnIs Tryz.prog 34 (c_lroles ids) r_lroles 1:=FnIs.mk' Tryz.func34 mix (by kernel_rfl) (by kernel_rfl) (by kernel_rfl)
theorem is_fpairs:FnIs Tryz.prog 113 (c_fpairs ids) r_fpairs 2:=FnIs.mk' Tryz.func113 mix (by kernel_rfl) (by kernel_rfl) (by kernel_rfl)
theorem is_rpair:FnIs Tryz.prog 101 (c_rpair ids) r_rpair 2:=FnIs.mk' Tryz.func101 mix (by kernel_rfl) (by kernel_rfl) (by kernel_rfl)
theorem is_rdig:FnIs Tryz.prog 100 (c_rdig ids) r_rdig 1:=FnIs.mk' Tryz.func100 mix (by kernel_rfl) (by kernel_rfl) (by kernel_rfl)
theorem is_rmakf:FnIs Tryz.prog 51 (c_rmakf ids) r_rmakf 1:=FnIs.mk' Tryz.func51 mix (by kernel_rfl) (by kernel_rfl) (by kernel_rfl)
theorem is_rusers:FnIs Tryz.prog 52 (c_rusers ids) r_rusers 2:=FnIs.mk' Tryz.func52 mix (by kernel_rfl) (by kernel_rfl) (by kernel_rfl)
theorem is_lflow:FnIs Tryz.prog 53 (c_lflow ids) r_lflow 1:=FnIs.mk' Tryz.func53 mix (by kernel_rfl) (by kernel_rfl) (by kernel_rfl)
theorem is_lmakf:FnIs Tryz.prog 24 (c_lmakf ids) r_lmakf 1:=FnIs.mk' Tryz.func24 mix (by kernel_rfl) (by kernel_rfl) (by kernel_rfl)
theorem is_idxF:FnIs Tryz.prog 151 (c_idxF ids) r_idxF 2:=FnIs.mk' Tryz.func151 mix (by kernel_rfl) (by kernel_rfl) (by kernel_rfl)
theorem is_conF:FnIs Tryz.prog 111 (c_conF ids) r_conF 2:=FnIs.mk' Tryz.func111 mix (by kernel_rfl) (by kernel_rfl) (by kernel_rfl)
theorem is_conG:FnIs Tryz.prog 121 (c_conG ids) r_conG 2:=FnIs.mk' Tryz.func121 mix (by kernel_rfl) (by kernel_rfl) (by kernel_rfl)
theorem is_chk1:FnIs Tryz.prog 112 (c_chk1 ids) r_chk1 2:=FnIs.mk' Tryz.func112 mix (by kernel_rfl) (by kernel_rfl) (by kernel_rfl)
theorem is_fchk:FnIs Tryz.prog 61 (c_fchk ids) r_fchk 3:=FnIs.mk' Tryz.func61 mix (by kernel_rfl) (by kernel_rfl) (by kernel_rfl)
theorem is_fgood:FnIs Tryz.prog 120 (c_fgood ids) r_fgood 1:=FnIs.mk' Tryz.func120 mix (by kernel_rfl) (by kernel_rfl) (by kernel_rfl)
theorem is_rdy1:FnIs Tryz.prog 122 (c_rdy1 ids) r_rdy1 3:=FnIs.mk' Tryz.func122 mix (by kernel_rfl) (by kernel_rfl) (by kernel_rfl)
theorem is_frdy:FnIs Tryz.prog 69 (c_frdy ids) r_frdy 2:=FnIs.mk' Tryz.func69 mix (by kernel_rfl) (by kernel_rfl) (by kernel_rfl)
theorem is_smin:FnIs Tryz.prog 125 (c_smin ids) r_smin 1:=FnIs.mk' Tryz.func125 mix (by kernel_rfl) (by kernel_rfl) (by kernel_rfl)
theorem is_smax:FnIs Tryz.prog 126 (c_smax ids) r_smax 1:=FnIs.mk' Tryz.func126 mix (by kernel_rfl) (by kernel_rfl) (by kernel_rfl)
theorem is_fhld:FnIsR Tryz.prog 74 (c_fhld ids) r_fhld 2 134:=FnIsR.mk' Tryz.func74 mix (by kernel_rfl) (by kernel_rfl) (by kernel_rfl)
theorem is_idxG:FnIs Tryz.prog 159 (c_idxF ids) r_idxF 2:=FnIs.mk' Tryz.func159 mix (by kernel_rfl) (by kernel_rfl) (by kernel_rfl)
theorem is_slidx:FnIs Tryz.prog 99 (c_slidx ids) r_slidx 2:=FnIs.mk' Tryz.func99 mix (by kernel_rfl) (by kernel_rfl) (by kernel_rfl)
theorem is_slcon:FnIs Tryz.prog 48 (c_slcon ids) r_slcon 2:=FnIs.mk' Tryz.func48 mix (by kernel_rfl) (by kernel_rfl) (by kernel_rfl)
theorem is_slcln:FnIs Tryz.prog 49 (c_slcln ids) r_slcln 1:=FnIs.mk' Tryz.func49 mix (by kernel_rfl) (by kernel_rfl) (by kernel_rfl)
theorem is_idxI:FnIs Tryz.prog 145 (c_idxI ids) r_idxI 2:=FnIs.mk' Tryz.func145 mix (by kernel_rfl) (by kernel_rfl) (by kernel_rfl)
theorem is_conI:FnIs Tryz.prog 104 (c_conI ids) r_conI 2:=FnIs.mk' Tryz.func104 mix (by kernel_rfl) (by kernel_rfl) (by kernel_rfl)
theorem is_ruser:FnIs Tryz.prog 106 (c_ruser ids) r_ruser 1:=FnIs.mk' Tryz.func106 mix (by kernel_rfl) (by kernel_rfl) (by kernel_rfl)
theorem is_rchkp1:FnIs Tryz.prog 105 (c_rchkp1 ids) r_rchkp1 1:=FnIs.mk' Tryz.func105 mix (by kernel_rfl) (by kernel_rfl) (by kernel_rfl)
theorem is_rprop1:FnIs Tryz.prog 117 (c_rprop1 ids) r_rprop1 1:=FnIs.mk' Tryz.func117 mix (by kernel_rfl) (by kernel_rfl) (by kernel_rfl)
theorem is_rprs:FnIs Tryz.prog 107 (c_rprs ids) r_rprs 2:=FnIs.mk' Tryz.func107 mix (by kernel_rfl) (by kernel_rfl) (by kernel_rfl)
theorem is_rchkp:FnIs Tryz.prog 56 (c_rchkp ids) r_rchkp 1:=FnIs.mk' Tryz.func56 mix (by kernel_rfl) (by kernel_rfl) (by kernel_rfl)
theorem is_rprop:FnIs Tryz.prog 65 (c_rprop ids) r_rprop 2:=FnIs.mk' Tryz.func65 mix (by kernel_rfl) (by kernel_rfl) (by kernel_rfl)
theorem is_rbrk:FnIsR Tryz.prog 66 (c_rbrk ids) r_rbrk 2 131:=FnIsR.mk' Tryz.func66 mix (by kernel_rfl) (by kernel_rfl) (by kernel_rfl)
theorem is_rbrk2:FnIs Tryz.prog 30 (c_rbrk2 ids) r_rbrk2 2:=FnIs.mk' Tryz.func30 mix (by kernel_rfl) (by kernel_rfl) (by kernel_rfl)
theorem is_ixi:FnIs Tryz.prog 99 (c_ixi ids) r_ixi 2:=FnIs.mk' Tryz.func99 mix (by kernel_rfl) (by kernel_rfl) (by kernel_rfl)
theorem is_sfull:FnIs Tryz.prog 60 (c_sfull ids) r_sfull 1:=FnIs.mk' Tryz.func60 mix (by kernel_rfl) (by kernel_rfl) (by kernel_rfl)
theorem is_visit:FnIs Tryz.prog 59 (c_visit ids) r_visit 2:=FnIs.mk' Tryz.func59 mix (by kernel_rfl) (by kernel_rfl) (by kernel_rfl)
theorem is_slv1:FnIs Tryz.prog 58 (c_slv1 ids) r_slv1 3:=FnIs.mk' Tryz.func58 mix (by kernel_rfl) (by kernel_rfl) (by kernel_rfl)
theorem is_sbeg:FnIs Tryz.prog 57 (c_sbeg ids) r_sbeg 3:=FnIs.mk' Tryz.func57 mix (by kernel_rfl) (by kernel_rfl) (by kernel_rfl)
theorem is_ssolve:FnIs Tryz.prog 26 (c_ssolve ids) r_ssolve 2:=FnIs.mk' Tryz.func26 mix (by kernel_rfl) (by kernel_rfl) (by kernel_rfl)
theorem is_clnB:FnIs Tryz.prog 37 (c_clnB ids) r_clnB 1:=FnIs.mk' Tryz.func37 mix (by kernel_rfl) (by kernel_rfl) (by kernel_rfl)
theorem is_clnM:FnIs Tryz.prog 55 (c_clnM ids) r_clnM 1:=FnIs.mk' Tryz.func55 mix (by kernel_rfl) (by kernel_rfl) (by kernel_rfl)
theorem is_clnT:FnIs Tryz.prog 116 (c_clnT ids) r_clnT 1:=FnIs.mk' Tryz.func116 mix (by kernel_rfl) (by kernel_rfl) (by kernel_rfl)
theorem is_sprob:FnIs Tryz.prog 25 (c_sprob ids) r_sprob 3:=FnIs.mk' Tryz.func25 mix (by kernel_rfl) (by kernel_rfl) (by kernel_rfl)
theorem is_bgreat:FnIs Tryz.prog 115 (c_bgreat ids) r_bgreat 1:=FnIs.mk' Tryz.func115 mix (by kernel_rfl) (by kernel_rfl) (by kernel_rfl)
theorem is_len64:FnIs Tryz.prog 158 (c_len64 ids) r_len64 1:=FnIs.mk' Tryz.func158 mix (by kernel_rfl) (by kernel_rfl) (by kernel_rfl)
theorem is_blen:FnIs Tryz.prog 109 (c_blen ids) r_blen 1:=FnIs.mk' Tryz.func109 mix (by kernel_rfl) (by kernel_rfl) (by kernel_rfl)
theorem is_ones:FnIs Tryz.prog 146 (c_ones ids) r_ones 1:=FnIs.mk' Tryz.func146 mix (by kernel_rfl) (by kernel_rfl) (by kernel_rfl)
theorem is_blist:FnIsR Tryz.prog 75 (c_blist ids) r_blist 1 16:=FnIsR.mk' Tryz.func75 mix (by kernel_rfl) (by kernel_rfl) (by kernel_rfl)
theorem is_eplan:FnIs Tryz.prog 64 (c_eplan ids) r_eplan 2:=FnIs.mk' Tryz.func64 mix (by kernel_rfl) (by kernel_rfl) (by kernel_rfl)
theorem is_eusers:FnIs Tryz.prog 62 (c_eusers ids) r_eusers 2:=FnIs.mk' Tryz.func62 mix (by kernel_rfl) (by kernel_rfl) (by kernel_rfl)
theorem is_estaff:FnIs Tryz.prog 21 (c_estaff ids) r_estaff 1:=FnIs.mk' Tryz.func21 mix (by kernel_rfl) (by kernel_rfl) (by kernel_rfl)
theorem is_ewith:FnIs Tryz.prog 47 (c_ewith ids) r_ewith 3:=FnIs.mk' Tryz.func47 mix (by kernel_rfl) (by kernel_rfl) (by kernel_rfl)
theorem is_efin:FnIs Tryz.prog 19 (c_efin ids) r_efin 1:=FnIs.mk' Tryz.func19 mix (by kernel_rfl) (by kernel_rfl) (by kernel_rfl)
theorem is_epln:FnIs Tryz.prog 28 (c_epln ids) r_epln 1:=FnIs.mk' Tryz.func28 mix (by kernel_rfl) (by kernel_rfl) (by kernel_rfl)
theorem is_edone:FnIs Tryz.prog 70 (c_edone ids) r_edone 1:=FnIs.mk' Tryz.func70 mix (by kernel_rfl) (by kernel_rfl) (by kernel_rfl)
theorem is_edon2:FnIs Tryz.prog 40 (c_edon2 ids) r_edon2 1:=FnIs.mk' Tryz.func40 mix (by kernel_rfl) (by kernel_rfl) (by kernel_rfl)
theorem is_erdy:FnIs Tryz.prog 33 (c_erdy ids) r_erdy 1:=FnIs.mk' Tryz.func33 mix (by kernel_rfl) (by kernel_rfl) (by kernel_rfl)
theorem is_eask:FnIs Tryz.prog 39 (c_eask ids) r_eask 3:=FnIs.mk' Tryz.func39 mix (by kernel_rfl) (by kernel_rfl) (by kernel_rfl)
theorem is_egra:FnIs Tryz.prog 17 (c_egra ids) r_egra 3:=FnIs.mk' Tryz.func17 mix (by kernel_rfl) (by kernel_rfl) (by kernel_rfl)
theorem is_ecopy:FnIs Tryz.prog 63 (c_ecopy ids) r_ecopy 1:=FnIs.mk' Tryz.func63 mix (by kernel_rfl) (by kernel_rfl) (by kernel_rfl)
theorem is_estart:FnIs Tryz.prog 27 (c_estart ids) r_estart 2:=FnIs.mk' Tryz.func27 mix (by kernel_rfl) (by kernel_rfl) (by kernel_rfl)
theorem is_rnext:FnIs Tryz.prog 98 (c_rnext ids) r_rnext 2:=FnIs.mk' Tryz.func98 mix (by kernel_rfl) (by kernel_rfl) (by kernel_rfl)
theorem is_rrdy:FnIs Tryz.prog 15 (c_rrdy ids) r_rrdy 2:=FnIs.mk' Tryz.func15 mix (by kernel_rfl) (by kernel_rfl) (by kernel_rfl)
theorem is_rhld:FnIs Tryz.prog 67 (c_rhld ids) r_rhld 2:=FnIs.mk' Tryz.func67 mix (by kernel_rfl) (by kernel_rfl) (by kernel_rfl)
theorem is_rall:FnIs Tryz.prog 46 (c_rall ids) r_rall 2:=FnIs.mk' Tryz.func46 mix (by kernel_rfl) (by kernel_rfl) (by kernel_rfl)
theorem is_rcmp:FnIs Tryz.prog 14 (c_rcmp ids) r_rcmp 1:=FnIs.mk' Tryz.func14 mix (by kernel_rfl) (by kernel_rfl) (by kernel_rfl)
theorem is_rdon:FnIs Tryz.prog 16 (c_rdon ids) r_rdon 1:=FnIs.mk' Tryz.func16 mix (by kernel_rfl) (by kernel_rfl) (by kernel_rfl)
theorem is_rwth:FnIs Tryz.prog 18 (c_rwth ids) r_rwth 3:=FnIs.mk' Tryz.func18 mix (by kernel_rfl) (by kernel_rfl) (by kernel_rfl)
theorem is_rask:FnIs Tryz.prog 31 (c_rask ids) r_rask 3:=FnIs.mk' Tryz.func31 mix (by kernel_rfl) (by kernel_rfl) (by kernel_rfl)
theorem is_lbeg:FnIs Tryz.prog 13 (c_lbeg ids) r_lbeg 1:=FnIs.mk' Tryz.func13 mix (by kernel_rfl) (by kernel_rfl) (by kernel_rfl)
theorem is_lgra:FnIs Tryz.prog 50 (c_lgra ids) r_lgra 3:=FnIs.mk' Tryz.func50 mix (by kernel_rfl) (by kernel_rfl) (by kernel_rfl)
theorem is_lplay:FnIs Tryz.prog 22 (c_lplay ids) r_lplay 2:=FnIs.mk' Tryz.func22 mix (by kernel_rfl) (by kernel_rfl) (by kernel_rfl)
theorem is_lis:FnIs Tryz.prog 23 (c_lis ids) r_lis 2:=FnIs.mk' Tryz.func23 mix (by kernel_rfl) (by kernel_rfl) (by kernel_rfl)
theorem is_eawk:FnIs Tryz.prog 12 (c_eawk ids) r_eawk 0:=FnIs.mk' Tryz.func12 mix (by kernel_rfl) (by kernel_rfl) (by kernel_rfl)
theorem tz':TzSpec Tryz.prog ids (ids.f 126):=tz_ok is_tz
theorem bword':WordSpec Tryz.prog (ids.f 129):=bword_ok is_bword
theorem bhas':HasSpec Tryz.prog (ids.f 130):=bhas_ok (ι:=ids) is_bhas bword'
theorem bwith':BWithSpec Tryz.prog (ids.f 131):=bwith_ok (ι:=ids) is_bwith bhas'
theorem bor':BOrSpec Tryz.prog (ids.f 132):=bor_ok (ι:=ids) is_bor bword'
theorem bempty':BEmptySpec Tryz.prog (ids.f 133):=bempty_ok is_bempty
theorem bwithin':BWithinSpec Tryz.prog (ids.f 141):=bwithin_ok (ι:=ids) is_bwithin bword'
theorem bof':BOfSpec Tryz.prog (ids.f 143):=bof_ok (ι:=ids) is_bof (btrim_ok is_btrim)
theorem bbelow':BBelowSpec Tryz.prog (ids.f 306):=bbelow_ok is_bbelow
theorem onew':ONewSpec Tryz.prog ids (ids.f 201):=onew_ok (ι:=ids) is_onew sortP' (clipP_ok is_clipP) (compactP_ok is_compactP) (osort_ok (ι:=ids) is_osort (iidx_ok is_iidx)) (relate_ok (ι:=ids) (g:=0) is_orelate (ball_ok (ι:=ids) is_ball) (by kernel_rfl) is_ball1 tz' bor' bwith')
theorem sleq':IEqSpec Tryz.prog (ids.f 165):=sleq_ok is_sleq
theorem nvalid':ValidSpec Tryz.prog (ids.f 75):=nvalid_ok (ι:=ids) is_nvalid (nkw_ok is_nkw) (scont_ok (ι:=ids) is_scont (sidx_ok is_sidx)) (nletter_ok is_nletter) (ninner_ok is_ninner (nletter_ok is_nletter))
theorem lroles':RolesSpec Tryz.prog (ids.f 283):=lroles_ok (ι:=ids) is_lroles (rmemb_ok is_rmemb) bof'
theorem fpairs':PairsSpec Tryz.prog (ids.f 284):=fpairs_ok is_fpairs
theorem rmakf':RMakSpec Tryz.prog (ids.f 292):=rmakf_ok (ι:=ids) is_rmakf (rpair_ok is_rpair) (rdig_ok is_rdig)
theorem rusers':RUsersSpec Tryz.prog (ids.f 295):=rusers_ok is_rusers
theorem clnP':ClnSpec pE Tryz.prog (ids.f 204):=clnPG_ok pE_len pE_one is_clnP
theorem lflow':LFlowSpec Tryz.prog (ids.f 299):=lflow_ok (ι:=ids) is_lflow clnP' lroles'
theorem lmakf':LMakfSpec Tryz.prog (ids.f 300):=lmakf_ok (ι:=ids) is_lmakf rmakf' rusers' lroles' lflow'
theorem idxF':IdxFSpec encS Tryz.prog (ids.f 301):=idxF_ok encS_len is_idxF
theorem idxG':IdxFSpec pE Tryz.prog (ids.f 303):=idxF_ok pE_len is_idxG
theorem conF':ConFSpec encS Tryz.prog (ids.f 302):=conF_ok (ι:=ids) is_conF idxF'
theorem conG':ConFSpec pE Tryz.prog (ids.f 304):=conG_ok (ι:=ids) is_conG idxG'
theorem chk1':Chk1Spec Tryz.prog (ids.f 305):=chk1_ok is_chk1
theorem fchk':FChkSpec Tryz.prog ids (ids.f 307):=fchk_ok (ι:=ids) is_fchk ⟨nvalidA_ok is_nvalid nvalid',conF',chk1',bhas',bempty',bwithin',bbelow',fpairs',onew'⟩
theorem fgood':FGoodSpec Tryz.prog ids (ids.f 312):=fgood_ok (ι:=ids) is_fgood fchk'
theorem frdy':FRdySpec Tryz.prog ids (ids.f 314):=frdy_ok (ι:=ids) is_frdy ⟨fgood',rdy1_ok (ι:=ids) is_rdy1 bhas',conG',bhas'⟩
theorem fhld':FHldSpec Tryz.prog ids (ids.f 320):=fhld_ok (ι:=ids) is_fhld ⟨fgood',smin_ok is_smin,smax_ok is_smax,ball_ok (ι:=ids) is_ball,by kernel_rfl,is_ball1,tz'⟩
theorem slcon':IConSpec Tryz.prog (ids.f 158):=slcon_ok (ι:=ids) is_slcon (slidx_ok is_slidx)
theorem slcln':IClnSpec Tryz.prog (ids.f 159):=slcln_ok (ι:=ids) is_slcln
theorem conI':ConISpec Tryz.prog (ids.f 354):=conI_ok (ι:=ids) is_conI (idxI_ok is_idxI)
theorem rchkp1':BadUSpec Tryz.prog (ids.f 356):=rchkp1_ok (ι:=ids) is_rchkp1 (ruser_ok is_ruser)
theorem rprop1':BadUSpec Tryz.prog (ids.f 357):=rprop1_ok (ι:=ids) is_rprop1 (ruser_ok is_ruser)
theorem rchkp':RChkPSpec Tryz.prog ids (ids.f 360):=rchkp_ok (ι:=ids) is_rchkp ⟨bhas',bempty',bwithin',bbelow',conI',rchkp1',rprs_ok is_rprs⟩
theorem rprop':RPropSpec Tryz.prog ids (ids.f 361):=rprop_ok (ι:=ids) is_rprop rchkp' conI' rprop1'
theorem ball':BAllSpec Tryz.prog (ids.f 137) (ids.f 136):=ball_ok (ι:=ids) is_ball
theorem rbrk':RBrkSpec Tryz.prog ids (ids.f 363):=rbrk_ok (ι:=ids) is_rbrk ⟨bhas',ball',by kernel_rfl,is_ball1,tz'⟩
theorem rbrk2':RBrk2Spec Tryz.prog ids (ids.f 364):=rbrk2_ok (ι:=ids) is_rbrk2 rprop' rbrk'
theorem bgreat':BGreatSpec Tryz.prog (ids.f 134):=bgreat_ok (ι:=ids) is_bgreat bempty' (len64_ok (ι:=ids) is_len64)
theorem blen':BLenSpec Tryz.prog (ids.f 135):=blen_ok (ι:=ids) is_blen (ones_ok is_ones)
theorem blist':BListSpec Tryz.prog ids (ids.f 139):=blist_ok (ι:=ids) (g:=0) is_blist blen' ball' (by kernel_rfl) (ball1_ok (ι:=ids) is_ball1 tz')
theorem visC':VisC Tryz.prog ids:=⟨sfull_ok is_sfull,rbrk2',ixi_ok is_ixi,slcln',blen',blist'⟩
theorem ssolve':SolveSpec Tryz.prog ids (ids.f 373):=ssolve_ok (ι:=ids) is_ssolve ⟨rchkp',sbeg_ok (ι:=ids) is_sbeg slcln',is_visit,is_slv1,visC'⟩
theorem clnB':ClnVSpec Tryz.prog (ids.f 374):=clnB_ok is_clnB
theorem clnM':ClnSpec encV Tryz.prog (ids.f 375):=clnM_ok encV_len encV_one is_clnM
theorem sprob':SProbSpec Tryz.prog ids (ids.f 376):=sprob_ok (ι:=ids) is_sprob ⟨clnB',clnP',clnM',slcln',rchkp'⟩
theorem eplan':EPlanSpec Tryz.prog ids (ids.f 377):=eplan_ok (ι:=ids) is_eplan sprob' ssolve'
theorem eusers':EUsrSpec Tryz.prog (ids.f 378):=eusers_ok (ι:=ids) is_eusers bgreat' bhas'
theorem estaff':EStaffSpec Tryz.prog (ids.f 379):=estaff_ok (ι:=ids) is_estaff slcln'
theorem ewith':EWithSpec Tryz.prog (ids.f 380):=ewith_ok (ι:=ids) is_ewith slcln'
theorem efin':EFinSpec Tryz.prog (ids.f 381):=efin_ok (ι:=ids) is_efin slcon'
theorem epln':EPlnSpec Tryz.prog ids (ids.f 382):=epln_ok (ι:=ids) is_epln eplan'
theorem edone':EDoneSpec Tryz.prog (ids.f 383):=edone_ok (ι:=ids) is_edone estaff' bwith'
theorem edon2':EDon2Spec Tryz.prog ids (ids.f 384):=edon2_ok (ι:=ids) is_edon2 edone' blist'
theorem erdy':ERdySpec Tryz.prog ids (ids.f 385):=erdy_ok (ι:=ids) is_erdy edone' frdy'
theorem eask':EAskSpec Tryz.prog ids (ids.f 386):=eask_ok (ι:=ids) is_eask ⟨erdy',ewith',eplan',slcon',bhas',fhld'⟩
theorem egra':EGraSpec Tryz.prog ids (ids.f 388):=egra_ok (ι:=ids) is_egra eask' ewith'
theorem ecopy':ECopySpec Tryz.prog (ids.f 390):=ecopy_ok (ι:=ids) is_ecopy (clnT_ok encS_len encS_one is_clnT) clnP' clnM'
theorem estart':EStartSpec Tryz.prog ids (ids.f 391):=estart_ok (ι:=ids) is_estart ⟨fchk',eusers',ecopy',clnB',eplan'⟩
theorem rrdy':RRdySpec Tryz.prog (ids.f 308):=rrdy_ok (ι:=ids) is_rrdy
theorem rhld':RHldSpec Tryz.prog (ids.f 321):=rhld_ok (ι:=ids) is_rhld
theorem rall':RAllSpec Tryz.prog (ids.f 395):=rall_ok (ι:=ids) is_rall rhld' (rnext_ok (ι:=ids) is_rnext)
theorem rcmp':RCmpSpec Tryz.prog (ids.f 397):=rcmp_ok (ι:=ids) is_rcmp rall'
theorem rdon':RDonSpec Tryz.prog (ids.f 398):=rdon_ok (ι:=ids) is_rdon
theorem rwth':RWthSpec Tryz.prog (ids.f 399):=rwth_ok (ι:=ids) is_rwth
theorem rask':RAskSpec Tryz.prog (ids.f 400):=rask_ok (ι:=ids) is_rask ⟨rdon',rrdy',rwth',rhld',rcmp'⟩
theorem lbeg':LBegSpec Tryz.prog ids (ids.f 401):=lbeg_ok (ι:=ids) is_lbeg ⟨lmakf',estart',estaff',rcmp',sleq'⟩
theorem lgra':LGraSpec Tryz.prog ids (ids.f 404):=lgra_ok (ι:=ids) is_lgra ⟨rask',rwth',egra',eask'⟩
theorem lplay':LPlaySpec Tryz.prog ids (ids.f 405):=lplay_ok (ι:=ids) is_lplay lbeg' lgra'
theorem lis':LIsSpec Tryz.prog ids (ids.f 406):=lis_ok (ι:=ids) is_lis ⟨estaff',erdy',efin',edon2',rdon',rrdy',sleq',slcon'⟩
theorem eawk':EAwkSpec Tryz.prog ids (ids.f 407):=eawk_ok (ι:=ids) is_eawk ⟨bof',estart',eask',epln',sleq'⟩
abbrev laid2:List (String×DataW Unit):=[("math/bits.deBruijn64tab",Rows.laid_math_bits_deBruijn64tab)]
theorem own:ownKnob Tryz.prog.godebug=none:=by kernel_rfl
theorem gTab:Tryz.prog.globalNamed "math/bits.deBruijn64tab" =some 0:=by kernel_rfl
theorem tTab:(Tryz.prog.globals[0]?).map (·.type)=some 222/\Tryz.prog.underlying 222=some (.array 64 5)/\Tryz.prog.underlying 5=some (.int .u8)/\Tryz.prog.cellsOf 5=1/\Tryz.prog.cellsOf 222=64:=⟨by kernel_rfl,by kernel_rfl,by kernel_rfl,by kernel_rfl,by kernel_rfl⟩
theorem dTab:(Rows.laid_math_bits_deBruijn64tab:DataW Unit)=.agg ((tabL.map fun n:Nat=>(n:Int)).map fun x=>.lit (.int .u8 x)):=rfl
theorem of_laid {W:World} (h:laidMetH Tryz.prog laid2 W):TabOk ids W.heap:=by
 rw[MakeChecks.laidMetH_plain _ _ _ (by kernel_rfl)]at h
 obtain⟨ps,⟨g0,t0,cs0,f0,p0,q0,hg0,ht0,hv0,hd0,rfl,rfl⟩,_,hz⟩:=h
 obtain rfl:=Option.some.inj (gTab.symm.trans hg0)
 obtain⟨a0,b0,c0,d0,i0⟩:=tTab
 obtain rfl:=Option.some.inj (a0.symm.trans ht0)
 have hz':∀b off,MemPlace.cell b off∈_->∃c t,W.heap[b]?=some (.cells c t (0,0)):=fun b off h=>(hz b off h).1
 exact bl_of_var hg0 hv0 hd0 dTab b0 c0 d0 i0 rfl (by omega) (fun x hx=>by simp only[List.mem_append];exact .inl (.inl hx)) hz'
theorem door_met (os:Os) (args:Array Value):laidMetH Tryz.prog laid2 ((World.doorLaid Tryz.prog 4000 os).forCall (fun _ _=>0) ⟨#[],args,[]⟩).memory:=
 laidMetH_of_parts3 (fuel:=8) (laidMet_of_run' 8 (by kernel_rfl) (by kernel_rfl)) (by kernel_rfl) (by kernel_rfl)
theorem laidOut:laidOutB Tryz.prog=true:=by kernel_rfl
theorem uBool:Tryz.prog.underlying 4=some .bool:=by kernel_rfl
theorem cByte:Tryz.prog.cellsOf 5=1:=by kernel_rfl
theorem uByte:Tryz.prog.underlying 5=some (.int .u8):=by kernel_rfl
theorem cRaw:Tryz.prog.cellsOf 25=7:=by kernel_rfl
theorem uBs:Tryz.prog.underlying 22=some (.slice 5):=by kernel_rfl
theorem cBs:Tryz.prog.cellsOf 22=1:=by kernel_rfl
theorem uArr:Tryz.prog.underlying 98=some (.array 2 5):=by kernel_rfl
theorem cArr:Tryz.prog.cellsOf 98=2:=by kernel_rfl
theorem cAct:Tryz.prog.cellsOf 74=2:=by kernel_rfl
theorem uAct:Tryz.prog.underlying 74=some (.struct #[⟨"Step",5,0,false, "", "",0⟩,⟨"User",5,1,false, "", "",1⟩]):=by kernel_rfl
theorem cPs:Tryz.prog.cellsOf 23=1:=by kernel_rfl
end Go.Proofs.YtoclemmcphgikaaGreatDoor

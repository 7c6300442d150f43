/- Lemmas of ours. No conditions. -/
import Derived.Test.YtoclemmcphgikaaGreatDoorMgHSeat
import Derived.Test.YtoclemmcphgikaaGreatDoorMgJ8
set_option maxRecDepth 100000
namespace Go.Proofs.YtoclemmcphgikaaGreatDoor
open Go.ChangeShapes Go.WideShapes Go.ChangeAt Go.WideElems Go.RowKit Go.Mg
theorem Wq:al Tryz.prog 41 (Ij ids) Ik 1:=al.mk' Tryz.func41 mix (by kernel_rfl) (by kernel_rfl) (by kernel_rfl)
theorem RB:al Tryz.prog 43 (Cd ids) Ce 1:=al.mk' Tryz.func43 mix (by kernel_rfl) (by kernel_rfl) (by kernel_rfl)
theorem Wr:al Tryz.prog 92 (Il ids) Im 1:=al.mk' Tryz.func92 mix (by kernel_rfl) (by kernel_rfl) (by kernel_rfl)
theorem RC:al Tryz.prog 44 (BV ids) Ca 1:=al.mk' Tryz.func44 mix (by kernel_rfl) (by kernel_rfl) (by kernel_rfl)
theorem Wt:al Tryz.prog 78 (HX ids) HY 1:=al.mk' Tryz.func78 mix (by kernel_rfl) (by kernel_rfl) (by kernel_rfl)
theorem RD:al Tryz.prog 86 (BO ids) BQ 1:=al.mk' Tryz.func86 mix (by kernel_rfl) (by kernel_rfl) (by kernel_rfl)
theorem Wu:al Tryz.prog 95 (Ia ids) Ib 1:=al.mk' Tryz.func95 mix (by kernel_rfl) (by kernel_rfl) (by kernel_rfl)
theorem RE:al Tryz.prog 131 (Be ids) Bf 1:=al.mk' Tryz.func131 mix (by kernel_rfl) (by kernel_rfl) (by kernel_rfl)
theorem Ir:al Tryz.prog 160 (qZ ids) ra 1:=al.mk' Tryz.func160 mix (by kernel_rfl) (by kernel_rfl) (by kernel_rfl)
theorem Mm:al Tryz.prog 129 (vW ids) vX 1:=al.mk' Tryz.func129 mix (by kernel_rfl) (by kernel_rfl) (by kernel_rfl)
theorem JV:al Tryz.prog 76 (Hw ids) Hx 0:=al.mk' Tryz.func76 mix (by kernel_rfl) (by kernel_rfl) (by kernel_rfl)
theorem Wv:al Tryz.prog 127 (Hy ids) Hz 2:=al.mk' Tryz.func127 mix (by kernel_rfl) (by kernel_rfl) (by kernel_rfl)
theorem RF:al Tryz.prog 79 (Bg ids) Bh 2:=al.mk' Tryz.func79 mix (by kernel_rfl) (by kernel_rfl) (by kernel_rfl)
theorem Mn:al Tryz.prog 77 (vY ids) vZ 2:=al.mk' Tryz.func77 mix (by kernel_rfl) (by kernel_rfl) (by kernel_rfl)
theorem Is:al Tryz.prog 128 (re ids) rh 2:=al.mk' Tryz.func128 mix (by kernel_rfl) (by kernel_rfl) (by kernel_rfl)
theorem Ww:al Tryz.prog 80 (HQ ids) HR 2:=al.mk' Tryz.func80 mix (by kernel_rfl) (by kernel_rfl) (by kernel_rfl)
theorem JW:al Tryz.prog 81 (HE ids) HF 1:=al.mk' Tryz.func81 mix (by kernel_rfl) (by kernel_rfl) (by kernel_rfl)
theorem Ev:al Tryz.prog 85 (Bi ids) Bj 1:=al.mk' Tryz.func85 mix (by kernel_rfl) (by kernel_rfl) (by kernel_rfl)
theorem x9:al Tryz.prog 88 (wg ids) wh 2:=al.mk' Tryz.func88 mix (by kernel_rfl) (by kernel_rfl) (by kernel_rfl)
theorem It:al Tryz.prog 136 (ri ids) rj 2:=al.mk' Tryz.func136 mix (by kernel_rfl) (by kernel_rfl) (by kernel_rfl)
theorem Wx:al Tryz.prog 90 (HS ids) HT 2:=al.mk' Tryz.func90 mix (by kernel_rfl) (by kernel_rfl) (by kernel_rfl)
theorem RG:al Tryz.prog 142 (BD ids) BE 2:=al.mk' Tryz.func142 mix (by kernel_rfl) (by kernel_rfl) (by kernel_rfl)
theorem Wy:al Tryz.prog 89 (HU ids) HV 2:=al.mk' Tryz.func89 mix (by kernel_rfl) (by kernel_rfl) (by kernel_rfl)
theorem J0:al Tryz.prog 91 (HK ids) HL 1:=al.mk' Tryz.func91 mix (by kernel_rfl) (by kernel_rfl) (by kernel_rfl)
theorem aaM:al Tryz.prog 137 (Q2 ids) Q3 1:=al.mk' Tryz.func137 mix (by kernel_rfl) (by kernel_rfl) (by kernel_rfl)
theorem Iu:al Tryz.prog 138 (rk ids) rp 3:=al.mk' Tryz.func138 mix (by kernel_rfl) (by kernel_rfl) (by kernel_rfl)
theorem RH:al Tryz.prog 139 (Bk ids) Bo 1:=al.mk' Tryz.func139 mix (by kernel_rfl) (by kernel_rfl) (by kernel_rfl)
theorem RI:al Tryz.prog 140 (Bq ids) Br 2:=al.mk' Tryz.func140 mix (by kernel_rfl) (by kernel_rfl) (by kernel_rfl)
theorem Mo:al Tryz.prog 87 (wk ids) wu 2:=al.mk' Tryz.func87 mix (by kernel_rfl) (by kernel_rfl) (by kernel_rfl)
theorem J8:al Tryz.prog 143 (HM ids) HN 1:=al.mk' Tryz.func143 mix (by kernel_rfl) (by kernel_rfl) (by kernel_rfl)
theorem RJ:al Tryz.prog 161 (Bt ids) Bv 2:=al.mk' Tryz.func161 mix (by kernel_rfl) (by kernel_rfl) (by kernel_rfl)
theorem RK:al Tryz.prog 93 (Ra ids) Rb 2:=al.mk' Tryz.func93 mix (by kernel_rfl) (by kernel_rfl) (by kernel_rfl)
theorem Wz:al Tryz.prog 96 (HG ids) HH 1:=al.mk' Tryz.func96 mix (by kernel_rfl) (by kernel_rfl) (by kernel_rfl)
theorem Cf:al Tryz.prog 94 (lX ids) lY 1:=al.mk' Tryz.func94 mix (by kernel_rfl) (by kernel_rfl) (by kernel_rfl)
theorem wJ:al Tryz.prog 97 (rz ids) rB 1:=al.mk' Tryz.func97 mix (by kernel_rfl) (by kernel_rfl) (by kernel_rfl)
theorem Ew:al Tryz.prog 144 (BH ids) BI 1:=al.mk' Tryz.func144 mix (by kernel_rfl) (by kernel_rfl) (by kernel_rfl)
theorem Mp:al Tryz.prog 130 (wz ids) wA 1:=al.mk' Tryz.func130 mix (by kernel_rfl) (by kernel_rfl) (by kernel_rfl)
theorem RL:al Tryz.prog 141 (By ids) mJ 1:=al.mk' Tryz.func141 mix (by kernel_rfl) (by kernel_rfl) (by kernel_rfl)
theorem u2:Tryz.prog.underlying 98=some (.array 2 5):=acx
theorem c2:Tryz.prog.cellsOf 98=2:=acz
theorem wK:jr Tryz.prog (ids.f 51):=QY RE
theorem XO:pK Tryz.prog (ids.f 56):=VL Wv
theorem Iv:gJ Tryz.prog (ids.f 57):=Q0 (ι:=ids) RF (Md (ι:=ids) Mm (HI Ir)) XO
theorem Cg:fq Tryz.prog (ids.f 58):=Me (ι:=ids) Mn Iv XO
theorem XP:mb Tryz.prog (ids.f 340):=VT (ι:=ids) Ww (Mi (ι:=ids) Mp Bc) Cg
theorem Ch:gC Tryz.prog (ids.f 109):=aax aaM
theorem mq:ju Tryz.prog (ids.f 110):=HO (ι:=ids) Iu (Q4 (ι:=ids) RJ Ch)
theorem Ci:jv Tryz.prog (ids.f 111):=Q5 RH
theorem Cj:jw Tryz.prog (ids.f 112):=Q6 (ι:=ids) RI wK
theorem Ck:l8 Tryz.prog (ids.f 114):=Mh (ι:=ids) Mo Ch mq Ci Cj
theorem XQ:dN Tryz.prog (ids.f 342):=VU (ι:=ids) Wx Ch mq (Rc (ι:=ids) RG Ch mq Ci Cj)
theorem XR:fU Tryz.prog (ids.f 343):=VV (ι:=ids) Wy Ch Ck (Q9 (ι:=ids) RL) Bc
theorem XS:pO Tryz.prog ids (ids.f 348):=VY (ι:=ids) Wt ⟨Bb,JM JV,Iv,HJ (ι:=ids) Is Cg,XP,JO (ι:=ids) JW wK⟩
theorem aaN:rJ Tryz.prog ids (ids.f 351):=Rq (ι:=ids) RD ⟨Ek (ι:=ids) Ev wK,xW (ι:=ids) x9 Ch mq Ci Cj,HP (ι:=ids) It Ck,XQ,XR,JQ (ι:=ids) J0 Ch (JP J8),Bb,XS,Re RK⟩
theorem RM:jY Tryz.prog (ids.f 61):=VK (ι:=ids) Wz
theorem Cl:js Tryz.prog (ids.f 62):=Q1 (ι:=ids) Cf RM
theorem acJ:nO Tryz.prog (ids.f 349):=VZ (ι:=ids) Wu ⟨RM,Cl,wB (ι:=ids) wJ (Ep (ι:=ids) Ew) Cl,u0 vU⟩
theorem acK:wF Tryz.prog ids (ids.f 414):=We (ι:=ids) Wq ⟨XS,JM JV,Cg,Iv,XP,JO (ι:=ids) JW wK⟩
theorem aaO:rN Tryz.prog ids (ids.f 422):=Rw (ι:=ids) RB ⟨Ek (ι:=ids) Ev wK,Ck,aaN,xW (ι:=ids) x9 Ch mq Ci Cj,XR,XQ,JQ (ι:=ids) J0 Ch (JP J8),JH,Wf (ι:=ids) Wr Bd,acK,Re RK⟩
theorem aaP:rK Tryz.prog (ids.f 420):=Rt (ι:=ids) RC ⟨acJ,Cl,RM,wB (ι:=ids) wJ (Ep (ι:=ids) Ew) Cl,u0 vU⟩
end Go.Proofs.YtoclemmcphgikaaGreatDoor

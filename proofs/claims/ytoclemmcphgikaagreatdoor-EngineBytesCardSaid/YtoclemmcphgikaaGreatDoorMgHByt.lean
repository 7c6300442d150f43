/- Lemmas of ours. No conditions. -/
import Derived.Test.YtoclemmcphgikaaGreatDoorMgHSeat
import Derived.Test.YtoclemmcphgikaaGreatDoorMgJ8
set_option maxRecDepth 100000
set_option linter.all false
namespace Go.Proofs.YtoclemmcphgikaaGreatDoor
open Go.ChangeShapes Go.WideShapes Go.ChangeAt Go.WideElems Go.RowKit Go.Mg
def adP:ak Tryz.prog 41 (Ki ids) Kj 1:=ak.mk' Tryz.func41 mix (by kernel_rfl) (by kernel_rfl) (by kernel_rfl)
def Ul:ak Tryz.prog 43 (DD ids) DE 1:=ak.mk' Tryz.func43 mix (by kernel_rfl) (by kernel_rfl) (by kernel_rfl)
def adQ:ak Tryz.prog 92 (Kl ids) Km 1:=ak.mk' Tryz.func92 mix (by kernel_rfl) (by kernel_rfl) (by kernel_rfl)
def adR:ak Tryz.prog 42 (Kq ids) Kr 2:=ak.mk' Tryz.func42 mix (by kernel_rfl) (by kernel_rfl) (by kernel_rfl)
def adS:ak Tryz.prog 83 (Kn ids) Ko 3:=ak.mk' Tryz.func83 mix (by kernel_rfl) (by kernel_rfl) (by kernel_rfl)
def Um:ak Tryz.prog 44 (Dz ids) DA 1:=ak.mk' Tryz.func44 mix (by kernel_rfl) (by kernel_rfl) (by kernel_rfl)
def ag0:ak Tryz.prog 82 (TF ids) TG 2:=ak.mk' Tryz.func82 mix (by kernel_rfl) (by kernel_rfl) (by kernel_rfl)
def adT:ak Tryz.prog 135 (Jx ids) Jy 2:=ak.mk' Tryz.func135 mix (by kernel_rfl) (by kernel_rfl) (by kernel_rfl)
def adU:ak Tryz.prog 134 (Jv ids) Jw 3:=ak.mk' Tryz.func134 mix (by kernel_rfl) (by kernel_rfl) (by kernel_rfl)
def ag1:ak Tryz.prog 133 (TD ids) TE 2:=ak.mk' Tryz.func133 mix (by kernel_rfl) (by kernel_rfl) (by kernel_rfl)
def ag2:ak Tryz.prog 132 (aeE ids) aeF 2:=ak.mk' Tryz.func132 mix (by kernel_rfl) (by kernel_rfl) (by kernel_rfl)
def adV:ak Tryz.prog 78 (J0 ids) J8 1:=ak.mk' Tryz.func78 mix (by kernel_rfl) (by kernel_rfl) (by kernel_rfl)
def Un:ak Tryz.prog 86 (Dv ids) Dw 1:=ak.mk' Tryz.func86 mix (by kernel_rfl) (by kernel_rfl) (by kernel_rfl)
def adW:ak Tryz.prog 95 (J9 ids) Ka 1:=ak.mk' Tryz.func95 mix (by kernel_rfl) (by kernel_rfl) (by kernel_rfl)
def Uo:ak Tryz.prog 131 (CP ids) CQ 1:=ak.mk' Tryz.func131 mix (by kernel_rfl) (by kernel_rfl) (by kernel_rfl)
def Kv:ak Tryz.prog 160 (sW ids) ta 1:=ak.mk' Tryz.func160 mix (by kernel_rfl) (by kernel_rfl) (by kernel_rfl)
def OR:ak Tryz.prog 129 (xx ids) xy 1:=ak.mk' Tryz.func129 mix (by kernel_rfl) (by kernel_rfl) (by kernel_rfl)
def MH:ak Tryz.prog 76 (JB ids) JC 0:=ak.mk' Tryz.func76 mix (by kernel_rfl) (by kernel_rfl) (by kernel_rfl)
def adX:ak Tryz.prog 127 (JD ids) JE 2:=ak.mk' Tryz.func127 mix (by kernel_rfl) (by kernel_rfl) (by kernel_rfl)
def Up:ak Tryz.prog 79 (CR ids) CS 2:=ak.mk' Tryz.func79 mix (by kernel_rfl) (by kernel_rfl) (by kernel_rfl)
def OV:ak Tryz.prog 77 (xz ids) xA 2:=ak.mk' Tryz.func77 mix (by kernel_rfl) (by kernel_rfl) (by kernel_rfl)
def Kw:ak Tryz.prog 128 (tf ids) tg 2:=ak.mk' Tryz.func128 mix (by kernel_rfl) (by kernel_rfl) (by kernel_rfl)
def adY:ak Tryz.prog 80 (JR ids) JS 2:=ak.mk' Tryz.func80 mix (by kernel_rfl) (by kernel_rfl) (by kernel_rfl)
def MI:ak Tryz.prog 81 (JF ids) JG 1:=ak.mk' Tryz.func81 mix (by kernel_rfl) (by kernel_rfl) (by kernel_rfl)
def FV:ak Tryz.prog 85 (CT ids) CU 1:=ak.mk' Tryz.func85 mix (by kernel_rfl) (by kernel_rfl) (by kernel_rfl)
def zu:ak Tryz.prog 88 (xD ids) xE 2:=ak.mk' Tryz.func88 mix (by kernel_rfl) (by kernel_rfl) (by kernel_rfl)
def Kx:ak Tryz.prog 136 (th ids) tj 2:=ak.mk' Tryz.func136 mix (by kernel_rfl) (by kernel_rfl) (by kernel_rfl)
def adZ:ak Tryz.prog 90 (JT ids) JU 2:=ak.mk' Tryz.func90 mix (by kernel_rfl) (by kernel_rfl) (by kernel_rfl)
def Uq:ak Tryz.prog 142 (Di ids) Dj 2:=ak.mk' Tryz.func142 mix (by kernel_rfl) (by kernel_rfl) (by kernel_rfl)
def ad0:ak Tryz.prog 89 (JV ids) JW 2:=ak.mk' Tryz.func89 mix (by kernel_rfl) (by kernel_rfl) (by kernel_rfl)
def MJ:ak Tryz.prog 91 (JL ids) JM 1:=ak.mk' Tryz.func91 mix (by kernel_rfl) (by kernel_rfl) (by kernel_rfl)
def ag3:ak Tryz.prog 137 (TQ ids) TR 1:=ak.mk' Tryz.func137 mix (by kernel_rfl) (by kernel_rfl) (by kernel_rfl)
def Ky:ak Tryz.prog 138 (tk ids) tn 3:=ak.mk' Tryz.func138 mix (by kernel_rfl) (by kernel_rfl) (by kernel_rfl)
def Ur:ak Tryz.prog 139 (CV ids) CW 1:=ak.mk' Tryz.func139 mix (by kernel_rfl) (by kernel_rfl) (by kernel_rfl)
def Us:ak Tryz.prog 140 (Da ids) Db 2:=ak.mk' Tryz.func140 mix (by kernel_rfl) (by kernel_rfl) (by kernel_rfl)
def OW:ak Tryz.prog 87 (xF ids) xG 2:=ak.mk' Tryz.func87 mix (by kernel_rfl) (by kernel_rfl) (by kernel_rfl)
def MK:ak Tryz.prog 143 (JN ids) JO 1:=ak.mk' Tryz.func143 mix (by kernel_rfl) (by kernel_rfl) (by kernel_rfl)
def Ut:ak Tryz.prog 161 (Dc ids) Dd 2:=ak.mk' Tryz.func161 mix (by kernel_rfl) (by kernel_rfl) (by kernel_rfl)
def Uu:ak Tryz.prog 93 (TY ids) TZ 2:=ak.mk' Tryz.func93 mix (by kernel_rfl) (by kernel_rfl) (by kernel_rfl)
def Uv:ak Tryz.prog 45 (Dk ids) Dl 2:=ak.mk' Tryz.func45 mix (by kernel_rfl) (by kernel_rfl) (by kernel_rfl)
def ad1:ak Tryz.prog 96 (JH ids) JI 1:=ak.mk' Tryz.func96 mix (by kernel_rfl) (by kernel_rfl) (by kernel_rfl)
def DF:ak Tryz.prog 94 (mU ids) mV 1:=ak.mk' Tryz.func94 mix (by kernel_rfl) (by kernel_rfl) (by kernel_rfl)
def xU:ak Tryz.prog 97 (tA ids) tB 1:=ak.mk' Tryz.func97 mix (by kernel_rfl) (by kernel_rfl) (by kernel_rfl)
def FW:ak Tryz.prog 144 (Dm ids) Dn 1:=ak.mk' Tryz.func144 mix (by kernel_rfl) (by kernel_rfl) (by kernel_rfl)
def O0:ak Tryz.prog 130 (xJ ids) xK 1:=ak.mk' Tryz.func130 mix (by kernel_rfl) (by kernel_rfl) (by kernel_rfl)
def Uw:ak Tryz.prog 141 (Dg ids) nT 1:=ak.mk' Tryz.func141 mix (by kernel_rfl) (by kernel_rfl) (by kernel_rfl)
def u2:Tryz.prog.underlying 98=some (.array 2 5):=aiP
def c2:Tryz.prog.cellsOf 98=2:=aiQ
def xV:jU Tryz.prog (ids.f 51):=TM Uo
def aeN:re Tryz.prog (ids.f 56):=adg adX
def KI:iu Tryz.prog (ids.f 57):=TO (V:=ids) Up (OF (V:=ids) OR (JJ Kv)) aeN
def DG:fV Tryz.prog (ids.f 58):=OG (V:=ids) OV KI aeN
def aeO:mZ Tryz.prog (ids.f 340):=ado (V:=ids) adY (OI (V:=ids) O0 CK) DG
def DH:ic Tryz.prog (ids.f 109):=agK ag3
def nr:jX Tryz.prog (ids.f 110):=JP (V:=ids) Ky (TS (V:=ids) Ut DH)
def DI:jY Tryz.prog (ids.f 111):=TT Ur
def DJ:jZ Tryz.prog (ids.f 112):=TU (V:=ids) Us xV
def DK:mY Tryz.prog (ids.f 114):=OH (V:=ids) OW DH nr DI DJ
def aeP:ew Tryz.prog (ids.f 342):=adp (V:=ids) adZ DH nr (T0 (V:=ids) Uq DH nr DI DJ)
def aeQ:gG Tryz.prog (ids.f 343):=adq (V:=ids) ad0 DH DK (TX (V:=ids) Uw) CK
def aeR:rq Tryz.prog ids (ids.f 348):=adt (V:=ids) adV ⟨CJ,Mv MH,KI,JK (V:=ids) Kw DG,aeO,My (V:=ids) MI xV⟩
def ag4:tF Tryz.prog ids (ids.f 351):=Ug (V:=ids) Un ⟨FJ (V:=ids) FV xV,zn (V:=ids) zu DH nr DI DJ,JQ (V:=ids) Kx DK,aeP,aeQ,MA (V:=ids) MJ DH (Mz MK),CJ,aeR,T3 Uu⟩
def Ux:lD Tryz.prog (ids.f 61):=adf (V:=ids) ad1
def DL:jV Tryz.prog (ids.f 62):=TP (V:=ids) DF Ux
def ai1:py Tryz.prog (ids.f 349):=adu (V:=ids) adW ⟨Ux,DL,xM (V:=ids) xU (FN (V:=ids) FW) DL,wC xu⟩
def aeS:ry Tryz.prog ids (ids.f 414):=adC (V:=ids) adP ⟨aeR,Mv MH,DG,KI,aeO,My (V:=ids) MI xV⟩
def ag5:tK Tryz.prog ids (ids.f 422):=Uk (V:=ids) Ul ⟨FJ (V:=ids) FV xV,DK,ag4,zn (V:=ids) zu DH nr DI DJ,aeQ,aeP,MA (V:=ids) MJ DH (Mz MK),Mn,adD (V:=ids) adQ CL,aeS,T3 Uu⟩
def ag6:tH Tryz.prog (ids.f 420):=Ui (V:=ids) Um ⟨ai1,DL,Ux,xM (V:=ids) xU (FN (V:=ids) FW) DL,wC xu⟩
def al5:CO Tryz.prog (ids.f 333):=agJ (V:=ids) ag0 ⟨agI ag2,agH ag1,ada adU,adb (V:=ids) adT (yK zi)⟩
def ai2:xT Tryz.prog (ids.f 416):=adM (V:=ids) adR al5 (adL (V:=ids) adS (by kernel_rfl) (yK zi)) Ml
end Go.Proofs.YtoclemmcphgikaaGreatDoor

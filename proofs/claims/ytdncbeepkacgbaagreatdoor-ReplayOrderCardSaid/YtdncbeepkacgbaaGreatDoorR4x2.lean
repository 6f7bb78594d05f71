/-
  Part 2.
-/
import Derived.Test.YtdncbeepkacgbaaGreatDoorR4x1
set_option maxHeartbeats 8000000
set_option linter.all false
set_option maxRecDepth 100000
open Go.Fw.Flat renaming val->ia,enc->iW,sz->lx,len->rj,agg->BZ,one->PU,pos->P0,lj->U5
open List renaming getElem?_eq_some_iff->jq,getElem?_eq_getElem->j0,length_append->kC,take_of_length_le->kE,mem_of_getElem?->l0,getElem?_eq_none->l3,length_take->ml,append_assoc->mv,length_singleton->nD,length_map->nQ,mem_map->nT,getElem?_map->n0,take_append_drop->ob,length_cons->oi,append_nil->oo,drop_eq_nil_of_le->ou,length_drop->oD,replicate->oJ,mem_cons->oS,mem_cons_of_mem->o5,drop_eq_getElem_cons->pd,length_eq_zero_iff->qa,getElem?_append_left->qi,drop_drop->qv,map_append->rh,mem_singleton->ru,nil_append->sk,take_add_one->ta,any_eq_true->tP,getElem?_eq_none_iff->uK,ext_getElem?->u3,getElem_of_mem->vR,eraseIdx_eq_take_drop_succ->wz,foldl_append->wI,getElem?_set_self->x6,drop_left->x9,nodup_cons->yQ,map_map->Cn,getElem?_drop->CS,length_nil->Dd,length_set->Dx,getElem?_set_ne->Ef,getElem?_cons_succ->GR,toArray->Hw,getElem?_eraseIdx_of_lt->IX,getElem?_eraseIdx_of_ge->Jg,take_left->JI,length_flatten->Pk,getElem_inj->Ru,cons->VK
open Option renaming bind_some->kO,some->nN,map_some->wm,bind_eq_some_iff->F1
open Go.Instr renaming build->l1,sliceAt->mA,index->oK,sliceBounds->qh,lookup->qn,mapUpdate->qJ,loadAt->rB,storeAt->zQ,indexAt->z7,keyThatStays->FR,makeMap->Ik,slice->Ix,findKey->K9
open Go.Value renaming int->mj,bool->sy,slice->sB,string->tO,tuple->KP,okWide->P1
open Nat renaming zero_le->mr,le_refl->oq,zero_add->o6,min_eq_left->xn,le_trans->xE,mul_le_mul_right->yS,add_assoc->FF,add_zero->Hp
open Bool renaming and_eq_true->nw
open Decidable renaming not_not->zP
open Go.World renaming cells?_some->P2
open Prod renaming mk->Ug
open Int renaming toNat->U4
namespace Go.Proofs.YtdncbeepkacgbaaGreatDoor
open Go.Fw
def bL:cH hH 3=some (false,1):=by kernel_rfl
def sQ:dB hH 3=some (some (hU 0)):=by kernel_rfl
def DP:Tryz.prog.underlying 3=some (.int .i64):=by kernel_rfl
def B3:cH hH 4=some (false,1):=by kernel_rfl
def MY:dB hH 4=some (some (.bool false)):=by kernel_rfl
def RY:Tryz.prog.underlying 4=some (.bool):=by kernel_rfl
def ahh:Tryz.prog.underlying 5=some (.int .u8):=by kernel_rfl
def j3:cH hH 9=some (false,1):=by kernel_rfl
def UW:dB hH 9=some (some (.string ⟨#[]⟩)):=by kernel_rfl
def gQ:Tryz.prog.underlying 9=some (.string):=by kernel_rfl
def ek:cH hH 22=some (false,1):=by kernel_rfl
def dz:dV hH 22=some (3,1,8,some 1):=by kernel_rfl
def Wo:dB hH 22=some (some (.slice none 0 0)):=by kernel_rfl
def fr:cH hH 24=some (true,4):=by kernel_rfl
def gR:aN hH 24 0=some (0,some true):=by kernel_rfl
def lQ:aN hH 24 1=some (1,some true):=by kernel_rfl
def n4:aN hH 24 2=some (2,some true):=by kernel_rfl
def eN:aN hH 24 3=some (3,some true):=by kernel_rfl
def mZ:dB hH 24=some (some (.agg [hU 0,hU 0,hU 0,.slice none 0 0].toArray)):=by kernel_rfl
def yx:cH hH 31=some (false,1):=by kernel_rfl
def yy:dV hH 31=some (32,1,24,some 1):=by kernel_rfl
def sE:cH hH 32=some (false,1):=by kernel_rfl
def nR:dV hH 32=some (175,3,32,some 3):=by kernel_rfl
def pO:cH hH 33=some (false,1):=by kernel_rfl
def kK:dV hH 33=some (114,4,72,some 4):=by kernel_rfl
def DU:cH hH 34=some (false,1):=by kernel_rfl
def B4:dV hH 34=some (95,2,32,some 2):=by kernel_rfl
def fW:cH hH 36=some (true,6):=by kernel_rfl
def mN:aN hH 36 0=some (0,some true):=by kernel_rfl
def uj:aN hH 36 1=some (1,some true):=by kernel_rfl
def r8:aN hH 36 2=some (2,some true):=by kernel_rfl
def pP:aN hH 36 3=some (3,some true):=by kernel_rfl
def r9:aN hH 36 4=some (4,some true):=by kernel_rfl
def sc:aN hH 36 5=some (5,some true):=by kernel_rfl
def Gq:dB hH 36=some (some (.agg [.slice none 0 0,.slice none 0 0,.slice none 0 0,.slice none 0 0,.slice none 0 0,.slice none 0 0].toArray)):=by kernel_rfl
def gA:cH hH 40=some (false,1):=by kernel_rfl
def Wp:dB hH 40=some (some (hU 0)):=by kernel_rfl
def MZ:cH hH 56=some (true,5):=by kernel_rfl
def RZ:aN hH 56 0=some (0,some true):=by kernel_rfl
def IF:aN hH 56 1=some (1,some true):=by kernel_rfl
def um:aN hH 56 3=some (3,some true):=by kernel_rfl
def xW:aN hH 56 4=some (4,some true):=by kernel_rfl
def Gr:dB hH 56=some (some (.agg [hU 0,hU 0,hU 0,.bool false,.bool false].toArray)):=by kernel_rfl
def uo:dV hH 58=some (67,4,48,some 4):=by kernel_rfl
def KB:dV hH 64=some (4,1,1,some 1):=by kernel_rfl
def oG:cH hH 67=some (true,4):=by kernel_rfl
def uq:aN hH 67 0=some (0,some true):=by kernel_rfl
def n6:aN hH 67 1=some (1,some true):=by kernel_rfl
def xX:aN hH 67 2=some (2,some true):=by kernel_rfl
def B5:aN hH 67 3=some (3,some true):=by kernel_rfl
def B6:dB hH 67=some (some (.agg [hU 0,hU 0,hU 0,.slice none 0 0].toArray)):=by kernel_rfl
def iH:cH hH 72=some (true,5):=by kernel_rfl
def R0:aN hH 72 1=some (1,some true):=by kernel_rfl
def qS:dB hH 72=some (some (.agg [hU 0,hU 0,hU 0,hU 0,hU 0].toArray)):=by kernel_rfl
def Gs:dV hH 77=some (72,5,40,some 5):=by kernel_rfl
def abd:cH hH 82=some (true,2):=by kernel_rfl
def R2:aN hH 82 0=some (0,some true):=by kernel_rfl
def R3:aN hH 82 1=some (1,some true):=by kernel_rfl
def Wq:dB hH 82=some (some (.agg [hU 0,hU 0].toArray)):=by kernel_rfl
def lX:cH hH 86=some (false,1):=by kernel_rfl
def iR:dV hH 86=some (9,1,16,some 1):=by kernel_rfl
def Wr:dB hH 86=some (some (.slice none 0 0)):=by kernel_rfl
def lH:cH hH 92=some (false,1):=by kernel_rfl
def jx:dV hH 92=some (183,4,40,some 4):=by kernel_rfl
def B7:cH hH 95=some (true,2):=by kernel_rfl
def B8:aN hH 95 0=some (0,some true):=by kernel_rfl
def R4:aN hH 95 1=some (1,some true):=by kernel_rfl
def Gt:dB hH 95=some (some (.agg [.slice none 0 0,hU 0].toArray)):=by kernel_rfl
def ur:cH hH 98=some (false,1):=by kernel_rfl
def wQ:cH hH 102=some (false,1):=by kernel_rfl
def uu:cH hH 103=some (false,1):=by kernel_rfl
def wR:dV hH 103=some (128,1,8,some 1):=by kernel_rfl
def uv:aN hH 105 0=some (0,some true):=by kernel_rfl
def yz:aN hH 105 1=some (6,some true):=by kernel_rfl
def yA:aN hH 105 2=some (7,some true):=by kernel_rfl
def M4:aN hH 105 3=some (8,some true):=by kernel_rfl
def lY:aN hH 105 4=some (9,some true):=by kernel_rfl
def m4:aN hH 105 5=some (10,some true):=by kernel_rfl
def m6:aN hH 105 6=some (11,some true):=by kernel_rfl
def yB:aN hH 105 7=some (12,some true):=by kernel_rfl
def o8:aN hH 105 8=some (13,some true):=by kernel_rfl
def DV:aN hH 105 9=some (14,some true):=by kernel_rfl
def lZ:cH hH 112=some (false,1):=by kernel_rfl
def fX:dV hH 112=some (220,9,120,some 9):=by kernel_rfl
def lq:cH hH 114=some (true,4):=by kernel_rfl
def yC:aN hH 114 0=some (0,some true):=by kernel_rfl
def m7:aN hH 114 1=some (1,some true):=by kernel_rfl
def qT:aN hH 114 2=some (2,some true):=by kernel_rfl
def yD:aN hH 114 3=some (3,some true):=by kernel_rfl
def sd:dB hH 114=some (some (.agg [.string ⟨#[]⟩,.slice none 0 0,.slice none 0 0,hU 0].toArray)):=by kernel_rfl
def sR:dV hH 116=some (240,2,16,some 2):=by kernel_rfl
def AT:cH hH 128=some (false,1):=by kernel_rfl
def m8:cH hH 129=some (false,1):=by kernel_rfl
def o9:dV hH 129=some (227,2,32,some 2):=by kernel_rfl
def kL:aN hH 131 0=some (0,some true):=by kernel_rfl
def uw:aN hH 131 1=some (1,some true):=by kernel_rfl
def ux:aN hH 131 2=some (2,some true):=by kernel_rfl
def gB:aN hH 131 3=some (3,some true):=by kernel_rfl
def qU:aN hH 131 4=some (4,some true):=by kernel_rfl
def AU:dV hH 146=some (22,1,24,some 1):=by kernel_rfl
def M5:dV hH 164=some (82,2,16,some 2):=by kernel_rfl
def qV:cH hH 165=some (false,1):=by kernel_rfl
def fY:cH hH 166=some (false,1):=by kernel_rfl
def eB:dV hH 166=some (179,4,40,some 4):=by kernel_rfl
def gS:aN hH 171 0=some (0,some true):=by kernel_rfl
def eh:aN hH 171 1=some (1,some true):=by kernel_rfl
def jj:aN hH 171 2=some (2,some true):=by kernel_rfl
def qW:aN hH 171 3=some (3,some true):=by kernel_rfl
def jS:cH hH 175=some (true,3):=by kernel_rfl
def m9:aN hH 175 0=some (0,some true):=by kernel_rfl
def uy:aN hH 175 1=some (1,some true):=by kernel_rfl
def uz:aN hH 175 2=some (2,some true):=by kernel_rfl
def lR:dB hH 175=some (some (.agg [.string ⟨#[]⟩,hU 0,hU 0].toArray)):=by kernel_rfl
def UX:cH hH 179=some (true,4):=by kernel_rfl
def iS:aN hH 179 0=some (0,some true):=by kernel_rfl
def jT:aN hH 179 1=some (1,some true):=by kernel_rfl
def nc:aN hH 179 2=some (2,some true):=by kernel_rfl
def iT:aN hH 179 3=some (3,some true):=by kernel_rfl
def R5:dB hH 179=some (some (.agg [hU 0,.string ⟨#[]⟩,hU 0,hU 0].toArray)):=by kernel_rfl
def wS:cH hH 183=some (true,4):=by kernel_rfl
def ix:aN hH 183 0=some (0,some true):=by kernel_rfl
def qX:aN hH 183 1=some (1,some true):=by kernel_rfl
def l4:aN hH 183 2=some (2,some true):=by kernel_rfl
def uA:aN hH 183 3=some (3,some true):=by kernel_rfl
def B9:dB hH 183=some (some (.agg [hU 0,hU 0,.string ⟨#[]⟩,hU 0].toArray)):=by kernel_rfl
def AV:cH hH 184=some (false,1):=by kernel_rfl
def IG:dB hH 184=some (some (.map none)):=by kernel_rfl
def abe:cH hH 196=some (true,3):=by kernel_rfl
def M6:aN hH 196 0=some (0,some true):=by kernel_rfl
def M7:aN hH 196 1=some (1,some true):=by kernel_rfl
def M8:aN hH 196 2=some (2,some true):=by kernel_rfl
def R6:dB hH 196=some (some (.agg [.string ⟨#[]⟩,hU 0,.slice none 0 0].toArray)):=by kernel_rfl
def mD:cH hH 198=some (false,1):=by kernel_rfl
theorem iI:dV hH 198=some (262,4,32,some 4):=by kernel_rfl
def M9:aN hH 200 0=some (0,some true):=by kernel_rfl
def iy:aN hH 200 1=some (1,some true):=by kernel_rfl
def sS:cH hH 205=some (false,1):=by kernel_rfl
def qY:aN hH 207 0=some (0,some true):=by kernel_rfl
def Na:aN hH 207 1=some (1,some true):=by kernel_rfl
def nd:aN hH 207 2=some (2,some true):=by kernel_rfl
def uB:aN hH 207 3=some (3,some true):=by kernel_rfl
def nf:aN hH 207 4=some (4,some true):=by kernel_rfl
def ep:cH hH 220=some (true,9):=by kernel_rfl
def fy:aN hH 220 0=some (0,some true):=by kernel_rfl
def kM:aN hH 220 1=some (1,some true):=by kernel_rfl
def jU:aN hH 220 2=some (2,some true):=by kernel_rfl
def kN:aN hH 220 3=some (3,some true):=by kernel_rfl
def qZ:aN hH 220 4=some (4,some true):=by kernel_rfl
def l5:aN hH 220 5=some (5,some true):=by kernel_rfl
def jV:aN hH 220 6=some (6,some true):=by kernel_rfl
def l6:aN hH 220 7=some (7,some true):=by kernel_rfl
def q7:aN hH 220 8=some (8,some true):=by kernel_rfl
def jy:dB hH 220=some (some (.agg [hU 0,.string ⟨#[]⟩,.string ⟨#[]⟩,.slice none 0 0,.slice none 0 0,hU 0,hU 0,hU 0,hU 0].toArray)):=by kernel_rfl
def DW:aN hH 227 0=some (0,some true):=by kernel_rfl
def Nb:aN hH 227 1=some (1,some true):=by kernel_rfl
def yE:cH hH 240=some (true,2):=by kernel_rfl
def jW:aN hH 240 0=some (0,some true):=by kernel_rfl
def l7:aN hH 240 1=some (1,some true):=by kernel_rfl
def Ca:dB hH 240=some (some (.agg [hU 0,hU 0].toArray)):=by kernel_rfl
def l8:aN hH 246 0=some (0,some true):=by kernel_rfl
def pa:aN hH 248 0=some (0,some true):=by kernel_rfl
def DX:aN hH 248 1=some (1,some true):=by kernel_rfl
def R7:dB hH 248=some (some (.agg [.slice none 0 0,hU 0].toArray)):=by kernel_rfl
def jD:cH hH 262=some (true,4):=by kernel_rfl
def ng:aN hH 262 0=some (0,some true):=by kernel_rfl
def kP:aN hH 262 1=some (1,some true):=by kernel_rfl
def pb:aN hH 262 2=some (2,some true):=by kernel_rfl
def q8:aN hH 262 3=some (3,some true):=by kernel_rfl
def se:dB hH 262=some (some (.agg [hU 0,hU 0,hU 0,hU 0].toArray)):=by kernel_rfl
def IH:cH hH 300=some (false,1):=by kernel_rfl
def R8:dB hH 300=some (some (.nilFunc)):=by kernel_rfl
def wT:dV hH 321=some (324,2,16,some 2):=by kernel_rfl
def uC:dB hH 321=some (some (.slice none 0 0)):=by kernel_rfl
def II:cH hH 324=some (true,2):=by kernel_rfl
def DY:aN hH 324 0=some (0,some true):=by kernel_rfl
def DZ:aN hH 324 1=some (1,some true):=by kernel_rfl
def IJ:dB hH 324=some (some (.agg [hU 0,hU 0].toArray)):=by kernel_rfl
def Nc:cH hH 348=some (true,16):=by kernel_rfl
def IK:dB hH 348=some (some (.agg [.nilFunc,.nilFunc,.nilFunc,.nilFunc,.nilFunc,.nilFunc,.nilFunc,.nilFunc,.nilFunc,.nilFunc,.nilFunc,.nilFunc,.nilFunc,.nilFunc,.nilFunc,.nilFunc].toArray)):=by kernel_rfl
def fz:aN hH 368 0=some (0,some true):=by kernel_rfl
def dT:aN hH 368 1=some (1,some true):=by kernel_rfl
def iz:aN hH 368 2=some (2,some true):=by kernel_rfl
def uD:aN hH 368 3=some (3,some true):=by kernel_rfl
def l9:aN hH 368 4=some (4,some true):=by kernel_rfl
def eL:cH hH 371=some (true,4):=by kernel_rfl
def nh:aN hH 371 0=some (0,some true):=by kernel_rfl
def kQ:aN hH 371 1=some (1,some true):=by kernel_rfl
def pe:aN hH 371 2=some (2,some true):=by kernel_rfl
def Nd:aN hH 371 3=some (3,some true):=by kernel_rfl
def n8:dB hH 371=some (some (.agg [.slice none 0 0,hU 0,hU 0,hU 0].toArray)):=by kernel_rfl
def D0:dV hH 380=some (33,1,24,some 1):=by kernel_rfl
def abf:cH hH 390=some (false,1):=by kernel_rfl
def UY:cH hH 419=some (true,15):=by kernel_rfl
def R9:dB hH 419=some (some (.agg [.string ⟨#[]⟩,.string ⟨#[]⟩,.string ⟨#[]⟩,.string ⟨#[]⟩,.string ⟨#[]⟩,.string ⟨#[]⟩,.string ⟨#[]⟩,.string ⟨#[]⟩,.string ⟨#[]⟩,.string ⟨#[]⟩,.string ⟨#[]⟩,.string ⟨#[]⟩,.string ⟨#[]⟩,.string ⟨#[]⟩,.string ⟨#[]⟩].toArray)):=by kernel_rfl
def D1(E:Int)(u:Int)(B:Int):pr hH (l1 56 [(0,hU E),(1,hU u),(2,hU B)].toArray)=some (.agg [hU E,hU u,hU B,.bool false,.bool false].toArray):=by kernel_rfl
def KC(B:Int)(u:Int):pr hH (l1 67 [(0,hU B),(1,hU u)].toArray)=some (.agg [hU B,hU u,hU 0,.slice none 0 0].toArray):=by kernel_rfl
def D2(E:Int)(u:Int)(B:Int):pr hH (l1 67 [(0,hU E),(1,hU u),(2,hU B)].toArray)=some (.agg [hU E,hU u,hU B,.slice none 0 0].toArray):=by kernel_rfl
def KD(G:Int)(u:Option Addr)(E B:Nat):pr hH (l1 67 [(0,hU G),(3,.slice u E B)].toArray)=some (.agg [hU G,hU 0,hU 0,.slice u E B].toArray):=by kernel_rfl
def Ws:pr hH (l1 72 [].toArray)=some (.agg [hU 0,hU 0,hU 0,hU 0,hU 0].toArray):=by kernel_rfl
def IL(u:Int):pr hH (l1 72 [(0,hU u)].toArray)=some (.agg [hU u,hU 0,hU 0,hU 0,hU 0].toArray):=by kernel_rfl
def KE(B:Int)(u:Int):pr hH (l1 72 [(0,hU B),(1,hU u)].toArray)=some (.agg [hU B,hU u,hU 0,hU 0,hU 0].toArray):=by kernel_rfl
def wU(E:Int)(u:Int)(B:Int):pr hH (l1 72 [(0,hU E),(1,hU u),(2,hU B)].toArray)=some (.agg [hU E,hU u,hU B,hU 0,hU 0].toArray):=by kernel_rfl
def Ai(G:Int)(B:Int)(E:Int)(u:Int):pr hH (l1 72 [(0,hU G),(1,hU B),(2,hU E),(3,hU u)].toArray)=some (.agg [hU G,hU B,hU E,hU u,hU 0].toArray):=by kernel_rfl
def sf(B:Int)(u:Int):pr hH (l1 72 [(0,hU B),(2,hU u)].toArray)=some (.agg [hU B,hU 0,hU u,hU 0,hU 0].toArray):=by kernel_rfl
def q9(E:Int)(B:Int)(u:Int):pr hH (l1 72 [(0,hU E),(2,hU B),(3,hU u)].toArray)=some (.agg [hU E,hU 0,hU B,hU u,hU 0].toArray):=by kernel_rfl
def Aj(G:Int)(E:Int)(u:Int)(B:Int):pr hH (l1 72 [(0,hU G),(2,hU E),(3,hU u),(4,hU B)].toArray)=some (.agg [hU G,hU 0,hU E,hU u,hU B].toArray):=by kernel_rfl
def KF(B:Int)(u:Int):pr hH (l1 72 [(0,hU B),(3,hU u)].toArray)=some (.agg [hU B,hU 0,hU 0,hU u,hU 0].toArray):=by kernel_rfl
def KG(G:Option Addr)(u B:Nat)(E:Int):pr hH (l1 95 [(0,.slice G u B),(1,hU E)].toArray)=some (.agg [.slice G u B,hU E].toArray):=by kernel_rfl
def Gu(B:ByteArray)(u:Int):pr hH (l1 114 [(0,.string B),(3,hU u)].toArray)=some (.agg [.string B,.slice none 0 0,.slice none 0 0,hU u].toArray):=by kernel_rfl
def Nf(u:Int):pr hH (l1 114 [(3,hU u)].toArray)=some (.agg [.string ⟨#[]⟩,.slice none 0 0,.slice none 0 0,hU u].toArray):=by kernel_rfl
def Ng(E:Option Addr)(u B:Nat):pr hH (l1 171 [(0,.slice E u B)].toArray)=some (.agg [.slice E u B,hU 0,hU 0,hU 0].toArray):=by kernel_rfl
def Sa:pr hH (l1 175 [].toArray)=some (.agg [.string ⟨#[]⟩,hU 0,hU 0].toArray):=by kernel_rfl
def Gv(B:ByteArray)(u:Int):pr hH (l1 175 [(0,.string B),(2,hU u)].toArray)=some (.agg [.string B,hU 0,hU u].toArray):=by kernel_rfl
def Nh(u:Int):pr hH (l1 179 [(3,hU u)].toArray)=some (.agg [hU 0,.string ⟨#[]⟩,hU 0,hU u].toArray):=by kernel_rfl
def Cb(E:Int)(B:Int)(u:Int):pr hH (l1 183 [(0,hU E),(1,hU B),(3,hU u)].toArray)=some (.agg [hU E,hU B,.string ⟨#[]⟩,hU u].toArray):=by kernel_rfl
def Cc(E:Int)(B:ByteArray)(u:Int):pr hH (l1 183 [(0,hU E),(2,.string B),(3,hU u)].toArray)=some (.agg [hU E,hU 0,.string B,hU u].toArray):=by kernel_rfl
def yF(B:Int)(u:Int):pr hH (l1 183 [(0,hU B),(3,hU u)].toArray)=some (.agg [hU B,hU 0,.string ⟨#[]⟩,hU u].toArray):=by kernel_rfl
def Ni(u:Int):pr hH (l1 200 [(0,hU u)].toArray)=some (.agg [hU u,.slice none 0 0].toArray):=by kernel_rfl
def yG(M:Option Addr)(u G:Nat)(O:Option Addr)(E I:Nat)(B:Option Addr)(V J:Nat)(U:Option Nat):pr hH (l1 207 [(0,.slice M u G),(1,.slice O E I),(2,.slice B V J),(4,.map U)].toArray)=some (.agg [.slice M u G,.slice O E I,.slice B V J,.slice none 0 0,.map U].toArray):=by kernel_rfl
def Gw(B:Int)(u:Int):pr hH (l1 220 [(0,hU B),(8,hU u)].toArray)=some (.agg [hU B,.string ⟨#[]⟩,.string ⟨#[]⟩,.slice none 0 0,.slice none 0 0,hU 0,hU 0,hU 0,hU u].toArray):=by kernel_rfl
def Gx(B:Int)(u:Int):pr hH (l1 240 [(0,hU B),(1,hU u)].toArray)=some (.agg [hU B,hU u].toArray):=by kernel_rfl
def Cd:pr hH (l1 262 [].toArray)=some (.agg [hU 0,hU 0,hU 0,hU 0].toArray):=by kernel_rfl
def yH(u:Int):pr hH (l1 262 [(0,hU u)].toArray)=some (.agg [hU u,hU 0,hU 0,hU 0].toArray):=by kernel_rfl
def yI(B:Int)(u:Int):pr hH (l1 262 [(0,hU B),(1,hU u)].toArray)=some (.agg [hU B,hU u,hU 0,hU 0].toArray):=by kernel_rfl
def Gy(B:Int)(u:Int):pr hH (l1 324 [(0,hU B),(1,hU u)].toArray)=some (.agg [hU B,hU u].toArray):=by kernel_rfl
def Gz(G:Option Addr)(u B:Nat)(E:Int):pr hH (l1 368 [(0,.slice G u B),(1,hU E)].toArray)=some (.agg [.slice G u B,hU E,hU 0,hU 0,.slice none 0 0].toArray):=by kernel_rfl
def tf(G:Option Addr)(u B:Nat)(E:Int):pr hH (l1 371 [(0,.slice G u B),(1,hU E)].toArray)=some (.agg [.slice G u B,hU E,hU 0,hU 0].toArray):=by kernel_rfl
def GA(B:Int)(u:Int):pr hH (l1 371 [(2,hU B),(3,hU u)].toArray)=some (.agg [.slice none 0 0,hU 0,hU B,hU u].toArray):=by kernel_rfl
def Nj:yw hH 262=some [0,0,0,0]:=by kernel_rfl
end Go.Proofs.YtdncbeepkacgbaaGreatDoor
namespace Go.Fw
def sep(H1 H2:HP):HP where
 p w F:=∃u B,H1.p w u/\H2.p w B/\(∀b,u b->¬ B b)/\∀b,F b↔u b\/B b
 loc w w' F h hh:=by
  obtain⟨u,B,h1,h2,h3,h4⟩:=h
  exact⟨u,B,H1.loc _ _ _ h1 λb hb=>hh b ((h4 b).2 (.inl hb)),H2.loc _ _ _ h2 λb hb=>hh b ((h4 b).2 (.inr hb)),h3,h4⟩
 lt w F b h hb:=by
  obtain⟨u,B,h1,h2,h3,h4⟩:=h
  rcases(h4 b).1 hb with hf|hf
  .exact H1.lt _ _ _ h1 hf
  .exact H2.lt _ _ _ h2 hf
def oW{α:Type}(H:α->HP):HP where
 p w F:=∃x,(H x).p w F
 loc w w' F h hh:=by obtain⟨x,h⟩:=h;exact⟨x,(H x).loc _ _ _ h hh⟩
 lt w F b h hb:=by obtain⟨x,h⟩:=h;exact(H x).lt _ _ _ h hb
def fact(φ:Prop)(H:HP):HP where
 p w F:=φ/\H.p w F
 loc w w' F h hh:=⟨h.1,H.loc _ _ _ h.2 hh⟩
 lt w F b h hb:=H.lt _ _ _ h.2 hb
def emp:HP where
 p _ F:=∀b,¬ F b
 loc _ _ _ h _:=h
 lt _ _ b h hb:=(h b hb).elim
section
variable {P:Program}{w w0 w':World}{A:Nat->Prop}{L:List HP}{H H1 H2:HP}
theorem St.split(h:St w0 A (sep H1 H2::L) w):St w0 A (H1::H2::L) w:=by
 obtain⟨U,F,B,⟨I,E,J,M,O,u⟩,h2,h3,h4,h5⟩:=h.oE
 refine⟨h.aF,U,I,λb=>E b\/B b,J,λb hb=>h2 b ((u b).2 (.inl hb)),λb hb G=>?_,λb=>?_,E,B,M,λb hb=>h2 b ((u b).2 (.inr hb)),λb hb G=>h3 b ((u b).2 (.inr hb)) G,λb=>Iff.rfl,h5⟩
 .grind
 grind
theorem St.join(h:St w0 A (H1::H2::L) w):St w0 A (sep H1 H2::L) w:=by
 obtain⟨U,F,V,h1,h2,h3,h4,u,M,I,B,O,G,E⟩:=h.oE
 refine⟨h.aF,U,λb=>F b\/u b,M,⟨F,u,h1,I,λb hb J=>h3 b hb ((G b).2 (.inl J)),λb=>Iff.rfl⟩,λb hb=>hb.elim (h2 b) (B b),λb hb W=>?_,λb=>?_,E⟩
 .grind
 grind
theorem St.dS{α:Type}{H:α->HP}(h:St w0 A (oW H::L) w):∃x,St w0 A (H x::L) w:=by
 obtain⟨U,F,u,⟨x,h1⟩,h2⟩:=h.oE;exact⟨x,h.aF,U,F,u,h1,h2⟩
theorem St.dO{α:Type}{H:α->HP}(x:α)(h:St w0 A (H x::L) w):St w0 A (oW H::L) w:=by
 obtain⟨U,F,u,h1,h2⟩:=h.oE;exact⟨h.aF,U,F,u,⟨x,h1⟩,h2⟩
theorem St.lr{φ:Prop}(h:St w0 A (fact φ H::L) w):φ/\St w0 A (H::L) w:=by
 obtain⟨U,F,u,⟨x,h1⟩,h2⟩:=h.oE;exact⟨x,h.aF,U,F,u,h1,h2⟩
theorem St.mE{φ:Prop}(x:φ)(h:St w0 A (H::L) w):St w0 A (fact φ H::L) w:=by
 simp_all[fact]
def mF(F:Nat->Prop)(H':HP)(w w':World):Prop:=∃u,H'.p w' u/\(∀b,u b->F b\/w.heap.size<=b)/\fH F w w'
def mG(H:HP)(w w':World):Prop:=∃F,H.p w' F/\(∀b,F b->w.heap.size<=b)/\Ext w w'
theorem St.mut{F:Nat->Prop}(u:St w F (H::L) w'):mF F H w w':=by
 obtain⟨B,h1,h2⟩:=u.head;exact⟨B,h1,h2,u.aF⟩
theorem St.fresh(u:St w bF (H::L) w'):mG H w w':=by
 obtain⟨B,h1,h2⟩:=u.head;exact⟨B,h1,λb hb=>(h2 b hb).elim (λh=>h.elim) id,u.aF⟩
theorem St.made(u:St w0 A L w)(h:mG H w w'):St w0 A (H::L) w':=by
 obtain⟨F,h1,h2,h3⟩:=h;exact u.new h3 h1 h2
theorem aR{f:FuncId}{args:List Value}{X:Value}{K:Value->hM}(pl:Plain P f)(u:St w0 A L w)(hc:Calls P f args.toArray w (oV λv w'=>v=X/\Ext w w'))(k:∀w',Ext w w'->St w0 A L w'->K X w'):wJ P f args w K:=
 dX pl hc λv w' h=>by obtain⟨rfl,h2⟩:=h;exact k w' h2 (u.ext h2)
theorem fZ{f:FuncId}{args:List Value}{H:Value->HP}{K:Value->hM}(pl:Plain P f)(u:St w0 A L w)(hc:Calls P f args.toArray w (oV λv w'=>mG (H v) w w'))(k:∀v w',mG (H v) w w'->St w0 A (H v::L) w'->K v w'):wJ P f args w K:=
 dX pl hc λv w' h=>k v w' h (u.made h)
theorem St.Nk{F:Nat->Prop}{B:Nat->Prop}{H':HP}(I:St w0 A (H::L) w)(h2:∀b,F b->A b\/w0.heap.size<=b)(h3:∀b,F b->¬ B b)(h5:mY w0 A L w B)(h:mF F H' w w'):St w0 A (H'::L) w':=by
 obtain⟨G,O,J,E⟩:=h
 refine⟨I.aF.trans E (λ_ h=>h) λb hb u=>(h2 b u).elim id λU=>bP,λb=>G b\/B b,G,B,O,λb hb=>?_,λb hb M=>?_,λb=>Iff.rfl,?_⟩
 .rcases J b hb with u|u
  .exact h2 b u
  exact .inr (xE I.aF.size u)
 .rcases J b hb with u|u
  .exact h3 b u M
  have:=h5.lt b M;omega
 exact h5.loc λb hb=>E.bM b (h5.lt b hb) λu=>h3 b u hb
theorem lS{f:FuncId}{args:List Value}{H':Value->HP}{Φ:Value->hM}{K:Value->hM}(pl:Plain P f)(u:St w0 A (H::L) w)
  (hc:∀F,H.p w F->Calls P f args.toArray w (oV λv w'=>Φ v w'/\mF F (H' v) w w')) (k:∀v w',Φ v w'->St w0 A (H' v::L) w'->K v w'):wJ P f args w K:=by
 obtain⟨U,F,G,h1,h2,h3,h4,h5⟩:=u.oE
 exact dX pl (hc F h1) λv w' ⟨E,B⟩=>k v w' E (u.Nk h2 h3 h5 B)
end
section
variable {α:Type}[Flat α] {P:Program}{w w0:World}{A S:Nat->Prop}{L:List HP}{xs ys:List α}
theorem dy.one{v:Value}(h:dy S w v xs):qG v=true:=by obtain⟨a,c,rfl,_⟩:=h;rfl
theorem Ak{T E G R b n cap:Nat}{z:Option Nat}{src:Value}{cs:List Value}(ht:dV P T=some (E,lx α,G,z))(hb:nZ w b cs)(u:dy S w src ys)
  (J:n+ys.length<=cap) (Z:n*lx α+ys.length*lx α<=cs.length) :
  ∃w',(Builtin.append_ #[T,T] R [.slice (some ⟨b,0,none⟩) n cap,src].toArray).run P w=.ok (.slice (some ⟨b,0,none⟩) (n+ys.length) cap) w'/\nZ w' b (fS cs (n*lx α) (flat ys))/\fH (· = b) w w':=by
 obtain⟨O,B,hi,U,Y,_⟩:=eA ht
 have rd:=u
 obtain⟨V,W,rfl,US,Wl⟩:=rd
 obtain⟨w',h1,h2,h3⟩:=jw (P:=P) (o:=n*lx α) (flat ys) 0 cs w hb (by rw[cG];omega) uf
 refine⟨w',?_,bP,h3⟩
 have M:=rZ (α:=α) (P:=P) (sz:=lx α) rfl u
 have I:(⟨b,0,none⟩:Addr).add (n*lx α)=⟨b,n*lx α,none⟩:=by rw[fp,o6]
 simp[Builtin.append_,run_underlying O,sizeOf,typeInfo,hi,Builtin.lenOf,J,M,U,I,h1]
theorem KH{T E M R b o n c:Nat}{z:α}{cs:List Value}(ht:Rd P T E (lx α) M)(u:kj P E (ia z))(hb:nZ w b cs)(U:o+n*lx α<=cs.length) :
  ∃w',(Builtin.clear_ #[T] R [.slice (some ⟨b,o,none⟩) n c].toArray).run P w=.ok (.tuple #[]) w'/\nZ w' b (fS cs o (flat (oJ n z)))/\fH (· = b) w w':=by
 obtain⟨I,J,hi,V,O,_⟩:=eA ht
 unfold kj dB at u
 rw[hi]at u
 simp only[wm,nN.injEq]at u
 by_cases G:n=0
 .subst G
  refine⟨w,?_,by simpa[jh,fS]using hb,fH.refl _ _⟩
  simp[Builtin.clear_,run_underlying I]
 have B:(Builtin.zeroCells (ia z).cells n).toList=flat (oJ n z):=by
  rw[lG,<- qR]
  unfold Builtin.zeroCells madeCells
  simp[rj]
 obtain⟨w',h1,h2,h3⟩:=jw (P:=P) (o:=o) (flat (oJ n z)) 0 cs w hb (by rw[cG,List.length_replicate];omega) uf
 refine⟨w',?_,bP,h3⟩
 simp[Builtin.clear_,run_underlying I,zeroValue,typeInfo,hi,u,G,B,h1]
theorem Nl{T E sz I n cap:Nat}{z:Option Nat}{a:Option Addr}{i j k:Int}{K:Value->Prop}(ht:dV P T=some (E,sz,I,z))(O:0<=i)(h1:i<=j)(h2:j<=k)(h3:k<=cap)
  (B:∀v,K v):dW P (mA T (.slice a n cap) (some (hU i)) (some (hU j)) (some (hU k))) K:=by
 obtain⟨u,G,J,M,_⟩:=eA ht
 have hb:pr P (qh true n cap (some (hU i)) (some (hU j)) (some (hU k)))=some (i.toNat,j.toNat,k.toNat):=by
  simp only[qh,bT,eW,kO]
  rw[fV bP bP]
  simp only[kO]
  rw[fV bP bP]
  simp only[kO]
  rw[fV bP bP]
  rfl
 refine⟨.slice (if k.toNat=i.toNat then a else a.map (·.add (i.toNat*sz))) (j.toNat-i.toNat) (k.toNat-i.toNat),?_,B _⟩
 unfold mA
 rw[bT,bR u]
 simp only[kO]
 unfold Ix
 rw[bT,bR u]
 simp only[kO]
 rw[bT,hb]
 simp only[kO]
 rw[bT,km J,M]
 rfl
end
def jX(b:Nat)(o:Obj):HP where
 p w F:=w.heap[b]?=some o/\∀k,F k↔k=b
 loc w w' F h hh:=⟨(hh b ((h.2 b).2 rfl)).trans h.1,h.2⟩
 lt w F b' h hb:=cR
section
variable {P:Program}{w w0 w':World}{A:Nat->Prop}{L:List HP}
theorem St.obj{b:Nat}{o:Obj}(u:St w0 A (jX b o::L) w):w.heap[b]?=some o:=by
 obtain⟨F,h,_⟩:=u.head;exact h.1
theorem Ext.alloc(w:World)(o:Obj):Ext w (w.alloc o):=Ext.push w o
theorem St.alloc{o:Obj}(u:St w0 A L w):St w0 A (jX w.heap.size o::L) (w.alloc o):=
 u.new (F:=(· = w.heap.size)) (Ext.alloc w o) ⟨jQ w o,λ_=>Iff.rfl⟩ λb hb=>Nat.le_of_eq hb.symm
theorem fH.putObj(w:World)(b:Nat)(o:Obj):fH (· = b) w (w.putObj b o):=
 ⟨rfl,rfl,rfl,ew,λk _ u=>World.putObj_heap_other u⟩
theorem St.putObj{b:Nat}{o:Obj}(u:Obj)(E:St w0 A (jX b o::L) w):St w0 A (jX b u::L) (w.putObj b u):=
 E.mM λF B=>⟨F,⟨World.putObj_heap_same (pN B.1),B.2⟩,λ_ h=>.inl h,(fH.putObj w b u).mono λk G=>(B.2 k).2 G⟩
theorem gM.mono{fv:Value}{args:List Value}{K u:Value->hM}(h:gM P fv args w K)(B:∀v w,K v w->u v w):gM P fv args w u:=
 Ax.mono (P:=P) (k:=.Ih fv args) h B
theorem aH{α:Type}[Flat α]{T:TypeId}{b:Nat}{cs:List Value}{x:α}{K:hM}(E:St w0 A (bM b cs::L) w)(ht:RU P T (lx α))(B:BZ α=true)(u:cs.length=lx α)
  (k:∀w',St w0 A (bM b (iW x)::L) w'->K w'):Md P (zQ T (.pointer (some ⟨b,0,none⟩)) (ia x)) w K:=by
 rw[U5 B]
 refine yv E ht (rj x) (by rw[o6,u];exact oq _) (PU x) λw' h=>k w' ?_
 have:=ji [] cs [] (iW x) (by rw[rj,u])
 simp only[Dd,sk,oo]at this
 rwa [this]at h
theorem jk{α:Type}[Flat α]{S:Nat->Prop}{T:TypeId}{p:Value}{x:α}(ht:cH P T=some (BZ α,lx α))(h:At S w p x):(rB T p).run P w=.ok (ia x) w:=by
 obtain⟨v,h1,h2⟩:=(aE (K:=λv=>v=ia x) ht h rfl).ex
 grind
theorem gT{b:Bool}{A B:Prop}(h:b=true)(a:A):sN (.bool b) A B:=⟨⟨_,rfl,λ_=>a,λu=>cR⟩⟩
theorem fI{b:Bool}{A B:Prop}(h:b=false)(a:B):sN (.bool b) A B:=⟨⟨_,rfl,λu=>cR,λ_=>a⟩⟩
theorem yJ{D:Nat}{K:hM}(u:St w0 A (jX D (.deferred (some []))::L) w)(k:∀w',St w0 A L w'->K w'):ju [D] w K:=
 ⟨u.obj,k _ (u.putObj (.deferred none)).drop⟩
theorem yK(u:Loop)(h1:u.state=.ready)(h2:u.pending=none):({u with state:=if (none:Option Code).isNone=true then LoopState.ready else LoopState.done,pending:=none}:Loop)=u:=by
 cases u;grind
theorem re{gf np:Nat}{cap:List Value}{xs:List (List Value)}{round:List Value->World->(World->(hM)->Prop)->(Option Code->hM)->Prop}
  {N R:Nat->hM}{X:Nat->Nat->hM}(pl:Plain P gf) (hs:St w0 A L w) (I:Nat->List HP->Prop) (V:Code->List HP->Prop) (h0:I 0 L) (hnp:∀x∈xs,x.length=np)
  (hgf:∀(y:Value) (J:Nat->hM) (Jx:hM) (W:World),(∀k W,J k W->∃Y M,I k M/\St w0 A (Y::M) W)->(∀k W O,J k W->Ext W O->J k O)->J 0 W->
   (∀k args O,xs[k]?=some args->J k O->gM P y args O λv Z=>(v=.bool true/\J (k+1) Z)\/(v=.bool false/\Jx Z))->
   Calls P gf ([y]++cap).toArray W (oV λ_ O=>J xs.length O\/Jx O))
  (yq:∀k args (Y1 Y2:HP) (B:World->(hM)->Prop) (Kr:Option Code->hM) M W,xs[k]?=some args->I k M->
   (∀M E (kk:hM),St w0 A (Y1::M) E->(∀w2,St w0 A (Y2::M) w2->kk w2)->B E kk)->
   (∀M E,St w0 A (Y2::M) E->I (k+1) M->Kr none E)->(∀c M E,St w0 A (Y2::M) E->V c M->Kr (some c) E)->
   St w0 A (Y1::M) W->round args W B Kr)
  (Nm:∀D M W,I xs.length M->St w0 A (jX D (.deferred (some []))::M) W->N D W)
  (Wt:∀D M W,V .ret M->St w0 A (jX D (.deferred (some []))::M) W->R D W)
  (Nn:∀id D M W,V (.exit id) M->St w0 A (jX D (.deferred (some []))::M) W->X id D W)
  (GB:∀c M,V c M->(∃id,c=.exit id)\/c=.ret) :
  ud P (.func (.func gf) #[] cap.toArray) np w round (Wc N R X):=by
 refine⟨gf,cap.toArray,rfl,pl,λU gn xy hy=>?_⟩
 obtain⟨l,hl⟩:∃l,l=w.heap.size+1:=⟨_,rfl⟩
 obtain⟨D,hD⟩:∃D,D=w.heap.size:=⟨_,rfl⟩
 rw[<- hl]at hy |-
 rw[<- hD]
 let J:Nat->hM:=λk W=>∃M,I k M/\St w0 A (jX l (.loop U)::jX D (.deferred (some []))::M) W
 let Jx:hM:=λW=>∃c M,V c M/\St w0 A (jX l (.loop {U with state:=.done,pending:=some c})::jX D (.deferred (some []))::M) W
 have KI:J 0 ((w.alloc (.deferred (some []))).alloc (.loop U)):=by
  refine⟨L,h0,?_⟩
  have h1:=(hs.alloc (o:=.deferred (some []))).alloc (o:=.loop U)
  rw[show(w.alloc (.deferred (some []))).heap.size=l from by rw[hl];exact vG w _,<- hD]at h1
  exact h1
 have:=hgf (.func (.yield l) #[] #[]) J Jx _ (λk W ⟨M,G,u⟩=>⟨_,M,G,St.join u⟩) (λk W O ⟨M,G,u⟩ e=>⟨M,G,u.ext e⟩) KI ?_
 .have e:([Value.func (.yield l) #[] #[]]++cap).toArray = #[.func (.yield l) #[] #[]]++cap.toArray:=ew
  rw[e]at this
  refine this.mono λx O ⟨v,hx,hv⟩=>⟨v,hx,?_⟩
  rcases hv with⟨M,G,u⟩|⟨c,M,G,u⟩
  .refine⟨.ready,none,ew,?_,?_⟩
   .rw[<- gn,<- xy];exact u.obj
   exact Nm D M _ G (u.putObj _).drop
  refine⟨.done,some c,ew,u.obj,?_⟩
  rcases GB c M G with⟨id,rfl⟩|rfl
  .exact Nn id D M _ G (u.putObj _).drop
  exact Wt D M _ G (u.putObj _).drop
 intro k args W hk ⟨M,G,u⟩
 refine⟨.inr ⟨l,rfl,?_⟩⟩
 refine hy args W _ (hnp args (l0 hk)) u.obj ?_
 refine yq k args (sep (jX l (.loop U)) (jX D (.deferred (some [])))) (sep (jX l (.loop {U with state:=.busy})) (jX D (.deferred (some [])))) _ _ M W hk G
  (λM E kk h1 h2=>?_) (λM E h1 h2=>?_) (λc M E h1 h2=>?_) (St.join u)
 .have h1:=h1.split
  exact⟨h1.obj,h2 _ (h1.putObj _).join⟩
 .have h1:=h1.split
  refine⟨h1.obj,.inl ⟨rfl,M,h2,?_⟩⟩
  have:=h1.putObj (.loop {U with state:=if (none:Option Code).isNone=true then LoopState.ready else LoopState.done,pending:=none})
  rw[yK U gn xy]at this |-
  exact this
 have h1:=h1.split
 exact⟨h1.obj,.inr ⟨rfl,c,M,h2,h1.putObj _⟩⟩
end
section
variable {P:Program}{w w0:World}{A S:Nat->Prop}{L:List HP}
theorem sg{t:Array TypeId}{T:TypeId}{a b:Int}{K:Value->Prop}(k:K (hU (min a b))):dW P (Builtin.min_ t T [hU a,hU b].toArray) K:=by
 refine⟨_,?_,k⟩
 show pr P (Builtin.min2 (hU a) (hU b))=_
 unfold Builtin.min2
 by_cases h:b<a
 .simp[h,eW];omega
 simp[h,eW];omega
theorem xY{t:Array TypeId}{T:TypeId}{a b:Int}{K:Value->Prop}(k:K (hU (max a b))):dW P (Builtin.max_ t T [hU a,hU b].toArray) K:=by
 refine⟨_,?_,k⟩
 show pr P (Builtin.max2 (hU a) (hU b))=_
 unfold Builtin.max2
 by_cases h:a<b
 .simp[h,eW];omega
 simp[h,eW];omega
end
section
variable {P:Program}{α:Type}[Flat α] {A:Nat->Prop}{w0 w:World}{L:List HP}{xs:List α}
def GC(α:Type)[Flat α](v:Value)(i u:Nat)(p:Value):Prop:=∃b n c,v=.slice (some ⟨b,0,none⟩) n c/\p=.pointer (some ⟨b,i*lx α+u,none⟩)
theorem rf{T f u i:Nat}{v p:Value}{K:Value->Prop}(ht:vH P T f u)(h:AR α v i p)(k:∀q,GC α v i u q->K q):dW P (Instr.fieldAt T p f) K:=by
 obtain⟨b,n,c,h1,rfl⟩:=h
 exact aA ht (k _ ⟨b,n,c,h1,rfl⟩)
theorem uE{β:Type}[Flat β]{T:Nat}{v p:Value}{i u:Nat}{x:α}(y:β){K:Value->Prop}(O:St w0 A (bH v xs::L) w)(ht:cH P T=some (BZ β,lx β))(J:GC α v i u p)(G:xs[i]?=some x)
  (I:((iW x).drop u).take (lx β)=iW y) (k:K (ia y)):Aw P (rB T p) w K:=by
 obtain⟨F,h,_⟩:=O.head
 obtain⟨b,cap,rest,M,hb,V,_⟩:=mV h (jq.1 G).1
 obtain⟨U,n,c,E,rfl⟩:=J
 rw[M]at E
 simp only[sB.injEq,nN.injEq,Addr.mk.injEq]at E
 obtain⟨⟨rfl,_,_⟩,_,_⟩:=E
 refine aE (S:=λ_=>True) ht ⟨b,i*lx α+u,rfl,trivial,λj c B=>hb.cell ?_⟩ k
 rw[<- I,List.getElem?_take]at B
 split at B
 .rw[CS]at B
  have:=o7 G B
  rw[FF,qi (jq.1 this).1];exact this
 cases B
theorem No{β:Type}[Flat β]{T:Nat}{v p:Value}{i u:Nat}{K:hM}{x:α}(y:α)(z:β)(hs:St w0 A (bH v xs::L) w)(ht:cH P T=some (BZ β,lx β))(hp:GC α v i u p)(M:xs[i]?=some x)
  (hlen:u+lx β<=lx α) (hy:(iW x).take u++iW z++(iW x).drop (u+lx β)=iW y)
  (k:∀w',St w0 A (bH v (xs.set i y)::L) w'->K w'):Md P (zQ T p (ia z)) w K:=by
 obtain⟨U,F,U',g1,O,W,g4,Y⟩:=hs.oE
 have hi:=(jq.1 M).1
 obtain⟨b,cap,rest,Z,hb,V,G⟩:=mV g1 hi
 obtain⟨b',n,c,E,rfl⟩:=hp
 rw[Z]at E
 simp only[sB.injEq,nN.injEq,Addr.mk.injEq]at E
 obtain⟨⟨rfl,_,_⟩,_,_⟩:=E
 have Ky:=te M
 have Kz:(flat (xs.take i)).length=i*lx α:=by rw[cG,ml,xn bP]
 have FU:i*lx α+lx α<=(flat xs).length:=by
  rw[cG,<- Nat.succ_mul];exact yS _ hi
 have ZI:(iW x).length=lx α:=rj x
 have B:(iW z).length=lx β:=rj z
 obtain⟨w',h1,h2,h3⟩:=jw (P:=P) (o:=i*lx α+u) (iW z) 0 (flat xs++rest) w hb (by rw[B,kC];omega) (PU z)
 have Ac:fS (flat xs++rest) (i*lx α+u+0) (iW z)=flat (xs.set i y)++rest:=by
  have:=ji (flat (xs.take i)++(iW x).take u) (((iW x).drop u).take (lx β)) ((iW x).drop (u+lx β)++flat (xs.drop (i+1))++rest) (iW z)
   (by rw[B,ml,oD];omega)
  rw[kC,Kz,ml,xn bP]at this
  rw[Hp,DM y hi,Ky,<- hy]
  have e1:iW x=(iW x).take u++((iW x).drop u).take (lx β)++(iW x).drop (u+lx β):=by
   rw[<- qv,mv,ob,ob]
  have e2:flat (xs.take i)++iW x++flat (xs.drop (i+1))++rest=flat (xs.take i)++(iW x).take u++((iW x).drop u).take (lx β)++((iW x).drop (u+lx β)++flat (xs.drop (i+1))++rest):=by
   conv=>lhs;rw[e1]
   simp only[mv]
  rw[e2,this]
  simp only[mv]
 rw[Ac]at h2
 refine⟨w',?_,k w' ⟨hs.aF.trans (h3.mono λk J=>(G k).2 J) (λ_ h=>h) λb hb I=>(O b I).elim id λhh=>bP,U,F,U',?_,O,W,g4,
  Y.loc λb hb=>(h3.mono λk J=>(G k).2 J).bM b (Y.lt b hb) λI=>W b I hb⟩⟩
 .show(storeVar T ⟨b,i*lx α+u,none⟩ (ia z)).run P w=_
  unfold storeVar
  rw[dD (eM (iM ht).2 w),lG]
  simp only[List.size_toArray,rj,ne_eq,not_true_eq_false,if_false]
  exact h1
 refine .inr ⟨b,cap,rest,by rw[Dx];exact Z,h2,?_,G⟩
 rw[kC,cG]at V |-;rw[Dx];exact V
theorem IM{T:Nat}{b o:Nat}{cs:List Value}(x:α){K:Value->Prop}(ht:cH P T=some (BZ α,lx α))(hb:nZ w b cs)(B:(cs.drop o).take (lx α)=iW x)(k:K (ia x)) :
  Aw P (rB T (.pointer (some ⟨b,o,none⟩))) w K:=by
 refine aE (S:=λ_=>True) ht ⟨b,o,rfl,trivial,λj c u=>hb.cell ?_⟩ k
 grind
end
structure SV where
 a:Option Addr
 n:Nat
 cap:Nat
abbrev bZ:SV:=⟨none,0,0⟩
instance:Flat SV where
 agg:=false
 sz:=1
 enc s:=[.slice s.a s.n s.cap]
 val s:=.slice s.a s.n s.cap
 pos:=ea
 len _:=rfl
 one a v h:=by rw[ru.1 h];rfl
 lj h:=by cases h
 lF _ _:=rfl
section
variable {P:Program}{α:Type}[Flat α] {A:Nat->Prop}{w0 w:World}{L L':List HP}{v:Value}
def rows:List SV->List (List α)->HP
 | [],[]=>emp
 | s::ss,x::xs=>sep (bH (ia s) x) (rows ss xs)
 | _,_=>fact False emp
theorem D3:∀{u:List SV}{xs:List (List α)}{F:Nat->Prop},(rows u xs).p w F->u.length=xs.length
 | [],[],_,_=>rfl
 | s::u,x::xs,F,h=>by
  obtain⟨B,E,_,h2,_,_⟩:=h
  rw[oi,oi,D3 h2]
 | [],_::_,_,h=>h.1.elim
 | _::_,[],_,h=>h.1.elim
theorem AW:∀{E:List SV}{xs:List (List α)}{B u F:Nat->Prop}{s:SV}{x:List α},(rows E xs).p w B->(bH (ia s) x).p w u->(∀b,B b->¬ u b)->(∀b,F b↔B b\/u b)->(rows (E++[s]) (xs++[x])).p w F
 | [],[],B,u,F,s,x,h1,h2,_,h4=>by
  refine⟨u,B,h2,h1,λb hb O=>h1 b O,λb=>?_⟩
  grind
 | s'::E,x'::xs,B,u,F,s,x,h1,h2,h3,h4=>by
  obtain⟨U,I,J,M,V,G⟩:=h1
  refine⟨U,λb=>I b\/u b,J,AW M h2 (λb hb=>h3 b ((G b).2 (.inr hb))) (λb=>Iff.rfl),λb hb=>?_,λb=>?_⟩
  .grind
  grind
 | [],_::_,_,_,_,_,_,h,_,_,_=>h.1.elim
 | _::_,[],_,_,_,_,_,h,_,_,_=>h.1.elim
theorem St.uF{u:List SV}{xs:List (List α)}(B:St w0 A (rows u xs::L) w):u.length=xs.length:=by
 obtain⟨F,h,_⟩:=B.head;exact D3 h
theorem St.Sb(u:St w0 A L w):St w0 A (rows [] ([]:List (List α))::L) w:=
 u.new (Ext.refl w) (F:=bF) (λ_ h=>h) λ_ h=>h.elim
theorem St.yL{u:List SV}{xs:List (List α)}{s:SV}{x:List α}(B:St w0 A (rows u xs::bH (ia s) x::L) w):St w0 A (rows (u++[s]) (xs++[x])::L) w:=by
 have h:=St.join B
 refine h.mM λF E=>?_
 obtain⟨G,I,h1,h2,h3,h4⟩:=E
 exact⟨F,AW h1 h2 h3 h4,λb hb=>.inl hb,fH.refl _ _⟩
theorem St.gu{xs:List α}(u:St w0 A (bH v xs::L) w):∃s:SV,v=ia s:=by
 obtain⟨F,h,_⟩:=u.head
 rcases h with⟨rfl,_⟩|⟨b,cap,_,rfl,_⟩
 .exact⟨⟨none,0,0⟩,rfl⟩
 exact⟨⟨_,_,_⟩,rfl⟩
theorem dy.gu{S:Nat->Prop}{xs:List α}(h:dy S w v xs):∃s:SV,v=ia s:=by
 obtain⟨a,cap,rfl,_⟩:=h;exact⟨⟨_,_,_⟩,rfl⟩
def ahk(w:World)(v:Value)(xs:List (List α)):Prop:=
 ∃u:List SV,dy (λ_=>True) w v u/\u.length=xs.length/\∀(i:Nat) (s:SV) (x:List α),u[i]?=some s->xs[i]?=some x->dy (λ_=>True) w (ia s) x
end
section
variable {P:Program}
theorem hG{α:Type}[Flat α]{S:Nat->Prop}{w:World}{xs:List α}{T E B:Nat}{z:Option Nat}{v:Value}{i:Int}{K:Value->Prop}(ht:dV P T=some (E,lx α,B,z))(G:dy S w v xs)(I:0<=i)(h2:i<=xs.length)
  (k:∀u,(∀w',dy S w' v xs->dy S w' u (xs.take i.toNat))->K u):dW P (mA T v none (some (hU i)) none) K:=by
 obtain⟨a,cap,rfl,J,h3⟩:=G
 refine⟨_,qQ ht (ko (.inl ⟨rfl,rfl⟩) (.inr ⟨i,rfl,I,rfl⟩) (mr _) bP),k _ λw' h=>?_⟩
 have:=h.cut rfl (mr i.toNat) bP
 grind
end
open Go.ChangeShapes Go.WideShapes Go.ChangeAt Go.RowKit
structure RdT(P:Program)(t:TypeId)(α:Type)[Flat α](φ:α->Prop):Prop where
 cells:P.cellsOf t=lx α
 rd:∀{H:Type}(enc:TypeId×Value->H) (w:World) (base:Nat) (sp:Nat->Bool) (held:Bool) (fuel:Nat) (cs:List Value) (x:DataW H×List MemPlace),
  DataW.trod enc P w base sp held fuel t cs=some x->∃a:α,cs=iW a/\φ a
def wV(n:Int):Prop:=-9223372036854775808<=n/\n<=9223372036854775807
def Wu{P:Program}{t:TypeId}(ht:P.underlying t=some (.int .i64))(hc:P.cellsOf t=1):RdT P t Int wV:=
 ⟨hc,λenc w base u held fuel cs x h=>by
  obtain⟨n,h1,_,h3⟩:=DataW.trod_int ht h
  refine⟨n,h1,?_⟩
  simpa[Lit.wf,IntKind.min,IntKind.max,IntKind.signed,IntKind.bits,wV]using h3⟩
def GD{H:Type}{enc:TypeId×Value->H}{P:Program}{w:World}{base:Nat}{B:Nat->Bool}{held:Bool}{fuel:Nat}{t:TypeId}{u:Array Field}{cs:List Value}{x:DataW H×List MemPlace}
  (ht:P.underlying t=some (.struct u)) (h:DataW.trod enc P w base B held fuel t cs=some x) :
  cs.length=P.cellsOf t/\∃n,∀(i:Nat) (f:Field),u[i]?=some f->∃y,DataW.trod enc P w base B held n f.type ((cs.drop f.offset).take (P.cellsOf f.type))=some y:=by
 obtain⟨xs,n,_,_,E,J,I⟩:=DataW.trod_struct ht h
 refine⟨E,n,λi f hi=>?_⟩
 have G:i<xs.length:=by rw[J];exact(Array.getElem?_eq_some_iff.1 hi).1
 exact⟨xs[i],by rw[I i f hi,j0 G]⟩
def si{cs:List Value}{o s:Nat}{r:List Value}(h:(cs.drop o).take s=r):cs.drop o=r++cs.drop (o+s):=by
 rw[<- h,<- qv,ob]
theorem Sc{α:Type}{p:Nat->α->Prop}:∀n,(∀i,i<n->∃x,p i x)->∃xs:List α,xs.length=n/\∀i x,xs[i]?=some x->p i x:=by
 intro n
 induction n with
 | zero=>simp_all
 | succ n u=>
  intro h
  obtain⟨xs,h1,h2⟩:=u λi hi=>h i bP
  obtain⟨x,B⟩:=h n bP
  refine⟨xs++[x],by simp[h1],λi y E=>?_⟩
  grind
def GF{α:Type}[Flat α]{xs:List α}{j:Nat}{c:Value}(h:(flat xs)[j]?=some c):∃i r x,xs[i]?=some x/\(iW x)[r]?=some c/\j=i*lx α+r:=by
 have E:j<(flat xs).length:=(jq.1 h).1
 rw[cG]at E
 have G:0<lx α:=P0
 have hi:j / lx α<xs.length:=Nat.div_lt_of_lt_mul cR
 have u:j % lx α<lx α:=Nat.mod_lt _ G
 have I:j=j / lx α*lx α+j % lx α:=by rw[Nat.mul_comm];exact(Nat.div_add_mod _ _).symm
 have B:xs[j / lx α]?=some (xs[j / lx α]):=j0 hi
 have hc:(iW (xs[j / lx α]))[j % lx α]?=some ((iW (xs[j / lx α]))[j % lx α]'(by rw[rj];exact u)):=j0 _
 have:=o7 B hc
 grind
section
variable {H:Type}{enc:TypeId×Value->H}{P:Program}{w:World}{base:Nat}{held:Bool}
def Ce(P:Program)(ts:List TypeId):Bool:=ts.all λt=>P.readableRec t&&decide (t<P.types.size)
theorem sT(G:laidOutB P=true){W I:World}(hb:Below W.heap.size W I){J:Nat->Bool}:∀{ts:List TypeId}{vs:List Value}{B:List (DataW H)}{ps:List MemPlace},Ce P ts=true->(∀x∈ps,x.block<W.heap.size)->
  (∀x∈ps,J x.block=true)->DataW.TrodAll enc P W 0 (λ_=>true) true ts vs B ps->DataW.TrodAll enc P I 0 J true ts vs B ps
 | [],vs,B,ps,_,_,_,h=>by obtain⟨rfl,rfl,rfl⟩:=trodAll_nil h;exact trodAll_mk0
 | t::ts,vs,B,ps,hr,kI,Ky,h=>by
  obtain⟨v,M,d,O,a,b,rfl,rfl,rfl,h1,h2⟩:=trodAll_cons h
  have E:P.readableRec t=true/\t<P.types.size/\Ce P ts=true:=by
   grind[Ce]
  refine trodAll_cons_mk (WideElems.Trod_stays G E.1 E.2.1 h1 (λx u=>hb.same (kI x (List.mem_append_left _ u))) λx u=>Ky x (List.mem_append_left _ u)) ?_
  exact sT G hb E.2.2 (λx u=>kI x (List.mem_append_right _ u)) (λx u=>Ky x (List.mem_append_right _ u)) h2
theorem post_true{f:Func}{s:ChangeSpec}{apart fresh handsOn again:Bool}{W I:World}{args:Array Value}{u gs:List (DataW H)}{before:List MemPlace}{tb:TypeId}
  (UZ:s.vars=[]) (Z:∀u:List (DataW H),u.length=f.params.size->s.fn H u={results:=[.lit (.bool true)],args:=u}) (M:f.resultTypes = #[tb]) (V:P.underlying tb=some .bool)
  (hl:laidOutB P=true) (Wv:Ce P f.params.toList=true)
  (hW:DataW.Whole enc P f.params.toList s.vars apart W args.toList u gs before) (hb:Below W.heap.size W I) :
  s.post enc P f apart fresh handsOn again W args (.bool true) I:=by
 have U:=hW
 obtain⟨p,q,hA,hV,O,hz,hn⟩:=hW
 have kI:∀x∈before,x.block<W.heap.size:=U.lt
 rw[UZ]at hV
 obtain⟨rfl,rfl⟩:=trodVars_none hV
 simp only[oo]at O
 have hlen:u.length=f.params.size:=by
  have:=(trodAll_length hA).2
  omega
 have Y:=Z u hlen
 have U1:∀(b:Nat) (E:Nat->Bool) (hd:Bool),DataW.TrodAll enc P I b E hd f.resultTypes.toList ((sy true).resultList f.resultTypes.size) (s.fn H (u++[])).results []:=λb E hd=>by
  rw[oo,Y,M]
  exact trodAll_mk1 (shut_bool V true)
 have B:∀E:Nat->Bool,(∀p∈before,E p.block=true)->DataW.TrodAll enc P I 0 E true f.params.toList args.toList (s.fn H (u++[])).args before:=λE Ky=>by
  rw[oo,Y]
  rw[O]at kI Ky |-
  exact sT hl hb Wv kI Ky hA
 have Np:∀E:Nat->Bool,DataW.TrodVars enc P I E s.vars (s.fn H (u++[])).vars []:=λE=>by
  rw[oo,Y,UZ];rfl
 have ql:∀(j:Nat) (t:TypeId) (r:Value),f.resultTypes[j]?=some t->((sy true).resultList f.resultTypes.size)[j]?=some r->P1 P I .any 0 t r:=
  ok_one M rfl (okWide_bool_mk V true)
 have hold:∀p∈before,(λb=>decide (b<W.heap.size)) p.block=true:=λp hp=>cR
 refine⟨u,[],before,[],before,[],U,U1 _ _ _,B _ hold,Np _,World.keptBut_mono (λp hp=>⟨hp,?_⟩) (hb.frame (·∈before)),λ_=>?_⟩
 .grind
 refine⟨ql,_,_,([]++before)++[],⟨[]++before,[],trodAll_append (B _ λ_ _=>rfl) (U1 _ _ _),Np _,rfl,?_,?_⟩,?_⟩
 .intro b G hp
  have J:MemPlace.cell b G∈before:=cR
  rw[hb.frozen (p:=⟨b,G,none⟩) (kI _ J)]
  exact hz b G J
 .grind
 grind
end
section
variable {P:Program}{α:Type}[Flat α]
def abi(P:Program)(T n E:Nat):Prop:=P.underlying T=some (.array n E)/\pr P (sizeOf E)=some 1
theorem kR{T E n b o:Nat}{i:Int}{K:Value->Prop}(h:abi P T n E)(u:0<=i)(h1:i<n)(k:K (.pointer (some ⟨b,o+i.toNat,none⟩))) :
  dW P (z7 T (.pointer (some ⟨b,o,none⟩)) (hU i)) K:=by
 refine⟨_,?_,k⟩
 unfold z7
 have G:pr P (underlying T)=some (.array n E):=bR h.1
 have B:pr P (Instr.sureAddr (.pointer (some (⟨b,o,none⟩:Addr))))=some ⟨b,o,none⟩:=rfl
 simp only[asIntOf,bT,G,kO,eW,B]
 simp only[fi (show 0<=i/\i<(n:Int)from⟨u,h1⟩),bT,h.2,kO,eW,fp,Nat.mul_one]
end
def IN{α:Type}[Flat α]{P:Program}{w w0:World}{A:Nat->Prop}{L:List HP}{xs:List α}{T:Nat}{v p:Value}{i:Nat}{x:α}(J:St w0 A (bH v xs::L) w)(ht:cH P T=some (BZ α,lx α))(E:AR α v i p)(B:xs[i]?=some x) :
  (rB T p).run P w=.ok (ia x) w:=by
 obtain⟨F,h,_⟩:=J.head
 obtain⟨b,cap,rest,I,hb,O,_⟩:=mV h (jq.1 B).1
 obtain⟨M,n,c,u,rfl⟩:=E
 rw[I]at u
 simp only[sB.injEq,nN.injEq,Addr.mk.injEq]at u
 obtain⟨⟨rfl,_,_⟩,_,_⟩:=u
 refine jk (S:=λ_=>True) ht ⟨b,i*lx α,rfl,trivial,λj c G=>hb.cell ?_⟩
 have:=o7 B G
 rw[qi (jq.1 this).1];exact this
class Deep (α:Type) (σ:outParam Type) [Flat σ] where
 dr:World->σ->α->Prop
 ext:∀{w w':World}{s:σ}{x:α},dr w s x->Ext w w'->dr w' s x
def DL{α σ:Type}[Flat σ][Deep α σ](w:World)(v:Value)(xs:List α):Prop:=
 ∃ts:List σ,dy (λ_=>True) w v ts/\ts.length=xs.length/\∀(i:Nat) (t:σ) (x:α),ts[i]?=some t->xs[i]?=some x->Deep.dr w t x
section
variable {P:Program}{α σ:Type}[Flat σ] [Deep α σ] {w w' w0:World}{v:Value}{A:Nat->Prop}{L:List HP}
theorem DL.ext{xs:List α}(h:DL w v xs)(e:Ext w w'):DL w' v xs:=by
 obtain⟨ts,h1,h2,h3⟩:=h;exact⟨ts,h1.ext e,h2,λi t x a b=>Deep.ext (h3 i t x a b) e⟩
theorem DL.nil(w:World):DL w (.slice none 0 0) ([]:List α):=⟨[],dy.nil _ _,rfl,λi t x h=>by simp at h⟩
theorem DL.gu{xs:List α}(h:DL w v xs):∃s:SV,v=ia s:=by obtain⟨_,h,_⟩:=h;exact h.gu
instance:Deep (List α) SV where
 dr w s xs:=DL w (ia s) xs
 ext h e:=DL.ext h e
def eI(Φ:hM):HP where
 p w F:=(∀w':World,(∀b,F b->w'.heap[b]?=w.heap[b]?)->Φ w')/\∀b,F b->b<w.heap.size
 loc w w' F h hh:=⟨λu h2=>h.1 u λb hb=>(h2 b hb).trans (hh b hb),λb hb=>by
  grind⟩
 lt w F b h hb:=h.2 b hb
theorem eI.now{Φ:hM}{F:Nat->Prop}(h:(eI Φ).p w F):Φ w:=h.1 w λ_ _=>rfl
theorem St.eI{Φ:hM}(u:St w0 A (eI Φ::L) w):Φ w:=by obtain⟨F,h,_⟩:=u.head;exact eI.now h
theorem St.dH{Φ Ψ:hM}(B:St w0 A (Fw.eI Φ::L) w)(E:∀w,Φ w->Ψ w):St w0 A (Fw.eI Ψ::L) w:=
 B.mM λF u=>⟨F,⟨λw' h=>E _ (u.1 w' h),u.2⟩,λb hb=>.inl hb,fH.refl _ _⟩
theorem St.ic{Φ Ψ:hM}(B:St w0 A (Fw.eI Φ::Fw.eI Ψ::L) w):St w0 A (Fw.eI (λw=>Φ w/\Ψ w)::L) w:=by
 have h:=St.join B
 refine h.mM λF E=>?_
 obtain⟨G,I,h1,h2,h3,h4⟩:=E
 refine⟨F,⟨λw' u=>⟨h1.1 w' λb hb=>u b ((h4 b).2 (.inl hb)),h2.1 w' λb hb=>u b ((h4 b).2 (.inr hb))⟩,λb hb=>?_⟩,λb hb=>.inl hb,fH.refl _ _⟩
 rcases(h4 b).1 hb with hb|hb
 .exact h1.2 b hb
 exact h2.2 b hb
theorem St.fK{Φ:hM}(u:St w0 A L w)(h:∀w,Φ w):St w0 A (Fw.eI Φ::L) w:=
 u.new (Ext.refl w) (F:=bF) ⟨λw' _=>h w',λb hb=>hb.elim⟩ λ_ h=>h.elim
theorem St.freeze{xs:List σ}(B:St w0 A (bH v xs::L) w):St w0 A (Fw.eI (λw=>dy (λ_=>True) w v xs)::L) w:=
 B.mM λF u=>⟨F,⟨λw' h=>(bH.rd ((bH v xs).loc _ _ _ u h)).mono λ_ _=>trivial,λb hb=>(bH v xs).lt _ _ _ u hb⟩,λb hb=>.inl hb,fH.refl _ _⟩
theorem St.mW{b:Nat}{cs:List Value}(B:St w0 A (bM b cs::L) w):St w0 A (Fw.eI (λw=>nZ w b cs)::L) w:=
 B.mM λF u=>⟨F,⟨λw' h=>((bM b cs).loc _ _ _ u h).1,λk E=>(bM b cs).lt _ _ _ u E⟩,λb hb=>.inl hb,fH.refl _ _⟩
def gU(ts:List σ)(xs:List α)(w:World):Prop:=ts.length=xs.length/\∀(i:Nat) (t:σ) (x:α),ts[i]?=some t->xs[i]?=some x->Deep.dr w t x
theorem gU.nil:gU ([]:List σ) ([]:List α) w:=⟨rfl,λi t x h=>by simp at h⟩
theorem gU.snoc{ts:List σ}{xs:List α}{t:σ}{x:α}(h:gU ts xs w)(ht:Deep.dr w t x):gU (ts++[t]) (xs++[x]) w:=by
 grind[gU]
theorem gU.append{ts us:List σ}{xs ys:List α}(h:gU ts xs w)(g:gU us ys w):gU (ts++us) (xs++ys) w:=by
 grind[gU]
theorem gU.ext{ts:List σ}{xs:List α}(h:gU ts xs w)(e:Ext w w'):gU ts xs w':=⟨h.1,λi t x a b=>Deep.ext (h.2 i t x a b) e⟩
theorem DL.of{ts:List σ}{xs:List α}(h:dy (λ_=>True) w v ts)(g:gU ts xs w):DL w v xs:=⟨ts,h,g.1,g.2⟩
theorem DL.open{xs:List α}(h:DL w v xs):∃ts:List σ,dy (λ_=>True) w v ts/\gU ts xs w:=by obtain⟨ts,h1,h2,h3⟩:=h;exact⟨ts,h1,h2,h3⟩
theorem gU.take{ts:List σ}{xs:List α}(h:gU ts xs w)(k:Nat):gU (ts.take k) (xs.take k) w:=by
 grind[gU]
theorem gU.drop{ts:List σ}{xs:List α}(h:gU ts xs w)(k:Nat):gU (ts.drop k) (xs.drop k) w:=by
 grind[gU]
end
section
variable {α:Type}[Flat α]
abbrev fP:Deep α α:=⟨λ_ s x=>s=x,λh _=>h⟩
theorem AX[D:Deep α α](u:∀w s x,D.dr w s x↔s=x){w:World}{ts xs:List α}:gU ts xs w↔ts=xs:=by
 constructor
 .rintro⟨h1,h2⟩
  refine u3 λi=>?_
  grind
 grind[gU]
end
instance:Deep Int Int:=fP
instance:Deep Bool Bool:=fP
instance:Deep ByteArray ByteArray:=fP
structure RdW(P:Program)(w:World)(t:TypeId)(α:Type)[Flat α](φ:α->Prop):Prop where
 cells:P.cellsOf t=lx α
 rd:∀{H:Type}(enc:TypeId×Value->H) (base:Nat) (held:Bool) (fuel:Nat) (cs:List Value) (x:DataW H×List MemPlace),
  DataW.trod enc P w base (λ_=>true) held fuel t cs=some x->∃a:α,cs=iW a/\φ a
def Sd(P:Program)(t:TypeId)(α:Type){σ:Type}[Flat σ][Deep α σ](φ:α->Prop):Prop:=∀w,RdW P w t σ (λs=>∃a:α,Deep.dr w s a/\φ a)
def RdT.deep{P:Program}{t:TypeId}{α:Type}[Flat α][D:Deep α α]{φ:α->Prop}(h:RdT P t α φ)(B:∀w (x:α),D.dr w x x):Sd P t α φ:=
 λw=>⟨h.cells,λenc base held fuel cs x u=>by
  obtain⟨a,h1,h2⟩:=h.rd enc w base _ held fuel cs x u;exact⟨a,h1,a,B w a,h2⟩⟩
section
variable {H:Type}{enc:TypeId×Value->H}{P:Program}{w:World}{base:Nat}{held:Bool}
theorem Nq{α:Type}[Flat α]{φ:α->Prop}{t e:TypeId}{fuel:Nat}{cs:List Value}{x:DataW H×List MemPlace}(ht:P.underlying t=some (.slice e))(M:RdW P w e α φ)
  (h:DataW.trod enc P w base (λ_=>true) held fuel t cs=some x):∃v,cs=[v]/\∃xs:List α,dy (λb=>b<w.heap.size) w v xs/\∀x∈xs,φ x:=by
 rcases DataW.trod_slice ht h with⟨rfl,_⟩|⟨a,len,cap,elems,rest,n,_,rfl,_,hb,hl,hm,hlen,Y,Z,_⟩
 .exact⟨_,rfl,[],dy.nil _ _,ew⟩
 refine⟨_,rfl,?_⟩
 have get:∀i,i<len->∃x:α,φ x/\w.cells? base (a.add (i*P.cellsOf e)) (P.cellsOf e)=some (iW x):=by
  intro i hi
  have h1:=Y i hi
  rw[j0 bP]at h1
  obtain⟨cs',h2,h3⟩:=F1.1 h1
  obtain⟨x,rfl,u⟩:=M.rd enc base held n cs' _ h3
  grind
 obtain⟨xs,ZI,E⟩:=Sc len get
 have O:=M.cells
 have U:0<lx α:=P0
 have first:∀(c:Nat) (cs':List Value),w.cells? base (a.add (c*P.cellsOf e)) (P.cellsOf e)=some cs'->c=0->a.spot=none:=by
  intro c cs' h1 B
  subst B
  have:=P2 h1
  have h2:=this.2.2 0 bP
  rw[Nat.zero_mul]at h2
  have h3:w.cell? a=cs'[0]?:=by simpa[Addr.add]using h2
  rw[j0 bP]at h3
  unfold World.cell? at h3
  split at h3
  .simp_all
  .cases h3
 refine⟨xs,⟨some a,cap,by rw[ZI],bP,?_⟩,λx u=>?_⟩
 .by_cases Af:cap=0
  .simp_all
  right
  have G:a.spot=none:=by
   by_cases B:0<len
   .grind
   .obtain⟨h1,h2⟩:=Z rfl
    have h3:=h2 0 bP
    rw[j0 bP]at h3
    obtain⟨cs',h4,_⟩:=F1.1 h3
    grind
  have I:∀j c,(flat xs)[j]?=some c->Cell w a.block (a.off+j) c:=by
   intro j c W
   obtain⟨i,r,x,u,J,rfl⟩:=GF W
   have h1:=(P2 (E i x u).2).2.2 r (by rw[O];have:=(jq.1 J).1;rwa [rj]at this)
   rw[J,O]at h1
   obtain⟨b,o,s⟩:=a
   simp only at G
   subst G
   unfold Cell
   rw[<- h1,fp,fp,FF]
  refine⟨a.block,a.off,by obtain⟨b,o,s⟩:=a;grind,λV=>?_,I⟩
  obtain⟨y,ys,rfl⟩:=List.exists_cons_of_ne_nil V
  have B:(flat (y::ys))[0]?=some ((iW y)[0]'(by rw[rj];exact U)):=by
   rw[iw,qi (by rw[rj];exact U),j0]
  exact(I 0 _ B).lt
 obtain⟨i,hi⟩:=List.getElem?_of_mem u
 grind
theorem Nr{α σ:Type}[Flat σ][Deep α σ]{φ:α->Prop}:∀(ts:List σ),(∀s∈ts,∃a:α,Deep.dr w s a/\φ a)->∃xs:List α,gU ts xs w/\∀x∈xs,φ x
 | [],_=>⟨[],gU.nil,ew⟩
 | t::ts,h=>by
  obtain⟨a,h1,h2⟩:=h t ew
  obtain⟨xs,h3,h4⟩:=Nr ts λs u=>h s (o5 _ u)
  refine⟨a::xs,?_,λx B=>?_⟩
  .grind[gU]
  grind
theorem Sd.slice{α σ:Type}[Flat σ][Deep α σ]{φ:α->Prop}{t e:TypeId}(ht:P.underlying t=some (.slice e))(hc:P.cellsOf t=1)(E:Sd P e α φ):Sd P t (List α) (λxs=>∀x∈xs,φ x):=
 λw=>⟨hc,λenc base held fuel cs x B=>by
  obtain⟨v,rfl,ts,h1,h2⟩:=Nq ht (E w) B
  obtain⟨xs,h3,h4⟩:=Nr ts h2
  have u:dy (λ_=>True) w v ts:=h1.mono λ_ _=>trivial
  obtain⟨s,rfl⟩:=u.gu
  exact⟨s,rfl,xs,DL.of u h3,h4⟩⟩
theorem open_dst{α σ:Type}[Flat σ][Deep α σ]{φ:α->Prop}{t:TypeId}{I:Array Field}{r:Reach}{B:Nat}{v:Value}{d:DataW H}{ps:List MemPlace}(ht:P.underlying t=some (.struct I))(M:BZ σ=true)
  (G:Sd P t α φ) (u:P1 P w r B t v) (E:DataW.Trod enc P w base (λ_=>true) held t v d ps):∃(s:σ) (x:α),v=ia s/\Deep.dr w s x/\φ x:=by
 obtain⟨fuel,J⟩:=E
 obtain⟨s,O,x,h1,h2⟩:=(G w).rd enc base held fuel _ _ J
 unfold P1 at u
 rw[ht]at u
 obtain⟨cs,rfl,_⟩:=u
 refine⟨s,x,?_,h1,h2⟩
 rw[U5 M,<- O]
 simp[Value.cells]
end
def xz(x:Int):Int:=IntKind.i64.wrap x
theorem Cf{x:Int}(h : -9223372036854775808<=x/\x<=9223372036854775807):xz x=x:=IntWalk.i64_in _ h
section
variable {P:Program}{T:Nat}{cx cy:Bool}{a b:Int}{K:Value->Prop}
theorem uG(k:K (hU (xz (a+b)))):dW P (g9 .add T cx cy (hU a) (hU b)) K:=⟨_,rfl,k⟩
theorem D5(k:K (hU (xz (a-b)))):dW P (g9 .sub T cx cy (hU a) (hU b)) K:=⟨_,rfl,k⟩
theorem D6(k:K (hU (xz (a*b)))):dW P (g9 .mul T cx cy (hU a) (hU b)) K:=⟨_,rfl,k⟩
theorem Ns(k:K (hU (xz (0-a)))):dW P (Op.unary .neg (hU a)) K:=⟨_,rfl,k⟩
theorem Nt(h:b≠0)(k:K (hU (xz (a.tdiv b)))):dW P (g9 .quo T cx cy (hU a) (hU b)) K:=by
 refine⟨_,?_,k⟩
 show pr P (Op.intDiv .quo .i64 a b)=_
 unfold Op.intDiv
 rw[ez h];rfl
theorem Nu(h:b≠0)(k:K (hU (a.tmod b))):dW P (g9 .rem T cx cy (hU a) (hU b)) K:=by
 refine⟨_,?_,k⟩
 show pr P (Op.intDiv .rem .i64 a b)=_
 unfold Op.intDiv
 rw[ez h];rfl
end
def ni{α:Type}[Flat α]{P:Program}{w w0:World}{A:Nat->Prop}{L:List HP}{xs:List α}{T E W:Nat}{z:Option Nat}{v:Value}{i:Int}{K:Value->Prop}(ht:dV P T=some (E,lx α,W,z))
  (M:St w0 A (bH v xs::L) w) (Z:0<=i) (h1:i<=xs.length) (k:∀J,St w0 A (bH J (xs.take i.toNat)::L) w->K J):dW P (mA T v none (some (hU i)) none) K:=by
 obtain⟨a,cap,u,xt,_⟩:=M.eU
 refine⟨_,(by rw[u];exact qQ ht (ko (.inl ⟨rfl,rfl⟩) (.inr ⟨i,rfl,Z,rfl⟩) (mr _) bP)),k _ ?_⟩
 refine M.mM λF G=>?_
 rcases G with⟨B,O,V⟩|⟨b,U,rest,Y,hb,I,G⟩
 .rw[B]at u
  subst O
  simp only[sB.injEq]at u
  obtain⟨rfl,_,rfl⟩:=u
  have hi:i.toNat=0:=by simp at h1;omega
  refine⟨F,.inl ⟨?_,ew,V⟩,λb hb=>.inl hb,fH.refl _ _⟩
  rw[hi];rfl
 rw[Y]at u
 simp only[sB.injEq]at u
 obtain⟨rfl,_,rfl⟩:=u
 refine⟨F,.inr ⟨b,U,flat (xs.drop i.toNat)++rest,?_,?_,?_,G⟩,λb hb=>.inl hb,fH.refl _ _⟩
 .have AI:(xs.take i.toNat).length=i.toNat:=by rw[ml];omega
  rw[AI]
  simp[fp]
 .rw[<- mv,<- ft,ob];exact hb
 exact⟨xE (by rw[ml];omega) I.1,by rw[<- mv,<- ft,ob];exact I.2⟩
section
variable {P:Program}{w w':World}{v:Value}
theorem DL.flat{α:Type}[Flat α][D:Deep α α]{xs:List α}(h:DL w v xs)(u:∀w s x,D.dr w s x↔s=x:=by intros;exact Iff.rfl):dy (λ_=>True) w v xs:=by
 obtain⟨ts,h1,h2⟩:=h.open
 rw[(AX u).1 h2]at h1;exact h1
theorem DL.eO{α:Type}[Flat α][D:Deep α α]{xs:List α}(h:dy (λ_=>True) w v xs)(u:∀w s x,D.dr w s x↔s=x:=by intros;exact Iff.rfl):DL w v xs:=DL.of h ((AX u).2 rfl)
theorem Nv{α:Type}[Flat α]{S:Nat->Prop}{xs:List α}{T E G:Nat}{z:Option Nat}{lo hi:Option Value}{l h:Nat}{K:Value->Prop}(ht:dV P T=some (E,lx α,G,z))(J:dy S w v xs)
  (B:lo=none/\l=0\/∃i:Int,lo=some (hU i)/\0<=i/\l=i.toNat) (I:hi=none/\h=xs.length\/∃i:Int,hi=some (hU i)/\0<=i/\h=i.toNat)
  (h1:l<=h) (h2:h<=xs.length) (k:∀u,(∀w',dy S w' v xs->dy S w' u ((xs.take h).drop l))->K u):dW P (mA T v lo hi none) K:=by
 obtain⟨a,cap,rfl,O,h3⟩:=J
 exact⟨_,qQ ht (ko B I h1 bP),k _ λw' M=>M.cut rfl h1 h2⟩
theorem vK{α:Type}[Flat α]{S:Nat->Prop}{xs:List α}{T E I:Nat}{z:Option Nat}{i j:Int}{K:Value->Prop}(ht:dV P T=some (E,lx α,I,z))(B:dy S w v xs)
  (G:0<=i) (h1:i<=j) (h2:j<=xs.length) (k:∀u,(∀w',dy S w' v xs->dy S w' u ((xs.take j.toNat).drop i.toNat))->K u):dW P (mA T v (some (hU i)) (some (hU j)) none) K:=
 Nv ht B (.inr ⟨i,rfl,G,rfl⟩) (.inr ⟨j,rfl,bP,rfl⟩) bP bP k
theorem DL.cut{α σ:Type}[Flat σ][Deep α σ]{xs:List α}{ts:List σ}{u:Value}{l h:Nat}(G:∀w',dy (λ_=>True) w' v ts->dy (λ_=>True) w' u ((ts.take h).drop l))(B:dy (λ_=>True) w v ts)(E:gU ts xs w):DL w u ((xs.take h).drop l):=
 DL.of (G w B) ((E.take h).drop l)
theorem yM{a b:ByteArray}:(a.toList == b.toList)=decide (a=b):=by
 rw[ByteArray.toList_eq,ByteArray.toList_eq,Bool.eq_iff_iff,beq_iff_eq,decide_eq_true_eq]
 constructor
 .intro h
  obtain⟨a⟩:=a
  simp_all
 grind
theorem fE{T:Nat}{cx cy:Bool}{a b:ByteArray}{K:Value->Prop}(k:K (.bool (decide (a=b)))):dW P (g9 .eql T cx cy (.string a) (.string b)) K:=by
 rw[<- yM]at k
 exact⟨_,rfl,k⟩
theorem vL{T:Nat}{cx cy:Bool}{a b:ByteArray}{K:Value->Prop}(k:K (.bool (decide (¬ a=b)))):dW P (g9 .neq T cx cy (.string a) (.string b)) K:=by
 refine⟨_,rfl,?_⟩
 have:(!(a.toList == b.toList))=decide (¬ a=b):=by rw[yM];grind
 grind
end
def fO(s:ByteArray):List UInt8:=s.data.toList
theorem dY(s:ByteArray):(fO s).length=s.size:=by simp_all[fO]
theorem IP(s:ByteArray)(i:Nat):(fO s)[i]?=if h:i<s.size then some (s[i]'h)else none:=by
 unfold fO
 by_cases h:i<s.size
 .rw[dif_pos h,Array.getElem?_toList]
  exact Array.getElem?_eq_getElem h
 simp_all
section
variable {P:Program}{T R:Nat}{cx cy:Bool}{a b:Int}{K:Value->Prop}
theorem eR{s:ByteArray}(u:P.underlying T=some .string)(k:K (hU (s.size:Int))):dW P (Builtin.len_ #[T] R [tO s].toArray) K:=by
 refine⟨_,?_,k⟩
 show pr P (do
  match <- underlying T,tO s with
  | .string,.string s=>pure (goInt s.size)
  | .array n _,_=>pure (goInt n)
  | .pointer arr,_=>
   let .array n _ <- underlying arr|stuck "len: pointer to array expected"
   pure (goInt n)
  | .slice _,.slice _ n _=>pure (goInt n)
  | .map _ _,.map none|.chan _ _,.chan none=>pure (goInt 0)
  | .map _ _,.map (some r)=>
   let .map entries _ <- getObj r|stuck "len: map expected"
   pure (goInt entries.size)
  | .chan _ _,.chan (some r)=>
   let .chan _ buf _ _ _ timer <- getObj r|stuck "len: channel expected"
   pure (goInt (if timer then 0 else buf.size))
  | _, _ => stuck "len: string, array, pointer to array, slice, map or channel expected")=_
 rw[bT,bR u];rfl
theorem gV{s:ByteArray}{i:Int}{e:UInt8}(B:P.underlying T=some .string)(E:0<=i)(u:(fO s)[i.toNat]?=some e)(k:K (.int .u8 (e.toNat:Int))):dW P (oK T (.string s) (hU i)) K:=by
 refine⟨_,?_,k⟩
 rw[IP]at u
 have hi:i.toNat<s.size:=by
  grind
 rw[dif_pos hi]at u
 have h3:(if 0<=i then s[i.toNat]? else none)=some e:=cR
 unfold oK
 simp only[asIntOf,bT,bR B,kO,eW,h3]
theorem GG{s:ByteArray}{i:Int}(u:P.underlying T=some .string)(B:0<=i)(h1:i<=s.size)(k:K (.string (s.extract 0 i.toNat))):dW P (mA T (.string s) none (some (hU i)) none) K:=by
 refine⟨_,?_,k⟩
 unfold mA
 rw[bT,bR u]
 simp only[kO]
 unfold Ix
 rw[bT,bR u]
 simp only[kO]
 rw[ez ea]
 have hb:pr P (qh false s.size s.size none (some (hU i)) none)=some (0,i.toNat,s.size):=by
  simp only[qh,bT,eW,kO]
  rw[fV B h1];rfl
 rw[bT,hb];rfl
theorem D7{s:ByteArray}{i j:Int}(u:P.underlying T=some .string)(B:0<=i)(E:i<=j)(h1:j<=s.size)(k:K (.string (s.extract i.toNat j.toNat))):dW P (mA T (.string s) (some (hU i)) (some (hU j)) none) K:=by
 refine⟨_,?_,k⟩
 unfold mA
 rw[bT,bR u]
 simp only[kO]
 unfold Ix
 rw[bT,bR u]
 simp only[kO]
 rw[ez ea]
 have hb:pr P (qh false s.size s.size (some (hU i)) (some (hU j)) none)=some (i.toNat,j.toNat,s.size):=by
  simp only[qh,bT,eW,kO]
  rw[fV bP h1];simp only[kO];rw[fV B bP];rfl
 rw[bT,hb];rfl
theorem uH(k:K (.bool (decide (a<=b)))):dW P (g9 .leq T cx cy (.int .u8 a) (.int .u8 b)) K:=⟨_,rfl,k⟩
theorem uI(k:K (.bool (decide (b<=a)))):dW P (g9 .geq T cx cy (.int .u8 a) (.int .u8 b)) K:=⟨_,rfl,k⟩
theorem kS(k:K (.bool (decide (a=b)))):dW P (g9 .eql T cx cy (.int .u8 a) (.int .u8 b)) K:=⟨_,rfl,k⟩
theorem Nw(k:K (.bool (decide (a≠b)))):dW P (g9 .neq T cx cy (.int .u8 a) (.int .u8 b)) K:=
 ⟨_,(show pr P (g9 .neq T cx cy (.int .u8 a) (.int .u8 b))=some (.bool (decide (a≠b)))from by
  show some (sy (a != b))=_
  grind),k⟩
theorem Nx{t:Array TypeId}{R:TypeId}{c:Int}(k:K (hU (max (max a b) c))):dW P (Builtin.max_ t R [hU a,hU b,hU c].toArray) K:=by
 refine⟨_,?_,k⟩
 show pr P (do Builtin.max2 (<- Builtin.max2 (hU a) (hU b)) (hU c))=_
 have h:∀x y:Int,pr P (Builtin.max2 (hU x) (hU y))=some (hU (max x y)):=by
  intro x y
  unfold Builtin.max2
  by_cases h:x<y
  .simp[h,eW];omega
  .simp[h,eW];omega
 rw[bT,h]
 exact h _ _
end
def jY{α σ:Type}[Flat σ][Deep α σ](v:Value)(xs:List α):HP:=oW λts:List σ=>sep (bH v ts) (eI (gU ts xs))
section
variable {P:Program}{α σ:Type}[Flat σ] [D:Deep α σ] {w w' w0:World}{v src:Value}{A:Nat->Prop}{L:List HP}{xs ys:List α}
theorem St.Ny(u:St w0 A (jY v xs::L) w):∃ts:List σ,St w0 A (bH v ts::Fw.eI (gU ts xs)::L) w:=by
 obtain⟨ts,h⟩:=u.dS;exact⟨ts,h.split⟩
theorem St.IQ{ts:List σ}(u:St w0 A (bH v ts::Fw.eI (gU ts xs)::L) w):St w0 A (jY v xs::L) w:=
 St.dO (H:=λts:List σ=>sep (bH v ts) (Fw.eI (gU ts xs))) ts (St.join u)
theorem St.abj{ts:List σ}(u:St w0 A (bH v ts::Fw.eI (gU ts xs)::L) w):ts.length=xs.length:=u.p1.eI.1
theorem St.GH(u:St w0 A L w):St w0 A (jY (.slice none 0 0) ([]:List α)::L) w:=
 St.IQ (ts:=[]) ((u.fK λ_=>gU.nil).eF)
theorem St.ahm{s:σ}{x:α}(u:St w0 A (bH v [s]::Fw.eI (λw=>Deep.dr w s x)::L) w):St w0 A (jY v [x]::L) w:=by
 refine St.IQ (ts:=[s]) ?_
 refine(u.p1.dH (Ψ:=gU [s] [x]) λw h=>?_).p1
 exact(gU.nil (w:=w)).snoc h
theorem St.ahn{ts us:List σ}(u:St w0 A (bH v (ts++us)::Fw.eI (gU ts xs)::Fw.eI (gU us ys)::L) w):St w0 A (jY v (xs++ys)::L) w:=by
 have h1:=(u.p1:St w0 A (Fw.eI (gU ts xs)::bH v (ts++us)::Fw.eI (gU us ys)::L) w)
 have h2:=h1.p2.p1
 refine St.IQ (ts:=ts++us) ?_
 exact(h2.ic.dH (Ψ:=gU (ts++us) (xs++ys)) λw h=>h.1.append h.2).p1
theorem St.sj(u:St w0 A (jY v xs::L) w):St w0 A (Fw.eI (λw=>DL w v xs)::L) w:=by
 obtain⟨ts,h⟩:=u.Ny
 exact h.freeze.ic.dH λw h=>DL.of h.1 h.2
theorem St.dl(u:St w0 A (jY v xs::L) w):DL w v xs:=u.sj.eI
theorem St.D8(u:St w0 A (jY v xs::L) w):∃s:SV,v=ia s:=u.dl.gu
theorem St.enc{b:Nat}{cs cs':List Value}(u:St w0 A (bM b cs::L) w)(h:cs=cs'):St w0 A (bM b cs'::L) w:=h▸u
theorem kq{T E u:Nat}{s:σ}{x:α}{K:Value->hM}(B:St w0 A (Fw.eI (λw=>Deep.dr w s x)::L) w)(ht:Rd P T E (lx σ) u)(G:lx σ<=64)(k:∀v w',St w0 A (jY v [x]::L) w'->K v w') :
  lW P (Instr.buildSlice T 1 [(0,ia s)].toArray) w K:=
 bK [s] B ht rfl rfl (by simp;omega) λv w' h=>k v w' h.ahm
theorem kr{T E B R:Nat}{K:Value->hM}(I:St w0 A (jY v xs::jY src ys::L) w)(ht:Rd P T E (lx σ) B)
  (O:xs.length+ys.length<=1073741824) (G:B<=8192) (k:∀u w',St w0 A (jY u (xs++ys)::L) w'->K u w'):lW P (Builtin.append_ #[T,T] R [v,src].toArray) w K:=by
 obtain⟨us,h1⟩:=I.p1.Ny
 obtain⟨ts,h2⟩:=h1.p2.Ny
 have M:=h1.abj
 have J:=h2.abj
 refine cO h2 ht h2.p2.eU bP G λu w' h=>k u w' ?_
 exact h.p2.drop.ahn
end
instance:Flat UInt8 where
 agg:=false
 sz:=1
 enc b:=[.int .u8 b.toNat]
 val b:=.int .u8 b.toNat
 pos:=ea
 len _:=rfl
 one a v h:=by rw[ru.1 h];rfl
 lj h:=by cases h
 lF _ _:=rfl
instance:Deep UInt8 UInt8:=fP
def oa{α σ:Type}[Flat σ][Deep α σ](P:Program)(w:World)(f:Value)(φ:α->Prop)(g:α->Bool):Prop:=∃B first cap,f=.func (.func B) (Hw first) (Hw cap)/\Plain P B/\
 ∀(s:σ) (x:α) u,Ext w u->Deep.dr u s x->φ x->Calls P B (first++[ia s]++cap).toArray u (oV λv E=>v=.bool (g x)/\Ext u E)
theorem oa.ext{α σ:Type}[Flat σ][Deep α σ]{P:Program}{w w':World}{f:Value}{φ:α->Prop}{g:α->Bool}(h:oa P w f φ g)(e:Ext w w'):oa P w' f φ g:=by
 obtain⟨B,first,cap,h1,h2,h3⟩:=h;exact⟨B,first,cap,h1,h2,λs x u E=>h3 s x u (e.trans E)⟩
def KJ{α:Type}[Flat α]{P:Program}{S:Nat->Prop}{w:World}{T E:TypeId}{cx cy:Bool}{v:Value}{xs:List α}{K:Value->Prop}(h:P.underlying T=some (.slice E))(B:dy S w v xs)(k:∀p:Bool,(p=true->xs=[])->K (.bool p)) :
  dW P (g9 .eql T cx cy v (.slice none 0 0)) K:=by
 obtain⟨a,cap,rfl,_,h3⟩:=B
 have u:pr P (Op.equal T (.slice a xs.length cap) (.slice none 0 0))=some a.isNone:=by
  show pr P (Op.equalIn 10000 T (.slice a xs.length cap) (.slice none 0 0))=_
  unfold Op.equalIn
  rw[bT,bR h]
  cases a<;>rfl
 refine⟨_,?_,k a.isNone λG=>?_⟩
 .show pr P (do pure (sy (<- Op.equal T (.slice a xs.length cap) (.slice none 0 0))))=_
  rw[ue,u];rfl
 grind
structure Ptr where
 b:Nat
deriving DecidableEq
instance:Flat Ptr where
 agg:=false
 sz:=1
 enc p:=[.pointer (some ⟨p.b,0,none⟩)]
 val p:=.pointer (some ⟨p.b,0,none⟩)
 pos:=ea
 len _:=rfl
 one a v h:=by rw[ru.1 h];rfl
 lj h:=by cases h
 lF _ _:=rfl
instance:Deep Ptr Ptr:=fP
def gp{α κ:Type}(H:κ->α->HP):List κ->List α->HP
 | [],[]=>emp
 | p::ps,x::xs=>sep (H p x) (gp H ps xs)
 | _,_=>fact False emp
section
variable {P:Program}{α κ:Type}{H:κ->α->HP}{A:Nat->Prop}{w0 w:World}{L:List HP}
theorem vM:∀{ps:List κ}{xs:List α}{F:Nat->Prop},(gp H ps xs).p w F->ps.length=xs.length
 | [],[],_,_=>rfl
 | s::ss,x::xs,F,h=>by
  obtain⟨u,B,_,h2,_,_⟩:=h
  rw[oi,oi,vM h2]
 | [],_::_,_,h=>h.1.elim
 | _::_,[],_,h=>h.1.elim
theorem St.jl{ps:List κ}{xs:List α}(u:St w0 A (gp H ps xs::L) w):ps.length=xs.length:=by
 obtain⟨F,h,_⟩:=u.head;exact vM h
theorem St.D9(u:St w0 A L w):St w0 A (gp H [] []::L) w:=u.new (Ext.refl w) (F:=bF) (λ_ h=>h) λ_ h=>h.elim
def mH(H:κ->α->HP)(ps:List κ)(xs:List α)(i:Nat):HP:=sep (gp H (ps.take i) (xs.take i)) (gp H (ps.drop (i+1)) (xs.drop (i+1)))
theorem wW:∀{ps:List κ}{xs:List α}{i:Nat}{p:κ}{x:α}{F:Nat->Prop},(gp H ps xs).p w F->ps[i]?=some p->xs[i]?=some x->(sep (H p x) (mH H ps xs i)).p w F
 | Y::ps,x'::xs,0,p,x,F,h,u,hx=>by
  rw[List.getElem?_cons_zero]at u hx
  obtain rfl:=nN.inj u
  obtain rfl:=nN.inj hx
  obtain⟨B,E,h1,h2,h3,h4⟩:=h
  exact⟨B,E,h1,⟨bF,E,λ_ h=>h,h2,λ_ h=>h.elim,λb=>⟨.inr,λh=>h.elim (λh=>h.elim) id⟩⟩,h3,h4⟩
 | Y::ps,x'::xs,i+1,p,x,F,h,u,hx=>by
  rw[GR]at u hx
  obtain⟨B,E,h1,h2,h3,h4⟩:=h
  obtain⟨M,I,U,⟨G,V,J,Z,k3,W⟩,g3,O⟩:=wW h2 u hx
  refine⟨M,λb=>B b\/I b,U,⟨λb=>B b\/G b,V,⟨B,G,h1,J,λb hb hk=>h3 b hb ((O b).2 (.inr ((W b).2 (.inl hk)))),λb=>Iff.rfl⟩,Z,?_,?_⟩,?_,?_⟩
  .grind
  .grind
  .grind
  grind
 | [],[],_,_,_,_,_,u,_=>by simp at u
 | [],_::_,_,_,_,_,h,_,_=>h.1.elim
 | _::_,[],_,_,_,_,h,_,_=>h.1.elim
theorem vN:∀{ps:List κ}{xs:List α}{i:Nat}{p:κ}{x:α}{F:Nat->Prop},i<xs.length->ps.length=xs.length->(sep (H p x) (mH H ps xs i)).p w F->(gp H (ps.set i p) (xs.set i x)).p w F
 | p'::ps,x'::xs,0,p,x,F,_,_,h=>by
  obtain⟨E,J,h1,⟨W,u,U,O,I,M⟩,h3,h4⟩:=h
  refine⟨E,J,h1,?_,h3,h4⟩
  have e:J=u:=funext λb=>propext ((M b).trans ⟨λh=>h.elim (λh=>(U b h).elim) id,.inr⟩)
  grind
 | p'::ps,x'::xs,i+1,p,x,F,hi,hl,h=>by
  obtain⟨G,G2,Z,⟨W,u,⟨E,B,V,Y,f3,f4⟩,O,I,M⟩,g3,g4⟩:=h
  refine⟨E,λb=>G b\/(B b\/u b),V,vN cR cR ⟨G,λb=>B b\/u b,Z,⟨B,u,Y,O,λb hb hk=>I b ((f4 b).2 (.inr hb)) hk,λb=>Iff.rfl⟩,?_,λb=>Iff.rfl⟩,?_,?_⟩
  .grind
  .grind
  grind
 | [],_::_,_,_,_,_,_,hl,_=>by simp at hl
 | _,[],_,_,_,_,hi,_,_=>by simp at hi
theorem mO{β:Type}:∀{ps:List β}{i:Nat}{p:β},ps[i]?=some p->ps.set i p=ps
 | [],_,_,h=>by simp at h
 | y::ps,0,p,h=>by grind
 | y::ps,i+1,p,h=>by rw[GR]at h;rw[List.set_cons_succ,mO h]
theorem GI{ps:List κ}{xs:List α}{i:Nat}{p:κ}{x:α}{F:Nat->Prop}(hi:i<xs.length)(B:ps.length=xs.length)(u:ps[i]?=some p)(h:(sep (H p x) (mH H ps xs i)).p w F):(gp H ps (xs.set i x)).p w F:=by
 have:=vN hi B h;rwa [mO u]at this
theorem AY:∀{ps u:List κ}{xs ys:List α}{F:Nat->Prop},(sep (gp H ps xs) (gp H u ys)).p w F->(gp H (ps++u) (xs++ys)).p w F
 | [],u,[],ys,F,⟨E,B,h1,h2,_,h4⟩=>by
  have:F=B:=funext λb=>propext ((h4 b).trans ⟨λh=>h.elim (λh=>(h1 b h).elim) id,.inr⟩)
  grind
 | p::ps,u,x::xs,ys,F,⟨E,B,⟨G1,G2,g1,g2,g3,g4⟩,h2,h3,h4⟩=>by
  refine⟨G1,λb=>G2 b\/B b,g1,AY ⟨G2,B,g2,h2,λb hb=>h3 b ((g4 b).2 (.inr hb)),λb=>Iff.rfl⟩,λb hb=>?_,λb=>cR⟩
  grind
 | [],_,_::_,_,_,⟨_,_,h,_⟩=>h.1.elim
 | _::_,_,[],_,_,⟨_,_,h,_⟩=>h.1.elim
theorem St.focus{ps:List κ}{xs:List α}{i:Nat}{p:κ}{x:α}(B:St w0 A (gp H ps xs::L) w)(E:ps[i]?=some p)(u:xs[i]?=some x):St w0 A (H p x::mH H ps xs i::L) w:=
 (B.mM (H':=sep (H p x) (mH H ps xs i)) λF G=>⟨F,wW G E u,λb hb=>.inl hb,fH.refl _ _⟩).split
theorem St.IS{ps:List κ}{xs:List α}{i:Nat}{p:κ}{x:α}(B:St w0 A (H p x::mH H ps xs i::L) w)(hi:i<xs.length)(G:ps.length=xs.length)(E:ps[i]?=some p):St w0 A (gp H ps (xs.set i x)::L) w:=
 (St.join B).mM λF u=>⟨F,GI hi G E u,λb hb=>.inl hb,fH.refl _ _⟩
theorem yN:∀{ps:List κ}{xs:List α}{p:κ}{x:α}{B u F:Nat->Prop},(gp H ps xs).p w B->(H p x).p w u->(∀b,B b->¬ u b)->(∀b,F b↔B b\/u b)->(gp H (ps++[p]) (xs++[x])).p w F
 | [],[],p,x,B,u,F,h1,h2,_,h4=>⟨u,B,h2,h1,λb _ M=>h1 b M,λb=>cR⟩
 | s'::ss,x'::xs,p,x,B,u,F,h1,h2,h3,h4=>by
  obtain⟨O,G,I,J,U,E⟩:=h1
  refine⟨O,λb=>G b\/u b,I,yN J h2 (λb hb=>h3 b ((E b).2 (.inr hb))) (λb=>Iff.rfl),λb hb=>?_,λb=>?_⟩
  .grind
  grind
 | [],_::_,_,_,_,_,_,h,_,_,_=>h.1.elim
 | _::_,[],_,_,_,_,_,h,_,_,_=>h.1.elim
theorem St.Ea{ps:List κ}{xs:List α}{p:κ}{x:α}(u:St w0 A (gp H ps xs::H p x::L) w):St w0 A (gp H (ps++[p]) (xs++[x])::L) w:=by
 refine(St.join u).mM λF B=>?_
 obtain⟨E,G,h1,h2,h3,h4⟩:=B
 exact⟨F,yN h1 h2 h3 h4,λb hb=>.inl hb,fH.refl _ _⟩
theorem St.yO{ps:List κ}{xs:List α}{i:Nat}{p:κ}{x:α}(B:St w0 A (H p x::mH H ps xs i::L) w)(hi:i<xs.length)(E:ps.length=xs.length):St w0 A (gp H (ps.set i p) (xs.set i x)::L) w:=
 (St.join B).mM λF u=>⟨F,vN hi E u,λb hb=>.inl hb,fH.refl _ _⟩
theorem St.KK{ps:List κ}{xs:List α}{i:Nat}(u:St w0 A (mH H ps xs i::L) w):St w0 A (gp H (ps.eraseIdx i) (xs.eraseIdx i)::L) w:=by
 rw[wz,wz]
 exact u.mM λF B=>⟨F,AY B,λb hb=>.inl hb,fH.refl _ _⟩
theorem St.abk{ps:List κ}{xs:List α}{i:Nat}{p:κ}{x:α}{Φ:hM}(B:St w0 A (gp H ps xs::L) w)(E:ps[i]?=some p)(u:xs[i]?=some x)(h:∀{w F},(H p x).p w F->Φ w):Φ w:=by
 obtain⟨F,G,_⟩:=(B.focus E u).head;exact h G
end
end Go.Fw
namespace Go.Proofs.YtdncbeepkacgbaaGreatDoor
open Go.Fw
@[ext] structure bO where
 name:ByteArray
 n:Int
 at_:Int
deriving DecidableEq
instance:Flat bO where
 agg:=true
 sz:=3
 enc e:=[.string e.name,hU e.n,hU e.at_]
 val e:=.agg [.string e.name,hU e.n,hU e.at_].toArray
 pos:=ea
 len _:=rfl
 one a v h:=by simp at h;rcases h with rfl|rfl|rfl<;>rfl
 lj _ _:=rfl
 lF h:=by cases h
instance:Deep bO bO:=fP
@[ext] structure bI where
 op:Int
 n:Int
 name:ByteArray
 at_:Int
deriving DecidableEq
instance:Flat bI where
 agg:=true
 sz:=4
 enc e:=[hU e.op,hU e.n,.string e.name,hU e.at_]
 val e:=.agg [hU e.op,hU e.n,.string e.name,hU e.at_].toArray
 pos:=ea
 len _:=rfl
 one a v h:=by simp at h;rcases h with rfl|rfl|rfl|rfl<;>rfl
 lj _ _:=rfl
 lF h:=by cases h
instance:Deep bI bI:=fP
structure bE where
 kind:Int
 eQ:ByteArray
 name:ByteArray
 e:(List bI)
 f:(List bI)
 n:Int
 body:Int
 eH:Int
 at_:Int
deriving DecidableEq
structure aW where
 kind:Int
 eQ:ByteArray
 name:ByteArray
 e:SV
 f:SV
 n:Int
 body:Int
 eH:Int
 at_:Int
instance:Flat aW where
 agg:=true
 sz:=9
 enc e:=[hU e.kind,.string e.eQ,.string e.name,.slice e.e.a e.e.n e.e.cap,.slice e.f.a e.f.n e.f.cap,hU e.n,hU e.body,hU e.eH,hU e.at_]
 val e:=.agg [hU e.kind,.string e.eQ,.string e.name,.slice e.e.a e.e.n e.e.cap,.slice e.f.a e.f.n e.f.cap,hU e.n,hU e.body,hU e.eH,hU e.at_].toArray
 pos:=ea
 len _:=rfl
 one a v h:=by simp at h;rcases h with rfl|rfl|rfl|rfl|rfl|rfl|rfl|rfl|rfl<;>rfl
 lj _ _:=rfl
 lF h:=by cases h
instance:Deep bE aW where
 dr w s x:=∃(u:SV) (B:SV),s=(⟨x.kind,x.eQ,x.name,u,B,x.n,x.body,x.eH,x.at_⟩:aW)/\DL w (ia u) x.e/\DL w (ia B) x.f
 ext h e:=by
  obtain⟨I,G,rfl,E,h1⟩:=h
  exact⟨I,G,rfl,E.ext e,h1.ext e⟩
structure bW where
 name:ByteArray
 dJ:(List ByteArray)
 body:(List bE)
 at_:Int
deriving DecidableEq
structure bU where
 name:ByteArray
 dJ:SV
 body:SV
 at_:Int
instance:Flat bU where
 agg:=true
 sz:=4
 enc e:=[.string e.name,.slice e.dJ.a e.dJ.n e.dJ.cap,.slice e.body.a e.body.n e.body.cap,hU e.at_]
 val e:=.agg [.string e.name,.slice e.dJ.a e.dJ.n e.dJ.cap,.slice e.body.a e.body.n e.body.cap,hU e.at_].toArray
 pos:=ea
 len _:=rfl
 one a v h:=by simp at h;rcases h with rfl|rfl|rfl|rfl<;>rfl
 lj _ _:=rfl
 lF h:=by cases h
instance:Deep bW bU where
 dr w s x:=∃(u:SV) (B:SV),s=(⟨x.name,u,B,x.at_⟩:bU)/\DL w (ia u) x.dJ/\DL w (ia B) x.body
 ext h e:=by
  obtain⟨I,G,rfl,E,h1⟩:=h
  exact⟨I,G,rfl,E.ext e,h1.ext e⟩
structure gI where
 e:(List bI)
 at_:Int
deriving DecidableEq
structure iq where
 e:SV
 at_:Int
instance:Flat iq where
 agg:=true
 sz:=2
 enc e:=[.slice e.e.a e.e.n e.e.cap,hU e.at_]
 val e:=.agg [.slice e.e.a e.e.n e.e.cap,hU e.at_].toArray
 pos:=ea
 len _:=rfl
 one a v h:=by simp at h;rcases h with rfl|rfl<;>rfl
 lj _ _:=rfl
 lF h:=by cases h
instance:Deep gI iq where
 dr w s x:=∃(u:SV),s=(⟨u,x.at_⟩:iq)/\DL w (ia u) x.e
 ext h e:=by
  obtain⟨E,rfl,B⟩:=h
  exact⟨E,rfl,B.ext e⟩
structure bQ where
 lines:(List (List bO))
 iN:(List bO)
 eX:(List bO)
 threads:(List bW)
 recover:(List bW)
 ef:(List gI)
deriving DecidableEq
structure cA where
 lines:SV
 iN:SV
 eX:SV
 threads:SV
 recover:SV
 ef:SV
instance:Flat cA where
 agg:=true
 sz:=6
 enc e:=[.slice e.lines.a e.lines.n e.lines.cap,.slice e.iN.a e.iN.n e.iN.cap,.slice e.eX.a e.eX.n e.eX.cap,.slice e.threads.a e.threads.n e.threads.cap,.slice e.recover.a e.recover.n e.recover.cap,.slice e.ef.a e.ef.n e.ef.cap]
 val e:=.agg [.slice e.lines.a e.lines.n e.lines.cap,.slice e.iN.a e.iN.n e.iN.cap,.slice e.eX.a e.eX.n e.eX.cap,.slice e.threads.a e.threads.n e.threads.cap,.slice e.recover.a e.recover.n e.recover.cap,.slice e.ef.a e.ef.n e.ef.cap].toArray
 pos:=ea
 len _:=rfl
 one a v h:=by simp at h;rcases h with rfl|rfl|rfl|rfl|rfl|rfl<;>rfl
 lj _ _:=rfl
 lF h:=by cases h
instance:Deep bQ cA where
 dr w s x:=∃(E:SV) (u:SV) (G:SV) (B:SV) (I:SV) (J:SV),s=(⟨E,u,G,B,I,J⟩:cA)/\DL w (ia E) x.lines/\DL w (ia u) x.iN/\DL w (ia G) x.eX/\DL w (ia B) x.threads/\DL w (ia I) x.recover/\DL w (ia J) x.ef
 ext h e:=by
  obtain⟨V,W,Y,M,U,Z,rfl,O,h1,h2,h3,h4,h5⟩:=h
  exact⟨V,W,Y,M,U,Z,rfl,O.ext e,h1.ext e,h2.ext e,h3.ext e,h4.ext e,h5.ext e⟩
@[ext] structure mP where
 kind:Int
 n:Int
deriving DecidableEq
instance:Flat mP where
 agg:=true
 sz:=2
 enc e:=[hU e.kind,hU e.n]
 val e:=.agg [hU e.kind,hU e.n].toArray
 pos:=ea
 len _:=rfl
 one a v h:=by simp at h;rcases h with rfl|rfl<;>rfl
 lj _ _:=rfl
 lF h:=by cases h
instance:Deep mP mP:=fP
structure yP where
 kind:Int
 a:Int
 b:Int
 e:(List mP)
 f:(List mP)
 to:Int
deriving DecidableEq
structure abl where
 dJ:Int
 counts:Int
 l:(List yP)
deriving DecidableEq
structure aT where
 kind:Int
 t:Int
 i:Int
 cut:(List Int)
deriving DecidableEq
structure aQ where
 kind:Int
 t:Int
 i:Int
 cut:SV
instance:Flat aQ where
 agg:=true
 sz:=4
 enc e:=[hU e.kind,hU e.t,hU e.i,.slice e.cut.a e.cut.n e.cut.cap]
 val e:=.agg [hU e.kind,hU e.t,hU e.i,.slice e.cut.a e.cut.n e.cut.cap].toArray
 pos:=ea
 len _:=rfl
 one a v h:=by simp at h;rcases h with rfl|rfl|rfl|rfl<;>rfl
 lj _ _:=rfl
 lF h:=by cases h
instance:Deep aT aQ where
 dr w s x:=∃(u:SV),s=(⟨x.kind,x.t,x.i,u⟩:aQ)/\DL w (ia u) x.cut
 ext h e:=by
  obtain⟨E,rfl,B⟩:=h
  exact⟨E,rfl,B.ext e⟩
def Se(x:aT):Prop:=wV x.kind/\wV x.t/\wV x.i/\(∀y∈x.cut,wV y)
@[ext] structure cQ where
 kind:Int
 t:Int
 a:Int
 n:Int
 m:Int
deriving DecidableEq
instance:Flat cQ where
 agg:=true
 sz:=5
 enc e:=[hU e.kind,hU e.t,hU e.a,hU e.n,hU e.m]
 val e:=.agg [hU e.kind,hU e.t,hU e.a,hU e.n,hU e.m].toArray
 pos:=ea
 len _:=rfl
 one a v h:=by simp at h;rcases h with rfl|rfl|rfl|rfl|rfl<;>rfl
 lj _ _:=rfl
 lF h:=by cases h
instance:Deep cQ cQ:=fP
@[ext] structure jz where
 cL:Int
 fault:Int
 t:Int
 done:Bool
 stuck:Bool
deriving DecidableEq
instance:Flat jz where
 agg:=true
 sz:=5
 enc e:=[hU e.cL,hU e.fault,hU e.t,.bool e.done,.bool e.stuck]
 val e:=.agg [hU e.cL,hU e.fault,hU e.t,.bool e.done,.bool e.stuck].toArray
 pos:=ea
 len _:=rfl
 one a v h:=by simp at h;rcases h with rfl|rfl|rfl|rfl|rfl<;>rfl
 lj _ _:=rfl
 lF h:=by cases h
instance:Deep jz jz:=fP
@[ext] structure bG where
 kind:Int
 line:Int
 cell:Int
 n:Int
deriving DecidableEq
instance:Flat bG where
 agg:=true
 sz:=4
 enc e:=[hU e.kind,hU e.line,hU e.cell,hU e.n]
 val e:=.agg [hU e.kind,hU e.line,hU e.cell,hU e.n].toArray
 pos:=ea
 len _:=rfl
 one a v h:=by simp at h;rcases h with rfl|rfl|rfl|rfl<;>rfl
 lj _ _:=rfl
 lF h:=by cases h
instance:Deep bG bG:=fP
@[ext] structure aX where
 kind:Int
 text:ByteArray
 n:Int
 at_:Int
deriving DecidableEq
instance:Flat aX where
 agg:=true
 sz:=4
 enc e:=[hU e.kind,.string e.text,hU e.n,hU e.at_]
 val e:=.agg [hU e.kind,.string e.text,hU e.n,hU e.at_].toArray
 pos:=ea
 len _:=rfl
 one a v h:=by simp at h;rcases h with rfl|rfl|rfl|rfl<;>rfl
 lj _ _:=rfl
 lF h:=by cases h
instance:Deep aX aX:=fP
@[ext] structure jm where
 cell:Int
 n:Int
deriving DecidableEq
instance:Flat jm where
 agg:=true
 sz:=2
 enc e:=[hU e.cell,hU e.n]
 val e:=.agg [hU e.cell,hU e.n].toArray
 pos:=ea
 len _:=rfl
 one a v h:=by simp at h;rcases h with rfl|rfl<;>rfl
 lj _ _:=rfl
 lF h:=by cases h
instance:Deep jm jm:=fP
def Ed(p:Bool):Int:=if p then 1 else 0
def U8(a b:Int):Int:=xz (a.tdiv b)
def vO(op a:Int):Int:=if op=3 then xz (0-a)else if op=4 then Ed (decide (a=0))else 0
def Ee(op:Int):Int:=if op=3\/op=4 then 0 else 1
def oH(op a b:Int):Int:=
 if op=5 then xz (a+b)else if op=6 then xz (a-b)else if op=7 then xz (a*b)else if op=8 then U8 a b else if op=9 then a.tmod b
 else if op=10 then Ed (decide (a=b))else if op=11 then Ed (decide (¬ a=b))else if op=12 then Ed (decide (a<b))else if op=13 then Ed (decide (a<=b))
 else if op=14 then Ed (decide (¬ a=0)&&decide (¬ b=0))else if op=15 then Ed (decide (¬ a=0)||decide (¬ b=0))else 0
def ma(op b:Int):Int:=if op<5\/15<op then 1 else if (op=8\/op=9)/\b=0 then 12 else 0
def mc(op a b:Int):Int:=if ma op b=0 then oH op a b else 0
def C380(p:Bool)(w:World):CR 380 [.bool p] w (λv w'=>v=hU (Ed p)/\Ext w w'):=by
 have B:=St.start w;refine eT Tryz.func380 ?_;refine bD (λu=>?_) (λu=>?_)
 .rw[u];exact⟨rfl,B.aF⟩
 rw[u];exact⟨rfl,B.aF⟩
def C255(p:Bool)(w:World):CR 255 [.bool p] w (λv w'=>v=hU (Ed p)/\Ext w w'):=by
 have B:=St.start w;refine eT Tryz.func255 ?_;refine bD (λu=>?_) (λu=>?_)
 .rw[u];exact⟨rfl,B.aF⟩
 rw[u];exact⟨rfl,B.aF⟩
def C256(a:Int)(w:World):CR 256 [hU a] w (λv w'=>v=.bool (decide (¬ a=0))/\Ext w w'):=by
 have u:=St.start w;refine eT Tryz.func256 ?_;refine cC ?_;exact⟨rfl,u.aF⟩
def C375(op a:Int)(w:World):CR 375 [hU op,hU a] w (λv w'=>v=.tuple #[hU (vO op a),hU (Ee op)]/\Ext w w'):=by
 have B:=St.start w;refine RS _ _ _ _ ?_;unfold S375;refine aG (aC (λu=>?_) λu=>aG (aC (λE=>?_) λE=>?_))
 .refine D5 ?_;unfold vO Ee
  first|(rw[fi u,fi (.inl u)];exact⟨rfl,B.aF⟩)|(rw[ez u,fi E,fi (.inr E)];exact⟨rfl,B.aF⟩)|(rw[ez u,ez E,ez bP];exact⟨rfl,B.aF⟩)
 .refine aG (aR aa8 B (C380 _ _) λ_ G B=>?_);unfold vO Ee
  first|(rw[fi u,fi (.inl u)];exact⟨rfl,B.aF⟩)|(rw[ez u,fi E,fi (.inr E)];exact⟨rfl,B.aF⟩)|(rw[ez u,ez E,ez bP];exact⟨rfl,B.aF⟩)
 unfold vO Ee
 first|(rw[fi u,fi (.inl u)];exact⟨rfl,B.aF⟩)|(rw[ez u,fi E,fi (.inr E)];exact⟨rfl,B.aF⟩)|(rw[ez u,ez E,ez bP];exact⟨rfl,B.aF⟩)
def C151(op a:Int)(w:World):CR 151 [hU op,hU a] w (λv w'=>v=.tuple #[hU (vO op a),hU (Ee op)]/\Ext w w'):=by
 have B:=St.start w;refine eT Tryz.func151 ?_;refine aG (aC (λu=>?_) λu=>aG (aC (λE=>?_) λE=>?_))
 .refine Ns ?_;unfold vO Ee
  first|(rw[fi u,fi (.inl u)];exact⟨rfl,B.aF⟩)|(rw[ez u,fi E,fi (.inr E)];exact⟨gj (λp=>KP #[hU (Ed p),hU 0]) ew,B.aF⟩)|(rw[ez u,ez E,ez bP];exact⟨rfl,B.aF⟩)
 .refine aR DC B (C256 _ _) (λ_ G B=>?_)
  first|refine DF ?_|refine bJ ?_
  refine aR MR B (C255 _ _) (λ_ G B=>?_);unfold vO Ee
  first|(rw[fi u,fi (.inl u)];exact⟨rfl,B.aF⟩)|(rw[ez u,fi E,fi (.inr E)];exact⟨gj (λp=>KP #[hU (Ed p),hU 0]) ew,B.aF⟩)|(rw[ez u,ez E,ez bP];exact⟨rfl,B.aF⟩)
 unfold vO Ee
 first|(rw[fi u,fi (.inl u)];exact⟨rfl,B.aF⟩)|(rw[ez u,fi E,fi (.inr E)];exact⟨gj (λp=>KP #[hU (Ed p),hU 0]) ew,B.aF⟩)|(rw[ez u,ez E,ez bP];exact⟨rfl,B.aF⟩)
def nj:abi hH 348 16 165:=⟨by kernel_rfl,by kernel_rfl⟩
def abn(b1 b2 b3 b4 u b6:Nat)(w:World):Prop:=
 Cell w b1 0 (.func (.func 318) #[] #[])/\Cell w b2 0 (.func (.func 319) #[] #[])/\Cell w b3 0 (.func (.func 320) #[] #[])/\Cell w b4 0 (.func (.func 321) #[] #[])/\Cell w u 0 (.func (.func 322) #[] #[])/\Cell w b6 0 (.func (.func 323) #[] #[])
def opsV(b1 b2 b3 b4 u b6:Nat):Value:=
 .agg [.nilFunc,.nilFunc,.nilFunc,.nilFunc,.nilFunc,.func (.func 313) #[] #[],.func (.func 314) #[] #[],.func (.func 315) #[] #[],.func (.func 316) #[] #[],.func (.func 317) #[] #[],
  .func (.func 312) #[] #[.pointer (some ⟨b1,0,none⟩)],.func (.func 312) #[] #[.pointer (some ⟨b2,0,none⟩)],.func (.func 312) #[] #[.pointer (some ⟨b3,0,none⟩)],.func (.func 312) #[] #[.pointer (some ⟨b4,0,none⟩)],
  .func (.func 312) #[] #[.pointer (some ⟨u,0,none⟩)],.func (.func 312) #[] #[.pointer (some ⟨b6,0,none⟩)]].toArray
def Wx(f:Value)(g:Int->Int->Bool):Prop:=∃u,f=.func (.func u) #[] #[]/\Plain hH u/\
 ∀a b B,Calls hH u [hU a,hU b].toArray B (oV λv E=>v=.bool (g a b)/\Ext B E)
def C313(a b:Int)(w:World):CR 313 [hU a,hU b] w (λv w'=>v=hU (xz (a+b))/\Ext w w'):=by
 have u:=St.start w;refine eT Tryz.func313 ?_;exact uG ⟨rfl,u.aF⟩
def C314(a b:Int)(w:World):CR 314 [hU a,hU b] w (λv w'=>v=hU (xz (a-b))/\Ext w w'):=by
 have u:=St.start w;refine eT Tryz.func314 ?_;exact D5 ⟨rfl,u.aF⟩
def C315(a b:Int)(w:World):CR 315 [hU a,hU b] w (λv w'=>v=hU (xz (a*b))/\Ext w w'):=by
 have u:=St.start w;refine eT Tryz.func315 ?_;exact D6 ⟨rfl,u.aF⟩
def C316(a b:Int)(w:World)(h:b≠0):CR 316 [hU a,hU b] w (λv w'=>v=hU (U8 a b)/\Ext w w'):=by
 have u:=St.start w;refine eT Tryz.func316 ?_;exact Nt h ⟨rfl,u.aF⟩
def C317(a b:Int)(w:World)(h:b≠0):CR 317 [hU a,hU b] w (λv w'=>v=hU (a.tmod b)/\Ext w w'):=by
 have u:=St.start w;refine eT Tryz.func317 ?_;exact Nu h ⟨rfl,u.aF⟩
def C318(a b:Int)(w:World):CR 318 [hU a,hU b] w (λv w'=>v=.bool (decide (a=b))/\Ext w w'):=by
 have u:=St.start w;refine eT Tryz.func318 ?_;exact aG ⟨rfl,u.aF⟩
def C319(a b:Int)(w:World):CR 319 [hU a,hU b] w (λv w'=>v=.bool (decide (¬ a=b))/\Ext w w'):=by
 have u:=St.start w;refine eT Tryz.func319 ?_;exact cC ⟨rfl,u.aF⟩
def C320(a b:Int)(w:World):CR 320 [hU a,hU b] w (λv w'=>v=.bool (decide (a<b))/\Ext w w'):=by
 have u:=St.start w;refine eT Tryz.func320 ?_;exact aS ⟨rfl,u.aF⟩
def C321(a b:Int)(w:World):CR 321 [hU a,hU b] w (λv w'=>v=.bool (decide (a<=b))/\Ext w w'):=by
 have u:=St.start w;refine eT Tryz.func321 ?_;exact gO ⟨rfl,u.aF⟩
def C322(a b:Int)(w:World):CR 322 [hU a,hU b] w (λv w'=>v=.bool (decide (¬ a=0)&&decide (¬ b=0))/\Ext w w'):=by
 have u:=St.start w;refine eT Tryz.func322 ?_;refine⟨_,?_,λ_ _ h=>h⟩;refine aR DC u (C256 _ _) (λ_ E u=>aC (λB=>?_) λB=>?_)
 .refine aR DC u (C256 _ _) (λ_ E u=>?_);intro G
  first|(rw[fj B];exact⟨rfl,u.aF⟩)|(rw[ga B];exact⟨rfl,u.aF⟩)
 intro G
 first|(rw[fj B];exact⟨rfl,u.aF⟩)|(rw[ga B];exact⟨rfl,u.aF⟩)
def C323(a b:Int)(w:World):CR 323 [hU a,hU b] w (λv w'=>v=.bool (decide (¬ a=0)||decide (¬ b=0))/\Ext w w'):=by
 have u:=St.start w;refine eT Tryz.func323 ?_;refine⟨_,?_,λ_ _ h=>h⟩;refine aR DC u (C256 _ _) (λ_ E u=>aC (λB=>?_) λB=>?_)
 .intro G
  first|(rw[fj B];exact⟨rfl,u.aF⟩)|(rw[ga B];exact⟨rfl,u.aF⟩)
 refine aR DC u (C256 _ _) (λ_ E u=>?_);intro G
 first|(rw[fj B];exact⟨rfl,u.aF⟩)|(rw[ga B];exact⟨rfl,u.aF⟩)
def C311(g:Nat)(w:World):CR 311 [.func (.func g) #[] #[]] w (λv w'=>∃b,v=.func (.func 312) #[] #[.pointer (some ⟨b,0,none⟩)]/\mG (bM b [.func (.func g) #[] #[]]) w w'):=by
 have B:=St.start w;refine eT Tryz.func311 ?_;exact jR B rfl (λu _ B=>⟨u,rfl,B.fresh⟩)
def C312(a b:Int)(b2:Nat)(fv:Value)(g:Int->Int->Bool)(w:World)(hc:Cell w b2 0 fv)(I:Wx fv g):CR 312 [hU a,hU b,.pointer (some ⟨b2,0,none⟩)] w (λv w'=>v=hU (Ed (g a b))/\Ext w w'):=by
 obtain⟨J,rfl,B,E⟩:=I;have u:=St.start w;refine eT Tryz.func312 ?_;refine cE abf (hc.ext u.aF) (fm (first:=[]) (cap:=[]) B (E a b _) ?_);rintro _ _ ⟨rfl,G⟩;have u:=u.ext G;exact aR MR u (C255 _ _) (λ_ _ u=>⟨rfl,u.aF⟩)
def C257(w:World):CR 257 [] w (λv w'=>∃b1 b2 b3 b4 V b6,v=opsV b1 b2 b3 b4 V b6/\mG (eI (abn b1 b2 b3 b4 V b6)) w w'):=by
 have u:=St.start w;refine RJ _ _ ?_;unfold S257;refine aM u IK (λE _ u=>aM u IK λO _ u=>kR nj bP bP (aO u qV (dP rfl) (rfl) λ_ u=>kR nj bP bP (aO u qV (dP rfl) (rfl) λ_ u=>kR nj bP bP (aO u qV (dP rfl) (rfl) λ_ u=>kR nj bP bP (aO u qV (dP rfl) (rfl) λ_ u=>kR nj bP bP (aO u qV (dP rfl) (rfl) λ_ u=>fm (first:=[]) (cap:=[]) AL (C311 318 _) ?_))))));rintro _ _ ⟨W,rfl,B⟩;have u:=u.made B;refine kR nj bP bP (aO u.p1 qV (dP rfl) (rfl) λ_ u=>fm (first:=[]) (cap:=[]) AL (C311 319 _) ?_)
 rintro _ _ ⟨G,rfl,B⟩;have u:=u.made B;refine kR nj bP bP (aO u.p1 qV (dP rfl) (rfl) λ_ u=>fm (first:=[]) (cap:=[]) AL (C311 320 _) ?_);rintro _ _ ⟨U,rfl,B⟩;have u:=u.made B;refine kR nj bP bP (aO u.p1 qV (dP rfl) (rfl) λ_ u=>fm (first:=[]) (cap:=[]) AL (C311 321 _) ?_);rintro _ _ ⟨I,rfl,B⟩;have u:=u.made B;refine kR nj bP bP (aO u.p1 qV (dP rfl) (rfl) λ_ u=>fm (first:=[]) (cap:=[]) AL (C311 322 _) ?_);rintro _ _ ⟨J,rfl,B⟩;have u:=u.made B;refine kR nj bP bP (aO u.p1 qV (dP rfl) (rfl) λ_ u=>fm (first:=[]) (cap:=[]) AL (C311 323 _) ?_)
 rintro _ _ ⟨M,rfl,B⟩;have u:=u.made B;refine kR nj bP bP (aO u.p1 qV (dP rfl) (rfl) λ_ u=>DG Nc u.hb rfl (yv u.p7 Nc rfl ea (by simp[qG,fS]) λ_ u=>DG Nc u.hb rfl ?_));have u:=u.drop.drop.p1.p2.p3.p4.p5.mW.p1.mW.p2.mW.p3;have u:=u.mW.p4.mW.p5.mW.ic.ic.ic.ic.ic;refine⟨W,G,U,I,J,M,rfl,(u.dH (Ψ:=abn W G U I J M) λw h=>?_).fresh⟩;obtain⟨⟨⟨⟨⟨h6,h5⟩,h4⟩,h3⟩,h2⟩,h1⟩:=h;exact⟨h1.cell rfl,h2.cell rfl,h3.cell rfl,h4.cell rfl,h5.cell rfl,h6.cell rfl⟩
def fb1:Wx (.func (.func 318) #[] #[]) (λa b=>decide (a=b)):=⟨318,rfl,aaW,λa b u=>C318 a b u⟩
def fb2:Wx (.func (.func 319) #[] #[]) (λa b=>decide (¬ a=b)):=⟨319,rfl,aaX,λa b u=>C319 a b u⟩
def fb3:Wx (.func (.func 320) #[] #[]) (λa b=>decide (a<b)):=⟨320,rfl,aaY,λa b u=>C320 a b u⟩
def fb4:Wx (.func (.func 321) #[] #[]) (λa b=>decide (a<=b)):=⟨321,rfl,aaZ,λa b u=>C321 a b u⟩
def fb5:Wx (.func (.func 322) #[] #[]) (λa b=>decide (¬ a=0)&&decide (¬ b=0)):=⟨322,rfl,aa0,λa b u=>C322 a b u⟩
def fb6:Wx (.func (.func 323) #[] #[]) (λa b=>decide (¬ a=0)||decide (¬ b=0)):=⟨323,rfl,aa1,λa b u=>C323 a b u⟩
def C153(op a b:Int)(w:World):CR 153 [hU op,hU a,hU b] w (λv w'=>v=.tuple #[hU (mc op a b),hU (ma op b)]/\Ext w w'):=by
 have u:=St.start w;refine RH _ _ _ _ _ ?_;unfold S153;refine⟨_,?_,λ_ _ h=>h⟩;refine aS (aC (λZ=>?_) λZ=>?_)
 .intro vP;refine gH ?_
  first|exact⟨rfl,u.aF⟩|(subst_vars;exact⟨rfl,u.aF⟩)|(refine⟨?_,u.aF⟩;unfold mc ma oH;first|(rw[fi (show op<5\/15<op by omega)];rfl)|simp[*])
 refine cJ ?_;intro vP;refine aC (λpf=>?_) (λpf=>?_)
 .first|exact⟨rfl,u.aF⟩|(subst_vars;exact⟨rfl,u.aF⟩)|(refine⟨?_,u.aF⟩;unfold mc ma oH;first|(rw[fi (show op<5\/15<op by omega)];rfl)|simp[*])
 refine dX aaG (C257 _) ?_;rintro _ _ ⟨b1,b2,b3,b4,Y,b6,rfl,dw⟩;have u:=u.made dw;obtain rfl|rfl|rfl|rfl|rfl|rfl|rfl|rfl|rfl|rfl|rfl|rfl|rfl|rfl|rfl|rfl:op=0\/op=1\/op=2\/op=3\/op=4\/op=5\/op=6\/op=7\/op=8\/op=9\/op=10\/op=11\/op=12\/op=13\/op=14\/op=15:=bP
 .refine pop (v:=.nilFunc) (by kernel_rfl) (pop (v:=.bool true) (by kernel_rfl) (gH ?_))
  first|exact⟨rfl,u.aF⟩|(subst_vars;exact⟨rfl,u.aF⟩)|(refine⟨?_,u.aF⟩;unfold mc ma oH;first|(rw[fi (show op<5\/15<op by omega)];rfl)|simp[*])
 .refine pop (v:=.nilFunc) (by kernel_rfl) (pop (v:=.bool true) (by kernel_rfl) (gH ?_))
  first|exact⟨rfl,u.aF⟩|(subst_vars;exact⟨rfl,u.aF⟩)|(refine⟨?_,u.aF⟩;unfold mc ma oH;first|(rw[fi (show op<5\/15<op by omega)];rfl)|simp[*])
 .refine pop (v:=.nilFunc) (by kernel_rfl) (pop (v:=.bool true) (by kernel_rfl) (gH ?_))
  first|exact⟨rfl,u.aF⟩|(subst_vars;exact⟨rfl,u.aF⟩)|(refine⟨?_,u.aF⟩;unfold mc ma oH;first|(rw[fi (show op<5\/15<op by omega)];rfl)|simp[*])
 .refine pop (v:=.nilFunc) (by kernel_rfl) (pop (v:=.bool true) (by kernel_rfl) (gH ?_))
  first|exact⟨rfl,u.aF⟩|(subst_vars;exact⟨rfl,u.aF⟩)|(refine⟨?_,u.aF⟩;unfold mc ma oH;first|(rw[fi (show op<5\/15<op by omega)];rfl)|simp[*])
 .refine pop (v:=.nilFunc) (by kernel_rfl) (pop (v:=.bool true) (by kernel_rfl) (gH ?_))
  first|exact⟨rfl,u.aF⟩|(subst_vars;exact⟨rfl,u.aF⟩)|(refine⟨?_,u.aF⟩;unfold mc ma oH;first|(rw[fi (show op<5\/15<op by omega)];rfl)|simp[*])
 .refine pop (v:=.func (.func 313) #[] #[]) (by kernel_rfl) (pop (v:=.bool false) (by kernel_rfl) (et ?_));refine⟨_,?_,λ_ _ h=>h⟩;refine aG (fI ea (aG (fI ea ?_)));intro G;refine et (fm (first:=[]) (cap:=[]) aaR (C313 a b _) ?_);rintro _ E ⟨rfl,B⟩;have u:=u.ext B
  first|exact⟨rfl,u.aF⟩|(subst_vars;exact⟨rfl,u.aF⟩)|(refine⟨?_,u.aF⟩;unfold mc ma oH;first|(rw[fi (show op<5\/15<op by omega)];rfl)|simp[*])
 .refine pop (v:=.func (.func 314) #[] #[]) (by kernel_rfl) (pop (v:=.bool false) (by kernel_rfl) (et ?_));refine⟨_,?_,λ_ _ h=>h⟩;refine aG (fI ea (aG (fI ea ?_)));intro G;refine et (fm (first:=[]) (cap:=[]) aaS (C314 a b _) ?_);rintro _ E ⟨rfl,B⟩;have u:=u.ext B
  first|exact⟨rfl,u.aF⟩|(subst_vars;exact⟨rfl,u.aF⟩)|(refine⟨?_,u.aF⟩;unfold mc ma oH;first|(rw[fi (show op<5\/15<op by omega)];rfl)|simp[*])
 .refine pop (v:=.func (.func 315) #[] #[]) (by kernel_rfl) (pop (v:=.bool false) (by kernel_rfl) (et ?_));refine⟨_,?_,λ_ _ h=>h⟩;refine aG (fI ea (aG (fI ea ?_)));intro G;refine et (fm (first:=[]) (cap:=[]) aaT (C315 a b _) ?_);rintro _ E ⟨rfl,B⟩;have u:=u.ext B
  first|exact⟨rfl,u.aF⟩|(subst_vars;exact⟨rfl,u.aF⟩)|(refine⟨?_,u.aF⟩;unfold mc ma oH;first|(rw[fi (show op<5\/15<op by omega)];rfl)|simp[*])
 .refine pop (v:=.func (.func 316) #[] #[]) (by kernel_rfl) (pop (v:=.bool false) (by kernel_rfl) (et ?_));refine⟨_,?_,λ_ _ h=>h⟩;refine aG (gT ea (aG ?_));intro G;refine aC (λW=>?_) (λW=>?_)
  .first|exact⟨rfl,u.aF⟩|(subst_vars;exact⟨rfl,u.aF⟩)|(refine⟨?_,u.aF⟩;unfold mc ma oH;first|(rw[fi (show op<5\/15<op by omega)];rfl)|simp[*])
  refine fm (first:=[]) (cap:=[]) aaU (C316 a b _ W) ?_;rintro _ E ⟨rfl,B⟩;have u:=u.ext B
  first|exact⟨rfl,u.aF⟩|(subst_vars;exact⟨rfl,u.aF⟩)|(refine⟨?_,u.aF⟩;unfold mc ma oH;first|(rw[fi (show op<5\/15<op by omega)];rfl)|simp[*])
 .refine pop (v:=.func (.func 317) #[] #[]) (by kernel_rfl) (pop (v:=.bool false) (by kernel_rfl) (et ?_));refine⟨_,?_,λ_ _ h=>h⟩;refine aG (fI ea (aG (gT ea (aG ?_))));intro G;refine aC (λW=>?_) (λW=>?_)
  .first|exact⟨rfl,u.aF⟩|(subst_vars;exact⟨rfl,u.aF⟩)|(refine⟨?_,u.aF⟩;unfold mc ma oH;first|(rw[fi (show op<5\/15<op by omega)];rfl)|simp[*])
  refine fm (first:=[]) (cap:=[]) aaV (C317 a b _ W) ?_;rintro _ E ⟨rfl,B⟩;have u:=u.ext B
  first|exact⟨rfl,u.aF⟩|(subst_vars;exact⟨rfl,u.aF⟩)|(refine⟨?_,u.aF⟩;unfold mc ma oH;first|(rw[fi (show op<5\/15<op by omega)];rfl)|simp[*])
 .refine pop (v:=.func (.func 312) #[] #[.pointer (some ⟨b1,0,none⟩)]) (by kernel_rfl) (pop (v:=.bool false) (by kernel_rfl) (et ?_));refine⟨_,?_,λ_ _ h=>h⟩;refine aG (fI ea (aG (fI ea ?_)));intro G;refine et ?_;obtain⟨J,V,U,I,O,M⟩:=u.eI;refine fm (first:=[]) (cap:=[.pointer (some ⟨b1,0,none⟩)]) AM (C312 a b b1 _ _ _ J fb1) ?_;rintro _ E ⟨rfl,B⟩;have u:=u.ext B
  first|exact⟨rfl,u.aF⟩|(subst_vars;exact⟨rfl,u.aF⟩)|(refine⟨?_,u.aF⟩;unfold mc ma oH;first|(rw[fi (show op<5\/15<op by omega)];rfl)|simp[*])
 .refine pop (v:=.func (.func 312) #[] #[.pointer (some ⟨b2,0,none⟩)]) (by kernel_rfl) (pop (v:=.bool false) (by kernel_rfl) (et ?_));refine⟨_,?_,λ_ _ h=>h⟩;refine aG (fI ea (aG (fI ea ?_)));intro G;refine et ?_;obtain⟨J,V,U,I,O,M⟩:=u.eI;refine fm (first:=[]) (cap:=[.pointer (some ⟨b2,0,none⟩)]) AM (C312 a b b2 _ _ _ V fb2) ?_;rintro _ E ⟨rfl,B⟩;have u:=u.ext B
  first|exact⟨rfl,u.aF⟩|(subst_vars;exact⟨rfl,u.aF⟩)|(refine⟨?_,u.aF⟩;unfold mc ma oH;first|(rw[fi (show op<5\/15<op by omega)];rfl)|simp[*])
 .refine pop (v:=.func (.func 312) #[] #[.pointer (some ⟨b3,0,none⟩)]) (by kernel_rfl) (pop (v:=.bool false) (by kernel_rfl) (et ?_));refine⟨_,?_,λ_ _ h=>h⟩;refine aG (fI ea (aG (fI ea ?_)));intro G;refine et ?_;obtain⟨J,V,U,I,O,M⟩:=u.eI;refine fm (first:=[]) (cap:=[.pointer (some ⟨b3,0,none⟩)]) AM (C312 a b b3 _ _ _ U fb3) ?_;rintro _ E ⟨rfl,B⟩;have u:=u.ext B
  first|exact⟨rfl,u.aF⟩|(subst_vars;exact⟨rfl,u.aF⟩)|(refine⟨?_,u.aF⟩;unfold mc ma oH;first|(rw[fi (show op<5\/15<op by omega)];rfl)|simp[*])
 .refine pop (v:=.func (.func 312) #[] #[.pointer (some ⟨b4,0,none⟩)]) (by kernel_rfl) (pop (v:=.bool false) (by kernel_rfl) (et ?_));refine⟨_,?_,λ_ _ h=>h⟩;refine aG (fI ea (aG (fI ea ?_)));intro G;refine et ?_;obtain⟨J,V,U,I,O,M⟩:=u.eI;refine fm (first:=[]) (cap:=[.pointer (some ⟨b4,0,none⟩)]) AM (C312 a b b4 _ _ _ I fb4) ?_;rintro _ E ⟨rfl,B⟩;have u:=u.ext B
  first|exact⟨rfl,u.aF⟩|(subst_vars;exact⟨rfl,u.aF⟩)|(refine⟨?_,u.aF⟩;unfold mc ma oH;first|(rw[fi (show op<5\/15<op by omega)];rfl)|simp[*])
 .refine pop (v:=.func (.func 312) #[] #[.pointer (some ⟨Y,0,none⟩)]) (by kernel_rfl) (pop (v:=.bool false) (by kernel_rfl) (et ?_));refine⟨_,?_,λ_ _ h=>h⟩;refine aG (fI ea (aG (fI ea ?_)));intro G;refine et ?_;obtain⟨J,V,U,I,O,M⟩:=u.eI;refine fm (first:=[]) (cap:=[.pointer (some ⟨Y,0,none⟩)]) AM (C312 a b Y _ _ _ O fb5) ?_;rintro _ E ⟨rfl,B⟩;have u:=u.ext B
  first|exact⟨rfl,u.aF⟩|(subst_vars;exact⟨rfl,u.aF⟩)|(refine⟨?_,u.aF⟩;unfold mc ma oH;first|(rw[fi (show op<5\/15<op by omega)];rfl)|simp[*])
 refine pop (v:=.func (.func 312) #[] #[.pointer (some ⟨b6,0,none⟩)]) (by kernel_rfl) (pop (v:=.bool false) (by kernel_rfl) (et ?_));refine⟨_,?_,λ_ _ h=>h⟩;refine aG (fI ea (aG (fI ea ?_)));intro G;refine et ?_;obtain⟨J,V,U,I,O,M⟩:=u.eI;refine fm (first:=[]) (cap:=[.pointer (some ⟨b6,0,none⟩)]) AM (C312 a b b6 _ _ _ M fb6) ?_;rintro _ E ⟨rfl,B⟩;have u:=u.ext B
 first|exact⟨rfl,u.aF⟩|(subst_vars;exact⟨rfl,u.aF⟩)|(refine⟨?_,u.aF⟩;unfold mc ma oH;first|(rw[fi (show op<5\/15<op by omega)];rfl)|simp[*])
theorem gw{α:Type}{l:List α}{k:Nat}{e:α}(h:l[k]?=some e):l.take k++[e]=l.take (k+1):=by rw[ta,h];rfl
def eE{α:Type}{φ:α->Prop}{l:List α}{k:Nat}{e:α}(h:∀y∈l.take k,φ y)(B:l[k]?=some e)(E:φ e):∀y∈l.take (k+1),φ y:=by
 intro y u
 rw[<- gw B]at u
 grind
theorem nk{α:Type}{g:α->Bool}{l:List α}{k:Nat}{e:α}(B:l[k]?=some e)(u:g e=true):l.any g=true:=tP.2 ⟨e,l0 B,u⟩
theorem nn{α:Type}{g:α->Bool}{l:List α}(h:∀y∈l,g y=false):l.any g=false:=by
 grind
def pg{α:Type}(g:α->Bool)(l:List α):Int:=match l.findIdx? g with|some k=>k|none=>-1
def jA{α:Type}{g:α->Bool}{l:List α}{k:Nat}{e:α}(E:∀y∈l.take k,g y=false)(u:l[k]?=some e)(G:g e=true):pg g l=k:=by
 have:l.findIdx? g=some k:=by
  rw[List.findIdx?_eq_some_iff_getElem]
  have B:=(jq.1 u).1
  refine⟨B,cR,λj I=>?_⟩
  have:=E (l[j]'(bP)) (List.mem_take_iff_getElem.2 ⟨j,bP,rfl⟩)
  simp[this]
 unfold pg;rw[this]
def gy{α:Type}{g:α->Bool}{l:List α}(u:∀y∈l,g y=false):pg g l = -1:=by
 grind[pg]
def iB{α:Type}(g:α->Bool)(l:List α):decide (0<=pg g l)=l.any g:=by
 grind[pg]
def qI{α:Type}[Flat α](w:World)(f:Value)(g:α->Bool):Prop:=∃B first cap,f=.func (.func B) (Hw first) (Hw cap)/\Plain hH B/\
 ∀x u,Ext w u->Calls hH B (first++[ia x]++cap).toArray u (oV λv E=>v=.bool (g x)/\Ext u E)
theorem qI.ext{α:Type}[Flat α]{w w':World}{f:Value}{g:α->Bool}(h:qI w f g)(e:Ext w w'):qI w' f g:=by
 obtain⟨B,first,cap,h1,h2,h3⟩:=h;exact⟨B,first,cap,h1,h2,λx u E=>h3 x u (e.trans E)⟩
def eV(k:Int):Int:=if k=3\/k=4 then 1 else if 5<=k/\k<=15 then 2 else 0
def Vc(st:Option (Int×Int))(x:mP):Option (Int×Int):=match st with
 | none=>none
 | some (n,h)=>if n-eV x.kind<0 then none else some (n-eV x.kind+1,max h (n-eV x.kind+1))
def ht(l:List mP):Option (Int×Int):=l.foldl Vc (some (0,0))
def htN(l:List mP):Int:=match ht l with|some p=>p.1|none=>0
def htH(l:List mP):Int:=match ht l with|some p=>p.2|none=>0
theorem uJ{l:List mP}{k:Nat}{x:mP}(h:l[k]?=some x):ht (l.take (k+1))=Vc (ht (l.take k)) x:=by
 unfold ht;rw[<- gw h,wI];rfl
def IV{l:List mP}{k:Nat}(h:ht (l.take k)=none):ht l=none:=by
 have B:∀m:List mP,m.foldl Vc none=none:=λm=>by induction m with|nil=>rfl|cons y m u=>exact u
 have e:l=l.take k++l.drop k:=(ob k l).symm
 grind[ht]
def IW(k:Int):0<=eV k/\eV k<=2:=by
 grind[eV]
theorem Wy{l:List mP}:∀k n h,k<=l.length->ht (l.take k)=some (n,h)->0<=n/\n<=(k:Int)/\0<=h/\h<=(k:Int)
 | 0,n,h,_,e=>by
  have:ht ([]:List mP)=some (0,0):=rfl
  grind
 | k+1,n,h,G,e=>by
  obtain⟨x,u⟩:=gx l (i:=k) bP
  rw[uJ u]at e
  cases hp:ht (l.take k)with
  | none=>rw[hp]at e;cases e
  | some p=>
   obtain⟨a,b⟩:=p
   have B:=Wy k a b bP hp
   have E:=IW x.kind
   rw[hp]at e
   unfold Vc at e
   grind
def Sf{l:List mP}{k:Nat}{x:mP}{n h m:Int}(u:l[k]?=some x)(B:ht (l.take k)=some (n,h))(E:m=n-eV x.kind)(G:¬ m<0):ht (l.take (k+1))=some (m+1,max h (m+1)):=by
 rw[uJ u,B];grind[Vc]
def Wz{l:List mP}{k:Nat}{x:mP}{n h m:Int}(u:l[k]?=some x)(B:ht (l.take k)=some (n,h))(E:m=n-eV x.kind)(G:m<0):ht (l.take (k+1))=none:=by
 rw[uJ u,B];grind[Vc]
def qm(many:Int)(x:mP):Bool:=decide ((x.kind=1/\(x.n<0\/4294967296<x.n))\/(x.kind=2/\(x.n<0\/many<=x.n))\/(¬ x.kind=1/\¬ x.kind=2/\(¬ x.n=0\/x.kind<1\/16<=x.kind)))
def kT(l:List mP)(many:Int):Bool:=decide (l.length<=40)&&(ht l).isSome&&decide (htN l=1)&&!l.any (qm many)
def C149(k:Int)(w:World):CR 149 [hU k] w (λv w'=>v=hU (eV k)/\Ext w w'):=by
 have B:=St.start w;refine eT Tryz.func149 ?_;refine⟨λG w'=>G=.bool (decide (k=3\/k=4))/\w=w',aG (aC (λ_=>⟨FT bP,rfl⟩) λ_=>aG ⟨xr bP,rfl⟩),?_⟩;rintro _ _ ⟨rfl,I⟩ _;subst I;refine aC (λu=>?_) (λu=>⟨λG w'=>G=.bool (decide (5<=k/\k<=15))/\w=w',cJ (aC (λ_=>gO ⟨xr bP,rfl⟩) λ_=>⟨Rc bP,rfl⟩),?_⟩)
 .unfold eV
  first|(rw[fi u];exact⟨rfl,B.aF⟩)|(rw[ez u,fi E];exact⟨rfl,B.aF⟩)|(rw[ez u,ez E];exact⟨rfl,B.aF⟩)
 rintro _ _ ⟨rfl,I⟩ _;subst I;refine aC (λE=>?_) (λE=>?_)
 .unfold eV
  first|(rw[fi u];exact⟨rfl,B.aF⟩)|(rw[ez u,fi E];exact⟨rfl,B.aF⟩)|(rw[ez u,ez E];exact⟨rfl,B.aF⟩)
 unfold eV
 first|(rw[fi u];exact⟨rfl,B.aF⟩)|(rw[ez u,fi E];exact⟨rfl,B.aF⟩)|(rw[ez u,ez E];exact⟨rfl,B.aF⟩)
def C243(M:Value)(xs:List mP)(w:World)(I:dy (λ_=>True) w M xs)(Z:xs.length<=1048576):CR 243 [M] w (λv w'=>v=.tuple #[hU (htN xs),hU (htH xs),.bool (ht xs).isSome]/\Ext w w'):=by
 have u:=St.start w;refine eT Tryz.func243 ?_;refine aI sR (I.ext u.aF) ?_;refine⟨λm y z x J=>∃(k:Nat) (n h:Int),y=hU n/\z=hU h/\x=hU (k:Int)/\m=xs.length-k/\k<=xs.length/\ht (xs.take k)=some (n,h)/\St w bF [] J,⟨_,0,0,0,rfl,rfl,rfl,rfl,bP,rfl,u⟩,?_⟩;rintro m _ _ _ J ⟨k,n,h,rfl,rfl,rfl,rfl,hk,B,u⟩ _;refine aS (aC (λY=>?_) λY=>?_)
 .obtain⟨O,E⟩:=gx xs (i:=(k:Int).toNat) bP;refine aZ sR (I.ext u.aF) bP E (λ_ V=>aE yE V (aM u Ca λKL _ u=>aH (x:=O) u yE rfl rfl λ_ u=>aA jW (aB bL u.hb rfl (aR MO u (C149 _ _) λ_ he u=>?_))));have hw:=IW O.kind;have U:=Wy k n h bP B;refine fo bP (aS (aC (λG=>?_) λG=>aK bP (xY (aK bP ⟨_,bP,k+1,_,_,rfl,rfl,rfl,rfl,bP,by rw[uJ (k:=k) E,B];unfold Vc;simp only[];rw[ez G],u.drop⟩))));have W:ht xs=none:=IV (k:=k+1) (by rw[uJ (k:=k) E,B];unfold Vc;simp only[];rw[fi G])
  unfold htN htH;rw[W];exact⟨rfl,u.aF⟩
 rw[kE bP]at B;unfold htN htH;rw[B];exact⟨rfl,u.aF⟩
def C242(x:mP)(b2:Nat)(many:Int)(w:World)(hc:Cell w b2 0 (hU many)):CR 242 [ia x,.pointer (some ⟨b2,0,none⟩)] w (λv w'=>v=.bool (qm many x)/\Ext w w'):=by
 have u:=St.start w;refine eT Tryz.func242 ?_;refine bY u (λW _ u=>aA jW (aB bL u.hb rfl (aG (aC (λG=>⟨_,aA l7 (aB bL u.hb rfl (aS (aC (λI=>?_) λI=>?_))),λ_ _ h=>h⟩) λG=>aA jW (aB bL u.hb rfl (aG (aC (λU=>⟨_,aA l7 (aB bL u.hb rfl (aS (aC (λO=>?_) λO=>?_))),λ_ _ h=>h⟩) λU=>?_)))))))
 .intro V;refine⟨vb ?_,u.aF⟩;unfold qm
  first|exact(fj bP).symm|exact(ga bP).symm|exact gh.2 bP
 .refine aA l7 (aB bL u.hb rfl (dL ?_));intro V;refine⟨vb ?_,u.aF⟩;unfold qm
  first|exact(fj bP).symm|exact(ga bP).symm|exact gh.2 bP
 .intro M;refine⟨vb ?_,u.aF⟩;unfold qm
  first|exact(fj bP).symm|exact(ga bP).symm|exact gh.2 bP
 .refine aA l7 (aB bL u.hb rfl (cE bL (hc.ext u.aF) (cJ ?_)));intro M;refine⟨vb ?_,u.aF⟩;unfold qm
  first|exact(fj bP).symm|exact(ga bP).symm|exact gh.2 bP
 refine⟨_,?_,λ_ _ h=>h⟩;refine aA l7 (aB bL u.hb rfl (cC (aC (λE=>?_) λE=>aA jW (aB bL u.hb rfl (aS (aC (λJ=>?_) λJ=>?_))))))
 .intro B;refine⟨vb ?_,u.aF⟩;unfold qm
  first|exact(fj bP).symm|exact(ga bP).symm|exact gh.2 bP
 .intro B;refine⟨vb ?_,u.aF⟩;unfold qm
  first|exact(fj bP).symm|exact(ga bP).symm|exact gh.2 bP
 refine aA jW (aB bL u.hb rfl (cJ ?_));intro B;refine⟨vb ?_,u.aF⟩;unfold qm
 first|exact(fj bP).symm|exact(ga bP).symm|exact gh.2 bP
def C309(M fv:Value)(xs:List mP)(g:mP->Bool)(w:World)(J:dy (λ_=>True) w M xs)(Y:qI w fv g)(hn:xs.length<=1073741824):CR 309 [M,fv] w (λv w'=>v=hU (pg g xs)/\Ext w w'):=by
 obtain⟨g0,first,cap,rfl,W,V⟩:=Y;have u:=St.start w;refine eT Tryz.func309 ?_;refine aI sR (J.ext u.aF) ?_;refine⟨λm x E=>∃k:Nat,x=hU (k:Int)/\m=xs.length-k/\k<=xs.length/\(∀y∈xs.take k,g y=false)/\St w bF [] E,⟨_,0,rfl,rfl,mr _,ew,u⟩,?_⟩;rintro m _ E ⟨k,rfl,rfl,hk,B,u⟩ _;refine aS (aC (λj7=>?_) λ_=>⟨gj (mj .i64) (gy (by rw[kE bP]at B;exact B)).symm,u.aF⟩);obtain⟨O,G⟩:=gx xs (i:=(k:Int).toNat) bP;refine aZ sR (J.ext u.aF) bP G (λ_ U=>aE yE U (fm W (V O E u.aF) ?_))
 rintro _ _ ⟨rfl,Z⟩;have u:=u.ext Z;exact bD (λI=>⟨gj (mj .i64) (jA B G I).symm,u.aF⟩) (λI=>aK bP ⟨xs.length-(k+1),bP,k+1,rfl,rfl,bP,eE B G I,u⟩)
def C244(B fv:Value)(xs:List mP)(g:mP->Bool)(w:World)(E:dy (λ_=>True) w B xs)(G:qI w fv g)(I:xs.length<=1073741824):CR 244 [B,fv] w (λv w'=>v=.bool (xs.any g)/\Ext w w'):=by
 have u:=St.start w;refine eT Tryz.func244 ?_;exact aR aaP u (C309 _ _ _ _ _ (E.ext u.aF) (G.ext u.aF) bP) (λ_ _ u=>cJ ⟨vb (iB _ _),u.aF⟩)
def C136(M:Value)(xs:List mP)(many:Int)(w:World)(B:dy (λ_=>True) w M xs)(Z:xs.length<=1048576):CR 136 [M,hU many] w (λv w'=>v=.bool (kT xs many)/\Ext w w'):=by
 have u:=St.start w;refine eT Tryz.func136 ?_;refine jR u rfl (λI J u=>aR aaA u (C243 _ _ _ (B.ext u.aF) bP) λ_ W u=>aJ rfl (aJ rfl (aJ rfl ?_)));refine⟨_,?_,λ_ _ h=>h⟩;refine aI sR (B.ext u.aF) (gO (aC (λY=>bD (λV=>aG (aC (λU=>?_) λU=>?_)) λV=>?_) λY=>?_))
 .have E:qI _ (.func (.func 242) [].toArray [.pointer (some ⟨I,0,none⟩)].toArray) (qm many):=
   ⟨242,[],_,rfl,aaz,λy J O=>C242 y I many J ((u.hb.cell rfl).ext O)⟩
  refine aR aaB u (C244 _ _ _ _ _ (B.ext u.aF) E bP) (λ_ W u=>bJ ?_);intro G;refine⟨vb ?_,u.aF⟩;unfold kT
  simp_all<;>omega
 .intro G;refine⟨vb ?_,u.aF⟩;unfold kT
  simp_all<;>omega
 .intro G;refine⟨vb ?_,u.aF⟩;unfold kT
  simp_all<;>omega
 intro G;refine⟨vb ?_,u.aF⟩;unfold kT
 simp_all<;>omega
def kU(b:Nat)(rest:List Value)(l:List Int):HP:=oW λu=>sep (bM b (u::rest)) (bH u l)
def kU.shut{w0 w:World}{A:Nat->Prop}{R:List HP}{b:Nat}{rest:List Value}{u:Value}{l:List Int}(B:St w0 A (bM b (u::rest)::bH u l::R) w):St w0 A (kU b rest l::R) w:=
 St.dO (H:=λu=>sep (bM b (u::rest)) (bH u l)) u (St.join B)
def kU.open{w0 w:World}{A:Nat->Prop}{R:List HP}{b:Nat}{rest:List Value}{l:List Int}(B:St w0 A (kU b rest l::R) w):∃u,St w0 A (bM b (u::rest)::bH u l::R) w:=by
 obtain⟨u,B⟩:=B.dS;exact⟨u,B.split⟩
def iZ(l:List Int):Int:=l.getD (l.length-1) 0
theorem NC{l:List Int}{e:Int}(h:l[((l.length:Int)-1).toNat]?=some e):e=iZ l:=by
 simp_all[iZ]
def C254(b:Nat)(n:Int)(rest:List Value)(l:List Int)(F:Nat->Prop)(w:World)(G:(kU b rest l).p w F)(J:l.length<=1048576):CR 254 [.pointer (some ⟨b,0,none⟩),hU n] w (λv w'=>v=.tuple #[]/\mF F (kU b rest (l++[n])) w w'):=by
 have u:=St.begin G;obtain⟨I,u⟩:=u.dS;have u:=u.split;refine eT Tryz.func254 ?_;refine aD (aA l8 (aB ek u.hb rfl (bK ([n]:List Int) u dz rfl rfl (dP rfl) λB _ u=>?_)));have E:=u.eU;exact cO u.p2 dz E (by simp<;>omega) ea (λ_ _ u=>have u:=u.p1.drop;aD (aA l8 (aO u.p1 ek (dP rfl) u.eU.one λ_ u=>have u:=u.p1.p1;⟨rfl,(kU.shut u).mut⟩)))
def C152(b:Nat)(rest:List Value)(l:List Int)(F:Nat->Prop)(w:World)(I:(kU b rest l).p w F)(U:l.length<=1048576)(M:0<l.length):CR 152 [.pointer (some ⟨b,0,none⟩)] w (λv w'=>v=hU (iZ l)/\mF F (kU b rest (l.take (l.length-1))) w w'):=by
 have u:=St.begin I;obtain⟨J,u⟩:=u.dS;have u:=u.split;refine qj Tryz.func152 (pl:=agN) ?_;refine aD (aA l8 (have u:=u.drew;aB ek u.hb rfl (aD (aA l8 (aB ek u.hb rfl (aI dz u.p1.eU (fo bP ?_)))))));obtain⟨O,E⟩:=gx l (i:=((l.length:Int)-1).toNat) bP;refine ed u.p1 dz bP bP (λ_ G=>gP u.p1 bL G E (aD (aA l8 (have u:=u.drew;aB ek u.hb rfl (aD (aA l8 (aB ek u.hb rfl (aI dz u.p1.eU (fo bP (have u:=u.p1;ni dz u bP bP λB u=>aD (aA l8 ?_)))))))))))
 refine aO u.p1 ek (dP rfl) u.eU.one (λ_ u=>?_);have u:=u.p1.p1;rw[show((l.length:Int)-1).toNat=l.length-1 from bP]at u;rw[NC E];exact⟨rfl,(kU.shut u).mut⟩
def C150(b:Nat)(n hi:Int)(l:List Int)(F:Nat->Prop)(w:World)(B:(kU b [hU hi] l).p w F)(I:l.length<=1048576):CR 150 [.pointer (some ⟨b,0,none⟩),hU n] w (λv w'=>v=.tuple #[]/\∃E,mF F (kU b [hU E] (l++[n])) w w'):=by
 have u:=St.begin B;refine qj Tryz.func150 (pl:=agM) ?_;refine aD (aA pa (lS aaF u (H':=λ_=>kU b [hU hi] (l++[n])) (Φ:=λv _=>v=.tuple #[]) (λF B=>?_) ?_))
 .exact C254 b n _ l F _ B bP
 rintro _ _ rfl u;obtain⟨G,u⟩:=kU.open u;exact aD (aA DX (have u:=u.drew;aB bL u.hb rfl (aD (aA pa (aA l8 (aB ek u.hb rfl (aI dz u.p1.eU (xY (aD (aA DX (aO u bL (dP rfl) (rfl) λ_ u=>have u:=u.p1.p1;⟨rfl,_,(kU.shut u).mut⟩)))))))))))
def mf(ns S:List Int)(x:mP):List Int:=
 if eV x.kind=0 then S++[if x.kind=2 then ns.getD x.n.toNat 0 else x.n]
 else if eV x.kind=1 then S.take (S.length-1)++[vO x.kind (iZ S)]
 else S.take (S.length-2)++[mc x.kind (iZ (S.take (S.length-1))) (iZ S)]
def Al(S:List Int)(x:mP):Int:=if eV x.kind=2 then ma x.kind (iZ S)else 0
def Cg(ns:List Int):List mP->List Int->Int×Int
 | [],S=>(iZ S,0)
 | x::r,S=>if Al S x=0 then Cg ns r (mf ns S x)else(0,Al S x)
def runM(l:List mP)(ns:List Int):Int×Int:=if kT l ns.length=true then Cg ns l []else(0,8)
def uL(k:Int):eV k=0\/eV k=1\/eV k=2:=by
 grind[eV]
section
variable {xs:List mP}{ns S:List Int}{k:Nat}{x:mP}{n h:Int}
theorem xZ(u:xs[k]?=some x)(h:Al S x=0):Cg ns (xs.drop k) S=Cg ns (xs.drop (k+1)) (mf ns S x):=by
 obtain⟨E,B⟩:=jq.1 u
 rw[pd E,B,Cg,fi h]
theorem ND(u:xs[k]?=some x)(h:¬ Al S x=0):Cg ns (xs.drop k) S=(0,Al S x):=by
 obtain⟨E,B⟩:=jq.1 u
 rw[pd E,B,Cg,ez h]
theorem Am{many:Int}(h:kT xs many=true):xs.length<=40/\(∃a,ht xs=some (1,a))/\∀x∈xs,qm many x=false:=by
 unfold kT at h
 rw[nw,nw,nw,decide_eq_true_eq,decide_eq_true_eq]at h
 obtain⟨⟨⟨h1,h2⟩,h3⟩,h4⟩:=h
 refine⟨h1,?_,λx u=>?_⟩
 .unfold htN at h3
  grind
 grind
theorem KM(u:eV x.kind<=(S.length:Int)):((mf ns S x).length:Int)=S.length-eV x.kind+1:=by
 unfold mf
 rcases uL x.kind with h|h|h
 .grind
 .grind
 grind
theorem KN{a:Int}(I:ht xs=some (1,a))(B:ht (xs.take k)=some ((S.length:Int),h))(u:xs[k]?=some x) :
  eV x.kind<=(S.length:Int)/\∃G,ht (xs.take (k+1))=some (((mf ns S x).length:Int),G):=by
 have E:eV x.kind<=(S.length:Int):=by
  rcases Int.lt_or_le ((S.length:Int)-eV x.kind) 0 with h1|h1
  .have:=IV (Wz u B rfl h1);grind
  .omega
 exact⟨E,_,(Sf u B rfl bP).trans (by rw[KM E])⟩
theorem WA(u:eV x.kind=0)(h2:¬ x.kind=2):mf ns S x=S++[x.n]:=by unfold mf;grind
theorem WB{e:Int}(u:eV x.kind=0)(h2:x.kind=2)(B:ns[x.n.toNat]?=some e):mf ns S x=S++[e]:=by
 grind[mf]
theorem WC(u:eV x.kind=1):mf ns S x=S.take (S.length-1)++[vO x.kind (iZ S)]:=by unfold mf;rw[ez bP,fi u]
theorem WD(u:eV x.kind=2):mf ns S x=S.take (S.length-2)++[mc x.kind (iZ (S.take (S.length-1))) (iZ S)]:=by unfold mf;rw[ez bP,ez bP]
theorem NF(u:¬ eV x.kind=2):Al S x=0:=by unfold Al;omega
theorem Vd(u:eV x.kind=2):Al S x=ma x.kind (iZ S):=by unfold Al;omega
theorem GJ(h:2<=S.length):(S.take (S.length-1)).take ((S.take (S.length-1)).length-1)=S.take (S.length-2):=by
 grind
end
def jI(b:Nat)(l:List Int):HP:=oW fun (hi:Int)=>kU b [hU hi] l
def jI.shut{w0 w:World}{A:Nat->Prop}{R:List HP}{b:Nat}{hi:Int}{l:List Int}(u:St w0 A (kU b [hU hi] l::R) w):St w0 A (jI b l::R) w:=
 St.dO (H:=fun (hi:Int)=>kU b [hU hi] l) hi u
def Sg(b:Nat)(n:Int)(l:List Int)(F:Nat->Prop)(w:World)(u:(jI b l).p w F)(J:l.length<=1048576) :
  Calls hH 150 [.pointer (some ⟨b,0,none⟩),hU n].toArray w (oV λv w'=>v=.tuple #[]/\mF F (jI b (l++[n])) w w'):=by
 obtain⟨hi,u⟩:=u
 refine(C150 b n hi l F w u J).mono λe w' ⟨v,I,B,G,E,h1,h2⟩=>⟨v,I,B,E,⟨G,h1⟩,h2⟩
def Sh(b:Nat)(l:List Int)(F:Nat->Prop)(w:World)(u:(jI b l).p w F)(J:l.length<=1048576)(G:0<l.length) :
  Calls hH 152 [.pointer (some ⟨b,0,none⟩)].toArray w (oV λv w'=>v=hU (iZ l)/\mF F (jI b (l.take (l.length-1))) w w'):=by
 obtain⟨hi,u⟩:=u
 refine(C152 b [hU hi] l F w u J G).mono λe w' ⟨v,I,B,E,h1,h2⟩=>⟨v,I,B,E,⟨hi,h1⟩,h2⟩
def C79(sv nv:Value)(xs:List mP)(ns:List Int)(w:World)(V:dy (λ_=>True) w sv xs)(hN:dy (λ_=>True) w nv ns)(hn:xs.length<=1048576):CR 79 [sv,nv] w (λv w'=>v=.tuple #[hU (runM xs ns).1,hU (runM xs ns).2]/\Ext w w'):=by
 have u:=St.start w;refine Wh _ _ _ _ ?_;unfold S79;refine aI dz (hN.ext u.aF) (aR aaq u (C136 _ _ _ _ (V.ext u.aF) hn) λw1 he u=>bJ (bD (λfg=>?_) λfg=>?_))
 .unfold runM;rw[ez (by simpa using fg)];exact⟨rfl,u.aF⟩
 refine aM u R7 (λE _ u=>?_);have u:=jI.shut (kU.shut (u.eF (α:=Int)).p1);have me:kT xs (ns.length:Int)=true:=by simpa using fg
 obtain⟨h40,⟨a0,qO⟩,ahp⟩:=Am me;refine aI sR (V.ext u.aF) ?_;refine⟨λm x w1=>∃(k:Nat) (S:List Int) (h:Int),x=hU (k:Int)/\m=xs.length-k/\k<=xs.length/\Cg ns xs []=Cg ns (xs.drop k) S/\ht (xs.take k)=some ((S.length:Int),h)/\St w bF [jI E S] w1,⟨_,0,[],0,rfl,rfl,bP,rfl,rfl,u⟩,?_⟩;rintro m _ _ ⟨k,S,h,rfl,rfl,hk,M,O,u⟩ _;refine aS (aC (λph=>?_) λph=>?_)
 .refine⟨_,?_,λ_ h=>h⟩;obtain⟨B,I⟩:=gx xs (i:=(k:Int).toNat) bP;refine aZ sR (V.ext u.aF) bP I (λ_ Eh=>aE yE Eh (aM u Ca λKL _ u=>aH (x:=B) u yE rfl rfl λ_ u=>aA jW (aB bL u.hb rfl (aR MO u (C149 _ _) λ_ he u=>?_))));have MA:=ahp _ (l0 I);unfold qm at MA;have ho:=g6 MA;obtain⟨hw0,h2,U⟩:=KN (ns:=ns) (k:=k) qO O I;have hwk:eV B.kind=0->B.kind=1\/B.kind=2\/¬ (B.kind=1\/B.kind=2):=λ_=>bP
  have hSk:=Wy k _ _ bP O;have hw3:=uL B.kind;refine aG (aC (λY=>aA l7 (aB bL u.hb rfl ⟨_,aA jW (aB bL u.hb rfl (aG (aC (λW=>?_) λW=>?_))),λ_ _ h=>h⟩)) λY=>aG (aC (λIY=>?_) λIY=>?_))
  .refine aA l7 (aB bL u.hb rfl ?_);obtain⟨Ve,NG⟩:=gx ns (i:=B.n.toNat) bP;refine aZ dz (hN.ext u.aF) bP NG (λ_ NH=>aE bL NH ?_);intro xA;refine lS It u.p1 (H':=λ_=>jI E (S++[Ve])) (Φ:=λv _=>v=.tuple #[]) (λF G=>?_) ?_
   .exact Sg E Ve S F _ G (by first|omega|(simp only[ml,kC,nD];omega))
   rintro _ w8 rfl u;intro z9;refine aK bP ?_;have u:=u.p1.drop;have J:mf ns S B=_:=WB Y W NG;exact⟨_,bP,k+1,_,_,rfl,rfl,bP,M.trans (xZ (k:=k) I (NF bP)),U,by rw[J];exact u⟩
  .intro xA;refine lS It u.p1 (H':=λ_=>jI E (S++[B.n])) (Φ:=λv _=>v=.tuple #[]) (λF G=>?_) ?_
   .exact Sg E B.n S F _ G (by first|omega|(simp only[ml,kC,nD];omega))
   rintro _ w8 rfl u;intro z9;refine aK bP ?_;have u:=u.p1.drop;have J:mf ns S B=_:=WA Y W;exact⟨_,bP,k+1,_,_,rfl,rfl,bP,M.trans (xZ (k:=k) I (NF bP)),U,by rw[J];exact u⟩
  .refine aA jW (have u:=u.drew;aB bL u.hb rfl (aA pa (lS Iu u.p1 (H':=λ_=>jI E (S.take (S.length-1))) (Φ:=λv _=>v=hU (iZ S)) (λF G=>?_) ?_)))
   .exact Sh E S F _ G (by first|omega|(simp only[ml,kC,nD];omega)) (by first|omega|(simp only[ml,kC,nD];omega))
   rintro _ _ rfl u;refine⟨aY bL (u.p1.hb.cell rfl),?_⟩;refine aR aas u (C151 _ _ _) (λ_ he u=>aJ rfl (aJ rfl (lS It u (H':=λ_=>jI E ((S.take (S.length-1))++[(vO B.kind (iZ S))])) (Φ:=λv _=>v=.tuple #[]) (λF G=>?_) ?_)))
   .exact Sg E (vO B.kind (iZ S)) (S.take (S.length-1)) F _ G (by first|omega|(simp only[ml,kC,nD];omega))
   rintro _ _ rfl u;intro z9;refine aK bP ?_;have u:=u.p1.drop;have J:mf ns S B=_:=WC IY;exact⟨_,bP,k+1,_,_,rfl,rfl,bP,M.trans (xZ (k:=k) I (NF bP)),U,by rw[J];exact u⟩
  refine aA pa (lS Iu u.p1 (H':=λ_=>jI E (S.take (S.length-1))) (Φ:=λv _=>v=hU (iZ S)) (λF G=>?_) ?_)
  .exact Sh E S F _ G (by first|omega|(simp only[ml,kC,nD];omega)) (by first|omega|(simp only[ml,kC,nD];omega))
  rintro _ _ rfl u;refine aA jW (have u:=u.drew;aB bL u.p1.hb rfl (aA pa (lS Iu u (H':=λ_=>jI E ((S.take (S.length-1)).take ((S.take (S.length-1)).length-1))) (Φ:=λv _=>v=hU (iZ (S.take (S.length-1)))) (λF G=>?_) ?_)))
  .exact Sh E (S.take (S.length-1)) F _ G (by first|omega|(simp only[ml,kC,nD];omega)) (by first|omega|(simp only[ml,kC,nD];omega))
  rintro _ _ rfl u;refine⟨aY bL (u.p1.hb.cell rfl),?_⟩;refine aR aat u (C153 _ _ _ _) (λ_ he u=>aJ rfl (aJ rfl (cC (aC (λZ=>?_) λZ=>?_))))
  .have hz:Al S B=ma B.kind (iZ S):=Vd (by have:=uL B.kind;omega);unfold runM;rw[fi me,M,ND (k:=k) I (by rw[hz];exact Z),hz];exact⟨rfl,u.aF⟩
  refine lS It u (H':=λ_=>jI E (((S.take (S.length-1)).take ((S.take (S.length-1)).length-1))++[(mc B.kind (iZ (S.take (S.length-1))) (iZ S))])) (Φ:=λv _=>v=.tuple #[]) (λF G=>?_) ?_
  .exact Sg E (mc B.kind (iZ (S.take (S.length-1))) (iZ S)) ((S.take (S.length-1)).take ((S.take (S.length-1)).length-1)) F _ G (by first|omega|(simp only[ml,kC,nD];omega))
  rintro _ _ rfl u;intro z9;refine aK bP ?_;have u:=u.p1.drop;rw[GJ bP]at u;have J:mf ns S B=_:=WD (by have:=uL B.kind;omega);exact⟨_,bP,k+1,_,_,rfl,rfl,bP,M.trans (xZ (k:=k) I ((Vd (by have:=uL B.kind;omega)).trans (zP.1 Z))),U,by rw[J];exact u⟩
 refine aA pa ?_
 have hS1:S.length=1:=by
  rw[kE bP,qO]at O;have:=(Ug.inj (nN.inj O)).1;omega
 refine lS Iu u (H':=λ_=>jI E (S.take (S.length-1))) (Φ:=λv _=>v=hU (iZ S)) (λF G=>?_) ?_
 .exact Sh E S F _ G (by first|omega|(simp only[ml,kC,nD];omega)) (by first|omega|(simp only[ml,kC,nD];omega))
 rintro _ _ rfl u;unfold runM;rw[fi me,M,ou bP];exact⟨rfl,u.aF⟩
def cT(ns:List ByteArray)(s:ByteArray):Int:=pg (λy=>decide (y=s)) ns
def jd(p:bQ):List bO:=p.lines.flatten++p.iN
structure PS(p:bQ):Prop where
 lines:p.lines.length<=500
 line:∀l∈p.lines,l.length<=500
 iN:p.iN.length<=500
 eX:p.eX.length<=500
 threads:p.threads.length<=500
 recover:p.recover.length<=500
 ef:p.ef.length<=500
 dJ:∀t∈p.threads++p.recover,t.dJ.length<=500
 body:∀t∈p.threads++p.recover,t.body.length<=500
theorem cM{ls:List (List bO)}(h:∀l∈ls,l.length<=500):ls.flatten.length<=500*ls.length:=by
 induction ls with
 | nil=>simp
 | cons a ls u=>
  grind
def rk{p:bQ}(h:PS p):(jd p).length<=250500:=by
 have h1:=cM h.line
 have h2:=h.lines
 have h3:=h.iN
 grind[jd]
theorem nq{α β:Type}{f:α->β}{l:List α}{k:Nat}{e:α}(h:l[k]?=some e):(l.take k).map f++[f e]=(l.take (k+1)).map f:=by rw[<- gw h,rh];rfl
def kids(k:Int):Int:=if k=1\/k=2 then 0 else if k=3\/k=4 then 1 else if 5<=k/\k<=15 then 2 else -1
def rn(k:Int) : -1<=kids k/\kids k<=2:=by
 grind[kids]
def fc(c:Int):Bool:=decide (97<=c/\c<=122\/c=95)
def ie(c:Int):Bool:=decide (48<=c/\c<=57)
def gC:List ByteArray:=[⟨#[108,105,110,101]⟩,⟨#[118,111,108]⟩,⟨#[108,111,99,107]⟩,⟨#[116,104,114,101,97,100]⟩,⟨#[114,101,103]⟩,⟨#[108,111,97,100]⟩,⟨#[115,116,111,114,101]⟩,⟨#[99,97,115]⟩,⟨#[102,108,117,115,104]⟩,⟨#[111,112,116]⟩,⟨#[115,102,101,110,99,101]⟩,⟨#[109,102,101,110,99,101]⟩,⟨#[116,97,107,101]⟩,⟨#[103,105,118,101]⟩,⟨#[105,102]⟩,⟨#[101,108,115,101]⟩,⟨#[108,111,111,112]⟩,⟨#[98,114,101,97,107]⟩,⟨#[99,104,101,99,107]⟩,⟨#[114,101,99,111,118,101,114]⟩,⟨#[97,108,119,97,121,115]⟩]
def fB(s:ByteArray):Bool:=!(decide (s.size<1\/16<s.size)||(match (fO s)[0]? with|some c=>!fc c.toNat|none=>true)||gC.any λy=>decide (y=s))&&!(fO s).any (λc=>!fc c.toNat&&!ie c.toNat)
def skip:Nat->List bI->Option (List bI)
 | 0,l=>some l
 | _+1,[]=>none
 | n+1,x::l=>if kids x.op<0 then none else skip (n+(kids x.op).toNat) l
theorem tg(l:List bI):skip 0 l=some l:=by cases l<;>rfl
theorem yT(l:List bI):∀a b,skip (a+b) l=(skip a l).bind (skip b):=by
 induction l with
 | nil=>
  intro a b
  cases a with
  | zero=>rw[o6,tg];rfl
  | succ a=>grind[skip]
 | cons x l u=>
  intro a b
  cases a with
  | zero=>rw[o6,tg];rfl
  | succ a=>
   grind[skip]
theorem yU(l:List bI):∀n r,skip n l=some r->r=l.drop (l.length-r.length)/\r.length+min n 1<=l.length:=by
 induction l with
 | nil=>
  intro n r h
  cases n with
  | zero=>rw[tg]at h;grind
  | succ n=>cases h
 | cons x l u=>
  intro n r h
  cases n with
  | zero=>rw[tg]at h;simp_all
  | succ n=>
   have h:(if kids x.op<0 then none else skip (n+(kids x.op).toNat) l)=some r:=h
   split at h
   .cases h
   .obtain⟨h1,h2⟩:=u _ _ h
    refine⟨?_,cR⟩
    rw[show(x::l).length-r.length=(l.length-r.length)+1 from cR]
    exact h1
def xB(n:Nat)(o:Option (List bI)):Int:=match o with|some r=>(n:Int)-r.length|none=>-1
def mQ(xs:List bI)(i:Int):Int:=if i<0 then -1 else xB xs.length (skip 1 (xs.drop i.toNat))
def NI{xs:List bI}{i:Int}{x:bI}(G:0<=i)(u:xs[i.toNat]?=some x)(I:0<=kids x.op):mQ xs i=xB xs.length (skip (kids x.op).toNat (xs.drop (i.toNat+1))):=by
 unfold mQ
 obtain⟨E,B⟩:=jq.1 u
 rw[ez bP,pd E,B]
 show xB _ (if kids x.op<0 then none else skip (0+(kids x.op).toNat) _)=_
 grind
theorem Sj{xs:List bI}{i:Int}{x:bI}(G:0<=i)(u:xs[i.toNat]?=some x)(I:kids x.op<0):mQ xs i = -1:=by
 unfold mQ
 obtain⟨E,B⟩:=jq.1 u
 rw[ez bP,pd E,B]
 grind[xB,skip]
theorem Sk{xs:List bI}{i:Int}(h:i<0\/xs.length<=i):mQ xs i = -1:=by
 unfold mQ
 split
 .rfl
 rw[ou bP];rfl
theorem abq{xs:List bI}{j k:Nat}{a:Int}(h:xB xs.length (skip k (xs.drop j))=a)(B:0<=a):mQ xs a=xB xs.length (skip (k+1) (xs.drop j))/\((j:Int)<=a\/xs.length<=a):=by
 cases hs:skip k (xs.drop j)with
 | none=>rw[hs]at h;unfold xB at h;simp only[]at h;omega
 | some r=>
  rw[hs]at h
  have h:(xs.length:Int)-r.length=a:=h
  obtain⟨h1,h2⟩:=yU _ _ _ hs
  rw[oD]at h1 h2
  rw[yT,hs]
  show _=xB _ (skip 1 r)/\_
  refine⟨?_,bP⟩
  unfold mQ
  rw[ez bP]
  by_cases u:j<=xs.length
  .have:xs.drop a.toNat=r:=by
    rw[h1,qv,show j+(xs.length-j-r.length)=a.toNat from bP]
   rw[this]
  .have:r=[]:=qa.1 bP
   subst this
   rw[ou (by simp at h;omega)]
theorem WE{xs l:List bI}{k j:Nat}(B:l.length<=xs.length)(h:¬ 0<=xB xs.length (skip k l))(u:k<=j):xB xs.length (skip k l)=xB xs.length (skip j l):=by
 cases hs:skip k l with
 | none=>rw[show j=k+(j-k)from bP,yT,hs];rfl
 | some r=>
  obtain⟨_,h2⟩:=yU _ _ _ hs
  rw[hs]at h;unfold xB at h;simp only[]at h;omega
theorem ahr{xs l:List bI}{k:Nat}(u:l.length<=xs.length) : -1<=xB xs.length (skip k l)/\xB xs.length (skip k l)<=xs.length:=by
 cases hs:skip k l with
 | none=>unfold xB;simp only[];omega
 | some r=>
  obtain⟨_,h2⟩:=yU _ _ _ hs
  unfold xB;simp only[];omega
def C342(k:Int)(w:World):CR 342 [hU k] w (λv w'=>v=hU (kids k)/\Ext w w'):=by
 have E:=St.start w;refine eT Tryz.func342 ?_;refine⟨λu w'=>u=.bool (decide (k=1\/k=2))/\w=w',aG (aC (λ_=>⟨FT bP,rfl⟩) λ_=>aG ⟨xr bP,rfl⟩),?_⟩;rintro _ _ ⟨rfl,B⟩ _;subst B;refine aC (λG=>?_) (λG=>⟨λu w'=>u=.bool (decide (k=3\/k=4))/\w=w',aG (aC (λ_=>⟨FT bP,rfl⟩) λ_=>aG ⟨xr bP,rfl⟩),?_⟩)
 .unfold kids;exact⟨gj (mj .i64) cR,E.aF⟩
 rintro _ _ ⟨rfl,B⟩ _;subst B;refine aC (λI=>?_) (λI=>⟨λu w'=>u=.bool (decide (5<=k/\k<=15))/\w=w',cJ (aC (λ_=>gO ⟨xr bP,rfl⟩) λ_=>⟨Rc bP,rfl⟩),?_⟩)
 .unfold kids;exact⟨gj (mj .i64) cR,E.aF⟩
 rintro _ _ ⟨rfl,B⟩ _;subst B;refine aC (λJ=>?_) (λJ=>?_)
 .unfold kids;exact⟨gj (mj .i64) cR,E.aF⟩
 unfold kids;exact⟨gj (mj .i64) cR,E.aF⟩
def C193(c:Int)(w:World):CR 193 [.int .u8 c] w (λv w'=>v=.bool (fc c)/\Ext w w'):=by
 have B:=St.start w;refine eT Tryz.func193 ?_;refine⟨λu w'=>u=.bool (decide (97<=c/\c<=122\/c=95))/\w=w',uI (aC (λ_=>uH (aC (λ_=>⟨FT bP,rfl⟩) λ_=>kS ⟨xr bP,rfl⟩)) λ_=>kS ⟨xr bP,rfl⟩),?_⟩;rintro _ _ ⟨rfl,E⟩ _;subst E;exact⟨rfl,B.aF⟩
def C194(c:Int)(w:World):CR 194 [.int .u8 c] w (λv w'=>v=.bool (ie c)/\Ext w w'):=by
 have B:=St.start w;refine eT Tryz.func194 ?_;refine⟨λu w'=>u=.bool (decide (48<=c/\c<=57))/\w=w',uI (aC (λ_=>uH ⟨xr bP,rfl⟩) λ_=>⟨Rc bP,rfl⟩),?_⟩;rintro _ _ ⟨rfl,E⟩ _;subst E;exact⟨rfl,B.aF⟩
def C284(s:ByteArray)(w:World):CR 284 [.string s] w (λv w'=>v=.bool (gC.any λy=>decide (y=s))/\Ext w w'):=by
 have u:=St.start w;refine eT Tryz.func284 ?_;refine bK gC u iR rfl rfl (dP rfl) (λJ I u=>?_);refine⟨λm x I=>∃k:Nat,x=hU (k:Int)/\m=gC.length-k/\k<=gC.length/\(∀y∈gC.take k,decide (y=s)=false)/\St w bF [bH J gC] I,⟨_,0,rfl,rfl,mr _,ew,u⟩,?_⟩;rintro m _ _ ⟨k,rfl,rfl,W,E,u⟩ _;have U:gC.length=21:=rfl;refine aI iR u.eU (aS (aC (λO=>?_) λO=>?_))
 .skip;obtain⟨V,G⟩:=gx gC (i:=(k:Int).toNat) bP;exact ed u iR bP bP (λ_ M=>gP u j3 M G (fE (aC (λB=>⟨vb (nk G (fj B)).symm,u.aF⟩) λB=>aK bP ⟨_,bP,k+1,rfl,rfl,bP,eE E G (ga B),u⟩)))
 rw[kE bP]at E;exact⟨vb (nn E).symm,u.aF⟩
def C198(s:ByteArray)(w:World)(hn:s.size<=1048576):CR 198 [.string s] w (λv w'=>v=.bool (fB s)/\Ext w w'):=by
 have u:=St.start w;refine eT Tryz.func198 ?_;refine⟨λJ w'=>J=.bool (decide (s.size<1\/16<s.size)||(match (fO s)[0]? with|some c=>!fc c.toNat|none=>true)||gC.any λy=>decide (y=s))/\St w bF [] w',eR gQ (aS (aC (λ_=>⟨vb cR,u⟩) λnS=>eR gQ (dL (aC (λ_=>⟨vb cR,u⟩) λgG=>?_)))),?_⟩
 .obtain⟨Z,V⟩:∃E,(fO s)[(0:Int).toNat]?=some E:=⟨_,j0 (by rw[dY];omega)⟩;exact gV gQ bP V (aR Iw u (C193 _ _) λ_ _ u=>bJ (bD (λ_=>⟨vb cR,u⟩) λ_=>aR aaO u (C284 _ _) λ_ _ u=>⟨vb cR,u⟩))
 rintro _ _ ⟨rfl,u⟩ _;refine bD (λI=>?_) (λI=>?_)
 .refine⟨vb ?_,u.aF⟩;unfold fB;rw[I];rfl
 refine⟨λm x U=>∃k:Nat,x=hU (k:Int)/\m=(fO s).length-k/\k<=(fO s).length/\(∀y∈(fO s).take k,(!fc y.toNat&&!ie y.toNat)=false)/\St w bF [] U,⟨_,0,rfl,rfl,mr _,ew,u⟩,?_⟩;rintro m _ _ ⟨k,rfl,rfl,W,G,u⟩ _;rw[dY]at W;have Mi:=dY s;refine eR gQ (aS (aC (λY=>?_) λY=>?_))
 .obtain⟨O,B⟩:∃E,(fO s)[(k:Int).toNat]?=some E:=⟨_,j0 (by rw[dY];omega)⟩;refine⟨λJ w'=>J=.bool (!fc O.toNat&&!ie O.toNat)/\St w bF [] w',gV gQ bP B (aR Iw u (C193 _ _) λ_ _ u=>bJ (bD (λ_=>gV gQ bP B (aR Iy u (C194 _ _) λ_ _ u=>bJ ⟨vb cR,u⟩)) λ_=>⟨vb cR,u⟩)),?_⟩;rintro _ _ ⟨rfl,u⟩ _;refine bD (λM=>?_) (λM=>aK bP ⟨_,bP,k+1,rfl,rfl,bP,eE G B (by simpa using M),u⟩);refine⟨vb ?_,u.aF⟩;unfold fB;rw[nk B M];simp
 rw[kE bP]at G;refine⟨vb ?_,u.aF⟩;unfold fB;rw[nn G]
 revert I
 cases (decide (s.size<1\/16<s.size)||(match (fO s)[0]? with|some c=>!fc c.toNat|none=>true)||gC.any λy=>decide (y=s))<;>simp
theorem C343(lv:Value)(xs:List bI)(i:Int)(N:Nat)(w:World)(E:dy (λ_=>True) w lv xs)(Y:xs.length<=1048576)(hi : -9223372036854775808<=i)(hN:(xs.length:Int)-i<N):CR 343 [lv,hU i] w (λv w'=>v=hU (mQ xs i)/\Ext w w'):=by
 have u:=St.start w;refine eT Tryz.func343 ?_;refine⟨λG w'=>G=.bool (decide (i<0\/(xs.length:Int)<=i)||(match xs[i.toNat]? with|some x=>decide (kids x.op<0)|none=>true))/\St w bF [] w',aS (aC (λ_=>⟨vb cR,u⟩) λeS=>aI jx (E.ext u.aF) (cJ (aC (λ_=>⟨vb cR,u⟩) λuO=>?_))),?_⟩
 .obtain⟨M,O⟩:=gx xs (i:=(i).toNat) bP;exact aZ jx (E.ext u.aF) bP O (λ_ W=>cU M.op ix W rfl rfl λ_ rp=>aE bL rp (aR MU u (C342 _ _) λ_ _ u=>aS ⟨vb cR,u⟩))
 rintro _ _ ⟨rfl,u⟩ _;refine bD (λ_=>⟨gj (mj .i64) (by grind[Sk,Sj]),u.aF⟩) (λph=>?_);have h23:¬ (i<0\/(xs.length:Int)<=i):=cR
 obtain⟨B,I⟩:=gx xs (i:=(i).toNat) bP;have NK:0<=kids B.op:=cR
 have WG:=rn B.op;have Rf:=NI bP I NK;refine aK bP ?_;refine⟨λm y x w1=>∃(k:Nat) (a:Int),x=hU (k:Int)/\y=hU a/\m=(kids B.op).toNat-k/\k<=(kids B.op).toNat/\xB xs.length (skip k (xs.drop (i.toNat+1)))=a/\St w bF [] w1,⟨_,0,i+1,rfl,rfl,rfl,bP,by rw[tg];unfold xB;simp only[oD];omega,u⟩,?_⟩;rintro m _ _ _ ⟨k,a,rfl,rfl,rfl,hk,J,u⟩ _;have U:=ahr (xs:=xs) (l:=xs.drop (i.toNat+1)) (k:=k) (by rw[oD];omega);rw[J]at U;refine⟨λG w'=>G=.bool (decide ((k:Int)<kids B.op/\0<=a))/\St w bF [] w',aZ jx (E.ext u.aF) bP I (λ_ V=>cU B.op ix V rfl rfl λ_ Z=>aE bL Z (aR MU u (C342 _ _) λ_ _ u=>aS (aC (λ_=>cJ ⟨vb cR,u⟩) λ_=>⟨vb cR,u⟩))),?_⟩
 rintro _ _ ⟨rfl,u⟩ _;refine aC (λuR=>?_) (λ_=>⟨gj (mj .i64) (by have:=WE (xs:=xs) (l:=xs.drop (i.toNat+1)) (k:=k) (j:=(kids B.op).toNat) (by rw[oD];omega);rw[Rf];by_cases h0:0<=a<;>grind),u.aF⟩);have Ej:=abq J bP;exact aR UR u (C343 _ _ _ (N-1) _ (E.ext u.aF) Y bP bP) (λ_ _ u=>aK bP ⟨_,bP,k+1,_,rfl,rfl,rfl,bP,Ej.1.symm,u⟩)
termination_by N
decreasing_by omega
inductive Ex where
 | leaf (x:bI)
 | un (x:bI) (a:Ex)
 | bin (x:bI) (a b:Ex)
namespace Ex
def root:Ex->bI|leaf x=>x|un x _=>x|bin x _ _=>x
def dR:Ex->List Ex|leaf _=>[]|un _ a=>[a]|bin _ a b=>[a,b]
def flat:Ex->List bI|leaf x=>[x]|un x a=>x::a.flat|bin x a b=>x::(a.flat++b.flat)
def wf:Ex->Prop|leaf x=>kids x.op=0|un x a=>kids x.op=1/\a.wf|bin x a b=>kids x.op=2/\a.wf/\b.wf
def depth:Ex->Int|leaf _=>1|un _ a=>a.depth+1|bin _ a b=>max a.depth b.depth+1
def size:Ex->Nat|leaf _=>1|un _ a=>a.size+1|bin _ a b=>a.size+b.size+1
def numOf(ns:List ByteArray)(x:bI):Int:=if x.op=2 then cT ns x.name else x.n
def steps(ns:List ByteArray):Ex->List mP
 | leaf x=>[⟨x.op,numOf ns x⟩]
 | un x a=>a.steps ns++[⟨x.op,numOf ns x⟩]
 | bin x a b=>a.steps ns++b.steps ns++[⟨x.op,numOf ns x⟩]
end Ex
theorem Ex.cM(t:Ex):t.flat.length=t.size:=by
 induction t with
 | leaf x=>rfl
 | un x a u=>simp[Ex.flat,Ex.size,u]
 | bin x a b E B=>simp[Ex.flat,Ex.size,E,B]
theorem Ex.AZ(t:Ex):t.flat=t.root::(t.dR.map Ex.flat).flatten:=by
 cases t<;>simp[Ex.flat,Ex.root,Ex.dR]
theorem Ex.uS{t:Ex}(h:t.wf):kids t.root.op=t.dR.length:=by
 cases t with
 | leaf x=>exact h
 | un x a=>exact h.1
 | bin x a b=>exact h.1
theorem Ex.ti{t a:Ex}(h:t.wf)(u:a∈t.dR):a.wf/\a.size<t.size:=by
 cases t with
 | leaf x=>cases u
 | un x b=>rw[ru.1 u];exact⟨h.2,by simp[Ex.size]⟩
 | bin x b c=>
  rcases oS.1 u with rfl|u
  .grind[wf,size]
  grind[wf,size]
theorem Ex.od(t:Ex):1<=t.depth/\t.depth<=t.size:=by
 induction t with
 | leaf x=>simp[Ex.depth,Ex.size]
 | un x a u=>simp only[Ex.depth,Ex.size];omega
 | bin x a b E B=>simp only[Ex.depth,Ex.size];omega
theorem Ex.sl(ns:List ByteArray)(t:Ex):(t.steps ns).length=t.size:=by
 induction t with
 | leaf x=>rfl
 | un x a u=>simp[Ex.steps,Ex.size,u]
 | bin x a b E B=>grind[steps,size]
theorem KQ(t:Ex)(h:t.wf):∀n r,skip (n+1) (t.flat++r)=skip n r:=by
 induction t with
 | leaf x=>
  intro n r
  show(if kids x.op<0 then none else skip (n+(kids x.op).toNat) r)=_
  rw[show kids x.op=0 from h];rfl
 | un x a u=>
  intro n r
  show(if kids x.op<0 then none else skip (n+(kids x.op).toNat) (a.flat++r))=_
  rw[show kids x.op=1 from h.1,ez bP];exact u h.2 n r
 | bin x a b E B=>
  intro n r
  show(if kids x.op<0 then none else skip (n+(kids x.op).toNat) (a.flat++b.flat++r))=_
  rw[show kids x.op=2 from h.1,ez bP,mv]
  show skip (n+1+1) _=_
  rw[E h.2.1 (n+1),B h.2.2 n]
theorem I0:∀(k:Nat) (l r:List bI),l.length<=k->skip 1 l=some r->∃t:Ex,t.wf/\l=t.flat++r
 | k,[],r,_,h=>by cases h
 | 0,x::l,r,u,_=>by simp at u
 | k+1,x::l,r,u,h=>by
  have u:l.length<=k:=cR
  have h:(if kids x.op<0 then none else skip (0+(kids x.op).toNat) l)=some r:=h
  have hb:=rn x.op
  split at h
  .cases h
  .rcases(show kids x.op=0\/kids x.op=1\/kids x.op=2 by omega)with h0|h0|h0
   .rw[h0]at h
    have h:skip 0 l=some r:=h
    rw[tg]at h;cases h
    exact⟨.leaf x,h0,rfl⟩
   .rw[h0]at h
    obtain⟨a,B,rfl⟩:=I0 k l r u h
    exact⟨.un x a,⟨h0,B⟩,rfl⟩
   .rw[h0]at h
    have h:skip (1+1) l=some r:=h
    rw[yT]at h
    obtain⟨m,h1,h2⟩:=F1.1 h
    obtain⟨a,B,rfl⟩:=I0 k l m u h1
    obtain⟨b,E,rfl⟩:=I0 k m r cR h2
    exact⟨.bin x a b,⟨h0,B,E⟩,by simp[Ex.flat]⟩
def A0(xs:List bI)(i:Int)(t:Ex):Prop:=0<=i/\t.wf/\∃r,xs.drop i.toNat=t.flat++r
def A0.root{xs:List bI}{i:Int}{t:Ex}(h:A0 xs i t):xs[i.toNat]?=some t.root/\i<xs.length:=by
 obtain⟨u,_,r,h⟩:=h
 have:(xs.drop i.toNat)[0]?=some t.root:=by rw[h,Ex.AZ];rfl
 rw[CS,Hp]at this
 exact⟨this,by have:=(jq.1 this).1;omega⟩
def A0.end{xs:List bI}{i:Int}{t:Ex}(h:A0 xs i t):mQ xs i=i+t.size/\i+t.size<=xs.length:=by
 have G:=h.root.2
 obtain⟨E,u,r,h⟩:=h
 have B:=gj List.length h
 rw[oD,kC,Ex.cM]at B
 refine⟨?_,bP⟩
 unfold mQ
 rw[ez bP,h,KQ t u 0 r,tg]
 unfold xB;grind
theorem A0.of{xs:List bI}{i:Int}(h:0<=mQ xs i):∃t,A0 xs i t:=by
 unfold mQ at h
 split at h
 .omega
 cases hs:skip 1 (xs.drop i.toNat)with
 | none=>rw[hs]at h;unfold xB at h;simp only[]at h;omega
 | some r=>
  obtain⟨t,B,u⟩:=I0 _ _ r (oq _) hs
  exact⟨t,bP,B,r,u⟩
def pj(ks:List Ex)(k:Nat):Nat:=((ks.take k).map Ex.size).sum
theorem vS{ks:List Ex}{k:Nat}{a:Ex}(h:ks[k]?=some a):pj ks (k+1)=pj ks k+a.size:=by
 unfold pj;rw[<- gw h];simp
def A0.kid{xs:List bI}{i:Int}{t a:Ex}{k:Nat}(h:A0 xs i t)(u:t.dR[k]?=some a):A0 xs (i+1+pj t.dR k) a:=by
 obtain⟨J,G,r,h⟩:=h
 refine⟨bP,(Ex.ti G (l0 u)).1,?_⟩
 have B:t.dR=t.dR.take k++a::t.dR.drop (k+1):=by
  obtain⟨M,E⟩:=jq.1 u
  rw[<- E,List.getElem_cons_drop,ob]
 have I:(((t.dR.take k).map Ex.flat).flatten).length=pj t.dR k:=by
  unfold pj
  rw[Pk,Cn]
  congr 2
  exact funext λx=>Ex.cM x
 have h2:xs.drop (i.toNat+1)=((t.dR.take k).map Ex.flat).flatten++(a.flat++(((t.dR.drop (k+1)).map Ex.flat).flatten++r)):=by
  rw[<- qv,h,Ex.AZ t]
  show(t.dR.map Ex.flat).flatten++r=_
  conv=>lhs;rw[B]
  simp
 refine⟨((t.dR.drop (k+1)).map Ex.flat).flatten++r,?_⟩
 rw[show(i+1+(pj t.dR k:Int)).toNat=i.toNat+1+pj t.dR k from bP,<- qv,h2,<- I,x9]
def xC(ks:List Ex)(k:Nat):Int:=((ks.take k).map Ex.depth).foldl max 0
theorem vT{ks:List Ex}{k:Nat}{a:Ex}(h:ks[k]?=some a):xC ks (k+1)=max (xC ks k) a.depth:=by
 unfold xC;rw[<- gw h,rh,wI];rfl
theorem GK{ks:List Ex}{N:Int}(u:0<=N)(h:∀a∈ks,a.depth<=N):∀k,0<=xC ks k/\xC ks k<=N
 | 0=>by simp[xC,u]
 | k+1=>by
  have B:=GK u h k
  cases hx:ks[k]? with
  | none=>
   have e:ks.take (k+1)=ks.take k:=by rw[ta,hx];simp
   unfold xC at *;grind
  | some a=>rw[vT hx];grind
theorem Ex.Ek(t:Ex):t.depth=xC t.dR t.dR.length+1:=by
 cases t with
 | leaf x=>rfl
 | un x a=>have:=a.od;grind[depth,xC,dR]
 | bin x a b=>have:=a.od;grind[depth,xC,dR]
def Sm(ns:List ByteArray)(ks:List Ex)(k:Nat):List mP:=((ks.take k).map (Ex.steps ns)).flatten
theorem NL{ns:List ByteArray}{ks:List Ex}{k:Nat}{a:Ex}(h:ks[k]?=some a):Sm ns ks (k+1)=Sm ns ks k++a.steps ns:=by
 unfold Sm;rw[<- gw h];simp
def I1{ns:List ByteArray}{ks:List Ex}{k:Nat}:(Sm ns ks k).length=pj ks k:=by
 unfold Sm pj
 rw[Pk,Cn]
 congr 2
 exact funext λx=>Ex.sl ns x
theorem Ex.yX(ns:List ByteArray)(t:Ex):t.steps ns=Sm ns t.dR t.dR.length++[⟨t.root.op,Ex.numOf ns t.root⟩]:=by
 cases t<;>simp[Ex.steps,Ex.dR,Sm,Ex.root]
def pt:Nat->List bI->Option (Ex×List bI)
 | 0,_=>none
 | _+1,[]=>none
 | n+1,x::l=>
  if kids x.op=0 then some (.leaf x,l)else if kids x.op=1 then(match pt n l with|some p=>some (.un x p.1,p.2)|none=>none)
  else if kids x.op=2 then(match pt n l with|some p=>(match pt n p.2 with|some q=>some (.bin x p.1 q.1,q.2)|none=>none)|none=>none)else none
theorem Sn(t:Ex)(h:t.wf):∀n r,t.size<=n->pt n (t.flat++r)=some (t,r):=by
 induction t with
 | leaf x=>
  intro n r u
  cases n with
  | zero=>simp[Ex.size]at u
  | succ n=>show(if kids x.op=0 then _ else _)=_;rw[fi (show kids x.op=0 from h)];rfl
 | un x a B=>
  intro n r u
  cases n with
  | zero=>simp[Ex.size]at u
  | succ n=>
   have h1:kids x.op=1:=h.1
   show(if kids x.op=0 then _ else if kids x.op=1 then(match pt n (a.flat++r)with|some p=>some (Ex.un x p.1,p.2)|none=>none)else _)=_
   rw[ez bP,fi h1,B h.2 n r (by simp[Ex.size]at u;omega)]
 | bin x a b G E=>
  intro n r u
  cases n with
  | zero=>simp[Ex.size]at u
  | succ n=>
   have h1:kids x.op=2:=h.1
   show(if kids x.op=0 then _ else if kids x.op=1 then _ else if kids x.op=2 then(match pt n (a.flat++b.flat++r)with|some p=>(match pt n p.2 with|some q=>some (Ex.bin x p.1 q.1,q.2)|none=>none)|none=>none)else _)=_
   rw[ez bP,ez bP,fi h1,mv,G h.2.1 n _ (by simp[Ex.size]at u;omega)]
   simp only[]
   rw[E h.2.2 n _ (by simp[Ex.size]at u;omega)]
def tj(l:List bI):Option Ex:=match pt l.length l with|some p=>if p.2=[]then some p.1 else none|none=>none
def KR{t:Ex}(h:t.wf):tj t.flat=some t:=by
 unfold tj
 have:=Sn t h t.flat.length [] (by rw[Ex.cM];omega)
 grind
def A0.zero{l:List bI}{t:Ex}(h:A0 l 0 t)(E:mQ l 0=l.length):l=t.flat/\tj l=some t:=by
 have h1:=h.end
 obtain⟨_,B,r,h⟩:=h
 have u:=gj List.length h
 rw[kC,Ex.cM]at u
 simp at u
 have:r=[]:=qa.1 bP
 subst this
 have h:l=t.flat:=cR
 exact⟨h,by rw[h];exact KR B⟩
theorem uT:∀n l t r,pt n l=some (t,r)->t.wf/\l=t.flat++r
 | 0,l,t,r,h=>by cases h
 | n+1,[],t,r,h=>by cases h
 | n+1,x::l,t,r,h=>by
  have h:(if kids x.op=0 then some (Ex.leaf x,l)else if kids x.op=1 then(match pt n l with|some p=>some (Ex.un x p.1,p.2)|none=>none)
   else if kids x.op=2 then(match pt n l with|some p=>(match pt n p.2 with|some q=>some (Ex.bin x p.1 q.1,q.2)|none=>none)|none=>none)else none)=some (t,r):=h
  split at h
  .rename_i hk;cases h;exact⟨hk,rfl⟩
  .split at h
   .rename_i hk
    cases ha:pt n l with
    | none=>grind
    | some p=>
     rw[ha]at h
     obtain⟨a,m⟩:=p
     cases h
     obtain⟨h1,rfl⟩:=uT n l a _ ha
     exact⟨⟨hk,h1⟩,rfl⟩
   .split at h
    .rename_i hk
     cases ha:pt n l with
     | none=>grind
     | some p=>
      rw[ha]at h
      obtain⟨a,m⟩:=p
      simp only[]at h
      cases hb:pt n m with
      | none=>grind
      | some q=>
       rw[hb]at h
       obtain⟨b,u⟩:=q
       cases h
       obtain⟨h1,rfl⟩:=uT n l a _ ha
       obtain⟨h2,rfl⟩:=uT n m b _ hb
       exact⟨⟨hk,h1,h2⟩,by simp[Ex.flat]⟩
    .cases h
theorem tm{l:List bI}{t:Ex}(h:tj l=some t):t.wf/\l=t.flat:=by
 unfold tj at h
 cases hp:pt l.length l with
 | none=>grind
 | some p=>
  rw[hp]at h
  obtain⟨a,r⟩:=p
  simp only[]at h
  split at h
  .rename_i hr;cases h
   obtain⟨h1,h2⟩:=uT _ _ _ _ hp
   grind
  .cases h
theorem El{l:List bI}:(tj l).isSome=decide (mQ l 0=l.length):=by
 by_cases h:mQ l 0=l.length
 .obtain⟨t,ht⟩:=A0.of (xs:=l) (i:=0) bP
  rw[(ht.zero h).2,fj h];rfl
 rw[ga h]
 cases he:tj l with
 | none=>rfl
 | some t=>
  obtain⟨h1,rfl⟩:=tm he
  exact absurd (by have:=(show A0 t.flat 0 t from⟨bP,h1,[],ew⟩).end.1;rw[this,Ex.cM];omega) h
def xD(x:bI):Bool:=decide (x.at_<0\/4000<x.at_)||decide (¬ x.op=1/\¬ x.n=0)||decide (¬ x.op=2/\¬ x.name=⟨#[]⟩)||decide (x.n<0\/4294967296<x.n)||(decide (x.op=2)&&!fB x.name)
def NM(l:List bI):Int:=match tj l with|some t=>t.depth|none=>0
def fN(l:List bI):Bool:=decide (l.length<=40)&&(tj l).isSome&&!l.any xD&&decide (NM l<=12)
def GL(ns:List ByteArray)(l:List bI):List mP:=match tj l with|some t=>t.steps ns|none=>[]
def qo(ns:List ByteArray)(l:List bI):Int:=if fN l=false then 8 else if l.any (λx=>decide (x.op=2)&&decide (cT ns x.name<0))then 9 else 0
def yY(ns:List ByteArray)(l:List bI):List mP:=if qo ns l=0 then GL ns l else []
def GM{l:List bI}(h:fN l=true):mQ l 0=l.length:=by
 unfold fN at h
 rw[El]at h
 grind
theorem C288(lv:Value)(xs:List bI)(i:Int)(t:Ex)(N:Nat)(w:World)(G:dy (λ_=>True) w lv xs)(Y:xs.length<=1048576)(B:A0 xs i t)(hN:t.size<N):CR 288 [lv,hU i] w (λv w'=>v=hU t.depth/\Ext w w'):=by
 obtain⟨I,hq,rq⟩:∃e,e=t.root/\xs[(i).toNat]?=some e:=⟨_,rfl,B.root.1⟩;have U:=B.root.2;have hie:=B.end;have Z:=Ex.uS B.2.1;rw[<- hq]at Z;have WG:=rn I.op;have Vf:=B.1;have u:=St.start w;refine RO _ _ _ _ ?_;unfold S288;refine aK bP ?_;refine⟨λm n a x J=>∃k:Nat,n=hU (xC t.dR k)/\a=hU (i+1+pj t.dR k)/\x=hU (k:Int)/\m=t.dR.length-k/\k<=t.dR.length/\St w bF [] J,⟨_,0,rfl,gj (mj .i64) (by simp[pj]),rfl,rfl,bP,u⟩,?_⟩;rintro m _ _ _ J ⟨k,rfl,rfl,rfl,rfl,hk,u⟩ _;have hdk:=GK (ks:=t.dR) (N:=(t.size:Int)) bP (λa ha=>by have:=(Ex.ti B.2.1 ha).2;have:=a.od;omega) k
 refine aZ jx (G.ext u.aF) bP rq (λ_ Eg=>cU I.op ix Eg rfl rfl λ_ O=>aE bL O (aR MU u (C342 _ _) λ_ he u=>aS (aC (λuN=>?_) λ_=>aK bP ⟨gj (mj .i64) (by rw[t.Ek,show k=t.dR.length from bP]),u.aF⟩)));obtain⟨a,E⟩:=gx t.dR (i:=k) bP;have V:=Ex.ti B.2.1 (l0 E);have M:=B.kid E;have W:=M.end;have ZN:=a.od;exact aR UO u (C288 _ _ _ _ (N-1) _ (G.ext u.aF) Y M bP) (λ_ _ u=>xY (aR UR u (C343 _ _ _ (xs.length+1) _ (G.ext u.aF) bP bP bP) λ_ _ u=>aK bP ⟨_,bP,k+1,by rw[vT E],gj (mj .i64) (by rw[W.1,vS E];omega),rfl,rfl,bP,u⟩))
termination_by N
decreasing_by omega
inductive Bk where
 | nil
 | cons (x:bE) (a b r:Bk)
namespace Bk
def flat:Bk->List bE|nil=>[]|cons x a b r=>x::(a.flat++(b.flat++r.flat))
def len:Bk->Nat|nil=>0|cons _ a b r=>a.len+b.len+r.len+1
def str:Bk->Prop|nil=>True|cons x a b r=>x.body=a.len/\x.eH=b.len/\a.len<=40/\b.len<=40/\a.str/\b.str/\r.str
def I2(x:bE)(loops:Int):Int:=if x.kind=12 then loops+1 else loops
def vU(x:bE):Bool:=decide (x.kind=11\/x.kind=12)
def FW(x:bE)(loops:Int):Bool:=decide ((x.body<=0\/x.kind=11\/x.kind=12)/\(x.eH<=0\/x.kind=11)/\(¬ x.kind=13\/¬ loops=0))
def ok:Bk->Int->Bool|nil,_=>true|cons x a b r,n=>FW x n&&a.ok (I2 x n)&&b.ok (I2 x n)&&r.ok n
def depth:Bk->Int|nil=>0|cons x a b r=>if vU x then max (max (1+a.depth) (1+b.depth)) r.depth else r.depth
end Bk
theorem Bk.cM(t:Bk):t.flat.length=t.len:=by
 induction t with
 | nil=>rfl
 | cons x a b r B E u=>grind[flat,len]
theorem Bk.uU(t:Bk):0<=t.depth/\t.depth<=t.len:=by
 induction t with
 | nil=>simp[Bk.depth,Bk.len]
 | cons x a b r B E u=>
  grind[depth,len]
def Mj:Nat->List bE->Option Bk
 | _,[]=>some .nil
 | 0,_::_=>none
 | n+1,x::l=>
  if 0<=x.body/\0<=x.eH/\x.body<=40/\x.eH<=40/\x.body+x.eH<=l.length then
   match Mj n (l.take x.body.toNat),Mj n ((l.drop x.body.toNat).take x.eH.toNat),Mj n (l.drop (x.body.toNat+x.eH.toNat))with
   | some a,some b,some r=>some (.cons x a b r)
   | _,_,_=>none
  else none
theorem sm:∀n l t,Mj n l=some t->l=t.flat/\t.str
 | _,[],t,h=>by
  have h:some Bk.nil=some t:=by unfold Mj at h;exact h
  cases h;exact⟨rfl,trivial⟩
 | 0,x::l,t,h=>by cases h
 | n+1,x::l,t,h=>by
  unfold Mj at h
  split at h
  .rename_i hb
   obtain⟨h1,h2,h3,h4,h5⟩:=hb
   cases ha:Mj n (l.take x.body.toNat)with
   | none=>grind
   | some a=>
    cases hb:Mj n ((l.drop x.body.toNat).take x.eH.toNat)with
    | none=>grind
    | some b=>
     cases hr:Mj n (l.drop (x.body.toNat+x.eH.toNat))with
     | none=>grind
     | some r=>
      rw[ha,hb,hr]at h
      cases h
      obtain⟨u,E⟩:=sm n _ _ ha
      obtain⟨b1,b2⟩:=sm n _ _ hb
      obtain⟨G,B⟩:=sm n _ _ hr
      have I:=gj List.length u
      have lb:=gj List.length b1
      rw[Bk.cM,ml]at I
      rw[Bk.cM,ml,oD]at lb
      refine⟨?_,bP,bP,bP,bP,E,b2,B⟩
      unfold Bk.flat
      rw[<- u,<- b1,<- G,<- qv,ob,ob]
  .cases h
theorem NN(t:Bk):t.str->∀n,t.len<=n->Mj n t.flat=some t:=by
 induction t with
 | nil=>intro _ n _;cases n<;>rfl
 | cons x a b r J I B=>
  intro h n u
  obtain⟨h1,h2,h3,h4,G,hb,E⟩:=h
  cases n with
  | zero=>simp[Bk.len]at u
  | succ n=>
   have u:a.len+b.len+r.len<=n:=by simp[Bk.len]at u;omega
   have M:=a.cM
   have lb:=b.cM
   unfold Bk.flat Mj
   rw[fi ⟨bP,bP,bP,bP,cR⟩,show x.body.toNat=a.flat.length from bP,JI,x9,show x.eH.toNat=b.flat.length from bP,JI,<- qv,x9,x9,
    J G n bP,I hb n bP,B E n bP]
def nU(l:List bE):Option Bk:=Mj l.length l
def j9{l:List bE}{t:Bk}(h:nU l=some t):l=t.flat/\t.str:=sm _ _ _ h
theorem mX{t:Bk}(h:t.str):nU t.flat=some t:=NN t h _ (by rw[Bk.cM];omega)
def e8(l:List bE)(loops:Int):Int:=match nU l with|some t=>if t.ok loops then t.depth else -1|none=>-1
theorem A1(loops:Int):e8 [] loops=0:=rfl
theorem uV(l:List bE)(loops:Int) : -1<=e8 l loops/\e8 l loops<=l.length:=by
 unfold e8
 cases h:nU l with
 | none=>grind
 | some t=>
  obtain⟨rfl,_⟩:=j9 h
  have:=t.uU
  simp only[Bk.cM]
  omega
def uW(x:bE)(l:List bE):Prop:=0<=x.body/\0<=x.eH/\x.body<=40/\x.eH<=40/\x.body+x.eH<=l.length
theorem KS{x:bE}{l:List bE}{loops:Int}(h:¬ (uW x l/\Bk.FW x loops=true)):e8 (x::l) loops = -1:=by
 unfold e8
 cases hb:nU (x::l)with
 | none=>rfl
 | some t=>
  obtain⟨u,B⟩:=j9 hb
  cases t with
  | nil=>cases u
  | cons y a b r=>
   obtain⟨rfl,rfl⟩:=VK.inj u
   obtain⟨h1,h2,h3,h4,_⟩:=B
   have:Bk.FW x loops=false:=by
    cases hk:Bk.FW x loops with
    | false=>rfl
    | true=>exact absurd ⟨⟨bP,bP,bP,bP,by simp[Bk.cM];omega⟩,hk⟩ h
   have h:(Bk.cons x a b r).ok loops=false:=by unfold Bk.ok;grind
   grind
theorem yZ{x:bE}{l:List bE}{loops:Int}(h:uW x l)(V:Bk.FW x loops=true) :
  e8 (x::l) loops=(let A:=e8 (l.take x.body.toNat) (Bk.I2 x loops);let B:=e8 ((l.drop x.body.toNat).take x.eH.toNat) (Bk.I2 x loops);let R:=e8 (l.drop (x.body.toNat+x.eH.toNat)) loops
   if A<0\/B<0\/R<0 then -1 else if Bk.vU x then max (max (1+A) (1+B)) R else R):=by
 obtain⟨h1,h2,h3,h4,h5⟩:=h
 have e:l=l.take x.body.toNat++((l.drop x.body.toNat).take x.eH.toNat++l.drop (x.body.toNat+x.eH.toNat)):=by
  rw[<- qv,ob,ob]
 have la:(l.take x.body.toNat).length=x.body.toNat:=cR
 have lb:((l.drop x.body.toNat).take x.eH.toNat).length=x.eH.toNat:=by rw[ml,oD];omega
 simp only[]
 have W:∀t,nU (x::l)=some t->∃a b r,t=.cons x a b r/\nU (l.take x.body.toNat)=some a/\nU ((l.drop x.body.toNat).take x.eH.toNat)=some b/\nU (l.drop (x.body.toNat+x.eH.toNat))=some r:=by
  intro t ht
  obtain⟨M,Z⟩:=j9 ht
  cases t with
  | nil=>cases M
  | cons y a b r=>
   obtain⟨rfl,u⟩:=VK.inj M
   obtain⟨g1,g2,_,_,G,hb,E⟩:=Z
   have I:x.body.toNat=a.flat.length:=by rw[Bk.cM];omega
   have J:x.eH.toNat=b.flat.length:=by rw[Bk.cM];omega
   refine⟨a,b,r,rfl,?_,?_,?_⟩
   .rw[u,I,JI];exact mX G
   .rw[u,I,J,x9,JI];exact mX hb
   .rw[u,<- qv,I,J,x9,x9];exact mX E
 cases G:nU (l.take x.body.toNat)with
 | none=>
  have:nU (x::l)=none:=by
   cases hh:nU (x::l)with
   | none=>rfl
   | some t=>grind
  unfold e8;rw[this,G];simp
 | some a=>
  cases hb:nU ((l.drop x.body.toNat).take x.eH.toNat)with
  | none=>
   have:nU (x::l)=none:=by
    cases hh:nU (x::l)with
    | none=>rfl
    | some t=>grind
   unfold e8;rw[this,hb];simp
  | some b=>
   cases E:nU (l.drop (x.body.toNat+x.eH.toNat))with
   | none=>
    have:nU (x::l)=none:=by
     cases hh:nU (x::l)with
     | none=>rfl
     | some t=>grind
    unfold e8;rw[this,E];simp
   | some r=>
    obtain⟨U,O⟩:=j9 G
    obtain⟨b1,b2⟩:=j9 hb
    obtain⟨r1,Y⟩:=j9 E
    have u:x::l=(Bk.cons x a b r).flat:=by unfold Bk.flat;grind
    rw[U,Bk.cM]at la
    rw[b1,Bk.cM]at lb
    have:nU (x::l)=some (.cons x a b r):=by rw[u];exact mX ⟨bP,bP,bP,bP,O,b2,Y⟩
    have na:=a.uU
    have nb:=b.uU
    have nr:=r.uU
    unfold e8
    rw[this,G,hb,E]
    simp only[Bk.ok,V,Bool.true_and]
    cases h1:a.ok (Bk.I2 x loops)<;>cases h2:b.ok (Bk.I2 x loops)<;>cases h3:r.ok loops<;>simp[Bk.depth]
    omega
def ry(n d:Int):Int:=if d<0 then -1 else max n d
def NP{xs l:List bE}{x:bE}{loops n:Int}(h:e8 xs loops=ry n (e8 (x::l) loops))(hb:¬ (uW x l/\Bk.FW x loops=true)):e8 xs loops = -1:=by
 rw[h,KS hb];rfl
def WJ{xs l:List bE}{x:bE}{loops n:Int}(h:e8 xs loops=ry n (e8 (x::l) loops))(G:uW x l)(E:Bk.FW x loops=true)(hb:Bk.vU x=true)(A B:Int)
  (I:A=e8 (l.take x.body.toNat) (Bk.I2 x loops)) (u:B=e8 ((l.drop x.body.toNat).take x.eH.toNat) (Bk.I2 x loops)) :
  (A<0\/B<0->e8 xs loops = -1)/\(¬ (A<0\/B<0)->e8 xs loops=ry (max (max n (1+A)) (1+B)) (e8 (l.drop (x.body.toNat+x.eH.toNat)) loops)):=by
 have J:=uV (l.drop (x.body.toNat+x.eH.toNat)) loops
 rw[h,yZ G E]
 simp only[<- I,<- u,hb,if_true]
 unfold ry
 constructor<;>intro h<;>repeat' split
 all_goals omega
def abt{xs l:List bE}{x:bE}{loops n:Int}(h:e8 xs loops=ry n (e8 (x::l) loops))(E:uW x l)(B:Bk.FW x loops=true)(hb:Bk.vU x=false) :
  e8 xs loops=ry n (e8 (l.drop (x.body.toNat+x.eH.toNat)) loops):=by
 have u:x.body=0/\x.eH=0:=by
  unfold Bk.FW at B
  unfold Bk.vU at hb
  obtain⟨h1,h2,_⟩:=E
  grind
 rw[h,yZ E B,u.1,u.2]
 have I:l.take (U4 0)=[]:=rfl
 have G:(l.drop (U4 0)).take (U4 0)=[]:=rfl
 simp only[hb,I,G,A1]
 unfold ry
 repeat' split
 all_goals first|omega|simp_all
theorem drop_cons{α:Type}{xs:List α}{k:Nat}{x:α}(h:xs[k]?=some x):xs.drop k=x::xs.drop (k+1):=by
 obtain⟨h1,h2⟩:=jq.1 h
 rw[pd h1,h2]
theorem tn{α:Type}(xs:List α){a b c n:Nat}(h:b=a+n)(hc:c=a):(xs.take b).drop c=(xs.drop a).take n:=by
 subst h hc;rw[List.drop_take,Nat.add_sub_cancel_left]
def WK:List ByteArray:=[⟨#[]⟩,⟨#[114,101]⟩,⟨#[114,110]⟩,⟨#[110,101]⟩,⟨#[114,110,101,102]⟩,⟨#[110]⟩,⟨#[110]⟩,⟨#[]⟩,⟨#[]⟩,⟨#[110]⟩,⟨#[110]⟩,⟨#[101,98]⟩,⟨#[107,98]⟩,⟨#[]⟩,⟨#[101]⟩]
def fa(k:Int):ByteArray:=if k<1\/14<k then⟨#[]⟩else WK.getD k.toNat ⟨#[]⟩
def eg(s:ByteArray)(c:Int):Bool:=(fO s).any λb=>decide ((b.toNat:Int)=c)
def oe(x:bE):Bool:=
 !(decide (x.kind<1)||decide (14<x.kind)||decide (x.at_<0)||decide (4000<x.at_)) &&
 !((eg (fa x.kind) 114 != fB x.eQ)||(!eg (fa x.kind) 114&&decide (¬ x.eQ=⟨#[]⟩))||(eg (fa x.kind) 110 != fB x.name)||(!eg (fa x.kind) 110&&decide (¬ x.name=⟨#[]⟩))) &&
 !((eg (fa x.kind) 101 != fN x.e)||(!eg (fa x.kind) 101&&decide (0<x.e.length))||(eg (fa x.kind) 102 != fN x.f)||(!eg (fa x.kind) 102&&decide (0<x.f.length))) &&
 (if eg (fa x.kind) 107=true then decide (1<=x.n/\x.n<=8)else decide (x.n=0))
def pR(l:List bE):Bool:=decide (l.length<=40)&&!l.any (λx=>!oe x)&&decide (0<=e8 l 0/\e8 l 0<=12)
def pS(n:Int):Bool:=decide (0<=n/\n<=4000)
def kV(u:Int)(c:bO):Bool:=!fB c.name||decide (c.n<0)||decide (u<c.n)||!pS c.at_
def oI(u:Int)(l:List bO):Bool:=!l.any (kV u)
def Ch(nb:Bool)(t:bW):Bool:=(nb != fB t.name)||(!nb&&decide (¬ t.name=⟨#[]⟩))||!pS t.at_||!pR t.body
def mg(nb:Bool)(t:bW):Bool:=Ch nb t||t.dJ.any (λs=>!fB s)
def uX(nb:Bool)(l:List bW):Bool:=!l.any (mg nb)
def og(l:List bO):Bool:=decide ((l.length:Int)=0)||!oI 4294967296 l
def mh(c:gI):Bool:=!pS c.at_||!fN c.e
def jK(p:bQ):Bool:=!p.lines.any og&&!p.ef.any mh&&(oI 4294967296 p.iN&&oI 0 p.eX&&uX true p.threads&&uX false p.recover&&decide (p.recover.length<=1))
def SzS(x:bE):Prop:=x.eQ.size<=1048576/\x.name.size<=1048576/\x.e.length<=1048576/\x.f.length<=1048576/\(∀y∈x.e,y.name.size<=1048576)/\(∀y∈x.f,y.name.size<=1048576)
def Rh(t:bW):Prop:=t.name.size<=1048576/\(∀s∈t.dJ,s.size<=1048576)/\(∀x∈t.body,SzS x)
structure PZ(p:bQ):Prop extends PS p where
 zl:∀l∈p.lines,∀c∈l,c.name.size<=1048576
 zv:∀c∈p.iN,c.name.size<=1048576
 zk:∀c∈p.eX,c.name.size<=1048576
 zt:∀t∈p.threads,Rh t
 zr:∀t∈p.recover,Rh t
 zc:∀c∈p.ef,c.e.length<=1048576/\∀y∈c.e,y.name.size<=1048576
variable (w:World) (K:Value->hM)
def S293(G B:Value):Prop:=
 jC (λE u a=>∀_:Env,
 eo (λI=>lN 9 G λb=>bA .lss 3 u b λc=>cV c (dW hH (oK 9 G u) λd=>gM hH B [d] a λe f=>I e f) (I ff a)) (λg h=>∀_:Env,
 cV g (bB .add 3 u (i 1) λj=>E j h) (K u h))) (λE=>E (i 0) w)
theorem So(B u:Value)(h:S293 w K B u):CR 293 [B,u] w K:=
 lE 20 (λ_=>.nil) 16 [.tmp 4] Tryz.func293 h
def S232(E G:Value):Prop:=
 cF 305 [E,G] w λa b=>lN 22 a λc=>nX (λu B d e=>∀_:Env,
 bA .lss 3 d c λf=>cV f (iA 22 a d λg=>lA 3 g e λh=>cF 232 [E,h] e λj k=>dW hH (Builtin.max_ #[3,3] 3 [B,j].toArray) λl=>bB .add 3 d (i 1) λn=>
 u l n k) (bB .add 3 B (i 1) λo=>K o e)) (λu=>u (i 0) (i 0) b)
theorem Sp(B u:Value)(h:S232 w K B u):CR 232 [B,u] w K:=
 lE 24 (λ_=>.nil) 16 [.tmp 4] Tryz.func232 h
def ahw:dI:=λi=>match i with
 | 8=>(.of [(0,[]),(1,[]),(2,[]),(3,[]),(4,[]),(5,[]),(6,[]),(7,[]),(8,[]),(9,[]),(10,[]),(11,[4,9]),(12,[])])
 | _=>.nil
def S59(u E:Value):Prop:=
 lW hH (Instr.box 86 E) w λB a=>cF 121 [u] a λb c=>dW hH (Op.unary .not b) λd=>cV d (K (.tuple #[(.slice none 0 0),(i 8)]) c) (cF 125 [u] c λe f=>
 cF 124 [e,(.func (Go.Fn.func 122) [].toArray [B].toArray)] f λg h=>cV g (K (.tuple #[(.slice none 0 0),(i 9)]) h) (lA 86 B h λj=>cF 126 [u,(i 0),j] h λk l=>
 K (.tuple #[k,(i 0)]) l))
theorem WL(B u:Value)(h:S59 w K B u):CR 59 [B,u] w K:=
 lE 18 (λ_=>.nil) 48 [.tmp 4,.tmp 5] Tryz.func59 h
def S78(E B u:Value):Prop:=
 lN 86 B λa=>lN 22 u λb=>bA .neq 3 a b λc=>cV c (K (.tuple #[(i 0),(i 1)]) w) (cF 59 [E,B] w λd e=>xT d 0 λf=>xT d 1 λg=>bB .neq 40 g (i 0) λh=>
 cV h (K (.tuple #[(i 0),g]) e) (cF 79 [f,u] e λj k=>xT j 0 λl=>xT j 1 λn=>K (.tuple #[l,n]) k))
theorem WM(E B u:Value)(h:S78 w K E B u):CR 78 [E,B,u] w K:=
 lE 29 (λ_=>.nil) 192 [.tmp 6,.tmp 7] Tryz.func78 h
theorem Vg:PL 291:=dF Tryz.func291
theorem abv:PL 295:=dF Tryz.func295
theorem abw:PL 293:=dF Tryz.func293
theorem abx:PL 294:=dF Tryz.func294
theorem aby:PL 292:=dF Tryz.func292
theorem En:PL 206:=dF Tryz.func206
theorem NR:PL 304:=dF Tryz.func304
theorem abz:PL 229:=dF Tryz.func229
theorem abA:PL 228:=dF Tryz.func228
theorem NS:PL 231:=dF Tryz.func231
theorem abB:PL 305:=dF Tryz.func305
theorem Vh:PL 232:=dF Tryz.func232
theorem I3:PL 121:=dF Tryz.func121
theorem abC:PL 125:=dF Tryz.func125
theorem Vi:PL 126:=dF Tryz.func126
theorem ahx:PL 59:=dF Tryz.func59
theorem abD:PL 122:=dF Tryz.func122
theorem abE:PL 78:=dF Tryz.func78
theorem abF:PL 230:=dF Tryz.func230
theorem abG:PL 303:=dF Tryz.func303
theorem Vj:PL 124:=dF Tryz.func124
theorem abH:PL 234:=dF Tryz.func234
theorem Vk:PL 123:=dF Tryz.func123
theorem NT:PL 233:=dF Tryz.func233
end Go.Proofs.YtdncbeepkacgbaaGreatDoor
namespace Go.Fw
open Go.MapKept (Stamped IsKey)
open Go.ChangeMaps (setBlock)
def jn(w:World)(b:Nat)(ks:List Int)(vs:List Value):Prop:=
 ∃es clock,w.heap[b]?=some (.map es clock)/\Stamped es clock/\es.toList.map (·.key)=ks.map (mj .i64)/\es.toList.map (·.val)=vs
def iC:List Int->Int->Option Nat
 | [],_=>none
 | x::xs,k=>if x=k then some 0 else(iC xs k).map (· + 1)
theorem ig:∀{ks:List Int}{k:Int}{j:Nat},iC ks k=some j->ks[j]?=some k
 | x::xs,k,j,h=>by
  unfold iC at h
  split at h
  .grind
  .cases hh:iC xs k with
   | none=>grind
   | some i=>rw[hh]at h;simp at h;subst h;simpa using ig hh
theorem jo:∀{ks:List Int}{k:Int},iC ks k=none↔k ∉ ks
 | [],_=>by simp[iC]
 | x::xs,k=>by
  unfold iC
  by_cases e:x=k
  .simp[e]
  .rw[ez e,Option.map_eq_none_iff,jo,oS]
   grind
theorem nt:∀{ks:List Int}{k:Int}{j:Nat},ks.Nodup->ks[j]?=some k->iC ks k=some j
 | x::xs,k,0,_,h=>by simp at h;simp[iC,h]
 | x::xs,k,j+1,hn,h=>by
  rw[GR]at h
  have u:=l0 h
  have:x≠k:=λe=>(yQ.1 hn).1 (e▸u)
  simp[iC,this,nt (yQ.1 hn).2 h]
def look{β:Type}(ks:List Int)(vs:List β)(k:Int):Option β:=(iC ks k).bind (vs[·]?)
def pU{β:Type}(f:Int->β)(k:Int)(x:β):Int->β:=λj=>if j=k then x else f j
section
variable {P:Program}{w w0 w':World}{A:Nat->Prop}{L:List HP}{b:Nat}{ks:List Int}{vs:List Value}
theorem jn.of_eq(h:jn w b ks vs)(u:w'.heap[b]?=w.heap[b]?):jn w' b ks vs:=by
 grind[jn]
theorem jn.lt(h:jn w b ks vs):b<w.heap.size:=by obtain⟨es,c,h1,_⟩:=h;grind
theorem jn.ext(h:jn w b ks vs)(e:Ext w w'):jn w' b ks vs:=h.of_eq (e.bM b h.lt λh=>h)
theorem jn.len(h:jn w b ks vs):ks.length=vs.length:=by
 obtain⟨es,c,_,_,h3,h4⟩:=h
 have:=gj List.length h3;grind
theorem jn.nodup(h:jn w b ks vs):ks.Nodup:=by
 obtain⟨es,c,_,h2,h3,h4⟩:=h
 have:=h2.2.2
 grind
def Eo(b:Nat)(ks:List Int)(vs:List Value):HP where
 p w F:=jn w b ks vs/\∀k,F k↔k=b
 loc w w' F h hh:=⟨h.1.of_eq (hh b ((h.2 b).2 rfl)),h.2⟩
 lt w F b' h hb:=by rw[(h.2 b').1 hb];exact h.1.lt
theorem KT{es:Array MapEntry}(h3:es.toList.map (·.key)=ks.map (mj .i64)):∀x∈es.toList,IsKey (.int .i64) x.key:=by
 intro x u
 have:x.key∈es.toList.map (·.key):=nT.2 ⟨x,u,rfl⟩
 rw[h3]at this
 obtain⟨k,_,e⟩:=nT.1 this
 rw[<- e];simp[IsKey]
theorem y7{T:TypeId}{k:Int}{es:Array MapEntry}(u:P.underlying T=some (.int .i64))(B:ks.Nodup)(h3:es.toList.map (·.key)=ks.map (mj .i64)) :
  (iC ks k=none/\(K9 T (hU k) es.toList).run P w=.ok none w)\/∃j e,iC ks k=some j/\es.toList[j]?=some e/\e.key=hU k/\(K9 T (hU k) es.toList).run P w=.ok (some (j,e.val)) w:=by
 rcases MapKept.findNow_spec (d:=.int .i64) (k:=hU k) (by simp[IsKey]) es.toList 0 (KT h3)with⟨h1,h2⟩|⟨j,e,h1,h2,h4⟩
 .refine .inl ⟨jo.2 λE=>?_,MapKept.run_findKey u h1⟩
  have:mj .i64 k∈es.toList.map (·.key):=cR
  grind
 refine .inr ⟨j,e,nt B ?_,h2,h4,by rw[o6]at h1;exact MapKept.run_findKey u h1⟩
 have:(es.toList.map (·.key))[j]?=some (hU k):=cR
 grind
theorem tu{T B E:TypeId}{z:Value}{k:Int}(h:jn w b ks vs)(ht:P.underlying T=some (.map B E))(G:P.underlying B=some (.int .i64))(u:kj P E z) :
  (qn T (.map (some b)) (hU k) false).run P w=.ok ((look ks vs k).getD z) w:=by
 have J:=h.nodup
 obtain⟨es,c,h1,h2,h3,h4⟩:=h
 have I:(zeroValue E).run P w=.ok z w:=by
  unfold kj dB at u
  cases hi:P.info? E with
  | none=>grind
  | some i=>
   rw[hi]at u
   simp only[wm,nN.injEq]at u
   refine eM ?_ w
   unfold zeroValue;rw[bT,jg hi];simp only[kO,u];rfl
 have hc:=MapKept.run_checkKey (P:=P) (w:=w) (kt:=B) (k:=hU k) G (by simp[IsKey]) es.isEmpty 9999
 rcases y7 (w:=w) (k:=k) G J h3 with⟨h5,h6⟩|⟨j,e,h5,h6,O,M⟩
 .simp[qn,run_underlying ht,MapKept.run_getObj_map h1,hc,h6,I,Result.andThen,look,h5]
 have:vs[j]?=some e.val:=cR
 simp[qn,run_underlying ht,MapKept.run_getObj_map h1,hc,M,Result.andThen,look,h5,this]
theorem gX(o:Obj)(hb:b<w.heap.size):(setBlock w b o).heap[b]?=some o:=by simp[setBlock,hb]
theorem fH.setBlock(w:World)(b:Nat)(o:Obj):fH (· = b) w (setBlock w b o):=
 ⟨rfl,rfl,rfl,by simp[ChangeMaps.setBlock],λk _ u=>by simp only[ChangeMaps.setBlock];grind⟩
theorem kc{es:Array MapEntry}{clock:Nat}{o:Obj}(h1:w.heap[b]?=some (.map es clock)):(setObj b o).run P w=.ok () (setBlock w b o):=by
 simp[setObj,Sem.run,h1,setBlock]
theorem Sq{T I E:TypeId}{v:Value}{k:Int}(h:jn w b ks vs)(ht:P.underlying T=some (.map I E))(M:P.underlying I=some (.int .i64)) :
  ∃w',(qJ T (.map (some b)) (hU k) v).run P w=.ok () w'/\fH (· = b) w w'/\
   (match iC ks k with|some j=>jn w' b ks (vs.set j v)|none=>jn w' b (ks++[k]) (vs++[v])):=by
 have V:=h.nodup
 have J:=h.lt
 obtain⟨es,c,h1,h2,h3,h4⟩:=h
 have hc:=MapKept.run_checkKey (P:=P) (w:=w) (kt:=I) (k:=hU k) M (by simp[IsKey]) false 9999
 rcases y7 (w:=w) (k:=k) M V h3 with⟨h5,h6⟩|⟨j,e,h5,h6,U,Z⟩
 .refine⟨_,?_,fH.setBlock w b (.map (es.push ⟨hU k,v,c⟩) (c+1)),?_⟩
  .simp[qJ,run_underlying ht,MapKept.run_getObj_map h1,hc,h6,kc h1,Result.andThen]
  rw[h5]
  refine⟨_,_,gX _ J,MapKept.stamped_push h2 λx O e=>?_,by simp[h3],by simp[h4]⟩
  have:x.key∈es.toList.map (·.key):=nT.2 ⟨x,O,rfl⟩
  rw[h3,e]at this
  obtain⟨k',G,u⟩:=nT.1 this
  simp at u
  exact jo.1 h5 (u▸G)
 have W:es[j]?=some e:=cR
 have Y:(FR e.key (hU k)).run P w=.ok (hU k) w:=by
  rw[U];unfold FR;simp[Instr.sameBits]
 refine⟨_,?_,fH.setBlock w b (.map (es.modify j λe=>{e with key:=hU k,val:=v}) c),?_⟩
 .simp[qJ,run_underlying ht,MapKept.run_getObj_map h1,hc,Z,kc h1,Result.andThen,W,Y]
 rw[h5]
 have G:∀u,es[j]?=some u->({u with key:=hU k,val:=v}:MapEntry).key=u.key:=λu B=>by
  grind
 refine⟨_,_,gX _ J,MapKept.stamped_modify h2 j _ (λ_ _=>rfl) (λu _ B=>G u B),?_,?_⟩
 .rw[MapKept.modify_keys j _ G,h3]
 rw[<- h4]
 apply u3
 grind
theorem Sr{T u E R:TypeId}{J:Array TypeId}{k:Int}(h:jn w b ks vs)(I:J[0]?=some T)(ht:P.underlying T=some (.map u E))(M:P.underlying u=some (.int .i64)) :
  ∃w',(Builtin.delete_ J R [.map (some b),hU k].toArray).run P w=.ok (.tuple #[]) w'/\fH (· = b) w w'/\
   (match iC ks k with|some j=>jn w' b (ks.eraseIdx j) (vs.eraseIdx j)|none=>jn w' b ks vs):=by
 have O:=h.nodup
 have B:=h.lt
 obtain⟨es,c,h1,h2,h3,h4⟩:=h
 have hc:=MapKept.run_checkKey (P:=P) (w:=w) (kt:=u) (k:=hU k) M (by simp[IsKey]) es.isEmpty 9999
 rcases y7 (w:=w) (k:=k) M O h3 with⟨h5,h6⟩|⟨j,e,h5,h6,V,U⟩
 .refine⟨_,?_,fH.setBlock w b (.map es c),?_⟩
  .simp[Builtin.delete_,I,run_underlying ht,MapKept.run_getObj_map h1,hc,h6,kc h1,Result.andThen]
  rw[h5]
  exact⟨_,_,gX _ B,h2,h3,h4⟩
 have W:j<es.size:=cR
 refine⟨_,?_,fH.setBlock w b (.map (es.eraseIdxIfInBounds j) c),?_⟩
 .simp[Builtin.delete_,I,run_underlying ht,MapKept.run_getObj_map h1,hc,U,kc h1,Result.andThen]
 rw[h5]
 have G:(es.eraseIdxIfInBounds j).toList=es.toList.eraseIdx j:=by
  simp_all
 refine⟨_,_,gX _ B,MapKept.stamped_erase h2 j,?_,?_⟩
 .rw[G,ChangeMaps.map_eraseIdx,h3,ChangeMaps.map_eraseIdx]
 rw[G,ChangeMaps.map_eraseIdx,h4]
theorem Ep{T:TypeId}{K:Value->hM}(u:St w0 A L w)(k:∀b w',St w0 A (Eo b [] []::L) w'->K (.map (some b)) w'):lW P (Ik T none) w K:=
 ⟨_,_,rfl,k _ _ (u.new (Ext.push w (.map #[] 0)) (F:=λk=>k=w.heap.size) ⟨⟨#[],0,jQ _ _,MapKept.stamped_empty 0,rfl,rfl⟩,λ_=>Iff.rfl⟩ λb hb=>by rw[hb];exact oq _)⟩
theorem St.Er(u:St w0 A (Eo b ks vs::L) w):jn w b ks vs:=by obtain⟨F,h,_⟩:=u.head;exact h.1
end
section
variable {α:Type}[Flat α] {P:Program}{w w0 w':World}{A:Nat->Prop}{L:List HP}{b:Nat}{f:Int->List α}
abbrev xF(s:SV)(x:List α):HP:=bH (ia s) x
def mI(b:Nat)(f:Int->List α):HP:=oW λks=>oW λu:List SV=>oW λB:List (List α)=>fact (f=λk=>(look ks B k).getD []) (sep (Eo b ks (u.map ia)) (gp xF u B))
def qp(w:World)(b:Nat)(f:Int->List α):Prop:=∃ks,∃u:List SV,jn w b ks (u.map ia)/\(∀(i:Nat) (k:Int) (s:SV),ks[i]?=some k->u[i]?=some s->dy (λ_=>True) w (ia s) (f k))/\∀k,k ∉ ks->f k=[]
theorem qp.ext(h:qp w b f)(e:Ext w w'):qp w' b f:=by
 obtain⟨ks,u,h1,h2,h3⟩:=h;exact⟨ks,u,h1.ext e,λi k s a c=>(h2 i k s a c).ext e,h3⟩
theorem lT{β:Type}{ks:List Int}{xs:List β}{k:Int}{i:Nat}{x:β}(u:ks.Nodup)(h1:ks[i]?=some k)(h2:xs[i]?=some x):look ks xs k=some x:=by
 unfold look;rw[nt u h1];exact h2
theorem lI{β:Type}{ks:List Int}{xs:List β}{k:Int}(h:k ∉ ks):look ks xs k=none:=by unfold look;rw[jo.2 h];rfl
theorem mI.rd{F:Nat->Prop}(h:(mI b f).p w F):qp w b f:=by
 obtain⟨ks,J,u,G,V,M,h1,h2,_,_⟩:=h
 refine⟨ks,J,h1.1,λi k s B I=>?_,λk B=>by rw[G];dsimp only;rw[lI B];rfl⟩
 have U:=vM h2
 have hi:i<u.length:=by have:=(jq.1 I).1;omega
 have E:u[i]?=some u[i]:=j0 hi
 have O:St w M [gp xF J u] w:=St.begin h2
 have:=O.abk I E (Φ:=λw=>dy (λ_=>True) w (ia s) u[i]) λh=>(bH.rd h).mono λ_ _=>trivial
 rw[G];dsimp only
 rw[lT h1.1.nodup B E];exact this
theorem St.NU(u:St w0 A (mI b f::L) w):qp w b f:=by obtain⟨F,h,_⟩:=u.head;exact mI.rd h
theorem qp.look{T G E:TypeId}{k:Int}(h:qp w b f)(ht:P.underlying T=some (.map G E))(M:P.underlying G=some (.int .i64))(J:kj P E (.slice none 0 0)) :
  ∃s:SV,(qn T (.map (some b)) (hU k) false).run P w=.ok (ia s) w/\dy (λ_=>True) w (ia s) (f k):=by
 obtain⟨ks,u,h1,h2,h3⟩:=h
 have B:=tu (P:=P) (k:=k) h1 ht M J
 cases qq:iC ks k with
 | none=>
  have:Fw.look ks (u.map ia) k=none:=by unfold Fw.look;grind
  rw[this]at B
  exact⟨bZ,B,by rw[h3 k (jo.1 qq)];exact dy.nil _ _⟩
 | some j=>
  have U:=ig qq
  have O:=h1.len
  have I:j<u.length:=cR
  have V:u[j]?=some u[j]:=j0 I
  have:Fw.look ks (u.map ia) k=some (ia u[j]):=by unfold Fw.look;grind
  grind
theorem qp.abJ{T G E:TypeId}{k:Int}(h:qp w0 b f)(ht:P.underlying T=some (.map G E))(M:P.underlying G=some (.int .i64))(J:kj P E (.slice none 0 0)) :
  ∃s:SV,(∀w,Ext w0 w->(qn T (.map (some b)) (hU k) false).run P w=.ok (ia s) w)/\dy (λ_=>True) w0 (ia s) (f k):=by
 obtain⟨ks,u,h1,h2,h3⟩:=h
 have B:∀w,Ext w0 w->_:=λw e=>tu (P:=P) (k:=k) (h1.ext e) ht M J
 cases qq:iC ks k with
 | none=>
  have:Fw.look ks (u.map ia) k=none:=by unfold Fw.look;grind
  rw[this]at B
  exact⟨bZ,B,by rw[h3 k (jo.1 qq)];exact dy.nil _ _⟩
 | some j=>
  have U:=ig qq
  have O:=h1.len
  have I:j<u.length:=cR
  have V:u[j]?=some u[j]:=j0 I
  have:Fw.look ks (u.map ia) k=some (ia u[j]):=by unfold Fw.look;grind
  grind
theorem A3{T u E:TypeId}{k:Int}{K:Value->Prop}(h:qp w0 b f)(e:Ext w0 w)(ht:P.underlying T=some (.map u E))(I:P.underlying u=some (.int .i64))(B:kj P E (.slice none 0 0))
  (G:∀s:SV,dy (λ_=>True) w0 (ia s) (f k)->K (ia s)):Aw P (qn T (.map (some b)) (hU k) false) w K:=by
 obtain⟨s,h1,h2⟩:=h.abJ (P:=P) (k:=k) ht I B;exact⟨_,h1 w e,G s h2⟩
def Es(b:Nat)(f:Int->List α)(k:Int)(s:SV):HP:=oW λks=>oW λB:List SV=>oW λE:List (List α)=>oW λvs:List Value=>
 fact ((∀u,u≠k->f u=(look ks E u).getD [])/\look ks vs k=(iC ks k).map (λ_=>ia s)/\(iC ks k=none->s=bZ)/\vs.length=B.length/\∀(i:Nat) (u:Int),ks[i]?=some u->u≠k->vs[i]?=(B[i]?).map ia) (sep (Eo b ks vs) (gp xF B E))
theorem St.Et{k:Int}(u:St w0 A (mI b f::L) w):∃s:SV,St w0 A (bH (ia s) (f k)::Es b f k s::L) w:=by
 obtain⟨ks,u⟩:=u.dS;obtain⟨B,u⟩:=u.dS;obtain⟨E,u⟩:=u.dS;obtain⟨I,u⟩:=u.lr
 replace u:=u.split
 have U:=u.Er
 have Y:=U.len
 have AI:=u.p1.jl
 have Z:=U.nodup
 rw[nQ]at Y
 cases qq:iC ks k with
 | none=>
  refine⟨bZ,?_⟩
  have W:look ks E k=none:=by unfold look;rw[qq];rfl
  have e:f k=[]:=by rw[I];dsimp only;rw[W];rfl
  rw[e]
  refine(St.dO ks (St.dO B (St.dO E (St.dO (B.map ia) (St.mE ⟨λJ _=>by rw[I],by unfold look;rw[qq];rfl,λ_=>rfl,by rw[nQ],λi J _ _=>by rw[n0]⟩ (St.join u)))))).eF
 | some j=>
  have G:=ig qq
  have hjk:=(jq.1 G).1
  have V:B[j]?=some (B[j]'(bP)):=j0 _
  have O:E[j]?=some (E[j]'(bP)):=j0 _
  refine⟨B[j]'(bP),?_⟩
  have e:f k=E[j]'(bP):=by rw[I];dsimp only;rw[lT Z G O];rfl
  rw[e]
  have h1:=(u.p1.focus V O).p1
  have h2:=(h1.eF (α:=α)).p1
  have h3:St w0 A (xF (bZ:SV) ([]:List α)::mH xF B E j::_::_::L) w:=h2.p1
  have h4:=h3.yO bP AI
  have h5:=h4.p2
  refine(St.dO ks (St.dO (B.set j bZ) (St.dO (E.set j []) (St.dO (B.map ia) (St.mE ⟨λJ M=>?_,by unfold look;rw[qq];simp[V],λh=>(by cases qq.symm.trans h),ew,λi J hi M=>?_⟩ (St.join h5)))))).p1
  .rw[I];dsimp only
   unfold look
   cases hq:iC ks J with
   | none=>rfl
   | some i=>
    have:j≠i:=λe=>M (by have:=ig hq;rw[<- e,G]at this;exact(nN.inj this).symm)
    simp[this]
  .rw[n0,Ef]
   rintro rfl
   rw[G]at hi;exact M (nN.inj hi).symm
theorem St.vV{T B E:TypeId}{k:Int}{s:SV}(u:St w0 A (Es b f k s::L) w)(ht:P.underlying T=some (.map B E))(I:P.underlying B=some (.int .i64))(G:kj P E (.slice none 0 0)) :
  (qn T (.map (some b)) (hU k) false).run P w=.ok (ia s) w:=by
 obtain⟨ks,u⟩:=u.dS;obtain⟨J,u⟩:=u.dS;obtain⟨M,u⟩:=u.dS;obtain⟨vs,u⟩:=u.dS;obtain⟨⟨_,h2,h3,_⟩,u⟩:=u.lr
 have:=tu (P:=P) (k:=k) u.split.Er ht I G
 rw[h2]at this
 cases qq:iC ks k with
 | none=>rw[qq]at this;rw[h3 qq];exact this
 | some j=>rw[qq]at this;exact this
theorem St.NV{k:Int}{s:SV}{xs:List α}(u:St w0 A (bH (ia s) xs::Es b f k s::L) w):St w0 A (mI b (pU f k xs)::L) w:=by
 replace u:=u.p1
 obtain⟨ks,u⟩:=u.dS;obtain⟨E,u⟩:=u.dS;obtain⟨I,u⟩:=u.dS;obtain⟨vs,u⟩:=u.dS;obtain⟨⟨Y,h2,h3,hvs,W⟩,u⟩:=u.lr
 replace u:=u.split
 have U:=u.Er
 have hl:=U.len
 have V:=U.nodup
 have AI:=u.p1.jl
 cases qq:iC ks k with
 | none=>
  have Z:=jo.1 qq
  have G:vs=E.map ia:=u3 λi=>by
   cases hi:ks[i]? with
   | none=>rw[uK]at hi;rw[l3 bP,l3 (by rw[nQ];omega)]
   | some B=>rw[W i B hi (λe=>Z (e▸l0 hi)),n0]
  have hx:xs=[]:=by
   obtain⟨F,h,_⟩:=u.p2.head
   rw[h3 qq]at h
   rcases h with⟨_,h,_⟩|⟨b',cap,rest,h,_⟩
   .exact h
   .cases h
  subst hx
  refine St.dO ks (St.dO E (St.dO I (St.mE ?_ (St.join ?_))))
  .funext B
   unfold pU
   by_cases e:B=k
   .subst e;rw[fi rfl,lI Z];rfl
   .rw[ez e,Y B e]
  .rw[<- G];exact u.p2.drop
 | some j=>
  have M:=ig qq
  have hjk:=(jq.1 M).1
  have Ri:E[j]?=some (E[j]'(bP)):=j0 _
  have Vl:I[j]?=some (I[j]'(bP)):=j0 _
  have J:vs[j]?=some (ia s):=by unfold look at h2;rw[qq]at h2;exact h2
  have h6:=((u.p1.focus Ri Vl).drop).p2
  have h7:St w0 A (xF s xs::mH xF E I j::_::L) w:=h6.p0
  have h8:=h7.yO bP AI
  refine St.dO ks (St.dO (E.set j s) (St.dO (I.set j xs) (St.mE ?_ (St.join ?_))))
  .funext B
   unfold pU
   by_cases e:B=k
   .subst e
    rw[fi rfl,lT V M (x:=xs) (by rw[x6 bP])];rfl
   .rw[ez e,Y B e]
    unfold look
    cases hq:iC ks B with
    | none=>rfl
    | some i=>
     have:j≠i:=λO=>e (by have:=ig hq;rw[<- O,M]at this;exact(nN.inj this).symm)
     simp[this]
  .have e:(E.set j s).map ia=vs:=by
    apply u3
    intro i
    rw[n0]
    by_cases e:j=i
    .subst e;rw[x6 bP,J];rfl
    .rw[Ef e]
     cases hi:ks[i]? with
     | none=>rw[uK]at hi;rw[l3 (show vs.length<=i by omega),l3 (show E.length<=i by omega)];rfl
     | some B=>rw[W i B hi λO=>e (by rw[O]at hi;have h1:=nt V hi;rw[qq]at h1;exact nN.inj h1)]
   rw[e];exact h8.p1
omit [Flat α]in
theorem KU{f:Int->List α}{k:Int}:pU f k (f k)=f:=by
 grind[pU]
theorem Eu{T Kt E:TypeId}{k:Int}{s s':SV}{xs:List α}{K:hM}(u:St w0 A (bH (ia s') xs::Es b f k s::L) w)(ht:P.underlying T=some (.map Kt E))(U:P.underlying Kt=some (.int .i64))
  (kk:∀w',St w0 A (mI b (pU f k xs)::L) w'->K w'):Md P (qJ T (.map (some b)) (hU k) (ia s')) w K:=by
 replace u:=u.p1
 obtain⟨ks,u⟩:=u.dS;obtain⟨G,u⟩:=u.dS;obtain⟨I,u⟩:=u.dS;obtain⟨vs,u⟩:=u.dS;obtain⟨⟨hf,h2,h3,hvs,NW⟩,u⟩:=u.lr
 replace u:=u.split
 have W:=u.Er
 have hl:=W.len
 have Y:=W.nodup
 have AI:=u.p1.jl
 obtain⟨w',r1,r2,J⟩:=Sq (P:=P) (v:=ia s') (k:=k) W ht U
 refine⟨w',r1,kk w' ?_⟩
 cases qq:iC ks k with
 | none=>
  rw[qq]at J
  have h5:St w0 A (Eo b (ks++[k]) (vs++[ia s'])::_::_::L) w':=u.mM λF O=>⟨F,⟨J,O.2⟩,λb hb=>.inl hb,r2.mono λk U=>(O.2 k).2 U⟩
  have FX:=jo.1 qq
  have M:vs=G.map ia:=u3 λi=>by
   cases hi:ks[i]? with
   | none=>rw[uK]at hi;rw[l3 bP,l3 (by rw[nQ];omega)]
   | some B=>rw[NW i B hi (λe=>FX (e▸l0 hi)),n0]
  have h6:=h5.p1
  have V:St w0 A (gp xF (G++[s']) (I++[xs])::_::L) w':=St.Ea (H:=xF (α:=α)) (p:=s') (x:=xs) h6.p2.p1
  refine St.dO (ks++[k]) (St.dO (G++[s']) (St.dO (I++[xs]) (St.mE ?_ (St.join ?_))))
  .funext B
   unfold pU
   by_cases e:B=k
   .subst e
    rw[fi rfl,lT (i:=ks.length) J.nodup ew (x:=xs) (by rw[List.getElem?_append_right bP];simp[show ks.length-I.length=0 from bP])];rfl
   .rw[ez e,hf B e]
    by_cases tS:B∈ks
    .obtain⟨i,hi,Vm⟩:=vR tS
     have Vn:ks[i]?=some B:=by rw[j0 hi,Vm]
     have ZO:I[i]?=some (I[i]'(bP)):=j0 _
     rw[lT Y Vn ZO,lT (i:=i) J.nodup (by rw[qi hi];exact Vn) (by rw[qi bP];exact ZO)]
    .rw[lI tS,lI (by simp[tS,e])]
  .have e:(G++[s']).map ia=vs++[ia s']:=by rw[M,rh];rfl
   rw[e];exact V.p1
 | some j=>
  rw[qq]at J
  have h5:St w0 A (Eo b ks (vs.set j (ia s'))::_::_::L) w':=u.mM λF O=>⟨F,⟨J,O.2⟩,λb hb=>.inl hb,r2.mono λk U=>(O.2 k).2 U⟩
  have Z:=ig qq
  have hjk:=(jq.1 Z).1
  have Ri:G[j]?=some (G[j]'(bP)):=j0 _
  have Vl:I[j]?=some (I[j]'(bP)):=j0 _
  have h6:=((h5.p1.focus Ri Vl).drop).p2
  have V:St w0 A (xF s' xs::mH xF G I j::_::L) w':=h6.p0
  have h8:=V.yO bP AI
  refine St.dO ks (St.dO (G.set j s') (St.dO (I.set j xs) (St.mE ?_ (St.join ?_))))
  .funext B
   unfold pU
   by_cases e:B=k
   .subst e
    rw[fi rfl,lT Y Z (x:=xs) (by rw[x6 bP])];rfl
   .rw[ez e,hf B e]
    unfold look
    cases hq:iC ks B with
    | none=>rfl
    | some i=>
     have:j≠i:=λe'=>e (by have:=ig hq;rw[<- e',Z]at this;exact(nN.inj this).symm)
     simp[this]
  .have e:(G.set j s').map ia=vs.set j (ia s'):=by
    apply u3
    intro i
    rw[n0]
    by_cases e:j=i
    .subst e;rw[x6 bP,x6 bP];rfl
    .rw[Ef e,Ef e]
     cases hi:ks[i]? with
     | none=>rw[uK]at hi;rw[l3 (show vs.length<=i by omega),l3 (show G.length<=i by omega)];rfl
     | some B=>rw[NW i B hi λe'=>e (by rw[e']at hi;have h1:=nt Y hi;rw[qq]at h1;exact nN.inj h1)]
   rw[e];exact h8.p1
theorem uY{T:TypeId}{K:Value->hM}(u:St w0 A L w)(k:∀b w',St w0 A (mI b (λ_=>([]:List α))::L) w'->K (.map (some b)) w'):lW P (Ik T none) w K:=
 Ep u λb w' h=>k b w' (St.dO [] (St.dO [] (St.dO ([]:List (List α)) (St.mE rfl (St.join ((h.new (Ext.refl w') (H:=gp xF [] []) (F:=bF) (λ_ h=>h) λ_ h=>h.elim).p1))))))
theorem Ev{T Kt E R:TypeId}{k:Int}{A2:Array TypeId}{K:Value->hM}(u:St w0 A (mI b f::L) w)(ha:A2[0]?=some T)(ht:P.underlying T=some (.map Kt E))(U:P.underlying Kt=some (.int .i64))
  (kk:∀v w',St w0 A (mI b (pU f k [])::L) w'->K v w'):lW P (Builtin.delete_ A2 R [.map (some b),hU k].toArray) w K:=by
 obtain⟨ks,u⟩:=u.dS;obtain⟨I,u⟩:=u.dS;obtain⟨J,u⟩:=u.dS;obtain⟨hf,u⟩:=u.lr
 replace u:=u.split
 have V:=u.Er
 have hl:=V.len
 have AI:=u.p1.jl
 have W:=V.nodup
 rw[nQ]at hl
 obtain⟨w',r1,r2,B⟩:=Sr (P:=P) (R:=R) (k:=k) V ha ht U
 refine⟨_,w',r1,kk _ w' ?_⟩
 cases qq:iC ks k with
 | none=>
  rw[qq]at B
  have h5:St w0 A (Eo b ks (I.map ia)::_::L) w':=u.mM λF O=>⟨F,⟨B,O.2⟩,λb hb=>.inl hb,r2.mono λk U=>(O.2 k).2 U⟩
  refine St.dO ks (St.dO I (St.dO J (St.mE ?_ (St.join h5))))
  funext k'
  unfold pU
  by_cases e:k'=k
  .subst e;rw[fi rfl];unfold look;rw[qq];rfl
  .rw[ez e,hf]
 | some j=>
  rw[qq]at B
  have hj:=ig qq
  have hjk:=(jq.1 hj).1
  have h5:St w0 A (Eo b (ks.eraseIdx j) ((I.map ia).eraseIdx j)::_::L) w':=u.mM λF O=>⟨F,⟨B,O.2⟩,λb hb=>.inl hb,r2.mono λk U=>(O.2 k).2 U⟩
  have Ri:I[j]?=some (I[j]'(bP)):=j0 _
  have Vl:J[j]?=some (J[j]'(bP)):=j0 _
  have h6:=(h5.p1.focus Ri Vl).drop.KK
  dsimp only at B
  rw[<- ChangeMaps.map_eraseIdx]at h6 B
  refine St.dO (ks.eraseIdx j) (St.dO (I.eraseIdx j) (St.dO (J.eraseIdx j) (St.mE ?_ (St.join h6.p1))))
  funext k'
  unfold pU
  by_cases e:k'=k
  .subst e
   rw[fi rfl,lI];rfl
   intro Dr
   obtain⟨i,hi,G⟩:=vR Dr
   rw[List.getElem_eraseIdx]at G
   split at G
   .have:=nt (j:=i) W (k:=k') (by rw[<- G];exact j0 _);rw[qq]at this;have:=nN.inj this;omega
   .have:=nt (j:=i+1) W (k:=k') (by rw[<- G];exact j0 _);rw[qq]at this;have:=nN.inj this;omega
  .rw[ez e,hf];dsimp only
   by_cases Y:k'∈ks
   .obtain⟨i,hi,G⟩:=vR Y
    have M:ks[i]?=some k':=by rw[j0 hi,G]
    have Z:J[i]?=some (J[i]'(bP)):=j0 _
    have hij:i≠j:=λe'=>e (by rw[e',hj]at M;exact(nN.inj M).symm)
    rw[lT W M Z]
    by_cases kI:i<j
    .rw[lT (i:=i) B.nodup (by rw[IX kI];exact M) (by rw[IX kI];exact Z)]
    .rw[lT (i:=i-1) B.nodup (by rw[Jg bP,show i-1+1=i from bP];exact M) (by rw[Jg bP,show i-1+1=i from bP];exact Z)]
   .rw[lI Y,lI λh=>Y ((List.eraseIdx_sublist ks j).subset h)]
end
section
variable {α:Type}[Flat α] {P:Program}{w w0 w':World}{A S:Nat->Prop}{L:List HP}{xs ys:List α}
theorem GN{T T2 E G b o dn dc:Nat}{z:Option Nat}{R:TypeId}{src:Value}{cs:List Value}(ht:dV P T=some (E,lx α,G,z))(hb:nZ w b cs)(u:dy S w src ys)
  (I:ys.length<=dn) (Y:o+ys.length*lx α<=cs.length) :
  ∃w',(Builtin.copy_ #[T,T2] R [.slice (some ⟨b,o,none⟩) dn dc,src].toArray).run P w=.ok (hU ys.length) w'/\nZ w' b (fS cs o (flat ys))/\fH (· = b) w w':=by
 obtain⟨M,B,hi,O,W,_⟩:=eA ht
 have J:=rZ (α:=α) (P:=P) (sz:=lx α) rfl u
 have rd:=u
 obtain⟨U,V,rfl,US,Z⟩:=rd
 obtain⟨w',h1,h2,h3⟩:=jw (P:=P) (o:=o) (flat ys) 0 cs w hb (by rw[cG];omega) uf
 refine⟨w',?_,bP,h3⟩
 simp[Builtin.copy_,run_underlying M,sizeOf,typeInfo,hi,Builtin.lenOf,xn I,J,O,h1,goInt]
theorem Ew{T T2 E iY:Nat}{z:Option Nat}{R:TypeId}{v src:Value}{K:Value->hM}(J:St w0 A (bH v xs::L) w)(ht:dV P T=some (E,lx α,iY,z))(I:dy S w src ys)(B:ys.length<=xs.length)
  (k:∀w',St w0 A (bH v (ys++xs.drop ys.length)::L) w'->K (hU ys.length) w'):lW P (Builtin.copy_ #[T,T2] R [v,src].toArray) w K:=by
 obtain⟨U,F,U',g1,g2,g3,g4,g5⟩:=J.oE
 rcases g1 with⟨rfl,rfl,hF⟩|⟨b,cap,rest,rfl,hb,M,hF⟩
 .obtain rfl:ys=[]:=by simpa using B
  obtain⟨hu,inf,hi,mB,td,_⟩:=eA ht
  have V:=rZ (α:=α) (P:=P) (sz:=lx α) rfl I
  obtain⟨sa,MW,rfl,US,Wl⟩:=I
  refine⟨_,w,?_,k w J⟩
  simp at V
  simp[Builtin.copy_,run_underlying hu,sizeOf,typeInfo,hi,Builtin.lenOf,mB,V,goInt]
 have hle:ys.length*lx α<=xs.length*lx α:=yS _ B
 obtain⟨w',h1,h2,h3⟩:=GN (P:=P) (o:=0) (dn:=xs.length) (dc:=cap) (T2:=T2) (R:=R) ht hb I B (by rw[kC,cG];omega)
 refine⟨_,w',h1,k w' (J.mM λY u=>?_)⟩
 rcases u with⟨h,_⟩|⟨b',Ae,G,W,hb',Z,u⟩
 .cases h
 simp only[sB.injEq,nN.injEq,Addr.mk.injEq,and_true,true_and]at W
 obtain⟨rfl,rfl⟩:=W
 refine⟨Y,.inr ⟨b,cap,rest,?_,?_,?_,u⟩,λb hb=>.inl hb,h3.mono λk hk=>(u k).2 hk⟩
 .congr 1;rw[kC,oD];omega
 .have e:flat xs=[]++flat (xs.take ys.length)++flat (xs.drop ys.length):=by rw[sk,<- ft,ob]
  have:=ji [] (flat (xs.take ys.length)) (flat (xs.drop ys.length)++rest) (flat ys) (by rw[cG,cG,ml,xn B])
  rw[Dd]at this
  rw[e,mv,this]at h2
  rw[ft,mv];exact h2
 have O:(ys++xs.drop ys.length).length=xs.length:=by rw[kC,oD];omega
 exact⟨by rw[O];exact M.1,by have:=M.2;rw[kC,cG]at this |-;rw[O];exact this⟩
end
section
variable {P:Program}{w w0 w':World}{A:Nat->Prop}{L:List HP}{b r:Nat}
def A4(r m since:Nat)(seen:Array Nat):HP where
 p w F:=w.heap[r]?=some (.mapIter (some m) since seen since)/\∀k,F k↔k=r
 loc w w' F h hh:=⟨(hh r ((h.2 r).2 rfl)).trans h.1,h.2⟩
 lt w F b' h hb:=cR
theorem KV{T u E:TypeId}{es:Array MapEntry}{clock:Nat}{K:Value->hM}(B:St w0 A L w)(ht:P.underlying T=some (.map u E))(hb:w.heap[b]?=some (.map es clock))
  (k:∀r w',St w0 A (A4 r b clock #[]::L) w'->K (.pointer (some ⟨r,0,none⟩)) w'):lW P (Instr.range T (.map (some b))) w K:=
 ⟨_,_,run_range_map w T u E b es clock ht hb,k _ _ (B.new (Ext.push w _) (F:=λk=>k=w.heap.size) ⟨jQ _ _,λ_=>Iff.rfl⟩ λb hb=>by rw[hb];exact oq _)⟩
theorem NX{T since:Nat}{seen:Array Nat}{es:Array MapEntry}{K:Value->hM}(B:St w0 A (A4 r b since seen::L) w)(hb:w.heap[b]?=some (.map es since))(hold:∀x∈es.toList,x.born<since)
  (O:(leftOf es seen).size=0->K (.tuple #[.bool false]) w)
  (I:∀e w',e∈(leftOf es seen).toList->St w0 A (A4 r b since (seen.push e.born)::L) w'->K (.tuple #[.bool true,e.key,e.val]) w'):lW P (Instr.next (.pointer (some ⟨r,0,none⟩)) false T) w K:=by
 obtain⟨F,h,_⟩:=B.head
 rcases run_next_at (P:=P) w T r b since since seen es since h.1 hb hold (oq _)with⟨h1,h2⟩|⟨e,J,E,M,h2⟩
 .exact⟨_,w,h2,O h1⟩
 have G:St w0 A (A4 r b since seen::L) E:=by
  rcases M with rfl|rfl
  .exact B
  .exact B.ext ⟨rfl,rfl,rfl,oq _,λ_ _ _=>rfl⟩
 refine⟨_,_,h2,I e _ J (G.mM λF u=>⟨F,⟨gX _ (pN u.1),u.2⟩,λb hb=>.inl hb,(fH.setBlock E r _).mono λk U=>(u.2 k).2 U⟩)⟩
theorem KW{since:Nat}{seen:Array Nat}{es:Array MapEntry}{e:MapEntry}{K:Value->Prop}(u:St w0 A (A4 r b since (seen.push e.born)::L) w)(hb:w.heap[b]?=some (.map es since))(B:e∈es.toList)(E:(es.toList.map (·.born)).Nodup)
  (k:K (.tuple #[e.key,e.val])):Aw P (Instr.entry (.pointer (some ⟨r,0,none⟩))) w K:=by
 obtain⟨F,h,_⟩:=u.head
 exact⟨_,run_entry_at w r b since seen es since e h.1 hb B E,k⟩
theorem y8{o:Obj}(h:w.heap[b]?=some o)(e:Ext w w'):w'.heap[b]?=some o:=(e.bM b (pN h) λh=>h).trans h
theorem rz{seen:Array Nat}{x y:Nat}(h:(seen.push x).contains y=true):seen.contains y=true\/y=x:=by
 grind
theorem born_inj{es:Array MapEntry}(E:(es.toList.map (·.born)).Nodup){e u:MapEntry}(h:e∈es.toList)(B:u∈es.toList)(hb:e.born=u.born):e=u:=by
 obtain⟨i,hi,rfl⟩:=vR h
 obtain⟨j,G,rfl⟩:=vR B
 have:=(Ru (i:=i) (j:=j) (h₀:=by grind) (h₁:=by grind) E).1 cR
 grind
end
section
variable {P:Program}{w w0 w':World}{A:Nat->Prop}{L:List HP}{b r:Nat}
theorem aU{f:FuncId}{args:List Value}{H:HP}{H':Value->HP}{Φ:Value->hM}{K:Value->hM}(pl:Plain P f)(B:St w0 A (H::L) w)
  (hc:∀F,H.p w F->(∀w',fH F w w'->St w0 A L w')->Calls P f args.toArray w (oV λv w'=>Φ v w'/\mF F (H' v) w w')) (k:∀v w',Φ v w'->St w0 A (H' v::L) w'->K v w'):wJ P f args w K:=by
 obtain⟨U,F,I,h1,h2,h3,h4,h5⟩:=B.oE
 refine dX pl (hc F h1 λw' E=>⟨B.aF.trans E (λ_ h=>h) λb hb u=>(h2 b u).elim id λM=>bP,I,h5.loc λb hb=>E.bM b (h5.lt b hb) λu=>h3 b u hb⟩) λv w' ⟨J,G⟩=>k v w' J (B.Nk h2 h3 h5 G)
theorem y9{g:FuncId}{args first cap:List Value}{H:HP}{H':Value->HP}{Φ:Value->hM}{K:Value->hM}(pl:Plain P g)(B:St w0 A (H::L) w)
  (hc:∀F,H.p w F->(∀w',fH F w w'->St w0 A L w')->Calls P g (first++args++cap).toArray w (oV λv w'=>Φ v w'/\mF F (H' v) w w')) (k:∀v w',Φ v w'->St w0 A (H' v::L) w'->K v w'):gM P (.func (.func g) first.toArray cap.toArray) args w K:=by
 obtain⟨U,F,I,h1,h2,h3,h4,h5⟩:=B.oE
 refine fm pl (hc F h1 λw' E=>⟨B.aF.trans E (λ_ h=>h) λb hb u=>(h2 b u).elim id λM=>bP,I,h5.loc λb hb=>E.bM b (h5.lt b hb) λu=>h3 b u hb⟩) λv w' ⟨J,G⟩=>k v w' J (B.Nk h2 h3 h5 G)
end
def Has(H:HP)(w:World):Prop:=∃F,H.p w F
def St.has{w w0:World}{A:Nat->Prop}{L:List HP}{H:HP}(u:St w0 A (H::L) w):Has H w:=by obtain⟨F,h,_⟩:=u.head;exact⟨F,h⟩
theorem Has.ext{H:HP}{w w':World}(h:Has H w)(e:Ext w w'):Has H w':=by
 obtain⟨F,h⟩:=h;exact⟨F,H.loc _ _ _ h λb hb=>e.bM b (H.lt _ _ _ h hb) λx=>x⟩
def Has.st{H:HP}{w:World}(h:Has H w):∃F,St w F [H] w:=by obtain⟨F,h⟩:=h;exact⟨F,St.begin h⟩
abbrev SI:=ByteArray×Int
def I4(p:SI):Value×Value:=(.string p.1,hU p.2)
def pk(w:World)(b:Nat)(l:List SI):Prop:=
 ∃es clock,w.heap[b]?=some (.map es clock)/\Stamped es clock/\(es.toList.map λe=>(e.key,e.val)).Perm (l.map I4)
def dG:List SI->ByteArray->Int
 | [],_=>0
 | p::r,k=>if p.1=k then p.2 else dG r k
theorem po:∀{l:List SI}{p:SI},(l.map (·.1)).Nodup->p∈l->dG l p.1=p.2
 | q::r,p,hn,hm=>by
  rw[List.map_cons,yQ]at hn
  rcases oS.1 hm with rfl|hm
  .unfold dG;grind
  .have:q.1≠p.1:=λe=>hn.1 (nT.2 ⟨p,hm,e.symm⟩)
   unfold dG;rw[ez this];exact po hn.2 hm
theorem tz:∀{l:List SI}{k:ByteArray},(∀p∈l,p.1≠k)->dG l k=0
 | [],_,_=>rfl
 | q::r,k,h=>by
  unfold dG;rw[ez (h q (List.mem_cons_self ..))];exact tz λp u=>h p (o5 _ u)
def GO{l:List SI}{k:ByteArray}(E:(l.map (·.1)).Nodup)(B:∀p∈l,p.2≠0)(h:dG l k=0):∀p∈l,p.1≠k:=λp u e=>by
 subst e;exact B p u ((po E u).symm.trans h)
section
variable {P:Program}{w w0 w':World}{A:Nat->Prop}{L:List HP}{b:Nat}{l:List SI}
theorem pk.of_eq(h:pk w b l)(u:w'.heap[b]?=w.heap[b]?):pk w' b l:=by
 grind[pk]
theorem pk.lt(h:pk w b l):b<w.heap.size:=by obtain⟨es,c,h1,_⟩:=h;grind
theorem pk.nodup(h:pk w b l):(l.map (·.1)).Nodup:=by
 obtain⟨es,c,_,h2,h3⟩:=h
 have h4:=(h3.map Prod.fst)
 rw[Cn,Cn]at h4
 have h5:(l.map λp=>tO p.1).Nodup:=h4.nodup_iff.1 h2.2.2
 grind
theorem pk.perm{u:List SI}(h:pk w b l)(B:l.Perm u):pk w b u:=by
 obtain⟨es,c,h1,h2,h3⟩:=h;exact⟨es,c,h1,h2,h3.trans (B.map _)⟩
def jL(b:Nat)(l:List SI):HP where
 p w F:=pk w b l/\∀k,F k↔k=b
 loc w w' F h hh:=⟨h.1.of_eq (hh b ((h.2 b).2 rfl)),h.2⟩
 lt w F b' h hb:=by rw[(h.2 b').1 hb];exact h.1.lt
theorem NY{es:Array MapEntry}(h3:(es.toList.map λe=>(e.key,e.val)).Perm (l.map I4)){e:MapEntry}(u:e∈es.toList):∃p∈l,e.key=.string p.1/\e.val=hU p.2:=by
 have:(e.key,e.val)∈l.map I4:=h3.mem_iff.1 (nT.2 ⟨e,u,rfl⟩)
 obtain⟨p,E,B⟩:=nT.1 this
 unfold I4 at B
 grind
theorem NZ{es:Array MapEntry}(h3:(es.toList.map λe=>(e.key,e.val)).Perm (l.map I4)){p:SI}(u:p∈l):∃e∈es.toList,e.key=.string p.1/\e.val=hU p.2:=by
 have:I4 p∈es.toList.map λe=>(e.key,e.val):=h3.mem_iff.2 (nT.2 ⟨p,u,rfl⟩)
 obtain⟨e,E,B⟩:=nT.1 this
 unfold I4 at B
 grind
theorem A5{T:TypeId}{k:ByteArray}{es:Array MapEntry}(G:P.underlying T=some .string)(h3:(es.toList.map λe=>(e.key,e.val)).Perm (l.map I4)) :
  ((∀p∈l,p.1≠k)/\(K9 T (.string k) es.toList).run P w=.ok none w)\/∃j p,p∈l/\p.1=k/\(K9 T (.string k) es.toList).run P w=.ok (some (j,hU p.2)) w:=by
 rcases MapKept.findNow_spec (d:=.string) (k:=.string k) (by simp[IsKey]) es.toList 0 (λx E=>by obtain⟨p,_,e,_⟩:=NY h3 E;rw[e];simp[IsKey])with⟨h1,h2⟩|⟨j,e,h1,h2,h4⟩
 .refine .inl ⟨λp B e=>?_,MapKept.run_findKey G h1⟩
  obtain⟨x,E,u,_⟩:=NZ h3 B
  grind
 obtain⟨p,B,u,I⟩:=NY h3 (l0 h2)
 rw[h4]at u;injection u with u
 refine .inr ⟨j,p,B,u.symm,?_⟩
 rw[o6,I]at h1
 exact MapKept.run_findKey G h1
theorem Ey{T B E:TypeId}{k:ByteArray}(h:pk w b l)(ht:P.underlying T=some (.map B E))(G:P.underlying B=some .string)(u:kj P E (hU 0)) :
  (qn T (.map (some b)) (.string k) false).run P w=.ok (hU (dG l k)) w:=by
 have M:=h.nodup
 obtain⟨es,c,h1,h2,h3⟩:=h
 have J:(zeroValue E).run P w=.ok (hU 0) w:=by
  unfold kj dB at u
  cases hi:P.info? E with
  | none=>grind
  | some i=>
   rw[hi]at u
   simp only[wm,nN.injEq]at u
   refine eM ?_ w
   unfold zeroValue;rw[bT,jg hi];simp only[kO,u];rfl
 have hc:=MapKept.run_checkKey (P:=P) (w:=w) (kt:=B) (k:=.string k) G (by simp[IsKey]) es.isEmpty 9999
 rcases A5 (w:=w) (k:=k) G h3 with⟨h5,h6⟩|⟨j,p,h5,h6,I⟩
 .simp[qn,run_underlying ht,MapKept.run_getObj_map h1,hc,h6,J,Result.andThen,tz h5]
 subst h6
 simp[qn,run_underlying ht,MapKept.run_getObj_map h1,hc,I,Result.andThen,po M h5]
theorem Ez{T u E:TypeId}{v:Int}{k:ByteArray}(h:pk w b l)(ht:P.underlying T=some (.map u E))(B:P.underlying u=some .string)(O:∀p∈l,p.1≠k) :
  ∃w',(qJ T (.map (some b)) (.string k) (hU v)).run P w=.ok () w'/\fH (· = b) w w'/\pk w' b (l++[(k,v)]):=by
 have I:=h.lt
 obtain⟨es,c,h1,h2,h3⟩:=h
 have hc:=MapKept.run_checkKey (P:=P) (w:=w) (kt:=u) (k:=.string k) B (by simp[IsKey]) false 9999
 rcases A5 (w:=w) (k:=k) B h3 with⟨h5,h6⟩|⟨j,p,h5,h6,M⟩
 .refine⟨_,?_,fH.setBlock w b (.map (es.push ⟨.string k,hU v,c⟩) (c+1)),?_⟩
  .simp[qJ,run_underlying ht,MapKept.run_getObj_map h1,hc,h6,kc h1,Result.andThen]
  refine⟨_,_,gX _ I,MapKept.stamped_push h2 λx G e=>?_,?_⟩
  .obtain⟨p,U,J,_⟩:=NY h3 G
   grind
  rw[Array.toList_push,rh,rh]
  exact h3.append (List.Perm.refl _)
 grind
theorem EA{T:TypeId}{K:Value->hM}(u:St w0 A L w)(k:∀b w',St w0 A (jL b []::L) w'->K (.map (some b)) w'):lW P (Ik T none) w K:=
 ⟨_,_,rfl,k _ _ (u.new (Ext.push w (.map #[] 0)) (F:=λk=>k=w.heap.size) ⟨⟨#[],0,jQ _ _,⟨ew,ew,ew⟩,ew⟩,λ_=>Iff.rfl⟩ λb hb=>by rw[hb];exact oq _)⟩
theorem St.jL(u:St w0 A (jL b l::L) w):pk w b l:=by obtain⟨F,h,_⟩:=u.head;exact h.1
theorem sn{T u E:TypeId}{k:ByteArray}{K:Value->Prop}(h:pk w b l)(ht:P.underlying T=some (.map u E))(I:P.underlying u=some .string)(B:kj P E (hU 0))(G:K (hU (dG l k))):Aw P (qn T (.map (some b)) (.string k) false) w K:=
 ⟨_,Ey h ht I B,G⟩
theorem EB{T I E:TypeId}{v:Int}{k:ByteArray}{K:hM}(G:St w0 A (Fw.jL b l::L) w)(ht:P.underlying T=some (.map I E))(u:P.underlying I=some .string)(M:∀p∈l,p.1≠k)
  (J:∀w',St w0 A (Fw.jL b (l++[(k,v)])::L) w'->K w'):Md P (qJ T (.map (some b)) (.string k) (hU v)) w K:=by
 obtain⟨w',h1,h2,h3⟩:=Ez (P:=P) (v:=v) (k:=k) G.jL ht u M
 exact⟨w',h1,J w' (G.mM λF B=>⟨F,⟨h3,B.2⟩,λb hb=>.inl hb,h2.mono λk u=>(B.2 k).2 u⟩)⟩
theorem key_inj{es:Array MapEntry}(E:(es.toList.map (·.key)).Nodup){e u:MapEntry}(h:e∈es.toList)(B:u∈es.toList)(hb:e.key=u.key):e=u:=by
 obtain⟨i,hi,rfl⟩:=vR h
 obtain⟨j,G,rfl⟩:=vR B
 have:=(Ru (i:=i) (j:=j) (h₀:=by grind) (h₁:=by grind) E).1 cR
 grind
theorem N0{l:List SI}(u:(l.map (·.1)).Nodup){p q:SI}(E:p∈l)(B:q∈l)(h:p.1=q.1):p=q:=by
 have h1:=po u E
 have h2:=po u B
 grind
end
open Go.MapKept (IsKey)
section
variable {P:Program}{w w':World}{b:Nat}{l:List ByteArray}
def Ci(w:World)(b:Nat)(l:List ByteArray):Prop:=
 ∃es clock,w.heap[b]?=some (.map es clock)/\(es.toList.map λe=>(e.key,e.val))=l.map λs=>(tO s,sy true)
theorem EC{T I E:TypeId}{k:ByteArray}(h:Ci w b l)(ht:P.underlying T=some (.map I E))(J:P.underlying I=some .string)(B:kj P E (.bool false)) :
  (qn T (.map (some b)) (.string k) false).run P w=.ok (.bool (l.any λy=>decide (y=k))) w:=by
 obtain⟨es,c,h1,h2⟩:=h
 have V:(zeroValue E).run P w=.ok (.bool false) w:=by
  unfold kj dB at B
  cases hi:P.info? E with
  | none=>grind
  | some i=>
   rw[hi]at B
   simp only[wm,nN.injEq]at B
   refine eM ?_ w
   unfold zeroValue;rw[bT,jg hi];simp only[kO,B];rfl
 have hc:=MapKept.run_checkKey (P:=P) (w:=w) (kt:=I) (k:=.string k) J (by simp[IsKey]) es.isEmpty 9999
 have mem:∀e∈es.toList,∃s∈l,e.key=.string s/\e.val=.bool true:=λe M=>by
  have:(e.key,e.val)∈l.map λs=>(tO s,sy true):=cR
  grind
 rcases MapKept.findNow_spec (d:=.string) (k:=.string k) (by simp[IsKey]) es.toList 0 (λx U=>by obtain⟨p,_,e,_⟩:=mem x U;rw[e];simp[IsKey])with⟨h3,h4⟩|⟨j,e,h3,h4,h5⟩
 .have:(l.any λy=>decide (y=k))=false:=by
   rw[List.any_eq_false]
   intro s G
   have:(tO s,sy true)∈es.toList.map λe=>(e.key,e.val):=by rw[h2];exact nT.2 ⟨s,G,rfl⟩
   obtain⟨e,M,u⟩:=nT.1 this
   simp only[Ug.injEq]at u
   intro h
   exact h4 e M (by rw[u.1,gv h])
  rw[this]
  simp[qn,run_underlying ht,MapKept.run_getObj_map h1,hc,MapKept.run_findKey J h3,V,Result.andThen]
 obtain⟨s,G,u,O⟩:=mem e (l0 h4)
 rw[h5]at u;injection u with u
 have:(l.any λy=>decide (y=k))=true:=tP.2 ⟨s,G,fj u.symm⟩
 rw[this]
 rw[o6,O]at h3
 simp[qn,run_underlying ht,MapKept.run_getObj_map h1,hc,MapKept.run_findKey J h3,Result.andThen]
theorem ED{T u E:TypeId}{k:ByteArray}{K:Value->Prop}(h:Ci w b l)(ht:P.underlying T=some (.map u E))(I:P.underlying u=some .string)(B:kj P E (.bool false))(G:K (.bool (l.any λy=>decide (y=k)))):Aw P (qn T (.map (some b)) (.string k) false) w K:=
 ⟨_,EC h ht I B,G⟩
end
end Go.Fw

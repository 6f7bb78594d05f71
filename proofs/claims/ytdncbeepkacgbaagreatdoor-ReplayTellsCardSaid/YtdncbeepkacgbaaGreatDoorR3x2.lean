/-
  Part 2.
-/
import Derived.Test.YtdncbeepkacgbaaGreatDoorR3x1
set_option maxHeartbeats 8000000
set_option linter.all false
set_option maxRecDepth 100000
open Go.Fw.Flat renaming val->iS,enc->jn,sz->lx,len->ry,agg->CE,one->P7,pos->P8,lj->U2
open List renaming getElem?_eq_some_iff->j0,getElem?_eq_getElem->kB,length_append->kE,take_of_length_le->kO,mem_of_getElem?->l0,getElem?_eq_none->l2,length_take->mg,append_assoc->mu,length_singleton->nB,length_map->nP,mem_map->n0,getElem?_map->n3,take_append_drop->ob,length_cons->oh,append_nil->oj,drop_eq_nil_of_le->ot,length_drop->oC,replicate->oI,mem_cons->oR,mem_cons_of_mem->o5,drop_eq_getElem_cons->pd,length_eq_zero_iff->pP,getElem?_append_left->qk,drop_drop->q9,map_append->rn,mem_singleton->rC,nil_append->sk,take_add_one->tx,getElem?_eq_none_iff->u1,ext_getElem?->u4,getElem_of_mem->wv,eraseIdx_eq_take_drop_succ->xd,foldl_append->x6,getElem?_set_self->yG,drop_left->zD,nodup_cons->zO,map_map->CU,getElem?_drop->Dk,length_nil->D1,length_set->D5,getElem?_set_ne->Fv,getElem?_cons_succ->H3,toArray->Ix,getElem?_eraseIdx_of_lt->Ju,getElem?_eraseIdx_of_ge->Jv,take_left->K0,length_flatten->P0,getElem_inj->To,cons->Wx
open Option renaming bind_some->la,some->nM,map_some->wG,bind_eq_some_iff->HY
open Go.Instr renaming build->l1,sliceAt->mv,index->oJ,sliceBounds->qa,lookup->qs,mapUpdate->rf,loadAt->rE,storeAt->B9,indexAt->Cw,keyThatStays->Hj,makeMap->Jj,slice->Jr,findKey->NR
open Go.Value renaming int->mf,bool->sq,slice->ta,string->uH,tuple->Nv,okWide->O6
open Nat renaming zero_le->mj,le_refl->om,zero_add->o6,min_eq_left->x8,le_trans->x9,mul_le_mul_right->zP,add_assoc->GR,add_zero->Ii
open Bool renaming and_eq_true->nu
open Decidable renaming not_not->BL
open Go.World renaming cells?_some->P9
open Int renaming toNat->U0
namespace Go.Proofs.YtdncbeepkacgbaaGreatDoor
open Go.Fw
def bL:cH hM 3=some (false,1):=by kernel_rfl
def sM:dA hM 3=some (some (hZ 0)):=by kernel_rfl
def Dz:Tryz.prog.underlying 3=some (.int .i64):=by kernel_rfl
def BO:cH hM 4=some (false,1):=by kernel_rfl
def MK:dA hM 4=some (some (.bool false)):=by kernel_rfl
def RI:Tryz.prog.underlying 4=some (.bool):=by kernel_rfl
def agP:Tryz.prog.underlying 5=some (.int .u8):=by kernel_rfl
def jZ:cH hM 9=some (false,1):=by kernel_rfl
def UA:dA hM 9=some (some (.string ⟨#[]⟩)):=by kernel_rfl
def gN:Tryz.prog.underlying 9=some (.string):=by kernel_rfl
def eK:cH hM 22=some (false,1):=by kernel_rfl
def dG:dV hM 22=some (3,1,8,some 1):=by kernel_rfl
def V4:dA hM 22=some (some (.slice none 0 0)):=by kernel_rfl
def gC:cH hM 24=some (true,4):=by kernel_rfl
def gO:aN hM 24 0=some (0,some true):=by kernel_rfl
def lM:aN hM 24 1=some (1,some true):=by kernel_rfl
def nZ:aN hM 24 2=some (2,some true):=by kernel_rfl
def gA:aN hM 24 3=some (3,some true):=by kernel_rfl
def mY:dA hM 24=some (some (.agg [hZ 0,hZ 0,hZ 0,.slice none 0 0].toArray)):=by kernel_rfl
def ym:cH hM 31=some (false,1):=by kernel_rfl
def yn:dV hM 31=some (32,1,24,some 1):=by kernel_rfl
def sy:cH hM 32=some (false,1):=by kernel_rfl
def nQ:dV hM 32=some (175,3,32,some 3):=by kernel_rfl
def pN:cH hM 33=some (false,1):=by kernel_rfl
def kJ:dV hM 33=some (114,4,72,some 4):=by kernel_rfl
def DB:cH hM 34=some (false,1):=by kernel_rfl
def BP:dV hM 34=some (95,2,32,some 2):=by kernel_rfl
def fS:cH hM 36=some (true,6):=by kernel_rfl
def mK:aN hM 36 0=some (0,some true):=by kernel_rfl
def ug:aN hM 36 1=some (1,some true):=by kernel_rfl
def rX:aN hM 36 2=some (2,some true):=by kernel_rfl
def pO:aN hM 36 3=some (3,some true):=by kernel_rfl
def rY:aN hM 36 4=some (4,some true):=by kernel_rfl
def rZ:aN hM 36 5=some (5,some true):=by kernel_rfl
def Gc:dA hM 36=some (some (.agg [.slice none 0 0,.slice none 0 0,.slice none 0 0,.slice none 0 0,.slice none 0 0,.slice none 0 0].toArray)):=by kernel_rfl
def gq:cH hM 40=some (false,1):=by kernel_rfl
def V5:dA hM 40=some (some (hZ 0)):=by kernel_rfl
def ML:cH hM 56=some (true,5):=by kernel_rfl
def RJ:aN hM 56 0=some (0,some true):=by kernel_rfl
def Ip:aN hM 56 1=some (1,some true):=by kernel_rfl
def uh:aN hM 56 3=some (3,some true):=by kernel_rfl
def xL:aN hM 56 4=some (4,some true):=by kernel_rfl
def Gd:dA hM 56=some (some (.agg [hZ 0,hZ 0,hZ 0,.bool false,.bool false].toArray)):=by kernel_rfl
def ui:dV hM 58=some (67,4,48,some 4):=by kernel_rfl
def Km:dV hM 64=some (4,1,1,some 1):=by kernel_rfl
def oF:cH hM 67=some (true,4):=by kernel_rfl
def uj:aN hM 67 0=some (0,some true):=by kernel_rfl
def n4:aN hM 67 1=some (1,some true):=by kernel_rfl
def xM:aN hM 67 2=some (2,some true):=by kernel_rfl
def BQ:aN hM 67 3=some (3,some true):=by kernel_rfl
def BR:dA hM 67=some (some (.agg [hZ 0,hZ 0,hZ 0,.slice none 0 0].toArray)):=by kernel_rfl
def iC:cH hM 72=some (true,5):=by kernel_rfl
def RK:aN hM 72 1=some (1,some true):=by kernel_rfl
def qP:dA hM 72=some (some (.agg [hZ 0,hZ 0,hZ 0,hZ 0,hZ 0].toArray)):=by kernel_rfl
def Ge:dV hM 77=some (72,5,40,some 5):=by kernel_rfl
def aaM:cH hM 82=some (true,2):=by kernel_rfl
def RL:aN hM 82 0=some (0,some true):=by kernel_rfl
def RM:aN hM 82 1=some (1,some true):=by kernel_rfl
def V6:dA hM 82=some (some (.agg [hZ 0,hZ 0].toArray)):=by kernel_rfl
def lT:cH hM 86=some (false,1):=by kernel_rfl
def iN:dV hM 86=some (9,1,16,some 1):=by kernel_rfl
def V7:dA hM 86=some (some (.slice none 0 0)):=by kernel_rfl
def lF:cH hM 92=some (false,1):=by kernel_rfl
def ju:dV hM 92=some (183,4,40,some 4):=by kernel_rfl
def BS:cH hM 95=some (true,2):=by kernel_rfl
def BT:aN hM 95 0=some (0,some true):=by kernel_rfl
def RN:aN hM 95 1=some (1,some true):=by kernel_rfl
def Gf:dA hM 95=some (some (.agg [.slice none 0 0,hZ 0].toArray)):=by kernel_rfl
def um:cH hM 98=some (false,1):=by kernel_rfl
def wK:cH hM 102=some (false,1):=by kernel_rfl
def uo:cH hM 103=some (false,1):=by kernel_rfl
def wL:dV hM 103=some (128,1,8,some 1):=by kernel_rfl
def uq:aN hM 105 0=some (0,some true):=by kernel_rfl
def yo:aN hM 105 1=some (6,some true):=by kernel_rfl
def yp:aN hM 105 2=some (7,some true):=by kernel_rfl
def MM:aN hM 105 3=some (8,some true):=by kernel_rfl
def lU:aN hM 105 4=some (9,some true):=by kernel_rfl
def mZ:aN hM 105 5=some (10,some true):=by kernel_rfl
def m4:aN hM 105 6=some (11,some true):=by kernel_rfl
def yq:aN hM 105 7=some (12,some true):=by kernel_rfl
def o7:aN hM 105 8=some (13,some true):=by kernel_rfl
def DC:aN hM 105 9=some (14,some true):=by kernel_rfl
def lV:cH hM 112=some (false,1):=by kernel_rfl
def fT:dV hM 112=some (220,9,120,some 9):=by kernel_rfl
def lq:cH hM 114=some (true,4):=by kernel_rfl
def yr:aN hM 114 0=some (0,some true):=by kernel_rfl
def m6:aN hM 114 1=some (1,some true):=by kernel_rfl
def qQ:aN hM 114 2=some (2,some true):=by kernel_rfl
def yt:aN hM 114 3=some (3,some true):=by kernel_rfl
def r8:dA hM 114=some (some (.agg [.string ⟨#[]⟩,.slice none 0 0,.slice none 0 0,hZ 0].toArray)):=by kernel_rfl
def sN:dV hM 116=some (240,2,16,some 2):=by kernel_rfl
def AG:cH hM 128=some (false,1):=by kernel_rfl
def m7:cH hM 129=some (false,1):=by kernel_rfl
def o8:dV hM 129=some (227,2,32,some 2):=by kernel_rfl
def kK:aN hM 131 0=some (0,some true):=by kernel_rfl
def ur:aN hM 131 1=some (1,some true):=by kernel_rfl
def uu:aN hM 131 2=some (2,some true):=by kernel_rfl
def gu:aN hM 131 3=some (3,some true):=by kernel_rfl
def qR:aN hM 131 4=some (4,some true):=by kernel_rfl
def AH:dV hM 146=some (22,1,24,some 1):=by kernel_rfl
def MN:dV hM 164=some (82,2,16,some 2):=by kernel_rfl
def qS:cH hM 165=some (false,1):=by kernel_rfl
def fU:cH hM 166=some (false,1):=by kernel_rfl
def ey:dV hM 166=some (179,4,40,some 4):=by kernel_rfl
def gP:aN hM 171 0=some (0,some true):=by kernel_rfl
def eh:aN hM 171 1=some (1,some true):=by kernel_rfl
def jh:aN hM 171 2=some (2,some true):=by kernel_rfl
def qT:aN hM 171 3=some (3,some true):=by kernel_rfl
def jQ:cH hM 175=some (true,3):=by kernel_rfl
def m8:aN hM 175 0=some (0,some true):=by kernel_rfl
def uv:aN hM 175 1=some (1,some true):=by kernel_rfl
def uw:aN hM 175 2=some (2,some true):=by kernel_rfl
def lO:dA hM 175=some (some (.agg [.string ⟨#[]⟩,hZ 0,hZ 0].toArray)):=by kernel_rfl
def UB:cH hM 179=some (true,4):=by kernel_rfl
def iO:aN hM 179 0=some (0,some true):=by kernel_rfl
def jR:aN hM 179 1=some (1,some true):=by kernel_rfl
def m9:aN hM 179 2=some (2,some true):=by kernel_rfl
def iP:aN hM 179 3=some (3,some true):=by kernel_rfl
def RO:dA hM 179=some (some (.agg [hZ 0,.string ⟨#[]⟩,hZ 0,hZ 0].toArray)):=by kernel_rfl
def wM:cH hM 183=some (true,4):=by kernel_rfl
def im:aN hM 183 0=some (0,some true):=by kernel_rfl
def qU:aN hM 183 1=some (1,some true):=by kernel_rfl
def lW:aN hM 183 2=some (2,some true):=by kernel_rfl
def ux:aN hM 183 3=some (3,some true):=by kernel_rfl
def BU:dA hM 183=some (some (.agg [hZ 0,hZ 0,.string ⟨#[]⟩,hZ 0].toArray)):=by kernel_rfl
def AI:cH hM 184=some (false,1):=by kernel_rfl
def Iq:dA hM 184=some (some (.map none)):=by kernel_rfl
def aaN:cH hM 196=some (true,3):=by kernel_rfl
def MO:aN hM 196 0=some (0,some true):=by kernel_rfl
def MP:aN hM 196 1=some (1,some true):=by kernel_rfl
def MQ:aN hM 196 2=some (2,some true):=by kernel_rfl
def RP:dA hM 196=some (some (.agg [.string ⟨#[]⟩,hZ 0,.slice none 0 0].toArray)):=by kernel_rfl
def mA:cH hM 198=some (false,1):=by kernel_rfl
theorem iD:dV hM 198=some (262,4,32,some 4):=by kernel_rfl
def MR:aN hM 200 0=some (0,some true):=by kernel_rfl
def iq:aN hM 200 1=some (1,some true):=by kernel_rfl
def sO:cH hM 205=some (false,1):=by kernel_rfl
def qV:aN hM 207 0=some (0,some true):=by kernel_rfl
def MS:aN hM 207 1=some (1,some true):=by kernel_rfl
def nc:aN hM 207 2=some (2,some true):=by kernel_rfl
def uy:aN hM 207 3=some (3,some true):=by kernel_rfl
def nd:aN hM 207 4=some (4,some true):=by kernel_rfl
def ek:cH hM 220=some (true,9):=by kernel_rfl
def ft:aN hM 220 0=some (0,some true):=by kernel_rfl
def kL:aN hM 220 1=some (1,some true):=by kernel_rfl
def jS:aN hM 220 2=some (2,some true):=by kernel_rfl
def kM:aN hM 220 3=some (3,some true):=by kernel_rfl
def qW:aN hM 220 4=some (4,some true):=by kernel_rfl
def lX:aN hM 220 5=some (5,some true):=by kernel_rfl
def jT:aN hM 220 6=some (6,some true):=by kernel_rfl
def lY:aN hM 220 7=some (7,some true):=by kernel_rfl
def qX:aN hM 220 8=some (8,some true):=by kernel_rfl
def jw:dA hM 220=some (some (.agg [hZ 0,.string ⟨#[]⟩,.string ⟨#[]⟩,.slice none 0 0,.slice none 0 0,hZ 0,hZ 0,hZ 0,hZ 0].toArray)):=by kernel_rfl
def DD:aN hM 227 0=some (0,some true):=by kernel_rfl
def MT:aN hM 227 1=some (1,some true):=by kernel_rfl
def yu:cH hM 240=some (true,2):=by kernel_rfl
def jU:aN hM 240 0=some (0,some true):=by kernel_rfl
def lZ:aN hM 240 1=some (1,some true):=by kernel_rfl
def BV:dA hM 240=some (some (.agg [hZ 0,hZ 0].toArray)):=by kernel_rfl
def l4:aN hM 246 0=some (0,some true):=by kernel_rfl
def o9:aN hM 248 0=some (0,some true):=by kernel_rfl
def DE:aN hM 248 1=some (1,some true):=by kernel_rfl
def RQ:dA hM 248=some (some (.agg [.slice none 0 0,hZ 0].toArray)):=by kernel_rfl
def jB:cH hM 262=some (true,4):=by kernel_rfl
def nf:aN hM 262 0=some (0,some true):=by kernel_rfl
def kN:aN hM 262 1=some (1,some true):=by kernel_rfl
def pa:aN hM 262 2=some (2,some true):=by kernel_rfl
def qY:aN hM 262 3=some (3,some true):=by kernel_rfl
def r9:dA hM 262=some (some (.agg [hZ 0,hZ 0,hZ 0,hZ 0].toArray)):=by kernel_rfl
def Ir:cH hM 300=some (false,1):=by kernel_rfl
def RR:dA hM 300=some (some (.nilFunc)):=by kernel_rfl
def wN:dV hM 321=some (324,2,16,some 2):=by kernel_rfl
def uz:dA hM 321=some (some (.slice none 0 0)):=by kernel_rfl
def Is:cH hM 324=some (true,2):=by kernel_rfl
def DF:aN hM 324 0=some (0,some true):=by kernel_rfl
def DG:aN hM 324 1=some (1,some true):=by kernel_rfl
def It:dA hM 324=some (some (.agg [hZ 0,hZ 0].toArray)):=by kernel_rfl
def MU:cH hM 348=some (true,16):=by kernel_rfl
def Iu:dA hM 348=some (some (.agg [.nilFunc,.nilFunc,.nilFunc,.nilFunc,.nilFunc,.nilFunc,.nilFunc,.nilFunc,.nilFunc,.nilFunc,.nilFunc,.nilFunc,.nilFunc,.nilFunc,.nilFunc,.nilFunc].toArray)):=by kernel_rfl
def fu:aN hM 368 0=some (0,some true):=by kernel_rfl
def dT:aN hM 368 1=some (1,some true):=by kernel_rfl
def iu:aN hM 368 2=some (2,some true):=by kernel_rfl
def uA:aN hM 368 3=some (3,some true):=by kernel_rfl
def l5:aN hM 368 4=some (4,some true):=by kernel_rfl
def eL:cH hM 371=some (true,4):=by kernel_rfl
def ng:aN hM 371 0=some (0,some true):=by kernel_rfl
def kP:aN hM 371 1=some (1,some true):=by kernel_rfl
def pb:aN hM 371 2=some (2,some true):=by kernel_rfl
def MV:aN hM 371 3=some (3,some true):=by kernel_rfl
def n6:dA hM 371=some (some (.agg [.slice none 0 0,hZ 0,hZ 0,hZ 0].toArray)):=by kernel_rfl
def DH:dV hM 380=some (33,1,24,some 1):=by kernel_rfl
def aaO:cH hM 390=some (false,1):=by kernel_rfl
def UC:cH hM 419=some (true,15):=by kernel_rfl
def RS:dA hM 419=some (some (.agg [.string ⟨#[]⟩,.string ⟨#[]⟩,.string ⟨#[]⟩,.string ⟨#[]⟩,.string ⟨#[]⟩,.string ⟨#[]⟩,.string ⟨#[]⟩,.string ⟨#[]⟩,.string ⟨#[]⟩,.string ⟨#[]⟩,.string ⟨#[]⟩,.string ⟨#[]⟩,.string ⟨#[]⟩,.string ⟨#[]⟩,.string ⟨#[]⟩].toArray)):=by kernel_rfl
def DI(u:Int)(B:Int)(E:Int):pr hM (l1 56 [(0,hZ u),(1,hZ B),(2,hZ E)].toArray)=some (.agg [hZ u,hZ B,hZ E,.bool false,.bool false].toArray):=by kernel_rfl
def Kn(u:Int)(B:Int):pr hM (l1 67 [(0,hZ u),(1,hZ B)].toArray)=some (.agg [hZ u,hZ B,hZ 0,.slice none 0 0].toArray):=by kernel_rfl
def DJ(u:Int)(B:Int)(E:Int):pr hM (l1 67 [(0,hZ u),(1,hZ B),(2,hZ E)].toArray)=some (.agg [hZ u,hZ B,hZ E,.slice none 0 0].toArray):=by kernel_rfl
def Ko(u:Int)(G:Option Addr)(B E:Nat):pr hM (l1 67 [(0,hZ u),(3,.slice G B E)].toArray)=some (.agg [hZ u,hZ 0,hZ 0,.slice G B E].toArray):=by kernel_rfl
def V8:pr hM (l1 72 [].toArray)=some (.agg [hZ 0,hZ 0,hZ 0,hZ 0,hZ 0].toArray):=by kernel_rfl
def Iv(u:Int):pr hM (l1 72 [(0,hZ u)].toArray)=some (.agg [hZ u,hZ 0,hZ 0,hZ 0,hZ 0].toArray):=by kernel_rfl
def Kp(u:Int)(B:Int):pr hM (l1 72 [(0,hZ u),(1,hZ B)].toArray)=some (.agg [hZ u,hZ B,hZ 0,hZ 0,hZ 0].toArray):=by kernel_rfl
def wO(u:Int)(B:Int)(E:Int):pr hM (l1 72 [(0,hZ u),(1,hZ B),(2,hZ E)].toArray)=some (.agg [hZ u,hZ B,hZ E,hZ 0,hZ 0].toArray):=by kernel_rfl
def zZ(u:Int)(B:Int)(E:Int)(G:Int):pr hM (l1 72 [(0,hZ u),(1,hZ B),(2,hZ E),(3,hZ G)].toArray)=some (.agg [hZ u,hZ B,hZ E,hZ G,hZ 0].toArray):=by kernel_rfl
def sc(u:Int)(B:Int):pr hM (l1 72 [(0,hZ u),(2,hZ B)].toArray)=some (.agg [hZ u,hZ 0,hZ B,hZ 0,hZ 0].toArray):=by kernel_rfl
def qZ(u:Int)(B:Int)(E:Int):pr hM (l1 72 [(0,hZ u),(2,hZ B),(3,hZ E)].toArray)=some (.agg [hZ u,hZ 0,hZ B,hZ E,hZ 0].toArray):=by kernel_rfl
def z6(B:Int)(E:Int)(G:Int)(u:Int):pr hM (l1 72 [(0,hZ B),(2,hZ E),(3,hZ G),(4,hZ u)].toArray)=some (.agg [hZ B,hZ 0,hZ E,hZ G,hZ u].toArray):=by kernel_rfl
def Kq(u:Int)(B:Int):pr hM (l1 72 [(0,hZ u),(3,hZ B)].toArray)=some (.agg [hZ u,hZ 0,hZ 0,hZ B,hZ 0].toArray):=by kernel_rfl
def Ks(B:Option Addr)(u E:Nat)(G:Int):pr hM (l1 95 [(0,.slice B u E),(1,hZ G)].toArray)=some (.agg [.slice B u E,hZ G].toArray):=by kernel_rfl
def Gg(u:ByteArray)(B:Int):pr hM (l1 114 [(0,.string u),(3,hZ B)].toArray)=some (.agg [.string u,.slice none 0 0,.slice none 0 0,hZ B].toArray):=by kernel_rfl
def MW(u:Int):pr hM (l1 114 [(3,hZ u)].toArray)=some (.agg [.string ⟨#[]⟩,.slice none 0 0,.slice none 0 0,hZ u].toArray):=by kernel_rfl
def MX(B:Option Addr)(u E:Nat):pr hM (l1 171 [(0,.slice B u E)].toArray)=some (.agg [.slice B u E,hZ 0,hZ 0,hZ 0].toArray):=by kernel_rfl
def RT:pr hM (l1 175 [].toArray)=some (.agg [.string ⟨#[]⟩,hZ 0,hZ 0].toArray):=by kernel_rfl
def Gh(u:ByteArray)(B:Int):pr hM (l1 175 [(0,.string u),(2,hZ B)].toArray)=some (.agg [.string u,hZ 0,hZ B].toArray):=by kernel_rfl
def MY(u:Int):pr hM (l1 179 [(3,hZ u)].toArray)=some (.agg [hZ 0,.string ⟨#[]⟩,hZ 0,hZ u].toArray):=by kernel_rfl
def BW(u:Int)(B:Int)(E:Int):pr hM (l1 183 [(0,hZ u),(1,hZ B),(3,hZ E)].toArray)=some (.agg [hZ u,hZ B,.string ⟨#[]⟩,hZ E].toArray):=by kernel_rfl
def BX(u:Int)(B:ByteArray)(E:Int):pr hM (l1 183 [(0,hZ u),(2,.string B),(3,hZ E)].toArray)=some (.agg [hZ u,hZ 0,.string B,hZ E].toArray):=by kernel_rfl
def yv(u:Int)(B:Int):pr hM (l1 183 [(0,hZ u),(3,hZ B)].toArray)=some (.agg [hZ u,hZ 0,.string ⟨#[]⟩,hZ B].toArray):=by kernel_rfl
def MZ(u:Int):pr hM (l1 200 [(0,hZ u)].toArray)=some (.agg [hZ u,.slice none 0 0].toArray):=by kernel_rfl
def yw(u:Option Addr)(G U:Nat)(M:Option Addr)(E O:Nat)(V:Option Addr)(B I:Nat)(J:Option Nat):pr hM (l1 207 [(0,.slice u G U),(1,.slice M E O),(2,.slice V B I),(4,.map J)].toArray)=some (.agg [.slice u G U,.slice M E O,.slice V B I,.slice none 0 0,.map J].toArray):=by kernel_rfl
def Gi(u:Int)(B:Int):pr hM (l1 220 [(0,hZ u),(8,hZ B)].toArray)=some (.agg [hZ u,.string ⟨#[]⟩,.string ⟨#[]⟩,.slice none 0 0,.slice none 0 0,hZ 0,hZ 0,hZ 0,hZ B].toArray):=by kernel_rfl
def Gj(u:Int)(B:Int):pr hM (l1 240 [(0,hZ u),(1,hZ B)].toArray)=some (.agg [hZ u,hZ B].toArray):=by kernel_rfl
def BY:pr hM (l1 262 [].toArray)=some (.agg [hZ 0,hZ 0,hZ 0,hZ 0].toArray):=by kernel_rfl
def yx(u:Int):pr hM (l1 262 [(0,hZ u)].toArray)=some (.agg [hZ u,hZ 0,hZ 0,hZ 0].toArray):=by kernel_rfl
def yy(u:Int)(B:Int):pr hM (l1 262 [(0,hZ u),(1,hZ B)].toArray)=some (.agg [hZ u,hZ B,hZ 0,hZ 0].toArray):=by kernel_rfl
def Gk(u:Int)(B:Int):pr hM (l1 324 [(0,hZ u),(1,hZ B)].toArray)=some (.agg [hZ u,hZ B].toArray):=by kernel_rfl
def Gl(B:Option Addr)(u E:Nat)(G:Int):pr hM (l1 368 [(0,.slice B u E),(1,hZ G)].toArray)=some (.agg [.slice B u E,hZ G,hZ 0,hZ 0,.slice none 0 0].toArray):=by kernel_rfl
def tc(B:Option Addr)(u E:Nat)(G:Int):pr hM (l1 371 [(0,.slice B u E),(1,hZ G)].toArray)=some (.agg [.slice B u E,hZ G,hZ 0,hZ 0].toArray):=by kernel_rfl
def Gm(u:Int)(B:Int):pr hM (l1 371 [(2,hZ u),(3,hZ B)].toArray)=some (.agg [.slice none 0 0,hZ 0,hZ u,hZ B].toArray):=by kernel_rfl
def M4:yl hM 262=some [0,0,0,0]:=by kernel_rfl
end Go.Proofs.YtdncbeepkacgbaaGreatDoor
namespace Go.Fw
def sep(H1 H2:HP):HP where
 p w F:=∃u B,H1.p w u/\H2.p w B/\(∀b,u b->¬ B b)/\∀b,F b↔u b\/B b
 loc w w' F h hh:=by
  obtain⟨u,B,h1,h2,h3,h4⟩:=h
  exact⟨u,B,H1.loc _ _ _ h1 λb hb=>hh b ((h4 b).2 (.inl hb)),H2.loc _ _ _ h2 λb hb=>hh b ((h4 b).2 (.inr hb)),h3,h4⟩
 lt w F b h hb:=by
  obtain⟨u,B,h1,h2,h3,h4⟩:=h
  rcases(h4 b).1 hb with hf|hf
  .exact H1.lt _ _ _ h1 hf
  .exact H2.lt _ _ _ h2 hf
def oV{α:Type}(H:α->HP):HP where
 p w F:=∃x,(H x).p w F
 loc w w' F h hh:=by obtain⟨x,h⟩:=h;exact⟨x,(H x).loc _ _ _ h hh⟩
 lt w F b h hb:=by obtain⟨x,h⟩:=h;exact(H x).lt _ _ _ h hb
def fact(φ:Prop)(H:HP):HP where
 p w F:=φ/\H.p w F
 loc w w' F h hh:=⟨h.1,H.loc _ _ _ h.2 hh⟩
 lt w F b h hb:=H.lt _ _ _ h.2 hb
def emp:HP where
 p _ F:=∀b,¬ F b
 loc _ _ _ h _:=h
 lt _ _ b h hb:=(h b hb).elim
section
variable {P:Program}{w w0 w':World}{A:Nat->Prop}{L:List HP}{H H1 H2:HP}
theorem St.split(h:St w0 A (sep H1 H2::L) w):St w0 A (H1::H2::L) w:=by
 obtain⟨U,F,B,⟨I,E,J,M,O,u⟩,h2,h3,h4,h5⟩:=h.oD
 refine⟨h.aF,U,I,λb=>E b\/B b,J,λb hb=>h2 b ((u b).2 (.inl hb)),λb hb G=>?_,λb=>?_,E,B,M,λb hb=>h2 b ((u b).2 (.inr hb)),λb hb G=>h3 b ((u b).2 (.inr hb)) G,λb=>Iff.rfl,h5⟩
 .grind
 grind
theorem St.join(h:St w0 A (H1::H2::L) w):St w0 A (sep H1 H2::L) w:=by
 obtain⟨U,F,V,h1,h2,h3,h4,u,M,I,B,O,J,E⟩:=h.oD
 refine⟨h.aF,U,λb=>F b\/u b,M,⟨F,u,h1,I,λb hb G=>h3 b hb ((J b).2 (.inl G)),λb=>Iff.rfl⟩,λb hb=>hb.elim (h2 b) (B b),λb hb W=>?_,λb=>?_,E⟩
 .grind
 grind
theorem St.dS{α:Type}{H:α->HP}(h:St w0 A (oV H::L) w):∃x,St w0 A (H x::L) w:=by
 obtain⟨U,F,u,⟨x,h1⟩,h2⟩:=h.oD;exact⟨x,h.aF,U,F,u,h1,h2⟩
theorem St.dO{α:Type}{H:α->HP}(x:α)(h:St w0 A (H x::L) w):St w0 A (oV H::L) w:=by
 obtain⟨U,F,u,h1,h2⟩:=h.oD;exact⟨h.aF,U,F,u,⟨x,h1⟩,h2⟩
theorem St.lr{φ:Prop}(h:St w0 A (fact φ H::L) w):φ/\St w0 A (H::L) w:=by
 obtain⟨U,F,u,⟨x,h1⟩,h2⟩:=h.oD;exact⟨x,h.aF,U,F,u,h1,h2⟩
theorem St.mB{φ:Prop}(x:φ)(h:St w0 A (H::L) w):St w0 A (fact φ H::L) w:=by
 simp_all[fact]
def mC(F:Nat->Prop)(H':HP)(w w':World):Prop:=∃u,H'.p w' u/\(∀b,u b->F b\/w.heap.size<=b)/\fD F w w'
def mD(H:HP)(w w':World):Prop:=∃F,H.p w' F/\(∀b,F b->w.heap.size<=b)/\Ext w w'
theorem St.mut{F:Nat->Prop}(u:St w F (H::L) w'):mC F H w w':=by
 obtain⟨B,h1,h2⟩:=u.head;exact⟨B,h1,h2,u.aF⟩
theorem St.fresh(u:St w bF (H::L) w'):mD H w w':=by
 obtain⟨B,h1,h2⟩:=u.head;exact⟨B,h1,λb hb=>(h2 b hb).elim (λh=>h.elim) id,u.aF⟩
theorem St.made(u:St w0 A L w)(h:mD H w w'):St w0 A (H::L) w':=by
 obtain⟨F,h1,h2,h3⟩:=h;exact u.new h3 h1 h2
theorem aR{f:FuncId}{args:List Value}{X:Value}{K:Value->hU}(pl:Plain P f)(u:St w0 A L w)(hc:Calls P f args.toArray w (oU λv w'=>v=X/\Ext w w'))(k:∀w',Ext w w'->St w0 A L w'->K X w'):wD P f args w K:=
 dW pl hc λv w' h=>by obtain⟨rfl,h2⟩:=h;exact k w' h2 (u.ext h2)
theorem fV{f:FuncId}{args:List Value}{H:Value->HP}{K:Value->hU}(pl:Plain P f)(u:St w0 A L w)(hc:Calls P f args.toArray w (oU λv w'=>mD (H v) w w'))(k:∀v w',mD (H v) w w'->St w0 A (H v::L) w'->K v w'):wD P f args w K:=
 dW pl hc λv w' h=>k v w' h (u.made h)
theorem St.M5{F:Nat->Prop}{B:Nat->Prop}{H':HP}(E:St w0 A (H::L) w)(h2:∀b,F b->A b\/w0.heap.size<=b)(h3:∀b,F b->¬ B b)(h5:mX w0 A L w B)(h:mC F H' w w'):St w0 A (H'::L) w':=by
 obtain⟨J,O,G,M⟩:=h
 refine⟨E.aF.trans M (λ_ h=>h) λb hb u=>(h2 b u).elim id λU=>bP,λb=>J b\/B b,J,B,O,λb hb=>?_,λb hb I=>?_,λb=>Iff.rfl,?_⟩
 .rcases G b hb with u|u
  .exact h2 b u
  exact .inr (x9 E.aF.size u)
 .rcases G b hb with u|u
  .exact h3 b u I
  have:=h5.lt b I;omega
 exact h5.loc λb hb=>M.bM b (h5.lt b hb) λu=>h3 b u hb
theorem lP{f:FuncId}{args:List Value}{H':Value->HP}{Φ:Value->hU}{K:Value->hU}(pl:Plain P f)(u:St w0 A (H::L) w)
  (hc:∀F,H.p w F->Calls P f args.toArray w (oU λv w'=>Φ v w'/\mC F (H' v) w w')) (k:∀v w',Φ v w'->St w0 A (H' v::L) w'->K v w'):wD P f args w K:=by
 obtain⟨U,F,G,h1,h2,h3,h4,h5⟩:=u.oD
 exact dW pl (hc F h1) λv w' ⟨E,B⟩=>k v w' E (u.M5 h2 h3 h5 B)
end
section
variable {α:Type}[Flat α] {P:Program}{w w0:World}{A S:Nat->Prop}{L:List HP}{xs ys:List α}
theorem dy.one{v:Value}(h:dy S w v xs):qD v=true:=by obtain⟨a,c,rfl,_⟩:=h;rfl
theorem z7{T E G R b n cap:Nat}{z:Option Nat}{src:Value}{cs:List Value}(ht:dV P T=some (E,lx α,G,z))(hb:nY w b cs)(u:dy S w src ys)
  (J:n+ys.length<=cap) (Y:n*lx α+ys.length*lx α<=cs.length) :
  ∃w',(Builtin.append_ #[T,T] R [.slice (some ⟨b,0,none⟩) n cap,src].toArray).run P w=.ok (.slice (some ⟨b,0,none⟩) (n+ys.length) cap) w'/\nY w' b (fO cs (n*lx α) (flat ys))/\fD (· = b) w w':=by
 obtain⟨O,I,hi,B,Z,_⟩:=eu ht
 have rd:=u
 obtain⟨W,V,rfl,Uy,V1⟩:=rd
 obtain⟨w',h1,h2,h3⟩:=jt (P:=P) (o:=n*lx α) (flat ys) 0 cs w hb (by rw[cG];omega) uc
 refine⟨w',?_,bP,h3⟩
 have M:=rW (α:=α) (P:=P) (sz:=lx α) rfl u
 have U:(⟨b,0,none⟩:Addr).add (n*lx α)=⟨b,n*lx α,none⟩:=by rw[fm,o6]
 simp[Builtin.append_,run_underlying O,sizeOf,typeInfo,hi,Builtin.lenOf,J,M,B,U,h1]
theorem Ku{T E J R b o n c:Nat}{z:α}{cs:List Value}(ht:QZ P T E (lx α) J)(u:ki P E (iS z))(hb:nY w b cs)(O:o+n*lx α<=cs.length) :
  ∃w',(Builtin.clear_ #[T] R [.slice (some ⟨b,o,none⟩) n c].toArray).run P w=.ok (.tuple #[]) w'/\nY w' b (fO cs o (flat (oI n z)))/\fD (· = b) w w':=by
 obtain⟨I,M,hi,V,U,_⟩:=eu ht
 unfold ki dA at u
 rw[hi]at u
 simp only[wG,nM.injEq]at u
 by_cases G:n=0
 .subst G
  refine⟨w,?_,by simpa[je,fO]using hb,fD.refl _ _⟩
  simp[Builtin.clear_,run_underlying I]
 have B:(Builtin.zeroCells (iS z).cells n).toList=flat (oI n z):=by
  rw[lE,<- qO]
  unfold Builtin.zeroCells madeCells
  simp[ry]
 obtain⟨w',h1,h2,h3⟩:=jt (P:=P) (o:=o) (flat (oI n z)) 0 cs w hb (by rw[cG,List.length_replicate];omega) uc
 refine⟨w',?_,bP,h3⟩
 simp[Builtin.clear_,run_underlying I,zeroValue,typeInfo,hi,u,G,B,h1]
theorem M6{T E sz J n cap:Nat}{z:Option Nat}{a:Option Addr}{i j k:Int}{K:Value->Prop}(ht:dV P T=some (E,sz,J,z))(O:0<=i)(h1:i<=j)(h2:j<=k)(h3:k<=cap)
  (G:∀v,K v):dX P (mv T (.slice a n cap) (some (hZ i)) (some (hZ j)) (some (hZ k))) K:=by
 obtain⟨u,M,B,I,_⟩:=eu ht
 have hb:pr P (qa true n cap (some (hZ i)) (some (hZ j)) (some (hZ k)))=some (i.toNat,j.toNat,k.toNat):=by
  simp only[qa,bT,eU,la]
  rw[fR bP bP]
  simp only[la]
  rw[fR bP bP]
  simp only[la]
  rw[fR bP bP]
  rfl
 refine⟨.slice (if k.toNat=i.toNat then a else a.map (·.add (i.toNat*sz))) (j.toNat-i.toNat) (k.toNat-i.toNat),?_,G _⟩
 unfold mv
 rw[bT,bR u]
 simp only[la]
 unfold Jr
 rw[bT,bR u]
 simp only[la]
 rw[bT,hb]
 simp only[la]
 rw[bT,kj B,I]
 rfl
end
def jV(b:Nat)(o:Obj):HP where
 p w F:=w.heap[b]?=some o/\∀k,F k↔k=b
 loc w w' F h hh:=⟨(hh b ((h.2 b).2 rfl)).trans h.1,h.2⟩
 lt w F b' h hb:=cR
section
variable {P:Program}{w w0 w':World}{A:Nat->Prop}{L:List HP}
theorem St.obj{b:Nat}{o:Obj}(u:St w0 A (jV b o::L) w):w.heap[b]?=some o:=by
 obtain⟨F,h,_⟩:=u.head;exact h.1
theorem Ext.alloc(w:World)(o:Obj):Ext w (w.alloc o):=Ext.push w o
theorem St.alloc{o:Obj}(u:St w0 A L w):St w0 A (jV w.heap.size o::L) (w.alloc o):=
 u.new (F:=(· = w.heap.size)) (Ext.alloc w o) ⟨jO w o,λ_=>Iff.rfl⟩ λb hb=>Nat.le_of_eq hb.symm
theorem fD.putObj(w:World)(b:Nat)(o:Obj):fD (· = b) w (w.putObj b o):=
 ⟨rfl,rfl,rfl,ew,λk _ u=>World.putObj_heap_other u⟩
theorem St.putObj{b:Nat}{o:Obj}(u:Obj)(E:St w0 A (jV b o::L) w):St w0 A (jV b u::L) (w.putObj b u):=
 E.mJ λF B=>⟨F,⟨World.putObj_heap_same (pM B.1),B.2⟩,λ_ h=>.inl h,(fD.putObj w b u).mono λk G=>(B.2 k).2 G⟩
theorem gJ.mono{fv:Value}{args:List Value}{K u:Value->hU}(h:gJ P fv args w K)(B:∀v w,K v w->u v w):gJ P fv args w u:=
 Ai.mono (P:=P) (k:=.HV fv args) h B
theorem aH{α:Type}[Flat α]{T:TypeId}{b:Nat}{cs:List Value}{x:α}{K:hU}(B:St w0 A (bM b cs::L) w)(ht:RE P T (lx α))(E:CE α=true)(u:cs.length=lx α)
  (k:∀w',St w0 A (bM b (jn x)::L) w'->K w'):LW P (B9 T (.pointer (some ⟨b,0,none⟩)) (iS x)) w K:=by
 rw[U2 E]
 refine yk B ht (ry x) (by rw[o6,u];exact om _) (P7 x) λw' h=>k w' ?_
 have:=jg [] cs [] (jn x) (by rw[ry,u])
 simp only[D1,sk,oj]at this
 rwa [this]at h
theorem ji{α:Type}[Flat α]{S:Nat->Prop}{T:TypeId}{p:Value}{x:α}(ht:cH P T=some (CE α,lx α))(h:At S w p x):(rE T p).run P w=.ok (iS x) w:=by
 obtain⟨v,h1,h2⟩:=(aE (K:=λv=>v=iS x) ht h rfl).ex
 grind
theorem iI{b:Bool}{A B:Prop}(h:b=true)(a:A):sJ (.bool b) A B:=⟨⟨_,rfl,λ_=>a,λu=>cR⟩⟩
theorem fE{b:Bool}{A B:Prop}(h:b=false)(a:B):sJ (.bool b) A B:=⟨⟨_,rfl,λu=>cR,λ_=>a⟩⟩
theorem yz{D:Nat}{K:hU}(u:St w0 A (jV D (.deferred (some []))::L) w)(k:∀w',St w0 A L w'->K w'):js [D] w K:=
 ⟨u.obj,k _ (u.putObj (.deferred none)).drop⟩
theorem yA(u:Loop)(h1:u.state=.ready)(h2:u.pending=none):({u with state:=if (none:Option Code).isNone=true then LoopState.ready else LoopState.done,pending:=none}:Loop)=u:=by
 cases u;grind
theorem q7{gf np:Nat}{cap:List Value}{xs:List (List Value)}{round:List Value->World->(World->(hU)->Prop)->(Option Code->hU)->Prop}
  {N R:Nat->hU}{X:Nat->Nat->hU}(pl:Plain P gf) (hs:St w0 A L w) (I:Nat->List HP->Prop) (V:Code->List HP->Prop) (h0:I 0 L) (hnp:∀x∈xs,x.length=np)
  (hgf:∀(y:Value) (J:Nat->hU) (Jx:hU) (W:World),(∀k W,J k W->∃Y M,I k M/\St w0 A (Y::M) W)->(∀k W O,J k W->Ext W O->J k O)->J 0 W->
   (∀k args O,xs[k]?=some args->J k O->gJ P y args O λv Z=>(v=.bool true/\J (k+1) Z)\/(v=.bool false/\Jx Z))->
   Calls P gf ([y]++cap).toArray W (oU λ_ O=>J xs.length O\/Jx O))
  (yg:∀k args (Y1 Y2:HP) (B:World->(hU)->Prop) (Kr:Option Code->hU) M W,xs[k]?=some args->I k M->
   (∀M E (kk:hU),St w0 A (Y1::M) E->(∀w2,St w0 A (Y2::M) w2->kk w2)->B E kk)->
   (∀M E,St w0 A (Y2::M) E->I (k+1) M->Kr none E)->(∀c M E,St w0 A (Y2::M) E->V c M->Kr (some c) E)->
   St w0 A (Y1::M) W->round args W B Kr)
  (M7:∀D M W,I xs.length M->St w0 A (jV D (.deferred (some []))::M) W->N D W)
  (V9:∀D M W,V .ret M->St w0 A (jV D (.deferred (some []))::M) W->R D W)
  (M8:∀id D M W,V (.exit id) M->St w0 A (jV D (.deferred (some []))::M) W->X id D W)
  (Gn:∀c M,V c M->(∃id,c=.exit id)\/c=.ret) :
  ua P (.func (.func gf) #[] cap.toArray) np w round (VS N R X):=by
 refine⟨gf,cap.toArray,rfl,pl,λU gi xl hy=>?_⟩
 obtain⟨l,hl⟩:∃l,l=w.heap.size+1:=⟨_,rfl⟩
 obtain⟨D,hD⟩:∃D,D=w.heap.size:=⟨_,rfl⟩
 rw[<- hl]at hy |-
 rw[<- hD]
 let J:Nat->hU:=λk W=>∃M,I k M/\St w0 A (jV l (.loop U)::jV D (.deferred (some []))::M) W
 let Jx:hU:=λW=>∃c M,V c M/\St w0 A (jV l (.loop {U with state:=.done,pending:=some c})::jV D (.deferred (some []))::M) W
 have Kv:J 0 ((w.alloc (.deferred (some []))).alloc (.loop U)):=by
  refine⟨L,h0,?_⟩
  have h1:=(hs.alloc (o:=.deferred (some []))).alloc (o:=.loop U)
  rw[show(w.alloc (.deferred (some []))).heap.size=l from by rw[hl];exact vD w _,<- hD]at h1
  exact h1
 have:=hgf (.func (.yield l) #[] #[]) J Jx _ (λk W ⟨M,G,u⟩=>⟨_,M,G,St.join u⟩) (λk W O ⟨M,G,u⟩ e=>⟨M,G,u.ext e⟩) Kv ?_
 .have e:([Value.func (.yield l) #[] #[]]++cap).toArray = #[.func (.yield l) #[] #[]]++cap.toArray:=ew
  rw[e]at this
  refine this.mono λx O ⟨v,hx,hv⟩=>⟨v,hx,?_⟩
  rcases hv with⟨M,G,u⟩|⟨c,M,G,u⟩
  .refine⟨.ready,none,ew,?_,?_⟩
   .rw[<- gi,<- xl];exact u.obj
   exact M7 D M _ G (u.putObj _).drop
  refine⟨.done,some c,ew,u.obj,?_⟩
  rcases Gn c M G with⟨id,rfl⟩|rfl
  .exact M8 id D M _ G (u.putObj _).drop
  exact V9 D M _ G (u.putObj _).drop
 intro k args W hk ⟨M,G,u⟩
 refine⟨.inr ⟨l,rfl,?_⟩⟩
 refine hy args W _ (hnp args (l0 hk)) u.obj ?_
 refine yg k args (sep (jV l (.loop U)) (jV D (.deferred (some [])))) (sep (jV l (.loop {U with state:=.busy})) (jV D (.deferred (some [])))) _ _ M W hk G
  (λM E kk h1 h2=>?_) (λM E h1 h2=>?_) (λc M E h1 h2=>?_) (St.join u)
 .have h1:=h1.split
  exact⟨h1.obj,h2 _ (h1.putObj _).join⟩
 .have h1:=h1.split
  refine⟨h1.obj,.inl ⟨rfl,M,h2,?_⟩⟩
  have:=h1.putObj (.loop {U with state:=if (none:Option Code).isNone=true then LoopState.ready else LoopState.done,pending:=none})
  rw[yA U gi xl]at this |-
  exact this
 have h1:=h1.split
 exact⟨h1.obj,.inr ⟨rfl,c,M,h2,h1.putObj _⟩⟩
end
section
variable {P:Program}{w w0:World}{A S:Nat->Prop}{L:List HP}
theorem BZ{t:Array TypeId}{T:TypeId}{a b:Int}{K:Value->Prop}(k:K (hZ (min a b))):dX P (Builtin.min_ t T [hZ a,hZ b].toArray) K:=by
 refine⟨_,?_,k⟩
 show pr P (Builtin.min2 (hZ a) (hZ b))=_
 unfold Builtin.min2
 by_cases h:b<a
 .simp[h,eU];omega
 simp[h,eU];omega
theorem xN{t:Array TypeId}{T:TypeId}{a b:Int}{K:Value->Prop}(k:K (hZ (max a b))):dX P (Builtin.max_ t T [hZ a,hZ b].toArray) K:=by
 refine⟨_,?_,k⟩
 show pr P (Builtin.max2 (hZ a) (hZ b))=_
 unfold Builtin.max2
 by_cases h:a<b
 .simp[h,eU];omega
 simp[h,eU];omega
end
section
variable {P:Program}{α:Type}[Flat α] {A:Nat->Prop}{w0 w:World}{L:List HP}{xs:List α}
def Gp(α:Type)[Flat α](v:Value)(i u:Nat)(p:Value):Prop:=∃b n c,v=.slice (some ⟨b,0,none⟩) n c/\p=.pointer (some ⟨b,i*lx α+u,none⟩)
theorem q8{T f u i:Nat}{v p:Value}{K:Value->Prop}(ht:vE P T f u)(h:AE α v i p)(k:∀q,Gp α v i u q->K q):dX P (Instr.fieldAt T p f) K:=by
 obtain⟨b,n,c,h1,rfl⟩:=h
 exact aA ht (k _ ⟨b,n,c,h1,rfl⟩)
theorem uB{β:Type}[Flat β]{T:Nat}{v p:Value}{i u:Nat}{x:α}(y:β){K:Value->Prop}(M:St w0 A (bH v xs::L) w)(ht:cH P T=some (CE β,lx β))(I:Gp α v i u p)(G:xs[i]?=some x)
  (J:((jn x).drop u).take (lx β)=jn y) (k:K (iS y)):Ah P (rE T p) w K:=by
 obtain⟨F,h,_⟩:=M.head
 obtain⟨b,cap,rest,O,hb,U,_⟩:=mS h (j0.1 G).1
 obtain⟨V,n,c,E,rfl⟩:=I
 rw[O]at E
 simp only[ta.injEq,nM.injEq,Addr.mk.injEq]at E
 obtain⟨⟨rfl,_,_⟩,_,_⟩:=E
 refine aE (S:=λ_=>True) ht ⟨b,i*lx α+u,rfl,trivial,λj c B=>hb.cell ?_⟩ k
 rw[<- J,List.getElem?_take]at B
 split at B
 .rw[Dk]at B
  have:=o0 G B
  rw[GR,qk (j0.1 this).1];exact this
 cases B
theorem M9{β:Type}[Flat β]{T:Nat}{v p:Value}{i u:Nat}{K:hU}{x:α}(y:α)(z:β)(Y:St w0 A (bH v xs::L) w)(ht:cH P T=some (CE β,lx β))(hp:Gp α v i u p)(hx:xs[i]?=some x)
  (hlen:u+lx β<=lx α) (hy:(jn x).take u++jn z++(jn x).drop (u+lx β)=jn y)
  (k:∀w',St w0 A (bH v (xs.set i y)::L) w'->K w'):LW P (B9 T p (iS z)) w K:=by
 obtain⟨U,F,U',g1,M,W,g4,O⟩:=Y.oD
 have hi:=(j0.1 hx).1
 obtain⟨b,cap,rest,Z,hb,V,G⟩:=mS g1 hi
 obtain⟨b',n,c,J,rfl⟩:=hp
 rw[Z]at J
 simp only[ta.injEq,nM.injEq,Addr.mk.injEq]at J
 obtain⟨⟨rfl,_,_⟩,_,_⟩:=J
 have Kj:=s7 hx
 have Kk:(flat (xs.take i)).length=i*lx α:=by rw[cG,mg,x8 bP]
 have FE:i*lx α+lx α<=(flat xs).length:=by
  rw[cG,<- Nat.succ_mul];exact zP _ hi
 have Zi:(jn x).length=lx α:=ry x
 have B:(jn z).length=lx β:=ry z
 obtain⟨w',h1,h2,h3⟩:=jt (P:=P) (o:=i*lx α+u) (jn z) 0 (flat xs++rest) w hb (by rw[B,kE];omega) (P7 z)
 have zT:fO (flat xs++rest) (i*lx α+u+0) (jn z)=flat (xs.set i y)++rest:=by
  have:=jg (flat (xs.take i)++(jn x).take u) (((jn x).drop u).take (lx β)) ((jn x).drop (u+lx β)++flat (xs.drop (i+1))++rest) (jn z)
   (by rw[B,mg,oC];omega)
  rw[kE,Kk,mg,x8 bP]at this
  rw[Ii,Dw y hi,Kj,<- hy]
  have e1:jn x=(jn x).take u++((jn x).drop u).take (lx β)++(jn x).drop (u+lx β):=by
   rw[<- q9,mu,ob,ob]
  have e2:flat (xs.take i)++jn x++flat (xs.drop (i+1))++rest=flat (xs.take i)++(jn x).take u++((jn x).drop u).take (lx β)++((jn x).drop (u+lx β)++flat (xs.drop (i+1))++rest):=by
   conv=>lhs;rw[e1]
   simp only[mu]
  rw[e2,this]
  simp only[mu]
 rw[zT]at h2
 refine⟨w',?_,k w' ⟨Y.aF.trans (h3.mono λk E=>(G k).2 E) (λ_ h=>h) λb hb I=>(M b I).elim id λhh=>bP,U,F,U',?_,M,W,g4,
  O.loc λb hb=>(h3.mono λk E=>(G k).2 E).bM b (O.lt b hb) λI=>W b I hb⟩⟩
 .show(storeVar T ⟨b,i*lx α+u,none⟩ (iS z)).run P w=_
  unfold storeVar
  rw[dC (eM (iH ht).2 w),lE]
  simp only[List.size_toArray,ry,ne_eq,not_true_eq_false,if_false]
  exact h1
 refine .inr ⟨b,cap,rest,by rw[D5];exact Z,h2,?_,G⟩
 rw[kE,cG]at V |-;rw[D5];exact V
theorem Iw{T:Nat}{b o:Nat}{cs:List Value}(x:α){K:Value->Prop}(ht:cH P T=some (CE α,lx α))(hb:nY w b cs)(B:(cs.drop o).take (lx α)=jn x)(k:K (iS x)) :
  Ah P (rE T (.pointer (some ⟨b,o,none⟩))) w K:=by
 refine aE (S:=λ_=>True) ht ⟨b,o,rfl,trivial,λj c u=>hb.cell ?_⟩ k
 grind
end
structure SV where
 a:Option Addr
 n:Nat
 cap:Nat
abbrev bY:SV:=⟨none,0,0⟩
instance:Flat SV where
 agg:=false
 sz:=1
 enc s:=[.slice s.a s.n s.cap]
 val s:=.slice s.a s.n s.cap
 pos:=ea
 len _:=rfl
 one a v h:=by rw[rC.1 h];rfl
 lj h:=by cases h
 lD _ _:=rfl
section
variable {P:Program}{α:Type}[Flat α] {A:Nat->Prop}{w0 w:World}{L L':List HP}{v:Value}
def rows:List SV->List (List α)->HP
 | [],[]=>emp
 | s::ss,x::xs=>sep (bH (iS s) x) (rows ss xs)
 | _,_=>fact False emp
theorem DK:∀{u:List SV}{xs:List (List α)}{F:Nat->Prop},(rows u xs).p w F->u.length=xs.length
 | [],[],_,_=>rfl
 | s::u,x::xs,F,h=>by
  obtain⟨B,E,_,h2,_,_⟩:=h
  rw[oh,oh,DK h2]
 | [],_::_,_,h=>h.1.elim
 | _::_,[],_,h=>h.1.elim
theorem AJ:∀{E:List SV}{xs:List (List α)}{B u F:Nat->Prop}{s:SV}{x:List α},(rows E xs).p w B->(bH (iS s) x).p w u->(∀b,B b->¬ u b)->(∀b,F b↔B b\/u b)->(rows (E++[s]) (xs++[x])).p w F
 | [],[],B,u,F,s,x,h1,h2,_,h4=>by
  refine⟨u,B,h2,h1,λb hb G=>h1 b G,λb=>?_⟩
  grind
 | s'::E,x'::xs,B,u,F,s,x,h1,h2,h3,h4=>by
  obtain⟨O,J,I,M,V,U⟩:=h1
  refine⟨O,λb=>J b\/u b,I,AJ M h2 (λb hb=>h3 b ((U b).2 (.inr hb))) (λb=>Iff.rfl),λb hb=>?_,λb=>?_⟩
  .grind
  grind
 | [],_::_,_,_,_,_,_,h,_,_,_=>h.1.elim
 | _::_,[],_,_,_,_,_,h,_,_,_=>h.1.elim
theorem St.uC{u:List SV}{xs:List (List α)}(B:St w0 A (rows u xs::L) w):u.length=xs.length:=by
 obtain⟨F,h,_⟩:=B.head;exact DK h
theorem St.RU(u:St w0 A L w):St w0 A (rows [] ([]:List (List α))::L) w:=
 u.new (Ext.refl w) (F:=bF) (λ_ h=>h) λ_ h=>h.elim
theorem St.yB{u:List SV}{xs:List (List α)}{s:SV}{x:List α}(B:St w0 A (rows u xs::bH (iS s) x::L) w):St w0 A (rows (u++[s]) (xs++[x])::L) w:=by
 have h:=St.join B
 refine h.mJ λF E=>?_
 obtain⟨G,I,h1,h2,h3,h4⟩:=E
 exact⟨F,AJ h1 h2 h3 h4,λb hb=>.inl hb,fD.refl _ _⟩
theorem St.gF{xs:List α}(u:St w0 A (bH v xs::L) w):∃s:SV,v=iS s:=by
 obtain⟨F,h,_⟩:=u.head
 rcases h with⟨rfl,_⟩|⟨b,cap,_,rfl,_⟩
 .exact⟨⟨none,0,0⟩,rfl⟩
 exact⟨⟨_,_,_⟩,rfl⟩
theorem dy.gF{S:Nat->Prop}{xs:List α}(h:dy S w v xs):∃s:SV,v=iS s:=by
 obtain⟨a,cap,rfl,_⟩:=h;exact⟨⟨_,_,_⟩,rfl⟩
def agS(w:World)(v:Value)(xs:List (List α)):Prop:=
 ∃u:List SV,dy (λ_=>True) w v u/\u.length=xs.length/\∀(i:Nat) (s:SV) (x:List α),u[i]?=some s->xs[i]?=some x->dy (λ_=>True) w (iS s) x
end
section
variable {P:Program}
theorem j5{α:Type}[Flat α]{S:Nat->Prop}{w:World}{xs:List α}{T E G:Nat}{z:Option Nat}{v:Value}{i:Int}{K:Value->Prop}(ht:dV P T=some (E,lx α,G,z))(I:dy S w v xs)(B:0<=i)(h2:i<=xs.length)
  (k:∀u,(∀w',dy S w' v xs->dy S w' u (xs.take i.toNat))->K u):dX P (mv T v none (some (hZ i)) none) K:=by
 obtain⟨a,cap,rfl,J,h3⟩:=I
 refine⟨_,qN ht (km (.inl ⟨rfl,rfl⟩) (.inr ⟨i,rfl,B,rfl⟩) (mj _) bP),k _ λw' h=>?_⟩
 have:=h.cut rfl (mj i.toNat) bP
 grind
end
open Go.ChangeShapes Go.WideShapes Go.ChangeAt Go.RowKit
structure RdT(P:Program)(t:TypeId)(α:Type)[Flat α](φ:α->Prop):Prop where
 cells:P.cellsOf t=lx α
 rd:∀{H:Type}(enc:TypeId×Value->H) (w:World) (base:Nat) (sp:Nat->Bool) (held:Bool) (fuel:Nat) (cs:List Value) (x:DataW H×List MemPlace),
  DataW.trod enc P w base sp held fuel t cs=some x->∃a:α,cs=jn a/\φ a
def sP(n:Int):Prop:=-9223372036854775808<=n/\n<=9223372036854775807
def Wa{P:Program}{t:TypeId}(ht:P.underlying t=some (.int .i64))(hc:P.cellsOf t=1):RdT P t Int sP:=
 ⟨hc,λenc w base u held fuel cs x h=>by
  obtain⟨n,h1,_,h3⟩:=DataW.trod_int ht h
  refine⟨n,h1,?_⟩
  simpa[Lit.wf,IntKind.min,IntKind.max,IntKind.signed,IntKind.bits,sP]using h3⟩
def Gq{H:Type}{enc:TypeId×Value->H}{P:Program}{w:World}{base:Nat}{B:Nat->Bool}{held:Bool}{fuel:Nat}{t:TypeId}{u:Array Field}{cs:List Value}{x:DataW H×List MemPlace}
  (ht:P.underlying t=some (.struct u)) (h:DataW.trod enc P w base B held fuel t cs=some x) :
  cs.length=P.cellsOf t/\∃n,∀(i:Nat) (f:Field),u[i]?=some f->∃y,DataW.trod enc P w base B held n f.type ((cs.drop f.offset).take (P.cellsOf f.type))=some y:=by
 obtain⟨xs,n,_,_,E,I,J⟩:=DataW.trod_struct ht h
 refine⟨E,n,λi f hi=>?_⟩
 have G:i<xs.length:=by rw[I];exact(Array.getElem?_eq_some_iff.1 hi).1
 exact⟨xs[i],by rw[J i f hi,kB G]⟩
def sd{cs:List Value}{o s:Nat}{r:List Value}(h:(cs.drop o).take s=r):cs.drop o=r++cs.drop (o+s):=by
 rw[<- h,<- q9,ob]
theorem RV{α:Type}{p:Nat->α->Prop}:∀n,(∀i,i<n->∃x,p i x)->∃xs:List α,xs.length=n/\∀i x,xs[i]?=some x->p i x:=by
 intro n
 induction n with
 | zero=>simp_all
 | succ n u=>
  intro h
  obtain⟨xs,h1,h2⟩:=u λi hi=>h i bP
  obtain⟨x,E⟩:=h n bP
  refine⟨xs++[x],by simp[h1],λi y B=>?_⟩
  grind
def Gr{α:Type}[Flat α]{xs:List α}{j:Nat}{c:Value}(h:(flat xs)[j]?=some c):∃i r x,xs[i]?=some x/\(jn x)[r]?=some c/\j=i*lx α+r:=by
 have E:j<(flat xs).length:=(j0.1 h).1
 rw[cG]at E
 have u:0<lx α:=P8
 have hi:j / lx α<xs.length:=Nat.div_lt_of_lt_mul cR
 have B:j % lx α<lx α:=Nat.mod_lt _ u
 have I:j=j / lx α*lx α+j % lx α:=by rw[Nat.mul_comm];exact(Nat.div_add_mod _ _).symm
 have G:xs[j / lx α]?=some (xs[j / lx α]):=kB hi
 have hc:(jn (xs[j / lx α]))[j % lx α]?=some ((jn (xs[j / lx α]))[j % lx α]'(by rw[ry];exact B)):=kB _
 have:=o0 G hc
 grind
section
variable {H:Type}{enc:TypeId×Value->H}{P:Program}{w:World}{base:Nat}{held:Bool}
theorem open_i64{r:Reach}{G:Nat}{t:TypeId}{v:Value}{d:DataW H}{ps:List MemPlace}{E:Nat->Bool}(ht:P.underlying t=some (.int .i64))(u:O6 P w r G t v)(B:DataW.Trod enc P w base E held t v d ps) :
  ∃n,v=hZ n/\sP n:=by
 obtain⟨n,h1,_,_,h4⟩:=open_int ht u B
 exact⟨n,h1,by simpa[Lit.wf,IntKind.min,IntKind.max,IntKind.signed,IntKind.bits,sP]using h4⟩
def B0(P:Program)(ts:List TypeId):Bool:=ts.all λt=>P.readableRec t&&decide (t<P.types.size)
theorem sQ(G:laidOutB P=true){W J:World}(hb:Below W.heap.size W J){I:Nat->Bool}:∀{ts:List TypeId}{vs:List Value}{B:List (DataW H)}{ps:List MemPlace},B0 P ts=true->(∀x∈ps,x.block<W.heap.size)->
  (∀x∈ps,I x.block=true)->DataW.TrodAll enc P W 0 (λ_=>true) true ts vs B ps->DataW.TrodAll enc P J 0 I true ts vs B ps
 | [],vs,B,ps,_,_,_,h=>by obtain⟨rfl,rfl,rfl⟩:=trodAll_nil h;exact trodAll_mk0
 | t::ts,vs,B,ps,hr,kH,Kj,h=>by
  obtain⟨v,M,d,O,a,b,rfl,rfl,rfl,h1,h2⟩:=trodAll_cons h
  have E:P.readableRec t=true/\t<P.types.size/\B0 P ts=true:=by
   grind[B0]
  refine trodAll_cons_mk (WideElems.Trod_stays G E.1 E.2.1 h1 (λx u=>hb.same (kH x (List.mem_append_left _ u))) λx u=>Kj x (List.mem_append_left _ u)) ?_
  exact sQ G hb E.2.2 (λx u=>kH x (List.mem_append_right _ u)) (λx u=>Kj x (List.mem_append_right _ u)) h2
theorem post_true{f:Func}{s:ChangeSpec}{apart fresh handsOn again:Bool}{W I:World}{args:Array Value}{B gs:List (DataW H)}{before:List MemPlace}{tb:TypeId}
  (UD:s.vars=[]) (hfn:∀B:List (DataW H),B.length=f.params.size->s.fn H B={results:=[.lit (.bool true)],args:=B}) (M:f.resultTypes = #[tb]) (O:P.underlying tb=some .bool)
  (hl:laidOutB P=true) (Wb:B0 P f.params.toList=true)
  (hW:DataW.Whole enc P f.params.toList s.vars apart W args.toList B gs before) (hb:Below W.heap.size W I) :
  s.post enc P f apart fresh handsOn again W args (.bool true) I:=by
 have J:=hW
 obtain⟨p,q,hA,hV,U,hz,hn⟩:=hW
 have kH:∀x∈before,x.block<W.heap.size:=J.lt
 rw[UD]at hV
 obtain⟨rfl,rfl⟩:=trodVars_none hV
 simp only[oj]at U
 have hlen:B.length=f.params.size:=by
  have:=(trodAll_length hA).2
  omega
 have Z:=hfn B hlen
 have UE:∀(b:Nat) (E:Nat->Bool) (hd:Bool),DataW.TrodAll enc P I b E hd f.resultTypes.toList ((sq true).resultList f.resultTypes.size) (s.fn H (B++[])).results []:=λb E hd=>by
  rw[oj,Z,M]
  exact trodAll_mk1 (shut_bool O true)
 have u:∀E:Nat->Bool,(∀p∈before,E p.block=true)->DataW.TrodAll enc P I 0 E true f.params.toList args.toList (s.fn H (B++[])).args before:=λE Kj=>by
  rw[oj,Z]
  rw[U]at kH Kj |-
  exact sQ hl hb Wb kH Kj hA
 have Na:∀E:Nat->Bool,DataW.TrodVars enc P I E s.vars (s.fn H (B++[])).vars []:=λE=>by
  rw[oj,Z,UD];rfl
 have qi:∀(j:Nat) (t:TypeId) (r:Value),f.resultTypes[j]?=some t->((sq true).resultList f.resultTypes.size)[j]?=some r->O6 P I .any 0 t r:=
  ok_one M rfl (okWide_bool_mk O true)
 have hold:∀p∈before,(λb=>decide (b<W.heap.size)) p.block=true:=λp Y=>cR
 refine⟨B,[],before,[],before,[],J,UE _ _ _,u _ hold,Na _,World.keptBut_mono (λp Y=>⟨Y,?_⟩) (hb.frame (·∈before)),λ_=>?_⟩
 .grind
 refine⟨qi,_,_,([]++before)++[],⟨[]++before,[],trodAll_append (u _ λ_ _=>rfl) (UE _ _ _),Na _,rfl,?_,?_⟩,?_⟩
 .intro b G Y
  have V:MemPlace.cell b G∈before:=cR
  rw[hb.frozen (p:=⟨b,G,none⟩) (kH _ V)]
  exact hz b G V
 .grind
 grind
end
section
variable {P:Program}{α:Type}[Flat α]
def aaR(P:Program)(T n E:Nat):Prop:=P.underlying T=some (.array n E)/\pr P (sizeOf E)=some 1
theorem kQ{T E n b o:Nat}{i:Int}{K:Value->Prop}(h:aaR P T n E)(G:0<=i)(h1:i<n)(k:K (.pointer (some ⟨b,o+i.toNat,none⟩))) :
  dX P (Cw T (.pointer (some ⟨b,o,none⟩)) (hZ i)) K:=by
 refine⟨_,?_,k⟩
 unfold Cw
 have B:pr P (underlying T)=some (.array n E):=bR h.1
 have u:pr P (Instr.sureAddr (.pointer (some (⟨b,o,none⟩:Addr))))=some ⟨b,o,none⟩:=rfl
 simp only[asIntOf,bT,B,la,eU,u]
 simp only[fh (show 0<=i/\i<(n:Int)from⟨G,h1⟩),bT,h.2,la,eU,fm,Nat.mul_one]
end
def Iy{α:Type}[Flat α]{P:Program}{w w0:World}{A:Nat->Prop}{L:List HP}{xs:List α}{T:Nat}{v p:Value}{i:Nat}{x:α}(G:St w0 A (bH v xs::L) w)(ht:cH P T=some (CE α,lx α))(E:AE α v i p)(B:xs[i]?=some x) :
  (rE T p).run P w=.ok (iS x) w:=by
 obtain⟨F,h,_⟩:=G.head
 obtain⟨b,cap,rest,I,hb,M,_⟩:=mS h (j0.1 B).1
 obtain⟨O,n,c,u,rfl⟩:=E
 rw[I]at u
 simp only[ta.injEq,nM.injEq,Addr.mk.injEq]at u
 obtain⟨⟨rfl,_,_⟩,_,_⟩:=u
 refine ji (S:=λ_=>True) ht ⟨b,i*lx α,rfl,trivial,λj c J=>hb.cell ?_⟩
 have:=o0 B J
 rw[qk (j0.1 this).1];exact this
class Deep (α:Type) (σ:outParam Type) [Flat σ] where
 dr:World->σ->α->Prop
 ext:∀{w w':World}{s:σ}{x:α},dr w s x->Ext w w'->dr w' s x
def DL{α σ:Type}[Flat σ][Deep α σ](w:World)(v:Value)(xs:List α):Prop:=
 ∃ts:List σ,dy (λ_=>True) w v ts/\ts.length=xs.length/\∀(i:Nat) (t:σ) (x:α),ts[i]?=some t->xs[i]?=some x->Deep.dr w t x
section
variable {P:Program}{α σ:Type}[Flat σ] [Deep α σ] {w w' w0:World}{v:Value}{A:Nat->Prop}{L:List HP}
theorem DL.ext{xs:List α}(h:DL w v xs)(e:Ext w w'):DL w' v xs:=by
 obtain⟨ts,h1,h2,h3⟩:=h;exact⟨ts,h1.ext e,h2,λi t x a b=>Deep.ext (h3 i t x a b) e⟩
theorem DL.nil(w:World):DL w (.slice none 0 0) ([]:List α):=⟨[],dy.nil _ _,rfl,λi t x h=>by simp at h⟩
theorem DL.gF{xs:List α}(h:DL w v xs):∃s:SV,v=iS s:=by obtain⟨_,h,_⟩:=h;exact h.gF
instance:Deep (List α) SV where
 dr w s xs:=DL w (iS s) xs
 ext h e:=DL.ext h e
def eH(Φ:hU):HP where
 p w F:=(∀w':World,(∀b,F b->w'.heap[b]?=w.heap[b]?)->Φ w')/\∀b,F b->b<w.heap.size
 loc w w' F h hh:=⟨λu h2=>h.1 u λb hb=>(h2 b hb).trans (hh b hb),λb hb=>by
  grind⟩
 lt w F b h hb:=h.2 b hb
theorem eH.now{Φ:hU}{F:Nat->Prop}(h:(eH Φ).p w F):Φ w:=h.1 w λ_ _=>rfl
theorem St.eH{Φ:hU}(u:St w0 A (eH Φ::L) w):Φ w:=by obtain⟨F,h,_⟩:=u.head;exact eH.now h
theorem St.dH{Φ Ψ:hU}(B:St w0 A (Fw.eH Φ::L) w)(E:∀w,Φ w->Ψ w):St w0 A (Fw.eH Ψ::L) w:=
 B.mJ λF u=>⟨F,⟨λw' h=>E _ (u.1 w' h),u.2⟩,λb hb=>.inl hb,fD.refl _ _⟩
theorem St.gY{Φ Ψ:hU}(B:St w0 A (Fw.eH Φ::Fw.eH Ψ::L) w):St w0 A (Fw.eH (λw=>Φ w/\Ψ w)::L) w:=by
 have h:=St.join B
 refine h.mJ λF E=>?_
 obtain⟨G,I,h1,h2,h3,h4⟩:=E
 refine⟨F,⟨λw' u=>⟨h1.1 w' λb hb=>u b ((h4 b).2 (.inl hb)),h2.1 w' λb hb=>u b ((h4 b).2 (.inr hb))⟩,λb hb=>?_⟩,λb hb=>.inl hb,fD.refl _ _⟩
 rcases(h4 b).1 hb with hb|hb
 .exact h1.2 b hb
 exact h2.2 b hb
theorem St.fG{Φ:hU}(u:St w0 A L w)(h:∀w,Φ w):St w0 A (Fw.eH Φ::L) w:=
 u.new (Ext.refl w) (F:=bF) ⟨λw' _=>h w',λb hb=>hb.elim⟩ λ_ h=>h.elim
theorem St.freeze{xs:List σ}(B:St w0 A (bH v xs::L) w):St w0 A (Fw.eH (λw=>dy (λ_=>True) w v xs)::L) w:=
 B.mJ λF u=>⟨F,⟨λw' h=>(bH.rd ((bH v xs).loc _ _ _ u h)).mono λ_ _=>trivial,λb hb=>(bH v xs).lt _ _ _ u hb⟩,λb hb=>.inl hb,fD.refl _ _⟩
theorem St.mT{b:Nat}{cs:List Value}(B:St w0 A (bM b cs::L) w):St w0 A (Fw.eH (λw=>nY w b cs)::L) w:=
 B.mJ λF u=>⟨F,⟨λw' h=>((bM b cs).loc _ _ _ u h).1,λk E=>(bM b cs).lt _ _ _ u E⟩,λb hb=>.inl hb,fD.refl _ _⟩
def gQ(ts:List σ)(xs:List α)(w:World):Prop:=ts.length=xs.length/\∀(i:Nat) (t:σ) (x:α),ts[i]?=some t->xs[i]?=some x->Deep.dr w t x
theorem gQ.nil:gQ ([]:List σ) ([]:List α) w:=⟨rfl,λi t x h=>by simp at h⟩
theorem gQ.snoc{ts:List σ}{xs:List α}{t:σ}{x:α}(h:gQ ts xs w)(ht:Deep.dr w t x):gQ (ts++[t]) (xs++[x]) w:=by
 grind[gQ]
theorem gQ.append{ts us:List σ}{xs ys:List α}(h:gQ ts xs w)(g:gQ us ys w):gQ (ts++us) (xs++ys) w:=by
 grind[gQ]
theorem gQ.ext{ts:List σ}{xs:List α}(h:gQ ts xs w)(e:Ext w w'):gQ ts xs w':=⟨h.1,λi t x a b=>Deep.ext (h.2 i t x a b) e⟩
theorem DL.of{ts:List σ}{xs:List α}(h:dy (λ_=>True) w v ts)(g:gQ ts xs w):DL w v xs:=⟨ts,h,g.1,g.2⟩
theorem DL.open{xs:List α}(h:DL w v xs):∃ts:List σ,dy (λ_=>True) w v ts/\gQ ts xs w:=by obtain⟨ts,h1,h2,h3⟩:=h;exact⟨ts,h1,h2,h3⟩
theorem gQ.take{ts:List σ}{xs:List α}(h:gQ ts xs w)(k:Nat):gQ (ts.take k) (xs.take k) w:=by
 grind[gQ]
theorem gQ.drop{ts:List σ}{xs:List α}(h:gQ ts xs w)(k:Nat):gQ (ts.drop k) (xs.drop k) w:=by
 grind[gQ]
end
section
variable {α:Type}[Flat α]
abbrev fL:Deep α α:=⟨λ_ s x=>s=x,λh _=>h⟩
theorem AK[D:Deep α α](u:∀w s x,D.dr w s x↔s=x){w:World}{ts xs:List α}:gQ ts xs w↔ts=xs:=by
 constructor
 .rintro⟨h1,h2⟩
  refine u4 λi=>?_
  grind
 grind[gQ]
end
instance:Deep Int Int:=fL
instance:Deep Bool Bool:=fL
instance:Deep ByteArray ByteArray:=fL
structure RdW(P:Program)(w:World)(t:TypeId)(α:Type)[Flat α](φ:α->Prop):Prop where
 cells:P.cellsOf t=lx α
 rd:∀{H:Type}(enc:TypeId×Value->H) (base:Nat) (held:Bool) (fuel:Nat) (cs:List Value) (x:DataW H×List MemPlace),
  DataW.trod enc P w base (λ_=>true) held fuel t cs=some x->∃a:α,cs=jn a/\φ a
def RW(P:Program)(t:TypeId)(α:Type){σ:Type}[Flat σ][Deep α σ](φ:α->Prop):Prop:=∀w,RdW P w t σ (λs=>∃a:α,Deep.dr w s a/\φ a)
def RdT.deep{P:Program}{t:TypeId}{α:Type}[Flat α][D:Deep α α]{φ:α->Prop}(h:RdT P t α φ)(u:∀w (x:α),D.dr w x x):RW P t α φ:=
 λw=>⟨h.cells,λenc base held fuel cs x B=>by
  obtain⟨a,h1,h2⟩:=h.rd enc w base _ held fuel cs x B;exact⟨a,h1,a,u w a,h2⟩⟩
section
variable {H:Type}{enc:TypeId×Value->H}{P:Program}{w:World}{base:Nat}{held:Bool}
theorem Nb{α:Type}[Flat α]{φ:α->Prop}{t e:TypeId}{fuel:Nat}{cs:List Value}{x:DataW H×List MemPlace}(ht:P.underlying t=some (.slice e))(U:RdW P w e α φ)
  (h:DataW.trod enc P w base (λ_=>true) held fuel t cs=some x):∃v,cs=[v]/\∃xs:List α,dy (λb=>b<w.heap.size) w v xs/\∀x∈xs,φ x:=by
 rcases DataW.trod_slice ht h with⟨rfl,_⟩|⟨a,len,cap,elems,rest,n,_,rfl,_,hb,hl,hm,hlen,Z,Y,_⟩
 .exact⟨_,rfl,[],dy.nil _ _,ew⟩
 refine⟨_,rfl,?_⟩
 have get:∀i,i<len->∃x:α,φ x/\w.cells? base (a.add (i*P.cellsOf e)) (P.cellsOf e)=some (jn x):=by
  intro i hi
  have h1:=Z i hi
  rw[kB bP]at h1
  obtain⟨cs',h2,h3⟩:=HY.1 h1
  obtain⟨x,rfl,B⟩:=U.rd enc base held n cs' _ h3
  grind
 obtain⟨xs,V,E⟩:=RV len get
 have M:=U.cells
 have J:0<lx α:=P8
 have first:∀(c:Nat) (cs':List Value),w.cells? base (a.add (c*P.cellsOf e)) (P.cellsOf e)=some cs'->c=0->a.spot=none:=by
  intro c cs' h1 u
  subst u
  have:=P9 h1
  have h2:=this.2.2 0 bP
  rw[Nat.zero_mul]at h2
  have h3:w.cell? a=cs'[0]?:=by simpa[Addr.add]using h2
  rw[kB bP]at h3
  unfold World.cell? at h3
  split at h3
  .simp_all
  .cases h3
 refine⟨xs,⟨some a,cap,by rw[V],bP,?_⟩,λx B=>?_⟩
 .by_cases zW:cap=0
  .simp_all
  right
  have O:a.spot=none:=by
   by_cases u:0<len
   .grind
   .obtain⟨h1,h2⟩:=Y rfl
    have h3:=h2 0 bP
    rw[kB bP]at h3
    obtain⟨cs',h4,_⟩:=HY.1 h3
    grind
  have I:∀j c,(flat xs)[j]?=some c->Cell w a.block (a.off+j) c:=by
   intro j c hj
   obtain⟨i,r,x,B,G,rfl⟩:=Gr hj
   have h1:=(P9 (E i x B).2).2.2 r (by rw[M];have:=(j0.1 G).1;rwa [ry]at this)
   rw[G,M]at h1
   obtain⟨b,o,s⟩:=a
   simp only at O
   subst O
   unfold Cell
   rw[<- h1,fm,fm,GR]
  refine⟨a.block,a.off,by obtain⟨b,o,s⟩:=a;grind,λW=>?_,I⟩
  obtain⟨y,ys,rfl⟩:=List.exists_cons_of_ne_nil W
  have u:(flat (y::ys))[0]?=some ((jn y)[0]'(by rw[ry];exact J)):=by
   rw[il,qk (by rw[ry];exact J),kB]
  exact(I 0 _ u).lt
 obtain⟨i,hi⟩:=List.getElem?_of_mem B
 grind
theorem Nc{α σ:Type}[Flat σ][Deep α σ]{φ:α->Prop}:∀(ts:List σ),(∀s∈ts,∃a:α,Deep.dr w s a/\φ a)->∃xs:List α,gQ ts xs w/\∀x∈xs,φ x
 | [],_=>⟨[],gQ.nil,ew⟩
 | t::ts,h=>by
  obtain⟨a,h1,h2⟩:=h t ew
  obtain⟨xs,h3,h4⟩:=Nc ts λs u=>h s (o5 _ u)
  refine⟨a::xs,?_,λx B=>?_⟩
  .grind[gQ]
  grind
theorem RW.slice{α σ:Type}[Flat σ][Deep α σ]{φ:α->Prop}{t e:TypeId}(ht:P.underlying t=some (.slice e))(hc:P.cellsOf t=1)(B:RW P e α φ):RW P t (List α) (λxs=>∀x∈xs,φ x):=
 λw=>⟨hc,λenc base held fuel cs x E=>by
  obtain⟨v,rfl,ts,h1,h2⟩:=Nb ht (B w) E
  obtain⟨xs,h3,h4⟩:=Nc ts h2
  have u:dy (λ_=>True) w v ts:=h1.mono λ_ _=>trivial
  obtain⟨s,rfl⟩:=u.gF
  exact⟨s,rfl,xs,DL.of u h3,h4⟩⟩
theorem open_dst{α σ:Type}[Flat σ][Deep α σ]{φ:α->Prop}{t:TypeId}{G:Array Field}{r:Reach}{O:Nat}{v:Value}{d:DataW H}{ps:List MemPlace}(ht:P.underlying t=some (.struct G))(B:CE σ=true)
  (M:RW P t α φ) (u:O6 P w r O t v) (E:DataW.Trod enc P w base (λ_=>true) held t v d ps):∃(s:σ) (x:α),v=iS s/\Deep.dr w s x/\φ x:=by
 obtain⟨fuel,J⟩:=E
 obtain⟨s,I,x,h1,h2⟩:=(M w).rd enc base held fuel _ _ J
 unfold O6 at u
 rw[ht]at u
 obtain⟨cs,rfl,_⟩:=u
 refine⟨s,x,?_,h1,h2⟩
 rw[U2 B,<- I]
 simp[Value.cells]
end
def xm(x:Int):Int:=IntKind.i64.wrap x
theorem B2{x:Int}(h : -9223372036854775808<=x/\x<=9223372036854775807):xm x=x:=IntWalk.i64_in _ h
section
variable {P:Program}{T:Nat}{cx cy:Bool}{a b:Int}{K:Value->Prop}
theorem uD(k:K (hZ (xm (a+b)))):dX P (gX .add T cx cy (hZ a) (hZ b)) K:=⟨_,rfl,k⟩
theorem DN(k:K (hZ (xm (a-b)))):dX P (gX .sub T cx cy (hZ a) (hZ b)) K:=⟨_,rfl,k⟩
theorem DO(k:K (hZ (xm (a*b)))):dX P (gX .mul T cx cy (hZ a) (hZ b)) K:=⟨_,rfl,k⟩
theorem Nd(k:K (hZ (xm (0-a)))):dX P (Op.unary .neg (hZ a)) K:=⟨_,rfl,k⟩
theorem Nf(h:b≠0)(k:K (hZ (xm (a.tdiv b)))):dX P (gX .quo T cx cy (hZ a) (hZ b)) K:=by
 refine⟨_,?_,k⟩
 show pr P (Op.intDiv .quo .i64 a b)=_
 unfold Op.intDiv
 rw[fg h];rfl
theorem Ng(h:b≠0)(k:K (hZ (a.tmod b))):dX P (gX .rem T cx cy (hZ a) (hZ b)) K:=by
 refine⟨_,?_,k⟩
 show pr P (Op.intDiv .rem .i64 a b)=_
 unfold Op.intDiv
 rw[fg h];rfl
end
def nh{α:Type}[Flat α]{P:Program}{w w0:World}{A:Nat->Prop}{L:List HP}{xs:List α}{T E Y:Nat}{z:Option Nat}{v:Value}{i:Int}{K:Value->Prop}(ht:dV P T=some (E,lx α,Y,z))
  (M:St w0 A (bH v xs::L) w) (V:0<=i) (h1:i<=xs.length) (k:∀J,St w0 A (bH J (xs.take i.toNat)::L) w->K J):dX P (mv T v none (some (hZ i)) none) K:=by
 obtain⟨a,cap,u,xi,_⟩:=M.eS
 refine⟨_,(by rw[u];exact qN ht (km (.inl ⟨rfl,rfl⟩) (.inr ⟨i,rfl,V,rfl⟩) (mj _) bP)),k _ ?_⟩
 refine M.mJ λF B=>?_
 rcases B with⟨G,hx,O⟩|⟨b,W,rest,Z,hb,I,B⟩
 .rw[G]at u
  subst hx
  simp only[ta.injEq]at u
  obtain⟨rfl,_,rfl⟩:=u
  have hi:i.toNat=0:=by simp at h1;omega
  refine⟨F,.inl ⟨?_,ew,O⟩,λb hb=>.inl hb,fD.refl _ _⟩
  rw[hi];rfl
 rw[Z]at u
 simp only[ta.injEq]at u
 obtain⟨rfl,_,rfl⟩:=u
 refine⟨F,.inr ⟨b,W,flat (xs.drop i.toNat)++rest,?_,?_,?_,B⟩,λb hb=>.inl hb,fD.refl _ _⟩
 .have U:(xs.take i.toNat).length=i.toNat:=by rw[mg];omega
  rw[U]
  simp[fm]
 .rw[<- mu,<- fp,ob];exact hb
 exact⟨x9 (by rw[mg];omega) I.1,by rw[<- mu,<- fp,ob];exact I.2⟩
section
variable {P:Program}{w w':World}{v:Value}
theorem DL.flat{α:Type}[Flat α][D:Deep α α]{xs:List α}(h:DL w v xs)(u:∀w s x,D.dr w s x↔s=x:=by intros;exact Iff.rfl):dy (λ_=>True) w v xs:=by
 obtain⟨ts,h1,h2⟩:=h.open
 rw[(AK u).1 h2]at h1;exact h1
theorem DL.gG{α:Type}[Flat α][D:Deep α α]{xs:List α}(h:dy (λ_=>True) w v xs)(u:∀w s x,D.dr w s x↔s=x:=by intros;exact Iff.rfl):DL w v xs:=DL.of h ((AK u).2 rfl)
theorem Nh{α:Type}[Flat α]{S:Nat->Prop}{xs:List α}{T E G:Nat}{z:Option Nat}{lo hi:Option Value}{l h:Nat}{K:Value->Prop}(ht:dV P T=some (E,lx α,G,z))(J:dy S w v xs)
  (B:lo=none/\l=0\/∃i:Int,lo=some (hZ i)/\0<=i/\l=i.toNat) (M:hi=none/\h=xs.length\/∃i:Int,hi=some (hZ i)/\0<=i/\h=i.toNat)
  (h1:l<=h) (h2:h<=xs.length) (k:∀u,(∀w',dy S w' v xs->dy S w' u ((xs.take h).drop l))->K u):dX P (mv T v lo hi none) K:=by
 obtain⟨a,cap,rfl,O,h3⟩:=J
 exact⟨_,qN ht (km B M h1 bP),k _ λw' I=>I.cut rfl h1 h2⟩
theorem vH{α:Type}[Flat α]{S:Nat->Prop}{xs:List α}{T E G:Nat}{z:Option Nat}{i j:Int}{K:Value->Prop}(ht:dV P T=some (E,lx α,G,z))(B:dy S w v xs)
  (I:0<=i) (h1:i<=j) (h2:j<=xs.length) (k:∀u,(∀w',dy S w' v xs->dy S w' u ((xs.take j.toNat).drop i.toNat))->K u):dX P (mv T v (some (hZ i)) (some (hZ j)) none) K:=
 Nh ht B (.inr ⟨i,rfl,I,rfl⟩) (.inr ⟨j,rfl,bP,rfl⟩) bP bP k
theorem DL.cut{α σ:Type}[Flat σ][Deep α σ]{xs:List α}{ts:List σ}{u:Value}{l h:Nat}(G:∀w',dy (λ_=>True) w' v ts->dy (λ_=>True) w' u ((ts.take h).drop l))(E:dy (λ_=>True) w v ts)(B:gQ ts xs w):DL w u ((xs.take h).drop l):=
 DL.of (G w E) ((B.take h).drop l)
theorem yC{a b:ByteArray}:(a.toList == b.toList)=decide (a=b):=by
 rw[ByteArray.toList_eq,ByteArray.toList_eq,Bool.eq_iff_iff,beq_iff_eq,decide_eq_true_eq]
 constructor
 .intro h
  obtain⟨a⟩:=a
  simp_all
 grind
theorem fz{T:Nat}{cx cy:Bool}{a b:ByteArray}{K:Value->Prop}(k:K (.bool (decide (a=b)))):dX P (gX .eql T cx cy (.string a) (.string b)) K:=by
 rw[<- yC]at k
 exact⟨_,rfl,k⟩
theorem vI{T:Nat}{cx cy:Bool}{a b:ByteArray}{K:Value->Prop}(k:K (.bool (decide (¬ a=b)))):dX P (gX .neq T cx cy (.string a) (.string b)) K:=by
 refine⟨_,rfl,?_⟩
 have:(!(a.toList == b.toList))=decide (¬ a=b):=by rw[yC];grind
 grind
end
def fK(s:ByteArray):List UInt8:=s.data.toList
theorem dY(s:ByteArray):(fK s).length=s.size:=by simp_all[fK]
theorem Iz(s:ByteArray)(i:Nat):(fK s)[i]?=if h:i<s.size then some (s[i]'h)else none:=by
 unfold fK
 by_cases h:i<s.size
 .rw[dif_pos h,Array.getElem?_toList]
  exact Array.getElem?_eq_getElem h
 simp_all
section
variable {P:Program}{T R:Nat}{cx cy:Bool}{a b:Int}{K:Value->Prop}
theorem eP{s:ByteArray}(u:P.underlying T=some .string)(k:K (hZ (s.size:Int))):dX P (Builtin.len_ #[T] R [uH s].toArray) K:=by
 refine⟨_,?_,k⟩
 show pr P (do
  match <- underlying T,uH s with
  | .string,.string s=>pure (goInt s.size)
  | .array n _,_=>pure (goInt n)
  | .pointer arr,_=>
   let .array n _ <- underlying arr|stuck "len: pointer to array expected"
   pure (goInt n)
  | .slice _,.slice _ n _=>pure (goInt n)
  | .map _ _,.map none|.chan _ _,.chan none=>pure (goInt 0)
  | .map _ _,.map (some r)=>
   let .map entries _ <- getObj r|stuck "len: map expected"
   pure (goInt entries.size)
  | .chan _ _,.chan (some r)=>
   let .chan _ buf _ _ _ timer <- getObj r|stuck "len: channel expected"
   pure (goInt (if timer then 0 else buf.size))
  | _, _ => stuck "len: string, array, pointer to array, slice, map or channel expected")=_
 rw[bT,bR u];rfl
theorem gR{s:ByteArray}{i:Int}{e:UInt8}(B:P.underlying T=some .string)(E:0<=i)(u:(fK s)[i.toNat]?=some e)(k:K (.int .u8 (e.toNat:Int))):dX P (oJ T (.string s) (hZ i)) K:=by
 refine⟨_,?_,k⟩
 rw[Iz]at u
 have hi:i.toNat<s.size:=by
  grind
 rw[dif_pos hi]at u
 have h3:(if 0<=i then s[i.toNat]? else none)=some e:=cR
 unfold oJ
 simp only[asIntOf,bT,bR B,la,eU,h3]
theorem Gs{s:ByteArray}{i:Int}(u:P.underlying T=some .string)(B:0<=i)(h1:i<=s.size)(k:K (.string (s.extract 0 i.toNat))):dX P (mv T (.string s) none (some (hZ i)) none) K:=by
 refine⟨_,?_,k⟩
 unfold mv
 rw[bT,bR u]
 simp only[la]
 unfold Jr
 rw[bT,bR u]
 simp only[la]
 rw[fg ea]
 have hb:pr P (qa false s.size s.size none (some (hZ i)) none)=some (0,i.toNat,s.size):=by
  simp only[qa,bT,eU,la]
  rw[fR B h1];rfl
 rw[bT,hb];rfl
theorem DP{s:ByteArray}{i j:Int}(u:P.underlying T=some .string)(E:0<=i)(B:i<=j)(h1:j<=s.size)(k:K (.string (s.extract i.toNat j.toNat))):dX P (mv T (.string s) (some (hZ i)) (some (hZ j)) none) K:=by
 refine⟨_,?_,k⟩
 unfold mv
 rw[bT,bR u]
 simp only[la]
 unfold Jr
 rw[bT,bR u]
 simp only[la]
 rw[fg ea]
 have hb:pr P (qa false s.size s.size (some (hZ i)) (some (hZ j)) none)=some (i.toNat,j.toNat,s.size):=by
  simp only[qa,bT,eU,la]
  rw[fR bP h1];simp only[la];rw[fR E bP];rfl
 rw[bT,hb];rfl
theorem uE(k:K (.bool (decide (a<=b)))):dX P (gX .leq T cx cy (.int .u8 a) (.int .u8 b)) K:=⟨_,rfl,k⟩
theorem uF(k:K (.bool (decide (b<=a)))):dX P (gX .geq T cx cy (.int .u8 a) (.int .u8 b)) K:=⟨_,rfl,k⟩
theorem kR(k:K (.bool (decide (a=b)))):dX P (gX .eql T cx cy (.int .u8 a) (.int .u8 b)) K:=⟨_,rfl,k⟩
theorem Ni(k:K (.bool (decide (a≠b)))):dX P (gX .neq T cx cy (.int .u8 a) (.int .u8 b)) K:=
 ⟨_,(show pr P (gX .neq T cx cy (.int .u8 a) (.int .u8 b))=some (.bool (decide (a≠b)))from by
  show some (sq (a != b))=_
  grind),k⟩
theorem Nj{t:Array TypeId}{R:TypeId}{c:Int}(k:K (hZ (max (max a b) c))):dX P (Builtin.max_ t R [hZ a,hZ b,hZ c].toArray) K:=by
 refine⟨_,?_,k⟩
 show pr P (do Builtin.max2 (<- Builtin.max2 (hZ a) (hZ b)) (hZ c))=_
 have h:∀x y:Int,pr P (Builtin.max2 (hZ x) (hZ y))=some (hZ (max x y)):=by
  intro x y
  unfold Builtin.max2
  by_cases h:x<y
  .simp[h,eU];omega
  .simp[h,eU];omega
 rw[bT,h]
 exact h _ _
end
def jW{α σ:Type}[Flat σ][Deep α σ](v:Value)(xs:List α):HP:=oV λts:List σ=>sep (bH v ts) (eH (gQ ts xs))
section
variable {P:Program}{α σ:Type}[Flat σ] [D:Deep α σ] {w w' w0:World}{v src:Value}{A:Nat->Prop}{L:List HP}{xs ys:List α}
theorem St.Nk(u:St w0 A (jW v xs::L) w):∃ts:List σ,St w0 A (bH v ts::Fw.eH (gQ ts xs)::L) w:=by
 obtain⟨ts,h⟩:=u.dS;exact⟨ts,h.split⟩
theorem St.IA{ts:List σ}(u:St w0 A (bH v ts::Fw.eH (gQ ts xs)::L) w):St w0 A (jW v xs::L) w:=
 St.dO (H:=λts:List σ=>sep (bH v ts) (Fw.eH (gQ ts xs))) ts (St.join u)
theorem St.aaS{ts:List σ}(u:St w0 A (bH v ts::Fw.eH (gQ ts xs)::L) w):ts.length=xs.length:=u.p1.eH.1
theorem St.Gt(u:St w0 A L w):St w0 A (jW (.slice none 0 0) ([]:List α)::L) w:=
 St.IA (ts:=[]) ((u.fG λ_=>gQ.nil).eD)
theorem St.agU{s:σ}{x:α}(u:St w0 A (bH v [s]::Fw.eH (λw=>Deep.dr w s x)::L) w):St w0 A (jW v [x]::L) w:=by
 refine St.IA (ts:=[s]) ?_
 refine(u.p1.dH (Ψ:=gQ [s] [x]) λw h=>?_).p1
 exact(gQ.nil (w:=w)).snoc h
theorem St.agV{ts us:List σ}(u:St w0 A (bH v (ts++us)::Fw.eH (gQ ts xs)::Fw.eH (gQ us ys)::L) w):St w0 A (jW v (xs++ys)::L) w:=by
 have h1:=(u.p1:St w0 A (Fw.eH (gQ ts xs)::bH v (ts++us)::Fw.eH (gQ us ys)::L) w)
 have h2:=h1.p2.p1
 refine St.IA (ts:=ts++us) ?_
 exact(h2.gY.dH (Ψ:=gQ (ts++us) (xs++ys)) λw h=>h.1.append h.2).p1
theorem St.se(u:St w0 A (jW v xs::L) w):St w0 A (Fw.eH (λw=>DL w v xs)::L) w:=by
 obtain⟨ts,h⟩:=u.Nk
 exact h.freeze.gY.dH λw h=>DL.of h.1 h.2
theorem St.dl(u:St w0 A (jW v xs::L) w):DL w v xs:=u.se.eH
theorem St.DU(u:St w0 A (jW v xs::L) w):∃s:SV,v=iS s:=u.dl.gF
theorem St.enc{b:Nat}{cs cs':List Value}(u:St w0 A (bM b cs::L) w)(h:cs=cs'):St w0 A (bM b cs'::L) w:=h▸u
theorem kp{T E B:Nat}{s:σ}{x:α}{K:Value->hU}(u:St w0 A (Fw.eH (λw=>Deep.dr w s x)::L) w)(ht:QZ P T E (lx σ) B)(G:lx σ<=64)(k:∀v w',St w0 A (jW v [x]::L) w'->K v w') :
  mw P (Instr.buildSlice T 1 [(0,iS s)].toArray) w K:=
 bK [s] u ht rfl rfl (by simp;omega) λv w' h=>k v w' h.agU
theorem kq{T E B R:Nat}{K:Value->hU}(I:St w0 A (jW v xs::jW src ys::L) w)(ht:QZ P T E (lx σ) B)
  (J:xs.length+ys.length<=1073741824) (G:B<=8192) (k:∀u w',St w0 A (jW u (xs++ys)::L) w'->K u w'):mw P (Builtin.append_ #[T,T] R [v,src].toArray) w K:=by
 obtain⟨us,h1⟩:=I.p1.Nk
 obtain⟨ts,h2⟩:=h1.p2.Nk
 have O:=h1.aaS
 have M:=h2.aaS
 refine cO h2 ht h2.p2.eS bP G λu w' h=>k u w' ?_
 exact h.p2.drop.agV
end
instance:Flat UInt8 where
 agg:=false
 sz:=1
 enc b:=[.int .u8 b.toNat]
 val b:=.int .u8 b.toNat
 pos:=ea
 len _:=rfl
 one a v h:=by rw[rC.1 h];rfl
 lj h:=by cases h
 lD _ _:=rfl
instance:Deep UInt8 UInt8:=fL
def n7{α σ:Type}[Flat σ][Deep α σ](P:Program)(w:World)(f:Value)(φ:α->Prop)(g:α->Bool):Prop:=∃B first cap,f=.func (.func B) (Ix first) (Ix cap)/\Plain P B/\
 ∀(s:σ) (x:α) u,Ext w u->Deep.dr u s x->φ x->Calls P B (first++[iS s]++cap).toArray u (oU λv E=>v=.bool (g x)/\Ext u E)
theorem n7.ext{α σ:Type}[Flat σ][Deep α σ]{P:Program}{w w':World}{f:Value}{φ:α->Prop}{g:α->Bool}(h:n7 P w f φ g)(e:Ext w w'):n7 P w' f φ g:=by
 obtain⟨B,first,cap,h1,h2,h3⟩:=h;exact⟨B,first,cap,h1,h2,λs x u E=>h3 s x u (e.trans E)⟩
def Kw{α:Type}[Flat α]{P:Program}{S:Nat->Prop}{w:World}{T E:TypeId}{cx cy:Bool}{v:Value}{xs:List α}{K:Value->Prop}(h:P.underlying T=some (.slice E))(B:dy S w v xs)(k:∀p:Bool,(p=true->xs=[])->K (.bool p)) :
  dX P (gX .eql T cx cy v (.slice none 0 0)) K:=by
 obtain⟨a,cap,rfl,_,h3⟩:=B
 have u:pr P (Op.equal T (.slice a xs.length cap) (.slice none 0 0))=some a.isNone:=by
  show pr P (Op.equalIn 10000 T (.slice a xs.length cap) (.slice none 0 0))=_
  unfold Op.equalIn
  rw[bT,bR h]
  cases a<;>rfl
 refine⟨_,?_,k a.isNone λG=>?_⟩
 .show pr P (do pure (sq (<- Op.equal T (.slice a xs.length cap) (.slice none 0 0))))=_
  rw[ub,u];rfl
 grind
structure Ptr where
 b:Nat
deriving DecidableEq
instance:Flat Ptr where
 agg:=false
 sz:=1
 enc p:=[.pointer (some ⟨p.b,0,none⟩)]
 val p:=.pointer (some ⟨p.b,0,none⟩)
 pos:=ea
 len _:=rfl
 one a v h:=by rw[rC.1 h];rfl
 lj h:=by cases h
 lD _ _:=rfl
instance:Deep Ptr Ptr:=fL
def gj{α κ:Type}(H:κ->α->HP):List κ->List α->HP
 | [],[]=>emp
 | p::ps,x::xs=>sep (H p x) (gj H ps xs)
 | _,_=>fact False emp
section
variable {P:Program}{α κ:Type}{H:κ->α->HP}{A:Nat->Prop}{w0 w:World}{L:List HP}
theorem vJ:∀{ps:List κ}{xs:List α}{F:Nat->Prop},(gj H ps xs).p w F->ps.length=xs.length
 | [],[],_,_=>rfl
 | s::ss,x::xs,F,h=>by
  obtain⟨u,B,_,h2,_,_⟩:=h
  rw[oh,oh,vJ h2]
 | [],_::_,_,h=>h.1.elim
 | _::_,[],_,h=>h.1.elim
theorem St.jj{ps:List κ}{xs:List α}(u:St w0 A (gj H ps xs::L) w):ps.length=xs.length:=by
 obtain⟨F,h,_⟩:=u.head;exact vJ h
theorem St.DV(u:St w0 A L w):St w0 A (gj H [] []::L) w:=u.new (Ext.refl w) (F:=bF) (λ_ h=>h) λ_ h=>h.elim
def mE(H:κ->α->HP)(ps:List κ)(xs:List α)(i:Nat):HP:=sep (gj H (ps.take i) (xs.take i)) (gj H (ps.drop (i+1)) (xs.drop (i+1)))
theorem wP:∀{ps:List κ}{xs:List α}{i:Nat}{p:κ}{x:α}{F:Nat->Prop},(gj H ps xs).p w F->ps[i]?=some p->xs[i]?=some x->(sep (H p x) (mE H ps xs i)).p w F
 | O::ps,x'::xs,0,p,x,F,h,u,hx=>by
  rw[List.getElem?_cons_zero]at u hx
  obtain rfl:=nM.inj u
  obtain rfl:=nM.inj hx
  obtain⟨B,E,h1,h2,h3,h4⟩:=h
  exact⟨B,E,h1,⟨bF,E,λ_ h=>h,h2,λ_ h=>h.elim,λb=>⟨.inr,λh=>h.elim (λh=>h.elim) id⟩⟩,h3,h4⟩
 | O::ps,x'::xs,i+1,p,x,F,h,u,hx=>by
  rw[H3]at u hx
  obtain⟨B,E,h1,h2,h3,h4⟩:=h
  obtain⟨W,J,V,⟨G,U,k1,Y,k3,I⟩,g3,Z⟩:=wP h2 u hx
  refine⟨W,λb=>B b\/J b,V,⟨λb=>B b\/G b,U,⟨B,G,h1,k1,λb hb M=>h3 b hb ((Z b).2 (.inr ((I b).2 (.inl M)))),λb=>Iff.rfl⟩,Y,?_,?_⟩,?_,?_⟩
  .grind
  .grind
  .grind
  grind
 | [],[],_,_,_,_,_,u,_=>by simp at u
 | [],_::_,_,_,_,_,h,_,_=>h.1.elim
 | _::_,[],_,_,_,_,h,_,_=>h.1.elim
theorem vK:∀{ps:List κ}{xs:List α}{i:Nat}{p:κ}{x:α}{F:Nat->Prop},i<xs.length->ps.length=xs.length->(sep (H p x) (mE H ps xs i)).p w F->(gj H (ps.set i p) (xs.set i x)).p w F
 | V::ps,x'::xs,0,p,x,F,_,_,h=>by
  obtain⟨E,G,h1,⟨K1,u,k1,M,O,I⟩,h3,h4⟩:=h
  refine⟨E,G,h1,?_,h3,h4⟩
  have e:G=u:=funext λb=>propext ((I b).trans ⟨λh=>h.elim (λh=>(k1 b h).elim) id,.inr⟩)
  grind
 | V::ps,x'::xs,i+1,p,x,F,hi,hl,h=>by
  obtain⟨J,G2,g1,⟨K1,u,⟨E,B,W,Y,f3,Z⟩,M,O,I⟩,g3,g4⟩:=h
  refine⟨E,λb=>J b\/(B b\/u b),W,vK cR cR ⟨J,λb=>B b\/u b,g1,⟨B,u,Y,M,λb hb U=>O b ((Z b).2 (.inr hb)) U,λb=>Iff.rfl⟩,?_,λb=>Iff.rfl⟩,?_,?_⟩
  .grind
  .grind
  grind
 | [],_::_,_,_,_,_,_,hl,_=>by simp at hl
 | _,[],_,_,_,_,hi,_,_=>by simp at hi
theorem mL{β:Type}:∀{ps:List β}{i:Nat}{p:β},ps[i]?=some p->ps.set i p=ps
 | [],_,_,h=>by simp at h
 | y::ps,0,p,h=>by grind
 | y::ps,i+1,p,h=>by rw[H3]at h;rw[List.set_cons_succ,mL h]
theorem Gu{ps:List κ}{xs:List α}{i:Nat}{p:κ}{x:α}{F:Nat->Prop}(hi:i<xs.length)(B:ps.length=xs.length)(u:ps[i]?=some p)(h:(sep (H p x) (mE H ps xs i)).p w F):(gj H ps (xs.set i x)).p w F:=by
 have:=vK hi B h;rwa [mL u]at this
theorem AL:∀{ps u:List κ}{xs ys:List α}{F:Nat->Prop},(sep (gj H ps xs) (gj H u ys)).p w F->(gj H (ps++u) (xs++ys)).p w F
 | [],u,[],ys,F,⟨E,B,h1,h2,_,h4⟩=>by
  have:F=B:=funext λb=>propext ((h4 b).trans ⟨λh=>h.elim (λh=>(h1 b h).elim) id,.inr⟩)
  grind
 | p::ps,u,x::xs,ys,F,⟨E,B,⟨G1,G2,g1,g2,g3,g4⟩,h2,h3,h4⟩=>by
  refine⟨G1,λb=>G2 b\/B b,g1,AL ⟨G2,B,g2,h2,λb hb=>h3 b ((g4 b).2 (.inr hb)),λb=>Iff.rfl⟩,λb hb=>?_,λb=>cR⟩
  grind
 | [],_,_::_,_,_,⟨_,_,h,_⟩=>h.1.elim
 | _::_,_,[],_,_,⟨_,_,h,_⟩=>h.1.elim
theorem St.focus{ps:List κ}{xs:List α}{i:Nat}{p:κ}{x:α}(u:St w0 A (gj H ps xs::L) w)(B:ps[i]?=some p)(E:xs[i]?=some x):St w0 A (H p x::mE H ps xs i::L) w:=
 (u.mJ (H':=sep (H p x) (mE H ps xs i)) λF G=>⟨F,wP G B E,λb hb=>.inl hb,fD.refl _ _⟩).split
theorem St.IB{ps:List κ}{xs:List α}{i:Nat}{p:κ}{x:α}(u:St w0 A (H p x::mE H ps xs i::L) w)(hi:i<xs.length)(E:ps.length=xs.length)(B:ps[i]?=some p):St w0 A (gj H ps (xs.set i x)::L) w:=
 (St.join u).mJ λF G=>⟨F,Gu hi E B G,λb hb=>.inl hb,fD.refl _ _⟩
theorem yD:∀{ps:List κ}{xs:List α}{p:κ}{x:α}{B u F:Nat->Prop},(gj H ps xs).p w B->(H p x).p w u->(∀b,B b->¬ u b)->(∀b,F b↔B b\/u b)->(gj H (ps++[p]) (xs++[x])).p w F
 | [],[],p,x,B,u,F,h1,h2,_,h4=>⟨u,B,h2,h1,λb _ E=>h1 b E,λb=>cR⟩
 | s'::ss,x'::xs,p,x,B,u,F,h1,h2,h3,h4=>by
  obtain⟨M,I,G,J,U,O⟩:=h1
  refine⟨M,λb=>I b\/u b,G,yD J h2 (λb hb=>h3 b ((O b).2 (.inr hb))) (λb=>Iff.rfl),λb hb=>?_,λb=>?_⟩
  .grind
  grind
 | [],_::_,_,_,_,_,_,h,_,_,_=>h.1.elim
 | _::_,[],_,_,_,_,_,h,_,_,_=>h.1.elim
theorem St.DW{ps:List κ}{xs:List α}{p:κ}{x:α}(u:St w0 A (gj H ps xs::H p x::L) w):St w0 A (gj H (ps++[p]) (xs++[x])::L) w:=by
 refine(St.join u).mJ λF B=>?_
 obtain⟨E,G,h1,h2,h3,h4⟩:=B
 exact⟨F,yD h1 h2 h3 h4,λb hb=>.inl hb,fD.refl _ _⟩
theorem St.yE{ps:List κ}{xs:List α}{i:Nat}{p:κ}{x:α}(u:St w0 A (H p x::mE H ps xs i::L) w)(hi:i<xs.length)(B:ps.length=xs.length):St w0 A (gj H (ps.set i p) (xs.set i x)::L) w:=
 (St.join u).mJ λF E=>⟨F,vK hi B E,λb hb=>.inl hb,fD.refl _ _⟩
theorem St.Kx{ps:List κ}{xs:List α}{i:Nat}(u:St w0 A (mE H ps xs i::L) w):St w0 A (gj H (ps.eraseIdx i) (xs.eraseIdx i)::L) w:=by
 rw[xd,xd]
 exact u.mJ λF B=>⟨F,AL B,λb hb=>.inl hb,fD.refl _ _⟩
theorem St.aaT{ps:List κ}{xs:List α}{i:Nat}{p:κ}{x:α}{Φ:hU}(u:St w0 A (gj H ps xs::L) w)(B:ps[i]?=some p)(E:xs[i]?=some x)(h:∀{w F},(H p x).p w F->Φ w):Φ w:=by
 obtain⟨F,G,_⟩:=(u.focus B E).head;exact h G
end
end Go.Fw
namespace Go.Proofs.YtdncbeepkacgbaaGreatDoor
open Go.Fw
@[ext] structure bO where
 name:ByteArray
 n:Int
 at_:Int
deriving DecidableEq
instance:Flat bO where
 agg:=true
 sz:=3
 enc e:=[.string e.name,hZ e.n,hZ e.at_]
 val e:=.agg [.string e.name,hZ e.n,hZ e.at_].toArray
 pos:=ea
 len _:=rfl
 one a v h:=by simp at h;rcases h with rfl|rfl|rfl<;>rfl
 lj _ _:=rfl
 lD h:=by cases h
instance:Deep bO bO:=fL
@[ext] structure bI where
 op:Int
 n:Int
 name:ByteArray
 at_:Int
deriving DecidableEq
instance:Flat bI where
 agg:=true
 sz:=4
 enc e:=[hZ e.op,hZ e.n,.string e.name,hZ e.at_]
 val e:=.agg [hZ e.op,hZ e.n,.string e.name,hZ e.at_].toArray
 pos:=ea
 len _:=rfl
 one a v h:=by simp at h;rcases h with rfl|rfl|rfl|rfl<;>rfl
 lj _ _:=rfl
 lD h:=by cases h
instance:Deep bI bI:=fL
structure aZ where
 kind:Int
 eO:ByteArray
 name:ByteArray
 e:(List bI)
 f:(List bI)
 n:Int
 body:Int
 eG:Int
 at_:Int
deriving DecidableEq
structure aT where
 kind:Int
 eO:ByteArray
 name:ByteArray
 e:SV
 f:SV
 n:Int
 body:Int
 eG:Int
 at_:Int
instance:Flat aT where
 agg:=true
 sz:=9
 enc e:=[hZ e.kind,.string e.eO,.string e.name,.slice e.e.a e.e.n e.e.cap,.slice e.f.a e.f.n e.f.cap,hZ e.n,hZ e.body,hZ e.eG,hZ e.at_]
 val e:=.agg [hZ e.kind,.string e.eO,.string e.name,.slice e.e.a e.e.n e.e.cap,.slice e.f.a e.f.n e.f.cap,hZ e.n,hZ e.body,hZ e.eG,hZ e.at_].toArray
 pos:=ea
 len _:=rfl
 one a v h:=by simp at h;rcases h with rfl|rfl|rfl|rfl|rfl|rfl|rfl|rfl|rfl<;>rfl
 lj _ _:=rfl
 lD h:=by cases h
instance:Deep aZ aT where
 dr w s x:=∃(B:SV) (u:SV),s=(⟨x.kind,x.eO,x.name,B,u,x.n,x.body,x.eG,x.at_⟩:aT)/\DL w (iS B) x.e/\DL w (iS u) x.f
 ext h e:=by
  obtain⟨G,E,rfl,I,h1⟩:=h
  exact⟨G,E,rfl,I.ext e,h1.ext e⟩
structure bW where
 name:ByteArray
 dJ:(List ByteArray)
 body:(List aZ)
 at_:Int
deriving DecidableEq
structure bU where
 name:ByteArray
 dJ:SV
 body:SV
 at_:Int
instance:Flat bU where
 agg:=true
 sz:=4
 enc e:=[.string e.name,.slice e.dJ.a e.dJ.n e.dJ.cap,.slice e.body.a e.body.n e.body.cap,hZ e.at_]
 val e:=.agg [.string e.name,.slice e.dJ.a e.dJ.n e.dJ.cap,.slice e.body.a e.body.n e.body.cap,hZ e.at_].toArray
 pos:=ea
 len _:=rfl
 one a v h:=by simp at h;rcases h with rfl|rfl|rfl|rfl<;>rfl
 lj _ _:=rfl
 lD h:=by cases h
instance:Deep bW bU where
 dr w s x:=∃(B:SV) (u:SV),s=(⟨x.name,B,u,x.at_⟩:bU)/\DL w (iS B) x.dJ/\DL w (iS u) x.body
 ext h e:=by
  obtain⟨G,E,rfl,I,h1⟩:=h
  exact⟨G,E,rfl,I.ext e,h1.ext e⟩
structure gH where
 e:(List bI)
 at_:Int
deriving DecidableEq
structure ig where
 e:SV
 at_:Int
instance:Flat ig where
 agg:=true
 sz:=2
 enc e:=[.slice e.e.a e.e.n e.e.cap,hZ e.at_]
 val e:=.agg [.slice e.e.a e.e.n e.e.cap,hZ e.at_].toArray
 pos:=ea
 len _:=rfl
 one a v h:=by simp at h;rcases h with rfl|rfl<;>rfl
 lj _ _:=rfl
 lD h:=by cases h
instance:Deep gH ig where
 dr w s x:=∃(u:SV),s=(⟨u,x.at_⟩:ig)/\DL w (iS u) x.e
 ext h e:=by
  obtain⟨B,rfl,E⟩:=h
  exact⟨B,rfl,E.ext e⟩
structure bQ where
 lines:(List (List bO))
 iJ:(List bO)
 eV:(List bO)
 threads:(List bW)
 recover:(List bW)
 ef:(List gH)
deriving DecidableEq
structure bZ where
 lines:SV
 iJ:SV
 eV:SV
 threads:SV
 recover:SV
 ef:SV
instance:Flat bZ where
 agg:=true
 sz:=6
 enc e:=[.slice e.lines.a e.lines.n e.lines.cap,.slice e.iJ.a e.iJ.n e.iJ.cap,.slice e.eV.a e.eV.n e.eV.cap,.slice e.threads.a e.threads.n e.threads.cap,.slice e.recover.a e.recover.n e.recover.cap,.slice e.ef.a e.ef.n e.ef.cap]
 val e:=.agg [.slice e.lines.a e.lines.n e.lines.cap,.slice e.iJ.a e.iJ.n e.iJ.cap,.slice e.eV.a e.eV.n e.eV.cap,.slice e.threads.a e.threads.n e.threads.cap,.slice e.recover.a e.recover.n e.recover.cap,.slice e.ef.a e.ef.n e.ef.cap].toArray
 pos:=ea
 len _:=rfl
 one a v h:=by simp at h;rcases h with rfl|rfl|rfl|rfl|rfl|rfl<;>rfl
 lj _ _:=rfl
 lD h:=by cases h
instance:Deep bQ bZ where
 dr w s x:=∃(G:SV) (B:SV) (E:SV) (I:SV) (u:SV) (J:SV),s=(⟨G,B,E,I,u,J⟩:bZ)/\DL w (iS G) x.lines/\DL w (iS B) x.iJ/\DL w (iS E) x.eV/\DL w (iS I) x.threads/\DL w (iS u) x.recover/\DL w (iS J) x.ef
 ext h e:=by
  obtain⟨U,M,V,W,O,Y,rfl,Z,h1,h2,h3,h4,h5⟩:=h
  exact⟨U,M,V,W,O,Y,rfl,Z.ext e,h1.ext e,h2.ext e,h3.ext e,h4.ext e,h5.ext e⟩
@[ext] structure mM where
 kind:Int
 n:Int
deriving DecidableEq
instance:Flat mM where
 agg:=true
 sz:=2
 enc e:=[hZ e.kind,hZ e.n]
 val e:=.agg [hZ e.kind,hZ e.n].toArray
 pos:=ea
 len _:=rfl
 one a v h:=by simp at h;rcases h with rfl|rfl<;>rfl
 lj _ _:=rfl
 lD h:=by cases h
instance:Deep mM mM:=fL
structure yF where
 kind:Int
 a:Int
 b:Int
 e:(List mM)
 f:(List mM)
 to:Int
deriving DecidableEq
structure aaU where
 dJ:Int
 counts:Int
 l:(List yF)
deriving DecidableEq
structure bG where
 kind:Int
 t:Int
 i:Int
 cut:(List Int)
deriving DecidableEq
structure aU where
 kind:Int
 t:Int
 i:Int
 cut:SV
instance:Flat aU where
 agg:=true
 sz:=4
 enc e:=[hZ e.kind,hZ e.t,hZ e.i,.slice e.cut.a e.cut.n e.cut.cap]
 val e:=.agg [hZ e.kind,hZ e.t,hZ e.i,.slice e.cut.a e.cut.n e.cut.cap].toArray
 pos:=ea
 len _:=rfl
 one a v h:=by simp at h;rcases h with rfl|rfl|rfl|rfl<;>rfl
 lj _ _:=rfl
 lD h:=by cases h
instance:Deep bG aU where
 dr w s x:=∃(u:SV),s=(⟨x.kind,x.t,x.i,u⟩:aU)/\DL w (iS u) x.cut
 ext h e:=by
  obtain⟨B,rfl,E⟩:=h
  exact⟨B,rfl,E.ext e⟩
def RX(x:bG):Prop:=sP x.kind/\sP x.t/\sP x.i/\(∀y∈x.cut,sP y)
@[ext] structure cQ where
 kind:Int
 t:Int
 a:Int
 n:Int
 m:Int
deriving DecidableEq
instance:Flat cQ where
 agg:=true
 sz:=5
 enc e:=[hZ e.kind,hZ e.t,hZ e.a,hZ e.n,hZ e.m]
 val e:=.agg [hZ e.kind,hZ e.t,hZ e.a,hZ e.n,hZ e.m].toArray
 pos:=ea
 len _:=rfl
 one a v h:=by simp at h;rcases h with rfl|rfl|rfl|rfl|rfl<;>rfl
 lj _ _:=rfl
 lD h:=by cases h
instance:Deep cQ cQ:=fL
@[ext] structure jx where
 cL:Int
 fault:Int
 t:Int
 done:Bool
 stuck:Bool
deriving DecidableEq
instance:Flat jx where
 agg:=true
 sz:=5
 enc e:=[hZ e.cL,hZ e.fault,hZ e.t,.bool e.done,.bool e.stuck]
 val e:=.agg [hZ e.cL,hZ e.fault,hZ e.t,.bool e.done,.bool e.stuck].toArray
 pos:=ea
 len _:=rfl
 one a v h:=by simp at h;rcases h with rfl|rfl|rfl|rfl|rfl<;>rfl
 lj _ _:=rfl
 lD h:=by cases h
instance:Deep jx jx:=fL
@[ext] structure bE where
 kind:Int
 line:Int
 cell:Int
 n:Int
deriving DecidableEq
instance:Flat bE where
 agg:=true
 sz:=4
 enc e:=[hZ e.kind,hZ e.line,hZ e.cell,hZ e.n]
 val e:=.agg [hZ e.kind,hZ e.line,hZ e.cell,hZ e.n].toArray
 pos:=ea
 len _:=rfl
 one a v h:=by simp at h;rcases h with rfl|rfl|rfl|rfl<;>rfl
 lj _ _:=rfl
 lD h:=by cases h
instance:Deep bE bE:=fL
@[ext] structure aW where
 kind:Int
 text:ByteArray
 n:Int
 at_:Int
deriving DecidableEq
instance:Flat aW where
 agg:=true
 sz:=4
 enc e:=[hZ e.kind,.string e.text,hZ e.n,hZ e.at_]
 val e:=.agg [hZ e.kind,.string e.text,hZ e.n,hZ e.at_].toArray
 pos:=ea
 len _:=rfl
 one a v h:=by simp at h;rcases h with rfl|rfl|rfl|rfl<;>rfl
 lj _ _:=rfl
 lD h:=by cases h
instance:Deep aW aW:=fL
@[ext] structure jk where
 cell:Int
 n:Int
deriving DecidableEq
instance:Flat jk where
 agg:=true
 sz:=2
 enc e:=[hZ e.cell,hZ e.n]
 val e:=.agg [hZ e.cell,hZ e.n].toArray
 pos:=ea
 len _:=rfl
 one a v h:=by simp at h;rcases h with rfl|rfl<;>rfl
 lj _ _:=rfl
 lD h:=by cases h
instance:Deep jk jk:=fL
def DZ(p:Bool):Int:=if p then 1 else 0
def UK(a b:Int):Int:=xm (a.tdiv b)
def vL(op a:Int):Int:=if op=3 then xm (0-a)else if op=4 then DZ (decide (a=0))else 0
def D0(op:Int):Int:=if op=3\/op=4 then 0 else 1
def oG(op a b:Int):Int:=
 if op=5 then xm (a+b)else if op=6 then xm (a-b)else if op=7 then xm (a*b)else if op=8 then UK a b else if op=9 then a.tmod b
 else if op=10 then DZ (decide (a=b))else if op=11 then DZ (decide (¬ a=b))else if op=12 then DZ (decide (a<b))else if op=13 then DZ (decide (a<=b))
 else if op=14 then DZ (decide (¬ a=0)&&decide (¬ b=0))else if op=15 then DZ (decide (¬ a=0)||decide (¬ b=0))else 0
def l6(op b:Int):Int:=if op<5\/15<op then 1 else if (op=8\/op=9)/\b=0 then 12 else 0
def l7(op a b:Int):Int:=if l6 op b=0 then oG op a b else 0
def C380(p:Bool)(w:World):CR 380 [.bool p] w (λv w'=>v=hZ (DZ p)/\Ext w w'):=by
 have B:=St.start w;refine eR Tryz.func380 ?_;refine bD (λu=>?_) (λu=>?_)
 .rw[u];exact⟨rfl,B.aF⟩
 rw[u];exact⟨rfl,B.aF⟩
def C255(p:Bool)(w:World):CR 255 [.bool p] w (λv w'=>v=hZ (DZ p)/\Ext w w'):=by
 have B:=St.start w;refine eR Tryz.func255 ?_;refine bD (λu=>?_) (λu=>?_)
 .rw[u];exact⟨rfl,B.aF⟩
 rw[u];exact⟨rfl,B.aF⟩
def C256(a:Int)(w:World):CR 256 [hZ a] w (λv w'=>v=.bool (decide (¬ a=0))/\Ext w w'):=by
 have u:=St.start w;refine eR Tryz.func256 ?_;refine cB ?_;exact⟨rfl,u.aF⟩
def C375(op a:Int)(w:World):CR 375 [hZ op,hZ a] w (λv w'=>v=.tuple #[hZ (vL op a),hZ (D0 op)]/\Ext w w'):=by
 have B:=St.start w;refine RC _ _ _ _ ?_;unfold S375;refine aG (aC (λu=>?_) λu=>aG (aC (λE=>?_) λE=>?_))
 .refine DN ?_;unfold vL D0
  first|(rw[fh u,fh (.inl u)];exact⟨rfl,B.aF⟩)|(rw[fg u,fh E,fh (.inr E)];exact⟨rfl,B.aF⟩)|(rw[fg u,fg E,fg bP];exact⟨rfl,B.aF⟩)
 .refine aG (aR aaH B (C380 _ _) λ_ G B=>?_);unfold vL D0
  first|(rw[fh u,fh (.inl u)];exact⟨rfl,B.aF⟩)|(rw[fg u,fh E,fh (.inr E)];exact⟨rfl,B.aF⟩)|(rw[fg u,fg E,fg bP];exact⟨rfl,B.aF⟩)
 unfold vL D0
 first|(rw[fh u,fh (.inl u)];exact⟨rfl,B.aF⟩)|(rw[fg u,fh E,fh (.inr E)];exact⟨rfl,B.aF⟩)|(rw[fg u,fg E,fg bP];exact⟨rfl,B.aF⟩)
def C151(op a:Int)(w:World):CR 151 [hZ op,hZ a] w (λv w'=>v=.tuple #[hZ (vL op a),hZ (D0 op)]/\Ext w w'):=by
 have u:=St.start w;refine eR Tryz.func151 ?_;refine aG (aC (λB=>?_) λB=>aG (aC (λE=>?_) λE=>?_))
 .refine Nd ?_;unfold vL D0
  first|(rw[fh B,fh (.inl B)];exact⟨rfl,u.aF⟩)|(rw[fg B,fh E,fh (.inr E)];exact⟨gl (λp=>Nv #[hZ (DZ p),hZ 0]) ew,u.aF⟩)|(rw[fg B,fg E,fg bP];exact⟨rfl,u.aF⟩)
 .refine aR Dm u (C256 _ _) (λ_ G u=>?_)
  first|refine Dq ?_|refine bJ ?_
  refine aR MD u (C255 _ _) (λ_ G u=>?_);unfold vL D0
  first|(rw[fh B,fh (.inl B)];exact⟨rfl,u.aF⟩)|(rw[fg B,fh E,fh (.inr E)];exact⟨gl (λp=>Nv #[hZ (DZ p),hZ 0]) ew,u.aF⟩)|(rw[fg B,fg E,fg bP];exact⟨rfl,u.aF⟩)
 unfold vL D0
 first|(rw[fh B,fh (.inl B)];exact⟨rfl,u.aF⟩)|(rw[fg B,fh E,fh (.inr E)];exact⟨gl (λp=>Nv #[hZ (DZ p),hZ 0]) ew,u.aF⟩)|(rw[fg B,fg E,fg bP];exact⟨rfl,u.aF⟩)
def ni:aaR hM 348 16 165:=⟨by kernel_rfl,by kernel_rfl⟩
def aaW(b1 b2 b3 b4 u b6:Nat)(w:World):Prop:=
 Cell w b1 0 (.func (.func 318) #[] #[])/\Cell w b2 0 (.func (.func 319) #[] #[])/\Cell w b3 0 (.func (.func 320) #[] #[])/\Cell w b4 0 (.func (.func 321) #[] #[])/\Cell w u 0 (.func (.func 322) #[] #[])/\Cell w b6 0 (.func (.func 323) #[] #[])
def opsV(b1 b2 b3 b4 u b6:Nat):Value:=
 .agg [.nilFunc,.nilFunc,.nilFunc,.nilFunc,.nilFunc,.func (.func 313) #[] #[],.func (.func 314) #[] #[],.func (.func 315) #[] #[],.func (.func 316) #[] #[],.func (.func 317) #[] #[],
  .func (.func 312) #[] #[.pointer (some ⟨b1,0,none⟩)],.func (.func 312) #[] #[.pointer (some ⟨b2,0,none⟩)],.func (.func 312) #[] #[.pointer (some ⟨b3,0,none⟩)],.func (.func 312) #[] #[.pointer (some ⟨b4,0,none⟩)],
  .func (.func 312) #[] #[.pointer (some ⟨u,0,none⟩)],.func (.func 312) #[] #[.pointer (some ⟨b6,0,none⟩)]].toArray
def Wd(f:Value)(g:Int->Int->Bool):Prop:=∃u,f=.func (.func u) #[] #[]/\Plain hM u/\
 ∀a b B,Calls hM u [hZ a,hZ b].toArray B (oU λv E=>v=.bool (g a b)/\Ext B E)
def C313(a b:Int)(w:World):CR 313 [hZ a,hZ b] w (λv w'=>v=hZ (xm (a+b))/\Ext w w'):=by
 have u:=St.start w;refine eR Tryz.func313 ?_;exact uD ⟨rfl,u.aF⟩
def C314(a b:Int)(w:World):CR 314 [hZ a,hZ b] w (λv w'=>v=hZ (xm (a-b))/\Ext w w'):=by
 have u:=St.start w;refine eR Tryz.func314 ?_;exact DN ⟨rfl,u.aF⟩
def C315(a b:Int)(w:World):CR 315 [hZ a,hZ b] w (λv w'=>v=hZ (xm (a*b))/\Ext w w'):=by
 have u:=St.start w;refine eR Tryz.func315 ?_;exact DO ⟨rfl,u.aF⟩
def C316(a b:Int)(w:World)(h:b≠0):CR 316 [hZ a,hZ b] w (λv w'=>v=hZ (UK a b)/\Ext w w'):=by
 have u:=St.start w;refine eR Tryz.func316 ?_;exact Nf h ⟨rfl,u.aF⟩
def C317(a b:Int)(w:World)(h:b≠0):CR 317 [hZ a,hZ b] w (λv w'=>v=hZ (a.tmod b)/\Ext w w'):=by
 have u:=St.start w;refine eR Tryz.func317 ?_;exact Ng h ⟨rfl,u.aF⟩
def C318(a b:Int)(w:World):CR 318 [hZ a,hZ b] w (λv w'=>v=.bool (decide (a=b))/\Ext w w'):=by
 have u:=St.start w;refine eR Tryz.func318 ?_;exact aG ⟨rfl,u.aF⟩
def C319(a b:Int)(w:World):CR 319 [hZ a,hZ b] w (λv w'=>v=.bool (decide (¬ a=b))/\Ext w w'):=by
 have u:=St.start w;refine eR Tryz.func319 ?_;exact cB ⟨rfl,u.aF⟩
def C320(a b:Int)(w:World):CR 320 [hZ a,hZ b] w (λv w'=>v=.bool (decide (a<b))/\Ext w w'):=by
 have u:=St.start w;refine eR Tryz.func320 ?_;exact aQ ⟨rfl,u.aF⟩
def C321(a b:Int)(w:World):CR 321 [hZ a,hZ b] w (λv w'=>v=.bool (decide (a<=b))/\Ext w w'):=by
 have u:=St.start w;refine eR Tryz.func321 ?_;exact gL ⟨rfl,u.aF⟩
def C322(a b:Int)(w:World):CR 322 [hZ a,hZ b] w (λv w'=>v=.bool (decide (¬ a=0)&&decide (¬ b=0))/\Ext w w'):=by
 have u:=St.start w;refine eR Tryz.func322 ?_;refine⟨_,?_,λ_ _ h=>h⟩;refine aR Dm u (C256 _ _) (λ_ G u=>aC (λB=>?_) λB=>?_)
 .refine aR Dm u (C256 _ _) (λ_ G u=>?_);intro E
  first|(rw[fY B];exact⟨rfl,u.aF⟩)|(rw[fZ B];exact⟨rfl,u.aF⟩)
 intro E
 first|(rw[fY B];exact⟨rfl,u.aF⟩)|(rw[fZ B];exact⟨rfl,u.aF⟩)
def C323(a b:Int)(w:World):CR 323 [hZ a,hZ b] w (λv w'=>v=.bool (decide (¬ a=0)||decide (¬ b=0))/\Ext w w'):=by
 have u:=St.start w;refine eR Tryz.func323 ?_;refine⟨_,?_,λ_ _ h=>h⟩;refine aR Dm u (C256 _ _) (λ_ G u=>aC (λB=>?_) λB=>?_)
 .intro E
  first|(rw[fY B];exact⟨rfl,u.aF⟩)|(rw[fZ B];exact⟨rfl,u.aF⟩)
 refine aR Dm u (C256 _ _) (λ_ G u=>?_);intro E
 first|(rw[fY B];exact⟨rfl,u.aF⟩)|(rw[fZ B];exact⟨rfl,u.aF⟩)
def C311(g:Nat)(w:World):CR 311 [.func (.func g) #[] #[]] w (λv w'=>∃b,v=.func (.func 312) #[] #[.pointer (some ⟨b,0,none⟩)]/\mD (bM b [.func (.func g) #[] #[]]) w w'):=by
 have B:=St.start w;refine eR Tryz.func311 ?_;exact jP B rfl (λu _ B=>⟨u,rfl,B.fresh⟩)
def C312(a b:Int)(b2:Nat)(fv:Value)(g:Int->Int->Bool)(w:World)(hc:Cell w b2 0 fv)(E:Wd fv g):CR 312 [hZ a,hZ b,.pointer (some ⟨b2,0,none⟩)] w (λv w'=>v=hZ (DZ (g a b))/\Ext w w'):=by
 obtain⟨J,rfl,G,B⟩:=E;have u:=St.start w;refine eR Tryz.func312 ?_;refine cD aaO (hc.ext u.aF) (fj (first:=[]) (cap:=[]) G (B a b _) ?_);rintro _ _ ⟨rfl,I⟩;have u:=u.ext I;exact aR MD u (C255 _ _) (λ_ _ u=>⟨rfl,u.aF⟩)
def C257(w:World):CR 257 [] w (λv w'=>∃b1 b2 b3 b4 U b6,v=opsV b1 b2 b3 b4 U b6/\mD (eH (aaW b1 b2 b3 b4 U b6)) w w'):=by
 have u:=St.start w;refine Rt _ _ ?_;unfold S257;refine aK u Iu (λG _ u=>aK u Iu λJ _ u=>kQ ni bP bP (aO u qS (dQ rfl) (rfl) λ_ u=>kQ ni bP bP (aO u qS (dQ rfl) (rfl) λ_ u=>kQ ni bP bP (aO u qS (dQ rfl) (rfl) λ_ u=>kQ ni bP bP (aO u qS (dQ rfl) (rfl) λ_ u=>kQ ni bP bP (aO u qS (dQ rfl) (rfl) λ_ u=>fj (first:=[]) (cap:=[]) Ax (C311 318 _) ?_))))));rintro _ _ ⟨I,rfl,B⟩;have u:=u.made B;refine kQ ni bP bP (aO u.p1 qS (dQ rfl) (rfl) λ_ u=>fj (first:=[]) (cap:=[]) Ax (C311 319 _) ?_)
 rintro _ _ ⟨W,rfl,B⟩;have u:=u.made B;refine kQ ni bP bP (aO u.p1 qS (dQ rfl) (rfl) λ_ u=>fj (first:=[]) (cap:=[]) Ax (C311 320 _) ?_);rintro _ _ ⟨E,rfl,B⟩;have u:=u.made B;refine kQ ni bP bP (aO u.p1 qS (dQ rfl) (rfl) λ_ u=>fj (first:=[]) (cap:=[]) Ax (C311 321 _) ?_);rintro _ _ ⟨M,rfl,B⟩;have u:=u.made B;refine kQ ni bP bP (aO u.p1 qS (dQ rfl) (rfl) λ_ u=>fj (first:=[]) (cap:=[]) Ax (C311 322 _) ?_);rintro _ _ ⟨V,rfl,B⟩;have u:=u.made B;refine kQ ni bP bP (aO u.p1 qS (dQ rfl) (rfl) λ_ u=>fj (first:=[]) (cap:=[]) Ax (C311 323 _) ?_)
 rintro _ _ ⟨O,rfl,B⟩;have u:=u.made B;refine kQ ni bP bP (aO u.p1 qS (dQ rfl) (rfl) λ_ u=>Dr MU u.hb rfl (yk u.p7 MU rfl ea (by simp[qD,fO]) λ_ u=>Dr MU u.hb rfl ?_));have u:=u.drop.drop.p1.p2.p3.p4.p5.mT.p1.mT.p2.mT.p3;have u:=u.mT.p4.mT.p5.mT.gY.gY.gY.gY.gY;refine⟨I,W,E,M,V,O,rfl,(u.dH (Ψ:=aaW I W E M V O) λw h=>?_).fresh⟩;obtain⟨⟨⟨⟨⟨h6,h5⟩,h4⟩,h3⟩,h2⟩,h1⟩:=h;exact⟨h1.cell rfl,h2.cell rfl,h3.cell rfl,h4.cell rfl,h5.cell rfl,h6.cell rfl⟩
def fb1:Wd (.func (.func 318) #[] #[]) (λa b=>decide (a=b)):=⟨318,rfl,aav,λa b u=>C318 a b u⟩
def fb2:Wd (.func (.func 319) #[] #[]) (λa b=>decide (¬ a=b)):=⟨319,rfl,aaw,λa b u=>C319 a b u⟩
def fb3:Wd (.func (.func 320) #[] #[]) (λa b=>decide (a<b)):=⟨320,rfl,aax,λa b u=>C320 a b u⟩
def fb4:Wd (.func (.func 321) #[] #[]) (λa b=>decide (a<=b)):=⟨321,rfl,aay,λa b u=>C321 a b u⟩
def fb5:Wd (.func (.func 322) #[] #[]) (λa b=>decide (¬ a=0)&&decide (¬ b=0)):=⟨322,rfl,aaz,λa b u=>C322 a b u⟩
def fb6:Wd (.func (.func 323) #[] #[]) (λa b=>decide (¬ a=0)||decide (¬ b=0)):=⟨323,rfl,aaA,λa b u=>C323 a b u⟩
def C153(op a b:Int)(w:World):CR 153 [hZ op,hZ a,hZ b] w (λv w'=>v=.tuple #[hZ (l7 op a b),hZ (l6 op b)]/\Ext w w'):=by
 have u:=St.start w;refine Rr _ _ _ _ _ ?_;unfold S153;refine⟨_,?_,λ_ _ h=>h⟩;refine aQ (aC (λgD=>?_) λgD=>?_)
 .intro Z;refine gE ?_
  first|exact⟨rfl,u.aF⟩|(subst_vars;exact⟨rfl,u.aF⟩)|(refine⟨?_,u.aF⟩;unfold l7 l6 oG;first|(rw[fh (show op<5\/15<op by omega)];rfl)|simp[*])
 refine cJ ?_;intro Z;refine aC (λpe=>?_) (λpe=>?_)
 .first|exact⟨rfl,u.aF⟩|(subst_vars;exact⟨rfl,u.aF⟩)|(refine⟨?_,u.aF⟩;unfold l7 l6 oG;first|(rw[fh (show op<5\/15<op by omega)];rfl)|simp[*])
 refine dW aaf (C257 _) ?_;rintro _ _ ⟨b1,b2,b3,b4,Y,b6,rfl,dw⟩;have u:=u.made dw;obtain rfl|rfl|rfl|rfl|rfl|rfl|rfl|rfl|rfl|rfl|rfl|rfl|rfl|rfl|rfl|rfl:op=0\/op=1\/op=2\/op=3\/op=4\/op=5\/op=6\/op=7\/op=8\/op=9\/op=10\/op=11\/op=12\/op=13\/op=14\/op=15:=bP
 .refine pop (v:=.nilFunc) (by kernel_rfl) (pop (v:=.bool true) (by kernel_rfl) (gE ?_))
  first|exact⟨rfl,u.aF⟩|(subst_vars;exact⟨rfl,u.aF⟩)|(refine⟨?_,u.aF⟩;unfold l7 l6 oG;first|(rw[fh (show op<5\/15<op by omega)];rfl)|simp[*])
 .refine pop (v:=.nilFunc) (by kernel_rfl) (pop (v:=.bool true) (by kernel_rfl) (gE ?_))
  first|exact⟨rfl,u.aF⟩|(subst_vars;exact⟨rfl,u.aF⟩)|(refine⟨?_,u.aF⟩;unfold l7 l6 oG;first|(rw[fh (show op<5\/15<op by omega)];rfl)|simp[*])
 .refine pop (v:=.nilFunc) (by kernel_rfl) (pop (v:=.bool true) (by kernel_rfl) (gE ?_))
  first|exact⟨rfl,u.aF⟩|(subst_vars;exact⟨rfl,u.aF⟩)|(refine⟨?_,u.aF⟩;unfold l7 l6 oG;first|(rw[fh (show op<5\/15<op by omega)];rfl)|simp[*])
 .refine pop (v:=.nilFunc) (by kernel_rfl) (pop (v:=.bool true) (by kernel_rfl) (gE ?_))
  first|exact⟨rfl,u.aF⟩|(subst_vars;exact⟨rfl,u.aF⟩)|(refine⟨?_,u.aF⟩;unfold l7 l6 oG;first|(rw[fh (show op<5\/15<op by omega)];rfl)|simp[*])
 .refine pop (v:=.nilFunc) (by kernel_rfl) (pop (v:=.bool true) (by kernel_rfl) (gE ?_))
  first|exact⟨rfl,u.aF⟩|(subst_vars;exact⟨rfl,u.aF⟩)|(refine⟨?_,u.aF⟩;unfold l7 l6 oG;first|(rw[fh (show op<5\/15<op by omega)];rfl)|simp[*])
 .refine pop (v:=.func (.func 313) #[] #[]) (by kernel_rfl) (pop (v:=.bool false) (by kernel_rfl) (ep ?_));refine⟨_,?_,λ_ _ h=>h⟩;refine aG (fE ea (aG (fE ea ?_)));intro G;refine ep (fj (first:=[]) (cap:=[]) aaq (C313 a b _) ?_);rintro _ E ⟨rfl,B⟩;have u:=u.ext B
  first|exact⟨rfl,u.aF⟩|(subst_vars;exact⟨rfl,u.aF⟩)|(refine⟨?_,u.aF⟩;unfold l7 l6 oG;first|(rw[fh (show op<5\/15<op by omega)];rfl)|simp[*])
 .refine pop (v:=.func (.func 314) #[] #[]) (by kernel_rfl) (pop (v:=.bool false) (by kernel_rfl) (ep ?_));refine⟨_,?_,λ_ _ h=>h⟩;refine aG (fE ea (aG (fE ea ?_)));intro G;refine ep (fj (first:=[]) (cap:=[]) aar (C314 a b _) ?_);rintro _ E ⟨rfl,B⟩;have u:=u.ext B
  first|exact⟨rfl,u.aF⟩|(subst_vars;exact⟨rfl,u.aF⟩)|(refine⟨?_,u.aF⟩;unfold l7 l6 oG;first|(rw[fh (show op<5\/15<op by omega)];rfl)|simp[*])
 .refine pop (v:=.func (.func 315) #[] #[]) (by kernel_rfl) (pop (v:=.bool false) (by kernel_rfl) (ep ?_));refine⟨_,?_,λ_ _ h=>h⟩;refine aG (fE ea (aG (fE ea ?_)));intro G;refine ep (fj (first:=[]) (cap:=[]) aas (C315 a b _) ?_);rintro _ E ⟨rfl,B⟩;have u:=u.ext B
  first|exact⟨rfl,u.aF⟩|(subst_vars;exact⟨rfl,u.aF⟩)|(refine⟨?_,u.aF⟩;unfold l7 l6 oG;first|(rw[fh (show op<5\/15<op by omega)];rfl)|simp[*])
 .refine pop (v:=.func (.func 316) #[] #[]) (by kernel_rfl) (pop (v:=.bool false) (by kernel_rfl) (ep ?_));refine⟨_,?_,λ_ _ h=>h⟩;refine aG (iI ea (aG ?_));intro G;refine aC (λW=>?_) (λW=>?_)
  .first|exact⟨rfl,u.aF⟩|(subst_vars;exact⟨rfl,u.aF⟩)|(refine⟨?_,u.aF⟩;unfold l7 l6 oG;first|(rw[fh (show op<5\/15<op by omega)];rfl)|simp[*])
  refine fj (first:=[]) (cap:=[]) aat (C316 a b _ W) ?_;rintro _ E ⟨rfl,B⟩;have u:=u.ext B
  first|exact⟨rfl,u.aF⟩|(subst_vars;exact⟨rfl,u.aF⟩)|(refine⟨?_,u.aF⟩;unfold l7 l6 oG;first|(rw[fh (show op<5\/15<op by omega)];rfl)|simp[*])
 .refine pop (v:=.func (.func 317) #[] #[]) (by kernel_rfl) (pop (v:=.bool false) (by kernel_rfl) (ep ?_));refine⟨_,?_,λ_ _ h=>h⟩;refine aG (fE ea (aG (iI ea (aG ?_))));intro G;refine aC (λW=>?_) (λW=>?_)
  .first|exact⟨rfl,u.aF⟩|(subst_vars;exact⟨rfl,u.aF⟩)|(refine⟨?_,u.aF⟩;unfold l7 l6 oG;first|(rw[fh (show op<5\/15<op by omega)];rfl)|simp[*])
  refine fj (first:=[]) (cap:=[]) aau (C317 a b _ W) ?_;rintro _ E ⟨rfl,B⟩;have u:=u.ext B
  first|exact⟨rfl,u.aF⟩|(subst_vars;exact⟨rfl,u.aF⟩)|(refine⟨?_,u.aF⟩;unfold l7 l6 oG;first|(rw[fh (show op<5\/15<op by omega)];rfl)|simp[*])
 .refine pop (v:=.func (.func 312) #[] #[.pointer (some ⟨b1,0,none⟩)]) (by kernel_rfl) (pop (v:=.bool false) (by kernel_rfl) (ep ?_));refine⟨_,?_,λ_ _ h=>h⟩;refine aG (fE ea (aG (fE ea ?_)));intro G;refine ep ?_;obtain⟨J,V,O,U,I,M⟩:=u.eH;refine fj (first:=[]) (cap:=[.pointer (some ⟨b1,0,none⟩)]) Ay (C312 a b b1 _ _ _ J fb1) ?_;rintro _ E ⟨rfl,B⟩;have u:=u.ext B
  first|exact⟨rfl,u.aF⟩|(subst_vars;exact⟨rfl,u.aF⟩)|(refine⟨?_,u.aF⟩;unfold l7 l6 oG;first|(rw[fh (show op<5\/15<op by omega)];rfl)|simp[*])
 .refine pop (v:=.func (.func 312) #[] #[.pointer (some ⟨b2,0,none⟩)]) (by kernel_rfl) (pop (v:=.bool false) (by kernel_rfl) (ep ?_));refine⟨_,?_,λ_ _ h=>h⟩;refine aG (fE ea (aG (fE ea ?_)));intro G;refine ep ?_;obtain⟨J,V,O,U,I,M⟩:=u.eH;refine fj (first:=[]) (cap:=[.pointer (some ⟨b2,0,none⟩)]) Ay (C312 a b b2 _ _ _ V fb2) ?_;rintro _ E ⟨rfl,B⟩;have u:=u.ext B
  first|exact⟨rfl,u.aF⟩|(subst_vars;exact⟨rfl,u.aF⟩)|(refine⟨?_,u.aF⟩;unfold l7 l6 oG;first|(rw[fh (show op<5\/15<op by omega)];rfl)|simp[*])
 .refine pop (v:=.func (.func 312) #[] #[.pointer (some ⟨b3,0,none⟩)]) (by kernel_rfl) (pop (v:=.bool false) (by kernel_rfl) (ep ?_));refine⟨_,?_,λ_ _ h=>h⟩;refine aG (fE ea (aG (fE ea ?_)));intro G;refine ep ?_;obtain⟨J,V,O,U,I,M⟩:=u.eH;refine fj (first:=[]) (cap:=[.pointer (some ⟨b3,0,none⟩)]) Ay (C312 a b b3 _ _ _ O fb3) ?_;rintro _ E ⟨rfl,B⟩;have u:=u.ext B
  first|exact⟨rfl,u.aF⟩|(subst_vars;exact⟨rfl,u.aF⟩)|(refine⟨?_,u.aF⟩;unfold l7 l6 oG;first|(rw[fh (show op<5\/15<op by omega)];rfl)|simp[*])
 .refine pop (v:=.func (.func 312) #[] #[.pointer (some ⟨b4,0,none⟩)]) (by kernel_rfl) (pop (v:=.bool false) (by kernel_rfl) (ep ?_));refine⟨_,?_,λ_ _ h=>h⟩;refine aG (fE ea (aG (fE ea ?_)));intro G;refine ep ?_;obtain⟨J,V,O,U,I,M⟩:=u.eH;refine fj (first:=[]) (cap:=[.pointer (some ⟨b4,0,none⟩)]) Ay (C312 a b b4 _ _ _ U fb4) ?_;rintro _ E ⟨rfl,B⟩;have u:=u.ext B
  first|exact⟨rfl,u.aF⟩|(subst_vars;exact⟨rfl,u.aF⟩)|(refine⟨?_,u.aF⟩;unfold l7 l6 oG;first|(rw[fh (show op<5\/15<op by omega)];rfl)|simp[*])
 .refine pop (v:=.func (.func 312) #[] #[.pointer (some ⟨Y,0,none⟩)]) (by kernel_rfl) (pop (v:=.bool false) (by kernel_rfl) (ep ?_));refine⟨_,?_,λ_ _ h=>h⟩;refine aG (fE ea (aG (fE ea ?_)));intro G;refine ep ?_;obtain⟨J,V,O,U,I,M⟩:=u.eH;refine fj (first:=[]) (cap:=[.pointer (some ⟨Y,0,none⟩)]) Ay (C312 a b Y _ _ _ I fb5) ?_;rintro _ E ⟨rfl,B⟩;have u:=u.ext B
  first|exact⟨rfl,u.aF⟩|(subst_vars;exact⟨rfl,u.aF⟩)|(refine⟨?_,u.aF⟩;unfold l7 l6 oG;first|(rw[fh (show op<5\/15<op by omega)];rfl)|simp[*])
 refine pop (v:=.func (.func 312) #[] #[.pointer (some ⟨b6,0,none⟩)]) (by kernel_rfl) (pop (v:=.bool false) (by kernel_rfl) (ep ?_));refine⟨_,?_,λ_ _ h=>h⟩;refine aG (fE ea (aG (fE ea ?_)));intro G;refine ep ?_;obtain⟨J,V,O,U,I,M⟩:=u.eH;refine fj (first:=[]) (cap:=[.pointer (some ⟨b6,0,none⟩)]) Ay (C312 a b b6 _ _ _ M fb6) ?_;rintro _ E ⟨rfl,B⟩;have u:=u.ext B
 first|exact⟨rfl,u.aF⟩|(subst_vars;exact⟨rfl,u.aF⟩)|(refine⟨?_,u.aF⟩;unfold l7 l6 oG;first|(rw[fh (show op<5\/15<op by omega)];rfl)|simp[*])
theorem gm{α:Type}{l:List α}{k:Nat}{e:α}(h:l[k]?=some e):l.take k++[e]=l.take (k+1):=by rw[tx,h];rfl
def eC{α:Type}{φ:α->Prop}{l:List α}{k:Nat}{e:α}(h:∀y∈l.take k,φ y)(B:l[k]?=some e)(E:φ e):∀y∈l.take (k+1),φ y:=by
 intro y u
 rw[<- gm B]at u
 grind
theorem nj{α:Type}{g:α->Bool}{l:List α}{k:Nat}{e:α}(B:l[k]?=some e)(u:g e=true):l.any g=true:=List.any_eq_true.2 ⟨e,l0 B,u⟩
theorem nk{α:Type}{g:α->Bool}{l:List α}(h:∀y∈l,g y=false):l.any g=false:=by
 grind
def pf{α:Type}(g:α->Bool)(l:List α):Int:=match l.findIdx? g with|some k=>k|none=>-1
def jy{α:Type}{g:α->Bool}{l:List α}{k:Nat}{e:α}(u:∀y∈l.take k,g y=false)(E:l[k]?=some e)(G:g e=true):pf g l=k:=by
 have:l.findIdx? g=some k:=by
  rw[List.findIdx?_eq_some_iff_getElem]
  have B:=(j0.1 E).1
  refine⟨B,cR,λj I=>?_⟩
  have:=u (l[j]'(bP)) (List.mem_take_iff_getElem.2 ⟨j,bP,rfl⟩)
  simp[this]
 unfold pf;rw[this]
def gn{α:Type}{g:α->Bool}{l:List α}(u:∀y∈l,g y=false):pf g l = -1:=by
 grind[pf]
def iv{α:Type}(g:α->Bool)(l:List α):decide (0<=pf g l)=l.any g:=by
 grind[pf]
def qF{α:Type}[Flat α](w:World)(f:Value)(g:α->Bool):Prop:=∃B first cap,f=.func (.func B) (Ix first) (Ix cap)/\Plain hM B/\
 ∀x u,Ext w u->Calls hM B (first++[iS x]++cap).toArray u (oU λv E=>v=.bool (g x)/\Ext u E)
theorem qF.ext{α:Type}[Flat α]{w w':World}{f:Value}{g:α->Bool}(h:qF w f g)(e:Ext w w'):qF w' f g:=by
 obtain⟨B,first,cap,h1,h2,h3⟩:=h;exact⟨B,first,cap,h1,h2,λx u E=>h3 x u (e.trans E)⟩
def eT(k:Int):Int:=if k=3\/k=4 then 1 else if 5<=k/\k<=15 then 2 else 0
def UO(st:Option (Int×Int))(x:mM):Option (Int×Int):=match st with
 | none=>none
 | some (n,h)=>if n-eT x.kind<0 then none else some (n-eT x.kind+1,max h (n-eT x.kind+1))
def ht(l:List mM):Option (Int×Int):=l.foldl UO (some (0,0))
def htN(l:List mM):Int:=match ht l with|some p=>p.1|none=>0
def htH(l:List mM):Int:=match ht l with|some p=>p.2|none=>0
theorem uG{l:List mM}{k:Nat}{x:mM}(h:l[k]?=some x):ht (l.take (k+1))=UO (ht (l.take k)) x:=by
 unfold ht;rw[<- gm h,x6];rfl
def IE{l:List mM}{k:Nat}(h:ht (l.take k)=none):ht l=none:=by
 have B:∀m:List mM,m.foldl UO none=none:=λm=>by induction m with|nil=>rfl|cons y m u=>exact u
 have e:l=l.take k++l.drop k:=(ob k l).symm
 grind[ht]
def IF(k:Int):0<=eT k/\eT k<=2:=by
 grind[eT]
theorem We{l:List mM}:∀k n h,k<=l.length->ht (l.take k)=some (n,h)->0<=n/\n<=(k:Int)/\0<=h/\h<=(k:Int)
 | 0,n,h,_,e=>by
  have:ht ([]:List mM)=some (0,0):=rfl
  grind
 | k+1,n,h,B,e=>by
  obtain⟨x,u⟩:=gx l (i:=k) bP
  rw[uG u]at e
  cases hp:ht (l.take k)with
  | none=>rw[hp]at e;cases e
  | some p=>
   obtain⟨a,b⟩:=p
   have E:=We k a b bP hp
   have G:=IF x.kind
   rw[hp]at e
   unfold UO at e
   grind
def RY{l:List mM}{k:Nat}{x:mM}{n h m:Int}(B:l[k]?=some x)(u:ht (l.take k)=some (n,h))(E:m=n-eT x.kind)(G:¬ m<0):ht (l.take (k+1))=some (m+1,max h (m+1)):=by
 rw[uG B,u];grind[UO]
def Wf{l:List mM}{k:Nat}{x:mM}{n h m:Int}(B:l[k]?=some x)(u:ht (l.take k)=some (n,h))(E:m=n-eT x.kind)(G:m<0):ht (l.take (k+1))=none:=by
 rw[uG B,u];grind[UO]
def qj(many:Int)(x:mM):Bool:=decide ((x.kind=1/\(x.n<0\/4294967296<x.n))\/(x.kind=2/\(x.n<0\/many<=x.n))\/(¬ x.kind=1/\¬ x.kind=2/\(¬ x.n=0\/x.kind<1\/16<=x.kind)))
def kS(l:List mM)(many:Int):Bool:=decide (l.length<=40)&&(ht l).isSome&&decide (htN l=1)&&!l.any (qj many)
def C149(k:Int)(w:World):CR 149 [hZ k] w (λv w'=>v=hZ (eT k)/\Ext w w'):=by
 have B:=St.start w;refine eR Tryz.func149 ?_;refine⟨λG w'=>G=.bool (decide (k=3\/k=4))/\w=w',aG (aC (λ_=>⟨FD bP,rfl⟩) λ_=>aG ⟨xh bP,rfl⟩),?_⟩;rintro _ _ ⟨rfl,I⟩ _;subst I;refine aC (λu=>?_) (λu=>⟨λG w'=>G=.bool (decide (5<=k/\k<=15))/\w=w',cJ (aC (λ_=>gL ⟨xh bP,rfl⟩) λ_=>⟨QY bP,rfl⟩),?_⟩)
 .unfold eT
  first|(rw[fh u];exact⟨rfl,B.aF⟩)|(rw[fg u,fh E];exact⟨rfl,B.aF⟩)|(rw[fg u,fg E];exact⟨rfl,B.aF⟩)
 rintro _ _ ⟨rfl,I⟩ _;subst I;refine aC (λE=>?_) (λE=>?_)
 .unfold eT
  first|(rw[fh u];exact⟨rfl,B.aF⟩)|(rw[fg u,fh E];exact⟨rfl,B.aF⟩)|(rw[fg u,fg E];exact⟨rfl,B.aF⟩)
 unfold eT
 first|(rw[fh u];exact⟨rfl,B.aF⟩)|(rw[fg u,fh E];exact⟨rfl,B.aF⟩)|(rw[fg u,fg E];exact⟨rfl,B.aF⟩)
def C243(I:Value)(xs:List mM)(w:World)(O:dy (λ_=>True) w I xs)(Z:xs.length<=1048576):CR 243 [I] w (λv w'=>v=.tuple #[hZ (htN xs),hZ (htH xs),.bool (ht xs).isSome]/\Ext w w'):=by
 have u:=St.start w;refine eR Tryz.func243 ?_;refine aI sN (O.ext u.aF) ?_;refine⟨λm y z x M=>∃(k:Nat) (n h:Int),y=hZ n/\z=hZ h/\x=hZ (k:Int)/\m=xs.length-k/\k<=xs.length/\ht (xs.take k)=some (n,h)/\St w bF [] M,⟨_,0,0,0,rfl,rfl,rfl,rfl,bP,rfl,u⟩,?_⟩;rintro m _ _ _ M ⟨k,n,h,rfl,rfl,rfl,rfl,hk,B,u⟩ _;refine aQ (aC (λU=>?_) λU=>?_)
 .obtain⟨J,G⟩:=gx xs (i:=(k:Int).toNat) bP;refine aY sN (O.ext u.aF) bP G (λ_ W=>aE yu W (aK u BV λKy _ u=>aH (x:=J) u yu rfl rfl λ_ u=>aA jU (aB bL u.hb rfl (aR Mz u (C149 _ _) λ_ he u=>?_))));have hw:=IF J.kind;have Y:=We k n h bP B;refine fk bP (aQ (aC (λE=>?_) λE=>aM bP (xN (aM bP ⟨_,bP,k+1,_,_,rfl,rfl,rfl,rfl,bP,by rw[uG (k:=k) G,B];unfold UO;simp only[];rw[fg E],u.drop⟩))));have V:ht xs=none:=IE (k:=k+1) (by rw[uG (k:=k) G,B];unfold UO;simp only[];rw[fh E])
  unfold htN htH;rw[V];exact⟨rfl,u.aF⟩
 rw[kO bP]at B;unfold htN htH;rw[B];exact⟨rfl,u.aF⟩
def C242(x:mM)(b2:Nat)(many:Int)(w:World)(hc:Cell w b2 0 (hZ many)):CR 242 [iS x,.pointer (some ⟨b2,0,none⟩)] w (λv w'=>v=.bool (qj many x)/\Ext w w'):=by
 have u:=St.start w;refine eR Tryz.func242 ?_;refine cE u (λW _ u=>aA jU (aB bL u.hb rfl (aG (aC (λO=>⟨_,aA lZ (aB bL u.hb rfl (aQ (aC (λM=>?_) λM=>?_))),λ_ _ h=>h⟩) λO=>aA jU (aB bL u.hb rfl (aG (aC (λE=>⟨_,aA lZ (aB bL u.hb rfl (aQ (aC (λI=>?_) λI=>?_))),λ_ _ h=>h⟩) λE=>?_)))))))
 .intro J;refine⟨vb ?_,u.aF⟩;unfold qj
  first|exact(fY bP).symm|exact(fZ bP).symm|exact ga.2 bP
 .refine aA lZ (aB bL u.hb rfl (dL ?_));intro J;refine⟨vb ?_,u.aF⟩;unfold qj
  first|exact(fY bP).symm|exact(fZ bP).symm|exact ga.2 bP
 .intro U;refine⟨vb ?_,u.aF⟩;unfold qj
  first|exact(fY bP).symm|exact(fZ bP).symm|exact ga.2 bP
 .refine aA lZ (aB bL u.hb rfl (cD bL (hc.ext u.aF) (cJ ?_)));intro U;refine⟨vb ?_,u.aF⟩;unfold qj
  first|exact(fY bP).symm|exact(fZ bP).symm|exact ga.2 bP
 refine⟨_,?_,λ_ _ h=>h⟩;refine aA lZ (aB bL u.hb rfl (cB (aC (λV=>?_) λV=>aA jU (aB bL u.hb rfl (aQ (aC (λG=>?_) λG=>?_))))))
 .intro B;refine⟨vb ?_,u.aF⟩;unfold qj
  first|exact(fY bP).symm|exact(fZ bP).symm|exact ga.2 bP
 .intro B;refine⟨vb ?_,u.aF⟩;unfold qj
  first|exact(fY bP).symm|exact(fZ bP).symm|exact ga.2 bP
 refine aA jU (aB bL u.hb rfl (cJ ?_));intro B;refine⟨vb ?_,u.aF⟩;unfold qj
 first|exact(fY bP).symm|exact(fZ bP).symm|exact ga.2 bP
def C309(J fv:Value)(xs:List mM)(g:mM->Bool)(w:World)(M:dy (λ_=>True) w J xs)(V:qF w fv g)(hn:xs.length<=1073741824):CR 309 [J,fv] w (λv w'=>v=hZ (pf g xs)/\Ext w w'):=by
 obtain⟨g0,first,cap,rfl,Y,O⟩:=V;have u:=St.start w;refine eR Tryz.func309 ?_;refine aI sN (M.ext u.aF) ?_;refine⟨λm x G=>∃k:Nat,x=hZ (k:Int)/\m=xs.length-k/\k<=xs.length/\(∀y∈xs.take k,g y=false)/\St w bF [] G,⟨_,0,rfl,rfl,mj _,ew,u⟩,?_⟩;rintro m _ G ⟨k,rfl,rfl,hk,B,u⟩ _;refine aQ (aC (λj6=>?_) λ_=>⟨gl (mf .i64) (gn (by rw[kO bP]at B;exact B)).symm,u.aF⟩);obtain⟨W,E⟩:=gx xs (i:=(k:Int).toNat) bP;refine aY sN (M.ext u.aF) bP E (λ_ Z=>aE yu Z (fj Y (O W G u.aF) ?_))
 rintro _ _ ⟨rfl,U⟩;have u:=u.ext U;exact bD (λI=>⟨gl (mf .i64) (jy B E I).symm,u.aF⟩) (λI=>aM bP ⟨xs.length-(k+1),bP,k+1,rfl,rfl,bP,eC B E I,u⟩)
def C244(B fv:Value)(xs:List mM)(g:mM->Bool)(w:World)(G:dy (λ_=>True) w B xs)(E:qF w fv g)(I:xs.length<=1073741824):CR 244 [B,fv] w (λv w'=>v=.bool (xs.any g)/\Ext w w'):=by
 have u:=St.start w;refine eR Tryz.func244 ?_;exact aR aao u (C309 _ _ _ _ _ (G.ext u.aF) (E.ext u.aF) bP) (λ_ _ u=>cJ ⟨vb (iv _ _),u.aF⟩)
def C136(I:Value)(xs:List mM)(many:Int)(w:World)(G:dy (λ_=>True) w I xs)(Z:xs.length<=1048576):CR 136 [I,hZ many] w (λv w'=>v=.bool (kS xs many)/\Ext w w'):=by
 have u:=St.start w;refine eR Tryz.func136 ?_;refine jP u rfl (λJ M u=>aR Z9 u (C243 _ _ _ (G.ext u.aF) bP) λ_ O u=>aJ rfl (aJ rfl (aJ rfl ?_)));refine⟨_,?_,λ_ _ h=>h⟩;refine aI sN (G.ext u.aF) (gL (aC (λY=>bD (λU=>aG (aC (λV=>?_) λV=>?_)) λU=>?_) λY=>?_))
 .have E:qF _ (.func (.func 242) [].toArray [.pointer (some ⟨J,0,none⟩)].toArray) (qj many):=
   ⟨242,[],_,rfl,Z8,λy M W=>C242 y J many M ((u.hb.cell rfl).ext W)⟩
  refine aR aaa u (C244 _ _ _ _ _ (G.ext u.aF) E bP) (λ_ O u=>bJ ?_);intro B;refine⟨vb ?_,u.aF⟩;unfold kS
  simp_all<;>omega
 .intro B;refine⟨vb ?_,u.aF⟩;unfold kS
  simp_all<;>omega
 .intro B;refine⟨vb ?_,u.aF⟩;unfold kS
  simp_all<;>omega
 intro B;refine⟨vb ?_,u.aF⟩;unfold kS
 simp_all<;>omega
def kT(b:Nat)(rest:List Value)(l:List Int):HP:=oV λu=>sep (bM b (u::rest)) (bH u l)
def kT.shut{w0 w:World}{A:Nat->Prop}{R:List HP}{b:Nat}{rest:List Value}{u:Value}{l:List Int}(B:St w0 A (bM b (u::rest)::bH u l::R) w):St w0 A (kT b rest l::R) w:=
 St.dO (H:=λu=>sep (bM b (u::rest)) (bH u l)) u (St.join B)
def kT.open{w0 w:World}{A:Nat->Prop}{R:List HP}{b:Nat}{rest:List Value}{l:List Int}(B:St w0 A (kT b rest l::R) w):∃u,St w0 A (bM b (u::rest)::bH u l::R) w:=by
 obtain⟨u,B⟩:=B.dS;exact⟨u,B.split⟩
def iX(l:List Int):Int:=l.getD (l.length-1) 0
theorem No{l:List Int}{e:Int}(h:l[((l.length:Int)-1).toNat]?=some e):e=iX l:=by
 simp_all[iX]
def C254(b:Nat)(n:Int)(rest:List Value)(l:List Int)(F:Nat->Prop)(w:World)(G:(kT b rest l).p w F)(I:l.length<=1048576):CR 254 [.pointer (some ⟨b,0,none⟩),hZ n] w (λv w'=>v=.tuple #[]/\mC F (kT b rest (l++[n])) w w'):=by
 have u:=St.begin G;obtain⟨J,u⟩:=u.dS;have u:=u.split;refine eR Tryz.func254 ?_;refine aD (aA l4 (aB eK u.hb rfl (bK ([n]:List Int) u dG rfl rfl (dQ rfl) λB _ u=>?_)));have E:=u.eS;exact cO u.p2 dG E (by simp<;>omega) ea (λ_ _ u=>have u:=u.p1.drop;aD (aA l4 (aO u.p1 eK (dQ rfl) u.eS.one λ_ u=>have u:=u.p1.p1;⟨rfl,(kT.shut u).mut⟩)))
def C152(b:Nat)(rest:List Value)(l:List Int)(F:Nat->Prop)(w:World)(G:(kT b rest l).p w F)(J:l.length<=1048576)(U:0<l.length):CR 152 [.pointer (some ⟨b,0,none⟩)] w (λv w'=>v=hZ (iX l)/\mC F (kT b rest (l.take (l.length-1))) w w'):=by
 have u:=St.begin G;obtain⟨M,u⟩:=u.dS;have u:=u.split;refine qg Tryz.func152 (pl:=agl) ?_;refine aD (aA l4 (have u:=u.drew;aB eK u.hb rfl (aD (aA l4 (aB eK u.hb rfl (aI dG u.p1.eS (fk bP ?_)))))));obtain⟨O,E⟩:=gx l (i:=((l.length:Int)-1).toNat) bP;refine ed u.p1 dG bP bP (λ_ I=>gM u.p1 bL I E (aD (aA l4 (have u:=u.drew;aB eK u.hb rfl (aD (aA l4 (aB eK u.hb rfl (aI dG u.p1.eS (fk bP (have u:=u.p1;nh dG u bP bP λB u=>aD (aA l4 ?_)))))))))))
 refine aO u.p1 eK (dQ rfl) u.eS.one (λ_ u=>?_);have u:=u.p1.p1;rw[show((l.length:Int)-1).toNat=l.length-1 from bP]at u;rw[No E];exact⟨rfl,(kT.shut u).mut⟩
def C150(b:Nat)(n hi:Int)(l:List Int)(F:Nat->Prop)(w:World)(B:(kT b [hZ hi] l).p w F)(G:l.length<=1048576):CR 150 [.pointer (some ⟨b,0,none⟩),hZ n] w (λv w'=>v=.tuple #[]/\∃E,mC F (kT b [hZ E] (l++[n])) w w'):=by
 have u:=St.begin B;refine qg Tryz.func150 (pl:=agk) ?_;refine aD (aA o9 (lP aae u (H':=λ_=>kT b [hZ hi] (l++[n])) (Φ:=λv _=>v=.tuple #[]) (λF B=>?_) ?_))
 .exact C254 b n _ l F _ B bP
 rintro _ _ rfl u;obtain⟨I,u⟩:=kT.open u;exact aD (aA DE (have u:=u.drew;aB bL u.hb rfl (aD (aA o9 (aA l4 (aB eK u.hb rfl (aI dG u.p1.eS (xN (aD (aA DE (aO u bL (dQ rfl) (rfl) λ_ u=>have u:=u.p1.p1;⟨rfl,_,(kT.shut u).mut⟩)))))))))))
def l9(ns S:List Int)(x:mM):List Int:=
 if eT x.kind=0 then S++[if x.kind=2 then ns.getD x.n.toNat 0 else x.n]
 else if eT x.kind=1 then S.take (S.length-1)++[vL x.kind (iX S)]
 else S.take (S.length-2)++[l7 x.kind (iX (S.take (S.length-1))) (iX S)]
def z8(S:List Int)(x:mM):Int:=if eT x.kind=2 then l6 x.kind (iX S)else 0
def B3(ns:List Int):List mM->List Int->Int×Int
 | [],S=>(iX S,0)
 | x::r,S=>if z8 S x=0 then B3 ns r (l9 ns S x)else(0,z8 S x)
def runM(l:List mM)(ns:List Int):Int×Int:=if kS l ns.length=true then B3 ns l []else(0,8)
def uI(k:Int):eT k=0\/eT k=1\/eT k=2:=by
 grind[eT]
section
variable {xs:List mM}{ns S:List Int}{k:Nat}{x:mM}{n h:Int}
theorem xO(u:xs[k]?=some x)(h:z8 S x=0):B3 ns (xs.drop k) S=B3 ns (xs.drop (k+1)) (l9 ns S x):=by
 obtain⟨E,B⟩:=j0.1 u
 rw[pd E,B,B3,fh h]
theorem Np(u:xs[k]?=some x)(h:¬ z8 S x=0):B3 ns (xs.drop k) S=(0,z8 S x):=by
 obtain⟨E,B⟩:=j0.1 u
 rw[pd E,B,B3,fg h]
theorem z9{many:Int}(h:kS xs many=true):xs.length<=40/\(∃a,ht xs=some (1,a))/\∀x∈xs,qj many x=false:=by
 unfold kS at h
 rw[nu,nu,nu,decide_eq_true_eq,decide_eq_true_eq]at h
 obtain⟨⟨⟨h1,h2⟩,h3⟩,h4⟩:=h
 refine⟨h1,?_,λx u=>?_⟩
 .unfold htN at h3
  grind
 grind
theorem Kz(u:eT x.kind<=(S.length:Int)):((l9 ns S x).length:Int)=S.length-eT x.kind+1:=by
 unfold l9
 rcases uI x.kind with h|h|h
 .grind
 .grind
 grind
theorem KA{a:Int}(I:ht xs=some (1,a))(B:ht (xs.take k)=some ((S.length:Int),h))(E:xs[k]?=some x) :
  eT x.kind<=(S.length:Int)/\∃G,ht (xs.take (k+1))=some (((l9 ns S x).length:Int),G):=by
 have u:eT x.kind<=(S.length:Int):=by
  rcases Int.lt_or_le ((S.length:Int)-eT x.kind) 0 with h1|h1
  .have:=IE (Wf E B rfl h1);grind
  .omega
 exact⟨u,_,(RY E B rfl bP).trans (by rw[Kz u])⟩
theorem Wg(u:eT x.kind=0)(h2:¬ x.kind=2):l9 ns S x=S++[x.n]:=by unfold l9;grind
theorem Wh{e:Int}(B:eT x.kind=0)(h2:x.kind=2)(u:ns[x.n.toNat]?=some e):l9 ns S x=S++[e]:=by
 grind[l9]
theorem Wi(u:eT x.kind=1):l9 ns S x=S.take (S.length-1)++[vL x.kind (iX S)]:=by unfold l9;rw[fg bP,fh u]
theorem Wj(u:eT x.kind=2):l9 ns S x=S.take (S.length-2)++[l7 x.kind (iX (S.take (S.length-1))) (iX S)]:=by unfold l9;rw[fg bP,fg bP]
theorem Nq(u:¬ eT x.kind=2):z8 S x=0:=by unfold z8;omega
theorem UP(u:eT x.kind=2):z8 S x=l6 x.kind (iX S):=by unfold z8;omega
theorem Gv(h:2<=S.length):(S.take (S.length-1)).take ((S.take (S.length-1)).length-1)=S.take (S.length-2):=by
 grind
end
def jG(b:Nat)(l:List Int):HP:=oV fun (hi:Int)=>kT b [hZ hi] l
def jG.shut{w0 w:World}{A:Nat->Prop}{R:List HP}{b:Nat}{hi:Int}{l:List Int}(u:St w0 A (kT b [hZ hi] l::R) w):St w0 A (jG b l::R) w:=
 St.dO (H:=fun (hi:Int)=>kT b [hZ hi] l) hi u
def RZ(b:Nat)(n:Int)(l:List Int)(F:Nat->Prop)(w:World)(u:(jG b l).p w F)(B:l.length<=1048576) :
  Calls hM 150 [.pointer (some ⟨b,0,none⟩),hZ n].toArray w (oU λv w'=>v=.tuple #[]/\mC F (jG b (l++[n])) w w'):=by
 obtain⟨hi,u⟩:=u
 refine(C150 b n hi l F w u B).mono λe w' ⟨v,I,E,J,G,h1,h2⟩=>⟨v,I,E,G,⟨J,h1⟩,h2⟩
def R0(b:Nat)(l:List Int)(F:Nat->Prop)(w:World)(u:(jG b l).p w F)(B:l.length<=1048576)(J:0<l.length) :
  Calls hM 152 [.pointer (some ⟨b,0,none⟩)].toArray w (oU λv w'=>v=hZ (iX l)/\mC F (jG b (l.take (l.length-1))) w w'):=by
 obtain⟨hi,u⟩:=u
 refine(C152 b [hZ hi] l F w u B J).mono λe w' ⟨v,I,E,G,h1,h2⟩=>⟨v,I,E,G,⟨hi,h1⟩,h2⟩
def C79(sv nv:Value)(xs:List mM)(ns:List Int)(w:World)(hL:dy (λ_=>True) w sv xs)(hN:dy (λ_=>True) w nv ns)(hn:xs.length<=1048576):CR 79 [sv,nv] w (λv w'=>v=.tuple #[hZ (runM xs ns).1,hZ (runM xs ns).2]/\Ext w w'):=by
 have u:=St.start w;refine VX _ _ _ _ ?_;unfold S79;refine aI dG (hN.ext u.aF) (aR ZZ u (C136 _ _ _ _ (hL.ext u.aF) hn) λw1 Y u=>bJ (bD (λW=>?_) λW=>?_))
 .unfold runM;rw[fg (by simpa using W)];exact⟨rfl,u.aF⟩
 refine aK u RQ (λE _ u=>?_);have u:=jG.shut (kT.shut (u.eD (α:=Int)).p1);have l8:kS xs (ns.length:Int)=true:=by simpa using W
 obtain⟨h40,⟨a0,qL⟩,agX⟩:=z9 l8;refine aI sN (hL.ext u.aF) ?_;refine⟨λm x w1=>∃(k:Nat) (S:List Int) (h:Int),x=hZ (k:Int)/\m=xs.length-k/\k<=xs.length/\B3 ns xs []=B3 ns (xs.drop k) S/\ht (xs.take k)=some ((S.length:Int),h)/\St w bF [jG E S] w1,⟨_,0,[],0,rfl,rfl,bP,rfl,rfl,u⟩,?_⟩;rintro m _ _ ⟨k,S,h,rfl,rfl,hk,M,O,u⟩ _;refine aQ (aC (λpg=>?_) λpg=>?_)
 .refine⟨_,?_,λ_ h=>h⟩;obtain⟨B,I⟩:=gx xs (i:=(k:Int).toNat) bP;refine aY sN (hL.ext u.aF) bP I (λ_ D3=>aE yu D3 (aK u BV λKy _ u=>aH (x:=B) u yu rfl rfl λ_ u=>aA jU (aB bL u.hb rfl (aR Mz u (C149 _ _) λ_ Y u=>?_))));have Mm:=agX _ (l0 I);unfold qj at Mm;have ho:=g7 Mm;obtain⟨hw0,h2,U⟩:=KA (ns:=ns) (k:=k) qL O I;have hwk:eT B.kind=0->B.kind=1\/B.kind=2\/¬ (B.kind=1\/B.kind=2):=λ_=>bP
  have hSk:=We k _ _ bP O;have hw3:=uI B.kind;refine aG (aC (λV=>aA lZ (aB bL u.hb rfl ⟨_,aA jU (aB bL u.hb rfl (aG (aC (λre=>?_) λre=>?_))),λ_ _ h=>h⟩)) λV=>aG (aC (λIH=>?_) λIH=>?_))
  .refine aA lZ (aB bL u.hb rfl ?_);obtain⟨UQ,Nr⟩:=gx ns (i:=B.n.toNat) bP;refine aY dG (hN.ext u.aF) bP Nr (λ_ Ns=>aE bL Ns ?_);intro xn;refine lP Ib u.p1 (H':=λ_=>jG E (S++[UQ])) (Φ:=λv _=>v=.tuple #[]) (λF G=>?_) ?_
   .exact RZ E UQ S F _ G (by first|omega|(simp only[mg,kE,nB];omega))
   rintro _ w8 rfl u;intro zQ;refine aM bP ?_;have u:=u.p1.drop;have J:l9 ns S B=_:=Wh V re Nr;exact⟨_,bP,k+1,_,_,rfl,rfl,bP,M.trans (xO (k:=k) I (Nq bP)),U,by rw[J];exact u⟩
  .intro xn;refine lP Ib u.p1 (H':=λ_=>jG E (S++[B.n])) (Φ:=λv _=>v=.tuple #[]) (λF G=>?_) ?_
   .exact RZ E B.n S F _ G (by first|omega|(simp only[mg,kE,nB];omega))
   rintro _ w8 rfl u;intro zQ;refine aM bP ?_;have u:=u.p1.drop;have J:l9 ns S B=_:=Wg V re;exact⟨_,bP,k+1,_,_,rfl,rfl,bP,M.trans (xO (k:=k) I (Nq bP)),U,by rw[J];exact u⟩
  .refine aA jU (have u:=u.drew;aB bL u.hb rfl (aA o9 (lP Ic u.p1 (H':=λ_=>jG E (S.take (S.length-1))) (Φ:=λv _=>v=hZ (iX S)) (λF G=>?_) ?_)))
   .exact R0 E S F _ G (by first|omega|(simp only[mg,kE,nB];omega)) (by first|omega|(simp only[mg,kE,nB];omega))
   rintro _ _ rfl u;refine⟨aX bL (u.p1.hb.cell rfl),?_⟩;refine aR Z1 u (C151 _ _ _) (λ_ Y u=>aJ rfl (aJ rfl (lP Ib u (H':=λ_=>jG E ((S.take (S.length-1))++[(vL B.kind (iX S))])) (Φ:=λv _=>v=.tuple #[]) (λF G=>?_) ?_)))
   .exact RZ E (vL B.kind (iX S)) (S.take (S.length-1)) F _ G (by first|omega|(simp only[mg,kE,nB];omega))
   rintro _ _ rfl u;intro zQ;refine aM bP ?_;have u:=u.p1.drop;have J:l9 ns S B=_:=Wi IH;exact⟨_,bP,k+1,_,_,rfl,rfl,bP,M.trans (xO (k:=k) I (Nq bP)),U,by rw[J];exact u⟩
  refine aA o9 (lP Ic u.p1 (H':=λ_=>jG E (S.take (S.length-1))) (Φ:=λv _=>v=hZ (iX S)) (λF G=>?_) ?_)
  .exact R0 E S F _ G (by first|omega|(simp only[mg,kE,nB];omega)) (by first|omega|(simp only[mg,kE,nB];omega))
  rintro _ _ rfl u;refine aA jU (have u:=u.drew;aB bL u.p1.hb rfl (aA o9 (lP Ic u (H':=λ_=>jG E ((S.take (S.length-1)).take ((S.take (S.length-1)).length-1))) (Φ:=λv _=>v=hZ (iX (S.take (S.length-1)))) (λF G=>?_) ?_)))
  .exact R0 E (S.take (S.length-1)) F _ G (by first|omega|(simp only[mg,kE,nB];omega)) (by first|omega|(simp only[mg,kE,nB];omega))
  rintro _ _ rfl u;refine⟨aX bL (u.p1.hb.cell rfl),?_⟩;refine aR Z2 u (C153 _ _ _ _) (λ_ Y u=>aJ rfl (aJ rfl (cB (aC (λZ=>?_) λZ=>?_))))
  .have hz:z8 S B=l6 B.kind (iX S):=UP (by have:=uI B.kind;omega);unfold runM;rw[fh l8,M,Np (k:=k) I (by rw[hz];exact Z),hz];exact⟨rfl,u.aF⟩
  refine lP Ib u (H':=λ_=>jG E (((S.take (S.length-1)).take ((S.take (S.length-1)).length-1))++[(l7 B.kind (iX (S.take (S.length-1))) (iX S))])) (Φ:=λv _=>v=.tuple #[]) (λF G=>?_) ?_
  .exact RZ E (l7 B.kind (iX (S.take (S.length-1))) (iX S)) ((S.take (S.length-1)).take ((S.take (S.length-1)).length-1)) F _ G (by first|omega|(simp only[mg,kE,nB];omega))
  rintro _ _ rfl u;intro zQ;refine aM bP ?_;have u:=u.p1.drop;rw[Gv bP]at u;have J:l9 ns S B=_:=Wj (by have:=uI B.kind;omega);exact⟨_,bP,k+1,_,_,rfl,rfl,bP,M.trans (xO (k:=k) I ((UP (by have:=uI B.kind;omega)).trans (BL.1 Z))),U,by rw[J];exact u⟩
 refine aA o9 ?_
 have hS1:S.length=1:=by
  rw[kO bP,qL]at O;have:=(Prod.mk.inj (nM.inj O)).1;omega
 refine lP Ic u (H':=λ_=>jG E (S.take (S.length-1))) (Φ:=λv _=>v=hZ (iX S)) (λF G=>?_) ?_
 .exact R0 E S F _ G (by first|omega|(simp only[mg,kE,nB];omega)) (by first|omega|(simp only[mg,kE,nB];omega))
 rintro _ _ rfl u;unfold runM;rw[fh l8,M,ot bP];exact⟨rfl,u.aF⟩
def cT(ns:List ByteArray)(s:ByteArray):Int:=pf (λy=>decide (y=s)) ns
def jb(p:bQ):List bO:=p.lines.flatten++p.iJ
structure PS(p:bQ):Prop where
 lines:p.lines.length<=500
 line:∀l∈p.lines,l.length<=500
 iJ:p.iJ.length<=500
 eV:p.eV.length<=500
 threads:p.threads.length<=500
 recover:p.recover.length<=500
 ef:p.ef.length<=500
 dJ:∀t∈p.threads++p.recover,t.dJ.length<=500
 body:∀t∈p.threads++p.recover,t.body.length<=500
theorem cM{ls:List (List bO)}(h:∀l∈ls,l.length<=500):ls.flatten.length<=500*ls.length:=by
 induction ls with
 | nil=>simp
 | cons a ls u=>
  grind
def rh{p:bQ}(h:PS p):(jb p).length<=250500:=by
 have h1:=cM h.line
 have h2:=h.lines
 have h3:=h.iJ
 grind[jb]
theorem nn{α β:Type}{f:α->β}{l:List α}{k:Nat}{e:α}(h:l[k]?=some e):(l.take k).map f++[f e]=(l.take (k+1)).map f:=by rw[<- gm h,rn];rfl
def kids(k:Int):Int:=if k=1\/k=2 then 0 else if k=3\/k=4 then 1 else if 5<=k/\k<=15 then 2 else -1
def ri(k:Int) : -1<=kids k/\kids k<=2:=by
 grind[kids]
def fa(c:Int):Bool:=decide (97<=c/\c<=122\/c=95)
def gZ(c:Int):Bool:=decide (48<=c/\c<=57)
def gv:List ByteArray:=[⟨#[108,105,110,101]⟩,⟨#[118,111,108]⟩,⟨#[108,111,99,107]⟩,⟨#[116,104,114,101,97,100]⟩,⟨#[114,101,103]⟩,⟨#[108,111,97,100]⟩,⟨#[115,116,111,114,101]⟩,⟨#[99,97,115]⟩,⟨#[102,108,117,115,104]⟩,⟨#[111,112,116]⟩,⟨#[115,102,101,110,99,101]⟩,⟨#[109,102,101,110,99,101]⟩,⟨#[116,97,107,101]⟩,⟨#[103,105,118,101]⟩,⟨#[105,102]⟩,⟨#[101,108,115,101]⟩,⟨#[108,111,111,112]⟩,⟨#[98,114,101,97,107]⟩,⟨#[99,104,101,99,107]⟩,⟨#[114,101,99,111,118,101,114]⟩,⟨#[97,108,119,97,121,115]⟩]
def fw(s:ByteArray):Bool:=!(decide (s.size<1\/16<s.size)||(match (fK s)[0]? with|some c=>!fa c.toNat|none=>true)||gv.any λy=>decide (y=s))&&!(fK s).any (λc=>!fa c.toNat&&!gZ c.toNat)
def skip:Nat->List bI->Option (List bI)
 | 0,l=>some l
 | _+1,[]=>none
 | n+1,x::l=>if kids x.op<0 then none else skip (n+(kids x.op).toNat) l
theorem td(l:List bI):skip 0 l=some l:=by cases l<;>rfl
theorem yJ(l:List bI):∀a b,skip (a+b) l=(skip a l).bind (skip b):=by
 induction l with
 | nil=>
  intro a b
  cases a with
  | zero=>rw[o6,td];rfl
  | succ a=>grind[skip]
 | cons x l u=>
  intro a b
  cases a with
  | zero=>rw[o6,td];rfl
  | succ a=>
   grind[skip]
theorem yK(l:List bI):∀n r,skip n l=some r->r=l.drop (l.length-r.length)/\r.length+min n 1<=l.length:=by
 induction l with
 | nil=>
  intro n r h
  cases n with
  | zero=>rw[td]at h;grind
  | succ n=>cases h
 | cons x l u=>
  intro n r h
  cases n with
  | zero=>rw[td]at h;simp_all
  | succ n=>
   have h:(if kids x.op<0 then none else skip (n+(kids x.op).toNat) l)=some r:=h
   split at h
   .cases h
   .obtain⟨h1,h2⟩:=u _ _ h
    refine⟨?_,cR⟩
    rw[show(x::l).length-r.length=(l.length-r.length)+1 from cR]
    exact h1
def xo(n:Nat)(o:Option (List bI)):Int:=match o with|some r=>(n:Int)-r.length|none=>-1
def mN(xs:List bI)(i:Int):Int:=if i<0 then -1 else xo xs.length (skip 1 (xs.drop i.toNat))
def Nt{xs:List bI}{i:Int}{x:bI}(I:0<=i)(E:xs[i.toNat]?=some x)(G:0<=kids x.op):mN xs i=xo xs.length (skip (kids x.op).toNat (xs.drop (i.toNat+1))):=by
 unfold mN
 obtain⟨B,u⟩:=j0.1 E
 rw[fg bP,pd B,u]
 show xo _ (if kids x.op<0 then none else skip (0+(kids x.op).toNat) _)=_
 grind
theorem R3{xs:List bI}{i:Int}{x:bI}(I:0<=i)(E:xs[i.toNat]?=some x)(G:kids x.op<0):mN xs i = -1:=by
 unfold mN
 obtain⟨B,u⟩:=j0.1 E
 rw[fg bP,pd B,u]
 grind[xo,skip]
theorem R4{xs:List bI}{i:Int}(h:i<0\/xs.length<=i):mN xs i = -1:=by
 unfold mN
 split
 .rfl
 rw[ot bP];rfl
theorem aaZ{xs:List bI}{j k:Nat}{a:Int}(h:xo xs.length (skip k (xs.drop j))=a)(B:0<=a):mN xs a=xo xs.length (skip (k+1) (xs.drop j))/\((j:Int)<=a\/xs.length<=a):=by
 cases hs:skip k (xs.drop j)with
 | none=>rw[hs]at h;unfold xo at h;simp only[]at h;omega
 | some r=>
  rw[hs]at h
  have h:(xs.length:Int)-r.length=a:=h
  obtain⟨h1,h2⟩:=yK _ _ _ hs
  rw[oC]at h1 h2
  rw[yJ,hs]
  show _=xo _ (skip 1 r)/\_
  refine⟨?_,bP⟩
  unfold mN
  rw[fg bP]
  by_cases u:j<=xs.length
  .have:xs.drop a.toNat=r:=by
    rw[h1,q9,show j+(xs.length-j-r.length)=a.toNat from bP]
   rw[this]
  .have:r=[]:=pP.1 bP
   subst this
   rw[ot (by simp at h;omega)]
theorem Wk{xs l:List bI}{k j:Nat}(B:l.length<=xs.length)(h:¬ 0<=xo xs.length (skip k l))(u:k<=j):xo xs.length (skip k l)=xo xs.length (skip j l):=by
 cases hs:skip k l with
 | none=>rw[show j=k+(j-k)from bP,yJ,hs];rfl
 | some r=>
  obtain⟨_,h2⟩:=yK _ _ _ hs
  rw[hs]at h;unfold xo at h;simp only[]at h;omega
theorem agZ{xs l:List bI}{k:Nat}(u:l.length<=xs.length) : -1<=xo xs.length (skip k l)/\xo xs.length (skip k l)<=xs.length:=by
 cases hs:skip k l with
 | none=>unfold xo;simp only[];omega
 | some r=>
  obtain⟨_,h2⟩:=yK _ _ _ hs
  unfold xo;simp only[];omega
def C342(k:Int)(w:World):CR 342 [hZ k] w (λv w'=>v=hZ (kids k)/\Ext w w'):=by
 have E:=St.start w;refine eR Tryz.func342 ?_;refine⟨λu w'=>u=.bool (decide (k=1\/k=2))/\w=w',aG (aC (λ_=>⟨FD bP,rfl⟩) λ_=>aG ⟨xh bP,rfl⟩),?_⟩;rintro _ _ ⟨rfl,B⟩ _;subst B;refine aC (λJ=>?_) (λJ=>⟨λu w'=>u=.bool (decide (k=3\/k=4))/\w=w',aG (aC (λ_=>⟨FD bP,rfl⟩) λ_=>aG ⟨xh bP,rfl⟩),?_⟩)
 .unfold kids;exact⟨gl (mf .i64) cR,E.aF⟩
 rintro _ _ ⟨rfl,B⟩ _;subst B;refine aC (λG=>?_) (λG=>⟨λu w'=>u=.bool (decide (5<=k/\k<=15))/\w=w',cJ (aC (λ_=>gL ⟨xh bP,rfl⟩) λ_=>⟨QY bP,rfl⟩),?_⟩)
 .unfold kids;exact⟨gl (mf .i64) cR,E.aF⟩
 rintro _ _ ⟨rfl,B⟩ _;subst B;refine aC (λI=>?_) (λI=>?_)
 .unfold kids;exact⟨gl (mf .i64) cR,E.aF⟩
 unfold kids;exact⟨gl (mf .i64) cR,E.aF⟩
def C193(c:Int)(w:World):CR 193 [.int .u8 c] w (λv w'=>v=.bool (fa c)/\Ext w w'):=by
 have B:=St.start w;refine eR Tryz.func193 ?_;refine⟨λu w'=>u=.bool (decide (97<=c/\c<=122\/c=95))/\w=w',uF (aC (λ_=>uE (aC (λ_=>⟨FD bP,rfl⟩) λ_=>kR ⟨xh bP,rfl⟩)) λ_=>kR ⟨xh bP,rfl⟩),?_⟩;rintro _ _ ⟨rfl,E⟩ _;subst E;exact⟨rfl,B.aF⟩
def C194(c:Int)(w:World):CR 194 [.int .u8 c] w (λv w'=>v=.bool (gZ c)/\Ext w w'):=by
 have B:=St.start w;refine eR Tryz.func194 ?_;refine⟨λu w'=>u=.bool (decide (48<=c/\c<=57))/\w=w',uF (aC (λ_=>uE ⟨xh bP,rfl⟩) λ_=>⟨QY bP,rfl⟩),?_⟩;rintro _ _ ⟨rfl,E⟩ _;subst E;exact⟨rfl,B.aF⟩
def C284(s:ByteArray)(w:World):CR 284 [.string s] w (λv w'=>v=.bool (gv.any λy=>decide (y=s))/\Ext w w'):=by
 have u:=St.start w;refine eR Tryz.func284 ?_;refine bK gv u iN rfl rfl (dQ rfl) (λO I u=>?_);refine⟨λm x I=>∃k:Nat,x=hZ (k:Int)/\m=gv.length-k/\k<=gv.length/\(∀y∈gv.take k,decide (y=s)=false)/\St w bF [bH O gv] I,⟨_,0,rfl,rfl,mj _,ew,u⟩,?_⟩;rintro m _ _ ⟨k,rfl,rfl,V,B,u⟩ _;have U:gv.length=21:=rfl;refine aI iN u.eS (aQ (aC (λM=>?_) λM=>?_))
 .skip;obtain⟨W,E⟩:=gx gv (i:=(k:Int).toNat) bP;exact ed u iN bP bP (λ_ J=>gM u jZ J E (fz (aC (λG=>⟨vb (nj E (fY G)).symm,u.aF⟩) λG=>aM bP ⟨_,bP,k+1,rfl,rfl,bP,eC B E (fZ G),u⟩)))
 rw[kO bP]at B;exact⟨vb (nk B).symm,u.aF⟩
def C198(s:ByteArray)(w:World)(Z:s.size<=1048576):CR 198 [.string s] w (λv w'=>v=.bool (fw s)/\Ext w w'):=by
 have u:=St.start w;refine eR Tryz.func198 ?_;refine⟨λM w'=>M=.bool (decide (s.size<1\/16<s.size)||(match (fK s)[0]? with|some c=>!fa c.toNat|none=>true)||gv.any λy=>decide (y=s))/\St w bF [] w',eP gN (aQ (aC (λ_=>⟨vb cR,u⟩) λnR=>eP gN (dL (aC (λ_=>⟨vb cR,u⟩) λgD=>?_)))),?_⟩
 .obtain⟨iR,V⟩:∃G,(fK s)[(0:Int).toNat]?=some G:=⟨_,kB (by rw[dY];omega)⟩;exact gR gN bP V (aR Ig u (C193 _ _) λ_ _ u=>bJ (bD (λ_=>⟨vb cR,u⟩) λ_=>aR aan u (C284 _ _) λ_ _ u=>⟨vb cR,u⟩))
 rintro _ _ ⟨rfl,u⟩ _;refine bD (λJ=>?_) (λJ=>?_)
 .refine⟨vb ?_,u.aF⟩;unfold fw;rw[J];rfl
 refine⟨λm x W=>∃k:Nat,x=hZ (k:Int)/\m=(fK s).length-k/\k<=(fK s).length/\(∀y∈(fK s).take k,(!fa y.toNat&&!gZ y.toNat)=false)/\St w bF [] W,⟨_,0,rfl,rfl,mj _,ew,u⟩,?_⟩;rintro m _ _ ⟨k,rfl,rfl,U,E,u⟩ _;rw[dY]at U;have L4:=dY s;refine eP gN (aQ (aC (λY=>?_) λY=>?_))
 .obtain⟨O,B⟩:∃G,(fK s)[(k:Int).toNat]?=some G:=⟨_,kB (by rw[dY];omega)⟩;refine⟨λM w'=>M=.bool (!fa O.toNat&&!gZ O.toNat)/\St w bF [] w',gR gN bP B (aR Ig u (C193 _ _) λ_ _ u=>bJ (bD (λ_=>gR gN bP B (aR Ih u (C194 _ _) λ_ _ u=>bJ ⟨vb cR,u⟩)) λ_=>⟨vb cR,u⟩)),?_⟩;rintro _ _ ⟨rfl,u⟩ _;refine bD (λI=>?_) (λI=>aM bP ⟨_,bP,k+1,rfl,rfl,bP,eC E B (by simpa using I),u⟩);refine⟨vb ?_,u.aF⟩;unfold fw;rw[nj B I];simp
 rw[kO bP]at E;refine⟨vb ?_,u.aF⟩;unfold fw;rw[nk E]
 revert J
 cases (decide (s.size<1\/16<s.size)||(match (fK s)[0]? with|some c=>!fa c.toNat|none=>true)||gv.any λy=>decide (y=s))<;>simp
theorem C343(lv:Value)(xs:List bI)(i:Int)(N:Nat)(w:World)(E:dy (λ_=>True) w lv xs)(M:xs.length<=1048576)(hi : -9223372036854775808<=i)(hN:(xs.length:Int)-i<N):CR 343 [lv,hZ i] w (λv w'=>v=hZ (mN xs i)/\Ext w w'):=by
 have u:=St.start w;refine eR Tryz.func343 ?_;refine⟨λG w'=>G=.bool (decide (i<0\/(xs.length:Int)<=i)||(match xs[i.toNat]? with|some x=>decide (kids x.op<0)|none=>true))/\St w bF [] w',aQ (aC (λ_=>⟨vb cR,u⟩) λeQ=>aI ju (E.ext u.aF) (cJ (aC (λ_=>⟨vb cR,u⟩) λuL=>?_))),?_⟩
 .obtain⟨yL,j7⟩:=gx xs (i:=(i).toNat) bP;exact aY ju (E.ext u.aF) bP j7 (λ_ O=>cU yL.op im O rfl rfl λ_ U=>aE bL U (aR MG u (C342 _ _) λ_ _ u=>aQ ⟨vb cR,u⟩))
 rintro _ _ ⟨rfl,u⟩ _;refine bD (λ_=>⟨gl (mf .i64) (by grind[R4,R3]),u.aF⟩) (λpg=>?_);have Z:¬ (i<0\/(xs.length:Int)<=i):=cR
 obtain⟨B,I⟩:=gx xs (i:=(i).toNat) bP;have Y:0<=kids B.op:=cR
 have Wl:=ri B.op;have Q1:=Nt bP I Y;refine aM bP ?_;refine⟨λm y x w1=>∃(k:Nat) (a:Int),x=hZ (k:Int)/\y=hZ a/\m=(kids B.op).toNat-k/\k<=(kids B.op).toNat/\xo xs.length (skip k (xs.drop (i.toNat+1)))=a/\St w bF [] w1,⟨_,0,i+1,rfl,rfl,rfl,bP,by rw[td];unfold xo;simp only[oC];omega,u⟩,?_⟩;rintro m _ _ _ ⟨k,a,rfl,rfl,rfl,hk,J,u⟩ _;have Wm:=agZ (xs:=xs) (l:=xs.drop (i.toNat+1)) (k:=k) (by rw[oC];omega);rw[J]at Wm;refine⟨λG w'=>G=.bool (decide ((k:Int)<kids B.op/\0<=a))/\St w bF [] w',aY ju (E.ext u.aF) bP I (λ_ V=>cU B.op im V rfl rfl λ_ uN=>aE bL uN (aR MG u (C342 _ _) λ_ _ u=>aQ (aC (λ_=>cJ ⟨vb cR,u⟩) λ_=>⟨vb cR,u⟩))),?_⟩
 rintro _ _ ⟨rfl,u⟩ _;refine aC (λuO=>?_) (λ_=>⟨gl (mf .i64) (by have:=Wk (xs:=xs) (l:=xs.drop (i.toNat+1)) (k:=k) (j:=(kids B.op).toNat) (by rw[oC];omega);rw[Q1];by_cases h0:0<=a<;>grind),u.aF⟩);have W:=aaZ J bP;exact aR Ux u (C343 _ _ _ (N-1) _ (E.ext u.aF) M bP bP) (λ_ _ u=>aM bP ⟨_,bP,k+1,_,rfl,rfl,rfl,bP,W.1.symm,u⟩)
termination_by N
decreasing_by omega
inductive Ex where
 | leaf (x:bI)
 | un (x:bI) (a:Ex)
 | bin (x:bI) (a b:Ex)
namespace Ex
def root:Ex->bI|leaf x=>x|un x _=>x|bin x _ _=>x
def dR:Ex->List Ex|leaf _=>[]|un _ a=>[a]|bin _ a b=>[a,b]
def flat:Ex->List bI|leaf x=>[x]|un x a=>x::a.flat|bin x a b=>x::(a.flat++b.flat)
def wf:Ex->Prop|leaf x=>kids x.op=0|un x a=>kids x.op=1/\a.wf|bin x a b=>kids x.op=2/\a.wf/\b.wf
def depth:Ex->Int|leaf _=>1|un _ a=>a.depth+1|bin _ a b=>max a.depth b.depth+1
def size:Ex->Nat|leaf _=>1|un _ a=>a.size+1|bin _ a b=>a.size+b.size+1
def numOf(ns:List ByteArray)(x:bI):Int:=if x.op=2 then cT ns x.name else x.n
def steps(ns:List ByteArray):Ex->List mM
 | leaf x=>[⟨x.op,numOf ns x⟩]
 | un x a=>a.steps ns++[⟨x.op,numOf ns x⟩]
 | bin x a b=>a.steps ns++b.steps ns++[⟨x.op,numOf ns x⟩]
end Ex
theorem Ex.cM(t:Ex):t.flat.length=t.size:=by
 induction t with
 | leaf x=>rfl
 | un x a u=>simp[Ex.flat,Ex.size,u]
 | bin x a b B E=>simp[Ex.flat,Ex.size,B,E]
theorem Ex.AM(t:Ex):t.flat=t.root::(t.dR.map Ex.flat).flatten:=by
 cases t<;>simp[Ex.flat,Ex.root,Ex.dR]
theorem Ex.uP{t:Ex}(h:t.wf):kids t.root.op=t.dR.length:=by
 cases t with
 | leaf x=>exact h
 | un x a=>exact h.1
 | bin x a b=>exact h.1
theorem Ex.te{t a:Ex}(h:t.wf)(u:a∈t.dR):a.wf/\a.size<t.size:=by
 cases t with
 | leaf x=>cases u
 | un x b=>rw[rC.1 u];exact⟨h.2,by simp[Ex.size]⟩
 | bin x b c=>
  rcases oR.1 u with rfl|u
  .grind[wf,size]
  grind[wf,size]
theorem Ex.oa(t:Ex):1<=t.depth/\t.depth<=t.size:=by
 induction t with
 | leaf x=>simp[Ex.depth,Ex.size]
 | un x a u=>simp only[Ex.depth,Ex.size];omega
 | bin x a b B E=>simp only[Ex.depth,Ex.size];omega
theorem Ex.sf(ns:List ByteArray)(t:Ex):(t.steps ns).length=t.size:=by
 induction t with
 | leaf x=>rfl
 | un x a u=>simp[Ex.steps,Ex.size,u]
 | bin x a b B E=>grind[steps,size]
theorem KD(t:Ex)(h:t.wf):∀n r,skip (n+1) (t.flat++r)=skip n r:=by
 induction t with
 | leaf x=>
  intro n r
  show(if kids x.op<0 then none else skip (n+(kids x.op).toNat) r)=_
  rw[show kids x.op=0 from h];rfl
 | un x a u=>
  intro n r
  show(if kids x.op<0 then none else skip (n+(kids x.op).toNat) (a.flat++r))=_
  rw[show kids x.op=1 from h.1,fg bP];exact u h.2 n r
 | bin x a b B E=>
  intro n r
  show(if kids x.op<0 then none else skip (n+(kids x.op).toNat) (a.flat++b.flat++r))=_
  rw[show kids x.op=2 from h.1,fg bP,mu]
  show skip (n+1+1) _=_
  rw[B h.2.1 (n+1),E h.2.2 n]
theorem IJ:∀(k:Nat) (l r:List bI),l.length<=k->skip 1 l=some r->∃t:Ex,t.wf/\l=t.flat++r
 | k,[],r,_,h=>by cases h
 | 0,x::l,r,u,_=>by simp at u
 | k+1,x::l,r,u,h=>by
  have u:l.length<=k:=cR
  have h:(if kids x.op<0 then none else skip (0+(kids x.op).toNat) l)=some r:=h
  have hb:=ri x.op
  split at h
  .cases h
  .rcases(show kids x.op=0\/kids x.op=1\/kids x.op=2 by omega)with h0|h0|h0
   .rw[h0]at h
    have h:skip 0 l=some r:=h
    rw[td]at h;cases h
    exact⟨.leaf x,h0,rfl⟩
   .rw[h0]at h
    obtain⟨a,E,rfl⟩:=IJ k l r u h
    exact⟨.un x a,⟨h0,E⟩,rfl⟩
   .rw[h0]at h
    have h:skip (1+1) l=some r:=h
    rw[yJ]at h
    obtain⟨m,h1,h2⟩:=HY.1 h
    obtain⟨a,E,rfl⟩:=IJ k l m u h1
    obtain⟨b,B,rfl⟩:=IJ k m r cR h2
    exact⟨.bin x a b,⟨h0,E,B⟩,by simp[Ex.flat]⟩
def AN(xs:List bI)(i:Int)(t:Ex):Prop:=0<=i/\t.wf/\∃r,xs.drop i.toNat=t.flat++r
def AN.root{xs:List bI}{i:Int}{t:Ex}(h:AN xs i t):xs[i.toNat]?=some t.root/\i<xs.length:=by
 obtain⟨u,_,r,h⟩:=h
 have:(xs.drop i.toNat)[0]?=some t.root:=by rw[h,Ex.AM];rfl
 rw[Dk,Ii]at this
 exact⟨this,by have:=(j0.1 this).1;omega⟩
def AN.end{xs:List bI}{i:Int}{t:Ex}(h:AN xs i t):mN xs i=i+t.size/\i+t.size<=xs.length:=by
 have E:=h.root.2
 obtain⟨G,u,r,h⟩:=h
 have B:=gl List.length h
 rw[oC,kE,Ex.cM]at B
 refine⟨?_,bP⟩
 unfold mN
 rw[fg bP,h,KD t u 0 r,td]
 unfold xo;grind
theorem AN.of{xs:List bI}{i:Int}(h:0<=mN xs i):∃t,AN xs i t:=by
 unfold mN at h
 split at h
 .omega
 cases hs:skip 1 (xs.drop i.toNat)with
 | none=>rw[hs]at h;unfold xo at h;simp only[]at h;omega
 | some r=>
  obtain⟨t,B,u⟩:=IJ _ _ r (om _) hs
  exact⟨t,bP,B,r,u⟩
def ph(ks:List Ex)(k:Nat):Nat:=((ks.take k).map Ex.size).sum
theorem vP{ks:List Ex}{k:Nat}{a:Ex}(h:ks[k]?=some a):ph ks (k+1)=ph ks k+a.size:=by
 unfold ph;rw[<- gm h];simp
def AN.kid{xs:List bI}{i:Int}{t a:Ex}{k:Nat}(h:AN xs i t)(u:t.dR[k]?=some a):AN xs (i+1+ph t.dR k) a:=by
 obtain⟨M,G,r,h⟩:=h
 refine⟨bP,(Ex.te G (l0 u)).1,?_⟩
 have B:t.dR=t.dR.take k++a::t.dR.drop (k+1):=by
  obtain⟨J,E⟩:=j0.1 u
  rw[<- E,List.getElem_cons_drop,ob]
 have I:(((t.dR.take k).map Ex.flat).flatten).length=ph t.dR k:=by
  unfold ph
  rw[P0,CU]
  congr 2
  exact funext λx=>Ex.cM x
 have h2:xs.drop (i.toNat+1)=((t.dR.take k).map Ex.flat).flatten++(a.flat++(((t.dR.drop (k+1)).map Ex.flat).flatten++r)):=by
  rw[<- q9,h,Ex.AM t]
  show(t.dR.map Ex.flat).flatten++r=_
  conv=>lhs;rw[B]
  simp
 refine⟨((t.dR.drop (k+1)).map Ex.flat).flatten++r,?_⟩
 rw[show(i+1+(ph t.dR k:Int)).toNat=i.toNat+1+ph t.dR k from bP,<- q9,h2,<- I,zD]
def xp(ks:List Ex)(k:Nat):Int:=((ks.take k).map Ex.depth).foldl max 0
theorem vQ{ks:List Ex}{k:Nat}{a:Ex}(h:ks[k]?=some a):xp ks (k+1)=max (xp ks k) a.depth:=by
 unfold xp;rw[<- gm h,rn,x6];rfl
theorem Gw{ks:List Ex}{N:Int}(u:0<=N)(h:∀a∈ks,a.depth<=N):∀k,0<=xp ks k/\xp ks k<=N
 | 0=>by simp[xp,u]
 | k+1=>by
  have B:=Gw u h k
  cases hx:ks[k]? with
  | none=>
   have e:ks.take (k+1)=ks.take k:=by rw[tx,hx];simp
   unfold xp at *;grind
  | some a=>rw[vQ hx];grind
theorem Ex.D6(t:Ex):t.depth=xp t.dR t.dR.length+1:=by
 cases t with
 | leaf x=>rfl
 | un x a=>have:=a.oa;grind[depth,xp,dR]
 | bin x a b=>have:=a.oa;grind[depth,xp,dR]
def R6(ns:List ByteArray)(ks:List Ex)(k:Nat):List mM:=((ks.take k).map (Ex.steps ns)).flatten
theorem Nx{ns:List ByteArray}{ks:List Ex}{k:Nat}{a:Ex}(h:ks[k]?=some a):R6 ns ks (k+1)=R6 ns ks k++a.steps ns:=by
 unfold R6;rw[<- gm h];simp
def IK{ns:List ByteArray}{ks:List Ex}{k:Nat}:(R6 ns ks k).length=ph ks k:=by
 unfold R6 ph
 rw[P0,CU]
 congr 2
 exact funext λx=>Ex.sf ns x
theorem Ex.yM(ns:List ByteArray)(t:Ex):t.steps ns=R6 ns t.dR t.dR.length++[⟨t.root.op,Ex.numOf ns t.root⟩]:=by
 cases t<;>simp[Ex.steps,Ex.dR,R6,Ex.root]
def pt:Nat->List bI->Option (Ex×List bI)
 | 0,_=>none
 | _+1,[]=>none
 | n+1,x::l=>
  if kids x.op=0 then some (.leaf x,l)else if kids x.op=1 then(match pt n l with|some p=>some (.un x p.1,p.2)|none=>none)
  else if kids x.op=2 then(match pt n l with|some p=>(match pt n p.2 with|some q=>some (.bin x p.1 q.1,q.2)|none=>none)|none=>none)else none
theorem R7(t:Ex)(h:t.wf):∀n r,t.size<=n->pt n (t.flat++r)=some (t,r):=by
 induction t with
 | leaf x=>
  intro n r u
  cases n with
  | zero=>simp[Ex.size]at u
  | succ n=>show(if kids x.op=0 then _ else _)=_;rw[fh (show kids x.op=0 from h)];rfl
 | un x a E=>
  intro n r u
  cases n with
  | zero=>simp[Ex.size]at u
  | succ n=>
   have h1:kids x.op=1:=h.1
   show(if kids x.op=0 then _ else if kids x.op=1 then(match pt n (a.flat++r)with|some p=>some (Ex.un x p.1,p.2)|none=>none)else _)=_
   rw[fg bP,fh h1,E h.2 n r (by simp[Ex.size]at u;omega)]
 | bin x a b G B=>
  intro n r u
  cases n with
  | zero=>simp[Ex.size]at u
  | succ n=>
   have h1:kids x.op=2:=h.1
   show(if kids x.op=0 then _ else if kids x.op=1 then _ else if kids x.op=2 then(match pt n (a.flat++b.flat++r)with|some p=>(match pt n p.2 with|some q=>some (Ex.bin x p.1 q.1,q.2)|none=>none)|none=>none)else _)=_
   rw[fg bP,fg bP,fh h1,mu,G h.2.1 n _ (by simp[Ex.size]at u;omega)]
   simp only[]
   rw[B h.2.2 n _ (by simp[Ex.size]at u;omega)]
def tf(l:List bI):Option Ex:=match pt l.length l with|some p=>if p.2=[]then some p.1 else none|none=>none
def KE{t:Ex}(h:t.wf):tf t.flat=some t:=by
 unfold tf
 have:=R7 t h t.flat.length [] (by rw[Ex.cM];omega)
 grind
def AN.zero{l:List bI}{t:Ex}(h:AN l 0 t)(E:mN l 0=l.length):l=t.flat/\tf l=some t:=by
 have h1:=h.end
 obtain⟨_,B,r,h⟩:=h
 have u:=gl List.length h
 rw[kE,Ex.cM]at u
 simp at u
 have:r=[]:=pP.1 bP
 subst this
 have h:l=t.flat:=cR
 exact⟨h,by rw[h];exact KE B⟩
theorem uQ:∀n l t r,pt n l=some (t,r)->t.wf/\l=t.flat++r
 | 0,l,t,r,h=>by cases h
 | n+1,[],t,r,h=>by cases h
 | n+1,x::l,t,r,h=>by
  have h:(if kids x.op=0 then some (Ex.leaf x,l)else if kids x.op=1 then(match pt n l with|some p=>some (Ex.un x p.1,p.2)|none=>none)
   else if kids x.op=2 then(match pt n l with|some p=>(match pt n p.2 with|some q=>some (Ex.bin x p.1 q.1,q.2)|none=>none)|none=>none)else none)=some (t,r):=h
  split at h
  .rename_i hk;cases h;exact⟨hk,rfl⟩
  .split at h
   .rename_i hk
    cases ha:pt n l with
    | none=>grind
    | some p=>
     rw[ha]at h
     obtain⟨a,m⟩:=p
     cases h
     obtain⟨h1,rfl⟩:=uQ n l a _ ha
     exact⟨⟨hk,h1⟩,rfl⟩
   .split at h
    .rename_i hk
     cases ha:pt n l with
     | none=>grind
     | some p=>
      rw[ha]at h
      obtain⟨a,m⟩:=p
      simp only[]at h
      cases hb:pt n m with
      | none=>grind
      | some q=>
       rw[hb]at h
       obtain⟨b,u⟩:=q
       cases h
       obtain⟨h1,rfl⟩:=uQ n l a _ ha
       obtain⟨h2,rfl⟩:=uQ n m b _ hb
       exact⟨⟨hk,h1,h2⟩,by simp[Ex.flat]⟩
    .cases h
theorem tg{l:List bI}{t:Ex}(h:tf l=some t):t.wf/\l=t.flat:=by
 unfold tf at h
 cases hp:pt l.length l with
 | none=>grind
 | some p=>
  rw[hp]at h
  obtain⟨a,r⟩:=p
  simp only[]at h
  split at h
  .rename_i hr;cases h
   obtain⟨h1,h2⟩:=uQ _ _ _ _ hp
   grind
  .cases h
theorem D7{l:List bI}:(tf l).isSome=decide (mN l 0=l.length):=by
 by_cases h:mN l 0=l.length
 .obtain⟨t,ht⟩:=AN.of (xs:=l) (i:=0) bP
  rw[(ht.zero h).2,fY h];rfl
 rw[fZ h]
 cases he:tf l with
 | none=>rfl
 | some t=>
  obtain⟨h1,rfl⟩:=tg he
  exact absurd (by have:=(show AN t.flat 0 t from⟨bP,h1,[],ew⟩).end.1;rw[this,Ex.cM];omega) h
def xq(x:bI):Bool:=decide (x.at_<0\/4000<x.at_)||decide (¬ x.op=1/\¬ x.n=0)||decide (¬ x.op=2/\¬ x.name=⟨#[]⟩)||decide (x.n<0\/4294967296<x.n)||(decide (x.op=2)&&!fw x.name)
def Ny(l:List bI):Int:=match tf l with|some t=>t.depth|none=>0
def fJ(l:List bI):Bool:=decide (l.length<=40)&&(tf l).isSome&&!l.any xq&&decide (Ny l<=12)
def Gx(ns:List ByteArray)(l:List bI):List mM:=match tf l with|some t=>t.steps ns|none=>[]
def ql(ns:List ByteArray)(l:List bI):Int:=if fJ l=false then 8 else if l.any (λx=>decide (x.op=2)&&decide (cT ns x.name<0))then 9 else 0
def yN(ns:List ByteArray)(l:List bI):List mM:=if ql ns l=0 then Gx ns l else []
def Gy{l:List bI}(h:fJ l=true):mN l 0=l.length:=by
 unfold fJ at h
 rw[D7]at h
 grind
theorem C288(lv:Value)(xs:List bI)(i:Int)(t:Ex)(N:Nat)(w:World)(G:dy (λ_=>True) w lv xs)(U:xs.length<=1048576)(B:AN xs i t)(hN:t.size<N):CR 288 [lv,hZ i] w (λv w'=>v=hZ t.depth/\Ext w w'):=by
 obtain⟨J,hq,V⟩:∃e,e=t.root/\xs[(i).toNat]?=some e:=⟨_,rfl,B.root.1⟩;have ZL:=B.root.2;have W:=B.end;have Y:=Ex.uP B.2.1;rw[<- hq]at Y;have Wl:=ri J.op;have UR:=B.1;have u:=St.start w;refine Ry _ _ _ _ ?_;unfold S288;refine aM bP ?_;refine⟨λm n a x I=>∃k:Nat,n=hZ (xp t.dR k)/\a=hZ (i+1+ph t.dR k)/\x=hZ (k:Int)/\m=t.dR.length-k/\k<=t.dR.length/\St w bF [] I,⟨_,0,rfl,gl (mf .i64) (by simp[ph]),rfl,rfl,bP,u⟩,?_⟩;rintro m _ _ _ I ⟨k,rfl,rfl,rfl,rfl,hk,u⟩ _;have hdk:=Gw (ks:=t.dR) (N:=(t.size:Int)) bP (λa Z=>by have:=(Ex.te B.2.1 Z).2;have:=a.oa;omega) k
 refine aY ju (G.ext u.aF) bP V (λ_ D2=>cU J.op im D2 rfl rfl λ_ O=>aE bL O (aR MG u (C342 _ _) λ_ he u=>aQ (aC (λuK=>?_) λ_=>aM bP ⟨gl (mf .i64) (by rw[t.D6,show k=t.dR.length from bP]),u.aF⟩)));obtain⟨a,E⟩:=gx t.dR (i:=k) bP;have hka:=Ex.te B.2.1 (l0 E);have M:=B.kid E;have Wn:=M.end;have Zn:=a.oa;exact aR Uu u (C288 _ _ _ _ (N-1) _ (G.ext u.aF) U M bP) (λ_ _ u=>xN (aR Ux u (C343 _ _ _ (xs.length+1) _ (G.ext u.aF) bP bP bP) λ_ _ u=>aM bP ⟨_,bP,k+1,by rw[vQ E],gl (mf .i64) (by rw[Wn.1,vP E];omega),rfl,rfl,bP,u⟩))
termination_by N
decreasing_by omega
inductive Bk where
 | nil
 | cons (x:aZ) (a b r:Bk)
namespace Bk
def flat:Bk->List aZ|nil=>[]|cons x a b r=>x::(a.flat++(b.flat++r.flat))
def len:Bk->Nat|nil=>0|cons _ a b r=>a.len+b.len+r.len+1
def str:Bk->Prop|nil=>True|cons x a b r=>x.body=a.len/\x.eG=b.len/\a.len<=40/\b.len<=40/\a.str/\b.str/\r.str
def IL(x:aZ)(loops:Int):Int:=if x.kind=12 then loops+1 else loops
def vR(x:aZ):Bool:=decide (x.kind=11\/x.kind=12)
def FH(x:aZ)(loops:Int):Bool:=decide ((x.body<=0\/x.kind=11\/x.kind=12)/\(x.eG<=0\/x.kind=11)/\(¬ x.kind=13\/¬ loops=0))
def ok:Bk->Int->Bool|nil,_=>true|cons x a b r,n=>FH x n&&a.ok (IL x n)&&b.ok (IL x n)&&r.ok n
def depth:Bk->Int|nil=>0|cons x a b r=>if vR x then max (max (1+a.depth) (1+b.depth)) r.depth else r.depth
end Bk
theorem Bk.cM(t:Bk):t.flat.length=t.len:=by
 induction t with
 | nil=>rfl
 | cons x a b r B E u=>grind[flat,len]
theorem Bk.uR(t:Bk):0<=t.depth/\t.depth<=t.len:=by
 induction t with
 | nil=>simp[Bk.depth,Bk.len]
 | cons x a b r B E u=>
  grind[depth,len]
def L5:Nat->List aZ->Option Bk
 | _,[]=>some .nil
 | 0,_::_=>none
 | n+1,x::l=>
  if 0<=x.body/\0<=x.eG/\x.body<=40/\x.eG<=40/\x.body+x.eG<=l.length then
   match L5 n (l.take x.body.toNat),L5 n ((l.drop x.body.toNat).take x.eG.toNat),L5 n (l.drop (x.body.toNat+x.eG.toNat))with
   | some a,some b,some r=>some (.cons x a b r)
   | _,_,_=>none
  else none
theorem sg:∀n l t,L5 n l=some t->l=t.flat/\t.str
 | _,[],t,h=>by
  have h:some Bk.nil=some t:=by unfold L5 at h;exact h
  cases h;exact⟨rfl,trivial⟩
 | 0,x::l,t,h=>by cases h
 | n+1,x::l,t,h=>by
  unfold L5 at h
  split at h
  .rename_i hb
   obtain⟨h1,h2,h3,h4,h5⟩:=hb
   cases ha:L5 n (l.take x.body.toNat)with
   | none=>grind
   | some a=>
    cases hb:L5 n ((l.drop x.body.toNat).take x.eG.toNat)with
    | none=>grind
    | some b=>
     cases hr:L5 n (l.drop (x.body.toNat+x.eG.toNat))with
     | none=>grind
     | some r=>
      rw[ha,hb,hr]at h
      cases h
      obtain⟨u,I⟩:=sg n _ _ ha
      obtain⟨b1,b2⟩:=sg n _ _ hb
      obtain⟨E,G⟩:=sg n _ _ hr
      have B:=gl List.length u
      have lb:=gl List.length b1
      rw[Bk.cM,mg]at B
      rw[Bk.cM,mg,oC]at lb
      refine⟨?_,bP,bP,bP,bP,I,b2,G⟩
      unfold Bk.flat
      rw[<- u,<- b1,<- E,<- q9,ob,ob]
  .cases h
theorem Nz(t:Bk):t.str->∀n,t.len<=n->L5 n t.flat=some t:=by
 induction t with
 | nil=>intro _ n _;cases n<;>rfl
 | cons x a b r J G B=>
  intro h n u
  obtain⟨h1,h2,h3,h4,I,hb,E⟩:=h
  cases n with
  | zero=>simp[Bk.len]at u
  | succ n=>
   have u:a.len+b.len+r.len<=n:=by simp[Bk.len]at u;omega
   have M:=a.cM
   have lb:=b.cM
   unfold Bk.flat L5
   rw[fh ⟨bP,bP,bP,bP,cR⟩,show x.body.toNat=a.flat.length from bP,K0,zD,show x.eG.toNat=b.flat.length from bP,K0,<- q9,zD,zD,
    J I n bP,G hb n bP,B E n bP]
def nT(l:List aZ):Option Bk:=L5 l.length l
def j8{l:List aZ}{t:Bk}(h:nT l=some t):l=t.flat/\t.str:=sg _ _ _ h
theorem mU{t:Bk}(h:t.str):nT t.flat=some t:=Nz t h _ (by rw[Bk.cM];omega)
def eY(l:List aZ)(loops:Int):Int:=match nT l with|some t=>if t.ok loops then t.depth else -1|none=>-1
theorem AO(loops:Int):eY [] loops=0:=rfl
theorem uS(l:List aZ)(loops:Int) : -1<=eY l loops/\eY l loops<=l.length:=by
 unfold eY
 cases h:nT l with
 | none=>grind
 | some t=>
  obtain⟨rfl,_⟩:=j8 h
  have:=t.uR
  simp only[Bk.cM]
  omega
def uT(x:aZ)(l:List aZ):Prop:=0<=x.body/\0<=x.eG/\x.body<=40/\x.eG<=40/\x.body+x.eG<=l.length
theorem KF{x:aZ}{l:List aZ}{loops:Int}(h:¬ (uT x l/\Bk.FH x loops=true)):eY (x::l) loops = -1:=by
 unfold eY
 cases hb:nT (x::l)with
 | none=>rfl
 | some t=>
  obtain⟨u,B⟩:=j8 hb
  cases t with
  | nil=>cases u
  | cons y a b r=>
   obtain⟨rfl,rfl⟩:=Wx.inj u
   obtain⟨h1,h2,h3,h4,_⟩:=B
   have:Bk.FH x loops=false:=by
    cases hk:Bk.FH x loops with
    | false=>rfl
    | true=>exact absurd ⟨⟨bP,bP,bP,bP,by simp[Bk.cM];omega⟩,hk⟩ h
   have h:(Bk.cons x a b r).ok loops=false:=by unfold Bk.ok;grind
   grind
theorem yO{x:aZ}{l:List aZ}{loops:Int}(h:uT x l)(V:Bk.FH x loops=true) :
  eY (x::l) loops=(let A:=eY (l.take x.body.toNat) (Bk.IL x loops);let B:=eY ((l.drop x.body.toNat).take x.eG.toNat) (Bk.IL x loops);let R:=eY (l.drop (x.body.toNat+x.eG.toNat)) loops
   if A<0\/B<0\/R<0 then -1 else if Bk.vR x then max (max (1+A) (1+B)) R else R):=by
 obtain⟨h1,h2,h3,h4,h5⟩:=h
 have e:l=l.take x.body.toNat++((l.drop x.body.toNat).take x.eG.toNat++l.drop (x.body.toNat+x.eG.toNat)):=by
  rw[<- q9,ob,ob]
 have Y:(l.take x.body.toNat).length=x.body.toNat:=cR
 have lb:((l.drop x.body.toNat).take x.eG.toNat).length=x.eG.toNat:=by rw[mg,oC];omega
 simp only[]
 have W:∀t,nT (x::l)=some t->∃a b r,t=.cons x a b r/\nT (l.take x.body.toNat)=some a/\nT ((l.drop x.body.toNat).take x.eG.toNat)=some b/\nT (l.drop (x.body.toNat+x.eG.toNat))=some r:=by
  intro t ht
  obtain⟨J,Z⟩:=j8 ht
  cases t with
  | nil=>cases J
  | cons y a b r=>
   obtain⟨rfl,E⟩:=Wx.inj J
   obtain⟨g1,g2,_,_,u,hb,G⟩:=Z
   have I:x.body.toNat=a.flat.length:=by rw[Bk.cM];omega
   have M:x.eG.toNat=b.flat.length:=by rw[Bk.cM];omega
   refine⟨a,b,r,rfl,?_,?_,?_⟩
   .rw[E,I,K0];exact mU u
   .rw[E,I,M,zD,K0];exact mU hb
   .rw[E,<- q9,I,M,zD,zD];exact mU G
 cases u:nT (l.take x.body.toNat)with
 | none=>
  have:nT (x::l)=none:=by
   cases hh:nT (x::l)with
   | none=>rfl
   | some t=>grind
  unfold eY;rw[this,u];simp
 | some a=>
  cases hb:nT ((l.drop x.body.toNat).take x.eG.toNat)with
  | none=>
   have:nT (x::l)=none:=by
    cases hh:nT (x::l)with
    | none=>rfl
    | some t=>grind
   unfold eY;rw[this,hb];simp
  | some b=>
   cases G:nT (l.drop (x.body.toNat+x.eG.toNat))with
   | none=>
    have:nT (x::l)=none:=by
     cases hh:nT (x::l)with
     | none=>rfl
     | some t=>grind
    unfold eY;rw[this,G];simp
   | some r=>
    obtain⟨O,a2⟩:=j8 u
    obtain⟨b1,b2⟩:=j8 hb
    obtain⟨r1,U⟩:=j8 G
    have E:x::l=(Bk.cons x a b r).flat:=by unfold Bk.flat;grind
    rw[O,Bk.cM]at Y
    rw[b1,Bk.cM]at lb
    have:nT (x::l)=some (.cons x a b r):=by rw[E];exact mU ⟨bP,bP,bP,bP,a2,b2,U⟩
    have na:=a.uR
    have nb:=b.uR
    have nr:=r.uR
    unfold eY
    rw[this,u,hb,G]
    simp only[Bk.ok,V,Bool.true_and]
    cases h1:a.ok (Bk.IL x loops)<;>cases h2:b.ok (Bk.IL x loops)<;>cases h3:r.ok loops<;>simp[Bk.depth]
    omega
def rp(n d:Int):Int:=if d<0 then -1 else max n d
def NA{xs l:List aZ}{x:aZ}{loops n:Int}(h:eY xs loops=rp n (eY (x::l) loops))(hb:¬ (uT x l/\Bk.FH x loops=true)):eY xs loops = -1:=by
 rw[h,KF hb];rfl
def Wo{xs l:List aZ}{x:aZ}{loops n:Int}(h:eY xs loops=rp n (eY (x::l) loops))(E:uT x l)(I:Bk.FH x loops=true)(hb:Bk.vR x=true)(A B:Int)
  (G:A=eY (l.take x.body.toNat) (Bk.IL x loops)) (u:B=eY ((l.drop x.body.toNat).take x.eG.toNat) (Bk.IL x loops)) :
  (A<0\/B<0->eY xs loops = -1)/\(¬ (A<0\/B<0)->eY xs loops=rp (max (max n (1+A)) (1+B)) (eY (l.drop (x.body.toNat+x.eG.toNat)) loops)):=by
 have J:=uS (l.drop (x.body.toNat+x.eG.toNat)) loops
 rw[h,yO E I]
 simp only[<- G,<- u,hb,if_true]
 unfold rp
 constructor<;>intro h<;>repeat' split
 all_goals omega
def aa1{xs l:List aZ}{x:aZ}{loops n:Int}(h:eY xs loops=rp n (eY (x::l) loops))(u:uT x l)(B:Bk.FH x loops=true)(hb:Bk.vR x=false) :
  eY xs loops=rp n (eY (l.drop (x.body.toNat+x.eG.toNat)) loops):=by
 have E:x.body=0/\x.eG=0:=by
  unfold Bk.FH at B
  unfold Bk.vR at hb
  obtain⟨h1,h2,_⟩:=u
  grind
 rw[h,yO u B,E.1,E.2]
 have I:l.take (U0 0)=[]:=rfl
 have G:(l.drop (U0 0)).take (U0 0)=[]:=rfl
 simp only[hb,I,G,AO]
 unfold rp
 repeat' split
 all_goals first|omega|simp_all
theorem drop_cons{α:Type}{xs:List α}{k:Nat}{x:α}(h:xs[k]?=some x):xs.drop k=x::xs.drop (k+1):=by
 obtain⟨h1,h2⟩:=j0.1 h
 rw[pd h1,h2]
theorem ti{α:Type}(xs:List α){a b c n:Nat}(h:b=a+n)(hc:c=a):(xs.take b).drop c=(xs.drop a).take n:=by
 subst h hc;rw[List.drop_take,Nat.add_sub_cancel_left]
def Wp:List ByteArray:=[⟨#[]⟩,⟨#[114,101]⟩,⟨#[114,110]⟩,⟨#[110,101]⟩,⟨#[114,110,101,102]⟩,⟨#[110]⟩,⟨#[110]⟩,⟨#[]⟩,⟨#[]⟩,⟨#[110]⟩,⟨#[110]⟩,⟨#[101,98]⟩,⟨#[107,98]⟩,⟨#[]⟩,⟨#[101]⟩]
def eZ(k:Int):ByteArray:=if k<1\/14<k then⟨#[]⟩else Wp.getD k.toNat ⟨#[]⟩
def eg(s:ByteArray)(c:Int):Bool:=(fK s).any λb=>decide ((b.toNat:Int)=c)
def oc(x:aZ):Bool:=
 !(decide (x.kind<1)||decide (14<x.kind)||decide (x.at_<0)||decide (4000<x.at_)) &&
 !((eg (eZ x.kind) 114 != fw x.eO)||(!eg (eZ x.kind) 114&&decide (¬ x.eO=⟨#[]⟩))||(eg (eZ x.kind) 110 != fw x.name)||(!eg (eZ x.kind) 110&&decide (¬ x.name=⟨#[]⟩))) &&
 !((eg (eZ x.kind) 101 != fJ x.e)||(!eg (eZ x.kind) 101&&decide (0<x.e.length))||(eg (eZ x.kind) 102 != fJ x.f)||(!eg (eZ x.kind) 102&&decide (0<x.f.length))) &&
 (if eg (eZ x.kind) 107=true then decide (1<=x.n/\x.n<=8)else decide (x.n=0))
def pQ(l:List aZ):Bool:=decide (l.length<=40)&&!l.any (λx=>!oc x)&&decide (0<=eY l 0/\eY l 0<=12)
def pR(n:Int):Bool:=decide (0<=n/\n<=4000)
def kU(u:Int)(c:bO):Bool:=!fw c.name||decide (c.n<0)||decide (u<c.n)||!pR c.at_
def oH(u:Int)(l:List bO):Bool:=!l.any (kU u)
def B4(nb:Bool)(t:bW):Bool:=(nb != fw t.name)||(!nb&&decide (¬ t.name=⟨#[]⟩))||!pR t.at_||!pQ t.body
def ma(nb:Bool)(t:bW):Bool:=B4 nb t||t.dJ.any (λs=>!fw s)
def uU(nb:Bool)(l:List bW):Bool:=!l.any (ma nb)
def od(l:List bO):Bool:=decide ((l.length:Int)=0)||!oH 4294967296 l
def mc(c:gH):Bool:=!pR c.at_||!fJ c.e
def jI(p:bQ):Bool:=!p.lines.any od&&!p.ef.any mc&&(oH 4294967296 p.iJ&&oH 0 p.eV&&uU true p.threads&&uU false p.recover&&decide (p.recover.length<=1))
def SzS(x:aZ):Prop:=x.eO.size<=1048576/\x.name.size<=1048576/\x.e.length<=1048576/\x.f.length<=1048576/\(∀y∈x.e,y.name.size<=1048576)/\(∀y∈x.f,y.name.size<=1048576)
def Q3(t:bW):Prop:=t.name.size<=1048576/\(∀s∈t.dJ,s.size<=1048576)/\(∀x∈t.body,SzS x)
structure PZ(p:bQ):Prop extends PS p where
 zl:∀l∈p.lines,∀c∈l,c.name.size<=1048576
 zv:∀c∈p.iJ,c.name.size<=1048576
 zk:∀c∈p.eV,c.name.size<=1048576
 zt:∀t∈p.threads,Q3 t
 zr:∀t∈p.recover,Q3 t
 zc:∀c∈p.ef,c.e.length<=1048576/\∀y∈c.e,y.name.size<=1048576
variable (w:World) (K:Value->hU)
def S293(G E:Value):Prop:=
 jA (λB u a=>∀_:Env,
 eF (λI=>lN 9 G λb=>bA .lss 3 u b λc=>cV c (dX hM (oJ 9 G u) λd=>gJ hM E [d] a λe f=>I e f) (I ff a)) (λg h=>∀_:Env,
 cV g (bB .add 3 u (i 1) λj=>B j h) (K u h))) (λB=>B (i 0) w)
theorem R8(B u:Value)(h:S293 w K B u):CR 293 [B,u] w K:=
 lL 20 (λ_=>.nil) 16 [.tmp 4] Tryz.func293 h
def S232(E G:Value):Prop:=
 cF 305 [E,G] w λa b=>lN 22 a λc=>nW (λu B d e=>∀_:Env,
 bA .lss 3 d c λf=>cV f (iA 22 a d λg=>lA 3 g e λh=>cF 232 [E,h] e λj k=>dX hM (Builtin.max_ #[3,3] 3 [B,j].toArray) λl=>bB .add 3 d (i 1) λn=>
 u l n k) (bB .add 3 B (i 1) λo=>K o e)) (λu=>u (i 0) (i 0) b)
theorem R9(B u:Value)(h:S232 w K B u):CR 232 [B,u] w K:=
 lL 24 (λ_=>.nil) 16 [.tmp 4] Tryz.func232 h
def ag4:dI:=λi=>match i with
 | 8=>(.of [(0,[]),(1,[]),(2,[]),(3,[]),(4,[]),(5,[]),(6,[]),(7,[]),(8,[]),(9,[]),(10,[]),(11,[4,9]),(12,[])])
 | _=>.nil
def S59(u E:Value):Prop:=
 mw hM (Instr.box 86 E) w λB a=>cF 121 [u] a λb c=>dX hM (Op.unary .not b) λd=>cV d (K (.tuple #[(.slice none 0 0),(i 8)]) c) (cF 125 [u] c λe f=>
 cF 124 [e,(.func (Go.Fn.func 122) [].toArray [B].toArray)] f λg h=>cV g (K (.tuple #[(.slice none 0 0),(i 9)]) h) (lA 86 B h λj=>cF 126 [u,(i 0),j] h λk l=>
 K (.tuple #[k,(i 0)]) l))
theorem Wq(B u:Value)(h:S59 w K B u):CR 59 [B,u] w K:=
 lL 18 (λ_=>.nil) 48 [.tmp 4,.tmp 5] Tryz.func59 h
def S78(E B u:Value):Prop:=
 lN 86 B λa=>lN 22 u λb=>bA .neq 3 a b λc=>cV c (K (.tuple #[(i 0),(i 1)]) w) (cF 59 [E,B] w λd e=>xT d 0 λf=>xT d 1 λg=>bB .neq 40 g (i 0) λh=>
 cV h (K (.tuple #[(i 0),g]) e) (cF 79 [f,u] e λj k=>xT j 0 λl=>xT j 1 λn=>K (.tuple #[l,n]) k))
theorem Wr(E B u:Value)(h:S78 w K E B u):CR 78 [E,B,u] w K:=
 lL 29 (λ_=>.nil) 192 [.tmp 6,.tmp 7] Tryz.func78 h
theorem US:PL 291:=dD Tryz.func291
theorem aa3:PL 295:=dD Tryz.func295
theorem aa4:PL 293:=dD Tryz.func293
theorem aa5:PL 294:=dD Tryz.func294
theorem aa6:PL 292:=dD Tryz.func292
theorem D9:PL 206:=dD Tryz.func206
theorem NC:PL 304:=dD Tryz.func304
theorem aa7:PL 229:=dD Tryz.func229
theorem aa8:PL 228:=dD Tryz.func228
theorem ND:PL 231:=dD Tryz.func231
theorem aa9:PL 305:=dD Tryz.func305
theorem UT:PL 232:=dD Tryz.func232
theorem IM:PL 121:=dD Tryz.func121
theorem aba:PL 125:=dD Tryz.func125
theorem UW:PL 126:=dD Tryz.func126
theorem ag5:PL 59:=dD Tryz.func59
theorem abb:PL 122:=dD Tryz.func122
theorem abc:PL 78:=dD Tryz.func78
theorem abd:PL 230:=dD Tryz.func230
theorem abe:PL 303:=dD Tryz.func303
theorem UX:PL 124:=dD Tryz.func124
theorem abf:PL 234:=dD Tryz.func234
theorem UY:PL 123:=dD Tryz.func123
theorem NF:PL 233:=dD Tryz.func233
end Go.Proofs.YtdncbeepkacgbaaGreatDoor
namespace Go.Fw
open Go.MapKept (Stamped IsKey)
open Go.ChangeMaps (setBlock)
def jl(w:World)(b:Nat)(ks:List Int)(vs:List Value):Prop:=
 ∃es clock,w.heap[b]?=some (.map es clock)/\Stamped es clock/\es.toList.map (·.key)=ks.map (mf .i64)/\es.toList.map (·.val)=vs
def iw:List Int->Int->Option Nat
 | [],_=>none
 | x::xs,k=>if x=k then some 0 else(iw xs k).map (· + 1)
theorem g8:∀{ks:List Int}{k:Int}{j:Nat},iw ks k=some j->ks[j]?=some k
 | x::xs,k,j,h=>by
  unfold iw at h
  split at h
  .grind
  .cases hh:iw xs k with
   | none=>grind
   | some i=>rw[hh]at h;simp at h;subst h;simpa using g8 hh
theorem jm:∀{ks:List Int}{k:Int},iw ks k=none↔k ∉ ks
 | [],_=>by simp[iw]
 | x::xs,k=>by
  unfold iw
  by_cases e:x=k
  .simp[e]
  .rw[fg e,Option.map_eq_none_iff,jm,oR]
   grind
theorem nq:∀{ks:List Int}{k:Int}{j:Nat},ks.Nodup->ks[j]?=some k->iw ks k=some j
 | x::xs,k,0,_,h=>by simp at h;simp[iw,h]
 | x::xs,k,j+1,hn,h=>by
  rw[H3]at h
  have u:=l0 h
  have:x≠k:=λe=>(zO.1 hn).1 (e▸u)
  simp[iw,this,nq (zO.1 hn).2 h]
def look{β:Type}(ks:List Int)(vs:List β)(k:Int):Option β:=(iw ks k).bind (vs[·]?)
def pS{β:Type}(f:Int->β)(k:Int)(x:β):Int->β:=λj=>if j=k then x else f j
section
variable {P:Program}{w w0 w':World}{A:Nat->Prop}{L:List HP}{b:Nat}{ks:List Int}{vs:List Value}
theorem jl.of_eq(h:jl w b ks vs)(u:w'.heap[b]?=w.heap[b]?):jl w' b ks vs:=by
 grind[jl]
theorem jl.lt(h:jl w b ks vs):b<w.heap.size:=by obtain⟨es,c,h1,_⟩:=h;grind
theorem jl.ext(h:jl w b ks vs)(e:Ext w w'):jl w' b ks vs:=h.of_eq (e.bM b h.lt λh=>h)
theorem jl.len(h:jl w b ks vs):ks.length=vs.length:=by
 obtain⟨es,c,_,_,h3,h4⟩:=h
 have:=gl List.length h3;grind
theorem jl.nodup(h:jl w b ks vs):ks.Nodup:=by
 obtain⟨es,c,_,h2,h3,h4⟩:=h
 have:=h2.2.2
 grind
def Ea(b:Nat)(ks:List Int)(vs:List Value):HP where
 p w F:=jl w b ks vs/\∀k,F k↔k=b
 loc w w' F h hh:=⟨h.1.of_eq (hh b ((h.2 b).2 rfl)),h.2⟩
 lt w F b' h hb:=by rw[(h.2 b').1 hb];exact h.1.lt
theorem KG{es:Array MapEntry}(h3:es.toList.map (·.key)=ks.map (mf .i64)):∀x∈es.toList,IsKey (.int .i64) x.key:=by
 intro x u
 have:x.key∈es.toList.map (·.key):=n0.2 ⟨x,u,rfl⟩
 rw[h3]at this
 obtain⟨k,_,e⟩:=n0.1 this
 rw[<- e];simp[IsKey]
theorem yP{T:TypeId}{k:Int}{es:Array MapEntry}(u:P.underlying T=some (.int .i64))(B:ks.Nodup)(h3:es.toList.map (·.key)=ks.map (mf .i64)) :
  (iw ks k=none/\(NR T (hZ k) es.toList).run P w=.ok none w)\/∃j e,iw ks k=some j/\es.toList[j]?=some e/\e.key=hZ k/\(NR T (hZ k) es.toList).run P w=.ok (some (j,e.val)) w:=by
 rcases MapKept.findNow_spec (d:=.int .i64) (k:=hZ k) (by simp[IsKey]) es.toList 0 (KG h3)with⟨h1,h2⟩|⟨j,e,h1,h2,h4⟩
 .refine .inl ⟨jm.2 λE=>?_,MapKept.run_findKey u h1⟩
  have:mf .i64 k∈es.toList.map (·.key):=cR
  grind
 refine .inr ⟨j,e,nq B ?_,h2,h4,by rw[o6]at h1;exact MapKept.run_findKey u h1⟩
 have:(es.toList.map (·.key))[j]?=some (hZ k):=cR
 grind
theorem tj{T B E:TypeId}{z:Value}{k:Int}(h:jl w b ks vs)(ht:P.underlying T=some (.map B E))(G:P.underlying B=some (.int .i64))(u:ki P E z) :
  (qs T (.map (some b)) (hZ k) false).run P w=.ok ((look ks vs k).getD z) w:=by
 have I:=h.nodup
 obtain⟨es,c,h1,h2,h3,h4⟩:=h
 have J:(zeroValue E).run P w=.ok z w:=by
  unfold ki dA at u
  cases hi:P.info? E with
  | none=>grind
  | some i=>
   rw[hi]at u
   simp only[wG,nM.injEq]at u
   refine eM ?_ w
   unfold zeroValue;rw[bT,jd hi];simp only[la,u];rfl
 have hc:=MapKept.run_checkKey (P:=P) (w:=w) (kt:=B) (k:=hZ k) G (by simp[IsKey]) es.isEmpty 9999
 rcases yP (w:=w) (k:=k) G I h3 with⟨h5,h6⟩|⟨j,e,h5,h6,O,M⟩
 .simp[qs,run_underlying ht,MapKept.run_getObj_map h1,hc,h6,J,Result.andThen,look,h5]
 have:vs[j]?=some e.val:=cR
 simp[qs,run_underlying ht,MapKept.run_getObj_map h1,hc,M,Result.andThen,look,h5,this]
theorem gT(o:Obj)(hb:b<w.heap.size):(setBlock w b o).heap[b]?=some o:=by simp[setBlock,hb]
theorem fD.setBlock(w:World)(b:Nat)(o:Obj):fD (· = b) w (setBlock w b o):=
 ⟨rfl,rfl,rfl,by simp[ChangeMaps.setBlock],λk _ u=>by simp only[ChangeMaps.setBlock];grind⟩
theorem j9{es:Array MapEntry}{clock:Nat}{o:Obj}(h1:w.heap[b]?=some (.map es clock)):(setObj b o).run P w=.ok () (setBlock w b o):=by
 simp[setObj,Sem.run,h1,setBlock]
theorem Sa{T I E:TypeId}{v:Value}{k:Int}(h:jl w b ks vs)(ht:P.underlying T=some (.map I E))(J:P.underlying I=some (.int .i64)) :
  ∃w',(rf T (.map (some b)) (hZ k) v).run P w=.ok () w'/\fD (· = b) w w'/\
   (match iw ks k with|some j=>jl w' b ks (vs.set j v)|none=>jl w' b (ks++[k]) (vs++[v])):=by
 have O:=h.nodup
 have M:=h.lt
 obtain⟨es,c,h1,h2,h3,h4⟩:=h
 have hc:=MapKept.run_checkKey (P:=P) (w:=w) (kt:=I) (k:=hZ k) J (by simp[IsKey]) false 9999
 rcases yP (w:=w) (k:=k) J O h3 with⟨h5,h6⟩|⟨j,e,h5,h6,U,V⟩
 .refine⟨_,?_,fD.setBlock w b (.map (es.push ⟨hZ k,v,c⟩) (c+1)),?_⟩
  .simp[rf,run_underlying ht,MapKept.run_getObj_map h1,hc,h6,j9 h1,Result.andThen]
  rw[h5]
  refine⟨_,_,gT _ M,MapKept.stamped_push h2 λx Z e=>?_,by simp[h3],by simp[h4]⟩
  have:x.key∈es.toList.map (·.key):=n0.2 ⟨x,Z,rfl⟩
  rw[h3,e]at this
  obtain⟨k',G,u⟩:=n0.1 this
  simp at u
  exact jm.1 h5 (u▸G)
 have Y:es[j]?=some e:=cR
 have W:(Hj e.key (hZ k)).run P w=.ok (hZ k) w:=by
  rw[U];unfold Hj;simp[Instr.sameBits]
 refine⟨_,?_,fD.setBlock w b (.map (es.modify j λe=>{e with key:=hZ k,val:=v}) c),?_⟩
 .simp[rf,run_underlying ht,MapKept.run_getObj_map h1,hc,V,j9 h1,Result.andThen,Y,W]
 rw[h5]
 have G:∀u,es[j]?=some u->({u with key:=hZ k,val:=v}:MapEntry).key=u.key:=λu B=>by
  grind
 refine⟨_,_,gT _ M,MapKept.stamped_modify h2 j _ (λ_ _=>rfl) (λu _ B=>G u B),?_,?_⟩
 .rw[MapKept.modify_keys j _ G,h3]
 rw[<- h4]
 apply u4
 grind
theorem Sb{T u E R:TypeId}{M:Array TypeId}{k:Int}(h:jl w b ks vs)(G:M[0]?=some T)(ht:P.underlying T=some (.map u E))(B:P.underlying u=some (.int .i64)) :
  ∃w',(Builtin.delete_ M R [.map (some b),hZ k].toArray).run P w=.ok (.tuple #[]) w'/\fD (· = b) w w'/\
   (match iw ks k with|some j=>jl w' b (ks.eraseIdx j) (vs.eraseIdx j)|none=>jl w' b ks vs):=by
 have O:=h.nodup
 have I:=h.lt
 obtain⟨es,c,h1,h2,h3,h4⟩:=h
 have hc:=MapKept.run_checkKey (P:=P) (w:=w) (kt:=u) (k:=hZ k) B (by simp[IsKey]) es.isEmpty 9999
 rcases yP (w:=w) (k:=k) B O h3 with⟨h5,h6⟩|⟨j,e,h5,h6,V,U⟩
 .refine⟨_,?_,fD.setBlock w b (.map es c),?_⟩
  .simp[Builtin.delete_,G,run_underlying ht,MapKept.run_getObj_map h1,hc,h6,j9 h1,Result.andThen]
  rw[h5]
  exact⟨_,_,gT _ I,h2,h3,h4⟩
 have W:j<es.size:=cR
 refine⟨_,?_,fD.setBlock w b (.map (es.eraseIdxIfInBounds j) c),?_⟩
 .simp[Builtin.delete_,G,run_underlying ht,MapKept.run_getObj_map h1,hc,U,j9 h1,Result.andThen]
 rw[h5]
 have J:(es.eraseIdxIfInBounds j).toList=es.toList.eraseIdx j:=by
  simp_all
 refine⟨_,_,gT _ I,MapKept.stamped_erase h2 j,?_,?_⟩
 .rw[J,ChangeMaps.map_eraseIdx,h3,ChangeMaps.map_eraseIdx]
 rw[J,ChangeMaps.map_eraseIdx,h4]
theorem Eb{T:TypeId}{K:Value->hU}(u:St w0 A L w)(k:∀b w',St w0 A (Ea b [] []::L) w'->K (.map (some b)) w'):mw P (Jj T none) w K:=
 ⟨_,_,rfl,k _ _ (u.new (Ext.push w (.map #[] 0)) (F:=λk=>k=w.heap.size) ⟨⟨#[],0,jO _ _,MapKept.stamped_empty 0,rfl,rfl⟩,λ_=>Iff.rfl⟩ λb hb=>by rw[hb];exact om _)⟩
theorem St.Ec(u:St w0 A (Ea b ks vs::L) w):jl w b ks vs:=by obtain⟨F,h,_⟩:=u.head;exact h.1
end
section
variable {α:Type}[Flat α] {P:Program}{w w0 w':World}{A:Nat->Prop}{L:List HP}{b:Nat}{f:Int->List α}
abbrev xt(s:SV)(x:List α):HP:=bH (iS s) x
def mF(b:Nat)(f:Int->List α):HP:=oV λks=>oV λu:List SV=>oV λB:List (List α)=>fact (f=λk=>(look ks B k).getD []) (sep (Ea b ks (u.map iS)) (gj xt u B))
def qm(w:World)(b:Nat)(f:Int->List α):Prop:=∃ks,∃u:List SV,jl w b ks (u.map iS)/\(∀(i:Nat) (k:Int) (s:SV),ks[i]?=some k->u[i]?=some s->dy (λ_=>True) w (iS s) (f k))/\∀k,k ∉ ks->f k=[]
theorem qm.ext(h:qm w b f)(e:Ext w w'):qm w' b f:=by
 obtain⟨ks,u,h1,h2,h3⟩:=h;exact⟨ks,u,h1.ext e,λi k s a c=>(h2 i k s a c).ext e,h3⟩
theorem lQ{β:Type}{ks:List Int}{xs:List β}{k:Int}{i:Nat}{x:β}(u:ks.Nodup)(h1:ks[i]?=some k)(h2:xs[i]?=some x):look ks xs k=some x:=by
 unfold look;rw[nq u h1];exact h2
theorem lG{β:Type}{ks:List Int}{xs:List β}{k:Int}(h:k ∉ ks):look ks xs k=none:=by unfold look;rw[jm.2 h];rfl
theorem mF.rd{F:Nat->Prop}(h:(mF b f).p w F):qm w b f:=by
 obtain⟨ks,I,u,G,V,M,h1,h2,_,_⟩:=h
 refine⟨ks,I,h1.1,λi k s B E=>?_,λk B=>by rw[G];dsimp only;rw[lG B];rfl⟩
 have U:=vJ h2
 have hi:i<u.length:=by have:=(j0.1 E).1;omega
 have J:u[i]?=some u[i]:=kB hi
 have O:St w M [gj xt I u] w:=St.begin h2
 have:=O.aaT E J (Φ:=λw=>dy (λ_=>True) w (iS s) u[i]) λh=>(bH.rd h).mono λ_ _=>trivial
 rw[G];dsimp only
 rw[lQ h1.1.nodup B J];exact this
theorem St.NG(u:St w0 A (mF b f::L) w):qm w b f:=by obtain⟨F,h,_⟩:=u.head;exact mF.rd h
theorem qm.look{T B E:TypeId}{k:Int}(h:qm w b f)(ht:P.underlying T=some (.map B E))(I:P.underlying B=some (.int .i64))(J:ki P E (.slice none 0 0)) :
  ∃s:SV,(qs T (.map (some b)) (hZ k) false).run P w=.ok (iS s) w/\dy (λ_=>True) w (iS s) (f k):=by
 obtain⟨ks,u,h1,h2,h3⟩:=h
 have G:=tj (P:=P) (k:=k) h1 ht I J
 cases qn:iw ks k with
 | none=>
  have:Fw.look ks (u.map iS) k=none:=by unfold Fw.look;grind
  rw[this]at G
  exact⟨bY,G,by rw[h3 k (jm.1 qn)];exact dy.nil _ _⟩
 | some j=>
  have V:=g8 qn
  have O:=h1.len
  have M:j<u.length:=cR
  have U:u[j]?=some u[j]:=kB M
  have:Fw.look ks (u.map iS) k=some (iS u[j]):=by unfold Fw.look;grind
  grind
theorem qm.abh{T B E:TypeId}{k:Int}(h:qm w0 b f)(ht:P.underlying T=some (.map B E))(I:P.underlying B=some (.int .i64))(J:ki P E (.slice none 0 0)) :
  ∃s:SV,(∀w,Ext w0 w->(qs T (.map (some b)) (hZ k) false).run P w=.ok (iS s) w)/\dy (λ_=>True) w0 (iS s) (f k):=by
 obtain⟨ks,u,h1,h2,h3⟩:=h
 have G:∀w,Ext w0 w->_:=λw e=>tj (P:=P) (k:=k) (h1.ext e) ht I J
 cases qn:iw ks k with
 | none=>
  have:Fw.look ks (u.map iS) k=none:=by unfold Fw.look;grind
  rw[this]at G
  exact⟨bY,G,by rw[h3 k (jm.1 qn)];exact dy.nil _ _⟩
 | some j=>
  have V:=g8 qn
  have O:=h1.len
  have M:j<u.length:=cR
  have U:u[j]?=some u[j]:=kB M
  have:Fw.look ks (u.map iS) k=some (iS u[j]):=by unfold Fw.look;grind
  grind
theorem AP{T u E:TypeId}{k:Int}{K:Value->Prop}(h:qm w0 b f)(e:Ext w0 w)(ht:P.underlying T=some (.map u E))(B:P.underlying u=some (.int .i64))(G:ki P E (.slice none 0 0))
  (I:∀s:SV,dy (λ_=>True) w0 (iS s) (f k)->K (iS s)):Ah P (qs T (.map (some b)) (hZ k) false) w K:=by
 obtain⟨s,h1,h2⟩:=h.abh (P:=P) (k:=k) ht B G;exact⟨_,h1 w e,I s h2⟩
def Ed(b:Nat)(f:Int->List α)(k:Int)(s:SV):HP:=oV λks=>oV λB:List SV=>oV λE:List (List α)=>oV λvs:List Value=>
 fact ((∀u,u≠k->f u=(look ks E u).getD [])/\look ks vs k=(iw ks k).map (λ_=>iS s)/\(iw ks k=none->s=bY)/\vs.length=B.length/\∀(i:Nat) (u:Int),ks[i]?=some u->u≠k->vs[i]?=(B[i]?).map iS) (sep (Ea b ks vs) (gj xt B E))
theorem St.Ee{k:Int}(u:St w0 A (mF b f::L) w):∃s:SV,St w0 A (bH (iS s) (f k)::Ed b f k s::L) w:=by
 obtain⟨ks,u⟩:=u.dS;obtain⟨B,u⟩:=u.dS;obtain⟨E,u⟩:=u.dS;obtain⟨G,u⟩:=u.lr
 replace u:=u.split
 have V:=u.Ec
 have Z:=V.len
 have Y:=u.p1.jj
 have W:=V.nodup
 rw[nP]at Z
 cases qn:iw ks k with
 | none=>
  refine⟨bY,?_⟩
  have hx:look ks E k=none:=by unfold look;rw[qn];rfl
  have e:f k=[]:=by rw[G];dsimp only;rw[hx];rfl
  rw[e]
  refine(St.dO ks (St.dO B (St.dO E (St.dO (B.map iS) (St.mB ⟨λI _=>by rw[G],by unfold look;rw[qn];rfl,λ_=>rfl,by rw[nP],λi I _ _=>by rw[n3]⟩ (St.join u)))))).eD
 | some j=>
  have J:=g8 qn
  have hjk:=(j0.1 J).1
  have U:B[j]?=some (B[j]'(bP)):=kB _
  have O:E[j]?=some (E[j]'(bP)):=kB _
  refine⟨B[j]'(bP),?_⟩
  have e:f k=E[j]'(bP):=by rw[G];dsimp only;rw[lQ W J O];rfl
  rw[e]
  have h1:=(u.p1.focus U O).p1
  have h2:=(h1.eD (α:=α)).p1
  have h3:St w0 A (xt (bY:SV) ([]:List α)::mE xt B E j::_::_::L) w:=h2.p1
  have h4:=h3.yE bP Y
  have h5:=h4.p2
  refine(St.dO ks (St.dO (B.set j bY) (St.dO (E.set j []) (St.dO (B.map iS) (St.mB ⟨λI M=>?_,by unfold look;rw[qn];simp[U],λh=>(by cases qn.symm.trans h),ew,λi I hi M=>?_⟩ (St.join h5)))))).p1
  .rw[G];dsimp only
   unfold look
   cases hq:iw ks I with
   | none=>rfl
   | some i=>
    have:j≠i:=λe=>M (by have:=g8 hq;rw[<- e,J]at this;exact(nM.inj this).symm)
    simp[this]
  .rw[n3,Fv]
   rintro rfl
   rw[J]at hi;exact M (nM.inj hi).symm
theorem St.vS{T B E:TypeId}{k:Int}{s:SV}(u:St w0 A (Ed b f k s::L) w)(ht:P.underlying T=some (.map B E))(G:P.underlying B=some (.int .i64))(I:ki P E (.slice none 0 0)) :
  (qs T (.map (some b)) (hZ k) false).run P w=.ok (iS s) w:=by
 obtain⟨ks,u⟩:=u.dS;obtain⟨J,u⟩:=u.dS;obtain⟨M,u⟩:=u.dS;obtain⟨vs,u⟩:=u.dS;obtain⟨⟨_,h2,h3,_⟩,u⟩:=u.lr
 have:=tj (P:=P) (k:=k) u.split.Ec ht G I
 rw[h2]at this
 cases qn:iw ks k with
 | none=>rw[qn]at this;rw[h3 qn];exact this
 | some j=>rw[qn]at this;exact this
theorem St.NH{k:Int}{s:SV}{xs:List α}(u:St w0 A (bH (iS s) xs::Ed b f k s::L) w):St w0 A (mF b (pS f k xs)::L) w:=by
 replace u:=u.p1
 obtain⟨ks,u⟩:=u.dS;obtain⟨E,u⟩:=u.dS;obtain⟨I,u⟩:=u.dS;obtain⟨vs,u⟩:=u.dS;obtain⟨⟨W,h2,h3,hvs,V⟩,u⟩:=u.lr
 replace u:=u.split
 have Y:=u.Ec
 have hl:=Y.len
 have U:=Y.nodup
 have Au:=u.p1.jj
 cases qn:iw ks k with
 | none=>
  have Z:=jm.1 qn
  have G:vs=E.map iS:=u4 λi=>by
   cases hi:ks[i]? with
   | none=>rw[u1]at hi;rw[l2 bP,l2 (by rw[nP];omega)]
   | some B=>rw[V i B hi (λe=>Z (e▸l0 hi)),n3]
  have hx:xs=[]:=by
   obtain⟨F,h,_⟩:=u.p2.head
   rw[h3 qn]at h
   rcases h with⟨_,h,_⟩|⟨b',cap,rest,h,_⟩
   .exact h
   .cases h
  subst hx
  refine St.dO ks (St.dO E (St.dO I (St.mB ?_ (St.join ?_))))
  .funext B
   unfold pS
   by_cases e:B=k
   .subst e;rw[fh rfl,lG Z];rfl
   .rw[fg e,W B e]
  .rw[<- G];exact u.p2.drop
 | some j=>
  have O:=g8 qn
  have hjk:=(j0.1 O).1
  have Q4:E[j]?=some (E[j]'(bP)):=kB _
  have UZ:I[j]?=some (I[j]'(bP)):=kB _
  have M:vs[j]?=some (iS s):=by unfold look at h2;rw[qn]at h2;exact h2
  have h6:=((u.p1.focus Q4 UZ).drop).p2
  have h7:St w0 A (xt s xs::mE xt E I j::_::L) w:=h6.p0
  have h8:=h7.yE bP Au
  refine St.dO ks (St.dO (E.set j s) (St.dO (I.set j xs) (St.mB ?_ (St.join ?_))))
  .funext B
   unfold pS
   by_cases e:B=k
   .subst e
    rw[fh rfl,lQ U O (x:=xs) (by rw[yG bP])];rfl
   .rw[fg e,W B e]
    unfold look
    cases hq:iw ks B with
    | none=>rfl
    | some i=>
     have:j≠i:=λJ=>e (by have:=g8 hq;rw[<- J,O]at this;exact(nM.inj this).symm)
     simp[this]
  .have e:(E.set j s).map iS=vs:=by
    apply u4
    intro i
    rw[n3]
    by_cases e:j=i
    .subst e;rw[yG bP,M];rfl
    .rw[Fv e]
     cases hi:ks[i]? with
     | none=>rw[u1]at hi;rw[l2 (show vs.length<=i by omega),l2 (show E.length<=i by omega)];rfl
     | some B=>rw[V i B hi λJ=>e (by rw[J]at hi;have h1:=nq U hi;rw[qn]at h1;exact nM.inj h1)]
   rw[e];exact h8.p1
omit [Flat α]in
theorem KH{f:Int->List α}{k:Int}:pS f k (f k)=f:=by
 grind[pS]
theorem Ef{T Kt E:TypeId}{k:Int}{s s':SV}{xs:List α}{K:hU}(u:St w0 A (bH (iS s') xs::Ed b f k s::L) w)(ht:P.underlying T=some (.map Kt E))(M:P.underlying Kt=some (.int .i64))
  (kk:∀w',St w0 A (mF b (pS f k xs)::L) w'->K w'):LW P (rf T (.map (some b)) (hZ k) (iS s')) w K:=by
 replace u:=u.p1
 obtain⟨ks,u⟩:=u.dS;obtain⟨G,u⟩:=u.dS;obtain⟨I,u⟩:=u.dS;obtain⟨vs,u⟩:=u.dS;obtain⟨⟨hf,h2,h3,hvs,NI⟩,u⟩:=u.lr
 replace u:=u.split
 have hm:=u.Ec
 have hl:=hm.len
 have V:=hm.nodup
 have Au:=u.p1.jj
 obtain⟨w',r1,r2,J⟩:=Sa (P:=P) (v:=iS s') (k:=k) hm ht M
 refine⟨w',r1,kk w' ?_⟩
 cases qn:iw ks k with
 | none=>
  rw[qn]at J
  have h5:St w0 A (Ea b (ks++[k]) (vs++[iS s'])::_::_::L) w':=u.mJ λF U=>⟨F,⟨J,U.2⟩,λb hb=>.inl hb,r2.mono λk M=>(U.2 k).2 M⟩
  have FI:=jm.1 qn
  have O:vs=G.map iS:=u4 λi=>by
   cases hi:ks[i]? with
   | none=>rw[u1]at hi;rw[l2 bP,l2 (by rw[nP];omega)]
   | some B=>rw[NI i B hi (λe=>FI (e▸l0 hi)),n3]
  have h6:=h5.p1
  have Y:St w0 A (gj xt (G++[s']) (I++[xs])::_::L) w':=St.DW (H:=xt (α:=α)) (p:=s') (x:=xs) h6.p2.p1
  refine St.dO (ks++[k]) (St.dO (G++[s']) (St.dO (I++[xs]) (St.mB ?_ (St.join ?_))))
  .funext B
   unfold pS
   by_cases e:B=k
   .subst e
    rw[fh rfl,lQ (i:=ks.length) J.nodup ew (x:=xs) (by rw[List.getElem?_append_right bP];simp[show ks.length-I.length=0 from bP])];rfl
   .rw[fg e,hf B e]
    by_cases Z:B∈ks
    .obtain⟨i,hi,U1⟩:=wv Z
     have U3:ks[i]?=some B:=by rw[kB hi,U1]
     have Zo:I[i]?=some (I[i]'(bP)):=kB _
     rw[lQ V U3 Zo,lQ (i:=i) J.nodup (by rw[qk hi];exact U3) (by rw[qk bP];exact Zo)]
    .rw[lG Z,lG (by simp[Z,e])]
  .have e:(G++[s']).map iS=vs++[iS s']:=by rw[O,rn];rfl
   rw[e];exact Y.p1
 | some j=>
  rw[qn]at J
  have h5:St w0 A (Ea b ks (vs.set j (iS s'))::_::_::L) w':=u.mJ λF U=>⟨F,⟨J,U.2⟩,λb hb=>.inl hb,r2.mono λk M=>(U.2 k).2 M⟩
  have hj:=g8 qn
  have hjk:=(j0.1 hj).1
  have Q4:G[j]?=some (G[j]'(bP)):=kB _
  have UZ:I[j]?=some (I[j]'(bP)):=kB _
  have h6:=((h5.p1.focus Q4 UZ).drop).p2
  have Y:St w0 A (xt s' xs::mE xt G I j::_::L) w':=h6.p0
  have h8:=Y.yE bP Au
  refine St.dO ks (St.dO (G.set j s') (St.dO (I.set j xs) (St.mB ?_ (St.join ?_))))
  .funext B
   unfold pS
   by_cases e:B=k
   .subst e
    rw[fh rfl,lQ V hj (x:=xs) (by rw[yG bP])];rfl
   .rw[fg e,hf B e]
    unfold look
    cases hq:iw ks B with
    | none=>rfl
    | some i=>
     have:j≠i:=λW=>e (by have:=g8 hq;rw[<- W,hj]at this;exact(nM.inj this).symm)
     simp[this]
  .have e:(G.set j s').map iS=vs.set j (iS s'):=by
    apply u4
    intro i
    rw[n3]
    by_cases e:j=i
    .subst e;rw[yG bP,yG bP];rfl
    .rw[Fv e,Fv e]
     cases hi:ks[i]? with
     | none=>rw[u1]at hi;rw[l2 (show vs.length<=i by omega),l2 (show G.length<=i by omega)];rfl
     | some B=>rw[NI i B hi λW=>e (by rw[W]at hi;have h1:=nq V hi;rw[qn]at h1;exact nM.inj h1)]
   rw[e];exact h8.p1
theorem uV{T:TypeId}{K:Value->hU}(u:St w0 A L w)(k:∀b w',St w0 A (mF b (λ_=>([]:List α))::L) w'->K (.map (some b)) w'):mw P (Jj T none) w K:=
 Eb u λb w' h=>k b w' (St.dO [] (St.dO [] (St.dO ([]:List (List α)) (St.mB rfl (St.join ((h.new (Ext.refl w') (H:=gj xt [] []) (F:=bF) (λ_ h=>h) λ_ h=>h.elim).p1))))))
theorem Eg{T Kt E R:TypeId}{k:Int}{A2:Array TypeId}{K:Value->hU}(u:St w0 A (mF b f::L) w)(ha:A2[0]?=some T)(ht:P.underlying T=some (.map Kt E))(M:P.underlying Kt=some (.int .i64))
  (kk:∀v w',St w0 A (mF b (pS f k [])::L) w'->K v w'):mw P (Builtin.delete_ A2 R [.map (some b),hZ k].toArray) w K:=by
 obtain⟨ks,u⟩:=u.dS;obtain⟨J,u⟩:=u.dS;obtain⟨G,u⟩:=u.dS;obtain⟨hf,u⟩:=u.lr
 replace u:=u.split
 have Z:=u.Ec
 have hl:=Z.len
 have Au:=u.p1.jj
 have V:=Z.nodup
 rw[nP]at hl
 obtain⟨w',r1,r2,B⟩:=Sb (P:=P) (R:=R) (k:=k) Z ha ht M
 refine⟨_,w',r1,kk _ w' ?_⟩
 cases qn:iw ks k with
 | none=>
  rw[qn]at B
  have h5:St w0 A (Ea b ks (J.map iS)::_::L) w':=u.mJ λF O=>⟨F,⟨B,O.2⟩,λb hb=>.inl hb,r2.mono λk M=>(O.2 k).2 M⟩
  refine St.dO ks (St.dO J (St.dO G (St.mB ?_ (St.join h5))))
  funext k'
  unfold pS
  by_cases e:k'=k
  .subst e;rw[fh rfl];unfold look;rw[qn];rfl
  .rw[fg e,hf]
 | some j=>
  rw[qn]at B
  have hj:=g8 qn
  have hjk:=(j0.1 hj).1
  have h5:St w0 A (Ea b (ks.eraseIdx j) ((J.map iS).eraseIdx j)::_::L) w':=u.mJ λF O=>⟨F,⟨B,O.2⟩,λb hb=>.inl hb,r2.mono λk M=>(O.2 k).2 M⟩
  have Q4:J[j]?=some (J[j]'(bP)):=kB _
  have UZ:G[j]?=some (G[j]'(bP)):=kB _
  have h6:=(h5.p1.focus Q4 UZ).drop.Kx
  dsimp only at B
  rw[<- ChangeMaps.map_eraseIdx]at h6 B
  refine St.dO (ks.eraseIdx j) (St.dO (J.eraseIdx j) (St.dO (G.eraseIdx j) (St.mB ?_ (St.join h6.p1))))
  funext k'
  unfold pS
  by_cases e:k'=k
  .subst e
   rw[fh rfl,lG];rfl
   intro Dc
   obtain⟨i,hi,I⟩:=wv Dc
   rw[List.getElem_eraseIdx]at I
   split at I
   .have:=nq (j:=i) V (k:=k') (by rw[<- I];exact kB _);rw[qn]at this;have:=nM.inj this;omega
   .have:=nq (j:=i+1) V (k:=k') (by rw[<- I];exact kB _);rw[qn]at this;have:=nM.inj this;omega
  .rw[fg e,hf];dsimp only
   by_cases Y:k'∈ks
   .obtain⟨i,hi,I⟩:=wv Y
    have U:ks[i]?=some k':=by rw[kB hi,I]
    have W:G[i]?=some (G[i]'(bP)):=kB _
    have hij:i≠j:=λe'=>e (by rw[e',hj]at U;exact(nM.inj U).symm)
    rw[lQ V U W]
    by_cases kH:i<j
    .rw[lQ (i:=i) B.nodup (by rw[Ju kH];exact U) (by rw[Ju kH];exact W)]
    .rw[lQ (i:=i-1) B.nodup (by rw[Jv bP,show i-1+1=i from bP];exact U) (by rw[Jv bP,show i-1+1=i from bP];exact W)]
   .rw[lG Y,lG λh=>Y ((List.eraseIdx_sublist ks j).subset h)]
end
section
variable {α:Type}[Flat α] {P:Program}{w w0 w':World}{A S:Nat->Prop}{L:List HP}{xs ys:List α}
theorem Gz{T T2 E I b o dn dc:Nat}{z:Option Nat}{R:TypeId}{src:Value}{cs:List Value}(ht:dV P T=some (E,lx α,I,z))(hb:nY w b cs)(u:dy S w src ys)
  (B:ys.length<=dn) (W:o+ys.length*lx α<=cs.length) :
  ∃w',(Builtin.copy_ #[T,T2] R [.slice (some ⟨b,o,none⟩) dn dc,src].toArray).run P w=.ok (hZ ys.length) w'/\nY w' b (fO cs o (flat ys))/\fD (· = b) w w':=by
 obtain⟨O,J,hi,G,Y,_⟩:=eu ht
 have M:=rW (α:=α) (P:=P) (sz:=lx α) rfl u
 have rd:=u
 obtain⟨V,U,rfl,Uy,Z⟩:=rd
 obtain⟨w',h1,h2,h3⟩:=jt (P:=P) (o:=o) (flat ys) 0 cs w hb (by rw[cG];omega) uc
 refine⟨w',?_,bP,h3⟩
 simp[Builtin.copy_,run_underlying O,sizeOf,typeInfo,hi,Builtin.lenOf,x8 B,M,G,h1,goInt]
theorem Eh{T T2 E iW:Nat}{z:Option Nat}{R:TypeId}{v src:Value}{K:Value->hU}(I:St w0 A (bH v xs::L) w)(ht:dV P T=some (E,lx α,iW,z))(G:dy S w src ys)(B:ys.length<=xs.length)
  (k:∀w',St w0 A (bH v (ys++xs.drop ys.length)::L) w'->K (hZ ys.length) w'):mw P (Builtin.copy_ #[T,T2] R [v,src].toArray) w K:=by
 obtain⟨U,F,U',g1,g2,g3,g4,g5⟩:=I.oD
 rcases g1 with⟨rfl,rfl,hF⟩|⟨b,cap,rest,rfl,hb,M,hF⟩
 .obtain rfl:ys=[]:=by simpa using B
  obtain⟨hu,inf,hi,my,s6,_⟩:=eu ht
  have O:=rW (α:=α) (P:=P) (sz:=lx α) rfl G
  obtain⟨sa,MI,rfl,Uy,V1⟩:=G
  refine⟨_,w,?_,k w I⟩
  simp at O
  simp[Builtin.copy_,run_underlying hu,sizeOf,typeInfo,hi,Builtin.lenOf,my,O,goInt]
 have hle:ys.length*lx α<=xs.length*lx α:=zP _ B
 obtain⟨w',h1,h2,h3⟩:=Gz (P:=P) (o:=0) (dn:=xs.length) (dc:=cap) (T2:=T2) (R:=R) ht hb G B (by rw[kE,cG];omega)
 refine⟨_,w',h1,k w' (I.mJ λZ u=>?_)⟩
 rcases u with⟨h,_⟩|⟨b',zV,J,W,hb',hl',u⟩
 .cases h
 simp only[ta.injEq,nM.injEq,Addr.mk.injEq,and_true,true_and]at W
 obtain⟨rfl,rfl⟩:=W
 refine⟨Z,.inr ⟨b,cap,rest,?_,?_,?_,u⟩,λb hb=>.inl hb,h3.mono λk Y=>(u k).2 Y⟩
 .congr 1;rw[kE,oC];omega
 .have e:flat xs=[]++flat (xs.take ys.length)++flat (xs.drop ys.length):=by rw[sk,<- fp,ob]
  have:=jg [] (flat (xs.take ys.length)) (flat (xs.drop ys.length)++rest) (flat ys) (by rw[cG,cG,mg,x8 B])
  rw[D1]at this
  rw[e,mu,this]at h2
  rw[fp,mu];exact h2
 have V:(ys++xs.drop ys.length).length=xs.length:=by rw[kE,oC];omega
 exact⟨by rw[V];exact M.1,by have:=M.2;rw[kE,cG]at this |-;rw[V];exact this⟩
end
section
variable {P:Program}{w w0 w':World}{A:Nat->Prop}{L:List HP}{b r:Nat}
def AQ(r m since:Nat)(seen:Array Nat):HP where
 p w F:=w.heap[r]?=some (.mapIter (some m) since seen since)/\∀k,F k↔k=r
 loc w w' F h hh:=⟨(hh r ((h.2 r).2 rfl)).trans h.1,h.2⟩
 lt w F b' h hb:=cR
theorem KI{T u E:TypeId}{es:Array MapEntry}{clock:Nat}{K:Value->hU}(B:St w0 A L w)(ht:P.underlying T=some (.map u E))(hb:w.heap[b]?=some (.map es clock))
  (k:∀r w',St w0 A (AQ r b clock #[]::L) w'->K (.pointer (some ⟨r,0,none⟩)) w'):mw P (Instr.range T (.map (some b))) w K:=
 ⟨_,_,run_range_map w T u E b es clock ht hb,k _ _ (B.new (Ext.push w _) (F:=λk=>k=w.heap.size) ⟨jO _ _,λ_=>Iff.rfl⟩ λb hb=>by rw[hb];exact om _)⟩
theorem NJ{T since:Nat}{seen:Array Nat}{es:Array MapEntry}{K:Value->hU}(B:St w0 A (AQ r b since seen::L) w)(hb:w.heap[b]?=some (.map es since))(hold:∀x∈es.toList,x.born<since)
  (M:(leftOf es seen).size=0->K (.tuple #[.bool false]) w)
  (U:∀e w',e∈(leftOf es seen).toList->St w0 A (AQ r b since (seen.push e.born)::L) w'->K (.tuple #[.bool true,e.key,e.val]) w'):mw P (Instr.next (.pointer (some ⟨r,0,none⟩)) false T) w K:=by
 obtain⟨F,h,_⟩:=B.head
 rcases run_next_at (P:=P) w T r b since since seen es since h.1 hb hold (om _)with⟨h1,h2⟩|⟨e,I,E,J,h2⟩
 .exact⟨_,w,h2,M h1⟩
 have O:St w0 A (AQ r b since seen::L) E:=by
  rcases J with rfl|rfl
  .exact B
  .exact B.ext ⟨rfl,rfl,rfl,om _,λ_ _ _=>rfl⟩
 refine⟨_,_,h2,U e _ I (O.mJ λF u=>⟨F,⟨gT _ (pM u.1),u.2⟩,λb hb=>.inl hb,(fD.setBlock E r _).mono λk G=>(u.2 k).2 G⟩)⟩
theorem KJ{since:Nat}{seen:Array Nat}{es:Array MapEntry}{e:MapEntry}{K:Value->Prop}(B:St w0 A (AQ r b since (seen.push e.born)::L) w)(hb:w.heap[b]?=some (.map es since))(E:e∈es.toList)(u:(es.toList.map (·.born)).Nodup)
  (k:K (.tuple #[e.key,e.val])):Ah P (Instr.entry (.pointer (some ⟨r,0,none⟩))) w K:=by
 obtain⟨F,h,_⟩:=B.head
 exact⟨_,run_entry_at w r b since seen es since e h.1 hb E u,k⟩
theorem yQ{o:Obj}(h:w.heap[b]?=some o)(e:Ext w w'):w'.heap[b]?=some o:=(e.bM b (pM h) λh=>h).trans h
theorem rq{seen:Array Nat}{x y:Nat}(h:(seen.push x).contains y=true):seen.contains y=true\/y=x:=by
 grind
theorem born_inj{es:Array MapEntry}(B:(es.toList.map (·.born)).Nodup){e u:MapEntry}(h:e∈es.toList)(E:u∈es.toList)(hb:e.born=u.born):e=u:=by
 obtain⟨i,hi,rfl⟩:=wv h
 obtain⟨j,G,rfl⟩:=wv E
 have:=(To (i:=i) (j:=j) (h₀:=by grind) (h₁:=by grind) B).1 cR
 grind
end
section
variable {P:Program}{w w0 w':World}{A:Nat->Prop}{L:List HP}{b r:Nat}
theorem aS{f:FuncId}{args:List Value}{H:HP}{H':Value->HP}{Φ:Value->hU}{K:Value->hU}(pl:Plain P f)(u:St w0 A (H::L) w)
  (hc:∀F,H.p w F->(∀w',fD F w w'->St w0 A L w')->Calls P f args.toArray w (oU λv w'=>Φ v w'/\mC F (H' v) w w')) (k:∀v w',Φ v w'->St w0 A (H' v::L) w'->K v w'):wD P f args w K:=by
 obtain⟨U,F,I,h1,h2,h3,h4,h5⟩:=u.oD
 refine dW pl (hc F h1 λw' E=>⟨u.aF.trans E (λ_ h=>h) λb hb B=>(h2 b B).elim id λM=>bP,I,h5.loc λb hb=>E.bM b (h5.lt b hb) λB=>h3 b B hb⟩) λv w' ⟨J,G⟩=>k v w' J (u.M5 h2 h3 h5 G)
theorem yR{g:FuncId}{args first cap:List Value}{H:HP}{H':Value->HP}{Φ:Value->hU}{K:Value->hU}(pl:Plain P g)(u:St w0 A (H::L) w)
  (hc:∀F,H.p w F->(∀w',fD F w w'->St w0 A L w')->Calls P g (first++args++cap).toArray w (oU λv w'=>Φ v w'/\mC F (H' v) w w')) (k:∀v w',Φ v w'->St w0 A (H' v::L) w'->K v w'):gJ P (.func (.func g) first.toArray cap.toArray) args w K:=by
 obtain⟨U,F,I,h1,h2,h3,h4,h5⟩:=u.oD
 refine fj pl (hc F h1 λw' E=>⟨u.aF.trans E (λ_ h=>h) λb hb B=>(h2 b B).elim id λM=>bP,I,h5.loc λb hb=>E.bM b (h5.lt b hb) λB=>h3 b B hb⟩) λv w' ⟨J,G⟩=>k v w' J (u.M5 h2 h3 h5 G)
end
def Has(H:HP)(w:World):Prop:=∃F,H.p w F
def St.has{w w0:World}{A:Nat->Prop}{L:List HP}{H:HP}(u:St w0 A (H::L) w):Has H w:=by obtain⟨F,h,_⟩:=u.head;exact⟨F,h⟩
theorem Has.ext{H:HP}{w w':World}(h:Has H w)(e:Ext w w'):Has H w':=by
 obtain⟨F,h⟩:=h;exact⟨F,H.loc _ _ _ h λb hb=>e.bM b (H.lt _ _ _ h hb) λx=>x⟩
def Has.st{H:HP}{w:World}(h:Has H w):∃F,St w F [H] w:=by obtain⟨F,h⟩:=h;exact⟨F,St.begin h⟩
abbrev SI:=ByteArray×Int
def IN(p:SI):Value×Value:=(.string p.1,hZ p.2)
def pj(w:World)(b:Nat)(l:List SI):Prop:=
 ∃es clock,w.heap[b]?=some (.map es clock)/\Stamped es clock/\(es.toList.map λe=>(e.key,e.val)).Perm (l.map IN)
def dF:List SI->ByteArray->Int
 | [],_=>0
 | p::r,k=>if p.1=k then p.2 else dF r k
theorem pk:∀{l:List SI}{p:SI},(l.map (·.1)).Nodup->p∈l->dF l p.1=p.2
 | q::r,p,hn,hm=>by
  rw[List.map_cons,zO]at hn
  rcases oR.1 hm with rfl|hm
  .unfold dF;grind
  .have:q.1≠p.1:=λe=>hn.1 (n0.2 ⟨p,hm,e.symm⟩)
   unfold dF;rw[fg this];exact pk hn.2 hm
theorem tm:∀{l:List SI}{k:ByteArray},(∀p∈l,p.1≠k)->dF l k=0
 | [],_,_=>rfl
 | q::r,k,h=>by
  unfold dF;rw[fg (h q (List.mem_cons_self ..))];exact tm λp u=>h p (o5 _ u)
def GA{l:List SI}{k:ByteArray}(B:(l.map (·.1)).Nodup)(E:∀p∈l,p.2≠0)(h:dF l k=0):∀p∈l,p.1≠k:=λp u e=>by
 subst e;exact E p u ((pk B u).symm.trans h)
section
variable {P:Program}{w w0 w':World}{A:Nat->Prop}{L:List HP}{b:Nat}{l:List SI}
theorem pj.of_eq(h:pj w b l)(u:w'.heap[b]?=w.heap[b]?):pj w' b l:=by
 grind[pj]
theorem pj.lt(h:pj w b l):b<w.heap.size:=by obtain⟨es,c,h1,_⟩:=h;grind
theorem pj.nodup(h:pj w b l):(l.map (·.1)).Nodup:=by
 obtain⟨es,c,_,h2,h3⟩:=h
 have h4:=(h3.map Prod.fst)
 rw[CU,CU]at h4
 have h5:(l.map λp=>uH p.1).Nodup:=h4.nodup_iff.1 h2.2.2
 grind
theorem pj.perm{u:List SI}(h:pj w b l)(B:l.Perm u):pj w b u:=by
 obtain⟨es,c,h1,h2,h3⟩:=h;exact⟨es,c,h1,h2,h3.trans (B.map _)⟩
def jJ(b:Nat)(l:List SI):HP where
 p w F:=pj w b l/\∀k,F k↔k=b
 loc w w' F h hh:=⟨h.1.of_eq (hh b ((h.2 b).2 rfl)),h.2⟩
 lt w F b' h hb:=by rw[(h.2 b').1 hb];exact h.1.lt
theorem NK{es:Array MapEntry}(h3:(es.toList.map λe=>(e.key,e.val)).Perm (l.map IN)){e:MapEntry}(B:e∈es.toList):∃p∈l,e.key=.string p.1/\e.val=hZ p.2:=by
 have:(e.key,e.val)∈l.map IN:=h3.mem_iff.1 (n0.2 ⟨e,B,rfl⟩)
 obtain⟨p,E,u⟩:=n0.1 this
 unfold IN at u
 grind
theorem NL{es:Array MapEntry}(h3:(es.toList.map λe=>(e.key,e.val)).Perm (l.map IN)){p:SI}(u:p∈l):∃e∈es.toList,e.key=.string p.1/\e.val=hZ p.2:=by
 have:IN p∈es.toList.map λe=>(e.key,e.val):=h3.mem_iff.2 (n0.2 ⟨p,u,rfl⟩)
 obtain⟨e,E,B⟩:=n0.1 this
 unfold IN at B
 grind
theorem AR{T:TypeId}{k:ByteArray}{es:Array MapEntry}(E:P.underlying T=some .string)(h3:(es.toList.map λe=>(e.key,e.val)).Perm (l.map IN)) :
  ((∀p∈l,p.1≠k)/\(NR T (.string k) es.toList).run P w=.ok none w)\/∃j p,p∈l/\p.1=k/\(NR T (.string k) es.toList).run P w=.ok (some (j,hZ p.2)) w:=by
 rcases MapKept.findNow_spec (d:=.string) (k:=.string k) (by simp[IsKey]) es.toList 0 (λx G=>by obtain⟨p,_,e,_⟩:=NK h3 G;rw[e];simp[IsKey])with⟨h1,h2⟩|⟨j,e,h1,h2,h4⟩
 .refine .inl ⟨λp B e=>?_,MapKept.run_findKey E h1⟩
  obtain⟨x,G,u,_⟩:=NL h3 B
  grind
 obtain⟨p,B,u,I⟩:=NK h3 (l0 h2)
 rw[h4]at u;injection u with u
 refine .inr ⟨j,p,B,u.symm,?_⟩
 rw[o6,I]at h1
 exact MapKept.run_findKey E h1
theorem Ei{T B E:TypeId}{k:ByteArray}(h:pj w b l)(ht:P.underlying T=some (.map B E))(G:P.underlying B=some .string)(u:ki P E (hZ 0)) :
  (qs T (.map (some b)) (.string k) false).run P w=.ok (hZ (dF l k)) w:=by
 have I:=h.nodup
 obtain⟨es,c,h1,h2,h3⟩:=h
 have M:(zeroValue E).run P w=.ok (hZ 0) w:=by
  unfold ki dA at u
  cases hi:P.info? E with
  | none=>grind
  | some i=>
   rw[hi]at u
   simp only[wG,nM.injEq]at u
   refine eM ?_ w
   unfold zeroValue;rw[bT,jd hi];simp only[la,u];rfl
 have hc:=MapKept.run_checkKey (P:=P) (w:=w) (kt:=B) (k:=.string k) G (by simp[IsKey]) es.isEmpty 9999
 rcases AR (w:=w) (k:=k) G h3 with⟨h5,h6⟩|⟨j,p,h5,h6,J⟩
 .simp[qs,run_underlying ht,MapKept.run_getObj_map h1,hc,h6,M,Result.andThen,tm h5]
 subst h6
 simp[qs,run_underlying ht,MapKept.run_getObj_map h1,hc,J,Result.andThen,pk I h5]
theorem Ej{T u E:TypeId}{v:Int}{k:ByteArray}(h:pj w b l)(ht:P.underlying T=some (.map u E))(B:P.underlying u=some .string)(J:∀p∈l,p.1≠k) :
  ∃w',(rf T (.map (some b)) (.string k) (hZ v)).run P w=.ok () w'/\fD (· = b) w w'/\pj w' b (l++[(k,v)]):=by
 have G:=h.lt
 obtain⟨es,c,h1,h2,h3⟩:=h
 have hc:=MapKept.run_checkKey (P:=P) (w:=w) (kt:=u) (k:=.string k) B (by simp[IsKey]) false 9999
 rcases AR (w:=w) (k:=k) B h3 with⟨h5,h6⟩|⟨j,p,h5,h6,O⟩
 .refine⟨_,?_,fD.setBlock w b (.map (es.push ⟨.string k,hZ v,c⟩) (c+1)),?_⟩
  .simp[rf,run_underlying ht,MapKept.run_getObj_map h1,hc,h6,j9 h1,Result.andThen]
  refine⟨_,_,gT _ G,MapKept.stamped_push h2 λx I e=>?_,?_⟩
  .obtain⟨p,M,U,_⟩:=NK h3 I
   grind
  rw[Array.toList_push,rn,rn]
  exact h3.append (List.Perm.refl _)
 grind
theorem Ek{T:TypeId}{K:Value->hU}(u:St w0 A L w)(k:∀b w',St w0 A (jJ b []::L) w'->K (.map (some b)) w'):mw P (Jj T none) w K:=
 ⟨_,_,rfl,k _ _ (u.new (Ext.push w (.map #[] 0)) (F:=λk=>k=w.heap.size) ⟨⟨#[],0,jO _ _,⟨ew,ew,ew⟩,ew⟩,λ_=>Iff.rfl⟩ λb hb=>by rw[hb];exact om _)⟩
theorem St.jJ(u:St w0 A (jJ b l::L) w):pj w b l:=by obtain⟨F,h,_⟩:=u.head;exact h.1
theorem si{T u E:TypeId}{k:ByteArray}{K:Value->Prop}(h:pj w b l)(ht:P.underlying T=some (.map u E))(B:P.underlying u=some .string)(G:ki P E (hZ 0))(I:K (hZ (dF l k))):Ah P (qs T (.map (some b)) (.string k) false) w K:=
 ⟨_,Ei h ht B G,I⟩
theorem El{T B E:TypeId}{v:Int}{k:ByteArray}{K:hU}(I:St w0 A (Fw.jJ b l::L) w)(ht:P.underlying T=some (.map B E))(u:P.underlying B=some .string)(J:∀p∈l,p.1≠k)
  (M:∀w',St w0 A (Fw.jJ b (l++[(k,v)])::L) w'->K w'):LW P (rf T (.map (some b)) (.string k) (hZ v)) w K:=by
 obtain⟨w',h1,h2,h3⟩:=Ej (P:=P) (v:=v) (k:=k) I.jJ ht u J
 exact⟨w',h1,M w' (I.mJ λF G=>⟨F,⟨h3,G.2⟩,λb hb=>.inl hb,h2.mono λk u=>(G.2 k).2 u⟩)⟩
theorem key_inj{es:Array MapEntry}(B:(es.toList.map (·.key)).Nodup){e u:MapEntry}(h:e∈es.toList)(E:u∈es.toList)(hb:e.key=u.key):e=u:=by
 obtain⟨i,hi,rfl⟩:=wv h
 obtain⟨j,G,rfl⟩:=wv E
 have:=(To (i:=i) (j:=j) (h₀:=by grind) (h₁:=by grind) B).1 cR
 grind
theorem NM{l:List SI}(u:(l.map (·.1)).Nodup){p q:SI}(E:p∈l)(B:q∈l)(h:p.1=q.1):p=q:=by
 have h1:=pk u E
 have h2:=pk u B
 grind
end
end Go.Fw

/-
  Part 2.
-/
import Derived.Test.YtpdlpabnlkofmaaGreatDoorR8x1
set_option maxHeartbeats 8000000
set_option linter.all false
set_option maxRecDepth 100000
open Go.Fw.Flat renaming val->ia,enc->j0,sz->mI,len->x7,agg->Ib,one->WQ,pos->Xb,oH->abl
open List renaming getElem?_eq_some_iff->kp,mem_of_getElem?->kE,take_of_length_le->kO,getElem?_eq_getElem->kX,length_append->la,length_take->l0,length_singleton->mv,append_assoc->n3,getD_eq_getElem?_getD->og,length_cons->oE,append_nil->pL,length_drop->qb,take_append_drop->qB,replicate->r6,drop_drop->sZ,take_add_one->ta,drop_eq_getElem_cons->tx,getElem?_append_left->ub,length_eq_zero_iff->uX,mem_singleton->vx,map_append->vA,drop_eq_nil_of_le->vF,eraseIdx_eq_take_drop_succ->wi,mem_of_mem_take->wF,foldl_append->D8,length_set->GR,getElem?_drop->Im,map_map->I7,getElem_cons_drop->KH,getElem?_cons_succ->NX,toArray->O8,length_flatten->U0
open Nat renaming zero_le->l1,le_refl->o6,zero_add->u1,le_trans->wS,min_eq_left->Gt,add_assoc->Mm,add_zero->Oe,mod_lt->aaX,mod_le->abt
open Go.Instr renaming build->l4,sliceAt->n4,index->u4,sliceBounds->v7,loadAt->xR,fieldAt->Fs,indexAt->FI,storeAt->JB,buildSlice->J8,slice->Px
open Option renaming bind_some->mQ,some->oi,bind_eq_some_iff->NJ
open Go.Value renaming int->ni,bool->wX,slice->yo,tuple->Bv,string->F0,okWide->OZ
open Bool renaming and_eq_true->ob,false_eq_true->Nb
open Decidable renaming not_not->vh
open Int renaming tmod_nonneg->PJ,natAbs_tmod->SU,le_total->Xz,natAbs_tdiv->aaF,neg_tmod->abm
open Go.World renaming cells?_some->Xl
namespace Go.Fw
section
variable {P:Program}{w w0:World}{A S:Nat->Prop}{L:List HP}
theorem bO{T:TypeId}{b o:Nat}{v:Value}{K:Value->Prop}(ht:Wh P T)(hb:Cell w b o v)(k:K v) :
  Ke P (xR T (.pointer (some ⟨b,o,none⟩))) w K:=⟨v,aF ht hb,k⟩
theorem cI{α:Type}[Flat α]{T:TypeId}{x:α}{K:Value->hM}(u:St w0 A L w)
  (k:∀b w',St w0 A (bY b (j0 x)::L) w'->K (.pointer (some ⟨b,0,none⟩)) w'):qZ P (Instr.box T (ia x)) w K:=by
 refine⟨_,_,II T _,k _ _ ?_⟩
 rw[pI]
 exact u.push
def TM(a b:Int):Int:=((BitVec.ofInt 64 a &&& BitVec.ofInt 64 b).toNat:Int)
theorem OF(a:Int){b:Int}(u:0<=b)(h1:b<=9223372036854775807):0<=TM a b/\TM a b<=b:=by
 unfold TM
 refine⟨cK,?_⟩
 have h2:(BitVec.ofInt 64 a &&& BitVec.ofInt 64 b).toNat<=(BitVec.ofInt 64 b).toNat:=by
  rw[BitVec.toNat_and];exact Nat.and_le_right
 have h3:((BitVec.ofInt 64 b).toNat:Int)=b:=by
  rw[BitVec.toNat_ofInt]
  omega
 omega
theorem aci{T:Nat}{cx cy:Bool}{a b:Int}{K:Value->Prop}(u:0<=b)(h1:b<=9223372036854775807)(k:K (hZ (TM a b))):eP P (kj .and T cx cy (hZ a) (hZ b)) K:=by
 refine⟨_,?_,k⟩
 show some (ni .i64 (IntKind.i64.wrap ((BitVec.ofInt 64 a &&& BitVec.ofInt 64 b).toNat:Int)))=_
 have:=OF a u h1
 unfold TM at this |-
 rw[IntWalk.i64_in _ cK]
theorem yJ{T:Nat}{a b:Bool}(h:P.underlying T=some .bool):pr P (Op.equal T (.bool a) (.bool b))=some (a == b):=by
 show pr P (Op.equalIn 10000 T (.bool a) (.bool b))=_
 unfold Op.equalIn
 rw[cX,cZ h]
 rfl
theorem Wi{T:Nat}{cx cy:Bool}{a b:Bool}{K:Value->Prop}(h:P.underlying T=some .bool)(k:K (.bool (a == b))):eP P (kj .eql T cx cy (.bool a) (.bool b)) K:=by
 refine⟨_,?_,k⟩
 show pr P (do pure (wX (<- Op.equal T (.bool a) (.bool b))))=_
 rw[xX,yJ h];rfl
theorem rW{T:Nat}{cx cy:Bool}{a b:Bool}{K:Value->Prop}(h:P.underlying T=some .bool)(k:K (.bool (a != b))):eP P (kj .neq T cx cy (.bool a) (.bool b)) K:=by
 refine⟨_,?_,k⟩
 show pr P (do pure (wX (!(<- Op.equal T (.bool a) (.bool b)))))=_
 rw[xX _ (λb=>wX (!b)),yJ h];rfl
theorem Gm{T e:Nat}{a:Option Addr}{n c:Nat}(h:P.underlying T=some (.slice e))(u:a=none->n=0/\c=0):pr P (Op.equal T (.slice a n c) (.slice none 0 0))=some a.isNone:=by
 show pr P (Op.equalIn 10000 T (.slice a n c) (.slice none 0 0))=_
 unfold Op.equalIn
 rw[cX,cZ h]
 cases a<;>rfl
theorem Wj{T e:Nat}{cx cy:Bool}{a:Option Addr}{n c:Nat}{K:Value->Prop}(h:P.underlying T=some (.slice e))(u:a=none->n=0/\c=0)(k:K (.bool a.isNone)):eP P (kj .eql T cx cy (.slice a n c) (.slice none 0 0)) K:=by
 refine⟨_,?_,k⟩
 show pr P (do pure (wX (<- Op.equal T (.slice a n c) (.slice none 0 0))))=_
 rw[xX,Gm h u];rfl
def nU:TypeDesc->Option Nat
 | .int .i64=>some 0
 | .bool=>some 1
 | .string=>some 2
 | _=>none
def q7:Value->Option Nat
 | .int .i64 _=>some 0
 | .bool _=>some 1
 | .string _=>some 2
 | _=>none
def eqV:Value->Value->Bool
 | .int _ a,.int _ b=>decide (a=b)
 | .bool a,.bool b=>a == b
 | .string a,.string b=>a == b
 | _,_=>false
def An:List Value->List Value->Bool
 | a::x,b::y=>eqV a b&&An x y
 | _,_=>true
def ox(P:Program):Nat->List Field->Option (List Nat)
 | _,[]=>some []
 | k,f::fs=>
  if f.name ≠ "_" /\ f.offset=k then
   match P.underlying f.type with
   | some d=>match nU d,ox P (k+1) fs with
    | some n,some r=>some (n::r)
    | _,_=>none
   | none=>none
  else none
def Ec(P:Program)(T:TypeId):Option (List Nat):=
 match P.underlying T with
 | some (.struct u)=>if P.stoodInHeld T=false/\P.eqGuardType P.depth T=false then ox P 0 u.toList else none
 | _=>none
def OG(d:Nat)(xs ys:Array Value):List Field->Sem Bool
 | []=>pure true
 | f::r => if f.name ≠ "_" then do
   let same <- Op.equalIn d f.type (<- part f.type xs f.offset) (<- part f.type ys f.offset)
   if (!same)=true then pure false else OG d xs ys r
  else OG d xs ys r
theorem C0{T:TypeId}{d:TypeDesc}{n:Nat}(h:P.underlying T=some d)(u:nU d=some n):pr P (isAgg T)=some false:=by
 unfold isAgg
 rw[cX,cZ h]
 cases d<;>simp[nU]at u<;>rfl
theorem Ry{T:TypeId}{d:TypeDesc}{n o:Nat}{cs:Array Value}{v:Value}(h:P.underlying T=some d)(B:nU d=some n)(u:cs[o]?=some v):pr P (part T cs o)=some v:=by
 unfold part
 rw[cX,C0 h B]
 simp only[mQ,Nb,if_false,u]
 rfl
theorem KV{k:Nat}{T:TypeId}{d:TypeDesc}{n:Nat}{a b:Value}(h:P.underlying T=some d)(B:nU d=some n)(u:q7 a=some n)(hb:q7 b=some n) :
  pr P (Op.equalIn (k+1) T a b)=some (eqV a b):=by
 unfold Op.equalIn
 rw[cX,cZ h]
 simp only[mQ]
 cases d<;>simp only[nU]at B<;>try(cases B;done)
 case int kd=>
  cases kd<;>simp at B
  subst B
  cases a<;>simp only[q7]at u<;>try(cases u;done)
  rename_i ka na
  cases b<;>simp only[q7]at hb<;>try(cases hb;done)
  rename_i kb nb
  cases ka<;>simp at u
  cases kb<;>simp at hb
  rfl
 case bool=>
  cases B
  cases a<;>simp only[q7]at u<;>first|(rename_i ka na;cases ka<;>simp at u)|skip
  all_goals try(simp at u;done)
  cases b<;>simp only[q7]at hb<;>first|(rename_i kb nb;cases kb<;>simp at hb)|skip
  all_goals try(simp at hb;done)
  rfl
 case string=>
  cases B
  cases a<;>simp only[q7]at u<;>first|(rename_i ka na;cases ka<;>simp at u)|skip
  all_goals try(simp at u;done)
  cases b<;>simp only[q7]at hb<;>first|(rename_i kb nb;cases kb<;>simp at hb)|skip
  all_goals try(simp at hb;done)
  rfl
theorem KW{k:Nat}{xs ys:List Value}:∀(u:List Field) (i:Nat) (ks:List Nat),ox P i u=some ks->(∀j n,ks[j]?=some n->∃a b,xs[i+j]?=some a/\ys[i+j]?=some b/\q7 a=some n/\q7 b=some n)->
  pr P (OG (k+1) xs.toArray ys.toArray u)=some (An ((xs.drop i).take ks.length) ((ys.drop i).take ks.length)):=by
 intro u
 induction u with
 | nil=>intro i ks h _;simp only[ox,oi.injEq]at h;subst h;simp[OG,An];rfl
 | cons f u M=>
  intro i ks h I
  unfold ox at h
  split at h
  .rename_i hf
   cases hu:P.underlying f.type with
   | none=>grind
   | some d=>
    rw[hu]at h
    dsimp only at h
    cases hd:nU d with
    | none=>grind
    | some n=>
     rw[hd]at h
     cases hr:ox P (i+1) u with
     | none=>grind
     | some r=>
      rw[hr]at h
      simp only[oi.injEq]at h
      subst h
      obtain⟨a,b,E,hb,O,J⟩:=I 0 n rfl
      rw[Oe]at E hb
      have B:xs.drop i=a::xs.drop (i+1):=by
       rw[<- KH (kp.1 E).1,(kp.1 E).2]
      have G:ys.drop i=b::ys.drop (i+1):=by
       rw[<- KH (kp.1 hb).1,(kp.1 hb).2]
      have U:=M (i+1) r hr λj m Y=>by
       obtain⟨V,W,h1,h2,h3,h4⟩:=I (j+1) m dD
       grind
      unfold OG
      rw[ew hf.1,cX,Ry hu hd (v:=a) dD]
      simp only[mQ]
      rw[cX,Ry hu hd (v:=b) dD]
      simp only[mQ]
      rw[cX,KV hu hd O J]
      simp only[mQ,oE,B,G,List.take_succ_cons,An]
      cases he:eqV a b with
      | false=>rfl
      | true=>grind
  .cases h
theorem Ao{d:Nat}{t:TypeId}{u:Array Field}{xs ys:Array Value}(ht:P.underlying t=some (.struct u))(E:P.stoodInHeld t=false) :
  pr P (Op.equalIn (d+1) t (.agg xs) (.agg ys))=pr P (OG d xs ys u.toList):=by
 unfold Op.equalIn
 rw[cX,cZ ht]
 simp only[mQ,cX]
 rw[show pr P program=some P from rfl]
 simp only[mQ,E,Nb,if_false]
 rw[<- Array.forIn_toList]
 generalize u.toList=l
 clear ht
 induction l with
 | nil=>rfl
 | cons f l B=>
  rw[cX]at B
  simp only[List.forIn_cons,OG,cX]
  split
  .simp only[cX]
   cases pr P (part f.type xs f.offset)with
   | none=>rfl
   | some a=>
    simp only[mQ]
    cases pr P (part f.type ys f.offset)with
    | none=>rfl
    | some b=>
     simp only[mQ]
     cases pr P (Op.equalIn d f.type a b)with
     | none=>rfl
     | some r=>
      cases r
      .rfl
      .simp only[mQ,Bool.not_true,Nb,if_false,fR]
       exact B
  .simp only[fR,mQ]
   exact B
theorem IM{T:TypeId}{ks:List Nat}{xs ys:List Value}(h:Ec P T=some ks)(B:xs.map q7=ks.map some)(u:ys.map q7=ks.map some) :
  pr P (Op.equal T (.agg xs.toArray) (.agg ys.toArray))=some (An xs ys)/\P.eqGuardType P.depth T=false:=by
 unfold Ec at h
 split at h
 .rename_i fs hfs
  split at h
  .rename_i hc
   refine⟨?_,hc.2⟩
   show pr P (Op.equalIn 10000 T _ _)=_
   rw[Ao hfs hc.1]
   have E:xs.length=ks.length:=by have:=gO List.length B;grind
   have G:ys.length=ks.length:=by have:=gO List.length u;grind
   rw[KW (xs:=xs) (ys:=ys) fs.toList 0 ks h λj n I=>?_]
   .grind
   have J:j<ks.length:=(kp.1 I).1
   refine⟨xs[j]'(cK),ys[j]'(cK),ei,ei,?_,?_⟩
   .have:=gO (λl=>l[j]?) B
    grind
   have:=gO (λl=>l[j]?) u
   grind
  cases h
 cases h
theorem TN{T:Nat}{cx cy:Bool}{ks:List Nat}{xs ys:List Value}{K:Value->Prop}(h:Ec P T=some ks)(B:xs.map q7=ks.map some)(u:ys.map q7=ks.map some)(k:K (.bool (An xs ys))) :
  eP P (kj .eql T cx cy (.agg xs.toArray) (.agg ys.toArray)) K:=by
 obtain⟨h1,h2⟩:=IM h B u
 refine⟨_,?_,k⟩
 show pr P (if P.eqGuardType P.depth T=true then stuck "an interface in a part" else(do pure (wX (<- Op.equal T (.agg xs.toArray) (.agg ys.toArray))) : Sem Value))=_
 rw[h2,ej ei,xX,h1];rfl
theorem GZ{T:Nat}{cx cy:Bool}{ks:List Nat}{xs ys:List Value}{K:Value->Prop}{p:Prop}[Decidable p](h:Ec P T=some ks)(E:xs.map q7=ks.map some)(u:ys.map q7=ks.map some)
  (B:An xs ys=decide p) (k:K (.bool (decide p))):eP P (kj .eql T cx cy (.agg xs.toArray) (.agg ys.toArray)) K:=TN h E u (B▸k)
end
end Go.Fw
namespace Go.Proofs.YtpdlpabnlkofmaaGreatDoor
open Go.Fw
def bM:dF hH 3=some (false,1):=by kernel_rfl
def uA:ep hH 3=some (some (hZ 0)):=by kernel_rfl
def KX:Tryz.prog.underlying 3=some (.int .i64):=by kernel_rfl
def Ap:dF hH 4=some (false,1):=by kernel_rfl
def Wk:ep hH 4=some (some (.bool false)):=by kernel_rfl
def KY:Tryz.prog.underlying 4=some (.bool):=by kernel_rfl
def avf:Tryz.prog.underlying 5=some (.int .u8):=by kernel_rfl
def gw:dF hH 9=some (false,1):=by kernel_rfl
def afQ:ep hH 9=some (some (.string ⟨#[]⟩)):=by kernel_rfl
def il:Tryz.prog.underlying 9=some (.string):=by kernel_rfl
def oP:dF hH 22=some (false,1):=by kernel_rfl
def pJ:eQ hH 22=some (23,1,24,some 1):=by kernel_rfl
def jM:dF hH 23=some (false,1):=by kernel_rfl
def im:eQ hH 23=some (161,3,32,some 3):=by kernel_rfl
def iB:dF hH 24=some (false,1):=by kernel_rfl
def fy:eQ hH 24=some (146,4,72,some 4):=by kernel_rfl
def qQ:dF hH 25=some (false,1):=by kernel_rfl
def sX:eQ hH 25=some (85,2,32,some 2):=by kernel_rfl
def er:dF hH 27=some (true,6):=by kernel_rfl
def gy:aU hH 27 0=some (0,some true):=by kernel_rfl
def qf:aU hH 27 1=some (1,some true):=by kernel_rfl
def nQ:aU hH 27 2=some (2,some true):=by kernel_rfl
def kG:aU hH 27 3=some (3,some true):=by kernel_rfl
def oQ:aU hH 27 4=some (4,some true):=by kernel_rfl
def jw:aU hH 27 5=some (5,some true):=by kernel_rfl
def vj:ep hH 27=some (some (.agg [.slice none 0 0,.slice none 0 0,.slice none 0 0,.slice none 0 0,.slice none 0 0,.slice none 0 0].toArray)):=by kernel_rfl
def jN:dF hH 31=some (false,1):=by kernel_rfl
def ahM:ep hH 31=some (some (hZ 0)):=by kernel_rfl
def IN:dF hH 39=some (false,1):=by kernel_rfl
def gg:eQ hH 39=some (50,4,48,some 4):=by kernel_rfl
def ahN:ep hH 39=some (some (.slice none 0 0)):=by kernel_rfl
def qn:dF hH 40=some (false,1):=by kernel_rfl
def eg:dF hH 41=some (false,1):=by kernel_rfl
def cS:eQ hH 41=some (3,1,8,some 1):=by kernel_rfl
def ahO:ep hH 41=some (some (.slice none 0 0)):=by kernel_rfl
def Ed:dF hH 42=some (false,1):=by kernel_rfl
def Gn:eQ hH 42=some (129,1,8,some 1):=by kernel_rfl
def oR:aU hH 44 0=some (0,some true):=by kernel_rfl
def Rz:aU hH 44 1=some (6,some true):=by kernel_rfl
def Dn:aU hH 44 2=some (7,some true):=by kernel_rfl
def tm:aU hH 44 3=some (8,some true):=by kernel_rfl
def vk:aU hH 44 4=some (9,some true):=by kernel_rfl
def oS:aU hH 44 5=some (10,some true):=by kernel_rfl
def xZ:aU hH 44 6=some (11,some true):=by kernel_rfl
def RB:aU hH 44 7=some (12,some true):=by kernel_rfl
def kF:dF hH 50=some (true,4):=by kernel_rfl
def mW:aU hH 50 0=some (0,some true):=by kernel_rfl
def lE:aU hH 50 1=some (1,some true):=by kernel_rfl
def qg:aU hH 50 2=some (2,some true):=by kernel_rfl
def ma:aU hH 50 3=some (3,some true):=by kernel_rfl
def BQ:ep hH 50=some (some (.agg [hZ 0,hZ 0,hZ 0,.slice none 0 0].toArray)):=by kernel_rfl
def fj:dF hH 56=some (true,5):=by kernel_rfl
def acj:aU hH 56 0=some (0,some true):=by kernel_rfl
def RC:aU hH 56 1=some (1,some true):=by kernel_rfl
def mu:ep hH 56=some (some (.agg [hZ 0,hZ 0,hZ 0,hZ 0,hZ 0].toArray)):=by kernel_rfl
def eX:dF hH 63=some (true,4):=by kernel_rfl
def lF:aU hH 63 0=some (0,some true):=by kernel_rfl
def tn:aU hH 63 1=some (1,some true):=by kernel_rfl
def RD:aU hH 63 2=some (2,some true):=by kernel_rfl
def RE:aU hH 63 3=some (3,some true):=by kernel_rfl
def gQ:ep hH 63=some (some (.agg [hZ 0,hZ 0,hZ 0,.slice none 0 0].toArray)):=by kernel_rfl
def OH:eQ hH 72=some (56,5,40,some 5):=by kernel_rfl
def jx:dF hH 82=some (false,1):=by kernel_rfl
def gX:eQ hH 82=some (164,4,40,some 4):=by kernel_rfl
def IP:dF hH 85=some (true,2):=by kernel_rfl
def vl:aU hH 85 0=some (0,some true):=by kernel_rfl
def IQ:aU hH 85 1=some (1,some true):=by kernel_rfl
def OI:ep hH 85=some (some (.agg [.slice none 0 0,hZ 0].toArray)):=by kernel_rfl
def Aq:dF hH 88=some (false,1):=by kernel_rfl
def jk:dF hH 91=some (false,1):=by kernel_rfl
def iC:eQ hH 91=some (9,1,16,some 1):=by kernel_rfl
def ahP:ep hH 91=some (some (.slice none 0 0)):=by kernel_rfl
def KZ:dF hH 93=some (false,1):=by kernel_rfl
def IS:dF hH 94=some (false,1):=by kernel_rfl
def La:eQ hH 94=some (135,1,8,some 1):=by kernel_rfl
def Dp:aU hH 96 0=some (0,some true):=by kernel_rfl
def IT:aU hH 96 1=some (6,some true):=by kernel_rfl
def IU:aU hH 96 2=some (7,some true):=by kernel_rfl
def ack:aU hH 96 3=some (8,some true):=by kernel_rfl
def tu:aU hH 96 4=some (9,some true):=by kernel_rfl
def vm:aU hH 96 5=some (10,some true):=by kernel_rfl
def vn:aU hH 96 6=some (11,some true):=by kernel_rfl
def IV:aU hH 96 7=some (12,some true):=by kernel_rfl
def ya:aU hH 96 8=some (13,some true):=by kernel_rfl
def RF:aU hH 96 9=some (14,some true):=by kernel_rfl
def yK:dF hH 103=some (false,1):=by kernel_rfl
def yL:dF hH 114=some (true,5):=by kernel_rfl
def Lb:aU hH 114 0=some (0,some true):=by kernel_rfl
def As:aU hH 114 1=some (1,some true):=by kernel_rfl
def qo:aU hH 114 3=some (3,some true):=by kernel_rfl
def qp:aU hH 114 4=some (4,some true):=by kernel_rfl
def yb:ep hH 114=some (some (.agg [hZ 0,hZ 0,hZ 0,.bool false,.bool false].toArray)):=by kernel_rfl
def uB:eQ hH 117=some (4,1,1,some 1):=by kernel_rfl
def tA:dF hH 120=some (false,1):=by kernel_rfl
def tB:eQ hH 120=some (125,3,24,some 3):=by kernel_rfl
def uC:aU hH 122 0=some (0,some true):=by kernel_rfl
def Wl:aU hH 122 1=some (1,some true):=by kernel_rfl
def rX:aU hH 122 2=some (2,some true):=by kernel_rfl
def Au:aU hH 122 3=some (3,some true):=by kernel_rfl
def kN:aU hH 122 4=some (4,some true):=by kernel_rfl
def Wm:dF hH 125=some (true,3):=by kernel_rfl
def wN:aU hH 125 0=some (0,some true):=by kernel_rfl
def Lc:aU hH 125 1=some (1,some true):=by kernel_rfl
def Ld:aU hH 125 2=some (2,some true):=by kernel_rfl
def acm:ep hH 125=some (some (.agg [hZ 0,hZ 0,hZ 0].toArray)):=by kernel_rfl
def G0:eQ hH 126=some (41,1,24,some 1):=by kernel_rfl
def G3:dF hH 129=some (false,1):=by kernel_rfl
def uD:dF hH 130=some (false,1):=by kernel_rfl
def nz:eQ hH 130=some (218,12,176,some 12):=by kernel_rfl
def kP:aU hH 132 0=some (0,some true):=by kernel_rfl
def Le:aU hH 132 1=some (1,some true):=by kernel_rfl
def Lf:aU hH 132 2=some (2,some true):=by kernel_rfl
def nA:aU hH 132 3=some (3,some true):=by kernel_rfl
def wO:aU hH 132 4=some (4,some true):=by kernel_rfl
def G4:dF hH 135=some (false,1):=by kernel_rfl
def rY:dF hH 136=some (false,1):=by kernel_rfl
def uE:eQ hH 136=some (143,2,32,some 2):=by kernel_rfl
def oT:aU hH 138 0=some (0,some true):=by kernel_rfl
def Av:aU hH 138 1=some (1,some true):=by kernel_rfl
def Aw:aU hH 138 2=some (2,some true):=by kernel_rfl
def jO:aU hH 138 3=some (3,some true):=by kernel_rfl
def wP:aU hH 138 4=some (4,some true):=by kernel_rfl
def jP:dF hH 141=some (false,1):=by kernel_rfl
def fq:eQ hH 141=some (193,9,120,some 9):=by kernel_rfl
def Lg:aU hH 143 0=some (0,some true):=by kernel_rfl
def Wn:aU hH 143 1=some (1,some true):=by kernel_rfl
def m7:dF hH 146=some (true,4):=by kernel_rfl
def qq:aU hH 146 0=some (0,some true):=by kernel_rfl
def fS:aU hH 146 1=some (1,some true):=by kernel_rfl
def lK:aU hH 146 2=some (2,some true):=by kernel_rfl
def qt:aU hH 146 3=some (3,some true):=by kernel_rfl
def tC:ep hH 146=some (some (.agg [.string ⟨#[]⟩,.slice none 0 0,.slice none 0 0,hZ 0].toArray)):=by kernel_rfl
def mc:dF hH 161=some (true,3):=by kernel_rfl
def kQ:aU hH 161 0=some (0,some true):=by kernel_rfl
def rZ:aU hH 161 1=some (1,some true):=by kernel_rfl
def uF:aU hH 161 2=some (2,some true):=by kernel_rfl
def oU:ep hH 161=some (some (.agg [.string ⟨#[]⟩,hZ 0,hZ 0].toArray)):=by kernel_rfl
def r7:dF hH 164=some (true,4):=by kernel_rfl
def fa:aU hH 164 0=some (0,some true):=by kernel_rfl
def jo:aU hH 164 1=some (1,some true):=by kernel_rfl
def gk:aU hH 164 2=some (2,some true):=by kernel_rfl
def r8:aU hH 164 3=some (3,some true):=by kernel_rfl
def yc:ep hH 164=some (some (.agg [hZ 0,hZ 0,.string ⟨#[]⟩,hZ 0].toArray)):=by kernel_rfl
def G5:dF hH 165=some (false,1):=by kernel_rfl
def RG:ep hH 165=some (some (.map none)):=by kernel_rfl
def anO:dF hH 177=some (true,3):=by kernel_rfl
def Wo:aU hH 177 0=some (0,some true):=by kernel_rfl
def Wp:aU hH 177 1=some (1,some true):=by kernel_rfl
def Wq:aU hH 177 2=some (2,some true):=by kernel_rfl
def acn:ep hH 177=some (some (.agg [.string ⟨#[]⟩,hZ 0,.slice none 0 0].toArray)):=by kernel_rfl
def iO:dF hH 179=some (false,1):=by kernel_rfl
theorem fT:eQ hH 179=some (231,4,32,some 4):=by kernel_rfl
def Wr:aU hH 181 0=some (0,some true):=by kernel_rfl
def kR:aU hH 181 1=some (1,some true):=by kernel_rfl
def yM:dF hH 185=some (false,1):=by kernel_rfl
def wQ:aU hH 187 0=some (0,some true):=by kernel_rfl
def Ws:aU hH 187 1=some (1,some true):=by kernel_rfl
def r9:aU hH 187 2=some (2,some true):=by kernel_rfl
def Ax:aU hH 187 3=some (3,some true):=by kernel_rfl
def sd:aU hH 187 4=some (4,some true):=by kernel_rfl
def eM:dF hH 193=some (true,9):=by kernel_rfl
def dM:aU hH 193 0=some (0,some true):=by kernel_rfl
def iH:aU hH 193 1=some (1,some true):=by kernel_rfl
def fZ:aU hH 193 2=some (2,some true):=by kernel_rfl
def iX:aU hH 193 3=some (3,some true):=by kernel_rfl
def j6:aU hH 193 4=some (4,some true):=by kernel_rfl
def jQ:aU hH 193 5=some (5,some true):=by kernel_rfl
def iY:aU hH 193 6=some (6,some true):=by kernel_rfl
def iI:aU hH 193 7=some (7,some true):=by kernel_rfl
def lL:aU hH 193 8=some (8,some true):=by kernel_rfl
def jy:ep hH 193=some (some (.agg [hZ 0,.string ⟨#[]⟩,.string ⟨#[]⟩,.slice none 0 0,.slice none 0 0,hZ 0,hZ 0,hZ 0,hZ 0].toArray)):=by kernel_rfl
def Wt:aU hH 196 0=some (0,some true):=by kernel_rfl
def gZ:aU hH 196 1=some (1,some true):=by kernel_rfl
def jq:dF hH 198=some (false,1):=by kernel_rfl
def fL:eQ hH 198=some (209,4,40,some 4):=by kernel_rfl
def j7:aU hH 203 0=some (0,some true):=by kernel_rfl
def fz:aU hH 203 1=some (1,some true):=by kernel_rfl
def mw:aU hH 203 2=some (2,some true):=by kernel_rfl
def wR:aU hH 203 3=some (3,some true):=by kernel_rfl
def afR:dF hH 209=some (true,4):=by kernel_rfl
def lM:aU hH 209 0=some (0,some true):=by kernel_rfl
def nB:aU hH 209 1=some (1,some true):=by kernel_rfl
def se:aU hH 209 2=some (2,some true):=by kernel_rfl
def lO:aU hH 209 3=some (3,some true):=by kernel_rfl
def aco:ep hH 209=some (some (.agg [hZ 0,.string ⟨#[]⟩,hZ 0,hZ 0].toArray)):=by kernel_rfl
def Lh:dF hH 218=some (true,12):=by kernel_rfl
def oV:aU hH 218 0=some (0,some true):=by kernel_rfl
def Li:aU hH 218 1=some (9,some true):=by kernel_rfl
def Wu:aU hH 218 2=some (10,some true):=by kernel_rfl
def Lj:aU hH 218 3=some (11,some true):=by kernel_rfl
def RH:ep hH 218=some (some (.agg [hZ 0,.string ⟨#[]⟩,.string ⟨#[]⟩,.slice none 0 0,.slice none 0 0,hZ 0,hZ 0,hZ 0,hZ 0,.slice none 0 0,.slice none 0 0,.bool false].toArray)):=by kernel_rfl
def CC:eQ hH 224=some (227,2,16,some 2):=by kernel_rfl
def Ay:ep hH 224=some (some (.slice none 0 0)):=by kernel_rfl
def RI:dF hH 227=some (true,2):=by kernel_rfl
def Lk:aU hH 227 0=some (0,some true):=by kernel_rfl
def Ll:aU hH 227 1=some (1,some true):=by kernel_rfl
def RJ:ep hH 227=some (some (.agg [hZ 0,hZ 0].toArray)):=by kernel_rfl
def iw:dF hH 231=some (true,4):=by kernel_rfl
def gH:aU hH 231 0=some (0,some true):=by kernel_rfl
def g8:aU hH 231 1=some (1,some true):=by kernel_rfl
def my:aU hH 231 2=some (2,some true):=by kernel_rfl
def oW:aU hH 231 3=some (3,some true):=by kernel_rfl
def rA:ep hH 231=some (some (.agg [hZ 0,hZ 0,hZ 0,hZ 0].toArray)):=by kernel_rfl
def RK:dF hH 249=some (false,1):=by kernel_rfl
def acp:ep hH 249=some (some (.nilFunc)):=by kernel_rfl
def tD:eQ hH 277=some (320,2,16,some 2):=by kernel_rfl
def wT:dF hH 288=some (false,1):=by kernel_rfl
def Lm:eQ hH 300=some (24,1,24,some 1):=by kernel_rfl
def iJ:aU hH 305 0=some (0,some true):=by kernel_rfl
def fb:aU hH 305 1=some (1,some true):=by kernel_rfl
def kS:aU hH 305 2=some (2,some true):=by kernel_rfl
def Az:aU hH 305 3=some (3,some true):=by kernel_rfl
def qu:aU hH 305 4=some (4,some true):=by kernel_rfl
def fX:dF hH 308=some (true,4):=by kernel_rfl
def sf:aU hH 308 0=some (0,some true):=by kernel_rfl
def oX:aU hH 308 1=some (1,some true):=by kernel_rfl
def uG:aU hH 308 2=some (2,some true):=by kernel_rfl
def Wv:aU hH 308 3=some (3,some true):=by kernel_rfl
def tE:ep hH 308=some (some (.agg [.slice none 0 0,hZ 0,hZ 0,hZ 0].toArray)):=by kernel_rfl
def qw:aU hH 316 0=some (0,some true):=by kernel_rfl
def uH:aU hH 318 0=some (0,some true):=by kernel_rfl
def Ln:aU hH 318 1=some (1,some true):=by kernel_rfl
def acq:ep hH 318=some (some (.agg [.slice none 0 0,hZ 0].toArray)):=by kernel_rfl
def Ee:dF hH 320=some (true,2):=by kernel_rfl
def nD:aU hH 320 0=some (0,some true):=by kernel_rfl
def qx:aU hH 320 1=some (1,some true):=by kernel_rfl
def IW:ep hH 320=some (some (.agg [hZ 0,hZ 0].toArray)):=by kernel_rfl
def Ww:dF hH 348=some (true,16):=by kernel_rfl
def RL:ep hH 348=some (some (.agg [.nilFunc,.nilFunc,.nilFunc,.nilFunc,.nilFunc,.nilFunc,.nilFunc,.nilFunc,.nilFunc,.nilFunc,.nilFunc,.nilFunc,.nilFunc,.nilFunc,.nilFunc,.nilFunc].toArray)):=by kernel_rfl
def anP:dF hH 361=some (false,1):=by kernel_rfl
def afS:dF hH 364=some (true,15):=by kernel_rfl
def acr:ep hH 364=some (some (.agg [.string ⟨#[]⟩,.string ⟨#[]⟩,.string ⟨#[]⟩,.string ⟨#[]⟩,.string ⟨#[]⟩,.string ⟨#[]⟩,.string ⟨#[]⟩,.string ⟨#[]⟩,.string ⟨#[]⟩,.string ⟨#[]⟩,.string ⟨#[]⟩,.string ⟨#[]⟩,.string ⟨#[]⟩,.string ⟨#[]⟩,.string ⟨#[]⟩].toArray)):=by kernel_rfl
def nE(M:Option Addr)(U W:Nat)(G:Option Addr)(I B:Nat)(J:Option Addr)(E Y:Nat)(V:Option Addr)(O u:Nat):pr hH (l4 27 [(1,.slice M U W),(2,.slice G I B),(3,.slice J E Y),(4,.slice V O u)].toArray)=some (.agg [.slice none 0 0,.slice M U W,.slice G I B,.slice J E Y,.slice V O u,.slice none 0 0].toArray):=by kernel_rfl
def G6(B:Option Addr)(E u:Nat)(G:Int):pr hH (l4 85 [(0,.slice B E u),(1,hZ G)].toArray)=some (.agg [.slice B E u,hZ G].toArray):=by kernel_rfl
def OJ(u:Option Addr)(B J:Nat)(E:Option Addr)(G I:Nat):pr hH (l4 122 [(0,.slice u B J),(1,.slice E G I)].toArray)=some (.agg [.slice u B J,.slice E G I,.slice none 0 0,.slice none 0 0,.slice none 0 0].toArray):=by kernel_rfl
def IX(B:Int)(E:Int)(u:Int):pr hH (l4 125 [(0,hZ B),(1,hZ E),(2,hZ u)].toArray)=some (.agg [hZ B,hZ E,hZ u].toArray):=by kernel_rfl
def OK(u:ByteArray)(B:Int):pr hH (l4 146 [(0,.string u),(3,hZ B)].toArray)=some (.agg [.string u,.slice none 0 0,.slice none 0 0,hZ B].toArray):=by kernel_rfl
def AA(B:ByteArray)(I:Int)(E:Option Addr)(G u:Nat):pr hH (l4 146 [(0,.string B),(3,hZ I),(2,.slice E G u)].toArray)=some (.agg [.string B,.slice none 0 0,.slice E G u,hZ I].toArray):=by kernel_rfl
def Wx(u:Int):pr hH (l4 146 [(3,hZ u)].toArray)=some (.agg [.string ⟨#[]⟩,.slice none 0 0,.slice none 0 0,hZ u].toArray):=by kernel_rfl
def acs:pr hH (l4 161 [].toArray)=some (.agg [.string ⟨#[]⟩,hZ 0,hZ 0].toArray):=by kernel_rfl
def Ef(B:ByteArray)(u:Int):pr hH (l4 161 [(0,.string B),(2,hZ u)].toArray)=some (.agg [.string B,hZ 0,hZ u].toArray):=by kernel_rfl
def IY(u:Int)(E:Int)(B:Int):pr hH (l4 164 [(0,hZ u),(1,hZ E),(3,hZ B)].toArray)=some (.agg [hZ u,hZ E,.string ⟨#[]⟩,hZ B].toArray):=by kernel_rfl
def IZ(B:Int)(u:ByteArray)(E:Int):pr hH (l4 164 [(0,hZ B),(2,.string u),(3,hZ E)].toArray)=some (.agg [hZ B,hZ 0,.string u,hZ E].toArray):=by kernel_rfl
def Eg(u:Int)(B:Int):pr hH (l4 164 [(0,hZ u),(3,hZ B)].toArray)=some (.agg [hZ u,hZ 0,.string ⟨#[]⟩,hZ B].toArray):=by kernel_rfl
def Wy(u:Int):pr hH (l4 181 [(0,hZ u)].toArray)=some (.agg [hZ u,.slice none 0 0].toArray):=by kernel_rfl
def Eh(B:Option Addr)(I V:Nat)(J:Option Addr)(M U:Nat)(E:Option Addr)(G u:Nat)(O:Option Nat):pr hH (l4 187 [(0,.slice B I V),(1,.slice J M U),(2,.slice E G u),(4,.map O)].toArray)=some (.agg [.slice B I V,.slice J M U,.slice E G u,.slice none 0 0,.map O].toArray):=by kernel_rfl
def OL(B:Int)(u:Int):pr hH (l4 193 [(0,hZ B),(8,hZ u)].toArray)=some (.agg [hZ B,.string ⟨#[]⟩,.string ⟨#[]⟩,.slice none 0 0,.slice none 0 0,hZ 0,hZ 0,hZ 0,hZ u].toArray):=by kernel_rfl
def Wz(u:Int):pr hH (l4 196 [(0,hZ u)].toArray)=some (.agg [hZ u,.slice none 0 0].toArray):=by kernel_rfl
def WA(B:Option Addr)(E u:Nat):pr hH (l4 203 [(0,.slice B E u)].toArray)=some (.agg [.slice B E u,hZ 0,hZ 0,hZ 0].toArray):=by kernel_rfl
def WB(u:Int):pr hH (l4 209 [(3,hZ u)].toArray)=some (.agg [hZ 0,.string ⟨#[]⟩,hZ 0,hZ u].toArray):=by kernel_rfl
def OM(u:Int)(B:Int):pr hH (l4 227 [(0,hZ u),(1,hZ B)].toArray)=some (.agg [hZ u,hZ B].toArray):=by kernel_rfl
def yd:pr hH (l4 231 [].toArray)=some (.agg [hZ 0,hZ 0,hZ 0,hZ 0].toArray):=by kernel_rfl
def AB(u:Int):pr hH (l4 231 [(0,hZ u)].toArray)=some (.agg [hZ u,hZ 0,hZ 0,hZ 0].toArray):=by kernel_rfl
def ON(B:Option Addr)(E u:Nat)(G:Int):pr hH (l4 305 [(0,.slice B E u),(1,hZ G)].toArray)=some (.agg [.slice B E u,hZ G,hZ 0,hZ 0,.slice none 0 0].toArray):=by kernel_rfl
def zo(B:Option Addr)(E u:Nat)(G:Int):pr hH (l4 308 [(0,.slice B E u),(1,hZ G)].toArray)=some (.agg [.slice B E u,hZ G,hZ 0,hZ 0].toArray):=by kernel_rfl
def OO(u:Int)(B:Int):pr hH (l4 308 [(2,hZ u),(3,hZ B)].toArray)=some (.agg [.slice none 0 0,hZ 0,hZ u,hZ B].toArray):=by kernel_rfl
def Ei(u:Int)(B:Int):pr hH (l4 320 [(0,hZ u),(1,hZ B)].toArray)=some (.agg [hZ u,hZ B].toArray):=by kernel_rfl
def WC:Ec hH 231=some [0,0,0,0]:=by kernel_rfl
end Go.Proofs.YtpdlpabnlkofmaaGreatDoor
namespace Go.Fw
def sep(H1 H2:HP):HP where
 p w F:=∃u B,H1.p w u/\H2.p w B/\(∀b,u b->¬ B b)/\∀b,F b↔u b\/B b
 loc w w' F h hh:=by
  obtain⟨u,B,h1,h2,h3,h4⟩:=h
  exact⟨u,B,H1.loc _ _ _ h1 λb hb=>hh b ((h4 b).2 (.inl hb)),H2.loc _ _ _ h2 λb hb=>hh b ((h4 b).2 (.inr hb)),h3,h4⟩
 lt w F b h hb:=by
  obtain⟨u,B,h1,h2,h3,h4⟩:=h
  rcases(h4 b).1 hb with hf|hf
  .exact H1.lt _ _ _ h1 hf
  .exact H2.lt _ _ _ h2 hf
def pK{α:Type}(H:α->HP):HP where
 p w F:=∃x,(H x).p w F
 loc w w' F h hh:=by obtain⟨x,h⟩:=h;exact⟨x,(H x).loc _ _ _ h hh⟩
 lt w F b h hb:=by obtain⟨x,h⟩:=h;exact(H x).lt _ _ _ h hb
def fact(φ:Prop)(H:HP):HP where
 p w F:=φ/\H.p w F
 loc w w' F h hh:=⟨h.1,H.loc _ _ _ h.2 hh⟩
 lt w F b h hb:=H.lt _ _ _ h.2 hb
def emp:HP where
 p _ F:=∀b,¬ F b
 loc _ _ _ h _:=h
 lt _ _ b h hb:=(h b hb).elim
section
variable {P:Program}{w w0 w':World}{A:Nat->Prop}{L:List HP}{H H1 H2:HP}
theorem St.split(h:St w0 A (sep H1 H2::L) w):St w0 A (H1::H2::L) w:=by
 obtain⟨U,F,B,⟨I,G,M,J,O,u⟩,h2,h3,h4,h5⟩:=h.tW
 refine⟨h.aG,U,I,λb=>G b\/B b,M,λb hb=>h2 b ((u b).2 (.inl hb)),λb hb E=>?_,λb=>?_,G,B,J,λb hb=>h2 b ((u b).2 (.inr hb)),λb hb E=>h3 b ((u b).2 (.inr hb)) E,λb=>Iff.rfl,h5⟩
 .grind
 grind
theorem St.join(h:St w0 A (H1::H2::L) w):St w0 A (sep H1 H2::L) w:=by
 obtain⟨U,F,W,h1,h2,h3,h4,u,I,G,E,O,M,J⟩:=h.tW
 refine⟨h.aG,U,λb=>F b\/u b,I,⟨F,u,h1,G,λb hb B=>h3 b hb ((M b).2 (.inl B)),λb=>Iff.rfl⟩,λb hb=>hb.elim (h2 b) (E b),λb hb V=>?_,λb=>?_,J⟩
 .grind
 grind
theorem St.eh{α:Type}{H:α->HP}(h:St w0 A (pK H::L) w):∃x,St w0 A (H x::L) w:=by
 obtain⟨U,F,u,⟨x,h1⟩,h2⟩:=h.tW;exact⟨x,h.aG,U,F,u,h1,h2⟩
theorem St.ek{α:Type}{H:α->HP}(x:α)(h:St w0 A (H x::L) w):St w0 A (pK H::L) w:=by
 obtain⟨U,F,u,h1,h2⟩:=h.tW;exact⟨h.aG,U,F,u,⟨x,h1⟩,h2⟩
theorem St.mz{φ:Prop}(h:St w0 A (fact φ H::L) w):φ/\St w0 A (H::L) w:=by
 obtain⟨U,F,u,⟨x,h1⟩,h2⟩:=h.tW;exact⟨x,h.aG,U,F,u,h1,h2⟩
theorem St.oy{φ:Prop}(x:φ)(h:St w0 A (H::L) w):St w0 A (fact φ H::L) w:=by
 simp_all[fact]
def mR(F:Nat->Prop)(H':HP)(w w':World):Prop:=∃u,H'.p w' u/\(∀b,u b->F b\/w.heap.size<=b)/\gv F w w'
def lh(H:HP)(w w':World):Prop:=∃F,H.p w' F/\(∀b,F b->w.heap.size<=b)/\Ext w w'
theorem St.mut{F:Nat->Prop}(u:St w F (H::L) w'):mR F H w w':=by
 obtain⟨B,h1,h2⟩:=u.head;exact⟨B,h1,h2,u.aG⟩
theorem St.fresh(u:St w aZ (H::L) w'):lh H w w':=by
 obtain⟨B,h1,h2⟩:=u.head;exact⟨B,h1,λb hb=>(h2 b hb).elim (λh=>h.elim) id,u.aG⟩
theorem St.made(u:St w0 A L w)(h:lh H w w'):St w0 A (H::L) w':=by
 obtain⟨F,h1,h2,h3⟩:=h;exact u.new h3 h1 h2
theorem aV{f:FuncId}{args:List Value}{X:Value}{K:Value->hM}(pl:Plain P f)(u:St w0 A L w)(hc:Calls P f args.toArray w (tV λv w'=>v=X/\Ext w w'))(k:∀w',Ext w w'->St w0 A L w'->K X w'):Cv P f args w K:=
 dO pl hc λv w' h=>by obtain⟨rfl,h2⟩:=h;exact k w' h2 (u.ext h2)
theorem dY{f:FuncId}{args:List Value}{H:Value->HP}{K:Value->hM}(pl:Plain P f)(u:St w0 A L w)(hc:Calls P f args.toArray w (tV λv w'=>lh (H v) w w'))(k:∀v w',lh (H v) w w'->St w0 A (H v::L) w'->K v w'):Cv P f args w K:=
 dO pl hc λv w' h=>k v w' h (u.made h)
theorem St.WD{F:Nat->Prop}{B:Nat->Prop}{H':HP}(G:St w0 A (H::L) w)(h2:∀b,F b->A b\/w0.heap.size<=b)(h3:∀b,F b->¬ B b)(h5:rU w0 A L w B)(h:mR F H' w w'):St w0 A (H'::L) w':=by
 obtain⟨M,O,I,E⟩:=h
 refine⟨G.aG.trans E (λ_ h=>h) λb hb u=>(h2 b u).elim id λU=>cK,λb=>M b\/B b,M,B,O,λb hb=>?_,λb hb J=>?_,λb=>Iff.rfl,?_⟩
 .rcases I b hb with u|u
  .exact h2 b u
  exact .inr (wS G.aG.size u)
 .rcases I b hb with u|u
  .exact h3 b u J
  have:=h5.lt b J;omega
 exact h5.loc λb hb=>E.bY b (h5.lt b hb) λu=>h3 b u hb
theorem qh{f:FuncId}{args:List Value}{H':Value->HP}{Φ:Value->hM}{K:Value->hM}(pl:Plain P f)(u:St w0 A (H::L) w)
  (hc:∀F,H.p w F->Calls P f args.toArray w (tV λv w'=>Φ v w'/\mR F (H' v) w w')) (k:∀v w',Φ v w'->St w0 A (H' v::L) w'->K v w'):Cv P f args w K:=by
 obtain⟨U,F,G,h1,h2,h3,h4,h5⟩:=u.tW
 exact dO pl (hc F h1) λv w' ⟨E,B⟩=>k v w' E (u.WD h2 h3 h5 B)
end
section
variable {α:Type}[Flat α] {P:Program}{w w0:World}{A S:Nat->Prop}{L:List HP}{xs ys:List α}
theorem dC.one{v:Value}(h:dC S w v xs):wG v=true:=by obtain⟨a,c,rfl,_⟩:=h;rfl
theorem Gp{T E O R b n cap:Nat}{z:Option Nat}{src:Value}{cs:List Value}(ht:eQ P T=some (E,mI α,O,z))(hb:mT w b cs)(u:dC S w src ys)
  (U:n+ys.length<=cap) (Z:n*mI α+ys.length*mI α<=cs.length) :
  ∃w',(Builtin.append_ #[T,T] R [.slice (some ⟨b,0,none⟩) n cap,src].toArray).run P w=.ok (.slice (some ⟨b,0,none⟩) (n+ys.length) cap) w'/\mT w' b (jj cs (n*mI α) (flat ys))/\gv (· = b) w w':=by
 obtain⟨J,W,hi,M,wJ,_⟩:=fp ht
 have rd:=u
 obtain⟨Y,Gk,rfl,B,G⟩:=rd
 obtain⟨w',h1,h2,h3⟩:=mV (P:=P) (o:=n*mI α) (flat ys) 0 cs w hb (by rw[dA];omega) Ak
 refine⟨w',?_,cK,h3⟩
 have I:=xY (α:=α) (P:=P) (sz:=mI α) rfl u
 have V:(⟨b,0,none⟩:Addr).add (n*mI α)=⟨b,n*mI α,none⟩:=by rw[gF,u1]
 simp[Builtin.append_,run_underlying J,sizeOf,typeInfo,hi,Builtin.lenOf,U,I,M,V,h1]
theorem TO{T E J R b o n c:Nat}{z:α}{cs:List Value}(ht:Vr P T E (mI α) J)(u:ot P E (ia z))(hb:mT w b cs)(O:o+n*mI α<=cs.length) :
  ∃w',(Builtin.clear_ #[T] R [.slice (some ⟨b,o,none⟩) n c].toArray).run P w=.ok (.tuple #[]) w'/\mT w' b (jj cs o (flat (r6 n z)))/\gv (· = b) w w':=by
 obtain⟨G,M,hi,U,V,_⟩:=fp ht
 unfold ot ep at u
 rw[hi]at u
 simp only[Option.map_some,oi.injEq]at u
 by_cases I:n=0
 .subst I
  refine⟨w,?_,by simpa[kL,jj]using hb,gv.refl _ _⟩
  simp[Builtin.clear_,run_underlying G]
 have B:(Builtin.zeroCells (ia z).cells n).toList=flat (r6 n z):=by
  rw[pI,<- wK]
  unfold Builtin.zeroCells madeCells
  simp[x7]
 obtain⟨w',h1,h2,h3⟩:=mV (P:=P) (o:=o) (flat (r6 n z)) 0 cs w hb (by rw[dA,List.length_replicate];omega) Ak
 refine⟨w',?_,cK,h3⟩
 simp[Builtin.clear_,run_underlying G,zeroValue,typeInfo,hi,u,I,B,h1]
theorem WE{T E sz I n cap:Nat}{z:Option Nat}{a:Option Addr}{i j k:Int}{K:Value->Prop}(ht:eQ P T=some (E,sz,I,z))(O:0<=i)(h1:i<=j)(h2:j<=k)(h3:k<=cap)
  (M:∀v,K v):eP P (n4 T (.slice a n cap) (some (hZ i)) (some (hZ j)) (some (hZ k))) K:=by
 obtain⟨u,J,B,G,_⟩:=fp ht
 have hb:pr P (v7 true n cap (some (hZ i)) (some (hZ j)) (some (hZ k)))=some (i.toNat,j.toNat,k.toNat):=by
  simp only[v7,cX,fR,mQ]
  rw[jn cK cK]
  simp only[mQ]
  rw[jn cK cK]
  simp only[mQ]
  rw[jn cK cK]
  rfl
 refine⟨.slice (if k.toNat=i.toNat then a else a.map (·.add (i.toNat*sz))) (j.toNat-i.toNat) (k.toNat-i.toNat),?_,M _⟩
 unfold n4
 rw[cX,cZ u]
 simp only[mQ]
 unfold Px
 rw[cX,cZ u]
 simp only[mQ]
 rw[cX,hb]
 simp only[mQ]
 rw[cX,mU B,G]
 rfl
end
def nF(b:Nat)(o:Obj):HP where
 p w F:=w.heap[b]?=some o/\∀k,F k↔k=b
 loc w w' F h hh:=⟨(hh b ((h.2 b).2 rfl)).trans h.1,h.2⟩
 lt w F b' h hb:=dD
section
variable {P:Program}{w w0 w':World}{A:Nat->Prop}{L:List HP}
theorem St.obj{b:Nat}{o:Obj}(u:St w0 A (nF b o::L) w):w.heap[b]?=some o:=by
 obtain⟨F,h,_⟩:=u.head;exact h.1
theorem Ext.alloc(w:World)(o:Obj):Ext w (w.alloc o):=Ext.push w o
theorem St.alloc{o:Obj}(u:St w0 A L w):St w0 A (nF w.heap.size o::L) (w.alloc o):=
 u.new (F:=(· = w.heap.size)) (Ext.alloc w o) ⟨mn w o,λ_=>Iff.rfl⟩ λb hb=>Nat.le_of_eq hb.symm
theorem gv.putObj(w:World)(b:Nat)(o:Obj):gv (· = b) w (w.putObj b o):=
 ⟨rfl,rfl,rfl,ei,λk _ u=>World.putObj_heap_other u⟩
theorem St.putObj{b:Nat}{o:Obj}(u:Obj)(E:St w0 A (nF b o::L) w):St w0 A (nF b u::L) (w.putObj b u):=
 E.rz λF B=>⟨F,⟨World.putObj_heap_same (vi B.1),B.2⟩,λ_ h=>.inl h,(gv.putObj w b u).mono λk G=>(B.2 k).2 G⟩
theorem kI.mono{fv:Value}{args:List Value}{K u:Value->hM}(h:kI P fv args w K)(B:∀v w,K v w->u v w):kI P fv args w u:=
 GF.mono (P:=P) (k:=.Ra fv args) h B
theorem aI{α:Type}[Flat α]{T:TypeId}{b:Nat}{cs:List Value}{x:α}{K:hM}(E:St w0 A (bY b cs::L) w)(ht:ace P T (mI α))(B:Ib α=true)(u:cs.length=mI α)
  (k:∀w',St w0 A (bY b (j0 x)::L) w'->K w'):Vo P (JB T (.pointer (some ⟨b,0,none⟩)) (ia x)) w K:=by
 rw[abl B]
 refine Eb E ht (x7 x) (by rw[u1,u];exact o6 _) (WQ x) λw' h=>k w' ?_
 have:=mr [] cs [] (j0 x) (by rw[x7,u])
 simp only[List.length_nil,List.nil_append,pL]at this
 rwa [this]at h
theorem eN{α:Type}[Flat α]{S:Nat->Prop}{T:TypeId}{p:Value}{x:α}(ht:dF P T=some (Ib α,mI α))(h:At S w p x):(xR T p).run P w=.ok (ia x) w:=by
 obtain⟨v,h1,h2⟩:=(aD (K:=λv=>v=ia x) ht h rfl).ex
 grind
theorem j8{b:Bool}{A B:Prop}(h:b=true)(a:A):yD (.bool b) A B:=⟨⟨_,rfl,λ_=>a,λu=>dD⟩⟩
theorem fx{b:Bool}{A B:Prop}(h:b=false)(a:B):yD (.bool b) A B:=⟨⟨_,rfl,λu=>dD,λ_=>a⟩⟩
theorem Ej{D:Nat}{K:hM}(u:St w0 A (nF D (.deferred (some []))::L) w)(k:∀w',St w0 A L w'->K w'):mS [D] w K:=
 ⟨u.obj,k _ (u.putObj (.deferred none)).drop⟩
theorem Ek(u:Loop)(h1:u.state=.ready)(h2:u.pending=none):({u with state:=if (none:Option Code).isNone=true then LoopState.ready else LoopState.done,pending:=none}:Loop)=u:=by
 cases u;grind
theorem wU{gf np:Nat}{cap:List Value}{xs:List (List Value)}{round:List Value->World->(World->(hM)->Prop)->(Option Code->hM)->Prop}
  {N R:Nat->hM}{X:Nat->Nat->hM}(pl:Plain P gf) (hs:St w0 A L w) (I:Nat->List HP->Prop) (Z:Code->List HP->Prop) (h0:I 0 L) (hnp:∀x∈xs,x.length=np)
  (hgf:∀(y:Value) (J:Nat->hM) (Jx:hM) (W:World),(∀k W,J k W->∃Y M,I k M/\St w0 A (Y::M) W)->(∀k W O,J k W->Ext W O->J k O)->J 0 W->
   (∀k args O,xs[k]?=some args->J k O->kI P y args O λv V=>(v=.bool true/\J (k+1) V)\/(v=.bool false/\Jx V))->
   Calls P gf ([y]++cap).toArray W (tV λ_ O=>J xs.length O\/Jx O))
  (D5:∀k args (Y1 Y2:HP) (B:World->(hM)->Prop) (Kr:Option Code->hM) M W,xs[k]?=some args->I k M->
   (∀M E (kk:hM),St w0 A (Y1::M) E->(∀w2,St w0 A (Y2::M) w2->kk w2)->B E kk)->
   (∀M E,St w0 A (Y2::M) E->I (k+1) M->Kr none E)->(∀c M E,St w0 A (Y2::M) E->Z c M->Kr (some c) E)->
   St w0 A (Y1::M) W->round args W B Kr)
  (WG:∀D M W,I xs.length M->St w0 A (nF D (.deferred (some []))::M) W->N D W)
  (ahQ:∀D M W,Z .ret M->St w0 A (nF D (.deferred (some []))::M) W->R D W)
  (WH:∀id D M W,Z (.exit id) M->St w0 A (nF D (.deferred (some []))::M) W->X id D W)
  (OP:∀c M,Z c M->(∃id,c=.exit id)\/c=.ret) :
  Ai P (.func (.func gf) #[] cap.toArray) np w round (aft N R X):=by
 refine⟨gf,cap.toArray,rfl,pl,λU iV Bz hy=>?_⟩
 obtain⟨l,hl⟩:∃l,l=w.heap.size+1:=⟨_,rfl⟩
 obtain⟨D,hD⟩:∃D,D=w.heap.size:=⟨_,rfl⟩
 rw[<- hl]at hy |-
 rw[<- hD]
 let J:Nat->hM:=λk W=>∃M,I k M/\St w0 A (nF l (.loop U)::nF D (.deferred (some []))::M) W
 let Jx:hM:=λW=>∃c M,Z c M/\St w0 A (nF l (.loop {U with state:=.done,pending:=some c})::nF D (.deferred (some []))::M) W
 have TP:J 0 ((w.alloc (.deferred (some []))).alloc (.loop U)):=by
  refine⟨L,h0,?_⟩
  have h1:=(hs.alloc (o:=.deferred (some []))).alloc (o:=.loop U)
  rw[show(w.alloc (.deferred (some []))).heap.size=l from by rw[hl];exact BN w _,<- hD]at h1
  exact h1
 have:=hgf (.func (.yield l) #[] #[]) J Jx _ (λk W ⟨M,G,u⟩=>⟨_,M,G,St.join u⟩) (λk W O ⟨M,G,u⟩ e=>⟨M,G,u.ext e⟩) TP ?_
 .have e:([Value.func (.yield l) #[] #[]]++cap).toArray = #[.func (.yield l) #[] #[]]++cap.toArray:=ei
  rw[e]at this
  refine this.mono λx O ⟨v,hx,hv⟩=>⟨v,hx,?_⟩
  rcases hv with⟨M,G,u⟩|⟨c,M,G,u⟩
  .refine⟨.ready,none,ei,?_,?_⟩
   .rw[<- iV,<- Bz];exact u.obj
   exact WG D M _ G (u.putObj _).drop
  refine⟨.done,some c,ei,u.obj,?_⟩
  rcases OP c M G with⟨id,rfl⟩|rfl
  .exact WH id D M _ G (u.putObj _).drop
  exact ahQ D M _ G (u.putObj _).drop
 intro k args W hk ⟨M,G,u⟩
 refine⟨.inr ⟨l,rfl,?_⟩⟩
 refine hy args W _ (hnp args (kE hk)) u.obj ?_
 refine D5 k args (sep (nF l (.loop U)) (nF D (.deferred (some [])))) (sep (nF l (.loop {U with state:=.busy})) (nF D (.deferred (some [])))) _ _ M W hk G
  (λM E kk h1 h2=>?_) (λM E h1 h2=>?_) (λc M E h1 h2=>?_) (St.join u)
 .have h1:=h1.split
  exact⟨h1.obj,h2 _ (h1.putObj _).join⟩
 .have h1:=h1.split
  refine⟨h1.obj,.inl ⟨rfl,M,h2,?_⟩⟩
  have:=h1.putObj (.loop {U with state:=if (none:Option Code).isNone=true then LoopState.ready else LoopState.done,pending:=none})
  rw[Ek U iV Bz]at this |-
  exact this
 have h1:=h1.split
 exact⟨h1.obj,.inr ⟨rfl,c,M,h2,h1.putObj _⟩⟩
end
section
variable {P:Program}{w w0:World}{A S:Nat->Prop}{L:List HP}
theorem rB{t:Array TypeId}{T:TypeId}{a b:Int}{K:Value->Prop}(k:K (hZ (min a b))):eP P (Builtin.min_ t T [hZ a,hZ b].toArray) K:=by
 refine⟨_,?_,k⟩
 show pr P (Builtin.min2 (hZ a) (hZ b))=_
 unfold Builtin.min2
 by_cases h:b<a
 .simp[h,fR];omega
 simp[h,fR];omega
theorem Dr{t:Array TypeId}{T:TypeId}{a b:Int}{K:Value->Prop}(k:K (hZ (max a b))):eP P (Builtin.max_ t T [hZ a,hZ b].toArray) K:=by
 refine⟨_,?_,k⟩
 show pr P (Builtin.max2 (hZ a) (hZ b))=_
 unfold Builtin.max2
 by_cases h:a<b
 .simp[h,fR];omega
 simp[h,fR];omega
theorem Lo{α β:Type}[Flat α][Flat β]{T f u:Nat}{p:Value}{x:α}(y:β){K:Value->Prop}(ht:wH P T f u)(h:At S w p x)(B:((j0 x).drop u).take (mI β)=j0 y)
  (k:∀q,At S w q y->K q):eP P (Fs T p f) K:=by
 obtain⟨b,o,rfl,h2,h3⟩:=h
 refine aA ht (k _ ⟨b,o+u,rfl,h2,λj c E=>?_⟩)
 grind
end
section
variable {P:Program}{α:Type}[Flat α] {A:Nat->Prop}{w0 w:World}{L:List HP}{xs:List α}
def OQ(α:Type)[Flat α](v:Value)(i u:Nat)(p:Value):Prop:=∃b n c,v=.slice (some ⟨b,0,none⟩) n c/\p=.pointer (some ⟨b,i*mI α+u,none⟩)
theorem mA{T f u i:Nat}{v p:Value}{K:Value->Prop}(ht:wH P T f u)(h:GY α v i p)(k:∀q,OQ α v i u q->K q):eP P (Fs T p f) K:=by
 obtain⟨b,n,c,h1,rfl⟩:=h
 exact aA ht (k _ ⟨b,n,c,h1,rfl⟩)
theorem nG{β:Type}[Flat β]{T:Nat}{v p:Value}{i u:Nat}{x:α}(y:β){K:Value->Prop}(M:St w0 A (bH v xs::L) w)(ht:dF P T=some (Ib β,mI β))(O:OQ α v i u p)(G:xs[i]?=some x)
  (I:((j0 x).drop u).take (mI β)=j0 y) (k:K (ia y)):Ke P (xR T p) w K:=by
 obtain⟨F,h,_⟩:=M.head
 obtain⟨b,cap,rest,J,hb,U,_⟩:=rM h (kp.1 G).1
 obtain⟨V,n,c,E,rfl⟩:=O
 rw[J]at E
 simp only[yo.injEq,oi.injEq,Addr.mk.injEq]at E
 obtain⟨⟨rfl,_,_⟩,_,_⟩:=E
 refine aD (S:=λ_=>True) ht ⟨b,i*mI α+u,rfl,trivial,λj c B=>hb.cell ?_⟩ k
 rw[<- I,List.getElem?_take]at B
 split at B
 .rw[Im]at B
  have:=rV G B
  rw[Mm,ub (kp.1 this).1];exact this
 cases B
theorem WI{β:Type}[Flat β]{T:Nat}{v p:Value}{i u:Nat}{K:hM}{x:α}(y:α)(z:β)(V:St w0 A (bH v xs::L) w)(ht:dF P T=some (Ib β,mI β))(hp:OQ α v i u p)(W:xs[i]?=some x)
  (hlen:u+mI β<=mI α) (hy:(j0 x).take u++j0 z++(j0 x).drop (u+mI β)=j0 y)
  (k:∀w',St w0 A (bH v (xs.set i y)::L) w'->K w'):Vo P (JB T p (ia z)) w K:=by
 obtain⟨U,F,U',g1,Z,Y,g4,g5⟩:=V.tW
 have hi:=(kp.1 W).1
 obtain⟨b,cap,rest,O,hb,M,G⟩:=rM g1 hi
 obtain⟨b',n,c,I,rfl⟩:=hp
 rw[O]at I
 simp only[yo.injEq,oi.injEq,Addr.mk.injEq]at I
 obtain⟨⟨rfl,_,_⟩,_,_⟩:=I
 have Gl:=zn W
 have N9:(flat (xs.take i)).length=i*mI α:=by rw[dA,l0,Gt cK]
 have Lp:i*mI α+mI α<=(flat xs).length:=by
  rw[dA,<- Nat.succ_mul];exact Nat.mul_le_mul_right _ hi
 have hxl:(j0 x).length=mI α:=x7 x
 have B:(j0 z).length=mI β:=x7 z
 obtain⟨w',h1,h2,h3⟩:=mV (P:=P) (o:=i*mI α+u) (j0 z) 0 (flat xs++rest) w hb (by rw[B,la];omega) (WQ z)
 have Gg:jj (flat xs++rest) (i*mI α+u+0) (j0 z)=flat (xs.set i y)++rest:=by
  have:=mr (flat (xs.take i)++(j0 x).take u) (((j0 x).drop u).take (mI β)) ((j0 x).drop (u+mI β)++flat (xs.drop (i+1))++rest) (j0 z)
   (by rw[B,l0,qb];omega)
  rw[la,N9,l0,Gt cK]at this
  rw[Oe,KU y hi,Gl,<- hy]
  have e1:j0 x=(j0 x).take u++((j0 x).drop u).take (mI β)++(j0 x).drop (u+mI β):=by
   rw[<- sZ,n3,qB,qB]
  have e2:flat (xs.take i)++j0 x++flat (xs.drop (i+1))++rest=flat (xs.take i)++(j0 x).take u++((j0 x).drop u).take (mI β)++((j0 x).drop (u+mI β)++flat (xs.drop (i+1))++rest):=by
   conv=>lhs;rw[e1]
   simp only[n3]
  rw[e2,this]
  simp only[n3]
 rw[Gg]at h2
 refine⟨w',?_,k w' ⟨V.aG.trans (h3.mono λk J=>(G k).2 J) (λ_ h=>h) λb hb E=>(Z b E).elim id λhh=>cK,U,F,U',?_,Z,Y,g4,
  g5.loc λb hb=>(h3.mono λk J=>(G k).2 J).bY b (g5.lt b hb) λE=>Y b E hb⟩⟩
 .show(storeVar T ⟨b,i*mI α+u,none⟩ (ia z)).run P w=_
  unfold storeVar
  rw[eK (fY (lD ht).2 w),pI]
  simp only[List.size_toArray,x7,ne_eq,not_true_eq_false,if_false]
  exact h1
 refine .inr ⟨b,cap,rest,by rw[GR];exact O,h2,?_,G⟩
 rw[la,dA]at M |-;rw[GR];exact M
theorem qi{T:Nat}{b o:Nat}{cs:List Value}(x:α){K:Value->Prop}(ht:dF P T=some (Ib α,mI α))(hb:mT w b cs)(B:(cs.drop o).take (mI α)=j0 x)(k:K (ia x)) :
  Ke P (xR T (.pointer (some ⟨b,o,none⟩))) w K:=by
 refine aD (S:=λ_=>True) ht ⟨b,o,rfl,trivial,λj c u=>hb.cell ?_⟩ k
 grind
end
structure SV where
 a:Option Addr
 n:Nat
 cap:Nat
abbrev bX:SV:=⟨none,0,0⟩
instance:Flat SV where
 agg:=false
 sz:=1
 enc s:=[.slice s.a s.n s.cap]
 val s:=.slice s.a s.n s.cap
 pos:=ee
 len _:=rfl
 one a v h:=by rw[vx.1 h];rfl
 oH h:=by cases h
 oI _ _:=rfl
section
variable {P:Program}{α:Type}[Flat α] {A:Nat->Prop}{w0 w:World}{L L':List HP}{v:Value}
def rows:List SV->List (List α)->HP
 | [],[]=>emp
 | s::ss,x::xs=>sep (bH (ia s) x) (rows ss xs)
 | _,_=>fact False emp
theorem Lq:∀{u:List SV}{xs:List (List α)}{F:Nat->Prop},(rows u xs).p w F->u.length=xs.length
 | [],[],_,_=>rfl
 | s::u,x::xs,F,h=>by
  obtain⟨B,E,_,h2,_,_⟩:=h
  rw[oE,oE,Lq h2]
 | [],_::_,_,h=>h.1.elim
 | _::_,[],_,h=>h.1.elim
theorem G7:∀{E:List SV}{xs:List (List α)}{B u F:Nat->Prop}{s:SV}{x:List α},(rows E xs).p w B->(bH (ia s) x).p w u->(∀b,B b->¬ u b)->(∀b,F b↔B b\/u b)->(rows (E++[s]) (xs++[x])).p w F
 | [],[],B,u,F,s,x,h1,h2,_,h4=>by
  refine⟨u,B,h2,h1,λb hb J=>h1 b J,λb=>?_⟩
  grind
 | s'::E,x'::xs,B,u,F,s,x,h1,h2,h3,h4=>by
  obtain⟨I,G,O,M,V,U⟩:=h1
  refine⟨I,λb=>G b\/u b,O,G7 M h2 (λb hb=>h3 b ((U b).2 (.inr hb))) (λb=>Iff.rfl),λb hb=>?_,λb=>?_⟩
  .grind
  grind
 | [],_::_,_,_,_,_,_,h,_,_,_=>h.1.elim
 | _::_,[],_,_,_,_,_,h,_,_,_=>h.1.elim
theorem St.AD{u:List SV}{xs:List (List α)}(B:St w0 A (rows u xs::L) w):u.length=xs.length:=by
 obtain⟨F,h,_⟩:=B.head;exact Lq h
theorem St.acu(u:St w0 A L w):St w0 A (rows [] ([]:List (List α))::L) w:=
 u.new (Ext.refl w) (F:=aZ) (λ_ h=>h) λ_ h=>h.elim
theorem St.El{u:List SV}{xs:List (List α)}{s:SV}{x:List α}(E:St w0 A (rows u xs::bH (ia s) x::L) w):St w0 A (rows (u++[s]) (xs++[x])::L) w:=by
 have h:=St.join E
 refine h.rz λF B=>?_
 obtain⟨G,I,h1,h2,h3,h4⟩:=B
 exact⟨F,G7 h1 h2 h3 h4,λb hb=>.inl hb,gv.refl _ _⟩
theorem St.fJ{xs:List α}(u:St w0 A (bH v xs::L) w):∃s:SV,v=ia s:=by
 obtain⟨F,h,_⟩:=u.head
 rcases h with⟨rfl,_⟩|⟨b,cap,_,rfl,_⟩
 .exact⟨⟨none,0,0⟩,rfl⟩
 exact⟨⟨_,_,_⟩,rfl⟩
theorem dC.fJ{S:Nat->Prop}{xs:List α}(h:dC S w v xs):∃s:SV,v=ia s:=by
 obtain⟨a,cap,rfl,_⟩:=h;exact⟨⟨_,_,_⟩,rfl⟩
def avi(w:World)(v:Value)(xs:List (List α)):Prop:=
 ∃u:List SV,dC (λ_=>True) w v u/\u.length=xs.length/\∀(i:Nat) (s:SV) (x:List α),u[i]?=some s->xs[i]?=some x->dC (λ_=>True) w (ia s) x
end
section
variable {P:Program}
theorem jR{α:Type}[Flat α]{S:Nat->Prop}{w:World}{xs:List α}{T E G:Nat}{z:Option Nat}{v:Value}{i:Int}{K:Value->Prop}(ht:eQ P T=some (E,mI α,G,z))(I:dC S w v xs)(B:0<=i)(h2:i<=xs.length)
  (k:∀u,(∀w',dC S w' v xs->dC S w' u (xs.take i.toNat))->K u):eP P (n4 T v none (some (hZ i)) none) K:=by
 obtain⟨a,cap,rfl,J,h3⟩:=I
 refine⟨_,wI ht (ou (.inl ⟨rfl,rfl⟩) (.inr ⟨i,rfl,B,rfl⟩) (l1 _) cK),k _ λw' h=>?_⟩
 have:=h.cut rfl (l1 i.toNat) cK
 grind
end
open Go.ChangeShapes Go.WideShapes Go.ChangeAt Go.RowKit
structure RdT(P:Program)(t:TypeId)(α:Type)[Flat α](φ:α->Prop):Prop where
 cells:P.cellsOf t=mI α
 rd:∀{H:Type}(enc:TypeId×Value->H) (w:World) (base:Nat) (sp:Nat->Bool) (held:Bool) (fuel:Nat) (cs:List Value) (x:DataW H×List MemPlace),
  DataW.trod enc P w base sp held fuel t cs=some x->∃a:α,cs=j0 a/\φ a
def eZ(n:Int):Prop:=-9223372036854775808<=n/\n<=9223372036854775807
def ahR{P:Program}{t:TypeId}(ht:P.underlying t=some (.int .i64))(hc:P.cellsOf t=1):RdT P t Int eZ:=
 ⟨hc,λenc w base u held fuel cs x h=>by
  obtain⟨n,h1,_,h3⟩:=DataW.trod_int ht h
  refine⟨n,h1,?_⟩
  simpa[Lit.wf,IntKind.min,IntKind.max,IntKind.signed,IntKind.bits,eZ]using h3⟩
def ahS{P:Program}{t:TypeId}(ht:P.underlying t=some .string)(hc:P.cellsOf t=1):RdT P t ByteArray (λs=>s.size<=maxLen):=
 ⟨hc,λenc w base u held fuel cs x h=>by
  obtain⟨n,h1,_,h2⟩:=DataW.trod_string ht h
  exact⟨n,h1,h2⟩⟩
def nV{H:Type}{enc:TypeId×Value->H}{P:Program}{w:World}{base:Nat}{B:Nat->Bool}{held:Bool}{fuel:Nat}{t:TypeId}{u:Array Field}{cs:List Value}{x:DataW H×List MemPlace}
  (ht:P.underlying t=some (.struct u)) (h:DataW.trod enc P w base B held fuel t cs=some x) :
  cs.length=P.cellsOf t/\∃n,∀(i:Nat) (f:Field),u[i]?=some f->∃y,DataW.trod enc P w base B held n f.type ((cs.drop f.offset).take (P.cellsOf f.type))=some y:=by
 obtain⟨xs,n,_,_,E,G,I⟩:=DataW.trod_struct ht h
 refine⟨E,n,λi f hi=>?_⟩
 have J:i<xs.length:=by rw[G];exact(Array.getElem?_eq_some_iff.1 hi).1
 exact⟨xs[i],by rw[I i f hi,kX J]⟩
def eB{cs:List Value}{o s:Nat}{r:List Value}(h:(cs.drop o).take s=r):cs.drop o=r++cs.drop (o+s):=by
 rw[<- h,<- sZ,qB]
theorem acv{α:Type}{p:Nat->α->Prop}:∀n,(∀i,i<n->∃x,p i x)->∃xs:List α,xs.length=n/\∀i x,xs[i]?=some x->p i x:=by
 intro n
 induction n with
 | zero=>simp_all
 | succ n u=>
  intro h
  obtain⟨xs,h1,h2⟩:=u λi hi=>h i cK
  obtain⟨x,E⟩:=h n cK
  refine⟨xs++[x],by simp[h1],λi y B=>?_⟩
  grind
def OR{α:Type}[Flat α]{xs:List α}{j:Nat}{c:Value}(h:(flat xs)[j]?=some c):∃i r x,xs[i]?=some x/\(j0 x)[r]?=some c/\j=i*mI α+r:=by
 have B:j<(flat xs).length:=(kp.1 h).1
 rw[dA]at B
 have E:0<mI α:=Xb
 have hi:j / mI α<xs.length:=Nat.div_lt_of_lt_mul dD
 have G:j % mI α<mI α:=aaX _ E
 have I:j=j / mI α*mI α+j % mI α:=by rw[Nat.mul_comm];exact(Nat.div_add_mod _ _).symm
 have u:xs[j / mI α]?=some (xs[j / mI α]):=kX hi
 have hc:(j0 (xs[j / mI α]))[j % mI α]?=some ((j0 (xs[j / mI α]))[j % mI α]'(by rw[x7];exact G)):=kX _
 have:=rV u hc
 grind
section
variable {H:Type}{enc:TypeId×Value->H}{P:Program}{w:World}{base:Nat}{held:Bool}
theorem open_i64{r:Reach}{G:Nat}{t:TypeId}{v:Value}{d:DataW H}{ps:List MemPlace}{E:Nat->Bool}(ht:P.underlying t=some (.int .i64))(u:OZ P w r G t v)(B:DataW.Trod enc P w base E held t v d ps) :
  ∃n,v=hZ n/\eZ n:=by
 obtain⟨n,h1,_,_,h4⟩:=open_int ht u B
 exact⟨n,h1,by simpa[Lit.wf,IntKind.min,IntKind.max,IntKind.signed,IntKind.bits,eZ]using h4⟩
def I0(P:Program)(ts:List TypeId):Bool:=ts.all λt=>P.readableRec t&&decide (t<P.types.size)
theorem yN(E:laidOutB P=true){W G:World}(hb:Below W.heap.size W G){I:Nat->Bool}:∀{ts:List TypeId}{vs:List Value}{ds:List (DataW H)}{ps:List MemPlace},I0 P ts=true->(∀x∈ps,x.block<W.heap.size)->
  (∀x∈ps,I x.block=true)->DataW.TrodAll enc P W 0 (λ_=>true) true ts vs ds ps->DataW.TrodAll enc P G 0 I true ts vs ds ps
 | [],vs,ds,ps,_,_,_,h=>by obtain⟨rfl,rfl,rfl⟩:=trodAll_nil h;exact trodAll_mk0
 | t::ts,vs,ds,ps,hr,nP,Gl,h=>by
  obtain⟨v,J,d,M,a,b,rfl,rfl,rfl,h1,h2⟩:=trodAll_cons h
  have B:P.readableRec t=true/\t<P.types.size/\I0 P ts=true:=by
   grind[I0]
  refine trodAll_cons_mk (WideElems.Trod_stays E B.1 B.2.1 h1 (λx u=>hb.same (nP x (List.mem_append_left _ u))) λx u=>Gl x (List.mem_append_left _ u)) ?_
  exact yN E hb B.2.2 (λx u=>nP x (List.mem_append_right _ u)) (λx u=>Gl x (List.mem_append_right _ u)) h2
theorem post_true{f:Func}{s:ChangeSpec}{apart fresh handsOn again:Bool}{W I:World}{args:Array Value}{ds gs:List (DataW H)}{before:List MemPlace}{tb:TypeId}
  (O:s.vars=[]) (hfn:∀ds:List (DataW H),ds.length=f.params.size->s.fn H ds={results:=[.lit (.bool true)],args:=ds}) (V:f.resultTypes = #[tb]) (U:P.underlying tb=some .bool)
  (hl:laidOutB P=true) (ahT:I0 P f.params.toList=true)
  (hW:DataW.Whole enc P f.params.toList s.vars apart W args.toList ds gs before) (hb:Below W.heap.size W I) :
  s.post enc P f apart fresh handsOn again W args (.bool true) I:=by
 have Y:=hW
 obtain⟨p,q,hA,hV,J,hz,hn⟩:=hW
 have nP:∀x∈before,x.block<W.heap.size:=Y.lt
 rw[O]at hV
 obtain⟨rfl,rfl⟩:=trodVars_none hV
 simp only[pL]at J
 have hlen:ds.length=f.params.size:=by
  have:=(trodAll_length hA).2
  omega
 have G:=hfn ds hlen
 have Z:∀(b:Nat) (B:Nat->Bool) (hd:Bool),DataW.TrodAll enc P I b B hd f.resultTypes.toList ((wX true).resultList f.resultTypes.size) (s.fn H (ds++[])).results []:=λb B hd=>by
  rw[pL,G,V]
  exact trodAll_mk1 (shut_bool U true)
 have u:∀B:Nat->Bool,(∀p∈before,B p.block=true)->DataW.TrodAll enc P I 0 B true f.params.toList args.toList (s.fn H (ds++[])).args before:=λB Gl=>by
  rw[pL,G]
  rw[J]at nP Gl |-
  exact yN hl hb ahT nP Gl hA
 have WJ:∀B:Nat->Bool,DataW.TrodVars enc P I B s.vars (s.fn H (ds++[])).vars []:=λB=>by
  rw[pL,G,O];rfl
 have kC:∀(j:Nat) (t:TypeId) (r:Value),f.resultTypes[j]?=some t->((wX true).resultList f.resultTypes.size)[j]?=some r->OZ P I .any 0 t r:=
  ok_one V rfl (okWide_bool_mk U true)
 have hold:∀p∈before,(λb=>decide (b<W.heap.size)) p.block=true:=λp hp=>dD
 refine⟨ds,[],before,[],before,[],Y,Z _ _ _,u _ hold,WJ _,World.keptBut_mono (λp hp=>⟨hp,?_⟩) (hb.frame (·∈before)),λ_=>?_⟩
 .grind
 refine⟨kC,_,_,([]++before)++[],⟨[]++before,[],trodAll_append (u _ λ_ _=>rfl) (Z _ _ _),WJ _,rfl,?_,?_⟩,?_⟩
 .intro b E hp
  have M:MemPlace.cell b E∈before:=dD
  rw[hb.frozen (p:=⟨b,E,none⟩) (nP _ M)]
  exact hz b E M
 .grind
 grind
end
section
variable {P:Program}{α:Type}[Flat α]
def anS(P:Program)(T n E:Nat):Prop:=P.underlying T=some (.array n E)/\pr P (sizeOf E)=some 1
theorem oY{T E n b o:Nat}{i:Int}{K:Value->Prop}(h:anS P T n E)(B:0<=i)(h1:i<n)(k:K (.pointer (some ⟨b,o+i.toNat,none⟩))) :
  eP P (FI T (.pointer (some ⟨b,o,none⟩)) (hZ i)) K:=by
 refine⟨_,?_,k⟩
 unfold FI
 have G:pr P (underlying T)=some (.array n E):=cZ h.1
 have u:pr P (Instr.sureAddr (.pointer (some (⟨b,o,none⟩:Addr))))=some ⟨b,o,none⟩:=rfl
 simp only[asIntOf,cX,G,mQ,fR,u]
 simp only[ew (show 0<=i/\i<(n:Int)from⟨B,h1⟩),cX,h.2,mQ,fR,gF,Nat.mul_one]
end
def RM{α:Type}[Flat α]{P:Program}{w w0:World}{A:Nat->Prop}{L:List HP}{xs:List α}{T:Nat}{v p:Value}{i:Nat}{x:α}(G:St w0 A (bH v xs::L) w)(ht:dF P T=some (Ib α,mI α))(I:GY α v i p)(B:xs[i]?=some x) :
  (xR T p).run P w=.ok (ia x) w:=by
 obtain⟨F,h,_⟩:=G.head
 obtain⟨b,cap,rest,E,hb,M,_⟩:=rM h (kp.1 B).1
 obtain⟨O,n,c,u,rfl⟩:=I
 rw[E]at u
 simp only[yo.injEq,oi.injEq,Addr.mk.injEq]at u
 obtain⟨⟨rfl,_,_⟩,_,_⟩:=u
 refine eN (S:=λ_=>True) ht ⟨b,i*mI α,rfl,trivial,λj c J=>hb.cell ?_⟩
 have:=rV B J
 rw[ub (kp.1 this).1];exact this
class Deep (α:Type) (σ:outParam Type) [Flat σ] where
 dr:World->σ->α->Prop
 ext:∀{w w':World}{s:σ}{x:α},dr w s x->Ext w w'->dr w' s x
def DL{α σ:Type}[Flat σ][Deep α σ](w:World)(v:Value)(xs:List α):Prop:=
 ∃ts:List σ,dC (λ_=>True) w v ts/\ts.length=xs.length/\∀(i:Nat) (t:σ) (x:α),ts[i]?=some t->xs[i]?=some x->Deep.dr w t x
section
variable {P:Program}{α σ:Type}[Flat σ] [Deep α σ] {w w' w0:World}{v:Value}{A:Nat->Prop}{L:List HP}
theorem DL.ext{xs:List α}(h:DL w v xs)(e:Ext w w'):DL w' v xs:=by
 obtain⟨ts,h1,h2,h3⟩:=h;exact⟨ts,h1.ext e,h2,λi t x a b=>Deep.ext (h3 i t x a b) e⟩
theorem DL.nil(w:World):DL w (.slice none 0 0) ([]:List α):=⟨[],dC.nil _ _,rfl,λi t x h=>by simp at h⟩
theorem DL.fJ{xs:List α}(h:DL w v xs):∃s:SV,v=ia s:=by obtain⟨_,h,_⟩:=h;exact h.fJ
instance:Deep (List α) SV where
 dr w s xs:=DL w (ia s) xs
 ext h e:=DL.ext h e
def eD(Φ:hM):HP where
 p w F:=(∀w':World,(∀b,F b->w'.heap[b]?=w.heap[b]?)->Φ w')/\∀b,F b->b<w.heap.size
 loc w w' F h hh:=⟨λu h2=>h.1 u λb hb=>(h2 b hb).trans (hh b hb),λb hb=>by
  grind⟩
 lt w F b h hb:=h.2 b hb
theorem eD.now{Φ:hM}{F:Nat->Prop}(h:(eD Φ).p w F):Φ w:=h.1 w λ_ _=>rfl
theorem St.eD{Φ:hM}(u:St w0 A (eD Φ::L) w):Φ w:=by obtain⟨F,h,_⟩:=u.head;exact eD.now h
theorem St.dN{Φ Ψ:hM}(B:St w0 A (Fw.eD Φ::L) w)(E:∀w,Φ w->Ψ w):St w0 A (Fw.eD Ψ::L) w:=
 B.rz λF u=>⟨F,⟨λw' h=>E _ (u.1 w' h),u.2⟩,λb hb=>.inl hb,gv.refl _ _⟩
theorem St.gR{Φ Ψ:hM}(E:St w0 A (Fw.eD Φ::Fw.eD Ψ::L) w):St w0 A (Fw.eD (λw=>Φ w/\Ψ w)::L) w:=by
 have h:=St.join E
 refine h.rz λF B=>?_
 obtain⟨G,I,h1,h2,h3,h4⟩:=B
 refine⟨F,⟨λw' u=>⟨h1.1 w' λb hb=>u b ((h4 b).2 (.inl hb)),h2.1 w' λb hb=>u b ((h4 b).2 (.inr hb))⟩,λb hb=>?_⟩,λb hb=>.inl hb,gv.refl _ _⟩
 rcases(h4 b).1 hb with hb|hb
 .exact h1.2 b hb
 exact h2.2 b hb
theorem St.fu{Φ:hM}(u:St w0 A L w)(h:∀w,Φ w):St w0 A (Fw.eD Φ::L) w:=
 u.new (Ext.refl w) (F:=aZ) ⟨λw' _=>h w',λb hb=>hb.elim⟩ λ_ h=>h.elim
theorem St.freeze{xs:List σ}(B:St w0 A (bH v xs::L) w):St w0 A (Fw.eD (λw=>dC (λ_=>True) w v xs)::L) w:=
 B.rz λF u=>⟨F,⟨λw' h=>(bH.rd ((bH v xs).loc _ _ _ u h)).mono λ_ _=>trivial,λb hb=>(bH v xs).lt _ _ _ u hb⟩,λb hb=>.inl hb,gv.refl _ _⟩
theorem St.rN{b:Nat}{cs:List Value}(B:St w0 A (bY b cs::L) w):St w0 A (Fw.eD (λw=>mT w b cs)::L) w:=
 B.rz λF u=>⟨F,⟨λw' h=>((bY b cs).loc _ _ _ u h).1,λk E=>(bY b cs).lt _ _ _ u E⟩,λb hb=>.inl hb,gv.refl _ _⟩
def iq(ts:List σ)(xs:List α)(w:World):Prop:=ts.length=xs.length/\∀(i:Nat) (t:σ) (x:α),ts[i]?=some t->xs[i]?=some x->Deep.dr w t x
theorem iq.nil:iq ([]:List σ) ([]:List α) w:=⟨rfl,λi t x h=>by simp at h⟩
theorem iq.snoc{ts:List σ}{xs:List α}{t:σ}{x:α}(h:iq ts xs w)(ht:Deep.dr w t x):iq (ts++[t]) (xs++[x]) w:=by
 grind[iq]
theorem iq.append{ts us:List σ}{xs ys:List α}(h:iq ts xs w)(g:iq us ys w):iq (ts++us) (xs++ys) w:=by
 grind[iq]
theorem iq.ext{ts:List σ}{xs:List α}(h:iq ts xs w)(e:Ext w w'):iq ts xs w':=⟨h.1,λi t x a b=>Deep.ext (h.2 i t x a b) e⟩
theorem DL.of{ts:List σ}{xs:List α}(h:dC (λ_=>True) w v ts)(g:iq ts xs w):DL w v xs:=⟨ts,h,g.1,g.2⟩
theorem DL.open{xs:List α}(h:DL w v xs):∃ts:List σ,dC (λ_=>True) w v ts/\iq ts xs w:=by obtain⟨ts,h1,h2,h3⟩:=h;exact⟨ts,h1,h2,h3⟩
theorem iq.take{ts:List σ}{xs:List α}(h:iq ts xs w)(k:Nat):iq (ts.take k) (xs.take k) w:=by
 grind[iq]
theorem iq.drop{ts:List σ}{xs:List α}(h:iq ts xs w)(k:Nat):iq (ts.drop k) (xs.drop k) w:=by
 grind[iq]
end
section
variable {α:Type}[Flat α]
abbrev jg:Deep α α:=⟨λ_ s x=>s=x,λh _=>h⟩
theorem G8[D:Deep α α](hD:∀w s x,D.dr w s x↔s=x){w:World}{ts xs:List α}:iq ts xs w↔ts=xs:=by
 constructor
 .rintro⟨h1,h2⟩
  refine List.ext_getElem? λi=>?_
  grind
 grind[iq]
end
instance:Deep Int Int:=jg
instance:Deep Bool Bool:=jg
instance:Deep ByteArray ByteArray:=jg
structure RdW(P:Program)(w:World)(t:TypeId)(α:Type)[Flat α](φ:α->Prop):Prop where
 cells:P.cellsOf t=mI α
 rd:∀{H:Type}(enc:TypeId×Value->H) (base:Nat) (held:Bool) (fuel:Nat) (cs:List Value) (x:DataW H×List MemPlace),
  DataW.trod enc P w base (λ_=>true) held fuel t cs=some x->∃a:α,cs=j0 a/\φ a
def zp(P:Program)(t:TypeId)(α:Type){σ:Type}[Flat σ][Deep α σ](φ:α->Prop):Prop:=∀w,RdW P w t σ (λs=>∃a:α,Deep.dr w s a/\φ a)
def RdT.deep{P:Program}{t:TypeId}{α:Type}[Flat α][D:Deep α α]{φ:α->Prop}(h:RdT P t α φ)(hD:∀w (x:α),D.dr w x x):zp P t α φ:=
 λw=>⟨h.cells,λenc base held fuel cs x u=>by
  obtain⟨a,h1,h2⟩:=h.rd enc w base _ held fuel cs x u;exact⟨a,h1,a,hD w a,h2⟩⟩
section
variable {H:Type}{enc:TypeId×Value->H}{P:Program}{w:World}{base:Nat}{held:Bool}
theorem Lr{α:Type}[Flat α]{φ:α->Prop}{t e:TypeId}{fuel:Nat}{cs:List Value}{x:DataW H×List MemPlace}(ht:P.underlying t=some (.slice e))(U:RdW P w e α φ)
  (h:DataW.trod enc P w base (λ_=>true) held fuel t cs=some x):∃v,cs=[v]/\∃xs:List α,dC (λb=>b<w.heap.size) w v xs/\∀x∈xs,φ x:=by
 rcases DataW.trod_slice ht h with⟨rfl,_⟩|⟨a,len,cap,elems,rest,n,_,rfl,_,hb,hl,hm,hlen,W,Y,_⟩
 .exact⟨_,rfl,[],dC.nil _ _,ei⟩
 refine⟨_,rfl,?_⟩
 have get:∀i,i<len->∃x:α,φ x/\w.cells? base (a.add (i*P.cellsOf e)) (P.cellsOf e)=some (j0 x):=by
  intro i hi
  have h1:=W i hi
  rw[kX cK]at h1
  obtain⟨cs',h2,h3⟩:=NJ.1 h1
  obtain⟨x,rfl,E⟩:=U.rd enc base held n cs' _ h3
  grind
 obtain⟨xs,J,I⟩:=acv len get
 have O:=U.cells
 have V:0<mI α:=Xb
 have first:∀(c:Nat) (cs':List Value),w.cells? base (a.add (c*P.cellsOf e)) (P.cellsOf e)=some cs'->c=0->a.spot=none:=by
  intro c cs' h1 G
  subst G
  have:=Xl h1
  have h2:=this.2.2 0 cK
  rw[Nat.zero_mul]at h2
  have h3:w.cell? a=cs'[0]?:=by simpa[Addr.add]using h2
  rw[kX cK]at h3
  unfold World.cell? at h3
  split at h3
  .simp_all
  .cases h3
 refine⟨xs,⟨some a,cap,by rw[J],cK,?_⟩,λx E=>?_⟩
 .by_cases Cz:cap=0
  .simp_all
  right
  have u:a.spot=none:=by
   by_cases G:0<len
   .grind
   .obtain⟨h1,h2⟩:=Y rfl
    have h3:=h2 0 cK
    rw[kX cK]at h3
    obtain⟨cs',h4,_⟩:=NJ.1 h3
    grind
  have B:∀j c,(flat xs)[j]?=some c->Cell w a.block (a.off+j) c:=by
   intro j c Z
   obtain⟨i,r,x,E,M,rfl⟩:=OR Z
   have h1:=(Xl (I i x E).2).2.2 r (by rw[O];have:=(kp.1 M).1;rwa [x7]at this)
   rw[M,O]at h1
   obtain⟨b,o,s⟩:=a
   simp only at u
   subst u
   unfold Cell
   rw[<- h1,gF,gF,Mm]
  refine⟨a.block,a.off,by obtain⟨b,o,s⟩:=a;grind,λGe=>?_,B⟩
  obtain⟨y,ys,rfl⟩:=List.exists_cons_of_ne_nil Ge
  have G:(flat (y::ys))[0]?=some ((j0 y)[0]'(by rw[x7];exact V)):=by
   rw[kM,ub (by rw[x7];exact V),kX]
  exact(B 0 _ G).lt
 obtain⟨i,hi⟩:=List.getElem?_of_mem E
 grind
theorem OS{α σ:Type}[Flat σ][Deep α σ]{φ:α->Prop}:∀(ts:List σ),(∀s∈ts,∃a:α,Deep.dr w s a/\φ a)->∃xs:List α,iq ts xs w/\∀x∈xs,φ x
 | [],_=>⟨[],iq.nil,ei⟩
 | t::ts,h=>by
  obtain⟨a,h1,h2⟩:=h t ei
  obtain⟨xs,h3,h4⟩:=OS ts λs u=>h s (List.mem_cons_of_mem _ u)
  refine⟨a::xs,?_,λx B=>?_⟩
  .grind[iq]
  grind
theorem zp.slice{α σ:Type}[Flat σ][Deep α σ]{φ:α->Prop}{t e:TypeId}(ht:P.underlying t=some (.slice e))(hc:P.cellsOf t=1)(E:zp P e α φ):zp P t (List α) (λxs=>∀x∈xs,φ x):=
 λw=>⟨hc,λenc base held fuel cs x B=>by
  obtain⟨v,rfl,ts,h1,h2⟩:=Lr ht (E w) B
  obtain⟨xs,h3,h4⟩:=OS ts h2
  have u:dC (λ_=>True) w v ts:=h1.mono λ_ _=>trivial
  obtain⟨s,rfl⟩:=u.fJ
  exact⟨s,rfl,xs,DL.of u h3,h4⟩⟩
theorem open_dl{α σ:Type}[Flat σ][Deep α σ]{φ:α->Prop}{t e:TypeId}{r:Reach}{E:Nat}{v:Value}{d:DataW H}{ps:List MemPlace}(ht:P.underlying t=some (.slice e))(M:zp P e α φ)
  (B:OZ P w r E t v) (O:DataW.Trod enc P w base (λ_=>true) held t v d ps):∃xs:List α,DL w v xs/\∀x∈xs,φ x:=by
 obtain⟨fuel,I⟩:=O
 obtain⟨u,J,ts,h1,h2⟩:=Lr ht (M w) I
 have G:v=u:=by
  have h1:=B
  unfold OZ at h1
  rw[ht]at h1
  cases v with
  | slice a n c=>exact(List.cons.inj (show [yo a n c]=[u]from J)).1
  | _=>
   have h2:Cell.okWide P w r E t _:=h1
   unfold Cell.okWide at h2
   rw[ht]at h2
   simp only[Cell.ok,ht]at h2
 subst G
 obtain⟨xs,h3,h4⟩:=OS ts h2
 exact⟨xs,DL.of (h1.mono λ_ _=>trivial) h3,h4⟩
theorem open_dst{α σ:Type}[Flat σ][Deep α σ]{φ:α->Prop}{t:TypeId}{B:Array Field}{r:Reach}{J:Nat}{v:Value}{d:DataW H}{ps:List MemPlace}(ht:P.underlying t=some (.struct B))(G:Ib σ=true)
  (M:zp P t α φ) (u:OZ P w r J t v) (O:DataW.Trod enc P w base (λ_=>true) held t v d ps):∃(s:σ) (x:α),v=ia s/\Deep.dr w s x/\φ x:=by
 obtain⟨fuel,I⟩:=O
 obtain⟨s,E,x,h1,h2⟩:=(M w).rd enc base held fuel _ _ I
 unfold OZ at u
 rw[ht]at u
 obtain⟨cs,rfl,_⟩:=u
 refine⟨s,x,?_,h1,h2⟩
 rw[abl G,<- E]
 simp[Value.cells]
end
def BA(x:Int):Int:=IntKind.i64.wrap x
theorem zq{x:Int}(h : -9223372036854775808<=x/\x<=9223372036854775807):BA x=x:=IntWalk.i64_in _ h
section
variable {P:Program}{T:Nat}{cx cy:Bool}{a b:Int}{K:Value->Prop}
theorem uI(k:K (hZ (BA (a+b)))):eP P (kj .add T cx cy (hZ a) (hZ b)) K:=⟨_,rfl,k⟩
theorem AE(k:K (hZ (BA (a-b)))):eP P (kj .sub T cx cy (hZ a) (hZ b)) K:=⟨_,rfl,k⟩
theorem wV(k:K (hZ (BA (a*b)))):eP P (kj .mul T cx cy (hZ a) (hZ b)) K:=⟨_,rfl,k⟩
theorem WK(k:K (hZ (BA (0-a)))):eP P (Op.unary .neg (hZ a)) K:=⟨_,rfl,k⟩
theorem Em(h:b≠0)(k:K (hZ (BA (a.tdiv b)))):eP P (kj .quo T cx cy (hZ a) (hZ b)) K:=by
 refine⟨_,?_,k⟩
 show pr P (Op.intDiv .quo .i64 a b)=_
 unfold Op.intDiv
 rw[ej h];rfl
theorem WL(h:b≠0)(k:K (hZ (a.tmod b))):eP P (kj .rem T cx cy (hZ a) (hZ b)) K:=by
 refine⟨_,?_,k⟩
 show pr P (Op.intDiv .rem .i64 a b)=_
 unfold Op.intDiv
 rw[ej h];rfl
end
def sg{α:Type}[Flat α]{P:Program}{w w0:World}{A:Nat->Prop}{L:List HP}{xs:List α}{T E W:Nat}{z:Option Nat}{v:Value}{i:Int}{K:Value->Prop}(ht:eQ P T=some (E,mI α,W,z))
  (J:St w0 A (bH v xs::L) w) (V:0<=i) (h1:i<=xs.length) (k:∀M,St w0 A (bH M (xs.take i.toNat)::L) w->K M):eP P (n4 T v none (some (hZ i)) none) K:=by
 obtain⟨a,cap,u,Al,_⟩:=J.dX
 refine⟨_,(by rw[u];exact wI ht (ou (.inl ⟨rfl,rfl⟩) (.inr ⟨i,rfl,V,rfl⟩) (l1 _) cK)),k _ ?_⟩
 refine J.rz λF B=>?_
 rcases B with⟨G,U,Y⟩|⟨b,O,rest,Z,hb,I,B⟩
 .rw[G]at u
  subst U
  simp only[yo.injEq]at u
  obtain⟨rfl,_,rfl⟩:=u
  have hi:i.toNat=0:=by simp at h1;omega
  refine⟨F,.inl ⟨?_,ei,Y⟩,λb hb=>.inl hb,gv.refl _ _⟩
  rw[hi];rfl
 rw[Z]at u
 simp only[yo.injEq]at u
 obtain⟨rfl,_,rfl⟩:=u
 refine⟨F,.inr ⟨b,O,flat (xs.drop i.toNat)++rest,?_,?_,?_,B⟩,λb hb=>.inl hb,gv.refl _ _⟩
 .have Dk:(xs.take i.toNat).length=i.toNat:=by rw[l0];omega
  rw[Dk]
  simp[gF]
 .rw[<- n3,<- gG,qB];exact hb
 exact⟨wS (by rw[l0];omega) I.1,by rw[<- n3,<- gG,qB];exact I.2⟩
section
variable {P:Program}{w w':World}{v:Value}
theorem DL.flat{α:Type}[Flat α][D:Deep α α]{xs:List α}(h:DL w v xs)(hD:∀w s x,D.dr w s x↔s=x:=by intros;exact Iff.rfl):dC (λ_=>True) w v xs:=by
 obtain⟨ts,h1,h2⟩:=h.open
 rw[(G8 hD).1 h2]at h1;exact h1
theorem DL.j1{α:Type}[Flat α][D:Deep α α]{xs:List α}(h:dC (λ_=>True) w v xs)(hD:∀w s x,D.dr w s x↔s=x:=by intros;exact Iff.rfl):DL w v xs:=DL.of h ((G8 hD).2 rfl)
theorem Ls{α:Type}[Flat α]{S:Nat->Prop}{xs:List α}{T E J:Nat}{z:Option Nat}{lo hi:Option Value}{l h:Nat}{K:Value->Prop}(ht:eQ P T=some (E,mI α,J,z))(M:dC S w v xs)
  (B:lo=none/\l=0\/∃i:Int,lo=some (hZ i)/\0<=i/\l=i.toNat) (G:hi=none/\h=xs.length\/∃i:Int,hi=some (hZ i)/\0<=i/\h=i.toNat)
  (h1:l<=h) (h2:h<=xs.length) (k:∀u,(∀w',dC S w' v xs->dC S w' u ((xs.take h).drop l))->K u):eP P (n4 T v lo hi none) K:=by
 obtain⟨a,cap,rfl,O,h3⟩:=M
 exact⟨_,wI ht (ou B G h1 cK),k _ λw' I=>I.cut rfl h1 h2⟩
theorem zu{α:Type}[Flat α]{S:Nat->Prop}{xs:List α}{T E G:Nat}{z:Option Nat}{i:Int}{K:Value->Prop}(ht:eQ P T=some (E,mI α,G,z))(I:dC S w v xs)
  (B:0<=i) (h2:i<=xs.length) (k:∀u,(∀w',dC S w' v xs->dC S w' u (xs.drop i.toNat))->K u):eP P (n4 T v (some (hZ i)) none none) K:=
 Ls ht I (.inr ⟨i,rfl,B,rfl⟩) (.inl ⟨rfl,rfl⟩) cK (o6 _) λu h=>k u λw' J=>dD
theorem oz{α:Type}[Flat α]{S:Nat->Prop}{xs:List α}{T E G:Nat}{z:Option Nat}{i j:Int}{K:Value->Prop}(ht:eQ P T=some (E,mI α,G,z))(I:dC S w v xs)
  (B:0<=i) (h1:i<=j) (h2:j<=xs.length) (k:∀u,(∀w',dC S w' v xs->dC S w' u ((xs.take j.toNat).drop i.toNat))->K u):eP P (n4 T v (some (hZ i)) (some (hZ j)) none) K:=
 Ls ht I (.inr ⟨i,rfl,B,rfl⟩) (.inr ⟨j,rfl,cK,rfl⟩) cK cK k
theorem DL.cut{α σ:Type}[Flat σ][Deep α σ]{xs:List α}{ts:List σ}{u:Value}{l h:Nat}(B:∀w',dC (λ_=>True) w' v ts->dC (λ_=>True) w' u ((ts.take h).drop l))(E:dC (λ_=>True) w v ts)(hD:iq ts xs w):DL w u ((xs.take h).drop l):=
 DL.of (B w E) ((hD.take h).drop l)
theorem DL.WM{α σ:Type}[Flat σ][Deep α σ]{xs:List α}{ts:List σ}{u:Value}{l:Nat}(E:∀w',dC (λ_=>True) w' v ts->dC (λ_=>True) w' u (ts.drop l))(B:dC (λ_=>True) w v ts)(hD:iq ts xs w):DL w u (xs.drop l):=
 DL.of (E w B) (hD.drop l)
theorem En{a b:ByteArray}:(a.toList == b.toList)=decide (a=b):=by
 rw[ByteArray.toList_eq,ByteArray.toList_eq,Bool.eq_iff_iff,beq_iff_eq,decide_eq_true_eq]
 constructor
 .intro h
  obtain⟨a⟩:=a
  simp_all
 grind
theorem jI{T:Nat}{cx cy:Bool}{a b:ByteArray}{K:Value->Prop}(k:K (.bool (decide (a=b)))):eP P (kj .eql T cx cy (.string a) (.string b)) K:=by
 rw[<- En]at k
 exact⟨_,rfl,k⟩
theorem l9{T:Nat}{cx cy:Bool}{a b:ByteArray}{K:Value->Prop}(k:K (.bool (decide (¬ a=b)))):eP P (kj .neq T cx cy (.string a) (.string b)) K:=by
 refine⟨_,rfl,?_⟩
 have:(!(a.toList == b.toList))=decide (¬ a=b):=by rw[En];grind
 grind
end
def iQ(s:ByteArray):List UInt8:=s.data.toList
theorem eY(s:ByteArray):(iQ s).length=s.size:=by simp_all[iQ]
theorem RN(s:ByteArray)(i:Nat):(iQ s)[i]?=if h:i<s.size then some (s[i]'h)else none:=by
 unfold iQ
 by_cases h:i<s.size
 .rw[dif_pos h,Array.getElem?_toList]
  exact Array.getElem?_eq_getElem h
 simp_all
section
variable {P:Program}{T R:Nat}{cx cy:Bool}{a b:Int}{K:Value->Prop}
theorem fk{s:ByteArray}(u:P.underlying T=some .string)(k:K (hZ (s.size:Int))):eP P (Builtin.len_ #[T] R [F0 s].toArray) K:=by
 refine⟨_,?_,k⟩
 show pr P (do
  match <- underlying T,F0 s with
  | .string,.string s=>pure (goInt s.size)
  | .array n _,_=>pure (goInt n)
  | .pointer arr,_=>
   let .array n _ <- underlying arr|stuck "len: pointer to array expected"
   pure (goInt n)
  | .slice _,.slice _ n _=>pure (goInt n)
  | .map _ _,.map none|.chan _ _,.chan none=>pure (goInt 0)
  | .map _ _,.map (some r)=>
   let .map entries _ <- getObj r|stuck "len: map expected"
   pure (goInt entries.size)
  | .chan _ _,.chan (some r)=>
   let .chan _ buf _ _ _ timer <- getObj r|stuck "len: channel expected"
   pure (goInt (if timer then 0 else buf.size))
  | _, _ => stuck "len: string, array, pointer to array, slice, map or channel expected")=_
 rw[cX,cZ u];rfl
theorem jW{s:ByteArray}{i:Int}{e:UInt8}(B:P.underlying T=some .string)(E:0<=i)(u:(iQ s)[i.toNat]?=some e)(k:K (.int .u8 (e.toNat:Int))):eP P (u4 T (.string s) (hZ i)) K:=by
 refine⟨_,?_,k⟩
 rw[RN]at u
 have hi:i.toNat<s.size:=by
  grind
 rw[dif_pos hi]at u
 have h3:(if 0<=i then s[i.toNat]? else none)=some e:=dD
 unfold u4
 simp only[asIntOf,cX,cZ B,mQ,fR,h3]
theorem nW{s:ByteArray}{i:Int}(u:P.underlying T=some .string)(B:0<=i)(h1:i<=s.size)(k:K (.string (s.extract 0 i.toNat))):eP P (n4 T (.string s) none (some (hZ i)) none) K:=by
 refine⟨_,?_,k⟩
 unfold n4
 rw[cX,cZ u]
 simp only[mQ]
 unfold Px
 rw[cX,cZ u]
 simp only[mQ]
 rw[ej ee]
 have hb:pr P (v7 false s.size s.size none (some (hZ i)) none)=some (0,i.toNat,s.size):=by
  simp only[v7,cX,fR,mQ]
  rw[jn B h1];rfl
 rw[cX,hb];rfl
theorem Lt{s:ByteArray}{i j:Int}(u:P.underlying T=some .string)(B:0<=i)(E:i<=j)(h1:j<=s.size)(k:K (.string (s.extract i.toNat j.toNat))):eP P (n4 T (.string s) (some (hZ i)) (some (hZ j)) none) K:=by
 refine⟨_,?_,k⟩
 unfold n4
 rw[cX,cZ u]
 simp only[mQ]
 unfold Px
 rw[cX,cZ u]
 simp only[mQ]
 rw[ej ee]
 have hb:pr P (v7 false s.size s.size (some (hZ i)) (some (hZ j)) none)=some (i.toNat,j.toNat,s.size):=by
  simp only[v7,cX,fR,mQ]
  rw[jn cK h1];simp only[mQ];rw[jn B cK];rfl
 rw[cX,hb];rfl
theorem AF(k:K (.bool (decide (a<=b)))):eP P (kj .leq T cx cy (.int .u8 a) (.int .u8 b)) K:=⟨_,rfl,k⟩
theorem AG(k:K (.bool (decide (b<=a)))):eP P (kj .geq T cx cy (.int .u8 a) (.int .u8 b)) K:=⟨_,rfl,k⟩
theorem nH(k:K (.bool (decide (a=b)))):eP P (kj .eql T cx cy (.int .u8 a) (.int .u8 b)) K:=⟨_,rfl,k⟩
theorem WN(k:K (.bool (decide (a≠b)))):eP P (kj .neq T cx cy (.int .u8 a) (.int .u8 b)) K:=
 ⟨_,(show pr P (kj .neq T cx cy (.int .u8 a) (.int .u8 b))=some (.bool (decide (a≠b)))from by
  show some (wX (a != b))=_
  grind),k⟩
theorem Lu{t:Array TypeId}{R:TypeId}{c:Int}(k:K (hZ (max (max a b) c))):eP P (Builtin.max_ t R [hZ a,hZ b,hZ c].toArray) K:=by
 refine⟨_,?_,k⟩
 show pr P (do Builtin.max2 (<- Builtin.max2 (hZ a) (hZ b)) (hZ c))=_
 have h:∀x y:Int,pr P (Builtin.max2 (hZ x) (hZ y))=some (hZ (max x y)):=by
  intro x y
  unfold Builtin.max2
  by_cases h:x<y
  .simp[h,fR];omega
  .simp[h,fR];omega
 rw[cX,h]
 exact h _ _
end
def fU{α σ:Type}[Flat σ][Deep α σ](v:Value)(xs:List α):HP:=pK λts:List σ=>sep (bH v ts) (eD (iq ts xs))
section
variable {P:Program}{α σ:Type}[Flat σ] [D:Deep α σ] {w w' w0:World}{v src:Value}{A:Nat->Prop}{L:List HP}{xs ys:List α}
theorem St.RO(u:St w0 A (fU v xs::L) w):∃ts:List σ,St w0 A (bH v ts::Fw.eD (iq ts xs)::L) w:=by
 obtain⟨ts,h⟩:=u.eh;exact⟨ts,h.split⟩
theorem St.G9{ts:List σ}(u:St w0 A (bH v ts::Fw.eD (iq ts xs)::L) w):St w0 A (fU v xs::L) w:=
 St.ek (H:=λts:List σ=>sep (bH v ts) (Fw.eD (iq ts xs))) ts (St.join u)
theorem St.anT{ts:List σ}(u:St w0 A (bH v ts::Fw.eD (iq ts xs)::L) w):ts.length=xs.length:=u.p1.eD.1
theorem St.I1(u:St w0 A L w):St w0 A (fU (.slice none 0 0) ([]:List α)::L) w:=
 St.G9 (ts:=[]) ((u.fu λ_=>iq.nil).eL)
theorem St.avj(u:St w0 A (bH v ([]:List σ)::L) w):St w0 A (fU v ([]:List α)::L) w:=
 St.G9 (ts:=[]) (u.fu (Φ:=iq ([]:List σ) ([]:List α)) λ_=>iq.nil).p1
theorem St.avk{s:σ}{x:α}(u:St w0 A (bH v [s]::Fw.eD (λw=>Deep.dr w s x)::L) w):St w0 A (fU v [x]::L) w:=by
 refine St.G9 (ts:=[s]) ?_
 refine(u.p1.dN (Ψ:=iq [s] [x]) λw h=>?_).p1
 exact(iq.nil (w:=w)).snoc h
theorem St.avl{ts us:List σ}(u:St w0 A (bH v (ts++us)::Fw.eD (iq ts xs)::Fw.eD (iq us ys)::L) w):St w0 A (fU v (xs++ys)::L) w:=by
 have h1:=(u.p1:St w0 A (Fw.eD (iq ts xs)::bH v (ts++us)::Fw.eD (iq us ys)::L) w)
 have h2:=h1.p2.p1
 refine St.G9 (ts:=ts++us) ?_
 exact(h2.gR.dN (Ψ:=iq (ts++us) (xs++ys)) λw h=>h.1.append h.2).p1
theorem St.mX(u:St w0 A (fU v xs::L) w):St w0 A (Fw.eD (λw=>DL w v xs)::L) w:=by
 obtain⟨ts,h⟩:=u.RO
 exact h.freeze.gR.dN λw h=>DL.of h.1 h.2
theorem St.dl(u:St w0 A (fU v xs::L) w):DL w v xs:=u.mX.eD
theorem St.oZ(u:St w0 A (fU v xs::L) w):∃s:SV,v=ia s:=u.dl.fJ
theorem St.enc{b:Nat}{cs cs':List Value}(u:St w0 A (bY b cs::L) w)(h:cs=cs'):St w0 A (bY b cs'::L) w:=h▸u
theorem tF{T E B:Nat}{K:Value->hM}(u:St w0 A L w)(ht:Vr P T E (mI σ) B)(k:∀v w',St w0 A (fU v ([]:List α)::L) w'->K v w'):qZ P (J8 T 0 ([]:List (Nat×Value)).toArray) w K:=
 bD ([]:List σ) u ht rfl rfl ei λv w' h=>k v w' h.avj
theorem gh{T E B:Nat}{s:σ}{x:α}{K:Value->hM}(u:St w0 A (Fw.eD (λw=>Deep.dr w s x)::L) w)(ht:Vr P T E (mI σ) B)(G:mI σ<=64)(k:∀v w',St w0 A (fU v [x]::L) w'->K v w') :
  qZ P (J8 T 1 [(0,ia s)].toArray) w K:=
 bD [s] u ht rfl rfl (by simp;omega) λv w' h=>k v w' h.avk
theorem gi{T E G R:Nat}{K:Value->hM}(I:St w0 A (fU v xs::fU src ys::L) w)(ht:Vr P T E (mI σ) G)
  (O:xs.length+ys.length<=1073741824) (B:G<=8192) (k:∀u w',St w0 A (fU u (xs++ys)::L) w'->K u w'):qZ P (Builtin.append_ #[T,T] R [v,src].toArray) w K:=by
 obtain⟨us,h1⟩:=I.p1.RO
 obtain⟨ts,h2⟩:=h1.p2.RO
 have M:=h1.anT
 have J:=h2.anT
 refine bJ h2 ht h2.p2.dX cK B λu w' h=>k u w' ?_
 exact h.p2.drop.avl
theorem jz{β:Type}[Flat β]{T:Nat}{b o:Nat}{cs:List Value}(x:β)(ht:dF P T=some (Ib β,mI β))(hb:mT w b cs)(B:(cs.drop o).take (mI β)=j0 x) :
  (xR T (.pointer (some ⟨b,o,none⟩))).run P w=.ok (ia x) w:=by
 refine eN (S:=λ_=>True) ht ⟨b,o,rfl,trivial,λj c u=>hb.cell ?_⟩
 grind
end
instance:Flat UInt8 where
 agg:=false
 sz:=1
 enc b:=[.int .u8 b.toNat]
 val b:=.int .u8 b.toNat
 pos:=ee
 len _:=rfl
 one a v h:=by rw[vx.1 h];rfl
 oH h:=by cases h
 oI _ _:=rfl
instance:Deep UInt8 UInt8:=jg
def tG{α σ:Type}[Flat σ][Deep α σ](P:Program)(w:World)(f:Value)(φ:α->Prop)(g:α->Bool):Prop:=∃B first cap,f=.func (.func B) (O8 first) (O8 cap)/\Plain P B/\
 ∀(s:σ) (x:α) u,Ext w u->Deep.dr u s x->φ x->Calls P B (first++[ia s]++cap).toArray u (tV λv E=>v=.bool (g x)/\Ext u E)
theorem tG.ext{α σ:Type}[Flat σ][Deep α σ]{P:Program}{w w':World}{f:Value}{φ:α->Prop}{g:α->Bool}(h:tG P w f φ g)(e:Ext w w'):tG P w' f φ g:=by
 obtain⟨u,first,cap,h1,h2,h3⟩:=h;exact⟨u,first,cap,h1,h2,λs x E B=>h3 s x E (e.trans B)⟩
def Ha{α:Type}[Flat α]{P:Program}{S:Nat->Prop}{w:World}{T E:TypeId}{cx cy:Bool}{v:Value}{xs:List α}{K:Value->Prop}(h:P.underlying T=some (.slice E))(B:dC S w v xs)(k:∀p:Bool,(p=true->xs=[])->K (.bool p)) :
  eP P (kj .eql T cx cy v (.slice none 0 0)) K:=by
 obtain⟨a,cap,rfl,_,h3⟩:=B
 have u:pr P (Op.equal T (.slice a xs.length cap) (.slice none 0 0))=some a.isNone:=by
  show pr P (Op.equalIn 10000 T (.slice a xs.length cap) (.slice none 0 0))=_
  unfold Op.equalIn
  rw[cX,cZ h]
  cases a<;>rfl
 refine⟨_,?_,k a.isNone λG=>?_⟩
 .show pr P (do pure (wX (<- Op.equal T (.slice a xs.length cap) (.slice none 0 0))))=_
  rw[xX,u];rfl
 grind
structure Ptr where
 b:Nat
deriving DecidableEq
instance:Flat Ptr where
 agg:=false
 sz:=1
 enc p:=[.pointer (some ⟨p.b,0,none⟩)]
 val p:=.pointer (some ⟨p.b,0,none⟩)
 pos:=ee
 len _:=rfl
 one a v h:=by rw[vx.1 h];rfl
 oH h:=by cases h
 oI _ _:=rfl
instance:Deep Ptr Ptr:=jg
def g9{α κ:Type}(H:κ->α->HP):List κ->List α->HP
 | [],[]=>emp
 | p::ps,x::xs=>sep (H p x) (g9 H ps xs)
 | _,_=>fact False emp
section
variable {P:Program}{α κ:Type}{H:κ->α->HP}{A:Nat->Prop}{w0 w:World}{L:List HP}
theorem BR:∀{ps:List κ}{xs:List α}{F:Nat->Prop},(g9 H ps xs).p w F->ps.length=xs.length
 | [],[],_,_=>rfl
 | s::ss,x::xs,F,h=>by
  obtain⟨u,B,_,h2,_,_⟩:=h
  rw[oE,oE,BR h2]
 | [],_::_,_,h=>h.1.elim
 | _::_,[],_,h=>h.1.elim
theorem St.iZ{ps:List κ}{xs:List α}(u:St w0 A (g9 H ps xs::L) w):ps.length=xs.length:=by
 obtain⟨F,h,_⟩:=u.head;exact BR h
theorem St.AH(u:St w0 A L w):St w0 A (g9 H [] []::L) w:=u.new (Ext.refl w) (F:=aZ) (λ_ h=>h) λ_ h=>h.elim
def nI(H:κ->α->HP)(ps:List κ)(xs:List α)(i:Nat):HP:=sep (g9 H (ps.take i) (xs.take i)) (g9 H (ps.drop (i+1)) (xs.drop (i+1)))
theorem CD:∀{ps:List κ}{xs:List α}{i:Nat}{p:κ}{x:α}{F:Nat->Prop},(g9 H ps xs).p w F->ps[i]?=some p->xs[i]?=some x->(sep (H p x) (nI H ps xs i)).p w F
 | U::ps,x'::xs,0,p,x,F,h,u,hx=>by
  rw[List.getElem?_cons_zero]at u hx
  obtain rfl:=oi.inj u
  obtain rfl:=oi.inj hx
  obtain⟨B,E,h1,h2,h3,h4⟩:=h
  exact⟨B,E,h1,⟨aZ,E,λ_ h=>h,h2,λ_ h=>h.elim,λb=>⟨.inr,λh=>h.elim (λh=>h.elim) id⟩⟩,h3,h4⟩
 | U::ps,x'::xs,i+1,p,x,F,h,u,hx=>by
  rw[NX]at u hx
  obtain⟨B,E,h1,h2,h3,h4⟩:=h
  obtain⟨M,W,O,⟨G,K2,J,V,k3,I⟩,g3,Z⟩:=CD h2 u hx
  refine⟨M,λb=>B b\/W b,O,⟨λb=>B b\/G b,K2,⟨B,G,h1,J,λb hb Y=>h3 b hb ((Z b).2 (.inr ((I b).2 (.inl Y)))),λb=>Iff.rfl⟩,V,?_,?_⟩,?_,?_⟩
  .grind
  .grind
  .grind
  grind
 | [],[],_,_,_,_,_,u,_=>by simp at u
 | [],_::_,_,_,_,_,h,_,_=>h.1.elim
 | _::_,[],_,_,_,_,h,_,_=>h.1.elim
theorem BS:∀{ps:List κ}{xs:List α}{i:Nat}{p:κ}{x:α}{F:Nat->Prop},i<xs.length->ps.length=xs.length->(sep (H p x) (nI H ps xs i)).p w F->(g9 H (ps.set i p) (xs.set i x)).p w F
 | Y::ps,x'::xs,0,p,x,F,_,_,h=>by
  obtain⟨u,I,h1,⟨Z,K2,U,M,G,E⟩,h3,h4⟩:=h
  refine⟨u,I,h1,?_,h3,h4⟩
  have e:I=K2:=funext λb=>propext ((E b).trans ⟨λh=>h.elim (λh=>(U b h).elim) id,.inr⟩)
  grind
 | Y::ps,x'::xs,i+1,p,x,F,hi,hl,h=>by
  obtain⟨J,G2,V,⟨Z,K2,⟨u,B,O,m1,f3,W⟩,M,G,E⟩,g3,g4⟩:=h
  refine⟨u,λb=>J b\/(B b\/K2 b),O,BS dD dD ⟨J,λb=>B b\/K2 b,V,⟨B,K2,m1,M,λb hb hk=>G b ((W b).2 (.inr hb)) hk,λb=>Iff.rfl⟩,?_,λb=>Iff.rfl⟩,?_,?_⟩
  .grind
  .grind
  grind
 | [],_::_,_,_,_,_,_,hl,_=>by simp at hl
 | _,[],_,_,_,_,hi,_,_=>by simp at hi
theorem mY{β:Type}:∀{ps:List β}{i:Nat}{p:β},ps[i]?=some p->ps.set i p=ps
 | [],_,_,h=>by simp at h
 | y::ps,0,p,h=>by grind
 | y::ps,i+1,p,h=>by rw[NX]at h;rw[List.set_cons_succ,mY h]
theorem OT{ps:List κ}{xs:List α}{i:Nat}{p:κ}{x:α}{F:Nat->Prop}(hi:i<xs.length)(u:ps.length=xs.length)(B:ps[i]?=some p)(h:(sep (H p x) (nI H ps xs i)).p w F):(g9 H ps (xs.set i x)).p w F:=by
 have:=BS hi u h;rwa [mY B]at this
theorem Hb:∀{ps qs:List κ}{xs ys:List α}{F:Nat->Prop},(sep (g9 H ps xs) (g9 H qs ys)).p w F->(g9 H (ps++qs) (xs++ys)).p w F
 | [],qs,[],ys,F,⟨B,u,h1,h2,_,h4⟩=>by
  have:F=u:=funext λb=>propext ((h4 b).trans ⟨λh=>h.elim (λh=>(h1 b h).elim) id,.inr⟩)
  grind
 | p::ps,qs,x::xs,ys,F,⟨B,u,⟨G1,G2,g1,g2,g3,g4⟩,h2,h3,h4⟩=>by
  refine⟨G1,λb=>G2 b\/u b,g1,Hb ⟨G2,u,g2,h2,λb hb=>h3 b ((g4 b).2 (.inr hb)),λb=>Iff.rfl⟩,λb hb=>?_,λb=>dD⟩
  grind
 | [],_,_::_,_,_,⟨_,_,h,_⟩=>h.1.elim
 | _::_,_,[],_,_,⟨_,_,h,_⟩=>h.1.elim
theorem St.focus{ps:List κ}{xs:List α}{i:Nat}{p:κ}{x:α}(B:St w0 A (g9 H ps xs::L) w)(E:ps[i]?=some p)(G:xs[i]?=some x):St w0 A (H p x::nI H ps xs i::L) w:=
 (B.rz (H':=sep (H p x) (nI H ps xs i)) λF u=>⟨F,CD u E G,λb hb=>.inl hb,gv.refl _ _⟩).split
theorem St.Ds{ps:List κ}{xs:List α}{i:Nat}{p:κ}{x:α}(E:St w0 A (H p x::nI H ps xs i::L) w)(hi:i<xs.length)(u:ps.length=xs.length)(G:ps[i]?=some p):St w0 A (g9 H ps (xs.set i x)::L) w:=
 (St.join E).rz λF B=>⟨F,OT hi u G B,λb hb=>.inl hb,gv.refl _ _⟩
theorem Eo:∀{ps:List κ}{xs:List α}{p:κ}{x:α}{B u F:Nat->Prop},(g9 H ps xs).p w B->(H p x).p w u->(∀b,B b->¬ u b)->(∀b,F b↔B b\/u b)->(g9 H (ps++[p]) (xs++[x])).p w F
 | [],[],p,x,B,u,F,h1,h2,_,h4=>⟨u,B,h2,h1,λb _ I=>h1 b I,λb=>dD⟩
 | s'::ss,x'::xs,p,x,B,u,F,h1,h2,h3,h4=>by
  obtain⟨G,E,M,J,U,O⟩:=h1
  refine⟨G,λb=>E b\/u b,M,Eo J h2 (λb hb=>h3 b ((O b).2 (.inr hb))) (λb=>Iff.rfl),λb hb=>?_,λb=>?_⟩
  .grind
  grind
 | [],_::_,_,_,_,_,_,h,_,_,_=>h.1.elim
 | _::_,[],_,_,_,_,_,h,_,_,_=>h.1.elim
theorem St.Ep{ps:List κ}{xs:List α}{p:κ}{x:α}(B:St w0 A (g9 H ps xs::H p x::L) w):St w0 A (g9 H (ps++[p]) (xs++[x])::L) w:=by
 refine(St.join B).rz λF u=>?_
 obtain⟨E,G,h1,h2,h3,h4⟩:=u
 exact⟨F,Eo h1 h2 h3 h4,λb hb=>.inl hb,gv.refl _ _⟩
theorem St.Er{ps:List κ}{xs:List α}{i:Nat}{p:κ}{x:α}(E:St w0 A (H p x::nI H ps xs i::L) w)(hi:i<xs.length)(u:ps.length=xs.length):St w0 A (g9 H (ps.set i p) (xs.set i x)::L) w:=
 (St.join E).rz λF B=>⟨F,BS hi u B,λb hb=>.inl hb,gv.refl _ _⟩
theorem St.TQ{ps:List κ}{xs:List α}{i:Nat}(u:St w0 A (nI H ps xs i::L) w):St w0 A (g9 H (ps.eraseIdx i) (xs.eraseIdx i)::L) w:=by
 rw[wi,wi]
 exact u.rz λF B=>⟨F,Hb B,λb hb=>.inl hb,gv.refl _ _⟩
theorem St.ahV{ps:List κ}{xs:List α}{i:Nat}{p:κ}{x:α}{Φ:hM}(B:St w0 A (g9 H ps xs::L) w)(G:ps[i]?=some p)(u:xs[i]?=some x)(h:∀{w F},(H p x).p w F->Φ w):Φ w:=by
 obtain⟨F,E,_⟩:=(B.focus G u).head;exact h E
end
end Go.Fw
namespace Go.Proofs.YtpdlpabnlkofmaaGreatDoor
open Go.Fw
@[ext] structure cJ where
 name:ByteArray
 n:Int
 at_:Int
deriving DecidableEq
instance:Flat cJ where
 agg:=true
 sz:=3
 enc e:=[.string e.name,hZ e.n,hZ e.at_]
 val e:=.agg [.string e.name,hZ e.n,hZ e.at_].toArray
 pos:=ee
 len _:=rfl
 one a v h:=by simp at h;rcases h with rfl|rfl|rfl<;>rfl
 oH _ _:=rfl
 oI h:=by cases h
instance:Deep cJ cJ:=jg
def ye(x:cJ):Prop:=x.name.size<=maxLen/\eZ x.n/\eZ x.at_
@[ext] structure cA where
 op:Int
 n:Int
 name:ByteArray
 at_:Int
deriving DecidableEq
instance:Flat cA where
 agg:=true
 sz:=4
 enc e:=[hZ e.op,hZ e.n,.string e.name,hZ e.at_]
 val e:=.agg [hZ e.op,hZ e.n,.string e.name,hZ e.at_].toArray
 pos:=ee
 len _:=rfl
 one a v h:=by simp at h;rcases h with rfl|rfl|rfl|rfl<;>rfl
 oH _ _:=rfl
 oI h:=by cases h
instance:Deep cA cA:=jg
def AI(x:cA):Prop:=eZ x.op/\eZ x.n/\x.name.size<=maxLen/\eZ x.at_
structure bQ where
 kind:Int
 eF:ByteArray
 name:ByteArray
 e:(List cA)
 f:(List cA)
 n:Int
 body:Int
 eu:Int
 at_:Int
deriving DecidableEq
structure bE where
 kind:Int
 eF:ByteArray
 name:ByteArray
 e:SV
 f:SV
 n:Int
 body:Int
 eu:Int
 at_:Int
instance:Flat bE where
 agg:=true
 sz:=9
 enc e:=[hZ e.kind,.string e.eF,.string e.name,.slice e.e.a e.e.n e.e.cap,.slice e.f.a e.f.n e.f.cap,hZ e.n,hZ e.body,hZ e.eu,hZ e.at_]
 val e:=.agg [hZ e.kind,.string e.eF,.string e.name,.slice e.e.a e.e.n e.e.cap,.slice e.f.a e.f.n e.f.cap,hZ e.n,hZ e.body,hZ e.eu,hZ e.at_].toArray
 pos:=ee
 len _:=rfl
 one a v h:=by simp at h;rcases h with rfl|rfl|rfl|rfl|rfl|rfl|rfl|rfl|rfl<;>rfl
 oH _ _:=rfl
 oI h:=by cases h
instance:Deep bQ bE where
 dr w s x:=∃(u:SV) (B:SV),s=(⟨x.kind,x.eF,x.name,u,B,x.n,x.body,x.eu,x.at_⟩:bE)/\DL w (ia u) x.e/\DL w (ia B) x.f
 ext h e:=by
  obtain⟨E,I,rfl,G,h1⟩:=h
  exact⟨E,I,rfl,G.ext e,h1.ext e⟩
def I2(x:bQ):Prop:=eZ x.kind/\x.eF.size<=maxLen/\x.name.size<=maxLen/\(∀y∈x.e,AI y)/\(∀y∈x.f,AI y)/\eZ x.n/\eZ x.body/\eZ x.eu/\eZ x.at_
structure cN where
 name:ByteArray
 dQ:(List ByteArray)
 body:(List bQ)
 at_:Int
deriving DecidableEq
structure cH where
 name:ByteArray
 dQ:SV
 body:SV
 at_:Int
instance:Flat cH where
 agg:=true
 sz:=4
 enc e:=[.string e.name,.slice e.dQ.a e.dQ.n e.dQ.cap,.slice e.body.a e.body.n e.body.cap,hZ e.at_]
 val e:=.agg [.string e.name,.slice e.dQ.a e.dQ.n e.dQ.cap,.slice e.body.a e.body.n e.body.cap,hZ e.at_].toArray
 pos:=ee
 len _:=rfl
 one a v h:=by simp at h;rcases h with rfl|rfl|rfl|rfl<;>rfl
 oH _ _:=rfl
 oI h:=by cases h
instance:Deep cN cH where
 dr w s x:=∃(u:SV) (B:SV),s=(⟨x.name,u,B,x.at_⟩:cH)/\DL w (ia u) x.dQ/\DL w (ia B) x.body
 ext h e:=by
  obtain⟨E,I,rfl,G,h1⟩:=h
  exact⟨E,I,rfl,G.ext e,h1.ext e⟩
def yf(x:cN):Prop:=x.name.size<=maxLen/\(∀y∈x.dQ,(λy:ByteArray=>y.size<=maxLen) y)/\(∀y∈x.body,I2 y)/\eZ x.at_
structure gS where
 e:(List cA)
 at_:Int
deriving DecidableEq
structure jA where
 e:SV
 at_:Int
instance:Flat jA where
 agg:=true
 sz:=2
 enc e:=[.slice e.e.a e.e.n e.e.cap,hZ e.at_]
 val e:=.agg [.slice e.e.a e.e.n e.e.cap,hZ e.at_].toArray
 pos:=ee
 len _:=rfl
 one a v h:=by simp at h;rcases h with rfl|rfl<;>rfl
 oH _ _:=rfl
 oI h:=by cases h
instance:Deep gS jA where
 dr w s x:=∃(u:SV),s=(⟨u,x.at_⟩:jA)/\DL w (ia u) x.e
 ext h e:=by
  obtain⟨B,rfl,E⟩:=h
  exact⟨B,rfl,E.ext e⟩
def Es(x:gS):Prop:=(∀y∈x.e,AI y)/\eZ x.at_
structure cE where
 lines:(List (List cJ))
 iR:(List cJ)
 eJ:(List cJ)
 threads:(List cN)
 recover:(List cN)
 dS:(List gS)
deriving DecidableEq
structure bP where
 lines:SV
 iR:SV
 eJ:SV
 threads:SV
 recover:SV
 dS:SV
instance:Flat bP where
 agg:=true
 sz:=6
 enc e:=[.slice e.lines.a e.lines.n e.lines.cap,.slice e.iR.a e.iR.n e.iR.cap,.slice e.eJ.a e.eJ.n e.eJ.cap,.slice e.threads.a e.threads.n e.threads.cap,.slice e.recover.a e.recover.n e.recover.cap,.slice e.dS.a e.dS.n e.dS.cap]
 val e:=.agg [.slice e.lines.a e.lines.n e.lines.cap,.slice e.iR.a e.iR.n e.iR.cap,.slice e.eJ.a e.eJ.n e.eJ.cap,.slice e.threads.a e.threads.n e.threads.cap,.slice e.recover.a e.recover.n e.recover.cap,.slice e.dS.a e.dS.n e.dS.cap].toArray
 pos:=ee
 len _:=rfl
 one a v h:=by simp at h;rcases h with rfl|rfl|rfl|rfl|rfl|rfl<;>rfl
 oH _ _:=rfl
 oI h:=by cases h
instance:Deep cE bP where
 dr w s x:=∃(I:SV) (u:SV) (E:SV) (J:SV) (G:SV) (B:SV),s=(⟨I,u,E,J,G,B⟩:bP)/\DL w (ia I) x.lines/\DL w (ia u) x.iR/\DL w (ia E) x.eJ/\DL w (ia J) x.threads/\DL w (ia G) x.recover/\DL w (ia B) x.dS
 ext h e:=by
  obtain⟨M,Y,W,O,Z,V,rfl,U,h1,h2,h3,h4,h5⟩:=h
  exact⟨M,Y,W,O,Z,V,rfl,U.ext e,h1.ext e,h2.ext e,h3.ext e,h4.ext e,h5.ext e⟩
def acw(x:cE):Prop:=(∀y∈x.lines,(λys:(List cJ)=>∀y∈ys,ye y) y)/\(∀y∈x.iR,ye y)/\(∀y∈x.eJ,ye y)/\(∀y∈x.threads,yf y)/\(∀y∈x.recover,yf y)/\(∀y∈x.dS,Es y)
@[ext] structure oA where
 kind:Int
 n:Int
deriving DecidableEq
instance:Flat oA where
 agg:=true
 sz:=2
 enc e:=[hZ e.kind,hZ e.n]
 val e:=.agg [hZ e.kind,hZ e.n].toArray
 pos:=ee
 len _:=rfl
 one a v h:=by simp at h;rcases h with rfl|rfl<;>rfl
 oH _ _:=rfl
 oI h:=by cases h
instance:Deep oA oA:=jg
structure aS where
 kind:Int
 t:Int
 i:Int
 cut:(List Int)
deriving DecidableEq
structure aJ where
 kind:Int
 t:Int
 i:Int
 cut:SV
instance:Flat aJ where
 agg:=true
 sz:=4
 enc e:=[hZ e.kind,hZ e.t,hZ e.i,.slice e.cut.a e.cut.n e.cut.cap]
 val e:=.agg [hZ e.kind,hZ e.t,hZ e.i,.slice e.cut.a e.cut.n e.cut.cap].toArray
 pos:=ee
 len _:=rfl
 one a v h:=by simp at h;rcases h with rfl|rfl|rfl|rfl<;>rfl
 oH _ _:=rfl
 oI h:=by cases h
instance:Deep aS aJ where
 dr w s x:=∃(u:SV),s=(⟨x.kind,x.t,x.i,u⟩:aJ)/\DL w (ia u) x.cut
 ext h e:=by
  obtain⟨B,rfl,E⟩:=h
  exact⟨B,rfl,E.ext e⟩
def acx(x:aS):Prop:=eZ x.kind/\eZ x.t/\eZ x.i/\(∀y∈x.cut,eZ y)
@[ext] structure cB where
 kind:Int
 t:Int
 a:Int
 n:Int
 m:Int
deriving DecidableEq
instance:Flat cB where
 agg:=true
 sz:=5
 enc e:=[hZ e.kind,hZ e.t,hZ e.a,hZ e.n,hZ e.m]
 val e:=.agg [hZ e.kind,hZ e.t,hZ e.a,hZ e.n,hZ e.m].toArray
 pos:=ee
 len _:=rfl
 one a v h:=by simp at h;rcases h with rfl|rfl|rfl|rfl|rfl<;>rfl
 oH _ _:=rfl
 oI h:=by cases h
instance:Deep cB cB:=jg
@[ext] structure hG where
 bZ:Int
 fault:Int
 t:Int
 done:Bool
 stuck:Bool
deriving DecidableEq
instance:Flat hG where
 agg:=true
 sz:=5
 enc e:=[hZ e.bZ,hZ e.fault,hZ e.t,.bool e.done,.bool e.stuck]
 val e:=.agg [hZ e.bZ,hZ e.fault,hZ e.t,.bool e.done,.bool e.stuck].toArray
 pos:=ee
 len _:=rfl
 one a v h:=by simp at h;rcases h with rfl|rfl|rfl|rfl|rfl<;>rfl
 oH _ _:=rfl
 oI h:=by cases h
instance:Deep hG hG:=jg
@[ext] structure bI where
 kind:Int
 line:Int
 cell:Int
 n:Int
deriving DecidableEq
instance:Flat bI where
 agg:=true
 sz:=4
 enc e:=[hZ e.kind,hZ e.line,hZ e.cell,hZ e.n]
 val e:=.agg [hZ e.kind,hZ e.line,hZ e.cell,hZ e.n].toArray
 pos:=ee
 len _:=rfl
 one a v h:=by simp at h;rcases h with rfl|rfl|rfl|rfl<;>rfl
 oH _ _:=rfl
 oI h:=by cases h
instance:Deep bI bI:=jg
@[ext] structure bT where
 kind:Int
 text:ByteArray
 n:Int
 at_:Int
deriving DecidableEq
instance:Flat bT where
 agg:=true
 sz:=4
 enc e:=[hZ e.kind,.string e.text,hZ e.n,hZ e.at_]
 val e:=.agg [hZ e.kind,.string e.text,hZ e.n,hZ e.at_].toArray
 pos:=ee
 len _:=rfl
 one a v h:=by simp at h;rcases h with rfl|rfl|rfl|rfl<;>rfl
 oH _ _:=rfl
 oI h:=by cases h
instance:Deep bT bT:=jg
@[ext] structure mZ where
 line:Int
 cell:Int
 n:Int
deriving DecidableEq
instance:Flat mZ where
 agg:=true
 sz:=3
 enc e:=[hZ e.line,hZ e.cell,hZ e.n]
 val e:=.agg [hZ e.line,hZ e.cell,hZ e.n].toArray
 pos:=ee
 len _:=rfl
 one a v h:=by simp at h;rcases h with rfl|rfl|rfl<;>rfl
 oH _ _:=rfl
 oI h:=by cases h
instance:Deep mZ mZ:=jg
@[ext] structure km where
 cell:Int
 n:Int
deriving DecidableEq
instance:Flat km where
 agg:=true
 sz:=2
 enc e:=[hZ e.cell,hZ e.n]
 val e:=.agg [hZ e.cell,hZ e.n].toArray
 pos:=ee
 len _:=rfl
 one a v h:=by simp at h;rcases h with rfl|rfl<;>rfl
 oH _ _:=rfl
 oI h:=by cases h
instance:Deep km km:=jg
structure RQ where
 of:SV
 dU:SV
 l:SV
 k:SV
 w:SV
instance:Flat RQ where
 agg:=true
 sz:=5
 enc e:=[.slice e.of.a e.of.n e.of.cap,.slice e.dU.a e.dU.n e.dU.cap,.slice e.l.a e.l.n e.l.cap,.slice e.k.a e.k.n e.k.cap,.slice e.w.a e.w.n e.w.cap]
 val e:=.agg [.slice e.of.a e.of.n e.of.cap,.slice e.dU.a e.dU.n e.dU.cap,.slice e.l.a e.l.n e.l.cap,.slice e.k.a e.k.n e.k.cap,.slice e.w.a e.w.n e.w.cap].toArray
 pos:=ee
 len _:=rfl
 one a v h:=by simp at h;rcases h with rfl|rfl|rfl|rfl|rfl<;>rfl
 oH _ _:=rfl
 oI h:=by cases h
def I3(p:Bool):Int:=if p then 1 else 0
def Et(a b:Int):Int:=BA (a.tdiv b)
def yx(op a:Int):Int:=if op=3 then BA (0-a)else if op=4 then I3 (decide (a=0))else 0
def Gq(op:Int):Int:=if op=3\/op=4 then 0 else 1
def lP(op a b:Int):Int:=
 if op=5 then BA (a+b)else if op=6 then BA (a-b)else if op=7 then BA (a*b)else if op=8 then Et a b else if op=9 then a.tmod b
 else if op=10 then I3 (decide (a=b))else if op=11 then I3 (decide (¬ a=b))else if op=12 then I3 (decide (a<b))else if op=13 then I3 (decide (a<=b))
 else if op=14 then I3 (decide (¬ a=0)&&decide (¬ b=0))else if op=15 then I3 (decide (¬ a=0)||decide (¬ b=0))else 0
def gD(op b:Int):Int:=if op<5\/15<op then 1 else if (op=8\/op=9)/\b=0 then 12 else 0
def gz(op a b:Int):Int:=if gD op b=0 then lP op a b else 0
theorem BT:Et (-9223372036854775808) (-1) = -9223372036854775808:=ee
theorem acy{a b:Int}(O : -9223372036854775808<=a/\a<=9223372036854775807)(hb : -9223372036854775808<=b/\b<=9223372036854775807)(V:b≠0):BA (a-BA (b*Et a b))=a.tmod b:=by
 have h1:=Int.mul_tdiv_add_tmod a b
 by_cases hc:a = -9223372036854775808/\b = -1
 .obtain⟨rfl,rfl⟩:=hc
  decide
 have J : -9223372036854775808<=a.tdiv b/\a.tdiv b<=9223372036854775807:=by
  have h2:(a.tdiv b).natAbs<=a.natAbs:=by rw[aaF];exact Nat.div_le_self _ _
  by_cases E:a = -9223372036854775808
  .subst E
   have U:b≠-1:=λh=>hc ⟨rfl,h⟩
   by_cases I:b=1
   .grind
   .have h3:(Int.tdiv (-9223372036854775808) b).natAbs<=9223372036854775808 / 2:=by
     rw[aaF]
     exact Nat.div_le_div_left cK cK
    omega
  .omega
 have W:(a.tmod b).natAbs<b.natAbs:=by rw[SU];exact aaX _ cK
 unfold Et
 rw[zq J]
 have E:b*a.tdiv b=a-a.tmod b:=cK
 have M:(a.tmod b).natAbs<=a.natAbs:=by rw[SU];exact abt _ _
 have G:(0<=a->0<=a.tmod b):=λh=>PJ b h
 have B:(a<=0->a.tmod b<=0):=λh=>by
  have:=PJ (a:=-a) b cK
  rw[abm]at this;omega
 have u:(-9223372036854775808<=a-a.tmod b/\a-a.tmod b<=9223372036854775807)/\-9223372036854775808<=a.tmod b/\a.tmod b<=9223372036854775807:=by
  rcases Xz 0 a with h|h
  .have:=G h;omega
  .have:=B h;omega
 rw[E,zq u.1,show a-(a-a.tmod b)=a.tmod b from cK,zq u.2]
def C305(p:Bool)(w:World):CR 305 [.bool p] w (λv w'=>v=hZ (I3 p)/\Ext w w'):=by
 have B:=St.start w;refine fg Tryz.func305 ?_;refine aY (λu=>?_) (λu=>?_)
 .rw[u];exact⟨rfl,B.aG⟩
 rw[u];exact⟨rfl,B.aG⟩
def C302(p:Bool)(w:World):CR 302 [.bool p] w (λv w'=>v=hZ (I3 p)/\Ext w w'):=by
 have B:=St.start w;refine fg Tryz.func302 ?_;refine aY (λu=>?_) (λu=>?_)
 .rw[u];exact⟨rfl,B.aG⟩
 rw[u];exact⟨rfl,B.aG⟩
def C303(a:Int)(w:World):CR 303 [hZ a] w (λv w'=>v=.bool (decide (¬ a=0))/\Ext w w'):=by
 have u:=St.start w;refine fg Tryz.func303 ?_;exact bV ⟨rfl,u.aG⟩
def C306(a b:Int)(w:World)(h:b≠0):CR 306 [hZ a,hZ b] w (λv w'=>v=hZ (Et a b)/\Ext w w'):=by
 have u:=St.start w;refine fg Tryz.func306 ?_;refine⟨_,?_,λ_ _ h=>h⟩;refine aH (aC (λB=>?_) λB=>?_)
 .refine aH ?_;intro G;refine aC (λE=>?_) (λE=>?_)
  .first|exact⟨rfl,u.aG⟩|(exfalso;simp_all;done)|(rw[B,E,BT];exact⟨rfl,u.aG⟩)
  refine Em h ?_
  first|exact⟨rfl,u.aG⟩|(exfalso;simp_all;done)|(rw[B,E,BT];exact⟨rfl,u.aG⟩)
 intro G;refine ft (Em h ?_)
 first|exact⟨rfl,u.aG⟩|(exfalso;simp_all;done)|(rw[B,E,BT];exact⟨rfl,u.aG⟩)
def C274(op a:Int)(w:World):CR 274 [hZ op,hZ a] w (λv w'=>v=.tuple #[hZ (yx op a),hZ (Gq op)]/\Ext w w'):=by
 have B:=St.start w;refine fg Tryz.func274 ?_;refine aH (aC (λu=>?_) λu=>aH (aC (λE=>?_) λE=>?_))
 .refine AE ?_;unfold yx Gq
  first|(rw[ew u,ew (.inl u)];exact⟨rfl,B.aG⟩)|(rw[ej u,ew E,ew (.inr E)];exact⟨rfl,B.aG⟩)|(rw[ej u,ej E,ej cK];exact⟨rfl,B.aG⟩)
 .refine aH (aV Aj B (C305 _ _) λ_ G B=>?_);unfold yx Gq
  first|(rw[ew u,ew (.inl u)];exact⟨rfl,B.aG⟩)|(rw[ej u,ew E,ew (.inr E)];exact⟨rfl,B.aG⟩)|(rw[ej u,ej E,ej cK];exact⟨rfl,B.aG⟩)
 unfold yx Gq
 first|(rw[ew u,ew (.inl u)];exact⟨rfl,B.aG⟩)|(rw[ej u,ew E,ew (.inr E)];exact⟨rfl,B.aG⟩)|(rw[ej u,ej E,ej cK];exact⟨rfl,B.aG⟩)
def C269(op a:Int)(w:World):CR 269 [hZ op,hZ a] w (λv w'=>v=.tuple #[hZ (yx op a),hZ (Gq op)]/\Ext w w'):=by
 have u:=St.start w;refine fg Tryz.func269 ?_;refine aH (aC (λB=>?_) λB=>aH (aC (λE=>?_) λE=>?_))
 .refine WK ?_;unfold yx Gq
  first|(rw[ew B,ew (.inl B)];exact⟨rfl,u.aG⟩)|(rw[ej B,ew E,ew (.inr E)];exact⟨gO (λp=>Bv #[hZ (I3 p),hZ 0]) ei,u.aG⟩)|(rw[ej B,ej E,ej cK];exact⟨rfl,u.aG⟩)
 .refine aV KM u (C303 _ _) (λ_ G u=>?_)
  first|refine KP ?_|refine bR ?_
  refine aV Wg u (C302 _ _) (λ_ G u=>?_);unfold yx Gq
  first|(rw[ew B,ew (.inl B)];exact⟨rfl,u.aG⟩)|(rw[ej B,ew E,ew (.inr E)];exact⟨gO (λp=>Bv #[hZ (I3 p),hZ 0]) ei,u.aG⟩)|(rw[ej B,ej E,ej cK];exact⟨rfl,u.aG⟩)
 unfold yx Gq
 first|(rw[ew B,ew (.inl B)];exact⟨rfl,u.aG⟩)|(rw[ej B,ew E,ew (.inr E)];exact⟨gO (λp=>Bv #[hZ (I3 p),hZ 0]) ei,u.aG⟩)|(rw[ej B,ej E,ej cK];exact⟨rfl,u.aG⟩)
def C275(op a b:Int)(w:World)(Y:eZ a)(hb:eZ b):CR 275 [hZ op,hZ a,hZ b] w (λv w'=>v=.tuple #[hZ (gz op a b),hZ (gD op b)]/\Ext w w'):=by
 have u:=St.start w;refine ab6 _ _ _ _ _ ?_;unfold S275;refine aH (aC (λgI=>?_) λgI=>?_)
 .refine uI ?_
  first|(unfold gz gD;rw[ew (show op<5\/15<op by omega)];exact⟨rfl,u.aG⟩)|(subst_vars;first|exact⟨rfl,u.aG⟩|(unfold gz gD lP;simp_all<;>exact u.aG))
 refine aH (aC (λW=>?_) λW=>aH (aC (λoB=>?_) λoB=>aH (aC (λjE=>aH (aC (λO=>?_) λO=>?_)) λjE=>aH (aC (λj9=>aH (aC (λG=>?_) λG=>?_)) λj9=>aH (aC (λvR=>?_) λvR=>?_)))))
 .refine AE ?_
  first|(unfold gz gD;rw[ew (show op<5\/15<op by omega)];exact⟨rfl,u.aG⟩)|(subst_vars;first|exact⟨rfl,u.aG⟩|(unfold gz gD lP;simp_all<;>exact u.aG))
 .refine wV ?_
  first|(unfold gz gD;rw[ew (show op<5\/15<op by omega)];exact⟨rfl,u.aG⟩)|(subst_vars;first|exact⟨rfl,u.aG⟩|(unfold gz gD lP;simp_all<;>exact u.aG))
 .first|(unfold gz gD;rw[ew (show op<5\/15<op by omega)];exact⟨rfl,u.aG⟩)|(subst_vars;first|exact⟨rfl,u.aG⟩|(unfold gz gD lP;simp_all<;>exact u.aG))
 .refine aV afO u (C306 _ _ _ O) (λ_ B u=>?_)
  first|(unfold gz gD;rw[ew (show op<5\/15<op by omega)];exact⟨rfl,u.aG⟩)|(subst_vars;first|exact⟨rfl,u.aG⟩|(unfold gz gD lP;simp_all<;>exact u.aG))
 .first|(unfold gz gD;rw[ew (show op<5\/15<op by omega)];exact⟨rfl,u.aG⟩)|(subst_vars;first|exact⟨rfl,u.aG⟩|(unfold gz gD lP;simp_all<;>exact u.aG))
 .refine aV afO u (C306 _ _ _ G) (λ_ B u=>wV (AE ?_));rw[acy Y hb G]
  first|(unfold gz gD;rw[ew (show op<5\/15<op by omega)];exact⟨rfl,u.aG⟩)|(subst_vars;first|exact⟨rfl,u.aG⟩|(unfold gz gD lP;simp_all<;>exact u.aG))
 .refine aH (aV Aj u (C305 _ _) λ_ B u=>?_)
  first|(unfold gz gD;rw[ew (show op<5\/15<op by omega)];exact⟨rfl,u.aG⟩)|(subst_vars;first|exact⟨rfl,u.aG⟩|(unfold gz gD lP;simp_all<;>exact u.aG))
 refine aH (aC (λV=>?_) λV=>aH (aC (λRR=>?_) λRR=>aH (aC (λJ=>?_) λJ=>aH (aC (λwW=>⟨_,bV (aC (λM=>?_) λM=>?_),λ_ _ _ h=>h⟩) λwW=>aH (aC (λI=>⟨_,bV (aC (λE=>?_) λE=>?_),λ_ _ _ h=>h⟩) λI=>?_)))))
 .refine bV (aV Aj u (C305 _ _) λ_ B u=>?_)
  first|(unfold gz gD;rw[ew (show op<5\/15<op by omega)];exact⟨rfl,u.aG⟩)|(subst_vars;first|exact⟨rfl,u.aG⟩|(unfold gz gD lP;simp_all<;>exact u.aG))
 .refine aR (aV Aj u (C305 _ _) λ_ B u=>?_)
  first|(unfold gz gD;rw[ew (show op<5\/15<op by omega)];exact⟨rfl,u.aG⟩)|(subst_vars;first|exact⟨rfl,u.aG⟩|(unfold gz gD lP;simp_all<;>exact u.aG))
 .refine iE (aV Aj u (C305 _ _) λ_ B u=>?_)
  first|(unfold gz gD;rw[ew (show op<5\/15<op by omega)];exact⟨rfl,u.aG⟩)|(subst_vars;first|exact⟨rfl,u.aG⟩|(unfold gz gD lP;simp_all<;>exact u.aG))
 .refine bV (aV Aj u (C305 _ _) λ_ B u=>?_);intro Z
  first|(unfold gz gD;rw[ew (show op<5\/15<op by omega)];exact⟨rfl,u.aG⟩)|(subst_vars;first|exact⟨rfl,u.aG⟩|(unfold gz gD lP;simp_all<;>exact u.aG))
 .refine aV Aj u (C305 _ _) (λ_ B u=>?_);intro Z
  first|(unfold gz gD;rw[ew (show op<5\/15<op by omega)];exact⟨rfl,u.aG⟩)|(subst_vars;first|exact⟨rfl,u.aG⟩|(unfold gz gD lP;simp_all<;>exact u.aG))
 .refine aV Aj u (C305 _ _) (λ_ B u=>?_);intro U
  first|(unfold gz gD;rw[ew (show op<5\/15<op by omega)];exact⟨rfl,u.aG⟩)|(subst_vars;first|exact⟨rfl,u.aG⟩|(unfold gz gD lP;simp_all<;>exact u.aG))
 .refine bV (aV Aj u (C305 _ _) λ_ B u=>?_);intro U
  first|(unfold gz gD;rw[ew (show op<5\/15<op by omega)];exact⟨rfl,u.aG⟩)|(subst_vars;first|exact⟨rfl,u.aG⟩|(unfold gz gD lP;simp_all<;>exact u.aG))
 first|(unfold gz gD;rw[ew (show op<5\/15<op by omega)];exact⟨rfl,u.aG⟩)|(subst_vars;first|exact⟨rfl,u.aG⟩|(unfold gz gD lP;simp_all<;>exact u.aG))
def sj:anS hH 348 16 288:=⟨by kernel_rfl,by kernel_rfl⟩
def anX(b1 b2 b3 b4 u b6:Nat)(w:World):Prop:=
 Cell w b1 0 (.func (.func 329) #[] #[])/\Cell w b2 0 (.func (.func 330) #[] #[])/\Cell w b3 0 (.func (.func 331) #[] #[])/\Cell w b4 0 (.func (.func 332) #[] #[])/\Cell w u 0 (.func (.func 333) #[] #[])/\Cell w b6 0 (.func (.func 334) #[] #[])
def opsV(b1 b2 b3 b4 u b6:Nat):Value:=
 .agg [.nilFunc,.nilFunc,.nilFunc,.nilFunc,.nilFunc,.func (.func 324) #[] #[],.func (.func 325) #[] #[],.func (.func 326) #[] #[],.func (.func 327) #[] #[],.func (.func 328) #[] #[],
  .func (.func 323) #[] #[.pointer (some ⟨b1,0,none⟩)],.func (.func 323) #[] #[.pointer (some ⟨b2,0,none⟩)],.func (.func 323) #[] #[.pointer (some ⟨b3,0,none⟩)],.func (.func 323) #[] #[.pointer (some ⟨b4,0,none⟩)],
  .func (.func 323) #[] #[.pointer (some ⟨u,0,none⟩)],.func (.func 323) #[] #[.pointer (some ⟨b6,0,none⟩)]].toArray
def Fb2(f:Value)(g:Int->Int->Bool):Prop:=∃u,f=.func (.func u) #[] #[]/\Plain hH u/\
 ∀a b B,Calls hH u [hZ a,hZ b].toArray B (tV λv E=>v=.bool (g a b)/\Ext B E)
def C324(a b:Int)(w:World):CR 324 [hZ a,hZ b] w (λv w'=>v=hZ (BA (a+b))/\Ext w w'):=by
 have u:=St.start w;refine fg Tryz.func324 ?_;exact uI ⟨rfl,u.aG⟩
def C325(a b:Int)(w:World):CR 325 [hZ a,hZ b] w (λv w'=>v=hZ (BA (a-b))/\Ext w w'):=by
 have u:=St.start w;refine fg Tryz.func325 ?_;exact AE ⟨rfl,u.aG⟩
def C326(a b:Int)(w:World):CR 326 [hZ a,hZ b] w (λv w'=>v=hZ (BA (a*b))/\Ext w w'):=by
 have u:=St.start w;refine fg Tryz.func326 ?_;exact wV ⟨rfl,u.aG⟩
def C327(a b:Int)(w:World)(h:b≠0):CR 327 [hZ a,hZ b] w (λv w'=>v=hZ (Et a b)/\Ext w w'):=by
 have u:=St.start w;refine fg Tryz.func327 ?_;exact Em h ⟨rfl,u.aG⟩
def C328(a b:Int)(w:World)(h:b≠0):CR 328 [hZ a,hZ b] w (λv w'=>v=hZ (a.tmod b)/\Ext w w'):=by
 have u:=St.start w;refine fg Tryz.func328 ?_;exact WL h ⟨rfl,u.aG⟩
def C329(a b:Int)(w:World):CR 329 [hZ a,hZ b] w (λv w'=>v=.bool (decide (a=b))/\Ext w w'):=by
 have u:=St.start w;refine fg Tryz.func329 ?_;exact aH ⟨rfl,u.aG⟩
def C330(a b:Int)(w:World):CR 330 [hZ a,hZ b] w (λv w'=>v=.bool (decide (¬ a=b))/\Ext w w'):=by
 have u:=St.start w;refine fg Tryz.func330 ?_;exact bV ⟨rfl,u.aG⟩
def C331(a b:Int)(w:World):CR 331 [hZ a,hZ b] w (λv w'=>v=.bool (decide (a<b))/\Ext w w'):=by
 have u:=St.start w;refine fg Tryz.func331 ?_;exact aR ⟨rfl,u.aG⟩
def C332(a b:Int)(w:World):CR 332 [hZ a,hZ b] w (λv w'=>v=.bool (decide (a<=b))/\Ext w w'):=by
 have u:=St.start w;refine fg Tryz.func332 ?_;exact iE ⟨rfl,u.aG⟩
def C333(a b:Int)(w:World):CR 333 [hZ a,hZ b] w (λv w'=>v=.bool (decide (¬ a=0)&&decide (¬ b=0))/\Ext w w'):=by
 have u:=St.start w;refine fg Tryz.func333 ?_;refine⟨_,?_,λ_ _ h=>h⟩;refine aV KM u (C303 _ _) (λ_ E u=>aC (λB=>?_) λB=>?_)
 .refine aV KM u (C303 _ _) (λ_ E u=>?_);intro G
  first|(rw[ez B];exact⟨rfl,u.aG⟩)|(rw[fN B];exact⟨rfl,u.aG⟩)
 intro G
 first|(rw[ez B];exact⟨rfl,u.aG⟩)|(rw[fN B];exact⟨rfl,u.aG⟩)
def C334(a b:Int)(w:World):CR 334 [hZ a,hZ b] w (λv w'=>v=.bool (decide (¬ a=0)||decide (¬ b=0))/\Ext w w'):=by
 have u:=St.start w;refine fg Tryz.func334 ?_;refine⟨_,?_,λ_ _ h=>h⟩;refine aV KM u (C303 _ _) (λ_ E u=>aC (λB=>?_) λB=>?_)
 .intro G
  first|(rw[ez B];exact⟨rfl,u.aG⟩)|(rw[fN B];exact⟨rfl,u.aG⟩)
 refine aV KM u (C303 _ _) (λ_ E u=>?_);intro G
 first|(rw[ez B];exact⟨rfl,u.aG⟩)|(rw[fN B];exact⟨rfl,u.aG⟩)
def C322(g:Nat)(w:World):CR 322 [.func (.func g) #[] #[]] w (λv w'=>∃b,v=.func (.func 323) #[] #[.pointer (some ⟨b,0,none⟩)]/\lh (bY b [.func (.func g) #[] #[]]) w w'):=by
 have u:=St.start w;refine fg Tryz.func322 ?_;exact nx u rfl (λB _ u=>⟨B,rfl,u.fresh⟩)
def C323(a b:Int)(b2:Nat)(fv:Value)(g:Int->Int->Bool)(w:World)(hc:Cell w b2 0 fv)(I:Fb2 fv g):CR 323 [hZ a,hZ b,.pointer (some ⟨b2,0,none⟩)] w (λv w'=>v=hZ (I3 (g a b))/\Ext w w'):=by
 obtain⟨J,rfl,E,G⟩:=I;have u:=St.start w;refine fg Tryz.func323 ?_;refine bO anP (hc.ext u.aG) (gV (first:=[]) (cap:=[]) E (G a b _) ?_);rintro _ _ ⟨rfl,B⟩;have u:=u.ext B;exact aV Wg u (C302 _ _) (λ_ _ u=>⟨rfl,u.aG⟩)
def C304(w:World):CR 304 [] w (λv w'=>∃b1 b2 b3 b4 O b6,v=opsV b1 b2 b3 b4 O b6/\lh (eD (anX b1 b2 b3 b4 O b6)) w w'):=by
 have u:=St.start w;refine ab9 _ _ ?_;unfold S304;refine aM u RL (λU _ u=>aM u RL λV _ u=>oY sj cK cK (aT u wT (dL rfl) (rfl) λ_ u=>oY sj cK cK (aT u wT (dL rfl) (rfl) λ_ u=>oY sj cK cK (aT u wT (dL rfl) (rfl) λ_ u=>oY sj cK cK (aT u wT (dL rfl) (rfl) λ_ u=>oY sj cK cK (aT u wT (dL rfl) (rfl) λ_ u=>gV (first:=[]) (cap:=[]) GU (C322 329 _) ?_))))));rintro _ _ ⟨J,rfl,B⟩;have u:=u.made B;refine oY sj cK cK (aT u.p1 wT (dL rfl) (rfl) λ_ u=>gV (first:=[]) (cap:=[]) GU (C322 330 _) ?_)
 rintro _ _ ⟨M,rfl,B⟩;have u:=u.made B;refine oY sj cK cK (aT u.p1 wT (dL rfl) (rfl) λ_ u=>gV (first:=[]) (cap:=[]) GU (C322 331 _) ?_);rintro _ _ ⟨E,rfl,B⟩;have u:=u.made B;refine oY sj cK cK (aT u.p1 wT (dL rfl) (rfl) λ_ u=>gV (first:=[]) (cap:=[]) GU (C322 332 _) ?_);rintro _ _ ⟨I,rfl,B⟩;have u:=u.made B;refine oY sj cK cK (aT u.p1 wT (dL rfl) (rfl) λ_ u=>gV (first:=[]) (cap:=[]) GU (C322 333 _) ?_);rintro _ _ ⟨G,rfl,B⟩;have u:=u.made B;refine oY sj cK cK (aT u.p1 wT (dL rfl) (rfl) λ_ u=>gV (first:=[]) (cap:=[]) GU (C322 334 _) ?_)
 rintro _ _ ⟨W,rfl,B⟩;have u:=u.made B;refine oY sj cK cK (aT u.p1 wT (dL rfl) (rfl) λ_ u=>KQ Ww u.hb rfl (Eb u.p7 Ww rfl ee (by simp[wG,jj]) λ_ u=>KQ Ww u.hb rfl ?_));have u:=u.drop.drop.p1.p2.p3.p4.p5.rN.p1.rN.p2.rN.p3;have u:=u.rN.p4.rN.p5.rN.gR.gR.gR.gR.gR;refine⟨J,M,E,I,G,W,rfl,(u.dN (Ψ:=anX J M E I G W) λw h=>?_).fresh⟩;obtain⟨⟨⟨⟨⟨h6,h5⟩,h4⟩,h3⟩,h2⟩,h1⟩:=h;exact⟨h1.cell rfl,h2.cell rfl,h3.cell rfl,h4.cell rfl,h5.cell rfl,h6.cell rfl⟩
def fb1:Fb2 (.func (.func 329) #[] #[]) (λa b=>decide (a=b)):=⟨329,rfl,anE,λa b u=>C329 a b u⟩
def fb2:Fb2 (.func (.func 330) #[] #[]) (λa b=>decide (¬ a=b)):=⟨330,rfl,anF,λa b u=>C330 a b u⟩
def fb3:Fb2 (.func (.func 331) #[] #[]) (λa b=>decide (a<b)):=⟨331,rfl,anG,λa b u=>C331 a b u⟩
def fb4:Fb2 (.func (.func 332) #[] #[]) (λa b=>decide (a<=b)):=⟨332,rfl,anH,λa b u=>C332 a b u⟩
def fb5:Fb2 (.func (.func 333) #[] #[]) (λa b=>decide (¬ a=0)&&decide (¬ b=0)):=⟨333,rfl,anI,λa b u=>C333 a b u⟩
def fb6:Fb2 (.func (.func 334) #[] #[]) (λa b=>decide (¬ a=0)||decide (¬ b=0)):=⟨334,rfl,anJ,λa b u=>C334 a b u⟩
def C271(op a b:Int)(w:World):CR 271 [hZ op,hZ a,hZ b] w (λv w'=>v=.tuple #[hZ (gz op a b),hZ (gD op b)]/\Ext w w'):=by
 have u:=St.start w;refine ab5 _ _ _ _ _ ?_;unfold S271;refine⟨_,?_,λ_ _ h=>h⟩;refine aR (aC (λgI=>?_) λgI=>?_)
 .intro Z;refine iz ?_
  first|exact⟨rfl,u.aG⟩|(subst_vars;exact⟨rfl,u.aG⟩)|(refine⟨?_,u.aG⟩;unfold gz gD lP;first|(rw[ew (show op<5\/15<op by omega)];rfl)|simp[*])
 refine cR ?_;intro Z;refine aC (λjF=>?_) (λjF=>?_)
 .first|exact⟨rfl,u.aG⟩|(subst_vars;exact⟨rfl,u.aG⟩)|(refine⟨?_,u.aG⟩;unfold gz gD lP;first|(rw[ew (show op<5\/15<op by omega)];rfl)|simp[*])
 refine dO ant (C304 _) ?_;rintro _ _ ⟨b1,b2,b3,b4,Y,b6,rfl,cL⟩;have u:=u.made cL;obtain rfl|rfl|rfl|rfl|rfl|rfl|rfl|rfl|rfl|rfl|rfl|rfl|rfl|rfl|rfl|rfl:op=0\/op=1\/op=2\/op=3\/op=4\/op=5\/op=6\/op=7\/op=8\/op=9\/op=10\/op=11\/op=12\/op=13\/op=14\/op=15:=cK
 .refine pop (v:=.nilFunc) (by kernel_rfl) (pop (v:=.bool true) (by kernel_rfl) (iz ?_))
  first|exact⟨rfl,u.aG⟩|(subst_vars;exact⟨rfl,u.aG⟩)|(refine⟨?_,u.aG⟩;unfold gz gD lP;first|(rw[ew (show op<5\/15<op by omega)];rfl)|simp[*])
 .refine pop (v:=.nilFunc) (by kernel_rfl) (pop (v:=.bool true) (by kernel_rfl) (iz ?_))
  first|exact⟨rfl,u.aG⟩|(subst_vars;exact⟨rfl,u.aG⟩)|(refine⟨?_,u.aG⟩;unfold gz gD lP;first|(rw[ew (show op<5\/15<op by omega)];rfl)|simp[*])
 .refine pop (v:=.nilFunc) (by kernel_rfl) (pop (v:=.bool true) (by kernel_rfl) (iz ?_))
  first|exact⟨rfl,u.aG⟩|(subst_vars;exact⟨rfl,u.aG⟩)|(refine⟨?_,u.aG⟩;unfold gz gD lP;first|(rw[ew (show op<5\/15<op by omega)];rfl)|simp[*])
 .refine pop (v:=.nilFunc) (by kernel_rfl) (pop (v:=.bool true) (by kernel_rfl) (iz ?_))
  first|exact⟨rfl,u.aG⟩|(subst_vars;exact⟨rfl,u.aG⟩)|(refine⟨?_,u.aG⟩;unfold gz gD lP;first|(rw[ew (show op<5\/15<op by omega)];rfl)|simp[*])
 .refine pop (v:=.nilFunc) (by kernel_rfl) (pop (v:=.bool true) (by kernel_rfl) (iz ?_))
  first|exact⟨rfl,u.aG⟩|(subst_vars;exact⟨rfl,u.aG⟩)|(refine⟨?_,u.aG⟩;unfold gz gD lP;first|(rw[ew (show op<5\/15<op by omega)];rfl)|simp[*])
 .refine pop (v:=.func (.func 324) #[] #[]) (by kernel_rfl) (pop (v:=.bool false) (by kernel_rfl) (ft ?_));refine⟨_,?_,λ_ _ h=>h⟩;refine aH (fx ee (aH (fx ee ?_)));intro E;refine ft (gV (first:=[]) (cap:=[]) anz (C324 a b _) ?_);rintro _ G ⟨rfl,B⟩;have u:=u.ext B
  first|exact⟨rfl,u.aG⟩|(subst_vars;exact⟨rfl,u.aG⟩)|(refine⟨?_,u.aG⟩;unfold gz gD lP;first|(rw[ew (show op<5\/15<op by omega)];rfl)|simp[*])
 .refine pop (v:=.func (.func 325) #[] #[]) (by kernel_rfl) (pop (v:=.bool false) (by kernel_rfl) (ft ?_));refine⟨_,?_,λ_ _ h=>h⟩;refine aH (fx ee (aH (fx ee ?_)));intro E;refine ft (gV (first:=[]) (cap:=[]) anA (C325 a b _) ?_);rintro _ G ⟨rfl,B⟩;have u:=u.ext B
  first|exact⟨rfl,u.aG⟩|(subst_vars;exact⟨rfl,u.aG⟩)|(refine⟨?_,u.aG⟩;unfold gz gD lP;first|(rw[ew (show op<5\/15<op by omega)];rfl)|simp[*])
 .refine pop (v:=.func (.func 326) #[] #[]) (by kernel_rfl) (pop (v:=.bool false) (by kernel_rfl) (ft ?_));refine⟨_,?_,λ_ _ h=>h⟩;refine aH (fx ee (aH (fx ee ?_)));intro E;refine ft (gV (first:=[]) (cap:=[]) anB (C326 a b _) ?_);rintro _ G ⟨rfl,B⟩;have u:=u.ext B
  first|exact⟨rfl,u.aG⟩|(subst_vars;exact⟨rfl,u.aG⟩)|(refine⟨?_,u.aG⟩;unfold gz gD lP;first|(rw[ew (show op<5\/15<op by omega)];rfl)|simp[*])
 .refine pop (v:=.func (.func 327) #[] #[]) (by kernel_rfl) (pop (v:=.bool false) (by kernel_rfl) (ft ?_));refine⟨_,?_,λ_ _ h=>h⟩;refine aH (j8 ee (aH ?_));intro E;refine aC (λW=>?_) (λW=>?_)
  .first|exact⟨rfl,u.aG⟩|(subst_vars;exact⟨rfl,u.aG⟩)|(refine⟨?_,u.aG⟩;unfold gz gD lP;first|(rw[ew (show op<5\/15<op by omega)];rfl)|simp[*])
  refine gV (first:=[]) (cap:=[]) anC (C327 a b _ W) ?_;rintro _ G ⟨rfl,B⟩;have u:=u.ext B
  first|exact⟨rfl,u.aG⟩|(subst_vars;exact⟨rfl,u.aG⟩)|(refine⟨?_,u.aG⟩;unfold gz gD lP;first|(rw[ew (show op<5\/15<op by omega)];rfl)|simp[*])
 .refine pop (v:=.func (.func 328) #[] #[]) (by kernel_rfl) (pop (v:=.bool false) (by kernel_rfl) (ft ?_));refine⟨_,?_,λ_ _ h=>h⟩;refine aH (fx ee (aH (j8 ee (aH ?_))));intro E;refine aC (λW=>?_) (λW=>?_)
  .first|exact⟨rfl,u.aG⟩|(subst_vars;exact⟨rfl,u.aG⟩)|(refine⟨?_,u.aG⟩;unfold gz gD lP;first|(rw[ew (show op<5\/15<op by omega)];rfl)|simp[*])
  refine gV (first:=[]) (cap:=[]) anD (C328 a b _ W) ?_;rintro _ G ⟨rfl,B⟩;have u:=u.ext B
  first|exact⟨rfl,u.aG⟩|(subst_vars;exact⟨rfl,u.aG⟩)|(refine⟨?_,u.aG⟩;unfold gz gD lP;first|(rw[ew (show op<5\/15<op by omega)];rfl)|simp[*])
 .refine pop (v:=.func (.func 323) #[] #[.pointer (some ⟨b1,0,none⟩)]) (by kernel_rfl) (pop (v:=.bool false) (by kernel_rfl) (ft ?_));refine⟨_,?_,λ_ _ h=>h⟩;refine aH (fx ee (aH (fx ee ?_)));intro E;refine ft ?_;obtain⟨U,I,O,J,M,V⟩:=u.eD;refine gV (first:=[]) (cap:=[.pointer (some ⟨b1,0,none⟩)]) GV (C323 a b b1 _ _ _ U fb1) ?_;rintro _ G ⟨rfl,B⟩;have u:=u.ext B
  first|exact⟨rfl,u.aG⟩|(subst_vars;exact⟨rfl,u.aG⟩)|(refine⟨?_,u.aG⟩;unfold gz gD lP;first|(rw[ew (show op<5\/15<op by omega)];rfl)|simp[*])
 .refine pop (v:=.func (.func 323) #[] #[.pointer (some ⟨b2,0,none⟩)]) (by kernel_rfl) (pop (v:=.bool false) (by kernel_rfl) (ft ?_));refine⟨_,?_,λ_ _ h=>h⟩;refine aH (fx ee (aH (fx ee ?_)));intro E;refine ft ?_;obtain⟨U,I,O,J,M,V⟩:=u.eD;refine gV (first:=[]) (cap:=[.pointer (some ⟨b2,0,none⟩)]) GV (C323 a b b2 _ _ _ I fb2) ?_;rintro _ G ⟨rfl,B⟩;have u:=u.ext B
  first|exact⟨rfl,u.aG⟩|(subst_vars;exact⟨rfl,u.aG⟩)|(refine⟨?_,u.aG⟩;unfold gz gD lP;first|(rw[ew (show op<5\/15<op by omega)];rfl)|simp[*])
 .refine pop (v:=.func (.func 323) #[] #[.pointer (some ⟨b3,0,none⟩)]) (by kernel_rfl) (pop (v:=.bool false) (by kernel_rfl) (ft ?_));refine⟨_,?_,λ_ _ h=>h⟩;refine aH (fx ee (aH (fx ee ?_)));intro E;refine ft ?_;obtain⟨U,I,O,J,M,V⟩:=u.eD;refine gV (first:=[]) (cap:=[.pointer (some ⟨b3,0,none⟩)]) GV (C323 a b b3 _ _ _ O fb3) ?_;rintro _ G ⟨rfl,B⟩;have u:=u.ext B
  first|exact⟨rfl,u.aG⟩|(subst_vars;exact⟨rfl,u.aG⟩)|(refine⟨?_,u.aG⟩;unfold gz gD lP;first|(rw[ew (show op<5\/15<op by omega)];rfl)|simp[*])
 .refine pop (v:=.func (.func 323) #[] #[.pointer (some ⟨b4,0,none⟩)]) (by kernel_rfl) (pop (v:=.bool false) (by kernel_rfl) (ft ?_));refine⟨_,?_,λ_ _ h=>h⟩;refine aH (fx ee (aH (fx ee ?_)));intro E;refine ft ?_;obtain⟨U,I,O,J,M,V⟩:=u.eD;refine gV (first:=[]) (cap:=[.pointer (some ⟨b4,0,none⟩)]) GV (C323 a b b4 _ _ _ J fb4) ?_;rintro _ G ⟨rfl,B⟩;have u:=u.ext B
  first|exact⟨rfl,u.aG⟩|(subst_vars;exact⟨rfl,u.aG⟩)|(refine⟨?_,u.aG⟩;unfold gz gD lP;first|(rw[ew (show op<5\/15<op by omega)];rfl)|simp[*])
 .refine pop (v:=.func (.func 323) #[] #[.pointer (some ⟨Y,0,none⟩)]) (by kernel_rfl) (pop (v:=.bool false) (by kernel_rfl) (ft ?_));refine⟨_,?_,λ_ _ h=>h⟩;refine aH (fx ee (aH (fx ee ?_)));intro E;refine ft ?_;obtain⟨U,I,O,J,M,V⟩:=u.eD;refine gV (first:=[]) (cap:=[.pointer (some ⟨Y,0,none⟩)]) GV (C323 a b Y _ _ _ M fb5) ?_;rintro _ G ⟨rfl,B⟩;have u:=u.ext B
  first|exact⟨rfl,u.aG⟩|(subst_vars;exact⟨rfl,u.aG⟩)|(refine⟨?_,u.aG⟩;unfold gz gD lP;first|(rw[ew (show op<5\/15<op by omega)];rfl)|simp[*])
 refine pop (v:=.func (.func 323) #[] #[.pointer (some ⟨b6,0,none⟩)]) (by kernel_rfl) (pop (v:=.bool false) (by kernel_rfl) (ft ?_));refine⟨_,?_,λ_ _ h=>h⟩;refine aH (fx ee (aH (fx ee ?_)));intro E;refine ft ?_;obtain⟨U,I,O,J,M,V⟩:=u.eD;refine gV (first:=[]) (cap:=[.pointer (some ⟨b6,0,none⟩)]) GV (C323 a b b6 _ _ _ V fb6) ?_;rintro _ G ⟨rfl,B⟩;have u:=u.ext B
 first|exact⟨rfl,u.aG⟩|(subst_vars;exact⟨rfl,u.aG⟩)|(refine⟨?_,u.aG⟩;unfold gz gD lP;first|(rw[ew (show op<5\/15<op by omega)];rfl)|simp[*])
theorem gJ{α:Type}{l:List α}{k:Nat}{e:α}(h:l[k]?=some e):l.take k++[e]=l.take (k+1):=by rw[ta,h];rfl
def dZ{α:Type}{φ:α->Prop}{l:List α}{k:Nat}{e:α}(h:∀y∈l.take k,φ y)(B:l[k]?=some e)(E:φ e):∀y∈l.take (k+1),φ y:=by
 intro y u
 rw[<- gJ B]at u
 grind
theorem ic{α:Type}{g:α->Bool}{l:List α}{k:Nat}{e:α}(u:l[k]?=some e)(B:g e=true):l.any g=true:=List.any_eq_true.2 ⟨e,kE u,B⟩
theorem iD{α:Type}{g:α->Bool}{l:List α}(h:∀y∈l,g y=false):l.any g=false:=by
 grind
def sm{α:Type}(g:α->Bool)(l:List α):Int:=match l.findIdx? g with|some k=>k|none=>-1
def me{α:Type}{g:α->Bool}{l:List α}{k:Nat}{e:α}(E:∀y∈l.take k,g y=false)(u:l[k]?=some e)(I:g e=true):sm g l=k:=by
 have:l.findIdx? g=some k:=by
  rw[List.findIdx?_eq_some_iff_getElem]
  have B:=(kp.1 u).1
  refine⟨B,dD,λj G=>?_⟩
  have:=E (l[j]'(cK)) (List.mem_take_iff_getElem.2 ⟨j,cK,rfl⟩)
  simp[this]
 unfold sm;rw[this]
def jh{α:Type}{g:α->Bool}{l:List α}(u:∀y∈l,g y=false):sm g l = -1:=by
 grind[sm]
def kU{α:Type}(g:α->Bool)(l:List α):decide (0<=sm g l)=l.any g:=by
 grind[sm]
def wk{α:Type}[Flat α](w:World)(f:Value)(g:α->Bool):Prop:=∃u first cap,f=.func (.func u) (O8 first) (O8 cap)/\Plain hH u/\
 ∀x B,Ext w B->Calls hH u (first++[ia x]++cap).toArray B (tV λv E=>v=.bool (g x)/\Ext B E)
theorem wk.ext{α:Type}[Flat α]{w w':World}{f:Value}{g:α->Bool}(h:wk w f g)(e:Ext w w'):wk w' f g:=by
 obtain⟨u,first,cap,h1,h2,h3⟩:=h;exact⟨u,first,cap,h1,h2,λx E B=>h3 x E (e.trans B)⟩
def eE(k:Int):Int:=if k=3\/k=4 then 1 else if 5<=k/\k<=15 then 2 else 0
def Vt(st:Option (Int×Int))(x:oA):Option (Int×Int):=match st with
 | none=>none
 | some (n,h)=>if n-eE x.kind<0 then none else some (n-eE x.kind+1,max h (n-eE x.kind+1))
def ht(l:List oA):Option (Int×Int):=l.foldl Vt (some (0,0))
def htN(l:List oA):Int:=match ht l with|some p=>p.1|none=>0
def htH(l:List oA):Int:=match ht l with|some p=>p.2|none=>0
theorem AJ{l:List oA}{k:Nat}{x:oA}(h:l[k]?=some x):ht (l.take (k+1))=Vt (ht (l.take k)) x:=by
 unfold ht;rw[<- gJ h,D8];rfl
def RT{l:List oA}{k:Nat}(h:ht (l.take k)=none):ht l=none:=by
 have u:∀m:List oA,m.foldl Vt none=none:=λm=>by induction m with|nil=>rfl|cons y m B=>exact B
 have e:l=l.take k++l.drop k:=(qB k l).symm
 grind[ht]
def RU(k:Int):0<=eE k/\eE k<=2:=by
 grind[eE]
theorem ahX{l:List oA}:∀k n h,k<=l.length->ht (l.take k)=some (n,h)->0<=n/\n<=(k:Int)/\0<=h/\h<=(k:Int)
 | 0,n,h,_,e=>by
  have:ht ([]:List oA)=some (0,0):=rfl
  grind
 | k+1,n,h,B,e=>by
  obtain⟨x,u⟩:=gx l (i:=k) cK
  rw[AJ u]at e
  cases hp:ht (l.take k)with
  | none=>rw[hp]at e;cases e
  | some p=>
   obtain⟨a,b⟩:=p
   have E:=ahX k a b cK hp
   have G:=RU x.kind
   rw[hp]at e
   unfold Vt at e
   grind
def acz{l:List oA}{k:Nat}{x:oA}{n h m:Int}(u:l[k]?=some x)(B:ht (l.take k)=some (n,h))(E:m=n-eE x.kind)(G:¬ m<0):ht (l.take (k+1))=some (m+1,max h (m+1)):=by
 rw[AJ u,B];grind[Vt]
def ahY{l:List oA}{k:Nat}{x:oA}{n h m:Int}(u:l[k]?=some x)(B:ht (l.take k)=some (n,h))(E:m=n-eE x.kind)(G:m<0):ht (l.take (k+1))=none:=by
 rw[AJ u,B];grind[Vt]
def q8(many:Int)(x:oA):Bool:=decide ((x.kind=1/\(x.n<0\/4294967296<x.n))\/(x.kind=2/\(x.n<0\/many<=x.n))\/(¬ x.kind=1/\¬ x.kind=2/\(¬ x.n=0\/x.kind<1\/16<=x.kind)))
def mB(l:List oA)(many:Int):Bool:=decide (l.length<=40)&&(ht l).isSome&&decide (htN l=1)&&!l.any (q8 many)
def C267(k:Int)(w:World):CR 267 [hZ k] w (λv w'=>v=hZ (eE k)/\Ext w w'):=by
 have B:=St.start w;refine fg Tryz.func267 ?_;refine⟨λG w'=>G=.bool (decide (k=3\/k=4))/\w=w',aH (aC (λ_=>⟨N7 cK,rfl⟩) λ_=>aH ⟨yF cK,rfl⟩),?_⟩;rintro _ _ ⟨rfl,I⟩ _;subst I;refine aC (λu=>?_) (λu=>⟨λG w'=>G=.bool (decide (5<=k/\k<=15))/\w=w',cR (aC (λ_=>iE ⟨yF cK,rfl⟩) λ_=>⟨jvF cK,rfl⟩),?_⟩)
 .unfold eE
  first|(rw[ew u];exact⟨rfl,B.aG⟩)|(rw[ej u,ew E];exact⟨rfl,B.aG⟩)|(rw[ej u,ej E];exact⟨rfl,B.aG⟩)
 rintro _ _ ⟨rfl,I⟩ _;subst I;refine aC (λE=>?_) (λE=>?_)
 .unfold eE
  first|(rw[ew u];exact⟨rfl,B.aG⟩)|(rw[ej u,ew E];exact⟨rfl,B.aG⟩)|(rw[ej u,ej E];exact⟨rfl,B.aG⟩)
 unfold eE
 first|(rw[ew u];exact⟨rfl,B.aG⟩)|(rw[ej u,ew E];exact⟨rfl,B.aG⟩)|(rw[ej u,ej E];exact⟨rfl,B.aG⟩)
def C299(sv:Value)(xs:List oA)(w:World)(J:dC (λ_=>True) w sv xs)(hn:xs.length<=1048576):CR 299 [sv] w (λv w'=>v=.tuple #[hZ (htN xs),hZ (htH xs),.bool (ht xs).isSome]/\Ext w w'):=by
 have u:=St.start w;refine fg Tryz.func299 ?_;refine aK tD (J.ext u.aG) ?_;refine⟨λm y z x I=>∃(k:Nat) (n h:Int),y=hZ n/\z=hZ h/\x=hZ (k:Int)/\m=xs.length-k/\k<=xs.length/\ht (xs.take k)=some (n,h)/\St w aZ [] I,⟨_,0,0,0,rfl,rfl,rfl,rfl,cK,rfl,u⟩,?_⟩;rintro m _ _ _ I ⟨k,n,h,rfl,rfl,rfl,rfl,hk,B,u⟩ _;refine aR (aC (λU=>?_) λU=>?_)
 .obtain⟨M,E⟩:=gx xs (i:=(k:Int).toNat) cK;refine aQ tD (J.ext u.aG) cK E (λ_ O=>aD Ee O (aM u IW λTR _ u=>aI (x:=M) u Ee rfl rfl λ_ u=>aA nD (aB bM u.hb rfl (aV Wc u (C267 _ _) λ_ Z u=>?_))));have Y:=RU M.kind;have V:=ahX k n h cK B;refine fh cK (aR (aC (λG=>?_) λG=>aN cK (Dr (aN cK ⟨_,cK,k+1,_,_,rfl,rfl,rfl,rfl,cK,by rw[AJ (k:=k) E,B];unfold Vt;simp only[];rw[ej G],u.drop⟩))));have W:ht xs=none:=RT (k:=k+1) (by rw[AJ (k:=k) E,B];unfold Vt;simp only[];rw[ew G])
  unfold htN htH;rw[W];exact⟨rfl,u.aG⟩
 rw[kO cK]at B;unfold htN htH;rw[B];exact⟨rfl,u.aG⟩
def C298(x:oA)(b2:Nat)(many:Int)(w:World)(hc:Cell w b2 0 (hZ many)):CR 298 [ia x,.pointer (some ⟨b2,0,none⟩)] w (λv w'=>v=.bool (q8 many x)/\Ext w w'):=by
 have u:=St.start w;refine fg Tryz.func298 ?_;refine cI u (λW _ u=>aA nD (aB bM u.hb rfl (aH (aC (λI=>⟨_,aA qx (aB bM u.hb rfl (aR (aC (λV=>?_) λV=>?_))),λ_ _ h=>h⟩) λI=>aA nD (aB bM u.hb rfl (aH (aC (λJ=>⟨_,aA qx (aB bM u.hb rfl (aR (aC (λG=>?_) λG=>?_))),λ_ _ h=>h⟩) λJ=>?_)))))))
 .intro M;refine⟨vb ?_,u.aG⟩;unfold q8
  first|exact(ez cK).symm|exact(fN cK).symm|exact ga.2 cK
 .refine aA qx (aB bM u.hb rfl (cO ?_));intro M;refine⟨vb ?_,u.aG⟩;unfold q8
  first|exact(ez cK).symm|exact(fN cK).symm|exact ga.2 cK
 .intro E;refine⟨vb ?_,u.aG⟩;unfold q8
  first|exact(ez cK).symm|exact(fN cK).symm|exact ga.2 cK
 .refine aA qx (aB bM u.hb rfl (bO bM (hc.ext u.aG) (cR ?_)));intro E;refine⟨vb ?_,u.aG⟩;unfold q8
  first|exact(ez cK).symm|exact(fN cK).symm|exact ga.2 cK
 refine⟨_,?_,λ_ _ h=>h⟩;refine aA qx (aB bM u.hb rfl (bV (aC (λU=>?_) λU=>aA nD (aB bM u.hb rfl (aR (aC (λO=>?_) λO=>?_))))))
 .intro B;refine⟨vb ?_,u.aG⟩;unfold q8
  first|exact(ez cK).symm|exact(fN cK).symm|exact ga.2 cK
 .intro B;refine⟨vb ?_,u.aG⟩;unfold q8
  first|exact(ez cK).symm|exact(fN cK).symm|exact ga.2 cK
 refine aA nD (aB bM u.hb rfl (cR ?_));intro B;refine⟨vb ?_,u.aG⟩;unfold q8
 first|exact(ez cK).symm|exact(fN cK).symm|exact ga.2 cK
def C321(sv fv:Value)(xs:List oA)(g:oA->Bool)(w:World)(J:dC (λ_=>True) w sv xs)(V:wk w fv g)(hn:xs.length<=1073741824):CR 321 [sv,fv] w (λv w'=>v=hZ (sm g xs)/\Ext w w'):=by
 obtain⟨Z,first,cap,rfl,W,U⟩:=V;have u:=St.start w;refine fg Tryz.func321 ?_;refine aK tD (J.ext u.aG) ?_;refine⟨λm x G=>∃k:Nat,x=hZ (k:Int)/\m=xs.length-k/\k<=xs.length/\(∀y∈xs.take k,g y=false)/\St w aZ [] G,⟨_,0,rfl,rfl,l1 _,ei,u⟩,?_⟩;rintro m _ G ⟨k,rfl,rfl,hk,B,u⟩ _;refine aR (aC (λjJ=>?_) λ_=>⟨gO (ni .i64) (jh (by rw[kO cK]at B;exact B)).symm,u.aG⟩);obtain⟨Y,I⟩:=gx xs (i:=(k:Int).toNat) cK;refine aQ tD (J.ext u.aG) cK I (λ_ M=>aD Ee M (gV W (U Y G u.aG) ?_))
 rintro _ _ ⟨rfl,O⟩;have u:=u.ext O;exact aY (λE=>⟨gO (ni .i64) (me B I E).symm,u.aG⟩) (λE=>aN cK ⟨xs.length-(k+1),cK,k+1,rfl,rfl,cK,dZ B I E,u⟩)
def C300(sv fv:Value)(xs:List oA)(g:oA->Bool)(w:World)(E:dC (λ_=>True) w sv xs)(B:wk w fv g)(G:xs.length<=1073741824):CR 300 [sv,fv] w (λv w'=>v=.bool (xs.any g)/\Ext w w'):=by
 have u:=St.start w;refine fg Tryz.func300 ?_;exact aV anx u (C321 _ _ _ _ _ (E.ext u.aG) (B.ext u.aG) cK) (λ_ _ u=>cR ⟨vb (kU _ _),u.aG⟩)
def C266(sv:Value)(xs:List oA)(many:Int)(w:World)(E:dC (λ_=>True) w sv xs)(Y:xs.length<=1048576):CR 266 [sv,hZ many] w (λv w'=>v=.bool (mB xs many)/\Ext w w'):=by
 have u:=St.start w;refine fg Tryz.func266 ?_;refine nx u rfl (λJ I u=>aV anq u (C299 _ _ _ (E.ext u.aG) cK) λ_ V u=>aO rfl (aO rfl (aO rfl ?_)));refine⟨_,?_,λ_ _ h=>h⟩;refine aK tD (E.ext u.aG) (iE (aC (λM=>aY (λU=>aH (aC (λO=>?_) λO=>?_)) λU=>?_) λM=>?_))
 .have G:wk _ (.func (.func 298) [].toArray [.pointer (some ⟨J,0,none⟩)].toArray) (q8 many):=
   ⟨298,[],_,rfl,anp,λy I W=>C298 y J many I ((u.hb.cell rfl).ext W)⟩
  refine aV anr u (C300 _ _ _ _ _ (E.ext u.aG) G cK) (λ_ V u=>bR ?_);intro B;refine⟨vb ?_,u.aG⟩;unfold mB
  simp_all<;>omega
 .intro B;refine⟨vb ?_,u.aG⟩;unfold mB
  simp_all<;>omega
 .intro B;refine⟨vb ?_,u.aG⟩;unfold mB
  simp_all<;>omega
 intro B;refine⟨vb ?_,u.aG⟩;unfold mB
 simp_all<;>omega
def o0(b:Nat)(rest:List Value)(l:List Int):HP:=pK λsv=>sep (bY b (sv::rest)) (bH sv l)
def o0.shut{w0 w:World}{A:Nat->Prop}{R:List HP}{b:Nat}{rest:List Value}{sv:Value}{l:List Int}(u:St w0 A (bY b (sv::rest)::bH sv l::R) w):St w0 A (o0 b rest l::R) w:=
 St.ek (H:=λsv=>sep (bY b (sv::rest)) (bH sv l)) sv (St.join u)
def o0.open{w0 w:World}{A:Nat->Prop}{R:List HP}{b:Nat}{rest:List Value}{l:List Int}(u:St w0 A (o0 b rest l::R) w):∃sv,St w0 A (bY b (sv::rest)::bH sv l::R) w:=by
 obtain⟨sv,u⟩:=u.eh;exact⟨sv,u.split⟩
def kc(l:List Int):Int:=l.getD (l.length-1) 0
theorem WT{l:List Int}{e:Int}(h:l[((l.length:Int)-1).toNat]?=some e):e=kc l:=by
 simp_all[kc]
def C301(b:Nat)(n:Int)(rest:List Value)(l:List Int)(F:Nat->Prop)(w:World)(B:(o0 b rest l).p w F)(I:l.length<=1048576):CR 301 [.pointer (some ⟨b,0,none⟩),hZ n] w (λv w'=>v=.tuple #[]/\mR F (o0 b rest (l++[n])) w w'):=by
 have u:=St.begin B;obtain⟨sv,u⟩:=u.eh;have u:=u.split;refine fg Tryz.func301 ?_;refine aE (aA qw (aB eg u.hb rfl (bD ([n]:List Int) u cS rfl rfl (dL rfl) λE _ u=>?_)));have G:=u.dX;exact bJ u.p2 cS G (by simp<;>omega) ee (λ_ _ u=>have u:=u.p1.drop;aE (aA qw (aT u.p1 eg (dL rfl) u.dX.one λ_ u=>have u:=u.p1.p1;⟨rfl,(o0.shut u).mut⟩)))
def C270(b:Nat)(rest:List Value)(l:List Int)(F:Nat->Prop)(w:World)(G:(o0 b rest l).p w F)(M:l.length<=1048576)(J:0<l.length):CR 270 [.pointer (some ⟨b,0,none⟩)] w (λv w'=>v=hZ (kc l)/\mR F (o0 b rest (l.take (l.length-1))) w w'):=by
 have u:=St.begin G;obtain⟨sv,u⟩:=u.eh;have u:=u.split;refine oM Tryz.func270 (pl:=auY) ?_;refine aE (aA qw (have u:=u.drew;aB eg u.hb rfl (aE (aA qw (aB eg u.hb rfl (aK cS u.p1.dX (fh cK ?_)))))));obtain⟨O,E⟩:=gx l (i:=((l.length:Int)-1).toNat) cK;refine dR u.p1 cS cK cK (λ_ I=>gM u.p1 bM I E (aE (aA qw (have u:=u.drew;aB eg u.hb rfl (aE (aA qw (aB eg u.hb rfl (aK cS u.p1.dX (fh cK (have u:=u.p1;sg cS u cK cK λB u=>aE (aA qw ?_)))))))))))
 refine aT u.p1 eg (dL rfl) u.dX.one (λ_ u=>?_);have u:=u.p1.p1;rw[show((l.length:Int)-1).toNat=l.length-1 from cK]at u;rw[WT E];exact⟨rfl,(o0.shut u).mut⟩
def C268(b:Nat)(n hi:Int)(l:List Int)(F:Nat->Prop)(w:World)(B:(o0 b [hZ hi] l).p w F)(G:l.length<=1048576):CR 268 [.pointer (some ⟨b,0,none⟩),hZ n] w (λv w'=>v=.tuple #[]/\∃E,mR F (o0 b [hZ E] (l++[n])) w w'):=by
 have u:=St.begin B;refine oM Tryz.func268 (pl:=auX) ?_;refine aE (aA uH (qh ans u (H':=λ_=>o0 b [hZ hi] (l++[n])) (Φ:=λv _=>v=.tuple #[]) (λF B=>?_) ?_))
 .exact C301 b n _ l F _ B cK
 rintro _ _ rfl u;obtain⟨sv,u⟩:=o0.open u;exact aE (aA Ln (have u:=u.drew;aB bM u.hb rfl (aE (aA uH (aA qw (aB eg u.hb rfl (aK cS u.p1.dX (Dr (aE (aA Ln (aT u bM (dL rfl) (rfl) λ_ u=>have u:=u.p1.p1;⟨rfl,_,(o0.shut u).mut⟩)))))))))))
def lu(ns S:List Int)(x:oA):List Int:=
 if eE x.kind=0 then S++[if x.kind=2 then ns.getD x.n.toNat 0 else x.n]
 else if eE x.kind=1 then S.take (S.length-1)++[yx x.kind (kc S)]
 else S.take (S.length-2)++[gz x.kind (kc (S.take (S.length-1))) (kc S)]
def vq(S:List Int)(x:oA):Int:=if eE x.kind=2 then gD x.kind (kc S)else 0
def wo(ns:List Int):List oA->List Int->Int×Int
 | [],S=>(kc S,0)
 | x::r,S=>if vq S x=0 then wo ns r (lu ns S x)else(0,vq S x)
def runM(l:List oA)(ns:List Int):Int×Int:=if mB l ns.length=true then wo ns l []else(0,8)
def AL(k:Int):eE k=0\/eE k=1\/eE k=2:=by
 grind[eE]
section
variable {xs:List oA}{ns S:List Int}{k:Nat}{x:oA}{n h:Int}
theorem Dt(u:xs[k]?=some x)(h:vq S x=0):wo ns (xs.drop k) S=wo ns (xs.drop (k+1)) (lu ns S x):=by
 obtain⟨B,E⟩:=kp.1 u
 rw[tx B,E,wo,ew h]
theorem WU(u:xs[k]?=some x)(h:¬ vq S x=0):wo ns (xs.drop k) S=(0,vq S x):=by
 obtain⟨B,E⟩:=kp.1 u
 rw[tx B,E,wo,ej h]
theorem yO{many:Int}(h:mB xs many=true):xs.length<=40/\(∃a,ht xs=some (1,a))/\∀x∈xs,q8 many x=false:=by
 unfold mB at h
 rw[ob,ob,ob,decide_eq_true_eq,decide_eq_true_eq]at h
 obtain⟨⟨⟨h1,h2⟩,h3⟩,h4⟩:=h
 refine⟨h1,?_,λx u=>?_⟩
 .unfold htN at h3
  grind
 grind
theorem TS(u:eE x.kind<=(S.length:Int)):((lu ns S x).length:Int)=S.length-eE x.kind+1:=by
 unfold lu
 rcases AL x.kind with h|h|h
 .grind
 .grind
 grind
theorem TT{a:Int}(I:ht xs=some (1,a))(B:ht (xs.take k)=some ((S.length:Int),h))(u:xs[k]?=some x) :
  eE x.kind<=(S.length:Int)/\∃G,ht (xs.take (k+1))=some (((lu ns S x).length:Int),G):=by
 have E:eE x.kind<=(S.length:Int):=by
  rcases Int.lt_or_le ((S.length:Int)-eE x.kind) 0 with h1|h1
  .have:=RT (ahY u B rfl h1);grind
  .omega
 exact⟨E,_,(acz u B rfl cK).trans (by rw[TS E])⟩
theorem ahZ(u:eE x.kind=0)(h2:¬ x.kind=2):lu ns S x=S++[x.n]:=by unfold lu;grind
theorem ah0{e:Int}(B:eE x.kind=0)(h2:x.kind=2)(u:ns[x.n.toNat]?=some e):lu ns S x=S++[e]:=by
 grind[lu]
theorem ah1(u:eE x.kind=1):lu ns S x=S.take (S.length-1)++[yx x.kind (kc S)]:=by unfold lu;rw[ej cK,ew u]
theorem ah2(u:eE x.kind=2):lu ns S x=S.take (S.length-2)++[gz x.kind (kc (S.take (S.length-1))) (kc S)]:=by unfold lu;rw[ej cK,ej cK]
theorem WV(u:¬ eE x.kind=2):vq S x=0:=by unfold vq;omega
theorem af6(u:eE x.kind=2):vq S x=gD x.kind (kc S):=by unfold vq;omega
theorem OU(h:2<=S.length):(S.take (S.length-1)).take ((S.take (S.length-1)).length-1)=S.take (S.length-2):=by
 grind
end
def nj(b:Nat)(l:List Int):HP:=pK fun (hi:Int)=>o0 b [hZ hi] l
def nj.shut{w0 w:World}{A:Nat->Prop}{R:List HP}{b:Nat}{hi:Int}{l:List Int}(u:St w0 A (o0 b [hZ hi] l::R) w):St w0 A (nj b l::R) w:=
 St.ek (H:=fun (hi:Int)=>o0 b [hZ hi] l) hi u
def acA(b:Nat)(n:Int)(l:List Int)(F:Nat->Prop)(w:World)(u:(nj b l).p w F)(G:l.length<=1048576) :
  Calls hH 268 [.pointer (some ⟨b,0,none⟩),hZ n].toArray w (tV λv w'=>v=.tuple #[]/\mR F (nj b (l++[n])) w w'):=by
 obtain⟨hi,u⟩:=u
 refine(C268 b n hi l F w u G).mono λe w' ⟨v,B,E,J,I,h1,h2⟩=>⟨v,B,E,I,⟨J,h1⟩,h2⟩
def acB(b:Nat)(l:List Int)(F:Nat->Prop)(w:World)(u:(nj b l).p w F)(I:l.length<=1048576)(G:0<l.length) :
  Calls hH 270 [.pointer (some ⟨b,0,none⟩)].toArray w (tV λv w'=>v=hZ (kc l)/\mR F (nj b (l.take (l.length-1))) w w'):=by
 obtain⟨hi,u⟩:=u
 refine(C270 b [hZ hi] l F w u I G).mono λe w' ⟨v,B,E,J,h1,h2⟩=>⟨v,B,E,J,⟨hi,h1⟩,h2⟩
def C219(sv nv:Value)(xs:List oA)(ns:List Int)(w:World)(hL:dC (λ_=>True) w sv xs)(hN:dC (λ_=>True) w nv ns)(hn:xs.length<=1048576):CR 219 [sv,nv] w (λv w'=>v=.tuple #[hZ (runM xs ns).1,hZ (runM xs ns).2]/\Ext w w'):=by
 have u:=St.start w;refine abW _ _ _ _ ?_;unfold S219;refine aK cS (hN.ext u.aG) (aV anc u (C266 _ _ _ _ (hL.ext u.aG) hn) λw1 he u=>bR (aY (λZ=>?_) λZ=>?_))
 .unfold runM;rw[ej (by simpa using Z)];exact⟨rfl,u.aG⟩
 refine aM u acq (λE _ u=>?_);have u:=nj.shut (o0.shut (u.eL (α:=Int)).p1);have W:mB xs (ns.length:Int)=true:=by simpa using Z
 obtain⟨h40,⟨a0,wD⟩,avo⟩:=yO W;refine aK tD (hL.ext u.aG) ?_;refine⟨λm x w1=>∃(k:Nat) (S:List Int) (h:Int),x=hZ (k:Int)/\m=xs.length-k/\k<=xs.length/\wo ns xs []=wo ns (xs.drop k) S/\ht (xs.take k)=some ((S.length:Int),h)/\St w aZ [nj E S] w1,⟨_,0,[],0,rfl,rfl,cK,rfl,rfl,u⟩,?_⟩;rintro m _ _ ⟨k,S,h,rfl,rfl,hk,O,V,u⟩ _;refine aR (aC (λm8=>?_) λm8=>?_)
 .refine⟨_,?_,λ_ h=>h⟩;obtain⟨B,J⟩:=gx xs (i:=(k:Int).toNat) cK;refine aQ tD (hL.ext u.aG) cK J (λ_ wY=>aD Ee wY (aM u IW λTR _ u=>aI (x:=B) u Ee rfl rfl λ_ u=>aA nD (aB bM u.hb rfl (aV Wc u (C267 _ _) λ_ he u=>?_))));have Kv:=avo _ (kE J);unfold q8 at Kv;have ho:=g6 Kv;obtain⟨hw0,h2,I⟩:=TT (ns:=ns) (k:=k) wD V J;have hwk:eE B.kind=0->B.kind=1\/B.kind=2\/¬ (B.kind=1\/B.kind=2):=λ_=>cK
  have hSk:=ahX k _ _ cK V;have hw3:=AL B.kind;refine aH (aC (λwZ=>aA qx (aB bM u.hb rfl ⟨_,aA nD (aB bM u.hb rfl (aH (aC (λxc=>?_) λxc=>?_))),λ_ _ h=>h⟩)) λwZ=>aH (aC (λU=>?_) λU=>?_))
  .refine aA qx (aB bM u.hb rfl ?_);obtain⟨WW,OV⟩:=gx ns (i:=B.n.toNat) cK;refine aQ cS (hN.ext u.aG) cK OV (λ_ AM=>aD bM AM ?_);intro vS;refine qh Rv u.p1 (H':=λ_=>nj E (S++[WW])) (Φ:=λv _=>v=.tuple #[]) (λF G=>?_) ?_
   .exact acA E WW S F _ G (by first|omega|(simp only[l0,la,mv];omega))
   rintro _ w8 rfl u;intro Y;refine aN cK ?_;have u:=u.p1.drop;have M:lu ns S B=_:=ah0 wZ xc OV;exact⟨_,cK,k+1,_,_,rfl,rfl,cK,O.trans (Dt (k:=k) J (WV cK)),I,by rw[M];exact u⟩
  .intro vS;refine qh Rv u.p1 (H':=λ_=>nj E (S++[B.n])) (Φ:=λv _=>v=.tuple #[]) (λF G=>?_) ?_
   .exact acA E B.n S F _ G (by first|omega|(simp only[l0,la,mv];omega))
   rintro _ w8 rfl u;intro Y;refine aN cK ?_;have u:=u.p1.drop;have M:lu ns S B=_:=ahZ wZ xc;exact⟨_,cK,k+1,_,_,rfl,rfl,cK,O.trans (Dt (k:=k) J (WV cK)),I,by rw[M];exact u⟩
  .refine aA nD (have u:=u.drew;aB bM u.hb rfl (aA uH (qh Rw u.p1 (H':=λ_=>nj E (S.take (S.length-1))) (Φ:=λv _=>v=hZ (kc S)) (λF G=>?_) ?_)))
   .exact acB E S F _ G (by first|omega|(simp only[l0,la,mv];omega)) (by first|omega|(simp only[l0,la,mv];omega))
   rintro _ _ rfl u;refine⟨aF bM (u.p1.hb.cell rfl),?_⟩;refine aV ane u (C269 _ _ _) (λ_ he u=>aO rfl (aO rfl (qh Rv u (H':=λ_=>nj E ((S.take (S.length-1))++[(yx B.kind (kc S))])) (Φ:=λv _=>v=.tuple #[]) (λF G=>?_) ?_)))
   .exact acA E (yx B.kind (kc S)) (S.take (S.length-1)) F _ G (by first|omega|(simp only[l0,la,mv];omega))
   rintro _ _ rfl u;intro Y;refine aN cK ?_;have u:=u.p1.drop;have M:lu ns S B=_:=ah1 U;exact⟨_,cK,k+1,_,_,rfl,rfl,cK,O.trans (Dt (k:=k) J (WV cK)),I,by rw[M];exact u⟩
  refine aA uH (qh Rw u.p1 (H':=λ_=>nj E (S.take (S.length-1))) (Φ:=λv _=>v=hZ (kc S)) (λF G=>?_) ?_)
  .exact acB E S F _ G (by first|omega|(simp only[l0,la,mv];omega)) (by first|omega|(simp only[l0,la,mv];omega))
  rintro _ _ rfl u;refine aA nD (have u:=u.drew;aB bM u.p1.hb rfl (aA uH (qh Rw u (H':=λ_=>nj E ((S.take (S.length-1)).take ((S.take (S.length-1)).length-1))) (Φ:=λv _=>v=hZ (kc (S.take (S.length-1)))) (λF G=>?_) ?_)))
  .exact acB E (S.take (S.length-1)) F _ G (by first|omega|(simp only[l0,la,mv];omega)) (by first|omega|(simp only[l0,la,mv];omega))
  rintro _ _ rfl u;refine⟨aF bM (u.p1.hb.cell rfl),?_⟩;refine aV anf u (C271 _ _ _ _) (λ_ he u=>aO rfl (aO rfl (bV (aC (λvT=>?_) λvT=>?_))))
  .have hz:vq S B=gD B.kind (kc S):=af6 (by have:=AL B.kind;omega);unfold runM;rw[ew W,O,WU (k:=k) J (by rw[hz];exact vT),hz];exact⟨rfl,u.aG⟩
  refine qh Rv u (H':=λ_=>nj E (((S.take (S.length-1)).take ((S.take (S.length-1)).length-1))++[(gz B.kind (kc (S.take (S.length-1))) (kc S))])) (Φ:=λv _=>v=.tuple #[]) (λF G=>?_) ?_
  .exact acA E (gz B.kind (kc (S.take (S.length-1))) (kc S)) ((S.take (S.length-1)).take ((S.take (S.length-1)).length-1)) F _ G (by first|omega|(simp only[l0,la,mv];omega))
  rintro _ _ rfl u;intro Y;refine aN cK ?_;have u:=u.p1.drop;rw[OU cK]at u;have M:lu ns S B=_:=ah2 (by have:=AL B.kind;omega);exact⟨_,cK,k+1,_,_,rfl,rfl,cK,O.trans (Dt (k:=k) J ((af6 (by have:=AL B.kind;omega)).trans (vh.1 vT))),I,by rw[M];exact u⟩
 refine aA uH ?_
 have hS1:S.length=1:=by
  rw[kO cK,wD]at V;have:=(Prod.mk.inj (oi.inj V)).1;omega
 refine qh Rw u (H':=λ_=>nj E (S.take (S.length-1))) (Φ:=λv _=>v=hZ (kc S)) (λF G=>?_) ?_
 .exact acB E S F _ G (by first|omega|(simp only[l0,la,mv];omega)) (by first|omega|(simp only[l0,la,mv];omega))
 rintro _ _ rfl u;unfold runM;rw[ew W,O,vF cK];exact⟨rfl,u.aG⟩
def WX(x:Int):eZ (BA x):=by unfold eZ BA;rw[IntKind.wrap_i64];omega
def acE{a:Int}(b:Int)(u:eZ a):eZ (a.tmod b):=by
 have B:(a.tmod b).natAbs<=a.natAbs:=by rw[SU];exact abt _ _
 unfold eZ at *
 rcases Xz 0 a with h|h
 .have:=PJ b h;omega
 have:=PJ (a:=-a) b cK
 rw[abm]at this;omega
def WY(p:Bool):eZ (I3 p):=by cases p<;>(unfold eZ I3;decide)
def iF:eZ 0:=by unfold eZ;decide
def WZ{op a b:Int}(u:eZ a):eZ (gz op a b):=by
 unfold gz
 by_cases h:gD op b=0
 .rw[ew h]
  unfold lP Et
  repeat' split
  all_goals first|exact WX _|exact WY _|exact iF|exact acE _ u
 rw[ej h];exact iF
def W0{op a:Int}:eZ (yx op a):=by
 unfold yx
 repeat' split
 all_goals first|exact WX _|exact WY _|exact iF
def yy(S:List Int):Prop:=∀v∈S,eZ v
theorem Ly{S:List Int}(h:yy S):eZ (kc S):=by
 unfold kc
 rw[og]
 cases hh:S[S.length-1]? with
 | none=>exact iF
 | some e=>exact h e (kE hh)
def yy.take{S:List Int}(h:yy S)(k:Nat):yy (S.take k):=λv u=>h v (wF u)
def yy.snoc{S:List Int}{e:Int}(h:yy S)(B:eZ e):yy (S++[e]):=λv u=>by
 rcases List.mem_append.1 u with u|u
 .exact h v u
 grind
theorem W3{ns S:List Int}{x:oA}{many:Int}(E:yy ns)(u:yy S)(B:q8 many x=false):yy (lu ns S x):=by
 unfold q8 at B
 have B:=g6 B
 unfold lu
 split
 .rename_i hw
  split
  .rw[og]
   cases hh:ns[x.n.toNat]? with
   | none=>exact u.snoc iF
   | some e=>grind[yy]
  refine u.snoc ?_
  unfold eE at hw
  unfold eZ
  omega
 split
 .exact(u.take _).snoc W0
 exact(u.take _).snoc (WZ (Ly (u.take _)))
def cU(ns:List ByteArray)(s:ByteArray):Int:=sm (λy=>decide (y=s)) ns
def iu(p:cE):List cJ:=p.lines.flatten++p.iR
structure PS(p:cE):Prop where
 lines:p.lines.length<=500
 line:∀l∈p.lines,l.length<=500
 iR:p.iR.length<=500
 eJ:p.eJ.length<=500
 threads:p.threads.length<=500
 recover:p.recover.length<=500
 dS:p.dS.length<=500
 dQ:∀t∈p.threads++p.recover,t.dQ.length<=500
 body:∀t∈p.threads++p.recover,t.body.length<=500
theorem cY{ls:List (List cJ)}(h:∀l∈ls,l.length<=500):ls.flatten.length<=500*ls.length:=by
 induction ls with
 | nil=>simp
 | cons a ls u=>
  grind
def kV{p:cE}(h:PS p):(iu p).length<=250500:=by
 have h1:=cY h.line
 have h2:=h.lines
 have h3:=h.iR
 grind[iu]
theorem TU{α:Type}{ls:List (List α)}{k:Nat}{l:List α}(h:ls[k]?=some l):(ls.take k).flatten++l=(ls.take (k+1)).flatten:=by rw[<- gJ h,List.flatten_append];simp
theorem gd{α β:Type}{f:α->β}{l:List α}{k:Nat}{e:α}(h:l[k]?=some e):(l.take k).map f++[f e]=(l.take (k+1)).map f:=by rw[<- gJ h,vA];rfl
def C123(lv:Value)(ns:List ByteArray)(q:ByteArray)(w:World)(J:dC (λ_=>True) w lv ns)(O:ns.length<=1048576):CR 123 [lv,.string q] w (λv w'=>v=hZ (cU ns q)/\Ext w w'):=by
 have u:=St.start w;refine fg Tryz.func123 ?_;refine⟨λm x I=>∃k:Nat,x=hZ (k:Int)/\m=ns.length-k/\k<=ns.length/\(∀y∈ns.take k,decide (y=q)=false)/\St w aZ [] I,⟨_,0,rfl,rfl,l1 _,ei,u⟩,?_⟩;rintro m _ I ⟨k,rfl,rfl,U,B,u⟩ _;refine aK iC (J.ext u.aG) (aR (aC (λV=>?_) λ_=>⟨gO (ni .i64) (jh (by rw[kO cK]at B;exact B)).symm,u.aG⟩));obtain⟨W,E⟩:=gx ns (i:=(k:Int).toNat) cK;exact aQ iC (J.ext u.aG) cK E (λ_ M=>aD gw M (jI (aC (λG=>⟨gO (ni .i64) (me B E (ez G)).symm,u.aG⟩) λG=>aN cK ⟨ns.length-(k+1),cK,k+1,rfl,rfl,cK,dZ B E (fN G),u⟩)))
def C202(lv:Value)(cs:List cJ)(w:World)(E:dC (λ_=>True) w lv cs)(W:cs.length<=1048576):CR 202 [lv] w (λv w'=>lh (bH v (cs.map cJ.name)) w w'):=by
 have u:=St.start w;refine fg Tryz.func202 ?_;refine bD ([]:List ByteArray) u iC rfl rfl (dL rfl) (λV B u=>?_);refine⟨λm y x B=>∃k:Nat,x=hZ (k:Int)/\m=cs.length-k/\k<=cs.length/\St w aZ [bH y ((cs.take k).map cJ.name)] B,⟨_,0,rfl,rfl,cK,u⟩,?_⟩;rintro m nk _ _ ⟨k,rfl,rfl,hk,u⟩ _;have Z:((cs.take k).map cJ.name).length=k:=by rw[List.length_map,l0];omega
 refine aK im (E.ext u.aG) (aR (aC (λU=>?_) λU=>?_))
 .obtain⟨G,I⟩:=gx cs (i:=(k:Int).toNat) cK;refine aQ im (E.ext u.aG) cK I (λ_ O=>bW G.name kQ O rfl rfl λ_ M=>aD gw M (bD ([G.name]) u iC rfl rfl (dL rfl) λY _ u=>?_));have J:=u.dX;exact bJ u.p1 iC J (by simp<;>omega) ee (λ_ _ u=>have u:=u.p1.drop;aN cK ⟨_,cK,k+1,rfl,rfl,cK,by rw[<- gd (k:=k) I];exact u⟩)
 rw[kO cK]at u;exact u.fresh
def C59(p:cE)(pv:bP)(w:World)(hp:Deep.dr w pv p)(B:PS p):CR 59 [ia pv] w (λv w'=>lh (bH v (iu p)) w w'):=by
 obtain⟨bK,bU,bL,aW,aX,bG,rfl,cQ,dG,cW,cC,cD,cP⟩:=hp;have u:=St.start w;refine fg Tryz.func59 ?_;refine cI u (λko w1 u=>bD ([]:List cJ) u im rfl rfl (dL rfl) λOW _ u=>?_);refine⟨λm y x w1=>∃k:Nat,x=hZ (k:Int)/\m=p.lines.length-k/\k<=p.lines.length/\St w aZ [bH y (p.lines.take k).flatten,bY ko (j0 (⟨bK,bU,bL,aW,aX,bG⟩:bP))] w1,⟨_,0,rfl,rfl,cK,u⟩,?_⟩;rintro m nk _ _ ⟨k,rfl,rfl,hk,u⟩ _;have TV:=B.lines;refine aA gy (aB oP u.p1.hb rfl ?_)
 obtain⟨W5,E,G⟩:=cQ.open;have W6:=G.1;refine aK pJ (E.ext u.aG) (aR (aC (λgI=>?_) λgI=>?_))
 .refine aA gy (aB oP u.p1.hb rfl ?_);obtain⟨W,W7⟩:=gx W5 (i:=(k:Int).toNat) cK;obtain⟨Y,Z⟩:=gx p.lines (i:=(k:Int).toNat) cK;have J:DL w (ia W) Y:=G.2 _ _ _ W7 Z;refine aQ pJ (E.ext u.aG) cK W7 (λ_ Lz=>aD jM Lz ?_);have U:=DL.flat J;have BC:=B.line _ (kE Z);have O:=cY (ls:=p.lines.take k) (λl I=>B.line l (wF I));rw[l0]at O;have TV:=B.lines;have lG:=(U.ext u.aG);exact bJ u im lG cK ee (λ_ _ u=>aN cK ⟨_,cK,k+1,rfl,rfl,cK,by rw[<- TU (k:=k) Z];exact u⟩)
 refine aA qf (aB jM u.p1.hb rfl ?_);have M:=DL.flat dG;have O:=cY (ls:=p.lines.take k) (λl I=>B.line l (wF I));rw[l0]at O;have TV:=B.lines;have hz2:=B.iR;have V:=(M.ext u.aG);refine bJ u im V cK ee (λan4 _ u=>?_);rw[kO cK]at u;exact u.p1.drop.fresh
def kids(k:Int):Int:=if k=1\/k=2 then 0 else if k=3\/k=4 then 1 else if 5<=k/\k<=15 then 2 else -1
def tZ(k:Int) : -1<=kids k/\kids k<=2:=by
 grind[kids]
def gA(c:Int):Bool:=decide (97<=c/\c<=122\/c=95)
def kq(c:Int):Bool:=decide (48<=c/\c<=57)
def jT:List ByteArray:=[⟨#[108,105,110,101]⟩,⟨#[118,111,108]⟩,⟨#[108,111,99,107]⟩,⟨#[116,104,114,101,97,100]⟩,⟨#[114,101,103]⟩,⟨#[108,111,97,100]⟩,⟨#[115,116,111,114,101]⟩,⟨#[99,97,115]⟩,⟨#[102,108,117,115,104]⟩,⟨#[111,112,116]⟩,⟨#[115,102,101,110,99,101]⟩,⟨#[109,102,101,110,99,101]⟩,⟨#[116,97,107,101]⟩,⟨#[103,105,118,101]⟩,⟨#[105,102]⟩,⟨#[101,108,115,101]⟩,⟨#[108,111,111,112]⟩,⟨#[98,114,101,97,107]⟩,⟨#[99,104,101,99,107]⟩,⟨#[114,101,99,111,118,101,114]⟩,⟨#[97,108,119,97,121,115]⟩]
def gK(s:ByteArray):Bool:=!(decide (s.size<1\/16<s.size)||(match (iQ s)[0]? with|some c=>!gA c.toNat|none=>true)||jT.any λy=>decide (y=s))&&!(iQ s).any (λc=>!gA c.toNat&&!kq c.toNat)
def skip:Nat->List cA->Option (List cA)
 | 0,l=>some l
 | _+1,[]=>none
 | n+1,x::l=>if kids x.op<0 then none else skip (n+(kids x.op).toNat) l
theorem zy(l:List cA):skip 0 l=some l:=by cases l<;>rfl
theorem Ez(l:List cA):∀a b,skip (a+b) l=(skip a l).bind (skip b):=by
 induction l with
 | nil=>
  intro a b
  cases a with
  | zero=>rw[u1,zy];rfl
  | succ a=>grind[skip]
 | cons x l u=>
  intro a b
  cases a with
  | zero=>rw[u1,zy];rfl
  | succ a=>
   grind[skip]
theorem EA(l:List cA):∀n r,skip n l=some r->r=l.drop (l.length-r.length)/\r.length+min n 1<=l.length:=by
 induction l with
 | nil=>
  intro n r h
  cases n with
  | zero=>rw[zy]at h;grind
  | succ n=>cases h
 | cons x l u=>
  intro n r h
  cases n with
  | zero=>rw[zy]at h;simp_all
  | succ n=>
   have h:(if kids x.op<0 then none else skip (n+(kids x.op).toNat) l)=some r:=h
   split at h
   .cases h
   .obtain⟨h1,h2⟩:=u _ _ h
    refine⟨?_,dD⟩
    rw[show(x::l).length-r.length=(l.length-r.length)+1 from dD]
    exact h1
def C2(n:Nat)(o:Option (List cA)):Int:=match o with|some r=>(n:Int)-r.length|none=>-1
def qy(xs:List cA)(i:Int):Int:=if i<0 then -1 else C2 xs.length (skip 1 (xs.drop i.toNat))
def W8{xs:List cA}{i:Int}{x:cA}(G:0<=i)(E:xs[i.toNat]?=some x)(I:0<=kids x.op):qy xs i=C2 xs.length (skip (kids x.op).toNat (xs.drop (i.toNat+1))):=by
 unfold qy
 obtain⟨B,u⟩:=kp.1 E
 rw[ej cK,tx B,u]
 show C2 _ (if kids x.op<0 then none else skip (0+(kids x.op).toNat) _)=_
 grind
theorem acF{xs:List cA}{i:Int}{x:cA}(G:0<=i)(E:xs[i.toNat]?=some x)(I:kids x.op<0):qy xs i = -1:=by
 unfold qy
 obtain⟨B,u⟩:=kp.1 E
 rw[ej cK,tx B,u]
 grind[C2,skip]
theorem acG{xs:List cA}{i:Int}(h:i<0\/xs.length<=i):qy xs i = -1:=by
 unfold qy
 split
 .rfl
 rw[vF cK];rfl
theorem an5{xs:List cA}{j k:Nat}{a:Int}(h:C2 xs.length (skip k (xs.drop j))=a)(u:0<=a):qy xs a=C2 xs.length (skip (k+1) (xs.drop j))/\((j:Int)<=a\/xs.length<=a):=by
 cases hs:skip k (xs.drop j)with
 | none=>rw[hs]at h;unfold C2 at h;simp only[]at h;omega
 | some r=>
  rw[hs]at h
  have h:(xs.length:Int)-r.length=a:=h
  obtain⟨h1,h2⟩:=EA _ _ _ hs
  rw[qb]at h1 h2
  rw[Ez,hs]
  show _=C2 _ (skip 1 r)/\_
  refine⟨?_,cK⟩
  unfold qy
  rw[ej cK]
  by_cases B:j<=xs.length
  .have:xs.drop a.toNat=r:=by
    rw[h1,sZ,show j+(xs.length-j-r.length)=a.toNat from cK]
   rw[this]
  .have:r=[]:=uX.1 cK
   subst this
   rw[vF (by simp at h;omega)]
theorem ah5{xs l:List cA}{k j:Nat}(u:l.length<=xs.length)(h:¬ 0<=C2 xs.length (skip k l))(B:k<=j):C2 xs.length (skip k l)=C2 xs.length (skip j l):=by
 cases hs:skip k l with
 | none=>rw[show j=k+(j-k)from cK,Ez,hs];rfl
 | some r=>
  obtain⟨_,h2⟩:=EA _ _ _ hs
  rw[hs]at h;unfold C2 at h;simp only[]at h;omega
theorem avq{xs l:List cA}{k:Nat}(u:l.length<=xs.length) : -1<=C2 xs.length (skip k l)/\C2 xs.length (skip k l)<=xs.length:=by
 cases hs:skip k l with
 | none=>unfold C2;simp only[];omega
 | some r=>
  obtain⟨_,h2⟩:=EA _ _ _ hs
  unfold C2;simp only[];omega
def C273(k:Int)(w:World):CR 273 [hZ k] w (λv w'=>v=hZ (kids k)/\Ext w w'):=by
 have E:=St.start w;refine fg Tryz.func273 ?_;refine⟨λu w'=>u=.bool (decide (k=1\/k=2))/\w=w',aH (aC (λ_=>⟨N7 cK,rfl⟩) λ_=>aH ⟨yF cK,rfl⟩),?_⟩;rintro _ _ ⟨rfl,B⟩ _;subst B;refine aC (λJ=>?_) (λJ=>⟨λu w'=>u=.bool (decide (k=3\/k=4))/\w=w',aH (aC (λ_=>⟨N7 cK,rfl⟩) λ_=>aH ⟨yF cK,rfl⟩),?_⟩)
 .unfold kids;exact⟨gO (ni .i64) dD,E.aG⟩
 rintro _ _ ⟨rfl,B⟩ _;subst B;refine aC (λI=>?_) (λI=>⟨λu w'=>u=.bool (decide (5<=k/\k<=15))/\w=w',cR (aC (λ_=>iE ⟨yF cK,rfl⟩) λ_=>⟨jvF cK,rfl⟩),?_⟩)
 .unfold kids;exact⟨gO (ni .i64) dD,E.aG⟩
 rintro _ _ ⟨rfl,B⟩ _;subst B;refine aC (λG=>?_) (λG=>?_)
 .unfold kids;exact⟨gO (ni .i64) dD,E.aG⟩
 unfold kids;exact⟨gO (ni .i64) dD,E.aG⟩
def C206(c:Int)(w:World):CR 206 [.int .u8 c] w (λv w'=>v=.bool (gA c)/\Ext w w'):=by
 have u:=St.start w;refine fg Tryz.func206 ?_;refine⟨λB w'=>B=.bool (decide (97<=c/\c<=122\/c=95))/\w=w',AG (aC (λ_=>AF (aC (λ_=>⟨N7 cK,rfl⟩) λ_=>nH ⟨yF cK,rfl⟩)) λ_=>nH ⟨yF cK,rfl⟩),?_⟩;rintro _ _ ⟨rfl,E⟩ _;subst E;exact⟨rfl,u.aG⟩
def C207(c:Int)(w:World):CR 207 [.int .u8 c] w (λv w'=>v=.bool (kq c)/\Ext w w'):=by
 have u:=St.start w;refine fg Tryz.func207 ?_;refine⟨λB w'=>B=.bool (decide (48<=c/\c<=57))/\w=w',AG (aC (λ_=>AF ⟨yF cK,rfl⟩) λ_=>⟨jvF cK,rfl⟩),?_⟩;rintro _ _ ⟨rfl,E⟩ _;subst E;exact⟨rfl,u.aG⟩
def C255(s:ByteArray)(w:World):CR 255 [.string s] w (λv w'=>v=.bool (jT.any λy=>decide (y=s))/\Ext w w'):=by
 have u:=St.start w;refine fg Tryz.func255 ?_;refine bD jT u iC rfl rfl (dL rfl) (λJ I u=>?_);refine⟨λm x I=>∃k:Nat,x=hZ (k:Int)/\m=jT.length-k/\k<=jT.length/\(∀y∈jT.take k,decide (y=s)=false)/\St w aZ [bH J jT] I,⟨_,0,rfl,rfl,l1 _,ei,u⟩,?_⟩;rintro m _ _ ⟨k,rfl,rfl,U,G,u⟩ _;have W:jT.length=21:=rfl;refine aK iC u.dX (aR (aC (λO=>?_) λO=>?_))
 .skip;obtain⟨V,B⟩:=gx jT (i:=(k:Int).toNat) cK;exact dR u iC cK cK (λ_ M=>gM u gw M B (jI (aC (λE=>⟨vb (ic B (ez E)).symm,u.aG⟩) λE=>aN cK ⟨_,cK,k+1,rfl,rfl,cK,dZ G B (fN E),u⟩)))
 rw[kO cK]at G;exact⟨vb (iD G).symm,u.aG⟩
def C211(s:ByteArray)(w:World)(hn:s.size<=1048576):CR 211 [.string s] w (λv w'=>v=.bool (gK s)/\Ext w w'):=by
 have u:=St.start w;refine fg Tryz.func211 ?_;refine⟨λE w'=>E=.bool (decide (s.size<1\/16<s.size)||(match (iQ s)[0]? with|some c=>!gA c.toNat|none=>true)||jT.any λy=>decide (y=s))/\St w aZ [] w',fk il (aR (aC (λ_=>⟨vb dD,u⟩) λZ=>fk il (cO (aC (λ_=>⟨vb dD,u⟩) λgI=>?_)))),?_⟩
 .obtain⟨ix,V⟩:∃I,(iQ s)[(0:Int).toNat]?=some I:=⟨_,kX (by rw[eY];omega)⟩;exact jW il cK V (aV Rp u (C206 _ _) λ_ _ u=>bR (aY (λ_=>⟨vb dD,u⟩) λ_=>aV am8 u (C255 _ _) λ_ _ u=>⟨vb dD,u⟩))
 rintro _ _ ⟨rfl,u⟩ _;refine aY (λM=>?_) (λM=>?_)
 .refine⟨vb ?_,u.aG⟩;unfold gK;rw[M];rfl
 refine⟨λm x U=>∃k:Nat,x=hZ (k:Int)/\m=(iQ s).length-k/\k<=(iQ s).length/\(∀y∈(iQ s).take k,(!gA y.toNat&&!kq y.toNat)=false)/\St w aZ [] U,⟨_,0,rfl,rfl,l1 _,ei,u⟩,?_⟩;rintro m _ _ ⟨k,rfl,rfl,W,J,u⟩ _;rw[eY]at W;have Hc:=eY s;refine fk il (aR (aC (λY=>?_) λY=>?_))
 .obtain⟨O,B⟩:∃I,(iQ s)[(k:Int).toNat]?=some I:=⟨_,kX (by rw[eY];omega)⟩;refine⟨λE w'=>E=.bool (!gA O.toNat&&!kq O.toNat)/\St w aZ [] w',jW il cK B (aV Rp u (C206 _ _) λ_ _ u=>bR (aY (λ_=>jW il cK B (aV Rq u (C207 _ _) λ_ _ u=>bR ⟨vb dD,u⟩)) λ_=>⟨vb dD,u⟩)),?_⟩;rintro _ _ ⟨rfl,u⟩ _;refine aY (λG=>?_) (λG=>aN cK ⟨_,cK,k+1,rfl,rfl,cK,dZ J B (by simpa using G),u⟩);refine⟨vb ?_,u.aG⟩;unfold gK;rw[ic B G];simp
 rw[kO cK]at J;refine⟨vb ?_,u.aG⟩;unfold gK;rw[iD J]
 revert M
 cases (decide (s.size<1\/16<s.size)||(match (iQ s)[0]? with|some c=>!gA c.toNat|none=>true)||jT.any λy=>decide (y=s))<;>simp
theorem C251(lv:Value)(xs:List cA)(i:Int)(N:Nat)(w:World)(E:dC (λ_=>True) w lv xs)(hn:xs.length<=1048576)(hi : -9223372036854775808<=i)(hN:(xs.length:Int)-i<N):CR 251 [lv,hZ i] w (λv w'=>v=hZ (qy xs i)/\Ext w w'):=by
 have u:=St.start w;refine fg Tryz.func251 ?_;refine⟨λG w'=>G=.bool (decide (i<0\/(xs.length:Int)<=i)||(match xs[i.toNat]? with|some x=>decide (kids x.op<0)|none=>true))/\St w aZ [] w',aR (aC (λ_=>⟨vb dD,u⟩) λgE=>aK gX (E.ext u.aG) (cR (aC (λ_=>⟨vb dD,u⟩) λxd=>?_))),?_⟩
 .obtain⟨re,ja⟩:=gx xs (i:=(i).toNat) cK;exact aQ gX (E.ext u.aG) cK ja (λ_ O=>bW re.op fa O rfl rfl λ_ lS=>aD bM lS (aV KL u (C273 _ _) λ_ _ u=>aR ⟨vb dD,u⟩))
 rintro _ _ ⟨rfl,u⟩ _;refine aY (λ_=>⟨gO (ni .i64) (by grind[acG,acF]),u.aG⟩) (λm8=>?_);have Y:¬ (i<0\/(xs.length:Int)<=i):=dD
 obtain⟨B,M⟩:=gx xs (i:=(i).toNat) cK;have Oa:0<=kids B.op:=dD
 have W9:=tZ B.op;have W:=W8 cK M Oa;refine aN cK ?_;refine⟨λm y x Z=>∃(k:Nat) (a:Int),x=hZ (k:Int)/\y=hZ a/\m=(kids B.op).toNat-k/\k<=(kids B.op).toNat/\C2 xs.length (skip k (xs.drop (i.toNat+1)))=a/\St w aZ [] Z,⟨_,0,i+1,rfl,rfl,rfl,cK,by rw[zy];unfold C2;simp only[qb];omega,u⟩,?_⟩;rintro m _ _ _ ⟨k,a,rfl,rfl,rfl,hk,J,u⟩ _;have I:=avq (xs:=xs) (l:=xs.drop (i.toNat+1)) (k:=k) (by rw[qb];omega);rw[J]at I;refine⟨λG w'=>G=.bool (decide ((k:Int)<kids B.op/\0<=a))/\St w aZ [] w',aQ gX (E.ext u.aG) cK M (λ_ U=>bW B.op fa U rfl rfl λ_ V=>aD bM V (aV KL u (C273 _ _) λ_ _ u=>aR (aC (λ_=>cR ⟨vb dD,u⟩) λ_=>⟨vb dD,u⟩))),?_⟩
 rintro _ _ ⟨rfl,u⟩ _;refine aC (λo7=>?_) (λ_=>⟨gO (ni .i64) (by have:=ah5 (xs:=xs) (l:=xs.drop (i.toNat+1)) (k:=k) (j:=(kids B.op).toNat) (by rw[qb];omega);rw[W];by_cases h0:0<=a<;>grind),u.aG⟩);have BD:=an5 J cK;exact aV KJ u (C251 _ _ _ (N-1) _ (E.ext u.aG) hn cK cK) (λ_ _ u=>aN cK ⟨_,cK,k+1,_,rfl,rfl,rfl,cK,BD.1.symm,u⟩)
termination_by N
decreasing_by omega
inductive Ex where
 | leaf (x:cA)
 | un (x:cA) (a:Ex)
 | bin (x:cA) (a b:Ex)
namespace Ex
def root:Ex->cA|leaf x=>x|un x _=>x|bin x _ _=>x
def eC:Ex->List Ex|leaf _=>[]|un _ a=>[a]|bin _ a b=>[a,b]
def flat:Ex->List cA|leaf x=>[x]|un x a=>x::a.flat|bin x a b=>x::(a.flat++b.flat)
def wf:Ex->Prop|leaf x=>kids x.op=0|un x a=>kids x.op=1/\a.wf|bin x a b=>kids x.op=2/\a.wf/\b.wf
def depth:Ex->Int|leaf _=>1|un _ a=>a.depth+1|bin _ a b=>max a.depth b.depth+1
def size:Ex->Nat|leaf _=>1|un _ a=>a.size+1|bin _ a b=>a.size+b.size+1
def numOf(ns:List ByteArray)(x:cA):Int:=if x.op=2 then cU ns x.name else x.n
def steps(ns:List ByteArray):Ex->List oA
 | leaf x=>[⟨x.op,numOf ns x⟩]
 | un x a=>a.steps ns++[⟨x.op,numOf ns x⟩]
 | bin x a b=>a.steps ns++b.steps ns++[⟨x.op,numOf ns x⟩]
end Ex
theorem Ex.cY(t:Ex):t.flat.length=t.size:=by
 induction t with
 | leaf x=>rfl
 | un x a B=>simp[Ex.flat,Ex.size,B]
 | bin x a b E u=>simp[Ex.flat,Ex.size,E,u]
theorem Ex.Hd(t:Ex):t.flat=t.root::(t.eC.map Ex.flat).flatten:=by
 cases t<;>simp[Ex.flat,Ex.root,Ex.eC]
theorem Ex.o8{t:Ex}(h:t.wf):kids t.root.op=t.eC.length:=by
 cases t with
 | leaf x=>exact h
 | un x a=>exact h.1
 | bin x a b=>exact h.1
theorem Ex.ua{t a:Ex}(h:t.wf)(u:a∈t.eC):a.wf/\a.size<t.size:=by
 cases t with
 | leaf x=>cases u
 | un x b=>rw[vx.1 u];exact⟨h.2,by simp[Ex.size]⟩
 | bin x b c=>
  rcases List.mem_cons.1 u with rfl|u
  .grind[wf,size]
  grind[wf,size]
theorem Ex.rC(t:Ex):1<=t.depth/\t.depth<=t.size:=by
 induction t with
 | leaf x=>simp[Ex.depth,Ex.size]
 | un x a B=>simp only[Ex.depth,Ex.size];omega
 | bin x a b E u=>simp only[Ex.depth,Ex.size];omega
theorem Ex.pN(ns:List ByteArray)(t:Ex):(t.steps ns).length=t.size:=by
 induction t with
 | leaf x=>rfl
 | un x a u=>simp[Ex.steps,Ex.size,u]
 | bin x a b E B=>grind[steps,size]
theorem TW(t:Ex)(h:t.wf):∀n r,skip (n+1) (t.flat++r)=skip n r:=by
 induction t with
 | leaf x=>
  intro n r
  show(if kids x.op<0 then none else skip (n+(kids x.op).toNat) r)=_
  rw[show kids x.op=0 from h];rfl
 | un x a u=>
  intro n r
  show(if kids x.op<0 then none else skip (n+(kids x.op).toNat) (a.flat++r))=_
  rw[show kids x.op=1 from h.1,ej cK];exact u h.2 n r
 | bin x a b E B=>
  intro n r
  show(if kids x.op<0 then none else skip (n+(kids x.op).toNat) (a.flat++b.flat++r))=_
  rw[show kids x.op=2 from h.1,ej cK,n3]
  show skip (n+1+1) _=_
  rw[E h.2.1 (n+1),B h.2.2 n]
theorem RW:∀(k:Nat) (l r:List cA),l.length<=k->skip 1 l=some r->∃t:Ex,t.wf/\l=t.flat++r
 | k,[],r,_,h=>by cases h
 | 0,x::l,r,u,_=>by simp at u
 | k+1,x::l,r,u,h=>by
  have u:l.length<=k:=dD
  have h:(if kids x.op<0 then none else skip (0+(kids x.op).toNat) l)=some r:=h
  have hb:=tZ x.op
  split at h
  .cases h
  .rcases(show kids x.op=0\/kids x.op=1\/kids x.op=2 by omega)with h0|h0|h0
   .rw[h0]at h
    have h:skip 0 l=some r:=h
    rw[zy]at h;cases h
    exact⟨.leaf x,h0,rfl⟩
   .rw[h0]at h
    obtain⟨a,E,rfl⟩:=RW k l r u h
    exact⟨.un x a,⟨h0,E⟩,rfl⟩
   .rw[h0]at h
    have h:skip (1+1) l=some r:=h
    rw[Ez]at h
    obtain⟨m,h1,h2⟩:=NJ.1 h
    obtain⟨a,E,rfl⟩:=RW k l m u h1
    obtain⟨b,B,rfl⟩:=RW k m r dD h2
    exact⟨.bin x a b,⟨h0,E,B⟩,by simp[Ex.flat]⟩
def BE(xs:List cA)(i:Int)(t:Ex):Prop:=0<=i/\t.wf/\∃r,xs.drop i.toNat=t.flat++r
def BE.root{xs:List cA}{i:Int}{t:Ex}(h:BE xs i t):xs[i.toNat]?=some t.root/\i<xs.length:=by
 obtain⟨u,_,r,h⟩:=h
 have:(xs.drop i.toNat)[0]?=some t.root:=by rw[h,Ex.Hd];rfl
 rw[Im,Oe]at this
 exact⟨this,by have:=(kp.1 this).1;omega⟩
def BE.end{xs:List cA}{i:Int}{t:Ex}(h:BE xs i t):qy xs i=i+t.size/\i+t.size<=xs.length:=by
 have G:=h.root.2
 obtain⟨E,B,r,h⟩:=h
 have u:=gO List.length h
 rw[qb,la,Ex.cY]at u
 refine⟨?_,cK⟩
 unfold qy
 rw[ej cK,h,TW t B 0 r,zy]
 unfold C2;grind
theorem BE.of{xs:List cA}{i:Int}(h:0<=qy xs i):∃t,BE xs i t:=by
 unfold qy at h
 split at h
 .omega
 cases hs:skip 1 (xs.drop i.toNat)with
 | none=>rw[hs]at h;unfold C2 at h;simp only[]at h;omega
 | some r=>
  obtain⟨t,B,u⟩:=RW _ _ r (o6 _) hs
  exact⟨t,cK,B,r,u⟩
def qz(ks:List Ex)(k:Nat):Nat:=((ks.take k).map Ex.size).sum
theorem uM{ks:List Ex}{k:Nat}{a:Ex}(h:ks[k]?=some a):qz ks (k+1)=qz ks k+a.size:=by
 unfold qz;rw[<- gJ h];simp
def BE.kid{xs:List cA}{i:Int}{t a:Ex}{k:Nat}(h:BE xs i t)(u:t.eC[k]?=some a):BE xs (i+1+qz t.eC k) a:=by
 obtain⟨J,I,r,h⟩:=h
 refine⟨cK,(Ex.ua I (kE u)).1,?_⟩
 have G:t.eC=t.eC.take k++a::t.eC.drop (k+1):=by
  obtain⟨M,B⟩:=kp.1 u
  rw[<- B,KH,qB]
 have E:(((t.eC.take k).map Ex.flat).flatten).length=qz t.eC k:=by
  unfold qz
  rw[U0,I7]
  congr 2
  exact funext λx=>Ex.cY x
 have h2:xs.drop (i.toNat+1)=((t.eC.take k).map Ex.flat).flatten++(a.flat++(((t.eC.drop (k+1)).map Ex.flat).flatten++r)):=by
  rw[<- sZ,h,Ex.Hd t]
  show(t.eC.map Ex.flat).flatten++r=_
  conv=>lhs;rw[G]
  simp
 refine⟨((t.eC.drop (k+1)).map Ex.flat).flatten++r,?_⟩
 rw[show(i+1+(qz t.eC k:Int)).toNat=i.toNat+1+qz t.eC k from cK,<- sZ,h2,<- E,List.drop_left]
def C3(ks:List Ex)(k:Nat):Int:=((ks.take k).map Ex.depth).foldl max 0
theorem BW{ks:List Ex}{k:Nat}{a:Ex}(h:ks[k]?=some a):C3 ks (k+1)=max (C3 ks k) a.depth:=by
 unfold C3;rw[<- gJ h,vA,D8];rfl
theorem OX{ks:List Ex}{N:Int}(u:0<=N)(h:∀a∈ks,a.depth<=N):∀k,0<=C3 ks k/\C3 ks k<=N
 | 0=>by simp[C3,u]
 | k+1=>by
  have B:=OX u h k
  cases hx:ks[k]? with
  | none=>
   have e:ks.take (k+1)=ks.take k:=by rw[ta,hx];simp
   unfold C3 at *;grind
  | some a=>rw[BW hx];grind
theorem Ex.LA(t:Ex):t.depth=C3 t.eC t.eC.length+1:=by
 cases t with
 | leaf x=>rfl
 | un x a=>have:=a.rC;grind[depth,C3,eC]
 | bin x a b=>have:=a.rC;grind[depth,C3,eC]
def Xa(ns:List ByteArray)(ks:List Ex)(k:Nat):List oA:=((ks.take k).map (Ex.steps ns)).flatten
theorem LB{ns:List ByteArray}{ks:List Ex}{k:Nat}{a:Ex}(h:ks[k]?=some a):Xa ns ks (k+1)=Xa ns ks k++a.steps ns:=by
 unfold Xa;rw[<- gJ h];simp
def Du{ns:List ByteArray}{ks:List Ex}{k:Nat}:(Xa ns ks k).length=qz ks k:=by
 unfold Xa qz
 rw[U0,I7]
 congr 2
 exact funext λx=>Ex.pN ns x
theorem Ex.vr(ns:List ByteArray)(t:Ex):t.steps ns=Xa ns t.eC t.eC.length++[⟨t.root.op,Ex.numOf ns t.root⟩]:=by
 cases t<;>simp[Ex.steps,Ex.eC,Xa,Ex.root]
def pt:Nat->List cA->Option (Ex×List cA)
 | 0,_=>none
 | _+1,[]=>none
 | n+1,x::l=>
  if kids x.op=0 then some (.leaf x,l)else if kids x.op=1 then(match pt n l with|some p=>some (.un x p.1,p.2)|none=>none)
  else if kids x.op=2 then(match pt n l with|some p=>(match pt n p.2 with|some q=>some (.bin x p.1 q.1,q.2)|none=>none)|none=>none)else none
theorem acI(t:Ex)(h:t.wf):∀n r,t.size<=n->pt n (t.flat++r)=some (t,r):=by
 induction t with
 | leaf x=>
  intro n r u
  cases n with
  | zero=>simp[Ex.size]at u
  | succ n=>show(if kids x.op=0 then _ else _)=_;rw[ew (show kids x.op=0 from h)];rfl
 | un x a E=>
  intro n r u
  cases n with
  | zero=>simp[Ex.size]at u
  | succ n=>
   have h1:kids x.op=1:=h.1
   show(if kids x.op=0 then _ else if kids x.op=1 then(match pt n (a.flat++r)with|some p=>some (Ex.un x p.1,p.2)|none=>none)else _)=_
   rw[ej cK,ew h1,E h.2 n r (by simp[Ex.size]at u;omega)]
 | bin x a b G B=>
  intro n r u
  cases n with
  | zero=>simp[Ex.size]at u
  | succ n=>
   have h1:kids x.op=2:=h.1
   show(if kids x.op=0 then _ else if kids x.op=1 then _ else if kids x.op=2 then(match pt n (a.flat++b.flat++r)with|some p=>(match pt n p.2 with|some q=>some (Ex.bin x p.1 q.1,q.2)|none=>none)|none=>none)else _)=_
   rw[ej cK,ej cK,ew h1,n3,G h.2.1 n _ (by simp[Ex.size]at u;omega)]
   simp only[]
   rw[B h.2.2 n _ (by simp[Ex.size]at u;omega)]
def zz(l:List cA):Option Ex:=match pt l.length l with|some p=>if p.2=[]then some p.1 else none|none=>none
def TX{t:Ex}(h:t.wf):zz t.flat=some t:=by
 unfold zz
 have:=acI t h t.flat.length [] (by rw[Ex.cY];omega)
 grind
def BE.zero{l:List cA}{t:Ex}(h:BE l 0 t)(E:qy l 0=l.length):l=t.flat/\zz l=some t:=by
 have h1:=h.end
 obtain⟨_,B,r,h⟩:=h
 have u:=gO List.length h
 rw[la,Ex.cY]at u
 simp at u
 have:r=[]:=uX.1 cK
 subst this
 have h:l=t.flat:=dD
 exact⟨h,by rw[h];exact TX B⟩
theorem AQ:∀n l t r,pt n l=some (t,r)->t.wf/\l=t.flat++r
 | 0,l,t,r,h=>by cases h
 | n+1,[],t,r,h=>by cases h
 | n+1,x::l,t,r,h=>by
  have h:(if kids x.op=0 then some (Ex.leaf x,l)else if kids x.op=1 then(match pt n l with|some p=>some (Ex.un x p.1,p.2)|none=>none)
   else if kids x.op=2 then(match pt n l with|some p=>(match pt n p.2 with|some q=>some (Ex.bin x p.1 q.1,q.2)|none=>none)|none=>none)else none)=some (t,r):=h
  split at h
  .rename_i hk;cases h;exact⟨hk,rfl⟩
  .split at h
   .rename_i hk
    cases ha:pt n l with
    | none=>grind
    | some p=>
     rw[ha]at h
     obtain⟨a,m⟩:=p
     cases h
     obtain⟨h1,rfl⟩:=AQ n l a _ ha
     exact⟨⟨hk,h1⟩,rfl⟩
   .split at h
    .rename_i hk
     cases ha:pt n l with
     | none=>grind
     | some p=>
      rw[ha]at h
      obtain⟨a,m⟩:=p
      simp only[]at h
      cases hb:pt n m with
      | none=>grind
      | some q=>
       rw[hb]at h
       obtain⟨b,u⟩:=q
       cases h
       obtain⟨h1,rfl⟩:=AQ n l a _ ha
       obtain⟨h2,rfl⟩:=AQ n m b _ hb
       exact⟨⟨hk,h1,h2⟩,by simp[Ex.flat]⟩
    .cases h
theorem vt{l:List cA}{t:Ex}(h:zz l=some t):t.wf/\l=t.flat:=by
 unfold zz at h
 cases hp:pt l.length l with
 | none=>grind
 | some p=>
  rw[hp]at h
  obtain⟨a,r⟩:=p
  simp only[]at h
  split at h
  .rename_i hr;cases h
   obtain⟨h1,h2⟩:=AQ _ _ _ _ hp
   grind
  .cases h
theorem EB{l:List cA}:(zz l).isSome=decide (qy l 0=l.length):=by
 by_cases h:qy l 0=l.length
 .obtain⟨t,ht⟩:=BE.of (xs:=l) (i:=0) cK
  rw[(ht.zero h).2,ez h];rfl
 rw[fN h]
 cases he:zz l with
 | none=>rfl
 | some t=>
  obtain⟨h1,rfl⟩:=vt he
  exact absurd (by have:=(show BE t.flat 0 t from⟨cK,h1,[],ei⟩).end.1;rw[this,Ex.cY];omega) h
def lj(x:cA):Bool:=decide (x.at_<0\/4000<x.at_)||decide (¬ x.op=1/\¬ x.n=0)||decide (¬ x.op=2/\¬ x.name=⟨#[]⟩)||decide (x.n<0\/4294967296<x.n)||(decide (x.op=2)&&!gK x.name)
def RX(l:List cA):Int:=match zz l with|some t=>t.depth|none=>0
def fC(l:List cA):Bool:=decide (l.length<=40)&&(zz l).isSome&&!l.any lj&&decide (RX l<=12)
def BX(ns:List ByteArray)(l:List cA):List oA:=match zz l with|some t=>t.steps ns|none=>[]
def kW(ns:List ByteArray)(l:List cA):Int:=if fC l=false then 8 else if l.any (λx=>decide (x.op=2)&&decide (cU ns x.name<0))then 9 else 0
def qA(ns:List ByteArray)(l:List cA):List oA:=if kW ns l=0 then BX ns l else []
def zA{l:List cA}(h:fC l=true):qy l 0=l.length:=by
 unfold fC at h
 rw[EB]at h
 grind
theorem C252(lv:Value)(xs:List cA)(i:Int)(t:Ex)(N:Nat)(w:World)(G:dC (λ_=>True) w lv xs)(hn:xs.length<=1048576)(B:BE xs i t)(hN:t.size<N):CR 252 [lv,hZ i] w (λv w'=>v=hZ t.depth/\Ext w w'):=by
 obtain⟨M,hq,sn⟩:∃e,e=t.root/\xs[(i).toNat]?=some e:=⟨_,rfl,B.root.1⟩;have U:=B.root.2;have hie:=B.end;have Oa:=Ex.o8 B.2.1;rw[<- hq]at Oa;have W9:=tZ M.op;have hi0:=B.1;have u:=St.start w;refine ab0 _ _ _ _ ?_;unfold S252;refine aN cK ?_;refine⟨λm n a x I=>∃k:Nat,n=hZ (C3 t.eC k)/\a=hZ (i+1+qz t.eC k)/\x=hZ (k:Int)/\m=t.eC.length-k/\k<=t.eC.length/\St w aZ [] I,⟨_,0,rfl,gO (ni .i64) (by simp[qz]),rfl,rfl,cK,u⟩,?_⟩;rintro m _ _ _ I ⟨k,rfl,rfl,rfl,rfl,hk,u⟩ _;have O:=OX (ks:=t.eC) (N:=(t.size:Int)) cK (λa W=>by have:=(Ex.ua B.2.1 W).2;have:=a.rC;omega) k
 refine aQ gX (G.ext u.aG) cK sn (λ_ Ev=>bW M.op fa Ev rfl rfl λ_ V=>aD bM V (aV KL u (C273 _ _) λ_ he u=>aR (aC (λke=>?_) λ_=>aN cK ⟨gO (ni .i64) (by rw[t.LA,show k=t.eC.length from cK]),u.aG⟩)));obtain⟨a,E⟩:=gx t.eC (i:=k) cK;have Y:=Ex.ua B.2.1 (kE E);have J:=B.kid E;have Z:=J.end;have TZ:=a.rC;exact aV Wa u (C252 _ _ _ _ (N-1) _ (G.ext u.aG) hn J cK) (λ_ _ u=>Dr (aV KJ u (C251 _ _ _ (xs.length+1) _ (G.ext u.aG) cK cK cK) λ_ _ u=>aN cK ⟨_,cK,k+1,by rw[BW E],gO (ni .i64) (by rw[Z.1,uM E];omega),rfl,rfl,cK,u⟩))
termination_by N
decreasing_by omega
def C200(lv:Value)(xs:List cA)(w:World)(E:dC (λ_=>True) w lv xs)(hn:xs.length<=1048576)(G:∀x∈xs,x.name.size<=1048576):CR 200 [lv] w (λv w'=>v=.bool (fC xs)/\Ext w w'):=by
 have u:=St.start w;refine fg Tryz.func200 ?_;refine⟨λJ w'=>J=.bool (decide (40<xs.length)||decide (¬ qy xs 0=xs.length))/\St w aZ [] w',aK gX (E.ext u.aG) (cO (aC (λ_=>⟨vb dD,u⟩) λ_=>aV KJ u (C251 _ _ _ (xs.length+1) _ (E.ext u.aG) cK cK cK) λ_ _ u=>aK gX (E.ext u.aG) (bV ⟨vb dD,u⟩))),?_⟩;rintro _ _ ⟨rfl,u⟩ _;refine aY (λjF=>?_) (λjF=>?_)
 .refine⟨vb ?_,u.aG⟩;unfold fC;rw[EB]
  grind
 refine⟨λm x w1=>∃k:Nat,x=hZ (k:Int)/\m=xs.length-k/\k<=xs.length/\(∀y∈xs.take k,lj y=false)/\St w aZ [] w1,⟨_,0,rfl,rfl,l1 _,ei,u⟩,?_⟩;rintro m _ _ ⟨k,rfl,rfl,hk,O,u⟩ _;refine aK gX (E.ext u.aG) (aR (aC (λW=>?_) λW=>?_))
 .obtain⟨V,B⟩:=gx xs (i:=(k:Int).toNat) cK;refine aQ gX (E.ext u.aG) cK B (λ_ qC=>aD r7 qC (aM u yc λOY _ u=>aI (x:=V) u r7 rfl rfl λ_ u=>⟨λJ w'=>J=.bool (lj V)/\St w aZ [] w',aA r8 (aB bM u.hb rfl (aR (aC (λ_=>⟨vb (by unfold lj;grind),u.drop⟩) λlr=>aA r8 (aB bM u.hb rfl (cO (aC (λ_=>⟨vb (by unfold lj;grind),u.drop⟩) λmf=>?_)))))),?_⟩))
  .refine aA fa (aB bM u.hb rfl (bV (aC (λY=>aA jo (aB bM u.hb rfl (bV (aC (λ_=>⟨vb (by unfold lj;grind),u.drop⟩) λxe=>aA fa (aB bM u.hb rfl (bV (aC (λwZ=>aA gk (aB gw u.hb rfl (l9 (aC (λ_=>⟨vb (by unfold lj;grind),u.drop⟩) λLC=>?_)))) λwZ=>?_))))))) λY=>?_)))
   .refine aA jo (aB bM u.hb rfl (aR ?_));exact aC (λ_=>⟨vb (by unfold lj;grind),u.drop⟩) (λ_=>aA jo (aB bM u.hb rfl (cO (aC (λ_=>⟨vb (by unfold lj;grind),u.drop⟩) λ_=>aA fa (aB bM u.hb rfl (aH (aC (λ_=>aA gk (aB gw u.hb rfl (aV uy u (C211 _ _ (G _ (kE B))) λ_ _ u=>bR ⟨vb (by unfold lj;grind),u.drop⟩))) λ_=>⟨vb (by unfold lj;grind),u.drop⟩)))))))
   .refine aA jo (aB bM u.hb rfl (aR ?_));exact aC (λ_=>⟨vb (by unfold lj;grind),u.drop⟩) (λ_=>aA jo (aB bM u.hb rfl (cO (aC (λ_=>⟨vb (by unfold lj;grind),u.drop⟩) λ_=>aA fa (aB bM u.hb rfl (aH (aC (λ_=>aA gk (aB gw u.hb rfl (aV uy u (C211 _ _ (G _ (kE B))) λ_ _ u=>bR ⟨vb (by unfold lj;grind),u.drop⟩))) λ_=>⟨vb (by unfold lj;grind),u.drop⟩)))))))
   refine aA fa (aB bM u.hb rfl (bV (aC (λU=>aA gk (aB gw u.hb rfl (l9 (aC (λ_=>⟨vb (by unfold lj;grind),u.drop⟩) λZ=>?_)))) λU=>?_)))
   .refine aA jo (aB bM u.hb rfl (aR ?_));exact aC (λ_=>⟨vb (by unfold lj;grind),u.drop⟩) (λ_=>aA jo (aB bM u.hb rfl (cO (aC (λ_=>⟨vb (by unfold lj;grind),u.drop⟩) λ_=>aA fa (aB bM u.hb rfl (aH (aC (λ_=>aA gk (aB gw u.hb rfl (aV uy u (C211 _ _ (G _ (kE B))) λ_ _ u=>bR ⟨vb (by unfold lj;grind),u.drop⟩))) λ_=>⟨vb (by unfold lj;grind),u.drop⟩)))))))
   refine aA jo (aB bM u.hb rfl (aR ?_));exact aC (λ_=>⟨vb (by unfold lj;grind),u.drop⟩) (λ_=>aA jo (aB bM u.hb rfl (cO (aC (λ_=>⟨vb (by unfold lj;grind),u.drop⟩) λ_=>aA fa (aB bM u.hb rfl (aH (aC (λ_=>aA gk (aB gw u.hb rfl (aV uy u (C211 _ _ (G _ (kE B))) λ_ _ u=>bR ⟨vb (by unfold lj;grind),u.drop⟩))) λ_=>⟨vb (by unfold lj;grind),u.drop⟩)))))))
  rintro _ _ ⟨rfl,u⟩ _;refine aY (λM=>?_) (λM=>aN cK ⟨_,cK,k+1,rfl,rfl,cK,dZ O B M,u⟩);refine⟨vb ?_,u.aG⟩;unfold fC;rw[ic B M];simp
 have Xc:qy xs 0=xs.length:=dD
 have I:xs.length<=40:=dD
 obtain⟨t,ht⟩:=BE.of (xs:=xs) (i:=0) cK;have hz:=ht.zero Xc;refine aV Wa u (C252 _ _ _ t (t.size+1) _ (E.ext u.aG) hn ht cK) (λ_ he u=>iE ?_);rw[kO cK]at O;refine⟨vb ?_,u.aG⟩;unfold fC RX;rw[iD O,hz.2];simp[I]
theorem C272(lv nv:Value)(xs:List cA)(ns:List ByteArray)(i:Int)(t:Ex)(N:Nat)(w:World)(G:dC (λ_=>True) w lv xs)(hN:dC (λ_=>True) w nv ns)(hn:xs.length<=1048576)(BB:ns.length<=1048576)(E:BE xs i t)(hNt:t.size<N):CR 272 [lv,hZ i,nv] w (λv w'=>lh (bH v (t.steps ns)) w w'):=by
 obtain⟨B,hq,I⟩:∃e,e=t.root/\xs[(i).toNat]?=some e:=⟨_,rfl,E.root.1⟩;have hri:=E.root.2;have hie:=E.end;have Oa:=Ex.o8 E.2.1;rw[<- hq]at Oa;have W9:=tZ B.op;have hi0:=E.1;have u:=St.start w;refine fg Tryz.func272 ?_;refine bD ([]:List oA) u tD rfl rfl (dL rfl) (λM w1 u=>aN cK ?_);refine⟨λm Y a x w1=>∃k:Nat,a=hZ (i+1+qz t.eC k)/\x=hZ (k:Int)/\m=t.eC.length-k/\k<=t.eC.length/\St w aZ [bH Y (Xa ns t.eC k)] w1,⟨_,0,gO (ni .i64) (by simp[qz]),rfl,rfl,cK,u⟩,?_⟩;rintro m Y _ _ _ ⟨k,rfl,rfl,rfl,hk,u⟩ _
 refine aQ gX (G.ext u.aG) cK I (λ_ Lz=>bW B.op fa Lz rfl rfl λ_ uL=>aD bM uL (aV KL u (C273 _ _) λ_ he u=>aR (aC (λkT=>?_) λkT=>?_)))
 .obtain⟨a,J⟩:=gx t.eC (i:=k) cK;have hka:=Ex.ua E.2.1 (kE J);have TY:=E.kid J;have Vv:=TY.end;have TZ:=a.rC;have Z:=Du (ns:=ns) (ks:=t.eC) (k:=k);have T0:=Ex.pN ns a;refine dY afL u (C272 _ _ _ _ _ _ (N-1) _ (G.ext u.aG) (hN.ext u.aG) hn BB TY cK) (λx28 _ cL u=>?_);have O1:=u.dX;exact bJ u.p1 tD O1 cK ee (λ_ _ u=>have u:=u.p1.drop;aV KJ u (C251 _ _ _ (xs.length+1) _ (G.ext u.aG) cK cK cK) λ_ _ u=>aN cK ⟨_,cK,k+1,gO (ni .i64) (by rw[Vv.1,uM J];omega),rfl,rfl,cK,by rw[LB J];exact u⟩)
 have Z:=Du (ns:=ns) (ks:=t.eC) (k:=k);refine aQ gX (G.ext u.aG) cK I (λ_ LD=>bW B.n jo LD rfl rfl λ_ AR=>aD bM AR ⟨λjv w'=>jv=hZ (Ex.numOf ns B)/\St w aZ [bH Y (Xa ns t.eC k)] w',aQ gX (G.ext u.aG) cK I (λ_ Xd=>bW B.op fa Xd rfl rfl λ_ U=>aD bM U (aH (aC (λ_=>aQ gX (G.ext u.aG) cK I λ_ AS=>bW B.name gk AS rfl rfl λ_ LF=>aD gw LF (aV rT u (C123 _ ns _ _ (hN.ext u.aG) cK) λ_ _ u=>⟨gO (ni .i64) (by grind[Ex.numOf]),u⟩)) λ_=>⟨gO (ni .i64) (by grind[Ex.numOf]),u⟩))),?_⟩)
 rintro _ _ ⟨rfl,u⟩ _;refine aQ gX (G.ext u.aG) cK I (λ_ Xe=>bW B.op fa Xe rfl rfl λ_ AM=>aD bM AM (pop (Ei _ _) (bD ([(⟨B.op,(Ex.numOf ns B)⟩:oA)]) u tD rfl rfl (dL rfl) λV _ u=>?_)));have O:=u.dX;refine bJ u.p1 tD O (by rw[Z,mv];have:(t.steps ns).length=t.size:=Ex.pN ns t;rw[Ex.vr,la,mv,<- show k=t.eC.length from cK]at this;omega) ee (λW _ u=>?_);have u:=u.p1.drop;rw[Ex.vr,<- show k=t.eC.length from cK,<- hq];exact u.fresh
termination_by N
decreasing_by omega
def C220(lv V:Value)(xs:List cA)(ns:List ByteArray)(w:World)(B:dC (λ_=>True) w lv xs)(hN:dC (λ_=>True) w V ns)(hn:xs.length<=1048576)(BB:ns.length<=1048576)(RY:∀x∈xs,x.name.size<=1048576):CR 220 [lv,V] w (λv w'=>∃s,v=.tuple #[s,hZ (kW ns xs)]/\lh (bH s (qA ns xs)) w w'):=by
 have u:=St.start w;refine abX _ _ _ _ ?_;unfold S220;refine aV KI u (C200 _ _ _ (B.ext u.aG) hn RY) (λY he u=>bR (aY (λE=>?_) λE=>?_))
 .have h8:kW ns xs=8:=by unfold kW;rw[ew (by simpa using E)]
  refine⟨_,by rw[h8],?_⟩;unfold qA;rw[h8,ej ee];exact(u.eL (α:=oA)).fresh
 refine⟨λm x Y=>∃k:Nat,x=hZ (k:Int)/\m=xs.length-k/\k<=xs.length/\(∀y∈xs.take k,(decide (y.op=2)&&decide (cU ns y.name<0))=false)/\St w aZ [] Y,⟨_,0,rfl,rfl,l1 _,ei,u⟩,?_⟩;rintro m _ _ ⟨k,rfl,rfl,hk,U,u⟩ _;refine aK gX (B.ext u.aG) (aR (aC (λxd=>?_) λxd=>?_))
 .obtain⟨I,G⟩:=gx xs (i:=(k:Int).toNat) cK;refine⟨λjv w'=>jv=.bool (decide (I.op=2)&&decide (cU ns I.name<0))/\St w aZ [] w',aQ gX (B.ext u.aG) cK G (λ_ uL=>bW I.op fa uL rfl rfl λ_ lS=>aD bM lS (aH (aC (λ_=>aQ gX (B.ext u.aG) cK G λ_ xf=>bW I.name gk xf rfl rfl λ_ uN=>aD gw uN (aV rT u (C123 _ ns _ _ (hN.ext u.aG) cK) λ_ _ u=>aR ⟨vb dD,u⟩)) λ_=>⟨vb dD,u⟩))),?_⟩;rintro _ _ ⟨rfl,u⟩ _;refine aY (λJ=>?_) (λJ=>aN cK ⟨_,cK,k+1,rfl,rfl,cK,dZ U G J,u⟩)
  have W:kW ns xs=9:=by unfold kW;rw[ej (by simpa using E),ew (ic G J)]
  refine⟨_,by rw[W],?_⟩;unfold qA;rw[W,ej ee];exact(u.eL (α:=oA)).fresh
 have M:fC xs=true:=by simpa using E
 have Xc:=zA M;obtain⟨t,ht⟩:=BE.of (xs:=xs) (i:=0) cK;have hz:=ht.zero Xc;refine dY afL u (C272 _ _ _ _ _ t (t.size+1) _ (B.ext u.aG) (hN.ext u.aG) hn BB ht cK) (λO _ cL u=>?_);rw[kO cK]at U;have Z:kW ns xs=0:=by unfold kW;rw[ej (by simpa using E),ej (by rw[iD U];simp)]
 refine⟨O,by rw[Z],?_⟩;unfold qA BX;rw[ew Z,hz.2];exact u.fresh
end Go.Proofs.YtpdlpabnlkofmaaGreatDoor

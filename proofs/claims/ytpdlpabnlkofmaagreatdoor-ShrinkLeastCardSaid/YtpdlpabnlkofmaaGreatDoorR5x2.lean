/-
  Part 2.
-/
import Derived.Test.YtpdlpabnlkofmaaGreatDoorR5x1
set_option maxHeartbeats 8000000
set_option linter.all false
set_option maxRecDepth 100000
open Go.Fw.Flat renaming val->j0,enc->kp,sz->m8,len->zd,agg->IT,one->Zc,pos->Zd,nD->abh
open List renaming getElem?_eq_some_iff->kO,mem_of_getElem?->la,take_of_length_le->ld,getElem?_eq_getElem->l0,length_append->l1,length_take->l2,length_singleton->mv,append_assoc->n5,getD_eq_getElem?_getD->oj,length_cons->o1,append_nil->pd,take_append_drop->qa,length_drop->rf,replicate->sk,length_eq_zero_iff->sl,drop_drop->tj,take_add_one->tz,drop_eq_getElem_cons->u1,getElem?_append_left->u3,eraseIdx_eq_take_drop_succ->vE,map_append->vH,drop_eq_nil_of_le->vM,mem_singleton->wy,mem_of_mem_take->wM,foldl_append->FA,length_set->IA,getElem?_drop->Jo,map_map->Km,getElem_cons_drop->LQ,getElem?_cons_succ->Pl,toArray->PM,length_flatten->Xj
open Nat renaming zero_le->l6,le_refl->pb,zero_add->u4,le_trans->xe,min_eq_left->Gk,add_assoc->NS,add_zero->PK,mod_lt->abv,mod_le->abG
open Go.Instr renaming build->mL,sliceAt->ob,index->vp,sliceBounds->v7,loadAt->yx,fieldAt->G8,indexAt->H3,storeAt->KK,buildSlice->KN,slice->P3
open Option renaming bind_some->nj,some->oq,bind_eq_some_iff->Pc
open Go.Value renaming int->n3,bool->xl,slice->zH,tuple->Ej,string->H4,okWide->Nh,cells->VR
open Bool renaming and_eq_true->oi,false_eq_true->Oe
open Decidable renaming not_not->uh
open Int renaming tmod_nonneg->P6,natAbs_tmod->Up,le_total->Zs,natAbs_tdiv->aa2,neg_tmod->abA
open Go.World renaming cells?_some->Zo
namespace Go.Fw
section
variable {P:Program}{w w0:World}{A S:Nat->Prop}{L:List HP}
theorem bN{T:TypeId}{b o:Nat}{v:Value}{K:Value->Prop}(ht:Wp P T)(hb:Cell w b o v)(k:K v) :
  Kn P (yx T (.pointer (some ⟨b,o,none⟩))) w K:=⟨v,aF ht hb,k⟩
theorem cG{α:Type}[Flat α]{T:TypeId}{x:α}{K:Value->hM}(u:St w0 A L w)
  (k:∀b w',St w0 A (bY b (kp x)::L) w'->K (.pointer (some ⟨b,0,none⟩)) w'):rR P (Instr.box T (j0 x)) w K:=by
 refine⟨_,_,IW T _,k _ _ ?_⟩
 rw[pK]
 exact u.push
def Dc(a b:Int):Int:=((BitVec.ofInt 64 a &&& BitVec.ofInt 64 b).toNat:Int)
theorem Eo(a:Int){b:Int}(u:0<=b)(h1:b<=9223372036854775807):0<=Dc a b/\Dc a b<=b:=by
 unfold Dc
 refine⟨bO,?_⟩
 have h2:(BitVec.ofInt 64 a &&& BitVec.ofInt 64 b).toNat<=(BitVec.ofInt 64 b).toNat:=by
  rw[BitVec.toNat_and];exact Nat.and_le_right
 have h3:((BitVec.ofInt 64 b).toNat:Int)=b:=by
  rw[BitVec.toNat_ofInt]
  omega
 omega
theorem acu{T:Nat}{cx cy:Bool}{a b:Int}{K:Value->Prop}(u:0<=b)(h1:b<=9223372036854775807)(k:K (hZ (Dc a b))):eU P (kq .and T cx cy (hZ a) (hZ b)) K:=by
 refine⟨_,?_,k⟩
 show some (n3 .i64 (IntKind.i64.wrap ((BitVec.ofInt 64 a &&& BitVec.ofInt 64 b).toNat:Int)))=_
 have:=Eo a u h1
 unfold Dc at this |-
 rw[IntWalk.i64_in _ bO]
theorem yR{T:Nat}{a b:Bool}(h:P.underlying T=some .bool):pr P (Op.equal T (.bool a) (.bool b))=some (a == b):=by
 show pr P (Op.equalIn 10000 T (.bool a) (.bool b))=_
 unfold Op.equalIn
 rw[cX,cZ h]
 rfl
theorem Wq{T:Nat}{cx cy:Bool}{a b:Bool}{K:Value->Prop}(h:P.underlying T=some .bool)(k:K (.bool (a == b))):eU P (kq .eql T cx cy (.bool a) (.bool b)) K:=by
 refine⟨_,?_,k⟩
 show pr P (do pure (xl (<- Op.equal T (.bool a) (.bool b))))=_
 rw[yf,yR h];rfl
theorem sd{T:Nat}{cx cy:Bool}{a b:Bool}{K:Value->Prop}(h:P.underlying T=some .bool)(k:K (.bool (a != b))):eU P (kq .neq T cx cy (.bool a) (.bool b)) K:=by
 refine⟨_,?_,k⟩
 show pr P (do pure (xl (!(<- Op.equal T (.bool a) (.bool b)))))=_
 rw[yf _ (λb=>xl (!b)),yR h];rfl
theorem Gz{T e:Nat}{a:Option Addr}{n c:Nat}(h:P.underlying T=some (.slice e))(u:a=none->n=0/\c=0):pr P (Op.equal T (.slice a n c) (.slice none 0 0))=some a.isNone:=by
 show pr P (Op.equalIn 10000 T (.slice a n c) (.slice none 0 0))=_
 unfold Op.equalIn
 rw[cX,cZ h]
 cases a<;>rfl
theorem Wr{T e:Nat}{cx cy:Bool}{a:Option Addr}{n c:Nat}{K:Value->Prop}(h:P.underlying T=some (.slice e))(u:a=none->n=0/\c=0)(k:K (.bool a.isNone)):eU P (kq .eql T cx cy (.slice a n c) (.slice none 0 0)) K:=by
 refine⟨_,?_,k⟩
 show pr P (do pure (xl (<- Op.equal T (.slice a n c) (.slice none 0 0))))=_
 rw[yf,Gz h u];rfl
def nY:TypeDesc->Option Nat
 | .int .i64=>some 0
 | .bool=>some 1
 | .string=>some 2
 | _=>none
def ri:Value->Option Nat
 | .int .i64 _=>some 0
 | .bool _=>some 1
 | .string _=>some 2
 | _=>none
def eqV:Value->Value->Bool
 | .int _ a,.int _ b=>decide (a=b)
 | .bool a,.bool b=>a == b
 | .string a,.string b=>a == b
 | _,_=>false
def Az:List Value->List Value->Bool
 | a::x,b::y=>eqV a b&&Az x y
 | _,_=>true
def oz(P:Program):Nat->List Field->Option (List Nat)
 | _,[]=>some []
 | k,f::fs=>
  if f.name ≠ "_" /\ f.offset=k then
   match P.underlying f.type with
   | some d=>match nY d,oz P (k+1) fs with
    | some n,some r=>some (n::r)
    | _,_=>none
   | none=>none
  else none
def Ep(P:Program)(T:TypeId):Option (List Nat):=
 match P.underlying T with
 | some (.struct u)=>if P.stoodInHeld T=false/\P.eqGuardType P.depth T=false then oz P 0 u.toList else none
 | _=>none
def OT(d:Nat)(xs ys:Array Value):List Field->Sem Bool
 | []=>pure true
 | f::r => if f.name ≠ "_" then do
   let same <- Op.equalIn d f.type (<- part f.type xs f.offset) (<- part f.type ys f.offset)
   if (!same)=true then pure false else OT d xs ys r
  else OT d xs ys r
theorem Dd{T:TypeId}{d:TypeDesc}{n:Nat}(h:P.underlying T=some d)(u:nY d=some n):pr P (isAgg T)=some false:=by
 unfold isAgg
 rw[cX,cZ h]
 cases d<;>simp[nY]at u<;>rfl
theorem RH{T:TypeId}{d:TypeDesc}{n o:Nat}{cs:Array Value}{v:Value}(h:P.underlying T=some d)(B:nY d=some n)(u:cs[o]?=some v):pr P (part T cs o)=some v:=by
 unfold part
 rw[cX,Dd h B]
 simp only[nj,Oe,if_false,u]
 rfl
theorem Lb{k:Nat}{T:TypeId}{d:TypeDesc}{n:Nat}{a b:Value}(h:P.underlying T=some d)(B:nY d=some n)(u:ri a=some n)(hb:ri b=some n) :
  pr P (Op.equalIn (k+1) T a b)=some (eqV a b):=by
 unfold Op.equalIn
 rw[cX,cZ h]
 simp only[nj]
 cases d<;>simp only[nY]at B<;>try(cases B;done)
 case int kd=>
  cases kd<;>simp at B
  subst B
  cases a<;>simp only[ri]at u<;>try(cases u;done)
  rename_i ka na
  cases b<;>simp only[ri]at hb<;>try(cases hb;done)
  rename_i kb nb
  cases ka<;>simp at u
  cases kb<;>simp at hb
  rfl
 case bool=>
  cases B
  cases a<;>simp only[ri]at u<;>first|(rename_i ka na;cases ka<;>simp at u)|skip
  all_goals try(simp at u;done)
  cases b<;>simp only[ri]at hb<;>first|(rename_i kb nb;cases kb<;>simp at hb)|skip
  all_goals try(simp at hb;done)
  rfl
 case string=>
  cases B
  cases a<;>simp only[ri]at u<;>first|(rename_i ka na;cases ka<;>simp at u)|skip
  all_goals try(simp at u;done)
  cases b<;>simp only[ri]at hb<;>first|(rename_i kb nb;cases kb<;>simp at hb)|skip
  all_goals try(simp at hb;done)
  rfl
theorem Lc{k:Nat}{xs ys:List Value}:∀(u:List Field) (i:Nat) (ks:List Nat),oz P i u=some ks->(∀j n,ks[j]?=some n->∃a b,xs[i+j]?=some a/\ys[i+j]?=some b/\ri a=some n/\ri b=some n)->
  pr P (OT (k+1) xs.toArray ys.toArray u)=some (Az ((xs.drop i).take ks.length) ((ys.drop i).take ks.length)):=by
 intro u
 induction u with
 | nil=>intro i ks h _;simp only[oz,oq.injEq]at h;subst h;simp[OT,Az];rfl
 | cons f u O=>
  intro i ks h I
  unfold oz at h
  split at h
  .rename_i hf
   cases hu:P.underlying f.type with
   | none=>grind
   | some d=>
    rw[hu]at h
    dsimp only at h
    cases hd:nY d with
    | none=>grind
    | some n=>
     rw[hd]at h
     cases hr:oz P (i+1) u with
     | none=>grind
     | some r=>
      rw[hr]at h
      simp only[oq.injEq]at h
      subst h
      obtain⟨a,b,B,hb,M,J⟩:=I 0 n rfl
      rw[PK]at B hb
      have E:xs.drop i=a::xs.drop (i+1):=by
       rw[<- LQ (kO.1 B).1,(kO.1 B).2]
      have G:ys.drop i=b::ys.drop (i+1):=by
       rw[<- LQ (kO.1 hb).1,(kO.1 hb).2]
      have U:=O (i+1) r hr λj m Y=>by
       obtain⟨W,V,h1,h2,h3,h4⟩:=I (j+1) m cL
       grind
      unfold OT
      rw[ej hf.1,cX,RH hu hd (v:=a) cL]
      simp only[nj]
      rw[cX,RH hu hd (v:=b) cL]
      simp only[nj]
      rw[cX,Lb hu hd M J]
      simp only[nj,o1,E,G,List.take_succ_cons,Az]
      cases he:eqV a b with
      | false=>rfl
      | true=>grind
  .cases h
theorem AA{d:Nat}{t:TypeId}{u:Array Field}{xs ys:Array Value}(ht:P.underlying t=some (.struct u))(E:P.stoodInHeld t=false) :
  pr P (Op.equalIn (d+1) t (.agg xs) (.agg ys))=pr P (OT d xs ys u.toList):=by
 unfold Op.equalIn
 rw[cX,cZ ht]
 simp only[nj,cX]
 rw[show pr P program=some P from rfl]
 simp only[nj,E,Oe,if_false]
 rw[<- Array.forIn_toList]
 generalize u.toList=l
 clear ht
 induction l with
 | nil=>rfl
 | cons f l B=>
  rw[cX]at B
  simp only[List.forIn_cons,OT,cX]
  split
  .simp only[cX]
   cases pr P (part f.type xs f.offset)with
   | none=>rfl
   | some a=>
    simp only[nj]
    cases pr P (part f.type ys f.offset)with
    | none=>rfl
    | some b=>
     simp only[nj]
     cases pr P (Op.equalIn d f.type a b)with
     | none=>rfl
     | some r=>
      cases r
      .rfl
      .simp only[nj,Bool.not_true,Oe,if_false,fS]
       exact B
  .simp only[fS,nj]
   exact B
theorem I0{T:TypeId}{ks:List Nat}{xs ys:List Value}(h:Ep P T=some ks)(B:xs.map ri=ks.map some)(u:ys.map ri=ks.map some) :
  pr P (Op.equal T (.agg xs.toArray) (.agg ys.toArray))=some (Az xs ys)/\P.eqGuardType P.depth T=false:=by
 unfold Ep at h
 split at h
 .rename_i fs hfs
  split at h
  .rename_i hc
   refine⟨?_,hc.2⟩
   show pr P (Op.equalIn 10000 T _ _)=_
   rw[AA hfs hc.1]
   have G:xs.length=ks.length:=by have:=gQ List.length B;grind
   have E:ys.length=ks.length:=by have:=gQ List.length u;grind
   rw[Lc (xs:=xs) (ys:=ys) fs.toList 0 ks h λj n I=>?_]
   .grind
   have J:j<ks.length:=(kO.1 I).1
   refine⟨xs[j]'(bO),ys[j]'(bO),ee,ee,?_,?_⟩
   .have:=gQ (λl=>l[j]?) B
    grind
   have:=gQ (λl=>l[j]?) u
   grind
  cases h
 cases h
theorem TS{T:Nat}{cx cy:Bool}{ks:List Nat}{xs ys:List Value}{K:Value->Prop}(h:Ep P T=some ks)(B:xs.map ri=ks.map some)(u:ys.map ri=ks.map some)(k:K (.bool (Az xs ys))) :
  eU P (kq .eql T cx cy (.agg xs.toArray) (.agg ys.toArray)) K:=by
 obtain⟨h1,h2⟩:=I0 h B u
 refine⟨_,?_,k⟩
 show pr P (if P.eqGuardType P.depth T=true then stuck "an interface in a part" else(do pure (xl (<- Op.equal T (.agg xs.toArray) (.agg ys.toArray))) : Sem Value))=_
 rw[h2,ei ee,yf,h1];rfl
theorem Hf{T:Nat}{cx cy:Bool}{ks:List Nat}{xs ys:List Value}{K:Value->Prop}{p:Prop}[Decidable p](h:Ep P T=some ks)(E:xs.map ri=ks.map some)(u:ys.map ri=ks.map some)
  (B:Az xs ys=decide p) (k:K (.bool (decide p))):eU P (kq .eql T cx cy (.agg xs.toArray) (.agg ys.toArray)) K:=TS h E u (B▸k)
end
end Go.Fw
namespace Go.Proofs.YtpdlpabnlkofmaaGreatDoor
open Go.Fw
def bL:dF hH 3=some (false,1):=by kernel_rfl
def uG:et hH 3=some (some (hZ 0)):=by kernel_rfl
def Ld:Tryz.prog.underlying 3=some (.int .i64):=by kernel_rfl
def AB:dF hH 4=some (false,1):=by kernel_rfl
def Ws:et hH 4=some (some (.bool false)):=by kernel_rfl
def Le:Tryz.prog.underlying 4=some (.bool):=by kernel_rfl
def avk:Tryz.prog.underlying 5=some (.int .u8):=by kernel_rfl
def gA:dF hH 9=some (false,1):=by kernel_rfl
def afW:et hH 9=some (some (.string ⟨#[]⟩)):=by kernel_rfl
def iq:Tryz.prog.underlying 9=some (.string):=by kernel_rfl
def oS:dF hH 22=some (false,1):=by kernel_rfl
def pL:eQ hH 22=some (23,1,24,some 1):=by kernel_rfl
def jO:dF hH 23=some (false,1):=by kernel_rfl
def iu:eQ hH 23=some (161,3,32,some 3):=by kernel_rfl
def iC:dF hH 24=some (false,1):=by kernel_rfl
def fx:eQ hH 24=some (146,4,72,some 4):=by kernel_rfl
def qX:dF hH 25=some (false,1):=by kernel_rfl
def tn:eQ hH 25=some (85,2,32,some 2):=by kernel_rfl
def eg:dF hH 27=some (true,6):=by kernel_rfl
def gB:aU hH 27 0=some (0,some true):=by kernel_rfl
def qi:aU hH 27 1=some (1,some true):=by kernel_rfl
def nT:aU hH 27 2=some (2,some true):=by kernel_rfl
def kI:aU hH 27 3=some (3,some true):=by kernel_rfl
def oT:aU hH 27 4=some (4,some true):=by kernel_rfl
def jx:aU hH 27 5=some (5,some true):=by kernel_rfl
def vr:et hH 27=some (some (.agg [.slice none 0 0,.slice none 0 0,.slice none 0 0,.slice none 0 0,.slice none 0 0,.slice none 0 0].toArray)):=by kernel_rfl
def jP:dF hH 31=some (false,1):=by kernel_rfl
def ahQ:et hH 31=some (some (hZ 0)):=by kernel_rfl
def I1:dF hH 39=some (false,1):=by kernel_rfl
def fO:eQ hH 39=some (50,4,48,some 4):=by kernel_rfl
def ahR:et hH 39=some (some (.slice none 0 0)):=by kernel_rfl
def qt:dF hH 40=some (false,1):=by kernel_rfl
def eh:dF hH 41=some (false,1):=by kernel_rfl
def cS:eQ hH 41=some (3,1,8,some 1):=by kernel_rfl
def ahS:et hH 41=some (some (.slice none 0 0)):=by kernel_rfl
def Er:dF hH 42=some (false,1):=by kernel_rfl
def GA:eQ hH 42=some (129,1,8,some 1):=by kernel_rfl
def oU:aU hH 44 0=some (0,some true):=by kernel_rfl
def RI:aU hH 44 1=some (6,some true):=by kernel_rfl
def DB:aU hH 44 2=some (7,some true):=by kernel_rfl
def tF:aU hH 44 3=some (8,some true):=by kernel_rfl
def vt:aU hH 44 4=some (9,some true):=by kernel_rfl
def oV:aU hH 44 5=some (10,some true):=by kernel_rfl
def yh:aU hH 44 6=some (11,some true):=by kernel_rfl
def RJ:aU hH 44 7=some (12,some true):=by kernel_rfl
def j8:dF hH 50=some (true,4):=by kernel_rfl
def mZ:aU hH 50 0=some (0,some true):=by kernel_rfl
def lG:aU hH 50 1=some (1,some true):=by kernel_rfl
def qj:aU hH 50 2=some (2,some true):=by kernel_rfl
def me:aU hH 50 3=some (3,some true):=by kernel_rfl
def B2:et hH 50=some (some (.agg [hZ 0,hZ 0,hZ 0,.slice none 0 0].toArray)):=by kernel_rfl
def fo:dF hH 56=some (true,5):=by kernel_rfl
def acv:aU hH 56 0=some (0,some true):=by kernel_rfl
def RK:aU hH 56 1=some (1,some true):=by kernel_rfl
def mz:et hH 56=some (some (.agg [hZ 0,hZ 0,hZ 0,hZ 0,hZ 0].toArray)):=by kernel_rfl
def eO:dF hH 63=some (true,4):=by kernel_rfl
def jy:aU hH 63 0=some (0,some true):=by kernel_rfl
def qk:aU hH 63 1=some (1,some true):=by kernel_rfl
def RL:aU hH 63 2=some (2,some true):=by kernel_rfl
def RM:aU hH 63 3=some (3,some true):=by kernel_rfl
def gd:et hH 63=some (some (.agg [hZ 0,hZ 0,hZ 0,.slice none 0 0].toArray)):=by kernel_rfl
def acw:eQ hH 72=some (56,5,40,some 5):=by kernel_rfl
def jz:dF hH 82=some (false,1):=by kernel_rfl
def gY:eQ hH 82=some (164,4,40,some 4):=by kernel_rfl
def I2:dF hH 85=some (true,2):=by kernel_rfl
def vu:aU hH 85 0=some (0,some true):=by kernel_rfl
def I3:aU hH 85 1=some (1,some true):=by kernel_rfl
def OU:et hH 85=some (some (.agg [.slice none 0 0,hZ 0].toArray)):=by kernel_rfl
def AD:dF hH 88=some (false,1):=by kernel_rfl
def jj:dF hH 91=some (false,1):=by kernel_rfl
def iD:eQ hH 91=some (9,1,16,some 1):=by kernel_rfl
def ahT:et hH 91=some (some (.slice none 0 0)):=by kernel_rfl
def Lf:dF hH 93=some (false,1):=by kernel_rfl
def I4:dF hH 94=some (false,1):=by kernel_rfl
def Lg:eQ hH 94=some (135,1,8,some 1):=by kernel_rfl
def DC:aU hH 96 0=some (0,some true):=by kernel_rfl
def I5:aU hH 96 1=some (6,some true):=by kernel_rfl
def I6:aU hH 96 2=some (7,some true):=by kernel_rfl
def acx:aU hH 96 3=some (8,some true):=by kernel_rfl
def tG:aU hH 96 4=some (9,some true):=by kernel_rfl
def vv:aU hH 96 5=some (10,some true):=by kernel_rfl
def vw:aU hH 96 6=some (11,some true):=by kernel_rfl
def I7:aU hH 96 7=some (12,some true):=by kernel_rfl
def yi:aU hH 96 8=some (13,some true):=by kernel_rfl
def RN:aU hH 96 9=some (14,some true):=by kernel_rfl
def yS:dF hH 103=some (false,1):=by kernel_rfl
def yT:dF hH 114=some (true,5):=by kernel_rfl
def Lh:aU hH 114 0=some (0,some true):=by kernel_rfl
def AE:aU hH 114 1=some (1,some true):=by kernel_rfl
def qu:aU hH 114 3=some (3,some true):=by kernel_rfl
def qw:aU hH 114 4=some (4,some true):=by kernel_rfl
def yj:et hH 114=some (some (.agg [hZ 0,hZ 0,hZ 0,.bool false,.bool false].toArray)):=by kernel_rfl
def uH:eQ hH 117=some (4,1,1,some 1):=by kernel_rfl
def tH:dF hH 120=some (false,1):=by kernel_rfl
def tI:eQ hH 120=some (125,3,24,some 3):=by kernel_rfl
def uI:aU hH 122 0=some (0,some true):=by kernel_rfl
def Wt:aU hH 122 1=some (1,some true):=by kernel_rfl
def se:aU hH 122 2=some (2,some true):=by kernel_rfl
def AF:aU hH 122 3=some (3,some true):=by kernel_rfl
def kQ:aU hH 122 4=some (4,some true):=by kernel_rfl
def Wu:dF hH 125=some (true,3):=by kernel_rfl
def wT:aU hH 125 0=some (0,some true):=by kernel_rfl
def Li:aU hH 125 1=some (1,some true):=by kernel_rfl
def Lj:aU hH 125 2=some (2,some true):=by kernel_rfl
def acy:et hH 125=some (some (.agg [hZ 0,hZ 0,hZ 0].toArray)):=by kernel_rfl
def Hg:eQ hH 126=some (41,1,24,some 1):=by kernel_rfl
def Hh:dF hH 129=some (false,1):=by kernel_rfl
def uJ:dF hH 130=some (false,1):=by kernel_rfl
def nE:eQ hH 130=some (218,12,176,some 12):=by kernel_rfl
def kR:aU hH 132 0=some (0,some true):=by kernel_rfl
def Lk:aU hH 132 1=some (1,some true):=by kernel_rfl
def Ll:aU hH 132 2=some (2,some true):=by kernel_rfl
def nF:aU hH 132 3=some (3,some true):=by kernel_rfl
def wU:aU hH 132 4=some (4,some true):=by kernel_rfl
def Hi:dF hH 135=some (false,1):=by kernel_rfl
def sf:dF hH 136=some (false,1):=by kernel_rfl
def uK:eQ hH 136=some (143,2,32,some 2):=by kernel_rfl
def oW:aU hH 138 0=some (0,some true):=by kernel_rfl
def AG:aU hH 138 1=some (1,some true):=by kernel_rfl
def AH:aU hH 138 2=some (2,some true):=by kernel_rfl
def jQ:aU hH 138 3=some (3,some true):=by kernel_rfl
def wV:aU hH 138 4=some (4,some true):=by kernel_rfl
def jR:dF hH 141=some (false,1):=by kernel_rfl
def fq:eQ hH 141=some (193,9,120,some 9):=by kernel_rfl
def Lm:aU hH 143 0=some (0,some true):=by kernel_rfl
def Wv:aU hH 143 1=some (1,some true):=by kernel_rfl
def nc:dF hH 146=some (true,4):=by kernel_rfl
def qx:aU hH 146 0=some (0,some true):=by kernel_rfl
def fT:aU hH 146 1=some (1,some true):=by kernel_rfl
def lL:aU hH 146 2=some (2,some true):=by kernel_rfl
def qy:aU hH 146 3=some (3,some true):=by kernel_rfl
def tJ:et hH 146=some (some (.agg [.string ⟨#[]⟩,.slice none 0 0,.slice none 0 0,hZ 0].toArray)):=by kernel_rfl
def mf:dF hH 161=some (true,3):=by kernel_rfl
def kS:aU hH 161 0=some (0,some true):=by kernel_rfl
def sg:aU hH 161 1=some (1,some true):=by kernel_rfl
def uL:aU hH 161 2=some (2,some true):=by kernel_rfl
def oX:et hH 161=some (some (.agg [.string ⟨#[]⟩,hZ 0,hZ 0].toArray)):=by kernel_rfl
def si:dF hH 164=some (true,4):=by kernel_rfl
def fa:aU hH 164 0=some (0,some true):=by kernel_rfl
def jq:aU hH 164 1=some (1,some true):=by kernel_rfl
def gm:aU hH 164 2=some (2,some true):=by kernel_rfl
def sj:aU hH 164 3=some (3,some true):=by kernel_rfl
def yk:et hH 164=some (some (.agg [hZ 0,hZ 0,.string ⟨#[]⟩,hZ 0].toArray)):=by kernel_rfl
def Hj:dF hH 165=some (false,1):=by kernel_rfl
def RO:et hH 165=some (some (.map none)):=by kernel_rfl
def anR:dF hH 177=some (true,3):=by kernel_rfl
def Ww:aU hH 177 0=some (0,some true):=by kernel_rfl
def Wx:aU hH 177 1=some (1,some true):=by kernel_rfl
def Wy:aU hH 177 2=some (2,some true):=by kernel_rfl
def acz:et hH 177=some (some (.agg [.string ⟨#[]⟩,hZ 0,.slice none 0 0].toArray)):=by kernel_rfl
def iO:dF hH 179=some (false,1):=by kernel_rfl
theorem fU:eQ hH 179=some (231,4,32,some 4):=by kernel_rfl
def Wz:aU hH 181 0=some (0,some true):=by kernel_rfl
def kT:aU hH 181 1=some (1,some true):=by kernel_rfl
def yU:dF hH 185=some (false,1):=by kernel_rfl
def wW:aU hH 187 0=some (0,some true):=by kernel_rfl
def WA:aU hH 187 1=some (1,some true):=by kernel_rfl
def sm:aU hH 187 2=some (2,some true):=by kernel_rfl
def AI:aU hH 187 3=some (3,some true):=by kernel_rfl
def sn:aU hH 187 4=some (4,some true):=by kernel_rfl
def eN:dF hH 193=some (true,9):=by kernel_rfl
def dO:aU hH 193 0=some (0,some true):=by kernel_rfl
def iH:aU hH 193 1=some (1,some true):=by kernel_rfl
def gh:aU hH 193 2=some (2,some true):=by kernel_rfl
def iX:aU hH 193 3=some (3,some true):=by kernel_rfl
def j9:aU hH 193 4=some (4,some true):=by kernel_rfl
def jS:aU hH 193 5=some (5,some true):=by kernel_rfl
def iY:aU hH 193 6=some (6,some true):=by kernel_rfl
def iI:aU hH 193 7=some (7,some true):=by kernel_rfl
def lM:aU hH 193 8=some (8,some true):=by kernel_rfl
def jA:et hH 193=some (some (.agg [hZ 0,.string ⟨#[]⟩,.string ⟨#[]⟩,.slice none 0 0,.slice none 0 0,hZ 0,hZ 0,hZ 0,hZ 0].toArray)):=by kernel_rfl
def WB:aU hH 196 0=some (0,some true):=by kernel_rfl
def g8:aU hH 196 1=some (1,some true):=by kernel_rfl
def jr:dF hH 198=some (false,1):=by kernel_rfl
def fM:eQ hH 198=some (209,4,40,some 4):=by kernel_rfl
def kc:aU hH 203 0=some (0,some true):=by kernel_rfl
def fy:aU hH 203 1=some (1,some true):=by kernel_rfl
def mA:aU hH 203 2=some (2,some true):=by kernel_rfl
def wX:aU hH 203 3=some (3,some true):=by kernel_rfl
def afX:dF hH 209=some (true,4):=by kernel_rfl
def lO:aU hH 209 0=some (0,some true):=by kernel_rfl
def nG:aU hH 209 1=some (1,some true):=by kernel_rfl
def so:aU hH 209 2=some (2,some true):=by kernel_rfl
def lP:aU hH 209 3=some (3,some true):=by kernel_rfl
def acA:et hH 209=some (some (.agg [hZ 0,.string ⟨#[]⟩,hZ 0,hZ 0].toArray)):=by kernel_rfl
def Ln:dF hH 218=some (true,12):=by kernel_rfl
def oY:aU hH 218 0=some (0,some true):=by kernel_rfl
def Lo:aU hH 218 1=some (9,some true):=by kernel_rfl
def WC:aU hH 218 2=some (10,some true):=by kernel_rfl
def Lp:aU hH 218 3=some (11,some true):=by kernel_rfl
def RP:et hH 218=some (some (.agg [hZ 0,.string ⟨#[]⟩,.string ⟨#[]⟩,.slice none 0 0,.slice none 0 0,hZ 0,hZ 0,hZ 0,hZ 0,.slice none 0 0,.slice none 0 0,.bool false].toArray)):=by kernel_rfl
def CN:eQ hH 224=some (227,2,16,some 2):=by kernel_rfl
def AJ:et hH 224=some (some (.slice none 0 0)):=by kernel_rfl
def RQ:dF hH 227=some (true,2):=by kernel_rfl
def Lq:aU hH 227 0=some (0,some true):=by kernel_rfl
def Lr:aU hH 227 1=some (1,some true):=by kernel_rfl
def RR:et hH 227=some (some (.agg [hZ 0,hZ 0].toArray)):=by kernel_rfl
def ix:dF hH 231=some (true,4):=by kernel_rfl
def gK:aU hH 231 0=some (0,some true):=by kernel_rfl
def g9:aU hH 231 1=some (1,some true):=by kernel_rfl
def mB:aU hH 231 2=some (2,some true):=by kernel_rfl
def oZ:aU hH 231 3=some (3,some true):=by kernel_rfl
def rG:et hH 231=some (some (.agg [hZ 0,hZ 0,hZ 0,hZ 0].toArray)):=by kernel_rfl
def RS:dF hH 249=some (false,1):=by kernel_rfl
def acB:et hH 249=some (some (.nilFunc)):=by kernel_rfl
def tK:eQ hH 277=some (320,2,16,some 2):=by kernel_rfl
def wY:dF hH 288=some (false,1):=by kernel_rfl
def Ls:eQ hH 300=some (24,1,24,some 1):=by kernel_rfl
def iJ:aU hH 305 0=some (0,some true):=by kernel_rfl
def fb:aU hH 305 1=some (1,some true):=by kernel_rfl
def kU:aU hH 305 2=some (2,some true):=by kernel_rfl
def AK:aU hH 305 3=some (3,some true):=by kernel_rfl
def qz:aU hH 305 4=some (4,some true):=by kernel_rfl
def fY:dF hH 308=some (true,4):=by kernel_rfl
def sq:aU hH 308 0=some (0,some true):=by kernel_rfl
def o0:aU hH 308 1=some (1,some true):=by kernel_rfl
def uM:aU hH 308 2=some (2,some true):=by kernel_rfl
def WD:aU hH 308 3=some (3,some true):=by kernel_rfl
def tL:et hH 308=some (some (.agg [.slice none 0 0,hZ 0,hZ 0,hZ 0].toArray)):=by kernel_rfl
def qA:aU hH 316 0=some (0,some true):=by kernel_rfl
def uN:aU hH 318 0=some (0,some true):=by kernel_rfl
def Lt:aU hH 318 1=some (1,some true):=by kernel_rfl
def acC:et hH 318=some (some (.agg [.slice none 0 0,hZ 0].toArray)):=by kernel_rfl
def Es:dF hH 320=some (true,2):=by kernel_rfl
def nH:aU hH 320 0=some (0,some true):=by kernel_rfl
def qB:aU hH 320 1=some (1,some true):=by kernel_rfl
def I8:et hH 320=some (some (.agg [hZ 0,hZ 0].toArray)):=by kernel_rfl
def WE:dF hH 348=some (true,16):=by kernel_rfl
def RT:et hH 348=some (some (.agg [.nilFunc,.nilFunc,.nilFunc,.nilFunc,.nilFunc,.nilFunc,.nilFunc,.nilFunc,.nilFunc,.nilFunc,.nilFunc,.nilFunc,.nilFunc,.nilFunc,.nilFunc,.nilFunc].toArray)):=by kernel_rfl
def anS:dF hH 361=some (false,1):=by kernel_rfl
def afY:dF hH 364=some (true,15):=by kernel_rfl
def acD:et hH 364=some (some (.agg [.string ⟨#[]⟩,.string ⟨#[]⟩,.string ⟨#[]⟩,.string ⟨#[]⟩,.string ⟨#[]⟩,.string ⟨#[]⟩,.string ⟨#[]⟩,.string ⟨#[]⟩,.string ⟨#[]⟩,.string ⟨#[]⟩,.string ⟨#[]⟩,.string ⟨#[]⟩,.string ⟨#[]⟩,.string ⟨#[]⟩,.string ⟨#[]⟩].toArray)):=by kernel_rfl
def nI(J:Option Addr)(I V:Nat)(W:Option Addr)(u G:Nat)(E:Option Addr)(U Y:Nat)(M:Option Addr)(O B:Nat):pr hH (mL 27 [(1,.slice J I V),(2,.slice W u G),(3,.slice E U Y),(4,.slice M O B)].toArray)=some (.agg [.slice none 0 0,.slice J I V,.slice W u G,.slice E U Y,.slice M O B,.slice none 0 0].toArray):=by kernel_rfl
def Hk(u:Option Addr)(G E:Nat)(B:Int):pr hH (mL 85 [(0,.slice u G E),(1,hZ B)].toArray)=some (.agg [.slice u G E,hZ B].toArray):=by kernel_rfl
def OV(u:Option Addr)(G J:Nat)(E:Option Addr)(B I:Nat):pr hH (mL 122 [(0,.slice u G J),(1,.slice E B I)].toArray)=some (.agg [.slice u G J,.slice E B I,.slice none 0 0,.slice none 0 0,.slice none 0 0].toArray):=by kernel_rfl
def I9(u:Int)(B:Int)(E:Int):pr hH (mL 125 [(0,hZ u),(1,hZ B),(2,hZ E)].toArray)=some (.agg [hZ u,hZ B,hZ E].toArray):=by kernel_rfl
def OW(B:ByteArray)(u:Int):pr hH (mL 146 [(0,.string B),(3,hZ u)].toArray)=some (.agg [.string B,.slice none 0 0,.slice none 0 0,hZ u].toArray):=by kernel_rfl
def AL(u:ByteArray)(E:Int)(G:Option Addr)(B I:Nat):pr hH (mL 146 [(0,.string u),(3,hZ E),(2,.slice G B I)].toArray)=some (.agg [.string u,.slice none 0 0,.slice G B I,hZ E].toArray):=by kernel_rfl
def WG(u:Int):pr hH (mL 146 [(3,hZ u)].toArray)=some (.agg [.string ⟨#[]⟩,.slice none 0 0,.slice none 0 0,hZ u].toArray):=by kernel_rfl
def acE:pr hH (mL 161 [].toArray)=some (.agg [.string ⟨#[]⟩,hZ 0,hZ 0].toArray):=by kernel_rfl
def Et(u:ByteArray)(B:Int):pr hH (mL 161 [(0,.string u),(2,hZ B)].toArray)=some (.agg [.string u,hZ 0,hZ B].toArray):=by kernel_rfl
def Ja(B:Int)(E:Int)(u:Int):pr hH (mL 164 [(0,hZ B),(1,hZ E),(3,hZ u)].toArray)=some (.agg [hZ B,hZ E,.string ⟨#[]⟩,hZ u].toArray):=by kernel_rfl
def Jb(B:Int)(E:ByteArray)(u:Int):pr hH (mL 164 [(0,hZ B),(2,.string E),(3,hZ u)].toArray)=some (.agg [hZ B,hZ 0,.string E,hZ u].toArray):=by kernel_rfl
def Eu(B:Int)(u:Int):pr hH (mL 164 [(0,hZ B),(3,hZ u)].toArray)=some (.agg [hZ B,hZ 0,.string ⟨#[]⟩,hZ u].toArray):=by kernel_rfl
def WH(u:Int):pr hH (mL 181 [(0,hZ u)].toArray)=some (.agg [hZ u,.slice none 0 0].toArray):=by kernel_rfl
def Ev(u:Option Addr)(I U:Nat)(G:Option Addr)(E M:Nat)(O:Option Addr)(B V:Nat)(J:Option Nat):pr hH (mL 187 [(0,.slice u I U),(1,.slice G E M),(2,.slice O B V),(4,.map J)].toArray)=some (.agg [.slice u I U,.slice G E M,.slice O B V,.slice none 0 0,.map J].toArray):=by kernel_rfl
def OX(u:Int)(B:Int):pr hH (mL 193 [(0,hZ u),(8,hZ B)].toArray)=some (.agg [hZ u,.string ⟨#[]⟩,.string ⟨#[]⟩,.slice none 0 0,.slice none 0 0,hZ 0,hZ 0,hZ 0,hZ B].toArray):=by kernel_rfl
def WI(u:Int):pr hH (mL 196 [(0,hZ u)].toArray)=some (.agg [hZ u,.slice none 0 0].toArray):=by kernel_rfl
def WJ(u:Option Addr)(E B:Nat):pr hH (mL 203 [(0,.slice u E B)].toArray)=some (.agg [.slice u E B,hZ 0,hZ 0,hZ 0].toArray):=by kernel_rfl
def WK(u:Int):pr hH (mL 209 [(3,hZ u)].toArray)=some (.agg [hZ 0,.string ⟨#[]⟩,hZ 0,hZ u].toArray):=by kernel_rfl
def OY(u:Int)(B:Int):pr hH (mL 227 [(0,hZ u),(1,hZ B)].toArray)=some (.agg [hZ u,hZ B].toArray):=by kernel_rfl
def yl:pr hH (mL 231 [].toArray)=some (.agg [hZ 0,hZ 0,hZ 0,hZ 0].toArray):=by kernel_rfl
def AM(u:Int):pr hH (mL 231 [(0,hZ u)].toArray)=some (.agg [hZ u,hZ 0,hZ 0,hZ 0].toArray):=by kernel_rfl
def OZ(u:Option Addr)(G E:Nat)(B:Int):pr hH (mL 305 [(0,.slice u G E),(1,hZ B)].toArray)=some (.agg [.slice u G E,hZ B,hZ 0,hZ 0,.slice none 0 0].toArray):=by kernel_rfl
def zC(u:Option Addr)(G E:Nat)(B:Int):pr hH (mL 308 [(0,.slice u G E),(1,hZ B)].toArray)=some (.agg [.slice u G E,hZ B,hZ 0,hZ 0].toArray):=by kernel_rfl
def O0(B:Int)(u:Int):pr hH (mL 308 [(2,hZ B),(3,hZ u)].toArray)=some (.agg [.slice none 0 0,hZ 0,hZ B,hZ u].toArray):=by kernel_rfl
def Ew(u:Int)(B:Int):pr hH (mL 320 [(0,hZ u),(1,hZ B)].toArray)=some (.agg [hZ u,hZ B].toArray):=by kernel_rfl
def WL:Ep hH 231=some [0,0,0,0]:=by kernel_rfl
end Go.Proofs.YtpdlpabnlkofmaaGreatDoor
namespace Go.Fw
def sep(H1 H2:HP):HP where
 p w F:=∃B u,H1.p w B/\H2.p w u/\(∀b,B b->¬ u b)/\∀b,F b↔B b\/u b
 loc w w' F h hh:=by
  obtain⟨B,u,h1,h2,h3,h4⟩:=h
  exact⟨B,u,H1.loc _ _ _ h1 λb hb=>hh b ((h4 b).2 (.inl hb)),H2.loc _ _ _ h2 λb hb=>hh b ((h4 b).2 (.inr hb)),h3,h4⟩
 lt w F b h hb:=by
  obtain⟨B,u,h1,h2,h3,h4⟩:=h
  rcases(h4 b).1 hb with hf|hf
  .exact H1.lt _ _ _ h1 hf
  .exact H2.lt _ _ _ h2 hf
def pM{α:Type}(H:α->HP):HP where
 p w F:=∃x,(H x).p w F
 loc w w' F h hh:=by obtain⟨x,h⟩:=h;exact⟨x,(H x).loc _ _ _ h hh⟩
 lt w F b h hb:=by obtain⟨x,h⟩:=h;exact(H x).lt _ _ _ h hb
def fact(φ:Prop)(H:HP):HP where
 p w F:=φ/\H.p w F
 loc w w' F h hh:=⟨h.1,H.loc _ _ _ h.2 hh⟩
 lt w F b h hb:=H.lt _ _ _ h.2 hb
def emp:HP where
 p _ F:=∀b,¬ F b
 loc _ _ _ h _:=h
 lt _ _ b h hb:=(h b hb).elim
section
variable {P:Program}{w w0 w':World}{A:Nat->Prop}{L:List HP}{H H1 H2:HP}
theorem St.split(h:St w0 A (sep H1 H2::L) w):St w0 A (H1::H2::L) w:=by
 obtain⟨U,F,G,⟨M,B,J,I,O,u⟩,h2,h3,h4,h5⟩:=h.uc
 refine⟨h.aG,U,M,λb=>B b\/G b,J,λb hb=>h2 b ((u b).2 (.inl hb)),λb hb E=>?_,λb=>?_,B,G,I,λb hb=>h2 b ((u b).2 (.inr hb)),λb hb E=>h3 b ((u b).2 (.inr hb)) E,λb=>Iff.rfl,h5⟩
 .grind
 grind
theorem St.join(h:St w0 A (H1::H2::L) w):St w0 A (sep H1 H2::L) w:=by
 obtain⟨U,F,O,h1,h2,h3,h4,u,M,E,J,W,G,B⟩:=h.uc
 refine⟨h.aG,U,λb=>F b\/u b,M,⟨F,u,h1,E,λb hb I=>h3 b hb ((G b).2 (.inl I)),λb=>Iff.rfl⟩,λb hb=>hb.elim (h2 b) (J b),λb hb V=>?_,λb=>?_,B⟩
 .grind
 grind
theorem St.eo{α:Type}{H:α->HP}(h:St w0 A (pM H::L) w):∃x,St w0 A (H x::L) w:=by
 obtain⟨U,F,u,⟨x,h1⟩,h2⟩:=h.uc;exact⟨x,h.aG,U,F,u,h1,h2⟩
theorem St.ep{α:Type}{H:α->HP}(x:α)(h:St w0 A (H x::L) w):St w0 A (pM H::L) w:=by
 obtain⟨U,F,u,h1,h2⟩:=h.uc;exact⟨h.aG,U,F,u,⟨x,h1⟩,h2⟩
theorem St.mC{φ:Prop}(h:St w0 A (fact φ H::L) w):φ/\St w0 A (H::L) w:=by
 obtain⟨U,F,u,⟨x,h1⟩,h2⟩:=h.uc;exact⟨x,h.aG,U,F,u,h1,h2⟩
theorem St.oA{φ:Prop}(x:φ)(h:St w0 A (H::L) w):St w0 A (fact φ H::L) w:=by
 simp_all[fact]
def mU(F:Nat->Prop)(H':HP)(w w':World):Prop:=∃u,H'.p w' u/\(∀b,u b->F b\/w.heap.size<=b)/\gz F w w'
def kV(H:HP)(w w':World):Prop:=∃F,H.p w' F/\(∀b,F b->w.heap.size<=b)/\Ext w w'
theorem St.mut{F:Nat->Prop}(u:St w F (H::L) w'):mU F H w w':=by
 obtain⟨B,h1,h2⟩:=u.head;exact⟨B,h1,h2,u.aG⟩
theorem St.fresh(u:St w aZ (H::L) w'):kV H w w':=by
 obtain⟨B,h1,h2⟩:=u.head;exact⟨B,h1,λb hb=>(h2 b hb).elim (λh=>h.elim) id,u.aG⟩
theorem St.made(u:St w0 A L w)(h:kV H w w'):St w0 A (H::L) w':=by
 obtain⟨F,h1,h2,h3⟩:=h;exact u.new h3 h1 h2
theorem aV{f:FuncId}{args:List Value}{X:Value}{K:Value->hM}(pl:Plain P f)(u:St w0 A L w)(hc:Calls P f args.toArray w (ub λv w'=>v=X/\Ext w w'))(k:∀w',Ext w w'->St w0 A L w'->K X w'):CG P f args w K:=
 dM pl hc λv w' h=>by obtain⟨rfl,h2⟩:=h;exact k w' h2 (u.ext h2)
theorem dU{f:FuncId}{args:List Value}{H:Value->HP}{K:Value->hM}(pl:Plain P f)(u:St w0 A L w)(hc:Calls P f args.toArray w (ub λv w'=>kV (H v) w w'))(k:∀v w',kV (H v) w w'->St w0 A (H v::L) w'->K v w'):CG P f args w K:=
 dM pl hc λv w' h=>k v w' h (u.made h)
theorem St.WM{F:Nat->Prop}{B:Nat->Prop}{H':HP}(J:St w0 A (H::L) w)(h2:∀b,F b->A b\/w0.heap.size<=b)(h3:∀b,F b->¬ B b)(h5:r8 w0 A L w B)(h:mU F H' w w'):St w0 A (H'::L) w':=by
 obtain⟨I,O,E,M⟩:=h
 refine⟨J.aG.trans M (λ_ h=>h) λb hb u=>(h2 b u).elim id λU=>bO,λb=>I b\/B b,I,B,O,λb hb=>?_,λb hb G=>?_,λb=>Iff.rfl,?_⟩
 .rcases E b hb with u|u
  .exact h2 b u
  exact .inr (xe J.aG.size u)
 .rcases E b hb with u|u
  .exact h3 b u G
  have:=h5.lt b G;omega
 exact h5.loc λb hb=>M.bY b (h5.lt b hb) λu=>h3 b u hb
theorem ql{f:FuncId}{args:List Value}{H':Value->HP}{Φ:Value->hM}{K:Value->hM}(pl:Plain P f)(u:St w0 A (H::L) w)
  (hc:∀F,H.p w F->Calls P f args.toArray w (ub λv w'=>Φ v w'/\mU F (H' v) w w')) (k:∀v w',Φ v w'->St w0 A (H' v::L) w'->K v w'):CG P f args w K:=by
 obtain⟨U,F,G,h1,h2,h3,h4,h5⟩:=u.uc
 exact dM pl (hc F h1) λv w' ⟨B,E⟩=>k v w' B (u.WM h2 h3 h5 E)
end
section
variable {α:Type}[Flat α] {P:Program}{w w0:World}{A S:Nat->Prop}{L:List HP}{xs ys:List α}
theorem dA.one{v:Value}(h:dA S w v xs):wA v=true:=by obtain⟨a,c,rfl,_⟩:=h;rfl
theorem GB{T E G R b n cap:Nat}{z:Option Nat}{src:Value}{cs:List Value}(ht:eQ P T=some (E,m8 α,G,z))(hb:mW w b cs)(u:dA S w src ys)
  (V:n+ys.length<=cap) (Z:n*m8 α+ys.length*m8 α<=cs.length) :
  ∃w',(Builtin.append_ #[T,T] R [.slice (some ⟨b,0,none⟩) n cap,src].toArray).run P w=.ok (.slice (some ⟨b,0,none⟩) (n+ys.length) cap) w'/\mW w' b (ji cs (n*m8 α) (flat ys))/\gz (· = b) w w':=by
 obtain⟨O,U,hi,J,Y,_⟩:=fp ht
 have rd:=u
 obtain⟨sa,Gx,rfl,I,W⟩:=rd
 obtain⟨w',h1,h2,h3⟩:=mY (P:=P) (o:=n*m8 α) (flat ys) 0 cs w hb (by rw[dB];omega) Aw
 refine⟨w',?_,bO,h3⟩
 have M:=yg (α:=α) (P:=P) (sz:=m8 α) rfl u
 have B:(⟨b,0,none⟩:Addr).add (n*m8 α)=⟨b,n*m8 α,none⟩:=by rw[gI,u4]
 simp[Builtin.append_,run_underlying O,sizeOf,typeInfo,hi,Builtin.lenOf,V,M,J,B,h1]
theorem TT{T E J R b o n c:Nat}{z:α}{cs:List Value}(ht:VA P T E (m8 α) J)(u:ox P E (j0 z))(hb:mW w b cs)(U:o+n*m8 α<=cs.length) :
  ∃w',(Builtin.clear_ #[T] R [.slice (some ⟨b,o,none⟩) n c].toArray).run P w=.ok (.tuple #[]) w'/\mW w' b (ji cs o (flat (sk n z)))/\gz (· = b) w w':=by
 obtain⟨I,M,hi,V,O,_⟩:=fp ht
 unfold ox et at u
 rw[hi]at u
 simp only[Option.map_some,oq.injEq]at u
 by_cases G:n=0
 .subst G
  refine⟨w,?_,by simpa[kN,ji]using hb,gz.refl _ _⟩
  simp[Builtin.clear_,run_underlying I]
 have B:(Builtin.zeroCells (j0 z).cells n).toList=flat (sk n z):=by
  rw[pK,<- wQ]
  unfold Builtin.zeroCells madeCells
  simp[zd]
 obtain⟨w',h1,h2,h3⟩:=mY (P:=P) (o:=o) (flat (sk n z)) 0 cs w hb (by rw[dB,List.length_replicate];omega) Aw
 refine⟨w',?_,bO,h3⟩
 simp[Builtin.clear_,run_underlying I,zeroValue,typeInfo,hi,u,G,B,h1]
theorem WN{T E sz G n cap:Nat}{z:Option Nat}{a:Option Addr}{i j k:Int}{K:Value->Prop}(ht:eQ P T=some (E,sz,G,z))(O:0<=i)(h1:i<=j)(h2:j<=k)(h3:k<=cap)
  (I:∀v,K v):eU P (ob T (.slice a n cap) (some (hZ i)) (some (hZ j)) (some (hZ k))) K:=by
 obtain⟨u,M,B,J,_⟩:=fp ht
 have hb:pr P (v7 true n cap (some (hZ i)) (some (hZ j)) (some (hZ k)))=some (i.toNat,j.toNat,k.toNat):=by
  simp only[v7,cX,fS,nj]
  rw[jo bO bO]
  simp only[nj]
  rw[jo bO bO]
  simp only[nj]
  rw[jo bO bO]
  rfl
 refine⟨.slice (if k.toNat=i.toNat then a else a.map (·.add (i.toNat*sz))) (j.toNat-i.toNat) (k.toNat-i.toNat),?_,I _⟩
 unfold ob
 rw[cX,cZ u]
 simp only[nj]
 unfold P3
 rw[cX,cZ u]
 simp only[nj]
 rw[cX,hb]
 simp only[nj]
 rw[cX,mX B,J]
 rfl
end
def nJ(b:Nat)(o:Obj):HP where
 p w F:=w.heap[b]?=some o/\∀k,F k↔k=b
 loc w w' F h hh:=⟨(hh b ((h.2 b).2 rfl)).trans h.1,h.2⟩
 lt w F b' h hb:=cL
section
variable {P:Program}{w w0 w':World}{A:Nat->Prop}{L:List HP}
theorem St.obj{b:Nat}{o:Obj}(u:St w0 A (nJ b o::L) w):w.heap[b]?=some o:=by
 obtain⟨F,h,_⟩:=u.head;exact h.1
theorem Ext.alloc(w:World)(o:Obj):Ext w (w.alloc o):=Ext.push w o
theorem St.alloc{o:Obj}(u:St w0 A L w):St w0 A (nJ w.heap.size o::L) (w.alloc o):=
 u.new (F:=(· = w.heap.size)) (Ext.alloc w o) ⟨mu w o,λ_=>Iff.rfl⟩ λb hb=>Nat.le_of_eq hb.symm
theorem gz.putObj(w:World)(b:Nat)(o:Obj):gz (· = b) w (w.putObj b o):=
 ⟨rfl,rfl,rfl,ee,λk _ u=>World.putObj_heap_other u⟩
theorem St.putObj{b:Nat}{o:Obj}(B:Obj)(G:St w0 A (nJ b o::L) w):St w0 A (nJ b B::L) (w.putObj b B):=
 G.rF λF u=>⟨F,⟨World.putObj_heap_same (vq u.1),u.2⟩,λ_ h=>.inl h,(gz.putObj w b B).mono λk E=>(u.2 k).2 E⟩
theorem kK.mono{fv:Value}{args:List Value}{K u:Value->hM}(h:kK P fv args w K)(B:∀v w,K v w->u v w):kK P fv args w u:=
 GU.mono (P:=P) (k:=.Ri fv args) h B
theorem aJ{α:Type}[Flat α]{T:TypeId}{b:Nat}{cs:List Value}{x:α}{K:hM}(E:St w0 A (bY b cs::L) w)(ht:acp P T (m8 α))(B:IT α=true)(u:cs.length=m8 α)
  (k:∀w',St w0 A (bY b (kp x)::L) w'->K w'):Vx P (KK T (.pointer (some ⟨b,0,none⟩)) (j0 x)) w K:=by
 rw[abh B]
 refine En E ht (zd x) (by rw[u4,u];exact pb _) (Zc x) λw' h=>k w' ?_
 have:=my [] cs [] (kp x) (by rw[zd,u])
 simp only[List.length_nil,List.nil_append,pd]at this
 rwa [this]at h
theorem eA{α:Type}[Flat α]{S:Nat->Prop}{T:TypeId}{p:Value}{x:α}(ht:dF P T=some (IT α,m8 α))(h:At S w p x):(yx T p).run P w=.ok (j0 x) w:=by
 obtain⟨v,h1,h2⟩:=(aD (K:=λv=>v=j0 x) ht h rfl).ex
 grind
theorem ke{b:Bool}{A B:Prop}(h:b=true)(a:A):yL (.bool b) A B:=⟨⟨_,rfl,λ_=>a,λu=>cL⟩⟩
theorem fJ{b:Bool}{A B:Prop}(h:b=false)(a:B):yL (.bool b) A B:=⟨⟨_,rfl,λu=>cL,λ_=>a⟩⟩
theorem Ey{D:Nat}{K:hM}(u:St w0 A (nJ D (.deferred (some []))::L) w)(k:∀w',St w0 A L w'->K w'):mV [D] w K:=
 ⟨u.obj,k _ (u.putObj (.deferred none)).drop⟩
theorem Ez(u:Loop)(h1:u.state=.ready)(h2:u.pending=none):({u with state:=if (none:Option Code).isNone=true then LoopState.ready else LoopState.done,pending:=none}:Loop)=u:=by
 cases u;grind
theorem wZ{gf np:Nat}{cap:List Value}{xs:List (List Value)}{round:List Value->World->(World->(hM)->Prop)->(Option Code->hM)->Prop}
  {N R:Nat->hM}{X:Nat->Nat->hM}(pl:Plain P gf) (hs:St w0 A L w) (I:Nat->List HP->Prop) (Z:Code->List HP->Prop) (h0:I 0 L) (hnp:∀x∈xs,x.length=np)
  (hgf:∀(y:Value) (J:Nat->hM) (Jx:hM) (W:World),(∀k W,J k W->∃Y M,I k M/\St w0 A (Y::M) W)->(∀k W O,J k W->Ext W O->J k O)->J 0 W->
   (∀k args O,xs[k]?=some args->J k O->kK P y args O λv V=>(v=.bool true/\J (k+1) V)\/(v=.bool false/\Jx V))->
   Calls P gf ([y]++cap).toArray W (ub λ_ O=>J xs.length O\/Jx O))
  (Eh:∀k args (Y1 Y2:HP) (B:World->(hM)->Prop) (Kr:Option Code->hM) M W,xs[k]?=some args->I k M->
   (∀M G (kk:hM),St w0 A (Y1::M) G->(∀w2,St w0 A (Y2::M) w2->kk w2)->B G kk)->
   (∀M G,St w0 A (Y2::M) G->I (k+1) M->Kr none G)->(∀c M G,St w0 A (Y2::M) G->Z c M->Kr (some c) G)->
   St w0 A (Y1::M) W->round args W B Kr)
  (WO:∀D M W,I xs.length M->St w0 A (nJ D (.deferred (some []))::M) W->N D W)
  (ahU:∀D M W,Z .ret M->St w0 A (nJ D (.deferred (some []))::M) W->R D W)
  (WQ:∀id D M W,Z (.exit id) M->St w0 A (nJ D (.deferred (some []))::M) W->X id D W)
  (O1:∀c M,Z c M->(∃id,c=.exit id)\/c=.ret) :
  Au P (.func (.func gf) #[] cap.toArray) np w round (aft N R X):=by
 refine⟨gf,cap.toArray,rfl,pl,λU iV BL hy=>?_⟩
 obtain⟨l,hl⟩:∃l,l=w.heap.size+1:=⟨_,rfl⟩
 obtain⟨D,hD⟩:∃D,D=w.heap.size:=⟨_,rfl⟩
 rw[<- hl]at hy |-
 rw[<- hD]
 let J:Nat->hM:=λk W=>∃M,I k M/\St w0 A (nJ l (.loop U)::nJ D (.deferred (some []))::M) W
 let Jx:hM:=λW=>∃c M,Z c M/\St w0 A (nJ l (.loop {U with state:=.done,pending:=some c})::nJ D (.deferred (some []))::M) W
 have TU:J 0 ((w.alloc (.deferred (some []))).alloc (.loop U)):=by
  refine⟨L,h0,?_⟩
  have h1:=(hs.alloc (o:=.deferred (some []))).alloc (o:=.loop U)
  rw[show(w.alloc (.deferred (some []))).heap.size=l from by rw[hl];exact BY w _,<- hD]at h1
  exact h1
 have:=hgf (.func (.yield l) #[] #[]) J Jx _ (λk W ⟨M,E,u⟩=>⟨_,M,E,St.join u⟩) (λk W O ⟨M,E,u⟩ e=>⟨M,E,u.ext e⟩) TU ?_
 .have e:([Value.func (.yield l) #[] #[]]++cap).toArray = #[.func (.yield l) #[] #[]]++cap.toArray:=ee
  rw[e]at this
  refine this.mono λx O ⟨v,hx,hv⟩=>⟨v,hx,?_⟩
  rcases hv with⟨M,E,u⟩|⟨c,M,E,u⟩
  .refine⟨.ready,none,ee,?_,?_⟩
   .rw[<- iV,<- BL];exact u.obj
   exact WO D M _ E (u.putObj _).drop
  refine⟨.done,some c,ee,u.obj,?_⟩
  rcases O1 c M E with⟨id,rfl⟩|rfl
  .exact WQ id D M _ E (u.putObj _).drop
  exact ahU D M _ E (u.putObj _).drop
 intro k args W hk ⟨M,E,u⟩
 refine⟨.inr ⟨l,rfl,?_⟩⟩
 refine hy args W _ (hnp args (la hk)) u.obj ?_
 refine Eh k args (sep (nJ l (.loop U)) (nJ D (.deferred (some [])))) (sep (nJ l (.loop {U with state:=.busy})) (nJ D (.deferred (some [])))) _ _ M W hk E
  (λM G kk h1 h2=>?_) (λM G h1 h2=>?_) (λc M G h1 h2=>?_) (St.join u)
 .have h1:=h1.split
  exact⟨h1.obj,h2 _ (h1.putObj _).join⟩
 .have h1:=h1.split
  refine⟨h1.obj,.inl ⟨rfl,M,h2,?_⟩⟩
  have:=h1.putObj (.loop {U with state:=if (none:Option Code).isNone=true then LoopState.ready else LoopState.done,pending:=none})
  rw[Ez U iV BL]at this |-
  exact this
 have h1:=h1.split
 exact⟨h1.obj,.inr ⟨rfl,c,M,h2,h1.putObj _⟩⟩
end
section
variable {P:Program}{w w0:World}{A S:Nat->Prop}{L:List HP}
theorem rH{t:Array TypeId}{T:TypeId}{a b:Int}{K:Value->Prop}(k:K (hZ (min a b))):eU P (Builtin.min_ t T [hZ a,hZ b].toArray) K:=by
 refine⟨_,?_,k⟩
 show pr P (Builtin.min2 (hZ a) (hZ b))=_
 unfold Builtin.min2
 by_cases h:b<a
 .simp[h,fS];omega
 simp[h,fS];omega
theorem DD{t:Array TypeId}{T:TypeId}{a b:Int}{K:Value->Prop}(k:K (hZ (max a b))):eU P (Builtin.max_ t T [hZ a,hZ b].toArray) K:=by
 refine⟨_,?_,k⟩
 show pr P (Builtin.max2 (hZ a) (hZ b))=_
 unfold Builtin.max2
 by_cases h:a<b
 .simp[h,fS];omega
 simp[h,fS];omega
theorem Lu{α β:Type}[Flat α][Flat β]{T f u:Nat}{p:Value}{x:α}(y:β){K:Value->Prop}(ht:wN P T f u)(h:At S w p x)(B:((kp x).drop u).take (m8 β)=kp y)
  (k:∀q,At S w q y->K q):eU P (G8 T p f) K:=by
 obtain⟨b,o,rfl,h2,h3⟩:=h
 refine aA ht (k _ ⟨b,o+u,rfl,h2,λj c E=>?_⟩)
 grind
end
section
variable {P:Program}{α:Type}[Flat α] {A:Nat->Prop}{w0 w:World}{L:List HP}{xs:List α}
def O2(α:Type)[Flat α](v:Value)(i u:Nat)(p:Value):Prop:=∃b n c,v=.slice (some ⟨b,0,none⟩) n c/\p=.pointer (some ⟨b,i*m8 α+u,none⟩)
theorem mD{T f u i:Nat}{v p:Value}{K:Value->Prop}(ht:wN P T f u)(h:He α v i p)(k:∀q,O2 α v i u q->K q):eU P (G8 T p f) K:=by
 obtain⟨b,n,c,h1,rfl⟩:=h
 exact aA ht (k _ ⟨b,n,c,h1,rfl⟩)
theorem nK{β:Type}[Flat β]{T:Nat}{v p:Value}{i u:Nat}{x:α}(y:β){K:Value->Prop}(J:St w0 A (bH v xs::L) w)(ht:dF P T=some (IT β,m8 β))(O:O2 α v i u p)(G:xs[i]?=some x)
  (M:((kp x).drop u).take (m8 β)=kp y) (k:K (j0 y)):Kn P (yx T p) w K:=by
 obtain⟨F,h,_⟩:=J.head
 obtain⟨b,cap,rest,I,hb,V,_⟩:=rT h (kO.1 G).1
 obtain⟨U,n,c,E,rfl⟩:=O
 rw[I]at E
 simp only[zH.injEq,oq.injEq,Addr.mk.injEq]at E
 obtain⟨⟨rfl,_,_⟩,_,_⟩:=E
 refine aD (S:=λ_=>True) ht ⟨b,i*m8 α+u,rfl,trivial,λj c B=>hb.cell ?_⟩ k
 rw[<- M,List.getElem?_take]at B
 split at B
 .rw[Jo]at B
  have:=r9 G B
  rw[NS,u3 (kO.1 this).1];exact this
 cases B
theorem WR{β:Type}[Flat β]{T:Nat}{v p:Value}{i u:Nat}{K:hM}{x:α}(y:α)(z:β)(V:St w0 A (bH v xs::L) w)(ht:dF P T=some (IT β,m8 β))(hp:O2 α v i u p)(W:xs[i]?=some x)
  (hlen:u+m8 β<=m8 α) (hy:(kp x).take u++kp z++(kp x).drop (u+m8 β)=kp y)
  (k:∀w',St w0 A (bH v (xs.set i y)::L) w'->K w'):Vx P (KK T p (j0 z)) w K:=by
 obtain⟨U,F,U',g1,Y,g3,g4,M⟩:=V.uc
 have hi:=(kO.1 W).1
 obtain⟨b,cap,rest,O,hb,Z,I⟩:=rT g1 hi
 obtain⟨b',n,c,J,rfl⟩:=hp
 rw[O]at J
 simp only[zH.injEq,oq.injEq,Addr.mk.injEq]at J
 obtain⟨⟨rfl,_,_⟩,_,_⟩:=J
 have Gy:=zB W
 have Ok:(flat (xs.take i)).length=i*m8 α:=by rw[dB,l2,Gk bO]
 have Lv:i*m8 α+m8 α<=(flat xs).length:=by
  rw[dB,<- Nat.succ_mul];exact Nat.mul_le_mul_right _ hi
 have hxl:(kp x).length=m8 α:=zd x
 have B:(kp z).length=m8 β:=zd z
 obtain⟨w',h1,h2,h3⟩:=mY (P:=P) (o:=i*m8 α+u) (kp z) 0 (flat xs++rest) w hb (by rw[B,l1];omega) (Zc z)
 have Gu:ji (flat xs++rest) (i*m8 α+u+0) (kp z)=flat (xs.set i y)++rest:=by
  have:=my (flat (xs.take i)++(kp x).take u) (((kp x).drop u).take (m8 β)) ((kp x).drop (u+m8 β)++flat (xs.drop (i+1))++rest) (kp z)
   (by rw[B,l2,rf];omega)
  rw[l1,Ok,l2,Gk bO]at this
  rw[PK,La y hi,Gy,<- hy]
  have e1:kp x=(kp x).take u++((kp x).drop u).take (m8 β)++(kp x).drop (u+m8 β):=by
   rw[<- tj,n5,qa,qa]
  have e2:flat (xs.take i)++kp x++flat (xs.drop (i+1))++rest=flat (xs.take i)++(kp x).take u++((kp x).drop u).take (m8 β)++((kp x).drop (u+m8 β)++flat (xs.drop (i+1))++rest):=by
   conv=>lhs;rw[e1]
   simp only[n5]
  rw[e2,this]
  simp only[n5]
 rw[Gu]at h2
 refine⟨w',?_,k w' ⟨V.aG.trans (h3.mono λk G=>(I k).2 G) (λ_ h=>h) λb hb E=>(Y b E).elim id λhh=>bO,U,F,U',?_,Y,g3,g4,
  M.loc λb hb=>(h3.mono λk G=>(I k).2 G).bY b (M.lt b hb) λE=>g3 b E hb⟩⟩
 .show(storeVar T ⟨b,i*m8 α+u,none⟩ (j0 z)).run P w=_
  unfold storeVar
  rw[eL (fZ (lF ht).2 w),pK]
  simp only[List.size_toArray,zd,ne_eq,not_true_eq_false,if_false]
  exact h1
 refine .inr ⟨b,cap,rest,by rw[IA];exact O,h2,?_,I⟩
 rw[l1,dB]at Z |-;rw[IA];exact Z
theorem qm{T:Nat}{b o:Nat}{cs:List Value}(x:α){K:Value->Prop}(ht:dF P T=some (IT α,m8 α))(hb:mW w b cs)(u:(cs.drop o).take (m8 α)=kp x)(k:K (j0 x)) :
  Kn P (yx T (.pointer (some ⟨b,o,none⟩))) w K:=by
 refine aD (S:=λ_=>True) ht ⟨b,o,rfl,trivial,λj c B=>hb.cell ?_⟩ k
 grind
end
structure SV where
 a:Option Addr
 n:Nat
 cap:Nat
abbrev bW:SV:=⟨none,0,0⟩
instance:Flat SV where
 agg:=false
 sz:=1
 enc s:=[.slice s.a s.n s.cap]
 val s:=.slice s.a s.n s.cap
 pos:=dD
 len _:=rfl
 one a v h:=by rw[wy.1 h];rfl
 nD h:=by cases h
 nX _ _:=rfl
section
variable {P:Program}{α:Type}[Flat α] {A:Nat->Prop}{w0 w:World}{L L':List HP}{v:Value}
def rows:List SV->List (List α)->HP
 | [],[]=>emp
 | s::ss,x::xs=>sep (bH (j0 s) x) (rows ss xs)
 | _,_=>fact False emp
theorem Lw:∀{u:List SV}{xs:List (List α)}{F:Nat->Prop},(rows u xs).p w F->u.length=xs.length
 | [],[],_,_=>rfl
 | s::u,x::xs,F,h=>by
  obtain⟨E,B,_,h2,_,_⟩:=h
  rw[o1,o1,Lw h2]
 | [],_::_,_,h=>h.1.elim
 | _::_,[],_,h=>h.1.elim
theorem Hl:∀{E:List SV}{xs:List (List α)}{B u F:Nat->Prop}{s:SV}{x:List α},(rows E xs).p w B->(bH (j0 s) x).p w u->(∀b,B b->¬ u b)->(∀b,F b↔B b\/u b)->(rows (E++[s]) (xs++[x])).p w F
 | [],[],B,u,F,s,x,h1,h2,_,h4=>by
  refine⟨u,B,h2,h1,λb hb G=>h1 b G,λb=>?_⟩
  grind
 | s'::E,x'::xs,B,u,F,s,x,h1,h2,h3,h4=>by
  obtain⟨O,U,J,I,V,M⟩:=h1
  refine⟨O,λb=>U b\/u b,J,Hl I h2 (λb hb=>h3 b ((M b).2 (.inr hb))) (λb=>Iff.rfl),λb hb=>?_,λb=>?_⟩
  .grind
  grind
 | [],_::_,_,_,_,_,_,h,_,_,_=>h.1.elim
 | _::_,[],_,_,_,_,_,h,_,_,_=>h.1.elim
theorem St.AN{u:List SV}{xs:List (List α)}(B:St w0 A (rows u xs::L) w):u.length=xs.length:=by
 obtain⟨F,h,_⟩:=B.head;exact Lw h
theorem St.acF(u:St w0 A L w):St w0 A (rows [] ([]:List (List α))::L) w:=
 u.new (Ext.refl w) (F:=aZ) (λ_ h=>h) λ_ h=>h.elim
theorem St.EA{u:List SV}{xs:List (List α)}{s:SV}{x:List α}(E:St w0 A (rows u xs::bH (j0 s) x::L) w):St w0 A (rows (u++[s]) (xs++[x])::L) w:=by
 have h:=St.join E
 refine h.rF λF B=>?_
 obtain⟨I,G,h1,h2,h3,h4⟩:=B
 exact⟨F,Hl h1 h2 h3 h4,λb hb=>.inl hb,gz.refl _ _⟩
theorem St.fK{xs:List α}(u:St w0 A (bH v xs::L) w):∃s:SV,v=j0 s:=by
 obtain⟨F,h,_⟩:=u.head
 rcases h with⟨rfl,_⟩|⟨b,cap,_,rfl,_⟩
 .exact⟨⟨none,0,0⟩,rfl⟩
 exact⟨⟨_,_,_⟩,rfl⟩
theorem dA.fK{S:Nat->Prop}{xs:List α}(h:dA S w v xs):∃s:SV,v=j0 s:=by
 obtain⟨a,cap,rfl,_⟩:=h;exact⟨⟨_,_,_⟩,rfl⟩
def avn(w:World)(v:Value)(xs:List (List α)):Prop:=
 ∃u:List SV,dA (λ_=>True) w v u/\u.length=xs.length/\∀(i:Nat) (s:SV) (x:List α),u[i]?=some s->xs[i]?=some x->dA (λ_=>True) w (j0 s) x
end
section
variable {P:Program}
theorem jT{α:Type}[Flat α]{S:Nat->Prop}{w:World}{xs:List α}{T E B:Nat}{z:Option Nat}{v:Value}{i:Int}{K:Value->Prop}(ht:eQ P T=some (E,m8 α,B,z))(I:dA S w v xs)(G:0<=i)(h2:i<=xs.length)
  (k:∀u,(∀w',dA S w' v xs->dA S w' u (xs.take i.toNat))->K u):eU P (ob T v none (some (hZ i)) none) K:=by
 obtain⟨a,cap,rfl,J,h3⟩:=I
 refine⟨_,wO ht (oy (.inl ⟨rfl,rfl⟩) (.inr ⟨i,rfl,G,rfl⟩) (l6 _) bO),k _ λw' h=>?_⟩
 have:=h.cut rfl (l6 i.toNat) bO
 grind
end
open Go.ChangeShapes Go.WideShapes Go.ChangeAt Go.RowKit
structure RdT(P:Program)(t:TypeId)(α:Type)[Flat α](φ:α->Prop):Prop where
 cells:P.cellsOf t=m8 α
 rd:∀{H:Type}(enc:TypeId×Value->H) (w:World) (base:Nat) (sp:Nat->Bool) (held:Bool) (fuel:Nat) (cs:List Value) (x:DataW H×List MemPlace),
  DataW.trod enc P w base sp held fuel t cs=some x->∃a:α,cs=kp a/\φ a
def eY(n:Int):Prop:=-9223372036854775808<=n/\n<=9223372036854775807
def ahV{P:Program}{t:TypeId}(ht:P.underlying t=some (.int .i64))(hc:P.cellsOf t=1):RdT P t Int eY:=
 ⟨hc,λenc w base u held fuel cs x h=>by
  obtain⟨n,h1,_,h3⟩:=DataW.trod_int ht h
  refine⟨n,h1,?_⟩
  simpa[Lit.wf,IntKind.min,IntKind.max,IntKind.signed,IntKind.bits,eY]using h3⟩
def ahW{P:Program}{t:TypeId}(ht:P.underlying t=some .string)(hc:P.cellsOf t=1):RdT P t ByteArray (λs=>s.size<=maxLen):=
 ⟨hc,λenc w base u held fuel cs x h=>by
  obtain⟨n,h1,_,h2⟩:=DataW.trod_string ht h
  exact⟨n,h1,h2⟩⟩
def nZ{H:Type}{enc:TypeId×Value->H}{P:Program}{w:World}{base:Nat}{B:Nat->Bool}{held:Bool}{fuel:Nat}{t:TypeId}{u:Array Field}{cs:List Value}{x:DataW H×List MemPlace}
  (ht:P.underlying t=some (.struct u)) (h:DataW.trod enc P w base B held fuel t cs=some x) :
  cs.length=P.cellsOf t/\∃n,∀(i:Nat) (f:Field),u[i]?=some f->∃y,DataW.trod enc P w base B held n f.type ((cs.drop f.offset).take (P.cellsOf f.type))=some y:=by
 obtain⟨xs,n,_,_,J,E,I⟩:=DataW.trod_struct ht h
 refine⟨J,n,λi f hi=>?_⟩
 have G:i<xs.length:=by rw[E];exact(Array.getElem?_eq_some_iff.1 hi).1
 exact⟨xs[i],by rw[I i f hi,l0 G]⟩
def ek{cs:List Value}{o s:Nat}{r:List Value}(h:(cs.drop o).take s=r):cs.drop o=r++cs.drop (o+s):=by
 rw[<- h,<- tj,qa]
theorem acG{α:Type}{p:Nat->α->Prop}:∀n,(∀i,i<n->∃x,p i x)->∃xs:List α,xs.length=n/\∀i x,xs[i]?=some x->p i x:=by
 intro n
 induction n with
 | zero=>simp_all
 | succ n u=>
  intro h
  obtain⟨xs,h1,h2⟩:=u λi hi=>h i bO
  obtain⟨x,B⟩:=h n bO
  refine⟨xs++[x],by simp[h1],λi y E=>?_⟩
  grind
def O3{α:Type}[Flat α]{xs:List α}{j:Nat}{c:Value}(h:(flat xs)[j]?=some c):∃i r x,xs[i]?=some x/\(kp x)[r]?=some c/\j=i*m8 α+r:=by
 have u:j<(flat xs).length:=(kO.1 h).1
 rw[dB]at u
 have B:0<m8 α:=Zd
 have hi:j / m8 α<xs.length:=Nat.div_lt_of_lt_mul cL
 have E:j % m8 α<m8 α:=abv _ B
 have I:j=j / m8 α*m8 α+j % m8 α:=by rw[Nat.mul_comm];exact(Nat.div_add_mod _ _).symm
 have G:xs[j / m8 α]?=some (xs[j / m8 α]):=l0 hi
 have hc:(kp (xs[j / m8 α]))[j % m8 α]?=some ((kp (xs[j / m8 α]))[j % m8 α]'(by rw[zd];exact E)):=l0 _
 have:=r9 G hc
 grind
section
variable {H:Type}{enc:TypeId×Value->H}{P:Program}{w:World}{base:Nat}{held:Bool}
def Jc(P:Program)(ts:List TypeId):Bool:=ts.all λt=>P.readableRec t&&decide (t<P.types.size)
theorem yV(G:laidOutB P=true){W E:World}(hb:Below W.heap.size W E){I:Nat->Bool}:∀{ts:List TypeId}{vs:List Value}{ds:List (DataW H)}{ps:List MemPlace},Jc P ts=true->(∀x∈ps,x.block<W.heap.size)->
  (∀x∈ps,I x.block=true)->DataW.TrodAll enc P W 0 (λ_=>true) true ts vs ds ps->DataW.TrodAll enc P E 0 I true ts vs ds ps
 | [],vs,ds,ps,_,_,_,h=>by obtain⟨rfl,rfl,rfl⟩:=trodAll_nil h;exact trodAll_mk0
 | t::ts,vs,ds,ps,hr,nS,Gy,h=>by
  obtain⟨v,M,d,J,a,b,rfl,rfl,rfl,h1,h2⟩:=trodAll_cons h
  have u:P.readableRec t=true/\t<P.types.size/\Jc P ts=true:=by
   grind[Jc]
  refine trodAll_cons_mk (WideElems.Trod_stays G u.1 u.2.1 h1 (λx B=>hb.same (nS x (List.mem_append_left _ B))) λx B=>Gy x (List.mem_append_left _ B)) ?_
  exact yV G hb u.2.2 (λx B=>nS x (List.mem_append_right _ B)) (λx B=>Gy x (List.mem_append_right _ B)) h2
theorem post_true{f:Func}{s:ChangeSpec}{apart fresh handsOn again:Bool}{W I:World}{args:Array Value}{ds gs:List (DataW H)}{before:List MemPlace}{tb:TypeId}
  (O:s.vars=[]) (hfn:∀ds:List (DataW H),ds.length=f.params.size->s.fn H ds={results:=[.lit (.bool true)],args:=ds}) (V:f.resultTypes = #[tb]) (J:P.underlying tb=some .bool)
  (hl:laidOutB P=true) (ahX:Jc P f.params.toList=true)
  (hW:DataW.Whole enc P f.params.toList s.vars apart W args.toList ds gs before) (hb:Below W.heap.size W I) :
  s.post enc P f apart fresh handsOn again W args (.bool true) I:=by
 have Y:=hW
 obtain⟨p,q,hA,hV,U,hz,hn⟩:=hW
 have nS:∀x∈before,x.block<W.heap.size:=Y.lt
 rw[O]at hV
 obtain⟨rfl,rfl⟩:=trodVars_none hV
 simp only[pd]at U
 have hlen:ds.length=f.params.size:=by
  have:=(trodAll_length hA).2
  omega
 have G:=hfn ds hlen
 have M:∀(b:Nat) (B:Nat->Bool) (hd:Bool),DataW.TrodAll enc P I b B hd f.resultTypes.toList ((xl true).resultList f.resultTypes.size) (s.fn H (ds++[])).results []:=λb B hd=>by
  rw[pd,G,V]
  exact trodAll_mk1 (shut_bool J true)
 have u:∀B:Nat->Bool,(∀p∈before,B p.block=true)->DataW.TrodAll enc P I 0 B true f.params.toList args.toList (s.fn H (ds++[])).args before:=λB Gy=>by
  rw[pd,G]
  rw[U]at nS Gy |-
  exact yV hl hb ahX nS Gy hA
 have WT:∀B:Nat->Bool,DataW.TrodVars enc P I B s.vars (s.fn H (ds++[])).vars []:=λB=>by
  rw[pd,G,O];rfl
 have kG:∀(j:Nat) (t:TypeId) (r:Value),f.resultTypes[j]?=some t->((xl true).resultList f.resultTypes.size)[j]?=some r->Nh P I .any 0 t r:=
  ok_one V rfl (okWide_bool_mk J true)
 have hold:∀p∈before,(λb=>decide (b<W.heap.size)) p.block=true:=λp hp=>cL
 refine⟨ds,[],before,[],before,[],Y,M _ _ _,u _ hold,WT _,World.keptBut_mono (λp hp=>⟨hp,?_⟩) (hb.frame (·∈before)),λ_=>?_⟩
 .grind
 refine⟨kG,_,_,([]++before)++[],⟨[]++before,[],trodAll_append (u _ λ_ _=>rfl) (M _ _ _),WT _,rfl,?_,?_⟩,?_⟩
 .intro b E hp
  have Z:MemPlace.cell b E∈before:=cL
  rw[hb.frozen (p:=⟨b,E,none⟩) (nS _ Z)]
  exact hz b E Z
 .grind
 grind
end
section
variable {P:Program}{α:Type}[Flat α]
def ahZ(P:Program)(T n E:Nat):Prop:=P.underlying T=some (.array n E)/\pr P (sizeOf E)=some 1
theorem mg{T E n b o:Nat}{i:Int}{K:Value->Prop}(h:ahZ P T n E)(G:0<=i)(h1:i<n)(k:K (.pointer (some ⟨b,o+i.toNat,none⟩))) :
  eU P (H3 T (.pointer (some ⟨b,o,none⟩)) (hZ i)) K:=by
 refine⟨_,?_,k⟩
 unfold H3
 have u:pr P (underlying T)=some (.array n E):=cZ h.1
 have B:pr P (Instr.sureAddr (.pointer (some (⟨b,o,none⟩:Addr))))=some ⟨b,o,none⟩:=rfl
 simp only[asIntOf,cX,u,nj,fS,B]
 simp only[ej (show 0<=i/\i<(n:Int)from⟨G,h1⟩),cX,h.2,nj,fS,gI,Nat.mul_one]
theorem open_arr{H:Type}{enc:TypeId×Value->H}{w:World}{base:Nat}{held:Bool}{φ:α->Prop}{t:TypeId}{n:Nat}{e:TypeId}{r:Reach}{B:Nat}{v:Value}{d:DataW H}{ps:List MemPlace}{U:Nat->Bool}(ht:P.underlying t=some (.array n e))(E:IT α=true)
  (O:RdT P t α φ) (u:Nh P w r B t v) (G:DataW.Trod enc P w base U held t v d ps):∃x:α,v=j0 x/\φ x:=by
 obtain⟨fuel,J⟩:=G
 obtain⟨x,I,M⟩:=O.rd enc w base _ held fuel _ _ J
 unfold Nh at u
 rw[ht]at u
 obtain⟨cs,rfl,_⟩:=u
 refine⟨x,?_,M⟩
 rw[abh E,<- I]
 simp[VR]
end
def RU{α:Type}[Flat α]{P:Program}{w w0:World}{A:Nat->Prop}{L:List HP}{xs:List α}{T:Nat}{v p:Value}{i:Nat}{x:α}(G:St w0 A (bH v xs::L) w)(ht:dF P T=some (IT α,m8 α))(I:He α v i p)(B:xs[i]?=some x) :
  (yx T p).run P w=.ok (j0 x) w:=by
 obtain⟨F,h,_⟩:=G.head
 obtain⟨b,cap,rest,E,hb,O,_⟩:=rT h (kO.1 B).1
 obtain⟨M,n,c,u,rfl⟩:=I
 rw[E]at u
 simp only[zH.injEq,oq.injEq,Addr.mk.injEq]at u
 obtain⟨⟨rfl,_,_⟩,_,_⟩:=u
 refine eA (S:=λ_=>True) ht ⟨b,i*m8 α,rfl,trivial,λj c J=>hb.cell ?_⟩
 have:=r9 B J
 rw[u3 (kO.1 this).1];exact this
class Deep (α:Type) (σ:outParam Type) [Flat σ] where
 dr:World->σ->α->Prop
 ext:∀{w w':World}{s:σ}{x:α},dr w s x->Ext w w'->dr w' s x
def DL{α σ:Type}[Flat σ][Deep α σ](w:World)(v:Value)(xs:List α):Prop:=
 ∃ts:List σ,dA (λ_=>True) w v ts/\ts.length=xs.length/\∀(i:Nat) (t:σ) (x:α),ts[i]?=some t->xs[i]?=some x->Deep.dr w t x
section
variable {P:Program}{α σ:Type}[Flat σ] [Deep α σ] {w w' w0:World}{v:Value}{A:Nat->Prop}{L:List HP}
theorem DL.ext{xs:List α}(h:DL w v xs)(e:Ext w w'):DL w' v xs:=by
 obtain⟨ts,h1,h2,h3⟩:=h;exact⟨ts,h1.ext e,h2,λi t x a b=>Deep.ext (h3 i t x a b) e⟩
theorem DL.nil(w:World):DL w (.slice none 0 0) ([]:List α):=⟨[],dA.nil _ _,rfl,λi t x h=>by simp at h⟩
theorem DL.fK{xs:List α}(h:DL w v xs):∃s:SV,v=j0 s:=by obtain⟨_,h,_⟩:=h;exact h.fK
instance:Deep (List α) SV where
 dr w s xs:=DL w (j0 s) xs
 ext h e:=DL.ext h e
def eF(Φ:hM):HP where
 p w F:=(∀w':World,(∀b,F b->w'.heap[b]?=w.heap[b]?)->Φ w')/\∀b,F b->b<w.heap.size
 loc w w' F h hh:=⟨λu h2=>h.1 u λb hb=>(h2 b hb).trans (hh b hb),λb hb=>by
  grind⟩
 lt w F b h hb:=h.2 b hb
theorem eF.now{Φ:hM}{F:Nat->Prop}(h:(eF Φ).p w F):Φ w:=h.1 w λ_ _=>rfl
theorem St.eF{Φ:hM}(u:St w0 A (eF Φ::L) w):Φ w:=by obtain⟨F,h,_⟩:=u.head;exact eF.now h
theorem St.dN{Φ Ψ:hM}(E:St w0 A (Fw.eF Φ::L) w)(B:∀w,Φ w->Ψ w):St w0 A (Fw.eF Ψ::L) w:=
 E.rF λF u=>⟨F,⟨λw' h=>B _ (u.1 w' h),u.2⟩,λb hb=>.inl hb,gz.refl _ _⟩
theorem St.hG{Φ Ψ:hM}(E:St w0 A (Fw.eF Φ::Fw.eF Ψ::L) w):St w0 A (Fw.eF (λw=>Φ w/\Ψ w)::L) w:=by
 have h:=St.join E
 refine h.rF λF B=>?_
 obtain⟨I,G,h1,h2,h3,h4⟩:=B
 refine⟨F,⟨λw' u=>⟨h1.1 w' λb hb=>u b ((h4 b).2 (.inl hb)),h2.1 w' λb hb=>u b ((h4 b).2 (.inr hb))⟩,λb hb=>?_⟩,λb hb=>.inl hb,gz.refl _ _⟩
 rcases(h4 b).1 hb with hb|hb
 .exact h1.2 b hb
 exact h2.2 b hb
theorem St.fr{Φ:hM}(u:St w0 A L w)(h:∀w,Φ w):St w0 A (Fw.eF Φ::L) w:=
 u.new (Ext.refl w) (F:=aZ) ⟨λw' _=>h w',λb hb=>hb.elim⟩ λ_ h=>h.elim
theorem St.freeze{xs:List σ}(B:St w0 A (bH v xs::L) w):St w0 A (Fw.eF (λw=>dA (λ_=>True) w v xs)::L) w:=
 B.rF λF u=>⟨F,⟨λw' h=>(bH.rd ((bH v xs).loc _ _ _ u h)).mono λ_ _=>trivial,λb hb=>(bH v xs).lt _ _ _ u hb⟩,λb hb=>.inl hb,gz.refl _ _⟩
theorem St.rU{b:Nat}{cs:List Value}(E:St w0 A (bY b cs::L) w):St w0 A (Fw.eF (λw=>mW w b cs)::L) w:=
 E.rF λF u=>⟨F,⟨λw' h=>((bY b cs).loc _ _ _ u h).1,λk B=>(bY b cs).lt _ _ _ u B⟩,λb hb=>.inl hb,gz.refl _ _⟩
def gy(ts:List σ)(xs:List α)(w:World):Prop:=ts.length=xs.length/\∀(i:Nat) (t:σ) (x:α),ts[i]?=some t->xs[i]?=some x->Deep.dr w t x
theorem gy.nil:gy ([]:List σ) ([]:List α) w:=⟨rfl,λi t x h=>by simp at h⟩
theorem gy.snoc{ts:List σ}{xs:List α}{t:σ}{x:α}(h:gy ts xs w)(ht:Deep.dr w t x):gy (ts++[t]) (xs++[x]) w:=by
 grind[gy]
theorem gy.append{ts us:List σ}{xs ys:List α}(h:gy ts xs w)(g:gy us ys w):gy (ts++us) (xs++ys) w:=by
 grind[gy]
theorem gy.ext{ts:List σ}{xs:List α}(h:gy ts xs w)(e:Ext w w'):gy ts xs w':=⟨h.1,λi t x a b=>Deep.ext (h.2 i t x a b) e⟩
theorem DL.of{ts:List σ}{xs:List α}(h:dA (λ_=>True) w v ts)(g:gy ts xs w):DL w v xs:=⟨ts,h,g.1,g.2⟩
theorem DL.open{xs:List α}(h:DL w v xs):∃ts:List σ,dA (λ_=>True) w v ts/\gy ts xs w:=by obtain⟨ts,h1,h2,h3⟩:=h;exact⟨ts,h1,h2,h3⟩
theorem gy.take{ts:List σ}{xs:List α}(h:gy ts xs w)(k:Nat):gy (ts.take k) (xs.take k) w:=by
 grind[gy]
theorem gy.drop{ts:List σ}{xs:List α}(h:gy ts xs w)(k:Nat):gy (ts.drop k) (xs.drop k) w:=by
 grind[gy]
end
section
variable {α:Type}[Flat α]
abbrev je:Deep α α:=⟨λ_ s x=>s=x,λh _=>h⟩
theorem Hm[D:Deep α α](hD:∀w s x,D.dr w s x↔s=x){w:World}{ts xs:List α}:gy ts xs w↔ts=xs:=by
 constructor
 .rintro⟨h1,h2⟩
  refine List.ext_getElem? λi=>?_
  grind
 grind[gy]
end
instance:Deep Int Int:=je
instance:Deep Bool Bool:=je
instance:Deep ByteArray ByteArray:=je
structure RdW(P:Program)(w:World)(t:TypeId)(α:Type)[Flat α](φ:α->Prop):Prop where
 cells:P.cellsOf t=m8 α
 rd:∀{H:Type}(enc:TypeId×Value->H) (base:Nat) (held:Bool) (fuel:Nat) (cs:List Value) (x:DataW H×List MemPlace),
  DataW.trod enc P w base (λ_=>true) held fuel t cs=some x->∃a:α,cs=kp a/\φ a
def zD(P:Program)(t:TypeId)(α:Type){σ:Type}[Flat σ][Deep α σ](φ:α->Prop):Prop:=∀w,RdW P w t σ (λs=>∃a:α,Deep.dr w s a/\φ a)
def RdT.deep{P:Program}{t:TypeId}{α:Type}[Flat α][D:Deep α α]{φ:α->Prop}(h:RdT P t α φ)(hD:∀w (x:α),D.dr w x x):zD P t α φ:=
 λw=>⟨h.cells,λenc base held fuel cs x u=>by
  obtain⟨a,h1,h2⟩:=h.rd enc w base _ held fuel cs x u;exact⟨a,h1,a,hD w a,h2⟩⟩
section
variable {H:Type}{enc:TypeId×Value->H}{P:Program}{w:World}{base:Nat}{held:Bool}
theorem Lx{α:Type}[Flat α]{φ:α->Prop}{t e:TypeId}{fuel:Nat}{cs:List Value}{x:DataW H×List MemPlace}(ht:P.underlying t=some (.slice e))(U:RdW P w e α φ)
  (h:DataW.trod enc P w base (λ_=>true) held fuel t cs=some x):∃v,cs=[v]/\∃xs:List α,dA (λb=>b<w.heap.size) w v xs/\∀x∈xs,φ x:=by
 rcases DataW.trod_slice ht h with⟨rfl,_⟩|⟨a,len,cap,elems,rest,n,_,rfl,_,hb,hl,hm,hlen,Y,W,_⟩
 .exact⟨_,rfl,[],dA.nil _ _,ee⟩
 refine⟨_,rfl,?_⟩
 have get:∀i,i<len->∃x:α,φ x/\w.cells? base (a.add (i*P.cellsOf e)) (P.cellsOf e)=some (kp x):=by
  intro i hi
  have h1:=Y i hi
  rw[l0 bO]at h1
  obtain⟨cs',h2,h3⟩:=Pc.1 h1
  obtain⟨x,rfl,E⟩:=U.rd enc base held n cs' _ h3
  grind
 obtain⟨xs,I,J⟩:=acG len get
 have O:=U.cells
 have V:0<m8 α:=Zd
 have first:∀(c:Nat) (cs':List Value),w.cells? base (a.add (c*P.cellsOf e)) (P.cellsOf e)=some cs'->c=0->a.spot=none:=by
  intro c cs' h1 G
  subst G
  have:=Zo h1
  have h2:=this.2.2 0 bO
  rw[Nat.zero_mul]at h2
  have h3:w.cell? a=cs'[0]?:=by simpa[Addr.add]using h2
  rw[l0 bO]at h3
  unfold World.cell? at h3
  split at h3
  .simp_all
  .cases h3
 refine⟨xs,⟨some a,cap,by rw[I],bO,?_⟩,λx E=>?_⟩
 .by_cases CK:cap=0
  .simp_all
  right
  have u:a.spot=none:=by
   by_cases G:0<len
   .grind
   .obtain⟨h1,h2⟩:=W rfl
    have h3:=h2 0 bO
    rw[l0 bO]at h3
    obtain⟨cs',h4,_⟩:=Pc.1 h3
    grind
  have B:∀j c,(flat xs)[j]?=some c->Cell w a.block (a.off+j) c:=by
   intro j c Z
   obtain⟨i,r,x,E,M,rfl⟩:=O3 Z
   have h1:=(Zo (J i x E).2).2.2 r (by rw[O];have:=(kO.1 M).1;rwa [zd]at this)
   rw[M,O]at h1
   obtain⟨b,o,s⟩:=a
   simp only at u
   subst u
   unfold Cell
   rw[<- h1,gI,gI,NS]
  refine⟨a.block,a.off,by obtain⟨b,o,s⟩:=a;grind,λGs=>?_,B⟩
  obtain⟨y,ys,rfl⟩:=List.exists_cons_of_ne_nil Gs
  have G:(flat (y::ys))[0]?=some ((kp y)[0]'(by rw[zd];exact V)):=by
   rw[kP,u3 (by rw[zd];exact V),l0]
  exact(B 0 _ G).lt
 obtain⟨i,hi⟩:=List.getElem?_of_mem E
 grind
theorem O4{α σ:Type}[Flat σ][Deep α σ]{φ:α->Prop}:∀(ts:List σ),(∀s∈ts,∃a:α,Deep.dr w s a/\φ a)->∃xs:List α,gy ts xs w/\∀x∈xs,φ x
 | [],_=>⟨[],gy.nil,ee⟩
 | t::ts,h=>by
  obtain⟨a,h1,h2⟩:=h t ee
  obtain⟨xs,h3,h4⟩:=O4 ts λs u=>h s (List.mem_cons_of_mem _ u)
  refine⟨a::xs,?_,λx B=>?_⟩
  .grind[gy]
  grind
theorem zD.slice{α σ:Type}[Flat σ][Deep α σ]{φ:α->Prop}{t e:TypeId}(ht:P.underlying t=some (.slice e))(hc:P.cellsOf t=1)(E:zD P e α φ):zD P t (List α) (λxs=>∀x∈xs,φ x):=
 λw=>⟨hc,λenc base held fuel cs x B=>by
  obtain⟨v,rfl,ts,h1,h2⟩:=Lx ht (E w) B
  obtain⟨xs,h3,h4⟩:=O4 ts h2
  have u:dA (λ_=>True) w v ts:=h1.mono λ_ _=>trivial
  obtain⟨s,rfl⟩:=u.fK
  exact⟨s,rfl,xs,DL.of u h3,h4⟩⟩
theorem open_dl{α σ:Type}[Flat σ][Deep α σ]{φ:α->Prop}{t e:TypeId}{r:Reach}{E:Nat}{v:Value}{d:DataW H}{ps:List MemPlace}(ht:P.underlying t=some (.slice e))(O:zD P e α φ)
  (B:Nh P w r E t v) (I:DataW.Trod enc P w base (λ_=>true) held t v d ps):∃xs:List α,DL w v xs/\∀x∈xs,φ x:=by
 obtain⟨fuel,J⟩:=I
 obtain⟨u,M,ts,h1,h2⟩:=Lx ht (O w) J
 have G:v=u:=by
  have h1:=B
  unfold Nh at h1
  rw[ht]at h1
  cases v with
  | slice a n c=>exact(List.cons.inj (show [zH a n c]=[u]from M)).1
  | _=>
   have h2:Cell.okWide P w r E t _:=h1
   unfold Cell.okWide at h2
   rw[ht]at h2
   simp only[Cell.ok,ht]at h2
 subst G
 obtain⟨xs,h3,h4⟩:=O4 ts h2
 exact⟨xs,DL.of (h1.mono λ_ _=>trivial) h3,h4⟩
theorem open_dst{α σ:Type}[Flat σ][Deep α σ]{φ:α->Prop}{t:TypeId}{O:Array Field}{r:Reach}{B:Nat}{v:Value}{d:DataW H}{ps:List MemPlace}(ht:P.underlying t=some (.struct O))(E:IT σ=true)
  (M:zD P t α φ) (u:Nh P w r B t v) (G:DataW.Trod enc P w base (λ_=>true) held t v d ps):∃(s:σ) (x:α),v=j0 s/\Deep.dr w s x/\φ x:=by
 obtain⟨fuel,J⟩:=G
 obtain⟨s,I,x,h1,h2⟩:=(M w).rd enc base held fuel _ _ J
 unfold Nh at u
 rw[ht]at u
 obtain⟨cs,rfl,_⟩:=u
 refine⟨s,x,?_,h1,h2⟩
 rw[abh E,<- I]
 simp[VR]
end
def BM(x:Int):Int:=IntKind.i64.wrap x
theorem zF{x:Int}(h : -9223372036854775808<=x/\x<=9223372036854775807):BM x=x:=IntWalk.i64_in _ h
section
variable {P:Program}{T:Nat}{cx cy:Bool}{a b:Int}{K:Value->Prop}
theorem uO(k:K (hZ (BM (a+b)))):eU P (kq .add T cx cy (hZ a) (hZ b)) K:=⟨_,rfl,k⟩
theorem AO(k:K (hZ (BM (a-b)))):eU P (kq .sub T cx cy (hZ a) (hZ b)) K:=⟨_,rfl,k⟩
theorem xc(k:K (hZ (BM (a*b)))):eU P (kq .mul T cx cy (hZ a) (hZ b)) K:=⟨_,rfl,k⟩
theorem WU(k:K (hZ (BM (0-a)))):eU P (Op.unary .neg (hZ a)) K:=⟨_,rfl,k⟩
theorem EB(h:b≠0)(k:K (hZ (BM (a.tdiv b)))):eU P (kq .quo T cx cy (hZ a) (hZ b)) K:=by
 refine⟨_,?_,k⟩
 show pr P (Op.intDiv .quo .i64 a b)=_
 unfold Op.intDiv
 rw[ei h];rfl
theorem WV(h:b≠0)(k:K (hZ (a.tmod b))):eU P (kq .rem T cx cy (hZ a) (hZ b)) K:=by
 refine⟨_,?_,k⟩
 show pr P (Op.intDiv .rem .i64 a b)=_
 unfold Op.intDiv
 rw[ei h];rfl
end
def su{α:Type}[Flat α]{P:Program}{w w0:World}{A:Nat->Prop}{L:List HP}{xs:List α}{T E U:Nat}{z:Option Nat}{v:Value}{i:Int}{K:Value->Prop}(ht:eQ P T=some (E,m8 α,U,z))
  (I:St w0 A (bH v xs::L) w) (Y:0<=i) (h1:i<=xs.length) (k:∀M,St w0 A (bH M (xs.take i.toNat)::L) w->K M):eU P (ob T v none (some (hZ i)) none) K:=by
 obtain⟨a,cap,u,Ax,_⟩:=I.dS
 refine⟨_,(by rw[u];exact wO ht (oy (.inl ⟨rfl,rfl⟩) (.inr ⟨i,rfl,Y,rfl⟩) (l6 _) bO)),k _ ?_⟩
 refine I.rF λF G=>?_
 rcases G with⟨B,W,V⟩|⟨b,Z,rest,BZ,hb,J,G⟩
 .rw[B]at u
  subst W
  simp only[zH.injEq]at u
  obtain⟨rfl,_,rfl⟩:=u
  have hi:i.toNat=0:=by simp at h1;omega
  refine⟨F,.inl ⟨?_,ee,V⟩,λb hb=>.inl hb,gz.refl _ _⟩
  rw[hi];rfl
 rw[BZ]at u
 simp only[zH.injEq]at u
 obtain⟨rfl,_,rfl⟩:=u
 refine⟨F,.inr ⟨b,Z,flat (xs.drop i.toNat)++rest,?_,?_,?_,G⟩,λb hb=>.inl hb,gz.refl _ _⟩
 .have O:(xs.take i.toNat).length=i.toNat:=by rw[l2];omega
  rw[O]
  simp[gI]
 .rw[<- n5,<- gJ,qa];exact hb
 exact⟨xe (by rw[l2];omega) J.1,by rw[<- n5,<- gJ,qa];exact J.2⟩
section
variable {P:Program}{w w':World}{v:Value}
theorem DL.flat{α:Type}[Flat α][D:Deep α α]{xs:List α}(h:DL w v xs)(hD:∀w s x,D.dr w s x↔s=x:=by intros;exact Iff.rfl):dA (λ_=>True) w v xs:=by
 obtain⟨ts,h1,h2⟩:=h.open
 rw[(Hm hD).1 h2]at h1;exact h1
theorem DL.j4{α:Type}[Flat α][D:Deep α α]{xs:List α}(h:dA (λ_=>True) w v xs)(hD:∀w s x,D.dr w s x↔s=x:=by intros;exact Iff.rfl):DL w v xs:=DL.of h ((Hm hD).2 rfl)
theorem Ly{α:Type}[Flat α]{S:Nat->Prop}{xs:List α}{T E B:Nat}{z:Option Nat}{lo hi:Option Value}{l h:Nat}{K:Value->Prop}(ht:eQ P T=some (E,m8 α,B,z))(M:dA S w v xs)
  (J:lo=none/\l=0\/∃i:Int,lo=some (hZ i)/\0<=i/\l=i.toNat) (G:hi=none/\h=xs.length\/∃i:Int,hi=some (hZ i)/\0<=i/\h=i.toNat)
  (h1:l<=h) (h2:h<=xs.length) (k:∀u,(∀w',dA S w' v xs->dA S w' u ((xs.take h).drop l))->K u):eU P (ob T v lo hi none) K:=by
 obtain⟨a,cap,rfl,O,h3⟩:=M
 exact⟨_,wO ht (oy J G h1 bO),k _ λw' I=>I.cut rfl h1 h2⟩
theorem zG{α:Type}[Flat α]{S:Nat->Prop}{xs:List α}{T E I:Nat}{z:Option Nat}{i:Int}{K:Value->Prop}(ht:eQ P T=some (E,m8 α,I,z))(G:dA S w v xs)
  (B:0<=i) (h2:i<=xs.length) (k:∀u,(∀w',dA S w' v xs->dA S w' u (xs.drop i.toNat))->K u):eU P (ob T v (some (hZ i)) none none) K:=
 Ly ht G (.inr ⟨i,rfl,B,rfl⟩) (.inl ⟨rfl,rfl⟩) bO (pb _) λu h=>k u λw' J=>cL
theorem oB{α:Type}[Flat α]{S:Nat->Prop}{xs:List α}{T E I:Nat}{z:Option Nat}{i j:Int}{K:Value->Prop}(ht:eQ P T=some (E,m8 α,I,z))(G:dA S w v xs)
  (B:0<=i) (h1:i<=j) (h2:j<=xs.length) (k:∀u,(∀w',dA S w' v xs->dA S w' u ((xs.take j.toNat).drop i.toNat))->K u):eU P (ob T v (some (hZ i)) (some (hZ j)) none) K:=
 Ly ht G (.inr ⟨i,rfl,B,rfl⟩) (.inr ⟨j,rfl,bO,rfl⟩) bO bO k
theorem DL.cut{α σ:Type}[Flat σ][Deep α σ]{xs:List α}{ts:List σ}{u:Value}{l h:Nat}(B:∀w',dA (λ_=>True) w' v ts->dA (λ_=>True) w' u ((ts.take h).drop l))(E:dA (λ_=>True) w v ts)(hD:gy ts xs w):DL w u ((xs.take h).drop l):=
 DL.of (B w E) ((hD.take h).drop l)
theorem DL.WW{α σ:Type}[Flat σ][Deep α σ]{xs:List α}{ts:List σ}{u:Value}{l:Nat}(B:∀w',dA (λ_=>True) w' v ts->dA (λ_=>True) w' u (ts.drop l))(E:dA (λ_=>True) w v ts)(hD:gy ts xs w):DL w u (xs.drop l):=
 DL.of (B w E) (hD.drop l)
theorem EC{a b:ByteArray}:(a.toList == b.toList)=decide (a=b):=by
 rw[ByteArray.toList_eq,ByteArray.toList_eq,Bool.eq_iff_iff,beq_iff_eq,decide_eq_true_eq]
 constructor
 .intro h
  obtain⟨a⟩:=a
  simp_all
 grind
theorem jK{T:Nat}{cx cy:Bool}{a b:ByteArray}{K:Value->Prop}(k:K (.bool (decide (a=b)))):eU P (kq .eql T cx cy (.string a) (.string b)) K:=by
 rw[<- EC]at k
 exact⟨_,rfl,k⟩
theorem ma{T:Nat}{cx cy:Bool}{a b:ByteArray}{K:Value->Prop}(k:K (.bool (decide (¬ a=b)))):eU P (kq .neq T cx cy (.string a) (.string b)) K:=by
 refine⟨_,rfl,?_⟩
 have:(!(a.toList == b.toList))=decide (¬ a=b):=by rw[EC];grind
 grind
end
def iQ(s:ByteArray):List UInt8:=s.data.toList
theorem eX(s:ByteArray):(iQ s).length=s.size:=by simp_all[iQ]
theorem RV(s:ByteArray)(i:Nat):(iQ s)[i]?=if h:i<s.size then some (s[i]'h)else none:=by
 unfold iQ
 by_cases h:i<s.size
 .rw[dif_pos h,Array.getElem?_toList]
  exact Array.getElem?_eq_getElem h
 simp_all
section
variable {P:Program}{T R:Nat}{cx cy:Bool}{a b:Int}{K:Value->Prop}
theorem fj{s:ByteArray}(u:P.underlying T=some .string)(k:K (hZ (s.size:Int))):eU P (Builtin.len_ #[T] R [H4 s].toArray) K:=by
 refine⟨_,?_,k⟩
 show pr P (do
  match <- underlying T,H4 s with
  | .string,.string s=>pure (goInt s.size)
  | .array n _,_=>pure (goInt n)
  | .pointer arr,_=>
   let .array n _ <- underlying arr|stuck "len: pointer to array expected"
   pure (goInt n)
  | .slice _,.slice _ n _=>pure (goInt n)
  | .map _ _,.map none|.chan _ _,.chan none=>pure (goInt 0)
  | .map _ _,.map (some r)=>
   let .map entries _ <- getObj r|stuck "len: map expected"
   pure (goInt entries.size)
  | .chan _ _,.chan (some r)=>
   let .chan _ buf _ _ _ timer <- getObj r|stuck "len: channel expected"
   pure (goInt (if timer then 0 else buf.size))
  | _, _ => stuck "len: string, array, pointer to array, slice, map or channel expected")=_
 rw[cX,cZ u];rfl
theorem jY{s:ByteArray}{i:Int}{e:UInt8}(B:P.underlying T=some .string)(E:0<=i)(u:(iQ s)[i.toNat]?=some e)(k:K (.int .u8 (e.toNat:Int))):eU P (vp T (.string s) (hZ i)) K:=by
 refine⟨_,?_,k⟩
 rw[RV]at u
 have hi:i.toNat<s.size:=by
  grind
 rw[dif_pos hi]at u
 have h3:(if 0<=i then s[i.toNat]? else none)=some e:=cL
 unfold vp
 simp only[asIntOf,cX,cZ B,nj,fS,h3]
theorem n6{s:ByteArray}{i:Int}(u:P.underlying T=some .string)(B:0<=i)(h1:i<=s.size)(k:K (.string (s.extract 0 i.toNat))):eU P (ob T (.string s) none (some (hZ i)) none) K:=by
 refine⟨_,?_,k⟩
 unfold ob
 rw[cX,cZ u]
 simp only[nj]
 unfold P3
 rw[cX,cZ u]
 simp only[nj]
 rw[ei dD]
 have hb:pr P (v7 false s.size s.size none (some (hZ i)) none)=some (0,i.toNat,s.size):=by
  simp only[v7,cX,fS,nj]
  rw[jo B h1];rfl
 rw[cX,hb];rfl
theorem Lz{s:ByteArray}{i j:Int}(u:P.underlying T=some .string)(B:0<=i)(E:i<=j)(h1:j<=s.size)(k:K (.string (s.extract i.toNat j.toNat))):eU P (ob T (.string s) (some (hZ i)) (some (hZ j)) none) K:=by
 refine⟨_,?_,k⟩
 unfold ob
 rw[cX,cZ u]
 simp only[nj]
 unfold P3
 rw[cX,cZ u]
 simp only[nj]
 rw[ei dD]
 have hb:pr P (v7 false s.size s.size (some (hZ i)) (some (hZ j)) none)=some (i.toNat,j.toNat,s.size):=by
  simp only[v7,cX,fS,nj]
  rw[jo bO h1];simp only[nj];rw[jo B bO];rfl
 rw[cX,hb];rfl
theorem AP(k:K (.bool (decide (a<=b)))):eU P (kq .leq T cx cy (.int .u8 a) (.int .u8 b)) K:=⟨_,rfl,k⟩
theorem AQ(k:K (.bool (decide (b<=a)))):eU P (kq .geq T cx cy (.int .u8 a) (.int .u8 b)) K:=⟨_,rfl,k⟩
theorem nL(k:K (.bool (decide (a=b)))):eU P (kq .eql T cx cy (.int .u8 a) (.int .u8 b)) K:=⟨_,rfl,k⟩
theorem WX(k:K (.bool (decide (a≠b)))):eU P (kq .neq T cx cy (.int .u8 a) (.int .u8 b)) K:=
 ⟨_,(show pr P (kq .neq T cx cy (.int .u8 a) (.int .u8 b))=some (.bool (decide (a≠b)))from by
  show some (xl (a != b))=_
  grind),k⟩
theorem LA{t:Array TypeId}{R:TypeId}{c:Int}(k:K (hZ (max (max a b) c))):eU P (Builtin.max_ t R [hZ a,hZ b,hZ c].toArray) K:=by
 refine⟨_,?_,k⟩
 show pr P (do Builtin.max2 (<- Builtin.max2 (hZ a) (hZ b)) (hZ c))=_
 have h:∀x y:Int,pr P (Builtin.max2 (hZ x) (hZ y))=some (hZ (max x y)):=by
  intro x y
  unfold Builtin.max2
  by_cases h:x<y
  .simp[h,fS];omega
  .simp[h,fS];omega
 rw[cX,h]
 exact h _ _
end
def fV{α σ:Type}[Flat σ][Deep α σ](v:Value)(xs:List α):HP:=pM λts:List σ=>sep (bH v ts) (eF (gy ts xs))
section
variable {P:Program}{α σ:Type}[Flat σ] [D:Deep α σ] {w w' w0:World}{v src:Value}{A:Nat->Prop}{L:List HP}{xs ys:List α}
theorem St.RW(u:St w0 A (fV v xs::L) w):∃ts:List σ,St w0 A (bH v ts::Fw.eF (gy ts xs)::L) w:=by
 obtain⟨ts,h⟩:=u.eo;exact⟨ts,h.split⟩
theorem St.Hn{ts:List σ}(u:St w0 A (bH v ts::Fw.eF (gy ts xs)::L) w):St w0 A (fV v xs::L) w:=
 St.ep (H:=λts:List σ=>sep (bH v ts) (Fw.eF (gy ts xs))) ts (St.join u)
theorem St.anV{ts:List σ}(u:St w0 A (bH v ts::Fw.eF (gy ts xs)::L) w):ts.length=xs.length:=u.p1.eF.1
theorem St.Jd(u:St w0 A L w):St w0 A (fV (.slice none 0 0) ([]:List α)::L) w:=
 St.Hn (ts:=[]) ((u.fr λ_=>gy.nil).eM)
theorem St.avo(u:St w0 A (bH v ([]:List σ)::L) w):St w0 A (fV v ([]:List α)::L) w:=
 St.Hn (ts:=[]) (u.fr (Φ:=gy ([]:List σ) ([]:List α)) λ_=>gy.nil).p1
theorem St.avp{s:σ}{x:α}(u:St w0 A (bH v [s]::Fw.eF (λw=>Deep.dr w s x)::L) w):St w0 A (fV v [x]::L) w:=by
 refine St.Hn (ts:=[s]) ?_
 refine(u.p1.dN (Ψ:=gy [s] [x]) λw h=>?_).p1
 exact(gy.nil (w:=w)).snoc h
theorem St.avq{ts us:List σ}(u:St w0 A (bH v (ts++us)::Fw.eF (gy ts xs)::Fw.eF (gy us ys)::L) w):St w0 A (fV v (xs++ys)::L) w:=by
 have h1:=(u.p1:St w0 A (Fw.eF (gy ts xs)::bH v (ts++us)::Fw.eF (gy us ys)::L) w)
 have h2:=h1.p2.p1
 refine St.Hn (ts:=ts++us) ?_
 exact(h2.hG.dN (Ψ:=gy (ts++us) (xs++ys)) λw h=>h.1.append h.2).p1
theorem St.m4(u:St w0 A (fV v xs::L) w):St w0 A (Fw.eF (λw=>DL w v xs)::L) w:=by
 obtain⟨ts,h⟩:=u.RW
 exact h.freeze.hG.dN λw h=>DL.of h.1 h.2
theorem St.dl(u:St w0 A (fV v xs::L) w):DL w v xs:=u.m4.eF
theorem St.o7(u:St w0 A (fV v xs::L) w):∃s:SV,v=j0 s:=u.dl.fK
theorem St.enc{b:Nat}{cs cs':List Value}(u:St w0 A (bY b cs::L) w)(h:cs=cs'):St w0 A (bY b cs'::L) w:=h▸u
theorem tM{T E B:Nat}{K:Value->hM}(u:St w0 A L w)(ht:VA P T E (m8 σ) B)(k:∀v w',St w0 A (fV v ([]:List α)::L) w'->K v w'):rR P (KN T 0 ([]:List (Nat×Value)).toArray) w K:=
 bD ([]:List σ) u ht rfl rfl ee λv w' h=>k v w' h.avo
theorem gj{T E B:Nat}{s:σ}{x:α}{K:Value->hM}(u:St w0 A (Fw.eF (λw=>Deep.dr w s x)::L) w)(ht:VA P T E (m8 σ) B)(G:m8 σ<=64)(k:∀v w',St w0 A (fV v [x]::L) w'->K v w') :
  rR P (KN T 1 [(0,j0 s)].toArray) w K:=
 bD [s] u ht rfl rfl (by simp;omega) λv w' h=>k v w' h.avp
theorem gk{T E G R:Nat}{K:Value->hM}(I:St w0 A (fV v xs::fV src ys::L) w)(ht:VA P T E (m8 σ) G)
  (M:xs.length+ys.length<=1073741824) (B:G<=8192) (k:∀u w',St w0 A (fV u (xs++ys)::L) w'->K u w'):rR P (Builtin.append_ #[T,T] R [v,src].toArray) w K:=by
 obtain⟨us,h1⟩:=I.p1.RW
 obtain⟨ts,h2⟩:=h1.p2.RW
 have J:=h1.anV
 have O:=h2.anV
 refine bJ h2 ht h2.p2.dS bO B λu w' h=>k u w' ?_
 exact h.p2.drop.avq
theorem jB{β:Type}[Flat β]{T:Nat}{b o:Nat}{cs:List Value}(x:β)(ht:dF P T=some (IT β,m8 β))(hb:mW w b cs)(u:(cs.drop o).take (m8 β)=kp x) :
  (yx T (.pointer (some ⟨b,o,none⟩))).run P w=.ok (j0 x) w:=by
 refine eA (S:=λ_=>True) ht ⟨b,o,rfl,trivial,λj c B=>hb.cell ?_⟩
 grind
end
instance:Flat UInt8 where
 agg:=false
 sz:=1
 enc b:=[.int .u8 b.toNat]
 val b:=.int .u8 b.toNat
 pos:=dD
 len _:=rfl
 one a v h:=by rw[wy.1 h];rfl
 nD h:=by cases h
 nX _ _:=rfl
instance:Deep UInt8 UInt8:=je
def tN{α σ:Type}[Flat σ][Deep α σ](P:Program)(w:World)(f:Value)(φ:α->Prop)(g:α->Bool):Prop:=∃B first cap,f=.func (.func B) (PM first) (PM cap)/\Plain P B/\
 ∀(s:σ) (x:α) u,Ext w u->Deep.dr u s x->φ x->Calls P B (first++[j0 s]++cap).toArray u (ub λv E=>v=.bool (g x)/\Ext u E)
theorem tN.ext{α σ:Type}[Flat σ][Deep α σ]{P:Program}{w w':World}{f:Value}{φ:α->Prop}{g:α->Bool}(h:tN P w f φ g)(e:Ext w w'):tN P w' f φ g:=by
 obtain⟨B,first,cap,h1,h2,h3⟩:=h;exact⟨B,first,cap,h1,h2,λs x E u=>h3 s x E (e.trans u)⟩
def Ho{α:Type}[Flat α]{P:Program}{S:Nat->Prop}{w:World}{T E:TypeId}{cx cy:Bool}{v:Value}{xs:List α}{K:Value->Prop}(h:P.underlying T=some (.slice E))(B:dA S w v xs)(k:∀p:Bool,(p=true->xs=[])->K (.bool p)) :
  eU P (kq .eql T cx cy v (.slice none 0 0)) K:=by
 obtain⟨a,cap,rfl,_,h3⟩:=B
 have u:pr P (Op.equal T (.slice a xs.length cap) (.slice none 0 0))=some a.isNone:=by
  show pr P (Op.equalIn 10000 T (.slice a xs.length cap) (.slice none 0 0))=_
  unfold Op.equalIn
  rw[cX,cZ h]
  cases a<;>rfl
 refine⟨_,?_,k a.isNone λG=>?_⟩
 .show pr P (do pure (xl (<- Op.equal T (.slice a xs.length cap) (.slice none 0 0))))=_
  rw[yf,u];rfl
 grind
structure Ptr where
 b:Nat
deriving DecidableEq
instance:Flat Ptr where
 agg:=false
 sz:=1
 enc p:=[.pointer (some ⟨p.b,0,none⟩)]
 val p:=.pointer (some ⟨p.b,0,none⟩)
 pos:=dD
 len _:=rfl
 one a v h:=by rw[wy.1 h];rfl
 nD h:=by cases h
 nX _ _:=rfl
instance:Deep Ptr Ptr:=je
def ic{α κ:Type}(H:κ->α->HP):List κ->List α->HP
 | [],[]=>emp
 | p::ps,x::xs=>sep (H p x) (ic H ps xs)
 | _,_=>fact False emp
section
variable {P:Program}{α κ:Type}{H:κ->α->HP}{A:Nat->Prop}{w0 w:World}{L:List HP}
theorem B3:∀{ps:List κ}{xs:List α}{F:Nat->Prop},(ic H ps xs).p w F->ps.length=xs.length
 | [],[],_,_=>rfl
 | s::ss,x::xs,F,h=>by
  obtain⟨B,u,_,h2,_,_⟩:=h
  rw[o1,o1,B3 h2]
 | [],_::_,_,h=>h.1.elim
 | _::_,[],_,h=>h.1.elim
theorem St.iZ{ps:List κ}{xs:List α}(u:St w0 A (ic H ps xs::L) w):ps.length=xs.length:=by
 obtain⟨F,h,_⟩:=u.head;exact B3 h
theorem St.AR(u:St w0 A L w):St w0 A (ic H [] []::L) w:=u.new (Ext.refl w) (F:=aZ) (λ_ h=>h) λ_ h=>h.elim
def nM(H:κ->α->HP)(ps:List κ)(xs:List α)(i:Nat):HP:=sep (ic H (ps.take i) (xs.take i)) (ic H (ps.drop (i+1)) (xs.drop (i+1)))
theorem CO:∀{ps:List κ}{xs:List α}{i:Nat}{p:κ}{x:α}{F:Nat->Prop},(ic H ps xs).p w F->ps[i]?=some p->xs[i]?=some x->(sep (H p x) (nM H ps xs i)).p w F
 | I::ps,x'::xs,0,p,x,F,h,u,hx=>by
  rw[List.getElem?_cons_zero]at u hx
  obtain rfl:=oq.inj u
  obtain rfl:=oq.inj hx
  obtain⟨B,E,h1,h2,h3,h4⟩:=h
  exact⟨B,E,h1,⟨aZ,E,λ_ h=>h,h2,λ_ h=>h.elim,λb=>⟨.inr,λh=>h.elim (λh=>h.elim) id⟩⟩,h3,h4⟩
 | I::ps,x'::xs,i+1,p,x,F,h,u,hx=>by
  rw[Pl]at u hx
  obtain⟨B,E,h1,h2,h3,h4⟩:=h
  obtain⟨O,Z,J,⟨G,K2,U,W,k3,Y⟩,g3,M⟩:=CO h2 u hx
  refine⟨O,λb=>B b\/Z b,J,⟨λb=>B b\/G b,K2,⟨B,G,h1,U,λb hb V=>h3 b hb ((M b).2 (.inr ((Y b).2 (.inl V)))),λb=>Iff.rfl⟩,W,?_,?_⟩,?_,?_⟩
  .grind
  .grind
  .grind
  grind
 | [],[],_,_,_,_,_,u,_=>by simp at u
 | [],_::_,_,_,_,_,h,_,_=>h.1.elim
 | _::_,[],_,_,_,_,h,_,_=>h.1.elim
theorem B4:∀{ps:List κ}{xs:List α}{i:Nat}{p:κ}{x:α}{F:Nat->Prop},i<xs.length->ps.length=xs.length->(sep (H p x) (nM H ps xs i)).p w F->(ic H (ps.set i p) (xs.set i x)).p w F
 | O::ps,x'::xs,0,p,x,F,_,_,h=>by
  obtain⟨B,E,h1,⟨Z,K2,W,I,M,J⟩,h3,h4⟩:=h
  refine⟨B,E,h1,?_,h3,h4⟩
  have e:E=K2:=funext λb=>propext ((J b).trans ⟨λh=>h.elim (λh=>(W b h).elim) id,.inr⟩)
  grind
 | O::ps,x'::xs,i+1,p,x,F,hi,hl,h=>by
  obtain⟨G,G2,V,⟨Z,K2,⟨B,u,f1,Y,f3,U⟩,I,M,J⟩,g3,g4⟩:=h
  refine⟨B,λb=>G b\/(u b\/K2 b),f1,B4 cL cL ⟨G,λb=>u b\/K2 b,V,⟨u,K2,Y,I,λb hb hk=>M b ((U b).2 (.inr hb)) hk,λb=>Iff.rfl⟩,?_,λb=>Iff.rfl⟩,?_,?_⟩
  .grind
  .grind
  grind
 | [],_::_,_,_,_,_,_,hl,_=>by simp at hl
 | _,[],_,_,_,_,hi,_,_=>by simp at hi
theorem m6{β:Type}:∀{ps:List β}{i:Nat}{p:β},ps[i]?=some p->ps.set i p=ps
 | [],_,_,h=>by simp at h
 | y::ps,0,p,h=>by grind
 | y::ps,i+1,p,h=>by rw[Pl]at h;rw[List.set_cons_succ,m6 h]
theorem O5{ps:List κ}{xs:List α}{i:Nat}{p:κ}{x:α}{F:Nat->Prop}(hi:i<xs.length)(B:ps.length=xs.length)(u:ps[i]?=some p)(h:(sep (H p x) (nM H ps xs i)).p w F):(ic H ps (xs.set i x)).p w F:=by
 have:=B4 hi B h;rwa [m6 u]at this
theorem Hp:∀{ps qs:List κ}{xs ys:List α}{F:Nat->Prop},(sep (ic H ps xs) (ic H qs ys)).p w F->(ic H (ps++qs) (xs++ys)).p w F
 | [],qs,[],ys,F,⟨B,u,h1,h2,_,h4⟩=>by
  have:F=u:=funext λb=>propext ((h4 b).trans ⟨λh=>h.elim (λh=>(h1 b h).elim) id,.inr⟩)
  grind
 | p::ps,qs,x::xs,ys,F,⟨B,u,⟨G1,G2,g1,g2,g3,g4⟩,h2,h3,h4⟩=>by
  refine⟨G1,λb=>G2 b\/u b,g1,Hp ⟨G2,u,g2,h2,λb hb=>h3 b ((g4 b).2 (.inr hb)),λb=>Iff.rfl⟩,λb hb=>?_,λb=>cL⟩
  grind
 | [],_,_::_,_,_,⟨_,_,h,_⟩=>h.1.elim
 | _::_,_,[],_,_,⟨_,_,h,_⟩=>h.1.elim
theorem St.focus{ps:List κ}{xs:List α}{i:Nat}{p:κ}{x:α}(E:St w0 A (ic H ps xs::L) w)(B:ps[i]?=some p)(G:xs[i]?=some x):St w0 A (H p x::nM H ps xs i::L) w:=
 (E.rF (H':=sep (H p x) (nM H ps xs i)) λF u=>⟨F,CO u B G,λb hb=>.inl hb,gz.refl _ _⟩).split
theorem St.DE{ps:List κ}{xs:List α}{i:Nat}{p:κ}{x:α}(G:St w0 A (H p x::nM H ps xs i::L) w)(hi:i<xs.length)(B:ps.length=xs.length)(E:ps[i]?=some p):St w0 A (ic H ps (xs.set i x)::L) w:=
 (St.join G).rF λF u=>⟨F,O5 hi B E u,λb hb=>.inl hb,gz.refl _ _⟩
theorem ED:∀{ps:List κ}{xs:List α}{p:κ}{x:α}{B u F:Nat->Prop},(ic H ps xs).p w B->(H p x).p w u->(∀b,B b->¬ u b)->(∀b,F b↔B b\/u b)->(ic H (ps++[p]) (xs++[x])).p w F
 | [],[],p,x,B,u,F,h1,h2,_,h4=>⟨u,B,h2,h1,λb _ E=>h1 b E,λb=>cL⟩
 | s'::ss,x'::xs,p,x,B,u,F,h1,h2,h3,h4=>by
  obtain⟨M,O,I,G,U,J⟩:=h1
  refine⟨M,λb=>O b\/u b,I,ED G h2 (λb hb=>h3 b ((J b).2 (.inr hb))) (λb=>Iff.rfl),λb hb=>?_,λb=>?_⟩
  .grind
  grind
 | [],_::_,_,_,_,_,_,h,_,_,_=>h.1.elim
 | _::_,[],_,_,_,_,_,h,_,_,_=>h.1.elim
theorem St.EE{ps:List κ}{xs:List α}{p:κ}{x:α}(B:St w0 A (ic H ps xs::H p x::L) w):St w0 A (ic H (ps++[p]) (xs++[x])::L) w:=by
 refine(St.join B).rF λF u=>?_
 obtain⟨G,E,h1,h2,h3,h4⟩:=u
 exact⟨F,ED h1 h2 h3 h4,λb hb=>.inl hb,gz.refl _ _⟩
theorem St.EF{ps:List κ}{xs:List α}{i:Nat}{p:κ}{x:α}(E:St w0 A (H p x::nM H ps xs i::L) w)(hi:i<xs.length)(B:ps.length=xs.length):St w0 A (ic H (ps.set i p) (xs.set i x)::L) w:=
 (St.join E).rF λF u=>⟨F,B4 hi B u,λb hb=>.inl hb,gz.refl _ _⟩
theorem St.TV{ps:List κ}{xs:List α}{i:Nat}(B:St w0 A (nM H ps xs i::L) w):St w0 A (ic H (ps.eraseIdx i) (xs.eraseIdx i)::L) w:=by
 rw[vE,vE]
 exact B.rF λF u=>⟨F,Hp u,λb hb=>.inl hb,gz.refl _ _⟩
theorem St.ah0{ps:List κ}{xs:List α}{i:Nat}{p:κ}{x:α}{Φ:hM}(E:St w0 A (ic H ps xs::L) w)(B:ps[i]?=some p)(G:xs[i]?=some x)(h:∀{w F},(H p x).p w F->Φ w):Φ w:=by
 obtain⟨F,u,_⟩:=(E.focus B G).head;exact h u
end
end Go.Fw
namespace Go.Proofs.YtpdlpabnlkofmaaGreatDoor
open Go.Fw
@[ext] structure cK where
 name:ByteArray
 n:Int
 at_:Int
deriving DecidableEq
instance:Flat cK where
 agg:=true
 sz:=3
 enc e:=[.string e.name,hZ e.n,hZ e.at_]
 val e:=.agg [.string e.name,hZ e.n,hZ e.at_].toArray
 pos:=dD
 len _:=rfl
 one a v h:=by simp at h;rcases h with rfl|rfl|rfl<;>rfl
 nD _ _:=rfl
 nX h:=by cases h
instance:Deep cK cK:=je
def ym(x:cK):Prop:=x.name.size<=maxLen/\eY x.n/\eY x.at_
@[ext] structure cA where
 op:Int
 n:Int
 name:ByteArray
 at_:Int
deriving DecidableEq
instance:Flat cA where
 agg:=true
 sz:=4
 enc e:=[hZ e.op,hZ e.n,.string e.name,hZ e.at_]
 val e:=.agg [hZ e.op,hZ e.n,.string e.name,hZ e.at_].toArray
 pos:=dD
 len _:=rfl
 one a v h:=by simp at h;rcases h with rfl|rfl|rfl|rfl<;>rfl
 nD _ _:=rfl
 nX h:=by cases h
instance:Deep cA cA:=je
def AS(x:cA):Prop:=eY x.op/\eY x.n/\x.name.size<=maxLen/\eY x.at_
structure bQ where
 kind:Int
 eG:ByteArray
 name:ByteArray
 e:(List cA)
 f:(List cA)
 n:Int
 body:Int
 ey:Int
 at_:Int
deriving DecidableEq
structure bE where
 kind:Int
 eG:ByteArray
 name:ByteArray
 e:SV
 f:SV
 n:Int
 body:Int
 ey:Int
 at_:Int
instance:Flat bE where
 agg:=true
 sz:=9
 enc e:=[hZ e.kind,.string e.eG,.string e.name,.slice e.e.a e.e.n e.e.cap,.slice e.f.a e.f.n e.f.cap,hZ e.n,hZ e.body,hZ e.ey,hZ e.at_]
 val e:=.agg [hZ e.kind,.string e.eG,.string e.name,.slice e.e.a e.e.n e.e.cap,.slice e.f.a e.f.n e.f.cap,hZ e.n,hZ e.body,hZ e.ey,hZ e.at_].toArray
 pos:=dD
 len _:=rfl
 one a v h:=by simp at h;rcases h with rfl|rfl|rfl|rfl|rfl|rfl|rfl|rfl|rfl<;>rfl
 nD _ _:=rfl
 nX h:=by cases h
instance:Deep bQ bE where
 dr w s x:=∃(B:SV) (u:SV),s=(⟨x.kind,x.eG,x.name,B,u,x.n,x.body,x.ey,x.at_⟩:bE)/\DL w (j0 B) x.e/\DL w (j0 u) x.f
 ext h e:=by
  obtain⟨G,I,rfl,E,h1⟩:=h
  exact⟨G,I,rfl,E.ext e,h1.ext e⟩
def Je(x:bQ):Prop:=eY x.kind/\x.eG.size<=maxLen/\x.name.size<=maxLen/\(∀y∈x.e,AS y)/\(∀y∈x.f,AS y)/\eY x.n/\eY x.body/\eY x.ey/\eY x.at_
structure cO where
 name:ByteArray
 dQ:(List ByteArray)
 body:(List bQ)
 at_:Int
deriving DecidableEq
structure cH where
 name:ByteArray
 dQ:SV
 body:SV
 at_:Int
instance:Flat cH where
 agg:=true
 sz:=4
 enc e:=[.string e.name,.slice e.dQ.a e.dQ.n e.dQ.cap,.slice e.body.a e.body.n e.body.cap,hZ e.at_]
 val e:=.agg [.string e.name,.slice e.dQ.a e.dQ.n e.dQ.cap,.slice e.body.a e.body.n e.body.cap,hZ e.at_].toArray
 pos:=dD
 len _:=rfl
 one a v h:=by simp at h;rcases h with rfl|rfl|rfl|rfl<;>rfl
 nD _ _:=rfl
 nX h:=by cases h
instance:Deep cO cH where
 dr w s x:=∃(u:SV) (B:SV),s=(⟨x.name,u,B,x.at_⟩:cH)/\DL w (j0 u) x.dQ/\DL w (j0 B) x.body
 ext h e:=by
  obtain⟨G,I,rfl,E,h1⟩:=h
  exact⟨G,I,rfl,E.ext e,h1.ext e⟩
def yn(x:cO):Prop:=x.name.size<=maxLen/\(∀y∈x.dQ,(λy:ByteArray=>y.size<=maxLen) y)/\(∀y∈x.body,Je y)/\eY x.at_
structure gS where
 e:(List cA)
 at_:Int
deriving DecidableEq
structure jC where
 e:SV
 at_:Int
instance:Flat jC where
 agg:=true
 sz:=2
 enc e:=[.slice e.e.a e.e.n e.e.cap,hZ e.at_]
 val e:=.agg [.slice e.e.a e.e.n e.e.cap,hZ e.at_].toArray
 pos:=dD
 len _:=rfl
 one a v h:=by simp at h;rcases h with rfl|rfl<;>rfl
 nD _ _:=rfl
 nX h:=by cases h
instance:Deep gS jC where
 dr w s x:=∃(u:SV),s=(⟨u,x.at_⟩:jC)/\DL w (j0 u) x.e
 ext h e:=by
  obtain⟨B,rfl,E⟩:=h
  exact⟨B,rfl,E.ext e⟩
def EG(x:gS):Prop:=(∀y∈x.e,AS y)/\eY x.at_
structure cB where
 lines:(List (List cK))
 iR:(List cK)
 eK:(List cK)
 threads:(List cO)
 recover:(List cO)
 dT:(List gS)
deriving DecidableEq
structure bP where
 lines:SV
 iR:SV
 eK:SV
 threads:SV
 recover:SV
 dT:SV
instance:Flat bP where
 agg:=true
 sz:=6
 enc e:=[.slice e.lines.a e.lines.n e.lines.cap,.slice e.iR.a e.iR.n e.iR.cap,.slice e.eK.a e.eK.n e.eK.cap,.slice e.threads.a e.threads.n e.threads.cap,.slice e.recover.a e.recover.n e.recover.cap,.slice e.dT.a e.dT.n e.dT.cap]
 val e:=.agg [.slice e.lines.a e.lines.n e.lines.cap,.slice e.iR.a e.iR.n e.iR.cap,.slice e.eK.a e.eK.n e.eK.cap,.slice e.threads.a e.threads.n e.threads.cap,.slice e.recover.a e.recover.n e.recover.cap,.slice e.dT.a e.dT.n e.dT.cap].toArray
 pos:=dD
 len _:=rfl
 one a v h:=by simp at h;rcases h with rfl|rfl|rfl|rfl|rfl|rfl<;>rfl
 nD _ _:=rfl
 nX h:=by cases h
instance:Deep cB bP where
 dr w s x:=∃(E:SV) (u:SV) (G:SV) (B:SV) (I:SV) (J:SV),s=(⟨E,u,G,B,I,J⟩:bP)/\DL w (j0 E) x.lines/\DL w (j0 u) x.iR/\DL w (j0 G) x.eK/\DL w (j0 B) x.threads/\DL w (j0 I) x.recover/\DL w (j0 J) x.dT
 ext h e:=by
  obtain⟨V,Y,U,M,Z,W,rfl,O,h1,h2,h3,h4,h5⟩:=h
  exact⟨V,Y,U,M,Z,W,rfl,O.ext e,h1.ext e,h2.ext e,h3.ext e,h4.ext e,h5.ext e⟩
def acH(x:cB):Prop:=(∀y∈x.lines,(λys:(List cK)=>∀y∈ys,ym y) y)/\(∀y∈x.iR,ym y)/\(∀y∈x.eK,ym y)/\(∀y∈x.threads,yn y)/\(∀y∈x.recover,yn y)/\(∀y∈x.dT,EG y)
@[ext] structure oC where
 kind:Int
 n:Int
deriving DecidableEq
instance:Flat oC where
 agg:=true
 sz:=2
 enc e:=[hZ e.kind,hZ e.n]
 val e:=.agg [hZ e.kind,hZ e.n].toArray
 pos:=dD
 len _:=rfl
 one a v h:=by simp at h;rcases h with rfl|rfl<;>rfl
 nD _ _:=rfl
 nX h:=by cases h
instance:Deep oC oC:=je
structure aS where
 kind:Int
 t:Int
 i:Int
 cut:(List Int)
deriving DecidableEq
structure aI where
 kind:Int
 t:Int
 i:Int
 cut:SV
instance:Flat aI where
 agg:=true
 sz:=4
 enc e:=[hZ e.kind,hZ e.t,hZ e.i,.slice e.cut.a e.cut.n e.cut.cap]
 val e:=.agg [hZ e.kind,hZ e.t,hZ e.i,.slice e.cut.a e.cut.n e.cut.cap].toArray
 pos:=dD
 len _:=rfl
 one a v h:=by simp at h;rcases h with rfl|rfl|rfl|rfl<;>rfl
 nD _ _:=rfl
 nX h:=by cases h
instance:Deep aS aI where
 dr w s x:=∃(u:SV),s=(⟨x.kind,x.t,x.i,u⟩:aI)/\DL w (j0 u) x.cut
 ext h e:=by
  obtain⟨B,rfl,E⟩:=h
  exact⟨B,rfl,E.ext e⟩
def acI(x:aS):Prop:=eY x.kind/\eY x.t/\eY x.i/\(∀y∈x.cut,eY y)
@[ext] structure cI where
 kind:Int
 t:Int
 a:Int
 n:Int
 m:Int
deriving DecidableEq
instance:Flat cI where
 agg:=true
 sz:=5
 enc e:=[hZ e.kind,hZ e.t,hZ e.a,hZ e.n,hZ e.m]
 val e:=.agg [hZ e.kind,hZ e.t,hZ e.a,hZ e.n,hZ e.m].toArray
 pos:=dD
 len _:=rfl
 one a v h:=by simp at h;rcases h with rfl|rfl|rfl|rfl|rfl<;>rfl
 nD _ _:=rfl
 nX h:=by cases h
instance:Deep cI cI:=je
@[ext] structure ie where
 bZ:Int
 fault:Int
 t:Int
 done:Bool
 stuck:Bool
deriving DecidableEq
instance:Flat ie where
 agg:=true
 sz:=5
 enc e:=[hZ e.bZ,hZ e.fault,hZ e.t,.bool e.done,.bool e.stuck]
 val e:=.agg [hZ e.bZ,hZ e.fault,hZ e.t,.bool e.done,.bool e.stuck].toArray
 pos:=dD
 len _:=rfl
 one a v h:=by simp at h;rcases h with rfl|rfl|rfl|rfl|rfl<;>rfl
 nD _ _:=rfl
 nX h:=by cases h
instance:Deep ie ie:=je
@[ext] structure bI where
 kind:Int
 line:Int
 cell:Int
 n:Int
deriving DecidableEq
instance:Flat bI where
 agg:=true
 sz:=4
 enc e:=[hZ e.kind,hZ e.line,hZ e.cell,hZ e.n]
 val e:=.agg [hZ e.kind,hZ e.line,hZ e.cell,hZ e.n].toArray
 pos:=dD
 len _:=rfl
 one a v h:=by simp at h;rcases h with rfl|rfl|rfl|rfl<;>rfl
 nD _ _:=rfl
 nX h:=by cases h
instance:Deep bI bI:=je
@[ext] structure bT where
 kind:Int
 text:ByteArray
 n:Int
 at_:Int
deriving DecidableEq
instance:Flat bT where
 agg:=true
 sz:=4
 enc e:=[hZ e.kind,.string e.text,hZ e.n,hZ e.at_]
 val e:=.agg [hZ e.kind,.string e.text,hZ e.n,hZ e.at_].toArray
 pos:=dD
 len _:=rfl
 one a v h:=by simp at h;rcases h with rfl|rfl|rfl|rfl<;>rfl
 nD _ _:=rfl
 nX h:=by cases h
instance:Deep bT bT:=je
@[ext] structure m7 where
 line:Int
 cell:Int
 n:Int
deriving DecidableEq
instance:Flat m7 where
 agg:=true
 sz:=3
 enc e:=[hZ e.line,hZ e.cell,hZ e.n]
 val e:=.agg [hZ e.line,hZ e.cell,hZ e.n].toArray
 pos:=dD
 len _:=rfl
 one a v h:=by simp at h;rcases h with rfl|rfl|rfl<;>rfl
 nD _ _:=rfl
 nX h:=by cases h
instance:Deep m7 m7:=je
@[ext] structure kr where
 cell:Int
 n:Int
deriving DecidableEq
instance:Flat kr where
 agg:=true
 sz:=2
 enc e:=[hZ e.cell,hZ e.n]
 val e:=.agg [hZ e.cell,hZ e.n].toArray
 pos:=dD
 len _:=rfl
 one a v h:=by simp at h;rcases h with rfl|rfl<;>rfl
 nD _ _:=rfl
 nX h:=by cases h
instance:Deep kr kr:=je
structure RY where
 of:SV
 dW:SV
 l:SV
 k:SV
 w:SV
instance:Flat RY where
 agg:=true
 sz:=5
 enc e:=[.slice e.of.a e.of.n e.of.cap,.slice e.dW.a e.dW.n e.dW.cap,.slice e.l.a e.l.n e.l.cap,.slice e.k.a e.k.n e.k.cap,.slice e.w.a e.w.n e.w.cap]
 val e:=.agg [.slice e.of.a e.of.n e.of.cap,.slice e.dW.a e.dW.n e.dW.cap,.slice e.l.a e.l.n e.l.cap,.slice e.k.a e.k.n e.k.cap,.slice e.w.a e.w.n e.w.cap].toArray
 pos:=dD
 len _:=rfl
 one a v h:=by simp at h;rcases h with rfl|rfl|rfl|rfl|rfl<;>rfl
 nD _ _:=rfl
 nX h:=by cases h
def Jf(p:Bool):Int:=if p then 1 else 0
def EH(a b:Int):Int:=BM (a.tdiv b)
def yE(op a:Int):Int:=if op=3 then BM (0-a)else if op=4 then Jf (decide (a=0))else 0
def GC(op:Int):Int:=if op=3\/op=4 then 0 else 1
def lQ(op a b:Int):Int:=
 if op=5 then BM (a+b)else if op=6 then BM (a-b)else if op=7 then BM (a*b)else if op=8 then EH a b else if op=9 then a.tmod b
 else if op=10 then Jf (decide (a=b))else if op=11 then Jf (decide (¬ a=b))else if op=12 then Jf (decide (a<b))else if op=13 then Jf (decide (a<=b))
 else if op=14 then Jf (decide (¬ a=0)&&decide (¬ b=0))else if op=15 then Jf (decide (¬ a=0)||decide (¬ b=0))else 0
def gG(op b:Int):Int:=if op<5\/15<op then 1 else if (op=8\/op=9)/\b=0 then 12 else 0
def gC(op a b:Int):Int:=if gG op b=0 then lQ op a b else 0
theorem B5:EH (-9223372036854775808) (-1) = -9223372036854775808:=dD
theorem acJ{a b:Int}(M : -9223372036854775808<=a/\a<=9223372036854775807)(hb : -9223372036854775808<=b/\b<=9223372036854775807)(V:b≠0):BM (a-BM (b*EH a b))=a.tmod b:=by
 have h1:=Int.mul_tdiv_add_tmod a b
 by_cases hc:a = -9223372036854775808/\b = -1
 .obtain⟨rfl,rfl⟩:=hc
  decide
 have J : -9223372036854775808<=a.tdiv b/\a.tdiv b<=9223372036854775807:=by
  have h2:(a.tdiv b).natAbs<=a.natAbs:=by rw[aa2];exact Nat.div_le_self _ _
  by_cases B:a = -9223372036854775808
  .subst B
   have U:b≠-1:=λh=>hc ⟨rfl,h⟩
   by_cases I:b=1
   .grind
   .have h3:(Int.tdiv (-9223372036854775808) b).natAbs<=9223372036854775808 / 2:=by
     rw[aa2]
     exact Nat.div_le_div_left bO bO
    omega
  .omega
 have W:(a.tmod b).natAbs<b.natAbs:=by rw[Up];exact abv _ bO
 unfold EH
 rw[zF J]
 have B:b*a.tdiv b=a-a.tmod b:=bO
 have O:(a.tmod b).natAbs<=a.natAbs:=by rw[Up];exact abG _ _
 have G:(0<=a->0<=a.tmod b):=λh=>P6 b h
 have E:(a<=0->a.tmod b<=0):=λh=>by
  have:=P6 (a:=-a) b bO
  rw[abA]at this;omega
 have u:(-9223372036854775808<=a-a.tmod b/\a-a.tmod b<=9223372036854775807)/\-9223372036854775808<=a.tmod b/\a.tmod b<=9223372036854775807:=by
  rcases Zs 0 a with h|h
  .have:=G h;omega
  .have:=E h;omega
 rw[B,zF u.1,show a-(a-a.tmod b)=a.tmod b from bO,zF u.2]
def C305(p:Bool)(w:World):CR 305 [.bool p] w (λv w'=>v=hZ (Jf p)/\Ext w w'):=by
 have B:=St.start w;refine eZ Tryz.func305 ?_;refine aY (λu=>?_) (λu=>?_)
 .rw[u];exact⟨rfl,B.aG⟩
 rw[u];exact⟨rfl,B.aG⟩
def C302(p:Bool)(w:World):CR 302 [.bool p] w (λv w'=>v=hZ (Jf p)/\Ext w w'):=by
 have B:=St.start w;refine eZ Tryz.func302 ?_;refine aY (λu=>?_) (λu=>?_)
 .rw[u];exact⟨rfl,B.aG⟩
 rw[u];exact⟨rfl,B.aG⟩
def C303(a:Int)(w:World):CR 303 [hZ a] w (λv w'=>v=.bool (decide (¬ a=0))/\Ext w w'):=by
 have u:=St.start w;refine eZ Tryz.func303 ?_;exact bX ⟨rfl,u.aG⟩
def C306(a b:Int)(w:World)(h:b≠0):CR 306 [hZ a,hZ b] w (λv w'=>v=hZ (EH a b)/\Ext w w'):=by
 have u:=St.start w;refine eZ Tryz.func306 ?_;refine⟨_,?_,λ_ _ h=>h⟩;refine aH (aC (λE=>?_) λE=>?_)
 .refine aH ?_;intro G;refine aC (λB=>?_) (λB=>?_)
  .first|exact⟨rfl,u.aG⟩|(exfalso;simp_all;done)|(rw[E,B,B5];exact⟨rfl,u.aG⟩)
  refine EB h ?_
  first|exact⟨rfl,u.aG⟩|(exfalso;simp_all;done)|(rw[E,B,B5];exact⟨rfl,u.aG⟩)
 intro G;refine fw (EB h ?_)
 first|exact⟨rfl,u.aG⟩|(exfalso;simp_all;done)|(rw[E,B,B5];exact⟨rfl,u.aG⟩)
def C274(op a:Int)(w:World):CR 274 [hZ op,hZ a] w (λv w'=>v=.tuple #[hZ (yE op a),hZ (GC op)]/\Ext w w'):=by
 have B:=St.start w;refine eZ Tryz.func274 ?_;refine aH (aC (λu=>?_) λu=>aH (aC (λE=>?_) λE=>?_))
 .refine AO ?_;unfold yE GC
  first|(rw[ej u,ej (.inl u)];exact⟨rfl,B.aG⟩)|(rw[ei u,ej E,ej (.inr E)];exact⟨rfl,B.aG⟩)|(rw[ei u,ei E,ei bO];exact⟨rfl,B.aG⟩)
 .refine aH (aV Av B (C305 _ _) λ_ G B=>?_);unfold yE GC
  first|(rw[ej u,ej (.inl u)];exact⟨rfl,B.aG⟩)|(rw[ei u,ej E,ej (.inr E)];exact⟨rfl,B.aG⟩)|(rw[ei u,ei E,ei bO];exact⟨rfl,B.aG⟩)
 unfold yE GC
 first|(rw[ej u,ej (.inl u)];exact⟨rfl,B.aG⟩)|(rw[ei u,ej E,ej (.inr E)];exact⟨rfl,B.aG⟩)|(rw[ei u,ei E,ei bO];exact⟨rfl,B.aG⟩)
def C269(op a:Int)(w:World):CR 269 [hZ op,hZ a] w (λv w'=>v=.tuple #[hZ (yE op a),hZ (GC op)]/\Ext w w'):=by
 have B:=St.start w;refine eZ Tryz.func269 ?_;refine aH (aC (λu=>?_) λu=>aH (aC (λE=>?_) λE=>?_))
 .refine WU ?_;unfold yE GC
  first|(rw[ej u,ej (.inl u)];exact⟨rfl,B.aG⟩)|(rw[ei u,ej E,ej (.inr E)];exact⟨gQ (λp=>Ej #[hZ (Jf p),hZ 0]) ee,B.aG⟩)|(rw[ei u,ei E,ei bO];exact⟨rfl,B.aG⟩)
 .refine aV KS B (C303 _ _) (λ_ G B=>?_)
  first|refine KV ?_|refine bR ?_
  refine aV Wo B (C302 _ _) (λ_ G B=>?_);unfold yE GC
  first|(rw[ej u,ej (.inl u)];exact⟨rfl,B.aG⟩)|(rw[ei u,ej E,ej (.inr E)];exact⟨gQ (λp=>Ej #[hZ (Jf p),hZ 0]) ee,B.aG⟩)|(rw[ei u,ei E,ei bO];exact⟨rfl,B.aG⟩)
 unfold yE GC
 first|(rw[ej u,ej (.inl u)];exact⟨rfl,B.aG⟩)|(rw[ei u,ej E,ej (.inr E)];exact⟨gQ (λp=>Ej #[hZ (Jf p),hZ 0]) ee,B.aG⟩)|(rw[ei u,ei E,ei bO];exact⟨rfl,B.aG⟩)
def C275(op a b:Int)(w:World)(Y:eY a)(hb:eY b):CR 275 [hZ op,hZ a,hZ b] w (λv w'=>v=.tuple #[hZ (gC op a b),hZ (gG op b)]/\Ext w w'):=by
 have u:=St.start w;refine ach _ _ _ _ _ ?_;unfold S275;refine aH (aC (λU=>?_) λU=>?_)
 .refine uO ?_
  first|(unfold gC gG;rw[ej (show op<5\/15<op by omega)];exact⟨rfl,u.aG⟩)|(subst_vars;first|exact⟨rfl,u.aG⟩|(unfold gC gG lQ;simp_all<;>exact u.aG))
 refine aH (aC (λjs=>?_) λjs=>aH (aC (λZ=>?_) λZ=>aH (aC (λjG=>aH (aC (λO=>?_) λO=>?_)) λjG=>aH (aC (λkf=>aH (aC (λM=>?_) λM=>?_)) λkf=>aH (aC (λvY=>?_) λvY=>?_)))))
 .refine AO ?_
  first|(unfold gC gG;rw[ej (show op<5\/15<op by omega)];exact⟨rfl,u.aG⟩)|(subst_vars;first|exact⟨rfl,u.aG⟩|(unfold gC gG lQ;simp_all<;>exact u.aG))
 .refine xc ?_
  first|(unfold gC gG;rw[ej (show op<5\/15<op by omega)];exact⟨rfl,u.aG⟩)|(subst_vars;first|exact⟨rfl,u.aG⟩|(unfold gC gG lQ;simp_all<;>exact u.aG))
 .first|(unfold gC gG;rw[ej (show op<5\/15<op by omega)];exact⟨rfl,u.aG⟩)|(subst_vars;first|exact⟨rfl,u.aG⟩|(unfold gC gG lQ;simp_all<;>exact u.aG))
 .refine aV afU u (C306 _ _ _ O) (λ_ B u=>?_)
  first|(unfold gC gG;rw[ej (show op<5\/15<op by omega)];exact⟨rfl,u.aG⟩)|(subst_vars;first|exact⟨rfl,u.aG⟩|(unfold gC gG lQ;simp_all<;>exact u.aG))
 .first|(unfold gC gG;rw[ej (show op<5\/15<op by omega)];exact⟨rfl,u.aG⟩)|(subst_vars;first|exact⟨rfl,u.aG⟩|(unfold gC gG lQ;simp_all<;>exact u.aG))
 .refine aV afU u (C306 _ _ _ M) (λ_ B u=>xc (AO ?_));rw[acJ Y hb M]
  first|(unfold gC gG;rw[ej (show op<5\/15<op by omega)];exact⟨rfl,u.aG⟩)|(subst_vars;first|exact⟨rfl,u.aG⟩|(unfold gC gG lQ;simp_all<;>exact u.aG))
 .refine aH (aV Av u (C305 _ _) λ_ B u=>?_)
  first|(unfold gC gG;rw[ej (show op<5\/15<op by omega)];exact⟨rfl,u.aG⟩)|(subst_vars;first|exact⟨rfl,u.aG⟩|(unfold gC gG lQ;simp_all<;>exact u.aG))
 refine aH (aC (λsy=>?_) λsy=>aH (aC (λRZ=>?_) λRZ=>aH (aC (λE=>?_) λE=>aH (aC (λW=>⟨_,bX (aC (λJ=>?_) λJ=>?_),λ_ _ _ h=>h⟩) λW=>aH (aC (λI=>⟨_,bX (aC (λG=>?_) λG=>?_),λ_ _ _ h=>h⟩) λI=>?_)))))
 .refine bX (aV Av u (C305 _ _) λ_ B u=>?_)
  first|(unfold gC gG;rw[ej (show op<5\/15<op by omega)];exact⟨rfl,u.aG⟩)|(subst_vars;first|exact⟨rfl,u.aG⟩|(unfold gC gG lQ;simp_all<;>exact u.aG))
 .refine aR (aV Av u (C305 _ _) λ_ B u=>?_)
  first|(unfold gC gG;rw[ej (show op<5\/15<op by omega)];exact⟨rfl,u.aG⟩)|(subst_vars;first|exact⟨rfl,u.aG⟩|(unfold gC gG lQ;simp_all<;>exact u.aG))
 .refine gZ (aV Av u (C305 _ _) λ_ B u=>?_)
  first|(unfold gC gG;rw[ej (show op<5\/15<op by omega)];exact⟨rfl,u.aG⟩)|(subst_vars;first|exact⟨rfl,u.aG⟩|(unfold gC gG lQ;simp_all<;>exact u.aG))
 .refine bX (aV Av u (C305 _ _) λ_ B u=>?_);intro V
  first|(unfold gC gG;rw[ej (show op<5\/15<op by omega)];exact⟨rfl,u.aG⟩)|(subst_vars;first|exact⟨rfl,u.aG⟩|(unfold gC gG lQ;simp_all<;>exact u.aG))
 .refine aV Av u (C305 _ _) (λ_ B u=>?_);intro V
  first|(unfold gC gG;rw[ej (show op<5\/15<op by omega)];exact⟨rfl,u.aG⟩)|(subst_vars;first|exact⟨rfl,u.aG⟩|(unfold gC gG lQ;simp_all<;>exact u.aG))
 .refine aV Av u (C305 _ _) (λ_ B u=>?_);intro vZ
  first|(unfold gC gG;rw[ej (show op<5\/15<op by omega)];exact⟨rfl,u.aG⟩)|(subst_vars;first|exact⟨rfl,u.aG⟩|(unfold gC gG lQ;simp_all<;>exact u.aG))
 .refine bX (aV Av u (C305 _ _) λ_ B u=>?_);intro vZ
  first|(unfold gC gG;rw[ej (show op<5\/15<op by omega)];exact⟨rfl,u.aG⟩)|(subst_vars;first|exact⟨rfl,u.aG⟩|(unfold gC gG lQ;simp_all<;>exact u.aG))
 first|(unfold gC gG;rw[ej (show op<5\/15<op by omega)];exact⟨rfl,u.aG⟩)|(subst_vars;first|exact⟨rfl,u.aG⟩|(unfold gC gG lQ;simp_all<;>exact u.aG))
def sB:ahZ hH 348 16 288:=⟨by kernel_rfl,by kernel_rfl⟩
def anZ(b1 b2 b3 b4 u b6:Nat)(w:World):Prop:=
 Cell w b1 0 (.func (.func 329) #[] #[])/\Cell w b2 0 (.func (.func 330) #[] #[])/\Cell w b3 0 (.func (.func 331) #[] #[])/\Cell w b4 0 (.func (.func 332) #[] #[])/\Cell w u 0 (.func (.func 333) #[] #[])/\Cell w b6 0 (.func (.func 334) #[] #[])
def opsV(b1 b2 b3 b4 u b6:Nat):Value:=
 .agg [.nilFunc,.nilFunc,.nilFunc,.nilFunc,.nilFunc,.func (.func 324) #[] #[],.func (.func 325) #[] #[],.func (.func 326) #[] #[],.func (.func 327) #[] #[],.func (.func 328) #[] #[],
  .func (.func 323) #[] #[.pointer (some ⟨b1,0,none⟩)],.func (.func 323) #[] #[.pointer (some ⟨b2,0,none⟩)],.func (.func 323) #[] #[.pointer (some ⟨b3,0,none⟩)],.func (.func 323) #[] #[.pointer (some ⟨b4,0,none⟩)],
  .func (.func 323) #[] #[.pointer (some ⟨u,0,none⟩)],.func (.func 323) #[] #[.pointer (some ⟨b6,0,none⟩)]].toArray
def Fb2(f:Value)(g:Int->Int->Bool):Prop:=∃u,f=.func (.func u) #[] #[]/\Plain hH u/\
 ∀a b B,Calls hH u [hZ a,hZ b].toArray B (ub λv E=>v=.bool (g a b)/\Ext B E)
def C324(a b:Int)(w:World):CR 324 [hZ a,hZ b] w (λv w'=>v=hZ (BM (a+b))/\Ext w w'):=by
 have u:=St.start w;refine eZ Tryz.func324 ?_;exact uO ⟨rfl,u.aG⟩
def C325(a b:Int)(w:World):CR 325 [hZ a,hZ b] w (λv w'=>v=hZ (BM (a-b))/\Ext w w'):=by
 have u:=St.start w;refine eZ Tryz.func325 ?_;exact AO ⟨rfl,u.aG⟩
def C326(a b:Int)(w:World):CR 326 [hZ a,hZ b] w (λv w'=>v=hZ (BM (a*b))/\Ext w w'):=by
 have u:=St.start w;refine eZ Tryz.func326 ?_;exact xc ⟨rfl,u.aG⟩
def C327(a b:Int)(w:World)(h:b≠0):CR 327 [hZ a,hZ b] w (λv w'=>v=hZ (EH a b)/\Ext w w'):=by
 have u:=St.start w;refine eZ Tryz.func327 ?_;exact EB h ⟨rfl,u.aG⟩
def C328(a b:Int)(w:World)(h:b≠0):CR 328 [hZ a,hZ b] w (λv w'=>v=hZ (a.tmod b)/\Ext w w'):=by
 have u:=St.start w;refine eZ Tryz.func328 ?_;exact WV h ⟨rfl,u.aG⟩
def C329(a b:Int)(w:World):CR 329 [hZ a,hZ b] w (λv w'=>v=.bool (decide (a=b))/\Ext w w'):=by
 have u:=St.start w;refine eZ Tryz.func329 ?_;exact aH ⟨rfl,u.aG⟩
def C330(a b:Int)(w:World):CR 330 [hZ a,hZ b] w (λv w'=>v=.bool (decide (¬ a=b))/\Ext w w'):=by
 have u:=St.start w;refine eZ Tryz.func330 ?_;exact bX ⟨rfl,u.aG⟩
def C331(a b:Int)(w:World):CR 331 [hZ a,hZ b] w (λv w'=>v=.bool (decide (a<b))/\Ext w w'):=by
 have u:=St.start w;refine eZ Tryz.func331 ?_;exact aR ⟨rfl,u.aG⟩
def C332(a b:Int)(w:World):CR 332 [hZ a,hZ b] w (λv w'=>v=.bool (decide (a<=b))/\Ext w w'):=by
 have u:=St.start w;refine eZ Tryz.func332 ?_;exact gZ ⟨rfl,u.aG⟩
def C333(a b:Int)(w:World):CR 333 [hZ a,hZ b] w (λv w'=>v=.bool (decide (¬ a=0)&&decide (¬ b=0))/\Ext w w'):=by
 have u:=St.start w;refine eZ Tryz.func333 ?_;refine⟨_,?_,λ_ _ h=>h⟩;refine aV KS u (C303 _ _) (λ_ E u=>aC (λB=>?_) λB=>?_)
 .refine aV KS u (C303 _ _) (λ_ E u=>?_);intro G
  first|(rw[ew B];exact⟨rfl,u.aG⟩)|(rw[fP B];exact⟨rfl,u.aG⟩)
 intro G
 first|(rw[ew B];exact⟨rfl,u.aG⟩)|(rw[fP B];exact⟨rfl,u.aG⟩)
def C334(a b:Int)(w:World):CR 334 [hZ a,hZ b] w (λv w'=>v=.bool (decide (¬ a=0)||decide (¬ b=0))/\Ext w w'):=by
 have u:=St.start w;refine eZ Tryz.func334 ?_;refine⟨_,?_,λ_ _ h=>h⟩;refine aV KS u (C303 _ _) (λ_ E u=>aC (λB=>?_) λB=>?_)
 .intro G
  first|(rw[ew B];exact⟨rfl,u.aG⟩)|(rw[fP B];exact⟨rfl,u.aG⟩)
 refine aV KS u (C303 _ _) (λ_ E u=>?_);intro G
 first|(rw[ew B];exact⟨rfl,u.aG⟩)|(rw[fP B];exact⟨rfl,u.aG⟩)
def C322(g:Nat)(w:World):CR 322 [.func (.func g) #[] #[]] w (λv w'=>∃b,v=.func (.func 323) #[] #[.pointer (some ⟨b,0,none⟩)]/\kV (bY b [.func (.func g) #[] #[]]) w w'):=by
 have B:=St.start w;refine eZ Tryz.func322 ?_;exact nA B rfl (λu _ B=>⟨u,rfl,B.fresh⟩)
def C323(a b:Int)(b2:Nat)(fv:Value)(g:Int->Int->Bool)(w:World)(hc:Cell w b2 0 fv)(I:Fb2 fv g):CR 323 [hZ a,hZ b,.pointer (some ⟨b2,0,none⟩)] w (λv w'=>v=hZ (Jf (g a b))/\Ext w w'):=by
 obtain⟨J,rfl,G,B⟩:=I;have u:=St.start w;refine eZ Tryz.func323 ?_;refine bN anS (hc.ext u.aG) (gW (first:=[]) (cap:=[]) G (B a b _) ?_);rintro _ _ ⟨rfl,E⟩;have u:=u.ext E;exact aV Wo u (C302 _ _) (λ_ _ u=>⟨rfl,u.aG⟩)
def C304(w:World):CR 304 [] w (λv w'=>∃b1 b2 b3 b4 M b6,v=opsV b1 b2 b3 b4 M b6/\kV (eF (anZ b1 b2 b3 b4 M b6)) w w'):=by
 have u:=St.start w;refine ack _ _ ?_;unfold S304;refine aM u RT (λV _ u=>aM u RT λU _ u=>mg sB bO bO (aT u wY (dL rfl) (rfl) λ_ u=>mg sB bO bO (aT u wY (dL rfl) (rfl) λ_ u=>mg sB bO bO (aT u wY (dL rfl) (rfl) λ_ u=>mg sB bO bO (aT u wY (dL rfl) (rfl) λ_ u=>mg sB bO bO (aT u wY (dL rfl) (rfl) λ_ u=>gW (first:=[]) (cap:=[]) Ha (C322 329 _) ?_))))));rintro _ _ ⟨O,rfl,B⟩;have u:=u.made B;refine mg sB bO bO (aT u.p1 wY (dL rfl) (rfl) λ_ u=>gW (first:=[]) (cap:=[]) Ha (C322 330 _) ?_)
 rintro _ _ ⟨J,rfl,B⟩;have u:=u.made B;refine mg sB bO bO (aT u.p1 wY (dL rfl) (rfl) λ_ u=>gW (first:=[]) (cap:=[]) Ha (C322 331 _) ?_);rintro _ _ ⟨G,rfl,B⟩;have u:=u.made B;refine mg sB bO bO (aT u.p1 wY (dL rfl) (rfl) λ_ u=>gW (first:=[]) (cap:=[]) Ha (C322 332 _) ?_);rintro _ _ ⟨E,rfl,B⟩;have u:=u.made B;refine mg sB bO bO (aT u.p1 wY (dL rfl) (rfl) λ_ u=>gW (first:=[]) (cap:=[]) Ha (C322 333 _) ?_);rintro _ _ ⟨I,rfl,B⟩;have u:=u.made B;refine mg sB bO bO (aT u.p1 wY (dL rfl) (rfl) λ_ u=>gW (first:=[]) (cap:=[]) Ha (C322 334 _) ?_)
 rintro _ _ ⟨W,rfl,B⟩;have u:=u.made B;refine mg sB bO bO (aT u.p1 wY (dL rfl) (rfl) λ_ u=>KW WE u.hb rfl (En u.p7 WE rfl dD (by simp[wA,ji]) λ_ u=>KW WE u.hb rfl ?_));have u:=u.drop.drop.p1.p2.p3.p4.p5.rU.p1.rU.p2.rU.p3;have u:=u.rU.p4.rU.p5.rU.hG.hG.hG.hG.hG;refine⟨O,J,G,E,I,W,rfl,(u.dN (Ψ:=anZ O J G E I W) λw h=>?_).fresh⟩;obtain⟨⟨⟨⟨⟨h6,h5⟩,h4⟩,h3⟩,h2⟩,h1⟩:=h;exact⟨h1.cell rfl,h2.cell rfl,h3.cell rfl,h4.cell rfl,h5.cell rfl,h6.cell rfl⟩
def fb1:Fb2 (.func (.func 329) #[] #[]) (λa b=>decide (a=b)):=⟨329,rfl,anH,λa b u=>C329 a b u⟩
def fb2:Fb2 (.func (.func 330) #[] #[]) (λa b=>decide (¬ a=b)):=⟨330,rfl,anI,λa b u=>C330 a b u⟩
def fb3:Fb2 (.func (.func 331) #[] #[]) (λa b=>decide (a<b)):=⟨331,rfl,anJ,λa b u=>C331 a b u⟩
def fb4:Fb2 (.func (.func 332) #[] #[]) (λa b=>decide (a<=b)):=⟨332,rfl,anK,λa b u=>C332 a b u⟩
def fb5:Fb2 (.func (.func 333) #[] #[]) (λa b=>decide (¬ a=0)&&decide (¬ b=0)):=⟨333,rfl,anL,λa b u=>C333 a b u⟩
def fb6:Fb2 (.func (.func 334) #[] #[]) (λa b=>decide (¬ a=0)||decide (¬ b=0)):=⟨334,rfl,anM,λa b u=>C334 a b u⟩
def C271(op a b:Int)(w:World):CR 271 [hZ op,hZ a,hZ b] w (λv w'=>v=.tuple #[hZ (gC op a b),hZ (gG op b)]/\Ext w w'):=by
 have u:=St.start w;refine acg _ _ _ _ _ ?_;unfold S271;refine⟨_,?_,λ_ _ h=>h⟩;refine aR (aC (λZ=>?_) λZ=>?_)
 .intro tu;refine iB ?_
  first|exact⟨rfl,u.aG⟩|(subst_vars;exact⟨rfl,u.aG⟩)|(refine⟨?_,u.aG⟩;unfold gC gG lQ;first|(rw[ej (show op<5\/15<op by omega)];rfl)|simp[*])
 refine cR ?_;intro tu;refine aC (λjH=>?_) (λjH=>?_)
 .first|exact⟨rfl,u.aG⟩|(subst_vars;exact⟨rfl,u.aG⟩)|(refine⟨?_,u.aG⟩;unfold gC gG lQ;first|(rw[ej (show op<5\/15<op by omega)];rfl)|simp[*])
 refine dM anw (C304 _) ?_;rintro _ _ ⟨b1,b2,b3,b4,Y,b6,rfl,cJ⟩;have u:=u.made cJ;obtain rfl|rfl|rfl|rfl|rfl|rfl|rfl|rfl|rfl|rfl|rfl|rfl|rfl|rfl|rfl|rfl:op=0\/op=1\/op=2\/op=3\/op=4\/op=5\/op=6\/op=7\/op=8\/op=9\/op=10\/op=11\/op=12\/op=13\/op=14\/op=15:=bO
 .refine pop (v:=.nilFunc) (by kernel_rfl) (pop (v:=.bool true) (by kernel_rfl) (iB ?_))
  first|exact⟨rfl,u.aG⟩|(subst_vars;exact⟨rfl,u.aG⟩)|(refine⟨?_,u.aG⟩;unfold gC gG lQ;first|(rw[ej (show op<5\/15<op by omega)];rfl)|simp[*])
 .refine pop (v:=.nilFunc) (by kernel_rfl) (pop (v:=.bool true) (by kernel_rfl) (iB ?_))
  first|exact⟨rfl,u.aG⟩|(subst_vars;exact⟨rfl,u.aG⟩)|(refine⟨?_,u.aG⟩;unfold gC gG lQ;first|(rw[ej (show op<5\/15<op by omega)];rfl)|simp[*])
 .refine pop (v:=.nilFunc) (by kernel_rfl) (pop (v:=.bool true) (by kernel_rfl) (iB ?_))
  first|exact⟨rfl,u.aG⟩|(subst_vars;exact⟨rfl,u.aG⟩)|(refine⟨?_,u.aG⟩;unfold gC gG lQ;first|(rw[ej (show op<5\/15<op by omega)];rfl)|simp[*])
 .refine pop (v:=.nilFunc) (by kernel_rfl) (pop (v:=.bool true) (by kernel_rfl) (iB ?_))
  first|exact⟨rfl,u.aG⟩|(subst_vars;exact⟨rfl,u.aG⟩)|(refine⟨?_,u.aG⟩;unfold gC gG lQ;first|(rw[ej (show op<5\/15<op by omega)];rfl)|simp[*])
 .refine pop (v:=.nilFunc) (by kernel_rfl) (pop (v:=.bool true) (by kernel_rfl) (iB ?_))
  first|exact⟨rfl,u.aG⟩|(subst_vars;exact⟨rfl,u.aG⟩)|(refine⟨?_,u.aG⟩;unfold gC gG lQ;first|(rw[ej (show op<5\/15<op by omega)];rfl)|simp[*])
 .refine pop (v:=.func (.func 324) #[] #[]) (by kernel_rfl) (pop (v:=.bool false) (by kernel_rfl) (fw ?_));refine⟨_,?_,λ_ _ h=>h⟩;refine aH (fJ dD (aH (fJ dD ?_)));intro G;refine fw (gW (first:=[]) (cap:=[]) anC (C324 a b _) ?_);rintro _ E ⟨rfl,B⟩;have u:=u.ext B
  first|exact⟨rfl,u.aG⟩|(subst_vars;exact⟨rfl,u.aG⟩)|(refine⟨?_,u.aG⟩;unfold gC gG lQ;first|(rw[ej (show op<5\/15<op by omega)];rfl)|simp[*])
 .refine pop (v:=.func (.func 325) #[] #[]) (by kernel_rfl) (pop (v:=.bool false) (by kernel_rfl) (fw ?_));refine⟨_,?_,λ_ _ h=>h⟩;refine aH (fJ dD (aH (fJ dD ?_)));intro G;refine fw (gW (first:=[]) (cap:=[]) anD (C325 a b _) ?_);rintro _ E ⟨rfl,B⟩;have u:=u.ext B
  first|exact⟨rfl,u.aG⟩|(subst_vars;exact⟨rfl,u.aG⟩)|(refine⟨?_,u.aG⟩;unfold gC gG lQ;first|(rw[ej (show op<5\/15<op by omega)];rfl)|simp[*])
 .refine pop (v:=.func (.func 326) #[] #[]) (by kernel_rfl) (pop (v:=.bool false) (by kernel_rfl) (fw ?_));refine⟨_,?_,λ_ _ h=>h⟩;refine aH (fJ dD (aH (fJ dD ?_)));intro G;refine fw (gW (first:=[]) (cap:=[]) anE (C326 a b _) ?_);rintro _ E ⟨rfl,B⟩;have u:=u.ext B
  first|exact⟨rfl,u.aG⟩|(subst_vars;exact⟨rfl,u.aG⟩)|(refine⟨?_,u.aG⟩;unfold gC gG lQ;first|(rw[ej (show op<5\/15<op by omega)];rfl)|simp[*])
 .refine pop (v:=.func (.func 327) #[] #[]) (by kernel_rfl) (pop (v:=.bool false) (by kernel_rfl) (fw ?_));refine⟨_,?_,λ_ _ h=>h⟩;refine aH (ke dD (aH ?_));intro G;refine aC (λW=>?_) (λW=>?_)
  .first|exact⟨rfl,u.aG⟩|(subst_vars;exact⟨rfl,u.aG⟩)|(refine⟨?_,u.aG⟩;unfold gC gG lQ;first|(rw[ej (show op<5\/15<op by omega)];rfl)|simp[*])
  refine gW (first:=[]) (cap:=[]) anF (C327 a b _ W) ?_;rintro _ E ⟨rfl,B⟩;have u:=u.ext B
  first|exact⟨rfl,u.aG⟩|(subst_vars;exact⟨rfl,u.aG⟩)|(refine⟨?_,u.aG⟩;unfold gC gG lQ;first|(rw[ej (show op<5\/15<op by omega)];rfl)|simp[*])
 .refine pop (v:=.func (.func 328) #[] #[]) (by kernel_rfl) (pop (v:=.bool false) (by kernel_rfl) (fw ?_));refine⟨_,?_,λ_ _ h=>h⟩;refine aH (fJ dD (aH (ke dD (aH ?_))));intro G;refine aC (λW=>?_) (λW=>?_)
  .first|exact⟨rfl,u.aG⟩|(subst_vars;exact⟨rfl,u.aG⟩)|(refine⟨?_,u.aG⟩;unfold gC gG lQ;first|(rw[ej (show op<5\/15<op by omega)];rfl)|simp[*])
  refine gW (first:=[]) (cap:=[]) anG (C328 a b _ W) ?_;rintro _ E ⟨rfl,B⟩;have u:=u.ext B
  first|exact⟨rfl,u.aG⟩|(subst_vars;exact⟨rfl,u.aG⟩)|(refine⟨?_,u.aG⟩;unfold gC gG lQ;first|(rw[ej (show op<5\/15<op by omega)];rfl)|simp[*])
 .refine pop (v:=.func (.func 323) #[] #[.pointer (some ⟨b1,0,none⟩)]) (by kernel_rfl) (pop (v:=.bool false) (by kernel_rfl) (fw ?_));refine⟨_,?_,λ_ _ h=>h⟩;refine aH (fJ dD (aH (fJ dD ?_)));intro G;refine fw ?_;obtain⟨U,V,J,M,O,I⟩:=u.eF;refine gW (first:=[]) (cap:=[.pointer (some ⟨b1,0,none⟩)]) Hb (C323 a b b1 _ _ _ U fb1) ?_;rintro _ E ⟨rfl,B⟩;have u:=u.ext B
  first|exact⟨rfl,u.aG⟩|(subst_vars;exact⟨rfl,u.aG⟩)|(refine⟨?_,u.aG⟩;unfold gC gG lQ;first|(rw[ej (show op<5\/15<op by omega)];rfl)|simp[*])
 .refine pop (v:=.func (.func 323) #[] #[.pointer (some ⟨b2,0,none⟩)]) (by kernel_rfl) (pop (v:=.bool false) (by kernel_rfl) (fw ?_));refine⟨_,?_,λ_ _ h=>h⟩;refine aH (fJ dD (aH (fJ dD ?_)));intro G;refine fw ?_;obtain⟨U,V,J,M,O,I⟩:=u.eF;refine gW (first:=[]) (cap:=[.pointer (some ⟨b2,0,none⟩)]) Hb (C323 a b b2 _ _ _ V fb2) ?_;rintro _ E ⟨rfl,B⟩;have u:=u.ext B
  first|exact⟨rfl,u.aG⟩|(subst_vars;exact⟨rfl,u.aG⟩)|(refine⟨?_,u.aG⟩;unfold gC gG lQ;first|(rw[ej (show op<5\/15<op by omega)];rfl)|simp[*])
 .refine pop (v:=.func (.func 323) #[] #[.pointer (some ⟨b3,0,none⟩)]) (by kernel_rfl) (pop (v:=.bool false) (by kernel_rfl) (fw ?_));refine⟨_,?_,λ_ _ h=>h⟩;refine aH (fJ dD (aH (fJ dD ?_)));intro G;refine fw ?_;obtain⟨U,V,J,M,O,I⟩:=u.eF;refine gW (first:=[]) (cap:=[.pointer (some ⟨b3,0,none⟩)]) Hb (C323 a b b3 _ _ _ J fb3) ?_;rintro _ E ⟨rfl,B⟩;have u:=u.ext B
  first|exact⟨rfl,u.aG⟩|(subst_vars;exact⟨rfl,u.aG⟩)|(refine⟨?_,u.aG⟩;unfold gC gG lQ;first|(rw[ej (show op<5\/15<op by omega)];rfl)|simp[*])
 .refine pop (v:=.func (.func 323) #[] #[.pointer (some ⟨b4,0,none⟩)]) (by kernel_rfl) (pop (v:=.bool false) (by kernel_rfl) (fw ?_));refine⟨_,?_,λ_ _ h=>h⟩;refine aH (fJ dD (aH (fJ dD ?_)));intro G;refine fw ?_;obtain⟨U,V,J,M,O,I⟩:=u.eF;refine gW (first:=[]) (cap:=[.pointer (some ⟨b4,0,none⟩)]) Hb (C323 a b b4 _ _ _ M fb4) ?_;rintro _ E ⟨rfl,B⟩;have u:=u.ext B
  first|exact⟨rfl,u.aG⟩|(subst_vars;exact⟨rfl,u.aG⟩)|(refine⟨?_,u.aG⟩;unfold gC gG lQ;first|(rw[ej (show op<5\/15<op by omega)];rfl)|simp[*])
 .refine pop (v:=.func (.func 323) #[] #[.pointer (some ⟨Y,0,none⟩)]) (by kernel_rfl) (pop (v:=.bool false) (by kernel_rfl) (fw ?_));refine⟨_,?_,λ_ _ h=>h⟩;refine aH (fJ dD (aH (fJ dD ?_)));intro G;refine fw ?_;obtain⟨U,V,J,M,O,I⟩:=u.eF;refine gW (first:=[]) (cap:=[.pointer (some ⟨Y,0,none⟩)]) Hb (C323 a b Y _ _ _ O fb5) ?_;rintro _ E ⟨rfl,B⟩;have u:=u.ext B
  first|exact⟨rfl,u.aG⟩|(subst_vars;exact⟨rfl,u.aG⟩)|(refine⟨?_,u.aG⟩;unfold gC gG lQ;first|(rw[ej (show op<5\/15<op by omega)];rfl)|simp[*])
 refine pop (v:=.func (.func 323) #[] #[.pointer (some ⟨b6,0,none⟩)]) (by kernel_rfl) (pop (v:=.bool false) (by kernel_rfl) (fw ?_));refine⟨_,?_,λ_ _ h=>h⟩;refine aH (fJ dD (aH (fJ dD ?_)));intro G;refine fw ?_;obtain⟨U,V,J,M,O,I⟩:=u.eF;refine gW (first:=[]) (cap:=[.pointer (some ⟨b6,0,none⟩)]) Hb (C323 a b b6 _ _ _ I fb6) ?_;rintro _ E ⟨rfl,B⟩;have u:=u.ext B
 first|exact⟨rfl,u.aG⟩|(subst_vars;exact⟨rfl,u.aG⟩)|(refine⟨?_,u.aG⟩;unfold gC gG lQ;first|(rw[ej (show op<5\/15<op by omega)];rfl)|simp[*])
theorem gM{α:Type}{l:List α}{k:Nat}{e:α}(h:l[k]?=some e):l.take k++[e]=l.take (k+1):=by rw[tz,h];rfl
def dY{α:Type}{φ:α->Prop}{l:List α}{k:Nat}{e:α}(h:∀y∈l.take k,φ y)(u:l[k]?=some e)(E:φ e):∀y∈l.take (k+1),φ y:=by
 intro y B
 rw[<- gM u]at B
 grind
theorem ig{α:Type}{g:α->Bool}{l:List α}{k:Nat}{e:α}(u:l[k]?=some e)(B:g e=true):l.any g=true:=List.any_eq_true.2 ⟨e,la u,B⟩
theorem iE{α:Type}{g:α->Bool}{l:List α}(h:∀y∈l,g y=false):l.any g=false:=by
 grind
def sC{α:Type}(g:α->Bool)(l:List α):Int:=match l.findIdx? g with|some k=>k|none=>-1
def mh{α:Type}{g:α->Bool}{l:List α}{k:Nat}{e:α}(E:∀y∈l.take k,g y=false)(u:l[k]?=some e)(G:g e=true):sC g l=k:=by
 have:l.findIdx? g=some k:=by
  rw[List.findIdx?_eq_some_iff_getElem]
  have B:=(kO.1 u).1
  refine⟨B,cL,λj I=>?_⟩
  have:=E (l[j]'(bO)) (List.mem_take_iff_getElem.2 ⟨j,bO,rfl⟩)
  simp[this]
 unfold sC;rw[this]
def jg{α:Type}{g:α->Bool}{l:List α}(u:∀y∈l,g y=false):sC g l = -1:=by
 grind[sC]
def kX{α:Type}(g:α->Bool)(l:List α):decide (0<=sC g l)=l.any g:=by
 grind[sC]
def wB{α:Type}[Flat α](w:World)(f:Value)(g:α->Bool):Prop:=∃u first cap,f=.func (.func u) (PM first) (PM cap)/\Plain hH u/\
 ∀x B,Ext w B->Calls hH u (first++[j0 x]++cap).toArray B (ub λv E=>v=.bool (g x)/\Ext B E)
theorem wB.ext{α:Type}[Flat α]{w w':World}{f:Value}{g:α->Bool}(h:wB w f g)(e:Ext w w'):wB w' f g:=by
 obtain⟨B,first,cap,h1,h2,h3⟩:=h;exact⟨B,first,cap,h1,h2,λx E u=>h3 x E (e.trans u)⟩
def eE(k:Int):Int:=if k=3\/k=4 then 1 else if 5<=k/\k<=15 then 2 else 0
def VC(st:Option (Int×Int))(x:oC):Option (Int×Int):=match st with
 | none=>none
 | some (n,h)=>if n-eE x.kind<0 then none else some (n-eE x.kind+1,max h (n-eE x.kind+1))
def ht(l:List oC):Option (Int×Int):=l.foldl VC (some (0,0))
def htN(l:List oC):Int:=match ht l with|some p=>p.1|none=>0
def htH(l:List oC):Int:=match ht l with|some p=>p.2|none=>0
theorem AT{l:List oC}{k:Nat}{x:oC}(h:l[k]?=some x):ht (l.take (k+1))=VC (ht (l.take k)) x:=by
 unfold ht;rw[<- gM h,FA];rfl
def R2{l:List oC}{k:Nat}(h:ht (l.take k)=none):ht l=none:=by
 have B:∀m:List oC,m.foldl VC none=none:=λm=>by induction m with|nil=>rfl|cons y m u=>exact u
 have e:l=l.take k++l.drop k:=(qa k l).symm
 grind[ht]
def R3(k:Int):0<=eE k/\eE k<=2:=by
 grind[eE]
theorem ah2{l:List oC}:∀k n h,k<=l.length->ht (l.take k)=some (n,h)->0<=n/\n<=(k:Int)/\0<=h/\h<=(k:Int)
 | 0,n,h,_,e=>by
  have:ht ([]:List oC)=some (0,0):=rfl
  grind
 | k+1,n,h,E,e=>by
  obtain⟨x,u⟩:=gx l (i:=k) bO
  rw[AT u]at e
  cases hp:ht (l.take k)with
  | none=>rw[hp]at e;cases e
  | some p=>
   obtain⟨a,b⟩:=p
   have G:=ah2 k a b bO hp
   have B:=R3 x.kind
   rw[hp]at e
   unfold VC at e
   grind
def acK{l:List oC}{k:Nat}{x:oC}{n h m:Int}(u:l[k]?=some x)(B:ht (l.take k)=some (n,h))(G:m=n-eE x.kind)(E:¬ m<0):ht (l.take (k+1))=some (m+1,max h (m+1)):=by
 rw[AT u,B];grind[VC]
def ah3{l:List oC}{k:Nat}{x:oC}{n h m:Int}(u:l[k]?=some x)(B:ht (l.take k)=some (n,h))(G:m=n-eE x.kind)(E:m<0):ht (l.take (k+1))=none:=by
 rw[AT u,B];grind[VC]
def rj(many:Int)(x:oC):Bool:=decide ((x.kind=1/\(x.n<0\/4294967296<x.n))\/(x.kind=2/\(x.n<0\/many<=x.n))\/(¬ x.kind=1/\¬ x.kind=2/\(¬ x.n=0\/x.kind<1\/16<=x.kind)))
def mE(l:List oC)(many:Int):Bool:=decide (l.length<=40)&&(ht l).isSome&&decide (htN l=1)&&!l.any (rj many)
def C267(k:Int)(w:World):CR 267 [hZ k] w (λv w'=>v=hZ (eE k)/\Ext w w'):=by
 have B:=St.start w;refine eZ Tryz.func267 ?_;refine⟨λG w'=>G=.bool (decide (k=3\/k=4))/\w=w',aH (aC (λ_=>⟨Oi bO,rfl⟩) λ_=>aH ⟨yN bO,rfl⟩),?_⟩;rintro _ _ ⟨rfl,I⟩ _;subst I;refine aC (λu=>?_) (λu=>⟨λG w'=>G=.bool (decide (5<=k/\k<=15))/\w=w',cR (aC (λ_=>gZ ⟨yN bO,rfl⟩) λ_=>⟨jvF bO,rfl⟩),?_⟩)
 .unfold eE
  first|(rw[ej u];exact⟨rfl,B.aG⟩)|(rw[ei u,ej E];exact⟨rfl,B.aG⟩)|(rw[ei u,ei E];exact⟨rfl,B.aG⟩)
 rintro _ _ ⟨rfl,I⟩ _;subst I;refine aC (λE=>?_) (λE=>?_)
 .unfold eE
  first|(rw[ej u];exact⟨rfl,B.aG⟩)|(rw[ei u,ej E];exact⟨rfl,B.aG⟩)|(rw[ei u,ei E];exact⟨rfl,B.aG⟩)
 unfold eE
 first|(rw[ej u];exact⟨rfl,B.aG⟩)|(rw[ei u,ej E];exact⟨rfl,B.aG⟩)|(rw[ei u,ei E];exact⟨rfl,B.aG⟩)
def C299(sv:Value)(xs:List oC)(w:World)(I:dA (λ_=>True) w sv xs)(Z:xs.length<=1048576):CR 299 [sv] w (λv w'=>v=.tuple #[hZ (htN xs),hZ (htH xs),.bool (ht xs).isSome]/\Ext w w'):=by
 have u:=St.start w;refine eZ Tryz.func299 ?_;refine aK tK (I.ext u.aG) ?_;refine⟨λm y z x M=>∃(k:Nat) (n h:Int),y=hZ n/\z=hZ h/\x=hZ (k:Int)/\m=xs.length-k/\k<=xs.length/\ht (xs.take k)=some (n,h)/\St w aZ [] M,⟨_,0,0,0,rfl,rfl,rfl,rfl,bO,rfl,u⟩,?_⟩;rintro m _ _ _ M ⟨k,n,h,rfl,rfl,rfl,rfl,hk,B,u⟩ _;refine aR (aC (λU=>?_) λU=>?_)
 .obtain⟨J,G⟩:=gx xs (i:=(k:Int).toNat) bO;refine aQ tK (I.ext u.aG) bO G (λ_ O=>aD Es O (aM u I8 λTW _ u=>aJ (x:=J) u Es rfl rfl λ_ u=>aA nH (aB bL u.hb rfl (aV Wl u (C267 _ _) λ_ Y u=>?_))));have hw:=R3 J.kind;have V:=ah2 k n h bO B;refine fh bO (aR (aC (λE=>?_) λE=>aO bO (DD (aO bO ⟨_,bO,k+1,_,_,rfl,rfl,rfl,rfl,bO,by rw[AT (k:=k) G,B];unfold VC;simp only[];rw[ei E],u.drop⟩))));have W:ht xs=none:=R2 (k:=k+1) (by rw[AT (k:=k) G,B];unfold VC;simp only[];rw[ej E])
  unfold htN htH;rw[W];exact⟨rfl,u.aG⟩
 rw[ld bO]at B;unfold htN htH;rw[B];exact⟨rfl,u.aG⟩
def C298(x:oC)(b2:Nat)(many:Int)(w:World)(hc:Cell w b2 0 (hZ many)):CR 298 [j0 x,.pointer (some ⟨b2,0,none⟩)] w (λv w'=>v=.bool (rj many x)/\Ext w w'):=by
 have u:=St.start w;refine eZ Tryz.func298 ?_;refine cG u (λW _ u=>aA nH (aB bL u.hb rfl (aH (aC (λJ=>⟨_,aA qB (aB bL u.hb rfl (aR (aC (λE=>?_) λE=>?_))),λ_ _ h=>h⟩) λJ=>aA nH (aB bL u.hb rfl (aH (aC (λU=>⟨_,aA qB (aB bL u.hb rfl (aR (aC (λV=>?_) λV=>?_))),λ_ _ h=>h⟩) λU=>?_)))))))
 .intro G;refine⟨vb ?_,u.aG⟩;unfold rj
  first|exact(ew bO).symm|exact(fP bO).symm|exact ga.2 bO
 .refine aA qB (aB bL u.hb rfl (cN ?_));intro G;refine⟨vb ?_,u.aG⟩;unfold rj
  first|exact(ew bO).symm|exact(fP bO).symm|exact ga.2 bO
 .intro I;refine⟨vb ?_,u.aG⟩;unfold rj
  first|exact(ew bO).symm|exact(fP bO).symm|exact ga.2 bO
 .refine aA qB (aB bL u.hb rfl (bN bL (hc.ext u.aG) (cR ?_)));intro I;refine⟨vb ?_,u.aG⟩;unfold rj
  first|exact(ew bO).symm|exact(fP bO).symm|exact ga.2 bO
 refine⟨_,?_,λ_ _ h=>h⟩;refine aA qB (aB bL u.hb rfl (bX (aC (λM=>?_) λM=>aA nH (aB bL u.hb rfl (aR (aC (λO=>?_) λO=>?_))))))
 .intro B;refine⟨vb ?_,u.aG⟩;unfold rj
  first|exact(ew bO).symm|exact(fP bO).symm|exact ga.2 bO
 .intro B;refine⟨vb ?_,u.aG⟩;unfold rj
  first|exact(ew bO).symm|exact(fP bO).symm|exact ga.2 bO
 refine aA nH (aB bL u.hb rfl (cR ?_));intro B;refine⟨vb ?_,u.aG⟩;unfold rj
 first|exact(ew bO).symm|exact(fP bO).symm|exact ga.2 bO
def C321(sv fv:Value)(xs:List oC)(g:oC->Bool)(w:World)(J:dA (λ_=>True) w sv xs)(U:wB w fv g)(Z:xs.length<=1073741824):CR 321 [sv,fv] w (λv w'=>v=hZ (sC g xs)/\Ext w w'):=by
 obtain⟨g0,first,cap,rfl,O,W⟩:=U;have u:=St.start w;refine eZ Tryz.func321 ?_;refine aK tK (J.ext u.aG) ?_;refine⟨λm x I=>∃k:Nat,x=hZ (k:Int)/\m=xs.length-k/\k<=xs.length/\(∀y∈xs.take k,g y=false)/\St w aZ [] I,⟨_,0,rfl,rfl,l6 _,ee,u⟩,?_⟩;rintro m _ I ⟨k,rfl,rfl,hk,B,u⟩ _;refine aR (aC (λjL=>?_) λ_=>⟨gQ (n3 .i64) (jg (by rw[ld bO]at B;exact B)).symm,u.aG⟩);obtain⟨V,G⟩:=gx xs (i:=(k:Int).toNat) bO;refine aQ tK (J.ext u.aG) bO G (λ_ Y=>aD Es Y (gW O (W V I u.aG) ?_))
 rintro _ _ ⟨rfl,M⟩;have u:=u.ext M;exact aY (λE=>⟨gQ (n3 .i64) (mh B G E).symm,u.aG⟩) (λE=>aO bO ⟨xs.length-(k+1),bO,k+1,rfl,rfl,bO,dY B G E,u⟩)
def C300(sv fv:Value)(xs:List oC)(g:oC->Bool)(w:World)(B:dA (λ_=>True) w sv xs)(E:wB w fv g)(G:xs.length<=1073741824):CR 300 [sv,fv] w (λv w'=>v=.bool (xs.any g)/\Ext w w'):=by
 have u:=St.start w;refine eZ Tryz.func300 ?_;exact aV anB u (C321 _ _ _ _ _ (B.ext u.aG) (E.ext u.aG) bO) (λ_ _ u=>cR ⟨vb (kX _ _),u.aG⟩)
def C266(sv:Value)(xs:List oC)(many:Int)(w:World)(E:dA (λ_=>True) w sv xs)(Y:xs.length<=1048576):CR 266 [sv,hZ many] w (λv w'=>v=.bool (mE xs many)/\Ext w w'):=by
 have u:=St.start w;refine eZ Tryz.func266 ?_;refine nA u rfl (λI J u=>aV ant u (C299 _ _ _ (E.ext u.aG) bO) λ_ O u=>aN rfl (aN rfl (aN rfl ?_)));refine⟨_,?_,λ_ _ h=>h⟩;refine aK tK (E.ext u.aG) (gZ (aC (λU=>aY (λV=>aH (aC (λW=>?_) λW=>?_)) λV=>?_) λU=>?_))
 .have G:wB _ (.func (.func 298) [].toArray [.pointer (some ⟨I,0,none⟩)].toArray) (rj many):=
   ⟨298,[],_,rfl,ans,λy J M=>C298 y I many J ((u.hb.cell rfl).ext M)⟩
  refine aV anu u (C300 _ _ _ _ _ (E.ext u.aG) G bO) (λ_ O u=>bR ?_);intro B;refine⟨vb ?_,u.aG⟩;unfold mE
  simp_all<;>omega
 .intro B;refine⟨vb ?_,u.aG⟩;unfold mE
  simp_all<;>omega
 .intro B;refine⟨vb ?_,u.aG⟩;unfold mE
  simp_all<;>omega
 intro B;refine⟨vb ?_,u.aG⟩;unfold mE
 simp_all<;>omega
def o8(b:Nat)(rest:List Value)(l:List Int):HP:=pM λsv=>sep (bY b (sv::rest)) (bH sv l)
def o8.shut{w0 w:World}{A:Nat->Prop}{R:List HP}{b:Nat}{rest:List Value}{sv:Value}{l:List Int}(u:St w0 A (bY b (sv::rest)::bH sv l::R) w):St w0 A (o8 b rest l::R) w:=
 St.ep (H:=λsv=>sep (bY b (sv::rest)) (bH sv l)) sv (St.join u)
def o8.open{w0 w:World}{A:Nat->Prop}{R:List HP}{b:Nat}{rest:List Value}{l:List Int}(u:St w0 A (o8 b rest l::R) w):∃sv,St w0 A (bY b (sv::rest)::bH sv l::R) w:=by
 obtain⟨sv,u⟩:=u.eo;exact⟨sv,u.split⟩
def kh(l:List Int):Int:=l.getD (l.length-1) 0
theorem W3{l:List Int}{e:Int}(h:l[((l.length:Int)-1).toNat]?=some e):e=kh l:=by
 simp_all[kh]
def C301(b:Nat)(n:Int)(rest:List Value)(l:List Int)(F:Nat->Prop)(w:World)(E:(o8 b rest l).p w F)(I:l.length<=1048576):CR 301 [.pointer (some ⟨b,0,none⟩),hZ n] w (λv w'=>v=.tuple #[]/\mU F (o8 b rest (l++[n])) w w'):=by
 have u:=St.begin E;obtain⟨sv,u⟩:=u.eo;have u:=u.split;refine eZ Tryz.func301 ?_;refine aE (aA qA (aB eh u.hb rfl (bD ([n]:List Int) u cS rfl rfl (dL rfl) λG _ u=>?_)));have B:=u.dS;exact bJ u.p2 cS B (by simp<;>omega) dD (λ_ _ u=>have u:=u.p1.drop;aE (aA qA (aT u.p1 eh (dL rfl) u.dS.one λ_ u=>have u:=u.p1.p1;⟨rfl,(o8.shut u).mut⟩)))
def C270(b:Nat)(rest:List Value)(l:List Int)(F:Nat->Prop)(w:World)(G:(o8 b rest l).p w F)(O:l.length<=1048576)(J:0<l.length):CR 270 [.pointer (some ⟨b,0,none⟩)] w (λv w'=>v=hZ (kh l)/\mU F (o8 b rest (l.take (l.length-1))) w w'):=by
 have u:=St.begin G;obtain⟨sv,u⟩:=u.eo;have u:=u.split;refine oL Tryz.func270 (pl:=au3) ?_;refine aE (aA qA (have u:=u.drew;aB eh u.hb rfl (aE (aA qA (aB eh u.hb rfl (aK cS u.p1.dS (fh bO ?_)))))));obtain⟨M,E⟩:=gx l (i:=((l.length:Int)-1).toNat) bO;refine dR u.p1 cS bO bO (λ_ I=>gP u.p1 bL I E (aE (aA qA (have u:=u.drew;aB eh u.hb rfl (aE (aA qA (aB eh u.hb rfl (aK cS u.p1.dS (fh bO (have u:=u.p1;su cS u bO bO λB u=>aE (aA qA ?_)))))))))))
 refine aT u.p1 eh (dL rfl) u.dS.one (λ_ u=>?_);have u:=u.p1.p1;rw[show((l.length:Int)-1).toNat=l.length-1 from bO]at u;rw[W3 E];exact⟨rfl,(o8.shut u).mut⟩
def C268(b:Nat)(n hi:Int)(l:List Int)(F:Nat->Prop)(w:World)(B:(o8 b [hZ hi] l).p w F)(G:l.length<=1048576):CR 268 [.pointer (some ⟨b,0,none⟩),hZ n] w (λv w'=>v=.tuple #[]/\∃E,mU F (o8 b [hZ E] (l++[n])) w w'):=by
 have u:=St.begin B;refine oL Tryz.func268 (pl:=au2) ?_;refine aE (aA uN (ql anv u (H':=λ_=>o8 b [hZ hi] (l++[n])) (Φ:=λv _=>v=.tuple #[]) (λF B=>?_) ?_))
 .exact C301 b n _ l F _ B bO
 rintro _ _ rfl u;obtain⟨sv,u⟩:=o8.open u;exact aE (aA Lt (have u:=u.drew;aB bL u.hb rfl (aE (aA uN (aA qA (aB eh u.hb rfl (aK cS u.p1.dS (DD (aE (aA Lt (aT u bL (dL rfl) (rfl) λ_ u=>have u:=u.p1.p1;⟨rfl,_,(o8.shut u).mut⟩)))))))))))
def ly(ns S:List Int)(x:oC):List Int:=
 if eE x.kind=0 then S++[if x.kind=2 then ns.getD x.n.toNat 0 else x.n]
 else if eE x.kind=1 then S.take (S.length-1)++[yE x.kind (kh S)]
 else S.take (S.length-2)++[gC x.kind (kh (S.take (S.length-1))) (kh S)]
def vy(S:List Int)(x:oC):Int:=if eE x.kind=2 then gG x.kind (kh S)else 0
def wD(ns:List Int):List oC->List Int->Int×Int
 | [],S=>(kh S,0)
 | x::r,S=>if vy S x=0 then wD ns r (ly ns S x)else(0,vy S x)
def runM(l:List oC)(ns:List Int):Int×Int:=if mE l ns.length=true then wD ns l []else(0,8)
def AV(k:Int):eE k=0\/eE k=1\/eE k=2:=by
 grind[eE]
section
variable {xs:List oC}{ns S:List Int}{k:Nat}{x:oC}{n h:Int}
theorem DF(B:xs[k]?=some x)(h:vy S x=0):wD ns (xs.drop k) S=wD ns (xs.drop (k+1)) (ly ns S x):=by
 obtain⟨E,u⟩:=kO.1 B
 rw[u1 E,u,wD,ej h]
theorem W4(B:xs[k]?=some x)(h:¬ vy S x=0):wD ns (xs.drop k) S=(0,vy S x):=by
 obtain⟨E,u⟩:=kO.1 B
 rw[u1 E,u,wD,ei h]
theorem yW{many:Int}(h:mE xs many=true):xs.length<=40/\(∃a,ht xs=some (1,a))/\∀x∈xs,rj many x=false:=by
 unfold mE at h
 rw[oi,oi,oi,decide_eq_true_eq,decide_eq_true_eq]at h
 obtain⟨⟨⟨h1,h2⟩,h3⟩,h4⟩:=h
 refine⟨h1,?_,λx u=>?_⟩
 .unfold htN at h3
  grind
 grind
theorem TX(u:eE x.kind<=(S.length:Int)):((ly ns S x).length:Int)=S.length-eE x.kind+1:=by
 unfold ly
 rcases AV x.kind with h|h|h
 .grind
 .grind
 grind
theorem TY{a:Int}(I:ht xs=some (1,a))(u:ht (xs.take k)=some ((S.length:Int),h))(E:xs[k]?=some x) :
  eE x.kind<=(S.length:Int)/\∃G,ht (xs.take (k+1))=some (((ly ns S x).length:Int),G):=by
 have B:eE x.kind<=(S.length:Int):=by
  rcases Int.lt_or_le ((S.length:Int)-eE x.kind) 0 with h1|h1
  .have:=R2 (ah3 E u rfl h1);grind
  .omega
 exact⟨B,_,(acK E u rfl bO).trans (by rw[TX B])⟩
theorem ah4(u:eE x.kind=0)(h2:¬ x.kind=2):ly ns S x=S++[x.n]:=by unfold ly;grind
theorem ah5{e:Int}(B:eE x.kind=0)(h2:x.kind=2)(u:ns[x.n.toNat]?=some e):ly ns S x=S++[e]:=by
 grind[ly]
theorem ah6(u:eE x.kind=1):ly ns S x=S.take (S.length-1)++[yE x.kind (kh S)]:=by unfold ly;rw[ei bO,ej u]
theorem ah7(u:eE x.kind=2):ly ns S x=S.take (S.length-2)++[gC x.kind (kh (S.take (S.length-1))) (kh S)]:=by unfold ly;rw[ei bO,ei bO]
theorem W5(u:¬ eE x.kind=2):vy S x=0:=by unfold vy;omega
theorem agd(u:eE x.kind=2):vy S x=gG x.kind (kh S):=by unfold vy;omega
theorem O6(h:2<=S.length):(S.take (S.length-1)).take ((S.take (S.length-1)).length-1)=S.take (S.length-2):=by
 grind
end
def nk(b:Nat)(l:List Int):HP:=pM fun (hi:Int)=>o8 b [hZ hi] l
def nk.shut{w0 w:World}{A:Nat->Prop}{R:List HP}{b:Nat}{hi:Int}{l:List Int}(u:St w0 A (o8 b [hZ hi] l::R) w):St w0 A (nk b l::R) w:=
 St.ep (H:=fun (hi:Int)=>o8 b [hZ hi] l) hi u
def acL(b:Nat)(n:Int)(l:List Int)(F:Nat->Prop)(w:World)(u:(nk b l).p w F)(J:l.length<=1048576) :
  Calls hH 268 [.pointer (some ⟨b,0,none⟩),hZ n].toArray w (ub λv w'=>v=.tuple #[]/\mU F (nk b (l++[n])) w w'):=by
 obtain⟨hi,u⟩:=u
 refine(C268 b n hi l F w u J).mono λe w' ⟨v,B,I,G,E,h1,h2⟩=>⟨v,B,I,E,⟨G,h1⟩,h2⟩
def acM(b:Nat)(l:List Int)(F:Nat->Prop)(w:World)(u:(nk b l).p w F)(J:l.length<=1048576)(E:0<l.length) :
  Calls hH 270 [.pointer (some ⟨b,0,none⟩)].toArray w (ub λv w'=>v=hZ (kh l)/\mU F (nk b (l.take (l.length-1))) w w'):=by
 obtain⟨hi,u⟩:=u
 refine(C270 b [hZ hi] l F w u J E).mono λe w' ⟨v,B,I,G,h1,h2⟩=>⟨v,B,I,G,⟨hi,h1⟩,h2⟩
def C219(sv nv:Value)(xs:List oC)(ns:List Int)(w:World)(hL:dA (λ_=>True) w sv xs)(hN:dA (λ_=>True) w nv ns)(hn:xs.length<=1048576):CR 219 [sv,nv] w (λv w'=>v=.tuple #[hZ (runM xs ns).1,hZ (runM xs ns).2]/\Ext w w'):=by
 have u:=St.start w;refine ab7 _ _ _ _ ?_;unfold S219;refine aK cS (hN.ext u.aG) (aV ang u (C266 _ _ _ _ (hL.ext u.aG) hn) λw1 W u=>bR (aY (λft=>?_) λft=>?_))
 .unfold runM;rw[ei (by simpa using ft)];exact⟨rfl,u.aG⟩
 refine aM u acC (λE _ u=>?_);have u:=nk.shut (o8.shut (u.eM (α:=Int)).p1);have lS:mE xs (ns.length:Int)=true:=by simpa using ft
 obtain⟨h40,⟨a0,wK⟩,Z⟩:=yW lS;refine aK tK (hL.ext u.aG) ?_;refine⟨λm x w1=>∃(k:Nat) (S:List Int) (h:Int),x=hZ (k:Int)/\m=xs.length-k/\k<=xs.length/\wD ns xs []=wD ns (xs.drop k) S/\ht (xs.take k)=some ((S.length:Int),h)/\St w aZ [nk E S] w1,⟨_,0,[],0,rfl,rfl,bO,rfl,rfl,u⟩,?_⟩;rintro m _ _ ⟨k,S,h,rfl,rfl,hk,O,V,u⟩ _;refine aR (aC (λnd=>?_) λnd=>?_)
 .refine⟨_,?_,λ_ h=>h⟩;obtain⟨B,J⟩:=gx xs (i:=(k:Int).toNat) bO;refine aQ tK (hL.ext u.aG) bO J (λ_ xf=>aD Es xf (aM u I8 λTW _ u=>aJ (x:=B) u Es rfl rfl λ_ u=>aA nH (aB bL u.hb rfl (aV Wl u (C267 _ _) λ_ W u=>?_))));have KD:=Z _ (la J);unfold rj at KD;have ho:=g6 KD;obtain⟨hw0,h2,I⟩:=TY (ns:=ns) (k:=k) wK V J;have hwk:eE B.kind=0->B.kind=1\/B.kind=2\/¬ (B.kind=1\/B.kind=2):=λ_=>bO
  have hSk:=ah2 k _ _ bO V;have hw3:=AV B.kind;refine aH (aC (λxg=>aA qB (aB bL u.hb rfl ⟨_,aA nH (aB bL u.hb rfl (aH (aC (λxh=>?_) λxh=>?_))),λ_ _ h=>h⟩)) λxg=>aH (aC (λU=>?_) λU=>?_))
  .refine aA qB (aB bL u.hb rfl ?_);obtain⟨W6,O7⟩:=gx ns (i:=B.n.toNat) bO;refine aQ cS (hN.ext u.aG) bO O7 (λ_ AW=>aD bL AW ?_);intro vZ;refine ql RD u.p1 (H':=λ_=>nk E (S++[W6])) (Φ:=λv _=>v=.tuple #[]) (λF G=>?_) ?_
   .exact acL E W6 S F _ G (by first|omega|(simp only[l2,l1,mv];omega))
   rintro _ w8 rfl u;intro Y;refine aO bO ?_;have u:=u.p1.drop;have M:ly ns S B=_:=ah5 xg xh O7;exact⟨_,bO,k+1,_,_,rfl,rfl,bO,O.trans (DF (k:=k) J (W5 bO)),I,by rw[M];exact u⟩
  .intro vZ;refine ql RD u.p1 (H':=λ_=>nk E (S++[B.n])) (Φ:=λv _=>v=.tuple #[]) (λF G=>?_) ?_
   .exact acL E B.n S F _ G (by first|omega|(simp only[l2,l1,mv];omega))
   rintro _ w8 rfl u;intro Y;refine aO bO ?_;have u:=u.p1.drop;have M:ly ns S B=_:=ah4 xg xh;exact⟨_,bO,k+1,_,_,rfl,rfl,bO,O.trans (DF (k:=k) J (W5 bO)),I,by rw[M];exact u⟩
  .refine aA nH (have u:=u.drew;aB bL u.hb rfl (aA uN (ql RE u.p1 (H':=λ_=>nk E (S.take (S.length-1))) (Φ:=λv _=>v=hZ (kh S)) (λF G=>?_) ?_)))
   .exact acM E S F _ G (by first|omega|(simp only[l2,l1,mv];omega)) (by first|omega|(simp only[l2,l1,mv];omega))
   rintro _ _ rfl u;refine⟨aF bL (u.p1.hb.cell rfl),?_⟩;refine aV anh u (C269 _ _ _) (λ_ W u=>aN rfl (aN rfl (ql RD u (H':=λ_=>nk E ((S.take (S.length-1))++[(yE B.kind (kh S))])) (Φ:=λv _=>v=.tuple #[]) (λF G=>?_) ?_)))
   .exact acL E (yE B.kind (kh S)) (S.take (S.length-1)) F _ G (by first|omega|(simp only[l2,l1,mv];omega))
   rintro _ _ rfl u;intro Y;refine aO bO ?_;have u:=u.p1.drop;have M:ly ns S B=_:=ah6 U;exact⟨_,bO,k+1,_,_,rfl,rfl,bO,O.trans (DF (k:=k) J (W5 bO)),I,by rw[M];exact u⟩
  refine aA uN (ql RE u.p1 (H':=λ_=>nk E (S.take (S.length-1))) (Φ:=λv _=>v=hZ (kh S)) (λF G=>?_) ?_)
  .exact acM E S F _ G (by first|omega|(simp only[l2,l1,mv];omega)) (by first|omega|(simp only[l2,l1,mv];omega))
  rintro _ _ rfl u;refine aA nH (have u:=u.drew;aB bL u.p1.hb rfl (aA uN (ql RE u (H':=λ_=>nk E ((S.take (S.length-1)).take ((S.take (S.length-1)).length-1))) (Φ:=λv _=>v=hZ (kh (S.take (S.length-1)))) (λF G=>?_) ?_)))
  .exact acM E (S.take (S.length-1)) F _ G (by first|omega|(simp only[l2,l1,mv];omega)) (by first|omega|(simp only[l2,l1,mv];omega))
  rintro _ _ rfl u;refine⟨aF bL (u.p1.hb.cell rfl),?_⟩;refine aV ani u (C271 _ _ _ _) (λ_ W u=>aN rfl (aN rfl (bX (aC (λv9=>?_) λv9=>?_))))
  .have hz:vy S B=gG B.kind (kh S):=agd (by have:=AV B.kind;omega);unfold runM;rw[ej lS,O,W4 (k:=k) J (by rw[hz];exact v9),hz];exact⟨rfl,u.aG⟩
  refine ql RD u (H':=λ_=>nk E (((S.take (S.length-1)).take ((S.take (S.length-1)).length-1))++[(gC B.kind (kh (S.take (S.length-1))) (kh S))])) (Φ:=λv _=>v=.tuple #[]) (λF G=>?_) ?_
  .exact acL E (gC B.kind (kh (S.take (S.length-1))) (kh S)) ((S.take (S.length-1)).take ((S.take (S.length-1)).length-1)) F _ G (by first|omega|(simp only[l2,l1,mv];omega))
  rintro _ _ rfl u;intro Y;refine aO bO ?_;have u:=u.p1.drop;rw[O6 bO]at u;have M:ly ns S B=_:=ah7 (by have:=AV B.kind;omega);exact⟨_,bO,k+1,_,_,rfl,rfl,bO,O.trans (DF (k:=k) J ((agd (by have:=AV B.kind;omega)).trans (uh.1 v9))),I,by rw[M];exact u⟩
 refine aA uN ?_
 have hS1:S.length=1:=by
  rw[ld bO,wK]at V;have:=(Prod.mk.inj (oq.inj V)).1;omega
 refine ql RE u (H':=λ_=>nk E (S.take (S.length-1))) (Φ:=λv _=>v=hZ (kh S)) (λF G=>?_) ?_
 .exact acM E S F _ G (by first|omega|(simp only[l2,l1,mv];omega)) (by first|omega|(simp only[l2,l1,mv];omega))
 rintro _ _ rfl u;unfold runM;rw[ej lS,O,vM bO];exact⟨rfl,u.aG⟩
def W7(x:Int):eY (BM x):=by unfold eY BM;rw[IntKind.wrap_i64];omega
def acP{a:Int}(b:Int)(u:eY a):eY (a.tmod b):=by
 have B:(a.tmod b).natAbs<=a.natAbs:=by rw[Up];exact abG _ _
 unfold eY at *
 rcases Zs 0 a with h|h
 .have:=P6 b h;omega
 have:=P6 (a:=-a) b bO
 rw[abA]at this;omega
def W8(p:Bool):eY (Jf p):=by cases p<;>(unfold eY Jf;decide)
def iF:eY 0:=by unfold eY;decide
def W9{op a b:Int}(u:eY a):eY (gC op a b):=by
 unfold gC
 by_cases h:gG op b=0
 .rw[ej h]
  unfold lQ EH
  repeat' split
  all_goals first|exact W7 _|exact W8 _|exact iF|exact acP _ u
 rw[ei h];exact iF
def Xa{op a:Int}:eY (yE op a):=by
 unfold yE
 repeat' split
 all_goals first|exact W7 _|exact W8 _|exact iF
def yF(S:List Int):Prop:=∀v∈S,eY v
theorem LF{S:List Int}(h:yF S):eY (kh S):=by
 unfold kh
 rw[oj]
 cases hh:S[S.length-1]? with
 | none=>exact iF
 | some e=>exact h e (la hh)
def yF.take{S:List Int}(h:yF S)(k:Nat):yF (S.take k):=λv u=>h v (wM u)
def yF.snoc{S:List Int}{e:Int}(h:yF S)(B:eY e):yF (S++[e]):=λv u=>by
 rcases List.mem_append.1 u with u|u
 .exact h v u
 grind
theorem Xb{ns S:List Int}{x:oC}{many:Int}(E:yF ns)(u:yF S)(B:rj many x=false):yF (ly ns S x):=by
 unfold rj at B
 have B:=g6 B
 unfold ly
 split
 .rename_i hw
  split
  .rw[oj]
   cases hh:ns[x.n.toNat]? with
   | none=>exact u.snoc iF
   | some e=>grind[yF]
  refine u.snoc ?_
  unfold eE at hw
  unfold eY
  omega
 split
 .exact(u.take _).snoc Xa
 exact(u.take _).snoc (W9 (LF (u.take _)))
def cU(ns:List ByteArray)(s:ByteArray):Int:=sC (λy=>decide (y=s)) ns
def iv(p:cB):List cK:=p.lines.flatten++p.iR
structure PS(p:cB):Prop where
 lines:p.lines.length<=500
 line:∀l∈p.lines,l.length<=500
 iR:p.iR.length<=500
 eK:p.eK.length<=500
 threads:p.threads.length<=500
 recover:p.recover.length<=500
 dT:p.dT.length<=500
 dQ:∀t∈p.threads++p.recover,t.dQ.length<=500
 body:∀t∈p.threads++p.recover,t.body.length<=500
theorem cY{ls:List (List cK)}(h:∀l∈ls,l.length<=500):ls.flatten.length<=500*ls.length:=by
 induction ls with
 | nil=>simp
 | cons a ls u=>
  grind
def kY{p:cB}(h:PS p):(iv p).length<=250500:=by
 have h1:=cY h.line
 have h2:=h.lines
 have h3:=h.iR
 grind[iv]
theorem TZ{α:Type}{ls:List (List α)}{k:Nat}{l:List α}(h:ls[k]?=some l):(ls.take k).flatten++l=(ls.take (k+1)).flatten:=by rw[<- gM h,List.flatten_append];simp
theorem gi{α β:Type}{f:α->β}{l:List α}{k:Nat}{e:α}(h:l[k]?=some e):(l.take k).map f++[f e]=(l.take (k+1)).map f:=by rw[<- gM h,vH];rfl
def C123(lv:Value)(ns:List ByteArray)(q:ByteArray)(w:World)(I:dA (λ_=>True) w lv ns)(O:ns.length<=1048576):CR 123 [lv,.string q] w (λv w'=>v=hZ (cU ns q)/\Ext w w'):=by
 have u:=St.start w;refine eZ Tryz.func123 ?_;refine⟨λm x J=>∃k:Nat,x=hZ (k:Int)/\m=ns.length-k/\k<=ns.length/\(∀y∈ns.take k,decide (y=q)=false)/\St w aZ [] J,⟨_,0,rfl,rfl,l6 _,ee,u⟩,?_⟩;rintro m _ J ⟨k,rfl,rfl,U,B,u⟩ _;refine aK iD (I.ext u.aG) (aR (aC (λW=>?_) λ_=>⟨gQ (n3 .i64) (jg (by rw[ld bO]at B;exact B)).symm,u.aG⟩));obtain⟨V,E⟩:=gx ns (i:=(k:Int).toNat) bO;exact aQ iD (I.ext u.aG) bO E (λ_ M=>aD gA M (jK (aC (λG=>⟨gQ (n3 .i64) (mh B E (ew G)).symm,u.aG⟩) λG=>aO bO ⟨ns.length-(k+1),bO,k+1,rfl,rfl,bO,dY B E (fP G),u⟩)))
def C202(lv:Value)(cs:List cK)(w:World)(E:dA (λ_=>True) w lv cs)(V:cs.length<=1048576):CR 202 [lv] w (λv w'=>kV (bH v (cs.map cK.name)) w w'):=by
 have u:=St.start w;refine eZ Tryz.func202 ?_;refine bD ([]:List ByteArray) u iD rfl rfl (dL rfl) (λW I u=>?_);refine⟨λm y x I=>∃k:Nat,x=hZ (k:Int)/\m=cs.length-k/\k<=cs.length/\St w aZ [bH y ((cs.take k).map cK.name)] I,⟨_,0,rfl,rfl,bO,u⟩,?_⟩;rintro m nq _ _ ⟨k,rfl,rfl,Y,u⟩ _;have CM:((cs.take k).map cK.name).length=k:=by rw[List.length_map,l2];omega
 refine aK iu (E.ext u.aG) (aR (aC (λU=>?_) λU=>?_))
 .obtain⟨G,B⟩:=gx cs (i:=(k:Int).toNat) bO;refine aQ iu (E.ext u.aG) bO B (λ_ J=>bV G.name kS J rfl rfl λ_ M=>aD gA M (bD ([G.name]) u iD rfl rfl (dL rfl) λZ _ u=>?_));have O:=u.dS;exact bJ u.p1 iD O (by simp<;>omega) dD (λ_ _ u=>have u:=u.p1.drop;aO bO ⟨_,bO,k+1,rfl,rfl,bO,by rw[<- gi (k:=k) B];exact u⟩)
 rw[ld bO]at u;exact u.fresh
def C59(p:cB)(pv:bP)(w:World)(hp:Deep.dr w pv p)(B:PS p):CR 59 [j0 pv] w (λv w'=>kV (bH v (iv p)) w w'):=by
 obtain⟨bK,bU,bM,aW,aX,bG,rfl,cQ,dG,cW,cC,cD,cP⟩:=hp;have u:=St.start w;refine eZ Tryz.func59 ?_;refine cG u (λku w1 u=>bD ([]:List cK) u iu rfl rfl (dL rfl) λO8 _ u=>?_);refine⟨λm y x w1=>∃k:Nat,x=hZ (k:Int)/\m=p.lines.length-k/\k<=p.lines.length/\St w aZ [bH y (p.lines.take k).flatten,bY ku (kp (⟨bK,bU,bM,aW,aX,bG⟩:bP))] w1,⟨_,0,rfl,rfl,bO,u⟩,?_⟩;rintro m nq _ _ ⟨k,rfl,rfl,hk,u⟩ _;have T0:=B.lines;refine aA gB (aB oS u.p1.hb rfl ?_)
 obtain⟨Xd,E,G⟩:=cQ.open;have Xe:=G.1;refine aK pL (E.ext u.aG) (aR (aC (λgL=>?_) λgL=>?_))
 .refine aA gB (aB oS u.p1.hb rfl ?_);obtain⟨M,Xf⟩:=gx Xd (i:=(k:Int).toNat) bO;obtain⟨U,J⟩:=gx p.lines (i:=(k:Int).toNat) bO;have I:DL w (j0 M) U:=G.2 _ _ _ Xf J;refine aQ pL (E.ext u.aG) bO Xf (λ_ LG=>aD jO LG ?_);have O:=DL.flat I;have Ag:=B.line _ (la J);have W:=cY (ls:=p.lines.take k) (λl V=>B.line l (wM V));rw[l2]at W;have T0:=B.lines;have lH:=(O.ext u.aG);exact bJ u iu lH bO dD (λ_ _ u=>aO bO ⟨_,bO,k+1,rfl,rfl,bO,by rw[<- TZ (k:=k) J];exact u⟩)
 refine aA qi (aB jO u.p1.hb rfl ?_);have Z:=DL.flat dG;have W:=cY (ls:=p.lines.take k) (λl V=>B.line l (wM V));rw[l2]at W;have T0:=B.lines;have hz2:=B.iR;have Y:=(Z.ext u.aG);refine bJ u iu Y bO dD (λan6 _ u=>?_);rw[ld bO]at u;exact u.p1.drop.fresh
def kids(k:Int):Int:=if k=1\/k=2 then 0 else if k=3\/k=4 then 1 else if 5<=k/\k<=15 then 2 else -1
def uf(k:Int) : -1<=kids k/\kids k<=2:=by
 grind[kids]
def gD(c:Int):Bool:=decide (97<=c/\c<=122\/c=95)
def kx(c:Int):Bool:=decide (48<=c/\c<=57)
def jV:List ByteArray:=[⟨#[108,105,110,101]⟩,⟨#[118,111,108]⟩,⟨#[108,111,99,107]⟩,⟨#[116,104,114,101,97,100]⟩,⟨#[114,101,103]⟩,⟨#[108,111,97,100]⟩,⟨#[115,116,111,114,101]⟩,⟨#[99,97,115]⟩,⟨#[102,108,117,115,104]⟩,⟨#[111,112,116]⟩,⟨#[115,102,101,110,99,101]⟩,⟨#[109,102,101,110,99,101]⟩,⟨#[116,97,107,101]⟩,⟨#[103,105,118,101]⟩,⟨#[105,102]⟩,⟨#[101,108,115,101]⟩,⟨#[108,111,111,112]⟩,⟨#[98,114,101,97,107]⟩,⟨#[99,104,101,99,107]⟩,⟨#[114,101,99,111,118,101,114]⟩,⟨#[97,108,119,97,121,115]⟩]
def gN(s:ByteArray):Bool:=!(decide (s.size<1\/16<s.size)||(match (iQ s)[0]? with|some c=>!gD c.toNat|none=>true)||jV.any λy=>decide (y=s))&&!(iQ s).any (λc=>!gD c.toNat&&!kx c.toNat)
def skip:Nat->List cA->Option (List cA)
 | 0,l=>some l
 | _+1,[]=>none
 | n+1,x::l=>if kids x.op<0 then none else skip (n+(kids x.op).toNat) l
theorem zI(l:List cA):skip 0 l=some l:=by cases l<;>rfl
theorem EM(l:List cA):∀a b,skip (a+b) l=(skip a l).bind (skip b):=by
 induction l with
 | nil=>
  intro a b
  cases a with
  | zero=>rw[u4,zI];rfl
  | succ a=>grind[skip]
 | cons x l u=>
  intro a b
  cases a with
  | zero=>rw[u4,zI];rfl
  | succ a=>
   grind[skip]
theorem EN(l:List cA):∀n r,skip n l=some r->r=l.drop (l.length-r.length)/\r.length+min n 1<=l.length:=by
 induction l with
 | nil=>
  intro n r h
  cases n with
  | zero=>rw[zI]at h;grind
  | succ n=>cases h
 | cons x l u=>
  intro n r h
  cases n with
  | zero=>rw[zI]at h;simp_all
  | succ n=>
   have h:(if kids x.op<0 then none else skip (n+(kids x.op).toNat) l)=some r:=h
   split at h
   .cases h
   .obtain⟨h1,h2⟩:=u _ _ h
    refine⟨?_,cL⟩
    rw[show(x::l).length-r.length=(l.length-r.length)+1 from cL]
    exact h1
def Df(n:Nat)(o:Option (List cA)):Int:=match o with|some r=>(n:Int)-r.length|none=>-1
def qC(xs:List cA)(i:Int):Int:=if i<0 then -1 else Df xs.length (skip 1 (xs.drop i.toNat))
def Xg{xs:List cA}{i:Int}{x:cA}(G:0<=i)(E:xs[i.toNat]?=some x)(I:0<=kids x.op):qC xs i=Df xs.length (skip (kids x.op).toNat (xs.drop (i.toNat+1))):=by
 unfold qC
 obtain⟨B,u⟩:=kO.1 E
 rw[ei bO,u1 B,u]
 show Df _ (if kids x.op<0 then none else skip (0+(kids x.op).toNat) _)=_
 grind
theorem acQ{xs:List cA}{i:Int}{x:cA}(G:0<=i)(E:xs[i.toNat]?=some x)(I:kids x.op<0):qC xs i = -1:=by
 unfold qC
 obtain⟨B,u⟩:=kO.1 E
 rw[ei bO,u1 B,u]
 grind[Df,skip]
theorem acR{xs:List cA}{i:Int}(h:i<0\/xs.length<=i):qC xs i = -1:=by
 unfold qC
 split
 .rfl
 rw[vM bO];rfl
theorem an7{xs:List cA}{j k:Nat}{a:Int}(h:Df xs.length (skip k (xs.drop j))=a)(u:0<=a):qC xs a=Df xs.length (skip (k+1) (xs.drop j))/\((j:Int)<=a\/xs.length<=a):=by
 cases hs:skip k (xs.drop j)with
 | none=>rw[hs]at h;unfold Df at h;simp only[]at h;omega
 | some r=>
  rw[hs]at h
  have h:(xs.length:Int)-r.length=a:=h
  obtain⟨h1,h2⟩:=EN _ _ _ hs
  rw[rf]at h1 h2
  rw[EM,hs]
  show _=Df _ (skip 1 r)/\_
  refine⟨?_,bO⟩
  unfold qC
  rw[ei bO]
  by_cases B:j<=xs.length
  .have:xs.drop a.toNat=r:=by
    rw[h1,tj,show j+(xs.length-j-r.length)=a.toNat from bO]
   rw[this]
  .have:r=[]:=sl.1 bO
   subst this
   rw[vM (by simp at h;omega)]
theorem aia{xs l:List cA}{k j:Nat}(u:l.length<=xs.length)(h:¬ 0<=Df xs.length (skip k l))(B:k<=j):Df xs.length (skip k l)=Df xs.length (skip j l):=by
 cases hs:skip k l with
 | none=>rw[show j=k+(j-k)from bO,EM,hs];rfl
 | some r=>
  obtain⟨_,h2⟩:=EN _ _ _ hs
  rw[hs]at h;unfold Df at h;simp only[]at h;omega
theorem avv{xs l:List cA}{k:Nat}(u:l.length<=xs.length) : -1<=Df xs.length (skip k l)/\Df xs.length (skip k l)<=xs.length:=by
 cases hs:skip k l with
 | none=>unfold Df;simp only[];omega
 | some r=>
  obtain⟨_,h2⟩:=EN _ _ _ hs
  unfold Df;simp only[];omega
def C273(k:Int)(w:World):CR 273 [hZ k] w (λv w'=>v=hZ (kids k)/\Ext w w'):=by
 have E:=St.start w;refine eZ Tryz.func273 ?_;refine⟨λu w'=>u=.bool (decide (k=1\/k=2))/\w=w',aH (aC (λ_=>⟨Oi bO,rfl⟩) λ_=>aH ⟨yN bO,rfl⟩),?_⟩;rintro _ _ ⟨rfl,B⟩ _;subst B;refine aC (λG=>?_) (λG=>⟨λu w'=>u=.bool (decide (k=3\/k=4))/\w=w',aH (aC (λ_=>⟨Oi bO,rfl⟩) λ_=>aH ⟨yN bO,rfl⟩),?_⟩)
 .unfold kids;exact⟨gQ (n3 .i64) cL,E.aG⟩
 rintro _ _ ⟨rfl,B⟩ _;subst B;refine aC (λJ=>?_) (λJ=>⟨λu w'=>u=.bool (decide (5<=k/\k<=15))/\w=w',cR (aC (λ_=>gZ ⟨yN bO,rfl⟩) λ_=>⟨jvF bO,rfl⟩),?_⟩)
 .unfold kids;exact⟨gQ (n3 .i64) cL,E.aG⟩
 rintro _ _ ⟨rfl,B⟩ _;subst B;refine aC (λI=>?_) (λI=>?_)
 .unfold kids;exact⟨gQ (n3 .i64) cL,E.aG⟩
 unfold kids;exact⟨gQ (n3 .i64) cL,E.aG⟩
def C206(c:Int)(w:World):CR 206 [.int .u8 c] w (λv w'=>v=.bool (gD c)/\Ext w w'):=by
 have E:=St.start w;refine eZ Tryz.func206 ?_;refine⟨λu w'=>u=.bool (decide (97<=c/\c<=122\/c=95))/\w=w',AQ (aC (λ_=>AP (aC (λ_=>⟨Oi bO,rfl⟩) λ_=>nL ⟨yN bO,rfl⟩)) λ_=>nL ⟨yN bO,rfl⟩),?_⟩;rintro _ _ ⟨rfl,B⟩ _;subst B;exact⟨rfl,E.aG⟩
def C207(c:Int)(w:World):CR 207 [.int .u8 c] w (λv w'=>v=.bool (kx c)/\Ext w w'):=by
 have E:=St.start w;refine eZ Tryz.func207 ?_;refine⟨λu w'=>u=.bool (decide (48<=c/\c<=57))/\w=w',AQ (aC (λ_=>AP ⟨yN bO,rfl⟩) λ_=>⟨jvF bO,rfl⟩),?_⟩;rintro _ _ ⟨rfl,B⟩ _;subst B;exact⟨rfl,E.aG⟩
def C255(s:ByteArray)(w:World):CR 255 [.string s] w (λv w'=>v=.bool (jV.any λy=>decide (y=s))/\Ext w w'):=by
 have u:=St.start w;refine eZ Tryz.func255 ?_;refine bD jV u iD rfl rfl (dL rfl) (λJ I u=>?_);refine⟨λm x I=>∃k:Nat,x=hZ (k:Int)/\m=jV.length-k/\k<=jV.length/\(∀y∈jV.take k,decide (y=s)=false)/\St w aZ [bH J jV] I,⟨_,0,rfl,rfl,l6 _,ee,u⟩,?_⟩;rintro m _ _ ⟨k,rfl,rfl,U,B,u⟩ _;have W:jV.length=21:=rfl;refine aK iD u.dS (aR (aC (λM=>?_) λM=>?_))
 .skip;obtain⟨V,E⟩:=gx jV (i:=(k:Int).toNat) bO;exact dR u iD bO bO (λ_ O=>gP u gA O E (jK (aC (λG=>⟨vb (ig E (ew G)).symm,u.aG⟩) λG=>aO bO ⟨_,bO,k+1,rfl,rfl,bO,dY B E (fP G),u⟩)))
 rw[ld bO]at B;exact⟨vb (iE B).symm,u.aG⟩
def C211(s:ByteArray)(w:World)(hn:s.size<=1048576):CR 211 [.string s] w (λv w'=>v=.bool (gN s)/\Ext w w'):=by
 have u:=St.start w;refine eZ Tryz.func211 ?_;refine⟨λJ w'=>J=.bool (decide (s.size<1\/16<s.size)||(match (iQ s)[0]? with|some c=>!gD c.toNat|none=>true)||jV.any λy=>decide (y=s))/\St w aZ [] w',fj iq (aR (aC (λ_=>⟨vb cL,u⟩) λpN=>fj iq (cN (aC (λ_=>⟨vb cL,u⟩) λZ=>?_)))),?_⟩
 .obtain⟨iy,W⟩:∃G,(iQ s)[(0:Int).toNat]?=some G:=⟨_,l0 (by rw[eX];omega)⟩;exact jY iq bO W (aV Rx u (C206 _ _) λ_ _ u=>bR (aY (λ_=>⟨vb cL,u⟩) λ_=>aV anb u (C255 _ _) λ_ _ u=>⟨vb cL,u⟩))
 rintro _ _ ⟨rfl,u⟩ _;refine aY (λE=>?_) (λE=>?_)
 .refine⟨vb ?_,u.aG⟩;unfold gN;rw[E];rfl
 refine⟨λm x Y=>∃k:Nat,x=hZ (k:Int)/\m=(iQ s).length-k/\k<=(iQ s).length/\(∀y∈(iQ s).take k,(!gD y.toNat&&!kx y.toNat)=false)/\St w aZ [] Y,⟨_,0,rfl,rfl,l6 _,ee,u⟩,?_⟩;rintro m _ _ ⟨k,rfl,rfl,U,I,u⟩ _;rw[eX]at U;have Hq:=eX s;refine fj iq (aR (aC (λV=>?_) λV=>?_))
 .obtain⟨O,B⟩:∃G,(iQ s)[(k:Int).toNat]?=some G:=⟨_,l0 (by rw[eX];omega)⟩;refine⟨λJ w'=>J=.bool (!gD O.toNat&&!kx O.toNat)/\St w aZ [] w',jY iq bO B (aV Rx u (C206 _ _) λ_ _ u=>bR (aY (λ_=>jY iq bO B (aV Ry u (C207 _ _) λ_ _ u=>bR ⟨vb cL,u⟩)) λ_=>⟨vb cL,u⟩)),?_⟩;rintro _ _ ⟨rfl,u⟩ _;refine aY (λM=>?_) (λM=>aO bO ⟨_,bO,k+1,rfl,rfl,bO,dY I B (by simpa using M),u⟩);refine⟨vb ?_,u.aG⟩;unfold gN;rw[ig B M];simp
 rw[ld bO]at I;refine⟨vb ?_,u.aG⟩;unfold gN;rw[iE I]
 revert E
 cases (decide (s.size<1\/16<s.size)||(match (iQ s)[0]? with|some c=>!gD c.toNat|none=>true)||jV.any λy=>decide (y=s))<;>simp
theorem C251(lv:Value)(xs:List cA)(i:Int)(N:Nat)(w:World)(E:dA (λ_=>True) w lv xs)(V:xs.length<=1048576)(hi : -9223372036854775808<=i)(hN:(xs.length:Int)-i<N):CR 251 [lv,hZ i] w (λv w'=>v=hZ (qC xs i)/\Ext w w'):=by
 have u:=St.start w;refine eZ Tryz.func251 ?_;refine⟨λI w'=>I=.bool (decide (i<0\/(xs.length:Int)<=i)||(match xs[i.toNat]? with|some x=>decide (kids x.op<0)|none=>true))/\St w aZ [] w',aR (aC (λ_=>⟨vb cL,u⟩) λgH=>aK gY (E.ext u.aG) (cR (aC (λ_=>⟨vb cL,u⟩) λxi=>?_))),?_⟩
 .obtain⟨Z,ja⟩:=gx xs (i:=(i).toNat) bO;exact aQ gY (E.ext u.aG) bO ja (λ_ W=>bV Z.op fa W rfl rfl λ_ Y=>aD bL Y (aV KR u (C273 _ _) λ_ _ u=>aR ⟨vb cL,u⟩))
 rintro _ _ ⟨rfl,u⟩ _;refine aY (λ_=>⟨gQ (n3 .i64) (by grind[acR,acQ]),u.aG⟩) (λnd=>?_);have h23:¬ (i<0\/(xs.length:Int)<=i):=cL
 obtain⟨B,M⟩:=gx xs (i:=(i).toNat) bO;have O:0<=kids B.op:=cL
 have Xh:=uf B.op;have U:=Xg bO M O;refine aO bO ?_;refine⟨λm y x w1=>∃(k:Nat) (a:Int),x=hZ (k:Int)/\y=hZ a/\m=(kids B.op).toNat-k/\k<=(kids B.op).toNat/\Df xs.length (skip k (xs.drop (i.toNat+1)))=a/\St w aZ [] w1,⟨_,0,i+1,rfl,rfl,rfl,bO,by rw[zI];unfold Df;simp only[rf];omega,u⟩,?_⟩;rintro m _ _ _ ⟨k,a,rfl,rfl,rfl,hk,J,u⟩ _;have G:=avv (xs:=xs) (l:=xs.drop (i.toNat+1)) (k:=k) (by rw[rf];omega);rw[J]at G;refine⟨λI w'=>I=.bool (decide ((k:Int)<kids B.op/\0<=a))/\St w aZ [] w',aQ gY (E.ext u.aG) bO M (λ_ AZ=>bV B.op fa AZ rfl rfl λ_ mF=>aD bL mF (aV KR u (C273 _ _) λ_ _ u=>aR (aC (λ_=>cR ⟨vb cL,u⟩) λ_=>⟨vb cL,u⟩))),?_⟩
 rintro _ _ ⟨rfl,u⟩ _;refine aC (λo9=>?_) (λ_=>⟨gQ (n3 .i64) (by have:=aia (xs:=xs) (l:=xs.drop (i.toNat+1)) (k:=k) (j:=(kids B.op).toNat) (by rw[rf];omega);rw[U];by_cases h0:0<=a<;>grind),u.aG⟩);have LH:=an7 J bO;exact aV KP u (C251 _ _ _ (N-1) _ (E.ext u.aG) V bO bO) (λ_ _ u=>aO bO ⟨_,bO,k+1,_,rfl,rfl,rfl,bO,LH.1.symm,u⟩)
termination_by N
decreasing_by omega
inductive Ex where
 | leaf (x:cA)
 | un (x:cA) (a:Ex)
 | bin (x:cA) (a b:Ex)
namespace Ex
def root:Ex->cA|leaf x=>x|un x _=>x|bin x _ _=>x
def eD:Ex->List Ex|leaf _=>[]|un _ a=>[a]|bin _ a b=>[a,b]
def flat:Ex->List cA|leaf x=>[x]|un x a=>x::a.flat|bin x a b=>x::(a.flat++b.flat)
def wf:Ex->Prop|leaf x=>kids x.op=0|un x a=>kids x.op=1/\a.wf|bin x a b=>kids x.op=2/\a.wf/\b.wf
def depth:Ex->Int|leaf _=>1|un _ a=>a.depth+1|bin _ a b=>max a.depth b.depth+1
def size:Ex->Nat|leaf _=>1|un _ a=>a.size+1|bin _ a b=>a.size+b.size+1
def numOf(ns:List ByteArray)(x:cA):Int:=if x.op=2 then cU ns x.name else x.n
def steps(ns:List ByteArray):Ex->List oC
 | leaf x=>[⟨x.op,numOf ns x⟩]
 | un x a=>a.steps ns++[⟨x.op,numOf ns x⟩]
 | bin x a b=>a.steps ns++b.steps ns++[⟨x.op,numOf ns x⟩]
end Ex
theorem Ex.cY(t:Ex):t.flat.length=t.size:=by
 induction t with
 | leaf x=>rfl
 | un x a u=>simp[Ex.flat,Ex.size,u]
 | bin x a b B E=>simp[Ex.flat,Ex.size,B,E]
theorem Ex.Hr(t:Ex):t.flat=t.root::(t.eD.map Ex.flat).flatten:=by
 cases t<;>simp[Ex.flat,Ex.root,Ex.eD]
theorem Ex.pa{t:Ex}(h:t.wf):kids t.root.op=t.eD.length:=by
 cases t with
 | leaf x=>exact h
 | un x a=>exact h.1
 | bin x a b=>exact h.1
theorem Ex.ug{t a:Ex}(h:t.wf)(u:a∈t.eD):a.wf/\a.size<t.size:=by
 cases t with
 | leaf x=>cases u
 | un x b=>rw[wy.1 u];exact⟨h.2,by simp[Ex.size]⟩
 | bin x b c=>
  rcases List.mem_cons.1 u with rfl|u
  .grind[wf,size]
  grind[wf,size]
theorem Ex.rI(t:Ex):1<=t.depth/\t.depth<=t.size:=by
 induction t with
 | leaf x=>simp[Ex.depth,Ex.size]
 | un x a u=>simp only[Ex.depth,Ex.size];omega
 | bin x a b B E=>simp only[Ex.depth,Ex.size];omega
theorem Ex.pP(ns:List ByteArray)(t:Ex):(t.steps ns).length=t.size:=by
 induction t with
 | leaf x=>rfl
 | un x a u=>simp[Ex.steps,Ex.size,u]
 | bin x a b B E=>grind[steps,size]
theorem T1(t:Ex)(h:t.wf):∀n r,skip (n+1) (t.flat++r)=skip n r:=by
 induction t with
 | leaf x=>
  intro n r
  show(if kids x.op<0 then none else skip (n+(kids x.op).toNat) r)=_
  rw[show kids x.op=0 from h];rfl
 | un x a u=>
  intro n r
  show(if kids x.op<0 then none else skip (n+(kids x.op).toNat) (a.flat++r))=_
  rw[show kids x.op=1 from h.1,ei bO];exact u h.2 n r
 | bin x a b B E=>
  intro n r
  show(if kids x.op<0 then none else skip (n+(kids x.op).toNat) (a.flat++b.flat++r))=_
  rw[show kids x.op=2 from h.1,ei bO,n5]
  show skip (n+1+1) _=_
  rw[B h.2.1 (n+1),E h.2.2 n]
theorem R5:∀(k:Nat) (l r:List cA),l.length<=k->skip 1 l=some r->∃t:Ex,t.wf/\l=t.flat++r
 | k,[],r,_,h=>by cases h
 | 0,x::l,r,u,_=>by simp at u
 | k+1,x::l,r,u,h=>by
  have u:l.length<=k:=cL
  have h:(if kids x.op<0 then none else skip (0+(kids x.op).toNat) l)=some r:=h
  have hb:=uf x.op
  split at h
  .cases h
  .rcases(show kids x.op=0\/kids x.op=1\/kids x.op=2 by omega)with h0|h0|h0
   .rw[h0]at h
    have h:skip 0 l=some r:=h
    rw[zI]at h;cases h
    exact⟨.leaf x,h0,rfl⟩
   .rw[h0]at h
    obtain⟨a,B,rfl⟩:=R5 k l r u h
    exact⟨.un x a,⟨h0,B⟩,rfl⟩
   .rw[h0]at h
    have h:skip (1+1) l=some r:=h
    rw[EM]at h
    obtain⟨m,h1,h2⟩:=Pc.1 h
    obtain⟨a,B,rfl⟩:=R5 k l m u h1
    obtain⟨b,E,rfl⟩:=R5 k m r cL h2
    exact⟨.bin x a b,⟨h0,B,E⟩,by simp[Ex.flat]⟩
def BO(xs:List cA)(i:Int)(t:Ex):Prop:=0<=i/\t.wf/\∃r,xs.drop i.toNat=t.flat++r
def BO.root{xs:List cA}{i:Int}{t:Ex}(h:BO xs i t):xs[i.toNat]?=some t.root/\i<xs.length:=by
 obtain⟨u,_,r,h⟩:=h
 have:(xs.drop i.toNat)[0]?=some t.root:=by rw[h,Ex.Hr];rfl
 rw[Jo,PK]at this
 exact⟨this,by have:=(kO.1 this).1;omega⟩
def BO.end{xs:List cA}{i:Int}{t:Ex}(h:BO xs i t):qC xs i=i+t.size/\i+t.size<=xs.length:=by
 have E:=h.root.2
 obtain⟨G,u,r,h⟩:=h
 have B:=gQ List.length h
 rw[rf,l1,Ex.cY]at B
 refine⟨?_,bO⟩
 unfold qC
 rw[ei bO,h,T1 t u 0 r,zI]
 unfold Df;grind
theorem BO.of{xs:List cA}{i:Int}(h:0<=qC xs i):∃t,BO xs i t:=by
 unfold qC at h
 split at h
 .omega
 cases hs:skip 1 (xs.drop i.toNat)with
 | none=>rw[hs]at h;unfold Df at h;simp only[]at h;omega
 | some r=>
  obtain⟨t,B,u⟩:=R5 _ _ r (pb _) hs
  exact⟨t,bO,B,r,u⟩
def qD(ks:List Ex)(k:Nat):Nat:=((ks.take k).map Ex.size).sum
theorem uS{ks:List Ex}{k:Nat}{a:Ex}(h:ks[k]?=some a):qD ks (k+1)=qD ks k+a.size:=by
 unfold qD;rw[<- gM h];simp
def BO.kid{xs:List cA}{i:Int}{t a:Ex}{k:Nat}(h:BO xs i t)(u:t.eD[k]?=some a):BO xs (i+1+qD t.eD k) a:=by
 obtain⟨J,E,r,h⟩:=h
 refine⟨bO,(Ex.ug E (la u)).1,?_⟩
 have I:t.eD=t.eD.take k++a::t.eD.drop (k+1):=by
  obtain⟨M,B⟩:=kO.1 u
  rw[<- B,LQ,qa]
 have G:(((t.eD.take k).map Ex.flat).flatten).length=qD t.eD k:=by
  unfold qD
  rw[Xj,Km]
  congr 2
  exact funext λx=>Ex.cY x
 have h2:xs.drop (i.toNat+1)=((t.eD.take k).map Ex.flat).flatten++(a.flat++(((t.eD.drop (k+1)).map Ex.flat).flatten++r)):=by
  rw[<- tj,h,Ex.Hr t]
  show(t.eD.map Ex.flat).flatten++r=_
  conv=>lhs;rw[I]
  simp
 refine⟨((t.eD.drop (k+1)).map Ex.flat).flatten++r,?_⟩
 rw[show(i+1+(qD t.eD k:Int)).toNat=i.toNat+1+qD t.eD k from bO,<- tj,h2,<- G,List.drop_left]
def Dg(ks:List Ex)(k:Nat):Int:=((ks.take k).map Ex.depth).foldl max 0
theorem B7{ks:List Ex}{k:Nat}{a:Ex}(h:ks[k]?=some a):Dg ks (k+1)=max (Dg ks k) a.depth:=by
 unfold Dg;rw[<- gM h,vH,FA];rfl
theorem Pa{ks:List Ex}{N:Int}(u:0<=N)(h:∀a∈ks,a.depth<=N):∀k,0<=Dg ks k/\Dg ks k<=N
 | 0=>by simp[Dg,u]
 | k+1=>by
  have B:=Pa u h k
  cases hx:ks[k]? with
  | none=>
   have e:ks.take (k+1)=ks.take k:=by rw[tz,hx];simp
   unfold Dg at *;grind
  | some a=>rw[B7 hx];grind
theorem Ex.LI(t:Ex):t.depth=Dg t.eD t.eD.length+1:=by
 cases t with
 | leaf x=>rfl
 | un x a=>have:=a.rI;grind[depth,Dg,eD]
 | bin x a b=>have:=a.rI;grind[depth,Dg,eD]
def Xi(ns:List ByteArray)(ks:List Ex)(k:Nat):List oC:=((ks.take k).map (Ex.steps ns)).flatten
theorem LJ{ns:List ByteArray}{ks:List Ex}{k:Nat}{a:Ex}(h:ks[k]?=some a):Xi ns ks (k+1)=Xi ns ks k++a.steps ns:=by
 unfold Xi;rw[<- gM h];simp
def DG{ns:List ByteArray}{ks:List Ex}{k:Nat}:(Xi ns ks k).length=qD ks k:=by
 unfold Xi qD
 rw[Xj,Km]
 congr 2
 exact funext λx=>Ex.pP ns x
theorem Ex.vz(ns:List ByteArray)(t:Ex):t.steps ns=Xi ns t.eD t.eD.length++[⟨t.root.op,Ex.numOf ns t.root⟩]:=by
 cases t<;>simp[Ex.steps,Ex.eD,Xi,Ex.root]
def pt:Nat->List cA->Option (Ex×List cA)
 | 0,_=>none
 | _+1,[]=>none
 | n+1,x::l=>
  if kids x.op=0 then some (.leaf x,l)else if kids x.op=1 then(match pt n l with|some p=>some (.un x p.1,p.2)|none=>none)
  else if kids x.op=2 then(match pt n l with|some p=>(match pt n p.2 with|some q=>some (.bin x p.1 q.1,q.2)|none=>none)|none=>none)else none
theorem acT(t:Ex)(h:t.wf):∀n r,t.size<=n->pt n (t.flat++r)=some (t,r):=by
 induction t with
 | leaf x=>
  intro n r u
  cases n with
  | zero=>simp[Ex.size]at u
  | succ n=>show(if kids x.op=0 then _ else _)=_;rw[ej (show kids x.op=0 from h)];rfl
 | un x a G=>
  intro n r u
  cases n with
  | zero=>simp[Ex.size]at u
  | succ n=>
   have h1:kids x.op=1:=h.1
   show(if kids x.op=0 then _ else if kids x.op=1 then(match pt n (a.flat++r)with|some p=>some (Ex.un x p.1,p.2)|none=>none)else _)=_
   rw[ei bO,ej h1,G h.2 n r (by simp[Ex.size]at u;omega)]
 | bin x a b B E=>
  intro n r u
  cases n with
  | zero=>simp[Ex.size]at u
  | succ n=>
   have h1:kids x.op=2:=h.1
   show(if kids x.op=0 then _ else if kids x.op=1 then _ else if kids x.op=2 then(match pt n (a.flat++b.flat++r)with|some p=>(match pt n p.2 with|some q=>some (Ex.bin x p.1 q.1,q.2)|none=>none)|none=>none)else _)=_
   rw[ei bO,ei bO,ej h1,n5,B h.2.1 n _ (by simp[Ex.size]at u;omega)]
   simp only[]
   rw[E h.2.2 n _ (by simp[Ex.size]at u;omega)]
def zJ(l:List cA):Option Ex:=match pt l.length l with|some p=>if p.2=[]then some p.1 else none|none=>none
def T3{t:Ex}(h:t.wf):zJ t.flat=some t:=by
 unfold zJ
 have:=acT t h t.flat.length [] (by rw[Ex.cY];omega)
 grind
def BO.zero{l:List cA}{t:Ex}(h:BO l 0 t)(E:qC l 0=l.length):l=t.flat/\zJ l=some t:=by
 have h1:=h.end
 obtain⟨_,B,r,h⟩:=h
 have u:=gQ List.length h
 rw[l1,Ex.cY]at u
 simp at u
 have:r=[]:=sl.1 bO
 subst this
 have h:l=t.flat:=cL
 exact⟨h,by rw[h];exact T3 B⟩
theorem A0:∀n l t r,pt n l=some (t,r)->t.wf/\l=t.flat++r
 | 0,l,t,r,h=>by cases h
 | n+1,[],t,r,h=>by cases h
 | n+1,x::l,t,r,h=>by
  have h:(if kids x.op=0 then some (Ex.leaf x,l)else if kids x.op=1 then(match pt n l with|some p=>some (Ex.un x p.1,p.2)|none=>none)
   else if kids x.op=2 then(match pt n l with|some p=>(match pt n p.2 with|some q=>some (Ex.bin x p.1 q.1,q.2)|none=>none)|none=>none)else none)=some (t,r):=h
  split at h
  .rename_i hk;cases h;exact⟨hk,rfl⟩
  .split at h
   .rename_i hk
    cases ha:pt n l with
    | none=>grind
    | some p=>
     rw[ha]at h
     obtain⟨a,m⟩:=p
     cases h
     obtain⟨h1,rfl⟩:=A0 n l a _ ha
     exact⟨⟨hk,h1⟩,rfl⟩
   .split at h
    .rename_i hk
     cases ha:pt n l with
     | none=>grind
     | some p=>
      rw[ha]at h
      obtain⟨a,m⟩:=p
      simp only[]at h
      cases hb:pt n m with
      | none=>grind
      | some q=>
       rw[hb]at h
       obtain⟨b,u⟩:=q
       cases h
       obtain⟨h1,rfl⟩:=A0 n l a _ ha
       obtain⟨h2,rfl⟩:=A0 n m b _ hb
       exact⟨⟨hk,h1,h2⟩,by simp[Ex.flat]⟩
    .cases h
theorem vA{l:List cA}{t:Ex}(h:zJ l=some t):t.wf/\l=t.flat:=by
 unfold zJ at h
 cases hp:pt l.length l with
 | none=>grind
 | some p=>
  rw[hp]at h
  obtain⟨a,r⟩:=p
  simp only[]at h
  split at h
  .rename_i hr;cases h
   obtain⟨h1,h2⟩:=A0 _ _ _ _ hp
   grind
  .cases h
theorem EO{l:List cA}:(zJ l).isSome=decide (qC l 0=l.length):=by
 by_cases h:qC l 0=l.length
 .obtain⟨t,ht⟩:=BO.of (xs:=l) (i:=0) bO
  rw[(ht.zero h).2,ew h];rfl
 rw[fP h]
 cases he:zJ l with
 | none=>rfl
 | some t=>
  obtain⟨h1,rfl⟩:=vA he
  exact absurd (by have:=(show BO t.flat 0 t from⟨bO,h1,[],ee⟩).end.1;rw[this,Ex.cY];omega) h
def lr(x:cA):Bool:=decide (x.at_<0\/4000<x.at_)||decide (¬ x.op=1/\¬ x.n=0)||decide (¬ x.op=2/\¬ x.name=⟨#[]⟩)||decide (x.n<0\/4294967296<x.n)||(decide (x.op=2)&&!gN x.name)
def R6(l:List cA):Int:=match zJ l with|some t=>t.depth|none=>0
def fB(l:List cA):Bool:=decide (l.length<=40)&&(zJ l).isSome&&!l.any lr&&decide (R6 l<=12)
def B8(ns:List ByteArray)(l:List cA):List oC:=match zJ l with|some t=>t.steps ns|none=>[]
def kZ(ns:List ByteArray)(l:List cA):Int:=if fB l=false then 8 else if l.any (λx=>decide (x.op=2)&&decide (cU ns x.name<0))then 9 else 0
def qE(ns:List ByteArray)(l:List cA):List oC:=if kZ ns l=0 then B8 ns l else []
def zK{l:List cA}(h:fB l=true):qC l 0=l.length:=by
 unfold fB at h
 rw[EO]at h
 grind
theorem C252(lv:Value)(xs:List cA)(i:Int)(t:Ex)(N:Nat)(w:World)(G:dA (λ_=>True) w lv xs)(W:xs.length<=1048576)(B:BO xs i t)(hN:t.size<N):CR 252 [lv,hZ i] w (λv w'=>v=hZ t.depth/\Ext w w'):=by
 obtain⟨I,hq,sD⟩:∃e,e=t.root/\xs[(i).toNat]?=some e:=⟨_,rfl,B.root.1⟩;have hri:=B.root.2;have Y:=B.end;have O:=Ex.pa B.2.1;rw[<- hq]at O;have Xh:=uf I.op;have hi0:=B.1;have u:=St.start w;refine acb _ _ _ _ ?_;unfold S252;refine aO bO ?_;refine⟨λm n a x J=>∃k:Nat,n=hZ (Dg t.eD k)/\a=hZ (i+1+qD t.eD k)/\x=hZ (k:Int)/\m=t.eD.length-k/\k<=t.eD.length/\St w aZ [] J,⟨_,0,rfl,gQ (n3 .i64) (by simp[qD]),rfl,rfl,bO,u⟩,?_⟩;rintro m _ _ _ J ⟨k,rfl,rfl,rfl,rfl,hk,u⟩ _;have Z:=Pa (ks:=t.eD) (N:=(t.size:Int)) bO (λa ha=>by have:=(Ex.ug B.2.1 ha).2;have:=a.rI;omega) k
 refine aQ gY (G.ext u.aG) bO sD (λ_ U=>bV I.op fa U rfl rfl λ_ ij=>aD bL ij (aV KR u (C273 _ _) λ_ he u=>aR (aC (λki=>?_) λ_=>aO bO ⟨gQ (n3 .i64) (by rw[t.LI,show k=t.eD.length from bO]),u.aG⟩)));obtain⟨a,E⟩:=gx t.eD (i:=k) bO;have V:=Ex.ug B.2.1 (la E);have M:=B.kid E;have VE:=M.end;have T5:=a.rI;exact aV Wi u (C252 _ _ _ _ (N-1) _ (G.ext u.aG) W M bO) (λ_ _ u=>DD (aV KP u (C251 _ _ _ (xs.length+1) _ (G.ext u.aG) bO bO bO) λ_ _ u=>aO bO ⟨_,bO,k+1,by rw[B7 E],gQ (n3 .i64) (by rw[VE.1,uS E];omega),rfl,rfl,bO,u⟩))
termination_by N
decreasing_by omega
def C200(lv:Value)(xs:List cA)(w:World)(E:dA (λ_=>True) w lv xs)(W:xs.length<=1048576)(G:∀x∈xs,x.name.size<=1048576):CR 200 [lv] w (λv w'=>v=.bool (fB xs)/\Ext w w'):=by
 have u:=St.start w;refine eZ Tryz.func200 ?_;refine⟨λO w'=>O=.bool (decide (40<xs.length)||decide (¬ qC xs 0=xs.length))/\St w aZ [] w',aK gY (E.ext u.aG) (cN (aC (λ_=>⟨vb cL,u⟩) λ_=>aV KP u (C251 _ _ _ (xs.length+1) _ (E.ext u.aG) bO bO bO) λ_ _ u=>aK gY (E.ext u.aG) (bX ⟨vb cL,u⟩))),?_⟩;rintro _ _ ⟨rfl,u⟩ _;refine aY (λY=>?_) (λY=>?_)
 .refine⟨vb ?_,u.aG⟩;unfold fB;rw[EO]
  grind
 refine⟨λm x w1=>∃k:Nat,x=hZ (k:Int)/\m=xs.length-k/\k<=xs.length/\(∀y∈xs.take k,lr y=false)/\St w aZ [] w1,⟨_,0,rfl,rfl,l6 _,ee,u⟩,?_⟩;rintro m _ _ ⟨k,rfl,rfl,hk,J,u⟩ _;refine aK gY (E.ext u.aG) (aR (aC (λlS=>?_) λlS=>?_))
 .obtain⟨V,B⟩:=gx xs (i:=(k:Int).toNat) bO;refine aQ gY (E.ext u.aG) bO B (λ_ qG=>aD si qG (aM u yk λPb _ u=>aJ (x:=V) u si rfl rfl λ_ u=>⟨λO w'=>O=.bool (lr V)/\St w aZ [] w',aA sj (aB bL u.hb rfl (aR (aC (λ_=>⟨vb (by unfold lr;grind),u.drop⟩) λlx=>aA sj (aB bL u.hb rfl (cN (aC (λ_=>⟨vb (by unfold lr;grind),u.drop⟩) λmi=>?_)))))),?_⟩))
  .refine aA fa (aB bL u.hb rfl (bX (aC (λZ=>aA jq (aB bL u.hb rfl (bX (aC (λ_=>⟨vb (by unfold lr;grind),u.drop⟩) λxj=>aA fa (aB bL u.hb rfl (bX (aC (λxg=>aA gm (aB gA u.hb rfl (ma (aC (λ_=>⟨vb (by unfold lr;grind),u.drop⟩) λLK=>?_)))) λxg=>?_))))))) λZ=>?_)))
   .refine aA jq (aB bL u.hb rfl (aR ?_));exact aC (λ_=>⟨vb (by unfold lr;grind),u.drop⟩) (λ_=>aA jq (aB bL u.hb rfl (cN (aC (λ_=>⟨vb (by unfold lr;grind),u.drop⟩) λ_=>aA fa (aB bL u.hb rfl (aH (aC (λ_=>aA gm (aB gA u.hb rfl (aV uE u (C211 _ _ (G _ (la B))) λ_ _ u=>bR ⟨vb (by unfold lr;grind),u.drop⟩))) λ_=>⟨vb (by unfold lr;grind),u.drop⟩)))))))
   .refine aA jq (aB bL u.hb rfl (aR ?_));exact aC (λ_=>⟨vb (by unfold lr;grind),u.drop⟩) (λ_=>aA jq (aB bL u.hb rfl (cN (aC (λ_=>⟨vb (by unfold lr;grind),u.drop⟩) λ_=>aA fa (aB bL u.hb rfl (aH (aC (λ_=>aA gm (aB gA u.hb rfl (aV uE u (C211 _ _ (G _ (la B))) λ_ _ u=>bR ⟨vb (by unfold lr;grind),u.drop⟩))) λ_=>⟨vb (by unfold lr;grind),u.drop⟩)))))))
   refine aA fa (aB bL u.hb rfl (bX (aC (λM=>aA gm (aB gA u.hb rfl (ma (aC (λ_=>⟨vb (by unfold lr;grind),u.drop⟩) λas0=>?_)))) λM=>?_)))
   .refine aA jq (aB bL u.hb rfl (aR ?_));exact aC (λ_=>⟨vb (by unfold lr;grind),u.drop⟩) (λ_=>aA jq (aB bL u.hb rfl (cN (aC (λ_=>⟨vb (by unfold lr;grind),u.drop⟩) λ_=>aA fa (aB bL u.hb rfl (aH (aC (λ_=>aA gm (aB gA u.hb rfl (aV uE u (C211 _ _ (G _ (la B))) λ_ _ u=>bR ⟨vb (by unfold lr;grind),u.drop⟩))) λ_=>⟨vb (by unfold lr;grind),u.drop⟩)))))))
   refine aA jq (aB bL u.hb rfl (aR ?_));exact aC (λ_=>⟨vb (by unfold lr;grind),u.drop⟩) (λ_=>aA jq (aB bL u.hb rfl (cN (aC (λ_=>⟨vb (by unfold lr;grind),u.drop⟩) λ_=>aA fa (aB bL u.hb rfl (aH (aC (λ_=>aA gm (aB gA u.hb rfl (aV uE u (C211 _ _ (G _ (la B))) λ_ _ u=>bR ⟨vb (by unfold lr;grind),u.drop⟩))) λ_=>⟨vb (by unfold lr;grind),u.drop⟩)))))))
  rintro _ _ ⟨rfl,u⟩ _;refine aY (λI=>?_) (λI=>aO bO ⟨_,bO,k+1,rfl,rfl,bO,dY J B I,u⟩);refine⟨vb ?_,u.aG⟩;unfold fB;rw[ig B I];simp
 have Xk:qC xs 0=xs.length:=cL
 have U:xs.length<=40:=cL
 obtain⟨t,ht⟩:=BO.of (xs:=xs) (i:=0) bO;have hz:=ht.zero Xk;refine aV Wi u (C252 _ _ _ t (t.size+1) _ (E.ext u.aG) W ht bO) (λ_ he u=>gZ ?_);rw[ld bO]at J;refine⟨vb ?_,u.aG⟩;unfold fB R6;rw[iE J,hz.2];simp[U]
theorem C272(lv nv:Value)(xs:List cA)(ns:List ByteArray)(i:Int)(t:Ex)(N:Nat)(w:World)(E:dA (λ_=>True) w lv xs)(hN:dA (λ_=>True) w nv ns)(hn:xs.length<=1048576)(BN:ns.length<=1048576)(G:BO xs i t)(hNt:t.size<N):CR 272 [lv,hZ i,nv] w (λv w'=>kV (bH v (t.steps ns)) w w'):=by
 obtain⟨B,hq,I⟩:∃e,e=t.root/\xs[(i).toNat]?=some e:=⟨_,rfl,G.root.1⟩;have hri:=G.root.2;have hie:=G.end;have O9:=Ex.pa G.2.1;rw[<- hq]at O9;have Xh:=uf B.op;have hi0:=G.1;have u:=St.start w;refine eZ Tryz.func272 ?_;refine bD ([]:List oC) u tK rfl rfl (dL rfl) (λM w1 u=>aO bO ?_);refine⟨λm W a x w1=>∃k:Nat,a=hZ (i+1+qD t.eD k)/\x=hZ (k:Int)/\m=t.eD.length-k/\k<=t.eD.length/\St w aZ [bH W (Xi ns t.eD k)] w1,⟨_,0,gQ (n3 .i64) (by simp[qD]),rfl,rfl,bO,u⟩,?_⟩;rintro m W _ _ _ ⟨k,rfl,rfl,rfl,hk,u⟩ _
 refine aQ gY (E.ext u.aG) bO I (λ_ LG=>bV B.op fa LG rfl rfl λ_ uR=>aD bL uR (aV KR u (C273 _ _) λ_ he u=>aR (aC (λkW=>?_) λkW=>?_)))
 .obtain⟨a,J⟩:=gx t.eD (i:=k) bO;have hka:=Ex.ug G.2.1 (la J);have T4:=G.kid J;have VE:=T4.end;have T5:=a.rI;have Z:=DG (ns:=ns) (ks:=t.eD) (k:=k);have T6:=Ex.pP ns a;refine dU afR u (C272 _ _ _ _ _ _ (N-1) _ (E.ext u.aG) (hN.ext u.aG) hn BN T4 bO) (λx28 _ cJ u=>?_);have Pd:=u.dS;exact bJ u.p1 tK Pd bO dD (λ_ _ u=>have u:=u.p1.drop;aV KP u (C251 _ _ _ (xs.length+1) _ (E.ext u.aG) bO bO bO) λ_ _ u=>aO bO ⟨_,bO,k+1,gQ (n3 .i64) (by rw[VE.1,uS J];omega),rfl,rfl,bO,by rw[LJ J];exact u⟩)
 have Z:=DG (ns:=ns) (ks:=t.eD) (k:=k);refine aQ gY (E.ext u.aG) bO I (λ_ LL=>bV B.n jq LL rfl rfl λ_ A1=>aD bL A1 ⟨λjv w'=>jv=hZ (Ex.numOf ns B)/\St w aZ [bH W (Xi ns t.eD k)] w',aQ gY (E.ext u.aG) bO I (λ_ Xl=>bV B.op fa Xl rfl rfl λ_ O=>aD bL O (aH (aC (λ_=>aQ gY (E.ext u.aG) bO I λ_ A3=>bV B.name gm A3 rfl rfl λ_ LM=>aD gA LM (aV r7 u (C123 _ ns _ _ (hN.ext u.aG) bO) λ_ _ u=>⟨gQ (n3 .i64) (by grind[Ex.numOf]),u⟩)) λ_=>⟨gQ (n3 .i64) (by grind[Ex.numOf]),u⟩))),?_⟩)
 rintro _ _ ⟨rfl,u⟩ _;refine aQ gY (E.ext u.aG) bO I (λ_ Xm=>bV B.op fa Xm rfl rfl λ_ AW=>aD bL AW (pop (Ew _ _) (bD ([(⟨B.op,(Ex.numOf ns B)⟩:oC)]) u tK rfl rfl (dL rfl) λV _ u=>?_)));have U:=u.dS;refine bJ u.p1 tK U (by rw[Z,mv];have:(t.steps ns).length=t.size:=Ex.pP ns t;rw[Ex.vz,l1,mv,<- show k=t.eD.length from bO]at this;omega) dD (λY _ u=>?_);have u:=u.p1.drop;rw[Ex.vz,<- show k=t.eD.length from bO,<- hq];exact u.fresh
termination_by N
decreasing_by omega
def C220(lv V:Value)(xs:List cA)(ns:List ByteArray)(w:World)(B:dA (λ_=>True) w lv xs)(Y:dA (λ_=>True) w V ns)(W:xs.length<=1048576)(BN:ns.length<=1048576)(R7:∀x∈xs,x.name.size<=1048576):CR 220 [lv,V] w (λv w'=>∃s,v=.tuple #[s,hZ (kZ ns xs)]/\kV (bH s (qE ns xs)) w w'):=by
 have u:=St.start w;refine ab8 _ _ _ _ ?_;unfold S220;refine aV KO u (C200 _ _ _ (B.ext u.aG) W R7) (λw1 he u=>bR (aY (λE=>?_) λE=>?_))
 .have h8:kZ ns xs=8:=by unfold kZ;rw[ej (by simpa using E)]
  refine⟨_,by rw[h8],?_⟩;unfold qE;rw[h8,ei dD];exact(u.eM (α:=oC)).fresh
 refine⟨λm x w1=>∃k:Nat,x=hZ (k:Int)/\m=xs.length-k/\k<=xs.length/\(∀y∈xs.take k,(decide (y.op=2)&&decide (cU ns y.name<0))=false)/\St w aZ [] w1,⟨_,0,rfl,rfl,l6 _,ee,u⟩,?_⟩;rintro m _ _ ⟨k,rfl,rfl,hk,O,u⟩ _;refine aK gY (B.ext u.aG) (aR (aC (λxi=>?_) λxi=>?_))
 .obtain⟨G,I⟩:=gx xs (i:=(k:Int).toNat) bO;refine⟨λjv w'=>jv=.bool (decide (G.op=2)&&decide (cU ns G.name<0))/\St w aZ [] w',aQ gY (B.ext u.aG) bO I (λ_ uR=>bV G.op fa uR rfl rfl λ_ lT=>aD bL lT (aH (aC (λ_=>aQ gY (B.ext u.aG) bO I λ_ xk=>bV G.name gm xk rfl rfl λ_ uT=>aD gA uT (aV r7 u (C123 _ ns _ _ (Y.ext u.aG) bO) λ_ _ u=>aR ⟨vb cL,u⟩)) λ_=>⟨vb cL,u⟩))),?_⟩;rintro _ _ ⟨rfl,u⟩ _;refine aY (λU=>?_) (λU=>aO bO ⟨_,bO,k+1,rfl,rfl,bO,dY O I U,u⟩)
  have h9:kZ ns xs=9:=by unfold kZ;rw[ei (by simpa using E),ej (ig I U)]
  refine⟨_,by rw[h9],?_⟩;unfold qE;rw[h9,ei dD];exact(u.eM (α:=oC)).fresh
 have J:fB xs=true:=by simpa using E
 have Xk:=zK J;obtain⟨t,ht⟩:=BO.of (xs:=xs) (i:=0) bO;have hz:=ht.zero Xk;refine dU afR u (C272 _ _ _ _ _ t (t.size+1) _ (B.ext u.aG) (Y.ext u.aG) W BN ht bO) (λM _ cJ u=>?_);rw[ld bO]at O;have Z:kZ ns xs=0:=by unfold kZ;rw[ei (by simpa using E),ei (by rw[iE O];simp)]
 refine⟨M,by rw[Z],?_⟩;unfold qE B8;rw[ej Z,hz.2];exact u.fresh
end Go.Proofs.YtpdlpabnlkofmaaGreatDoor

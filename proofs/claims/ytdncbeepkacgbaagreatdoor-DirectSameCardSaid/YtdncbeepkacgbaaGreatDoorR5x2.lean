/-
  Part 2.
-/
import Derived.Test.YtdncbeepkacgbaaGreatDoorR5x1
set_option maxHeartbeats 8000000
set_option linter.all false
set_option maxRecDepth 100000
open Go.Fw.Flat renaming val->jj,enc->jl,sz->og,len->wU,agg->Ix,one->UR,pos->X1,ot->acD
open List renaming getElem?_eq_some_iff->j0,length_append->lJ,getElem?_eq_getElem->l0,mem_of_getElem?->ml,length_singleton->mv,take_of_length_le->mH,length_take->n0,append_assoc->o1,replicate->o6,length_cons->qb,append_nil->rM,take_append_drop->sf,length_set->sy,mem_singleton->sU,getElem?_append_left->s7,length_drop->tx,drop_drop->uL,map_append->vB,length_eq_zero_iff->vI,drop_eq_getElem_cons->vP,drop_eq_nil_of_le->xr,getElem?_cons_succ->yv,take_add_one->yC,getElem?_drop->Fl,foldl_append->Hc,eraseIdx_eq_take_drop_succ->H3,drop_left->Jj,map_map->JZ,getElem_cons_drop->Na,toArray->P0,take_left->Tw,length_flatten->WL,cons->aaL
open Go.Instr renaming build->mZ,sliceAt->pA,index->uG,sliceBounds->u1,loadAt->vK,box->zG,storeAt->Ku,indexAt->K0,buildSlice->L2,slice->QB
open Option renaming bind_some->nY,some->o5,bind_eq_some_iff->Py
open Bool renaming and_eq_true->n3,false_eq_true->Pp
open Go.Value renaming int->n5,bool->vO,slice->yR,string->Ic,okWide->PV,tuple->aby
open Nat renaming zero_le->ob,le_refl->qQ,zero_add->uf,le_trans->xL,min_eq_left->Hx,add_zero->MI,add_assoc->NI
open Decidable renaming not_not->DY
open Go.World renaming cell?->Qx,cells?_some->Yz
open Int renaming toNat->acB
namespace Go.Fw
section
variable {P:Program}{w w0:World}{A S:Nat->Prop}{L:List HP}
theorem bN{T:TypeId}{b o:Nat}{v:Value}{K:Value->Prop}(ht:aaK P T)(hb:Cell w b o v)(k:K v) :
  GK P (vK T (.pointer (some ⟨b,o,none⟩))) w K:=⟨v,aF ht hb,k⟩
theorem cP{α:Type}[Flat α]{T:TypeId}{x:α}{K:Value->iD}(B:St w0 A L w)
  (k:∀b w',St w0 A (bU b (jl x)::L) w'->K (.pointer (some ⟨b,0,none⟩)) w'):se P (zG T (jj x)) w K:=by
 refine⟨_,_,MG T _,k _ _ ?_⟩
 rw[qI]
 exact B.push
theorem VI{T:Nat}{cx cy:Bool}{a b:Int}{K:Value->Prop}(B:0<=a)(hb:0<b)(k:K (iE (a % b))):eK P (ku .rem T cx cy (iE a) (iE b)) K:=by
 refine⟨_,?_,k⟩
 show pr P (Op.intDiv .rem .i64 a b)=_
 unfold Op.intDiv
 rw[ew cU]
 show some (n5 .i64 (a.tmod b))=_
 grind
def xH(a b:Int):Int:=((BitVec.ofInt 64 a &&& BitVec.ofInt 64 b).toNat:Int)
theorem BM(a:Int){b:Int}(B:0<=b)(h1:b<=9223372036854775807):0<=xH a b/\xH a b<=b:=by
 unfold xH
 refine⟨cU,?_⟩
 have h2:(BitVec.ofInt 64 a &&& BitVec.ofInt 64 b).toNat<=(BitVec.ofInt 64 b).toNat:=by
  rw[BitVec.toNat_and];exact Nat.and_le_right
 have h3:((BitVec.ofInt 64 b).toNat:Int)=b:=by
  rw[BitVec.toNat_ofInt]
  omega
 omega
theorem VJ{T:Nat}{cx cy:Bool}{a b:Int}{K:Value->Prop}(B:0<=b)(h1:b<=9223372036854775807)(k:K (iE (xH a b))):eK P (ku .and T cx cy (iE a) (iE b)) K:=by
 refine⟨_,?_,k⟩
 show some (n5 .i64 (IntKind.i64.wrap ((BitVec.ofInt 64 a &&& BitVec.ofInt 64 b).toNat:Int)))=_
 have:=BM a B h1
 unfold xH at this |-
 rw[IntWalk.i64_in _ cU]
theorem Kg{T:Nat}{a b:Bool}(h:P.underlying T=some .bool):pr P (Op.equal T (.bool a) (.bool b))=some (a == b):=by
 show pr P (Op.equalIn 10000 T (.bool a) (.bool b))=_
 unfold Op.equalIn
 rw[cH,cJ h]
 rfl
theorem aaQ{T:Nat}{cx cy:Bool}{a b:Bool}{K:Value->Prop}(h:P.underlying T=some .bool)(k:K (.bool (a != b))):eK P (ku .neq T cx cy (.bool a) (.bool b)) K:=by
 refine⟨_,?_,k⟩
 show pr P (do pure (vO (!(<- Op.equal T (.bool a) (.bool b)))))=_
 rw[xG _ (λb=>vO (!b)),Kg h];rfl
theorem MK{T e:Nat}{p:Option Addr}(h:P.underlying T=some (.pointer e)):pr P (Op.equal T (.pointer p) (.pointer none))=some p.isNone:=by
 show pr P (Op.equalIn 10000 T (.pointer p) (.pointer none))=_
 unfold Op.equalIn
 rw[cH,cJ h]
 cases p<;>rfl
theorem CA{T e:Nat}{cx cy:Bool}{p:Option Addr}{K:Value->Prop}(h:P.underlying T=some (.pointer e))(k:K (.bool p.isNone)):eK P (ku .eql T cx cy (.pointer p) (.pointer none)) K:=by
 refine⟨_,?_,k⟩
 show pr P (do pure (vO (<- Op.equal T (.pointer p) (.pointer none))))=_
 rw[xG,MK h];rfl
theorem Kh{T e:Nat}{a:Option Addr}{n c:Nat}(h:P.underlying T=some (.slice e))(B:a=none->n=0/\c=0):pr P (Op.equal T (.slice a n c) (.slice none 0 0))=some a.isNone:=by
 show pr P (Op.equalIn 10000 T (.slice a n c) (.slice none 0 0))=_
 unfold Op.equalIn
 rw[cH,cJ h]
 cases a<;>rfl
theorem aaR{T e:Nat}{cx cy:Bool}{a:Option Addr}{n c:Nat}{K:Value->Prop}(h:P.underlying T=some (.slice e))(B:a=none->n=0/\c=0)(k:K (.bool a.isNone)):eK P (ku .eql T cx cy (.slice a n c) (.slice none 0 0)) K:=by
 refine⟨_,?_,k⟩
 show pr P (do pure (vO (<- Op.equal T (.slice a n c) (.slice none 0 0))))=_
 rw[xG,Kh h B];rfl
def oT:TypeDesc->Option Nat
 | .int .i64=>some 0
 | .bool=>some 1
 | .string=>some 2
 | _=>none
def pb:Value->Option Nat
 | .int .i64 _=>some 0
 | .bool _=>some 1
 | .string _=>some 2
 | _=>none
def eqV:Value->Value->Bool
 | .int _ a,.int _ b=>decide (a=b)
 | .bool a,.bool b=>a == b
 | .string a,.string b=>a == b
 | _,_=>false
def tB:List Value->List Value->Bool
 | a::x,b::y=>eqV a b&&tB x y
 | _,_=>true
def pe(P:Program):Nat->List Field->Option (List Nat)
 | _,[]=>some []
 | k,f::fs=>
  if f.name ≠ "_" /\ f.offset=k then
   match P.underlying f.type with
   | some d=>match oT d,pe P (k+1) fs with
    | some n,some r=>some (n::r)
    | _,_=>none
   | none=>none
  else none
def xI(P:Program)(T:TypeId):Option (List Nat):=
 match P.underlying T with
 | some (.struct B)=>if P.stoodInHeld T=false/\P.eqGuardType P.depth T=false then pe P 0 B.toList else none
 | _=>none
def S0(d:Nat)(xs ys:Array Value):List Field->Sem Bool
 | []=>pure true
 | f::r => if f.name ≠ "_" then do
   let same <- Op.equalIn d f.type (<- part f.type xs f.offset) (<- part f.type ys f.offset)
   if (!same)=true then pure false else S0 d xs ys r
  else S0 d xs ys r
theorem Gr{T:TypeId}{d:TypeDesc}{n:Nat}(h:P.underlying T=some d)(B:oT d=some n):pr P (isAgg T)=some false:=by
 unfold isAgg
 rw[cH,cJ h]
 cases d<;>simp[oT]at B<;>rfl
theorem ML{T:TypeId}{d:TypeDesc}{n o:Nat}{cs:Array Value}{v:Value}(h:P.underlying T=some d)(B:oT d=some n)(E:cs[o]?=some v):pr P (part T cs o)=some v:=by
 unfold part
 rw[cH,Gr h B]
 simp only[nY,Pp,if_false,E]
 rfl
theorem FL{k:Nat}{T:TypeId}{d:TypeDesc}{n:Nat}{a b:Value}(h:P.underlying T=some d)(E:oT d=some n)(B:pb a=some n)(hb:pb b=some n) :
  pr P (Op.equalIn (k+1) T a b)=some (eqV a b):=by
 unfold Op.equalIn
 rw[cH,cJ h]
 simp only[nY]
 cases d<;>simp only[oT]at E<;>try(cases E;done)
 case int kd=>
  cases kd<;>simp at E
  subst E
  cases a<;>simp only[pb]at B<;>try(cases B;done)
  rename_i ka na
  cases b<;>simp only[pb]at hb<;>try(cases hb;done)
  rename_i kb nb
  cases ka<;>simp at B
  cases kb<;>simp at hb
  rfl
 case bool=>
  cases E
  cases a<;>simp only[pb]at B<;>first|(rename_i ka na;cases ka<;>simp at B)|skip
  all_goals try(simp at B;done)
  cases b<;>simp only[pb]at hb<;>first|(rename_i kb nb;cases kb<;>simp at hb)|skip
  all_goals try(simp at hb;done)
  rfl
 case string=>
  cases E
  cases a<;>simp only[pb]at B<;>first|(rename_i ka na;cases ka<;>simp at B)|skip
  all_goals try(simp at B;done)
  cases b<;>simp only[pb]at hb<;>first|(rename_i kb nb;cases kb<;>simp at hb)|skip
  all_goals try(simp at hb;done)
  rfl
theorem Pd{k:Nat}{xs ys:List Value}:∀(B:List Field) (i:Nat) (ks:List Nat),pe P i B=some ks->(∀j n,ks[j]?=some n->∃a b,xs[i+j]?=some a/\ys[i+j]?=some b/\pb a=some n/\pb b=some n)->
  pr P (S0 (k+1) xs.toArray ys.toArray B)=some (tB ((xs.drop i).take ks.length) ((ys.drop i).take ks.length)):=by
 intro B
 induction B with
 | nil=>intro i ks h _;simp only[pe,o5.injEq]at h;subst h;simp[S0,tB];rfl
 | cons f B V=>
  intro i ks h J
  unfold pe at h
  split at h
  .rename_i hf
   cases hu:P.underlying f.type with
   | none=>grind
   | some d=>
    rw[hu]at h
    dsimp only at h
    cases hd:oT d with
    | none=>grind
    | some n=>
     rw[hd]at h
     cases hr:pe P (i+1) B with
     | none=>grind
     | some r=>
      rw[hr]at h
      simp only[o5.injEq]at h
      subst h
      obtain⟨a,b,E,hb,M,O⟩:=J 0 n rfl
      rw[MI]at E hb
      have I:xs.drop i=a::xs.drop (i+1):=by
       rw[<- Na (j0.1 E).1,(j0.1 E).2]
      have G:ys.drop i=b::ys.drop (i+1):=by
       rw[<- Na (j0.1 hb).1,(j0.1 hb).2]
      have U:=V (i+1) r hr λj m Z=>by
       obtain⟨W,Y,h1,h2,h3,h4⟩:=J (j+1) m dH
       grind
      unfold S0
      rw[ez hf.1,cH,ML hu hd (v:=a) dH]
      simp only[nY]
      rw[cH,ML hu hd (v:=b) dH]
      simp only[nY]
      rw[cH,FL hu hd M O]
      simp only[nY,qb,I,G,List.take_succ_cons,tB]
      cases he:eqV a b with
      | false=>rfl
      | true=>grind
  .cases h
theorem CB{d:Nat}{t:TypeId}{B:Array Field}{xs ys:Array Value}(ht:P.underlying t=some (.struct B))(G:P.stoodInHeld t=false) :
  pr P (Op.equalIn (d+1) t (.agg xs) (.agg ys))=pr P (S0 d xs ys B.toList):=by
 unfold Op.equalIn
 rw[cH,cJ ht]
 simp only[nY,cH]
 rw[show pr P program=some P from rfl]
 simp only[nY,G,Pp,if_false]
 rw[<- Array.forIn_toList]
 generalize B.toList=l
 clear ht
 induction l with
 | nil=>rfl
 | cons f l E=>
  rw[cH]at E
  simp only[List.forIn_cons,S0,cH]
  split
  .simp only[cH]
   cases pr P (part f.type xs f.offset)with
   | none=>rfl
   | some a=>
    simp only[nY]
    cases pr P (part f.type ys f.offset)with
    | none=>rfl
    | some b=>
     simp only[nY]
     cases pr P (Op.equalIn d f.type a b)with
     | none=>rfl
     | some r=>
      cases r
      .rfl
      .simp only[nY,Bool.not_true,Pp,if_false,fq]
       exact E
  .simp only[fq,nY]
   exact E
theorem CC{T:TypeId}{ks:List Nat}{xs ys:List Value}(h:xI P T=some ks)(E:xs.map pb=ks.map some)(B:ys.map pb=ks.map some) :
  pr P (Op.equal T (.agg xs.toArray) (.agg ys.toArray))=some (tB xs ys)/\P.eqGuardType P.depth T=false:=by
 unfold xI at h
 split at h
 .rename_i fs hfs
  split at h
  .rename_i hc
   refine⟨?_,hc.2⟩
   show pr P (Op.equalIn 10000 T _ _)=_
   rw[CB hfs hc.1]
   have I:xs.length=ks.length:=by have:=gD List.length E;grind
   have G:ys.length=ks.length:=by have:=gD List.length B;grind
   rw[Pd (xs:=xs) (ys:=ys) fs.toList 0 ks h λj n J=>?_]
   .grind
   have M:j<ks.length:=(j0.1 J).1
   refine⟨xs[j]'(cU),ys[j]'(cU),et,et,?_,?_⟩
   .have:=gD (λl=>l[j]?) E
    grind
   have:=gD (λl=>l[j]?) B
   grind
  cases h
 cases h
theorem Yd{T:Nat}{cx cy:Bool}{ks:List Nat}{xs ys:List Value}{K:Value->Prop}(h:xI P T=some ks)(E:xs.map pb=ks.map some)(B:ys.map pb=ks.map some)(k:K (.bool (tB xs ys))) :
  eK P (ku .eql T cx cy (.agg xs.toArray) (.agg ys.toArray)) K:=by
 obtain⟨h1,h2⟩:=CC h E B
 refine⟨_,?_,k⟩
 show pr P (if P.eqGuardType P.depth T=true then stuck "an interface in a part" else(do pure (vO (<- Op.equal T (.agg xs.toArray) (.agg ys.toArray))) : Sem Value))=_
 rw[h2,ew et,xG,h1];rfl
theorem Ye{T:Nat}{cx cy:Bool}{ks:List Nat}{xs ys:List Value}{K:Value->Prop}(h:xI P T=some ks)(E:xs.map pb=ks.map some)(B:ys.map pb=ks.map some)(k:K (.bool (!tB xs ys))) :
  eK P (ku .neq T cx cy (.agg xs.toArray) (.agg ys.toArray)) K:=by
 obtain⟨h1,h2⟩:=CC h E B
 refine⟨_,?_,k⟩
 show pr P (if P.eqGuardType P.depth T=true then stuck "an interface in a part" else(do pure (vO (!(<- Op.equal T (.agg xs.toArray) (.agg ys.toArray)))) : Sem Value))=_
 rw[h2,ew et,xG _ (λb=>vO (!b)),h1];rfl
theorem nS{T:Nat}{cx cy:Bool}{ks:List Nat}{xs ys:List Value}{K:Value->Prop}{p:Prop}[Decidable p](h:xI P T=some ks)(E:xs.map pb=ks.map some)(B:ys.map pb=ks.map some)
  (G:tB xs ys=decide p) (k:K (.bool (decide p))):eK P (ku .eql T cx cy (.agg xs.toArray) (.agg ys.toArray)) K:=Yd h E B (G▸k)
theorem KV{T:Nat}{cx cy:Bool}{ks:List Nat}{xs ys:List Value}{K:Value->Prop}{p:Prop}[Decidable p](h:xI P T=some ks)(E:xs.map pb=ks.map some)(B:ys.map pb=ks.map some)
  (G:tB xs ys=decide p) (k:K (.bool (decide (¬ p)))):eK P (ku .neq T cx cy (.agg xs.toArray) (.agg ys.toArray)) K:=Ye h E B dH
end
end Go.Fw
namespace Go.Proofs.YtdncbeepkacgbaaGreatDoor
open Go.Fw
def bL:cM hZ 3=some (false,1):=by kernel_rfl
def qA:dW hZ 3=some (some (iE 0)):=by kernel_rfl
def qJ:Tryz.prog.underlying 3=some (.int .i64):=by kernel_rfl
def HE:cM hZ 4=some (false,1):=by kernel_rfl
def VK:dW hZ 4=some (some (.bool false)):=by kernel_rfl
def aAd:Tryz.prog.underlying 4=some (.bool):=by kernel_rfl
def ty5:cM hZ 5=some (false,1):=by kernel_rfl
def A6:Tryz.prog.underlying 5=some (.int .u8):=by kernel_rfl
def ke:cM hZ 9=some (false,1):=by kernel_rfl
def ajU:dW hZ 9=some (some (.string ⟨#[]⟩)):=by kernel_rfl
def gL:Tryz.prog.underlying 9=some (.string):=by kernel_rfl
def eD:cM hZ 22=some (false,1):=by kernel_rfl
def dZ:eQ hZ 22=some (3,1,8,some 1):=by kernel_rfl
def ams:dW hZ 22=some (some (.slice none 0 0)):=by kernel_rfl
def zh:cM hZ 31=some (false,1):=by kernel_rfl
def BN:eQ hZ 31=some (32,1,24,some 1):=by kernel_rfl
def l4:cM hZ 32=some (false,1):=by kernel_rfl
def qq:eQ hZ 32=some (175,3,32,some 3):=by kernel_rfl
def kf:cM hZ 33=some (false,1):=by kernel_rfl
def kM:eQ hZ 33=some (114,4,72,some 4):=by kernel_rfl
def zi:cM hZ 34=some (false,1):=by kernel_rfl
def A7:eQ hZ 34=some (95,2,32,some 2):=by kernel_rfl
def gO:cM hZ 36=some (true,6):=by kernel_rfl
def nT:aQ hZ 36 0=some (0,some true):=by kernel_rfl
def AD:aQ hZ 36 1=some (1,some true):=by kernel_rfl
def uV:aQ hZ 36 2=some (2,some true):=by kernel_rfl
def sO:aQ hZ 36 3=some (3,some true):=by kernel_rfl
def uW:aQ hZ 36 4=some (4,some true):=by kernel_rfl
def oM:aQ hZ 36 5=some (5,some true):=by kernel_rfl
def xJ:dW hZ 36=some (some (.agg [.slice none 0 0,.slice none 0 0,.slice none 0 0,.slice none 0 0,.slice none 0 0,.slice none 0 0].toArray)):=by kernel_rfl
def amt:eQ hZ 37=some (69,6,64,some 6):=by kernel_rfl
def aaS:Tryz.prog.underlying 39=some (.pointer 105):=by kernel_rfl
def kh:cM hZ 40=some (false,1):=by kernel_rfl
def amu:dW hZ 40=some (some (iE 0)):=by kernel_rfl
def Ki:cM hZ 43=some (false,1):=by kernel_rfl
def ED:eQ hZ 43=some (46,3,40,some 3):=by kernel_rfl
def pD:cM hZ 44=some (false,1):=by kernel_rfl
def pE:eQ hZ 44=some (139,6,80,some 6):=by kernel_rfl
def si:cM hZ 46=some (true,3):=by kernel_rfl
def AE:aQ hZ 46 0=some (0,some true):=by kernel_rfl
def GV:aQ hZ 46 1=some (1,some true):=by kernel_rfl
def nU:aQ hZ 46 2=some (2,some true):=by kernel_rfl
def MM:dW hZ 46=some (some (.agg [iE 0,iE 0,.slice none 0 0].toArray)):=by kernel_rfl
def Yf:cM hZ 47=some (false,1):=by kernel_rfl
def Kj:eQ hZ 47=some (116,1,24,some 1):=by kernel_rfl
def zj:cM hZ 49=some (true,9):=by kernel_rfl
def nV:aQ hZ 49 0=some (0,some true):=by kernel_rfl
def qX:aQ hZ 49 1=some (1,some true):=by kernel_rfl
def CD:aQ hZ 49 2=some (2,some true):=by kernel_rfl
def GW:aQ hZ 49 3=some (3,some true):=by kernel_rfl
def uX:aQ hZ 49 4=some (4,some true):=by kernel_rfl
def CE:aQ hZ 49 5=some (5,some true):=by kernel_rfl
def AF:aQ hZ 49 6=some (8,some true):=by kernel_rfl
def BO:dW hZ 49=some (some (.agg [.slice none 0 0,iE 0,.slice none 0 0,iE 0,.slice none 0 0,iE 0,iE 0,.slice none 0 0,.slice none 0 0].toArray)):=by kernel_rfl
def asb:Tryz.prog.underlying 52=some (.pointer 126):=by kernel_rfl
def EE:cM hZ 56=some (true,5):=by kernel_rfl
def VL:aQ hZ 56 0=some (0,some true):=by kernel_rfl
def AG:aQ hZ 56 3=some (3,some true):=by kernel_rfl
def AH:aQ hZ 56 4=some (4,some true):=by kernel_rfl
def EF:dW hZ 56=some (some (.agg [iE 0,iE 0,iE 0,.bool false,.bool false].toArray)):=by kernel_rfl
def nd:eQ hZ 58=some (67,4,48,some 4):=by kernel_rfl
def CF:eQ hZ 64=some (4,1,1,some 1):=by kernel_rfl
def oc:cM hZ 67=some (true,4):=by kernel_rfl
def mS:aQ hZ 67 0=some (0,some true):=by kernel_rfl
def im:aQ hZ 67 1=some (1,some true):=by kernel_rfl
def qY:aQ hZ 67 2=some (2,some true):=by kernel_rfl
def pK:aQ hZ 67 3=some (3,some true):=by kernel_rfl
def EG:dW hZ 67=some (some (.agg [iE 0,iE 0,iE 0,.slice none 0 0].toArray)):=by kernel_rfl
def amv:cM hZ 69=some (true,6):=by kernel_rfl
def MN:aQ hZ 69 0=some (0,some true):=by kernel_rfl
def agI:aQ hZ 69 1=some (1,some true):=by kernel_rfl
def MO:aQ hZ 69 2=some (2,some true):=by kernel_rfl
def ey:cM hZ 72=some (true,5):=by kernel_rfl
def VM:aQ hZ 72 1=some (1,some true):=by kernel_rfl
def jQ:dW hZ 72=some (some (.agg [iE 0,iE 0,iE 0,iE 0,iE 0].toArray)):=by kernel_rfl
def nf:cM hZ 86=some (false,1):=by kernel_rfl
def kN:eQ hZ 86=some (9,1,16,some 1):=by kernel_rfl
def amw:dW hZ 86=some (some (.slice none 0 0)):=by kernel_rfl
def l5:cM hZ 92=some (false,1):=by kernel_rfl
def me:eQ hZ 92=some (183,4,40,some 4):=by kernel_rfl
def HF:cM hZ 95=some (true,2):=by kernel_rfl
def CG:aQ hZ 95 0=some (0,some true):=by kernel_rfl
def VN:aQ hZ 95 1=some (1,some true):=by kernel_rfl
def MP:dW hZ 95=some (some (.agg [.slice none 0 0,iE 0].toArray)):=by kernel_rfl
def sj:cM hZ 98=some (false,1):=by kernel_rfl
def mT:cM hZ 102=some (false,1):=by kernel_rfl
def tC:cM hZ 103=some (false,1):=by kernel_rfl
def uY:eQ hZ 103=some (128,1,8,some 1):=by kernel_rfl
def ajV:cM hZ 105=some (true,15):=by kernel_rfl
def CH:aQ hZ 105 0=some (0,some true):=by kernel_rfl
def HG:aQ hZ 105 1=some (6,some true):=by kernel_rfl
def HH:aQ hZ 105 2=some (7,some true):=by kernel_rfl
def aaT:aQ hZ 105 3=some (8,some true):=by kernel_rfl
def my:aQ hZ 105 4=some (9,some true):=by kernel_rfl
def pL:aQ hZ 105 5=some (10,some true):=by kernel_rfl
def lF:aQ hZ 105 6=some (11,some true):=by kernel_rfl
def HI:aQ hZ 105 7=some (12,some true):=by kernel_rfl
def tD:aQ hZ 105 8=some (13,some true):=by kernel_rfl
def Pe:aQ hZ 105 9=some (14,some true):=by kernel_rfl
def agJ:dW hZ 105=some (some (.agg [.slice none 0 0,.slice none 0 0,.slice none 0 0,.slice none 0 0,.slice none 0 0,.slice none 0 0,.slice none 0 0,.slice none 0 0,iE 0,.pointer none,.slice none 0 0,.slice none 0 0,iE 0,iE 0,iE 0].toArray)):=by kernel_rfl
def ou:cM hZ 112=some (false,1):=by kernel_rfl
def gX:eQ hZ 112=some (220,9,120,some 9):=by kernel_rfl
def lG:cM hZ 114=some (true,4):=by kernel_rfl
def zn:aQ hZ 114 0=some (0,some true):=by kernel_rfl
def kP:aQ hZ 114 1=some (1,some true):=by kernel_rfl
def tG:aQ hZ 114 2=some (2,some true):=by kernel_rfl
def CI:aQ hZ 114 3=some (3,some true):=by kernel_rfl
def qZ:dW hZ 114=some (some (.agg [.string ⟨#[]⟩,.slice none 0 0,.slice none 0 0,iE 0].toArray)):=by kernel_rfl
def sE:cM hZ 116=some (false,1):=by kernel_rfl
def rz:eQ hZ 116=some (240,2,16,some 2):=by kernel_rfl
def CJ:cM hZ 124=some (false,1):=by kernel_rfl
def FM:eQ hZ 124=some (134,1,8,some 1):=by kernel_rfl
def wq:aQ hZ 126 0=some (0,some true):=by kernel_rfl
def aaU:aQ hZ 126 1=some (9,some true):=by kernel_rfl
def mz:aQ hZ 126 2=some (10,some true):=by kernel_rfl
def tH:aQ hZ 126 3=some (11,some true):=by kernel_rfl
def tI:aQ hZ 126 4=some (12,some true):=by kernel_rfl
def HJ:aQ hZ 126 5=some (13,some true):=by kernel_rfl
def pM:aQ hZ 126 6=some (14,some true):=by kernel_rfl
def HK:aQ hZ 126 7=some (15,some true):=by kernel_rfl
def FN:cM hZ 128=some (false,1):=by kernel_rfl
def pN:cM hZ 129=some (false,1):=by kernel_rfl
def tJ:eQ hZ 129=some (227,2,32,some 2):=by kernel_rfl
def ajW:cM hZ 131=some (true,5):=by kernel_rfl
def nk:aQ hZ 131 0=some (0,some true):=by kernel_rfl
def CK:aQ hZ 131 1=some (1,some true):=by kernel_rfl
def wv:aQ hZ 131 2=some (2,some true):=by kernel_rfl
def js:aQ hZ 131 3=some (3,some true):=by kernel_rfl
def zo:aQ hZ 131 4=some (4,some true):=by kernel_rfl
def agK:dW hZ 131=some (some (.agg [.pointer none,.slice none 0 0,.slice none 0 0,.slice none 0 0,iE 0].toArray)):=by kernel_rfl
def KW:cM hZ 134=some (false,1):=by kernel_rfl
def ajX:cM hZ 135=some (false,1):=by kernel_rfl
def agL:dW hZ 135=some (some (.nilFunc)):=by kernel_rfl
def tK:aQ hZ 137 0=some (0,some true):=by kernel_rfl
def Pf:aQ hZ 137 1=some (1,some true):=by kernel_rfl
def lH:aQ hZ 137 2=some (4,some true):=by kernel_rfl
def zp:aQ hZ 137 3=some (5,some true):=by kernel_rfl
def HL:aQ hZ 137 4=some (6,some true):=by kernel_rfl
def wx:aQ hZ 137 5=some (7,some true):=by kernel_rfl
def wy:aQ hZ 137 6=some (8,some true):=by kernel_rfl
def HM:aQ hZ 137 7=some (9,some true):=by kernel_rfl
def ie:cM hZ 139=some (true,6):=by kernel_rfl
def kQ:aQ hZ 139 0=some (0,some true):=by kernel_rfl
def lI:aQ hZ 139 1=some (1,some true):=by kernel_rfl
def fR:aQ hZ 139 2=some (2,some true):=by kernel_rfl
def wz:aQ hZ 139 3=some (3,some true):=by kernel_rfl
def wA:aQ hZ 139 4=some (4,some true):=by kernel_rfl
def jH:aQ hZ 139 5=some (5,some true):=by kernel_rfl
def oN:dW hZ 139=some (some (.agg [iE 0,iE 0,iE 0,.slice none 0 0,.slice none 0 0,iE 0].toArray)):=by kernel_rfl
def yu:eQ hZ 146=some (22,1,24,some 1):=by kernel_rfl
def zq:cM hZ 165=some (false,1):=by kernel_rfl
def jI:cM hZ 166=some (false,1):=by kernel_rfl
def gy:eQ hZ 166=some (179,4,40,some 4):=by kernel_rfl
def kR:aQ hZ 171 0=some (0,some true):=by kernel_rfl
def fS:aQ hZ 171 1=some (1,some true):=by kernel_rfl
def nn:aQ hZ 171 2=some (2,some true):=by kernel_rfl
def zu:aQ hZ 171 3=some (3,some true):=by kernel_rfl
def mU:cM hZ 175=some (true,3):=by kernel_rfl
def ox:aQ hZ 175 0=some (0,some true):=by kernel_rfl
def CL:aQ hZ 175 1=some (1,some true):=by kernel_rfl
def CM:aQ hZ 175 2=some (2,some true):=by kernel_rfl
def pO:dW hZ 175=some (some (.agg [.string ⟨#[]⟩,iE 0,iE 0].toArray)):=by kernel_rfl
def ajY:cM hZ 179=some (true,4):=by kernel_rfl
def mA:aQ hZ 179 0=some (0,some true):=by kernel_rfl
def oy:aQ hZ 179 1=some (1,some true):=by kernel_rfl
def tL:aQ hZ 179 2=some (2,some true):=by kernel_rfl
def mB:aQ hZ 179 3=some (3,some true):=by kernel_rfl
def agM:dW hZ 179=some (some (.agg [iE 0,.string ⟨#[]⟩,iE 0,iE 0].toArray)):=by kernel_rfl
def zx:cM hZ 183=some (true,4):=by kernel_rfl
def lK:aQ hZ 183 0=some (0,some true):=by kernel_rfl
def zy:aQ hZ 183 1=some (1,some true):=by kernel_rfl
def nq:aQ hZ 183 2=some (2,some true):=by kernel_rfl
def CN:aQ hZ 183 3=some (3,some true):=by kernel_rfl
def GX:dW hZ 183=some (some (.agg [iE 0,iE 0,.string ⟨#[]⟩,iE 0].toArray)):=by kernel_rfl
def KX:cM hZ 184=some (false,1):=by kernel_rfl
def VO:dW hZ 184=some (some (.map none)):=by kernel_rfl
def asc:cM hZ 196=some (true,3):=by kernel_rfl
def aaV:aQ hZ 196 0=some (0,some true):=by kernel_rfl
def aaW:aQ hZ 196 1=some (1,some true):=by kernel_rfl
def aaX:aQ hZ 196 2=some (2,some true):=by kernel_rfl
def agN:dW hZ 196=some (some (.agg [.string ⟨#[]⟩,iE 0,.slice none 0 0].toArray)):=by kernel_rfl
def sF:cM hZ 198=some (false,1):=by kernel_rfl
theorem lL:eQ hZ 198=some (262,4,32,some 4):=by kernel_rfl
def Pg:aQ hZ 200 0=some (0,some true):=by kernel_rfl
def lM:aQ hZ 200 1=some (1,some true):=by kernel_rfl
def uZ:cM hZ 205=some (false,1):=by kernel_rfl
def wB:aQ hZ 207 0=some (0,some true):=by kernel_rfl
def Ph:aQ hZ 207 1=some (1,some true):=by kernel_rfl
def tM:aQ hZ 207 2=some (2,some true):=by kernel_rfl
def CO:aQ hZ 207 3=some (3,some true):=by kernel_rfl
def oz:aQ hZ 207 4=some (4,some true):=by kernel_rfl
def yw:cM hZ 209=some (false,1):=by kernel_rfl
def HN:cM hZ 210=some (false,1):=by kernel_rfl
def VP:eQ hZ 210=some (250,1,8,some 1):=by kernel_rfl
def zz:aQ hZ 212 0=some (0,some true):=by kernel_rfl
def Pj:aQ hZ 212 1=some (6,some true):=by kernel_rfl
def wC:aQ hZ 212 2=some (7,some true):=by kernel_rfl
def HO:aQ hZ 212 3=some (8,some true):=by kernel_rfl
def oA:aQ hZ 212 4=some (9,some true):=by kernel_rfl
def wD:aQ hZ 212 5=some (10,some true):=by kernel_rfl
def fh:cM hZ 220=some (true,9):=by kernel_rfl
def iy:aQ hZ 220 0=some (0,some true):=by kernel_rfl
def lO:aQ hZ 220 1=some (1,some true):=by kernel_rfl
def jJ:aQ hZ 220 2=some (2,some true):=by kernel_rfl
def jK:aQ hZ 220 3=some (3,some true):=by kernel_rfl
def rA:aQ hZ 220 4=some (4,some true):=by kernel_rfl
def pP:aQ hZ 220 5=some (5,some true):=by kernel_rfl
def nt:aQ hZ 220 6=some (6,some true):=by kernel_rfl
def pQ:aQ hZ 220 7=some (7,some true):=by kernel_rfl
def tN:aQ hZ 220 8=some (8,some true):=by kernel_rfl
def kS:dW hZ 220=some (some (.agg [iE 0,.string ⟨#[]⟩,.string ⟨#[]⟩,.slice none 0 0,.slice none 0 0,iE 0,iE 0,iE 0,iE 0].toArray)):=by kernel_rfl
def Pk:aQ hZ 227 0=some (0,some true):=by kernel_rfl
def aaY:aQ hZ 227 1=some (1,some true):=by kernel_rfl
def HQ:cM hZ 240=some (true,2):=by kernel_rfl
def oB:aQ hZ 240 0=some (0,some true):=by kernel_rfl
def rB:aQ hZ 240 1=some (1,some true):=by kernel_rfl
def MQ:dW hZ 240=some (some (.agg [iE 0,iE 0].toArray)):=by kernel_rfl
def rC:aQ hZ 246 0=some (0,some true):=by kernel_rfl
def wE:aQ hZ 248 0=some (0,some true):=by kernel_rfl
def Pl:aQ hZ 248 1=some (1,some true):=by kernel_rfl
def agO:dW hZ 248=some (some (.agg [.slice none 0 0,iE 0].toArray)):=by kernel_rfl
def asd:cM hZ 250=some (false,1):=by kernel_rfl
def ajZ:cM hZ 259=some (true,20):=by kernel_rfl
def agP:dW hZ 259=some (some (.agg [iE 0,iE 0,iE 0,iE 0,iE 0,iE 0,iE 0,iE 0,iE 0,iE 0,iE 0,iE 0,iE 0,iE 0,iE 0,iE 0,iE 0,iE 0,iE 0,iE 0].toArray)):=by kernel_rfl
def lP:cM hZ 262=some (true,4):=by kernel_rfl
def pR:aQ hZ 262 0=some (0,some true):=by kernel_rfl
def kT:aQ hZ 262 1=some (1,some true):=by kernel_rfl
def nu:aQ hZ 262 2=some (2,some true):=by kernel_rfl
def mC:aQ hZ 262 3=some (3,some true):=by kernel_rfl
def sP:dW hZ 262=some (some (.agg [iE 0,iE 0,iE 0,iE 0].toArray)):=by kernel_rfl
def agQ:dW hZ 271=some (some (.nilFunc)):=by kernel_rfl
def VQ:cM hZ 300=some (false,1):=by kernel_rfl
def agR:dW hZ 300=some (some (.nilFunc)):=by kernel_rfl
def zA:eQ hZ 321=some (324,2,16,some 2):=by kernel_rfl
def AI:dW hZ 321=some (some (.slice none 0 0)):=by kernel_rfl
def VR:cM hZ 324=some (true,2):=by kernel_rfl
def Pm:aQ hZ 324 0=some (0,some true):=by kernel_rfl
def Pn:aQ hZ 324 1=some (1,some true):=by kernel_rfl
def VS:dW hZ 324=some (some (.agg [iE 0,iE 0].toArray)):=by kernel_rfl
def aj0:eQ hZ 326=some (5,1,1,some 1):=by kernel_rfl
def aj1:cM hZ 327=some (true,16):=by kernel_rfl
def agS:dW hZ 327=some (some (.agg [.string ⟨#[]⟩,.string ⟨#[]⟩,.string ⟨#[]⟩,.string ⟨#[]⟩,.string ⟨#[]⟩,.string ⟨#[]⟩,.string ⟨#[]⟩,.string ⟨#[]⟩,.string ⟨#[]⟩,.string ⟨#[]⟩,.string ⟨#[]⟩,.string ⟨#[]⟩,.string ⟨#[]⟩,.string ⟨#[]⟩,.string ⟨#[]⟩,.string ⟨#[]⟩].toArray)):=by kernel_rfl
def aaZ:cM hZ 348=some (true,16):=by kernel_rfl
def VT:dW hZ 348=some (some (.agg [.nilFunc,.nilFunc,.nilFunc,.nilFunc,.nilFunc,.nilFunc,.nilFunc,.nilFunc,.nilFunc,.nilFunc,.nilFunc,.nilFunc,.nilFunc,.nilFunc,.nilFunc,.nilFunc].toArray)):=by kernel_rfl
def iX:aQ hZ 368 0=some (0,some true):=by kernel_rfl
def fo:aQ hZ 368 1=some (1,some true):=by kernel_rfl
def lQ:aQ hZ 368 2=some (2,some true):=by kernel_rfl
def CP:aQ hZ 368 3=some (3,some true):=by kernel_rfl
def rD:aQ hZ 368 4=some (4,some true):=by kernel_rfl
def gP:cM hZ 371=some (true,4):=by kernel_rfl
def tO:aQ hZ 371 0=some (0,some true):=by kernel_rfl
def pS:aQ hZ 371 1=some (1,some true):=by kernel_rfl
def wF:aQ hZ 371 2=some (2,some true):=by kernel_rfl
def aa0:aQ hZ 371 3=some (3,some true):=by kernel_rfl
def u0:dW hZ 371=some (some (.agg [.slice none 0 0,iE 0,iE 0,iE 0].toArray)):=by kernel_rfl
def Po:eQ hZ 380=some (33,1,24,some 1):=by kernel_rfl
def ase:cM hZ 390=some (false,1):=by kernel_rfl
def aj2:cM hZ 419=some (true,15):=by kernel_rfl
def agT:dW hZ 419=some (some (.agg [.string ⟨#[]⟩,.string ⟨#[]⟩,.string ⟨#[]⟩,.string ⟨#[]⟩,.string ⟨#[]⟩,.string ⟨#[]⟩,.string ⟨#[]⟩,.string ⟨#[]⟩,.string ⟨#[]⟩,.string ⟨#[]⟩,.string ⟨#[]⟩,.string ⟨#[]⟩,.string ⟨#[]⟩,.string ⟨#[]⟩,.string ⟨#[]⟩].toArray)):=by kernel_rfl
def oC(a1:Option Addr)(V c1:Nat)(a2:Option Addr)(U B:Nat)(I:Option Addr)(J E:Nat)(O:Option Addr)(G M:Nat):pr hZ (mZ 36 [(1,.slice a1 V c1),(2,.slice a2 U B),(3,.slice I J E),(4,.slice O G M)].toArray)=some (.agg [.slice none 0 0,.slice a1 V c1,.slice a2 U B,.slice I J E,.slice O G M,.slice none 0 0].toArray):=by kernel_rfl
def FP(a0:Int)(a1:Int)(a2:Int):pr hZ (mZ 56 [(0,iE a0),(1,iE a1),(2,iE a2)].toArray)=some (.agg [iE a0,iE a1,iE a2,.bool false,.bool false].toArray):=by kernel_rfl
def KY(a0:Int)(a1:Int):pr hZ (mZ 67 [(0,iE a0),(1,iE a1)].toArray)=some (.agg [iE a0,iE a1,iE 0,.slice none 0 0].toArray):=by kernel_rfl
def FR(a0:Int)(a1:Int)(a2:Int):pr hZ (mZ 67 [(0,iE a0),(1,iE a1),(2,iE a2)].toArray)=some (.agg [iE a0,iE a1,iE a2,.slice none 0 0].toArray):=by kernel_rfl
def KZ(a0:Int)(E:Option Addr)(B G:Nat):pr hZ (mZ 67 [(0,iE a0),(3,.slice E B G)].toArray)=some (.agg [iE a0,iE 0,iE 0,.slice E B G].toArray):=by kernel_rfl
def EH:pr hZ (mZ 72 [].toArray)=some (.agg [iE 0,iE 0,iE 0,iE 0,iE 0].toArray):=by kernel_rfl
def MR(a0:Int):pr hZ (mZ 72 [(0,iE a0)].toArray)=some (.agg [iE a0,iE 0,iE 0,iE 0,iE 0].toArray):=by kernel_rfl
def EI(a0:Int)(a1:Int):pr hZ (mZ 72 [(0,iE a0),(1,iE a1)].toArray)=some (.agg [iE a0,iE a1,iE 0,iE 0,iE 0].toArray):=by kernel_rfl
def rE(a0:Int)(a1:Int)(a2:Int):pr hZ (mZ 72 [(0,iE a0),(1,iE a1),(2,iE a2)].toArray)=some (.agg [iE a0,iE a1,iE a2,iE 0,iE 0].toArray):=by kernel_rfl
def vE(a0:Int)(a1:Int)(a2:Int)(B:Int):pr hZ (mZ 72 [(0,iE a0),(1,iE a1),(2,iE a2),(3,iE B)].toArray)=some (.agg [iE a0,iE a1,iE a2,iE B,iE 0].toArray):=by kernel_rfl
def pg(a0:Int)(a2:Int):pr hZ (mZ 72 [(0,iE a0),(2,iE a2)].toArray)=some (.agg [iE a0,iE 0,iE a2,iE 0,iE 0].toArray):=by kernel_rfl
def l8(a0:Int)(a2:Int)(B:Int):pr hZ (mZ 72 [(0,iE a0),(2,iE a2),(3,iE B)].toArray)=some (.agg [iE a0,iE 0,iE a2,iE B,iE 0].toArray):=by kernel_rfl
def Bo(a0:Int)(a2:Int)(B:Int)(E:Int):pr hZ (mZ 72 [(0,iE a0),(2,iE a2),(3,iE B),(4,iE E)].toArray)=some (.agg [iE a0,iE 0,iE a2,iE B,iE E].toArray):=by kernel_rfl
def te(a0:Int)(B:Int):pr hZ (mZ 72 [(0,iE a0),(3,iE B)].toArray)=some (.agg [iE a0,iE 0,iE 0,iE B,iE 0].toArray):=by kernel_rfl
def La(a0:Option Addr)(B c0:Nat)(a1:Int):pr hZ (mZ 95 [(0,.slice a0 B c0),(1,iE a1)].toArray)=some (.agg [.slice a0 B c0,iE a1].toArray):=by kernel_rfl
def S1(a0:ByteArray)(B:Int):pr hZ (mZ 114 [(0,.string a0),(3,iE B)].toArray)=some (.agg [.string a0,.slice none 0 0,.slice none 0 0,iE B].toArray):=by kernel_rfl
def CQ(a0:ByteArray)(G:Int)(a2:Option Addr)(E B:Nat):pr hZ (mZ 114 [(0,.string a0),(3,iE G),(2,.slice a2 E B)].toArray)=some (.agg [.string a0,.slice none 0 0,.slice a2 E B,iE G].toArray):=by kernel_rfl
def aa1(B:Int):pr hZ (mZ 114 [(3,iE B)].toArray)=some (.agg [.string ⟨#[]⟩,.slice none 0 0,.slice none 0 0,iE B].toArray):=by kernel_rfl
def S2(U:Option Addr)(Pq Pr:Nat)(Ps:Int)(Pt:Option Addr)(Pu Pv:Nat)(V:Int)(Px:Option Addr)(W Z:Nat)(Y:Int)(G:Int)(M:Option Addr)(E O:Nat)(B:Option Addr)(J I:Nat)(a1:Int):pr hZ (mZ 126 [(0,.agg [.slice U Pq Pr,iE Ps,.slice Pt Pu Pv,iE V,.slice Px W Z,iE Y,iE G,.slice M E O,.slice B J I].toArray),(1,iE a1)].toArray)=some (.agg [.slice U Pq Pr,iE Ps,.slice Pt Pu Pv,iE V,.slice Px W Z,iE Y,iE G,.slice M E O,.slice B J I,iE a1,.pointer none,.slice none 0 0,.slice none 0 0,iE 0,iE 0,iE 0].toArray):=by kernel_rfl
def zB(a0:Option Addr)(E:Int)(J:Int)(I:Option Addr)(B G:Nat)(O:Option Addr)(U Y:Nat)(V:Option Addr)(M W:Nat):pr hZ (mZ 137 [(0,.pointer a0),(1,.agg [iE E,iE J,.slice I B G].toArray),(3,.slice O U Y),(4,.slice V M W)].toArray)=some (.agg [.pointer a0,iE E,iE J,.slice I B G,iE 0,.slice O U Y,.slice V M W,iE 0,iE 0,iE 0].toArray):=by kernel_rfl
def aa2(a0:Option Addr)(B c0:Nat):pr hZ (mZ 171 [(0,.slice a0 B c0)].toArray)=some (.agg [.slice a0 B c0,iE 0,iE 0,iE 0].toArray):=by kernel_rfl
def agU:pr hZ (mZ 175 [].toArray)=some (.agg [.string ⟨#[]⟩,iE 0,iE 0].toArray):=by kernel_rfl
def S3(a0:ByteArray)(a2:Int):pr hZ (mZ 175 [(0,.string a0),(2,iE a2)].toArray)=some (.agg [.string a0,iE 0,iE a2].toArray):=by kernel_rfl
def aa3(B:Int):pr hZ (mZ 179 [(3,iE B)].toArray)=some (.agg [iE 0,.string ⟨#[]⟩,iE 0,iE B].toArray):=by kernel_rfl
def MS(a0:Int)(a1:Int)(B:Int):pr hZ (mZ 183 [(0,iE a0),(1,iE a1),(3,iE B)].toArray)=some (.agg [iE a0,iE a1,.string ⟨#[]⟩,iE B].toArray):=by kernel_rfl
def MT(a0:Int)(a2:ByteArray)(B:Int):pr hZ (mZ 183 [(0,iE a0),(2,.string a2),(3,iE B)].toArray)=some (.agg [iE a0,iE 0,.string a2,iE B].toArray):=by kernel_rfl
def HS(a0:Int)(B:Int):pr hZ (mZ 183 [(0,iE a0),(3,iE B)].toArray)=some (.agg [iE a0,iE 0,.string ⟨#[]⟩,iE B].toArray):=by kernel_rfl
def aa4(a0:Int):pr hZ (mZ 200 [(0,iE a0)].toArray)=some (.agg [iE a0,.slice none 0 0].toArray):=by kernel_rfl
def S4(a0:Int)(a1:Option Addr)(B c1:Nat):pr hZ (mZ 200 [(0,iE a0),(1,.slice a1 B c1)].toArray)=some (.agg [iE a0,.slice a1 B c1].toArray):=by kernel_rfl
def qK(a0:Option Addr)(G c0:Nat)(a1:Option Addr)(I c1:Nat)(a2:Option Addr)(O B:Nat)(U:Option Addr)(J E:Nat)(M:Option Nat):pr hZ (mZ 207 [(0,.slice a0 G c0),(1,.slice a1 I c1),(2,.slice a2 O B),(3,.slice U J E),(4,.map M)].toArray)=some (.agg [.slice a0 G c0,.slice a1 I c1,.slice a2 O B,.slice U J E,.map M].toArray):=by kernel_rfl
def HT(a0:Option Addr)(E c0:Nat)(a1:Option Addr)(J c1:Nat)(a2:Option Addr)(I B:Nat)(G:Option Nat):pr hZ (mZ 207 [(0,.slice a0 E c0),(1,.slice a1 J c1),(2,.slice a2 I B),(4,.map G)].toArray)=some (.agg [.slice a0 E c0,.slice a1 J c1,.slice a2 I B,.slice none 0 0,.map G].toArray):=by kernel_rfl
def S6(a0:Int)(B:Int):pr hZ (mZ 220 [(0,iE a0),(8,iE B)].toArray)=some (.agg [iE a0,.string ⟨#[]⟩,.string ⟨#[]⟩,.slice none 0 0,.slice none 0 0,iE 0,iE 0,iE 0,iE B].toArray):=by kernel_rfl
def S7(a0:Int)(a1:Int):pr hZ (mZ 240 [(0,iE a0),(1,iE a1)].toArray)=some (.agg [iE a0,iE a1].toArray):=by kernel_rfl
def MU:pr hZ (mZ 262 [].toArray)=some (.agg [iE 0,iE 0,iE 0,iE 0].toArray):=by kernel_rfl
def HU(a0:Int):pr hZ (mZ 262 [(0,iE a0)].toArray)=some (.agg [iE a0,iE 0,iE 0,iE 0].toArray):=by kernel_rfl
def BP(a0:Int)(a1:Int):pr hZ (mZ 262 [(0,iE a0),(1,iE a1)].toArray)=some (.agg [iE a0,iE a1,iE 0,iE 0].toArray):=by kernel_rfl
def S8(a0:Int)(a1:Int):pr hZ (mZ 324 [(0,iE a0),(1,iE a1)].toArray)=some (.agg [iE a0,iE a1].toArray):=by kernel_rfl
def nw(a1:ByteArray)(a2:ByteArray)(W:ByteArray)(V:ByteArray)(O:ByteArray)(U:ByteArray)(M:ByteArray)(G:ByteArray)(E:ByteArray)(I:ByteArray)(a13:ByteArray)(J:ByteArray)(B:ByteArray):pr hZ (mZ 327 [(1,.string a1),(2,.string a2),(3,.string W),(4,.string V),(5,.string O),(6,.string U),(9,.string M),(10,.string G),(11,.string E),(12,.string I),(13,.string a13),(14,.string J),(15,.string B)].toArray)=some (.agg [.string ⟨#[]⟩,.string a1,.string a2,.string W,.string V,.string O,.string U,.string ⟨#[]⟩,.string ⟨#[]⟩,.string M,.string G,.string E,.string I,.string a13,.string J,.string B].toArray):=by kernel_rfl
def S9(a0:Option Addr)(B c0:Nat)(a1:Int):pr hZ (mZ 368 [(0,.slice a0 B c0),(1,iE a1)].toArray)=some (.agg [.slice a0 B c0,iE a1,iE 0,iE 0,.slice none 0 0].toArray):=by kernel_rfl
def BQ(a0:Option Addr)(B c0:Nat)(a1:Int):pr hZ (mZ 371 [(0,.slice a0 B c0),(1,iE a1)].toArray)=some (.agg [.slice a0 B c0,iE a1,iE 0,iE 0].toArray):=by kernel_rfl
def Ta(a2:Int)(B:Int):pr hZ (mZ 371 [(2,iE a2),(3,iE B)].toArray)=some (.agg [.slice none 0 0,iE 0,iE a2,iE B].toArray):=by kernel_rfl
def aa5:xI hZ 262=some [0,0,0,0]:=by kernel_rfl
end Go.Proofs.YtdncbeepkacgbaaGreatDoor
namespace Go.Fw
def sep(H1 H2:HP):HP where
 p w F:=∃B E,H1.p w B/\H2.p w E/\(∀b,B b->¬ E b)/\∀b,F b↔B b\/E b
 loc w w' F h hh:=by
  obtain⟨B,E,h1,h2,h3,h4⟩:=h
  exact⟨B,E,H1.loc _ _ _ h1 λb hb=>hh b ((h4 b).2 (.inl hb)),H2.loc _ _ _ h2 λb hb=>hh b ((h4 b).2 (.inr hb)),h3,h4⟩
 lt w F b h hb:=by
  obtain⟨B,E,h1,h2,h3,h4⟩:=h
  rcases(h4 b).1 hb with hf|hf
  .exact H1.lt _ _ _ h1 hf
  .exact H2.lt _ _ _ h2 hf
def ph{α:Type}(H:α->HP):HP where
 p w F:=∃x,(H x).p w F
 loc w w' F h hh:=by obtain⟨x,h⟩:=h;exact⟨x,(H x).loc _ _ _ h hh⟩
 lt w F b h hb:=by obtain⟨x,h⟩:=h;exact(H x).lt _ _ _ h hb
def fact(φ:Prop)(H:HP):HP where
 p w F:=φ/\H.p w F
 loc w w' F h hh:=⟨h.1,H.loc _ _ _ h.2 hh⟩
 lt w F b h hb:=H.lt _ _ _ h.2 hb
def emp:HP where
 p _ F:=∀b,¬ F b
 loc _ _ _ h _:=h
 lt _ _ b h hb:=(h b hb).elim
section
variable {P:Program}{w w0 w':World}{A:Nat->Prop}{L:List HP}{H H1 H2:HP}
theorem St.split(h:St w0 A (sep H1 H2::L) w):St w0 A (H1::H2::L) w:=by
 obtain⟨U,F,E,⟨M,G,J,O,V,B⟩,h2,h3,h4,h5⟩:=h.vC
 refine⟨h.aG,U,M,λb=>G b\/E b,J,λb hb=>h2 b ((B b).2 (.inl hb)),λb hb I=>?_,λb=>?_,G,E,O,λb hb=>h2 b ((B b).2 (.inr hb)),λb hb I=>h3 b ((B b).2 (.inr hb)) I,λb=>Iff.rfl,h5⟩
 .grind
 grind
theorem St.join(h:St w0 A (H1::H2::L) w):St w0 A (sep H1 H2::L) w:=by
 obtain⟨U,F,V,h1,h2,h3,h4,B,M,E,G,W,I,O⟩:=h.vC
 refine⟨h.aG,U,λb=>F b\/B b,M,⟨F,B,h1,E,λb hb J=>h3 b hb ((I b).2 (.inl J)),λb=>Iff.rfl⟩,λb hb=>hb.elim (h2 b) (G b),λb hb Y=>?_,λb=>?_,O⟩
 .grind
 grind
theorem St.dU{α:Type}{H:α->HP}(h:St w0 A (ph H::L) w):∃x,St w0 A (H x::L) w:=by
 obtain⟨U,F,B,⟨x,h1⟩,h2⟩:=h.vC;exact⟨x,h.aG,U,F,B,h1,h2⟩
theorem St.dX{α:Type}{H:α->HP}(x:α)(h:St w0 A (H x::L) w):St w0 A (ph H::L) w:=by
 obtain⟨U,F,B,h1,h2⟩:=h.vC;exact⟨h.aG,U,F,B,⟨x,h1⟩,h2⟩
theorem St.lq{φ:Prop}(h:St w0 A (fact φ H::L) w):φ/\St w0 A (H::L) w:=by
 obtain⟨U,F,B,⟨x,h1⟩,h2⟩:=h.vC;exact⟨x,h.aG,U,F,B,h1,h2⟩
theorem St.nx{φ:Prop}(x:φ)(h:St w0 A (H::L) w):St w0 A (fact φ H::L) w:=by
 simp_all[fact]
def ng(F:Nat->Prop)(H':HP)(w w':World):Prop:=∃B,H'.p w' B/\(∀b,B b->F b\/w.heap.size<=b)/\gZ F w w'
def mf(H:HP)(w w':World):Prop:=∃F,H.p w' F/\(∀b,F b->w.heap.size<=b)/\Ext w w'
theorem St.mut{F:Nat->Prop}(B:St w F (H::L) w'):ng F H w w':=by
 obtain⟨E,h1,h2⟩:=B.head;exact⟨E,h1,h2,B.aG⟩
theorem St.fresh(B:St w bE (H::L) w'):mf H w w':=by
 obtain⟨E,h1,h2⟩:=B.head;exact⟨E,h1,λb hb=>(h2 b hb).elim (λh=>h.elim) id,B.aG⟩
theorem St.made(B:St w0 A L w)(h:mf H w w'):St w0 A (H::L) w':=by
 obtain⟨F,h1,h2,h3⟩:=h;exact B.new h3 h1 h2
theorem aY{f:FuncId}{args:List Value}{X:Value}{K:Value->iD}(pl:Plain P f)(B:St w0 A L w)(hc:Calls P f args.toArray w (rZ λv w'=>v=X/\Ext w w'))(k:∀w',Ext w w'->St w0 A L w'->K X w'):FE P f args w K:=
 eC pl hc λv w' h=>by obtain⟨rfl,h2⟩:=h;exact k w' h2 (B.ext h2)
theorem cW{f:FuncId}{args:List Value}{H:Value->HP}{K:Value->iD}(pl:Plain P f)(B:St w0 A L w)(hc:Calls P f args.toArray w (rZ λv w'=>mf (H v) w w'))(k:∀v w',mf (H v) w w'->St w0 A (H v::L) w'->K v w'):FE P f args w K:=
 eC pl hc λv w' h=>k v w' h (B.made h)
theorem St.aa6{F:Nat->Prop}{E:Nat->Prop}{H':HP}(J:St w0 A (H::L) w)(h2:∀b,F b->A b\/w0.heap.size<=b)(h3:∀b,F b->¬ E b)(h5:tu w0 A L w E)(h:ng F H' w w'):St w0 A (H'::L) w':=by
 obtain⟨M,U,G,I⟩:=h
 refine⟨J.aG.trans I (λ_ h=>h) λb hb B=>(h2 b B).elim id λV=>cU,λb=>M b\/E b,M,E,U,λb hb=>?_,λb hb O=>?_,λb=>Iff.rfl,?_⟩
 .rcases G b hb with B|B
  .exact h2 b B
  exact .inr (xL J.aG.size B)
 .rcases G b hb with B|B
  .exact h3 b B O
  have:=h5.lt b O;omega
 exact h5.loc λb hb=>I.bU b (h5.lt b hb) λB=>h3 b B hb
theorem q7{f:FuncId}{args:List Value}{H':Value->HP}{Φ:Value->iD}{K:Value->iD}(pl:Plain P f)(B:St w0 A (H::L) w)
  (hc:∀F,H.p w F->Calls P f args.toArray w (rZ λv w'=>Φ v w'/\ng F (H' v) w w')) (k:∀v w',Φ v w'->St w0 A (H' v::L) w'->K v w'):FE P f args w K:=by
 obtain⟨U,F,I,h1,h2,h3,h4,h5⟩:=B.vC
 exact eC pl (hc F h1) λv w' ⟨G,E⟩=>k v w' G (B.aa6 h2 h3 h5 E)
end
section
variable {α:Type}[Flat α] {P:Program}{w w0:World}{A S:Nat->Prop}{L:List HP}{xs ys:List α}
theorem dP.one{v:Value}(h:dP S w v xs):sg v=true:=by obtain⟨a,c,rfl,_⟩:=h;rfl
theorem Kk{T E G R b n cap:Nat}{z:Option Nat}{src:Value}{cs:List Value}(ht:eQ P T=some (E,og α,G,z))(hb:oR w b cs)(B:dP S w src ys)
  (I:n+ys.length<=cap) (U:n*og α+ys.length*og α<=cs.length) :
  ∃w',(Builtin.append_ #[T,T] R [.slice (some ⟨b,0,none⟩) n cap,src].toArray).run P w=.ok (.slice (some ⟨b,0,none⟩) (n+ys.length) cap) w'/\oR w' b (iV cs (n*og α) (flat ys))/\gZ (· = b) w w':=by
 obtain⟨hu,Z,hi,W,BK,_⟩:=gw ht
 have rd:=B
 obtain⟨sa,V,rfl,Y,J⟩:=rd
 obtain⟨w',h1,h2,h3⟩:=nR (P:=P) (o:=n*og α) (flat ys) 0 cs w hb (by rw[dO];omega) Cy
 refine⟨w',?_,cU,h3⟩
 have M:=AB (α:=α) (P:=P) (sz:=og α) rfl B
 have O:(⟨b,0,none⟩:Addr).add (n*og α)=⟨b,n*og α,none⟩:=by rw[ix,uf]
 simp[Builtin.append_,run_underlying hu,sizeOf,typeInfo,hi,Builtin.lenOf,I,M,W,O,h1]
theorem Yg{T E M R b o n c:Nat}{z:α}{cs:List Value}(ht:SlT P T E (og α) M)(B:n6 P E (jj z))(hb:oR w b cs)(O:o+n*og α<=cs.length) :
  ∃w',(Builtin.clear_ #[T] R [.slice (some ⟨b,o,none⟩) n c].toArray).run P w=.ok (.tuple #[]) w'/\oR w' b (iV cs o (flat (o6 n z)))/\gZ (· = b) w w':=by
 obtain⟨J,U,hi,W,V,_⟩:=gw ht
 unfold n6 dW at B
 rw[hi]at B
 simp only[Option.map_some,o5.injEq]at B
 by_cases I:n=0
 .subst I
  refine⟨w,?_,by simpa[nj,iV]using hb,gZ.refl _ _⟩
  simp[Builtin.clear_,run_underlying J]
 have G:(Builtin.zeroCells (jj z).cells n).toList=flat (o6 n z):=by
  rw[qI,<- ze]
  unfold Builtin.zeroCells madeCells
  simp[wU]
 obtain⟨w',h1,h2,h3⟩:=nR (P:=P) (o:=o) (flat (o6 n z)) 0 cs w hb (by rw[dO,List.length_replicate];omega) Cy
 refine⟨w',?_,cU,h3⟩
 simp[Builtin.clear_,run_underlying J,zeroValue,typeInfo,hi,B,I,G,h1]
theorem aa7{T E sz I n cap:Nat}{z:Option Nat}{a:Option Addr}{i j k:Int}{K:Value->Prop}(ht:eQ P T=some (E,sz,I,z))(U:0<=i)(h1:i<=j)(h2:j<=k)(h3:k<=cap)
  (J:∀v,K v):eK P (pA T (.slice a n cap) (some (iE i)) (some (iE j)) (some (iE k))) K:=by
 obtain⟨B,O,G,M,_⟩:=gw ht
 have hb:pr P (u1 true n cap (some (iE i)) (some (iE j)) (some (iE k)))=some (i.toNat,j.toNat,k.toNat):=by
  simp only[u1,cH,fq,nY]
  rw[jG cU cU]
  simp only[nY]
  rw[jG cU cU]
  simp only[nY]
  rw[jG cU cU]
  rfl
 refine⟨.slice (if k.toNat=i.toNat then a else a.map (·.add (i.toNat*sz))) (j.toNat-i.toNat) (k.toNat-i.toNat),?_,J _⟩
 unfold pA
 rw[cH,cJ B]
 simp only[nY]
 unfold QB
 rw[cH,cJ B]
 simp only[nY]
 rw[cH,hb]
 simp only[nY]
 rw[cH,o9 G,M]
 rfl
end
def oD(b:Nat)(o:Obj):HP where
 p w F:=w.heap[b]?=some o/\∀k,F k↔k=b
 loc w w' F h hh:=⟨(hh b ((h.2 b).2 rfl)).trans h.1,h.2⟩
 lt w F b' h hb:=dH
section
variable {P:Program}{w w0 w':World}{A:Nat->Prop}{L:List HP}
theorem St.obj{b:Nat}{o:Obj}(B:St w0 A (oD b o::L) w):w.heap[b]?=some o:=by
 obtain⟨F,h,_⟩:=B.head;exact h.1
theorem Ext.alloc(w:World)(o:Obj):Ext w (w.alloc o):=Ext.push w o
theorem St.alloc{o:Obj}(B:St w0 A L w):St w0 A (oD w.heap.size o::L) (w.alloc o):=
 B.new (F:=(· = w.heap.size)) (Ext.alloc w o) ⟨nh w o,λ_=>Iff.rfl⟩ λb hb=>Nat.le_of_eq hb.symm
theorem gZ.putObj(w:World)(b:Nat)(o:Obj):gZ (· = b) w (w.putObj b o):=
 ⟨rfl,rfl,rfl,et,λk _ B=>World.putObj_heap_other B⟩
theorem St.putObj{b:Nat}{o:Obj}(B:Obj)(I:St w0 A (oD b o::L) w):St w0 A (oD b B::L) (w.putObj b B):=
 I.qH λF E=>⟨F,⟨World.putObj_heap_same (tq E.1),E.2⟩,λ_ h=>.inl h,(gZ.putObj w b B).mono λk G=>(E.2 k).2 G⟩
theorem gR.mono{fv:Value}{args:List Value}{K B:Value->iD}(h:gR P fv args w K)(E:∀v w,K v w->B v w):gR P fv args w B:=
 KC.mono (P:=P) (k:=.Vf fv args) h E
theorem aH{α:Type}[Flat α]{T:TypeId}{b:Nat}{cs:List Value}{x:α}{K:iD}(G:St w0 A (bU b cs::L) w)(ht:agG P T (og α))(E:Ix α=true)(B:cs.length=og α)
  (k:∀w',St w0 A (bU b (jl x)::L) w'->K w'):El P (Ku T (.pointer (some ⟨b,0,none⟩)) (jj x)) w K:=by
 rw[acD E]
 refine ry G ht (wU x) (by rw[uf,B];exact qQ _) (UR x) λw' h=>k w' ?_
 have:=mc [] cs [] (jl x) (by rw[wU,B])
 simp only[List.length_nil,List.nil_append,rM]at this
 rwa [this]at h
theorem fJ{α:Type}[Flat α]{S:Nat->Prop}{T:TypeId}{p:Value}{x:α}(ht:cM P T=some (Ix α,og α))(h:At S w p x):(vK T p).run P w=.ok (jj x) w:=by
 obtain⟨v,h1,h2⟩:=(aE (K:=λv=>v=jj x) ht h rfl).ex
 grind
theorem u5{b:Bool}{A B:Prop}(h:b=true)(a:A):Bl (.bool b) A B:=⟨⟨_,rfl,λ_=>a,λE=>dH⟩⟩
theorem gu{b:Bool}{A B:Prop}(h:b=false)(a:B):Bl (.bool b) A B:=⟨⟨_,rfl,λE=>dH,λ_=>a⟩⟩
theorem HV{D:Nat}{K:iD}(B:St w0 A (oD D (.deferred (some []))::L) w)(k:∀w',St w0 A L w'->K w'):nQ [D] w K:=
 ⟨B.obj,k _ (B.putObj (.deferred none)).drop⟩
theorem HW(B:Loop)(h1:B.state=.ready)(h2:B.pending=none):({B with state:=if (none:Option Code).isNone=true then LoopState.ready else LoopState.done,pending:=none}:Loop)=B:=by
 cases B;grind
theorem zC{gf np:Nat}{cap:List Value}{xs:List (List Value)}{round:List Value->World->(World->(iD)->Prop)->(Option Code->iD)->Prop}
  {N R:Nat->iD}{X:Nat->Nat->iD}(pl:Plain P gf) (hs:St w0 A L w) (I:Nat->List HP->Prop) (Z:Code->List HP->Prop) (h0:I 0 L) (hnp:∀x∈xs,x.length=np)
  (hgf:∀(y:Value) (J:Nat->iD) (Jx:iD) (W:World),(∀k W,J k W->∃Y M,I k M/\St w0 A (Y::M) W)->(∀k W U,J k W->Ext W U->J k U)->J 0 W->
   (∀k args U,xs[k]?=some args->J k U->gR P y args U λv W''=>(v=.bool true/\J (k+1) W'')\/(v=.bool false/\Jx W''))->
   Calls P gf ([y]++cap).toArray W (rZ λ_ U=>J xs.length U\/Jx U))
  (Hu:∀k args (Y1 Y2:HP) (B:World->(iD)->Prop) (Kr:Option Code->iD) M W,xs[k]?=some args->I k M->
   (∀M G (kk:iD),St w0 A (Y1::M) G->(∀w2,St w0 A (Y2::M) w2->kk w2)->B G kk)->
   (∀M G,St w0 A (Y2::M) G->I (k+1) M->Kr none G)->(∀c M G,St w0 A (Y2::M) G->Z c M->Kr (some c) G)->
   St w0 A (Y1::M) W->round args W B Kr)
  (aa8:∀D M W,I xs.length M->St w0 A (oD D (.deferred (some []))::M) W->N D W)
  (amx:∀D M W,Z .ret M->St w0 A (oD D (.deferred (some []))::M) W->R D W)
  (aa9:∀id D M W,Z (.exit id) M->St w0 A (oD D (.deferred (some []))::M) W->X id D W)
  (Tb:∀c M,Z c M->(∃id,c=.exit id)\/c=.ret) :
  Cw P (.func (.func gf) #[] cap.toArray) np w round (aft N R X):=by
 refine⟨gf,cap.toArray,rfl,pl,λV gG CS hy=>?_⟩
 obtain⟨l,hl⟩:∃l,l=w.heap.size+1:=⟨_,rfl⟩
 obtain⟨D,hD⟩:∃D,D=w.heap.size:=⟨_,rfl⟩
 rw[<- hl]at hy |-
 rw[<- hD]
 let J:Nat->iD:=λk W=>∃M,I k M/\St w0 A (oD l (.loop V)::oD D (.deferred (some []))::M) W
 let Jx:iD:=λW=>∃c M,Z c M/\St w0 A (oD l (.loop {V with state:=.done,pending:=some c})::oD D (.deferred (some []))::M) W
 have Yh:J 0 ((w.alloc (.deferred (some []))).alloc (.loop V)):=by
  refine⟨L,h0,?_⟩
  have h1:=(hs.alloc (o:=.deferred (some []))).alloc (o:=.loop V)
  rw[show(w.alloc (.deferred (some []))).heap.size=l from by rw[hl];exact Ey w _,<- hD]at h1
  exact h1
 have:=hgf (.func (.yield l) #[] #[]) J Jx _ (λk W ⟨M,O,E⟩=>⟨_,M,O,St.join E⟩) (λk W U ⟨M,O,E⟩ e=>⟨M,O,E.ext e⟩) Yh ?_
 .have e:([Value.func (.yield l) #[] #[]]++cap).toArray = #[.func (.yield l) #[] #[]]++cap.toArray:=et
  rw[e]at this
  refine this.mono λx U ⟨v,hx,hv⟩=>⟨v,hx,?_⟩
  rcases hv with⟨M,O,E⟩|⟨c,M,O,E⟩
  .refine⟨.ready,none,et,?_,?_⟩
   .rw[<- gG,<- CS];exact E.obj
   exact aa8 D M _ O (E.putObj _).drop
  refine⟨.done,some c,et,E.obj,?_⟩
  rcases Tb c M O with⟨id,rfl⟩|rfl
  .exact aa9 id D M _ O (E.putObj _).drop
  exact amx D M _ O (E.putObj _).drop
 intro k args W hk ⟨M,O,E⟩
 refine⟨.inr ⟨l,rfl,?_⟩⟩
 refine hy args W _ (hnp args (ml hk)) E.obj ?_
 refine Hu k args (sep (oD l (.loop V)) (oD D (.deferred (some [])))) (sep (oD l (.loop {V with state:=.busy})) (oD D (.deferred (some [])))) _ _ M W hk O
  (λM G kk h1 h2=>?_) (λM G h1 h2=>?_) (λc M G h1 h2=>?_) (St.join E)
 .have h1:=h1.split
  exact⟨h1.obj,h2 _ (h1.putObj _).join⟩
 .have h1:=h1.split
  refine⟨h1.obj,.inl ⟨rfl,M,h2,?_⟩⟩
  have:=h1.putObj (.loop {V with state:=if (none:Option Code).isNone=true then LoopState.ready else LoopState.done,pending:=none})
  rw[HW V gG CS]at this |-
  exact this
 have h1:=h1.split
 exact⟨h1.obj,.inr ⟨rfl,c,M,h2,h1.putObj _⟩⟩
end
section
variable {P:Program}{w w0:World}{A S:Nat->Prop}{L:List HP}
theorem u6{t:Array TypeId}{T:TypeId}{a b:Int}{K:Value->Prop}(k:K (iE (min a b))):eK P (Builtin.min_ t T [iE a,iE b].toArray) K:=by
 refine⟨_,?_,k⟩
 show pr P (Builtin.min2 (iE a) (iE b))=_
 unfold Builtin.min2
 by_cases h:b<a
 .simp[h,fq];omega
 simp[h,fq];omega
theorem CT{t:Array TypeId}{T:TypeId}{a b:Int}{K:Value->Prop}(k:K (iE (max a b))):eK P (Builtin.max_ t T [iE a,iE b].toArray) K:=by
 refine⟨_,?_,k⟩
 show pr P (Builtin.max2 (iE a) (iE b))=_
 unfold Builtin.max2
 by_cases h:a<b
 .simp[h,fq];omega
 simp[h,fq];omega
end
section
variable {P:Program}{α:Type}[Flat α] {A:Nat->Prop}{w0 w:World}{L:List HP}{xs:List α}
def MV(α:Type)[Flat α](v:Value)(i B:Nat)(p:Value):Prop:=∃b n c,v=.slice (some ⟨b,0,none⟩) n c/\p=.pointer (some ⟨b,i*og α+B,none⟩)
theorem mD{T f B i:Nat}{v p:Value}{K:Value->Prop}(ht:Ez P T f B)(h:KU α v i p)(k:∀q,MV α v i B q->K q):eK P (Instr.fieldAt T p f) K:=by
 obtain⟨b,n,c,h1,rfl⟩:=h
 exact aA ht (k _ ⟨b,n,c,h1,rfl⟩)
theorem tP{β:Type}[Flat β]{T:Nat}{v p:Value}{i B:Nat}{x:α}(y:β){K:Value->Prop}(U:St w0 A (bG v xs::L) w)(ht:cM P T=some (Ix β,og β))(M:MV α v i B p)(I:xs[i]?=some x)
  (J:((jl x).drop B).take (og β)=jl y) (k:K (jj y)):GK P (vK T p) w K:=by
 obtain⟨F,h,_⟩:=U.head
 obtain⟨b,cap,rest,O,hb,W,_⟩:=td h (j0.1 I).1
 obtain⟨V,n,c,G,rfl⟩:=M
 rw[O]at G
 simp only[yR.injEq,o5.injEq,Addr.mk.injEq]at G
 obtain⟨⟨rfl,_,_⟩,_,_⟩:=G
 refine aE (S:=λ_=>True) ht ⟨b,i*og α+B,rfl,trivial,λj c E=>hb.cell ?_⟩ k
 rw[<- J,List.getElem?_take]at E
 split at E
 .rw[Fl]at E
  have:=wm I E
  rw[NI,s7 (j0.1 this).1];exact this
 cases E
theorem wG{β:Type}[Flat β]{T:Nat}{v p:Value}{i B:Nat}{K:iD}{x:α}(y:α)(z:β)(hs:St w0 A (bG v xs::L) w)(ht:cM P T=some (Ix β,og β))(hp:MV α v i B p)(hx:xs[i]?=some x)
  (hlen:B+og β<=og α) (hy:(jl x).take B++jl z++(jl x).drop (B+og β)=jl y)
  (k:∀w',St w0 A (bG v (xs.set i y)::L) w'->K w'):El P (Ku T p (jj z)) w K:=by
 obtain⟨U,F,U',g1,O,Z,g4,Y⟩:=hs.vC
 have hi:=(j0.1 hx).1
 obtain⟨b,cap,rest,W,hb,V,J⟩:=td g1 hi
 obtain⟨b',n,c,M,rfl⟩:=hp
 rw[W]at M
 simp only[yR.injEq,o5.injEq,Addr.mk.injEq]at M
 obtain⟨⟨rfl,_,_⟩,_,_⟩:=M
 have So:=BL hx
 have J4:(flat (xs.take i)).length=i*og α:=by rw[dO,n0,Hx cU]
 have Lb:i*og α+og α<=(flat xs).length:=by
  rw[dO,<- Nat.succ_mul];exact Nat.mul_le_mul_right _ hi
 have Vn:(jl x).length=og α:=wU x
 have E:(jl z).length=og β:=wU z
 obtain⟨w',h1,h2,h3⟩:=nR (P:=P) (o:=i*og α+B) (jl z) 0 (flat xs++rest) w hb (by rw[E,lJ];omega) (UR z)
 have Ka:iV (flat xs++rest) (i*og α+B+0) (jl z)=flat (xs.set i y)++rest:=by
  have:=mc (flat (xs.take i)++(jl x).take B) (((jl x).drop B).take (og β)) ((jl x).drop (B+og β)++flat (xs.drop (i+1))++rest) (jl z)
   (by rw[E,n0,tx];omega)
  rw[lJ,J4,n0,Hx cU]at this
  rw[MI,Pc y hi,So,<- hy]
  have e1:jl x=(jl x).take B++((jl x).drop B).take (og β)++(jl x).drop (B+og β):=by
   rw[<- uL,o1,sf,sf]
  have e2:flat (xs.take i)++jl x++flat (xs.drop (i+1))++rest=flat (xs.take i)++(jl x).take B++((jl x).drop B).take (og β)++((jl x).drop (B+og β)++flat (xs.drop (i+1))++rest):=by
   conv=>lhs;rw[e1]
   simp only[o1]
  rw[e2,this]
  simp only[o1]
 rw[Ka]at h2
 refine⟨w',?_,k w' ⟨hs.aG.trans (h3.mono λk G=>(J k).2 G) (λ_ h=>h) λb hb I=>(O b I).elim id λhh=>cU,U,F,U',?_,O,Z,g4,
  Y.loc λb hb=>(h3.mono λk G=>(J k).2 G).bU b (Y.lt b hb) λI=>Z b I hb⟩⟩
 .show(storeVar T ⟨b,i*og α+B,none⟩ (jj z)).run P w=_
  unfold storeVar
  rw[eI (fx (kK ht).2 w),qI]
  simp only[List.size_toArray,wU,ne_eq,not_true_eq_false,if_false]
  exact h1
 refine .inr ⟨b,cap,rest,by rw[sy];exact W,h2,?_,J⟩
 rw[lJ,dO]at V |-;rw[sy];exact V
theorem oO{T:Nat}{b o:Nat}{cs:List Value}(x:α){K:Value->Prop}(ht:cM P T=some (Ix α,og α))(hb:oR w b cs)(B:(cs.drop o).take (og α)=jl x)(k:K (jj x)) :
  GK P (vK T (.pointer (some ⟨b,o,none⟩))) w K:=by
 refine aE (S:=λ_=>True) ht ⟨b,o,rfl,trivial,λj c E=>hb.cell ?_⟩ k
 grind
end
structure SV where
 a:Option Addr
 n:Nat
 cap:Nat
abbrev bO:SV:=⟨none,0,0⟩
instance:Flat SV where
 agg:=false
 sz:=1
 enc s:=[.slice s.a s.n s.cap]
 val s:=.slice s.a s.n s.cap
 pos:=er
 len _:=rfl
 one a v h:=by rw[sU.1 h];rfl
 ot h:=by cases h
 oS _ _:=rfl
section
variable {P:Program}{α:Type}[Flat α] {A:Nat->Prop}{w0 w:World}{L L':List HP}{v:Value}
def rows:List SV->List (List α)->HP
 | [],[]=>emp
 | s::ss,x::xs=>sep (bG (jj s) x) (rows ss xs)
 | _,_=>fact False emp
theorem PB:∀{B:List SV}{xs:List (List α)}{F:Nat->Prop},(rows B xs).p w F->B.length=xs.length
 | [],[],_,_=>rfl
 | s::B,x::xs,F,h=>by
  obtain⟨E,G,_,h2,_,_⟩:=h
  rw[qb,qb,PB h2]
 | [],_::_,_,h=>h.1.elim
 | _::_,[],_,h=>h.1.elim
theorem Lc:∀{G:List SV}{xs:List (List α)}{E B F:Nat->Prop}{s:SV}{x:List α},(rows G xs).p w E->(bG (jj s) x).p w B->(∀b,E b->¬ B b)->(∀b,F b↔E b\/B b)->(rows (G++[s]) (xs++[x])).p w F
 | [],[],E,B,F,s,x,h1,h2,_,h4=>by
  refine⟨B,E,h2,h1,λb hb J=>h1 b J,λb=>?_⟩
  grind
 | s'::G,x'::xs,E,B,F,s,x,h1,h2,h3,h4=>by
  obtain⟨O,V,I,M,W,U⟩:=h1
  refine⟨O,λb=>V b\/B b,I,Lc M h2 (λb hb=>h3 b ((U b).2 (.inr hb))) (λb=>Iff.rfl),λb hb=>?_,λb=>?_⟩
  .grind
  grind
 | [],_::_,_,_,_,_,_,h,_,_,_=>h.1.elim
 | _::_,[],_,_,_,_,_,h,_,_,_=>h.1.elim
theorem St.CU{B:List SV}{xs:List (List α)}(E:St w0 A (rows B xs::L) w):B.length=xs.length:=by
 obtain⟨F,h,_⟩:=E.head;exact PB h
theorem St.agX(B:St w0 A L w):St w0 A (rows [] ([]:List (List α))::L) w:=
 B.new (Ext.refl w) (F:=bE) (λ_ h=>h) λ_ h=>h.elim
theorem St.HX{B:List SV}{xs:List (List α)}{s:SV}{x:List α}(E:St w0 A (rows B xs::bG (jj s) x::L) w):St w0 A (rows (B++[s]) (xs++[x])::L) w:=by
 have h:=St.join E
 refine h.qH λF G=>?_
 obtain⟨I,J,h1,h2,h3,h4⟩:=G
 exact⟨F,Lc h1 h2 h3 h4,λb hb=>.inl hb,gZ.refl _ _⟩
theorem St.fK{xs:List α}(B:St w0 A (bG v xs::L) w):∃s:SV,v=jj s:=by
 obtain⟨F,h,_⟩:=B.head
 rcases h with⟨rfl,_⟩|⟨b,cap,_,rfl,_⟩
 .exact⟨⟨none,0,0⟩,rfl⟩
 exact⟨⟨_,_,_⟩,rfl⟩
theorem dP.fK{S:Nat->Prop}{xs:List α}(h:dP S w v xs):∃s:SV,v=jj s:=by
 obtain⟨a,cap,rfl,_⟩:=h;exact⟨⟨_,_,_⟩,rfl⟩
def aAg(w:World)(v:Value)(xs:List (List α)):Prop:=
 ∃B:List SV,dP (λ_=>True) w v B/\B.length=xs.length/\∀(i:Nat) (s:SV) (x:List α),B[i]?=some s->xs[i]?=some x->dP (λ_=>True) w (jj s) x
end
section
variable {P:Program}
theorem oU{α:Type}[Flat α]{S:Nat->Prop}{w:World}{xs:List α}{T E G:Nat}{z:Option Nat}{v:Value}{i:Int}{K:Value->Prop}(ht:eQ P T=some (E,og α,G,z))(I:dP S w v xs)(J:0<=i)(h2:i<=xs.length)
  (k:∀B,(∀w',dP S w' v xs->dP S w' B (xs.take i.toNat))->K B):eK P (pA T v none (some (iE i)) none) K:=by
 obtain⟨a,cap,rfl,M,h3⟩:=I
 refine⟨_,zb ht (pa (.inl ⟨rfl,rfl⟩) (.inr ⟨i,rfl,J,rfl⟩) (ob _) cU),k _ λw' h=>?_⟩
 have:=h.cut rfl (ob i.toNat) cU
 grind
end
open Go.ChangeShapes Go.WideShapes Go.ChangeAt Go.RowKit
structure RdT(P:Program)(t:TypeId)(α:Type)[Flat α](φ:α->Prop):Prop where
 cells:P.cellsOf t=og α
 rd:∀{H:Type}(enc:TypeId×Value->H) (w:World) (base:Nat) (sp:Nat->Bool) (held:Bool) (fuel:Nat) (cs:List Value) (x:DataW H×List MemPlace),
  DataW.trod enc P w base sp held fuel t cs=some x->∃a:α,cs=jl a/\φ a
def mV(n:Int):Prop:=-9223372036854775808<=n/\n<=9223372036854775807
def amy{P:Program}{t:TypeId}(ht:P.underlying t=some (.int .i64))(hc:P.cellsOf t=1):RdT P t Int mV:=
 ⟨hc,λenc w base B held fuel cs x h=>by
  obtain⟨n,h1,_,h3⟩:=DataW.trod_int ht h
  refine⟨n,h1,?_⟩
  simpa[Lit.wf,IntKind.min,IntKind.max,IntKind.signed,IntKind.bits,mV]using h3⟩
def amz{P:Program}{t:TypeId}(ht:P.underlying t=some .string)(hc:P.cellsOf t=1):RdT P t ByteArray (λs=>s.size<=maxLen):=
 ⟨hc,λenc w base B held fuel cs x h=>by
  obtain⟨n,h1,_,h2⟩:=DataW.trod_string ht h
  exact⟨n,h1,h2⟩⟩
def ny{H:Type}{enc:TypeId×Value->H}{P:Program}{w:World}{base:Nat}{E:Nat->Bool}{held:Bool}{fuel:Nat}{t:TypeId}{B:Array Field}{cs:List Value}{x:DataW H×List MemPlace}
  (ht:P.underlying t=some (.struct B)) (h:DataW.trod enc P w base E held fuel t cs=some x) :
  cs.length=P.cellsOf t/\∃n,∀(i:Nat) (f:Field),B[i]?=some f->∃y,DataW.trod enc P w base E held n f.type ((cs.drop f.offset).take (P.cellsOf f.type))=some y:=by
 obtain⟨xs,n,_,_,J,M,I⟩:=DataW.trod_struct ht h
 refine⟨J,n,λi f hi=>?_⟩
 have G:i<xs.length:=by rw[M];exact(Array.getElem?_eq_some_iff.1 hi).1
 exact⟨xs[i],by rw[I i f hi,l0 G]⟩
def eA{cs:List Value}{o s:Nat}{r:List Value}(h:(cs.drop o).take s=r):cs.drop o=r++cs.drop (o+s):=by
 rw[<- h,<- uL,sf]
theorem agY{α:Type}{p:Nat->α->Prop}:∀n,(∀i,i<n->∃x,p i x)->∃xs:List α,xs.length=n/\∀i x,xs[i]?=some x->p i x:=by
 intro n
 induction n with
 | zero=>simp_all
 | succ n B=>
  intro h
  obtain⟨xs,h1,h2⟩:=B λi hi=>h i cU
  obtain⟨x,G⟩:=h n cU
  refine⟨xs++[x],by simp[h1],λi y E=>?_⟩
  grind
def Tc{α:Type}[Flat α]{xs:List α}{j:Nat}{c:Value}(h:(flat xs)[j]?=some c):∃i r x,xs[i]?=some x/\(jl x)[r]?=some c/\j=i*og α+r:=by
 have E:j<(flat xs).length:=(j0.1 h).1
 rw[dO]at E
 have G:0<og α:=X1
 have hi:j / og α<xs.length:=Nat.div_lt_of_lt_mul dH
 have B:j % og α<og α:=Nat.mod_lt _ G
 have J:j=j / og α*og α+j % og α:=by rw[Nat.mul_comm];exact(Nat.div_add_mod _ _).symm
 have I:xs[j / og α]?=some (xs[j / og α]):=l0 hi
 have hc:(jl (xs[j / og α]))[j % og α]?=some ((jl (xs[j / og α]))[j % og α]'(by rw[wU];exact B)):=l0 _
 have:=wm I hc
 grind
section
variable {H:Type}{enc:TypeId×Value->H}{P:Program}{w:World}{base:Nat}{held:Bool}
theorem open_i64{r:Reach}{b0:Nat}{t:TypeId}{v:Value}{d:DataW H}{ps:List MemPlace}{G:Nat->Bool}(ht:P.underlying t=some (.int .i64))(B:PV P w r b0 t v)(E:DataW.Trod enc P w base G held t v d ps) :
  ∃n,v=iE n/\mV n:=by
 obtain⟨n,h1,_,_,h4⟩:=open_int ht B E
 exact⟨n,h1,by simpa[Lit.wf,IntKind.min,IntKind.max,IntKind.signed,IntKind.bits,mV]using h4⟩
def MW(P:Program)(ts:List TypeId):Bool:=ts.all λt=>P.readableRec t&&decide (t<P.types.size)
theorem Bp(M:laidOutB P=true){W I:World}(hb:Below W.heap.size W I){J:Nat->Bool}:∀{ts:List TypeId}{vs:List Value}{G:List (DataW H)}{ps:List MemPlace},MW P ts=true->(∀x∈ps,x.block<W.heap.size)->
  (∀x∈ps,J x.block=true)->DataW.TrodAll enc P W 0 (λ_=>true) true ts vs G ps->DataW.TrodAll enc P I 0 J true ts vs G ps
 | [],vs,G,ps,_,_,_,h=>by obtain⟨rfl,rfl,rfl⟩:=trodAll_nil h;exact trodAll_mk0
 | t::ts,vs,G,ps,hr,l6,So,h=>by
  obtain⟨v,O,d,U,a,b,rfl,rfl,rfl,h1,h2⟩:=trodAll_cons h
  have E:P.readableRec t=true/\t<P.types.size/\MW P ts=true:=by
   grind[MW]
  refine trodAll_cons_mk (WideElems.Trod_stays M E.1 E.2.1 h1 (λx B=>hb.same (l6 x (List.mem_append_left _ B))) λx B=>So x (List.mem_append_left _ B)) ?_
  exact Bp M hb E.2.2 (λx B=>l6 x (List.mem_append_right _ B)) (λx B=>So x (List.mem_append_right _ B)) h2
theorem post_true{f:Func}{s:ChangeSpec}{apart fresh handsOn again:Bool}{W M:World}{args:Array Value}{E gs:List (DataW H)}{before:List MemPlace}{tb:TypeId}
  (Z:s.vars=[]) (hfn:∀E:List (DataW H),E.length=f.params.size->s.fn H E={results:=[.lit (.bool true)],args:=E}) (O:f.resultTypes = #[tb]) (Y:P.underlying tb=some .bool)
  (hl:laidOutB P=true) (amA:MW P f.params.toList=true)
  (hW:DataW.Whole enc P f.params.toList s.vars apart W args.toList E gs before) (hb:Below W.heap.size W M) :
  s.post enc P f apart fresh handsOn again W args (.bool true) M:=by
 have U:=hW
 obtain⟨p,q,hA,hV,hpq,hz,hn⟩:=hW
 have l6:∀x∈before,x.block<W.heap.size:=U.lt
 rw[Z]at hV
 obtain⟨rfl,rfl⟩:=trodVars_none hV
 simp only[rM]at hpq
 have hlen:E.length=f.params.size:=by
  have:=(trodAll_length hA).2
  omega
 have J:=hfn E hlen
 have aj4:∀(b:Nat) (G:Nat->Bool) (hd:Bool),DataW.TrodAll enc P M b G hd f.resultTypes.toList ((vO true).resultList f.resultTypes.size) (s.fn H (E++[])).results []:=λb G hd=>by
  rw[rM,J,O]
  exact trodAll_mk1 (shut_bool Y true)
 have B:∀G:Nat->Bool,(∀p∈before,G p.block=true)->DataW.TrodAll enc P M 0 G true f.params.toList args.toList (s.fn H (E++[])).args before:=λG So=>by
  rw[rM,J]
  rw[hpq]at l6 So |-
  exact Bp hl hb amA l6 So hA
 have aba:∀G:Nat->Bool,DataW.TrodVars enc P M G s.vars (s.fn H (E++[])).vars []:=λG=>by
  rw[rM,J,Z];rfl
 have kx:∀(j:Nat) (t:TypeId) (r:Value),f.resultTypes[j]?=some t->((vO true).resultList f.resultTypes.size)[j]?=some r->PV P M .any 0 t r:=
  ok_one O rfl (okWide_bool_mk Y true)
 have hold:∀p∈before,(λb=>decide (b<W.heap.size)) p.block=true:=λp hp=>dH
 refine⟨E,[],before,[],before,[],U,aj4 _ _ _,B _ hold,aba _,World.keptBut_mono (λp hp=>⟨hp,?_⟩) (hb.frame (·∈before)),λ_=>?_⟩
 .grind
 refine⟨kx,_,_,([]++before)++[],⟨[]++before,[],trodAll_append (B _ λ_ _=>rfl) (aj4 _ _ _),aba _,rfl,?_,?_⟩,?_⟩
 .intro b I hp
  have V:MemPlace.cell b I∈before:=dH
  rw[hb.frozen (p:=⟨b,I,none⟩) (l6 _ V)]
  exact hz b I V
 .grind
 grind
end
section
variable {P:Program}{α:Type}[Flat α]
def asu(P:Program)(T n E:Nat):Prop:=P.underlying T=some (.array n E)/\pr P (sizeOf E)=some 1
theorem pU{T E n b o:Nat}{i:Int}{K:Value->Prop}(h:asu P T n E)(B:0<=i)(h1:i<n)(k:K (.pointer (some ⟨b,o+i.toNat,none⟩))) :
  eK P (K0 T (.pointer (some ⟨b,o,none⟩)) (iE i)) K:=by
 refine⟨_,?_,k⟩
 unfold K0
 have e1:pr P (underlying T)=some (.array n E):=cJ h.1
 have G:pr P (Instr.sureAddr (.pointer (some (⟨b,o,none⟩:Addr))))=some ⟨b,o,none⟩:=rfl
 simp only[asIntOf,cH,e1,nY,fq,G]
 simp only[ez (show 0<=i/\i<(n:Int)from⟨B,h1⟩),cH,h.2,nY,fq,ix,Nat.mul_one]
end
def GY{α:Type}[Flat α]{P:Program}{w w0:World}{A:Nat->Prop}{L:List HP}{xs:List α}{T:Nat}{v p:Value}{i:Nat}{x:α}(M:St w0 A (bG v xs::L) w)(ht:cM P T=some (Ix α,og α))(G:KU α v i p)(E:xs[i]?=some x) :
  (vK T p).run P w=.ok (jj x) w:=by
 obtain⟨F,h,_⟩:=M.head
 obtain⟨b,cap,rest,I,hb,U,_⟩:=td h (j0.1 E).1
 obtain⟨O,n,c,B,rfl⟩:=G
 rw[I]at B
 simp only[yR.injEq,o5.injEq,Addr.mk.injEq]at B
 obtain⟨⟨rfl,_,_⟩,_,_⟩:=B
 refine fJ (S:=λ_=>True) ht ⟨b,i*og α,rfl,trivial,λj c J=>hb.cell ?_⟩
 have:=wm E J
 rw[s7 (j0.1 this).1];exact this
class Deep (α:Type) (σ:outParam Type) [Flat σ] where
 dr:World->σ->α->Prop
 ext:∀{w w':World}{s:σ}{x:α},dr w s x->Ext w w'->dr w' s x
def DL{α σ:Type}[Flat σ][Deep α σ](w:World)(v:Value)(xs:List α):Prop:=
 ∃ts:List σ,dP (λ_=>True) w v ts/\ts.length=xs.length/\∀(i:Nat) (t:σ) (x:α),ts[i]?=some t->xs[i]?=some x->Deep.dr w t x
section
variable {P:Program}{α σ:Type}[Flat σ] [Deep α σ] {w w' w0:World}{v:Value}{A:Nat->Prop}{L:List HP}
theorem DL.ext{xs:List α}(h:DL w v xs)(e:Ext w w'):DL w' v xs:=by
 obtain⟨ts,h1,h2,h3⟩:=h;exact⟨ts,h1.ext e,h2,λi t x a b=>Deep.ext (h3 i t x a b) e⟩
theorem DL.nil(w:World):DL w (.slice none 0 0) ([]:List α):=⟨[],dP.nil _ _,rfl,λi t x h=>by simp at h⟩
theorem DL.fK{xs:List α}(h:DL w v xs):∃s:SV,v=jj s:=by obtain⟨_,h,_⟩:=h;exact h.fK
theorem DL.one{xs:List α}(h:DL w v xs):sg v=true:=by obtain⟨_,h,_⟩:=h;exact h.one
instance:Deep (List α) SV where
 dr w s xs:=DL w (jj s) xs
 ext h e:=DL.ext h e
def ep(Φ:iD):HP where
 p w F:=(∀w':World,(∀b,F b->w'.heap[b]?=w.heap[b]?)->Φ w')/\∀b,F b->b<w.heap.size
 loc w w' F h hh:=⟨λB h2=>h.1 B λb hb=>(h2 b hb).trans (hh b hb),λb hb=>by
  grind⟩
 lt w F b h hb:=h.2 b hb
theorem ep.now{Φ:iD}{F:Nat->Prop}(h:(ep Φ).p w F):Φ w:=h.1 w λ_ _=>rfl
theorem St.ep{Φ:iD}(B:St w0 A (ep Φ::L) w):Φ w:=by obtain⟨F,h,_⟩:=B.head;exact ep.now h
theorem St.cS{Φ Ψ:iD}(G:St w0 A (Fw.ep Φ::L) w)(E:∀w,Φ w->Ψ w):St w0 A (Fw.ep Ψ::L) w:=
 G.qH λF B=>⟨F,⟨λw' h=>E _ (B.1 w' h),B.2⟩,λb hb=>.inl hb,gZ.refl _ _⟩
theorem St.fu{Φ Ψ:iD}(G:St w0 A (Fw.ep Φ::Fw.ep Ψ::L) w):St w0 A (Fw.ep (λw=>Φ w/\Ψ w)::L) w:=by
 have h:=St.join G
 refine h.qH λF E=>?_
 obtain⟨I,J,h1,h2,h3,h4⟩:=E
 refine⟨F,⟨λw' B=>⟨h1.1 w' λb hb=>B b ((h4 b).2 (.inl hb)),h2.1 w' λb hb=>B b ((h4 b).2 (.inr hb))⟩,λb hb=>?_⟩,λb hb=>.inl hb,gZ.refl _ _⟩
 rcases(h4 b).1 hb with hb|hb
 .exact h1.2 b hb
 exact h2.2 b hb
theorem St.fw{Φ:iD}(B:St w0 A L w)(h:∀w,Φ w):St w0 A (Fw.ep Φ::L) w:=
 B.new (Ext.refl w) (F:=bE) ⟨λw' _=>h w',λb hb=>hb.elim⟩ λ_ h=>h.elim
theorem St.freeze{xs:List σ}(E:St w0 A (bG v xs::L) w):St w0 A (Fw.ep (λw=>dP (λ_=>True) w v xs)::L) w:=
 E.qH λF B=>⟨F,⟨λw' h=>(bG.rd ((bG v xs).loc _ _ _ B h)).mono λ_ _=>trivial,λb hb=>(bG v xs).lt _ _ _ B hb⟩,λb hb=>.inl hb,gZ.refl _ _⟩
theorem St.pj{b:Nat}{cs:List Value}(G:St w0 A (bU b cs::L) w):St w0 A (Fw.ep (λw=>oR w b cs)::L) w:=
 G.qH λF B=>⟨F,⟨λw' h=>((bU b cs).loc _ _ _ B h).1,λk E=>(bU b cs).lt _ _ _ B E⟩,λb hb=>.inl hb,gZ.refl _ _⟩
def jx(ts:List σ)(xs:List α)(w:World):Prop:=ts.length=xs.length/\∀(i:Nat) (t:σ) (x:α),ts[i]?=some t->xs[i]?=some x->Deep.dr w t x
theorem jx.nil:jx ([]:List σ) ([]:List α) w:=⟨rfl,λi t x h=>by simp at h⟩
theorem jx.snoc{ts:List σ}{xs:List α}{t:σ}{x:α}(h:jx ts xs w)(ht:Deep.dr w t x):jx (ts++[t]) (xs++[x]) w:=by
 grind[jx]
theorem jx.append{ts us:List σ}{xs ys:List α}(h:jx ts xs w)(g:jx us ys w):jx (ts++us) (xs++ys) w:=by
 grind[jx]
theorem jx.ext{ts:List σ}{xs:List α}(h:jx ts xs w)(e:Ext w w'):jx ts xs w':=⟨h.1,λi t x a b=>Deep.ext (h.2 i t x a b) e⟩
theorem DL.of{ts:List σ}{xs:List α}(h:dP (λ_=>True) w v ts)(g:jx ts xs w):DL w v xs:=⟨ts,h,g.1,g.2⟩
theorem DL.open{xs:List α}(h:DL w v xs):∃ts:List σ,dP (λ_=>True) w v ts/\jx ts xs w:=by obtain⟨ts,h1,h2,h3⟩:=h;exact⟨ts,h1,h2,h3⟩
theorem jx.take{ts:List σ}{xs:List α}(h:jx ts xs w)(k:Nat):jx (ts.take k) (xs.take k) w:=by
 grind[jx]
theorem jx.drop{ts:List σ}{xs:List α}(h:jx ts xs w)(k:Nat):jx (ts.drop k) (xs.drop k) w:=by
 grind[jx]
end
section
variable {α:Type}[Flat α]
abbrev j8:Deep α α:=⟨λ_ s x=>s=x,λh _=>h⟩
theorem Ld[D:Deep α α](B:∀w s x,D.dr w s x↔s=x){w:World}{ts xs:List α}:jx ts xs w↔ts=xs:=by
 constructor
 .rintro⟨h1,h2⟩
  refine List.ext_getElem? λi=>?_
  grind
 grind[jx]
end
instance:Deep Int Int:=j8
instance:Deep Bool Bool:=j8
instance:Deep ByteArray ByteArray:=j8
structure RdW(P:Program)(w:World)(t:TypeId)(α:Type)[Flat α](φ:α->Prop):Prop where
 cells:P.cellsOf t=og α
 rd:∀{H:Type}(enc:TypeId×Value->H) (base:Nat) (held:Bool) (fuel:Nat) (cs:List Value) (x:DataW H×List MemPlace),
  DataW.trod enc P w base (λ_=>true) held fuel t cs=some x->∃a:α,cs=jl a/\φ a
def Bq(P:Program)(t:TypeId)(α:Type){σ:Type}[Flat σ][Deep α σ](φ:α->Prop):Prop:=∀w,RdW P w t σ (λs=>∃a:α,Deep.dr w s a/\φ a)
def RdT.deep{P:Program}{t:TypeId}{α:Type}[Flat α][D:Deep α α]{φ:α->Prop}(h:RdT P t α φ)(B:∀w (x:α),D.dr w x x):Bq P t α φ:=
 λw=>⟨h.cells,λenc base held fuel cs x E=>by
  obtain⟨a,h1,h2⟩:=h.rd enc w base _ held fuel cs x E;exact⟨a,h1,a,B w a,h2⟩⟩
section
variable {H:Type}{enc:TypeId×Value->H}{P:Program}{w:World}{base:Nat}{held:Bool}
theorem PC{α:Type}[Flat α]{φ:α->Prop}{t e:TypeId}{fuel:Nat}{cs:List Value}{x:DataW H×List MemPlace}(ht:P.underlying t=some (.slice e))(M:RdW P w e α φ)
  (h:DataW.trod enc P w base (λ_=>true) held fuel t cs=some x):∃v,cs=[v]/\∃xs:List α,dP (λb=>b<w.heap.size) w v xs/\∀x∈xs,φ x:=by
 rcases DataW.trod_slice ht h with⟨rfl,_⟩|⟨a,len,cap,elems,rest,n,_,rfl,_,hb,hl,hm,hlen,Y,Z,_⟩
 .exact⟨_,rfl,[],dP.nil _ _,et⟩
 refine⟨_,rfl,?_⟩
 have get:∀i,i<len->∃x:α,φ x/\w.cells? base (a.add (i*P.cellsOf e)) (P.cellsOf e)=some (jl x):=by
  intro i hi
  have h1:=Y i hi
  rw[l0 cU]at h1
  obtain⟨cs',h2,h3⟩:=Py.1 h1
  obtain⟨x,rfl,G⟩:=M.rd enc base held n cs' _ h3
  grind
 obtain⟨xs,W,I⟩:=agY len get
 have V:=M.cells
 have U:0<og α:=X1
 have first:∀(c:Nat) (cs':List Value),w.cells? base (a.add (c*P.cellsOf e)) (P.cellsOf e)=some cs'->c=0->a.spot=none:=by
  intro c cs' h1 E
  subst E
  have:=Yz h1
  have h2:=this.2.2 0 cU
  rw[Nat.zero_mul]at h2
  have h3:w.cell? a=cs'[0]?:=by simpa[Addr.add]using h2
  rw[l0 cU]at h3
  unfold Qx at h3
  split at h3
  .simp_all
  .cases h3
 refine⟨xs,⟨some a,cap,by rw[W],cU,?_⟩,λx G=>?_⟩
 .by_cases A5:cap=0
  .simp_all
  right
  have B:a.spot=none:=by
   by_cases E:0<len
   .grind
   .obtain⟨h1,h2⟩:=Z rfl
    have h3:=h2 0 cU
    rw[l0 cU]at h3
    obtain⟨cs',h4,_⟩:=Py.1 h3
    grind
  have J:∀j c,(flat xs)[j]?=some c->Cell w a.block (a.off+j) c:=by
   intro j c hj
   obtain⟨i,r,x,G,O,rfl⟩:=Tc hj
   have h1:=(Yz (I i x G).2).2.2 r (by rw[V];have:=(j0.1 O).1;rwa [wU]at this)
   rw[O,V]at h1
   obtain⟨b,o,s⟩:=a
   simp only at B
   subst B
   unfold Cell
   rw[<- h1,ix,ix,NI]
  refine⟨a.block,a.off,by obtain⟨b,o,s⟩:=a;grind,λAy=>?_,J⟩
  obtain⟨y,ys,rfl⟩:=List.exists_cons_of_ne_nil Ay
  have E:(flat (y::ys))[0]?=some ((jl y)[0]'(by rw[wU];exact U)):=by
   rw[j7,s7 (by rw[wU];exact U),l0]
  exact(J 0 _ E).lt
 obtain⟨i,hi⟩:=List.getElem?_of_mem G
 grind
theorem Td{α σ:Type}[Flat σ][Deep α σ]{φ:α->Prop}:∀(ts:List σ),(∀s∈ts,∃a:α,Deep.dr w s a/\φ a)->∃xs:List α,jx ts xs w/\∀x∈xs,φ x
 | [],_=>⟨[],jx.nil,et⟩
 | t::ts,h=>by
  obtain⟨a,h1,h2⟩:=h t et
  obtain⟨xs,h3,h4⟩:=Td ts λs B=>h s (List.mem_cons_of_mem _ B)
  refine⟨a::xs,?_,λx E=>?_⟩
  .grind[jx]
  grind
theorem Bq.slice{α σ:Type}[Flat σ][Deep α σ]{φ:α->Prop}{t e:TypeId}(ht:P.underlying t=some (.slice e))(hc:P.cellsOf t=1)(E:Bq P e α φ):Bq P t (List α) (λxs=>∀x∈xs,φ x):=
 λw=>⟨hc,λenc base held fuel cs x G=>by
  obtain⟨v,rfl,ts,h1,h2⟩:=PC ht (E w) G
  obtain⟨xs,h3,h4⟩:=Td ts h2
  have B:dP (λ_=>True) w v ts:=h1.mono λ_ _=>trivial
  obtain⟨s,rfl⟩:=B.fK
  exact⟨s,rfl,xs,DL.of B h3,h4⟩⟩
theorem open_dl{α σ:Type}[Flat σ][Deep α σ]{φ:α->Prop}{t e:TypeId}{r:Reach}{b0:Nat}{v:Value}{d:DataW H}{ps:List MemPlace}(ht:P.underlying t=some (.slice e))(G:Bq P e α φ)
  (B:PV P w r b0 t v) (E:DataW.Trod enc P w base (λ_=>true) held t v d ps):∃xs:List α,DL w v xs/\∀x∈xs,φ x:=by
 obtain⟨fuel,I⟩:=E
 obtain⟨u,M,ts,h1,h2⟩:=PC ht (G w) I
 have J:v=u:=by
  have h1:=B
  unfold PV at h1
  rw[ht]at h1
  cases v with
  | slice a n c=>exact(aaL.inj (show [yR a n c]=[u]from M)).1
  | _=>
   have h2:Cell.okWide P w r b0 t _:=h1
   unfold Cell.okWide at h2
   rw[ht]at h2
   simp only[Cell.ok,ht]at h2
 subst J
 obtain⟨xs,h3,h4⟩:=Td ts h2
 exact⟨xs,DL.of (h1.mono λ_ _=>trivial) h3,h4⟩
theorem open_dst{α σ:Type}[Flat σ][Deep α σ]{φ:α->Prop}{t:TypeId}{G:Array Field}{r:Reach}{b0:Nat}{v:Value}{d:DataW H}{ps:List MemPlace}(ht:P.underlying t=some (.struct G))(E:Ix σ=true)
  (J:Bq P t α φ) (B:PV P w r b0 t v) (I:DataW.Trod enc P w base (λ_=>true) held t v d ps):∃(s:σ) (x:α),v=jj s/\Deep.dr w s x/\φ x:=by
 obtain⟨fuel,M⟩:=I
 obtain⟨s,O,x,h1,h2⟩:=(J w).rd enc base held fuel _ _ M
 unfold PV at B
 rw[ht]at B
 obtain⟨cs,rfl,_⟩:=B
 refine⟨s,x,?_,h1,h2⟩
 rw[acD E,<- O]
 simp[Value.cells]
end
def sd(x:Int):Int:=IntKind.i64.wrap x
theorem HZ{x:Int}(h : -9223372036854775808<=x/\x<=9223372036854775807):sd x=x:=IntWalk.i64_in _ h
section
variable {P:Program}{T:Nat}{cx cy:Bool}{a b:Int}{K:Value->Prop}
theorem zD(k:K (iE (sd (a+b)))):eK P (ku .add T cx cy (iE a) (iE b)) K:=⟨_,rfl,k⟩
theorem H0(k:K (iE (sd (a-b)))):eK P (ku .sub T cx cy (iE a) (iE b)) K:=⟨_,rfl,k⟩
theorem H6(k:K (iE (sd (a*b)))):eK P (ku .mul T cx cy (iE a) (iE b)) K:=⟨_,rfl,k⟩
theorem abb(k:K (iE (sd (0-a)))):eK P (Op.unary .neg (iE a)) K:=⟨_,rfl,k⟩
theorem abc(h:b≠0)(k:K (iE (sd (a.tdiv b)))):eK P (ku .quo T cx cy (iE a) (iE b)) K:=by
 refine⟨_,?_,k⟩
 show pr P (Op.intDiv .quo .i64 a b)=_
 unfold Op.intDiv
 rw[ew h];rfl
theorem abd(h:b≠0)(k:K (iE (a.tmod b))):eK P (ku .rem T cx cy (iE a) (iE b)) K:=by
 refine⟨_,?_,k⟩
 show pr P (Op.intDiv .rem .i64 a b)=_
 unfold Op.intDiv
 rw[ew h];rfl
end
def H7{α:Type}[Flat α]{P:Program}{w w0:World}{A:Nat->Prop}{L:List HP}{xs:List α}{T E U:Nat}{z:Option Nat}{v:Value}{i:Int}{K:Value->Prop}(ht:eQ P T=some (E,og α,U,z))
  (O:St w0 A (bG v xs::L) w) (V:0<=i) (h1:i<=xs.length) (k:∀J,St w0 A (bG J (xs.take i.toNat)::L) w->K J):eK P (pA T v none (some (iE i)) none) K:=by
 obtain⟨a,cap,B,Gq,_⟩:=O.fc
 refine⟨_,(by rw[B];exact zb ht (pa (.inl ⟨rfl,rfl⟩) (.inr ⟨i,rfl,V,rfl⟩) (ob _) cU)),k _ ?_⟩
 refine O.qH λF G=>?_
 rcases G with⟨I,hx,W⟩|⟨b,Z,rest,EA,hb,M,G⟩
 .rw[I]at B
  subst hx
  simp only[yR.injEq]at B
  obtain⟨rfl,_,rfl⟩:=B
  have hi:i.toNat=0:=by simp at h1;omega
  refine⟨F,.inl ⟨?_,et,W⟩,λb hb=>.inl hb,gZ.refl _ _⟩
  rw[hi];rfl
 rw[EA]at B
 simp only[yR.injEq]at B
 obtain⟨rfl,_,rfl⟩:=B
 refine⟨F,.inr ⟨b,Z,flat (xs.drop i.toNat)++rest,?_,?_,?_,G⟩,λb hb=>.inl hb,gZ.refl _ _⟩
 .have Y:(xs.take i.toNat).length=i.toNat:=by rw[n0];omega
  rw[Y]
  simp[ix]
 .rw[<- o1,<- iP,sf];exact hb
 exact⟨xL (by rw[n0];omega) M.1,by rw[<- o1,<- iP,sf];exact M.2⟩
section
variable {P:Program}{w w':World}{v:Value}
theorem DL.flat{α:Type}[Flat α][D:Deep α α]{xs:List α}(h:DL w v xs)(B:∀w s x,D.dr w s x↔s=x:=by intros;exact Iff.rfl):dP (λ_=>True) w v xs:=by
 obtain⟨ts,h1,h2⟩:=h.open
 rw[(Ld B).1 h2]at h1;exact h1
theorem DL.fP{α:Type}[Flat α][D:Deep α α]{xs:List α}(h:dP (λ_=>True) w v xs)(B:∀w s x,D.dr w s x↔s=x:=by intros;exact Iff.rfl):DL w v xs:=DL.of h ((Ld B).2 rfl)
theorem abe{α:Type}[Flat α]{S:Nat->Prop}{xs:List α}{T E I:Nat}{z:Option Nat}{lo hi:Option Value}{l h:Nat}{K:Value->Prop}(ht:eQ P T=some (E,og α,I,z))(J:dP S w v xs)
  (M:lo=none/\l=0\/∃i:Int,lo=some (iE i)/\0<=i/\l=i.toNat) (G:hi=none/\h=xs.length\/∃i:Int,hi=some (iE i)/\0<=i/\h=i.toNat)
  (h1:l<=h) (h2:h<=xs.length) (k:∀B,(∀w',dP S w' v xs->dP S w' B ((xs.take h).drop l))->K B):eK P (pA T v lo hi none) K:=by
 obtain⟨a,cap,rfl,U,h3⟩:=J
 exact⟨_,zb ht (pa M G h1 cU),k _ λw' O=>O.cut rfl h1 h2⟩
theorem qL{α:Type}[Flat α]{S:Nat->Prop}{xs:List α}{T E J:Nat}{z:Option Nat}{i j:Int}{K:Value->Prop}(ht:eQ P T=some (E,og α,J,z))(I:dP S w v xs)
  (G:0<=i) (h1:i<=j) (h2:j<=xs.length) (k:∀B,(∀w',dP S w' v xs->dP S w' B ((xs.take j.toNat).drop i.toNat))->K B):eK P (pA T v (some (iE i)) (some (iE j)) none) K:=
 abe ht I (.inr ⟨i,rfl,G,rfl⟩) (.inr ⟨j,rfl,cU,rfl⟩) cU cU k
theorem DL.cut{α σ:Type}[Flat σ][Deep α σ]{xs:List α}{ts:List σ}{B:Value}{l h:Nat}(G:∀w',dP (λ_=>True) w' v ts->dP (λ_=>True) w' B ((ts.take h).drop l))(E:dP (λ_=>True) w v ts)(I:jx ts xs w):DL w B ((xs.take h).drop l):=
 DL.of (G w E) ((I.take h).drop l)
theorem H8{a b:ByteArray}:(a.toList == b.toList)=decide (a=b):=by
 rw[ByteArray.toList_eq,ByteArray.toList_eq,Bool.eq_iff_iff,beq_iff_eq,decide_eq_true_eq]
 constructor
 .intro h
  obtain⟨a⟩:=a
  simp_all
 grind
theorem kJ{T:Nat}{cx cy:Bool}{a b:ByteArray}{K:Value->Prop}(k:K (.bool (decide (a=b)))):eK P (ku .eql T cx cy (.string a) (.string b)) K:=by
 rw[<- H8]at k
 exact⟨_,rfl,k⟩
theorem EJ{T:Nat}{cx cy:Bool}{a b:ByteArray}{K:Value->Prop}(k:K (.bool (decide (¬ a=b)))):eK P (ku .neq T cx cy (.string a) (.string b)) K:=by
 refine⟨_,rfl,?_⟩
 have:(!(a.toList == b.toList))=decide (¬ a=b):=by rw[H8];grind
 grind
end
def jn(s:ByteArray):List UInt8:=s.data.toList
theorem eu(s:ByteArray):(jn s).length=s.size:=by simp_all[jn]
theorem VU(s:ByteArray)(i:Nat):(jn s)[i]?=if h:i<s.size then some (s[i]'h)else none:=by
 unfold jn
 by_cases h:i<s.size
 .rw[dif_pos h,Array.getElem?_toList]
  exact Array.getElem?_eq_getElem h
 simp_all
section
variable {P:Program}{T R:Nat}{cx cy:Bool}{a b:Int}{K:Value->Prop}
theorem fG{s:ByteArray}(B:P.underlying T=some .string)(k:K (iE (s.size:Int))):eK P (Builtin.len_ #[T] R [Ic s].toArray) K:=by
 refine⟨_,?_,k⟩
 show pr P (do
  match <- underlying T,Ic s with
  | .string,.string s=>pure (goInt s.size)
  | .array n _,_=>pure (goInt n)
  | .pointer arr,_=>
   let .array n _ <- underlying arr|stuck "len: pointer to array expected"
   pure (goInt n)
  | .slice _,.slice _ n _=>pure (goInt n)
  | .map _ _,.map none|.chan _ _,.chan none=>pure (goInt 0)
  | .map _ _,.map (some r)=>
   let .map entries _ <- getObj r|stuck "len: map expected"
   pure (goInt entries.size)
  | .chan _ _,.chan (some r)=>
   let .chan _ buf _ _ _ timer <- getObj r|stuck "len: channel expected"
   pure (goInt (if timer then 0 else buf.size))
  | _, _ => stuck "len: string, array, pointer to array, slice, map or channel expected")=_
 rw[cH,cJ B];rfl
theorem kU{s:ByteArray}{i:Int}{e:UInt8}(E:P.underlying T=some .string)(G:0<=i)(B:(jn s)[i.toNat]?=some e)(k:K (.int .u8 (e.toNat:Int))):eK P (uG T (.string s) (iE i)) K:=by
 refine⟨_,?_,k⟩
 rw[VU]at B
 have hi:i.toNat<s.size:=by
  grind
 rw[dif_pos hi]at B
 have h3:(if 0<=i then s[i.toNat]? else none)=some e:=dH
 unfold uG
 simp only[asIntOf,cH,cJ E,nY,fq,h3]
theorem oV{s:ByteArray}{i:Int}(B:P.underlying T=some .string)(E:0<=i)(h1:i<=s.size)(k:K (.string (s.extract 0 i.toNat))):eK P (pA T (.string s) none (some (iE i)) none) K:=by
 refine⟨_,?_,k⟩
 unfold pA
 rw[cH,cJ B]
 simp only[nY]
 unfold QB
 rw[cH,cJ B]
 simp only[nY]
 rw[ew er]
 have hb:pr P (u1 false s.size s.size none (some (iE i)) none)=some (0,i.toNat,s.size):=by
  simp only[u1,cH,fq,nY]
  rw[jG E h1];rfl
 rw[cH,hb];rfl
theorem PH{s:ByteArray}{i j:Int}(B:P.underlying T=some .string)(E:0<=i)(G:i<=j)(h1:j<=s.size)(k:K (.string (s.extract i.toNat j.toNat))):eK P (pA T (.string s) (some (iE i)) (some (iE j)) none) K:=by
 refine⟨_,?_,k⟩
 unfold pA
 rw[cH,cJ B]
 simp only[nY]
 unfold QB
 rw[cH,cJ B]
 simp only[nY]
 rw[ew er]
 have hb:pr P (u1 false s.size s.size (some (iE i)) (some (iE j)) none)=some (i.toNat,j.toNat,s.size):=by
  simp only[u1,cH,fq,nY]
  rw[jG cU h1];simp only[nY];rw[jG E cU];rfl
 rw[cH,hb];rfl
theorem CV(k:K (.bool (decide (a<=b)))):eK P (ku .leq T cx cy (.int .u8 a) (.int .u8 b)) K:=⟨_,rfl,k⟩
theorem CW(k:K (.bool (decide (b<=a)))):eK P (ku .geq T cx cy (.int .u8 a) (.int .u8 b)) K:=⟨_,rfl,k⟩
theorem oE(k:K (.bool (decide (a=b)))):eK P (ku .eql T cx cy (.int .u8 a) (.int .u8 b)) K:=⟨_,rfl,k⟩
theorem abf(k:K (.bool (decide (a≠b)))):eK P (ku .neq T cx cy (.int .u8 a) (.int .u8 b)) K:=
 ⟨_,(show pr P (ku .neq T cx cy (.int .u8 a) (.int .u8 b))=some (.bool (decide (a≠b)))from by
  show some (vO (a != b))=_
  grind),k⟩
theorem abg{t:Array TypeId}{R:TypeId}{c:Int}(k:K (iE (max (max a b) c))):eK P (Builtin.max_ t R [iE a,iE b,iE c].toArray) K:=by
 refine⟨_,?_,k⟩
 show pr P (do Builtin.max2 (<- Builtin.max2 (iE a) (iE b)) (iE c))=_
 have h:∀x y:Int,pr P (Builtin.max2 (iE x) (iE y))=some (iE (max x y)):=by
  intro x y
  unfold Builtin.max2
  by_cases h:x<y
  .simp[h,fq];omega
  .simp[h,fq];omega
 rw[cH,h]
 exact h _ _
end
def fe{α σ:Type}[Flat σ][Deep α σ](v:Value)(xs:List α):HP:=ph λts:List σ=>sep (bG v ts) (ep (jx ts xs))
section
variable {P:Program}{α σ:Type}[Flat σ] [D:Deep α σ] {w w' w0:World}{v src:Value}{A:Nat->Prop}{L:List HP}{xs ys:List α}
theorem St.wI(B:St w0 A (fe v xs::L) w):∃ts:List σ,St w0 A (bG v ts::Fw.ep (jx ts xs)::L) w:=by
 obtain⟨ts,h⟩:=B.dU;exact⟨ts,h.split⟩
theorem St.zE{ts:List σ}(B:St w0 A (bG v ts::Fw.ep (jx ts xs)::L) w):St w0 A (fe v xs::L) w:=
 St.dX (H:=λts:List σ=>sep (bG v ts) (Fw.ep (jx ts xs))) ts (St.join B)
theorem St.MX{ts:List σ}(B:St w0 A (bG v ts::Fw.ep (jx ts xs)::L) w):ts.length=xs.length:=B.p1.ep.1
theorem St.xK(B:St w0 A L w):St w0 A (fe (.slice none 0 0) ([]:List α)::L) w:=
 St.zE (ts:=[]) ((B.fw λ_=>jx.nil).eU)
theorem St.aAi(B:St w0 A (bG v ([]:List σ)::L) w):St w0 A (fe v ([]:List α)::L) w:=
 St.zE (ts:=[]) (B.fw (Φ:=jx ([]:List σ) ([]:List α)) λ_=>jx.nil).p1
theorem St.aAj{s:σ}{x:α}(B:St w0 A (bG v [s]::Fw.ep (λw=>Deep.dr w s x)::L) w):St w0 A (fe v [x]::L) w:=by
 refine St.zE (ts:=[s]) ?_
 refine(B.p1.cS (Ψ:=jx [s] [x]) λw h=>?_).p1
 exact(jx.nil (w:=w)).snoc h
theorem St.aAk{ts us:List σ}(B:St w0 A (bG v (ts++us)::Fw.ep (jx ts xs)::Fw.ep (jx us ys)::L) w):St w0 A (fe v (xs++ys)::L) w:=by
 have h1:=(B.p1:St w0 A (Fw.ep (jx ts xs)::bG v (ts++us)::Fw.ep (jx us ys)::L) w)
 have h2:=h1.p2.p1
 refine St.zE (ts:=ts++us) ?_
 exact(h2.fu.cS (Ψ:=jx (ts++us) (xs++ys)) λw h=>h.1.append h.2).p1
theorem St.kV(B:St w0 A (fe v xs::L) w):St w0 A (Fw.ep (λw=>DL w v xs)::L) w:=by
 obtain⟨ts,h⟩:=B.wI
 exact h.freeze.fu.cS λw h=>DL.of h.1 h.2
theorem St.dl(B:St w0 A (fe v xs::L) w):DL w v xs:=B.kV.ep
theorem St.mW(B:St w0 A (fe v xs::L) w):∃s:SV,v=jj s:=B.dl.fK
theorem St.enc{b:Nat}{cs cs':List Value}(B:St w0 A (bU b cs::L) w)(h:cs=cs'):St w0 A (bU b cs'::L) w:=h▸B
theorem zF{T E B:Nat}{K:Value->iD}(G:St w0 A L w)(ht:SlT P T E (og σ) B)(k:∀v w',St w0 A (fe v ([]:List α)::L) w'->K v w'):se P (L2 T 0 ([]:List (Nat×Value)).toArray) w K:=
 bV ([]:List σ) G ht rfl rfl et λv w' h=>k v w' h.aAi
theorem fH{T E B:Nat}{s:σ}{x:α}{K:Value->iD}(G:St w0 A (Fw.ep (λw=>Deep.dr w s x)::L) w)(ht:SlT P T E (og σ) B)(I:og σ<=64)(k:∀v w',St w0 A (fe v [x]::L) w'->K v w') :
  se P (L2 T 1 [(0,jj s)].toArray) w K:=
 bV [s] G ht rfl rfl (by simp;omega) λv w' h=>k v w' h.aAj
theorem fI{T E I R:Nat}{K:Value->iD}(J:St w0 A (fe v xs::fe src ys::L) w)(ht:SlT P T E (og σ) I)
  (M:xs.length+ys.length<=1073741824) (G:I<=8192) (k:∀B w',St w0 A (fe B (xs++ys)::L) w'->K B w'):se P (Builtin.append_ #[T,T] R [v,src].toArray) w K:=by
 obtain⟨us,h1⟩:=J.p1.wI
 obtain⟨ts,h2⟩:=h1.p2.wI
 have e1:=h1.MX
 have O:=h2.MX
 refine cK h2 ht h2.p2.fc cU G λB w' h=>k B w' ?_
 exact h.p2.drop.aAk
theorem GZ{β:Type}[Flat β]{T:Nat}{b o:Nat}{cs:List Value}(x:β)(ht:cM P T=some (Ix β,og β))(hb:oR w b cs)(B:(cs.drop o).take (og β)=jl x) :
  (vK T (.pointer (some ⟨b,o,none⟩))).run P w=.ok (jj x) w:=by
 refine fJ (S:=λ_=>True) ht ⟨b,o,rfl,trivial,λj c E=>hb.cell ?_⟩
 grind
end
instance:Flat UInt8 where
 agg:=false
 sz:=1
 enc b:=[.int .u8 b.toNat]
 val b:=.int .u8 b.toNat
 pos:=er
 len _:=rfl
 one a v h:=by rw[sU.1 h];rfl
 ot h:=by cases h
 oS _ _:=rfl
instance:Deep UInt8 UInt8:=j8
theorem agZ(l:List UInt8):flat l=l.map λb=>n5 .u8 b.toNat:=by
 induction l with
 | nil=>rfl
 | cons x l B=>rw[j7,B];rfl
def jc{P:Program}{w w0:World}{A:Nat->Prop}{L:List HP}{src B e:TypeId}{s:ByteArray}{u:TypeDesc}{K:Value->iD}(V:St w0 A L w)(h1:P.underlying src=some u)(h2:P.underlying B=some (.slice e))(h3:P.underlying e=some (.int .u8))
  (k:∀v w',St w0 A (Fw.ep (λw=>dP (λ_=>True) w v (jn s))::L) w'->K v w'):se P (convert src B (.string s)) w K:=by
 refine⟨_,_,Go.Lib.run_convert_string_bytes w src B e s h1 h2 h3,k _ _ ?_⟩
 have W:Ext w (Go.Lib.bytesWorld w e s):=by
  refine⟨?_,?_,?_,by rw[Go.Lib.bytesWorld_size];omega,λb hb _=>Go.Lib.bytesWorld_at_old w e s b hb⟩
  all_goals simp[Go.Lib.bytesWorld,World.freeze,World.alloc,World.drew,-World.alloc_eq,-World.drew_eq]
 refine V.new W (F:=λb=>b=w.heap.size) ⟨λw' O=>?_,λb hb=>by rw[hb,Go.Lib.bytesWorld_size];omega⟩ λb hb=>by rw[hb];exact qQ _
 have G:(jn s).length=s.size:=eu s
 refine⟨some ⟨w.heap.size,0,none⟩,grownCap w s.size 0 e,by rw[G],by rw[G];exact grownCap_ge w s.size 0 e,.inr ⟨w.heap.size,0,rfl,λ_=>trivial,λj c I=>?_⟩⟩
 rw[agZ,List.getElem?_map]at I
 obtain⟨b,hb,rfl⟩:=Option.map_eq_some_iff.1 I
 have J:j<s.size:=by rw[<- G];exact(j0.1 hb).1
 have M:=O w.heap.size rfl
 have E:=Go.Lib.bytesWorld_cell w e s j J
 have U:s.data.toList.getD j 0=b:=by
  rw[List.getD_eq_getElem?_getD]
  have:s.data.toList[j]?=some b:=hb
  rw[this];rfl
 rw[U]at E
 unfold Cell
 rw[uf]
 unfold Qx at E |-
 dsimp only at E |-
 rw[M];exact E
def lr{α σ:Type}[Flat σ][Deep α σ](P:Program)(w:World)(f:Value)(φ:α->Prop)(g:α->Bool):Prop:=∃E first cap,f=.func (.func E) (P0 first) (P0 cap)/\Plain P E/\
 ∀(s:σ) (x:α) B,Ext w B->Deep.dr B s x->φ x->Calls P E (first++[jj s]++cap).toArray B (rZ λv G=>v=.bool (g x)/\Ext B G)
theorem lr.ext{α σ:Type}[Flat σ][Deep α σ]{P:Program}{w w':World}{f:Value}{φ:α->Prop}{g:α->Bool}(h:lr P w f φ g)(e:Ext w w'):lr P w' f φ g:=by
 obtain⟨E,first,cap,h1,h2,h3⟩:=h;exact⟨E,first,cap,h1,h2,λs x B e1=>h3 s x B (e.trans e1)⟩
def wJ{α:Type}[Flat α]{P:Program}{S:Nat->Prop}{w:World}{T E:TypeId}{cx cy:Bool}{v:Value}{xs:List α}{K:Value->Prop}(h:P.underlying T=some (.slice E))(G:dP S w v xs)(k:∀p:Bool,(p=true->xs=[])->K (.bool p)) :
  eK P (ku .eql T cx cy v (.slice none 0 0)) K:=by
 obtain⟨a,cap,rfl,_,h3⟩:=G
 have B:pr P (Op.equal T (.slice a xs.length cap) (.slice none 0 0))=some a.isNone:=by
  show pr P (Op.equalIn 10000 T (.slice a xs.length cap) (.slice none 0 0))=_
  unfold Op.equalIn
  rw[cH,cJ h]
  cases a<;>rfl
 refine⟨_,?_,k a.isNone λI=>?_⟩
 .show pr P (do pure (vO (<- Op.equal T (.slice a xs.length cap) (.slice none 0 0))))=_
  rw[xG,B];rfl
 grind
def St.asv{α:Type}[Flat α]{w w0:World}{A:Nat->Prop}{L:List HP}{v:Value}{xs ys:List α}(B:St w0 A (bG v xs::L) w)(h:xs=ys):St w0 A (bG v ys::L) w:=h▸B
def abh{α β:Type}[Flat α][Flat β]{P:Program}{w w0:World}{A:Nat->Prop}{L:List HP}{xs:List α}{T:Nat}{v p:Value}{i B:Nat}{x:α}(y:β)(I:St w0 A (bG v xs::L) w)(ht:cM P T=some (Ix β,og β))(G:MV α v i B p)(J:xs[i]?=some x)
  (E:((jl x).drop B).take (og β)=jl y):(vK T p).run P w=.ok (jj y) w:=by
 obtain⟨v,h1,h2⟩:=(tP (K:=λv=>v=jj y) y I ht G J E rfl).ex
 rw[<- h2];exact h1
structure Ptr where
 b:Nat
deriving DecidableEq
instance:Flat Ptr where
 agg:=false
 sz:=1
 enc p:=[.pointer (some ⟨p.b,0,none⟩)]
 val p:=.pointer (some ⟨p.b,0,none⟩)
 pos:=er
 len _:=rfl
 one a v h:=by rw[sU.1 h];rfl
 ot h:=by cases h
 oS _ _:=rfl
instance:Deep Ptr Ptr:=j8
def gH{α κ:Type}(H:κ->α->HP):List κ->List α->HP
 | [],[]=>emp
 | p::ps,x::xs=>sep (H p x) (gH H ps xs)
 | _,_=>fact False emp
section
variable {P:Program}{α κ:Type}{H:κ->α->HP}{A:Nat->Prop}{w0 w:World}{L:List HP}
theorem EK:∀{ps:List κ}{xs:List α}{F:Nat->Prop},(gH H ps xs).p w F->ps.length=xs.length
 | [],[],_,_=>rfl
 | s::ss,x::xs,F,h=>by
  obtain⟨B,E,_,h2,_,_⟩:=h
  rw[qb,qb,EK h2]
 | [],_::_,_,h=>h.1.elim
 | _::_,[],_,h=>h.1.elim
theorem St.gh{ps:List κ}{xs:List α}(B:St w0 A (gH H ps xs::L) w):ps.length=xs.length:=by
 obtain⟨F,h,_⟩:=B.head;exact EK h
theorem St.tQ(B:St w0 A L w):St w0 A (gH H [] []::L) w:=B.new (Ext.refl w) (F:=bE) (λ_ h=>h) λ_ h=>h.elim
def oF(H:κ->α->HP)(ps:List κ)(xs:List α)(i:Nat):HP:=sep (gH H (ps.take i) (xs.take i)) (gH H (ps.drop (i+1)) (xs.drop (i+1)))
theorem FU:∀{ps:List κ}{xs:List α}{i:Nat}{p:κ}{x:α}{F:Nat->Prop},(gH H ps xs).p w F->ps[i]?=some p->xs[i]?=some x->(sep (H p x) (oF H ps xs i)).p w F
 | V::ps,x'::xs,0,p,x,F,h,B,hx=>by
  rw[List.getElem?_cons_zero]at B hx
  obtain rfl:=o5.inj B
  obtain rfl:=o5.inj hx
  obtain⟨E,G,h1,h2,h3,h4⟩:=h
  exact⟨E,G,h1,⟨bE,G,λ_ h=>h,h2,λ_ h=>h.elim,λb=>⟨.inr,λh=>h.elim (λh=>h.elim) id⟩⟩,h3,h4⟩
 | V::ps,x'::xs,i+1,p,x,F,h,B,hx=>by
  rw[yv]at B hx
  obtain⟨E,G,h1,h2,h3,h4⟩:=h
  obtain⟨W,G2,J,⟨I,K2,Y,M,k3,Z⟩,g3,O⟩:=FU h2 B hx
  refine⟨W,λb=>E b\/G2 b,J,⟨λb=>E b\/I b,K2,⟨E,I,h1,Y,λb hb U=>h3 b hb ((O b).2 (.inr ((Z b).2 (.inl U)))),λb=>Iff.rfl⟩,M,?_,?_⟩,?_,?_⟩
  .grind
  .grind
  .grind
  grind
 | [],[],_,_,_,_,_,B,_=>by simp at B
 | [],_::_,_,_,_,_,h,_,_=>h.1.elim
 | _::_,[],_,_,_,_,h,_,_=>h.1.elim
theorem EL:∀{ps:List κ}{xs:List α}{i:Nat}{p:κ}{x:α}{F:Nat->Prop},i<xs.length->ps.length=xs.length->(sep (H p x) (oF H ps xs i)).p w F->(gH H (ps.set i p) (xs.set i x)).p w F
 | Z::ps,x'::xs,0,p,x,F,_,_,h=>by
  obtain⟨B,O,h1,⟨V,K2,k1,G,I,M⟩,h3,h4⟩:=h
  refine⟨B,O,h1,?_,h3,h4⟩
  have e:O=K2:=funext λb=>propext ((M b).trans ⟨λh=>h.elim (λh=>(k1 b h).elim) id,.inr⟩)
  grind
 | Z::ps,x'::xs,i+1,p,x,F,hi,hl,h=>by
  obtain⟨J,G2,U,⟨V,K2,⟨B,E,f1,W,f3,f4⟩,G,I,M⟩,g3,g4⟩:=h
  refine⟨B,λb=>J b\/(E b\/K2 b),f1,EL dH dH ⟨J,λb=>E b\/K2 b,U,⟨E,K2,W,G,λb hb Y=>I b ((f4 b).2 (.inr hb)) Y,λb=>Iff.rfl⟩,?_,λb=>Iff.rfl⟩,?_,?_⟩
  .grind
  .grind
  grind
 | [],_::_,_,_,_,_,_,hl,_=>by simp at hl
 | _,[],_,_,_,_,hi,_,_=>by simp at hi
theorem pW{β:Type}:∀{ps:List β}{i:Nat}{p:β},ps[i]?=some p->ps.set i p=ps
 | [],_,_,h=>by simp at h
 | y::ps,0,p,h=>by grind
 | y::ps,i+1,p,h=>by rw[yv]at h;rw[List.set_cons_succ,pW h]
theorem Te{ps:List κ}{xs:List α}{i:Nat}{p:κ}{x:α}{F:Nat->Prop}(hi:i<xs.length)(B:ps.length=xs.length)(E:ps[i]?=some p)(h:(sep (H p x) (oF H ps xs i)).p w F):(gH H ps (xs.set i x)).p w F:=by
 have:=EL hi B h;rwa [pW E]at this
theorem Le:∀{ps B:List κ}{xs ys:List α}{F:Nat->Prop},(sep (gH H ps xs) (gH H B ys)).p w F->(gH H (ps++B) (xs++ys)).p w F
 | [],B,[],ys,F,⟨G,E,h1,h2,_,h4⟩=>by
  have:F=E:=funext λb=>propext ((h4 b).trans ⟨λh=>h.elim (λh=>(h1 b h).elim) id,.inr⟩)
  grind
 | p::ps,B,x::xs,ys,F,⟨G,E,⟨G1,G2,g1,g2,g3,g4⟩,h2,h3,h4⟩=>by
  refine⟨G1,λb=>G2 b\/E b,g1,Le ⟨G2,E,g2,h2,λb hb=>h3 b ((g4 b).2 (.inr hb)),λb=>Iff.rfl⟩,λb hb=>?_,λb=>dH⟩
  grind
 | [],_,_::_,_,_,⟨_,_,h,_⟩=>h.1.elim
 | _::_,_,[],_,_,⟨_,_,h,_⟩=>h.1.elim
theorem St.focus{ps:List κ}{xs:List α}{i:Nat}{p:κ}{x:α}(B:St w0 A (gH H ps xs::L) w)(I:ps[i]?=some p)(E:xs[i]?=some x):St w0 A (H p x::oF H ps xs i::L) w:=
 (B.qH (H':=sep (H p x) (oF H ps xs i)) λF G=>⟨F,FU G I E,λb hb=>.inl hb,gZ.refl _ _⟩).split
theorem St.q8{ps:List κ}{xs:List α}{i:Nat}{p:κ}{x:α}(E:St w0 A (H p x::oF H ps xs i::L) w)(hi:i<xs.length)(G:ps.length=xs.length)(I:ps[i]?=some p):St w0 A (gH H ps (xs.set i x)::L) w:=
 (St.join E).qH λF B=>⟨F,Te hi G I B,λb hb=>.inl hb,gZ.refl _ _⟩
theorem H9:∀{ps:List κ}{xs:List α}{p:κ}{x:α}{E B F:Nat->Prop},(gH H ps xs).p w E->(H p x).p w B->(∀b,E b->¬ B b)->(∀b,F b↔E b\/B b)->(gH H (ps++[p]) (xs++[x])).p w F
 | [],[],p,x,E,B,F,h1,h2,_,h4=>⟨B,E,h2,h1,λb _ I=>h1 b I,λb=>dH⟩
 | s'::ss,x'::xs,p,x,E,B,F,h1,h2,h3,h4=>by
  obtain⟨M,U,G,J,V,O⟩:=h1
  refine⟨M,λb=>U b\/B b,G,H9 J h2 (λb hb=>h3 b ((O b).2 (.inr hb))) (λb=>Iff.rfl),λb hb=>?_,λb=>?_⟩
  .grind
  grind
 | [],_::_,_,_,_,_,_,h,_,_,_=>h.1.elim
 | _::_,[],_,_,_,_,_,h,_,_,_=>h.1.elim
theorem St.CX{ps:List κ}{xs:List α}{p:κ}{x:α}(B:St w0 A (gH H ps xs::H p x::L) w):St w0 A (gH H (ps++[p]) (xs++[x])::L) w:=by
 refine(St.join B).qH λF E=>?_
 obtain⟨G,I,h1,h2,h3,h4⟩:=E
 exact⟨F,H9 h1 h2 h3 h4,λb hb=>.inl hb,gZ.refl _ _⟩
theorem St.Ia{ps:List κ}{xs:List α}{i:Nat}{p:κ}{x:α}(E:St w0 A (H p x::oF H ps xs i::L) w)(hi:i<xs.length)(G:ps.length=xs.length):St w0 A (gH H (ps.set i p) (xs.set i x)::L) w:=
 (St.join E).qH λF B=>⟨F,EL hi G B,λb hb=>.inl hb,gZ.refl _ _⟩
theorem St.Yi{ps:List κ}{xs:List α}{i:Nat}(B:St w0 A (oF H ps xs i::L) w):St w0 A (gH H (ps.eraseIdx i) (xs.eraseIdx i)::L) w:=by
 rw[H3,H3]
 exact B.qH λF E=>⟨F,Le E,λb hb=>.inl hb,gZ.refl _ _⟩
theorem St.ag0{ps:List κ}{xs:List α}{i:Nat}{p:κ}{x:α}{Φ:iD}(B:St w0 A (gH H ps xs::L) w)(I:ps[i]?=some p)(E:xs[i]?=some x)(h:∀{w F},(H p x).p w F->Φ w):Φ w:=by
 obtain⟨F,G,_⟩:=(B.focus I E).head;exact h G
end
end Go.Fw
namespace Go.Proofs.YtdncbeepkacgbaaGreatDoor
open Go.Fw
@[ext] structure cG where
 name:ByteArray
 n:Int
 at_:Int
deriving DecidableEq
instance:Flat cG where
 agg:=true
 sz:=3
 enc e:=[.string e.name,iE e.n,iE e.at_]
 val e:=.agg [.string e.name,iE e.n,iE e.at_].toArray
 pos:=er
 len _:=rfl
 one a v h:=by simp at h;rcases h with rfl|rfl|rfl<;>rfl
 ot _ _:=rfl
 oS h:=by cases h
instance:Deep cG cG:=j8
def AJ(x:cG):Prop:=x.name.size<=maxLen/\mV x.n/\mV x.at_
@[ext] structure bY where
 op:Int
 n:Int
 name:ByteArray
 at_:Int
deriving DecidableEq
instance:Flat bY where
 agg:=true
 sz:=4
 enc e:=[iE e.op,iE e.n,.string e.name,iE e.at_]
 val e:=.agg [iE e.op,iE e.n,.string e.name,iE e.at_].toArray
 pos:=er
 len _:=rfl
 one a v h:=by simp at h;rcases h with rfl|rfl|rfl|rfl<;>rfl
 ot _ _:=rfl
 oS h:=by cases h
instance:Deep bY bY:=j8
def CY(x:bY):Prop:=mV x.op/\mV x.n/\x.name.size<=maxLen/\mV x.at_
structure bD where
 kind:Int
 eY:ByteArray
 name:ByteArray
 e:(List bY)
 f:(List bY)
 n:Int
 body:Int
 eR:Int
 at_:Int
deriving DecidableEq
structure bF where
 kind:Int
 eY:ByteArray
 name:ByteArray
 e:SV
 f:SV
 n:Int
 body:Int
 eR:Int
 at_:Int
instance:Flat bF where
 agg:=true
 sz:=9
 enc e:=[iE e.kind,.string e.eY,.string e.name,.slice e.e.a e.e.n e.e.cap,.slice e.f.a e.f.n e.f.cap,iE e.n,iE e.body,iE e.eR,iE e.at_]
 val e:=.agg [iE e.kind,.string e.eY,.string e.name,.slice e.e.a e.e.n e.e.cap,.slice e.f.a e.f.n e.f.cap,iE e.n,iE e.body,iE e.eR,iE e.at_].toArray
 pos:=er
 len _:=rfl
 one a v h:=by simp at h;rcases h with rfl|rfl|rfl|rfl|rfl|rfl|rfl|rfl|rfl<;>rfl
 ot _ _:=rfl
 oS h:=by cases h
instance:Deep bD bF where
 dr w s x:=∃(E:SV) (B:SV),s=(⟨x.kind,x.eY,x.name,E,B,x.n,x.body,x.eR,x.at_⟩:bF)/\DL w (jj E) x.e/\DL w (jj B) x.f
 ext h e:=by
  obtain⟨J,G,rfl,I,h1⟩:=h
  exact⟨J,G,rfl,I.ext e,h1.ext e⟩
def MY(x:bD):Prop:=mV x.kind/\x.eY.size<=maxLen/\x.name.size<=maxLen/\(∀y∈x.e,CY y)/\(∀y∈x.f,CY y)/\mV x.n/\mV x.body/\mV x.eR/\mV x.at_
structure cE where
 name:ByteArray
 aS:(List ByteArray)
 body:(List bD)
 at_:Int
deriving DecidableEq
structure cI where
 name:ByteArray
 aS:SV
 body:SV
 at_:Int
instance:Flat cI where
 agg:=true
 sz:=4
 enc e:=[.string e.name,.slice e.aS.a e.aS.n e.aS.cap,.slice e.body.a e.body.n e.body.cap,iE e.at_]
 val e:=.agg [.string e.name,.slice e.aS.a e.aS.n e.aS.cap,.slice e.body.a e.body.n e.body.cap,iE e.at_].toArray
 pos:=er
 len _:=rfl
 one a v h:=by simp at h;rcases h with rfl|rfl|rfl|rfl<;>rfl
 ot _ _:=rfl
 oS h:=by cases h
instance:Deep cE cI where
 dr w s x:=∃(E:SV) (B:SV),s=(⟨x.name,E,B,x.at_⟩:cI)/\DL w (jj E) x.aS/\DL w (jj B) x.body
 ext h e:=by
  obtain⟨J,I,rfl,G,h1⟩:=h
  exact⟨J,I,rfl,G.ext e,h1.ext e⟩
def AK(x:cE):Prop:=x.name.size<=maxLen/\(∀y∈x.aS,(λy:ByteArray=>y.size<=maxLen) y)/\(∀y∈x.body,MY y)/\mV x.at_
structure iF where
 e:(List bY)
 at_:Int
deriving DecidableEq
structure jy where
 e:SV
 at_:Int
instance:Flat jy where
 agg:=true
 sz:=2
 enc e:=[.slice e.e.a e.e.n e.e.cap,iE e.at_]
 val e:=.agg [.slice e.e.a e.e.n e.e.cap,iE e.at_].toArray
 pos:=er
 len _:=rfl
 one a v h:=by simp at h;rcases h with rfl|rfl<;>rfl
 ot _ _:=rfl
 oS h:=by cases h
instance:Deep iF jy where
 dr w s x:=∃(B:SV),s=(⟨B,x.at_⟩:jy)/\DL w (jj B) x.e
 ext h e:=by
  obtain⟨E,rfl,G⟩:=h
  exact⟨E,rfl,G.ext e⟩
def Ib(x:iF):Prop:=(∀y∈x.e,CY y)/\mV x.at_
structure bQ where
 lines:(List (List cG))
 jR:(List cG)
 locks:(List cG)
 threads:(List cE)
 recover:(List cE)
 cB:(List iF)
deriving DecidableEq
structure bT where
 lines:SV
 jR:SV
 locks:SV
 threads:SV
 recover:SV
 cB:SV
instance:Flat bT where
 agg:=true
 sz:=6
 enc e:=[.slice e.lines.a e.lines.n e.lines.cap,.slice e.jR.a e.jR.n e.jR.cap,.slice e.locks.a e.locks.n e.locks.cap,.slice e.threads.a e.threads.n e.threads.cap,.slice e.recover.a e.recover.n e.recover.cap,.slice e.cB.a e.cB.n e.cB.cap]
 val e:=.agg [.slice e.lines.a e.lines.n e.lines.cap,.slice e.jR.a e.jR.n e.jR.cap,.slice e.locks.a e.locks.n e.locks.cap,.slice e.threads.a e.threads.n e.threads.cap,.slice e.recover.a e.recover.n e.recover.cap,.slice e.cB.a e.cB.n e.cB.cap].toArray
 pos:=er
 len _:=rfl
 one a v h:=by simp at h;rcases h with rfl|rfl|rfl|rfl|rfl|rfl<;>rfl
 ot _ _:=rfl
 oS h:=by cases h
instance:Deep bQ bT where
 dr w s x:=∃(M:SV) (B:SV) (E:SV) (J:SV) (G:SV) (I:SV),s=(⟨M,B,E,J,G,I⟩:bT)/\DL w (jj M) x.lines/\DL w (jj B) x.jR/\DL w (jj E) x.locks/\DL w (jj J) x.threads/\DL w (jj G) x.recover/\DL w (jj I) x.cB
 ext h e:=by
  obtain⟨Z,O,W,g3,V,Y,rfl,U,h1,h2,h3,h4,h5⟩:=h
  exact⟨Z,O,W,g3,V,Y,rfl,U.ext e,h1.ext e,h2.ext e,h3.ext e,h4.ext e,h5.ext e⟩
def ag1(x:bQ):Prop:=(∀y∈x.lines,(λys:(List cG)=>∀y∈ys,AJ y) y)/\(∀y∈x.jR,AJ y)/\(∀y∈x.locks,AJ y)/\(∀y∈x.threads,AK y)/\(∀y∈x.recover,AK y)/\(∀y∈x.cB,Ib y)
@[ext] structure nW where
 kind:Int
 n:Int
deriving DecidableEq
instance:Flat nW where
 agg:=true
 sz:=2
 enc e:=[iE e.kind,iE e.n]
 val e:=.agg [iE e.kind,iE e.n].toArray
 pos:=er
 len _:=rfl
 one a v h:=by simp at h;rcases h with rfl|rfl<;>rfl
 ot _ _:=rfl
 oS h:=by cases h
instance:Deep nW nW:=j8
structure aU where
 kind:Int
 a:Int
 b:Int
 e:(List nW)
 f:(List nW)
 to:Int
deriving DecidableEq
structure bK where
 kind:Int
 a:Int
 b:Int
 e:SV
 f:SV
 to:Int
instance:Flat bK where
 agg:=true
 sz:=6
 enc e:=[iE e.kind,iE e.a,iE e.b,.slice e.e.a e.e.n e.e.cap,.slice e.f.a e.f.n e.f.cap,iE e.to]
 val e:=.agg [iE e.kind,iE e.a,iE e.b,.slice e.e.a e.e.n e.e.cap,.slice e.f.a e.f.n e.f.cap,iE e.to].toArray
 pos:=er
 len _:=rfl
 one a v h:=by simp at h;rcases h with rfl|rfl|rfl|rfl|rfl|rfl<;>rfl
 ot _ _:=rfl
 oS h:=by cases h
instance:Deep aU bK where
 dr w s x:=∃(E:SV) (B:SV),s=(⟨x.kind,x.a,x.b,E,B,x.to⟩:bK)/\DL w (jj E) x.e/\DL w (jj B) x.f
 ext h e:=by
  obtain⟨J,G,rfl,I,h1⟩:=h
  exact⟨J,G,rfl,I.ext e,h1.ext e⟩
structure gz where
 aS:Int
 counts:Int
 l:(List aU)
deriving DecidableEq
structure dI where
 aS:Int
 counts:Int
 l:SV
instance:Flat dI where
 agg:=true
 sz:=3
 enc e:=[iE e.aS,iE e.counts,.slice e.l.a e.l.n e.l.cap]
 val e:=.agg [iE e.aS,iE e.counts,.slice e.l.a e.l.n e.l.cap].toArray
 pos:=er
 len _:=rfl
 one a v h:=by simp at h;rcases h with rfl|rfl|rfl<;>rfl
 ot _ _:=rfl
 oS h:=by cases h
instance:Deep gz dI where
 dr w s x:=∃(B:SV),s=(⟨x.aS,x.counts,B⟩:dI)/\DL w (jj B) x.l
 ext h e:=by
  obtain⟨E,rfl,G⟩:=h
  exact⟨E,rfl,G.ext e⟩
structure ki where
 lines:(List Int)
 stays:Int
 dD:(List Int)
 locks:Int
 threads:(List gz)
 recover:gz
 cB:(List (List nW))
deriving DecidableEq
structure eO where
 lines:SV
 stays:Int
 dD:SV
 locks:Int
 threads:SV
 recover:dI
 cB:SV
instance:Flat eO where
 agg:=true
 sz:=9
 enc e:=[.slice e.lines.a e.lines.n e.lines.cap,iE e.stays,.slice e.dD.a e.dD.n e.dD.cap,iE e.locks,.slice e.threads.a e.threads.n e.threads.cap,iE e.recover.aS,iE e.recover.counts,.slice e.recover.l.a e.recover.l.n e.recover.l.cap,.slice e.cB.a e.cB.n e.cB.cap]
 val e:=.agg [.slice e.lines.a e.lines.n e.lines.cap,iE e.stays,.slice e.dD.a e.dD.n e.dD.cap,iE e.locks,.slice e.threads.a e.threads.n e.threads.cap,iE e.recover.aS,iE e.recover.counts,.slice e.recover.l.a e.recover.l.n e.recover.l.cap,.slice e.cB.a e.cB.n e.cB.cap].toArray
 pos:=er
 len _:=rfl
 one a v h:=by simp at h;rcases h with rfl|rfl|rfl|rfl|rfl|rfl|rfl|rfl|rfl<;>rfl
 ot _ _:=rfl
 oS h:=by cases h
instance:Deep ki eO where
 dr w s x:=∃(I:SV) (J:SV) (G:SV) (B:dI) (E:SV),s=(⟨I,x.stays,J,x.locks,G,B,E⟩:eO)/\DL w (jj I) x.lines/\DL w (jj J) x.dD/\DL w (jj G) x.threads/\Deep.dr w B x.recover/\DL w (jj E) x.cB
 ext h e:=by
  obtain⟨W,M,V,Y,U,rfl,O,h1,h2,h3,h4⟩:=h
  exact⟨W,M,V,Y,U,rfl,O.ext e,h1.ext e,h2.ext e,Deep.ext h3 e,h4.ext e⟩
structure cC where
 kind:Int
 t:Int
 i:Int
 cut:(List Int)
deriving DecidableEq
structure cY where
 kind:Int
 t:Int
 i:Int
 cut:SV
instance:Flat cY where
 agg:=true
 sz:=4
 enc e:=[iE e.kind,iE e.t,iE e.i,.slice e.cut.a e.cut.n e.cut.cap]
 val e:=.agg [iE e.kind,iE e.t,iE e.i,.slice e.cut.a e.cut.n e.cut.cap].toArray
 pos:=er
 len _:=rfl
 one a v h:=by simp at h;rcases h with rfl|rfl|rfl|rfl<;>rfl
 ot _ _:=rfl
 oS h:=by cases h
instance:Deep cC cY where
 dr w s x:=∃(B:SV),s=(⟨x.kind,x.t,x.i,B⟩:cY)/\DL w (jj B) x.cut
 ext h e:=by
  obtain⟨E,rfl,G⟩:=h
  exact⟨E,rfl,G.ext e⟩
def VW(x:cC):Prop:=mV x.kind/\mV x.t/\mV x.i/\(∀y∈x.cut,mV y)
structure PI where
 kind:Int
 n:Int
 p:cC
deriving DecidableEq
structure Br where
 kind:Int
 n:Int
 p:cY
instance:Flat Br where
 agg:=true
 sz:=6
 enc e:=[iE e.kind,iE e.n,iE e.p.kind,iE e.p.t,iE e.p.i,.slice e.p.cut.a e.p.cut.n e.p.cut.cap]
 val e:=.agg [iE e.kind,iE e.n,iE e.p.kind,iE e.p.t,iE e.p.i,.slice e.p.cut.a e.p.cut.n e.p.cut.cap].toArray
 pos:=er
 len _:=rfl
 one a v h:=by simp at h;rcases h with rfl|rfl|rfl|rfl|rfl|rfl<;>rfl
 ot _ _:=rfl
 oS h:=by cases h
instance:Deep PI Br where
 dr w s x:=∃(B:cY),s=(⟨x.kind,x.n,B⟩:Br)/\Deep.dr w B x.p
 ext h e:=by
  obtain⟨E,rfl,G⟩:=h
  exact⟨E,rfl,Deep.ext G e⟩
def amC(x:PI):Prop:=mV x.kind/\mV x.n/\VW x.p
@[ext] structure bZ where
 kind:Int
 t:Int
 a:Int
 n:Int
 m:Int
deriving DecidableEq
instance:Flat bZ where
 agg:=true
 sz:=5
 enc e:=[iE e.kind,iE e.t,iE e.a,iE e.n,iE e.m]
 val e:=.agg [iE e.kind,iE e.t,iE e.a,iE e.n,iE e.m].toArray
 pos:=er
 len _:=rfl
 one a v h:=by simp at h;rcases h with rfl|rfl|rfl|rfl|rfl<;>rfl
 ot _ _:=rfl
 oS h:=by cases h
instance:Deep bZ bZ:=j8
@[ext] structure fU where
 bX:Int
 fault:Int
 t:Int
 done:Bool
 stuck:Bool
deriving DecidableEq
instance:Flat fU where
 agg:=true
 sz:=5
 enc e:=[iE e.bX,iE e.fault,iE e.t,.bool e.done,.bool e.stuck]
 val e:=.agg [iE e.bX,iE e.fault,iE e.t,.bool e.done,.bool e.stuck].toArray
 pos:=er
 len _:=rfl
 one a v h:=by simp at h;rcases h with rfl|rfl|rfl|rfl|rfl<;>rfl
 ot _ _:=rfl
 oS h:=by cases h
instance:Deep fU fU:=j8
@[ext] structure bH where
 kind:Int
 line:Int
 cell:Int
 n:Int
deriving DecidableEq
instance:Flat bH where
 agg:=true
 sz:=4
 enc e:=[iE e.kind,iE e.line,iE e.cell,iE e.n]
 val e:=.agg [iE e.kind,iE e.line,iE e.cell,iE e.n].toArray
 pos:=er
 len _:=rfl
 one a v h:=by simp at h;rcases h with rfl|rfl|rfl|rfl<;>rfl
 ot _ _:=rfl
 oS h:=by cases h
instance:Deep bH bH:=j8
@[ext] structure bP where
 kind:Int
 text:ByteArray
 n:Int
 at_:Int
deriving DecidableEq
instance:Flat bP where
 agg:=true
 sz:=4
 enc e:=[iE e.kind,.string e.text,iE e.n,iE e.at_]
 val e:=.agg [iE e.kind,.string e.text,iE e.n,iE e.at_].toArray
 pos:=er
 len _:=rfl
 one a v h:=by simp at h;rcases h with rfl|rfl|rfl|rfl<;>rfl
 ot _ _:=rfl
 oS h:=by cases h
instance:Deep bP bP:=j8
@[ext] structure jS where
 cell:Int
 n:Int
deriving DecidableEq
instance:Flat jS where
 agg:=true
 sz:=2
 enc e:=[iE e.cell,iE e.n]
 val e:=.agg [iE e.cell,iE e.n].toArray
 pos:=er
 len _:=rfl
 one a v h:=by simp at h;rcases h with rfl|rfl<;>rfl
 ot _ _:=rfl
 oS h:=by cases h
instance:Deep jS jS:=j8
def PJ(p:Bool):Int:=if p then 1 else 0
def aj9(a b:Int):Int:=sd (a.tdiv b)
def EM(op a:Int):Int:=if op=3 then sd (0-a)else if op=4 then PJ (decide (a=0))else 0
def PK(op:Int):Int:=if op=3\/op=4 then 0 else 1
def vF(op a b:Int):Int:=
 if op=5 then sd (a+b)else if op=6 then sd (a-b)else if op=7 then sd (a*b)else if op=8 then aj9 a b else if op=9 then a.tmod b
 else if op=10 then PJ (decide (a=b))else if op=11 then PJ (decide (¬ a=b))else if op=12 then PJ (decide (a<b))else if op=13 then PJ (decide (a<=b))
 else if op=14 then PJ (decide (¬ a=0)&&decide (¬ b=0))else if op=15 then PJ (decide (¬ a=0)||decide (¬ b=0))else 0
def rF(op b:Int):Int:=if op<5\/15<op then 1 else if (op=8\/op=9)/\b=0 then 12 else 0
def rG(op a b:Int):Int:=if rF op b=0 then vF op a b else 0
def C380(p:Bool)(w:World):CR 380 [.bool p] w (λv w'=>v=iE (PJ p)/\Ext w w'):=by
 have E:=St.start w;refine fD Tryz.func380 ?_;refine aX (λB=>?_) (λB=>?_)
 .rw[B];exact⟨rfl,E.aG⟩
 rw[B];exact⟨rfl,E.aG⟩
def C255(p:Bool)(w:World):CR 255 [.bool p] w (λv w'=>v=iE (PJ p)/\Ext w w'):=by
 have E:=St.start w;refine fD Tryz.func255 ?_;refine aX (λB=>?_) (λB=>?_)
 .rw[B];exact⟨rfl,E.aG⟩
 rw[B];exact⟨rfl,E.aG⟩
def C256(a:Int)(w:World):CR 256 [iE a] w (λv w'=>v=.bool (decide (¬ a=0))/\Ext w w'):=by
 have B:=St.start w;refine fD Tryz.func256 ?_;refine cN ?_;exact⟨rfl,B.aG⟩
def C375(op a:Int)(w:World):CR 375 [iE op,iE a] w (λv w'=>v=.tuple #[iE (EM op a),iE (PK op)]/\Ext w w'):=by
 have E:=St.start w;refine agF _ _ _ _ ?_;unfold S375;refine aI (aC (λB=>?_) λB=>aI (aC (λG=>?_) λG=>?_))
 .refine H0 ?_;unfold EM PK
  first|(rw[ez B,ez (.inl B)];exact⟨rfl,E.aG⟩)|(rw[ew B,ez G,ez (.inr G)];exact⟨rfl,E.aG⟩)|(rw[ew B,ew G,ew cU];exact⟨rfl,E.aG⟩)
 .refine aI (aY ar5 E (C380 _ _) λ_ I E=>?_);unfold EM PK
  first|(rw[ez B,ez (.inl B)];exact⟨rfl,E.aG⟩)|(rw[ew B,ez G,ez (.inr G)];exact⟨rfl,E.aG⟩)|(rw[ew B,ew G,ew cU];exact⟨rfl,E.aG⟩)
 unfold EM PK
 first|(rw[ez B,ez (.inl B)];exact⟨rfl,E.aG⟩)|(rw[ew B,ez G,ez (.inr G)];exact⟨rfl,E.aG⟩)|(rw[ew B,ew G,ew cU];exact⟨rfl,E.aG⟩)
def C151(op a:Int)(w:World):CR 151 [iE op,iE a] w (λv w'=>v=.tuple #[iE (EM op a),iE (PK op)]/\Ext w w'):=by
 have E:=St.start w;refine fD Tryz.func151 ?_;refine aI (aC (λB=>?_) λB=>aI (aC (λG=>?_) λG=>?_))
 .refine abb ?_;unfold EM PK
  first|(rw[ez B,ez (.inl B)];exact⟨rfl,E.aG⟩)|(rw[ew B,ez G,ez (.inr G)];exact⟨gD (λp=>aby #[iE (PJ p),iE 0]) et,E.aG⟩)|(rw[ew B,ew G,ew cU];exact⟨rfl,E.aG⟩)
 .refine aY O6 E (C256 _ _) (λ_ I E=>?_)
  first|refine HC ?_|refine bJ ?_
  refine aY aaG E (C255 _ _) (λ_ I E=>?_);unfold EM PK
  first|(rw[ez B,ez (.inl B)];exact⟨rfl,E.aG⟩)|(rw[ew B,ez G,ez (.inr G)];exact⟨gD (λp=>aby #[iE (PJ p),iE 0]) et,E.aG⟩)|(rw[ew B,ew G,ew cU];exact⟨rfl,E.aG⟩)
 unfold EM PK
 first|(rw[ez B,ez (.inl B)];exact⟨rfl,E.aG⟩)|(rw[ew B,ez G,ez (.inr G)];exact⟨gD (λp=>aby #[iE (PJ p),iE 0]) et,E.aG⟩)|(rw[ew B,ew G,ew cU];exact⟨rfl,E.aG⟩)
def tS:asu hZ 348 16 165:=⟨by kernel_rfl,by kernel_rfl⟩
def asx(b1 b2 b3 b4 B b6:Nat)(w:World):Prop:=
 Cell w b1 0 (.func (.func 318) #[] #[])/\Cell w b2 0 (.func (.func 319) #[] #[])/\Cell w b3 0 (.func (.func 320) #[] #[])/\Cell w b4 0 (.func (.func 321) #[] #[])/\Cell w B 0 (.func (.func 322) #[] #[])/\Cell w b6 0 (.func (.func 323) #[] #[])
def opsV(b1 b2 b3 b4 B b6:Nat):Value:=
 .agg [.nilFunc,.nilFunc,.nilFunc,.nilFunc,.nilFunc,.func (.func 313) #[] #[],.func (.func 314) #[] #[],.func (.func 315) #[] #[],.func (.func 316) #[] #[],.func (.func 317) #[] #[],
  .func (.func 312) #[] #[.pointer (some ⟨b1,0,none⟩)],.func (.func 312) #[] #[.pointer (some ⟨b2,0,none⟩)],.func (.func 312) #[] #[.pointer (some ⟨b3,0,none⟩)],.func (.func 312) #[] #[.pointer (some ⟨b4,0,none⟩)],
  .func (.func 312) #[] #[.pointer (some ⟨B,0,none⟩)],.func (.func 312) #[] #[.pointer (some ⟨b6,0,none⟩)]].toArray
def Fb2(f:Value)(g:Int->Int->Bool):Prop:=∃B,f=.func (.func B) #[] #[]/\Plain hZ B/\
 ∀a b E,Calls hZ B [iE a,iE b].toArray E (rZ λv G=>v=.bool (g a b)/\Ext E G)
def C313(a b:Int)(w:World):CR 313 [iE a,iE b] w (λv w'=>v=iE (sd (a+b))/\Ext w w'):=by
 have B:=St.start w;refine fD Tryz.func313 ?_;exact zD ⟨rfl,B.aG⟩
def C314(a b:Int)(w:World):CR 314 [iE a,iE b] w (λv w'=>v=iE (sd (a-b))/\Ext w w'):=by
 have B:=St.start w;refine fD Tryz.func314 ?_;exact H0 ⟨rfl,B.aG⟩
def C315(a b:Int)(w:World):CR 315 [iE a,iE b] w (λv w'=>v=iE (sd (a*b))/\Ext w w'):=by
 have B:=St.start w;refine fD Tryz.func315 ?_;exact H6 ⟨rfl,B.aG⟩
def C316(a b:Int)(w:World)(h:b≠0):CR 316 [iE a,iE b] w (λv w'=>v=iE (aj9 a b)/\Ext w w'):=by
 have B:=St.start w;refine fD Tryz.func316 ?_;exact abc h ⟨rfl,B.aG⟩
def C317(a b:Int)(w:World)(h:b≠0):CR 317 [iE a,iE b] w (λv w'=>v=iE (a.tmod b)/\Ext w w'):=by
 have B:=St.start w;refine fD Tryz.func317 ?_;exact abd h ⟨rfl,B.aG⟩
def C318(a b:Int)(w:World):CR 318 [iE a,iE b] w (λv w'=>v=.bool (decide (a=b))/\Ext w w'):=by
 have B:=St.start w;refine fD Tryz.func318 ?_;exact aI ⟨rfl,B.aG⟩
def C319(a b:Int)(w:World):CR 319 [iE a,iE b] w (λv w'=>v=.bool (decide (¬ a=b))/\Ext w w'):=by
 have B:=St.start w;refine fD Tryz.func319 ?_;exact cN ⟨rfl,B.aG⟩
def C320(a b:Int)(w:World):CR 320 [iE a,iE b] w (λv w'=>v=.bool (decide (a<b))/\Ext w w'):=by
 have B:=St.start w;refine fD Tryz.func320 ?_;exact aV ⟨rfl,B.aG⟩
def C321(a b:Int)(w:World):CR 321 [iE a,iE b] w (λv w'=>v=.bool (decide (a<=b))/\Ext w w'):=by
 have B:=St.start w;refine fD Tryz.func321 ?_;exact kq ⟨rfl,B.aG⟩
def C322(a b:Int)(w:World):CR 322 [iE a,iE b] w (λv w'=>v=.bool (decide (¬ a=0)&&decide (¬ b=0))/\Ext w w'):=by
 have B:=St.start w;refine fD Tryz.func322 ?_;refine⟨_,?_,λ_ _ h=>h⟩;refine aY O6 B (C256 _ _) (λ_ I B=>aC (λE=>?_) λE=>?_)
 .refine aY O6 B (C256 _ _) (λ_ I B=>?_);intro G
  first|(rw[fY E];exact⟨rfl,B.aG⟩)|(rw[gk E];exact⟨rfl,B.aG⟩)
 intro G
 first|(rw[fY E];exact⟨rfl,B.aG⟩)|(rw[gk E];exact⟨rfl,B.aG⟩)
def C323(a b:Int)(w:World):CR 323 [iE a,iE b] w (λv w'=>v=.bool (decide (¬ a=0)||decide (¬ b=0))/\Ext w w'):=by
 have B:=St.start w;refine fD Tryz.func323 ?_;refine⟨_,?_,λ_ _ h=>h⟩;refine aY O6 B (C256 _ _) (λ_ I B=>aC (λE=>?_) λE=>?_)
 .intro G
  first|(rw[fY E];exact⟨rfl,B.aG⟩)|(rw[gk E];exact⟨rfl,B.aG⟩)
 refine aY O6 B (C256 _ _) (λ_ I B=>?_);intro G
 first|(rw[fY E];exact⟨rfl,B.aG⟩)|(rw[gk E];exact⟨rfl,B.aG⟩)
def C311(g:Nat)(w:World):CR 311 [.func (.func g) #[] #[]] w (λv w'=>∃b,v=.func (.func 312) #[] #[.pointer (some ⟨b,0,none⟩)]/\mf (bU b [.func (.func g) #[] #[]]) w w'):=by
 have E:=St.start w;refine fD Tryz.func311 ?_;exact ni E rfl (λB _ E=>⟨B,rfl,E.fresh⟩)
def C312(a b:Int)(b2:Nat)(fv:Value)(g:Int->Int->Bool)(w:World)(hc:Cell w b2 0 fv)(J:Fb2 fv g):CR 312 [iE a,iE b,.pointer (some ⟨b2,0,none⟩)] w (λv w'=>v=iE (PJ (g a b))/\Ext w w'):=by
 obtain⟨M,rfl,E,G⟩:=J;have B:=St.start w;refine fD Tryz.func312 ?_;refine bN ase (hc.ext B.aG) (fm (first:=[]) (cap:=[]) E (G a b _) ?_);rintro _ _ ⟨rfl,I⟩;have B:=B.ext I;exact aY aaG B (C255 _ _) (λ_ _ B=>⟨rfl,B.aG⟩)
def C257(w:World):CR 257 [] w (λv w'=>∃b1 b2 b3 b4 V b6,v=opsV b1 b2 b3 b4 V b6/\mf (ep (asx b1 b2 b3 b4 V b6)) w w'):=by
 have B:=St.start w;refine agw _ _ ?_;unfold S257;refine aJ B VT (λO _ B=>aJ B VT λU _ B=>pU tS cU cU (aO B zq (ei rfl) (rfl) λ_ B=>pU tS cU cU (aO B zq (ei rfl) (rfl) λ_ B=>pU tS cU cU (aO B zq (ei rfl) (rfl) λ_ B=>pU tS cU cU (aO B zq (ei rfl) (rfl) λ_ B=>pU tS cU cU (aO B zq (ei rfl) (rfl) λ_ B=>fm (first:=[]) (cap:=[]) KP (C311 318 _) ?_))))));rintro _ _ ⟨Y,rfl,E⟩;have B:=B.made E;refine pU tS cU cU (aO B.p1 zq (ei rfl) (rfl) λ_ B=>fm (first:=[]) (cap:=[]) KP (C311 319 _) ?_)
 rintro _ _ ⟨I,rfl,E⟩;have B:=B.made E;refine pU tS cU cU (aO B.p1 zq (ei rfl) (rfl) λ_ B=>fm (first:=[]) (cap:=[]) KP (C311 320 _) ?_);rintro _ _ ⟨J,rfl,E⟩;have B:=B.made E;refine pU tS cU cU (aO B.p1 zq (ei rfl) (rfl) λ_ B=>fm (first:=[]) (cap:=[]) KP (C311 321 _) ?_);rintro _ _ ⟨M,rfl,E⟩;have B:=B.made E;refine pU tS cU cU (aO B.p1 zq (ei rfl) (rfl) λ_ B=>fm (first:=[]) (cap:=[]) KP (C311 322 _) ?_);rintro _ _ ⟨G,rfl,E⟩;have B:=B.made E;refine pU tS cU cU (aO B.p1 zq (ei rfl) (rfl) λ_ B=>fm (first:=[]) (cap:=[]) KP (C311 323 _) ?_)
 rintro _ _ ⟨W,rfl,E⟩;have B:=B.made E;refine pU tS cU cU (aO B.p1 zq (ei rfl) (rfl) λ_ B=>tz aaZ B.hb rfl (ry B.p7 aaZ rfl er (by simp[sg,iV]) λ_ B=>tz aaZ B.hb rfl ?_));have B:=B.drop.drop.p1.p2.p3.p4.p5.pj.p1.pj.p2.pj.p3;have B:=B.pj.p4.pj.p5.pj.fu.fu.fu.fu.fu;refine⟨Y,I,J,M,G,W,rfl,(B.cS (Ψ:=asx Y I J M G W) λw h=>?_).fresh⟩;obtain⟨⟨⟨⟨⟨h6,h5⟩,h4⟩,h3⟩,h2⟩,h1⟩:=h;exact⟨h1.cell rfl,h2.cell rfl,h3.cell rfl,h4.cell rfl,h5.cell rfl,h6.cell rfl⟩
def fb1:Fb2 (.func (.func 318) #[] #[]) (λa b=>decide (a=b)):=⟨318,rfl,arN,λa b B=>C318 a b B⟩
def fb2:Fb2 (.func (.func 319) #[] #[]) (λa b=>decide (¬ a=b)):=⟨319,rfl,arO,λa b B=>C319 a b B⟩
def fb3:Fb2 (.func (.func 320) #[] #[]) (λa b=>decide (a<b)):=⟨320,rfl,arP,λa b B=>C320 a b B⟩
def fb4:Fb2 (.func (.func 321) #[] #[]) (λa b=>decide (a<=b)):=⟨321,rfl,arQ,λa b B=>C321 a b B⟩
def fb5:Fb2 (.func (.func 322) #[] #[]) (λa b=>decide (¬ a=0)&&decide (¬ b=0)):=⟨322,rfl,arR,λa b B=>C322 a b B⟩
def fb6:Fb2 (.func (.func 323) #[] #[]) (λa b=>decide (¬ a=0)||decide (¬ b=0)):=⟨323,rfl,arS,λa b B=>C323 a b B⟩
def C153(op a b:Int)(w:World):CR 153 [iE op,iE a,iE b] w (λv w'=>v=.tuple #[iE (rG op a b),iE (rF op b)]/\Ext w w'):=by
 have B:=St.start w;refine ago _ _ _ _ _ ?_;unfold S153;refine⟨_,?_,λ_ _ h=>h⟩;refine aV (aC (λiQ=>?_) λiQ=>?_)
 .intro sQ;refine jb ?_
  first|exact⟨rfl,B.aG⟩|(subst_vars;exact⟨rfl,B.aG⟩)|(refine⟨?_,B.aG⟩;unfold rG rF vF;first|(rw[ez (show op<5\/15<op by omega)];rfl)|simp[*])
 refine dC ?_;intro sQ;refine aC (λky=>?_) (λky=>?_)
 .first|exact⟨rfl,B.aG⟩|(subst_vars;exact⟨rfl,B.aG⟩)|(refine⟨?_,B.aG⟩;unfold rG rF vF;first|(rw[ez (show op<5\/15<op by omega)];rfl)|simp[*])
 refine eC arx (C257 _) ?_;rintro _ _ ⟨b1,b2,b3,b4,Z,b6,rfl,cA⟩;have B:=B.made cA;obtain rfl|rfl|rfl|rfl|rfl|rfl|rfl|rfl|rfl|rfl|rfl|rfl|rfl|rfl|rfl|rfl:op=0\/op=1\/op=2\/op=3\/op=4\/op=5\/op=6\/op=7\/op=8\/op=9\/op=10\/op=11\/op=12\/op=13\/op=14\/op=15:=cU
 .refine pop (v:=.nilFunc) (by kernel_rfl) (pop (v:=.bool true) (by kernel_rfl) (jb ?_))
  first|exact⟨rfl,B.aG⟩|(subst_vars;exact⟨rfl,B.aG⟩)|(refine⟨?_,B.aG⟩;unfold rG rF vF;first|(rw[ez (show op<5\/15<op by omega)];rfl)|simp[*])
 .refine pop (v:=.nilFunc) (by kernel_rfl) (pop (v:=.bool true) (by kernel_rfl) (jb ?_))
  first|exact⟨rfl,B.aG⟩|(subst_vars;exact⟨rfl,B.aG⟩)|(refine⟨?_,B.aG⟩;unfold rG rF vF;first|(rw[ez (show op<5\/15<op by omega)];rfl)|simp[*])
 .refine pop (v:=.nilFunc) (by kernel_rfl) (pop (v:=.bool true) (by kernel_rfl) (jb ?_))
  first|exact⟨rfl,B.aG⟩|(subst_vars;exact⟨rfl,B.aG⟩)|(refine⟨?_,B.aG⟩;unfold rG rF vF;first|(rw[ez (show op<5\/15<op by omega)];rfl)|simp[*])
 .refine pop (v:=.nilFunc) (by kernel_rfl) (pop (v:=.bool true) (by kernel_rfl) (jb ?_))
  first|exact⟨rfl,B.aG⟩|(subst_vars;exact⟨rfl,B.aG⟩)|(refine⟨?_,B.aG⟩;unfold rG rF vF;first|(rw[ez (show op<5\/15<op by omega)];rfl)|simp[*])
 .refine pop (v:=.nilFunc) (by kernel_rfl) (pop (v:=.bool true) (by kernel_rfl) (jb ?_))
  first|exact⟨rfl,B.aG⟩|(subst_vars;exact⟨rfl,B.aG⟩)|(refine⟨?_,B.aG⟩;unfold rG rF vF;first|(rw[ez (show op<5\/15<op by omega)];rfl)|simp[*])
 .refine pop (v:=.func (.func 313) #[] #[]) (by kernel_rfl) (pop (v:=.bool false) (by kernel_rfl) (eX ?_));refine⟨_,?_,λ_ _ h=>h⟩;refine aI (gu er (aI (gu er ?_)));intro I;refine eX (fm (first:=[]) (cap:=[]) arI (C313 a b _) ?_);rintro _ G ⟨rfl,E⟩;have B:=B.ext E
  first|exact⟨rfl,B.aG⟩|(subst_vars;exact⟨rfl,B.aG⟩)|(refine⟨?_,B.aG⟩;unfold rG rF vF;first|(rw[ez (show op<5\/15<op by omega)];rfl)|simp[*])
 .refine pop (v:=.func (.func 314) #[] #[]) (by kernel_rfl) (pop (v:=.bool false) (by kernel_rfl) (eX ?_));refine⟨_,?_,λ_ _ h=>h⟩;refine aI (gu er (aI (gu er ?_)));intro I;refine eX (fm (first:=[]) (cap:=[]) arJ (C314 a b _) ?_);rintro _ G ⟨rfl,E⟩;have B:=B.ext E
  first|exact⟨rfl,B.aG⟩|(subst_vars;exact⟨rfl,B.aG⟩)|(refine⟨?_,B.aG⟩;unfold rG rF vF;first|(rw[ez (show op<5\/15<op by omega)];rfl)|simp[*])
 .refine pop (v:=.func (.func 315) #[] #[]) (by kernel_rfl) (pop (v:=.bool false) (by kernel_rfl) (eX ?_));refine⟨_,?_,λ_ _ h=>h⟩;refine aI (gu er (aI (gu er ?_)));intro I;refine eX (fm (first:=[]) (cap:=[]) arK (C315 a b _) ?_);rintro _ G ⟨rfl,E⟩;have B:=B.ext E
  first|exact⟨rfl,B.aG⟩|(subst_vars;exact⟨rfl,B.aG⟩)|(refine⟨?_,B.aG⟩;unfold rG rF vF;first|(rw[ez (show op<5\/15<op by omega)];rfl)|simp[*])
 .refine pop (v:=.func (.func 316) #[] #[]) (by kernel_rfl) (pop (v:=.bool false) (by kernel_rfl) (eX ?_));refine⟨_,?_,λ_ _ h=>h⟩;refine aI (u5 er (aI ?_));intro I;refine aC (λY=>?_) (λY=>?_)
  .first|exact⟨rfl,B.aG⟩|(subst_vars;exact⟨rfl,B.aG⟩)|(refine⟨?_,B.aG⟩;unfold rG rF vF;first|(rw[ez (show op<5\/15<op by omega)];rfl)|simp[*])
  refine fm (first:=[]) (cap:=[]) arL (C316 a b _ Y) ?_;rintro _ G ⟨rfl,E⟩;have B:=B.ext E
  first|exact⟨rfl,B.aG⟩|(subst_vars;exact⟨rfl,B.aG⟩)|(refine⟨?_,B.aG⟩;unfold rG rF vF;first|(rw[ez (show op<5\/15<op by omega)];rfl)|simp[*])
 .refine pop (v:=.func (.func 317) #[] #[]) (by kernel_rfl) (pop (v:=.bool false) (by kernel_rfl) (eX ?_));refine⟨_,?_,λ_ _ h=>h⟩;refine aI (gu er (aI (u5 er (aI ?_))));intro I;refine aC (λY=>?_) (λY=>?_)
  .first|exact⟨rfl,B.aG⟩|(subst_vars;exact⟨rfl,B.aG⟩)|(refine⟨?_,B.aG⟩;unfold rG rF vF;first|(rw[ez (show op<5\/15<op by omega)];rfl)|simp[*])
  refine fm (first:=[]) (cap:=[]) arM (C317 a b _ Y) ?_;rintro _ G ⟨rfl,E⟩;have B:=B.ext E
  first|exact⟨rfl,B.aG⟩|(subst_vars;exact⟨rfl,B.aG⟩)|(refine⟨?_,B.aG⟩;unfold rG rF vF;first|(rw[ez (show op<5\/15<op by omega)];rfl)|simp[*])
 .refine pop (v:=.func (.func 312) #[] #[.pointer (some ⟨b1,0,none⟩)]) (by kernel_rfl) (pop (v:=.bool false) (by kernel_rfl) (eX ?_));refine⟨_,?_,λ_ _ h=>h⟩;refine aI (gu er (aI (gu er ?_)));intro I;refine eX ?_;obtain⟨V,U,J,M,O,W⟩:=B.ep;refine fm (first:=[]) (cap:=[.pointer (some ⟨b1,0,none⟩)]) KQ (C312 a b b1 _ _ _ V fb1) ?_;rintro _ G ⟨rfl,E⟩;have B:=B.ext E
  first|exact⟨rfl,B.aG⟩|(subst_vars;exact⟨rfl,B.aG⟩)|(refine⟨?_,B.aG⟩;unfold rG rF vF;first|(rw[ez (show op<5\/15<op by omega)];rfl)|simp[*])
 .refine pop (v:=.func (.func 312) #[] #[.pointer (some ⟨b2,0,none⟩)]) (by kernel_rfl) (pop (v:=.bool false) (by kernel_rfl) (eX ?_));refine⟨_,?_,λ_ _ h=>h⟩;refine aI (gu er (aI (gu er ?_)));intro I;refine eX ?_;obtain⟨V,U,J,M,O,W⟩:=B.ep;refine fm (first:=[]) (cap:=[.pointer (some ⟨b2,0,none⟩)]) KQ (C312 a b b2 _ _ _ U fb2) ?_;rintro _ G ⟨rfl,E⟩;have B:=B.ext E
  first|exact⟨rfl,B.aG⟩|(subst_vars;exact⟨rfl,B.aG⟩)|(refine⟨?_,B.aG⟩;unfold rG rF vF;first|(rw[ez (show op<5\/15<op by omega)];rfl)|simp[*])
 .refine pop (v:=.func (.func 312) #[] #[.pointer (some ⟨b3,0,none⟩)]) (by kernel_rfl) (pop (v:=.bool false) (by kernel_rfl) (eX ?_));refine⟨_,?_,λ_ _ h=>h⟩;refine aI (gu er (aI (gu er ?_)));intro I;refine eX ?_;obtain⟨V,U,J,M,O,W⟩:=B.ep;refine fm (first:=[]) (cap:=[.pointer (some ⟨b3,0,none⟩)]) KQ (C312 a b b3 _ _ _ J fb3) ?_;rintro _ G ⟨rfl,E⟩;have B:=B.ext E
  first|exact⟨rfl,B.aG⟩|(subst_vars;exact⟨rfl,B.aG⟩)|(refine⟨?_,B.aG⟩;unfold rG rF vF;first|(rw[ez (show op<5\/15<op by omega)];rfl)|simp[*])
 .refine pop (v:=.func (.func 312) #[] #[.pointer (some ⟨b4,0,none⟩)]) (by kernel_rfl) (pop (v:=.bool false) (by kernel_rfl) (eX ?_));refine⟨_,?_,λ_ _ h=>h⟩;refine aI (gu er (aI (gu er ?_)));intro I;refine eX ?_;obtain⟨V,U,J,M,O,W⟩:=B.ep;refine fm (first:=[]) (cap:=[.pointer (some ⟨b4,0,none⟩)]) KQ (C312 a b b4 _ _ _ M fb4) ?_;rintro _ G ⟨rfl,E⟩;have B:=B.ext E
  first|exact⟨rfl,B.aG⟩|(subst_vars;exact⟨rfl,B.aG⟩)|(refine⟨?_,B.aG⟩;unfold rG rF vF;first|(rw[ez (show op<5\/15<op by omega)];rfl)|simp[*])
 .refine pop (v:=.func (.func 312) #[] #[.pointer (some ⟨Z,0,none⟩)]) (by kernel_rfl) (pop (v:=.bool false) (by kernel_rfl) (eX ?_));refine⟨_,?_,λ_ _ h=>h⟩;refine aI (gu er (aI (gu er ?_)));intro I;refine eX ?_;obtain⟨V,U,J,M,O,W⟩:=B.ep;refine fm (first:=[]) (cap:=[.pointer (some ⟨Z,0,none⟩)]) KQ (C312 a b Z _ _ _ O fb5) ?_;rintro _ G ⟨rfl,E⟩;have B:=B.ext E
  first|exact⟨rfl,B.aG⟩|(subst_vars;exact⟨rfl,B.aG⟩)|(refine⟨?_,B.aG⟩;unfold rG rF vF;first|(rw[ez (show op<5\/15<op by omega)];rfl)|simp[*])
 refine pop (v:=.func (.func 312) #[] #[.pointer (some ⟨b6,0,none⟩)]) (by kernel_rfl) (pop (v:=.bool false) (by kernel_rfl) (eX ?_));refine⟨_,?_,λ_ _ h=>h⟩;refine aI (gu er (aI (gu er ?_)));intro I;refine eX ?_;obtain⟨V,U,J,M,O,W⟩:=B.ep;refine fm (first:=[]) (cap:=[.pointer (some ⟨b6,0,none⟩)]) KQ (C312 a b b6 _ _ _ W fb6) ?_;rintro _ G ⟨rfl,E⟩;have B:=B.ext E
 first|exact⟨rfl,B.aG⟩|(subst_vars;exact⟨rfl,B.aG⟩)|(refine⟨?_,B.aG⟩;unfold rG rF vF;first|(rw[ez (show op<5\/15<op by omega)];rfl)|simp[*])
theorem gI{α:Type}{l:List α}{k:Nat}{e:α}(h:l[k]?=some e):l.take k++[e]=l.take (k+1):=by rw[yC,h];rfl
def fg{α:Type}{φ:α->Prop}{l:List α}{k:Nat}{e:α}(h:∀y∈l.take k,φ y)(B:l[k]?=some e)(G:φ e):∀y∈l.take (k+1),φ y:=by
 intro y E
 rw[<- gI B]at E
 grind
theorem tT{α:Type}{g:α->Bool}{l:List α}{k:Nat}{e:α}(E:l[k]?=some e)(B:g e=true):l.any g=true:=List.any_eq_true.2 ⟨e,ml E,B⟩
theorem pX{α:Type}{g:α->Bool}{l:List α}(h:∀y∈l,g y=false):l.any g=false:=by
 grind
def pY{α:Type}(g:α->Bool)(l:List α):Int:=match l.findIdx? g with|some k=>k|none=>-1
def jT{α:Type}{g:α->Bool}{l:List α}{k:Nat}{e:α}(E:∀y∈l.take k,g y=false)(G:l[k]?=some e)(I:g e=true):pY g l=k:=by
 have:l.findIdx? g=some k:=by
  rw[List.findIdx?_eq_some_iff_getElem]
  have B:=(j0.1 G).1
  refine⟨B,dH,λj J=>?_⟩
  have:=E (l[j]'(cU)) (List.mem_take_iff_getElem.2 ⟨j,cU,rfl⟩)
  simp[this]
 unfold pY;rw[this]
def gJ{α:Type}{g:α->Bool}{l:List α}(B:∀y∈l,g y=false):pY g l = -1:=by
 grind[pY]
def iJ{α:Type}(g:α->Bool)(l:List α):decide (0<=pY g l)=l.any g:=by
 grind[pY]
def vG{α:Type}[Flat α](w:World)(f:Value)(g:α->Bool):Prop:=∃E first cap,f=.func (.func E) (P0 first) (P0 cap)/\Plain hZ E/\
 ∀x B,Ext w B->Calls hZ E (first++[jj x]++cap).toArray B (rZ λv G=>v=.bool (g x)/\Ext B G)
theorem vG.ext{α:Type}[Flat α]{w w':World}{f:Value}{g:α->Bool}(h:vG w f g)(e:Ext w w'):vG w' f g:=by
 obtain⟨E,first,cap,h1,h2,h3⟩:=h;exact⟨E,first,cap,h1,h2,λx B e1=>h3 x B (e.trans e1)⟩
def fV(k:Int):Int:=if k=3\/k=4 then 1 else if 5<=k/\k<=15 then 2 else 0
def ZX(st:Option (Int×Int))(x:nW):Option (Int×Int):=match st with
 | none=>none
 | some (n,h)=>if n-fV x.kind<0 then none else some (n-fV x.kind+1,max h (n-fV x.kind+1))
def ht(l:List nW):Option (Int×Int):=l.foldl ZX (some (0,0))
def htN(l:List nW):Int:=match ht l with|some p=>p.1|none=>0
def htH(l:List nW):Int:=match ht l with|some p=>p.2|none=>0
theorem C1{l:List nW}{k:Nat}{x:nW}(h:l[k]?=some x):ht (l.take (k+1))=ZX (ht (l.take k)) x:=by
 unfold ht;rw[<- gI h,Hc];rfl
def VX{l:List nW}{k:Nat}(h:ht (l.take k)=none):ht l=none:=by
 have B:∀m:List nW,m.foldl ZX none=none:=λm=>by induction m with|nil=>rfl|cons y m E=>exact E
 have e:l=l.take k++l.drop k:=(sf k l).symm
 grind[ht]
def VY(k:Int):0<=fV k/\fV k<=2:=by
 grind[fV]
theorem amE{l:List nW}:∀k n h,k<=l.length->ht (l.take k)=some (n,h)->0<=n/\n<=(k:Int)/\0<=h/\h<=(k:Int)
 | 0,n,h,_,e=>by
  have:ht ([]:List nW)=some (0,0):=rfl
  grind
 | k+1,n,h,E,e=>by
  obtain⟨x,B⟩:=gx l (i:=k) cU
  rw[C1 B]at e
  cases hp:ht (l.take k)with
  | none=>rw[hp]at e;cases e
  | some p=>
   obtain⟨a,b⟩:=p
   have I:=amE k a b cU hp
   have G:=VY x.kind
   rw[hp]at e
   unfold ZX at e
   grind
def ag2{l:List nW}{k:Nat}{x:nW}{n h m:Int}(E:l[k]?=some x)(B:ht (l.take k)=some (n,h))(I:m=n-fV x.kind)(G:¬ m<0):ht (l.take (k+1))=some (m+1,max h (m+1)):=by
 rw[C1 E,B];grind[ZX]
def amF{l:List nW}{k:Nat}{x:nW}{n h m:Int}(E:l[k]?=some x)(B:ht (l.take k)=some (n,h))(I:m=n-fV x.kind)(G:m<0):ht (l.take (k+1))=none:=by
 rw[C1 E,B];grind[ZX]
def wK(many:Int)(x:nW):Bool:=decide ((x.kind=1/\(x.n<0\/4294967296<x.n))\/(x.kind=2/\(x.n<0\/many<=x.n))\/(¬ x.kind=1/\¬ x.kind=2/\(¬ x.n=0\/x.kind<1\/16<=x.kind)))
def fa(l:List nW)(many:Int):Bool:=decide (l.length<=40)&&(ht l).isSome&&decide (htN l=1)&&!l.any (wK many)
def C149(k:Int)(w:World):CR 149 [iE k] w (λv w'=>v=iE (fV k)/\Ext w w'):=by
 have E:=St.start w;refine fD Tryz.func149 ?_;refine⟨λI w'=>I=.bool (decide (k=3\/k=4))/\w=w',aI (aC (λ_=>⟨Vr cU,rfl⟩) λ_=>aI ⟨Hw cU,rfl⟩),?_⟩;rintro _ _ ⟨rfl,J⟩ _;subst J;refine aC (λB=>?_) (λB=>⟨λI w'=>I=.bool (decide (5<=k/\k<=15))/\w=w',dC (aC (λ_=>kq ⟨Hw cU,rfl⟩) λ_=>⟨jvF cU,rfl⟩),?_⟩)
 .unfold fV
  first|(rw[ez B];exact⟨rfl,E.aG⟩)|(rw[ew B,ez G];exact⟨rfl,E.aG⟩)|(rw[ew B,ew G];exact⟨rfl,E.aG⟩)
 rintro _ _ ⟨rfl,J⟩ _;subst J;refine aC (λG=>?_) (λG=>?_)
 .unfold fV
  first|(rw[ez B];exact⟨rfl,E.aG⟩)|(rw[ew B,ez G];exact⟨rfl,E.aG⟩)|(rw[ew B,ew G];exact⟨rfl,E.aG⟩)
 unfold fV
 first|(rw[ez B];exact⟨rfl,E.aG⟩)|(rw[ew B,ez G];exact⟨rfl,E.aG⟩)|(rw[ew B,ew G];exact⟨rfl,E.aG⟩)
def C243(U:Value)(xs:List nW)(w:World)(J:dP (λ_=>True) w U xs)(hn:xs.length<=1048576):CR 243 [U] w (λv w'=>v=.tuple #[iE (htN xs),iE (htH xs),.bool (ht xs).isSome]/\Ext w w'):=by
 have B:=St.start w;refine fD Tryz.func243 ?_;refine aK rz (J.ext B.aG) ?_;refine⟨λm y z x M=>∃(k:Nat) (n h:Int),y=iE n/\z=iE h/\x=iE (k:Int)/\m=xs.length-k/\k<=xs.length/\ht (xs.take k)=some (n,h)/\St w bE [] M,⟨_,0,0,0,rfl,rfl,rfl,rfl,cU,rfl,B⟩,?_⟩;rintro m _ _ _ M ⟨k,n,h,rfl,rfl,rfl,rfl,hk,E,B⟩ _;refine aV (aC (λV=>?_) λV=>?_)
 .obtain⟨O,G⟩:=gx xs (i:=(k:Int).toNat) cU;refine aW rz (J.ext B.aG) cU G (λ_ W=>aE HQ W (aJ B MQ λEP _ B=>aH (x:=O) B HQ rfl rfl λ_ B=>aA oB (aB bL B.hb rfl (aY aaB B (C149 _ _) λ_ he B=>?_))));have hw:=VY O.kind;have Y:=amE k n h cU E;refine fO cU (aV (aC (λI=>?_) λI=>aR cU (CT (aR cU ⟨_,cU,k+1,_,_,rfl,rfl,rfl,rfl,cU,by rw[C1 (k:=k) G,E];unfold ZX;simp only[];rw[ew I],B.drop⟩))));have Z:ht xs=none:=VX (k:=k+1) (by rw[C1 (k:=k) G,E];unfold ZX;simp only[];rw[ez I])
  unfold htN htH;rw[Z];exact⟨rfl,B.aG⟩
 rw[mH cU]at E;unfold htN htH;rw[E];exact⟨rfl,B.aG⟩
def C242(x:nW)(b2:Nat)(many:Int)(w:World)(hc:Cell w b2 0 (iE many)):CR 242 [jj x,.pointer (some ⟨b2,0,none⟩)] w (λv w'=>v=.bool (wK many x)/\Ext w w'):=by
 have B:=St.start w;refine fD Tryz.func242 ?_;refine cP B (λY _ B=>aA oB (aB bL B.hb rfl (aI (aC (λG=>⟨_,aA rB (aB bL B.hb rfl (aV (aC (λU=>?_) λU=>?_))),λ_ _ h=>h⟩) λG=>aA oB (aB bL B.hb rfl (aI (aC (λV=>⟨_,aA rB (aB bL B.hb rfl (aV (aC (λW=>?_) λW=>?_))),λ_ _ h=>h⟩) λV=>?_)))))))
 .intro J;refine⟨vb ?_,B.aG⟩;unfold wK
  first|exact(fY cU).symm|exact(gk cU).symm|exact gv.2 cU
 .refine aA rB (aB bL B.hb rfl (eh ?_));intro J;refine⟨vb ?_,B.aG⟩;unfold wK
  first|exact(fY cU).symm|exact(gk cU).symm|exact gv.2 cU
 .intro I;refine⟨vb ?_,B.aG⟩;unfold wK
  first|exact(fY cU).symm|exact(gk cU).symm|exact gv.2 cU
 .refine aA rB (aB bL B.hb rfl (bN bL (hc.ext B.aG) (dC ?_)));intro I;refine⟨vb ?_,B.aG⟩;unfold wK
  first|exact(fY cU).symm|exact(gk cU).symm|exact gv.2 cU
 refine⟨_,?_,λ_ _ h=>h⟩;refine aA rB (aB bL B.hb rfl (cN (aC (λM=>?_) λM=>aA oB (aB bL B.hb rfl (aV (aC (λO=>?_) λO=>?_))))))
 .intro E;refine⟨vb ?_,B.aG⟩;unfold wK
  first|exact(fY cU).symm|exact(gk cU).symm|exact gv.2 cU
 .intro E;refine⟨vb ?_,B.aG⟩;unfold wK
  first|exact(fY cU).symm|exact(gk cU).symm|exact gv.2 cU
 refine aA oB (aB bL B.hb rfl (dC ?_));intro E;refine⟨vb ?_,B.aG⟩;unfold wK
 first|exact(fY cU).symm|exact(gk cU).symm|exact gv.2 cU
def C309(O fv:Value)(xs:List nW)(g:nW->Bool)(w:World)(M:dP (λ_=>True) w O xs)(V:vG w fv g)(hn:xs.length<=1073741824):CR 309 [O,fv] w (λv w'=>v=iE (pY g xs)/\Ext w w'):=by
 obtain⟨g0,first,cap,rfl,U,W⟩:=V;have B:=St.start w;refine fD Tryz.func309 ?_;refine aK rz (M.ext B.aG) ?_;refine⟨λm x I=>∃k:Nat,x=iE (k:Int)/\m=xs.length-k/\k<=xs.length/\(∀y∈xs.take k,g y=false)/\St w bE [] I,⟨_,0,rfl,rfl,ob _,et,B⟩,?_⟩;rintro m _ I ⟨k,rfl,rfl,hk,E,B⟩ _;refine aV (aC (λlR=>?_) λ_=>⟨gD (n5 .i64) (gJ (by rw[mH cU]at E;exact E)).symm,B.aG⟩);obtain⟨Y,G⟩:=gx xs (i:=(k:Int).toNat) cU;refine aW rz (M.ext B.aG) cU G (λ_ Z=>aE HQ Z (fm U (W Y I B.aG) ?_))
 rintro _ _ ⟨rfl,he⟩;have B:=B.ext he;exact aX (λJ=>⟨gD (n5 .i64) (jT E G J).symm,B.aG⟩) (λJ=>aR cU ⟨xs.length-(k+1),cU,k+1,rfl,rfl,cU,fg E G J,B⟩)
def C244(E fv:Value)(xs:List nW)(g:nW->Bool)(w:World)(G:dP (λ_=>True) w E xs)(I:vG w fv g)(J:xs.length<=1073741824):CR 244 [E,fv] w (λv w'=>v=.bool (xs.any g)/\Ext w w'):=by
 have B:=St.start w;refine fD Tryz.func244 ?_;exact aY arG B (C309 _ _ _ _ _ (G.ext B.aG) (I.ext B.aG) cU) (λ_ _ B=>dC ⟨vb (iJ _ _),B.aG⟩)
def C136(O:Value)(xs:List nW)(many:Int)(w:World)(E:dP (λ_=>True) w O xs)(Z:xs.length<=1048576):CR 136 [O,iE many] w (λv w'=>v=.bool (fa xs many)/\Ext w w'):=by
 have B:=St.start w;refine fD Tryz.func136 ?_;refine ni B rfl (λM J B=>aY arl B (C243 _ _ _ (E.ext B.aG) cU) λ_ Y B=>aN rfl (aN rfl (aN rfl ?_)));refine⟨_,?_,λ_ _ h=>h⟩;refine aK rz (E.ext B.aG) (kq (aC (λU=>aX (λV=>aI (aC (λW=>?_) λW=>?_)) λV=>?_) λU=>?_))
 .have I:vG _ (.func (.func 242) [].toArray [.pointer (some ⟨M,0,none⟩)].toArray) (wK many):=
   ⟨242,[],_,rfl,ark,λy J e1=>C242 y M many J ((B.hb.cell rfl).ext e1)⟩
  refine aY arn B (C244 _ _ _ _ _ (E.ext B.aG) I cU) (λ_ Y B=>bJ ?_);intro G;refine⟨vb ?_,B.aG⟩;unfold fa
  simp_all<;>omega
 .intro G;refine⟨vb ?_,B.aG⟩;unfold fa
  simp_all<;>omega
 .intro G;refine⟨vb ?_,B.aG⟩;unfold fa
  simp_all<;>omega
 intro G;refine⟨vb ?_,B.aG⟩;unfold fa
 simp_all<;>omega
def pZ(b:Nat)(rest:List Value)(l:List Int):HP:=ph λB=>sep (bU b (B::rest)) (bG B l)
def pZ.shut{w0 w:World}{A:Nat->Prop}{R:List HP}{b:Nat}{rest:List Value}{B:Value}{l:List Int}(E:St w0 A (bU b (B::rest)::bG B l::R) w):St w0 A (pZ b rest l::R) w:=
 St.dX (H:=λB=>sep (bU b (B::rest)) (bG B l)) B (St.join E)
def pZ.open{w0 w:World}{A:Nat->Prop}{R:List HP}{b:Nat}{rest:List Value}{l:List Int}(E:St w0 A (pZ b rest l::R) w):∃B,St w0 A (bU b (B::rest)::bG B l::R) w:=by
 obtain⟨B,E⟩:=E.dU;exact⟨B,E.split⟩
def mY(l:List Int):Int:=l.getD (l.length-1) 0
theorem abl{l:List Int}{e:Int}(h:l[((l.length:Int)-1).toNat]?=some e):e=mY l:=by
 simp_all[mY]
def C254(b:Nat)(n:Int)(rest:List Value)(l:List Int)(F:Nat->Prop)(w:World)(G:(pZ b rest l).p w F)(J:l.length<=1048576):CR 254 [.pointer (some ⟨b,0,none⟩),iE n] w (λv w'=>v=.tuple #[]/\ng F (pZ b rest (l++[n])) w w'):=by
 have B:=St.begin G;obtain⟨M,B⟩:=B.dU;have B:=B.split;refine fD Tryz.func254 ?_;refine aD (aA rC (aB eD B.hb rfl (bV ([n]:List Int) B dZ rfl rfl (ei rfl) λE _ B=>?_)));have I:=B.fc;exact cK B.p2 dZ I (by simp<;>omega) er (λ_ _ B=>have B:=B.p1.drop;aD (aA rC (aO B.p1 eD (ei rfl) B.fc.one λ_ B=>have B:=B.p1.p1;⟨rfl,(pZ.shut B).mut⟩)))
def C152(b:Nat)(rest:List Value)(l:List Int)(F:Nat->Prop)(w:World)(J:(pZ b rest l).p w F)(O:l.length<=1048576)(M:0<l.length):CR 152 [.pointer (some ⟨b,0,none⟩)] w (λv w'=>v=iE (mY l)/\ng F (pZ b rest (l.take (l.length-1))) w w'):=by
 have B:=St.begin J;obtain⟨U,B⟩:=B.dU;have B:=B.split;refine pG Tryz.func152 (pl:=azH) ?_;refine aD (aA rC (have B:=B.drew;aB eD B.hb rfl (aD (aA rC (aB eD B.hb rfl (aK dZ B.p1.fc (fO cU ?_)))))));obtain⟨V,E⟩:=gx l (i:=((l.length:Int)-1).toNat) cU;refine dN B.p1 dZ cU cU (λ_ G=>gW B.p1 bL G E (aD (aA rC (have B:=B.drew;aB eD B.hb rfl (aD (aA rC (aB eD B.hb rfl (aK dZ B.p1.fc (fO cU (have B:=B.p1;H7 dZ B cU cU λI B=>aD (aA rC ?_)))))))))))
 refine aO B.p1 eD (ei rfl) B.fc.one (λ_ B=>?_);have B:=B.p1.p1;rw[show((l.length:Int)-1).toNat=l.length-1 from cU]at B;rw[abl E];exact⟨rfl,(pZ.shut B).mut⟩
def C150(b:Nat)(n hi:Int)(l:List Int)(F:Nat->Prop)(w:World)(E:(pZ b [iE hi] l).p w F)(I:l.length<=1048576):CR 150 [.pointer (some ⟨b,0,none⟩),iE n] w (λv w'=>v=.tuple #[]/\∃G,ng F (pZ b [iE G] (l++[n])) w w'):=by
 have B:=St.begin E;refine pG Tryz.func150 (pl:=azG) ?_;refine aD (aA wE (q7 arw B (H':=λ_=>pZ b [iE hi] (l++[n])) (Φ:=λv _=>v=.tuple #[]) (λF E=>?_) ?_))
 .exact C254 b n _ l F _ E cU
 rintro _ _ rfl B;obtain⟨J,B⟩:=pZ.open B;exact aD (aA Pl (have B:=B.drew;aB bL B.hb rfl (aD (aA wE (aA rC (aB eD B.hb rfl (aK dZ B.p1.fc (CT (aD (aA Pl (aO B bL (ei rfl) (rfl) λ_ B=>have B:=B.p1.p1;⟨rfl,_,(pZ.shut B).mut⟩)))))))))))
def rH(ns S:List Int)(x:nW):List Int:=
 if fV x.kind=0 then S++[if x.kind=2 then ns.getD x.n.toNat 0 else x.n]
 else if fV x.kind=1 then S.take (S.length-1)++[EM x.kind (mY S)]
 else S.take (S.length-2)++[rG x.kind (mY (S.take (S.length-1))) (mY S)]
def Kl(S:List Int)(x:nW):Int:=if fV x.kind=2 then rF x.kind (mY S)else 0
def MZ(ns:List Int):List nW->List Int->Int×Int
 | [],S=>(mY S,0)
 | x::r,S=>if Kl S x=0 then MZ ns r (rH ns S x)else(0,Kl S x)
def runM(l:List nW)(ns:List Int):Int×Int:=if fa l ns.length=true then MZ ns l []else(0,8)
def C3(k:Int):fV k=0\/fV k=1\/fV k=2:=by
 grind[fV]
section
variable {xs:List nW}{ns S:List Int}{k:Nat}{x:nW}{n h:Int}
theorem G0(B:xs[k]?=some x)(h:Kl S x=0):MZ ns (xs.drop k) S=MZ ns (xs.drop (k+1)) (rH ns S x):=by
 obtain⟨G,E⟩:=j0.1 B
 rw[vP G,E,MZ,ez h]
theorem abn(B:xs[k]?=some x)(h:¬ Kl S x=0):MZ ns (xs.drop k) S=(0,Kl S x):=by
 obtain⟨G,E⟩:=j0.1 B
 rw[vP G,E,MZ,ew h]
theorem Km{many:Int}(h:fa xs many=true):xs.length<=40/\(∃a,ht xs=some (1,a))/\∀x∈xs,wK many x=false:=by
 unfold fa at h
 rw[n3,n3,n3,decide_eq_true_eq,decide_eq_true_eq]at h
 obtain⟨⟨⟨h1,h2⟩,h3⟩,h4⟩:=h
 refine⟨h1,?_,λx B=>?_⟩
 .unfold htN at h3
  grind
 grind
theorem Yj(B:fV x.kind<=(S.length:Int)):((rH ns S x).length:Int)=S.length-fV x.kind+1:=by
 unfold rH
 rcases C3 x.kind with h|h|h
 .grind
 .grind
 grind
theorem Yk{a:Int}(J:ht xs=some (1,a))(E:ht (xs.take k)=some ((S.length:Int),h))(G:xs[k]?=some x) :
  fV x.kind<=(S.length:Int)/\∃I,ht (xs.take (k+1))=some (((rH ns S x).length:Int),I):=by
 have B:fV x.kind<=(S.length:Int):=by
  rcases Int.lt_or_le ((S.length:Int)-fV x.kind) 0 with h1|h1
  .have:=VX (amF G E rfl h1);grind
  .omega
 exact⟨B,_,(ag2 G E rfl cU).trans (by rw[Yj B])⟩
theorem amG(B:fV x.kind=0)(h2:¬ x.kind=2):rH ns S x=S++[x.n]:=by unfold rH;grind
theorem amH{e:Int}(E:fV x.kind=0)(h2:x.kind=2)(B:ns[x.n.toNat]?=some e):rH ns S x=S++[e]:=by
 grind[rH]
theorem amI(B:fV x.kind=1):rH ns S x=S.take (S.length-1)++[EM x.kind (mY S)]:=by unfold rH;rw[ew cU,ez B]
theorem amJ(B:fV x.kind=2):rH ns S x=S.take (S.length-2)++[rG x.kind (mY (S.take (S.length-1))) (mY S)]:=by unfold rH;rw[ew cU,ew cU]
theorem abo(B:¬ fV x.kind=2):Kl S x=0:=by unfold Kl;omega
theorem akc(B:fV x.kind=2):Kl S x=rF x.kind (mY S):=by unfold Kl;omega
theorem Tf(h:2<=S.length):(S.take (S.length-1)).take ((S.take (S.length-1)).length-1)=S.take (S.length-2):=by
 grind
end
def od(b:Nat)(l:List Int):HP:=ph fun (hi:Int)=>pZ b [iE hi] l
def od.shut{w0 w:World}{A:Nat->Prop}{R:List HP}{b:Nat}{hi:Int}{l:List Int}(B:St w0 A (pZ b [iE hi] l::R) w):St w0 A (od b l::R) w:=
 St.dX (H:=fun (hi:Int)=>pZ b [iE hi] l) hi B
def ag3(b:Nat)(n:Int)(l:List Int)(F:Nat->Prop)(w:World)(B:(od b l).p w F)(G:l.length<=1048576) :
  Calls hZ 150 [.pointer (some ⟨b,0,none⟩),iE n].toArray w (rZ λv w'=>v=.tuple #[]/\ng F (od b (l++[n])) w w'):=by
 obtain⟨hi,B⟩:=B
 refine(C150 b n hi l F w B G).mono λe w' ⟨v,J,M,E,I,h1,h2⟩=>⟨v,J,M,I,⟨E,h1⟩,h2⟩
def ag4(b:Nat)(l:List Int)(F:Nat->Prop)(w:World)(B:(od b l).p w F)(G:l.length<=1048576)(E:0<l.length) :
  Calls hZ 152 [.pointer (some ⟨b,0,none⟩)].toArray w (rZ λv w'=>v=iE (mY l)/\ng F (od b (l.take (l.length-1))) w w'):=by
 obtain⟨hi,B⟩:=B
 refine(C152 b [iE hi] l F w B G E).mono λe w' ⟨v,J,M,I,h1,h2⟩=>⟨v,J,M,I,⟨hi,h1⟩,h2⟩
def C79(sv nv:Value)(xs:List nW)(ns:List Int)(w:World)(hL:dP (λ_=>True) w sv xs)(hN:dP (λ_=>True) w nv ns)(hn:xs.length<=1048576):CR 79 [sv,nv] w (λv w'=>v=.tuple #[iE (runM xs ns).1,iE (runM xs ns).2]/\Ext w w'):=by
 have B:=St.start w;refine ame _ _ _ _ ?_;unfold S79;refine aK dZ (hN.ext B.aG) (aY Vu B (C136 _ _ _ _ (hL.ext B.aG) hn) λw1 he B=>bJ (aX (λjh=>?_) λjh=>?_))
 .unfold runM;rw[ew (by simpa using jh)];exact⟨rfl,B.aG⟩
 refine aJ B agO (λG _ B=>?_);have B:=od.shut (pZ.shut (B.eU (α:=Int)).p1);have kz:fa xs (ns.length:Int)=true:=by simpa using jh
 obtain⟨h40,⟨a0,qF⟩,aAm⟩:=Km kz;refine aK rz (hL.ext B.aG) ?_;refine⟨λm x w1=>∃(k:Nat) (S:List Int) (h:Int),x=iE (k:Int)/\m=xs.length-k/\k<=xs.length/\MZ ns xs []=MZ ns (xs.drop k) S/\ht (xs.take k)=some ((S.length:Int),h)/\St w bE [od G S] w1,⟨_,0,[],0,rfl,rfl,cU,rfl,rfl,B⟩,?_⟩;rintro m _ _ ⟨k,S,h,rfl,rfl,hk,U,PN,B⟩ _;refine aV (aC (λmE=>?_) λmE=>?_)
 .refine⟨_,?_,λ_ h=>h⟩;obtain⟨E,M⟩:=gx xs (i:=(k:Int).toNat) cU;refine aW rz (hL.ext B.aG) cU M (λ_ wL=>aE HQ wL (aJ B MQ λEP _ B=>aH (x:=E) B HQ rfl rfl λ_ B=>aA oB (aB bL B.hb rfl (aY aaB B (C149 _ _) λ_ he B=>?_))));have Z:=aAm _ (ml M);unfold wK at Z;have ho:=hM Z;obtain⟨hw0,h2,J⟩:=Yk (ns:=ns) (k:=k) qF PN M;have hwk:fV E.kind=0->E.kind=1\/E.kind=2\/¬ (E.kind=1\/E.kind=2):=λ_=>cU
  have hSk:=amE k _ _ cU PN;have hw3:=C3 E.kind;refine aI (aC (λC4=>aA rB (aB bL B.hb rfl ⟨_,aA oB (aB bL B.hb rfl (aI (aC (λyy=>?_) λyy=>?_))),λ_ _ h=>h⟩)) λC4=>aI (aC (λY=>?_) λY=>?_))
  .refine aA rB (aB bL B.hb rfl ?_);obtain⟨V,W⟩:=gx ns (i:=E.n.toNat) cU;refine aW dZ (hN.ext B.aG) cU W (λ_ abq=>aE bL abq ?_);intro yP;refine q7 Vw B.p1 (H':=λ_=>od G (S++[V])) (Φ:=λv _=>v=.tuple #[]) (λF I=>?_) ?_
   .exact ag3 G V S F _ I (by first|omega|(simp only[n0,lJ,mv];omega))
   rintro _ w8 rfl B;intro Ig;refine aR cU ?_;have B:=B.p1.drop;have O:rH ns S E=_:=amH C4 yy W;exact⟨_,cU,k+1,_,_,rfl,rfl,cU,U.trans (G0 (k:=k) M (abo cU)),J,by rw[O];exact B⟩
  .intro yP;refine q7 Vw B.p1 (H':=λ_=>od G (S++[E.n])) (Φ:=λv _=>v=.tuple #[]) (λF I=>?_) ?_
   .exact ag3 G E.n S F _ I (by first|omega|(simp only[n0,lJ,mv];omega))
   rintro _ w8 rfl B;intro Ig;refine aR cU ?_;have B:=B.p1.drop;have O:rH ns S E=_:=amG C4 yy;exact⟨_,cU,k+1,_,_,rfl,rfl,cU,U.trans (G0 (k:=k) M (abo cU)),J,by rw[O];exact B⟩
  .refine aA oB (have B:=B.drew;aB bL B.hb rfl (aA wE (q7 Vx B.p1 (H':=λ_=>od G (S.take (S.length-1))) (Φ:=λv _=>v=iE (mY S)) (λF I=>?_) ?_)))
   .exact ag4 G S F _ I (by first|omega|(simp only[n0,lJ,mv];omega)) (by first|omega|(simp only[n0,lJ,mv];omega))
   rintro _ _ rfl B;refine⟨aF bL (B.p1.hb.cell rfl),?_⟩;refine aY aq4 B (C151 _ _ _) (λ_ he B=>aN rfl (aN rfl (q7 Vw B (H':=λ_=>od G ((S.take (S.length-1))++[(EM E.kind (mY S))])) (Φ:=λv _=>v=.tuple #[]) (λF I=>?_) ?_)))
   .exact ag3 G (EM E.kind (mY S)) (S.take (S.length-1)) F _ I (by first|omega|(simp only[n0,lJ,mv];omega))
   rintro _ _ rfl B;intro Ig;refine aR cU ?_;have B:=B.p1.drop;have O:rH ns S E=_:=amI Y;exact⟨_,cU,k+1,_,_,rfl,rfl,cU,U.trans (G0 (k:=k) M (abo cU)),J,by rw[O];exact B⟩
  refine aA wE (q7 Vx B.p1 (H':=λ_=>od G (S.take (S.length-1))) (Φ:=λv _=>v=iE (mY S)) (λF I=>?_) ?_)
  .exact ag4 G S F _ I (by first|omega|(simp only[n0,lJ,mv];omega)) (by first|omega|(simp only[n0,lJ,mv];omega))
  rintro _ _ rfl B;refine aA oB (have B:=B.drew;aB bL B.p1.hb rfl (aA wE (q7 Vx B (H':=λ_=>od G ((S.take (S.length-1)).take ((S.take (S.length-1)).length-1))) (Φ:=λv _=>v=iE (mY (S.take (S.length-1)))) (λF I=>?_) ?_)))
  .exact ag4 G (S.take (S.length-1)) F _ I (by first|omega|(simp only[n0,lJ,mv];omega)) (by first|omega|(simp only[n0,lJ,mv];omega))
  rintro _ _ rfl B;refine⟨aF bL (B.p1.hb.cell rfl),?_⟩;refine aY aq5 B (C153 _ _ _ _) (λ_ he B=>aN rfl (aN rfl (cN (aC (λn8=>?_) λn8=>?_))))
  .have hz:Kl S E=rF E.kind (mY S):=akc (by have:=C3 E.kind;omega);unfold runM;rw[ez kz,U,abn (k:=k) M (by rw[hz];exact n8),hz];exact⟨rfl,B.aG⟩
  refine q7 Vw B (H':=λ_=>od G (((S.take (S.length-1)).take ((S.take (S.length-1)).length-1))++[(rG E.kind (mY (S.take (S.length-1))) (mY S))])) (Φ:=λv _=>v=.tuple #[]) (λF I=>?_) ?_
  .exact ag3 G (rG E.kind (mY (S.take (S.length-1))) (mY S)) ((S.take (S.length-1)).take ((S.take (S.length-1)).length-1)) F _ I (by first|omega|(simp only[n0,lJ,mv];omega))
  rintro _ _ rfl B;intro Ig;refine aR cU ?_;have B:=B.p1.drop;rw[Tf cU]at B;have O:rH ns S E=_:=amJ (by have:=C3 E.kind;omega);exact⟨_,cU,k+1,_,_,rfl,rfl,cU,U.trans (G0 (k:=k) M ((akc (by have:=C3 E.kind;omega)).trans (DY.1 n8))),J,by rw[O];exact B⟩
 refine aA wE ?_
 have hS1:S.length=1:=by
  rw[mH cU,qF]at PN;have:=(Prod.mk.inj (o5.inj PN)).1;omega
 refine q7 Vx B (H':=λ_=>od G (S.take (S.length-1))) (Φ:=λv _=>v=iE (mY S)) (λF I=>?_) ?_
 .exact ag4 G S F _ I (by first|omega|(simp only[n0,lJ,mv];omega)) (by first|omega|(simp only[n0,lJ,mv];omega))
 rintro _ _ rfl B;unfold runM;rw[ez kz,U,xr cU];exact⟨rfl,B.aG⟩
def bR(ns:List ByteArray)(s:ByteArray):Int:=pY (λy=>decide (y=s)) ns
def gS(p:bQ):List cG:=p.lines.flatten++p.jR
structure PS(p:bQ):Prop where
 lines:p.lines.length<=500
 line:∀l∈p.lines,l.length<=500
 jR:p.jR.length<=500
 locks:p.locks.length<=500
 threads:p.threads.length<=500
 recover:p.recover.length<=500
 cB:p.cB.length<=500
 aS:∀t∈p.threads++p.recover,t.aS.length<=500
 body:∀t∈p.threads++p.recover,t.body.length<=500
theorem dL{ls:List (List cG)}(h:∀l∈ls,l.length<=500):ls.flatten.length<=500*ls.length:=by
 induction ls with
 | nil=>simp
 | cons a ls B=>
  grind
def wM{p:bQ}(h:PS p):(gS p).length<=250500:=by
 have h1:=dL h.line
 have h2:=h.lines
 have h3:=h.jR
 grind[gS]
theorem ig{α β:Type}{f:α->β}{l:List α}{k:Nat}{e:α}(h:l[k]?=some e):(l.take k).map f++[f e]=(l.take (k+1)).map f:=by rw[<- gI h,vB];rfl
def kids(k:Int):Int:=if k=1\/k=2 then 0 else if k=3\/k=4 then 1 else if 5<=k/\k<=15 then 2 else -1
def zJ(k:Int) : -1<=kids k/\kids k<=2:=by
 grind[kids]
def iq(c:Int):Bool:=decide (97<=c/\c<=122\/c=95)
def lf(c:Int):Bool:=decide (48<=c/\c<=57)
def km:List ByteArray:=[⟨#[108,105,110,101]⟩,⟨#[118,111,108]⟩,⟨#[108,111,99,107]⟩,⟨#[116,104,114,101,97,100]⟩,⟨#[114,101,103]⟩,⟨#[108,111,97,100]⟩,⟨#[115,116,111,114,101]⟩,⟨#[99,97,115]⟩,⟨#[102,108,117,115,104]⟩,⟨#[111,112,116]⟩,⟨#[115,102,101,110,99,101]⟩,⟨#[109,102,101,110,99,101]⟩,⟨#[116,97,107,101]⟩,⟨#[103,105,118,101]⟩,⟨#[105,102]⟩,⟨#[101,108,115,101]⟩,⟨#[108,111,111,112]⟩,⟨#[98,114,101,97,107]⟩,⟨#[99,104,101,99,107]⟩,⟨#[114,101,99,111,118,101,114]⟩,⟨#[97,108,119,97,121,115]⟩]
def iu(s:ByteArray):Bool:=!(decide (s.size<1\/16<s.size)||(match (jn s)[0]? with|some c=>!iq c.toNat|none=>true)||km.any λy=>decide (y=s))&&!(jn s).any (λc=>!iq c.toNat&&!lf c.toNat)
def skip:Nat->List bY->Option (List bY)
 | 0,l=>some l
 | _+1,[]=>none
 | n+1,x::l=>if kids x.op<0 then none else skip (n+(kids x.op).toNat) l
theorem BR(l:List bY):skip 0 l=some l:=by cases l<;>rfl
theorem Ii(l:List bY):∀a b,skip (a+b) l=(skip a l).bind (skip b):=by
 induction l with
 | nil=>
  intro a b
  cases a with
  | zero=>rw[uf,BR];rfl
  | succ a=>grind[skip]
 | cons x l B=>
  intro a b
  cases a with
  | zero=>rw[uf,BR];rfl
  | succ a=>
   grind[skip]
theorem Ij(l:List bY):∀n r,skip n l=some r->r=l.drop (l.length-r.length)/\r.length+min n 1<=l.length:=by
 induction l with
 | nil=>
  intro n r h
  cases n with
  | zero=>rw[BR]at h;grind
  | succ n=>cases h
 | cons x l B=>
  intro n r h
  cases n with
  | zero=>rw[BR]at h;simp_all
  | succ n=>
   have h:(if kids x.op<0 then none else skip (n+(kids x.op).toNat) l)=some r:=h
   split at h
   .cases h
   .obtain⟨h1,h2⟩:=B _ _ h
    refine⟨?_,dH⟩
    rw[show(x::l).length-r.length=(l.length-r.length)+1 from dH]
    exact h1
def Gs(n:Nat)(o:Option (List bY)):Int:=match o with|some r=>(n:Int)-r.length|none=>-1
def sR(xs:List bY)(i:Int):Int:=if i<0 then -1 else Gs xs.length (skip 1 (xs.drop i.toNat))
def abr{xs:List bY}{i:Int}{x:bY}(I:0<=i)(B:xs[i.toNat]?=some x)(J:0<=kids x.op):sR xs i=Gs xs.length (skip (kids x.op).toNat (xs.drop (i.toNat+1))):=by
 unfold sR
 obtain⟨E,G⟩:=j0.1 B
 rw[ew cU,vP E,G]
 show Gs _ (if kids x.op<0 then none else skip (0+(kids x.op).toNat) _)=_
 grind
theorem ag6{xs:List bY}{i:Int}{x:bY}(I:0<=i)(B:xs[i.toNat]?=some x)(J:kids x.op<0):sR xs i = -1:=by
 unfold sR
 obtain⟨E,G⟩:=j0.1 B
 rw[ew cU,vP E,G]
 grind[Gs,skip]
theorem ag7{xs:List bY}{i:Int}(h:i<0\/xs.length<=i):sR xs i = -1:=by
 unfold sR
 split
 .rfl
 rw[xr cU];rfl
theorem asz{xs:List bY}{j k:Nat}{a:Int}(h:Gs xs.length (skip k (xs.drop j))=a)(B:0<=a):sR xs a=Gs xs.length (skip (k+1) (xs.drop j))/\((j:Int)<=a\/xs.length<=a):=by
 cases hs:skip k (xs.drop j)with
 | none=>rw[hs]at h;unfold Gs at h;simp only[]at h;omega
 | some r=>
  rw[hs]at h
  have h:(xs.length:Int)-r.length=a:=h
  obtain⟨h1,h2⟩:=Ij _ _ _ hs
  rw[tx]at h1 h2
  rw[Ii,hs]
  show _=Gs _ (skip 1 r)/\_
  refine⟨?_,cU⟩
  unfold sR
  rw[ew cU]
  by_cases E:j<=xs.length
  .have:xs.drop a.toNat=r:=by
    rw[h1,uL,show j+(xs.length-j-r.length)=a.toNat from cU]
   rw[this]
  .have:r=[]:=vI.1 cU
   subst this
   rw[xr (by simp at h;omega)]
theorem amK{xs l:List bY}{k j:Nat}(B:l.length<=xs.length)(h:¬ 0<=Gs xs.length (skip k l))(E:k<=j):Gs xs.length (skip k l)=Gs xs.length (skip j l):=by
 cases hs:skip k l with
 | none=>rw[show j=k+(j-k)from cU,Ii,hs];rfl
 | some r=>
  obtain⟨_,h2⟩:=Ij _ _ _ hs
  rw[hs]at h;unfold Gs at h;simp only[]at h;omega
theorem aAo{xs l:List bY}{k:Nat}(B:l.length<=xs.length) : -1<=Gs xs.length (skip k l)/\Gs xs.length (skip k l)<=xs.length:=by
 cases hs:skip k l with
 | none=>unfold Gs;simp only[];omega
 | some r=>
  obtain⟨_,h2⟩:=Ij _ _ _ hs
  unfold Gs;simp only[];omega
def C342(k:Int)(w:World):CR 342 [iE k] w (λv w'=>v=iE (kids k)/\Ext w w'):=by
 have G:=St.start w;refine fD Tryz.func342 ?_;refine⟨λB w'=>B=.bool (decide (k=1\/k=2))/\w=w',aI (aC (λ_=>⟨Vr cU,rfl⟩) λ_=>aI ⟨Hw cU,rfl⟩),?_⟩;rintro _ _ ⟨rfl,E⟩ _;subst E;refine aC (λI=>?_) (λI=>⟨λB w'=>B=.bool (decide (k=3\/k=4))/\w=w',aI (aC (λ_=>⟨Vr cU,rfl⟩) λ_=>aI ⟨Hw cU,rfl⟩),?_⟩)
 .unfold kids;exact⟨gD (n5 .i64) dH,G.aG⟩
 rintro _ _ ⟨rfl,E⟩ _;subst E;refine aC (λM=>?_) (λM=>⟨λB w'=>B=.bool (decide (5<=k/\k<=15))/\w=w',dC (aC (λ_=>kq ⟨Hw cU,rfl⟩) λ_=>⟨jvF cU,rfl⟩),?_⟩)
 .unfold kids;exact⟨gD (n5 .i64) dH,G.aG⟩
 rintro _ _ ⟨rfl,E⟩ _;subst E;refine aC (λJ=>?_) (λJ=>?_)
 .unfold kids;exact⟨gD (n5 .i64) dH,G.aG⟩
 unfold kids;exact⟨gD (n5 .i64) dH,G.aG⟩
def C193(c:Int)(w:World):CR 193 [.int .u8 c] w (λv w'=>v=.bool (iq c)/\Ext w w'):=by
 have G:=St.start w;refine fD Tryz.func193 ?_;refine⟨λB w'=>B=.bool (decide (97<=c/\c<=122\/c=95))/\w=w',CW (aC (λ_=>CV (aC (λ_=>⟨Vr cU,rfl⟩) λ_=>oE ⟨Hw cU,rfl⟩)) λ_=>oE ⟨Hw cU,rfl⟩),?_⟩;rintro _ _ ⟨rfl,E⟩ _;subst E;exact⟨rfl,G.aG⟩
def C194(c:Int)(w:World):CR 194 [.int .u8 c] w (λv w'=>v=.bool (lf c)/\Ext w w'):=by
 have G:=St.start w;refine fD Tryz.func194 ?_;refine⟨λB w'=>B=.bool (decide (48<=c/\c<=57))/\w=w',CW (aC (λ_=>CV ⟨Hw cU,rfl⟩) λ_=>⟨jvF cU,rfl⟩),?_⟩;rintro _ _ ⟨rfl,E⟩ _;subst E;exact⟨rfl,G.aG⟩
def C284(s:ByteArray)(w:World):CR 284 [.string s] w (λv w'=>v=.bool (km.any λy=>decide (y=s))/\Ext w w'):=by
 have B:=St.start w;refine fD Tryz.func284 ?_;refine bV km B kN rfl rfl (ei rfl) (λO J B=>?_);refine⟨λm x J=>∃k:Nat,x=iE (k:Int)/\m=km.length-k/\k<=km.length/\(∀y∈km.take k,decide (y=s)=false)/\St w bE [bG O km] J,⟨_,0,rfl,rfl,ob _,et,B⟩,?_⟩;rintro m _ _ ⟨k,rfl,rfl,V,I,B⟩ _;have Y:km.length=21:=rfl;refine aK kN B.fc (aV (aC (λM=>?_) λM=>?_))
 .skip;obtain⟨W,E⟩:=gx km (i:=(k:Int).toNat) cU;exact dN B kN cU cU (λ_ U=>gW B ke U E (kJ (aC (λG=>⟨vb (tT E (fY G)).symm,B.aG⟩) λG=>aR cU ⟨_,cU,k+1,rfl,rfl,cU,fg I E (gk G),B⟩)))
 rw[mH cU]at I;exact⟨vb (pX I).symm,B.aG⟩
def C198(s:ByteArray)(w:World)(hn:s.size<=1048576):CR 198 [.string s] w (λv w'=>v=.bool (iu s)/\Ext w w'):=by
 have B:=St.start w;refine fD Tryz.func198 ?_;refine⟨λM w'=>M=.bool (decide (s.size<1\/16<s.size)||(match (jn s)[0]? with|some c=>!iq c.toNat|none=>true)||km.any λy=>decide (y=s))/\St w bE [] w',fG gL (aV (aC (λ_=>⟨vb dH,B⟩) λuM=>fG gL (eh (aC (λ_=>⟨vb dH,B⟩) λiQ=>?_)))),?_⟩
 .obtain⟨jz,V⟩:∃G,(jn s)[(0:Int).toNat]?=some G:=⟨_,l0 (by rw[eu];omega)⟩;exact kU gL cU V (aY VA B (C193 _ _) λ_ _ B=>bJ (aX (λ_=>⟨vb dH,B⟩) λ_=>aY arC B (C284 _ _) λ_ _ B=>⟨vb dH,B⟩))
 rintro _ _ ⟨rfl,B⟩ _;refine aX (λO=>?_) (λO=>?_)
 .refine⟨vb ?_,B.aG⟩;unfold iu;rw[O];rfl
 refine⟨λm x Z=>∃k:Nat,x=iE (k:Int)/\m=(jn s).length-k/\k<=(jn s).length/\(∀y∈(jn s).take k,(!iq y.toNat&&!lf y.toNat)=false)/\St w bE [] Z,⟨_,0,rfl,rfl,ob _,et,B⟩,?_⟩;rintro m _ _ ⟨k,rfl,rfl,Y,I,B⟩ _;rw[eu]at Y;have xD:=eu s;refine fG gL (aV (aC (λW=>?_) λW=>?_))
 .obtain⟨U,E⟩:∃G,(jn s)[(k:Int).toNat]?=some G:=⟨_,l0 (by rw[eu];omega)⟩;refine⟨λM w'=>M=.bool (!iq U.toNat&&!lf U.toNat)/\St w bE [] w',kU gL cU E (aY VA B (C193 _ _) λ_ _ B=>bJ (aX (λ_=>kU gL cU E (aY VB B (C194 _ _) λ_ _ B=>bJ ⟨vb dH,B⟩)) λ_=>⟨vb dH,B⟩)),?_⟩;rintro _ _ ⟨rfl,B⟩ _;refine aX (λJ=>?_) (λJ=>aR cU ⟨_,cU,k+1,rfl,rfl,cU,fg I E (by simpa using J),B⟩);refine⟨vb ?_,B.aG⟩;unfold iu;rw[tT E J];simp
 rw[mH cU]at I;refine⟨vb ?_,B.aG⟩;unfold iu;rw[pX I]
 revert O
 cases (decide (s.size<1\/16<s.size)||(match (jn s)[0]? with|some c=>!iq c.toNat|none=>true)||km.any λy=>decide (y=s))<;>simp
theorem C343(lv:Value)(xs:List bY)(i:Int)(N:Nat)(w:World)(G:dP (λ_=>True) w lv xs)(Z:xs.length<=1048576)(hi : -9223372036854775808<=i)(hN:(xs.length:Int)-i<N):CR 343 [lv,iE i] w (λv w'=>v=iE (sR xs i)/\Ext w w'):=by
 have B:=St.start w;refine fD Tryz.func343 ?_;refine⟨λM w'=>M=.bool (decide (i<0\/(xs.length:Int)<=i)||(match xs[i.toNat]? with|some x=>decide (kids x.op<0)|none=>true))/\St w bE [] w',aV (aC (λ_=>⟨vb dH,B⟩) λiO=>aK me (G.ext B.aG) (dC (aC (λ_=>⟨vb dH,B⟩) λoG=>?_))),?_⟩
 .obtain⟨Il,Y⟩:=gx xs (i:=(i).toNat) cU;exact aW me (G.ext B.aG) cU Y (λ_ PQ=>cL Il.op lK PQ rfl rfl λ_ kW=>aE bL kW (aY aaJ B (C342 _ _) λ_ _ B=>aV ⟨vb dH,B⟩))
 rintro _ _ ⟨rfl,B⟩ _;refine aX (λ_=>⟨gD (n5 .i64) (by grind[ag7,ag6]),B.aG⟩) (λmE=>?_);have h23:¬ (i<0\/(xs.length:Int)<=i):=dH
 obtain⟨E,U⟩:=gx xs (i:=(i).toNat) cU;have V:0<=kids E.op:=dH
 have hkb:=zJ E.op;have OE:=abr cU U V;refine aR cU ?_;refine⟨λm y x w1=>∃(k:Nat) (a:Int),x=iE (k:Int)/\y=iE a/\m=(kids E.op).toNat-k/\k<=(kids E.op).toNat/\Gs xs.length (skip k (xs.drop (i.toNat+1)))=a/\St w bE [] w1,⟨_,0,i+1,rfl,rfl,rfl,cU,by rw[BR];unfold Gs;simp only[tx];omega,B⟩,?_⟩;rintro m _ _ _ ⟨k,a,rfl,rfl,rfl,hk,O,B⟩ _;have I:=aAo (xs:=xs) (l:=xs.drop (i.toNat+1)) (k:=k) (by rw[tx];omega);rw[O]at I;refine⟨λM w'=>M=.bool (decide ((k:Int)<kids E.op/\0<=a))/\St w bE [] w',aW me (G.ext B.aG) cU U (λ_ C6=>cL E.op lK C6 rfl rfl λ_ W=>aE bL W (aY aaJ B (C342 _ _) λ_ _ B=>aV (aC (λ_=>dC ⟨vb dH,B⟩) λ_=>⟨vb dH,B⟩))),?_⟩
 rintro _ _ ⟨rfl,B⟩ _;refine aC (λwN=>?_) (λ_=>⟨gD (n5 .i64) (by have:=amK (xs:=xs) (l:=xs.drop (i.toNat+1)) (k:=k) (j:=(kids E.op).toNat) (by rw[tx];omega);rw[OE];by_cases h0:0<=a<;>grind),B.aG⟩);have J:=asz O cU;exact aY ajR B (C343 _ _ _ (N-1) _ (G.ext B.aG) Z cU cU) (λ_ _ B=>aR cU ⟨_,cU,k+1,_,rfl,rfl,rfl,cU,J.1.symm,B⟩)
termination_by N
decreasing_by omega
inductive Ex where
 | leaf (x:bY)
 | un (x:bY) (a:Ex)
 | bin (x:bY) (a b:Ex)
namespace Ex
def root:Ex->bY|leaf x=>x|un x _=>x|bin x _ _=>x
def fi:Ex->List Ex|leaf _=>[]|un _ a=>[a]|bin _ a b=>[a,b]
def flat:Ex->List bY|leaf x=>[x]|un x a=>x::a.flat|bin x a b=>x::(a.flat++b.flat)
def wf:Ex->Prop|leaf x=>kids x.op=0|un x a=>kids x.op=1/\a.wf|bin x a b=>kids x.op=2/\a.wf/\b.wf
def depth:Ex->Int|leaf _=>1|un _ a=>a.depth+1|bin _ a b=>max a.depth b.depth+1
def size:Ex->Nat|leaf _=>1|un _ a=>a.size+1|bin _ a b=>a.size+b.size+1
def numOf(ns:List ByteArray)(x:bY):Int:=if x.op=2 then bR ns x.name else x.n
def steps(ns:List ByteArray):Ex->List nW
 | leaf x=>[⟨x.op,numOf ns x⟩]
 | un x a=>a.steps ns++[⟨x.op,numOf ns x⟩]
 | bin x a b=>a.steps ns++b.steps ns++[⟨x.op,numOf ns x⟩]
end Ex
theorem Ex.dL(t:Ex):t.flat.length=t.size:=by
 induction t with
 | leaf x=>rfl
 | un x a B=>simp[Ex.flat,Ex.size,B]
 | bin x a b E G=>simp[Ex.flat,Ex.size,E,G]
theorem Ex.Lf(t:Ex):t.flat=t.root::(t.fi.map Ex.flat).flatten:=by
 cases t<;>simp[Ex.flat,Ex.root,Ex.fi]
theorem Ex.C7{t:Ex}(h:t.wf):kids t.root.op=t.fi.length:=by
 cases t with
 | leaf x=>exact h
 | un x a=>exact h.1
 | bin x a b=>exact h.1
theorem Ex.BS{t a:Ex}(h:t.wf)(B:a∈t.fi):a.wf/\a.size<t.size:=by
 cases t with
 | leaf x=>cases B
 | un x b=>rw[sU.1 B];exact⟨h.2,by simp[Ex.size]⟩
 | bin x b c=>
  rcases List.mem_cons.1 B with rfl|B
  .grind[wf,size]
  grind[wf,size]
theorem Ex.vc(t:Ex):1<=t.depth/\t.depth<=t.size:=by
 induction t with
 | leaf x=>simp[Ex.depth,Ex.size]
 | un x a B=>simp only[Ex.depth,Ex.size];omega
 | bin x a b E G=>simp only[Ex.depth,Ex.size];omega
theorem Ex.wO(ns:List ByteArray)(t:Ex):(t.steps ns).length=t.size:=by
 induction t with
 | leaf x=>rfl
 | un x a B=>simp[Ex.steps,Ex.size,B]
 | bin x a b E G=>grind[steps,size]
theorem Ym(t:Ex)(h:t.wf):∀n r,skip (n+1) (t.flat++r)=skip n r:=by
 induction t with
 | leaf x=>
  intro n r
  show(if kids x.op<0 then none else skip (n+(kids x.op).toNat) r)=_
  rw[show kids x.op=0 from h];rfl
 | un x a B=>
  intro n r
  show(if kids x.op<0 then none else skip (n+(kids x.op).toNat) (a.flat++r))=_
  rw[show kids x.op=1 from h.1,ew cU];exact B h.2 n r
 | bin x a b E G=>
  intro n r
  show(if kids x.op<0 then none else skip (n+(kids x.op).toNat) (a.flat++b.flat++r))=_
  rw[show kids x.op=2 from h.1,ew cU,o1]
  show skip (n+1+1) _=_
  rw[E h.2.1 (n+1),G h.2.2 n]
theorem V1:∀(k:Nat) (l r:List bY),l.length<=k->skip 1 l=some r->∃t:Ex,t.wf/\l=t.flat++r
 | k,[],r,_,h=>by cases h
 | 0,x::l,r,B,_=>by simp at B
 | k+1,x::l,r,B,h=>by
  have B:l.length<=k:=dH
  have h:(if kids x.op<0 then none else skip (0+(kids x.op).toNat) l)=some r:=h
  have hb:=zJ x.op
  split at h
  .cases h
  .rcases(show kids x.op=0\/kids x.op=1\/kids x.op=2 by omega)with h0|h0|h0
   .rw[h0]at h
    have h:skip 0 l=some r:=h
    rw[BR]at h;cases h
    exact⟨.leaf x,h0,rfl⟩
   .rw[h0]at h
    obtain⟨a,G,rfl⟩:=V1 k l r B h
    exact⟨.un x a,⟨h0,G⟩,rfl⟩
   .rw[h0]at h
    have h:skip (1+1) l=some r:=h
    rw[Ii]at h
    obtain⟨m,h1,h2⟩:=Py.1 h
    obtain⟨a,G,rfl⟩:=V1 k l m B h1
    obtain⟨b,E,rfl⟩:=V1 k m r dH h2
    exact⟨.bin x a b,⟨h0,G,E⟩,by simp[Ex.flat]⟩
def Lg(xs:List bY)(i:Int)(t:Ex):Prop:=0<=i/\t.wf/\∃r,xs.drop i.toNat=t.flat++r
def Lg.root{xs:List bY}{i:Int}{t:Ex}(h:Lg xs i t):xs[i.toNat]?=some t.root/\i<xs.length:=by
 obtain⟨B,_,r,h⟩:=h
 have:(xs.drop i.toNat)[0]?=some t.root:=by rw[h,Ex.Lf];rfl
 rw[Fl,MI]at this
 exact⟨this,by have:=(j0.1 this).1;omega⟩
def Lg.end{xs:List bY}{i:Int}{t:Ex}(h:Lg xs i t):sR xs i=i+t.size/\i+t.size<=xs.length:=by
 have I:=h.root.2
 obtain⟨G,B,r,h⟩:=h
 have E:=gD List.length h
 rw[tx,lJ,Ex.dL]at E
 refine⟨?_,cU⟩
 unfold sR
 rw[ew cU,h,Ym t B 0 r,BR]
 unfold Gs;grind
theorem Lg.of{xs:List bY}{i:Int}(h:0<=sR xs i):∃t,Lg xs i t:=by
 unfold sR at h
 split at h
 .omega
 cases hs:skip 1 (xs.drop i.toNat)with
 | none=>rw[hs]at h;unfold Gs at h;simp only[]at h;omega
 | some r=>
  obtain⟨t,B,E⟩:=V1 _ _ r (qQ _) hs
  exact⟨t,cU,B,r,E⟩
def wP(ks:List Ex)(k:Nat):Nat:=((ks.take k).map Ex.size).sum
theorem ER{ks:List Ex}{k:Nat}{a:Ex}(h:ks[k]?=some a):wP ks (k+1)=wP ks k+a.size:=by
 unfold wP;rw[<- gI h];simp
def Lg.kid{xs:List bY}{i:Int}{t a:Ex}{k:Nat}(h:Lg xs i t)(B:t.fi[k]?=some a):Lg xs (i+1+wP t.fi k) a:=by
 obtain⟨M,E,r,h⟩:=h
 refine⟨cU,(Ex.BS E (ml B)).1,?_⟩
 have G:t.fi=t.fi.take k++a::t.fi.drop (k+1):=by
  obtain⟨O,J⟩:=j0.1 B
  rw[<- J,Na,sf]
 have I:(((t.fi.take k).map Ex.flat).flatten).length=wP t.fi k:=by
  unfold wP
  rw[WL,JZ]
  congr 2
  exact funext λx=>Ex.dL x
 have h2:xs.drop (i.toNat+1)=((t.fi.take k).map Ex.flat).flatten++(a.flat++(((t.fi.drop (k+1)).map Ex.flat).flatten++r)):=by
  rw[<- uL,h,Ex.Lf t]
  show(t.fi.map Ex.flat).flatten++r=_
  conv=>lhs;rw[G]
  simp
 refine⟨((t.fi.drop (k+1)).map Ex.flat).flatten++r,?_⟩
 rw[show(i+1+(wP t.fi k:Int)).toNat=i.toNat+1+wP t.fi k from cU,<- uL,h2,<- I,Jj]
def Gt(ks:List Ex)(k:Nat):Int:=((ks.take k).map Ex.depth).foldl max 0
theorem ES{ks:List Ex}{k:Nat}{a:Ex}(h:ks[k]?=some a):Gt ks (k+1)=max (Gt ks k) a.depth:=by
 unfold Gt;rw[<- gI h,vB,Hc];rfl
theorem Tg{ks:List Ex}{N:Int}(B:0<=N)(h:∀a∈ks,a.depth<=N):∀k,0<=Gt ks k/\Gt ks k<=N
 | 0=>by simp[Gt,B]
 | k+1=>by
  have E:=Tg B h k
  cases hx:ks[k]? with
  | none=>
   have e:ks.take (k+1)=ks.take k:=by rw[yC,hx];simp
   unfold Gt at *;grind
  | some a=>rw[ES hx];grind
theorem Ex.PR(t:Ex):t.depth=Gt t.fi t.fi.length+1:=by
 cases t with
 | leaf x=>rfl
 | un x a=>have:=a.vc;grind[depth,Gt,fi]
 | bin x a b=>have:=a.vc;grind[depth,Gt,fi]
def stK(ns:List ByteArray)(ks:List Ex)(k:Nat):List nW:=((ks.take k).map (Ex.steps ns)).flatten
theorem abt{ns:List ByteArray}{ks:List Ex}{k:Nat}{a:Ex}(h:ks[k]?=some a):stK ns ks (k+1)=stK ns ks k++a.steps ns:=by
 unfold stK;rw[<- gI h];simp
def V2{ns:List ByteArray}{ks:List Ex}{k:Nat}:(stK ns ks k).length=wP ks k:=by
 unfold stK wP
 rw[WL,JZ]
 congr 2
 exact funext λx=>Ex.wO ns x
theorem Ex.Im(ns:List ByteArray)(t:Ex):t.steps ns=stK ns t.fi t.fi.length++[⟨t.root.op,Ex.numOf ns t.root⟩]:=by
 cases t<;>simp[Ex.steps,Ex.fi,stK,Ex.root]
def pt:Nat->List bY->Option (Ex×List bY)
 | 0,_=>none
 | _+1,[]=>none
 | n+1,x::l=>
  if kids x.op=0 then some (.leaf x,l)else if kids x.op=1 then(match pt n l with|some p=>some (.un x p.1,p.2)|none=>none)
  else if kids x.op=2 then(match pt n l with|some p=>(match pt n p.2 with|some q=>some (.bin x p.1 q.1,q.2)|none=>none)|none=>none)else none
theorem aha(t:Ex)(h:t.wf):∀n r,t.size<=n->pt n (t.flat++r)=some (t,r):=by
 induction t with
 | leaf x=>
  intro n r B
  cases n with
  | zero=>simp[Ex.size]at B
  | succ n=>show(if kids x.op=0 then _ else _)=_;rw[ez (show kids x.op=0 from h)];rfl
 | un x a E=>
  intro n r B
  cases n with
  | zero=>simp[Ex.size]at B
  | succ n=>
   have h1:kids x.op=1:=h.1
   show(if kids x.op=0 then _ else if kids x.op=1 then(match pt n (a.flat++r)with|some p=>some (Ex.un x p.1,p.2)|none=>none)else _)=_
   rw[ew cU,ez h1,E h.2 n r (by simp[Ex.size]at B;omega)]
 | bin x a b G I=>
  intro n r B
  cases n with
  | zero=>simp[Ex.size]at B
  | succ n=>
   have h1:kids x.op=2:=h.1
   show(if kids x.op=0 then _ else if kids x.op=1 then _ else if kids x.op=2 then(match pt n (a.flat++b.flat++r)with|some p=>(match pt n p.2 with|some q=>some (Ex.bin x p.1 q.1,q.2)|none=>none)|none=>none)else _)=_
   rw[ew cU,ew cU,ez h1,o1,G h.2.1 n _ (by simp[Ex.size]at B;omega)]
   simp only[]
   rw[I h.2.2 n _ (by simp[Ex.size]at B;omega)]
def BT(l:List bY):Option Ex:=match pt l.length l with|some p=>if p.2=[]then some p.1 else none|none=>none
def Yn{t:Ex}(h:t.wf):BT t.flat=some t:=by
 unfold BT
 have:=aha t h t.flat.length [] (by rw[Ex.dL];omega)
 grind
def Lg.zero{l:List bY}{t:Ex}(h:Lg l 0 t)(G:sR l 0=l.length):l=t.flat/\BT l=some t:=by
 have h1:=h.end
 obtain⟨_,E,r,h⟩:=h
 have B:=gD List.length h
 rw[lJ,Ex.dL]at B
 simp at B
 have:r=[]:=vI.1 cU
 subst this
 have h:l=t.flat:=dH
 exact⟨h,by rw[h];exact Yn E⟩
theorem C8:∀n l t r,pt n l=some (t,r)->t.wf/\l=t.flat++r
 | 0,l,t,r,h=>by cases h
 | n+1,[],t,r,h=>by cases h
 | n+1,x::l,t,r,h=>by
  have h:(if kids x.op=0 then some (Ex.leaf x,l)else if kids x.op=1 then(match pt n l with|some p=>some (Ex.un x p.1,p.2)|none=>none)
   else if kids x.op=2 then(match pt n l with|some p=>(match pt n p.2 with|some q=>some (Ex.bin x p.1 q.1,q.2)|none=>none)|none=>none)else none)=some (t,r):=h
  split at h
  .rename_i hk;cases h;exact⟨hk,rfl⟩
  .split at h
   .rename_i hk
    cases ha:pt n l with
    | none=>grind
    | some p=>
     rw[ha]at h
     obtain⟨a,m⟩:=p
     cases h
     obtain⟨h1,rfl⟩:=C8 n l a _ ha
     exact⟨⟨hk,h1⟩,rfl⟩
   .split at h
    .rename_i hk
     cases ha:pt n l with
     | none=>grind
     | some p=>
      rw[ha]at h
      obtain⟨a,m⟩:=p
      simp only[]at h
      cases hb:pt n m with
      | none=>grind
      | some q=>
       rw[hb]at h
       obtain⟨b,B⟩:=q
       cases h
       obtain⟨h1,rfl⟩:=C8 n l a _ ha
       obtain⟨h2,rfl⟩:=C8 n m b _ hb
       exact⟨⟨hk,h1,h2⟩,by simp[Ex.flat]⟩
    .cases h
theorem xM{l:List bY}{t:Ex}(h:BT l=some t):t.wf/\l=t.flat:=by
 unfold BT at h
 cases hp:pt l.length l with
 | none=>grind
 | some p=>
  rw[hp]at h
  obtain⟨a,r⟩:=p
  simp only[]at h
  split at h
  .rename_i hr;cases h
   obtain⟨h1,h2⟩:=C8 _ _ _ _ hp
   grind
  .cases h
theorem PU{l:List bY}:(BT l).isSome=decide (sR l 0=l.length):=by
 by_cases h:sR l 0=l.length
 .obtain⟨t,ht⟩:=Lg.of (xs:=l) (i:=0) cU
  rw[(ht.zero h).2,fY h];rfl
 rw[gk h]
 cases he:BT l with
 | none=>rfl
 | some t=>
  obtain⟨h1,rfl⟩:=xM he
  exact absurd (by have:=(show Lg t.flat 0 t from⟨cU,h1,[],et⟩).end.1;rw[this,Ex.dL];omega) h
def ET(x:bY):Bool:=decide (x.at_<0\/4000<x.at_)||decide (¬ x.op=1/\¬ x.n=0)||decide (¬ x.op=2/\¬ x.name=⟨#[]⟩)||decide (x.n<0\/4294967296<x.n)||(decide (x.op=2)&&!iu x.name)
def abu(l:List bY):Int:=match BT l with|some t=>t.depth|none=>0
def gM(l:List bY):Bool:=decide (l.length<=40)&&(BT l).isSome&&!l.any ET&&decide (abu l<=12)
def M4(ns:List ByteArray)(l:List bY):List nW:=match BT l with|some t=>t.steps ns|none=>[]
def sG(ns:List ByteArray)(l:List bY):Int:=if gM l=false then 8 else if l.any (λx=>decide (x.op=2)&&decide (bR ns x.name<0))then 9 else 0
def eL(ns:List ByteArray)(l:List bY):List nW:=if sG ns l=0 then M4 ns l else []
def Th{l:List bY}(h:gM l=true):sR l 0=l.length:=by
 unfold gM at h
 rw[PU]at h
 grind
theorem C288(lv:Value)(xs:List bY)(i:Int)(t:Ex)(N:Nat)(w:World)(J:dP (λ_=>True) w lv xs)(hn:xs.length<=1048576)(E:Lg xs i t)(hN:t.size<N):CR 288 [lv,iE i] w (λv w'=>v=iE t.depth/\Ext w w'):=by
 obtain⟨O,hq,zL⟩:∃e,e=t.root/\xs[(i).toNat]?=some e:=⟨_,rfl,E.root.1⟩;have hri:=E.root.2;have W:=E.end;have V:=Ex.C7 E.2.1;rw[<- hq]at V;have hkb:=zJ O.op;have hi0:=E.1;have B:=St.start w;refine agB _ _ _ _ ?_;unfold S288;refine aR cU ?_;refine⟨λm n a x U=>∃k:Nat,n=iE (Gt t.fi k)/\a=iE (i+1+wP t.fi k)/\x=iE (k:Int)/\m=t.fi.length-k/\k<=t.fi.length/\St w bE [] U,⟨_,0,rfl,gD (n5 .i64) (by simp[wP]),rfl,rfl,cU,B⟩,?_⟩;rintro m _ _ _ U ⟨k,rfl,rfl,rfl,rfl,hk,B⟩ _;have hdk:=Tg (ks:=t.fi) (N:=(t.size:Int)) cU (λa Y=>by have:=(Ex.BS E.2.1 Y).2;have:=a.vc;omega) k
 refine aW me (J.ext B.aG) cU zL (λ_ PO=>cL O.op lK PO rfl rfl λ_ gC=>aE bL gC (aY aaJ B (C342 _ _) λ_ he B=>aV (aC (λzK=>?_) λ_=>aR cU ⟨gD (n5 .i64) (by rw[t.PR,show k=t.fi.length from cU]),B.aG⟩)));obtain⟨a,I⟩:=gx t.fi (i:=k) cU;have Z:=Ex.BS E.2.1 (ml I);have G:=E.kid I;have M:=G.end;have hdb:=a.vc;exact aY ajO B (C288 _ _ _ _ (N-1) _ (J.ext B.aG) hn G cU) (λ_ _ B=>CT (aY ajR B (C343 _ _ _ (xs.length+1) _ (J.ext B.aG) cU cU cU) λ_ _ B=>aR cU ⟨_,cU,k+1,by rw[ES I],gD (n5 .i64) (by rw[M.1,ER I];omega),rfl,rfl,cU,B⟩))
termination_by N
decreasing_by omega
inductive Bk where
 | nil
 | cons (x:bD) (a b r:Bk)
namespace Bk
def flat:Bk->List bD|nil=>[]|cons x a b r=>x::(a.flat++(b.flat++r.flat))
def len:Bk->Nat|nil=>0|cons _ a b r=>a.len+b.len+r.len+1
def str:Bk->Prop|nil=>True|cons x a b r=>x.body=a.len/\x.eR=b.len/\a.len<=40/\b.len<=40/\a.str/\b.str/\r.str
def G3(x:bD)(loops:Int):Int:=if x.kind=12 then loops+1 else loops
def zO(x:bD):Bool:=decide (x.kind=11\/x.kind=12)
def Ko(x:bD)(loops:Int):Bool:=decide ((x.body<=0\/x.kind=11\/x.kind=12)/\(x.eR<=0\/x.kind=11)/\(¬ x.kind=13\/¬ loops=0))
def ok:Bk->Int->Bool|nil,_=>true|cons x a b r,n=>Ko x n&&a.ok (G3 x n)&&b.ok (G3 x n)&&r.ok n
def depth:Bk->Int|nil=>0|cons x a b r=>if zO x then max (max (1+a.depth) (1+b.depth)) r.depth else r.depth
end Bk
theorem Bk.dL(t:Bk):t.flat.length=t.len:=by
 induction t with
 | nil=>rfl
 | cons x a b r B G E=>grind[flat,len]
theorem Bk.tU(t:Bk):0<=t.depth/\t.depth<=t.len:=by
 induction t with
 | nil=>simp[Bk.depth,Bk.len]
 | cons x a b r B G E=>
  grind[depth,len]
def ZY:Nat->List bD->Option Bk
 | _,[]=>some .nil
 | 0,_::_=>none
 | n+1,x::l=>
  if 0<=x.body/\0<=x.eR/\x.body<=40/\x.eR<=40/\x.body+x.eR<=l.length then
   match ZY n (l.take x.body.toNat),ZY n ((l.drop x.body.toNat).take x.eR.toNat),ZY n (l.drop (x.body.toNat+x.eR.toNat))with
   | some a,some b,some r=>some (.cons x a b r)
   | _,_,_=>none
  else none
theorem AL:∀n l t,ZY n l=some t->l=t.flat/\t.str
 | _,[],t,h=>by
  have h:some Bk.nil=some t:=by unfold ZY at h;exact h
  cases h;exact⟨rfl,trivial⟩
 | 0,x::l,t,h=>by cases h
 | n+1,x::l,t,h=>by
  unfold ZY at h
  split at h
  .rename_i hb
   obtain⟨h1,h2,h3,h4,h5⟩:=hb
   cases ha:ZY n (l.take x.body.toNat)with
   | none=>grind
   | some a=>
    cases hb:ZY n ((l.drop x.body.toNat).take x.eR.toNat)with
    | none=>grind
    | some b=>
     cases hr:ZY n (l.drop (x.body.toNat+x.eR.toNat))with
     | none=>grind
     | some r=>
      rw[ha,hb,hr]at h
      cases h
      obtain⟨a1,a2⟩:=AL n _ _ ha
      obtain⟨b1,b2⟩:=AL n _ _ hb
      obtain⟨r1,E⟩:=AL n _ _ hr
      have B:=gD List.length a1
      have lb:=gD List.length b1
      rw[Bk.dL,n0]at B
      rw[Bk.dL,n0,tx]at lb
      refine⟨?_,cU,cU,cU,cU,a2,b2,E⟩
      unfold Bk.flat
      rw[<- a1,<- b1,<- r1,<- uL,sf,sf]
  .cases h
theorem abw(t:Bk):t.str->∀n,t.len<=n->ZY n t.flat=some t:=by
 induction t with
 | nil=>intro _ n _;cases n<;>rfl
 | cons x a b r J M I=>
  intro h n B
  obtain⟨h1,h2,h3,h4,G,hb,E⟩:=h
  cases n with
  | zero=>simp[Bk.len]at B
  | succ n=>
   have B:a.len+b.len+r.len<=n:=by simp[Bk.len]at B;omega
   have O:=a.dL
   have lb:=b.dL
   unfold Bk.flat ZY
   rw[ez ⟨cU,cU,cU,cU,dH⟩,show x.body.toNat=a.flat.length from cU,Tw,Jj,show x.eR.toNat=b.flat.length from cU,Tw,<- uL,Jj,Jj,
    J G n cU,M hb n cU,I E n cU]
def qu(l:List bD):Option Bk:=ZY l.length l
def oX{l:List bD}{t:Bk}(h:qu l=some t):l=t.flat/\t.str:=AL _ _ _ h
theorem pk{t:Bk}(h:t.str):qu t.flat=some t:=abw t h _ (by rw[Bk.dL];omega)
def ij(l:List bD)(loops:Int):Int:=match qu l with|some t=>if t.ok loops then t.depth else -1|none=>-1
theorem Lh(loops:Int):ij [] loops=0:=rfl
theorem C9(l:List bD)(loops:Int) : -1<=ij l loops/\ij l loops<=l.length:=by
 unfold ij
 cases h:qu l with
 | none=>grind
 | some t=>
  obtain⟨rfl,_⟩:=oX h
  have:=t.tU
  simp only[Bk.dL]
  omega
def Da(x:bD)(l:List bD):Prop:=0<=x.body/\0<=x.eR/\x.body<=40/\x.eR<=40/\x.body+x.eR<=l.length
theorem Yo{x:bD}{l:List bD}{loops:Int}(h:¬ (Da x l/\Bk.Ko x loops=true)):ij (x::l) loops = -1:=by
 unfold ij
 cases hb:qu (x::l)with
 | none=>rfl
 | some t=>
  obtain⟨B,E⟩:=oX hb
  cases t with
  | nil=>cases B
  | cons y a b r=>
   obtain⟨rfl,rfl⟩:=aaL.inj B
   obtain⟨h1,h2,h3,h4,_⟩:=E
   have:Bk.Ko x loops=false:=by
    cases hk:Bk.Ko x loops with
    | false=>rfl
    | true=>exact absurd ⟨⟨cU,cU,cU,cU,by simp[Bk.dL];omega⟩,hk⟩ h
   have h:(Bk.cons x a b r).ok loops=false:=by unfold Bk.ok;grind
   grind
theorem Io{x:bD}{l:List bD}{loops:Int}(h:Da x l)(W:Bk.Ko x loops=true) :
  ij (x::l) loops=(let A:=ij (l.take x.body.toNat) (Bk.G3 x loops);let B:=ij ((l.drop x.body.toNat).take x.eR.toNat) (Bk.G3 x loops);let R:=ij (l.drop (x.body.toNat+x.eR.toNat)) loops
   if A<0\/B<0\/R<0 then -1 else if Bk.zO x then max (max (1+A) (1+B)) R else R):=by
 obtain⟨h1,h2,h3,h4,h5⟩:=h
 have e:l=l.take x.body.toNat++((l.drop x.body.toNat).take x.eR.toNat++l.drop (x.body.toNat+x.eR.toNat)):=by
  rw[<- uL,sf,sf]
 have Y:(l.take x.body.toNat).length=x.body.toNat:=dH
 have lb:((l.drop x.body.toNat).take x.eR.toNat).length=x.eR.toNat:=by rw[n0,tx];omega
 simp only[]
 have U:∀t,qu (x::l)=some t->∃a b r,t=.cons x a b r/\qu (l.take x.body.toNat)=some a/\qu ((l.drop x.body.toNat).take x.eR.toNat)=some b/\qu (l.drop (x.body.toNat+x.eR.toNat))=some r:=by
  intro t ht
  obtain⟨O,Z⟩:=oX ht
  cases t with
  | nil=>cases O
  | cons y a b r=>
   obtain⟨rfl,I⟩:=aaL.inj O
   obtain⟨g1,g2,_,_,E,hb,G⟩:=Z
   have J:x.body.toNat=a.flat.length:=by rw[Bk.dL];omega
   have M:x.eR.toNat=b.flat.length:=by rw[Bk.dL];omega
   refine⟨a,b,r,rfl,?_,?_,?_⟩
   .rw[I,J,Tw];exact pk E
   .rw[I,J,M,Jj,Tw];exact pk hb
   .rw[I,<- uL,J,M,Jj,Jj];exact pk G
 cases E:qu (l.take x.body.toNat)with
 | none=>
  have:qu (x::l)=none:=by
   cases hh:qu (x::l)with
   | none=>rfl
   | some t=>grind
  unfold ij;rw[this,E];simp
 | some a=>
  cases hb:qu ((l.drop x.body.toNat).take x.eR.toNat)with
  | none=>
   have:qu (x::l)=none:=by
    cases hh:qu (x::l)with
    | none=>rfl
    | some t=>grind
   unfold ij;rw[this,hb];simp
  | some b=>
   cases G:qu (l.drop (x.body.toNat+x.eR.toNat))with
   | none=>
    have:qu (x::l)=none:=by
     cases hh:qu (x::l)with
     | none=>rfl
     | some t=>grind
    unfold ij;rw[this,G];simp
   | some r=>
    obtain⟨a1,a2⟩:=oX E
    obtain⟨b1,b2⟩:=oX hb
    obtain⟨r1,V⟩:=oX G
    have I:x::l=(Bk.cons x a b r).flat:=by unfold Bk.flat;grind
    rw[a1,Bk.dL]at Y
    rw[b1,Bk.dL]at lb
    have:qu (x::l)=some (.cons x a b r):=by rw[I];exact pk ⟨cU,cU,cU,cU,a2,b2,V⟩
    have na:=a.tU
    have nb:=b.tU
    have nr:=r.tU
    unfold ij
    rw[this,E,hb,G]
    simp only[Bk.ok,W,Bool.true_and]
    cases h1:a.ok (Bk.G3 x loops)<;>cases h2:b.ok (Bk.G3 x loops)<;>cases h3:r.ok loops<;>simp[Bk.depth]
    omega
def zP(n d:Int):Int:=if d<0 then -1 else max n d
def abx{xs l:List bD}{x:bD}{loops n:Int}(h:ij xs loops=zP n (ij (x::l) loops))(hb:¬ (Da x l/\Bk.Ko x loops=true)):ij xs loops = -1:=by
 rw[h,Yo hb];rfl
def amL{xs l:List bD}{x:bD}{loops n:Int}(h:ij xs loops=zP n (ij (x::l) loops))(G:Da x l)(J:Bk.Ko x loops=true)(hb:Bk.zO x=true)(A B:Int)
  (I:A=ij (l.take x.body.toNat) (Bk.G3 x loops)) (E:B=ij ((l.drop x.body.toNat).take x.eR.toNat) (Bk.G3 x loops)) :
  (A<0\/B<0->ij xs loops = -1)/\(¬ (A<0\/B<0)->ij xs loops=zP (max (max n (1+A)) (1+B)) (ij (l.drop (x.body.toNat+x.eR.toNat)) loops)):=by
 have M:=C9 (l.drop (x.body.toNat+x.eR.toNat)) loops
 rw[h,Io G J]
 simp only[<- I,<- E,hb,if_true]
 unfold zP
 constructor<;>intro h<;>repeat' split
 all_goals omega
def asC{xs l:List bD}{x:bD}{loops n:Int}(h:ij xs loops=zP n (ij (x::l) loops))(E:Da x l)(G:Bk.Ko x loops=true)(hb:Bk.zO x=false) :
  ij xs loops=zP n (ij (l.drop (x.body.toNat+x.eR.toNat)) loops):=by
 have B:x.body=0/\x.eR=0:=by
  unfold Bk.Ko at G
  unfold Bk.zO at hb
  obtain⟨h1,h2,_⟩:=E
  grind
 rw[h,Io E G,B.1,B.2]
 have e1:l.take (acB 0)=[]:=rfl
 have I:(l.drop (acB 0)).take (acB 0)=[]:=rfl
 simp only[hb,e1,I,Lh]
 unfold zP
 repeat' split
 all_goals first|omega|simp_all
theorem drop_cons{α:Type}{xs:List α}{k:Nat}{x:α}(h:xs[k]?=some x):xs.drop k=x::xs.drop (k+1):=by
 obtain⟨h1,h2⟩:=j0.1 h
 rw[vP h1,h2]
theorem BU{α:Type}(xs:List α){a b c n:Nat}(h:b=a+n)(hc:c=a):(xs.take b).drop c=(xs.drop a).take n:=by
 subst h hc;rw[List.drop_take,Nat.add_sub_cancel_left]
def amM:List ByteArray:=[⟨#[]⟩,⟨#[114,101]⟩,⟨#[114,110]⟩,⟨#[110,101]⟩,⟨#[114,110,101,102]⟩,⟨#[110]⟩,⟨#[110]⟩,⟨#[]⟩,⟨#[]⟩,⟨#[110]⟩,⟨#[110]⟩,⟨#[101,98]⟩,⟨#[107,98]⟩,⟨#[]⟩,⟨#[101]⟩]
def gQ(k:Int):ByteArray:=if k<1\/14<k then⟨#[]⟩else amM.getD k.toNat ⟨#[]⟩
def eF(s:ByteArray)(c:Int):Bool:=(jn s).any λb=>decide ((b.toNat:Int)=c)
def sH(x:bD):Bool:=
 !(decide (x.kind<1)||decide (14<x.kind)||decide (x.at_<0)||decide (4000<x.at_)) &&
 !((eF (gQ x.kind) 114 != iu x.eY)||(!eF (gQ x.kind) 114&&decide (¬ x.eY=⟨#[]⟩))||(eF (gQ x.kind) 110 != iu x.name)||(!eF (gQ x.kind) 110&&decide (¬ x.name=⟨#[]⟩))) &&
 !((eF (gQ x.kind) 101 != gM x.e)||(!eF (gQ x.kind) 101&&decide (0<x.e.length))||(eF (gQ x.kind) 102 != gM x.f)||(!eF (gQ x.kind) 102&&decide (0<x.f.length))) &&
 (if eF (gQ x.kind) 107=true then decide (1<=x.n/\x.n<=8)else decide (x.n=0))
def xN(l:List bD):Bool:=decide (l.length<=40)&&!l.any (λx=>!sH x)&&decide (0<=ij l 0/\ij l 0<=12)
def vd(n:Int):Bool:=decide (0<=n/\n<=4000)
def nX(B:Int)(c:cG):Bool:=!iu c.name||decide (c.n<0)||decide (B<c.n)||!vd c.at_
def vH(B:Int)(l:List cG):Bool:=!l.any (nX B)
def M5(nb:Bool)(t:cE):Bool:=(nb != iu t.name)||(!nb&&decide (¬ t.name=⟨#[]⟩))||!vd t.at_||!xN t.body
def rI(nb:Bool)(t:cE):Bool:=M5 nb t||t.aS.any (λs=>!iu s)
def Db(nb:Bool)(l:List cE):Bool:=!l.any (rI nb)
def vg(l:List cG):Bool:=decide ((l.length:Int)=0)||!vH 4294967296 l
def rJ(c:iF):Bool:=!vd c.at_||!gM c.e
def nz(p:bQ):Bool:=!p.lines.any vg&&!p.cB.any rJ&&(vH 4294967296 p.jR&&vH 0 p.locks&&Db true p.threads&&Db false p.recover&&decide (p.recover.length<=1))
def SzS(x:bD):Prop:=x.eY.size<=1048576/\x.name.size<=1048576/\x.e.length<=1048576/\x.f.length<=1048576/\(∀y∈x.e,y.name.size<=1048576)/\(∀y∈x.f,y.name.size<=1048576)
def SzT(t:cE):Prop:=t.name.size<=1048576/\(∀s∈t.aS,s.size<=1048576)/\(∀x∈t.body,SzS x)
structure PZ(p:bQ):Prop extends PS p where
 zl:∀l∈p.lines,∀c∈l,c.name.size<=1048576
 zv:∀c∈p.jR,c.name.size<=1048576
 zk:∀c∈p.locks,c.name.size<=1048576
 zt:∀t∈p.threads,SzT t
 zr:∀t∈p.recover,SzT t
 zc:∀c∈p.cB,c.e.length<=1048576/\∀y∈c.e,y.name.size<=1048576
variable (w:World) (K:Value->iD)
def S293(I G:Value):Prop:=
 lE (λE B a=>∀_:Env,
 eW (λK2=>lN 9 I λb=>bA .lss 3 B b λc=>cV c (eK hZ (uG 9 I B) λd=>gR hZ G [d] a λe f=>K2 e f) (K2 ff a)) (λg h=>∀_:Env,
 cV g (bB .add 3 B (i 1) λj=>E j h) (K B h))) (λE=>E (i 0) w)
theorem ahb(E B:Value)(h:S293 w K E B):CR 293 [E,B] w K:=
 qG 20 (λ_=>.nil) 16 [.tmp 4] Tryz.func293 h
def S232(E I:Value):Prop:=
 cF 305 [E,I] w λa b=>lN 22 a λc=>rq (λB G d e=>∀_:Env,
 bA .lss 3 d c λf=>cV f (iA 22 a d λg=>lA 3 g e λh=>cF 232 [E,h] e λj k=>eK hZ (Builtin.max_ #[3,3] 3 [G,j].toArray) λl=>bB .add 3 d (i 1) λn=>
 B l n k) (bB .add 3 G (i 1) λo=>K o e)) (λB=>B (i 0) (i 0) b)
theorem ahc(B E:Value)(h:S232 w K B E):CR 232 [B,E] w K:=
 qG 24 (λ_=>.nil) 16 [.tmp 4] Tryz.func232 h
def aAr:dM:=λi=>match i with
 | 8=>(.of [(0,[]),(1,[]),(2,[]),(3,[]),(4,[]),(5,[]),(6,[]),(7,[]),(8,[]),(9,[]),(10,[]),(11,[4,9]),(12,[])])
 | _=>.nil
def S59(E G:Value):Prop:=
 se hZ (zG 86 G) w λB a=>cF 121 [E] a λb c=>eK hZ (Op.unary .not b) λd=>cV d (K (.tuple #[(.slice none 0 0),(i 8)]) c) (cF 125 [E] c λe f=>
 cF 124 [e,(.func (Go.Fn.func 122) [].toArray [B].toArray)] f λg h=>cV g (K (.tuple #[(.slice none 0 0),(i 9)]) h) (lA 86 B h λj=>cF 126 [E,(i 0),j] h λk l=>
 K (.tuple #[k,(i 0)]) l))
theorem amN(B E:Value)(h:S59 w K B E):CR 59 [B,E] w K:=
 qG 18 (λ_=>.nil) 48 [.tmp 4,.tmp 5] Tryz.func59 h
def S78(G E B:Value):Prop:=
 lN 86 E λa=>lN 22 B λb=>bA .neq 3 a b λc=>cV c (K (.tuple #[(i 0),(i 1)]) w) (cF 59 [G,E] w λd e=>xT d 0 λf=>xT d 1 λg=>bB .neq 40 g (i 0) λh=>
 cV h (K (.tuple #[(i 0),g]) e) (cF 79 [f,B] e λj k=>xT j 0 λl=>xT j 1 λn=>K (.tuple #[l,n]) k))
theorem amO(B E G:Value)(h:S78 w K B E G):CR 78 [B,E,G] w K:=
 qG 29 (λ_=>.nil) 192 [.tmp 6,.tmp 7] Tryz.func78 h
theorem akj:PL 291:=dT Tryz.func291
theorem asE:PL 295:=dT Tryz.func295
theorem asF:PL 293:=dT Tryz.func293
theorem asG:PL 294:=dT Tryz.func294
theorem asH:PL 292:=dT Tryz.func292
theorem PW:PL 206:=dT Tryz.func206
theorem abz:PL 304:=dT Tryz.func304
theorem asI:PL 229:=dT Tryz.func229
theorem asJ:PL 228:=dT Tryz.func228
theorem abA:PL 231:=dT Tryz.func231
theorem asK:PL 305:=dT Tryz.func305
theorem akk:PL 232:=dT Tryz.func232
theorem V3:PL 121:=dT Tryz.func121
theorem asL:PL 125:=dT Tryz.func125
theorem akl:PL 126:=dT Tryz.func126
theorem amP:PL 59:=dT Tryz.func59
theorem asM:PL 122:=dT Tryz.func122
theorem asN:PL 78:=dT Tryz.func78
theorem asO:PL 230:=dT Tryz.func230
theorem asP:PL 303:=dT Tryz.func303
theorem akm:PL 124:=dT Tryz.func124
theorem asQ:PL 234:=dT Tryz.func234
theorem akn:PL 123:=dT Tryz.func123
theorem abB:PL 233:=dT Tryz.func233
end Go.Proofs.YtdncbeepkacgbaaGreatDoor

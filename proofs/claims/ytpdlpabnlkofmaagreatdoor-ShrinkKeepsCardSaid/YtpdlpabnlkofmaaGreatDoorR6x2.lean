/-
  Part 2.
-/
import Derived.Test.YtpdlpabnlkofmaaGreatDoorR6x1
set_option maxHeartbeats 8000000
set_option linter.all false
set_option maxRecDepth 100000
open Go.Fw.Flat renaming val->ir,enc->j0,sz->mA,len->yY,agg->Je,one->Za,pos->aae,oE->abu
open List renaming getElem?_eq_some_iff->kB,mem_of_getElem?->kE,take_of_length_le->kO,getElem?_eq_getElem->la,length_append->lr,length_take->l1,length_singleton->l2,append_assoc->nK,getD_eq_getElem?_getD->n3,length_cons->oi,append_nil->oO,take_append_drop->qa,length_drop->rH,replicate->r6,drop_eq_getElem_cons->sk,length_eq_zero_iff->s4,drop_drop->tz,take_add_one->uH,getElem?_append_left->u3,mem_singleton->v7,drop_eq_nil_of_le->v9,map_append->wk,eraseIdx_eq_take_drop_succ->wx,mem_of_mem_take->wV,foldl_append->FQ,length_set->HC,map_map->H4,getElem?_drop->Jo,getElem?_cons_succ->LV,getElem_cons_drop->MJ,toArray->P3,length_flatten->Yr
open Nat renaming zero_le->l0,le_refl->o6,zero_add->u4,le_trans->vt,min_eq_left->Gf,add_assoc->Oe,add_zero->P1,mod_lt->aa3,mod_le->ace
open Go.Instr renaming build->mv,sliceAt->n0,index->wg,sliceBounds->wM,loadAt->x6,fieldAt->Gl,indexAt->Gt,storeAt->K9,buildSlice->LU,slice->QT
open Option renaming bind_some->mU,some->n5,bind_eq_some_iff->Pg
open Go.Value renaming int->nG,bool->xH,slice->yZ,tuple->EI,string->GJ,okWide->P2
open Bool renaming and_eq_true->n4,false_eq_true->O8
open Decidable renaming not_not->u1
open Int renaming tmod_nonneg->QV,natAbs_tmod->VA,natAbs_tdiv->aaW,neg_tmod->abv,le_total->abw
open Go.World renaming cells?_some->aaj
namespace Go.Fw
section
variable {P:Program}{w w0:World}{A S:Nat->Prop}{L:List HP}
theorem bN{T:TypeId}{b o:Nat}{v:Value}{K:Value->Prop}(ht:XS P T)(hb:Cell w b o v)(k:K v) :
  Lu P (x6 T (.pointer (some ⟨b,o,none⟩))) w K:=⟨v,aF ht hb,k⟩
theorem cM{α:Type}[Flat α]{T:TypeId}{x:α}{K:Value->hM}(u:St w0 A L w)
  (k:∀b w',St w0 A (bW b (j0 x)::L) w'->K (.pointer (some ⟨b,0,none⟩)) w'):ry P (Instr.box T (ir x)) w K:=by
 refine⟨_,_,JM T _,k _ _ ?_⟩
 rw[qk]
 exact u.push
theorem SL{T:Nat}{cx cy:Bool}{a b:Int}{K:Value->Prop}(u:0<=a)(hb:0<b)(k:K (hZ (a % b))):eX P (ke .rem T cx cy (hZ a) (hZ b)) K:=by
 refine⟨_,?_,k⟩
 show pr P (Op.intDiv .rem .i64 a b)=_
 unfold Op.intDiv
 rw[ej cO]
 show some (nG .i64 (a.tmod b))=_
 grind
def cH(a b:Int):Int:=((BitVec.ofInt 64 a &&& BitVec.ofInt 64 b).toNat:Int)
theorem Aa(a:Int){b:Int}(u:0<=b)(h1:b<=9223372036854775807):0<=cH a b/\cH a b<=b:=by
 unfold cH
 refine⟨cO,?_⟩
 have h2:(BitVec.ofInt 64 a &&& BitVec.ofInt 64 b).toNat<=(BitVec.ofInt 64 b).toNat:=by
  rw[BitVec.toNat_and];exact Nat.and_le_right
 have h3:((BitVec.ofInt 64 b).toNat:Int)=b:=by
  rw[BitVec.toNat_ofInt]
  omega
 omega
theorem SM{T:Nat}{cx cy:Bool}{a b:Int}{K:Value->Prop}(u:0<=b)(h1:b<=9223372036854775807)(k:K (hZ (cH a b))):eX P (ke .and T cx cy (hZ a) (hZ b)) K:=by
 refine⟨_,?_,k⟩
 show some (nG .i64 (IntKind.i64.wrap ((BitVec.ofInt 64 a &&& BitVec.ofInt 64 b).toNat:Int)))=_
 have:=Aa a u h1
 unfold cH at this |-
 rw[IntWalk.i64_in _ cO]
theorem zF{T:Nat}{a b:Bool}(h:P.underlying T=some .bool):pr P (Op.equal T (.bool a) (.bool b))=some (a == b):=by
 show pr P (Op.equalIn 10000 T (.bool a) (.bool b))=_
 unfold Op.equalIn
 rw[cZ,cY h]
 rfl
theorem XU{T:Nat}{cx cy:Bool}{a b:Bool}{K:Value->Prop}(h:P.underlying T=some .bool)(k:K (.bool (a == b))):eX P (ke .eql T cx cy (.bool a) (.bool b)) K:=by
 refine⟨_,?_,k⟩
 show pr P (do pure (xH (<- Op.equal T (.bool a) (.bool b))))=_
 rw[vM,zF h];rfl
theorem sG{T:Nat}{cx cy:Bool}{a b:Bool}{K:Value->Prop}(h:P.underlying T=some .bool)(k:K (.bool (a != b))):eX P (ke .neq T cx cy (.bool a) (.bool b)) K:=by
 refine⟨_,?_,k⟩
 show pr P (do pure (xH (!(<- Op.equal T (.bool a) (.bool b)))))=_
 rw[vM _ (λb=>xH (!b)),zF h];rfl
theorem JQ{T e:Nat}{p:Option Addr}(h:P.underlying T=some (.pointer e)):pr P (Op.equal T (.pointer p) (.pointer none))=some p.isNone:=by
 show pr P (Op.equalIn 10000 T (.pointer p) (.pointer none))=_
 unfold Op.equalIn
 rw[cZ,cY h]
 cases p<;>rfl
theorem XV{T e:Nat}{cx cy:Bool}{p:Option Addr}{K:Value->Prop}(h:P.underlying T=some (.pointer e))(k:K (.bool p.isNone)):eX P (ke .eql T cx cy (.pointer p) (.pointer none)) K:=by
 refine⟨_,?_,k⟩
 show pr P (do pure (xH (<- Op.equal T (.pointer p) (.pointer none))))=_
 rw[vM,JQ h];rfl
theorem Hw{T e:Nat}{a:Option Addr}{n c:Nat}(h:P.underlying T=some (.slice e))(u:a=none->n=0/\c=0):pr P (Op.equal T (.slice a n c) (.slice none 0 0))=some a.isNone:=by
 show pr P (Op.equalIn 10000 T (.slice a n c) (.slice none 0 0))=_
 unfold Op.equalIn
 rw[cZ,cY h]
 cases a<;>rfl
theorem XW{T e:Nat}{cx cy:Bool}{a:Option Addr}{n c:Nat}{K:Value->Prop}(h:P.underlying T=some (.slice e))(u:a=none->n=0/\c=0)(k:K (.bool a.isNone)):eX P (ke .eql T cx cy (.slice a n c) (.slice none 0 0)) K:=by
 refine⟨_,?_,k⟩
 show pr P (do pure (xH (<- Op.equal T (.slice a n c) (.slice none 0 0))))=_
 rw[vM,Hw h u];rfl
def oG:TypeDesc->Option Nat
 | .int .i64=>some 0
 | .bool=>some 1
 | .string=>some 2
 | _=>none
def rJ:Value->Option Nat
 | .int .i64 _=>some 0
 | .bool _=>some 1
 | .string _=>some 2
 | _=>none
def eqV:Value->Value->Bool
 | .int _ a,.int _ b=>decide (a=b)
 | .bool a,.bool b=>a == b
 | .string a,.string b=>a == b
 | _,_=>false
def A4:List Value->List Value->Bool
 | a::x,b::y=>eqV a b&&A4 x y
 | _,_=>true
def oV(P:Program):Nat->List Field->Option (List Nat)
 | _,[]=>some []
 | k,f::fs=>
  if f.name ≠ "_" /\ f.offset=k then
   match P.underlying f.type with
   | some d=>match oG d,oV P (k+1) fs with
    | some n,some r=>some (n::r)
    | _,_=>none
   | none=>none
  else none
def E6(P:Program)(T:TypeId):Option (List Nat):=
 match P.underlying T with
 | some (.struct u)=>if P.stoodInHeld T=false/\P.eqGuardType P.depth T=false then oV P 0 u.toList else none
 | _=>none
def PV(d:Nat)(xs ys:Array Value):List Field->Sem Bool
 | []=>pure true
 | f::r => if f.name ≠ "_" then do
   let same <- Op.equalIn d f.type (<- part f.type xs f.offset) (<- part f.type ys f.offset)
   if (!same)=true then pure false else PV d xs ys r
  else PV d xs ys r
theorem D2{T:TypeId}{d:TypeDesc}{n:Nat}(h:P.underlying T=some d)(u:oG d=some n):pr P (isAgg T)=some false:=by
 unfold isAgg
 rw[cZ,cY h]
 cases d<;>simp[oG]at u<;>rfl
theorem SN{T:TypeId}{d:TypeDesc}{n o:Nat}{cs:Array Value}{v:Value}(h:P.underlying T=some d)(u:oG d=some n)(B:cs[o]?=some v):pr P (part T cs o)=some v:=by
 unfold part
 rw[cZ,D2 h u]
 simp only[mU,O8,if_false,B]
 rfl
theorem Mf{k:Nat}{T:TypeId}{d:TypeDesc}{n:Nat}{a b:Value}(h:P.underlying T=some d)(B:oG d=some n)(u:rJ a=some n)(hb:rJ b=some n) :
  pr P (Op.equalIn (k+1) T a b)=some (eqV a b):=by
 unfold Op.equalIn
 rw[cZ,cY h]
 simp only[mU]
 cases d<;>simp only[oG]at B<;>try(cases B;done)
 case int kd=>
  cases kd<;>simp at B
  subst B
  cases a<;>simp only[rJ]at u<;>try(cases u;done)
  rename_i ka na
  cases b<;>simp only[rJ]at hb<;>try(cases hb;done)
  rename_i kb nb
  cases ka<;>simp at u
  cases kb<;>simp at hb
  rfl
 case bool=>
  cases B
  cases a<;>simp only[rJ]at u<;>first|(rename_i ka na;cases ka<;>simp at u)|skip
  all_goals try(simp at u;done)
  cases b<;>simp only[rJ]at hb<;>first|(rename_i kb nb;cases kb<;>simp at hb)|skip
  all_goals try(simp at hb;done)
  rfl
 case string=>
  cases B
  cases a<;>simp only[rJ]at u<;>first|(rename_i ka na;cases ka<;>simp at u)|skip
  all_goals try(simp at u;done)
  cases b<;>simp only[rJ]at hb<;>first|(rename_i kb nb;cases kb<;>simp at hb)|skip
  all_goals try(simp at hb;done)
  rfl
theorem Mg{k:Nat}{xs ys:List Value}:∀(u:List Field) (i:Nat) (ks:List Nat),oV P i u=some ks->(∀j n,ks[j]?=some n->∃a b,xs[i+j]?=some a/\ys[i+j]?=some b/\rJ a=some n/\rJ b=some n)->
  pr P (PV (k+1) xs.toArray ys.toArray u)=some (A4 ((xs.drop i).take ks.length) ((ys.drop i).take ks.length)):=by
 intro u
 induction u with
 | nil=>intro i ks h _;simp only[oV,n5.injEq]at h;subst h;simp[PV,A4];rfl
 | cons f u U=>
  intro i ks h I
  unfold oV at h
  split at h
  .rename_i hf
   cases hu:P.underlying f.type with
   | none=>grind
   | some d=>
    rw[hu]at h
    dsimp only at h
    cases hd:oG d with
    | none=>grind
    | some n=>
     rw[hd]at h
     cases hr:oV P (i+1) u with
     | none=>grind
     | some r=>
      rw[hr]at h
      simp only[n5.injEq]at h
      subst h
      obtain⟨a,b,G,hb,M,O⟩:=I 0 n rfl
      rw[P1]at G hb
      have B:xs.drop i=a::xs.drop (i+1):=by
       rw[<- MJ (kB.1 G).1,(kB.1 G).2]
      have E:ys.drop i=b::ys.drop (i+1):=by
       rw[<- MJ (kB.1 hb).1,(kB.1 hb).2]
      have J:=U (i+1) r hr λj m W=>by
       obtain⟨V,Y,h1,h2,h3,h4⟩:=I (j+1) m dI
       grind
      unfold PV
      rw[ew hf.1,cZ,SN hu hd (v:=a) dI]
      simp only[mU]
      rw[cZ,SN hu hd (v:=b) dI]
      simp only[mU]
      rw[cZ,Mf hu hd M O]
      simp only[mU,oi,B,E,List.take_succ_cons,A4]
      cases he:eqV a b with
      | false=>rfl
      | true=>grind
  .cases h
theorem A5{d:Nat}{t:TypeId}{u:Array Field}{xs ys:Array Value}(ht:P.underlying t=some (.struct u))(E:P.stoodInHeld t=false) :
  pr P (Op.equalIn (d+1) t (.agg xs) (.agg ys))=pr P (PV d xs ys u.toList):=by
 unfold Op.equalIn
 rw[cZ,cY ht]
 simp only[mU,cZ]
 rw[show pr P program=some P from rfl]
 simp only[mU,E,O8,if_false]
 rw[<- Array.forIn_toList]
 generalize u.toList=l
 clear ht
 induction l with
 | nil=>rfl
 | cons f l B=>
  rw[cZ]at B
  simp only[List.forIn_cons,PV,cZ]
  split
  .simp only[cZ]
   cases pr P (part f.type xs f.offset)with
   | none=>rfl
   | some a=>
    simp only[mU]
    cases pr P (part f.type ys f.offset)with
    | none=>rfl
    | some b=>
     simp only[mU]
     cases pr P (Op.equalIn d f.type a b)with
     | none=>rfl
     | some r=>
      cases r
      .rfl
      .simp only[mU,Bool.not_true,O8,if_false,fY]
       exact B
  .simp only[fY,mU]
   exact B
theorem JR{T:TypeId}{ks:List Nat}{xs ys:List Value}(h:E6 P T=some ks)(B:xs.map rJ=ks.map some)(u:ys.map rJ=ks.map some) :
  pr P (Op.equal T (.agg xs.toArray) (.agg ys.toArray))=some (A4 xs ys)/\P.eqGuardType P.depth T=false:=by
 unfold E6 at h
 split at h
 .rename_i fs hfs
  split at h
  .rename_i hc
   refine⟨?_,hc.2⟩
   show pr P (Op.equalIn 10000 T _ _)=_
   rw[A5 hfs hc.1]
   have G:xs.length=ks.length:=by have:=g6 List.length B;grind
   have I:ys.length=ks.length:=by have:=g6 List.length u;grind
   rw[Mg (xs:=xs) (ys:=ys) fs.toList 0 ks h λj n E=>?_]
   .grind
   have J:j<ks.length:=(kB.1 E).1
   refine⟨xs[j]'(cO),ys[j]'(cO),ei,ei,?_,?_⟩
   .have:=g6 (λl=>l[j]?) B
    grind
   have:=g6 (λl=>l[j]?) u
   grind
  cases h
 cases h
theorem U7{T:Nat}{cx cy:Bool}{ks:List Nat}{xs ys:List Value}{K:Value->Prop}(h:E6 P T=some ks)(B:xs.map rJ=ks.map some)(u:ys.map rJ=ks.map some)(k:K (.bool (A4 xs ys))) :
  eX P (ke .eql T cx cy (.agg xs.toArray) (.agg ys.toArray)) K:=by
 obtain⟨h1,h2⟩:=JR h B u
 refine⟨_,?_,k⟩
 show pr P (if P.eqGuardType P.depth T=true then stuck "an interface in a part" else(do pure (xH (<- Op.equal T (.agg xs.toArray) (.agg ys.toArray))) : Sem Value))=_
 rw[h2,ej ei,vM,h1];rfl
theorem Ib{T:Nat}{cx cy:Bool}{ks:List Nat}{xs ys:List Value}{K:Value->Prop}{p:Prop}[Decidable p](h:E6 P T=some ks)(E:xs.map rJ=ks.map some)(B:ys.map rJ=ks.map some)
  (u:A4 xs ys=decide p) (k:K (.bool (decide p))):eX P (ke .eql T cx cy (.agg xs.toArray) (.agg ys.toArray)) K:=U7 h E B (u▸k)
end
end Go.Fw
namespace Go.Proofs.YtpdlpabnlkofmaaGreatDoor
open Go.Fw
def bL:dJ hH 3=some (false,1):=by kernel_rfl
def u0:eD hH 3=some (some (hZ 0)):=by kernel_rfl
def Mh:Tryz.prog.underlying 3=some (.int .i64):=by kernel_rfl
def A6:dJ hH 4=some (false,1):=by kernel_rfl
def XX:eD hH 4=some (some (.bool false)):=by kernel_rfl
def Mi:Tryz.prog.underlying 4=some (.bool):=by kernel_rfl
def axA:Tryz.prog.underlying 5=some (.int .u8):=by kernel_rfl
def gK:dJ hH 9=some (false,1):=by kernel_rfl
def ahw:eD hH 9=some (some (.string ⟨#[]⟩)):=by kernel_rfl
def iC:Tryz.prog.underlying 9=some (.string):=by kernel_rfl
def pk:dJ hH 22=some (false,1):=by kernel_rfl
def ql:eY hH 22=some (23,1,24,some 1):=by kernel_rfl
def jT:dJ hH 23=some (false,1):=by kernel_rfl
def iD:eY hH 23=some (161,3,32,some 3):=by kernel_rfl
def iJ:dJ hH 24=some (false,1):=by kernel_rfl
def fF:eY hH 24=some (146,4,72,some 4):=by kernel_rfl
def rz:dJ hH 25=some (false,1):=by kernel_rfl
def tT:eY hH 25=some (85,2,32,some 2):=by kernel_rfl
def er:dJ hH 27=some (true,6):=by kernel_rfl
def gL:aU hH 27 0=some (0,some true):=by kernel_rfl
def qG:aU hH 27 1=some (1,some true):=by kernel_rfl
def ou:aU hH 27 2=some (2,some true):=by kernel_rfl
def kR:aU hH 27 3=some (3,some true):=by kernel_rfl
def po:aU hH 27 4=some (4,some true):=by kernel_rfl
def jB:aU hH 27 5=some (5,some true):=by kernel_rfl
def vN:eD hH 27=some (some (.agg [.slice none 0 0,.slice none 0 0,.slice none 0 0,.slice none 0 0,.slice none 0 0,.slice none 0 0].toArray)):=by kernel_rfl
def XY:eY hH 28=some (53,6,64,some 6):=by kernel_rfl
def jU:dJ hH 31=some (false,1):=by kernel_rfl
def ajx:eD hH 31=some (some (hZ 0)):=by kernel_rfl
def apG:Tryz.prog.underlying 34=some (.pointer 44):=by kernel_rfl
def JS:dJ hH 39=some (false,1):=by kernel_rfl
def fD:eY hH 39=some (50,4,48,some 4):=by kernel_rfl
def ajy:eD hH 39=some (some (.slice none 0 0)):=by kernel_rfl
def pZ:dJ hH 40=some (false,1):=by kernel_rfl
def ey:dJ hH 41=some (false,1):=by kernel_rfl
def cS:eY hH 41=some (3,1,8,some 1):=by kernel_rfl
def ajz:eD hH 41=some (some (.slice none 0 0)):=by kernel_rfl
def E7:dJ hH 42=some (false,1):=by kernel_rfl
def Hx:eY hH 42=some (129,1,8,some 1):=by kernel_rfl
def pq:aU hH 44 0=some (0,some true):=by kernel_rfl
def SO:aU hH 44 1=some (6,some true):=by kernel_rfl
def yI:aU hH 44 2=some (7,some true):=by kernel_rfl
def qH:aU hH 44 3=some (8,some true):=by kernel_rfl
def vO:aU hH 44 4=some (9,some true):=by kernel_rfl
def pw:aU hH 44 5=some (10,some true):=by kernel_rfl
def vP:aU hH 44 6=some (11,some true):=by kernel_rfl
def SP:aU hH 44 7=some (12,some true):=by kernel_rfl
def kj:dJ hH 50=some (true,4):=by kernel_rfl
def mu:aU hH 50 0=some (0,some true):=by kernel_rfl
def lQ:aU hH 50 1=some (1,some true):=by kernel_rfl
def qI:aU hH 50 2=some (2,some true):=by kernel_rfl
def px:aU hH 50 3=some (3,some true):=by kernel_rfl
def E8:eD hH 50=some (some (.agg [hZ 0,hZ 0,hZ 0,.slice none 0 0].toArray)):=by kernel_rfl
def adZ:aU hH 53 0=some (0,some true):=by kernel_rfl
def ad0:aU hH 53 1=some (1,some true):=by kernel_rfl
def fr:dJ hH 56=some (true,5):=by kernel_rfl
def ad1:aU hH 56 0=some (0,some true):=by kernel_rfl
def SQ:aU hH 56 1=some (1,some true):=by kernel_rfl
def mr:eD hH 56=some (some (.agg [hZ 0,hZ 0,hZ 0,hZ 0,hZ 0].toArray)):=by kernel_rfl
def eW:dJ hH 63=some (true,4):=by kernel_rfl
def iW:aU hH 63 0=some (0,some true):=by kernel_rfl
def ox:aU hH 63 1=some (1,some true):=by kernel_rfl
def SR:aU hH 63 2=some (2,some true):=by kernel_rfl
def SS:aU hH 63 3=some (3,some true):=by kernel_rfl
def gu:eD hH 63=some (some (.agg [hZ 0,hZ 0,hZ 0,.slice none 0 0].toArray)):=by kernel_rfl
def PW:eY hH 72=some (56,5,40,some 5):=by kernel_rfl
def jC:dJ hH 82=some (false,1):=by kernel_rfl
def il:eY hH 82=some (164,4,40,some 4):=by kernel_rfl
def JT:dJ hH 85=some (true,2):=by kernel_rfl
def vQ:aU hH 85 0=some (0,some true):=by kernel_rfl
def JU:aU hH 85 1=some (1,some true):=by kernel_rfl
def PX:eD hH 85=some (some (.agg [.slice none 0 0,hZ 0].toArray)):=by kernel_rfl
def A7:dJ hH 88=some (false,1):=by kernel_rfl
def jq:dJ hH 91=some (false,1):=by kernel_rfl
def iK:eY hH 91=some (9,1,16,some 1):=by kernel_rfl
def ajA:eD hH 91=some (some (.slice none 0 0)):=by kernel_rfl
def Mj:dJ hH 93=some (false,1):=by kernel_rfl
def JV:dJ hH 94=some (false,1):=by kernel_rfl
def Mk:eY hH 94=some (135,1,8,some 1):=by kernel_rfl
def Em:aU hH 96 0=some (0,some true):=by kernel_rfl
def JW:aU hH 96 1=some (6,some true):=by kernel_rfl
def JX:aU hH 96 2=some (7,some true):=by kernel_rfl
def ad2:aU hH 96 3=some (8,some true):=by kernel_rfl
def ua:aU hH 96 4=some (9,some true):=by kernel_rfl
def vR:aU hH 96 5=some (10,some true):=by kernel_rfl
def vS:aU hH 96 6=some (11,some true):=by kernel_rfl
def JY:aU hH 96 7=some (12,some true):=by kernel_rfl
def yJ:aU hH 96 8=some (13,some true):=by kernel_rfl
def SU:aU hH 96 9=some (14,some true):=by kernel_rfl
def zG:dJ hH 103=some (false,1):=by kernel_rfl
def zH:dJ hH 114=some (true,5):=by kernel_rfl
def Ml:aU hH 114 0=some (0,some true):=by kernel_rfl
def A8:aU hH 114 1=some (1,some true):=by kernel_rfl
def qP:aU hH 114 3=some (3,some true):=by kernel_rfl
def qQ:aU hH 114 4=some (4,some true):=by kernel_rfl
def yK:eD hH 114=some (some (.agg [hZ 0,hZ 0,hZ 0,.bool false,.bool false].toArray)):=by kernel_rfl
def u5:eY hH 117=some (4,1,1,some 1):=by kernel_rfl
def ub:dJ hH 120=some (false,1):=by kernel_rfl
def uc:eY hH 120=some (125,3,24,some 3):=by kernel_rfl
def u6:aU hH 122 0=some (0,some true):=by kernel_rfl
def XZ:aU hH 122 1=some (1,some true):=by kernel_rfl
def sH:aU hH 122 2=some (2,some true):=by kernel_rfl
def A9:aU hH 122 3=some (3,some true):=by kernel_rfl
def kX:aU hH 122 4=some (4,some true):=by kernel_rfl
def X0:dJ hH 125=some (true,3):=by kernel_rfl
def xw:aU hH 125 0=some (0,some true):=by kernel_rfl
def Mm:aU hH 125 1=some (1,some true):=by kernel_rfl
def Mn:aU hH 125 2=some (2,some true):=by kernel_rfl
def ad3:eD hH 125=some (some (.agg [hZ 0,hZ 0,hZ 0].toArray)):=by kernel_rfl
def nx:eY hH 126=some (41,1,24,some 1):=by kernel_rfl
def Ic:dJ hH 129=some (false,1):=by kernel_rfl
def u7:dJ hH 130=some (false,1):=by kernel_rfl
def nS:eY hH 130=some (218,12,176,some 12):=by kernel_rfl
def kY:aU hH 132 0=some (0,some true):=by kernel_rfl
def Mp:aU hH 132 1=some (1,some true):=by kernel_rfl
def Mq:aU hH 132 2=some (2,some true):=by kernel_rfl
def nT:aU hH 132 3=some (3,some true):=by kernel_rfl
def xy:aU hH 132 4=some (4,some true):=by kernel_rfl
def Ie:dJ hH 135=some (false,1):=by kernel_rfl
def sI:dJ hH 136=some (false,1):=by kernel_rfl
def u9:eY hH 136=some (143,2,32,some 2):=by kernel_rfl
def py:aU hH 138 0=some (0,some true):=by kernel_rfl
def Ba:aU hH 138 1=some (1,some true):=by kernel_rfl
def Bb:aU hH 138 2=some (2,some true):=by kernel_rfl
def jV:aU hH 138 3=some (3,some true):=by kernel_rfl
def xz:aU hH 138 4=some (4,some true):=by kernel_rfl
def jW:dJ hH 141=some (false,1):=by kernel_rfl
def fB:eY hH 141=some (193,9,120,some 9):=by kernel_rfl
def Mr:aU hH 143 0=some (0,some true):=by kernel_rfl
def X1:aU hH 143 1=some (1,some true):=by kernel_rfl
def ny:dJ hH 146=some (true,4):=by kernel_rfl
def qR:aU hH 146 0=some (0,some true):=by kernel_rfl
def fZ:aU hH 146 1=some (1,some true):=by kernel_rfl
def lV:aU hH 146 2=some (2,some true):=by kernel_rfl
def qS:aU hH 146 3=some (3,some true):=by kernel_rfl
def ud:eD hH 146=some (some (.agg [.string ⟨#[]⟩,.slice none 0 0,.slice none 0 0,hZ 0].toArray)):=by kernel_rfl
def mw:dJ hH 161=some (true,3):=by kernel_rfl
def kZ:aU hH 161 0=some (0,some true):=by kernel_rfl
def sJ:aU hH 161 1=some (1,some true):=by kernel_rfl
def va:aU hH 161 2=some (2,some true):=by kernel_rfl
def pA:eD hH 161=some (some (.agg [.string ⟨#[]⟩,hZ 0,hZ 0].toArray)):=by kernel_rfl
def sK:dJ hH 164=some (true,4):=by kernel_rfl
def fm:aU hH 164 0=some (0,some true):=by kernel_rfl
def ju:aU hH 164 1=some (1,some true):=by kernel_rfl
def gC:aU hH 164 2=some (2,some true):=by kernel_rfl
def sL:aU hH 164 3=some (3,some true):=by kernel_rfl
def yL:eD hH 164=some (some (.agg [hZ 0,hZ 0,.string ⟨#[]⟩,hZ 0].toArray)):=by kernel_rfl
def Ig:dJ hH 165=some (false,1):=by kernel_rfl
def SW:eD hH 165=some (some (.map none)):=by kernel_rfl
def apH:dJ hH 177=some (true,3):=by kernel_rfl
def X2:aU hH 177 0=some (0,some true):=by kernel_rfl
def X3:aU hH 177 1=some (1,some true):=by kernel_rfl
def X4:aU hH 177 2=some (2,some true):=by kernel_rfl
def ad4:eD hH 177=some (some (.agg [.string ⟨#[]⟩,hZ 0,.slice none 0 0].toArray)):=by kernel_rfl
def iV:dJ hH 179=some (false,1):=by kernel_rfl
theorem gd:eY hH 179=some (231,4,32,some 4):=by kernel_rfl
def X5:aU hH 181 0=some (0,some true):=by kernel_rfl
def ld:aU hH 181 1=some (1,some true):=by kernel_rfl
def zI:dJ hH 185=some (false,1):=by kernel_rfl
def xA:aU hH 187 0=some (0,some true):=by kernel_rfl
def X6:aU hH 187 1=some (1,some true):=by kernel_rfl
def sM:aU hH 187 2=some (2,some true):=by kernel_rfl
def Bc:aU hH 187 3=some (3,some true):=by kernel_rfl
def sN:aU hH 187 4=some (4,some true):=by kernel_rfl
def eU:dJ hH 193=some (true,9):=by kernel_rfl
def dU:aU hH 193 0=some (0,some true):=by kernel_rfl
def iP:aU hH 193 1=some (1,some true):=by kernel_rfl
def gw:aU hH 193 2=some (2,some true):=by kernel_rfl
def jg:aU hH 193 3=some (3,some true):=by kernel_rfl
def km:aU hH 193 4=some (4,some true):=by kernel_rfl
def jX:aU hH 193 5=some (5,some true):=by kernel_rfl
def jh:aU hH 193 6=some (6,some true):=by kernel_rfl
def iQ:aU hH 193 7=some (7,some true):=by kernel_rfl
def lW:aU hH 193 8=some (8,some true):=by kernel_rfl
def jD:eD hH 193=some (some (.agg [hZ 0,.string ⟨#[]⟩,.string ⟨#[]⟩,.slice none 0 0,.slice none 0 0,hZ 0,hZ 0,hZ 0,hZ 0].toArray)):=by kernel_rfl
def X7:aU hH 196 0=some (0,some true):=by kernel_rfl
def im:aU hH 196 1=some (1,some true):=by kernel_rfl
def jw:dJ hH 198=some (false,1):=by kernel_rfl
def fS:eY hH 198=some (209,4,40,some 4):=by kernel_rfl
def ko:aU hH 203 0=some (0,some true):=by kernel_rfl
def fG:aU hH 203 1=some (1,some true):=by kernel_rfl
def mI:aU hH 203 2=some (2,some true):=by kernel_rfl
def xB:aU hH 203 3=some (3,some true):=by kernel_rfl
def ahx:dJ hH 209=some (true,4):=by kernel_rfl
def lX:aU hH 209 0=some (0,some true):=by kernel_rfl
def nU:aU hH 209 1=some (1,some true):=by kernel_rfl
def sO:aU hH 209 2=some (2,some true):=by kernel_rfl
def lY:aU hH 209 3=some (3,some true):=by kernel_rfl
def ad5:eD hH 209=some (some (.agg [hZ 0,.string ⟨#[]⟩,hZ 0,hZ 0].toArray)):=by kernel_rfl
def Ms:dJ hH 218=some (true,12):=by kernel_rfl
def pB:aU hH 218 0=some (0,some true):=by kernel_rfl
def Mt:aU hH 218 1=some (9,some true):=by kernel_rfl
def X8:aU hH 218 2=some (10,some true):=by kernel_rfl
def Mu:aU hH 218 3=some (11,some true):=by kernel_rfl
def SX:eD hH 218=some (some (.agg [hZ 0,.string ⟨#[]⟩,.string ⟨#[]⟩,.slice none 0 0,.slice none 0 0,hZ 0,hZ 0,hZ 0,hZ 0,.slice none 0 0,.slice none 0 0,.bool false].toArray)):=by kernel_rfl
def Du:eY hH 224=some (227,2,16,some 2):=by kernel_rfl
def Bd:eD hH 224=some (some (.slice none 0 0)):=by kernel_rfl
def SY:dJ hH 227=some (true,2):=by kernel_rfl
def Mv:aU hH 227 0=some (0,some true):=by kernel_rfl
def Mw:aU hH 227 1=some (1,some true):=by kernel_rfl
def SZ:eD hH 227=some (some (.agg [hZ 0,hZ 0].toArray)):=by kernel_rfl
def iF:dJ hH 231=some (true,4):=by kernel_rfl
def gV:aU hH 231 0=some (0,some true):=by kernel_rfl
def iq:aU hH 231 1=some (1,some true):=by kernel_rfl
def mJ:aU hH 231 2=some (2,some true):=by kernel_rfl
def pC:aU hH 231 3=some (3,some true):=by kernel_rfl
def rW:eD hH 231=some (some (.agg [hZ 0,hZ 0,hZ 0,hZ 0].toArray)):=by kernel_rfl
def S0:dJ hH 249=some (false,1):=by kernel_rfl
def ad6:eD hH 249=some (some (.nilFunc)):=by kernel_rfl
def ue:eY hH 277=some (320,2,16,some 2):=by kernel_rfl
def xC:dJ hH 288=some (false,1):=by kernel_rfl
def Mx:eY hH 300=some (24,1,24,some 1):=by kernel_rfl
def iR:aU hH 305 0=some (0,some true):=by kernel_rfl
def fo:aU hH 305 1=some (1,some true):=by kernel_rfl
def lf:aU hH 305 2=some (2,some true):=by kernel_rfl
def Be:aU hH 305 3=some (3,some true):=by kernel_rfl
def qT:aU hH 305 4=some (4,some true):=by kernel_rfl
def gm:dJ hH 308=some (true,4):=by kernel_rfl
def sP:aU hH 308 0=some (0,some true):=by kernel_rfl
def pD:aU hH 308 1=some (1,some true):=by kernel_rfl
def vc:aU hH 308 2=some (2,some true):=by kernel_rfl
def X9:aU hH 308 3=some (3,some true):=by kernel_rfl
def uf:eD hH 308=some (some (.agg [.slice none 0 0,hZ 0,hZ 0,hZ 0].toArray)):=by kernel_rfl
def qU:aU hH 316 0=some (0,some true):=by kernel_rfl
def vd:aU hH 318 0=some (0,some true):=by kernel_rfl
def My:aU hH 318 1=some (1,some true):=by kernel_rfl
def ad7:eD hH 318=some (some (.agg [.slice none 0 0,hZ 0].toArray)):=by kernel_rfl
def E9:dJ hH 320=some (true,2):=by kernel_rfl
def nV:aU hH 320 0=some (0,some true):=by kernel_rfl
def qV:aU hH 320 1=some (1,some true):=by kernel_rfl
def JZ:eD hH 320=some (some (.agg [hZ 0,hZ 0].toArray)):=by kernel_rfl
def Ya:dJ hH 348=some (true,16):=by kernel_rfl
def S1:eD hH 348=some (some (.agg [.nilFunc,.nilFunc,.nilFunc,.nilFunc,.nilFunc,.nilFunc,.nilFunc,.nilFunc,.nilFunc,.nilFunc,.nilFunc,.nilFunc,.nilFunc,.nilFunc,.nilFunc,.nilFunc].toArray)):=by kernel_rfl
def apI:dJ hH 361=some (false,1):=by kernel_rfl
def ahy:dJ hH 364=some (true,15):=by kernel_rfl
def ad8:eD hH 364=some (some (.agg [.string ⟨#[]⟩,.string ⟨#[]⟩,.string ⟨#[]⟩,.string ⟨#[]⟩,.string ⟨#[]⟩,.string ⟨#[]⟩,.string ⟨#[]⟩,.string ⟨#[]⟩,.string ⟨#[]⟩,.string ⟨#[]⟩,.string ⟨#[]⟩,.string ⟨#[]⟩,.string ⟨#[]⟩,.string ⟨#[]⟩,.string ⟨#[]⟩].toArray)):=by kernel_rfl
def nW(B:Option Addr)(M V:Nat)(J:Option Addr)(G Y:Nat)(u:Option Addr)(W E:Nat)(U:Option Addr)(I O:Nat):pr hH (mv 27 [(1,.slice B M V),(2,.slice J G Y),(3,.slice u W E),(4,.slice U I O)].toArray)=some (.agg [.slice none 0 0,.slice B M V,.slice J G Y,.slice u W E,.slice U I O,.slice none 0 0].toArray):=by kernel_rfl
def Ih(B:Option Addr)(E u:Nat)(G:Int):pr hH (mv 85 [(0,.slice B E u),(1,hZ G)].toArray)=some (.agg [.slice B E u,hZ G].toArray):=by kernel_rfl
def PY(E:Option Addr)(u I:Nat)(B:Option Addr)(G J:Nat):pr hH (mv 122 [(0,.slice E u I),(1,.slice B G J)].toArray)=some (.agg [.slice E u I,.slice B G J,.slice none 0 0,.slice none 0 0,.slice none 0 0].toArray):=by kernel_rfl
def J0(u:Int)(E:Int)(B:Int):pr hH (mv 125 [(0,hZ u),(1,hZ E),(2,hZ B)].toArray)=some (.agg [hZ u,hZ E,hZ B].toArray):=by kernel_rfl
def Qa(u:ByteArray)(B:Int):pr hH (mv 146 [(0,.string u),(3,hZ B)].toArray)=some (.agg [.string u,.slice none 0 0,.slice none 0 0,hZ B].toArray):=by kernel_rfl
def Bf(G:ByteArray)(u:Int)(E:Option Addr)(B I:Nat):pr hH (mv 146 [(0,.string G),(3,hZ u),(2,.slice E B I)].toArray)=some (.agg [.string G,.slice none 0 0,.slice E B I,hZ u].toArray):=by kernel_rfl
def Yb(u:Int):pr hH (mv 146 [(3,hZ u)].toArray)=some (.agg [.string ⟨#[]⟩,.slice none 0 0,.slice none 0 0,hZ u].toArray):=by kernel_rfl
def ad9:pr hH (mv 161 [].toArray)=some (.agg [.string ⟨#[]⟩,hZ 0,hZ 0].toArray):=by kernel_rfl
def Fa(u:ByteArray)(B:Int):pr hH (mv 161 [(0,.string u),(2,hZ B)].toArray)=some (.agg [.string u,hZ 0,hZ B].toArray):=by kernel_rfl
def J1(E:Int)(B:Int)(u:Int):pr hH (mv 164 [(0,hZ E),(1,hZ B),(3,hZ u)].toArray)=some (.agg [hZ E,hZ B,.string ⟨#[]⟩,hZ u].toArray):=by kernel_rfl
def J2(u:Int)(B:ByteArray)(E:Int):pr hH (mv 164 [(0,hZ u),(2,.string B),(3,hZ E)].toArray)=some (.agg [hZ u,hZ 0,.string B,hZ E].toArray):=by kernel_rfl
def Fb(u:Int)(B:Int):pr hH (mv 164 [(0,hZ u),(3,hZ B)].toArray)=some (.agg [hZ u,hZ 0,.string ⟨#[]⟩,hZ B].toArray):=by kernel_rfl
def Yc(u:Int):pr hH (mv 181 [(0,hZ u)].toArray)=some (.agg [hZ u,.slice none 0 0].toArray):=by kernel_rfl
def Fc(U:Option Addr)(u M:Nat)(B:Option Addr)(J I:Nat)(G:Option Addr)(E V:Nat)(O:Option Nat):pr hH (mv 187 [(0,.slice U u M),(1,.slice B J I),(2,.slice G E V),(4,.map O)].toArray)=some (.agg [.slice U u M,.slice B J I,.slice G E V,.slice none 0 0,.map O].toArray):=by kernel_rfl
def Qb(B:Int)(u:Int):pr hH (mv 193 [(0,hZ B),(8,hZ u)].toArray)=some (.agg [hZ B,.string ⟨#[]⟩,.string ⟨#[]⟩,.slice none 0 0,.slice none 0 0,hZ 0,hZ 0,hZ 0,hZ u].toArray):=by kernel_rfl
def Yd(u:Int):pr hH (mv 196 [(0,hZ u)].toArray)=some (.agg [hZ u,.slice none 0 0].toArray):=by kernel_rfl
def Ye(B:Option Addr)(E u:Nat):pr hH (mv 203 [(0,.slice B E u)].toArray)=some (.agg [.slice B E u,hZ 0,hZ 0,hZ 0].toArray):=by kernel_rfl
def Yf(u:Int):pr hH (mv 209 [(3,hZ u)].toArray)=some (.agg [hZ 0,.string ⟨#[]⟩,hZ 0,hZ u].toArray):=by kernel_rfl
def Qc(u:Int)(B:Int):pr hH (mv 227 [(0,hZ u),(1,hZ B)].toArray)=some (.agg [hZ u,hZ B].toArray):=by kernel_rfl
def yM:pr hH (mv 231 [].toArray)=some (.agg [hZ 0,hZ 0,hZ 0,hZ 0].toArray):=by kernel_rfl
def Bg(u:Int):pr hH (mv 231 [(0,hZ u)].toArray)=some (.agg [hZ u,hZ 0,hZ 0,hZ 0].toArray):=by kernel_rfl
def Qd(B:Option Addr)(E u:Nat)(G:Int):pr hH (mv 305 [(0,.slice B E u),(1,hZ G)].toArray)=some (.agg [.slice B E u,hZ G,hZ 0,hZ 0,.slice none 0 0].toArray):=by kernel_rfl
def Ab(B:Option Addr)(E u:Nat)(G:Int):pr hH (mv 308 [(0,.slice B E u),(1,hZ G)].toArray)=some (.agg [.slice B E u,hZ G,hZ 0,hZ 0].toArray):=by kernel_rfl
def Qe(B:Int)(u:Int):pr hH (mv 308 [(2,hZ B),(3,hZ u)].toArray)=some (.agg [.slice none 0 0,hZ 0,hZ B,hZ u].toArray):=by kernel_rfl
def Fe(u:Int)(B:Int):pr hH (mv 320 [(0,hZ u),(1,hZ B)].toArray)=some (.agg [hZ u,hZ B].toArray):=by kernel_rfl
def Yg:E6 hH 231=some [0,0,0,0]:=by kernel_rfl
end Go.Proofs.YtpdlpabnlkofmaaGreatDoor
namespace Go.Fw
def sep(H1 H2:HP):HP where
 p w F:=∃B u,H1.p w B/\H2.p w u/\(∀b,B b->¬ u b)/\∀b,F b↔B b\/u b
 loc w w' F h hh:=by
  obtain⟨B,u,h1,h2,h3,h4⟩:=h
  exact⟨B,u,H1.loc _ _ _ h1 λb hb=>hh b ((h4 b).2 (.inl hb)),H2.loc _ _ _ h2 λb hb=>hh b ((h4 b).2 (.inr hb)),h3,h4⟩
 lt w F b h hb:=by
  obtain⟨B,u,h1,h2,h3,h4⟩:=h
  rcases(h4 b).1 hb with hf|hf
  .exact H1.lt _ _ _ h1 hf
  .exact H2.lt _ _ _ h2 hf
def qm{α:Type}(H:α->HP):HP where
 p w F:=∃x,(H x).p w F
 loc w w' F h hh:=by obtain⟨x,h⟩:=h;exact⟨x,(H x).loc _ _ _ h hh⟩
 lt w F b h hb:=by obtain⟨x,h⟩:=h;exact(H x).lt _ _ _ h hb
def fact(φ:Prop)(H:HP):HP where
 p w F:=φ/\H.p w F
 loc w w' F h hh:=⟨h.1,H.loc _ _ _ h.2 hh⟩
 lt w F b h hb:=H.lt _ _ _ h.2 hb
def emp:HP where
 p _ F:=∀b,¬ F b
 loc _ _ _ h _:=h
 lt _ _ b h hb:=(h b hb).elim
section
variable {P:Program}{w w0 w':World}{A:Nat->Prop}{L:List HP}{H H1 H2:HP}
theorem St.split(h:St w0 A (sep H1 H2::L) w):St w0 A (H1::H2::L) w:=by
 obtain⟨U,F,B,⟨M,G,J,I,O,u⟩,h2,h3,h4,h5⟩:=h.uC
 refine⟨h.aG,U,M,λb=>G b\/B b,J,λb hb=>h2 b ((u b).2 (.inl hb)),λb hb E=>?_,λb=>?_,G,B,I,λb hb=>h2 b ((u b).2 (.inr hb)),λb hb E=>h3 b ((u b).2 (.inr hb)) E,λb=>Iff.rfl,h5⟩
 .grind
 grind
theorem St.join(h:St w0 A (H1::H2::L) w):St w0 A (sep H1 H2::L) w:=by
 obtain⟨U,F,O,h1,h2,h3,h4,u,E,I,B,W,G,J⟩:=h.uC
 refine⟨h.aG,U,λb=>F b\/u b,E,⟨F,u,h1,I,λb hb M=>h3 b hb ((G b).2 (.inl M)),λb=>Iff.rfl⟩,λb hb=>hb.elim (h2 b) (B b),λb hb V=>?_,λb=>?_,J⟩
 .grind
 grind
theorem St.eA{α:Type}{H:α->HP}(h:St w0 A (qm H::L) w):∃x,St w0 A (H x::L) w:=by
 obtain⟨U,F,u,⟨x,h1⟩,h2⟩:=h.uC;exact⟨x,h.aG,U,F,u,h1,h2⟩
theorem St.eB{α:Type}{H:α->HP}(x:α)(h:St w0 A (H x::L) w):St w0 A (qm H::L) w:=by
 obtain⟨U,F,u,h1,h2⟩:=h.uC;exact⟨h.aG,U,F,u,⟨x,h1⟩,h2⟩
theorem St.mK{φ:Prop}(h:St w0 A (fact φ H::L) w):φ/\St w0 A (H::L) w:=by
 obtain⟨U,F,u,⟨x,h1⟩,h2⟩:=h.uC;exact⟨x,h.aG,U,F,u,h1,h2⟩
theorem St.oW{φ:Prop}(x:φ)(h:St w0 A (H::L) w):St w0 A (fact φ H::L) w:=by
 simp_all[fact]
def nd(F:Nat->Prop)(H':HP)(w w':World):Prop:=∃u,H'.p w' u/\(∀b,u b->F b\/w.heap.size<=b)/\gJ F w w'
def kq(H:HP)(w w':World):Prop:=∃F,H.p w' F/\(∀b,F b->w.heap.size<=b)/\Ext w w'
theorem St.mut{F:Nat->Prop}(u:St w F (H::L) w'):nd F H w w':=by
 obtain⟨B,h1,h2⟩:=u.head;exact⟨B,h1,h2,u.aG⟩
theorem St.fresh(u:St w aX (H::L) w'):kq H w w':=by
 obtain⟨B,h1,h2⟩:=u.head;exact⟨B,h1,λb hb=>(h2 b hb).elim (λh=>h.elim) id,u.aG⟩
theorem St.made(u:St w0 A L w)(h:kq H w w'):St w0 A (H::L) w':=by
 obtain⟨F,h1,h2,h3⟩:=h;exact u.new h3 h1 h2
theorem aW{f:FuncId}{args:List Value}{X:Value}{K:Value->hM}(pl:Plain P f)(u:St w0 A L w)(hc:Calls P f args.toArray w (tQ λv w'=>v=X/\Ext w w'))(k:∀w',Ext w w'->St w0 A L w'->K X w'):Dm P f args w K:=
 dO pl hc λv w' h=>by obtain⟨rfl,h2⟩:=h;exact k w' h2 (u.ext h2)
theorem dV{f:FuncId}{args:List Value}{H:Value->HP}{K:Value->hM}(pl:Plain P f)(u:St w0 A L w)(hc:Calls P f args.toArray w (tQ λv w'=>kq (H v) w w'))(k:∀v w',kq (H v) w w'->St w0 A (H v::L) w'->K v w'):Dm P f args w K:=
 dO pl hc λv w' h=>k v w' h (u.made h)
theorem St.Yh{F:Nat->Prop}{B:Nat->Prop}{H':HP}(M:St w0 A (H::L) w)(h2:∀b,F b->A b\/w0.heap.size<=b)(h3:∀b,F b->¬ B b)(h5:sE w0 A L w B)(h:nd F H' w w'):St w0 A (H'::L) w':=by
 obtain⟨G,O,J,I⟩:=h
 refine⟨M.aG.trans I (λ_ h=>h) λb hb u=>(h2 b u).elim id λU=>cO,λb=>G b\/B b,G,B,O,λb hb=>?_,λb hb E=>?_,λb=>Iff.rfl,?_⟩
 .rcases J b hb with u|u
  .exact h2 b u
  exact .inr (vt M.aG.size u)
 .rcases J b hb with u|u
  .exact h3 b u E
  have:=h5.lt b E;omega
 exact h5.loc λb hb=>I.bW b (h5.lt b hb) λu=>h3 b u hb
theorem qJ{f:FuncId}{args:List Value}{H':Value->HP}{Φ:Value->hM}{K:Value->hM}(pl:Plain P f)(u:St w0 A (H::L) w)
  (hc:∀F,H.p w F->Calls P f args.toArray w (tQ λv w'=>Φ v w'/\nd F (H' v) w w')) (k:∀v w',Φ v w'->St w0 A (H' v::L) w'->K v w'):Dm P f args w K:=by
 obtain⟨U,F,G,h1,h2,h3,h4,h5⟩:=u.uC
 exact dO pl (hc F h1) λv w' ⟨B,E⟩=>k v w' B (u.Yh h2 h3 h5 E)
end
section
variable {α:Type}[Flat α] {P:Program}{w w0:World}{A S:Nat->Prop}{L:List HP}{xs ys:List α}
theorem dD.one{v:Value}(h:dD S w v xs):xo v=true:=by obtain⟨a,c,rfl,_⟩:=h;rfl
theorem Hy{T E G R b n cap:Nat}{z:Option Nat}{src:Value}{cs:List Value}(ht:eY P T=some (E,mA α,G,z))(hb:nh w b cs)(u:dD S w src ys)
  (J:n+ys.length<=cap) (W:n*mA α+ys.length*mA α<=cs.length) :
  ∃w',(Builtin.append_ #[T,T] R [.slice (some ⟨b,0,none⟩) n cap,src].toArray).run P w=.ok (.slice (some ⟨b,0,none⟩) (n+ys.length) cap) w'/\nh w' b (jo cs (n*mA α) (flat ys))/\gJ (· = b) w w':=by
 obtain⟨O,B,hi,M,Z,_⟩:=fz ht
 have rd:=u
 obtain⟨Y,Hu,rfl,XT,V⟩:=rd
 obtain⟨w',h1,h2,h3⟩:=nj (P:=P) (o:=n*mA α) (flat ys) 0 cs w hb (by rw[dG];omega) A0
 refine⟨w',?_,cO,h3⟩
 have U:=yH (α:=α) (P:=P) (sz:=mA α) rfl u
 have I:(⟨b,0,none⟩:Addr).add (n*mA α)=⟨b,n*mA α,none⟩:=by rw[gT,u4]
 simp[Builtin.append_,run_underlying O,sizeOf,typeInfo,hi,Builtin.lenOf,J,U,M,I,h1]
theorem U8{T E M R b o n c:Nat}{z:α}{cs:List Value}(ht:W3 P T E (mA α) M)(u:oT P E (ir z))(hb:nh w b cs)(O:o+n*mA α<=cs.length) :
  ∃w',(Builtin.clear_ #[T] R [.slice (some ⟨b,o,none⟩) n c].toArray).run P w=.ok (.tuple #[]) w'/\nh w' b (jo cs o (flat (r6 n z)))/\gJ (· = b) w w':=by
 obtain⟨G,J,hi,V,U,_⟩:=fz ht
 unfold oT eD at u
 rw[hi]at u
 simp only[Option.map_some,n5.injEq]at u
 by_cases I:n=0
 .subst I
  refine⟨w,?_,by simpa[kV,jo]using hb,gJ.refl _ _⟩
  simp[Builtin.clear_,run_underlying G]
 have B:(Builtin.zeroCells (ir z).cells n).toList=flat (r6 n z):=by
  rw[qk,<- xt]
  unfold Builtin.zeroCells madeCells
  simp[yY]
 obtain⟨w',h1,h2,h3⟩:=nj (P:=P) (o:=o) (flat (r6 n z)) 0 cs w hb (by rw[dG,List.length_replicate];omega) A0
 refine⟨w',?_,cO,h3⟩
 simp[Builtin.clear_,run_underlying G,zeroValue,typeInfo,hi,u,I,B,h1]
theorem Yi{T E sz I n cap:Nat}{z:Option Nat}{a:Option Addr}{i j k:Int}{K:Value->Prop}(ht:eY P T=some (E,sz,I,z))(O:0<=i)(h1:i<=j)(h2:j<=k)(h3:k<=cap)
  (M:∀v,K v):eX P (n0 T (.slice a n cap) (some (hZ i)) (some (hZ j)) (some (hZ k))) K:=by
 obtain⟨u,G,B,J,_⟩:=fz ht
 have hb:pr P (wM true n cap (some (hZ i)) (some (hZ j)) (some (hZ k)))=some (i.toNat,j.toNat,k.toNat):=by
  simp only[wM,cZ,fY,mU]
  rw[jt cO cO]
  simp only[mU]
  rw[jt cO cO]
  simp only[mU]
  rw[jt cO cO]
  rfl
 refine⟨.slice (if k.toNat=i.toNat then a else a.map (·.add (i.toNat*sz))) (j.toNat-i.toNat) (k.toNat-i.toNat),?_,M _⟩
 unfold n0
 rw[cZ,cY u]
 simp only[mU]
 unfold QT
 rw[cZ,cY u]
 simp only[mU]
 rw[cZ,hb]
 simp only[mU]
 rw[cZ,ni B,J]
 rfl
end
def nX(b:Nat)(o:Obj):HP where
 p w F:=w.heap[b]?=some o/\∀k,F k↔k=b
 loc w w' F h hh:=⟨(hh b ((h.2 b).2 rfl)).trans h.1,h.2⟩
 lt w F b' h hb:=dI
section
variable {P:Program}{w w0 w':World}{A:Nat->Prop}{L:List HP}
theorem St.obj{b:Nat}{o:Obj}(u:St w0 A (nX b o::L) w):w.heap[b]?=some o:=by
 obtain⟨F,h,_⟩:=u.head;exact h.1
theorem Ext.alloc(w:World)(o:Obj):Ext w (w.alloc o):=Ext.push w o
theorem St.alloc{o:Obj}(u:St w0 A L w):St w0 A (nX w.heap.size o::L) (w.alloc o):=
 u.new (F:=(· = w.heap.size)) (Ext.alloc w o) ⟨mF w o,λ_=>Iff.rfl⟩ λb hb=>Nat.le_of_eq hb.symm
theorem gJ.putObj(w:World)(b:Nat)(o:Obj):gJ (· = b) w (w.putObj b o):=
 ⟨rfl,rfl,rfl,ei,λk _ u=>World.putObj_heap_other u⟩
theorem St.putObj{b:Nat}{o:Obj}(u:Obj)(E:St w0 A (nX b o::L) w):St w0 A (nX b u::L) (w.putObj b u):=
 E.rV λF B=>⟨F,⟨World.putObj_heap_same (vL B.1),B.2⟩,λ_ h=>.inl h,(gJ.putObj w b u).mono λk G=>(B.2 k).2 G⟩
theorem kT.mono{fv:Value}{args:List Value}{K u:Value->hM}(h:kT P fv args w K)(B:∀v w,K v w->u v w):kT P fv args w u:=
 HM.mono (P:=P) (k:=.Sl fv args) h B
theorem aJ{α:Type}[Flat α]{T:TypeId}{b:Nat}{cs:List Value}{x:α}{K:hM}(E:St w0 A (bW b cs::L) w)(ht:adW P T (mA α))(B:Je α=true)(u:cs.length=mA α)
  (k:∀w',St w0 A (bW b (j0 x)::L) w'->K w'):WY P (K9 T (.pointer (some ⟨b,0,none⟩)) (ir x)) w K:=by
 rw[abu B]
 refine E5 E ht (yY x) (by rw[u4,u];exact o6 _) (Za x) λw' h=>k w' ?_
 have:=mH [] cs [] (j0 x) (by rw[yY,u])
 simp only[List.length_nil,List.nil_append,oO]at this
 rwa [this]at h
theorem eL{α:Type}[Flat α]{S:Nat->Prop}{T:TypeId}{p:Value}{x:α}(ht:dJ P T=some (Je α,mA α))(h:At S w p x):(x6 T p).run P w=.ok (ir x) w:=by
 obtain⟨v,h1,h2⟩:=(aD (K:=λv=>v=ir x) ht h rfl).ex
 grind
theorem kr{b:Bool}{A B:Prop}(h:b=true)(a:A):zA (.bool b) A B:=⟨⟨_,rfl,λ_=>a,λu=>dI⟩⟩
theorem fI{b:Bool}{A B:Prop}(h:b=false)(a:B):zA (.bool b) A B:=⟨⟨_,rfl,λu=>dI,λ_=>a⟩⟩
theorem Ff{D:Nat}{K:hM}(u:St w0 A (nX D (.deferred (some []))::L) w)(k:∀w',St w0 A L w'->K w'):ng [D] w K:=
 ⟨u.obj,k _ (u.putObj (.deferred none)).drop⟩
theorem Fg(u:Loop)(h1:u.state=.ready)(h2:u.pending=none):({u with state:=if (none:Option Code).isNone=true then LoopState.ready else LoopState.done,pending:=none}:Loop)=u:=by
 cases u;grind
theorem xD{gf np:Nat}{cap:List Value}{xs:List (List Value)}{round:List Value->World->(World->(hM)->Prop)->(Option Code->hM)->Prop}
  {N R:Nat->hM}{X:Nat->Nat->hM}(pl:Plain P gf) (hs:St w0 A L w) (I:Nat->List HP->Prop) (V:Code->List HP->Prop) (h0:I 0 L) (hnp:∀x∈xs,x.length=np)
  (hgf:∀(y:Value) (J:Nat->hM) (Jx:hM) (W:World),(∀k W,J k W->∃Y M,I k M/\St w0 A (Y::M) W)->(∀k W O,J k W->Ext W O->J k O)->J 0 W->
   (∀k args O,xs[k]?=some args->J k O->kT P y args O λv Z=>(v=.bool true/\J (k+1) Z)\/(v=.bool false/\Jx Z))->
   Calls P gf ([y]++cap).toArray W (tQ λ_ O=>J xs.length O\/Jx O))
  (EZ:∀k args (Y1 Y2:HP) (B:World->(hM)->Prop) (Kr:Option Code->hM) M W,xs[k]?=some args->I k M->
   (∀M E (kk:hM),St w0 A (Y1::M) E->(∀w2,St w0 A (Y2::M) w2->kk w2)->B E kk)->
   (∀M E,St w0 A (Y2::M) E->I (k+1) M->Kr none E)->(∀c M E,St w0 A (Y2::M) E->V c M->Kr (some c) E)->
   St w0 A (Y1::M) W->round args W B Kr)
  (Yj:∀D M W,I xs.length M->St w0 A (nX D (.deferred (some []))::M) W->N D W)
  (ajB:∀D M W,V .ret M->St w0 A (nX D (.deferred (some []))::M) W->R D W)
  (Yk:∀id D M W,V (.exit id) M->St w0 A (nX D (.deferred (some []))::M) W->X id D W)
  (Qf:∀c M,V c M->(∃id,c=.exit id)\/c=.ret) :
  AY P (.func (.func gf) #[] cap.toArray) np w round (aft N R X):=by
 refine⟨gf,cap.toArray,rfl,pl,λU jd Cn hy=>?_⟩
 obtain⟨l,hl⟩:∃l,l=w.heap.size+1:=⟨_,rfl⟩
 obtain⟨D,hD⟩:∃D,D=w.heap.size:=⟨_,rfl⟩
 rw[<- hl]at hy |-
 rw[<- hD]
 let J:Nat->hM:=λk W=>∃M,I k M/\St w0 A (nX l (.loop U)::nX D (.deferred (some []))::M) W
 let Jx:hM:=λW=>∃c M,V c M/\St w0 A (nX l (.loop {U with state:=.done,pending:=some c})::nX D (.deferred (some []))::M) W
 have U9:J 0 ((w.alloc (.deferred (some []))).alloc (.loop U)):=by
  refine⟨L,h0,?_⟩
  have h1:=(hs.alloc (o:=.deferred (some []))).alloc (o:=.loop U)
  rw[show(w.alloc (.deferred (some []))).heap.size=l from by rw[hl];exact CA w _,<- hD]at h1
  exact h1
 have:=hgf (.func (.yield l) #[] #[]) J Jx _ (λk W ⟨M,G,u⟩=>⟨_,M,G,St.join u⟩) (λk W O ⟨M,G,u⟩ e=>⟨M,G,u.ext e⟩) U9 ?_
 .have e:([Value.func (.yield l) #[] #[]]++cap).toArray = #[.func (.yield l) #[] #[]]++cap.toArray:=ei
  rw[e]at this
  refine this.mono λx O ⟨v,hx,hv⟩=>⟨v,hx,?_⟩
  rcases hv with⟨M,G,u⟩|⟨c,M,G,u⟩
  .refine⟨.ready,none,ei,?_,?_⟩
   .rw[<- jd,<- Cn];exact u.obj
   exact Yj D M _ G (u.putObj _).drop
  refine⟨.done,some c,ei,u.obj,?_⟩
  rcases Qf c M G with⟨id,rfl⟩|rfl
  .exact Yk id D M _ G (u.putObj _).drop
  exact ajB D M _ G (u.putObj _).drop
 intro k args W hk ⟨M,G,u⟩
 refine⟨.inr ⟨l,rfl,?_⟩⟩
 refine hy args W _ (hnp args (kE hk)) u.obj ?_
 refine EZ k args (sep (nX l (.loop U)) (nX D (.deferred (some [])))) (sep (nX l (.loop {U with state:=.busy})) (nX D (.deferred (some [])))) _ _ M W hk G
  (λM E kk h1 h2=>?_) (λM E h1 h2=>?_) (λc M E h1 h2=>?_) (St.join u)
 .have h1:=h1.split
  exact⟨h1.obj,h2 _ (h1.putObj _).join⟩
 .have h1:=h1.split
  refine⟨h1.obj,.inl ⟨rfl,M,h2,?_⟩⟩
  have:=h1.putObj (.loop {U with state:=if (none:Option Code).isNone=true then LoopState.ready else LoopState.done,pending:=none})
  rw[Fg U jd Cn]at this |-
  exact this
 have h1:=h1.split
 exact⟨h1.obj,.inr ⟨rfl,c,M,h2,h1.putObj _⟩⟩
end
section
variable {P:Program}{w w0:World}{A S:Nat->Prop}{L:List HP}
theorem rX{t:Array TypeId}{T:TypeId}{a b:Int}{K:Value->Prop}(k:K (hZ (min a b))):eX P (Builtin.min_ t T [hZ a,hZ b].toArray) K:=by
 refine⟨_,?_,k⟩
 show pr P (Builtin.min2 (hZ a) (hZ b))=_
 unfold Builtin.min2
 by_cases h:b<a
 .simp[h,fY];omega
 simp[h,fY];omega
theorem En{t:Array TypeId}{T:TypeId}{a b:Int}{K:Value->Prop}(k:K (hZ (max a b))):eX P (Builtin.max_ t T [hZ a,hZ b].toArray) K:=by
 refine⟨_,?_,k⟩
 show pr P (Builtin.max2 (hZ a) (hZ b))=_
 unfold Builtin.max2
 by_cases h:a<b
 .simp[h,fY];omega
 simp[h,fY];omega
theorem Mz{α β:Type}[Flat α][Flat β]{T f u:Nat}{p:Value}{x:α}(y:β){K:Value->Prop}(ht:xp P T f u)(h:At S w p x)(E:((j0 x).drop u).take (mA β)=j0 y)
  (k:∀q,At S w q y->K q):eX P (Gl T p f) K:=by
 obtain⟨b,o,rfl,h2,h3⟩:=h
 refine aA ht (k _ ⟨b,o+u,rfl,h2,λj c B=>?_⟩)
 grind
end
section
variable {P:Program}{α:Type}[Flat α] {A:Nat->Prop}{w0 w:World}{L:List HP}{xs:List α}
def Qg(α:Type)[Flat α](v:Value)(i u:Nat)(p:Value):Prop:=∃b n c,v=.slice (some ⟨b,0,none⟩) n c/\p=.pointer (some ⟨b,i*mA α+u,none⟩)
theorem mL{T f u i:Nat}{v p:Value}{K:Value->Prop}(ht:xp P T f u)(h:Ia α v i p)(k:∀q,Qg α v i u q->K q):eX P (Gl T p f) K:=by
 obtain⟨b,n,c,h1,rfl⟩:=h
 exact aA ht (k _ ⟨b,n,c,h1,rfl⟩)
theorem nY{β:Type}[Flat β]{T:Nat}{v p:Value}{i u:Nat}{x:α}(y:β){K:Value->Prop}(O:St w0 A (bE v xs::L) w)(ht:dJ P T=some (Je β,mA β))(J:Qg α v i u p)(G:xs[i]?=some x)
  (M:((j0 x).drop u).take (mA β)=j0 y) (k:K (ir y)):Lu P (x6 T p) w K:=by
 obtain⟨F,h,_⟩:=O.head
 obtain⟨b,cap,rest,I,hb,V,_⟩:=sn h (kB.1 G).1
 obtain⟨U,n,c,E,rfl⟩:=J
 rw[I]at E
 simp only[yZ.injEq,n5.injEq,Addr.mk.injEq]at E
 obtain⟨⟨rfl,_,_⟩,_,_⟩:=E
 refine aD (S:=λ_=>True) ht ⟨b,i*mA α+u,rfl,trivial,λj c B=>hb.cell ?_⟩ k
 rw[<- M,List.getElem?_take]at B
 split at B
 .rw[Jo]at B
  have:=sF G B
  rw[Oe,u3 (kB.1 this).1];exact this
 cases B
theorem Yl{β:Type}[Flat β]{T:Nat}{v p:Value}{i u:Nat}{K:hM}{x:α}(y:α)(z:β)(Z:St w0 A (bE v xs::L) w)(ht:dJ P T=some (Je β,mA β))(hp:Qg α v i u p)(W:xs[i]?=some x)
  (hlen:u+mA β<=mA α) (hy:(j0 x).take u++j0 z++(j0 x).drop (u+mA β)=j0 y)
  (k:∀w',St w0 A (bE v (xs.set i y)::L) w'->K w'):WY P (K9 T p (ir z)) w K:=by
 obtain⟨U,F,U',g1,M,Y,g4,V⟩:=Z.uC
 have hi:=(kB.1 W).1
 obtain⟨b,cap,rest,O,hb,hl,G⟩:=sn g1 hi
 obtain⟨b',n,c,E,rfl⟩:=hp
 rw[O]at E
 simp only[yZ.injEq,n5.injEq,Addr.mk.injEq]at E
 obtain⟨⟨rfl,_,_⟩,_,_⟩:=E
 have Hv:=z9 W
 have Pk:(flat (xs.take i)).length=i*mA α:=by rw[dG,l1,Gf cO]
 have MA:i*mA α+mA α<=(flat xs).length:=by
  rw[dG,<- Nat.succ_mul];exact Nat.mul_le_mul_right _ hi
 have hxl:(j0 x).length=mA α:=yY x
 have B:(j0 z).length=mA β:=yY z
 obtain⟨w',h1,h2,h3⟩:=nj (P:=P) (o:=i*mA α+u) (j0 z) 0 (flat xs++rest) w hb (by rw[B,lr];omega) (Za z)
 have Hp:jo (flat xs++rest) (i*mA α+u+0) (j0 z)=flat (xs.set i y)++rest:=by
  have:=mH (flat (xs.take i)++(j0 x).take u) (((j0 x).drop u).take (mA β)) ((j0 x).drop (u+mA β)++flat (xs.drop (i+1))++rest) (j0 z)
   (by rw[B,l1,rH];omega)
  rw[lr,Pk,l1,Gf cO]at this
  rw[P1,Me y hi,Hv,<- hy]
  have e1:j0 x=(j0 x).take u++((j0 x).drop u).take (mA β)++(j0 x).drop (u+mA β):=by
   rw[<- tz,nK,qa,qa]
  have e2:flat (xs.take i)++j0 x++flat (xs.drop (i+1))++rest=flat (xs.take i)++(j0 x).take u++((j0 x).drop u).take (mA β)++((j0 x).drop (u+mA β)++flat (xs.drop (i+1))++rest):=by
   conv=>lhs;rw[e1]
   simp only[nK]
  rw[e2,this]
  simp only[nK]
 rw[Hp]at h2
 refine⟨w',?_,k w' ⟨Z.aG.trans (h3.mono λk I=>(G k).2 I) (λ_ h=>h) λb hb J=>(M b J).elim id λhh=>cO,U,F,U',?_,M,Y,g4,
  V.loc λb hb=>(h3.mono λk I=>(G k).2 I).bW b (V.lt b hb) λJ=>Y b J hb⟩⟩
 .show(storeVar T ⟨b,i*mA α+u,none⟩ (ir z)).run P w=_
  unfold storeVar
  rw[eT (gn (lP ht).2 w),qk]
  simp only[List.size_toArray,yY,ne_eq,not_true_eq_false,if_false]
  exact h1
 refine .inr ⟨b,cap,rest,by rw[HC];exact O,h2,?_,G⟩
 rw[lr,dG]at hl |-;rw[HC];exact hl
theorem qK{T:Nat}{b o:Nat}{cs:List Value}(x:α){K:Value->Prop}(ht:dJ P T=some (Je α,mA α))(hb:nh w b cs)(B:(cs.drop o).take (mA α)=j0 x)(k:K (ir x)) :
  Lu P (x6 T (.pointer (some ⟨b,o,none⟩))) w K:=by
 refine aD (S:=λ_=>True) ht ⟨b,o,rfl,trivial,λj c u=>hb.cell ?_⟩ k
 grind
end
structure SV where
 a:Option Addr
 n:Nat
 cap:Nat
abbrev bY:SV:=⟨none,0,0⟩
instance:Flat SV where
 agg:=false
 sz:=1
 enc s:=[.slice s.a s.n s.cap]
 val s:=.slice s.a s.n s.cap
 pos:=ee
 len _:=rfl
 one a v h:=by rw[v7.1 h];rfl
 oE h:=by cases h
 oF _ _:=rfl
section
variable {P:Program}{α:Type}[Flat α] {A:Nat->Prop}{w0 w:World}{L L':List HP}{v:Value}
def rows:List SV->List (List α)->HP
 | [],[]=>emp
 | s::ss,x::xs=>sep (bE (ir s) x) (rows ss xs)
 | _,_=>fact False emp
theorem MC:∀{u:List SV}{xs:List (List α)}{F:Nat->Prop},(rows u xs).p w F->u.length=xs.length
 | [],[],_,_=>rfl
 | s::u,x::xs,F,h=>by
  obtain⟨E,B,_,h2,_,_⟩:=h
  rw[oi,oi,MC h2]
 | [],_::_,_,h=>h.1.elim
 | _::_,[],_,h=>h.1.elim
theorem Ii:∀{E:List SV}{xs:List (List α)}{B u F:Nat->Prop}{s:SV}{x:List α},(rows E xs).p w B->(bE (ir s) x).p w u->(∀b,B b->¬ u b)->(∀b,F b↔B b\/u b)->(rows (E++[s]) (xs++[x])).p w F
 | [],[],B,u,F,s,x,h1,h2,_,h4=>by
  refine⟨u,B,h2,h1,λb hb J=>h1 b J,λb=>?_⟩
  grind
 | s'::E,x'::xs,B,u,F,s,x,h1,h2,h3,h4=>by
  obtain⟨M,G,U,I,V,O⟩:=h1
  refine⟨M,λb=>G b\/u b,U,Ii I h2 (λb hb=>h3 b ((O b).2 (.inr hb))) (λb=>Iff.rfl),λb hb=>?_,λb=>?_⟩
  .grind
  grind
 | [],_::_,_,_,_,_,_,h,_,_,_=>h.1.elim
 | _::_,[],_,_,_,_,_,h,_,_,_=>h.1.elim
theorem St.Bh{u:List SV}{xs:List (List α)}(B:St w0 A (rows u xs::L) w):u.length=xs.length:=by
 obtain⟨F,h,_⟩:=B.head;exact MC h
theorem St.aea(u:St w0 A L w):St w0 A (rows [] ([]:List (List α))::L) w:=
 u.new (Ext.refl w) (F:=aX) (λ_ h=>h) λ_ h=>h.elim
theorem St.Fh{u:List SV}{xs:List (List α)}{s:SV}{x:List α}(E:St w0 A (rows u xs::bE (ir s) x::L) w):St w0 A (rows (u++[s]) (xs++[x])::L) w:=by
 have h:=St.join E
 refine h.rV λF B=>?_
 obtain⟨I,G,h1,h2,h3,h4⟩:=B
 exact⟨F,Ii h1 h2 h3 h4,λb hb=>.inl hb,gJ.refl _ _⟩
theorem St.fN{xs:List α}(u:St w0 A (bE v xs::L) w):∃s:SV,v=ir s:=by
 obtain⟨F,h,_⟩:=u.head
 rcases h with⟨rfl,_⟩|⟨b,cap,_,rfl,_⟩
 .exact⟨⟨none,0,0⟩,rfl⟩
 exact⟨⟨_,_,_⟩,rfl⟩
theorem dD.fN{S:Nat->Prop}{xs:List α}(h:dD S w v xs):∃s:SV,v=ir s:=by
 obtain⟨a,cap,rfl,_⟩:=h;exact⟨⟨_,_,_⟩,rfl⟩
def axC(w:World)(v:Value)(xs:List (List α)):Prop:=
 ∃u:List SV,dD (λ_=>True) w v u/\u.length=xs.length/\∀(i:Nat) (s:SV) (x:List α),u[i]?=some s->xs[i]?=some x->dD (λ_=>True) w (ir s) x
end
section
variable {P:Program}
theorem jY{α:Type}[Flat α]{S:Nat->Prop}{w:World}{xs:List α}{T E B:Nat}{z:Option Nat}{v:Value}{i:Int}{K:Value->Prop}(ht:eY P T=some (E,mA α,B,z))(I:dD S w v xs)(G:0<=i)(h2:i<=xs.length)
  (k:∀u,(∀w',dD S w' v xs->dD S w' u (xs.take i.toNat))->K u):eX P (n0 T v none (some (hZ i)) none) K:=by
 obtain⟨a,cap,rfl,J,h3⟩:=I
 refine⟨_,xq ht (oU (.inl ⟨rfl,rfl⟩) (.inr ⟨i,rfl,G,rfl⟩) (l0 _) cO),k _ λw' h=>?_⟩
 have:=h.cut rfl (l0 i.toNat) cO
 grind
end
open Go.ChangeShapes Go.WideShapes Go.ChangeAt Go.RowKit
structure RdT(P:Program)(t:TypeId)(α:Type)[Flat α](φ:α->Prop):Prop where
 cells:P.cellsOf t=mA α
 rd:∀{H:Type}(enc:TypeId×Value->H) (w:World) (base:Nat) (sp:Nat->Bool) (held:Bool) (fuel:Nat) (cs:List Value) (x:DataW H×List MemPlace),
  DataW.trod enc P w base sp held fuel t cs=some x->∃a:α,cs=j0 a/\φ a
def fe(n:Int):Prop:=-9223372036854775808<=n/\n<=9223372036854775807
def ajC{P:Program}{t:TypeId}(ht:P.underlying t=some (.int .i64))(hc:P.cellsOf t=1):RdT P t Int fe:=
 ⟨hc,λenc w base u held fuel cs x h=>by
  obtain⟨n,h1,_,h3⟩:=DataW.trod_int ht h
  refine⟨n,h1,?_⟩
  simpa[Lit.wf,IntKind.min,IntKind.max,IntKind.signed,IntKind.bits,fe]using h3⟩
def ajD{P:Program}{t:TypeId}(ht:P.underlying t=some .string)(hc:P.cellsOf t=1):RdT P t ByteArray (λs=>s.size<=maxLen):=
 ⟨hc,λenc w base u held fuel cs x h=>by
  obtain⟨n,h1,_,h2⟩:=DataW.trod_string ht h
  exact⟨n,h1,h2⟩⟩
def mM{H:Type}{enc:TypeId×Value->H}{P:Program}{w:World}{base:Nat}{u:Nat->Bool}{held:Bool}{fuel:Nat}{t:TypeId}{B:Array Field}{cs:List Value}{x:DataW H×List MemPlace}
  (ht:P.underlying t=some (.struct B)) (h:DataW.trod enc P w base u held fuel t cs=some x) :
  cs.length=P.cellsOf t/\∃n,∀(i:Nat) (f:Field),B[i]?=some f->∃y,DataW.trod enc P w base u held n f.type ((cs.drop f.offset).take (P.cellsOf f.type))=some y:=by
 obtain⟨xs,n,_,_,J,I,G⟩:=DataW.trod_struct ht h
 refine⟨J,n,λi f hi=>?_⟩
 have E:i<xs.length:=by rw[I];exact(Array.getElem?_eq_some_iff.1 hi).1
 exact⟨xs[i],by rw[G i f hi,la E]⟩
def eu{cs:List Value}{o s:Nat}{r:List Value}(h:(cs.drop o).take s=r):cs.drop o=r++cs.drop (o+s):=by
 rw[<- h,<- tz,qa]
theorem aeb{α:Type}{p:Nat->α->Prop}:∀n,(∀i,i<n->∃x,p i x)->∃xs:List α,xs.length=n/\∀i x,xs[i]?=some x->p i x:=by
 intro n
 induction n with
 | zero=>simp_all
 | succ n u=>
  intro h
  obtain⟨xs,h1,h2⟩:=u λi hi=>h i cO
  obtain⟨x,E⟩:=h n cO
  refine⟨xs++[x],by simp[h1],λi y B=>?_⟩
  grind
def Qh{α:Type}[Flat α]{xs:List α}{j:Nat}{c:Value}(h:(flat xs)[j]?=some c):∃i r x,xs[i]?=some x/\(j0 x)[r]?=some c/\j=i*mA α+r:=by
 have u:j<(flat xs).length:=(kB.1 h).1
 rw[dG]at u
 have B:0<mA α:=aae
 have hi:j / mA α<xs.length:=Nat.div_lt_of_lt_mul dI
 have E:j % mA α<mA α:=aa3 _ B
 have I:j=j / mA α*mA α+j % mA α:=by rw[Nat.mul_comm];exact(Nat.div_add_mod _ _).symm
 have G:xs[j / mA α]?=some (xs[j / mA α]):=la hi
 have hc:(j0 (xs[j / mA α]))[j % mA α]?=some ((j0 (xs[j / mA α]))[j % mA α]'(by rw[yY];exact E)):=la _
 have:=sF G hc
 grind
section
variable {H:Type}{enc:TypeId×Value->H}{P:Program}{w:World}{base:Nat}{held:Bool}
theorem open_i64{r:Reach}{E:Nat}{t:TypeId}{v:Value}{d:DataW H}{ps:List MemPlace}{B:Nat->Bool}(ht:P.underlying t=some (.int .i64))(u:P2 P w r E t v)(hd:DataW.Trod enc P w base B held t v d ps) :
  ∃n,v=hZ n/\fe n:=by
 obtain⟨n,h1,_,_,h4⟩:=open_int ht u hd
 exact⟨n,h1,by simpa[Lit.wf,IntKind.min,IntKind.max,IntKind.signed,IntKind.bits,fe]using h4⟩
def J3(P:Program)(ts:List TypeId):Bool:=ts.all λt=>P.readableRec t&&decide (t<P.types.size)
theorem zJ(I:laidOutB P=true){W G:World}(hb:Below W.heap.size W G){E:Nat->Bool}:∀{ts:List TypeId}{vs:List Value}{ds:List (DataW H)}{ps:List MemPlace},J3 P ts=true->(∀x∈ps,x.block<W.heap.size)->
  (∀x∈ps,E x.block=true)->DataW.TrodAll enc P W 0 (λ_=>true) true ts vs ds ps->DataW.TrodAll enc P G 0 E true ts vs ds ps
 | [],vs,ds,ps,_,_,_,h=>by obtain⟨rfl,rfl,rfl⟩:=trodAll_nil h;exact trodAll_mk0
 | t::ts,vs,ds,ps,hr,ot,Hv,h=>by
  obtain⟨v,M,d,J,a,b,rfl,rfl,rfl,h1,h2⟩:=trodAll_cons h
  have u:P.readableRec t=true/\t<P.types.size/\J3 P ts=true:=by
   grind[J3]
  refine trodAll_cons_mk (WideElems.Trod_stays I u.1 u.2.1 h1 (λx B=>hb.same (ot x (List.mem_append_left _ B))) λx B=>Hv x (List.mem_append_left _ B)) ?_
  exact zJ I hb u.2.2 (λx B=>ot x (List.mem_append_right _ B)) (λx B=>Hv x (List.mem_append_right _ B)) h2
theorem post_true{f:Func}{s:ChangeSpec}{apart fresh handsOn again:Bool}{W I:World}{args:Array Value}{ds gs:List (DataW H)}{before:List MemPlace}{tb:TypeId}
  (Z:s.vars=[]) (hfn:∀ds:List (DataW H),ds.length=f.params.size->s.fn H ds={results:=[.lit (.bool true)],args:=ds}) (V:f.resultTypes = #[tb]) (J:P.underlying tb=some .bool)
  (hl:laidOutB P=true) (ajE:J3 P f.params.toList=true)
  (hW:DataW.Whole enc P f.params.toList s.vars apart W args.toList ds gs before) (hb:Below W.heap.size W I) :
  s.post enc P f apart fresh handsOn again W args (.bool true) I:=by
 have Y:=hW
 obtain⟨p,q,hA,hV,M,hz,hn⟩:=hW
 have ot:∀x∈before,x.block<W.heap.size:=Y.lt
 rw[Z]at hV
 obtain⟨rfl,rfl⟩:=trodVars_none hV
 simp only[oO]at M
 have hlen:ds.length=f.params.size:=by
  have:=(trodAll_length hA).2
  omega
 have G:=hfn ds hlen
 have O:∀(b:Nat) (B:Nat->Bool) (hd:Bool),DataW.TrodAll enc P I b B hd f.resultTypes.toList ((xH true).resultList f.resultTypes.size) (s.fn H (ds++[])).results []:=λb B hd=>by
  rw[oO,G,V]
  exact trodAll_mk1 (shut_bool J true)
 have u:∀B:Nat->Bool,(∀p∈before,B p.block=true)->DataW.TrodAll enc P I 0 B true f.params.toList args.toList (s.fn H (ds++[])).args before:=λB Hv=>by
  rw[oO,G]
  rw[M]at ot Hv |-
  exact zJ hl hb ajE ot Hv hA
 have Ym:∀B:Nat->Bool,DataW.TrodVars enc P I B s.vars (s.fn H (ds++[])).vars []:=λB=>by
  rw[oO,G,Z];rfl
 have j7:∀(j:Nat) (t:TypeId) (r:Value),f.resultTypes[j]?=some t->((xH true).resultList f.resultTypes.size)[j]?=some r->P2 P I .any 0 t r:=
  ok_one V rfl (okWide_bool_mk J true)
 have hold:∀p∈before,(λb=>decide (b<W.heap.size)) p.block=true:=λp hp=>dI
 refine⟨ds,[],before,[],before,[],Y,O _ _ _,u _ hold,Ym _,World.keptBut_mono (λp hp=>⟨hp,?_⟩) (hb.frame (·∈before)),λ_=>?_⟩
 .grind
 refine⟨j7,_,_,([]++before)++[],⟨[]++before,[],trodAll_append (u _ λ_ _=>rfl) (O _ _ _),Ym _,rfl,?_,?_⟩,?_⟩
 .intro b E hp
  have U:MemPlace.cell b E∈before:=dI
  rw[hb.frozen (p:=⟨b,E,none⟩) (ot _ U)]
  exact hz b E U
 .grind
 grind
end
section
variable {P:Program}{α:Type}[Flat α]
def apL(P:Program)(T n E:Nat):Prop:=P.underlying T=some (.array n E)/\pr P (sizeOf E)=some 1
theorem pE{T E n b o:Nat}{i:Int}{K:Value->Prop}(h:apL P T n E)(u:0<=i)(h1:i<n)(k:K (.pointer (some ⟨b,o+i.toNat,none⟩))) :
  eX P (Gt T (.pointer (some ⟨b,o,none⟩)) (hZ i)) K:=by
 refine⟨_,?_,k⟩
 unfold Gt
 have G:pr P (underlying T)=some (.array n E):=cY h.1
 have B:pr P (Instr.sureAddr (.pointer (some (⟨b,o,none⟩:Addr))))=some ⟨b,o,none⟩:=rfl
 simp only[asIntOf,cZ,G,mU,fY,B]
 simp only[ew (show 0<=i/\i<(n:Int)from⟨u,h1⟩),cZ,h.2,mU,fY,gT,Nat.mul_one]
end
def S2{α:Type}[Flat α]{P:Program}{w w0:World}{A:Nat->Prop}{L:List HP}{xs:List α}{T:Nat}{v p:Value}{i:Nat}{x:α}(J:St w0 A (bE v xs::L) w)(ht:dJ P T=some (Je α,mA α))(I:Ia α v i p)(B:xs[i]?=some x) :
  (x6 T p).run P w=.ok (ir x) w:=by
 obtain⟨F,h,_⟩:=J.head
 obtain⟨b,cap,rest,G,hb,O,_⟩:=sn h (kB.1 B).1
 obtain⟨M,n,c,u,rfl⟩:=I
 rw[G]at u
 simp only[yZ.injEq,n5.injEq,Addr.mk.injEq]at u
 obtain⟨⟨rfl,_,_⟩,_,_⟩:=u
 refine eL (S:=λ_=>True) ht ⟨b,i*mA α,rfl,trivial,λj c E=>hb.cell ?_⟩
 have:=sF B E
 rw[u3 (kB.1 this).1];exact this
class Deep (α:Type) (σ:outParam Type) [Flat σ] where
 dr:World->σ->α->Prop
 ext:∀{w w':World}{s:σ}{x:α},dr w s x->Ext w w'->dr w' s x
def DL{α σ:Type}[Flat σ][Deep α σ](w:World)(v:Value)(xs:List α):Prop:=
 ∃ts:List σ,dD (λ_=>True) w v ts/\ts.length=xs.length/\∀(i:Nat) (t:σ) (x:α),ts[i]?=some t->xs[i]?=some x->Deep.dr w t x
section
variable {P:Program}{α σ:Type}[Flat σ] [Deep α σ] {w w' w0:World}{v:Value}{A:Nat->Prop}{L:List HP}
theorem DL.ext{xs:List α}(h:DL w v xs)(e:Ext w w'):DL w' v xs:=by
 obtain⟨ts,h1,h2,h3⟩:=h;exact⟨ts,h1.ext e,h2,λi t x a b=>Deep.ext (h3 i t x a b) e⟩
theorem DL.nil(w:World):DL w (.slice none 0 0) ([]:List α):=⟨[],dD.nil _ _,rfl,λi t x h=>by simp at h⟩
theorem DL.fN{xs:List α}(h:DL w v xs):∃s:SV,v=ir s:=by obtain⟨_,h,_⟩:=h;exact h.fN
instance:Deep (List α) SV where
 dr w s xs:=DL w (ir s) xs
 ext h e:=DL.ext h e
def dZ(Φ:hM):HP where
 p w F:=(∀w':World,(∀b,F b->w'.heap[b]?=w.heap[b]?)->Φ w')/\∀b,F b->b<w.heap.size
 loc w w' F h hh:=⟨λu h2=>h.1 u λb hb=>(h2 b hb).trans (hh b hb),λb hb=>by
  grind⟩
 lt w F b h hb:=h.2 b hb
theorem dZ.now{Φ:hM}{F:Nat->Prop}(h:(dZ Φ).p w F):Φ w:=h.1 w λ_ _=>rfl
theorem St.dZ{Φ:hM}(u:St w0 A (dZ Φ::L) w):Φ w:=by obtain⟨F,h,_⟩:=u.head;exact dZ.now h
theorem St.dF{Φ Ψ:hM}(B:St w0 A (Fw.dZ Φ::L) w)(E:∀w,Φ w->Ψ w):St w0 A (Fw.dZ Ψ::L) w:=
 B.rV λF u=>⟨F,⟨λw' h=>E _ (u.1 w' h),u.2⟩,λb hb=>.inl hb,gJ.refl _ _⟩
theorem St.gv{Φ Ψ:hM}(E:St w0 A (Fw.dZ Φ::Fw.dZ Ψ::L) w):St w0 A (Fw.dZ (λw=>Φ w/\Ψ w)::L) w:=by
 have h:=St.join E
 refine h.rV λF B=>?_
 obtain⟨I,G,h1,h2,h3,h4⟩:=B
 refine⟨F,⟨λw' u=>⟨h1.1 w' λb hb=>u b ((h4 b).2 (.inl hb)),h2.1 w' λb hb=>u b ((h4 b).2 (.inr hb))⟩,λb hb=>?_⟩,λb hb=>.inl hb,gJ.refl _ _⟩
 rcases(h4 b).1 hb with hb|hb
 .exact h1.2 b hb
 exact h2.2 b hb
theorem St.fk{Φ:hM}(u:St w0 A L w)(h:∀w,Φ w):St w0 A (Fw.dZ Φ::L) w:=
 u.new (Ext.refl w) (F:=aX) ⟨λw' _=>h w',λb hb=>hb.elim⟩ λ_ h=>h.elim
theorem St.freeze{xs:List σ}(B:St w0 A (bE v xs::L) w):St w0 A (Fw.dZ (λw=>dD (λ_=>True) w v xs)::L) w:=
 B.rV λF u=>⟨F,⟨λw' h=>(bE.rd ((bE v xs).loc _ _ _ u h)).mono λ_ _=>trivial,λb hb=>(bE v xs).lt _ _ _ u hb⟩,λb hb=>.inl hb,gJ.refl _ _⟩
theorem St.so{b:Nat}{cs:List Value}(B:St w0 A (bW b cs::L) w):St w0 A (Fw.dZ (λw=>nh w b cs)::L) w:=
 B.rV λF u=>⟨F,⟨λw' h=>((bW b cs).loc _ _ _ u h).1,λk E=>(bW b cs).lt _ _ _ u E⟩,λb hb=>.inl hb,gJ.refl _ _⟩
def fT(ts:List σ)(xs:List α)(w:World):Prop:=ts.length=xs.length/\∀(i:Nat) (t:σ) (x:α),ts[i]?=some t->xs[i]?=some x->Deep.dr w t x
theorem fT.nil:fT ([]:List σ) ([]:List α) w:=⟨rfl,λi t x h=>by simp at h⟩
theorem fT.snoc{ts:List σ}{xs:List α}{t:σ}{x:α}(h:fT ts xs w)(ht:Deep.dr w t x):fT (ts++[t]) (xs++[x]) w:=by
 grind[fT]
theorem fT.append{ts us:List σ}{xs ys:List α}(h:fT ts xs w)(g:fT us ys w):fT (ts++us) (xs++ys) w:=by
 grind[fT]
theorem fT.ext{ts:List σ}{xs:List α}(h:fT ts xs w)(e:Ext w w'):fT ts xs w':=⟨h.1,λi t x a b=>Deep.ext (h.2 i t x a b) e⟩
theorem DL.of{ts:List σ}{xs:List α}(h:dD (λ_=>True) w v ts)(g:fT ts xs w):DL w v xs:=⟨ts,h,g.1,g.2⟩
theorem DL.open{xs:List α}(h:DL w v xs):∃ts:List σ,dD (λ_=>True) w v ts/\fT ts xs w:=by obtain⟨ts,h1,h2,h3⟩:=h;exact⟨ts,h1,h2,h3⟩
theorem fT.take{ts:List σ}{xs:List α}(h:fT ts xs w)(k:Nat):fT (ts.take k) (xs.take k) w:=by
 grind[fT]
theorem fT.drop{ts:List σ}{xs:List α}(h:fT ts xs w)(k:Nat):fT (ts.drop k) (xs.drop k) w:=by
 grind[fT]
end
section
variable {α:Type}[Flat α]
abbrev jl:Deep α α:=⟨λ_ s x=>s=x,λh _=>h⟩
theorem Ij[D:Deep α α](hD:∀w s x,D.dr w s x↔s=x){w:World}{ts xs:List α}:fT ts xs w↔ts=xs:=by
 constructor
 .rintro⟨h1,h2⟩
  refine List.ext_getElem? λi=>?_
  grind
 grind[fT]
end
instance:Deep Int Int:=jl
instance:Deep Bool Bool:=jl
instance:Deep ByteArray ByteArray:=jl
structure RdW(P:Program)(w:World)(t:TypeId)(α:Type)[Flat α](φ:α->Prop):Prop where
 cells:P.cellsOf t=mA α
 rd:∀{H:Type}(enc:TypeId×Value->H) (base:Nat) (held:Bool) (fuel:Nat) (cs:List Value) (x:DataW H×List MemPlace),
  DataW.trod enc P w base (λ_=>true) held fuel t cs=some x->∃a:α,cs=j0 a/\φ a
def zK(P:Program)(t:TypeId)(α:Type){σ:Type}[Flat σ][Deep α σ](φ:α->Prop):Prop:=∀w,RdW P w t σ (λs=>∃a:α,Deep.dr w s a/\φ a)
def RdT.deep{P:Program}{t:TypeId}{α:Type}[Flat α][D:Deep α α]{φ:α->Prop}(h:RdT P t α φ)(hD:∀w (x:α),D.dr w x x):zK P t α φ:=
 λw=>⟨h.cells,λenc base held fuel cs x u=>by
  obtain⟨a,h1,h2⟩:=h.rd enc w base _ held fuel cs x u;exact⟨a,h1,a,hD w a,h2⟩⟩
section
variable {H:Type}{enc:TypeId×Value->H}{P:Program}{w:World}{base:Nat}{held:Bool}
theorem MD{α:Type}[Flat α]{φ:α->Prop}{t e:TypeId}{fuel:Nat}{cs:List Value}{x:DataW H×List MemPlace}(ht:P.underlying t=some (.slice e))(V:RdW P w e α φ)
  (h:DataW.trod enc P w base (λ_=>true) held fuel t cs=some x):∃v,cs=[v]/\∃xs:List α,dD (λb=>b<w.heap.size) w v xs/\∀x∈xs,φ x:=by
 rcases DataW.trod_slice ht h with⟨rfl,_⟩|⟨a,len,cap,elems,rest,n,_,rfl,_,hb,hl,hm,hlen,MA,Y,_⟩
 .exact⟨_,rfl,[],dD.nil _ _,ei⟩
 refine⟨_,rfl,?_⟩
 have get:∀i,i<len->∃x:α,φ x/\w.cells? base (a.add (i*P.cellsOf e)) (P.cellsOf e)=some (j0 x):=by
  intro i hi
  have h1:=MA i hi
  rw[la cO]at h1
  obtain⟨cs',h2,h3⟩:=Pg.1 h1
  obtain⟨x,rfl,G⟩:=V.rd enc base held n cs' _ h3
  grind
 obtain⟨xs,J,I⟩:=aeb len get
 have U:=V.cells
 have M:0<mA α:=aae
 have first:∀(c:Nat) (cs':List Value),w.cells? base (a.add (c*P.cellsOf e)) (P.cellsOf e)=some cs'->c=0->a.spot=none:=by
  intro c cs' h1 E
  subst E
  have:=aaj h1
  have h2:=this.2.2 0 cO
  rw[Nat.zero_mul]at h2
  have h3:w.cell? a=cs'[0]?:=by simpa[Addr.add]using h2
  rw[la cO]at h3
  unfold World.cell? at h3
  split at h3
  .simp_all
  .cases h3
 refine⟨xs,⟨some a,cap,by rw[J],cO,?_⟩,λx G=>?_⟩
 .by_cases Ds:cap=0
  .simp_all
  right
  have u:a.spot=none:=by
   by_cases E:0<len
   .grind
   .obtain⟨h1,h2⟩:=Y rfl
    have h3:=h2 0 cO
    rw[la cO]at h3
    obtain⟨cs',h4,_⟩:=Pg.1 h3
    grind
  have B:∀j c,(flat xs)[j]?=some c->Cell w a.block (a.off+j) c:=by
   intro j c W
   obtain⟨i,r,x,G,O,rfl⟩:=Qh W
   have h1:=(aaj (I i x G).2).2.2 r (by rw[U];have:=(kB.1 O).1;rwa [yY]at this)
   rw[O,U]at h1
   obtain⟨b,o,s⟩:=a
   simp only at u
   subst u
   unfold Cell
   rw[<- h1,gT,gT,Oe]
  refine⟨a.block,a.off,by obtain⟨b,o,s⟩:=a;grind,λZ=>?_,B⟩
  obtain⟨y,ys,rfl⟩:=List.exists_cons_of_ne_nil Z
  have E:(flat (y::ys))[0]?=some ((j0 y)[0]'(by rw[yY];exact M)):=by
   rw[kW,u3 (by rw[yY];exact M),la]
  exact(B 0 _ E).lt
 obtain⟨i,hi⟩:=List.getElem?_of_mem G
 grind
theorem Qi{α σ:Type}[Flat σ][Deep α σ]{φ:α->Prop}:∀(ts:List σ),(∀s∈ts,∃a:α,Deep.dr w s a/\φ a)->∃xs:List α,fT ts xs w/\∀x∈xs,φ x
 | [],_=>⟨[],fT.nil,ei⟩
 | t::ts,h=>by
  obtain⟨a,h1,h2⟩:=h t ei
  obtain⟨xs,h3,h4⟩:=Qi ts λs u=>h s (List.mem_cons_of_mem _ u)
  refine⟨a::xs,?_,λx B=>?_⟩
  .grind[fT]
  grind
theorem zK.slice{α σ:Type}[Flat σ][Deep α σ]{φ:α->Prop}{t e:TypeId}(ht:P.underlying t=some (.slice e))(hc:P.cellsOf t=1)(E:zK P e α φ):zK P t (List α) (λxs=>∀x∈xs,φ x):=
 λw=>⟨hc,λenc base held fuel cs x B=>by
  obtain⟨v,rfl,ts,h1,h2⟩:=MD ht (E w) B
  obtain⟨xs,h3,h4⟩:=Qi ts h2
  have u:dD (λ_=>True) w v ts:=h1.mono λ_ _=>trivial
  obtain⟨s,rfl⟩:=u.fN
  exact⟨s,rfl,xs,DL.of u h3,h4⟩⟩
theorem open_dl{α σ:Type}[Flat σ][Deep α σ]{φ:α->Prop}{t e:TypeId}{r:Reach}{E:Nat}{v:Value}{d:DataW H}{ps:List MemPlace}(ht:P.underlying t=some (.slice e))(M:zK P e α φ)
  (B:P2 P w r E t v) (hd:DataW.Trod enc P w base (λ_=>true) held t v d ps):∃xs:List α,DL w v xs/\∀x∈xs,φ x:=by
 obtain⟨fuel,J⟩:=hd
 obtain⟨u,I,ts,h1,h2⟩:=MD ht (M w) J
 have G:v=u:=by
  have h1:=B
  unfold P2 at h1
  rw[ht]at h1
  cases v with
  | slice a n c=>exact(List.cons.inj (show [yZ a n c]=[u]from I)).1
  | _=>
   have h2:Cell.okWide P w r E t _:=h1
   unfold Cell.okWide at h2
   rw[ht]at h2
   simp only[Cell.ok,ht]at h2
 subst G
 obtain⟨xs,h3,h4⟩:=Qi ts h2
 exact⟨xs,DL.of (h1.mono λ_ _=>trivial) h3,h4⟩
theorem open_dst{α σ:Type}[Flat σ][Deep α σ]{φ:α->Prop}{t:TypeId}{G:Array Field}{r:Reach}{B:Nat}{v:Value}{d:DataW H}{ps:List MemPlace}(ht:P.underlying t=some (.struct G))(J:Je σ=true)
  (I:zK P t α φ) (u:P2 P w r B t v) (hd:DataW.Trod enc P w base (λ_=>true) held t v d ps):∃(s:σ) (x:α),v=ir s/\Deep.dr w s x/\φ x:=by
 obtain⟨fuel,E⟩:=hd
 obtain⟨s,M,x,h1,h2⟩:=(I w).rd enc base held fuel _ _ E
 unfold P2 at u
 rw[ht]at u
 obtain⟨cs,rfl,_⟩:=u
 refine⟨s,x,?_,h1,h2⟩
 rw[abu J,<- M]
 simp[Value.cells]
end
def Co(x:Int):Int:=IntKind.i64.wrap x
theorem Ac{x:Int}(h : -9223372036854775808<=x/\x<=9223372036854775807):Co x=x:=IntWalk.i64_in _ h
section
variable {P:Program}{T:Nat}{cx cy:Bool}{a b:Int}{K:Value->Prop}
theorem ve(k:K (hZ (Co (a+b)))):eX P (ke .add T cx cy (hZ a) (hZ b)) K:=⟨_,rfl,k⟩
theorem Bi(k:K (hZ (Co (a-b)))):eX P (ke .sub T cx cy (hZ a) (hZ b)) K:=⟨_,rfl,k⟩
theorem xE(k:K (hZ (Co (a*b)))):eX P (ke .mul T cx cy (hZ a) (hZ b)) K:=⟨_,rfl,k⟩
theorem Yn(k:K (hZ (Co (0-a)))):eX P (Op.unary .neg (hZ a)) K:=⟨_,rfl,k⟩
theorem Fi(h:b≠0)(k:K (hZ (Co (a.tdiv b)))):eX P (ke .quo T cx cy (hZ a) (hZ b)) K:=by
 refine⟨_,?_,k⟩
 show pr P (Op.intDiv .quo .i64 a b)=_
 unfold Op.intDiv
 rw[ej h];rfl
theorem Yo(h:b≠0)(k:K (hZ (a.tmod b))):eX P (ke .rem T cx cy (hZ a) (hZ b)) K:=by
 refine⟨_,?_,k⟩
 show pr P (Op.intDiv .rem .i64 a b)=_
 unfold Op.intDiv
 rw[ej h];rfl
end
def sQ{α:Type}[Flat α]{P:Program}{w w0:World}{A:Nat->Prop}{L:List HP}{xs:List α}{T E O:Nat}{z:Option Nat}{v:Value}{i:Int}{K:Value->Prop}(ht:eY P T=some (E,mA α,O,z))
  (J:St w0 A (bE v xs::L) w) (W:0<=i) (h1:i<=xs.length) (k:∀I,St w0 A (bE I (xs.take i.toNat)::L) w->K I):eX P (n0 T v none (some (hZ i)) none) K:=by
 obtain⟨a,cap,u,A1,_⟩:=J.dW
 refine⟨_,(by rw[u];exact xq ht (oU (.inl ⟨rfl,rfl⟩) (.inr ⟨i,rfl,W,rfl⟩) (l0 _) cO)),k _ ?_⟩
 refine J.rV λF B=>?_
 rcases B with⟨G,Y,U⟩|⟨b,Z,rest,V,hb,M,B⟩
 .rw[G]at u
  subst Y
  simp only[yZ.injEq]at u
  obtain⟨rfl,_,rfl⟩:=u
  have hi:i.toNat=0:=by simp at h1;omega
  refine⟨F,.inl ⟨?_,ei,U⟩,λb hb=>.inl hb,gJ.refl _ _⟩
  rw[hi];rfl
 rw[V]at u
 simp only[yZ.injEq]at u
 obtain⟨rfl,_,rfl⟩:=u
 refine⟨F,.inr ⟨b,Z,flat (xs.drop i.toNat)++rest,?_,?_,?_,B⟩,λb hb=>.inl hb,gJ.refl _ _⟩
 .have Hh:(xs.take i.toNat).length=i.toNat:=by rw[l1];omega
  rw[Hh]
  simp[gT]
 .rw[<- nK,<- gU,qa];exact hb
 exact⟨vt (by rw[l1];omega) M.1,by rw[<- nK,<- gU,qa];exact M.2⟩
section
variable {P:Program}{w w':World}{v:Value}
theorem DL.flat{α:Type}[Flat α][D:Deep α α]{xs:List α}(h:DL w v xs)(hD:∀w s x,D.dr w s x↔s=x:=by intros;exact Iff.rfl):dD (λ_=>True) w v xs:=by
 obtain⟨ts,h1,h2⟩:=h.open
 rw[(Ij hD).1 h2]at h1;exact h1
theorem DL.jZ{α:Type}[Flat α][D:Deep α α]{xs:List α}(h:dD (λ_=>True) w v xs)(hD:∀w s x,D.dr w s x↔s=x:=by intros;exact Iff.rfl):DL w v xs:=DL.of h ((Ij hD).2 rfl)
theorem ME{α:Type}[Flat α]{S:Nat->Prop}{xs:List α}{T E B:Nat}{z:Option Nat}{lo hi:Option Value}{l h:Nat}{K:Value->Prop}(ht:eY P T=some (E,mA α,B,z))(J:dD S w v xs)
  (M:lo=none/\l=0\/∃i:Int,lo=some (hZ i)/\0<=i/\l=i.toNat) (I:hi=none/\h=xs.length\/∃i:Int,hi=some (hZ i)/\0<=i/\h=i.toNat)
  (h1:l<=h) (h2:h<=xs.length) (k:∀u,(∀w',dD S w' v xs->dD S w' u ((xs.take h).drop l))->K u):eX P (n0 T v lo hi none) K:=by
 obtain⟨a,cap,rfl,O,h3⟩:=J
 exact⟨_,xq ht (oU M I h1 cO),k _ λw' G=>G.cut rfl h1 h2⟩
theorem Ad{α:Type}[Flat α]{S:Nat->Prop}{xs:List α}{T E I:Nat}{z:Option Nat}{i:Int}{K:Value->Prop}(ht:eY P T=some (E,mA α,I,z))(G:dD S w v xs)
  (B:0<=i) (h2:i<=xs.length) (k:∀u,(∀w',dD S w' v xs->dD S w' u (xs.drop i.toNat))->K u):eX P (n0 T v (some (hZ i)) none none) K:=
 ME ht G (.inr ⟨i,rfl,B,rfl⟩) (.inl ⟨rfl,rfl⟩) cO (o6 _) λu h=>k u λw' J=>dI
theorem oX{α:Type}[Flat α]{S:Nat->Prop}{xs:List α}{T E I:Nat}{z:Option Nat}{i j:Int}{K:Value->Prop}(ht:eY P T=some (E,mA α,I,z))(G:dD S w v xs)
  (B:0<=i) (h1:i<=j) (h2:j<=xs.length) (k:∀u,(∀w',dD S w' v xs->dD S w' u ((xs.take j.toNat).drop i.toNat))->K u):eX P (n0 T v (some (hZ i)) (some (hZ j)) none) K:=
 ME ht G (.inr ⟨i,rfl,B,rfl⟩) (.inr ⟨j,rfl,cO,rfl⟩) cO cO k
theorem DL.cut{α σ:Type}[Flat σ][Deep α σ]{xs:List α}{ts:List σ}{u:Value}{l h:Nat}(E:∀w',dD (λ_=>True) w' v ts->dD (λ_=>True) w' u ((ts.take h).drop l))(B:dD (λ_=>True) w v ts)(hD:fT ts xs w):DL w u ((xs.take h).drop l):=
 DL.of (E w B) ((hD.take h).drop l)
theorem DL.Yp{α σ:Type}[Flat σ][Deep α σ]{xs:List α}{ts:List σ}{u:Value}{l:Nat}(E:∀w',dD (λ_=>True) w' v ts->dD (λ_=>True) w' u (ts.drop l))(B:dD (λ_=>True) w v ts)(hD:fT ts xs w):DL w u (xs.drop l):=
 DL.of (E w B) (hD.drop l)
theorem Fj{a b:ByteArray}:(a.toList == b.toList)=decide (a=b):=by
 rw[ByteArray.toList_eq,ByteArray.toList_eq,Bool.eq_iff_iff,beq_iff_eq,decide_eq_true_eq]
 constructor
 .intro h
  obtain⟨a⟩:=a
  simp_all
 grind
theorem jP{T:Nat}{cx cy:Bool}{a b:ByteArray}{K:Value->Prop}(k:K (.bool (decide (a=b)))):eX P (ke .eql T cx cy (.string a) (.string b)) K:=by
 rw[<- Fj]at k
 exact⟨_,rfl,k⟩
theorem mn{T:Nat}{cx cy:Bool}{a b:ByteArray}{K:Value->Prop}(k:K (.bool (decide (¬ a=b)))):eX P (ke .neq T cx cy (.string a) (.string b)) K:=by
 refine⟨_,rfl,?_⟩
 have:(!(a.toList == b.toList))=decide (¬ a=b):=by rw[Fj];grind
 grind
end
def iX(s:ByteArray):List UInt8:=s.data.toList
theorem fh(s:ByteArray):(iX s).length=s.size:=by simp_all[iX]
theorem S3(s:ByteArray)(i:Nat):(iX s)[i]?=if h:i<s.size then some (s[i]'h)else none:=by
 unfold iX
 by_cases h:i<s.size
 .rw[dif_pos h,Array.getElem?_toList]
  exact Array.getElem?_eq_getElem h
 simp_all
section
variable {P:Program}{T R:Nat}{cx cy:Bool}{a b:Int}{K:Value->Prop}
theorem fu{s:ByteArray}(u:P.underlying T=some .string)(k:K (hZ (s.size:Int))):eX P (Builtin.len_ #[T] R [GJ s].toArray) K:=by
 refine⟨_,?_,k⟩
 show pr P (do
  match <- underlying T,GJ s with
  | .string,.string s=>pure (goInt s.size)
  | .array n _,_=>pure (goInt n)
  | .pointer arr,_=>
   let .array n _ <- underlying arr|stuck "len: pointer to array expected"
   pure (goInt n)
  | .slice _,.slice _ n _=>pure (goInt n)
  | .map _ _,.map none|.chan _ _,.chan none=>pure (goInt 0)
  | .map _ _,.map (some r)=>
   let .map entries _ <- getObj r|stuck "len: map expected"
   pure (goInt entries.size)
  | .chan _ _,.chan (some r)=>
   let .chan _ buf _ _ _ timer <- getObj r|stuck "len: channel expected"
   pure (goInt (if timer then 0 else buf.size))
  | _, _ => stuck "len: string, array, pointer to array, slice, map or channel expected")=_
 rw[cZ,cY u];rfl
theorem j8{s:ByteArray}{i:Int}{e:UInt8}(B:P.underlying T=some .string)(E:0<=i)(u:(iX s)[i.toNat]?=some e)(k:K (.int .u8 (e.toNat:Int))):eX P (wg T (.string s) (hZ i)) K:=by
 refine⟨_,?_,k⟩
 rw[S3]at u
 have hi:i.toNat<s.size:=by
  grind
 rw[dif_pos hi]at u
 have h3:(if 0<=i then s[i.toNat]? else none)=some e:=dI
 unfold wg
 simp only[asIntOf,cZ,cY B,mU,fY,h3]
theorem oH{s:ByteArray}{i:Int}(u:P.underlying T=some .string)(B:0<=i)(h1:i<=s.size)(k:K (.string (s.extract 0 i.toNat))):eX P (n0 T (.string s) none (some (hZ i)) none) K:=by
 refine⟨_,?_,k⟩
 unfold n0
 rw[cZ,cY u]
 simp only[mU]
 unfold QT
 rw[cZ,cY u]
 simp only[mU]
 rw[ej ee]
 have hb:pr P (wM false s.size s.size none (some (hZ i)) none)=some (0,i.toNat,s.size):=by
  simp only[wM,cZ,fY,mU]
  rw[jt B h1];rfl
 rw[cZ,hb];rfl
theorem MF{s:ByteArray}{i j:Int}(u:P.underlying T=some .string)(B:0<=i)(E:i<=j)(h1:j<=s.size)(k:K (.string (s.extract i.toNat j.toNat))):eX P (n0 T (.string s) (some (hZ i)) (some (hZ j)) none) K:=by
 refine⟨_,?_,k⟩
 unfold n0
 rw[cZ,cY u]
 simp only[mU]
 unfold QT
 rw[cZ,cY u]
 simp only[mU]
 rw[ej ee]
 have hb:pr P (wM false s.size s.size (some (hZ i)) (some (hZ j)) none)=some (i.toNat,j.toNat,s.size):=by
  simp only[wM,cZ,fY,mU]
  rw[jt cO h1];simp only[mU];rw[jt B cO];rfl
 rw[cZ,hb];rfl
theorem Bj(k:K (.bool (decide (a<=b)))):eX P (ke .leq T cx cy (.int .u8 a) (.int .u8 b)) K:=⟨_,rfl,k⟩
theorem Bl(k:K (.bool (decide (b<=a)))):eX P (ke .geq T cx cy (.int .u8 a) (.int .u8 b)) K:=⟨_,rfl,k⟩
theorem nZ(k:K (.bool (decide (a=b)))):eX P (ke .eql T cx cy (.int .u8 a) (.int .u8 b)) K:=⟨_,rfl,k⟩
theorem Yq(k:K (.bool (decide (a≠b)))):eX P (ke .neq T cx cy (.int .u8 a) (.int .u8 b)) K:=
 ⟨_,(show pr P (ke .neq T cx cy (.int .u8 a) (.int .u8 b))=some (.bool (decide (a≠b)))from by
  show some (xH (a != b))=_
  grind),k⟩
theorem MG{t:Array TypeId}{R:TypeId}{c:Int}(k:K (hZ (max (max a b) c))):eX P (Builtin.max_ t R [hZ a,hZ b,hZ c].toArray) K:=by
 refine⟨_,?_,k⟩
 show pr P (do Builtin.max2 (<- Builtin.max2 (hZ a) (hZ b)) (hZ c))=_
 have h:∀x y:Int,pr P (Builtin.max2 (hZ x) (hZ y))=some (hZ (max x y)):=by
  intro x y
  unfold Builtin.max2
  by_cases h:x<y
  .simp[h,fY];omega
  .simp[h,fY];omega
 rw[cZ,h]
 exact h _ _
end
def fJ{α σ:Type}[Flat σ][Deep α σ](v:Value)(xs:List α):HP:=qm λts:List σ=>sep (bE v ts) (dZ (fT ts xs))
section
variable {P:Program}{α σ:Type}[Flat σ] [D:Deep α σ] {w w' w0:World}{v src:Value}{A:Nat->Prop}{L:List HP}{xs ys:List α}
theorem St.Bm(u:St w0 A (fJ v xs::L) w):∃ts:List σ,St w0 A (bE v ts::Fw.dZ (fT ts xs)::L) w:=by
 obtain⟨ts,h⟩:=u.eA;exact⟨ts,h.split⟩
theorem St.xF{ts:List σ}(u:St w0 A (bE v ts::Fw.dZ (fT ts xs)::L) w):St w0 A (fJ v xs::L) w:=
 St.eB (H:=λts:List σ=>sep (bE v ts) (Fw.dZ (fT ts xs))) ts (St.join u)
theorem St.Va{ts:List σ}(u:St w0 A (bE v ts::Fw.dZ (fT ts xs)::L) w):ts.length=xs.length:=u.p1.dZ.1
theorem St.J4(u:St w0 A L w):St w0 A (fJ (.slice none 0 0) ([]:List α)::L) w:=
 St.xF (ts:=[]) ((u.fk λ_=>fT.nil).eK)
theorem St.axD(u:St w0 A (bE v ([]:List σ)::L) w):St w0 A (fJ v ([]:List α)::L) w:=
 St.xF (ts:=[]) (u.fk (Φ:=fT ([]:List σ) ([]:List α)) λ_=>fT.nil).p1
theorem St.axE{s:σ}{x:α}(u:St w0 A (bE v [s]::Fw.dZ (λw=>Deep.dr w s x)::L) w):St w0 A (fJ v [x]::L) w:=by
 refine St.xF (ts:=[s]) ?_
 refine(u.p1.dF (Ψ:=fT [s] [x]) λw h=>?_).p1
 exact(fT.nil (w:=w)).snoc h
theorem St.axF{ts us:List σ}(u:St w0 A (bE v (ts++us)::Fw.dZ (fT ts xs)::Fw.dZ (fT us ys)::L) w):St w0 A (fJ v (xs++ys)::L) w:=by
 have h1:=(u.p1:St w0 A (Fw.dZ (fT ts xs)::bE v (ts++us)::Fw.dZ (fT us ys)::L) w)
 have h2:=h1.p2.p1
 refine St.xF (ts:=ts++us) ?_
 exact(h2.gv.dF (Ψ:=fT (ts++us) (xs++ys)) λw h=>h.1.append h.2).p1
theorem St.oy(u:St w0 A (fJ v xs::L) w):St w0 A (Fw.dZ (λw=>DL w v xs)::L) w:=by
 obtain⟨ts,h⟩:=u.Bm
 exact h.freeze.gv.dF λw h=>DL.of h.1 h.2
theorem St.dl(u:St w0 A (fJ v xs::L) w):DL w v xs:=u.oy.dZ
theorem St.pF(u:St w0 A (fJ v xs::L) w):∃s:SV,v=ir s:=u.dl.fN
theorem St.enc{b:Nat}{cs cs':List Value}(u:St w0 A (bW b cs::L) w)(h:cs=cs'):St w0 A (bW b cs'::L) w:=h▸u
theorem oY{T E B:Nat}{K:Value->hM}(u:St w0 A L w)(ht:W3 P T E (mA σ) B)(k:∀v w',St w0 A (fJ v ([]:List α)::L) w'->K v w'):ry P (LU T 0 ([]:List (Nat×Value)).toArray) w K:=
 aV ([]:List σ) u ht rfl rfl ei λv w' h=>k v w' h.axD
theorem gA{T E u:Nat}{s:σ}{x:α}{K:Value->hM}(B:St w0 A (Fw.dZ (λw=>Deep.dr w s x)::L) w)(ht:W3 P T E (mA σ) u)(G:mA σ<=64)(k:∀v w',St w0 A (fJ v [x]::L) w'->K v w') :
  ry P (LU T 1 [(0,ir s)].toArray) w K:=
 aV [s] B ht rfl rfl (by simp;omega) λv w' h=>k v w' h.axE
theorem gg{T E G R:Nat}{K:Value->hM}(I:St w0 A (fJ v xs::fJ src ys::L) w)(ht:W3 P T E (mA σ) G)
  (O:xs.length+ys.length<=1073741824) (B:G<=8192) (k:∀u w',St w0 A (fJ u (xs++ys)::L) w'->K u w'):ry P (Builtin.append_ #[T,T] R [v,src].toArray) w K:=by
 obtain⟨us,h1⟩:=I.p1.Bm
 obtain⟨ts,h2⟩:=h1.p2.Bm
 have M:=h1.Va
 have J:=h2.Va
 refine bI h2 ht h2.p2.dW cO B λu w' h=>k u w' ?_
 exact h.p2.drop.axF
theorem jE{β:Type}[Flat β]{T:Nat}{b o:Nat}{cs:List Value}(x:β)(ht:dJ P T=some (Je β,mA β))(hb:nh w b cs)(B:(cs.drop o).take (mA β)=j0 x) :
  (x6 T (.pointer (some ⟨b,o,none⟩))).run P w=.ok (ir x) w:=by
 refine eL (S:=λ_=>True) ht ⟨b,o,rfl,trivial,λj c u=>hb.cell ?_⟩
 grind
end
instance:Flat UInt8 where
 agg:=false
 sz:=1
 enc b:=[.int .u8 b.toNat]
 val b:=.int .u8 b.toNat
 pos:=ee
 len _:=rfl
 one a v h:=by rw[v7.1 h];rfl
 oE h:=by cases h
 oF _ _:=rfl
instance:Deep UInt8 UInt8:=jl
def ug{α σ:Type}[Flat σ][Deep α σ](P:Program)(w:World)(f:Value)(φ:α->Prop)(g:α->Bool):Prop:=∃B first cap,f=.func (.func B) (P3 first) (P3 cap)/\Plain P B/\
 ∀(s:σ) (x:α) u,Ext w u->Deep.dr u s x->φ x->Calls P B (first++[ir s]++cap).toArray u (tQ λv E=>v=.bool (g x)/\Ext u E)
theorem ug.ext{α σ:Type}[Flat σ][Deep α σ]{P:Program}{w w':World}{f:Value}{φ:α->Prop}{g:α->Bool}(h:ug P w f φ g)(e:Ext w w'):ug P w' f φ g:=by
 obtain⟨u,first,cap,h1,h2,h3⟩:=h;exact⟨u,first,cap,h1,h2,λs x B E=>h3 s x B (e.trans E)⟩
def Ik{α:Type}[Flat α]{P:Program}{S:Nat->Prop}{w:World}{T E:TypeId}{cx cy:Bool}{v:Value}{xs:List α}{K:Value->Prop}(h:P.underlying T=some (.slice E))(B:dD S w v xs)(k:∀p:Bool,(p=true->xs=[])->K (.bool p)) :
  eX P (ke .eql T cx cy v (.slice none 0 0)) K:=by
 obtain⟨a,cap,rfl,_,h3⟩:=B
 have u:pr P (Op.equal T (.slice a xs.length cap) (.slice none 0 0))=some a.isNone:=by
  show pr P (Op.equalIn 10000 T (.slice a xs.length cap) (.slice none 0 0))=_
  unfold Op.equalIn
  rw[cZ,cY h]
  cases a<;>rfl
 refine⟨_,?_,k a.isNone λG=>?_⟩
 .show pr P (do pure (xH (<- Op.equal T (.slice a xs.length cap) (.slice none 0 0))))=_
  rw[vM,u];rfl
 grind
structure Ptr where
 b:Nat
deriving DecidableEq
instance:Flat Ptr where
 agg:=false
 sz:=1
 enc p:=[.pointer (some ⟨p.b,0,none⟩)]
 val p:=.pointer (some ⟨p.b,0,none⟩)
 pos:=ee
 len _:=rfl
 one a v h:=by rw[v7.1 h];rfl
 oE h:=by cases h
 oF _ _:=rfl
instance:Deep Ptr Ptr:=jl
def iu{α κ:Type}(H:κ->α->HP):List κ->List α->HP
 | [],[]=>emp
 | p::ps,x::xs=>sep (H p x) (iu H ps xs)
 | _,_=>fact False emp
section
variable {P:Program}{α κ:Type}{H:κ->α->HP}{A:Nat->Prop}{w0 w:World}{L:List HP}
theorem CE:∀{ps:List κ}{xs:List α}{F:Nat->Prop},(iu H ps xs).p w F->ps.length=xs.length
 | [],[],_,_=>rfl
 | s::ss,x::xs,F,h=>by
  obtain⟨B,u,_,h2,_,_⟩:=h
  rw[oi,oi,CE h2]
 | [],_::_,_,h=>h.1.elim
 | _::_,[],_,h=>h.1.elim
theorem St.ji{ps:List κ}{xs:List α}(u:St w0 A (iu H ps xs::L) w):ps.length=xs.length:=by
 obtain⟨F,h,_⟩:=u.head;exact CE h
theorem St.Bn(u:St w0 A L w):St w0 A (iu H [] []::L) w:=u.new (Ext.refl w) (F:=aX) (λ_ h=>h) λ_ h=>h.elim
def n6(H:κ->α->HP)(ps:List κ)(xs:List α)(i:Nat):HP:=sep (iu H (ps.take i) (xs.take i)) (iu H (ps.drop (i+1)) (xs.drop (i+1)))
theorem Dv:∀{ps:List κ}{xs:List α}{i:Nat}{p:κ}{x:α}{F:Nat->Prop},(iu H ps xs).p w F->ps[i]?=some p->xs[i]?=some x->(sep (H p x) (n6 H ps xs i)).p w F
 | V::ps,x'::xs,0,p,x,F,h,u,hx=>by
  rw[List.getElem?_cons_zero]at u hx
  obtain rfl:=n5.inj u
  obtain rfl:=n5.inj hx
  obtain⟨B,E,h1,h2,h3,h4⟩:=h
  exact⟨B,E,h1,⟨aX,E,λ_ h=>h,h2,λ_ h=>h.elim,λb=>⟨.inr,λh=>h.elim (λh=>h.elim) id⟩⟩,h3,h4⟩
 | V::ps,x'::xs,i+1,p,x,F,h,u,hx=>by
  rw[LV]at u hx
  obtain⟨B,E,h1,h2,h3,h4⟩:=h
  obtain⟨Y,O,M,⟨G,K2,U,Z,k3,I⟩,g3,J⟩:=Dv h2 u hx
  refine⟨Y,λb=>B b\/O b,M,⟨λb=>B b\/G b,K2,⟨B,G,h1,U,λb hb W=>h3 b hb ((J b).2 (.inr ((I b).2 (.inl W)))),λb=>Iff.rfl⟩,Z,?_,?_⟩,?_,?_⟩
  .grind
  .grind
  .grind
  grind
 | [],[],_,_,_,_,_,u,_=>by simp at u
 | [],_::_,_,_,_,_,h,_,_=>h.1.elim
 | _::_,[],_,_,_,_,h,_,_=>h.1.elim
theorem CF:∀{ps:List κ}{xs:List α}{i:Nat}{p:κ}{x:α}{F:Nat->Prop},i<xs.length->ps.length=xs.length->(sep (H p x) (n6 H ps xs i)).p w F->(iu H (ps.set i p) (xs.set i x)).p w F
 | Y::ps,x'::xs,0,p,x,F,_,_,h=>by
  obtain⟨u,G,h1,⟨U,K2,W,M,I,E⟩,h3,h4⟩:=h
  refine⟨u,G,h1,?_,h3,h4⟩
  have e:G=K2:=funext λb=>propext ((E b).trans ⟨λh=>h.elim (λh=>(W b h).elim) id,.inr⟩)
  grind
 | Y::ps,x'::xs,i+1,p,x,F,hi,hl,h=>by
  obtain⟨J,G2,V,⟨U,K2,⟨u,B,f1,O,f3,f4⟩,M,I,E⟩,g3,g4⟩:=h
  refine⟨u,λb=>J b\/(B b\/K2 b),f1,CF dI dI ⟨J,λb=>B b\/K2 b,V,⟨B,K2,O,M,λb hb Z=>I b ((f4 b).2 (.inr hb)) Z,λb=>Iff.rfl⟩,?_,λb=>Iff.rfl⟩,?_,?_⟩
  .grind
  .grind
  grind
 | [],_::_,_,_,_,_,_,hl,_=>by simp at hl
 | _,[],_,_,_,_,hi,_,_=>by simp at hi
theorem nk{β:Type}:∀{ps:List β}{i:Nat}{p:β},ps[i]?=some p->ps.set i p=ps
 | [],_,_,h=>by simp at h
 | y::ps,0,p,h=>by grind
 | y::ps,i+1,p,h=>by rw[LV]at h;rw[List.set_cons_succ,nk h]
theorem Qj{ps:List κ}{xs:List α}{i:Nat}{p:κ}{x:α}{F:Nat->Prop}(hi:i<xs.length)(B:ps.length=xs.length)(u:ps[i]?=some p)(h:(sep (H p x) (n6 H ps xs i)).p w F):(iu H ps (xs.set i x)).p w F:=by
 have:=CF hi B h;rwa [nk u]at this
theorem Il:∀{ps qs:List κ}{xs ys:List α}{F:Nat->Prop},(sep (iu H ps xs) (iu H qs ys)).p w F->(iu H (ps++qs) (xs++ys)).p w F
 | [],qs,[],ys,F,⟨B,u,h1,h2,_,h4⟩=>by
  have:F=u:=funext λb=>propext ((h4 b).trans ⟨λh=>h.elim (λh=>(h1 b h).elim) id,.inr⟩)
  grind
 | p::ps,qs,x::xs,ys,F,⟨B,u,⟨G1,G2,g1,g2,g3,g4⟩,h2,h3,h4⟩=>by
  refine⟨G1,λb=>G2 b\/u b,g1,Il ⟨G2,u,g2,h2,λb hb=>h3 b ((g4 b).2 (.inr hb)),λb=>Iff.rfl⟩,λb hb=>?_,λb=>dI⟩
  grind
 | [],_,_::_,_,_,⟨_,_,h,_⟩=>h.1.elim
 | _::_,_,[],_,_,⟨_,_,h,_⟩=>h.1.elim
theorem St.focus{ps:List κ}{xs:List α}{i:Nat}{p:κ}{x:α}(E:St w0 A (iu H ps xs::L) w)(u:ps[i]?=some p)(B:xs[i]?=some x):St w0 A (H p x::n6 H ps xs i::L) w:=
 (E.rV (H':=sep (H p x) (n6 H ps xs i)) λF G=>⟨F,Dv G u B,λb hb=>.inl hb,gJ.refl _ _⟩).split
theorem St.Eo{ps:List κ}{xs:List α}{i:Nat}{p:κ}{x:α}(B:St w0 A (H p x::n6 H ps xs i::L) w)(hi:i<xs.length)(E:ps.length=xs.length)(u:ps[i]?=some p):St w0 A (iu H ps (xs.set i x)::L) w:=
 (St.join B).rV λF G=>⟨F,Qj hi E u G,λb hb=>.inl hb,gJ.refl _ _⟩
theorem Fk:∀{ps:List κ}{xs:List α}{p:κ}{x:α}{B u F:Nat->Prop},(iu H ps xs).p w B->(H p x).p w u->(∀b,B b->¬ u b)->(∀b,F b↔B b\/u b)->(iu H (ps++[p]) (xs++[x])).p w F
 | [],[],p,x,B,u,F,h1,h2,_,h4=>⟨u,B,h2,h1,λb _ I=>h1 b I,λb=>dI⟩
 | s'::ss,x'::xs,p,x,B,u,F,h1,h2,h3,h4=>by
  obtain⟨J,E,O,G,U,M⟩:=h1
  refine⟨J,λb=>E b\/u b,O,Fk G h2 (λb hb=>h3 b ((M b).2 (.inr hb))) (λb=>Iff.rfl),λb hb=>?_,λb=>?_⟩
  .grind
  grind
 | [],_::_,_,_,_,_,_,h,_,_,_=>h.1.elim
 | _::_,[],_,_,_,_,_,h,_,_,_=>h.1.elim
theorem St.Fl{ps:List κ}{xs:List α}{p:κ}{x:α}(B:St w0 A (iu H ps xs::H p x::L) w):St w0 A (iu H (ps++[p]) (xs++[x])::L) w:=by
 refine(St.join B).rV λF u=>?_
 obtain⟨G,E,h1,h2,h3,h4⟩:=u
 exact⟨F,Fk h1 h2 h3 h4,λb hb=>.inl hb,gJ.refl _ _⟩
theorem St.Fm{ps:List κ}{xs:List α}{i:Nat}{p:κ}{x:α}(u:St w0 A (H p x::n6 H ps xs i::L) w)(hi:i<xs.length)(B:ps.length=xs.length):St w0 A (iu H (ps.set i p) (xs.set i x)::L) w:=
 (St.join u).rV λF E=>⟨F,CF hi B E,λb hb=>.inl hb,gJ.refl _ _⟩
theorem St.Vb{ps:List κ}{xs:List α}{i:Nat}(u:St w0 A (n6 H ps xs i::L) w):St w0 A (iu H (ps.eraseIdx i) (xs.eraseIdx i)::L) w:=by
 rw[wx,wx]
 exact u.rV λF B=>⟨F,Il B,λb hb=>.inl hb,gJ.refl _ _⟩
theorem St.ajG{ps:List κ}{xs:List α}{i:Nat}{p:κ}{x:α}{Φ:hM}(E:St w0 A (iu H ps xs::L) w)(u:ps[i]?=some p)(B:xs[i]?=some x)(h:∀{w F},(H p x).p w F->Φ w):Φ w:=by
 obtain⟨F,G,_⟩:=(E.focus u B).head;exact h G
end
end Go.Fw
namespace Go.Proofs.YtpdlpabnlkofmaaGreatDoor
open Go.Fw
@[ext] structure cN where
 name:ByteArray
 n:Int
 at_:Int
deriving DecidableEq
instance:Flat cN where
 agg:=true
 sz:=3
 enc e:=[.string e.name,hZ e.n,hZ e.at_]
 val e:=.agg [.string e.name,hZ e.n,hZ e.at_].toArray
 pos:=ee
 len _:=rfl
 one a v h:=by simp at h;rcases h with rfl|rfl|rfl<;>rfl
 oE _ _:=rfl
 oF h:=by cases h
instance:Deep cN cN:=jl
def yN(x:cN):Prop:=x.name.size<=maxLen/\fe x.n/\fe x.at_
@[ext] structure cC where
 op:Int
 n:Int
 name:ByteArray
 at_:Int
deriving DecidableEq
instance:Flat cC where
 agg:=true
 sz:=4
 enc e:=[hZ e.op,hZ e.n,.string e.name,hZ e.at_]
 val e:=.agg [hZ e.op,hZ e.n,.string e.name,hZ e.at_].toArray
 pos:=ee
 len _:=rfl
 one a v h:=by simp at h;rcases h with rfl|rfl|rfl|rfl<;>rfl
 oE _ _:=rfl
 oF h:=by cases h
instance:Deep cC cC:=jl
def Bo(x:cC):Prop:=fe x.op/\fe x.n/\x.name.size<=maxLen/\fe x.at_
structure bR where
 kind:Int
 eN:ByteArray
 name:ByteArray
 e:(List cC)
 f:(List cC)
 n:Int
 body:Int
 eG:Int
 at_:Int
deriving DecidableEq
structure bF where
 kind:Int
 eN:ByteArray
 name:ByteArray
 e:SV
 f:SV
 n:Int
 body:Int
 eG:Int
 at_:Int
instance:Flat bF where
 agg:=true
 sz:=9
 enc e:=[hZ e.kind,.string e.eN,.string e.name,.slice e.e.a e.e.n e.e.cap,.slice e.f.a e.f.n e.f.cap,hZ e.n,hZ e.body,hZ e.eG,hZ e.at_]
 val e:=.agg [hZ e.kind,.string e.eN,.string e.name,.slice e.e.a e.e.n e.e.cap,.slice e.f.a e.f.n e.f.cap,hZ e.n,hZ e.body,hZ e.eG,hZ e.at_].toArray
 pos:=ee
 len _:=rfl
 one a v h:=by simp at h;rcases h with rfl|rfl|rfl|rfl|rfl|rfl|rfl|rfl|rfl<;>rfl
 oE _ _:=rfl
 oF h:=by cases h
instance:Deep bR bF where
 dr w s x:=∃(B:SV) (u:SV),s=(⟨x.kind,x.eN,x.name,B,u,x.n,x.body,x.eG,x.at_⟩:bF)/\DL w (ir B) x.e/\DL w (ir u) x.f
 ext h e:=by
  obtain⟨E,I,rfl,G,h1⟩:=h
  exact⟨E,I,rfl,G.ext e,h1.ext e⟩
def J5(x:bR):Prop:=fe x.kind/\x.eN.size<=maxLen/\x.name.size<=maxLen/\(∀y∈x.e,Bo y)/\(∀y∈x.f,Bo y)/\fe x.n/\fe x.body/\fe x.eG/\fe x.at_
structure cR where
 name:ByteArray
 dY:(List ByteArray)
 body:(List bR)
 at_:Int
deriving DecidableEq
structure cL where
 name:ByteArray
 dY:SV
 body:SV
 at_:Int
instance:Flat cL where
 agg:=true
 sz:=4
 enc e:=[.string e.name,.slice e.dY.a e.dY.n e.dY.cap,.slice e.body.a e.body.n e.body.cap,hZ e.at_]
 val e:=.agg [.string e.name,.slice e.dY.a e.dY.n e.dY.cap,.slice e.body.a e.body.n e.body.cap,hZ e.at_].toArray
 pos:=ee
 len _:=rfl
 one a v h:=by simp at h;rcases h with rfl|rfl|rfl|rfl<;>rfl
 oE _ _:=rfl
 oF h:=by cases h
instance:Deep cR cL where
 dr w s x:=∃(u:SV) (B:SV),s=(⟨x.name,u,B,x.at_⟩:cL)/\DL w (ir u) x.dY/\DL w (ir B) x.body
 ext h e:=by
  obtain⟨E,I,rfl,G,h1⟩:=h
  exact⟨E,I,rfl,G.ext e,h1.ext e⟩
def yO(x:cR):Prop:=x.name.size<=maxLen/\(∀y∈x.dY,(λy:ByteArray=>y.size<=maxLen) y)/\(∀y∈x.body,J5 y)/\fe x.at_
structure ic where
 e:(List cC)
 at_:Int
deriving DecidableEq
structure jF where
 e:SV
 at_:Int
instance:Flat jF where
 agg:=true
 sz:=2
 enc e:=[.slice e.e.a e.e.n e.e.cap,hZ e.at_]
 val e:=.agg [.slice e.e.a e.e.n e.e.cap,hZ e.at_].toArray
 pos:=ee
 len _:=rfl
 one a v h:=by simp at h;rcases h with rfl|rfl<;>rfl
 oE _ _:=rfl
 oF h:=by cases h
instance:Deep ic jF where
 dr w s x:=∃(u:SV),s=(⟨u,x.at_⟩:jF)/\DL w (ir u) x.e
 ext h e:=by
  obtain⟨B,rfl,E⟩:=h
  exact⟨B,rfl,E.ext e⟩
def Fo(x:ic):Prop:=(∀y∈x.e,Bo y)/\fe x.at_
structure bZ where
 lines:(List (List cN))
 iY:(List cN)
 eS:(List cN)
 threads:(List cR)
 recover:(List cR)
 eb:(List ic)
deriving DecidableEq
structure bO where
 lines:SV
 iY:SV
 eS:SV
 threads:SV
 recover:SV
 eb:SV
instance:Flat bO where
 agg:=true
 sz:=6
 enc e:=[.slice e.lines.a e.lines.n e.lines.cap,.slice e.iY.a e.iY.n e.iY.cap,.slice e.eS.a e.eS.n e.eS.cap,.slice e.threads.a e.threads.n e.threads.cap,.slice e.recover.a e.recover.n e.recover.cap,.slice e.eb.a e.eb.n e.eb.cap]
 val e:=.agg [.slice e.lines.a e.lines.n e.lines.cap,.slice e.iY.a e.iY.n e.iY.cap,.slice e.eS.a e.eS.n e.eS.cap,.slice e.threads.a e.threads.n e.threads.cap,.slice e.recover.a e.recover.n e.recover.cap,.slice e.eb.a e.eb.n e.eb.cap].toArray
 pos:=ee
 len _:=rfl
 one a v h:=by simp at h;rcases h with rfl|rfl|rfl|rfl|rfl|rfl<;>rfl
 oE _ _:=rfl
 oF h:=by cases h
instance:Deep bZ bO where
 dr w s x:=∃(J:SV) (u:SV) (E:SV) (I:SV) (G:SV) (B:SV),s=(⟨J,u,E,I,G,B⟩:bO)/\DL w (ir J) x.lines/\DL w (ir u) x.iY/\DL w (ir E) x.eS/\DL w (ir I) x.threads/\DL w (ir G) x.recover/\DL w (ir B) x.eb
 ext h e:=by
  obtain⟨M,W,U,Z,V,Y,rfl,O,h1,h2,h3,h4,h5⟩:=h
  exact⟨M,W,U,Z,V,Y,rfl,O.ext e,h1.ext e,h2.ext e,h3.ext e,h4.ext e,h5.ext e⟩
def aec(x:bZ):Prop:=(∀y∈x.lines,(λys:(List cN)=>∀y∈ys,yN y) y)/\(∀y∈x.iY,yN y)/\(∀y∈x.eS,yN y)/\(∀y∈x.threads,yO y)/\(∀y∈x.recover,yO y)/\(∀y∈x.eb,Fo y)
@[ext] structure oZ where
 kind:Int
 n:Int
deriving DecidableEq
instance:Flat oZ where
 agg:=true
 sz:=2
 enc e:=[hZ e.kind,hZ e.n]
 val e:=.agg [hZ e.kind,hZ e.n].toArray
 pos:=ee
 len _:=rfl
 one a v h:=by simp at h;rcases h with rfl|rfl<;>rfl
 oE _ _:=rfl
 oF h:=by cases h
instance:Deep oZ oZ:=jl
structure aS where
 kind:Int
 t:Int
 i:Int
 cut:(List Int)
deriving DecidableEq
structure aI where
 kind:Int
 t:Int
 i:Int
 cut:SV
instance:Flat aI where
 agg:=true
 sz:=4
 enc e:=[hZ e.kind,hZ e.t,hZ e.i,.slice e.cut.a e.cut.n e.cut.cap]
 val e:=.agg [hZ e.kind,hZ e.t,hZ e.i,.slice e.cut.a e.cut.n e.cut.cap].toArray
 pos:=ee
 len _:=rfl
 one a v h:=by simp at h;rcases h with rfl|rfl|rfl|rfl<;>rfl
 oE _ _:=rfl
 oF h:=by cases h
instance:Deep aS aI where
 dr w s x:=∃(u:SV),s=(⟨x.kind,x.t,x.i,u⟩:aI)/\DL w (ir u) x.cut
 ext h e:=by
  obtain⟨B,rfl,E⟩:=h
  exact⟨B,rfl,E.ext e⟩
def S5(x:aS):Prop:=fe x.kind/\fe x.t/\fe x.i/\(∀y∈x.cut,fe y)
structure vT where
 kind:Int
 n:Int
 p:aS
deriving DecidableEq
structure S7 where
 kind:Int
 n:Int
 p:aI
instance:Flat S7 where
 agg:=true
 sz:=6
 enc e:=[hZ e.kind,hZ e.n,hZ e.p.kind,hZ e.p.t,hZ e.p.i,.slice e.p.cut.a e.p.cut.n e.p.cut.cap]
 val e:=.agg [hZ e.kind,hZ e.n,hZ e.p.kind,hZ e.p.t,hZ e.p.i,.slice e.p.cut.a e.p.cut.n e.p.cut.cap].toArray
 pos:=ee
 len _:=rfl
 one a v h:=by simp at h;rcases h with rfl|rfl|rfl|rfl|rfl|rfl<;>rfl
 oE _ _:=rfl
 oF h:=by cases h
instance:Deep vT S7 where
 dr w s x:=∃(u:aI),s=(⟨x.kind,x.n,u⟩:S7)/\Deep.dr w u x.p
 ext h e:=by
  obtain⟨B,rfl,E⟩:=h
  exact⟨B,rfl,Deep.ext E e⟩
def ajH(x:vT):Prop:=fe x.kind/\fe x.n/\S5 x.p
@[ext] structure cD where
 kind:Int
 t:Int
 a:Int
 n:Int
 m:Int
deriving DecidableEq
instance:Flat cD where
 agg:=true
 sz:=5
 enc e:=[hZ e.kind,hZ e.t,hZ e.a,hZ e.n,hZ e.m]
 val e:=.agg [hZ e.kind,hZ e.t,hZ e.a,hZ e.n,hZ e.m].toArray
 pos:=ee
 len _:=rfl
 one a v h:=by simp at h;rcases h with rfl|rfl|rfl|rfl|rfl<;>rfl
 oE _ _:=rfl
 oF h:=by cases h
instance:Deep cD cD:=jl
@[ext] structure iv where
 cA:Int
 fault:Int
 t:Int
 done:Bool
 stuck:Bool
deriving DecidableEq
instance:Flat iv where
 agg:=true
 sz:=5
 enc e:=[hZ e.cA,hZ e.fault,hZ e.t,.bool e.done,.bool e.stuck]
 val e:=.agg [hZ e.cA,hZ e.fault,hZ e.t,.bool e.done,.bool e.stuck].toArray
 pos:=ee
 len _:=rfl
 one a v h:=by simp at h;rcases h with rfl|rfl|rfl|rfl|rfl<;>rfl
 oE _ _:=rfl
 oF h:=by cases h
instance:Deep iv iv:=jl
@[ext] structure bJ where
 kind:Int
 line:Int
 cell:Int
 n:Int
deriving DecidableEq
instance:Flat bJ where
 agg:=true
 sz:=4
 enc e:=[hZ e.kind,hZ e.line,hZ e.cell,hZ e.n]
 val e:=.agg [hZ e.kind,hZ e.line,hZ e.cell,hZ e.n].toArray
 pos:=ee
 len _:=rfl
 one a v h:=by simp at h;rcases h with rfl|rfl|rfl|rfl<;>rfl
 oE _ _:=rfl
 oF h:=by cases h
instance:Deep bJ bJ:=jl
@[ext] structure bU where
 kind:Int
 text:ByteArray
 n:Int
 at_:Int
deriving DecidableEq
instance:Flat bU where
 agg:=true
 sz:=4
 enc e:=[hZ e.kind,.string e.text,hZ e.n,hZ e.at_]
 val e:=.agg [hZ e.kind,.string e.text,hZ e.n,hZ e.at_].toArray
 pos:=ee
 len _:=rfl
 one a v h:=by simp at h;rcases h with rfl|rfl|rfl|rfl<;>rfl
 oE _ _:=rfl
 oF h:=by cases h
instance:Deep bU bU:=jl
@[ext] structure nq where
 line:Int
 cell:Int
 n:Int
deriving DecidableEq
instance:Flat nq where
 agg:=true
 sz:=3
 enc e:=[hZ e.line,hZ e.cell,hZ e.n]
 val e:=.agg [hZ e.line,hZ e.cell,hZ e.n].toArray
 pos:=ee
 len _:=rfl
 one a v h:=by simp at h;rcases h with rfl|rfl|rfl<;>rfl
 oE _ _:=rfl
 oF h:=by cases h
instance:Deep nq nq:=jl
@[ext] structure kD where
 cell:Int
 n:Int
deriving DecidableEq
instance:Flat kD where
 agg:=true
 sz:=2
 enc e:=[hZ e.cell,hZ e.n]
 val e:=.agg [hZ e.cell,hZ e.n].toArray
 pos:=ee
 len _:=rfl
 one a v h:=by simp at h;rcases h with rfl|rfl<;>rfl
 oE _ _:=rfl
 oF h:=by cases h
instance:Deep kD kD:=jl
structure S8 where
 of:SV
 eg:SV
 l:SV
 k:SV
 w:SV
instance:Flat S8 where
 agg:=true
 sz:=5
 enc e:=[.slice e.of.a e.of.n e.of.cap,.slice e.eg.a e.eg.n e.eg.cap,.slice e.l.a e.l.n e.l.cap,.slice e.k.a e.k.n e.k.cap,.slice e.w.a e.w.n e.w.cap]
 val e:=.agg [.slice e.of.a e.of.n e.of.cap,.slice e.eg.a e.eg.n e.eg.cap,.slice e.l.a e.l.n e.l.cap,.slice e.k.a e.k.n e.k.cap,.slice e.w.a e.w.n e.w.cap].toArray
 pos:=ee
 len _:=rfl
 one a v h:=by simp at h;rcases h with rfl|rfl|rfl|rfl|rfl<;>rfl
 oE _ _:=rfl
 oF h:=by cases h
def J6(p:Bool):Int:=if p then 1 else 0
def Fp(a b:Int):Int:=Co (a.tdiv b)
def zn(op a:Int):Int:=if op=3 then Co (0-a)else if op=4 then J6 (decide (a=0))else 0
def Hz(op:Int):Int:=if op=3\/op=4 then 0 else 1
def lZ(op a b:Int):Int:=
 if op=5 then Co (a+b)else if op=6 then Co (a-b)else if op=7 then Co (a*b)else if op=8 then Fp a b else if op=9 then a.tmod b
 else if op=10 then J6 (decide (a=b))else if op=11 then J6 (decide (¬ a=b))else if op=12 then J6 (decide (a<b))else if op=13 then J6 (decide (a<=b))
 else if op=14 then J6 (decide (¬ a=0)&&decide (¬ b=0))else if op=15 then J6 (decide (¬ a=0)||decide (¬ b=0))else 0
def gQ(op b:Int):Int:=if op<5\/15<op then 1 else if (op=8\/op=9)/\b=0 then 12 else 0
def gM(op a b:Int):Int:=if gQ op b=0 then lZ op a b else 0
theorem CG:Fp (-9223372036854775808) (-1) = -9223372036854775808:=ee
theorem aed{a b:Int}(V : -9223372036854775808<=a/\a<=9223372036854775807)(hb : -9223372036854775808<=b/\b<=9223372036854775807)(O:b≠0):Co (a-Co (b*Fp a b))=a.tmod b:=by
 have h1:=Int.mul_tdiv_add_tmod a b
 by_cases hc:a = -9223372036854775808/\b = -1
 .obtain⟨rfl,rfl⟩:=hc
  decide
 have J : -9223372036854775808<=a.tdiv b/\a.tdiv b<=9223372036854775807:=by
  have h2:(a.tdiv b).natAbs<=a.natAbs:=by rw[aaW];exact Nat.div_le_self _ _
  by_cases B:a = -9223372036854775808
  .subst B
   have M:b≠-1:=λh=>hc ⟨rfl,h⟩
   by_cases I:b=1
   .grind
   .have h3:(Int.tdiv (-9223372036854775808) b).natAbs<=9223372036854775808 / 2:=by
     rw[aaW]
     exact Nat.div_le_div_left cO cO
    omega
  .omega
 have U:(a.tmod b).natAbs<b.natAbs:=by rw[VA];exact aa3 _ cO
 unfold Fp
 rw[Ac J]
 have B:b*a.tdiv b=a-a.tmod b:=cO
 have W:(a.tmod b).natAbs<=a.natAbs:=by rw[VA];exact ace _ _
 have E:(0<=a->0<=a.tmod b):=λh=>QV b h
 have G:(a<=0->a.tmod b<=0):=λh=>by
  have:=QV (a:=-a) b cO
  rw[abv]at this;omega
 have u:(-9223372036854775808<=a-a.tmod b/\a-a.tmod b<=9223372036854775807)/\-9223372036854775808<=a.tmod b/\a.tmod b<=9223372036854775807:=by
  rcases abw 0 a with h|h
  .have:=E h;omega
  .have:=G h;omega
 rw[B,Ac u.1,show a-(a-a.tmod b)=a.tmod b from cO,Ac u.2]
def C305(p:Bool)(w:World):CR 305 [.bool p] w (λv w'=>v=hZ (J6 p)/\Ext w w'):=by
 have B:=St.start w;refine fj Tryz.func305 ?_;refine bD (λu=>?_) (λu=>?_)
 .rw[u];exact⟨rfl,B.aG⟩
 rw[u];exact⟨rfl,B.aG⟩
def C302(p:Bool)(w:World):CR 302 [.bool p] w (λv w'=>v=hZ (J6 p)/\Ext w w'):=by
 have B:=St.start w;refine fj Tryz.func302 ?_;refine bD (λu=>?_) (λu=>?_)
 .rw[u];exact⟨rfl,B.aG⟩
 rw[u];exact⟨rfl,B.aG⟩
def C303(a:Int)(w:World):CR 303 [hZ a] w (λv w'=>v=.bool (decide (¬ a=0))/\Ext w w'):=by
 have u:=St.start w;refine fj Tryz.func303 ?_;exact bQ ⟨rfl,u.aG⟩
def C306(a b:Int)(w:World)(h:b≠0):CR 306 [hZ a,hZ b] w (λv w'=>v=hZ (Fp a b)/\Ext w w'):=by
 have u:=St.start w;refine fj Tryz.func306 ?_;refine⟨_,?_,λ_ _ h=>h⟩;refine aH (aC (λB=>?_) λB=>?_)
 .refine aH ?_;intro G;refine aC (λE=>?_) (λE=>?_)
  .first|exact⟨rfl,u.aG⟩|(exfalso;simp_all;done)|(rw[B,E,CG];exact⟨rfl,u.aG⟩)
  refine Fi h ?_
  first|exact⟨rfl,u.aG⟩|(exfalso;simp_all;done)|(rw[B,E,CG];exact⟨rfl,u.aG⟩)
 intro G;refine fx (Fi h ?_)
 first|exact⟨rfl,u.aG⟩|(exfalso;simp_all;done)|(rw[B,E,CG];exact⟨rfl,u.aG⟩)
def C274(op a:Int)(w:World):CR 274 [hZ op,hZ a] w (λv w'=>v=.tuple #[hZ (zn op a),hZ (Hz op)]/\Ext w w'):=by
 have B:=St.start w;refine fj Tryz.func274 ?_;refine aH (aC (λu=>?_) λu=>aH (aC (λE=>?_) λE=>?_))
 .refine Bi ?_;unfold zn Hz
  first|(rw[ew u,ew (.inl u)];exact⟨rfl,B.aG⟩)|(rw[ej u,ew E,ew (.inr E)];exact⟨rfl,B.aG⟩)|(rw[ej u,ej E,ej cO];exact⟨rfl,B.aG⟩)
 .refine aH (aW AZ B (C305 _ _) λ_ G B=>?_);unfold zn Hz
  first|(rw[ew u,ew (.inl u)];exact⟨rfl,B.aG⟩)|(rw[ej u,ew E,ew (.inr E)];exact⟨rfl,B.aG⟩)|(rw[ej u,ej E,ej cO];exact⟨rfl,B.aG⟩)
 unfold zn Hz
 first|(rw[ew u,ew (.inl u)];exact⟨rfl,B.aG⟩)|(rw[ej u,ew E,ew (.inr E)];exact⟨rfl,B.aG⟩)|(rw[ej u,ej E,ej cO];exact⟨rfl,B.aG⟩)
def C269(op a:Int)(w:World):CR 269 [hZ op,hZ a] w (λv w'=>v=.tuple #[hZ (zn op a),hZ (Hz op)]/\Ext w w'):=by
 have B:=St.start w;refine fj Tryz.func269 ?_;refine aH (aC (λu=>?_) λu=>aH (aC (λE=>?_) λE=>?_))
 .refine Yn ?_;unfold zn Hz
  first|(rw[ew u,ew (.inl u)];exact⟨rfl,B.aG⟩)|(rw[ej u,ew E,ew (.inr E)];exact⟨g6 (λp=>EI #[hZ (J6 p),hZ 0]) ei,B.aG⟩)|(rw[ej u,ej E,ej cO];exact⟨rfl,B.aG⟩)
 .refine aW L6 B (C303 _ _) (λ_ G B=>?_)
  first|refine L9 ?_|refine bT ?_
  refine aW XR B (C302 _ _) (λ_ G B=>?_);unfold zn Hz
  first|(rw[ew u,ew (.inl u)];exact⟨rfl,B.aG⟩)|(rw[ej u,ew E,ew (.inr E)];exact⟨g6 (λp=>EI #[hZ (J6 p),hZ 0]) ei,B.aG⟩)|(rw[ej u,ej E,ej cO];exact⟨rfl,B.aG⟩)
 unfold zn Hz
 first|(rw[ew u,ew (.inl u)];exact⟨rfl,B.aG⟩)|(rw[ej u,ew E,ew (.inr E)];exact⟨g6 (λp=>EI #[hZ (J6 p),hZ 0]) ei,B.aG⟩)|(rw[ej u,ej E,ej cO];exact⟨rfl,B.aG⟩)
def C275(op a b:Int)(w:World)(ha:fe a)(hb:fe b):CR 275 [hZ op,hZ a,hZ b] w (λv w'=>v=.tuple #[hZ (gM op a b),hZ (gQ op b)]/\Ext w w'):=by
 have u:=St.start w;refine adP _ _ _ _ _ ?_;unfold S275;refine aH (aC (λZ=>?_) λZ=>?_)
 .refine ve ?_
  first|(unfold gM gQ;rw[ew (show op<5\/15<op by omega)];exact⟨rfl,u.aG⟩)|(subst_vars;first|exact⟨rfl,u.aG⟩|(unfold gM gQ lZ;simp_all<;>exact u.aG))
 refine aH (aC (λjx=>?_) λjx=>aH (aC (λnz=>?_) λnz=>aH (aC (λjK=>aH (aC (λO=>?_) λO=>?_)) λjK=>aH (aC (λku=>aH (aC (λG=>?_) λG=>?_)) λku=>aH (aC (λV=>?_) λV=>?_)))))
 .refine Bi ?_
  first|(unfold gM gQ;rw[ew (show op<5\/15<op by omega)];exact⟨rfl,u.aG⟩)|(subst_vars;first|exact⟨rfl,u.aG⟩|(unfold gM gQ lZ;simp_all<;>exact u.aG))
 .refine xE ?_
  first|(unfold gM gQ;rw[ew (show op<5\/15<op by omega)];exact⟨rfl,u.aG⟩)|(subst_vars;first|exact⟨rfl,u.aG⟩|(unfold gM gQ lZ;simp_all<;>exact u.aG))
 .first|(unfold gM gQ;rw[ew (show op<5\/15<op by omega)];exact⟨rfl,u.aG⟩)|(subst_vars;first|exact⟨rfl,u.aG⟩|(unfold gM gQ lZ;simp_all<;>exact u.aG))
 .refine aW aht u (C306 _ _ _ O) (λ_ B u=>?_)
  first|(unfold gM gQ;rw[ew (show op<5\/15<op by omega)];exact⟨rfl,u.aG⟩)|(subst_vars;first|exact⟨rfl,u.aG⟩|(unfold gM gQ lZ;simp_all<;>exact u.aG))
 .first|(unfold gM gQ;rw[ew (show op<5\/15<op by omega)];exact⟨rfl,u.aG⟩)|(subst_vars;first|exact⟨rfl,u.aG⟩|(unfold gM gQ lZ;simp_all<;>exact u.aG))
 .refine aW aht u (C306 _ _ _ G) (λ_ B u=>xE (Bi ?_));rw[aed ha hb G]
  first|(unfold gM gQ;rw[ew (show op<5\/15<op by omega)];exact⟨rfl,u.aG⟩)|(subst_vars;first|exact⟨rfl,u.aG⟩|(unfold gM gQ lZ;simp_all<;>exact u.aG))
 .refine aH (aW AZ u (C305 _ _) λ_ B u=>?_)
  first|(unfold gM gQ;rw[ew (show op<5\/15<op by omega)];exact⟨rfl,u.aG⟩)|(subst_vars;first|exact⟨rfl,u.aG⟩|(unfold gM gQ lZ;simp_all<;>exact u.aG))
 refine aH (aC (λU=>?_) λU=>aH (aC (λW=>?_) λW=>aH (aC (λI=>?_) λI=>aH (aC (λxG=>⟨_,bQ (aC (λE=>?_) λE=>?_),λ_ _ _ h=>h⟩) λxG=>aH (aC (λM=>⟨_,bQ (aC (λJ=>?_) λJ=>?_),λ_ _ _ h=>h⟩) λM=>?_)))))
 .refine bQ (aW AZ u (C305 _ _) λ_ B u=>?_)
  first|(unfold gM gQ;rw[ew (show op<5\/15<op by omega)];exact⟨rfl,u.aG⟩)|(subst_vars;first|exact⟨rfl,u.aG⟩|(unfold gM gQ lZ;simp_all<;>exact u.aG))
 .refine aR (aW AZ u (C305 _ _) λ_ B u=>?_)
  first|(unfold gM gQ;rw[ew (show op<5\/15<op by omega)];exact⟨rfl,u.aG⟩)|(subst_vars;first|exact⟨rfl,u.aG⟩|(unfold gM gQ lZ;simp_all<;>exact u.aG))
 .refine gz (aW AZ u (C305 _ _) λ_ B u=>?_)
  first|(unfold gM gQ;rw[ew (show op<5\/15<op by omega)];exact⟨rfl,u.aG⟩)|(subst_vars;first|exact⟨rfl,u.aG⟩|(unfold gM gQ lZ;simp_all<;>exact u.aG))
 .refine bQ (aW AZ u (C305 _ _) λ_ B u=>?_);intro Y
  first|(unfold gM gQ;rw[ew (show op<5\/15<op by omega)];exact⟨rfl,u.aG⟩)|(subst_vars;first|exact⟨rfl,u.aG⟩|(unfold gM gQ lZ;simp_all<;>exact u.aG))
 .refine aW AZ u (C305 _ _) (λ_ B u=>?_);intro Y
  first|(unfold gM gQ;rw[ew (show op<5\/15<op by omega)];exact⟨rfl,u.aG⟩)|(subst_vars;first|exact⟨rfl,u.aG⟩|(unfold gM gQ lZ;simp_all<;>exact u.aG))
 .refine aW AZ u (C305 _ _) (λ_ B u=>?_);intro vH
  first|(unfold gM gQ;rw[ew (show op<5\/15<op by omega)];exact⟨rfl,u.aG⟩)|(subst_vars;first|exact⟨rfl,u.aG⟩|(unfold gM gQ lZ;simp_all<;>exact u.aG))
 .refine bQ (aW AZ u (C305 _ _) λ_ B u=>?_);intro vH
  first|(unfold gM gQ;rw[ew (show op<5\/15<op by omega)];exact⟨rfl,u.aG⟩)|(subst_vars;first|exact⟨rfl,u.aG⟩|(unfold gM gQ lZ;simp_all<;>exact u.aG))
 first|(unfold gM gQ;rw[ew (show op<5\/15<op by omega)];exact⟨rfl,u.aG⟩)|(subst_vars;first|exact⟨rfl,u.aG⟩|(unfold gM gQ lZ;simp_all<;>exact u.aG))
def sS:apL hH 348 16 288:=⟨by kernel_rfl,by kernel_rfl⟩
def apP(b1 b2 b3 b4 u b6:Nat)(w:World):Prop:=
 Cell w b1 0 (.func (.func 329) #[] #[])/\Cell w b2 0 (.func (.func 330) #[] #[])/\Cell w b3 0 (.func (.func 331) #[] #[])/\Cell w b4 0 (.func (.func 332) #[] #[])/\Cell w u 0 (.func (.func 333) #[] #[])/\Cell w b6 0 (.func (.func 334) #[] #[])
def opsV(b1 b2 b3 b4 u b6:Nat):Value:=
 .agg [.nilFunc,.nilFunc,.nilFunc,.nilFunc,.nilFunc,.func (.func 324) #[] #[],.func (.func 325) #[] #[],.func (.func 326) #[] #[],.func (.func 327) #[] #[],.func (.func 328) #[] #[],
  .func (.func 323) #[] #[.pointer (some ⟨b1,0,none⟩)],.func (.func 323) #[] #[.pointer (some ⟨b2,0,none⟩)],.func (.func 323) #[] #[.pointer (some ⟨b3,0,none⟩)],.func (.func 323) #[] #[.pointer (some ⟨b4,0,none⟩)],
  .func (.func 323) #[] #[.pointer (some ⟨u,0,none⟩)],.func (.func 323) #[] #[.pointer (some ⟨b6,0,none⟩)]].toArray
def Fb2(f:Value)(g:Int->Int->Bool):Prop:=∃u,f=.func (.func u) #[] #[]/\Plain hH u/\
 ∀a b B,Calls hH u [hZ a,hZ b].toArray B (tQ λv E=>v=.bool (g a b)/\Ext B E)
def C324(a b:Int)(w:World):CR 324 [hZ a,hZ b] w (λv w'=>v=hZ (Co (a+b))/\Ext w w'):=by
 have u:=St.start w;refine fj Tryz.func324 ?_;exact ve ⟨rfl,u.aG⟩
def C325(a b:Int)(w:World):CR 325 [hZ a,hZ b] w (λv w'=>v=hZ (Co (a-b))/\Ext w w'):=by
 have u:=St.start w;refine fj Tryz.func325 ?_;exact Bi ⟨rfl,u.aG⟩
def C326(a b:Int)(w:World):CR 326 [hZ a,hZ b] w (λv w'=>v=hZ (Co (a*b))/\Ext w w'):=by
 have u:=St.start w;refine fj Tryz.func326 ?_;exact xE ⟨rfl,u.aG⟩
def C327(a b:Int)(w:World)(h:b≠0):CR 327 [hZ a,hZ b] w (λv w'=>v=hZ (Fp a b)/\Ext w w'):=by
 have u:=St.start w;refine fj Tryz.func327 ?_;exact Fi h ⟨rfl,u.aG⟩
def C328(a b:Int)(w:World)(h:b≠0):CR 328 [hZ a,hZ b] w (λv w'=>v=hZ (a.tmod b)/\Ext w w'):=by
 have u:=St.start w;refine fj Tryz.func328 ?_;exact Yo h ⟨rfl,u.aG⟩
def C329(a b:Int)(w:World):CR 329 [hZ a,hZ b] w (λv w'=>v=.bool (decide (a=b))/\Ext w w'):=by
 have u:=St.start w;refine fj Tryz.func329 ?_;exact aH ⟨rfl,u.aG⟩
def C330(a b:Int)(w:World):CR 330 [hZ a,hZ b] w (λv w'=>v=.bool (decide (¬ a=b))/\Ext w w'):=by
 have u:=St.start w;refine fj Tryz.func330 ?_;exact bQ ⟨rfl,u.aG⟩
def C331(a b:Int)(w:World):CR 331 [hZ a,hZ b] w (λv w'=>v=.bool (decide (a<b))/\Ext w w'):=by
 have u:=St.start w;refine fj Tryz.func331 ?_;exact aR ⟨rfl,u.aG⟩
def C332(a b:Int)(w:World):CR 332 [hZ a,hZ b] w (λv w'=>v=.bool (decide (a<=b))/\Ext w w'):=by
 have u:=St.start w;refine fj Tryz.func332 ?_;exact gz ⟨rfl,u.aG⟩
def C333(a b:Int)(w:World):CR 333 [hZ a,hZ b] w (λv w'=>v=.bool (decide (¬ a=0)&&decide (¬ b=0))/\Ext w w'):=by
 have u:=St.start w;refine fj Tryz.func333 ?_;refine⟨_,?_,λ_ _ h=>h⟩;refine aW L6 u (C303 _ _) (λ_ E u=>aC (λB=>?_) λB=>?_)
 .refine aW L6 u (C303 _ _) (λ_ E u=>?_);intro G
  first|(rw[ez B];exact⟨rfl,u.aG⟩)|(rw[fV B];exact⟨rfl,u.aG⟩)
 intro G
 first|(rw[ez B];exact⟨rfl,u.aG⟩)|(rw[fV B];exact⟨rfl,u.aG⟩)
def C334(a b:Int)(w:World):CR 334 [hZ a,hZ b] w (λv w'=>v=.bool (decide (¬ a=0)||decide (¬ b=0))/\Ext w w'):=by
 have u:=St.start w;refine fj Tryz.func334 ?_;refine⟨_,?_,λ_ _ h=>h⟩;refine aW L6 u (C303 _ _) (λ_ E u=>aC (λB=>?_) λB=>?_)
 .intro G
  first|(rw[ez B];exact⟨rfl,u.aG⟩)|(rw[fV B];exact⟨rfl,u.aG⟩)
 refine aW L6 u (C303 _ _) (λ_ E u=>?_);intro G
 first|(rw[ez B];exact⟨rfl,u.aG⟩)|(rw[fV B];exact⟨rfl,u.aG⟩)
def C322(g:Nat)(w:World):CR 322 [.func (.func g) #[] #[]] w (λv w'=>∃b,v=.func (.func 323) #[] #[.pointer (some ⟨b,0,none⟩)]/\kq (bW b [.func (.func g) #[] #[]]) w w'):=by
 have B:=St.start w;refine fj Tryz.func322 ?_;exact nQ B rfl (λu _ B=>⟨u,rfl,B.fresh⟩)
def C323(a b:Int)(b2:Nat)(fv:Value)(g:Int->Int->Bool)(w:World)(hc:Cell w b2 0 fv)(I:Fb2 fv g):CR 323 [hZ a,hZ b,.pointer (some ⟨b2,0,none⟩)] w (λv w'=>v=hZ (J6 (g a b))/\Ext w w'):=by
 obtain⟨J,rfl,B,E⟩:=I;have u:=St.start w;refine fj Tryz.func323 ?_;refine bN apI (hc.ext u.aG) (ij (first:=[]) (cap:=[]) B (E a b _) ?_);rintro _ _ ⟨rfl,G⟩;have u:=u.ext G;exact aW XR u (C302 _ _) (λ_ _ u=>⟨rfl,u.aG⟩)
def C304(w:World):CR 304 [] w (λv w'=>∃b1 b2 b3 b4 V b6,v=opsV b1 b2 b3 b4 V b6/\kq (dZ (apP b1 b2 b3 b4 V b6)) w w'):=by
 have u:=St.start w;refine adS _ _ ?_;unfold S304;refine aN u S1 (λO _ u=>aN u S1 λU _ u=>pE sS cO cO (aT u xC (dQ rfl) (rfl) λ_ u=>pE sS cO cO (aT u xC (dQ rfl) (rfl) λ_ u=>pE sS cO cO (aT u xC (dQ rfl) (rfl) λ_ u=>pE sS cO cO (aT u xC (dQ rfl) (rfl) λ_ u=>pE sS cO cO (aT u xC (dQ rfl) (rfl) λ_ u=>ij (first:=[]) (cap:=[]) H6 (C322 329 _) ?_))))));rintro _ _ ⟨J,rfl,B⟩;have u:=u.made B;refine pE sS cO cO (aT u.p1 xC (dQ rfl) (rfl) λ_ u=>ij (first:=[]) (cap:=[]) H6 (C322 330 _) ?_)
 rintro _ _ ⟨W,rfl,B⟩;have u:=u.made B;refine pE sS cO cO (aT u.p1 xC (dQ rfl) (rfl) λ_ u=>ij (first:=[]) (cap:=[]) H6 (C322 331 _) ?_);rintro _ _ ⟨I,rfl,B⟩;have u:=u.made B;refine pE sS cO cO (aT u.p1 xC (dQ rfl) (rfl) λ_ u=>ij (first:=[]) (cap:=[]) H6 (C322 332 _) ?_);rintro _ _ ⟨E,rfl,B⟩;have u:=u.made B;refine pE sS cO cO (aT u.p1 xC (dQ rfl) (rfl) λ_ u=>ij (first:=[]) (cap:=[]) H6 (C322 333 _) ?_);rintro _ _ ⟨G,rfl,B⟩;have u:=u.made B;refine pE sS cO cO (aT u.p1 xC (dQ rfl) (rfl) λ_ u=>ij (first:=[]) (cap:=[]) H6 (C322 334 _) ?_)
 rintro _ _ ⟨M,rfl,B⟩;have u:=u.made B;refine pE sS cO cO (aT u.p1 xC (dQ rfl) (rfl) λ_ u=>Ma Ya u.hb rfl (E5 u.p7 Ya rfl ee (by simp[xo,jo]) λ_ u=>Ma Ya u.hb rfl ?_));have u:=u.drop.drop.p1.p2.p3.p4.p5.so.p1.so.p2.so.p3;have u:=u.so.p4.so.p5.so.gv.gv.gv.gv.gv;refine⟨J,W,I,E,G,M,rfl,(u.dF (Ψ:=apP J W I E G M) λw h=>?_).fresh⟩;obtain⟨⟨⟨⟨⟨h6,h5⟩,h4⟩,h3⟩,h2⟩,h1⟩:=h;exact⟨h1.cell rfl,h2.cell rfl,h3.cell rfl,h4.cell rfl,h5.cell rfl,h6.cell rfl⟩
def fb1:Fb2 (.func (.func 329) #[] #[]) (λa b=>decide (a=b)):=⟨329,rfl,apw,λa b u=>C329 a b u⟩
def fb2:Fb2 (.func (.func 330) #[] #[]) (λa b=>decide (¬ a=b)):=⟨330,rfl,apx,λa b u=>C330 a b u⟩
def fb3:Fb2 (.func (.func 331) #[] #[]) (λa b=>decide (a<b)):=⟨331,rfl,apy,λa b u=>C331 a b u⟩
def fb4:Fb2 (.func (.func 332) #[] #[]) (λa b=>decide (a<=b)):=⟨332,rfl,apz,λa b u=>C332 a b u⟩
def fb5:Fb2 (.func (.func 333) #[] #[]) (λa b=>decide (¬ a=0)&&decide (¬ b=0)):=⟨333,rfl,apA,λa b u=>C333 a b u⟩
def fb6:Fb2 (.func (.func 334) #[] #[]) (λa b=>decide (¬ a=0)||decide (¬ b=0)):=⟨334,rfl,apB,λa b u=>C334 a b u⟩
def C271(op a b:Int)(w:World):CR 271 [hZ op,hZ a,hZ b] w (λv w'=>v=.tuple #[hZ (gM op a b),hZ (gQ op b)]/\Ext w w'):=by
 have u:=St.start w;refine adO _ _ _ _ _ ?_;unfold S271;refine⟨_,?_,λ_ _ h=>h⟩;refine aR (aC (λgW=>?_) λgW=>?_)
 .intro rY;refine hG ?_
  first|exact⟨rfl,u.aG⟩|(subst_vars;exact⟨rfl,u.aG⟩)|(refine⟨?_,u.aG⟩;unfold gM gQ lZ;first|(rw[ew (show op<5\/15<op by omega)];rfl)|simp[*])
 refine cT ?_;intro rY;refine aC (λZ=>?_) (λZ=>?_)
 .first|exact⟨rfl,u.aG⟩|(subst_vars;exact⟨rfl,u.aG⟩)|(refine⟨?_,u.aG⟩;unfold gM gQ lZ;first|(rw[ew (show op<5\/15<op by omega)];rfl)|simp[*])
 refine dO apl (C304 _) ?_;rintro _ _ ⟨b1,b2,b3,b4,Y,b6,rfl,cI⟩;have u:=u.made cI;obtain rfl|rfl|rfl|rfl|rfl|rfl|rfl|rfl|rfl|rfl|rfl|rfl|rfl|rfl|rfl|rfl:op=0\/op=1\/op=2\/op=3\/op=4\/op=5\/op=6\/op=7\/op=8\/op=9\/op=10\/op=11\/op=12\/op=13\/op=14\/op=15:=cO
 .refine pop (v:=.nilFunc) (by kernel_rfl) (pop (v:=.bool true) (by kernel_rfl) (hG ?_))
  first|exact⟨rfl,u.aG⟩|(subst_vars;exact⟨rfl,u.aG⟩)|(refine⟨?_,u.aG⟩;unfold gM gQ lZ;first|(rw[ew (show op<5\/15<op by omega)];rfl)|simp[*])
 .refine pop (v:=.nilFunc) (by kernel_rfl) (pop (v:=.bool true) (by kernel_rfl) (hG ?_))
  first|exact⟨rfl,u.aG⟩|(subst_vars;exact⟨rfl,u.aG⟩)|(refine⟨?_,u.aG⟩;unfold gM gQ lZ;first|(rw[ew (show op<5\/15<op by omega)];rfl)|simp[*])
 .refine pop (v:=.nilFunc) (by kernel_rfl) (pop (v:=.bool true) (by kernel_rfl) (hG ?_))
  first|exact⟨rfl,u.aG⟩|(subst_vars;exact⟨rfl,u.aG⟩)|(refine⟨?_,u.aG⟩;unfold gM gQ lZ;first|(rw[ew (show op<5\/15<op by omega)];rfl)|simp[*])
 .refine pop (v:=.nilFunc) (by kernel_rfl) (pop (v:=.bool true) (by kernel_rfl) (hG ?_))
  first|exact⟨rfl,u.aG⟩|(subst_vars;exact⟨rfl,u.aG⟩)|(refine⟨?_,u.aG⟩;unfold gM gQ lZ;first|(rw[ew (show op<5\/15<op by omega)];rfl)|simp[*])
 .refine pop (v:=.nilFunc) (by kernel_rfl) (pop (v:=.bool true) (by kernel_rfl) (hG ?_))
  first|exact⟨rfl,u.aG⟩|(subst_vars;exact⟨rfl,u.aG⟩)|(refine⟨?_,u.aG⟩;unfold gM gQ lZ;first|(rw[ew (show op<5\/15<op by omega)];rfl)|simp[*])
 .refine pop (v:=.func (.func 324) #[] #[]) (by kernel_rfl) (pop (v:=.bool false) (by kernel_rfl) (fx ?_));refine⟨_,?_,λ_ _ h=>h⟩;refine aH (fI ee (aH (fI ee ?_)));intro E;refine fx (ij (first:=[]) (cap:=[]) apr (C324 a b _) ?_);rintro _ G ⟨rfl,B⟩;have u:=u.ext B
  first|exact⟨rfl,u.aG⟩|(subst_vars;exact⟨rfl,u.aG⟩)|(refine⟨?_,u.aG⟩;unfold gM gQ lZ;first|(rw[ew (show op<5\/15<op by omega)];rfl)|simp[*])
 .refine pop (v:=.func (.func 325) #[] #[]) (by kernel_rfl) (pop (v:=.bool false) (by kernel_rfl) (fx ?_));refine⟨_,?_,λ_ _ h=>h⟩;refine aH (fI ee (aH (fI ee ?_)));intro E;refine fx (ij (first:=[]) (cap:=[]) aps (C325 a b _) ?_);rintro _ G ⟨rfl,B⟩;have u:=u.ext B
  first|exact⟨rfl,u.aG⟩|(subst_vars;exact⟨rfl,u.aG⟩)|(refine⟨?_,u.aG⟩;unfold gM gQ lZ;first|(rw[ew (show op<5\/15<op by omega)];rfl)|simp[*])
 .refine pop (v:=.func (.func 326) #[] #[]) (by kernel_rfl) (pop (v:=.bool false) (by kernel_rfl) (fx ?_));refine⟨_,?_,λ_ _ h=>h⟩;refine aH (fI ee (aH (fI ee ?_)));intro E;refine fx (ij (first:=[]) (cap:=[]) apt (C326 a b _) ?_);rintro _ G ⟨rfl,B⟩;have u:=u.ext B
  first|exact⟨rfl,u.aG⟩|(subst_vars;exact⟨rfl,u.aG⟩)|(refine⟨?_,u.aG⟩;unfold gM gQ lZ;first|(rw[ew (show op<5\/15<op by omega)];rfl)|simp[*])
 .refine pop (v:=.func (.func 327) #[] #[]) (by kernel_rfl) (pop (v:=.bool false) (by kernel_rfl) (fx ?_));refine⟨_,?_,λ_ _ h=>h⟩;refine aH (kr ee (aH ?_));intro E;refine aC (λW=>?_) (λW=>?_)
  .first|exact⟨rfl,u.aG⟩|(subst_vars;exact⟨rfl,u.aG⟩)|(refine⟨?_,u.aG⟩;unfold gM gQ lZ;first|(rw[ew (show op<5\/15<op by omega)];rfl)|simp[*])
  refine ij (first:=[]) (cap:=[]) apu (C327 a b _ W) ?_;rintro _ G ⟨rfl,B⟩;have u:=u.ext B
  first|exact⟨rfl,u.aG⟩|(subst_vars;exact⟨rfl,u.aG⟩)|(refine⟨?_,u.aG⟩;unfold gM gQ lZ;first|(rw[ew (show op<5\/15<op by omega)];rfl)|simp[*])
 .refine pop (v:=.func (.func 328) #[] #[]) (by kernel_rfl) (pop (v:=.bool false) (by kernel_rfl) (fx ?_));refine⟨_,?_,λ_ _ h=>h⟩;refine aH (fI ee (aH (kr ee (aH ?_))));intro E;refine aC (λW=>?_) (λW=>?_)
  .first|exact⟨rfl,u.aG⟩|(subst_vars;exact⟨rfl,u.aG⟩)|(refine⟨?_,u.aG⟩;unfold gM gQ lZ;first|(rw[ew (show op<5\/15<op by omega)];rfl)|simp[*])
  refine ij (first:=[]) (cap:=[]) apv (C328 a b _ W) ?_;rintro _ G ⟨rfl,B⟩;have u:=u.ext B
  first|exact⟨rfl,u.aG⟩|(subst_vars;exact⟨rfl,u.aG⟩)|(refine⟨?_,u.aG⟩;unfold gM gQ lZ;first|(rw[ew (show op<5\/15<op by omega)];rfl)|simp[*])
 .refine pop (v:=.func (.func 323) #[] #[.pointer (some ⟨b1,0,none⟩)]) (by kernel_rfl) (pop (v:=.bool false) (by kernel_rfl) (fx ?_));refine⟨_,?_,λ_ _ h=>h⟩;refine aH (fI ee (aH (fI ee ?_)));intro E;refine fx ?_;obtain⟨V,O,U,M,I,J⟩:=u.dZ;refine ij (first:=[]) (cap:=[.pointer (some ⟨b1,0,none⟩)]) H7 (C323 a b b1 _ _ _ V fb1) ?_;rintro _ G ⟨rfl,B⟩;have u:=u.ext B
  first|exact⟨rfl,u.aG⟩|(subst_vars;exact⟨rfl,u.aG⟩)|(refine⟨?_,u.aG⟩;unfold gM gQ lZ;first|(rw[ew (show op<5\/15<op by omega)];rfl)|simp[*])
 .refine pop (v:=.func (.func 323) #[] #[.pointer (some ⟨b2,0,none⟩)]) (by kernel_rfl) (pop (v:=.bool false) (by kernel_rfl) (fx ?_));refine⟨_,?_,λ_ _ h=>h⟩;refine aH (fI ee (aH (fI ee ?_)));intro E;refine fx ?_;obtain⟨V,O,U,M,I,J⟩:=u.dZ;refine ij (first:=[]) (cap:=[.pointer (some ⟨b2,0,none⟩)]) H7 (C323 a b b2 _ _ _ O fb2) ?_;rintro _ G ⟨rfl,B⟩;have u:=u.ext B
  first|exact⟨rfl,u.aG⟩|(subst_vars;exact⟨rfl,u.aG⟩)|(refine⟨?_,u.aG⟩;unfold gM gQ lZ;first|(rw[ew (show op<5\/15<op by omega)];rfl)|simp[*])
 .refine pop (v:=.func (.func 323) #[] #[.pointer (some ⟨b3,0,none⟩)]) (by kernel_rfl) (pop (v:=.bool false) (by kernel_rfl) (fx ?_));refine⟨_,?_,λ_ _ h=>h⟩;refine aH (fI ee (aH (fI ee ?_)));intro E;refine fx ?_;obtain⟨V,O,U,M,I,J⟩:=u.dZ;refine ij (first:=[]) (cap:=[.pointer (some ⟨b3,0,none⟩)]) H7 (C323 a b b3 _ _ _ U fb3) ?_;rintro _ G ⟨rfl,B⟩;have u:=u.ext B
  first|exact⟨rfl,u.aG⟩|(subst_vars;exact⟨rfl,u.aG⟩)|(refine⟨?_,u.aG⟩;unfold gM gQ lZ;first|(rw[ew (show op<5\/15<op by omega)];rfl)|simp[*])
 .refine pop (v:=.func (.func 323) #[] #[.pointer (some ⟨b4,0,none⟩)]) (by kernel_rfl) (pop (v:=.bool false) (by kernel_rfl) (fx ?_));refine⟨_,?_,λ_ _ h=>h⟩;refine aH (fI ee (aH (fI ee ?_)));intro E;refine fx ?_;obtain⟨V,O,U,M,I,J⟩:=u.dZ;refine ij (first:=[]) (cap:=[.pointer (some ⟨b4,0,none⟩)]) H7 (C323 a b b4 _ _ _ M fb4) ?_;rintro _ G ⟨rfl,B⟩;have u:=u.ext B
  first|exact⟨rfl,u.aG⟩|(subst_vars;exact⟨rfl,u.aG⟩)|(refine⟨?_,u.aG⟩;unfold gM gQ lZ;first|(rw[ew (show op<5\/15<op by omega)];rfl)|simp[*])
 .refine pop (v:=.func (.func 323) #[] #[.pointer (some ⟨Y,0,none⟩)]) (by kernel_rfl) (pop (v:=.bool false) (by kernel_rfl) (fx ?_));refine⟨_,?_,λ_ _ h=>h⟩;refine aH (fI ee (aH (fI ee ?_)));intro E;refine fx ?_;obtain⟨V,O,U,M,I,J⟩:=u.dZ;refine ij (first:=[]) (cap:=[.pointer (some ⟨Y,0,none⟩)]) H7 (C323 a b Y _ _ _ I fb5) ?_;rintro _ G ⟨rfl,B⟩;have u:=u.ext B
  first|exact⟨rfl,u.aG⟩|(subst_vars;exact⟨rfl,u.aG⟩)|(refine⟨?_,u.aG⟩;unfold gM gQ lZ;first|(rw[ew (show op<5\/15<op by omega)];rfl)|simp[*])
 refine pop (v:=.func (.func 323) #[] #[.pointer (some ⟨b6,0,none⟩)]) (by kernel_rfl) (pop (v:=.bool false) (by kernel_rfl) (fx ?_));refine⟨_,?_,λ_ _ h=>h⟩;refine aH (fI ee (aH (fI ee ?_)));intro E;refine fx ?_;obtain⟨V,O,U,M,I,J⟩:=u.dZ;refine ij (first:=[]) (cap:=[.pointer (some ⟨b6,0,none⟩)]) H7 (C323 a b b6 _ _ _ J fb6) ?_;rintro _ G ⟨rfl,B⟩;have u:=u.ext B
 first|exact⟨rfl,u.aG⟩|(subst_vars;exact⟨rfl,u.aG⟩)|(refine⟨?_,u.aG⟩;unfold gM gQ lZ;first|(rw[ew (show op<5\/15<op by omega)];rfl)|simp[*])
theorem gX{α:Type}{l:List α}{k:Nat}{e:α}(h:l[k]?=some e):l.take k++[e]=l.take (k+1):=by rw[uH,h];rfl
def eh{α:Type}{φ:α->Prop}{l:List α}{k:Nat}{e:α}(h:∀y∈l.take k,φ y)(B:l[k]?=some e)(E:φ e):∀y∈l.take (k+1),φ y:=by
 intro y u
 rw[<- gX B]at u
 grind
theorem iw{α:Type}{g:α->Bool}{l:List α}{k:Nat}{e:α}(B:l[k]?=some e)(u:g e=true):l.any g=true:=List.any_eq_true.2 ⟨e,kE B,u⟩
theorem iL{α:Type}{g:α->Bool}{l:List α}(h:∀y∈l,g y=false):l.any g=false:=by
 grind
def sT{α:Type}(g:α->Bool)(l:List α):Int:=match l.findIdx? g with|some k=>k|none=>-1
def my{α:Type}{g:α->Bool}{l:List α}{k:Nat}{e:α}(u:∀y∈l.take k,g y=false)(E:l[k]?=some e)(I:g e=true):sT g l=k:=by
 have:l.findIdx? g=some k:=by
  rw[List.findIdx?_eq_some_iff_getElem]
  have B:=(kB.1 E).1
  refine⟨B,dI,λj G=>?_⟩
  have:=u (l[j]'(cO)) (List.mem_take_iff_getElem.2 ⟨j,cO,rfl⟩)
  simp[this]
 unfold sT;rw[this]
def jm{α:Type}{g:α->Bool}{l:List α}(u:∀y∈l,g y=false):sT g l = -1:=by
 grind[sT]
def lh{α:Type}(g:α->Bool)(l:List α):decide (0<=sT g l)=l.any g:=by
 grind[sT]
def wY{α:Type}[Flat α](w:World)(f:Value)(g:α->Bool):Prop:=∃u first cap,f=.func (.func u) (P3 first) (P3 cap)/\Plain hH u/\
 ∀x B,Ext w B->Calls hH u (first++[ir x]++cap).toArray B (tQ λv E=>v=.bool (g x)/\Ext B E)
theorem wY.ext{α:Type}[Flat α]{w w':World}{f:Value}{g:α->Bool}(h:wY w f g)(e:Ext w w'):wY w' f g:=by
 obtain⟨u,first,cap,h1,h2,h3⟩:=h;exact⟨u,first,cap,h1,h2,λx B E=>h3 x B (e.trans E)⟩
def eM(k:Int):Int:=if k=3\/k=4 then 1 else if 5<=k/\k<=15 then 2 else 0
def W5(st:Option (Int×Int))(x:oZ):Option (Int×Int):=match st with
 | none=>none
 | some (n,h)=>if n-eM x.kind<0 then none else some (n-eM x.kind+1,max h (n-eM x.kind+1))
def ht(l:List oZ):Option (Int×Int):=l.foldl W5 (some (0,0))
def htN(l:List oZ):Int:=match ht l with|some p=>p.1|none=>0
def htH(l:List oZ):Int:=match ht l with|some p=>p.2|none=>0
theorem Bp{l:List oZ}{k:Nat}{x:oZ}(h:l[k]?=some x):ht (l.take (k+1))=W5 (ht (l.take k)) x:=by
 unfold ht;rw[<- gX h,FQ];rfl
def Tb{l:List oZ}{k:Nat}(h:ht (l.take k)=none):ht l=none:=by
 have B:∀m:List oZ,m.foldl W5 none=none:=λm=>by induction m with|nil=>rfl|cons y m u=>exact u
 have e:l=l.take k++l.drop k:=(qa k l).symm
 grind[ht]
def Tc(k:Int):0<=eM k/\eM k<=2:=by
 grind[eM]
theorem ajJ{l:List oZ}:∀k n h,k<=l.length->ht (l.take k)=some (n,h)->0<=n/\n<=(k:Int)/\0<=h/\h<=(k:Int)
 | 0,n,h,_,e=>by
  have:ht ([]:List oZ)=some (0,0):=rfl
  grind
 | k+1,n,h,E,e=>by
  obtain⟨x,u⟩:=gx l (i:=k) cO
  rw[Bp u]at e
  cases hp:ht (l.take k)with
  | none=>rw[hp]at e;cases e
  | some p=>
   obtain⟨a,b⟩:=p
   have B:=ajJ k a b cO hp
   have G:=Tc x.kind
   rw[hp]at e
   unfold W5 at e
   grind
def aee{l:List oZ}{k:Nat}{x:oZ}{n h m:Int}(u:l[k]?=some x)(B:ht (l.take k)=some (n,h))(G:m=n-eM x.kind)(E:¬ m<0):ht (l.take (k+1))=some (m+1,max h (m+1)):=by
 rw[Bp u,B];grind[W5]
def ajK{l:List oZ}{k:Nat}{x:oZ}{n h m:Int}(u:l[k]?=some x)(B:ht (l.take k)=some (n,h))(G:m=n-eM x.kind)(E:m<0):ht (l.take (k+1))=none:=by
 rw[Bp u,B];grind[W5]
def rK(many:Int)(x:oZ):Bool:=decide ((x.kind=1/\(x.n<0\/4294967296<x.n))\/(x.kind=2/\(x.n<0\/many<=x.n))\/(¬ x.kind=1/\¬ x.kind=2/\(¬ x.n=0\/x.kind<1\/16<=x.kind)))
def mN(l:List oZ)(many:Int):Bool:=decide (l.length<=40)&&(ht l).isSome&&decide (htN l=1)&&!l.any (rK many)
def C267(k:Int)(w:World):CR 267 [hZ k] w (λv w'=>v=hZ (eM k)/\Ext w w'):=by
 have B:=St.start w;refine fj Tryz.func267 ?_;refine⟨λG w'=>G=.bool (decide (k=3\/k=4))/\w=w',aH (aC (λ_=>⟨Ph cO,rfl⟩) λ_=>aH ⟨zi cO,rfl⟩),?_⟩;rintro _ _ ⟨rfl,I⟩ _;subst I;refine aC (λu=>?_) (λu=>⟨λG w'=>G=.bool (decide (5<=k/\k<=15))/\w=w',cT (aC (λ_=>gz ⟨zi cO,rfl⟩) λ_=>⟨XE cO,rfl⟩),?_⟩)
 .unfold eM
  first|(rw[ew u];exact⟨rfl,B.aG⟩)|(rw[ej u,ew E];exact⟨rfl,B.aG⟩)|(rw[ej u,ej E];exact⟨rfl,B.aG⟩)
 rintro _ _ ⟨rfl,I⟩ _;subst I;refine aC (λE=>?_) (λE=>?_)
 .unfold eM
  first|(rw[ew u];exact⟨rfl,B.aG⟩)|(rw[ej u,ew E];exact⟨rfl,B.aG⟩)|(rw[ej u,ej E];exact⟨rfl,B.aG⟩)
 unfold eM
 first|(rw[ew u];exact⟨rfl,B.aG⟩)|(rw[ej u,ew E];exact⟨rfl,B.aG⟩)|(rw[ej u,ej E];exact⟨rfl,B.aG⟩)
def C299(sv:Value)(xs:List oZ)(w:World)(I:dD (λ_=>True) w sv xs)(hn:xs.length<=1048576):CR 299 [sv] w (λv w'=>v=.tuple #[hZ (htN xs),hZ (htH xs),.bool (ht xs).isSome]/\Ext w w'):=by
 have u:=St.start w;refine fj Tryz.func299 ?_;refine aK ue (I.ext u.aG) ?_;refine⟨λm y z x M=>∃(k:Nat) (n h:Int),y=hZ n/\z=hZ h/\x=hZ (k:Int)/\m=xs.length-k/\k<=xs.length/\ht (xs.take k)=some (n,h)/\St w aX [] M,⟨_,0,0,0,rfl,rfl,rfl,rfl,cO,rfl,u⟩,?_⟩;rintro m _ _ _ M ⟨k,n,h,rfl,rfl,rfl,rfl,Z,B,u⟩ _;refine aR (aC (λW=>?_) λW=>?_)
 .obtain⟨J,E⟩:=gx xs (i:=(k:Int).toNat) cO;refine aQ ue (I.ext u.aG) cO E (λ_ U=>aD E9 U (aN u JZ λVc _ u=>aJ (x:=J) u E9 rfl rfl λ_ u=>aA nV (aB bL u.hb rfl (aW XO u (C267 _ _) λ_ he u=>?_))));have Y:=Tc J.kind;have V:=ajJ k n h cO B;refine ft cO (aR (aC (λG=>?_) λG=>aO cO (En (aO cO ⟨_,cO,k+1,_,_,rfl,rfl,rfl,rfl,cO,by rw[Bp (k:=k) E,B];unfold W5;simp only[];rw[ej G],u.drop⟩))));have O:ht xs=none:=Tb (k:=k+1) (by rw[Bp (k:=k) E,B];unfold W5;simp only[];rw[ew G])
  unfold htN htH;rw[O];exact⟨rfl,u.aG⟩
 rw[kO cO]at B;unfold htN htH;rw[B];exact⟨rfl,u.aG⟩
def C298(x:oZ)(b2:Nat)(many:Int)(w:World)(hc:Cell w b2 0 (hZ many)):CR 298 [ir x,.pointer (some ⟨b2,0,none⟩)] w (λv w'=>v=.bool (rK many x)/\Ext w w'):=by
 have u:=St.start w;refine fj Tryz.func298 ?_;refine cM u (λW _ u=>aA nV (aB bL u.hb rfl (aH (aC (λJ=>⟨_,aA qV (aB bL u.hb rfl (aR (aC (λI=>?_) λI=>?_))),λ_ _ h=>h⟩) λJ=>aA nV (aB bL u.hb rfl (aH (aC (λE=>⟨_,aA qV (aB bL u.hb rfl (aR (aC (λU=>?_) λU=>?_))),λ_ _ h=>h⟩) λE=>?_)))))))
 .intro G;refine⟨vb ?_,u.aG⟩;unfold rK
  first|exact(ez cO).symm|exact(fV cO).symm|exact ga.2 cO
 .refine aA qV (aB bL u.hb rfl (cQ ?_));intro G;refine⟨vb ?_,u.aG⟩;unfold rK
  first|exact(ez cO).symm|exact(fV cO).symm|exact ga.2 cO
 .intro O;refine⟨vb ?_,u.aG⟩;unfold rK
  first|exact(ez cO).symm|exact(fV cO).symm|exact ga.2 cO
 .refine aA qV (aB bL u.hb rfl (bN bL (hc.ext u.aG) (cT ?_)));intro O;refine⟨vb ?_,u.aG⟩;unfold rK
  first|exact(ez cO).symm|exact(fV cO).symm|exact ga.2 cO
 refine⟨_,?_,λ_ _ h=>h⟩;refine aA qV (aB bL u.hb rfl (bQ (aC (λM=>?_) λM=>aA nV (aB bL u.hb rfl (aR (aC (λV=>?_) λV=>?_))))))
 .intro B;refine⟨vb ?_,u.aG⟩;unfold rK
  first|exact(ez cO).symm|exact(fV cO).symm|exact ga.2 cO
 .intro B;refine⟨vb ?_,u.aG⟩;unfold rK
  first|exact(ez cO).symm|exact(fV cO).symm|exact ga.2 cO
 refine aA nV (aB bL u.hb rfl (cT ?_));intro B;refine⟨vb ?_,u.aG⟩;unfold rK
 first|exact(ez cO).symm|exact(fV cO).symm|exact ga.2 cO
def C321(sv fv:Value)(xs:List oZ)(g:oZ->Bool)(w:World)(J:dD (λ_=>True) w sv xs)(W:wY w fv g)(hn:xs.length<=1073741824):CR 321 [sv,fv] w (λv w'=>v=hZ (sT g xs)/\Ext w w'):=by
 obtain⟨Z,first,cap,rfl,U,M⟩:=W;have u:=St.start w;refine fj Tryz.func321 ?_;refine aK ue (J.ext u.aG) ?_;refine⟨λm x I=>∃k:Nat,x=hZ (k:Int)/\m=xs.length-k/\k<=xs.length/\(∀y∈xs.take k,g y=false)/\St w aX [] I,⟨_,0,rfl,rfl,l0 _,ei,u⟩,?_⟩;rintro m _ I ⟨k,rfl,rfl,hk,B,u⟩ _;refine aR (aC (λjQ=>?_) λ_=>⟨g6 (nG .i64) (jm (by rw[kO cO]at B;exact B)).symm,u.aG⟩);obtain⟨V,E⟩:=gx xs (i:=(k:Int).toNat) cO;refine aQ ue (J.ext u.aG) cO E (λ_ O=>aD E9 O (ij U (M V I u.aG) ?_))
 rintro _ _ ⟨rfl,Y⟩;have u:=u.ext Y;exact bD (λG=>⟨g6 (nG .i64) (my B E G).symm,u.aG⟩) (λG=>aO cO ⟨xs.length-(k+1),cO,k+1,rfl,rfl,cO,eh B E G,u⟩)
def C300(sv fv:Value)(xs:List oZ)(g:oZ->Bool)(w:World)(B:dD (λ_=>True) w sv xs)(E:wY w fv g)(G:xs.length<=1073741824):CR 300 [sv,fv] w (λv w'=>v=.bool (xs.any g)/\Ext w w'):=by
 have u:=St.start w;refine fj Tryz.func300 ?_;exact aW apq u (C321 _ _ _ _ _ (B.ext u.aG) (E.ext u.aG) cO) (λ_ _ u=>cT ⟨vb (lh _ _),u.aG⟩)
def C266(sv:Value)(xs:List oZ)(many:Int)(w:World)(E:dD (λ_=>True) w sv xs)(Y:xs.length<=1048576):CR 266 [sv,hZ many] w (λv w'=>v=.bool (mN xs many)/\Ext w w'):=by
 have u:=St.start w;refine fj Tryz.func266 ?_;refine nQ u rfl (λJ I u=>aW api u (C299 _ _ _ (E.ext u.aG) cO) λ_ W u=>aM rfl (aM rfl (aM rfl ?_)));refine⟨_,?_,λ_ _ h=>h⟩;refine aK ue (E.ext u.aG) (gz (aC (λV=>bD (λO=>aH (aC (λU=>?_) λU=>?_)) λO=>?_) λV=>?_))
 .have G:wY _ (.func (.func 298) [].toArray [.pointer (some ⟨J,0,none⟩)].toArray) (rK many):=
   ⟨298,[],_,rfl,aph,λy I M=>C298 y J many I ((u.hb.cell rfl).ext M)⟩
  refine aW apj u (C300 _ _ _ _ _ (E.ext u.aG) G cO) (λ_ W u=>bT ?_);intro B;refine⟨vb ?_,u.aG⟩;unfold mN
  simp_all<;>omega
 .intro B;refine⟨vb ?_,u.aG⟩;unfold mN
  simp_all<;>omega
 .intro B;refine⟨vb ?_,u.aG⟩;unfold mN
  simp_all<;>omega
 intro B;refine⟨vb ?_,u.aG⟩;unfold mN
 simp_all<;>omega
def pG(b:Nat)(rest:List Value)(l:List Int):HP:=qm λsv=>sep (bW b (sv::rest)) (bE sv l)
def pG.shut{w0 w:World}{A:Nat->Prop}{R:List HP}{b:Nat}{rest:List Value}{sv:Value}{l:List Int}(u:St w0 A (bW b (sv::rest)::bE sv l::R) w):St w0 A (pG b rest l::R) w:=
 St.eB (H:=λsv=>sep (bW b (sv::rest)) (bE sv l)) sv (St.join u)
def pG.open{w0 w:World}{A:Nat->Prop}{R:List HP}{b:Nat}{rest:List Value}{l:List Int}(u:St w0 A (pG b rest l::R) w):∃sv,St w0 A (bW b (sv::rest)::bE sv l::R) w:=by
 obtain⟨sv,u⟩:=u.eA;exact⟨sv,u.split⟩
def kx(l:List Int):Int:=l.getD (l.length-1) 0
theorem Yu{l:List Int}{e:Int}(h:l[((l.length:Int)-1).toNat]?=some e):e=kx l:=by
 simp_all[kx]
def C301(b:Nat)(n:Int)(rest:List Value)(l:List Int)(F:Nat->Prop)(w:World)(G:(pG b rest l).p w F)(I:l.length<=1048576):CR 301 [.pointer (some ⟨b,0,none⟩),hZ n] w (λv w'=>v=.tuple #[]/\nd F (pG b rest (l++[n])) w w'):=by
 have u:=St.begin G;obtain⟨sv,u⟩:=u.eA;have u:=u.split;refine fj Tryz.func301 ?_;refine aE (aA qU (aB ey u.hb rfl (aV ([n]:List Int) u cS rfl rfl (dQ rfl) λE _ u=>?_)));have B:=u.dW;exact bI u.p2 cS B (by simp<;>omega) ee (λ_ _ u=>have u:=u.p1.drop;aE (aA qU (aT u.p1 ey (dQ rfl) u.dW.one λ_ u=>have u:=u.p1.p1;⟨rfl,(pG.shut u).mut⟩)))
def C270(b:Nat)(rest:List Value)(l:List Int)(F:Nat->Prop)(w:World)(I:(pG b rest l).p w F)(O:l.length<=1048576)(J:0<l.length):CR 270 [.pointer (some ⟨b,0,none⟩)] w (λv w'=>v=hZ (kx l)/\nd F (pG b rest (l.take (l.length-1))) w w'):=by
 have u:=St.begin I;obtain⟨sv,u⟩:=u.eA;have u:=u.split;refine pj Tryz.func270 (pl:=axj) ?_;refine aE (aA qU (have u:=u.drew;aB ey u.hb rfl (aE (aA qU (aB ey u.hb rfl (aK cS u.p1.dW (ft cO ?_)))))));obtain⟨M,B⟩:=gx l (i:=((l.length:Int)-1).toNat) cO;refine dT u.p1 cS cO cO (λ_ G=>gq u.p1 bL G B (aE (aA qU (have u:=u.drew;aB ey u.hb rfl (aE (aA qU (aB ey u.hb rfl (aK cS u.p1.dW (ft cO (have u:=u.p1;sQ cS u cO cO λE u=>aE (aA qU ?_)))))))))))
 refine aT u.p1 ey (dQ rfl) u.dW.one (λ_ u=>?_);have u:=u.p1.p1;rw[show((l.length:Int)-1).toNat=l.length-1 from cO]at u;rw[Yu B];exact⟨rfl,(pG.shut u).mut⟩
def C268(b:Nat)(n hi:Int)(l:List Int)(F:Nat->Prop)(w:World)(B:(pG b [hZ hi] l).p w F)(G:l.length<=1048576):CR 268 [.pointer (some ⟨b,0,none⟩),hZ n] w (λv w'=>v=.tuple #[]/\∃E,nd F (pG b [hZ E] (l++[n])) w w'):=by
 have u:=St.begin B;refine pj Tryz.func268 (pl:=axi) ?_;refine aE (aA vd (qJ apk u (H':=λ_=>pG b [hZ hi] (l++[n])) (Φ:=λv _=>v=.tuple #[]) (λF B=>?_) ?_))
 .exact C301 b n _ l F _ B cO
 rintro _ _ rfl u;obtain⟨sv,u⟩:=pG.open u;exact aE (aA My (have u:=u.drew;aB bL u.hb rfl (aE (aA vd (aA qU (aB ey u.hb rfl (aK cS u.p1.dW (En (aE (aA My (aT u bL (dQ rfl) (rfl) λ_ u=>have u:=u.p1.p1;⟨rfl,_,(pG.shut u).mut⟩)))))))))))
def lJ(ns S:List Int)(x:oZ):List Int:=
 if eM x.kind=0 then S++[if x.kind=2 then ns.getD x.n.toNat 0 else x.n]
 else if eM x.kind=1 then S.take (S.length-1)++[zn x.kind (kx S)]
 else S.take (S.length-2)++[gM x.kind (kx (S.take (S.length-1))) (kx S)]
def vV(S:List Int)(x:oZ):Int:=if eM x.kind=2 then gQ x.kind (kx S)else 0
def xc(ns:List Int):List oZ->List Int->Int×Int
 | [],S=>(kx S,0)
 | x::r,S=>if vV S x=0 then xc ns r (lJ ns S x)else(0,vV S x)
def runM(l:List oZ)(ns:List Int):Int×Int:=if mN l ns.length=true then xc ns l []else(0,8)
def Br(k:Int):eM k=0\/eM k=1\/eM k=2:=by
 grind[eM]
section
variable {xs:List oZ}{ns S:List Int}{k:Nat}{x:oZ}{n h:Int}
theorem Ep(u:xs[k]?=some x)(h:vV S x=0):xc ns (xs.drop k) S=xc ns (xs.drop (k+1)) (lJ ns S x):=by
 obtain⟨B,E⟩:=kB.1 u
 rw[sk B,E,xc,ew h]
theorem Yv(u:xs[k]?=some x)(h:¬ vV S x=0):xc ns (xs.drop k) S=(0,vV S x):=by
 obtain⟨B,E⟩:=kB.1 u
 rw[sk B,E,xc,ej h]
theorem zL{many:Int}(h:mN xs many=true):xs.length<=40/\(∃a,ht xs=some (1,a))/\∀x∈xs,rK many x=false:=by
 unfold mN at h
 rw[n4,n4,n4,decide_eq_true_eq,decide_eq_true_eq]at h
 obtain⟨⟨⟨h1,h2⟩,h3⟩,h4⟩:=h
 refine⟨h1,?_,λx u=>?_⟩
 .unfold htN at h3
  grind
 grind
theorem Vd(u:eM x.kind<=(S.length:Int)):((lJ ns S x).length:Int)=S.length-eM x.kind+1:=by
 unfold lJ
 rcases Br x.kind with h|h|h
 .grind
 .grind
 grind
theorem Ve{a:Int}(I:ht xs=some (1,a))(B:ht (xs.take k)=some ((S.length:Int),h))(u:xs[k]?=some x) :
  eM x.kind<=(S.length:Int)/\∃G,ht (xs.take (k+1))=some (((lJ ns S x).length:Int),G):=by
 have E:eM x.kind<=(S.length:Int):=by
  rcases Int.lt_or_le ((S.length:Int)-eM x.kind) 0 with h1|h1
  .have:=Tb (ajK u B rfl h1);grind
  .omega
 exact⟨E,_,(aee u B rfl cO).trans (by rw[Vd E])⟩
theorem ajL(u:eM x.kind=0)(h2:¬ x.kind=2):lJ ns S x=S++[x.n]:=by unfold lJ;grind
theorem ajM{e:Int}(u:eM x.kind=0)(h2:x.kind=2)(B:ns[x.n.toNat]?=some e):lJ ns S x=S++[e]:=by
 grind[lJ]
theorem ajN(u:eM x.kind=1):lJ ns S x=S.take (S.length-1)++[zn x.kind (kx S)]:=by unfold lJ;rw[ej cO,ew u]
theorem ajO(u:eM x.kind=2):lJ ns S x=S.take (S.length-2)++[gM x.kind (kx (S.take (S.length-1))) (kx S)]:=by unfold lJ;rw[ej cO,ej cO]
theorem Yw(u:¬ eM x.kind=2):vV S x=0:=by unfold vV;omega
theorem ahM(u:eM x.kind=2):vV S x=gQ x.kind (kx S):=by unfold vV;omega
theorem Qk(h:2<=S.length):(S.take (S.length-1)).take ((S.take (S.length-1)).length-1)=S.take (S.length-2):=by
 grind
end
def nH(b:Nat)(l:List Int):HP:=qm fun (hi:Int)=>pG b [hZ hi] l
def nH.shut{w0 w:World}{A:Nat->Prop}{R:List HP}{b:Nat}{hi:Int}{l:List Int}(u:St w0 A (pG b [hZ hi] l::R) w):St w0 A (nH b l::R) w:=
 St.eB (H:=fun (hi:Int)=>pG b [hZ hi] l) hi u
def aef(b:Nat)(n:Int)(l:List Int)(F:Nat->Prop)(w:World)(u:(nH b l).p w F)(J:l.length<=1048576) :
  Calls hH 268 [.pointer (some ⟨b,0,none⟩),hZ n].toArray w (tQ λv w'=>v=.tuple #[]/\nd F (nH b (l++[n])) w w'):=by
 obtain⟨hi,u⟩:=u
 refine(C268 b n hi l F w u J).mono λe w' ⟨v,G,I,B,E,h1,h2⟩=>⟨v,G,I,E,⟨B,h1⟩,h2⟩
def aeg(b:Nat)(l:List Int)(F:Nat->Prop)(w:World)(u:(nH b l).p w F)(J:l.length<=1048576)(E:0<l.length) :
  Calls hH 270 [.pointer (some ⟨b,0,none⟩)].toArray w (tQ λv w'=>v=hZ (kx l)/\nd F (nH b (l.take (l.length-1))) w w'):=by
 obtain⟨hi,u⟩:=u
 refine(C270 b [hZ hi] l F w u J E).mono λe w' ⟨v,G,I,B,h1,h2⟩=>⟨v,G,I,B,⟨hi,h1⟩,h2⟩
def C219(sv nv:Value)(xs:List oZ)(ns:List Int)(w:World)(hL:dD (λ_=>True) w sv xs)(hN:dD (λ_=>True) w nv ns)(hn:xs.length<=1048576):CR 219 [sv,nv] w (λv w'=>v=.tuple #[hZ (runM xs ns).1,hZ (runM xs ns).2]/\Ext w w'):=by
 have u:=St.start w;refine adF _ _ _ _ ?_;unfold S219;refine aK cS (hN.ext u.aG) (aW ao5 u (C266 _ _ _ _ (hL.ext u.aG) hn) λw1 he u=>bT (bD (λW=>?_) λW=>?_))
 .unfold runM;rw[ej (by simpa using W)];exact⟨rfl,u.aG⟩
 refine aN u ad7 (λE _ u=>?_);have u:=nH.shut (pG.shut (u.eK (α:=Int)).p1);have l6:mN xs (ns.length:Int)=true:=by simpa using W
 obtain⟨h40,⟨a0,xk⟩,axI⟩:=zL l6;refine aK ue (hL.ext u.aG) ?_;refine⟨λm x w1=>∃(k:Nat) (S:List Int) (h:Int),x=hZ (k:Int)/\m=xs.length-k/\k<=xs.length/\xc ns xs []=xc ns (xs.drop k) S/\ht (xs.take k)=some ((S.length:Int),h)/\St w aX [nH E S] w1,⟨_,0,[],0,rfl,rfl,cO,rfl,rfl,u⟩,?_⟩;rintro m _ _ ⟨k,S,h,rfl,rfl,hk,O,V,u⟩ _;refine aR (aC (λnA=>?_) λnA=>?_)
 .refine⟨_,?_,λ_ h=>h⟩;obtain⟨B,J⟩:=gx xs (i:=(k:Int).toNat) cO;refine aQ ue (hL.ext u.aG) cO J (λ_ xI=>aD E9 xI (aN u JZ λVc _ u=>aJ (x:=B) u E9 rfl rfl λ_ u=>aA nV (aB bL u.hb rfl (aW XO u (C267 _ _) λ_ he u=>?_))));have LM:=axI _ (kE J);unfold rK at LM;have ho:=g8 LM;obtain⟨hw0,h2,I⟩:=Ve (ns:=ns) (k:=k) xk V J;have hwk:eM B.kind=0->B.kind=1\/B.kind=2\/¬ (B.kind=1\/B.kind=2):=λ_=>cO
  have hSk:=ajJ k _ _ cO V;have hw3:=Br B.kind;refine aH (aC (λZ=>aA qV (aB bL u.hb rfl ⟨_,aA nV (aB bL u.hb rfl (aH (aC (λxK=>?_) λxK=>?_))),λ_ _ h=>h⟩)) λZ=>aH (aC (λU=>?_) λU=>?_))
  .refine aA qV (aB bL u.hb rfl ?_);obtain⟨Yx,Ql⟩:=gx ns (i:=B.n.toNat) cO;refine aQ cS (hN.ext u.aG) cO Ql (λ_ Bs=>aD bL Bs ?_);intro vH;refine qJ SG u.p1 (H':=λ_=>nH E (S++[Yx])) (Φ:=λv _=>v=.tuple #[]) (λF G=>?_) ?_
   .exact aef E Yx S F _ G (by first|omega|(simp only[l1,lr,l2];omega))
   rintro _ w8 rfl u;intro Y;refine aO cO ?_;have u:=u.p1.drop;have M:lJ ns S B=_:=ajM Z xK Ql;exact⟨_,cO,k+1,_,_,rfl,rfl,cO,O.trans (Ep (k:=k) J (Yw cO)),I,by rw[M];exact u⟩
  .intro vH;refine qJ SG u.p1 (H':=λ_=>nH E (S++[B.n])) (Φ:=λv _=>v=.tuple #[]) (λF G=>?_) ?_
   .exact aef E B.n S F _ G (by first|omega|(simp only[l1,lr,l2];omega))
   rintro _ w8 rfl u;intro Y;refine aO cO ?_;have u:=u.p1.drop;have M:lJ ns S B=_:=ajL Z xK;exact⟨_,cO,k+1,_,_,rfl,rfl,cO,O.trans (Ep (k:=k) J (Yw cO)),I,by rw[M];exact u⟩
  .refine aA nV (have u:=u.drew;aB bL u.hb rfl (aA vd (qJ SH u.p1 (H':=λ_=>nH E (S.take (S.length-1))) (Φ:=λv _=>v=hZ (kx S)) (λF G=>?_) ?_)))
   .exact aeg E S F _ G (by first|omega|(simp only[l1,lr,l2];omega)) (by first|omega|(simp only[l1,lr,l2];omega))
   rintro _ _ rfl u;refine⟨aF bL (u.p1.hb.cell rfl),?_⟩;refine aW ao6 u (C269 _ _ _) (λ_ he u=>aM rfl (aM rfl (qJ SG u (H':=λ_=>nH E ((S.take (S.length-1))++[(zn B.kind (kx S))])) (Φ:=λv _=>v=.tuple #[]) (λF G=>?_) ?_)))
   .exact aef E (zn B.kind (kx S)) (S.take (S.length-1)) F _ G (by first|omega|(simp only[l1,lr,l2];omega))
   rintro _ _ rfl u;intro Y;refine aO cO ?_;have u:=u.p1.drop;have M:lJ ns S B=_:=ajN U;exact⟨_,cO,k+1,_,_,rfl,rfl,cO,O.trans (Ep (k:=k) J (Yw cO)),I,by rw[M];exact u⟩
  refine aA vd (qJ SH u.p1 (H':=λ_=>nH E (S.take (S.length-1))) (Φ:=λv _=>v=hZ (kx S)) (λF G=>?_) ?_)
  .exact aeg E S F _ G (by first|omega|(simp only[l1,lr,l2];omega)) (by first|omega|(simp only[l1,lr,l2];omega))
  rintro _ _ rfl u;refine aA nV (have u:=u.drew;aB bL u.p1.hb rfl (aA vd (qJ SH u (H':=λ_=>nH E ((S.take (S.length-1)).take ((S.take (S.length-1)).length-1))) (Φ:=λv _=>v=hZ (kx (S.take (S.length-1)))) (λF G=>?_) ?_)))
  .exact aeg E (S.take (S.length-1)) F _ G (by first|omega|(simp only[l1,lr,l2];omega)) (by first|omega|(simp only[l1,lr,l2];omega))
  rintro _ _ rfl u;refine⟨aF bL (u.p1.hb.cell rfl),?_⟩;refine aW ao7 u (C271 _ _ _ _) (λ_ he u=>aM rfl (aM rfl (bQ (aC (λwH=>?_) λwH=>?_))))
  .have hz:vV S B=gQ B.kind (kx S):=ahM (by have:=Br B.kind;omega);unfold runM;rw[ew l6,O,Yv (k:=k) J (by rw[hz];exact wH),hz];exact⟨rfl,u.aG⟩
  refine qJ SG u (H':=λ_=>nH E (((S.take (S.length-1)).take ((S.take (S.length-1)).length-1))++[(gM B.kind (kx (S.take (S.length-1))) (kx S))])) (Φ:=λv _=>v=.tuple #[]) (λF G=>?_) ?_
  .exact aef E (gM B.kind (kx (S.take (S.length-1))) (kx S)) ((S.take (S.length-1)).take ((S.take (S.length-1)).length-1)) F _ G (by first|omega|(simp only[l1,lr,l2];omega))
  rintro _ _ rfl u;intro Y;refine aO cO ?_;have u:=u.p1.drop;rw[Qk cO]at u;have M:lJ ns S B=_:=ajO (by have:=Br B.kind;omega);exact⟨_,cO,k+1,_,_,rfl,rfl,cO,O.trans (Ep (k:=k) J ((ahM (by have:=Br B.kind;omega)).trans (u1.1 wH))),I,by rw[M];exact u⟩
 refine aA vd ?_
 have hS1:S.length=1:=by
  rw[kO cO,xk]at V;have:=(Prod.mk.inj (n5.inj V)).1;omega
 refine qJ SH u (H':=λ_=>nH E (S.take (S.length-1))) (Φ:=λv _=>v=hZ (kx S)) (λF G=>?_) ?_
 .exact aeg E S F _ G (by first|omega|(simp only[l1,lr,l2];omega)) (by first|omega|(simp only[l1,lr,l2];omega))
 rintro _ _ rfl u;unfold runM;rw[ew l6,O,v9 cO];exact⟨rfl,u.aG⟩
def Yy(x:Int):fe (Co x):=by unfold fe Co;rw[IntKind.wrap_i64];omega
def aej{a:Int}(b:Int)(B:fe a):fe (a.tmod b):=by
 have u:(a.tmod b).natAbs<=a.natAbs:=by rw[VA];exact ace _ _
 unfold fe at *
 rcases abw 0 a with h|h
 .have:=QV b h;omega
 have:=QV (a:=-a) b cO
 rw[abv]at this;omega
def Yz(p:Bool):fe (J6 p):=by cases p<;>(unfold fe J6;decide)
def iN:fe 0:=by unfold fe;decide
def YA{op a b:Int}(u:fe a):fe (gM op a b):=by
 unfold gM
 by_cases h:gQ op b=0
 .rw[ew h]
  unfold lZ Fp
  repeat' split
  all_goals first|exact Yy _|exact Yz _|exact iN|exact aej _ u
 rw[ej h];exact iN
def YB{op a:Int}:fe (zn op a):=by
 unfold zn
 repeat' split
 all_goals first|exact Yy _|exact Yz _|exact iN
def zo(S:List Int):Prop:=∀v∈S,fe v
theorem MK{S:List Int}(h:zo S):fe (kx S):=by
 unfold kx
 rw[n3]
 cases hh:S[S.length-1]? with
 | none=>exact iN
 | some e=>exact h e (kE hh)
def zo.take{S:List Int}(h:zo S)(k:Nat):zo (S.take k):=λv u=>h v (wV u)
def zo.snoc{S:List Int}{e:Int}(h:zo S)(B:fe e):zo (S++[e]):=λv u=>by
 rcases List.mem_append.1 u with u|u
 .exact h v u
 grind
theorem YC{ns S:List Int}{x:oZ}{many:Int}(E:zo ns)(u:zo S)(B:rK many x=false):zo (lJ ns S x):=by
 unfold rK at B
 have B:=g8 B
 unfold lJ
 split
 .rename_i hw
  split
  .rw[n3]
   cases hh:ns[x.n.toNat]? with
   | none=>exact u.snoc iN
   | some e=>grind[zo]
  refine u.snoc ?_
  unfold eM at hw
  unfold fe
  omega
 split
 .exact(u.take _).snoc YB
 exact(u.take _).snoc (YA (MK (u.take _)))
def dA(ns:List ByteArray)(s:ByteArray):Int:=sT (λy=>decide (y=s)) ns
def iE(p:bZ):List cN:=p.lines.flatten++p.iY
structure PS(p:bZ):Prop where
 lines:p.lines.length<=500
 line:∀l∈p.lines,l.length<=500
 iY:p.iY.length<=500
 eS:p.eS.length<=500
 threads:p.threads.length<=500
 recover:p.recover.length<=500
 eb:p.eb.length<=500
 dY:∀t∈p.threads++p.recover,t.dY.length<=500
 body:∀t∈p.threads++p.recover,t.body.length<=500
theorem dC{ls:List (List cN)}(h:∀l∈ls,l.length<=500):ls.flatten.length<=500*ls.length:=by
 induction ls with
 | nil=>simp
 | cons a ls u=>
  grind
def lj{p:bZ}(h:PS p):(iE p).length<=250500:=by
 have h1:=dC h.line
 have h2:=h.lines
 have h3:=h.iY
 grind[iE]
theorem Vf{α:Type}{ls:List (List α)}{k:Nat}{l:List α}(h:ls[k]?=some l):(ls.take k).flatten++l=(ls.take (k+1)).flatten:=by rw[<- gX h,List.flatten_append];simp
theorem gy{α β:Type}{f:α->β}{l:List α}{k:Nat}{e:α}(h:l[k]?=some e):(l.take k).map f++[f e]=(l.take (k+1)).map f:=by rw[<- gX h,wk];rfl
def C123(lv:Value)(ns:List ByteArray)(q:ByteArray)(w:World)(I:dD (λ_=>True) w lv ns)(W:ns.length<=1048576):CR 123 [lv,.string q] w (λv w'=>v=hZ (dA ns q)/\Ext w w'):=by
 have u:=St.start w;refine fj Tryz.func123 ?_;refine⟨λm x J=>∃k:Nat,x=hZ (k:Int)/\m=ns.length-k/\k<=ns.length/\(∀y∈ns.take k,decide (y=q)=false)/\St w aX [] J,⟨_,0,rfl,rfl,l0 _,ei,u⟩,?_⟩;rintro m _ J ⟨k,rfl,rfl,U,B,u⟩ _;refine aK iK (I.ext u.aG) (aR (aC (λO=>?_) λ_=>⟨g6 (nG .i64) (jm (by rw[kO cO]at B;exact B)).symm,u.aG⟩));obtain⟨V,G⟩:=gx ns (i:=(k:Int).toNat) cO;exact aQ iK (I.ext u.aG) cO G (λ_ M=>aD gK M (jP (aC (λE=>⟨g6 (nG .i64) (my B G (ez E)).symm,u.aG⟩) λE=>aO cO ⟨ns.length-(k+1),cO,k+1,rfl,rfl,cO,eh B G (fV E),u⟩)))
def C202(lv:Value)(cs:List cN)(w:World)(B:dD (λ_=>True) w lv cs)(hn:cs.length<=1048576):CR 202 [lv] w (λv w'=>kq (bE v (cs.map cN.name)) w w'):=by
 have u:=St.start w;refine fj Tryz.func202 ?_;refine aV ([]:List ByteArray) u iK rfl rfl (dQ rfl) (λZ G u=>?_);refine⟨λm y x G=>∃k:Nat,x=hZ (k:Int)/\m=cs.length-k/\k<=cs.length/\St w aX [bE y ((cs.take k).map cN.name)] G,⟨_,0,rfl,rfl,cO,u⟩,?_⟩;rintro m Y _ _ ⟨k,rfl,rfl,hk,u⟩ _;have W:((cs.take k).map cN.name).length=k:=by rw[List.length_map,l1];omega
 refine aK iD (B.ext u.aG) (aR (aC (λM=>?_) λM=>?_))
 .obtain⟨E,I⟩:=gx cs (i:=(k:Int).toNat) cO;refine aQ iD (B.ext u.aG) cO I (λ_ U=>bX E.name kZ U rfl rfl λ_ J=>aD gK J (aV ([E.name]) u iK rfl rfl (dQ rfl) λV _ u=>?_));have O:=u.dW;exact bI u.p1 iK O (by simp<;>omega) ee (λ_ _ u=>have u:=u.p1.drop;aO cO ⟨_,cO,k+1,rfl,rfl,cO,by rw[<- gy (k:=k) I];exact u⟩)
 rw[kO cO]at u;exact u.fresh
def C59(p:bZ)(pv:bO)(w:World)(hp:Deep.dr w pv p)(B:PS p):CR 59 [ir pv] w (λv w'=>kq (bE v (iE p)) w w'):=by
 obtain⟨bK,bV,bM,aY,aZ,bH,rfl,cW,dK,dB,cE,cG,cU⟩:=hp;have u:=St.start w;refine fj Tryz.func59 ?_;refine cM u (λkF w1 u=>aV ([]:List cN) u iD rfl rfl (dQ rfl) λQm _ u=>?_);refine⟨λm y x w1=>∃k:Nat,x=hZ (k:Int)/\m=p.lines.length-k/\k<=p.lines.length/\St w aX [bE y (p.lines.take k).flatten,bW kF (j0 (⟨bK,bV,bM,aY,aZ,bH⟩:bO))] w1,⟨_,0,rfl,rfl,cO,u⟩,?_⟩;rintro m nI _ _ ⟨k,rfl,rfl,hk,u⟩ _;have Vg:=B.lines;refine aA gL (aB pk u.p1.hb rfl ?_)
 obtain⟨YE,E,G⟩:=cW.open;have YF:=G.1;refine aK ql (E.ext u.aG) (aR (aC (λgW=>?_) λgW=>?_))
 .refine aA gL (aB pk u.p1.hb rfl ?_);obtain⟨M,YG⟩:=gx YE (i:=(k:Int).toNat) cO;obtain⟨U,I⟩:=gx p.lines (i:=(k:Int).toNat) cO;have J:DL w (ir M) U:=G.2 _ _ _ YG I;refine aQ ql (E.ext u.aG) cO YG (λ_ ML=>aD jT ML ?_);have W:=DL.flat J;have zp:=B.line _ (kE I);have Y:=dC (ls:=p.lines.take k) (λl Z=>B.line l (wV Z));rw[l1]at Y;have Vg:=B.lines;have lR:=(W.ext u.aG);exact bI u iD lR cO ee (λ_ _ u=>aO cO ⟨_,cO,k+1,rfl,rfl,cO,by rw[<- Vf (k:=k) I];exact u⟩)
 refine aA qG (aB jT u.p1.hb rfl ?_);have O:=DL.flat dK;have Y:=dC (ls:=p.lines.take k) (λl Z=>B.line l (wV Z));rw[l1]at Y;have Vg:=B.lines;have hz2:=B.iY;have V:=(O.ext u.aG);refine bI u iD V cO ee (λapX _ u=>?_);rw[kO cO]at u;exact u.p1.drop.fresh
def kids(k:Int):Int:=if k=1\/k=2 then 0 else if k=3\/k=4 then 1 else if 5<=k/\k<=15 then 2 else -1
def uF(k:Int) : -1<=kids k/\kids k<=2:=by
 grind[kids]
def gN(c:Int):Bool:=decide (97<=c/\c<=122\/c=95)
def kG(c:Int):Bool:=decide (48<=c/\c<=57)
def j3:List ByteArray:=[⟨#[108,105,110,101]⟩,⟨#[118,111,108]⟩,⟨#[108,111,99,107]⟩,⟨#[116,104,114,101,97,100]⟩,⟨#[114,101,103]⟩,⟨#[108,111,97,100]⟩,⟨#[115,116,111,114,101]⟩,⟨#[99,97,115]⟩,⟨#[102,108,117,115,104]⟩,⟨#[111,112,116]⟩,⟨#[115,102,101,110,99,101]⟩,⟨#[109,102,101,110,99,101]⟩,⟨#[116,97,107,101]⟩,⟨#[103,105,118,101]⟩,⟨#[105,102]⟩,⟨#[101,108,115,101]⟩,⟨#[108,111,111,112]⟩,⟨#[98,114,101,97,107]⟩,⟨#[99,104,101,99,107]⟩,⟨#[114,101,99,111,118,101,114]⟩,⟨#[97,108,119,97,121,115]⟩]
def gY(s:ByteArray):Bool:=!(decide (s.size<1\/16<s.size)||(match (iX s)[0]? with|some c=>!gN c.toNat|none=>true)||j3.any λy=>decide (y=s))&&!(iX s).any (λc=>!gN c.toNat&&!kG c.toNat)
def skip:Nat->List cC->Option (List cC)
 | 0,l=>some l
 | _+1,[]=>none
 | n+1,x::l=>if kids x.op<0 then none else skip (n+(kids x.op).toNat) l
theorem Af(l:List cC):skip 0 l=some l:=by cases l<;>rfl
theorem Fv(l:List cC):∀a b,skip (a+b) l=(skip a l).bind (skip b):=by
 induction l with
 | nil=>
  intro a b
  cases a with
  | zero=>rw[u4,Af];rfl
  | succ a=>grind[skip]
 | cons x l u=>
  intro a b
  cases a with
  | zero=>rw[u4,Af];rfl
  | succ a=>
   grind[skip]
theorem Fx(l:List cC):∀n r,skip n l=some r->r=l.drop (l.length-r.length)/\r.length+min n 1<=l.length:=by
 induction l with
 | nil=>
  intro n r h
  cases n with
  | zero=>rw[Af]at h;grind
  | succ n=>cases h
 | cons x l u=>
  intro n r h
  cases n with
  | zero=>rw[Af]at h;simp_all
  | succ n=>
   have h:(if kids x.op<0 then none else skip (n+(kids x.op).toNat) l)=some r:=h
   split at h
   .cases h
   .obtain⟨h1,h2⟩:=u _ _ h
    refine⟨?_,dI⟩
    rw[show(x::l).length-r.length=(l.length-r.length)+1 from dI]
    exact h1
def D3(n:Nat)(o:Option (List cC)):Int:=match o with|some r=>(n:Int)-r.length|none=>-1
def qW(xs:List cC)(i:Int):Int:=if i<0 then -1 else D3 xs.length (skip 1 (xs.drop i.toNat))
def YH{xs:List cC}{i:Int}{x:cC}(G:0<=i)(u:xs[i.toNat]?=some x)(I:0<=kids x.op):qW xs i=D3 xs.length (skip (kids x.op).toNat (xs.drop (i.toNat+1))):=by
 unfold qW
 obtain⟨B,E⟩:=kB.1 u
 rw[ej cO,sk B,E]
 show D3 _ (if kids x.op<0 then none else skip (0+(kids x.op).toNat) _)=_
 grind
theorem aek{xs:List cC}{i:Int}{x:cC}(G:0<=i)(u:xs[i.toNat]?=some x)(I:kids x.op<0):qW xs i = -1:=by
 unfold qW
 obtain⟨B,E⟩:=kB.1 u
 rw[ej cO,sk B,E]
 grind[D3,skip]
theorem ael{xs:List cC}{i:Int}(h:i<0\/xs.length<=i):qW xs i = -1:=by
 unfold qW
 split
 .rfl
 rw[v9 cO];rfl
theorem apY{xs:List cC}{j k:Nat}{a:Int}(h:D3 xs.length (skip k (xs.drop j))=a)(u:0<=a):qW xs a=D3 xs.length (skip (k+1) (xs.drop j))/\((j:Int)<=a\/xs.length<=a):=by
 cases hs:skip k (xs.drop j)with
 | none=>rw[hs]at h;unfold D3 at h;simp only[]at h;omega
 | some r=>
  rw[hs]at h
  have h:(xs.length:Int)-r.length=a:=h
  obtain⟨h1,h2⟩:=Fx _ _ _ hs
  rw[rH]at h1 h2
  rw[Fv,hs]
  show _=D3 _ (skip 1 r)/\_
  refine⟨?_,cO⟩
  unfold qW
  rw[ej cO]
  by_cases B:j<=xs.length
  .have:xs.drop a.toNat=r:=by
    rw[h1,tz,show j+(xs.length-j-r.length)=a.toNat from cO]
   rw[this]
  .have:r=[]:=s4.1 cO
   subst this
   rw[v9 (by simp at h;omega)]
theorem ajR{xs l:List cC}{k j:Nat}(B:l.length<=xs.length)(h:¬ 0<=D3 xs.length (skip k l))(u:k<=j):D3 xs.length (skip k l)=D3 xs.length (skip j l):=by
 cases hs:skip k l with
 | none=>rw[show j=k+(j-k)from cO,Fv,hs];rfl
 | some r=>
  obtain⟨_,h2⟩:=Fx _ _ _ hs
  rw[hs]at h;unfold D3 at h;simp only[]at h;omega
theorem axK{xs l:List cC}{k:Nat}(u:l.length<=xs.length) : -1<=D3 xs.length (skip k l)/\D3 xs.length (skip k l)<=xs.length:=by
 cases hs:skip k l with
 | none=>unfold D3;simp only[];omega
 | some r=>
  obtain⟨_,h2⟩:=Fx _ _ _ hs
  unfold D3;simp only[];omega
def C273(k:Int)(w:World):CR 273 [hZ k] w (λv w'=>v=hZ (kids k)/\Ext w w'):=by
 have E:=St.start w;refine fj Tryz.func273 ?_;refine⟨λu w'=>u=.bool (decide (k=1\/k=2))/\w=w',aH (aC (λ_=>⟨Ph cO,rfl⟩) λ_=>aH ⟨zi cO,rfl⟩),?_⟩;rintro _ _ ⟨rfl,B⟩ _;subst B;refine aC (λI=>?_) (λI=>⟨λu w'=>u=.bool (decide (k=3\/k=4))/\w=w',aH (aC (λ_=>⟨Ph cO,rfl⟩) λ_=>aH ⟨zi cO,rfl⟩),?_⟩)
 .unfold kids;exact⟨g6 (nG .i64) dI,E.aG⟩
 rintro _ _ ⟨rfl,B⟩ _;subst B;refine aC (λG=>?_) (λG=>⟨λu w'=>u=.bool (decide (5<=k/\k<=15))/\w=w',cT (aC (λ_=>gz ⟨zi cO,rfl⟩) λ_=>⟨XE cO,rfl⟩),?_⟩)
 .unfold kids;exact⟨g6 (nG .i64) dI,E.aG⟩
 rintro _ _ ⟨rfl,B⟩ _;subst B;refine aC (λJ=>?_) (λJ=>?_)
 .unfold kids;exact⟨g6 (nG .i64) dI,E.aG⟩
 unfold kids;exact⟨g6 (nG .i64) dI,E.aG⟩
def C206(c:Int)(w:World):CR 206 [.int .u8 c] w (λv w'=>v=.bool (gN c)/\Ext w w'):=by
 have B:=St.start w;refine fj Tryz.func206 ?_;refine⟨λu w'=>u=.bool (decide (97<=c/\c<=122\/c=95))/\w=w',Bl (aC (λ_=>Bj (aC (λ_=>⟨Ph cO,rfl⟩) λ_=>nZ ⟨zi cO,rfl⟩)) λ_=>nZ ⟨zi cO,rfl⟩),?_⟩;rintro _ _ ⟨rfl,E⟩ _;subst E;exact⟨rfl,B.aG⟩
def C207(c:Int)(w:World):CR 207 [.int .u8 c] w (λv w'=>v=.bool (kG c)/\Ext w w'):=by
 have B:=St.start w;refine fj Tryz.func207 ?_;refine⟨λu w'=>u=.bool (decide (48<=c/\c<=57))/\w=w',Bl (aC (λ_=>Bj ⟨zi cO,rfl⟩) λ_=>⟨XE cO,rfl⟩),?_⟩;rintro _ _ ⟨rfl,E⟩ _;subst E;exact⟨rfl,B.aG⟩
def C255(s:ByteArray)(w:World):CR 255 [.string s] w (λv w'=>v=.bool (j3.any λy=>decide (y=s))/\Ext w w'):=by
 have u:=St.start w;refine fj Tryz.func255 ?_;refine aV j3 u iK rfl rfl (dQ rfl) (λO I u=>?_);refine⟨λm x I=>∃k:Nat,x=hZ (k:Int)/\m=j3.length-k/\k<=j3.length/\(∀y∈j3.take k,decide (y=s)=false)/\St w aX [bE O j3] I,⟨_,0,rfl,rfl,l0 _,ei,u⟩,?_⟩;rintro m _ _ ⟨k,rfl,rfl,V,E,u⟩ _;have U:j3.length=21:=rfl;refine aK iK u.dW (aR (aC (λM=>?_) λM=>?_))
 .skip;obtain⟨W,G⟩:=gx j3 (i:=(k:Int).toNat) cO;exact dT u iK cO cO (λ_ J=>gq u gK J G (jP (aC (λB=>⟨vb (iw G (ez B)).symm,u.aG⟩) λB=>aO cO ⟨_,cO,k+1,rfl,rfl,cO,eh E G (fV B),u⟩)))
 rw[kO cO]at E;exact⟨vb (iL E).symm,u.aG⟩
def C211(s:ByteArray)(w:World)(hn:s.size<=1048576):CR 211 [.string s] w (λv w'=>v=.bool (gY s)/\Ext w w'):=by
 have u:=St.start w;refine fj Tryz.func211 ?_;refine⟨λJ w'=>J=.bool (decide (s.size<1\/16<s.size)||(match (iX s)[0]? with|some c=>!gN c.toNat|none=>true)||j3.any λy=>decide (y=s))/\St w aX [] w',fu iC (aR (aC (λ_=>⟨vb dI,u⟩) λqn=>fu iC (cQ (aC (λ_=>⟨vb dI,u⟩) λZ=>?_)))),?_⟩
 .obtain⟨iH,U⟩:∃E,(iX s)[(0:Int).toNat]?=some E:=⟨_,la (by rw[fh];omega)⟩;exact j8 iC cO U (aW SB u (C206 _ _) λ_ _ u=>bT (bD (λ_=>⟨vb dI,u⟩) λ_=>aW ao1 u (C255 _ _) λ_ _ u=>⟨vb dI,u⟩))
 rintro _ _ ⟨rfl,u⟩ _;refine bD (λM=>?_) (λM=>?_)
 .refine⟨vb ?_,u.aG⟩;unfold gY;rw[M];rfl
 refine⟨λm x V=>∃k:Nat,x=hZ (k:Int)/\m=(iX s).length-k/\k<=(iX s).length/\(∀y∈(iX s).take k,(!gN y.toNat&&!kG y.toNat)=false)/\St w aX [] V,⟨_,0,rfl,rfl,l0 _,ei,u⟩,?_⟩;rintro m _ _ ⟨k,rfl,rfl,W,G,u⟩ _;rw[fh]at W;have Im:=fh s;refine fu iC (aR (aC (λY=>?_) λY=>?_))
 .obtain⟨O,B⟩:∃E,(iX s)[(k:Int).toNat]?=some E:=⟨_,la (by rw[fh];omega)⟩;refine⟨λJ w'=>J=.bool (!gN O.toNat&&!kG O.toNat)/\St w aX [] w',j8 iC cO B (aW SB u (C206 _ _) λ_ _ u=>bT (bD (λ_=>j8 iC cO B (aW SC u (C207 _ _) λ_ _ u=>bT ⟨vb dI,u⟩)) λ_=>⟨vb dI,u⟩)),?_⟩;rintro _ _ ⟨rfl,u⟩ _;refine bD (λI=>?_) (λI=>aO cO ⟨_,cO,k+1,rfl,rfl,cO,eh G B (by simpa using I),u⟩);refine⟨vb ?_,u.aG⟩;unfold gY;rw[iw B I];simp
 rw[kO cO]at G;refine⟨vb ?_,u.aG⟩;unfold gY;rw[iL G]
 revert M
 cases (decide (s.size<1\/16<s.size)||(match (iX s)[0]? with|some c=>!gN c.toNat|none=>true)||j3.any λy=>decide (y=s))<;>simp
theorem C251(lv:Value)(xs:List cC)(i:Int)(N:Nat)(w:World)(E:dD (λ_=>True) w lv xs)(hn:xs.length<=1048576)(hi : -9223372036854775808<=i)(hN:(xs.length:Int)-i<N):CR 251 [lv,hZ i] w (λv w'=>v=hZ (qW xs i)/\Ext w w'):=by
 have u:=St.start w;refine fj Tryz.func251 ?_;refine⟨λI w'=>I=.bool (decide (i<0\/(xs.length:Int)<=i)||(match xs[i.toNat]? with|some x=>decide (kids x.op<0)|none=>true))/\St w aX [] w',aR (aC (λ_=>⟨vb dI,u⟩) λgR=>aK il (E.ext u.aG) (cT (aC (λ_=>⟨vb dI,u⟩) λxL=>?_))),?_⟩
 .obtain⟨qX,U⟩:=gx xs (i:=(i).toNat) cO;exact aQ il (E.ext u.aG) cO U (λ_ sU=>bX qX.op fm sU rfl rfl λ_ W=>aD bL W (aW L5 u (C273 _ _) λ_ _ u=>aR ⟨vb dI,u⟩))
 rintro _ _ ⟨rfl,u⟩ _;refine bD (λ_=>⟨g6 (nG .i64) (by grind[ael,aek]),u.aG⟩) (λnA=>?_);have Z:¬ (i<0\/(xs.length:Int)<=i):=dI
 obtain⟨B,J⟩:=gx xs (i:=(i).toNat) cO;have V:0<=kids B.op:=dI
 have YI:=uF B.op;have W6:=YH cO J V;refine aO cO ?_;refine⟨λm y x w1=>∃(k:Nat) (a:Int),x=hZ (k:Int)/\y=hZ a/\m=(kids B.op).toNat-k/\k<=(kids B.op).toNat/\D3 xs.length (skip k (xs.drop (i.toNat+1)))=a/\St w aX [] w1,⟨_,0,i+1,rfl,rfl,rfl,cO,by rw[Af];unfold D3;simp only[rH];omega,u⟩,?_⟩;rintro m _ _ _ ⟨k,a,rfl,rfl,rfl,hk,M,u⟩ _;have G:=axK (xs:=xs) (l:=xs.drop (i.toNat+1)) (k:=k) (by rw[rH];omega);rw[M]at G;refine⟨λI w'=>I=.bool (decide ((k:Int)<kids B.op/\0<=a))/\St w aX [] w',aQ il (E.ext u.aG) cO J (λ_ O=>bX B.op fm O rfl rfl λ_ Y=>aD bL Y (aW L5 u (C273 _ _) λ_ _ u=>aR (aC (λ_=>cT ⟨vb dI,u⟩) λ_=>⟨vb dI,u⟩))),?_⟩
 rintro _ _ ⟨rfl,u⟩ _;refine aC (λpH=>?_) (λ_=>⟨g6 (nG .i64) (by have:=ajR (xs:=xs) (l:=xs.drop (i.toNat+1)) (k:=k) (j:=(kids B.op).toNat) (by rw[rH];omega);rw[W6];by_cases h0:0<=a<;>grind),u.aG⟩);have Cq:=apY M cO;exact aW L3 u (C251 _ _ _ (N-1) _ (E.ext u.aG) hn cO cO) (λ_ _ u=>aO cO ⟨_,cO,k+1,_,rfl,rfl,rfl,cO,Cq.1.symm,u⟩)
termination_by N
decreasing_by omega
inductive Ex where
 | leaf (x:cC)
 | un (x:cC) (a:Ex)
 | bin (x:cC) (a b:Ex)
namespace Ex
def root:Ex->cC|leaf x=>x|un x _=>x|bin x _ _=>x
def eJ:Ex->List Ex|leaf _=>[]|un _ a=>[a]|bin _ a b=>[a,b]
def flat:Ex->List cC|leaf x=>[x]|un x a=>x::a.flat|bin x a b=>x::(a.flat++b.flat)
def wf:Ex->Prop|leaf x=>kids x.op=0|un x a=>kids x.op=1/\a.wf|bin x a b=>kids x.op=2/\a.wf/\b.wf
def depth:Ex->Int|leaf _=>1|un _ a=>a.depth+1|bin _ a b=>max a.depth b.depth+1
def size:Ex->Nat|leaf _=>1|un _ a=>a.size+1|bin _ a b=>a.size+b.size+1
def numOf(ns:List ByteArray)(x:cC):Int:=if x.op=2 then dA ns x.name else x.n
def steps(ns:List ByteArray):Ex->List oZ
 | leaf x=>[⟨x.op,numOf ns x⟩]
 | un x a=>a.steps ns++[⟨x.op,numOf ns x⟩]
 | bin x a b=>a.steps ns++b.steps ns++[⟨x.op,numOf ns x⟩]
end Ex
theorem Ex.dC(t:Ex):t.flat.length=t.size:=by
 induction t with
 | leaf x=>rfl
 | un x a E=>simp[Ex.flat,Ex.size,E]
 | bin x a b u B=>simp[Ex.flat,Ex.size,u,B]
theorem Ex.Io(t:Ex):t.flat=t.root::(t.eJ.map Ex.flat).flatten:=by
 cases t<;>simp[Ex.flat,Ex.root,Ex.eJ]
theorem Ex.pI{t:Ex}(h:t.wf):kids t.root.op=t.eJ.length:=by
 cases t with
 | leaf x=>exact h
 | un x a=>exact h.1
 | bin x a b=>exact h.1
theorem Ex.uG{t a:Ex}(h:t.wf)(u:a∈t.eJ):a.wf/\a.size<t.size:=by
 cases t with
 | leaf x=>cases u
 | un x b=>rw[v7.1 u];exact⟨h.2,by simp[Ex.size]⟩
 | bin x b c=>
  rcases List.mem_cons.1 u with rfl|u
  .grind[wf,size]
  grind[wf,size]
theorem Ex.rZ(t:Ex):1<=t.depth/\t.depth<=t.size:=by
 induction t with
 | leaf x=>simp[Ex.depth,Ex.size]
 | un x a E=>simp only[Ex.depth,Ex.size];omega
 | bin x a b u B=>simp only[Ex.depth,Ex.size];omega
theorem Ex.qp(ns:List ByteArray)(t:Ex):(t.steps ns).length=t.size:=by
 induction t with
 | leaf x=>rfl
 | un x a u=>simp[Ex.steps,Ex.size,u]
 | bin x a b B E=>grind[steps,size]
theorem Vh(t:Ex)(h:t.wf):∀n r,skip (n+1) (t.flat++r)=skip n r:=by
 induction t with
 | leaf x=>
  intro n r
  show(if kids x.op<0 then none else skip (n+(kids x.op).toNat) r)=_
  rw[show kids x.op=0 from h];rfl
 | un x a E=>
  intro n r
  show(if kids x.op<0 then none else skip (n+(kids x.op).toNat) (a.flat++r))=_
  rw[show kids x.op=1 from h.1,ej cO];exact E h.2 n r
 | bin x a b u B=>
  intro n r
  show(if kids x.op<0 then none else skip (n+(kids x.op).toNat) (a.flat++b.flat++r))=_
  rw[show kids x.op=2 from h.1,ej cO,nK]
  show skip (n+1+1) _=_
  rw[u h.2.1 (n+1),B h.2.2 n]
theorem Te:∀(k:Nat) (l r:List cC),l.length<=k->skip 1 l=some r->∃t:Ex,t.wf/\l=t.flat++r
 | k,[],r,_,h=>by cases h
 | 0,x::l,r,u,_=>by simp at u
 | k+1,x::l,r,u,h=>by
  have u:l.length<=k:=dI
  have h:(if kids x.op<0 then none else skip (0+(kids x.op).toNat) l)=some r:=h
  have hb:=uF x.op
  split at h
  .cases h
  .rcases(show kids x.op=0\/kids x.op=1\/kids x.op=2 by omega)with h0|h0|h0
   .rw[h0]at h
    have h:skip 0 l=some r:=h
    rw[Af]at h;cases h
    exact⟨.leaf x,h0,rfl⟩
   .rw[h0]at h
    obtain⟨a,B,rfl⟩:=Te k l r u h
    exact⟨.un x a,⟨h0,B⟩,rfl⟩
   .rw[h0]at h
    have h:skip (1+1) l=some r:=h
    rw[Fv]at h
    obtain⟨m,h1,h2⟩:=Pg.1 h
    obtain⟨a,B,rfl⟩:=Te k l m u h1
    obtain⟨b,E,rfl⟩:=Te k m r dI h2
    exact⟨.bin x a b,⟨h0,B,E⟩,by simp[Ex.flat]⟩
def Cr(xs:List cC)(i:Int)(t:Ex):Prop:=0<=i/\t.wf/\∃r,xs.drop i.toNat=t.flat++r
def Cr.root{xs:List cC}{i:Int}{t:Ex}(h:Cr xs i t):xs[i.toNat]?=some t.root/\i<xs.length:=by
 obtain⟨u,_,r,h⟩:=h
 have:(xs.drop i.toNat)[0]?=some t.root:=by rw[h,Ex.Io];rfl
 rw[Jo,P1]at this
 exact⟨this,by have:=(kB.1 this).1;omega⟩
def Cr.end{xs:List cC}{i:Int}{t:Ex}(h:Cr xs i t):qW xs i=i+t.size/\i+t.size<=xs.length:=by
 have E:=h.root.2
 obtain⟨G,B,r,h⟩:=h
 have u:=g6 List.length h
 rw[rH,lr,Ex.dC]at u
 refine⟨?_,cO⟩
 unfold qW
 rw[ej cO,h,Vh t B 0 r,Af]
 unfold D3;grind
theorem Cr.of{xs:List cC}{i:Int}(h:0<=qW xs i):∃t,Cr xs i t:=by
 unfold qW at h
 split at h
 .omega
 cases hs:skip 1 (xs.drop i.toNat)with
 | none=>rw[hs]at h;unfold D3 at h;simp only[]at h;omega
 | some r=>
  obtain⟨t,B,u⟩:=Te _ _ r (o6 _) hs
  exact⟨t,cO,B,r,u⟩
def qY(ks:List Ex)(k:Nat):Nat:=((ks.take k).map Ex.size).sum
theorem vh{ks:List Ex}{k:Nat}{a:Ex}(h:ks[k]?=some a):qY ks (k+1)=qY ks k+a.size:=by
 unfold qY;rw[<- gX h];simp
def Cr.kid{xs:List cC}{i:Int}{t a:Ex}{k:Nat}(h:Cr xs i t)(u:t.eJ[k]?=some a):Cr xs (i+1+qY t.eJ k) a:=by
 obtain⟨J,E,r,h⟩:=h
 refine⟨cO,(Ex.uG E (kE u)).1,?_⟩
 have B:t.eJ=t.eJ.take k++a::t.eJ.drop (k+1):=by
  obtain⟨M,I⟩:=kB.1 u
  rw[<- I,MJ,qa]
 have G:(((t.eJ.take k).map Ex.flat).flatten).length=qY t.eJ k:=by
  unfold qY
  rw[Yr,H4]
  congr 2
  exact funext λx=>Ex.dC x
 have h2:xs.drop (i.toNat+1)=((t.eJ.take k).map Ex.flat).flatten++(a.flat++(((t.eJ.drop (k+1)).map Ex.flat).flatten++r)):=by
  rw[<- tz,h,Ex.Io t]
  show(t.eJ.map Ex.flat).flatten++r=_
  conv=>lhs;rw[B]
  simp
 refine⟨((t.eJ.drop (k+1)).map Ex.flat).flatten++r,?_⟩
 rw[show(i+1+(qY t.eJ k:Int)).toNat=i.toNat+1+qY t.eJ k from cO,<- tz,h2,<- G,List.drop_left]
def D4(ks:List Ex)(k:Nat):Int:=((ks.take k).map Ex.depth).foldl max 0
theorem CI{ks:List Ex}{k:Nat}{a:Ex}(h:ks[k]?=some a):D4 ks (k+1)=max (D4 ks k) a.depth:=by
 unfold D4;rw[<- gX h,wk,FQ];rfl
theorem Qo{ks:List Ex}{N:Int}(u:0<=N)(h:∀a∈ks,a.depth<=N):∀k,0<=D4 ks k/\D4 ks k<=N
 | 0=>by simp[D4,u]
 | k+1=>by
  have B:=Qo u h k
  cases hx:ks[k]? with
  | none=>
   have e:ks.take (k+1)=ks.take k:=by rw[uH,hx];simp
   unfold D4 at *;grind
  | some a=>rw[CI hx];grind
theorem Ex.MM(t:Ex):t.depth=D4 t.eJ t.eJ.length+1:=by
 cases t with
 | leaf x=>rfl
 | un x a=>have:=a.rZ;grind[depth,D4,eJ]
 | bin x a b=>have:=a.rZ;grind[depth,D4,eJ]
def YJ(ns:List ByteArray)(ks:List Ex)(k:Nat):List oZ:=((ks.take k).map (Ex.steps ns)).flatten
theorem MN{ns:List ByteArray}{ks:List Ex}{k:Nat}{a:Ex}(h:ks[k]?=some a):YJ ns ks (k+1)=YJ ns ks k++a.steps ns:=by
 unfold YJ;rw[<- gX h];simp
def Er{ns:List ByteArray}{ks:List Ex}{k:Nat}:(YJ ns ks k).length=qY ks k:=by
 unfold YJ qY
 rw[Yr,H4]
 congr 2
 exact funext λx=>Ex.qp ns x
theorem Ex.vW(ns:List ByteArray)(t:Ex):t.steps ns=YJ ns t.eJ t.eJ.length++[⟨t.root.op,Ex.numOf ns t.root⟩]:=by
 cases t<;>simp[Ex.steps,Ex.eJ,YJ,Ex.root]
def pt:Nat->List cC->Option (Ex×List cC)
 | 0,_=>none
 | _+1,[]=>none
 | n+1,x::l=>
  if kids x.op=0 then some (.leaf x,l)else if kids x.op=1 then(match pt n l with|some p=>some (.un x p.1,p.2)|none=>none)
  else if kids x.op=2 then(match pt n l with|some p=>(match pt n p.2 with|some q=>some (.bin x p.1 q.1,q.2)|none=>none)|none=>none)else none
theorem aen(t:Ex)(h:t.wf):∀n r,t.size<=n->pt n (t.flat++r)=some (t,r):=by
 induction t with
 | leaf x=>
  intro n r u
  cases n with
  | zero=>simp[Ex.size]at u
  | succ n=>show(if kids x.op=0 then _ else _)=_;rw[ew (show kids x.op=0 from h)];rfl
 | un x a G=>
  intro n r u
  cases n with
  | zero=>simp[Ex.size]at u
  | succ n=>
   have h1:kids x.op=1:=h.1
   show(if kids x.op=0 then _ else if kids x.op=1 then(match pt n (a.flat++r)with|some p=>some (Ex.un x p.1,p.2)|none=>none)else _)=_
   rw[ej cO,ew h1,G h.2 n r (by simp[Ex.size]at u;omega)]
 | bin x a b B E=>
  intro n r u
  cases n with
  | zero=>simp[Ex.size]at u
  | succ n=>
   have h1:kids x.op=2:=h.1
   show(if kids x.op=0 then _ else if kids x.op=1 then _ else if kids x.op=2 then(match pt n (a.flat++b.flat++r)with|some p=>(match pt n p.2 with|some q=>some (Ex.bin x p.1 q.1,q.2)|none=>none)|none=>none)else _)=_
   rw[ej cO,ej cO,ew h1,nK,B h.2.1 n _ (by simp[Ex.size]at u;omega)]
   simp only[]
   rw[E h.2.2 n _ (by simp[Ex.size]at u;omega)]
def Ah(l:List cC):Option Ex:=match pt l.length l with|some p=>if p.2=[]then some p.1 else none|none=>none
def Vi{t:Ex}(h:t.wf):Ah t.flat=some t:=by
 unfold Ah
 have:=aen t h t.flat.length [] (by rw[Ex.dC];omega)
 grind
def Cr.zero{l:List cC}{t:Ex}(h:Cr l 0 t)(E:qW l 0=l.length):l=t.flat/\Ah l=some t:=by
 have h1:=h.end
 obtain⟨_,B,r,h⟩:=h
 have u:=g6 List.length h
 rw[lr,Ex.dC]at u
 simp at u
 have:r=[]:=s4.1 cO
 subst this
 have h:l=t.flat:=dI
 exact⟨h,by rw[h];exact Vi B⟩
theorem Bw:∀n l t r,pt n l=some (t,r)->t.wf/\l=t.flat++r
 | 0,l,t,r,h=>by cases h
 | n+1,[],t,r,h=>by cases h
 | n+1,x::l,t,r,h=>by
  have h:(if kids x.op=0 then some (Ex.leaf x,l)else if kids x.op=1 then(match pt n l with|some p=>some (Ex.un x p.1,p.2)|none=>none)
   else if kids x.op=2 then(match pt n l with|some p=>(match pt n p.2 with|some q=>some (Ex.bin x p.1 q.1,q.2)|none=>none)|none=>none)else none)=some (t,r):=h
  split at h
  .rename_i hk;cases h;exact⟨hk,rfl⟩
  .split at h
   .rename_i hk
    cases ha:pt n l with
    | none=>grind
    | some p=>
     rw[ha]at h
     obtain⟨a,m⟩:=p
     cases h
     obtain⟨h1,rfl⟩:=Bw n l a _ ha
     exact⟨⟨hk,h1⟩,rfl⟩
   .split at h
    .rename_i hk
     cases ha:pt n l with
     | none=>grind
     | some p=>
      rw[ha]at h
      obtain⟨a,m⟩:=p
      simp only[]at h
      cases hb:pt n m with
      | none=>grind
      | some q=>
       rw[hb]at h
       obtain⟨b,u⟩:=q
       cases h
       obtain⟨h1,rfl⟩:=Bw n l a _ ha
       obtain⟨h2,rfl⟩:=Bw n m b _ hb
       exact⟨⟨hk,h1,h2⟩,by simp[Ex.flat]⟩
    .cases h
theorem vX{l:List cC}{t:Ex}(h:Ah l=some t):t.wf/\l=t.flat:=by
 unfold Ah at h
 cases hp:pt l.length l with
 | none=>grind
 | some p=>
  rw[hp]at h
  obtain⟨a,r⟩:=p
  simp only[]at h
  split at h
  .rename_i hr;cases h
   obtain⟨h1,h2⟩:=Bw _ _ _ _ hp
   grind
  .cases h
theorem Fy{l:List cC}:(Ah l).isSome=decide (qW l 0=l.length):=by
 by_cases h:qW l 0=l.length
 .obtain⟨t,ht⟩:=Cr.of (xs:=l) (i:=0) cO
  rw[(ht.zero h).2,ez h];rfl
 rw[fV h]
 cases he:Ah l with
 | none=>rfl
 | some t=>
  obtain⟨h1,rfl⟩:=vX he
  exact absurd (by have:=(show Cr t.flat 0 t from⟨cO,h1,[],ei⟩).end.1;rw[this,Ex.dC];omega) h
def lE(x:cC):Bool:=decide (x.at_<0\/4000<x.at_)||decide (¬ x.op=1/\¬ x.n=0)||decide (¬ x.op=2/\¬ x.name=⟨#[]⟩)||decide (x.n<0\/4294967296<x.n)||(decide (x.op=2)&&!gY x.name)
def Tf(l:List cC):Int:=match Ah l with|some t=>t.depth|none=>0
def fK(l:List cC):Bool:=decide (l.length<=40)&&(Ah l).isSome&&!l.any lE&&decide (Tf l<=12)
def CJ(ns:List ByteArray)(l:List cC):List oZ:=match Ah l with|some t=>t.steps ns|none=>[]
def lq(ns:List ByteArray)(l:List cC):Int:=if fK l=false then 8 else if l.any (λx=>decide (x.op=2)&&decide (dA ns x.name<0))then 9 else 0
def qZ(ns:List ByteArray)(l:List cC):List oZ:=if lq ns l=0 then CJ ns l else []
def Ai{l:List cC}(h:fK l=true):qW l 0=l.length:=by
 unfold fK at h
 rw[Fy]at h
 grind
theorem C252(lv:Value)(xs:List cC)(i:Int)(t:Ex)(N:Nat)(w:World)(G:dD (λ_=>True) w lv xs)(hn:xs.length<=1048576)(B:Cr xs i t)(hN:t.size<N):CR 252 [lv,hZ i] w (λv w'=>v=hZ t.depth/\Ext w w'):=by
 obtain⟨J,hq,U⟩:∃e,e=t.root/\xs[(i).toNat]?=some e:=⟨_,rfl,B.root.1⟩;have V:=B.root.2;have Z:=B.end;have W:=Ex.pI B.2.1;rw[<- hq]at W;have YI:=uF J.op;have O:=B.1;have u:=St.start w;refine adJ _ _ _ _ ?_;unfold S252;refine aO cO ?_;refine⟨λm n a x M=>∃k:Nat,n=hZ (D4 t.eJ k)/\a=hZ (i+1+qY t.eJ k)/\x=hZ (k:Int)/\m=t.eJ.length-k/\k<=t.eJ.length/\St w aX [] M,⟨_,0,rfl,g6 (nG .i64) (by simp[qY]),rfl,rfl,cO,u⟩,?_⟩;rintro m _ _ _ M ⟨k,rfl,rfl,rfl,rfl,hk,u⟩ _;have hdk:=Qo (ks:=t.eJ) (N:=(t.size:Int)) cO (λa ha=>by have:=(Ex.uG B.2.1 ha).2;have:=a.rZ;omega) k
 refine aQ il (G.ext u.aG) cO U (λ_ Y=>bX J.op fm Y rfl rfl λ_ ix=>aD bL ix (aW L5 u (C273 _ _) λ_ he u=>aR (aC (λky=>?_) λ_=>aO cO ⟨g6 (nG .i64) (by rw[t.MM,show k=t.eJ.length from cO]),u.aG⟩)));obtain⟨a,E⟩:=gx t.eJ (i:=k) cO;have hka:=Ex.uG B.2.1 (kE E);have I:=B.kid E;have W7:=I.end;have Vk:=a.rZ;exact aW XL u (C252 _ _ _ _ (N-1) _ (G.ext u.aG) hn I cO) (λ_ _ u=>En (aW L3 u (C251 _ _ _ (xs.length+1) _ (G.ext u.aG) cO cO cO) λ_ _ u=>aO cO ⟨_,cO,k+1,by rw[CI E],g6 (nG .i64) (by rw[W7.1,vh E];omega),rfl,rfl,cO,u⟩))
termination_by N
decreasing_by omega
def C200(lv:Value)(xs:List cC)(w:World)(E:dD (λ_=>True) w lv xs)(hn:xs.length<=1048576)(G:∀x∈xs,x.name.size<=1048576):CR 200 [lv] w (λv w'=>v=.bool (fK xs)/\Ext w w'):=by
 have u:=St.start w;refine fj Tryz.func200 ?_;refine⟨λO w'=>O=.bool (decide (40<xs.length)||decide (¬ qW xs 0=xs.length))/\St w aX [] w',aK il (E.ext u.aG) (cQ (aC (λ_=>⟨vb dI,u⟩) λ_=>aW L3 u (C251 _ _ _ (xs.length+1) _ (E.ext u.aG) cO cO cO) λ_ _ u=>aK il (E.ext u.aG) (bQ ⟨vb dI,u⟩))),?_⟩;rintro _ _ ⟨rfl,u⟩ _;refine bD (λW=>?_) (λW=>?_)
 .refine⟨vb ?_,u.aG⟩;unfold fK;rw[Fy]
  grind
 refine⟨λm x w1=>∃k:Nat,x=hZ (k:Int)/\m=xs.length-k/\k<=xs.length/\(∀y∈xs.take k,lE y=false)/\St w aX [] w1,⟨_,0,rfl,rfl,l0 _,ei,u⟩,?_⟩;rintro m _ _ ⟨k,rfl,rfl,hk,J,u⟩ _;refine aK il (E.ext u.aG) (aR (aC (λZ=>?_) λZ=>?_))
 .obtain⟨V,B⟩:=gx xs (i:=(k:Int).toNat) cO;refine aQ il (E.ext u.aG) cO B (λ_ q8=>aD sK q8 (aN u yL λQp _ u=>aJ (x:=V) u sK rfl rfl λ_ u=>⟨λO w'=>O=.bool (lE V)/\St w aX [] w',aA sL (aB bL u.hb rfl (aR (aC (λ_=>⟨vb (by unfold lE;grind),u.drop⟩) λlH=>aA sL (aB bL u.hb rfl (cQ (aC (λ_=>⟨vb (by unfold lE;grind),u.drop⟩) λmz=>?_)))))),?_⟩))
  .refine aA fm (aB bL u.hb rfl (bQ (aC (λDw=>aA ju (aB bL u.hb rfl (bQ (aC (λ_=>⟨vb (by unfold lE;grind),u.drop⟩) λxM=>aA fm (aB bL u.hb rfl (bQ (aC (λY=>aA gC (aB gK u.hb rfl (mn (aC (λ_=>⟨vb (by unfold lE;grind),u.drop⟩) λMO=>?_)))) λY=>?_))))))) λDw=>?_)))
   .refine aA ju (aB bL u.hb rfl (aR ?_));exact aC (λ_=>⟨vb (by unfold lE;grind),u.drop⟩) (λ_=>aA ju (aB bL u.hb rfl (cQ (aC (λ_=>⟨vb (by unfold lE;grind),u.drop⟩) λ_=>aA fm (aB bL u.hb rfl (aH (aC (λ_=>aA gC (aB gK u.hb rfl (aW uY u (C211 _ _ (G _ (kE B))) λ_ _ u=>bT ⟨vb (by unfold lE;grind),u.drop⟩))) λ_=>⟨vb (by unfold lE;grind),u.drop⟩)))))))
   .refine aA ju (aB bL u.hb rfl (aR ?_));exact aC (λ_=>⟨vb (by unfold lE;grind),u.drop⟩) (λ_=>aA ju (aB bL u.hb rfl (cQ (aC (λ_=>⟨vb (by unfold lE;grind),u.drop⟩) λ_=>aA fm (aB bL u.hb rfl (aH (aC (λ_=>aA gC (aB gK u.hb rfl (aW uY u (C211 _ _ (G _ (kE B))) λ_ _ u=>bT ⟨vb (by unfold lE;grind),u.drop⟩))) λ_=>⟨vb (by unfold lE;grind),u.drop⟩)))))))
   refine aA fm (aB bL u.hb rfl (bQ (aC (λU=>aA gC (aB gK u.hb rfl (mn (aC (λ_=>⟨vb (by unfold lE;grind),u.drop⟩) λava=>?_)))) λU=>?_)))
   .refine aA ju (aB bL u.hb rfl (aR ?_));exact aC (λ_=>⟨vb (by unfold lE;grind),u.drop⟩) (λ_=>aA ju (aB bL u.hb rfl (cQ (aC (λ_=>⟨vb (by unfold lE;grind),u.drop⟩) λ_=>aA fm (aB bL u.hb rfl (aH (aC (λ_=>aA gC (aB gK u.hb rfl (aW uY u (C211 _ _ (G _ (kE B))) λ_ _ u=>bT ⟨vb (by unfold lE;grind),u.drop⟩))) λ_=>⟨vb (by unfold lE;grind),u.drop⟩)))))))
   refine aA ju (aB bL u.hb rfl (aR ?_));exact aC (λ_=>⟨vb (by unfold lE;grind),u.drop⟩) (λ_=>aA ju (aB bL u.hb rfl (cQ (aC (λ_=>⟨vb (by unfold lE;grind),u.drop⟩) λ_=>aA fm (aB bL u.hb rfl (aH (aC (λ_=>aA gC (aB gK u.hb rfl (aW uY u (C211 _ _ (G _ (kE B))) λ_ _ u=>bT ⟨vb (by unfold lE;grind),u.drop⟩))) λ_=>⟨vb (by unfold lE;grind),u.drop⟩)))))))
  rintro _ _ ⟨rfl,u⟩ _;refine bD (λM=>?_) (λM=>aO cO ⟨_,cO,k+1,rfl,rfl,cO,eh J B M,u⟩);refine⟨vb ?_,u.aG⟩;unfold fK;rw[iw B M];simp
 have YL:qW xs 0=xs.length:=dI
 have I:xs.length<=40:=dI
 obtain⟨t,ht⟩:=Cr.of (xs:=xs) (i:=0) cO;have hz:=ht.zero YL;refine aW XL u (C252 _ _ _ t (t.size+1) _ (E.ext u.aG) hn ht cO) (λ_ he u=>gz ?_);rw[kO cO]at J;refine⟨vb ?_,u.aG⟩;unfold fK Tf;rw[iL J,hz.2];simp[I]
theorem C272(lv nv:Value)(xs:List cC)(ns:List ByteArray)(i:Int)(t:Ex)(N:Nat)(w:World)(G:dD (λ_=>True) w lv xs)(hN:dD (λ_=>True) w nv ns)(hn:xs.length<=1048576)(Cp:ns.length<=1048576)(E:Cr xs i t)(hNt:t.size<N):CR 272 [lv,hZ i,nv] w (λv w'=>kq (bE v (t.steps ns)) w w'):=by
 obtain⟨B,hq,I⟩:∃e,e=t.root/\xs[(i).toNat]?=some e:=⟨_,rfl,E.root.1⟩;have hri:=E.root.2;have hie:=E.end;have Qn:=Ex.pI E.2.1;rw[<- hq]at Qn;have YI:=uF B.op;have hi0:=E.1;have u:=St.start w;refine fj Tryz.func272 ?_;refine aV ([]:List oZ) u ue rfl rfl (dQ rfl) (λU w1 u=>aO cO ?_);refine⟨λm M a x w1=>∃k:Nat,a=hZ (i+1+qY t.eJ k)/\x=hZ (k:Int)/\m=t.eJ.length-k/\k<=t.eJ.length/\St w aX [bE M (YJ ns t.eJ k)] w1,⟨_,0,g6 (nG .i64) (by simp[qY]),rfl,rfl,cO,u⟩,?_⟩;rintro m M _ _ _ ⟨k,rfl,rfl,rfl,hk,u⟩ _
 refine aQ il (G.ext u.aG) cO I (λ_ ML=>bX B.op fm ML rfl rfl λ_ sU=>aD bL sU (aW L5 u (C273 _ _) λ_ he u=>aR (aC (λlg=>?_) λlg=>?_)))
 .obtain⟨a,J⟩:=gx t.eJ (i:=k) cO;have hka:=Ex.uG E.2.1 (kE J);have Y:=E.kid J;have W7:=Y.end;have Vk:=a.rZ;have Z:=Er (ns:=ns) (ks:=t.eJ) (k:=k);have Vl:=Ex.qp ns a;refine dV ahq u (C272 _ _ _ _ _ _ (N-1) _ (G.ext u.aG) (hN.ext u.aG) hn Cp Y cO) (λx28 _ cI u=>?_);have Qr:=u.dW;exact bI u.p1 ue Qr cO ee (λ_ _ u=>have u:=u.p1.drop;aW L3 u (C251 _ _ _ (xs.length+1) _ (G.ext u.aG) cO cO cO) λ_ _ u=>aO cO ⟨_,cO,k+1,g6 (nG .i64) (by rw[W7.1,vh J];omega),rfl,rfl,cO,by rw[MN J];exact u⟩)
 have Z:=Er (ns:=ns) (ks:=t.eJ) (k:=k);refine aQ il (G.ext u.aG) cO I (λ_ MP=>bX B.n ju MP rfl rfl λ_ Bx=>aD bL Bx ⟨λjv w'=>jv=hZ (Ex.numOf ns B)/\St w aX [bE M (YJ ns t.eJ k)] w',aQ il (G.ext u.aG) cO I (λ_ YM=>bX B.op fm YM rfl rfl λ_ O=>aD bL O (aH (aC (λ_=>aQ il (G.ext u.aG) cO I λ_ By=>bX B.name gC By rfl rfl λ_ MQ=>aD gK MQ (aW sD u (C123 _ ns _ _ (hN.ext u.aG) cO) λ_ _ u=>⟨g6 (nG .i64) (by grind[Ex.numOf]),u⟩)) λ_=>⟨g6 (nG .i64) (by grind[Ex.numOf]),u⟩))),?_⟩)
 rintro _ _ ⟨rfl,u⟩ _;refine aQ il (G.ext u.aG) cO I (λ_ YN=>bX B.op fm YN rfl rfl λ_ Bs=>aD bL Bs (pop (Fe _ _) (aV ([(⟨B.op,(Ex.numOf ns B)⟩:oZ)]) u ue rfl rfl (dQ rfl) λap3 _ u=>?_)));have V:=u.dW;refine bI u.p1 ue V (by rw[Z,l2];have:(t.steps ns).length=t.size:=Ex.qp ns t;rw[Ex.vW,lr,l2,<- show k=t.eJ.length from cO]at this;omega) ee (λW _ u=>?_);have u:=u.p1.drop;rw[Ex.vW,<- show k=t.eJ.length from cO,<- hq];exact u.fresh
termination_by N
decreasing_by omega
def C220(lv nv:Value)(xs:List cC)(ns:List ByteArray)(w:World)(B:dD (λ_=>True) w lv xs)(Y:dD (λ_=>True) w nv ns)(hn:xs.length<=1048576)(Cp:ns.length<=1048576)(Tg:∀x∈xs,x.name.size<=1048576):CR 220 [lv,nv] w (λv w'=>∃s,v=.tuple #[s,hZ (lq ns xs)]/\kq (bE s (qZ ns xs)) w w'):=by
 have u:=St.start w;refine adG _ _ _ _ ?_;unfold S220;refine aW LZ u (C200 _ _ _ (B.ext u.aG) hn Tg) (λw1 he u=>bT (bD (λE=>?_) λE=>?_))
 .have Z:lq ns xs=8:=by unfold lq;rw[ew (by simpa using E)]
  refine⟨_,by rw[Z],?_⟩;unfold qZ;rw[Z,ej ee];exact(u.eK (α:=oZ)).fresh
 refine⟨λm x w1=>∃k:Nat,x=hZ (k:Int)/\m=xs.length-k/\k<=xs.length/\(∀y∈xs.take k,(decide (y.op=2)&&decide (dA ns y.name<0))=false)/\St w aX [] w1,⟨_,0,rfl,rfl,l0 _,ei,u⟩,?_⟩;rintro m _ _ ⟨k,rfl,rfl,hk,M,u⟩ _;refine aK il (B.ext u.aG) (aR (aC (λxL=>?_) λxL=>?_))
 .obtain⟨I,G⟩:=gx xs (i:=(k:Int).toNat) cO;refine⟨λjv w'=>jv=.bool (decide (I.op=2)&&decide (dA ns I.name<0))/\St w aX [] w',aQ il (B.ext u.aG) cO G (λ_ sU=>bX I.op fm sU rfl rfl λ_ l8=>aD bL l8 (aH (aC (λ_=>aQ il (B.ext u.aG) cO G λ_ xN=>bX I.name gC xN rfl rfl λ_ sW=>aD gK sW (aW sD u (C123 _ ns _ _ (Y.ext u.aG) cO) λ_ _ u=>aR ⟨vb dI,u⟩)) λ_=>⟨vb dI,u⟩))),?_⟩;rintro _ _ ⟨rfl,u⟩ _;refine bD (λO=>?_) (λO=>aO cO ⟨_,cO,k+1,rfl,rfl,cO,eh M G O,u⟩)
  have W:lq ns xs=9:=by unfold lq;rw[ej (by simpa using E),ew (iw G O)]
  refine⟨_,by rw[W],?_⟩;unfold qZ;rw[W,ej ee];exact(u.eK (α:=oZ)).fresh
 have U:fK xs=true:=by simpa using E
 have YL:=Ai U;obtain⟨t,ht⟩:=Cr.of (xs:=xs) (i:=0) cO;have hz:=ht.zero YL;refine dV ahq u (C272 _ _ _ _ _ t (t.size+1) _ (B.ext u.aG) (Y.ext u.aG) hn Cp ht cO) (λJ _ cI u=>?_);rw[kO cO]at M;have V:lq ns xs=0:=by unfold lq;rw[ej (by simpa using E),ej (by rw[iL M];simp)]
 refine⟨J,by rw[V],?_⟩;unfold qZ CJ;rw[ew V,hz.2];exact u.fresh
end Go.Proofs.YtpdlpabnlkofmaaGreatDoor

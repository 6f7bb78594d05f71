/-
  Part 2.
-/
import Derived.Test.YtpdlpabnlkofmaaGreatDoorR3x1
set_option maxHeartbeats 8000000
set_option linter.all false
set_option maxRecDepth 100000
open Go.Fw.Flat renaming val->jr,enc->kp,sz->nk,len->AQ,agg->Kz,one->aaC,pos->aaD,nU->ab0
open List renaming getElem?_eq_some_iff->kE,mem_of_getElem?->kO,take_of_length_le->la,getElem?_eq_getElem->lU,length_append->l0,length_take->l9,length_singleton->nh,append_assoc->n4,getD_eq_getElem?_getD->oi,replicate->oz,length_cons->o5,append_nil->qb,take_append_drop->qT,length_drop->sJ,getElem?_append_left->uc,drop_drop->u3,drop_eq_nil_of_le->u6,drop_eq_getElem_cons->vl,length_eq_zero_iff->vq,map_append->vG,mem_singleton->vS,take_add_one->v7,mem_of_mem_take->x7,getElem?_cons_succ->Dp,foldl_append->Gg,eraseIdx_eq_take_drop_succ->Hm,length_set->Jc,map_map->Jz,getElem?_drop->KB,getElem_cons_drop->Nz,toArray->P4,length_flatten->aaa
open Nat renaming zero_le->l2,le_refl->sl,le_trans->vJ,zero_add->xp,min_eq_left->GF,add_assoc->Pt,add_zero->P1,mod_lt->abW,mod_le->acb
open Option renaming bind_some->mv,some->ob,bind_eq_some_iff->PW
open Go.Instr renaming build->mE,sliceAt->oa,index->wk,sliceBounds->wN,loadAt->z9,fieldAt->H4,indexAt->H5,storeAt->LS,buildSlice->ML,slice->Qu
open Go.Value renaming int->n3,bool->x6,slice->Be,tuple->G3,string->IF,okWide->P2
open Bool renaming and_eq_true->oj,false_eq_true->PO
open Decidable renaming not_not->A0
open Int renaming tmod_nonneg->Rp,natAbs_tmod->X6,natAbs_tdiv->abN,neg_tmod->ab1,le_total->ab2
open Go.World renaming cells?_some->aaG
namespace Go.Fw
section
variable {P:Program}{w w0:World}{A S:Nat->Prop}{L:List HP}
theorem bE{T:TypeId}{b o:Nat}{v:Value}{K:Value->Prop}(ht:W5 P T)(hb:Cell w b o v)(k:K v) :
  GL P (z9 T (.pointer (some ⟨b,o,none⟩))) w K:=⟨v,aH ht hb,k⟩
theorem cP{α:Type}[Flat α]{T:TypeId}{x:α}{K:Value->hM}(u:St w0 A L w)
  (k:∀b w',St w0 A (bX b (kp x)::L) w'->K (.pointer (some ⟨b,0,none⟩)) w'):qM P (Instr.box T (jr x)) w K:=by
 refine⟨_,_,Ja T _,k _ _ ?_⟩
 rw[pF]
 exact u.push
theorem R3{T:Nat}{cx cy:Bool}{a b:Int}{K:Value->Prop}(u:0<=a)(hb:0<b)(k:K (ir (a % b))):eK P (jQ .rem T cx cy (ir a) (ir b)) K:=by
 refine⟨_,?_,k⟩
 show pr P (Op.intDiv .rem .i64 a b)=_
 unfold Op.intDiv
 rw[ei bL]
 show some (n3 .i64 (a.tmod b))=_
 grind
def rP(a b:Int):Int:=((BitVec.ofInt 64 a &&& BitVec.ofInt 64 b).toNat:Int)
theorem zx(a:Int){b:Int}(u:0<=b)(h1:b<=9223372036854775807):0<=rP a b/\rP a b<=b:=by
 unfold rP
 refine⟨bL,?_⟩
 have h2:(BitVec.ofInt 64 a &&& BitVec.ofInt 64 b).toNat<=(BitVec.ofInt 64 b).toNat:=by
  rw[BitVec.toNat_and];exact Nat.and_le_right
 have h3:((BitVec.ofInt 64 b).toNat:Int)=b:=by
  rw[BitVec.toNat_ofInt]
  omega
 omega
theorem R4{T:Nat}{cx cy:Bool}{a b:Int}{K:Value->Prop}(u:0<=b)(h1:b<=9223372036854775807)(k:K (ir (rP a b))):eK P (jQ .and T cx cy (ir a) (ir b)) K:=by
 refine⟨_,?_,k⟩
 show some (n3 .i64 (IntKind.i64.wrap ((BitVec.ofInt 64 a &&& BitVec.ofInt 64 b).toNat:Int)))=_
 have:=zx a u h1
 unfold rP at this |-
 rw[IntWalk.i64_in _ bL]
theorem GU{T:Nat}{a b:Bool}(h:P.underlying T=some .bool):pr P (Op.equal T (.bool a) (.bool b))=some (a == b):=by
 show pr P (Op.equalIn 10000 T (.bool a) (.bool b))=_
 unfold Op.equalIn
 rw[cI,cJ h]
 rfl
theorem mh{T:Nat}{cx cy:Bool}{a b:Bool}{K:Value->Prop}(h:P.underlying T=some .bool)(k:K (.bool (a != b))):eK P (jQ .neq T cx cy (.bool a) (.bool b)) K:=by
 refine⟨_,?_,k⟩
 show pr P (do pure (x6 (!(<- Op.equal T (.bool a) (.bool b)))))=_
 rw[vr _ (λb=>x6 (!b)),GU h];rfl
theorem Je{T e:Nat}{p:Option Addr}(h:P.underlying T=some (.pointer e)):pr P (Op.equal T (.pointer p) (.pointer none))=some p.isNone:=by
 show pr P (Op.equalIn 10000 T (.pointer p) (.pointer none))=_
 unfold Op.equalIn
 rw[cI,cJ h]
 cases p<;>rfl
theorem ny{T e:Nat}{cx cy:Bool}{p:Option Addr}{K:Value->Prop}(h:P.underlying T=some (.pointer e))(k:K (.bool p.isNone)):eK P (jQ .eql T cx cy (.pointer p) (.pointer none)) K:=by
 refine⟨_,?_,k⟩
 show pr P (do pure (x6 (<- Op.equal T (.pointer p) (.pointer none))))=_
 rw[vr,Je h];rfl
theorem GV{T e:Nat}{a:Option Addr}{n c:Nat}(h:P.underlying T=some (.slice e))(u:a=none->n=0/\c=0):pr P (Op.equal T (.slice a n c) (.slice none 0 0))=some a.isNone:=by
 show pr P (Op.equalIn 10000 T (.slice a n c) (.slice none 0 0))=_
 unfold Op.equalIn
 rw[cI,cJ h]
 cases a<;>rfl
theorem W8{T e:Nat}{cx cy:Bool}{a:Option Addr}{n c:Nat}{K:Value->Prop}(h:P.underlying T=some (.slice e))(u:a=none->n=0/\c=0)(k:K (.bool a.isNone)):eK P (jQ .eql T cx cy (.slice a n c) (.slice none 0 0)) K:=by
 refine⟨_,?_,k⟩
 show pr P (do pure (x6 (<- Op.equal T (.slice a n c) (.slice none 0 0))))=_
 rw[vr,GV h u];rfl
def nW:TypeDesc->Option Nat
 | .int .i64=>some 0
 | .bool=>some 1
 | .string=>some 2
 | _=>none
def oh:Value->Option Nat
 | .int .i64 _=>some 0
 | .bool _=>some 1
 | .string _=>some 2
 | _=>none
def eqV:Value->Value->Bool
 | .int _ a,.int _ b=>decide (a=b)
 | .bool a,.bool b=>a == b
 | .string a,.string b=>a == b
 | _,_=>false
def rQ:List Value->List Value->Bool
 | a::x,b::y=>eqV a b&&rQ x y
 | _,_=>true
def om(P:Program):Nat->List Field->Option (List Nat)
 | _,[]=>some []
 | k,f::fs=>
  if f.name ≠ "_" /\ f.offset=k then
   match P.underlying f.type with
   | some d=>match nW d,om P (k+1) fs with
    | some n,some r=>some (n::r)
    | _,_=>none
   | none=>none
  else none
def vt(P:Program)(T:TypeId):Option (List Nat):=
 match P.underlying T with
 | some (.struct u)=>if P.stoodInHeld T=false/\P.eqGuardType P.depth T=false then om P 0 u.toList else none
 | _=>none
def OZ(d:Nat)(xs ys:Array Value):List Field->Sem Bool
 | []=>pure true
 | f::r => if f.name ≠ "_" then do
   let same <- Op.equalIn d f.type (<- part f.type xs f.offset) (<- part f.type ys f.offset)
   if (!same)=true then pure false else OZ d xs ys r
  else OZ d xs ys r
theorem Dj{T:TypeId}{d:TypeDesc}{n:Nat}(h:P.underlying T=some d)(u:nW d=some n):pr P (isAgg T)=some false:=by
 unfold isAgg
 rw[cI,cJ h]
 cases d<;>simp[nW]at u<;>rfl
theorem Jf{T:TypeId}{d:TypeDesc}{n o:Nat}{cs:Array Value}{v:Value}(h:P.underlying T=some d)(B:nW d=some n)(u:cs[o]?=some v):pr P (part T cs o)=some v:=by
 unfold part
 rw[cI,Dj h B]
 simp only[mv,PO,if_false,u]
 rfl
theorem CT{k:Nat}{T:TypeId}{d:TypeDesc}{n:Nat}{a b:Value}(h:P.underlying T=some d)(B:nW d=some n)(u:oh a=some n)(hb:oh b=some n) :
  pr P (Op.equalIn (k+1) T a b)=some (eqV a b):=by
 unfold Op.equalIn
 rw[cI,cJ h]
 simp only[mv]
 cases d<;>simp only[nW]at B<;>try(cases B;done)
 case int kd=>
  cases kd<;>simp at B
  subst B
  cases a<;>simp only[oh]at u<;>try(cases u;done)
  rename_i ka na
  cases b<;>simp only[oh]at hb<;>try(cases hb;done)
  rename_i kb nb
  cases ka<;>simp at u
  cases kb<;>simp at hb
  rfl
 case bool=>
  cases B
  cases a<;>simp only[oh]at u<;>first|(rename_i ka na;cases ka<;>simp at u)|skip
  all_goals try(simp at u;done)
  cases b<;>simp only[oh]at hb<;>first|(rename_i kb nb;cases kb<;>simp at hb)|skip
  all_goals try(simp at hb;done)
  rfl
 case string=>
  cases B
  cases a<;>simp only[oh]at u<;>first|(rename_i ka na;cases ka<;>simp at u)|skip
  all_goals try(simp at u;done)
  cases b<;>simp only[oh]at hb<;>first|(rename_i kb nb;cases kb<;>simp at hb)|skip
  all_goals try(simp at hb;done)
  rfl
theorem Lu{k:Nat}{xs ys:List Value}:∀(u:List Field) (i:Nat) (ks:List Nat),om P i u=some ks->(∀j n,ks[j]?=some n->∃a b,xs[i+j]?=some a/\ys[i+j]?=some b/\oh a=some n/\oh b=some n)->
  pr P (OZ (k+1) xs.toArray ys.toArray u)=some (rQ ((xs.drop i).take ks.length) ((ys.drop i).take ks.length)):=by
 intro u
 induction u with
 | nil=>intro i ks h _;simp only[om,ob.injEq]at h;subst h;simp[OZ,rQ];rfl
 | cons f u J=>
  intro i ks h I
  unfold om at h
  split at h
  .rename_i hf
   cases hu:P.underlying f.type with
   | none=>grind
   | some d=>
    rw[hu]at h
    dsimp only at h
    cases hd:nW d with
    | none=>grind
    | some n=>
     rw[hd]at h
     cases hr:om P (i+1) u with
     | none=>grind
     | some r=>
      rw[hr]at h
      simp only[ob.injEq]at h
      subst h
      obtain⟨a,b,B,hb,O,M⟩:=I 0 n rfl
      rw[P1]at B hb
      have G:xs.drop i=a::xs.drop (i+1):=by
       rw[<- Nz (kE.1 B).1,(kE.1 B).2]
      have E:ys.drop i=b::ys.drop (i+1):=by
       rw[<- Nz (kE.1 hb).1,(kE.1 hb).2]
      have U:=J (i+1) r hr λj m Y=>by
       obtain⟨V,W,h1,h2,h3,h4⟩:=I (j+1) m cD
       grind
      unfold OZ
      rw[ej hf.1,cI,Jf hu hd (v:=a) cD]
      simp only[mv]
      rw[cI,Jf hu hd (v:=b) cD]
      simp only[mv]
      rw[cI,CT hu hd O M]
      simp only[mv,o5,G,E,List.take_succ_cons,rQ]
      cases he:eqV a b with
      | false=>rfl
      | true=>grind
  .cases h
theorem Av{d:Nat}{t:TypeId}{B:Array Field}{xs ys:Array Value}(ht:P.underlying t=some (.struct B))(E:P.stoodInHeld t=false) :
  pr P (Op.equalIn (d+1) t (.agg xs) (.agg ys))=pr P (OZ d xs ys B.toList):=by
 unfold Op.equalIn
 rw[cI,cJ ht]
 simp only[mv,cI]
 rw[show pr P program=some P from rfl]
 simp only[mv,E,PO,if_false]
 rw[<- Array.forIn_toList]
 generalize B.toList=l
 clear ht
 induction l with
 | nil=>rfl
 | cons f l u=>
  rw[cI]at u
  simp only[List.forIn_cons,OZ,cI]
  split
  .simp only[cI]
   cases pr P (part f.type xs f.offset)with
   | none=>rfl
   | some a=>
    simp only[mv]
    cases pr P (part f.type ys f.offset)with
    | none=>rfl
    | some b=>
     simp only[mv]
     cases pr P (Op.equalIn d f.type a b)with
     | none=>rfl
     | some r=>
      cases r
      .rfl
      .simp only[mv,Bool.not_true,PO,if_false,eS]
       exact u
  .simp only[eS,mv]
   exact u
theorem Aw{T:TypeId}{ks:List Nat}{xs ys:List Value}(h:vt P T=some ks)(B:xs.map oh=ks.map some)(u:ys.map oh=ks.map some) :
  pr P (Op.equal T (.agg xs.toArray) (.agg ys.toArray))=some (rQ xs ys)/\P.eqGuardType P.depth T=false:=by
 unfold vt at h
 split at h
 .rename_i fs hfs
  split at h
  .rename_i hc
   refine⟨?_,hc.2⟩
   show pr P (Op.equalIn 10000 T _ _)=_
   rw[Av hfs hc.1]
   have E:xs.length=ks.length:=by have:=gL List.length B;grind
   have G:ys.length=ks.length:=by have:=gL List.length u;grind
   rw[Lu (xs:=xs) (ys:=ys) fs.toList 0 ks h λj n I=>?_]
   .grind
   have J:j<ks.length:=(kE.1 I).1
   refine⟨xs[j]'(bL),ys[j]'(bL),ee,ee,?_,?_⟩
   .have:=gL (λl=>l[j]?) B
    grind
   have:=gL (λl=>l[j]?) u
   grind
  cases h
 cases h
theorem Un{T:Nat}{cx cy:Bool}{ks:List Nat}{xs ys:List Value}{K:Value->Prop}(h:vt P T=some ks)(B:xs.map oh=ks.map some)(u:ys.map oh=ks.map some)(k:K (.bool (rQ xs ys))) :
  eK P (jQ .eql T cx cy (.agg xs.toArray) (.agg ys.toArray)) K:=by
 obtain⟨h1,h2⟩:=Aw h B u
 refine⟨_,?_,k⟩
 show pr P (if P.eqGuardType P.depth T=true then stuck "an interface in a part" else(do pure (x6 (<- Op.equal T (.agg xs.toArray) (.agg ys.toArray))) : Sem Value))=_
 rw[h2,ei ee,vr,h1];rfl
theorem Uo{T:Nat}{cx cy:Bool}{ks:List Nat}{xs ys:List Value}{K:Value->Prop}(h:vt P T=some ks)(B:xs.map oh=ks.map some)(u:ys.map oh=ks.map some)(k:K (.bool (!rQ xs ys))) :
  eK P (jQ .neq T cx cy (.agg xs.toArray) (.agg ys.toArray)) K:=by
 obtain⟨h1,h2⟩:=Aw h B u
 refine⟨_,?_,k⟩
 show pr P (if P.eqGuardType P.depth T=true then stuck "an interface in a part" else(do pure (x6 (!(<- Op.equal T (.agg xs.toArray) (.agg ys.toArray)))) : Sem Value))=_
 rw[h2,ei ee,vr _ (λb=>x6 (!b)),h1];rfl
theorem oo{T:Nat}{cx cy:Bool}{ks:List Nat}{xs ys:List Value}{K:Value->Prop}{p:Prop}[Decidable p](h:vt P T=some ks)(E:xs.map oh=ks.map some)(u:ys.map oh=ks.map some)
  (B:rQ xs ys=decide p) (k:K (.bool (decide p))):eK P (jQ .eql T cx cy (.agg xs.toArray) (.agg ys.toArray)) K:=Un h E u (B▸k)
theorem Hv{T:Nat}{cx cy:Bool}{ks:List Nat}{xs ys:List Value}{K:Value->Prop}{p:Prop}[Decidable p](h:vt P T=some ks)(B:xs.map oh=ks.map some)(u:ys.map oh=ks.map some)
  (E:rQ xs ys=decide p) (k:K (.bool (decide (¬ p)))):eK P (jQ .neq T cx cy (.agg xs.toArray) (.agg ys.toArray)) K:=Uo h B u cD
end
end Go.Fw
namespace Go.Proofs.YtpdlpabnlkofmaaGreatDoor
open Go.Fw
def bO:cY hH 3=some (false,1):=by kernel_rfl
def tB:eg hH 3=some (some (ir 0)):=by kernel_rfl
def EA:Tryz.prog.underlying 3=some (.int .i64):=by kernel_rfl
def DH:cY hH 4=some (false,1):=by kernel_rfl
def R5:eg hH 4=some (some (.bool false)):=by kernel_rfl
def EB:Tryz.prog.underlying 4=some (.bool):=by kernel_rfl
def awD:Tryz.prog.underlying 5=some (.int .u8):=by kernel_rfl
def gv:cY hH 9=some (false,1):=by kernel_rfl
def agF:eg hH 9=some (some (.string ⟨#[]⟩)):=by kernel_rfl
def hG:Tryz.prog.underlying 9=some (.string):=by kernel_rfl
def oH:cY hH 22=some (false,1):=by kernel_rfl
def pG:eM hH 22=some (23,1,24,some 1):=by kernel_rfl
def jD:cY hH 23=some (false,1):=by kernel_rfl
def ic:eM hH 23=some (161,3,32,some 3):=by kernel_rfl
def iq:cY hH 24=some (false,1):=by kernel_rfl
def fu:eM hH 24=some (146,4,72,some 4):=by kernel_rfl
def qN:cY hH 25=some (false,1):=by kernel_rfl
def tf:eM hH 25=some (85,2,32,some 2):=by kernel_rfl
def fp:cY hH 27=some (true,6):=by kernel_rfl
def gw:aS hH 27 0=some (0,some true):=by kernel_rfl
def pY:aS hH 27 1=some (1,some true):=by kernel_rfl
def nO:aS hH 27 2=some (2,some true):=by kernel_rfl
def kD:aS hH 27 3=some (3,some true):=by kernel_rfl
def oI:aS hH 27 4=some (4,some true):=by kernel_rfl
def jn:aS hH 27 5=some (5,some true):=by kernel_rfl
def vu:eg hH 27=some (some (.agg [.slice none 0 0,.slice none 0 0,.slice none 0 0,.slice none 0 0,.slice none 0 0,.slice none 0 0].toArray)):=by kernel_rfl
def aiM:eM hH 28=some (53,6,64,some 6):=by kernel_rfl
def EC:Tryz.prog.underlying 30=some (.pointer 96):=by kernel_rfl
def jE:cY hH 31=some (false,1):=by kernel_rfl
def aiN:eg hH 31=some (some (ir 0)):=by kernel_rfl
def W9:Tryz.prog.underlying 34=some (.pointer 44):=by kernel_rfl
def kB:eM hH 39=some (50,4,48,some 4):=by kernel_rfl
def Ax:cY hH 40=some (false,1):=by kernel_rfl
def dX:cY hH 41=some (false,1):=by kernel_rfl
def cQ:eM hH 41=some (3,1,8,some 1):=by kernel_rfl
def aiO:eg hH 41=some (some (.slice none 0 0)):=by kernel_rfl
def Ay:cY hH 42=some (false,1):=by kernel_rfl
def B4:eM hH 42=some (129,1,8,some 1):=by kernel_rfl
def pZ:aS hH 44 0=some (0,some true):=by kernel_rfl
def R6:aS hH 44 1=some (6,some true):=by kernel_rfl
def Az:aS hH 44 2=some (7,some true):=by kernel_rfl
def oJ:aS hH 44 3=some (8,some true):=by kernel_rfl
def vv:aS hH 44 4=some (9,some true):=by kernel_rfl
def lY:aS hH 44 5=some (10,some true):=by kernel_rfl
def vw:aS hH 44 6=some (11,some true):=by kernel_rfl
def R7:aS hH 44 7=some (12,some true):=by kernel_rfl
def oB:cY hH 50=some (true,4):=by kernel_rfl
def qc:aS hH 50 0=some (0,some true):=by kernel_rfl
def lz:aS hH 50 1=some (1,some true):=by kernel_rfl
def qd:aS hH 50 2=some (2,some true):=by kernel_rfl
def nP:aS hH 50 3=some (3,some true):=by kernel_rfl
def zy:eg hH 50=some (some (.agg [ir 0,ir 0,ir 0,.slice none 0 0].toArray)):=by kernel_rfl
def Up:cY hH 53=some (true,6):=by kernel_rfl
def Jg:aS hH 53 0=some (0,some true):=by kernel_rfl
def ac0:aS hH 53 1=some (1,some true):=by kernel_rfl
def Jh:aS hH 53 2=some (2,some true):=by kernel_rfl
def eQ:cY hH 56=some (true,5):=by kernel_rfl
def ac1:aS hH 56 0=some (0,some true):=by kernel_rfl
def R8:aS hH 56 1=some (1,some true):=by kernel_rfl
def kf:eg hH 56=some (some (.agg [ir 0,ir 0,ir 0,ir 0,ir 0].toArray)):=by kernel_rfl
def jo:cY hH 82=some (false,1):=by kernel_rfl
def gU:eM hH 82=some (164,4,40,some 4):=by kernel_rfl
def Ji:cY hH 85=some (true,2):=by kernel_rfl
def vx:aS hH 85 0=some (0,some true):=by kernel_rfl
def Jj:aS hH 85 1=some (1,some true):=by kernel_rfl
def O0:eg hH 85=some (some (.agg [.slice none 0 0,ir 0].toArray)):=by kernel_rfl
def yG:cY hH 88=some (false,1):=by kernel_rfl
def je:cY hH 91=some (false,1):=by kernel_rfl
def iu:eM hH 91=some (9,1,16,some 1):=by kernel_rfl
def aiP:eg hH 91=some (some (.slice none 0 0)):=by kernel_rfl
def Dk:cY hH 93=some (false,1):=by kernel_rfl
def zz:cY hH 94=some (false,1):=by kernel_rfl
def AA:eM hH 94=some (135,1,8,some 1):=by kernel_rfl
def aoR:cY hH 96=some (true,15):=by kernel_rfl
def DI:aS hH 96 0=some (0,some true):=by kernel_rfl
def Jk:aS hH 96 1=some (6,some true):=by kernel_rfl
def Jl:aS hH 96 2=some (7,some true):=by kernel_rfl
def ac2:aS hH 96 3=some (8,some true):=by kernel_rfl
def nQ:aS hH 96 4=some (9,some true):=by kernel_rfl
def rh:aS hH 96 5=some (10,some true):=by kernel_rfl
def mS:aS hH 96 6=some (11,some true):=by kernel_rfl
def Jm:aS hH 96 7=some (12,some true):=by kernel_rfl
def vy:aS hH 96 8=some (13,some true):=by kernel_rfl
def R9:aS hH 96 9=some (14,some true):=by kernel_rfl
def aiQ:eg hH 96=some (some (.agg [.slice none 0 0,.slice none 0 0,.slice none 0 0,.slice none 0 0,.slice none 0 0,.slice none 0 0,.slice none 0 0,.slice none 0 0,ir 0,.pointer none,.slice none 0 0,.slice none 0 0,ir 0,ir 0,ir 0].toArray)):=by kernel_rfl
def yQ:cY hH 103=some (false,1):=by kernel_rfl
def yR:cY hH 114=some (true,5):=by kernel_rfl
def wU:aS hH 114 3=some (3,some true):=by kernel_rfl
def uE:aS hH 114 4=some (4,some true):=by kernel_rfl
def AB:eg hH 114=some (some (.agg [ir 0,ir 0,ir 0,.bool false,.bool false].toArray)):=by kernel_rfl
def rR:eM hH 117=some (4,1,1,some 1):=by kernel_rfl
def tC:cY hH 120=some (false,1):=by kernel_rfl
def tD:eM hH 120=some (125,3,24,some 3):=by kernel_rfl
def uF:aS hH 122 0=some (0,some true):=by kernel_rfl
def Xa:aS hH 122 1=some (1,some true):=by kernel_rfl
def rS:aS hH 122 2=some (2,some true):=by kernel_rfl
def wV:aS hH 122 3=some (3,some true):=by kernel_rfl
def kI:aS hH 122 4=some (4,some true):=by kernel_rfl
def Xb:cY hH 125=some (true,3):=by kernel_rfl
def wW:aS hH 125 0=some (0,some true):=by kernel_rfl
def Lv:aS hH 125 1=some (1,some true):=by kernel_rfl
def Lw:aS hH 125 2=some (2,some true):=by kernel_rfl
def ac3:eg hH 125=some (some (.agg [ir 0,ir 0,ir 0].toArray)):=by kernel_rfl
def ld:eM hH 126=some (41,1,24,some 1):=by kernel_rfl
def CU:cY hH 129=some (false,1):=by kernel_rfl
def rT:cY hH 130=some (false,1):=by kernel_rfl
def mi:eM hH 130=some (218,12,176,some 12):=by kernel_rfl
def jF:aS hH 132 0=some (0,some true):=by kernel_rfl
def Lx:aS hH 132 1=some (1,some true):=by kernel_rfl
def Ly:aS hH 132 2=some (2,some true):=by kernel_rfl
def nz:aS hH 132 3=some (3,some true):=by kernel_rfl
def wX:aS hH 132 4=some (4,some true):=by kernel_rfl
def CV:cY hH 135=some (false,1):=by kernel_rfl
def oK:cY hH 136=some (false,1):=by kernel_rfl
def rU:eM hH 136=some (143,2,32,some 2):=by kernel_rfl
def agG:cY hH 138=some (true,5):=by kernel_rfl
def mj:aS hH 138 0=some (0,some true):=by kernel_rfl
def AD:aS hH 138 1=some (1,some true):=by kernel_rfl
def uG:aS hH 138 2=some (2,some true):=by kernel_rfl
def iU:aS hH 138 3=some (3,some true):=by kernel_rfl
def wY:aS hH 138 4=some (4,some true):=by kernel_rfl
def ac4:eg hH 138=some (some (.agg [.pointer none,.slice none 0 0,.slice none 0 0,.slice none 0 0,ir 0].toArray)):=by kernel_rfl
def jG:cY hH 141=some (false,1):=by kernel_rfl
def fk:eM hH 141=some (193,9,120,some 9):=by kernel_rfl
def Lz:aS hH 143 0=some (0,some true):=by kernel_rfl
def Xc:aS hH 143 1=some (1,some true):=by kernel_rfl
def m6:cY hH 146=some (true,4):=by kernel_rfl
def qn:aS hH 146 0=some (0,some true):=by kernel_rfl
def fS:aS hH 146 1=some (1,some true):=by kernel_rfl
def lG:aS hH 146 2=some (2,some true):=by kernel_rfl
def qo:aS hH 146 3=some (3,some true):=by kernel_rfl
def tE:eg hH 146=some (some (.agg [.string ⟨#[]⟩,.slice none 0 0,.slice none 0 0,ir 0].toArray)):=by kernel_rfl
def lZ:cY hH 161=some (true,3):=by kernel_rfl
def kJ:aS hH 161 0=some (0,some true):=by kernel_rfl
def rV:aS hH 161 1=some (1,some true):=by kernel_rfl
def uH:aS hH 161 2=some (2,some true):=by kernel_rfl
def oL:eg hH 161=some (some (.agg [.string ⟨#[]⟩,ir 0,ir 0].toArray)):=by kernel_rfl
def rW:cY hH 164=some (true,4):=by kernel_rfl
def eX:aS hH 164 0=some (0,some true):=by kernel_rfl
def ji:aS hH 164 1=some (1,some true):=by kernel_rfl
def gj:aS hH 164 2=some (2,some true):=by kernel_rfl
def rX:aS hH 164 3=some (3,some true):=by kernel_rfl
def yg:eg hH 164=some (some (.agg [ir 0,ir 0,.string ⟨#[]⟩,ir 0].toArray)):=by kernel_rfl
def Hw:cY hH 165=some (false,1):=by kernel_rfl
def Sa:eg hH 165=some (some (.map none)):=by kernel_rfl
def aoS:cY hH 177=some (true,3):=by kernel_rfl
def Xd:aS hH 177 0=some (0,some true):=by kernel_rfl
def Xe:aS hH 177 1=some (1,some true):=by kernel_rfl
def Xf:aS hH 177 2=some (2,some true):=by kernel_rfl
def ac5:eg hH 177=some (some (.agg [.string ⟨#[]⟩,ir 0,.slice none 0 0].toArray)):=by kernel_rfl
def iK:cY hH 179=some (false,1):=by kernel_rfl
theorem fT:eM hH 179=some (231,4,32,some 4):=by kernel_rfl
def LA:aS hH 181 0=some (0,some true):=by kernel_rfl
def kK:aS hH 181 1=some (1,some true):=by kernel_rfl
def tF:cY hH 185=some (false,1):=by kernel_rfl
def uI:aS hH 187 0=some (0,some true):=by kernel_rfl
def LB:aS hH 187 1=some (1,some true):=by kernel_rfl
def rY:aS hH 187 2=some (2,some true):=by kernel_rfl
def AE:aS hH 187 3=some (3,some true):=by kernel_rfl
def nA:aS hH 187 4=some (4,some true):=by kernel_rfl
def eD:cY hH 193=some (true,9):=by kernel_rfl
def dN:aS hH 193 0=some (0,some true):=by kernel_rfl
def iC:aS hH 193 1=some (1,some true):=by kernel_rfl
def fY:aS hH 193 2=some (2,some true):=by kernel_rfl
def iV:aS hH 193 3=some (3,some true):=by kernel_rfl
def j1:aS hH 193 4=some (4,some true):=by kernel_rfl
def jH:aS hH 193 5=some (5,some true):=by kernel_rfl
def iW:aS hH 193 6=some (6,some true):=by kernel_rfl
def iD:aS hH 193 7=some (7,some true):=by kernel_rfl
def jI:aS hH 193 8=some (8,some true):=by kernel_rfl
def iN:eg hH 193=some (some (.agg [ir 0,.string ⟨#[]⟩,.string ⟨#[]⟩,.slice none 0 0,.slice none 0 0,ir 0,ir 0,ir 0,ir 0].toArray)):=by kernel_rfl
def Xg:aS hH 196 0=some (0,some true):=by kernel_rfl
def gW:aS hH 196 1=some (1,some true):=by kernel_rfl
def jj:cY hH 198=some (false,1):=by kernel_rfl
def fI:eM hH 198=some (209,4,40,some 4):=by kernel_rfl
def j3:aS hH 203 0=some (0,some true):=by kernel_rfl
def fw:aS hH 203 1=some (1,some true):=by kernel_rfl
def ml:aS hH 203 2=some (2,some true):=by kernel_rfl
def wZ:aS hH 203 3=some (3,some true):=by kernel_rfl
def agH:cY hH 209=some (true,4):=by kernel_rfl
def lH:aS hH 209 0=some (0,some true):=by kernel_rfl
def nB:aS hH 209 1=some (1,some true):=by kernel_rfl
def rZ:aS hH 209 2=some (2,some true):=by kernel_rfl
def lI:aS hH 209 3=some (3,some true):=by kernel_rfl
def ac6:eg hH 209=some (some (.agg [ir 0,.string ⟨#[]⟩,ir 0,ir 0].toArray)):=by kernel_rfl
def LC:cY hH 218=some (true,12):=by kernel_rfl
def nD:aS hH 218 0=some (0,some true):=by kernel_rfl
def LD:aS hH 218 1=some (9,some true):=by kernel_rfl
def Xh:aS hH 218 2=some (10,some true):=by kernel_rfl
def LF:aS hH 218 3=some (11,some true):=by kernel_rfl
def Sb:eg hH 218=some (some (.agg [ir 0,.string ⟨#[]⟩,.string ⟨#[]⟩,.slice none 0 0,.slice none 0 0,ir 0,ir 0,ir 0,ir 0,.slice none 0 0,.slice none 0 0,.bool false].toArray)):=by kernel_rfl
def agI:cY hH 223=some (true,20):=by kernel_rfl
def ac7:eg hH 223=some (some (.agg [ir 0,ir 0,ir 0,ir 0,ir 0,ir 0,ir 0,ir 0,ir 0,ir 0,ir 0,ir 0,ir 0,ir 0,ir 0,ir 0,ir 0,ir 0,ir 0,ir 0].toArray)):=by kernel_rfl
def xc:eM hH 224=some (227,2,16,some 2):=by kernel_rfl
def yh:eg hH 224=some (some (.slice none 0 0)):=by kernel_rfl
def Sc:cY hH 227=some (true,2):=by kernel_rfl
def LG:aS hH 227 0=some (0,some true):=by kernel_rfl
def LH:aS hH 227 1=some (1,some true):=by kernel_rfl
def Sd:eg hH 227=some (some (.agg [ir 0,ir 0].toArray)):=by kernel_rfl
def ij:cY hH 231=some (true,4):=by kernel_rfl
def gH:aS hH 231 0=some (0,some true):=by kernel_rfl
def gX:aS hH 231 1=some (1,some true):=by kernel_rfl
def mn:aS hH 231 2=some (2,some true):=by kernel_rfl
def oM:aS hH 231 3=some (3,some true):=by kernel_rfl
def ri:eg hH 231=some (some (.agg [ir 0,ir 0,ir 0,ir 0].toArray)):=by kernel_rfl
def Se:cY hH 249=some (false,1):=by kernel_rfl
def ac8:eg hH 249=some (some (.nilFunc)):=by kernel_rfl
def tG:eM hH 277=some (320,2,16,some 2):=by kernel_rfl
def xd:cY hH 288=some (false,1):=by kernel_rfl
def LI:eM hH 300=some (24,1,24,some 1):=by kernel_rfl
def iE:aS hH 305 0=some (0,some true):=by kernel_rfl
def eY:aS hH 305 1=some (1,some true):=by kernel_rfl
def kL:aS hH 305 2=some (2,some true):=by kernel_rfl
def AF:aS hH 305 3=some (3,some true):=by kernel_rfl
def qp:aS hH 305 4=some (4,some true):=by kernel_rfl
def fW:cY hH 308=some (true,4):=by kernel_rfl
def sd:aS hH 308 0=some (0,some true):=by kernel_rfl
def oN:aS hH 308 1=some (1,some true):=by kernel_rfl
def uJ:aS hH 308 2=some (2,some true):=by kernel_rfl
def Xi:aS hH 308 3=some (3,some true):=by kernel_rfl
def tH:eg hH 308=some (some (.agg [.slice none 0 0,ir 0,ir 0,ir 0].toArray)):=by kernel_rfl
def qq:aS hH 316 0=some (0,some true):=by kernel_rfl
def uK:aS hH 318 0=some (0,some true):=by kernel_rfl
def LJ:aS hH 318 1=some (1,some true):=by kernel_rfl
def ac9:eg hH 318=some (some (.agg [.slice none 0 0,ir 0].toArray)):=by kernel_rfl
def ED:cY hH 320=some (true,2):=by kernel_rfl
def nE:aS hH 320 0=some (0,some true):=by kernel_rfl
def qt:aS hH 320 1=some (1,some true):=by kernel_rfl
def Jn:eg hH 320=some (some (.agg [ir 0,ir 0].toArray)):=by kernel_rfl
def Xj:cY hH 348=some (true,16):=by kernel_rfl
def Sf:eg hH 348=some (some (.agg [.nilFunc,.nilFunc,.nilFunc,.nilFunc,.nilFunc,.nilFunc,.nilFunc,.nilFunc,.nilFunc,.nilFunc,.nilFunc,.nilFunc,.nilFunc,.nilFunc,.nilFunc,.nilFunc].toArray)):=by kernel_rfl
def aoT:cY hH 361=some (false,1):=by kernel_rfl
def agJ:cY hH 364=some (true,15):=by kernel_rfl
def ada:eg hH 364=some (some (.agg [.string ⟨#[]⟩,.string ⟨#[]⟩,.string ⟨#[]⟩,.string ⟨#[]⟩,.string ⟨#[]⟩,.string ⟨#[]⟩,.string ⟨#[]⟩,.string ⟨#[]⟩,.string ⟨#[]⟩,.string ⟨#[]⟩,.string ⟨#[]⟩,.string ⟨#[]⟩,.string ⟨#[]⟩,.string ⟨#[]⟩,.string ⟨#[]⟩].toArray)):=by kernel_rfl
def nF(E:Option Addr)(U J:Nat)(I:Option Addr)(W u:Nat)(O:Option Addr)(B G:Nat)(V:Option Addr)(M Y:Nat):pr hH (mE 27 [(1,.slice E U J),(2,.slice I W u),(3,.slice O B G),(4,.slice V M Y)].toArray)=some (.agg [.slice none 0 0,.slice E U J,.slice I W u,.slice O B G,.slice V M Y,.slice none 0 0].toArray):=by kernel_rfl
def Hx(G:Option Addr)(u E:Nat)(B:Int):pr hH (mE 85 [(0,.slice G u E),(1,ir B)].toArray)=some (.agg [.slice G u E,ir B].toArray):=by kernel_rfl
def O1(u:Option Addr)(E J:Nat)(I:Option Addr)(G B:Nat):pr hH (mE 122 [(0,.slice u E J),(1,.slice I G B)].toArray)=some (.agg [.slice u E J,.slice I G B,.slice none 0 0,.slice none 0 0,.slice none 0 0].toArray):=by kernel_rfl
def Jo(E:Int)(B:Int)(u:Int):pr hH (mE 125 [(0,ir E),(1,ir B),(2,ir u)].toArray)=some (.agg [ir E,ir B,ir u].toArray):=by kernel_rfl
def O2(u:ByteArray)(B:Int):pr hH (mE 146 [(0,.string u),(3,ir B)].toArray)=some (.agg [.string u,.slice none 0 0,.slice none 0 0,ir B].toArray):=by kernel_rfl
def AG(B:ByteArray)(G:Int)(E:Option Addr)(I u:Nat):pr hH (mE 146 [(0,.string B),(3,ir G),(2,.slice E I u)].toArray)=some (.agg [.string B,.slice none 0 0,.slice E I u,ir G].toArray):=by kernel_rfl
def Xk(u:Int):pr hH (mE 146 [(3,ir u)].toArray)=some (.agg [.string ⟨#[]⟩,.slice none 0 0,.slice none 0 0,ir u].toArray):=by kernel_rfl
def adb:pr hH (mE 161 [].toArray)=some (.agg [.string ⟨#[]⟩,ir 0,ir 0].toArray):=by kernel_rfl
def EE(B:ByteArray)(u:Int):pr hH (mE 161 [(0,.string B),(2,ir u)].toArray)=some (.agg [.string B,ir 0,ir u].toArray):=by kernel_rfl
def Jp(B:Int)(u:Int)(E:Int):pr hH (mE 164 [(0,ir B),(1,ir u),(3,ir E)].toArray)=some (.agg [ir B,ir u,.string ⟨#[]⟩,ir E].toArray):=by kernel_rfl
def Jq(B:Int)(u:ByteArray)(E:Int):pr hH (mE 164 [(0,ir B),(2,.string u),(3,ir E)].toArray)=some (.agg [ir B,ir 0,.string u,ir E].toArray):=by kernel_rfl
def EF(u:Int)(B:Int):pr hH (mE 164 [(0,ir u),(3,ir B)].toArray)=some (.agg [ir u,ir 0,.string ⟨#[]⟩,ir B].toArray):=by kernel_rfl
def Xl(u:Int):pr hH (mE 181 [(0,ir u)].toArray)=some (.agg [ir u,.slice none 0 0].toArray):=by kernel_rfl
def O3(G:Int)(B:Option Addr)(E u:Nat):pr hH (mE 181 [(0,ir G),(1,.slice B E u)].toArray)=some (.agg [ir G,.slice B E u].toArray):=by kernel_rfl
def pH(E:Option Addr)(O Z:Nat)(Y:Option Addr)(U J:Nat)(I:Option Addr)(W u:Nat)(M:Option Addr)(B G:Nat)(V:Option Nat):pr hH (mE 187 [(0,.slice E O Z),(1,.slice Y U J),(2,.slice I W u),(3,.slice M B G),(4,.map V)].toArray)=some (.agg [.slice E O Z,.slice Y U J,.slice I W u,.slice M B G,.map V].toArray):=by kernel_rfl
def EG(B:Option Addr)(I V:Nat)(U:Option Addr)(J G:Nat)(E:Option Addr)(O u:Nat)(M:Option Nat):pr hH (mE 187 [(0,.slice B I V),(1,.slice U J G),(2,.slice E O u),(4,.map M)].toArray)=some (.agg [.slice B I V,.slice U J G,.slice E O u,.slice none 0 0,.map M].toArray):=by kernel_rfl
def O4(B:Int)(u:Int):pr hH (mE 193 [(0,ir B),(8,ir u)].toArray)=some (.agg [ir B,.string ⟨#[]⟩,.string ⟨#[]⟩,.slice none 0 0,.slice none 0 0,ir 0,ir 0,ir 0,ir u].toArray):=by kernel_rfl
def Xm(u:Int):pr hH (mE 196 [(0,ir u)].toArray)=some (.agg [ir u,.slice none 0 0].toArray):=by kernel_rfl
def Xn(E:Option Addr)(u B:Nat):pr hH (mE 203 [(0,.slice E u B)].toArray)=some (.agg [.slice E u B,ir 0,ir 0,ir 0].toArray):=by kernel_rfl
def Xo(u:Int):pr hH (mE 209 [(3,ir u)].toArray)=some (.agg [ir 0,.string ⟨#[]⟩,ir 0,ir u].toArray):=by kernel_rfl
def O5(B:Int)(u:Int):pr hH (mE 227 [(0,ir B),(1,ir u)].toArray)=some (.agg [ir B,ir u].toArray):=by kernel_rfl
def yi:pr hH (mE 231 [].toArray)=some (.agg [ir 0,ir 0,ir 0,ir 0].toArray):=by kernel_rfl
def AH(u:Int):pr hH (mE 231 [(0,ir u)].toArray)=some (.agg [ir u,ir 0,ir 0,ir 0].toArray):=by kernel_rfl
def O6(G:Option Addr)(u E:Nat)(B:Int):pr hH (mE 305 [(0,.slice G u E),(1,ir B)].toArray)=some (.agg [.slice G u E,ir B,ir 0,ir 0,.slice none 0 0].toArray):=by kernel_rfl
def zA(G:Option Addr)(u E:Nat)(B:Int):pr hH (mE 308 [(0,.slice G u E),(1,ir B)].toArray)=some (.agg [.slice G u E,ir B,ir 0,ir 0].toArray):=by kernel_rfl
def O7(u:Int)(B:Int):pr hH (mE 308 [(2,ir u),(3,ir B)].toArray)=some (.agg [.slice none 0 0,ir 0,ir u,ir B].toArray):=by kernel_rfl
def EH(B:Int)(u:Int):pr hH (mE 320 [(0,ir B),(1,ir u)].toArray)=some (.agg [ir B,ir u].toArray):=by kernel_rfl
def Xp:vt hH 231=some [0,0,0,0]:=by kernel_rfl
end Go.Proofs.YtpdlpabnlkofmaaGreatDoor
namespace Go.Fw
def sep(H1 H2:HP):HP where
 p w F:=∃u B,H1.p w u/\H2.p w B/\(∀b,u b->¬ B b)/\∀b,F b↔u b\/B b
 loc w w' F h hh:=by
  obtain⟨u,B,h1,h2,h3,h4⟩:=h
  exact⟨u,B,H1.loc _ _ _ h1 λb hb=>hh b ((h4 b).2 (.inl hb)),H2.loc _ _ _ h2 λb hb=>hh b ((h4 b).2 (.inr hb)),h3,h4⟩
 lt w F b h hb:=by
  obtain⟨u,B,h1,h2,h3,h4⟩:=h
  rcases(h4 b).1 hb with hf|hf
  .exact H1.lt _ _ _ h1 hf
  .exact H2.lt _ _ _ h2 hf
def oO{α:Type}(H:α->HP):HP where
 p w F:=∃x,(H x).p w F
 loc w w' F h hh:=by obtain⟨x,h⟩:=h;exact⟨x,(H x).loc _ _ _ h hh⟩
 lt w F b h hb:=by obtain⟨x,h⟩:=h;exact(H x).lt _ _ _ h hb
def fact(φ:Prop)(H:HP):HP where
 p w F:=φ/\H.p w F
 loc w w' F h hh:=⟨h.1,H.loc _ _ _ h.2 hh⟩
 lt w F b h hb:=H.lt _ _ _ h.2 hb
def emp:HP where
 p _ F:=∀b,¬ F b
 loc _ _ _ h _:=h
 lt _ _ b h hb:=(h b hb).elim
section
variable {P:Program}{w w0 w':World}{A:Nat->Prop}{L:List HP}{H H1 H2:HP}
theorem St.split(h:St w0 A (sep H1 H2::L) w):St w0 A (H1::H2::L) w:=by
 obtain⟨U,F,E,⟨I,B,J,M,O,u⟩,h2,h3,h4,h5⟩:=h.tY
 refine⟨h.aF,U,I,λb=>B b\/E b,J,λb hb=>h2 b ((u b).2 (.inl hb)),λb hb G=>?_,λb=>?_,B,E,M,λb hb=>h2 b ((u b).2 (.inr hb)),λb hb G=>h3 b ((u b).2 (.inr hb)) G,λb=>Iff.rfl,h5⟩
 .grind
 grind
theorem St.join(h:St w0 A (H1::H2::L) w):St w0 A (sep H1 H2::L) w:=by
 obtain⟨U,F,V,h1,h2,h3,h4,u,G,M,I,O,E,J⟩:=h.tY
 refine⟨h.aF,U,λb=>F b\/u b,G,⟨F,u,h1,M,λb hb B=>h3 b hb ((E b).2 (.inl B)),λb=>Iff.rfl⟩,λb hb=>hb.elim (h2 b) (I b),λb hb W=>?_,λb=>?_,J⟩
 .grind
 grind
theorem St.dK{α:Type}{H:α->HP}(h:St w0 A (oO H::L) w):∃x,St w0 A (H x::L) w:=by
 obtain⟨U,F,u,⟨x,h1⟩,h2⟩:=h.tY;exact⟨x,h.aF,U,F,u,h1,h2⟩
theorem St.dT{α:Type}{H:α->HP}(x:α)(h:St w0 A (H x::L) w):St w0 A (oO H::L) w:=by
 obtain⟨U,F,u,h1,h2⟩:=h.tY;exact⟨h.aF,U,F,u,⟨x,h1⟩,h2⟩
theorem St.j4{φ:Prop}(h:St w0 A (fact φ H::L) w):φ/\St w0 A (H::L) w:=by
 obtain⟨U,F,u,⟨x,h1⟩,h2⟩:=h.tY;exact⟨x,h.aF,U,F,u,h1,h2⟩
theorem St.l4{φ:Prop}(x:φ)(h:St w0 A (H::L) w):St w0 A (fact φ H::L) w:=by
 simp_all[fact]
def mT(F:Nat->Prop)(H':HP)(w w':World):Prop:=∃u,H'.p w' u/\(∀b,u b->F b\/w.heap.size<=b)/\gD F w w'
def lf(H:HP)(w w':World):Prop:=∃F,H.p w' F/\(∀b,F b->w.heap.size<=b)/\Ext w w'
theorem St.mut{F:Nat->Prop}(u:St w F (H::L) w'):mT F H w w':=by
 obtain⟨B,h1,h2⟩:=u.head;exact⟨B,h1,h2,u.aF⟩
theorem St.fresh(u:St w aX (H::L) w'):lf H w w':=by
 obtain⟨B,h1,h2⟩:=u.head;exact⟨B,h1,λb hb=>(h2 b hb).elim (λh=>h.elim) id,u.aF⟩
theorem St.made(u:St w0 A L w)(h:lf H w w'):St w0 A (H::L) w':=by
 obtain⟨F,h1,h2,h3⟩:=h;exact u.new h3 h1 h2
theorem aV{f:FuncId}{args:List Value}{X:Value}{K:Value->hM}(pl:Plain P f)(u:St w0 A L w)(hc:Calls P f args.toArray w (tu λv w'=>v=X/\Ext w w'))(k:∀w',Ext w w'->St w0 A L w'->K X w'):CM P f args w K:=
 dR pl hc λv w' h=>by obtain⟨rfl,h2⟩:=h;exact k w' h2 (u.ext h2)
theorem dB{f:FuncId}{args:List Value}{H:Value->HP}{K:Value->hM}(pl:Plain P f)(u:St w0 A L w)(hc:Calls P f args.toArray w (tu λv w'=>lf (H v) w w'))(k:∀v w',lf (H v) w w'->St w0 A (H v::L) w'->K v w'):CM P f args w K:=
 dR pl hc λv w' h=>k v w' h (u.made h)
theorem St.Xq{F:Nat->Prop}{B:Nat->Prop}{H':HP}(I:St w0 A (H::L) w)(h2:∀b,F b->A b\/w0.heap.size<=b)(h3:∀b,F b->¬ B b)(h5:rM w0 A L w B)(h:mT F H' w w'):St w0 A (H'::L) w':=by
 obtain⟨E,O,M,J⟩:=h
 refine⟨I.aF.trans J (λ_ h=>h) λb hb u=>(h2 b u).elim id λU=>bL,λb=>E b\/B b,E,B,O,λb hb=>?_,λb hb G=>?_,λb=>Iff.rfl,?_⟩
 .rcases M b hb with u|u
  .exact h2 b u
  exact .inr (vJ I.aF.size u)
 .rcases M b hb with u|u
  .exact h3 b u G
  have:=h5.lt b G;omega
 exact h5.loc λb hb=>J.bX b (h5.lt b hb) λu=>h3 b u hb
theorem qe{f:FuncId}{args:List Value}{H':Value->HP}{Φ:Value->hM}{K:Value->hM}(pl:Plain P f)(u:St w0 A (H::L) w)
  (hc:∀F,H.p w F->Calls P f args.toArray w (tu λv w'=>Φ v w'/\mT F (H' v) w w')) (k:∀v w',Φ v w'->St w0 A (H' v::L) w'->K v w'):CM P f args w K:=by
 obtain⟨U,F,G,h1,h2,h3,h4,h5⟩:=u.tY
 exact dR pl (hc F h1) λv w' ⟨B,E⟩=>k v w' B (u.Xq h2 h3 h5 E)
end
section
variable {α:Type}[Flat α] {P:Program}{w w0:World}{A S:Nat->Prop}{L:List HP}{xs ys:List α}
theorem cZ.one{v:Value}(h:cZ S w v xs):rN v=true:=by obtain⟨a,c,rfl,_⟩:=h;rfl
theorem GW{T E O R b n cap:Nat}{z:Option Nat}{src:Value}{cs:List Value}(ht:eM P T=some (E,nk α,O,z))(hb:pk w b cs)(u:cZ S w src ys)
  (M:n+ys.length<=cap) (Z:n*nk α+ys.length*nk α<=cs.length) :
  ∃w',(Builtin.append_ #[T,T] R [.slice (some ⟨b,0,none⟩) n cap,src].toArray).run P w=.ok (.slice (some ⟨b,0,none⟩) (n+ys.length) cap) w'/\pk w' b (iI cs (n*nk α) (flat ys))/\gD (· = b) w w':=by
 obtain⟨U,W,hi,V,zq,_⟩:=ft ht
 have rd:=u
 obtain⟨Y,W7,rfl,J,I⟩:=rd
 obtain⟨w',h1,h2,h3⟩:=mR (P:=P) (o:=n*nk α) (flat ys) 0 cs w hb (by rw[dI];omega) Au
 refine⟨w',?_,bL,h3⟩
 have B:=yf (α:=α) (P:=P) (sz:=nk α) rfl u
 have G:(⟨b,0,none⟩:Addr).add (n*nk α)=⟨b,n*nk α,none⟩:=by rw[gi,xp]
 simp[Builtin.append_,run_underlying U,sizeOf,typeInfo,hi,Builtin.lenOf,M,B,V,G,h1]
theorem Uq{T E J R b o n c:Nat}{z:α}{cs:List Value}(ht:W6 P T E (nk α) J)(u:m4 P E (jr z))(hb:pk w b cs)(O:o+n*nk α<=cs.length) :
  ∃w',(Builtin.clear_ #[T] R [.slice (some ⟨b,o,none⟩) n c].toArray).run P w=.ok (.tuple #[]) w'/\pk w' b (iI cs o (flat (oz n z)))/\gD (· = b) w w':=by
 obtain⟨I,M,hi,V,U,_⟩:=ft ht
 unfold m4 eg at u
 rw[hi]at u
 simp only[Option.map_some,ob.injEq]at u
 by_cases G:n=0
 .subst G
  refine⟨w,?_,by simpa[mg,iI]using hb,gD.refl _ _⟩
  simp[Builtin.clear_,run_underlying I]
 have B:(Builtin.zeroCells (jr z).cells n).toList=flat (oz n z):=by
  rw[pF,<- wT]
  unfold Builtin.zeroCells madeCells
  simp[AQ]
 obtain⟨w',h1,h2,h3⟩:=mR (P:=P) (o:=o) (flat (oz n z)) 0 cs w hb (by rw[dI,List.length_replicate];omega) Au
 refine⟨w',?_,bL,h3⟩
 simp[Builtin.clear_,run_underlying I,zeroValue,typeInfo,hi,u,G,B,h1]
theorem Xr{T E sz I n cap:Nat}{z:Option Nat}{a:Option Addr}{i j k:Int}{K:Value->Prop}(ht:eM P T=some (E,sz,I,z))(O:0<=i)(h1:i<=j)(h2:j<=k)(h3:k<=cap)
  (B:∀v,K v):eK P (oa T (.slice a n cap) (some (ir i)) (some (ir j)) (some (ir k))) K:=by
 obtain⟨u,M,G,J,_⟩:=ft ht
 have hb:pr P (wN true n cap (some (ir i)) (some (ir j)) (some (ir k)))=some (i.toNat,j.toNat,k.toNat):=by
  simp only[wN,cI,eS,mv]
  rw[jh bL bL]
  simp only[mv]
  rw[jh bL bL]
  simp only[mv]
  rw[jh bL bL]
  rfl
 refine⟨.slice (if k.toNat=i.toNat then a else a.map (·.add (i.toNat*sz))) (j.toNat-i.toNat) (k.toNat-i.toNat),?_,B _⟩
 unfold oa
 rw[cI,cJ u]
 simp only[mv]
 unfold Qu
 rw[cI,cJ u]
 simp only[mv]
 rw[cI,hb]
 simp only[mv]
 rw[cI,mQ G,J]
 rfl
end
def nG(b:Nat)(o:Obj):HP where
 p w F:=w.heap[b]?=some o/\∀k,F k↔k=b
 loc w w' F h hh:=⟨(hh b ((h.2 b).2 rfl)).trans h.1,h.2⟩
 lt w F b' h hb:=cD
section
variable {P:Program}{w w0 w':World}{A:Nat->Prop}{L:List HP}
theorem St.obj{b:Nat}{o:Obj}(u:St w0 A (nG b o::L) w):w.heap[b]?=some o:=by
 obtain⟨F,h,_⟩:=u.head;exact h.1
theorem Ext.alloc(w:World)(o:Obj):Ext w (w.alloc o):=Ext.push w o
theorem St.alloc{o:Obj}(u:St w0 A L w):St w0 A (nG w.heap.size o::L) (w.alloc o):=
 u.new (F:=(· = w.heap.size)) (Ext.alloc w o) ⟨mf w o,λ_=>Iff.rfl⟩ λb hb=>Nat.le_of_eq hb.symm
theorem gD.putObj(w:World)(b:Nat)(o:Obj):gD (· = b) w (w.putObj b o):=
 ⟨rfl,rfl,rfl,ee,λk _ u=>World.putObj_heap_other u⟩
theorem St.putObj{b:Nat}{o:Obj}(u:Obj)(E:St w0 A (nG b o::L) w):St w0 A (nG b u::L) (w.putObj b u):=
 E.qm λF B=>⟨F,⟨World.putObj_heap_same (rL B.1),B.2⟩,λ_ h=>.inl h,(gD.putObj w b u).mono λk G=>(B.2 k).2 G⟩
theorem kG.mono{fv:Value}{args:List Value}{K u:Value->hM}(h:kG P fv args w K)(B:∀v w,K v w->u v w):kG P fv args w u:=
 Hb.mono (P:=P) (k:=.RD fv args) h B
theorem aM{α:Type}[Flat α]{T:TypeId}{b:Nat}{cs:List Value}{x:α}{K:hM}(E:St w0 A (bX b cs::L) w)(ht:acY P T (nk α))(B:Kz α=true)(u:cs.length=nk α)
  (k:∀w',St w0 A (bX b (kp x)::L) w'->K w'):RB P (LS T (.pointer (some ⟨b,0,none⟩)) (jr x)) w K:=by
 rw[ab0 B]
 refine wR E ht (AQ x) (by rw[xp,u];exact sl _) (aaC x) λw' h=>k w' ?_
 have:=ly [] cs [] (kp x) (by rw[AQ,u])
 simp only[List.length_nil,List.nil_append,qb]at this
 rwa [this]at h
theorem fq{α:Type}[Flat α]{S:Nat->Prop}{T:TypeId}{p:Value}{x:α}(ht:cY P T=some (Kz α,nk α))(h:At S w p x):(z9 T p).run P w=.ok (jr x) w:=by
 obtain⟨v,h1,h2⟩:=(aE (K:=λv=>v=jr x) ht h rfl).ex
 grind
theorem qf{b:Bool}{A B:Prop}(h:b=true)(a:A):yL (.bool b) A B:=⟨⟨_,rfl,λ_=>a,λu=>cD⟩⟩
theorem eO{b:Bool}{A B:Prop}(h:b=false)(a:B):yL (.bool b) A B:=⟨⟨_,rfl,λu=>cD,λ_=>a⟩⟩
theorem EI{D:Nat}{K:hM}(u:St w0 A (nG D (.deferred (some []))::L) w)(k:∀w',St w0 A L w'->K w'):mP [D] w K:=
 ⟨u.obj,k _ (u.putObj (.deferred none)).drop⟩
theorem EJ(u:Loop)(h1:u.state=.ready)(h2:u.pending=none):({u with state:=if (none:Option Code).isNone=true then LoopState.ready else LoopState.done,pending:=none}:Loop)=u:=by
 cases u;grind
theorem xe{gf np:Nat}{cap:List Value}{xs:List (List Value)}{round:List Value->World->(World->(hM)->Prop)->(Option Code->hM)->Prop}
  {N R:Nat->hM}{X:Nat->Nat->hM}(pl:Plain P gf) (hs:St w0 A L w) (I:Nat->List HP->Prop) (V:Code->List HP->Prop) (h0:I 0 L) (hnp:∀x∈xs,x.length=np)
  (hgf:∀(y:Value) (J:Nat->hM) (Jx:hM) (W:World),(∀k W,J k W->∃Y M,I k M/\St w0 A (Y::M) W)->(∀k W O,J k W->Ext W O->J k O)->J 0 W->
   (∀k args O,xs[k]?=some args->J k O->kG P y args O λv Z=>(v=.bool true/\J (k+1) Z)\/(v=.bool false/\Jx Z))->
   Calls P gf ([y]++cap).toArray W (tu λ_ O=>J xs.length O\/Jx O))
  (Ep:∀k args (Y1 Y2:HP) (B:World->(hM)->Prop) (Kr:Option Code->hM) M W,xs[k]?=some args->I k M->
   (∀M G (kk:hM),St w0 A (Y1::M) G->(∀w2,St w0 A (Y2::M) w2->kk w2)->B G kk)->
   (∀M G,St w0 A (Y2::M) G->I (k+1) M->Kr none G)->(∀c M G,St w0 A (Y2::M) G->V c M->Kr (some c) G)->
   St w0 A (Y1::M) W->round args W B Kr)
  (Xs:∀D M W,I xs.length M->St w0 A (nG D (.deferred (some []))::M) W->N D W)
  (aiR:∀D M W,V .ret M->St w0 A (nG D (.deferred (some []))::M) W->R D W)
  (Xt:∀id D M W,V (.exit id) M->St w0 A (nG D (.deferred (some []))::M) W->X id D W)
  (O8:∀c M,V c M->(∃id,c=.exit id)\/c=.ret) :
  Aq P (.func (.func gf) #[] cap.toArray) np w round (aft N R X):=by
 refine⟨gf,cap.toArray,rfl,pl,λU ie BL hy=>?_⟩
 obtain⟨l,hl⟩:∃l,l=w.heap.size+1:=⟨_,rfl⟩
 obtain⟨D,hD⟩:∃D,D=w.heap.size:=⟨_,rfl⟩
 rw[<- hl]at hy |-
 rw[<- hD]
 let J:Nat->hM:=λk W=>∃M,I k M/\St w0 A (nG l (.loop U)::nG D (.deferred (some []))::M) W
 let Jx:hM:=λW=>∃c M,V c M/\St w0 A (nG l (.loop {U with state:=.done,pending:=some c})::nG D (.deferred (some []))::M) W
 have Ur:J 0 ((w.alloc (.deferred (some []))).alloc (.loop U)):=by
  refine⟨L,h0,?_⟩
  have h1:=(hs.alloc (o:=.deferred (some []))).alloc (o:=.loop U)
  rw[show(w.alloc (.deferred (some []))).heap.size=l from by rw[hl];exact BY w _,<- hD]at h1
  exact h1
 have:=hgf (.func (.yield l) #[] #[]) J Jx _ (λk W ⟨M,E,u⟩=>⟨_,M,E,St.join u⟩) (λk W O ⟨M,E,u⟩ e=>⟨M,E,u.ext e⟩) Ur ?_
 .have e:([Value.func (.yield l) #[] #[]]++cap).toArray = #[.func (.yield l) #[] #[]]++cap.toArray:=ee
  rw[e]at this
  refine this.mono λx O ⟨v,hx,hv⟩=>⟨v,hx,?_⟩
  rcases hv with⟨M,E,u⟩|⟨c,M,E,u⟩
  .refine⟨.ready,none,ee,?_,?_⟩
   .rw[<- ie,<- BL];exact u.obj
   exact Xs D M _ E (u.putObj _).drop
  refine⟨.done,some c,ee,u.obj,?_⟩
  rcases O8 c M E with⟨id,rfl⟩|rfl
  .exact Xt id D M _ E (u.putObj _).drop
  exact aiR D M _ E (u.putObj _).drop
 intro k args W hk ⟨M,E,u⟩
 refine⟨.inr ⟨l,rfl,?_⟩⟩
 refine hy args W _ (hnp args (kO hk)) u.obj ?_
 refine Ep k args (sep (nG l (.loop U)) (nG D (.deferred (some [])))) (sep (nG l (.loop {U with state:=.busy})) (nG D (.deferred (some [])))) _ _ M W hk E
  (λM G kk h1 h2=>?_) (λM G h1 h2=>?_) (λc M G h1 h2=>?_) (St.join u)
 .have h1:=h1.split
  exact⟨h1.obj,h2 _ (h1.putObj _).join⟩
 .have h1:=h1.split
  refine⟨h1.obj,.inl ⟨rfl,M,h2,?_⟩⟩
  have:=h1.putObj (.loop {U with state:=if (none:Option Code).isNone=true then LoopState.ready else LoopState.done,pending:=none})
  rw[EJ U ie BL]at this |-
  exact this
 have h1:=h1.split
 exact⟨h1.obj,.inr ⟨rfl,c,M,h2,h1.putObj _⟩⟩
end
section
variable {P:Program}{w w0:World}{A S:Nat->Prop}{L:List HP}
theorem rj{t:Array TypeId}{T:TypeId}{a b:Int}{K:Value->Prop}(k:K (ir (min a b))):eK P (Builtin.min_ t T [ir a,ir b].toArray) K:=by
 refine⟨_,?_,k⟩
 show pr P (Builtin.min2 (ir a) (ir b))=_
 unfold Builtin.min2
 by_cases h:b<a
 .simp[h,eS];omega
 simp[h,eS];omega
theorem DJ{t:Array TypeId}{T:TypeId}{a b:Int}{K:Value->Prop}(k:K (ir (max a b))):eK P (Builtin.max_ t T [ir a,ir b].toArray) K:=by
 refine⟨_,?_,k⟩
 show pr P (Builtin.max2 (ir a) (ir b))=_
 unfold Builtin.max2
 by_cases h:a<b
 .simp[h,eS];omega
 simp[h,eS];omega
theorem AI{α β:Type}[Flat α][Flat β]{T f u:Nat}{p:Value}{x:α}(y:β){K:Value->Prop}(ht:wQ P T f u)(h:At S w p x)(B:((kp x).drop u).take (nk β)=kp y)
  (k:∀q,At S w q y->K q):eK P (H4 T p f) K:=by
 obtain⟨b,o,rfl,h2,h3⟩:=h
 refine aA ht (k _ ⟨b,o+u,rfl,h2,λj c E=>?_⟩)
 grind
end
section
variable {P:Program}{α:Type}[Flat α] {A:Nat->Prop}{w0 w:World}{L:List HP}{xs:List α}
def O9(α:Type)[Flat α](v:Value)(i u:Nat)(p:Value):Prop:=∃b n c,v=.slice (some ⟨b,0,none⟩) n c/\p=.pointer (some ⟨b,i*nk α+u,none⟩)
theorem mq{T f u i:Nat}{v p:Value}{K:Value->Prop}(ht:wQ P T f u)(h:Ht α v i p)(k:∀q,O9 α v i u q->K q):eK P (H4 T p f) K:=by
 obtain⟨b,n,c,h1,rfl⟩:=h
 exact aA ht (k _ ⟨b,n,c,h1,rfl⟩)
theorem nH{β:Type}[Flat β]{T:Nat}{v p:Value}{i u:Nat}{x:α}(y:β){K:Value->Prop}(J:St w0 A (bF v xs::L) w)(ht:cY P T=some (Kz β,nk β))(M:O9 α v i u p)(G:xs[i]?=some x)
  (O:((kp x).drop u).take (nk β)=kp y) (k:K (jr y)):GL P (z9 T p) w K:=by
 obtain⟨F,h,_⟩:=J.head
 obtain⟨b,cap,rest,I,hb,U,_⟩:=rC h (kE.1 G).1
 obtain⟨V,n,c,E,rfl⟩:=M
 rw[I]at E
 simp only[Be.injEq,ob.injEq,Addr.mk.injEq]at E
 obtain⟨⟨rfl,_,_⟩,_,_⟩:=E
 refine aE (S:=λ_=>True) ht ⟨b,i*nk α+u,rfl,trivial,λj c B=>hb.cell ?_⟩ k
 rw[<- O,List.getElem?_take]at B
 split at B
 .rw[KB]at B
  have:=rO G B
  rw[Pt,uc (kE.1 this).1];exact this
 cases B
theorem Xu{β:Type}[Flat β]{T:Nat}{v p:Value}{i u:Nat}{K:hM}{x:α}(y:α)(z:β)(W:St w0 A (bF v xs::L) w)(ht:cY P T=some (Kz β,nk β))(hp:O9 α v i u p)(hx:xs[i]?=some x)
  (hlen:u+nk β<=nk α) (hy:(kp x).take u++kp z++(kp x).drop (u+nk β)=kp y)
  (k:∀w',St w0 A (bF v (xs.set i y)::L) w'->K w'):RB P (LS T p (jr z)) w K:=by
 obtain⟨U,F,U',g1,Y,O,g4,Z⟩:=W.tY
 have hi:=(kE.1 hx).1
 obtain⟨b,cap,rest,M,hb,V,J⟩:=rC g1 hi
 obtain⟨b',n,c,G,rfl⟩:=hp
 rw[M]at G
 simp only[Be.injEq,ob.injEq,Addr.mk.injEq]at G
 obtain⟨⟨rfl,_,_⟩,_,_⟩:=G
 have Ae:=zu hx
 have Hu:(flat (xs.take i)).length=i*nk α:=by rw[dI,l9,GF bL]
 have LK:i*nk α+nk α<=(flat xs).length:=by
  rw[dI,<- Nat.succ_mul];exact Nat.mul_le_mul_right _ hi
 have hxl:(kp x).length=nk α:=AQ x
 have B:(kp z).length=nk β:=AQ z
 obtain⟨w',h1,h2,h3⟩:=mR (P:=P) (o:=i*nk α+u) (kp z) 0 (flat xs++rest) w hb (by rw[B,l0];omega) (aaC z)
 have GO:iI (flat xs++rest) (i*nk α+u+0) (kp z)=flat (xs.set i y)++rest:=by
  have:=ly (flat (xs.take i)++(kp x).take u) (((kp x).drop u).take (nk β)) ((kp x).drop (u+nk β)++flat (xs.drop (i+1))++rest) (kp z)
   (by rw[B,l9,sJ];omega)
  rw[l0,Hu,l9,GF bL]at this
  rw[P1,Lt y hi,Ae,<- hy]
  have e1:kp x=(kp x).take u++((kp x).drop u).take (nk β)++(kp x).drop (u+nk β):=by
   rw[<- u3,n4,qT,qT]
  have e2:flat (xs.take i)++kp x++flat (xs.drop (i+1))++rest=flat (xs.take i)++(kp x).take u++((kp x).drop u).take (nk β)++((kp x).drop (u+nk β)++flat (xs.drop (i+1))++rest):=by
   conv=>lhs;rw[e1]
   simp only[n4]
  rw[e2,this]
  simp only[n4]
 rw[GO]at h2
 refine⟨w',?_,k w' ⟨W.aF.trans (h3.mono λk I=>(J k).2 I) (λ_ h=>h) λb hb E=>(Y b E).elim id λhh=>bL,U,F,U',?_,Y,O,g4,
  Z.loc λb hb=>(h3.mono λk I=>(J k).2 I).bX b (Z.lt b hb) λE=>O b E hb⟩⟩
 .show(storeVar T ⟨b,i*nk α+u,none⟩ (jr z)).run P w=_
  unfold storeVar
  rw[eG (fa (jY ht).2 w),pF]
  simp only[List.size_toArray,AQ,ne_eq,not_true_eq_false,if_false]
  exact h1
 refine .inr ⟨b,cap,rest,by rw[Jc];exact M,h2,?_,J⟩
 rw[l0,dI]at V |-;rw[Jc];exact V
theorem rk{T:Nat}{b o:Nat}{cs:List Value}(x:α){K:Value->Prop}(ht:cY P T=some (Kz α,nk α))(hb:pk w b cs)(B:(cs.drop o).take (nk α)=kp x)(k:K (jr x)) :
  GL P (z9 T (.pointer (some ⟨b,o,none⟩))) w K:=by
 refine aE (S:=λ_=>True) ht ⟨b,o,rfl,trivial,λj c u=>hb.cell ?_⟩ k
 grind
end
structure SV where
 a:Option Addr
 n:Nat
 cap:Nat
abbrev cG:SV:=⟨none,0,0⟩
instance:Flat SV where
 agg:=false
 sz:=1
 enc s:=[.slice s.a s.n s.cap]
 val s:=.slice s.a s.n s.cap
 pos:=dy
 len _:=rfl
 one a v h:=by rw[vS.1 h];rfl
 nU h:=by cases h
 nV _ _:=rfl
section
variable {P:Program}{α:Type}[Flat α] {A:Nat->Prop}{w0 w:World}{L L':List HP}{v:Value}
def rows:List SV->List (List α)->HP
 | [],[]=>emp
 | s::ss,x::xs=>sep (bF (jr s) x) (rows ss xs)
 | _,_=>fact False emp
theorem LL:∀{u:List SV}{xs:List (List α)}{F:Nat->Prop},(rows u xs).p w F->u.length=xs.length
 | [],[],_,_=>rfl
 | s::u,x::xs,F,h=>by
  obtain⟨B,E,_,h2,_,_⟩:=h
  rw[o5,o5,LL h2]
 | [],_::_,_,h=>h.1.elim
 | _::_,[],_,h=>h.1.elim
theorem Hy:∀{E:List SV}{xs:List (List α)}{B u F:Nat->Prop}{s:SV}{x:List α},(rows E xs).p w B->(bF (jr s) x).p w u->(∀b,B b->¬ u b)->(∀b,F b↔B b\/u b)->(rows (E++[s]) (xs++[x])).p w F
 | [],[],B,u,F,s,x,h1,h2,_,h4=>by
  refine⟨u,B,h2,h1,λb hb U=>h1 b U,λb=>?_⟩
  grind
 | s'::E,x'::xs,B,u,F,s,x,h1,h2,h3,h4=>by
  obtain⟨J,G,O,I,V,M⟩:=h1
  refine⟨J,λb=>G b\/u b,O,Hy I h2 (λb hb=>h3 b ((M b).2 (.inr hb))) (λb=>Iff.rfl),λb hb=>?_,λb=>?_⟩
  .grind
  grind
 | [],_::_,_,_,_,_,_,h,_,_,_=>h.1.elim
 | _::_,[],_,_,_,_,_,h,_,_,_=>h.1.elim
theorem St.AJ{u:List SV}{xs:List (List α)}(B:St w0 A (rows u xs::L) w):u.length=xs.length:=by
 obtain⟨F,h,_⟩:=B.head;exact LL h
theorem St.ade(u:St w0 A L w):St w0 A (rows [] ([]:List (List α))::L) w:=
 u.new (Ext.refl w) (F:=aX) (λ_ h=>h) λ_ h=>h.elim
theorem St.EK{u:List SV}{xs:List (List α)}{s:SV}{x:List α}(B:St w0 A (rows u xs::bF (jr s) x::L) w):St w0 A (rows (u++[s]) (xs++[x])::L) w:=by
 have h:=St.join B
 refine h.qm λF E=>?_
 obtain⟨G,I,h1,h2,h3,h4⟩:=E
 exact⟨F,Hy h1 h2 h3 h4,λb hb=>.inl hb,gD.refl _ _⟩
theorem St.fK{xs:List α}(u:St w0 A (bF v xs::L) w):∃s:SV,v=jr s:=by
 obtain⟨F,h,_⟩:=u.head
 rcases h with⟨rfl,_⟩|⟨b,cap,_,rfl,_⟩
 .exact⟨⟨none,0,0⟩,rfl⟩
 exact⟨⟨_,_,_⟩,rfl⟩
theorem cZ.fK{S:Nat->Prop}{xs:List α}(h:cZ S w v xs):∃s:SV,v=jr s:=by
 obtain⟨a,cap,rfl,_⟩:=h;exact⟨⟨_,_,_⟩,rfl⟩
def awG(w:World)(v:Value)(xs:List (List α)):Prop:=
 ∃u:List SV,cZ (λ_=>True) w v u/\u.length=xs.length/\∀(i:Nat) (s:SV) (x:List α),u[i]?=some s->xs[i]?=some x->cZ (λ_=>True) w (jr s) x
end
section
variable {P:Program}
theorem kh{α:Type}[Flat α]{S:Nat->Prop}{w:World}{xs:List α}{T E G:Nat}{z:Option Nat}{v:Value}{i:Int}{K:Value->Prop}(ht:eM P T=some (E,nk α,G,z))(B:cZ S w v xs)(I:0<=i)(h2:i<=xs.length)
  (k:∀u,(∀w',cZ S w' v xs->cZ S w' u (xs.take i.toNat))->K u):eK P (oa T v none (some (ir i)) none) K:=by
 obtain⟨a,cap,rfl,J,h3⟩:=B
 refine⟨_,wS ht (og (.inl ⟨rfl,rfl⟩) (.inr ⟨i,rfl,I,rfl⟩) (l2 _) bL),k _ λw' h=>?_⟩
 have:=h.cut rfl (l2 i.toNat) bL
 grind
end
open Go.ChangeShapes Go.WideShapes Go.ChangeAt Go.RowKit
structure RdT(P:Program)(t:TypeId)(α:Type)[Flat α](φ:α->Prop):Prop where
 cells:P.cellsOf t=nk α
 rd:∀{H:Type}(enc:TypeId×Value->H) (w:World) (base:Nat) (sp:Nat->Bool) (held:Bool) (fuel:Nat) (cs:List Value) (x:DataW H×List MemPlace),
  DataW.trod enc P w base sp held fuel t cs=some x->∃a:α,cs=kp a/\φ a
def eT(n:Int):Prop:=-9223372036854775808<=n/\n<=9223372036854775807
def aiS{P:Program}{t:TypeId}(ht:P.underlying t=some (.int .i64))(hc:P.cellsOf t=1):RdT P t Int eT:=
 ⟨hc,λenc w base u held fuel cs x h=>by
  obtain⟨n,h1,_,h3⟩:=DataW.trod_int ht h
  refine⟨n,h1,?_⟩
  simpa[Lit.wf,IntKind.min,IntKind.max,IntKind.signed,IntKind.bits,eT]using h3⟩
def aiT{P:Program}{t:TypeId}(ht:P.underlying t=some .string)(hc:P.cellsOf t=1):RdT P t ByteArray (λs=>s.size<=maxLen):=
 ⟨hc,λenc w base u held fuel cs x h=>by
  obtain⟨n,h1,_,h2⟩:=DataW.trod_string ht h
  exact⟨n,h1,h2⟩⟩
def mr{H:Type}{enc:TypeId×Value->H}{P:Program}{w:World}{base:Nat}{u:Nat->Bool}{held:Bool}{fuel:Nat}{t:TypeId}{B:Array Field}{cs:List Value}{x:DataW H×List MemPlace}
  (ht:P.underlying t=some (.struct B)) (h:DataW.trod enc P w base u held fuel t cs=some x) :
  cs.length=P.cellsOf t/\∃n,∀(i:Nat) (f:Field),B[i]?=some f->∃y,DataW.trod enc P w base u held n f.type ((cs.drop f.offset).take (P.cellsOf f.type))=some y:=by
 obtain⟨xs,n,_,_,G,I,E⟩:=DataW.trod_struct ht h
 refine⟨G,n,λi f hi=>?_⟩
 have J:i<xs.length:=by rw[I];exact(Array.getElem?_eq_some_iff.1 hi).1
 exact⟨xs[i],by rw[E i f hi,lU J]⟩
def eh{cs:List Value}{o s:Nat}{r:List Value}(h:(cs.drop o).take s=r):cs.drop o=r++cs.drop (o+s):=by
 rw[<- h,<- u3,qT]
theorem adf{α:Type}{p:Nat->α->Prop}:∀n,(∀i,i<n->∃x,p i x)->∃xs:List α,xs.length=n/\∀i x,xs[i]?=some x->p i x:=by
 intro n
 induction n with
 | zero=>simp_all
 | succ n u=>
  intro h
  obtain⟨xs,h1,h2⟩:=u λi hi=>h i bL
  obtain⟨x,E⟩:=h n bL
  refine⟨xs++[x],by simp[h1],λi y B=>?_⟩
  grind
def Pa{α:Type}[Flat α]{xs:List α}{j:Nat}{c:Value}(h:(flat xs)[j]?=some c):∃i r x,xs[i]?=some x/\(kp x)[r]?=some c/\j=i*nk α+r:=by
 have E:j<(flat xs).length:=(kE.1 h).1
 rw[dI]at E
 have B:0<nk α:=aaD
 have hi:j / nk α<xs.length:=Nat.div_lt_of_lt_mul cD
 have u:j % nk α<nk α:=abW _ B
 have I:j=j / nk α*nk α+j % nk α:=by rw[Nat.mul_comm];exact(Nat.div_add_mod _ _).symm
 have G:xs[j / nk α]?=some (xs[j / nk α]):=lU hi
 have hc:(kp (xs[j / nk α]))[j % nk α]?=some ((kp (xs[j / nk α]))[j % nk α]'(by rw[AQ];exact u)):=lU _
 have:=rO G hc
 grind
section
variable {H:Type}{enc:TypeId×Value->H}{P:Program}{w:World}{base:Nat}{held:Bool}
theorem open_i64{r:Reach}{B:Nat}{t:TypeId}{v:Value}{d:DataW H}{ps:List MemPlace}{E:Nat->Bool}(ht:P.underlying t=some (.int .i64))(u:P2 P w r B t v)(hd:DataW.Trod enc P w base E held t v d ps) :
  ∃n,v=ir n/\eT n:=by
 obtain⟨n,h1,_,_,h4⟩:=open_int ht u hd
 exact⟨n,h1,by simpa[Lit.wf,IntKind.min,IntKind.max,IntKind.signed,IntKind.bits,eT]using h4⟩
def Jr(P:Program)(ts:List TypeId):Bool:=ts.all λt=>P.readableRec t&&decide (t<P.types.size)
theorem yS(G:laidOutB P=true){W E:World}(hb:Below W.heap.size W E){I:Nat->Bool}:∀{ts:List TypeId}{vs:List Value}{ds:List (DataW H)}{ps:List MemPlace},Jr P ts=true->(∀x∈ps,x.block<W.heap.size)->
  (∀x∈ps,I x.block=true)->DataW.TrodAll enc P W 0 (λ_=>true) true ts vs ds ps->DataW.TrodAll enc P E 0 I true ts vs ds ps
 | [],vs,ds,ps,_,_,_,h=>by obtain⟨rfl,rfl,rfl⟩:=trodAll_nil h;exact trodAll_mk0
 | t::ts,vs,ds,ps,hr,nw,Ae,h=>by
  obtain⟨v,J,d,M,a,b,rfl,rfl,rfl,h1,h2⟩:=trodAll_cons h
  have u:P.readableRec t=true/\t<P.types.size/\Jr P ts=true:=by
   grind[Jr]
  refine trodAll_cons_mk (WideElems.Trod_stays G u.1 u.2.1 h1 (λx B=>hb.same (nw x (List.mem_append_left _ B))) λx B=>Ae x (List.mem_append_left _ B)) ?_
  exact yS G hb u.2.2 (λx B=>nw x (List.mem_append_right _ B)) (λx B=>Ae x (List.mem_append_right _ B)) h2
theorem post_true{f:Func}{s:ChangeSpec}{apart fresh handsOn again:Bool}{W I:World}{args:Array Value}{ds gs:List (DataW H)}{before:List MemPlace}{tb:TypeId}
  (U:s.vars=[]) (hfn:∀ds:List (DataW H),ds.length=f.params.size->s.fn H ds={results:=[.lit (.bool true)],args:=ds}) (O:f.resultTypes = #[tb]) (M:P.underlying tb=some .bool)
  (hl:laidOutB P=true) (aiU:Jr P f.params.toList=true)
  (hW:DataW.Whole enc P f.params.toList s.vars apart W args.toList ds gs before) (hb:Below W.heap.size W I) :
  s.post enc P f apart fresh handsOn again W args (.bool true) I:=by
 have J:=hW
 obtain⟨p,q,hA,hV,Z,hz,hn⟩:=hW
 have nw:∀x∈before,x.block<W.heap.size:=J.lt
 rw[U]at hV
 obtain⟨rfl,rfl⟩:=trodVars_none hV
 simp only[qb]at Z
 have hlen:ds.length=f.params.size:=by
  have:=(trodAll_length hA).2
  omega
 have E:=hfn ds hlen
 have V:∀(b:Nat) (B:Nat->Bool) (hd:Bool),DataW.TrodAll enc P I b B hd f.resultTypes.toList ((x6 true).resultList f.resultTypes.size) (s.fn H (ds++[])).results []:=λb B hd=>by
  rw[qb,E,O]
  exact trodAll_mk1 (shut_bool M true)
 have u:∀B:Nat->Bool,(∀p∈before,B p.block=true)->DataW.TrodAll enc P I 0 B true f.params.toList args.toList (s.fn H (ds++[])).args before:=λB Ae=>by
  rw[qb,E]
  rw[Z]at nw Ae |-
  exact yS hl hb aiU nw Ae hA
 have Xv:∀B:Nat->Bool,DataW.TrodVars enc P I B s.vars (s.fn H (ds++[])).vars []:=λB=>by
  rw[qb,E,U];rfl
 have iv:∀(j:Nat) (t:TypeId) (r:Value),f.resultTypes[j]?=some t->((x6 true).resultList f.resultTypes.size)[j]?=some r->P2 P I .any 0 t r:=
  ok_one O rfl (okWide_bool_mk M true)
 have hold:∀p∈before,(λb=>decide (b<W.heap.size)) p.block=true:=λp hp=>cD
 refine⟨ds,[],before,[],before,[],J,V _ _ _,u _ hold,Xv _,World.keptBut_mono (λp hp=>⟨hp,?_⟩) (hb.frame (·∈before)),λ_=>?_⟩
 .grind
 refine⟨iv,_,_,([]++before)++[],⟨[]++before,[],trodAll_append (u _ λ_ _=>rfl) (V _ _ _),Xv _,rfl,?_,?_⟩,?_⟩
 .intro b G hp
  have Y:MemPlace.cell b G∈before:=cD
  rw[hb.frozen (p:=⟨b,G,none⟩) (nw _ Y)]
  exact hz b G Y
 .grind
 grind
end
section
variable {P:Program}{α:Type}[Flat α]
def aoV(P:Program)(T n E:Nat):Prop:=P.underlying T=some (.array n E)/\pr P (sizeOf E)=some 1
theorem oP{T E n b o:Nat}{i:Int}{K:Value->Prop}(h:aoV P T n E)(u:0<=i)(h1:i<n)(k:K (.pointer (some ⟨b,o+i.toNat,none⟩))) :
  eK P (H5 T (.pointer (some ⟨b,o,none⟩)) (ir i)) K:=by
 refine⟨_,?_,k⟩
 unfold H5
 have B:pr P (underlying T)=some (.array n E):=cJ h.1
 have G:pr P (Instr.sureAddr (.pointer (some (⟨b,o,none⟩:Addr))))=some ⟨b,o,none⟩:=rfl
 simp only[asIntOf,cI,B,mv,eS,G]
 simp only[ej (show 0<=i/\i<(n:Int)from⟨u,h1⟩),cI,h.2,mv,eS,gi,Nat.mul_one]
end
def Sg{α:Type}[Flat α]{P:Program}{w w0:World}{A:Nat->Prop}{L:List HP}{xs:List α}{T:Nat}{v p:Value}{i:Nat}{x:α}(G:St w0 A (bF v xs::L) w)(ht:cY P T=some (Kz α,nk α))(I:Ht α v i p)(B:xs[i]?=some x) :
  (z9 T p).run P w=.ok (jr x) w:=by
 obtain⟨F,h,_⟩:=G.head
 obtain⟨b,cap,rest,E,hb,M,_⟩:=rC h (kE.1 B).1
 obtain⟨O,n,c,u,rfl⟩:=I
 rw[E]at u
 simp only[Be.injEq,ob.injEq,Addr.mk.injEq]at u
 obtain⟨⟨rfl,_,_⟩,_,_⟩:=u
 refine fq (S:=λ_=>True) ht ⟨b,i*nk α,rfl,trivial,λj c J=>hb.cell ?_⟩
 have:=rO B J
 rw[uc (kE.1 this).1];exact this
class Deep (α:Type) (σ:outParam Type) [Flat σ] where
 dr:World->σ->α->Prop
 ext:∀{w w':World}{s:σ}{x:α},dr w s x->Ext w w'->dr w' s x
def DL{α σ:Type}[Flat σ][Deep α σ](w:World)(v:Value)(xs:List α):Prop:=
 ∃ts:List σ,cZ (λ_=>True) w v ts/\ts.length=xs.length/\∀(i:Nat) (t:σ) (x:α),ts[i]?=some t->xs[i]?=some x->Deep.dr w t x
section
variable {P:Program}{α σ:Type}[Flat σ] [Deep α σ] {w w' w0:World}{v:Value}{A:Nat->Prop}{L:List HP}
theorem DL.ext{xs:List α}(h:DL w v xs)(e:Ext w w'):DL w' v xs:=by
 obtain⟨ts,h1,h2,h3⟩:=h;exact⟨ts,h1.ext e,h2,λi t x a b=>Deep.ext (h3 i t x a b) e⟩
theorem DL.nil(w:World):DL w (.slice none 0 0) ([]:List α):=⟨[],cZ.nil _ _,rfl,λi t x h=>by simp at h⟩
theorem DL.fK{xs:List α}(h:DL w v xs):∃s:SV,v=jr s:=by obtain⟨_,h,_⟩:=h;exact h.fK
instance:Deep (List α) SV where
 dr w s xs:=DL w (jr s) xs
 ext h e:=DL.ext h e
def eC(Φ:hM):HP where
 p w F:=(∀w':World,(∀b,F b->w'.heap[b]?=w.heap[b]?)->Φ w')/\∀b,F b->b<w.heap.size
 loc w w' F h hh:=⟨λu h2=>h.1 u λb hb=>(h2 b hb).trans (hh b hb),λb hb=>by
  grind⟩
 lt w F b h hb:=h.2 b hb
theorem eC.now{Φ:hM}{F:Nat->Prop}(h:(eC Φ).p w F):Φ w:=h.1 w λ_ _=>rfl
theorem St.eC{Φ:hM}(u:St w0 A (eC Φ::L) w):Φ w:=by obtain⟨F,h,_⟩:=u.head;exact eC.now h
theorem St.dH{Φ Ψ:hM}(B:St w0 A (Fw.eC Φ::L) w)(E:∀w,Φ w->Ψ w):St w0 A (Fw.eC Ψ::L) w:=
 B.qm λF u=>⟨F,⟨λw' h=>E _ (u.1 w' h),u.2⟩,λb hb=>.inl hb,gD.refl _ _⟩
theorem St.fX{Φ Ψ:hM}(B:St w0 A (Fw.eC Φ::Fw.eC Ψ::L) w):St w0 A (Fw.eC (λw=>Φ w/\Ψ w)::L) w:=by
 have h:=St.join B
 refine h.qm λF E=>?_
 obtain⟨G,I,h1,h2,h3,h4⟩:=E
 refine⟨F,⟨λw' u=>⟨h1.1 w' λb hb=>u b ((h4 b).2 (.inl hb)),h2.1 w' λb hb=>u b ((h4 b).2 (.inr hb))⟩,λb hb=>?_⟩,λb hb=>.inl hb,gD.refl _ _⟩
 rcases(h4 b).1 hb with hb|hb
 .exact h1.2 b hb
 exact h2.2 b hb
theorem St.gE{Φ:hM}(u:St w0 A L w)(h:∀w,Φ w):St w0 A (Fw.eC Φ::L) w:=
 u.new (Ext.refl w) (F:=aX) ⟨λw' _=>h w',λb hb=>hb.elim⟩ λ_ h=>h.elim
theorem St.freeze{xs:List σ}(B:St w0 A (bF v xs::L) w):St w0 A (Fw.eC (λw=>cZ (λ_=>True) w v xs)::L) w:=
 B.qm λF u=>⟨F,⟨λw' h=>(bF.rd ((bF v xs).loc _ _ _ u h)).mono λ_ _=>trivial,λb hb=>(bF v xs).lt _ _ _ u hb⟩,λb hb=>.inl hb,gD.refl _ _⟩
theorem St.rD{b:Nat}{cs:List Value}(B:St w0 A (bX b cs::L) w):St w0 A (Fw.eC (λw=>pk w b cs)::L) w:=
 B.qm λF u=>⟨F,⟨λw' h=>((bX b cs).loc _ _ _ u h).1,λk E=>(bX b cs).lt _ _ _ u E⟩,λb hb=>.inl hb,gD.refl _ _⟩
def gd(ts:List σ)(xs:List α)(w:World):Prop:=ts.length=xs.length/\∀(i:Nat) (t:σ) (x:α),ts[i]?=some t->xs[i]?=some x->Deep.dr w t x
theorem gd.nil:gd ([]:List σ) ([]:List α) w:=⟨rfl,λi t x h=>by simp at h⟩
theorem gd.snoc{ts:List σ}{xs:List α}{t:σ}{x:α}(h:gd ts xs w)(ht:Deep.dr w t x):gd (ts++[t]) (xs++[x]) w:=by
 grind[gd]
theorem gd.append{ts us:List σ}{xs ys:List α}(h:gd ts xs w)(g:gd us ys w):gd (ts++us) (xs++ys) w:=by
 grind[gd]
theorem gd.ext{ts:List σ}{xs:List α}(h:gd ts xs w)(e:Ext w w'):gd ts xs w':=⟨h.1,λi t x a b=>Deep.ext (h.2 i t x a b) e⟩
theorem DL.of{ts:List σ}{xs:List α}(h:cZ (λ_=>True) w v ts)(g:gd ts xs w):DL w v xs:=⟨ts,h,g.1,g.2⟩
theorem DL.open{xs:List α}(h:DL w v xs):∃ts:List σ,cZ (λ_=>True) w v ts/\gd ts xs w:=by obtain⟨ts,h1,h2,h3⟩:=h;exact⟨ts,h1,h2,h3⟩
theorem gd.take{ts:List σ}{xs:List α}(h:gd ts xs w)(k:Nat):gd (ts.take k) (xs.take k) w:=by
 grind[gd]
theorem gd.drop{ts:List σ}{xs:List α}(h:gd ts xs w)(k:Nat):gd (ts.drop k) (xs.drop k) w:=by
 grind[gd]
end
section
variable {α:Type}[Flat α]
abbrev iZ:Deep α α:=⟨λ_ s x=>s=x,λh _=>h⟩
theorem Hz[D:Deep α α](u:∀w s x,D.dr w s x↔s=x){w:World}{ts xs:List α}:gd ts xs w↔ts=xs:=by
 constructor
 .rintro⟨h1,h2⟩
  refine List.ext_getElem? λi=>?_
  grind
 grind[gd]
end
instance:Deep Int Int:=iZ
instance:Deep Bool Bool:=iZ
instance:Deep ByteArray ByteArray:=iZ
structure RdW(P:Program)(w:World)(t:TypeId)(α:Type)[Flat α](φ:α->Prop):Prop where
 cells:P.cellsOf t=nk α
 rd:∀{H:Type}(enc:TypeId×Value->H) (base:Nat) (held:Bool) (fuel:Nat) (cs:List Value) (x:DataW H×List MemPlace),
  DataW.trod enc P w base (λ_=>true) held fuel t cs=some x->∃a:α,cs=kp a/\φ a
def yT(P:Program)(t:TypeId)(α:Type){σ:Type}[Flat σ][Deep α σ](φ:α->Prop):Prop:=∀w,RdW P w t σ (λs=>∃a:α,Deep.dr w s a/\φ a)
def RdT.deep{P:Program}{t:TypeId}{α:Type}[Flat α][D:Deep α α]{φ:α->Prop}(h:RdT P t α φ)(u:∀w (x:α),D.dr w x x):yT P t α φ:=
 λw=>⟨h.cells,λenc base held fuel cs x B=>by
  obtain⟨a,h1,h2⟩:=h.rd enc w base _ held fuel cs x B;exact⟨a,h1,a,u w a,h2⟩⟩
section
variable {H:Type}{enc:TypeId×Value->H}{P:Program}{w:World}{base:Nat}{held:Bool}
theorem LM{α:Type}[Flat α]{φ:α->Prop}{t e:TypeId}{fuel:Nat}{cs:List Value}{x:DataW H×List MemPlace}(ht:P.underlying t=some (.slice e))(M:RdW P w e α φ)
  (h:DataW.trod enc P w base (λ_=>true) held fuel t cs=some x):∃v,cs=[v]/\∃xs:List α,cZ (λb=>b<w.heap.size) w v xs/\∀x∈xs,φ x:=by
 rcases DataW.trod_slice ht h with⟨rfl,_⟩|⟨a,len,cap,elems,rest,n,_,rfl,_,hb,hl,hm,hlen,Z,Ae,_⟩
 .exact⟨_,rfl,[],cZ.nil _ _,ee⟩
 refine⟨_,rfl,?_⟩
 have get:∀i,i<len->∃x:α,φ x/\w.cells? base (a.add (i*P.cellsOf e)) (P.cellsOf e)=some (kp x):=by
  intro i hi
  have h1:=Z i hi
  rw[lU bL]at h1
  obtain⟨cs',h2,h3⟩:=PW.1 h1
  obtain⟨x,rfl,G⟩:=M.rd enc base held n cs' _ h3
  grind
 obtain⟨xs,J,I⟩:=adf len get
 have V:=M.cells
 have O:0<nk α:=aaD
 have first:∀(c:Nat) (cs':List Value),w.cells? base (a.add (c*P.cellsOf e)) (P.cellsOf e)=some cs'->c=0->a.spot=none:=by
  intro c cs' h1 E
  subst E
  have:=aaG h1
  have h2:=this.2.2 0 bL
  rw[Nat.zero_mul]at h2
  have h3:w.cell? a=cs'[0]?:=by simpa[Addr.add]using h2
  rw[lU bL]at h3
  unfold World.cell? at h3
  split at h3
  .simp_all
  .cases h3
 refine⟨xs,⟨some a,cap,by rw[J],bL,?_⟩,λx G=>?_⟩
 .by_cases ye:cap=0
  .simp_all
  right
  have B:a.spot=none:=by
   by_cases E:0<len
   .grind
   .obtain⟨h1,h2⟩:=Ae rfl
    have h3:=h2 0 bL
    rw[lU bL]at h3
    obtain⟨cs',h4,_⟩:=PW.1 h3
    grind
  have u:∀j c,(flat xs)[j]?=some c->Cell w a.block (a.off+j) c:=by
   intro j c Y
   obtain⟨i,r,x,G,U,rfl⟩:=Pa Y
   have h1:=(aaG (I i x G).2).2.2 r (by rw[V];have:=(kE.1 U).1;rwa [AQ]at this)
   rw[U,V]at h1
   obtain⟨b,o,s⟩:=a
   simp only at B
   subst B
   unfold Cell
   rw[<- h1,gi,gi,Pt]
  refine⟨a.block,a.off,by obtain⟨b,o,s⟩:=a;grind,λW=>?_,u⟩
  obtain⟨y,ys,rfl⟩:=List.exists_cons_of_ne_nil W
  have E:(flat (y::ys))[0]?=some ((kp y)[0]'(by rw[AQ];exact O)):=by
   rw[jV,uc (by rw[AQ];exact O),lU]
  exact(u 0 _ E).lt
 obtain⟨i,hi⟩:=List.getElem?_of_mem G
 grind
theorem Pb{α σ:Type}[Flat σ][Deep α σ]{φ:α->Prop}:∀(ts:List σ),(∀s∈ts,∃a:α,Deep.dr w s a/\φ a)->∃xs:List α,gd ts xs w/\∀x∈xs,φ x
 | [],_=>⟨[],gd.nil,ee⟩
 | t::ts,h=>by
  obtain⟨a,h1,h2⟩:=h t ee
  obtain⟨xs,h3,h4⟩:=Pb ts λs u=>h s (List.mem_cons_of_mem _ u)
  refine⟨a::xs,?_,λx B=>?_⟩
  .grind[gd]
  grind
theorem yT.slice{α σ:Type}[Flat σ][Deep α σ]{φ:α->Prop}{t e:TypeId}(ht:P.underlying t=some (.slice e))(hc:P.cellsOf t=1)(B:yT P e α φ):yT P t (List α) (λxs=>∀x∈xs,φ x):=
 λw=>⟨hc,λenc base held fuel cs x E=>by
  obtain⟨v,rfl,ts,h1,h2⟩:=LM ht (B w) E
  obtain⟨xs,h3,h4⟩:=Pb ts h2
  have u:cZ (λ_=>True) w v ts:=h1.mono λ_ _=>trivial
  obtain⟨s,rfl⟩:=u.fK
  exact⟨s,rfl,xs,DL.of u h3,h4⟩⟩
theorem open_dl{α σ:Type}[Flat σ][Deep α σ]{φ:α->Prop}{t e:TypeId}{r:Reach}{E:Nat}{v:Value}{d:DataW H}{ps:List MemPlace}(ht:P.underlying t=some (.slice e))(J:yT P e α φ)
  (B:P2 P w r E t v) (hd:DataW.Trod enc P w base (λ_=>true) held t v d ps):∃xs:List α,DL w v xs/\∀x∈xs,φ x:=by
 obtain⟨fuel,I⟩:=hd
 obtain⟨u,M,ts,h1,h2⟩:=LM ht (J w) I
 have G:v=u:=by
  have h1:=B
  unfold P2 at h1
  rw[ht]at h1
  cases v with
  | slice a n c=>exact(List.cons.inj (show [Be a n c]=[u]from M)).1
  | _=>
   have h2:Cell.okWide P w r E t _:=h1
   unfold Cell.okWide at h2
   rw[ht]at h2
   simp only[Cell.ok,ht]at h2
 subst G
 obtain⟨xs,h3,h4⟩:=Pb ts h2
 exact⟨xs,DL.of (h1.mono λ_ _=>trivial) h3,h4⟩
theorem open_dst{α σ:Type}[Flat σ][Deep α σ]{φ:α->Prop}{t:TypeId}{I:Array Field}{r:Reach}{J:Nat}{v:Value}{d:DataW H}{ps:List MemPlace}(ht:P.underlying t=some (.struct I))(M:Kz σ=true)
  (E:yT P t α φ) (u:P2 P w r J t v) (hd:DataW.Trod enc P w base (λ_=>true) held t v d ps):∃(s:σ) (x:α),v=jr s/\Deep.dr w s x/\φ x:=by
 obtain⟨fuel,B⟩:=hd
 obtain⟨s,G,x,h1,h2⟩:=(E w).rd enc base held fuel _ _ B
 unfold P2 at u
 rw[ht]at u
 obtain⟨cs,rfl,_⟩:=u
 refine⟨s,x,?_,h1,h2⟩
 rw[ab0 M,<- G]
 simp[Value.cells]
end
def BM(x:Int):Int:=IntKind.i64.wrap x
theorem zB{x:Int}(h : -9223372036854775808<=x/\x<=9223372036854775807):BM x=x:=IntWalk.i64_in _ h
section
variable {P:Program}{T:Nat}{cx cy:Bool}{a b:Int}{K:Value->Prop}
theorem uL(k:K (ir (BM (a+b)))):eK P (jQ .add T cx cy (ir a) (ir b)) K:=⟨_,rfl,k⟩
theorem AK(k:K (ir (BM (a-b)))):eK P (jQ .sub T cx cy (ir a) (ir b)) K:=⟨_,rfl,k⟩
theorem xf(k:K (ir (BM (a*b)))):eK P (jQ .mul T cx cy (ir a) (ir b)) K:=⟨_,rfl,k⟩
theorem Xw(k:K (ir (BM (0-a)))):eK P (Op.unary .neg (ir a)) K:=⟨_,rfl,k⟩
theorem EM(h:b≠0)(k:K (ir (BM (a.tdiv b)))):eK P (jQ .quo T cx cy (ir a) (ir b)) K:=by
 refine⟨_,?_,k⟩
 show pr P (Op.intDiv .quo .i64 a b)=_
 unfold Op.intDiv
 rw[ei h];rfl
theorem Xx(h:b≠0)(k:K (ir (a.tmod b))):eK P (jQ .rem T cx cy (ir a) (ir b)) K:=by
 refine⟨_,?_,k⟩
 show pr P (Op.intDiv .rem .i64 a b)=_
 unfold Op.intDiv
 rw[ei h];rfl
end
def EN{α:Type}[Flat α]{P:Program}{w w0:World}{A:Nat->Prop}{L:List HP}{xs:List α}{T E V:Nat}{z:Option Nat}{v:Value}{i:Int}{K:Value->Prop}(ht:eM P T=some (E,nk α,V,z))
  (J:St w0 A (bF v xs::L) w) (Y:0<=i) (h1:i<=xs.length) (k:∀M,St w0 A (bF M (xs.take i.toNat)::L) w->K M):eK P (oa T v none (some (ir i)) none) K:=by
 obtain⟨a,cap,u,BZ,_⟩:=J.dS
 refine⟨_,(by rw[u];exact wS ht (og (.inl ⟨rfl,rfl⟩) (.inr ⟨i,rfl,Y,rfl⟩) (l2 _) bL)),k _ ?_⟩
 refine J.qm λF B=>?_
 rcases B with⟨G,hx,O⟩|⟨b,Z,rest,U,hb,I,B⟩
 .rw[G]at u
  subst hx
  simp only[Be.injEq]at u
  obtain⟨rfl,_,rfl⟩:=u
  have hi:i.toNat=0:=by simp at h1;omega
  refine⟨F,.inl ⟨?_,ee,O⟩,λb hb=>.inl hb,gD.refl _ _⟩
  rw[hi];rfl
 rw[U]at u
 simp only[Be.injEq]at u
 obtain⟨rfl,_,rfl⟩:=u
 refine⟨F,.inr ⟨b,Z,flat (xs.drop i.toNat)++rest,?_,?_,?_,B⟩,λb hb=>.inl hb,gD.refl _ _⟩
 .have W:(xs.take i.toNat).length=i.toNat:=by rw[l9];omega
  rw[W]
  simp[gi]
 .rw[<- n4,<- ig,qT];exact hb
 exact⟨vJ (by rw[l9];omega) I.1,by rw[<- n4,<- ig,qT];exact I.2⟩
section
variable {P:Program}{w w':World}{v:Value}
theorem DL.flat{α:Type}[Flat α][D:Deep α α]{xs:List α}(h:DL w v xs)(u:∀w s x,D.dr w s x↔s=x:=by intros;exact Iff.rfl):cZ (λ_=>True) w v xs:=by
 obtain⟨ts,h1,h2⟩:=h.open
 rw[(Hz u).1 h2]at h1;exact h1
theorem DL.ki{α:Type}[Flat α][D:Deep α α]{xs:List α}(h:cZ (λ_=>True) w v xs)(u:∀w s x,D.dr w s x↔s=x:=by intros;exact Iff.rfl):DL w v xs:=DL.of h ((Hz u).2 rfl)
theorem LN{α:Type}[Flat α]{S:Nat->Prop}{xs:List α}{T E I:Nat}{z:Option Nat}{lo hi:Option Value}{l h:Nat}{K:Value->Prop}(ht:eM P T=some (E,nk α,I,z))(B:cZ S w v xs)
  (G:lo=none/\l=0\/∃i:Int,lo=some (ir i)/\0<=i/\l=i.toNat) (M:hi=none/\h=xs.length\/∃i:Int,hi=some (ir i)/\0<=i/\h=i.toNat)
  (h1:l<=h) (h2:h<=xs.length) (k:∀u,(∀w',cZ S w' v xs->cZ S w' u ((xs.take h).drop l))->K u):eK P (oa T v lo hi none) K:=by
 obtain⟨a,cap,rfl,O,h3⟩:=B
 exact⟨_,wS ht (og G M h1 bL),k _ λw' J=>J.cut rfl h1 h2⟩
theorem zC{α:Type}[Flat α]{S:Nat->Prop}{xs:List α}{T E I:Nat}{z:Option Nat}{i:Int}{K:Value->Prop}(ht:eM P T=some (E,nk α,I,z))(B:cZ S w v xs)
  (G:0<=i) (h2:i<=xs.length) (k:∀u,(∀w',cZ S w' v xs->cZ S w' u (xs.drop i.toNat))->K u):eK P (oa T v (some (ir i)) none none) K:=
 LN ht B (.inr ⟨i,rfl,G,rfl⟩) (.inl ⟨rfl,rfl⟩) bL (sl _) λu h=>k u λw' J=>cD
theorem oq{α:Type}[Flat α]{S:Nat->Prop}{xs:List α}{T E I:Nat}{z:Option Nat}{i j:Int}{K:Value->Prop}(ht:eM P T=some (E,nk α,I,z))(B:cZ S w v xs)
  (G:0<=i) (h1:i<=j) (h2:j<=xs.length) (k:∀u,(∀w',cZ S w' v xs->cZ S w' u ((xs.take j.toNat).drop i.toNat))->K u):eK P (oa T v (some (ir i)) (some (ir j)) none) K:=
 LN ht B (.inr ⟨i,rfl,G,rfl⟩) (.inr ⟨j,rfl,bL,rfl⟩) bL bL k
theorem DL.cut{α σ:Type}[Flat σ][Deep α σ]{xs:List α}{ts:List σ}{u:Value}{l h:Nat}(E:∀w',cZ (λ_=>True) w' v ts->cZ (λ_=>True) w' u ((ts.take h).drop l))(B:cZ (λ_=>True) w v ts)(G:gd ts xs w):DL w u ((xs.take h).drop l):=
 DL.of (E w B) ((G.take h).drop l)
theorem DL.Xy{α σ:Type}[Flat σ][Deep α σ]{xs:List α}{ts:List σ}{u:Value}{l:Nat}(E:∀w',cZ (λ_=>True) w' v ts->cZ (λ_=>True) w' u (ts.drop l))(B:cZ (λ_=>True) w v ts)(G:gd ts xs w):DL w u (xs.drop l):=
 DL.of (E w B) (G.drop l)
theorem EO{a b:ByteArray}:(a.toList == b.toList)=decide (a=b):=by
 rw[ByteArray.toList_eq,ByteArray.toList_eq,Bool.eq_iff_iff,beq_iff_eq,decide_eq_true_eq]
 constructor
 .intro h
  obtain⟨a⟩:=a
  simp_all
 grind
theorem jz{T:Nat}{cx cy:Bool}{a b:ByteArray}{K:Value->Prop}(k:K (.bool (decide (a=b)))):eK P (jQ .eql T cx cy (.string a) (.string b)) K:=by
 rw[<- EO]at k
 exact⟨_,rfl,k⟩
theorem lW{T:Nat}{cx cy:Bool}{a b:ByteArray}{K:Value->Prop}(k:K (.bool (decide (¬ a=b)))):eK P (jQ .neq T cx cy (.string a) (.string b)) K:=by
 refine⟨_,rfl,?_⟩
 have:(!(a.toList == b.toList))=decide (¬ a=b):=by rw[EO];grind
 grind
end
def iO(s:ByteArray):List UInt8:=s.data.toList
theorem eV(s:ByteArray):(iO s).length=s.size:=by simp_all[iO]
theorem Sh(s:ByteArray)(i:Nat):(iO s)[i]?=if h:i<s.size then some (s[i]'h)else none:=by
 unfold iO
 by_cases h:i<s.size
 .rw[dif_pos h,Array.getElem?_toList]
  exact Array.getElem?_eq_getElem h
 simp_all
section
variable {P:Program}{T R:Nat}{cx cy:Bool}{a b:Int}{K:Value->Prop}
theorem fe{s:ByteArray}(u:P.underlying T=some .string)(k:K (ir (s.size:Int))):eK P (Builtin.len_ #[T] R [IF s].toArray) K:=by
 refine⟨_,?_,k⟩
 show pr P (do
  match <- underlying T,IF s with
  | .string,.string s=>pure (goInt s.size)
  | .array n _,_=>pure (goInt n)
  | .pointer arr,_=>
   let .array n _ <- underlying arr|stuck "len: pointer to array expected"
   pure (goInt n)
  | .slice _,.slice _ n _=>pure (goInt n)
  | .map _ _,.map none|.chan _ _,.chan none=>pure (goInt 0)
  | .map _ _,.map (some r)=>
   let .map entries _ <- getObj r|stuck "len: map expected"
   pure (goInt entries.size)
  | .chan _ _,.chan (some r)=>
   let .chan _ buf _ _ _ timer <- getObj r|stuck "len: channel expected"
   pure (goInt (if timer then 0 else buf.size))
  | _, _ => stuck "len: string, array, pointer to array, slice, map or channel expected")=_
 rw[cI,cJ u];rfl
theorem jO{s:ByteArray}{i:Int}{e:UInt8}(B:P.underlying T=some .string)(E:0<=i)(u:(iO s)[i.toNat]?=some e)(k:K (.int .u8 (e.toNat:Int))):eK P (wk T (.string s) (ir i)) K:=by
 refine⟨_,?_,k⟩
 rw[Sh]at u
 have hi:i.toNat<s.size:=by
  grind
 rw[dif_pos hi]at u
 have h3:(if 0<=i then s[i.toNat]? else none)=some e:=cD
 unfold wk
 simp only[asIntOf,cI,cJ B,mv,eS,h3]
theorem nX{s:ByteArray}{i:Int}(u:P.underlying T=some .string)(B:0<=i)(h1:i<=s.size)(k:K (.string (s.extract 0 i.toNat))):eK P (oa T (.string s) none (some (ir i)) none) K:=by
 refine⟨_,?_,k⟩
 unfold oa
 rw[cI,cJ u]
 simp only[mv]
 unfold Qu
 rw[cI,cJ u]
 simp only[mv]
 rw[ei dy]
 have hb:pr P (wN false s.size s.size none (some (ir i)) none)=some (0,i.toNat,s.size):=by
  simp only[wN,cI,eS,mv]
  rw[jh B h1];rfl
 rw[cI,hb];rfl
theorem LO{s:ByteArray}{i j:Int}(u:P.underlying T=some .string)(B:0<=i)(E:i<=j)(h1:j<=s.size)(k:K (.string (s.extract i.toNat j.toNat))):eK P (oa T (.string s) (some (ir i)) (some (ir j)) none) K:=by
 refine⟨_,?_,k⟩
 unfold oa
 rw[cI,cJ u]
 simp only[mv]
 unfold Qu
 rw[cI,cJ u]
 simp only[mv]
 rw[ei dy]
 have hb:pr P (wN false s.size s.size (some (ir i)) (some (ir j)) none)=some (i.toNat,j.toNat,s.size):=by
  simp only[wN,cI,eS,mv]
  rw[jh bL h1];simp only[mv];rw[jh B bL];rfl
 rw[cI,hb];rfl
theorem AL(k:K (.bool (decide (a<=b)))):eK P (jQ .leq T cx cy (.int .u8 a) (.int .u8 b)) K:=⟨_,rfl,k⟩
theorem AM(k:K (.bool (decide (b<=a)))):eK P (jQ .geq T cx cy (.int .u8 a) (.int .u8 b)) K:=⟨_,rfl,k⟩
theorem nI(k:K (.bool (decide (a=b)))):eK P (jQ .eql T cx cy (.int .u8 a) (.int .u8 b)) K:=⟨_,rfl,k⟩
theorem Xz(k:K (.bool (decide (a≠b)))):eK P (jQ .neq T cx cy (.int .u8 a) (.int .u8 b)) K:=
 ⟨_,(show pr P (jQ .neq T cx cy (.int .u8 a) (.int .u8 b))=some (.bool (decide (a≠b)))from by
  show some (x6 (a != b))=_
  grind),k⟩
theorem LP{t:Array TypeId}{R:TypeId}{c:Int}(k:K (ir (max (max a b) c))):eK P (Builtin.max_ t R [ir a,ir b,ir c].toArray) K:=by
 refine⟨_,?_,k⟩
 show pr P (do Builtin.max2 (<- Builtin.max2 (ir a) (ir b)) (ir c))=_
 have h:∀x y:Int,pr P (Builtin.max2 (ir x) (ir y))=some (ir (max x y)):=by
  intro x y
  unfold Builtin.max2
  by_cases h:x<y
  .simp[h,eS];omega
  .simp[h,eS];omega
 rw[cI,h]
 exact h _ _
end
def fy{α σ:Type}[Flat σ][Deep α σ](v:Value)(xs:List α):HP:=oO λts:List σ=>sep (bF v ts) (eC (gd ts xs))
section
variable {P:Program}{α σ:Type}[Flat σ] [D:Deep α σ] {w w' w0:World}{v src:Value}{A:Nat->Prop}{L:List HP}{xs ys:List α}
theorem St.v8(u:St w0 A (fy v xs::L) w):∃ts:List σ,St w0 A (bF v ts::Fw.eC (gd ts xs)::L) w:=by
 obtain⟨ts,h⟩:=u.dK;exact⟨ts,h.split⟩
theorem St.xg{ts:List σ}(u:St w0 A (bF v ts::Fw.eC (gd ts xs)::L) w):St w0 A (fy v xs::L) w:=
 St.dT (H:=λts:List σ=>sep (bF v ts) (Fw.eC (gd ts xs))) ts (St.join u)
theorem St.XA{ts:List σ}(u:St w0 A (bF v ts::Fw.eC (gd ts xs)::L) w):ts.length=xs.length:=u.p1.eC.1
theorem St.EP(u:St w0 A L w):St w0 A (fy (.slice none 0 0) ([]:List α)::L) w:=
 St.xg (ts:=[]) ((u.gE λ_=>gd.nil).eU)
theorem St.awH(u:St w0 A (bF v ([]:List σ)::L) w):St w0 A (fy v ([]:List α)::L) w:=
 St.xg (ts:=[]) (u.gE (Φ:=gd ([]:List σ) ([]:List α)) λ_=>gd.nil).p1
theorem St.awI{s:σ}{x:α}(u:St w0 A (bF v [s]::Fw.eC (λw=>Deep.dr w s x)::L) w):St w0 A (fy v [x]::L) w:=by
 refine St.xg (ts:=[s]) ?_
 refine(u.p1.dH (Ψ:=gd [s] [x]) λw h=>?_).p1
 exact(gd.nil (w:=w)).snoc h
theorem St.awJ{ts us:List σ}(u:St w0 A (bF v (ts++us)::Fw.eC (gd ts xs)::Fw.eC (gd us ys)::L) w):St w0 A (fy v (xs++ys)::L) w:=by
 have h1:=(u.p1:St w0 A (Fw.eC (gd ts xs)::bF v (ts++us)::Fw.eC (gd us ys)::L) w)
 have h2:=h1.p2.p1
 refine St.xg (ts:=ts++us) ?_
 exact(h2.fX.dH (Ψ:=gd (ts++us) (xs++ys)) λw h=>h.1.append h.2).p1
theorem St.oQ(u:St w0 A (fy v xs::L) w):St w0 A (Fw.eC (λw=>DL w v xs)::L) w:=by
 obtain⟨ts,h⟩:=u.v8
 exact h.freeze.fX.dH λw h=>DL.of h.1 h.2
theorem St.dl(u:St w0 A (fy v xs::L) w):DL w v xs:=u.oQ.eC
theorem St.oR(u:St w0 A (fy v xs::L) w):∃s:SV,v=jr s:=u.dl.fK
theorem St.enc{b:Nat}{cs cs':List Value}(u:St w0 A (bX b cs::L) w)(h:cs=cs'):St w0 A (bX b cs'::L) w:=h▸u
theorem ot{T E B:Nat}{K:Value->hM}(u:St w0 A L w)(ht:W6 P T E (nk σ) B)(k:∀v w',St w0 A (fy v ([]:List α)::L) w'->K v w'):qM P (ML T 0 ([]:List (Nat×Value)).toArray) w K:=
 bD ([]:List σ) u ht rfl rfl ee λv w' h=>k v w' h.awH
theorem ga{T E B:Nat}{s:σ}{x:α}{K:Value->hM}(u:St w0 A (Fw.eC (λw=>Deep.dr w s x)::L) w)(ht:W6 P T E (nk σ) B)(G:nk σ<=64)(k:∀v w',St w0 A (fy v [x]::L) w'->K v w') :
  qM P (ML T 1 [(0,jr s)].toArray) w K:=
 bD [s] u ht rfl rfl (by simp;omega) λv w' h=>k v w' h.awI
theorem fU{T E G R:Nat}{K:Value->hM}(I:St w0 A (fy v xs::fy src ys::L) w)(ht:W6 P T E (nk σ) G)
  (M:xs.length+ys.length<=1073741824) (B:G<=8192) (k:∀u w',St w0 A (fy u (xs++ys)::L) w'->K u w'):qM P (Builtin.append_ #[T,T] R [v,src].toArray) w K:=by
 obtain⟨us,h1⟩:=I.p1.v8
 obtain⟨ts,h2⟩:=h1.p2.v8
 have J:=h1.XA
 have O:=h2.XA
 refine bJ h2 ht h2.p2.dS bL B λu w' h=>k u w' ?_
 exact h.p2.drop.awJ
theorem Si{β:Type}[Flat β]{T:Nat}{b o:Nat}{cs:List Value}(x:β)(ht:cY P T=some (Kz β,nk β))(hb:pk w b cs)(B:(cs.drop o).take (nk β)=kp x) :
  (z9 T (.pointer (some ⟨b,o,none⟩))).run P w=.ok (jr x) w:=by
 refine fq (S:=λ_=>True) ht ⟨b,o,rfl,trivial,λj c u=>hb.cell ?_⟩
 grind
end
instance:Flat UInt8 where
 agg:=false
 sz:=1
 enc b:=[.int .u8 b.toNat]
 val b:=.int .u8 b.toNat
 pos:=dy
 len _:=rfl
 one a v h:=by rw[vS.1 h];rfl
 nU h:=by cases h
 nV _ _:=rfl
instance:Deep UInt8 UInt8:=iZ
def tI{α σ:Type}[Flat σ][Deep α σ](P:Program)(w:World)(f:Value)(φ:α->Prop)(g:α->Bool):Prop:=∃B first cap,f=.func (.func B) (P4 first) (P4 cap)/\Plain P B/\
 ∀(s:σ) (x:α) u,Ext w u->Deep.dr u s x->φ x->Calls P B (first++[jr s]++cap).toArray u (tu λv E=>v=.bool (g x)/\Ext u E)
theorem tI.ext{α σ:Type}[Flat σ][Deep α σ]{P:Program}{w w':World}{f:Value}{φ:α->Prop}{g:α->Bool}(h:tI P w f φ g)(e:Ext w w'):tI P w' f φ g:=by
 obtain⟨u,first,cap,h1,h2,h3⟩:=h;exact⟨u,first,cap,h1,h2,λs x E B=>h3 s x E (e.trans B)⟩
def B5{α:Type}[Flat α]{P:Program}{S:Nat->Prop}{w:World}{T E:TypeId}{cx cy:Bool}{v:Value}{xs:List α}{K:Value->Prop}(h:P.underlying T=some (.slice E))(B:cZ S w v xs)(k:∀p:Bool,(p=true->xs=[])->K (.bool p)) :
  eK P (jQ .eql T cx cy v (.slice none 0 0)) K:=by
 obtain⟨a,cap,rfl,_,h3⟩:=B
 have u:pr P (Op.equal T (.slice a xs.length cap) (.slice none 0 0))=some a.isNone:=by
  show pr P (Op.equalIn 10000 T (.slice a xs.length cap) (.slice none 0 0))=_
  unfold Op.equalIn
  rw[cI,cJ h]
  cases a<;>rfl
 refine⟨_,?_,k a.isNone λG=>?_⟩
 .show pr P (do pure (x6 (<- Op.equal T (.slice a xs.length cap) (.slice none 0 0))))=_
  rw[vr,u];rfl
 grind
structure Ptr where
 b:Nat
deriving DecidableEq
instance:Flat Ptr where
 agg:=false
 sz:=1
 enc p:=[.pointer (some ⟨p.b,0,none⟩)]
 val p:=.pointer (some ⟨p.b,0,none⟩)
 pos:=dy
 len _:=rfl
 one a v h:=by rw[vS.1 h];rfl
 nU h:=by cases h
 nV _ _:=rfl
instance:Deep Ptr Ptr:=iZ
def fR{α κ:Type}(H:κ->α->HP):List κ->List α->HP
 | [],[]=>emp
 | p::ps,x::xs=>sep (H p x) (fR H ps xs)
 | _,_=>fact False emp
section
variable {P:Program}{α κ:Type}{H:κ->α->HP}{A:Nat->Prop}{w0 w:World}{L:List HP}
theorem B6:∀{ps:List κ}{xs:List α}{F:Nat->Prop},(fR H ps xs).p w F->ps.length=xs.length
 | [],[],_,_=>rfl
 | s::ss,x::xs,F,h=>by
  obtain⟨u,B,_,h2,_,_⟩:=h
  rw[o5,o5,B6 h2]
 | [],_::_,_,h=>h.1.elim
 | _::_,[],_,h=>h.1.elim
theorem St.fG{ps:List κ}{xs:List α}(u:St w0 A (fR H ps xs::L) w):ps.length=xs.length:=by
 obtain⟨F,h,_⟩:=u.head;exact B6 h
theorem St.qu(u:St w0 A L w):St w0 A (fR H [] []::L) w:=u.new (Ext.refl w) (F:=aX) (λ_ h=>h) λ_ h=>h.elim
def nJ(H:κ->α->HP)(ps:List κ)(xs:List α)(i:Nat):HP:=sep (fR H (ps.take i) (xs.take i)) (fR H (ps.drop (i+1)) (xs.drop (i+1)))
theorem CW:∀{ps:List κ}{xs:List α}{i:Nat}{p:κ}{x:α}{F:Nat->Prop},(fR H ps xs).p w F->ps[i]?=some p->xs[i]?=some x->(sep (H p x) (nJ H ps xs i)).p w F
 | V::ps,x'::xs,0,p,x,F,h,u,hx=>by
  rw[List.getElem?_cons_zero]at u hx
  obtain rfl:=ob.inj u
  obtain rfl:=ob.inj hx
  obtain⟨B,E,h1,h2,h3,h4⟩:=h
  exact⟨B,E,h1,⟨aX,E,λ_ h=>h,h2,λ_ h=>h.elim,λb=>⟨.inr,λh=>h.elim (λh=>h.elim) id⟩⟩,h3,h4⟩
 | V::ps,x'::xs,i+1,p,x,F,h,u,hx=>by
  rw[Dp]at u hx
  obtain⟨B,E,h1,h2,h3,h4⟩:=h
  obtain⟨W,I,Y,⟨G,K2,M,U,k3,Z⟩,g3,J⟩:=CW h2 u hx
  refine⟨W,λb=>B b\/I b,Y,⟨λb=>B b\/G b,K2,⟨B,G,h1,M,λb hb O=>h3 b hb ((J b).2 (.inr ((Z b).2 (.inl O)))),λb=>Iff.rfl⟩,U,?_,?_⟩,?_,?_⟩
  .grind
  .grind
  .grind
  grind
 | [],[],_,_,_,_,_,u,_=>by simp at u
 | [],_::_,_,_,_,_,h,_,_=>h.1.elim
 | _::_,[],_,_,_,_,h,_,_=>h.1.elim
theorem B7:∀{ps:List κ}{xs:List α}{i:Nat}{p:κ}{x:α}{F:Nat->Prop},i<xs.length->ps.length=xs.length->(sep (H p x) (nJ H ps xs i)).p w F->(fR H (ps.set i p) (xs.set i x)).p w F
 | Y::ps,x'::xs,0,p,x,F,_,_,h=>by
  obtain⟨u,E,h1,⟨V,K2,U,I,G,M⟩,h3,h4⟩:=h
  refine⟨u,E,h1,?_,h3,h4⟩
  have e:E=K2:=funext λb=>propext ((M b).trans ⟨λh=>h.elim (λh=>(U b h).elim) id,.inr⟩)
  grind
 | Y::ps,x'::xs,i+1,p,x,F,hi,hl,h=>by
  obtain⟨J,G2,g1,⟨V,K2,⟨u,B,Z,m1,f3,O⟩,I,G,M⟩,g3,g4⟩:=h
  refine⟨u,λb=>J b\/(B b\/K2 b),Z,B7 cD cD ⟨J,λb=>B b\/K2 b,g1,⟨B,K2,m1,I,λb hb W=>G b ((O b).2 (.inr hb)) W,λb=>Iff.rfl⟩,?_,λb=>Iff.rfl⟩,?_,?_⟩
  .grind
  .grind
  grind
 | [],_::_,_,_,_,_,_,hl,_=>by simp at hl
 | _,[],_,_,_,_,hi,_,_=>by simp at hi
theorem mU{β:Type}:∀{ps:List β}{i:Nat}{p:β},ps[i]?=some p->ps.set i p=ps
 | [],_,_,h=>by simp at h
 | y::ps,0,p,h=>by grind
 | y::ps,i+1,p,h=>by rw[Dp]at h;rw[List.set_cons_succ,mU h]
theorem Pc{ps:List κ}{xs:List α}{i:Nat}{p:κ}{x:α}{F:Nat->Prop}(hi:i<xs.length)(u:ps.length=xs.length)(B:ps[i]?=some p)(h:(sep (H p x) (nJ H ps xs i)).p w F):(fR H ps (xs.set i x)).p w F:=by
 have:=B7 hi u h;rwa [mU B]at this
theorem HA:∀{ps qs:List κ}{xs ys:List α}{F:Nat->Prop},(sep (fR H ps xs) (fR H qs ys)).p w F->(fR H (ps++qs) (xs++ys)).p w F
 | [],qs,[],ys,F,⟨B,u,h1,h2,_,h4⟩=>by
  have:F=u:=funext λb=>propext ((h4 b).trans ⟨λh=>h.elim (λh=>(h1 b h).elim) id,.inr⟩)
  grind
 | p::ps,qs,x::xs,ys,F,⟨B,u,⟨G1,G2,g1,g2,g3,g4⟩,h2,h3,h4⟩=>by
  refine⟨G1,λb=>G2 b\/u b,g1,HA ⟨G2,u,g2,h2,λb hb=>h3 b ((g4 b).2 (.inr hb)),λb=>Iff.rfl⟩,λb hb=>?_,λb=>cD⟩
  grind
 | [],_,_::_,_,_,⟨_,_,h,_⟩=>h.1.elim
 | _::_,_,[],_,_,⟨_,_,h,_⟩=>h.1.elim
theorem St.focus{ps:List κ}{xs:List α}{i:Nat}{p:κ}{x:α}(u:St w0 A (fR H ps xs::L) w)(B:ps[i]?=some p)(G:xs[i]?=some x):St w0 A (H p x::nJ H ps xs i::L) w:=
 (u.qm (H':=sep (H p x) (nJ H ps xs i)) λF E=>⟨F,CW E B G,λb hb=>.inl hb,gD.refl _ _⟩).split
theorem St.DK{ps:List κ}{xs:List α}{i:Nat}{p:κ}{x:α}(B:St w0 A (H p x::nJ H ps xs i::L) w)(hi:i<xs.length)(u:ps.length=xs.length)(E:ps[i]?=some p):St w0 A (fR H ps (xs.set i x)::L) w:=
 (St.join B).qm λF G=>⟨F,Pc hi u E G,λb hb=>.inl hb,gD.refl _ _⟩
theorem ER:∀{ps:List κ}{xs:List α}{p:κ}{x:α}{B u F:Nat->Prop},(fR H ps xs).p w B->(H p x).p w u->(∀b,B b->¬ u b)->(∀b,F b↔B b\/u b)->(fR H (ps++[p]) (xs++[x])).p w F
 | [],[],p,x,B,u,F,h1,h2,_,h4=>⟨u,B,h2,h1,λb _ O=>h1 b O,λb=>cD⟩
 | s'::ss,x'::xs,p,x,B,u,F,h1,h2,h3,h4=>by
  obtain⟨I,E,M,G,U,J⟩:=h1
  refine⟨I,λb=>E b\/u b,M,ER G h2 (λb hb=>h3 b ((J b).2 (.inr hb))) (λb=>Iff.rfl),λb hb=>?_,λb=>?_⟩
  .grind
  grind
 | [],_::_,_,_,_,_,_,h,_,_,_=>h.1.elim
 | _::_,[],_,_,_,_,_,h,_,_,_=>h.1.elim
theorem St.AN{ps:List κ}{xs:List α}{p:κ}{x:α}(u:St w0 A (fR H ps xs::H p x::L) w):St w0 A (fR H (ps++[p]) (xs++[x])::L) w:=by
 refine(St.join u).qm λF B=>?_
 obtain⟨E,G,h1,h2,h3,h4⟩:=B
 exact⟨F,ER h1 h2 h3 h4,λb hb=>.inl hb,gD.refl _ _⟩
theorem St.ES{ps:List κ}{xs:List α}{i:Nat}{p:κ}{x:α}(B:St w0 A (H p x::nJ H ps xs i::L) w)(hi:i<xs.length)(u:ps.length=xs.length):St w0 A (fR H (ps.set i p) (xs.set i x)::L) w:=
 (St.join B).qm λF E=>⟨F,B7 hi u E,λb hb=>.inl hb,gD.refl _ _⟩
theorem St.Us{ps:List κ}{xs:List α}{i:Nat}(u:St w0 A (nJ H ps xs i::L) w):St w0 A (fR H (ps.eraseIdx i) (xs.eraseIdx i)::L) w:=by
 rw[Hm,Hm]
 exact u.qm λF B=>⟨F,HA B,λb hb=>.inl hb,gD.refl _ _⟩
theorem St.adg{ps:List κ}{xs:List α}{i:Nat}{p:κ}{x:α}{Φ:hM}(u:St w0 A (fR H ps xs::L) w)(B:ps[i]?=some p)(G:xs[i]?=some x)(h:∀{w F},(H p x).p w F->Φ w):Φ w:=by
 obtain⟨F,E,_⟩:=(u.focus B G).head;exact h E
end
end Go.Fw
namespace Go.Proofs.YtpdlpabnlkofmaaGreatDoor
open Go.Fw
@[ext] structure cC where
 name:ByteArray
 n:Int
 at_:Int
deriving DecidableEq
instance:Flat cC where
 agg:=true
 sz:=3
 enc e:=[.string e.name,ir e.n,ir e.at_]
 val e:=.agg [.string e.name,ir e.n,ir e.at_].toArray
 pos:=dy
 len _:=rfl
 one a v h:=by simp at h;rcases h with rfl|rfl|rfl<;>rfl
 nU _ _:=rfl
 nV h:=by cases h
instance:Deep cC cC:=iZ
def yj(x:cC):Prop:=x.name.size<=maxLen/\eT x.n/\eT x.at_
@[ext] structure bU where
 op:Int
 n:Int
 name:ByteArray
 at_:Int
deriving DecidableEq
instance:Flat bU where
 agg:=true
 sz:=4
 enc e:=[ir e.op,ir e.n,.string e.name,ir e.at_]
 val e:=.agg [ir e.op,ir e.n,.string e.name,ir e.at_].toArray
 pos:=dy
 len _:=rfl
 one a v h:=by simp at h;rcases h with rfl|rfl|rfl|rfl<;>rfl
 nU _ _:=rfl
 nV h:=by cases h
instance:Deep bU bU:=iZ
def AO(x:bU):Prop:=eT x.op/\eT x.n/\x.name.size<=maxLen/\eT x.at_
structure bM where
 kind:Int
 ey:ByteArray
 name:ByteArray
 e:(List bU)
 f:(List bU)
 n:Int
 body:Int
 ep:Int
 at_:Int
deriving DecidableEq
structure aZ where
 kind:Int
 ey:ByteArray
 name:ByteArray
 e:SV
 f:SV
 n:Int
 body:Int
 ep:Int
 at_:Int
instance:Flat aZ where
 agg:=true
 sz:=9
 enc e:=[ir e.kind,.string e.ey,.string e.name,.slice e.e.a e.e.n e.e.cap,.slice e.f.a e.f.n e.f.cap,ir e.n,ir e.body,ir e.ep,ir e.at_]
 val e:=.agg [ir e.kind,.string e.ey,.string e.name,.slice e.e.a e.e.n e.e.cap,.slice e.f.a e.f.n e.f.cap,ir e.n,ir e.body,ir e.ep,ir e.at_].toArray
 pos:=dy
 len _:=rfl
 one a v h:=by simp at h;rcases h with rfl|rfl|rfl|rfl|rfl|rfl|rfl|rfl|rfl<;>rfl
 nU _ _:=rfl
 nV h:=by cases h
instance:Deep bM aZ where
 dr w s x:=∃(u:SV) (B:SV),s=(⟨x.kind,x.ey,x.name,u,B,x.n,x.body,x.ep,x.at_⟩:aZ)/\DL w (jr u) x.e/\DL w (jr B) x.f
 ext h e:=by
  obtain⟨G,E,rfl,I,h1⟩:=h
  exact⟨G,E,rfl,I.ext e,h1.ext e⟩
def Js(x:bM):Prop:=eT x.kind/\x.ey.size<=maxLen/\x.name.size<=maxLen/\(∀y∈x.e,AO y)/\(∀y∈x.f,AO y)/\eT x.n/\eT x.body/\eT x.ep/\eT x.at_
structure cK where
 name:ByteArray
 dO:(List ByteArray)
 body:(List bM)
 at_:Int
deriving DecidableEq
structure cB where
 name:ByteArray
 dO:SV
 body:SV
 at_:Int
instance:Flat cB where
 agg:=true
 sz:=4
 enc e:=[.string e.name,.slice e.dO.a e.dO.n e.dO.cap,.slice e.body.a e.body.n e.body.cap,ir e.at_]
 val e:=.agg [.string e.name,.slice e.dO.a e.dO.n e.dO.cap,.slice e.body.a e.body.n e.body.cap,ir e.at_].toArray
 pos:=dy
 len _:=rfl
 one a v h:=by simp at h;rcases h with rfl|rfl|rfl|rfl<;>rfl
 nU _ _:=rfl
 nV h:=by cases h
instance:Deep cK cB where
 dr w s x:=∃(B:SV) (u:SV),s=(⟨x.name,B,u,x.at_⟩:cB)/\DL w (jr B) x.dO/\DL w (jr u) x.body
 ext h e:=by
  obtain⟨G,E,rfl,I,h1⟩:=h
  exact⟨G,E,rfl,I.ext e,h1.ext e⟩
def yk(x:cK):Prop:=x.name.size<=maxLen/\(∀y∈x.dO,(λy:ByteArray=>y.size<=maxLen) y)/\(∀y∈x.body,Js y)/\eT x.at_
structure gP where
 e:(List bU)
 at_:Int
deriving DecidableEq
structure jq where
 e:SV
 at_:Int
instance:Flat jq where
 agg:=true
 sz:=2
 enc e:=[.slice e.e.a e.e.n e.e.cap,ir e.at_]
 val e:=.agg [.slice e.e.a e.e.n e.e.cap,ir e.at_].toArray
 pos:=dy
 len _:=rfl
 one a v h:=by simp at h;rcases h with rfl|rfl<;>rfl
 nU _ _:=rfl
 nV h:=by cases h
instance:Deep gP jq where
 dr w s x:=∃(u:SV),s=(⟨u,x.at_⟩:jq)/\DL w (jr u) x.e
 ext h e:=by
  obtain⟨B,rfl,E⟩:=h
  exact⟨B,rfl,E.ext e⟩
def ET(x:gP):Prop:=(∀y∈x.e,AO y)/\eT x.at_
structure cR where
 lines:(List (List cC))
 iP:(List cC)
 eE:(List cC)
 threads:(List cK)
 recover:(List cK)
 dV:(List gP)
deriving DecidableEq
structure bP where
 lines:SV
 iP:SV
 eE:SV
 threads:SV
 recover:SV
 dV:SV
instance:Flat bP where
 agg:=true
 sz:=6
 enc e:=[.slice e.lines.a e.lines.n e.lines.cap,.slice e.iP.a e.iP.n e.iP.cap,.slice e.eE.a e.eE.n e.eE.cap,.slice e.threads.a e.threads.n e.threads.cap,.slice e.recover.a e.recover.n e.recover.cap,.slice e.dV.a e.dV.n e.dV.cap]
 val e:=.agg [.slice e.lines.a e.lines.n e.lines.cap,.slice e.iP.a e.iP.n e.iP.cap,.slice e.eE.a e.eE.n e.eE.cap,.slice e.threads.a e.threads.n e.threads.cap,.slice e.recover.a e.recover.n e.recover.cap,.slice e.dV.a e.dV.n e.dV.cap].toArray
 pos:=dy
 len _:=rfl
 one a v h:=by simp at h;rcases h with rfl|rfl|rfl|rfl|rfl|rfl<;>rfl
 nU _ _:=rfl
 nV h:=by cases h
instance:Deep cR bP where
 dr w s x:=∃(I:SV) (u:SV) (B:SV) (E:SV) (J:SV) (G:SV),s=(⟨I,u,B,E,J,G⟩:bP)/\DL w (jr I) x.lines/\DL w (jr u) x.iP/\DL w (jr B) x.eE/\DL w (jr E) x.threads/\DL w (jr J) x.recover/\DL w (jr G) x.dV
 ext h e:=by
  obtain⟨O,M,W,V,Z,Y,rfl,U,h1,h2,h3,h4,h5⟩:=h
  exact⟨O,M,W,V,Z,Y,rfl,U.ext e,h1.ext e,h2.ext e,h3.ext e,h4.ext e,h5.ext e⟩
def adh(x:cR):Prop:=(∀y∈x.lines,(λys:(List cC)=>∀y∈ys,yj y) y)/\(∀y∈x.iP,yj y)/\(∀y∈x.eE,yj y)/\(∀y∈x.threads,yk y)/\(∀y∈x.recover,yk y)/\(∀y∈x.dV,ET y)
@[ext] structure ou where
 kind:Int
 n:Int
deriving DecidableEq
instance:Flat ou where
 agg:=true
 sz:=2
 enc e:=[ir e.kind,ir e.n]
 val e:=.agg [ir e.kind,ir e.n].toArray
 pos:=dy
 len _:=rfl
 one a v h:=by simp at h;rcases h with rfl|rfl<;>rfl
 nU _ _:=rfl
 nV h:=by cases h
instance:Deep ou ou:=iZ
structure cS where
 kind:Int
 t:Int
 i:Int
 cut:(List Int)
deriving DecidableEq
structure dC where
 kind:Int
 t:Int
 i:Int
 cut:SV
instance:Flat dC where
 agg:=true
 sz:=4
 enc e:=[ir e.kind,ir e.t,ir e.i,.slice e.cut.a e.cut.n e.cut.cap]
 val e:=.agg [ir e.kind,ir e.t,ir e.i,.slice e.cut.a e.cut.n e.cut.cap].toArray
 pos:=dy
 len _:=rfl
 one a v h:=by simp at h;rcases h with rfl|rfl|rfl|rfl<;>rfl
 nU _ _:=rfl
 nV h:=by cases h
instance:Deep cS dC where
 dr w s x:=∃(u:SV),s=(⟨x.kind,x.t,x.i,u⟩:dC)/\DL w (jr u) x.cut
 ext h e:=by
  obtain⟨B,rfl,E⟩:=h
  exact⟨B,rfl,E.ext e⟩
def Sk(x:cS):Prop:=eT x.kind/\eT x.t/\eT x.i/\(∀y∈x.cut,eT y)
structure GX where
 kind:Int
 n:Int
 p:cS
deriving DecidableEq
structure v9 where
 kind:Int
 n:Int
 p:dC
instance:Flat v9 where
 agg:=true
 sz:=6
 enc e:=[ir e.kind,ir e.n,ir e.p.kind,ir e.p.t,ir e.p.i,.slice e.p.cut.a e.p.cut.n e.p.cut.cap]
 val e:=.agg [ir e.kind,ir e.n,ir e.p.kind,ir e.p.t,ir e.p.i,.slice e.p.cut.a e.p.cut.n e.p.cut.cap].toArray
 pos:=dy
 len _:=rfl
 one a v h:=by simp at h;rcases h with rfl|rfl|rfl|rfl|rfl|rfl<;>rfl
 nU _ _:=rfl
 nV h:=by cases h
instance:Deep GX v9 where
 dr w s x:=∃(u:dC),s=(⟨x.kind,x.n,u⟩:v9)/\Deep.dr w u x.p
 ext h e:=by
  obtain⟨B,rfl,E⟩:=h
  exact⟨B,rfl,Deep.ext E e⟩
def aiW(x:GX):Prop:=eT x.kind/\eT x.n/\Sk x.p
@[ext] structure cA where
 kind:Int
 t:Int
 a:Int
 n:Int
 m:Int
deriving DecidableEq
instance:Flat cA where
 agg:=true
 sz:=5
 enc e:=[ir e.kind,ir e.t,ir e.a,ir e.n,ir e.m]
 val e:=.agg [ir e.kind,ir e.t,ir e.a,ir e.n,ir e.m].toArray
 pos:=dy
 len _:=rfl
 one a v h:=by simp at h;rcases h with rfl|rfl|rfl|rfl|rfl<;>rfl
 nU _ _:=rfl
 nV h:=by cases h
instance:Deep cA cA:=iZ
@[ext] structure gy where
 dz:Int
 fault:Int
 t:Int
 done:Bool
 stuck:Bool
deriving DecidableEq
instance:Flat gy where
 agg:=true
 sz:=5
 enc e:=[ir e.dz,ir e.fault,ir e.t,.bool e.done,.bool e.stuck]
 val e:=.agg [ir e.dz,ir e.fault,ir e.t,.bool e.done,.bool e.stuck].toArray
 pos:=dy
 len _:=rfl
 one a v h:=by simp at h;rcases h with rfl|rfl|rfl|rfl|rfl<;>rfl
 nU _ _:=rfl
 nV h:=by cases h
instance:Deep gy gy:=iZ
@[ext] structure bH where
 kind:Int
 line:Int
 cell:Int
 n:Int
deriving DecidableEq
instance:Flat bH where
 agg:=true
 sz:=4
 enc e:=[ir e.kind,ir e.line,ir e.cell,ir e.n]
 val e:=.agg [ir e.kind,ir e.line,ir e.cell,ir e.n].toArray
 pos:=dy
 len _:=rfl
 one a v h:=by simp at h;rcases h with rfl|rfl|rfl|rfl<;>rfl
 nU _ _:=rfl
 nV h:=by cases h
instance:Deep bH bH:=iZ
@[ext] structure bQ where
 kind:Int
 text:ByteArray
 n:Int
 at_:Int
deriving DecidableEq
instance:Flat bQ where
 agg:=true
 sz:=4
 enc e:=[ir e.kind,.string e.text,ir e.n,ir e.at_]
 val e:=.agg [ir e.kind,.string e.text,ir e.n,ir e.at_].toArray
 pos:=dy
 len _:=rfl
 one a v h:=by simp at h;rcases h with rfl|rfl|rfl|rfl<;>rfl
 nU _ _:=rfl
 nV h:=by cases h
instance:Deep bQ bQ:=iZ
@[ext] structure mV where
 line:Int
 cell:Int
 n:Int
deriving DecidableEq
instance:Flat mV where
 agg:=true
 sz:=3
 enc e:=[ir e.line,ir e.cell,ir e.n]
 val e:=.agg [ir e.line,ir e.cell,ir e.n].toArray
 pos:=dy
 len _:=rfl
 one a v h:=by simp at h;rcases h with rfl|rfl|rfl<;>rfl
 nU _ _:=rfl
 nV h:=by cases h
instance:Deep mV mV:=iZ
@[ext] structure iw where
 cell:Int
 n:Int
deriving DecidableEq
instance:Flat iw where
 agg:=true
 sz:=2
 enc e:=[ir e.cell,ir e.n]
 val e:=.agg [ir e.cell,ir e.n].toArray
 pos:=dy
 len _:=rfl
 one a v h:=by simp at h;rcases h with rfl|rfl<;>rfl
 nU _ _:=rfl
 nV h:=by cases h
instance:Deep iw iw:=iZ
structure Sl where
 of:SV
 ef:SV
 l:SV
 k:SV
 w:SV
instance:Flat Sl where
 agg:=true
 sz:=5
 enc e:=[.slice e.of.a e.of.n e.of.cap,.slice e.ef.a e.ef.n e.ef.cap,.slice e.l.a e.l.n e.l.cap,.slice e.k.a e.k.n e.k.cap,.slice e.w.a e.w.n e.w.cap]
 val e:=.agg [.slice e.of.a e.of.n e.of.cap,.slice e.ef.a e.ef.n e.ef.cap,.slice e.l.a e.l.n e.l.cap,.slice e.k.a e.k.n e.k.cap,.slice e.w.a e.w.n e.w.cap].toArray
 pos:=dy
 len _:=rfl
 one a v h:=by simp at h;rcases h with rfl|rfl|rfl|rfl|rfl<;>rfl
 nU _ _:=rfl
 nV h:=by cases h
def Jt(p:Bool):Int:=if p then 1 else 0
def EU(a b:Int):Int:=BM (a.tdiv b)
def yH(op a:Int):Int:=if op=3 then BM (0-a)else if op=4 then Jt (decide (a=0))else 0
def GY(op:Int):Int:=if op=3\/op=4 then 0 else 1
def lJ(op a b:Int):Int:=
 if op=5 then BM (a+b)else if op=6 then BM (a-b)else if op=7 then BM (a*b)else if op=8 then EU a b else if op=9 then a.tmod b
 else if op=10 then Jt (decide (a=b))else if op=11 then Jt (decide (¬ a=b))else if op=12 then Jt (decide (a<b))else if op=13 then Jt (decide (a<=b))
 else if op=14 then Jt (decide (¬ a=0)&&decide (¬ b=0))else if op=15 then Jt (decide (¬ a=0)||decide (¬ b=0))else 0
def gF(op b:Int):Int:=if op<5\/15<op then 1 else if (op=8\/op=9)/\b=0 then 12 else 0
def gz(op a b:Int):Int:=if gF op b=0 then lJ op a b else 0
theorem B8:EU (-9223372036854775808) (-1) = -9223372036854775808:=dy
theorem adi{a b:Int}(V : -9223372036854775808<=a/\a<=9223372036854775807)(hb : -9223372036854775808<=b/\b<=9223372036854775807)(U:b≠0):BM (a-BM (b*EU a b))=a.tmod b:=by
 have h1:=Int.mul_tdiv_add_tmod a b
 by_cases hc:a = -9223372036854775808/\b = -1
 .obtain⟨rfl,rfl⟩:=hc
  decide
 have I : -9223372036854775808<=a.tdiv b/\a.tdiv b<=9223372036854775807:=by
  have h2:(a.tdiv b).natAbs<=a.natAbs:=by rw[abN];exact Nat.div_le_self _ _
  by_cases B:a = -9223372036854775808
  .subst B
   have W:b≠-1:=λh=>hc ⟨rfl,h⟩
   by_cases J:b=1
   .grind
   .have h3:(Int.tdiv (-9223372036854775808) b).natAbs<=9223372036854775808 / 2:=by
     rw[abN]
     exact Nat.div_le_div_left bL bL
    omega
  .omega
 have M:(a.tmod b).natAbs<b.natAbs:=by rw[X6];exact abW _ bL
 unfold EU
 rw[zB I]
 have B:b*a.tdiv b=a-a.tmod b:=bL
 have O:(a.tmod b).natAbs<=a.natAbs:=by rw[X6];exact acb _ _
 have E:(0<=a->0<=a.tmod b):=λh=>Rp b h
 have G:(a<=0->a.tmod b<=0):=λh=>by
  have:=Rp (a:=-a) b bL
  rw[ab1]at this;omega
 have u:(-9223372036854775808<=a-a.tmod b/\a-a.tmod b<=9223372036854775807)/\-9223372036854775808<=a.tmod b/\a.tmod b<=9223372036854775807:=by
  rcases ab2 0 a with h|h
  .have:=E h;omega
  .have:=G h;omega
 rw[B,zB u.1,show a-(a-a.tmod b)=a.tmod b from bL,zB u.2]
def C305(p:Bool)(w:World):CR 305 [.bool p] w (λv w'=>v=ir (Jt p)/\Ext w w'):=by
 have B:=St.start w;refine fb Tryz.func305 ?_;refine aW (λu=>?_) (λu=>?_)
 .rw[u];exact⟨rfl,B.aF⟩
 rw[u];exact⟨rfl,B.aF⟩
def C302(p:Bool)(w:World):CR 302 [.bool p] w (λv w'=>v=ir (Jt p)/\Ext w w'):=by
 have B:=St.start w;refine fb Tryz.func302 ?_;refine aW (λu=>?_) (λu=>?_)
 .rw[u];exact⟨rfl,B.aF⟩
 rw[u];exact⟨rfl,B.aF⟩
def C303(a:Int)(w:World):CR 303 [ir a] w (λv w'=>v=.bool (decide (¬ a=0))/\Ext w w'):=by
 have u:=St.start w;refine fb Tryz.func303 ?_;exact bW ⟨rfl,u.aF⟩
def C306(a b:Int)(w:World)(h:b≠0):CR 306 [ir a,ir b] w (λv w'=>v=ir (EU a b)/\Ext w w'):=by
 have u:=St.start w;refine fb Tryz.func306 ?_;refine⟨_,?_,λ_ _ h=>h⟩;refine aG (aC (λE=>?_) λE=>?_)
 .refine aG ?_;intro G;refine aC (λB=>?_) (λB=>?_)
  .first|exact⟨rfl,u.aF⟩|(exfalso;simp_all;done)|(rw[E,B,B8];exact⟨rfl,u.aF⟩)
  refine EM h ?_
  first|exact⟨rfl,u.aF⟩|(exfalso;simp_all;done)|(rw[E,B,B8];exact⟨rfl,u.aF⟩)
 intro G;refine eR (EM h ?_)
 first|exact⟨rfl,u.aF⟩|(exfalso;simp_all;done)|(rw[E,B,B8];exact⟨rfl,u.aF⟩)
def C274(op a:Int)(w:World):CR 274 [ir op,ir a] w (λv w'=>v=.tuple #[ir (yH op a),ir (GY op)]/\Ext w w'):=by
 have B:=St.start w;refine fb Tryz.func274 ?_;refine aG (aC (λu=>?_) λu=>aG (aC (λE=>?_) λE=>?_))
 .refine AK ?_;unfold yH GY
  first|(rw[ej u,ej (.inl u)];exact⟨rfl,B.aF⟩)|(rw[ei u,ej E,ej (.inr E)];exact⟨rfl,B.aF⟩)|(rw[ei u,ei E,ei bL];exact⟨rfl,B.aF⟩)
 .refine aG (aV As B (C305 _ _) λ_ G B=>?_);unfold yH GY
  first|(rw[ej u,ej (.inl u)];exact⟨rfl,B.aF⟩)|(rw[ei u,ej E,ej (.inr E)];exact⟨rfl,B.aF⟩)|(rw[ei u,ei E,ei bL];exact⟨rfl,B.aF⟩)
 unfold yH GY
 first|(rw[ej u,ej (.inl u)];exact⟨rfl,B.aF⟩)|(rw[ei u,ej E,ej (.inr E)];exact⟨rfl,B.aF⟩)|(rw[ei u,ei E,ei bL];exact⟨rfl,B.aF⟩)
def C269(op a:Int)(w:World):CR 269 [ir op,ir a] w (λv w'=>v=.tuple #[ir (yH op a),ir (GY op)]/\Ext w w'):=by
 have B:=St.start w;refine fb Tryz.func269 ?_;refine aG (aC (λu=>?_) λu=>aG (aC (λE=>?_) λE=>?_))
 .refine Xw ?_;unfold yH GY
  first|(rw[ej u,ej (.inl u)];exact⟨rfl,B.aF⟩)|(rw[ei u,ej E,ej (.inr E)];exact⟨gL (λp=>G3 #[ir (Jt p),ir 0]) ee,B.aF⟩)|(rw[ei u,ei E,ei bL];exact⟨rfl,B.aF⟩)
 .refine aV Ln B (C303 _ _) (λ_ G B=>?_)
  first|refine Ew ?_|refine bN ?_
  refine aV W4 B (C302 _ _) (λ_ G B=>?_);unfold yH GY
  first|(rw[ej u,ej (.inl u)];exact⟨rfl,B.aF⟩)|(rw[ei u,ej E,ej (.inr E)];exact⟨gL (λp=>G3 #[ir (Jt p),ir 0]) ee,B.aF⟩)|(rw[ei u,ei E,ei bL];exact⟨rfl,B.aF⟩)
 unfold yH GY
 first|(rw[ej u,ej (.inl u)];exact⟨rfl,B.aF⟩)|(rw[ei u,ej E,ej (.inr E)];exact⟨gL (λp=>G3 #[ir (Jt p),ir 0]) ee,B.aF⟩)|(rw[ei u,ei E,ei bL];exact⟨rfl,B.aF⟩)
def C275(op a b:Int)(w:World)(ha:eT a)(hb:eT b):CR 275 [ir op,ir a,ir b] w (λv w'=>v=.tuple #[ir (gz op a b),ir (gF op b)]/\Ext w w'):=by
 have u:=St.start w;refine acR _ _ _ _ _ ?_;unfold S275;refine aG (aC (λfZ=>?_) λfZ=>?_)
 .refine uL ?_
  first|(unfold gz gF;rw[ej (show op<5\/15<op by omega)];exact⟨rfl,u.aF⟩)|(subst_vars;first|exact⟨rfl,u.aF⟩|(unfold gz gF lJ;simp_all<;>exact u.aF))
 refine aG (aC (λV=>?_) λV=>aG (aC (λW=>?_) λW=>aG (aC (λU=>aG (aC (λO=>?_) λO=>?_)) λU=>aG (aC (λY=>aG (aC (λM=>?_) λM=>?_)) λY=>aG (aC (λwe=>?_) λwe=>?_)))))
 .refine AK ?_
  first|(unfold gz gF;rw[ej (show op<5\/15<op by omega)];exact⟨rfl,u.aF⟩)|(subst_vars;first|exact⟨rfl,u.aF⟩|(unfold gz gF lJ;simp_all<;>exact u.aF))
 .refine xf ?_
  first|(unfold gz gF;rw[ej (show op<5\/15<op by omega)];exact⟨rfl,u.aF⟩)|(subst_vars;first|exact⟨rfl,u.aF⟩|(unfold gz gF lJ;simp_all<;>exact u.aF))
 .first|(unfold gz gF;rw[ej (show op<5\/15<op by omega)];exact⟨rfl,u.aF⟩)|(subst_vars;first|exact⟨rfl,u.aF⟩|(unfold gz gF lJ;simp_all<;>exact u.aF))
 .refine aV agD u (C306 _ _ _ O) (λ_ B u=>?_)
  first|(unfold gz gF;rw[ej (show op<5\/15<op by omega)];exact⟨rfl,u.aF⟩)|(subst_vars;first|exact⟨rfl,u.aF⟩|(unfold gz gF lJ;simp_all<;>exact u.aF))
 .first|(unfold gz gF;rw[ej (show op<5\/15<op by omega)];exact⟨rfl,u.aF⟩)|(subst_vars;first|exact⟨rfl,u.aF⟩|(unfold gz gF lJ;simp_all<;>exact u.aF))
 .refine aV agD u (C306 _ _ _ M) (λ_ B u=>xf (AK ?_));rw[adi ha hb M]
  first|(unfold gz gF;rw[ej (show op<5\/15<op by omega)];exact⟨rfl,u.aF⟩)|(subst_vars;first|exact⟨rfl,u.aF⟩|(unfold gz gF lJ;simp_all<;>exact u.aF))
 .refine aG (aV As u (C305 _ _) λ_ B u=>?_)
  first|(unfold gz gF;rw[ej (show op<5\/15<op by omega)];exact⟨rfl,u.aF⟩)|(subst_vars;first|exact⟨rfl,u.aF⟩|(unfold gz gF lJ;simp_all<;>exact u.aF))
 refine aG (aC (λZ=>?_) λZ=>aG (aC (λSm=>?_) λSm=>aG (aC (λJ=>?_) λJ=>aG (aC (λxh=>⟨_,bW (aC (λE=>?_) λE=>?_),λ_ _ _ h=>h⟩) λxh=>aG (aC (λG=>⟨_,bW (aC (λI=>?_) λI=>?_),λ_ _ _ h=>h⟩) λG=>?_)))))
 .refine bW (aV As u (C305 _ _) λ_ B u=>?_)
  first|(unfold gz gF;rw[ej (show op<5\/15<op by omega)];exact⟨rfl,u.aF⟩)|(subst_vars;first|exact⟨rfl,u.aF⟩|(unfold gz gF lJ;simp_all<;>exact u.aF))
 .refine aN (aV As u (C305 _ _) λ_ B u=>?_)
  first|(unfold gz gF;rw[ej (show op<5\/15<op by omega)];exact⟨rfl,u.aF⟩)|(subst_vars;first|exact⟨rfl,u.aF⟩|(unfold gz gF lJ;simp_all<;>exact u.aF))
 .refine gu (aV As u (C305 _ _) λ_ B u=>?_)
  first|(unfold gz gF;rw[ej (show op<5\/15<op by omega)];exact⟨rfl,u.aF⟩)|(subst_vars;first|exact⟨rfl,u.aF⟩|(unfold gz gF lJ;simp_all<;>exact u.aF))
 .refine bW (aV As u (C305 _ _) λ_ B u=>?_);intro rn
  first|(unfold gz gF;rw[ej (show op<5\/15<op by omega)];exact⟨rfl,u.aF⟩)|(subst_vars;first|exact⟨rfl,u.aF⟩|(unfold gz gF lJ;simp_all<;>exact u.aF))
 .refine aV As u (C305 _ _) (λ_ B u=>?_);intro rn
  first|(unfold gz gF;rw[ej (show op<5\/15<op by omega)];exact⟨rfl,u.aF⟩)|(subst_vars;first|exact⟨rfl,u.aF⟩|(unfold gz gF lJ;simp_all<;>exact u.aF))
 .refine aV As u (C305 _ _) (λ_ B u=>?_);intro vp
  first|(unfold gz gF;rw[ej (show op<5\/15<op by omega)];exact⟨rfl,u.aF⟩)|(subst_vars;first|exact⟨rfl,u.aF⟩|(unfold gz gF lJ;simp_all<;>exact u.aF))
 .refine bW (aV As u (C305 _ _) λ_ B u=>?_);intro vp
  first|(unfold gz gF;rw[ej (show op<5\/15<op by omega)];exact⟨rfl,u.aF⟩)|(subst_vars;first|exact⟨rfl,u.aF⟩|(unfold gz gF lJ;simp_all<;>exact u.aF))
 first|(unfold gz gF;rw[ej (show op<5\/15<op by omega)];exact⟨rfl,u.aF⟩)|(subst_vars;first|exact⟨rfl,u.aF⟩|(unfold gz gF lJ;simp_all<;>exact u.aF))
def sf:aoV hH 348 16 288:=⟨by kernel_rfl,by kernel_rfl⟩
def aoZ(b1 b2 b3 b4 u b6:Nat)(w:World):Prop:=
 Cell w b1 0 (.func (.func 329) #[] #[])/\Cell w b2 0 (.func (.func 330) #[] #[])/\Cell w b3 0 (.func (.func 331) #[] #[])/\Cell w b4 0 (.func (.func 332) #[] #[])/\Cell w u 0 (.func (.func 333) #[] #[])/\Cell w b6 0 (.func (.func 334) #[] #[])
def opsV(b1 b2 b3 b4 u b6:Nat):Value:=
 .agg [.nilFunc,.nilFunc,.nilFunc,.nilFunc,.nilFunc,.func (.func 324) #[] #[],.func (.func 325) #[] #[],.func (.func 326) #[] #[],.func (.func 327) #[] #[],.func (.func 328) #[] #[],
  .func (.func 323) #[] #[.pointer (some ⟨b1,0,none⟩)],.func (.func 323) #[] #[.pointer (some ⟨b2,0,none⟩)],.func (.func 323) #[] #[.pointer (some ⟨b3,0,none⟩)],.func (.func 323) #[] #[.pointer (some ⟨b4,0,none⟩)],
  .func (.func 323) #[] #[.pointer (some ⟨u,0,none⟩)],.func (.func 323) #[] #[.pointer (some ⟨b6,0,none⟩)]].toArray
def Fb2(f:Value)(g:Int->Int->Bool):Prop:=∃u,f=.func (.func u) #[] #[]/\Plain hH u/\
 ∀a b B,Calls hH u [ir a,ir b].toArray B (tu λv E=>v=.bool (g a b)/\Ext B E)
def C324(a b:Int)(w:World):CR 324 [ir a,ir b] w (λv w'=>v=ir (BM (a+b))/\Ext w w'):=by
 have u:=St.start w;refine fb Tryz.func324 ?_;exact uL ⟨rfl,u.aF⟩
def C325(a b:Int)(w:World):CR 325 [ir a,ir b] w (λv w'=>v=ir (BM (a-b))/\Ext w w'):=by
 have u:=St.start w;refine fb Tryz.func325 ?_;exact AK ⟨rfl,u.aF⟩
def C326(a b:Int)(w:World):CR 326 [ir a,ir b] w (λv w'=>v=ir (BM (a*b))/\Ext w w'):=by
 have u:=St.start w;refine fb Tryz.func326 ?_;exact xf ⟨rfl,u.aF⟩
def C327(a b:Int)(w:World)(h:b≠0):CR 327 [ir a,ir b] w (λv w'=>v=ir (EU a b)/\Ext w w'):=by
 have u:=St.start w;refine fb Tryz.func327 ?_;exact EM h ⟨rfl,u.aF⟩
def C328(a b:Int)(w:World)(h:b≠0):CR 328 [ir a,ir b] w (λv w'=>v=ir (a.tmod b)/\Ext w w'):=by
 have u:=St.start w;refine fb Tryz.func328 ?_;exact Xx h ⟨rfl,u.aF⟩
def C329(a b:Int)(w:World):CR 329 [ir a,ir b] w (λv w'=>v=.bool (decide (a=b))/\Ext w w'):=by
 have u:=St.start w;refine fb Tryz.func329 ?_;exact aG ⟨rfl,u.aF⟩
def C330(a b:Int)(w:World):CR 330 [ir a,ir b] w (λv w'=>v=.bool (decide (¬ a=b))/\Ext w w'):=by
 have u:=St.start w;refine fb Tryz.func330 ?_;exact bW ⟨rfl,u.aF⟩
def C331(a b:Int)(w:World):CR 331 [ir a,ir b] w (λv w'=>v=.bool (decide (a<b))/\Ext w w'):=by
 have u:=St.start w;refine fb Tryz.func331 ?_;exact aN ⟨rfl,u.aF⟩
def C332(a b:Int)(w:World):CR 332 [ir a,ir b] w (λv w'=>v=.bool (decide (a<=b))/\Ext w w'):=by
 have u:=St.start w;refine fb Tryz.func332 ?_;exact gu ⟨rfl,u.aF⟩
def C333(a b:Int)(w:World):CR 333 [ir a,ir b] w (λv w'=>v=.bool (decide (¬ a=0)&&decide (¬ b=0))/\Ext w w'):=by
 have u:=St.start w;refine fb Tryz.func333 ?_;refine⟨_,?_,λ_ _ h=>h⟩;refine aV Ln u (C303 _ _) (λ_ G u=>aC (λB=>?_) λB=>?_)
 .refine aV Ln u (C303 _ _) (λ_ G u=>?_);intro E
  first|(rw[ew B];exact⟨rfl,u.aF⟩)|(rw[ez B];exact⟨rfl,u.aF⟩)
 intro E
 first|(rw[ew B];exact⟨rfl,u.aF⟩)|(rw[ez B];exact⟨rfl,u.aF⟩)
def C334(a b:Int)(w:World):CR 334 [ir a,ir b] w (λv w'=>v=.bool (decide (¬ a=0)||decide (¬ b=0))/\Ext w w'):=by
 have u:=St.start w;refine fb Tryz.func334 ?_;refine⟨_,?_,λ_ _ h=>h⟩;refine aV Ln u (C303 _ _) (λ_ G u=>aC (λB=>?_) λB=>?_)
 .intro E
  first|(rw[ew B];exact⟨rfl,u.aF⟩)|(rw[ez B];exact⟨rfl,u.aF⟩)
 refine aV Ln u (C303 _ _) (λ_ G u=>?_);intro E
 first|(rw[ew B];exact⟨rfl,u.aF⟩)|(rw[ez B];exact⟨rfl,u.aF⟩)
def C322(g:Nat)(w:World):CR 322 [.func (.func g) #[] #[]] w (λv w'=>∃b,v=.func (.func 323) #[] #[.pointer (some ⟨b,0,none⟩)]/\lf (bX b [.func (.func g) #[] #[]]) w w'):=by
 have u:=St.start w;refine fb Tryz.func322 ?_;exact nx u rfl (λB _ u=>⟨B,rfl,u.fresh⟩)
def C323(a b:Int)(b2:Nat)(fv:Value)(g:Int->Int->Bool)(w:World)(hc:Cell w b2 0 fv)(G:Fb2 fv g):CR 323 [ir a,ir b,.pointer (some ⟨b2,0,none⟩)] w (λv w'=>v=ir (Jt (g a b))/\Ext w w'):=by
 obtain⟨J,rfl,B,E⟩:=G;have u:=St.start w;refine fb Tryz.func323 ?_;refine bE aoT (hc.ext u.aF) (gS (first:=[]) (cap:=[]) B (E a b _) ?_);rintro _ _ ⟨rfl,I⟩;have u:=u.ext I;exact aV W4 u (C302 _ _) (λ_ _ u=>⟨rfl,u.aF⟩)
def C304(w:World):CR 304 [] w (λv w'=>∃b1 b2 b3 b4 W b6,v=opsV b1 b2 b3 b4 W b6/\lf (eC (aoZ b1 b2 b3 b4 W b6)) w w'):=by
 have u:=St.start w;refine acU _ _ ?_;unfold S304;refine aQ u Sf (λJ _ u=>aQ u Sf λM _ u=>oP sf bL bL (aR u xd (dQ rfl) (rfl) λ_ u=>oP sf bL bL (aR u xd (dQ rfl) (rfl) λ_ u=>oP sf bL bL (aR u xd (dQ rfl) (rfl) λ_ u=>oP sf bL bL (aR u xd (dQ rfl) (rfl) λ_ u=>oP sf bL bL (aR u xd (dQ rfl) (rfl) λ_ u=>gS (first:=[]) (cap:=[]) Ho (C322 329 _) ?_))))));rintro _ _ ⟨V,rfl,B⟩;have u:=u.made B;refine oP sf bL bL (aR u.p1 xd (dQ rfl) (rfl) λ_ u=>gS (first:=[]) (cap:=[]) Ho (C322 330 _) ?_)
 rintro _ _ ⟨U,rfl,B⟩;have u:=u.made B;refine oP sf bL bL (aR u.p1 xd (dQ rfl) (rfl) λ_ u=>gS (first:=[]) (cap:=[]) Ho (C322 331 _) ?_);rintro _ _ ⟨G,rfl,B⟩;have u:=u.made B;refine oP sf bL bL (aR u.p1 xd (dQ rfl) (rfl) λ_ u=>gS (first:=[]) (cap:=[]) Ho (C322 332 _) ?_);rintro _ _ ⟨O,rfl,B⟩;have u:=u.made B;refine oP sf bL bL (aR u.p1 xd (dQ rfl) (rfl) λ_ u=>gS (first:=[]) (cap:=[]) Ho (C322 333 _) ?_);rintro _ _ ⟨E,rfl,B⟩;have u:=u.made B;refine oP sf bL bL (aR u.p1 xd (dQ rfl) (rfl) λ_ u=>gS (first:=[]) (cap:=[]) Ho (C322 334 _) ?_)
 rintro _ _ ⟨I,rfl,B⟩;have u:=u.made B;refine oP sf bL bL (aR u.p1 xd (dQ rfl) (rfl) λ_ u=>uA Xj u.hb rfl (wR u.p7 Xj rfl dy (by simp[rN,iI]) λ_ u=>uA Xj u.hb rfl ?_));have u:=u.drop.drop.p1.p2.p3.p4.p5.rD.p1.rD.p2.rD.p3;have u:=u.rD.p4.rD.p5.rD.fX.fX.fX.fX.fX;refine⟨V,U,G,O,E,I,rfl,(u.dH (Ψ:=aoZ V U G O E I) λw h=>?_).fresh⟩;obtain⟨⟨⟨⟨⟨h6,h5⟩,h4⟩,h3⟩,h2⟩,h1⟩:=h;exact⟨h1.cell rfl,h2.cell rfl,h3.cell rfl,h4.cell rfl,h5.cell rfl,h6.cell rfl⟩
def fb1:Fb2 (.func (.func 329) #[] #[]) (λa b=>decide (a=b)):=⟨329,rfl,aoG,λa b u=>C329 a b u⟩
def fb2:Fb2 (.func (.func 330) #[] #[]) (λa b=>decide (¬ a=b)):=⟨330,rfl,aoH,λa b u=>C330 a b u⟩
def fb3:Fb2 (.func (.func 331) #[] #[]) (λa b=>decide (a<b)):=⟨331,rfl,aoI,λa b u=>C331 a b u⟩
def fb4:Fb2 (.func (.func 332) #[] #[]) (λa b=>decide (a<=b)):=⟨332,rfl,aoJ,λa b u=>C332 a b u⟩
def fb5:Fb2 (.func (.func 333) #[] #[]) (λa b=>decide (¬ a=0)&&decide (¬ b=0)):=⟨333,rfl,aoK,λa b u=>C333 a b u⟩
def fb6:Fb2 (.func (.func 334) #[] #[]) (λa b=>decide (¬ a=0)||decide (¬ b=0)):=⟨334,rfl,aoL,λa b u=>C334 a b u⟩
def C271(op a b:Int)(w:World):CR 271 [ir op,ir a,ir b] w (λv w'=>v=.tuple #[ir (gz op a b),ir (gF op b)]/\Ext w w'):=by
 have u:=St.start w;refine acQ _ _ _ _ _ ?_;unfold S271;refine⟨_,?_,λ_ _ h=>h⟩;refine aN (aC (λfZ=>?_) λfZ=>?_)
 .intro rn;refine gO ?_
  first|exact⟨rfl,u.aF⟩|(subst_vars;exact⟨rfl,u.aF⟩)|(refine⟨?_,u.aF⟩;unfold gz gF lJ;first|(rw[ej (show op<5\/15<op by omega)];rfl)|simp[*])
 refine cO ?_;intro rn;refine aC (λja=>?_) (λja=>?_)
 .first|exact⟨rfl,u.aF⟩|(subst_vars;exact⟨rfl,u.aF⟩)|(refine⟨?_,u.aF⟩;unfold gz gF lJ;first|(rw[ej (show op<5\/15<op by omega)];rfl)|simp[*])
 refine dR aow (C304 _) ?_;rintro _ _ ⟨b1,b2,b3,b4,Y,b6,rfl,Z⟩;have u:=u.made Z;obtain rfl|rfl|rfl|rfl|rfl|rfl|rfl|rfl|rfl|rfl|rfl|rfl|rfl|rfl|rfl|rfl:op=0\/op=1\/op=2\/op=3\/op=4\/op=5\/op=6\/op=7\/op=8\/op=9\/op=10\/op=11\/op=12\/op=13\/op=14\/op=15:=bL
 .refine pop (v:=.nilFunc) (by kernel_rfl) (pop (v:=.bool true) (by kernel_rfl) (gO ?_))
  first|exact⟨rfl,u.aF⟩|(subst_vars;exact⟨rfl,u.aF⟩)|(refine⟨?_,u.aF⟩;unfold gz gF lJ;first|(rw[ej (show op<5\/15<op by omega)];rfl)|simp[*])
 .refine pop (v:=.nilFunc) (by kernel_rfl) (pop (v:=.bool true) (by kernel_rfl) (gO ?_))
  first|exact⟨rfl,u.aF⟩|(subst_vars;exact⟨rfl,u.aF⟩)|(refine⟨?_,u.aF⟩;unfold gz gF lJ;first|(rw[ej (show op<5\/15<op by omega)];rfl)|simp[*])
 .refine pop (v:=.nilFunc) (by kernel_rfl) (pop (v:=.bool true) (by kernel_rfl) (gO ?_))
  first|exact⟨rfl,u.aF⟩|(subst_vars;exact⟨rfl,u.aF⟩)|(refine⟨?_,u.aF⟩;unfold gz gF lJ;first|(rw[ej (show op<5\/15<op by omega)];rfl)|simp[*])
 .refine pop (v:=.nilFunc) (by kernel_rfl) (pop (v:=.bool true) (by kernel_rfl) (gO ?_))
  first|exact⟨rfl,u.aF⟩|(subst_vars;exact⟨rfl,u.aF⟩)|(refine⟨?_,u.aF⟩;unfold gz gF lJ;first|(rw[ej (show op<5\/15<op by omega)];rfl)|simp[*])
 .refine pop (v:=.nilFunc) (by kernel_rfl) (pop (v:=.bool true) (by kernel_rfl) (gO ?_))
  first|exact⟨rfl,u.aF⟩|(subst_vars;exact⟨rfl,u.aF⟩)|(refine⟨?_,u.aF⟩;unfold gz gF lJ;first|(rw[ej (show op<5\/15<op by omega)];rfl)|simp[*])
 .refine pop (v:=.func (.func 324) #[] #[]) (by kernel_rfl) (pop (v:=.bool false) (by kernel_rfl) (eR ?_));refine⟨_,?_,λ_ _ h=>h⟩;refine aG (eO dy (aG (eO dy ?_)));intro G;refine eR (gS (first:=[]) (cap:=[]) aoB (C324 a b _) ?_);rintro _ E ⟨rfl,B⟩;have u:=u.ext B
  first|exact⟨rfl,u.aF⟩|(subst_vars;exact⟨rfl,u.aF⟩)|(refine⟨?_,u.aF⟩;unfold gz gF lJ;first|(rw[ej (show op<5\/15<op by omega)];rfl)|simp[*])
 .refine pop (v:=.func (.func 325) #[] #[]) (by kernel_rfl) (pop (v:=.bool false) (by kernel_rfl) (eR ?_));refine⟨_,?_,λ_ _ h=>h⟩;refine aG (eO dy (aG (eO dy ?_)));intro G;refine eR (gS (first:=[]) (cap:=[]) aoC (C325 a b _) ?_);rintro _ E ⟨rfl,B⟩;have u:=u.ext B
  first|exact⟨rfl,u.aF⟩|(subst_vars;exact⟨rfl,u.aF⟩)|(refine⟨?_,u.aF⟩;unfold gz gF lJ;first|(rw[ej (show op<5\/15<op by omega)];rfl)|simp[*])
 .refine pop (v:=.func (.func 326) #[] #[]) (by kernel_rfl) (pop (v:=.bool false) (by kernel_rfl) (eR ?_));refine⟨_,?_,λ_ _ h=>h⟩;refine aG (eO dy (aG (eO dy ?_)));intro G;refine eR (gS (first:=[]) (cap:=[]) aoD (C326 a b _) ?_);rintro _ E ⟨rfl,B⟩;have u:=u.ext B
  first|exact⟨rfl,u.aF⟩|(subst_vars;exact⟨rfl,u.aF⟩)|(refine⟨?_,u.aF⟩;unfold gz gF lJ;first|(rw[ej (show op<5\/15<op by omega)];rfl)|simp[*])
 .refine pop (v:=.func (.func 327) #[] #[]) (by kernel_rfl) (pop (v:=.bool false) (by kernel_rfl) (eR ?_));refine⟨_,?_,λ_ _ h=>h⟩;refine aG (qf dy (aG ?_));intro G;refine aC (λW=>?_) (λW=>?_)
  .first|exact⟨rfl,u.aF⟩|(subst_vars;exact⟨rfl,u.aF⟩)|(refine⟨?_,u.aF⟩;unfold gz gF lJ;first|(rw[ej (show op<5\/15<op by omega)];rfl)|simp[*])
  refine gS (first:=[]) (cap:=[]) aoE (C327 a b _ W) ?_;rintro _ E ⟨rfl,B⟩;have u:=u.ext B
  first|exact⟨rfl,u.aF⟩|(subst_vars;exact⟨rfl,u.aF⟩)|(refine⟨?_,u.aF⟩;unfold gz gF lJ;first|(rw[ej (show op<5\/15<op by omega)];rfl)|simp[*])
 .refine pop (v:=.func (.func 328) #[] #[]) (by kernel_rfl) (pop (v:=.bool false) (by kernel_rfl) (eR ?_));refine⟨_,?_,λ_ _ h=>h⟩;refine aG (eO dy (aG (qf dy (aG ?_))));intro G;refine aC (λW=>?_) (λW=>?_)
  .first|exact⟨rfl,u.aF⟩|(subst_vars;exact⟨rfl,u.aF⟩)|(refine⟨?_,u.aF⟩;unfold gz gF lJ;first|(rw[ej (show op<5\/15<op by omega)];rfl)|simp[*])
  refine gS (first:=[]) (cap:=[]) aoF (C328 a b _ W) ?_;rintro _ E ⟨rfl,B⟩;have u:=u.ext B
  first|exact⟨rfl,u.aF⟩|(subst_vars;exact⟨rfl,u.aF⟩)|(refine⟨?_,u.aF⟩;unfold gz gF lJ;first|(rw[ej (show op<5\/15<op by omega)];rfl)|simp[*])
 .refine pop (v:=.func (.func 323) #[] #[.pointer (some ⟨b1,0,none⟩)]) (by kernel_rfl) (pop (v:=.bool false) (by kernel_rfl) (eR ?_));refine⟨_,?_,λ_ _ h=>h⟩;refine aG (eO dy (aG (eO dy ?_)));intro G;refine eR ?_;obtain⟨M,U,V,I,O,J⟩:=u.eC;refine gS (first:=[]) (cap:=[.pointer (some ⟨b1,0,none⟩)]) Hp (C323 a b b1 _ _ _ M fb1) ?_;rintro _ E ⟨rfl,B⟩;have u:=u.ext B
  first|exact⟨rfl,u.aF⟩|(subst_vars;exact⟨rfl,u.aF⟩)|(refine⟨?_,u.aF⟩;unfold gz gF lJ;first|(rw[ej (show op<5\/15<op by omega)];rfl)|simp[*])
 .refine pop (v:=.func (.func 323) #[] #[.pointer (some ⟨b2,0,none⟩)]) (by kernel_rfl) (pop (v:=.bool false) (by kernel_rfl) (eR ?_));refine⟨_,?_,λ_ _ h=>h⟩;refine aG (eO dy (aG (eO dy ?_)));intro G;refine eR ?_;obtain⟨M,U,V,I,O,J⟩:=u.eC;refine gS (first:=[]) (cap:=[.pointer (some ⟨b2,0,none⟩)]) Hp (C323 a b b2 _ _ _ U fb2) ?_;rintro _ E ⟨rfl,B⟩;have u:=u.ext B
  first|exact⟨rfl,u.aF⟩|(subst_vars;exact⟨rfl,u.aF⟩)|(refine⟨?_,u.aF⟩;unfold gz gF lJ;first|(rw[ej (show op<5\/15<op by omega)];rfl)|simp[*])
 .refine pop (v:=.func (.func 323) #[] #[.pointer (some ⟨b3,0,none⟩)]) (by kernel_rfl) (pop (v:=.bool false) (by kernel_rfl) (eR ?_));refine⟨_,?_,λ_ _ h=>h⟩;refine aG (eO dy (aG (eO dy ?_)));intro G;refine eR ?_;obtain⟨M,U,V,I,O,J⟩:=u.eC;refine gS (first:=[]) (cap:=[.pointer (some ⟨b3,0,none⟩)]) Hp (C323 a b b3 _ _ _ V fb3) ?_;rintro _ E ⟨rfl,B⟩;have u:=u.ext B
  first|exact⟨rfl,u.aF⟩|(subst_vars;exact⟨rfl,u.aF⟩)|(refine⟨?_,u.aF⟩;unfold gz gF lJ;first|(rw[ej (show op<5\/15<op by omega)];rfl)|simp[*])
 .refine pop (v:=.func (.func 323) #[] #[.pointer (some ⟨b4,0,none⟩)]) (by kernel_rfl) (pop (v:=.bool false) (by kernel_rfl) (eR ?_));refine⟨_,?_,λ_ _ h=>h⟩;refine aG (eO dy (aG (eO dy ?_)));intro G;refine eR ?_;obtain⟨M,U,V,I,O,J⟩:=u.eC;refine gS (first:=[]) (cap:=[.pointer (some ⟨b4,0,none⟩)]) Hp (C323 a b b4 _ _ _ I fb4) ?_;rintro _ E ⟨rfl,B⟩;have u:=u.ext B
  first|exact⟨rfl,u.aF⟩|(subst_vars;exact⟨rfl,u.aF⟩)|(refine⟨?_,u.aF⟩;unfold gz gF lJ;first|(rw[ej (show op<5\/15<op by omega)];rfl)|simp[*])
 .refine pop (v:=.func (.func 323) #[] #[.pointer (some ⟨Y,0,none⟩)]) (by kernel_rfl) (pop (v:=.bool false) (by kernel_rfl) (eR ?_));refine⟨_,?_,λ_ _ h=>h⟩;refine aG (eO dy (aG (eO dy ?_)));intro G;refine eR ?_;obtain⟨M,U,V,I,O,J⟩:=u.eC;refine gS (first:=[]) (cap:=[.pointer (some ⟨Y,0,none⟩)]) Hp (C323 a b Y _ _ _ O fb5) ?_;rintro _ E ⟨rfl,B⟩;have u:=u.ext B
  first|exact⟨rfl,u.aF⟩|(subst_vars;exact⟨rfl,u.aF⟩)|(refine⟨?_,u.aF⟩;unfold gz gF lJ;first|(rw[ej (show op<5\/15<op by omega)];rfl)|simp[*])
 refine pop (v:=.func (.func 323) #[] #[.pointer (some ⟨b6,0,none⟩)]) (by kernel_rfl) (pop (v:=.bool false) (by kernel_rfl) (eR ?_));refine⟨_,?_,λ_ _ h=>h⟩;refine aG (eO dy (aG (eO dy ?_)));intro G;refine eR ?_;obtain⟨M,U,V,I,O,J⟩:=u.eC;refine gS (first:=[]) (cap:=[.pointer (some ⟨b6,0,none⟩)]) Hp (C323 a b b6 _ _ _ J fb6) ?_;rintro _ E ⟨rfl,B⟩;have u:=u.ext B
 first|exact⟨rfl,u.aF⟩|(subst_vars;exact⟨rfl,u.aF⟩)|(refine⟨?_,u.aF⟩;unfold gz gF lJ;first|(rw[ej (show op<5\/15<op by omega)];rfl)|simp[*])
theorem gg{α:Type}{l:List α}{k:Nat}{e:α}(h:l[k]?=some e):l.take k++[e]=l.take (k+1):=by rw[v7,h];rfl
def dY{α:Type}{φ:α->Prop}{l:List α}{k:Nat}{e:α}(h:∀y∈l.take k,φ y)(B:l[k]?=some e)(E:φ e):∀y∈l.take (k+1),φ y:=by
 intro y u
 rw[<- gg B]at u
 grind
theorem gY{α:Type}{g:α->Bool}{l:List α}{k:Nat}{e:α}(B:l[k]?=some e)(u:g e=true):l.any g=true:=List.any_eq_true.2 ⟨e,kO B,u⟩
theorem ix{α:Type}{g:α->Bool}{l:List α}(h:∀y∈l,g y=false):l.any g=false:=by
 grind
def sg{α:Type}(g:α->Bool)(l:List α):Int:=match l.findIdx? g with|some k=>k|none=>-1
def l6{α:Type}{g:α->Bool}{l:List α}{k:Nat}{e:α}(u:∀y∈l.take k,g y=false)(E:l[k]?=some e)(G:g e=true):sg g l=k:=by
 have:l.findIdx? g=some k:=by
  rw[List.findIdx?_eq_some_iff_getElem]
  have B:=(kE.1 E).1
  refine⟨B,cD,λj I=>?_⟩
  have:=u (l[j]'(bL)) (List.mem_take_iff_getElem.2 ⟨j,bL,rfl⟩)
  simp[this]
 unfold sg;rw[this]
def jb{α:Type}{g:α->Bool}{l:List α}(u:∀y∈l,g y=false):sg g l = -1:=by
 grind[sg]
def kN{α:Type}(g:α->Bool)(l:List α):decide (0<=sg g l)=l.any g:=by
 grind[sg]
def wD{α:Type}[Flat α](w:World)(f:Value)(g:α->Bool):Prop:=∃u first cap,f=.func (.func u) (P4 first) (P4 cap)/\Plain hH u/\
 ∀x B,Ext w B->Calls hH u (first++[jr x]++cap).toArray B (tu λv E=>v=.bool (g x)/\Ext B E)
theorem wD.ext{α:Type}[Flat α]{w w':World}{f:Value}{g:α->Bool}(h:wD w f g)(e:Ext w w'):wD w' f g:=by
 obtain⟨u,first,cap,h1,h2,h3⟩:=h;exact⟨u,first,cap,h1,h2,λx E B=>h3 x E (e.trans B)⟩
def eA(k:Int):Int:=if k=3\/k=4 then 1 else if 5<=k/\k<=15 then 2 else 0
def V7(st:Option (Int×Int))(x:ou):Option (Int×Int):=match st with
 | none=>none
 | some (n,h)=>if n-eA x.kind<0 then none else some (n-eA x.kind+1,max h (n-eA x.kind+1))
def ht(l:List ou):Option (Int×Int):=l.foldl V7 (some (0,0))
def htN(l:List ou):Int:=match ht l with|some p=>p.1|none=>0
def htH(l:List ou):Int:=match ht l with|some p=>p.2|none=>0
theorem AP{l:List ou}{k:Nat}{x:ou}(h:l[k]?=some x):ht (l.take (k+1))=V7 (ht (l.take k)) x:=by
 unfold ht;rw[<- gg h,Gg];rfl
def So{l:List ou}{k:Nat}(h:ht (l.take k)=none):ht l=none:=by
 have u:∀m:List ou,m.foldl V7 none=none:=λm=>by induction m with|nil=>rfl|cons y m B=>exact B
 have e:l=l.take k++l.drop k:=(qT k l).symm
 grind[ht]
def Sp(k:Int):0<=eA k/\eA k<=2:=by
 grind[eA]
theorem aiY{l:List ou}:∀k n h,k<=l.length->ht (l.take k)=some (n,h)->0<=n/\n<=(k:Int)/\0<=h/\h<=(k:Int)
 | 0,n,h,_,e=>by
  have:ht ([]:List ou)=some (0,0):=rfl
  grind
 | k+1,n,h,E,e=>by
  obtain⟨x,u⟩:=gx l (i:=k) bL
  rw[AP u]at e
  cases hp:ht (l.take k)with
  | none=>rw[hp]at e;cases e
  | some p=>
   obtain⟨a,b⟩:=p
   have G:=aiY k a b bL hp
   have B:=Sp x.kind
   rw[hp]at e
   unfold V7 at e
   grind
def adj{l:List ou}{k:Nat}{x:ou}{n h m:Int}(B:l[k]?=some x)(u:ht (l.take k)=some (n,h))(E:m=n-eA x.kind)(G:¬ m<0):ht (l.take (k+1))=some (m+1,max h (m+1)):=by
 rw[AP B,u];grind[V7]
def aiZ{l:List ou}{k:Nat}{x:ou}{n h m:Int}(B:l[k]?=some x)(u:ht (l.take k)=some (n,h))(E:m=n-eA x.kind)(G:m<0):ht (l.take (k+1))=none:=by
 rw[AP B,u];grind[V7]
def qU(many:Int)(x:ou):Bool:=decide ((x.kind=1/\(x.n<0\/4294967296<x.n))\/(x.kind=2/\(x.n<0\/many<=x.n))\/(¬ x.kind=1/\¬ x.kind=2/\(¬ x.n=0\/x.kind<1\/16<=x.kind)))
def mu(l:List ou)(many:Int):Bool:=decide (l.length<=40)&&(ht l).isSome&&decide (htN l=1)&&!l.any (qU many)
def C267(k:Int)(w:World):CR 267 [ir k] w (λv w'=>v=ir (eA k)/\Ext w w'):=by
 have B:=St.start w;refine fb Tryz.func267 ?_;refine⟨λI w'=>I=.bool (decide (k=3\/k=4))/\w=w',aG (aC (λ_=>⟨Oz bL,rfl⟩) λ_=>aG ⟨yd bL,rfl⟩),?_⟩;rintro _ _ ⟨rfl,G⟩ _;subst G;refine aC (λu=>?_) (λu=>⟨λI w'=>I=.bool (decide (5<=k/\k<=15))/\w=w',cO (aC (λ_=>gu ⟨yd bL,rfl⟩) λ_=>⟨Uf bL,rfl⟩),?_⟩)
 .unfold eA
  first|(rw[ej u];exact⟨rfl,B.aF⟩)|(rw[ei u,ej E];exact⟨rfl,B.aF⟩)|(rw[ei u,ei E];exact⟨rfl,B.aF⟩)
 rintro _ _ ⟨rfl,G⟩ _;subst G;refine aC (λE=>?_) (λE=>?_)
 .unfold eA
  first|(rw[ej u];exact⟨rfl,B.aF⟩)|(rw[ei u,ej E];exact⟨rfl,B.aF⟩)|(rw[ei u,ei E];exact⟨rfl,B.aF⟩)
 unfold eA
 first|(rw[ej u];exact⟨rfl,B.aF⟩)|(rw[ei u,ej E];exact⟨rfl,B.aF⟩)|(rw[ei u,ei E];exact⟨rfl,B.aF⟩)
def C299(O:Value)(xs:List ou)(w:World)(J:cZ (λ_=>True) w O xs)(hn:xs.length<=1048576):CR 299 [O] w (λv w'=>v=.tuple #[ir (htN xs),ir (htH xs),.bool (ht xs).isSome]/\Ext w w'):=by
 have u:=St.start w;refine fb Tryz.func299 ?_;refine aI tG (J.ext u.aF) ?_;refine⟨λm y z x M=>∃(k:Nat) (n h:Int),y=ir n/\z=ir h/\x=ir (k:Int)/\m=xs.length-k/\k<=xs.length/\ht (xs.take k)=some (n,h)/\St w aX [] M,⟨_,0,0,0,rfl,rfl,rfl,rfl,bL,rfl,u⟩,?_⟩;rintro m _ _ _ M ⟨k,n,h,rfl,rfl,rfl,rfl,hk,B,u⟩ _;refine aN (aC (λV=>?_) λV=>?_)
 .obtain⟨I,E⟩:=gx xs (i:=(k:Int).toNat) bL;refine aK tG (J.ext u.aF) bL E (λ_ W=>aE ED W (aQ u Jn λPd _ u=>aM (x:=I) u ED rfl rfl λ_ u=>aA nE (aB bO u.hb rfl (aV WZ u (C267 _ _) λ_ Z u=>?_))));have hw:=Sp I.kind;have U:=aiY k n h bL B;refine fc bL (aN (aC (λG=>?_) λG=>aJ bL (DJ (aJ bL ⟨_,bL,k+1,_,_,rfl,rfl,rfl,rfl,bL,by rw[AP (k:=k) E,B];unfold V7;simp only[];rw[ei G],u.drop⟩))));have Y:ht xs=none:=So (k:=k+1) (by rw[AP (k:=k) E,B];unfold V7;simp only[];rw[ej G])
  unfold htN htH;rw[Y];exact⟨rfl,u.aF⟩
 rw[la bL]at B;unfold htN htH;rw[B];exact⟨rfl,u.aF⟩
def C298(x:ou)(b2:Nat)(many:Int)(w:World)(hc:Cell w b2 0 (ir many)):CR 298 [jr x,.pointer (some ⟨b2,0,none⟩)] w (λv w'=>v=.bool (qU many x)/\Ext w w'):=by
 have u:=St.start w;refine fb Tryz.func298 ?_;refine cP u (λW _ u=>aA nE (aB bO u.hb rfl (aG (aC (λM=>⟨_,aA qt (aB bO u.hb rfl (aN (aC (λO=>?_) λO=>?_))),λ_ _ h=>h⟩) λM=>aA nE (aB bO u.hb rfl (aG (aC (λG=>⟨_,aA qt (aB bO u.hb rfl (aN (aC (λV=>?_) λV=>?_))),λ_ _ h=>h⟩) λG=>?_)))))))
 .intro J;refine⟨vb ?_,u.aF⟩;unfold qU
  first|exact(ew bL).symm|exact(ez bL).symm|exact fN.2 bL
 .refine aA qt (aB bO u.hb rfl (cL ?_));intro J;refine⟨vb ?_,u.aF⟩;unfold qU
  first|exact(ew bL).symm|exact(ez bL).symm|exact fN.2 bL
 .intro U;refine⟨vb ?_,u.aF⟩;unfold qU
  first|exact(ew bL).symm|exact(ez bL).symm|exact fN.2 bL
 .refine aA qt (aB bO u.hb rfl (bE bO (hc.ext u.aF) (cO ?_)));intro U;refine⟨vb ?_,u.aF⟩;unfold qU
  first|exact(ew bL).symm|exact(ez bL).symm|exact fN.2 bL
 refine⟨_,?_,λ_ _ h=>h⟩;refine aA qt (aB bO u.hb rfl (bW (aC (λE=>?_) λE=>aA nE (aB bO u.hb rfl (aN (aC (λI=>?_) λI=>?_))))))
 .intro B;refine⟨vb ?_,u.aF⟩;unfold qU
  first|exact(ew bL).symm|exact(ez bL).symm|exact fN.2 bL
 .intro B;refine⟨vb ?_,u.aF⟩;unfold qU
  first|exact(ew bL).symm|exact(ez bL).symm|exact fN.2 bL
 refine aA nE (aB bO u.hb rfl (cO ?_));intro B;refine⟨vb ?_,u.aF⟩;unfold qU
 first|exact(ew bL).symm|exact(ez bL).symm|exact fN.2 bL
def C321(M fv:Value)(xs:List ou)(g:ou->Bool)(w:World)(J:cZ (λ_=>True) w M xs)(O:wD w fv g)(hn:xs.length<=1073741824):CR 321 [M,fv] w (λv w'=>v=ir (sg g xs)/\Ext w w'):=by
 obtain⟨g0,first,cap,rfl,Z,Y⟩:=O;have u:=St.start w;refine fb Tryz.func321 ?_;refine aI tG (J.ext u.aF) ?_;refine⟨λm x I=>∃k:Nat,x=ir (k:Int)/\m=xs.length-k/\k<=xs.length/\(∀y∈xs.take k,g y=false)/\St w aX [] I,⟨_,0,rfl,rfl,l2 _,ee,u⟩,?_⟩;rintro m _ I ⟨k,rfl,rfl,hk,B,u⟩ _;refine aN (aC (λjA=>?_) λ_=>⟨gL (n3 .i64) (jb (by rw[la bL]at B;exact B)).symm,u.aF⟩);obtain⟨W,E⟩:=gx xs (i:=(k:Int).toNat) bL;refine aK tG (J.ext u.aF) bL E (λ_ U=>aE ED U (gS Z (Y W I u.aF) ?_))
 rintro _ _ ⟨rfl,V⟩;have u:=u.ext V;exact aW (λG=>⟨gL (n3 .i64) (l6 B E G).symm,u.aF⟩) (λG=>aJ bL ⟨xs.length-(k+1),bL,k+1,rfl,rfl,bL,dY B E G,u⟩)
def C300(B fv:Value)(xs:List ou)(g:ou->Bool)(w:World)(E:cZ (λ_=>True) w B xs)(G:wD w fv g)(I:xs.length<=1073741824):CR 300 [B,fv] w (λv w'=>v=.bool (xs.any g)/\Ext w w'):=by
 have u:=St.start w;refine fb Tryz.func300 ?_;exact aV aoA u (C321 _ _ _ _ _ (E.ext u.aF) (G.ext u.aF) bL) (λ_ _ u=>cO ⟨vb (kN _ _),u.aF⟩)
def C266(M:Value)(xs:List ou)(many:Int)(w:World)(B:cZ (λ_=>True) w M xs)(Z:xs.length<=1048576):CR 266 [M,ir many] w (λv w'=>v=.bool (mu xs many)/\Ext w w'):=by
 have u:=St.start w;refine fb Tryz.func266 ?_;refine nx u rfl (λI J u=>aV aot u (C299 _ _ _ (B.ext u.aF) bL) λ_ W u=>aO rfl (aO rfl (aO rfl ?_)));refine⟨_,?_,λ_ _ h=>h⟩;refine aI tG (B.ext u.aF) (gu (aC (λO=>aW (λV=>aG (aC (λY=>?_) λY=>?_)) λV=>?_) λO=>?_))
 .have E:wD _ (.func (.func 298) [].toArray [.pointer (some ⟨I,0,none⟩)].toArray) (qU many):=
   ⟨298,[],_,rfl,aos,λy J U=>C298 y I many J ((u.hb.cell rfl).ext U)⟩
  refine aV aou u (C300 _ _ _ _ _ (B.ext u.aF) E bL) (λ_ W u=>bN ?_);intro G;refine⟨vb ?_,u.aF⟩;unfold mu
  simp_all<;>omega
 .intro G;refine⟨vb ?_,u.aF⟩;unfold mu
  simp_all<;>omega
 .intro G;refine⟨vb ?_,u.aF⟩;unfold mu
  simp_all<;>omega
 intro G;refine⟨vb ?_,u.aF⟩;unfold mu
 simp_all<;>omega
def oS(b:Nat)(rest:List Value)(l:List Int):HP:=oO λu=>sep (bX b (u::rest)) (bF u l)
def oS.shut{w0 w:World}{A:Nat->Prop}{R:List HP}{b:Nat}{rest:List Value}{u:Value}{l:List Int}(B:St w0 A (bX b (u::rest)::bF u l::R) w):St w0 A (oS b rest l::R) w:=
 St.dT (H:=λu=>sep (bX b (u::rest)) (bF u l)) u (St.join B)
def oS.open{w0 w:World}{A:Nat->Prop}{R:List HP}{b:Nat}{rest:List Value}{l:List Int}(B:St w0 A (oS b rest l::R) w):∃u,St w0 A (bX b (u::rest)::bF u l::R) w:=by
 obtain⟨u,B⟩:=B.dK;exact⟨u,B.split⟩
def j6(l:List Int):Int:=l.getD (l.length-1) 0
theorem XF{l:List Int}{e:Int}(h:l[((l.length:Int)-1).toNat]?=some e):e=j6 l:=by
 simp_all[j6]
def C301(b:Nat)(n:Int)(rest:List Value)(l:List Int)(F:Nat->Prop)(w:World)(G:(oS b rest l).p w F)(J:l.length<=1048576):CR 301 [.pointer (some ⟨b,0,none⟩),ir n] w (λv w'=>v=.tuple #[]/\mT F (oS b rest (l++[n])) w w'):=by
 have u:=St.begin G;obtain⟨I,u⟩:=u.dK;have u:=u.split;refine fb Tryz.func301 ?_;refine aD (aA qq (aB dX u.hb rfl (bD ([n]:List Int) u cQ rfl rfl (dQ rfl) λB _ u=>?_)));have E:=u.dS;exact bJ u.p2 cQ E (by simp<;>omega) dy (λ_ _ u=>have u:=u.p1.drop;aD (aA qq (aR u.p1 dX (dQ rfl) u.dS.one λ_ u=>have u:=u.p1.p1;⟨rfl,(oS.shut u).mut⟩)))
def C270(b:Nat)(rest:List Value)(l:List Int)(F:Nat->Prop)(w:World)(G:(oS b rest l).p w F)(U:l.length<=1048576)(M:0<l.length):CR 270 [.pointer (some ⟨b,0,none⟩)] w (λv w'=>v=ir (j6 l)/\mT F (oS b rest (l.take (l.length-1))) w w'):=by
 have u:=St.begin G;obtain⟨O,u⟩:=u.dK;have u:=u.split;refine pj Tryz.func270 (pl:=awm) ?_;refine aD (aA qq (have u:=u.drew;aB dX u.hb rfl (aD (aA qq (aB dX u.hb rfl (aI cQ u.p1.dS (fc bL ?_)))))));obtain⟨J,B⟩:=gx l (i:=((l.length:Int)-1).toNat) bL;refine dG u.p1 cQ bL bL (λ_ I=>fM u.p1 bO I B (aD (aA qq (have u:=u.drew;aB dX u.hb rfl (aD (aA qq (aB dX u.hb rfl (aI cQ u.p1.dS (fc bL (have u:=u.p1;EN cQ u bL bL λE u=>aD (aA qq ?_)))))))))))
 refine aR u.p1 dX (dQ rfl) u.dS.one (λ_ u=>?_);have u:=u.p1.p1;rw[show((l.length:Int)-1).toNat=l.length-1 from bL]at u;rw[XF B];exact⟨rfl,(oS.shut u).mut⟩
def C268(b:Nat)(n hi:Int)(l:List Int)(F:Nat->Prop)(w:World)(B:(oS b [ir hi] l).p w F)(I:l.length<=1048576):CR 268 [.pointer (some ⟨b,0,none⟩),ir n] w (λv w'=>v=.tuple #[]/\∃E,mT F (oS b [ir E] (l++[n])) w w'):=by
 have u:=St.begin B;refine pj Tryz.func268 (pl:=awl) ?_;refine aD (aA uK (qe aov u (H':=λ_=>oS b [ir hi] (l++[n])) (Φ:=λv _=>v=.tuple #[]) (λF B=>?_) ?_))
 .exact C301 b n _ l F _ B bL
 rintro _ _ rfl u;obtain⟨G,u⟩:=oS.open u;exact aD (aA LJ (have u:=u.drew;aB bO u.hb rfl (aD (aA uK (aA qq (aB dX u.hb rfl (aI cQ u.p1.dS (DJ (aD (aA LJ (aR u bO (dQ rfl) (rfl) λ_ u=>have u:=u.p1.p1;⟨rfl,_,(oS.shut u).mut⟩)))))))))))
def lq(ns S:List Int)(x:ou):List Int:=
 if eA x.kind=0 then S++[if x.kind=2 then ns.getD x.n.toNat 0 else x.n]
 else if eA x.kind=1 then S.take (S.length-1)++[yH x.kind (j6 S)]
 else S.take (S.length-2)++[gz x.kind (j6 (S.take (S.length-1))) (j6 S)]
def vA(S:List Int)(x:ou):Int:=if eA x.kind=2 then gF x.kind (j6 S)else 0
def wF(ns:List Int):List ou->List Int->Int×Int
 | [],S=>(j6 S,0)
 | x::r,S=>if vA S x=0 then wF ns r (lq ns S x)else(0,vA S x)
def runM(l:List ou)(ns:List Int):Int×Int:=if mu l ns.length=true then wF ns l []else(0,8)
def AR(k:Int):eA k=0\/eA k=1\/eA k=2:=by
 grind[eA]
section
variable {xs:List ou}{ns S:List Int}{k:Nat}{x:ou}{n h:Int}
theorem DM(E:xs[k]?=some x)(h:vA S x=0):wF ns (xs.drop k) S=wF ns (xs.drop (k+1)) (lq ns S x):=by
 obtain⟨u,B⟩:=kE.1 E
 rw[vl u,B,wF,ej h]
theorem XG(E:xs[k]?=some x)(h:¬ vA S x=0):wF ns (xs.drop k) S=(0,vA S x):=by
 obtain⟨u,B⟩:=kE.1 E
 rw[vl u,B,wF,ei h]
theorem yU{many:Int}(h:mu xs many=true):xs.length<=40/\(∃a,ht xs=some (1,a))/\∀x∈xs,qU many x=false:=by
 unfold mu at h
 rw[oj,oj,oj,decide_eq_true_eq,decide_eq_true_eq]at h
 obtain⟨⟨⟨h1,h2⟩,h3⟩,h4⟩:=h
 refine⟨h1,?_,λx u=>?_⟩
 .unfold htN at h3
  grind
 grind
theorem Ut(u:eA x.kind<=(S.length:Int)):((lq ns S x).length:Int)=S.length-eA x.kind+1:=by
 unfold lq
 rcases AR x.kind with h|h|h
 .grind
 .grind
 grind
theorem Uu{a:Int}(I:ht xs=some (1,a))(B:ht (xs.take k)=some ((S.length:Int),h))(E:xs[k]?=some x) :
  eA x.kind<=(S.length:Int)/\∃G,ht (xs.take (k+1))=some (((lq ns S x).length:Int),G):=by
 have u:eA x.kind<=(S.length:Int):=by
  rcases Int.lt_or_le ((S.length:Int)-eA x.kind) 0 with h1|h1
  .have:=So (aiZ E B rfl h1);grind
  .omega
 exact⟨u,_,(adj E B rfl bL).trans (by rw[Ut u])⟩
theorem ai0(u:eA x.kind=0)(h2:¬ x.kind=2):lq ns S x=S++[x.n]:=by unfold lq;grind
theorem ai1{e:Int}(B:eA x.kind=0)(h2:x.kind=2)(u:ns[x.n.toNat]?=some e):lq ns S x=S++[e]:=by
 grind[lq]
theorem ai2(u:eA x.kind=1):lq ns S x=S.take (S.length-1)++[yH x.kind (j6 S)]:=by unfold lq;rw[ei bL,ej u]
theorem ai3(u:eA x.kind=2):lq ns S x=S.take (S.length-2)++[gz x.kind (j6 (S.take (S.length-1))) (j6 S)]:=by unfold lq;rw[ei bL,ei bL]
theorem XH(u:¬ eA x.kind=2):vA S x=0:=by unfold vA;omega
theorem agX(u:eA x.kind=2):vA S x=gF x.kind (j6 S):=by unfold vA;omega
theorem Pe(h:2<=S.length):(S.take (S.length-1)).take ((S.take (S.length-1)).length-1)=S.take (S.length-2):=by
 grind
end
def ni(b:Nat)(l:List Int):HP:=oO fun (hi:Int)=>oS b [ir hi] l
def ni.shut{w0 w:World}{A:Nat->Prop}{R:List HP}{b:Nat}{hi:Int}{l:List Int}(u:St w0 A (oS b [ir hi] l::R) w):St w0 A (ni b l::R) w:=
 St.dT (H:=fun (hi:Int)=>oS b [ir hi] l) hi u
def adk(b:Nat)(n:Int)(l:List Int)(F:Nat->Prop)(w:World)(u:(ni b l).p w F)(I:l.length<=1048576) :
  Calls hH 268 [.pointer (some ⟨b,0,none⟩),ir n].toArray w (tu λv w'=>v=.tuple #[]/\mT F (ni b (l++[n])) w w'):=by
 obtain⟨hi,u⟩:=u
 refine(C268 b n hi l F w u I).mono λe w' ⟨v,J,E,G,B,h1,h2⟩=>⟨v,J,E,B,⟨G,h1⟩,h2⟩
def adl(b:Nat)(l:List Int)(F:Nat->Prop)(w:World)(u:(ni b l).p w F)(I:l.length<=1048576)(G:0<l.length) :
  Calls hH 270 [.pointer (some ⟨b,0,none⟩)].toArray w (tu λv w'=>v=ir (j6 l)/\mT F (ni b (l.take (l.length-1))) w w'):=by
 obtain⟨hi,u⟩:=u
 refine(C270 b [ir hi] l F w u I G).mono λe w' ⟨v,J,E,B,h1,h2⟩=>⟨v,J,E,B,⟨hi,h1⟩,h2⟩
def C219(sv nv:Value)(xs:List ou)(ns:List Int)(w:World)(hL:cZ (λ_=>True) w sv xs)(hN:cZ (λ_=>True) w nv ns)(hn:xs.length<=1048576):CR 219 [sv,nv] w (λv w'=>v=.tuple #[ir (runM xs ns).1,ir (runM xs ns).2]/\Ext w w'):=by
 have u:=St.start w;refine acI _ _ _ _ ?_;unfold S219;refine aI cQ (hN.ext u.aF) (aV aog u (C266 _ _ _ _ (hL.ext u.aF) hn) λw1 he u=>bN (aW (λY=>?_) λY=>?_))
 .unfold runM;rw[ei (by simpa using Y)];exact⟨rfl,u.aF⟩
 refine aQ u ac9 (λE _ u=>?_);have u:=ni.shut (oS.shut (u.eU (α:=Int)).p1);have lL:mu xs (ns.length:Int)=true:=by simpa using Y
 obtain⟨h40,⟨a0,ql⟩,awM⟩:=yU lL;refine aI tG (hL.ext u.aF) ?_;refine⟨λm x w1=>∃(k:Nat) (S:List Int) (h:Int),x=ir (k:Int)/\m=xs.length-k/\k<=xs.length/\wF ns xs []=wF ns (xs.drop k) S/\ht (xs.take k)=some ((S.length:Int),h)/\St w aX [ni E S] w1,⟨_,0,[],0,rfl,rfl,bL,rfl,rfl,u⟩,?_⟩;rintro m _ _ ⟨k,S,h,rfl,rfl,hk,O,V,u⟩ _;refine aN (aC (λm8=>?_) λm8=>?_)
 .refine⟨_,?_,λ_ h=>h⟩;obtain⟨B,J⟩:=gx xs (i:=(k:Int).toNat) bL;refine aK tG (hL.ext u.aF) bL J (λ_ xj=>aE ED xj (aQ u Jn λPd _ u=>aM (x:=B) u ED rfl rfl λ_ u=>aA nE (aB bO u.hb rfl (aV WZ u (C267 _ _) λ_ he u=>?_))));have KU:=awM _ (kO J);unfold qU at KU;have ho:=g6 KU;obtain⟨hw0,h2,I⟩:=Uu (ns:=ns) (k:=k) ql V J;have hwk:eA B.kind=0->B.kind=1\/B.kind=2\/¬ (B.kind=1\/B.kind=2):=λ_=>bL
  have hSk:=aiY k _ _ bL V;have hw3:=AR B.kind;refine aG (aC (λW=>aA qt (aB bO u.hb rfl ⟨_,aA nE (aB bO u.hb rfl (aG (aC (λwg=>?_) λwg=>?_))),λ_ _ h=>h⟩)) λW=>aG (aC (λU=>?_) λU=>?_))
  .refine aA qt (aB bO u.hb rfl ?_);obtain⟨XI,Pf⟩:=gx ns (i:=B.n.toNat) bL;refine aK cQ (hN.ext u.aF) bL Pf (λ_ AS=>aE bO AS ?_);intro vp;refine qe RY u.p1 (H':=λ_=>ni E (S++[XI])) (Φ:=λv _=>v=.tuple #[]) (λF G=>?_) ?_
   .exact adk E XI S F _ G (by first|omega|(simp only[l9,l0,nh];omega))
   rintro _ w8 rfl u;intro yl;refine aJ bL ?_;have u:=u.p1.drop;have M:lq ns S B=_:=ai1 W wg Pf;exact⟨_,bL,k+1,_,_,rfl,rfl,bL,O.trans (DM (k:=k) J (XH bL)),I,by rw[M];exact u⟩
  .intro vp;refine qe RY u.p1 (H':=λ_=>ni E (S++[B.n])) (Φ:=λv _=>v=.tuple #[]) (λF G=>?_) ?_
   .exact adk E B.n S F _ G (by first|omega|(simp only[l9,l0,nh];omega))
   rintro _ w8 rfl u;intro yl;refine aJ bL ?_;have u:=u.p1.drop;have M:lq ns S B=_:=ai0 W wg;exact⟨_,bL,k+1,_,_,rfl,rfl,bL,O.trans (DM (k:=k) J (XH bL)),I,by rw[M];exact u⟩
  .refine aA nE (have u:=u.drew;aB bO u.hb rfl (aA uK (qe RZ u.p1 (H':=λ_=>ni E (S.take (S.length-1))) (Φ:=λv _=>v=ir (j6 S)) (λF G=>?_) ?_)))
   .exact adl E S F _ G (by first|omega|(simp only[l9,l0,nh];omega)) (by first|omega|(simp only[l9,l0,nh];omega))
   rintro _ _ rfl u;refine⟨aH bO (u.p1.hb.cell rfl),?_⟩;refine aV aoh u (C269 _ _ _) (λ_ he u=>aO rfl (aO rfl (qe RY u (H':=λ_=>ni E ((S.take (S.length-1))++[(yH B.kind (j6 S))])) (Φ:=λv _=>v=.tuple #[]) (λF G=>?_) ?_)))
   .exact adk E (yH B.kind (j6 S)) (S.take (S.length-1)) F _ G (by first|omega|(simp only[l9,l0,nh];omega))
   rintro _ _ rfl u;intro yl;refine aJ bL ?_;have u:=u.p1.drop;have M:lq ns S B=_:=ai2 U;exact⟨_,bL,k+1,_,_,rfl,rfl,bL,O.trans (DM (k:=k) J (XH bL)),I,by rw[M];exact u⟩
  refine aA uK (qe RZ u.p1 (H':=λ_=>ni E (S.take (S.length-1))) (Φ:=λv _=>v=ir (j6 S)) (λF G=>?_) ?_)
  .exact adl E S F _ G (by first|omega|(simp only[l9,l0,nh];omega)) (by first|omega|(simp only[l9,l0,nh];omega))
  rintro _ _ rfl u;refine aA nE (have u:=u.drew;aB bO u.p1.hb rfl (aA uK (qe RZ u (H':=λ_=>ni E ((S.take (S.length-1)).take ((S.take (S.length-1)).length-1))) (Φ:=λv _=>v=ir (j6 (S.take (S.length-1)))) (λF G=>?_) ?_)))
  .exact adl E (S.take (S.length-1)) F _ G (by first|omega|(simp only[l9,l0,nh];omega)) (by first|omega|(simp only[l9,l0,nh];omega))
  rintro _ _ rfl u;refine⟨aH bO (u.p1.hb.cell rfl),?_⟩;refine aV aoi u (C271 _ _ _ _) (λ_ he u=>aO rfl (aO rfl (bW (aC (λZ=>?_) λZ=>?_))))
  .have hz:vA S B=gF B.kind (j6 S):=agX (by have:=AR B.kind;omega);unfold runM;rw[ej lL,O,XG (k:=k) J (by rw[hz];exact Z),hz];exact⟨rfl,u.aF⟩
  refine qe RY u (H':=λ_=>ni E (((S.take (S.length-1)).take ((S.take (S.length-1)).length-1))++[(gz B.kind (j6 (S.take (S.length-1))) (j6 S))])) (Φ:=λv _=>v=.tuple #[]) (λF G=>?_) ?_
  .exact adk E (gz B.kind (j6 (S.take (S.length-1))) (j6 S)) ((S.take (S.length-1)).take ((S.take (S.length-1)).length-1)) F _ G (by first|omega|(simp only[l9,l0,nh];omega))
  rintro _ _ rfl u;intro yl;refine aJ bL ?_;have u:=u.p1.drop;rw[Pe bL]at u;have M:lq ns S B=_:=ai3 (by have:=AR B.kind;omega);exact⟨_,bL,k+1,_,_,rfl,rfl,bL,O.trans (DM (k:=k) J ((agX (by have:=AR B.kind;omega)).trans (A0.1 Z))),I,by rw[M];exact u⟩
 refine aA uK ?_
 have hS1:S.length=1:=by
  rw[la bL,ql]at V;have:=(Prod.mk.inj (ob.inj V)).1;omega
 refine qe RZ u (H':=λ_=>ni E (S.take (S.length-1))) (Φ:=λv _=>v=ir (j6 S)) (λF G=>?_) ?_
 .exact adl E S F _ G (by first|omega|(simp only[l9,l0,nh];omega)) (by first|omega|(simp only[l9,l0,nh];omega))
 rintro _ _ rfl u;unfold runM;rw[ej lL,O,u6 bL];exact⟨rfl,u.aF⟩
def XJ(x:Int):eT (BM x):=by unfold eT BM;rw[IntKind.wrap_i64];omega
def ado{a:Int}(b:Int)(B:eT a):eT (a.tmod b):=by
 have u:(a.tmod b).natAbs<=a.natAbs:=by rw[X6];exact acb _ _
 unfold eT at *
 rcases ab2 0 a with h|h
 .have:=Rp b h;omega
 have:=Rp (a:=-a) b bL
 rw[ab1]at this;omega
def XK(p:Bool):eT (Jt p):=by cases p<;>(unfold eT Jt;decide)
def iy:eT 0:=by unfold eT;decide
def XL{op a b:Int}(u:eT a):eT (gz op a b):=by
 unfold gz
 by_cases h:gF op b=0
 .rw[ej h]
  unfold lJ EU
  repeat' split
  all_goals first|exact XJ _|exact XK _|exact iy|exact ado _ u
 rw[ei h];exact iy
def XM{op a:Int}:eT (yH op a):=by
 unfold yH
 repeat' split
 all_goals first|exact XJ _|exact XK _|exact iy
def yI(S:List Int):Prop:=∀v∈S,eT v
theorem LU{S:List Int}(h:yI S):eT (j6 S):=by
 unfold j6
 rw[oi]
 cases hh:S[S.length-1]? with
 | none=>exact iy
 | some e=>exact h e (kO hh)
def yI.take{S:List Int}(h:yI S)(k:Nat):yI (S.take k):=λv u=>h v (x7 u)
def yI.snoc{S:List Int}{e:Int}(h:yI S)(B:eT e):yI (S++[e]):=λv u=>by
 rcases List.mem_append.1 u with u|u
 .exact h v u
 grind
theorem XN{ns S:List Int}{x:ou}{many:Int}(E:yI ns)(u:yI S)(B:qU many x=false):yI (lq ns S x):=by
 unfold qU at B
 have B:=g6 B
 unfold lq
 split
 .rename_i hw
  split
  .rw[oi]
   cases hh:ns[x.n.toNat]? with
   | none=>exact u.snoc iy
   | some e=>grind[yI]
  refine u.snoc ?_
  unfold eA at hw
  unfold eT
  omega
 split
 .exact(u.take _).snoc XM
 exact(u.take _).snoc (XL (LU (u.take _)))
def cU(ns:List ByteArray)(s:ByteArray):Int:=sg (λy=>decide (y=s)) ns
def iJ(p:cR):List cC:=p.lines.flatten++p.iP
structure PS(p:cR):Prop where
 lines:p.lines.length<=500
 line:∀l∈p.lines,l.length<=500
 iP:p.iP.length<=500
 eE:p.eE.length<=500
 threads:p.threads.length<=500
 recover:p.recover.length<=500
 dV:p.dV.length<=500
 dO:∀t∈p.threads++p.recover,t.dO.length<=500
 body:∀t∈p.threads++p.recover,t.body.length<=500
theorem cX{ls:List (List cC)}(h:∀l∈ls,l.length<=500):ls.flatten.length<=500*ls.length:=by
 induction ls with
 | nil=>simp
 | cons a ls u=>
  grind
def kP{p:cR}(h:PS p):(iJ p).length<=250500:=by
 have h1:=cX h.line
 have h2:=h.lines
 have h3:=h.iP
 grind[iJ]
theorem Uv{α:Type}{ls:List (List α)}{k:Nat}{l:List α}(h:ls[k]?=some l):(ls.take k).flatten++l=(ls.take (k+1)).flatten:=by rw[<- gg h,List.flatten_append];simp
theorem fV{α β:Type}{f:α->β}{l:List α}{k:Nat}{e:α}(h:l[k]?=some e):(l.take k).map f++[f e]=(l.take (k+1)).map f:=by rw[<- gg h,vG];rfl
def C123(lv:Value)(ns:List ByteArray)(q:ByteArray)(w:World)(I:cZ (λ_=>True) w lv ns)(V:ns.length<=1048576):CR 123 [lv,.string q] w (λv w'=>v=ir (cU ns q)/\Ext w w'):=by
 have u:=St.start w;refine fb Tryz.func123 ?_;refine⟨λm x J=>∃k:Nat,x=ir (k:Int)/\m=ns.length-k/\k<=ns.length/\(∀y∈ns.take k,decide (y=q)=false)/\St w aX [] J,⟨_,0,rfl,rfl,l2 _,ee,u⟩,?_⟩;rintro m _ J ⟨k,rfl,rfl,U,B,u⟩ _;refine aI iu (I.ext u.aF) (aN (aC (λW=>?_) λ_=>⟨gL (n3 .i64) (jb (by rw[la bL]at B;exact B)).symm,u.aF⟩));obtain⟨O,E⟩:=gx ns (i:=(k:Int).toNat) bL;exact aK iu (I.ext u.aF) bL E (λ_ M=>aE gv M (jz (aC (λG=>⟨gL (n3 .i64) (l6 B E (ew G)).symm,u.aF⟩) λG=>aJ bL ⟨ns.length-(k+1),bL,k+1,rfl,rfl,bL,dY B E (ez G),u⟩)))
def C202(lv:Value)(cs:List cC)(w:World)(G:cZ (λ_=>True) w lv cs)(Z:cs.length<=1048576):CR 202 [lv] w (λv w'=>lf (bF v (cs.map cC.name)) w w'):=by
 have u:=St.start w;refine fb Tryz.func202 ?_;refine bD ([]:List ByteArray) u iu rfl rfl (dQ rfl) (λLV I u=>?_);refine⟨λm y x I=>∃k:Nat,x=ir (k:Int)/\m=cs.length-k/\k<=cs.length/\St w aX [bF y ((cs.take k).map cC.name)] I,⟨_,0,rfl,rfl,bL,u⟩,?_⟩;rintro m V _ _ ⟨k,rfl,rfl,W,u⟩ _;have Hs:((cs.take k).map cC.name).length=k:=by rw[List.length_map,l9];omega
 refine aI ic (G.ext u.aF) (aN (aC (λU=>?_) λU=>?_))
 .obtain⟨E,B⟩:=gx cs (i:=(k:Int).toNat) bL;refine aK ic (G.ext u.aF) bL B (λ_ O=>bT E.name kJ O rfl rfl λ_ M=>aE gv M (bD ([E.name]) u iu rfl rfl (dQ rfl) λY _ u=>?_));have J:=u.dS;exact bJ u.p1 iu J (by simp<;>omega) dy (λ_ _ u=>have u:=u.p1.drop;aJ bL ⟨_,bL,k+1,rfl,rfl,bL,by rw[<- fV (k:=k) B];exact u⟩)
 rw[la bL]at u;exact u.fresh
def C59(p:cR)(pv:bP)(w:World)(hp:Deep.dr w pv p)(B:PS p):CR 59 [jr pv] w (λv w'=>lf (bF v (iJ p)) w w'):=by
 obtain⟨bI,bR,bK,aT,aU,bG,rfl,cN,dD,cW,bY,bZ,cM⟩:=hp;have u:=St.start w;refine fb Tryz.func59 ?_;refine cP u (λkj w1 u=>bD ([]:List cC) u ic rfl rfl (dQ rfl) λLV _ u=>?_);refine⟨λm y x w1=>∃k:Nat,x=ir (k:Int)/\m=p.lines.length-k/\k<=p.lines.length/\St w aX [bF y (p.lines.take k).flatten,bX kj (kp (⟨bI,bR,bK,aT,aU,bG⟩:bP))] w1,⟨_,0,rfl,rfl,bL,u⟩,?_⟩;rintro m jX _ _ ⟨k,rfl,rfl,hk,u⟩ _;have XP:=B.lines;refine aA gw (aB oH u.p1.hb rfl ?_)
 obtain⟨XQ,G,E⟩:=cN.open;have XR:=E.1;refine aI pG (G.ext u.aF) (aN (aC (λfZ=>?_) λfZ=>?_))
 .refine aA gw (aB oH u.p1.hb rfl ?_);obtain⟨U,XS⟩:=gx XQ (i:=(k:Int).toNat) bL;obtain⟨Z,O⟩:=gx p.lines (i:=(k:Int).toNat) bL;have Y:DL w (jr U) Z:=E.2 _ _ _ XS O;refine aK pG (G.ext u.aF) bL XS (λ_ LW=>aE jD LW ?_);have I:=DL.flat Y;have HC:=B.line _ (kO O);have J:=cX (ls:=p.lines.take k) (λl M=>B.line l (x7 M));rw[l9]at J;have XP:=B.lines;have lB:=(I.ext u.aF);exact bJ u ic lB bL dy (λ_ _ u=>aJ bL ⟨_,bL,k+1,rfl,rfl,bL,by rw[<- Uv (k:=k) O];exact u⟩)
 refine aA pY (aB jD u.p1.hb rfl ?_);have V:=DL.flat dD;have J:=cX (ls:=p.lines.take k) (λl M=>B.line l (x7 M));rw[l9]at J;have XP:=B.lines;have hz2:=B.iP;have W:=(V.ext u.aF);refine bJ u ic W bL dy (λao7 _ u=>?_);rw[la bL]at u;exact u.p1.drop.fresh
def kids(k:Int):Int:=if k=1\/k=2 then 0 else if k=3\/k=4 then 1 else if 5<=k/\k<=15 then 2 else -1
def ua(k:Int) : -1<=kids k/\kids k<=2:=by
 grind[kids]
def gA(c:Int):Bool:=decide (97<=c/\c<=122\/c=95)
def km(c:Int):Bool:=decide (48<=c/\c<=57)
def jK:List ByteArray:=[⟨#[108,105,110,101]⟩,⟨#[118,111,108]⟩,⟨#[108,111,99,107]⟩,⟨#[116,104,114,101,97,100]⟩,⟨#[114,101,103]⟩,⟨#[108,111,97,100]⟩,⟨#[115,116,111,114,101]⟩,⟨#[99,97,115]⟩,⟨#[102,108,117,115,104]⟩,⟨#[111,112,116]⟩,⟨#[115,102,101,110,99,101]⟩,⟨#[109,102,101,110,99,101]⟩,⟨#[116,97,107,101]⟩,⟨#[103,105,118,101]⟩,⟨#[105,102]⟩,⟨#[101,108,115,101]⟩,⟨#[108,111,111,112]⟩,⟨#[98,114,101,97,107]⟩,⟨#[99,104,101,99,107]⟩,⟨#[114,101,99,111,118,101,114]⟩,⟨#[97,108,119,97,121,115]⟩]
def gI(s:ByteArray):Bool:=!(decide (s.size<1\/16<s.size)||(match (iO s)[0]? with|some c=>!gA c.toNat|none=>true)||jK.any λy=>decide (y=s))&&!(iO s).any (λc=>!gA c.toNat&&!km c.toNat)
def skip:Nat->List bU->Option (List bU)
 | 0,l=>some l
 | _+1,[]=>none
 | n+1,x::l=>if kids x.op<0 then none else skip (n+(kids x.op).toNat) l
theorem zE(l:List bU):skip 0 l=some l:=by cases l<;>rfl
theorem EZ(l:List bU):∀a b,skip (a+b) l=(skip a l).bind (skip b):=by
 induction l with
 | nil=>
  intro a b
  cases a with
  | zero=>rw[xp,zE];rfl
  | succ a=>grind[skip]
 | cons x l u=>
  intro a b
  cases a with
  | zero=>rw[xp,zE];rfl
  | succ a=>
   grind[skip]
theorem E0(l:List bU):∀n r,skip n l=some r->r=l.drop (l.length-r.length)/\r.length+min n 1<=l.length:=by
 induction l with
 | nil=>
  intro n r h
  cases n with
  | zero=>rw[zE]at h;grind
  | succ n=>cases h
 | cons x l u=>
  intro n r h
  cases n with
  | zero=>rw[zE]at h;simp_all
  | succ n=>
   have h:(if kids x.op<0 then none else skip (n+(kids x.op).toNat) l)=some r:=h
   split at h
   .cases h
   .obtain⟨h1,h2⟩:=u _ _ h
    refine⟨?_,cD⟩
    rw[show(x::l).length-r.length=(l.length-r.length)+1 from cD]
    exact h1
def Dl(n:Nat)(o:Option (List bU)):Int:=match o with|some r=>(n:Int)-r.length|none=>-1
def qw(xs:List bU)(i:Int):Int:=if i<0 then -1 else Dl xs.length (skip 1 (xs.drop i.toNat))
def XT{xs:List bU}{i:Int}{x:bU}(G:0<=i)(B:xs[i.toNat]?=some x)(I:0<=kids x.op):qw xs i=Dl xs.length (skip (kids x.op).toNat (xs.drop (i.toNat+1))):=by
 unfold qw
 obtain⟨u,E⟩:=kE.1 B
 rw[ei bL,vl u,E]
 show Dl _ (if kids x.op<0 then none else skip (0+(kids x.op).toNat) _)=_
 grind
theorem adp{xs:List bU}{i:Int}{x:bU}(G:0<=i)(B:xs[i.toNat]?=some x)(I:kids x.op<0):qw xs i = -1:=by
 unfold qw
 obtain⟨u,E⟩:=kE.1 B
 rw[ei bL,vl u,E]
 grind[Dl,skip]
theorem adq{xs:List bU}{i:Int}(h:i<0\/xs.length<=i):qw xs i = -1:=by
 unfold qw
 split
 .rfl
 rw[u6 bL];rfl
theorem ao8{xs:List bU}{j k:Nat}{a:Int}(h:Dl xs.length (skip k (xs.drop j))=a)(u:0<=a):qw xs a=Dl xs.length (skip (k+1) (xs.drop j))/\((j:Int)<=a\/xs.length<=a):=by
 cases hs:skip k (xs.drop j)with
 | none=>rw[hs]at h;unfold Dl at h;simp only[]at h;omega
 | some r=>
  rw[hs]at h
  have h:(xs.length:Int)-r.length=a:=h
  obtain⟨h1,h2⟩:=E0 _ _ _ hs
  rw[sJ]at h1 h2
  rw[EZ,hs]
  show _=Dl _ (skip 1 r)/\_
  refine⟨?_,bL⟩
  unfold qw
  rw[ei bL]
  by_cases B:j<=xs.length
  .have:xs.drop a.toNat=r:=by
    rw[h1,u3,show j+(xs.length-j-r.length)=a.toNat from bL]
   rw[this]
  .have:r=[]:=vq.1 bL
   subst this
   rw[u6 (by simp at h;omega)]
theorem ai5{xs l:List bU}{k j:Nat}(u:l.length<=xs.length)(h:¬ 0<=Dl xs.length (skip k l))(B:k<=j):Dl xs.length (skip k l)=Dl xs.length (skip j l):=by
 cases hs:skip k l with
 | none=>rw[show j=k+(j-k)from bL,EZ,hs];rfl
 | some r=>
  obtain⟨_,h2⟩:=E0 _ _ _ hs
  rw[hs]at h;unfold Dl at h;simp only[]at h;omega
theorem awO{xs l:List bU}{k:Nat}(u:l.length<=xs.length) : -1<=Dl xs.length (skip k l)/\Dl xs.length (skip k l)<=xs.length:=by
 cases hs:skip k l with
 | none=>unfold Dl;simp only[];omega
 | some r=>
  obtain⟨_,h2⟩:=E0 _ _ _ hs
  unfold Dl;simp only[];omega
def C273(k:Int)(w:World):CR 273 [ir k] w (λv w'=>v=ir (kids k)/\Ext w w'):=by
 have E:=St.start w;refine fb Tryz.func273 ?_;refine⟨λB w'=>B=.bool (decide (k=1\/k=2))/\w=w',aG (aC (λ_=>⟨Oz bL,rfl⟩) λ_=>aG ⟨yd bL,rfl⟩),?_⟩;rintro _ _ ⟨rfl,u⟩ _;subst u;refine aC (λG=>?_) (λG=>⟨λB w'=>B=.bool (decide (k=3\/k=4))/\w=w',aG (aC (λ_=>⟨Oz bL,rfl⟩) λ_=>aG ⟨yd bL,rfl⟩),?_⟩)
 .unfold kids;exact⟨gL (n3 .i64) cD,E.aF⟩
 rintro _ _ ⟨rfl,u⟩ _;subst u;refine aC (λI=>?_) (λI=>⟨λB w'=>B=.bool (decide (5<=k/\k<=15))/\w=w',cO (aC (λ_=>gu ⟨yd bL,rfl⟩) λ_=>⟨Uf bL,rfl⟩),?_⟩)
 .unfold kids;exact⟨gL (n3 .i64) cD,E.aF⟩
 rintro _ _ ⟨rfl,u⟩ _;subst u;refine aC (λJ=>?_) (λJ=>?_)
 .unfold kids;exact⟨gL (n3 .i64) cD,E.aF⟩
 unfold kids;exact⟨gL (n3 .i64) cD,E.aF⟩
def C206(c:Int)(w:World):CR 206 [.int .u8 c] w (λv w'=>v=.bool (gA c)/\Ext w w'):=by
 have E:=St.start w;refine fb Tryz.func206 ?_;refine⟨λB w'=>B=.bool (decide (97<=c/\c<=122\/c=95))/\w=w',AM (aC (λ_=>AL (aC (λ_=>⟨Oz bL,rfl⟩) λ_=>nI ⟨yd bL,rfl⟩)) λ_=>nI ⟨yd bL,rfl⟩),?_⟩;rintro _ _ ⟨rfl,u⟩ _;subst u;exact⟨rfl,E.aF⟩
def C207(c:Int)(w:World):CR 207 [.int .u8 c] w (λv w'=>v=.bool (km c)/\Ext w w'):=by
 have E:=St.start w;refine fb Tryz.func207 ?_;refine⟨λB w'=>B=.bool (decide (48<=c/\c<=57))/\w=w',AM (aC (λ_=>AL ⟨yd bL,rfl⟩) λ_=>⟨Uf bL,rfl⟩),?_⟩;rintro _ _ ⟨rfl,u⟩ _;subst u;exact⟨rfl,E.aF⟩
def C255(s:ByteArray)(w:World):CR 255 [.string s] w (λv w'=>v=.bool (jK.any λy=>decide (y=s))/\Ext w w'):=by
 have u:=St.start w;refine fb Tryz.func255 ?_;refine bD jK u iu rfl rfl (dQ rfl) (λM I u=>?_);refine⟨λm x I=>∃k:Nat,x=ir (k:Int)/\m=jK.length-k/\k<=jK.length/\(∀y∈jK.take k,decide (y=s)=false)/\St w aX [bF M jK] I,⟨_,0,rfl,rfl,l2 _,ee,u⟩,?_⟩;rintro m _ _ ⟨k,rfl,rfl,V,B,u⟩ _;have W:jK.length=21:=rfl;refine aI iu u.dS (aN (aC (λO=>?_) λO=>?_))
 .skip;obtain⟨U,E⟩:=gx jK (i:=(k:Int).toNat) bL;exact dG u iu bL bL (λ_ J=>fM u gv J E (jz (aC (λG=>⟨vb (gY E (ew G)).symm,u.aF⟩) λG=>aJ bL ⟨_,bL,k+1,rfl,rfl,bL,dY B E (ez G),u⟩)))
 rw[la bL]at B;exact⟨vb (ix B).symm,u.aF⟩
def C211(s:ByteArray)(w:World)(hn:s.size<=1048576):CR 211 [.string s] w (λv w'=>v=.bool (gI s)/\Ext w w'):=by
 have u:=St.start w;refine fb Tryz.func211 ?_;refine⟨λJ w'=>J=.bool (decide (s.size<1\/16<s.size)||(match (iO s)[0]? with|some c=>!gA c.toNat|none=>true)||jK.any λy=>decide (y=s))/\St w aX [] w',fe hG (aN (aC (λ_=>⟨vb cD,u⟩) λpI=>fe hG (cL (aC (λ_=>⟨vb cD,u⟩) λfZ=>?_)))),?_⟩
 .obtain⟨Z,V⟩:∃G,(iO s)[(0:Int).toNat]?=some G:=⟨_,lU (by rw[eV];omega)⟩;exact jO hG bL V (aV RT u (C206 _ _) λ_ _ u=>bN (aW (λ_=>⟨vb cD,u⟩) λ_=>aV aoc u (C255 _ _) λ_ _ u=>⟨vb cD,u⟩))
 rintro _ _ ⟨rfl,u⟩ _;refine aW (λI=>?_) (λI=>?_)
 .refine⟨vb ?_,u.aF⟩;unfold gI;rw[I];rfl
 refine⟨λm x Y=>∃k:Nat,x=ir (k:Int)/\m=(iO s).length-k/\k<=(iO s).length/\(∀y∈(iO s).take k,(!gA y.toNat&&!km y.toNat)=false)/\St w aX [] Y,⟨_,0,rfl,rfl,l2 _,ee,u⟩,?_⟩;rintro m _ _ ⟨k,rfl,rfl,W,E,u⟩ _;rw[eV]at W;have GZ:=eV s;refine fe hG (aN (aC (λU=>?_) λU=>?_))
 .obtain⟨O,B⟩:∃G,(iO s)[(k:Int).toNat]?=some G:=⟨_,lU (by rw[eV];omega)⟩;refine⟨λJ w'=>J=.bool (!gA O.toNat&&!km O.toNat)/\St w aX [] w',jO hG bL B (aV RT u (C206 _ _) λ_ _ u=>bN (aW (λ_=>jO hG bL B (aV RU u (C207 _ _) λ_ _ u=>bN ⟨vb cD,u⟩)) λ_=>⟨vb cD,u⟩)),?_⟩;rintro _ _ ⟨rfl,u⟩ _;refine aW (λM=>?_) (λM=>aJ bL ⟨_,bL,k+1,rfl,rfl,bL,dY E B (by simpa using M),u⟩);refine⟨vb ?_,u.aF⟩;unfold gI;rw[gY B M];simp
 rw[la bL]at E;refine⟨vb ?_,u.aF⟩;unfold gI;rw[ix E]
 revert I
 cases (decide (s.size<1\/16<s.size)||(match (iO s)[0]? with|some c=>!gA c.toNat|none=>true)||jK.any λy=>decide (y=s))<;>simp
theorem C251(lv:Value)(xs:List bU)(i:Int)(N:Nat)(w:World)(E:cZ (λ_=>True) w lv xs)(Z:xs.length<=1048576)(hi : -9223372036854775808<=i)(hN:(xs.length:Int)-i<N):CR 251 [lv,ir i] w (λv w'=>v=ir (qw xs i)/\Ext w w'):=by
 have u:=St.start w;refine fb Tryz.func251 ?_;refine⟨λG w'=>G=.bool (decide (i<0\/(xs.length:Int)<=i)||(match xs[i.toNat]? with|some x=>decide (kids x.op<0)|none=>true))/\St w aX [] w',aN (aC (λ_=>⟨vb cD,u⟩) λgG=>aI gU (E.ext u.aF) (cO (aC (λ_=>⟨vb cD,u⟩) λxm=>?_))),?_⟩
 .obtain⟨qx,gR⟩:=gx xs (i:=(i).toNat) bL;exact aK gU (E.ext u.aF) bL gR (λ_ si=>bT qx.op eX si rfl rfl λ_ V=>aE bO V (aV Lm u (C273 _ _) λ_ _ u=>aN ⟨vb cD,u⟩))
 rintro _ _ ⟨rfl,u⟩ _;refine aW (λ_=>⟨gL (n3 .i64) (by grind[adq,adp]),u.aF⟩) (λm8=>?_);have W:¬ (i<0\/(xs.length:Int)<=i):=cD
 obtain⟨B,M⟩:=gx xs (i:=(i).toNat) bL;have Pg:0<=kids B.op:=cD
 have XU:=ua B.op;have HD:=XT bL M Pg;refine aJ bL ?_;refine⟨λm y x Y=>∃(k:Nat) (a:Int),x=ir (k:Int)/\y=ir a/\m=(kids B.op).toNat-k/\k<=(kids B.op).toNat/\Dl xs.length (skip k (xs.drop (i.toNat+1)))=a/\St w aX [] Y,⟨_,0,i+1,rfl,rfl,rfl,bL,by rw[zE];unfold Dl;simp only[sJ];omega,u⟩,?_⟩;rintro m _ _ _ ⟨k,a,rfl,rfl,rfl,hk,O,u⟩ _;have J:=awO (xs:=xs) (l:=xs.drop (i.toNat+1)) (k:=k) (by rw[sJ];omega);rw[O]at J;refine⟨λG w'=>G=.bool (decide ((k:Int)<kids B.op/\0<=a))/\St w aX [] w',aK gU (E.ext u.aF) bL M (λ_ U=>bT B.op eX U rfl rfl λ_ mw=>aE bO mw (aV Lm u (C273 _ _) λ_ _ u=>aN (aC (λ_=>cO ⟨vb cD,u⟩) λ_=>⟨vb cD,u⟩))),?_⟩
 rintro _ _ ⟨rfl,u⟩ _;refine aC (λoT=>?_) (λ_=>⟨gL (n3 .i64) (by have:=ai5 (xs:=xs) (l:=xs.drop (i.toNat+1)) (k:=k) (j:=(kids B.op).toNat) (by rw[sJ];omega);rw[HD];by_cases h0:0<=a<;>grind),u.aF⟩);have I:=ao8 O bL;exact aV Lk u (C251 _ _ _ (N-1) _ (E.ext u.aF) Z bL bL) (λ_ _ u=>aJ bL ⟨_,bL,k+1,_,rfl,rfl,rfl,bL,I.1.symm,u⟩)
termination_by N
decreasing_by omega
inductive Ex where
 | leaf (x:bU)
 | un (x:bU) (a:Ex)
 | bin (x:bU) (a b:Ex)
namespace Ex
def root:Ex->bU|leaf x=>x|un x _=>x|bin x _ _=>x
def eu:Ex->List Ex|leaf _=>[]|un _ a=>[a]|bin _ a b=>[a,b]
def flat:Ex->List bU|leaf x=>[x]|un x a=>x::a.flat|bin x a b=>x::(a.flat++b.flat)
def wf:Ex->Prop|leaf x=>kids x.op=0|un x a=>kids x.op=1/\a.wf|bin x a b=>kids x.op=2/\a.wf/\b.wf
def depth:Ex->Int|leaf _=>1|un _ a=>a.depth+1|bin _ a b=>max a.depth b.depth+1
def size:Ex->Nat|leaf _=>1|un _ a=>a.size+1|bin _ a b=>a.size+b.size+1
def numOf(ns:List ByteArray)(x:bU):Int:=if x.op=2 then cU ns x.name else x.n
def steps(ns:List ByteArray):Ex->List ou
 | leaf x=>[⟨x.op,numOf ns x⟩]
 | un x a=>a.steps ns++[⟨x.op,numOf ns x⟩]
 | bin x a b=>a.steps ns++b.steps ns++[⟨x.op,numOf ns x⟩]
end Ex
theorem Ex.cX(t:Ex):t.flat.length=t.size:=by
 induction t with
 | leaf x=>rfl
 | un x a E=>simp[Ex.flat,Ex.size,E]
 | bin x a b B u=>simp[Ex.flat,Ex.size,B,u]
theorem Ex.HE(t:Ex):t.flat=t.root::(t.eu.map Ex.flat).flatten:=by
 cases t<;>simp[Ex.flat,Ex.root,Ex.eu]
theorem Ex.oU{t:Ex}(h:t.wf):kids t.root.op=t.eu.length:=by
 cases t with
 | leaf x=>exact h
 | un x a=>exact h.1
 | bin x a b=>exact h.1
theorem Ex.ub{t a:Ex}(h:t.wf)(u:a∈t.eu):a.wf/\a.size<t.size:=by
 cases t with
 | leaf x=>cases u
 | un x b=>rw[vS.1 u];exact⟨h.2,by simp[Ex.size]⟩
 | bin x b c=>
  rcases List.mem_cons.1 u with rfl|u
  .grind[wf,size]
  grind[wf,size]
theorem Ex.rp(t:Ex):1<=t.depth/\t.depth<=t.size:=by
 induction t with
 | leaf x=>simp[Ex.depth,Ex.size]
 | un x a E=>simp only[Ex.depth,Ex.size];omega
 | bin x a b B u=>simp only[Ex.depth,Ex.size];omega
theorem Ex.pK(ns:List ByteArray)(t:Ex):(t.steps ns).length=t.size:=by
 induction t with
 | leaf x=>rfl
 | un x a u=>simp[Ex.steps,Ex.size,u]
 | bin x a b E B=>grind[steps,size]
theorem Uw(t:Ex)(h:t.wf):∀n r,skip (n+1) (t.flat++r)=skip n r:=by
 induction t with
 | leaf x=>
  intro n r
  show(if kids x.op<0 then none else skip (n+(kids x.op).toNat) r)=_
  rw[show kids x.op=0 from h];rfl
 | un x a u=>
  intro n r
  show(if kids x.op<0 then none else skip (n+(kids x.op).toNat) (a.flat++r))=_
  rw[show kids x.op=1 from h.1,ei bL];exact u h.2 n r
 | bin x a b E B=>
  intro n r
  show(if kids x.op<0 then none else skip (n+(kids x.op).toNat) (a.flat++b.flat++r))=_
  rw[show kids x.op=2 from h.1,ei bL,n4]
  show skip (n+1+1) _=_
  rw[E h.2.1 (n+1),B h.2.2 n]
theorem Sr:∀(k:Nat) (l r:List bU),l.length<=k->skip 1 l=some r->∃t:Ex,t.wf/\l=t.flat++r
 | k,[],r,_,h=>by cases h
 | 0,x::l,r,u,_=>by simp at u
 | k+1,x::l,r,u,h=>by
  have u:l.length<=k:=cD
  have h:(if kids x.op<0 then none else skip (0+(kids x.op).toNat) l)=some r:=h
  have hb:=ua x.op
  split at h
  .cases h
  .rcases(show kids x.op=0\/kids x.op=1\/kids x.op=2 by omega)with h0|h0|h0
   .rw[h0]at h
    have h:skip 0 l=some r:=h
    rw[zE]at h;cases h
    exact⟨.leaf x,h0,rfl⟩
   .rw[h0]at h
    obtain⟨a,B,rfl⟩:=Sr k l r u h
    exact⟨.un x a,⟨h0,B⟩,rfl⟩
   .rw[h0]at h
    have h:skip (1+1) l=some r:=h
    rw[EZ]at h
    obtain⟨m,h1,h2⟩:=PW.1 h
    obtain⟨a,B,rfl⟩:=Sr k l m u h1
    obtain⟨b,E,rfl⟩:=Sr k m r cD h2
    exact⟨.bin x a b,⟨h0,B,E⟩,by simp[Ex.flat]⟩
def BO(xs:List bU)(i:Int)(t:Ex):Prop:=0<=i/\t.wf/\∃r,xs.drop i.toNat=t.flat++r
def BO.root{xs:List bU}{i:Int}{t:Ex}(h:BO xs i t):xs[i.toNat]?=some t.root/\i<xs.length:=by
 obtain⟨u,_,r,h⟩:=h
 have:(xs.drop i.toNat)[0]?=some t.root:=by rw[h,Ex.HE];rfl
 rw[KB,P1]at this
 exact⟨this,by have:=(kE.1 this).1;omega⟩
def BO.end{xs:List bU}{i:Int}{t:Ex}(h:BO xs i t):qw xs i=i+t.size/\i+t.size<=xs.length:=by
 have G:=h.root.2
 obtain⟨E,B,r,h⟩:=h
 have u:=gL List.length h
 rw[sJ,l0,Ex.cX]at u
 refine⟨?_,bL⟩
 unfold qw
 rw[ei bL,h,Uw t B 0 r,zE]
 unfold Dl;grind
theorem BO.of{xs:List bU}{i:Int}(h:0<=qw xs i):∃t,BO xs i t:=by
 unfold qw at h
 split at h
 .omega
 cases hs:skip 1 (xs.drop i.toNat)with
 | none=>rw[hs]at h;unfold Dl at h;simp only[]at h;omega
 | some r=>
  obtain⟨t,u,B⟩:=Sr _ _ r (sl _) hs
  exact⟨t,bL,u,r,B⟩
def qy(ks:List Ex)(k:Nat):Nat:=((ks.take k).map Ex.size).sum
theorem uO{ks:List Ex}{k:Nat}{a:Ex}(h:ks[k]?=some a):qy ks (k+1)=qy ks k+a.size:=by
 unfold qy;rw[<- gg h];simp
def BO.kid{xs:List bU}{i:Int}{t a:Ex}{k:Nat}(h:BO xs i t)(u:t.eu[k]?=some a):BO xs (i+1+qy t.eu k) a:=by
 obtain⟨J,E,r,h⟩:=h
 refine⟨bL,(Ex.ub E (kO u)).1,?_⟩
 have G:t.eu=t.eu.take k++a::t.eu.drop (k+1):=by
  obtain⟨M,I⟩:=kE.1 u
  rw[<- I,Nz,qT]
 have B:(((t.eu.take k).map Ex.flat).flatten).length=qy t.eu k:=by
  unfold qy
  rw[aaa,Jz]
  congr 2
  exact funext λx=>Ex.cX x
 have h2:xs.drop (i.toNat+1)=((t.eu.take k).map Ex.flat).flatten++(a.flat++(((t.eu.drop (k+1)).map Ex.flat).flatten++r)):=by
  rw[<- u3,h,Ex.HE t]
  show(t.eu.map Ex.flat).flatten++r=_
  conv=>lhs;rw[G]
  simp
 refine⟨((t.eu.drop (k+1)).map Ex.flat).flatten++r,?_⟩
 rw[show(i+1+(qy t.eu k:Int)).toNat=i.toNat+1+qy t.eu k from bL,<- u3,h2,<- B,List.drop_left]
def Dm(ks:List Ex)(k:Nat):Int:=((ks.take k).map Ex.depth).foldl max 0
theorem Cb{ks:List Ex}{k:Nat}{a:Ex}(h:ks[k]?=some a):Dm ks (k+1)=max (Dm ks k) a.depth:=by
 unfold Dm;rw[<- gg h,vG,Gg];rfl
theorem Ph{ks:List Ex}{N:Int}(u:0<=N)(h:∀a∈ks,a.depth<=N):∀k,0<=Dm ks k/\Dm ks k<=N
 | 0=>by simp[Dm,u]
 | k+1=>by
  have B:=Ph u h k
  cases hx:ks[k]? with
  | none=>
   have e:ks.take (k+1)=ks.take k:=by rw[v7,hx];simp
   unfold Dm at *;grind
  | some a=>rw[Cb hx];grind
theorem Ex.LX(t:Ex):t.depth=Dm t.eu t.eu.length+1:=by
 cases t with
 | leaf x=>rfl
 | un x a=>have:=a.rp;grind[depth,Dm,eu]
 | bin x a b=>have:=a.rp;grind[depth,Dm,eu]
def XV(ns:List ByteArray)(ks:List Ex)(k:Nat):List ou:=((ks.take k).map (Ex.steps ns)).flatten
theorem LY{ns:List ByteArray}{ks:List Ex}{k:Nat}{a:Ex}(h:ks[k]?=some a):XV ns ks (k+1)=XV ns ks k++a.steps ns:=by
 unfold XV;rw[<- gg h];simp
def DN{ns:List ByteArray}{ks:List Ex}{k:Nat}:(XV ns ks k).length=qy ks k:=by
 unfold XV qy
 rw[aaa,Jz]
 congr 2
 exact funext λx=>Ex.pK ns x
theorem Ex.vB(ns:List ByteArray)(t:Ex):t.steps ns=XV ns t.eu t.eu.length++[⟨t.root.op,Ex.numOf ns t.root⟩]:=by
 cases t<;>simp[Ex.steps,Ex.eu,XV,Ex.root]
def pt:Nat->List bU->Option (Ex×List bU)
 | 0,_=>none
 | _+1,[]=>none
 | n+1,x::l=>
  if kids x.op=0 then some (.leaf x,l)else if kids x.op=1 then(match pt n l with|some p=>some (.un x p.1,p.2)|none=>none)
  else if kids x.op=2 then(match pt n l with|some p=>(match pt n p.2 with|some q=>some (.bin x p.1 q.1,q.2)|none=>none)|none=>none)else none
theorem adr(t:Ex)(h:t.wf):∀n r,t.size<=n->pt n (t.flat++r)=some (t,r):=by
 induction t with
 | leaf x=>
  intro n r u
  cases n with
  | zero=>simp[Ex.size]at u
  | succ n=>show(if kids x.op=0 then _ else _)=_;rw[ej (show kids x.op=0 from h)];rfl
 | un x a E=>
  intro n r u
  cases n with
  | zero=>simp[Ex.size]at u
  | succ n=>
   have h1:kids x.op=1:=h.1
   show(if kids x.op=0 then _ else if kids x.op=1 then(match pt n (a.flat++r)with|some p=>some (Ex.un x p.1,p.2)|none=>none)else _)=_
   rw[ei bL,ej h1,E h.2 n r (by simp[Ex.size]at u;omega)]
 | bin x a b G B=>
  intro n r u
  cases n with
  | zero=>simp[Ex.size]at u
  | succ n=>
   have h1:kids x.op=2:=h.1
   show(if kids x.op=0 then _ else if kids x.op=1 then _ else if kids x.op=2 then(match pt n (a.flat++b.flat++r)with|some p=>(match pt n p.2 with|some q=>some (Ex.bin x p.1 q.1,q.2)|none=>none)|none=>none)else _)=_
   rw[ei bL,ei bL,ej h1,n4,G h.2.1 n _ (by simp[Ex.size]at u;omega)]
   simp only[]
   rw[B h.2.2 n _ (by simp[Ex.size]at u;omega)]
def zF(l:List bU):Option Ex:=match pt l.length l with|some p=>if p.2=[]then some p.1 else none|none=>none
def Ux{t:Ex}(h:t.wf):zF t.flat=some t:=by
 unfold zF
 have:=adr t h t.flat.length [] (by rw[Ex.cX];omega)
 grind
def BO.zero{l:List bU}{t:Ex}(h:BO l 0 t)(E:qw l 0=l.length):l=t.flat/\zF l=some t:=by
 have h1:=h.end
 obtain⟨_,B,r,h⟩:=h
 have u:=gL List.length h
 rw[l0,Ex.cX]at u
 simp at u
 have:r=[]:=vq.1 bL
 subst this
 have h:l=t.flat:=cD
 exact⟨h,by rw[h];exact Ux B⟩
theorem AW:∀n l t r,pt n l=some (t,r)->t.wf/\l=t.flat++r
 | 0,l,t,r,h=>by cases h
 | n+1,[],t,r,h=>by cases h
 | n+1,x::l,t,r,h=>by
  have h:(if kids x.op=0 then some (Ex.leaf x,l)else if kids x.op=1 then(match pt n l with|some p=>some (Ex.un x p.1,p.2)|none=>none)
   else if kids x.op=2 then(match pt n l with|some p=>(match pt n p.2 with|some q=>some (Ex.bin x p.1 q.1,q.2)|none=>none)|none=>none)else none)=some (t,r):=h
  split at h
  .rename_i hk;cases h;exact⟨hk,rfl⟩
  .split at h
   .rename_i hk
    cases ha:pt n l with
    | none=>grind
    | some p=>
     rw[ha]at h
     obtain⟨a,m⟩:=p
     cases h
     obtain⟨h1,rfl⟩:=AW n l a _ ha
     exact⟨⟨hk,h1⟩,rfl⟩
   .split at h
    .rename_i hk
     cases ha:pt n l with
     | none=>grind
     | some p=>
      rw[ha]at h
      obtain⟨a,m⟩:=p
      simp only[]at h
      cases hb:pt n m with
      | none=>grind
      | some q=>
       rw[hb]at h
       obtain⟨b,u⟩:=q
       cases h
       obtain⟨h1,rfl⟩:=AW n l a _ ha
       obtain⟨h2,rfl⟩:=AW n m b _ hb
       exact⟨⟨hk,h1,h2⟩,by simp[Ex.flat]⟩
    .cases h
theorem vC{l:List bU}{t:Ex}(h:zF l=some t):t.wf/\l=t.flat:=by
 unfold zF at h
 cases hp:pt l.length l with
 | none=>grind
 | some p=>
  rw[hp]at h
  obtain⟨a,r⟩:=p
  simp only[]at h
  split at h
  .rename_i hr;cases h
   obtain⟨h1,h2⟩:=AW _ _ _ _ hp
   grind
  .cases h
theorem E1{l:List bU}:(zF l).isSome=decide (qw l 0=l.length):=by
 by_cases h:qw l 0=l.length
 .obtain⟨t,ht⟩:=BO.of (xs:=l) (i:=0) bL
  rw[(ht.zero h).2,ew h];rfl
 rw[ez h]
 cases he:zF l with
 | none=>rfl
 | some t=>
  obtain⟨h1,rfl⟩:=vC he
  exact absurd (by have:=(show BO t.flat 0 t from⟨bL,h1,[],ee⟩).end.1;rw[this,Ex.cX];omega) h
def kX(x:bU):Bool:=decide (x.at_<0\/4000<x.at_)||decide (¬ x.op=1/\¬ x.n=0)||decide (¬ x.op=2/\¬ x.name=⟨#[]⟩)||decide (x.n<0\/4294967296<x.n)||(decide (x.op=2)&&!gI x.name)
def Ss(l:List bU):Int:=match zF l with|some t=>t.depth|none=>0
def fz(l:List bU):Bool:=decide (l.length<=40)&&(zF l).isSome&&!l.any kX&&decide (Ss l<=12)
def Cc(ns:List ByteArray)(l:List bU):List ou:=match zF l with|some t=>t.steps ns|none=>[]
def kQ(ns:List ByteArray)(l:List bU):Int:=if fz l=false then 8 else if l.any (λx=>decide (x.op=2)&&decide (cU ns x.name<0))then 9 else 0
def qz(ns:List ByteArray)(l:List bU):List ou:=if kQ ns l=0 then Cc ns l else []
def zG{l:List bU}(h:fz l=true):qw l 0=l.length:=by
 unfold fz at h
 rw[E1]at h
 grind
theorem C252(lv:Value)(xs:List bU)(i:Int)(t:Ex)(N:Nat)(w:World)(G:cZ (λ_=>True) w lv xs)(hn:xs.length<=1048576)(B:BO xs i t)(hN:t.size<N):CR 252 [lv,ir i] w (λv w'=>v=ir t.depth/\Ext w w'):=by
 obtain⟨M,V,sj⟩:∃e,e=t.root/\xs[(i).toNat]?=some e:=⟨_,rfl,B.root.1⟩;have hri:=B.root.2;have W:=B.end;have Pg:=Ex.oU B.2.1;rw[<- V]at Pg;have XU:=ua M.op;have Z:=B.1;have u:=St.start w;refine acM _ _ _ _ ?_;unfold S252;refine aJ bL ?_;refine⟨λm n a x I=>∃k:Nat,n=ir (Dm t.eu k)/\a=ir (i+1+qy t.eu k)/\x=ir (k:Int)/\m=t.eu.length-k/\k<=t.eu.length/\St w aX [] I,⟨_,0,rfl,gL (n3 .i64) (by simp[qy]),rfl,rfl,bL,u⟩,?_⟩;rintro m _ _ _ I ⟨k,rfl,rfl,rfl,rfl,hk,u⟩ _;have U:=Ph (ks:=t.eu) (N:=(t.size:Int)) bL (λa ha=>by have:=(Ex.ub B.2.1 ha).2;have:=a.rp;omega) k
 refine aK gU (G.ext u.aF) bL sj (λ_ EW=>bT M.op eX EW rfl rfl λ_ O=>aE bO O (aV Lm u (C273 _ _) λ_ he u=>aN (aC (λj7=>?_) λ_=>aJ bL ⟨gL (n3 .i64) (by rw[t.LX,show k=t.eu.length from bL]),u.aF⟩)));obtain⟨a,E⟩:=gx t.eu (i:=k) bL;have Y:=Ex.ub B.2.1 (kO E);have J:=B.kid E;have V8:=J.end;have Uz:=a.rp;exact aV WX u (C252 _ _ _ _ (N-1) _ (G.ext u.aF) hn J bL) (λ_ _ u=>DJ (aV Lk u (C251 _ _ _ (xs.length+1) _ (G.ext u.aF) bL bL bL) λ_ _ u=>aJ bL ⟨_,bL,k+1,by rw[Cb E],gL (n3 .i64) (by rw[V8.1,uO E];omega),rfl,rfl,bL,u⟩))
termination_by N
decreasing_by omega
def C200(lv:Value)(xs:List bU)(w:World)(E:cZ (λ_=>True) w lv xs)(hn:xs.length<=1048576)(G:∀x∈xs,x.name.size<=1048576):CR 200 [lv] w (λv w'=>v=.bool (fz xs)/\Ext w w'):=by
 have u:=St.start w;refine fb Tryz.func200 ?_;refine⟨λM w'=>M=.bool (decide (40<xs.length)||decide (¬ qw xs 0=xs.length))/\St w aX [] w',aI gU (E.ext u.aF) (cL (aC (λ_=>⟨vb cD,u⟩) λ_=>aV Lk u (C251 _ _ _ (xs.length+1) _ (E.ext u.aF) bL bL bL) λ_ _ u=>aI gU (E.ext u.aF) (bW ⟨vb cD,u⟩))),?_⟩;rintro _ _ ⟨rfl,u⟩ _;refine aW (λja=>?_) (λja=>?_)
 .refine⟨vb ?_,u.aF⟩;unfold fz;rw[E1]
  grind
 refine⟨λm x w1=>∃k:Nat,x=ir (k:Int)/\m=xs.length-k/\k<=xs.length/\(∀y∈xs.take k,kX y=false)/\St w aX [] w1,⟨_,0,rfl,rfl,l2 _,ee,u⟩,?_⟩;rintro m _ _ ⟨k,rfl,rfl,hk,I,u⟩ _;refine aI gU (E.ext u.aF) (aN (aC (λlL=>?_) λlL=>?_))
 .obtain⟨V,B⟩:=gx xs (i:=(k:Int).toNat) bL;refine aK gU (E.ext u.aF) bL B (λ_ oV=>aE rW oV (aQ u yg λPj _ u=>aM (x:=V) u rW rfl rfl λ_ u=>⟨λM w'=>M=.bool (kX V)/\St w aX [] w',aA rX (aB bO u.hb rfl (aN (aC (λ_=>⟨vb (by unfold kX;grind),u.drop⟩) λlh=>aA rX (aB bO u.hb rfl (cL (aC (λ_=>⟨vb (by unfold kX;grind),u.drop⟩) λl8=>?_)))))),?_⟩))
  .refine aA eX (aB bO u.hb rfl (bW (aC (λCX=>aA ji (aB bO u.hb rfl (bW (aC (λ_=>⟨vb (by unfold kX;grind),u.drop⟩) λxn=>aA eX (aB bO u.hb rfl (bW (aC (λW=>aA gj (aB gv u.hb rfl (lW (aC (λ_=>⟨vb (by unfold kX;grind),u.drop⟩) λLZ=>?_)))) λW=>?_))))))) λCX=>?_)))
   .refine aA ji (aB bO u.hb rfl (aN ?_));exact aC (λ_=>⟨vb (by unfold kX;grind),u.drop⟩) (λ_=>aA ji (aB bO u.hb rfl (cL (aC (λ_=>⟨vb (by unfold kX;grind),u.drop⟩) λ_=>aA eX (aB bO u.hb rfl (aG (aC (λ_=>aA gj (aB gv u.hb rfl (aV uz u (C211 _ _ (G _ (kO B))) λ_ _ u=>bN ⟨vb (by unfold kX;grind),u.drop⟩))) λ_=>⟨vb (by unfold kX;grind),u.drop⟩)))))))
   .refine aA ji (aB bO u.hb rfl (aN ?_));exact aC (λ_=>⟨vb (by unfold kX;grind),u.drop⟩) (λ_=>aA ji (aB bO u.hb rfl (cL (aC (λ_=>⟨vb (by unfold kX;grind),u.drop⟩) λ_=>aA eX (aB bO u.hb rfl (aG (aC (λ_=>aA gj (aB gv u.hb rfl (aV uz u (C211 _ _ (G _ (kO B))) λ_ _ u=>bN ⟨vb (by unfold kX;grind),u.drop⟩))) λ_=>⟨vb (by unfold kX;grind),u.drop⟩)))))))
   refine aA eX (aB bO u.hb rfl (bW (aC (λJ=>aA gj (aB gv u.hb rfl (lW (aC (λ_=>⟨vb (by unfold kX;grind),u.drop⟩) λZ=>?_)))) λJ=>?_)))
   .refine aA ji (aB bO u.hb rfl (aN ?_));exact aC (λ_=>⟨vb (by unfold kX;grind),u.drop⟩) (λ_=>aA ji (aB bO u.hb rfl (cL (aC (λ_=>⟨vb (by unfold kX;grind),u.drop⟩) λ_=>aA eX (aB bO u.hb rfl (aG (aC (λ_=>aA gj (aB gv u.hb rfl (aV uz u (C211 _ _ (G _ (kO B))) λ_ _ u=>bN ⟨vb (by unfold kX;grind),u.drop⟩))) λ_=>⟨vb (by unfold kX;grind),u.drop⟩)))))))
   refine aA ji (aB bO u.hb rfl (aN ?_));exact aC (λ_=>⟨vb (by unfold kX;grind),u.drop⟩) (λ_=>aA ji (aB bO u.hb rfl (cL (aC (λ_=>⟨vb (by unfold kX;grind),u.drop⟩) λ_=>aA eX (aB bO u.hb rfl (aG (aC (λ_=>aA gj (aB gv u.hb rfl (aV uz u (C211 _ _ (G _ (kO B))) λ_ _ u=>bN ⟨vb (by unfold kX;grind),u.drop⟩))) λ_=>⟨vb (by unfold kX;grind),u.drop⟩)))))))
  rintro _ _ ⟨rfl,u⟩ _;refine aW (λO=>?_) (λO=>aJ bL ⟨_,bL,k+1,rfl,rfl,bL,dY I B O,u⟩);refine⟨vb ?_,u.aF⟩;unfold fz;rw[gY B O];simp
 have Y:qw xs 0=xs.length:=cD
 have U:xs.length<=40:=cD
 obtain⟨t,ht⟩:=BO.of (xs:=xs) (i:=0) bL;have hz:=ht.zero Y;refine aV WX u (C252 _ _ _ t (t.size+1) _ (E.ext u.aF) hn ht bL) (λ_ he u=>gu ?_);rw[la bL]at I;refine⟨vb ?_,u.aF⟩;unfold fz Ss;rw[ix I,hz.2];simp[U]
theorem C272(lv nv:Value)(xs:List bU)(ns:List ByteArray)(i:Int)(t:Ex)(N:Nat)(w:World)(E:cZ (λ_=>True) w lv xs)(Y:cZ (λ_=>True) w nv ns)(hn:xs.length<=1048576)(BN:ns.length<=1048576)(G:BO xs i t)(hNt:t.size<N):CR 272 [lv,ir i,nv] w (λv w'=>lf (bF v (t.steps ns)) w w'):=by
 obtain⟨B,hq,I⟩:∃e,e=t.root/\xs[(i).toNat]?=some e:=⟨_,rfl,G.root.1⟩;have hri:=G.root.2;have hie:=G.end;have Pg:=Ex.oU G.2.1;rw[<- hq]at Pg;have XU:=ua B.op;have hi0:=G.1;have u:=St.start w;refine fb Tryz.func272 ?_;refine bD ([]:List ou) u tG rfl rfl (dQ rfl) (λM w1 u=>aJ bL ?_);refine⟨λm V a x w1=>∃k:Nat,a=ir (i+1+qy t.eu k)/\x=ir (k:Int)/\m=t.eu.length-k/\k<=t.eu.length/\St w aX [bF V (XV ns t.eu k)] w1,⟨_,0,gL (n3 .i64) (by simp[qy]),rfl,rfl,bL,u⟩,?_⟩;rintro m V _ _ _ ⟨k,rfl,rfl,rfl,hk,u⟩ _
 refine aK gU (E.ext u.aF) bL I (λ_ LW=>bT B.op eX LW rfl rfl λ_ si=>aE bO si (aV Lm u (C273 _ _) λ_ he u=>aN (aC (λkM=>?_) λkM=>?_)))
 .obtain⟨a,J⟩:=gx t.eu (i:=k) bL;have hka:=Ex.ub G.2.1 (kO J);have Uy:=G.kid J;have V8:=Uy.end;have Uz:=a.rp;have Z:=DN (ns:=ns) (ks:=t.eu) (k:=k);have V9:=Ex.pK ns a;refine dB agA u (C272 _ _ _ _ _ _ (N-1) _ (E.ext u.aF) (Y.ext u.aF) hn BN Uy bL) (λx28 _ cE u=>?_);have Pm:=u.dS;exact bJ u.p1 tG Pm bL dy (λ_ _ u=>have u:=u.p1.drop;aV Lk u (C251 _ _ _ (xs.length+1) _ (E.ext u.aF) bL bL bL) λ_ _ u=>aJ bL ⟨_,bL,k+1,gL (n3 .i64) (by rw[V8.1,uO J];omega),rfl,rfl,bL,by rw[LY J];exact u⟩)
 have Z:=DN (ns:=ns) (ks:=t.eu) (k:=k);refine aK gU (E.ext u.aF) bL I (λ_ L3=>bT B.n ji L3 rfl rfl λ_ AX=>aE bO AX ⟨λjv w'=>jv=ir (Ex.numOf ns B)/\St w aX [bF V (XV ns t.eu k)] w',aK gU (E.ext u.aF) bL I (λ_ XY=>bT B.op eX XY rfl rfl λ_ U=>aE bO U (aG (aC (λ_=>aK gU (E.ext u.aF) bL I λ_ xo=>bT B.name gj xo rfl rfl λ_ L4=>aE gv L4 (aV rK u (C123 _ ns _ _ (Y.ext u.aF) bL) λ_ _ u=>⟨gL (n3 .i64) (by grind[Ex.numOf]),u⟩)) λ_=>⟨gL (n3 .i64) (by grind[Ex.numOf]),u⟩))),?_⟩)
 rintro _ _ ⟨rfl,u⟩ _;refine aK gU (E.ext u.aF) bL I (λ_ XZ=>bT B.op eX XZ rfl rfl λ_ AS=>aE bO AS (pop (EH _ _) (bD ([(⟨B.op,(Ex.numOf ns B)⟩:ou)]) u tG rfl rfl (dQ rfl) λape _ u=>?_)));have O:=u.dS;refine bJ u.p1 tG O (by rw[Z,nh];have:(t.steps ns).length=t.size:=Ex.pK ns t;rw[Ex.vB,l0,nh,<- show k=t.eu.length from bL]at this;omega) dy (λW _ u=>?_);have u:=u.p1.drop;rw[Ex.vB,<- show k=t.eu.length from bL,<- hq];exact u.fresh
termination_by N
decreasing_by omega
def C220(lv nv:Value)(xs:List bU)(ns:List ByteArray)(w:World)(B:cZ (λ_=>True) w lv xs)(W:cZ (λ_=>True) w nv ns)(hn:xs.length<=1048576)(BN:ns.length<=1048576)(Su:∀x∈xs,x.name.size<=1048576):CR 220 [lv,nv] w (λv w'=>∃s,v=.tuple #[s,ir (kQ ns xs)]/\lf (bF s (qz ns xs)) w w'):=by
 have u:=St.start w;refine acJ _ _ _ _ ?_;unfold S220;refine aV Lj u (C200 _ _ _ (B.ext u.aF) hn Su) (λZ he u=>bN (aW (λE=>?_) λE=>?_))
 .have V:kQ ns xs=8:=by unfold kQ;rw[ej (by simpa using E)]
  refine⟨_,by rw[V],?_⟩;unfold qz;rw[V,ei dy];exact(u.eU (α:=ou)).fresh
 refine⟨λm x Z=>∃k:Nat,x=ir (k:Int)/\m=xs.length-k/\k<=xs.length/\(∀y∈xs.take k,(decide (y.op=2)&&decide (cU ns y.name<0))=false)/\St w aX [] Z,⟨_,0,rfl,rfl,l2 _,ee,u⟩,?_⟩;rintro m _ _ ⟨k,rfl,rfl,hk,M,u⟩ _;refine aI gU (B.ext u.aF) (aN (aC (λxm=>?_) λxm=>?_))
 .obtain⟨G,I⟩:=gx xs (i:=(k:Int).toNat) bL;refine⟨λjv w'=>jv=.bool (decide (G.op=2)&&decide (cU ns G.name<0))/\St w aX [] w',aK gU (B.ext u.aF) bL I (λ_ si=>bT G.op eX si rfl rfl λ_ j8=>aE bO j8 (aG (aC (λ_=>aK gU (B.ext u.aF) bL I λ_ uP=>bT G.name gj uP rfl rfl λ_ sm=>aE gv sm (aV rK u (C123 _ ns _ _ (W.ext u.aF) bL) λ_ _ u=>aN ⟨vb cD,u⟩)) λ_=>⟨vb cD,u⟩))),?_⟩;rintro _ _ ⟨rfl,u⟩ _;refine aW (λJ=>?_) (λJ=>aJ bL ⟨_,bL,k+1,rfl,rfl,bL,dY M I J,u⟩)
  have Y:kQ ns xs=9:=by unfold kQ;rw[ei (by simpa using E),ej (gY I J)]
  refine⟨_,by rw[Y],?_⟩;unfold qz;rw[Y,ei dy];exact(u.eU (α:=ou)).fresh
 have O:fz xs=true:=by simpa using E
 have XX:=zG O;obtain⟨t,ht⟩:=BO.of (xs:=xs) (i:=0) bL;have hz:=ht.zero XX;refine dB agA u (C272 _ _ _ _ _ t (t.size+1) _ (B.ext u.aF) (W.ext u.aF) hn BN ht bL) (λU _ cE u=>?_);rw[la bL]at M;have h0:kQ ns xs=0:=by unfold kQ;rw[ei (by simpa using E),ei (by rw[ix M];simp)]
 refine⟨U,by rw[h0],?_⟩;unfold qz Cc;rw[ej h0,hz.2];exact u.fresh
end Go.Proofs.YtpdlpabnlkofmaaGreatDoor

/-
  Part 2.
-/
import Derived.Test.YtpdlpabnlkofmaaGreatDoorR4x1
set_option maxHeartbeats 8000000
set_option linter.all false
set_option maxRecDepth 100000
open Go.Fw.Flat renaming val->ia,enc->j0,sz->mv,len->xM,agg->FF,one->VA,pos->V1,nx->aam
open List renaming getElem?_eq_some_iff->kE,mem_of_getElem?->kO,take_of_length_le->kW,getElem?_eq_getElem->la,length_append->lY,length_take->l0,length_singleton->mf,append_assoc->n3,getD_eq_getElem?_getD->ob,length_cons->oj,append_nil->o6,take_append_drop->pJ,length_drop->qa,replicate->qW,length_eq_zero_iff->r6,drop_drop->sW,take_add_one->ta,drop_eq_getElem_cons->tc,getElem?_append_left->tx,eraseIdx_eq_take_drop_succ->u4,map_append->vd,drop_eq_nil_of_le->vt,mem_singleton->vA,mem_of_mem_take->vB,foldl_append->CO,length_set->FE,getElem?_drop->HZ,map_map->Ix,getElem_cons_drop->J4,getElem?_cons_succ->NC,toArray->N2,length_flatten->T5
open Nat renaming zero_le->l1,le_refl->o1,zero_add->tW,le_trans->wc,min_eq_left->Er,add_assoc->L2,add_zero->N0,mod_lt->aau,mod_le->abf
open Go.Instr renaming build->l2,sliceAt->n4,index->u3,sliceBounds->vw,loadAt->wZ,fieldAt->EO,indexAt->ES,storeAt->IE,buildSlice->I0,slice->Pj
open Option renaming bind_some->mO,some->oe,bind_eq_some_iff->Nd
open Go.Value renaming int->nf,bool->wA,slice->x6,tuple->Bh,string->Fa,okWide->Ln,cells->SK
open Bool renaming and_eq_true->n5,false_eq_true->MX
open Decidable renaming not_not->u1
open Int renaming tmod_nonneg->Po,natAbs_tmod->RM,le_total->WD,natAbs_tdiv->ZO,neg_tmod->aaY
open Go.World renaming cells?_some->WC
namespace Go.Fw
section
variable {P:Program}{w w0:World}{A S:Nat->Prop}{L:List HP}
theorem bM{T:TypeId}{b o:Nat}{v:Value}{K:Value->Prop}(ht:V6 P T)(hb:Cell w b o v)(k:K v) :
  J8 P (wZ T (.pointer (some ⟨b,o,none⟩))) w K:=⟨v,aF ht hb,k⟩
theorem cI{α:Type}[Flat α]{T:TypeId}{x:α}{K:Value->hM}(u:St w0 A L w)
  (k:∀b w',St w0 A (bY b (j0 x)::L) w'->K (.pointer (some ⟨b,0,none⟩)) w'):rJ P (Instr.box T (ia x)) w K:=by
 refine⟨_,_,IC T _,k _ _ ?_⟩
 rw[pF]
 exact u.push
def Ah(a b:Int):Int:=((BitVec.ofInt 64 a &&& BitVec.ofInt 64 b).toNat:Int)
theorem D8(a:Int){b:Int}(u:0<=b)(h1:b<=9223372036854775807):0<=Ah a b/\Ah a b<=b:=by
 unfold Ah
 refine⟨cK,?_⟩
 have h2:(BitVec.ofInt 64 a &&& BitVec.ofInt 64 b).toNat<=(BitVec.ofInt 64 b).toNat:=by
  rw[BitVec.toNat_and];exact Nat.and_le_right
 have h3:((BitVec.ofInt 64 b).toNat:Int)=b:=by
  rw[BitVec.toNat_ofInt]
  omega
 omega
theorem ab8{T:Nat}{cx cy:Bool}{a b:Int}{K:Value->Prop}(u:0<=b)(h1:b<=9223372036854775807)(k:K (hZ (Ah a b))):eR P (kj .and T cx cy (hZ a) (hZ b)) K:=by
 refine⟨_,?_,k⟩
 show some (nf .i64 (IntKind.i64.wrap ((BitVec.ofInt 64 a &&& BitVec.ofInt 64 b).toNat:Int)))=_
 have:=D8 a u h1
 unfold Ah at this |-
 rw[IntWalk.i64_in _ cK]
theorem yF{T:Nat}{a b:Bool}(h:P.underlying T=some .bool):pr P (Op.equal T (.bool a) (.bool b))=some (a == b):=by
 show pr P (Op.equalIn 10000 T (.bool a) (.bool b))=_
 unfold Op.equalIn
 rw[cX,cZ h]
 rfl
theorem KN{T:Nat}{cx cy:Bool}{a b:Bool}{K:Value->Prop}(h:P.underlying T=some .bool)(k:K (.bool (a == b))):eR P (kj .eql T cx cy (.bool a) (.bool b)) K:=by
 refine⟨_,?_,k⟩
 show pr P (do pure (wA (<- Op.equal T (.bool a) (.bool b))))=_
 rw[xR,yF h];rfl
theorem rV{T:Nat}{cx cy:Bool}{a b:Bool}{K:Value->Prop}(h:P.underlying T=some .bool)(k:K (.bool (a != b))):eR P (kj .neq T cx cy (.bool a) (.bool b)) K:=by
 refine⟨_,?_,k⟩
 show pr P (do pure (wA (!(<- Op.equal T (.bool a) (.bool b)))))=_
 rw[xR _ (λb=>wA (!b)),yF h];rfl
theorem Gg{T e:Nat}{a:Option Addr}{n c:Nat}(h:P.underlying T=some (.slice e))(u:a=none->n=0/\c=0):pr P (Op.equal T (.slice a n c) (.slice none 0 0))=some a.isNone:=by
 show pr P (Op.equalIn 10000 T (.slice a n c) (.slice none 0 0))=_
 unfold Op.equalIn
 rw[cX,cZ h]
 cases a<;>rfl
theorem V7{T e:Nat}{cx cy:Bool}{a:Option Addr}{n c:Nat}{K:Value->Prop}(h:P.underlying T=some (.slice e))(u:a=none->n=0/\c=0)(k:K (.bool a.isNone)):eR P (kj .eql T cx cy (.slice a n c) (.slice none 0 0)) K:=by
 refine⟨_,?_,k⟩
 show pr P (do pure (wA (<- Op.equal T (.slice a n c) (.slice none 0 0))))=_
 rw[xR,Gg h u];rfl
def nU:TypeDesc->Option Nat
 | .int .i64=>some 0
 | .bool=>some 1
 | .string=>some 2
 | _=>none
def qZ:Value->Option Nat
 | .int .i64 _=>some 0
 | .bool _=>some 1
 | .string _=>some 2
 | _=>none
def eqV:Value->Value->Bool
 | .int _ a,.int _ b=>decide (a=b)
 | .bool a,.bool b=>a == b
 | .string a,.string b=>a == b
 | _,_=>false
def Ai:List Value->List Value->Bool
 | a::x,b::y=>eqV a b&&Ai x y
 | _,_=>true
def ot(P:Program):Nat->List Field->Option (List Nat)
 | _,[]=>some []
 | k,f::fs=>
  if f.name ≠ "_" /\ f.offset=k then
   match P.underlying f.type with
   | some d=>match nU d,ot P (k+1) fs with
    | some n,some r=>some (n::r)
    | _,_=>none
   | none=>none
  else none
def D9(P:Program)(T:TypeId):Option (List Nat):=
 match P.underlying T with
 | some (.struct u)=>if P.stoodInHeld T=false/\P.eqGuardType P.depth T=false then ot P 0 u.toList else none
 | _=>none
def OA(d:Nat)(xs ys:Array Value):List Field->Sem Bool
 | []=>pure true
 | f::r => if f.name ≠ "_" then do
   let same <- Op.equalIn d f.type (<- part f.type xs f.offset) (<- part f.type ys f.offset)
   if (!same)=true then pure false else OA d xs ys r
  else OA d xs ys r
theorem CW{T:TypeId}{d:TypeDesc}{n:Nat}(h:P.underlying T=some d)(u:nU d=some n):pr P (isAgg T)=some false:=by
 unfold isAgg
 rw[cX,cZ h]
 cases d<;>simp[nU]at u<;>rfl
theorem Rp{T:TypeId}{d:TypeDesc}{n o:Nat}{cs:Array Value}{v:Value}(h:P.underlying T=some d)(B:nU d=some n)(u:cs[o]?=some v):pr P (part T cs o)=some v:=by
 unfold part
 rw[cX,CW h B]
 simp only[mO,MX,if_false,u]
 rfl
theorem KO{k:Nat}{T:TypeId}{d:TypeDesc}{n:Nat}{a b:Value}(h:P.underlying T=some d)(B:nU d=some n)(u:qZ a=some n)(hb:qZ b=some n) :
  pr P (Op.equalIn (k+1) T a b)=some (eqV a b):=by
 unfold Op.equalIn
 rw[cX,cZ h]
 simp only[mO]
 cases d<;>simp only[nU]at B<;>try(cases B;done)
 case int kd=>
  cases kd<;>simp at B
  subst B
  cases a<;>simp only[qZ]at u<;>try(cases u;done)
  rename_i ka na
  cases b<;>simp only[qZ]at hb<;>try(cases hb;done)
  rename_i kb nb
  cases ka<;>simp at u
  cases kb<;>simp at hb
  rfl
 case bool=>
  cases B
  cases a<;>simp only[qZ]at u<;>first|(rename_i ka na;cases ka<;>simp at u)|skip
  all_goals try(simp at u;done)
  cases b<;>simp only[qZ]at hb<;>first|(rename_i kb nb;cases kb<;>simp at hb)|skip
  all_goals try(simp at hb;done)
  rfl
 case string=>
  cases B
  cases a<;>simp only[qZ]at u<;>first|(rename_i ka na;cases ka<;>simp at u)|skip
  all_goals try(simp at u;done)
  cases b<;>simp only[qZ]at hb<;>first|(rename_i kb nb;cases kb<;>simp at hb)|skip
  all_goals try(simp at hb;done)
  rfl
theorem KP{k:Nat}{xs ys:List Value}:∀(u:List Field) (i:Nat) (ks:List Nat),ot P i u=some ks->(∀j n,ks[j]?=some n->∃a b,xs[i+j]?=some a/\ys[i+j]?=some b/\qZ a=some n/\qZ b=some n)->
  pr P (OA (k+1) xs.toArray ys.toArray u)=some (Ai ((xs.drop i).take ks.length) ((ys.drop i).take ks.length)):=by
 intro u
 induction u with
 | nil=>intro i ks h _;simp only[ot,oe.injEq]at h;subst h;simp[OA,Ai];rfl
 | cons f u M=>
  intro i ks h I
  unfold ot at h
  split at h
  .rename_i hf
   cases hu:P.underlying f.type with
   | none=>grind
   | some d=>
    rw[hu]at h
    dsimp only at h
    cases hd:nU d with
    | none=>grind
    | some n=>
     rw[hd]at h
     cases hr:ot P (i+1) u with
     | none=>grind
     | some r=>
      rw[hr]at h
      simp only[oe.injEq]at h
      subst h
      obtain⟨a,b,E,hb,O,J⟩:=I 0 n rfl
      rw[N0]at E hb
      have G:xs.drop i=a::xs.drop (i+1):=by
       rw[<- J4 (kE.1 E).1,(kE.1 E).2]
      have B:ys.drop i=b::ys.drop (i+1):=by
       rw[<- J4 (kE.1 hb).1,(kE.1 hb).2]
      have U:=M (i+1) r hr λj m W=>by
       obtain⟨V,Y,h1,h2,h3,h4⟩:=I (j+1) m dD
       grind
      unfold OA
      rw[ew hf.1,cX,Rp hu hd (v:=a) dD]
      simp only[mO]
      rw[cX,Rp hu hd (v:=b) dD]
      simp only[mO]
      rw[cX,KO hu hd O J]
      simp only[mO,oj,G,B,List.take_succ_cons,Ai]
      cases he:eqV a b with
      | false=>rfl
      | true=>grind
  .cases h
theorem Aj{d:Nat}{t:TypeId}{u:Array Field}{xs ys:Array Value}(ht:P.underlying t=some (.struct u))(E:P.stoodInHeld t=false) :
  pr P (Op.equalIn (d+1) t (.agg xs) (.agg ys))=pr P (OA d xs ys u.toList):=by
 unfold Op.equalIn
 rw[cX,cZ ht]
 simp only[mO,cX]
 rw[show pr P program=some P from rfl]
 simp only[mO,E,MX,if_false]
 rw[<- Array.forIn_toList]
 generalize u.toList=l
 clear ht
 induction l with
 | nil=>rfl
 | cons f l B=>
  rw[cX]at B
  simp only[List.forIn_cons,OA,cX]
  split
  .simp only[cX]
   cases pr P (part f.type xs f.offset)with
   | none=>rfl
   | some a=>
    simp only[mO]
    cases pr P (part f.type ys f.offset)with
    | none=>rfl
    | some b=>
     simp only[mO]
     cases pr P (Op.equalIn d f.type a b)with
     | none=>rfl
     | some r=>
      cases r
      .rfl
      .simp only[mO,Bool.not_true,MX,if_false,fQ]
       exact B
  .simp only[fQ,mO]
   exact B
theorem IG{T:TypeId}{ks:List Nat}{xs ys:List Value}(h:D9 P T=some ks)(u:xs.map qZ=ks.map some)(B:ys.map qZ=ks.map some) :
  pr P (Op.equal T (.agg xs.toArray) (.agg ys.toArray))=some (Ai xs ys)/\P.eqGuardType P.depth T=false:=by
 unfold D9 at h
 split at h
 .rename_i fs hfs
  split at h
  .rename_i hc
   refine⟨?_,hc.2⟩
   show pr P (Op.equalIn 10000 T _ _)=_
   rw[Aj hfs hc.1]
   have I:xs.length=ks.length:=by have:=gN List.length u;grind
   have E:ys.length=ks.length:=by have:=gN List.length B;grind
   rw[KP (xs:=xs) (ys:=ys) fs.toList 0 ks h λj n G=>?_]
   .grind
   have J:j<ks.length:=(kE.1 G).1
   refine⟨xs[j]'(cK),ys[j]'(cK),ei,ei,?_,?_⟩
   .have:=gN (λl=>l[j]?) u
    grind
   have:=gN (λl=>l[j]?) B
   grind
  cases h
 cases h
theorem TC{T:Nat}{cx cy:Bool}{ks:List Nat}{xs ys:List Value}{K:Value->Prop}(h:D9 P T=some ks)(u:xs.map qZ=ks.map some)(B:ys.map qZ=ks.map some)(k:K (.bool (Ai xs ys))) :
  eR P (kj .eql T cx cy (.agg xs.toArray) (.agg ys.toArray)) K:=by
 obtain⟨h1,h2⟩:=IG h u B
 refine⟨_,?_,k⟩
 show pr P (if P.eqGuardType P.depth T=true then stuck "an interface in a part" else(do pure (wA (<- Op.equal T (.agg xs.toArray) (.agg ys.toArray))) : Sem Value))=_
 rw[h2,ej ei,xR,h1];rfl
theorem GS{T:Nat}{cx cy:Bool}{ks:List Nat}{xs ys:List Value}{K:Value->Prop}{p:Prop}[Decidable p](h:D9 P T=some ks)(B:xs.map qZ=ks.map some)(E:ys.map qZ=ks.map some)
  (u:Ai xs ys=decide p) (k:K (.bool (decide p))):eR P (kj .eql T cx cy (.agg xs.toArray) (.agg ys.toArray)) K:=TC h B E (u▸k)
end
end Go.Fw
namespace Go.Proofs.YtpdlpabnlkofmaaGreatDoor
open Go.Fw
def bL:dF hH 3=some (false,1):=by kernel_rfl
def uw:ep hH 3=some (some (hZ 0)):=by kernel_rfl
def KQ:Tryz.prog.underlying 3=some (.int .i64):=by kernel_rfl
def Ak:dF hH 4=some (false,1):=by kernel_rfl
def V8:ep hH 4=some (some (.bool false)):=by kernel_rfl
def IH:Tryz.prog.underlying 4=some (.bool):=by kernel_rfl
def auZ:Tryz.prog.underlying 5=some (.int .u8):=by kernel_rfl
def gv:dF hH 9=some (false,1):=by kernel_rfl
def afH:ep hH 9=some (some (.string ⟨#[]⟩)):=by kernel_rfl
def ik:Tryz.prog.underlying 9=some (.string):=by kernel_rfl
def oO:dF hH 22=some (false,1):=by kernel_rfl
def pG:eN hH 22=some (23,1,24,some 1):=by kernel_rfl
def jK:dF hH 23=some (false,1):=by kernel_rfl
def il:eN hH 23=some (161,3,32,some 3):=by kernel_rfl
def ix:dF hH 24=some (false,1):=by kernel_rfl
def fu:eN hH 24=some (146,4,72,some 4):=by kernel_rfl
def qP:dF hH 25=some (false,1):=by kernel_rfl
def sY:eN hH 25=some (85,2,32,some 2):=by kernel_rfl
def et:dF hH 27=some (true,6):=by kernel_rfl
def gw:aU hH 27 0=some (0,some true):=by kernel_rfl
def qc:aU hH 27 1=some (1,some true):=by kernel_rfl
def nP:aU hH 27 2=some (2,some true):=by kernel_rfl
def kF:aU hH 27 3=some (3,some true):=by kernel_rfl
def oP:aU hH 27 4=some (4,some true):=by kernel_rfl
def jt:aU hH 27 5=some (5,some true):=by kernel_rfl
def vf:ep hH 27=some (some (.agg [.slice none 0 0,.slice none 0 0,.slice none 0 0,.slice none 0 0,.slice none 0 0,.slice none 0 0].toArray)):=by kernel_rfl
def jL:dF hH 31=some (false,1):=by kernel_rfl
def ahB:ep hH 31=some (some (hZ 0)):=by kernel_rfl
def II:dF hH 39=some (false,1):=by kernel_rfl
def fW:eN hH 39=some (50,4,48,some 4):=by kernel_rfl
def ahC:ep hH 39=some (some (.slice none 0 0)):=by kernel_rfl
def qk:dF hH 40=some (false,1):=by kernel_rfl
def eg:dF hH 41=some (false,1):=by kernel_rfl
def cS:eN hH 41=some (3,1,8,some 1):=by kernel_rfl
def ahD:ep hH 41=some (some (.slice none 0 0)):=by kernel_rfl
def Ea:dF hH 42=some (false,1):=by kernel_rfl
def Gh:eN hH 42=some (129,1,8,some 1):=by kernel_rfl
def oQ:aU hH 44 0=some (0,some true):=by kernel_rfl
def Rq:aU hH 44 1=some (6,some true):=by kernel_rfl
def Di:aU hH 44 2=some (7,some true):=by kernel_rfl
def tm:aU hH 44 3=some (8,some true):=by kernel_rfl
def vg:aU hH 44 4=some (9,some true):=by kernel_rfl
def oR:aU hH 44 5=some (10,some true):=by kernel_rfl
def xU:aU hH 44 6=some (11,some true):=by kernel_rfl
def Rr:aU hH 44 7=some (12,some true):=by kernel_rfl
def j6:dF hH 50=some (true,4):=by kernel_rfl
def mU:aU hH 50 0=some (0,some true):=by kernel_rfl
def lD:aU hH 50 1=some (1,some true):=by kernel_rfl
def qd:aU hH 50 2=some (2,some true):=by kernel_rfl
def l8:aU hH 50 3=some (3,some true):=by kernel_rfl
def BL:ep hH 50=some (some (.agg [hZ 0,hZ 0,hZ 0,.slice none 0 0].toArray)):=by kernel_rfl
def fm:dF hH 56=some (true,5):=by kernel_rfl
def ab9:aU hH 56 0=some (0,some true):=by kernel_rfl
def Rs:aU hH 56 1=some (1,some true):=by kernel_rfl
def mq:ep hH 56=some (some (.agg [hZ 0,hZ 0,hZ 0,hZ 0,hZ 0].toArray)):=by kernel_rfl
def fc:dF hH 63=some (true,4):=by kernel_rfl
def j7:aU hH 63 0=some (0,some true):=by kernel_rfl
def qe:aU hH 63 1=some (1,some true):=by kernel_rfl
def Rt:aU hH 63 2=some (2,some true):=by kernel_rfl
def Ru:aU hH 63 3=some (3,some true):=by kernel_rfl
def gW:ep hH 63=some (some (.agg [hZ 0,hZ 0,hZ 0,.slice none 0 0].toArray)):=by kernel_rfl
def aca:eN hH 72=some (56,5,40,some 5):=by kernel_rfl
def ju:dF hH 82=some (false,1):=by kernel_rfl
def gV:eN hH 82=some (164,4,40,some 4):=by kernel_rfl
def IJ:dF hH 85=some (true,2):=by kernel_rfl
def vh:aU hH 85 0=some (0,some true):=by kernel_rfl
def IK:aU hH 85 1=some (1,some true):=by kernel_rfl
def OB:ep hH 85=some (some (.agg [.slice none 0 0,hZ 0].toArray)):=by kernel_rfl
def Al:dF hH 88=some (false,1):=by kernel_rfl
def ji:dF hH 91=some (false,1):=by kernel_rfl
def iy:eN hH 91=some (9,1,16,some 1):=by kernel_rfl
def ahE:ep hH 91=some (some (.slice none 0 0)):=by kernel_rfl
def KR:dF hH 93=some (false,1):=by kernel_rfl
def IL:dF hH 94=some (false,1):=by kernel_rfl
def KS:eN hH 94=some (135,1,8,some 1):=by kernel_rfl
def Dj:aU hH 96 0=some (0,some true):=by kernel_rfl
def IM:aU hH 96 1=some (6,some true):=by kernel_rfl
def IN:aU hH 96 2=some (7,some true):=by kernel_rfl
def acb:aU hH 96 3=some (8,some true):=by kernel_rfl
def tn:aU hH 96 4=some (9,some true):=by kernel_rfl
def vi:aU hH 96 5=some (10,some true):=by kernel_rfl
def vj:aU hH 96 6=some (11,some true):=by kernel_rfl
def IP:aU hH 96 7=some (12,some true):=by kernel_rfl
def xV:aU hH 96 8=some (13,some true):=by kernel_rfl
def Rv:aU hH 96 9=some (14,some true):=by kernel_rfl
def yG:dF hH 103=some (false,1):=by kernel_rfl
def yH:dF hH 114=some (true,5):=by kernel_rfl
def KT:aU hH 114 0=some (0,some true):=by kernel_rfl
def Am:aU hH 114 1=some (1,some true):=by kernel_rfl
def ql:aU hH 114 3=some (3,some true):=by kernel_rfl
def qm:aU hH 114 4=some (4,some true):=by kernel_rfl
def xW:ep hH 114=some (some (.agg [hZ 0,hZ 0,hZ 0,.bool false,.bool false].toArray)):=by kernel_rfl
def ux:eN hH 117=some (4,1,1,some 1):=by kernel_rfl
def tu:dF hH 120=some (false,1):=by kernel_rfl
def tz:eN hH 120=some (125,3,24,some 3):=by kernel_rfl
def uy:aU hH 122 0=some (0,some true):=by kernel_rfl
def V9:aU hH 122 1=some (1,some true):=by kernel_rfl
def rW:aU hH 122 2=some (2,some true):=by kernel_rfl
def An:aU hH 122 3=some (3,some true):=by kernel_rfl
def kM:aU hH 122 4=some (4,some true):=by kernel_rfl
def Wa:dF hH 125=some (true,3):=by kernel_rfl
def wH:aU hH 125 0=some (0,some true):=by kernel_rfl
def KU:aU hH 125 1=some (1,some true):=by kernel_rfl
def KV:aU hH 125 2=some (2,some true):=by kernel_rfl
def acd:ep hH 125=some (some (.agg [hZ 0,hZ 0,hZ 0].toArray)):=by kernel_rfl
def GU:eN hH 126=some (41,1,24,some 1):=by kernel_rfl
def GV:dF hH 129=some (false,1):=by kernel_rfl
def uz:dF hH 130=some (false,1):=by kernel_rfl
def ny:eN hH 130=some (218,12,176,some 12):=by kernel_rfl
def kN:aU hH 132 0=some (0,some true):=by kernel_rfl
def KW:aU hH 132 1=some (1,some true):=by kernel_rfl
def KX:aU hH 132 2=some (2,some true):=by kernel_rfl
def nz:aU hH 132 3=some (3,some true):=by kernel_rfl
def wI:aU hH 132 4=some (4,some true):=by kernel_rfl
def GW:dF hH 135=some (false,1):=by kernel_rfl
def rX:dF hH 136=some (false,1):=by kernel_rfl
def uA:eN hH 136=some (143,2,32,some 2):=by kernel_rfl
def oS:aU hH 138 0=some (0,some true):=by kernel_rfl
def Ao:aU hH 138 1=some (1,some true):=by kernel_rfl
def Ap:aU hH 138 2=some (2,some true):=by kernel_rfl
def jM:aU hH 138 3=some (3,some true):=by kernel_rfl
def wJ:aU hH 138 4=some (4,some true):=by kernel_rfl
def jN:dF hH 141=some (false,1):=by kernel_rfl
def fq:eN hH 141=some (193,9,120,some 9):=by kernel_rfl
def KY:aU hH 143 0=some (0,some true):=by kernel_rfl
def Wb:aU hH 143 1=some (1,some true):=by kernel_rfl
def m4:dF hH 146=some (true,4):=by kernel_rfl
def qn:aU hH 146 0=some (0,some true):=by kernel_rfl
def fR:aU hH 146 1=some (1,some true):=by kernel_rfl
def lI:aU hH 146 2=some (2,some true):=by kernel_rfl
def qo:aU hH 146 3=some (3,some true):=by kernel_rfl
def tA:ep hH 146=some (some (.agg [.string ⟨#[]⟩,.slice none 0 0,.slice none 0 0,hZ 0].toArray)):=by kernel_rfl
def l9:dF hH 161=some (true,3):=by kernel_rfl
def kP:aU hH 161 0=some (0,some true):=by kernel_rfl
def rY:aU hH 161 1=some (1,some true):=by kernel_rfl
def uB:aU hH 161 2=some (2,some true):=by kernel_rfl
def oT:ep hH 161=some (some (.agg [.string ⟨#[]⟩,hZ 0,hZ 0].toArray)):=by kernel_rfl
def rZ:dF hH 164=some (true,4):=by kernel_rfl
def eY:aU hH 164 0=some (0,some true):=by kernel_rfl
def jm:aU hH 164 1=some (1,some true):=by kernel_rfl
def gj:aU hH 164 2=some (2,some true):=by kernel_rfl
def r7:aU hH 164 3=some (3,some true):=by kernel_rfl
def xX:ep hH 164=some (some (.agg [hZ 0,hZ 0,.string ⟨#[]⟩,hZ 0].toArray)):=by kernel_rfl
def GX:dF hH 165=some (false,1):=by kernel_rfl
def Rw:ep hH 165=some (some (.map none)):=by kernel_rfl
def anA:dF hH 177=some (true,3):=by kernel_rfl
def Wc:aU hH 177 0=some (0,some true):=by kernel_rfl
def We:aU hH 177 1=some (1,some true):=by kernel_rfl
def Wf:aU hH 177 2=some (2,some true):=by kernel_rfl
def ace:ep hH 177=some (some (.agg [.string ⟨#[]⟩,hZ 0,.slice none 0 0].toArray)):=by kernel_rfl
def iL:dF hH 179=some (false,1):=by kernel_rfl
theorem fS:eN hH 179=some (231,4,32,some 4):=by kernel_rfl
def Wg:aU hH 181 0=some (0,some true):=by kernel_rfl
def kQ:aU hH 181 1=some (1,some true):=by kernel_rfl
def yI:dF hH 185=some (false,1):=by kernel_rfl
def wK:aU hH 187 0=some (0,some true):=by kernel_rfl
def Wh:aU hH 187 1=some (1,some true):=by kernel_rfl
def r8:aU hH 187 2=some (2,some true):=by kernel_rfl
def Aq:aU hH 187 3=some (3,some true):=by kernel_rfl
def r9:aU hH 187 4=some (4,some true):=by kernel_rfl
def eL:dF hH 193=some (true,9):=by kernel_rfl
def dN:aU hH 193 0=some (0,some true):=by kernel_rfl
def iE:aU hH 193 1=some (1,some true):=by kernel_rfl
def fZ:aU hH 193 2=some (2,some true):=by kernel_rfl
def iV:aU hH 193 3=some (3,some true):=by kernel_rfl
def j8:aU hH 193 4=some (4,some true):=by kernel_rfl
def jO:aU hH 193 5=some (5,some true):=by kernel_rfl
def iW:aU hH 193 6=some (6,some true):=by kernel_rfl
def iF:aU hH 193 7=some (7,some true):=by kernel_rfl
def lJ:aU hH 193 8=some (8,some true):=by kernel_rfl
def jw:ep hH 193=some (some (.agg [hZ 0,.string ⟨#[]⟩,.string ⟨#[]⟩,.slice none 0 0,.slice none 0 0,hZ 0,hZ 0,hZ 0,hZ 0].toArray)):=by kernel_rfl
def Wi:aU hH 196 0=some (0,some true):=by kernel_rfl
def gX:aU hH 196 1=some (1,some true):=by kernel_rfl
def jn:dF hH 198=some (false,1):=by kernel_rfl
def fK:eN hH 198=some (209,4,40,some 4):=by kernel_rfl
def j9:aU hH 203 0=some (0,some true):=by kernel_rfl
def fw:aU hH 203 1=some (1,some true):=by kernel_rfl
def mr:aU hH 203 2=some (2,some true):=by kernel_rfl
def wL:aU hH 203 3=some (3,some true):=by kernel_rfl
def afI:dF hH 209=some (true,4):=by kernel_rfl
def lK:aU hH 209 0=some (0,some true):=by kernel_rfl
def nA:aU hH 209 1=some (1,some true):=by kernel_rfl
def sd:aU hH 209 2=some (2,some true):=by kernel_rfl
def lL:aU hH 209 3=some (3,some true):=by kernel_rfl
def acf:ep hH 209=some (some (.agg [hZ 0,.string ⟨#[]⟩,hZ 0,hZ 0].toArray)):=by kernel_rfl
def KZ:dF hH 218=some (true,12):=by kernel_rfl
def oU:aU hH 218 0=some (0,some true):=by kernel_rfl
def La:aU hH 218 1=some (9,some true):=by kernel_rfl
def Wj:aU hH 218 2=some (10,some true):=by kernel_rfl
def Lb:aU hH 218 3=some (11,some true):=by kernel_rfl
def Rx:ep hH 218=some (some (.agg [hZ 0,.string ⟨#[]⟩,.string ⟨#[]⟩,.slice none 0 0,.slice none 0 0,hZ 0,hZ 0,hZ 0,hZ 0,.slice none 0 0,.slice none 0 0,.bool false].toArray)):=by kernel_rfl
def Cy:eN hH 224=some (227,2,16,some 2):=by kernel_rfl
def As:ep hH 224=some (some (.slice none 0 0)):=by kernel_rfl
def Ry:dF hH 227=some (true,2):=by kernel_rfl
def Lc:aU hH 227 0=some (0,some true):=by kernel_rfl
def Ld:aU hH 227 1=some (1,some true):=by kernel_rfl
def Rz:ep hH 227=some (some (.agg [hZ 0,hZ 0].toArray)):=by kernel_rfl
def iq:dF hH 231=some (true,4):=by kernel_rfl
def gG:aU hH 231 0=some (0,some true):=by kernel_rfl
def gY:aU hH 231 1=some (1,some true):=by kernel_rfl
def mu:aU hH 231 2=some (2,some true):=by kernel_rfl
def oV:aU hH 231 3=some (3,some true):=by kernel_rfl
def rz:ep hH 231=some (some (.agg [hZ 0,hZ 0,hZ 0,hZ 0].toArray)):=by kernel_rfl
def RB:dF hH 249=some (false,1):=by kernel_rfl
def acg:ep hH 249=some (some (.nilFunc)):=by kernel_rfl
def tB:eN hH 277=some (320,2,16,some 2):=by kernel_rfl
def wM:dF hH 288=some (false,1):=by kernel_rfl
def Le:eN hH 300=some (24,1,24,some 1):=by kernel_rfl
def iG:aU hH 305 0=some (0,some true):=by kernel_rfl
def eZ:aU hH 305 1=some (1,some true):=by kernel_rfl
def kR:aU hH 305 2=some (2,some true):=by kernel_rfl
def Au:aU hH 305 3=some (3,some true):=by kernel_rfl
def qp:aU hH 305 4=some (4,some true):=by kernel_rfl
def fX:dF hH 308=some (true,4):=by kernel_rfl
def se:aU hH 308 0=some (0,some true):=by kernel_rfl
def oW:aU hH 308 1=some (1,some true):=by kernel_rfl
def uC:aU hH 308 2=some (2,some true):=by kernel_rfl
def Wk:aU hH 308 3=some (3,some true):=by kernel_rfl
def tC:ep hH 308=some (some (.agg [.slice none 0 0,hZ 0,hZ 0,hZ 0].toArray)):=by kernel_rfl
def qq:aU hH 316 0=some (0,some true):=by kernel_rfl
def uD:aU hH 318 0=some (0,some true):=by kernel_rfl
def Lf:aU hH 318 1=some (1,some true):=by kernel_rfl
def ach:ep hH 318=some (some (.agg [.slice none 0 0,hZ 0].toArray)):=by kernel_rfl
def Eb:dF hH 320=some (true,2):=by kernel_rfl
def nB:aU hH 320 0=some (0,some true):=by kernel_rfl
def qt:aU hH 320 1=some (1,some true):=by kernel_rfl
def IQ:ep hH 320=some (some (.agg [hZ 0,hZ 0].toArray)):=by kernel_rfl
def Wl:dF hH 348=some (true,16):=by kernel_rfl
def RC:ep hH 348=some (some (.agg [.nilFunc,.nilFunc,.nilFunc,.nilFunc,.nilFunc,.nilFunc,.nilFunc,.nilFunc,.nilFunc,.nilFunc,.nilFunc,.nilFunc,.nilFunc,.nilFunc,.nilFunc,.nilFunc].toArray)):=by kernel_rfl
def anB:dF hH 361=some (false,1):=by kernel_rfl
def afJ:dF hH 364=some (true,15):=by kernel_rfl
def aci:ep hH 364=some (some (.agg [.string ⟨#[]⟩,.string ⟨#[]⟩,.string ⟨#[]⟩,.string ⟨#[]⟩,.string ⟨#[]⟩,.string ⟨#[]⟩,.string ⟨#[]⟩,.string ⟨#[]⟩,.string ⟨#[]⟩,.string ⟨#[]⟩,.string ⟨#[]⟩,.string ⟨#[]⟩,.string ⟨#[]⟩,.string ⟨#[]⟩,.string ⟨#[]⟩].toArray)):=by kernel_rfl
def nD(Y:Option Addr)(I V:Nat)(G:Option Addr)(U B:Nat)(W:Option Addr)(E u:Nat)(J:Option Addr)(O M:Nat):pr hH (l2 27 [(1,.slice Y I V),(2,.slice G U B),(3,.slice W E u),(4,.slice J O M)].toArray)=some (.agg [.slice none 0 0,.slice Y I V,.slice G U B,.slice W E u,.slice J O M,.slice none 0 0].toArray):=by kernel_rfl
def GY(E:Option Addr)(u B:Nat)(G:Int):pr hH (l2 85 [(0,.slice E u B),(1,hZ G)].toArray)=some (.agg [.slice E u B,hZ G].toArray):=by kernel_rfl
def OC(B:Option Addr)(E G:Nat)(J:Option Addr)(u I:Nat):pr hH (l2 122 [(0,.slice B E G),(1,.slice J u I)].toArray)=some (.agg [.slice B E G,.slice J u I,.slice none 0 0,.slice none 0 0,.slice none 0 0].toArray):=by kernel_rfl
def IS(B:Int)(E:Int)(u:Int):pr hH (l2 125 [(0,hZ B),(1,hZ E),(2,hZ u)].toArray)=some (.agg [hZ B,hZ E,hZ u].toArray):=by kernel_rfl
def OD(B:ByteArray)(u:Int):pr hH (l2 146 [(0,.string B),(3,hZ u)].toArray)=some (.agg [.string B,.slice none 0 0,.slice none 0 0,hZ u].toArray):=by kernel_rfl
def Av(E:ByteArray)(I:Int)(B:Option Addr)(G u:Nat):pr hH (l2 146 [(0,.string E),(3,hZ I),(2,.slice B G u)].toArray)=some (.agg [.string E,.slice none 0 0,.slice B G u,hZ I].toArray):=by kernel_rfl
def Wm(u:Int):pr hH (l2 146 [(3,hZ u)].toArray)=some (.agg [.string ⟨#[]⟩,.slice none 0 0,.slice none 0 0,hZ u].toArray):=by kernel_rfl
def acj:pr hH (l2 161 [].toArray)=some (.agg [.string ⟨#[]⟩,hZ 0,hZ 0].toArray):=by kernel_rfl
def Ec(B:ByteArray)(u:Int):pr hH (l2 161 [(0,.string B),(2,hZ u)].toArray)=some (.agg [.string B,hZ 0,hZ u].toArray):=by kernel_rfl
def IT(B:Int)(E:Int)(u:Int):pr hH (l2 164 [(0,hZ B),(1,hZ E),(3,hZ u)].toArray)=some (.agg [hZ B,hZ E,.string ⟨#[]⟩,hZ u].toArray):=by kernel_rfl
def IU(E:Int)(u:ByteArray)(B:Int):pr hH (l2 164 [(0,hZ E),(2,.string u),(3,hZ B)].toArray)=some (.agg [hZ E,hZ 0,.string u,hZ B].toArray):=by kernel_rfl
def Ed(B:Int)(u:Int):pr hH (l2 164 [(0,hZ B),(3,hZ u)].toArray)=some (.agg [hZ B,hZ 0,.string ⟨#[]⟩,hZ u].toArray):=by kernel_rfl
def Wn(u:Int):pr hH (l2 181 [(0,hZ u)].toArray)=some (.agg [hZ u,.slice none 0 0].toArray):=by kernel_rfl
def Ee(I:Option Addr)(J M:Nat)(V:Option Addr)(E U:Nat)(B:Option Addr)(O u:Nat)(G:Option Nat):pr hH (l2 187 [(0,.slice I J M),(1,.slice V E U),(2,.slice B O u),(4,.map G)].toArray)=some (.agg [.slice I J M,.slice V E U,.slice B O u,.slice none 0 0,.map G].toArray):=by kernel_rfl
def OE(u:Int)(B:Int):pr hH (l2 193 [(0,hZ u),(8,hZ B)].toArray)=some (.agg [hZ u,.string ⟨#[]⟩,.string ⟨#[]⟩,.slice none 0 0,.slice none 0 0,hZ 0,hZ 0,hZ 0,hZ B].toArray):=by kernel_rfl
def Wo(u:Int):pr hH (l2 196 [(0,hZ u)].toArray)=some (.agg [hZ u,.slice none 0 0].toArray):=by kernel_rfl
def Wp(E:Option Addr)(u B:Nat):pr hH (l2 203 [(0,.slice E u B)].toArray)=some (.agg [.slice E u B,hZ 0,hZ 0,hZ 0].toArray):=by kernel_rfl
def Wq(u:Int):pr hH (l2 209 [(3,hZ u)].toArray)=some (.agg [hZ 0,.string ⟨#[]⟩,hZ 0,hZ u].toArray):=by kernel_rfl
def OF(u:Int)(B:Int):pr hH (l2 227 [(0,hZ u),(1,hZ B)].toArray)=some (.agg [hZ u,hZ B].toArray):=by kernel_rfl
def xY:pr hH (l2 231 [].toArray)=some (.agg [hZ 0,hZ 0,hZ 0,hZ 0].toArray):=by kernel_rfl
def Aw(u:Int):pr hH (l2 231 [(0,hZ u)].toArray)=some (.agg [hZ u,hZ 0,hZ 0,hZ 0].toArray):=by kernel_rfl
def OG(E:Option Addr)(u B:Nat)(G:Int):pr hH (l2 305 [(0,.slice E u B),(1,hZ G)].toArray)=some (.agg [.slice E u B,hZ G,hZ 0,hZ 0,.slice none 0 0].toArray):=by kernel_rfl
def zi(E:Option Addr)(u B:Nat)(G:Int):pr hH (l2 308 [(0,.slice E u B),(1,hZ G)].toArray)=some (.agg [.slice E u B,hZ G,hZ 0,hZ 0].toArray):=by kernel_rfl
def OH(u:Int)(B:Int):pr hH (l2 308 [(2,hZ u),(3,hZ B)].toArray)=some (.agg [.slice none 0 0,hZ 0,hZ u,hZ B].toArray):=by kernel_rfl
def Ef(u:Int)(B:Int):pr hH (l2 320 [(0,hZ u),(1,hZ B)].toArray)=some (.agg [hZ u,hZ B].toArray):=by kernel_rfl
def Wr:D9 hH 231=some [0,0,0,0]:=by kernel_rfl
end Go.Proofs.YtpdlpabnlkofmaaGreatDoor
namespace Go.Fw
def sep(H1 H2:HP):HP where
 p w F:=∃u B,H1.p w u/\H2.p w B/\(∀b,u b->¬ B b)/\∀b,F b↔u b\/B b
 loc w w' F h hh:=by
  obtain⟨u,B,h1,h2,h3,h4⟩:=h
  exact⟨u,B,H1.loc _ _ _ h1 λb hb=>hh b ((h4 b).2 (.inl hb)),H2.loc _ _ _ h2 λb hb=>hh b ((h4 b).2 (.inr hb)),h3,h4⟩
 lt w F b h hb:=by
  obtain⟨u,B,h1,h2,h3,h4⟩:=h
  rcases(h4 b).1 hb with hf|hf
  .exact H1.lt _ _ _ h1 hf
  .exact H2.lt _ _ _ h2 hf
def pH{α:Type}(H:α->HP):HP where
 p w F:=∃x,(H x).p w F
 loc w w' F h hh:=by obtain⟨x,h⟩:=h;exact⟨x,(H x).loc _ _ _ h hh⟩
 lt w F b h hb:=by obtain⟨x,h⟩:=h;exact(H x).lt _ _ _ h hb
def fact(φ:Prop)(H:HP):HP where
 p w F:=φ/\H.p w F
 loc w w' F h hh:=⟨h.1,H.loc _ _ _ h.2 hh⟩
 lt w F b h hb:=H.lt _ _ _ h.2 hb
def emp:HP where
 p _ F:=∀b,¬ F b
 loc _ _ _ h _:=h
 lt _ _ b h hb:=(h b hb).elim
section
variable {P:Program}{w w0 w':World}{A:Nat->Prop}{L:List HP}{H H1 H2:HP}
theorem St.split(h:St w0 A (sep H1 H2::L) w):St w0 A (H1::H2::L) w:=by
 obtain⟨U,F,G,⟨J,E,I,M,O,u⟩,h2,h3,h4,h5⟩:=h.tQ
 refine⟨h.aG,U,J,λb=>E b\/G b,I,λb hb=>h2 b ((u b).2 (.inl hb)),λb hb B=>?_,λb=>?_,E,G,M,λb hb=>h2 b ((u b).2 (.inr hb)),λb hb B=>h3 b ((u b).2 (.inr hb)) B,λb=>Iff.rfl,h5⟩
 .grind
 grind
theorem St.join(h:St w0 A (H1::H2::L) w):St w0 A (sep H1 H2::L) w:=by
 obtain⟨U,F,W,h1,h2,h3,h4,u,I,J,M,O,G,B⟩:=h.tQ
 refine⟨h.aG,U,λb=>F b\/u b,I,⟨F,u,h1,J,λb hb E=>h3 b hb ((G b).2 (.inl E)),λb=>Iff.rfl⟩,λb hb=>hb.elim (h2 b) (M b),λb hb V=>?_,λb=>?_,B⟩
 .grind
 grind
theorem St.eh{α:Type}{H:α->HP}(h:St w0 A (pH H::L) w):∃x,St w0 A (H x::L) w:=by
 obtain⟨U,F,u,⟨x,h1⟩,h2⟩:=h.tQ;exact⟨x,h.aG,U,F,u,h1,h2⟩
theorem St.ek{α:Type}{H:α->HP}(x:α)(h:St w0 A (H x::L) w):St w0 A (pH H::L) w:=by
 obtain⟨U,F,u,h1,h2⟩:=h.tQ;exact⟨h.aG,U,F,u,⟨x,h1⟩,h2⟩
theorem St.mw{φ:Prop}(h:St w0 A (fact φ H::L) w):φ/\St w0 A (H::L) w:=by
 obtain⟨U,F,u,⟨x,h1⟩,h2⟩:=h.tQ;exact⟨x,h.aG,U,F,u,h1,h2⟩
theorem St.ou{φ:Prop}(x:φ)(h:St w0 A (H::L) w):St w0 A (fact φ H::L) w:=by
 simp_all[fact]
def mP(F:Nat->Prop)(H':HP)(w w':World):Prop:=∃u,H'.p w' u/\(∀b,u b->F b\/w.heap.size<=b)/\gu F w w'
def lg(H:HP)(w w':World):Prop:=∃F,H.p w' F/\(∀b,F b->w.heap.size<=b)/\Ext w w'
theorem St.mut{F:Nat->Prop}(u:St w F (H::L) w'):mP F H w w':=by
 obtain⟨B,h1,h2⟩:=u.head;exact⟨B,h1,h2,u.aG⟩
theorem St.fresh(u:St w bD (H::L) w'):lg H w w':=by
 obtain⟨B,h1,h2⟩:=u.head;exact⟨B,h1,λb hb=>(h2 b hb).elim (λh=>h.elim) id,u.aG⟩
theorem St.made(u:St w0 A L w)(h:lg H w w'):St w0 A (H::L) w':=by
 obtain⟨F,h1,h2,h3⟩:=h;exact u.new h3 h1 h2
theorem aV{f:FuncId}{args:List Value}{X:Value}{K:Value->hM}(pl:Plain P f)(u:St w0 A L w)(hc:Calls P f args.toArray w (tP λv w'=>v=X/\Ext w w'))(k:∀w',Ext w w'->St w0 A L w'->K X w'):Cr P f args w K:=
 dQ pl hc λv w' h=>by obtain⟨rfl,h2⟩:=h;exact k w' h2 (u.ext h2)
theorem dT{f:FuncId}{args:List Value}{H:Value->HP}{K:Value->hM}(pl:Plain P f)(u:St w0 A L w)(hc:Calls P f args.toArray w (tP λv w'=>lg (H v) w w'))(k:∀v w',lg (H v) w w'->St w0 A (H v::L) w'->K v w'):Cr P f args w K:=
 dQ pl hc λv w' h=>k v w' h (u.made h)
theorem St.Ws{F:Nat->Prop}{B:Nat->Prop}{H':HP}(M:St w0 A (H::L) w)(h2:∀b,F b->A b\/w0.heap.size<=b)(h3:∀b,F b->¬ B b)(h5:rT w0 A L w B)(h:mP F H' w w'):St w0 A (H'::L) w':=by
 obtain⟨J,O,I,E⟩:=h
 refine⟨M.aG.trans E (λ_ h=>h) λb hb u=>(h2 b u).elim id λU=>cK,λb=>J b\/B b,J,B,O,λb hb=>?_,λb hb G=>?_,λb=>Iff.rfl,?_⟩
 .rcases I b hb with u|u
  .exact h2 b u
  exact .inr (wc M.aG.size u)
 .rcases I b hb with u|u
  .exact h3 b u G
  have:=h5.lt b G;omega
 exact h5.loc λb hb=>E.bY b (h5.lt b hb) λu=>h3 b u hb
theorem qf{f:FuncId}{args:List Value}{H':Value->HP}{Φ:Value->hM}{K:Value->hM}(pl:Plain P f)(u:St w0 A (H::L) w)
  (hc:∀F,H.p w F->Calls P f args.toArray w (tP λv w'=>Φ v w'/\mP F (H' v) w w')) (k:∀v w',Φ v w'->St w0 A (H' v::L) w'->K v w'):Cr P f args w K:=by
 obtain⟨U,F,G,h1,h2,h3,h4,h5⟩:=u.tQ
 exact dQ pl (hc F h1) λv w' ⟨E,B⟩=>k v w' E (u.Ws h2 h3 h5 B)
end
section
variable {α:Type}[Flat α] {P:Program}{w w0:World}{A S:Nat->Prop}{L:List HP}{xs ys:List α}
theorem dA.one{v:Value}(h:dA S w v xs):wB v=true:=by obtain⟨a,c,rfl,_⟩:=h;rfl
theorem Gi{T E U R b n cap:Nat}{z:Option Nat}{src:Value}{cs:List Value}(ht:eN P T=some (E,mv α,U,z))(hb:mR w b cs)(u:dA S w src ys)
  (I:n+ys.length<=cap) (TA:n*mv α+ys.length*mv α<=cs.length) :
  ∃w',(Builtin.append_ #[T,T] R [.slice (some ⟨b,0,none⟩) n cap,src].toArray).run P w=.ok (.slice (some ⟨b,0,none⟩) (n+ys.length) cap) w'/\mR w' b (jh cs (n*mv α) (flat ys))/\gu (· = b) w w':=by
 obtain⟨G,W,hi,V,Y,_⟩:=fp ht
 have rd:=u
 obtain⟨Z,Ge,rfl,B,J⟩:=rd
 obtain⟨w',h1,h2,h3⟩:=mT (P:=P) (o:=n*mv α) (flat ys) 0 cs w hb (by rw[dB];omega) Ae
 refine⟨w',?_,cK,h3⟩
 have M:=xS (α:=α) (P:=P) (sz:=mv α) rfl u
 have O:(⟨b,0,none⟩:Addr).add (n*mv α)=⟨b,n*mv α,none⟩:=by rw[gE,tW]
 simp[Builtin.append_,run_underlying G,sizeOf,typeInfo,hi,Builtin.lenOf,I,M,V,O,h1]
theorem TD{T E J R b o n c:Nat}{z:α}{cs:List Value}(ht:Vi P T E (mv α) J)(u:oo P E (ia z))(hb:mR w b cs)(U:o+n*mv α<=cs.length) :
  ∃w',(Builtin.clear_ #[T] R [.slice (some ⟨b,o,none⟩) n c].toArray).run P w=.ok (.tuple #[]) w'/\mR w' b (jh cs o (flat (qW n z)))/\gu (· = b) w w':=by
 obtain⟨G,M,hi,V,O,_⟩:=fp ht
 unfold oo ep at u
 rw[hi]at u
 simp only[Option.map_some,oe.injEq]at u
 by_cases I:n=0
 .subst I
  refine⟨w,?_,by simpa[kK,jh]using hb,gu.refl _ _⟩
  simp[Builtin.clear_,run_underlying G]
 have B:(Builtin.zeroCells (ia z).cells n).toList=flat (qW n z):=by
  rw[pF,<- wF]
  unfold Builtin.zeroCells madeCells
  simp[xM]
 obtain⟨w',h1,h2,h3⟩:=mT (P:=P) (o:=o) (flat (qW n z)) 0 cs w hb (by rw[dB,List.length_replicate];omega) Ae
 refine⟨w',?_,cK,h3⟩
 simp[Builtin.clear_,run_underlying G,zeroValue,typeInfo,hi,u,I,B,h1]
theorem Wt{T E sz I n cap:Nat}{z:Option Nat}{a:Option Addr}{i j k:Int}{K:Value->Prop}(ht:eN P T=some (E,sz,I,z))(O:0<=i)(h1:i<=j)(h2:j<=k)(h3:k<=cap)
  (B:∀v,K v):eR P (n4 T (.slice a n cap) (some (hZ i)) (some (hZ j)) (some (hZ k))) K:=by
 obtain⟨u,M,G,J,_⟩:=fp ht
 have hb:pr P (vw true n cap (some (hZ i)) (some (hZ j)) (some (hZ k)))=some (i.toNat,j.toNat,k.toNat):=by
  simp only[vw,cX,fQ,mO]
  rw[jl cK cK]
  simp only[mO]
  rw[jl cK cK]
  simp only[mO]
  rw[jl cK cK]
  rfl
 refine⟨.slice (if k.toNat=i.toNat then a else a.map (·.add (i.toNat*sz))) (j.toNat-i.toNat) (k.toNat-i.toNat),?_,B _⟩
 unfold n4
 rw[cX,cZ u]
 simp only[mO]
 unfold Pj
 rw[cX,cZ u]
 simp only[mO]
 rw[cX,hb]
 simp only[mO]
 rw[cX,mS G,J]
 rfl
end
def nE(b:Nat)(o:Obj):HP where
 p w F:=w.heap[b]?=some o/\∀k,F k↔k=b
 loc w w' F h hh:=⟨(hh b ((h.2 b).2 rfl)).trans h.1,h.2⟩
 lt w F b' h hb:=dD
section
variable {P:Program}{w w0 w':World}{A:Nat->Prop}{L:List HP}
theorem St.obj{b:Nat}{o:Obj}(u:St w0 A (nE b o::L) w):w.heap[b]?=some o:=by
 obtain⟨F,h,_⟩:=u.head;exact h.1
theorem Ext.alloc(w:World)(o:Obj):Ext w (w.alloc o):=Ext.push w o
theorem St.alloc{o:Obj}(u:St w0 A L w):St w0 A (nE w.heap.size o::L) (w.alloc o):=
 u.new (F:=(· = w.heap.size)) (Ext.alloc w o) ⟨mj w o,λ_=>Iff.rfl⟩ λb hb=>Nat.le_of_eq hb.symm
theorem gu.putObj(w:World)(b:Nat)(o:Obj):gu (· = b) w (w.putObj b o):=
 ⟨rfl,rfl,rfl,ei,λk _ u=>World.putObj_heap_other u⟩
theorem St.putObj{b:Nat}{o:Obj}(u:Obj)(G:St w0 A (nE b o::L) w):St w0 A (nE b u::L) (w.putObj b u):=
 G.ry λF B=>⟨F,⟨World.putObj_heap_same (ve B.1),B.2⟩,λ_ h=>.inl h,(gu.putObj w b u).mono λk E=>(B.2 k).2 E⟩
theorem kH.mono{fv:Value}{args:List Value}{K u:Value->hM}(h:kH P fv args w K)(B:∀v w,K v w->u v w):kH P fv args w u:=
 Gy.mono (P:=P) (k:=.Q1 fv args) h B
theorem aJ{α:Type}[Flat α]{T:TypeId}{b:Nat}{cs:List Value}{x:α}{K:hM}(E:St w0 A (bY b cs::L) w)(ht:ab4 P T (mv α))(B:FF α=true)(u:cs.length=mv α)
  (k:∀w',St w0 A (bY b (j0 x)::L) w'->K w'):Vf P (IE T (.pointer (some ⟨b,0,none⟩)) (ia x)) w K:=by
 rw[aam B]
 refine D7 E ht (xM x) (by rw[tW,u];exact o1 _) (VA x) λw' h=>k w' ?_
 have:=mn [] cs [] (j0 x) (by rw[xM,u])
 simp only[List.length_nil,List.nil_append,o6]at this
 rwa [this]at h
theorem eH{α:Type}[Flat α]{S:Nat->Prop}{T:TypeId}{p:Value}{x:α}(ht:dF P T=some (FF α,mv α))(h:At S w p x):(wZ T p).run P w=.ok (ia x) w:=by
 obtain⟨v,h1,h2⟩:=(aD (K:=λv=>v=ia x) ht h rfl).ex
 grind
theorem jU{b:Bool}{A B:Prop}(h:b=true)(a:A):yz (.bool b) A B:=⟨⟨_,rfl,λ_=>a,λu=>dD⟩⟩
theorem fH{b:Bool}{A B:Prop}(h:b=false)(a:B):yz (.bool b) A B:=⟨⟨_,rfl,λu=>dD,λ_=>a⟩⟩
theorem Eg{D:Nat}{K:hM}(u:St w0 A (nE D (.deferred (some []))::L) w)(k:∀w',St w0 A L w'->K w'):mQ [D] w K:=
 ⟨u.obj,k _ (u.putObj (.deferred none)).drop⟩
theorem Eh(u:Loop)(h1:u.state=.ready)(h2:u.pending=none):({u with state:=if (none:Option Code).isNone=true then LoopState.ready else LoopState.done,pending:=none}:Loop)=u:=by
 cases u;grind
theorem wN{gf np:Nat}{cap:List Value}{xs:List (List Value)}{round:List Value->World->(World->(hM)->Prop)->(Option Code->hM)->Prop}
  {N R:Nat->hM}{X:Nat->Nat->hM}(pl:Plain P gf) (hs:St w0 A L w) (I:Nat->List HP->Prop) (Z:Code->List HP->Prop) (h0:I 0 L) (hnp:∀x∈xs,x.length=np)
  (hgf:∀(y:Value) (J:Nat->hM) (Jx:hM) (W:World),(∀k W,J k W->∃Y M,I k M/\St w0 A (Y::M) W)->(∀k W O,J k W->Ext W O->J k O)->J 0 W->
   (∀k args O,xs[k]?=some args->J k O->kH P y args O λv V=>(v=.bool true/\J (k+1) V)\/(v=.bool false/\Jx V))->
   Calls P gf ([y]++cap).toArray W (tP λ_ O=>J xs.length O\/Jx O))
  (D1:∀k args (Y1 Y2:HP) (B:World->(hM)->Prop) (Kr:Option Code->hM) M W,xs[k]?=some args->I k M->
   (∀M E (kk:hM),St w0 A (Y1::M) E->(∀w2,St w0 A (Y2::M) w2->kk w2)->B E kk)->
   (∀M E,St w0 A (Y2::M) E->I (k+1) M->Kr none E)->(∀c M E,St w0 A (Y2::M) E->Z c M->Kr (some c) E)->
   St w0 A (Y1::M) W->round args W B Kr)
  (Wu:∀D M W,I xs.length M->St w0 A (nE D (.deferred (some []))::M) W->N D W)
  (ahF:∀D M W,Z .ret M->St w0 A (nE D (.deferred (some []))::M) W->R D W)
  (Wv:∀id D M W,Z (.exit id) M->St w0 A (nE D (.deferred (some []))::M) W->X id D W)
  (OI:∀c M,Z c M->(∃id,c=.exit id)\/c=.ret) :
  Ac P (.func (.func gf) #[] cap.toArray) np w round (aft N R X):=by
 refine⟨gf,cap.toArray,rfl,pl,λU iT Bu hy=>?_⟩
 obtain⟨l,hl⟩:∃l,l=w.heap.size+1:=⟨_,rfl⟩
 obtain⟨D,hD⟩:∃D,D=w.heap.size:=⟨_,rfl⟩
 rw[<- hl]at hy |-
 rw[<- hD]
 let J:Nat->hM:=λk W=>∃M,I k M/\St w0 A (nE l (.loop U)::nE D (.deferred (some []))::M) W
 let Jx:hM:=λW=>∃c M,Z c M/\St w0 A (nE l (.loop {U with state:=.done,pending:=some c})::nE D (.deferred (some []))::M) W
 have TE:J 0 ((w.alloc (.deferred (some []))).alloc (.loop U)):=by
  refine⟨L,h0,?_⟩
  have h1:=(hs.alloc (o:=.deferred (some []))).alloc (o:=.loop U)
  rw[show(w.alloc (.deferred (some []))).heap.size=l from by rw[hl];exact BI w _,<- hD]at h1
  exact h1
 have:=hgf (.func (.yield l) #[] #[]) J Jx _ (λk W ⟨M,G,u⟩=>⟨_,M,G,St.join u⟩) (λk W O ⟨M,G,u⟩ e=>⟨M,G,u.ext e⟩) TE ?_
 .have e:([Value.func (.yield l) #[] #[]]++cap).toArray = #[.func (.yield l) #[] #[]]++cap.toArray:=ei
  rw[e]at this
  refine this.mono λx O ⟨v,hx,hv⟩=>⟨v,hx,?_⟩
  rcases hv with⟨M,G,u⟩|⟨c,M,G,u⟩
  .refine⟨.ready,none,ei,?_,?_⟩
   .rw[<- iT,<- Bu];exact u.obj
   exact Wu D M _ G (u.putObj _).drop
  refine⟨.done,some c,ei,u.obj,?_⟩
  rcases OI c M G with⟨id,rfl⟩|rfl
  .exact Wv id D M _ G (u.putObj _).drop
  exact ahF D M _ G (u.putObj _).drop
 intro k args W hk ⟨M,G,u⟩
 refine⟨.inr ⟨l,rfl,?_⟩⟩
 refine hy args W _ (hnp args (kO hk)) u.obj ?_
 refine D1 k args (sep (nE l (.loop U)) (nE D (.deferred (some [])))) (sep (nE l (.loop {U with state:=.busy})) (nE D (.deferred (some [])))) _ _ M W hk G
  (λM E kk h1 h2=>?_) (λM E h1 h2=>?_) (λc M E h1 h2=>?_) (St.join u)
 .have h1:=h1.split
  exact⟨h1.obj,h2 _ (h1.putObj _).join⟩
 .have h1:=h1.split
  refine⟨h1.obj,.inl ⟨rfl,M,h2,?_⟩⟩
  have:=h1.putObj (.loop {U with state:=if (none:Option Code).isNone=true then LoopState.ready else LoopState.done,pending:=none})
  rw[Eh U iT Bu]at this |-
  exact this
 have h1:=h1.split
 exact⟨h1.obj,.inr ⟨rfl,c,M,h2,h1.putObj _⟩⟩
end
section
variable {P:Program}{w w0:World}{A S:Nat->Prop}{L:List HP}
theorem rA{t:Array TypeId}{T:TypeId}{a b:Int}{K:Value->Prop}(k:K (hZ (min a b))):eR P (Builtin.min_ t T [hZ a,hZ b].toArray) K:=by
 refine⟨_,?_,k⟩
 show pr P (Builtin.min2 (hZ a) (hZ b))=_
 unfold Builtin.min2
 by_cases h:b<a
 .simp[h,fQ];omega
 simp[h,fQ];omega
theorem Dk{t:Array TypeId}{T:TypeId}{a b:Int}{K:Value->Prop}(k:K (hZ (max a b))):eR P (Builtin.max_ t T [hZ a,hZ b].toArray) K:=by
 refine⟨_,?_,k⟩
 show pr P (Builtin.max2 (hZ a) (hZ b))=_
 unfold Builtin.max2
 by_cases h:a<b
 .simp[h,fQ];omega
 simp[h,fQ];omega
theorem Lg{α β:Type}[Flat α][Flat β]{T f u:Nat}{p:Value}{x:α}(y:β){K:Value->Prop}(ht:wC P T f u)(h:At S w p x)(B:((j0 x).drop u).take (mv β)=j0 y)
  (k:∀q,At S w q y->K q):eR P (EO T p f) K:=by
 obtain⟨b,o,rfl,h2,h3⟩:=h
 refine aA ht (k _ ⟨b,o+u,rfl,h2,λj c E=>?_⟩)
 grind
end
section
variable {P:Program}{α:Type}[Flat α] {A:Nat->Prop}{w0 w:World}{L:List HP}{xs:List α}
def OJ(α:Type)[Flat α](v:Value)(i u:Nat)(p:Value):Prop:=∃b n c,v=.slice (some ⟨b,0,none⟩) n c/\p=.pointer (some ⟨b,i*mv α+u,none⟩)
theorem my{T f u i:Nat}{v p:Value}{K:Value->Prop}(ht:wC P T f u)(h:GR α v i p)(k:∀q,OJ α v i u q->K q):eR P (EO T p f) K:=by
 obtain⟨b,n,c,h1,rfl⟩:=h
 exact aA ht (k _ ⟨b,n,c,h1,rfl⟩)
theorem nF{β:Type}[Flat β]{T:Nat}{v p:Value}{i u:Nat}{x:α}(y:β){K:Value->Prop}(M:St w0 A (bH v xs::L) w)(ht:dF P T=some (FF β,mv β))(I:OJ α v i u p)(G:xs[i]?=some x)
  (J:((j0 x).drop u).take (mv β)=j0 y) (k:K (ia y)):J8 P (wZ T p) w K:=by
 obtain⟨F,h,_⟩:=M.head
 obtain⟨b,cap,rest,O,hb,U,_⟩:=rL h (kE.1 G).1
 obtain⟨V,n,c,E,rfl⟩:=I
 rw[O]at E
 simp only[x6.injEq,oe.injEq,Addr.mk.injEq]at E
 obtain⟨⟨rfl,_,_⟩,_,_⟩:=E
 refine aD (S:=λ_=>True) ht ⟨b,i*mv α+u,rfl,trivial,λj c B=>hb.cell ?_⟩ k
 rw[<- J,List.getElem?_take]at B
 split at B
 .rw[HZ]at B
  have:=rU G B
  rw[L2,tx (kE.1 this).1];exact this
 cases B
theorem Ww{β:Type}[Flat β]{T:Nat}{v p:Value}{i u:Nat}{K:hM}{x:α}(y:α)(z:β)(Y:St w0 A (bH v xs::L) w)(ht:dF P T=some (FF β,mv β))(hp:OJ α v i u p)(W:xs[i]?=some x)
  (hlen:u+mv β<=mv α) (hy:(j0 x).take u++j0 z++(j0 x).drop (u+mv β)=j0 y)
  (k:∀w',St w0 A (bH v (xs.set i y)::L) w'->K w'):Vf P (IE T p (ia z)) w K:=by
 obtain⟨U,F,U',g1,g2,O,g4,V⟩:=Y.tQ
 have hi:=(kE.1 W).1
 obtain⟨b,cap,rest,Z,hb,M,J⟩:=rL g1 hi
 obtain⟨b',n,c,G,rfl⟩:=hp
 rw[Z]at G
 simp only[x6.injEq,oe.injEq,Addr.mk.injEq]at G
 obtain⟨⟨rfl,_,_⟩,_,_⟩:=G
 have Gf:=zh W
 have N3:(flat (xs.take i)).length=i*mv α:=by rw[dB,l0,Er cK]
 have Lh:i*mv α+mv α<=(flat xs).length:=by
  rw[dB,<- Nat.succ_mul];exact Nat.mul_le_mul_right _ hi
 have hxl:(j0 x).length=mv α:=xM x
 have B:(j0 z).length=mv β:=xM z
 obtain⟨w',h1,h2,h3⟩:=mT (P:=P) (o:=i*mv α+u) (j0 z) 0 (flat xs++rest) w hb (by rw[B,lY];omega) (VA z)
 have Gb:jh (flat xs++rest) (i*mv α+u+0) (j0 z)=flat (xs.set i y)++rest:=by
  have:=mn (flat (xs.take i)++(j0 x).take u) (((j0 x).drop u).take (mv β)) ((j0 x).drop (u+mv β)++flat (xs.drop (i+1))++rest) (j0 z)
   (by rw[B,l0,qa];omega)
  rw[lY,N3,l0,Er cK]at this
  rw[N0,KM y hi,Gf,<- hy]
  have e1:j0 x=(j0 x).take u++((j0 x).drop u).take (mv β)++(j0 x).drop (u+mv β):=by
   rw[<- sW,n3,pJ,pJ]
  have e2:flat (xs.take i)++j0 x++flat (xs.drop (i+1))++rest=flat (xs.take i)++(j0 x).take u++((j0 x).drop u).take (mv β)++((j0 x).drop (u+mv β)++flat (xs.drop (i+1))++rest):=by
   conv=>lhs;rw[e1]
   simp only[n3]
  rw[e2,this]
  simp only[n3]
 rw[Gb]at h2
 refine⟨w',?_,k w' ⟨Y.aG.trans (h3.mono λk I=>(J k).2 I) (λ_ h=>h) λb hb E=>(g2 b E).elim id λhh=>cK,U,F,U',?_,g2,O,g4,
  V.loc λb hb=>(h3.mono λk I=>(J k).2 I).bY b (V.lt b hb) λE=>O b E hb⟩⟩
 .show(storeVar T ⟨b,i*mv α+u,none⟩ (ia z)).run P w=_
  unfold storeVar
  rw[eK (fY (lC ht).2 w),pF]
  simp only[List.size_toArray,xM,ne_eq,not_true_eq_false,if_false]
  exact h1
 refine .inr ⟨b,cap,rest,by rw[FE];exact Z,h2,?_,J⟩
 rw[lY,dB]at M |-;rw[FE];exact M
theorem qg{T:Nat}{b o:Nat}{cs:List Value}(x:α){K:Value->Prop}(ht:dF P T=some (FF α,mv α))(hb:mR w b cs)(B:(cs.drop o).take (mv α)=j0 x)(k:K (ia x)) :
  J8 P (wZ T (.pointer (some ⟨b,o,none⟩))) w K:=by
 refine aD (S:=λ_=>True) ht ⟨b,o,rfl,trivial,λj c u=>hb.cell ?_⟩ k
 grind
end
structure SV where
 a:Option Addr
 n:Nat
 cap:Nat
abbrev bX:SV:=⟨none,0,0⟩
instance:Flat SV where
 agg:=false
 sz:=1
 enc s:=[.slice s.a s.n s.cap]
 val s:=.slice s.a s.n s.cap
 pos:=ee
 len _:=rfl
 one a v h:=by rw[vA.1 h];rfl
 nx h:=by cases h
 nT _ _:=rfl
section
variable {P:Program}{α:Type}[Flat α] {A:Nat->Prop}{w0 w:World}{L L':List HP}{v:Value}
def rows:List SV->List (List α)->HP
 | [],[]=>emp
 | s::ss,x::xs=>sep (bH (ia s) x) (rows ss xs)
 | _,_=>fact False emp
theorem Li:∀{u:List SV}{xs:List (List α)}{F:Nat->Prop},(rows u xs).p w F->u.length=xs.length
 | [],[],_,_=>rfl
 | s::u,x::xs,F,h=>by
  obtain⟨B,E,_,h2,_,_⟩:=h
  rw[oj,oj,Li h2]
 | [],_::_,_,h=>h.1.elim
 | _::_,[],_,h=>h.1.elim
theorem GZ:∀{E:List SV}{xs:List (List α)}{B u F:Nat->Prop}{s:SV}{x:List α},(rows E xs).p w B->(bH (ia s) x).p w u->(∀b,B b->¬ u b)->(∀b,F b↔B b\/u b)->(rows (E++[s]) (xs++[x])).p w F
 | [],[],B,u,F,s,x,h1,h2,_,h4=>by
  refine⟨u,B,h2,h1,λb hb G=>h1 b G,λb=>?_⟩
  grind
 | s'::E,x'::xs,B,u,F,s,x,h1,h2,h3,h4=>by
  obtain⟨O,M,I,J,V,U⟩:=h1
  refine⟨O,λb=>M b\/u b,I,GZ J h2 (λb hb=>h3 b ((U b).2 (.inr hb))) (λb=>Iff.rfl),λb hb=>?_,λb=>?_⟩
  .grind
  grind
 | [],_::_,_,_,_,_,_,h,_,_,_=>h.1.elim
 | _::_,[],_,_,_,_,_,h,_,_,_=>h.1.elim
theorem St.Ax{u:List SV}{xs:List (List α)}(B:St w0 A (rows u xs::L) w):u.length=xs.length:=by
 obtain⟨F,h,_⟩:=B.head;exact Li h
theorem St.ack(u:St w0 A L w):St w0 A (rows [] ([]:List (List α))::L) w:=
 u.new (Ext.refl w) (F:=bD) (λ_ h=>h) λ_ h=>h.elim
theorem St.Ei{u:List SV}{xs:List (List α)}{s:SV}{x:List α}(E:St w0 A (rows u xs::bH (ia s) x::L) w):St w0 A (rows (u++[s]) (xs++[x])::L) w:=by
 have h:=St.join E
 refine h.ry λF B=>?_
 obtain⟨G,I,h1,h2,h3,h4⟩:=B
 exact⟨F,GZ h1 h2 h3 h4,λb hb=>.inl hb,gu.refl _ _⟩
theorem St.fI{xs:List α}(u:St w0 A (bH v xs::L) w):∃s:SV,v=ia s:=by
 obtain⟨F,h,_⟩:=u.head
 rcases h with⟨rfl,_⟩|⟨b,cap,_,rfl,_⟩
 .exact⟨⟨none,0,0⟩,rfl⟩
 exact⟨⟨_,_,_⟩,rfl⟩
theorem dA.fI{S:Nat->Prop}{xs:List α}(h:dA S w v xs):∃s:SV,v=ia s:=by
 obtain⟨a,cap,rfl,_⟩:=h;exact⟨⟨_,_,_⟩,rfl⟩
def au2(w:World)(v:Value)(xs:List (List α)):Prop:=
 ∃u:List SV,dA (λ_=>True) w v u/\u.length=xs.length/\∀(i:Nat) (s:SV) (x:List α),u[i]?=some s->xs[i]?=some x->dA (λ_=>True) w (ia s) x
end
section
variable {P:Program}
theorem jP{α:Type}[Flat α]{S:Nat->Prop}{w:World}{xs:List α}{T E G:Nat}{z:Option Nat}{v:Value}{i:Int}{K:Value->Prop}(ht:eN P T=some (E,mv α,G,z))(B:dA S w v xs)(I:0<=i)(h2:i<=xs.length)
  (k:∀u,(∀w',dA S w' v xs->dA S w' u (xs.take i.toNat))->K u):eR P (n4 T v none (some (hZ i)) none) K:=by
 obtain⟨a,cap,rfl,J,h3⟩:=B
 refine⟨_,wD ht (oq (.inl ⟨rfl,rfl⟩) (.inr ⟨i,rfl,I,rfl⟩) (l1 _) cK),k _ λw' h=>?_⟩
 have:=h.cut rfl (l1 i.toNat) cK
 grind
end
open Go.ChangeShapes Go.WideShapes Go.ChangeAt Go.RowKit
structure RdT(P:Program)(t:TypeId)(α:Type)[Flat α](φ:α->Prop):Prop where
 cells:P.cellsOf t=mv α
 rd:∀{H:Type}(enc:TypeId×Value->H) (w:World) (base:Nat) (sp:Nat->Bool) (held:Bool) (fuel:Nat) (cs:List Value) (x:DataW H×List MemPlace),
  DataW.trod enc P w base sp held fuel t cs=some x->∃a:α,cs=j0 a/\φ a
def eU(n:Int):Prop:=-9223372036854775808<=n/\n<=9223372036854775807
def ahG{P:Program}{t:TypeId}(ht:P.underlying t=some (.int .i64))(hc:P.cellsOf t=1):RdT P t Int eU:=
 ⟨hc,λenc w base u held fuel cs x h=>by
  obtain⟨n,h1,_,h3⟩:=DataW.trod_int ht h
  refine⟨n,h1,?_⟩
  simpa[Lit.wf,IntKind.min,IntKind.max,IntKind.signed,IntKind.bits,eU]using h3⟩
def ahH{P:Program}{t:TypeId}(ht:P.underlying t=some .string)(hc:P.cellsOf t=1):RdT P t ByteArray (λs=>s.size<=maxLen):=
 ⟨hc,λenc w base u held fuel cs x h=>by
  obtain⟨n,h1,_,h2⟩:=DataW.trod_string ht h
  exact⟨n,h1,h2⟩⟩
def nV{H:Type}{enc:TypeId×Value->H}{P:Program}{w:World}{base:Nat}{u:Nat->Bool}{held:Bool}{fuel:Nat}{t:TypeId}{B:Array Field}{cs:List Value}{x:DataW H×List MemPlace}
  (ht:P.underlying t=some (.struct B)) (h:DataW.trod enc P w base u held fuel t cs=some x) :
  cs.length=P.cellsOf t/\∃n,∀(i:Nat) (f:Field),B[i]?=some f->∃y,DataW.trod enc P w base u held n f.type ((cs.drop f.offset).take (P.cellsOf f.type))=some y:=by
 obtain⟨xs,n,_,_,E,J,G⟩:=DataW.trod_struct ht h
 refine⟨E,n,λi f hi=>?_⟩
 have I:i<xs.length:=by rw[J];exact(Array.getElem?_eq_some_iff.1 hi).1
 exact⟨xs[i],by rw[G i f hi,la I]⟩
def ef{cs:List Value}{o s:Nat}{r:List Value}(h:(cs.drop o).take s=r):cs.drop o=r++cs.drop (o+s):=by
 rw[<- h,<- sW,pJ]
theorem acm{α:Type}{p:Nat->α->Prop}:∀n,(∀i,i<n->∃x,p i x)->∃xs:List α,xs.length=n/\∀i x,xs[i]?=some x->p i x:=by
 intro n
 induction n with
 | zero=>simp_all
 | succ n u=>
  intro h
  obtain⟨xs,h1,h2⟩:=u λi hi=>h i cK
  obtain⟨x,B⟩:=h n cK
  refine⟨xs++[x],by simp[h1],λi y E=>?_⟩
  grind
def OK{α:Type}[Flat α]{xs:List α}{j:Nat}{c:Value}(h:(flat xs)[j]?=some c):∃i r x,xs[i]?=some x/\(j0 x)[r]?=some c/\j=i*mv α+r:=by
 have E:j<(flat xs).length:=(kE.1 h).1
 rw[dB]at E
 have B:0<mv α:=V1
 have hi:j / mv α<xs.length:=Nat.div_lt_of_lt_mul dD
 have u:j % mv α<mv α:=aau _ B
 have I:j=j / mv α*mv α+j % mv α:=by rw[Nat.mul_comm];exact(Nat.div_add_mod _ _).symm
 have G:xs[j / mv α]?=some (xs[j / mv α]):=la hi
 have hc:(j0 (xs[j / mv α]))[j % mv α]?=some ((j0 (xs[j / mv α]))[j % mv α]'(by rw[xM];exact u)):=la _
 have:=rU G hc
 grind
section
variable {H:Type}{enc:TypeId×Value->H}{P:Program}{w:World}{base:Nat}{held:Bool}
def IV(P:Program)(ts:List TypeId):Bool:=ts.all λt=>P.readableRec t&&decide (t<P.types.size)
theorem yJ(E:laidOutB P=true){W I:World}(hb:Below W.heap.size W I){G:Nat->Bool}:∀{ts:List TypeId}{vs:List Value}{ds:List (DataW H)}{ps:List MemPlace},IV P ts=true->(∀x∈ps,x.block<W.heap.size)->
  (∀x∈ps,G x.block=true)->DataW.TrodAll enc P W 0 (λ_=>true) true ts vs ds ps->DataW.TrodAll enc P I 0 G true ts vs ds ps
 | [],vs,ds,ps,_,_,_,h=>by obtain⟨rfl,rfl,rfl⟩:=trodAll_nil h;exact trodAll_mk0
 | t::ts,vs,ds,ps,hr,nO,Gf,h=>by
  obtain⟨v,J,d,M,a,b,rfl,rfl,rfl,h1,h2⟩:=trodAll_cons h
  have B:P.readableRec t=true/\t<P.types.size/\IV P ts=true:=by
   grind[IV]
  refine trodAll_cons_mk (WideElems.Trod_stays E B.1 B.2.1 h1 (λx u=>hb.same (nO x (List.mem_append_left _ u))) λx u=>Gf x (List.mem_append_left _ u)) ?_
  exact yJ E hb B.2.2 (λx u=>nO x (List.mem_append_right _ u)) (λx u=>Gf x (List.mem_append_right _ u)) h2
theorem post_true{f:Func}{s:ChangeSpec}{apart fresh handsOn again:Bool}{W I:World}{args:Array Value}{ds gs:List (DataW H)}{before:List MemPlace}{tb:TypeId}
  (J:s.vars=[]) (hfn:∀ds:List (DataW H),ds.length=f.params.size->s.fn H ds={results:=[.lit (.bool true)],args:=ds}) (U:f.resultTypes = #[tb]) (Y:P.underlying tb=some .bool)
  (hl:laidOutB P=true) (ahI:IV P f.params.toList=true)
  (hW:DataW.Whole enc P f.params.toList s.vars apart W args.toList ds gs before) (hb:Below W.heap.size W I) :
  s.post enc P f apart fresh handsOn again W args (.bool true) I:=by
 have O:=hW
 obtain⟨p,q,hA,hV,V,hz,hn⟩:=hW
 have nO:∀x∈before,x.block<W.heap.size:=O.lt
 rw[J]at hV
 obtain⟨rfl,rfl⟩:=trodVars_none hV
 simp only[o6]at V
 have hlen:ds.length=f.params.size:=by
  have:=(trodAll_length hA).2
  omega
 have G:=hfn ds hlen
 have M:∀(b:Nat) (B:Nat->Bool) (hd:Bool),DataW.TrodAll enc P I b B hd f.resultTypes.toList ((wA true).resultList f.resultTypes.size) (s.fn H (ds++[])).results []:=λb B hd=>by
  rw[o6,G,U]
  exact trodAll_mk1 (shut_bool Y true)
 have u:∀B:Nat->Bool,(∀p∈before,B p.block=true)->DataW.TrodAll enc P I 0 B true f.params.toList args.toList (s.fn H (ds++[])).args before:=λB Gf=>by
  rw[o6,G]
  rw[V]at nO Gf |-
  exact yJ hl hb ahI nO Gf hA
 have Wx:∀B:Nat->Bool,DataW.TrodVars enc P I B s.vars (s.fn H (ds++[])).vars []:=λB=>by
  rw[o6,G,J];rfl
 have kC:∀(j:Nat) (t:TypeId) (r:Value),f.resultTypes[j]?=some t->((wA true).resultList f.resultTypes.size)[j]?=some r->Ln P I .any 0 t r:=
  ok_one U rfl (okWide_bool_mk Y true)
 have hold:∀p∈before,(λb=>decide (b<W.heap.size)) p.block=true:=λp hp=>dD
 refine⟨ds,[],before,[],before,[],O,M _ _ _,u _ hold,Wx _,World.keptBut_mono (λp hp=>⟨hp,?_⟩) (hb.frame (·∈before)),λ_=>?_⟩
 .grind
 refine⟨kC,_,_,([]++before)++[],⟨[]++before,[],trodAll_append (u _ λ_ _=>rfl) (M _ _ _),Wx _,rfl,?_,?_⟩,?_⟩
 .intro b E hp
  have Z:MemPlace.cell b E∈before:=dD
  rw[hb.frozen (p:=⟨b,E,none⟩) (nO _ Z)]
  exact hz b E Z
 .grind
 grind
end
section
variable {P:Program}{α:Type}[Flat α]
def ahK(P:Program)(T n E:Nat):Prop:=P.underlying T=some (.array n E)/\pr P (sizeOf E)=some 1
theorem jV{T E n b o:Nat}{i:Int}{K:Value->Prop}(h:ahK P T n E)(u:0<=i)(h1:i<n)(k:K (.pointer (some ⟨b,o+i.toNat,none⟩))) :
  eR P (ES T (.pointer (some ⟨b,o,none⟩)) (hZ i)) K:=by
 refine⟨_,?_,k⟩
 unfold ES
 have B:pr P (underlying T)=some (.array n E):=cZ h.1
 have G:pr P (Instr.sureAddr (.pointer (some (⟨b,o,none⟩:Addr))))=some ⟨b,o,none⟩:=rfl
 simp only[asIntOf,cX,B,mO,fQ,G]
 simp only[ew (show 0<=i/\i<(n:Int)from⟨u,h1⟩),cX,h.2,mO,fQ,gE,Nat.mul_one]
theorem open_arr{H:Type}{enc:TypeId×Value->H}{w:World}{base:Nat}{held:Bool}{φ:α->Prop}{t:TypeId}{n:Nat}{e:TypeId}{r:Reach}{J:Nat}{v:Value}{d:DataW H}{ps:List MemPlace}{E:Nat->Bool}(ht:P.underlying t=some (.array n e))(M:FF α=true)
  (G:RdT P t α φ) (u:Ln P w r J t v) (O:DataW.Trod enc P w base E held t v d ps):∃x:α,v=ia x/\φ x:=by
 obtain⟨fuel,B⟩:=O
 obtain⟨x,U,I⟩:=G.rd enc w base _ held fuel _ _ B
 unfold Ln at u
 rw[ht]at u
 obtain⟨cs,rfl,_⟩:=u
 refine⟨x,?_,I⟩
 rw[aam M,<- U]
 simp[SK]
end
def RD{α:Type}[Flat α]{P:Program}{w w0:World}{A:Nat->Prop}{L:List HP}{xs:List α}{T:Nat}{v p:Value}{i:Nat}{x:α}(I:St w0 A (bH v xs::L) w)(ht:dF P T=some (FF α,mv α))(E:GR α v i p)(B:xs[i]?=some x) :
  (wZ T p).run P w=.ok (ia x) w:=by
 obtain⟨F,h,_⟩:=I.head
 obtain⟨b,cap,rest,J,hb,M,_⟩:=rL h (kE.1 B).1
 obtain⟨O,n,c,u,rfl⟩:=E
 rw[J]at u
 simp only[x6.injEq,oe.injEq,Addr.mk.injEq]at u
 obtain⟨⟨rfl,_,_⟩,_,_⟩:=u
 refine eH (S:=λ_=>True) ht ⟨b,i*mv α,rfl,trivial,λj c G=>hb.cell ?_⟩
 have:=rU B G
 rw[tx (kE.1 this).1];exact this
class Deep (α:Type) (σ:outParam Type) [Flat σ] where
 dr:World->σ->α->Prop
 ext:∀{w w':World}{s:σ}{x:α},dr w s x->Ext w w'->dr w' s x
def DL{α σ:Type}[Flat σ][Deep α σ](w:World)(v:Value)(xs:List α):Prop:=
 ∃ts:List σ,dA (λ_=>True) w v ts/\ts.length=xs.length/\∀(i:Nat) (t:σ) (x:α),ts[i]?=some t->xs[i]?=some x->Deep.dr w t x
section
variable {P:Program}{α σ:Type}[Flat σ] [Deep α σ] {w w' w0:World}{v:Value}{A:Nat->Prop}{L:List HP}
theorem DL.ext{xs:List α}(h:DL w v xs)(e:Ext w w'):DL w' v xs:=by
 obtain⟨ts,h1,h2,h3⟩:=h;exact⟨ts,h1.ext e,h2,λi t x a b=>Deep.ext (h3 i t x a b) e⟩
theorem DL.nil(w:World):DL w (.slice none 0 0) ([]:List α):=⟨[],dA.nil _ _,rfl,λi t x h=>by simp at h⟩
theorem DL.fI{xs:List α}(h:DL w v xs):∃s:SV,v=ia s:=by obtain⟨_,h,_⟩:=h;exact h.fI
instance:Deep (List α) SV where
 dr w s xs:=DL w (ia s) xs
 ext h e:=DL.ext h e
def eG(Φ:hM):HP where
 p w F:=(∀w':World,(∀b,F b->w'.heap[b]?=w.heap[b]?)->Φ w')/\∀b,F b->b<w.heap.size
 loc w w' F h hh:=⟨λu h2=>h.1 u λb hb=>(h2 b hb).trans (hh b hb),λb hb=>by
  grind⟩
 lt w F b h hb:=h.2 b hb
theorem eG.now{Φ:hM}{F:Nat->Prop}(h:(eG Φ).p w F):Φ w:=h.1 w λ_ _=>rfl
theorem St.eG{Φ:hM}(u:St w0 A (eG Φ::L) w):Φ w:=by obtain⟨F,h,_⟩:=u.head;exact eG.now h
theorem St.dM{Φ Ψ:hM}(B:St w0 A (Fw.eG Φ::L) w)(E:∀w,Φ w->Ψ w):St w0 A (Fw.eG Ψ::L) w:=
 B.ry λF u=>⟨F,⟨λw' h=>E _ (u.1 w' h),u.2⟩,λb hb=>.inl hb,gu.refl _ _⟩
theorem St.gZ{Φ Ψ:hM}(E:St w0 A (Fw.eG Φ::Fw.eG Ψ::L) w):St w0 A (Fw.eG (λw=>Φ w/\Ψ w)::L) w:=by
 have h:=St.join E
 refine h.ry λF B=>?_
 obtain⟨G,I,h1,h2,h3,h4⟩:=B
 refine⟨F,⟨λw' u=>⟨h1.1 w' λb hb=>u b ((h4 b).2 (.inl hb)),h2.1 w' λb hb=>u b ((h4 b).2 (.inr hb))⟩,λb hb=>?_⟩,λb hb=>.inl hb,gu.refl _ _⟩
 rcases(h4 b).1 hb with hb|hb
 .exact h1.2 b hb
 exact h2.2 b hb
theorem St.fy{Φ:hM}(u:St w0 A L w)(h:∀w,Φ w):St w0 A (Fw.eG Φ::L) w:=
 u.new (Ext.refl w) (F:=bD) ⟨λw' _=>h w',λb hb=>hb.elim⟩ λ_ h=>h.elim
theorem St.freeze{xs:List σ}(B:St w0 A (bH v xs::L) w):St w0 A (Fw.eG (λw=>dA (λ_=>True) w v xs)::L) w:=
 B.ry λF u=>⟨F,⟨λw' h=>(bH.rd ((bH v xs).loc _ _ _ u h)).mono λ_ _=>trivial,λb hb=>(bH v xs).lt _ _ _ u hb⟩,λb hb=>.inl hb,gu.refl _ _⟩
theorem St.rM{b:Nat}{cs:List Value}(E:St w0 A (bY b cs::L) w):St w0 A (Fw.eG (λw=>mR w b cs)::L) w:=
 E.ry λF u=>⟨F,⟨λw' h=>((bY b cs).loc _ _ _ u h).1,λk B=>(bY b cs).lt _ _ _ u B⟩,λb hb=>.inl hb,gu.refl _ _⟩
def gM(ts:List σ)(xs:List α)(w:World):Prop:=ts.length=xs.length/\∀(i:Nat) (t:σ) (x:α),ts[i]?=some t->xs[i]?=some x->Deep.dr w t x
theorem gM.nil:gM ([]:List σ) ([]:List α) w:=⟨rfl,λi t x h=>by simp at h⟩
theorem gM.snoc{ts:List σ}{xs:List α}{t:σ}{x:α}(h:gM ts xs w)(ht:Deep.dr w t x):gM (ts++[t]) (xs++[x]) w:=by
 grind[gM]
theorem gM.append{ts us:List σ}{xs ys:List α}(h:gM ts xs w)(g:gM us ys w):gM (ts++us) (xs++ys) w:=by
 grind[gM]
theorem gM.ext{ts:List σ}{xs:List α}(h:gM ts xs w)(e:Ext w w'):gM ts xs w':=⟨h.1,λi t x a b=>Deep.ext (h.2 i t x a b) e⟩
theorem DL.of{ts:List σ}{xs:List α}(h:dA (λ_=>True) w v ts)(g:gM ts xs w):DL w v xs:=⟨ts,h,g.1,g.2⟩
theorem DL.open{xs:List α}(h:DL w v xs):∃ts:List σ,dA (λ_=>True) w v ts/\gM ts xs w:=by obtain⟨ts,h1,h2,h3⟩:=h;exact⟨ts,h1,h2,h3⟩
theorem gM.take{ts:List σ}{xs:List α}(h:gM ts xs w)(k:Nat):gM (ts.take k) (xs.take k) w:=by
 grind[gM]
theorem gM.drop{ts:List σ}{xs:List α}(h:gM ts xs w)(k:Nat):gM (ts.drop k) (xs.drop k) w:=by
 grind[gM]
end
section
variable {α:Type}[Flat α]
abbrev jd:Deep α α:=⟨λ_ s x=>s=x,λh _=>h⟩
theorem G0[D:Deep α α](hD:∀w s x,D.dr w s x↔s=x){w:World}{ts xs:List α}:gM ts xs w↔ts=xs:=by
 constructor
 .rintro⟨h1,h2⟩
  refine List.ext_getElem? λi=>?_
  grind
 grind[gM]
end
instance:Deep Int Int:=jd
instance:Deep Bool Bool:=jd
instance:Deep ByteArray ByteArray:=jd
structure RdW(P:Program)(w:World)(t:TypeId)(α:Type)[Flat α](φ:α->Prop):Prop where
 cells:P.cellsOf t=mv α
 rd:∀{H:Type}(enc:TypeId×Value->H) (base:Nat) (held:Bool) (fuel:Nat) (cs:List Value) (x:DataW H×List MemPlace),
  DataW.trod enc P w base (λ_=>true) held fuel t cs=some x->∃a:α,cs=j0 a/\φ a
def zj(P:Program)(t:TypeId)(α:Type){σ:Type}[Flat σ][Deep α σ](φ:α->Prop):Prop:=∀w,RdW P w t σ (λs=>∃a:α,Deep.dr w s a/\φ a)
def RdT.deep{P:Program}{t:TypeId}{α:Type}[Flat α][D:Deep α α]{φ:α->Prop}(h:RdT P t α φ)(hD:∀w (x:α),D.dr w x x):zj P t α φ:=
 λw=>⟨h.cells,λenc base held fuel cs x u=>by
  obtain⟨a,h1,h2⟩:=h.rd enc w base _ held fuel cs x u;exact⟨a,h1,a,hD w a,h2⟩⟩
section
variable {H:Type}{enc:TypeId×Value->H}{P:Program}{w:World}{base:Nat}{held:Bool}
theorem Lj{α:Type}[Flat α]{φ:α->Prop}{t e:TypeId}{fuel:Nat}{cs:List Value}{x:DataW H×List MemPlace}(ht:P.underlying t=some (.slice e))(O:RdW P w e α φ)
  (h:DataW.trod enc P w base (λ_=>true) held fuel t cs=some x):∃v,cs=[v]/\∃xs:List α,dA (λb=>b<w.heap.size) w v xs/\∀x∈xs,φ x:=by
 rcases DataW.trod_slice ht h with⟨rfl,_⟩|⟨a,len,cap,elems,rest,n,_,rfl,_,hb,hl,hm,hlen,Z,Y,_⟩
 .exact⟨_,rfl,[],dA.nil _ _,ei⟩
 refine⟨_,rfl,?_⟩
 have get:∀i,i<len->∃x:α,φ x/\w.cells? base (a.add (i*P.cellsOf e)) (P.cellsOf e)=some (j0 x):=by
  intro i hi
  have h1:=Z i hi
  rw[la cK]at h1
  obtain⟨cs',h2,h3⟩:=Nd.1 h1
  obtain⟨x,rfl,G⟩:=O.rd enc base held n cs' _ h3
  grind
 obtain⟨xs,J,I⟩:=acm len get
 have U:=O.cells
 have V:0<mv α:=V1
 have first:∀(c:Nat) (cs':List Value),w.cells? base (a.add (c*P.cellsOf e)) (P.cellsOf e)=some cs'->c=0->a.spot=none:=by
  intro c cs' h1 E
  subst E
  have:=WC h1
  have h2:=this.2.2 0 cK
  rw[Nat.zero_mul]at h2
  have h3:w.cell? a=cs'[0]?:=by simpa[Addr.add]using h2
  rw[la cK]at h3
  unfold World.cell? at h3
  split at h3
  .simp_all
  .cases h3
 refine⟨xs,⟨some a,cap,by rw[J],cK,?_⟩,λx G=>?_⟩
 .by_cases Cv:cap=0
  .simp_all
  right
  have B:a.spot=none:=by
   by_cases E:0<len
   .grind
   .obtain⟨h1,h2⟩:=Y rfl
    have h3:=h2 0 cK
    rw[la cK]at h3
    obtain⟨cs',h4,_⟩:=Nd.1 h3
    grind
  have u:∀j c,(flat xs)[j]?=some c->Cell w a.block (a.off+j) c:=by
   intro j c hj
   obtain⟨i,r,x,G,M,rfl⟩:=OK hj
   have h1:=(WC (I i x G).2).2.2 r (by rw[U];have:=(kE.1 M).1;rwa [xM]at this)
   rw[M,U]at h1
   obtain⟨b,o,s⟩:=a
   simp only at B
   subst B
   unfold Cell
   rw[<- h1,gE,gE,L2]
  refine⟨a.block,a.off,by obtain⟨b,o,s⟩:=a;grind,λW=>?_,u⟩
  obtain⟨y,ys,rfl⟩:=List.exists_cons_of_ne_nil W
  have E:(flat (y::ys))[0]?=some ((j0 y)[0]'(by rw[xM];exact V)):=by
   rw[kL,tx (by rw[xM];exact V),la]
  exact(u 0 _ E).lt
 obtain⟨i,hi⟩:=List.getElem?_of_mem G
 grind
theorem OL{α σ:Type}[Flat σ][Deep α σ]{φ:α->Prop}:∀(ts:List σ),(∀s∈ts,∃a:α,Deep.dr w s a/\φ a)->∃xs:List α,gM ts xs w/\∀x∈xs,φ x
 | [],_=>⟨[],gM.nil,ei⟩
 | t::ts,h=>by
  obtain⟨a,h1,h2⟩:=h t ei
  obtain⟨xs,h3,h4⟩:=OL ts λs u=>h s (List.mem_cons_of_mem _ u)
  refine⟨a::xs,?_,λx B=>?_⟩
  .grind[gM]
  grind
theorem zj.slice{α σ:Type}[Flat σ][Deep α σ]{φ:α->Prop}{t e:TypeId}(ht:P.underlying t=some (.slice e))(hc:P.cellsOf t=1)(B:zj P e α φ):zj P t (List α) (λxs=>∀x∈xs,φ x):=
 λw=>⟨hc,λenc base held fuel cs x E=>by
  obtain⟨v,rfl,ts,h1,h2⟩:=Lj ht (B w) E
  obtain⟨xs,h3,h4⟩:=OL ts h2
  have u:dA (λ_=>True) w v ts:=h1.mono λ_ _=>trivial
  obtain⟨s,rfl⟩:=u.fI
  exact⟨s,rfl,xs,DL.of u h3,h4⟩⟩
theorem open_dl{α σ:Type}[Flat σ][Deep α σ]{φ:α->Prop}{t e:TypeId}{r:Reach}{E:Nat}{v:Value}{d:DataW H}{ps:List MemPlace}(ht:P.underlying t=some (.slice e))(J:zj P e α φ)
  (B:Ln P w r E t v) (M:DataW.Trod enc P w base (λ_=>true) held t v d ps):∃xs:List α,DL w v xs/\∀x∈xs,φ x:=by
 obtain⟨fuel,I⟩:=M
 obtain⟨u,G,ts,h1,h2⟩:=Lj ht (J w) I
 have O:v=u:=by
  have h1:=B
  unfold Ln at h1
  rw[ht]at h1
  cases v with
  | slice a n c=>exact(List.cons.inj (show [x6 a n c]=[u]from G)).1
  | _=>
   have h2:Cell.okWide P w r E t _:=h1
   unfold Cell.okWide at h2
   rw[ht]at h2
   simp only[Cell.ok,ht]at h2
 subst O
 obtain⟨xs,h3,h4⟩:=OL ts h2
 exact⟨xs,DL.of (h1.mono λ_ _=>trivial) h3,h4⟩
theorem open_dst{α σ:Type}[Flat σ][Deep α σ]{φ:α->Prop}{t:TypeId}{G:Array Field}{r:Reach}{I:Nat}{v:Value}{d:DataW H}{ps:List MemPlace}(ht:P.underlying t=some (.struct G))(J:FF σ=true)
  (E:zj P t α φ) (u:Ln P w r I t v) (M:DataW.Trod enc P w base (λ_=>true) held t v d ps):∃(s:σ) (x:α),v=ia s/\Deep.dr w s x/\φ x:=by
 obtain⟨fuel,B⟩:=M
 obtain⟨s,O,x,h1,h2⟩:=(E w).rd enc base held fuel _ _ B
 unfold Ln at u
 rw[ht]at u
 obtain⟨cs,rfl,_⟩:=u
 refine⟨s,x,?_,h1,h2⟩
 rw[aam J,<- O]
 simp[SK]
end
def Bv(x:Int):Int:=IntKind.i64.wrap x
theorem zn{x:Int}(h : -9223372036854775808<=x/\x<=9223372036854775807):Bv x=x:=IntWalk.i64_in _ h
section
variable {P:Program}{T:Nat}{cx cy:Bool}{a b:Int}{K:Value->Prop}
theorem uE(k:K (hZ (Bv (a+b)))):eR P (kj .add T cx cy (hZ a) (hZ b)) K:=⟨_,rfl,k⟩
theorem Ay(k:K (hZ (Bv (a-b)))):eR P (kj .sub T cx cy (hZ a) (hZ b)) K:=⟨_,rfl,k⟩
theorem wO(k:K (hZ (Bv (a*b)))):eR P (kj .mul T cx cy (hZ a) (hZ b)) K:=⟨_,rfl,k⟩
theorem Wy(k:K (hZ (Bv (0-a)))):eR P (Op.unary .neg (hZ a)) K:=⟨_,rfl,k⟩
theorem Ej(h:b≠0)(k:K (hZ (Bv (a.tdiv b)))):eR P (kj .quo T cx cy (hZ a) (hZ b)) K:=by
 refine⟨_,?_,k⟩
 show pr P (Op.intDiv .quo .i64 a b)=_
 unfold Op.intDiv
 rw[ej h];rfl
theorem Wz(h:b≠0)(k:K (hZ (a.tmod b))):eR P (kj .rem T cx cy (hZ a) (hZ b)) K:=by
 refine⟨_,?_,k⟩
 show pr P (Op.intDiv .rem .i64 a b)=_
 unfold Op.intDiv
 rw[ej h];rfl
end
def sf{α:Type}[Flat α]{P:Program}{w w0:World}{A:Nat->Prop}{L:List HP}{xs:List α}{T E V:Nat}{z:Option Nat}{v:Value}{i:Int}{K:Value->Prop}(ht:eN P T=some (E,mv α,V,z))
  (M:St w0 A (bH v xs::L) w) (W:0<=i) (h1:i<=xs.length) (k:∀J,St w0 A (bH J (xs.take i.toNat)::L) w->K J):eR P (n4 T v none (some (hZ i)) none) K:=by
 obtain⟨a,cap,u,Af,_⟩:=M.dX
 refine⟨_,(by rw[u];exact wD ht (oq (.inl ⟨rfl,rfl⟩) (.inr ⟨i,rfl,W,rfl⟩) (l1 _) cK)),k _ ?_⟩
 refine M.ry λF G=>?_
 rcases G with⟨B,Y,Z⟩|⟨b,CV,rest,U,hb,I,G⟩
 .rw[B]at u
  subst Y
  simp only[x6.injEq]at u
  obtain⟨rfl,_,rfl⟩:=u
  have hi:i.toNat=0:=by simp at h1;omega
  refine⟨F,.inl ⟨?_,ei,Z⟩,λb hb=>.inl hb,gu.refl _ _⟩
  rw[hi];rfl
 rw[U]at u
 simp only[x6.injEq]at u
 obtain⟨rfl,_,rfl⟩:=u
 refine⟨F,.inr ⟨b,CV,flat (xs.drop i.toNat)++rest,?_,?_,?_,G⟩,λb hb=>.inl hb,gu.refl _ _⟩
 .have O:(xs.take i.toNat).length=i.toNat:=by rw[l0];omega
  rw[O]
  simp[gE]
 .rw[<- n3,<- gF,pJ];exact hb
 exact⟨wc (by rw[l0];omega) I.1,by rw[<- n3,<- gF,pJ];exact I.2⟩
section
variable {P:Program}{w w':World}{v:Value}
theorem DL.flat{α:Type}[Flat α][D:Deep α α]{xs:List α}(h:DL w v xs)(hD:∀w s x,D.dr w s x↔s=x:=by intros;exact Iff.rfl):dA (λ_=>True) w v xs:=by
 obtain⟨ts,h1,h2⟩:=h.open
 rw[(G0 hD).1 h2]at h1;exact h1
theorem DL.j1{α:Type}[Flat α][D:Deep α α]{xs:List α}(h:dA (λ_=>True) w v xs)(hD:∀w s x,D.dr w s x↔s=x:=by intros;exact Iff.rfl):DL w v xs:=DL.of h ((G0 hD).2 rfl)
theorem Lk{α:Type}[Flat α]{S:Nat->Prop}{xs:List α}{T E J:Nat}{z:Option Nat}{lo hi:Option Value}{l h:Nat}{K:Value->Prop}(ht:eN P T=some (E,mv α,J,z))(I:dA S w v xs)
  (G:lo=none/\l=0\/∃i:Int,lo=some (hZ i)/\0<=i/\l=i.toNat) (M:hi=none/\h=xs.length\/∃i:Int,hi=some (hZ i)/\0<=i/\h=i.toNat)
  (h1:l<=h) (h2:h<=xs.length) (k:∀u,(∀w',dA S w' v xs->dA S w' u ((xs.take h).drop l))->K u):eR P (n4 T v lo hi none) K:=by
 obtain⟨a,cap,rfl,O,h3⟩:=I
 exact⟨_,wD ht (oq G M h1 cK),k _ λw' B=>B.cut rfl h1 h2⟩
theorem zo{α:Type}[Flat α]{S:Nat->Prop}{xs:List α}{T E G:Nat}{z:Option Nat}{i:Int}{K:Value->Prop}(ht:eN P T=some (E,mv α,G,z))(B:dA S w v xs)
  (I:0<=i) (h2:i<=xs.length) (k:∀u,(∀w',dA S w' v xs->dA S w' u (xs.drop i.toNat))->K u):eR P (n4 T v (some (hZ i)) none none) K:=
 Lk ht B (.inr ⟨i,rfl,I,rfl⟩) (.inl ⟨rfl,rfl⟩) cK (o1 _) λu h=>k u λw' J=>dD
theorem ox{α:Type}[Flat α]{S:Nat->Prop}{xs:List α}{T E G:Nat}{z:Option Nat}{i j:Int}{K:Value->Prop}(ht:eN P T=some (E,mv α,G,z))(B:dA S w v xs)
  (I:0<=i) (h1:i<=j) (h2:j<=xs.length) (k:∀u,(∀w',dA S w' v xs->dA S w' u ((xs.take j.toNat).drop i.toNat))->K u):eR P (n4 T v (some (hZ i)) (some (hZ j)) none) K:=
 Lk ht B (.inr ⟨i,rfl,I,rfl⟩) (.inr ⟨j,rfl,cK,rfl⟩) cK cK k
theorem DL.cut{α σ:Type}[Flat σ][Deep α σ]{xs:List α}{ts:List σ}{u:Value}{l h:Nat}(B:∀w',dA (λ_=>True) w' v ts->dA (λ_=>True) w' u ((ts.take h).drop l))(E:dA (λ_=>True) w v ts)(hD:gM ts xs w):DL w u ((xs.take h).drop l):=
 DL.of (B w E) ((hD.take h).drop l)
theorem DL.WA{α σ:Type}[Flat σ][Deep α σ]{xs:List α}{ts:List σ}{u:Value}{l:Nat}(B:∀w',dA (λ_=>True) w' v ts->dA (λ_=>True) w' u (ts.drop l))(E:dA (λ_=>True) w v ts)(hD:gM ts xs w):DL w u (xs.drop l):=
 DL.of (B w E) (hD.drop l)
theorem Ek{a b:ByteArray}:(a.toList == b.toList)=decide (a=b):=by
 rw[ByteArray.toList_eq,ByteArray.toList_eq,Bool.eq_iff_iff,beq_iff_eq,decide_eq_true_eq]
 constructor
 .intro h
  obtain⟨a⟩:=a
  simp_all
 grind
theorem jG{T:Nat}{cx cy:Bool}{a b:ByteArray}{K:Value->Prop}(k:K (.bool (decide (a=b)))):eR P (kj .eql T cx cy (.string a) (.string b)) K:=by
 rw[<- Ek]at k
 exact⟨_,rfl,k⟩
theorem l6{T:Nat}{cx cy:Bool}{a b:ByteArray}{K:Value->Prop}(k:K (.bool (decide (¬ a=b)))):eR P (kj .neq T cx cy (.string a) (.string b)) K:=by
 refine⟨_,rfl,?_⟩
 have:(!(a.toList == b.toList))=decide (¬ a=b):=by rw[Ek];grind
 grind
end
def iN(s:ByteArray):List UInt8:=s.data.toList
theorem eV(s:ByteArray):(iN s).length=s.size:=by simp_all[iN]
theorem RE(s:ByteArray)(i:Nat):(iN s)[i]?=if h:i<s.size then some (s[i]'h)else none:=by
 unfold iN
 by_cases h:i<s.size
 .rw[dif_pos h,Array.getElem?_toList]
  exact Array.getElem?_eq_getElem h
 simp_all
section
variable {P:Program}{T R:Nat}{cx cy:Bool}{a b:Int}{K:Value->Prop}
theorem fh{s:ByteArray}(u:P.underlying T=some .string)(k:K (hZ (s.size:Int))):eR P (Builtin.len_ #[T] R [Fa s].toArray) K:=by
 refine⟨_,?_,k⟩
 show pr P (do
  match <- underlying T,Fa s with
  | .string,.string s=>pure (goInt s.size)
  | .array n _,_=>pure (goInt n)
  | .pointer arr,_=>
   let .array n _ <- underlying arr|stuck "len: pointer to array expected"
   pure (goInt n)
  | .slice _,.slice _ n _=>pure (goInt n)
  | .map _ _,.map none|.chan _ _,.chan none=>pure (goInt 0)
  | .map _ _,.map (some r)=>
   let .map entries _ <- getObj r|stuck "len: map expected"
   pure (goInt entries.size)
  | .chan _ _,.chan (some r)=>
   let .chan _ buf _ _ _ timer <- getObj r|stuck "len: channel expected"
   pure (goInt (if timer then 0 else buf.size))
  | _, _ => stuck "len: string, array, pointer to array, slice, map or channel expected")=_
 rw[cX,cZ u];rfl
theorem jW{s:ByteArray}{i:Int}{e:UInt8}(B:P.underlying T=some .string)(E:0<=i)(u:(iN s)[i.toNat]?=some e)(k:K (.int .u8 (e.toNat:Int))):eR P (u3 T (.string s) (hZ i)) K:=by
 refine⟨_,?_,k⟩
 rw[RE]at u
 have hi:i.toNat<s.size:=by
  grind
 rw[dif_pos hi]at u
 have h3:(if 0<=i then s[i.toNat]? else none)=some e:=dD
 unfold u3
 simp only[asIntOf,cX,cZ B,mO,fQ,h3]
theorem nW{s:ByteArray}{i:Int}(u:P.underlying T=some .string)(B:0<=i)(h1:i<=s.size)(k:K (.string (s.extract 0 i.toNat))):eR P (n4 T (.string s) none (some (hZ i)) none) K:=by
 refine⟨_,?_,k⟩
 unfold n4
 rw[cX,cZ u]
 simp only[mO]
 unfold Pj
 rw[cX,cZ u]
 simp only[mO]
 rw[ej ee]
 have hb:pr P (vw false s.size s.size none (some (hZ i)) none)=some (0,i.toNat,s.size):=by
  simp only[vw,cX,fQ,mO]
  rw[jl B h1];rfl
 rw[cX,hb];rfl
theorem Ll{s:ByteArray}{i j:Int}(u:P.underlying T=some .string)(B:0<=i)(E:i<=j)(h1:j<=s.size)(k:K (.string (s.extract i.toNat j.toNat))):eR P (n4 T (.string s) (some (hZ i)) (some (hZ j)) none) K:=by
 refine⟨_,?_,k⟩
 unfold n4
 rw[cX,cZ u]
 simp only[mO]
 unfold Pj
 rw[cX,cZ u]
 simp only[mO]
 rw[ej ee]
 have hb:pr P (vw false s.size s.size (some (hZ i)) (some (hZ j)) none)=some (i.toNat,j.toNat,s.size):=by
  simp only[vw,cX,fQ,mO]
  rw[jl cK h1];simp only[mO];rw[jl B cK];rfl
 rw[cX,hb];rfl
theorem Az(k:K (.bool (decide (a<=b)))):eR P (kj .leq T cx cy (.int .u8 a) (.int .u8 b)) K:=⟨_,rfl,k⟩
theorem AA(k:K (.bool (decide (b<=a)))):eR P (kj .geq T cx cy (.int .u8 a) (.int .u8 b)) K:=⟨_,rfl,k⟩
theorem nG(k:K (.bool (decide (a=b)))):eR P (kj .eql T cx cy (.int .u8 a) (.int .u8 b)) K:=⟨_,rfl,k⟩
theorem WB(k:K (.bool (decide (a≠b)))):eR P (kj .neq T cx cy (.int .u8 a) (.int .u8 b)) K:=
 ⟨_,(show pr P (kj .neq T cx cy (.int .u8 a) (.int .u8 b))=some (.bool (decide (a≠b)))from by
  show some (wA (a != b))=_
  grind),k⟩
theorem Lm{t:Array TypeId}{R:TypeId}{c:Int}(k:K (hZ (max (max a b) c))):eR P (Builtin.max_ t R [hZ a,hZ b,hZ c].toArray) K:=by
 refine⟨_,?_,k⟩
 show pr P (do Builtin.max2 (<- Builtin.max2 (hZ a) (hZ b)) (hZ c))=_
 have h:∀x y:Int,pr P (Builtin.max2 (hZ x) (hZ y))=some (hZ (max x y)):=by
  intro x y
  unfold Builtin.max2
  by_cases h:x<y
  .simp[h,fQ];omega
  .simp[h,fQ];omega
 rw[cX,h]
 exact h _ _
end
def fT{α σ:Type}[Flat σ][Deep α σ](v:Value)(xs:List α):HP:=pH λts:List σ=>sep (bH v ts) (eG (gM ts xs))
section
variable {P:Program}{α σ:Type}[Flat σ] [D:Deep α σ] {w w' w0:World}{v src:Value}{A:Nat->Prop}{L:List HP}{xs ys:List α}
theorem St.RF(u:St w0 A (fT v xs::L) w):∃ts:List σ,St w0 A (bH v ts::Fw.eG (gM ts xs)::L) w:=by
 obtain⟨ts,h⟩:=u.eh;exact⟨ts,h.split⟩
theorem St.G3{ts:List σ}(u:St w0 A (bH v ts::Fw.eG (gM ts xs)::L) w):St w0 A (fT v xs::L) w:=
 St.ek (H:=λts:List σ=>sep (bH v ts) (Fw.eG (gM ts xs))) ts (St.join u)
theorem St.anE{ts:List σ}(u:St w0 A (bH v ts::Fw.eG (gM ts xs)::L) w):ts.length=xs.length:=u.p1.eG.1
theorem St.IW(u:St w0 A L w):St w0 A (fT (.slice none 0 0) ([]:List α)::L) w:=
 St.G3 (ts:=[]) ((u.fy λ_=>gM.nil).eM)
theorem St.au3(u:St w0 A (bH v ([]:List σ)::L) w):St w0 A (fT v ([]:List α)::L) w:=
 St.G3 (ts:=[]) (u.fy (Φ:=gM ([]:List σ) ([]:List α)) λ_=>gM.nil).p1
theorem St.au4{s:σ}{x:α}(u:St w0 A (bH v [s]::Fw.eG (λw=>Deep.dr w s x)::L) w):St w0 A (fT v [x]::L) w:=by
 refine St.G3 (ts:=[s]) ?_
 refine(u.p1.dM (Ψ:=gM [s] [x]) λw h=>?_).p1
 exact(gM.nil (w:=w)).snoc h
theorem St.au5{ts us:List σ}(u:St w0 A (bH v (ts++us)::Fw.eG (gM ts xs)::Fw.eG (gM us ys)::L) w):St w0 A (fT v (xs++ys)::L) w:=by
 have h1:=(u.p1:St w0 A (Fw.eG (gM ts xs)::bH v (ts++us)::Fw.eG (gM us ys)::L) w)
 have h2:=h1.p2.p1
 refine St.G3 (ts:=ts++us) ?_
 exact(h2.gZ.dM (Ψ:=gM (ts++us) (xs++ys)) λw h=>h.1.append h.2).p1
theorem St.mV(u:St w0 A (fT v xs::L) w):St w0 A (Fw.eG (λw=>DL w v xs)::L) w:=by
 obtain⟨ts,h⟩:=u.RF
 exact h.freeze.gZ.dM λw h=>DL.of h.1 h.2
theorem St.dl(u:St w0 A (fT v xs::L) w):DL w v xs:=u.mV.eG
theorem St.oX(u:St w0 A (fT v xs::L) w):∃s:SV,v=ia s:=u.dl.fI
theorem St.enc{b:Nat}{cs cs':List Value}(u:St w0 A (bY b cs::L) w)(h:cs=cs'):St w0 A (bY b cs'::L) w:=h▸u
theorem tD{T E B:Nat}{K:Value->hM}(u:St w0 A L w)(ht:Vi P T E (mv σ) B)(k:∀v w',St w0 A (fT v ([]:List α)::L) w'->K v w'):rJ P (I0 T 0 ([]:List (Nat×Value)).toArray) w K:=
 aZ ([]:List σ) u ht rfl rfl ei λv w' h=>k v w' h.au3
theorem gg{T E u:Nat}{s:σ}{x:α}{K:Value->hM}(B:St w0 A (Fw.eG (λw=>Deep.dr w s x)::L) w)(ht:Vi P T E (mv σ) u)(G:mv σ<=64)(k:∀v w',St w0 A (fT v [x]::L) w'->K v w') :
  rJ P (I0 T 1 [(0,ia s)].toArray) w K:=
 aZ [s] B ht rfl rfl (by simp;omega) λv w' h=>k v w' h.au4
theorem gh{T E G R:Nat}{K:Value->hM}(I:St w0 A (fT v xs::fT src ys::L) w)(ht:Vi P T E (mv σ) G)
  (O:xs.length+ys.length<=1073741824) (B:G<=8192) (k:∀u w',St w0 A (fT u (xs++ys)::L) w'->K u w'):rJ P (Builtin.append_ #[T,T] R [v,src].toArray) w K:=by
 obtain⟨us,h1⟩:=I.p1.RF
 obtain⟨ts,h2⟩:=h1.p2.RF
 have M:=h1.anE
 have J:=h2.anE
 refine bJ h2 ht h2.p2.dX cK B λu w' h=>k u w' ?_
 exact h.p2.drop.au5
theorem jx{β:Type}[Flat β]{T:Nat}{b o:Nat}{cs:List Value}(x:β)(ht:dF P T=some (FF β,mv β))(hb:mR w b cs)(B:(cs.drop o).take (mv β)=j0 x) :
  (wZ T (.pointer (some ⟨b,o,none⟩))).run P w=.ok (ia x) w:=by
 refine eH (S:=λ_=>True) ht ⟨b,o,rfl,trivial,λj c u=>hb.cell ?_⟩
 grind
end
instance:Flat UInt8 where
 agg:=false
 sz:=1
 enc b:=[.int .u8 b.toNat]
 val b:=.int .u8 b.toNat
 pos:=ee
 len _:=rfl
 one a v h:=by rw[vA.1 h];rfl
 nx h:=by cases h
 nT _ _:=rfl
instance:Deep UInt8 UInt8:=jd
def tE{α σ:Type}[Flat σ][Deep α σ](P:Program)(w:World)(f:Value)(φ:α->Prop)(g:α->Bool):Prop:=∃B first cap,f=.func (.func B) (N2 first) (N2 cap)/\Plain P B/\
 ∀(s:σ) (x:α) u,Ext w u->Deep.dr u s x->φ x->Calls P B (first++[ia s]++cap).toArray u (tP λv E=>v=.bool (g x)/\Ext u E)
theorem tE.ext{α σ:Type}[Flat σ][Deep α σ]{P:Program}{w w':World}{f:Value}{φ:α->Prop}{g:α->Bool}(h:tE P w f φ g)(e:Ext w w'):tE P w' f φ g:=by
 obtain⟨B,first,cap,h1,h2,h3⟩:=h;exact⟨B,first,cap,h1,h2,λs x u E=>h3 s x u (e.trans E)⟩
def G4{α:Type}[Flat α]{P:Program}{S:Nat->Prop}{w:World}{T E:TypeId}{cx cy:Bool}{v:Value}{xs:List α}{K:Value->Prop}(h:P.underlying T=some (.slice E))(B:dA S w v xs)(k:∀p:Bool,(p=true->xs=[])->K (.bool p)) :
  eR P (kj .eql T cx cy v (.slice none 0 0)) K:=by
 obtain⟨a,cap,rfl,_,h3⟩:=B
 have u:pr P (Op.equal T (.slice a xs.length cap) (.slice none 0 0))=some a.isNone:=by
  show pr P (Op.equalIn 10000 T (.slice a xs.length cap) (.slice none 0 0))=_
  unfold Op.equalIn
  rw[cX,cZ h]
  cases a<;>rfl
 refine⟨_,?_,k a.isNone λG=>?_⟩
 .show pr P (do pure (wA (<- Op.equal T (.slice a xs.length cap) (.slice none 0 0))))=_
  rw[xR,u];rfl
 grind
structure Ptr where
 b:Nat
deriving DecidableEq
instance:Flat Ptr where
 agg:=false
 sz:=1
 enc p:=[.pointer (some ⟨p.b,0,none⟩)]
 val p:=.pointer (some ⟨p.b,0,none⟩)
 pos:=ee
 len _:=rfl
 one a v h:=by rw[vA.1 h];rfl
 nx h:=by cases h
 nT _ _:=rfl
instance:Deep Ptr Ptr:=jd
def g8{α κ:Type}(H:κ->α->HP):List κ->List α->HP
 | [],[]=>emp
 | p::ps,x::xs=>sep (H p x) (g8 H ps xs)
 | _,_=>fact False emp
section
variable {P:Program}{α κ:Type}{H:κ->α->HP}{A:Nat->Prop}{w0 w:World}{L:List HP}
theorem BM:∀{ps:List κ}{xs:List α}{F:Nat->Prop},(g8 H ps xs).p w F->ps.length=xs.length
 | [],[],_,_=>rfl
 | s::ss,x::xs,F,h=>by
  obtain⟨u,B,_,h2,_,_⟩:=h
  rw[oj,oj,BM h2]
 | [],_::_,_,h=>h.1.elim
 | _::_,[],_,h=>h.1.elim
theorem St.iX{ps:List κ}{xs:List α}(u:St w0 A (g8 H ps xs::L) w):ps.length=xs.length:=by
 obtain⟨F,h,_⟩:=u.head;exact BM h
theorem St.AB(u:St w0 A L w):St w0 A (g8 H [] []::L) w:=u.new (Ext.refl w) (F:=bD) (λ_ h=>h) λ_ h=>h.elim
def nH(H:κ->α->HP)(ps:List κ)(xs:List α)(i:Nat):HP:=sep (g8 H (ps.take i) (xs.take i)) (g8 H (ps.drop (i+1)) (xs.drop (i+1)))
theorem Cz:∀{ps:List κ}{xs:List α}{i:Nat}{p:κ}{x:α}{F:Nat->Prop},(g8 H ps xs).p w F->ps[i]?=some p->xs[i]?=some x->(sep (H p x) (nH H ps xs i)).p w F
 | U::ps,x'::xs,0,p,x,F,h,u,hx=>by
  rw[List.getElem?_cons_zero]at u hx
  obtain rfl:=oe.inj u
  obtain rfl:=oe.inj hx
  obtain⟨B,E,h1,h2,h3,h4⟩:=h
  exact⟨B,E,h1,⟨bD,E,λ_ h=>h,h2,λ_ h=>h.elim,λb=>⟨.inr,λh=>h.elim (λh=>h.elim) id⟩⟩,h3,h4⟩
 | U::ps,x'::xs,i+1,p,x,F,h,u,hx=>by
  rw[NC]at u hx
  obtain⟨B,E,h1,h2,h3,h4⟩:=h
  obtain⟨Y,Z,W,⟨G,K2,I,V,k3,J⟩,g3,O⟩:=Cz h2 u hx
  refine⟨Y,λb=>B b\/Z b,W,⟨λb=>B b\/G b,K2,⟨B,G,h1,I,λb hb M=>h3 b hb ((O b).2 (.inr ((J b).2 (.inl M)))),λb=>Iff.rfl⟩,V,?_,?_⟩,?_,?_⟩
  .grind
  .grind
  .grind
  grind
 | [],[],_,_,_,_,_,u,_=>by simp at u
 | [],_::_,_,_,_,_,h,_,_=>h.1.elim
 | _::_,[],_,_,_,_,h,_,_=>h.1.elim
theorem BN:∀{ps:List κ}{xs:List α}{i:Nat}{p:κ}{x:α}{F:Nat->Prop},i<xs.length->ps.length=xs.length->(sep (H p x) (nH H ps xs i)).p w F->(g8 H (ps.set i p) (xs.set i x)).p w F
 | p'::ps,x'::xs,0,p,x,F,_,_,h=>by
  obtain⟨B,I,h1,⟨W,K2,O,J,G,E⟩,h3,h4⟩:=h
  refine⟨B,I,h1,?_,h3,h4⟩
  have e:I=K2:=funext λb=>propext ((E b).trans ⟨λh=>h.elim (λh=>(O b h).elim) id,.inr⟩)
  grind
 | p'::ps,x'::xs,i+1,p,x,F,hi,hl,h=>by
  obtain⟨M,G2,g1,⟨W,K2,⟨B,u,Z,V,f3,U⟩,J,G,E⟩,g3,g4⟩:=h
  refine⟨B,λb=>M b\/(u b\/K2 b),Z,BN dD dD ⟨M,λb=>u b\/K2 b,g1,⟨u,K2,V,J,λb hb Y=>G b ((U b).2 (.inr hb)) Y,λb=>Iff.rfl⟩,?_,λb=>Iff.rfl⟩,?_,?_⟩
  .grind
  .grind
  grind
 | [],_::_,_,_,_,_,_,hl,_=>by simp at hl
 | _,[],_,_,_,_,hi,_,_=>by simp at hi
theorem mW{β:Type}:∀{ps:List β}{i:Nat}{p:β},ps[i]?=some p->ps.set i p=ps
 | [],_,_,h=>by simp at h
 | y::ps,0,p,h=>by grind
 | y::ps,i+1,p,h=>by rw[NC]at h;rw[List.set_cons_succ,mW h]
theorem OM{ps:List κ}{xs:List α}{i:Nat}{p:κ}{x:α}{F:Nat->Prop}(hi:i<xs.length)(B:ps.length=xs.length)(u:ps[i]?=some p)(h:(sep (H p x) (nH H ps xs i)).p w F):(g8 H ps (xs.set i x)).p w F:=by
 have:=BN hi B h;rwa [mW u]at this
theorem G5:∀{ps qs:List κ}{xs ys:List α}{F:Nat->Prop},(sep (g8 H ps xs) (g8 H qs ys)).p w F->(g8 H (ps++qs) (xs++ys)).p w F
 | [],qs,[],ys,F,⟨B,u,h1,h2,_,h4⟩=>by
  have:F=u:=funext λb=>propext ((h4 b).trans ⟨λh=>h.elim (λh=>(h1 b h).elim) id,.inr⟩)
  grind
 | p::ps,qs,x::xs,ys,F,⟨B,u,⟨G1,G2,g1,g2,g3,g4⟩,h2,h3,h4⟩=>by
  refine⟨G1,λb=>G2 b\/u b,g1,G5 ⟨G2,u,g2,h2,λb hb=>h3 b ((g4 b).2 (.inr hb)),λb=>Iff.rfl⟩,λb hb=>?_,λb=>dD⟩
  grind
 | [],_,_::_,_,_,⟨_,_,h,_⟩=>h.1.elim
 | _::_,_,[],_,_,⟨_,_,h,_⟩=>h.1.elim
theorem St.focus{ps:List κ}{xs:List α}{i:Nat}{p:κ}{x:α}(G:St w0 A (g8 H ps xs::L) w)(u:ps[i]?=some p)(B:xs[i]?=some x):St w0 A (H p x::nH H ps xs i::L) w:=
 (G.ry (H':=sep (H p x) (nH H ps xs i)) λF E=>⟨F,Cz E u B,λb hb=>.inl hb,gu.refl _ _⟩).split
theorem St.Dl{ps:List κ}{xs:List α}{i:Nat}{p:κ}{x:α}(G:St w0 A (H p x::nH H ps xs i::L) w)(hi:i<xs.length)(B:ps.length=xs.length)(u:ps[i]?=some p):St w0 A (g8 H ps (xs.set i x)::L) w:=
 (St.join G).ry λF E=>⟨F,OM hi B u E,λb hb=>.inl hb,gu.refl _ _⟩
theorem El:∀{ps:List κ}{xs:List α}{p:κ}{x:α}{B u F:Nat->Prop},(g8 H ps xs).p w B->(H p x).p w u->(∀b,B b->¬ u b)->(∀b,F b↔B b\/u b)->(g8 H (ps++[p]) (xs++[x])).p w F
 | [],[],p,x,B,u,F,h1,h2,_,h4=>⟨u,B,h2,h1,λb _ E=>h1 b E,λb=>dD⟩
 | s'::ss,x'::xs,p,x,B,u,F,h1,h2,h3,h4=>by
  obtain⟨M,J,G,I,U,O⟩:=h1
  refine⟨M,λb=>J b\/u b,G,El I h2 (λb hb=>h3 b ((O b).2 (.inr hb))) (λb=>Iff.rfl),λb hb=>?_,λb=>?_⟩
  .grind
  grind
 | [],_::_,_,_,_,_,_,h,_,_,_=>h.1.elim
 | _::_,[],_,_,_,_,_,h,_,_,_=>h.1.elim
theorem St.Em{ps:List κ}{xs:List α}{p:κ}{x:α}(B:St w0 A (g8 H ps xs::H p x::L) w):St w0 A (g8 H (ps++[p]) (xs++[x])::L) w:=by
 refine(St.join B).ry λF u=>?_
 obtain⟨E,G,h1,h2,h3,h4⟩:=u
 exact⟨F,El h1 h2 h3 h4,λb hb=>.inl hb,gu.refl _ _⟩
theorem St.En{ps:List κ}{xs:List α}{i:Nat}{p:κ}{x:α}(E:St w0 A (H p x::nH H ps xs i::L) w)(hi:i<xs.length)(u:ps.length=xs.length):St w0 A (g8 H (ps.set i p) (xs.set i x)::L) w:=
 (St.join E).ry λF B=>⟨F,BN hi u B,λb hb=>.inl hb,gu.refl _ _⟩
theorem St.TF{ps:List κ}{xs:List α}{i:Nat}(B:St w0 A (nH H ps xs i::L) w):St w0 A (g8 H (ps.eraseIdx i) (xs.eraseIdx i)::L) w:=by
 rw[u4,u4]
 exact B.ry λF u=>⟨F,G5 u,λb hb=>.inl hb,gu.refl _ _⟩
theorem St.ahL{ps:List κ}{xs:List α}{i:Nat}{p:κ}{x:α}{Φ:hM}(G:St w0 A (g8 H ps xs::L) w)(u:ps[i]?=some p)(B:xs[i]?=some x)(h:∀{w F},(H p x).p w F->Φ w):Φ w:=by
 obtain⟨F,E,_⟩:=(G.focus u B).head;exact h E
end
end Go.Fw
namespace Go.Proofs.YtpdlpabnlkofmaaGreatDoor
open Go.Fw
@[ext] structure cJ where
 name:ByteArray
 n:Int
 at_:Int
deriving DecidableEq
instance:Flat cJ where
 agg:=true
 sz:=3
 enc e:=[.string e.name,hZ e.n,hZ e.at_]
 val e:=.agg [.string e.name,hZ e.n,hZ e.at_].toArray
 pos:=ee
 len _:=rfl
 one a v h:=by simp at h;rcases h with rfl|rfl|rfl<;>rfl
 nx _ _:=rfl
 nT h:=by cases h
instance:Deep cJ cJ:=jd
def xZ(x:cJ):Prop:=x.name.size<=maxLen/\eU x.n/\eU x.at_
@[ext] structure cA where
 op:Int
 n:Int
 name:ByteArray
 at_:Int
deriving DecidableEq
instance:Flat cA where
 agg:=true
 sz:=4
 enc e:=[hZ e.op,hZ e.n,.string e.name,hZ e.at_]
 val e:=.agg [hZ e.op,hZ e.n,.string e.name,hZ e.at_].toArray
 pos:=ee
 len _:=rfl
 one a v h:=by simp at h;rcases h with rfl|rfl|rfl|rfl<;>rfl
 nx _ _:=rfl
 nT h:=by cases h
instance:Deep cA cA:=jd
def AD(x:cA):Prop:=eU x.op/\eU x.n/\x.name.size<=maxLen/\eU x.at_
structure bQ where
 kind:Int
 eD:ByteArray
 name:ByteArray
 e:(List cA)
 f:(List cA)
 n:Int
 body:Int
 eu:Int
 at_:Int
deriving DecidableEq
structure bE where
 kind:Int
 eD:ByteArray
 name:ByteArray
 e:SV
 f:SV
 n:Int
 body:Int
 eu:Int
 at_:Int
instance:Flat bE where
 agg:=true
 sz:=9
 enc e:=[hZ e.kind,.string e.eD,.string e.name,.slice e.e.a e.e.n e.e.cap,.slice e.f.a e.f.n e.f.cap,hZ e.n,hZ e.body,hZ e.eu,hZ e.at_]
 val e:=.agg [hZ e.kind,.string e.eD,.string e.name,.slice e.e.a e.e.n e.e.cap,.slice e.f.a e.f.n e.f.cap,hZ e.n,hZ e.body,hZ e.eu,hZ e.at_].toArray
 pos:=ee
 len _:=rfl
 one a v h:=by simp at h;rcases h with rfl|rfl|rfl|rfl|rfl|rfl|rfl|rfl|rfl<;>rfl
 nx _ _:=rfl
 nT h:=by cases h
instance:Deep bQ bE where
 dr w s x:=∃(B:SV) (u:SV),s=(⟨x.kind,x.eD,x.name,B,u,x.n,x.body,x.eu,x.at_⟩:bE)/\DL w (ia B) x.e/\DL w (ia u) x.f
 ext h e:=by
  obtain⟨I,E,rfl,G,h1⟩:=h
  exact⟨I,E,rfl,G.ext e,h1.ext e⟩
def IX(x:bQ):Prop:=eU x.kind/\x.eD.size<=maxLen/\x.name.size<=maxLen/\(∀y∈x.e,AD y)/\(∀y∈x.f,AD y)/\eU x.n/\eU x.body/\eU x.eu/\eU x.at_
structure cN where
 name:ByteArray
 dP:(List ByteArray)
 body:(List bQ)
 at_:Int
deriving DecidableEq
structure cG where
 name:ByteArray
 dP:SV
 body:SV
 at_:Int
instance:Flat cG where
 agg:=true
 sz:=4
 enc e:=[.string e.name,.slice e.dP.a e.dP.n e.dP.cap,.slice e.body.a e.body.n e.body.cap,hZ e.at_]
 val e:=.agg [.string e.name,.slice e.dP.a e.dP.n e.dP.cap,.slice e.body.a e.body.n e.body.cap,hZ e.at_].toArray
 pos:=ee
 len _:=rfl
 one a v h:=by simp at h;rcases h with rfl|rfl|rfl|rfl<;>rfl
 nx _ _:=rfl
 nT h:=by cases h
instance:Deep cN cG where
 dr w s x:=∃(u:SV) (B:SV),s=(⟨x.name,u,B,x.at_⟩:cG)/\DL w (ia u) x.dP/\DL w (ia B) x.body
 ext h e:=by
  obtain⟨I,E,rfl,G,h1⟩:=h
  exact⟨I,E,rfl,G.ext e,h1.ext e⟩
def ya(x:cN):Prop:=x.name.size<=maxLen/\(∀y∈x.dP,(λy:ByteArray=>y.size<=maxLen) y)/\(∀y∈x.body,IX y)/\eU x.at_
structure gP where
 e:(List cA)
 at_:Int
deriving DecidableEq
structure jy where
 e:SV
 at_:Int
instance:Flat jy where
 agg:=true
 sz:=2
 enc e:=[.slice e.e.a e.e.n e.e.cap,hZ e.at_]
 val e:=.agg [.slice e.e.a e.e.n e.e.cap,hZ e.at_].toArray
 pos:=ee
 len _:=rfl
 one a v h:=by simp at h;rcases h with rfl|rfl<;>rfl
 nx _ _:=rfl
 nT h:=by cases h
instance:Deep gP jy where
 dr w s x:=∃(u:SV),s=(⟨u,x.at_⟩:jy)/\DL w (ia u) x.e
 ext h e:=by
  obtain⟨E,rfl,B⟩:=h
  exact⟨E,rfl,B.ext e⟩
def Eo(x:gP):Prop:=(∀y∈x.e,AD y)/\eU x.at_
structure cE where
 lines:(List (List cJ))
 iO:(List cJ)
 eJ:(List cJ)
 threads:(List cN)
 recover:(List cN)
 dS:(List gP)
deriving DecidableEq
structure bP where
 lines:SV
 iO:SV
 eJ:SV
 threads:SV
 recover:SV
 dS:SV
instance:Flat bP where
 agg:=true
 sz:=6
 enc e:=[.slice e.lines.a e.lines.n e.lines.cap,.slice e.iO.a e.iO.n e.iO.cap,.slice e.eJ.a e.eJ.n e.eJ.cap,.slice e.threads.a e.threads.n e.threads.cap,.slice e.recover.a e.recover.n e.recover.cap,.slice e.dS.a e.dS.n e.dS.cap]
 val e:=.agg [.slice e.lines.a e.lines.n e.lines.cap,.slice e.iO.a e.iO.n e.iO.cap,.slice e.eJ.a e.eJ.n e.eJ.cap,.slice e.threads.a e.threads.n e.threads.cap,.slice e.recover.a e.recover.n e.recover.cap,.slice e.dS.a e.dS.n e.dS.cap].toArray
 pos:=ee
 len _:=rfl
 one a v h:=by simp at h;rcases h with rfl|rfl|rfl|rfl|rfl|rfl<;>rfl
 nx _ _:=rfl
 nT h:=by cases h
instance:Deep cE bP where
 dr w s x:=∃(E:SV) (u:SV) (I:SV) (G:SV) (B:SV) (J:SV),s=(⟨E,u,I,G,B,J⟩:bP)/\DL w (ia E) x.lines/\DL w (ia u) x.iO/\DL w (ia I) x.eJ/\DL w (ia G) x.threads/\DL w (ia B) x.recover/\DL w (ia J) x.dS
 ext h e:=by
  obtain⟨V,O,Y,M,Z,W,rfl,U,h1,h2,h3,h4,h5⟩:=h
  exact⟨V,O,Y,M,Z,W,rfl,U.ext e,h1.ext e,h2.ext e,h3.ext e,h4.ext e,h5.ext e⟩
def acn(x:cE):Prop:=(∀y∈x.lines,(λys:(List cJ)=>∀y∈ys,xZ y) y)/\(∀y∈x.iO,xZ y)/\(∀y∈x.eJ,xZ y)/\(∀y∈x.threads,ya y)/\(∀y∈x.recover,ya y)/\(∀y∈x.dS,Eo y)
@[ext] structure oy where
 kind:Int
 n:Int
deriving DecidableEq
instance:Flat oy where
 agg:=true
 sz:=2
 enc e:=[hZ e.kind,hZ e.n]
 val e:=.agg [hZ e.kind,hZ e.n].toArray
 pos:=ee
 len _:=rfl
 one a v h:=by simp at h;rcases h with rfl|rfl<;>rfl
 nx _ _:=rfl
 nT h:=by cases h
instance:Deep oy oy:=jd
structure aS where
 kind:Int
 t:Int
 i:Int
 cut:(List Int)
deriving DecidableEq
structure aI where
 kind:Int
 t:Int
 i:Int
 cut:SV
instance:Flat aI where
 agg:=true
 sz:=4
 enc e:=[hZ e.kind,hZ e.t,hZ e.i,.slice e.cut.a e.cut.n e.cut.cap]
 val e:=.agg [hZ e.kind,hZ e.t,hZ e.i,.slice e.cut.a e.cut.n e.cut.cap].toArray
 pos:=ee
 len _:=rfl
 one a v h:=by simp at h;rcases h with rfl|rfl|rfl|rfl<;>rfl
 nx _ _:=rfl
 nT h:=by cases h
instance:Deep aS aI where
 dr w s x:=∃(u:SV),s=(⟨x.kind,x.t,x.i,u⟩:aI)/\DL w (ia u) x.cut
 ext h e:=by
  obtain⟨E,rfl,B⟩:=h
  exact⟨E,rfl,B.ext e⟩
def aco(x:aS):Prop:=eU x.kind/\eU x.t/\eU x.i/\(∀y∈x.cut,eU y)
@[ext] structure cH where
 kind:Int
 t:Int
 a:Int
 n:Int
 m:Int
deriving DecidableEq
instance:Flat cH where
 agg:=true
 sz:=5
 enc e:=[hZ e.kind,hZ e.t,hZ e.a,hZ e.n,hZ e.m]
 val e:=.agg [hZ e.kind,hZ e.t,hZ e.a,hZ e.n,hZ e.m].toArray
 pos:=ee
 len _:=rfl
 one a v h:=by simp at h;rcases h with rfl|rfl|rfl|rfl|rfl<;>rfl
 nx _ _:=rfl
 nT h:=by cases h
instance:Deep cH cH:=jd
@[ext] structure g9 where
 bZ:Int
 fault:Int
 t:Int
 done:Bool
 stuck:Bool
deriving DecidableEq
instance:Flat g9 where
 agg:=true
 sz:=5
 enc e:=[hZ e.bZ,hZ e.fault,hZ e.t,.bool e.done,.bool e.stuck]
 val e:=.agg [hZ e.bZ,hZ e.fault,hZ e.t,.bool e.done,.bool e.stuck].toArray
 pos:=ee
 len _:=rfl
 one a v h:=by simp at h;rcases h with rfl|rfl|rfl|rfl|rfl<;>rfl
 nx _ _:=rfl
 nT h:=by cases h
instance:Deep g9 g9:=jd
@[ext] structure bI where
 kind:Int
 line:Int
 cell:Int
 n:Int
deriving DecidableEq
instance:Flat bI where
 agg:=true
 sz:=4
 enc e:=[hZ e.kind,hZ e.line,hZ e.cell,hZ e.n]
 val e:=.agg [hZ e.kind,hZ e.line,hZ e.cell,hZ e.n].toArray
 pos:=ee
 len _:=rfl
 one a v h:=by simp at h;rcases h with rfl|rfl|rfl|rfl<;>rfl
 nx _ _:=rfl
 nT h:=by cases h
instance:Deep bI bI:=jd
@[ext] structure bT where
 kind:Int
 text:ByteArray
 n:Int
 at_:Int
deriving DecidableEq
instance:Flat bT where
 agg:=true
 sz:=4
 enc e:=[hZ e.kind,.string e.text,hZ e.n,hZ e.at_]
 val e:=.agg [hZ e.kind,.string e.text,hZ e.n,hZ e.at_].toArray
 pos:=ee
 len _:=rfl
 one a v h:=by simp at h;rcases h with rfl|rfl|rfl|rfl<;>rfl
 nx _ _:=rfl
 nT h:=by cases h
instance:Deep bT bT:=jd
@[ext] structure mX where
 line:Int
 cell:Int
 n:Int
deriving DecidableEq
instance:Flat mX where
 agg:=true
 sz:=3
 enc e:=[hZ e.line,hZ e.cell,hZ e.n]
 val e:=.agg [hZ e.line,hZ e.cell,hZ e.n].toArray
 pos:=ee
 len _:=rfl
 one a v h:=by simp at h;rcases h with rfl|rfl|rfl<;>rfl
 nx _ _:=rfl
 nT h:=by cases h
instance:Deep mX mX:=jd
@[ext] structure km where
 cell:Int
 n:Int
deriving DecidableEq
instance:Flat km where
 agg:=true
 sz:=2
 enc e:=[hZ e.cell,hZ e.n]
 val e:=.agg [hZ e.cell,hZ e.n].toArray
 pos:=ee
 len _:=rfl
 one a v h:=by simp at h;rcases h with rfl|rfl<;>rfl
 nx _ _:=rfl
 nT h:=by cases h
instance:Deep km km:=jd
structure RH where
 of:SV
 dV:SV
 l:SV
 k:SV
 w:SV
instance:Flat RH where
 agg:=true
 sz:=5
 enc e:=[.slice e.of.a e.of.n e.of.cap,.slice e.dV.a e.dV.n e.dV.cap,.slice e.l.a e.l.n e.l.cap,.slice e.k.a e.k.n e.k.cap,.slice e.w.a e.w.n e.w.cap]
 val e:=.agg [.slice e.of.a e.of.n e.of.cap,.slice e.dV.a e.dV.n e.dV.cap,.slice e.l.a e.l.n e.l.cap,.slice e.k.a e.k.n e.k.cap,.slice e.w.a e.w.n e.w.cap].toArray
 pos:=ee
 len _:=rfl
 one a v h:=by simp at h;rcases h with rfl|rfl|rfl|rfl|rfl<;>rfl
 nx _ _:=rfl
 nT h:=by cases h
def IY(p:Bool):Int:=if p then 1 else 0
def Ep(a b:Int):Int:=Bv (a.tdiv b)
def yt(op a:Int):Int:=if op=3 then Bv (0-a)else if op=4 then IY (decide (a=0))else 0
def Gj(op:Int):Int:=if op=3\/op=4 then 0 else 1
def lM(op a b:Int):Int:=
 if op=5 then Bv (a+b)else if op=6 then Bv (a-b)else if op=7 then Bv (a*b)else if op=8 then Ep a b else if op=9 then a.tmod b
 else if op=10 then IY (decide (a=b))else if op=11 then IY (decide (¬ a=b))else if op=12 then IY (decide (a<b))else if op=13 then IY (decide (a<=b))
 else if op=14 then IY (decide (¬ a=0)&&decide (¬ b=0))else if op=15 then IY (decide (¬ a=0)||decide (¬ b=0))else 0
def gC(op b:Int):Int:=if op<5\/15<op then 1 else if (op=8\/op=9)/\b=0 then 12 else 0
def gy(op a b:Int):Int:=if gC op b=0 then lM op a b else 0
theorem BO:Ep (-9223372036854775808) (-1) = -9223372036854775808:=ee
theorem acp{a b:Int}(V : -9223372036854775808<=a/\a<=9223372036854775807)(hb : -9223372036854775808<=b/\b<=9223372036854775807)(U:b≠0):Bv (a-Bv (b*Ep a b))=a.tmod b:=by
 have h1:=Int.mul_tdiv_add_tmod a b
 by_cases hc:a = -9223372036854775808/\b = -1
 .obtain⟨rfl,rfl⟩:=hc
  decide
 have J : -9223372036854775808<=a.tdiv b/\a.tdiv b<=9223372036854775807:=by
  have h2:(a.tdiv b).natAbs<=a.natAbs:=by rw[ZO];exact Nat.div_le_self _ _
  by_cases E:a = -9223372036854775808
  .subst E
   have M:b≠-1:=λh=>hc ⟨rfl,h⟩
   by_cases I:b=1
   .grind
   .have h3:(Int.tdiv (-9223372036854775808) b).natAbs<=9223372036854775808 / 2:=by
     rw[ZO]
     exact Nat.div_le_div_left cK cK
    omega
  .omega
 have O:(a.tmod b).natAbs<b.natAbs:=by rw[RM];exact aau _ cK
 unfold Ep
 rw[zn J]
 have E:b*a.tdiv b=a-a.tmod b:=cK
 have W:(a.tmod b).natAbs<=a.natAbs:=by rw[RM];exact abf _ _
 have G:(0<=a->0<=a.tmod b):=λh=>Po b h
 have B:(a<=0->a.tmod b<=0):=λh=>by
  have:=Po (a:=-a) b cK
  rw[aaY]at this;omega
 have u:(-9223372036854775808<=a-a.tmod b/\a-a.tmod b<=9223372036854775807)/\-9223372036854775808<=a.tmod b/\a.tmod b<=9223372036854775807:=by
  rcases WD 0 a with h|h
  .have:=G h;omega
  .have:=B h;omega
 rw[E,zn u.1,show a-(a-a.tmod b)=a.tmod b from cK,zn u.2]
def C305(p:Bool)(w:World):CR 305 [.bool p] w (λv w'=>v=hZ (IY p)/\Ext w w'):=by
 have B:=St.start w;refine eX Tryz.func305 ?_;refine aY (λu=>?_) (λu=>?_)
 .rw[u];exact⟨rfl,B.aG⟩
 rw[u];exact⟨rfl,B.aG⟩
def C302(p:Bool)(w:World):CR 302 [.bool p] w (λv w'=>v=hZ (IY p)/\Ext w w'):=by
 have B:=St.start w;refine eX Tryz.func302 ?_;refine aY (λu=>?_) (λu=>?_)
 .rw[u];exact⟨rfl,B.aG⟩
 rw[u];exact⟨rfl,B.aG⟩
def C303(a:Int)(w:World):CR 303 [hZ a] w (λv w'=>v=.bool (decide (¬ a=0))/\Ext w w'):=by
 have u:=St.start w;refine eX Tryz.func303 ?_;exact bW ⟨rfl,u.aG⟩
def C306(a b:Int)(w:World)(h:b≠0):CR 306 [hZ a,hZ b] w (λv w'=>v=hZ (Ep a b)/\Ext w w'):=by
 have u:=St.start w;refine eX Tryz.func306 ?_;refine⟨_,?_,λ_ _ h=>h⟩;refine aH (aC (λE=>?_) λE=>?_)
 .refine aH ?_;intro G;refine aC (λB=>?_) (λB=>?_)
  .first|exact⟨rfl,u.aG⟩|(exfalso;simp_all;done)|(rw[E,B,BO];exact⟨rfl,u.aG⟩)
  refine Ej h ?_
  first|exact⟨rfl,u.aG⟩|(exfalso;simp_all;done)|(rw[E,B,BO];exact⟨rfl,u.aG⟩)
 intro G;refine ft (Ej h ?_)
 first|exact⟨rfl,u.aG⟩|(exfalso;simp_all;done)|(rw[E,B,BO];exact⟨rfl,u.aG⟩)
def C274(op a:Int)(w:World):CR 274 [hZ op,hZ a] w (λv w'=>v=.tuple #[hZ (yt op a),hZ (Gj op)]/\Ext w w'):=by
 have B:=St.start w;refine eX Tryz.func274 ?_;refine aH (aC (λu=>?_) λu=>aH (aC (λE=>?_) λE=>?_))
 .refine Ay ?_;unfold yt Gj
  first|(rw[ew u,ew (.inl u)];exact⟨rfl,B.aG⟩)|(rw[ej u,ew E,ew (.inr E)];exact⟨rfl,B.aG⟩)|(rw[ej u,ej E,ej cK];exact⟨rfl,B.aG⟩)
 .refine aH (aV Ad B (C305 _ _) λ_ G B=>?_);unfold yt Gj
  first|(rw[ew u,ew (.inl u)];exact⟨rfl,B.aG⟩)|(rw[ej u,ew E,ew (.inr E)];exact⟨rfl,B.aG⟩)|(rw[ej u,ej E,ej cK];exact⟨rfl,B.aG⟩)
 unfold yt Gj
 first|(rw[ew u,ew (.inl u)];exact⟨rfl,B.aG⟩)|(rw[ej u,ew E,ew (.inr E)];exact⟨rfl,B.aG⟩)|(rw[ej u,ej E,ej cK];exact⟨rfl,B.aG⟩)
def C269(op a:Int)(w:World):CR 269 [hZ op,hZ a] w (λv w'=>v=.tuple #[hZ (yt op a),hZ (Gj op)]/\Ext w w'):=by
 have B:=St.start w;refine eX Tryz.func269 ?_;refine aH (aC (λu=>?_) λu=>aH (aC (λE=>?_) λE=>?_))
 .refine Wy ?_;unfold yt Gj
  first|(rw[ew u,ew (.inl u)];exact⟨rfl,B.aG⟩)|(rw[ej u,ew E,ew (.inr E)];exact⟨gN (λp=>Bh #[hZ (IY p),hZ 0]) ei,B.aG⟩)|(rw[ej u,ej E,ej cK];exact⟨rfl,B.aG⟩)
 .refine aV KE B (C303 _ _) (λ_ G B=>?_)
  first|refine KH ?_|refine bR ?_
  refine aV V5 B (C302 _ _) (λ_ G B=>?_);unfold yt Gj
  first|(rw[ew u,ew (.inl u)];exact⟨rfl,B.aG⟩)|(rw[ej u,ew E,ew (.inr E)];exact⟨gN (λp=>Bh #[hZ (IY p),hZ 0]) ei,B.aG⟩)|(rw[ej u,ej E,ej cK];exact⟨rfl,B.aG⟩)
 unfold yt Gj
 first|(rw[ew u,ew (.inl u)];exact⟨rfl,B.aG⟩)|(rw[ej u,ew E,ew (.inr E)];exact⟨gN (λp=>Bh #[hZ (IY p),hZ 0]) ei,B.aG⟩)|(rw[ej u,ej E,ej cK];exact⟨rfl,B.aG⟩)
def C275(op a b:Int)(w:World)(ha:eU a)(hb:eU b):CR 275 [hZ op,hZ a,hZ b] w (λv w'=>v=.tuple #[hZ (gy op a b),hZ (gC op b)]/\Ext w w'):=by
 have u:=St.start w;refine abX _ _ _ _ _ ?_;unfold S275;refine aH (aC (λgH=>?_) λgH=>?_)
 .refine uE ?_
  first|(unfold gy gC;rw[ew (show op<5\/15<op by omega)];exact⟨rfl,u.aG⟩)|(subst_vars;first|exact⟨rfl,u.aG⟩|(unfold gy gC lM;simp_all<;>exact u.aG))
 refine aH (aC (λjo=>?_) λjo=>aH (aC (λoz=>?_) λoz=>aH (aC (λjC=>aH (aC (λO=>?_) λO=>?_)) λjC=>aH (aC (λY=>aH (aC (λG=>?_) λG=>?_)) λY=>aH (aC (λZ=>?_) λZ=>?_)))))
 .refine Ay ?_
  first|(unfold gy gC;rw[ew (show op<5\/15<op by omega)];exact⟨rfl,u.aG⟩)|(subst_vars;first|exact⟨rfl,u.aG⟩|(unfold gy gC lM;simp_all<;>exact u.aG))
 .refine wO ?_
  first|(unfold gy gC;rw[ew (show op<5\/15<op by omega)];exact⟨rfl,u.aG⟩)|(subst_vars;first|exact⟨rfl,u.aG⟩|(unfold gy gC lM;simp_all<;>exact u.aG))
 .first|(unfold gy gC;rw[ew (show op<5\/15<op by omega)];exact⟨rfl,u.aG⟩)|(subst_vars;first|exact⟨rfl,u.aG⟩|(unfold gy gC lM;simp_all<;>exact u.aG))
 .refine aV afF u (C306 _ _ _ O) (λ_ B u=>?_)
  first|(unfold gy gC;rw[ew (show op<5\/15<op by omega)];exact⟨rfl,u.aG⟩)|(subst_vars;first|exact⟨rfl,u.aG⟩|(unfold gy gC lM;simp_all<;>exact u.aG))
 .first|(unfold gy gC;rw[ew (show op<5\/15<op by omega)];exact⟨rfl,u.aG⟩)|(subst_vars;first|exact⟨rfl,u.aG⟩|(unfold gy gC lM;simp_all<;>exact u.aG))
 .refine aV afF u (C306 _ _ _ G) (λ_ B u=>wO (Ay ?_));rw[acp ha hb G]
  first|(unfold gy gC;rw[ew (show op<5\/15<op by omega)];exact⟨rfl,u.aG⟩)|(subst_vars;first|exact⟨rfl,u.aG⟩|(unfold gy gC lM;simp_all<;>exact u.aG))
 .refine aH (aV Ad u (C305 _ _) λ_ B u=>?_)
  first|(unfold gy gC;rw[ew (show op<5\/15<op by omega)];exact⟨rfl,u.aG⟩)|(subst_vars;first|exact⟨rfl,u.aG⟩|(unfold gy gC lM;simp_all<;>exact u.aG))
 refine aH (aC (λsg=>?_) λsg=>aH (aC (λW=>?_) λW=>aH (aC (λM=>?_) λM=>aH (aC (λU=>⟨_,bW (aC (λE=>?_) λE=>?_),λ_ _ _ h=>h⟩) λU=>aH (aC (λJ=>⟨_,bW (aC (λI=>?_) λI=>?_),λ_ _ _ h=>h⟩) λJ=>?_)))))
 .refine bW (aV Ad u (C305 _ _) λ_ B u=>?_)
  first|(unfold gy gC;rw[ew (show op<5\/15<op by omega)];exact⟨rfl,u.aG⟩)|(subst_vars;first|exact⟨rfl,u.aG⟩|(unfold gy gC lM;simp_all<;>exact u.aG))
 .refine aR (aV Ad u (C305 _ _) λ_ B u=>?_)
  first|(unfold gy gC;rw[ew (show op<5\/15<op by omega)];exact⟨rfl,u.aG⟩)|(subst_vars;first|exact⟨rfl,u.aG⟩|(unfold gy gC lM;simp_all<;>exact u.aG))
 .refine iB (aV Ad u (C305 _ _) λ_ B u=>?_)
  first|(unfold gy gC;rw[ew (show op<5\/15<op by omega)];exact⟨rfl,u.aG⟩)|(subst_vars;first|exact⟨rfl,u.aG⟩|(unfold gy gC lM;simp_all<;>exact u.aG))
 .refine bW (aV Ad u (C305 _ _) λ_ B u=>?_);intro sZ
  first|(unfold gy gC;rw[ew (show op<5\/15<op by omega)];exact⟨rfl,u.aG⟩)|(subst_vars;first|exact⟨rfl,u.aG⟩|(unfold gy gC lM;simp_all<;>exact u.aG))
 .refine aV Ad u (C305 _ _) (λ_ B u=>?_);intro sZ
  first|(unfold gy gC;rw[ew (show op<5\/15<op by omega)];exact⟨rfl,u.aG⟩)|(subst_vars;first|exact⟨rfl,u.aG⟩|(unfold gy gC lM;simp_all<;>exact u.aG))
 .refine aV Ad u (C305 _ _) (λ_ B u=>?_);intro V
  first|(unfold gy gC;rw[ew (show op<5\/15<op by omega)];exact⟨rfl,u.aG⟩)|(subst_vars;first|exact⟨rfl,u.aG⟩|(unfold gy gC lM;simp_all<;>exact u.aG))
 .refine bW (aV Ad u (C305 _ _) λ_ B u=>?_);intro V
  first|(unfold gy gC;rw[ew (show op<5\/15<op by omega)];exact⟨rfl,u.aG⟩)|(subst_vars;first|exact⟨rfl,u.aG⟩|(unfold gy gC lM;simp_all<;>exact u.aG))
 first|(unfold gy gC;rw[ew (show op<5\/15<op by omega)];exact⟨rfl,u.aG⟩)|(subst_vars;first|exact⟨rfl,u.aG⟩|(unfold gy gC lM;simp_all<;>exact u.aG))
def si:ahK hH 348 16 288:=⟨by kernel_rfl,by kernel_rfl⟩
def anI(b1 b2 b3 b4 u b6:Nat)(w:World):Prop:=
 Cell w b1 0 (.func (.func 329) #[] #[])/\Cell w b2 0 (.func (.func 330) #[] #[])/\Cell w b3 0 (.func (.func 331) #[] #[])/\Cell w b4 0 (.func (.func 332) #[] #[])/\Cell w u 0 (.func (.func 333) #[] #[])/\Cell w b6 0 (.func (.func 334) #[] #[])
def opsV(b1 b2 b3 b4 u b6:Nat):Value:=
 .agg [.nilFunc,.nilFunc,.nilFunc,.nilFunc,.nilFunc,.func (.func 324) #[] #[],.func (.func 325) #[] #[],.func (.func 326) #[] #[],.func (.func 327) #[] #[],.func (.func 328) #[] #[],
  .func (.func 323) #[] #[.pointer (some ⟨b1,0,none⟩)],.func (.func 323) #[] #[.pointer (some ⟨b2,0,none⟩)],.func (.func 323) #[] #[.pointer (some ⟨b3,0,none⟩)],.func (.func 323) #[] #[.pointer (some ⟨b4,0,none⟩)],
  .func (.func 323) #[] #[.pointer (some ⟨u,0,none⟩)],.func (.func 323) #[] #[.pointer (some ⟨b6,0,none⟩)]].toArray
def Fb2(f:Value)(g:Int->Int->Bool):Prop:=∃u,f=.func (.func u) #[] #[]/\Plain hH u/\
 ∀a b B,Calls hH u [hZ a,hZ b].toArray B (tP λv E=>v=.bool (g a b)/\Ext B E)
def C324(a b:Int)(w:World):CR 324 [hZ a,hZ b] w (λv w'=>v=hZ (Bv (a+b))/\Ext w w'):=by
 have u:=St.start w;refine eX Tryz.func324 ?_;exact uE ⟨rfl,u.aG⟩
def C325(a b:Int)(w:World):CR 325 [hZ a,hZ b] w (λv w'=>v=hZ (Bv (a-b))/\Ext w w'):=by
 have u:=St.start w;refine eX Tryz.func325 ?_;exact Ay ⟨rfl,u.aG⟩
def C326(a b:Int)(w:World):CR 326 [hZ a,hZ b] w (λv w'=>v=hZ (Bv (a*b))/\Ext w w'):=by
 have u:=St.start w;refine eX Tryz.func326 ?_;exact wO ⟨rfl,u.aG⟩
def C327(a b:Int)(w:World)(h:b≠0):CR 327 [hZ a,hZ b] w (λv w'=>v=hZ (Ep a b)/\Ext w w'):=by
 have u:=St.start w;refine eX Tryz.func327 ?_;exact Ej h ⟨rfl,u.aG⟩
def C328(a b:Int)(w:World)(h:b≠0):CR 328 [hZ a,hZ b] w (λv w'=>v=hZ (a.tmod b)/\Ext w w'):=by
 have u:=St.start w;refine eX Tryz.func328 ?_;exact Wz h ⟨rfl,u.aG⟩
def C329(a b:Int)(w:World):CR 329 [hZ a,hZ b] w (λv w'=>v=.bool (decide (a=b))/\Ext w w'):=by
 have u:=St.start w;refine eX Tryz.func329 ?_;exact aH ⟨rfl,u.aG⟩
def C330(a b:Int)(w:World):CR 330 [hZ a,hZ b] w (λv w'=>v=.bool (decide (¬ a=b))/\Ext w w'):=by
 have u:=St.start w;refine eX Tryz.func330 ?_;exact bW ⟨rfl,u.aG⟩
def C331(a b:Int)(w:World):CR 331 [hZ a,hZ b] w (λv w'=>v=.bool (decide (a<b))/\Ext w w'):=by
 have u:=St.start w;refine eX Tryz.func331 ?_;exact aR ⟨rfl,u.aG⟩
def C332(a b:Int)(w:World):CR 332 [hZ a,hZ b] w (λv w'=>v=.bool (decide (a<=b))/\Ext w w'):=by
 have u:=St.start w;refine eX Tryz.func332 ?_;exact iB ⟨rfl,u.aG⟩
def C333(a b:Int)(w:World):CR 333 [hZ a,hZ b] w (λv w'=>v=.bool (decide (¬ a=0)&&decide (¬ b=0))/\Ext w w'):=by
 have u:=St.start w;refine eX Tryz.func333 ?_;refine⟨_,?_,λ_ _ h=>h⟩;refine aV KE u (C303 _ _) (λ_ E u=>aC (λB=>?_) λB=>?_)
 .refine aV KE u (C303 _ _) (λ_ E u=>?_);intro G
  first|(rw[ez B];exact⟨rfl,u.aG⟩)|(rw[fN B];exact⟨rfl,u.aG⟩)
 intro G
 first|(rw[ez B];exact⟨rfl,u.aG⟩)|(rw[fN B];exact⟨rfl,u.aG⟩)
def C334(a b:Int)(w:World):CR 334 [hZ a,hZ b] w (λv w'=>v=.bool (decide (¬ a=0)||decide (¬ b=0))/\Ext w w'):=by
 have u:=St.start w;refine eX Tryz.func334 ?_;refine⟨_,?_,λ_ _ h=>h⟩;refine aV KE u (C303 _ _) (λ_ E u=>aC (λB=>?_) λB=>?_)
 .intro G
  first|(rw[ez B];exact⟨rfl,u.aG⟩)|(rw[fN B];exact⟨rfl,u.aG⟩)
 refine aV KE u (C303 _ _) (λ_ E u=>?_);intro G
 first|(rw[ez B];exact⟨rfl,u.aG⟩)|(rw[fN B];exact⟨rfl,u.aG⟩)
def C322(g:Nat)(w:World):CR 322 [.func (.func g) #[] #[]] w (λv w'=>∃b,v=.func (.func 323) #[] #[.pointer (some ⟨b,0,none⟩)]/\lg (bY b [.func (.func g) #[] #[]]) w w'):=by
 have B:=St.start w;refine eX Tryz.func322 ?_;exact nu B rfl (λu _ B=>⟨u,rfl,B.fresh⟩)
def C323(a b:Int)(b2:Nat)(fv:Value)(g:Int->Int->Bool)(w:World)(hc:Cell w b2 0 fv)(I:Fb2 fv g):CR 323 [hZ a,hZ b,.pointer (some ⟨b2,0,none⟩)] w (λv w'=>v=hZ (IY (g a b))/\Ext w w'):=by
 obtain⟨J,rfl,G,B⟩:=I;have u:=St.start w;refine eX Tryz.func323 ?_;refine bM anB (hc.ext u.aG) (gT (first:=[]) (cap:=[]) G (B a b _) ?_);rintro _ _ ⟨rfl,E⟩;have u:=u.ext E;exact aV V5 u (C302 _ _) (λ_ _ u=>⟨rfl,u.aG⟩)
def C304(w:World):CR 304 [] w (λv w'=>∃b1 b2 b3 b4 O b6,v=opsV b1 b2 b3 b4 O b6/\lg (eG (anI b1 b2 b3 b4 O b6)) w w'):=by
 have u:=St.start w;refine ab0 _ _ ?_;unfold S304;refine aM u RC (λJ _ u=>aM u RC λV _ u=>jV si cK cK (aT u wM (dL rfl) (rfl) λ_ u=>jV si cK cK (aT u wM (dL rfl) (rfl) λ_ u=>jV si cK cK (aT u wM (dL rfl) (rfl) λ_ u=>jV si cK cK (aT u wM (dL rfl) (rfl) λ_ u=>jV si cK cK (aT u wM (dL rfl) (rfl) λ_ u=>gT (first:=[]) (cap:=[]) GN (C322 329 _) ?_))))));rintro _ _ ⟨M,rfl,B⟩;have u:=u.made B;refine jV si cK cK (aT u.p1 wM (dL rfl) (rfl) λ_ u=>gT (first:=[]) (cap:=[]) GN (C322 330 _) ?_)
 rintro _ _ ⟨U,rfl,B⟩;have u:=u.made B;refine jV si cK cK (aT u.p1 wM (dL rfl) (rfl) λ_ u=>gT (first:=[]) (cap:=[]) GN (C322 331 _) ?_);rintro _ _ ⟨E,rfl,B⟩;have u:=u.made B;refine jV si cK cK (aT u.p1 wM (dL rfl) (rfl) λ_ u=>gT (first:=[]) (cap:=[]) GN (C322 332 _) ?_);rintro _ _ ⟨G,rfl,B⟩;have u:=u.made B;refine jV si cK cK (aT u.p1 wM (dL rfl) (rfl) λ_ u=>gT (first:=[]) (cap:=[]) GN (C322 333 _) ?_);rintro _ _ ⟨I,rfl,B⟩;have u:=u.made B;refine jV si cK cK (aT u.p1 wM (dL rfl) (rfl) λ_ u=>gT (first:=[]) (cap:=[]) GN (C322 334 _) ?_)
 rintro _ _ ⟨W,rfl,B⟩;have u:=u.made B;refine jV si cK cK (aT u.p1 wM (dL rfl) (rfl) λ_ u=>KI Wl u.hb rfl (D7 u.p7 Wl rfl ee (by simp[wB,jh]) λ_ u=>KI Wl u.hb rfl ?_));have u:=u.drop.drop.p1.p2.p3.p4.p5.rM.p1.rM.p2.rM.p3;have u:=u.rM.p4.rM.p5.rM.gZ.gZ.gZ.gZ.gZ;refine⟨M,U,E,G,I,W,rfl,(u.dM (Ψ:=anI M U E G I W) λw h=>?_).fresh⟩;obtain⟨⟨⟨⟨⟨h6,h5⟩,h4⟩,h3⟩,h2⟩,h1⟩:=h;exact⟨h1.cell rfl,h2.cell rfl,h3.cell rfl,h4.cell rfl,h5.cell rfl,h6.cell rfl⟩
def fb1:Fb2 (.func (.func 329) #[] #[]) (λa b=>decide (a=b)):=⟨329,rfl,anp,λa b u=>C329 a b u⟩
def fb2:Fb2 (.func (.func 330) #[] #[]) (λa b=>decide (¬ a=b)):=⟨330,rfl,anq,λa b u=>C330 a b u⟩
def fb3:Fb2 (.func (.func 331) #[] #[]) (λa b=>decide (a<b)):=⟨331,rfl,anr,λa b u=>C331 a b u⟩
def fb4:Fb2 (.func (.func 332) #[] #[]) (λa b=>decide (a<=b)):=⟨332,rfl,ans,λa b u=>C332 a b u⟩
def fb5:Fb2 (.func (.func 333) #[] #[]) (λa b=>decide (¬ a=0)&&decide (¬ b=0)):=⟨333,rfl,ant,λa b u=>C333 a b u⟩
def fb6:Fb2 (.func (.func 334) #[] #[]) (λa b=>decide (¬ a=0)||decide (¬ b=0)):=⟨334,rfl,anu,λa b u=>C334 a b u⟩
def C271(op a b:Int)(w:World):CR 271 [hZ op,hZ a,hZ b] w (λv w'=>v=.tuple #[hZ (gy op a b),hZ (gC op b)]/\Ext w w'):=by
 have u:=St.start w;refine abW _ _ _ _ _ ?_;unfold S271;refine⟨_,?_,λ_ _ h=>h⟩;refine aR (aC (λgH=>?_) λgH=>?_)
 .intro Z;refine iw ?_
  first|exact⟨rfl,u.aG⟩|(subst_vars;exact⟨rfl,u.aG⟩)|(refine⟨?_,u.aG⟩;unfold gy gC lM;first|(rw[ew (show op<5\/15<op by omega)];rfl)|simp[*])
 refine cR ?_;intro Z;refine aC (λjD=>?_) (λjD=>?_)
 .first|exact⟨rfl,u.aG⟩|(subst_vars;exact⟨rfl,u.aG⟩)|(refine⟨?_,u.aG⟩;unfold gy gC lM;first|(rw[ew (show op<5\/15<op by omega)];rfl)|simp[*])
 refine dQ anf (C304 _) ?_;rintro _ _ ⟨b1,b2,b3,b4,Y,b6,rfl,cL⟩;have u:=u.made cL;obtain rfl|rfl|rfl|rfl|rfl|rfl|rfl|rfl|rfl|rfl|rfl|rfl|rfl|rfl|rfl|rfl:op=0\/op=1\/op=2\/op=3\/op=4\/op=5\/op=6\/op=7\/op=8\/op=9\/op=10\/op=11\/op=12\/op=13\/op=14\/op=15:=cK
 .refine pop (v:=.nilFunc) (by kernel_rfl) (pop (v:=.bool true) (by kernel_rfl) (iw ?_))
  first|exact⟨rfl,u.aG⟩|(subst_vars;exact⟨rfl,u.aG⟩)|(refine⟨?_,u.aG⟩;unfold gy gC lM;first|(rw[ew (show op<5\/15<op by omega)];rfl)|simp[*])
 .refine pop (v:=.nilFunc) (by kernel_rfl) (pop (v:=.bool true) (by kernel_rfl) (iw ?_))
  first|exact⟨rfl,u.aG⟩|(subst_vars;exact⟨rfl,u.aG⟩)|(refine⟨?_,u.aG⟩;unfold gy gC lM;first|(rw[ew (show op<5\/15<op by omega)];rfl)|simp[*])
 .refine pop (v:=.nilFunc) (by kernel_rfl) (pop (v:=.bool true) (by kernel_rfl) (iw ?_))
  first|exact⟨rfl,u.aG⟩|(subst_vars;exact⟨rfl,u.aG⟩)|(refine⟨?_,u.aG⟩;unfold gy gC lM;first|(rw[ew (show op<5\/15<op by omega)];rfl)|simp[*])
 .refine pop (v:=.nilFunc) (by kernel_rfl) (pop (v:=.bool true) (by kernel_rfl) (iw ?_))
  first|exact⟨rfl,u.aG⟩|(subst_vars;exact⟨rfl,u.aG⟩)|(refine⟨?_,u.aG⟩;unfold gy gC lM;first|(rw[ew (show op<5\/15<op by omega)];rfl)|simp[*])
 .refine pop (v:=.nilFunc) (by kernel_rfl) (pop (v:=.bool true) (by kernel_rfl) (iw ?_))
  first|exact⟨rfl,u.aG⟩|(subst_vars;exact⟨rfl,u.aG⟩)|(refine⟨?_,u.aG⟩;unfold gy gC lM;first|(rw[ew (show op<5\/15<op by omega)];rfl)|simp[*])
 .refine pop (v:=.func (.func 324) #[] #[]) (by kernel_rfl) (pop (v:=.bool false) (by kernel_rfl) (ft ?_));refine⟨_,?_,λ_ _ h=>h⟩;refine aH (fH ee (aH (fH ee ?_)));intro E;refine ft (gT (first:=[]) (cap:=[]) ank (C324 a b _) ?_);rintro _ G ⟨rfl,B⟩;have u:=u.ext B
  first|exact⟨rfl,u.aG⟩|(subst_vars;exact⟨rfl,u.aG⟩)|(refine⟨?_,u.aG⟩;unfold gy gC lM;first|(rw[ew (show op<5\/15<op by omega)];rfl)|simp[*])
 .refine pop (v:=.func (.func 325) #[] #[]) (by kernel_rfl) (pop (v:=.bool false) (by kernel_rfl) (ft ?_));refine⟨_,?_,λ_ _ h=>h⟩;refine aH (fH ee (aH (fH ee ?_)));intro E;refine ft (gT (first:=[]) (cap:=[]) anl (C325 a b _) ?_);rintro _ G ⟨rfl,B⟩;have u:=u.ext B
  first|exact⟨rfl,u.aG⟩|(subst_vars;exact⟨rfl,u.aG⟩)|(refine⟨?_,u.aG⟩;unfold gy gC lM;first|(rw[ew (show op<5\/15<op by omega)];rfl)|simp[*])
 .refine pop (v:=.func (.func 326) #[] #[]) (by kernel_rfl) (pop (v:=.bool false) (by kernel_rfl) (ft ?_));refine⟨_,?_,λ_ _ h=>h⟩;refine aH (fH ee (aH (fH ee ?_)));intro E;refine ft (gT (first:=[]) (cap:=[]) anm (C326 a b _) ?_);rintro _ G ⟨rfl,B⟩;have u:=u.ext B
  first|exact⟨rfl,u.aG⟩|(subst_vars;exact⟨rfl,u.aG⟩)|(refine⟨?_,u.aG⟩;unfold gy gC lM;first|(rw[ew (show op<5\/15<op by omega)];rfl)|simp[*])
 .refine pop (v:=.func (.func 327) #[] #[]) (by kernel_rfl) (pop (v:=.bool false) (by kernel_rfl) (ft ?_));refine⟨_,?_,λ_ _ h=>h⟩;refine aH (jU ee (aH ?_));intro E;refine aC (λW=>?_) (λW=>?_)
  .first|exact⟨rfl,u.aG⟩|(subst_vars;exact⟨rfl,u.aG⟩)|(refine⟨?_,u.aG⟩;unfold gy gC lM;first|(rw[ew (show op<5\/15<op by omega)];rfl)|simp[*])
  refine gT (first:=[]) (cap:=[]) ann (C327 a b _ W) ?_;rintro _ G ⟨rfl,B⟩;have u:=u.ext B
  first|exact⟨rfl,u.aG⟩|(subst_vars;exact⟨rfl,u.aG⟩)|(refine⟨?_,u.aG⟩;unfold gy gC lM;first|(rw[ew (show op<5\/15<op by omega)];rfl)|simp[*])
 .refine pop (v:=.func (.func 328) #[] #[]) (by kernel_rfl) (pop (v:=.bool false) (by kernel_rfl) (ft ?_));refine⟨_,?_,λ_ _ h=>h⟩;refine aH (fH ee (aH (jU ee (aH ?_))));intro E;refine aC (λW=>?_) (λW=>?_)
  .first|exact⟨rfl,u.aG⟩|(subst_vars;exact⟨rfl,u.aG⟩)|(refine⟨?_,u.aG⟩;unfold gy gC lM;first|(rw[ew (show op<5\/15<op by omega)];rfl)|simp[*])
  refine gT (first:=[]) (cap:=[]) ano (C328 a b _ W) ?_;rintro _ G ⟨rfl,B⟩;have u:=u.ext B
  first|exact⟨rfl,u.aG⟩|(subst_vars;exact⟨rfl,u.aG⟩)|(refine⟨?_,u.aG⟩;unfold gy gC lM;first|(rw[ew (show op<5\/15<op by omega)];rfl)|simp[*])
 .refine pop (v:=.func (.func 323) #[] #[.pointer (some ⟨b1,0,none⟩)]) (by kernel_rfl) (pop (v:=.bool false) (by kernel_rfl) (ft ?_));refine⟨_,?_,λ_ _ h=>h⟩;refine aH (fH ee (aH (fH ee ?_)));intro E;refine ft ?_;obtain⟨I,U,M,V,O,J⟩:=u.eG;refine gT (first:=[]) (cap:=[.pointer (some ⟨b1,0,none⟩)]) GO (C323 a b b1 _ _ _ I fb1) ?_;rintro _ G ⟨rfl,B⟩;have u:=u.ext B
  first|exact⟨rfl,u.aG⟩|(subst_vars;exact⟨rfl,u.aG⟩)|(refine⟨?_,u.aG⟩;unfold gy gC lM;first|(rw[ew (show op<5\/15<op by omega)];rfl)|simp[*])
 .refine pop (v:=.func (.func 323) #[] #[.pointer (some ⟨b2,0,none⟩)]) (by kernel_rfl) (pop (v:=.bool false) (by kernel_rfl) (ft ?_));refine⟨_,?_,λ_ _ h=>h⟩;refine aH (fH ee (aH (fH ee ?_)));intro E;refine ft ?_;obtain⟨I,U,M,V,O,J⟩:=u.eG;refine gT (first:=[]) (cap:=[.pointer (some ⟨b2,0,none⟩)]) GO (C323 a b b2 _ _ _ U fb2) ?_;rintro _ G ⟨rfl,B⟩;have u:=u.ext B
  first|exact⟨rfl,u.aG⟩|(subst_vars;exact⟨rfl,u.aG⟩)|(refine⟨?_,u.aG⟩;unfold gy gC lM;first|(rw[ew (show op<5\/15<op by omega)];rfl)|simp[*])
 .refine pop (v:=.func (.func 323) #[] #[.pointer (some ⟨b3,0,none⟩)]) (by kernel_rfl) (pop (v:=.bool false) (by kernel_rfl) (ft ?_));refine⟨_,?_,λ_ _ h=>h⟩;refine aH (fH ee (aH (fH ee ?_)));intro E;refine ft ?_;obtain⟨I,U,M,V,O,J⟩:=u.eG;refine gT (first:=[]) (cap:=[.pointer (some ⟨b3,0,none⟩)]) GO (C323 a b b3 _ _ _ M fb3) ?_;rintro _ G ⟨rfl,B⟩;have u:=u.ext B
  first|exact⟨rfl,u.aG⟩|(subst_vars;exact⟨rfl,u.aG⟩)|(refine⟨?_,u.aG⟩;unfold gy gC lM;first|(rw[ew (show op<5\/15<op by omega)];rfl)|simp[*])
 .refine pop (v:=.func (.func 323) #[] #[.pointer (some ⟨b4,0,none⟩)]) (by kernel_rfl) (pop (v:=.bool false) (by kernel_rfl) (ft ?_));refine⟨_,?_,λ_ _ h=>h⟩;refine aH (fH ee (aH (fH ee ?_)));intro E;refine ft ?_;obtain⟨I,U,M,V,O,J⟩:=u.eG;refine gT (first:=[]) (cap:=[.pointer (some ⟨b4,0,none⟩)]) GO (C323 a b b4 _ _ _ V fb4) ?_;rintro _ G ⟨rfl,B⟩;have u:=u.ext B
  first|exact⟨rfl,u.aG⟩|(subst_vars;exact⟨rfl,u.aG⟩)|(refine⟨?_,u.aG⟩;unfold gy gC lM;first|(rw[ew (show op<5\/15<op by omega)];rfl)|simp[*])
 .refine pop (v:=.func (.func 323) #[] #[.pointer (some ⟨Y,0,none⟩)]) (by kernel_rfl) (pop (v:=.bool false) (by kernel_rfl) (ft ?_));refine⟨_,?_,λ_ _ h=>h⟩;refine aH (fH ee (aH (fH ee ?_)));intro E;refine ft ?_;obtain⟨I,U,M,V,O,J⟩:=u.eG;refine gT (first:=[]) (cap:=[.pointer (some ⟨Y,0,none⟩)]) GO (C323 a b Y _ _ _ O fb5) ?_;rintro _ G ⟨rfl,B⟩;have u:=u.ext B
  first|exact⟨rfl,u.aG⟩|(subst_vars;exact⟨rfl,u.aG⟩)|(refine⟨?_,u.aG⟩;unfold gy gC lM;first|(rw[ew (show op<5\/15<op by omega)];rfl)|simp[*])
 refine pop (v:=.func (.func 323) #[] #[.pointer (some ⟨b6,0,none⟩)]) (by kernel_rfl) (pop (v:=.bool false) (by kernel_rfl) (ft ?_));refine⟨_,?_,λ_ _ h=>h⟩;refine aH (fH ee (aH (fH ee ?_)));intro E;refine ft ?_;obtain⟨I,U,M,V,O,J⟩:=u.eG;refine gT (first:=[]) (cap:=[.pointer (some ⟨b6,0,none⟩)]) GO (C323 a b b6 _ _ _ J fb6) ?_;rintro _ G ⟨rfl,B⟩;have u:=u.ext B
 first|exact⟨rfl,u.aG⟩|(subst_vars;exact⟨rfl,u.aG⟩)|(refine⟨?_,u.aG⟩;unfold gy gC lM;first|(rw[ew (show op<5\/15<op by omega)];rfl)|simp[*])
theorem gI{α:Type}{l:List α}{k:Nat}{e:α}(h:l[k]?=some e):l.take k++[e]=l.take (k+1):=by rw[ta,h];rfl
def dY{α:Type}{φ:α->Prop}{l:List α}{k:Nat}{e:α}(h:∀y∈l.take k,φ y)(B:l[k]?=some e)(E:φ e):∀y∈l.take (k+1),φ y:=by
 intro y u
 rw[<- gI B]at u
 grind
theorem hG{α:Type}{g:α->Bool}{l:List α}{k:Nat}{e:α}(B:l[k]?=some e)(u:g e=true):l.any g=true:=List.any_eq_true.2 ⟨e,kO B,u⟩
theorem iz{α:Type}{g:α->Bool}{l:List α}(h:∀y∈l,g y=false):l.any g=false:=by
 grind
def sj{α:Type}(g:α->Bool)(l:List α):Int:=match l.findIdx? g with|some k=>k|none=>-1
def ma{α:Type}{g:α->Bool}{l:List α}{k:Nat}{e:α}(u:∀y∈l.take k,g y=false)(E:l[k]?=some e)(I:g e=true):sj g l=k:=by
 have:l.findIdx? g=some k:=by
  rw[List.findIdx?_eq_some_iff_getElem]
  have B:=(kE.1 E).1
  refine⟨B,dD,λj G=>?_⟩
  have:=u (l[j]'(cK)) (List.mem_take_iff_getElem.2 ⟨j,cK,rfl⟩)
  simp[this]
 unfold sj;rw[this]
def je{α:Type}{g:α->Bool}{l:List α}(u:∀y∈l,g y=false):sj g l = -1:=by
 grind[sj]
def kT{α:Type}(g:α->Bool)(l:List α):decide (0<=sj g l)=l.any g:=by
 grind[sj]
def wg{α:Type}[Flat α](w:World)(f:Value)(g:α->Bool):Prop:=∃B first cap,f=.func (.func B) (N2 first) (N2 cap)/\Plain hH B/\
 ∀x u,Ext w u->Calls hH B (first++[ia x]++cap).toArray u (tP λv E=>v=.bool (g x)/\Ext u E)
theorem wg.ext{α:Type}[Flat α]{w w':World}{f:Value}{g:α->Bool}(h:wg w f g)(e:Ext w w'):wg w' f g:=by
 obtain⟨B,first,cap,h1,h2,h3⟩:=h;exact⟨B,first,cap,h1,h2,λx u E=>h3 x u (e.trans E)⟩
def eC(k:Int):Int:=if k=3\/k=4 then 1 else if 5<=k/\k<=15 then 2 else 0
def Vk(st:Option (Int×Int))(x:oy):Option (Int×Int):=match st with
 | none=>none
 | some (n,h)=>if n-eC x.kind<0 then none else some (n-eC x.kind+1,max h (n-eC x.kind+1))
def ht(l:List oy):Option (Int×Int):=l.foldl Vk (some (0,0))
def htN(l:List oy):Int:=match ht l with|some p=>p.1|none=>0
def htH(l:List oy):Int:=match ht l with|some p=>p.2|none=>0
theorem AE{l:List oy}{k:Nat}{x:oy}(h:l[k]?=some x):ht (l.take (k+1))=Vk (ht (l.take k)) x:=by
 unfold ht;rw[<- gI h,CO];rfl
def RK{l:List oy}{k:Nat}(h:ht (l.take k)=none):ht l=none:=by
 have B:∀m:List oy,m.foldl Vk none=none:=λm=>by induction m with|nil=>rfl|cons y m u=>exact u
 have e:l=l.take k++l.drop k:=(pJ k l).symm
 grind[ht]
def RL(k:Int):0<=eC k/\eC k<=2:=by
 grind[eC]
theorem ahN{l:List oy}:∀k n h,k<=l.length->ht (l.take k)=some (n,h)->0<=n/\n<=(k:Int)/\0<=h/\h<=(k:Int)
 | 0,n,h,_,e=>by
  have:ht ([]:List oy)=some (0,0):=rfl
  grind
 | k+1,n,h,E,e=>by
  obtain⟨x,u⟩:=gx l (i:=k) cK
  rw[AE u]at e
  cases hp:ht (l.take k)with
  | none=>rw[hp]at e;cases e
  | some p=>
   obtain⟨a,b⟩:=p
   have G:=ahN k a b cK hp
   have B:=RL x.kind
   rw[hp]at e
   unfold Vk at e
   grind
def acq{l:List oy}{k:Nat}{x:oy}{n h m:Int}(B:l[k]?=some x)(u:ht (l.take k)=some (n,h))(G:m=n-eC x.kind)(E:¬ m<0):ht (l.take (k+1))=some (m+1,max h (m+1)):=by
 rw[AE B,u];grind[Vk]
def ahO{l:List oy}{k:Nat}{x:oy}{n h m:Int}(B:l[k]?=some x)(u:ht (l.take k)=some (n,h))(G:m=n-eC x.kind)(E:m<0):ht (l.take (k+1))=none:=by
 rw[AE B,u];grind[Vk]
def q7(many:Int)(x:oy):Bool:=decide ((x.kind=1/\(x.n<0\/4294967296<x.n))\/(x.kind=2/\(x.n<0\/many<=x.n))\/(¬ x.kind=1/\¬ x.kind=2/\(¬ x.n=0\/x.kind<1\/16<=x.kind)))
def mz(l:List oy)(many:Int):Bool:=decide (l.length<=40)&&(ht l).isSome&&decide (htN l=1)&&!l.any (q7 many)
def C267(k:Int)(w:World):CR 267 [hZ k] w (λv w'=>v=hZ (eC k)/\Ext w w'):=by
 have B:=St.start w;refine eX Tryz.func267 ?_;refine⟨λI w'=>I=.bool (decide (k=3\/k=4))/\w=w',aH (aC (λ_=>⟨N1 cK,rfl⟩) λ_=>aH ⟨yB cK,rfl⟩),?_⟩;rintro _ _ ⟨rfl,G⟩ _;subst G;refine aC (λu=>?_) (λu=>⟨λI w'=>I=.bool (decide (5<=k/\k<=15))/\w=w',cR (aC (λ_=>iB ⟨yB cK,rfl⟩) λ_=>⟨jvF cK,rfl⟩),?_⟩)
 .unfold eC
  first|(rw[ew u];exact⟨rfl,B.aG⟩)|(rw[ej u,ew E];exact⟨rfl,B.aG⟩)|(rw[ej u,ej E];exact⟨rfl,B.aG⟩)
 rintro _ _ ⟨rfl,G⟩ _;subst G;refine aC (λE=>?_) (λE=>?_)
 .unfold eC
  first|(rw[ew u];exact⟨rfl,B.aG⟩)|(rw[ej u,ew E];exact⟨rfl,B.aG⟩)|(rw[ej u,ej E];exact⟨rfl,B.aG⟩)
 unfold eC
 first|(rw[ew u];exact⟨rfl,B.aG⟩)|(rw[ej u,ew E];exact⟨rfl,B.aG⟩)|(rw[ej u,ej E];exact⟨rfl,B.aG⟩)
def C299(sv:Value)(xs:List oy)(w:World)(M:dA (λ_=>True) w sv xs)(hn:xs.length<=1048576):CR 299 [sv] w (λv w'=>v=.tuple #[hZ (htN xs),hZ (htH xs),.bool (ht xs).isSome]/\Ext w w'):=by
 have u:=St.start w;refine eX Tryz.func299 ?_;refine aK tB (M.ext u.aG) ?_;refine⟨λm y z x I=>∃(k:Nat) (n h:Int),y=hZ n/\z=hZ h/\x=hZ (k:Int)/\m=xs.length-k/\k<=xs.length/\ht (xs.take k)=some (n,h)/\St w bD [] I,⟨_,0,0,0,rfl,rfl,rfl,rfl,cK,rfl,u⟩,?_⟩;rintro m _ _ _ I ⟨k,n,h,rfl,rfl,rfl,rfl,Z,B,u⟩ _;refine aR (aC (λO=>?_) λO=>?_)
 .obtain⟨J,E⟩:=gx xs (i:=(k:Int).toNat) cK;refine aO tB (M.ext u.aG) cK E (λ_ W=>aD Eb W (aM u IQ λTG _ u=>aJ (x:=J) u Eb rfl rfl λ_ u=>aA nB (aB bL u.hb rfl (aV V2 u (C267 _ _) λ_ he u=>?_))));have Y:=RL J.kind;have U:=ahN k n h cK B;refine fg cK (aR (aC (λG=>?_) λG=>aN cK (Dk (aN cK ⟨_,cK,k+1,_,_,rfl,rfl,rfl,rfl,cK,by rw[AE (k:=k) E,B];unfold Vk;simp only[];rw[ej G],u.drop⟩))));have V:ht xs=none:=RK (k:=k+1) (by rw[AE (k:=k) E,B];unfold Vk;simp only[];rw[ew G])
  unfold htN htH;rw[V];exact⟨rfl,u.aG⟩
 rw[kW cK]at B;unfold htN htH;rw[B];exact⟨rfl,u.aG⟩
def C298(x:oy)(b2:Nat)(many:Int)(w:World)(hc:Cell w b2 0 (hZ many)):CR 298 [ia x,.pointer (some ⟨b2,0,none⟩)] w (λv w'=>v=.bool (q7 many x)/\Ext w w'):=by
 have u:=St.start w;refine eX Tryz.func298 ?_;refine cI u (λW _ u=>aA nB (aB bL u.hb rfl (aH (aC (λJ=>⟨_,aA qt (aB bL u.hb rfl (aR (aC (λO=>?_) λO=>?_))),λ_ _ h=>h⟩) λJ=>aA nB (aB bL u.hb rfl (aH (aC (λG=>⟨_,aA qt (aB bL u.hb rfl (aR (aC (λV=>?_) λV=>?_))),λ_ _ h=>h⟩) λG=>?_)))))))
 .intro I;refine⟨vb ?_,u.aG⟩;unfold q7
  first|exact(ez cK).symm|exact(fN cK).symm|exact ga.2 cK
 .refine aA qt (aB bL u.hb rfl (cO ?_));intro I;refine⟨vb ?_,u.aG⟩;unfold q7
  first|exact(ez cK).symm|exact(fN cK).symm|exact ga.2 cK
 .intro E;refine⟨vb ?_,u.aG⟩;unfold q7
  first|exact(ez cK).symm|exact(fN cK).symm|exact ga.2 cK
 .refine aA qt (aB bL u.hb rfl (bM bL (hc.ext u.aG) (cR ?_)));intro E;refine⟨vb ?_,u.aG⟩;unfold q7
  first|exact(ez cK).symm|exact(fN cK).symm|exact ga.2 cK
 refine⟨_,?_,λ_ _ h=>h⟩;refine aA qt (aB bL u.hb rfl (bW (aC (λU=>?_) λU=>aA nB (aB bL u.hb rfl (aR (aC (λM=>?_) λM=>?_))))))
 .intro B;refine⟨vb ?_,u.aG⟩;unfold q7
  first|exact(ez cK).symm|exact(fN cK).symm|exact ga.2 cK
 .intro B;refine⟨vb ?_,u.aG⟩;unfold q7
  first|exact(ez cK).symm|exact(fN cK).symm|exact ga.2 cK
 refine aA nB (aB bL u.hb rfl (cR ?_));intro B;refine⟨vb ?_,u.aG⟩;unfold q7
 first|exact(ez cK).symm|exact(fN cK).symm|exact ga.2 cK
def C321(sv fv:Value)(xs:List oy)(g:oy->Bool)(w:World)(J:dA (λ_=>True) w sv xs)(M:wg w fv g)(hn:xs.length<=1073741824):CR 321 [sv,fv] w (λv w'=>v=hZ (sj g xs)/\Ext w w'):=by
 obtain⟨g0,first,cap,rfl,W,O⟩:=M;have u:=St.start w;refine eX Tryz.func321 ?_;refine aK tB (J.ext u.aG) ?_;refine⟨λm x G=>∃k:Nat,x=hZ (k:Int)/\m=xs.length-k/\k<=xs.length/\(∀y∈xs.take k,g y=false)/\St w bD [] G,⟨_,0,rfl,rfl,l1 _,ei,u⟩,?_⟩;rintro m _ G ⟨k,rfl,rfl,Z,B,u⟩ _;refine aR (aC (λjH=>?_) λ_=>⟨gN (nf .i64) (je (by rw[kW cK]at B;exact B)).symm,u.aG⟩);obtain⟨V,I⟩:=gx xs (i:=(k:Int).toNat) cK;refine aO tB (J.ext u.aG) cK I (λ_ U=>aD Eb U (gT W (O V G u.aG) ?_))
 rintro _ _ ⟨rfl,Y⟩;have u:=u.ext Y;exact aY (λE=>⟨gN (nf .i64) (ma B I E).symm,u.aG⟩) (λE=>aN cK ⟨xs.length-(k+1),cK,k+1,rfl,rfl,cK,dY B I E,u⟩)
def C300(sv fv:Value)(xs:List oy)(g:oy->Bool)(w:World)(E:dA (λ_=>True) w sv xs)(B:wg w fv g)(G:xs.length<=1073741824):CR 300 [sv,fv] w (λv w'=>v=.bool (xs.any g)/\Ext w w'):=by
 have u:=St.start w;refine eX Tryz.func300 ?_;exact aV anj u (C321 _ _ _ _ _ (E.ext u.aG) (B.ext u.aG) cK) (λ_ _ u=>cR ⟨vb (kT _ _),u.aG⟩)
def C266(sv:Value)(xs:List oy)(many:Int)(w:World)(G:dA (λ_=>True) w sv xs)(Y:xs.length<=1048576):CR 266 [sv,hZ many] w (λv w'=>v=.bool (mz xs many)/\Ext w w'):=by
 have u:=St.start w;refine eX Tryz.func266 ?_;refine nu u rfl (λJ I u=>aV anb u (C299 _ _ _ (G.ext u.aG) cK) λ_ W u=>aQ rfl (aQ rfl (aQ rfl ?_)));refine⟨_,?_,λ_ _ h=>h⟩;refine aK tB (G.ext u.aG) (iB (aC (λU=>aY (λV=>aH (aC (λO=>?_) λO=>?_)) λV=>?_) λU=>?_))
 .have B:wg _ (.func (.func 298) [].toArray [.pointer (some ⟨J,0,none⟩)].toArray) (q7 many):=
   ⟨298,[],_,rfl,ana,λy I M=>C298 y J many I ((u.hb.cell rfl).ext M)⟩
  refine aV anc u (C300 _ _ _ _ _ (G.ext u.aG) B cK) (λ_ W u=>bR ?_);intro E;refine⟨vb ?_,u.aG⟩;unfold mz
  simp_all<;>omega
 .intro E;refine⟨vb ?_,u.aG⟩;unfold mz
  simp_all<;>omega
 .intro E;refine⟨vb ?_,u.aG⟩;unfold mz
  simp_all<;>omega
 intro E;refine⟨vb ?_,u.aG⟩;unfold mz
 simp_all<;>omega
def oY(b:Nat)(rest:List Value)(l:List Int):HP:=pH λsv=>sep (bY b (sv::rest)) (bH sv l)
def oY.shut{w0 w:World}{A:Nat->Prop}{R:List HP}{b:Nat}{rest:List Value}{sv:Value}{l:List Int}(u:St w0 A (bY b (sv::rest)::bH sv l::R) w):St w0 A (oY b rest l::R) w:=
 St.ek (H:=λsv=>sep (bY b (sv::rest)) (bH sv l)) sv (St.join u)
def oY.open{w0 w:World}{A:Nat->Prop}{R:List HP}{b:Nat}{rest:List Value}{l:List Int}(u:St w0 A (oY b rest l::R) w):∃sv,St w0 A (bY b (sv::rest)::bH sv l::R) w:=by
 obtain⟨sv,u⟩:=u.eh;exact⟨sv,u.split⟩
def ke(l:List Int):Int:=l.getD (l.length-1) 0
theorem WG{l:List Int}{e:Int}(h:l[((l.length:Int)-1).toNat]?=some e):e=ke l:=by
 simp_all[ke]
def C301(b:Nat)(n:Int)(rest:List Value)(l:List Int)(F:Nat->Prop)(w:World)(E:(oY b rest l).p w F)(I:l.length<=1048576):CR 301 [.pointer (some ⟨b,0,none⟩),hZ n] w (λv w'=>v=.tuple #[]/\mP F (oY b rest (l++[n])) w w'):=by
 have u:=St.begin E;obtain⟨sv,u⟩:=u.eh;have u:=u.split;refine eX Tryz.func301 ?_;refine aE (aA qq (aB eg u.hb rfl (aZ ([n]:List Int) u cS rfl rfl (dL rfl) λB _ u=>?_)));have G:=u.dX;exact bJ u.p2 cS G (by simp<;>omega) ee (λ_ _ u=>have u:=u.p1.drop;aE (aA qq (aT u.p1 eg (dL rfl) u.dX.one λ_ u=>have u:=u.p1.p1;⟨rfl,(oY.shut u).mut⟩)))
def C270(b:Nat)(rest:List Value)(l:List Int)(F:Nat->Prop)(w:World)(I:(oY b rest l).p w F)(J:l.length<=1048576)(O:0<l.length):CR 270 [.pointer (some ⟨b,0,none⟩)] w (λv w'=>v=hZ (ke l)/\mP F (oY b rest (l.take (l.length-1))) w w'):=by
 have u:=St.begin I;obtain⟨sv,u⟩:=u.eh;have u:=u.split;refine oH Tryz.func270 (pl:=auI) ?_;refine aE (aA qq (have u:=u.drew;aB eg u.hb rfl (aE (aA qq (aB eg u.hb rfl (aK cS u.p1.dX (fg cK ?_)))))));obtain⟨M,E⟩:=gx l (i:=((l.length:Int)-1).toNat) cK;refine dR u.p1 cS cK cK (λ_ G=>gL u.p1 bL G E (aE (aA qq (have u:=u.drew;aB eg u.hb rfl (aE (aA qq (aB eg u.hb rfl (aK cS u.p1.dX (fg cK (have u:=u.p1;sf cS u cK cK λB u=>aE (aA qq ?_)))))))))))
 refine aT u.p1 eg (dL rfl) u.dX.one (λ_ u=>?_);have u:=u.p1.p1;rw[show((l.length:Int)-1).toNat=l.length-1 from cK]at u;rw[WG E];exact⟨rfl,(oY.shut u).mut⟩
def C268(b:Nat)(n hi:Int)(l:List Int)(F:Nat->Prop)(w:World)(B:(oY b [hZ hi] l).p w F)(G:l.length<=1048576):CR 268 [.pointer (some ⟨b,0,none⟩),hZ n] w (λv w'=>v=.tuple #[]/\∃E,mP F (oY b [hZ E] (l++[n])) w w'):=by
 have u:=St.begin B;refine oH Tryz.func268 (pl:=auH) ?_;refine aE (aA uD (qf ane u (H':=λ_=>oY b [hZ hi] (l++[n])) (Φ:=λv _=>v=.tuple #[]) (λF B=>?_) ?_))
 .exact C301 b n _ l F _ B cK
 rintro _ _ rfl u;obtain⟨sv,u⟩:=oY.open u;exact aE (aA Lf (have u:=u.drew;aB bL u.hb rfl (aE (aA uD (aA qq (aB eg u.hb rfl (aK cS u.p1.dX (Dk (aE (aA Lf (aT u bL (dL rfl) (rfl) λ_ u=>have u:=u.p1.p1;⟨rfl,_,(oY.shut u).mut⟩)))))))))))
def lr(ns S:List Int)(x:oy):List Int:=
 if eC x.kind=0 then S++[if x.kind=2 then ns.getD x.n.toNat 0 else x.n]
 else if eC x.kind=1 then S.take (S.length-1)++[yt x.kind (ke S)]
 else S.take (S.length-2)++[gy x.kind (ke (S.take (S.length-1))) (ke S)]
def vl(S:List Int)(x:oy):Int:=if eC x.kind=2 then gC x.kind (ke S)else 0
def wi(ns:List Int):List oy->List Int->Int×Int
 | [],S=>(ke S,0)
 | x::r,S=>if vl S x=0 then wi ns r (lr ns S x)else(0,vl S x)
def runM(l:List oy)(ns:List Int):Int×Int:=if mz l ns.length=true then wi ns l []else(0,8)
def AG(k:Int):eC k=0\/eC k=1\/eC k=2:=by
 grind[eC]
section
variable {xs:List oy}{ns S:List Int}{k:Nat}{x:oy}{n h:Int}
theorem Dm(B:xs[k]?=some x)(h:vl S x=0):wi ns (xs.drop k) S=wi ns (xs.drop (k+1)) (lr ns S x):=by
 obtain⟨E,u⟩:=kE.1 B
 rw[tc E,u,wi,ew h]
theorem WH(B:xs[k]?=some x)(h:¬ vl S x=0):wi ns (xs.drop k) S=(0,vl S x):=by
 obtain⟨E,u⟩:=kE.1 B
 rw[tc E,u,wi,ej h]
theorem yK{many:Int}(h:mz xs many=true):xs.length<=40/\(∃a,ht xs=some (1,a))/\∀x∈xs,q7 many x=false:=by
 unfold mz at h
 rw[n5,n5,n5,decide_eq_true_eq,decide_eq_true_eq]at h
 obtain⟨⟨⟨h1,h2⟩,h3⟩,h4⟩:=h
 refine⟨h1,?_,λx u=>?_⟩
 .unfold htN at h3
  grind
 grind
theorem TH(u:eC x.kind<=(S.length:Int)):((lr ns S x).length:Int)=S.length-eC x.kind+1:=by
 unfold lr
 rcases AG x.kind with h|h|h
 .grind
 .grind
 grind
theorem TI{a:Int}(I:ht xs=some (1,a))(B:ht (xs.take k)=some ((S.length:Int),h))(E:xs[k]?=some x) :
  eC x.kind<=(S.length:Int)/\∃G,ht (xs.take (k+1))=some (((lr ns S x).length:Int),G):=by
 have u:eC x.kind<=(S.length:Int):=by
  rcases Int.lt_or_le ((S.length:Int)-eC x.kind) 0 with h1|h1
  .have:=RK (ahO E B rfl h1);grind
  .omega
 exact⟨u,_,(acq E B rfl cK).trans (by rw[TH u])⟩
theorem ahP(u:eC x.kind=0)(h2:¬ x.kind=2):lr ns S x=S++[x.n]:=by unfold lr;grind
theorem ahQ{e:Int}(u:eC x.kind=0)(h2:x.kind=2)(B:ns[x.n.toNat]?=some e):lr ns S x=S++[e]:=by
 grind[lr]
theorem ahR(u:eC x.kind=1):lr ns S x=S.take (S.length-1)++[yt x.kind (ke S)]:=by unfold lr;rw[ej cK,ew u]
theorem ahS(u:eC x.kind=2):lr ns S x=S.take (S.length-2)++[gy x.kind (ke (S.take (S.length-1))) (ke S)]:=by unfold lr;rw[ej cK,ej cK]
theorem WI(u:¬ eC x.kind=2):vl S x=0:=by unfold vl;omega
theorem afY(u:eC x.kind=2):vl S x=gC x.kind (ke S):=by unfold vl;omega
theorem ON(h:2<=S.length):(S.take (S.length-1)).take ((S.take (S.length-1)).length-1)=S.take (S.length-2):=by
 grind
end
def ng(b:Nat)(l:List Int):HP:=pH fun (hi:Int)=>oY b [hZ hi] l
def ng.shut{w0 w:World}{A:Nat->Prop}{R:List HP}{b:Nat}{hi:Int}{l:List Int}(u:St w0 A (oY b [hZ hi] l::R) w):St w0 A (ng b l::R) w:=
 St.ek (H:=fun (hi:Int)=>oY b [hZ hi] l) hi u
def acr(b:Nat)(n:Int)(l:List Int)(F:Nat->Prop)(w:World)(u:(ng b l).p w F)(E:l.length<=1048576) :
  Calls hH 268 [.pointer (some ⟨b,0,none⟩),hZ n].toArray w (tP λv w'=>v=.tuple #[]/\mP F (ng b (l++[n])) w w'):=by
 obtain⟨hi,u⟩:=u
 refine(C268 b n hi l F w u E).mono λe w' ⟨v,B,I,G,J,h1,h2⟩=>⟨v,B,I,J,⟨G,h1⟩,h2⟩
def acs(b:Nat)(l:List Int)(F:Nat->Prop)(w:World)(u:(ng b l).p w F)(E:l.length<=1048576)(I:0<l.length) :
  Calls hH 270 [.pointer (some ⟨b,0,none⟩)].toArray w (tP λv w'=>v=hZ (ke l)/\mP F (ng b (l.take (l.length-1))) w w'):=by
 obtain⟨hi,u⟩:=u
 refine(C270 b [hZ hi] l F w u E I).mono λe w' ⟨v,B,G,J,h1,h2⟩=>⟨v,B,G,J,⟨hi,h1⟩,h2⟩
def C219(sv nv:Value)(xs:List oy)(ns:List Int)(w:World)(hL:dA (λ_=>True) w sv xs)(hN:dA (λ_=>True) w nv ns)(hn:xs.length<=1048576):CR 219 [sv,nv] w (λv w'=>v=.tuple #[hZ (runM xs ns).1,hZ (runM xs ns).2]/\Ext w w'):=by
 have u:=St.start w;refine abO _ _ _ _ ?_;unfold S219;refine aK cS (hN.ext u.aG) (aV amY u (C266 _ _ _ _ (hL.ext u.aG) hn) λw1 he u=>bR (aY (λfr=>?_) λfr=>?_))
 .unfold runM;rw[ej (by simpa using fr)];exact⟨rfl,u.aG⟩
 refine aM u ach (λE _ u=>?_);have u:=ng.shut (oY.shut (u.eM (α:=Int)).p1);have lP:mz xs (ns.length:Int)=true:=by simpa using fr
 obtain⟨h40,⟨a0,wy⟩,Z⟩:=yK lP;refine aK tB (hL.ext u.aG) ?_;refine⟨λm x w1=>∃(k:Nat) (S:List Int) (h:Int),x=hZ (k:Int)/\m=xs.length-k/\k<=xs.length/\wi ns xs []=wi ns (xs.drop k) S/\ht (xs.take k)=some ((S.length:Int),h)/\St w bD [ng E S] w1,⟨_,0,[],0,rfl,rfl,cK,rfl,rfl,u⟩,?_⟩;rintro m _ _ ⟨k,S,h,rfl,rfl,hk,O,V,u⟩ _;refine aR (aC (λm6=>?_) λm6=>?_)
 .refine⟨_,?_,λ_ h=>h⟩;obtain⟨B,J⟩:=gx xs (i:=(k:Int).toNat) cK;refine aO tB (hL.ext u.aG) cK J (λ_ wR=>aD Eb wR (aM u IQ λTG _ u=>aJ (x:=B) u Eb rfl rfl λ_ u=>aA nB (aB bL u.hb rfl (aV V2 u (C267 _ _) λ_ he u=>?_))));have Km:=Z _ (kO J);unfold q7 at Km;have ho:=g6 Km;obtain⟨hw0,h2,I⟩:=TI (ns:=ns) (k:=k) wy V J;have hwk:eC B.kind=0->B.kind=1\/B.kind=2\/¬ (B.kind=1\/B.kind=2):=λ_=>cK
  have hSk:=ahN k _ _ cK V;have hw3:=AG B.kind;refine aH (aC (λY=>aA qt (aB bL u.hb rfl ⟨_,aA nB (aB bL u.hb rfl (aH (aC (λwU=>?_) λwU=>?_))),λ_ _ h=>h⟩)) λY=>aH (aC (λU=>?_) λU=>?_))
  .refine aA qt (aB bL u.hb rfl ?_);obtain⟨WJ,OO⟩:=gx ns (i:=B.n.toNat) cK;refine aO cS (hN.ext u.aG) cK OO (λ_ AH=>aD bL AH ?_);intro vP;refine qf Rl u.p1 (H':=λ_=>ng E (S++[WJ])) (Φ:=λv _=>v=.tuple #[]) (λF G=>?_) ?_
   .exact acr E WJ S F _ G (by first|omega|(simp only[l0,lY,mf];omega))
   rintro _ w8 rfl u;intro W;refine aN cK ?_;have u:=u.p1.drop;have M:lr ns S B=_:=ahQ Y wU OO;exact⟨_,cK,k+1,_,_,rfl,rfl,cK,O.trans (Dm (k:=k) J (WI cK)),I,by rw[M];exact u⟩
  .intro vP;refine qf Rl u.p1 (H':=λ_=>ng E (S++[B.n])) (Φ:=λv _=>v=.tuple #[]) (λF G=>?_) ?_
   .exact acr E B.n S F _ G (by first|omega|(simp only[l0,lY,mf];omega))
   rintro _ w8 rfl u;intro W;refine aN cK ?_;have u:=u.p1.drop;have M:lr ns S B=_:=ahP Y wU;exact⟨_,cK,k+1,_,_,rfl,rfl,cK,O.trans (Dm (k:=k) J (WI cK)),I,by rw[M];exact u⟩
  .refine aA nB (have u:=u.drew;aB bL u.hb rfl (aA uD (qf Rm u.p1 (H':=λ_=>ng E (S.take (S.length-1))) (Φ:=λv _=>v=hZ (ke S)) (λF G=>?_) ?_)))
   .exact acs E S F _ G (by first|omega|(simp only[l0,lY,mf];omega)) (by first|omega|(simp only[l0,lY,mf];omega))
   rintro _ _ rfl u;refine⟨aF bL (u.p1.hb.cell rfl),?_⟩;refine aV amZ u (C269 _ _ _) (λ_ he u=>aQ rfl (aQ rfl (qf Rl u (H':=λ_=>ng E ((S.take (S.length-1))++[(yt B.kind (ke S))])) (Φ:=λv _=>v=.tuple #[]) (λF G=>?_) ?_)))
   .exact acr E (yt B.kind (ke S)) (S.take (S.length-1)) F _ G (by first|omega|(simp only[l0,lY,mf];omega))
   rintro _ _ rfl u;intro W;refine aN cK ?_;have u:=u.p1.drop;have M:lr ns S B=_:=ahR U;exact⟨_,cK,k+1,_,_,rfl,rfl,cK,O.trans (Dm (k:=k) J (WI cK)),I,by rw[M];exact u⟩
  refine aA uD (qf Rm u.p1 (H':=λ_=>ng E (S.take (S.length-1))) (Φ:=λv _=>v=hZ (ke S)) (λF G=>?_) ?_)
  .exact acs E S F _ G (by first|omega|(simp only[l0,lY,mf];omega)) (by first|omega|(simp only[l0,lY,mf];omega))
  rintro _ _ rfl u;refine aA nB (have u:=u.drew;aB bL u.p1.hb rfl (aA uD (qf Rm u (H':=λ_=>ng E ((S.take (S.length-1)).take ((S.take (S.length-1)).length-1))) (Φ:=λv _=>v=hZ (ke (S.take (S.length-1)))) (λF G=>?_) ?_)))
  .exact acs E (S.take (S.length-1)) F _ G (by first|omega|(simp only[l0,lY,mf];omega)) (by first|omega|(simp only[l0,lY,mf];omega))
  rintro _ _ rfl u;refine⟨aF bL (u.p1.hb.cell rfl),?_⟩;refine aV am0 u (C271 _ _ _ _) (λ_ he u=>aQ rfl (aQ rfl (bW (aC (λvR=>?_) λvR=>?_))))
  .have hz:vl S B=gC B.kind (ke S):=afY (by have:=AG B.kind;omega);unfold runM;rw[ew lP,O,WH (k:=k) J (by rw[hz];exact vR),hz];exact⟨rfl,u.aG⟩
  refine qf Rl u (H':=λ_=>ng E (((S.take (S.length-1)).take ((S.take (S.length-1)).length-1))++[(gy B.kind (ke (S.take (S.length-1))) (ke S))])) (Φ:=λv _=>v=.tuple #[]) (λF G=>?_) ?_
  .exact acr E (gy B.kind (ke (S.take (S.length-1))) (ke S)) ((S.take (S.length-1)).take ((S.take (S.length-1)).length-1)) F _ G (by first|omega|(simp only[l0,lY,mf];omega))
  rintro _ _ rfl u;intro W;refine aN cK ?_;have u:=u.p1.drop;rw[ON cK]at u;have M:lr ns S B=_:=ahS (by have:=AG B.kind;omega);exact⟨_,cK,k+1,_,_,rfl,rfl,cK,O.trans (Dm (k:=k) J ((afY (by have:=AG B.kind;omega)).trans (u1.1 vR))),I,by rw[M];exact u⟩
 refine aA uD ?_
 have hS1:S.length=1:=by
  rw[kW cK,wy]at V;have:=(Prod.mk.inj (oe.inj V)).1;omega
 refine qf Rm u (H':=λ_=>ng E (S.take (S.length-1))) (Φ:=λv _=>v=hZ (ke S)) (λF G=>?_) ?_
 .exact acs E S F _ G (by first|omega|(simp only[l0,lY,mf];omega)) (by first|omega|(simp only[l0,lY,mf];omega))
 rintro _ _ rfl u;unfold runM;rw[ew lP,O,vt cK];exact⟨rfl,u.aG⟩
def WK(x:Int):eU (Bv x):=by unfold eU Bv;rw[IntKind.wrap_i64];omega
def acw{a:Int}(b:Int)(u:eU a):eU (a.tmod b):=by
 have B:(a.tmod b).natAbs<=a.natAbs:=by rw[RM];exact abf _ _
 unfold eU at *
 rcases WD 0 a with h|h
 .have:=Po b h;omega
 have:=Po (a:=-a) b cK
 rw[aaY]at this;omega
def WL(p:Bool):eU (IY p):=by cases p<;>(unfold eU IY;decide)
def iC:eU 0:=by unfold eU;decide
def WM{op a b:Int}(u:eU a):eU (gy op a b):=by
 unfold gy
 by_cases h:gC op b=0
 .rw[ew h]
  unfold lM Ep
  repeat' split
  all_goals first|exact WK _|exact WL _|exact iC|exact acw _ u
 rw[ej h];exact iC
def WN{op a:Int}:eU (yt op a):=by
 unfold yt
 repeat' split
 all_goals first|exact WK _|exact WL _|exact iC
def yu(S:List Int):Prop:=∀v∈S,eU v
theorem Lq{S:List Int}(h:yu S):eU (ke S):=by
 unfold ke
 rw[ob]
 cases hh:S[S.length-1]? with
 | none=>exact iC
 | some e=>exact h e (kO hh)
def yu.take{S:List Int}(h:yu S)(k:Nat):yu (S.take k):=λv u=>h v (vB u)
def yu.snoc{S:List Int}{e:Int}(h:yu S)(B:eU e):yu (S++[e]):=λv u=>by
 rcases List.mem_append.1 u with u|u
 .exact h v u
 grind
theorem WO{ns S:List Int}{x:oy}{many:Int}(E:yu ns)(u:yu S)(B:q7 many x=false):yu (lr ns S x):=by
 unfold q7 at B
 have B:=g6 B
 unfold lr
 split
 .rename_i hw
  split
  .rw[ob]
   cases hh:ns[x.n.toNat]? with
   | none=>exact u.snoc iC
   | some e=>grind[yu]
  refine u.snoc ?_
  unfold eC at hw
  unfold eU
  omega
 split
 .exact(u.take _).snoc WN
 exact(u.take _).snoc (WM (Lq (u.take _)))
def cU(ns:List ByteArray)(s:ByteArray):Int:=sj (λy=>decide (y=s)) ns
def im(p:cE):List cJ:=p.lines.flatten++p.iO
structure PS(p:cE):Prop where
 lines:p.lines.length<=500
 line:∀l∈p.lines,l.length<=500
 iO:p.iO.length<=500
 eJ:p.eJ.length<=500
 threads:p.threads.length<=500
 recover:p.recover.length<=500
 dS:p.dS.length<=500
 dP:∀t∈p.threads++p.recover,t.dP.length<=500
 body:∀t∈p.threads++p.recover,t.body.length<=500
theorem cY{ls:List (List cJ)}(h:∀l∈ls,l.length<=500):ls.flatten.length<=500*ls.length:=by
 induction ls with
 | nil=>simp
 | cons a ls u=>
  grind
def kU{p:cE}(h:PS p):(im p).length<=250500:=by
 have h1:=cY h.line
 have h2:=h.lines
 have h3:=h.iO
 grind[im]
theorem TJ{α:Type}{ls:List (List α)}{k:Nat}{l:List α}(h:ls[k]?=some l):(ls.take k).flatten++l=(ls.take (k+1)).flatten:=by rw[<- gI h,List.flatten_append];simp
theorem gd{α β:Type}{f:α->β}{l:List α}{k:Nat}{e:α}(h:l[k]?=some e):(l.take k).map f++[f e]=(l.take (k+1)).map f:=by rw[<- gI h,vd];rfl
def C123(lv:Value)(ns:List ByteArray)(q:ByteArray)(w:World)(J:dA (λ_=>True) w lv ns)(U:ns.length<=1048576):CR 123 [lv,.string q] w (λv w'=>v=hZ (cU ns q)/\Ext w w'):=by
 have u:=St.start w;refine eX Tryz.func123 ?_;refine⟨λm x I=>∃k:Nat,x=hZ (k:Int)/\m=ns.length-k/\k<=ns.length/\(∀y∈ns.take k,decide (y=q)=false)/\St w bD [] I,⟨_,0,rfl,rfl,l1 _,ei,u⟩,?_⟩;rintro m _ I ⟨k,rfl,rfl,O,B,u⟩ _;refine aK iy (J.ext u.aG) (aR (aC (λW=>?_) λ_=>⟨gN (nf .i64) (je (by rw[kW cK]at B;exact B)).symm,u.aG⟩));obtain⟨V,G⟩:=gx ns (i:=(k:Int).toNat) cK;exact aO iy (J.ext u.aG) cK G (λ_ M=>aD gv M (jG (aC (λE=>⟨gN (nf .i64) (ma B G (ez E)).symm,u.aG⟩) λE=>aN cK ⟨ns.length-(k+1),cK,k+1,rfl,rfl,cK,dY B G (fN E),u⟩)))
def C202(lv:Value)(cs:List cJ)(w:World)(E:dA (λ_=>True) w lv cs)(Z:cs.length<=1048576):CR 202 [lv] w (λv w'=>lg (bH v (cs.map cJ.name)) w w'):=by
 have u:=St.start w;refine eX Tryz.func202 ?_;refine aZ ([]:List ByteArray) u iy rfl rfl (dL rfl) (λOP B u=>?_);refine⟨λm y x B=>∃k:Nat,x=hZ (k:Int)/\m=cs.length-k/\k<=cs.length/\St w bD [bH y ((cs.take k).map cJ.name)] B,⟨_,0,rfl,rfl,cK,u⟩,?_⟩;rintro m V _ _ ⟨k,rfl,rfl,Y,u⟩ _;have W:((cs.take k).map cJ.name).length=k:=by rw[List.length_map,l0];omega
 refine aK il (E.ext u.aG) (aR (aC (λU=>?_) λU=>?_))
 .obtain⟨I,G⟩:=gx cs (i:=(k:Int).toNat) cK;refine aO il (E.ext u.aG) cK G (λ_ M=>bV I.name kP M rfl rfl λ_ J=>aD gv J (aZ ([I.name]) u iy rfl rfl (dL rfl) λWQ _ u=>?_));have O:=u.dX;exact bJ u.p1 iy O (by simp<;>omega) ee (λ_ _ u=>have u:=u.p1.drop;aN cK ⟨_,cK,k+1,rfl,rfl,cK,by rw[<- gd (k:=k) G];exact u⟩)
 rw[kW cK]at u;exact u.fresh
def C59(p:cE)(pv:bP)(w:World)(hp:Deep.dr w pv p)(B:PS p):CR 59 [ia pv] w (λv w'=>lg (bH v (im p)) w w'):=by
 obtain⟨bK,bU,bN,aW,aX,bG,rfl,cQ,dG,cW,cB,cC,cP⟩:=hp;have u:=St.start w;refine eX Tryz.func59 ?_;refine cI u (λko w1 u=>aZ ([]:List cJ) u il rfl rfl (dL rfl) λOP _ u=>?_);refine⟨λm y x w1=>∃k:Nat,x=hZ (k:Int)/\m=p.lines.length-k/\k<=p.lines.length/\St w bD [bH y (p.lines.take k).flatten,bY ko (j0 (⟨bK,bU,bN,aW,aX,bG⟩:bP))] w1,⟨_,0,rfl,rfl,cK,u⟩,?_⟩;rintro m nh _ _ ⟨k,rfl,rfl,hk,u⟩ _;have TK:=B.lines;refine aA gw (aB oO u.p1.hb rfl ?_)
 obtain⟨WR,E,G⟩:=cQ.open;have WT:=G.1;refine aK pG (E.ext u.aG) (aR (aC (λgH=>?_) λgH=>?_))
 .refine aA gw (aB oO u.p1.hb rfl ?_);obtain⟨M,WU⟩:=gx WR (i:=(k:Int).toNat) cK;obtain⟨U,Z⟩:=gx p.lines (i:=(k:Int).toNat) cK;have J:DL w (ia M) U:=G.2 _ _ _ WU Z;refine aO pG (E.ext u.aG) cK WU (λ_ Lr=>aD jK Lr ?_);have Y:=DL.flat J;have Bx:=B.line _ (kO Z);have O:=cY (ls:=p.lines.take k) (λl I=>B.line l (vB I));rw[l0]at O;have TK:=B.lines;have lE:=(Y.ext u.aG);exact bJ u il lE cK ee (λ_ _ u=>aN cK ⟨_,cK,k+1,rfl,rfl,cK,by rw[<- TJ (k:=k) Z];exact u⟩)
 refine aA qc (aB jK u.p1.hb rfl ?_);have W:=DL.flat dG;have O:=cY (ls:=p.lines.take k) (λl I=>B.line l (vB I));rw[l0]at O;have TK:=B.lines;have hz2:=B.iO;have V:=(W.ext u.aG);refine bJ u il V cK ee (λanP _ u=>?_);rw[kW cK]at u;exact u.p1.drop.fresh
def kids(k:Int):Int:=if k=1\/k=2 then 0 else if k=3\/k=4 then 1 else if 5<=k/\k<=15 then 2 else -1
def tU(k:Int) : -1<=kids k/\kids k<=2:=by
 grind[kids]
def gz(c:Int):Bool:=decide (97<=c/\c<=122\/c=95)
def kq(c:Int):Bool:=decide (48<=c/\c<=57)
def jR:List ByteArray:=[⟨#[108,105,110,101]⟩,⟨#[118,111,108]⟩,⟨#[108,111,99,107]⟩,⟨#[116,104,114,101,97,100]⟩,⟨#[114,101,103]⟩,⟨#[108,111,97,100]⟩,⟨#[115,116,111,114,101]⟩,⟨#[99,97,115]⟩,⟨#[102,108,117,115,104]⟩,⟨#[111,112,116]⟩,⟨#[115,102,101,110,99,101]⟩,⟨#[109,102,101,110,99,101]⟩,⟨#[116,97,107,101]⟩,⟨#[103,105,118,101]⟩,⟨#[105,102]⟩,⟨#[101,108,115,101]⟩,⟨#[108,111,111,112]⟩,⟨#[98,114,101,97,107]⟩,⟨#[99,104,101,99,107]⟩,⟨#[114,101,99,111,118,101,114]⟩,⟨#[97,108,119,97,121,115]⟩]
def gJ(s:ByteArray):Bool:=!(decide (s.size<1\/16<s.size)||(match (iN s)[0]? with|some c=>!gz c.toNat|none=>true)||jR.any λy=>decide (y=s))&&!(iN s).any (λc=>!gz c.toNat&&!kq c.toNat)
def skip:Nat->List cA->Option (List cA)
 | 0,l=>some l
 | _+1,[]=>none
 | n+1,x::l=>if kids x.op<0 then none else skip (n+(kids x.op).toNat) l
theorem zq(l:List cA):skip 0 l=some l:=by cases l<;>rfl
theorem Ev(l:List cA):∀a b,skip (a+b) l=(skip a l).bind (skip b):=by
 induction l with
 | nil=>
  intro a b
  cases a with
  | zero=>rw[tW,zq];rfl
  | succ a=>grind[skip]
 | cons x l u=>
  intro a b
  cases a with
  | zero=>rw[tW,zq];rfl
  | succ a=>
   grind[skip]
theorem Ew(l:List cA):∀n r,skip n l=some r->r=l.drop (l.length-r.length)/\r.length+min n 1<=l.length:=by
 induction l with
 | nil=>
  intro n r h
  cases n with
  | zero=>rw[zq]at h;grind
  | succ n=>cases h
 | cons x l u=>
  intro n r h
  cases n with
  | zero=>rw[zq]at h;simp_all
  | succ n=>
   have h:(if kids x.op<0 then none else skip (n+(kids x.op).toNat) l)=some r:=h
   split at h
   .cases h
   .obtain⟨h1,h2⟩:=u _ _ h
    refine⟨?_,dD⟩
    rw[show(x::l).length-r.length=(l.length-r.length)+1 from dD]
    exact h1
def CY(n:Nat)(o:Option (List cA)):Int:=match o with|some r=>(n:Int)-r.length|none=>-1
def qu(xs:List cA)(i:Int):Int:=if i<0 then -1 else CY xs.length (skip 1 (xs.drop i.toNat))
def WV{xs:List cA}{i:Int}{x:cA}(G:0<=i)(B:xs[i.toNat]?=some x)(I:0<=kids x.op):qu xs i=CY xs.length (skip (kids x.op).toNat (xs.drop (i.toNat+1))):=by
 unfold qu
 obtain⟨u,E⟩:=kE.1 B
 rw[ej cK,tc u,E]
 show CY _ (if kids x.op<0 then none else skip (0+(kids x.op).toNat) _)=_
 grind
theorem acx{xs:List cA}{i:Int}{x:cA}(G:0<=i)(B:xs[i.toNat]?=some x)(I:kids x.op<0):qu xs i = -1:=by
 unfold qu
 obtain⟨u,E⟩:=kE.1 B
 rw[ej cK,tc u,E]
 grind[CY,skip]
theorem acy{xs:List cA}{i:Int}(h:i<0\/xs.length<=i):qu xs i = -1:=by
 unfold qu
 split
 .rfl
 rw[vt cK];rfl
theorem anQ{xs:List cA}{j k:Nat}{a:Int}(h:CY xs.length (skip k (xs.drop j))=a)(B:0<=a):qu xs a=CY xs.length (skip (k+1) (xs.drop j))/\((j:Int)<=a\/xs.length<=a):=by
 cases hs:skip k (xs.drop j)with
 | none=>rw[hs]at h;unfold CY at h;simp only[]at h;omega
 | some r=>
  rw[hs]at h
  have h:(xs.length:Int)-r.length=a:=h
  obtain⟨h1,h2⟩:=Ew _ _ _ hs
  rw[qa]at h1 h2
  rw[Ev,hs]
  show _=CY _ (skip 1 r)/\_
  refine⟨?_,cK⟩
  unfold qu
  rw[ej cK]
  by_cases u:j<=xs.length
  .have:xs.drop a.toNat=r:=by
    rw[h1,sW,show j+(xs.length-j-r.length)=a.toNat from cK]
   rw[this]
  .have:r=[]:=r6.1 cK
   subst this
   rw[vt (by simp at h;omega)]
theorem ahV{xs l:List cA}{k j:Nat}(u:l.length<=xs.length)(h:¬ 0<=CY xs.length (skip k l))(B:k<=j):CY xs.length (skip k l)=CY xs.length (skip j l):=by
 cases hs:skip k l with
 | none=>rw[show j=k+(j-k)from cK,Ev,hs];rfl
 | some r=>
  obtain⟨_,h2⟩:=Ew _ _ _ hs
  rw[hs]at h;unfold CY at h;simp only[]at h;omega
theorem ava{xs l:List cA}{k:Nat}(u:l.length<=xs.length) : -1<=CY xs.length (skip k l)/\CY xs.length (skip k l)<=xs.length:=by
 cases hs:skip k l with
 | none=>unfold CY;simp only[];omega
 | some r=>
  obtain⟨_,h2⟩:=Ew _ _ _ hs
  unfold CY;simp only[];omega
def C273(k:Int)(w:World):CR 273 [hZ k] w (λv w'=>v=hZ (kids k)/\Ext w w'):=by
 have E:=St.start w;refine eX Tryz.func273 ?_;refine⟨λB w'=>B=.bool (decide (k=1\/k=2))/\w=w',aH (aC (λ_=>⟨N1 cK,rfl⟩) λ_=>aH ⟨yB cK,rfl⟩),?_⟩;rintro _ _ ⟨rfl,u⟩ _;subst u;refine aC (λG=>?_) (λG=>⟨λB w'=>B=.bool (decide (k=3\/k=4))/\w=w',aH (aC (λ_=>⟨N1 cK,rfl⟩) λ_=>aH ⟨yB cK,rfl⟩),?_⟩)
 .unfold kids;exact⟨gN (nf .i64) dD,E.aG⟩
 rintro _ _ ⟨rfl,u⟩ _;subst u;refine aC (λJ=>?_) (λJ=>⟨λB w'=>B=.bool (decide (5<=k/\k<=15))/\w=w',cR (aC (λ_=>iB ⟨yB cK,rfl⟩) λ_=>⟨jvF cK,rfl⟩),?_⟩)
 .unfold kids;exact⟨gN (nf .i64) dD,E.aG⟩
 rintro _ _ ⟨rfl,u⟩ _;subst u;refine aC (λI=>?_) (λI=>?_)
 .unfold kids;exact⟨gN (nf .i64) dD,E.aG⟩
 unfold kids;exact⟨gN (nf .i64) dD,E.aG⟩
def C206(c:Int)(w:World):CR 206 [.int .u8 c] w (λv w'=>v=.bool (gz c)/\Ext w w'):=by
 have B:=St.start w;refine eX Tryz.func206 ?_;refine⟨λE w'=>E=.bool (decide (97<=c/\c<=122\/c=95))/\w=w',AA (aC (λ_=>Az (aC (λ_=>⟨N1 cK,rfl⟩) λ_=>nG ⟨yB cK,rfl⟩)) λ_=>nG ⟨yB cK,rfl⟩),?_⟩;rintro _ _ ⟨rfl,u⟩ _;subst u;exact⟨rfl,B.aG⟩
def C207(c:Int)(w:World):CR 207 [.int .u8 c] w (λv w'=>v=.bool (kq c)/\Ext w w'):=by
 have B:=St.start w;refine eX Tryz.func207 ?_;refine⟨λE w'=>E=.bool (decide (48<=c/\c<=57))/\w=w',AA (aC (λ_=>Az ⟨yB cK,rfl⟩) λ_=>⟨jvF cK,rfl⟩),?_⟩;rintro _ _ ⟨rfl,u⟩ _;subst u;exact⟨rfl,B.aG⟩
def C255(s:ByteArray)(w:World):CR 255 [.string s] w (λv w'=>v=.bool (jR.any λy=>decide (y=s))/\Ext w w'):=by
 have u:=St.start w;refine eX Tryz.func255 ?_;refine aZ jR u iy rfl rfl (dL rfl) (λO I u=>?_);refine⟨λm x I=>∃k:Nat,x=hZ (k:Int)/\m=jR.length-k/\k<=jR.length/\(∀y∈jR.take k,decide (y=s)=false)/\St w bD [bH O jR] I,⟨_,0,rfl,rfl,l1 _,ei,u⟩,?_⟩;rintro m _ _ ⟨k,rfl,rfl,V,G,u⟩ _;have U:jR.length=21:=rfl;refine aK iy u.dX (aR (aC (λM=>?_) λM=>?_))
 .skip;obtain⟨W,E⟩:=gx jR (i:=(k:Int).toNat) cK;exact dR u iy cK cK (λ_ J=>gL u gv J E (jG (aC (λB=>⟨vb (hG E (ez B)).symm,u.aG⟩) λB=>aN cK ⟨_,cK,k+1,rfl,rfl,cK,dY G E (fN B),u⟩)))
 rw[kW cK]at G;exact⟨vb (iz G).symm,u.aG⟩
def C211(s:ByteArray)(w:World)(hn:s.size<=1048576):CR 211 [.string s] w (λv w'=>v=.bool (gJ s)/\Ext w w'):=by
 have u:=St.start w;refine eX Tryz.func211 ?_;refine⟨λI w'=>I=.bool (decide (s.size<1\/16<s.size)||(match (iN s)[0]? with|some c=>!gz c.toNat|none=>true)||jR.any λy=>decide (y=s))/\St w bD [] w',fh ik (aR (aC (λ_=>⟨vb dD,u⟩) λZ=>fh ik (cO (aC (λ_=>⟨vb dD,u⟩) λgH=>?_)))),?_⟩
 .obtain⟨iu,Y⟩:∃G,(iN s)[(0:Int).toNat]?=some G:=⟨_,la (by rw[eV];omega)⟩;exact jW ik cK Y (aV Rg u (C206 _ _) λ_ _ u=>bR (aY (λ_=>⟨vb dD,u⟩) λ_=>aV amU u (C255 _ _) λ_ _ u=>⟨vb dD,u⟩))
 rintro _ _ ⟨rfl,u⟩ _;refine aY (λJ=>?_) (λJ=>?_)
 .refine⟨vb ?_,u.aG⟩;unfold gJ;rw[J];rfl
 refine⟨λm x U=>∃k:Nat,x=hZ (k:Int)/\m=(iN s).length-k/\k<=(iN s).length/\(∀y∈(iN s).take k,(!gz y.toNat&&!kq y.toNat)=false)/\St w bD [] U,⟨_,0,rfl,rfl,l1 _,ei,u⟩,?_⟩;rintro m _ _ ⟨k,rfl,rfl,V,M,u⟩ _;rw[eV]at V;have G6:=eV s;refine fh ik (aR (aC (λW=>?_) λW=>?_))
 .obtain⟨O,B⟩:∃G,(iN s)[(k:Int).toNat]?=some G:=⟨_,la (by rw[eV];omega)⟩;refine⟨λI w'=>I=.bool (!gz O.toNat&&!kq O.toNat)/\St w bD [] w',jW ik cK B (aV Rg u (C206 _ _) λ_ _ u=>bR (aY (λ_=>jW ik cK B (aV Rh u (C207 _ _) λ_ _ u=>bR ⟨vb dD,u⟩)) λ_=>⟨vb dD,u⟩)),?_⟩;rintro _ _ ⟨rfl,u⟩ _;refine aY (λE=>?_) (λE=>aN cK ⟨_,cK,k+1,rfl,rfl,cK,dY M B (by simpa using E),u⟩);refine⟨vb ?_,u.aG⟩;unfold gJ;rw[hG B E];simp
 rw[kW cK]at M;refine⟨vb ?_,u.aG⟩;unfold gJ;rw[iz M]
 revert J
 cases (decide (s.size<1\/16<s.size)||(match (iN s)[0]? with|some c=>!gz c.toNat|none=>true)||jR.any λy=>decide (y=s))<;>simp
theorem C251(lv:Value)(xs:List cA)(i:Int)(N:Nat)(w:World)(E:dA (λ_=>True) w lv xs)(hn:xs.length<=1048576)(hi : -9223372036854775808<=i)(hN:(xs.length:Int)-i<N):CR 251 [lv,hZ i] w (λv w'=>v=hZ (qu xs i)/\Ext w w'):=by
 have u:=St.start w;refine eX Tryz.func251 ?_;refine⟨λI w'=>I=.bool (decide (i<0\/(xs.length:Int)<=i)||(match xs[i.toNat]? with|some x=>decide (kids x.op<0)|none=>true))/\St w bD [] w',aR (aC (λ_=>⟨vb dD,u⟩) λgD=>aK gV (E.ext u.aG) (cR (aC (λ_=>⟨vb dD,u⟩) λwV=>?_))),?_⟩
 .obtain⟨O,U⟩:=gx xs (i:=(i).toNat) cK;exact aO gV (E.ext u.aG) cK U (λ_ uH=>bV O.op eY uH rfl rfl λ_ lQ=>aD bL lQ (aV KD u (C273 _ _) λ_ _ u=>aR ⟨vb dD,u⟩))
 rintro _ _ ⟨rfl,u⟩ _;refine aY (λ_=>⟨gN (nf .i64) (by grind[acy,acx]),u.aG⟩) (λm6=>?_);have V:¬ (i<0\/(xs.length:Int)<=i):=dD
 obtain⟨B,M⟩:=gx xs (i:=(i).toNat) cK;have W:0<=kids B.op:=dD
 have WW:=tU B.op;have Vl:=WV cK M W;refine aN cK ?_;refine⟨λm y x Y=>∃(k:Nat) (a:Int),x=hZ (k:Int)/\y=hZ a/\m=(kids B.op).toNat-k/\k<=(kids B.op).toNat/\CY xs.length (skip k (xs.drop (i.toNat+1)))=a/\St w bD [] Y,⟨_,0,i+1,rfl,rfl,rfl,cK,by rw[zq];unfold CY;simp only[qa];omega,u⟩,?_⟩;rintro m _ _ _ ⟨k,a,rfl,rfl,rfl,hk,J,u⟩ _;have G:=ava (xs:=xs) (l:=xs.drop (i.toNat+1)) (k:=k) (by rw[qa];omega);rw[J]at G;refine⟨λI w'=>I=.bool (decide ((k:Int)<kids B.op/\0<=a))/\St w bD [] w',aO gV (E.ext u.aG) cK M (λ_ Z=>bV B.op eY Z rfl rfl λ_ mA=>aD bL mA (aV KD u (C273 _ _) λ_ _ u=>aR (aC (λ_=>cR ⟨vb dD,u⟩) λ_=>⟨vb dD,u⟩))),?_⟩
 rintro _ _ ⟨rfl,u⟩ _;refine aC (λoZ=>?_) (λ_=>⟨gN (nf .i64) (by have:=ahV (xs:=xs) (l:=xs.drop (i.toNat+1)) (k:=k) (j:=(kids B.op).toNat) (by rw[qa];omega);rw[Vl];by_cases h0:0<=a<;>grind),u.aG⟩);have Ls:=anQ J cK;exact aV KB u (C251 _ _ _ (N-1) _ (E.ext u.aG) hn cK cK) (λ_ _ u=>aN cK ⟨_,cK,k+1,_,rfl,rfl,rfl,cK,Ls.1.symm,u⟩)
termination_by N
decreasing_by omega
inductive Ex where
 | leaf (x:cA)
 | un (x:cA) (a:Ex)
 | bin (x:cA) (a b:Ex)
namespace Ex
def root:Ex->cA|leaf x=>x|un x _=>x|bin x _ _=>x
def eB:Ex->List Ex|leaf _=>[]|un _ a=>[a]|bin _ a b=>[a,b]
def flat:Ex->List cA|leaf x=>[x]|un x a=>x::a.flat|bin x a b=>x::(a.flat++b.flat)
def wf:Ex->Prop|leaf x=>kids x.op=0|un x a=>kids x.op=1/\a.wf|bin x a b=>kids x.op=2/\a.wf/\b.wf
def depth:Ex->Int|leaf _=>1|un _ a=>a.depth+1|bin _ a b=>max a.depth b.depth+1
def size:Ex->Nat|leaf _=>1|un _ a=>a.size+1|bin _ a b=>a.size+b.size+1
def numOf(ns:List ByteArray)(x:cA):Int:=if x.op=2 then cU ns x.name else x.n
def steps(ns:List ByteArray):Ex->List oy
 | leaf x=>[⟨x.op,numOf ns x⟩]
 | un x a=>a.steps ns++[⟨x.op,numOf ns x⟩]
 | bin x a b=>a.steps ns++b.steps ns++[⟨x.op,numOf ns x⟩]
end Ex
theorem Ex.cY(t:Ex):t.flat.length=t.size:=by
 induction t with
 | leaf x=>rfl
 | un x a E=>simp[Ex.flat,Ex.size,E]
 | bin x a b u B=>simp[Ex.flat,Ex.size,u,B]
theorem Ex.G7(t:Ex):t.flat=t.root::(t.eB.map Ex.flat).flatten:=by
 cases t<;>simp[Ex.flat,Ex.root,Ex.eB]
theorem Ex.o0{t:Ex}(h:t.wf):kids t.root.op=t.eB.length:=by
 cases t with
 | leaf x=>exact h
 | un x a=>exact h.1
 | bin x a b=>exact h.1
theorem Ex.tV{t a:Ex}(h:t.wf)(u:a∈t.eB):a.wf/\a.size<t.size:=by
 cases t with
 | leaf x=>cases u
 | un x b=>rw[vA.1 u];exact⟨h.2,by simp[Ex.size]⟩
 | bin x b c=>
  rcases List.mem_cons.1 u with rfl|u
  .grind[wf,size]
  grind[wf,size]
theorem Ex.rB(t:Ex):1<=t.depth/\t.depth<=t.size:=by
 induction t with
 | leaf x=>simp[Ex.depth,Ex.size]
 | un x a E=>simp only[Ex.depth,Ex.size];omega
 | bin x a b u B=>simp only[Ex.depth,Ex.size];omega
theorem Ex.pK(ns:List ByteArray)(t:Ex):(t.steps ns).length=t.size:=by
 induction t with
 | leaf x=>rfl
 | un x a u=>simp[Ex.steps,Ex.size,u]
 | bin x a b E B=>grind[steps,size]
theorem TL(t:Ex)(h:t.wf):∀n r,skip (n+1) (t.flat++r)=skip n r:=by
 induction t with
 | leaf x=>
  intro n r
  show(if kids x.op<0 then none else skip (n+(kids x.op).toNat) r)=_
  rw[show kids x.op=0 from h];rfl
 | un x a B=>
  intro n r
  show(if kids x.op<0 then none else skip (n+(kids x.op).toNat) (a.flat++r))=_
  rw[show kids x.op=1 from h.1,ej cK];exact B h.2 n r
 | bin x a b E u=>
  intro n r
  show(if kids x.op<0 then none else skip (n+(kids x.op).toNat) (a.flat++b.flat++r))=_
  rw[show kids x.op=2 from h.1,ej cK,n3]
  show skip (n+1+1) _=_
  rw[E h.2.1 (n+1),u h.2.2 n]
theorem RN:∀(k:Nat) (l r:List cA),l.length<=k->skip 1 l=some r->∃t:Ex,t.wf/\l=t.flat++r
 | k,[],r,_,h=>by cases h
 | 0,x::l,r,u,_=>by simp at u
 | k+1,x::l,r,u,h=>by
  have u:l.length<=k:=dD
  have h:(if kids x.op<0 then none else skip (0+(kids x.op).toNat) l)=some r:=h
  have hb:=tU x.op
  split at h
  .cases h
  .rcases(show kids x.op=0\/kids x.op=1\/kids x.op=2 by omega)with h0|h0|h0
   .rw[h0]at h
    have h:skip 0 l=some r:=h
    rw[zq]at h;cases h
    exact⟨.leaf x,h0,rfl⟩
   .rw[h0]at h
    obtain⟨a,B,rfl⟩:=RN k l r u h
    exact⟨.un x a,⟨h0,B⟩,rfl⟩
   .rw[h0]at h
    have h:skip (1+1) l=some r:=h
    rw[Ev]at h
    obtain⟨m,h1,h2⟩:=Nd.1 h
    obtain⟨a,B,rfl⟩:=RN k l m u h1
    obtain⟨b,E,rfl⟩:=RN k m r dD h2
    exact⟨.bin x a b,⟨h0,B,E⟩,by simp[Ex.flat]⟩
def By(xs:List cA)(i:Int)(t:Ex):Prop:=0<=i/\t.wf/\∃r,xs.drop i.toNat=t.flat++r
def By.root{xs:List cA}{i:Int}{t:Ex}(h:By xs i t):xs[i.toNat]?=some t.root/\i<xs.length:=by
 obtain⟨u,_,r,h⟩:=h
 have:(xs.drop i.toNat)[0]?=some t.root:=by rw[h,Ex.G7];rfl
 rw[HZ,N0]at this
 exact⟨this,by have:=(kE.1 this).1;omega⟩
def By.end{xs:List cA}{i:Int}{t:Ex}(h:By xs i t):qu xs i=i+t.size/\i+t.size<=xs.length:=by
 have E:=h.root.2
 obtain⟨G,u,r,h⟩:=h
 have B:=gN List.length h
 rw[qa,lY,Ex.cY]at B
 refine⟨?_,cK⟩
 unfold qu
 rw[ej cK,h,TL t u 0 r,zq]
 unfold CY;grind
theorem By.of{xs:List cA}{i:Int}(h:0<=qu xs i):∃t,By xs i t:=by
 unfold qu at h
 split at h
 .omega
 cases hs:skip 1 (xs.drop i.toNat)with
 | none=>rw[hs]at h;unfold CY at h;simp only[]at h;omega
 | some r=>
  obtain⟨t,u,B⟩:=RN _ _ r (o1 _) hs
  exact⟨t,cK,u,r,B⟩
def qw(ks:List Ex)(k:Nat):Nat:=((ks.take k).map Ex.size).sum
theorem uI{ks:List Ex}{k:Nat}{a:Ex}(h:ks[k]?=some a):qw ks (k+1)=qw ks k+a.size:=by
 unfold qw;rw[<- gI h];simp
def By.kid{xs:List cA}{i:Int}{t a:Ex}{k:Nat}(h:By xs i t)(u:t.eB[k]?=some a):By xs (i+1+qw t.eB k) a:=by
 obtain⟨M,B,r,h⟩:=h
 refine⟨cK,(Ex.tV B (kO u)).1,?_⟩
 have I:t.eB=t.eB.take k++a::t.eB.drop (k+1):=by
  obtain⟨J,G⟩:=kE.1 u
  rw[<- G,J4,pJ]
 have E:(((t.eB.take k).map Ex.flat).flatten).length=qw t.eB k:=by
  unfold qw
  rw[T5,Ix]
  congr 2
  exact funext λx=>Ex.cY x
 have h2:xs.drop (i.toNat+1)=((t.eB.take k).map Ex.flat).flatten++(a.flat++(((t.eB.drop (k+1)).map Ex.flat).flatten++r)):=by
  rw[<- sW,h,Ex.G7 t]
  show(t.eB.map Ex.flat).flatten++r=_
  conv=>lhs;rw[I]
  simp
 refine⟨((t.eB.drop (k+1)).map Ex.flat).flatten++r,?_⟩
 rw[show(i+1+(qw t.eB k:Int)).toNat=i.toNat+1+qw t.eB k from cK,<- sW,h2,<- E,List.drop_left]
def CZ(ks:List Ex)(k:Nat):Int:=((ks.take k).map Ex.depth).foldl max 0
theorem BR{ks:List Ex}{k:Nat}{a:Ex}(h:ks[k]?=some a):CZ ks (k+1)=max (CZ ks k) a.depth:=by
 unfold CZ;rw[<- gI h,vd,CO];rfl
theorem OR{ks:List Ex}{N:Int}(u:0<=N)(h:∀a∈ks,a.depth<=N):∀k,0<=CZ ks k/\CZ ks k<=N
 | 0=>by simp[CZ,u]
 | k+1=>by
  have B:=OR u h k
  cases hx:ks[k]? with
  | none=>
   have e:ks.take (k+1)=ks.take k:=by rw[ta,hx];simp
   unfold CZ at *;grind
  | some a=>rw[BR hx];grind
theorem Ex.Lt(t:Ex):t.depth=CZ t.eB t.eB.length+1:=by
 cases t with
 | leaf x=>rfl
 | un x a=>have:=a.rB;grind[depth,CZ,eB]
 | bin x a b=>have:=a.rB;grind[depth,CZ,eB]
def WX(ns:List ByteArray)(ks:List Ex)(k:Nat):List oy:=((ks.take k).map (Ex.steps ns)).flatten
theorem Lu{ns:List ByteArray}{ks:List Ex}{k:Nat}{a:Ex}(h:ks[k]?=some a):WX ns ks (k+1)=WX ns ks k++a.steps ns:=by
 unfold WX;rw[<- gI h];simp
def Dn{ns:List ByteArray}{ks:List Ex}{k:Nat}:(WX ns ks k).length=qw ks k:=by
 unfold WX qw
 rw[T5,Ix]
 congr 2
 exact funext λx=>Ex.pK ns x
theorem Ex.vm(ns:List ByteArray)(t:Ex):t.steps ns=WX ns t.eB t.eB.length++[⟨t.root.op,Ex.numOf ns t.root⟩]:=by
 cases t<;>simp[Ex.steps,Ex.eB,WX,Ex.root]
def pt:Nat->List cA->Option (Ex×List cA)
 | 0,_=>none
 | _+1,[]=>none
 | n+1,x::l=>
  if kids x.op=0 then some (.leaf x,l)else if kids x.op=1 then(match pt n l with|some p=>some (.un x p.1,p.2)|none=>none)
  else if kids x.op=2 then(match pt n l with|some p=>(match pt n p.2 with|some q=>some (.bin x p.1 q.1,q.2)|none=>none)|none=>none)else none
theorem acA(t:Ex)(h:t.wf):∀n r,t.size<=n->pt n (t.flat++r)=some (t,r):=by
 induction t with
 | leaf x=>
  intro n r u
  cases n with
  | zero=>simp[Ex.size]at u
  | succ n=>show(if kids x.op=0 then _ else _)=_;rw[ew (show kids x.op=0 from h)];rfl
 | un x a G=>
  intro n r u
  cases n with
  | zero=>simp[Ex.size]at u
  | succ n=>
   have h1:kids x.op=1:=h.1
   show(if kids x.op=0 then _ else if kids x.op=1 then(match pt n (a.flat++r)with|some p=>some (Ex.un x p.1,p.2)|none=>none)else _)=_
   rw[ej cK,ew h1,G h.2 n r (by simp[Ex.size]at u;omega)]
 | bin x a b E B=>
  intro n r u
  cases n with
  | zero=>simp[Ex.size]at u
  | succ n=>
   have h1:kids x.op=2:=h.1
   show(if kids x.op=0 then _ else if kids x.op=1 then _ else if kids x.op=2 then(match pt n (a.flat++b.flat++r)with|some p=>(match pt n p.2 with|some q=>some (Ex.bin x p.1 q.1,q.2)|none=>none)|none=>none)else _)=_
   rw[ej cK,ej cK,ew h1,n3,E h.2.1 n _ (by simp[Ex.size]at u;omega)]
   simp only[]
   rw[B h.2.2 n _ (by simp[Ex.size]at u;omega)]
def zu(l:List cA):Option Ex:=match pt l.length l with|some p=>if p.2=[]then some p.1 else none|none=>none
def TM{t:Ex}(h:t.wf):zu t.flat=some t:=by
 unfold zu
 have:=acA t h t.flat.length [] (by rw[Ex.cY];omega)
 grind
def By.zero{l:List cA}{t:Ex}(h:By l 0 t)(E:qu l 0=l.length):l=t.flat/\zu l=some t:=by
 have h1:=h.end
 obtain⟨_,B,r,h⟩:=h
 have u:=gN List.length h
 rw[lY,Ex.cY]at u
 simp at u
 have:r=[]:=r6.1 cK
 subst this
 have h:l=t.flat:=dD
 exact⟨h,by rw[h];exact TM B⟩
theorem AL:∀n l t r,pt n l=some (t,r)->t.wf/\l=t.flat++r
 | 0,l,t,r,h=>by cases h
 | n+1,[],t,r,h=>by cases h
 | n+1,x::l,t,r,h=>by
  have h:(if kids x.op=0 then some (Ex.leaf x,l)else if kids x.op=1 then(match pt n l with|some p=>some (Ex.un x p.1,p.2)|none=>none)
   else if kids x.op=2 then(match pt n l with|some p=>(match pt n p.2 with|some q=>some (Ex.bin x p.1 q.1,q.2)|none=>none)|none=>none)else none)=some (t,r):=h
  split at h
  .rename_i hk;cases h;exact⟨hk,rfl⟩
  .split at h
   .rename_i hk
    cases ha:pt n l with
    | none=>grind
    | some p=>
     rw[ha]at h
     obtain⟨a,m⟩:=p
     cases h
     obtain⟨h1,rfl⟩:=AL n l a _ ha
     exact⟨⟨hk,h1⟩,rfl⟩
   .split at h
    .rename_i hk
     cases ha:pt n l with
     | none=>grind
     | some p=>
      rw[ha]at h
      obtain⟨a,m⟩:=p
      simp only[]at h
      cases hb:pt n m with
      | none=>grind
      | some q=>
       rw[hb]at h
       obtain⟨b,u⟩:=q
       cases h
       obtain⟨h1,rfl⟩:=AL n l a _ ha
       obtain⟨h2,rfl⟩:=AL n m b _ hb
       exact⟨⟨hk,h1,h2⟩,by simp[Ex.flat]⟩
    .cases h
theorem vn{l:List cA}{t:Ex}(h:zu l=some t):t.wf/\l=t.flat:=by
 unfold zu at h
 cases hp:pt l.length l with
 | none=>grind
 | some p=>
  rw[hp]at h
  obtain⟨a,r⟩:=p
  simp only[]at h
  split at h
  .rename_i hr;cases h
   obtain⟨h1,h2⟩:=AL _ _ _ _ hp
   grind
  .cases h
theorem Ey{l:List cA}:(zu l).isSome=decide (qu l 0=l.length):=by
 by_cases h:qu l 0=l.length
 .obtain⟨t,ht⟩:=By.of (xs:=l) (i:=0) cK
  rw[(ht.zero h).2,ez h];rfl
 rw[fN h]
 cases he:zu l with
 | none=>rfl
 | some t=>
  obtain⟨h1,rfl⟩:=vn he
  exact absurd (by have:=(show By t.flat 0 t from⟨cK,h1,[],ei⟩).end.1;rw[this,Ex.cY];omega) h
def lh(x:cA):Bool:=decide (x.at_<0\/4000<x.at_)||decide (¬ x.op=1/\¬ x.n=0)||decide (¬ x.op=2/\¬ x.name=⟨#[]⟩)||decide (x.n<0\/4294967296<x.n)||(decide (x.op=2)&&!gJ x.name)
def RO(l:List cA):Int:=match zu l with|some t=>t.depth|none=>0
def fz(l:List cA):Bool:=decide (l.length<=40)&&(zu l).isSome&&!l.any lh&&decide (RO l<=12)
def BS(ns:List ByteArray)(l:List cA):List oy:=match zu l with|some t=>t.steps ns|none=>[]
def kV(ns:List ByteArray)(l:List cA):Int:=if fz l=false then 8 else if l.any (λx=>decide (x.op=2)&&decide (cU ns x.name<0))then 9 else 0
def qx(ns:List ByteArray)(l:List cA):List oy:=if kV ns l=0 then BS ns l else []
def zx{l:List cA}(h:fz l=true):qu l 0=l.length:=by
 unfold fz at h
 rw[Ey]at h
 grind
theorem C252(lv:Value)(xs:List cA)(i:Int)(t:Ex)(N:Nat)(w:World)(G:dA (λ_=>True) w lv xs)(hn:xs.length<=1048576)(B:By xs i t)(hN:t.size<N):CR 252 [lv,hZ i] w (λv w'=>v=hZ t.depth/\Ext w w'):=by
 obtain⟨J,hq,Y⟩:∃e,e=t.root/\xs[(i).toNat]?=some e:=⟨_,rfl,B.root.1⟩;have V:=B.root.2;have hie:=B.end;have U:=Ex.o0 B.2.1;rw[<- hq]at U;have WW:=tU J.op;have hi0:=B.1;have u:=St.start w;refine abS _ _ _ _ ?_;unfold S252;refine aN cK ?_;refine⟨λm n a x I=>∃k:Nat,n=hZ (CZ t.eB k)/\a=hZ (i+1+qw t.eB k)/\x=hZ (k:Int)/\m=t.eB.length-k/\k<=t.eB.length/\St w bD [] I,⟨_,0,rfl,gN (nf .i64) (by simp[qw]),rfl,rfl,cK,u⟩,?_⟩;rintro m _ _ _ I ⟨k,rfl,rfl,rfl,rfl,hk,u⟩ _;have hdk:=OR (ks:=t.eB) (N:=(t.size:Int)) cK (λa ha=>by have:=(Ex.tV B.2.1 ha).2;have:=a.rB;omega) k
 refine aO gV (G.ext u.aG) cK Y (λ_ W=>bV J.op eY W rfl rfl λ_ Z=>aD bL Z (aV KD u (C273 _ _) λ_ he u=>aR (aC (λkf=>?_) λ_=>aN cK ⟨gN (nf .i64) (by rw[t.Lt,show k=t.eB.length from cK]),u.aG⟩)));obtain⟨a,E⟩:=gx t.eB (i:=k) cK;have O:=Ex.tV B.2.1 (kO E);have M:=B.kid E;have Vm:=M.end;have TO:=a.rB;exact aV VZ u (C252 _ _ _ _ (N-1) _ (G.ext u.aG) hn M cK) (λ_ _ u=>Dk (aV KB u (C251 _ _ _ (xs.length+1) _ (G.ext u.aG) cK cK cK) λ_ _ u=>aN cK ⟨_,cK,k+1,by rw[BR E],gN (nf .i64) (by rw[Vm.1,uI E];omega),rfl,rfl,cK,u⟩))
termination_by N
decreasing_by omega
def C200(lv:Value)(xs:List cA)(w:World)(E:dA (λ_=>True) w lv xs)(hn:xs.length<=1048576)(G:∀x∈xs,x.name.size<=1048576):CR 200 [lv] w (λv w'=>v=.bool (fz xs)/\Ext w w'):=by
 have u:=St.start w;refine eX Tryz.func200 ?_;refine⟨λO w'=>O=.bool (decide (40<xs.length)||decide (¬ qu xs 0=xs.length))/\St w bD [] w',aK gV (E.ext u.aG) (cO (aC (λ_=>⟨vb dD,u⟩) λ_=>aV KB u (C251 _ _ _ (xs.length+1) _ (E.ext u.aG) cK cK cK) λ_ _ u=>aK gV (E.ext u.aG) (bW ⟨vb dD,u⟩))),?_⟩;rintro _ _ ⟨rfl,u⟩ _;refine aY (λjD=>?_) (λjD=>?_)
 .refine⟨vb ?_,u.aG⟩;unfold fz;rw[Ey]
  grind
 refine⟨λm x Y=>∃k:Nat,x=hZ (k:Int)/\m=xs.length-k/\k<=xs.length/\(∀y∈xs.take k,lh y=false)/\St w bD [] Y,⟨_,0,rfl,rfl,l1 _,ei,u⟩,?_⟩;rintro m _ _ ⟨k,rfl,rfl,hk,U,u⟩ _;refine aK gV (E.ext u.aG) (aR (aC (λlP=>?_) λlP=>?_))
 .obtain⟨V,B⟩:=gx xs (i:=(k:Int).toNat) cK;refine aO gV (E.ext u.aG) cK B (λ_ qz=>aD rZ qz (aM u xX λOS _ u=>aJ (x:=V) u rZ rfl rfl λ_ u=>⟨λO w'=>O=.bool (lh V)/\St w bD [] w',aA r7 (aB bL u.hb rfl (aR (aC (λ_=>⟨vb (by unfold lh;grind),u.drop⟩) λlq=>aA r7 (aB bL u.hb rfl (cO (aC (λ_=>⟨vb (by unfold lh;grind),u.drop⟩) λmc=>?_)))))),?_⟩))
  .refine aA eY (aB bL u.hb rfl (bW (aC (λCA=>aA jm (aB bL u.hb rfl (bW (aC (λ_=>⟨vb (by unfold lh;grind),u.drop⟩) λwW=>aA eY (aB bL u.hb rfl (bW (aC (λW=>aA gj (aB gv u.hb rfl (l6 (aC (λ_=>⟨vb (by unfold lh;grind),u.drop⟩) λLv=>?_)))) λW=>?_))))))) λCA=>?_)))
   .refine aA jm (aB bL u.hb rfl (aR ?_));exact aC (λ_=>⟨vb (by unfold lh;grind),u.drop⟩) (λ_=>aA jm (aB bL u.hb rfl (cO (aC (λ_=>⟨vb (by unfold lh;grind),u.drop⟩) λ_=>aA eY (aB bL u.hb rfl (aH (aC (λ_=>aA gj (aB gv u.hb rfl (aV ur u (C211 _ _ (G _ (kO B))) λ_ _ u=>bR ⟨vb (by unfold lh;grind),u.drop⟩))) λ_=>⟨vb (by unfold lh;grind),u.drop⟩)))))))
   .refine aA jm (aB bL u.hb rfl (aR ?_));exact aC (λ_=>⟨vb (by unfold lh;grind),u.drop⟩) (λ_=>aA jm (aB bL u.hb rfl (cO (aC (λ_=>⟨vb (by unfold lh;grind),u.drop⟩) λ_=>aA eY (aB bL u.hb rfl (aH (aC (λ_=>aA gj (aB gv u.hb rfl (aV ur u (C211 _ _ (G _ (kO B))) λ_ _ u=>bR ⟨vb (by unfold lh;grind),u.drop⟩))) λ_=>⟨vb (by unfold lh;grind),u.drop⟩)))))))
   refine aA eY (aB bL u.hb rfl (bW (aC (λI=>aA gj (aB gv u.hb rfl (l6 (aC (λ_=>⟨vb (by unfold lh;grind),u.drop⟩) λZ=>?_)))) λI=>?_)))
   .refine aA jm (aB bL u.hb rfl (aR ?_));exact aC (λ_=>⟨vb (by unfold lh;grind),u.drop⟩) (λ_=>aA jm (aB bL u.hb rfl (cO (aC (λ_=>⟨vb (by unfold lh;grind),u.drop⟩) λ_=>aA eY (aB bL u.hb rfl (aH (aC (λ_=>aA gj (aB gv u.hb rfl (aV ur u (C211 _ _ (G _ (kO B))) λ_ _ u=>bR ⟨vb (by unfold lh;grind),u.drop⟩))) λ_=>⟨vb (by unfold lh;grind),u.drop⟩)))))))
   refine aA jm (aB bL u.hb rfl (aR ?_));exact aC (λ_=>⟨vb (by unfold lh;grind),u.drop⟩) (λ_=>aA jm (aB bL u.hb rfl (cO (aC (λ_=>⟨vb (by unfold lh;grind),u.drop⟩) λ_=>aA eY (aB bL u.hb rfl (aH (aC (λ_=>aA gj (aB gv u.hb rfl (aV ur u (C211 _ _ (G _ (kO B))) λ_ _ u=>bR ⟨vb (by unfold lh;grind),u.drop⟩))) λ_=>⟨vb (by unfold lh;grind),u.drop⟩)))))))
  rintro _ _ ⟨rfl,u⟩ _;refine aY (λM=>?_) (λM=>aN cK ⟨_,cK,k+1,rfl,rfl,cK,dY U B M,u⟩);refine⟨vb ?_,u.aG⟩;unfold fz;rw[hG B M];simp
 have WZ:qu xs 0=xs.length:=dD
 have J:xs.length<=40:=dD
 obtain⟨t,ht⟩:=By.of (xs:=xs) (i:=0) cK;have hz:=ht.zero WZ;refine aV VZ u (C252 _ _ _ t (t.size+1) _ (E.ext u.aG) hn ht cK) (λ_ he u=>iB ?_);rw[kW cK]at U;refine⟨vb ?_,u.aG⟩;unfold fz RO;rw[iz U,hz.2];simp[J]
theorem C272(lv nv:Value)(xs:List cA)(ns:List ByteArray)(i:Int)(t:Ex)(N:Nat)(w:World)(E:dA (λ_=>True) w lv xs)(hN:dA (λ_=>True) w nv ns)(hn:xs.length<=1048576)(Bw:ns.length<=1048576)(G:By xs i t)(hNt:t.size<N):CR 272 [lv,hZ i,nv] w (λv w'=>lg (bH v (t.steps ns)) w w'):=by
 obtain⟨B,hq,I⟩:∃e,e=t.root/\xs[(i).toNat]?=some e:=⟨_,rfl,G.root.1⟩;have hri:=G.root.2;have hie:=G.end;have OQ:=Ex.o0 G.2.1;rw[<- hq]at OQ;have WW:=tU B.op;have hi0:=G.1;have u:=St.start w;refine eX Tryz.func272 ?_;refine aZ ([]:List oy) u tB rfl rfl (dL rfl) (λO w1 u=>aN cK ?_);refine⟨λm M a x w1=>∃k:Nat,a=hZ (i+1+qw t.eB k)/\x=hZ (k:Int)/\m=t.eB.length-k/\k<=t.eB.length/\St w bD [bH M (WX ns t.eB k)] w1,⟨_,0,gN (nf .i64) (by simp[qw]),rfl,rfl,cK,u⟩,?_⟩;rintro m M _ _ _ ⟨k,rfl,rfl,rfl,hk,u⟩ _
 refine aO gV (E.ext u.aG) cK I (λ_ Lr=>bV B.op eY Lr rfl rfl λ_ uH=>aD bL uH (aV KD u (C273 _ _) λ_ he u=>aR (aC (λkS=>?_) λkS=>?_)))
 .obtain⟨a,J⟩:=gx t.eB (i:=k) cK;have hka:=Ex.tV G.2.1 (kO J);have TN:=G.kid J;have Vm:=TN.end;have TO:=a.rB;have Z:=Dn (ns:=ns) (ks:=t.eB) (k:=k);have TP:=Ex.pK ns a;refine dT afC u (C272 _ _ _ _ _ _ (N-1) _ (E.ext u.aG) (hN.ext u.aG) hn Bw TN cK) (λx28 _ cL u=>?_);have OU:=u.dX;exact bJ u.p1 tB OU cK ee (λ_ _ u=>have u:=u.p1.drop;aV KB u (C251 _ _ _ (xs.length+1) _ (E.ext u.aG) cK cK cK) λ_ _ u=>aN cK ⟨_,cK,k+1,gN (nf .i64) (by rw[Vm.1,uI J];omega),rfl,rfl,cK,by rw[Lu J];exact u⟩)
 have Z:=Dn (ns:=ns) (ks:=t.eB) (k:=k);refine aO gV (E.ext u.aG) cK I (λ_ Lw=>bV B.n jm Lw rfl rfl λ_ AM=>aD bL AM ⟨λjv w'=>jv=hZ (Ex.numOf ns B)/\St w bD [bH M (WX ns t.eB k)] w',aO gV (E.ext u.aG) cK I (λ_ W0=>bV B.op eY W0 rfl rfl λ_ U=>aD bL U (aH (aC (λ_=>aO gV (E.ext u.aG) cK I λ_ AN=>bV B.name gj AN rfl rfl λ_ Lx=>aD gv Lx (aV rS u (C123 _ ns _ _ (hN.ext u.aG) cK) λ_ _ u=>⟨gN (nf .i64) (by grind[Ex.numOf]),u⟩)) λ_=>⟨gN (nf .i64) (by grind[Ex.numOf]),u⟩))),?_⟩)
 rintro _ _ ⟨rfl,u⟩ _;refine aO gV (E.ext u.aG) cK I (λ_ W3=>bV B.op eY W3 rfl rfl λ_ AH=>aD bL AH (pop (Ef _ _) (aZ ([(⟨B.op,(Ex.numOf ns B)⟩:oy)]) u tB rfl rfl (dL rfl) λW _ u=>?_)));have V:=u.dX;refine bJ u.p1 tB V (by rw[Z,mf];have:(t.steps ns).length=t.size:=Ex.pK ns t;rw[Ex.vm,lY,mf,<- show k=t.eB.length from cK]at this;omega) ee (λY _ u=>?_);have u:=u.p1.drop;rw[Ex.vm,<- show k=t.eB.length from cK,<- hq];exact u.fresh
termination_by N
decreasing_by omega
def C220(lv nv:Value)(xs:List cA)(ns:List ByteArray)(w:World)(B:dA (λ_=>True) w lv xs)(V:dA (λ_=>True) w nv ns)(hn:xs.length<=1048576)(Bw:ns.length<=1048576)(RP:∀x∈xs,x.name.size<=1048576):CR 220 [lv,nv] w (λv w'=>∃s,v=.tuple #[s,hZ (kV ns xs)]/\lg (bH s (qx ns xs)) w w'):=by
 have u:=St.start w;refine abP _ _ _ _ ?_;unfold S220;refine aV KA u (C200 _ _ _ (B.ext u.aG) hn RP) (λW he u=>bR (aY (λE=>?_) λE=>?_))
 .have h8:kV ns xs=8:=by unfold kV;rw[ew (by simpa using E)]
  refine⟨_,by rw[h8],?_⟩;unfold qx;rw[h8,ej ee];exact(u.eM (α:=oy)).fresh
 refine⟨λm x W=>∃k:Nat,x=hZ (k:Int)/\m=xs.length-k/\k<=xs.length/\(∀y∈xs.take k,(decide (y.op=2)&&decide (cU ns y.name<0))=false)/\St w bD [] W,⟨_,0,rfl,rfl,l1 _,ei,u⟩,?_⟩;rintro m _ _ ⟨k,rfl,rfl,hk,U,u⟩ _;refine aK gV (B.ext u.aG) (aR (aC (λwV=>?_) λwV=>?_))
 .obtain⟨G,I⟩:=gx xs (i:=(k:Int).toNat) cK;refine⟨λjv w'=>jv=.bool (decide (G.op=2)&&decide (cU ns G.name<0))/\St w bD [] w',aO gV (B.ext u.aG) cK I (λ_ uH=>bV G.op eY uH rfl rfl λ_ lQ=>aD bL lQ (aH (aC (λ_=>aO gV (B.ext u.aG) cK I λ_ wX=>bV G.name gj wX rfl rfl λ_ uJ=>aD gv uJ (aV rS u (C123 _ ns _ _ (V.ext u.aG) cK) λ_ _ u=>aR ⟨vb dD,u⟩)) λ_=>⟨vb dD,u⟩))),?_⟩;rintro _ _ ⟨rfl,u⟩ _;refine aY (λO=>?_) (λO=>aN cK ⟨_,cK,k+1,rfl,rfl,cK,dY U I O,u⟩)
  have Z:kV ns xs=9:=by unfold kV;rw[ej (by simpa using E),ew (hG I O)]
  refine⟨_,by rw[Z],?_⟩;unfold qx;rw[Z,ej ee];exact(u.eM (α:=oy)).fresh
 have M:fz xs=true:=by simpa using E
 have WZ:=zx M;obtain⟨t,ht⟩:=By.of (xs:=xs) (i:=0) cK;have hz:=ht.zero WZ;refine dT afC u (C272 _ _ _ _ _ t (t.size+1) _ (B.ext u.aG) (V.ext u.aG) hn Bw ht cK) (λJ _ cL u=>?_);rw[kW cK]at U;have Y:kV ns xs=0:=by unfold kV;rw[ej (by simpa using E),ej (by rw[iz U];simp)]
 refine⟨J,by rw[Y],?_⟩;unfold qx BS;rw[ew Y,hz.2];exact u.fresh
end Go.Proofs.YtpdlpabnlkofmaaGreatDoor

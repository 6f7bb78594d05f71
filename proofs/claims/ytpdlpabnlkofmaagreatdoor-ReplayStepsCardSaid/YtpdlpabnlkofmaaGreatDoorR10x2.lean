/-
  Part 2.
-/
import Derived.Test.YtpdlpabnlkofmaaGreatDoorR10x1
set_option maxHeartbeats 8000000
set_option linter.all false
set_option maxRecDepth 100000
open Go.Fw.Flat renaming val->hM,enc->ia,sz->l1,len->xZ,agg->H4,one->ZL,pos->aab,ng->abG
open List renaming getElem?_eq_some_iff->ir,mem_of_getElem?->j0,take_of_length_le->kp,getElem?_eq_getElem->kE,length_append->kH,length_singleton->lH,length_take->lQ,append_assoc->mX,getD_eq_getElem?_getD->n0,length_cons->n5,append_nil->oj,take_append_drop->o1,length_drop->pd,replicate->po,drop_eq_nil_of_le->pC,length_eq_zero_iff->qa,drop_eq_getElem_cons->qH,drop_drop->sm,mem_singleton->sM,getElem?_append_left->s4,take_add_one->tK,mem_of_mem_take->uS,map_append->u1,foldl_append->CK,eraseIdx_eq_take_drop_succ->EJ,length_set->FX,map_map->GG,getElem?_drop->H5,getElem?_cons_succ->K0,getElem_cons_drop->Ln,toArray->OY,length_flatten->Zq
open Nat renaming zero_le->kO,le_refl->o5,zero_add->ta,le_trans->tx,min_eq_left->Em,add_zero->Lm,add_assoc->Mi,mod_lt->abB,mod_le->abP
open Go.Instr renaming build->l0,sliceAt->nn,index->tU,sliceBounds->vd,loadAt->wO,fieldAt->E3,indexAt->E4,storeAt->JX,buildSlice->Ku,slice->P1
open Option renaming bind_some->l2,some->n3,bind_eq_some_iff->Na
open Go.Value renaming int->mn,bool->vX,slice->ye,tuple->Be,string->Cv,okWide->Od
open Bool renaming and_eq_true->nS,false_eq_true->M7
open Decidable renaming not_not->u3
open Int renaming tmod_nonneg->P3,natAbs_tmod->U0,natAbs_tdiv->aby,neg_tmod->abH,le_total->abI
open Go.World renaming cells?_some->aac
namespace Go.Fw
section
variable {P:Program}{w w0:World}{A S:Nat->Prop}{L:List HP}
theorem bU{T:TypeId}{b o:Nat}{v:Value}{K:Value->Prop}(ht:Ws P T)(hb:Cell w b o v)(k:K v) :
  J2 P (wO T (.pointer (some ⟨b,o,none⟩))) w K:=⟨v,aI ht hb,k⟩
theorem cJ{α:Type}[Flat α]{T:TypeId}{x:α}{K:Value->g7}(u:St w0 A L w)
  (k:∀b w',St w0 A (bZ b (ia x)::L) w'->K (.pointer (some ⟨b,0,none⟩)) w'):rA P (Instr.box T (hM x)) w K:=by
 refine⟨_,_,Iu T _,k _ _ ?_⟩
 rw[ph]
 exact u.push
theorem Iz{T:Nat}{cx cy:Bool}{a b:Int}{K:Value->Prop}(u:0<=a)(hb:0<b)(k:K (hH (a % b))):eM P (ji .rem T cx cy (hH a) (hH b)) K:=by
 refine⟨_,?_,k⟩
 show pr P (Op.intDiv .rem .i64 a b)=_
 unfold Op.intDiv
 rw[eb bL]
 show some (mn .i64 (a.tmod b))=_
 grind
def wc(a b:Int):Int:=((BitVec.ofInt 64 a &&& BitVec.ofInt 64 b).toNat:Int)
theorem yT(a:Int){b:Int}(u:0<=b)(h1:b<=9223372036854775807):0<=wc a b/\wc a b<=b:=by
 unfold wc
 refine⟨bL,?_⟩
 have h2:(BitVec.ofInt 64 a &&& BitVec.ofInt 64 b).toNat<=(BitVec.ofInt 64 b).toNat:=by
  rw[BitVec.toNat_and];exact Nat.and_le_right
 have h3:((BitVec.ofInt 64 b).toNat:Int)=b:=by
  rw[BitVec.toNat_ofInt]
  omega
 omega
theorem RD{T:Nat}{cx cy:Bool}{a b:Int}{K:Value->Prop}(u:0<=b)(h1:b<=9223372036854775807)(k:K (hH (wc a b))):eM P (ji .and T cx cy (hH a) (hH b)) K:=by
 refine⟨_,?_,k⟩
 show some (mn .i64 (IntKind.i64.wrap ((BitVec.ofInt 64 a &&& BitVec.ofInt 64 b).toNat:Int)))=_
 have:=yT a u h1
 unfold wc at this |-
 rw[IntWalk.i64_in _ bL]
theorem yr{T:Nat}{a b:Bool}(h:P.underlying T=some .bool):pr P (Op.equal T (.bool a) (.bool b))=some (a == b):=by
 show pr P (Op.equalIn 10000 T (.bool a) (.bool b))=_
 unfold Op.equalIn
 rw[cT,cS h]
 rfl
theorem Ww{T:Nat}{cx cy:Bool}{a b:Bool}{K:Value->Prop}(h:P.underlying T=some .bool)(k:K (.bool (a == b))):eM P (ji .eql T cx cy (.bool a) (.bool b)) K:=by
 refine⟨_,?_,k⟩
 show pr P (do pure (vX (<- Op.equal T (.bool a) (.bool b))))=_
 rw[sS,yr h];rfl
theorem rE{T:Nat}{cx cy:Bool}{a b:Bool}{K:Value->Prop}(h:P.underlying T=some .bool)(k:K (.bool (a != b))):eM P (ji .neq T cx cy (.bool a) (.bool b)) K:=by
 refine⟨_,?_,k⟩
 show pr P (do pure (vX (!(<- Op.equal T (.bool a) (.bool b)))))=_
 rw[sS _ (λb=>vX (!b)),yr h];rfl
theorem IA{T e:Nat}{p:Option Addr}(h:P.underlying T=some (.pointer e)):pr P (Op.equal T (.pointer p) (.pointer none))=some p.isNone:=by
 show pr P (Op.equalIn 10000 T (.pointer p) (.pointer none))=_
 unfold Op.equalIn
 rw[cT,cS h]
 cases p<;>rfl
theorem Wx{T e:Nat}{cx cy:Bool}{p:Option Addr}{K:Value->Prop}(h:P.underlying T=some (.pointer e))(k:K (.bool p.isNone)):eM P (ji .eql T cx cy (.pointer p) (.pointer none)) K:=by
 refine⟨_,?_,k⟩
 show pr P (do pure (vX (<- Op.equal T (.pointer p) (.pointer none))))=_
 rw[sS,IA h];rfl
theorem Ge{T e:Nat}{a:Option Addr}{n c:Nat}(h:P.underlying T=some (.slice e))(u:a=none->n=0/\c=0):pr P (Op.equal T (.slice a n c) (.slice none 0 0))=some a.isNone:=by
 show pr P (Op.equalIn 10000 T (.slice a n c) (.slice none 0 0))=_
 unfold Op.equalIn
 rw[cT,cS h]
 cases a<;>rfl
theorem Wy{T e:Nat}{cx cy:Bool}{a:Option Addr}{n c:Nat}{K:Value->Prop}(h:P.underlying T=some (.slice e))(u:a=none->n=0/\c=0)(k:K (.bool a.isNone)):eM P (ji .eql T cx cy (.slice a n c) (.slice none 0 0)) K:=by
 refine⟨_,?_,k⟩
 show pr P (do pure (vX (<- Op.equal T (.slice a n c) (.slice none 0 0))))=_
 rw[sS,Ge h u];rfl
def nH:TypeDesc->Option Nat
 | .int .i64=>some 0
 | .bool=>some 1
 | .string=>some 2
 | _=>none
def nW:Value->Option Nat
 | .int .i64 _=>some 0
 | .bool _=>some 1
 | .string _=>some 2
 | _=>none
def eqV:Value->Value->Bool
 | .int _ a,.int _ b=>decide (a=b)
 | .bool a,.bool b=>a == b
 | .string a,.string b=>a == b
 | _,_=>false
def ud:List Value->List Value->Bool
 | a::x,b::y=>eqV a b&&ud x y
 | _,_=>true
def nX(P:Program):Nat->List Field->Option (List Nat)
 | _,[]=>some []
 | k,f::fs=>
  if f.name ≠ "_" /\ f.offset=k then
   match P.underlying f.type with
   | some d=>match nH d,nX P (k+1) fs with
    | some n,some r=>some (n::r)
    | _,_=>none
   | none=>none
  else none
def we(P:Program)(T:TypeId):Option (List Nat):=
 match P.underlying T with
 | some (.struct u)=>if P.stoodInHeld T=false/\P.eqGuardType P.depth T=false then nX P 0 u.toList else none
 | _=>none
def OE(d:Nat)(xs ys:Array Value):List Field->Sem Bool
 | []=>pure true
 | f::r => if f.name ≠ "_" then do
   let same <- Op.equalIn d f.type (<- part f.type xs f.offset) (<- part f.type ys f.offset)
   if (!same)=true then pure false else OE d xs ys r
  else OE d xs ys r
theorem CT{T:TypeId}{d:TypeDesc}{n:Nat}(h:P.underlying T=some d)(u:nH d=some n):pr P (isAgg T)=some false:=by
 unfold isAgg
 rw[cT,cS h]
 cases d<;>simp[nH]at u<;>rfl
theorem RE{T:TypeId}{d:TypeDesc}{n o:Nat}{cs:Array Value}{v:Value}(h:P.underlying T=some d)(u:nH d=some n)(B:cs[o]?=some v):pr P (part T cs o)=some v:=by
 unfold part
 rw[cT,CT h u]
 simp only[l2,M7,if_false,B]
 rfl
theorem KJ{k:Nat}{T:TypeId}{d:TypeDesc}{n:Nat}{a b:Value}(h:P.underlying T=some d)(B:nH d=some n)(u:nW a=some n)(hb:nW b=some n) :
  pr P (Op.equalIn (k+1) T a b)=some (eqV a b):=by
 unfold Op.equalIn
 rw[cT,cS h]
 simp only[l2]
 cases d<;>simp only[nH]at B<;>try(cases B;done)
 case int kd=>
  cases kd<;>simp at B
  subst B
  cases a<;>simp only[nW]at u<;>try(cases u;done)
  rename_i ka na
  cases b<;>simp only[nW]at hb<;>try(cases hb;done)
  rename_i kb nb
  cases ka<;>simp at u
  cases kb<;>simp at hb
  rfl
 case bool=>
  cases B
  cases a<;>simp only[nW]at u<;>first|(rename_i ka na;cases ka<;>simp at u)|skip
  all_goals try(simp at u;done)
  cases b<;>simp only[nW]at hb<;>first|(rename_i kb nb;cases kb<;>simp at hb)|skip
  all_goals try(simp at hb;done)
  rfl
 case string=>
  cases B
  cases a<;>simp only[nW]at u<;>first|(rename_i ka na;cases ka<;>simp at u)|skip
  all_goals try(simp at u;done)
  cases b<;>simp only[nW]at hb<;>first|(rename_i kb nb;cases kb<;>simp at hb)|skip
  all_goals try(simp at hb;done)
  rfl
theorem KK{k:Nat}{xs ys:List Value}:∀(u:List Field) (i:Nat) (ks:List Nat),nX P i u=some ks->(∀j n,ks[j]?=some n->∃a b,xs[i+j]?=some a/\ys[i+j]?=some b/\nW a=some n/\nW b=some n)->
  pr P (OE (k+1) xs.toArray ys.toArray u)=some (ud ((xs.drop i).take ks.length) ((ys.drop i).take ks.length)):=by
 intro u
 induction u with
 | nil=>intro i ks h _;simp only[nX,n3.injEq]at h;subst h;simp[OE,ud];rfl
 | cons f u O=>
  intro i ks h I
  unfold nX at h
  split at h
  .rename_i hf
   cases hu:P.underlying f.type with
   | none=>grind
   | some d=>
    rw[hu]at h
    dsimp only at h
    cases hd:nH d with
    | none=>grind
    | some n=>
     rw[hd]at h
     cases hr:nX P (i+1) u with
     | none=>grind
     | some r=>
      rw[hr]at h
      simp only[n3.injEq]at h
      subst h
      obtain⟨a,b,B,hb,U,J⟩:=I 0 n rfl
      rw[Lm]at B hb
      have E:xs.drop i=a::xs.drop (i+1):=by
       rw[<- Ln (ir.1 B).1,(ir.1 B).2]
      have G:ys.drop i=b::ys.drop (i+1):=by
       rw[<- Ln (ir.1 hb).1,(ir.1 hb).2]
      have M:=O (i+1) r hr λj m Y=>by
       obtain⟨V,W,h1,h2,h3,h4⟩:=I (j+1) m cH
       grind
      unfold OE
      rw[ee hf.1,cT,RE hu hd (v:=a) cH]
      simp only[l2]
      rw[cT,RE hu hd (v:=b) cH]
      simp only[l2]
      rw[cT,KJ hu hd U J]
      simp only[l2,n5,E,G,List.take_succ_cons,ud]
      cases he:eqV a b with
      | false=>rfl
      | true=>grind
  .cases h
theorem z6{d:Nat}{t:TypeId}{u:Array Field}{xs ys:Array Value}(ht:P.underlying t=some (.struct u))(E:P.stoodInHeld t=false) :
  pr P (Op.equalIn (d+1) t (.agg xs) (.agg ys))=pr P (OE d xs ys u.toList):=by
 unfold Op.equalIn
 rw[cT,cS ht]
 simp only[l2,cT]
 rw[show pr P program=some P from rfl]
 simp only[l2,E,M7,if_false]
 rw[<- Array.forIn_toList]
 generalize u.toList=l
 clear ht
 induction l with
 | nil=>rfl
 | cons f l B=>
  rw[cT]at B
  simp only[List.forIn_cons,OE,cT]
  split
  .simp only[cT]
   cases pr P (part f.type xs f.offset)with
   | none=>rfl
   | some a=>
    simp only[l2]
    cases pr P (part f.type ys f.offset)with
    | none=>rfl
    | some b=>
     simp only[l2]
     cases pr P (Op.equalIn d f.type a b)with
     | none=>rfl
     | some r=>
      cases r
      .rfl
      .simp only[l2,Bool.not_true,M7,if_false,fO]
       exact B
  .simp only[fO,l2]
   exact B
theorem z7{T:TypeId}{ks:List Nat}{xs ys:List Value}(h:we P T=some ks)(u:xs.map nW=ks.map some)(B:ys.map nW=ks.map some) :
  pr P (Op.equal T (.agg xs.toArray) (.agg ys.toArray))=some (ud xs ys)/\P.eqGuardType P.depth T=false:=by
 unfold we at h
 split at h
 .rename_i fs hfs
  split at h
  .rename_i hc
   refine⟨?_,hc.2⟩
   show pr P (Op.equalIn 10000 T _ _)=_
   rw[z6 hfs hc.1]
   have I:xs.length=ks.length:=by have:=ez List.length u;grind
   have G:ys.length=ks.length:=by have:=ez List.length B;grind
   rw[KK (xs:=xs) (ys:=ys) fs.toList 0 ks h λj n E=>?_]
   .grind
   have J:j<ks.length:=(ir.1 E).1
   refine⟨xs[j]'(bL),ys[j]'(bL),ea,ea,?_,?_⟩
   .have:=ez (λl=>l[j]?) u
    grind
   have:=ez (λl=>l[j]?) B
   grind
  cases h
 cases h
theorem TX{T:Nat}{cx cy:Bool}{ks:List Nat}{xs ys:List Value}{K:Value->Prop}(h:we P T=some ks)(u:xs.map nW=ks.map some)(B:ys.map nW=ks.map some)(k:K (.bool (ud xs ys))) :
  eM P (ji .eql T cx cy (.agg xs.toArray) (.agg ys.toArray)) K:=by
 obtain⟨h1,h2⟩:=z7 h u B
 refine⟨_,?_,k⟩
 show pr P (if P.eqGuardType P.depth T=true then stuck "an interface in a part" else(do pure (vX (<- Op.equal T (.agg xs.toArray) (.agg ys.toArray))) : Sem Value))=_
 rw[h2,eb ea,sS,h1];rfl
theorem TY{T:Nat}{cx cy:Bool}{ks:List Nat}{xs ys:List Value}{K:Value->Prop}(h:we P T=some ks)(u:xs.map nW=ks.map some)(B:ys.map nW=ks.map some)(k:K (.bool (!ud xs ys))) :
  eM P (ji .neq T cx cy (.agg xs.toArray) (.agg ys.toArray)) K:=by
 obtain⟨h1,h2⟩:=z7 h u B
 refine⟨_,?_,k⟩
 show pr P (if P.eqGuardType P.depth T=true then stuck "an interface in a part" else(do pure (vX (!(<- Op.equal T (.agg xs.toArray) (.agg ys.toArray)))) : Sem Value))=_
 rw[h2,eb ea,sS _ (λb=>vX (!b)),h1];rfl
theorem GN{T:Nat}{cx cy:Bool}{ks:List Nat}{xs ys:List Value}{K:Value->Prop}{p:Prop}[Decidable p](h:we P T=some ks)(u:xs.map nW=ks.map some)(B:ys.map nW=ks.map some)
  (E:ud xs ys=decide p) (k:K (.bool (decide p))):eM P (ji .eql T cx cy (.agg xs.toArray) (.agg ys.toArray)) K:=TX h u B (E▸k)
theorem TZ{T:Nat}{cx cy:Bool}{ks:List Nat}{xs ys:List Value}{K:Value->Prop}{p:Prop}[Decidable p](h:we P T=some ks)(u:xs.map nW=ks.map some)(B:ys.map nW=ks.map some)
  (E:ud xs ys=decide p) (k:K (.bool (decide (¬ p)))):eM P (ji .neq T cx cy (.agg xs.toArray) (.agg ys.toArray)) K:=TY h u B cH
end
end Go.Fw
namespace Go.Proofs.YtpdlpabnlkofmaaGreatDoor
open Go.Fw
def bO:dy g6 3=some (false,1):=by kernel_rfl
def ue:eh g6 3=some (some (hH 0)):=by kernel_rfl
def KL:Tryz.prog.underlying 3=some (.int .i64):=by kernel_rfl
def Gf:dy g6 4=some (false,1):=by kernel_rfl
def Wz:eh g6 4=some (some (.bool false)):=by kernel_rfl
def KM:Tryz.prog.underlying 4=some (.bool):=by kernel_rfl
def avJ:Tryz.prog.underlying 5=some (.int .u8):=by kernel_rfl
def gn:dy g6 9=some (false,1):=by kernel_rfl
def agb:eh g6 9=some (some (.string ⟨#[]⟩)):=by kernel_rfl
def ic:Tryz.prog.underlying 9=some (.string):=by kernel_rfl
def oz:dy g6 22=some (false,1):=by kernel_rfl
def pj:eI g6 22=some (23,1,24,some 1):=by kernel_rfl
def jw:dy g6 23=some (false,1):=by kernel_rfl
def ie:eI g6 23=some (161,3,32,some 3):=by kernel_rfl
def im:dy g6 24=some (false,1):=by kernel_rfl
def fr:eI g6 24=some (146,4,72,some 4):=by kernel_rfl
def sL:dy g6 25=some (false,1):=by kernel_rfl
def uf:eI g6 25=some (85,2,32,some 2):=by kernel_rfl
def eN:dy g6 27=some (true,6):=by kernel_rfl
def gq:aR g6 27 0=some (0,some true):=by kernel_rfl
def pK:aR g6 27 1=some (1,some true):=by kernel_rfl
def nD:aR g6 27 2=some (2,some true):=by kernel_rfl
def kj:aR g6 27 3=some (3,some true):=by kernel_rfl
def oA:aR g6 27 4=some (4,some true):=by kernel_rfl
def jR:aR g6 27 5=some (5,some true):=by kernel_rfl
def uU:eh g6 27=some (some (.agg [.slice none 0 0,.slice none 0 0,.slice none 0 0,.slice none 0 0,.slice none 0 0,.slice none 0 0].toArray)):=by kernel_rfl
def ah6:eI g6 28=some (53,6,64,some 6):=by kernel_rfl
def jx:dy g6 31=some (false,1):=by kernel_rfl
def ah7:eh g6 31=some (some (hH 0)):=by kernel_rfl
def an7:Tryz.prog.underlying 34=some (.pointer 44):=by kernel_rfl
def jL:eI g6 39=some (50,4,48,some 4):=by kernel_rfl
def KN:dy g6 40=some (false,1):=by kernel_rfl
def eP:dy g6 41=some (false,1):=by kernel_rfl
def cQ:eI g6 41=some (3,1,8,some 1):=by kernel_rfl
def ah8:eh g6 41=some (some (.slice none 0 0)):=by kernel_rfl
def KO:dy g6 42=some (false,1):=by kernel_rfl
def OF:eI g6 42=some (129,1,8,some 1):=by kernel_rfl
def xE:aR g6 44 0=some (0,some true):=by kernel_rfl
def RF:aR g6 44 1=some (6,some true):=by kernel_rfl
def IB:aR g6 44 2=some (7,some true):=by kernel_rfl
def sU:aR g6 44 3=some (8,some true):=by kernel_rfl
def uV:aR g6 44 4=some (9,some true):=by kernel_rfl
def sV:aR g6 44 5=some (10,some true):=by kernel_rfl
def Db:aR g6 44 6=some (11,some true):=by kernel_rfl
def acv:aR g6 44 7=some (12,some true):=by kernel_rfl
def rF:dy g6 50=some (true,4):=by kernel_rfl
def qX:aR g6 50 0=some (0,some true):=by kernel_rfl
def mG:aR g6 50 1=some (1,some true):=by kernel_rfl
def sW:aR g6 50 2=some (2,some true):=by kernel_rfl
def uW:aR g6 50 3=some (3,some true):=by kernel_rfl
def IC:eh g6 50=some (some (.agg [hH 0,hH 0,hH 0,.slice none 0 0].toArray)):=by kernel_rfl
def acw:aR g6 53 0=some (0,some true):=by kernel_rfl
def acx:aR g6 53 1=some (1,some true):=by kernel_rfl
def fg:dy g6 56=some (true,5):=by kernel_rfl
def acy:aR g6 56 0=some (0,some true):=by kernel_rfl
def RG:aR g6 56 1=some (1,some true):=by kernel_rfl
def nI:eh g6 56=some (some (.agg [hH 0,hH 0,hH 0,hH 0,hH 0].toArray)):=by kernel_rfl
def lY:dy g6 63=some (true,4):=by kernel_rfl
def pL:aR g6 63 0=some (0,some true):=by kernel_rfl
def Dc:aR g6 63 1=some (1,some true):=by kernel_rfl
def RH:aR g6 63 2=some (2,some true):=by kernel_rfl
def RI:aR g6 63 3=some (3,some true):=by kernel_rfl
def nJ:eh g6 63=some (some (.agg [hH 0,hH 0,hH 0,.slice none 0 0].toArray)):=by kernel_rfl
def z8:eI g6 72=some (56,5,40,some 5):=by kernel_rfl
def jy:dy g6 82=some (false,1):=by kernel_rfl
def gV:eI g6 82=some (164,4,40,some 4):=by kernel_rfl
def ID:dy g6 85=some (true,2):=by kernel_rfl
def xF:aR g6 85 0=some (0,some true):=by kernel_rfl
def IE:aR g6 85 1=some (1,some true):=by kernel_rfl
def OG:eh g6 85=some (some (.agg [.slice none 0 0,hH 0].toArray)):=by kernel_rfl
def z9:dy g6 88=some (false,1):=by kernel_rfl
def iW:dy g6 91=some (false,1):=by kernel_rfl
def ix:eI g6 91=some (9,1,16,some 1):=by kernel_rfl
def ah9:eh g6 91=some (some (.slice none 0 0)):=by kernel_rfl
def KP:dy g6 93=some (false,1):=by kernel_rfl
def IF:dy g6 94=some (false,1):=by kernel_rfl
def KQ:eI g6 94=some (135,1,8,some 1):=by kernel_rfl
def Dd:aR g6 96 0=some (0,some true):=by kernel_rfl
def IG:aR g6 96 1=some (6,some true):=by kernel_rfl
def IH:aR g6 96 2=some (7,some true):=by kernel_rfl
def acz:aR g6 96 3=some (8,some true):=by kernel_rfl
def sX:aR g6 96 4=some (9,some true):=by kernel_rfl
def uX:aR g6 96 5=some (10,some true):=by kernel_rfl
def uY:aR g6 96 6=some (11,some true):=by kernel_rfl
def II:aR g6 96 7=some (12,some true):=by kernel_rfl
def xG:aR g6 96 8=some (13,some true):=by kernel_rfl
def RJ:aR g6 96 9=some (14,some true):=by kernel_rfl
def Aa:dy g6 103=some (false,1):=by kernel_rfl
def KR:dy g6 114=some (true,5):=by kernel_rfl
def WA:aR g6 114 0=some (0,some true):=by kernel_rfl
def KS:aR g6 114 1=some (1,some true):=by kernel_rfl
def wg:aR g6 114 3=some (3,some true):=by kernel_rfl
def Ab:aR g6 114 4=some (4,some true):=by kernel_rfl
def IJ:eh g6 114=some (some (.agg [hH 0,hH 0,hH 0,.bool false,.bool false].toArray)):=by kernel_rfl
def GO:eI g6 117=some (4,1,1,some 1):=by kernel_rfl
def sY:dy g6 120=some (false,1):=by kernel_rfl
def sZ:eI g6 120=some (125,3,24,some 3):=by kernel_rfl
def ug:aR g6 122 0=some (0,some true):=by kernel_rfl
def WB:aR g6 122 1=some (1,some true):=by kernel_rfl
def wh:aR g6 122 2=some (2,some true):=by kernel_rfl
def Ac:aR g6 122 3=some (3,some true):=by kernel_rfl
def ku:aR g6 122 4=some (4,some true):=by kernel_rfl
def WC:dy g6 125=some (true,3):=by kernel_rfl
def wi:aR g6 125 0=some (0,some true):=by kernel_rfl
def KT:aR g6 125 1=some (1,some true):=by kernel_rfl
def KU:aR g6 125 2=some (2,some true):=by kernel_rfl
def acA:eh g6 125=some (some (.agg [hH 0,hH 0,hH 0].toArray)):=by kernel_rfl
def mO:eI g6 126=some (41,1,24,some 1):=by kernel_rfl
def RK:dy g6 129=some (false,1):=by kernel_rfl
def vv:dy g6 130=some (false,1):=by kernel_rfl
def nY:eI g6 130=some (218,12,176,some 12):=by kernel_rfl
def lg:aR g6 132 0=some (0,some true):=by kernel_rfl
def KV:aR g6 132 1=some (1,some true):=by kernel_rfl
def KW:aR g6 132 2=some (2,some true):=by kernel_rfl
def oB:aR g6 132 3=some (3,some true):=by kernel_rfl
def wj:aR g6 132 4=some (4,some true):=by kernel_rfl
def GP:dy g6 135=some (false,1):=by kernel_rfl
def rG:dy g6 136=some (false,1):=by kernel_rfl
def uh:eI g6 136=some (143,2,32,some 2):=by kernel_rfl
def oC:aR g6 138 0=some (0,some true):=by kernel_rfl
def Ad:aR g6 138 1=some (1,some true):=by kernel_rfl
def Ae:aR g6 138 2=some (2,some true):=by kernel_rfl
def jz:aR g6 138 3=some (3,some true):=by kernel_rfl
def wk:aR g6 138 4=some (4,some true):=by kernel_rfl
def jA:dy g6 141=some (false,1):=by kernel_rfl
def fj:eI g6 141=some (193,9,120,some 9):=by kernel_rfl
def KX:aR g6 143 0=some (0,some true):=by kernel_rfl
def WD:aR g6 143 1=some (1,some true):=by kernel_rfl
def mP:dy g6 146=some (true,4):=by kernel_rfl
def pS:aR g6 146 0=some (0,some true):=by kernel_rfl
def fP:aR g6 146 1=some (1,some true):=by kernel_rfl
def lh:aR g6 146 2=some (2,some true):=by kernel_rfl
def pU:aR g6 146 3=some (3,some true):=by kernel_rfl
def tc:eh g6 146=some (some (.agg [.string ⟨#[]⟩,.slice none 0 0,.slice none 0 0,hH 0].toArray)):=by kernel_rfl
def lK:dy g6 161=some (true,3):=by kernel_rfl
def kx:aR g6 161 0=some (0,some true):=by kernel_rfl
def rH:aR g6 161 1=some (1,some true):=by kernel_rfl
def ui:aR g6 161 2=some (2,some true):=by kernel_rfl
def oD:eh g6 161=some (some (.agg [.string ⟨#[]⟩,hH 0,hH 0].toArray)):=by kernel_rfl
def rI:dy g6 164=some (true,4):=by kernel_rfl
def eX:aR g6 164 0=some (0,some true):=by kernel_rfl
def ja:aR g6 164 1=some (1,some true):=by kernel_rfl
def gh:aR g6 164 2=some (2,some true):=by kernel_rfl
def rJ:aR g6 164 3=some (3,some true):=by kernel_rfl
def xH:eh g6 164=some (some (.agg [hH 0,hH 0,.string ⟨#[]⟩,hH 0].toArray)):=by kernel_rfl
def GQ:dy g6 165=some (false,1):=by kernel_rfl
def RL:eh g6 165=some (some (.map none)):=by kernel_rfl
def an8:dy g6 177=some (true,3):=by kernel_rfl
def WE:aR g6 177 0=some (0,some true):=by kernel_rfl
def WG:aR g6 177 1=some (1,some true):=by kernel_rfl
def WH:aR g6 177 2=some (2,some true):=by kernel_rfl
def acB:eh g6 177=some (some (.agg [.string ⟨#[]⟩,hH 0,.slice none 0 0].toArray)):=by kernel_rfl
def iM:dy g6 179=some (false,1):=by kernel_rfl
theorem fS:eI g6 179=some (231,4,32,some 4):=by kernel_rfl
def WI:aR g6 181 0=some (0,some true):=by kernel_rfl
def ky:aR g6 181 1=some (1,some true):=by kernel_rfl
def yt:dy g6 185=some (false,1):=by kernel_rfl
def wm:aR g6 187 0=some (0,some true):=by kernel_rfl
def WJ:aR g6 187 1=some (1,some true):=by kernel_rfl
def rK:aR g6 187 2=some (2,some true):=by kernel_rfl
def Af:aR g6 187 3=some (3,some true):=by kernel_rfl
def rL:aR g6 187 4=some (4,some true):=by kernel_rfl
def eG:dy g6 193=some (true,9):=by kernel_rfl
def dK:aR g6 193 0=some (0,some true):=by kernel_rfl
def iy:aR g6 193 1=some (1,some true):=by kernel_rfl
def fX:aR g6 193 2=some (2,some true):=by kernel_rfl
def iN:aR g6 193 3=some (3,some true):=by kernel_rfl
def jS:aR g6 193 4=some (4,some true):=by kernel_rfl
def jB:aR g6 193 5=some (5,some true):=by kernel_rfl
def iO:aR g6 193 6=some (6,some true):=by kernel_rfl
def iz:aR g6 193 7=some (7,some true):=by kernel_rfl
def lj:aR g6 193 8=some (8,some true):=by kernel_rfl
def jk:eh g6 193=some (some (.agg [hH 0,.string ⟨#[]⟩,.string ⟨#[]⟩,.slice none 0 0,.slice none 0 0,hH 0,hH 0,hH 0,hH 0].toArray)):=by kernel_rfl
def WK:aR g6 196 0=some (0,some true):=by kernel_rfl
def iB:aR g6 196 1=some (1,some true):=by kernel_rfl
def jb:dy g6 198=some (false,1):=by kernel_rfl
def fH:eI g6 198=some (209,4,40,some 4):=by kernel_rfl
def jT:aR g6 203 0=some (0,some true):=by kernel_rfl
def ft:aR g6 203 1=some (1,some true):=by kernel_rfl
def lZ:aR g6 203 2=some (2,some true):=by kernel_rfl
def wo:aR g6 203 3=some (3,some true):=by kernel_rfl
def agc:dy g6 209=some (true,4):=by kernel_rfl
def lq:aR g6 209 0=some (0,some true):=by kernel_rfl
def ni:aR g6 209 1=some (1,some true):=by kernel_rfl
def rM:aR g6 209 2=some (2,some true):=by kernel_rfl
def lr:aR g6 209 3=some (3,some true):=by kernel_rfl
def acC:eh g6 209=some (some (.agg [hH 0,.string ⟨#[]⟩,hH 0,hH 0].toArray)):=by kernel_rfl
def KY:dy g6 218=some (true,12):=by kernel_rfl
def oE:aR g6 218 0=some (0,some true):=by kernel_rfl
def KZ:aR g6 218 1=some (9,some true):=by kernel_rfl
def WL:aR g6 218 2=some (10,some true):=by kernel_rfl
def La:aR g6 218 3=some (11,some true):=by kernel_rfl
def RM:eh g6 218=some (some (.agg [hH 0,.string ⟨#[]⟩,.string ⟨#[]⟩,.slice none 0 0,.slice none 0 0,hH 0,hH 0,hH 0,hH 0,.slice none 0 0,.slice none 0 0,.bool false].toArray)):=by kernel_rfl
def Ct:eI g6 224=some (227,2,16,some 2):=by kernel_rfl
def Ag:eh g6 224=some (some (.slice none 0 0)):=by kernel_rfl
def RN:dy g6 227=some (true,2):=by kernel_rfl
def Lb:aR g6 227 0=some (0,some true):=by kernel_rfl
def Lc:aR g6 227 1=some (1,some true):=by kernel_rfl
def RO:eh g6 227=some (some (.agg [hH 0,hH 0].toArray)):=by kernel_rfl
def ij:dy g6 231=some (true,4):=by kernel_rfl
def gE:aR g6 231 0=some (0,some true):=by kernel_rfl
def gX:aR g6 231 1=some (1,some true):=by kernel_rfl
def l4:aR g6 231 2=some (2,some true):=by kernel_rfl
def oF:aR g6 231 3=some (3,some true):=by kernel_rfl
def qY:eh g6 231=some (some (.agg [hH 0,hH 0,hH 0,hH 0].toArray)):=by kernel_rfl
def agd:dy g6 245=some (true,2):=by kernel_rfl
def WM:aR g6 245 0=some (0,some true):=by kernel_rfl
def WN:aR g6 245 1=some (1,some true):=by kernel_rfl
def acD:eh g6 245=some (some (.agg [hH 0,hH 0].toArray)):=by kernel_rfl
def RP:dy g6 249=some (false,1):=by kernel_rfl
def acE:eh g6 249=some (some (.nilFunc)):=by kernel_rfl
def td:eI g6 277=some (320,2,16,some 2):=by kernel_rfl
def WO:eI g6 287=some (245,2,16,some 2):=by kernel_rfl
def wq:dy g6 288=some (false,1):=by kernel_rfl
def Ld:eI g6 300=some (24,1,24,some 1):=by kernel_rfl
def iC:aR g6 305 0=some (0,some true):=by kernel_rfl
def eY:aR g6 305 1=some (1,some true):=by kernel_rfl
def kz:aR g6 305 2=some (2,some true):=by kernel_rfl
def Ah:aR g6 305 3=some (3,some true):=by kernel_rfl
def pW:aR g6 305 4=some (4,some true):=by kernel_rfl
def fT:dy g6 308=some (true,4):=by kernel_rfl
def rN:aR g6 308 0=some (0,some true):=by kernel_rfl
def oG:aR g6 308 1=some (1,some true):=by kernel_rfl
def uj:aR g6 308 2=some (2,some true):=by kernel_rfl
def WQ:aR g6 308 3=some (3,some true):=by kernel_rfl
def te:eh g6 308=some (some (.agg [.slice none 0 0,hH 0,hH 0,hH 0].toArray)):=by kernel_rfl
def pX:aR g6 316 0=some (0,some true):=by kernel_rfl
def um:aR g6 318 0=some (0,some true):=by kernel_rfl
def Le:aR g6 318 1=some (1,some true):=by kernel_rfl
def acF:eh g6 318=some (some (.agg [.slice none 0 0,hH 0].toArray)):=by kernel_rfl
def D3:dy g6 320=some (true,2):=by kernel_rfl
def nj:aR g6 320 0=some (0,some true):=by kernel_rfl
def pY:aR g6 320 1=some (1,some true):=by kernel_rfl
def IK:eh g6 320=some (some (.agg [hH 0,hH 0].toArray)):=by kernel_rfl
def WR:dy g6 348=some (true,16):=by kernel_rfl
def RQ:eh g6 348=some (some (.agg [.nilFunc,.nilFunc,.nilFunc,.nilFunc,.nilFunc,.nilFunc,.nilFunc,.nilFunc,.nilFunc,.nilFunc,.nilFunc,.nilFunc,.nilFunc,.nilFunc,.nilFunc,.nilFunc].toArray)):=by kernel_rfl
def an9:dy g6 361=some (false,1):=by kernel_rfl
def age:dy g6 364=some (true,15):=by kernel_rfl
def acG:eh g6 364=some (some (.agg [.string ⟨#[]⟩,.string ⟨#[]⟩,.string ⟨#[]⟩,.string ⟨#[]⟩,.string ⟨#[]⟩,.string ⟨#[]⟩,.string ⟨#[]⟩,.string ⟨#[]⟩,.string ⟨#[]⟩,.string ⟨#[]⟩,.string ⟨#[]⟩,.string ⟨#[]⟩,.string ⟨#[]⟩,.string ⟨#[]⟩,.string ⟨#[]⟩].toArray)):=by kernel_rfl
def nk(W:Option Addr)(U O:Nat)(M:Option Addr)(V Y:Nat)(I:Option Addr)(G B:Nat)(J:Option Addr)(E u:Nat):pr g6 (l0 27 [(1,.slice W U O),(2,.slice M V Y),(3,.slice I G B),(4,.slice J E u)].toArray)=some (.agg [.slice none 0 0,.slice W U O,.slice M V Y,.slice I G B,.slice J E u,.slice none 0 0].toArray):=by kernel_rfl
def GR(B:Option Addr)(G u:Nat)(E:Int):pr g6 (l0 85 [(0,.slice B G u),(1,hH E)].toArray)=some (.agg [.slice B G u,hH E].toArray):=by kernel_rfl
def OH(I:Option Addr)(G u:Nat)(J:Option Addr)(E B:Nat):pr g6 (l0 122 [(0,.slice I G u),(1,.slice J E B)].toArray)=some (.agg [.slice I G u,.slice J E B,.slice none 0 0,.slice none 0 0,.slice none 0 0].toArray):=by kernel_rfl
def IL(u:Int)(B:Int)(E:Int):pr g6 (l0 125 [(0,hH u),(1,hH B),(2,hH E)].toArray)=some (.agg [hH u,hH B,hH E].toArray):=by kernel_rfl
def OI(u:ByteArray)(B:Int):pr g6 (l0 146 [(0,.string u),(3,hH B)].toArray)=some (.agg [.string u,.slice none 0 0,.slice none 0 0,hH B].toArray):=by kernel_rfl
def Ai(G:ByteArray)(u:Int)(B:Option Addr)(E I:Nat):pr g6 (l0 146 [(0,.string G),(3,hH u),(2,.slice B E I)].toArray)=some (.agg [.string G,.slice none 0 0,.slice B E I,hH u].toArray):=by kernel_rfl
def WT(u:Int):pr g6 (l0 146 [(3,hH u)].toArray)=some (.agg [.string ⟨#[]⟩,.slice none 0 0,.slice none 0 0,hH u].toArray):=by kernel_rfl
def acH:pr g6 (l0 161 [].toArray)=some (.agg [.string ⟨#[]⟩,hH 0,hH 0].toArray):=by kernel_rfl
def D4(u:ByteArray)(B:Int):pr g6 (l0 161 [(0,.string u),(2,hH B)].toArray)=some (.agg [.string u,hH 0,hH B].toArray):=by kernel_rfl
def IM(u:Int)(E:Int)(B:Int):pr g6 (l0 164 [(0,hH u),(1,hH E),(3,hH B)].toArray)=some (.agg [hH u,hH E,.string ⟨#[]⟩,hH B].toArray):=by kernel_rfl
def IN(u:Int)(E:ByteArray)(B:Int):pr g6 (l0 164 [(0,hH u),(2,.string E),(3,hH B)].toArray)=some (.agg [hH u,hH 0,.string E,hH B].toArray):=by kernel_rfl
def D5(u:Int)(B:Int):pr g6 (l0 164 [(0,hH u),(3,hH B)].toArray)=some (.agg [hH u,hH 0,.string ⟨#[]⟩,hH B].toArray):=by kernel_rfl
def WU(u:Int):pr g6 (l0 181 [(0,hH u)].toArray)=some (.agg [hH u,.slice none 0 0].toArray):=by kernel_rfl
def D6(O:Option Addr)(J u:Nat)(U:Option Addr)(I G:Nat)(E:Option Addr)(M V:Nat)(B:Option Nat):pr g6 (l0 187 [(0,.slice O J u),(1,.slice U I G),(2,.slice E M V),(4,.map B)].toArray)=some (.agg [.slice O J u,.slice U I G,.slice E M V,.slice none 0 0,.map B].toArray):=by kernel_rfl
def OJ(B:Int)(u:Int):pr g6 (l0 193 [(0,hH B),(8,hH u)].toArray)=some (.agg [hH B,.string ⟨#[]⟩,.string ⟨#[]⟩,.slice none 0 0,.slice none 0 0,hH 0,hH 0,hH 0,hH u].toArray):=by kernel_rfl
def WV(u:Int):pr g6 (l0 196 [(0,hH u)].toArray)=some (.agg [hH u,.slice none 0 0].toArray):=by kernel_rfl
def WW(B:Option Addr)(E u:Nat):pr g6 (l0 203 [(0,.slice B E u)].toArray)=some (.agg [.slice B E u,hH 0,hH 0,hH 0].toArray):=by kernel_rfl
def WX(u:Int):pr g6 (l0 209 [(3,hH u)].toArray)=some (.agg [hH 0,.string ⟨#[]⟩,hH 0,hH u].toArray):=by kernel_rfl
def OK(u:Int)(B:Int):pr g6 (l0 227 [(0,hH u),(1,hH B)].toArray)=some (.agg [hH u,hH B].toArray):=by kernel_rfl
def xI:pr g6 (l0 231 [].toArray)=some (.agg [hH 0,hH 0,hH 0,hH 0].toArray):=by kernel_rfl
def Aj(u:Int):pr g6 (l0 231 [(0,hH u)].toArray)=some (.agg [hH u,hH 0,hH 0,hH 0].toArray):=by kernel_rfl
def OL(B:Option Addr)(G u:Nat)(E:Int):pr g6 (l0 305 [(0,.slice B G u),(1,hH E)].toArray)=some (.agg [.slice B G u,hH E,hH 0,hH 0,.slice none 0 0].toArray):=by kernel_rfl
def yU(B:Option Addr)(G u:Nat)(E:Int):pr g6 (l0 308 [(0,.slice B G u),(1,hH E)].toArray)=some (.agg [.slice B G u,hH E,hH 0,hH 0].toArray):=by kernel_rfl
def OM(B:Int)(u:Int):pr g6 (l0 308 [(2,hH B),(3,hH u)].toArray)=some (.agg [.slice none 0 0,hH 0,hH B,hH u].toArray):=by kernel_rfl
def D7(u:Int)(B:Int):pr g6 (l0 320 [(0,hH u),(1,hH B)].toArray)=some (.agg [hH u,hH B].toArray):=by kernel_rfl
def WY:we g6 231=some [0,0,0,0]:=by kernel_rfl
end Go.Proofs.YtpdlpabnlkofmaaGreatDoor
namespace Go.Fw
def sep(H1 H2:HP):HP where
 p w F:=∃B u,H1.p w B/\H2.p w u/\(∀b,B b->¬ u b)/\∀b,F b↔B b\/u b
 loc w w' F h hh:=by
  obtain⟨B,u,h1,h2,h3,h4⟩:=h
  exact⟨B,u,H1.loc _ _ _ h1 λb hb=>hh b ((h4 b).2 (.inl hb)),H2.loc _ _ _ h2 λb hb=>hh b ((h4 b).2 (.inr hb)),h3,h4⟩
 lt w F b h hb:=by
  obtain⟨B,u,h1,h2,h3,h4⟩:=h
  rcases(h4 b).1 hb with hf|hf
  .exact H1.lt _ _ _ h1 hf
  .exact H2.lt _ _ _ h2 hf
def pZ{α:Type}(H:α->HP):HP where
 p w F:=∃x,(H x).p w F
 loc w w' F h hh:=by obtain⟨x,h⟩:=h;exact⟨x,(H x).loc _ _ _ h hh⟩
 lt w F b h hb:=by obtain⟨x,h⟩:=h;exact(H x).lt _ _ _ h hb
def fact(φ:Prop)(H:HP):HP where
 p w F:=φ/\H.p w F
 loc w w' F h hh:=⟨h.1,H.loc _ _ _ h.2 hh⟩
 lt w F b h hb:=H.lt _ _ _ h.2 hb
def emp:HP where
 p _ F:=∀b,¬ F b
 loc _ _ _ h _:=h
 lt _ _ b h hb:=(h b hb).elim
section
variable {P:Program}{w w0 w':World}{A:Nat->Prop}{L:List HP}{H H1 H2:HP}
theorem St.split(h:St w0 A (sep H1 H2::L) w):St w0 A (H1::H2::L) w:=by
 obtain⟨U,F,G,⟨J,E,M,I,O,u⟩,h2,h3,h4,h5⟩:=h.tF
 refine⟨h.aF,U,J,λb=>E b\/G b,M,λb hb=>h2 b ((u b).2 (.inl hb)),λb hb B=>?_,λb=>?_,E,G,I,λb hb=>h2 b ((u b).2 (.inr hb)),λb hb B=>h3 b ((u b).2 (.inr hb)) B,λb=>Iff.rfl,h5⟩
 .grind
 grind
theorem St.join(h:St w0 A (H1::H2::L) w):St w0 A (sep H1 H2::L) w:=by
 obtain⟨U,F,V,h1,h2,h3,h4,u,B,E,I,W,G,M⟩:=h.tF
 refine⟨h.aF,U,λb=>F b\/u b,B,⟨F,u,h1,E,λb hb J=>h3 b hb ((G b).2 (.inl J)),λb=>Iff.rfl⟩,λb hb=>hb.elim (h2 b) (I b),λb hb O=>?_,λb=>?_,M⟩
 .grind
 grind
theorem St.ep{α:Type}{H:α->HP}(h:St w0 A (pZ H::L) w):∃x,St w0 A (H x::L) w:=by
 obtain⟨U,F,u,⟨x,h1⟩,h2⟩:=h.tF;exact⟨x,h.aF,U,F,u,h1,h2⟩
theorem St.er{α:Type}{H:α->HP}(x:α)(h:St w0 A (H x::L) w):St w0 A (pZ H::L) w:=by
 obtain⟨U,F,u,h1,h2⟩:=h.tF;exact⟨h.aF,U,F,u,⟨x,h1⟩,h2⟩
theorem St.l6{φ:Prop}(h:St w0 A (fact φ H::L) w):φ/\St w0 A (H::L) w:=by
 obtain⟨U,F,u,⟨x,h1⟩,h2⟩:=h.tF;exact⟨x,h.aF,U,F,u,h1,h2⟩
theorem St.nZ{φ:Prop}(x:φ)(h:St w0 A (H::L) w):St w0 A (fact φ H::L) w:=by
 simp_all[fact]
def mH(F:Nat->Prop)(H':HP)(w w':World):Prop:=∃u,H'.p w' u/\(∀b,u b->F b\/w.heap.size<=b)/\gC F w w'
def kZ(H:HP)(w w':World):Prop:=∃F,H.p w' F/\(∀b,F b->w.heap.size<=b)/\Ext w w'
theorem St.mut{F:Nat->Prop}(u:St w F (H::L) w'):mH F H w w':=by
 obtain⟨B,h1,h2⟩:=u.head;exact⟨B,h1,h2,u.aF⟩
theorem St.fresh(u:St w aY (H::L) w'):kZ H w w':=by
 obtain⟨B,h1,h2⟩:=u.head;exact⟨B,h1,λb hb=>(h2 b hb).elim (λh=>h.elim) id,u.aF⟩
theorem St.made(u:St w0 A L w)(h:kZ H w w'):St w0 A (H::L) w':=by
 obtain⟨F,h1,h2,h3⟩:=h;exact u.new h3 h1 h2
theorem aS{f:FuncId}{args:List Value}{X:Value}{K:Value->g7}(pl:Plain P f)(u:St w0 A L w)(hc:Calls P f args.toArray w (sK λv w'=>v=X/\Ext w w'))(k:∀w',Ext w w'->St w0 A L w'->K X w'):Cm P f args w K:=
 dO pl hc λv w' h=>by obtain⟨rfl,h2⟩:=h;exact k w' h2 (u.ext h2)
theorem ef{f:FuncId}{args:List Value}{H:Value->HP}{K:Value->g7}(pl:Plain P f)(u:St w0 A L w)(hc:Calls P f args.toArray w (sK λv w'=>kZ (H v) w w'))(k:∀v w',kZ (H v) w w'->St w0 A (H v::L) w'->K v w'):Cm P f args w K:=
 dO pl hc λv w' h=>k v w' h (u.made h)
theorem St.WZ{F:Nat->Prop}{B:Nat->Prop}{H':HP}(I:St w0 A (H::L) w)(h2:∀b,F b->A b\/w0.heap.size<=b)(h3:∀b,F b->¬ B b)(h5:rC w0 A L w B)(h:mH F H' w w'):St w0 A (H'::L) w':=by
 obtain⟨J,O,G,M⟩:=h
 refine⟨I.aF.trans M (λ_ h=>h) λb hb u=>(h2 b u).elim id λU=>bL,λb=>J b\/B b,J,B,O,λb hb=>?_,λb hb E=>?_,λb=>Iff.rfl,?_⟩
 .rcases G b hb with u|u
  .exact h2 b u
  exact .inr (tx I.aF.size u)
 .rcases G b hb with u|u
  .exact h3 b u E
  have:=h5.lt b E;omega
 exact h5.loc λb hb=>M.bZ b (h5.lt b hb) λu=>h3 b u hb
theorem pM{f:FuncId}{args:List Value}{H':Value->HP}{Φ:Value->g7}{K:Value->g7}(pl:Plain P f)(u:St w0 A (H::L) w)
  (hc:∀F,H.p w F->Calls P f args.toArray w (sK λv w'=>Φ v w'/\mH F (H' v) w w')) (k:∀v w',Φ v w'->St w0 A (H' v::L) w'->K v w'):Cm P f args w K:=by
 obtain⟨U,F,G,h1,h2,h3,h4,h5⟩:=u.tF
 exact dO pl (hc F h1) λv w' ⟨B,E⟩=>k v w' B (u.WZ h2 h3 h5 E)
end
section
variable {α:Type}[Flat α] {P:Program}{w w0:World}{A S:Nat->Prop}{L:List HP}{xs ys:List α}
theorem dz.one{v:Value}(h:dz S w v xs):vK v=true:=by obtain⟨a,c,rfl,_⟩:=h;rfl
theorem Gg{T E I R b n cap:Nat}{z:Option Nat}{src:Value}{cs:List Value}(ht:eI P T=some (E,l1 α,I,z))(hb:qx w b cs)(u:dz S w src ys)
  (W:n+ys.length<=cap) (Z:n*l1 α+ys.length*l1 α<=cs.length) :
  ∃w',(Builtin.append_ #[T,T] R [.slice (some ⟨b,0,none⟩) n cap,src].toArray).run P w=.ok (.slice (some ⟨b,0,none⟩) (n+ys.length) cap) w'/\qx w' b (iV cs (n*l1 α) (flat ys))/\gC (· = b) w w':=by
 obtain⟨B,O,hi,M,yR,_⟩:=fq ht
 have rd:=u
 obtain⟨sa,Y,rfl,G,J⟩:=rd
 obtain⟨w',h1,h2,h3⟩:=mF (P:=P) (o:=n*l1 α) (flat ys) 0 cs w hb (by rw[dF];omega) zZ
 refine⟨w',?_,bL,h3⟩
 have V:=xD (α:=α) (P:=P) (sz:=l1 α) rfl u
 have U:(⟨b,0,none⟩:Addr).add (n*l1 α)=⟨b,n*l1 α,none⟩:=by rw[gD,ta]
 simp[Builtin.append_,run_underlying B,sizeOf,typeInfo,hi,Builtin.lenOf,W,V,M,U,h1]
theorem T0{T E J R b o n c:Nat}{z:α}{cs:List Value}(ht:Wt P T E (l1 α) J)(u:nU P E (hM z))(hb:qx w b cs)(U:o+n*l1 α<=cs.length) :
  ∃w',(Builtin.clear_ #[T] R [.slice (some ⟨b,o,none⟩) n c].toArray).run P w=.ok (.tuple #[]) w'/\qx w' b (iV cs o (flat (po n z)))/\gC (· = b) w w':=by
 obtain⟨G,M,hi,O,V,_⟩:=fq ht
 unfold nU eh at u
 rw[hi]at u
 simp only[Option.map_some,n3.injEq]at u
 by_cases I:n=0
 .subst I
  refine⟨w,?_,by simpa[lW,iV]using hb,gC.refl _ _⟩
  simp[Builtin.clear_,run_underlying G]
 have B:(Builtin.zeroCells (hM z).cells n).toList=flat (po n z):=by
  rw[ph,<- v8]
  unfold Builtin.zeroCells madeCells
  simp[xZ]
 obtain⟨w',h1,h2,h3⟩:=mF (P:=P) (o:=o) (flat (po n z)) 0 cs w hb (by rw[dF,List.length_replicate];omega) zZ
 refine⟨w',?_,bL,h3⟩
 simp[Builtin.clear_,run_underlying G,zeroValue,typeInfo,hi,u,I,B,h1]
theorem W0{T E sz B n cap:Nat}{z:Option Nat}{a:Option Addr}{i j k:Int}{K:Value->Prop}(ht:eI P T=some (E,sz,B,z))(O:0<=i)(h1:i<=j)(h2:j<=k)(h3:k<=cap)
  (M:∀v,K v):eM P (nn T (.slice a n cap) (some (hH i)) (some (hH j)) (some (hH k))) K:=by
 obtain⟨u,I,J,G,_⟩:=fq ht
 have hb:pr P (vd true n cap (some (hH i)) (some (hH j)) (some (hH k)))=some (i.toNat,j.toNat,k.toNat):=by
  simp only[vd,cT,fO,l2]
  rw[iZ bL bL]
  simp only[l2]
  rw[iZ bL bL]
  simp only[l2]
  rw[iZ bL bL]
  rfl
 refine⟨.slice (if k.toNat=i.toNat then a else a.map (·.add (i.toNat*sz))) (j.toNat-i.toNat) (k.toNat-i.toNat),?_,M _⟩
 unfold nn
 rw[cT,cS u]
 simp only[l2]
 unfold P1
 rw[cT,cS u]
 simp only[l2]
 rw[cT,hb]
 simp only[l2]
 rw[cT,mE J,G]
 rfl
end
def nq(b:Nat)(o:Obj):HP where
 p w F:=w.heap[b]?=some o/\∀k,F k↔k=b
 loc w w' F h hh:=⟨(hh b ((h.2 b).2 rfl)).trans h.1,h.2⟩
 lt w F b' h hb:=cH
section
variable {P:Program}{w w0 w':World}{A:Nat->Prop}{L:List HP}
theorem St.obj{b:Nat}{o:Obj}(u:St w0 A (nq b o::L) w):w.heap[b]?=some o:=by
 obtain⟨F,h,_⟩:=u.head;exact h.1
theorem Ext.alloc(w:World)(o:Obj):Ext w (w.alloc o):=Ext.push w o
theorem St.alloc{o:Obj}(u:St w0 A L w):St w0 A (nq w.heap.size o::L) (w.alloc o):=
 u.new (F:=(· = w.heap.size)) (Ext.alloc w o) ⟨nc w o,λ_=>Iff.rfl⟩ λb hb=>Nat.le_of_eq hb.symm
theorem gC.putObj(w:World)(b:Nat)(o:Obj):gC (· = b) w (w.putObj b o):=
 ⟨rfl,rfl,rfl,ea,λk _ u=>World.putObj_heap_other u⟩
theorem St.putObj{b:Nat}{o:Obj}(u:Obj)(G:St w0 A (nq b o::L) w):St w0 A (nq b u::L) (w.putObj b u):=
 G.qW λF B=>⟨F,⟨World.putObj_heap_same (uT B.1),B.2⟩,λ_ h=>.inl h,(gC.putObj w b u).mono λk E=>(B.2 k).2 E⟩
theorem ko.mono{fv:Value}{args:List Value}{K u:Value->g7}(h:ko P fv args w K)(B:∀v w,K v w->u v w):ko P fv args w u:=
 Gt.mono (P:=P) (k:=.Rd fv args) h B
theorem aK{α:Type}[Flat α]{T:TypeId}{b:Nat}{cs:List Value}{x:α}{K:g7}(E:St w0 A (bZ b cs::L) w)(ht:acs P T (l1 α))(B:H4 α=true)(u:cs.length=l1 α)
  (k:∀w',St w0 A (bZ b (ia x)::L) w'->K w'):VG P (JX T (.pointer (some ⟨b,0,none⟩)) (hM x)) w K:=by
 rw[abG B]
 refine D1 E ht (xZ x) (by rw[ta,u];exact o5 _) (ZL x) λw' h=>k w' ?_
 have:=lX [] cs [] (ia x) (by rw[xZ,u])
 simp only[List.length_nil,List.nil_append,oj]at this
 rwa [this]at h
theorem fm{α:Type}[Flat α]{S:Nat->Prop}{T:TypeId}{p:Value}{x:α}(ht:dy P T=some (H4 α,l1 α))(h:At S w p x):(wO T p).run P w=.ok (hM x) w:=by
 obtain⟨v,h1,h2⟩:=(aE (K:=λv=>v=hM x) ht h rfl).ex
 grind
theorem lL{b:Bool}{A B:Prop}(h:b=true)(a:A):ym (.bool b) A B:=⟨⟨_,rfl,λ_=>a,λu=>cH⟩⟩
theorem fF{b:Bool}{A B:Prop}(h:b=false)(a:B):ym (.bool b) A B:=⟨⟨_,rfl,λu=>cH,λ_=>a⟩⟩
theorem D8{D:Nat}{K:g7}(u:St w0 A (nq D (.deferred (some []))::L) w)(k:∀w',St w0 A L w'->K w'):mD [D] w K:=
 ⟨u.obj,k _ (u.putObj (.deferred none)).drop⟩
theorem D9(u:Loop)(h1:u.state=.ready)(h2:u.pending=none):({u with state:=if (none:Option Code).isNone=true then LoopState.ready else LoopState.done,pending:=none}:Loop)=u:=by
 cases u;grind
theorem wy{gf np:Nat}{cap:List Value}{xs:List (List Value)}{round:List Value->World->(World->(g7)->Prop)->(Option Code->g7)->Prop}
  {N R:Nat->g7}{X:Nat->Nat->g7}(pl:Plain P gf) (hs:St w0 A L w) (I:Nat->List HP->Prop) (Z:Code->List HP->Prop) (h0:I 0 L) (hnp:∀x∈xs,x.length=np)
  (hgf:∀(y:Value) (J:Nat->g7) (Jx:g7) (W:World),(∀k W,J k W->∃Y M,I k M/\St w0 A (Y::M) W)->(∀k W O,J k W->Ext W O->J k O)->J 0 W->
   (∀k args O,xs[k]?=some args->J k O->ko P y args O λv V=>(v=.bool true/\J (k+1) V)\/(v=.bool false/\Jx V))->
   Calls P gf ([y]++cap).toArray W (sK λ_ O=>J xs.length O\/Jx O))
  (DV:∀k args (Y1 Y2:HP) (B:World->(g7)->Prop) (Kr:Option Code->g7) M W,xs[k]?=some args->I k M->
   (∀M E (kk:g7),St w0 A (Y1::M) E->(∀w2,St w0 A (Y2::M) w2->kk w2)->B E kk)->
   (∀M E,St w0 A (Y2::M) E->I (k+1) M->Kr none E)->(∀c M E,St w0 A (Y2::M) E->Z c M->Kr (some c) E)->
   St w0 A (Y1::M) W->round args W B Kr)
  (W3:∀D M W,I xs.length M->St w0 A (nq D (.deferred (some []))::M) W->N D W)
  (aia:∀D M W,Z .ret M->St w0 A (nq D (.deferred (some []))::M) W->R D W)
  (W4:∀id D M W,Z (.exit id) M->St w0 A (nq D (.deferred (some []))::M) W->X id D W)
  (ON:∀c M,Z c M->(∃id,c=.exit id)\/c=.ret) :
  zX P (.func (.func gf) #[] cap.toArray) np w round (aft N R X):=by
 refine⟨gf,cap.toArray,rfl,pl,λU iS Bj hy=>?_⟩
 obtain⟨l,hl⟩:∃l,l=w.heap.size+1:=⟨_,rfl⟩
 obtain⟨D,hD⟩:∃D,D=w.heap.size:=⟨_,rfl⟩
 rw[<- hl]at hy |-
 rw[<- hD]
 let J:Nat->g7:=λk W=>∃M,I k M/\St w0 A (nq l (.loop U)::nq D (.deferred (some []))::M) W
 let Jx:g7:=λW=>∃c M,Z c M/\St w0 A (nq l (.loop {U with state:=.done,pending:=some c})::nq D (.deferred (some []))::M) W
 have T1:J 0 ((w.alloc (.deferred (some []))).alloc (.loop U)):=by
  refine⟨L,h0,?_⟩
  have h1:=(hs.alloc (o:=.deferred (some []))).alloc (o:=.loop U)
  rw[show(w.alloc (.deferred (some []))).heap.size=l from by rw[hl];exact Bx w _,<- hD]at h1
  exact h1
 have:=hgf (.func (.yield l) #[] #[]) J Jx _ (λk W ⟨M,G,u⟩=>⟨_,M,G,St.join u⟩) (λk W O ⟨M,G,u⟩ e=>⟨M,G,u.ext e⟩) T1 ?_
 .have e:([Value.func (.yield l) #[] #[]]++cap).toArray = #[.func (.yield l) #[] #[]]++cap.toArray:=ea
  rw[e]at this
  refine this.mono λx O ⟨v,hx,hv⟩=>⟨v,hx,?_⟩
  rcases hv with⟨M,G,u⟩|⟨c,M,G,u⟩
  .refine⟨.ready,none,ea,?_,?_⟩
   .rw[<- iS,<- Bj];exact u.obj
   exact W3 D M _ G (u.putObj _).drop
  refine⟨.done,some c,ea,u.obj,?_⟩
  rcases ON c M G with⟨id,rfl⟩|rfl
  .exact W4 id D M _ G (u.putObj _).drop
  exact aia D M _ G (u.putObj _).drop
 intro k args W hk ⟨M,G,u⟩
 refine⟨.inr ⟨l,rfl,?_⟩⟩
 refine hy args W _ (hnp args (j0 hk)) u.obj ?_
 refine DV k args (sep (nq l (.loop U)) (nq D (.deferred (some [])))) (sep (nq l (.loop {U with state:=.busy})) (nq D (.deferred (some [])))) _ _ M W hk G
  (λM E kk h1 h2=>?_) (λM E h1 h2=>?_) (λc M E h1 h2=>?_) (St.join u)
 .have h1:=h1.split
  exact⟨h1.obj,h2 _ (h1.putObj _).join⟩
 .have h1:=h1.split
  refine⟨h1.obj,.inl ⟨rfl,M,h2,?_⟩⟩
  have:=h1.putObj (.loop {U with state:=if (none:Option Code).isNone=true then LoopState.ready else LoopState.done,pending:=none})
  rw[D9 U iS Bj]at this |-
  exact this
 have h1:=h1.split
 exact⟨h1.obj,.inr ⟨rfl,c,M,h2,h1.putObj _⟩⟩
end
section
variable {P:Program}{w w0:World}{A S:Nat->Prop}{L:List HP}
theorem tf{t:Array TypeId}{T:TypeId}{a b:Int}{K:Value->Prop}(k:K (hH (min a b))):eM P (Builtin.min_ t T [hH a,hH b].toArray) K:=by
 refine⟨_,?_,k⟩
 show pr P (Builtin.min2 (hH a) (hH b))=_
 unfold Builtin.min2
 by_cases h:b<a
 .simp[h,fO];omega
 simp[h,fO];omega
theorem De{t:Array TypeId}{T:TypeId}{a b:Int}{K:Value->Prop}(k:K (hH (max a b))):eM P (Builtin.max_ t T [hH a,hH b].toArray) K:=by
 refine⟨_,?_,k⟩
 show pr P (Builtin.max2 (hH a) (hH b))=_
 unfold Builtin.max2
 by_cases h:a<b
 .simp[h,fO];omega
 simp[h,fO];omega
theorem Lf{α β:Type}[Flat α][Flat β]{T f u:Nat}{p:Value}{x:α}(y:β){K:Value->Prop}(ht:vY P T f u)(h:At S w p x)(E:((ia x).drop u).take (l1 β)=ia y)
  (k:∀q,At S w q y->K q):eM P (E3 T p f) K:=by
 obtain⟨b,o,rfl,h2,h3⟩:=h
 refine aA ht (k _ ⟨b,o+u,rfl,h2,λj c B=>?_⟩)
 grind
end
section
variable {P:Program}{α:Type}[Flat α] {A:Nat->Prop}{w0 w:World}{L:List HP}{xs:List α}
def OO(α:Type)[Flat α](v:Value)(i u:Nat)(p:Value):Prop:=∃b n c,v=.slice (some ⟨b,0,none⟩) n c/\p=.pointer (some ⟨b,i*l1 α+u,none⟩)
theorem l8{T f u i:Nat}{v p:Value}{K:Value->Prop}(ht:vY P T f u)(h:GM α v i p)(k:∀q,OO α v i u q->K q):eM P (E3 T p f) K:=by
 obtain⟨b,n,c,h1,rfl⟩:=h
 exact aA ht (k _ ⟨b,n,c,h1,rfl⟩)
theorem nt{β:Type}[Flat β]{T:Nat}{v p:Value}{i u:Nat}{x:α}(y:β){K:Value->Prop}(I:St w0 A (bF v xs::L) w)(ht:dy P T=some (H4 β,l1 β))(M:OO α v i u p)(G:xs[i]?=some x)
  (J:((ia x).drop u).take (l1 β)=ia y) (k:K (hM y)):J2 P (wO T p) w K:=by
 obtain⟨F,h,_⟩:=I.head
 obtain⟨b,cap,rest,O,hb,V,_⟩:=rn h (ir.1 G).1
 obtain⟨U,n,c,E,rfl⟩:=M
 rw[O]at E
 simp only[ye.injEq,n3.injEq,Addr.mk.injEq]at E
 obtain⟨⟨rfl,_,_⟩,_,_⟩:=E
 refine aE (S:=λ_=>True) ht ⟨b,i*l1 α+u,rfl,trivial,λj c B=>hb.cell ?_⟩ k
 rw[<- J,List.getElem?_take]at B
 split at B
 .rw[H5]at B
  have:=rD G B
  rw[Mi,s4 (ir.1 this).1];exact this
 cases B
theorem W5{β:Type}[Flat β]{T:Nat}{v p:Value}{i u:Nat}{K:g7}{x:α}(y:α)(z:β)(M:St w0 A (bF v xs::L) w)(ht:dy P T=some (H4 β,l1 β))(hp:OO α v i u p)(V:xs[i]?=some x)
  (hlen:u+l1 β<=l1 α) (hy:(ia x).take u++ia z++(ia x).drop (u+l1 β)=ia y)
  (k:∀w',St w0 A (bF v (xs.set i y)::L) w'->K w'):VG P (JX T p (hM z)) w K:=by
 obtain⟨U,F,U',g1,O,Y,g4,Z⟩:=M.tF
 have hi:=(ir.1 V).1
 obtain⟨b,cap,rest,hv,hb,W,G⟩:=rn g1 hi
 obtain⟨b',n,c,I,rfl⟩:=hp
 rw[hv]at I
 simp only[ye.injEq,n3.injEq,Addr.mk.injEq]at I
 obtain⟨⟨rfl,_,_⟩,_,_⟩:=I
 have Gd:=yS V
 have OD:(flat (xs.take i)).length=i*l1 α:=by rw[dF,lQ,Em bL]
 have Lg:i*l1 α+l1 α<=(flat xs).length:=by
  rw[dF,<- Nat.succ_mul];exact Nat.mul_le_mul_right _ hi
 have hxl:(ia x).length=l1 α:=xZ x
 have B:(ia z).length=l1 β:=xZ z
 obtain⟨w',h1,h2,h3⟩:=mF (P:=P) (o:=i*l1 α+u) (ia z) 0 (flat xs++rest) w hb (by rw[B,kH];omega) (ZL z)
 have F8:iV (flat xs++rest) (i*l1 α+u+0) (ia z)=flat (xs.set i y)++rest:=by
  have:=lX (flat (xs.take i)++(ia x).take u) (((ia x).drop u).take (l1 β)) ((ia x).drop (u+l1 β)++flat (xs.drop (i+1))++rest) (ia z)
   (by rw[B,lQ,pd];omega)
  rw[kH,OD,lQ,Em bL]at this
  rw[Lm,KI y hi,Gd,<- hy]
  have e1:ia x=(ia x).take u++((ia x).drop u).take (l1 β)++(ia x).drop (u+l1 β):=by
   rw[<- sm,mX,o1,o1]
  have e2:flat (xs.take i)++ia x++flat (xs.drop (i+1))++rest=flat (xs.take i)++(ia x).take u++((ia x).drop u).take (l1 β)++((ia x).drop (u+l1 β)++flat (xs.drop (i+1))++rest):=by
   conv=>lhs;rw[e1]
   simp only[mX]
  rw[e2,this]
  simp only[mX]
 rw[F8]at h2
 refine⟨w',?_,k w' ⟨M.aF.trans (h3.mono λk E=>(G k).2 E) (λ_ h=>h) λb hb J=>(O b J).elim id λhh=>bL,U,F,U',?_,O,Y,g4,
  Z.loc λb hb=>(h3.mono λk E=>(G k).2 E).bZ b (Z.lt b hb) λJ=>Y b J hb⟩⟩
 .show(storeVar T ⟨b,i*l1 α+u,none⟩ (hM z)).run P w=_
  unfold storeVar
  rw[eF (fU (kX ht).2 w),ph]
  simp only[List.size_toArray,xZ,ne_eq,not_true_eq_false,if_false]
  exact h1
 refine .inr ⟨b,cap,rest,by rw[FX];exact hv,h2,?_,G⟩
 rw[kH,dF]at W |-;rw[FX];exact W
theorem xJ{T:Nat}{b o:Nat}{cs:List Value}(x:α){K:Value->Prop}(ht:dy P T=some (H4 α,l1 α))(hb:qx w b cs)(u:(cs.drop o).take (l1 α)=ia x)(k:K (hM x)) :
  J2 P (wO T (.pointer (some ⟨b,o,none⟩))) w K:=by
 refine aE (S:=λ_=>True) ht ⟨b,o,rfl,trivial,λj c B=>hb.cell ?_⟩ k
 grind
end
structure SV where
 a:Option Addr
 n:Nat
 cap:Nat
abbrev cI:SV:=⟨none,0,0⟩
instance:Flat SV where
 agg:=false
 sz:=1
 enc s:=[.slice s.a s.n s.cap]
 val s:=.slice s.a s.n s.cap
 pos:=cZ
 len _:=rfl
 one a v h:=by rw[sM.1 h];rfl
 ng h:=by cases h
 nh _ _:=rfl
section
variable {P:Program}{α:Type}[Flat α] {A:Nat->Prop}{w0 w:World}{L L':List HP}{v:Value}
def rows:List SV->List (List α)->HP
 | [],[]=>emp
 | s::ss,x::xs=>sep (bF (hM s) x) (rows ss xs)
 | _,_=>fact False emp
theorem Lh:∀{u:List SV}{xs:List (List α)}{F:Nat->Prop},(rows u xs).p w F->u.length=xs.length
 | [],[],_,_=>rfl
 | s::u,x::xs,F,h=>by
  obtain⟨E,B,_,h2,_,_⟩:=h
  rw[n5,n5,Lh h2]
 | [],_::_,_,h=>h.1.elim
 | _::_,[],_,h=>h.1.elim
theorem GS:∀{E:List SV}{xs:List (List α)}{B u F:Nat->Prop}{s:SV}{x:List α},(rows E xs).p w B->(bF (hM s) x).p w u->(∀b,B b->¬ u b)->(∀b,F b↔B b\/u b)->(rows (E++[s]) (xs++[x])).p w F
 | [],[],B,u,F,s,x,h1,h2,_,h4=>by
  refine⟨u,B,h2,h1,λb hb G=>h1 b G,λb=>?_⟩
  grind
 | s'::E,x'::xs,B,u,F,s,x,h1,h2,h3,h4=>by
  obtain⟨M,O,I,U,V,J⟩:=h1
  refine⟨M,λb=>O b\/u b,I,GS U h2 (λb hb=>h3 b ((J b).2 (.inr hb))) (λb=>Iff.rfl),λb hb=>?_,λb=>?_⟩
  .grind
  grind
 | [],_::_,_,_,_,_,_,h,_,_,_=>h.1.elim
 | _::_,[],_,_,_,_,_,h,_,_,_=>h.1.elim
theorem St.Ak{u:List SV}{xs:List (List α)}(B:St w0 A (rows u xs::L) w):u.length=xs.length:=by
 obtain⟨F,h,_⟩:=B.head;exact Lh h
theorem St.acI(u:St w0 A L w):St w0 A (rows [] ([]:List (List α))::L) w:=
 u.new (Ext.refl w) (F:=aY) (λ_ h=>h) λ_ h=>h.elim
theorem St.Ea{u:List SV}{xs:List (List α)}{s:SV}{x:List α}(B:St w0 A (rows u xs::bF (hM s) x::L) w):St w0 A (rows (u++[s]) (xs++[x])::L) w:=by
 have h:=St.join B
 refine h.qW λF E=>?_
 obtain⟨I,G,h1,h2,h3,h4⟩:=E
 exact⟨F,GS h1 h2 h3 h4,λb hb=>.inl hb,gC.refl _ _⟩
theorem St.fQ{xs:List α}(u:St w0 A (bF v xs::L) w):∃s:SV,v=hM s:=by
 obtain⟨F,h,_⟩:=u.head
 rcases h with⟨rfl,_⟩|⟨b,cap,_,rfl,_⟩
 .exact⟨⟨none,0,0⟩,rfl⟩
 exact⟨⟨_,_,_⟩,rfl⟩
theorem dz.fQ{S:Nat->Prop}{xs:List α}(h:dz S w v xs):∃s:SV,v=hM s:=by
 obtain⟨a,cap,rfl,_⟩:=h;exact⟨⟨_,_,_⟩,rfl⟩
def avL(w:World)(v:Value)(xs:List (List α)):Prop:=
 ∃u:List SV,dz (λ_=>True) w v u/\u.length=xs.length/\∀(i:Nat) (s:SV) (x:List α),u[i]?=some s->xs[i]?=some x->dz (λ_=>True) w (hM s) x
end
section
variable {P:Program}
theorem j1{α:Type}[Flat α]{S:Nat->Prop}{w:World}{xs:List α}{T E B:Nat}{z:Option Nat}{v:Value}{i:Int}{K:Value->Prop}(ht:eI P T=some (E,l1 α,B,z))(G:dz S w v xs)(I:0<=i)(h2:i<=xs.length)
  (k:∀u,(∀w',dz S w' v xs->dz S w' u (xs.take i.toNat))->K u):eM P (nn T v none (some (hH i)) none) K:=by
 obtain⟨a,cap,rfl,J,h3⟩:=G
 refine⟨_,vZ ht (nV (.inl ⟨rfl,rfl⟩) (.inr ⟨i,rfl,I,rfl⟩) (kO _) bL),k _ λw' h=>?_⟩
 have:=h.cut rfl (kO i.toNat) bL
 grind
end
open Go.ChangeShapes Go.WideShapes Go.ChangeAt Go.RowKit
structure RdT(P:Program)(t:TypeId)(α:Type)[Flat α](φ:α->Prop):Prop where
 cells:P.cellsOf t=l1 α
 rd:∀{H:Type}(enc:TypeId×Value->H) (w:World) (base:Nat) (sp:Nat->Bool) (held:Bool) (fuel:Nat) (cs:List Value) (x:DataW H×List MemPlace),
  DataW.trod enc P w base sp held fuel t cs=some x->∃a:α,cs=ia a/\φ a
def eS(n:Int):Prop:=-9223372036854775808<=n/\n<=9223372036854775807
def aib{P:Program}{t:TypeId}(ht:P.underlying t=some (.int .i64))(hc:P.cellsOf t=1):RdT P t Int eS:=
 ⟨hc,λenc w base u held fuel cs x h=>by
  obtain⟨n,h1,_,h3⟩:=DataW.trod_int ht h
  refine⟨n,h1,?_⟩
  simpa[Lit.wf,IntKind.min,IntKind.max,IntKind.signed,IntKind.bits,eS]using h3⟩
def aic{P:Program}{t:TypeId}(ht:P.underlying t=some .string)(hc:P.cellsOf t=1):RdT P t ByteArray (λs=>s.size<=maxLen):=
 ⟨hc,λenc w base u held fuel cs x h=>by
  obtain⟨n,h1,_,h2⟩:=DataW.trod_string ht h
  exact⟨n,h1,h2⟩⟩
def l9{H:Type}{enc:TypeId×Value->H}{P:Program}{w:World}{base:Nat}{B:Nat->Bool}{held:Bool}{fuel:Nat}{t:TypeId}{u:Array Field}{cs:List Value}{x:DataW H×List MemPlace}
  (ht:P.underlying t=some (.struct u)) (h:DataW.trod enc P w base B held fuel t cs=some x) :
  cs.length=P.cellsOf t/\∃n,∀(i:Nat) (f:Field),u[i]?=some f->∃y,DataW.trod enc P w base B held n f.type ((cs.drop f.offset).take (P.cellsOf f.type))=some y:=by
 obtain⟨xs,n,_,_,J,E,I⟩:=DataW.trod_struct ht h
 refine⟨J,n,λi f hi=>?_⟩
 have G:i<xs.length:=by rw[E];exact(Array.getElem?_eq_some_iff.1 hi).1
 exact⟨xs[i],by rw[I i f hi,kE G]⟩
def dW{cs:List Value}{o s:Nat}{r:List Value}(h:(cs.drop o).take s=r):cs.drop o=r++cs.drop (o+s):=by
 rw[<- h,<- sm,o1]
theorem acJ{α:Type}{p:Nat->α->Prop}:∀n,(∀i,i<n->∃x,p i x)->∃xs:List α,xs.length=n/\∀i x,xs[i]?=some x->p i x:=by
 intro n
 induction n with
 | zero=>simp_all
 | succ n u=>
  intro h
  obtain⟨xs,h1,h2⟩:=u λi hi=>h i bL
  obtain⟨x,B⟩:=h n bL
  refine⟨xs++[x],by simp[h1],λi y E=>?_⟩
  grind
def OP{α:Type}[Flat α]{xs:List α}{j:Nat}{c:Value}(h:(flat xs)[j]?=some c):∃i r x,xs[i]?=some x/\(ia x)[r]?=some c/\j=i*l1 α+r:=by
 have G:j<(flat xs).length:=(ir.1 h).1
 rw[dF]at G
 have E:0<l1 α:=aab
 have hi:j / l1 α<xs.length:=Nat.div_lt_of_lt_mul cH
 have B:j % l1 α<l1 α:=abB _ E
 have I:j=j / l1 α*l1 α+j % l1 α:=by rw[Nat.mul_comm];exact(Nat.div_add_mod _ _).symm
 have u:xs[j / l1 α]?=some (xs[j / l1 α]):=kE hi
 have hc:(ia (xs[j / l1 α]))[j % l1 α]?=some ((ia (xs[j / l1 α]))[j % l1 α]'(by rw[xZ];exact B)):=kE _
 have:=rD u hc
 grind
section
variable {H:Type}{enc:TypeId×Value->H}{P:Program}{w:World}{base:Nat}{held:Bool}
theorem open_i64{r:Reach}{B:Nat}{t:TypeId}{v:Value}{d:DataW H}{ps:List MemPlace}{E:Nat->Bool}(ht:P.underlying t=some (.int .i64))(u:Od P w r B t v)(hd:DataW.Trod enc P w base E held t v d ps) :
  ∃n,v=hH n/\eS n:=by
 obtain⟨n,h1,_,_,h4⟩:=open_int ht u hd
 exact⟨n,h1,by simpa[Lit.wf,IntKind.min,IntKind.max,IntKind.signed,IntKind.bits,eS]using h4⟩
def IP(P:Program)(ts:List TypeId):Bool:=ts.all λt=>P.readableRec t&&decide (t<P.types.size)
theorem yu(I:laidOutB P=true){W G:World}(hb:Below W.heap.size W G){E:Nat->Bool}:∀{ts:List TypeId}{vs:List Value}{ds:List (DataW H)}{ps:List MemPlace},IP P ts=true->(∀x∈ps,x.block<W.heap.size)->
  (∀x∈ps,E x.block=true)->DataW.TrodAll enc P W 0 (λ_=>true) true ts vs ds ps->DataW.TrodAll enc P G 0 E true ts vs ds ps
 | [],vs,ds,ps,_,_,_,h=>by obtain⟨rfl,rfl,rfl⟩:=trodAll_nil h;exact trodAll_mk0
 | t::ts,vs,ds,ps,hr,nB,Gd,h=>by
  obtain⟨v,M,d,J,a,b,rfl,rfl,rfl,h1,h2⟩:=trodAll_cons h
  have B:P.readableRec t=true/\t<P.types.size/\IP P ts=true:=by
   grind[IP]
  refine trodAll_cons_mk (WideElems.Trod_stays I B.1 B.2.1 h1 (λx u=>hb.same (nB x (List.mem_append_left _ u))) λx u=>Gd x (List.mem_append_left _ u)) ?_
  exact yu I hb B.2.2 (λx u=>nB x (List.mem_append_right _ u)) (λx u=>Gd x (List.mem_append_right _ u)) h2
theorem post_true{f:Func}{s:ChangeSpec}{apart fresh handsOn again:Bool}{W I:World}{args:Array Value}{ds gs:List (DataW H)}{before:List MemPlace}{tb:TypeId}
  (Y:s.vars=[]) (hfn:∀ds:List (DataW H),ds.length=f.params.size->s.fn H ds={results:=[.lit (.bool true)],args:=ds}) (M:f.resultTypes = #[tb]) (O:P.underlying tb=some .bool)
  (hl:laidOutB P=true) (aid:IP P f.params.toList=true)
  (hW:DataW.Whole enc P f.params.toList s.vars apart W args.toList ds gs before) (hb:Below W.heap.size W I) :
  s.post enc P f apart fresh handsOn again W args (.bool true) I:=by
 have V:=hW
 obtain⟨p,q,hA,hV,Z,hz,hn⟩:=hW
 have nB:∀x∈before,x.block<W.heap.size:=V.lt
 rw[Y]at hV
 obtain⟨rfl,rfl⟩:=trodVars_none hV
 simp only[oj]at Z
 have hlen:ds.length=f.params.size:=by
  have:=(trodAll_length hA).2
  omega
 have E:=hfn ds hlen
 have J:∀(b:Nat) (B:Nat->Bool) (hd:Bool),DataW.TrodAll enc P I b B hd f.resultTypes.toList ((vX true).resultList f.resultTypes.size) (s.fn H (ds++[])).results []:=λb B hd=>by
  rw[oj,E,M]
  exact trodAll_mk1 (shut_bool O true)
 have u:∀B:Nat->Bool,(∀p∈before,B p.block=true)->DataW.TrodAll enc P I 0 B true f.params.toList args.toList (s.fn H (ds++[])).args before:=λB Gd=>by
  rw[oj,E]
  rw[Z]at nB Gd |-
  exact yu hl hb aid nB Gd hA
 have W6:∀B:Nat->Bool,DataW.TrodVars enc P I B s.vars (s.fn H (ds++[])).vars []:=λB=>by
  rw[oj,E,Y];rfl
 have jK:∀(j:Nat) (t:TypeId) (r:Value),f.resultTypes[j]?=some t->((vX true).resultList f.resultTypes.size)[j]?=some r->Od P I .any 0 t r:=
  ok_one M rfl (okWide_bool_mk O true)
 have hold:∀p∈before,(λb=>decide (b<W.heap.size)) p.block=true:=λp hp=>cH
 refine⟨ds,[],before,[],before,[],V,J _ _ _,u _ hold,W6 _,World.keptBut_mono (λp hp=>⟨hp,?_⟩) (hb.frame (·∈before)),λ_=>?_⟩
 .grind
 refine⟨jK,_,_,([]++before)++[],⟨[]++before,[],trodAll_append (u _ λ_ _=>rfl) (J _ _ _),W6 _,rfl,?_,?_⟩,?_⟩
 .intro b G hp
  have U:MemPlace.cell b G∈before:=cH
  rw[hb.frozen (p:=⟨b,G,none⟩) (nB _ U)]
  exact hz b G U
 .grind
 grind
end
section
variable {P:Program}{α:Type}[Flat α]
def aod(P:Program)(T n E:Nat):Prop:=P.underlying T=some (.array n E)/\pr P (sizeOf E)=some 1
theorem oH{T E n b o:Nat}{i:Int}{K:Value->Prop}(h:aod P T n E)(B:0<=i)(h1:i<n)(k:K (.pointer (some ⟨b,o+i.toNat,none⟩))) :
  eM P (E4 T (.pointer (some ⟨b,o,none⟩)) (hH i)) K:=by
 refine⟨_,?_,k⟩
 unfold E4
 have G:pr P (underlying T)=some (.array n E):=cS h.1
 have u:pr P (Instr.sureAddr (.pointer (some (⟨b,o,none⟩:Addr))))=some ⟨b,o,none⟩:=rfl
 simp only[asIntOf,cT,G,l2,fO,u]
 simp only[ee (show 0<=i/\i<(n:Int)from⟨B,h1⟩),cT,h.2,l2,fO,gD,Nat.mul_one]
end
def RR{α:Type}[Flat α]{P:Program}{w w0:World}{A:Nat->Prop}{L:List HP}{xs:List α}{T:Nat}{v p:Value}{i:Nat}{x:α}(E:St w0 A (bF v xs::L) w)(ht:dy P T=some (H4 α,l1 α))(I:GM α v i p)(B:xs[i]?=some x) :
  (wO T p).run P w=.ok (hM x) w:=by
 obtain⟨F,h,_⟩:=E.head
 obtain⟨b,cap,rest,J,hb,O,_⟩:=rn h (ir.1 B).1
 obtain⟨M,n,c,u,rfl⟩:=I
 rw[J]at u
 simp only[ye.injEq,n3.injEq,Addr.mk.injEq]at u
 obtain⟨⟨rfl,_,_⟩,_,_⟩:=u
 refine fm (S:=λ_=>True) ht ⟨b,i*l1 α,rfl,trivial,λj c G=>hb.cell ?_⟩
 have:=rD B G
 rw[s4 (ir.1 this).1];exact this
class Deep (α:Type) (σ:outParam Type) [Flat σ] where
 dr:World->σ->α->Prop
 ext:∀{w w':World}{s:σ}{x:α},dr w s x->Ext w w'->dr w' s x
def DL{α σ:Type}[Flat σ][Deep α σ](w:World)(v:Value)(xs:List α):Prop:=
 ∃ts:List σ,dz (λ_=>True) w v ts/\ts.length=xs.length/\∀(i:Nat) (t:σ) (x:α),ts[i]?=some t->xs[i]?=some x->Deep.dr w t x
section
variable {P:Program}{α σ:Type}[Flat σ] [Deep α σ] {w w' w0:World}{v:Value}{A:Nat->Prop}{L:List HP}
theorem DL.ext{xs:List α}(h:DL w v xs)(e:Ext w w'):DL w' v xs:=by
 obtain⟨ts,h1,h2,h3⟩:=h;exact⟨ts,h1.ext e,h2,λi t x a b=>Deep.ext (h3 i t x a b) e⟩
theorem DL.nil(w:World):DL w (.slice none 0 0) ([]:List α):=⟨[],dz.nil _ _,rfl,λi t x h=>by simp at h⟩
theorem DL.fQ{xs:List α}(h:DL w v xs):∃s:SV,v=hM s:=by obtain⟨_,h,_⟩:=h;exact h.fQ
instance:Deep (List α) SV where
 dr w s xs:=DL w (hM s) xs
 ext h e:=DL.ext h e
def eH(Φ:g7):HP where
 p w F:=(∀w':World,(∀b,F b->w'.heap[b]?=w.heap[b]?)->Φ w')/\∀b,F b->b<w.heap.size
 loc w w' F h hh:=⟨λu h2=>h.1 u λb hb=>(h2 b hb).trans (hh b hb),λb hb=>by
  grind⟩
 lt w F b h hb:=h.2 b hb
theorem eH.now{Φ:g7}{F:Nat->Prop}(h:(eH Φ).p w F):Φ w:=h.1 w λ_ _=>rfl
theorem St.eH{Φ:g7}(u:St w0 A (eH Φ::L) w):Φ w:=by obtain⟨F,h,_⟩:=u.head;exact eH.now h
theorem St.dD{Φ Ψ:g7}(E:St w0 A (Fw.eH Φ::L) w)(B:∀w,Φ w->Ψ w):St w0 A (Fw.eH Ψ::L) w:=
 E.qW λF u=>⟨F,⟨λw' h=>B _ (u.1 w' h),u.2⟩,λb hb=>.inl hb,gC.refl _ _⟩
theorem St.fZ{Φ Ψ:g7}(B:St w0 A (Fw.eH Φ::Fw.eH Ψ::L) w):St w0 A (Fw.eH (λw=>Φ w/\Ψ w)::L) w:=by
 have h:=St.join B
 refine h.qW λF E=>?_
 obtain⟨I,G,h1,h2,h3,h4⟩:=E
 refine⟨F,⟨λw' u=>⟨h1.1 w' λb hb=>u b ((h4 b).2 (.inl hb)),h2.1 w' λb hb=>u b ((h4 b).2 (.inr hb))⟩,λb hb=>?_⟩,λb hb=>.inl hb,gC.refl _ _⟩
 rcases(h4 b).1 hb with hb|hb
 .exact h1.2 b hb
 exact h2.2 b hb
theorem St.gz{Φ:g7}(u:St w0 A L w)(h:∀w,Φ w):St w0 A (Fw.eH Φ::L) w:=
 u.new (Ext.refl w) (F:=aY) ⟨λw' _=>h w',λb hb=>hb.elim⟩ λ_ h=>h.elim
theorem St.freeze{xs:List σ}(B:St w0 A (bF v xs::L) w):St w0 A (Fw.eH (λw=>dz (λ_=>True) w v xs)::L) w:=
 B.qW λF u=>⟨F,⟨λw' h=>(bF.rd ((bF v xs).loc _ _ _ u h)).mono λ_ _=>trivial,λb hb=>(bF v xs).lt _ _ _ u hb⟩,λb hb=>.inl hb,gC.refl _ _⟩
theorem St.rp{b:Nat}{cs:List Value}(E:St w0 A (bZ b cs::L) w):St w0 A (Fw.eH (λw=>qx w b cs)::L) w:=
 E.qW λF u=>⟨F,⟨λw' h=>((bZ b cs).loc _ _ _ u h).1,λk B=>(bZ b cs).lt _ _ _ u B⟩,λb hb=>.inl hb,gC.refl _ _⟩
def gu(ts:List σ)(xs:List α)(w:World):Prop:=ts.length=xs.length/\∀(i:Nat) (t:σ) (x:α),ts[i]?=some t->xs[i]?=some x->Deep.dr w t x
theorem gu.nil:gu ([]:List σ) ([]:List α) w:=⟨rfl,λi t x h=>by simp at h⟩
theorem gu.snoc{ts:List σ}{xs:List α}{t:σ}{x:α}(h:gu ts xs w)(ht:Deep.dr w t x):gu (ts++[t]) (xs++[x]) w:=by
 grind[gu]
theorem gu.append{ts us:List σ}{xs ys:List α}(h:gu ts xs w)(g:gu us ys w):gu (ts++us) (xs++ys) w:=by
 grind[gu]
theorem gu.ext{ts:List σ}{xs:List α}(h:gu ts xs w)(e:Ext w w'):gu ts xs w':=⟨h.1,λi t x a b=>Deep.ext (h.2 i t x a b) e⟩
theorem DL.of{ts:List σ}{xs:List α}(h:dz (λ_=>True) w v ts)(g:gu ts xs w):DL w v xs:=⟨ts,h,g.1,g.2⟩
theorem DL.open{xs:List α}(h:DL w v xs):∃ts:List σ,dz (λ_=>True) w v ts/\gu ts xs w:=by obtain⟨ts,h1,h2,h3⟩:=h;exact⟨ts,h1,h2,h3⟩
theorem gu.take{ts:List σ}{xs:List α}(h:gu ts xs w)(k:Nat):gu (ts.take k) (xs.take k) w:=by
 grind[gu]
theorem gu.drop{ts:List σ}{xs:List α}(h:gu ts xs w)(k:Nat):gu (ts.drop k) (xs.drop k) w:=by
 grind[gu]
end
section
variable {α:Type}[Flat α]
abbrev iF:Deep α α:=⟨λ_ s x=>s=x,λh _=>h⟩
theorem GU[D:Deep α α](u:∀w s x,D.dr w s x↔s=x){w:World}{ts xs:List α}:gu ts xs w↔ts=xs:=by
 constructor
 .rintro⟨h1,h2⟩
  refine List.ext_getElem? λi=>?_
  grind
 grind[gu]
end
instance:Deep Int Int:=iF
instance:Deep Bool Bool:=iF
instance:Deep ByteArray ByteArray:=iF
structure RdW(P:Program)(w:World)(t:TypeId)(α:Type)[Flat α](φ:α->Prop):Prop where
 cells:P.cellsOf t=l1 α
 rd:∀{H:Type}(enc:TypeId×Value->H) (base:Nat) (held:Bool) (fuel:Nat) (cs:List Value) (x:DataW H×List MemPlace),
  DataW.trod enc P w base (λ_=>true) held fuel t cs=some x->∃a:α,cs=ia a/\φ a
def yv(P:Program)(t:TypeId)(α:Type){σ:Type}[Flat σ][Deep α σ](φ:α->Prop):Prop:=∀w,RdW P w t σ (λs=>∃a:α,Deep.dr w s a/\φ a)
def RdT.deep{P:Program}{t:TypeId}{α:Type}[Flat α][D:Deep α α]{φ:α->Prop}(h:RdT P t α φ)(B:∀w (x:α),D.dr w x x):yv P t α φ:=
 λw=>⟨h.cells,λenc base held fuel cs x u=>by
  obtain⟨a,h1,h2⟩:=h.rd enc w base _ held fuel cs x u;exact⟨a,h1,a,B w a,h2⟩⟩
section
variable {H:Type}{enc:TypeId×Value->H}{P:Program}{w:World}{base:Nat}{held:Bool}
theorem Li{α:Type}[Flat α]{φ:α->Prop}{t e:TypeId}{fuel:Nat}{cs:List Value}{x:DataW H×List MemPlace}(ht:P.underlying t=some (.slice e))(O:RdW P w e α φ)
  (h:DataW.trod enc P w base (λ_=>true) held fuel t cs=some x):∃v,cs=[v]/\∃xs:List α,dz (λb=>b<w.heap.size) w v xs/\∀x∈xs,φ x:=by
 rcases DataW.trod_slice ht h with⟨rfl,_⟩|⟨a,len,cap,elems,rest,n,_,rfl,_,hb,hl,hm,hlen,W,Y,_⟩
 .exact⟨_,rfl,[],dz.nil _ _,ea⟩
 refine⟨_,rfl,?_⟩
 have get:∀i,i<len->∃x:α,φ x/\w.cells? base (a.add (i*P.cellsOf e)) (P.cellsOf e)=some (ia x):=by
  intro i hi
  have h1:=W i hi
  rw[kE bL]at h1
  obtain⟨cs',h2,h3⟩:=Na.1 h1
  obtain⟨x,rfl,E⟩:=O.rd enc base held n cs' _ h3
  grind
 obtain⟨xs,J,I⟩:=acJ len get
 have M:=O.cells
 have U:0<l1 α:=aab
 have first:∀(c:Nat) (cs':List Value),w.cells? base (a.add (c*P.cellsOf e)) (P.cellsOf e)=some cs'->c=0->a.spot=none:=by
  intro c cs' h1 G
  subst G
  have:=aac h1
  have h2:=this.2.2 0 bL
  rw[Nat.zero_mul]at h2
  have h3:w.cell? a=cs'[0]?:=by simpa[Addr.add]using h2
  rw[kE bL]at h3
  unfold World.cell? at h3
  split at h3
  .simp_all
  .cases h3
 refine⟨xs,⟨some a,cap,by rw[J],bL,?_⟩,λx E=>?_⟩
 .by_cases CQ:cap=0
  .simp_all
  right
  have B:a.spot=none:=by
   by_cases G:0<len
   .grind
   .obtain⟨h1,h2⟩:=Y rfl
    have h3:=h2 0 bL
    rw[kE bL]at h3
    obtain⟨cs',h4,_⟩:=Na.1 h3
    grind
  have u:∀j c,(flat xs)[j]?=some c->Cell w a.block (a.off+j) c:=by
   intro j c hj
   obtain⟨i,r,x,E,V,rfl⟩:=OP hj
   have h1:=(aac (I i x E).2).2.2 r (by rw[M];have:=(ir.1 V).1;rwa [xZ]at this)
   rw[V,M]at h1
   obtain⟨b,o,s⟩:=a
   simp only at B
   subst B
   unfold Cell
   rw[<- h1,gD,gD,Mi]
  refine⟨a.block,a.off,by obtain⟨b,o,s⟩:=a;grind,λZ=>?_,u⟩
  obtain⟨y,ys,rfl⟩:=List.exists_cons_of_ne_nil Z
  have G:(flat (y::ys))[0]?=some ((ia y)[0]'(by rw[xZ];exact U)):=by
   rw[kr,s4 (by rw[xZ];exact U),kE]
  exact(u 0 _ G).lt
 obtain⟨i,hi⟩:=List.getElem?_of_mem E
 grind
theorem OQ{α σ:Type}[Flat σ][Deep α σ]{φ:α->Prop}:∀(ts:List σ),(∀s∈ts,∃a:α,Deep.dr w s a/\φ a)->∃xs:List α,gu ts xs w/\∀x∈xs,φ x
 | [],_=>⟨[],gu.nil,ea⟩
 | t::ts,h=>by
  obtain⟨a,h1,h2⟩:=h t ea
  obtain⟨xs,h3,h4⟩:=OQ ts λs u=>h s (List.mem_cons_of_mem _ u)
  refine⟨a::xs,?_,λx B=>?_⟩
  .grind[gu]
  grind
theorem yv.slice{α σ:Type}[Flat σ][Deep α σ]{φ:α->Prop}{t e:TypeId}(ht:P.underlying t=some (.slice e))(hc:P.cellsOf t=1)(E:yv P e α φ):yv P t (List α) (λxs=>∀x∈xs,φ x):=
 λw=>⟨hc,λenc base held fuel cs x B=>by
  obtain⟨v,rfl,ts,h1,h2⟩:=Li ht (E w) B
  obtain⟨xs,h3,h4⟩:=OQ ts h2
  have u:dz (λ_=>True) w v ts:=h1.mono λ_ _=>trivial
  obtain⟨s,rfl⟩:=u.fQ
  exact⟨s,rfl,xs,DL.of u h3,h4⟩⟩
theorem open_dl{α σ:Type}[Flat σ][Deep α σ]{φ:α->Prop}{t e:TypeId}{r:Reach}{E:Nat}{v:Value}{d:DataW H}{ps:List MemPlace}(ht:P.underlying t=some (.slice e))(J:yv P e α φ)
  (B:Od P w r E t v) (hd:DataW.Trod enc P w base (λ_=>true) held t v d ps):∃xs:List α,DL w v xs/\∀x∈xs,φ x:=by
 obtain⟨fuel,I⟩:=hd
 obtain⟨u,G,ts,h1,h2⟩:=Li ht (J w) I
 have M:v=u:=by
  have h1:=B
  unfold Od at h1
  rw[ht]at h1
  cases v with
  | slice a n c=>exact(List.cons.inj (show [ye a n c]=[u]from G)).1
  | _=>
   have h2:Cell.okWide P w r E t _:=h1
   unfold Cell.okWide at h2
   rw[ht]at h2
   simp only[Cell.ok,ht]at h2
 subst M
 obtain⟨xs,h3,h4⟩:=OQ ts h2
 exact⟨xs,DL.of (h1.mono λ_ _=>trivial) h3,h4⟩
theorem open_dst{α σ:Type}[Flat σ][Deep α σ]{φ:α->Prop}{t:TypeId}{G:Array Field}{r:Reach}{M:Nat}{v:Value}{d:DataW H}{ps:List MemPlace}(ht:P.underlying t=some (.struct G))(B:H4 σ=true)
  (J:yv P t α φ) (u:Od P w r M t v) (hd:DataW.Trod enc P w base (λ_=>true) held t v d ps):∃(s:σ) (x:α),v=hM s/\Deep.dr w s x/\φ x:=by
 obtain⟨fuel,I⟩:=hd
 obtain⟨s,E,x,h1,h2⟩:=(J w).rd enc base held fuel _ _ I
 unfold Od at u
 rw[ht]at u
 obtain⟨cs,rfl,_⟩:=u
 refine⟨s,x,?_,h1,h2⟩
 rw[abG B,<- E]
 simp[Value.cells]
end
def Bl(x:Int):Int:=IntKind.i64.wrap x
theorem yV{x:Int}(h : -9223372036854775808<=x/\x<=9223372036854775807):Bl x=x:=IntWalk.i64_in _ h
section
variable {P:Program}{T:Nat}{cx cy:Bool}{a b:Int}{K:Value->Prop}
theorem uo(k:K (hH (Bl (a+b)))):eM P (ji .add T cx cy (hH a) (hH b)) K:=⟨_,rfl,k⟩
theorem Am(k:K (hH (Bl (a-b)))):eM P (ji .sub T cx cy (hH a) (hH b)) K:=⟨_,rfl,k⟩
theorem wz(k:K (hH (Bl (a*b)))):eM P (ji .mul T cx cy (hH a) (hH b)) K:=⟨_,rfl,k⟩
theorem W7(k:K (hH (Bl (0-a)))):eM P (Op.unary .neg (hH a)) K:=⟨_,rfl,k⟩
theorem Eb(h:b≠0)(k:K (hH (Bl (a.tdiv b)))):eM P (ji .quo T cx cy (hH a) (hH b)) K:=by
 refine⟨_,?_,k⟩
 show pr P (Op.intDiv .quo .i64 a b)=_
 unfold Op.intDiv
 rw[eb h];rfl
theorem W8(h:b≠0)(k:K (hH (a.tmod b))):eM P (ji .rem T cx cy (hH a) (hH b)) K:=by
 refine⟨_,?_,k⟩
 show pr P (Op.intDiv .rem .i64 a b)=_
 unfold Op.intDiv
 rw[eb h];rfl
end
def rO{α:Type}[Flat α]{P:Program}{w w0:World}{A:Nat->Prop}{L:List HP}{xs:List α}{T E U:Nat}{z:Option Nat}{v:Value}{i:Int}{K:Value->Prop}(ht:eI P T=some (E,l1 α,U,z))
  (I:St w0 A (bF v xs::L) w) (Z:0<=i) (h1:i<=xs.length) (k:∀J,St w0 A (bF J (xs.take i.toNat)::L) w->K J):eM P (nn T v none (some (hH i)) none) K:=by
 obtain⟨a,cap,u,By,_⟩:=I.dQ
 refine⟨_,(by rw[u];exact vZ ht (nV (.inl ⟨rfl,rfl⟩) (.inr ⟨i,rfl,Z,rfl⟩) (kO _) bL)),k _ ?_⟩
 refine I.qW λF B=>?_
 rcases B with⟨G,W,ey⟩|⟨b,V,rest,Y,hb,M,B⟩
 .rw[G]at u
  subst W
  simp only[ye.injEq]at u
  obtain⟨rfl,_,rfl⟩:=u
  have hi:i.toNat=0:=by simp at h1;omega
  refine⟨F,.inl ⟨?_,ea,ey⟩,λb hb=>.inl hb,gC.refl _ _⟩
  rw[hi];rfl
 rw[Y]at u
 simp only[ye.injEq]at u
 obtain⟨rfl,_,rfl⟩:=u
 refine⟨F,.inr ⟨b,V,flat (xs.drop i.toNat)++rest,?_,?_,?_,B⟩,λb hb=>.inl hb,gC.refl _ _⟩
 .have O:(xs.take i.toNat).length=i.toNat:=by rw[lQ];omega
  rw[O]
  simp[gD]
 .rw[<- mX,<- ig,o1];exact hb
 exact⟨tx (by rw[lQ];omega) M.1,by rw[<- mX,<- ig,o1];exact M.2⟩
section
variable {P:Program}{w w':World}{v:Value}
theorem DL.flat{α:Type}[Flat α][D:Deep α α]{xs:List α}(h:DL w v xs)(u:∀w s x,D.dr w s x↔s=x:=by intros;exact Iff.rfl):dz (λ_=>True) w v xs:=by
 obtain⟨ts,h1,h2⟩:=h.open
 rw[(GU u).1 h2]at h1;exact h1
theorem DL.j3{α:Type}[Flat α][D:Deep α α]{xs:List α}(h:dz (λ_=>True) w v xs)(u:∀w s x,D.dr w s x↔s=x:=by intros;exact Iff.rfl):DL w v xs:=DL.of h ((GU u).2 rfl)
theorem Lj{α:Type}[Flat α]{S:Nat->Prop}{xs:List α}{T E I:Nat}{z:Option Nat}{lo hi:Option Value}{l h:Nat}{K:Value->Prop}(ht:eI P T=some (E,l1 α,I,z))(J:dz S w v xs)
  (M:lo=none/\l=0\/∃i:Int,lo=some (hH i)/\0<=i/\l=i.toNat) (B:hi=none/\h=xs.length\/∃i:Int,hi=some (hH i)/\0<=i/\h=i.toNat)
  (h1:l<=h) (h2:h<=xs.length) (k:∀u,(∀w',dz S w' v xs->dz S w' u ((xs.take h).drop l))->K u):eM P (nn T v lo hi none) K:=by
 obtain⟨a,cap,rfl,O,h3⟩:=J
 exact⟨_,vZ ht (nV M B h1 bL),k _ λw' G=>G.cut rfl h1 h2⟩
theorem yW{α:Type}[Flat α]{S:Nat->Prop}{xs:List α}{T E I:Nat}{z:Option Nat}{i:Int}{K:Value->Prop}(ht:eI P T=some (E,l1 α,I,z))(B:dz S w v xs)
  (G:0<=i) (h2:i<=xs.length) (k:∀u,(∀w',dz S w' v xs->dz S w' u (xs.drop i.toNat))->K u):eM P (nn T v (some (hH i)) none none) K:=
 Lj ht B (.inr ⟨i,rfl,G,rfl⟩) (.inl ⟨rfl,rfl⟩) bL (o5 _) λu h=>k u λw' J=>cH
theorem n6{α:Type}[Flat α]{S:Nat->Prop}{xs:List α}{T E I:Nat}{z:Option Nat}{i j:Int}{K:Value->Prop}(ht:eI P T=some (E,l1 α,I,z))(B:dz S w v xs)
  (G:0<=i) (h1:i<=j) (h2:j<=xs.length) (k:∀u,(∀w',dz S w' v xs->dz S w' u ((xs.take j.toNat).drop i.toNat))->K u):eM P (nn T v (some (hH i)) (some (hH j)) none) K:=
 Lj ht B (.inr ⟨i,rfl,G,rfl⟩) (.inr ⟨j,rfl,bL,rfl⟩) bL bL k
theorem DL.cut{α σ:Type}[Flat σ][Deep α σ]{xs:List α}{ts:List σ}{u:Value}{l h:Nat}(E:∀w',dz (λ_=>True) w' v ts->dz (λ_=>True) w' u ((ts.take h).drop l))(B:dz (λ_=>True) w v ts)(G:gu ts xs w):DL w u ((xs.take h).drop l):=
 DL.of (E w B) ((G.take h).drop l)
theorem DL.W9{α σ:Type}[Flat σ][Deep α σ]{xs:List α}{ts:List σ}{u:Value}{l:Nat}(E:∀w',dz (λ_=>True) w' v ts->dz (λ_=>True) w' u (ts.drop l))(B:dz (λ_=>True) w v ts)(G:gu ts xs w):DL w u (xs.drop l):=
 DL.of (E w B) (G.drop l)
theorem Ec{a b:ByteArray}:(a.toList == b.toList)=decide (a=b):=by
 rw[ByteArray.toList_eq,ByteArray.toList_eq,Bool.eq_iff_iff,beq_iff_eq,decide_eq_true_eq]
 constructor
 .intro h
  obtain⟨a⟩:=a
  simp_all
 grind
theorem iG{T:Nat}{cx cy:Bool}{a b:ByteArray}{K:Value->Prop}(k:K (.bool (decide (a=b)))):eM P (ji .eql T cx cy (.string a) (.string b)) K:=by
 rw[<- Ec]at k
 exact⟨_,rfl,k⟩
theorem lJ{T:Nat}{cx cy:Bool}{a b:ByteArray}{K:Value->Prop}(k:K (.bool (decide (¬ a=b)))):eM P (ji .neq T cx cy (.string a) (.string b)) K:=by
 refine⟨_,rfl,?_⟩
 have:(!(a.toList == b.toList))=decide (¬ a=b):=by rw[Ec];grind
 grind
end
def iI(s:ByteArray):List UInt8:=s.data.toList
theorem eV(s:ByteArray):(iI s).length=s.size:=by simp_all[iI]
theorem RS(s:ByteArray)(i:Nat):(iI s)[i]?=if h:i<s.size then some (s[i]'h)else none:=by
 unfold iI
 by_cases h:i<s.size
 .rw[dif_pos h,Array.getElem?_toList]
  exact Array.getElem?_eq_getElem h
 simp_all
section
variable {P:Program}{T R:Nat}{cx cy:Bool}{a b:Int}{K:Value->Prop}
theorem fb{s:ByteArray}(u:P.underlying T=some .string)(k:K (hH (s.size:Int))):eM P (Builtin.len_ #[T] R [Cv s].toArray) K:=by
 refine⟨_,?_,k⟩
 show pr P (do
  match <- underlying T,Cv s with
  | .string,.string s=>pure (goInt s.size)
  | .array n _,_=>pure (goInt n)
  | .pointer arr,_=>
   let .array n _ <- underlying arr|stuck "len: pointer to array expected"
   pure (goInt n)
  | .slice _,.slice _ n _=>pure (goInt n)
  | .map _ _,.map none|.chan _ _,.chan none=>pure (goInt 0)
  | .map _ _,.map (some r)=>
   let .map entries _ <- getObj r|stuck "len: map expected"
   pure (goInt entries.size)
  | .chan _ _,.chan (some r)=>
   let .chan _ buf _ _ _ timer <- getObj r|stuck "len: channel expected"
   pure (goInt (if timer then 0 else buf.size))
  | _, _ => stuck "len: string, array, pointer to array, slice, map or channel expected")=_
 rw[cT,cS u];rfl
theorem jH{s:ByteArray}{i:Int}{e:UInt8}(B:P.underlying T=some .string)(E:0<=i)(u:(iI s)[i.toNat]?=some e)(k:K (.int .u8 (e.toNat:Int))):eM P (tU T (.string s) (hH i)) K:=by
 refine⟨_,?_,k⟩
 rw[RS]at u
 have hi:i.toNat<s.size:=by
  grind
 rw[dif_pos hi]at u
 have h3:(if 0<=i then s[i.toNat]? else none)=some e:=cH
 unfold tU
 simp only[asIntOf,cT,cS B,l2,fO,h3]
theorem nK{s:ByteArray}{i:Int}(u:P.underlying T=some .string)(B:0<=i)(h1:i<=s.size)(k:K (.string (s.extract 0 i.toNat))):eM P (nn T (.string s) none (some (hH i)) none) K:=by
 refine⟨_,?_,k⟩
 unfold nn
 rw[cT,cS u]
 simp only[l2]
 unfold P1
 rw[cT,cS u]
 simp only[l2]
 rw[eb cZ]
 have hb:pr P (vd false s.size s.size none (some (hH i)) none)=some (0,i.toNat,s.size):=by
  simp only[vd,cT,fO,l2]
  rw[iZ B h1];rfl
 rw[cT,hb];rfl
theorem Lk{s:ByteArray}{i j:Int}(u:P.underlying T=some .string)(E:0<=i)(B:i<=j)(h1:j<=s.size)(k:K (.string (s.extract i.toNat j.toNat))):eM P (nn T (.string s) (some (hH i)) (some (hH j)) none) K:=by
 refine⟨_,?_,k⟩
 unfold nn
 rw[cT,cS u]
 simp only[l2]
 unfold P1
 rw[cT,cS u]
 simp only[l2]
 rw[eb cZ]
 have hb:pr P (vd false s.size s.size (some (hH i)) (some (hH j)) none)=some (i.toNat,j.toNat,s.size):=by
  simp only[vd,cT,fO,l2]
  rw[iZ bL h1];simp only[l2];rw[iZ E bL];rfl
 rw[cT,hb];rfl
theorem An(k:K (.bool (decide (a<=b)))):eM P (ji .leq T cx cy (.int .u8 a) (.int .u8 b)) K:=⟨_,rfl,k⟩
theorem Ao(k:K (.bool (decide (b<=a)))):eM P (ji .geq T cx cy (.int .u8 a) (.int .u8 b)) K:=⟨_,rfl,k⟩
theorem nu(k:K (.bool (decide (a=b)))):eM P (ji .eql T cx cy (.int .u8 a) (.int .u8 b)) K:=⟨_,rfl,k⟩
theorem Xa(k:K (.bool (decide (a≠b)))):eM P (ji .neq T cx cy (.int .u8 a) (.int .u8 b)) K:=
 ⟨_,(show pr P (ji .neq T cx cy (.int .u8 a) (.int .u8 b))=some (.bool (decide (a≠b)))from by
  show some (vX (a != b))=_
  grind),k⟩
theorem Ll{t:Array TypeId}{R:TypeId}{c:Int}(k:K (hH (max (max a b) c))):eM P (Builtin.max_ t R [hH a,hH b,hH c].toArray) K:=by
 refine⟨_,?_,k⟩
 show pr P (do Builtin.max2 (<- Builtin.max2 (hH a) (hH b)) (hH c))=_
 have h:∀x y:Int,pr P (Builtin.max2 (hH x) (hH y))=some (hH (max x y)):=by
  intro x y
  unfold Builtin.max2
  by_cases h:x<y
  .simp[h,fO];omega
  .simp[h,fO];omega
 rw[cT,h]
 exact h _ _
end
def fG{α σ:Type}[Flat σ][Deep α σ](v:Value)(xs:List α):HP:=pZ λts:List σ=>sep (bF v ts) (eH (gu ts xs))
section
variable {P:Program}{α σ:Type}[Flat σ] [D:Deep α σ] {w w' w0:World}{v src:Value}{A:Nat->Prop}{L:List HP}{xs ys:List α}
theorem St.Ap(u:St w0 A (fG v xs::L) w):∃ts:List σ,St w0 A (bF v ts::Fw.eH (gu ts xs)::L) w:=by
 obtain⟨ts,h⟩:=u.ep;exact⟨ts,h.split⟩
theorem St.yw{ts:List σ}(u:St w0 A (bF v ts::Fw.eH (gu ts xs)::L) w):St w0 A (fG v xs::L) w:=
 St.er (H:=λts:List σ=>sep (bF v ts) (Fw.eH (gu ts xs))) ts (St.join u)
theorem St.T3{ts:List σ}(u:St w0 A (bF v ts::Fw.eH (gu ts xs)::L) w):ts.length=xs.length:=u.p1.eH.1
theorem St.IQ(u:St w0 A L w):St w0 A (fG (.slice none 0 0) ([]:List α)::L) w:=
 St.yw (ts:=[]) ((u.gz λ_=>gu.nil).eW)
theorem St.avM(u:St w0 A (bF v ([]:List σ)::L) w):St w0 A (fG v ([]:List α)::L) w:=
 St.yw (ts:=[]) (u.gz (Φ:=gu ([]:List σ) ([]:List α)) λ_=>gu.nil).p1
theorem St.avN{s:σ}{x:α}(u:St w0 A (bF v [s]::Fw.eH (λw=>Deep.dr w s x)::L) w):St w0 A (fG v [x]::L) w:=by
 refine St.yw (ts:=[s]) ?_
 refine(u.p1.dD (Ψ:=gu [s] [x]) λw h=>?_).p1
 exact(gu.nil (w:=w)).snoc h
theorem St.avO{ts us:List σ}(u:St w0 A (bF v (ts++us)::Fw.eH (gu ts xs)::Fw.eH (gu us ys)::L) w):St w0 A (fG v (xs++ys)::L) w:=by
 have h1:=(u.p1:St w0 A (Fw.eH (gu ts xs)::bF v (ts++us)::Fw.eH (gu us ys)::L) w)
 have h2:=h1.p2.p1
 refine St.yw (ts:=ts++us) ?_
 exact(h2.fZ.dD (Ψ:=gu (ts++us) (xs++ys)) λw h=>h.1.append h.2).p1
theorem St.oI(u:St w0 A (fG v xs::L) w):St w0 A (Fw.eH (λw=>DL w v xs)::L) w:=by
 obtain⟨ts,h⟩:=u.Ap
 exact h.freeze.fZ.dD λw h=>DL.of h.1 h.2
theorem St.dl(u:St w0 A (fG v xs::L) w):DL w v xs:=u.oI.eH
theorem St.oJ(u:St w0 A (fG v xs::L) w):∃s:SV,v=hM s:=u.dl.fQ
theorem St.enc{b:Nat}{cs cs':List Value}(u:St w0 A (bZ b cs::L) w)(h:cs=cs'):St w0 A (bZ b cs'::L) w:=h▸u
theorem n7{T E B:Nat}{K:Value->g7}(u:St w0 A L w)(ht:Wt P T E (l1 σ) B)(k:∀v w',St w0 A (fG v ([]:List α)::L) w'->K v w'):rA P (Ku T 0 ([]:List (Nat×Value)).toArray) w K:=
 aW ([]:List σ) u ht rfl rfl ea λv w' h=>k v w' h.avM
theorem gF{T E B:Nat}{s:σ}{x:α}{K:Value->g7}(u:St w0 A (Fw.eH (λw=>Deep.dr w s x)::L) w)(ht:Wt P T E (l1 σ) B)(G:l1 σ<=64)(k:∀v w',St w0 A (fG v [x]::L) w'->K v w') :
  rA P (Ku T 1 [(0,hM s)].toArray) w K:=
 aW [s] u ht rfl rfl (by simp;omega) λv w' h=>k v w' h.avN
theorem gd{T E G R:Nat}{K:Value->g7}(I:St w0 A (fG v xs::fG src ys::L) w)(ht:Wt P T E (l1 σ) G)
  (O:xs.length+ys.length<=1073741824) (B:G<=8192) (k:∀u w',St w0 A (fG u (xs++ys)::L) w'->K u w'):rA P (Builtin.append_ #[T,T] R [v,src].toArray) w K:=by
 obtain⟨us,h1⟩:=I.p1.Ap
 obtain⟨ts,h2⟩:=h1.p2.Ap
 have M:=h1.T3
 have J:=h2.T3
 refine bJ h2 ht h2.p2.dQ bL B λu w' h=>k u w' ?_
 exact h.p2.drop.avO
theorem RT{β:Type}[Flat β]{T:Nat}{b o:Nat}{cs:List Value}(x:β)(ht:dy P T=some (H4 β,l1 β))(hb:qx w b cs)(u:(cs.drop o).take (l1 β)=ia x) :
  (wO T (.pointer (some ⟨b,o,none⟩))).run P w=.ok (hM x) w:=by
 refine fm (S:=λ_=>True) ht ⟨b,o,rfl,trivial,λj c B=>hb.cell ?_⟩
 grind
end
instance:Flat UInt8 where
 agg:=false
 sz:=1
 enc b:=[.int .u8 b.toNat]
 val b:=.int .u8 b.toNat
 pos:=cZ
 len _:=rfl
 one a v h:=by rw[sM.1 h];rfl
 ng h:=by cases h
 nh _ _:=rfl
instance:Deep UInt8 UInt8:=iF
def tg{α σ:Type}[Flat σ][Deep α σ](P:Program)(w:World)(f:Value)(φ:α->Prop)(g:α->Bool):Prop:=∃B first cap,f=.func (.func B) (OY first) (OY cap)/\Plain P B/\
 ∀(s:σ) (x:α) u,Ext w u->Deep.dr u s x->φ x->Calls P B (first++[hM s]++cap).toArray u (sK λv E=>v=.bool (g x)/\Ext u E)
theorem tg.ext{α σ:Type}[Flat σ][Deep α σ]{P:Program}{w w':World}{f:Value}{φ:α->Prop}{g:α->Bool}(h:tg P w f φ g)(e:Ext w w'):tg P w' f φ g:=by
 obtain⟨E,first,cap,h1,h2,h3⟩:=h;exact⟨E,first,cap,h1,h2,λs x B u=>h3 s x B (e.trans u)⟩
def T4{α:Type}[Flat α]{P:Program}{S:Nat->Prop}{w:World}{T E:TypeId}{cx cy:Bool}{v:Value}{xs:List α}{K:Value->Prop}(h:P.underlying T=some (.slice E))(B:dz S w v xs)(k:∀p:Bool,(p=true->xs=[])->K (.bool p)) :
  eM P (ji .eql T cx cy v (.slice none 0 0)) K:=by
 obtain⟨a,cap,rfl,_,h3⟩:=B
 have u:pr P (Op.equal T (.slice a xs.length cap) (.slice none 0 0))=some a.isNone:=by
  show pr P (Op.equalIn 10000 T (.slice a xs.length cap) (.slice none 0 0))=_
  unfold Op.equalIn
  rw[cT,cS h]
  cases a<;>rfl
 refine⟨_,?_,k a.isNone λG=>?_⟩
 .show pr P (do pure (vX (<- Op.equal T (.slice a xs.length cap) (.slice none 0 0))))=_
  rw[sS,u];rfl
 grind
structure Ptr where
 b:Nat
deriving DecidableEq
instance:Flat Ptr where
 agg:=false
 sz:=1
 enc p:=[.pointer (some ⟨p.b,0,none⟩)]
 val p:=.pointer (some ⟨p.b,0,none⟩)
 pos:=cZ
 len _:=rfl
 one a v h:=by rw[sM.1 h];rfl
 ng h:=by cases h
 nh _ _:=rfl
instance:Deep Ptr Ptr:=iF
def gY{α κ:Type}(H:κ->α->HP):List κ->List α->HP
 | [],[]=>emp
 | p::ps,x::xs=>sep (H p x) (gY H ps xs)
 | _,_=>fact False emp
section
variable {P:Program}{α κ:Type}{H:κ->α->HP}{A:Nat->Prop}{w0 w:World}{L:List HP}
theorem BC:∀{ps:List κ}{xs:List α}{F:Nat->Prop},(gY H ps xs).p w F->ps.length=xs.length
 | [],[],_,_=>rfl
 | s::ss,x::xs,F,h=>by
  obtain⟨B,u,_,h2,_,_⟩:=h
  rw[n5,n5,BC h2]
 | [],_::_,_,h=>h.1.elim
 | _::_,[],_,h=>h.1.elim
theorem St.iP{ps:List κ}{xs:List α}(u:St w0 A (gY H ps xs::L) w):ps.length=xs.length:=by
 obtain⟨F,h,_⟩:=u.head;exact BC h
theorem St.Aq(u:St w0 A L w):St w0 A (gY H [] []::L) w:=u.new (Ext.refl w) (F:=aY) (λ_ h=>h) λ_ h=>h.elim
def nw(H:κ->α->HP)(ps:List κ)(xs:List α)(i:Nat):HP:=sep (gY H (ps.take i) (xs.take i)) (gY H (ps.drop (i+1)) (xs.drop (i+1)))
theorem Cu:∀{ps:List κ}{xs:List α}{i:Nat}{p:κ}{x:α}{F:Nat->Prop},(gY H ps xs).p w F->ps[i]?=some p->xs[i]?=some x->(sep (H p x) (nw H ps xs i)).p w F
 | Y::ps,x'::xs,0,p,x,F,h,u,hx=>by
  rw[List.getElem?_cons_zero]at u hx
  obtain rfl:=n3.inj u
  obtain rfl:=n3.inj hx
  obtain⟨B,E,h1,h2,h3,h4⟩:=h
  exact⟨B,E,h1,⟨aY,E,λ_ h=>h,h2,λ_ h=>h.elim,λb=>⟨.inr,λh=>h.elim (λh=>h.elim) id⟩⟩,h3,h4⟩
 | Y::ps,x'::xs,i+1,p,x,F,h,u,hx=>by
  rw[K0]at u hx
  obtain⟨B,E,h1,h2,h3,h4⟩:=h
  obtain⟨W,Z,J,⟨G,K2,I,U,k3,V⟩,g3,M⟩:=Cu h2 u hx
  refine⟨W,λb=>B b\/Z b,J,⟨λb=>B b\/G b,K2,⟨B,G,h1,I,λb hb O=>h3 b hb ((M b).2 (.inr ((V b).2 (.inl O)))),λb=>Iff.rfl⟩,U,?_,?_⟩,?_,?_⟩
  .grind
  .grind
  .grind
  grind
 | [],[],_,_,_,_,_,u,_=>by simp at u
 | [],_::_,_,_,_,_,h,_,_=>h.1.elim
 | _::_,[],_,_,_,_,h,_,_=>h.1.elim
theorem BD:∀{ps:List κ}{xs:List α}{i:Nat}{p:κ}{x:α}{F:Nat->Prop},i<xs.length->ps.length=xs.length->(sep (H p x) (nw H ps xs i)).p w F->(gY H (ps.set i p) (xs.set i x)).p w F
 | p'::ps,x'::xs,0,p,x,F,_,_,h=>by
  obtain⟨u,G,h1,⟨K1,K2,U,I,E,J⟩,h3,h4⟩:=h
  refine⟨u,G,h1,?_,h3,h4⟩
  have e:G=K2:=funext λb=>propext ((J b).trans ⟨λh=>h.elim (λh=>(U b h).elim) id,.inr⟩)
  grind
 | p'::ps,x'::xs,i+1,p,x,F,hi,hl,h=>by
  obtain⟨M,G2,V,⟨K1,K2,⟨u,B,Y,O,f3,Z⟩,I,E,J⟩,g3,g4⟩:=h
  refine⟨u,λb=>M b\/(B b\/K2 b),Y,BD cH cH ⟨M,λb=>B b\/K2 b,V,⟨B,K2,O,I,λb hb W=>E b ((Z b).2 (.inr hb)) W,λb=>Iff.rfl⟩,?_,λb=>Iff.rfl⟩,?_,?_⟩
  .grind
  .grind
  grind
 | [],_::_,_,_,_,_,_,hl,_=>by simp at hl
 | _,[],_,_,_,_,hi,_,_=>by simp at hi
theorem mI{β:Type}:∀{ps:List β}{i:Nat}{p:β},ps[i]?=some p->ps.set i p=ps
 | [],_,_,h=>by simp at h
 | y::ps,0,p,h=>by grind
 | y::ps,i+1,p,h=>by rw[K0]at h;rw[List.set_cons_succ,mI h]
theorem OR{ps:List κ}{xs:List α}{i:Nat}{p:κ}{x:α}{F:Nat->Prop}(hi:i<xs.length)(B:ps.length=xs.length)(u:ps[i]?=some p)(h:(sep (H p x) (nw H ps xs i)).p w F):(gY H ps (xs.set i x)).p w F:=by
 have:=BD hi B h;rwa [mI u]at this
theorem GV:∀{ps qs:List κ}{xs ys:List α}{F:Nat->Prop},(sep (gY H ps xs) (gY H qs ys)).p w F->(gY H (ps++qs) (xs++ys)).p w F
 | [],qs,[],ys,F,⟨B,u,h1,h2,_,h4⟩=>by
  have:F=u:=funext λb=>propext ((h4 b).trans ⟨λh=>h.elim (λh=>(h1 b h).elim) id,.inr⟩)
  grind
 | p::ps,qs,x::xs,ys,F,⟨B,u,⟨G1,G2,g1,g2,g3,g4⟩,h2,h3,h4⟩=>by
  refine⟨G1,λb=>G2 b\/u b,g1,GV ⟨G2,u,g2,h2,λb hb=>h3 b ((g4 b).2 (.inr hb)),λb=>Iff.rfl⟩,λb hb=>?_,λb=>cH⟩
  grind
 | [],_,_::_,_,_,⟨_,_,h,_⟩=>h.1.elim
 | _::_,_,[],_,_,⟨_,_,h,_⟩=>h.1.elim
theorem St.focus{ps:List κ}{xs:List α}{i:Nat}{p:κ}{x:α}(B:St w0 A (gY H ps xs::L) w)(E:ps[i]?=some p)(u:xs[i]?=some x):St w0 A (H p x::nw H ps xs i::L) w:=
 (B.qW (H':=sep (H p x) (nw H ps xs i)) λF G=>⟨F,Cu G E u,λb hb=>.inl hb,gC.refl _ _⟩).split
theorem St.Df{ps:List κ}{xs:List α}{i:Nat}{p:κ}{x:α}(u:St w0 A (H p x::nw H ps xs i::L) w)(hi:i<xs.length)(G:ps.length=xs.length)(B:ps[i]?=some p):St w0 A (gY H ps (xs.set i x)::L) w:=
 (St.join u).qW λF E=>⟨F,OR hi G B E,λb hb=>.inl hb,gC.refl _ _⟩
theorem Ed:∀{ps:List κ}{xs:List α}{p:κ}{x:α}{B u F:Nat->Prop},(gY H ps xs).p w B->(H p x).p w u->(∀b,B b->¬ u b)->(∀b,F b↔B b\/u b)->(gY H (ps++[p]) (xs++[x])).p w F
 | [],[],p,x,B,u,F,h1,h2,_,h4=>⟨u,B,h2,h1,λb _ E=>h1 b E,λb=>cH⟩
 | s'::ss,x'::xs,p,x,B,u,F,h1,h2,h3,h4=>by
  obtain⟨J,M,G,O,U,I⟩:=h1
  refine⟨J,λb=>M b\/u b,G,Ed O h2 (λb hb=>h3 b ((I b).2 (.inr hb))) (λb=>Iff.rfl),λb hb=>?_,λb=>?_⟩
  .grind
  grind
 | [],_::_,_,_,_,_,_,h,_,_,_=>h.1.elim
 | _::_,[],_,_,_,_,_,h,_,_,_=>h.1.elim
theorem St.Ee{ps:List κ}{xs:List α}{p:κ}{x:α}(u:St w0 A (gY H ps xs::H p x::L) w):St w0 A (gY H (ps++[p]) (xs++[x])::L) w:=by
 refine(St.join u).qW λF B=>?_
 obtain⟨G,E,h1,h2,h3,h4⟩:=B
 exact⟨F,Ed h1 h2 h3 h4,λb hb=>.inl hb,gC.refl _ _⟩
theorem St.Ef{ps:List κ}{xs:List α}{i:Nat}{p:κ}{x:α}(u:St w0 A (H p x::nw H ps xs i::L) w)(hi:i<xs.length)(E:ps.length=xs.length):St w0 A (gY H (ps.set i p) (xs.set i x)::L) w:=
 (St.join u).qW λF B=>⟨F,BD hi E B,λb hb=>.inl hb,gC.refl _ _⟩
theorem St.T5{ps:List κ}{xs:List α}{i:Nat}(u:St w0 A (nw H ps xs i::L) w):St w0 A (gY H (ps.eraseIdx i) (xs.eraseIdx i)::L) w:=by
 rw[EJ,EJ]
 exact u.qW λF B=>⟨F,GV B,λb hb=>.inl hb,gC.refl _ _⟩
theorem St.aif{ps:List κ}{xs:List α}{i:Nat}{p:κ}{x:α}{Φ:g7}(B:St w0 A (gY H ps xs::L) w)(E:ps[i]?=some p)(u:xs[i]?=some x)(h:∀{w F},(H p x).p w F->Φ w):Φ w:=by
 obtain⟨F,G,_⟩:=(B.focus E u).head;exact h G
end
end Go.Fw
namespace Go.Proofs.YtpdlpabnlkofmaaGreatDoor
open Go.Fw
@[ext] structure cG where
 name:ByteArray
 n:Int
 at_:Int
deriving DecidableEq
instance:Flat cG where
 agg:=true
 sz:=3
 enc e:=[.string e.name,hH e.n,hH e.at_]
 val e:=.agg [.string e.name,hH e.n,hH e.at_].toArray
 pos:=cZ
 len _:=rfl
 one a v h:=by simp at h;rcases h with rfl|rfl|rfl<;>rfl
 ng _ _:=rfl
 nh h:=by cases h
instance:Deep cG cG:=iF
def xK(x:cG):Prop:=x.name.size<=maxLen/\eS x.n/\eS x.at_
@[ext] structure bY where
 op:Int
 n:Int
 name:ByteArray
 at_:Int
deriving DecidableEq
instance:Flat bY where
 agg:=true
 sz:=4
 enc e:=[hH e.op,hH e.n,.string e.name,hH e.at_]
 val e:=.agg [hH e.op,hH e.n,.string e.name,hH e.at_].toArray
 pos:=cZ
 len _:=rfl
 one a v h:=by simp at h;rcases h with rfl|rfl|rfl|rfl<;>rfl
 ng _ _:=rfl
 nh h:=by cases h
instance:Deep bY bY:=iF
def As(x:bY):Prop:=eS x.op/\eS x.n/\x.name.size<=maxLen/\eS x.at_
structure bK where
 kind:Int
 eB:ByteArray
 name:ByteArray
 e:(List bY)
 f:(List bY)
 n:Int
 body:Int
 eo:Int
 at_:Int
deriving DecidableEq
structure aZ where
 kind:Int
 eB:ByteArray
 name:ByteArray
 e:SV
 f:SV
 n:Int
 body:Int
 eo:Int
 at_:Int
instance:Flat aZ where
 agg:=true
 sz:=9
 enc e:=[hH e.kind,.string e.eB,.string e.name,.slice e.e.a e.e.n e.e.cap,.slice e.f.a e.f.n e.f.cap,hH e.n,hH e.body,hH e.eo,hH e.at_]
 val e:=.agg [hH e.kind,.string e.eB,.string e.name,.slice e.e.a e.e.n e.e.cap,.slice e.f.a e.f.n e.f.cap,hH e.n,hH e.body,hH e.eo,hH e.at_].toArray
 pos:=cZ
 len _:=rfl
 one a v h:=by simp at h;rcases h with rfl|rfl|rfl|rfl|rfl|rfl|rfl|rfl|rfl<;>rfl
 ng _ _:=rfl
 nh h:=by cases h
instance:Deep bK aZ where
 dr w s x:=∃(B:SV) (u:SV),s=(⟨x.kind,x.eB,x.name,B,u,x.n,x.body,x.eo,x.at_⟩:aZ)/\DL w (hM B) x.e/\DL w (hM u) x.f
 ext h e:=by
  obtain⟨G,I,rfl,E,h1⟩:=h
  exact⟨G,I,rfl,E.ext e,h1.ext e⟩
def IS(x:bK):Prop:=eS x.kind/\x.eB.size<=maxLen/\x.name.size<=maxLen/\(∀y∈x.e,As y)/\(∀y∈x.f,As y)/\eS x.n/\eS x.body/\eS x.eo/\eS x.at_
structure cL where
 name:ByteArray
 dN:(List ByteArray)
 body:(List bK)
 at_:Int
deriving DecidableEq
structure cD where
 name:ByteArray
 dN:SV
 body:SV
 at_:Int
instance:Flat cD where
 agg:=true
 sz:=4
 enc e:=[.string e.name,.slice e.dN.a e.dN.n e.dN.cap,.slice e.body.a e.body.n e.body.cap,hH e.at_]
 val e:=.agg [.string e.name,.slice e.dN.a e.dN.n e.dN.cap,.slice e.body.a e.body.n e.body.cap,hH e.at_].toArray
 pos:=cZ
 len _:=rfl
 one a v h:=by simp at h;rcases h with rfl|rfl|rfl|rfl<;>rfl
 ng _ _:=rfl
 nh h:=by cases h
instance:Deep cL cD where
 dr w s x:=∃(B:SV) (u:SV),s=(⟨x.name,B,u,x.at_⟩:cD)/\DL w (hM B) x.dN/\DL w (hM u) x.body
 ext h e:=by
  obtain⟨G,I,rfl,E,h1⟩:=h
  exact⟨G,I,rfl,E.ext e,h1.ext e⟩
def xL(x:cL):Prop:=x.name.size<=maxLen/\(∀y∈x.dN,(λy:ByteArray=>y.size<=maxLen) y)/\(∀y∈x.body,IS y)/\eS x.at_
structure gO where
 e:(List bY)
 at_:Int
deriving DecidableEq
structure jl where
 e:SV
 at_:Int
instance:Flat jl where
 agg:=true
 sz:=2
 enc e:=[.slice e.e.a e.e.n e.e.cap,hH e.at_]
 val e:=.agg [.slice e.e.a e.e.n e.e.cap,hH e.at_].toArray
 pos:=cZ
 len _:=rfl
 one a v h:=by simp at h;rcases h with rfl|rfl<;>rfl
 ng _ _:=rfl
 nh h:=by cases h
instance:Deep gO jl where
 dr w s x:=∃(u:SV),s=(⟨u,x.at_⟩:jl)/\DL w (hM u) x.e
 ext h e:=by
  obtain⟨B,rfl,E⟩:=h
  exact⟨B,rfl,E.ext e⟩
def Eg(x:gO):Prop:=(∀y∈x.e,As y)/\eS x.at_
structure cE where
 lines:(List (List cG))
 iJ:(List cG)
 eE:(List cG)
 threads:(List cL)
 recover:(List cL)
 dX:(List gO)
deriving DecidableEq
structure bM where
 lines:SV
 iJ:SV
 eE:SV
 threads:SV
 recover:SV
 dX:SV
instance:Flat bM where
 agg:=true
 sz:=6
 enc e:=[.slice e.lines.a e.lines.n e.lines.cap,.slice e.iJ.a e.iJ.n e.iJ.cap,.slice e.eE.a e.eE.n e.eE.cap,.slice e.threads.a e.threads.n e.threads.cap,.slice e.recover.a e.recover.n e.recover.cap,.slice e.dX.a e.dX.n e.dX.cap]
 val e:=.agg [.slice e.lines.a e.lines.n e.lines.cap,.slice e.iJ.a e.iJ.n e.iJ.cap,.slice e.eE.a e.eE.n e.eE.cap,.slice e.threads.a e.threads.n e.threads.cap,.slice e.recover.a e.recover.n e.recover.cap,.slice e.dX.a e.dX.n e.dX.cap].toArray
 pos:=cZ
 len _:=rfl
 one a v h:=by simp at h;rcases h with rfl|rfl|rfl|rfl|rfl|rfl<;>rfl
 ng _ _:=rfl
 nh h:=by cases h
instance:Deep cE bM where
 dr w s x:=∃(J:SV) (u:SV) (B:SV) (E:SV) (G:SV) (I:SV),s=(⟨J,u,B,E,G,I⟩:bM)/\DL w (hM J) x.lines/\DL w (hM u) x.iJ/\DL w (hM B) x.eE/\DL w (hM E) x.threads/\DL w (hM G) x.recover/\DL w (hM I) x.dX
 ext h e:=by
  obtain⟨W,Z,Y,U,M,V,rfl,O,h1,h2,h3,h4,h5⟩:=h
  exact⟨W,Z,Y,U,M,V,rfl,O.ext e,h1.ext e,h2.ext e,h3.ext e,h4.ext e,h5.ext e⟩
def acK(x:cE):Prop:=(∀y∈x.lines,(λys:(List cG)=>∀y∈ys,xK y) y)/\(∀y∈x.iJ,xK y)/\(∀y∈x.eE,xK y)/\(∀y∈x.threads,xL y)/\(∀y∈x.recover,xL y)/\(∀y∈x.dX,Eg y)
@[ext] structure n8 where
 kind:Int
 n:Int
deriving DecidableEq
instance:Flat n8 where
 agg:=true
 sz:=2
 enc e:=[hH e.kind,hH e.n]
 val e:=.agg [hH e.kind,hH e.n].toArray
 pos:=cZ
 len _:=rfl
 one a v h:=by simp at h;rcases h with rfl|rfl<;>rfl
 ng _ _:=rfl
 nh h:=by cases h
instance:Deep n8 n8:=iF
structure bV where
 kind:Int
 t:Int
 i:Int
 cut:(List Int)
deriving DecidableEq
structure bN where
 kind:Int
 t:Int
 i:Int
 cut:SV
instance:Flat bN where
 agg:=true
 sz:=4
 enc e:=[hH e.kind,hH e.t,hH e.i,.slice e.cut.a e.cut.n e.cut.cap]
 val e:=.agg [hH e.kind,hH e.t,hH e.i,.slice e.cut.a e.cut.n e.cut.cap].toArray
 pos:=cZ
 len _:=rfl
 one a v h:=by simp at h;rcases h with rfl|rfl|rfl|rfl<;>rfl
 ng _ _:=rfl
 nh h:=by cases h
instance:Deep bV bN where
 dr w s x:=∃(u:SV),s=(⟨x.kind,x.t,x.i,u⟩:bN)/\DL w (hM u) x.cut
 ext h e:=by
  obtain⟨B,rfl,E⟩:=h
  exact⟨B,rfl,E.ext e⟩
def RV(x:bV):Prop:=eS x.kind/\eS x.t/\eS x.i/\(∀y∈x.cut,eS y)
structure rP where
 kind:Int
 n:Int
 p:bV
deriving DecidableEq
structure RW where
 kind:Int
 n:Int
 p:bN
instance:Flat RW where
 agg:=true
 sz:=6
 enc e:=[hH e.kind,hH e.n,hH e.p.kind,hH e.p.t,hH e.p.i,.slice e.p.cut.a e.p.cut.n e.p.cut.cap]
 val e:=.agg [hH e.kind,hH e.n,hH e.p.kind,hH e.p.t,hH e.p.i,.slice e.p.cut.a e.p.cut.n e.p.cut.cap].toArray
 pos:=cZ
 len _:=rfl
 one a v h:=by simp at h;rcases h with rfl|rfl|rfl|rfl|rfl|rfl<;>rfl
 ng _ _:=rfl
 nh h:=by cases h
instance:Deep rP RW where
 dr w s x:=∃(u:bN),s=(⟨x.kind,x.n,u⟩:RW)/\Deep.dr w u x.p
 ext h e:=by
  obtain⟨B,rfl,E⟩:=h
  exact⟨B,rfl,Deep.ext E e⟩
def aih(x:rP):Prop:=eS x.kind/\eS x.n/\RV x.p
@[ext] structure bX where
 kind:Int
 t:Int
 a:Int
 n:Int
 m:Int
deriving DecidableEq
instance:Flat bX where
 agg:=true
 sz:=5
 enc e:=[hH e.kind,hH e.t,hH e.a,hH e.n,hH e.m]
 val e:=.agg [hH e.kind,hH e.t,hH e.a,hH e.n,hH e.m].toArray
 pos:=cZ
 len _:=rfl
 one a v h:=by simp at h;rcases h with rfl|rfl|rfl|rfl|rfl<;>rfl
 ng _ _:=rfl
 nh h:=by cases h
instance:Deep bX bX:=iF
@[ext] structure mJ where
 dC:Int
 fault:Int
 t:Int
 done:Bool
 stuck:Bool
deriving DecidableEq
instance:Flat mJ where
 agg:=true
 sz:=5
 enc e:=[hH e.dC,hH e.fault,hH e.t,.bool e.done,.bool e.stuck]
 val e:=.agg [hH e.dC,hH e.fault,hH e.t,.bool e.done,.bool e.stuck].toArray
 pos:=cZ
 len _:=rfl
 one a v h:=by simp at h;rcases h with rfl|rfl|rfl|rfl|rfl<;>rfl
 ng _ _:=rfl
 nh h:=by cases h
instance:Deep mJ mJ:=iF
@[ext] structure bG where
 kind:Int
 line:Int
 cell:Int
 n:Int
deriving DecidableEq
instance:Flat bG where
 agg:=true
 sz:=4
 enc e:=[hH e.kind,hH e.line,hH e.cell,hH e.n]
 val e:=.agg [hH e.kind,hH e.line,hH e.cell,hH e.n].toArray
 pos:=cZ
 len _:=rfl
 one a v h:=by simp at h;rcases h with rfl|rfl|rfl|rfl<;>rfl
 ng _ _:=rfl
 nh h:=by cases h
instance:Deep bG bG:=iF
@[ext] structure bQ where
 kind:Int
 text:ByteArray
 n:Int
 at_:Int
deriving DecidableEq
instance:Flat bQ where
 agg:=true
 sz:=4
 enc e:=[hH e.kind,.string e.text,hH e.n,hH e.at_]
 val e:=.agg [hH e.kind,.string e.text,hH e.n,hH e.at_].toArray
 pos:=cZ
 len _:=rfl
 one a v h:=by simp at h;rcases h with rfl|rfl|rfl|rfl<;>rfl
 ng _ _:=rfl
 nh h:=by cases h
instance:Deep bQ bQ:=iF
@[ext] structure mK where
 line:Int
 cell:Int
 n:Int
deriving DecidableEq
instance:Flat mK where
 agg:=true
 sz:=3
 enc e:=[hH e.line,hH e.cell,hH e.n]
 val e:=.agg [hH e.line,hH e.cell,hH e.n].toArray
 pos:=cZ
 len _:=rfl
 one a v h:=by simp at h;rcases h with rfl|rfl|rfl<;>rfl
 ng _ _:=rfl
 nh h:=by cases h
instance:Deep mK mK:=iF
@[ext] structure j4 where
 cell:Int
 n:Int
deriving DecidableEq
instance:Flat j4 where
 agg:=true
 sz:=2
 enc e:=[hH e.cell,hH e.n]
 val e:=.agg [hH e.cell,hH e.n].toArray
 pos:=cZ
 len _:=rfl
 one a v h:=by simp at h;rcases h with rfl|rfl<;>rfl
 ng _ _:=rfl
 nh h:=by cases h
instance:Deep j4 j4:=iF
structure RX where
 of:SV
 dY:SV
 l:SV
 k:SV
 w:SV
instance:Flat RX where
 agg:=true
 sz:=5
 enc e:=[.slice e.of.a e.of.n e.of.cap,.slice e.dY.a e.dY.n e.dY.cap,.slice e.l.a e.l.n e.l.cap,.slice e.k.a e.k.n e.k.cap,.slice e.w.a e.w.n e.w.cap]
 val e:=.agg [.slice e.of.a e.of.n e.of.cap,.slice e.dY.a e.dY.n e.dY.cap,.slice e.l.a e.l.n e.l.cap,.slice e.k.a e.k.n e.k.cap,.slice e.w.a e.w.n e.w.cap].toArray
 pos:=cZ
 len _:=rfl
 one a v h:=by simp at h;rcases h with rfl|rfl|rfl|rfl|rfl<;>rfl
 ng _ _:=rfl
 nh h:=by cases h
def IT(p:Bool):Int:=if p then 1 else 0
def Eh(a b:Int):Int:=Bl (a.tdiv b)
def yh(op a:Int):Int:=if op=3 then Bl (0-a)else if op=4 then IT (decide (a=0))else 0
def Gh(op:Int):Int:=if op=3\/op=4 then 0 else 1
def lu(op a b:Int):Int:=
 if op=5 then Bl (a+b)else if op=6 then Bl (a-b)else if op=7 then Bl (a*b)else if op=8 then Eh a b else if op=9 then a.tmod b
 else if op=10 then IT (decide (a=b))else if op=11 then IT (decide (¬ a=b))else if op=12 then IT (decide (a<b))else if op=13 then IT (decide (a<=b))
 else if op=14 then IT (decide (¬ a=0)&&decide (¬ b=0))else if op=15 then IT (decide (¬ a=0)||decide (¬ b=0))else 0
def gA(op b:Int):Int:=if op<5\/15<op then 1 else if (op=8\/op=9)/\b=0 then 12 else 0
def gv(op a b:Int):Int:=if gA op b=0 then lu op a b else 0
theorem BE:Eh (-9223372036854775808) (-1) = -9223372036854775808:=cZ
theorem acL{a b:Int}(M : -9223372036854775808<=a/\a<=9223372036854775807)(hb : -9223372036854775808<=b/\b<=9223372036854775807)(W:b≠0):Bl (a-Bl (b*Eh a b))=a.tmod b:=by
 have h1:=Int.mul_tdiv_add_tmod a b
 by_cases hc:a = -9223372036854775808/\b = -1
 .obtain⟨rfl,rfl⟩:=hc
  decide
 have J : -9223372036854775808<=a.tdiv b/\a.tdiv b<=9223372036854775807:=by
  have h2:(a.tdiv b).natAbs<=a.natAbs:=by rw[aby];exact Nat.div_le_self _ _
  by_cases E:a = -9223372036854775808
  .subst E
   have U:b≠-1:=λh=>hc ⟨rfl,h⟩
   by_cases I:b=1
   .grind
   .have h3:(Int.tdiv (-9223372036854775808) b).natAbs<=9223372036854775808 / 2:=by
     rw[aby]
     exact Nat.div_le_div_left bL bL
    omega
  .omega
 have V:(a.tmod b).natAbs<b.natAbs:=by rw[U0];exact abB _ bL
 unfold Eh
 rw[yV J]
 have E:b*a.tdiv b=a-a.tmod b:=bL
 have O:(a.tmod b).natAbs<=a.natAbs:=by rw[U0];exact abP _ _
 have G:(0<=a->0<=a.tmod b):=λh=>P3 b h
 have B:(a<=0->a.tmod b<=0):=λh=>by
  have:=P3 (a:=-a) b bL
  rw[abH]at this;omega
 have u:(-9223372036854775808<=a-a.tmod b/\a-a.tmod b<=9223372036854775807)/\-9223372036854775808<=a.tmod b/\a.tmod b<=9223372036854775807:=by
  rcases abI 0 a with h|h
  .have:=G h;omega
  .have:=B h;omega
 rw[E,yV u.1,show a-(a-a.tmod b)=a.tmod b from bL,yV u.2]
def C305(p:Bool)(w:World):CR 305 [.bool p] w (λv w'=>v=hH (IT p)/\Ext w w'):=by
 have B:=St.start w;refine eU Tryz.func305 ?_;refine aX (λu=>?_) (λu=>?_)
 .rw[u];exact⟨rfl,B.aF⟩
 rw[u];exact⟨rfl,B.aF⟩
def C302(p:Bool)(w:World):CR 302 [.bool p] w (λv w'=>v=hH (IT p)/\Ext w w'):=by
 have B:=St.start w;refine eU Tryz.func302 ?_;refine aX (λu=>?_) (λu=>?_)
 .rw[u];exact⟨rfl,B.aF⟩
 rw[u];exact⟨rfl,B.aF⟩
def C303(a:Int)(w:World):CR 303 [hH a] w (λv w'=>v=.bool (decide (¬ a=0))/\Ext w w'):=by
 have u:=St.start w;refine eU Tryz.func303 ?_;exact bT ⟨rfl,u.aF⟩
def C306(a b:Int)(w:World)(h:b≠0):CR 306 [hH a,hH b] w (λv w'=>v=hH (Eh a b)/\Ext w w'):=by
 have u:=St.start w;refine eU Tryz.func306 ?_;refine⟨_,?_,λ_ _ h=>h⟩;refine aG (aC (λE=>?_) λE=>?_)
 .refine aG ?_;intro G;refine aC (λB=>?_) (λB=>?_)
  .first|exact⟨rfl,u.aF⟩|(exfalso;simp_all;done)|(rw[E,B,BE];exact⟨rfl,u.aF⟩)
  refine Eb h ?_
  first|exact⟨rfl,u.aF⟩|(exfalso;simp_all;done)|(rw[E,B,BE];exact⟨rfl,u.aF⟩)
 intro G;refine fa (Eb h ?_)
 first|exact⟨rfl,u.aF⟩|(exfalso;simp_all;done)|(rw[E,B,BE];exact⟨rfl,u.aF⟩)
def C274(op a:Int)(w:World):CR 274 [hH op,hH a] w (λv w'=>v=.tuple #[hH (yh op a),hH (Gh op)]/\Ext w w'):=by
 have B:=St.start w;refine eU Tryz.func274 ?_;refine aG (aC (λu=>?_) λu=>aG (aC (λE=>?_) λE=>?_))
 .refine Am ?_;unfold yh Gh
  first|(rw[ee u,ee (.inl u)];exact⟨rfl,B.aF⟩)|(rw[eb u,ee E,ee (.inr E)];exact⟨rfl,B.aF⟩)|(rw[eb u,eb E,eb bL];exact⟨rfl,B.aF⟩)
 .refine aG (aS zY B (C305 _ _) λ_ G B=>?_);unfold yh Gh
  first|(rw[ee u,ee (.inl u)];exact⟨rfl,B.aF⟩)|(rw[eb u,ee E,ee (.inr E)];exact⟨rfl,B.aF⟩)|(rw[eb u,eb E,eb bL];exact⟨rfl,B.aF⟩)
 unfold yh Gh
 first|(rw[ee u,ee (.inl u)];exact⟨rfl,B.aF⟩)|(rw[eb u,ee E,ee (.inr E)];exact⟨rfl,B.aF⟩)|(rw[eb u,eb E,eb bL];exact⟨rfl,B.aF⟩)
def C269(op a:Int)(w:World):CR 269 [hH op,hH a] w (λv w'=>v=.tuple #[hH (yh op a),hH (Gh op)]/\Ext w w'):=by
 have u:=St.start w;refine eU Tryz.func269 ?_;refine aG (aC (λB=>?_) λB=>aG (aC (λE=>?_) λE=>?_))
 .refine W7 ?_;unfold yh Gh
  first|(rw[ee B,ee (.inl B)];exact⟨rfl,u.aF⟩)|(rw[eb B,ee E,ee (.inr E)];exact⟨ez (λp=>Be #[hH (IT p),hH 0]) ea,u.aF⟩)|(rw[eb B,eb E,eb bL];exact⟨rfl,u.aF⟩)
 .refine aS Kz u (C303 _ _) (λ_ G u=>?_)
  first|refine KC ?_|refine bP ?_
  refine aS Wr u (C302 _ _) (λ_ G u=>?_);unfold yh Gh
  first|(rw[ee B,ee (.inl B)];exact⟨rfl,u.aF⟩)|(rw[eb B,ee E,ee (.inr E)];exact⟨ez (λp=>Be #[hH (IT p),hH 0]) ea,u.aF⟩)|(rw[eb B,eb E,eb bL];exact⟨rfl,u.aF⟩)
 unfold yh Gh
 first|(rw[ee B,ee (.inl B)];exact⟨rfl,u.aF⟩)|(rw[eb B,ee E,ee (.inr E)];exact⟨ez (λp=>Be #[hH (IT p),hH 0]) ea,u.aF⟩)|(rw[eb B,eb E,eb bL];exact⟨rfl,u.aF⟩)
def C275(op a b:Int)(w:World)(U:eS a)(hb:eS b):CR 275 [hH op,hH a,hH b] w (λv w'=>v=.tuple #[hH (gv op a b),hH (gA op b)]/\Ext w w'):=by
 have u:=St.start w;refine acj _ _ _ _ _ ?_;unfold S275;refine aG (aC (λgT=>?_) λgT=>?_)
 .refine uo ?_
  first|(unfold gv gA;rw[ee (show op<5\/15<op by omega)];exact⟨rfl,u.aF⟩)|(subst_vars;first|exact⟨rfl,u.aF⟩|(unfold gv gA lu;simp_all<;>exact u.aF))
 refine aG (aC (λjd=>?_) λjd=>aG (aC (λmQ=>?_) λmQ=>aG (aC (λjq=>aG (aC (λO=>?_) λO=>?_)) λjq=>aG (aC (λjU=>aG (aC (λE=>?_) λE=>?_)) λjU=>aG (aC (λvw=>?_) λvw=>?_)))))
 .refine Am ?_
  first|(unfold gv gA;rw[ee (show op<5\/15<op by omega)];exact⟨rfl,u.aF⟩)|(subst_vars;first|exact⟨rfl,u.aF⟩|(unfold gv gA lu;simp_all<;>exact u.aF))
 .refine wz ?_
  first|(unfold gv gA;rw[ee (show op<5\/15<op by omega)];exact⟨rfl,u.aF⟩)|(subst_vars;first|exact⟨rfl,u.aF⟩|(unfold gv gA lu;simp_all<;>exact u.aF))
 .first|(unfold gv gA;rw[ee (show op<5\/15<op by omega)];exact⟨rfl,u.aF⟩)|(subst_vars;first|exact⟨rfl,u.aF⟩|(unfold gv gA lu;simp_all<;>exact u.aF))
 .refine aS af9 u (C306 _ _ _ O) (λ_ B u=>?_)
  first|(unfold gv gA;rw[ee (show op<5\/15<op by omega)];exact⟨rfl,u.aF⟩)|(subst_vars;first|exact⟨rfl,u.aF⟩|(unfold gv gA lu;simp_all<;>exact u.aF))
 .first|(unfold gv gA;rw[ee (show op<5\/15<op by omega)];exact⟨rfl,u.aF⟩)|(subst_vars;first|exact⟨rfl,u.aF⟩|(unfold gv gA lu;simp_all<;>exact u.aF))
 .refine aS af9 u (C306 _ _ _ E) (λ_ B u=>wz (Am ?_));rw[acL U hb E]
  first|(unfold gv gA;rw[ee (show op<5\/15<op by omega)];exact⟨rfl,u.aF⟩)|(subst_vars;first|exact⟨rfl,u.aF⟩|(unfold gv gA lu;simp_all<;>exact u.aF))
 .refine aG (aS zY u (C305 _ _) λ_ B u=>?_)
  first|(unfold gv gA;rw[ee (show op<5\/15<op by omega)];exact⟨rfl,u.aF⟩)|(subst_vars;first|exact⟨rfl,u.aF⟩|(unfold gv gA lu;simp_all<;>exact u.aF))
 refine aG (aC (λY=>?_) λY=>aG (aC (λW=>?_) λW=>aG (aC (λJ=>?_) λJ=>aG (aC (λZ=>⟨_,bT (aC (λM=>?_) λM=>?_),λ_ _ _ h=>h⟩) λZ=>aG (aC (λG=>⟨_,bT (aC (λI=>?_) λI=>?_),λ_ _ _ h=>h⟩) λG=>?_)))))
 .refine bT (aS zY u (C305 _ _) λ_ B u=>?_)
  first|(unfold gv gA;rw[ee (show op<5\/15<op by omega)];exact⟨rfl,u.aF⟩)|(subst_vars;first|exact⟨rfl,u.aF⟩|(unfold gv gA lu;simp_all<;>exact u.aF))
 .refine aO (aS zY u (C305 _ _) λ_ B u=>?_)
  first|(unfold gv gA;rw[ee (show op<5\/15<op by omega)];exact⟨rfl,u.aF⟩)|(subst_vars;first|exact⟨rfl,u.aF⟩|(unfold gv gA lu;simp_all<;>exact u.aF))
 .refine ga (aS zY u (C305 _ _) λ_ B u=>?_)
  first|(unfold gv gA;rw[ee (show op<5\/15<op by omega)];exact⟨rfl,u.aF⟩)|(subst_vars;first|exact⟨rfl,u.aF⟩|(unfold gv gA lu;simp_all<;>exact u.aF))
 .refine bT (aS zY u (C305 _ _) λ_ B u=>?_);intro qy
  first|(unfold gv gA;rw[ee (show op<5\/15<op by omega)];exact⟨rfl,u.aF⟩)|(subst_vars;first|exact⟨rfl,u.aF⟩|(unfold gv gA lu;simp_all<;>exact u.aF))
 .refine aS zY u (C305 _ _) (λ_ B u=>?_);intro qy
  first|(unfold gv gA;rw[ee (show op<5\/15<op by omega)];exact⟨rfl,u.aF⟩)|(subst_vars;first|exact⟨rfl,u.aF⟩|(unfold gv gA lu;simp_all<;>exact u.aF))
 .refine aS zY u (C305 _ _) (λ_ B u=>?_);intro V
  first|(unfold gv gA;rw[ee (show op<5\/15<op by omega)];exact⟨rfl,u.aF⟩)|(subst_vars;first|exact⟨rfl,u.aF⟩|(unfold gv gA lu;simp_all<;>exact u.aF))
 .refine bT (aS zY u (C305 _ _) λ_ B u=>?_);intro V
  first|(unfold gv gA;rw[ee (show op<5\/15<op by omega)];exact⟨rfl,u.aF⟩)|(subst_vars;first|exact⟨rfl,u.aF⟩|(unfold gv gA lu;simp_all<;>exact u.aF))
 first|(unfold gv gA;rw[ee (show op<5\/15<op by omega)];exact⟨rfl,u.aF⟩)|(subst_vars;first|exact⟨rfl,u.aF⟩|(unfold gv gA lu;simp_all<;>exact u.aF))
def rR:aod g6 348 16 288:=⟨by kernel_rfl,by kernel_rfl⟩
def aoh(b1 b2 b3 b4 u b6:Nat)(w:World):Prop:=
 Cell w b1 0 (.func (.func 329) #[] #[])/\Cell w b2 0 (.func (.func 330) #[] #[])/\Cell w b3 0 (.func (.func 331) #[] #[])/\Cell w b4 0 (.func (.func 332) #[] #[])/\Cell w u 0 (.func (.func 333) #[] #[])/\Cell w b6 0 (.func (.func 334) #[] #[])
def opsV(b1 b2 b3 b4 u b6:Nat):Value:=
 .agg [.nilFunc,.nilFunc,.nilFunc,.nilFunc,.nilFunc,.func (.func 324) #[] #[],.func (.func 325) #[] #[],.func (.func 326) #[] #[],.func (.func 327) #[] #[],.func (.func 328) #[] #[],
  .func (.func 323) #[] #[.pointer (some ⟨b1,0,none⟩)],.func (.func 323) #[] #[.pointer (some ⟨b2,0,none⟩)],.func (.func 323) #[] #[.pointer (some ⟨b3,0,none⟩)],.func (.func 323) #[] #[.pointer (some ⟨b4,0,none⟩)],
  .func (.func 323) #[] #[.pointer (some ⟨u,0,none⟩)],.func (.func 323) #[] #[.pointer (some ⟨b6,0,none⟩)]].toArray
def Fb2(f:Value)(g:Int->Int->Bool):Prop:=∃u,f=.func (.func u) #[] #[]/\Plain g6 u/\
 ∀a b B,Calls g6 u [hH a,hH b].toArray B (sK λv E=>v=.bool (g a b)/\Ext B E)
def C324(a b:Int)(w:World):CR 324 [hH a,hH b] w (λv w'=>v=hH (Bl (a+b))/\Ext w w'):=by
 have u:=St.start w;refine eU Tryz.func324 ?_;exact uo ⟨rfl,u.aF⟩
def C325(a b:Int)(w:World):CR 325 [hH a,hH b] w (λv w'=>v=hH (Bl (a-b))/\Ext w w'):=by
 have u:=St.start w;refine eU Tryz.func325 ?_;exact Am ⟨rfl,u.aF⟩
def C326(a b:Int)(w:World):CR 326 [hH a,hH b] w (λv w'=>v=hH (Bl (a*b))/\Ext w w'):=by
 have u:=St.start w;refine eU Tryz.func326 ?_;exact wz ⟨rfl,u.aF⟩
def C327(a b:Int)(w:World)(h:b≠0):CR 327 [hH a,hH b] w (λv w'=>v=hH (Eh a b)/\Ext w w'):=by
 have u:=St.start w;refine eU Tryz.func327 ?_;exact Eb h ⟨rfl,u.aF⟩
def C328(a b:Int)(w:World)(h:b≠0):CR 328 [hH a,hH b] w (λv w'=>v=hH (a.tmod b)/\Ext w w'):=by
 have u:=St.start w;refine eU Tryz.func328 ?_;exact W8 h ⟨rfl,u.aF⟩
def C329(a b:Int)(w:World):CR 329 [hH a,hH b] w (λv w'=>v=.bool (decide (a=b))/\Ext w w'):=by
 have u:=St.start w;refine eU Tryz.func329 ?_;exact aG ⟨rfl,u.aF⟩
def C330(a b:Int)(w:World):CR 330 [hH a,hH b] w (λv w'=>v=.bool (decide (¬ a=b))/\Ext w w'):=by
 have u:=St.start w;refine eU Tryz.func330 ?_;exact bT ⟨rfl,u.aF⟩
def C331(a b:Int)(w:World):CR 331 [hH a,hH b] w (λv w'=>v=.bool (decide (a<b))/\Ext w w'):=by
 have u:=St.start w;refine eU Tryz.func331 ?_;exact aO ⟨rfl,u.aF⟩
def C332(a b:Int)(w:World):CR 332 [hH a,hH b] w (λv w'=>v=.bool (decide (a<=b))/\Ext w w'):=by
 have u:=St.start w;refine eU Tryz.func332 ?_;exact ga ⟨rfl,u.aF⟩
def C333(a b:Int)(w:World):CR 333 [hH a,hH b] w (λv w'=>v=.bool (decide (¬ a=0)&&decide (¬ b=0))/\Ext w w'):=by
 have u:=St.start w;refine eU Tryz.func333 ?_;refine⟨_,?_,λ_ _ h=>h⟩;refine aS Kz u (C303 _ _) (λ_ E u=>aC (λB=>?_) λB=>?_)
 .refine aS Kz u (C303 _ _) (λ_ E u=>?_);intro G
  first|(rw[ei B];exact⟨rfl,u.aF⟩)|(rw[ej B];exact⟨rfl,u.aF⟩)
 intro G
 first|(rw[ei B];exact⟨rfl,u.aF⟩)|(rw[ej B];exact⟨rfl,u.aF⟩)
def C334(a b:Int)(w:World):CR 334 [hH a,hH b] w (λv w'=>v=.bool (decide (¬ a=0)||decide (¬ b=0))/\Ext w w'):=by
 have u:=St.start w;refine eU Tryz.func334 ?_;refine⟨_,?_,λ_ _ h=>h⟩;refine aS Kz u (C303 _ _) (λ_ E u=>aC (λB=>?_) λB=>?_)
 .intro G
  first|(rw[ei B];exact⟨rfl,u.aF⟩)|(rw[ej B];exact⟨rfl,u.aF⟩)
 refine aS Kz u (C303 _ _) (λ_ E u=>?_);intro G
 first|(rw[ei B];exact⟨rfl,u.aF⟩)|(rw[ej B];exact⟨rfl,u.aF⟩)
def C322(g:Nat)(w:World):CR 322 [.func (.func g) #[] #[]] w (λv w'=>∃b,v=.func (.func 323) #[] #[.pointer (some ⟨b,0,none⟩)]/\kZ (bZ b [.func (.func g) #[] #[]]) w w'):=by
 have u:=St.start w;refine eU Tryz.func322 ?_;exact nd u rfl (λB _ u=>⟨B,rfl,u.fresh⟩)
def C323(a b:Int)(b2:Nat)(fv:Value)(g:Int->Int->Bool)(w:World)(hc:Cell w b2 0 fv)(G:Fb2 fv g):CR 323 [hH a,hH b,.pointer (some ⟨b2,0,none⟩)] w (λv w'=>v=hH (IT (g a b))/\Ext w w'):=by
 obtain⟨J,rfl,I,B⟩:=G;have u:=St.start w;refine eU Tryz.func323 ?_;refine bU an9 (hc.ext u.aF) (gS (first:=[]) (cap:=[]) I (B a b _) ?_);rintro _ _ ⟨rfl,E⟩;have u:=u.ext E;exact aS Wr u (C302 _ _) (λ_ _ u=>⟨rfl,u.aF⟩)
def C304(w:World):CR 304 [] w (λv w'=>∃b1 b2 b3 b4 V b6,v=opsV b1 b2 b3 b4 V b6/\kZ (eH (aoh b1 b2 b3 b4 V b6)) w w'):=by
 have u:=St.start w;refine acn _ _ ?_;unfold S304;refine aQ u RQ (λU _ u=>aQ u RQ λJ _ u=>oH rR bL bL (aV u wq (dM rfl) (rfl) λ_ u=>oH rR bL bL (aV u wq (dM rfl) (rfl) λ_ u=>oH rR bL bL (aV u wq (dM rfl) (rfl) λ_ u=>oH rR bL bL (aV u wq (dM rfl) (rfl) λ_ u=>oH rR bL bL (aV u wq (dM rfl) (rfl) λ_ u=>gS (first:=[]) (cap:=[]) GI (C322 329 _) ?_))))));rintro _ _ ⟨O,rfl,B⟩;have u:=u.made B;refine oH rR bL bL (aV u.p1 wq (dM rfl) (rfl) λ_ u=>gS (first:=[]) (cap:=[]) GI (C322 330 _) ?_)
 rintro _ _ ⟨W,rfl,B⟩;have u:=u.made B;refine oH rR bL bL (aV u.p1 wq (dM rfl) (rfl) λ_ u=>gS (first:=[]) (cap:=[]) GI (C322 331 _) ?_);rintro _ _ ⟨I,rfl,B⟩;have u:=u.made B;refine oH rR bL bL (aV u.p1 wq (dM rfl) (rfl) λ_ u=>gS (first:=[]) (cap:=[]) GI (C322 332 _) ?_);rintro _ _ ⟨G,rfl,B⟩;have u:=u.made B;refine oH rR bL bL (aV u.p1 wq (dM rfl) (rfl) λ_ u=>gS (first:=[]) (cap:=[]) GI (C322 333 _) ?_);rintro _ _ ⟨E,rfl,B⟩;have u:=u.made B;refine oH rR bL bL (aV u.p1 wq (dM rfl) (rfl) λ_ u=>gS (first:=[]) (cap:=[]) GI (C322 334 _) ?_)
 rintro _ _ ⟨M,rfl,B⟩;have u:=u.made B;refine oH rR bL bL (aV u.p1 wq (dM rfl) (rfl) λ_ u=>KD WR u.hb rfl (D1 u.p7 WR rfl cZ (by simp[vK,iV]) λ_ u=>KD WR u.hb rfl ?_));have u:=u.drop.drop.p1.p2.p3.p4.p5.rp.p1.rp.p2.rp.p3;have u:=u.rp.p4.rp.p5.rp.fZ.fZ.fZ.fZ.fZ;refine⟨O,W,I,G,E,M,rfl,(u.dD (Ψ:=aoh O W I G E M) λw h=>?_).fresh⟩;obtain⟨⟨⟨⟨⟨h6,h5⟩,h4⟩,h3⟩,h2⟩,h1⟩:=h;exact⟨h1.cell rfl,h2.cell rfl,h3.cell rfl,h4.cell rfl,h5.cell rfl,h6.cell rfl⟩
def fb1:Fb2 (.func (.func 329) #[] #[]) (λa b=>decide (a=b)):=⟨329,rfl,anW,λa b u=>C329 a b u⟩
def fb2:Fb2 (.func (.func 330) #[] #[]) (λa b=>decide (¬ a=b)):=⟨330,rfl,anX,λa b u=>C330 a b u⟩
def fb3:Fb2 (.func (.func 331) #[] #[]) (λa b=>decide (a<b)):=⟨331,rfl,anY,λa b u=>C331 a b u⟩
def fb4:Fb2 (.func (.func 332) #[] #[]) (λa b=>decide (a<=b)):=⟨332,rfl,anZ,λa b u=>C332 a b u⟩
def fb5:Fb2 (.func (.func 333) #[] #[]) (λa b=>decide (¬ a=0)&&decide (¬ b=0)):=⟨333,rfl,an0,λa b u=>C333 a b u⟩
def fb6:Fb2 (.func (.func 334) #[] #[]) (λa b=>decide (¬ a=0)||decide (¬ b=0)):=⟨334,rfl,an1,λa b u=>C334 a b u⟩
def C271(op a b:Int)(w:World):CR 271 [hH op,hH a,hH b] w (λv w'=>v=.tuple #[hH (gv op a b),hH (gA op b)]/\Ext w w'):=by
 have u:=St.start w;refine aci _ _ _ _ _ ?_;unfold S271;refine⟨_,?_,λ_ _ h=>h⟩;refine aO (aC (λgT=>?_) λgT=>?_)
 .intro qy;refine gN ?_
  first|exact⟨rfl,u.aF⟩|(subst_vars;exact⟨rfl,u.aF⟩)|(refine⟨?_,u.aF⟩;unfold gv gA lu;first|(rw[ee (show op<5\/15<op by omega)];rfl)|simp[*])
 refine cR ?_;intro qy;refine aC (λjC=>?_) (λjC=>?_)
 .first|exact⟨rfl,u.aF⟩|(subst_vars;exact⟨rfl,u.aF⟩)|(refine⟨?_,u.aF⟩;unfold gv gA lu;first|(rw[ee (show op<5\/15<op by omega)];rfl)|simp[*])
 refine dO anM (C304 _) ?_;rintro _ _ ⟨b1,b2,b3,b4,Y,b6,rfl,Z⟩;have u:=u.made Z;obtain rfl|rfl|rfl|rfl|rfl|rfl|rfl|rfl|rfl|rfl|rfl|rfl|rfl|rfl|rfl|rfl:op=0\/op=1\/op=2\/op=3\/op=4\/op=5\/op=6\/op=7\/op=8\/op=9\/op=10\/op=11\/op=12\/op=13\/op=14\/op=15:=bL
 .refine pop (v:=.nilFunc) (by kernel_rfl) (pop (v:=.bool true) (by kernel_rfl) (gN ?_))
  first|exact⟨rfl,u.aF⟩|(subst_vars;exact⟨rfl,u.aF⟩)|(refine⟨?_,u.aF⟩;unfold gv gA lu;first|(rw[ee (show op<5\/15<op by omega)];rfl)|simp[*])
 .refine pop (v:=.nilFunc) (by kernel_rfl) (pop (v:=.bool true) (by kernel_rfl) (gN ?_))
  first|exact⟨rfl,u.aF⟩|(subst_vars;exact⟨rfl,u.aF⟩)|(refine⟨?_,u.aF⟩;unfold gv gA lu;first|(rw[ee (show op<5\/15<op by omega)];rfl)|simp[*])
 .refine pop (v:=.nilFunc) (by kernel_rfl) (pop (v:=.bool true) (by kernel_rfl) (gN ?_))
  first|exact⟨rfl,u.aF⟩|(subst_vars;exact⟨rfl,u.aF⟩)|(refine⟨?_,u.aF⟩;unfold gv gA lu;first|(rw[ee (show op<5\/15<op by omega)];rfl)|simp[*])
 .refine pop (v:=.nilFunc) (by kernel_rfl) (pop (v:=.bool true) (by kernel_rfl) (gN ?_))
  first|exact⟨rfl,u.aF⟩|(subst_vars;exact⟨rfl,u.aF⟩)|(refine⟨?_,u.aF⟩;unfold gv gA lu;first|(rw[ee (show op<5\/15<op by omega)];rfl)|simp[*])
 .refine pop (v:=.nilFunc) (by kernel_rfl) (pop (v:=.bool true) (by kernel_rfl) (gN ?_))
  first|exact⟨rfl,u.aF⟩|(subst_vars;exact⟨rfl,u.aF⟩)|(refine⟨?_,u.aF⟩;unfold gv gA lu;first|(rw[ee (show op<5\/15<op by omega)];rfl)|simp[*])
 .refine pop (v:=.func (.func 324) #[] #[]) (by kernel_rfl) (pop (v:=.bool false) (by kernel_rfl) (fa ?_));refine⟨_,?_,λ_ _ h=>h⟩;refine aG (fF cZ (aG (fF cZ ?_)));intro E;refine fa (gS (first:=[]) (cap:=[]) anR (C324 a b _) ?_);rintro _ G ⟨rfl,B⟩;have u:=u.ext B
  first|exact⟨rfl,u.aF⟩|(subst_vars;exact⟨rfl,u.aF⟩)|(refine⟨?_,u.aF⟩;unfold gv gA lu;first|(rw[ee (show op<5\/15<op by omega)];rfl)|simp[*])
 .refine pop (v:=.func (.func 325) #[] #[]) (by kernel_rfl) (pop (v:=.bool false) (by kernel_rfl) (fa ?_));refine⟨_,?_,λ_ _ h=>h⟩;refine aG (fF cZ (aG (fF cZ ?_)));intro E;refine fa (gS (first:=[]) (cap:=[]) anS (C325 a b _) ?_);rintro _ G ⟨rfl,B⟩;have u:=u.ext B
  first|exact⟨rfl,u.aF⟩|(subst_vars;exact⟨rfl,u.aF⟩)|(refine⟨?_,u.aF⟩;unfold gv gA lu;first|(rw[ee (show op<5\/15<op by omega)];rfl)|simp[*])
 .refine pop (v:=.func (.func 326) #[] #[]) (by kernel_rfl) (pop (v:=.bool false) (by kernel_rfl) (fa ?_));refine⟨_,?_,λ_ _ h=>h⟩;refine aG (fF cZ (aG (fF cZ ?_)));intro E;refine fa (gS (first:=[]) (cap:=[]) anT (C326 a b _) ?_);rintro _ G ⟨rfl,B⟩;have u:=u.ext B
  first|exact⟨rfl,u.aF⟩|(subst_vars;exact⟨rfl,u.aF⟩)|(refine⟨?_,u.aF⟩;unfold gv gA lu;first|(rw[ee (show op<5\/15<op by omega)];rfl)|simp[*])
 .refine pop (v:=.func (.func 327) #[] #[]) (by kernel_rfl) (pop (v:=.bool false) (by kernel_rfl) (fa ?_));refine⟨_,?_,λ_ _ h=>h⟩;refine aG (lL cZ (aG ?_));intro E;refine aC (λW=>?_) (λW=>?_)
  .first|exact⟨rfl,u.aF⟩|(subst_vars;exact⟨rfl,u.aF⟩)|(refine⟨?_,u.aF⟩;unfold gv gA lu;first|(rw[ee (show op<5\/15<op by omega)];rfl)|simp[*])
  refine gS (first:=[]) (cap:=[]) anU (C327 a b _ W) ?_;rintro _ G ⟨rfl,B⟩;have u:=u.ext B
  first|exact⟨rfl,u.aF⟩|(subst_vars;exact⟨rfl,u.aF⟩)|(refine⟨?_,u.aF⟩;unfold gv gA lu;first|(rw[ee (show op<5\/15<op by omega)];rfl)|simp[*])
 .refine pop (v:=.func (.func 328) #[] #[]) (by kernel_rfl) (pop (v:=.bool false) (by kernel_rfl) (fa ?_));refine⟨_,?_,λ_ _ h=>h⟩;refine aG (fF cZ (aG (lL cZ (aG ?_))));intro E;refine aC (λW=>?_) (λW=>?_)
  .first|exact⟨rfl,u.aF⟩|(subst_vars;exact⟨rfl,u.aF⟩)|(refine⟨?_,u.aF⟩;unfold gv gA lu;first|(rw[ee (show op<5\/15<op by omega)];rfl)|simp[*])
  refine gS (first:=[]) (cap:=[]) anV (C328 a b _ W) ?_;rintro _ G ⟨rfl,B⟩;have u:=u.ext B
  first|exact⟨rfl,u.aF⟩|(subst_vars;exact⟨rfl,u.aF⟩)|(refine⟨?_,u.aF⟩;unfold gv gA lu;first|(rw[ee (show op<5\/15<op by omega)];rfl)|simp[*])
 .refine pop (v:=.func (.func 323) #[] #[.pointer (some ⟨b1,0,none⟩)]) (by kernel_rfl) (pop (v:=.bool false) (by kernel_rfl) (fa ?_));refine⟨_,?_,λ_ _ h=>h⟩;refine aG (fF cZ (aG (fF cZ ?_)));intro E;refine fa ?_;obtain⟨V,O,M,J,U,I⟩:=u.eH;refine gS (first:=[]) (cap:=[.pointer (some ⟨b1,0,none⟩)]) GJ (C323 a b b1 _ _ _ V fb1) ?_;rintro _ G ⟨rfl,B⟩;have u:=u.ext B
  first|exact⟨rfl,u.aF⟩|(subst_vars;exact⟨rfl,u.aF⟩)|(refine⟨?_,u.aF⟩;unfold gv gA lu;first|(rw[ee (show op<5\/15<op by omega)];rfl)|simp[*])
 .refine pop (v:=.func (.func 323) #[] #[.pointer (some ⟨b2,0,none⟩)]) (by kernel_rfl) (pop (v:=.bool false) (by kernel_rfl) (fa ?_));refine⟨_,?_,λ_ _ h=>h⟩;refine aG (fF cZ (aG (fF cZ ?_)));intro E;refine fa ?_;obtain⟨V,O,M,J,U,I⟩:=u.eH;refine gS (first:=[]) (cap:=[.pointer (some ⟨b2,0,none⟩)]) GJ (C323 a b b2 _ _ _ O fb2) ?_;rintro _ G ⟨rfl,B⟩;have u:=u.ext B
  first|exact⟨rfl,u.aF⟩|(subst_vars;exact⟨rfl,u.aF⟩)|(refine⟨?_,u.aF⟩;unfold gv gA lu;first|(rw[ee (show op<5\/15<op by omega)];rfl)|simp[*])
 .refine pop (v:=.func (.func 323) #[] #[.pointer (some ⟨b3,0,none⟩)]) (by kernel_rfl) (pop (v:=.bool false) (by kernel_rfl) (fa ?_));refine⟨_,?_,λ_ _ h=>h⟩;refine aG (fF cZ (aG (fF cZ ?_)));intro E;refine fa ?_;obtain⟨V,O,M,J,U,I⟩:=u.eH;refine gS (first:=[]) (cap:=[.pointer (some ⟨b3,0,none⟩)]) GJ (C323 a b b3 _ _ _ M fb3) ?_;rintro _ G ⟨rfl,B⟩;have u:=u.ext B
  first|exact⟨rfl,u.aF⟩|(subst_vars;exact⟨rfl,u.aF⟩)|(refine⟨?_,u.aF⟩;unfold gv gA lu;first|(rw[ee (show op<5\/15<op by omega)];rfl)|simp[*])
 .refine pop (v:=.func (.func 323) #[] #[.pointer (some ⟨b4,0,none⟩)]) (by kernel_rfl) (pop (v:=.bool false) (by kernel_rfl) (fa ?_));refine⟨_,?_,λ_ _ h=>h⟩;refine aG (fF cZ (aG (fF cZ ?_)));intro E;refine fa ?_;obtain⟨V,O,M,J,U,I⟩:=u.eH;refine gS (first:=[]) (cap:=[.pointer (some ⟨b4,0,none⟩)]) GJ (C323 a b b4 _ _ _ J fb4) ?_;rintro _ G ⟨rfl,B⟩;have u:=u.ext B
  first|exact⟨rfl,u.aF⟩|(subst_vars;exact⟨rfl,u.aF⟩)|(refine⟨?_,u.aF⟩;unfold gv gA lu;first|(rw[ee (show op<5\/15<op by omega)];rfl)|simp[*])
 .refine pop (v:=.func (.func 323) #[] #[.pointer (some ⟨Y,0,none⟩)]) (by kernel_rfl) (pop (v:=.bool false) (by kernel_rfl) (fa ?_));refine⟨_,?_,λ_ _ h=>h⟩;refine aG (fF cZ (aG (fF cZ ?_)));intro E;refine fa ?_;obtain⟨V,O,M,J,U,I⟩:=u.eH;refine gS (first:=[]) (cap:=[.pointer (some ⟨Y,0,none⟩)]) GJ (C323 a b Y _ _ _ U fb5) ?_;rintro _ G ⟨rfl,B⟩;have u:=u.ext B
  first|exact⟨rfl,u.aF⟩|(subst_vars;exact⟨rfl,u.aF⟩)|(refine⟨?_,u.aF⟩;unfold gv gA lu;first|(rw[ee (show op<5\/15<op by omega)];rfl)|simp[*])
 refine pop (v:=.func (.func 323) #[] #[.pointer (some ⟨b6,0,none⟩)]) (by kernel_rfl) (pop (v:=.bool false) (by kernel_rfl) (fa ?_));refine⟨_,?_,λ_ _ h=>h⟩;refine aG (fF cZ (aG (fF cZ ?_)));intro E;refine fa ?_;obtain⟨V,O,M,J,U,I⟩:=u.eH;refine gS (first:=[]) (cap:=[.pointer (some ⟨b6,0,none⟩)]) GJ (C323 a b b6 _ _ _ I fb6) ?_;rintro _ G ⟨rfl,B⟩;have u:=u.ext B
 first|exact⟨rfl,u.aF⟩|(subst_vars;exact⟨rfl,u.aF⟩)|(refine⟨?_,u.aF⟩;unfold gv gA lu;first|(rw[ee (show op<5\/15<op by omega)];rfl)|simp[*])
theorem gG{α:Type}{l:List α}{k:Nat}{e:α}(h:l[k]?=some e):l.take k++[e]=l.take (k+1):=by rw[tK,h];rfl
def dS{α:Type}{φ:α->Prop}{l:List α}{k:Nat}{e:α}(h:∀y∈l.take k,φ y)(u:l[k]?=some e)(E:φ e):∀y∈l.take (k+1),φ y:=by
 intro y B
 rw[<- gG u]at B
 grind
theorem gZ{α:Type}{g:α->Bool}{l:List α}{k:Nat}{e:α}(u:l[k]?=some e)(B:g e=true):l.any g=true:=List.any_eq_true.2 ⟨e,j0 u,B⟩
theorem iq{α:Type}{g:α->Bool}{l:List α}(h:∀y∈l,g y=false):l.any g=false:=by
 grind
def rS{α:Type}(g:α->Bool)(l:List α):Int:=match l.findIdx? g with|some k=>k|none=>-1
def lM{α:Type}{g:α->Bool}{l:List α}{k:Nat}{e:α}(E:∀y∈l.take k,g y=false)(B:l[k]?=some e)(I:g e=true):rS g l=k:=by
 have:l.findIdx? g=some k:=by
  rw[List.findIdx?_eq_some_iff_getElem]
  have u:=(ir.1 B).1
  refine⟨u,cH,λj G=>?_⟩
  have:=E (l[j]'(bL)) (List.mem_take_iff_getElem.2 ⟨j,bL,rfl⟩)
  simp[this]
 unfold rS;rw[this]
def iT{α:Type}{g:α->Bool}{l:List α}(u:∀y∈l,g y=false):rS g l = -1:=by
 grind[rS]
def kD{α:Type}(g:α->Bool)(l:List α):decide (0<=rS g l)=l.any g:=by
 grind[rS]
def vM{α:Type}[Flat α](w:World)(f:Value)(g:α->Bool):Prop:=∃B first cap,f=.func (.func B) (OY first) (OY cap)/\Plain g6 B/\
 ∀x u,Ext w u->Calls g6 B (first++[hM x]++cap).toArray u (sK λv E=>v=.bool (g x)/\Ext u E)
theorem vM.ext{α:Type}[Flat α]{w w':World}{f:Value}{g:α->Bool}(h:vM w f g)(e:Ext w w'):vM w' f g:=by
 obtain⟨E,first,cap,h1,h2,h3⟩:=h;exact⟨E,first,cap,h1,h2,λx B u=>h3 x B (e.trans u)⟩
def eA(k:Int):Int:=if k=3\/k=4 then 1 else if 5<=k/\k<=15 then 2 else 0
def VJ(st:Option (Int×Int))(x:n8):Option (Int×Int):=match st with
 | none=>none
 | some (n,h)=>if n-eA x.kind<0 then none else some (n-eA x.kind+1,max h (n-eA x.kind+1))
def ht(l:List n8):Option (Int×Int):=l.foldl VJ (some (0,0))
def htN(l:List n8):Int:=match ht l with|some p=>p.1|none=>0
def htH(l:List n8):Int:=match ht l with|some p=>p.2|none=>0
theorem Au{l:List n8}{k:Nat}{x:n8}(h:l[k]?=some x):ht (l.take (k+1))=VJ (ht (l.take k)) x:=by
 unfold ht;rw[<- gG h,CK];rfl
def R0{l:List n8}{k:Nat}(h:ht (l.take k)=none):ht l=none:=by
 have u:∀m:List n8,m.foldl VJ none=none:=λm=>by induction m with|nil=>rfl|cons y m B=>exact B
 have e:l=l.take k++l.drop k:=(o1 k l).symm
 grind[ht]
def R2(k:Int):0<=eA k/\eA k<=2:=by
 grind[eA]
theorem aij{l:List n8}:∀k n h,k<=l.length->ht (l.take k)=some (n,h)->0<=n/\n<=(k:Int)/\0<=h/\h<=(k:Int)
 | 0,n,h,_,e=>by
  have:ht ([]:List n8)=some (0,0):=rfl
  grind
 | k+1,n,h,B,e=>by
  obtain⟨x,u⟩:=gx l (i:=k) bL
  rw[Au u]at e
  cases hp:ht (l.take k)with
  | none=>rw[hp]at e;cases e
  | some p=>
   obtain⟨a,b⟩:=p
   have E:=aij k a b bL hp
   have G:=R2 x.kind
   rw[hp]at e
   unfold VJ at e
   grind
def acM{l:List n8}{k:Nat}{x:n8}{n h m:Int}(u:l[k]?=some x)(B:ht (l.take k)=some (n,h))(E:m=n-eA x.kind)(G:¬ m<0):ht (l.take (k+1))=some (m+1,max h (m+1)):=by
 rw[Au u,B];grind[VJ]
def aik{l:List n8}{k:Nat}{x:n8}{n h m:Int}(u:l[k]?=some x)(B:ht (l.take k)=some (n,h))(E:m=n-eA x.kind)(G:m<0):ht (l.take (k+1))=none:=by
 rw[Au u,B];grind[VJ]
def qJ(many:Int)(x:n8):Bool:=decide ((x.kind=1/\(x.n<0\/4294967296<x.n))\/(x.kind=2/\(x.n<0\/many<=x.n))\/(¬ x.kind=1/\¬ x.kind=2/\(¬ x.n=0\/x.kind<1\/16<=x.kind)))
def ma(l:List n8)(many:Int):Bool:=decide (l.length<=40)&&(ht l).isSome&&decide (htN l=1)&&!l.any (qJ many)
def C267(k:Int)(w:World):CR 267 [hH k] w (λv w'=>v=hH (eA k)/\Ext w w'):=by
 have B:=St.start w;refine eU Tryz.func267 ?_;refine⟨λI w'=>I=.bool (decide (k=3\/k=4))/\w=w',aG (aC (λ_=>⟨Ko bL,rfl⟩) λ_=>aG ⟨xB bL,rfl⟩),?_⟩;rintro _ _ ⟨rfl,G⟩ _;subst G;refine aC (λu=>?_) (λu=>⟨λI w'=>I=.bool (decide (5<=k/\k<=15))/\w=w',cR (aC (λ_=>ga ⟨xB bL,rfl⟩) λ_=>⟨Wf bL,rfl⟩),?_⟩)
 .unfold eA
  first|(rw[ee u];exact⟨rfl,B.aF⟩)|(rw[eb u,ee E];exact⟨rfl,B.aF⟩)|(rw[eb u,eb E];exact⟨rfl,B.aF⟩)
 rintro _ _ ⟨rfl,G⟩ _;subst G;refine aC (λE=>?_) (λE=>?_)
 .unfold eA
  first|(rw[ee u];exact⟨rfl,B.aF⟩)|(rw[eb u,ee E];exact⟨rfl,B.aF⟩)|(rw[eb u,eb E];exact⟨rfl,B.aF⟩)
 unfold eA
 first|(rw[ee u];exact⟨rfl,B.aF⟩)|(rw[eb u,ee E];exact⟨rfl,B.aF⟩)|(rw[eb u,eb E];exact⟨rfl,B.aF⟩)
def C299(M:Value)(xs:List n8)(w:World)(J:dz (λ_=>True) w M xs)(hn:xs.length<=1048576):CR 299 [M] w (λv w'=>v=.tuple #[hH (htN xs),hH (htH xs),.bool (ht xs).isSome]/\Ext w w'):=by
 have u:=St.start w;refine eU Tryz.func299 ?_;refine aH td (J.ext u.aF) ?_;refine⟨λm y z x I=>∃(k:Nat) (n h:Int),y=hH n/\z=hH h/\x=hH (k:Int)/\m=xs.length-k/\k<=xs.length/\ht (xs.take k)=some (n,h)/\St w aY [] I,⟨_,0,0,0,rfl,rfl,rfl,rfl,bL,rfl,u⟩,?_⟩;rintro m _ _ _ I ⟨k,n,h,rfl,rfl,rfl,rfl,hk,B,u⟩ _;refine aO (aC (λU=>?_) λU=>?_)
 .obtain⟨O,G⟩:=gx xs (i:=(k:Int).toNat) bL;refine aM td (J.ext u.aF) bL G (λ_ W=>aE D3 W (aQ u IK λT6 _ u=>aK (x:=O) u D3 rfl rfl λ_ u=>aA nj (aB bO u.hb rfl (aS Wo u (C267 _ _) λ_ he u=>?_))));have Z:=R2 O.kind;have V:=aij k n h bL B;refine fk bL (aO (aC (λE=>?_) λE=>aJ bL (De (aJ bL ⟨_,bL,k+1,_,_,rfl,rfl,rfl,rfl,bL,by rw[Au (k:=k) G,B];unfold VJ;simp only[];rw[eb E],u.drop⟩))));have Y:ht xs=none:=R0 (k:=k+1) (by rw[Au (k:=k) G,B];unfold VJ;simp only[];rw[ee E])
  unfold htN htH;rw[Y];exact⟨rfl,u.aF⟩
 rw[kp bL]at B;unfold htN htH;rw[B];exact⟨rfl,u.aF⟩
def C298(x:n8)(b2:Nat)(many:Int)(w:World)(hc:Cell w b2 0 (hH many)):CR 298 [hM x,.pointer (some ⟨b2,0,none⟩)] w (λv w'=>v=.bool (qJ many x)/\Ext w w'):=by
 have u:=St.start w;refine eU Tryz.func298 ?_;refine cJ u (λW _ u=>aA nj (aB bO u.hb rfl (aG (aC (λU=>⟨_,aA pY (aB bO u.hb rfl (aO (aC (λO=>?_) λO=>?_))),λ_ _ h=>h⟩) λU=>aA nj (aB bO u.hb rfl (aG (aC (λE=>⟨_,aA pY (aB bO u.hb rfl (aO (aC (λJ=>?_) λJ=>?_))),λ_ _ h=>h⟩) λE=>?_)))))))
 .intro M;refine⟨vb ?_,u.aF⟩;unfold qJ
  first|exact(ei bL).symm|exact(ej bL).symm|exact ew.2 bL
 .refine aA pY (aB bO u.hb rfl (cP ?_));intro M;refine⟨vb ?_,u.aF⟩;unfold qJ
  first|exact(ei bL).symm|exact(ej bL).symm|exact ew.2 bL
 .intro G;refine⟨vb ?_,u.aF⟩;unfold qJ
  first|exact(ei bL).symm|exact(ej bL).symm|exact ew.2 bL
 .refine aA pY (aB bO u.hb rfl (bU bO (hc.ext u.aF) (cR ?_)));intro G;refine⟨vb ?_,u.aF⟩;unfold qJ
  first|exact(ei bL).symm|exact(ej bL).symm|exact ew.2 bL
 refine⟨_,?_,λ_ _ h=>h⟩;refine aA pY (aB bO u.hb rfl (bT (aC (λV=>?_) λV=>aA nj (aB bO u.hb rfl (aO (aC (λI=>?_) λI=>?_))))))
 .intro B;refine⟨vb ?_,u.aF⟩;unfold qJ
  first|exact(ei bL).symm|exact(ej bL).symm|exact ew.2 bL
 .intro B;refine⟨vb ?_,u.aF⟩;unfold qJ
  first|exact(ei bL).symm|exact(ej bL).symm|exact ew.2 bL
 refine aA nj (aB bO u.hb rfl (cR ?_));intro B;refine⟨vb ?_,u.aF⟩;unfold qJ
 first|exact(ei bL).symm|exact(ej bL).symm|exact ew.2 bL
def C321(M fv:Value)(xs:List n8)(g:n8->Bool)(w:World)(J:dz (λ_=>True) w M xs)(Y:vM w fv g)(hn:xs.length<=1073741824):CR 321 [M,fv] w (λv w'=>v=hH (rS g xs)/\Ext w w'):=by
 obtain⟨g0,first,cap,rfl,W,V⟩:=Y;have u:=St.start w;refine eU Tryz.func321 ?_;refine aH td (J.ext u.aF) ?_;refine⟨λm x E=>∃k:Nat,x=hH (k:Int)/\m=xs.length-k/\k<=xs.length/\(∀y∈xs.take k,g y=false)/\St w aY [] E,⟨_,0,rfl,rfl,kO _,ea,u⟩,?_⟩;rintro m _ E ⟨k,rfl,rfl,hk,B,u⟩ _;refine aO (aC (λje=>?_) λ_=>⟨ez (mn .i64) (iT (by rw[kp bL]at B;exact B)).symm,u.aF⟩);obtain⟨O,G⟩:=gx xs (i:=(k:Int).toNat) bL;refine aM td (J.ext u.aF) bL G (λ_ U=>aE D3 U (gS W (V O E u.aF) ?_))
 rintro _ _ ⟨rfl,Z⟩;have u:=u.ext Z;exact aX (λI=>⟨ez (mn .i64) (lM B G I).symm,u.aF⟩) (λI=>aJ bL ⟨xs.length-(k+1),bL,k+1,rfl,rfl,bL,dS B G I,u⟩)
def C300(B fv:Value)(xs:List n8)(g:n8->Bool)(w:World)(G:dz (λ_=>True) w B xs)(E:vM w fv g)(I:xs.length<=1073741824):CR 300 [B,fv] w (λv w'=>v=.bool (xs.any g)/\Ext w w'):=by
 have u:=St.start w;refine eU Tryz.func300 ?_;exact aS anQ u (C321 _ _ _ _ _ (G.ext u.aF) (E.ext u.aF) bL) (λ_ _ u=>cR ⟨vb (kD _ _),u.aF⟩)
def C266(J:Value)(xs:List n8)(many:Int)(w:World)(B:dz (λ_=>True) w J xs)(Z:xs.length<=1048576):CR 266 [J,hH many] w (λv w'=>v=.bool (ma xs many)/\Ext w w'):=by
 have u:=St.start w;refine eU Tryz.func266 ?_;refine nd u rfl (λM I u=>aS anJ u (C299 _ _ _ (B.ext u.aF) bL) λ_ W u=>aN rfl (aN rfl (aN rfl ?_)));refine⟨_,?_,λ_ _ h=>h⟩;refine aH td (B.ext u.aF) (ga (aC (λU=>aX (λY=>aG (aC (λV=>?_) λV=>?_)) λY=>?_) λU=>?_))
 .have G:vM _ (.func (.func 298) [].toArray [.pointer (some ⟨M,0,none⟩)].toArray) (qJ many):=
   ⟨298,[],_,rfl,anI,λy I O=>C298 y M many I ((u.hb.cell rfl).ext O)⟩
  refine aS anK u (C300 _ _ _ _ _ (B.ext u.aF) G bL) (λ_ W u=>bP ?_);intro E;refine⟨vb ?_,u.aF⟩;unfold ma
  simp_all<;>omega
 .intro E;refine⟨vb ?_,u.aF⟩;unfold ma
  simp_all<;>omega
 .intro E;refine⟨vb ?_,u.aF⟩;unfold ma
  simp_all<;>omega
 intro E;refine⟨vb ?_,u.aF⟩;unfold ma
 simp_all<;>omega
def oK(b:Nat)(rest:List Value)(l:List Int):HP:=pZ λu=>sep (bZ b (u::rest)) (bF u l)
def oK.shut{w0 w:World}{A:Nat->Prop}{R:List HP}{b:Nat}{rest:List Value}{u:Value}{l:List Int}(B:St w0 A (bZ b (u::rest)::bF u l::R) w):St w0 A (oK b rest l::R) w:=
 St.er (H:=λu=>sep (bZ b (u::rest)) (bF u l)) u (St.join B)
def oK.open{w0 w:World}{A:Nat->Prop}{R:List HP}{b:Nat}{rest:List Value}{l:List Int}(B:St w0 A (oK b rest l::R) w):∃u,St w0 A (bZ b (u::rest)::bF u l::R) w:=by
 obtain⟨u,B⟩:=B.ep;exact⟨u,B.split⟩
def jV(l:List Int):Int:=l.getD (l.length-1) 0
theorem Xe{l:List Int}{e:Int}(h:l[((l.length:Int)-1).toNat]?=some e):e=jV l:=by
 simp_all[jV]
def C301(b:Nat)(n:Int)(rest:List Value)(l:List Int)(F:Nat->Prop)(w:World)(G:(oK b rest l).p w F)(J:l.length<=1048576):CR 301 [.pointer (some ⟨b,0,none⟩),hH n] w (λv w'=>v=.tuple #[]/\mH F (oK b rest (l++[n])) w w'):=by
 have u:=St.begin G;obtain⟨I,u⟩:=u.ep;have u:=u.split;refine eU Tryz.func301 ?_;refine aD (aA pX (aB eP u.hb rfl (aW ([n]:List Int) u cQ rfl rfl (dM rfl) λE _ u=>?_)));have B:=u.dQ;exact bJ u.p2 cQ B (by simp<;>omega) cZ (λ_ _ u=>have u:=u.p1.drop;aD (aA pX (aV u.p1 eP (dM rfl) u.dQ.one λ_ u=>have u:=u.p1.p1;⟨rfl,(oK.shut u).mut⟩)))
def C270(b:Nat)(rest:List Value)(l:List Int)(F:Nat->Prop)(w:World)(G:(oK b rest l).p w F)(U:l.length<=1048576)(O:0<l.length):CR 270 [.pointer (some ⟨b,0,none⟩)] w (λv w'=>v=hH (jV l)/\mH F (oK b rest (l.take (l.length-1))) w w'):=by
 have u:=St.begin G;obtain⟨M,u⟩:=u.ep;have u:=u.split;refine pJ Tryz.func270 (pl:=avs) ?_;refine aD (aA pX (have u:=u.drew;aB eP u.hb rfl (aD (aA pX (aB eP u.hb rfl (aH cQ u.p1.dQ (fk bL ?_)))))));obtain⟨J,B⟩:=gx l (i:=((l.length:Int)-1).toNat) bL;refine dJ u.p1 cQ bL bL (λ_ I=>fV u.p1 bO I B (aD (aA pX (have u:=u.drew;aB eP u.hb rfl (aD (aA pX (aB eP u.hb rfl (aH cQ u.p1.dQ (fk bL (have u:=u.p1;rO cQ u bL bL λE u=>aD (aA pX ?_)))))))))))
 refine aV u.p1 eP (dM rfl) u.dQ.one (λ_ u=>?_);have u:=u.p1.p1;rw[show((l.length:Int)-1).toNat=l.length-1 from bL]at u;rw[Xe B];exact⟨rfl,(oK.shut u).mut⟩
def C268(b:Nat)(n hi:Int)(l:List Int)(F:Nat->Prop)(w:World)(B:(oK b [hH hi] l).p w F)(I:l.length<=1048576):CR 268 [.pointer (some ⟨b,0,none⟩),hH n] w (λv w'=>v=.tuple #[]/\∃E,mH F (oK b [hH E] (l++[n])) w w'):=by
 have u:=St.begin B;refine pJ Tryz.func268 (pl:=avr) ?_;refine aD (aA um (pM anL u (H':=λ_=>oK b [hH hi] (l++[n])) (Φ:=λv _=>v=.tuple #[]) (λF B=>?_) ?_))
 .exact C301 b n _ l F _ B bL
 rintro _ _ rfl u;obtain⟨G,u⟩:=oK.open u;exact aD (aA Le (have u:=u.drew;aB bO u.hb rfl (aD (aA um (aA pX (aB eP u.hb rfl (aH cQ u.p1.dQ (De (aD (aA Le (aV u bO (dM rfl) (rfl) λ_ u=>have u:=u.p1.p1;⟨rfl,_,(oK.shut u).mut⟩)))))))))))
def kT(ns S:List Int)(x:n8):List Int:=
 if eA x.kind=0 then S++[if x.kind=2 then ns.getD x.n.toNat 0 else x.n]
 else if eA x.kind=1 then S.take (S.length-1)++[yh x.kind (jV S)]
 else S.take (S.length-2)++[gv x.kind (jV (S.take (S.length-1))) (jV S)]
def u0(S:List Int)(x:n8):Int:=if eA x.kind=2 then gA x.kind (jV S)else 0
def vO(ns:List Int):List n8->List Int->Int×Int
 | [],S=>(jV S,0)
 | x::r,S=>if u0 S x=0 then vO ns r (kT ns S x)else(0,u0 S x)
def runM(l:List n8)(ns:List Int):Int×Int:=if ma l ns.length=true then vO ns l []else(0,8)
def Aw(k:Int):eA k=0\/eA k=1\/eA k=2:=by
 grind[eA]
section
variable {xs:List n8}{ns S:List Int}{k:Nat}{x:n8}{n h:Int}
theorem Dg(B:xs[k]?=some x)(h:u0 S x=0):vO ns (xs.drop k) S=vO ns (xs.drop (k+1)) (kT ns S x):=by
 obtain⟨u,E⟩:=ir.1 B
 rw[qH u,E,vO,ee h]
theorem Xf(B:xs[k]?=some x)(h:¬ u0 S x=0):vO ns (xs.drop k) S=(0,u0 S x):=by
 obtain⟨u,E⟩:=ir.1 B
 rw[qH u,E,vO,eb h]
theorem yx{many:Int}(h:ma xs many=true):xs.length<=40/\(∃a,ht xs=some (1,a))/\∀x∈xs,qJ many x=false:=by
 unfold ma at h
 rw[nS,nS,nS,decide_eq_true_eq,decide_eq_true_eq]at h
 obtain⟨⟨⟨h1,h2⟩,h3⟩,h4⟩:=h
 refine⟨h1,?_,λx u=>?_⟩
 .unfold htN at h3
  grind
 grind
theorem T7(u:eA x.kind<=(S.length:Int)):((kT ns S x).length:Int)=S.length-eA x.kind+1:=by
 unfold kT
 rcases Aw x.kind with h|h|h
 .grind
 .grind
 grind
theorem T8{a:Int}(I:ht xs=some (1,a))(B:ht (xs.take k)=some ((S.length:Int),h))(u:xs[k]?=some x) :
  eA x.kind<=(S.length:Int)/\∃G,ht (xs.take (k+1))=some (((kT ns S x).length:Int),G):=by
 have E:eA x.kind<=(S.length:Int):=by
  rcases Int.lt_or_le ((S.length:Int)-eA x.kind) 0 with h1|h1
  .have:=R0 (aik u B rfl h1);grind
  .omega
 exact⟨E,_,(acM u B rfl bL).trans (by rw[T7 E])⟩
theorem ail(u:eA x.kind=0)(h2:¬ x.kind=2):kT ns S x=S++[x.n]:=by unfold kT;grind
theorem aim{e:Int}(u:eA x.kind=0)(h2:x.kind=2)(B:ns[x.n.toNat]?=some e):kT ns S x=S++[e]:=by
 grind[kT]
theorem ain(u:eA x.kind=1):kT ns S x=S.take (S.length-1)++[yh x.kind (jV S)]:=by unfold kT;rw[eb bL,ee u]
theorem aio(u:eA x.kind=2):kT ns S x=S.take (S.length-2)++[gv x.kind (jV (S.take (S.length-1))) (jV S)]:=by unfold kT;rw[eb bL,eb bL]
theorem Xg(u:¬ eA x.kind=2):u0 S x=0:=by unfold u0;omega
theorem agt(u:eA x.kind=2):u0 S x=gA x.kind (jV S):=by unfold u0;omega
theorem OS(h:2<=S.length):(S.take (S.length-1)).take ((S.take (S.length-1)).length-1)=S.take (S.length-2):=by
 grind
end
def mY(b:Nat)(l:List Int):HP:=pZ fun (hi:Int)=>oK b [hH hi] l
def mY.shut{w0 w:World}{A:Nat->Prop}{R:List HP}{b:Nat}{hi:Int}{l:List Int}(u:St w0 A (oK b [hH hi] l::R) w):St w0 A (mY b l::R) w:=
 St.er (H:=fun (hi:Int)=>oK b [hH hi] l) hi u
def acN(b:Nat)(n:Int)(l:List Int)(F:Nat->Prop)(w:World)(u:(mY b l).p w F)(J:l.length<=1048576) :
  Calls g6 268 [.pointer (some ⟨b,0,none⟩),hH n].toArray w (sK λv w'=>v=.tuple #[]/\mH F (mY b (l++[n])) w w'):=by
 obtain⟨hi,u⟩:=u
 refine(C268 b n hi l F w u J).mono λe w' ⟨v,B,G,E,I,h1,h2⟩=>⟨v,B,G,I,⟨E,h1⟩,h2⟩
def acO(b:Nat)(l:List Int)(F:Nat->Prop)(w:World)(u:(mY b l).p w F)(J:l.length<=1048576)(E:0<l.length) :
  Calls g6 270 [.pointer (some ⟨b,0,none⟩)].toArray w (sK λv w'=>v=hH (jV l)/\mH F (mY b (l.take (l.length-1))) w w'):=by
 obtain⟨hi,u⟩:=u
 refine(C270 b [hH hi] l F w u J E).mono λe w' ⟨v,B,G,I,h1,h2⟩=>⟨v,B,G,I,⟨hi,h1⟩,h2⟩
def C219(sv nv:Value)(xs:List n8)(ns:List Int)(w:World)(hL:dz (λ_=>True) w sv xs)(hN:dz (λ_=>True) w nv ns)(hn:xs.length<=1048576):CR 219 [sv,nv] w (λv w'=>v=.tuple #[hH (runM xs ns).1,hH (runM xs ns).2]/\Ext w w'):=by
 have u:=St.start w;refine ab9 _ _ _ _ ?_;unfold S219;refine aH cQ (hN.ext u.aF) (aS anv u (C266 _ _ _ _ (hL.ext u.aF) hn) λw1 he u=>bP (aX (λW=>?_) λW=>?_))
 .unfold runM;rw[eb (by simpa using W)];exact⟨rfl,u.aF⟩
 refine aQ u acF (λE _ u=>?_);have u:=mY.shut (oK.shut (u.eW (α:=Int)).p1);have lz:ma xs (ns.length:Int)=true:=by simpa using W
 obtain⟨h40,⟨a0,vV⟩,Z⟩:=yx lz;refine aH td (hL.ext u.aF) ?_;refine⟨λm x w1=>∃(k:Nat) (S:List Int) (h:Int),x=hH (k:Int)/\m=xs.length-k/\k<=xs.length/\vO ns xs []=vO ns (xs.drop k) S/\ht (xs.take k)=some ((S.length:Int),h)/\St w aY [mY E S] w1,⟨_,0,[],0,rfl,rfl,bL,rfl,rfl,u⟩,?_⟩;rintro m _ _ ⟨k,S,h,rfl,rfl,hk,O,V,u⟩ _;refine aO (aC (λmR=>?_) λmR=>?_)
 .refine⟨_,?_,λ_ h=>h⟩;obtain⟨B,J⟩:=gx xs (i:=(k:Int).toNat) bL;refine aM td (hL.ext u.aF) bL J (λ_ Ax=>aE D3 Ax (aQ u IK λT6 _ u=>aK (x:=B) u D3 rfl rfl λ_ u=>aA nj (aB bO u.hb rfl (aS Wo u (C267 _ _) λ_ he u=>?_))));have Kg:=Z _ (j0 J);unfold qJ at Kg;have ho:=gL Kg;obtain⟨hw0,h2,I⟩:=T8 (ns:=ns) (k:=k) vV V J;have hwk:eA B.kind=0->B.kind=1\/B.kind=2\/¬ (B.kind=1\/B.kind=2):=λ_=>bL
  have hSk:=aij k _ _ bL V;have hw3:=Aw B.kind;refine aG (aC (λwB=>aA pY (aB bO u.hb rfl ⟨_,aA nj (aB bO u.hb rfl (aG (aC (λwC=>?_) λwC=>?_))),λ_ _ h=>h⟩)) λwB=>aG (aC (λU=>?_) λU=>?_))
  .refine aA pY (aB bO u.hb rfl ?_);obtain⟨Xh,OT⟩:=gx ns (i:=B.n.toNat) bL;refine aM cQ (hN.ext u.aF) bL OT (λ_ Ay=>aE bO Ay ?_);intro vS;refine pM Ry u.p1 (H':=λ_=>mY E (S++[Xh])) (Φ:=λv _=>v=.tuple #[]) (λF G=>?_) ?_
   .exact acN E Xh S F _ G (by first|omega|(simp only[lQ,kH,lH];omega))
   rintro _ w8 rfl u;intro xM;refine aJ bL ?_;have u:=u.p1.drop;have M:kT ns S B=_:=aim wB wC OT;exact⟨_,bL,k+1,_,_,rfl,rfl,bL,O.trans (Dg (k:=k) J (Xg bL)),I,by rw[M];exact u⟩
  .intro vS;refine pM Ry u.p1 (H':=λ_=>mY E (S++[B.n])) (Φ:=λv _=>v=.tuple #[]) (λF G=>?_) ?_
   .exact acN E B.n S F _ G (by first|omega|(simp only[lQ,kH,lH];omega))
   rintro _ w8 rfl u;intro xM;refine aJ bL ?_;have u:=u.p1.drop;have M:kT ns S B=_:=ail wB wC;exact⟨_,bL,k+1,_,_,rfl,rfl,bL,O.trans (Dg (k:=k) J (Xg bL)),I,by rw[M];exact u⟩
  .refine aA nj (have u:=u.drew;aB bO u.hb rfl (aA um (pM Rz u.p1 (H':=λ_=>mY E (S.take (S.length-1))) (Φ:=λv _=>v=hH (jV S)) (λF G=>?_) ?_)))
   .exact acO E S F _ G (by first|omega|(simp only[lQ,kH,lH];omega)) (by first|omega|(simp only[lQ,kH,lH];omega))
   rintro _ _ rfl u;refine⟨aI bO (u.p1.hb.cell rfl),?_⟩;refine aS anw u (C269 _ _ _) (λ_ he u=>aN rfl (aN rfl (pM Ry u (H':=λ_=>mY E ((S.take (S.length-1))++[(yh B.kind (jV S))])) (Φ:=λv _=>v=.tuple #[]) (λF G=>?_) ?_)))
   .exact acN E (yh B.kind (jV S)) (S.take (S.length-1)) F _ G (by first|omega|(simp only[lQ,kH,lH];omega))
   rintro _ _ rfl u;intro xM;refine aJ bL ?_;have u:=u.p1.drop;have M:kT ns S B=_:=ain U;exact⟨_,bL,k+1,_,_,rfl,rfl,bL,O.trans (Dg (k:=k) J (Xg bL)),I,by rw[M];exact u⟩
  refine aA um (pM Rz u.p1 (H':=λ_=>mY E (S.take (S.length-1))) (Φ:=λv _=>v=hH (jV S)) (λF G=>?_) ?_)
  .exact acO E S F _ G (by first|omega|(simp only[lQ,kH,lH];omega)) (by first|omega|(simp only[lQ,kH,lH];omega))
  rintro _ _ rfl u;refine aA nj (have u:=u.drew;aB bO u.p1.hb rfl (aA um (pM Rz u (H':=λ_=>mY E ((S.take (S.length-1)).take ((S.take (S.length-1)).length-1))) (Φ:=λv _=>v=hH (jV (S.take (S.length-1)))) (λF G=>?_) ?_)))
  .exact acO E (S.take (S.length-1)) F _ G (by first|omega|(simp only[lQ,kH,lH];omega)) (by first|omega|(simp only[lQ,kH,lH];omega))
  rintro _ _ rfl u;refine⟨aI bO (u.p1.hb.cell rfl),?_⟩;refine aS anx u (C271 _ _ _ _) (λ_ he u=>aN rfl (aN rfl (bT (aC (λY=>?_) λY=>?_))))
  .have hz:u0 S B=gA B.kind (jV S):=agt (by have:=Aw B.kind;omega);unfold runM;rw[ee lz,O,Xf (k:=k) J (by rw[hz];exact Y),hz];exact⟨rfl,u.aF⟩
  refine pM Ry u (H':=λ_=>mY E (((S.take (S.length-1)).take ((S.take (S.length-1)).length-1))++[(gv B.kind (jV (S.take (S.length-1))) (jV S))])) (Φ:=λv _=>v=.tuple #[]) (λF G=>?_) ?_
  .exact acN E (gv B.kind (jV (S.take (S.length-1))) (jV S)) ((S.take (S.length-1)).take ((S.take (S.length-1)).length-1)) F _ G (by first|omega|(simp only[lQ,kH,lH];omega))
  rintro _ _ rfl u;intro xM;refine aJ bL ?_;have u:=u.p1.drop;rw[OS bL]at u;have M:kT ns S B=_:=aio (by have:=Aw B.kind;omega);exact⟨_,bL,k+1,_,_,rfl,rfl,bL,O.trans (Dg (k:=k) J ((agt (by have:=Aw B.kind;omega)).trans (u3.1 Y))),I,by rw[M];exact u⟩
 refine aA um ?_
 have hS1:S.length=1:=by
  rw[kp bL,vV]at V;have:=(Prod.mk.inj (n3.inj V)).1;omega
 refine pM Rz u (H':=λ_=>mY E (S.take (S.length-1))) (Φ:=λv _=>v=hH (jV S)) (λF G=>?_) ?_
 .exact acO E S F _ G (by first|omega|(simp only[lQ,kH,lH];omega)) (by first|omega|(simp only[lQ,kH,lH];omega))
 rintro _ _ rfl u;unfold runM;rw[ee lz,O,pC bL];exact⟨rfl,u.aF⟩
def Xi(x:Int):eS (Bl x):=by unfold eS Bl;rw[IntKind.wrap_i64];omega
def acR{a:Int}(b:Int)(u:eS a):eS (a.tmod b):=by
 have B:(a.tmod b).natAbs<=a.natAbs:=by rw[U0];exact abP _ _
 unfold eS at *
 rcases abI 0 a with h|h
 .have:=P3 b h;omega
 have:=P3 (a:=-a) b bL
 rw[abH]at this;omega
def Xj(p:Bool):eS (IT p):=by cases p<;>(unfold eS IT;decide)
def iv:eS 0:=by unfold eS;decide
def Xk{op a b:Int}(u:eS a):eS (gv op a b):=by
 unfold gv
 by_cases h:gA op b=0
 .rw[ee h]
  unfold lu Eh
  repeat' split
  all_goals first|exact Xi _|exact Xj _|exact iv|exact acR _ u
 rw[eb h];exact iv
def Xl{op a:Int}:eS (yh op a):=by
 unfold yh
 repeat' split
 all_goals first|exact Xi _|exact Xj _|exact iv
def yi(S:List Int):Prop:=∀v∈S,eS v
theorem Lp{S:List Int}(h:yi S):eS (jV S):=by
 unfold jV
 rw[n0]
 cases hh:S[S.length-1]? with
 | none=>exact iv
 | some e=>exact h e (j0 hh)
def yi.take{S:List Int}(h:yi S)(k:Nat):yi (S.take k):=λv u=>h v (uS u)
def yi.snoc{S:List Int}{e:Int}(h:yi S)(B:eS e):yi (S++[e]):=λv u=>by
 rcases List.mem_append.1 u with u|u
 .exact h v u
 grind
theorem Xm{ns S:List Int}{x:n8}{many:Int}(E:yi ns)(u:yi S)(B:qJ many x=false):yi (kT ns S x):=by
 unfold qJ at B
 have B:=gL B
 unfold kT
 split
 .rename_i hw
  split
  .rw[n0]
   cases hh:ns[x.n.toNat]? with
   | none=>exact u.snoc iv
   | some e=>grind[yi]
  refine u.snoc ?_
  unfold eA at hw
  unfold eS
  omega
 split
 .exact(u.take _).snoc Xl
 exact(u.take _).snoc (Xk (Lp (u.take _)))
def cU(ns:List ByteArray)(s:ByteArray):Int:=rS (λy=>decide (y=s)) ns
def iQ(p:cE):List cG:=p.lines.flatten++p.iJ
structure PS(p:cE):Prop where
 lines:p.lines.length<=500
 line:∀l∈p.lines,l.length<=500
 iJ:p.iJ.length<=500
 eE:p.eE.length<=500
 threads:p.threads.length<=500
 recover:p.recover.length<=500
 dX:p.dX.length<=500
 dN:∀t∈p.threads++p.recover,t.dN.length<=500
 body:∀t∈p.threads++p.recover,t.body.length<=500
theorem cY{ls:List (List cG)}(h:∀l∈ls,l.length<=500):ls.flatten.length<=500*ls.length:=by
 induction ls with
 | nil=>simp
 | cons a ls u=>
  grind
def kF{p:cE}(h:PS p):(iQ p).length<=250500:=by
 have h1:=cY h.line
 have h2:=h.lines
 have h3:=h.iJ
 grind[iQ]
theorem T9{α:Type}{ls:List (List α)}{k:Nat}{l:List α}(h:ls[k]?=some l):(ls.take k).flatten++l=(ls.take (k+1)).flatten:=by rw[<- gG h,List.flatten_append];simp
theorem gI{α β:Type}{f:α->β}{l:List α}{k:Nat}{e:α}(h:l[k]?=some e):(l.take k).map f++[f e]=(l.take (k+1)).map f:=by rw[<- gG h,u1];rfl
def C123(lv:Value)(ns:List ByteArray)(q:ByteArray)(w:World)(J:dz (λ_=>True) w lv ns)(V:ns.length<=1048576):CR 123 [lv,.string q] w (λv w'=>v=hH (cU ns q)/\Ext w w'):=by
 have u:=St.start w;refine eU Tryz.func123 ?_;refine⟨λm x I=>∃k:Nat,x=hH (k:Int)/\m=ns.length-k/\k<=ns.length/\(∀y∈ns.take k,decide (y=q)=false)/\St w aY [] I,⟨_,0,rfl,rfl,kO _,ea,u⟩,?_⟩;rintro m _ I ⟨k,rfl,rfl,U,B,u⟩ _;refine aH ix (J.ext u.aF) (aO (aC (λW=>?_) λ_=>⟨ez (mn .i64) (iT (by rw[kp bL]at B;exact B)).symm,u.aF⟩));obtain⟨O,E⟩:=gx ns (i:=(k:Int).toNat) bL;exact aM ix (J.ext u.aF) bL E (λ_ M=>aE gn M (iG (aC (λG=>⟨ez (mn .i64) (lM B E (ei G)).symm,u.aF⟩) λG=>aJ bL ⟨ns.length-(k+1),bL,k+1,rfl,rfl,bL,dS B E (ej G),u⟩)))
def C202(lv:Value)(cs:List cG)(w:World)(G:dz (λ_=>True) w lv cs)(Y:cs.length<=1048576):CR 202 [lv] w (λv w'=>kZ (bF v (cs.map cG.name)) w w'):=by
 have u:=St.start w;refine eU Tryz.func202 ?_;refine aW ([]:List ByteArray) u ix rfl rfl (dM rfl) (λOU B u=>?_);refine⟨λm y x B=>∃k:Nat,x=hH (k:Int)/\m=cs.length-k/\k<=cs.length/\St w aY [bF y ((cs.take k).map cG.name)] B,⟨_,0,rfl,rfl,bL,u⟩,?_⟩;rintro m Z _ _ ⟨k,rfl,rfl,W,u⟩ _;have V:((cs.take k).map cG.name).length=k:=by rw[List.length_map,lQ];omega
 refine aH ie (G.ext u.aF) (aO (aC (λO=>?_) λO=>?_))
 .obtain⟨I,E⟩:=gx cs (i:=(k:Int).toNat) bL;refine aM ie (G.ext u.aF) bL E (λ_ M=>bW I.name kx M rfl rfl λ_ U=>aE gn U (aW ([I.name]) u ix rfl rfl (dM rfl) λXn _ u=>?_));have J:=u.dQ;exact bJ u.p1 ix J (by simp<;>omega) cZ (λ_ _ u=>have u:=u.p1.drop;aJ bL ⟨_,bL,k+1,rfl,rfl,bL,by rw[<- gI (k:=k) E];exact u⟩)
 rw[kp bL]at u;exact u.fresh
def C59(p:cE)(pv:bM)(w:World)(hp:Deep.dr w pv p)(B:PS p):CR 59 [hM pv] w (λv w'=>kZ (bF v (iQ p)) w w'):=by
 obtain⟨bH,bR,bI,aT,aU,bE,rfl,cO,dA,cW,cA,cB,cN⟩:=hp;have u:=St.start w;refine eU Tryz.func59 ?_;refine cJ u (λj5 w1 u=>aW ([]:List cG) u ie rfl rfl (dM rfl) λOU _ u=>?_);refine⟨λm y x w1=>∃k:Nat,x=hH (k:Int)/\m=p.lines.length-k/\k<=p.lines.length/\St w aY [bF y (p.lines.take k).flatten,bZ j5 (ia (⟨bH,bR,bI,aT,aU,bE⟩:bM))] w1,⟨_,0,rfl,rfl,bL,u⟩,?_⟩;rintro m oL _ _ ⟨k,rfl,rfl,hk,u⟩ _;have Ua:=B.lines;refine aA gq (aB oz u.p1.hb rfl ?_)
 obtain⟨Xo,G,E⟩:=cO.open;have Xp:=E.1;refine aH pj (G.ext u.aF) (aO (aC (λgT=>?_) λgT=>?_))
 .refine aA gq (aB oz u.p1.hb rfl ?_);obtain⟨U,Xq⟩:=gx Xo (i:=(k:Int).toNat) bL;obtain⟨M,J⟩:=gx p.lines (i:=(k:Int).toNat) bL;have W:DL w (hM U) M:=E.2 _ _ _ Xq J;refine aM pj (G.ext u.aF) bL Xq (λ_ Lq=>aE jw Lq ?_);have Z:=DL.flat W;have BG:=B.line _ (j0 J);have O:=cY (ls:=p.lines.take k) (λl V=>B.line l (uS V));rw[lQ]at O;have Ua:=B.lines;have nL:=(Z.ext u.aF);exact bJ u ie nL bL cZ (λ_ _ u=>aJ bL ⟨_,bL,k+1,rfl,rfl,bL,by rw[<- T9 (k:=k) J];exact u⟩)
 refine aA pK (aB jw u.p1.hb rfl ?_);have I:=DL.flat dA;have O:=cY (ls:=p.lines.take k) (λl V=>B.line l (uS V));rw[lQ]at O;have Ua:=B.lines;have hz2:=B.iJ;have Y:=(I.ext u.aF);refine bJ u ie Y bL cZ (λaop _ u=>?_);rw[kp bL]at u;exact u.p1.drop.fresh
def kids(k:Int):Int:=if k=1\/k=2 then 0 else if k=3\/k=4 then 1 else if 5<=k/\k<=15 then 2 else -1
def tI(k:Int) : -1<=kids k/\kids k<=2:=by
 grind[kids]
def gw(c:Int):Bool:=decide (97<=c/\c<=122\/c=95)
def j6(c:Int):Bool:=decide (48<=c/\c<=57)
def jD:List ByteArray:=[⟨#[108,105,110,101]⟩,⟨#[118,111,108]⟩,⟨#[108,111,99,107]⟩,⟨#[116,104,114,101,97,100]⟩,⟨#[114,101,103]⟩,⟨#[108,111,97,100]⟩,⟨#[115,116,111,114,101]⟩,⟨#[99,97,115]⟩,⟨#[102,108,117,115,104]⟩,⟨#[111,112,116]⟩,⟨#[115,102,101,110,99,101]⟩,⟨#[109,102,101,110,99,101]⟩,⟨#[116,97,107,101]⟩,⟨#[103,105,118,101]⟩,⟨#[105,102]⟩,⟨#[101,108,115,101]⟩,⟨#[108,111,111,112]⟩,⟨#[98,114,101,97,107]⟩,⟨#[99,104,101,99,107]⟩,⟨#[114,101,99,111,118,101,114]⟩,⟨#[97,108,119,97,121,115]⟩]
def gJ(s:ByteArray):Bool:=!(decide (s.size<1\/16<s.size)||(match (iI s)[0]? with|some c=>!gw c.toNat|none=>true)||jD.any λy=>decide (y=s))&&!(iI s).any (λc=>!gw c.toNat&&!j6 c.toNat)
def skip:Nat->List bY->Option (List bY)
 | 0,l=>some l
 | _+1,[]=>none
 | n+1,x::l=>if kids x.op<0 then none else skip (n+(kids x.op).toNat) l
theorem yY(l:List bY):skip 0 l=some l:=by cases l<;>rfl
theorem En(l:List bY):∀a b,skip (a+b) l=(skip a l).bind (skip b):=by
 induction l with
 | nil=>
  intro a b
  cases a with
  | zero=>rw[ta,yY];rfl
  | succ a=>grind[skip]
 | cons x l u=>
  intro a b
  cases a with
  | zero=>rw[ta,yY];rfl
  | succ a=>
   grind[skip]
theorem Eo(l:List bY):∀n r,skip n l=some r->r=l.drop (l.length-r.length)/\r.length+min n 1<=l.length:=by
 induction l with
 | nil=>
  intro n r h
  cases n with
  | zero=>rw[yY]at h;grind
  | succ n=>cases h
 | cons x l u=>
  intro n r h
  cases n with
  | zero=>rw[yY]at h;simp_all
  | succ n=>
   have h:(if kids x.op<0 then none else skip (n+(kids x.op).toNat) l)=some r:=h
   split at h
   .cases h
   .obtain⟨h1,h2⟩:=u _ _ h
    refine⟨?_,cH⟩
    rw[show(x::l).length-r.length=(l.length-r.length)+1 from cH]
    exact h1
def CU(n:Nat)(o:Option (List bY)):Int:=match o with|some r=>(n:Int)-r.length|none=>-1
def qc(xs:List bY)(i:Int):Int:=if i<0 then -1 else CU xs.length (skip 1 (xs.drop i.toNat))
def Xr{xs:List bY}{i:Int}{x:bY}(I:0<=i)(u:xs[i.toNat]?=some x)(G:0<=kids x.op):qc xs i=CU xs.length (skip (kids x.op).toNat (xs.drop (i.toNat+1))):=by
 unfold qc
 obtain⟨E,B⟩:=ir.1 u
 rw[eb bL,qH E,B]
 show CU _ (if kids x.op<0 then none else skip (0+(kids x.op).toNat) _)=_
 grind
theorem acS{xs:List bY}{i:Int}{x:bY}(I:0<=i)(u:xs[i.toNat]?=some x)(G:kids x.op<0):qc xs i = -1:=by
 unfold qc
 obtain⟨E,B⟩:=ir.1 u
 rw[eb bL,qH E,B]
 grind[CU,skip]
theorem acT{xs:List bY}{i:Int}(h:i<0\/xs.length<=i):qc xs i = -1:=by
 unfold qc
 split
 .rfl
 rw[pC bL];rfl
theorem aoq{xs:List bY}{j k:Nat}{a:Int}(h:CU xs.length (skip k (xs.drop j))=a)(B:0<=a):qc xs a=CU xs.length (skip (k+1) (xs.drop j))/\((j:Int)<=a\/xs.length<=a):=by
 cases hs:skip k (xs.drop j)with
 | none=>rw[hs]at h;unfold CU at h;simp only[]at h;omega
 | some r=>
  rw[hs]at h
  have h:(xs.length:Int)-r.length=a:=h
  obtain⟨h1,h2⟩:=Eo _ _ _ hs
  rw[pd]at h1 h2
  rw[En,hs]
  show _=CU _ (skip 1 r)/\_
  refine⟨?_,bL⟩
  unfold qc
  rw[eb bL]
  by_cases u:j<=xs.length
  .have:xs.drop a.toNat=r:=by
    rw[h1,sm,show j+(xs.length-j-r.length)=a.toNat from bL]
   rw[this]
  .have:r=[]:=qa.1 bL
   subst this
   rw[pC (by simp at h;omega)]
theorem air{xs l:List bY}{k j:Nat}(B:l.length<=xs.length)(h:¬ 0<=CU xs.length (skip k l))(u:k<=j):CU xs.length (skip k l)=CU xs.length (skip j l):=by
 cases hs:skip k l with
 | none=>rw[show j=k+(j-k)from bL,En,hs];rfl
 | some r=>
  obtain⟨_,h2⟩:=Eo _ _ _ hs
  rw[hs]at h;unfold CU at h;simp only[]at h;omega
theorem avT{xs l:List bY}{k:Nat}(u:l.length<=xs.length) : -1<=CU xs.length (skip k l)/\CU xs.length (skip k l)<=xs.length:=by
 cases hs:skip k l with
 | none=>unfold CU;simp only[];omega
 | some r=>
  obtain⟨_,h2⟩:=Eo _ _ _ hs
  unfold CU;simp only[];omega
def C273(k:Int)(w:World):CR 273 [hH k] w (λv w'=>v=hH (kids k)/\Ext w w'):=by
 have E:=St.start w;refine eU Tryz.func273 ?_;refine⟨λB w'=>B=.bool (decide (k=1\/k=2))/\w=w',aG (aC (λ_=>⟨Ko bL,rfl⟩) λ_=>aG ⟨xB bL,rfl⟩),?_⟩;rintro _ _ ⟨rfl,u⟩ _;subst u;refine aC (λI=>?_) (λI=>⟨λB w'=>B=.bool (decide (k=3\/k=4))/\w=w',aG (aC (λ_=>⟨Ko bL,rfl⟩) λ_=>aG ⟨xB bL,rfl⟩),?_⟩)
 .unfold kids;exact⟨ez (mn .i64) cH,E.aF⟩
 rintro _ _ ⟨rfl,u⟩ _;subst u;refine aC (λJ=>?_) (λJ=>⟨λB w'=>B=.bool (decide (5<=k/\k<=15))/\w=w',cR (aC (λ_=>ga ⟨xB bL,rfl⟩) λ_=>⟨Wf bL,rfl⟩),?_⟩)
 .unfold kids;exact⟨ez (mn .i64) cH,E.aF⟩
 rintro _ _ ⟨rfl,u⟩ _;subst u;refine aC (λG=>?_) (λG=>?_)
 .unfold kids;exact⟨ez (mn .i64) cH,E.aF⟩
 unfold kids;exact⟨ez (mn .i64) cH,E.aF⟩
def C206(c:Int)(w:World):CR 206 [.int .u8 c] w (λv w'=>v=.bool (gw c)/\Ext w w'):=by
 have u:=St.start w;refine eU Tryz.func206 ?_;refine⟨λE w'=>E=.bool (decide (97<=c/\c<=122\/c=95))/\w=w',Ao (aC (λ_=>An (aC (λ_=>⟨Ko bL,rfl⟩) λ_=>nu ⟨xB bL,rfl⟩)) λ_=>nu ⟨xB bL,rfl⟩),?_⟩;rintro _ _ ⟨rfl,B⟩ _;subst B;exact⟨rfl,u.aF⟩
def C207(c:Int)(w:World):CR 207 [.int .u8 c] w (λv w'=>v=.bool (j6 c)/\Ext w w'):=by
 have u:=St.start w;refine eU Tryz.func207 ?_;refine⟨λE w'=>E=.bool (decide (48<=c/\c<=57))/\w=w',Ao (aC (λ_=>An ⟨xB bL,rfl⟩) λ_=>⟨Wf bL,rfl⟩),?_⟩;rintro _ _ ⟨rfl,B⟩ _;subst B;exact⟨rfl,u.aF⟩
def C255(s:ByteArray)(w:World):CR 255 [.string s] w (λv w'=>v=.bool (jD.any λy=>decide (y=s))/\Ext w w'):=by
 have u:=St.start w;refine eU Tryz.func255 ?_;refine aW jD u ix rfl rfl (dM rfl) (λO I u=>?_);refine⟨λm x I=>∃k:Nat,x=hH (k:Int)/\m=jD.length-k/\k<=jD.length/\(∀y∈jD.take k,decide (y=s)=false)/\St w aY [bF O jD] I,⟨_,0,rfl,rfl,kO _,ea,u⟩,?_⟩;rintro m _ _ ⟨k,rfl,rfl,V,G,u⟩ _;have W:jD.length=21:=rfl;refine aH ix u.dQ (aO (aC (λM=>?_) λM=>?_))
 .skip;obtain⟨U,B⟩:=gx jD (i:=(k:Int).toNat) bL;exact dJ u ix bL bL (λ_ J=>fV u gn J B (iG (aC (λE=>⟨vb (gZ B (ei E)).symm,u.aF⟩) λE=>aJ bL ⟨_,bL,k+1,rfl,rfl,bL,dS G B (ej E),u⟩)))
 rw[kp bL]at G;exact⟨vb (iq G).symm,u.aF⟩
def C211(s:ByteArray)(w:World)(hn:s.size<=1048576):CR 211 [.string s] w (λv w'=>v=.bool (gJ s)/\Ext w w'):=by
 have u:=St.start w;refine eU Tryz.func211 ?_;refine⟨λE w'=>E=.bool (decide (s.size<1\/16<s.size)||(match (iI s)[0]? with|some c=>!gw c.toNat|none=>true)||jD.any λy=>decide (y=s))/\St w aY [] w',fb ic (aO (aC (λ_=>⟨vb cH,u⟩) λpk=>fb ic (cP (aC (λ_=>⟨vb cH,u⟩) λgT=>?_)))),?_⟩
 .obtain⟨Z,V⟩:∃G,(iI s)[(0:Int).toNat]?=some G:=⟨_,kE (by rw[eV];omega)⟩;exact jH ic bL V (aS Rt u (C206 _ _) λ_ _ u=>bP (aX (λ_=>⟨vb cH,u⟩) λ_=>aS anr u (C255 _ _) λ_ _ u=>⟨vb cH,u⟩))
 rintro _ _ ⟨rfl,u⟩ _;refine aX (λI=>?_) (λI=>?_)
 .refine⟨vb ?_,u.aF⟩;unfold gJ;rw[I];rfl
 refine⟨λm x U=>∃k:Nat,x=hH (k:Int)/\m=(iI s).length-k/\k<=(iI s).length/\(∀y∈(iI s).take k,(!gw y.toNat&&!j6 y.toNat)=false)/\St w aY [] U,⟨_,0,rfl,rfl,kO _,ea,u⟩,?_⟩;rintro m _ _ ⟨k,rfl,rfl,W,J,u⟩ _;rw[eV]at W;have GW:=eV s;refine fb ic (aO (aC (λY=>?_) λY=>?_))
 .obtain⟨O,B⟩:∃G,(iI s)[(k:Int).toNat]?=some G:=⟨_,kE (by rw[eV];omega)⟩;refine⟨λE w'=>E=.bool (!gw O.toNat&&!j6 O.toNat)/\St w aY [] w',jH ic bL B (aS Rt u (C206 _ _) λ_ _ u=>bP (aX (λ_=>jH ic bL B (aS Ru u (C207 _ _) λ_ _ u=>bP ⟨vb cH,u⟩)) λ_=>⟨vb cH,u⟩)),?_⟩;rintro _ _ ⟨rfl,u⟩ _;refine aX (λM=>?_) (λM=>aJ bL ⟨_,bL,k+1,rfl,rfl,bL,dS J B (by simpa using M),u⟩);refine⟨vb ?_,u.aF⟩;unfold gJ;rw[gZ B M];simp
 rw[kp bL]at J;refine⟨vb ?_,u.aF⟩;unfold gJ;rw[iq J]
 revert I
 cases (decide (s.size<1\/16<s.size)||(match (iI s)[0]? with|some c=>!gw c.toNat|none=>true)||jD.any λy=>decide (y=s))<;>simp
theorem C251(lv:Value)(xs:List bY)(i:Int)(N:Nat)(w:World)(E:dz (λ_=>True) w lv xs)(hn:xs.length<=1048576)(hi : -9223372036854775808<=i)(hN:(xs.length:Int)-i<N):CR 251 [lv,hH i] w (λv w'=>v=hH (qc xs i)/\Ext w w'):=by
 have u:=St.start w;refine eU Tryz.func251 ?_;refine⟨λG w'=>G=.bool (decide (i<0\/(xs.length:Int)<=i)||(match xs[i.toNat]? with|some x=>decide (kids x.op<0)|none=>true))/\St w aY [] w',aO (aC (λ_=>⟨vb cH,u⟩) λfN=>aH gV (E.ext u.aF) (cR (aC (λ_=>⟨vb cH,u⟩) λwD=>?_))),?_⟩
 .obtain⟨qd,gQ⟩:=gx xs (i:=(i).toNat) bL;exact aM gV (E.ext u.aF) bL gQ (λ_ V=>bW qd.op eX V rfl rfl λ_ W=>aE bO W (aS Ky u (C273 _ _) λ_ _ u=>aO ⟨vb cH,u⟩))
 rintro _ _ ⟨rfl,u⟩ _;refine aX (λ_=>⟨ez (mn .i64) (by grind[acT,acS]),u.aF⟩) (λmR=>?_);have h23:¬ (i<0\/(xs.length:Int)<=i):=cH
 obtain⟨B,J⟩:=gx xs (i:=(i).toNat) bL;have Z:0<=kids B.op:=cH
 have Xs:=tI B.op;have VK:=Xr bL J Z;refine aJ bL ?_;refine⟨λm y x O=>∃(k:Nat) (a:Int),x=hH (k:Int)/\y=hH a/\m=(kids B.op).toNat-k/\k<=(kids B.op).toNat/\CU xs.length (skip k (xs.drop (i.toNat+1)))=a/\St w aY [] O,⟨_,0,i+1,rfl,rfl,rfl,bL,by rw[yY];unfold CU;simp only[pd];omega,u⟩,?_⟩;rintro m _ _ _ ⟨k,a,rfl,rfl,rfl,hk,M,u⟩ _;have I:=avT (xs:=xs) (l:=xs.drop (i.toNat+1)) (k:=k) (by rw[pd];omega);rw[M]at I;refine⟨λG w'=>G=.bool (decide ((k:Int)<kids B.op/\0<=a))/\St w aY [] w',aM gV (E.ext u.aF) bL J (λ_ AA=>bW B.op eX AA rfl rfl λ_ Y=>aE bO Y (aS Ky u (C273 _ _) λ_ _ u=>aO (aC (λ_=>cR ⟨vb cH,u⟩) λ_=>⟨vb cH,u⟩))),?_⟩
 rintro _ _ ⟨rfl,u⟩ _;refine aC (λoM=>?_) (λ_=>⟨ez (mn .i64) (by have:=air (xs:=xs) (l:=xs.drop (i.toNat+1)) (k:=k) (j:=(kids B.op).toNat) (by rw[pd];omega);rw[VK];by_cases h0:0<=a<;>grind),u.aF⟩);have U:=aoq M bL;exact aS Kw u (C251 _ _ _ (N-1) _ (E.ext u.aF) hn bL bL) (λ_ _ u=>aJ bL ⟨_,bL,k+1,_,rfl,rfl,rfl,bL,U.1.symm,u⟩)
termination_by N
decreasing_by omega
inductive Ex where
 | leaf (x:bY)
 | un (x:bY) (a:Ex)
 | bin (x:bY) (a b:Ex)
namespace Ex
def root:Ex->bY|leaf x=>x|un x _=>x|bin x _ _=>x
def eu:Ex->List Ex|leaf _=>[]|un _ a=>[a]|bin _ a b=>[a,b]
def flat:Ex->List bY|leaf x=>[x]|un x a=>x::a.flat|bin x a b=>x::(a.flat++b.flat)
def wf:Ex->Prop|leaf x=>kids x.op=0|un x a=>kids x.op=1/\a.wf|bin x a b=>kids x.op=2/\a.wf/\b.wf
def depth:Ex->Int|leaf _=>1|un _ a=>a.depth+1|bin _ a b=>max a.depth b.depth+1
def size:Ex->Nat|leaf _=>1|un _ a=>a.size+1|bin _ a b=>a.size+b.size+1
def numOf(ns:List ByteArray)(x:bY):Int:=if x.op=2 then cU ns x.name else x.n
def steps(ns:List ByteArray):Ex->List n8
 | leaf x=>[⟨x.op,numOf ns x⟩]
 | un x a=>a.steps ns++[⟨x.op,numOf ns x⟩]
 | bin x a b=>a.steps ns++b.steps ns++[⟨x.op,numOf ns x⟩]
end Ex
theorem Ex.cY(t:Ex):t.flat.length=t.size:=by
 induction t with
 | leaf x=>rfl
 | un x a E=>simp[Ex.flat,Ex.size,E]
 | bin x a b u B=>simp[Ex.flat,Ex.size,u,B]
theorem Ex.GX(t:Ex):t.flat=t.root::(t.eu.map Ex.flat).flatten:=by
 cases t<;>simp[Ex.flat,Ex.root,Ex.eu]
theorem Ex.oN{t:Ex}(h:t.wf):kids t.root.op=t.eu.length:=by
 cases t with
 | leaf x=>exact h
 | un x a=>exact h.1
 | bin x a b=>exact h.1
theorem Ex.tJ{t a:Ex}(h:t.wf)(u:a∈t.eu):a.wf/\a.size<t.size:=by
 cases t with
 | leaf x=>cases u
 | un x b=>rw[sM.1 u];exact⟨h.2,by simp[Ex.size]⟩
 | bin x b c=>
  rcases List.mem_cons.1 u with rfl|u
  .grind[wf,size]
  grind[wf,size]
theorem Ex.qZ(t:Ex):1<=t.depth/\t.depth<=t.size:=by
 induction t with
 | leaf x=>simp[Ex.depth,Ex.size]
 | un x a E=>simp only[Ex.depth,Ex.size];omega
 | bin x a b u B=>simp only[Ex.depth,Ex.size];omega
theorem Ex.pq(ns:List ByteArray)(t:Ex):(t.steps ns).length=t.size:=by
 induction t with
 | leaf x=>rfl
 | un x a u=>simp[Ex.steps,Ex.size,u]
 | bin x a b B E=>grind[steps,size]
theorem Ub(t:Ex)(h:t.wf):∀n r,skip (n+1) (t.flat++r)=skip n r:=by
 induction t with
 | leaf x=>
  intro n r
  show(if kids x.op<0 then none else skip (n+(kids x.op).toNat) r)=_
  rw[show kids x.op=0 from h];rfl
 | un x a E=>
  intro n r
  show(if kids x.op<0 then none else skip (n+(kids x.op).toNat) (a.flat++r))=_
  rw[show kids x.op=1 from h.1,eb bL];exact E h.2 n r
 | bin x a b u B=>
  intro n r
  show(if kids x.op<0 then none else skip (n+(kids x.op).toNat) (a.flat++b.flat++r))=_
  rw[show kids x.op=2 from h.1,eb bL,mX]
  show skip (n+1+1) _=_
  rw[u h.2.1 (n+1),B h.2.2 n]
theorem R4:∀(k:Nat) (l r:List bY),l.length<=k->skip 1 l=some r->∃t:Ex,t.wf/\l=t.flat++r
 | k,[],r,_,h=>by cases h
 | 0,x::l,r,u,_=>by simp at u
 | k+1,x::l,r,u,h=>by
  have u:l.length<=k:=cH
  have h:(if kids x.op<0 then none else skip (0+(kids x.op).toNat) l)=some r:=h
  have hb:=tI x.op
  split at h
  .cases h
  .rcases(show kids x.op=0\/kids x.op=1\/kids x.op=2 by omega)with h0|h0|h0
   .rw[h0]at h
    have h:skip 0 l=some r:=h
    rw[yY]at h;cases h
    exact⟨.leaf x,h0,rfl⟩
   .rw[h0]at h
    obtain⟨a,B,rfl⟩:=R4 k l r u h
    exact⟨.un x a,⟨h0,B⟩,rfl⟩
   .rw[h0]at h
    have h:skip (1+1) l=some r:=h
    rw[En]at h
    obtain⟨m,h1,h2⟩:=Na.1 h
    obtain⟨a,B,rfl⟩:=R4 k l m u h1
    obtain⟨b,E,rfl⟩:=R4 k m r cH h2
    exact⟨.bin x a b,⟨h0,B,E⟩,by simp[Ex.flat]⟩
def Bn(xs:List bY)(i:Int)(t:Ex):Prop:=0<=i/\t.wf/\∃r,xs.drop i.toNat=t.flat++r
def Bn.root{xs:List bY}{i:Int}{t:Ex}(h:Bn xs i t):xs[i.toNat]?=some t.root/\i<xs.length:=by
 obtain⟨u,_,r,h⟩:=h
 have:(xs.drop i.toNat)[0]?=some t.root:=by rw[h,Ex.GX];rfl
 rw[H5,Lm]at this
 exact⟨this,by have:=(ir.1 this).1;omega⟩
def Bn.end{xs:List bY}{i:Int}{t:Ex}(h:Bn xs i t):qc xs i=i+t.size/\i+t.size<=xs.length:=by
 have G:=h.root.2
 obtain⟨E,u,r,h⟩:=h
 have B:=ez List.length h
 rw[pd,kH,Ex.cY]at B
 refine⟨?_,bL⟩
 unfold qc
 rw[eb bL,h,Ub t u 0 r,yY]
 unfold CU;grind
theorem Bn.of{xs:List bY}{i:Int}(h:0<=qc xs i):∃t,Bn xs i t:=by
 unfold qc at h
 split at h
 .omega
 cases hs:skip 1 (xs.drop i.toNat)with
 | none=>rw[hs]at h;unfold CU at h;simp only[]at h;omega
 | some r=>
  obtain⟨t,B,u⟩:=R4 _ _ r (o5 _) hs
  exact⟨t,bL,B,r,u⟩
def qe(ks:List Ex)(k:Nat):Nat:=((ks.take k).map Ex.size).sum
theorem uu{ks:List Ex}{k:Nat}{a:Ex}(h:ks[k]?=some a):qe ks (k+1)=qe ks k+a.size:=by
 unfold qe;rw[<- gG h];simp
def Bn.kid{xs:List bY}{i:Int}{t a:Ex}{k:Nat}(h:Bn xs i t)(u:t.eu[k]?=some a):Bn xs (i+1+qe t.eu k) a:=by
 obtain⟨M,G,r,h⟩:=h
 refine⟨bL,(Ex.tJ G (j0 u)).1,?_⟩
 have E:t.eu=t.eu.take k++a::t.eu.drop (k+1):=by
  obtain⟨J,B⟩:=ir.1 u
  rw[<- B,Ln,o1]
 have I:(((t.eu.take k).map Ex.flat).flatten).length=qe t.eu k:=by
  unfold qe
  rw[Zq,GG]
  congr 2
  exact funext λx=>Ex.cY x
 have h2:xs.drop (i.toNat+1)=((t.eu.take k).map Ex.flat).flatten++(a.flat++(((t.eu.drop (k+1)).map Ex.flat).flatten++r)):=by
  rw[<- sm,h,Ex.GX t]
  show(t.eu.map Ex.flat).flatten++r=_
  conv=>lhs;rw[E]
  simp
 refine⟨((t.eu.drop (k+1)).map Ex.flat).flatten++r,?_⟩
 rw[show(i+1+(qe t.eu k:Int)).toNat=i.toNat+1+qe t.eu k from bL,<- sm,h2,<- I,List.drop_left]
def CV(ks:List Ex)(k:Nat):Int:=((ks.take k).map Ex.depth).foldl max 0
theorem BH{ks:List Ex}{k:Nat}{a:Ex}(h:ks[k]?=some a):CV ks (k+1)=max (CV ks k) a.depth:=by
 unfold CV;rw[<- gG h,u1,CK];rfl
theorem OW{ks:List Ex}{N:Int}(u:0<=N)(h:∀a∈ks,a.depth<=N):∀k,0<=CV ks k/\CV ks k<=N
 | 0=>by simp[CV,u]
 | k+1=>by
  have B:=OW u h k
  cases hx:ks[k]? with
  | none=>
   have e:ks.take (k+1)=ks.take k:=by rw[tK,hx];simp
   unfold CV at *;grind
  | some a=>rw[BH hx];grind
theorem Ex.Ls(t:Ex):t.depth=CV t.eu t.eu.length+1:=by
 cases t with
 | leaf x=>rfl
 | un x a=>have:=a.qZ;grind[depth,CV,eu]
 | bin x a b=>have:=a.qZ;grind[depth,CV,eu]
def Xt(ns:List ByteArray)(ks:List Ex)(k:Nat):List n8:=((ks.take k).map (Ex.steps ns)).flatten
theorem Lt{ns:List ByteArray}{ks:List Ex}{k:Nat}{a:Ex}(h:ks[k]?=some a):Xt ns ks (k+1)=Xt ns ks k++a.steps ns:=by
 unfold Xt;rw[<- gG h];simp
def Dh{ns:List ByteArray}{ks:List Ex}{k:Nat}:(Xt ns ks k).length=qe ks k:=by
 unfold Xt qe
 rw[Zq,GG]
 congr 2
 exact funext λx=>Ex.pq ns x
theorem Ex.u5(ns:List ByteArray)(t:Ex):t.steps ns=Xt ns t.eu t.eu.length++[⟨t.root.op,Ex.numOf ns t.root⟩]:=by
 cases t<;>simp[Ex.steps,Ex.eu,Xt,Ex.root]
def pt:Nat->List bY->Option (Ex×List bY)
 | 0,_=>none
 | _+1,[]=>none
 | n+1,x::l=>
  if kids x.op=0 then some (.leaf x,l)else if kids x.op=1 then(match pt n l with|some p=>some (.un x p.1,p.2)|none=>none)
  else if kids x.op=2 then(match pt n l with|some p=>(match pt n p.2 with|some q=>some (.bin x p.1 q.1,q.2)|none=>none)|none=>none)else none
theorem acV(t:Ex)(h:t.wf):∀n r,t.size<=n->pt n (t.flat++r)=some (t,r):=by
 induction t with
 | leaf x=>
  intro n r u
  cases n with
  | zero=>simp[Ex.size]at u
  | succ n=>show(if kids x.op=0 then _ else _)=_;rw[ee (show kids x.op=0 from h)];rfl
 | un x a B=>
  intro n r u
  cases n with
  | zero=>simp[Ex.size]at u
  | succ n=>
   have h1:kids x.op=1:=h.1
   show(if kids x.op=0 then _ else if kids x.op=1 then(match pt n (a.flat++r)with|some p=>some (Ex.un x p.1,p.2)|none=>none)else _)=_
   rw[eb bL,ee h1,B h.2 n r (by simp[Ex.size]at u;omega)]
 | bin x a b E G=>
  intro n r u
  cases n with
  | zero=>simp[Ex.size]at u
  | succ n=>
   have h1:kids x.op=2:=h.1
   show(if kids x.op=0 then _ else if kids x.op=1 then _ else if kids x.op=2 then(match pt n (a.flat++b.flat++r)with|some p=>(match pt n p.2 with|some q=>some (Ex.bin x p.1 q.1,q.2)|none=>none)|none=>none)else _)=_
   rw[eb bL,eb bL,ee h1,mX,E h.2.1 n _ (by simp[Ex.size]at u;omega)]
   simp only[]
   rw[G h.2.2 n _ (by simp[Ex.size]at u;omega)]
def yZ(l:List bY):Option Ex:=match pt l.length l with|some p=>if p.2=[]then some p.1 else none|none=>none
def Uc{t:Ex}(h:t.wf):yZ t.flat=some t:=by
 unfold yZ
 have:=acV t h t.flat.length [] (by rw[Ex.cY];omega)
 grind
def Bn.zero{l:List bY}{t:Ex}(h:Bn l 0 t)(E:qc l 0=l.length):l=t.flat/\yZ l=some t:=by
 have h1:=h.end
 obtain⟨_,B,r,h⟩:=h
 have u:=ez List.length h
 rw[kH,Ex.cY]at u
 simp at u
 have:r=[]:=qa.1 bL
 subst this
 have h:l=t.flat:=cH
 exact⟨h,by rw[h];exact Uc B⟩
theorem AB:∀n l t r,pt n l=some (t,r)->t.wf/\l=t.flat++r
 | 0,l,t,r,h=>by cases h
 | n+1,[],t,r,h=>by cases h
 | n+1,x::l,t,r,h=>by
  have h:(if kids x.op=0 then some (Ex.leaf x,l)else if kids x.op=1 then(match pt n l with|some p=>some (Ex.un x p.1,p.2)|none=>none)
   else if kids x.op=2 then(match pt n l with|some p=>(match pt n p.2 with|some q=>some (Ex.bin x p.1 q.1,q.2)|none=>none)|none=>none)else none)=some (t,r):=h
  split at h
  .rename_i hk;cases h;exact⟨hk,rfl⟩
  .split at h
   .rename_i hk
    cases ha:pt n l with
    | none=>grind
    | some p=>
     rw[ha]at h
     obtain⟨a,m⟩:=p
     cases h
     obtain⟨h1,rfl⟩:=AB n l a _ ha
     exact⟨⟨hk,h1⟩,rfl⟩
   .split at h
    .rename_i hk
     cases ha:pt n l with
     | none=>grind
     | some p=>
      rw[ha]at h
      obtain⟨a,m⟩:=p
      simp only[]at h
      cases hb:pt n m with
      | none=>grind
      | some q=>
       rw[hb]at h
       obtain⟨b,u⟩:=q
       cases h
       obtain⟨h1,rfl⟩:=AB n l a _ ha
       obtain⟨h2,rfl⟩:=AB n m b _ hb
       exact⟨⟨hk,h1,h2⟩,by simp[Ex.flat]⟩
    .cases h
theorem u6{l:List bY}{t:Ex}(h:yZ l=some t):t.wf/\l=t.flat:=by
 unfold yZ at h
 cases hp:pt l.length l with
 | none=>grind
 | some p=>
  rw[hp]at h
  obtain⟨a,r⟩:=p
  simp only[]at h
  split at h
  .rename_i hr;cases h
   obtain⟨h1,h2⟩:=AB _ _ _ _ hp
   grind
  .cases h
theorem Er{l:List bY}:(yZ l).isSome=decide (qc l 0=l.length):=by
 by_cases h:qc l 0=l.length
 .obtain⟨t,ht⟩:=Bn.of (xs:=l) (i:=0) bL
  rw[(ht.zero h).2,ei h];rfl
 rw[ej h]
 cases he:yZ l with
 | none=>rfl
 | some t=>
  obtain⟨h1,rfl⟩:=u6 he
  exact absurd (by have:=(show Bn t.flat 0 t from⟨bL,h1,[],ea⟩).end.1;rw[this,Ex.cY];omega) h
def kP(x:bY):Bool:=decide (x.at_<0\/4000<x.at_)||decide (¬ x.op=1/\¬ x.n=0)||decide (¬ x.op=2/\¬ x.name=⟨#[]⟩)||decide (x.n<0\/4294967296<x.n)||(decide (x.op=2)&&!gJ x.name)
def R5(l:List bY):Int:=match yZ l with|some t=>t.depth|none=>0
def fw(l:List bY):Bool:=decide (l.length<=40)&&(yZ l).isSome&&!l.any kP&&decide (R5 l<=12)
def BI(ns:List ByteArray)(l:List bY):List n8:=match yZ l with|some t=>t.steps ns|none=>[]
def kG(ns:List ByteArray)(l:List bY):Int:=if fw l=false then 8 else if l.any (λx=>decide (x.op=2)&&decide (cU ns x.name<0))then 9 else 0
def qf(ns:List ByteArray)(l:List bY):List n8:=if kG ns l=0 then BI ns l else []
def y9{l:List bY}(h:fw l=true):qc l 0=l.length:=by
 unfold fw at h
 rw[Er]at h
 grind
theorem C252(lv:Value)(xs:List bY)(i:Int)(t:Ex)(N:Nat)(w:World)(G:dz (λ_=>True) w lv xs)(hn:xs.length<=1048576)(B:Bn xs i t)(hN:t.size<N):CR 252 [lv,hH i] w (λv w'=>v=hH t.depth/\Ext w w'):=by
 obtain⟨J,hq,rU⟩:∃e,e=t.root/\xs[(i).toNat]?=some e:=⟨_,rfl,B.root.1⟩;have V:=B.root.2;have hie:=B.end;have Z:=Ex.oN B.2.1;rw[<- hq]at Z;have Xs:=tI J.op;have hi0:=B.1;have u:=St.start w;refine ace _ _ _ _ ?_;unfold S252;refine aJ bL ?_;refine⟨λm n a x I=>∃k:Nat,n=hH (CV t.eu k)/\a=hH (i+1+qe t.eu k)/\x=hH (k:Int)/\m=t.eu.length-k/\k<=t.eu.length/\St w aY [] I,⟨_,0,rfl,ez (mn .i64) (by simp[qe]),rfl,rfl,bL,u⟩,?_⟩;rintro m _ _ _ I ⟨k,rfl,rfl,rfl,rfl,hk,u⟩ _;have hdk:=OW (ks:=t.eu) (N:=(t.size:Int)) bL (λa O=>by have:=(Ex.tJ B.2.1 O).2;have:=a.qZ;omega) k
 refine aM gV (G.ext u.aF) bL rU (λ_ W=>bW J.op eX W rfl rfl λ_ Y=>aE bO Y (aS Ky u (C273 _ _) λ_ he u=>aO (aC (λjW=>?_) λ_=>aJ bL ⟨ez (mn .i64) (by rw[t.Ls,show k=t.eu.length from bL]),u.aF⟩)));obtain⟨a,E⟩:=gx t.eu (i:=k) bL;have U:=Ex.tJ B.2.1 (j0 E);have M:=B.kid E;have VL:=M.end;have Ue:=a.qZ;exact aS Wm u (C252 _ _ _ _ (N-1) _ (G.ext u.aF) hn M bL) (λ_ _ u=>De (aS Kw u (C251 _ _ _ (xs.length+1) _ (G.ext u.aF) bL bL bL) λ_ _ u=>aJ bL ⟨_,bL,k+1,by rw[BH E],ez (mn .i64) (by rw[VL.1,uu E];omega),rfl,rfl,bL,u⟩))
termination_by N
decreasing_by omega
def C200(lv:Value)(xs:List bY)(w:World)(E:dz (λ_=>True) w lv xs)(hn:xs.length<=1048576)(G:∀x∈xs,x.name.size<=1048576):CR 200 [lv] w (λv w'=>v=.bool (fw xs)/\Ext w w'):=by
 have u:=St.start w;refine eU Tryz.func200 ?_;refine⟨λJ w'=>J=.bool (decide (40<xs.length)||decide (¬ qc xs 0=xs.length))/\St w aY [] w',aH gV (E.ext u.aF) (cP (aC (λ_=>⟨vb cH,u⟩) λ_=>aS Kw u (C251 _ _ _ (xs.length+1) _ (E.ext u.aF) bL bL bL) λ_ _ u=>aH gV (E.ext u.aF) (bT ⟨vb cH,u⟩))),?_⟩;rintro _ _ ⟨rfl,u⟩ _;refine aX (λjC=>?_) (λjC=>?_)
 .refine⟨vb ?_,u.aF⟩;unfold fw;rw[Er]
  grind
 refine⟨λm x W=>∃k:Nat,x=hH (k:Int)/\m=xs.length-k/\k<=xs.length/\(∀y∈xs.take k,kP y=false)/\St w aY [] W,⟨_,0,rfl,rfl,kO _,ea,u⟩,?_⟩;rintro m _ _ ⟨k,rfl,rfl,hk,U,u⟩ _;refine aH gV (E.ext u.aF) (aO (aC (λlz=>?_) λlz=>?_))
 .obtain⟨V,B⟩:=gx xs (i:=(k:Int).toNat) bL;refine aM gV (E.ext u.aF) bL B (λ_ qh=>aE rI qh (aQ u xH λOX _ u=>aK (x:=V) u rI rfl rfl λ_ u=>⟨λJ w'=>J=.bool (kP V)/\St w aY [] w',aA rJ (aB bO u.hb rfl (aO (aC (λ_=>⟨vb (by unfold kP;grind),u.drop⟩) λlx=>aA rJ (aB bO u.hb rfl (cP (aC (λ_=>⟨vb (by unfold kP;grind),u.drop⟩) λlO=>?_)))))),?_⟩))
  .refine aA eX (aB bO u.hb rfl (bT (aC (λZ=>aA ja (aB bO u.hb rfl (bT (aC (λ_=>⟨vb (by unfold kP;grind),u.drop⟩) λwE=>aA eX (aB bO u.hb rfl (bT (aC (λY=>aA gh (aB gn u.hb rfl (lJ (aC (λ_=>⟨vb (by unfold kP;grind),u.drop⟩) λLu=>?_)))) λY=>?_))))))) λZ=>?_)))
   .refine aA ja (aB bO u.hb rfl (aO ?_));exact aC (λ_=>⟨vb (by unfold kP;grind),u.drop⟩) (λ_=>aA ja (aB bO u.hb rfl (cP (aC (λ_=>⟨vb (by unfold kP;grind),u.drop⟩) λ_=>aA eX (aB bO u.hb rfl (aG (aC (λ_=>aA gh (aB gn u.hb rfl (aS uc u (C211 _ _ (G _ (j0 B))) λ_ _ u=>bP ⟨vb (by unfold kP;grind),u.drop⟩))) λ_=>⟨vb (by unfold kP;grind),u.drop⟩)))))))
   .refine aA ja (aB bO u.hb rfl (aO ?_));exact aC (λ_=>⟨vb (by unfold kP;grind),u.drop⟩) (λ_=>aA ja (aB bO u.hb rfl (cP (aC (λ_=>⟨vb (by unfold kP;grind),u.drop⟩) λ_=>aA eX (aB bO u.hb rfl (aG (aC (λ_=>aA gh (aB gn u.hb rfl (aS uc u (C211 _ _ (G _ (j0 B))) λ_ _ u=>bP ⟨vb (by unfold kP;grind),u.drop⟩))) λ_=>⟨vb (by unfold kP;grind),u.drop⟩)))))))
   refine aA eX (aB bO u.hb rfl (bT (aC (λI=>aA gh (aB gn u.hb rfl (lJ (aC (λ_=>⟨vb (by unfold kP;grind),u.drop⟩) λatj=>?_)))) λI=>?_)))
   .refine aA ja (aB bO u.hb rfl (aO ?_));exact aC (λ_=>⟨vb (by unfold kP;grind),u.drop⟩) (λ_=>aA ja (aB bO u.hb rfl (cP (aC (λ_=>⟨vb (by unfold kP;grind),u.drop⟩) λ_=>aA eX (aB bO u.hb rfl (aG (aC (λ_=>aA gh (aB gn u.hb rfl (aS uc u (C211 _ _ (G _ (j0 B))) λ_ _ u=>bP ⟨vb (by unfold kP;grind),u.drop⟩))) λ_=>⟨vb (by unfold kP;grind),u.drop⟩)))))))
   refine aA ja (aB bO u.hb rfl (aO ?_));exact aC (λ_=>⟨vb (by unfold kP;grind),u.drop⟩) (λ_=>aA ja (aB bO u.hb rfl (cP (aC (λ_=>⟨vb (by unfold kP;grind),u.drop⟩) λ_=>aA eX (aB bO u.hb rfl (aG (aC (λ_=>aA gh (aB gn u.hb rfl (aS uc u (C211 _ _ (G _ (j0 B))) λ_ _ u=>bP ⟨vb (by unfold kP;grind),u.drop⟩))) λ_=>⟨vb (by unfold kP;grind),u.drop⟩)))))))
  rintro _ _ ⟨rfl,u⟩ _;refine aX (λM=>?_) (λM=>aJ bL ⟨_,bL,k+1,rfl,rfl,bL,dS U B M,u⟩);refine⟨vb ?_,u.aF⟩;unfold fw;rw[gZ B M];simp
 have Xv:qc xs 0=xs.length:=cH
 have O:xs.length<=40:=cH
 obtain⟨t,ht⟩:=Bn.of (xs:=xs) (i:=0) bL;have hz:=ht.zero Xv;refine aS Wm u (C252 _ _ _ t (t.size+1) _ (E.ext u.aF) hn ht bL) (λ_ he u=>ga ?_);rw[kp bL]at U;refine⟨vb ?_,u.aF⟩;unfold fw R5;rw[iq U,hz.2];simp[O]
theorem C272(lv nv:Value)(xs:List bY)(ns:List ByteArray)(i:Int)(t:Ex)(N:Nat)(w:World)(G:dz (λ_=>True) w lv xs)(hN:dz (λ_=>True) w nv ns)(hn:xs.length<=1048576)(Bm:ns.length<=1048576)(E:Bn xs i t)(hNt:t.size<N):CR 272 [lv,hH i,nv] w (λv w'=>kZ (bF v (t.steps ns)) w w'):=by
 obtain⟨B,hq,I⟩:∃e,e=t.root/\xs[(i).toNat]?=some e:=⟨_,rfl,E.root.1⟩;have hri:=E.root.2;have hie:=E.end;have OV:=Ex.oN E.2.1;rw[<- hq]at OV;have Xs:=tI B.op;have hi0:=E.1;have u:=St.start w;refine eU Tryz.func272 ?_;refine aW ([]:List n8) u td rfl rfl (dM rfl) (λO Y u=>aJ bL ?_);refine⟨λm M a x Y=>∃k:Nat,a=hH (i+1+qe t.eu k)/\x=hH (k:Int)/\m=t.eu.length-k/\k<=t.eu.length/\St w aY [bF M (Xt ns t.eu k)] Y,⟨_,0,ez (mn .i64) (by simp[qe]),rfl,rfl,bL,u⟩,?_⟩;rintro m M _ _ _ ⟨k,rfl,rfl,rfl,hk,u⟩ _
 refine aM gV (G.ext u.aF) bL I (λ_ Lq=>bW B.op eX Lq rfl rfl λ_ rT=>aE bO rT (aS Ky u (C273 _ _) λ_ he u=>aO (aC (λkC=>?_) λkC=>?_)))
 .obtain⟨a,J⟩:=gx t.eu (i:=k) bL;have hka:=Ex.tJ E.2.1 (j0 J);have Ud:=E.kid J;have VL:=Ud.end;have Ue:=a.qZ;have Z:=Dh (ns:=ns) (ks:=t.eu) (k:=k);have Xw:=Ex.pq ns a;refine ef af6 u (C272 _ _ _ _ _ _ (N-1) _ (G.ext u.aF) (hN.ext u.aF) hn Bm Ud bL) (λx28 _ cM u=>?_);have OZ:=u.dQ;exact bJ u.p1 td OZ bL cZ (λ_ _ u=>have u:=u.p1.drop;aS Kw u (C251 _ _ _ (xs.length+1) _ (G.ext u.aF) bL bL bL) λ_ _ u=>aJ bL ⟨_,bL,k+1,ez (mn .i64) (by rw[VL.1,uu J];omega),rfl,rfl,bL,by rw[Lt J];exact u⟩)
 have Z:=Dh (ns:=ns) (ks:=t.eu) (k:=k);refine aM gV (G.ext u.aF) bL I (λ_ Lv=>bW B.n ja Lv rfl rfl λ_ Es=>aE bO Es ⟨λjv w'=>jv=hH (Ex.numOf ns B)/\St w aY [bF M (Xt ns t.eu k)] w',aM gV (G.ext u.aF) bL I (λ_ Xx=>bW B.op eX Xx rfl rfl λ_ W=>aE bO W (aG (aC (λ_=>aM gV (G.ext u.aF) bL I λ_ AD=>bW B.name gh AD rfl rfl λ_ Lw=>aE gn Lw (aS rB u (C123 _ ns _ _ (hN.ext u.aF) bL) λ_ _ u=>⟨ez (mn .i64) (by grind[Ex.numOf]),u⟩)) λ_=>⟨ez (mn .i64) (by grind[Ex.numOf]),u⟩))),?_⟩)
 rintro _ _ ⟨rfl,u⟩ _;refine aM gV (G.ext u.aF) bL I (λ_ Xy=>bW B.op eX Xy rfl rfl λ_ Ay=>aE bO Ay (pop (D7 _ _) (aW ([(⟨B.op,(Ex.numOf ns B)⟩:n8)]) u td rfl rfl (dM rfl) λaov _ u=>?_)));have V:=u.dQ;refine bJ u.p1 td V (by rw[Z,lH];have:(t.steps ns).length=t.size:=Ex.pq ns t;rw[Ex.u5,kH,lH,<- show k=t.eu.length from bL]at this;omega) cZ (λU _ u=>?_);have u:=u.p1.drop;rw[Ex.u5,<- show k=t.eu.length from bL,<- hq];exact u.fresh
termination_by N
decreasing_by omega
def C220(lv Z:Value)(xs:List bY)(ns:List ByteArray)(w:World)(B:dz (λ_=>True) w lv xs)(hN:dz (λ_=>True) w Z ns)(Y:xs.length<=1048576)(Bm:ns.length<=1048576)(R6:∀x∈xs,x.name.size<=1048576):CR 220 [lv,Z] w (λv w'=>∃s,v=.tuple #[s,hH (kG ns xs)]/\kZ (bF s (qf ns xs)) w w'):=by
 have u:=St.start w;refine aca _ _ _ _ ?_;unfold S220;refine aS Kv u (C200 _ _ _ (B.ext u.aF) Y R6) (λV he u=>bP (aX (λE=>?_) λE=>?_))
 .have W:kG ns xs=8:=by unfold kG;rw[ee (by simpa using E)]
  refine⟨_,by rw[W],?_⟩;unfold qf;rw[W,eb cZ];exact(u.eW (α:=n8)).fresh
 refine⟨λm x V=>∃k:Nat,x=hH (k:Int)/\m=xs.length-k/\k<=xs.length/\(∀y∈xs.take k,(decide (y.op=2)&&decide (cU ns y.name<0))=false)/\St w aY [] V,⟨_,0,rfl,rfl,kO _,ea,u⟩,?_⟩;rintro m _ _ ⟨k,rfl,rfl,hk,M,u⟩ _;refine aH gV (B.ext u.aF) (aO (aC (λwD=>?_) λwD=>?_))
 .obtain⟨I,G⟩:=gx xs (i:=(k:Int).toNat) bL;refine⟨λjv w'=>jv=.bool (decide (I.op=2)&&decide (cU ns I.name<0))/\St w aY [] w',aM gV (B.ext u.aF) bL G (λ_ rT=>bW I.op eX rT rfl rfl λ_ me=>aE bO me (aG (aC (λ_=>aM gV (B.ext u.aF) bL G λ_ wF=>bW I.name gh wF rfl rfl λ_ rV=>aE gn rV (aS rB u (C123 _ ns _ _ (hN.ext u.aF) bL) λ_ _ u=>aO ⟨vb cH,u⟩)) λ_=>⟨vb cH,u⟩))),?_⟩;rintro _ _ ⟨rfl,u⟩ _;refine aX (λO=>?_) (λO=>aJ bL ⟨_,bL,k+1,rfl,rfl,bL,dS M G O,u⟩)
  have h9:kG ns xs=9:=by unfold kG;rw[eb (by simpa using E),ee (gZ G O)]
  refine⟨_,by rw[h9],?_⟩;unfold qf;rw[h9,eb cZ];exact(u.eW (α:=n8)).fresh
 have U:fw xs=true:=by simpa using E
 have Xv:=y9 U;obtain⟨t,ht⟩:=Bn.of (xs:=xs) (i:=0) bL;have hz:=ht.zero Xv;refine ef af6 u (C272 _ _ _ _ _ t (t.size+1) _ (B.ext u.aF) (hN.ext u.aF) Y Bm ht bL) (λJ _ cM u=>?_);rw[kp bL]at M;have h0:kG ns xs=0:=by unfold kG;rw[eb (by simpa using E),eb (by rw[iq M];simp)]
 refine⟨J,by rw[h0],?_⟩;unfold qf BI;rw[ee h0,hz.2];exact u.fresh
end Go.Proofs.YtpdlpabnlkofmaaGreatDoor

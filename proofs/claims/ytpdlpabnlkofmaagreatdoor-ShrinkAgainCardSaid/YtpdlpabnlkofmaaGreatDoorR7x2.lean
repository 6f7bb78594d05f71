/-
  Part 2.
-/
import Derived.Test.YtpdlpabnlkofmaaGreatDoorR7x1
set_option maxHeartbeats 8000000
set_option linter.all false
set_option maxRecDepth 100000
open Go.Fw.Flat renaming val->hM,enc->hZ,sz->l2,len->yb,agg->IH,one->Yk,pos->Yw,nV->aa6
open List renaming getElem?_eq_some_iff->j0,mem_of_getElem?->kp,take_of_length_le->kE,getElem?_eq_getElem->kO,length_append->kU,length_take->lY,length_singleton->l0,append_assoc->nk,getD_eq_getElem?_getD->n0,length_cons->ob,append_nil->oo,take_append_drop->o6,length_drop->qa,replicate->qV,drop_eq_getElem_cons->r6,drop_drop->sZ,getElem?_append_left->s4,length_eq_zero_iff->ta,mem_singleton->ua,take_add_one->uT,drop_eq_nil_of_le->u1,map_append->vf,eraseIdx_eq_take_drop_succ->we,mem_of_mem_take->wE,foldl_append->EC,length_set->G6,map_map->H4,getElem?_drop->IT,getElem?_cons_succ->Ln,getElem_cons_drop->Me,toArray->P1,length_flatten->Vd
open Nat renaming zero_le->la,le_refl->o1,le_trans->te,zero_add->tx,min_eq_left->Gz,add_assoc->NP,add_zero->PQ,mod_lt->aaG,mod_le->abN
open Go.Instr renaming build->l1,sliceAt->nT,index->u3,sliceBounds->vC,loadAt->x6,fieldAt->Fp,indexAt->FP,storeAt->Ka,buildSlice->K9,slice->Qr
open Option renaming bind_some->ma,some->n4,bind_eq_some_iff->OP
open Go.Value renaming int->ng,bool->xc,slice->yA,tuple->Cg,string->FR,okWide->P0
open Bool renaming and_eq_true->n3,false_eq_true->Oq
open Decidable renaming not_not->vy
open Int renaming tmod_nonneg->Qt,natAbs_tmod->TM,natAbs_tdiv->aaz,neg_tmod->aa7,le_total->aa8
open Go.World renaming cells?_some->YK
namespace Go.Fw
section
variable {P:Program}{w w0:World}{A S:Nat->Prop}{L:List HP}
theorem bX{T:TypeId}{b o:Nat}{v:Value}{K:Value->Prop}(ht:Xr P T)(hb:Cell w b o v)(k:K v) :
  KQ P (x6 T (.pointer (some ⟨b,o,none⟩))) w K:=⟨v,aI ht hb,k⟩
theorem cH{α:Type}[Flat α]{T:TypeId}{x:α}{K:Value->g7}(u:St w0 A L w)
  (k:∀b w',St w0 A (bY b (hZ x)::L) w'->K (.pointer (some ⟨b,0,none⟩)) w'):qW P (Instr.box T (hM x)) w K:=by
 refine⟨_,_,Jf T _,k _ _ ?_⟩
 rw[pI]
 exact u.push
theorem Sm{T:Nat}{cx cy:Bool}{a b:Int}{K:Value->Prop}(u:0<=a)(hb:0<b)(k:K (hH (a % b))):eT P (jU .rem T cx cy (hH a) (hH b)) K:=by
 refine⟨_,?_,k⟩
 show pr P (Op.intDiv .rem .i64 a b)=_
 unfold Op.intDiv
 rw[ei bM]
 show some (ng .i64 (a.tmod b))=_
 grind
def qn(a b:Int):Int:=((BitVec.ofInt 64 a &&& BitVec.ofInt 64 b).toNat:Int)
theorem zC(a:Int){b:Int}(u:0<=b)(h1:b<=9223372036854775807):0<=qn a b/\qn a b<=b:=by
 unfold qn
 refine⟨bM,?_⟩
 have h2:(BitVec.ofInt 64 a &&& BitVec.ofInt 64 b).toNat<=(BitVec.ofInt 64 b).toNat:=by
  rw[BitVec.toNat_and];exact Nat.and_le_right
 have h3:((BitVec.ofInt 64 b).toNat:Int)=b:=by
  rw[BitVec.toNat_ofInt]
  omega
 omega
theorem Sn{T:Nat}{cx cy:Bool}{a b:Int}{K:Value->Prop}(u:0<=b)(h1:b<=9223372036854775807)(k:K (hH (qn a b))):eT P (jU .and T cx cy (hH a) (hH b)) K:=by
 refine⟨_,?_,k⟩
 show some (ng .i64 (IntKind.i64.wrap ((BitVec.ofInt 64 a &&& BitVec.ofInt 64 b).toNat:Int)))=_
 have:=zC a u h1
 unfold qn at this |-
 rw[IntWalk.i64_in _ bM]
theorem yW{T:Nat}{a b:Bool}(h:P.underlying T=some .bool):pr P (Op.equal T (.bool a) (.bool b))=some (a == b):=by
 show pr P (Op.equalIn 10000 T (.bool a) (.bool b))=_
 unfold Op.equalIn
 rw[cT,cS h]
 rfl
theorem Xt{T:Nat}{cx cy:Bool}{a b:Bool}{K:Value->Prop}(h:P.underlying T=some .bool)(k:K (.bool (a == b))):eT P (jU .eql T cx cy (.bool a) (.bool b)) K:=by
 refine⟨_,?_,k⟩
 show pr P (do pure (xc (<- Op.equal T (.bool a) (.bool b))))=_
 rw[vh,yW h];rfl
theorem rV{T:Nat}{cx cy:Bool}{a b:Bool}{K:Value->Prop}(h:P.underlying T=some .bool)(k:K (.bool (a != b))):eT P (jU .neq T cx cy (.bool a) (.bool b)) K:=by
 refine⟨_,?_,k⟩
 show pr P (do pure (xc (!(<- Op.equal T (.bool a) (.bool b)))))=_
 rw[vh _ (λb=>xc (!b)),yW h];rfl
theorem Jj{T e:Nat}{p:Option Addr}(h:P.underlying T=some (.pointer e)):pr P (Op.equal T (.pointer p) (.pointer none))=some p.isNone:=by
 show pr P (Op.equalIn 10000 T (.pointer p) (.pointer none))=_
 unfold Op.equalIn
 rw[cT,cS h]
 cases p<;>rfl
theorem Xu{T e:Nat}{cx cy:Bool}{p:Option Addr}{K:Value->Prop}(h:P.underlying T=some (.pointer e))(k:K (.bool p.isNone)):eT P (jU .eql T cx cy (.pointer p) (.pointer none)) K:=by
 refine⟨_,?_,k⟩
 show pr P (do pure (xc (<- Op.equal T (.pointer p) (.pointer none))))=_
 rw[vh,Jj h];rfl
theorem GZ{T e:Nat}{a:Option Addr}{n c:Nat}(h:P.underlying T=some (.slice e))(u:a=none->n=0/\c=0):pr P (Op.equal T (.slice a n c) (.slice none 0 0))=some a.isNone:=by
 show pr P (Op.equalIn 10000 T (.slice a n c) (.slice none 0 0))=_
 unfold Op.equalIn
 rw[cT,cS h]
 cases a<;>rfl
theorem Xv{T e:Nat}{cx cy:Bool}{a:Option Addr}{n c:Nat}{K:Value->Prop}(h:P.underlying T=some (.slice e))(u:a=none->n=0/\c=0)(k:K (.bool a.isNone)):eT P (jU .eql T cx cy (.slice a n c) (.slice none 0 0)) K:=by
 refine⟨_,?_,k⟩
 show pr P (do pure (xc (<- Op.equal T (.slice a n c) (.slice none 0 0))))=_
 rw[vh,GZ h u];rfl
def nX:TypeDesc->Option Nat
 | .int .i64=>some 0
 | .bool=>some 1
 | .string=>some 2
 | _=>none
def qX:Value->Option Nat
 | .int .i64 _=>some 0
 | .bool _=>some 1
 | .string _=>some 2
 | _=>none
def eqV:Value->Value->Bool
 | .int _ a,.int _ b=>decide (a=b)
 | .bool a,.bool b=>a == b
 | .string a,.string b=>a == b
 | _,_=>false
def AH:List Value->List Value->Bool
 | a::x,b::y=>eqV a b&&AH x y
 | _,_=>true
def ox(P:Program):Nat->List Field->Option (List Nat)
 | _,[]=>some []
 | k,f::fs=>
  if f.name ≠ "_" /\ f.offset=k then
   match P.underlying f.type with
   | some d=>match nX d,ox P (k+1) fs with
    | some n,some r=>some (n::r)
    | _,_=>none
   | none=>none
  else none
def EH(P:Program)(T:TypeId):Option (List Nat):=
 match P.underlying T with
 | some (.struct u)=>if P.stoodInHeld T=false/\P.eqGuardType P.depth T=false then ox P 0 u.toList else none
 | _=>none
def Pq(d:Nat)(xs ys:Array Value):List Field->Sem Bool
 | []=>pure true
 | f::r => if f.name ≠ "_" then do
   let same <- Op.equalIn d f.type (<- part f.type xs f.offset) (<- part f.type ys f.offset)
   if (!same)=true then pure false else Pq d xs ys r
  else Pq d xs ys r
theorem Dw{T:TypeId}{d:TypeDesc}{n:Nat}(h:P.underlying T=some d)(u:nX d=some n):pr P (isAgg T)=some false:=by
 unfold isAgg
 rw[cT,cS h]
 cases d<;>simp[nX]at u<;>rfl
theorem So{T:TypeId}{d:TypeDesc}{n o:Nat}{cs:Array Value}{v:Value}(h:P.underlying T=some d)(B:nX d=some n)(u:cs[o]?=some v):pr P (part T cs o)=some v:=by
 unfold part
 rw[cT,Dw h B]
 simp only[ma,Oq,if_false,u]
 rfl
theorem LF{k:Nat}{T:TypeId}{d:TypeDesc}{n:Nat}{a b:Value}(h:P.underlying T=some d)(B:nX d=some n)(u:qX a=some n)(hb:qX b=some n) :
  pr P (Op.equalIn (k+1) T a b)=some (eqV a b):=by
 unfold Op.equalIn
 rw[cT,cS h]
 simp only[ma]
 cases d<;>simp only[nX]at B<;>try(cases B;done)
 case int kd=>
  cases kd<;>simp at B
  subst B
  cases a<;>simp only[qX]at u<;>try(cases u;done)
  rename_i ka na
  cases b<;>simp only[qX]at hb<;>try(cases hb;done)
  rename_i kb nb
  cases ka<;>simp at u
  cases kb<;>simp at hb
  rfl
 case bool=>
  cases B
  cases a<;>simp only[qX]at u<;>first|(rename_i ka na;cases ka<;>simp at u)|skip
  all_goals try(simp at u;done)
  cases b<;>simp only[qX]at hb<;>first|(rename_i kb nb;cases kb<;>simp at hb)|skip
  all_goals try(simp at hb;done)
  rfl
 case string=>
  cases B
  cases a<;>simp only[qX]at u<;>first|(rename_i ka na;cases ka<;>simp at u)|skip
  all_goals try(simp at u;done)
  cases b<;>simp only[qX]at hb<;>first|(rename_i kb nb;cases kb<;>simp at hb)|skip
  all_goals try(simp at hb;done)
  rfl
theorem LG{k:Nat}{xs ys:List Value}:∀(u:List Field) (i:Nat) (ks:List Nat),ox P i u=some ks->(∀j n,ks[j]?=some n->∃a b,xs[i+j]?=some a/\ys[i+j]?=some b/\qX a=some n/\qX b=some n)->
  pr P (Pq (k+1) xs.toArray ys.toArray u)=some (AH ((xs.drop i).take ks.length) ((ys.drop i).take ks.length)):=by
 intro u
 induction u with
 | nil=>intro i ks h _;simp only[ox,n4.injEq]at h;subst h;simp[Pq,AH];rfl
 | cons f u U=>
  intro i ks h I
  unfold ox at h
  split at h
  .rename_i hf
   cases hu:P.underlying f.type with
   | none=>grind
   | some d=>
    rw[hu]at h
    dsimp only at h
    cases hd:nX d with
    | none=>grind
    | some n=>
     rw[hd]at h
     cases hr:ox P (i+1) u with
     | none=>grind
     | some r=>
      rw[hr]at h
      simp only[n4.injEq]at h
      subst h
      obtain⟨a,b,G,hb,O,J⟩:=I 0 n rfl
      rw[PQ]at G hb
      have E:xs.drop i=a::xs.drop (i+1):=by
       rw[<- Me (j0.1 G).1,(j0.1 G).2]
      have B:ys.drop i=b::ys.drop (i+1):=by
       rw[<- Me (j0.1 hb).1,(j0.1 hb).2]
      have M:=U (i+1) r hr λj m V=>by
       obtain⟨Y,W,h1,h2,h3,h4⟩:=I (j+1) m cJ
       grind
      unfold Pq
      rw[ej hf.1,cT,So hu hd (v:=a) cJ]
      simp only[ma]
      rw[cT,So hu hd (v:=b) cJ]
      simp only[ma]
      rw[cT,LF hu hd O J]
      simp only[ma,ob,E,B,List.take_succ_cons,AH]
      cases he:eqV a b with
      | false=>rfl
      | true=>grind
  .cases h
theorem AI{d:Nat}{t:TypeId}{u:Array Field}{xs ys:Array Value}(ht:P.underlying t=some (.struct u))(E:P.stoodInHeld t=false) :
  pr P (Op.equalIn (d+1) t (.agg xs) (.agg ys))=pr P (Pq d xs ys u.toList):=by
 unfold Op.equalIn
 rw[cT,cS ht]
 simp only[ma,cT]
 rw[show pr P program=some P from rfl]
 simp only[ma,E,Oq,if_false]
 rw[<- Array.forIn_toList]
 generalize u.toList=l
 clear ht
 induction l with
 | nil=>rfl
 | cons f l B=>
  rw[cT]at B
  simp only[List.forIn_cons,Pq,cT]
  split
  .simp only[cT]
   cases pr P (part f.type xs f.offset)with
   | none=>rfl
   | some a=>
    simp only[ma]
    cases pr P (part f.type ys f.offset)with
    | none=>rfl
    | some b=>
     simp only[ma]
     cases pr P (Op.equalIn d f.type a b)with
     | none=>rfl
     | some r=>
      cases r
      .rfl
      .simp only[ma,Bool.not_true,Oq,if_false,fP]
       exact B
  .simp only[fP,ma]
   exact B
theorem Jk{T:TypeId}{ks:List Nat}{xs ys:List Value}(h:EH P T=some ks)(u:xs.map qX=ks.map some)(B:ys.map qX=ks.map some) :
  pr P (Op.equal T (.agg xs.toArray) (.agg ys.toArray))=some (AH xs ys)/\P.eqGuardType P.depth T=false:=by
 unfold EH at h
 split at h
 .rename_i fs hfs
  split at h
  .rename_i hc
   refine⟨?_,hc.2⟩
   show pr P (Op.equalIn 10000 T _ _)=_
   rw[AI hfs hc.1]
   have E:xs.length=ks.length:=by have:=fM List.length u;grind
   have I:ys.length=ks.length:=by have:=fM List.length B;grind
   rw[LG (xs:=xs) (ys:=ys) fs.toList 0 ks h λj n G=>?_]
   .grind
   have J:j<ks.length:=(j0.1 G).1
   refine⟨xs[j]'(bM),ys[j]'(bM),ee,ee,?_,?_⟩
   .have:=fM (λl=>l[j]?) u
    grind
   have:=fM (λl=>l[j]?) B
   grind
  cases h
 cases h
theorem UD{T:Nat}{cx cy:Bool}{ks:List Nat}{xs ys:List Value}{K:Value->Prop}(h:EH P T=some ks)(u:xs.map qX=ks.map some)(B:ys.map qX=ks.map some)(k:K (.bool (AH xs ys))) :
  eT P (jU .eql T cx cy (.agg xs.toArray) (.agg ys.toArray)) K:=by
 obtain⟨h1,h2⟩:=Jk h u B
 refine⟨_,?_,k⟩
 show pr P (if P.eqGuardType P.depth T=true then stuck "an interface in a part" else(do pure (xc (<- Op.equal T (.agg xs.toArray) (.agg ys.toArray))) : Sem Value))=_
 rw[h2,ei ee,vh,h1];rfl
theorem Hy{T:Nat}{cx cy:Bool}{ks:List Nat}{xs ys:List Value}{K:Value->Prop}{p:Prop}[Decidable p](h:EH P T=some ks)(u:xs.map qX=ks.map some)(B:ys.map qX=ks.map some)
  (E:AH xs ys=decide p) (k:K (.bool (decide p))):eT P (jU .eql T cx cy (.agg xs.toArray) (.agg ys.toArray)) K:=UD h u B (E▸k)
end
end Go.Fw
namespace Go.Proofs.YtpdlpabnlkofmaaGreatDoor
open Go.Fw
def bO:dD g6 3=some (false,1):=by kernel_rfl
def uA:eo g6 3=some (some (hH 0)):=by kernel_rfl
def LH:Tryz.prog.underlying 3=some (.int .i64):=by kernel_rfl
def G0:dD g6 4=some (false,1):=by kernel_rfl
def Xw:eo g6 4=some (some (.bool false)):=by kernel_rfl
def LI:Tryz.prog.underlying 4=some (.bool):=by kernel_rfl
def aww:Tryz.prog.underlying 5=some (.int .u8):=by kernel_rfl
def gB:dD g6 9=some (false,1):=by kernel_rfl
def agM:eo g6 9=some (some (.string ⟨#[]⟩)):=by kernel_rfl
def iq:Tryz.prog.underlying 9=some (.string):=by kernel_rfl
def oO:dD g6 22=some (false,1):=by kernel_rfl
def pJ:eM g6 22=some (23,1,24,some 1):=by kernel_rfl
def jF:dD g6 23=some (false,1):=by kernel_rfl
def iu:eM g6 23=some (161,3,32,some 3):=by kernel_rfl
def iz:dD g6 24=some (false,1):=by kernel_rfl
def fw:eM g6 24=some (146,4,72,some 4):=by kernel_rfl
def td:dD g6 25=some (false,1):=by kernel_rfl
def uB:eM g6 25=some (85,2,32,some 2):=by kernel_rfl
def eL:dD g6 27=some (true,6):=by kernel_rfl
def gC:aT g6 27 0=some (0,some true):=by kernel_rfl
def qe:aT g6 27 1=some (1,some true):=by kernel_rfl
def nN:aT g6 27 2=some (2,some true):=by kernel_rfl
def kB:aT g6 27 3=some (3,some true):=by kernel_rfl
def oP:aT g6 27 4=some (4,some true):=by kernel_rfl
def j1:aT g6 27 5=some (5,some true):=by kernel_rfl
def vi:eo g6 27=some (some (.agg [.slice none 0 0,.slice none 0 0,.slice none 0 0,.slice none 0 0,.slice none 0 0,.slice none 0 0].toArray)):=by kernel_rfl
def Xx:eM g6 28=some (53,6,64,some 6):=by kernel_rfl
def jG:dD g6 31=some (false,1):=by kernel_rfl
def aiM:eo g6 31=some (some (hH 0)):=by kernel_rfl
def aoL:Tryz.prog.underlying 34=some (.pointer 44):=by kernel_rfl
def Jl:dD g6 39=some (false,1):=by kernel_rfl
def gH:eM g6 39=some (50,4,48,some 4):=by kernel_rfl
def aiN:eo g6 39=some (some (.slice none 0 0)):=by kernel_rfl
def LJ:dD g6 40=some (false,1):=by kernel_rfl
def eO:dD g6 41=some (false,1):=by kernel_rfl
def cR:eM g6 41=some (3,1,8,some 1):=by kernel_rfl
def aiO:eo g6 41=some (some (.slice none 0 0)):=by kernel_rfl
def LK:dD g6 42=some (false,1):=by kernel_rfl
def Pr:eM g6 42=some (129,1,8,some 1):=by kernel_rfl
def yh:aT g6 44 0=some (0,some true):=by kernel_rfl
def Sp:aT g6 44 1=some (6,some true):=by kernel_rfl
def Jm:aT g6 44 2=some (7,some true):=by kernel_rfl
def tu:aT g6 44 3=some (8,some true):=by kernel_rfl
def vj:aT g6 44 4=some (9,some true):=by kernel_rfl
def tz:aT g6 44 5=some (10,some true):=by kernel_rfl
def DW:aT g6 44 6=some (11,some true):=by kernel_rfl
def adi:aT g6 44 7=some (12,some true):=by kernel_rfl
def lf:dD g6 50=some (true,4):=by kernel_rfl
def nO:aT g6 50 0=some (0,some true):=by kernel_rfl
def lC:aT g6 50 1=some (1,some true):=by kernel_rfl
def qf:aT g6 50 2=some (2,some true):=by kernel_rfl
def oQ:aT g6 50 3=some (3,some true):=by kernel_rfl
def EI:eo g6 50=some (some (.agg [hH 0,hH 0,hH 0,.slice none 0 0].toArray)):=by kernel_rfl
def adj:aT g6 53 0=some (0,some true):=by kernel_rfl
def adk:aT g6 53 1=some (1,some true):=by kernel_rfl
def fj:dD g6 56=some (true,5):=by kernel_rfl
def adl:aT g6 56 0=some (0,some true):=by kernel_rfl
def Sq:aT g6 56 1=some (1,some true):=by kernel_rfl
def nh:eo g6 56=some (some (.agg [hH 0,hH 0,hH 0,hH 0,hH 0].toArray)):=by kernel_rfl
def hG:dD g6 63=some (true,4):=by kernel_rfl
def oR:aT g6 63 0=some (0,some true):=by kernel_rfl
def yi:aT g6 63 1=some (1,some true):=by kernel_rfl
def Sr:aT g6 63 2=some (2,some true):=by kernel_rfl
def Ss:aT g6 63 3=some (3,some true):=by kernel_rfl
def kJ:eo g6 63=some (some (.agg [hH 0,hH 0,hH 0,.slice none 0 0].toArray)):=by kernel_rfl
def adm:eM g6 72=some (56,5,40,some 5):=by kernel_rfl
def jH:dD g6 82=some (false,1):=by kernel_rfl
def g9:eM g6 82=some (164,4,40,some 4):=by kernel_rfl
def Jn:dD g6 85=some (true,2):=by kernel_rfl
def yj:aT g6 85 0=some (0,some true):=by kernel_rfl
def Jo:aT g6 85 1=some (1,some true):=by kernel_rfl
def Ps:eo g6 85=some (some (.agg [.slice none 0 0,hH 0].toArray)):=by kernel_rfl
def AJ:dD g6 88=some (false,1):=by kernel_rfl
def je:dD g6 91=some (false,1):=by kernel_rfl
def iF:eM g6 91=some (9,1,16,some 1):=by kernel_rfl
def aiP:eo g6 91=some (some (.slice none 0 0)):=by kernel_rfl
def LL:dD g6 93=some (false,1):=by kernel_rfl
def Jp:dD g6 94=some (false,1):=by kernel_rfl
def LM:eM g6 94=some (135,1,8,some 1):=by kernel_rfl
def DX:aT g6 96 0=some (0,some true):=by kernel_rfl
def Jq:aT g6 96 1=some (6,some true):=by kernel_rfl
def Jr:aT g6 96 2=some (7,some true):=by kernel_rfl
def adn:aT g6 96 3=some (8,some true):=by kernel_rfl
def tA:aT g6 96 4=some (9,some true):=by kernel_rfl
def vk:aT g6 96 5=some (10,some true):=by kernel_rfl
def vl:aT g6 96 6=some (11,some true):=by kernel_rfl
def Js:aT g6 96 7=some (12,some true):=by kernel_rfl
def yk:aT g6 96 8=some (13,some true):=by kernel_rfl
def Su:aT g6 96 9=some (14,some true):=by kernel_rfl
def AK:dD g6 103=some (false,1):=by kernel_rfl
def LN:dD g6 114=some (true,5):=by kernel_rfl
def Xy:aT g6 114 0=some (0,some true):=by kernel_rfl
def LO:aT g6 114 1=some (1,some true):=by kernel_rfl
def wN:aT g6 114 3=some (3,some true):=by kernel_rfl
def AL:aT g6 114 4=some (4,some true):=by kernel_rfl
def Jt:eo g6 114=some (some (.agg [hH 0,hH 0,hH 0,.bool false,.bool false].toArray)):=by kernel_rfl
def Hz:eM g6 117=some (4,1,1,some 1):=by kernel_rfl
def tB:dD g6 120=some (false,1):=by kernel_rfl
def tC:eM g6 120=some (125,3,24,some 3):=by kernel_rfl
def uC:aT g6 122 0=some (0,some true):=by kernel_rfl
def Xz:aT g6 122 1=some (1,some true):=by kernel_rfl
def wO:aT g6 122 2=some (2,some true):=by kernel_rfl
def AM:aT g6 122 3=some (3,some true):=by kernel_rfl
def kK:aT g6 122 4=some (4,some true):=by kernel_rfl
def XA:dD g6 125=some (true,3):=by kernel_rfl
def wP:aT g6 125 0=some (0,some true):=by kernel_rfl
def LP:aT g6 125 1=some (1,some true):=by kernel_rfl
def LQ:aT g6 125 2=some (2,some true):=by kernel_rfl
def ado:eo g6 125=some (some (.agg [hH 0,hH 0,hH 0].toArray)):=by kernel_rfl
def m4:eM g6 126=some (41,1,24,some 1):=by kernel_rfl
def Sv:dD g6 129=some (false,1):=by kernel_rfl
def vQ:dD g6 130=some (false,1):=by kernel_rfl
def oy:eM g6 130=some (218,12,176,some 12):=by kernel_rfl
def lH:aT g6 132 0=some (0,some true):=by kernel_rfl
def LR:aT g6 132 1=some (1,some true):=by kernel_rfl
def LS:aT g6 132 2=some (2,some true):=by kernel_rfl
def oS:aT g6 132 3=some (3,some true):=by kernel_rfl
def wQ:aT g6 132 4=some (4,some true):=by kernel_rfl
def HA:dD g6 135=some (false,1):=by kernel_rfl
def rW:dD g6 136=some (false,1):=by kernel_rfl
def uD:eM g6 136=some (143,2,32,some 2):=by kernel_rfl
def oT:aT g6 138 0=some (0,some true):=by kernel_rfl
def AN:aT g6 138 1=some (1,some true):=by kernel_rfl
def AO:aT g6 138 2=some (2,some true):=by kernel_rfl
def jI:aT g6 138 3=some (3,some true):=by kernel_rfl
def wR:aT g6 138 4=some (4,some true):=by kernel_rfl
def jJ:dD g6 141=some (false,1):=by kernel_rfl
def fq:eM g6 141=some (193,9,120,some 9):=by kernel_rfl
def LU:aT g6 143 0=some (0,some true):=by kernel_rfl
def XB:aT g6 143 1=some (1,some true):=by kernel_rfl
def m6:dD g6 146=some (true,4):=by kernel_rfl
def qo:aT g6 146 0=some (0,some true):=by kernel_rfl
def fQ:aT g6 146 1=some (1,some true):=by kernel_rfl
def lI:aT g6 146 2=some (2,some true):=by kernel_rfl
def qp:aT g6 146 3=some (3,some true):=by kernel_rfl
def tD:eo g6 146=some (some (.agg [.string ⟨#[]⟩,.slice none 0 0,.slice none 0 0,hH 0].toArray)):=by kernel_rfl
def l6:dD g6 161=some (true,3):=by kernel_rfl
def kL:aT g6 161 0=some (0,some true):=by kernel_rfl
def rX:aT g6 161 1=some (1,some true):=by kernel_rfl
def uE:aT g6 161 2=some (2,some true):=by kernel_rfl
def oU:eo g6 161=some (some (.agg [.string ⟨#[]⟩,hH 0,hH 0].toArray)):=by kernel_rfl
def rY:dD g6 164=some (true,4):=by kernel_rfl
def fa:aT g6 164 0=some (0,some true):=by kernel_rfl
def jj:aT g6 164 1=some (1,some true):=by kernel_rfl
def gn:aT g6 164 2=some (2,some true):=by kernel_rfl
def rZ:aT g6 164 3=some (3,some true):=by kernel_rfl
def yl:eo g6 164=some (some (.agg [hH 0,hH 0,.string ⟨#[]⟩,hH 0].toArray)):=by kernel_rfl
def HC:dD g6 165=some (false,1):=by kernel_rfl
def Sw:eo g6 165=some (some (.map none)):=by kernel_rfl
def aoM:dD g6 177=some (true,3):=by kernel_rfl
def XC:aT g6 177 0=some (0,some true):=by kernel_rfl
def XD:aT g6 177 1=some (1,some true):=by kernel_rfl
def XE:aT g6 177 2=some (2,some true):=by kernel_rfl
def adp:eo g6 177=some (some (.agg [.string ⟨#[]⟩,hH 0,.slice none 0 0].toArray)):=by kernel_rfl
def iS:dD g6 179=some (false,1):=by kernel_rfl
theorem fW:eM g6 179=some (231,4,32,some 4):=by kernel_rfl
def XF:aT g6 181 0=some (0,some true):=by kernel_rfl
def kM:aT g6 181 1=some (1,some true):=by kernel_rfl
def yX:dD g6 185=some (false,1):=by kernel_rfl
def wT:aT g6 187 0=some (0,some true):=by kernel_rfl
def XG:aT g6 187 1=some (1,some true):=by kernel_rfl
def r7:aT g6 187 2=some (2,some true):=by kernel_rfl
def AP:aT g6 187 3=some (3,some true):=by kernel_rfl
def r8:aT g6 187 4=some (4,some true):=by kernel_rfl
def eK:dD g6 193=some (true,9):=by kernel_rfl
def dN:aT g6 193 0=some (0,some true):=by kernel_rfl
def iG:aT g6 193 1=some (1,some true):=by kernel_rfl
def gh:aT g6 193 2=some (2,some true):=by kernel_rfl
def iT:aT g6 193 3=some (3,some true):=by kernel_rfl
def j3:aT g6 193 4=some (4,some true):=by kernel_rfl
def jK:aT g6 193 5=some (5,some true):=by kernel_rfl
def iU:aT g6 193 6=some (6,some true):=by kernel_rfl
def iH:aT g6 193 7=some (7,some true):=by kernel_rfl
def lJ:aT g6 193 8=some (8,some true):=by kernel_rfl
def jq:eo g6 193=some (some (.agg [hH 0,.string ⟨#[]⟩,.string ⟨#[]⟩,.slice none 0 0,.slice none 0 0,hH 0,hH 0,hH 0,hH 0].toArray)):=by kernel_rfl
def XH:aT g6 196 0=some (0,some true):=by kernel_rfl
def iI:aT g6 196 1=some (1,some true):=by kernel_rfl
def jk:dD g6 198=some (false,1):=by kernel_rfl
def fK:eM g6 198=some (209,4,40,some 4):=by kernel_rfl
def j4:aT g6 203 0=some (0,some true):=by kernel_rfl
def fx:aT g6 203 1=some (1,some true):=by kernel_rfl
def ml:aT g6 203 2=some (2,some true):=by kernel_rfl
def wU:aT g6 203 3=some (3,some true):=by kernel_rfl
def agN:dD g6 209=some (true,4):=by kernel_rfl
def lK:aT g6 209 0=some (0,some true):=by kernel_rfl
def nz:aT g6 209 1=some (1,some true):=by kernel_rfl
def r9:aT g6 209 2=some (2,some true):=by kernel_rfl
def lL:aT g6 209 3=some (3,some true):=by kernel_rfl
def adq:eo g6 209=some (some (.agg [hH 0,.string ⟨#[]⟩,hH 0,hH 0].toArray)):=by kernel_rfl
def LV:dD g6 218=some (true,12):=by kernel_rfl
def oV:aT g6 218 0=some (0,some true):=by kernel_rfl
def LW:aT g6 218 1=some (9,some true):=by kernel_rfl
def XI:aT g6 218 2=some (10,some true):=by kernel_rfl
def LX:aT g6 218 3=some (11,some true):=by kernel_rfl
def Sx:eo g6 218=some (some (.agg [hH 0,.string ⟨#[]⟩,.string ⟨#[]⟩,.slice none 0 0,.slice none 0 0,hH 0,hH 0,hH 0,hH 0,.slice none 0 0,.slice none 0 0,.bool false].toArray)):=by kernel_rfl
def C5:eM g6 224=some (227,2,16,some 2):=by kernel_rfl
def AQ:eo g6 224=some (some (.slice none 0 0)):=by kernel_rfl
def Sy:dD g6 227=some (true,2):=by kernel_rfl
def LY:aT g6 227 0=some (0,some true):=by kernel_rfl
def LZ:aT g6 227 1=some (1,some true):=by kernel_rfl
def Sz:eo g6 227=some (some (.agg [hH 0,hH 0].toArray)):=by kernel_rfl
def iv:dD g6 231=some (true,4):=by kernel_rfl
def gM:aT g6 231 0=some (0,some true):=by kernel_rfl
def ic:aT g6 231 1=some (1,some true):=by kernel_rfl
def mn:aT g6 231 2=some (2,some true):=by kernel_rfl
def oW:aT g6 231 3=some (3,some true):=by kernel_rfl
def rq:eo g6 231=some (some (.agg [hH 0,hH 0,hH 0,hH 0].toArray)):=by kernel_rfl
def SA:dD g6 249=some (false,1):=by kernel_rfl
def adr:eo g6 249=some (some (.nilFunc)):=by kernel_rfl
def tE:eM g6 277=some (320,2,16,some 2):=by kernel_rfl
def wV:dD g6 288=some (false,1):=by kernel_rfl
def L3:eM g6 300=some (24,1,24,some 1):=by kernel_rfl
def iJ:aT g6 305 0=some (0,some true):=by kernel_rfl
def fb:aT g6 305 1=some (1,some true):=by kernel_rfl
def kN:aT g6 305 2=some (2,some true):=by kernel_rfl
def AR:aT g6 305 3=some (3,some true):=by kernel_rfl
def qq:aT g6 305 4=some (4,some true):=by kernel_rfl
def fX:dD g6 308=some (true,4):=by kernel_rfl
def sd:aT g6 308 0=some (0,some true):=by kernel_rfl
def oX:aT g6 308 1=some (1,some true):=by kernel_rfl
def uF:aT g6 308 2=some (2,some true):=by kernel_rfl
def XJ:aT g6 308 3=some (3,some true):=by kernel_rfl
def tF:eo g6 308=some (some (.agg [.slice none 0 0,hH 0,hH 0,hH 0].toArray)):=by kernel_rfl
def qt:aT g6 316 0=some (0,some true):=by kernel_rfl
def uG:aT g6 318 0=some (0,some true):=by kernel_rfl
def L4:aT g6 318 1=some (1,some true):=by kernel_rfl
def ads:eo g6 318=some (some (.agg [.slice none 0 0,hH 0].toArray)):=by kernel_rfl
def EJ:dD g6 320=some (true,2):=by kernel_rfl
def nA:aT g6 320 0=some (0,some true):=by kernel_rfl
def qu:aT g6 320 1=some (1,some true):=by kernel_rfl
def Ju:eo g6 320=some (some (.agg [hH 0,hH 0].toArray)):=by kernel_rfl
def XK:dD g6 348=some (true,16):=by kernel_rfl
def SB:eo g6 348=some (some (.agg [.nilFunc,.nilFunc,.nilFunc,.nilFunc,.nilFunc,.nilFunc,.nilFunc,.nilFunc,.nilFunc,.nilFunc,.nilFunc,.nilFunc,.nilFunc,.nilFunc,.nilFunc,.nilFunc].toArray)):=by kernel_rfl
def aoN:dD g6 361=some (false,1):=by kernel_rfl
def agO:dD g6 364=some (true,15):=by kernel_rfl
def adt:eo g6 364=some (some (.agg [.string ⟨#[]⟩,.string ⟨#[]⟩,.string ⟨#[]⟩,.string ⟨#[]⟩,.string ⟨#[]⟩,.string ⟨#[]⟩,.string ⟨#[]⟩,.string ⟨#[]⟩,.string ⟨#[]⟩,.string ⟨#[]⟩,.string ⟨#[]⟩,.string ⟨#[]⟩,.string ⟨#[]⟩,.string ⟨#[]⟩,.string ⟨#[]⟩].toArray)):=by kernel_rfl
def nB(M:Option Addr)(E B:Nat)(W:Option Addr)(I Y:Nat)(O:Option Addr)(J G:Nat)(u:Option Addr)(U V:Nat):pr g6 (l1 27 [(1,.slice M E B),(2,.slice W I Y),(3,.slice O J G),(4,.slice u U V)].toArray)=some (.agg [.slice none 0 0,.slice M E B,.slice W I Y,.slice O J G,.slice u U V,.slice none 0 0].toArray):=by kernel_rfl
def HD(E:Option Addr)(B u:Nat)(G:Int):pr g6 (l1 85 [(0,.slice E B u),(1,hH G)].toArray)=some (.agg [.slice E B u,hH G].toArray):=by kernel_rfl
def Pt(E:Option Addr)(I u:Nat)(J:Option Addr)(G B:Nat):pr g6 (l1 122 [(0,.slice E I u),(1,.slice J G B)].toArray)=some (.agg [.slice E I u,.slice J G B,.slice none 0 0,.slice none 0 0,.slice none 0 0].toArray):=by kernel_rfl
def Jv(E:Int)(u:Int)(B:Int):pr g6 (l1 125 [(0,hH E),(1,hH u),(2,hH B)].toArray)=some (.agg [hH E,hH u,hH B].toArray):=by kernel_rfl
def Pu(B:ByteArray)(u:Int):pr g6 (l1 146 [(0,.string B),(3,hH u)].toArray)=some (.agg [.string B,.slice none 0 0,.slice none 0 0,hH u].toArray):=by kernel_rfl
def AS(u:ByteArray)(B:Int)(G:Option Addr)(E I:Nat):pr g6 (l1 146 [(0,.string u),(3,hH B),(2,.slice G E I)].toArray)=some (.agg [.string u,.slice none 0 0,.slice G E I,hH B].toArray):=by kernel_rfl
def XL(u:Int):pr g6 (l1 146 [(3,hH u)].toArray)=some (.agg [.string ⟨#[]⟩,.slice none 0 0,.slice none 0 0,hH u].toArray):=by kernel_rfl
def adu:pr g6 (l1 161 [].toArray)=some (.agg [.string ⟨#[]⟩,hH 0,hH 0].toArray):=by kernel_rfl
def EK(B:ByteArray)(u:Int):pr g6 (l1 161 [(0,.string B),(2,hH u)].toArray)=some (.agg [.string B,hH 0,hH u].toArray):=by kernel_rfl
def Jw(B:Int)(E:Int)(u:Int):pr g6 (l1 164 [(0,hH B),(1,hH E),(3,hH u)].toArray)=some (.agg [hH B,hH E,.string ⟨#[]⟩,hH u].toArray):=by kernel_rfl
def Jy(E:Int)(B:ByteArray)(u:Int):pr g6 (l1 164 [(0,hH E),(2,.string B),(3,hH u)].toArray)=some (.agg [hH E,hH 0,.string B,hH u].toArray):=by kernel_rfl
def EL(B:Int)(u:Int):pr g6 (l1 164 [(0,hH B),(3,hH u)].toArray)=some (.agg [hH B,hH 0,.string ⟨#[]⟩,hH u].toArray):=by kernel_rfl
def XM(u:Int):pr g6 (l1 181 [(0,hH u)].toArray)=some (.agg [hH u,.slice none 0 0].toArray):=by kernel_rfl
def EM(G:Option Addr)(J B:Nat)(M:Option Addr)(I E:Nat)(U:Option Addr)(O V:Nat)(u:Option Nat):pr g6 (l1 187 [(0,.slice G J B),(1,.slice M I E),(2,.slice U O V),(4,.map u)].toArray)=some (.agg [.slice G J B,.slice M I E,.slice U O V,.slice none 0 0,.map u].toArray):=by kernel_rfl
def Pv(B:Int)(u:Int):pr g6 (l1 193 [(0,hH B),(8,hH u)].toArray)=some (.agg [hH B,.string ⟨#[]⟩,.string ⟨#[]⟩,.slice none 0 0,.slice none 0 0,hH 0,hH 0,hH 0,hH u].toArray):=by kernel_rfl
def XN(u:Int):pr g6 (l1 196 [(0,hH u)].toArray)=some (.agg [hH u,.slice none 0 0].toArray):=by kernel_rfl
def XO(E:Option Addr)(B u:Nat):pr g6 (l1 203 [(0,.slice E B u)].toArray)=some (.agg [.slice E B u,hH 0,hH 0,hH 0].toArray):=by kernel_rfl
def XP(u:Int):pr g6 (l1 209 [(3,hH u)].toArray)=some (.agg [hH 0,.string ⟨#[]⟩,hH 0,hH u].toArray):=by kernel_rfl
def Pw(B:Int)(u:Int):pr g6 (l1 227 [(0,hH B),(1,hH u)].toArray)=some (.agg [hH B,hH u].toArray):=by kernel_rfl
def ym:pr g6 (l1 231 [].toArray)=some (.agg [hH 0,hH 0,hH 0,hH 0].toArray):=by kernel_rfl
def AT(u:Int):pr g6 (l1 231 [(0,hH u)].toArray)=some (.agg [hH u,hH 0,hH 0,hH 0].toArray):=by kernel_rfl
def Px(E:Option Addr)(B u:Nat)(G:Int):pr g6 (l1 305 [(0,.slice E B u),(1,hH G)].toArray)=some (.agg [.slice E B u,hH G,hH 0,hH 0,.slice none 0 0].toArray):=by kernel_rfl
def zD(E:Option Addr)(B u:Nat)(G:Int):pr g6 (l1 308 [(0,.slice E B u),(1,hH G)].toArray)=some (.agg [.slice E B u,hH G,hH 0,hH 0].toArray):=by kernel_rfl
def Py(B:Int)(u:Int):pr g6 (l1 308 [(2,hH B),(3,hH u)].toArray)=some (.agg [.slice none 0 0,hH 0,hH B,hH u].toArray):=by kernel_rfl
def EN(B:Int)(u:Int):pr g6 (l1 320 [(0,hH B),(1,hH u)].toArray)=some (.agg [hH B,hH u].toArray):=by kernel_rfl
def XQ:EH g6 231=some [0,0,0,0]:=by kernel_rfl
end Go.Proofs.YtpdlpabnlkofmaaGreatDoor
namespace Go.Fw
def sep(H1 H2:HP):HP where
 p w F:=∃u B,H1.p w u/\H2.p w B/\(∀b,u b->¬ B b)/\∀b,F b↔u b\/B b
 loc w w' F h hh:=by
  obtain⟨u,B,h1,h2,h3,h4⟩:=h
  exact⟨u,B,H1.loc _ _ _ h1 λb hb=>hh b ((h4 b).2 (.inl hb)),H2.loc _ _ _ h2 λb hb=>hh b ((h4 b).2 (.inr hb)),h3,h4⟩
 lt w F b h hb:=by
  obtain⟨u,B,h1,h2,h3,h4⟩:=h
  rcases(h4 b).1 hb with hf|hf
  .exact H1.lt _ _ _ h1 hf
  .exact H2.lt _ _ _ h2 hf
def pK{α:Type}(H:α->HP):HP where
 p w F:=∃x,(H x).p w F
 loc w w' F h hh:=by obtain⟨x,h⟩:=h;exact⟨x,(H x).loc _ _ _ h hh⟩
 lt w F b h hb:=by obtain⟨x,h⟩:=h;exact(H x).lt _ _ _ h hb
def fact(φ:Prop)(H:HP):HP where
 p w F:=φ/\H.p w F
 loc w w' F h hh:=⟨h.1,H.loc _ _ _ h.2 hh⟩
 lt w F b h hb:=H.lt _ _ _ h.2 hb
def emp:HP where
 p _ F:=∀b,¬ F b
 loc _ _ _ h _:=h
 lt _ _ b h hb:=(h b hb).elim
section
variable {P:Program}{w w0 w':World}{A:Nat->Prop}{L:List HP}{H H1 H2:HP}
theorem St.split(h:St w0 A (sep H1 H2::L) w):St w0 A (H1::H2::L) w:=by
 obtain⟨U,F,B,⟨J,G,M,I,O,u⟩,h2,h3,h4,h5⟩:=h.tV
 refine⟨h.aF,U,J,λb=>G b\/B b,M,λb hb=>h2 b ((u b).2 (.inl hb)),λb hb E=>?_,λb=>?_,G,B,I,λb hb=>h2 b ((u b).2 (.inr hb)),λb hb E=>h3 b ((u b).2 (.inr hb)) E,λb=>Iff.rfl,h5⟩
 .grind
 grind
theorem St.join(h:St w0 A (H1::H2::L) w):St w0 A (sep H1 H2::L) w:=by
 obtain⟨U,F,V,h1,h2,h3,h4,u,I,M,B,W,E,J⟩:=h.tV
 refine⟨h.aF,U,λb=>F b\/u b,I,⟨F,u,h1,M,λb hb G=>h3 b hb ((E b).2 (.inl G)),λb=>Iff.rfl⟩,λb hb=>hb.elim (h2 b) (B b),λb hb O=>?_,λb=>?_,J⟩
 .grind
 grind
theorem St.eg{α:Type}{H:α->HP}(h:St w0 A (pK H::L) w):∃x,St w0 A (H x::L) w:=by
 obtain⟨U,F,u,⟨x,h1⟩,h2⟩:=h.tV;exact⟨x,h.aF,U,F,u,h1,h2⟩
theorem St.eh{α:Type}{H:α->HP}(x:α)(h:St w0 A (H x::L) w):St w0 A (pK H::L) w:=by
 obtain⟨U,F,u,h1,h2⟩:=h.tV;exact⟨h.aF,U,F,u,⟨x,h1⟩,h2⟩
theorem St.mq{φ:Prop}(h:St w0 A (fact φ H::L) w):φ/\St w0 A (H::L) w:=by
 obtain⟨U,F,u,⟨x,h1⟩,h2⟩:=h.tV;exact⟨x,h.aF,U,F,u,h1,h2⟩
theorem St.oz{φ:Prop}(x:φ)(h:St w0 A (H::L) w):St w0 A (fact φ H::L) w:=by
 simp_all[fact]
def mP(F:Nat->Prop)(H':HP)(w w':World):Prop:=∃u,H'.p w' u/\(∀b,u b->F b\/w.heap.size<=b)/\gz F w w'
def kP(H:HP)(w w':World):Prop:=∃F,H.p w' F/\(∀b,F b->w.heap.size<=b)/\Ext w w'
theorem St.mut{F:Nat->Prop}(u:St w F (H::L) w'):mP F H w w':=by
 obtain⟨B,h1,h2⟩:=u.head;exact⟨B,h1,h2,u.aF⟩
theorem St.fresh(u:St w aZ (H::L) w'):kP H w w':=by
 obtain⟨B,h1,h2⟩:=u.head;exact⟨B,h1,λb hb=>(h2 b hb).elim (λh=>h.elim) id,u.aF⟩
theorem St.made(u:St w0 A L w)(h:kP H w w'):St w0 A (H::L) w':=by
 obtain⟨F,h1,h2,h3⟩:=h;exact u.new h3 h1 h2
theorem aV{f:FuncId}{args:List Value}{X:Value}{K:Value->g7}(pl:Plain P f)(u:St w0 A L w)(hc:Calls P f args.toArray w (tc λv w'=>v=X/\Ext w w'))(k:∀w',Ext w w'->St w0 A L w'->K X w'):CZ P f args w K:=
 dO pl hc λv w' h=>by obtain⟨rfl,h2⟩:=h;exact k w' h2 (u.ext h2)
theorem dT{f:FuncId}{args:List Value}{H:Value->HP}{K:Value->g7}(pl:Plain P f)(u:St w0 A L w)(hc:Calls P f args.toArray w (tc λv w'=>kP (H v) w w'))(k:∀v w',kP (H v) w w'->St w0 A (H v::L) w'->K v w'):CZ P f args w K:=
 dO pl hc λv w' h=>k v w' h (u.made h)
theorem St.XR{F:Nat->Prop}{B:Nat->Prop}{H':HP}(G:St w0 A (H::L) w)(h2:∀b,F b->A b\/w0.heap.size<=b)(h3:∀b,F b->¬ B b)(h5:rS w0 A L w B)(h:mP F H' w w'):St w0 A (H'::L) w':=by
 obtain⟨M,O,E,J⟩:=h
 refine⟨G.aF.trans J (λ_ h=>h) λb hb u=>(h2 b u).elim id λU=>bM,λb=>M b\/B b,M,B,O,λb hb=>?_,λb hb I=>?_,λb=>Iff.rfl,?_⟩
 .rcases E b hb with u|u
  .exact h2 b u
  exact .inr (te G.aF.size u)
 .rcases E b hb with u|u
  .exact h3 b u I
  have:=h5.lt b I;omega
 exact h5.loc λb hb=>J.bY b (h5.lt b hb) λu=>h3 b u hb
theorem qg{f:FuncId}{args:List Value}{H':Value->HP}{Φ:Value->g7}{K:Value->g7}(pl:Plain P f)(u:St w0 A (H::L) w)
  (hc:∀F,H.p w F->Calls P f args.toArray w (tc λv w'=>Φ v w'/\mP F (H' v) w w')) (k:∀v w',Φ v w'->St w0 A (H' v::L) w'->K v w'):CZ P f args w K:=by
 obtain⟨U,F,G,h1,h2,h3,h4,h5⟩:=u.tV
 exact dO pl (hc F h1) λv w' ⟨B,E⟩=>k v w' B (u.XR h2 h3 h5 E)
end
section
variable {α:Type}[Flat α] {P:Program}{w w0:World}{A S:Nat->Prop}{L:List HP}{xs ys:List α}
theorem cZ.one{v:Value}(h:cZ S w v xs):wF v=true:=by obtain⟨a,c,rfl,_⟩:=h;rfl
theorem G3{T E M R b n cap:Nat}{z:Option Nat}{src:Value}{cs:List Value}(ht:eM P T=some (E,l2 α,M,z))(hb:qd w b cs)(u:cZ S w src ys)
  (U:n+ys.length<=cap) (W:n*l2 α+ys.length*l2 α<=cs.length) :
  ∃w',(Builtin.append_ #[T,T] R [.slice (some ⟨b,0,none⟩) n cap,src].toArray).run P w=.ok (.slice (some ⟨b,0,none⟩) (n+ys.length) cap) w'/\qd w' b (jd cs (n*l2 α) (flat ys))/\gz (· = b) w w':=by
 obtain⟨J,I,hi,V,Y,_⟩:=fp ht
 have rd:=u
 obtain⟨Z,GX,rfl,Xs,B⟩:=rd
 obtain⟨w',h1,h2,h3⟩:=mS (P:=P) (o:=n*l2 α) (flat ys) 0 cs w hb (by rw[dA];omega) AE
 refine⟨w',?_,bM,h3⟩
 have O:=yg (α:=α) (P:=P) (sz:=l2 α) rfl u
 have G:(⟨b,0,none⟩:Addr).add (n*l2 α)=⟨b,n*l2 α,none⟩:=by rw[gK,tx]
 simp[Builtin.append_,run_underlying J,sizeOf,typeInfo,hi,Builtin.lenOf,U,O,V,G,h1]
theorem UE{T E M R b o n c:Nat}{z:α}{cs:List Value}(ht:Wy P T E (l2 α) M)(u:ot P E (hM z))(hb:qd w b cs)(O:o+n*l2 α<=cs.length) :
  ∃w',(Builtin.clear_ #[T] R [.slice (some ⟨b,o,none⟩) n c].toArray).run P w=.ok (.tuple #[]) w'/\qd w' b (jd cs o (flat (qV n z)))/\gz (· = b) w w':=by
 obtain⟨G,J,hi,V,U,_⟩:=fp ht
 unfold ot eo at u
 rw[hi]at u
 simp only[Option.map_some,n4.injEq]at u
 by_cases I:n=0
 .subst I
  refine⟨w,?_,by simpa[kH,jd]using hb,gz.refl _ _⟩
  simp[Builtin.clear_,run_underlying G]
 have B:(Builtin.zeroCells (hM z).cells n).toList=flat (qV n z):=by
  rw[pI,<- wJ]
  unfold Builtin.zeroCells madeCells
  simp[yb]
 obtain⟨w',h1,h2,h3⟩:=mS (P:=P) (o:=o) (flat (qV n z)) 0 cs w hb (by rw[dA,List.length_replicate];omega) AE
 refine⟨w',?_,bM,h3⟩
 simp[Builtin.clear_,run_underlying G,zeroValue,typeInfo,hi,u,I,B,h1]
theorem XS{T E sz I n cap:Nat}{z:Option Nat}{a:Option Addr}{i j k:Int}{K:Value->Prop}(ht:eM P T=some (E,sz,I,z))(O:0<=i)(h1:i<=j)(h2:j<=k)(h3:k<=cap)
  (B:∀v,K v):eT P (nT T (.slice a n cap) (some (hH i)) (some (hH j)) (some (hH k))) K:=by
 obtain⟨u,G,J,M,_⟩:=fp ht
 have hb:pr P (vC true n cap (some (hH i)) (some (hH j)) (some (hH k)))=some (i.toNat,j.toNat,k.toNat):=by
  simp only[vC,cT,fP,ma]
  rw[ji bM bM]
  simp only[ma]
  rw[ji bM bM]
  simp only[ma]
  rw[ji bM bM]
  rfl
 refine⟨.slice (if k.toNat=i.toNat then a else a.map (·.add (i.toNat*sz))) (j.toNat-i.toNat) (k.toNat-i.toNat),?_,B _⟩
 unfold nT
 rw[cT,cS u]
 simp only[ma]
 unfold Qr
 rw[cT,cS u]
 simp only[ma]
 rw[cT,hb]
 simp only[ma]
 rw[cT,mR J,M]
 rfl
end
def nD(b:Nat)(o:Obj):HP where
 p w F:=w.heap[b]?=some o/\∀k,F k↔k=b
 loc w w' F h hh:=⟨(hh b ((h.2 b).2 rfl)).trans h.1,h.2⟩
 lt w F b' h hb:=cJ
section
variable {P:Program}{w w0 w':World}{A:Nat->Prop}{L:List HP}
theorem St.obj{b:Nat}{o:Obj}(u:St w0 A (nD b o::L) w):w.heap[b]?=some o:=by
 obtain⟨F,h,_⟩:=u.head;exact h.1
theorem Ext.alloc(w:World)(o:Obj):Ext w (w.alloc o):=Ext.push w o
theorem St.alloc{o:Obj}(u:St w0 A L w):St w0 A (nD w.heap.size o::L) (w.alloc o):=
 u.new (F:=(· = w.heap.size)) (Ext.alloc w o) ⟨mh w o,λ_=>Iff.rfl⟩ λb hb=>Nat.le_of_eq hb.symm
theorem gz.putObj(w:World)(b:Nat)(o:Obj):gz (· = b) w (w.putObj b o):=
 ⟨rfl,rfl,rfl,ee,λk _ u=>World.putObj_heap_other u⟩
theorem St.putObj{b:Nat}{o:Obj}(u:Obj)(E:St w0 A (nD b o::L) w):St w0 A (nD b u::L) (w.putObj b u):=
 E.rp λF B=>⟨F,⟨World.putObj_heap_same (vg B.1),B.2⟩,λ_ h=>.inl h,(gz.putObj w b u).mono λk G=>(B.2 k).2 G⟩
theorem kD.mono{fv:Value}{args:List Value}{K u:Value->g7}(h:kD P fv args w K)(B:∀v w,K v w->u v w):kD P fv args w u:=
 Hf.mono (P:=P) (k:=.RW fv args) h B
theorem aJ{α:Type}[Flat α]{T:TypeId}{b:Nat}{cs:List Value}{x:α}{K:g7}(B:St w0 A (bY b cs::L) w)(ht:adf P T (l2 α))(E:IH α=true)(u:cs.length=l2 α)
  (k:∀w',St w0 A (bY b (hZ x)::L) w'->K w'):Wu P (Ka T (.pointer (some ⟨b,0,none⟩)) (hM x)) w K:=by
 rw[aa6 E]
 refine EG B ht (yb x) (by rw[tx,u];exact o1 _) (Yk x) λw' h=>k w' ?_
 have:=mj [] cs [] (hZ x) (by rw[yb,u])
 simp only[List.length_nil,List.nil_append,oo]at this
 rwa [this]at h
theorem eP{α:Type}[Flat α]{S:Nat->Prop}{T:TypeId}{p:Value}{x:α}(ht:dD P T=some (IH α,l2 α))(h:At S w p x):(x6 T p).run P w=.ok (hM x) w:=by
 obtain⟨v,h1,h2⟩:=(aD (K:=λv=>v=hM x) ht h rfl).ex
 grind
theorem j5{b:Bool}{A B:Prop}(h:b=true)(a:A):yR (.bool b) A B:=⟨⟨_,rfl,λ_=>a,λu=>cJ⟩⟩
theorem fJ{b:Bool}{A B:Prop}(h:b=false)(a:B):yR (.bool b) A B:=⟨⟨_,rfl,λu=>cJ,λ_=>a⟩⟩
theorem EO{D:Nat}{K:g7}(u:St w0 A (nD D (.deferred (some []))::L) w)(k:∀w',St w0 A L w'->K w'):mQ [D] w K:=
 ⟨u.obj,k _ (u.putObj (.deferred none)).drop⟩
theorem EP(u:Loop)(h1:u.state=.ready)(h2:u.pending=none):({u with state:=if (none:Option Code).isNone=true then LoopState.ready else LoopState.done,pending:=none}:Loop)=u:=by
 cases u;grind
theorem wW{gf np:Nat}{cap:List Value}{xs:List (List Value)}{round:List Value->World->(World->(g7)->Prop)->(Option Code->g7)->Prop}
  {N R:Nat->g7}{X:Nat->Nat->g7}(pl:Plain P gf) (hs:St w0 A L w) (I:Nat->List HP->Prop) (V:Code->List HP->Prop) (h0:I 0 L) (hnp:∀x∈xs,x.length=np)
  (hgf:∀(y:Value) (J:Nat->g7) (Jx:g7) (W:World),(∀k W,J k W->∃Y M,I k M/\St w0 A (Y::M) W)->(∀k W O,J k W->Ext W O->J k O)->J 0 W->
   (∀k args O,xs[k]?=some args->J k O->kD P y args O λv Z=>(v=.bool true/\J (k+1) Z)\/(v=.bool false/\Jx Z))->
   Calls P gf ([y]++cap).toArray W (tc λ_ O=>J xs.length O\/Jx O))
  (EA:∀k args (Y1 Y2:HP) (B:World->(g7)->Prop) (Kr:Option Code->g7) M W,xs[k]?=some args->I k M->
   (∀M E (kk:g7),St w0 A (Y1::M) E->(∀w2,St w0 A (Y2::M) w2->kk w2)->B E kk)->
   (∀M E,St w0 A (Y2::M) E->I (k+1) M->Kr none E)->(∀c M E,St w0 A (Y2::M) E->V c M->Kr (some c) E)->
   St w0 A (Y1::M) W->round args W B Kr)
  (XT:∀D M W,I xs.length M->St w0 A (nD D (.deferred (some []))::M) W->N D W)
  (aiQ:∀D M W,V .ret M->St w0 A (nD D (.deferred (some []))::M) W->R D W)
  (XU:∀id D M W,V (.exit id) M->St w0 A (nD D (.deferred (some []))::M) W->X id D W)
  (Pz:∀c M,V c M->(∃id,c=.exit id)\/c=.ret) :
  AB P (.func (.func gf) #[] cap.toArray) np w round (aft N R X):=by
 refine⟨gf,cap.toArray,rfl,pl,λU iY B0 hy=>?_⟩
 obtain⟨l,hl⟩:∃l,l=w.heap.size+1:=⟨_,rfl⟩
 obtain⟨D,hD⟩:∃D,D=w.heap.size:=⟨_,rfl⟩
 rw[<- hl]at hy |-
 rw[<- hD]
 let J:Nat->g7:=λk W=>∃M,I k M/\St w0 A (nD l (.loop U)::nD D (.deferred (some []))::M) W
 let Jx:g7:=λW=>∃c M,V c M/\St w0 A (nD l (.loop {U with state:=.done,pending:=some c})::nD D (.deferred (some []))::M) W
 have UF:J 0 ((w.alloc (.deferred (some []))).alloc (.loop U)):=by
  refine⟨L,h0,?_⟩
  have h1:=(hs.alloc (o:=.deferred (some []))).alloc (o:=.loop U)
  rw[show(w.alloc (.deferred (some []))).heap.size=l from by rw[hl];exact Cf w _,<- hD]at h1
  exact h1
 have:=hgf (.func (.yield l) #[] #[]) J Jx _ (λk W ⟨M,G,u⟩=>⟨_,M,G,St.join u⟩) (λk W O ⟨M,G,u⟩ e=>⟨M,G,u.ext e⟩) UF ?_
 .have e:([Value.func (.yield l) #[] #[]]++cap).toArray = #[.func (.yield l) #[] #[]]++cap.toArray:=ee
  rw[e]at this
  refine this.mono λx O ⟨v,hx,hv⟩=>⟨v,hx,?_⟩
  rcases hv with⟨M,G,u⟩|⟨c,M,G,u⟩
  .refine⟨.ready,none,ee,?_,?_⟩
   .rw[<- iY,<- B0];exact u.obj
   exact XT D M _ G (u.putObj _).drop
  refine⟨.done,some c,ee,u.obj,?_⟩
  rcases Pz c M G with⟨id,rfl⟩|rfl
  .exact XU id D M _ G (u.putObj _).drop
  exact aiQ D M _ G (u.putObj _).drop
 intro k args W hk ⟨M,G,u⟩
 refine⟨.inr ⟨l,rfl,?_⟩⟩
 refine hy args W _ (hnp args (kp hk)) u.obj ?_
 refine EA k args (sep (nD l (.loop U)) (nD D (.deferred (some [])))) (sep (nD l (.loop {U with state:=.busy})) (nD D (.deferred (some [])))) _ _ M W hk G
  (λM E kk h1 h2=>?_) (λM E h1 h2=>?_) (λc M E h1 h2=>?_) (St.join u)
 .have h1:=h1.split
  exact⟨h1.obj,h2 _ (h1.putObj _).join⟩
 .have h1:=h1.split
  refine⟨h1.obj,.inl ⟨rfl,M,h2,?_⟩⟩
  have:=h1.putObj (.loop {U with state:=if (none:Option Code).isNone=true then LoopState.ready else LoopState.done,pending:=none})
  rw[EP U iY B0]at this |-
  exact this
 have h1:=h1.split
 exact⟨h1.obj,.inr ⟨rfl,c,M,h2,h1.putObj _⟩⟩
end
section
variable {P:Program}{w w0:World}{A S:Nat->Prop}{L:List HP}
theorem ru{t:Array TypeId}{T:TypeId}{a b:Int}{K:Value->Prop}(k:K (hH (min a b))):eT P (Builtin.min_ t T [hH a,hH b].toArray) K:=by
 refine⟨_,?_,k⟩
 show pr P (Builtin.min2 (hH a) (hH b))=_
 unfold Builtin.min2
 by_cases h:b<a
 .simp[h,fP];omega
 simp[h,fP];omega
theorem DY{t:Array TypeId}{T:TypeId}{a b:Int}{K:Value->Prop}(k:K (hH (max a b))):eT P (Builtin.max_ t T [hH a,hH b].toArray) K:=by
 refine⟨_,?_,k⟩
 show pr P (Builtin.max2 (hH a) (hH b))=_
 unfold Builtin.max2
 by_cases h:a<b
 .simp[h,fP];omega
 simp[h,fP];omega
theorem L5{α β:Type}[Flat α][Flat β]{T f u:Nat}{p:Value}{x:α}(y:β){K:Value->Prop}(ht:wG P T f u)(h:At S w p x)(E:((hZ x).drop u).take (l2 β)=hZ y)
  (k:∀q,At S w q y->K q):eT P (Fp T p f) K:=by
 obtain⟨b,o,rfl,h2,h3⟩:=h
 refine aA ht (k _ ⟨b,o+u,rfl,h2,λj c B=>?_⟩)
 grind
end
section
variable {P:Program}{α:Type}[Flat α] {A:Nat->Prop}{w0 w:World}{L:List HP}{xs:List α}
def PA(α:Type)[Flat α](v:Value)(i u:Nat)(p:Value):Prop:=∃b n c,v=.slice (some ⟨b,0,none⟩) n c/\p=.pointer (some ⟨b,i*l2 α+u,none⟩)
theorem mr{T f u i:Nat}{v p:Value}{K:Value->Prop}(ht:wG P T f u)(h:Hx α v i p)(k:∀q,PA α v i u q->K q):eT P (Fp T p f) K:=by
 obtain⟨b,n,c,h1,rfl⟩:=h
 exact aA ht (k _ ⟨b,n,c,h1,rfl⟩)
theorem nE{β:Type}[Flat β]{T:Nat}{v p:Value}{i u:Nat}{x:α}(y:β){K:Value->Prop}(I:St w0 A (bH v xs::L) w)(ht:dD P T=some (IH β,l2 β))(J:PA α v i u p)(G:xs[i]?=some x)
  (M:((hZ x).drop u).take (l2 β)=hZ y) (k:K (hM y)):KQ P (x6 T p) w K:=by
 obtain⟨F,h,_⟩:=I.head
 obtain⟨b,cap,rest,O,hb,V,_⟩:=rK h (j0.1 G).1
 obtain⟨U,n,c,E,rfl⟩:=J
 rw[O]at E
 simp only[yA.injEq,n4.injEq,Addr.mk.injEq]at E
 obtain⟨⟨rfl,_,_⟩,_,_⟩:=E
 refine aD (S:=λ_=>True) ht ⟨b,i*l2 α+u,rfl,trivial,λj c B=>hb.cell ?_⟩ k
 rw[<- M,List.getElem?_take]at B
 split at B
 .rw[IT]at B
  have:=rT G B
  rw[NP,s4 (j0.1 this).1];exact this
 cases B
theorem XV{β:Type}[Flat β]{T:Nat}{v p:Value}{i u:Nat}{K:g7}{x:α}(y:α)(z:β)(M:St w0 A (bH v xs::L) w)(ht:dD P T=some (IH β,l2 β))(hp:PA α v i u p)(O:xs[i]?=some x)
  (hlen:u+l2 β<=l2 α) (hy:(hZ x).take u++hZ z++(hZ x).drop (u+l2 β)=hZ y)
  (k:∀w',St w0 A (bH v (xs.set i y)::L) w'->K w'):Wu P (Ka T p (hM z)) w K:=by
 obtain⟨U,F,U',g1,V,Z,g4,g5⟩:=M.tV
 have hi:=(j0.1 O).1
 obtain⟨b,cap,rest,Y,hb,W,J⟩:=rK g1 hi
 obtain⟨b',n,c,E,rfl⟩:=hp
 rw[Y]at E
 simp only[yA.injEq,n4.injEq,Addr.mk.injEq]at E
 obtain⟨⟨rfl,_,_⟩,_,_⟩:=E
 have GY:=zB O
 have Pp:(flat (xs.take i)).length=i*l2 α:=by rw[dA,lY,Gz bM]
 have L6:i*l2 α+l2 α<=(flat xs).length:=by
  rw[dA,<- Nat.succ_mul];exact Nat.mul_le_mul_right _ hi
 have hxl:(hZ x).length=l2 α:=yb x
 have B:(hZ z).length=l2 β:=yb z
 obtain⟨w',h1,h2,h3⟩:=mS (P:=P) (o:=i*l2 α+u) (hZ z) 0 (flat xs++rest) w hb (by rw[B,kU];omega) (Yk z)
 have GS:jd (flat xs++rest) (i*l2 α+u+0) (hZ z)=flat (xs.set i y)++rest:=by
  have:=mj (flat (xs.take i)++(hZ x).take u) (((hZ x).drop u).take (l2 β)) ((hZ x).drop (u+l2 β)++flat (xs.drop (i+1))++rest) (hZ z)
   (by rw[B,lY,qa];omega)
  rw[kU,Pp,lY,Gz bM]at this
  rw[PQ,LD y hi,GY,<- hy]
  have e1:hZ x=(hZ x).take u++((hZ x).drop u).take (l2 β)++(hZ x).drop (u+l2 β):=by
   rw[<- sZ,nk,o6,o6]
  have e2:flat (xs.take i)++hZ x++flat (xs.drop (i+1))++rest=flat (xs.take i)++(hZ x).take u++((hZ x).drop u).take (l2 β)++((hZ x).drop (u+l2 β)++flat (xs.drop (i+1))++rest):=by
   conv=>lhs;rw[e1]
   simp only[nk]
  rw[e2,this]
  simp only[nk]
 rw[GS]at h2
 refine⟨w',?_,k w' ⟨M.aF.trans (h3.mono λk G=>(J k).2 G) (λ_ h=>h) λb hb I=>(V b I).elim id λhh=>bM,U,F,U',?_,V,Z,g4,
  g5.loc λb hb=>(h3.mono λk G=>(J k).2 G).bY b (g5.lt b hb) λI=>Z b I hb⟩⟩
 .show(storeVar T ⟨b,i*l2 α+u,none⟩ (hM z)).run P w=_
  unfold storeVar
  rw[eJ (fY (lB ht).2 w),pI]
  simp only[List.size_toArray,yb,ne_eq,not_true_eq_false,if_false]
  exact h1
 refine .inr ⟨b,cap,rest,by rw[G6];exact Y,h2,?_,J⟩
 rw[kU,dA]at W |-;rw[G6];exact W
theorem vm{T:Nat}{b o:Nat}{cs:List Value}(x:α){K:Value->Prop}(ht:dD P T=some (IH α,l2 α))(hb:qd w b cs)(B:(cs.drop o).take (l2 α)=hZ x)(k:K (hM x)) :
  KQ P (x6 T (.pointer (some ⟨b,o,none⟩))) w K:=by
 refine aD (S:=λ_=>True) ht ⟨b,o,rfl,trivial,λj c u=>hb.cell ?_⟩ k
 grind
end
structure SV where
 a:Option Addr
 n:Nat
 cap:Nat
abbrev bW:SV:=⟨none,0,0⟩
instance:Flat SV where
 agg:=false
 sz:=1
 enc s:=[.slice s.a s.n s.cap]
 val s:=.slice s.a s.n s.cap
 pos:=dC
 len _:=rfl
 one a v h:=by rw[ua.1 h];rfl
 nV h:=by cases h
 nW _ _:=rfl
section
variable {P:Program}{α:Type}[Flat α] {A:Nat->Prop}{w0 w:World}{L L':List HP}{v:Value}
def rows:List SV->List (List α)->HP
 | [],[]=>emp
 | s::ss,x::xs=>sep (bH (hM s) x) (rows ss xs)
 | _,_=>fact False emp
theorem L7:∀{u:List SV}{xs:List (List α)}{F:Nat->Prop},(rows u xs).p w F->u.length=xs.length
 | [],[],_,_=>rfl
 | s::u,x::xs,F,h=>by
  obtain⟨E,B,_,h2,_,_⟩:=h
  rw[ob,ob,L7 h2]
 | [],_::_,_,h=>h.1.elim
 | _::_,[],_,h=>h.1.elim
theorem HE:∀{E:List SV}{xs:List (List α)}{B u F:Nat->Prop}{s:SV}{x:List α},(rows E xs).p w B->(bH (hM s) x).p w u->(∀b,B b->¬ u b)->(∀b,F b↔B b\/u b)->(rows (E++[s]) (xs++[x])).p w F
 | [],[],B,u,F,s,x,h1,h2,_,h4=>by
  refine⟨u,B,h2,h1,λb hb U=>h1 b U,λb=>?_⟩
  grind
 | s'::E,x'::xs,B,u,F,s,x,h1,h2,h3,h4=>by
  obtain⟨G,I,O,M,V,J⟩:=h1
  refine⟨G,λb=>I b\/u b,O,HE M h2 (λb hb=>h3 b ((J b).2 (.inr hb))) (λb=>Iff.rfl),λb hb=>?_,λb=>?_⟩
  .grind
  grind
 | [],_::_,_,_,_,_,_,h,_,_,_=>h.1.elim
 | _::_,[],_,_,_,_,_,h,_,_,_=>h.1.elim
theorem St.AU{u:List SV}{xs:List (List α)}(B:St w0 A (rows u xs::L) w):u.length=xs.length:=by
 obtain⟨F,h,_⟩:=B.head;exact L7 h
theorem St.adv(u:St w0 A L w):St w0 A (rows [] ([]:List (List α))::L) w:=
 u.new (Ext.refl w) (F:=aZ) (λ_ h=>h) λ_ h=>h.elim
theorem St.ER{u:List SV}{xs:List (List α)}{s:SV}{x:List α}(B:St w0 A (rows u xs::bH (hM s) x::L) w):St w0 A (rows (u++[s]) (xs++[x])::L) w:=by
 have h:=St.join B
 refine h.rp λF E=>?_
 obtain⟨I,G,h1,h2,h3,h4⟩:=E
 exact⟨F,HE h1 h2 h3 h4,λb hb=>.inl hb,gz.refl _ _⟩
theorem St.fV{xs:List α}(u:St w0 A (bH v xs::L) w):∃s:SV,v=hM s:=by
 obtain⟨F,h,_⟩:=u.head
 rcases h with⟨rfl,_⟩|⟨b,cap,_,rfl,_⟩
 .exact⟨⟨none,0,0⟩,rfl⟩
 exact⟨⟨_,_,_⟩,rfl⟩
theorem cZ.fV{S:Nat->Prop}{xs:List α}(h:cZ S w v xs):∃s:SV,v=hM s:=by
 obtain⟨a,cap,rfl,_⟩:=h;exact⟨⟨_,_,_⟩,rfl⟩
def awz(w:World)(v:Value)(xs:List (List α)):Prop:=
 ∃u:List SV,cZ (λ_=>True) w v u/\u.length=xs.length/\∀(i:Nat) (s:SV) (x:List α),u[i]?=some s->xs[i]?=some x->cZ (λ_=>True) w (hM s) x
end
section
variable {P:Program}
theorem jL{α:Type}[Flat α]{S:Nat->Prop}{w:World}{xs:List α}{T E B:Nat}{z:Option Nat}{v:Value}{i:Int}{K:Value->Prop}(ht:eM P T=some (E,l2 α,B,z))(G:cZ S w v xs)(I:0<=i)(h2:i<=xs.length)
  (k:∀u,(∀w',cZ S w' v xs->cZ S w' u (xs.take i.toNat))->K u):eT P (nT T v none (some (hH i)) none) K:=by
 obtain⟨a,cap,rfl,J,h3⟩:=G
 refine⟨_,wH ht (ou (.inl ⟨rfl,rfl⟩) (.inr ⟨i,rfl,I,rfl⟩) (la _) bM),k _ λw' h=>?_⟩
 have:=h.cut rfl (la i.toNat) bM
 grind
end
open Go.ChangeShapes Go.WideShapes Go.ChangeAt Go.RowKit
structure RdT(P:Program)(t:TypeId)(α:Type)[Flat α](φ:α->Prop):Prop where
 cells:P.cellsOf t=l2 α
 rd:∀{H:Type}(enc:TypeId×Value->H) (w:World) (base:Nat) (sp:Nat->Bool) (held:Bool) (fuel:Nat) (cs:List Value) (x:DataW H×List MemPlace),
  DataW.trod enc P w base sp held fuel t cs=some x->∃a:α,cs=hZ a/\φ a
def eX(n:Int):Prop:=-9223372036854775808<=n/\n<=9223372036854775807
def aiR{P:Program}{t:TypeId}(ht:P.underlying t=some (.int .i64))(hc:P.cellsOf t=1):RdT P t Int eX:=
 ⟨hc,λenc w base u held fuel cs x h=>by
  obtain⟨n,h1,_,h3⟩:=DataW.trod_int ht h
  refine⟨n,h1,?_⟩
  simpa[Lit.wf,IntKind.min,IntKind.max,IntKind.signed,IntKind.bits,eX]using h3⟩
def aiS{P:Program}{t:TypeId}(ht:P.underlying t=some .string)(hc:P.cellsOf t=1):RdT P t ByteArray (λs=>s.size<=maxLen):=
 ⟨hc,λenc w base u held fuel cs x h=>by
  obtain⟨n,h1,_,h2⟩:=DataW.trod_string ht h
  exact⟨n,h1,h2⟩⟩
def mu{H:Type}{enc:TypeId×Value->H}{P:Program}{w:World}{base:Nat}{B:Nat->Bool}{held:Bool}{fuel:Nat}{t:TypeId}{u:Array Field}{cs:List Value}{x:DataW H×List MemPlace}
  (ht:P.underlying t=some (.struct u)) (h:DataW.trod enc P w base B held fuel t cs=some x) :
  cs.length=P.cellsOf t/\∃n,∀(i:Nat) (f:Field),u[i]?=some f->∃y,DataW.trod enc P w base B held n f.type ((cs.drop f.offset).take (P.cellsOf f.type))=some y:=by
 obtain⟨xs,n,_,_,I,E,J⟩:=DataW.trod_struct ht h
 refine⟨I,n,λi f hi=>?_⟩
 have G:i<xs.length:=by rw[E];exact(Array.getElem?_eq_some_iff.1 hi).1
 exact⟨xs[i],by rw[J i f hi,kO G]⟩
def ea{cs:List Value}{o s:Nat}{r:List Value}(h:(cs.drop o).take s=r):cs.drop o=r++cs.drop (o+s):=by
 rw[<- h,<- sZ,o6]
theorem adw{α:Type}{p:Nat->α->Prop}:∀n,(∀i,i<n->∃x,p i x)->∃xs:List α,xs.length=n/\∀i x,xs[i]?=some x->p i x:=by
 intro n
 induction n with
 | zero=>simp_all
 | succ n u=>
  intro h
  obtain⟨xs,h1,h2⟩:=u λi hi=>h i bM
  obtain⟨x,B⟩:=h n bM
  refine⟨xs++[x],by simp[h1],λi y E=>?_⟩
  grind
def PB{α:Type}[Flat α]{xs:List α}{j:Nat}{c:Value}(h:(flat xs)[j]?=some c):∃i r x,xs[i]?=some x/\(hZ x)[r]?=some c/\j=i*l2 α+r:=by
 have u:j<(flat xs).length:=(j0.1 h).1
 rw[dA]at u
 have E:0<l2 α:=Yw
 have hi:j / l2 α<xs.length:=Nat.div_lt_of_lt_mul cJ
 have G:j % l2 α<l2 α:=aaG _ E
 have I:j=j / l2 α*l2 α+j % l2 α:=by rw[Nat.mul_comm];exact(Nat.div_add_mod _ _).symm
 have B:xs[j / l2 α]?=some (xs[j / l2 α]):=kO hi
 have hc:(hZ (xs[j / l2 α]))[j % l2 α]?=some ((hZ (xs[j / l2 α]))[j % l2 α]'(by rw[yb];exact G)):=kO _
 have:=rT B hc
 grind
section
variable {H:Type}{enc:TypeId×Value->H}{P:Program}{w:World}{base:Nat}{held:Bool}
theorem open_i64{r:Reach}{E:Nat}{t:TypeId}{v:Value}{d:DataW H}{ps:List MemPlace}{B:Nat->Bool}(ht:P.underlying t=some (.int .i64))(u:P0 P w r E t v)(hd:DataW.Trod enc P w base B held t v d ps) :
  ∃n,v=hH n/\eX n:=by
 obtain⟨n,h1,_,_,h4⟩:=open_int ht u hd
 exact⟨n,h1,by simpa[Lit.wf,IntKind.min,IntKind.max,IntKind.signed,IntKind.bits,eX]using h4⟩
def Jz(P:Program)(ts:List TypeId):Bool:=ts.all λt=>P.readableRec t&&decide (t<P.types.size)
theorem yY(G:laidOutB P=true){W I:World}(hb:Below W.heap.size W I){E:Nat->Bool}:∀{ts:List TypeId}{vs:List Value}{ds:List (DataW H)}{ps:List MemPlace},Jz P ts=true->(∀x∈ps,x.block<W.heap.size)->
  (∀x∈ps,E x.block=true)->DataW.TrodAll enc P W 0 (λ_=>true) true ts vs ds ps->DataW.TrodAll enc P I 0 E true ts vs ds ps
 | [],vs,ds,ps,_,_,_,h=>by obtain⟨rfl,rfl,rfl⟩:=trodAll_nil h;exact trodAll_mk0
 | t::ts,vs,ds,ps,hr,nM,GY,h=>by
  obtain⟨v,M,d,J,a,b,rfl,rfl,rfl,h1,h2⟩:=trodAll_cons h
  have B:P.readableRec t=true/\t<P.types.size/\Jz P ts=true:=by
   grind[Jz]
  refine trodAll_cons_mk (WideElems.Trod_stays G B.1 B.2.1 h1 (λx u=>hb.same (nM x (List.mem_append_left _ u))) λx u=>GY x (List.mem_append_left _ u)) ?_
  exact yY G hb B.2.2 (λx u=>nM x (List.mem_append_right _ u)) (λx u=>GY x (List.mem_append_right _ u)) h2
theorem post_true{f:Func}{s:ChangeSpec}{apart fresh handsOn again:Bool}{W I:World}{args:Array Value}{ds gs:List (DataW H)}{before:List MemPlace}{tb:TypeId}
  (V:s.vars=[]) (hfn:∀ds:List (DataW H),ds.length=f.params.size->s.fn H ds={results:=[.lit (.bool true)],args:=ds}) (Y:f.resultTypes = #[tb]) (M:P.underlying tb=some .bool)
  (hl:laidOutB P=true) (aiT:Jz P f.params.toList=true)
  (hW:DataW.Whole enc P f.params.toList s.vars apart W args.toList ds gs before) (hb:Below W.heap.size W I) :
  s.post enc P f apart fresh handsOn again W args (.bool true) I:=by
 have J:=hW
 obtain⟨p,q,hA,hV,O,hz,hn⟩:=hW
 have nM:∀x∈before,x.block<W.heap.size:=J.lt
 rw[V]at hV
 obtain⟨rfl,rfl⟩:=trodVars_none hV
 simp only[oo]at O
 have hlen:ds.length=f.params.size:=by
  have:=(trodAll_length hA).2
  omega
 have E:=hfn ds hlen
 have Z:∀(b:Nat) (B:Nat->Bool) (hd:Bool),DataW.TrodAll enc P I b B hd f.resultTypes.toList ((xc true).resultList f.resultTypes.size) (s.fn H (ds++[])).results []:=λb B hd=>by
  rw[oo,E,Y]
  exact trodAll_mk1 (shut_bool M true)
 have u:∀B:Nat->Bool,(∀p∈before,B p.block=true)->DataW.TrodAll enc P I 0 B true f.params.toList args.toList (s.fn H (ds++[])).args before:=λB GY=>by
  rw[oo,E]
  rw[O]at nM GY |-
  exact yY hl hb aiT nM GY hA
 have XW:∀B:Nat->Bool,DataW.TrodVars enc P I B s.vars (s.fn H (ds++[])).vars []:=λB=>by
  rw[oo,E,V];rfl
 have jT:∀(j:Nat) (t:TypeId) (r:Value),f.resultTypes[j]?=some t->((xc true).resultList f.resultTypes.size)[j]?=some r->P0 P I .any 0 t r:=
  ok_one Y rfl (okWide_bool_mk M true)
 have hold:∀p∈before,(λb=>decide (b<W.heap.size)) p.block=true:=λp hp=>cJ
 refine⟨ds,[],before,[],before,[],J,Z _ _ _,u _ hold,XW _,World.keptBut_mono (λp hp=>⟨hp,?_⟩) (hb.frame (·∈before)),λ_=>?_⟩
 .grind
 refine⟨jT,_,_,([]++before)++[],⟨[]++before,[],trodAll_append (u _ λ_ _=>rfl) (Z _ _ _),XW _,rfl,?_,?_⟩,?_⟩
 .intro b G hp
  have U:MemPlace.cell b G∈before:=cJ
  rw[hb.frozen (p:=⟨b,G,none⟩) (nM _ U)]
  exact hz b G U
 .grind
 grind
end
section
variable {P:Program}{α:Type}[Flat α]
def aoQ(P:Program)(T n E:Nat):Prop:=P.underlying T=some (.array n E)/\pr P (sizeOf E)=some 1
theorem oY{T E n b o:Nat}{i:Int}{K:Value->Prop}(h:aoQ P T n E)(G:0<=i)(h1:i<n)(k:K (.pointer (some ⟨b,o+i.toNat,none⟩))) :
  eT P (FP T (.pointer (some ⟨b,o,none⟩)) (hH i)) K:=by
 refine⟨_,?_,k⟩
 unfold FP
 have B:pr P (underlying T)=some (.array n E):=cS h.1
 have u:pr P (Instr.sureAddr (.pointer (some (⟨b,o,none⟩:Addr))))=some ⟨b,o,none⟩:=rfl
 simp only[asIntOf,cT,B,ma,fP,u]
 simp only[ej (show 0<=i/\i<(n:Int)from⟨G,h1⟩),cT,h.2,ma,fP,gK,Nat.mul_one]
end
def SC{α:Type}[Flat α]{P:Program}{w w0:World}{A:Nat->Prop}{L:List HP}{xs:List α}{T:Nat}{v p:Value}{i:Nat}{x:α}(E:St w0 A (bH v xs::L) w)(ht:dD P T=some (IH α,l2 α))(I:Hx α v i p)(B:xs[i]?=some x) :
  (x6 T p).run P w=.ok (hM x) w:=by
 obtain⟨F,h,_⟩:=E.head
 obtain⟨b,cap,rest,J,hb,O,_⟩:=rK h (j0.1 B).1
 obtain⟨M,n,c,u,rfl⟩:=I
 rw[J]at u
 simp only[yA.injEq,n4.injEq,Addr.mk.injEq]at u
 obtain⟨⟨rfl,_,_⟩,_,_⟩:=u
 refine eP (S:=λ_=>True) ht ⟨b,i*l2 α,rfl,trivial,λj c G=>hb.cell ?_⟩
 have:=rT B G
 rw[s4 (j0.1 this).1];exact this
class Deep (α:Type) (σ:outParam Type) [Flat σ] where
 dr:World->σ->α->Prop
 ext:∀{w w':World}{s:σ}{x:α},dr w s x->Ext w w'->dr w' s x
def DL{α σ:Type}[Flat σ][Deep α σ](w:World)(v:Value)(xs:List α):Prop:=
 ∃ts:List σ,cZ (λ_=>True) w v ts/\ts.length=xs.length/\∀(i:Nat) (t:σ) (x:α),ts[i]?=some t->xs[i]?=some x->Deep.dr w t x
section
variable {P:Program}{α σ:Type}[Flat σ] [Deep α σ] {w w' w0:World}{v:Value}{A:Nat->Prop}{L:List HP}
theorem DL.ext{xs:List α}(h:DL w v xs)(e:Ext w w'):DL w' v xs:=by
 obtain⟨ts,h1,h2,h3⟩:=h;exact⟨ts,h1.ext e,h2,λi t x a b=>Deep.ext (h3 i t x a b) e⟩
theorem DL.nil(w:World):DL w (.slice none 0 0) ([]:List α):=⟨[],cZ.nil _ _,rfl,λi t x h=>by simp at h⟩
theorem DL.fV{xs:List α}(h:DL w v xs):∃s:SV,v=hM s:=by obtain⟨_,h,_⟩:=h;exact h.fV
instance:Deep (List α) SV where
 dr w s xs:=DL w (hM s) xs
 ext h e:=DL.ext h e
def eA(Φ:g7):HP where
 p w F:=(∀w':World,(∀b,F b->w'.heap[b]?=w.heap[b]?)->Φ w')/\∀b,F b->b<w.heap.size
 loc w w' F h hh:=⟨λu h2=>h.1 u λb hb=>(h2 b hb).trans (hh b hb),λb hb=>by
  grind⟩
 lt w F b h hb:=h.2 b hb
theorem eA.now{Φ:g7}{F:Nat->Prop}(h:(eA Φ).p w F):Φ w:=h.1 w λ_ _=>rfl
theorem St.eA{Φ:g7}(u:St w0 A (eA Φ::L) w):Φ w:=by obtain⟨F,h,_⟩:=u.head;exact eA.now h
theorem St.dF{Φ Ψ:g7}(B:St w0 A (Fw.eA Φ::L) w)(E:∀w,Φ w->Ψ w):St w0 A (Fw.eA Ψ::L) w:=
 B.rp λF u=>⟨F,⟨λw' h=>E _ (u.1 w' h),u.2⟩,λb hb=>.inl hb,gz.refl _ _⟩
theorem St.gd{Φ Ψ:g7}(B:St w0 A (Fw.eA Φ::Fw.eA Ψ::L) w):St w0 A (Fw.eA (λw=>Φ w/\Ψ w)::L) w:=by
 have h:=St.join B
 refine h.rp λF E=>?_
 obtain⟨I,G,h1,h2,h3,h4⟩:=E
 refine⟨F,⟨λw' u=>⟨h1.1 w' λb hb=>u b ((h4 b).2 (.inl hb)),h2.1 w' λb hb=>u b ((h4 b).2 (.inr hb))⟩,λb hb=>?_⟩,λb hb=>.inl hb,gz.refl _ _⟩
 rcases(h4 b).1 hb with hb|hb
 .exact h1.2 b hb
 exact h2.2 b hb
theorem St.fH{Φ:g7}(u:St w0 A L w)(h:∀w,Φ w):St w0 A (Fw.eA Φ::L) w:=
 u.new (Ext.refl w) (F:=aZ) ⟨λw' _=>h w',λb hb=>hb.elim⟩ λ_ h=>h.elim
theorem St.freeze{xs:List σ}(B:St w0 A (bH v xs::L) w):St w0 A (Fw.eA (λw=>cZ (λ_=>True) w v xs)::L) w:=
 B.rp λF u=>⟨F,⟨λw' h=>(bH.rd ((bH v xs).loc _ _ _ u h)).mono λ_ _=>trivial,λb hb=>(bH v xs).lt _ _ _ u hb⟩,λb hb=>.inl hb,gz.refl _ _⟩
theorem St.rL{b:Nat}{cs:List Value}(B:St w0 A (bY b cs::L) w):St w0 A (Fw.eA (λw=>qd w b cs)::L) w:=
 B.rp λF u=>⟨F,⟨λw' h=>((bY b cs).loc _ _ _ u h).1,λk E=>(bY b cs).lt _ _ _ u E⟩,λb hb=>.inl hb,gz.refl _ _⟩
def fR(ts:List σ)(xs:List α)(w:World):Prop:=ts.length=xs.length/\∀(i:Nat) (t:σ) (x:α),ts[i]?=some t->xs[i]?=some x->Deep.dr w t x
theorem fR.nil:fR ([]:List σ) ([]:List α) w:=⟨rfl,λi t x h=>by simp at h⟩
theorem fR.snoc{ts:List σ}{xs:List α}{t:σ}{x:α}(h:fR ts xs w)(ht:Deep.dr w t x):fR (ts++[t]) (xs++[x]) w:=by
 grind[fR]
theorem fR.append{ts us:List σ}{xs ys:List α}(h:fR ts xs w)(g:fR us ys w):fR (ts++us) (xs++ys) w:=by
 grind[fR]
theorem fR.ext{ts:List σ}{xs:List α}(h:fR ts xs w)(e:Ext w w'):fR ts xs w':=⟨h.1,λi t x a b=>Deep.ext (h.2 i t x a b) e⟩
theorem DL.of{ts:List σ}{xs:List α}(h:cZ (λ_=>True) w v ts)(g:fR ts xs w):DL w v xs:=⟨ts,h,g.1,g.2⟩
theorem DL.open{xs:List α}(h:DL w v xs):∃ts:List σ,cZ (λ_=>True) w v ts/\fR ts xs w:=by obtain⟨ts,h1,h2,h3⟩:=h;exact⟨ts,h1,h2,h3⟩
theorem fR.take{ts:List σ}{xs:List α}(h:fR ts xs w)(k:Nat):fR (ts.take k) (xs.take k) w:=by
 grind[fR]
theorem fR.drop{ts:List σ}{xs:List α}(h:fR ts xs w)(k:Nat):fR (ts.drop k) (xs.drop k) w:=by
 grind[fR]
end
section
variable {α:Type}[Flat α]
abbrev iZ:Deep α α:=⟨λ_ s x=>s=x,λh _=>h⟩
theorem HF[D:Deep α α](hD:∀w s x,D.dr w s x↔s=x){w:World}{ts xs:List α}:fR ts xs w↔ts=xs:=by
 constructor
 .rintro⟨h1,h2⟩
  refine List.ext_getElem? λi=>?_
  grind
 grind[fR]
end
instance:Deep Int Int:=iZ
instance:Deep Bool Bool:=iZ
instance:Deep ByteArray ByteArray:=iZ
structure RdW(P:Program)(w:World)(t:TypeId)(α:Type)[Flat α](φ:α->Prop):Prop where
 cells:P.cellsOf t=l2 α
 rd:∀{H:Type}(enc:TypeId×Value->H) (base:Nat) (held:Bool) (fuel:Nat) (cs:List Value) (x:DataW H×List MemPlace),
  DataW.trod enc P w base (λ_=>true) held fuel t cs=some x->∃a:α,cs=hZ a/\φ a
def yZ(P:Program)(t:TypeId)(α:Type){σ:Type}[Flat σ][Deep α σ](φ:α->Prop):Prop:=∀w,RdW P w t σ (λs=>∃a:α,Deep.dr w s a/\φ a)
def RdT.deep{P:Program}{t:TypeId}{α:Type}[Flat α][D:Deep α α]{φ:α->Prop}(h:RdT P t α φ)(hD:∀w (x:α),D.dr w x x):yZ P t α φ:=
 λw=>⟨h.cells,λenc base held fuel cs x u=>by
  obtain⟨a,h1,h2⟩:=h.rd enc w base _ held fuel cs x u;exact⟨a,h1,a,hD w a,h2⟩⟩
section
variable {H:Type}{enc:TypeId×Value->H}{P:Program}{w:World}{base:Nat}{held:Bool}
theorem L8{α:Type}[Flat α]{φ:α->Prop}{t e:TypeId}{fuel:Nat}{cs:List Value}{x:DataW H×List MemPlace}(ht:P.underlying t=some (.slice e))(O:RdW P w e α φ)
  (h:DataW.trod enc P w base (λ_=>true) held fuel t cs=some x):∃v,cs=[v]/\∃xs:List α,cZ (λb=>b<w.heap.size) w v xs/\∀x∈xs,φ x:=by
 rcases DataW.trod_slice ht h with⟨rfl,_⟩|⟨a,len,cap,elems,rest,n,_,rfl,_,hb,hl,hm,hlen,W,GY,_⟩
 .exact⟨_,rfl,[],cZ.nil _ _,ee⟩
 refine⟨_,rfl,?_⟩
 have get:∀i,i<len->∃x:α,φ x/\w.cells? base (a.add (i*P.cellsOf e)) (P.cellsOf e)=some (hZ x):=by
  intro i hi
  have h1:=W i hi
  rw[kO bM]at h1
  obtain⟨cs',h2,h3⟩:=OP.1 h1
  obtain⟨x,rfl,E⟩:=O.rd enc base held n cs' _ h3
  grind
 obtain⟨xs,J,I⟩:=adw len get
 have V:=O.cells
 have U:0<l2 α:=Yw
 have first:∀(c:Nat) (cs':List Value),w.cells? base (a.add (c*P.cellsOf e)) (P.cellsOf e)=some cs'->c=0->a.spot=none:=by
  intro c cs' h1 G
  subst G
  have:=YK h1
  have h2:=this.2.2 0 bM
  rw[Nat.zero_mul]at h2
  have h3:w.cell? a=cs'[0]?:=by simpa[Addr.add]using h2
  rw[kO bM]at h3
  unfold World.cell? at h3
  split at h3
  .simp_all
  .cases h3
 refine⟨xs,⟨some a,cap,by rw[J],bM,?_⟩,λx E=>?_⟩
 .by_cases Dv:cap=0
  .simp_all
  right
  have B:a.spot=none:=by
   by_cases G:0<len
   .grind
   .obtain⟨h1,h2⟩:=GY rfl
    have h3:=h2 0 bM
    rw[kO bM]at h3
    obtain⟨cs',h4,_⟩:=OP.1 h3
    grind
  have u:∀j c,(flat xs)[j]?=some c->Cell w a.block (a.off+j) c:=by
   intro j c Y
   obtain⟨i,r,x,E,M,rfl⟩:=PB Y
   have h1:=(YK (I i x E).2).2.2 r (by rw[V];have:=(j0.1 M).1;rwa [yb]at this)
   rw[M,V]at h1
   obtain⟨b,o,s⟩:=a
   simp only at B
   subst B
   unfold Cell
   rw[<- h1,gK,gK,NP]
  refine⟨a.block,a.off,by obtain⟨b,o,s⟩:=a;grind,λZ=>?_,u⟩
  obtain⟨y,ys,rfl⟩:=List.exists_cons_of_ne_nil Z
  have G:(flat (y::ys))[0]?=some ((hZ y)[0]'(by rw[yb];exact U)):=by
   rw[kI,s4 (by rw[yb];exact U),kO]
  exact(u 0 _ G).lt
 obtain⟨i,hi⟩:=List.getElem?_of_mem E
 grind
theorem PC{α σ:Type}[Flat σ][Deep α σ]{φ:α->Prop}:∀(ts:List σ),(∀s∈ts,∃a:α,Deep.dr w s a/\φ a)->∃xs:List α,fR ts xs w/\∀x∈xs,φ x
 | [],_=>⟨[],fR.nil,ee⟩
 | t::ts,h=>by
  obtain⟨a,h1,h2⟩:=h t ee
  obtain⟨xs,h3,h4⟩:=PC ts λs u=>h s (List.mem_cons_of_mem _ u)
  refine⟨a::xs,?_,λx B=>?_⟩
  .grind[fR]
  grind
theorem yZ.slice{α σ:Type}[Flat σ][Deep α σ]{φ:α->Prop}{t e:TypeId}(ht:P.underlying t=some (.slice e))(hc:P.cellsOf t=1)(E:yZ P e α φ):yZ P t (List α) (λxs=>∀x∈xs,φ x):=
 λw=>⟨hc,λenc base held fuel cs x B=>by
  obtain⟨v,rfl,ts,h1,h2⟩:=L8 ht (E w) B
  obtain⟨xs,h3,h4⟩:=PC ts h2
  have u:cZ (λ_=>True) w v ts:=h1.mono λ_ _=>trivial
  obtain⟨s,rfl⟩:=u.fV
  exact⟨s,rfl,xs,DL.of u h3,h4⟩⟩
theorem open_dl{α σ:Type}[Flat σ][Deep α σ]{φ:α->Prop}{t e:TypeId}{r:Reach}{E:Nat}{v:Value}{d:DataW H}{ps:List MemPlace}(ht:P.underlying t=some (.slice e))(I:yZ P e α φ)
  (B:P0 P w r E t v) (hd:DataW.Trod enc P w base (λ_=>true) held t v d ps):∃xs:List α,DL w v xs/\∀x∈xs,φ x:=by
 obtain⟨fuel,M⟩:=hd
 obtain⟨u,G,ts,h1,h2⟩:=L8 ht (I w) M
 have J:v=u:=by
  have h1:=B
  unfold P0 at h1
  rw[ht]at h1
  cases v with
  | slice a n c=>exact(List.cons.inj (show [yA a n c]=[u]from G)).1
  | _=>
   have h2:Cell.okWide P w r E t _:=h1
   unfold Cell.okWide at h2
   rw[ht]at h2
   simp only[Cell.ok,ht]at h2
 subst J
 obtain⟨xs,h3,h4⟩:=PC ts h2
 exact⟨xs,DL.of (h1.mono λ_ _=>trivial) h3,h4⟩
theorem open_dst{α σ:Type}[Flat σ][Deep α σ]{φ:α->Prop}{t:TypeId}{E:Array Field}{r:Reach}{J:Nat}{v:Value}{d:DataW H}{ps:List MemPlace}(ht:P.underlying t=some (.struct E))(M:IH σ=true)
  (G:yZ P t α φ) (u:P0 P w r J t v) (hd:DataW.Trod enc P w base (λ_=>true) held t v d ps):∃(s:σ) (x:α),v=hM s/\Deep.dr w s x/\φ x:=by
 obtain⟨fuel,I⟩:=hd
 obtain⟨s,B,x,h1,h2⟩:=(G w).rd enc base held fuel _ _ I
 unfold P0 at u
 rw[ht]at u
 obtain⟨cs,rfl,_⟩:=u
 refine⟨s,x,?_,h1,h2⟩
 rw[aa6 M,<- B]
 simp[Value.cells]
end
def B2(x:Int):Int:=IntKind.i64.wrap x
theorem zF{x:Int}(h : -9223372036854775808<=x/\x<=9223372036854775807):B2 x=x:=IntWalk.i64_in _ h
section
variable {P:Program}{T:Nat}{cx cy:Bool}{a b:Int}{K:Value->Prop}
theorem uH(k:K (hH (B2 (a+b)))):eT P (jU .add T cx cy (hH a) (hH b)) K:=⟨_,rfl,k⟩
theorem AV(k:K (hH (B2 (a-b)))):eT P (jU .sub T cx cy (hH a) (hH b)) K:=⟨_,rfl,k⟩
theorem wX(k:K (hH (B2 (a*b)))):eT P (jU .mul T cx cy (hH a) (hH b)) K:=⟨_,rfl,k⟩
theorem XX(k:K (hH (B2 (0-a)))):eT P (Op.unary .neg (hH a)) K:=⟨_,rfl,k⟩
theorem ES(h:b≠0)(k:K (hH (B2 (a.tdiv b)))):eT P (jU .quo T cx cy (hH a) (hH b)) K:=by
 refine⟨_,?_,k⟩
 show pr P (Op.intDiv .quo .i64 a b)=_
 unfold Op.intDiv
 rw[ei h];rfl
theorem XY(h:b≠0)(k:K (hH (a.tmod b))):eT P (jU .rem T cx cy (hH a) (hH b)) K:=by
 refine⟨_,?_,k⟩
 show pr P (Op.intDiv .rem .i64 a b)=_
 unfold Op.intDiv
 rw[ei h];rfl
end
def se{α:Type}[Flat α]{P:Program}{w w0:World}{A:Nat->Prop}{L:List HP}{xs:List α}{T E Y:Nat}{z:Option Nat}{v:Value}{i:Int}{K:Value->Prop}(ht:eM P T=some (E,l2 α,Y,z))
  (I:St w0 A (bH v xs::L) w) (h0:0<=i) (h1:i<=xs.length) (k:∀M,St w0 A (bH M (xs.take i.toNat)::L) w->K M):eT P (nT T v none (some (hH i)) none) K:=by
 obtain⟨a,cap,u,AF,_⟩:=I.dS
 refine⟨_,(by rw[u];exact wH ht (ou (.inl ⟨rfl,rfl⟩) (.inr ⟨i,rfl,h0,rfl⟩) (la _) bM)),k _ ?_⟩
 refine I.rp λF G=>?_
 rcases G with⟨B,U,W⟩|⟨b,Z,rest,O,hb,J,G⟩
 .rw[B]at u
  subst U
  simp only[yA.injEq]at u
  obtain⟨rfl,_,rfl⟩:=u
  have hi:i.toNat=0:=by simp at h1;omega
  refine⟨F,.inl ⟨?_,ee,W⟩,λb hb=>.inl hb,gz.refl _ _⟩
  rw[hi];rfl
 rw[O]at u
 simp only[yA.injEq]at u
 obtain⟨rfl,_,rfl⟩:=u
 refine⟨F,.inr ⟨b,Z,flat (xs.drop i.toNat)++rest,?_,?_,?_,G⟩,λb hb=>.inl hb,gz.refl _ _⟩
 .have V:(xs.take i.toNat).length=i.toNat:=by rw[lY];omega
  rw[V]
  simp[gK]
 .rw[<- nk,<- gL,o6];exact hb
 exact⟨te (by rw[lY];omega) J.1,by rw[<- nk,<- gL,o6];exact J.2⟩
section
variable {P:Program}{w w':World}{v:Value}
theorem DL.flat{α:Type}[Flat α][D:Deep α α]{xs:List α}(h:DL w v xs)(hD:∀w s x,D.dr w s x↔s=x:=by intros;exact Iff.rfl):cZ (λ_=>True) w v xs:=by
 obtain⟨ts,h1,h2⟩:=h.open
 rw[(HF hD).1 h2]at h1;exact h1
theorem DL.jV{α:Type}[Flat α][D:Deep α α]{xs:List α}(h:cZ (λ_=>True) w v xs)(hD:∀w s x,D.dr w s x↔s=x:=by intros;exact Iff.rfl):DL w v xs:=DL.of h ((HF hD).2 rfl)
theorem L9{α:Type}[Flat α]{S:Nat->Prop}{xs:List α}{T E B:Nat}{z:Option Nat}{lo hi:Option Value}{l h:Nat}{K:Value->Prop}(ht:eM P T=some (E,l2 α,B,z))(I:cZ S w v xs)
  (G:lo=none/\l=0\/∃i:Int,lo=some (hH i)/\0<=i/\l=i.toNat) (M:hi=none/\h=xs.length\/∃i:Int,hi=some (hH i)/\0<=i/\h=i.toNat)
  (h1:l<=h) (h2:h<=xs.length) (k:∀u,(∀w',cZ S w' v xs->cZ S w' u ((xs.take h).drop l))->K u):eT P (nT T v lo hi none) K:=by
 obtain⟨a,cap,rfl,O,h3⟩:=I
 exact⟨_,wH ht (ou G M h1 bM),k _ λw' J=>J.cut rfl h1 h2⟩
theorem zG{α:Type}[Flat α]{S:Nat->Prop}{xs:List α}{T E B:Nat}{z:Option Nat}{i:Int}{K:Value->Prop}(ht:eM P T=some (E,l2 α,B,z))(G:cZ S w v xs)
  (I:0<=i) (h2:i<=xs.length) (k:∀u,(∀w',cZ S w' v xs->cZ S w' u (xs.drop i.toNat))->K u):eT P (nT T v (some (hH i)) none none) K:=
 L9 ht G (.inr ⟨i,rfl,I,rfl⟩) (.inl ⟨rfl,rfl⟩) bM (o1 _) λu h=>k u λw' J=>cJ
theorem oA{α:Type}[Flat α]{S:Nat->Prop}{xs:List α}{T E B:Nat}{z:Option Nat}{i j:Int}{K:Value->Prop}(ht:eM P T=some (E,l2 α,B,z))(G:cZ S w v xs)
  (I:0<=i) (h1:i<=j) (h2:j<=xs.length) (k:∀u,(∀w',cZ S w' v xs->cZ S w' u ((xs.take j.toNat).drop i.toNat))->K u):eT P (nT T v (some (hH i)) (some (hH j)) none) K:=
 L9 ht G (.inr ⟨i,rfl,I,rfl⟩) (.inr ⟨j,rfl,bM,rfl⟩) bM bM k
theorem DL.cut{α σ:Type}[Flat σ][Deep α σ]{xs:List α}{ts:List σ}{u:Value}{l h:Nat}(B:∀w',cZ (λ_=>True) w' v ts->cZ (λ_=>True) w' u ((ts.take h).drop l))(E:cZ (λ_=>True) w v ts)(hD:fR ts xs w):DL w u ((xs.take h).drop l):=
 DL.of (B w E) ((hD.take h).drop l)
theorem DL.XZ{α σ:Type}[Flat σ][Deep α σ]{xs:List α}{ts:List σ}{u:Value}{l:Nat}(B:∀w',cZ (λ_=>True) w' v ts->cZ (λ_=>True) w' u (ts.drop l))(E:cZ (λ_=>True) w v ts)(hD:fR ts xs w):DL w u (xs.drop l):=
 DL.of (B w E) (hD.drop l)
theorem ET{a b:ByteArray}:(a.toList == b.toList)=decide (a=b):=by
 rw[ByteArray.toList_eq,ByteArray.toList_eq,Bool.eq_iff_iff,beq_iff_eq,decide_eq_true_eq]
 constructor
 .intro h
  obtain⟨a⟩:=a
  simp_all
 grind
theorem jB{T:Nat}{cx cy:Bool}{a b:ByteArray}{K:Value->Prop}(k:K (.bool (decide (a=b)))):eT P (jU .eql T cx cy (.string a) (.string b)) K:=by
 rw[<- ET]at k
 exact⟨_,rfl,k⟩
theorem l4{T:Nat}{cx cy:Bool}{a b:ByteArray}{K:Value->Prop}(k:K (.bool (decide (¬ a=b)))):eT P (jU .neq T cx cy (.string a) (.string b)) K:=by
 refine⟨_,rfl,?_⟩
 have:(!(a.toList == b.toList))=decide (¬ a=b):=by rw[ET];grind
 grind
end
def iN(s:ByteArray):List UInt8:=s.data.toList
theorem eY(s:ByteArray):(iN s).length=s.size:=by simp_all[iN]
theorem SD(s:ByteArray)(i:Nat):(iN s)[i]?=if h:i<s.size then some (s[i]'h)else none:=by
 unfold iN
 by_cases h:i<s.size
 .rw[dif_pos h,Array.getElem?_toList]
  exact Array.getElem?_eq_getElem h
 simp_all
section
variable {P:Program}{T R:Nat}{cx cy:Bool}{a b:Int}{K:Value->Prop}
theorem fg{s:ByteArray}(u:P.underlying T=some .string)(k:K (hH (s.size:Int))):eT P (Builtin.len_ #[T] R [FR s].toArray) K:=by
 refine⟨_,?_,k⟩
 show pr P (do
  match <- underlying T,FR s with
  | .string,.string s=>pure (goInt s.size)
  | .array n _,_=>pure (goInt n)
  | .pointer arr,_=>
   let .array n _ <- underlying arr|stuck "len: pointer to array expected"
   pure (goInt n)
  | .slice _,.slice _ n _=>pure (goInt n)
  | .map _ _,.map none|.chan _ _,.chan none=>pure (goInt 0)
  | .map _ _,.map (some r)=>
   let .map entries _ <- getObj r|stuck "len: map expected"
   pure (goInt entries.size)
  | .chan _ _,.chan (some r)=>
   let .chan _ buf _ _ _ timer <- getObj r|stuck "len: channel expected"
   pure (goInt (if timer then 0 else buf.size))
  | _, _ => stuck "len: string, array, pointer to array, slice, map or channel expected")=_
 rw[cT,cS u];rfl
theorem jQ{s:ByteArray}{i:Int}{e:UInt8}(B:P.underlying T=some .string)(E:0<=i)(u:(iN s)[i.toNat]?=some e)(k:K (.int .u8 (e.toNat:Int))):eT P (u3 T (.string s) (hH i)) K:=by
 refine⟨_,?_,k⟩
 rw[SD]at u
 have hi:i.toNat<s.size:=by
  grind
 rw[dif_pos hi]at u
 have h3:(if 0<=i then s[i.toNat]? else none)=some e:=cJ
 unfold u3
 simp only[asIntOf,cT,cS B,ma,fP,h3]
theorem nY{s:ByteArray}{i:Int}(u:P.underlying T=some .string)(B:0<=i)(h1:i<=s.size)(k:K (.string (s.extract 0 i.toNat))):eT P (nT T (.string s) none (some (hH i)) none) K:=by
 refine⟨_,?_,k⟩
 unfold nT
 rw[cT,cS u]
 simp only[ma]
 unfold Qr
 rw[cT,cS u]
 simp only[ma]
 rw[ei dC]
 have hb:pr P (vC false s.size s.size none (some (hH i)) none)=some (0,i.toNat,s.size):=by
  simp only[vC,cT,fP,ma]
  rw[ji B h1];rfl
 rw[cT,hb];rfl
theorem Ma{s:ByteArray}{i j:Int}(u:P.underlying T=some .string)(E:0<=i)(B:i<=j)(h1:j<=s.size)(k:K (.string (s.extract i.toNat j.toNat))):eT P (nT T (.string s) (some (hH i)) (some (hH j)) none) K:=by
 refine⟨_,?_,k⟩
 unfold nT
 rw[cT,cS u]
 simp only[ma]
 unfold Qr
 rw[cT,cS u]
 simp only[ma]
 rw[ei dC]
 have hb:pr P (vC false s.size s.size (some (hH i)) (some (hH j)) none)=some (i.toNat,j.toNat,s.size):=by
  simp only[vC,cT,fP,ma]
  rw[ji bM h1];simp only[ma];rw[ji E bM];rfl
 rw[cT,hb];rfl
theorem AW(k:K (.bool (decide (a<=b)))):eT P (jU .leq T cx cy (.int .u8 a) (.int .u8 b)) K:=⟨_,rfl,k⟩
theorem AX(k:K (.bool (decide (b<=a)))):eT P (jU .geq T cx cy (.int .u8 a) (.int .u8 b)) K:=⟨_,rfl,k⟩
theorem nF(k:K (.bool (decide (a=b)))):eT P (jU .eql T cx cy (.int .u8 a) (.int .u8 b)) K:=⟨_,rfl,k⟩
theorem X0(k:K (.bool (decide (a≠b)))):eT P (jU .neq T cx cy (.int .u8 a) (.int .u8 b)) K:=
 ⟨_,(show pr P (jU .neq T cx cy (.int .u8 a) (.int .u8 b))=some (.bool (decide (a≠b)))from by
  show some (xc (a != b))=_
  grind),k⟩
theorem Mb{t:Array TypeId}{R:TypeId}{c:Int}(k:K (hH (max (max a b) c))):eT P (Builtin.max_ t R [hH a,hH b,hH c].toArray) K:=by
 refine⟨_,?_,k⟩
 show pr P (do Builtin.max2 (<- Builtin.max2 (hH a) (hH b)) (hH c))=_
 have h:∀x y:Int,pr P (Builtin.max2 (hH x) (hH y))=some (hH (max x y)):=by
  intro x y
  unfold Builtin.max2
  by_cases h:x<y
  .simp[h,fP];omega
  .simp[h,fP];omega
 rw[cT,h]
 exact h _ _
end
def fz{α σ:Type}[Flat σ][Deep α σ](v:Value)(xs:List α):HP:=pK λts:List σ=>sep (bH v ts) (eA (fR ts xs))
section
variable {P:Program}{α σ:Type}[Flat σ] [D:Deep α σ] {w w' w0:World}{v src:Value}{A:Nat->Prop}{L:List HP}{xs ys:List α}
theorem St.AY(u:St w0 A (fz v xs::L) w):∃ts:List σ,St w0 A (bH v ts::Fw.eA (fR ts xs)::L) w:=by
 obtain⟨ts,h⟩:=u.eg;exact⟨ts,h.split⟩
theorem St.wY{ts:List σ}(u:St w0 A (bH v ts::Fw.eA (fR ts xs)::L) w):St w0 A (fz v xs::L) w:=
 St.eh (H:=λts:List σ=>sep (bH v ts) (Fw.eA (fR ts xs))) ts (St.join u)
theorem St.UG{ts:List σ}(u:St w0 A (bH v ts::Fw.eA (fR ts xs)::L) w):ts.length=xs.length:=u.p1.eA.1
theorem St.JA(u:St w0 A L w):St w0 A (fz (.slice none 0 0) ([]:List α)::L) w:=
 St.wY (ts:=[]) ((u.fH λ_=>fR.nil).eV)
theorem St.awA(u:St w0 A (bH v ([]:List σ)::L) w):St w0 A (fz v ([]:List α)::L) w:=
 St.wY (ts:=[]) (u.fH (Φ:=fR ([]:List σ) ([]:List α)) λ_=>fR.nil).p1
theorem St.awB{s:σ}{x:α}(u:St w0 A (bH v [s]::Fw.eA (λw=>Deep.dr w s x)::L) w):St w0 A (fz v [x]::L) w:=by
 refine St.wY (ts:=[s]) ?_
 refine(u.p1.dF (Ψ:=fR [s] [x]) λw h=>?_).p1
 exact(fR.nil (w:=w)).snoc h
theorem St.awC{ts us:List σ}(u:St w0 A (bH v (ts++us)::Fw.eA (fR ts xs)::Fw.eA (fR us ys)::L) w):St w0 A (fz v (xs++ys)::L) w:=by
 have h1:=(u.p1:St w0 A (Fw.eA (fR ts xs)::bH v (ts++us)::Fw.eA (fR us ys)::L) w)
 have h2:=h1.p2.p1
 refine St.wY (ts:=ts++us) ?_
 exact(h2.gd.dF (Ψ:=fR (ts++us) (xs++ys)) λw h=>h.1.append h.2).p1
theorem St.nP(u:St w0 A (fz v xs::L) w):St w0 A (Fw.eA (λw=>DL w v xs)::L) w:=by
 obtain⟨ts,h⟩:=u.AY
 exact h.freeze.gd.dF λw h=>DL.of h.1 h.2
theorem St.dl(u:St w0 A (fz v xs::L) w):DL w v xs:=u.nP.eA
theorem St.oZ(u:St w0 A (fz v xs::L) w):∃s:SV,v=hM s:=u.dl.fV
theorem St.enc{b:Nat}{cs cs':List Value}(u:St w0 A (bY b cs::L) w)(h:cs=cs'):St w0 A (bY b cs'::L) w:=h▸u
theorem oB{T E B:Nat}{K:Value->g7}(u:St w0 A L w)(ht:Wy P T E (l2 σ) B)(k:∀v w',St w0 A (fz v ([]:List α)::L) w'->K v w'):qW P (K9 T 0 ([]:List (Nat×Value)).toArray) w K:=
 bD ([]:List σ) u ht rfl rfl ee λv w' h=>k v w' h.awA
theorem gk{T E B:Nat}{s:σ}{x:α}{K:Value->g7}(u:St w0 A (Fw.eA (λw=>Deep.dr w s x)::L) w)(ht:Wy P T E (l2 σ) B)(G:l2 σ<=64)(k:∀v w',St w0 A (fz v [x]::L) w'->K v w') :
  qW P (K9 T 1 [(0,hM s)].toArray) w K:=
 bD [s] u ht rfl rfl (by simp;omega) λv w' h=>k v w' h.awB
theorem fS{T E G R:Nat}{K:Value->g7}(I:St w0 A (fz v xs::fz src ys::L) w)(ht:Wy P T E (l2 σ) G)
  (O:xs.length+ys.length<=1073741824) (B:G<=8192) (k:∀u w',St w0 A (fz u (xs++ys)::L) w'->K u w'):qW P (Builtin.append_ #[T,T] R [v,src].toArray) w K:=by
 obtain⟨us,h1⟩:=I.p1.AY
 obtain⟨ts,h2⟩:=h1.p2.AY
 have M:=h1.UG
 have J:=h2.UG
 refine bL h2 ht h2.p2.dS bM B λu w' h=>k u w' ?_
 exact h.p2.drop.awC
theorem vn{β:Type}[Flat β]{T:Nat}{b o:Nat}{cs:List Value}(x:β)(ht:dD P T=some (IH β,l2 β))(hb:qd w b cs)(B:(cs.drop o).take (l2 β)=hZ x) :
  (x6 T (.pointer (some ⟨b,o,none⟩))).run P w=.ok (hM x) w:=by
 refine eP (S:=λ_=>True) ht ⟨b,o,rfl,trivial,λj c u=>hb.cell ?_⟩
 grind
end
instance:Flat UInt8 where
 agg:=false
 sz:=1
 enc b:=[.int .u8 b.toNat]
 val b:=.int .u8 b.toNat
 pos:=dC
 len _:=rfl
 one a v h:=by rw[ua.1 h];rfl
 nV h:=by cases h
 nW _ _:=rfl
instance:Deep UInt8 UInt8:=iZ
def tG{α σ:Type}[Flat σ][Deep α σ](P:Program)(w:World)(f:Value)(φ:α->Prop)(g:α->Bool):Prop:=∃B first cap,f=.func (.func B) (P1 first) (P1 cap)/\Plain P B/\
 ∀(s:σ) (x:α) u,Ext w u->Deep.dr u s x->φ x->Calls P B (first++[hM s]++cap).toArray u (tc λv E=>v=.bool (g x)/\Ext u E)
theorem tG.ext{α σ:Type}[Flat σ][Deep α σ]{P:Program}{w w':World}{f:Value}{φ:α->Prop}{g:α->Bool}(h:tG P w f φ g)(e:Ext w w'):tG P w' f φ g:=by
 obtain⟨u,first,cap,h1,h2,h3⟩:=h;exact⟨u,first,cap,h1,h2,λs x B E=>h3 s x B (e.trans E)⟩
def HG{α:Type}[Flat α]{P:Program}{S:Nat->Prop}{w:World}{T E:TypeId}{cx cy:Bool}{v:Value}{xs:List α}{K:Value->Prop}(h:P.underlying T=some (.slice E))(B:cZ S w v xs)(k:∀p:Bool,(p=true->xs=[])->K (.bool p)) :
  eT P (jU .eql T cx cy v (.slice none 0 0)) K:=by
 obtain⟨a,cap,rfl,_,h3⟩:=B
 have u:pr P (Op.equal T (.slice a xs.length cap) (.slice none 0 0))=some a.isNone:=by
  show pr P (Op.equalIn 10000 T (.slice a xs.length cap) (.slice none 0 0))=_
  unfold Op.equalIn
  rw[cT,cS h]
  cases a<;>rfl
 refine⟨_,?_,k a.isNone λG=>?_⟩
 .show pr P (do pure (xc (<- Op.equal T (.slice a xs.length cap) (.slice none 0 0))))=_
  rw[vh,u];rfl
 grind
structure Ptr where
 b:Nat
deriving DecidableEq
instance:Flat Ptr where
 agg:=false
 sz:=1
 enc p:=[.pointer (some ⟨p.b,0,none⟩)]
 val p:=.pointer (some ⟨p.b,0,none⟩)
 pos:=dC
 len _:=rfl
 one a v h:=by rw[ua.1 h];rfl
 nV h:=by cases h
 nW _ _:=rfl
instance:Deep Ptr Ptr:=iZ
def ie{α κ:Type}(H:κ->α->HP):List κ->List α->HP
 | [],[]=>emp
 | p::ps,x::xs=>sep (H p x) (ie H ps xs)
 | _,_=>fact False emp
section
variable {P:Program}{α κ:Type}{H:κ->α->HP}{A:Nat->Prop}{w0 w:World}{L:List HP}
theorem Cj:∀{ps:List κ}{xs:List α}{F:Nat->Prop},(ie H ps xs).p w F->ps.length=xs.length
 | [],[],_,_=>rfl
 | s::ss,x::xs,F,h=>by
  obtain⟨u,B,_,h2,_,_⟩:=h
  rw[ob,ob,Cj h2]
 | [],_::_,_,h=>h.1.elim
 | _::_,[],_,h=>h.1.elim
theorem St.iV{ps:List κ}{xs:List α}(u:St w0 A (ie H ps xs::L) w):ps.length=xs.length:=by
 obtain⟨F,h,_⟩:=u.head;exact Cj h
theorem St.AZ(u:St w0 A L w):St w0 A (ie H [] []::L) w:=u.new (Ext.refl w) (F:=aZ) (λ_ h=>h) λ_ h=>h.elim
def nG(H:κ->α->HP)(ps:List κ)(xs:List α)(i:Nat):HP:=sep (ie H (ps.take i) (xs.take i)) (ie H (ps.drop (i+1)) (xs.drop (i+1)))
theorem C6:∀{ps:List κ}{xs:List α}{i:Nat}{p:κ}{x:α}{F:Nat->Prop},(ie H ps xs).p w F->ps[i]?=some p->xs[i]?=some x->(sep (H p x) (nG H ps xs i)).p w F
 | W::ps,x'::xs,0,p,x,F,h,u,hx=>by
  rw[List.getElem?_cons_zero]at u hx
  obtain rfl:=n4.inj u
  obtain rfl:=n4.inj hx
  obtain⟨B,E,h1,h2,h3,h4⟩:=h
  exact⟨B,E,h1,⟨aZ,E,λ_ h=>h,h2,λ_ h=>h.elim,λb=>⟨.inr,λh=>h.elim (λh=>h.elim) id⟩⟩,h3,h4⟩
 | W::ps,x'::xs,i+1,p,x,F,h,u,hx=>by
  rw[Ln]at u hx
  obtain⟨B,E,h1,h2,h3,h4⟩:=h
  obtain⟨I,J,Z,⟨G,K2,O,M,k3,Y⟩,g3,V⟩:=C6 h2 u hx
  refine⟨I,λb=>B b\/J b,Z,⟨λb=>B b\/G b,K2,⟨B,G,h1,O,λb hb U=>h3 b hb ((V b).2 (.inr ((Y b).2 (.inl U)))),λb=>Iff.rfl⟩,M,?_,?_⟩,?_,?_⟩
  .grind
  .grind
  .grind
  grind
 | [],[],_,_,_,_,_,u,_=>by simp at u
 | [],_::_,_,_,_,_,h,_,_=>h.1.elim
 | _::_,[],_,_,_,_,h,_,_=>h.1.elim
theorem Ck:∀{ps:List κ}{xs:List α}{i:Nat}{p:κ}{x:α}{F:Nat->Prop},i<xs.length->ps.length=xs.length->(sep (H p x) (nG H ps xs i)).p w F->(ie H (ps.set i p) (xs.set i x)).p w F
 | V::ps,x'::xs,0,p,x,F,_,_,h=>by
  obtain⟨B,M,h1,⟨K1,K2,O,G,I,J⟩,h3,h4⟩:=h
  refine⟨B,M,h1,?_,h3,h4⟩
  have e:M=K2:=funext λb=>propext ((J b).trans ⟨λh=>h.elim (λh=>(O b h).elim) id,.inr⟩)
  grind
 | V::ps,x'::xs,i+1,p,x,F,hi,hl,h=>by
  obtain⟨E,G2,Z,⟨K1,K2,⟨B,u,Y,m1,f3,W⟩,G,I,J⟩,g3,g4⟩:=h
  refine⟨B,λb=>E b\/(u b\/K2 b),Y,Ck cJ cJ ⟨E,λb=>u b\/K2 b,Z,⟨u,K2,m1,G,λb hb U=>I b ((W b).2 (.inr hb)) U,λb=>Iff.rfl⟩,?_,λb=>Iff.rfl⟩,?_,?_⟩
  .grind
  .grind
  grind
 | [],_::_,_,_,_,_,_,hl,_=>by simp at hl
 | _,[],_,_,_,_,hi,_,_=>by simp at hi
theorem mT{β:Type}:∀{ps:List β}{i:Nat}{p:β},ps[i]?=some p->ps.set i p=ps
 | [],_,_,h=>by simp at h
 | y::ps,0,p,h=>by grind
 | y::ps,i+1,p,h=>by rw[Ln]at h;rw[List.set_cons_succ,mT h]
theorem PH{ps:List κ}{xs:List α}{i:Nat}{p:κ}{x:α}{F:Nat->Prop}(hi:i<xs.length)(B:ps.length=xs.length)(u:ps[i]?=some p)(h:(sep (H p x) (nG H ps xs i)).p w F):(ie H ps (xs.set i x)).p w F:=by
 have:=Ck hi B h;rwa [mT u]at this
theorem HH:∀{ps qs:List κ}{xs ys:List α}{F:Nat->Prop},(sep (ie H ps xs) (ie H qs ys)).p w F->(ie H (ps++qs) (xs++ys)).p w F
 | [],qs,[],ys,F,⟨B,u,h1,h2,_,h4⟩=>by
  have:F=u:=funext λb=>propext ((h4 b).trans ⟨λh=>h.elim (λh=>(h1 b h).elim) id,.inr⟩)
  grind
 | p::ps,qs,x::xs,ys,F,⟨B,u,⟨G1,G2,g1,g2,g3,g4⟩,h2,h3,h4⟩=>by
  refine⟨G1,λb=>G2 b\/u b,g1,HH ⟨G2,u,g2,h2,λb hb=>h3 b ((g4 b).2 (.inr hb)),λb=>Iff.rfl⟩,λb hb=>?_,λb=>cJ⟩
  grind
 | [],_,_::_,_,_,⟨_,_,h,_⟩=>h.1.elim
 | _::_,_,[],_,_,⟨_,_,h,_⟩=>h.1.elim
theorem St.focus{ps:List κ}{xs:List α}{i:Nat}{p:κ}{x:α}(u:St w0 A (ie H ps xs::L) w)(E:ps[i]?=some p)(B:xs[i]?=some x):St w0 A (H p x::nG H ps xs i::L) w:=
 (u.rp (H':=sep (H p x) (nG H ps xs i)) λF G=>⟨F,C6 G E B,λb hb=>.inl hb,gz.refl _ _⟩).split
theorem St.DZ{ps:List κ}{xs:List α}{i:Nat}{p:κ}{x:α}(u:St w0 A (H p x::nG H ps xs i::L) w)(hi:i<xs.length)(E:ps.length=xs.length)(B:ps[i]?=some p):St w0 A (ie H ps (xs.set i x)::L) w:=
 (St.join u).rp λF G=>⟨F,PH hi E B G,λb hb=>.inl hb,gz.refl _ _⟩
theorem EU:∀{ps:List κ}{xs:List α}{p:κ}{x:α}{B u F:Nat->Prop},(ie H ps xs).p w B->(H p x).p w u->(∀b,B b->¬ u b)->(∀b,F b↔B b\/u b)->(ie H (ps++[p]) (xs++[x])).p w F
 | [],[],p,x,B,u,F,h1,h2,_,h4=>⟨u,B,h2,h1,λb _ O=>h1 b O,λb=>cJ⟩
 | s'::ss,x'::xs,p,x,B,u,F,h1,h2,h3,h4=>by
  obtain⟨E,G,M,J,U,I⟩:=h1
  refine⟨E,λb=>G b\/u b,M,EU J h2 (λb hb=>h3 b ((I b).2 (.inr hb))) (λb=>Iff.rfl),λb hb=>?_,λb=>?_⟩
  .grind
  grind
 | [],_::_,_,_,_,_,_,h,_,_,_=>h.1.elim
 | _::_,[],_,_,_,_,_,h,_,_,_=>h.1.elim
theorem St.EV{ps:List κ}{xs:List α}{p:κ}{x:α}(u:St w0 A (ie H ps xs::H p x::L) w):St w0 A (ie H (ps++[p]) (xs++[x])::L) w:=by
 refine(St.join u).rp λF B=>?_
 obtain⟨E,G,h1,h2,h3,h4⟩:=B
 exact⟨F,EU h1 h2 h3 h4,λb hb=>.inl hb,gz.refl _ _⟩
theorem St.EW{ps:List κ}{xs:List α}{i:Nat}{p:κ}{x:α}(u:St w0 A (H p x::nG H ps xs i::L) w)(hi:i<xs.length)(B:ps.length=xs.length):St w0 A (ie H (ps.set i p) (xs.set i x)::L) w:=
 (St.join u).rp λF E=>⟨F,Ck hi B E,λb hb=>.inl hb,gz.refl _ _⟩
theorem St.UH{ps:List κ}{xs:List α}{i:Nat}(u:St w0 A (nG H ps xs i::L) w):St w0 A (ie H (ps.eraseIdx i) (xs.eraseIdx i)::L) w:=by
 rw[we,we]
 exact u.rp λF B=>⟨F,HH B,λb hb=>.inl hb,gz.refl _ _⟩
theorem St.aiV{ps:List κ}{xs:List α}{i:Nat}{p:κ}{x:α}{Φ:g7}(u:St w0 A (ie H ps xs::L) w)(E:ps[i]?=some p)(B:xs[i]?=some x)(h:∀{w F},(H p x).p w F->Φ w):Φ w:=by
 obtain⟨F,G,_⟩:=(u.focus E B).head;exact h G
end
end Go.Fw
namespace Go.Proofs.YtpdlpabnlkofmaaGreatDoor
open Go.Fw
@[ext] structure cI where
 name:ByteArray
 n:Int
 at_:Int
deriving DecidableEq
instance:Flat cI where
 agg:=true
 sz:=3
 enc e:=[.string e.name,hH e.n,hH e.at_]
 val e:=.agg [.string e.name,hH e.n,hH e.at_].toArray
 pos:=dC
 len _:=rfl
 one a v h:=by simp at h;rcases h with rfl|rfl|rfl<;>rfl
 nV _ _:=rfl
 nW h:=by cases h
instance:Deep cI cI:=iZ
def yn(x:cI):Prop:=x.name.size<=maxLen/\eX x.n/\eX x.at_
@[ext] structure bZ where
 op:Int
 n:Int
 name:ByteArray
 at_:Int
deriving DecidableEq
instance:Flat bZ where
 agg:=true
 sz:=4
 enc e:=[hH e.op,hH e.n,.string e.name,hH e.at_]
 val e:=.agg [hH e.op,hH e.n,.string e.name,hH e.at_].toArray
 pos:=dC
 len _:=rfl
 one a v h:=by simp at h;rcases h with rfl|rfl|rfl|rfl<;>rfl
 nV _ _:=rfl
 nW h:=by cases h
instance:Deep bZ bZ:=iZ
def A0(x:bZ):Prop:=eX x.op/\eX x.n/\x.name.size<=maxLen/\eX x.at_
structure bP where
 kind:Int
 eD:ByteArray
 name:ByteArray
 e:(List bZ)
 f:(List bZ)
 n:Int
 body:Int
 et:Int
 at_:Int
deriving DecidableEq
structure bE where
 kind:Int
 eD:ByteArray
 name:ByteArray
 e:SV
 f:SV
 n:Int
 body:Int
 et:Int
 at_:Int
instance:Flat bE where
 agg:=true
 sz:=9
 enc e:=[hH e.kind,.string e.eD,.string e.name,.slice e.e.a e.e.n e.e.cap,.slice e.f.a e.f.n e.f.cap,hH e.n,hH e.body,hH e.et,hH e.at_]
 val e:=.agg [hH e.kind,.string e.eD,.string e.name,.slice e.e.a e.e.n e.e.cap,.slice e.f.a e.f.n e.f.cap,hH e.n,hH e.body,hH e.et,hH e.at_].toArray
 pos:=dC
 len _:=rfl
 one a v h:=by simp at h;rcases h with rfl|rfl|rfl|rfl|rfl|rfl|rfl|rfl|rfl<;>rfl
 nV _ _:=rfl
 nW h:=by cases h
instance:Deep bP bE where
 dr w s x:=∃(B:SV) (u:SV),s=(⟨x.kind,x.eD,x.name,B,u,x.n,x.body,x.et,x.at_⟩:bE)/\DL w (hM B) x.e/\DL w (hM u) x.f
 ext h e:=by
  obtain⟨G,E,rfl,I,h1⟩:=h
  exact⟨G,E,rfl,I.ext e,h1.ext e⟩
def JB(x:bP):Prop:=eX x.kind/\x.eD.size<=maxLen/\x.name.size<=maxLen/\(∀y∈x.e,A0 y)/\(∀y∈x.f,A0 y)/\eX x.n/\eX x.body/\eX x.et/\eX x.at_
structure cM where
 name:ByteArray
 dQ:(List ByteArray)
 body:(List bP)
 at_:Int
deriving DecidableEq
structure cE where
 name:ByteArray
 dQ:SV
 body:SV
 at_:Int
instance:Flat cE where
 agg:=true
 sz:=4
 enc e:=[.string e.name,.slice e.dQ.a e.dQ.n e.dQ.cap,.slice e.body.a e.body.n e.body.cap,hH e.at_]
 val e:=.agg [.string e.name,.slice e.dQ.a e.dQ.n e.dQ.cap,.slice e.body.a e.body.n e.body.cap,hH e.at_].toArray
 pos:=dC
 len _:=rfl
 one a v h:=by simp at h;rcases h with rfl|rfl|rfl|rfl<;>rfl
 nV _ _:=rfl
 nW h:=by cases h
instance:Deep cM cE where
 dr w s x:=∃(u:SV) (B:SV),s=(⟨x.name,u,B,x.at_⟩:cE)/\DL w (hM u) x.dQ/\DL w (hM B) x.body
 ext h e:=by
  obtain⟨G,E,rfl,I,h1⟩:=h
  exact⟨G,E,rfl,I.ext e,h1.ext e⟩
def yo(x:cM):Prop:=x.name.size<=maxLen/\(∀y∈x.dQ,(λy:ByteArray=>y.size<=maxLen) y)/\(∀y∈x.body,JB y)/\eX x.at_
structure gV where
 e:(List bZ)
 at_:Int
deriving DecidableEq
structure jr where
 e:SV
 at_:Int
instance:Flat jr where
 agg:=true
 sz:=2
 enc e:=[.slice e.e.a e.e.n e.e.cap,hH e.at_]
 val e:=.agg [.slice e.e.a e.e.n e.e.cap,hH e.at_].toArray
 pos:=dC
 len _:=rfl
 one a v h:=by simp at h;rcases h with rfl|rfl<;>rfl
 nV _ _:=rfl
 nW h:=by cases h
instance:Deep gV jr where
 dr w s x:=∃(u:SV),s=(⟨u,x.at_⟩:jr)/\DL w (hM u) x.e
 ext h e:=by
  obtain⟨E,rfl,B⟩:=h
  exact⟨E,rfl,B.ext e⟩
def EX(x:gV):Prop:=(∀y∈x.e,A0 y)/\eX x.at_
structure cA where
 lines:(List (List cI))
 iO:(List cI)
 eI:(List cI)
 threads:(List cM)
 recover:(List cM)
 eb:(List gV)
deriving DecidableEq
structure bN where
 lines:SV
 iO:SV
 eI:SV
 threads:SV
 recover:SV
 eb:SV
instance:Flat bN where
 agg:=true
 sz:=6
 enc e:=[.slice e.lines.a e.lines.n e.lines.cap,.slice e.iO.a e.iO.n e.iO.cap,.slice e.eI.a e.eI.n e.eI.cap,.slice e.threads.a e.threads.n e.threads.cap,.slice e.recover.a e.recover.n e.recover.cap,.slice e.eb.a e.eb.n e.eb.cap]
 val e:=.agg [.slice e.lines.a e.lines.n e.lines.cap,.slice e.iO.a e.iO.n e.iO.cap,.slice e.eI.a e.eI.n e.eI.cap,.slice e.threads.a e.threads.n e.threads.cap,.slice e.recover.a e.recover.n e.recover.cap,.slice e.eb.a e.eb.n e.eb.cap].toArray
 pos:=dC
 len _:=rfl
 one a v h:=by simp at h;rcases h with rfl|rfl|rfl|rfl|rfl|rfl<;>rfl
 nV _ _:=rfl
 nW h:=by cases h
instance:Deep cA bN where
 dr w s x:=∃(B:SV) (u:SV) (G:SV) (I:SV) (J:SV) (E:SV),s=(⟨B,u,G,I,J,E⟩:bN)/\DL w (hM B) x.lines/\DL w (hM u) x.iO/\DL w (hM G) x.eI/\DL w (hM I) x.threads/\DL w (hM J) x.recover/\DL w (hM E) x.eb
 ext h e:=by
  obtain⟨Y,W,M,U,O,V,rfl,Z,h1,h2,h3,h4,h5⟩:=h
  exact⟨Y,W,M,U,O,V,rfl,Z.ext e,h1.ext e,h2.ext e,h3.ext e,h4.ext e,h5.ext e⟩
def adx(x:cA):Prop:=(∀y∈x.lines,(λys:(List cI)=>∀y∈ys,yn y) y)/\(∀y∈x.iO,yn y)/\(∀y∈x.eI,yn y)/\(∀y∈x.threads,yo y)/\(∀y∈x.recover,yo y)/\(∀y∈x.eb,EX y)
@[ext] structure oC where
 kind:Int
 n:Int
deriving DecidableEq
instance:Flat oC where
 agg:=true
 sz:=2
 enc e:=[hH e.kind,hH e.n]
 val e:=.agg [hH e.kind,hH e.n].toArray
 pos:=dC
 len _:=rfl
 one a v h:=by simp at h;rcases h with rfl|rfl<;>rfl
 nV _ _:=rfl
 nW h:=by cases h
instance:Deep oC oC:=iZ
structure aS where
 kind:Int
 t:Int
 i:Int
 cut:(List Int)
deriving DecidableEq
structure aM where
 kind:Int
 t:Int
 i:Int
 cut:SV
instance:Flat aM where
 agg:=true
 sz:=4
 enc e:=[hH e.kind,hH e.t,hH e.i,.slice e.cut.a e.cut.n e.cut.cap]
 val e:=.agg [hH e.kind,hH e.t,hH e.i,.slice e.cut.a e.cut.n e.cut.cap].toArray
 pos:=dC
 len _:=rfl
 one a v h:=by simp at h;rcases h with rfl|rfl|rfl|rfl<;>rfl
 nV _ _:=rfl
 nW h:=by cases h
instance:Deep aS aM where
 dr w s x:=∃(u:SV),s=(⟨x.kind,x.t,x.i,u⟩:aM)/\DL w (hM u) x.cut
 ext h e:=by
  obtain⟨E,rfl,B⟩:=h
  exact⟨E,rfl,B.ext e⟩
def SF(x:aS):Prop:=eX x.kind/\eX x.t/\eX x.i/\(∀y∈x.cut,eX y)
structure vp where
 kind:Int
 n:Int
 p:aS
deriving DecidableEq
structure SG where
 kind:Int
 n:Int
 p:aM
instance:Flat SG where
 agg:=true
 sz:=6
 enc e:=[hH e.kind,hH e.n,hH e.p.kind,hH e.p.t,hH e.p.i,.slice e.p.cut.a e.p.cut.n e.p.cut.cap]
 val e:=.agg [hH e.kind,hH e.n,hH e.p.kind,hH e.p.t,hH e.p.i,.slice e.p.cut.a e.p.cut.n e.p.cut.cap].toArray
 pos:=dC
 len _:=rfl
 one a v h:=by simp at h;rcases h with rfl|rfl|rfl|rfl|rfl|rfl<;>rfl
 nV _ _:=rfl
 nW h:=by cases h
instance:Deep vp SG where
 dr w s x:=∃(u:aM),s=(⟨x.kind,x.n,u⟩:SG)/\Deep.dr w u x.p
 ext h e:=by
  obtain⟨E,rfl,B⟩:=h
  exact⟨E,rfl,Deep.ext B e⟩
def aiW(x:vp):Prop:=eX x.kind/\eX x.n/\SF x.p
@[ext] structure cG where
 kind:Int
 t:Int
 a:Int
 n:Int
 m:Int
deriving DecidableEq
instance:Flat cG where
 agg:=true
 sz:=5
 enc e:=[hH e.kind,hH e.t,hH e.a,hH e.n,hH e.m]
 val e:=.agg [hH e.kind,hH e.t,hH e.a,hH e.n,hH e.m].toArray
 pos:=dC
 len _:=rfl
 one a v h:=by simp at h;rcases h with rfl|rfl|rfl|rfl|rfl<;>rfl
 nV _ _:=rfl
 nW h:=by cases h
instance:Deep cG cG:=iZ
@[ext] structure mU where
 dI:Int
 fault:Int
 t:Int
 done:Bool
 stuck:Bool
deriving DecidableEq
instance:Flat mU where
 agg:=true
 sz:=5
 enc e:=[hH e.dI,hH e.fault,hH e.t,.bool e.done,.bool e.stuck]
 val e:=.agg [hH e.dI,hH e.fault,hH e.t,.bool e.done,.bool e.stuck].toArray
 pos:=dC
 len _:=rfl
 one a v h:=by simp at h;rcases h with rfl|rfl|rfl|rfl|rfl<;>rfl
 nV _ _:=rfl
 nW h:=by cases h
instance:Deep mU mU:=iZ
@[ext] structure bI where
 kind:Int
 line:Int
 cell:Int
 n:Int
deriving DecidableEq
instance:Flat bI where
 agg:=true
 sz:=4
 enc e:=[hH e.kind,hH e.line,hH e.cell,hH e.n]
 val e:=.agg [hH e.kind,hH e.line,hH e.cell,hH e.n].toArray
 pos:=dC
 len _:=rfl
 one a v h:=by simp at h;rcases h with rfl|rfl|rfl|rfl<;>rfl
 nV _ _:=rfl
 nW h:=by cases h
instance:Deep bI bI:=iZ
@[ext] structure bR where
 kind:Int
 text:ByteArray
 n:Int
 at_:Int
deriving DecidableEq
instance:Flat bR where
 agg:=true
 sz:=4
 enc e:=[hH e.kind,.string e.text,hH e.n,hH e.at_]
 val e:=.agg [hH e.kind,.string e.text,hH e.n,hH e.at_].toArray
 pos:=dC
 len _:=rfl
 one a v h:=by simp at h;rcases h with rfl|rfl|rfl|rfl<;>rfl
 nV _ _:=rfl
 nW h:=by cases h
instance:Deep bR bR:=iZ
@[ext] structure mV where
 line:Int
 cell:Int
 n:Int
deriving DecidableEq
instance:Flat mV where
 agg:=true
 sz:=3
 enc e:=[hH e.line,hH e.cell,hH e.n]
 val e:=.agg [hH e.line,hH e.cell,hH e.n].toArray
 pos:=dC
 len _:=rfl
 one a v h:=by simp at h;rcases h with rfl|rfl|rfl<;>rfl
 nV _ _:=rfl
 nW h:=by cases h
instance:Deep mV mV:=iZ
@[ext] structure kh where
 cell:Int
 n:Int
deriving DecidableEq
instance:Flat kh where
 agg:=true
 sz:=2
 enc e:=[hH e.cell,hH e.n]
 val e:=.agg [hH e.cell,hH e.n].toArray
 pos:=dC
 len _:=rfl
 one a v h:=by simp at h;rcases h with rfl|rfl<;>rfl
 nV _ _:=rfl
 nW h:=by cases h
instance:Deep kh kh:=iZ
structure SH where
 of:SV
 dZ:SV
 l:SV
 k:SV
 w:SV
instance:Flat SH where
 agg:=true
 sz:=5
 enc e:=[.slice e.of.a e.of.n e.of.cap,.slice e.dZ.a e.dZ.n e.dZ.cap,.slice e.l.a e.l.n e.l.cap,.slice e.k.a e.k.n e.k.cap,.slice e.w.a e.w.n e.w.cap]
 val e:=.agg [.slice e.of.a e.of.n e.of.cap,.slice e.dZ.a e.dZ.n e.dZ.cap,.slice e.l.a e.l.n e.l.cap,.slice e.k.a e.k.n e.k.cap,.slice e.w.a e.w.n e.w.cap].toArray
 pos:=dC
 len _:=rfl
 one a v h:=by simp at h;rcases h with rfl|rfl|rfl|rfl|rfl<;>rfl
 nV _ _:=rfl
 nW h:=by cases h
def JC(p:Bool):Int:=if p then 1 else 0
def EY(a b:Int):Int:=B2 (a.tdiv b)
def yL(op a:Int):Int:=if op=3 then B2 (0-a)else if op=4 then JC (decide (a=0))else 0
def G4(op:Int):Int:=if op=3\/op=4 then 0 else 1
def lM(op a b:Int):Int:=
 if op=5 then B2 (a+b)else if op=6 then B2 (a-b)else if op=7 then B2 (a*b)else if op=8 then EY a b else if op=9 then a.tmod b
 else if op=10 then JC (decide (a=b))else if op=11 then JC (decide (¬ a=b))else if op=12 then JC (decide (a<b))else if op=13 then JC (decide (a<=b))
 else if op=14 then JC (decide (¬ a=0)&&decide (¬ b=0))else if op=15 then JC (decide (¬ a=0)||decide (¬ b=0))else 0
def gI(op b:Int):Int:=if op<5\/15<op then 1 else if (op=8\/op=9)/\b=0 then 12 else 0
def gD(op a b:Int):Int:=if gI op b=0 then lM op a b else 0
theorem Cl:EY (-9223372036854775808) (-1) = -9223372036854775808:=dC
theorem ady{a b:Int}(W : -9223372036854775808<=a/\a<=9223372036854775807)(hb : -9223372036854775808<=b/\b<=9223372036854775807)(V:b≠0):B2 (a-B2 (b*EY a b))=a.tmod b:=by
 have h1:=Int.mul_tdiv_add_tmod a b
 by_cases hc:a = -9223372036854775808/\b = -1
 .obtain⟨rfl,rfl⟩:=hc
  decide
 have J : -9223372036854775808<=a.tdiv b/\a.tdiv b<=9223372036854775807:=by
  have h2:(a.tdiv b).natAbs<=a.natAbs:=by rw[aaz];exact Nat.div_le_self _ _
  by_cases B:a = -9223372036854775808
  .subst B
   have O:b≠-1:=λh=>hc ⟨rfl,h⟩
   by_cases I:b=1
   .grind
   .have h3:(Int.tdiv (-9223372036854775808) b).natAbs<=9223372036854775808 / 2:=by
     rw[aaz]
     exact Nat.div_le_div_left bM bM
    omega
  .omega
 have U:(a.tmod b).natAbs<b.natAbs:=by rw[TM];exact aaG _ bM
 unfold EY
 rw[zF J]
 have B:b*a.tdiv b=a-a.tmod b:=bM
 have M:(a.tmod b).natAbs<=a.natAbs:=by rw[TM];exact abN _ _
 have E:(0<=a->0<=a.tmod b):=λh=>Qt b h
 have G:(a<=0->a.tmod b<=0):=λh=>by
  have:=Qt (a:=-a) b bM
  rw[aa7]at this;omega
 have u:(-9223372036854775808<=a-a.tmod b/\a-a.tmod b<=9223372036854775807)/\-9223372036854775808<=a.tmod b/\a.tmod b<=9223372036854775807:=by
  rcases aa8 0 a with h|h
  .have:=E h;omega
  .have:=G h;omega
 rw[B,zF u.1,show a-(a-a.tmod b)=a.tmod b from bM,zF u.2]
def C305(p:Bool)(w:World):CR 305 [.bool p] w (λv w'=>v=hH (JC p)/\Ext w w'):=by
 have B:=St.start w;refine eZ Tryz.func305 ?_;refine aY (λu=>?_) (λu=>?_)
 .rw[u];exact⟨rfl,B.aF⟩
 rw[u];exact⟨rfl,B.aF⟩
def C302(p:Bool)(w:World):CR 302 [.bool p] w (λv w'=>v=hH (JC p)/\Ext w w'):=by
 have B:=St.start w;refine eZ Tryz.func302 ?_;refine aY (λu=>?_) (λu=>?_)
 .rw[u];exact⟨rfl,B.aF⟩
 rw[u];exact⟨rfl,B.aF⟩
def C303(a:Int)(w:World):CR 303 [hH a] w (λv w'=>v=.bool (decide (¬ a=0))/\Ext w w'):=by
 have u:=St.start w;refine eZ Tryz.func303 ?_;exact bV ⟨rfl,u.aF⟩
def C306(a b:Int)(w:World)(h:b≠0):CR 306 [hH a,hH b] w (λv w'=>v=hH (EY a b)/\Ext w w'):=by
 have u:=St.start w;refine eZ Tryz.func306 ?_;refine⟨_,?_,λ_ _ h=>h⟩;refine aG (aC (λE=>?_) λE=>?_)
 .refine aG ?_;intro G;refine aC (λB=>?_) (λB=>?_)
  .first|exact⟨rfl,u.aF⟩|(exfalso;simp_all;done)|(rw[E,B,Cl];exact⟨rfl,u.aF⟩)
  refine ES h ?_
  first|exact⟨rfl,u.aF⟩|(exfalso;simp_all;done)|(rw[E,B,Cl];exact⟨rfl,u.aF⟩)
 intro G;refine ft (ES h ?_)
 first|exact⟨rfl,u.aF⟩|(exfalso;simp_all;done)|(rw[E,B,Cl];exact⟨rfl,u.aF⟩)
def C274(op a:Int)(w:World):CR 274 [hH op,hH a] w (λv w'=>v=.tuple #[hH (yL op a),hH (G4 op)]/\Ext w w'):=by
 have B:=St.start w;refine eZ Tryz.func274 ?_;refine aG (aC (λu=>?_) λu=>aG (aC (λE=>?_) λE=>?_))
 .refine AV ?_;unfold yL G4
  first|(rw[ej u,ej (.inl u)];exact⟨rfl,B.aF⟩)|(rw[ei u,ej E,ej (.inr E)];exact⟨rfl,B.aF⟩)|(rw[ei u,ei E,ei bM];exact⟨rfl,B.aF⟩)
 .refine aG (aV AD B (C305 _ _) λ_ G B=>?_);unfold yL G4
  first|(rw[ej u,ej (.inl u)];exact⟨rfl,B.aF⟩)|(rw[ei u,ej E,ej (.inr E)];exact⟨rfl,B.aF⟩)|(rw[ei u,ei E,ei bM];exact⟨rfl,B.aF⟩)
 unfold yL G4
 first|(rw[ej u,ej (.inl u)];exact⟨rfl,B.aF⟩)|(rw[ei u,ej E,ej (.inr E)];exact⟨rfl,B.aF⟩)|(rw[ei u,ei E,ei bM];exact⟨rfl,B.aF⟩)
def C269(op a:Int)(w:World):CR 269 [hH op,hH a] w (λv w'=>v=.tuple #[hH (yL op a),hH (G4 op)]/\Ext w w'):=by
 have u:=St.start w;refine eZ Tryz.func269 ?_;refine aG (aC (λB=>?_) λB=>aG (aC (λE=>?_) λE=>?_))
 .refine XX ?_;unfold yL G4
  first|(rw[ej B,ej (.inl B)];exact⟨rfl,u.aF⟩)|(rw[ei B,ej E,ej (.inr E)];exact⟨fM (λp=>Cg #[hH (JC p),hH 0]) ee,u.aF⟩)|(rw[ei B,ei E,ei bM];exact⟨rfl,u.aF⟩)
 .refine aV Lu u (C303 _ _) (λ_ G u=>?_)
  first|refine Lx ?_|refine bQ ?_
  refine aV Xq u (C302 _ _) (λ_ G u=>?_);unfold yL G4
  first|(rw[ej B,ej (.inl B)];exact⟨rfl,u.aF⟩)|(rw[ei B,ej E,ej (.inr E)];exact⟨fM (λp=>Cg #[hH (JC p),hH 0]) ee,u.aF⟩)|(rw[ei B,ei E,ei bM];exact⟨rfl,u.aF⟩)
 unfold yL G4
 first|(rw[ej B,ej (.inl B)];exact⟨rfl,u.aF⟩)|(rw[ei B,ej E,ej (.inr E)];exact⟨fM (λp=>Cg #[hH (JC p),hH 0]) ee,u.aF⟩)|(rw[ei B,ei E,ei bM];exact⟨rfl,u.aF⟩)
def C275(op a b:Int)(w:World)(ha:eX a)(hb:eX b):CR 275 [hH op,hH a,hH b] w (λv w'=>v=.tuple #[hH (gD op a b),hH (gI op b)]/\Ext w w'):=by
 have u:=St.start w;refine ac6 _ _ _ _ _ ?_;unfold S275;refine aG (aC (λgN=>?_) λgN=>?_)
 .refine uH ?_
  first|(unfold gD gI;rw[ej (show op<5\/15<op by omega)];exact⟨rfl,u.aF⟩)|(subst_vars;first|exact⟨rfl,u.aF⟩|(unfold gD gI lM;simp_all<;>exact u.aF))
 refine aG (aC (λU=>?_) λU=>aG (aC (λV=>?_) λV=>aG (aC (λY=>aG (aC (λO=>?_) λO=>?_)) λY=>aG (aC (λj6=>aG (aC (λE=>?_) λE=>?_)) λj6=>aG (aC (λvR=>?_) λvR=>?_)))))
 .refine AV ?_
  first|(unfold gD gI;rw[ej (show op<5\/15<op by omega)];exact⟨rfl,u.aF⟩)|(subst_vars;first|exact⟨rfl,u.aF⟩|(unfold gD gI lM;simp_all<;>exact u.aF))
 .refine wX ?_
  first|(unfold gD gI;rw[ej (show op<5\/15<op by omega)];exact⟨rfl,u.aF⟩)|(subst_vars;first|exact⟨rfl,u.aF⟩|(unfold gD gI lM;simp_all<;>exact u.aF))
 .first|(unfold gD gI;rw[ej (show op<5\/15<op by omega)];exact⟨rfl,u.aF⟩)|(subst_vars;first|exact⟨rfl,u.aF⟩|(unfold gD gI lM;simp_all<;>exact u.aF))
 .refine aV agK u (C306 _ _ _ O) (λ_ B u=>?_)
  first|(unfold gD gI;rw[ej (show op<5\/15<op by omega)];exact⟨rfl,u.aF⟩)|(subst_vars;first|exact⟨rfl,u.aF⟩|(unfold gD gI lM;simp_all<;>exact u.aF))
 .first|(unfold gD gI;rw[ej (show op<5\/15<op by omega)];exact⟨rfl,u.aF⟩)|(subst_vars;first|exact⟨rfl,u.aF⟩|(unfold gD gI lM;simp_all<;>exact u.aF))
 .refine aV agK u (C306 _ _ _ E) (λ_ B u=>wX (AV ?_));rw[ady ha hb E]
  first|(unfold gD gI;rw[ej (show op<5\/15<op by omega)];exact⟨rfl,u.aF⟩)|(subst_vars;first|exact⟨rfl,u.aF⟩|(unfold gD gI lM;simp_all<;>exact u.aF))
 .refine aG (aV AD u (C305 _ _) λ_ B u=>?_)
  first|(unfold gD gI;rw[ej (show op<5\/15<op by omega)];exact⟨rfl,u.aF⟩)|(subst_vars;first|exact⟨rfl,u.aF⟩|(unfold gD gI lM;simp_all<;>exact u.aF))
 refine aG (aC (λZ=>?_) λZ=>aG (aC (λSJ=>?_) λSJ=>aG (aC (λI=>?_) λI=>aG (aC (λwZ=>⟨_,bV (aC (λJ=>?_) λJ=>?_),λ_ _ _ h=>h⟩) λwZ=>aG (aC (λM=>⟨_,bV (aC (λG=>?_) λG=>?_),λ_ _ _ h=>h⟩) λM=>?_)))))
 .refine bV (aV AD u (C305 _ _) λ_ B u=>?_)
  first|(unfold gD gI;rw[ej (show op<5\/15<op by omega)];exact⟨rfl,u.aF⟩)|(subst_vars;first|exact⟨rfl,u.aF⟩|(unfold gD gI lM;simp_all<;>exact u.aF))
 .refine aQ (aV AD u (C305 _ _) λ_ B u=>?_)
  first|(unfold gD gI;rw[ej (show op<5\/15<op by omega)];exact⟨rfl,u.aF⟩)|(subst_vars;first|exact⟨rfl,u.aF⟩|(unfold gD gI lM;simp_all<;>exact u.aF))
 .refine gA (aV AD u (C305 _ _) λ_ B u=>?_)
  first|(unfold gD gI;rw[ej (show op<5\/15<op by omega)];exact⟨rfl,u.aF⟩)|(subst_vars;first|exact⟨rfl,u.aF⟩|(unfold gD gI lM;simp_all<;>exact u.aF))
 .refine bV (aV AD u (C305 _ _) λ_ B u=>?_);intro ry
  first|(unfold gD gI;rw[ej (show op<5\/15<op by omega)];exact⟨rfl,u.aF⟩)|(subst_vars;first|exact⟨rfl,u.aF⟩|(unfold gD gI lM;simp_all<;>exact u.aF))
 .refine aV AD u (C305 _ _) (λ_ B u=>?_);intro ry
  first|(unfold gD gI;rw[ej (show op<5\/15<op by omega)];exact⟨rfl,u.aF⟩)|(subst_vars;first|exact⟨rfl,u.aF⟩|(unfold gD gI lM;simp_all<;>exact u.aF))
 .refine aV AD u (C305 _ _) (λ_ B u=>?_);intro W
  first|(unfold gD gI;rw[ej (show op<5\/15<op by omega)];exact⟨rfl,u.aF⟩)|(subst_vars;first|exact⟨rfl,u.aF⟩|(unfold gD gI lM;simp_all<;>exact u.aF))
 .refine bV (aV AD u (C305 _ _) λ_ B u=>?_);intro W
  first|(unfold gD gI;rw[ej (show op<5\/15<op by omega)];exact⟨rfl,u.aF⟩)|(subst_vars;first|exact⟨rfl,u.aF⟩|(unfold gD gI lM;simp_all<;>exact u.aF))
 first|(unfold gD gI;rw[ej (show op<5\/15<op by omega)];exact⟨rfl,u.aF⟩)|(subst_vars;first|exact⟨rfl,u.aF⟩|(unfold gD gI lM;simp_all<;>exact u.aF))
def sg:aoQ g6 348 16 288:=⟨by kernel_rfl,by kernel_rfl⟩
def aoU(b1 b2 b3 b4 u b6:Nat)(w:World):Prop:=
 Cell w b1 0 (.func (.func 329) #[] #[])/\Cell w b2 0 (.func (.func 330) #[] #[])/\Cell w b3 0 (.func (.func 331) #[] #[])/\Cell w b4 0 (.func (.func 332) #[] #[])/\Cell w u 0 (.func (.func 333) #[] #[])/\Cell w b6 0 (.func (.func 334) #[] #[])
def opsV(b1 b2 b3 b4 u b6:Nat):Value:=
 .agg [.nilFunc,.nilFunc,.nilFunc,.nilFunc,.nilFunc,.func (.func 324) #[] #[],.func (.func 325) #[] #[],.func (.func 326) #[] #[],.func (.func 327) #[] #[],.func (.func 328) #[] #[],
  .func (.func 323) #[] #[.pointer (some ⟨b1,0,none⟩)],.func (.func 323) #[] #[.pointer (some ⟨b2,0,none⟩)],.func (.func 323) #[] #[.pointer (some ⟨b3,0,none⟩)],.func (.func 323) #[] #[.pointer (some ⟨b4,0,none⟩)],
  .func (.func 323) #[] #[.pointer (some ⟨u,0,none⟩)],.func (.func 323) #[] #[.pointer (some ⟨b6,0,none⟩)]].toArray
def Fb2(f:Value)(g:Int->Int->Bool):Prop:=∃u,f=.func (.func u) #[] #[]/\Plain g6 u/\
 ∀a b B,Calls g6 u [hH a,hH b].toArray B (tc λv E=>v=.bool (g a b)/\Ext B E)
def C324(a b:Int)(w:World):CR 324 [hH a,hH b] w (λv w'=>v=hH (B2 (a+b))/\Ext w w'):=by
 have u:=St.start w;refine eZ Tryz.func324 ?_;exact uH ⟨rfl,u.aF⟩
def C325(a b:Int)(w:World):CR 325 [hH a,hH b] w (λv w'=>v=hH (B2 (a-b))/\Ext w w'):=by
 have u:=St.start w;refine eZ Tryz.func325 ?_;exact AV ⟨rfl,u.aF⟩
def C326(a b:Int)(w:World):CR 326 [hH a,hH b] w (λv w'=>v=hH (B2 (a*b))/\Ext w w'):=by
 have u:=St.start w;refine eZ Tryz.func326 ?_;exact wX ⟨rfl,u.aF⟩
def C327(a b:Int)(w:World)(h:b≠0):CR 327 [hH a,hH b] w (λv w'=>v=hH (EY a b)/\Ext w w'):=by
 have u:=St.start w;refine eZ Tryz.func327 ?_;exact ES h ⟨rfl,u.aF⟩
def C328(a b:Int)(w:World)(h:b≠0):CR 328 [hH a,hH b] w (λv w'=>v=hH (a.tmod b)/\Ext w w'):=by
 have u:=St.start w;refine eZ Tryz.func328 ?_;exact XY h ⟨rfl,u.aF⟩
def C329(a b:Int)(w:World):CR 329 [hH a,hH b] w (λv w'=>v=.bool (decide (a=b))/\Ext w w'):=by
 have u:=St.start w;refine eZ Tryz.func329 ?_;exact aG ⟨rfl,u.aF⟩
def C330(a b:Int)(w:World):CR 330 [hH a,hH b] w (λv w'=>v=.bool (decide (¬ a=b))/\Ext w w'):=by
 have u:=St.start w;refine eZ Tryz.func330 ?_;exact bV ⟨rfl,u.aF⟩
def C331(a b:Int)(w:World):CR 331 [hH a,hH b] w (λv w'=>v=.bool (decide (a<b))/\Ext w w'):=by
 have u:=St.start w;refine eZ Tryz.func331 ?_;exact aQ ⟨rfl,u.aF⟩
def C332(a b:Int)(w:World):CR 332 [hH a,hH b] w (λv w'=>v=.bool (decide (a<=b))/\Ext w w'):=by
 have u:=St.start w;refine eZ Tryz.func332 ?_;exact gA ⟨rfl,u.aF⟩
def C333(a b:Int)(w:World):CR 333 [hH a,hH b] w (λv w'=>v=.bool (decide (¬ a=0)&&decide (¬ b=0))/\Ext w w'):=by
 have u:=St.start w;refine eZ Tryz.func333 ?_;refine⟨_,?_,λ_ _ h=>h⟩;refine aV Lu u (C303 _ _) (λ_ G u=>aC (λB=>?_) λB=>?_)
 .refine aV Lu u (C303 _ _) (λ_ G u=>?_);intro E
  first|(rw[ew B];exact⟨rfl,u.aF⟩)|(rw[ez B];exact⟨rfl,u.aF⟩)
 intro E
 first|(rw[ew B];exact⟨rfl,u.aF⟩)|(rw[ez B];exact⟨rfl,u.aF⟩)
def C334(a b:Int)(w:World):CR 334 [hH a,hH b] w (λv w'=>v=.bool (decide (¬ a=0)||decide (¬ b=0))/\Ext w w'):=by
 have u:=St.start w;refine eZ Tryz.func334 ?_;refine⟨_,?_,λ_ _ h=>h⟩;refine aV Lu u (C303 _ _) (λ_ G u=>aC (λB=>?_) λB=>?_)
 .intro E
  first|(rw[ew B];exact⟨rfl,u.aF⟩)|(rw[ez B];exact⟨rfl,u.aF⟩)
 refine aV Lu u (C303 _ _) (λ_ G u=>?_);intro E
 first|(rw[ew B];exact⟨rfl,u.aF⟩)|(rw[ez B];exact⟨rfl,u.aF⟩)
def C322(g:Nat)(w:World):CR 322 [.func (.func g) #[] #[]] w (λv w'=>∃b,v=.func (.func 323) #[] #[.pointer (some ⟨b,0,none⟩)]/\kP (bY b [.func (.func g) #[] #[]]) w w'):=by
 have u:=St.start w;refine eZ Tryz.func322 ?_;exact nx u rfl (λB _ u=>⟨B,rfl,u.fresh⟩)
def C323(a b:Int)(b2:Nat)(fv:Value)(g:Int->Int->Bool)(w:World)(hc:Cell w b2 0 fv)(G:Fb2 fv g):CR 323 [hH a,hH b,.pointer (some ⟨b2,0,none⟩)] w (λv w'=>v=hH (JC (g a b))/\Ext w w'):=by
 obtain⟨J,rfl,B,E⟩:=G;have u:=St.start w;refine eZ Tryz.func323 ?_;refine bX aoN (hc.ext u.aF) (gZ (first:=[]) (cap:=[]) B (E a b _) ?_);rintro _ _ ⟨rfl,I⟩;have u:=u.ext I;exact aV Xq u (C302 _ _) (λ_ _ u=>⟨rfl,u.aF⟩)
def C304(w:World):CR 304 [] w (λv w'=>∃b1 b2 b3 b4 U b6,v=opsV b1 b2 b3 b4 U b6/\kP (eA (aoU b1 b2 b3 b4 U b6)) w w'):=by
 have u:=St.start w;refine ac9 _ _ ?_;unfold S304;refine aR u SB (λM _ u=>aR u SB λV _ u=>oY sg bM bM (aW u wV (dR rfl) (rfl) λ_ u=>oY sg bM bM (aW u wV (dR rfl) (rfl) λ_ u=>oY sg bM bM (aW u wV (dR rfl) (rfl) λ_ u=>oY sg bM bM (aW u wV (dR rfl) (rfl) λ_ u=>oY sg bM bM (aW u wV (dR rfl) (rfl) λ_ u=>gZ (first:=[]) (cap:=[]) Ht (C322 329 _) ?_))))));rintro _ _ ⟨J,rfl,B⟩;have u:=u.made B;refine oY sg bM bM (aW u.p1 wV (dR rfl) (rfl) λ_ u=>gZ (first:=[]) (cap:=[]) Ht (C322 330 _) ?_)
 rintro _ _ ⟨W,rfl,B⟩;have u:=u.made B;refine oY sg bM bM (aW u.p1 wV (dR rfl) (rfl) λ_ u=>gZ (first:=[]) (cap:=[]) Ht (C322 331 _) ?_);rintro _ _ ⟨G,rfl,B⟩;have u:=u.made B;refine oY sg bM bM (aW u.p1 wV (dR rfl) (rfl) λ_ u=>gZ (first:=[]) (cap:=[]) Ht (C322 332 _) ?_);rintro _ _ ⟨E,rfl,B⟩;have u:=u.made B;refine oY sg bM bM (aW u.p1 wV (dR rfl) (rfl) λ_ u=>gZ (first:=[]) (cap:=[]) Ht (C322 333 _) ?_);rintro _ _ ⟨I,rfl,B⟩;have u:=u.made B;refine oY sg bM bM (aW u.p1 wV (dR rfl) (rfl) λ_ u=>gZ (first:=[]) (cap:=[]) Ht (C322 334 _) ?_)
 rintro _ _ ⟨O,rfl,B⟩;have u:=u.made B;refine oY sg bM bM (aW u.p1 wV (dR rfl) (rfl) λ_ u=>Ly XK u.hb rfl (EG u.p7 XK rfl dC (by simp[wF,jd]) λ_ u=>Ly XK u.hb rfl ?_));have u:=u.drop.drop.p1.p2.p3.p4.p5.rL.p1.rL.p2.rL.p3;have u:=u.rL.p4.rL.p5.rL.gd.gd.gd.gd.gd;refine⟨J,W,G,E,I,O,rfl,(u.dF (Ψ:=aoU J W G E I O) λw h=>?_).fresh⟩;obtain⟨⟨⟨⟨⟨h6,h5⟩,h4⟩,h3⟩,h2⟩,h1⟩:=h;exact⟨h1.cell rfl,h2.cell rfl,h3.cell rfl,h4.cell rfl,h5.cell rfl,h6.cell rfl⟩
def fb1:Fb2 (.func (.func 329) #[] #[]) (λa b=>decide (a=b)):=⟨329,rfl,aoA,λa b u=>C329 a b u⟩
def fb2:Fb2 (.func (.func 330) #[] #[]) (λa b=>decide (¬ a=b)):=⟨330,rfl,aoB,λa b u=>C330 a b u⟩
def fb3:Fb2 (.func (.func 331) #[] #[]) (λa b=>decide (a<b)):=⟨331,rfl,aoC,λa b u=>C331 a b u⟩
def fb4:Fb2 (.func (.func 332) #[] #[]) (λa b=>decide (a<=b)):=⟨332,rfl,aoD,λa b u=>C332 a b u⟩
def fb5:Fb2 (.func (.func 333) #[] #[]) (λa b=>decide (¬ a=0)&&decide (¬ b=0)):=⟨333,rfl,aoE,λa b u=>C333 a b u⟩
def fb6:Fb2 (.func (.func 334) #[] #[]) (λa b=>decide (¬ a=0)||decide (¬ b=0)):=⟨334,rfl,aoF,λa b u=>C334 a b u⟩
def C271(op a b:Int)(w:World):CR 271 [hH op,hH a,hH b] w (λv w'=>v=.tuple #[hH (gD op a b),hH (gI op b)]/\Ext w w'):=by
 have u:=St.start w;refine ac5 _ _ _ _ _ ?_;unfold S271;refine⟨_,?_,λ_ _ h=>h⟩;refine aQ (aC (λgN=>?_) λgN=>?_)
 .intro ry;refine gU ?_
  first|exact⟨rfl,u.aF⟩|(subst_vars;exact⟨rfl,u.aF⟩)|(refine⟨?_,u.aF⟩;unfold gD gI lM;first|(rw[ej (show op<5\/15<op by omega)];rfl)|simp[*])
 refine cQ ?_;intro ry;refine aC (λZ=>?_) (λZ=>?_)
 .first|exact⟨rfl,u.aF⟩|(subst_vars;exact⟨rfl,u.aF⟩)|(refine⟨?_,u.aF⟩;unfold gD gI lM;first|(rw[ej (show op<5\/15<op by omega)];rfl)|simp[*])
 refine dO aoq (C304 _) ?_;rintro _ _ ⟨b1,b2,b3,b4,Y,b6,rfl,cK⟩;have u:=u.made cK;obtain rfl|rfl|rfl|rfl|rfl|rfl|rfl|rfl|rfl|rfl|rfl|rfl|rfl|rfl|rfl|rfl:op=0\/op=1\/op=2\/op=3\/op=4\/op=5\/op=6\/op=7\/op=8\/op=9\/op=10\/op=11\/op=12\/op=13\/op=14\/op=15:=bM
 .refine pop (v:=.nilFunc) (by kernel_rfl) (pop (v:=.bool true) (by kernel_rfl) (gU ?_))
  first|exact⟨rfl,u.aF⟩|(subst_vars;exact⟨rfl,u.aF⟩)|(refine⟨?_,u.aF⟩;unfold gD gI lM;first|(rw[ej (show op<5\/15<op by omega)];rfl)|simp[*])
 .refine pop (v:=.nilFunc) (by kernel_rfl) (pop (v:=.bool true) (by kernel_rfl) (gU ?_))
  first|exact⟨rfl,u.aF⟩|(subst_vars;exact⟨rfl,u.aF⟩)|(refine⟨?_,u.aF⟩;unfold gD gI lM;first|(rw[ej (show op<5\/15<op by omega)];rfl)|simp[*])
 .refine pop (v:=.nilFunc) (by kernel_rfl) (pop (v:=.bool true) (by kernel_rfl) (gU ?_))
  first|exact⟨rfl,u.aF⟩|(subst_vars;exact⟨rfl,u.aF⟩)|(refine⟨?_,u.aF⟩;unfold gD gI lM;first|(rw[ej (show op<5\/15<op by omega)];rfl)|simp[*])
 .refine pop (v:=.nilFunc) (by kernel_rfl) (pop (v:=.bool true) (by kernel_rfl) (gU ?_))
  first|exact⟨rfl,u.aF⟩|(subst_vars;exact⟨rfl,u.aF⟩)|(refine⟨?_,u.aF⟩;unfold gD gI lM;first|(rw[ej (show op<5\/15<op by omega)];rfl)|simp[*])
 .refine pop (v:=.nilFunc) (by kernel_rfl) (pop (v:=.bool true) (by kernel_rfl) (gU ?_))
  first|exact⟨rfl,u.aF⟩|(subst_vars;exact⟨rfl,u.aF⟩)|(refine⟨?_,u.aF⟩;unfold gD gI lM;first|(rw[ej (show op<5\/15<op by omega)];rfl)|simp[*])
 .refine pop (v:=.func (.func 324) #[] #[]) (by kernel_rfl) (pop (v:=.bool false) (by kernel_rfl) (ft ?_));refine⟨_,?_,λ_ _ h=>h⟩;refine aG (fJ dC (aG (fJ dC ?_)));intro E;refine ft (gZ (first:=[]) (cap:=[]) aov (C324 a b _) ?_);rintro _ G ⟨rfl,B⟩;have u:=u.ext B
  first|exact⟨rfl,u.aF⟩|(subst_vars;exact⟨rfl,u.aF⟩)|(refine⟨?_,u.aF⟩;unfold gD gI lM;first|(rw[ej (show op<5\/15<op by omega)];rfl)|simp[*])
 .refine pop (v:=.func (.func 325) #[] #[]) (by kernel_rfl) (pop (v:=.bool false) (by kernel_rfl) (ft ?_));refine⟨_,?_,λ_ _ h=>h⟩;refine aG (fJ dC (aG (fJ dC ?_)));intro E;refine ft (gZ (first:=[]) (cap:=[]) aow (C325 a b _) ?_);rintro _ G ⟨rfl,B⟩;have u:=u.ext B
  first|exact⟨rfl,u.aF⟩|(subst_vars;exact⟨rfl,u.aF⟩)|(refine⟨?_,u.aF⟩;unfold gD gI lM;first|(rw[ej (show op<5\/15<op by omega)];rfl)|simp[*])
 .refine pop (v:=.func (.func 326) #[] #[]) (by kernel_rfl) (pop (v:=.bool false) (by kernel_rfl) (ft ?_));refine⟨_,?_,λ_ _ h=>h⟩;refine aG (fJ dC (aG (fJ dC ?_)));intro E;refine ft (gZ (first:=[]) (cap:=[]) aox (C326 a b _) ?_);rintro _ G ⟨rfl,B⟩;have u:=u.ext B
  first|exact⟨rfl,u.aF⟩|(subst_vars;exact⟨rfl,u.aF⟩)|(refine⟨?_,u.aF⟩;unfold gD gI lM;first|(rw[ej (show op<5\/15<op by omega)];rfl)|simp[*])
 .refine pop (v:=.func (.func 327) #[] #[]) (by kernel_rfl) (pop (v:=.bool false) (by kernel_rfl) (ft ?_));refine⟨_,?_,λ_ _ h=>h⟩;refine aG (j5 dC (aG ?_));intro E;refine aC (λW=>?_) (λW=>?_)
  .first|exact⟨rfl,u.aF⟩|(subst_vars;exact⟨rfl,u.aF⟩)|(refine⟨?_,u.aF⟩;unfold gD gI lM;first|(rw[ej (show op<5\/15<op by omega)];rfl)|simp[*])
  refine gZ (first:=[]) (cap:=[]) aoy (C327 a b _ W) ?_;rintro _ G ⟨rfl,B⟩;have u:=u.ext B
  first|exact⟨rfl,u.aF⟩|(subst_vars;exact⟨rfl,u.aF⟩)|(refine⟨?_,u.aF⟩;unfold gD gI lM;first|(rw[ej (show op<5\/15<op by omega)];rfl)|simp[*])
 .refine pop (v:=.func (.func 328) #[] #[]) (by kernel_rfl) (pop (v:=.bool false) (by kernel_rfl) (ft ?_));refine⟨_,?_,λ_ _ h=>h⟩;refine aG (fJ dC (aG (j5 dC (aG ?_))));intro E;refine aC (λW=>?_) (λW=>?_)
  .first|exact⟨rfl,u.aF⟩|(subst_vars;exact⟨rfl,u.aF⟩)|(refine⟨?_,u.aF⟩;unfold gD gI lM;first|(rw[ej (show op<5\/15<op by omega)];rfl)|simp[*])
  refine gZ (first:=[]) (cap:=[]) aoz (C328 a b _ W) ?_;rintro _ G ⟨rfl,B⟩;have u:=u.ext B
  first|exact⟨rfl,u.aF⟩|(subst_vars;exact⟨rfl,u.aF⟩)|(refine⟨?_,u.aF⟩;unfold gD gI lM;first|(rw[ej (show op<5\/15<op by omega)];rfl)|simp[*])
 .refine pop (v:=.func (.func 323) #[] #[.pointer (some ⟨b1,0,none⟩)]) (by kernel_rfl) (pop (v:=.bool false) (by kernel_rfl) (ft ?_));refine⟨_,?_,λ_ _ h=>h⟩;refine aG (fJ dC (aG (fJ dC ?_)));intro E;refine ft ?_;obtain⟨I,O,U,J,M,V⟩:=u.eA;refine gZ (first:=[]) (cap:=[.pointer (some ⟨b1,0,none⟩)]) Hu (C323 a b b1 _ _ _ I fb1) ?_;rintro _ G ⟨rfl,B⟩;have u:=u.ext B
  first|exact⟨rfl,u.aF⟩|(subst_vars;exact⟨rfl,u.aF⟩)|(refine⟨?_,u.aF⟩;unfold gD gI lM;first|(rw[ej (show op<5\/15<op by omega)];rfl)|simp[*])
 .refine pop (v:=.func (.func 323) #[] #[.pointer (some ⟨b2,0,none⟩)]) (by kernel_rfl) (pop (v:=.bool false) (by kernel_rfl) (ft ?_));refine⟨_,?_,λ_ _ h=>h⟩;refine aG (fJ dC (aG (fJ dC ?_)));intro E;refine ft ?_;obtain⟨I,O,U,J,M,V⟩:=u.eA;refine gZ (first:=[]) (cap:=[.pointer (some ⟨b2,0,none⟩)]) Hu (C323 a b b2 _ _ _ O fb2) ?_;rintro _ G ⟨rfl,B⟩;have u:=u.ext B
  first|exact⟨rfl,u.aF⟩|(subst_vars;exact⟨rfl,u.aF⟩)|(refine⟨?_,u.aF⟩;unfold gD gI lM;first|(rw[ej (show op<5\/15<op by omega)];rfl)|simp[*])
 .refine pop (v:=.func (.func 323) #[] #[.pointer (some ⟨b3,0,none⟩)]) (by kernel_rfl) (pop (v:=.bool false) (by kernel_rfl) (ft ?_));refine⟨_,?_,λ_ _ h=>h⟩;refine aG (fJ dC (aG (fJ dC ?_)));intro E;refine ft ?_;obtain⟨I,O,U,J,M,V⟩:=u.eA;refine gZ (first:=[]) (cap:=[.pointer (some ⟨b3,0,none⟩)]) Hu (C323 a b b3 _ _ _ U fb3) ?_;rintro _ G ⟨rfl,B⟩;have u:=u.ext B
  first|exact⟨rfl,u.aF⟩|(subst_vars;exact⟨rfl,u.aF⟩)|(refine⟨?_,u.aF⟩;unfold gD gI lM;first|(rw[ej (show op<5\/15<op by omega)];rfl)|simp[*])
 .refine pop (v:=.func (.func 323) #[] #[.pointer (some ⟨b4,0,none⟩)]) (by kernel_rfl) (pop (v:=.bool false) (by kernel_rfl) (ft ?_));refine⟨_,?_,λ_ _ h=>h⟩;refine aG (fJ dC (aG (fJ dC ?_)));intro E;refine ft ?_;obtain⟨I,O,U,J,M,V⟩:=u.eA;refine gZ (first:=[]) (cap:=[.pointer (some ⟨b4,0,none⟩)]) Hu (C323 a b b4 _ _ _ J fb4) ?_;rintro _ G ⟨rfl,B⟩;have u:=u.ext B
  first|exact⟨rfl,u.aF⟩|(subst_vars;exact⟨rfl,u.aF⟩)|(refine⟨?_,u.aF⟩;unfold gD gI lM;first|(rw[ej (show op<5\/15<op by omega)];rfl)|simp[*])
 .refine pop (v:=.func (.func 323) #[] #[.pointer (some ⟨Y,0,none⟩)]) (by kernel_rfl) (pop (v:=.bool false) (by kernel_rfl) (ft ?_));refine⟨_,?_,λ_ _ h=>h⟩;refine aG (fJ dC (aG (fJ dC ?_)));intro E;refine ft ?_;obtain⟨I,O,U,J,M,V⟩:=u.eA;refine gZ (first:=[]) (cap:=[.pointer (some ⟨Y,0,none⟩)]) Hu (C323 a b Y _ _ _ M fb5) ?_;rintro _ G ⟨rfl,B⟩;have u:=u.ext B
  first|exact⟨rfl,u.aF⟩|(subst_vars;exact⟨rfl,u.aF⟩)|(refine⟨?_,u.aF⟩;unfold gD gI lM;first|(rw[ej (show op<5\/15<op by omega)];rfl)|simp[*])
 refine pop (v:=.func (.func 323) #[] #[.pointer (some ⟨b6,0,none⟩)]) (by kernel_rfl) (pop (v:=.bool false) (by kernel_rfl) (ft ?_));refine⟨_,?_,λ_ _ h=>h⟩;refine aG (fJ dC (aG (fJ dC ?_)));intro E;refine ft ?_;obtain⟨I,O,U,J,M,V⟩:=u.eA;refine gZ (first:=[]) (cap:=[.pointer (some ⟨b6,0,none⟩)]) Hu (C323 a b b6 _ _ _ V fb6) ?_;rintro _ G ⟨rfl,B⟩;have u:=u.ext B
 first|exact⟨rfl,u.aF⟩|(subst_vars;exact⟨rfl,u.aF⟩)|(refine⟨?_,u.aF⟩;unfold gD gI lM;first|(rw[ej (show op<5\/15<op by omega)];rfl)|simp[*])
theorem gO{α:Type}{l:List α}{k:Nat}{e:α}(h:l[k]?=some e):l.take k++[e]=l.take (k+1):=by rw[uT,h];rfl
def dW{α:Type}{φ:α->Prop}{l:List α}{k:Nat}{e:α}(h:∀y∈l.take k,φ y)(B:l[k]?=some e)(E:φ e):∀y∈l.take (k+1),φ y:=by
 intro y u
 rw[<- gO B]at u
 grind
theorem ig{α:Type}{g:α->Bool}{l:List α}{k:Nat}{e:α}(B:l[k]?=some e)(u:g e=true):l.any g=true:=List.any_eq_true.2 ⟨e,kp B,u⟩
theorem iB{α:Type}{g:α->Bool}{l:List α}(h:∀y∈l,g y=false):l.any g=false:=by
 grind
def si{α:Type}(g:α->Bool)(l:List α):Int:=match l.findIdx? g with|some k=>k|none=>-1
def l8{α:Type}{g:α->Bool}{l:List α}{k:Nat}{e:α}(u:∀y∈l.take k,g y=false)(E:l[k]?=some e)(I:g e=true):si g l=k:=by
 have:l.findIdx? g=some k:=by
  rw[List.findIdx?_eq_some_iff_getElem]
  have B:=(j0.1 E).1
  refine⟨B,cJ,λj G=>?_⟩
  have:=u (l[j]'(bM)) (List.mem_take_iff_getElem.2 ⟨j,bM,rfl⟩)
  simp[this]
 unfold si;rw[this]
def ja{α:Type}{g:α->Bool}{l:List α}(u:∀y∈l,g y=false):si g l = -1:=by
 grind[si]
def kR{α:Type}(g:α->Bool)(l:List α):decide (0<=si g l)=l.any g:=by
 grind[si]
def wi{α:Type}[Flat α](w:World)(f:Value)(g:α->Bool):Prop:=∃u first cap,f=.func (.func u) (P1 first) (P1 cap)/\Plain g6 u/\
 ∀x B,Ext w B->Calls g6 u (first++[hM x]++cap).toArray B (tc λv E=>v=.bool (g x)/\Ext B E)
theorem wi.ext{α:Type}[Flat α]{w w':World}{f:Value}{g:α->Bool}(h:wi w f g)(e:Ext w w'):wi w' f g:=by
 obtain⟨u,first,cap,h1,h2,h3⟩:=h;exact⟨u,first,cap,h1,h2,λx B E=>h3 x B (e.trans E)⟩
def eC(k:Int):Int:=if k=3\/k=4 then 1 else if 5<=k/\k<=15 then 2 else 0
def WA(st:Option (Int×Int))(x:oC):Option (Int×Int):=match st with
 | none=>none
 | some (n,h)=>if n-eC x.kind<0 then none else some (n-eC x.kind+1,max h (n-eC x.kind+1))
def ht(l:List oC):Option (Int×Int):=l.foldl WA (some (0,0))
def htN(l:List oC):Int:=match ht l with|some p=>p.1|none=>0
def htH(l:List oC):Int:=match ht l with|some p=>p.2|none=>0
theorem A1{l:List oC}{k:Nat}{x:oC}(h:l[k]?=some x):ht (l.take (k+1))=WA (ht (l.take k)) x:=by
 unfold ht;rw[<- gO h,EC];rfl
def SL{l:List oC}{k:Nat}(h:ht (l.take k)=none):ht l=none:=by
 have B:∀m:List oC,m.foldl WA none=none:=λm=>by induction m with|nil=>rfl|cons y m u=>exact u
 have e:l=l.take k++l.drop k:=(o6 k l).symm
 grind[ht]
def SM(k:Int):0<=eC k/\eC k<=2:=by
 grind[eC]
theorem aiY{l:List oC}:∀k n h,k<=l.length->ht (l.take k)=some (n,h)->0<=n/\n<=(k:Int)/\0<=h/\h<=(k:Int)
 | 0,n,h,_,e=>by
  have:ht ([]:List oC)=some (0,0):=rfl
  grind
 | k+1,n,h,G,e=>by
  obtain⟨x,u⟩:=gx l (i:=k) bM
  rw[A1 u]at e
  cases hp:ht (l.take k)with
  | none=>rw[hp]at e;cases e
  | some p=>
   obtain⟨a,b⟩:=p
   have E:=aiY k a b bM hp
   have B:=SM x.kind
   rw[hp]at e
   unfold WA at e
   grind
def adz{l:List oC}{k:Nat}{x:oC}{n h m:Int}(B:l[k]?=some x)(u:ht (l.take k)=some (n,h))(E:m=n-eC x.kind)(G:¬ m<0):ht (l.take (k+1))=some (m+1,max h (m+1)):=by
 rw[A1 B,u];grind[WA]
def aiZ{l:List oC}{k:Nat}{x:oC}{n h m:Int}(B:l[k]?=some x)(u:ht (l.take k)=some (n,h))(E:m=n-eC x.kind)(G:m<0):ht (l.take (k+1))=none:=by
 rw[A1 B,u];grind[WA]
def qY(many:Int)(x:oC):Bool:=decide ((x.kind=1/\(x.n<0\/4294967296<x.n))\/(x.kind=2/\(x.n<0\/many<=x.n))\/(¬ x.kind=1/\¬ x.kind=2/\(¬ x.n=0\/x.kind<1\/16<=x.kind)))
def mw(l:List oC)(many:Int):Bool:=decide (l.length<=40)&&(ht l).isSome&&decide (htN l=1)&&!l.any (qY many)
def C267(k:Int)(w:World):CR 267 [hH k] w (λv w'=>v=hH (eC k)/\Ext w w'):=by
 have B:=St.start w;refine eZ Tryz.func267 ?_;refine⟨λI w'=>I=.bool (decide (k=3\/k=4))/\w=w',aG (aC (λ_=>⟨OU bM,rfl⟩) λ_=>aG ⟨yJ bM,rfl⟩),?_⟩;rintro _ _ ⟨rfl,G⟩ _;subst G;refine aC (λu=>?_) (λu=>⟨λI w'=>I=.bool (decide (5<=k/\k<=15))/\w=w',cQ (aC (λ_=>gA ⟨yJ bM,rfl⟩) λ_=>⟨Xd bM,rfl⟩),?_⟩)
 .unfold eC
  first|(rw[ej u];exact⟨rfl,B.aF⟩)|(rw[ei u,ej E];exact⟨rfl,B.aF⟩)|(rw[ei u,ei E];exact⟨rfl,B.aF⟩)
 rintro _ _ ⟨rfl,G⟩ _;subst G;refine aC (λE=>?_) (λE=>?_)
 .unfold eC
  first|(rw[ej u];exact⟨rfl,B.aF⟩)|(rw[ei u,ej E];exact⟨rfl,B.aF⟩)|(rw[ei u,ei E];exact⟨rfl,B.aF⟩)
 unfold eC
 first|(rw[ej u];exact⟨rfl,B.aF⟩)|(rw[ei u,ej E];exact⟨rfl,B.aF⟩)|(rw[ei u,ei E];exact⟨rfl,B.aF⟩)
def C299(sv:Value)(xs:List oC)(w:World)(M:cZ (λ_=>True) w sv xs)(hn:xs.length<=1048576):CR 299 [sv] w (λv w'=>v=.tuple #[hH (htN xs),hH (htH xs),.bool (ht xs).isSome]/\Ext w w'):=by
 have u:=St.start w;refine eZ Tryz.func299 ?_;refine aH tE (M.ext u.aF) ?_;refine⟨λm y z x J=>∃(k:Nat) (n h:Int),y=hH n/\z=hH h/\x=hH (k:Int)/\m=xs.length-k/\k<=xs.length/\ht (xs.take k)=some (n,h)/\St w aZ [] J,⟨_,0,0,0,rfl,rfl,rfl,rfl,bM,rfl,u⟩,?_⟩;rintro m _ _ _ J ⟨k,n,h,rfl,rfl,rfl,rfl,hk,B,u⟩ _;refine aQ (aC (λO=>?_) λO=>?_)
 .obtain⟨I,E⟩:=gx xs (i:=(k:Int).toNat) bM;refine aN tE (M.ext u.aF) bM E (λ_ W=>aD EJ W (aR u Ju λZ _ u=>aJ (x:=I) u EJ rfl rfl λ_ u=>aA nA (aB bO u.hb rfl (aV Xn u (C267 _ _) λ_ Y u=>?_))));have hw:=SM I.kind;have V:=aiY k n h bM B;refine fr bM (aQ (aC (λG=>?_) λG=>aK bM (DY (aK bM ⟨_,bM,k+1,_,_,rfl,rfl,rfl,rfl,bM,by rw[A1 (k:=k) E,B];unfold WA;simp only[];rw[ei G],u.drop⟩))));have U:ht xs=none:=SL (k:=k+1) (by rw[A1 (k:=k) E,B];unfold WA;simp only[];rw[ej G])
  unfold htN htH;rw[U];exact⟨rfl,u.aF⟩
 rw[kE bM]at B;unfold htN htH;rw[B];exact⟨rfl,u.aF⟩
def C298(x:oC)(b2:Nat)(many:Int)(w:World)(hc:Cell w b2 0 (hH many)):CR 298 [hM x,.pointer (some ⟨b2,0,none⟩)] w (λv w'=>v=.bool (qY many x)/\Ext w w'):=by
 have u:=St.start w;refine eZ Tryz.func298 ?_;refine cH u (λW _ u=>aA nA (aB bO u.hb rfl (aG (aC (λG=>⟨_,aA qu (aB bO u.hb rfl (aQ (aC (λO=>?_) λO=>?_))),λ_ _ h=>h⟩) λG=>aA nA (aB bO u.hb rfl (aG (aC (λM=>⟨_,aA qu (aB bO u.hb rfl (aQ (aC (λJ=>?_) λJ=>?_))),λ_ _ h=>h⟩) λM=>?_)))))))
 .intro V;refine⟨vb ?_,u.aF⟩;unfold qY
  first|exact(ew bM).symm|exact(ez bM).symm|exact e8.2 bM
 .refine aA qu (aB bO u.hb rfl (cP ?_));intro V;refine⟨vb ?_,u.aF⟩;unfold qY
  first|exact(ew bM).symm|exact(ez bM).symm|exact e8.2 bM
 .intro I;refine⟨vb ?_,u.aF⟩;unfold qY
  first|exact(ew bM).symm|exact(ez bM).symm|exact e8.2 bM
 .refine aA qu (aB bO u.hb rfl (bX bO (hc.ext u.aF) (cQ ?_)));intro I;refine⟨vb ?_,u.aF⟩;unfold qY
  first|exact(ew bM).symm|exact(ez bM).symm|exact e8.2 bM
 refine⟨_,?_,λ_ _ h=>h⟩;refine aA qu (aB bO u.hb rfl (bV (aC (λE=>?_) λE=>aA nA (aB bO u.hb rfl (aQ (aC (λU=>?_) λU=>?_))))))
 .intro B;refine⟨vb ?_,u.aF⟩;unfold qY
  first|exact(ew bM).symm|exact(ez bM).symm|exact e8.2 bM
 .intro B;refine⟨vb ?_,u.aF⟩;unfold qY
  first|exact(ew bM).symm|exact(ez bM).symm|exact e8.2 bM
 refine aA nA (aB bO u.hb rfl (cQ ?_));intro B;refine⟨vb ?_,u.aF⟩;unfold qY
 first|exact(ew bM).symm|exact(ez bM).symm|exact e8.2 bM
def C321(sv fv:Value)(xs:List oC)(g:oC->Bool)(w:World)(J:cZ (λ_=>True) w sv xs)(U:wi w fv g)(Z:xs.length<=1073741824):CR 321 [sv,fv] w (λv w'=>v=hH (si g xs)/\Ext w w'):=by
 obtain⟨g0,first,cap,rfl,W,Y⟩:=U;have u:=St.start w;refine eZ Tryz.func321 ?_;refine aH tE (J.ext u.aF) ?_;refine⟨λm x G=>∃k:Nat,x=hH (k:Int)/\m=xs.length-k/\k<=xs.length/\(∀y∈xs.take k,g y=false)/\St w aZ [] G,⟨_,0,rfl,rfl,la _,ee,u⟩,?_⟩;rintro m _ G ⟨k,rfl,rfl,hk,B,u⟩ _;refine aQ (aC (λjC=>?_) λ_=>⟨fM (ng .i64) (ja (by rw[kE bM]at B;exact B)).symm,u.aF⟩);obtain⟨V,E⟩:=gx xs (i:=(k:Int).toNat) bM;refine aN tE (J.ext u.aF) bM E (λ_ O=>aD EJ O (gZ W (Y V G u.aF) ?_))
 rintro _ _ ⟨rfl,M⟩;have u:=u.ext M;exact aY (λI=>⟨fM (ng .i64) (l8 B E I).symm,u.aF⟩) (λI=>aK bM ⟨xs.length-(k+1),bM,k+1,rfl,rfl,bM,dW B E I,u⟩)
def C300(sv fv:Value)(xs:List oC)(g:oC->Bool)(w:World)(E:cZ (λ_=>True) w sv xs)(B:wi w fv g)(G:xs.length<=1073741824):CR 300 [sv,fv] w (λv w'=>v=.bool (xs.any g)/\Ext w w'):=by
 have u:=St.start w;refine eZ Tryz.func300 ?_;exact aV aou u (C321 _ _ _ _ _ (E.ext u.aF) (B.ext u.aF) bM) (λ_ _ u=>cQ ⟨vb (kR _ _),u.aF⟩)
def C266(sv:Value)(xs:List oC)(many:Int)(w:World)(G:cZ (λ_=>True) w sv xs)(Y:xs.length<=1048576):CR 266 [sv,hH many] w (λv w'=>v=.bool (mw xs many)/\Ext w w'):=by
 have u:=St.start w;refine eZ Tryz.func266 ?_;refine nx u rfl (λJ I u=>aV aon u (C299 _ _ _ (G.ext u.aF) bM) λ_ U u=>aO rfl (aO rfl (aO rfl ?_)));refine⟨_,?_,λ_ _ h=>h⟩;refine aH tE (G.ext u.aF) (gA (aC (λW=>aY (λO=>aG (aC (λM=>?_) λM=>?_)) λO=>?_) λW=>?_))
 .have B:wi _ (.func (.func 298) [].toArray [.pointer (some ⟨J,0,none⟩)].toArray) (qY many):=
   ⟨298,[],_,rfl,aom,λy I V=>C298 y J many I ((u.hb.cell rfl).ext V)⟩
  refine aV aoo u (C300 _ _ _ _ _ (G.ext u.aF) B bM) (λ_ U u=>bQ ?_);intro E;refine⟨vb ?_,u.aF⟩;unfold mw
  simp_all<;>omega
 .intro E;refine⟨vb ?_,u.aF⟩;unfold mw
  simp_all<;>omega
 .intro E;refine⟨vb ?_,u.aF⟩;unfold mw
  simp_all<;>omega
 intro E;refine⟨vb ?_,u.aF⟩;unfold mw
 simp_all<;>omega
def o0(b:Nat)(rest:List Value)(l:List Int):HP:=pK λsv=>sep (bY b (sv::rest)) (bH sv l)
def o0.shut{w0 w:World}{A:Nat->Prop}{R:List HP}{b:Nat}{rest:List Value}{sv:Value}{l:List Int}(u:St w0 A (bY b (sv::rest)::bH sv l::R) w):St w0 A (o0 b rest l::R) w:=
 St.eh (H:=λsv=>sep (bY b (sv::rest)) (bH sv l)) sv (St.join u)
def o0.open{w0 w:World}{A:Nat->Prop}{R:List HP}{b:Nat}{rest:List Value}{l:List Int}(u:St w0 A (o0 b rest l::R) w):∃sv,St w0 A (bY b (sv::rest)::bH sv l::R) w:=by
 obtain⟨sv,u⟩:=u.eg;exact⟨sv,u.split⟩
def j7(l:List Int):Int:=l.getD (l.length-1) 0
theorem X4{l:List Int}{e:Int}(h:l[((l.length:Int)-1).toNat]?=some e):e=j7 l:=by
 simp_all[j7]
def C301(b:Nat)(n:Int)(rest:List Value)(l:List Int)(F:Nat->Prop)(w:World)(G:(o0 b rest l).p w F)(I:l.length<=1048576):CR 301 [.pointer (some ⟨b,0,none⟩),hH n] w (λv w'=>v=.tuple #[]/\mP F (o0 b rest (l++[n])) w w'):=by
 have u:=St.begin G;obtain⟨sv,u⟩:=u.eg;have u:=u.split;refine eZ Tryz.func301 ?_;refine aE (aA qt (aB eO u.hb rfl (bD ([n]:List Int) u cR rfl rfl (dR rfl) λE _ u=>?_)));have B:=u.dS;exact bL u.p2 cR B (by simp<;>omega) dC (λ_ _ u=>have u:=u.p1.drop;aE (aA qt (aW u.p1 eO (dR rfl) u.dS.one λ_ u=>have u:=u.p1.p1;⟨rfl,(o0.shut u).mut⟩)))
def C270(b:Nat)(rest:List Value)(l:List Int)(F:Nat->Prop)(w:World)(I:(o0 b rest l).p w F)(J:l.length<=1048576)(O:0<l.length):CR 270 [.pointer (some ⟨b,0,none⟩)] w (λv w'=>v=hH (j7 l)/\mP F (o0 b rest (l.take (l.length-1))) w w'):=by
 have u:=St.begin I;obtain⟨sv,u⟩:=u.eg;have u:=u.split;refine py Tryz.func270 (pl:=awf) ?_;refine aE (aA qt (have u:=u.drew;aB eO u.hb rfl (aE (aA qt (aB eO u.hb rfl (aH cR u.p1.dS (fr bM ?_)))))));obtain⟨M,B⟩:=gx l (i:=((l.length:Int)-1).toNat) bM;refine dM u.p1 cR bM bM (λ_ E=>fZ u.p1 bO E B (aE (aA qt (have u:=u.drew;aB eO u.hb rfl (aE (aA qt (aB eO u.hb rfl (aH cR u.p1.dS (fr bM (have u:=u.p1;se cR u bM bM λG u=>aE (aA qt ?_)))))))))))
 refine aW u.p1 eO (dR rfl) u.dS.one (λ_ u=>?_);have u:=u.p1.p1;rw[show((l.length:Int)-1).toNat=l.length-1 from bM]at u;rw[X4 B];exact⟨rfl,(o0.shut u).mut⟩
def C268(b:Nat)(n hi:Int)(l:List Int)(F:Nat->Prop)(w:World)(B:(o0 b [hH hi] l).p w F)(G:l.length<=1048576):CR 268 [.pointer (some ⟨b,0,none⟩),hH n] w (λv w'=>v=.tuple #[]/\∃E,mP F (o0 b [hH E] (l++[n])) w w'):=by
 have u:=St.begin B;refine py Tryz.func268 (pl:=awe) ?_;refine aE (aA uG (qg aop u (H':=λ_=>o0 b [hH hi] (l++[n])) (Φ:=λv _=>v=.tuple #[]) (λF B=>?_) ?_))
 .exact C301 b n _ l F _ B bM
 rintro _ _ rfl u;obtain⟨sv,u⟩:=o0.open u;exact aE (aA L4 (have u:=u.drew;aB bO u.hb rfl (aE (aA uG (aA qt (aB eO u.hb rfl (aH cR u.p1.dS (DY (aE (aA L4 (aW u bO (dR rfl) (rfl) λ_ u=>have u:=u.p1.p1;⟨rfl,_,(o0.shut u).mut⟩)))))))))))
def lu(ns S:List Int)(x:oC):List Int:=
 if eC x.kind=0 then S++[if x.kind=2 then ns.getD x.n.toNat 0 else x.n]
 else if eC x.kind=1 then S.take (S.length-1)++[yL x.kind (j7 S)]
 else S.take (S.length-2)++[gD x.kind (j7 (S.take (S.length-1))) (j7 S)]
def vr(S:List Int)(x:oC):Int:=if eC x.kind=2 then gI x.kind (j7 S)else 0
def wk(ns:List Int):List oC->List Int->Int×Int
 | [],S=>(j7 S,0)
 | x::r,S=>if vr S x=0 then wk ns r (lu ns S x)else(0,vr S x)
def runM(l:List oC)(ns:List Int):Int×Int:=if mw l ns.length=true then wk ns l []else(0,8)
def A4(k:Int):eC k=0\/eC k=1\/eC k=2:=by
 grind[eC]
section
variable {xs:List oC}{ns S:List Int}{k:Nat}{x:oC}{n h:Int}
theorem D0(u:xs[k]?=some x)(h:vr S x=0):wk ns (xs.drop k) S=wk ns (xs.drop (k+1)) (lu ns S x):=by
 obtain⟨B,E⟩:=j0.1 u
 rw[r6 B,E,wk,ej h]
theorem X5(u:xs[k]?=some x)(h:¬ vr S x=0):wk ns (xs.drop k) S=(0,vr S x):=by
 obtain⟨B,E⟩:=j0.1 u
 rw[r6 B,E,wk,ei h]
theorem y9{many:Int}(h:mw xs many=true):xs.length<=40/\(∃a,ht xs=some (1,a))/\∀x∈xs,qY many x=false:=by
 unfold mw at h
 rw[n3,n3,n3,decide_eq_true_eq,decide_eq_true_eq]at h
 obtain⟨⟨⟨h1,h2⟩,h3⟩,h4⟩:=h
 refine⟨h1,?_,λx u=>?_⟩
 .unfold htN at h3
  grind
 grind
theorem UJ(u:eC x.kind<=(S.length:Int)):((lu ns S x).length:Int)=S.length-eC x.kind+1:=by
 unfold lu
 rcases A4 x.kind with h|h|h
 .grind
 .grind
 grind
theorem UK{a:Int}(I:ht xs=some (1,a))(B:ht (xs.take k)=some ((S.length:Int),h))(E:xs[k]?=some x) :
  eC x.kind<=(S.length:Int)/\∃G,ht (xs.take (k+1))=some (((lu ns S x).length:Int),G):=by
 have u:eC x.kind<=(S.length:Int):=by
  rcases Int.lt_or_le ((S.length:Int)-eC x.kind) 0 with h1|h1
  .have:=SL (aiZ E B rfl h1);grind
  .omega
 exact⟨u,_,(adz E B rfl bM).trans (by rw[UJ u])⟩
theorem ai0(u:eC x.kind=0)(h2:¬ x.kind=2):lu ns S x=S++[x.n]:=by unfold lu;grind
theorem ai1{e:Int}(u:eC x.kind=0)(h2:x.kind=2)(B:ns[x.n.toNat]?=some e):lu ns S x=S++[e]:=by
 grind[lu]
theorem ai2(u:eC x.kind=1):lu ns S x=S.take (S.length-1)++[yL x.kind (j7 S)]:=by unfold lu;rw[ei bM,ej u]
theorem ai3(u:eC x.kind=2):lu ns S x=S.take (S.length-2)++[gD x.kind (j7 (S.take (S.length-1))) (j7 S)]:=by unfold lu;rw[ei bM,ei bM]
theorem X6(u:¬ eC x.kind=2):vr S x=0:=by unfold vr;omega
theorem ag3(u:eC x.kind=2):vr S x=gI x.kind (j7 S):=by unfold vr;omega
theorem PI(h:2<=S.length):(S.take (S.length-1)).take ((S.take (S.length-1)).length-1)=S.take (S.length-2):=by
 grind
end
def ni(b:Nat)(l:List Int):HP:=pK fun (hi:Int)=>o0 b [hH hi] l
def ni.shut{w0 w:World}{A:Nat->Prop}{R:List HP}{b:Nat}{hi:Int}{l:List Int}(u:St w0 A (o0 b [hH hi] l::R) w):St w0 A (ni b l::R) w:=
 St.eh (H:=fun (hi:Int)=>o0 b [hH hi] l) hi u
def adA(b:Nat)(n:Int)(l:List Int)(F:Nat->Prop)(w:World)(u:(ni b l).p w F)(G:l.length<=1048576) :
  Calls g6 268 [.pointer (some ⟨b,0,none⟩),hH n].toArray w (tc λv w'=>v=.tuple #[]/\mP F (ni b (l++[n])) w w'):=by
 obtain⟨hi,u⟩:=u
 refine(C268 b n hi l F w u G).mono λe w' ⟨v,J,E,B,I,h1,h2⟩=>⟨v,J,E,I,⟨B,h1⟩,h2⟩
def adB(b:Nat)(l:List Int)(F:Nat->Prop)(w:World)(u:(ni b l).p w F)(E:l.length<=1048576)(J:0<l.length) :
  Calls g6 270 [.pointer (some ⟨b,0,none⟩)].toArray w (tc λv w'=>v=hH (j7 l)/\mP F (ni b (l.take (l.length-1))) w w'):=by
 obtain⟨hi,u⟩:=u
 refine(C270 b [hH hi] l F w u E J).mono λe w' ⟨v,I,B,G,h1,h2⟩=>⟨v,I,B,G,⟨hi,h1⟩,h2⟩
def C219(sv nv:Value)(xs:List oC)(ns:List Int)(w:World)(hL:cZ (λ_=>True) w sv xs)(hN:cZ (λ_=>True) w nv ns)(hn:xs.length<=1048576):CR 219 [sv,nv] w (λv w'=>v=.tuple #[hH (runM xs ns).1,hH (runM xs ns).2]/\Ext w w'):=by
 have u:=St.start w;refine acX _ _ _ _ ?_;unfold S219;refine aH cR (hN.ext u.aF) (aV aoa u (C266 _ _ _ _ (hL.ext u.aF) hn) λw1 Y u=>bQ (aY (λfu=>?_) λfu=>?_))
 .unfold runM;rw[ei (by simpa using fu)];exact⟨rfl,u.aF⟩
 refine aR u ads (λE _ u=>?_);have u:=ni.shut (o0.shut (u.eV (α:=Int)).p1);have lP:mw xs (ns.length:Int)=true:=by simpa using fu
 obtain⟨h40,⟨a0,wC⟩,awF⟩:=y9 lP;refine aH tE (hL.ext u.aF) ?_;refine⟨λm x w1=>∃(k:Nat) (S:List Int) (h:Int),x=hH (k:Int)/\m=xs.length-k/\k<=xs.length/\wk ns xs []=wk ns (xs.drop k) S/\ht (xs.take k)=some ((S.length:Int),h)/\St w aZ [ni E S] w1,⟨_,0,[],0,rfl,rfl,bM,rfl,rfl,u⟩,?_⟩;rintro m _ _ ⟨k,S,h,rfl,rfl,hk,O,V,u⟩ _;refine aQ (aC (λm8=>?_) λm8=>?_)
 .refine⟨_,?_,λ_ h=>h⟩;obtain⟨B,J⟩:=gx xs (i:=(k:Int).toNat) bM;refine aN tE (hL.ext u.aF) bM J (λ_ xd=>aD EJ xd (aR u Ju λUI _ u=>aJ (x:=B) u EJ rfl rfl λ_ u=>aA nA (aB bO u.hb rfl (aV Xn u (C267 _ _) λ_ Y u=>?_))));have Lg:=awF _ (kp J);unfold qY at Lg;have ho:=gS Lg;obtain⟨hw0,h2,I⟩:=UK (ns:=ns) (k:=k) wC V J;have hwk:eC B.kind=0->B.kind=1\/B.kind=2\/¬ (B.kind=1\/B.kind=2):=λ_=>bM
  have hSk:=aiY k _ _ bM V;have hw3:=A4 B.kind;refine aG (aC (λxe=>aA qu (aB bO u.hb rfl ⟨_,aA nA (aB bO u.hb rfl (aG (aC (λxf=>?_) λxf=>?_))),λ_ _ h=>h⟩)) λxe=>aG (aC (λU=>?_) λU=>?_))
  .refine aA qu (aB bO u.hb rfl ?_);obtain⟨X7,PJ⟩:=gx ns (i:=B.n.toNat) bM;refine aN cR (hN.ext u.aF) bM PJ (λ_ A5=>aD bO A5 ?_);intro wz;refine qg Si u.p1 (H':=λ_=>ni E (S++[X7])) (Φ:=λv _=>v=.tuple #[]) (λF G=>?_) ?_
   .exact adA E X7 S F _ G (by first|omega|(simp only[lY,kU,l0];omega))
   rintro _ w8 rfl u;intro Z;refine aK bM ?_;have u:=u.p1.drop;have M:lu ns S B=_:=ai1 xe xf PJ;exact⟨_,bM,k+1,_,_,rfl,rfl,bM,O.trans (D0 (k:=k) J (X6 bM)),I,by rw[M];exact u⟩
  .intro wz;refine qg Si u.p1 (H':=λ_=>ni E (S++[B.n])) (Φ:=λv _=>v=.tuple #[]) (λF G=>?_) ?_
   .exact adA E B.n S F _ G (by first|omega|(simp only[lY,kU,l0];omega))
   rintro _ w8 rfl u;intro Z;refine aK bM ?_;have u:=u.p1.drop;have M:lu ns S B=_:=ai0 xe xf;exact⟨_,bM,k+1,_,_,rfl,rfl,bM,O.trans (D0 (k:=k) J (X6 bM)),I,by rw[M];exact u⟩
  .refine aA nA (have u:=u.drew;aB bO u.hb rfl (aA uG (qg Sj u.p1 (H':=λ_=>ni E (S.take (S.length-1))) (Φ:=λv _=>v=hH (j7 S)) (λF G=>?_) ?_)))
   .exact adB E S F _ G (by first|omega|(simp only[lY,kU,l0];omega)) (by first|omega|(simp only[lY,kU,l0];omega))
   rintro _ _ rfl u;refine⟨aI bO (u.p1.hb.cell rfl),?_⟩;refine aV aob u (C269 _ _ _) (λ_ Y u=>aO rfl (aO rfl (qg Si u (H':=λ_=>ni E ((S.take (S.length-1))++[(yL B.kind (j7 S))])) (Φ:=λv _=>v=.tuple #[]) (λF G=>?_) ?_)))
   .exact adA E (yL B.kind (j7 S)) (S.take (S.length-1)) F _ G (by first|omega|(simp only[lY,kU,l0];omega))
   rintro _ _ rfl u;intro Z;refine aK bM ?_;have u:=u.p1.drop;have M:lu ns S B=_:=ai2 U;exact⟨_,bM,k+1,_,_,rfl,rfl,bM,O.trans (D0 (k:=k) J (X6 bM)),I,by rw[M];exact u⟩
  refine aA uG (qg Sj u.p1 (H':=λ_=>ni E (S.take (S.length-1))) (Φ:=λv _=>v=hH (j7 S)) (λF G=>?_) ?_)
  .exact adB E S F _ G (by first|omega|(simp only[lY,kU,l0];omega)) (by first|omega|(simp only[lY,kU,l0];omega))
  rintro _ _ rfl u;refine aA nA (have u:=u.drew;aB bO u.p1.hb rfl (aA uG (qg Sj u (H':=λ_=>ni E ((S.take (S.length-1)).take ((S.take (S.length-1)).length-1))) (Φ:=λv _=>v=hH (j7 (S.take (S.length-1)))) (λF G=>?_) ?_)))
  .exact adB E (S.take (S.length-1)) F _ G (by first|omega|(simp only[lY,kU,l0];omega)) (by first|omega|(simp only[lY,kU,l0];omega))
  rintro _ _ rfl u;refine⟨aI bO (u.p1.hb.cell rfl),?_⟩;refine aV aoc u (C271 _ _ _ _) (λ_ Y u=>aO rfl (aO rfl (bV (aC (λW=>?_) λW=>?_))))
  .have hz:vr S B=gI B.kind (j7 S):=ag3 (by have:=A4 B.kind;omega);unfold runM;rw[ej lP,O,X5 (k:=k) J (by rw[hz];exact W),hz];exact⟨rfl,u.aF⟩
  refine qg Si u (H':=λ_=>ni E (((S.take (S.length-1)).take ((S.take (S.length-1)).length-1))++[(gD B.kind (j7 (S.take (S.length-1))) (j7 S))])) (Φ:=λv _=>v=.tuple #[]) (λF G=>?_) ?_
  .exact adA E (gD B.kind (j7 (S.take (S.length-1))) (j7 S)) ((S.take (S.length-1)).take ((S.take (S.length-1)).length-1)) F _ G (by first|omega|(simp only[lY,kU,l0];omega))
  rintro _ _ rfl u;intro Z;refine aK bM ?_;have u:=u.p1.drop;rw[PI bM]at u;have M:lu ns S B=_:=ai3 (by have:=A4 B.kind;omega);exact⟨_,bM,k+1,_,_,rfl,rfl,bM,O.trans (D0 (k:=k) J ((ag3 (by have:=A4 B.kind;omega)).trans (vy.1 W))),I,by rw[M];exact u⟩
 refine aA uG ?_
 have hS1:S.length=1:=by
  rw[kE bM,wC]at V;have:=(Prod.mk.inj (n4.inj V)).1;omega
 refine qg Sj u (H':=λ_=>ni E (S.take (S.length-1))) (Φ:=λv _=>v=hH (j7 S)) (λF G=>?_) ?_
 .exact adB E S F _ G (by first|omega|(simp only[lY,kU,l0];omega)) (by first|omega|(simp only[lY,kU,l0];omega))
 rintro _ _ rfl u;unfold runM;rw[ej lP,O,u1 bM];exact⟨rfl,u.aF⟩
def X8(x:Int):eX (B2 x):=by unfold eX B2;rw[IntKind.wrap_i64];omega
def adE{a:Int}(b:Int)(B:eX a):eX (a.tmod b):=by
 have u:(a.tmod b).natAbs<=a.natAbs:=by rw[TM];exact abN _ _
 unfold eX at *
 rcases aa8 0 a with h|h
 .have:=Qt b h;omega
 have:=Qt (a:=-a) b bM
 rw[aa7]at this;omega
def X9(p:Bool):eX (JC p):=by cases p<;>(unfold eX JC;decide)
def iD:eX 0:=by unfold eX;decide
def Ya{op a b:Int}(u:eX a):eX (gD op a b):=by
 unfold gD
 by_cases h:gI op b=0
 .rw[ej h]
  unfold lM EY
  repeat' split
  all_goals first|exact X8 _|exact X9 _|exact iD|exact adE _ u
 rw[ei h];exact iD
def Yb{op a:Int}:eX (yL op a):=by
 unfold yL
 repeat' split
 all_goals first|exact X8 _|exact X9 _|exact iD
def yM(S:List Int):Prop:=∀v∈S,eX v
theorem Mf{S:List Int}(h:yM S):eX (j7 S):=by
 unfold j7
 rw[n0]
 cases hh:S[S.length-1]? with
 | none=>exact iD
 | some e=>exact h e (kp hh)
def yM.take{S:List Int}(h:yM S)(k:Nat):yM (S.take k):=λv u=>h v (wE u)
def yM.snoc{S:List Int}{e:Int}(h:yM S)(B:eX e):yM (S++[e]):=λv u=>by
 rcases List.mem_append.1 u with u|u
 .exact h v u
 grind
theorem Yc{ns S:List Int}{x:oC}{many:Int}(E:yM ns)(u:yM S)(B:qY many x=false):yM (lu ns S x):=by
 unfold qY at B
 have B:=gS B
 unfold lu
 split
 .rename_i hw
  split
  .rw[n0]
   cases hh:ns[x.n.toNat]? with
   | none=>exact u.snoc iD
   | some e=>grind[yM]
  refine u.snoc ?_
  unfold eC at hw
  unfold eX
  omega
 split
 .exact(u.take _).snoc Yb
 exact(u.take _).snoc (Ya (Mf (u.take _)))
def cU(ns:List ByteArray)(s:ByteArray):Int:=si (λy=>decide (y=s)) ns
def iW(p:cA):List cI:=p.lines.flatten++p.iO
structure PS(p:cA):Prop where
 lines:p.lines.length<=500
 line:∀l∈p.lines,l.length<=500
 iO:p.iO.length<=500
 eI:p.eI.length<=500
 threads:p.threads.length<=500
 recover:p.recover.length<=500
 eb:p.eb.length<=500
 dQ:∀t∈p.threads++p.recover,t.dQ.length<=500
 body:∀t∈p.threads++p.recover,t.body.length<=500
theorem cY{ls:List (List cI)}(h:∀l∈ls,l.length<=500):ls.flatten.length<=500*ls.length:=by
 induction ls with
 | nil=>simp
 | cons a ls u=>
  grind
def kS{p:cA}(h:PS p):(iW p).length<=250500:=by
 have h1:=cY h.line
 have h2:=h.lines
 have h3:=h.iO
 grind[iW]
theorem UL{α:Type}{ls:List (List α)}{k:Nat}{l:List α}(h:ls[k]?=some l):(ls.take k).flatten++l=(ls.take (k+1)).flatten:=by rw[<- gO h,List.flatten_append];simp
theorem gP{α β:Type}{f:α->β}{l:List α}{k:Nat}{e:α}(h:l[k]?=some e):(l.take k).map f++[f e]=(l.take (k+1)).map f:=by rw[<- gO h,vf];rfl
def C123(lv:Value)(ns:List ByteArray)(q:ByteArray)(w:World)(J:cZ (λ_=>True) w lv ns)(O:ns.length<=1048576):CR 123 [lv,.string q] w (λv w'=>v=hH (cU ns q)/\Ext w w'):=by
 have u:=St.start w;refine eZ Tryz.func123 ?_;refine⟨λm x I=>∃k:Nat,x=hH (k:Int)/\m=ns.length-k/\k<=ns.length/\(∀y∈ns.take k,decide (y=q)=false)/\St w aZ [] I,⟨_,0,rfl,rfl,la _,ee,u⟩,?_⟩;rintro m _ I ⟨k,rfl,rfl,U,B,u⟩ _;refine aH iF (J.ext u.aF) (aQ (aC (λV=>?_) λ_=>⟨fM (ng .i64) (ja (by rw[kE bM]at B;exact B)).symm,u.aF⟩));obtain⟨W,G⟩:=gx ns (i:=(k:Int).toNat) bM;exact aN iF (J.ext u.aF) bM G (λ_ M=>aD gB M (jB (aC (λE=>⟨fM (ng .i64) (l8 B G (ew E)).symm,u.aF⟩) λE=>aK bM ⟨ns.length-(k+1),bM,k+1,rfl,rfl,bM,dW B G (ez E),u⟩)))
def C202(lv:Value)(cs:List cI)(w:World)(I:cZ (λ_=>True) w lv cs)(V:cs.length<=1048576):CR 202 [lv] w (λv w'=>kP (bH v (cs.map cI.name)) w w'):=by
 have u:=St.start w;refine eZ Tryz.func202 ?_;refine bD ([]:List ByteArray) u iF rfl rfl (dR rfl) (λPK E u=>?_);refine⟨λm y x E=>∃k:Nat,x=hH (k:Int)/\m=cs.length-k/\k<=cs.length/\St w aZ [bH y ((cs.take k).map cI.name)] E,⟨_,0,rfl,rfl,bM,u⟩,?_⟩;rintro m Y _ _ ⟨k,rfl,rfl,W,u⟩ _;have Z:((cs.take k).map cI.name).length=k:=by rw[List.length_map,lY];omega
 refine aH iu (I.ext u.aF) (aQ (aC (λO=>?_) λO=>?_))
 .obtain⟨G,B⟩:=gx cs (i:=(k:Int).toNat) bM;refine aN iu (I.ext u.aF) bM B (λ_ U=>bU G.name kL U rfl rfl λ_ M=>aD gB M (bD ([G.name]) u iF rfl rfl (dR rfl) λYd _ u=>?_));have J:=u.dS;exact bL u.p1 iF J (by simp<;>omega) dC (λ_ _ u=>have u:=u.p1.drop;aK bM ⟨_,bM,k+1,rfl,rfl,bM,by rw[<- gP (k:=k) B];exact u⟩)
 rw[kE bM]at u;exact u.fresh
def C59(p:cA)(pv:bN)(w:World)(hp:Deep.dr w pv p)(B:PS p):CR 59 [hM pv] w (λv w'=>kP (bH v (iW p)) w w'):=by
 obtain⟨bJ,bT,bK,aU,aX,bG,rfl,cO,dG,cW,cB,cC,cN⟩:=hp;have u:=St.start w;refine eZ Tryz.func59 ?_;refine cH u (λki w1 u=>bD ([]:List cI) u iu rfl rfl (dR rfl) λPK _ u=>?_);refine⟨λm y x w1=>∃k:Nat,x=hH (k:Int)/\m=p.lines.length-k/\k<=p.lines.length/\St w aZ [bH y (p.lines.take k).flatten,bY ki (hZ (⟨bJ,bT,bK,aU,aX,bG⟩:bN))] w1,⟨_,0,rfl,rfl,bM,u⟩,?_⟩;rintro m o7 _ _ ⟨k,rfl,rfl,hk,u⟩ _;have UM:=B.lines;refine aA gC (aB oO u.p1.hb rfl ?_)
 obtain⟨Ye,E,G⟩:=cO.open;have Yf:=G.1;refine aH pJ (E.ext u.aF) (aQ (aC (λgN=>?_) λgN=>?_))
 .refine aA gC (aB oO u.p1.hb rfl ?_);obtain⟨Z,Yg⟩:=gx Ye (i:=(k:Int).toNat) bM;obtain⟨I,J⟩:=gx p.lines (i:=(k:Int).toNat) bM;have W:DL w (hM Z) I:=G.2 _ _ _ Yg J;refine aN pJ (E.ext u.aF) bM Yg (λ_ Mg=>aD jF Mg ?_);have M:=DL.flat W;have zI:=B.line _ (kp J);have Y:=cY (ls:=p.lines.take k) (λl U=>B.line l (wE U));rw[lY]at Y;have UM:=B.lines;have lD:=(M.ext u.aF);exact bL u iu lD bM dC (λ_ _ u=>aK bM ⟨_,bM,k+1,rfl,rfl,bM,by rw[<- UL (k:=k) J];exact u⟩)
 refine aA qe (aB jF u.p1.hb rfl ?_);have O:=DL.flat dG;have Y:=cY (ls:=p.lines.take k) (λl U=>B.line l (wE U));rw[lY]at Y;have UM:=B.lines;have hz2:=B.iO;have V:=(O.ext u.aF);refine bL u iu V bM dC (λao2 _ u=>?_);rw[kE bM]at u;exact u.p1.drop.fresh
def kids(k:Int):Int:=if k=1\/k=2 then 0 else if k=3\/k=4 then 1 else if 5<=k/\k<=15 then 2 else -1
def tY(k:Int) : -1<=kids k/\kids k<=2:=by
 grind[kids]
def gE(c:Int):Bool:=decide (97<=c/\c<=122\/c=95)
def kj(c:Int):Bool:=decide (48<=c/\c<=57)
def jN:List ByteArray:=[⟨#[108,105,110,101]⟩,⟨#[118,111,108]⟩,⟨#[108,111,99,107]⟩,⟨#[116,104,114,101,97,100]⟩,⟨#[114,101,103]⟩,⟨#[108,111,97,100]⟩,⟨#[115,116,111,114,101]⟩,⟨#[99,97,115]⟩,⟨#[102,108,117,115,104]⟩,⟨#[111,112,116]⟩,⟨#[115,102,101,110,99,101]⟩,⟨#[109,102,101,110,99,101]⟩,⟨#[116,97,107,101]⟩,⟨#[103,105,118,101]⟩,⟨#[105,102]⟩,⟨#[101,108,115,101]⟩,⟨#[108,111,111,112]⟩,⟨#[98,114,101,97,107]⟩,⟨#[99,104,101,99,107]⟩,⟨#[114,101,99,111,118,101,114]⟩,⟨#[97,108,119,97,121,115]⟩]
def gQ(s:ByteArray):Bool:=!(decide (s.size<1\/16<s.size)||(match (iN s)[0]? with|some c=>!gE c.toNat|none=>true)||jN.any λy=>decide (y=s))&&!(iN s).any (λc=>!gE c.toNat&&!kj c.toNat)
def skip:Nat->List bZ->Option (List bZ)
 | 0,l=>some l
 | _+1,[]=>none
 | n+1,x::l=>if kids x.op<0 then none else skip (n+(kids x.op).toNat) l
theorem zJ(l:List bZ):skip 0 l=some l:=by cases l<;>rfl
theorem E3(l:List bZ):∀a b,skip (a+b) l=(skip a l).bind (skip b):=by
 induction l with
 | nil=>
  intro a b
  cases a with
  | zero=>rw[tx,zJ];rfl
  | succ a=>grind[skip]
 | cons x l u=>
  intro a b
  cases a with
  | zero=>rw[tx,zJ];rfl
  | succ a=>
   grind[skip]
theorem E4(l:List bZ):∀n r,skip n l=some r->r=l.drop (l.length-r.length)/\r.length+min n 1<=l.length:=by
 induction l with
 | nil=>
  intro n r h
  cases n with
  | zero=>rw[zJ]at h;grind
  | succ n=>cases h
 | cons x l u=>
  intro n r h
  cases n with
  | zero=>rw[zJ]at h;simp_all
  | succ n=>
   have h:(if kids x.op<0 then none else skip (n+(kids x.op).toNat) l)=some r:=h
   split at h
   .cases h
   .obtain⟨h1,h2⟩:=u _ _ h
    refine⟨?_,cJ⟩
    rw[show(x::l).length-r.length=(l.length-r.length)+1 from cJ]
    exact h1
def Dy(n:Nat)(o:Option (List bZ)):Int:=match o with|some r=>(n:Int)-r.length|none=>-1
def qw(xs:List bZ)(i:Int):Int:=if i<0 then -1 else Dy xs.length (skip 1 (xs.drop i.toNat))
def Yh{xs:List bZ}{i:Int}{x:bZ}(I:0<=i)(u:xs[i.toNat]?=some x)(G:0<=kids x.op):qw xs i=Dy xs.length (skip (kids x.op).toNat (xs.drop (i.toNat+1))):=by
 unfold qw
 obtain⟨B,E⟩:=j0.1 u
 rw[ei bM,r6 B,E]
 show Dy _ (if kids x.op<0 then none else skip (0+(kids x.op).toNat) _)=_
 grind
theorem adF{xs:List bZ}{i:Int}{x:bZ}(I:0<=i)(u:xs[i.toNat]?=some x)(G:kids x.op<0):qw xs i = -1:=by
 unfold qw
 obtain⟨B,E⟩:=j0.1 u
 rw[ei bM,r6 B,E]
 grind[Dy,skip]
theorem adG{xs:List bZ}{i:Int}(h:i<0\/xs.length<=i):qw xs i = -1:=by
 unfold qw
 split
 .rfl
 rw[u1 bM];rfl
theorem ao3{xs:List bZ}{j k:Nat}{a:Int}(h:Dy xs.length (skip k (xs.drop j))=a)(B:0<=a):qw xs a=Dy xs.length (skip (k+1) (xs.drop j))/\((j:Int)<=a\/xs.length<=a):=by
 cases hs:skip k (xs.drop j)with
 | none=>rw[hs]at h;unfold Dy at h;simp only[]at h;omega
 | some r=>
  rw[hs]at h
  have h:(xs.length:Int)-r.length=a:=h
  obtain⟨h1,h2⟩:=E4 _ _ _ hs
  rw[qa]at h1 h2
  rw[E3,hs]
  show _=Dy _ (skip 1 r)/\_
  refine⟨?_,bM⟩
  unfold qw
  rw[ei bM]
  by_cases u:j<=xs.length
  .have:xs.drop a.toNat=r:=by
    rw[h1,sZ,show j+(xs.length-j-r.length)=a.toNat from bM]
   rw[this]
  .have:r=[]:=ta.1 bM
   subst this
   rw[u1 (by simp at h;omega)]
theorem ai6{xs l:List bZ}{k j:Nat}(B:l.length<=xs.length)(h:¬ 0<=Dy xs.length (skip k l))(u:k<=j):Dy xs.length (skip k l)=Dy xs.length (skip j l):=by
 cases hs:skip k l with
 | none=>rw[show j=k+(j-k)from bM,E3,hs];rfl
 | some r=>
  obtain⟨_,h2⟩:=E4 _ _ _ hs
  rw[hs]at h;unfold Dy at h;simp only[]at h;omega
theorem awH{xs l:List bZ}{k:Nat}(u:l.length<=xs.length) : -1<=Dy xs.length (skip k l)/\Dy xs.length (skip k l)<=xs.length:=by
 cases hs:skip k l with
 | none=>unfold Dy;simp only[];omega
 | some r=>
  obtain⟨_,h2⟩:=E4 _ _ _ hs
  unfold Dy;simp only[];omega
def C273(k:Int)(w:World):CR 273 [hH k] w (λv w'=>v=hH (kids k)/\Ext w w'):=by
 have E:=St.start w;refine eZ Tryz.func273 ?_;refine⟨λB w'=>B=.bool (decide (k=1\/k=2))/\w=w',aG (aC (λ_=>⟨OU bM,rfl⟩) λ_=>aG ⟨yJ bM,rfl⟩),?_⟩;rintro _ _ ⟨rfl,u⟩ _;subst u;refine aC (λI=>?_) (λI=>⟨λB w'=>B=.bool (decide (k=3\/k=4))/\w=w',aG (aC (λ_=>⟨OU bM,rfl⟩) λ_=>aG ⟨yJ bM,rfl⟩),?_⟩)
 .unfold kids;exact⟨fM (ng .i64) cJ,E.aF⟩
 rintro _ _ ⟨rfl,u⟩ _;subst u;refine aC (λG=>?_) (λG=>⟨λB w'=>B=.bool (decide (5<=k/\k<=15))/\w=w',cQ (aC (λ_=>gA ⟨yJ bM,rfl⟩) λ_=>⟨Xd bM,rfl⟩),?_⟩)
 .unfold kids;exact⟨fM (ng .i64) cJ,E.aF⟩
 rintro _ _ ⟨rfl,u⟩ _;subst u;refine aC (λJ=>?_) (λJ=>?_)
 .unfold kids;exact⟨fM (ng .i64) cJ,E.aF⟩
 unfold kids;exact⟨fM (ng .i64) cJ,E.aF⟩
def C206(c:Int)(w:World):CR 206 [.int .u8 c] w (λv w'=>v=.bool (gE c)/\Ext w w'):=by
 have u:=St.start w;refine eZ Tryz.func206 ?_;refine⟨λE w'=>E=.bool (decide (97<=c/\c<=122\/c=95))/\w=w',AX (aC (λ_=>AW (aC (λ_=>⟨OU bM,rfl⟩) λ_=>nF ⟨yJ bM,rfl⟩)) λ_=>nF ⟨yJ bM,rfl⟩),?_⟩;rintro _ _ ⟨rfl,B⟩ _;subst B;exact⟨rfl,u.aF⟩
def C207(c:Int)(w:World):CR 207 [.int .u8 c] w (λv w'=>v=.bool (kj c)/\Ext w w'):=by
 have u:=St.start w;refine eZ Tryz.func207 ?_;refine⟨λE w'=>E=.bool (decide (48<=c/\c<=57))/\w=w',AX (aC (λ_=>AW ⟨yJ bM,rfl⟩) λ_=>⟨Xd bM,rfl⟩),?_⟩;rintro _ _ ⟨rfl,B⟩ _;subst B;exact⟨rfl,u.aF⟩
def C255(s:ByteArray)(w:World):CR 255 [.string s] w (λv w'=>v=.bool (jN.any λy=>decide (y=s))/\Ext w w'):=by
 have u:=St.start w;refine eZ Tryz.func255 ?_;refine bD jN u iF rfl rfl (dR rfl) (λO I u=>?_);refine⟨λm x I=>∃k:Nat,x=hH (k:Int)/\m=jN.length-k/\k<=jN.length/\(∀y∈jN.take k,decide (y=s)=false)/\St w aZ [bH O jN] I,⟨_,0,rfl,rfl,la _,ee,u⟩,?_⟩;rintro m _ _ ⟨k,rfl,rfl,U,E,u⟩ _;have W:jN.length=21:=rfl;refine aH iF u.dS (aQ (aC (λJ=>?_) λJ=>?_))
 .skip;obtain⟨V,G⟩:=gx jN (i:=(k:Int).toNat) bM;exact dM u iF bM bM (λ_ M=>fZ u gB M G (jB (aC (λB=>⟨vb (ig G (ew B)).symm,u.aF⟩) λB=>aK bM ⟨_,bM,k+1,rfl,rfl,bM,dW E G (ez B),u⟩)))
 rw[kE bM]at E;exact⟨vb (iB E).symm,u.aF⟩
def C211(s:ByteArray)(w:World)(Z:s.size<=1048576):CR 211 [.string s] w (λv w'=>v=.bool (gQ s)/\Ext w w'):=by
 have u:=St.start w;refine eZ Tryz.func211 ?_;refine⟨λM w'=>M=.bool (decide (s.size<1\/16<s.size)||(match (iN s)[0]? with|some c=>!gE c.toNat|none=>true)||jN.any λy=>decide (y=s))/\St w aZ [] w',fg iq (aQ (aC (λ_=>⟨vb cJ,u⟩) λpL=>fg iq (cP (aC (λ_=>⟨vb cJ,u⟩) λgN=>?_)))),?_⟩
 .obtain⟨ix,W⟩:∃I,(iN s)[(0:Int).toNat]?=some I:=⟨_,kO (by rw[eY];omega)⟩;exact jQ iq bM W (aV Sd u (C206 _ _) λ_ _ u=>bQ (aY (λ_=>⟨vb cJ,u⟩) λ_=>aV an6 u (C255 _ _) λ_ _ u=>⟨vb cJ,u⟩))
 rintro _ _ ⟨rfl,u⟩ _;refine aY (λJ=>?_) (λJ=>?_)
 .refine⟨vb ?_,u.aF⟩;unfold gQ;rw[J];rfl
 refine⟨λm x Y=>∃k:Nat,x=hH (k:Int)/\m=(iN s).length-k/\k<=(iN s).length/\(∀y∈(iN s).take k,(!gE y.toNat&&!kj y.toNat)=false)/\St w aZ [] Y,⟨_,0,rfl,rfl,la _,ee,u⟩,?_⟩;rintro m _ _ ⟨k,rfl,rfl,U,G,u⟩ _;rw[eY]at U;have HI:=eY s;refine fg iq (aQ (aC (λV=>?_) λV=>?_))
 .obtain⟨O,B⟩:∃I,(iN s)[(k:Int).toNat]?=some I:=⟨_,kO (by rw[eY];omega)⟩;refine⟨λM w'=>M=.bool (!gE O.toNat&&!kj O.toNat)/\St w aZ [] w',jQ iq bM B (aV Sd u (C206 _ _) λ_ _ u=>bQ (aY (λ_=>jQ iq bM B (aV Se u (C207 _ _) λ_ _ u=>bQ ⟨vb cJ,u⟩)) λ_=>⟨vb cJ,u⟩)),?_⟩;rintro _ _ ⟨rfl,u⟩ _;refine aY (λE=>?_) (λE=>aK bM ⟨_,bM,k+1,rfl,rfl,bM,dW G B (by simpa using E),u⟩);refine⟨vb ?_,u.aF⟩;unfold gQ;rw[ig B E];simp
 rw[kE bM]at G;refine⟨vb ?_,u.aF⟩;unfold gQ;rw[iB G]
 revert J
 cases (decide (s.size<1\/16<s.size)||(match (iN s)[0]? with|some c=>!gE c.toNat|none=>true)||jN.any λy=>decide (y=s))<;>simp
theorem C251(lv:Value)(xs:List bZ)(i:Int)(N:Nat)(w:World)(E:cZ (λ_=>True) w lv xs)(W:xs.length<=1048576)(hi : -9223372036854775808<=i)(hN:(xs.length:Int)-i<N):CR 251 [lv,hH i] w (λv w'=>v=hH (qw xs i)/\Ext w w'):=by
 have u:=St.start w;refine eZ Tryz.func251 ?_;refine⟨λI w'=>I=.bool (decide (i<0\/(xs.length:Int)<=i)||(match xs[i.toNat]? with|some x=>decide (kids x.op<0)|none=>true))/\St w aZ [] w',aQ (aC (λ_=>⟨vb cJ,u⟩) λgJ=>aH g9 (E.ext u.aF) (cQ (aC (λ_=>⟨vb cJ,u⟩) λxg=>?_))),?_⟩
 .obtain⟨O,Z⟩:=gx xs (i:=(i).toNat) bM;exact aN g9 (E.ext u.aF) bM Z (λ_ sj=>bU O.op fa sj rfl rfl λ_ U=>aD bO U (aV Lt u (C273 _ _) λ_ _ u=>aQ ⟨vb cJ,u⟩))
 rintro _ _ ⟨rfl,u⟩ _;refine aY (λ_=>⟨fM (ng .i64) (by grind[adG,adF]),u.aF⟩) (λm8=>?_);have h23:¬ (i<0\/(xs.length:Int)<=i):=cJ
 obtain⟨B,J⟩:=gx xs (i:=(i).toNat) bM;have PM:0<=kids B.op:=cJ
 have Yi:=tY B.op;have Y:=Yh bM J PM;refine aK bM ?_;refine⟨λm y x w1=>∃(k:Nat) (a:Int),x=hH (k:Int)/\y=hH a/\m=(kids B.op).toNat-k/\k<=(kids B.op).toNat/\Dy xs.length (skip k (xs.drop (i.toNat+1)))=a/\St w aZ [] w1,⟨_,0,i+1,rfl,rfl,rfl,bM,by rw[zJ];unfold Dy;simp only[qa];omega,u⟩,?_⟩;rintro m _ _ _ ⟨k,a,rfl,rfl,rfl,hk,M,u⟩ _;have G:=awH (xs:=xs) (l:=xs.drop (i.toNat+1)) (k:=k) (by rw[qa];omega);rw[M]at G;refine⟨λI w'=>I=.bool (decide ((k:Int)<kids B.op/\0<=a))/\St w aZ [] w',aN g9 (E.ext u.aF) bM J (λ_ A8=>bU B.op fa A8 rfl rfl λ_ my=>aD bO my (aV Lt u (C273 _ _) λ_ _ u=>aQ (aC (λ_=>cQ ⟨vb cJ,u⟩) λ_=>⟨vb cJ,u⟩))),?_⟩
 rintro _ _ ⟨rfl,u⟩ _;refine aC (λo8=>?_) (λ_=>⟨fM (ng .i64) (by have:=ai6 (xs:=xs) (l:=xs.drop (i.toNat+1)) (k:=k) (j:=(kids B.op).toNat) (by rw[qa];omega);rw[Y];by_cases h0:0<=a<;>grind),u.aF⟩);have V:=ao3 M bM;exact aV Lr u (C251 _ _ _ (N-1) _ (E.ext u.aF) W bM bM) (λ_ _ u=>aK bM ⟨_,bM,k+1,_,rfl,rfl,rfl,bM,V.1.symm,u⟩)
termination_by N
decreasing_by omega
inductive Ex where
 | leaf (x:bZ)
 | un (x:bZ) (a:Ex)
 | bin (x:bZ) (a b:Ex)
namespace Ex
def root:Ex->bZ|leaf x=>x|un x _=>x|bin x _ _=>x
def eB:Ex->List Ex|leaf _=>[]|un _ a=>[a]|bin _ a b=>[a,b]
def flat:Ex->List bZ|leaf x=>[x]|un x a=>x::a.flat|bin x a b=>x::(a.flat++b.flat)
def wf:Ex->Prop|leaf x=>kids x.op=0|un x a=>kids x.op=1/\a.wf|bin x a b=>kids x.op=2/\a.wf/\b.wf
def depth:Ex->Int|leaf _=>1|un _ a=>a.depth+1|bin _ a b=>max a.depth b.depth+1
def size:Ex->Nat|leaf _=>1|un _ a=>a.size+1|bin _ a b=>a.size+b.size+1
def numOf(ns:List ByteArray)(x:bZ):Int:=if x.op=2 then cU ns x.name else x.n
def steps(ns:List ByteArray):Ex->List oC
 | leaf x=>[⟨x.op,numOf ns x⟩]
 | un x a=>a.steps ns++[⟨x.op,numOf ns x⟩]
 | bin x a b=>a.steps ns++b.steps ns++[⟨x.op,numOf ns x⟩]
end Ex
theorem Ex.cY(t:Ex):t.flat.length=t.size:=by
 induction t with
 | leaf x=>rfl
 | un x a E=>simp[Ex.flat,Ex.size,E]
 | bin x a b u B=>simp[Ex.flat,Ex.size,u,B]
theorem Ex.HJ(t:Ex):t.flat=t.root::(t.eB.map Ex.flat).flatten:=by
 cases t<;>simp[Ex.flat,Ex.root,Ex.eB]
theorem Ex.o9{t:Ex}(h:t.wf):kids t.root.op=t.eB.length:=by
 cases t with
 | leaf x=>exact h
 | un x a=>exact h.1
 | bin x a b=>exact h.1
theorem Ex.tZ{t a:Ex}(h:t.wf)(u:a∈t.eB):a.wf/\a.size<t.size:=by
 cases t with
 | leaf x=>cases u
 | un x b=>rw[ua.1 u];exact⟨h.2,by simp[Ex.size]⟩
 | bin x b c=>
  rcases List.mem_cons.1 u with rfl|u
  .grind[wf,size]
  grind[wf,size]
theorem Ex.rz(t:Ex):1<=t.depth/\t.depth<=t.size:=by
 induction t with
 | leaf x=>simp[Ex.depth,Ex.size]
 | un x a E=>simp only[Ex.depth,Ex.size];omega
 | bin x a b u B=>simp only[Ex.depth,Ex.size];omega
theorem Ex.pN(ns:List ByteArray)(t:Ex):(t.steps ns).length=t.size:=by
 induction t with
 | leaf x=>rfl
 | un x a u=>simp[Ex.steps,Ex.size,u]
 | bin x a b E B=>grind[steps,size]
theorem UN(t:Ex)(h:t.wf):∀n r,skip (n+1) (t.flat++r)=skip n r:=by
 induction t with
 | leaf x=>
  intro n r
  show(if kids x.op<0 then none else skip (n+(kids x.op).toNat) r)=_
  rw[show kids x.op=0 from h];rfl
 | un x a B=>
  intro n r
  show(if kids x.op<0 then none else skip (n+(kids x.op).toNat) (a.flat++r))=_
  rw[show kids x.op=1 from h.1,ei bM];exact B h.2 n r
 | bin x a b E u=>
  intro n r
  show(if kids x.op<0 then none else skip (n+(kids x.op).toNat) (a.flat++b.flat++r))=_
  rw[show kids x.op=2 from h.1,ei bM,nk]
  show skip (n+1+1) _=_
  rw[E h.2.1 (n+1),u h.2.2 n]
theorem SO:∀(k:Nat) (l r:List bZ),l.length<=k->skip 1 l=some r->∃t:Ex,t.wf/\l=t.flat++r
 | k,[],r,_,h=>by cases h
 | 0,x::l,r,u,_=>by simp at u
 | k+1,x::l,r,u,h=>by
  have u:l.length<=k:=cJ
  have h:(if kids x.op<0 then none else skip (0+(kids x.op).toNat) l)=some r:=h
  have hb:=tY x.op
  split at h
  .cases h
  .rcases(show kids x.op=0\/kids x.op=1\/kids x.op=2 by omega)with h0|h0|h0
   .rw[h0]at h
    have h:skip 0 l=some r:=h
    rw[zJ]at h;cases h
    exact⟨.leaf x,h0,rfl⟩
   .rw[h0]at h
    obtain⟨a,E,rfl⟩:=SO k l r u h
    exact⟨.un x a,⟨h0,E⟩,rfl⟩
   .rw[h0]at h
    have h:skip (1+1) l=some r:=h
    rw[E3]at h
    obtain⟨m,h1,h2⟩:=OP.1 h
    obtain⟨a,E,rfl⟩:=SO k l m u h1
    obtain⟨b,B,rfl⟩:=SO k m r cJ h2
    exact⟨.bin x a b,⟨h0,E,B⟩,by simp[Ex.flat]⟩
def B5(xs:List bZ)(i:Int)(t:Ex):Prop:=0<=i/\t.wf/\∃r,xs.drop i.toNat=t.flat++r
def B5.root{xs:List bZ}{i:Int}{t:Ex}(h:B5 xs i t):xs[i.toNat]?=some t.root/\i<xs.length:=by
 obtain⟨u,_,r,h⟩:=h
 have:(xs.drop i.toNat)[0]?=some t.root:=by rw[h,Ex.HJ];rfl
 rw[IT,PQ]at this
 exact⟨this,by have:=(j0.1 this).1;omega⟩
def B5.end{xs:List bZ}{i:Int}{t:Ex}(h:B5 xs i t):qw xs i=i+t.size/\i+t.size<=xs.length:=by
 have E:=h.root.2
 obtain⟨G,u,r,h⟩:=h
 have B:=fM List.length h
 rw[qa,kU,Ex.cY]at B
 refine⟨?_,bM⟩
 unfold qw
 rw[ei bM,h,UN t u 0 r,zJ]
 unfold Dy;grind
theorem B5.of{xs:List bZ}{i:Int}(h:0<=qw xs i):∃t,B5 xs i t:=by
 unfold qw at h
 split at h
 .omega
 cases hs:skip 1 (xs.drop i.toNat)with
 | none=>rw[hs]at h;unfold Dy at h;simp only[]at h;omega
 | some r=>
  obtain⟨t,u,B⟩:=SO _ _ r (o1 _) hs
  exact⟨t,bM,u,r,B⟩
def qy(ks:List Ex)(k:Nat):Nat:=((ks.take k).map Ex.size).sum
theorem uK{ks:List Ex}{k:Nat}{a:Ex}(h:ks[k]?=some a):qy ks (k+1)=qy ks k+a.size:=by
 unfold qy;rw[<- gO h];simp
def B5.kid{xs:List bZ}{i:Int}{t a:Ex}{k:Nat}(h:B5 xs i t)(u:t.eB[k]?=some a):B5 xs (i+1+qy t.eB k) a:=by
 obtain⟨M,E,r,h⟩:=h
 refine⟨bM,(Ex.tZ E (kp u)).1,?_⟩
 have B:t.eB=t.eB.take k++a::t.eB.drop (k+1):=by
  obtain⟨J,I⟩:=j0.1 u
  rw[<- I,Me,o6]
 have G:(((t.eB.take k).map Ex.flat).flatten).length=qy t.eB k:=by
  unfold qy
  rw[Vd,H4]
  congr 2
  exact funext λx=>Ex.cY x
 have h2:xs.drop (i.toNat+1)=((t.eB.take k).map Ex.flat).flatten++(a.flat++(((t.eB.drop (k+1)).map Ex.flat).flatten++r)):=by
  rw[<- sZ,h,Ex.HJ t]
  show(t.eB.map Ex.flat).flatten++r=_
  conv=>lhs;rw[B]
  simp
 refine⟨((t.eB.drop (k+1)).map Ex.flat).flatten++r,?_⟩
 rw[show(i+1+(qy t.eB k:Int)).toNat=i.toNat+1+qy t.eB k from bM,<- sZ,h2,<- G,List.drop_left]
def Dz(ks:List Ex)(k:Nat):Int:=((ks.take k).map Ex.depth).foldl max 0
theorem Cn{ks:List Ex}{k:Nat}{a:Ex}(h:ks[k]?=some a):Dz ks (k+1)=max (Dz ks k) a.depth:=by
 unfold Dz;rw[<- gO h,vf,EC];rfl
theorem PN{ks:List Ex}{N:Int}(u:0<=N)(h:∀a∈ks,a.depth<=N):∀k,0<=Dz ks k/\Dz ks k<=N
 | 0=>by simp[Dz,u]
 | k+1=>by
  have B:=PN u h k
  cases hx:ks[k]? with
  | none=>
   have e:ks.take (k+1)=ks.take k:=by rw[uT,hx];simp
   unfold Dz at *;grind
  | some a=>rw[Cn hx];grind
theorem Ex.Mi(t:Ex):t.depth=Dz t.eB t.eB.length+1:=by
 cases t with
 | leaf x=>rfl
 | un x a=>have:=a.rz;grind[depth,Dz,eB]
 | bin x a b=>have:=a.rz;grind[depth,Dz,eB]
def Yj(ns:List ByteArray)(ks:List Ex)(k:Nat):List oC:=((ks.take k).map (Ex.steps ns)).flatten
theorem Mj{ns:List ByteArray}{ks:List Ex}{k:Nat}{a:Ex}(h:ks[k]?=some a):Yj ns ks (k+1)=Yj ns ks k++a.steps ns:=by
 unfold Yj;rw[<- gO h];simp
def D1{ns:List ByteArray}{ks:List Ex}{k:Nat}:(Yj ns ks k).length=qy ks k:=by
 unfold Yj qy
 rw[Vd,H4]
 congr 2
 exact funext λx=>Ex.pN ns x
theorem Ex.vt(ns:List ByteArray)(t:Ex):t.steps ns=Yj ns t.eB t.eB.length++[⟨t.root.op,Ex.numOf ns t.root⟩]:=by
 cases t<;>simp[Ex.steps,Ex.eB,Yj,Ex.root]
def pt:Nat->List bZ->Option (Ex×List bZ)
 | 0,_=>none
 | _+1,[]=>none
 | n+1,x::l=>
  if kids x.op=0 then some (.leaf x,l)else if kids x.op=1 then(match pt n l with|some p=>some (.un x p.1,p.2)|none=>none)
  else if kids x.op=2 then(match pt n l with|some p=>(match pt n p.2 with|some q=>some (.bin x p.1 q.1,q.2)|none=>none)|none=>none)else none
theorem adI(t:Ex)(h:t.wf):∀n r,t.size<=n->pt n (t.flat++r)=some (t,r):=by
 induction t with
 | leaf x=>
  intro n r u
  cases n with
  | zero=>simp[Ex.size]at u
  | succ n=>show(if kids x.op=0 then _ else _)=_;rw[ej (show kids x.op=0 from h)];rfl
 | un x a G=>
  intro n r u
  cases n with
  | zero=>simp[Ex.size]at u
  | succ n=>
   have h1:kids x.op=1:=h.1
   show(if kids x.op=0 then _ else if kids x.op=1 then(match pt n (a.flat++r)with|some p=>some (Ex.un x p.1,p.2)|none=>none)else _)=_
   rw[ei bM,ej h1,G h.2 n r (by simp[Ex.size]at u;omega)]
 | bin x a b B E=>
  intro n r u
  cases n with
  | zero=>simp[Ex.size]at u
  | succ n=>
   have h1:kids x.op=2:=h.1
   show(if kids x.op=0 then _ else if kids x.op=1 then _ else if kids x.op=2 then(match pt n (a.flat++b.flat++r)with|some p=>(match pt n p.2 with|some q=>some (Ex.bin x p.1 q.1,q.2)|none=>none)|none=>none)else _)=_
   rw[ei bM,ei bM,ej h1,nk,B h.2.1 n _ (by simp[Ex.size]at u;omega)]
   simp only[]
   rw[E h.2.2 n _ (by simp[Ex.size]at u;omega)]
def zK(l:List bZ):Option Ex:=match pt l.length l with|some p=>if p.2=[]then some p.1 else none|none=>none
def UO{t:Ex}(h:t.wf):zK t.flat=some t:=by
 unfold zK
 have:=adI t h t.flat.length [] (by rw[Ex.cY];omega)
 grind
def B5.zero{l:List bZ}{t:Ex}(h:B5 l 0 t)(E:qw l 0=l.length):l=t.flat/\zK l=some t:=by
 have h1:=h.end
 obtain⟨_,B,r,h⟩:=h
 have u:=fM List.length h
 rw[kU,Ex.cY]at u
 simp at u
 have:r=[]:=ta.1 bM
 subst this
 have h:l=t.flat:=cJ
 exact⟨h,by rw[h];exact UO B⟩
theorem A9:∀n l t r,pt n l=some (t,r)->t.wf/\l=t.flat++r
 | 0,l,t,r,h=>by cases h
 | n+1,[],t,r,h=>by cases h
 | n+1,x::l,t,r,h=>by
  have h:(if kids x.op=0 then some (Ex.leaf x,l)else if kids x.op=1 then(match pt n l with|some p=>some (Ex.un x p.1,p.2)|none=>none)
   else if kids x.op=2 then(match pt n l with|some p=>(match pt n p.2 with|some q=>some (Ex.bin x p.1 q.1,q.2)|none=>none)|none=>none)else none)=some (t,r):=h
  split at h
  .rename_i hk;cases h;exact⟨hk,rfl⟩
  .split at h
   .rename_i hk
    cases ha:pt n l with
    | none=>grind
    | some p=>
     rw[ha]at h
     obtain⟨a,m⟩:=p
     cases h
     obtain⟨h1,rfl⟩:=A9 n l a _ ha
     exact⟨⟨hk,h1⟩,rfl⟩
   .split at h
    .rename_i hk
     cases ha:pt n l with
     | none=>grind
     | some p=>
      rw[ha]at h
      obtain⟨a,m⟩:=p
      simp only[]at h
      cases hb:pt n m with
      | none=>grind
      | some q=>
       rw[hb]at h
       obtain⟨b,u⟩:=q
       cases h
       obtain⟨h1,rfl⟩:=A9 n l a _ ha
       obtain⟨h2,rfl⟩:=A9 n m b _ hb
       exact⟨⟨hk,h1,h2⟩,by simp[Ex.flat]⟩
    .cases h
theorem vu{l:List bZ}{t:Ex}(h:zK l=some t):t.wf/\l=t.flat:=by
 unfold zK at h
 cases hp:pt l.length l with
 | none=>grind
 | some p=>
  rw[hp]at h
  obtain⟨a,r⟩:=p
  simp only[]at h
  split at h
  .rename_i hr;cases h
   obtain⟨h1,h2⟩:=A9 _ _ _ _ hp
   grind
  .cases h
theorem E5{l:List bZ}:(zK l).isSome=decide (qw l 0=l.length):=by
 by_cases h:qw l 0=l.length
 .obtain⟨t,ht⟩:=B5.of (xs:=l) (i:=0) bM
  rw[(ht.zero h).2,ew h];rfl
 rw[ez h]
 cases he:zK l with
 | none=>rfl
 | some t=>
  obtain⟨h1,rfl⟩:=vu he
  exact absurd (by have:=(show B5 t.flat 0 t from⟨bM,h1,[],ee⟩).end.1;rw[this,Ex.cY];omega) h
def lg(x:bZ):Bool:=decide (x.at_<0\/4000<x.at_)||decide (¬ x.op=1/\¬ x.n=0)||decide (¬ x.op=2/\¬ x.name=⟨#[]⟩)||decide (x.n<0\/4294967296<x.n)||(decide (x.op=2)&&!gQ x.name)
def SP(l:List bZ):Int:=match zK l with|some t=>t.depth|none=>0
def fB(l:List bZ):Bool:=decide (l.length<=40)&&(zK l).isSome&&!l.any lg&&decide (SP l<=12)
def Co(ns:List ByteArray)(l:List bZ):List oC:=match zK l with|some t=>t.steps ns|none=>[]
def kT(ns:List ByteArray)(l:List bZ):Int:=if fB l=false then 8 else if l.any (λx=>decide (x.op=2)&&decide (cU ns x.name<0))then 9 else 0
def qz(ns:List ByteArray)(l:List bZ):List oC:=if kT ns l=0 then Co ns l else []
def zL{l:List bZ}(h:fB l=true):qw l 0=l.length:=by
 unfold fB at h
 rw[E5]at h
 grind
theorem C252(lv:Value)(xs:List bZ)(i:Int)(t:Ex)(N:Nat)(w:World)(G:cZ (λ_=>True) w lv xs)(W:xs.length<=1048576)(B:B5 xs i t)(hN:t.size<N):CR 252 [lv,hH i] w (λv w'=>v=hH t.depth/\Ext w w'):=by
 obtain⟨M,O,Z⟩:∃e,e=t.root/\xs[(i).toNat]?=some e:=⟨_,rfl,B.root.1⟩;have Y:=B.root.2;have U:=B.end;have PM:=Ex.o9 B.2.1;rw[<- O]at PM;have Yi:=tY M.op;have hi0:=B.1;have u:=St.start w;refine ac1 _ _ _ _ ?_;unfold S252;refine aK bM ?_;refine⟨λm n a x J=>∃k:Nat,n=hH (Dz t.eB k)/\a=hH (i+1+qy t.eB k)/\x=hH (k:Int)/\m=t.eB.length-k/\k<=t.eB.length/\St w aZ [] J,⟨_,0,rfl,fM (ng .i64) (by simp[qy]),rfl,rfl,bM,u⟩,?_⟩;rintro m _ _ _ J ⟨k,rfl,rfl,rfl,rfl,hk,u⟩ _;have V:=PN (ks:=t.eB) (N:=(t.size:Int)) bM (λa ha=>by have:=(Ex.tZ B.2.1 ha).2;have:=a.rz;omega) k
 refine aN g9 (G.ext u.aF) bM Z (λ_ E0=>bU M.op fa E0 rfl rfl λ_ ij=>aD bO ij (aV Lt u (C273 _ _) λ_ he u=>aQ (aC (λj8=>?_) λ_=>aK bM ⟨fM (ng .i64) (by rw[t.Mi,show k=t.eB.length from bM]),u.aF⟩)));obtain⟨a,E⟩:=gx t.eB (i:=k) bM;have hka:=Ex.tZ B.2.1 (kp E);have I:=B.kid E;have WC:=I.end;have UQ:=a.rz;exact aV Xk u (C252 _ _ _ _ (N-1) _ (G.ext u.aF) W I bM) (λ_ _ u=>DY (aV Lr u (C251 _ _ _ (xs.length+1) _ (G.ext u.aF) bM bM bM) λ_ _ u=>aK bM ⟨_,bM,k+1,by rw[Cn E],fM (ng .i64) (by rw[WC.1,uK E];omega),rfl,rfl,bM,u⟩))
termination_by N
decreasing_by omega
def C200(lv:Value)(xs:List bZ)(w:World)(E:cZ (λ_=>True) w lv xs)(hn:xs.length<=1048576)(G:∀x∈xs,x.name.size<=1048576):CR 200 [lv] w (λv w'=>v=.bool (fB xs)/\Ext w w'):=by
 have u:=St.start w;refine eZ Tryz.func200 ?_;refine⟨λU w'=>U=.bool (decide (40<xs.length)||decide (¬ qw xs 0=xs.length))/\St w aZ [] w',aH g9 (E.ext u.aF) (cP (aC (λ_=>⟨vb cJ,u⟩) λ_=>aV Lr u (C251 _ _ _ (xs.length+1) _ (E.ext u.aF) bM bM bM) λ_ _ u=>aH g9 (E.ext u.aF) (bV ⟨vb cJ,u⟩))),?_⟩;rintro _ _ ⟨rfl,u⟩ _;refine aY (λjy=>?_) (λjy=>?_)
 .refine⟨vb ?_,u.aF⟩;unfold fB;rw[E5]
  grind
 refine⟨λm x w1=>∃k:Nat,x=hH (k:Int)/\m=xs.length-k/\k<=xs.length/\(∀y∈xs.take k,lg y=false)/\St w aZ [] w1,⟨_,0,rfl,rfl,la _,ee,u⟩,?_⟩;rintro m _ _ ⟨k,rfl,rfl,hk,J,u⟩ _;refine aH g9 (E.ext u.aF) (aQ (aC (λlP=>?_) λlP=>?_))
 .obtain⟨V,B⟩:=gx xs (i:=(k:Int).toNat) bM;refine aN g9 (E.ext u.aF) bM B (λ_ Y=>aD rY Y (aR u yl λPO _ u=>aJ (x:=V) u rY rfl rfl λ_ u=>⟨λU w'=>U=.bool (lg V)/\St w aZ [] w',aA rZ (aB bO u.hb rfl (aQ (aC (λ_=>⟨vb (by unfold lg;grind),u.drop⟩) λlq=>aA rZ (aB bO u.hb rfl (cP (aC (λ_=>⟨vb (by unfold lg;grind),u.drop⟩) λl9=>?_)))))),?_⟩))
  .refine aA fa (aB bO u.hb rfl (bV (aC (λW=>aA jj (aB bO u.hb rfl (bV (aC (λ_=>⟨vb (by unfold lg;grind),u.drop⟩) λxh=>aA fa (aB bO u.hb rfl (bV (aC (λxe=>aA gn (aB gB u.hb rfl (l4 (aC (λ_=>⟨vb (by unfold lg;grind),u.drop⟩) λMk=>?_)))) λxe=>?_))))))) λW=>?_)))
   .refine aA jj (aB bO u.hb rfl (aQ ?_));exact aC (λ_=>⟨vb (by unfold lg;grind),u.drop⟩) (λ_=>aA jj (aB bO u.hb rfl (cP (aC (λ_=>⟨vb (by unfold lg;grind),u.drop⟩) λ_=>aA fa (aB bO u.hb rfl (aG (aC (λ_=>aA gn (aB gB u.hb rfl (aV uy u (C211 _ _ (G _ (kp B))) λ_ _ u=>bQ ⟨vb (by unfold lg;grind),u.drop⟩))) λ_=>⟨vb (by unfold lg;grind),u.drop⟩)))))))
   .refine aA jj (aB bO u.hb rfl (aQ ?_));exact aC (λ_=>⟨vb (by unfold lg;grind),u.drop⟩) (λ_=>aA jj (aB bO u.hb rfl (cP (aC (λ_=>⟨vb (by unfold lg;grind),u.drop⟩) λ_=>aA fa (aB bO u.hb rfl (aG (aC (λ_=>aA gn (aB gB u.hb rfl (aV uy u (C211 _ _ (G _ (kp B))) λ_ _ u=>bQ ⟨vb (by unfold lg;grind),u.drop⟩))) λ_=>⟨vb (by unfold lg;grind),u.drop⟩)))))))
   refine aA fa (aB bO u.hb rfl (bV (aC (λO=>aA gn (aB gB u.hb rfl (l4 (aC (λ_=>⟨vb (by unfold lg;grind),u.drop⟩) λZ=>?_)))) λO=>?_)))
   .refine aA jj (aB bO u.hb rfl (aQ ?_));exact aC (λ_=>⟨vb (by unfold lg;grind),u.drop⟩) (λ_=>aA jj (aB bO u.hb rfl (cP (aC (λ_=>⟨vb (by unfold lg;grind),u.drop⟩) λ_=>aA fa (aB bO u.hb rfl (aG (aC (λ_=>aA gn (aB gB u.hb rfl (aV uy u (C211 _ _ (G _ (kp B))) λ_ _ u=>bQ ⟨vb (by unfold lg;grind),u.drop⟩))) λ_=>⟨vb (by unfold lg;grind),u.drop⟩)))))))
   refine aA jj (aB bO u.hb rfl (aQ ?_));exact aC (λ_=>⟨vb (by unfold lg;grind),u.drop⟩) (λ_=>aA jj (aB bO u.hb rfl (cP (aC (λ_=>⟨vb (by unfold lg;grind),u.drop⟩) λ_=>aA fa (aB bO u.hb rfl (aG (aC (λ_=>aA gn (aB gB u.hb rfl (aV uy u (C211 _ _ (G _ (kp B))) λ_ _ u=>bQ ⟨vb (by unfold lg;grind),u.drop⟩))) λ_=>⟨vb (by unfold lg;grind),u.drop⟩)))))))
  rintro _ _ ⟨rfl,u⟩ _;refine aY (λI=>?_) (λI=>aK bM ⟨_,bM,k+1,rfl,rfl,bM,dW J B I,u⟩);refine⟨vb ?_,u.aF⟩;unfold fB;rw[ig B I];simp
 have Yl:qw xs 0=xs.length:=cJ
 have M:xs.length<=40:=cJ
 obtain⟨t,ht⟩:=B5.of (xs:=xs) (i:=0) bM;have hz:=ht.zero Yl;refine aV Xk u (C252 _ _ _ t (t.size+1) _ (E.ext u.aF) hn ht bM) (λ_ he u=>gA ?_);rw[kE bM]at J;refine⟨vb ?_,u.aF⟩;unfold fB SP;rw[iB J,hz.2];simp[M]
theorem C272(lv nv:Value)(xs:List bZ)(ns:List ByteArray)(i:Int)(t:Ex)(N:Nat)(w:World)(G:cZ (λ_=>True) w lv xs)(hN:cZ (λ_=>True) w nv ns)(hn:xs.length<=1048576)(B3:ns.length<=1048576)(E:B5 xs i t)(hNt:t.size<N):CR 272 [lv,hH i,nv] w (λv w'=>kP (bH v (t.steps ns)) w w'):=by
 obtain⟨B,Y,I⟩:∃e,e=t.root/\xs[(i).toNat]?=some e:=⟨_,rfl,E.root.1⟩;have hri:=E.root.2;have hie:=E.end;have PM:=Ex.o9 E.2.1;rw[<- Y]at PM;have Yi:=tY B.op;have hi0:=E.1;have u:=St.start w;refine eZ Tryz.func272 ?_;refine bD ([]:List oC) u tE rfl rfl (dR rfl) (λW w1 u=>aK bM ?_);refine⟨λm V a x w1=>∃k:Nat,a=hH (i+1+qy t.eB k)/\x=hH (k:Int)/\m=t.eB.length-k/\k<=t.eB.length/\St w aZ [bH V (Yj ns t.eB k)] w1,⟨_,0,fM (ng .i64) (by simp[qy]),rfl,rfl,bM,u⟩,?_⟩;rintro m V _ _ _ ⟨k,rfl,rfl,rfl,hk,u⟩ _
 refine aN g9 (G.ext u.aF) bM I (λ_ Mg=>bU B.op fa Mg rfl rfl λ_ sj=>aD bO sj (aV Lt u (C273 _ _) λ_ he u=>aQ (aC (λkQ=>?_) λkQ=>?_)))
 .obtain⟨a,J⟩:=gx t.eB (i:=k) bM;have hka:=Ex.tZ E.2.1 (kp J);have Z:=E.kid J;have WC:=Z.end;have UQ:=a.rz;have OW:=D1 (ns:=ns) (ks:=t.eB) (k:=k);have Ym:=Ex.pN ns a;refine dT agH u (C272 _ _ _ _ _ _ (N-1) _ (G.ext u.aF) (hN.ext u.aF) hn B3 Z bM) (λx28 _ cK u=>?_);have PR:=u.dS;exact bL u.p1 tE PR bM dC (λ_ _ u=>have u:=u.p1.drop;aV Lr u (C251 _ _ _ (xs.length+1) _ (G.ext u.aF) bM bM bM) λ_ _ u=>aK bM ⟨_,bM,k+1,fM (ng .i64) (by rw[WC.1,uK J];omega),rfl,rfl,bM,by rw[Mj J];exact u⟩)
 have OW:=D1 (ns:=ns) (ks:=t.eB) (k:=k);refine aN g9 (G.ext u.aF) bM I (λ_ Ml=>bU B.n jj Ml rfl rfl λ_ Ba=>aD bO Ba ⟨λjv w'=>jv=hH (Ex.numOf ns B)/\St w aZ [bH V (Yj ns t.eB k)] w',aN g9 (G.ext u.aF) bM I (λ_ Yn=>bU B.op fa Yn rfl rfl λ_ O=>aD bO O (aG (aC (λ_=>aN g9 (G.ext u.aF) bM I λ_ Bb=>bU B.name gn Bb rfl rfl λ_ Mm=>aD gB Mm (aV rR u (C123 _ ns _ _ (hN.ext u.aF) bM) λ_ _ u=>⟨fM (ng .i64) (by grind[Ex.numOf]),u⟩)) λ_=>⟨fM (ng .i64) (by grind[Ex.numOf]),u⟩))),?_⟩)
 rintro _ _ ⟨rfl,u⟩ _;refine aN g9 (G.ext u.aF) bM I (λ_ Yo=>bU B.op fa Yo rfl rfl λ_ A5=>aD bO A5 (pop (EN _ _) (bD ([(⟨B.op,(Ex.numOf ns B)⟩:oC)]) u tE rfl rfl (dR rfl) λao8 _ u=>?_)));have M:=u.dS;refine bL u.p1 tE M (by rw[OW,l0];have:(t.steps ns).length=t.size:=Ex.pN ns t;rw[Ex.vt,kU,l0,<- show k=t.eB.length from bM]at this;omega) dC (λU _ u=>?_);have u:=u.p1.drop;rw[Ex.vt,<- show k=t.eB.length from bM,<- Y];exact u.fresh
termination_by N
decreasing_by omega
def C220(lv nv:Value)(xs:List bZ)(ns:List ByteArray)(w:World)(E:cZ (λ_=>True) w lv xs)(Z:cZ (λ_=>True) w nv ns)(W:xs.length<=1048576)(B3:ns.length<=1048576)(SQ:∀x∈xs,x.name.size<=1048576):CR 220 [lv,nv] w (λv w'=>∃s,v=.tuple #[s,hH (kT ns xs)]/\kP (bH s (qz ns xs)) w w'):=by
 have u:=St.start w;refine acY _ _ _ _ ?_;unfold S220;refine aV Lq u (C200 _ _ _ (E.ext u.aF) W SQ) (λw1 he u=>bQ (aY (λB=>?_) λB=>?_))
 .have Y:kT ns xs=8:=by unfold kT;rw[ej (by simpa using B)]
  refine⟨_,by rw[Y],?_⟩;unfold qz;rw[Y,ei dC];exact(u.eV (α:=oC)).fresh
 refine⟨λm x w1=>∃k:Nat,x=hH (k:Int)/\m=xs.length-k/\k<=xs.length/\(∀y∈xs.take k,(decide (y.op=2)&&decide (cU ns y.name<0))=false)/\St w aZ [] w1,⟨_,0,rfl,rfl,la _,ee,u⟩,?_⟩;rintro m _ _ ⟨k,rfl,rfl,hk,M,u⟩ _;refine aH g9 (E.ext u.aF) (aQ (aC (λxg=>?_) λxg=>?_))
 .obtain⟨G,I⟩:=gx xs (i:=(k:Int).toNat) bM;refine⟨λjv w'=>jv=.bool (decide (G.op=2)&&decide (cU ns G.name<0))/\St w aZ [] w',aN g9 (E.ext u.aF) bM I (λ_ sj=>bU G.op fa sj rfl rfl λ_ lQ=>aD bO lQ (aG (aC (λ_=>aN g9 (E.ext u.aF) bM I λ_ xi=>bU G.name gn xi rfl rfl λ_ sn=>aD gB sn (aV rR u (C123 _ ns _ _ (Z.ext u.aF) bM) λ_ _ u=>aQ ⟨vb cJ,u⟩)) λ_=>⟨vb cJ,u⟩))),?_⟩;rintro _ _ ⟨rfl,u⟩ _;refine aY (λJ=>?_) (λJ=>aK bM ⟨_,bM,k+1,rfl,rfl,bM,dW M I J,u⟩)
  have V:kT ns xs=9:=by unfold kT;rw[ei (by simpa using B),ej (ig I J)]
  refine⟨_,by rw[V],?_⟩;unfold qz;rw[V,ei dC];exact(u.eV (α:=oC)).fresh
 have U:fB xs=true:=by simpa using B
 have Yl:=zL U;obtain⟨t,ht⟩:=B5.of (xs:=xs) (i:=0) bM;have hz:=ht.zero Yl;refine dT agH u (C272 _ _ _ _ _ t (t.size+1) _ (E.ext u.aF) (Z.ext u.aF) W B3 ht bM) (λO _ cK u=>?_);rw[kE bM]at M;have h0:kT ns xs=0:=by unfold kT;rw[ei (by simpa using B),ei (by rw[iB M];simp)]
 refine⟨O,by rw[h0],?_⟩;unfold qz Co;rw[ej h0,hz.2];exact u.fresh
end Go.Proofs.YtpdlpabnlkofmaaGreatDoor

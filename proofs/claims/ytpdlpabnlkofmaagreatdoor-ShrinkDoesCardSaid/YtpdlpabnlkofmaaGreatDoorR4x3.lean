/-
  Part 3.
-/
import Derived.Test.YtpdlpabnlkofmaaGreatDoorR4x2
set_option maxHeartbeats 8000000
set_option linter.all false
set_option maxRecDepth 100000
open Go.Fw.Flat renaming val->ia,enc->j0,sz->mv
open ByteArray renaming mk->kp,size->abh
open List renaming getElem?_eq_some_iff->kE,mem_of_getElem?->kO,take_of_length_le->kW,getElem?_eq_getElem->la,length_append->lY,length_take->l0,length_singleton->mf,getElem?_eq_none->mY,length_map->n0,append_assoc->n3,getD_eq_getElem?_getD->ob,mem_map->oi,getElem?_map->pd,mem_append->pI,take_append_drop->pJ,length_drop->qa,replicate->qW,length_eq_zero_iff->r6,mem_cons->sl,drop_drop->sW,take_add_one->ta,drop_eq_getElem_cons->tc,getElem?_append_left->tx,range->uT,map_append->vd,drop_eq_nil_of_le->vt,ext_getElem?->v7,any_eq_true->wY,any_eq_false->zJ,getElem?_set_self->AQ,getElem?_eq_none_iff->AT,drop_left->DF,getElem_of_mem->D3,getElem?_set_ne->Fe,nodup_cons->H5,map_map->Ix,take_left->Kz,mem_range->K0,toArray->N2,getElem?_eraseIdx_of_lt->Pp,getElem?_eraseIdx_of_ge->Pq,drop_zero->P0,getElem_inj->Zb,cons->aaJ
open Nat renaming zero_le->l1,le_refl->o1,zero_add->tW,min_eq_left->Er,le_of_lt->Xo
open Go.Fw.Deep renaming dr->mG
open Option renaming bind_some->mO,some->oe,map_some->D4
open Go.Value renaming int->nf,bool->wA,tuple->Bh,string->Fa
open Go.Instr renaming sliceAt->n4,index->u3,sliceBounds->vw,mapUpdate->wQ,lookup->xi,keyThatStays->MY,makeMap->Pg,findKey->QQ
open Bool renaming and_eq_true->n5,not_eq_true'->sk,true_and->yk
open Int renaming toNat_natCast->pQ,mul_le_mul->I2,toNat->aaN
open Decidable renaming not_not->u1
open Array renaming toList_push->Xa
namespace Go.Proofs.YtpdlpabnlkofmaaGreatDoor
open Go.Fw
inductive Bk where
 | nil
 | cons (x:bQ) (a b r:Bk)
namespace Bk
def flat:Bk->List bQ|nil=>[]|cons x a b r=>x::(a.flat++(b.flat++r.flat))
def len:Bk->Nat|nil=>0|cons _ a b r=>a.len+b.len+r.len+1
def str:Bk->Prop|nil=>True|cons x a b r=>x.body=a.len/\x.eu=b.len/\a.len<=40/\b.len<=40/\a.str/\b.str/\r.str
def Dp(x:bQ)(loops:Int):Int:=if x.kind=12 then loops+1 else loops
def zy(x:bQ):Bool:=decide (x.kind=11\/x.kind=12)
def yb(x:bQ)(loops:Int):Bool:=decide ((x.body<=0\/x.kind=11\/x.kind=12)/\(x.eu<=0\/x.kind=11)/\(¬ x.kind=13\/¬ loops=0))
def ok:Bk->Int->Bool|nil,_=>true|cons x a b r,n=>yb x n&&a.ok (Dp x n)&&b.ok (Dp x n)&&r.ok n
def depth:Bk->Int|nil=>0|cons x a b r=>if zy x then max (max (1+a.depth) (1+b.depth)) r.depth else r.depth
end Bk
theorem Bk.cY(t:Bk):t.flat.length=t.len:=by
 induction t with
 | nil=>rfl
 | cons x a b r E B u=>grind[flat,len]
theorem Bk.AO(t:Bk):0<=t.depth/\t.depth<=t.len:=by
 induction t with
 | nil=>simp[Bk.depth,Bk.len]
 | cons x a b r E B u=>
  grind[depth,len]
def Vn:Nat->List bQ->Option Bk
 | _,[]=>some .nil
 | 0,_::_=>none
 | n+1,x::l=>
  if 0<=x.body/\0<=x.eu/\x.body<=40/\x.eu<=40/\x.body+x.eu<=l.length then
   match Vn n (l.take x.body.toNat),Vn n ((l.drop x.body.toNat).take x.eu.toNat),Vn n (l.drop (x.body.toNat+x.eu.toNat))with
   | some a,some b,some r=>some (.cons x a b r)
   | _,_,_=>none
  else none
theorem yc:∀n l t,Vn n l=some t->l=t.flat/\t.str
 | _,[],t,h=>by
  have h:some Bk.nil=some t:=by unfold Vn at h;exact h
  cases h;exact⟨rfl,trivial⟩
 | 0,x::l,t,h=>by cases h
 | n+1,x::l,t,h=>by
  unfold Vn at h
  split at h
  .rename_i hb
   obtain⟨h1,h2,h3,h4,h5⟩:=hb
   cases ha:Vn n (l.take x.body.toNat)with
   | none=>grind
   | some a=>
    cases hb:Vn n ((l.drop x.body.toNat).take x.eu.toNat)with
    | none=>grind
    | some b=>
     cases hr:Vn n (l.drop (x.body.toNat+x.eu.toNat))with
     | none=>grind
     | some r=>
      rw[ha,hb,hr]at h
      cases h
      obtain⟨u,B⟩:=yc n _ _ ha
      obtain⟨b1,b2⟩:=yc n _ _ hb
      obtain⟨G,I⟩:=yc n _ _ hr
      have E:=gN List.length u
      have lb:=gN List.length b1
      rw[Bk.cY,l0]at E
      rw[Bk.cY,l0,qa]at lb
      refine⟨?_,cK,cK,cK,cK,B,b2,I⟩
      unfold Bk.flat
      rw[<- u,<- b1,<- G,<- sW,pJ,pJ]
  .cases h
theorem W4(t:Bk):t.str->∀n,t.len<=n->Vn n t.flat=some t:=by
 induction t with
 | nil=>intro _ n _;cases n<;>rfl
 | cons x a b r J I B=>
  intro h n u
  obtain⟨h1,h2,h3,h4,G,hb,E⟩:=h
  cases n with
  | zero=>simp[Bk.len]at u
  | succ n=>
   have u:a.len+b.len+r.len<=n:=by simp[Bk.len]at u;omega
   have M:=a.cY
   have lb:=b.cY
   unfold Bk.flat Vn
   rw[ew ⟨cK,cK,cK,cK,dD⟩,show x.body.toNat=a.flat.length from cK,Kz,DF,show x.eu.toNat=b.flat.length from cK,Kz,<- sW,DF,DF,
    J G n cK,I hb n cK,B E n cK]
def td(l:List bQ):Option Bk:=Vn l.length l
def nX{l:List bQ}{t:Bk}(h:td l=some t):l=t.flat/\t.str:=yc _ _ _ h
theorem rN{t:Bk}(h:t.str):td t.flat=some t:=W4 t h _ (by rw[Bk.cY];omega)
def fC(l:List bQ)(loops:Int):Int:=match td l with|some t=>if t.ok loops then t.depth else -1|none=>-1
theorem BT(loops:Int):fC [] loops=0:=rfl
theorem tF(l:List bQ)(loops:Int) : -1<=fC l loops/\fC l loops<=l.length:=by
 unfold fC
 cases h:td l with
 | none=>grind
 | some t=>
  obtain⟨rfl,_⟩:=nX h
  have:=t.AO
  simp only[Bk.cY]
  omega
def uK(x:bQ)(l:List bQ):Prop:=0<=x.body/\0<=x.eu/\x.body<=40/\x.eu<=40/\x.body+x.eu<=l.length
theorem TQ{x:bQ}{l:List bQ}{loops:Int}(h:¬ (uK x l/\Bk.yb x loops=true)):fC (x::l) loops = -1:=by
 unfold fC
 cases hb:td (x::l)with
 | none=>rfl
 | some t=>
  obtain⟨u,B⟩:=nX hb
  cases t with
  | nil=>cases u
  | cons y a b r=>
   obtain⟨rfl,rfl⟩:=aaJ.inj u
   obtain⟨h1,h2,h3,h4,_⟩:=B
   have:Bk.yb x loops=false:=by
    cases hk:Bk.yb x loops with
    | false=>rfl
    | true=>exact absurd ⟨⟨cK,cK,cK,cK,by simp[Bk.cY];omega⟩,hk⟩ h
   have h:(Bk.cons x a b r).ok loops=false:=by unfold Bk.ok;grind
   grind
theorem Ez{x:bQ}{l:List bQ}{loops:Int}(h:uK x l)(Y:Bk.yb x loops=true) :
  fC (x::l) loops=(let A:=fC (l.take x.body.toNat) (Bk.Dp x loops);let B:=fC ((l.drop x.body.toNat).take x.eu.toNat) (Bk.Dp x loops);let R:=fC (l.drop (x.body.toNat+x.eu.toNat)) loops
   if A<0\/B<0\/R<0 then -1 else if Bk.zy x then max (max (1+A) (1+B)) R else R):=by
 obtain⟨h1,h2,h3,h4,h5⟩:=h
 have e:l=l.take x.body.toNat++((l.drop x.body.toNat).take x.eu.toNat++l.drop (x.body.toNat+x.eu.toNat)):=by
  rw[<- sW,pJ,pJ]
 have U:(l.take x.body.toNat).length=x.body.toNat:=dD
 have lb:((l.drop x.body.toNat).take x.eu.toNat).length=x.eu.toNat:=by rw[l0,qa];omega
 simp only[]
 have V:∀t,td (x::l)=some t->∃a b r,t=.cons x a b r/\td (l.take x.body.toNat)=some a/\td ((l.drop x.body.toNat).take x.eu.toNat)=some b/\td (l.drop (x.body.toNat+x.eu.toNat))=some r:=by
  intro t ht
  obtain⟨M,Z⟩:=nX ht
  cases t with
  | nil=>cases M
  | cons y a b r=>
   obtain⟨rfl,u⟩:=aaJ.inj M
   obtain⟨g1,g2,_,_,G,hb,E⟩:=Z
   have I:x.body.toNat=a.flat.length:=by rw[Bk.cY];omega
   have J:x.eu.toNat=b.flat.length:=by rw[Bk.cY];omega
   refine⟨a,b,r,rfl,?_,?_,?_⟩
   .rw[u,I,Kz];exact rN G
   .rw[u,I,J,DF,Kz];exact rN hb
   .rw[u,<- sW,I,J,DF,DF];exact rN E
 cases G:td (l.take x.body.toNat)with
 | none=>
  have:td (x::l)=none:=by
   cases hh:td (x::l)with
   | none=>rfl
   | some t=>grind
  unfold fC;rw[this,G];simp
 | some a=>
  cases hb:td ((l.drop x.body.toNat).take x.eu.toNat)with
  | none=>
   have:td (x::l)=none:=by
    cases hh:td (x::l)with
    | none=>rfl
    | some t=>grind
   unfold fC;rw[this,hb];simp
  | some b=>
   cases E:td (l.drop (x.body.toNat+x.eu.toNat))with
   | none=>
    have:td (x::l)=none:=by
     cases hh:td (x::l)with
     | none=>rfl
     | some t=>grind
    unfold fC;rw[this,E];simp
   | some r=>
    obtain⟨a1,O⟩:=nX G
    obtain⟨b1,b2⟩:=nX hb
    obtain⟨r1,W⟩:=nX E
    have u:x::l=(Bk.cons x a b r).flat:=by unfold Bk.flat;grind
    rw[a1,Bk.cY]at U
    rw[b1,Bk.cY]at lb
    have:td (x::l)=some (.cons x a b r):=by rw[u];exact rN ⟨cK,cK,cK,cK,O,b2,W⟩
    have na:=a.AO
    have nb:=b.AO
    have nr:=r.AO
    unfold fC
    rw[this,G,hb,E]
    simp only[Bk.ok,Y,yk]
    cases h1:a.ok (Bk.Dp x loops)<;>cases h2:b.ok (Bk.Dp x loops)<;>cases h3:r.ok loops<;>simp[Bk.depth]
    omega
def sn(n d:Int):Int:=if d<0 then -1 else max n d
def I1{xs l:List bQ}{x:bQ}{loops n:Int}(h:fC xs loops=sn n (fC (x::l) loops))(hb:¬ (uK x l/\Bk.yb x loops=true)):fC xs loops = -1:=by
 rw[h,TQ hb];rfl
def W5{xs l:List bQ}{x:bQ}{loops n:Int}(h:fC xs loops=sn n (fC (x::l) loops))(G:uK x l)(E:Bk.yb x loops=true)(hb:Bk.zy x=true)(A B:Int)
  (I:A=fC (l.take x.body.toNat) (Bk.Dp x loops)) (u:B=fC ((l.drop x.body.toNat).take x.eu.toNat) (Bk.Dp x loops)) :
  (A<0\/B<0->fC xs loops = -1)/\(¬ (A<0\/B<0)->fC xs loops=sn (max (max n (1+A)) (1+B)) (fC (l.drop (x.body.toNat+x.eu.toNat)) loops)):=by
 have J:=tF (l.drop (x.body.toNat+x.eu.toNat)) loops
 rw[h,Ez G E]
 simp only[<- I,<- u,hb,if_true]
 unfold sn
 constructor<;>intro h<;>repeat' split
 all_goals omega
def af1{xs l:List bQ}{x:bQ}{loops n:Int}(h:fC xs loops=sn n (fC (x::l) loops))(E:uK x l)(u:Bk.yb x loops=true)(hb:Bk.zy x=false) :
  fC xs loops=sn n (fC (l.drop (x.body.toNat+x.eu.toNat)) loops):=by
 have B:x.body=0/\x.eu=0:=by
  unfold Bk.yb at u
  unfold Bk.zy at hb
  obtain⟨h1,h2,_⟩:=E
  grind
 rw[h,Ez E u,B.1,B.2]
 have I:l.take (aaN 0)=[]:=rfl
 have G:(l.drop (aaN 0)).take (aaN 0)=[]:=rfl
 simp only[hb,I,G,BT]
 unfold sn
 repeat' split
 all_goals first|omega|simp_all
theorem drop_cons{α:Type}{xs:List α}{k:Nat}{x:α}(h:xs[k]?=some x):xs.drop k=x::xs.drop (k+1):=by
 obtain⟨h1,h2⟩:=kE.1 h
 rw[tc h1,h2]
theorem vp{α:Type}(xs:List α){a b c n:Nat}(h:b=a+n)(hc:c=a):(xs.take b).drop c=(xs.drop a).take n:=by
 subst h hc;rw[List.drop_take,Nat.add_sub_cancel_left]
def TR:List ByteArray:=[⟨#[]⟩,⟨#[114,101]⟩,⟨#[114,110]⟩,⟨#[110,101]⟩,⟨#[114,110,101,102]⟩,⟨#[110]⟩,⟨#[110]⟩,⟨#[]⟩,⟨#[]⟩,⟨#[110]⟩,⟨#[110]⟩,⟨#[101,98]⟩,⟨#[107,98]⟩,⟨#[]⟩,⟨#[101]⟩]
def fE(k:Int):ByteArray:=if k<1\/14<k then⟨#[]⟩else TR.getD k.toNat ⟨#[]⟩
def eQ(s:ByteArray)(c:Int):Bool:=(iN s).any λb=>decide ((b.toNat:Int)=c)
def m7(x:bQ):Bool:=
 !(decide (x.kind<1)||decide (14<x.kind)||decide (x.at_<0)||decide (4000<x.at_)) &&
 !((eQ (fE x.kind) 114 != gJ x.eD)||(!eQ (fE x.kind) 114&&decide (¬ x.eD=⟨#[]⟩))||(eQ (fE x.kind) 110 != gJ x.name)||(!eQ (fE x.kind) 110&&decide (¬ x.name=⟨#[]⟩))) &&
 !((eQ (fE x.kind) 101 != fz x.e)||(!eQ (fE x.kind) 101&&decide (0<x.e.length))||(eQ (fE x.kind) 102 != fz x.f)||(!eQ (fE x.kind) 102&&decide (0<x.f.length))) &&
 (if eQ (fE x.kind) 107=true then decide (1<=x.n/\x.n<=8)else decide (x.n=0))
def pL(l:List bQ):Bool:=decide (l.length<=40)&&!l.any (λx=>!m7 x)&&decide (0<=fC l 0/\fC l 0<=12)
def rC(n:Int):Bool:=decide (0<=n/\n<=4000)
def iP(u:Int)(c:cJ):Bool:=!gJ c.name||decide (c.n<0)||decide (u<c.n)||!rC c.at_
def nY(u:Int)(l:List cJ):Bool:=!l.any (iP u)
def so(nb:Bool)(t:cN):Bool:=(nb != gJ t.name)||(!nb&&decide (¬ t.name=⟨#[]⟩))||!rC t.at_||!pL t.body
def mB(nb:Bool)(t:cN):Bool:=so nb t||t.dP.any (λs=>!gJ s)
def nK(nb:Bool)(l:List cN):Bool:=!l.any (mB nb)
def nQ(l:List cJ):Bool:=decide ((l.length:Int)=0)||!nY 4294967296 l
def lR(c:gP):Bool:=!rC c.at_||!fz c.e
def kr(p:cE):Bool:=!p.lines.any nQ&&!p.dS.any lR&&(nY 4294967296 p.iO&&nY 0 p.eJ&&nK true p.threads&&nK false p.recover&&decide (p.recover.length<=1))
def SzS(x:bQ):Prop:=x.eD.size<=1048576/\x.name.size<=1048576/\x.e.length<=1048576/\x.f.length<=1048576/\(∀y∈x.e,y.name.size<=1048576)/\(∀y∈x.f,y.name.size<=1048576)
def W6(t:cN):Prop:=t.name.size<=1048576/\(∀s∈t.dP,s.size<=1048576)/\(∀x∈t.body,SzS x)
structure PZ(p:cE):Prop extends PS p where
 zl:∀l∈p.lines,∀c∈l,c.name.size<=1048576
 zv:∀c∈p.iO,c.name.size<=1048576
 zk:∀c∈p.eJ,c.name.size<=1048576
 zt:∀t∈p.threads,W6 t
 zr:∀t∈p.recover,W6 t
 zc:∀c∈p.dS,c.e.length<=1048576/\∀y∈c.e,y.name.size<=1048576
def EA(k:Int):(fE k).size<=1048576:=by
 unfold fE
 split
 .decide
 rename_i h
 obtain rfl|rfl|rfl|rfl|rfl|rfl|rfl|rfl|rfl|rfl|rfl|rfl|rfl|rfl:k=1\/k=2\/k=3\/k=4\/k=5\/k=6\/k=7\/k=8\/k=9\/k=10\/k=11\/k=12\/k=13\/k=14:=cK
 all_goals decide
def C315(k:Int)(w:World):CR 315 [hZ k] w (λv w'=>v=.string (fE k)/\Ext w w'):=by
 have u:=St.start w;refine ab2 _ _ _ ?_;unfold S315;refine⟨λJ w'=>J=.bool (decide (k<1\/14<k))/\w=w',aR (aC (λ_=>⟨N1 cK,rfl⟩) λ_=>cO ⟨yB cK,rfl⟩),?_⟩;rintro _ _ ⟨rfl,G⟩ _;subst G;refine aC (λB=>?_) (λB=>?_)
 .refine⟨?_,u.aG⟩;unfold fE;rw[ew B]
 refine aZ TR u iy rfl rfl (dL rfl) (λM _ u=>?_);have O:TR.length=15:=rfl;obtain⟨U,E⟩:=gx TR (i:=k.toNat) cK;refine dR u iy cK cK (λ_ I=>gL u gv I E ?_);refine⟨?_,u.aG⟩;unfold fE;rw[ej B,ob,E];rfl
def C316(s:ByteArray)(c:Int)(w:World)(U:s.size<=1048576):CR 316 [.string s,.int .u8 c] w (λv w'=>v=.bool (eQ s c)/\Ext w w'):=by
 have u:=St.start w;refine eX Tryz.func316 ?_;refine⟨λm x I=>∃k:Nat,x=hZ (k:Int)/\m=(iN s).length-k/\k<=(iN s).length/\(∀y∈(iN s).take k,decide ((y.toNat:Int)=c)=false)/\St w bD [] I,⟨_,0,rfl,rfl,l1 _,ei,u⟩,?_⟩;rintro m _ I ⟨k,rfl,rfl,J,G,u⟩ _;rw[eV]at J;have W:=eV s;refine fh ik (aR (aC (λO=>?_) λO=>?_))
 .obtain⟨V,E⟩:∃M,(iN s)[(k:Int).toNat]?=some M:=⟨_,la (by rw[eV];omega)⟩;exact jW ik cK E (nG (aC (λB=>⟨vb (hG E (ez B)).symm,u.aG⟩) λB=>aN cK ⟨_,cK,k+1,rfl,rfl,cK,dY G E (fN B),u⟩))
 rw[kW cK]at G;exact⟨vb (iz G).symm,u.aG⟩
def C288(x:bQ)(xv:bE)(w:World)(hx:mG w xv x)(B:SzS x):CR 288 [ia xv] w (λv w'=>v=.bool (m7 x)/\Ext w w'):=by
 obtain⟨U,V,rfl,Ly,G9⟩:=hx;have u:=St.start w;refine eX Tryz.func288 ?_;refine cI u (λO _ u=>⟨λE w'=>E=.bool (decide (x.kind<1)||decide (14<x.kind)||decide (x.at_<0)||decide (4000<x.at_))/\St w bD [bY O (j0 (⟨x.kind,x.eD,x.name,U,V,x.n,x.body,x.eu,x.at_⟩:bE))] w',?_,?_⟩)
 .refine aA dN (aB (v:=hZ x.kind) bL u.hb rfl ?_);exact aR (aC (λ_=>⟨vb dD,u⟩) λ_=>aA dN (aB (v:=hZ x.kind) bL u.hb rfl (cO (aC (λ_=>⟨vb dD,u⟩) λ_=>aA lJ (aB (v:=hZ x.at_) bL u.hb rfl (aR (aC (λ_=>⟨vb dD,u⟩) λ_=>aA lJ (aB (v:=hZ x.at_) bL u.hb rfl (cO ⟨vb dD,u⟩)))))))))
 rintro _ _ ⟨rfl,u⟩ _;refine aY (λjC=>?_) (λjC=>aA dN (aB (v:=hZ x.kind) bL u.hb rfl (aV anh u (C315 _ _) λ_ G u=>aV KF u (C316 _ _ _ (EA _)) λ_ G u=>aV KF u (C316 _ _ _ (EA _)) λ_ G u=>aV KF u (C316 _ _ _ (EA _)) λ_ G u=>aV KF u (C316 _ _ _ (EA _)) λ_ G u=>⟨λE w'=>E=.bool ((eQ (fE x.kind) 114 != gJ x.eD)||(!eQ (fE x.kind) 114&&decide (¬ x.eD=⟨#[]⟩))||(eQ (fE x.kind) 110 != gJ x.name)||(!eQ (fE x.kind) 110&&decide (¬ x.name=⟨#[]⟩)))/\St w bD [bY O (j0 (⟨x.kind,x.eD,x.name,U,V,x.n,x.body,x.eu,x.at_⟩:bE))] w',?_,?_⟩)))
 .refine⟨vb ?_,u.drop.aG⟩;unfold m7;simp only[*]
  first|done|rfl|simp
 .refine aA iE (aB (v:=.string x.eD) gv u.hb rfl (aV ur u (C211 _ _ B.1) λ_ G u=>rV IH (aY (λ_=>⟨vb dD,u⟩) λvR=>bR (aY (λAP=>?_) λ_=>aA fZ (aB (v:=.string x.name) gv u.hb rfl (aV ur u (C211 _ _ B.2.1) λ_ _ u=>rV IH (aY (λ_=>⟨vb dD,u⟩) λ_=>bR (aY (λ_=>aA fZ (aB (v:=.string x.name) gv u.hb rfl (l6 ⟨vb dD,u⟩))) λ_=>⟨vb dD,u⟩))))))));refine aA iE ?_;exact aB (v:=.string x.eD) gv u.hb rfl (l6 (aC (λ_=>⟨vb dD,u⟩) λ_=>aA fZ (aB (v:=.string x.name) gv u.hb rfl (aV ur u (C211 _ _ B.2.1) λ_ _ u=>rV IH (aY (λ_=>⟨vb dD,u⟩) λ_=>bR (aY (λ_=>aA fZ (aB (v:=.string x.name) gv u.hb rfl (l6 ⟨vb dD,u⟩))) λ_=>⟨vb dD,u⟩))))))
 rintro _ _ ⟨rfl,u⟩ _;refine aY (λY=>?_) (λY=>⟨λE w'=>E=.bool ((eQ (fE x.kind) 101 != fz x.e)||(!eQ (fE x.kind) 101&&decide (0<x.e.length))||(eQ (fE x.kind) 102 != fz x.f)||(!eQ (fE x.kind) 102&&decide (0<x.f.length)))/\St w bD [bY O (j0 (⟨x.kind,x.eD,x.name,U,V,x.n,x.body,x.eu,x.at_⟩:bE))] w',?_,?_⟩)
 .refine⟨vb ?_,u.drop.aG⟩;unfold m7;simp only[*]
  first|done|rfl|simp
 .refine aA iV (aB ju u.hb rfl ?_);have M:=DL.flat Ly;refine aV KA u (C200 _ _ _ (M.ext u.aG) B.2.2.1 B.2.2.2.2.1) (λ_ G u=>rV IH (aY (λ_=>⟨vb dD,u⟩) λHa=>bR (aY (λW=>aA iV (aB ju u.hb rfl (aK gV (M.ext u.aG) (cO (aC (λ_=>⟨vb dD,u⟩) λRR=>?_))))) λW=>?_)))
  .refine aA j8 (aB ju u.hb rfl ?_);have I:=DL.flat G9;exact aV KA u (C200 _ _ _ (I.ext u.aG) B.2.2.2.1 B.2.2.2.2.2) (λ_ _ u=>rV IH (aY (λ_=>⟨vb dD,u⟩) λ_=>bR (aY (λ_=>aA j8 (aB ju u.hb rfl (aK gV (I.ext u.aG) (cO ⟨vb dD,u⟩)))) λ_=>⟨vb dD,u⟩)))
  refine aA j8 (aB ju u.hb rfl ?_);have J:=DL.flat G9;exact aV KA u (C200 _ _ _ (J.ext u.aG) B.2.2.2.1 B.2.2.2.2.2) (λ_ _ u=>rV IH (aY (λ_=>⟨vb dD,u⟩) λ_=>bR (aY (λ_=>aA j8 (aB ju u.hb rfl (aK gV (J.ext u.aG) (cO ⟨vb dD,u⟩)))) λ_=>⟨vb dD,u⟩)))
 rintro _ _ ⟨rfl,u⟩ _;refine aY (λZ=>?_) (λZ=>aV KF u (C316 _ _ _ (EA _)) λ_ G u=>aY (λBU=>⟨λE w'=>E=.bool (decide (1<=x.n/\x.n<=8))/\St w bD [bY O (j0 (⟨x.kind,x.eD,x.name,U,V,x.n,x.body,x.eu,x.at_⟩:bE))] w',aA jO (aB (v:=hZ x.n) bL u.hb rfl (cR (aC (λ_=>aA jO (aB (v:=hZ x.n) bL u.hb rfl (iB ⟨vb dD,u⟩))) λ_=>⟨vb dD,u⟩))),?_⟩) λBU=>?_)
 .refine⟨vb ?_,u.drop.aG⟩;unfold m7;simp only[*]
  first|done|rfl|simp
 .rintro _ _ ⟨rfl,u⟩ _;refine⟨vb ?_,u.drop.aG⟩;unfold m7;simp only[*]
  first|done|rfl|simp
 refine aA jO (aB (v:=hZ x.n) bL u.hb rfl (aH ?_));refine⟨vb ?_,u.drop.aG⟩;unfold m7;simp only[*]
 first|done|rfl|simp
theorem C289(lv:Value)(xs:List bQ)(loops:Int)(N:Nat)(w:World)(hL:DL w lv xs)(hn:xs.length<=1048576)(hlo:0<=loops)(N4:loops+N<=4194304)(hN:xs.length<N):CR 289 [lv,hZ loops] w (λv w'=>v=hZ (fC xs loops)/\Ext w w'):=by
 have E:=St.start w;refine abY _ _ _ _ ?_;unfold S289;refine⟨λm y x w1=>∃(k:Nat) (n:Int),y=hZ n/\x=hZ (k:Int)/\m=xs.length-k/\k<=xs.length/\0<=n/\n<=41/\fC xs loops=sn n (fC (xs.drop k) loops)/\St w bD [] w1,⟨_,0,0,rfl,rfl,rfl,cK,cK,cK,by have:=tF xs loops;rw[P0];unfold sn;split<;>omega,E⟩,?_⟩;rintro m _ _ w1 ⟨k,n,rfl,rfl,rfl,hk,Vo,WT,hinv,E⟩ _;obtain⟨ts7,G,J⟩:=hL.open;have hn7:=J.1;refine aK fq (G.ext E.aG) (aR (aC (λjo=>?_) λjo=>?_))
 .obtain⟨q9,iY⟩:=gx ts7 (i:=(k:Int).toNat) cK;obtain⟨u,EC⟩:=gx xs (i:=(k:Int).toNat) cK;obtain⟨M,O,rfl,acC,acD⟩:=J.2 _ _ _ iY EC;refine aO fq (G.ext E.aG) cK iY (λ_ uH=>?_);have hdk:=drop_cons (xs:=xs) (k:=k) EC;rw[hdk]at hinv;have Hb:(xs.drop (k+1)).length=xs.length-(k+1):=qa;refine aD eL uH (aM E jw λV _ E=>aJ (x:=(⟨u.kind,u.eD,u.name,M,O,u.n,u.body,u.eu,u.at_⟩:bE)) E eL rfl rfl λ_ E=>⟨λI w'=>I=.bool (decide (u.body<0)||decide (u.eu<0)||decide (40<u.body)||decide (40<u.eu)||decide ((xs.length:Int)<k+1+u.body+u.eu))/\St w bD [bY V (j0 (⟨u.kind,u.eD,u.name,M,O,u.n,u.body,u.eu,u.at_⟩:bE))] w',aA iW (aB (v:=hZ u.body) bL E.hb rfl (aR (aC (λ_=>⟨vb dD,E⟩) λiM=>aA iF (aB (v:=hZ u.eu) bL E.hb rfl (aR (aC (λ_=>⟨vb dD,E⟩) λyL=>aA iW (aB (v:=hZ u.body) bL E.hb rfl (cO (aC (λ_=>⟨vb dD,E⟩) λmc=>?_))))))))),?_⟩)
  .exact aA iF (aB (v:=hZ u.eu) bL E.hb rfl (cO (aC (λ_=>⟨vb dD,E⟩) λ_=>aN cK (aA iW (aB (v:=hZ u.body) bL E.hb rfl (aN cK (aA iF (aB (v:=hZ u.eu) bL E.hb rfl (aN cK (aK fq (G.ext E.aG) (cO ⟨vb dD,E⟩)))))))))))
  rintro _ _ ⟨rfl,E⟩ _;refine aY (λ_=>⟨gN (nf .i64) (I1 hinv (by unfold uK;grind)).symm,E.drop.aG⟩) (λLv=>?_);have oK:uK u (xs.drop (k+1)):=by unfold uK;grind
  refine⟨λI w'=>I=.bool (!Bk.yb u loops)/\St w bD [bY V (j0 (⟨u.kind,u.eD,u.name,M,O,u.n,u.body,u.eu,u.at_⟩:bE))] w',aA iW (aB (v:=hZ u.body) bL E.hb rfl (cO (aC (λCB=>aA dN (aB (v:=hZ u.kind) bL E.hb rfl (bW (aC (λanZ=>aA dN (aB (v:=hZ u.kind) bL E.hb rfl (bW (aC (λ_=>⟨vb (by unfold Bk.yb;grind),E⟩) λRS=>?_)))) λanZ=>?_)))) λCB=>?_))),?_⟩
  .refine aA iF (aB (v:=hZ u.eu) bL E.hb rfl (cO (aC (λ_=>aA dN (aB (v:=hZ u.kind) bL E.hb rfl (bW (aC (λ_=>⟨vb (by unfold Bk.yb;grind),E⟩) λ_=>aA dN (aB (v:=hZ u.kind) bL E.hb rfl (aH (aC (λ_=>aH ⟨vb (by unfold Bk.yb;grind),E⟩) λ_=>⟨vb (by unfold Bk.yb;grind),E⟩))))))) λwP=>?_)));exact aA dN (aB (v:=hZ u.kind) bL E.hb rfl (aH (aC (λ_=>aH ⟨vb (by unfold Bk.yb;grind),E⟩) λ_=>⟨vb (by unfold Bk.yb;grind),E⟩)))
  .refine aA iF (aB (v:=hZ u.eu) bL E.hb rfl (cO (aC (λ_=>aA dN (aB (v:=hZ u.kind) bL E.hb rfl (bW (aC (λ_=>⟨vb (by unfold Bk.yb;grind),E⟩) λ_=>aA dN (aB (v:=hZ u.kind) bL E.hb rfl (aH (aC (λ_=>aH ⟨vb (by unfold Bk.yb;grind),E⟩) λ_=>⟨vb (by unfold Bk.yb;grind),E⟩))))))) λasK=>?_)));exact aA dN (aB (v:=hZ u.kind) bL E.hb rfl (aH (aC (λ_=>aH ⟨vb (by unfold Bk.yb;grind),E⟩) λ_=>⟨vb (by unfold Bk.yb;grind),E⟩)))
  .refine aA iF (aB (v:=hZ u.eu) bL E.hb rfl (cO (aC (λ_=>aA dN (aB (v:=hZ u.kind) bL E.hb rfl (bW (aC (λ_=>⟨vb (by unfold Bk.yb;grind),E⟩) λ_=>aA dN (aB (v:=hZ u.kind) bL E.hb rfl (aH (aC (λ_=>aH ⟨vb (by unfold Bk.yb;grind),E⟩) λ_=>⟨vb (by unfold Bk.yb;grind),E⟩))))))) λasL=>?_)));exact aA dN (aB (v:=hZ u.kind) bL E.hb rfl (aH (aC (λ_=>aH ⟨vb (by unfold Bk.yb;grind),E⟩) λ_=>⟨vb (by unfold Bk.yb;grind),E⟩)))
  rintro _ _ ⟨rfl,E⟩ _;refine aY (λ_=>⟨gN (nf .i64) (I1 hinv dD).symm,E.drop.aG⟩) (λaf5=>?_);have kC:Bk.yb u loops=true:=dD
  have ahZ:=oK;unfold uK at ahZ;refine aN cK (aA iW (have E:=E.drew;aB (v:=hZ u.body) bL E.hb rfl (aN cK ⟨λI w'=>I=hZ (Bk.Dp u loops)/\St w bD [bY V (j0 (⟨u.kind,u.eD,u.name,M,O,u.n,u.body,u.eu,u.at_⟩:bE))] w',aA dN (aB (v:=hZ u.kind) bL E.hb rfl (aH (aC (λ_=>aN cK ⟨gN (nf .i64) (by unfold Bk.Dp;grind),E⟩) λ_=>⟨gN (nf .i64) (by unfold Bk.Dp;grind),E⟩))),?_⟩)));rintro _ _ ⟨rfl,E⟩ _;have tj:loops<=Bk.Dp u loops/\Bk.Dp u loops<=loops+1:=by unfold Bk.Dp;split<;>omega
  refine⟨λI w'=>∃U:Int,I=hZ U/\0<=U/\U<=41/\fC xs loops=sn U (fC (xs.drop (k+1+(u.body.toNat+u.eu.toNat))) loops)/\St w bD [bY V (j0 (⟨u.kind,u.eD,u.name,M,O,u.n,u.body,u.eu,u.at_⟩:bE))] w',⟨λI w'=>I=.bool (decide (u.kind=11)||decide (u.kind=12))/\St w bD [bY V (j0 (⟨u.kind,u.eD,u.name,M,O,u.n,u.body,u.eu,u.at_⟩:bE))] w',aA dN (aB (v:=hZ u.kind) bL E.hb rfl (aH (aC (λ_=>⟨vb dD,E⟩) λ_=>aA dN (aB (v:=hZ u.kind) bL E.hb rfl (aH ⟨vb dD,E⟩))))),?_⟩,?_⟩
  .rintro _ _ ⟨rfl,E⟩ _;refine aY (λah0=>?_) (λah0=>?_)
   .refine aN cK (ox fq (G.ext E.aG) cK cK cK λavc acE=>?_);have acF:=DL.cut acE G J;refine aA iF (have E:=E.drew;aB (v:=hZ u.eu) bL E.hb rfl (aN cK (ox fq (G.ext E.aG) cK cK cK λavd acG=>?_)));have acH:=DL.cut acG G J;have W:((xs.take (((k:Int)+1)+u.body).toNat).drop ((k:Int)+1).toNat)=(xs.drop (k+1)).take u.body.toNat:=vp xs cK cK;have Z:((xs.take ((((k:Int)+1)+u.body)+u.eu).toNat).drop (((k:Int)+1)+u.body).toNat)=((xs.drop (k+1)).drop u.body.toNat).take u.eu.toNat:=by rw[sW];exact vp xs cK cK
    have hlA:((xs.take (((k:Int)+1)+u.body).toNat).drop ((k:Int)+1).toNat).length<=xs.length-1/\((xs.take (((k:Int)+1)+u.body).toNat).drop ((k:Int)+1).toNat).length<=40:=by rw[W,l0];omega
    have hlB:((xs.take ((((k:Int)+1)+u.body)+u.eu).toNat).drop (((k:Int)+1)+u.body).toNat).length<=xs.length-1/\((xs.take ((((k:Int)+1)+u.body)+u.eu).toNat).drop (((k:Int)+1)+u.body).toNat).length<=40:=by rw[Z,l0,qa];omega
    refine aV V3 E (C289 _ _ _ (N-1) _ (acF.ext E.aG) cK cK cK cK) (λ_ he E=>?_);refine⟨aF bL (E.hb.cell rfl),?_⟩;refine dQ V3 (C289 _ _ _ (N-1) _ (acH.ext E.aG) cK cK cK cK) ?_;rintro _ _ ⟨rfl,he⟩;have E:=E.ext he;obtain⟨A,hA⟩:∃A,A=fC ((xs.take (((k:Int)+1)+u.body).toNat).drop ((k:Int)+1).toNat) (Bk.Dp u loops):=⟨_,rfl⟩;obtain⟨B,hB⟩:∃B,B=fC ((xs.take ((((k:Int)+1)+u.body)+u.eu).toNat).drop (((k:Int)+1)+u.body).toNat) (Bk.Dp u loops):=⟨_,rfl⟩;have hAb:=tF ((xs.take (((k:Int)+1)+u.body).toNat).drop ((k:Int)+1).toNat) (Bk.Dp u loops)
    have hBb:=tF ((xs.take ((((k:Int)+1)+u.body)+u.eu).toNat).drop (((k:Int)+1)+u.body).toNat) (Bk.Dp u loops);rw[<- hA]at hAb;rw[<- hB]at hBb;rw[<- hA,<- hB];have TO:=W5 hinv oK kC (by unfold Bk.zy;grind) A B (by rw[hA,W]) (by rw[hB,Z]);refine⟨λI w'=>I=.bool (decide (A<0\/B<0))/\St w bD [bY V (j0 (⟨u.kind,u.eD,u.name,M,O,u.n,u.body,u.eu,u.at_⟩:bE))] w',aR (aC (λ_=>⟨vb dD,E⟩) λ_=>aR ⟨vb dD,E⟩),?_⟩;rintro _ _ ⟨rfl,E⟩ _;refine aY (λOV=>⟨gN (nf .i64) (TO.1 (gO OV)).symm,E.drop.aG⟩) (λOV=>aN cK (aN cK (Lm ?_)))
    have W7:=TO.2 (g6 OV);rw[sW]at W7;exact⟨_,rfl,cK,cK,W7,E⟩
   have Y:=af1 hinv oK kC (by unfold Bk.zy;grind);rw[sW]at Y;exact⟨_,rfl,Vo,WT,Y,E⟩
  rintro _ _ ⟨U,rfl,ah2,ah3,W8,E⟩ _;exact aA iF (aB (v:=hZ u.eu) bL E.hb rfl (aN cK ⟨_,cK,k+1+(u.body.toNat+u.eu.toNat),U,rfl,gN (nf .i64) cK,rfl,cK,ah2,ah3,W8,E.drop⟩))
 rw[vt cK,BT]at hinv;exact⟨gN (nf .i64) (by rw[hinv];unfold sn;omega),E.aG⟩
termination_by N
decreasing_by all_goals omega
def C253(lv:Value)(xs:List bQ)(w:World)(hL:DL w lv xs)(hn:xs.length<=1048576)(hz:∀x∈xs,SzS x):CR 253 [lv] w (λv w'=>v=.bool (pL xs)/\Ext w w'):=by
 have u:=St.start w;refine eX Tryz.func253 ?_;obtain⟨O,B,E⟩:=hL.open;have hn8:=E.1;refine aK fq (B.ext u.aG) (cO (aC (λgQ=>?_) λgQ=>?_))
 .refine⟨vb ?_,u.aG⟩;unfold pL;rw[fN cK];rfl
 refine⟨λm x Y=>∃k:Nat,x=hZ (k:Int)/\m=xs.length-k/\k<=xs.length/\(∀y∈xs.take k,(!m7 y)=false)/\St w bD [] Y,⟨_,0,rfl,rfl,l1 _,ei,u⟩,?_⟩;rintro m _ Y ⟨k,rfl,rfl,hk,V,u⟩ _;refine aK fq (B.ext u.aG) (aR (aC (λjB=>?_) λjB=>aV V3 u (C289 _ _ _ (xs.length+1) _ (hL.ext u.aG) cK cK cK cK) λ_ he u=>⟨λjv w'=>jv=.bool (decide (0<=fC xs 0/\fC xs 0<=12))/\St w bD [] w',cR (aC (λ_=>iB ⟨vb dD,u⟩) λ_=>⟨vb dD,u⟩),?_⟩))
 .obtain⟨W9,Z⟩:=gx O (i:=(k:Int).toNat) cK;obtain⟨sq,G⟩:=gx xs (i:=(k:Int).toNat) cK;obtain⟨I,J,rfl,M,W⟩:=E.2 _ _ _ Z G;refine aO fq (B.ext u.aG) cK Z (λ_ AI=>aD eL AI (aV am5 u (C288 sq _ _ ⟨I,J,rfl,M.ext u.aG,(W).ext u.aG⟩ (hz _ (kO G))) λ_ he u=>bR (aY (λU=>?_) λU=>aN cK ⟨_,cK,k+1,rfl,rfl,cK,dY V G U,u⟩)));refine⟨vb ?_,u.aG⟩;unfold pL;rw[hG G U];simp
 rintro _ _ ⟨rfl,u⟩ _;rw[kW cK]at V;refine⟨vb ?_,u.aG⟩;unfold pL;rw[iz V,ez (show xs.length<=40 by omega)];rfl
def C199(n:Int)(w:World):CR 199 [hZ n] w (λv w'=>v=.bool (rC n)/\Ext w w'):=by
 have B:=St.start w;refine eX Tryz.func199 ?_;refine⟨λE w'=>E=.bool (decide (0<=n/\n<=4000))/\w=w',cR (aC (λ_=>iB ⟨yB cK,rfl⟩) λ_=>⟨jvF cK,rfl⟩),?_⟩;rintro _ _ ⟨rfl,u⟩ _;subst u;exact⟨rfl,B.aG⟩
def C198(lv:Value)(xs:List cJ)(I:Int)(w:World)(E:dA (λ_=>True) w lv xs)(hn:xs.length<=1048576)(Z:∀c∈xs,c.name.size<=1048576):CR 198 [lv,hZ I] w (λv w'=>v=.bool (nY I xs)/\Ext w w'):=by
 have u:=St.start w;refine eX Tryz.func198 ?_;refine⟨λm x O=>∃k:Nat,x=hZ (k:Int)/\m=xs.length-k/\k<=xs.length/\(∀y∈xs.take k,iP I y=false)/\St w bD [] O,⟨_,0,rfl,rfl,l1 _,ei,u⟩,?_⟩;rintro m _ O ⟨k,rfl,rfl,hk,M,u⟩ _;refine aK il (E.ext u.aG) (aR (aC (λjH=>?_) λjH=>?_))
 .obtain⟨G,B⟩:=gx xs (i:=(k:Int).toNat) cK;refine⟨λjv w'=>jv=.bool (iP I G)/\St w bD [] w',aO il (E.ext u.aG) cK B (λ_ ic=>bV G.name kP ic rfl rfl λ_ W=>aD gv W (aV ur u (C211 _ _ (Z _ (kO B))) λ_ he u=>bR (aY (λ_=>⟨vb (by unfold iP;grind),u⟩) λlP=>?_))),?_⟩
  .refine aO il (E.ext u.aG) cK B (λ_ V=>bV G.n rY V rfl rfl λ_ Y=>?_);exact aD bL Y (aR (aC (λ_=>⟨vb (by unfold iP;grind),u⟩) λ_=>aO il (E.ext u.aG) cK B λ_ mA=>bV G.n rY mA rfl rfl λ_ su=>aD bL su (cO (aC (λ_=>⟨vb (by unfold iP;grind),u⟩) λ_=>aO il (E.ext u.aG) cK B λ_ U=>bV G.at_ uB U rfl rfl λ_ W0=>aD bL W0 (aV Rf u (C199 _ _) λ_ _ u=>bR ⟨vb (by unfold iP;grind),u⟩)))))
  rintro _ _ ⟨rfl,u⟩ _;refine aY (λJ=>?_) (λJ=>aN cK ⟨_,cK,k+1,rfl,rfl,cK,dY M B J,u⟩);refine⟨vb ?_,u.aG⟩;unfold nY;rw[hG B J];rfl
 rw[kW cK]at M;refine⟨vb ?_,u.aG⟩;unfold nY;rw[iz M];rfl
def C201(lv:Value)(xs:List cN)(nb:Bool)(w:World)(hL:DL w lv xs)(hn:xs.length<=1048576)(hz:∀t∈xs,W6 t/\t.dP.length<=500/\t.body.length<=500):CR 201 [lv,.bool nb] w (λv w'=>v=.bool (nK nb xs)/\Ext w w'):=by
 have u:=St.start w;refine eX Tryz.func201 ?_;refine⟨λm x V=>∃k:Nat,x=hZ (k:Int)/\m=xs.length-k/\k<=xs.length/\(∀y∈xs.take k,mB nb y=false)/\St w bD [] V,⟨_,0,rfl,rfl,l1 _,ei,u⟩,?_⟩;rintro m _ V ⟨k,rfl,rfl,hk,eE,u⟩ _;obtain⟨ts9,B,M⟩:=hL.open;have hn9:=M.1;refine aK fu (B.ext u.aG) (aR (aC (λgH=>?_) λgH=>?_))
 .obtain⟨W9,G⟩:=gx ts9 (i:=(k:Int).toNat) cK;obtain⟨E,O⟩:=gx xs (i:=(k:Int).toNat) cK;obtain⟨ED,EE,rfl,OW,EF⟩:=M.2 _ _ _ G O;have I:=hz _ (kO O);refine⟨λjv w'=>jv=.bool (so nb E)/\St w bD [] w',aO fu (B.ext u.aG) cK G (λ_ AI=>bV E.name qn AI rfl rfl λ_ Lr=>aD gv Lr (aV ur u (C211 _ _ I.1.1) λ_ he u=>rV IH (aY (λ_=>⟨vb (by unfold so;grind),u⟩) λoz=>?_))),?_⟩
  .refine bR (aY (λm6=>?_) λ_=>aO fu (B.ext u.aG) cK G λ_ acN=>bV E.at_ qo acN rfl rfl λ_ acO=>aD bL acO (aV Rf u (C199 _ _) λ_ _ u=>bR (aY (λ_=>⟨vb (by unfold so;grind),u⟩) λ_=>aO fu (B.ext u.aG) cK G λ_ acP=>bV EE lI acP rfl rfl λ_ acQ=>aD jN acQ (aV afz u (C253 _ _ _ (EF.ext u.aG) cK I.1.2.2) λ_ _ u=>bR ⟨vb (by unfold so;grind),u⟩))));refine aO fu (B.ext u.aG) cK G (λ_ uJ=>bV E.name qn uJ rfl rfl λ_ EG=>aD gv EG ?_)
   exact l6 (aC (λ_=>⟨vb (by unfold so;grind),u⟩) λ_=>aO fu (B.ext u.aG) cK G λ_ AM=>bV E.at_ qo AM rfl rfl λ_ xe=>aD bL xe (aV Rf u (C199 _ _) λ_ _ u=>bR (aY (λ_=>⟨vb (by unfold so;grind),u⟩) λ_=>aO fu (B.ext u.aG) cK G λ_ EH=>bV EE lI EH rfl rfl λ_ Lz=>aD jN Lz (aV afz u (C253 _ _ _ (EF.ext u.aG) cK I.1.2.2) λ_ _ u=>bR ⟨vb (by unfold so;grind),u⟩))))
  rintro _ _ ⟨rfl,u⟩ _;refine aY (λLv=>?_) (λLv=>?_)
  .refine⟨vb ?_,u.aG⟩;unfold nK;rw[hG O (show mB nb E=true by unfold mB;rw[Lv];rfl)];rfl
  refine⟨λm x V=>∃J:Nat,x=hZ (J:Int)/\m=E.dP.length-J/\J<=E.dP.length/\(∀s∈E.dP.take J,(!gJ s)=false)/\St w bD [] V,⟨_,0,rfl,rfl,l1 _,ei,u⟩,?_⟩;rintro m _ _ ⟨J,rfl,rfl,xf,EI,u⟩ _;refine aO fu (B.ext u.aG) cK G (λ_ W3=>bV ED fR W3 rfl rfl λ_ AH=>aD ji AH ?_);have U:=DL.flat OW;refine aK iy (U.ext u.aG) (aR (aC (λHc=>?_) λ_=>aN cK ⟨_,cK,k+1,rfl,rfl,cK,dY eE O (by unfold mB;rw[Lv,iz (by rw[kW cK]at EI;exact EI)];rfl),u⟩))
  refine aO fu (B.ext u.aG) cK G (λ_ LA=>bV ED fR LA rfl rfl λ_ EJ=>aD ji EJ ?_);obtain⟨Z,W⟩:=gx E.dP (i:=(J:Int).toNat) cK;refine aO iy (U.ext u.aG) cK W (λ_ Y=>aD gv Y (aV ur u (C211 _ _ (I.1.2.1 _ (kO W))) λ_ he u=>bR (aY (λEK=>?_) λEK=>aN cK ⟨_,cK,J+1,rfl,rfl,cK,dY EI W EK,u⟩)));refine⟨vb ?_,u.aG⟩;unfold nK;rw[hG O (show mB nb E=true by unfold mB;rw[hG W EK];simp)];rfl
 rw[kW cK]at eE;refine⟨vb ?_,u.aG⟩;unfold nK;rw[iz eE];rfl
variable (w:World) (K:Value->hM)
def S236(G E:Value):Prop:=
 kJ (λB u a=>∀_:Env,
 fe (λK2=>lN 9 G λb=>bA .lss 3 u b λc=>cV c (eR hH (u3 9 G u) λd=>kH hH E [d] a λe f=>K2 e f) (K2 ff a)) (λg h=>∀_:Env,
 cV g (bB .add 3 u (i 1) λj=>B j h) (K u h))) (λB=>B (i 0) w)
theorem acR(B u:Value)(h:S236 w K B u):CR 236 [B,u] w K:=
 qO 20 (λ_=>.nil) 16 [.tmp 4] Tryz.func236 h
def S246(B G:Value):Prop:=
 cF 287 [B,G] w λa b=>lN 41 a λc=>px (λu E d e=>∀_:Env,
 bA .lss 3 d c λf=>cV f (iA 41 a d λg=>lA 3 g e λh=>cF 246 [B,h] e λj k=>eR hH (Builtin.max_ #[3,3] 3 [E,j].toArray) λl=>bB .add 3 d (i 1) λn=>
 u l n k) (bB .add 3 E (i 1) λo=>K o e)) (λu=>u (i 0) (i 0) b)
theorem acS(B u:Value)(h:S246 w K B u):CR 246 [B,u] w K:=
 qO 24 (λ_=>.nil) 16 [.tmp 4] Tryz.func246 h
def avg:dI:=λi=>match i with
 | 8=>(.of [(0,[]),(1,[]),(2,[]),(3,[]),(4,[]),(5,[]),(6,[]),(7,[]),(8,[]),(9,[]),(10,[]),(11,[4,9]),(12,[])])
 | _=>.nil
def S218(u E:Value):Prop:=
 rJ hH (Instr.box 91 E) w λB a=>cF 185 [u] a λb c=>eR hH (Op.unary .not b) λd=>cV d (K (.tuple #[(.slice none 0 0),(i 8)]) c) (cF 264 [u] c λe f=>
 cF 240 [e,(.func (Go.Fn.func 262) [].toArray [B].toArray)] f λg h=>cV g (K (.tuple #[(.slice none 0 0),(i 9)]) h) (lA 91 B h λj=>cF 265 [u,(i 0),j] h λk l=>
 K (.tuple #[k,(i 0)]) l))
theorem acT(u B:Value)(h:S218 w K u B):CR 218 [u,B] w K:=
 qO 18 (λ_=>.nil) 48 [.tmp 4,.tmp 5] Tryz.func218 h
def S143(E B u:Value):Prop:=
 lN 91 B λa=>lN 41 u λb=>bA .neq 3 a b λc=>cV c (K (.tuple #[(i 0),(i 1)]) w) (cF 218 [E,B] w λd e=>xT d 0 λf=>xT d 1 λg=>bB .neq 31 g (i 0) λh=>
 cV h (K (.tuple #[(i 0),g]) e) (cF 219 [f,u] e λj k=>xT j 0 λl=>xT j 1 λn=>K (.tuple #[l,n]) k))
theorem acU(u E B:Value)(h:S143 w K u E B):CR 143 [u,E,B] w K:=
 qO 29 (λ_=>.nil) 192 [.tmp 6,.tmp 7] Tryz.func143 h
theorem af6:PL 234:=dJ Tryz.func234
theorem an6:PL 238:=dJ Tryz.func238
theorem an7:PL 236:=dJ Tryz.func236
theorem an8:PL 237:=dJ Tryz.func237
theorem an9:PL 235:=dJ Tryz.func235
theorem LC:PL 180:=dJ Tryz.func180
theorem Xb:PL 286:=dJ Tryz.func286
theorem aoa:PL 243:=dJ Tryz.func243
theorem aob:PL 242:=dJ Tryz.func242
theorem Xc:PL 245:=dJ Tryz.func245
theorem aoc:PL 287:=dJ Tryz.func287
theorem af7:PL 246:=dJ Tryz.func246
theorem RT:PL 185:=dJ Tryz.func185
theorem aod:PL 264:=dJ Tryz.func264
theorem af8:PL 265:=dJ Tryz.func265
theorem aoe:PL 218:=dJ Tryz.func218
theorem aof:PL 262:=dJ Tryz.func262
theorem af9:PL 143:=dJ Tryz.func143
theorem aog:PL 244:=dJ Tryz.func244
theorem aoh:PL 285:=dJ Tryz.func285
theorem aga:PL 240:=dJ Tryz.func240
theorem aoi:PL 281:=dJ Tryz.func281
theorem agb:PL 263:=dJ Tryz.func263
theorem Xd:PL 225:=dJ Tryz.func225
end Go.Proofs.YtpdlpabnlkofmaaGreatDoor
namespace Go.Fw
open Go.MapKept (Stamped IsKey)
open Go.ChangeMaps (setBlock)
def mC(w:World)(b:Nat)(ks:List Int)(vs:List Value):Prop:=
 ∃es clock,w.heap[b]?=some (.map es clock)/\Stamped es clock/\es.toList.map (·.key)=ks.map (nf .i64)/\es.toList.map (·.val)=vs
def kX:List Int->Int->Option Nat
 | [],_=>none
 | x::xs,k=>if x=k then some 0 else(kX xs k).map (· + 1)
theorem ku:∀{ks:List Int}{k:Int}{j:Nat},kX ks k=some j->ks[j]?=some k
 | x::xs,k,j,h=>by
  unfold kX at h
  split at h
  .grind
  .cases hh:kX xs k with
   | none=>grind
   | some i=>rw[hh]at h;simp at h;subst h;simpa using ku hh
theorem mD:∀{ks:List Int}{k:Int},kX ks k=none↔k ∉ ks
 | [],_=>by simp[kX]
 | x::xs,k=>by
  unfold kX
  by_cases e:x=k
  .simp[e]
  .rw[ej e,Option.map_eq_none_iff,mD,sl]
   grind
theorem sw:∀{ks:List Int}{k:Int}{j:Nat},ks.Nodup->ks[j]?=some k->kX ks k=some j
 | x::xs,k,0,_,h=>by simp at h;simp[kX,h]
 | x::xs,k,j+1,hn,h=>by
  rw[List.getElem?_cons_succ]at h
  have u:=kO h
  have:x≠k:=λe=>(H5.1 hn).1 (e▸u)
  simp[kX,this,sw (H5.1 hn).2 h]
def look{β:Type}(ks:List Int)(vs:List β)(k:Int):Option β:=(kX ks k).bind (vs[·]?)
def pM{β:Type}(f:Int->β)(k:Int)(x:β):Int->β:=λj=>if j=k then x else f j
section
variable {P:Program}{w w0 w':World}{A:Nat->Prop}{L:List HP}{b:Nat}{ks:List Int}{vs:List Value}
theorem mC.of_eq(h:mC w b ks vs)(u:w'.heap[b]?=w.heap[b]?):mC w' b ks vs:=by
 grind[mC]
theorem mC.lt(h:mC w b ks vs):b<w.heap.size:=by obtain⟨es,c,h1,_⟩:=h;grind
theorem mC.ext(h:mC w b ks vs)(e:Ext w w'):mC w' b ks vs:=h.of_eq (e.bY b h.lt λh=>h)
theorem mC.len(h:mC w b ks vs):ks.length=vs.length:=by
 obtain⟨es,c,_,_,h3,h4⟩:=h
 have:=gN List.length h3;grind
theorem mC.nodup(h:mC w b ks vs):ks.Nodup:=by
 obtain⟨es,c,_,h2,h3,h4⟩:=h
 have:=h2.2.2
 grind
def LD(b:Nat)(ks:List Int)(vs:List Value):HP where
 p w F:=mC w b ks vs/\∀k,F k↔k=b
 loc w w' F h hh:=⟨h.1.of_eq (hh b ((h.2 b).2 rfl)),h.2⟩
 lt w F b' h hb:=by rw[(h.2 b').1 hb];exact h.1.lt
theorem TS{es:Array MapEntry}(h3:es.toList.map (·.key)=ks.map (nf .i64)):∀x∈es.toList,IsKey (.int .i64) x.key:=by
 intro x u
 have:x.key∈es.toList.map (·.key):=oi.2 ⟨x,u,rfl⟩
 rw[h3]at this
 obtain⟨k,_,e⟩:=oi.1 this
 rw[<- e];simp[IsKey]
theorem EL{T:TypeId}{k:Int}{es:Array MapEntry}(u:P.underlying T=some (.int .i64))(B:ks.Nodup)(h3:es.toList.map (·.key)=ks.map (nf .i64)) :
  (kX ks k=none/\(QQ T (hZ k) es.toList).run P w=.ok none w)\/∃j e,kX ks k=some j/\es.toList[j]?=some e/\e.key=hZ k/\(QQ T (hZ k) es.toList).run P w=.ok (some (j,e.val)) w:=by
 rcases MapKept.findNow_spec (d:=.int .i64) (k:=hZ k) (by simp[IsKey]) es.toList 0 (TS h3)with⟨h1,h2⟩|⟨j,e,h1,h2,h4⟩
 .refine .inl ⟨mD.2 λE=>?_,MapKept.run_findKey u h1⟩
  have:nf .i64 k∈es.toList.map (·.key):=dD
  grind
 refine .inr ⟨j,e,sw B ?_,h2,h4,by rw[tW]at h1;exact MapKept.run_findKey u h1⟩
 have:(es.toList.map (·.key))[j]?=some (hZ k):=dD
 grind
theorem zA{T G E:TypeId}{z:Value}{k:Int}(h:mC w b ks vs)(ht:P.underlying T=some (.map G E))(I:P.underlying G=some (.int .i64))(u:oo P E z) :
  (xi T (.map (some b)) (hZ k) false).run P w=.ok ((look ks vs k).getD z) w:=by
 have J:=h.nodup
 obtain⟨es,c,h1,h2,h3,h4⟩:=h
 have B:(zeroValue E).run P w=.ok z w:=by
  unfold oo ep at u
  cases hi:P.info? E with
  | none=>grind
  | some i=>
   rw[hi]at u
   simp only[D4,oe.injEq]at u
   refine fY ?_ w
   unfold zeroValue;rw[cX,ml hi];simp only[mO,u];rfl
 have hc:=MapKept.run_checkKey (P:=P) (w:=w) (kt:=G) (k:=hZ k) I (by simp[IsKey]) es.isEmpty 9999
 rcases EL (w:=w) (k:=k) I J h3 with⟨h5,h6⟩|⟨j,e,h5,h6,O,M⟩
 .simp[xi,run_underlying ht,MapKept.run_getObj_map h1,hc,h6,B,Result.andThen,look,h5]
 have:vs[j]?=some e.val:=dD
 simp[xi,run_underlying ht,MapKept.run_getObj_map h1,hc,M,Result.andThen,look,h5,this]
theorem kh(o:Obj)(hb:b<w.heap.size):(setBlock w b o).heap[b]?=some o:=by simp[setBlock,hb]
theorem gu.setBlock(w:World)(b:Nat)(o:Obj):gu (· = b) w (setBlock w b o):=
 ⟨rfl,rfl,rfl,by simp[ChangeMaps.setBlock],λk _ u=>by simp only[ChangeMaps.setBlock];grind⟩
theorem n6{es:Array MapEntry}{clock:Nat}{o:Obj}(h1:w.heap[b]?=some (.map es clock)):(setObj b o).run P w=.ok () (setBlock w b o):=by
 simp[setObj,Sem.run,h1,setBlock]
theorem acV{T I E:TypeId}{v:Value}{k:Int}(h:mC w b ks vs)(ht:P.underlying T=some (.map I E))(J:P.underlying I=some (.int .i64)) :
  ∃w',(wQ T (.map (some b)) (hZ k) v).run P w=.ok () w'/\gu (· = b) w w'/\
   (match kX ks k with|some j=>mC w' b ks (vs.set j v)|none=>mC w' b (ks++[k]) (vs++[v])):=by
 have W:=h.nodup
 have M:=h.lt
 obtain⟨es,c,h1,h2,h3,h4⟩:=h
 have hc:=MapKept.run_checkKey (P:=P) (w:=w) (kt:=I) (k:=hZ k) J (by simp[IsKey]) false 9999
 rcases EL (w:=w) (k:=k) J W h3 with⟨h5,h6⟩|⟨j,e,h5,h6,U,Y⟩
 .refine⟨_,?_,gu.setBlock w b (.map (es.push ⟨hZ k,v,c⟩) (c+1)),?_⟩
  .simp[wQ,run_underlying ht,MapKept.run_getObj_map h1,hc,h6,n6 h1,Result.andThen]
  rw[h5]
  refine⟨_,_,kh _ M,MapKept.stamped_push h2 λx V e=>?_,by simp[h3],by simp[h4]⟩
  have:x.key∈es.toList.map (·.key):=oi.2 ⟨x,V,rfl⟩
  rw[h3,e]at this
  obtain⟨k',G,u⟩:=oi.1 this
  simp at u
  exact mD.1 h5 (u▸G)
 have Z:es[j]?=some e:=dD
 have O:(MY e.key (hZ k)).run P w=.ok (hZ k) w:=by
  rw[U];unfold MY;simp[Instr.sameBits]
 refine⟨_,?_,gu.setBlock w b (.map (es.modify j λe=>{e with key:=hZ k,val:=v}) c),?_⟩
 .simp[wQ,run_underlying ht,MapKept.run_getObj_map h1,hc,Y,n6 h1,Result.andThen,Z,O]
 rw[h5]
 have G:∀u,es[j]?=some u->({u with key:=hZ k,val:=v}:MapEntry).key=u.key:=λu B=>by
  grind
 refine⟨_,_,kh _ M,MapKept.stamped_modify h2 j _ (λ_ _=>rfl) (λu _ B=>G u B),?_,?_⟩
 .rw[MapKept.modify_keys j _ G,h3]
 rw[<- h4]
 apply v7
 grind
theorem acW{T u E R:TypeId}{J:Array TypeId}{k:Int}(h:mC w b ks vs)(G:J[0]?=some T)(ht:P.underlying T=some (.map u E))(B:P.underlying u=some (.int .i64)) :
  ∃w',(Builtin.delete_ J R [.map (some b),hZ k].toArray).run P w=.ok (.tuple #[]) w'/\gu (· = b) w w'/\
   (match kX ks k with|some j=>mC w' b (ks.eraseIdx j) (vs.eraseIdx j)|none=>mC w' b ks vs):=by
 have O:=h.nodup
 have I:=h.lt
 obtain⟨es,c,h1,h2,h3,h4⟩:=h
 have hc:=MapKept.run_checkKey (P:=P) (w:=w) (kt:=u) (k:=hZ k) B (by simp[IsKey]) es.isEmpty 9999
 rcases EL (w:=w) (k:=k) B O h3 with⟨h5,h6⟩|⟨j,e,h5,h6,V,U⟩
 .refine⟨_,?_,gu.setBlock w b (.map es c),?_⟩
  .simp[Builtin.delete_,G,run_underlying ht,MapKept.run_getObj_map h1,hc,h6,n6 h1,Result.andThen]
  rw[h5]
  exact⟨_,_,kh _ I,h2,h3,h4⟩
 have W:j<es.size:=dD
 refine⟨_,?_,gu.setBlock w b (.map (es.eraseIdxIfInBounds j) c),?_⟩
 .simp[Builtin.delete_,G,run_underlying ht,MapKept.run_getObj_map h1,hc,U,n6 h1,Result.andThen]
 rw[h5]
 have M:(es.eraseIdxIfInBounds j).toList=es.toList.eraseIdx j:=by
  simp_all
 refine⟨_,_,kh _ I,MapKept.stamped_erase h2 j,?_,?_⟩
 .rw[M,ChangeMaps.map_eraseIdx,h3,ChangeMaps.map_eraseIdx]
 rw[M,ChangeMaps.map_eraseIdx,h4]
theorem LF{T:TypeId}{K:Value->hM}(u:St w0 A L w)(k:∀b w',St w0 A (LD b [] []::L) w'->K (.map (some b)) w'):rJ P (Pg T none) w K:=
 ⟨_,_,rfl,k _ _ (u.new (Ext.push w (.map #[] 0)) (F:=λk=>k=w.heap.size) ⟨⟨#[],0,mj _ _,MapKept.stamped_empty 0,rfl,rfl⟩,λ_=>Iff.rfl⟩ λb hb=>by rw[hb];exact o1 _)⟩
theorem St.LG(u:St w0 A (LD b ks vs::L) w):mC w b ks vs:=by obtain⟨F,h,_⟩:=u.head;exact h.1
end
section
variable {α:Type}[Flat α] {P:Program}{w w0 w':World}{A:Nat->Prop}{L:List HP}{b:Nat}{f:Int->List α}
abbrev C0(s:SV)(x:List α):HP:=bH (ia s) x
def re(b:Nat)(f:Int->List α):HP:=pH λks=>pH λu:List SV=>pH λB:List (List α)=>fact (f=λk=>(look ks B k).getD []) (sep (LD b ks (u.map ia)) (g8 C0 u B))
def vU(w:World)(b:Nat)(f:Int->List α):Prop:=∃ks,∃u:List SV,mC w b ks (u.map ia)/\(∀(i:Nat) (k:Int) (s:SV),ks[i]?=some k->u[i]?=some s->dA (λ_=>True) w (ia s) (f k))/\∀k,k ∉ ks->f k=[]
theorem vU.ext(h:vU w b f)(e:Ext w w'):vU w' b f:=by
 obtain⟨ks,u,h1,h2,h3⟩:=h;exact⟨ks,u,h1.ext e,λi k s a c=>(h2 i k s a c).ext e,h3⟩
theorem qj{β:Type}{ks:List Int}{xs:List β}{k:Int}{i:Nat}{x:β}(u:ks.Nodup)(h1:ks[i]?=some k)(h2:xs[i]?=some x):look ks xs k=some x:=by
 unfold look;rw[sw u h1];exact h2
theorem pN{β:Type}{ks:List Int}{xs:List β}{k:Int}(h:k ∉ ks):look ks xs k=none:=by unfold look;rw[mD.2 h];rfl
theorem re.rd{F:Nat->Prop}(h:(re b f).p w F):vU w b f:=by
 obtain⟨ks,E,u,G,V,O,h1,h2,_,_⟩:=h
 refine⟨ks,E,h1.1,λi k s B J=>?_,λk B=>by rw[G];dsimp only;rw[pN B];rfl⟩
 have U:=BM h2
 have hi:i<u.length:=by have:=(kE.1 J).1;omega
 have I:u[i]?=some u[i]:=la hi
 have M:St w O [g8 C0 E u] w:=St.begin h2
 have:=M.ahL J I (Φ:=λw=>dA (λ_=>True) w (ia s) u[i]) λh=>(bH.rd h).mono λ_ _=>trivial
 rw[G];dsimp only
 rw[qj h1.1.nodup B I];exact this
theorem St.Xe(u:St w0 A (re b f::L) w):vU w b f:=by obtain⟨F,h,_⟩:=u.head;exact re.rd h
theorem vU.look{T I E:TypeId}{k:Int}(h:vU w b f)(ht:P.underlying T=some (.map I E))(J:P.underlying I=some (.int .i64))(M:oo P E (.slice none 0 0)) :
  ∃s:SV,(xi T (.map (some b)) (hZ k) false).run P w=.ok (ia s) w/\dA (λ_=>True) w (ia s) (f k):=by
 obtain⟨ks,u,h1,h2,h3⟩:=h
 have G:=zA (P:=P) (k:=k) h1 ht J M
 cases vV:kX ks k with
 | none=>
  have:Fw.look ks (u.map ia) k=none:=by unfold Fw.look;grind
  rw[this]at G
  exact⟨bX,G,by rw[h3 k (mD.1 vV)];exact dA.nil _ _⟩
 | some j=>
  have V:=ku vV
  have U:=h1.len
  have B:j<u.length:=dD
  have O:u[j]?=some u[j]:=la B
  have:Fw.look ks (u.map ia) k=some (ia u[j]):=by unfold Fw.look;grind
  grind
theorem vU.aok{T I E:TypeId}{k:Int}(h:vU w0 b f)(ht:P.underlying T=some (.map I E))(J:P.underlying I=some (.int .i64))(M:oo P E (.slice none 0 0)) :
  ∃s:SV,(∀w,Ext w0 w->(xi T (.map (some b)) (hZ k) false).run P w=.ok (ia s) w)/\dA (λ_=>True) w0 (ia s) (f k):=by
 obtain⟨ks,u,h1,h2,h3⟩:=h
 have G:∀w,Ext w0 w->_:=λw e=>zA (P:=P) (k:=k) (h1.ext e) ht J M
 cases vV:kX ks k with
 | none=>
  have:Fw.look ks (u.map ia) k=none:=by unfold Fw.look;grind
  rw[this]at G
  exact⟨bX,G,by rw[h3 k (mD.1 vV)];exact dA.nil _ _⟩
 | some j=>
  have V:=ku vV
  have U:=h1.len
  have B:j<u.length:=dD
  have O:u[j]?=some u[j]:=la B
  have:Fw.look ks (u.map ia) k=some (ia u[j]):=by unfold Fw.look;grind
  grind
theorem Hd{T u E:TypeId}{k:Int}{K:Value->Prop}(h:vU w0 b f)(e:Ext w0 w)(ht:P.underlying T=some (.map u E))(G:P.underlying u=some (.int .i64))(I:oo P E (.slice none 0 0))
  (B:∀s:SV,dA (λ_=>True) w0 (ia s) (f k)->K (ia s)):J8 P (xi T (.map (some b)) (hZ k) false) w K:=by
 obtain⟨s,h1,h2⟩:=h.aok (P:=P) (k:=k) ht G I;exact⟨_,h1 w e,B s h2⟩
def LH(b:Nat)(f:Int->List α)(k:Int)(s:SV):HP:=pH λks=>pH λB:List SV=>pH λE:List (List α)=>pH λvs:List Value=>
 fact ((∀u,u≠k->f u=(look ks E u).getD [])/\look ks vs k=(kX ks k).map (λ_=>ia s)/\(kX ks k=none->s=bX)/\vs.length=B.length/\∀(i:Nat) (u:Int),ks[i]?=some u->u≠k->vs[i]?=(B[i]?).map ia) (sep (LD b ks vs) (g8 C0 B E))
theorem St.LI{k:Int}(u:St w0 A (re b f::L) w):∃s:SV,St w0 A (bH (ia s) (f k)::LH b f k s::L) w:=by
 obtain⟨ks,u⟩:=u.eh;obtain⟨B,u⟩:=u.eh;obtain⟨E,u⟩:=u.eh;obtain⟨J,u⟩:=u.mw
 replace u:=u.split
 have V:=u.LG
 have W:=V.len
 have Y:=u.p1.iX
 have hn:=V.nodup
 rw[n0]at W
 cases vV:kX ks k with
 | none=>
  refine⟨bX,?_⟩
  have Z:look ks E k=none:=by unfold look;rw[vV];rfl
  have e:f k=[]:=by rw[J];dsimp only;rw[Z];rfl
  rw[e]
  refine(St.ek ks (St.ek B (St.ek E (St.ek (B.map ia) (St.ou ⟨λM _=>by rw[J],by unfold look;rw[vV];rfl,λ_=>rfl,by rw[n0],λi M _ _=>by rw[pd]⟩ (St.join u)))))).eM
 | some j=>
  have O:=ku vV
  have hjk:=(kE.1 O).1
  have I:B[j]?=some (B[j]'(cK)):=la _
  have G:E[j]?=some (E[j]'(cK)):=la _
  refine⟨B[j]'(cK),?_⟩
  have e:f k=E[j]'(cK):=by rw[J];dsimp only;rw[qj hn O G];rfl
  rw[e]
  have h1:=(u.p1.focus I G).p1
  have h2:=(h1.eM (α:=α)).p1
  have h3:St w0 A (C0 (bX:SV) ([]:List α)::nH C0 B E j::_::_::L) w:=h2.p1
  have h4:=h3.En cK Y
  have h5:=h4.p2
  refine(St.ek ks (St.ek (B.set j bX) (St.ek (E.set j []) (St.ek (B.map ia) (St.ou ⟨λM U=>?_,by unfold look;rw[vV];simp[I],λh=>(by cases vV.symm.trans h),ei,λi M hi U=>?_⟩ (St.join h5)))))).p1
  .rw[J];dsimp only
   unfold look
   cases hq:kX ks M with
   | none=>rfl
   | some i=>
    have:j≠i:=λe=>U (by have:=ku hq;rw[<- e,O]at this;exact(oe.inj this).symm)
    simp[this]
  .rw[pd,Fe]
   rintro rfl
   rw[O]at hi;exact U (oe.inj hi).symm
theorem St.BV{T B E:TypeId}{k:Int}{s:SV}(u:St w0 A (LH b f k s::L) w)(ht:P.underlying T=some (.map B E))(G:P.underlying B=some (.int .i64))(I:oo P E (.slice none 0 0)) :
  (xi T (.map (some b)) (hZ k) false).run P w=.ok (ia s) w:=by
 obtain⟨ks,u⟩:=u.eh;obtain⟨J,u⟩:=u.eh;obtain⟨M,u⟩:=u.eh;obtain⟨vs,u⟩:=u.eh;obtain⟨⟨_,h2,h3,_⟩,u⟩:=u.mw
 have:=zA (P:=P) (k:=k) u.split.LG ht G I
 rw[h2]at this
 cases vV:kX ks k with
 | none=>rw[vV]at this;rw[h3 vV];exact this
 | some j=>rw[vV]at this;exact this
theorem St.Xf{k:Int}{s:SV}{xs:List α}(u:St w0 A (bH (ia s) xs::LH b f k s::L) w):St w0 A (re b (pM f k xs)::L) w:=by
 replace u:=u.p1
 obtain⟨ks,u⟩:=u.eh;obtain⟨E,u⟩:=u.eh;obtain⟨I,u⟩:=u.eh;obtain⟨vs,u⟩:=u.eh;obtain⟨⟨Y,h2,h3,hvs,Xg⟩,u⟩:=u.mw
 replace u:=u.split
 have Z:=u.LG
 have hl:=Z.len
 have hn:=Z.nodup
 have Dg:=u.p1.iX
 cases vV:kX ks k with
 | none=>
  have W:=mD.1 vV
  have G:vs=E.map ia:=v7 λi=>by
   cases hi:ks[i]? with
   | none=>rw[AT]at hi;rw[mY cK,mY (by rw[n0];omega)]
   | some B=>rw[Xg i B hi (λe=>W (e▸kO hi)),pd]
  have hx:xs=[]:=by
   obtain⟨F,h,_⟩:=u.p2.head
   rw[h3 vV]at h
   rcases h with⟨_,h,_⟩|⟨b',cap,rest,h,_⟩
   .exact h
   .cases h
  subst hx
  refine St.ek ks (St.ek E (St.ek I (St.ou ?_ (St.join ?_))))
  .funext B
   unfold pM
   by_cases e:B=k
   .subst e;rw[ew rfl,pN W];rfl
   .rw[ej e,Y B e]
  .rw[<- G];exact u.p2.drop
 | some j=>
  have U:=ku vV
  have hjk:=(kE.1 U).1
  have V:E[j]?=some (E[j]'(cK)):=la _
  have M:I[j]?=some (I[j]'(cK)):=la _
  have J:vs[j]?=some (ia s):=by unfold look at h2;rw[vV]at h2;exact h2
  have h6:=((u.p1.focus V M).drop).p2
  have h7:St w0 A (C0 s xs::nH C0 E I j::_::L) w:=h6.p0
  have h8:=h7.En cK Dg
  refine St.ek ks (St.ek (E.set j s) (St.ek (I.set j xs) (St.ou ?_ (St.join ?_))))
  .funext B
   unfold pM
   by_cases e:B=k
   .subst e
    rw[ew rfl,qj hn U (x:=xs) (by rw[AQ cK])];rfl
   .rw[ej e,Y B e]
    unfold look
    cases hq:kX ks B with
    | none=>rfl
    | some i=>
     have:j≠i:=λO=>e (by have:=ku hq;rw[<- O,U]at this;exact(oe.inj this).symm)
     simp[this]
  .have e:(E.set j s).map ia=vs:=by
    apply v7
    intro i
    rw[pd]
    by_cases e:j=i
    .subst e;rw[AQ cK,J];rfl
    .rw[Fe e]
     cases hi:ks[i]? with
     | none=>rw[AT]at hi;rw[mY (show vs.length<=i by omega),mY (show E.length<=i by omega)];rfl
     | some B=>rw[Xg i B hi λO=>e (by rw[O]at hi;have h1:=sw hn hi;rw[vV]at h1;exact oe.inj h1)]
   rw[e];exact h8.p1
omit [Flat α]in
theorem TT{f:Int->List α}{k:Int}:pM f k (f k)=f:=by
 grind[pM]
theorem LJ{T Kt E:TypeId}{k:Int}{s s':SV}{xs:List α}{K:hM}(u:St w0 A (bH (ia s') xs::LH b f k s::L) w)(ht:P.underlying T=some (.map Kt E))(U:P.underlying Kt=some (.int .i64))
  (kk:∀w',St w0 A (re b (pM f k xs)::L) w'->K w'):Vf P (wQ T (.map (some b)) (hZ k) (ia s')) w K:=by
 replace u:=u.p1
 obtain⟨ks,u⟩:=u.eh;obtain⟨G,u⟩:=u.eh;obtain⟨I,u⟩:=u.eh;obtain⟨vs,u⟩:=u.eh;obtain⟨⟨hf,h2,h3,hvs,Xg⟩,u⟩:=u.mw
 replace u:=u.split
 have hm:=u.LG
 have hl:=hm.len
 have hn:=hm.nodup
 have Dg:=u.p1.iX
 obtain⟨w',r1,r2,J⟩:=acV (P:=P) (v:=ia s') (k:=k) hm ht U
 refine⟨w',r1,kk w' ?_⟩
 cases vV:kX ks k with
 | none=>
  rw[vV]at J
  have h5:St w0 A (LD b (ks++[k]) (vs++[ia s'])::_::_::L) w':=u.ry λF W=>⟨F,⟨J,W.2⟩,λb hb=>.inl hb,r2.mono λk U=>(W.2 k).2 U⟩
  have N5:=mD.1 vV
  have M:vs=G.map ia:=v7 λi=>by
   cases hi:ks[i]? with
   | none=>rw[AT]at hi;rw[mY cK,mY (by rw[n0];omega)]
   | some B=>rw[Xg i B hi (λe=>N5 (e▸kO hi)),pd]
  have h6:=h5.p1
  have Y:St w0 A (g8 C0 (G++[s']) (I++[xs])::_::L) w':=St.Em (H:=C0 (α:=α)) (p:=s') (x:=xs) h6.p2.p1
  refine St.ek (ks++[k]) (St.ek (G++[s']) (St.ek (I++[xs]) (St.ou ?_ (St.join ?_))))
  .funext B
   unfold pM
   by_cases e:B=k
   .subst e
    rw[ew rfl,qj (i:=ks.length) J.nodup ei (x:=xs) (by rw[List.getElem?_append_right cK];simp[show ks.length-I.length=0 from cK])];rfl
   .rw[ej e,hf B e]
    by_cases tj:B∈ks
    .obtain⟨i,hi,hik⟩:=D3 tj
     have O:ks[i]?=some B:=by rw[la hi,hik]
     have V:I[i]?=some (I[i]'(cK)):=la _
     rw[qj hn O V,qj (i:=i) J.nodup (by rw[tx hi];exact O) (by rw[tx cK];exact V)]
    .rw[pN tj,pN (by simp[tj,e])]
  .have e:(G++[s']).map ia=vs++[ia s']:=by rw[M,vd];rfl
   rw[e];exact Y.p1
 | some j=>
  rw[vV]at J
  have h5:St w0 A (LD b ks (vs.set j (ia s'))::_::_::L) w':=u.ry λF W=>⟨F,⟨J,W.2⟩,λb hb=>.inl hb,r2.mono λk U=>(W.2 k).2 U⟩
  have hj:=ku vV
  have hjk:=(kE.1 hj).1
  have hsj:G[j]?=some (G[j]'(cK)):=la _
  have Z:I[j]?=some (I[j]'(cK)):=la _
  have h6:=((h5.p1.focus hsj Z).drop).p2
  have Y:St w0 A (C0 s' xs::nH C0 G I j::_::L) w':=h6.p0
  have h8:=Y.En cK Dg
  refine St.ek ks (St.ek (G.set j s') (St.ek (I.set j xs) (St.ou ?_ (St.join ?_))))
  .funext B
   unfold pM
   by_cases e:B=k
   .subst e
    rw[ew rfl,qj hn hj (x:=xs) (by rw[AQ cK])];rfl
   .rw[ej e,hf B e]
    unfold look
    cases hq:kX ks B with
    | none=>rfl
    | some i=>
     have:j≠i:=λe'=>e (by have:=ku hq;rw[<- e',hj]at this;exact(oe.inj this).symm)
     simp[this]
  .have e:(G.set j s').map ia=vs.set j (ia s'):=by
    apply v7
    intro i
    rw[pd]
    by_cases e:j=i
    .subst e;rw[AQ cK,AQ cK];rfl
    .rw[Fe e,Fe e]
     cases hi:ks[i]? with
     | none=>rw[AT]at hi;rw[mY (show vs.length<=i by omega),mY (show G.length<=i by omega)];rfl
     | some B=>rw[Xg i B hi λe'=>e (by rw[e']at hi;have h1:=sw hn hi;rw[vV]at h1;exact oe.inj h1)]
   rw[e];exact h8.p1
theorem AR{T:TypeId}{K:Value->hM}(u:St w0 A L w)(k:∀b w',St w0 A (re b (λ_=>([]:List α))::L) w'->K (.map (some b)) w'):rJ P (Pg T none) w K:=
 LF u λb w' h=>k b w' (St.ek [] (St.ek [] (St.ek ([]:List (List α)) (St.ou rfl (St.join ((h.new (Ext.refl w') (H:=g8 C0 [] []) (F:=bD) (λ_ h=>h) λ_ h=>h.elim).p1))))))
theorem LK{T Kt E R:TypeId}{k:Int}{A2:Array TypeId}{K:Value->hM}(u:St w0 A (re b f::L) w)(ha:A2[0]?=some T)(ht:P.underlying T=some (.map Kt E))(U:P.underlying Kt=some (.int .i64))
  (kk:∀v w',St w0 A (re b (pM f k [])::L) w'->K v w'):rJ P (Builtin.delete_ A2 R [.map (some b),hZ k].toArray) w K:=by
 obtain⟨ks,u⟩:=u.eh;obtain⟨M,u⟩:=u.eh;obtain⟨O,u⟩:=u.eh;obtain⟨hf,u⟩:=u.mw
 replace u:=u.split
 have Y:=u.LG
 have hl:=Y.len
 have Dg:=u.p1.iX
 have hn:=Y.nodup
 rw[n0]at hl
 obtain⟨w',r1,r2,I⟩:=acW (P:=P) (R:=R) (k:=k) Y ha ht U
 refine⟨_,w',r1,kk _ w' ?_⟩
 cases vV:kX ks k with
 | none=>
  rw[vV]at I
  have h5:St w0 A (LD b ks (M.map ia)::_::L) w':=u.ry λF V=>⟨F,⟨I,V.2⟩,λb hb=>.inl hb,r2.mono λk U=>(V.2 k).2 U⟩
  refine St.ek ks (St.ek M (St.ek O (St.ou ?_ (St.join h5))))
  funext k'
  unfold pM
  by_cases e:k'=k
  .subst e;rw[ew rfl];unfold look;rw[vV];rfl
  .rw[ej e,hf]
 | some j=>
  rw[vV]at I
  have hj:=ku vV
  have hjk:=(kE.1 hj).1
  have h5:St w0 A (LD b (ks.eraseIdx j) ((M.map ia).eraseIdx j)::_::L) w':=u.ry λF V=>⟨F,⟨I,V.2⟩,λb hb=>.inl hb,r2.mono λk U=>(V.2 k).2 U⟩
  have hsj:M[j]?=some (M[j]'(cK)):=la _
  have W:O[j]?=some (O[j]'(cK)):=la _
  have h6:=(h5.p1.focus hsj W).drop.TF
  dsimp only at I
  rw[<- ChangeMaps.map_eraseIdx]at h6 I
  refine St.ek (ks.eraseIdx j) (St.ek (M.eraseIdx j) (St.ek (O.eraseIdx j) (St.ou ?_ (St.join h6.p1))))
  funext k'
  unfold pM
  by_cases e:k'=k
  .subst e
   rw[ew rfl,pN];rfl
   intro Kp
   obtain⟨i,hi,B⟩:=D3 Kp
   rw[List.getElem_eraseIdx]at B
   split at B
   .have:=sw (j:=i) hn (k:=k') (by rw[<- B];exact la _);rw[vV]at this;have:=oe.inj this;omega
   .have:=sw (j:=i+1) hn (k:=k') (by rw[<- B];exact la _);rw[vV]at this;have:=oe.inj this;omega
  .rw[ej e,hf];dsimp only
   by_cases Z:k'∈ks
   .obtain⟨i,hi,B⟩:=D3 Z
    have G:ks[i]?=some k':=by rw[la hi,B]
    have J:O[i]?=some (O[i]'(cK)):=la _
    have hij:i≠j:=λe'=>e (by rw[e',hj]at G;exact(oe.inj G).symm)
    rw[qj hn G J]
    by_cases nO:i<j
    .rw[qj (i:=i) I.nodup (by rw[Pp nO];exact G) (by rw[Pp nO];exact J)]
    .rw[qj (i:=i-1) I.nodup (by rw[Pq cK,show i-1+1=i from cK];exact G) (by rw[Pq cK,show i-1+1=i from cK];exact J)]
   .rw[pN Z,pN λh=>Z ((List.eraseIdx_sublist ks j).subset h)]
end
section
variable {α:Type}[Flat α] {P:Program}{w w0 w':World}{A S:Nat->Prop}{L:List HP}{xs ys:List α}
theorem OX{T T2 E M b o dn dc:Nat}{z:Option Nat}{R:TypeId}{src:Value}{cs:List Value}(ht:eN P T=some (E,mv α,M,z))(hb:mR w b cs)(u:dA S w src ys)
  (U:ys.length<=dn) (Z:o+ys.length*mv α<=cs.length) :
  ∃w',(Builtin.copy_ #[T,T2] R [.slice (some ⟨b,o,none⟩) dn dc,src].toArray).run P w=.ok (hZ ys.length) w'/\mR w' b (jh cs o (flat ys))/\gu (· = b) w w':=by
 obtain⟨G,V,hi,O,W,_⟩:=fp ht
 have J:=xS (α:=α) (P:=P) (sz:=mv α) rfl u
 have rd:=u
 obtain⟨Y,Ge,rfl,B,I⟩:=rd
 obtain⟨w',h1,h2,h3⟩:=mT (P:=P) (o:=o) (flat ys) 0 cs w hb (by rw[dB];omega) Ae
 refine⟨w',?_,cK,h3⟩
 simp[Builtin.copy_,run_underlying G,sizeOf,typeInfo,hi,Builtin.lenOf,Er U,J,O,h1,goInt]
theorem LL{T T2 E kD:Nat}{z:Option Nat}{R:TypeId}{v src:Value}{K:Value->hM}(J:St w0 A (bH v xs::L) w)(ht:eN P T=some (E,mv α,kD,z))(G:dA S w src ys)(B:ys.length<=xs.length)
  (k:∀w',St w0 A (bH v (ys++xs.drop ys.length)::L) w'->K (hZ ys.length) w'):rJ P (Builtin.copy_ #[T,T2] R [v,src].toArray) w K:=by
 obtain⟨U,F,U',g1,g2,g3,g4,g5⟩:=J.tQ
 rcases g1 with⟨rfl,rfl,hF⟩|⟨b,cap,rest,rfl,hb,M,hF⟩
 .obtain rfl:ys=[]:=by simpa using B
  obtain⟨hu,inf,hi,oK,wE,_⟩:=fp ht
  have O:=xS (α:=α) (P:=P) (sz:=mv α) rfl G
  obtain⟨sa,Ge,rfl,Y,hs3⟩:=G
  refine⟨_,w,?_,k w J⟩
  simp at O
  simp[Builtin.copy_,run_underlying hu,sizeOf,typeInfo,hi,Builtin.lenOf,oK,O,goInt]
 have Z:ys.length*mv α<=xs.length*mv α:=Nat.mul_le_mul_right _ B
 obtain⟨w',h1,h2,h3⟩:=OX (P:=P) (o:=0) (dn:=xs.length) (dc:=cap) (T2:=T2) (R:=R) ht hb G B (by rw[lY,dB];omega)
 refine⟨_,w',h1,k w' (J.ry λF' u=>?_)⟩
 rcases u with⟨h,_⟩|⟨b',CV,I,W,hb',hl',u⟩
 .cases h
 simp only[Value.slice.injEq,oe.injEq,Addr.mk.injEq,and_true,true_and]at W
 obtain⟨rfl,rfl⟩:=W
 refine⟨F',.inr ⟨b,cap,rest,?_,?_,?_,u⟩,λb hb=>.inl hb,h3.mono λk hk=>(u k).2 hk⟩
 .congr 1;rw[lY,qa];omega
 .have e:flat xs=[]++flat (xs.take ys.length)++flat (xs.drop ys.length):=by rw[List.nil_append,<- gF,pJ]
  have:=mn [] (flat (xs.take ys.length)) (flat (xs.drop ys.length)++rest) (flat ys) (by rw[dB,dB,l0,Er B])
  rw[List.length_nil]at this
  rw[e,n3,this]at h2
  rw[gF,n3];exact h2
 have V:(ys++xs.drop ys.length).length=xs.length:=by rw[lY,qa];omega
 exact⟨by rw[V];exact M.1,by have:=M.2;rw[lY,dB]at this |-;rw[V];exact this⟩
end
section
variable {P:Program}{w w0 w':World}{A:Nat->Prop}{L:List HP}{b r:Nat}
def He(r m since:Nat)(seen:Array Nat):HP where
 p w F:=w.heap[r]?=some (.mapIter (some m) since seen since)/\∀k,F k↔k=r
 loc w w' F h hh:=⟨(hh r ((h.2 r).2 rfl)).trans h.1,h.2⟩
 lt w F b' h hb:=dD
theorem TU{T u E:TypeId}{es:Array MapEntry}{clock:Nat}{K:Value->hM}(B:St w0 A L w)(ht:P.underlying T=some (.map u E))(hb:w.heap[b]?=some (.map es clock))
  (k:∀r w',St w0 A (He r b clock #[]::L) w'->K (.pointer (some ⟨r,0,none⟩)) w'):rJ P (Instr.range T (.map (some b))) w K:=
 ⟨_,_,run_range_map w T u E b es clock ht hb,k _ _ (B.new (Ext.push w _) (F:=λk=>k=w.heap.size) ⟨mj _ _,λ_=>Iff.rfl⟩ λb hb=>by rw[hb];exact o1 _)⟩
theorem Xh{T since:Nat}{seen:Array Nat}{es:Array MapEntry}{K:Value->hM}(u:St w0 A (He r b since seen::L) w)(hb:w.heap[b]?=some (.map es since))(hold:∀x∈es.toList,x.born<since)
  (J:(leftOf es seen).size=0->K (.tuple #[.bool false]) w)
  (I:∀e w',e∈(leftOf es seen).toList->St w0 A (He r b since (seen.push e.born)::L) w'->K (.tuple #[.bool true,e.key,e.val]) w'):rJ P (Instr.next (.pointer (some ⟨r,0,none⟩)) false T) w K:=by
 obtain⟨F,h,_⟩:=u.head
 rcases run_next_at (P:=P) w T r b since since seen es since h.1 hb hold (o1 _)with⟨h1,h2⟩|⟨e,U,E,G,h2⟩
 .exact⟨_,w,h2,J h1⟩
 have M:St w0 A (He r b since seen::L) E:=by
  rcases G with rfl|rfl
  .exact u
  .exact u.ext ⟨rfl,rfl,rfl,o1 _,λ_ _ _=>rfl⟩
 refine⟨_,_,h2,I e _ U (M.ry λF B=>⟨F,⟨kh _ (ve B.1),B.2⟩,λb hb=>.inl hb,(gu.setBlock E r _).mono λk O=>(B.2 k).2 O⟩)⟩
theorem TV{since:Nat}{seen:Array Nat}{es:Array MapEntry}{e:MapEntry}{K:Value->Prop}(E:St w0 A (He r b since (seen.push e.born)::L) w)(hb:w.heap[b]?=some (.map es since))(B:e∈es.toList)(u:(es.toList.map (·.born)).Nodup)
  (k:K (.tuple #[e.key,e.val])):J8 P (Instr.entry (.pointer (some ⟨r,0,none⟩))) w K:=by
 obtain⟨F,h,_⟩:=E.head
 exact⟨_,run_entry_at w r b since seen es since e h.1 hb B u,k⟩
theorem EM{o:Obj}(h:w.heap[b]?=some o)(e:Ext w w'):w'.heap[b]?=some o:=(e.bY b (ve h) λh=>h).trans h
theorem xg{seen:Array Nat}{x y:Nat}(h:(seen.push x).contains y=true):seen.contains y=true\/y=x:=by
 grind
theorem born_inj{es:Array MapEntry}(B:(es.toList.map (·.born)).Nodup){e u:MapEntry}(h:e∈es.toList)(E:u∈es.toList)(hb:e.born=u.born):e=u:=by
 obtain⟨i,hi,rfl⟩:=D3 h
 obtain⟨j,G,rfl⟩:=D3 E
 have:=(Zb (i:=i) (j:=j) (h₀:=by grind) (h₁:=by grind) B).1 dD
 grind
end
section
variable {P:Program}{w w0 w':World}{A:Nat->Prop}{L:List HP}{b r:Nat}
theorem bF{f:FuncId}{args:List Value}{H:HP}{H':Value->HP}{Φ:Value->hM}{K:Value->hM}(pl:Plain P f)(B:St w0 A (H::L) w)
  (hc:∀F,H.p w F->(∀w',gu F w w'->St w0 A L w')->Calls P f args.toArray w (tP λv w'=>Φ v w'/\mP F (H' v) w w')) (k:∀v w',Φ v w'->St w0 A (H' v::L) w'->K v w'):Cr P f args w K:=by
 obtain⟨U,F,I,h1,h2,h3,h4,h5⟩:=B.tQ
 refine dQ pl (hc F h1 λw' E=>⟨B.aG.trans E (λ_ h=>h) λb hb u=>(h2 b u).elim id λM=>cK,I,h5.loc λb hb=>E.bY b (h5.lt b hb) λu=>h3 b u hb⟩) λv w' ⟨J,G⟩=>k v w' J (B.Ws h2 h3 h5 G)
theorem AS{g:FuncId}{args first cap:List Value}{H:HP}{H':Value->HP}{Φ:Value->hM}{K:Value->hM}(pl:Plain P g)(B:St w0 A (H::L) w)
  (hc:∀F,H.p w F->(∀w',gu F w w'->St w0 A L w')->Calls P g (first++args++cap).toArray w (tP λv w'=>Φ v w'/\mP F (H' v) w w')) (k:∀v w',Φ v w'->St w0 A (H' v::L) w'->K v w'):kH P (.func (.func g) first.toArray cap.toArray) args w K:=by
 obtain⟨U,F,I,h1,h2,h3,h4,h5⟩:=B.tQ
 refine gT pl (hc F h1 λw' E=>⟨B.aG.trans E (λ_ h=>h) λb hb u=>(h2 b u).elim id λM=>cK,I,h5.loc λb hb=>E.bY b (h5.lt b hb) λu=>h3 b u hb⟩) λv w' ⟨J,G⟩=>k v w' J (B.Ws h2 h3 h5 G)
end
def Has(H:HP)(w:World):Prop:=∃F,H.p w F
def St.has{w w0:World}{A:Nat->Prop}{L:List HP}{H:HP}(u:St w0 A (H::L) w):Has H w:=by obtain⟨F,h,_⟩:=u.head;exact⟨F,h⟩
theorem Has.ext{H:HP}{w w':World}(h:Has H w)(e:Ext w w'):Has H w':=by
 obtain⟨F,h⟩:=h;exact⟨F,H.loc _ _ _ h λb hb=>e.bY b (H.lt _ _ _ h hb) λx=>x⟩
def Has.st{H:HP}{w:World}(h:Has H w):∃F,St w F [H] w:=by obtain⟨F,h⟩:=h;exact⟨F,St.begin h⟩
abbrev SI:=ByteArray×Int
def RU(p:SI):Value×Value:=(.string p.1,hZ p.2)
def uL(w:World)(b:Nat)(l:List SI):Prop:=
 ∃es clock,w.heap[b]?=some (.map es clock)/\Stamped es clock/\(es.toList.map λe=>(e.key,e.val)).Perm (l.map RU)
def eF:List SI->ByteArray->Int
 | [],_=>0
 | p::r,k=>if p.1=k then p.2 else eF r k
theorem uM:∀{l:List SI}{p:SI},(l.map (·.1)).Nodup->p∈l->eF l p.1=p.2
 | q::r,p,hn,hm=>by
  rw[List.map_cons,H5]at hn
  rcases sl.1 hm with rfl|hm
  .unfold eF;grind
  .have:q.1≠p.1:=λe=>hn.1 (oi.2 ⟨p,hm,e.symm⟩)
   unfold eF;rw[ej this];exact uM hn.2 hm
theorem zB:∀{l:List SI}{k:ByteArray},(∀p∈l,p.1≠k)->eF l k=0
 | [],_,_=>rfl
 | q::r,k,h=>by
  unfold eF;rw[ej (h q (List.mem_cons_self ..))];exact zB λp u=>h p (List.mem_cons_of_mem _ u)
def OY{l:List SI}{k:ByteArray}(B:(l.map (·.1)).Nodup)(E:∀p∈l,p.2≠0)(h:eF l k=0):∀p∈l,p.1≠k:=λp u e=>by
 subst e;exact E p u ((uM B u).symm.trans h)
section
variable {P:Program}{w w0 w':World}{A:Nat->Prop}{L:List HP}{b:Nat}{l:List SI}
theorem uL.of_eq(h:uL w b l)(u:w'.heap[b]?=w.heap[b]?):uL w' b l:=by
 grind[uL]
theorem uL.lt(h:uL w b l):b<w.heap.size:=by obtain⟨es,c,h1,_⟩:=h;grind
theorem uL.nodup(h:uL w b l):(l.map (·.1)).Nodup:=by
 obtain⟨es,c,_,h2,h3⟩:=h
 have h4:=(h3.map Prod.fst)
 rw[Ix,Ix]at h4
 have h5:(l.map λp=>Fa p.1).Nodup:=h4.nodup_iff.1 h2.2.2
 grind
theorem uL.perm{u:List SI}(h:uL w b l)(B:l.Perm u):uL w b u:=by
 obtain⟨es,c,h1,h2,h3⟩:=h;exact⟨es,c,h1,h2,h3.trans (B.map _)⟩
def ni(b:Nat)(l:List SI):HP where
 p w F:=uL w b l/\∀k,F k↔k=b
 loc w w' F h hh:=⟨h.1.of_eq (hh b ((h.2 b).2 rfl)),h.2⟩
 lt w F b' h hb:=by rw[(h.2 b').1 hb];exact h.1.lt
theorem Xi{es:Array MapEntry}(h3:(es.toList.map λe=>(e.key,e.val)).Perm (l.map RU)){e:MapEntry}(B:e∈es.toList):∃p∈l,e.key=.string p.1/\e.val=hZ p.2:=by
 have:(e.key,e.val)∈l.map RU:=h3.mem_iff.1 (oi.2 ⟨e,B,rfl⟩)
 obtain⟨p,E,u⟩:=oi.1 this
 unfold RU at u
 grind
theorem Xj{es:Array MapEntry}(h3:(es.toList.map λe=>(e.key,e.val)).Perm (l.map RU)){p:SI}(u:p∈l):∃e∈es.toList,e.key=.string p.1/\e.val=hZ p.2:=by
 have:RU p∈es.toList.map λe=>(e.key,e.val):=h3.mem_iff.2 (oi.2 ⟨p,u,rfl⟩)
 obtain⟨e,E,B⟩:=oi.1 this
 unfold RU at B
 grind
theorem Hf{T:TypeId}{k:ByteArray}{es:Array MapEntry}(E:P.underlying T=some .string)(h3:(es.toList.map λe=>(e.key,e.val)).Perm (l.map RU)) :
  ((∀p∈l,p.1≠k)/\(QQ T (.string k) es.toList).run P w=.ok none w)\/∃j p,p∈l/\p.1=k/\(QQ T (.string k) es.toList).run P w=.ok (some (j,hZ p.2)) w:=by
 rcases MapKept.findNow_spec (d:=.string) (k:=.string k) (by simp[IsKey]) es.toList 0 (λx G=>by obtain⟨p,_,e,_⟩:=Xi h3 G;rw[e];simp[IsKey])with⟨h1,h2⟩|⟨j,e,h1,h2,h4⟩
 .refine .inl ⟨λp B e=>?_,MapKept.run_findKey E h1⟩
  obtain⟨x,G,u,_⟩:=Xj h3 B
  grind
 obtain⟨p,B,u,I⟩:=Xi h3 (kO h2)
 rw[h4]at u;injection u with u
 refine .inr ⟨j,p,B,u.symm,?_⟩
 rw[tW,I]at h1
 exact MapKept.run_findKey E h1
theorem LM{T G E:TypeId}{k:ByteArray}(h:uL w b l)(ht:P.underlying T=some (.map G E))(I:P.underlying G=some .string)(u:oo P E (hZ 0)) :
  (xi T (.map (some b)) (.string k) false).run P w=.ok (hZ (eF l k)) w:=by
 have M:=h.nodup
 obtain⟨es,c,h1,h2,h3⟩:=h
 have B:(zeroValue E).run P w=.ok (hZ 0) w:=by
  unfold oo ep at u
  cases hi:P.info? E with
  | none=>grind
  | some i=>
   rw[hi]at u
   simp only[D4,oe.injEq]at u
   refine fY ?_ w
   unfold zeroValue;rw[cX,ml hi];simp only[mO,u];rfl
 have hc:=MapKept.run_checkKey (P:=P) (w:=w) (kt:=G) (k:=.string k) I (by simp[IsKey]) es.isEmpty 9999
 rcases Hf (w:=w) (k:=k) I h3 with⟨h5,h6⟩|⟨j,p,h5,h6,J⟩
 .simp[xi,run_underlying ht,MapKept.run_getObj_map h1,hc,h6,B,Result.andThen,zB h5]
 subst h6
 simp[xi,run_underlying ht,MapKept.run_getObj_map h1,hc,J,Result.andThen,uM M h5]
theorem LN{T u E:TypeId}{v:Int}{k:ByteArray}(h:uL w b l)(ht:P.underlying T=some (.map u E))(B:P.underlying u=some .string)(U:∀p∈l,p.1≠k) :
  ∃w',(wQ T (.map (some b)) (.string k) (hZ v)).run P w=.ok () w'/\gu (· = b) w w'/\uL w' b (l++[(k,v)]):=by
 have I:=h.lt
 obtain⟨es,c,h1,h2,h3⟩:=h
 have hc:=MapKept.run_checkKey (P:=P) (w:=w) (kt:=u) (k:=.string k) B (by simp[IsKey]) false 9999
 rcases Hf (w:=w) (k:=k) B h3 with⟨h5,h6⟩|⟨j,p,h5,h6,J⟩
 .refine⟨_,?_,gu.setBlock w b (.map (es.push ⟨.string k,hZ v,c⟩) (c+1)),?_⟩
  .simp[wQ,run_underlying ht,MapKept.run_getObj_map h1,hc,h6,n6 h1,Result.andThen]
  refine⟨_,_,kh _ I,MapKept.stamped_push h2 λx G e=>?_,?_⟩
  .obtain⟨p,M,O,_⟩:=Xi h3 G
   grind
  rw[Xa,vd,vd]
  exact h3.append (List.Perm.refl _)
 grind
theorem LO{T:TypeId}{K:Value->hM}(u:St w0 A L w)(k:∀b w',St w0 A (ni b []::L) w'->K (.map (some b)) w'):rJ P (Pg T none) w K:=
 ⟨_,_,rfl,k _ _ (u.new (Ext.push w (.map #[] 0)) (F:=λk=>k=w.heap.size) ⟨⟨#[],0,mj _ _,⟨ei,ei,ei⟩,ei⟩,λ_=>Iff.rfl⟩ λb hb=>by rw[hb];exact o1 _)⟩
theorem St.ni(u:St w0 A (ni b l::L) w):uL w b l:=by obtain⟨F,h,_⟩:=u.head;exact h.1
theorem yd{T u E:TypeId}{k:ByteArray}{K:Value->Prop}(h:uL w b l)(ht:P.underlying T=some (.map u E))(G:P.underlying u=some .string)(I:oo P E (hZ 0))(B:K (hZ (eF l k))):J8 P (xi T (.map (some b)) (.string k) false) w K:=
 ⟨_,LM h ht G I,B⟩
theorem LP{T B E:TypeId}{v:Int}{k:ByteArray}{K:hM}(G:St w0 A (Fw.ni b l::L) w)(ht:P.underlying T=some (.map B E))(u:P.underlying B=some .string)(M:∀p∈l,p.1≠k)
  (J:∀w',St w0 A (Fw.ni b (l++[(k,v)])::L) w'->K w'):Vf P (wQ T (.map (some b)) (.string k) (hZ v)) w K:=by
 obtain⟨w',h1,h2,h3⟩:=LN (P:=P) (v:=v) (k:=k) G.ni ht u M
 exact⟨w',h1,J w' (G.ry λF I=>⟨F,⟨h3,I.2⟩,λb hb=>.inl hb,h2.mono λk u=>(I.2 k).2 u⟩)⟩
theorem key_inj{es:Array MapEntry}(B:(es.toList.map (·.key)).Nodup){e u:MapEntry}(h:e∈es.toList)(E:u∈es.toList)(hb:e.key=u.key):e=u:=by
 obtain⟨i,hi,rfl⟩:=D3 h
 obtain⟨j,G,rfl⟩:=D3 E
 have:=(Zb (i:=i) (j:=j) (h₀:=by grind) (h₁:=by grind) B).1 dD
 grind
theorem Xk{l:List SI}(u:(l.map (·.1)).Nodup){p q:SI}(B:p∈l)(E:q∈l)(h:p.1=q.1):p=q:=by
 have h1:=uM u B
 have h2:=uM u E
 grind
end
open Go.MapKept (IsKey)
section
variable {P:Program}{w w':World}{b:Nat}{l:List ByteArray}
def I3(w:World)(b:Nat)(l:List ByteArray):Prop:=
 ∃es clock,w.heap[b]?=some (.map es clock)/\(es.toList.map λe=>(e.key,e.val))=l.map λs=>(Fa s,wA true)
theorem LQ{T J E:TypeId}{k:ByteArray}(h:I3 w b l)(ht:P.underlying T=some (.map J E))(I:P.underlying J=some .string)(B:oo P E (.bool false)) :
  (xi T (.map (some b)) (.string k) false).run P w=.ok (.bool (l.any λy=>decide (y=k))) w:=by
 obtain⟨es,c,h1,h2⟩:=h
 have G:(zeroValue E).run P w=.ok (.bool false) w:=by
  unfold oo ep at B
  cases hi:P.info? E with
  | none=>grind
  | some i=>
   rw[hi]at B
   simp only[D4,oe.injEq]at B
   refine fY ?_ w
   unfold zeroValue;rw[cX,ml hi];simp only[mO,B];rfl
 have hc:=MapKept.run_checkKey (P:=P) (w:=w) (kt:=J) (k:=.string k) I (by simp[IsKey]) es.isEmpty 9999
 have mem:∀e∈es.toList,∃s∈l,e.key=.string s/\e.val=.bool true:=λe O=>by
  have:(e.key,e.val)∈l.map λs=>(Fa s,wA true):=dD
  grind
 rcases MapKept.findNow_spec (d:=.string) (k:=.string k) (by simp[IsKey]) es.toList 0 (λx V=>by obtain⟨p,_,e,_⟩:=mem x V;rw[e];simp[IsKey])with⟨h3,h4⟩|⟨j,e,h3,h4,h5⟩
 .have:(l.any λy=>decide (y=k))=false:=by
   rw[zJ]
   intro s M
   have:(Fa s,wA true)∈es.toList.map λe=>(e.key,e.val):=by rw[h2];exact oi.2 ⟨s,M,rfl⟩
   obtain⟨e,O,u⟩:=oi.1 this
   simp only[Prod.mk.injEq]at u
   intro h
   exact h4 e O (by rw[u.1,gO h])
  rw[this]
  simp[xi,run_underlying ht,MapKept.run_getObj_map h1,hc,MapKept.run_findKey I h3,G,Result.andThen]
 obtain⟨s,M,u,U⟩:=mem e (kO h4)
 rw[h5]at u;injection u with u
 have:(l.any λy=>decide (y=k))=true:=wY.2 ⟨s,M,ez u.symm⟩
 rw[this]
 rw[tW,U]at h3
 simp[xi,run_underlying ht,MapKept.run_getObj_map h1,hc,MapKept.run_findKey I h3,Result.andThen]
theorem LR{T u E:TypeId}{k:ByteArray}{K:Value->Prop}(h:I3 w b l)(ht:P.underlying T=some (.map u E))(G:P.underlying u=some .string)(I:oo P E (.bool false))(B:K (.bool (l.any λy=>decide (y=k)))):J8 P (xi T (.map (some b)) (.string k) false) w K:=
 ⟨_,LQ h ht G I,B⟩
end
section
variable {P:Program}{w w0 w':World}{A:Nat->Prop}{L:List HP}{b:Nat}{l:List ByteArray}
theorem I3.lt(h:I3 w b l):b<w.heap.size:=by obtain⟨es,c,h1,_⟩:=h;grind
def OZ(b:Nat)(l:List ByteArray):HP where
 p w F:=I3 w b l/\∀k,F k↔k=b
 loc w w' F h hh:=⟨by grind[I3],h.2⟩
 lt w F b' h hb:=by rw[(h.2 b').1 hb];exact h.1.lt
theorem Xl{T:TypeId}{K:Value->hM}(u:St w0 A L w)(k:∀b w',St w0 A (OZ b []::L) w'->K (.map (some b)) w'):rJ P (Pg T none) w K:=
 ⟨_,_,rfl,k _ _ (u.new (Ext.push w (.map #[] 0)) (F:=λk=>k=w.heap.size) ⟨⟨#[],0,mj _ _,rfl⟩,λ_=>Iff.rfl⟩ λb hb=>by rw[hb];exact o1 _)⟩
theorem Xm{T J E:TypeId}{k:ByteArray}{K:hM}(B:St w0 A (OZ b l::L) w)(ht:P.underlying T=some (.map J E))(G:P.underlying J=some .string)(Y:∀s∈l,s≠k)
  (O:∀w',St w0 A (OZ b (l++[k])::L) w'->K w'):Vf P (wQ T (.map (some b)) (.string k) (.bool true)) w K:=by
 have I:∃w',(wQ T (.map (some b)) (.string k) (.bool true)).run P w=.ok () w'/\gu (· = b) w w'/\I3 w' b (l++[k]):=by
  obtain⟨F,h,_⟩:=B.head
  have W:=h.1.lt
  obtain⟨es,c,h1,h2⟩:=h.1
  have mem:∀e∈es.toList,∃s∈l,e.key=.string s:=λe U=>by
   have:(e.key,e.val)∈l.map λs=>(Fa s,wA true):=by rw[<- h2];exact oi.2 ⟨e,U,rfl⟩
   obtain⟨s,B,u⟩:=oi.1 this
   simp only[Prod.mk.injEq]at u
   exact⟨s,B,u.1.symm⟩
  have hc:=MapKept.run_checkKey (P:=P) (w:=w) (kt:=J) (k:=.string k) G (by simp[IsKey]) false 9999
  rcases MapKept.findNow_spec (d:=.string) (k:=.string k) (by simp[IsKey]) es.toList 0 (λx V=>by obtain⟨p,_,e⟩:=mem x V;rw[e];simp[IsKey])with⟨h3,h4⟩|⟨j,e,h3,h4,h5⟩
  .have h6:=MapKept.run_findKey (P:=P) (w:=w) G h3
   refine⟨_,?_,gu.setBlock w b (.map (es.push ⟨.string k,.bool true,c⟩) (c+1)),_,_,kh _ W,?_⟩
   .simp[wQ,run_underlying ht,MapKept.run_getObj_map h1,hc,h6,n6 h1,Result.andThen]
   .rw[Xa,vd,vd,h2];rfl
  .obtain⟨s,B,u⟩:=mem e (kO h4)
   rw[h5]at u;injection u with u
   exact absurd u.symm (Y s B)
 obtain⟨w',h1,h2,h3⟩:=I
 exact⟨w',h1,O w' (B.ry λF M=>⟨F,⟨h3,M.2⟩,λb hb=>.inl hb,h2.mono λk G=>(M.2 k).2 G⟩)⟩
theorem St.OZ(u:St w0 A (Fw.OZ b l::L) w):I3 w b l:=by obtain⟨F,h,_⟩:=u.head;exact h.1
theorem LS{f : FuncId}{u : Func}{e : Array Value -> Sem Value}{args : List Value}{v : Value}{K : Value -> World -> Prop}(E : P.funcs[f]?=some u)(hb : (u.name == "runtime.NumGoroutine")=false /\ u.body.isNone=true /\ Extern.findNext u=none)(G : Extern.find u=some e)
  (B:pr P (e args.toArray)=some v) (k:K v w):Cr P f args w K:=by
 refine⟨.inr ⟨v,w,?_,k⟩⟩
 show(match P.funcs[f]? with|none=>_|some u=>_:Sem Next).run P w=_
 rw[E]
 simp only[hb.1,hb.2.1,hb.2.2,G]
 have:=fY B w
 simp_all
theorem O0{T:Nat}{s:ByteArray}{i:Int}{K:Value->Prop}(u:P.underlying T=some .string)(B:0<=i)(h1:i<=s.size)(k:K (.string (s.extract i.toNat s.size))):eR P (n4 T (.string s) (some (hZ i)) none none) K:=by
 refine⟨_,?_,k⟩
 unfold n4
 rw[cX,cZ u]
 simp only[mO]
 unfold Instr.slice
 rw[cX,cZ u]
 simp only[mO]
 rw[ej ee]
 have hb:pr P (vw false s.size s.size (some (hZ i)) none none)=some (i.toNat,s.size,s.size):=by
  simp only[vw,cX,fQ,mO]
  rw[jl B cK];rfl
 rw[cX,hb];rfl
theorem I4(s:ByteArray)(i j:Nat):iN (s.extract i j)=((iN s).drop i).take (j-i):=by
 simp_all[iN]
theorem RV{s t:ByteArray}(h:iN s=iN t):s=t:=by
 cases s;cases t
 exact gN kp (Array.toList_inj.1 h)
def Gk:List UInt8->UInt8->Option Nat
 | [],_=>none
 | x::r,c=>if x=c then some 0 else(Gk r c).map (· + 1)
def EN(l:List UInt8)(c:UInt8):Int:=match Gk l c with|some k=>(k:Int)|none=>-1
theorem Hg(l:List UInt8)(c:UInt8)(g:Nat->Bool):∀(r:List UInt8) (o:Nat),(∀j x,r[j]?=some x->g (o+j)=(x == c))->(List.range' o r.length).find? g=(Gk r c).map (o + ·)
 | [],o,h=>rfl
 | x::r,o,h=>by
  have u:=h 0 x rfl
  rw[List.length_cons,List.range'_succ,List.find?_cons,show g o=(x == c)from u]
  unfold Gk
  by_cases e:x=c
  .grind
  .rw[ej e,show(x == c)=false from beq_eq_false_iff_ne.2 e]
   show List.find? g _=_
   rw[Hg l c g r (o+1) λj x B=>by rw[show o+1+j=o+(j+1)from cK];simp_all]
   rw[Option.map_map]
   congr 1;grind
theorem ah5(s:ByteArray)(c:UInt8):pr P (Extern.BytealgIndexByte.indexByte #[.string s,.int .u8 (c.toNat:Int)])=some (hZ (EN (iN s) c)):=by
 have E:Extern.BytealgIndexByte.indexByte #[.string s,.int .u8 (c.toNat:Int)]=(do let b <- Extern.Bytes.bytesOf (.string s);let d <- Extern.Bytes.asByte (.int .u8 (c.toNat:Int));match (uT b.size).find? λi=>b[i]! == d with|some i=>pure (goInt i)|none=>pure (goInt (-1))):=rfl
 have hc:(Extern.Bytes.asByte (.int .u8 (c.toNat:Int)))=pure c:=by
  show pure ((c.toNat:Int).toNat.toUInt8)=_
  simp_all
 have hb:(Extern.Bytes.bytesOf (.string s))=pure s:=rfl
 have B:(uT s.size).find? (λi=>s[i]! == c)=Gk (iN s) c:=by
  have:=Hg (iN s) c (λi=>s[i]! == c) (iN s) 0 λj x u=>by
   rw[RE]at u
   grind
  rw[eV]at this
  rw[List.range_eq_range',this]
  simp_all
 rw[E]
 simp only[hc,hb,cX,fQ,mO,B]
 unfold EN
 cases Gk (iN s) c<;>rfl
theorem Xn(l:List UInt8)(c:UInt8):0<=EN l c↔l.any (λb=>decide (b=c))=true:=by
 unfold EN
 induction l with
 | nil=>exact⟨λh=>absurd (show(0:Int)<=-1 from h) ee,λh=>by cases h⟩
 | cons x r u=>
  rw[List.any_cons]
  unfold Gk
  by_cases e:x=c
  .rw[ew e,ez e];exact⟨λ_=>rfl,λ_=>by show(0:Int)<=((0:Nat):Int);omega⟩
  .rw[ej e,fN e,Bool.false_or,<- u]
   cases Gk r c with
   | none=>exact Iff.rfl
   | some k=>exact⟨λ_=>by show(0:Int)<=(k:Int);omega,λ_=>by show(0:Int)<=((k+1:Nat):Int);omega⟩
end
end Go.Fw
namespace Go.Proofs.YtpdlpabnlkofmaaGreatDoor
open Go.Fw
variable (w:World) (K:Value->hM)
def S335(J I Z M:Value):Prop:=
 bB .eql 3 M (i 0) λa=>cV a (K (.slice none 0 0) w) (eR hH (kj .eql 9 false true I (Go.Value.string (kp (#[])))) λb=>cV b (cF 338 [J,M] w λc d=>
 K c d) (fe (λW=>bB .lss 3 M (i 0) λe=>cV e (cF 339 [J,I] w λf g=>bB .add 3 f (i 1) λh=>W h g) (W M w)) (λU j=>∀_:Env,
 lN 9 J λk=>bB .add 3 k (i 1) λl=>eR hH (Builtin.min_ #[3,3] 3 [U,l].toArray) λn=>rJ hH (Instr.makeSlice 91 n n) j λo p=>bB .sub 3 n (i 1) λq=>
 GG (λK2=>px (λV G B r=>∀_:Env,
 bA .lss 3 B q λs=>cV s (cF 337 [G,I] r λt u=>bB .lss 3 t (i 0) λv=>cV v (K2 G B u) (bA .add 3 t Z λx=>eR hH (n4 9 G none (some x) none) λy=>
 iA 91 o B λz=>sA 9 z y u λaa=>lN 9 I λab=>bA .add 3 t ab λac=>eR hH (n4 9 G (some ac) none none) λad=>bB .add 3 B (i 1) λae=>V ad ae aa)) (
 K2 G B r)) λV=>V J (i 0) p) (λO E af=>∀_:Env,
 iA 91 o E λag=>sA 9 ag O af λY=>bB .add 3 E (i 1) λai=>eR hH (n4 91 o none (some ai) none) λaj=>K aj Y))))
theorem acY(E B G u:Value)(h:S335 w K E B G u):CR 335 [E,B,G,u] w K:=
 qO 66 (λ_=>.nil) 256 [.tmp 8] Tryz.func335 h
theorem aol:PL 280:=dJ Tryz.func280
theorem aom:PL 308:=dJ Tryz.func308
theorem aon:PL 335:=dJ Tryz.func335
theorem aoo:PL 339:=dJ Tryz.func339
theorem agh:PL 337:=dJ Tryz.func337
theorem aop:PL 344:=dJ Tryz.func344
end Go.Proofs.YtpdlpabnlkofmaaGreatDoor
namespace Go.Proofs.YtpdlpabnlkofmaaGreatDoor
open Go.Fw
def C344(s:ByteArray)(c:UInt8)(w:World):CR 344 [.string s,.int .u8 (c.toNat:Int)] w (λv w'=>v=hZ (EN (iN s) c)/\Ext w w'):=by
 have u:=St.start w;refine eX Tryz.func344 ?_;exact LS Tryz.func349 ⟨by kernel_rfl,by kernel_rfl,by kernel_rfl⟩ (by kernel_rfl) (ah5 s c) ⟨rfl,u.aG⟩
def I5(c:UInt8):ByteArray:=⟨#[c]⟩
def C340(s:ByteArray)(c:UInt8)(w:World):CR 340 [.string s,.string (I5 c)] w (λv w'=>v=hZ (EN (iN s) c)/\Ext w w'):=by
 have u:=St.start w;refine eX Tryz.func340 ?_;refine fh ik ?_;refine⟨λB w'=>B=.bool (decide (I5 c=s))/\w'=w,?_,?_⟩
 .exact aH (aC (λh=>absurd (show(1:Int)=0 from h) ee) λ_=>jG ⟨rfl,rfl⟩)
 rintro _ _ ⟨rfl,rfl⟩ _;refine aC (λh=>?_) (λ_=>?_)
 .subst h;exact⟨gN (nf .i64) (show(0:Int)=EN [c] c by unfold EN Gk;rw[ew rfl];rfl),u.aG⟩
 exact aH (aC (λ_=>jW (s:=I5 c) (e:=c) ik ee rfl (aV aop u (C344 s c _) λ_ _ u=>⟨rfl,u.aG⟩)) λh=>absurd (show(1:Int)=1 from rfl) h)
def C337(s:ByteArray)(c:UInt8)(w:World):CR 337 [.string s,.string (I5 c)] w (λv w'=>v=hZ (EN (iN s) c)/\Ext w w'):=by
 have u:=St.start w;refine eX Tryz.func337 ?_;exact aV ⟨_,Tryz.func340,by kernel_rfl,by kernel_rfl⟩ u (C340 s c _) (λ_ _ u=>⟨rfl,u.aG⟩)
def kwT:ByteArray:=⟨#[108,105,110,101,32,118,111,108,32,108,111,99,107,32,116,104,114,101,97,100,32,114,101,103,32,108,111,97,100,32,115,116,111,114,101,32,99,97,115,32,102,108,117,115,104,32,111,112,116,32,115,102,101,110,99,101,32,109,102,101,110,99,101,32,116,97,107,101,32,103,105,118,101,32,105,102,32,101,108,115,101,32,108,111,111,112,32,98,114,101,97,107,32,99,104,101,99,107,32,114,101,99,111,118,101,114,32,97,108,119,97,121,115]⟩
def kwl:List UInt8:=iN kwT
def kwo(k:Nat):Nat:=(jR.take k).foldl (λn x=>n+x.size+1) 0
def TW(k:Nat):ByteArray:=kwT.extract (kwo k) kwT.size
def zV(k:Nat):ByteArray:=jR.getD k ⟨#[]⟩
def aoq(k:Nat):Bool:=decide (Gk (kwl.drop (kwo k)) 32=some (zV k).size)&&(decide ((kwl.drop (kwo k)).take (zV k).size=iN (zV k))&&(decide (kwo (k+1)=kwo k+((zV k).size+1))&&decide (kwo k+(zV k).size+1<=kwl.length)))
def acZ:(uT 20).all aoq=true:=by decide +kernel
theorem LU(k:Nat):iN (TW k)=kwl.drop (kwo k):=by
 unfold TW kwl
 rw[I4]
 exact kW (by rw[qa,eV];omega)
def ah7(k:Nat)(h:k<20):EN (iN (TW k)) 32=(zV k).size/\(zV k).size+1<=(TW k).size/\(TW k).extract 0 (zV k).size=zV k/\(TW k).extract ((zV k).size+1) (TW k).size=TW (k+1):=by
 have:=List.all_eq_true.1 acZ k (K0.2 h)
 unfold aoq at this
 simp only[n5,decide_eq_true_eq]at this
 obtain⟨h1,h2,h3,h4⟩:=this
 have u:(TW k).size=kwl.length-kwo k:=by rw[<- eV,LU,qa]
 refine⟨by rw[LU];unfold EN;rw[h1],cK,RV ?_,RV ?_⟩
 .rw[I4,LU,P0,Nat.sub_zero];exact h2
 rw[I4,LU,LU,sW,h3]
 exact kW dD
def kwB(k:Nat):(zV k).size<=100:=by
 by_cases h:k<21
 .exact(by decide +kernel:∀k,k<21->(zV k).size<=100) k h
 unfold zV;rw[ob,mY (show jR.length<=k from Nat.le_of_not_lt h)];decide
def aor:∀k,k<21->∀s∈jR.take k,s≠zV k:=by decide +kernel
theorem Xp{k:Nat}(h:k<21):jR[k]?=some (zV k):=by simp_all[jR,zV]
theorem ah8{k:Nat}(h:k<21):(jR.take k++qW (21-k) (⟨#[]⟩:ByteArray)).set k (zV k)=(jR.take (k+1)++qW (21-(k+1)) (⟨#[]⟩:ByteArray)):=by
 have u:(jR.take k).length=k:=by rw[l0];exact Er (Xo h)
 rw[List.set_append_right _ _ cK,u,Nat.sub_self,show 21-k=(21-(k+1))+1 from cK,List.replicate_succ,List.set_cons_zero,ta,Xp h,n3]
 rfl
theorem I6{k:Nat}(h:k<21):(jR.take k++qW (21-k) (⟨#[]⟩:ByteArray)).length=21:=by
 rw[lY,l0,List.length_replicate,Er (show k<=jR.length from Xo h)];omega
def C339(w:World):CR 339 [.string kwT,.string (I5 32)] w (λv w'=>v=hZ 20/\Ext w w'):=by
 have u:=St.start w;refine eX Tryz.func339 ?_;exact fh ik (aH (aC (λh=>absurd (show(1:Int)=0 from h) ee) λ_=>fh ik (aH (aC (λ_=>jW (s:=I5 32) (e:=32) ik ee rfl (LS (e:=Extern.BytealgCount.count) (v:=hZ 20) Tryz.func343 ⟨by kernel_rfl,by kernel_rfl,by kernel_rfl⟩ (by kernel_rfl) (by kernel_rfl) ⟨rfl,u.aG⟩)) λh=>absurd (show(1:Int)=1 from rfl) h))))
def C335(w:World):CR 335 [.string kwT,.string (I5 32),hZ 0,hZ (-1)] w (λv w'=>lg (bH v jR) w w'):=by
 have u:=St.start w;refine acY _ _ _ _ _ _ ?_;unfold S335;refine aH (aC (λh=>absurd h ee) λ_=>jG (aC (λh=>absurd h ee) λ_=>?_));refine⟨λO w'=>O=hZ 21/\St w bD [] w',?_,?_⟩
 .exact aR (aC (λ_=>aV aoo u (C339 _) λ_ _ u=>aN ee ⟨rfl,u⟩) λh=>absurd ee h)
 rintro _ _ ⟨rfl,u⟩ _;refine fh ik (aN ee (rA ?_));rw[show min (21:Int) ((kwT.size:Int)+1)=21 from ee];refine wG (⟨#[]⟩:ByteArray) u iy afH ee ee ee (λB _ u=>fg ee ?_);refine⟨λs y w'=>s=.string (TW 20)/\y=hZ 20/\St w bD [bH B (jR.take 20++qW (21-20) (⟨#[]⟩:ByteArray))] w',?_,?_⟩
 .refine⟨λG s y w'=>∃k:Nat,s=.string (TW k)/\y=hZ (k:Int)/\G=20-k/\k<=20/\St w bD [bH B (jR.take k++qW (21-k) (⟨#[]⟩:ByteArray))] w',⟨_,0,gN Fa ee,rfl,rfl,l1 _,u⟩,?_⟩;rintro G _ _ _ ⟨k,rfl,rfl,rfl,V,u⟩ _;refine aR (aC (λU=>?_) λU=>?_);rotate_left
  .obtain rfl:k=20:=cK
   exact⟨rfl,rfl,u⟩
  obtain⟨J,W,I,M⟩:=ah7 k cK;refine aV agh u (C337 (TW k) 32 _) (λ_ Y u=>?_);rw[J];refine aR (aC (λh=>absurd h cK) λ_=>aN (show -9223372036854775808<=((zV k).size:Int)+0/\((zV k).size:Int)+0<=9223372036854775807 by have:=kwB k;omega) (nW ik cK cK ?_));rw[show(((zV k).size:Int)+0).toNat=(zV k).size from cK,I];refine dR u iy cK (by rw[I6 cK];omega) (λq E=>js (zV k) u gv E (by rw[I6 cK];omega) λ_ u=>?_);rw[pQ,ah8 cK]at u;refine fh ik (aN (show -9223372036854775808<=((zV k).size:Int)+1/\((zV k).size:Int)+1<=9223372036854775807 by have:=kwB k;omega) (O0 ik (show(0:Int)<=((zV k).size:Int)+1 by omega) (show((zV k).size:Int)+1<=_ by omega) ?_))
  rw[show((zV k).size:Int)+(((I5 32).size:Nat):Int)=((zV k).size:Int)+1 from rfl,show(((zV k).size:Int)+1).toNat=(zV k).size+1 from cK,M];exact aN cK ⟨_,cK,k+1,rfl,rfl,rfl,cK,u⟩
 rintro _ _ _ ⟨rfl,rfl,u⟩ _;exact dR u iy ee (by rw[I6 ee];decide) (λ_ E=>js (TW 20) u gv E (by rw[I6 ee];decide) λ_ u=>aN ee (sf iy u ee ee λ_ u=>u.fresh))
def C308(w:World):CR 308 [.string kwT,.string (I5 32)] w (λv w'=>lg (bH v jR) w w'):=by
 have u:=St.start w;refine eX Tryz.func308 ?_;exact dT aon u (C335 _) (λ_ _ _ u=>u.fresh)
def C280(w:World):CR 280 [] w (λv w'=>∃b,v=.map (some b)/\I3 w' b jR/\Ext w w'):=by
 have u:=St.start w;refine eX Tryz.func280 ?_;refine Xl u (λb _ u=>dT aom u (C308 _) λI _ M u=>aK iy u.dX ?_);refine⟨λE y w'=>∃k:Nat,y=hZ (k:Int)/\E=21-k/\k<=21/\St w bD [OZ b (jR.take k),bH I jR] w',⟨_,0,rfl,rfl,l1 _,u.p1⟩,?_⟩;rintro E _ _ ⟨k,rfl,rfl,O,u⟩ _;refine aR (aC (λB=>?_) λB=>?_);rotate_left
 .obtain rfl:k=21:=by have h:¬ (k:Int)<21:=B;omega
  exact⟨b,rfl,u.OZ,u.aG⟩
 have G:k<21:=by have h:(k:Int)<21:=B;omega
 refine aO iy u.p1.dX cK (Xp (show((k:Nat):Int).toNat<21 by omega)) (λq J=>aD gv J ?_);rw[pQ];refine Xm u Tryz.underlying329 ik (aor k G) (λ_ u=>aN cK ?_);refine⟨_,cK,k+1,rfl,rfl,cK,?_⟩;rw[ta,Xp G];exact u
def FnU(w:World)(f:Value)(g:UInt8->Bool):Prop:=∃B first cap,f=.func (.func B) (N2 first) (N2 cap)/\Plain hH B/\
 ∀(c:UInt8) u,Ext w u->Calls hH B (first++[nf .u8 c.toNat]++cap).toArray u (tP λv E=>v=.bool (g c)/\Ext u E)
def ac0{g:UInt8->Bool}{l:List UInt8}{k:Nat}(B:∀y∈l.take k,g y=true)(u:k<=l.length)(h:(match l[k]? with|some c=>g c|none=>false)=false):k=l.length↔l.all g=true:=by
 grind
def xh(s:ByteArray):Bool:=decide (s.size<1\/16<s.size)||(match (iN s)[0]? with|some c=>!gz c.toNat|none=>true)||jR.any (λy=>decide (y=s))
def Xq{s:ByteArray}(h:xh s=false):s.size<=1048576:=by
 unfold xh at h
 grind
def Xr{s:ByteArray}(h:xh s=true):gJ s=false:=by
 show(!(xh s)&&_)=false
 rw[h];rfl
def Xs{s:ByteArray}{n:Nat}(h:xh s=false)(u:n=(iN s).length↔(iN s).all (λc=>gz c.toNat||kq c.toNat)=true):decide ((n:Int)=(s.size:Int))=gJ s:=by
 show _=(!(xh s)&&!(iN s).any λc=>!gz c.toNat&&!kq c.toNat)
 rw[h,Bool.not_false,yk,<- eV]
 grind
theorem ah9{s:ByteArray}(h:s.size=0):s=kp #[]:=by
 cases s with
 | mk a=>cases a with
  | mk l=>cases l with
   | nil=>rfl
   | cons x r=>simp[abh]at h
def C234(c:Int)(w:World):CR 234 [.int .u8 c] w (λv w'=>v=.bool (gz c)/\Ext w w'):=by
 have B:=St.start w;refine eX Tryz.func234 ?_;refine⟨λE w'=>E=.bool (decide (97<=c/\c<=122\/c=95))/\w=w',AA (aC (λ_=>Az (aC (λ_=>⟨N1 cK,rfl⟩) λ_=>nG ⟨yB cK,rfl⟩)) λ_=>nG ⟨yB cK,rfl⟩),?_⟩;rintro _ _ ⟨rfl,u⟩ _;subst u;exact⟨rfl,B.aG⟩
def C238(c:Int)(w:World):CR 238 [.int .u8 c] w (λv w'=>v=.bool (kq c)/\Ext w w'):=by
 have B:=St.start w;refine eX Tryz.func238 ?_;refine⟨λE w'=>E=.bool (decide (48<=c/\c<=57))/\w=w',AA (aC (λ_=>Az ⟨yB cK,rfl⟩) λ_=>⟨jvF cK,rfl⟩),?_⟩;rintro _ _ ⟨rfl,u⟩ _;subst u;exact⟨rfl,B.aG⟩
def C237(c:Int)(w:World):CR 237 [.int .u8 c] w (λv w'=>v=.bool (gz c||kq c)/\Ext w w'):=by
 have u:=St.start w;refine eX Tryz.func237 ?_;refine⟨λB w'=>B=.bool (gz c||kq c)/\St w bD [] w',aV af6 u (C234 _ _) (λ_ _ u=>aY (λ_=>⟨vb dD,u⟩) λ_=>aV an6 u (C238 _ _) λ_ _ u=>⟨vb dD,u⟩),?_⟩;rintro _ _ ⟨rfl,u⟩ _;exact⟨rfl,u.aG⟩
def C236(s:ByteArray)(fv:Value)(g:UInt8->Bool)(w:World)(O:FnU w fv g)(hn:s.size<=1048576):CR 236 [.string s,fv] w (λv w'=>∃n:Nat,v=hZ (n:Int)/\(n=(iN s).length↔(iN s).all g=true)/\Ext w w'):=by
 obtain⟨g0,first,cap,rfl,W,U⟩:=O;have u:=St.start w;refine acR _ _ _ _ ?_;unfold S236;refine⟨λm x I=>∃k:Nat,x=hZ (k:Int)/\m=(iN s).length-k/\k<=(iN s).length/\(∀y∈(iN s).take k,g y=true)/\St w bD [] I,⟨_,0,rfl,rfl,l1 _,ei,u⟩,?_⟩;rintro m _ I ⟨k,rfl,rfl,V,M,u⟩ _;have G6:=eV s;refine⟨λY w'=>Y=.bool (match (iN s)[k]? with|some c=>g c|none=>false)/\St w bD [] w',fh ik (aR (aC (λjH=>?_) λ_=>⟨vb dD,u⟩)),?_⟩
 .obtain⟨J,E⟩:∃G,(iN s)[(k:Int).toNat]?=some G:=⟨_,la (by rw[eV];omega)⟩;refine jW ik cK E (gT W (U J _ u.aG) ?_);rintro _ _ ⟨rfl,Z⟩;have u:=u.ext Z;exact⟨vb dD,u⟩
 rintro _ _ ⟨rfl,u⟩ _;refine aY (λB=>?_) (λB=>⟨k,rfl,ac0 M V (by simpa using B),u.aG⟩);obtain⟨J,E⟩:∃G,(iN s)[k]?=some G:=by cases h:(iN s)[k]? with|none=>rw[h]at B;cases B|some x=>exact⟨x,rfl⟩
 have Q8:=(kE.1 E).1;exact aN cK ⟨_,cK,k+1,rfl,rfl,cK,dY M E dD,u⟩
def C235(s:ByteArray)(w:World):CR 235 [.string s] w (λv w'=>v=.bool (jR.any λy=>decide (y=s))/\Ext w w'):=by
 have u:=St.start w;refine eX Tryz.func235 ?_;refine dQ aol (C280 _) ?_;rintro _ _ ⟨G,rfl,B,E⟩;have u:=u.ext E;exact LR B Tryz.underlying329 Tryz.underlying9 V8 ⟨rfl,u.aG⟩
def C180(s:ByteArray)(w:World):CR 180 [.string s] w (λv w'=>v=.bool (gJ s)/\Ext w w'):=by
 have u:=St.start w;refine eX Tryz.func180 ?_;refine⟨λY w'=>Y=.bool (xh s)/\St w bD [] w',jG (aC (λG=>?_) λG=>?_),?_⟩
 .have O:s.size=0:=by rw[G];rfl
  exact⟨vb (by unfold xh;grind),u⟩
 .have O:s.size≠0:=λh=>G (ah9 h);refine fh ik (cO (aC (λ_=>⟨vb (by unfold xh;grind),u⟩) λgD=>?_));obtain⟨J,I⟩:∃V,(iN s)[(0:Int).toNat]?=some V:=⟨_,la (by rw[eV];omega)⟩;refine jW ik cK I ?_;have U:(iN s)[0]?=some J:=I;have W:¬ (s.size<1\/16<s.size):=cK
  exact aV af6 u (C234 _ _) (λ_ _ u=>bR (aY (λ_=>⟨vb (by unfold xh;grind),u⟩) λ_=>aV an9 u (C235 _ _) λ_ _ u=>⟨vb (by unfold xh;grind),u⟩))
 rintro _ _ ⟨rfl,u⟩ _;refine aY (λB=>⟨vb (Xr B).symm,u.aG⟩) (λB=>dQ an7 (C236 s _ (λc=>gz c.toNat||kq c.toNat) _ ⟨237,[],[],rfl,an8,λ_ M _=>C237 _ M⟩ (Xq (by simpa using B))) ?_);rintro _ _ ⟨nr,rfl,E,Z⟩;have u:=u.ext Z;exact fh ik (aH ⟨vb (Xs (by simpa using B) E),u.aG⟩)
def TX(xs:List cA)(i:Int)(n:Nat):Int:=if n=0 then i else if i<0 then -1 else CY xs.length (skip n (xs.drop i.toNat))
def ac1(xs:List cA)(i:Int):TX xs i 1=qu xs i:=by unfold TX qu;omega
theorem Xu(xs:List cA)(i:Int):TX xs i 0=i:=rfl
theorem ac2{xs:List cA}{i:Int}{n:Nat}(u:0<n)(h:i<0\/(xs.length:Int)<=i):TX xs i n = -1:=by
 unfold TX
 rw[ej cK]
 split
 .rfl
 rw[vt cK]
 cases n with
 | zero=>omega
 | succ n=>rfl
theorem ac3{xs:List cA}{i:Int}{n:Nat}{x:cA}(G:0<n)(I:0<=i)(B:xs[i.toNat]?=some x)(J:kids x.op<0):TX xs i n = -1:=by
 unfold TX
 obtain⟨u,E⟩:=kE.1 B
 rw[ej cK,ej cK,tc u,E]
 cases n with
 | zero=>omega
 | succ n=>
  grind[CY,skip]
theorem Xv{xs:List cA}{i:Int}{n m:Nat}{x:cA}(G:0<n)(I:0<=i)(B:xs[i.toNat]?=some x)(J:0<=kids x.op)(M:(m:Int)=n+kids x.op-1):TX xs i n=TX xs (i+1) m:=by
 obtain⟨u,E⟩:=kE.1 B
 have h1:TX xs i n=CY xs.length (skip m (xs.drop (i+1).toNat)):=by
  unfold TX
  rw[ej cK,ej cK,tc u,E,show(i+1).toNat=i.toNat+1 from cK]
  cases n with
  | zero=>omega
  | succ n=>
   grind[CY,skip]
 rw[h1]
 grind[CY,skip,TX]
def Xw(i:Int)(ks:List Ex)(k:Nat):List Int:=(uT k).map λj=>i+1+(qw ks j:Int)
theorem Xx(i:Int)(ks:List Ex)(k:Nat):Xw i ks (k+1)=Xw i ks k++[i+1+(qw ks k:Int)]:=by
 unfold Xw;rw[List.range_succ,vd];rfl
theorem RW(i:Int)(ks:List Ex)(k:Nat):(Xw i ks k).length=k:=by simp[Xw]
def ac4{i:Int}{ks:List Ex}{n k:Nat}{e:Int}(h:(Xw i ks n)[k]?=some e):e=i+1+(qw ks k:Int)/\k<n:=by
 unfold Xw at h
 grind
def C286(k:Int)(w:World):CR 286 [hZ k] w (λv w'=>v=hZ (kids k)/\Ext w w'):=by
 have E:=St.start w;refine eX Tryz.func286 ?_;refine⟨λB w'=>B=.bool (decide (k=1\/k=2))/\w=w',aH (aC (λ_=>⟨N1 cK,rfl⟩) λ_=>aH ⟨yB cK,rfl⟩),?_⟩;rintro _ _ ⟨rfl,u⟩ _;subst u;refine aC (λJ=>?_) (λJ=>⟨λB w'=>B=.bool (decide (k=3\/k=4))/\w=w',aH (aC (λ_=>⟨N1 cK,rfl⟩) λ_=>aH ⟨yB cK,rfl⟩),?_⟩)
 .unfold kids;exact⟨gN (nf .i64) dD,E.aG⟩
 rintro _ _ ⟨rfl,u⟩ _;subst u;refine aC (λI=>?_) (λI=>⟨λB w'=>B=.bool (decide (5<=k/\k<=15))/\w=w',cR (aC (λ_=>iB ⟨yB cK,rfl⟩) λ_=>⟨jvF cK,rfl⟩),?_⟩)
 .unfold kids;exact⟨gN (nf .i64) dD,E.aG⟩
 rintro _ _ ⟨rfl,u⟩ _;subst u;refine aC (λG=>?_) (λG=>?_)
 .unfold kids;exact⟨gN (nf .i64) dD,E.aG⟩
 unfold kids;exact⟨gN (nf .i64) dD,E.aG⟩
def C243(x:cA)(w:World):CR 243 [ia x] w (λv w'=>v=.bool (!lh x)/\Ext w w'):=by
 have u:=St.start w;refine eX Tryz.func243 ?_;refine cI u (λE _ u=>⟨λB w'=>B=.bool (decide (x.at_<0\/4000<x.at_))/\St w bD [bY E (j0 x)] w',aA r7 (aB (v:=hZ x.at_) bL u.hb rfl (aR (aC (λ_=>⟨vb dD,u⟩) λ_=>aA r7 (aB (v:=hZ x.at_) bL u.hb rfl (cO ⟨vb dD,u⟩))))),?_⟩);rintro _ _ ⟨rfl,u⟩ _;refine aY (λJ=>?_) (λJ=>?_)
 .refine⟨vb ?_,u.drop.aG⟩;unfold lh
  grind
 refine aA eY (aB (v:=hZ x.op) bL u.hb rfl (aH (aC (λG=>⟨λB w'=>B=.bool (decide (0<=x.n/\x.n<=4294967296/\x.name=⟨#[]⟩))/\St w bD [bY E (j0 x)] w',aA jm (aB (v:=hZ x.n) bL u.hb rfl (cR (aC (λ_=>aA jm (aB (v:=hZ x.n) bL u.hb rfl (iB (aC (λ_=>aA gj (aB (v:=.string x.name) gv u.hb rfl (jG ⟨vb dD,u⟩))) λ_=>⟨vb dD,u⟩)))) λ_=>⟨vb dD,u⟩))),?_⟩) λG=>?_)))
 .rintro _ _ ⟨rfl,u⟩ _;refine⟨vb ?_,u.drop.aG⟩;unfold lh
  grind
 refine aA eY (aB (v:=hZ x.op) bL u.hb rfl (aH (aC (λI=>⟨λB w'=>B=.bool (decide (x.n=0)&&gJ x.name)/\St w bD [bY E (j0 x)] w',aA jm (aB (v:=hZ x.n) bL u.hb rfl (aH (aC (λ_=>aA gj (aB (v:=.string x.name) gv u.hb rfl (aV LC u (C180 _ _) λ_ _ u=>⟨vb dD,u⟩))) λ_=>⟨vb dD,u⟩))),?_⟩) λI=>?_)))
 .rintro _ _ ⟨rfl,u⟩ _;refine⟨vb ?_,u.drop.aG⟩;unfold lh
  grind
 refine⟨λB w'=>B=.bool (decide (x.n=0/\x.name=⟨#[]⟩))/\St w bD [bY E (j0 x)] w',aA jm (aB (v:=hZ x.n) bL u.hb rfl (aH (aC (λ_=>aA gj (aB (v:=.string x.name) gv u.hb rfl (jG ⟨vb dD,u⟩))) λ_=>⟨vb dD,u⟩))),?_⟩;rintro _ _ ⟨rfl,u⟩ _;refine⟨vb ?_,u.drop.aG⟩;unfold lh
 grind
def C242(x:cA)(w:World):CR 242 [ia x] w (λv w'=>v=.bool (lh x)/\Ext w w'):=by
 have u:=St.start w;refine eX Tryz.func242 ?_;exact cI u (λ_ _ u=>aD rZ u.At (aV aoa u (C243 _ _) λ_ _ u=>bR ⟨vb ei,u.drop.aG⟩))
def C285(sv fv:Value)(xs:List cA)(g:cA->Bool)(w:World)(J:dA (λ_=>True) w sv xs)(M:wg w fv g)(hn:xs.length<=1073741824):CR 285 [sv,fv] w (λv w'=>v=hZ (sj g xs)/\Ext w w'):=by
 obtain⟨g0,first,cap,rfl,W,O⟩:=M;have u:=St.start w;refine eX Tryz.func285 ?_;refine aK gV (J.ext u.aG) ?_;refine⟨λm x G=>∃k:Nat,x=hZ (k:Int)/\m=xs.length-k/\k<=xs.length/\(∀y∈xs.take k,g y=false)/\St w bD [] G,⟨_,0,rfl,rfl,l1 _,ei,u⟩,?_⟩;rintro m _ G ⟨k,rfl,rfl,Z,B,u⟩ _;refine aR (aC (λjH=>?_) λ_=>⟨gN (nf .i64) (je (by rw[kW cK]at B;exact B)).symm,u.aG⟩);obtain⟨V,I⟩:=gx xs (i:=(k:Int).toNat) cK;refine aO gV J cK I (λ_ U=>aD rZ (U.ext u.aG) (gT W (O V G u.aG) ?_))
 rintro _ _ ⟨rfl,Y⟩;have u:=u.ext Y;exact aY (λE=>⟨gN (nf .i64) (ma B I E).symm,u.aG⟩) (λE=>aN cK ⟨xs.length-(k+1),cK,k+1,rfl,rfl,cK,dY B I E,u⟩)
def C244(sv fv:Value)(xs:List cA)(g:cA->Bool)(w:World)(E:dA (λ_=>True) w sv xs)(B:wg w fv g)(G:xs.length<=1073741824):CR 244 [sv,fv] w (λv w'=>v=.bool (xs.any g)/\Ext w w'):=by
 have u:=St.start w;refine eX Tryz.func244 ?_;exact aV aoh u (C285 _ _ _ _ _ (E.ext u.aG) (B.ext u.aG) cK) (λ_ _ u=>cR ⟨vb (kT _ _),u.aG⟩)
def C245(lv:Value)(xs:List cA)(i:Int)(w:World)(I:dA (λ_=>True) w lv xs)(hn:xs.length<=1048576):CR 245 [lv,hZ i] w (λv w'=>v=hZ (qu xs i)/\Ext w w'):=by
 have u:=St.start w;refine eX Tryz.func245 ?_;refine⟨λm x y M=>∃(a:Int) (n:Nat),x=hZ a/\y=hZ (n:Int)/\m=xs.length-a.toNat/\n<=1+a.toNat/\TX xs a n=qu xs i/\St w bD [] M,⟨_,i,1,rfl,rfl,rfl,cK,ac1 _ _,u⟩,?_⟩;rintro m _ _ M ⟨a,n,rfl,rfl,rfl,hna,E,u⟩ _;refine cO (aC (λgQ=>⟨λjv w'=>jv=.bool (decide (a<0\/(xs.length:Int)<=a)||(match xs[a.toNat]? with|some x=>decide (kids x.op = -1)|none=>true))/\St w bD [] w',aR (aC (λ_=>⟨vb dD,u⟩) λjB=>aK gV (I.ext u.aG) (cR (aC (λ_=>⟨vb dD,u⟩) λer=>?_))),?_⟩) λgQ=>?_)
 .obtain⟨B,G⟩:=gx xs (i:=a.toNat) cK;have WW:=tU B.op;exact aO gV I cK G (λ_ Z=>bV B.op eY Z rfl rfl λ_ W=>aD bL (W.ext u.aG) (aV Xb u (C286 _ _) λ_ _ u=>aH ⟨vb dD,u⟩))
 .rintro _ _ ⟨rfl,u⟩ _;refine aY (λO=>?_) (λO=>?_)
  .refine⟨gN (nf .i64) ?_,u.aG⟩;rw[<- E]
   by_cases hq:a<0\/(xs.length:Int)<=a
   .exact(ac2 cK hq).symm
   have J:a.toNat<xs.length:=cK
   rw[la J]at O;exact(ac3 cK cK (la J) dD).symm
  have U:¬ (a<0\/(xs.length:Int)<=a):=dD
  obtain⟨B,G⟩:=gx xs (i:=a.toNat) cK;have WW:=tU B.op;have V:0<=kids B.op:=dD
  exact aO gV I cK G (λ_ mA=>bV B.op eY mA rfl rfl λ_ su=>aD bL (su.ext u.aG) (aV Xb u (C286 _ _) λ_ _ u=>aN cK (aN cK (fg cK ⟨_,cK,a+1,((n:Int)+kids B.op-1).toNat,rfl,gN (nf .i64) cK,rfl,cK,by rw[<- E];exact(Xv cK cK G V cK).symm,u⟩))))
 have Y:n=0:=cK
 rw[Y,Xu]at E;exact⟨gN (nf .i64) E,u.aG⟩
theorem CC{l:List cA}:fz l=(decide (l.length<=40)&&decide (qu l 0=l.length)&&!l.any lh&&decide (RO l<=12)):=by
 unfold fz;rw[Ey]
def C287(lv:Value)(xs:List cA)(i:Int)(t:Ex)(w:World)(J:dA (λ_=>True) w lv xs)(hn:xs.length<=1048576)(B:By xs i t):CR 287 [lv,hZ i] w (λv w'=>lg (bH v (Xw i t.eB t.eB.length)) w w'):=by
 obtain⟨I,hq,Z⟩:∃e,e=t.root/\xs[(i).toNat]?=some e:=⟨_,rfl,B.root.1⟩;have Y:=B.root.2;have hie:=B.end;have V:=Ex.o0 B.2.1;rw[<- hq]at V;have WW:=tU I.op;have hi0:=B.1;have u:=St.start w;refine eX Tryz.func287 ?_;refine aN cK (aO gV J cK Z λ_ W=>bV I.op eY W rfl rfl λ_ Xy=>aD bL (Xy.ext u.aG) (aV Xb u (C286 _ _) λG he u=>?_));refine⟨λm M a x G=>∃k:Nat,a=hZ (i+1+qw t.eB k)/\x=hZ (k:Int)/\m=t.eB.length-k/\k<=t.eB.length/\St w bD [bH M (Xw i t.eB k)] G,⟨_,0,gN (nf .i64) (by simp[qw]),rfl,rfl,cK,u.eM (α:=Int)⟩,?_⟩
 rintro m M _ _ _ ⟨k,rfl,rfl,rfl,hk,u⟩ _;refine aR (aC (λO=>?_) λO=>?_)
 .obtain⟨a,E⟩:=gx t.eB (i:=k) cK;have U:=Ex.tV B.2.1 (kO E);have TN:=B.kid E;have Vm:=TN.end;have TO:=a.rB;refine aZ ([(i+1+qw t.eB k:Int)]) u cS rfl rfl (dL rfl) (λXz _ u=>?_);have I8:=u.dX;exact bJ u.p1 cS I8 (by rw[RW];exact Xo (by simp;omega)) ee (λ_ _ u=>have u:=u.p1.drop;aV Xc u (C245 _ _ _ _ (J.ext u.aG) cK) λ_ _ u=>aN cK ⟨_,cK,k+1,gN (nf .i64) (by rw[Vm.1,uI E];omega),rfl,rfl,cK,by rw[Xx];exact u⟩)
 rw[show t.eB.length=k from cK];exact u.fresh
theorem C246(lv:Value)(xs:List cA)(i:Int)(t:Ex)(N:Nat)(w:World)(M:dA (λ_=>True) w lv xs)(hn:xs.length<=1048576)(B:By xs i t)(hN:t.size<N):CR 246 [lv,hZ i] w (λv w'=>v=hZ t.depth/\Ext w w'):=by
 obtain⟨Y,hq,sm⟩:∃e,e=t.root/\xs[(i).toNat]?=some e:=⟨_,rfl,B.root.1⟩;have W:=B.root.2;have hie:=B.end;have V:=Ex.o0 B.2.1;rw[<- hq]at V;have WW:=tU Y.op;have hi0:=B.1;have u:=St.start w;refine acS _ _ _ _ ?_;unfold S246;refine dT aoc u (C287 _ _ _ t _ (M.ext u.aG) cK B) (λG I cL u=>?_);have Kd:=RW i t.eB t.eB.length;refine aK cS u.dX ?_;refine⟨λm n x I=>∃k:Nat,n=hZ (CZ t.eB k)/\x=hZ (k:Int)/\m=t.eB.length-k/\k<=t.eB.length/\St w bD [bH G (Xw i t.eB t.eB.length)] I,⟨_,0,rfl,rfl,rfl,cK,u⟩,?_⟩;rintro m _ _ _ ⟨k,rfl,rfl,rfl,hk,u⟩ _
 have hdk:=OR (ks:=t.eB) (N:=(t.size:Int)) cK (λa ha=>by have:=(Ex.tV B.2.1 ha).2;have:=a.rB;omega) k;refine aR (aC (λwV=>?_) λ_=>aN cK ⟨gN (nf .i64) (by rw[t.Lt,show k=t.eB.length from cK]),u.aG⟩);obtain⟨iu,O⟩:=gx (Xw i t.eB t.eB.length) (i:=(k:Int).toNat) cK;refine dR u cS cK cK (λ_ Z=>gL u bL Z O ?_);obtain⟨rfl,BQ⟩:=ac4 O;obtain⟨a,E⟩:=gx t.eB (i:=k) cK;have U:=Ex.tV B.2.1 (kO E);have J:=B.kid E;have Vm:=J.end;have TO:=a.rB
 exact aV af7 u (C246 _ _ _ _ (N-1) _ (M.ext u.aG) hn J cK) (λ_ _ u=>Dk (aN cK ⟨_,cK,k+1,by rw[BR E],rfl,rfl,cK,u⟩))
termination_by N
decreasing_by all_goals omega
def C185(lv:Value)(xs:List cA)(w:World)(B:dA (λ_=>True) w lv xs)(U:xs.length<=1048576):CR 185 [lv] w (λv w'=>v=.bool (fz xs)/\Ext w w'):=by
 have u:=St.start w;refine eX Tryz.func185 ?_;refine⟨λV w'=>V=.bool (decide (xs.length=0\/40<xs.length)||xs.any lh||decide (¬ qu xs 0=xs.length))/\St w bD [] w',aK gV (B.ext u.aG) (aH (aC (λ_=>⟨vb dD,u⟩) λW=>aK gV (B.ext u.aG) (cO (aC (λ_=>⟨vb dD,u⟩) λY=>?_)))),?_⟩
 .have E:wg w (.func (.func 242) [].toArray [].toArray) lh:=
   ⟨242,[],[],rfl,aob,λy G _=>C242 y G⟩
  exact aV aog u (C244 _ _ _ _ _ (B.ext u.aG) E cK) (λ_ _ u=>aY (λ_=>⟨vb dD,u⟩) λ_=>aV Xc u (C245 _ _ _ _ (B.ext u.aG) cK) λ_ _ u=>aK gV (B.ext u.aG) (bW ⟨vb dD,u⟩))
 rintro _ _ ⟨rfl,u⟩ _;refine aY (λM=>?_) (λM=>?_)
 .refine⟨vb ?_,u.aG⟩;rw[CC]
  by_cases I:xs.length=0
  .obtain rfl:=r6.1 I;rfl
  grind
 have O:qu xs 0=xs.length:=dD
 obtain⟨t,ht⟩:=By.of (xs:=xs) (i:=0) cK;have J:=ht.zero O;refine aV af7 u (C246 _ _ _ t (t.size+1) _ (B.ext u.aG) U ht cK) (λ_ Z u=>iB ?_);refine⟨vb ?_,u.aG⟩;rw[CC];unfold RO;rw[J.2]
 grind
def nR(o:List ByteArray)(x:cA):List ByteArray:=if x.op=2/\o.any (λy=>decide (y=x.name))=false then o++[x.name]else o
theorem XA{o:List ByteArray}{x:cA}(h:x.op=2/\o.any (λy=>decide (y=x.name))=false):nR o x=o++[x.name]:=ew h
theorem XB{o:List ByteArray}{x:cA}(h:¬ (x.op=2/\o.any (λy=>decide (y=x.name))=false)):nR o x=o:=ej h
def nS(xs:List cA):List ByteArray:=xs.foldl nR []
theorem LV{xs:List cA}{k:Nat}{x:cA}(h:xs[k]?=some x):nS (xs.take (k+1))=nR (nS (xs.take k)) x:=by
 unfold nS;rw[<- gI h,List.foldl_append];rfl
theorem CD(xs:List cA):(nS xs).length<=xs.length:=by
 have:∀(l:List cA) (o:List ByteArray),(l.foldl nR o).length<=o.length+l.length:=by
  intro l
  induction l with
  | nil=>grind
  | cons x l u=>
   grind[nR]
 simpa[nS]using this xs []
theorem O2(g:ByteArray->Bool)(xs:List cA):(nS xs).any g=xs.any λx=>decide (x.op=2)&&g x.name:=by
 have:∀(l:List cA) (o:List ByteArray),(l.foldl nR o).any g=(o.any g||l.any λx=>decide (x.op=2)&&g x.name):=by
  intro l
  induction l with
  | nil=>grind
  | cons x l u=>
   intro o
   show(l.foldl nR (nR o x)).any g=_
   rw[u]
   have h2:(nR o x).any g=(o.any g||(decide (x.op=2)&&g x.name)):=by
    unfold nR
    grind
   grind
 exact(this xs []).trans ei
theorem BW(ns:List ByteArray)(s:ByteArray):decide (0<=cU ns s)=ns.any λy=>decide (y=s):=kT _ _
theorem TY(ns:List ByteArray)(s:ByteArray):decide (cU ns s<0) = !ns.any λy=>decide (y=s):=by
 rw[<- BW]
 grind
def O3{k:Int}(h:0<=kids k):eC k=kids k:=by unfold eC kids at *;grind
def ac5{ns:List ByteArray}{xs:List cA}(h:fz xs=false):kV ns xs=8:=by unfold kV;grind
def ac6{ns:List ByteArray}{xs:List cA}(h:fz xs=true):kV ns xs=if (nS xs).any (λs=>!ns.any λy=>decide (y=s))=true then 9 else 0:=by
 unfold kV
 rw[ej (by simp[h]),O2]
 simp only[TY]
theorem LW{ns:List ByteArray}{xs:List cA}(h:¬ kV ns xs=0):qx ns xs=[]:=by unfold qx;grind
def pO(ns:List ByteArray)(nums:List Int)(xs:List cA):Int×Int:=if ns.length=nums.length then(if kV ns xs=0 then runM (qx ns xs) nums else(0,kV ns xs))else(0,1)
def C225(sv:Value)(ns:List ByteArray)(s:ByteArray)(w:World)(J:dA (λ_=>True) w sv ns)(U:ns.length<=1048576):CR 225 [sv,.string s] w (λv w'=>v=hZ (cU ns s)/\Ext w w'):=by
 have u:=St.start w;refine eX Tryz.func225 ?_;refine aK iy (J.ext u.aG) ?_;refine⟨λm x I=>∃k:Nat,x=hZ (k:Int)/\m=ns.length-k/\k<=ns.length/\(∀y∈ns.take k,decide (y=s)=false)/\St w bD [] I,⟨_,0,rfl,rfl,l1 _,ei,u⟩,?_⟩;rintro m _ I ⟨k,rfl,rfl,O,B,u⟩ _;refine aR (aC (λW=>?_) λ_=>⟨gN (nf .i64) (je (by rw[kW cK]at B;exact B)).symm,u.aG⟩);obtain⟨V,G⟩:=gx ns (i:=(k:Int).toNat) cK;exact aO iy J cK G (λ_ M=>aD gv (M.ext u.aG) (jG (aC (λE=>⟨gN (nf .i64) (ma B G (ez E.symm)).symm,u.aG⟩) λE=>aN cK ⟨_,cK,k+1,rfl,rfl,cK,dY B G (fN λh=>E h.symm),u⟩)))
def C263(sv:Value)(ns:List ByteArray)(s:ByteArray)(w:World)(B:dA (λ_=>True) w sv ns)(E:ns.length<=1048576):CR 263 [sv,.string s] w (λv w'=>v=.bool (ns.any λy=>decide (y=s))/\Ext w w'):=by
 have u:=St.start w;refine eX Tryz.func263 ?_;exact aV Xd u (C225 _ _ _ _ (B.ext u.aG) cK) (λ_ _ u=>cR ⟨vb (BW _ _),u.aG⟩)
def C281(sv fv:Value)(xs:List ByteArray)(g:ByteArray->Bool)(w:World)(J:dA (λ_=>True) w sv xs)(M:wg w fv g)(hn:xs.length<=1073741824):CR 281 [sv,fv] w (λv w'=>v=hZ (sj g xs)/\Ext w w'):=by
 obtain⟨g0,first,cap,rfl,W,O⟩:=M;have u:=St.start w;refine eX Tryz.func281 ?_;refine aK iy (J.ext u.aG) ?_;refine⟨λm x G=>∃k:Nat,x=hZ (k:Int)/\m=xs.length-k/\k<=xs.length/\(∀y∈xs.take k,g y=false)/\St w bD [] G,⟨_,0,rfl,rfl,l1 _,ei,u⟩,?_⟩;rintro m _ G ⟨k,rfl,rfl,Z,B,u⟩ _;refine aR (aC (λjH=>?_) λ_=>⟨gN (nf .i64) (je (by rw[kW cK]at B;exact B)).symm,u.aG⟩);obtain⟨V,I⟩:=gx xs (i:=(k:Int).toNat) cK;refine aO iy J cK I (λ_ U=>aD gv (U.ext u.aG) (gT W (O V G u.aG) ?_))
 rintro _ _ ⟨rfl,Y⟩;have u:=u.ext Y;exact aY (λE=>⟨gN (nf .i64) (ma B I E).symm,u.aG⟩) (λE=>aN cK ⟨xs.length-(k+1),cK,k+1,rfl,rfl,cK,dY B I E,u⟩)
def C240(sv fv:Value)(xs:List ByteArray)(g:ByteArray->Bool)(w:World)(E:dA (λ_=>True) w sv xs)(B:wg w fv g)(G:xs.length<=1073741824):CR 240 [sv,fv] w (λv w'=>v=.bool (xs.any g)/\Ext w w'):=by
 have u:=St.start w;refine eX Tryz.func240 ?_;exact aV aoi u (C281 _ _ _ _ _ (E.ext u.aG) (B.ext u.aG) cK) (λ_ _ u=>cR ⟨vb (kT _ _),u.aG⟩)
def C264(lv:Value)(xs:List cA)(w:World)(J:dA (λ_=>True) w lv xs)(hn:xs.length<=1048576)(hr:fz xs=true):CR 264 [lv] w (λv w'=>lg (bH v (nS xs)) w w'):=by
 have u:=St.start w;refine eX Tryz.func264 ?_;refine aV RT u (C185 _ _ _ (J.ext u.aG) cK) (λV he u=>bR (aY (λG=>?_) λG=>?_))
 .rw[hr]at G;cases G
 refine aK gV (J.ext u.aG) ?_;refine⟨λm E x V=>∃k:Nat,x=hZ (k:Int)/\m=xs.length-k/\k<=xs.length/\St w bD [bH E (nS (xs.take k))] V,⟨_,0,rfl,rfl,cK,u.eM (α:=ByteArray)⟩,?_⟩;rintro m E _ _ ⟨k,rfl,rfl,hk,u⟩ _;refine aR (aC (λY=>?_) λY=>?_)
 .obtain⟨B,W⟩:=gx xs (i:=(k:Int).toNat) cK;refine⟨λO w'=>St w bD [bH O (nR (nS (xs.take k)) B)] w',?_,?_⟩
  .have Kb:=CD (xs.take k);rw[l0]at Kb;refine aO gV J cK W (λ_ Es=>aD rZ (Es.ext u.aG) (aM u xX λI9 _ u=>aJ (x:=B) u rZ rfl rfl λ_ u=>⟨λO w'=>O=.bool (decide (B.op=2)&&!(nS (xs.take k)).any λy=>decide (y=B.name))/\St w bD [bY I9 (j0 B),bH E (nS (xs.take k))] w',aA eY (aB (v:=hZ B.op) bL u.hb rfl (aH (aC (λ_=>aA gj (aB (v:=.string B.name) gv u.hb rfl (aV agb u (C263 _ _ _ _ u.p1.dX cK) λ_ _ u=>bR ⟨vb dD,u⟩))) λ_=>⟨vb dD,u⟩))),?_⟩))
   rintro _ _ ⟨rfl,u⟩ _;refine aY (λM=>?_) (λM=>?_)
   .refine aA gj (aB (v:=.string B.name) gv u.hb rfl (aZ ([B.name]) u iy rfl rfl (dL rfl) λU _ u=>?_));have Z:=u.dX;refine bJ u.p2 iy Z (by simp<;>omega) ee (λI _ u=>?_);have u:=u.p1.drop;rw[XA (by simpa using M)];exact u.p1.drop
   rw[XB (by simpa using M)];exact u.drop
  rintro EP _ u _;exact aN cK ⟨_,cK,k+1,rfl,rfl,cK,by rw[LV (k:=k) W];exact u⟩
 rw[kW cK]at u;exact u.fresh
def Ja{α:Type}[Flat α]{S:Nat->Prop}{w:World}{v:Value}{xs:List α}(h:dA S w v xs):wB v=true:=by obtain⟨a,c,rfl,_⟩:=h;rfl
theorem TZ(ns:List ByteArray)(xs:List cA):(qx ns xs).length<=xs.length:=by
 unfold qx
 split
 .unfold BS
  cases h:zu xs with
  | none=>grind
  | some t=>
   rw[Ex.pK,<- Ex.cY,<- (vn h).2];omega
 grind
theorem C265(lv nv:Value)(xs:List cA)(ns:List ByteArray)(i:Int)(t:Ex)(N:Nat)(w:World)(G:dA (λ_=>True) w lv xs)(W:dA (λ_=>True) w nv ns)(hn:xs.length<=1048576)(Bw:ns.length<=1048576)(E:By xs i t)(hNt:t.size<N):CR 265 [lv,hZ i,nv] w (λv w'=>lg (bH v (t.steps ns)) w w'):=by
 obtain⟨B,hq,J⟩:∃e,e=t.root/\xs[(i).toNat]?=some e:=⟨_,rfl,E.root.1⟩;have hri:=E.root.2;have hie:=E.end;have OQ:=Ex.o0 E.2.1;rw[<- hq]at OQ;have WW:=tU B.op;have hi0:=E.1;have hwk:=O3 (k:=B.op) cK;have u:=St.start w;refine oH Tryz.func265 (pl:=avg) ?_;refine aN cK (aO gV G cK J λ_ ic=>bV B.op eY ic rfl rfl λ_ uG=>aD bL (uG.ext u.aG) (aV V2 u (C267 _ _) λY he u=>?_));refine⟨λm M a x Y=>∃k:Nat,a=hZ (i+1+qw t.eB k)/\x=hZ (k:Int)/\m=t.eB.length-k/\k<=t.eB.length/\St w bD [bH M (WX ns t.eB k)] Y,⟨_,0,gN (nf .i64) (by simp[qw]),rfl,rfl,cK,u.eM (α:=oy)⟩,?_⟩
 rintro m M _ _ _ ⟨k,rfl,rfl,rfl,hk,u⟩ _;refine aR (aC (λfr=>?_) λfr=>?_)
 .obtain⟨a,I⟩:=gx t.eB (i:=k) cK;have hka:=Ex.tV E.2.1 (kO I);have TN:=E.kid I;have Vm:=TN.end;have TO:=a.rB;have V:=Dn (ns:=ns) (ks:=t.eB) (k:=k);have TP:=Ex.pK ns a;refine dT af8 u (C265 _ _ _ _ _ _ (N-1) _ (G.ext u.aG) (W.ext u.aG) hn Bw TN cK) (λx24 _ cL u=>?_);have O4:=u.dX;exact bJ u.p1 tB O4 cK ee (λ_ _ u=>have u:=u.p1.drop;aV Xc u (C245 _ _ _ _ (G.ext u.aG) cK) λ_ _ u=>aN cK ⟨_,cK,k+1,gN (nf .i64) (by rw[Vm.1,uI I];omega),rfl,rfl,cK,by rw[Lu I];exact u⟩)
 have V:=Dn (ns:=ns) (ks:=t.eB) (k:=k);refine aO gV G cK J (λ_ xj=>bV B.op eY xj rfl rfl λ_ Z=>have u:=u.drew;aD bL (Z.ext u.aG) (aO gV G cK J λ_ xe=>bV B.n jm xe rfl rfl λ_ yM=>aD bL (yM.ext u.aG) (pop (Ef _ _) (aM u IQ λBP _ u=>?_))));refine⟨eH bL (Z.ext u.aG),?_⟩;refine⟨eH bL (yM.ext u.aG),?_⟩;refine aJ (x:=(⟨B.op,B.n⟩:oy)) u Eb rfl rfl (λ_ u=>⟨λw'=>St w bD [bY BP (j0 (⟨B.op,Ex.numOf ns B⟩:oy)),bH M (WX ns t.eB k)] w',aA nB (aB (v:=hZ ((⟨B.op,B.n⟩:oy).kind)) bL u.hb rfl (aH (aC (λO=>?_) λO=>?_))),?_⟩)
 .refine aO gV G cK J (λ_ AN=>bV B.name gj AN rfl rfl λ_ Lx=>aD gv (Lx.ext u.aG) (aV Xd u (C225 _ _ _ _ (W.ext u.aG) cK) λ_ he u=>aA qt (aT u bL (dL rfl) (rfl) λ_ u=>?_)));have u:=u.enc (cs':=j0 ({ (⟨B.op,B.n⟩:oy)with n:=(cU ns B.name)}:oy)) rfl;have U:Ex.numOf ns B=cU ns B.name:=ew O;rw[<- U]at u;exact u
 .have U:Ex.numOf ns B=B.n:=ej O;rw[<- U]at u;exact u
 rintro _ u _;refine aD Eb u.At (aZ ([(⟨B.op,Ex.numOf ns B⟩:oy)]) u tB rfl rfl (dL rfl) λaou _ u=>?_);have O5:=u.dX;refine bJ u.p2 tB O5 (by rw[V,mf];have:(t.steps ns).length=t.size:=Ex.pK ns t;rw[Ex.vm,lY,mf,<- show k=t.eB.length from cK]at this;omega) ee (λaov _ u=>?_);have u:=u.p1.drop;rw[Ex.vm,<- show k=t.eB.length from cK,<- hq];exact u.p1.drop.fresh
termination_by N
decreasing_by all_goals omega
def C262(s:ByteArray)(b2:Nat)(B:Value)(ns:List ByteArray)(w:World)(hc:Cell w b2 0 B)(E:dA (λ_=>True) w B ns)(G:ns.length<=1048576):CR 262 [.string s,.pointer (some ⟨b2,0,none⟩)] w (λv w'=>v=.bool (!ns.any λy=>decide (y=s))/\Ext w w'):=by
 have u:=St.start w;refine eX Tryz.func262 ?_;exact bM ji (hc.ext u.aG) (aV agb u (C263 _ _ _ _ (E.ext u.aG) cK) λ_ _ u=>bR ⟨rfl,u.aG⟩)
def C218(lv I:Value)(xs:List cA)(ns:List ByteArray)(w:World)(J:dA (λ_=>True) w lv xs)(E:dA (λ_=>True) w I ns)(hn:xs.length<=1048576)(U:ns.length<=1048576):CR 218 [lv,I] w (λv w'=>∃s,v=.tuple #[s,hZ (kV ns xs)]/\lg (bH s (qx ns xs)) w w'):=by
 have u:=St.start w;refine acT _ _ _ _ ?_;unfold S218;refine nu u (Ja E) (λLX W u=>aV RT u (C185 _ _ _ (J.ext u.aG) cK) λ_ he u=>bR (aY (λM=>?_) λM=>?_))
 .have h8:kV ns xs=8:=ac5 (by simpa using M);refine⟨_,by rw[h8],?_⟩;rw[LW (by rw[h8];decide)];exact(u.drop.eM (α:=oy)).fresh
 have B:fz xs=true:=by simpa using M
 have Kb:=CD xs;have V:=ac6 (ns:=ns) B;refine dT aod u (C264 _ _ _ (J.ext u.aG) hn B) (λx12 _ cL u=>?_)
 have G:wg _ (.func (.func 262) [].toArray [.pointer (some ⟨LX,0,none⟩)].toArray) (λs=>!ns.any λy=>decide (y=s)):=
  ⟨262,[],_,rfl,aof,λy W Z=>C262 y LX I ns W ((u.p1.hb.cell rfl).ext Z) ((E.ext u.aG).ext Z) U⟩
 refine aV aga u (C240 _ _ _ _ _ u.dX G cK) (λ_ he u=>aY (λO=>?_) λO=>?_)
 .have h9:kV ns xs=9:=by rw[V,ew O]
  refine⟨_,by rw[h9],?_⟩;rw[LW (by rw[h9];decide)];exact(u.drop.drop.eM (α:=oy)).fresh
 refine aB ji u.p1.hb rfl ?_;have Y:kV ns xs=0:=by rw[V,ej (by simpa using O)]
 have WZ:=zx B;obtain⟨t,ht⟩:=By.of (xs:=xs) (i:=0) cK;have hz:=ht.zero WZ;refine dT af8 u (C265 _ _ _ _ _ t (t.size+1) _ (J.ext u.aG) (E.ext u.aG) hn U ht cK) (λT0 _ cL u=>?_);refine⟨T0,by rw[Y],?_⟩;unfold qx BS;rw[ew Y,hz.2];exact u.p1.drop.p1.drop.fresh
def C143(lv J I:Value)(xs:List cA)(ns:List ByteArray)(nums:List Int)(w:World)(O:dA (λ_=>True) w lv xs)(G:dA (λ_=>True) w J ns)(E:dA (λ_=>True) w I nums)(Z:xs.length<=1048576)(W:ns.length<=1048576):CR 143 [lv,J,I] w (λv w'=>v=.tuple #[hZ (pO ns nums xs).1,hZ (pO ns nums xs).2]/\Ext w w'):=by
 have u:=St.start w;refine acU _ _ _ _ _ ?_;unfold S143;refine aK iy (G.ext u.aG) (aK cS (E.ext u.aG) (bW (aC (λV=>?_) λV=>?_)))
 .refine⟨?_,u.aG⟩;unfold pO;rw[ej cK]
 refine dQ aoe (C218 _ _ _ _ _ (O.ext u.aG) (G.ext u.aG) cK cK) ?_;rintro M _ ⟨WQ,rfl,U⟩;have u:=u.made U;refine aQ rfl (aQ rfl (bW (aC (λB=>?_) λB=>?_)))
 .refine⟨?_,u.aG⟩;unfold pO;rw[ew cK,ej B]
 have Y:=TZ ns xs;refine aV amL u (C219 _ _ _ _ _ u.dX (E.ext u.aG) cK) (λ_ he u=>aQ rfl (aQ rfl ?_));refine⟨?_,u.aG⟩;unfold pO;rw[ew cK,ew (by simpa using B)]
variable (w:World) (K:Value->hM)
def avj:dI:=λi=>match i with
 | 9=>(.of [(0,[]),(1,[]),(2,[]),(3,[]),(4,[]),(6,[]),(7,[]),(5,[7]),(8,[]),(9,[]),(10,[]),(11,[]),(12,[]),(13,[]),(15,[]),(16,[]),(14,[16]),(17,[]),(18,[]),(19,[]),(20,[]),(21,[]),(22,[]),(24,[]),(25,[]),(23,[25]),(26,[]),(27,[]),(28,[]),(29,[]),(30,[]),(31,[]),(33,[]),(34,[]),(32,[34]),(35,[]),(36,[]),(37,[]),(38,[])])
 | _=>.nil
def S284(B mi:Value):Prop:=
 px (λK1 W E a=>∀_:Env,
 lN 141 B λb=>bA .lss 3 E b λc=>cV c (iA 141 B E λd=>lA 193 d a λe=>aL 193 a λf g=>sA 193 f e g λh=>bB .add 3 E (i 1) λj=>fA 193 f 6 λk=>lA 3 k h λl=>
 bA .add 3 j l λn=>fA 193 f 7 λo=>lA 3 o h λp=>bA .add 3 n p λq=>fe (λK2=>fA 193 f 0 λr=>lA 3 r h λs=>bB .eql 3 s (i 11) λt=>cV t (K2 tt h) (fA 193 f 0 λu=>
 lA 3 u h λv=>bB .eql 3 v (i 12) λx=>K2 x h)) (λRX y=>∀_:Env,
 fe (λG=>fA 193 f 6 λz=>lA 3 z y λaa=>bB .lss 3 aa (i 0) λab=>cV ab (G tt y) (fA 193 f 7 λac=>lA 3 ac y λad=>bB .lss 3 ad (i 0) λae=>cV ae (G tt y) (
 fA 193 f 6 λaf=>lA 3 af y λag=>lN 141 B λah=>bA .gtr 3 ag ah λai=>cV ai (G tt y) (fA 193 f 7 λaj=>lA 3 aj y λak=>lN 141 B λal=>bA .gtr 3 ak al λam=>
 cV am (G tt y) (lN 141 B λan=>bA .gtr 3 q an λao=>G ao y))))) (λap U=>∀_:Env,
 cV ap (K (i (-1)) U) (fe (λO=>fe (λK5=>eR hH (Op.unary .not RX) λar=>cV ar (fA 193 f 6 λV=>lA 3 V U λau=>bB .gtr 3 au (i 0) λav=>K5 av U) (
 K5 ff U)) (λaw I=>∀_:Env,
 cV aw (O aw I) (fe (λK6=>fA 193 f 0 λay=>lA 3 ay I λaz=>bB .neq 3 az (i 11) λa0=>cV a0 (fA 193 f 7 λa1=>lA 3 a1 I λa2=>bB .gtr 3 a2 (i 0) λa3=>K6 a3 I) (
 K6 ff I)) (λa4 M=>∀_:Env,
 cV a4 (O a4 M) (fA 193 f 0 λa6=>lA 3 a6 M λa7=>bB .eql 3 a7 (i 13) λa8=>cV a8 (bB .eql 3 mi (i 0) λa9=>O a9 M) (O ff M)))))) (λba J=>∀_:Env,
 cV ba (K (i (-1)) J) (fe (λK7=>cV RX (fA 193 f 0 λbc=>lA 3 bc J λbd=>bB .eql 3 bd (i 12) λbe=>cF 302 [be] J λbf Y=>bA .add 3 mi bf λbh=>bB .add 3 E (i 1) λbi=>
 bB .add 3 E (i 1) λbj=>fA 193 f 6 λbk=>lA 3 bk (drew Y) λbl=>bA .add 3 bj bl λbm=>eR hH (n4 141 B (some bi) (some bm) none) λbn=>bB .add 3 E (i 1) λbo=>
 fA 193 f 6 λbp=>lA 3 bp (drew Y) λbq=>bA .add 3 bo bq λbr=>eR hH (n4 141 B (some br) (some q) none) λbs=>cF 284 [bn,bh] (drew Y) λbt bu=>
 kA 3 bp bq bu (cF 284 [bs,bh] bu λbv bw=>fe (λK8=>bB .eql 3 bt (i (-1)) λbx=>cV bx (K8 tt bw) (bB .eql 3 bv (i (-1)) λbz=>K8 bz bw)) (λb0 b1=>∀_:Env,
 cV b0 (K (i (-1)) b1) (bB .add 3 bt (i 1) λb2=>bB .add 3 bv (i 1) λb3=>eR hH (Builtin.max_ #[3,3,3] 3 [W,b2,b3].toArray) λb4=>K7 b4 b1)))) (K7 W J)) (λZ b5=>∀_:Env,
 K1 Z q b5))))))) (K W a)) (λK1=>K1 (i 0) (i 0) w)
def avk:dI:=λi=>match i with
 | 15=>(.of [(0,[]),(1,[]),(2,[]),(3,[]),(4,[]),(5,[]),(6,[]),(7,[]),(8,[]),(9,[]),(11,[]),(12,[]),(13,[]),(14,[]),(15,[]),(16,[]),(17,[]),(18,[]),(19,[]),(10,[15]),(20,[]),(21,[]),(22,[])])
 | _=>.nil
theorem ac7(u B:Value)(h:S284 w K u B):CR 284 [u,B] w K:=
 qO 131 avk 16 [.tmp 4] Tryz.func284 h
theorem aow:PL 310:=dJ Tryz.func310
theorem aox:PL 283:=dJ Tryz.func283
theorem LY:PL 311:=dJ Tryz.func311
theorem agj:PL 313:=dJ Tryz.func313
theorem agk:PL 314:=dJ Tryz.func314
theorem XC:PL 284:=dJ Tryz.func284
theorem aoy:PL 241:=dJ Tryz.func241
theorem aoz:PL 108:=dJ Tryz.func108
theorem aoA:PL 177:=dJ Tryz.func177
theorem aoB:PL 179:=dJ Tryz.func179
theorem aoC:PL 182:=dJ Tryz.func182
theorem aoD:PL 183:=dJ Tryz.func183
theorem XD:PL 178:=dJ Tryz.func178
theorem aoE:PL 233:=dJ Tryz.func233
theorem agl:PL 181:=dJ Tryz.func181
theorem aoF:PL 239:=dJ Tryz.func239
theorem XE:PL 184:=dJ Tryz.func184
theorem aoG:PL 282:=dJ Tryz.func282
theorem aoH:PL 309:=dJ Tryz.func309
theorem aoI:PL 232:=dJ Tryz.func232
theorem aoJ:PL 279:=dJ Tryz.func279
theorem agm:PL 186:=dJ Tryz.func186
theorem aoK:PL 247:=dJ Tryz.func247
theorem XF:PL 187:=dJ Tryz.func187
theorem aoL:PL 248:=dJ Tryz.func248
theorem aoM:PL 188:=dJ Tryz.func188
theorem aoN:PL 249:=dJ Tryz.func249
end Go.Proofs.YtpdlpabnlkofmaaGreatDoor
namespace Go.Proofs.YtpdlpabnlkofmaaGreatDoor
open Go.Fw
variable (w:World) (K:Value->hM)
theorem aoO:PL 336:=dJ Tryz.func336
theorem aoP:PL 312:=dJ Tryz.func312
end Go.Proofs.YtpdlpabnlkofmaaGreatDoor
namespace Go.Proofs.YtpdlpabnlkofmaaGreatDoor
open Go.Fw
structure K15 where
instance:Flat K15 where
 agg:=true
 sz:=15
 enc _:=TR.map Fa
 val _:=.agg (TR.map Fa).toArray
 pos:=ee
 len _:=rfl
 one a v h:=by grind[wB]
 nx _ _:=rfl
 nT h:=by cases h
def C336(w:World):CR 336 [] w (λv w'=>v=ia (⟨⟩:K15)/\Ext w w'):=by
 have u:=St.start w;refine eX Tryz.func336 ?_;exact aM u aci (λ_ _ u=>pop (v:=ia (⟨⟩:K15)) (by kernel_rfl) (aJ (x:=(⟨⟩:K15)) u afJ rfl rfl λ_ u=>aD (x:=(⟨⟩:K15)) afJ u.At ⟨rfl,u.drop.aG⟩))
theorem C310(k:Int)(w:World):CR 310 [hZ k] w (λv w'=>v=.string (fE k)/\Ext w w'):=by
 have u:=St.start w;refine eX Tryz.func310 ?_;refine⟨λB w'=>B=.bool (decide (k<0\/15<=k))/\w'=w,?_,?_⟩
 .exact aR (aC (λc=>⟨vb (ez (.inl c)).symm,rfl⟩) λ_=>cR ⟨vb (ga.2 cK),rfl⟩)
 rintro _ _ ⟨rfl,rfl⟩ _;refine aC (λ_=>⟨gN Fa (by unfold fE;rw[ew cK]),u.aG⟩) (λc=>aV aoO u (C336 _) λ_ E u=>?_);obtain⟨n,rfl⟩:∃n:Nat,k=n:=⟨k.toNat,cK⟩;refine pop (v:=.string (fE n)) ?_ ⟨rfl,u.aG⟩
 match n,c with
 | 0,_=>exact(by kernel_rfl:pr hH (u3 364 (ia K15.mk) (hZ ((0:Nat):Int)))=some (.string (fE ((0:Nat):Int))))
 | 1,_=>exact(by kernel_rfl:pr hH (u3 364 (ia K15.mk) (hZ ((1:Nat):Int)))=some (.string (fE ((1:Nat):Int))))
 | 2,_=>exact(by kernel_rfl:pr hH (u3 364 (ia K15.mk) (hZ ((2:Nat):Int)))=some (.string (fE ((2:Nat):Int))))
 | 3,_=>exact(by kernel_rfl:pr hH (u3 364 (ia K15.mk) (hZ ((3:Nat):Int)))=some (.string (fE ((3:Nat):Int))))
 | 4,_=>exact(by kernel_rfl:pr hH (u3 364 (ia K15.mk) (hZ ((4:Nat):Int)))=some (.string (fE ((4:Nat):Int))))
 | 5,_=>exact(by kernel_rfl:pr hH (u3 364 (ia K15.mk) (hZ ((5:Nat):Int)))=some (.string (fE ((5:Nat):Int))))
 | 6,_=>exact(by kernel_rfl:pr hH (u3 364 (ia K15.mk) (hZ ((6:Nat):Int)))=some (.string (fE ((6:Nat):Int))))
 | 7,_=>exact(by kernel_rfl:pr hH (u3 364 (ia K15.mk) (hZ ((7:Nat):Int)))=some (.string (fE ((7:Nat):Int))))
 | 8,_=>exact(by kernel_rfl:pr hH (u3 364 (ia K15.mk) (hZ ((8:Nat):Int)))=some (.string (fE ((8:Nat):Int))))
 | 9,_=>exact(by kernel_rfl:pr hH (u3 364 (ia K15.mk) (hZ ((9:Nat):Int)))=some (.string (fE ((9:Nat):Int))))
 | 10,_=>exact(by kernel_rfl:pr hH (u3 364 (ia K15.mk) (hZ ((10:Nat):Int)))=some (.string (fE ((10:Nat):Int))))
 | 11,_=>exact(by kernel_rfl:pr hH (u3 364 (ia K15.mk) (hZ ((11:Nat):Int)))=some (.string (fE ((11:Nat):Int))))
 | 12,_=>exact(by kernel_rfl:pr hH (u3 364 (ia K15.mk) (hZ ((12:Nat):Int)))=some (.string (fE ((12:Nat):Int))))
 | 13,_=>exact(by kernel_rfl:pr hH (u3 364 (ia K15.mk) (hZ ((13:Nat):Int)))=some (.string (fE ((13:Nat):Int))))
 | 14,_=>exact(by kernel_rfl:pr hH (u3 364 (ia K15.mk) (hZ ((14:Nat):Int)))=some (.string (fE ((14:Nat):Int))))
 | n+15,c=>exact absurd (.inr cK) c
def aia:List Nat:=[107,114,110,101,102]
def aoQ(c:Nat):ByteArray:=⟨#[c.toUInt8]⟩
def C312(k:Int)(c:Nat)(hc:c∈aia)(w:World):CR 312 [.string (fE k),.string (aoQ c)] w (λv w'=>v=.bool (eQ (fE k) c)/\Ext w w'):=by
 have u:=St.start w;refine eX Tryz.func312 ?_;refine aV agh u (C337 (fE k) c.toUInt8 _) (λ_ B u=>cR ?_);refine⟨vb ?_,u.aG⟩;have h1:=Xn (iN (fE k)) c.toUInt8;have h2:c.toUInt8.toNat=c:=(by decide:∀c∈aia,c.toUInt8.toNat=c) c hc;unfold eQ;rw[show(λb:UInt8=>decide ((b.toNat:Int)=(c:Int)))=λb=>decide (b=c.toUInt8)from funext λ_=>ga.2 ⟨λ_=>UInt8.toNat_inj.1 cK,λh=>by rw[h,h2]⟩];exact(Bool.eq_iff_iff.2 (decide_eq_true_iff.trans h1))
def C311(k:Int)(c b2:Nat)(w:World)(hc:Cell w b2 0 (.string (fE k)))(B:c∈aia):CR 311 [.string (aoQ c),.pointer (some ⟨b2,0,none⟩)] w (λv w'=>v=.bool (eQ (fE k) c)/\Ext w w'):=by
 have u:=St.start w;refine eX Tryz.func311 ?_;exact bM gv (hc.ext u.aG) (aV aoP u (C312 k c B _) λ_ _ u=>⟨rfl,u.aG⟩)
def C313(b:Bool)(s:ByteArray)(w:World):CR 313 [.bool b,.string s] w (λv w'=>v=.bool ((b&&gJ s)||(!b&&decide (s=⟨#[]⟩)))/\Ext w w'):=by
 have u:=St.start w;refine eX Tryz.func313 ?_;refine⟨λB w'=>B=.bool ((b&&gJ s)||(!b&&decide (s=⟨#[]⟩)))/\St w bD [] w',aY (λ_=>aV LC u (C180 _ _) λ_ _ u=>aY (λ_=>⟨vb dD,u⟩) λ_=>bR (aY (λ_=>jG ⟨vb dD,u⟩) λ_=>⟨vb dD,u⟩)) (λ_=>bR (aY (λ_=>jG ⟨vb dD,u⟩) λ_=>⟨vb dD,u⟩)),?_⟩;rintro _ _ ⟨rfl,u⟩ _;exact⟨rfl,u.aG⟩
def C314(b:Bool)(lv:Value)(xs:List cA)(w:World)(B:dA (λ_=>True) w lv xs)(G:xs.length<=1048576):CR 314 [.bool b,lv] w (λv w'=>v=.bool ((b&&fz xs)||(!b&&decide (xs.length=0)))/\Ext w w'):=by
 have u:=St.start w;refine eX Tryz.func314 ?_;refine⟨λE w'=>E=.bool ((b&&fz xs)||(!b&&decide (xs.length=0)))/\St w bD [] w',aY (λ_=>aV RT u (C185 _ _ _ (B.ext u.aG) cK) λ_ _ u=>aY (λ_=>⟨vb dD,u⟩) λ_=>bR (aY (λ_=>aK gV (B.ext u.aG) (aH ⟨vb dD,u⟩)) λ_=>⟨vb dD,u⟩)) (λ_=>bR (aY (λ_=>aK gV (B.ext u.aG) (aH ⟨vb dD,u⟩)) λ_=>⟨vb dD,u⟩)),?_⟩;rintro _ _ ⟨rfl,u⟩ _;exact⟨rfl,u.aG⟩
theorem LZ{x:bQ}{u:Bool}(h:u=(if eQ (fE x.kind) 107=true then decide (1<=x.n/\x.n<=8)else decide (x.n=0))) :
  (!(decide (1<=x.kind/\x.kind<15/\0<=x.at_/\x.at_<=4000)&&u)||(!(eQ (fE x.kind) 114&&gJ x.eD||!eQ (fE x.kind) 114&&decide (x.eD=⟨#[]⟩))||(!(eQ (fE x.kind) 110&&gJ x.name||!eQ (fE x.kind) 110&&decide (x.name=⟨#[]⟩)) ||
  (!(eQ (fE x.kind) 101&&fz x.e||!eQ (fE x.kind) 101&&decide (x.e.length=0))||!(eQ (fE x.kind) 102&&fz x.f||!eQ (fE x.kind) 102&&decide (x.f.length=0)))))) = !m7 x:=by
 subst h
 have B:gJ x.eD=true->¬ x.eD=⟨#[]⟩:=λh e=>by rw[e]at h;exact absurd h ee
 have G:gJ x.name=true->¬ x.name=⟨#[]⟩:=λh e=>by rw[e]at h;exact absurd h ee
 have I:fz x.e=true->¬ x.e.length=0:=λh e=>by rw[r6.1 e]at h;exact absurd h ee
 have E:fz x.f=true->¬ x.f.length=0:=λh e=>by rw[r6.1 e]at h;exact absurd h ee
 unfold m7
 cases h1:eQ (fE x.kind) 114<;>cases h2:eQ (fE x.kind) 110<;>cases h3:eQ (fE x.kind) 101<;>cases h4:eQ (fE x.kind) 102<;>cases h5:eQ (fE x.kind) 107<;>simp<;>grind
def C283(x:bQ)(Z:bE)(w:World)(hx:mG w Z x)(O:x.e.length<=1048576)(W:x.f.length<=1048576):CR 283 [ia Z] w (λv w'=>v=.bool (!m7 x)/\Ext w w'):=by
 obtain⟨J,U,rfl,Ly,G9⟩:=hx;have u:=St.start w;refine oH Tryz.func283 (pl:=avj) ?_;refine cI u (λI _ u=>aA dN (aB (v:=hZ x.kind) bL u.hb rfl (aV aow u (C310 _ _) λ_ B u=>gB u afH rfl λE _ u=>aT u gv (dL rfl) (rfl) λ_ u=>aA jO (aB (v:=hZ x.n) bL u.p1.hb rfl (aH ⟨λG w'=>G=.bool (if eQ (fE x.kind) 107=true then decide (1<=x.n/\x.n<=8)else decide (x.n=0))/\St w bD [bY E [.string (fE x.kind)],bY I (j0 (⟨x.kind,x.eD,x.name,J,U,x.n,x.body,x.eu,x.at_⟩:bE))] w',?_,?_⟩)))))
 .refine gT LY (C311 x.kind 107 E _ (u.hb.cell rfl) ee) ?_;rintro _ _ ⟨rfl,B⟩;have u:=u.ext B;exact aY (λ_=>aA jO (aB (v:=hZ x.n) bL u.p1.hb rfl (cR (aC (λ_=>aA jO (aB (v:=hZ x.n) bL u.p1.hb rfl (iB ⟨vb dD,u⟩))) λ_=>⟨vb dD,u⟩)))) (λ_=>⟨vb dD,u⟩)
 rintro _ _ ⟨rfl,u⟩ _;refine⟨λG w'=>G=.bool (decide (1<=x.kind/\x.kind<15/\0<=x.at_/\x.at_<=4000)&&(if eQ (fE x.kind) 107=true then decide (1<=x.n/\x.n<=8)else decide (x.n=0)))/\St w bD [bY E [.string (fE x.kind)],bY I (j0 (⟨x.kind,x.eD,x.name,J,U,x.n,x.body,x.eu,x.at_⟩:bE))] w',?_,?_⟩
 .refine aA dN (aB (v:=hZ x.kind) bL u.p1.hb rfl (cR ?_));exact aC (λ_=>aA dN (aB (v:=hZ x.kind) bL u.p1.hb rfl (aR (aC (λ_=>aA lJ (aB (v:=hZ x.at_) bL u.p1.hb rfl (cR (aC (λ_=>aA lJ (aB (v:=hZ x.at_) bL u.p1.hb rfl (iB (aC (λ_=>⟨vb dD,u⟩) λ_=>⟨vb dD,u⟩)))) λ_=>⟨vb dD,u⟩)))) λ_=>⟨vb dD,u⟩)))) (λ_=>⟨vb dD,u⟩)
 rintro _ _ ⟨rfl,u⟩ _;refine⟨λG w'=>G=.bool (!m7 x)/\St w bD [bY E [.string (fE x.kind)],bY I (j0 (⟨x.kind,x.eD,x.name,J,U,x.n,x.body,x.eu,x.at_⟩:bE))] w',bR (aY (λ_=>have u:=u.drew;⟨vb (by rw[<- LZ rfl];grind),u⟩) λRY=>?_),?_⟩
 .refine aA iE (have u:=u.drew;aB (v:=.string x.eD) gv u.p1.hb rfl (gT LY (C311 x.kind 114 E _ (u.hb.cell rfl) ee) ?_));rintro _ _ ⟨rfl,B⟩;have u:=u.ext B;refine⟨aF gv (u.p1.hb.cell rfl),?_⟩;refine gT agj (C313 _ x.eD _) ?_;rintro _ _ ⟨rfl,B⟩;have u:=u.ext B;refine bR (aY (λ_=>⟨vb (by rw[<- LZ rfl];grind),u⟩) λagn=>aA fZ (aB (v:=.string x.name) gv u.p1.hb rfl (gT LY (C311 x.kind 110 E _ (u.hb.cell rfl) ee) ?_)));rintro _ _ ⟨rfl,B⟩;have u:=u.ext B;refine⟨aF gv (u.p1.hb.cell rfl),?_⟩;refine gT agj (C313 _ x.name _) ?_
  rintro _ _ ⟨rfl,B⟩;have u:=u.ext B;refine bR (aY (λ_=>⟨vb (by rw[<- LZ rfl];grind),u⟩) λY=>aA iV (aB ju u.p1.hb rfl ?_));have M:=DL.flat Ly;refine gT LY (C311 x.kind 101 E _ (u.hb.cell rfl) ee) ?_;rintro _ _ ⟨rfl,B⟩;have u:=u.ext B;refine⟨aF ju (u.p1.hb.cell rfl),?_⟩;refine gT agk (C314 _ _ x.e _ (M.ext u.aG) O) ?_;rintro _ _ ⟨rfl,B⟩;have u:=u.ext B;refine bR (aY (λ_=>⟨vb (by rw[<- LZ rfl];grind),u⟩) λaf4=>aA j8 (aB ju u.p1.hb rfl ?_));have V:=DL.flat G9;refine gT LY (C311 x.kind 102 E _ (u.hb.cell rfl) ee) ?_
  rintro _ _ ⟨rfl,B⟩;have u:=u.ext B;refine⟨aF ju (u.p1.hb.cell rfl),?_⟩;refine gT agk (C314 _ _ x.f _ (V.ext u.aG) W) ?_;rintro _ _ ⟨rfl,B⟩;have u:=u.ext B;exact bR ⟨vb (by rw[<- LZ rfl];grind),u⟩
 rintro _ _ ⟨rfl,u⟩ _;exact⟨rfl,u.drop.drop.aG⟩
def BX{l:List cA}(h:fz l=true):∀y∈l,0<=y.at_:=by
 intro y B
 unfold fz at h
 have u:l.any lh=false:=dD
 rw[zJ]at u
 have:=u y B
 unfold lh at this
 grind
structure aoR(x:bQ):Prop where
 kind:1<=x.kind/\x.kind<=14
 at0:0<=x.at_/\x.at_<=4000
 e:(eQ (fE x.kind) 101=true/\fz x.e=true)\/(eQ (fE x.kind) 101=false/\x.e=[])
 f:(eQ (fE x.kind) 102=true/\fz x.f=true)\/(eQ (fE x.kind) 102=false/\x.f=[])
 eD:(eQ (fE x.kind) 114=true/\gJ x.eD=true)\/(eQ (fE x.kind) 114=false/\x.eD=⟨#[]⟩)
 name:(eQ (fE x.kind) 110=true/\gJ x.name=true)\/(eQ (fE x.kind) 110=false/\x.name=⟨#[]⟩)
 n:(eQ (fE x.kind) 107=true/\1<=x.n/\x.n<=8)\/(eQ (fE x.kind) 107=false/\x.n=0)
def ye{x:bQ}(h:m7 x=true):aoR x:=by
 unfold m7 at h
 simp only[n5,sk,Bool.or_eq_false_iff,decide_eq_false_iff_not,bne_eq_false_iff_eq,Bool.and_eq_false_iff,Bool.not_eq_false',u1]at h
 obtain⟨⟨⟨h1,h2⟩,h3⟩,h4⟩:=h
 constructor
 .omega
 .omega
 .grind
 .grind
 .grind
 .grind
 grind
def ac9{x:bQ}(h:m7 x=true):0<=x.at_/\(∀y∈x.e,0<=y.at_)/\(∀y∈x.f,0<=y.at_):=by
 have h:=ye h
 refine⟨h.at0.1,?_,?_⟩
 .rcases h.e with h|h
  .exact BX h.2
  grind
 rcases h.f with h|h
 .exact BX h.2
 grind
theorem aib:eQ (fE 12) 107=true:=ee
theorem lu{l:List bQ}(h:pL l=true):l.length<=40/\(∀x∈l,m7 x=true)/\∃t:Bk,l=t.flat/\t.str/\t.ok 0=true/\t.depth<=12:=by
 unfold pL at h
 simp only[n5,decide_eq_true_eq,sk]at h
 obtain⟨⟨h1,h2⟩,h3⟩:=h
 rw[zJ]at h2
 refine⟨h1,λx B=>dD,?_⟩
 unfold fC at h3
 cases hb:td l with
 | none=>grind
 | some t=>
  rw[hb]at h3
  obtain⟨u,E⟩:=nX hb
  grind
structure PF(p:cE):Prop where
 lines:∀l∈p.lines,l≠[]/\∀c∈l,iP 4294967296 c=false
 iO:∀c∈p.iO,iP 4294967296 c=false
 eJ:∀c∈p.eJ,iP 0 c=false
 th:∀t∈p.threads,mB true t=false
 rc:∀t∈p.recover,mB false t=false
 cl:∀c∈p.dS,0<=c.at_/\fz c.e=true
 one:p.recover.length<=1
def qA{p:cE}(h:kr p=true):PF p:=by
 unfold kr nY nK at h
 simp only[n5,sk,zJ,decide_eq_true_eq]at h
 obtain⟨⟨h1,h2⟩,⟨⟨h3,h4⟩,h5⟩,h6⟩:=h
 refine⟨λl u=>?_,λc hc=>dD,λc hc=>dD,λt ht=>dD,λt ht=>dD,λc hc=>?_,h6⟩
 .have:=h1 l u
  unfold nQ nY at this
  grind
 have:=h2 c hc
 unfold lR rC at this
 grind
def zC{nb:Bool}{t:cN}(h:mB nb t=false):0<=t.at_/\pL t.body=true/\(∀s∈t.dP,gJ s=true)/\gJ t.name=nb:=by
 unfold mB so rC at h
 grind
def zD{m:Int}{c:cJ}(h:iP m c=false):0<=c.at_/\gJ c.name=true/\0<=c.n/\c.n<=m:=by
 unfold iP rC at h
 grind
def gl(p:cE):List cN:=p.threads++p.recover
def PF.qR{p:cE}(h:PF p){t:cN}(ht:t∈gl p):0<=t.at_/\pL t.body=true/\∀s∈t.dP,gJ s=true:=by
 unfold gl at ht
 rcases pI.1 ht with ht|ht
 .have:=zC (h.th t ht);grind
 have:=zC (h.rc t ht);grind
def eT(p:cE):List Int:=(im p).map cJ.n
def ey(p:cE):Int:=(p.lines.flatten.length:Int)
def XG(p:cE):((im p).length:Int)-p.iO.length=ey p:=by unfold im ey;rw[lY];omega
def cT(p:cE):List ByteArray:=(im p).map cJ.name
def cM(p:cE):List ByteArray:=p.eJ.map cJ.name
def jq:List (List cJ)->Int->Int->Int
 | [],i,a=>i+a
 | l::r,i,a=>if a<l.length then i else jq r (i+1) (a-l.length)
def py(p:cE)(c:Int):Int:=if c<0\/(im p).length<=c then -1 else jq p.lines 0 c
def o8(l:List cA)(ns:List ByteArray):Bool:=l.any λx=>decide (x.op=2)&&decide (cU ns x.name<0)
def rh(x:bQ)(n:Int):Int:=if x.kind=12 then n*x.n else n
def mE:Bk->Int->Bool
 | .nil,_=>false
 | .cons x a b r,n=>decide (64<rh x n)||(mE a (rh x n)||mE b (rh x n))||mE r n
def Bk.app:Bk->Bk->Bk
 | .nil,t=>t
 | .cons x a b r,t=>.cons x a b (r.app t)
theorem Bk.AU(a b:Bk):(a.app b).flat=a.flat++b.flat:=by
 induction a with
 | nil=>rfl
 | cons x c d r _ _ u=>grind[flat,app]
theorem Bk.RZ{a b:Bk}(u:a.str)(hb:b.str):(a.app b).str:=by
 induction a with
 | nil=>exact hb
 | cons x c d r _ _ B=>
  grind[str,app]
theorem Hh(a b:Bk)(n:Int):mE (a.app b) n=(mE a n||mE b n):=by
 induction a with
 | nil=>simp[Bk.app,mE]
 | cons x c d r _ _ u=>simp only[Bk.app,mE,u,Bool.or_assoc]
def ri(l:List bQ):Bool:=match td l with|some t=>mE t 1|none=>false
theorem vq{t:Bk}(h:t.str):ri t.flat=mE t 1:=by unfold ri;rw[rN h]
def fO(p:cE):List cJ:=im p++p.eJ++p.threads.map (λt=>⟨t.name,0,t.at_⟩)
def Dr(l:List cJ)(j:Nat):Bool:=match l[j]? with|some c=>decide (cU (l.map cJ.name) c.name<j)|none=>false
def kx(l:List cJ):Bool:=(uT l.length).any (Dr l)
def R0(p:cE)(rs:List ByteArray)(j:Nat):Bool:=match rs[j]? with|some s=>decide (cU rs s<j)||decide (0<=cU (cT p) s)||decide (0<=cU (cM p) s)|none=>false
def uN(p:cE)(rs:List ByteArray):Bool:=(uT rs.length).any (R0 p rs)
theorem L4{f:Nat->Bool}{n:Nat}(h:∀j,j<n->f j=false):(uT n).any f=false:=by
 grind
theorem L5{f:Nat->Bool}{n j:Nat}(u:j<n)(h:f j=true):(uT n).any f=true:=wY.2 ⟨j,K0.2 u,h⟩
def R2{f:Nat->Bool}{k:Nat}(h:∀j,j<k->f j=false)(B:f k=false):∀j,j<k+1->f j=false:=λj u=>by
 grind
def m8(p:cE)(rs:List ByteArray)(x:bQ):Bool:=
 (decide (¬ x.eD=⟨#[]⟩)&&decide (cU rs x.eD<0)) ||
 ((decide (x.kind=2)||decide (x.kind=3)||decide (x.kind=4))&&decide (cU (cT p) x.name<0)) ||
 ((decide (x.kind=5)||decide (x.kind=6))&&(decide (cU (cT p) x.name<0)||decide (ey p<=cU (cT p) x.name))) ||
 ((decide (x.kind=9)||decide (x.kind=10))&&decide (cU (cM p) x.name<0))||o8 x.e rs||o8 x.f rs
def uO(p:cE):Bool:=p.lines.any (λl=>decide (4<(l.length:Int)))||(gl p).any (λt=>decide (4<(t.dP.length:Int))) ||
 (decide (4<(p.lines.length:Int))||decide (4<(p.iO.length:Int))||decide (2<(p.eJ.length:Int))||decide ((p.threads.length:Int)<1)||decide (3<(p.threads.length:Int))||decide (4<(p.dS.length:Int)))
def gm(p:cE):List ByteArray:=(cT p).take (ey p).toNat
def fj(p:cE):Int:=
 if kr p=false then 8 else if uO p=true then 2 else if (gl p).any (λt=>ri t.body)=true then 11 else if kx (fO p)=true then 10
 else if (gl p).any (λt=>uN p t.dP)=true then 10 else if (gl p).any (λt=>t.body.any (m8 p t.dP))=true then 9
 else if p.dS.any (λc=>o8 c.e (gm p))=true then 9 else 0
def Jb{x:bQ}(h:m7 x=true):0<=x.at_/\(x.kind=12->1<=x.n/\x.n<=8):=by
 have h:=ye h
 refine⟨h.at0.1,λu=>?_⟩
 rcases h.n with h|h
 .exact h.2
 rw[u,aib]at h;grind
section
variable {p:cE}
theorem ce8(h1:kr p=false):fj p=8:=by unfold fj;grind
theorem ce2(h1:kr p=true)(h2:uO p=true):fj p=2:=by grind[fj]
theorem aoS(h1:kr p=true)(h2:uO p=false)(h3:(gl p).any (λt=>ri t.body)=true):fj p=11:=by grind[fj]
theorem aoT(h1:kr p=true)(h2:uO p=false)(h3:(gl p).any (λt=>ri t.body)=false)(h4:kx (fO p)=true):fj p=10:=by
 grind[fj]
theorem ago(h1:kr p=true)(h2:uO p=false)(h3:(gl p).any (λt=>ri t.body)=false)(h4:kx (fO p)=false)(h5:(gl p).any (λt=>uN p t.dP)=true):fj p=10:=by
 grind[fj]
theorem ce9(h1:kr p=true)(h2:uO p=false)(h3:(gl p).any (λt=>ri t.body)=false)(h4:kx (fO p)=false)(h5:(gl p).any (λt=>uN p t.dP)=false)
  (h6:(gl p).any (λt=>t.body.any (m8 p t.dP))=true):fj p=9:=by
 grind[fj]
theorem aoU(h1:kr p=true)(h2:uO p=false)(h3:(gl p).any (λt=>ri t.body)=false)(h4:kx (fO p)=false)(h5:(gl p).any (λt=>uN p t.dP)=false)
  (h6:(gl p).any (λt=>t.body.any (m8 p t.dP))=false) (u:p.dS.any (λc=>o8 c.e (gm p))=true):fj p=9:=by
 grind[fj]
theorem ce0(h1:kr p=true)(h2:uO p=false)(h3:(gl p).any (λt=>ri t.body)=false)(h4:kx (fO p)=false)(h5:(gl p).any (λt=>uN p t.dP)=false)
  (h6:(gl p).any (λt=>t.body.any (m8 p t.dP))=false) (u:p.dS.any (λc=>o8 c.e (gm p))=false):fj p=0:=by
 grind[fj]
theorem PF.decl(h:PF p):∀c∈fO p,0<=c.at_:=by
 intro c hc
 unfold fO im at hc
 rcases pI.1 hc with hc|hc
 .rcases pI.1 hc with hc|hc
  .rcases pI.1 hc with hc|hc
   .obtain⟨l,u,hc⟩:=List.mem_flatten.1 hc
    exact(zD ((h.lines l u).2 c hc)).1
   exact(zD (h.iO c hc)).1
  exact(zD (h.eJ c hc)).1
 obtain⟨t,ht,rfl⟩:=oi.1 hc
 exact(zC (h.th t ht)).1
theorem T1(u:PS p):(fO p).length<=252000:=by
 have:=kU u
 have:=u.eJ
 have:=u.threads
 grind[fO]
theorem mF(u:PS p):(cT p).length<=250500:=by unfold cT;rw[n0];exact kU u
theorem Ds(u:PS p):(gl p).length<=1000:=by
 have:=u.threads
 have:=u.recover
 grind[gl]
theorem PZ.qR(u:PZ p){t:cN}(ht:t∈gl p):W6 t/\t.dP.length<=500/\t.body.length<=500:=by
 refine⟨?_,u.dP t ht,u.body t ht⟩
 rcases pI.1 ht with h|h
 .exact u.zt t h
 exact u.zr t h
end
def C118(p:cE)(pv:bP)(w:World)(hp:mG w pv p)(B:PZ p):CR 118 [ia pv] w (λv w'=>v=.bool (kr p)/\Ext w w'):=by
 obtain⟨bK,U,I,W,J,V,rfl,cQ,dG,cW,cB,cC,cP⟩:=hp;have u:=St.start w;refine eX Tryz.func118 ?_;refine cI u (λko w1 u=>?_);refine⟨λm x w1=>∃k:Nat,x=hZ (k:Int)/\m=p.lines.length-k/\k<=p.lines.length/\(∀y∈p.lines.take k,nQ y=false)/\St w bD [bY ko (j0 (⟨bK,U,I,W,J,V⟩:bP))] w1,⟨_,0,rfl,rfl,l1 _,ei,u⟩,?_⟩;rintro m _ _ ⟨k,rfl,rfl,hk,eE,u⟩ _;have hzl:=B.lines;refine aA gw (aB oO u.hb rfl ?_);obtain⟨aic,T3,XH⟩:=cQ.open
 have avl:=XH.1;refine aK pG (T3.ext u.aG) (aR (aC (λjH=>?_) λjH=>?_))
 .obtain⟨Et,qQ⟩:=gx aic (i:=(k:Int).toNat) cK;obtain⟨agp,ER⟩:=gx p.lines (i:=(k:Int).toNat) cK;have aoV:DL w (ia Et) agp:=XH.2 _ _ _ qQ ER;refine⟨λjv w'=>jv=.bool (nQ agp)/\St w bD [bY ko (j0 (⟨bK,U,I,W,J,V⟩:bP))] w',?_,?_⟩
  .refine aA gw (aB oO u.hb rfl (aO pG (T3.ext u.aG) cK qQ λ_ uG=>aD jK uG ?_));have Y:=DL.flat aoV;exact aK il (Y.ext u.aG) (aH (aC (λ_=>⟨vb (by unfold nQ;grind),u⟩) λ_=>aA gw (aB oO u.hb rfl (aO pG (T3.ext u.aG) cK qQ λ_ qz=>aD jK qz (aV VW u (C198 _ _ _ _ (Y.ext u.aG) (by have:=B.line _ (kO ER);omega) (B.zl _ (kO ER))) λ_ _ u=>bR ⟨vb (by unfold nQ;grind),u⟩)))))
  rintro _ _ ⟨rfl,u⟩ _;refine aY (λlq=>?_) (λlq=>aN cK ⟨_,cK,k+1,rfl,rfl,cK,dY eE ER lq,u⟩);refine⟨vb ?_,u.drop.aG⟩;unfold kr;rw[hG ER lq];rfl
 have M:=eE;refine⟨λm x w1=>∃E:Nat,x=hZ (E:Int)/\m=p.dS.length-E/\E<=p.dS.length/\(∀y∈p.dS.take E,lR y=false)/\St w bD [bY ko (j0 (⟨bK,U,I,W,J,V⟩:bP))] w1,⟨_,0,rfl,rfl,l1 _,ei,u⟩,?_⟩;rintro m _ _ ⟨E,rfl,rfl,WW,O6,u⟩ _;have hzc:=B.dS;refine aA jt (aB qP u.hb rfl ?_);obtain⟨avm,G,aoX⟩:=cP.open;have hn13:=aoX.1;refine aK sY (G.ext u.aG) (aR (aC (λkc=>?_) λkc=>⟨λjv w'=>jv=.bool (nY 4294967296 p.iO&&nY 0 p.eJ&&nK true p.threads&&nK false p.recover&&decide (p.recover.length<=1))/\St w bD [bY ko (j0 (⟨bK,U,I,W,J,V⟩:bP))] w',?_,?_⟩))
 .obtain⟨L6,BY⟩:=gx avm (i:=(E:Int).toNat) cK;obtain⟨Z,O⟩:=gx p.dS (i:=(E:Int).toNat) cK;obtain⟨adb,rfl,ade⟩:=aoX.2 _ _ _ BY O;refine⟨λjv w'=>jv=.bool (lR Z)/\St w bD [bY ko (j0 (⟨bK,U,I,W,J,V⟩:bP))] w',aA jt (aB qP u.hb rfl (aO sY (G.ext u.aG) cK BY λ_ yM=>bV Z.at_ IK yM rfl rfl λ_ xd=>aD bL xd (aV Rf u (C199 _ _) λ_ he u=>bR (aY (λ_=>⟨vb (by unfold lR;grind),u⟩) λqB=>?_)))),?_⟩
  .refine aA jt (aB qP u.hb rfl (aO sY (G.ext u.aG) cK BY λ_ AN=>bV adb vh AN rfl rfl λ_ Lx=>aD ju Lx ?_));have avn:=DL.flat ade;exact aV KA u (C200 _ _ _ (avn.ext u.aG) (B.zc _ (kO O)).1 (B.zc _ (kO O)).2) (λ_ _ u=>bR ⟨vb (by unfold lR;grind),u⟩)
  rintro _ _ ⟨rfl,u⟩ _;refine aY (λuP=>?_) (λuP=>aN cK ⟨_,cK,E+1,rfl,rfl,cK,dY O6 O uP,u⟩);refine⟨vb ?_,u.drop.aG⟩;unfold kr;rw[hG O uP];simp
 .refine aA qc (aB jK u.hb rfl ?_);have avo:=DL.flat dG;refine aV VW u (C198 _ _ _ _ (avo.ext u.aG) (by have:=B.iO;omega) B.zv) (λ_ he u=>aY (λRI=>?_) λ_=>⟨vb dD,u⟩);refine aA nP (aB jK u.hb rfl ?_);have aie:=DL.flat cW;refine aV VW u (C198 _ _ _ _ (aie.ext u.aG) (by have:=B.eJ;omega) B.zk) (λ_ he u=>aY (λc_x59=>aA kF (aB ix u.hb rfl (aV afs u (C201 _ _ true _ (cB.ext u.aG) (by have:=B.threads;omega) λ_ ht=>B.qR (List.mem_append_left _ ht)) λ_ he u=>aY (λuQ=>aA oP (aB ix u.hb rfl (aV afs u (C201 _ _ false _ (cC.ext u.aG) (by have:=B.recover;omega) λ_ ht=>B.qR (List.mem_append_right _ ht)) λ_ he u=>aY (λafU=>?_) λ_=>⟨vb dD,u⟩))) λ_=>⟨vb dD,u⟩))) λ_=>⟨vb dD,u⟩)
  refine aA oP (aB ix u.hb rfl ?_);obtain⟨ts17,avp,avq⟩:=cC.open;have hn17:=avq.1;exact aK fu (avp.ext u.aG) (iB ⟨vb dD,u⟩)
 rintro _ _ ⟨rfl,u⟩ _;refine⟨vb ?_,u.drop.aG⟩;unfold kr;rw[iz (by rw[kW cK]at M;exact M),iz (by rw[kW cK]at O6;exact O6)];rfl
def C63(p:cE)(pv:bP)(w:World)(hp:mG w pv p)(O:PZ p):CR 63 [ia pv] w (λv w'=>lg (bH v (eT p)) w w'):=by
 obtain⟨V,Y,I,W,J,U,rfl,cQ,dG,cW,cB,cC,cP⟩:=hp;have u:=St.start w;refine eX Tryz.func63 ?_;refine cI u (λko M u=>aZ ([]:List Int) u cS rfl rfl (dL rfl) λadf _ u=>aD et u.p1.At (dT Ty u (C59 p _ _ ⟨V,Y,I,W,J,U,rfl,cQ.ext u.aG,dG.ext u.aG,cW.ext u.aG,cB.ext u.aG,cC.ext u.aG,cP.ext u.aG⟩ O.toPS) λx8 _ cL u=>?_));have u:=u.p2.p1.p2;refine⟨λm y x M=>∃k:Nat,x=hZ (k:Int)/\m=(im p).length-k/\k<=(im p).length/\St w bD [bH y (((im p).take k).map cJ.n),bH x8 (im p),bY ko (j0 (⟨V,Y,I,W,J,U⟩:bP))] M,⟨_,0,rfl,rfl,cK,u⟩,?_⟩
 rintro m nh _ _ ⟨k,rfl,rfl,hk,u⟩ _;have hac:=kU O.toPS;have Cx:(((im p).take k).map cJ.n).length=k:=by rw[n0,l0];omega
 refine aK il u.p1.dX (aR (aC (λZ=>?_) λZ=>?_))
 .obtain⟨E,G⟩:=gx (im p) (i:=(k:Int).toNat) cK;refine dR u.p1 il cK cK (λ_ uH=>my rY uH λ_ lQ=>nF E.n u.p1 bL lQ G rfl (aZ ([E.n]:List Int) u cS rfl rfl (dL rfl) λaoY _ u=>?_));have B:=u.dX;exact bJ u.p1 cS B (by simp<;>omega) ee (λ_ _ u=>have u:=u.p1.drop;aN cK (have u:=u.p2.p2.p2;⟨_,cK,k+1,rfl,rfl,cK,by rw[<- gd (k:=k) G];exact u⟩))
 have u:=u.p1.drop.p1.drop;rw[kW cK]at u;exact u.fresh
def C124(p:cE)(pv:bP)(w:World)(M:mG w pv p)(B:PZ p):CR 124 [ia pv] w (λv w'=>lg (bH v (cT p)) w w'):=by
 obtain⟨Y,bU,G,aW,I,V,rfl,E,Z,O,U,W,J⟩:=M;have u:=St.start w;refine eX Tryz.func124 ?_;exact cI u (λ_ _ u=>aD et u.At (dT Ty u (C59 p _ _ ⟨Y,bU,G,aW,I,V,rfl,E.ext u.aG,Z.ext u.aG,O.ext u.aG,U.ext u.aG,(W).ext u.aG,J.ext u.aG⟩ B.toPS) λ_ _ _ u=>dT VX u (C202 _ _ _ u.dX (by have:=kU B.toPS;omega)) λ_ _ _ u=>have u:=u.p1.drop.p1.drop;u.fresh))
def C125(p:cE)(pv:bP)(w:World)(E:mG w pv p)(I:PZ p):CR 125 [ia pv] w (λv w'=>lg (bH v (cM p)) w w'):=by
 obtain⟨bK,bU,M,aW,O,W,rfl,J,dG,G,V,Y,U⟩:=E;have u:=St.start w;refine eX Tryz.func125 ?_;refine cI u (λZ _ u=>aA nP (aB jK u.hb rfl ?_));have B:=DL.flat G;exact dT VX u (C202 _ _ _ (B.ext u.aG) (by have:=I.eJ;omega)) (λ_ _ _ u=>have u:=u.p1.drop;u.fresh)
def C62(p:cE)(pv:bP)(w:World)(U:mG w pv p)(B:PZ p):CR 62 [ia pv] w (λv w'=>v=hZ (ey p)/\Ext w w'):=by
 obtain⟨bK,bU,J,aW,M,Y,rfl,I,G,V,W,Z,O⟩:=U;have u:=St.start w;refine oH Tryz.func62 (pl:=P62) ?_;refine cI u (λko _ u=>have u:=u.drew;aD et u.At (aA qc (aB jK u.hb rfl ?_)));have E:=DL.flat G;refine aK il (E.ext u.aG) (dT Ty u (C59 p _ _ ⟨bK,bU,J,aW,M,Y,rfl,I.ext u.aG,G.ext u.aG,V.ext u.aG,(W).ext u.aG,Z.ext u.aG,O.ext u.aG⟩ B.toPS) λx4 _ cL u=>?_);refine⟨aF jK (u.p1.hb.cell rfl),?_⟩
 refine aK il u.dX ?_;have hac:=kU B.toPS;have hzv:=B.iO;exact fg cK (have u:=u.drop.drop;⟨gN (nf .i64) (XG p),u.aG⟩)
theorem XI{l:List cJ}{r:List (List cJ)}{i a:Int}(h:¬ a<l.length):jq (l::r) i a=jq r (i+1) (a-l.length):=by rw[jq,ej h]
def XJ{x:bQ}{n m:Int}(u:1<=n/\n<=64)(h:x.kind=12->1<=x.n/\x.n<=8)(B:m=rh x n):1<=m/\m<=512:=by
 rw[B];unfold rh
 split
 .rename_i hk
  have:=h hk
  have h1:=I2 (a:=1) (b:=1) u.1 this.1 cK cK
  have h2:=I2 (c:=64) (d:=8) u.2 this.2 cK cK
  omega
 omega
theorem Bk.Dt{t:Bk}(h:¬ (t.flat.length:Int)=0):∃x a b r,t=.cons x a b r:=by
 cases t with
 | nil=>exact absurd rfl h
 | cons x a b r=>grind
theorem Bk.CU{x:bQ}{a b r:Bk}(h:(Bk.cons x a b r).str){hi lo:Int}(h1:hi=1+x.body+x.eu)(h2:lo=1):((Bk.cons x a b r).flat.take hi.toNat).drop lo.toNat=(a.app b).flat:=by
 obtain⟨u,E,_⟩:=h
 have B:=a.cY
 have lb:=b.cY
 rw[Bk.AU,vp _ (a:=1) (n:=(a.flat++b.flat).length) dD cK]
 grind[flat]
theorem Bk.aii{x:bQ}{a b r:Bk}(h:(Bk.cons x a b r).str){hi:Int}(h1:hi=1+x.body+x.eu):(Bk.cons x a b r).flat.drop hi.toNat=r.flat:=by
 obtain⟨u,E,_⟩:=h
 have B:=a.cY
 have lb:=b.cY
 have e:(Bk.cons x a b r).flat=(x::(a.flat++b.flat))++r.flat:=by simp[Bk.flat]
 rw[e,show hi.toNat=(x::(a.flat++b.flat)).length from by simp;omega,DF]
theorem yf{l:List cJ}{k:Nat}{c:cJ}(h:l[k]?=some c):Dr l k=decide (cU (l.map cJ.name) c.name<k):=by unfold Dr;rw[h]
theorem AV{p:cE}{l:List ByteArray}{k:Nat}{c:ByteArray}(h:l[k]?=some c):R0 p l k=(decide (cU l c<k)||decide (0<=cU (cT p) c)||decide (0<=cU (cM p) c)):=by unfold R0;rw[h]
theorem Du(a b:Bk):(a.app b).len=a.len+b.len:=by rw[<- Bk.cY,Bk.AU,lY,Bk.cY,Bk.cY]
def C60(p:cE)(pv:bP)(c:Int)(w:World)(hp:mG w pv p)(Y:PZ p):CR 60 [ia pv,hZ c] w (λv w'=>v=hZ (py p c)/\Ext w w'):=by
 obtain⟨bK,bU,O,aW,W,bG,rfl,cQ,dG,cW,cB,cC,cP⟩:=hp;have u:=St.start w;refine eX Tryz.func60 ?_;refine cI u (λI w1 u=>⟨λjv w'=>jv=.bool (decide (c<0)||decide (((im p).length:Int)<=c))/\St w bD [bY I (j0 (⟨bK,bU,O,aW,W,bG⟩:bP))] w',aR (aC (λ_=>⟨vb dD,u⟩) λ_=>aD et u.At (dT Ty u (C59 p _ _ ⟨bK,bU,O,aW,W,bG,rfl,cQ.ext u.aG,dG.ext u.aG,cW.ext u.aG,cB.ext u.aG,cC.ext u.aG,cP.ext u.aG⟩ Y.toPS) λ_ _ _ u=>aK il u.dX (cR (have u:=u.drop;⟨vb dD,u⟩)))),?_⟩)
 rintro _ _ ⟨rfl,u⟩ _;have hac:=kU Y.toPS;refine aY (λjo=>?_) (λjo=>?_)
 .refine⟨gN (nf .i64) ?_,u.drop.aG⟩;unfold py;rw[ew dD]
 have hc2:0<=c/\c<(im p).length:=dD
 refine⟨λm y x w1=>∃(k:Nat) (a:Int),y=hZ a/\x=hZ (k:Int)/\m=p.lines.length-k/\k<=p.lines.length/\0<=a/\a<=c/\jq p.lines 0 c=jq (p.lines.drop k) k a/\St w bD [bY I (j0 (⟨bK,bU,O,aW,W,bG⟩:bP))] w1,⟨_,0,c,rfl,rfl,rfl,cK,cK,cK,rfl,u⟩,?_⟩;rintro m _ _ _ ⟨k,a,rfl,rfl,rfl,hk,ha0,hac1,B,u⟩ _;have hzl:=Y.lines;refine aA gw (aB oO u.hb rfl ?_);obtain⟨V,J,G⟩:=cQ.open;have avt:=G.1;refine aK pG (J.ext u.aG) (aR (aC (λkS=>?_) λkS=>?_))
 .refine aA gw (aB oO u.hb rfl ?_);obtain⟨ao1,M⟩:=gx V (i:=(k:Int).toNat) cK;obtain⟨U,O8⟩:=gx p.lines (i:=(k:Int).toNat) cK;have Z:DL w (ia ao1) U:=G.2 _ _ _ M O8;refine aO pG (J.ext u.aG) cK M (λ_ EG=>aD jK EG ?_);have E:=DL.flat Z;refine aK il (E.ext u.aG) (aR (aC (λmc=>?_) λmc=>?_))
  .refine⟨gN (nf .i64) ?_,u.drop.aG⟩;rw[drop_cons (k:=k) O8]at B;unfold py;rw[ej cK,B];unfold jq;rw[ew cK]
  refine aA gw (aB oO u.hb rfl (aO pG (J.ext u.aG) cK M λ_ xe=>aD jK xe (aK il (E.ext u.aG) (fg cK (aN cK ?_)))));rw[drop_cons (k:=k) O8,XI cK]at B;exact⟨_,cK,k+1,_,rfl,rfl,rfl,cK,cK,cK,B,u⟩
 refine aA gw (aB oO u.hb rfl (aK pG (J.ext u.aG) (aN cK ?_)));refine⟨gN (nf .i64) ?_,u.drop.aG⟩;rw[vt cK]at B;unfold py;rw[ej cK,B];unfold jq;omega
def C127(lv O:Value)(xs:List cA)(ns:List ByteArray)(w:World)(G:dA (λ_=>True) w lv xs)(V:dA (λ_=>True) w O ns)(hn:xs.length<=1048576)(Bw:ns.length<=1048576)(U:∀y∈xs,0<=y.at_):CR 127 [lv,O] w (λv w'=>∃a:Int,v=hZ a/\decide (0<=a)=o8 xs ns/\Ext w w'):=by
 have u:=St.start w;refine eX Tryz.func127 ?_;refine⟨λm x M=>∃k:Nat,x=hZ (k:Int)/\m=xs.length-k/\k<=xs.length/\(∀y∈xs.take k,(decide (y.op=2)&&decide (cU ns y.name<0))=false)/\St w bD [] M,⟨_,0,rfl,rfl,l1 _,ei,u⟩,?_⟩;rintro m _ M ⟨k,rfl,rfl,hk,J,u⟩ _;refine aK gV (G.ext u.aG) (aR (aC (λjH=>?_) λjH=>?_))
 .obtain⟨E,B⟩:=gx xs (i:=(k:Int).toNat) cK;refine⟨λjv w'=>jv=.bool (decide (E.op=2)&&decide (cU ns E.name<0))/\St w bD [] w',aO gV (G.ext u.aG) cK B (λ_ ic=>bV E.op eY ic rfl rfl λ_ Y=>aD bL Y (aH (aC (λ_=>aO gV (G.ext u.aG) cK B λ_ W=>bV E.name gj W rfl rfl λ_ Z=>aD gv Z (aV rS u (C123 _ ns _ _ (V.ext u.aG) cK) λ_ _ u=>aR ⟨vb dD,u⟩)) λ_=>⟨vb dD,u⟩))),?_⟩;rintro _ _ ⟨rfl,u⟩ _;exact aY (λI=>aO gV (G.ext u.aG) cK B λ_ mA=>bV E.at_ r7 mA rfl rfl λ_ su=>aD bL su ⟨_,rfl,by unfold o8;rw[hG B I];exact ez (U _ (kO B)),u.aG⟩) (λI=>aN cK ⟨_,cK,k+1,rfl,rfl,cK,dY J B I,u⟩)
 rw[kW cK]at J;exact⟨_,rfl,by unfold o8;rw[iz J];rfl,u.aG⟩
theorem C121(lv:Value)(t:Bk)(n:Int)(N:Nat)(w:World)(hL:DL w lv t.flat)(Y:t.str)(hq:∀x∈t.flat,0<=x.at_/\(x.kind=12->1<=x.n/\x.n<=8))(V:1<=n/\n<=64)(hl:t.len<=1048576)(hN:t.len<N):CR 121 [lv,hZ n] w (λv w'=>∃a:Int,v=hZ a/\decide (0<=a)=mE t n/\Ext w w'):=by
 have tS:=t.cY;have u:=St.start w;refine eX Tryz.func121 ?_;obtain⟨Z,J,E⟩:=hL.open;have hn22:=E.1;refine aK fq (J.ext u.aG) (aH (aC (λjB=>?_) λjB=>?_))
 .cases t with
  | nil=>exact⟨_,rfl,rfl,u.aG⟩
  | cons x a b r=>exact absurd tS (by rw[show(Bk.cons x a b r).len=a.len+b.len+r.len+1 from rfl];omega)
 obtain⟨x,a,b,r,rfl⟩:=Bk.Dt (t:=t) cK;obtain⟨uF,vk⟩:=gx Z (i:=(0:Int).toNat) cK;obtain⟨B,XL⟩:=gx ((Bk.cons x a b r).flat) (i:=(0:Int).toNat) cK;obtain⟨R3,R4,rfl,asP,asQ⟩:=E.2 _ _ _ vk XL;refine aO fq (J.ext u.aG) cK vk (λ_ Es=>?_);obtain rfl:B=x:=(oe.inj XL).symm;have I:=hq B (by simp[Bk.flat]);have XM:=Y;obtain⟨Bz,F7,T6,hg4,hga,W,hgr⟩:=XM;have Gl:a.len+b.len+r.len+1<=1048576:=hl;have hNn:a.len+b.len+r.len+1<N:=hN;have hla:=a.cY;have N4:=b.cY;have hlr:=r.cY
 have XK:(Bk.cons B a b r).flat.length=a.len+b.len+r.len+1:=Bk.cY _;refine aD eL Es (aM u jw λI9 _ u=>aJ (x:=(⟨B.kind,B.eD,B.name,R3,R4,B.n,B.body,B.eu,B.at_⟩:bE)) u eL rfl rfl λ_ u=>⟨λjv w'=>∃m:Int,jv=hZ m/\m=rh B n/\St w bD [bY I9 (j0 (⟨B.kind,B.eD,B.name,R3,R4,B.n,B.body,B.eu,B.at_⟩:bE))] w',aA dN (aB (v:=hZ B.kind) bL u.hb rfl (aH (aC (λlP=>aA jO (aB (v:=hZ B.n) bL u.hb rfl (IB (by have T7:=I.2 lP;have h1:=I2 (a:=1) (b:=1) V.1 T7.1 cK cK;have h2:=I2 (c:=64) (d:=8) V.2 T7.2 cK cK;omega) ⟨_,rfl,by grind[rh],u⟩))) λ_=>⟨_,rfl,by grind[rh],u⟩))),?_⟩)
 rintro _ _ ⟨m,rfl,O,u⟩ _;have hm8:=XJ V I.2 O;refine cO (aC (λ_=>aA lJ (aB (v:=hZ B.at_) bL u.hb rfl ⟨_,rfl,by unfold mE;rw[<- O,ez (show(64:Int)<m by omega)];exact ez I.1,u.drop.aG⟩)) λnJ=>aA iW (aB (v:=hZ B.body) bL u.hb rfl (aN cK (aA iF (aB (v:=hZ B.eu) bL u.hb rfl (aN cK (ox fq (J.ext u.aG) cK cK cK λao4 aij=>?_)))))));have aik:=DL.cut aij J E;refine dQ VU (C121 _ (a.app b) m (N-1) _ (by have h:=aik.ext u.aG;rw[Bk.CU Y cK cK]at h;exact h) (Bk.RZ hga W) (λy M=>hq y (by rw[Bk.AU]at M;simp only[Bk.flat,sl,pI];rcases pI.1 M with h|h<;>simp[h])) cK (by rw[Du];omega) (by rw[Du];omega)) ?_
 rintro _ _ ⟨a1,rfl,G,he⟩;have u:=u.ext he;rw[Hh]at G;refine cR (aC (λU=>⟨_,rfl,by unfold mE;rw[<- O];rw[ez U]at G;rw[<- G,ez U];simp,u.drop.aG⟩) λU=>zo fq (J.ext u.aG) cK cK λags ail=>?_);have aim:=DL.WA ail J E;refine dQ VU (C121 _ r n (N-1) _ (by have h:=aim.ext u.aG;rw[Bk.aii Y cK]at h;exact h) hgr (λy M=>hq y (by simp[Bk.flat,M])) V cK cK) ?_;rintro _ _ ⟨a2,rfl,ha2,he⟩;have u:=u.ext he;exact⟨_,rfl,by unfold mE;rw[<- O];rw[<- G,ha2,fN (show ¬ (64:Int)<m by omega),fN U];rfl,u.drop.aG⟩
termination_by N
decreasing_by all_goals omega
def C120(p:cE)(pv:bP)(B E:List cG)(w:World)(J:mG w pv p)(h3:dA (λ_=>True) w (ia pv.threads) B)(h4:dA (λ_=>True) w (ia pv.recover) E)(I:B.length<=500)(U:E.length<=500):CR 120 [ia pv] w (λv w'=>lg (bH v (B++E)) w w'):=by
 obtain⟨bK,bU,Y,aW,Z,bG,rfl,W,dG,cW,cB,cC,cP⟩:=J;have u:=St.start w;refine eX Tryz.func120 ?_;refine cI u (λko _ u=>aZ ([]:List cG) u fu rfl rfl (dL rfl) λG _ u=>aA kF (aB ix u.p1.hb rfl ?_));have V:=(h3.ext u.aG);refine bJ u fu V (by simp<;>omega) ee (λM _ u=>aA oP (aB ix u.p1.hb rfl ?_));have O:=(h4.ext u.aG);exact bJ u fu O (by simp;omega) ee (λ_ _ u=>have u:=u.p1.drop;u.fresh)
def C122(p:cE)(pv:bP)(w:World)(hp:mG w pv p)(B:PZ p)(sy:∀c∈fO p,0<=c.at_):CR 122 [ia pv] w (λv w'=>∃a:Int,v=hZ a/\decide (0<=a)=kx (fO p)/\Ext w w'):=by
 obtain⟨U,W,G,V,I,O,rfl,cQ,dG,cW,cB,cC,cP⟩:=hp;have u:=St.start w;refine abL _ _ _ ?_;unfold S122;refine cI u (λko M u=>aZ ([]:List cJ) u il rfl rfl (dL rfl) λadk _ u=>aD et u.p1.At (dT Ty u (C59 p _ _ ⟨U,W,G,V,I,O,rfl,cQ.ext u.aG,dG.ext u.aG,cW.ext u.aG,cB.ext u.aG,cC.ext u.aG,cP.ext u.aG⟩ B.toPS) λx9 _ cL u=>?_));have ain:=u.dX;refine bJ u.p1 il ain (by simp;have:=kU B.toPS;omega) ee (λanK _ u=>have u:=u.p1.drop;aA nP (aB jK u.p1.hb rfl ?_))
 have avx:=DL.flat cW;have iZ:=(avx.ext u.aG);refine bJ u il iZ (by simp;have:=kU B.toPS;have:=B.eJ;omega) ee (λY _ u=>?_);have u:=u.p1.p1;refine⟨λm y x M=>∃k:Nat,x=hZ (k:Int)/\m=p.threads.length-k/\k<=p.threads.length/\St w bD [bH y (im p++p.eJ++(p.threads.take k).map λt=>(⟨t.name,0,t.at_⟩:cJ)),bY ko (j0 (⟨U,W,G,V,I,O⟩:bP))] M,⟨_,0,rfl,rfl,cK,by simpa using u⟩,?_⟩;rintro m l3 _ _ ⟨k,rfl,rfl,hk,u⟩ _;have hzt:=B.threads;refine aA kF (aB ix u.p1.hb rfl ?_)
 obtain⟨aio,L8,T8⟩:=cB.open;have avy:=T8.1;refine aK fu (L8.ext u.aG) (aR (aC (λfr=>?_) λfr=>?_))
 .refine aA kF (have u:=u.drew;aB ix u.p1.hb rfl ?_);obtain⟨e_x26,O9⟩:=gx aio (i:=(k:Int).toNat) cK;obtain⟨J,XN⟩:=gx p.threads (i:=(k:Int).toNat) cK;obtain⟨aip,aiq,rfl,air,ais⟩:=T8.2 _ _ _ O9 XN;refine aO fu (L8.ext u.aG) cK O9 (λ_ wX=>bV J.name qn wX rfl rfl λ_ uJ=>aD gv uJ (aA kF (aB ix u.p1.hb rfl (aO fu (L8.ext u.aG) cK O9 λ_ xj=>bV J.at_ qo xj rfl rfl λ_ rf=>aD bL rf (pop (Ec _ _) (aZ ([(⟨J.name,0,J.at_⟩:cJ)]) u il rfl rfl (dL rfl) λao5 _ u=>?_))))))
  have ait:=u.dX;exact bJ u.p1 il ait (by have:=kU B.toPS;have:=B.eJ;have:=B.threads;simp;omega) ee (λ_ _ u=>have u:=u.p1.drop;aN cK (have u:=u.p1.p1;⟨_,cK,k+1,rfl,rfl,cK,by rw[<- gd (k:=k) XN,<- n3];exact u⟩))
 rw[kW cK]at u;have Hb:=T1 B.toPS;have u:St w bD [bH l3 (fO p),bY ko (j0 (⟨U,W,G,V,I,O⟩:bP))] _:=u;refine dT VX u (C202 _ _ _ u.dX cK) (λx39 _ cL u=>?_);have u:=u.p2.p2.p2;refine⟨λm x M=>∃k:Nat,x=hZ (k:Int)/\m=(fO p).length-k/\k<=(fO p).length/\(∀j,j<k->Dr (fO p) j=false)/\St w bD [bH x39 ((fO p).map cJ.name),bH l3 (fO p),bY ko (j0 (⟨U,W,G,V,I,O⟩:bP))] M,⟨_,0,rfl,rfl,cK,ei,u⟩,?_⟩
 rintro m _ _ ⟨k,rfl,rfl,hk,eE,u⟩ _;refine aK il u.p1.dX (aR (aC (λvO=>?_) λ_=>have u:=u.drop.drop.drop;⟨_,rfl,by unfold kx;rw[L4 λj _=>eE j cK];rfl,u.aG⟩));obtain⟨ET,E⟩:=gx (fO p) (i:=(k:Int).toNat) cK;exact dR u.p1 il cK cK (λ_ EU=>my kP EU λ_ XO=>nF ET.name u.p1 gv XO E rfl (aV rS u (C123 _ ((fO p).map cJ.name) _ _ u.dX (by rw[n0];omega)) λ_ _ u=>aR (aC (λZ=>dR u.p1 il cK cK λ_ EV=>my uB EV λ_ AX=>nF ET.at_ u.p1 bL AX E rfl (have u:=u.drop.drop.drop;⟨_,rfl,by unfold kx;rw[L5 (j:=k) cK (by rw[yf (k:=k) E];exact ez Z)];exact ez (sy _ (kO E)),u.aG⟩)) λZ=>aN cK ⟨_,cK,k+1,rfl,rfl,cK,R2 eE (by rw[yf (k:=k) E];exact fN Z),u⟩)))
def C126(p:cE)(pv:bP)(t:cN)(tv:cG)(x:bQ)(xv:bE)(w:World)(hp:mG w pv p)(ht:mG w tv t)(hx:mG w xv x)(hz:PZ p)(hzt:t.dP.length<=500)(hzx:SzS x)(I:0<=x.at_/\(∀y∈x.e,0<=y.at_)/\(∀y∈x.f,0<=y.at_)):CR 126 [ia pv,ia tv,ia xv] w (λv w'=>∃a:Int,v=hZ a/\decide (0<=a)=m8 p t.dP x/\Ext w w'):=by
 obtain⟨U,W,J,V,M,O,rfl,cQ,dG,cW,cB,cC,cP⟩:=hp;obtain⟨lS,lT,rfl,nL,sB⟩:=ht;obtain⟨vS,vT,rfl,Ly,G9⟩:=hx;have EW:=mF hz.toPS;have BQ:(cM p).length<=500:=by unfold cM;rw[n0];exact hz.eJ
 have u:=St.start w;refine oH Tryz.func126 (pl:=aua) ?_;refine cI u (λE _ u=>cI u λG _ u=>cI u λI9 _ u=>⟨λB w'=>B=.bool (decide (¬ x.eD=⟨#[]⟩)&&decide (cU t.dP x.eD<0))/\St w bD [bY I9 (j0 (⟨x.kind,x.eD,x.name,vS,vT,x.n,x.body,x.eu,x.at_⟩:bE)),bY G (j0 (⟨t.name,lS,lT,t.at_⟩:cG)),bY E (j0 (⟨U,W,J,V,M,O⟩:bP))] w',aA iE (aB (v:=.string x.eD) gv u.hb rfl (l6 (aC (λjB=>?_) λ_=>⟨vb dD,u⟩))),?_⟩)
 .refine aA fR (aB ji u.p1.hb rfl ?_);have aiw:=DL.flat nL;exact aA iE (aB (v:=.string x.eD) gv u.hb rfl (aV rS u (C123 _ t.dP _ _ (aiw.ext u.aG) cK) λ_ _ u=>aR ⟨vb dD,u⟩))
 rintro _ _ ⟨rfl,u⟩ _;refine aY (λ_=>aA lJ (aB (v:=hZ x.at_) bL u.hb rfl (have u:=u.drop.drop.drop;⟨_,rfl,by rw[ez I.1];unfold m8;grind,u.aG⟩))) (λfr=>have u:=u.drew;aD et u.p2.At (aA fZ (aB (v:=.string x.name) gv u.hb rfl (dT Ky u (C124 p _ _ ⟨U,W,J,V,M,O,rfl,cQ.ext u.aG,dG.ext u.aG,cW.ext u.aG,cB.ext u.aG,cC.ext u.aG,cP.ext u.aG⟩ hz) λx23 _ cL u=>?_))));refine⟨aF gv (u.p1.hb.cell rfl),?_⟩;refine aV rS u (C123 _ (cT p) _ _ u.dX cK) (λw7 he u=>⟨λw'=>(((decide (x.kind=2)||decide (x.kind=3)||decide (x.kind=4))&&decide (cU (cT p) x.name<0))||((decide (x.kind=5)||decide (x.kind=6))&&(decide (cU (cT p) x.name<0)||decide (ey p<=cU (cT p) x.name)))||((decide (x.kind=9)||decide (x.kind=10))&&decide (cU (cM p) x.name<0)))=false/\St w bD [bY I9 (j0 (⟨x.kind,x.eD,x.name,vS,vT,x.n,x.body,x.eu,x.at_⟩:bE)),bY G (j0 (⟨t.name,lS,lT,t.at_⟩:cG)),bY E (j0 (⟨U,W,J,V,M,O⟩:bP))] w',aA dN (aB (v:=hZ x.kind) bL u.p1.hb rfl ⟨λB w'=>B=.bool (decide (x.kind=2\/x.kind=3\/x.kind=4))/\w7=w',aH (aC (λ_=>⟨yB cK,rfl⟩) λ_=>aH (aC (λ_=>⟨yB cK,rfl⟩) λ_=>aH ⟨yB cK,rfl⟩)),?_⟩),?_⟩)
 .rintro _ _ ⟨rfl,Y⟩ _;subst Y;refine aC (λ_=>aR (aC (λ_=>aA lJ (aB (v:=hZ x.at_) bL u.p1.hb rfl (have u:=u.drop.drop.drop.drop;⟨_,rfl,by rw[ez I.1];unfold m8;grind,u.aG⟩))) λ_=>have u:=u.drop.p2.p2.p2;⟨dD,u⟩)) (λagt=>⟨λB w'=>B=.bool (decide (x.kind=5\/x.kind=6))/\w7=w',aH (aC (λ_=>⟨yB cK,rfl⟩) λ_=>aH ⟨yB cK,rfl⟩),?_⟩);rintro _ _ ⟨rfl,Y⟩ _;subst Y;refine aC (λoZ=>⟨λB w'=>B=.bool (decide (cU (cT p) x.name<0)||decide (ey p<=cU (cT p) x.name))/\St w bD [bH x23 (cT p),bY I9 (j0 (⟨x.kind,x.eD,x.name,vS,vT,x.n,x.body,x.eu,x.at_⟩:bE)),bY G (j0 (⟨t.name,lS,lT,t.at_⟩:cG)),bY E (j0 (⟨U,W,J,V,M,O⟩:bP))] w',aR (aC (λ_=>⟨vb dD,u⟩) λ_=>aD et u.p3.At (aV Iw u (C62 p _ _ ⟨U,W,J,V,M,O,rfl,cQ.ext u.aG,dG.ext u.aG,cW.ext u.aG,cB.ext u.aG,cC.ext u.aG,cP.ext u.aG⟩ hz) λ_ _ u=>cR ⟨vb dD,u⟩)),?_⟩) (λoZ=>⟨λB w'=>B=.bool (decide (x.kind=9\/x.kind=10))/\w7=w',aH (aC (λ_=>⟨yB cK,rfl⟩) λ_=>aH ⟨yB cK,rfl⟩),?_⟩)
  .rintro _ _ ⟨rfl,u⟩ _;exact aY (λ_=>aA lJ (aB (v:=hZ x.at_) bL u.p1.hb rfl (have u:=u.drop.drop.drop.drop;⟨_,rfl,by rw[ez I.1];unfold m8;grind,u.aG⟩))) (λ_=>have u:=u.drop.p2.p2.p2;⟨dD,u⟩)
  rintro _ _ ⟨rfl,Y⟩ _;subst Y;exact aC (λ_=>have u:=u.drew;aD et u.p3.At (aA fZ (aB (v:=.string x.name) gv u.p1.hb rfl (dT Rb u (C125 p _ _ ⟨U,W,J,V,M,O,rfl,cQ.ext u.aG,dG.ext u.aG,cW.ext u.aG,cB.ext u.aG,cC.ext u.aG,cP.ext u.aG⟩ hz) λ_ _ _ u=>⟨aF gv (u.p2.hb.cell rfl),aV rS u (C123 _ (cM p) _ _ u.dX cK) λ_ _ u=>aR (aC (λ_=>aA lJ (aB (v:=hZ x.at_) bL u.p2.hb rfl (have u:=u.drop.drop.drop.drop.drop;⟨_,rfl,by rw[ez I.1];unfold m8;grind,u.aG⟩))) λ_=>have u:=u.drop.drop.p2.p2.p2;⟨dD,u⟩)⟩)))) (λ_=>have u:=u.drop.p2.p2.p2;⟨dD,u⟩)
 rintro _ ⟨hmid,u⟩ _;refine aA iV (aB ju u.hb rfl ?_);have avz:=DL.flat Ly;refine aA fR (aB ji u.p1.hb rfl ?_);have Z:=DL.flat nL;refine dQ VV (C127 _ _ _ _ _ (avz.ext u.aG) (Z.ext u.aG) hzx.2.2.1 cK I.2.1) ?_;rintro _ _ ⟨a_x65,rfl,avA,he⟩;have u:=u.ext he;refine cR (aC (λ_=>have u:=u.drop.drop.drop;⟨_,rfl,by unfold m8;grind,u.aG⟩) λwP=>aA j8 (aB ju u.hb rfl ?_));have avB:=DL.flat G9;refine aA fR (aB ji u.p1.hb rfl (dQ VV (C127 _ _ _ _ _ (avB.ext u.aG) (Z.ext u.aG) hzx.2.2.2.1 cK I.2.2) ?_))
 rintro _ _ ⟨a_x73,rfl,avC,he⟩;have u:=(((u.ext he).drop).drop).drop;exact⟨_,rfl,by unfold m8;grind,u.aG⟩
def C119(p:cE)(pv:bP)(w:World)(hp:mG w pv p)(V:PZ p):CR 119 [ia pv] w (λv w'=>v=.bool (uO p)/\Ext w w'):=by
 obtain⟨bK,bU,Z,aW,aX,bG,rfl,cQ,dG,cW,cB,cC,cP⟩:=hp;have u:=St.start w;refine eX Tryz.func119 ?_;refine cI u (λko W u=>?_);refine⟨λm x W=>∃k:Nat,x=hZ (k:Int)/\m=p.lines.length-k/\k<=p.lines.length/\(∀y∈p.lines.take k,decide (4<(y.length:Int))=false)/\St w bD [bY ko (j0 (⟨bK,bU,Z,aW,aX,bG⟩:bP))] W,⟨_,0,rfl,rfl,l1 _,ei,u⟩,?_⟩;rintro m _ _ ⟨k,rfl,rfl,hk,eE,u⟩ _;have hzl:=V.lines;refine aA gw (aB oO u.hb rfl ?_)
 obtain⟨avD,G,M⟩:=cQ.open;have hn29:=M.1;refine aK pG (G.ext u.aG) (aR (aC (λgH=>?_) λgH=>?_))
 .refine aA gw (aB oO u.hb rfl ?_);obtain⟨W9,nZ⟩:=gx avD (i:=(k:Int).toNat) cK;obtain⟨sq,o7⟩:=gx p.lines (i:=(k:Int).toNat) cK;have ao8:DL w (ia W9) sq:=M.2 _ _ _ nZ o7;refine aO pG (G.ext u.aG) cK nZ (λ_ AI=>aD jK AI ?_);have avE:=DL.flat ao8;refine aK il (avE.ext u.aG) (cO (aC (λfr=>?_) λfr=>aN cK ⟨_,cK,k+1,rfl,rfl,cK,dY eE o7 (fN fr),u⟩));have u:=u.drop;refine⟨vb ?_,u.aG⟩;unfold uO;rw[hG o7 (ez cK)];rfl
 refine aD et u.At ?_;obtain⟨O,E,I⟩:=cB.open;have hn31:=I.1;obtain⟨U,avF,J⟩:=cC.open;have hn32:=J.1;refine dQ afk (C120 p _ O U _ ⟨bK,bU,Z,aW,aX,bG,rfl,cQ.ext u.aG,dG.ext u.aG,cW.ext u.aG,cB.ext u.aG,cC.ext u.aG,cP.ext u.aG⟩ (E.ext u.aG) (avF.ext u.aG) (by have:=V.threads;omega) (by have:=V.recover;omega)) ?_;rintro Y _ cL;have u:=u.made cL;obtain⟨AY,L9⟩:∃t,t=O++U:=⟨_,rfl⟩;rw[<- L9]at u;have Pa:gM AY (gl p) w:=by rw[L9];exact gM.append I J
 have avG:=Pa.1;have aiz:=Ds V.toPS;have u:=u.p1.p1;refine⟨λm x W=>∃B:Nat,x=hZ (B:Int)/\m=(gl p).length-B/\B<=(gl p).length/\(∀y∈(gl p).take B,decide (4<(y.dP.length:Int))=false)/\St w bD [bH Y AY,bY ko (j0 (⟨bK,bU,Z,aW,aX,bG⟩:bP))] W,⟨_,0,rfl,rfl,l1 _,ei,u⟩,?_⟩;rintro m _ _ ⟨B,rfl,rfl,WW,O6,u⟩ _;refine aK fu u.dX (aR (aC (λjC=>?_) λjC=>⟨λjv w'=>jv=.bool (decide (4<(p.lines.length:Int))||decide (4<(p.iO.length:Int))||decide (2<(p.eJ.length:Int))||decide ((p.threads.length:Int)<1)||decide (3<(p.threads.length:Int))||decide (4<(p.dS.length:Int)))/\St w bD [] w',aA gw (aB oO u.p1.hb rfl (aK pG (G.ext u.aG) (cO (aC (λ_=>have u:=u.drop.drop;⟨vb dD,u⟩) λrj=>?_)))),?_⟩))
 .obtain⟨q8,gk⟩:=gx AY (i:=(B:Int).toNat) cK;obtain⟨apd,xk⟩:=gx (gl p) (i:=(B:Int).toNat) cK;obtain⟨EX,EY,rfl,EZ,E0⟩:=Pa.2 _ _ _ gk xk;refine aO fu u.dX cK gk (λ_ mA=>bV EX fR mA rfl rfl λ_ su=>aD ji su ?_);have avH:=DL.flat EZ;refine aK iy (avH.ext u.aG) (cO (aC (λlO=>?_) λ_=>aN cK ⟨_,cK,B+1,rfl,rfl,cK,dY O6 xk (fN cK),u⟩));have u:=u.drop.drop;refine⟨vb ?_,u.aG⟩;unfold uO;rw[hG xk (ez cK)];simp
 .refine aA qc (aB jK u.p1.hb rfl ?_);have avI:=DL.flat dG;refine aK il (avI.ext u.aG) (cO (aC (λ_=>have u:=u.drop.drop;⟨vb dD,u⟩) λvO=>aA nP (aB jK u.p1.hb rfl ?_)));have avJ:=DL.flat cW;refine aK il (avJ.ext u.aG) (cO (aC (λ_=>have u:=u.drop.drop;⟨vb dD,u⟩) λsg=>aA kF (aB ix u.p1.hb rfl (aK fu (E.ext u.aG) (aR (aC (λ_=>have u:=u.drop.drop;⟨vb dD,u⟩) λRI=>aA kF (aB ix u.p1.hb rfl (aK fu (E.ext u.aG) (cO (aC (λ_=>have u:=u.drop.drop;⟨vb dD,u⟩) λafT=>aA jt (aB qP u.p1.hb rfl ?_)))))))))))
  obtain⟨ts36,avK,avL⟩:=cP.open;have hn36:=avL.1;exact aK sY (avK.ext u.aG) (cO (have u:=u.drop.drop;⟨vb dD,u⟩))
 rintro _ _ ⟨rfl,u⟩ _;refine⟨vb ?_,u.aG⟩;unfold uO;rw[iz (by rw[kW cK]at eE;exact eE),iz (by rw[kW cK]at O6;exact O6)];rfl
def C57(p:cE)(pv:bP)(w:World)(hp:mG w pv p)(B:PZ p):CR 57 [ia pv] w (λv w'=>∃a:Int,v=.tuple #[hZ (fj p),hZ a]/\Ext w w'):=by
 obtain⟨U,J,G,O,I,M,rfl,cQ,dG,cW,cB,cC,cP⟩:=hp;have u:=St.start w;refine ahq _ _ _ ?_;unfold S57;refine cI u (λko W u=>aD et u.At (aV amu u (C118 p _ _ ⟨U,J,G,O,I,M,rfl,cQ.ext u.aG,dG.ext u.aG,cW.ext u.aG,cB.ext u.aG,cC.ext u.aG,cP.ext u.aG⟩ B) λ_ he u=>bR (aY (λkf=>have u:=u.drop;⟨_,gN (λq=>Bh #[hZ q,_]) (ce8 (by simpa using kf)).symm,u.aG⟩) λkf=>?_)))
 have E:kr p=true:=by simpa using kf
 have hPF:=qA E;refine aD et u.At (aV amv u (C119 p _ _ ⟨U,J,G,O,I,M,rfl,cQ.ext u.aG,dG.ext u.aG,cW.ext u.aG,cB.ext u.aG,cC.ext u.aG,cP.ext u.aG⟩ B) λ_ he u=>aY (λfr=>have u:=u.drop;⟨_,gN (λq=>Bh #[hZ q,_]) (ce2 E fr).symm,u.aG⟩) λfr=>aD et u.At ?_);obtain⟨ape,avM,apf⟩:=cB.open;have hn37:=apf.1;obtain⟨apg,avN,aph⟩:=cC.open;have hn38:=aph.1;refine dQ afk (C120 p _ ape apg _ ⟨U,J,G,O,I,M,rfl,cQ.ext u.aG,dG.ext u.aG,cW.ext u.aG,cB.ext u.aG,cC.ext u.aG,cP.ext u.aG⟩ (avM.ext u.aG) (avN.ext u.aG) (by have:=B.threads;omega) (by have:=B.recover;omega)) ?_
 rintro V _ cL;have u:=u.made cL;obtain⟨AY,L9⟩:∃t,t=ape++apg:=⟨_,rfl⟩;rw[<- L9]at u;have Pa:gM AY (gl p) w:=by rw[L9];exact gM.append apf aph
 have avG:=Pa.1;have aiz:=Ds B.toPS;have u:=u.p1.p1;refine⟨λm x W=>∃k1:Nat,x=hZ (k1:Int)/\m=(gl p).length-k1/\k1<=(gl p).length/\(∀y∈(gl p).take k1,ri y.body=false)/\St w bD [bH V AY,bY ko (j0 (⟨U,J,G,O,I,M⟩:bP))] W,⟨_,0,rfl,rfl,l1 _,ei,u⟩,?_⟩;rintro m _ _ ⟨k1,rfl,rfl,Q8,aiA,u⟩ _;refine aK fu u.dX (aR (aC (λjC=>?_) λjC=>?_))
 .obtain⟨q8,gk⟩:=gx AY (i:=(k1:Int).toNat) cK;obtain⟨apd,xk⟩:=gx (gl p) (i:=(k1:Int).toNat) cK;obtain⟨EX,EY,rfl,EZ,E0⟩:=Pa.2 _ _ _ gk xk;refine aO fu u.dX cK gk (λ_ mA=>bV EY lI mA rfl rfl λ_ su=>aD jN su ?_);obtain⟨api,TA,tr,Z,aiC,kC,_⟩:=lu (hPF.qR (kO xk)).2.1;have tS:=gN List.length Z;rw[Bk.cY]at tS;refine dQ VU (C121 _ tr 1 (tr.len+1) _ (by rw[<- Z];exact(E0.ext u.aG)) aiC (λy hy=>Jb (TA y (by rw[Z];exact hy))) cK cK cK) ?_
  rintro _ _ ⟨wa,rfl,hwa,he⟩;have u:=u.ext he;exact cR (aC (λme=>have u:=u.drop.drop;⟨_,gN (λq=>Bh #[hZ q,_]) (aoS E fr (hG xk (by rw[Z,vq aiC,<- hwa];exact ez me))).symm,u.aG⟩) λme=>aN cK (have u:=u.p1.p1;⟨_,cK,k1+1,rfl,rfl,cK,dY aiA xk (by rw[Z,vq aiC,<- hwa];exact fN me),u⟩))
 rw[kW cK]at aiA;have Y:(gl p).any (λt=>ri t.body)=false:=iz aiA;refine aD et u.p1.At (dQ amw (C122 p _ _ ⟨U,J,G,O,I,M,rfl,cQ.ext u.aG,dG.ext u.aG,cW.ext u.aG,cB.ext u.aG,cC.ext u.aG,cP.ext u.aG⟩ B hPF.decl) ?_);rintro _ _ ⟨a_x38,rfl,XP,he⟩;have u:=u.ext he;refine cR (aC (λwW=>have u:=u.drop.drop;⟨_,gN (λq=>Bh #[hZ q,_]) (aoT E fr Y (by rw[<- XP];exact ez wW)).symm,u.aG⟩) λwW=>?_);have h10:kx (fO p)=false:=by rw[<- XP];exact fN wW
 have u:=u.p1.p1;refine⟨λm x W=>∃k2:Nat,x=hZ (k2:Int)/\m=(gl p).length-k2/\k2<=(gl p).length/\(∀y∈(gl p).take k2,uN p y.dP=false)/\St w bD [bH V AY,bY ko (j0 (⟨U,J,G,O,I,M⟩:bP))] W,⟨_,0,rfl,rfl,l1 _,ei,u⟩,?_⟩;rintro m _ _ ⟨k2,rfl,rfl,xf,EI,u⟩ _;refine aK fu u.dX (aR (aC (λMa=>?_) λMa=>?_))
 .obtain⟨e_x51,E1⟩:=gx AY (i:=(k2:Int).toNat) cK;obtain⟨AZ,Jc⟩:=gx (gl p) (i:=(k2:Int).toNat) cK;obtain⟨zF,aiD,rfl,Pb,aiE⟩:=Pa.2 _ _ _ E1 Jc;have hzt2:=B.qR (kO Jc);refine⟨λm x W=>∃k3:Nat,x=hZ (k3:Int)/\m=AZ.dP.length-k3/\k3<=AZ.dP.length/\(∀j,j<k3->R0 p AZ.dP j=false)/\St w bD [bH V AY,bY ko (j0 (⟨U,J,G,O,I,M⟩:bP))] W,⟨_,0,rfl,rfl,l1 _,ei,u⟩,?_⟩;rintro m _ _ ⟨k3,rfl,rfl,hk3,apk,u⟩ _;refine aO fu u.dX cK E1 (λ_ apl=>bV zF fR apl rfl rfl λ_ XQ=>aD ji XQ ?_)
  have aiF:=DL.flat Pb;refine aK iy (aiF.ext u.aG) (aR (aC (λRI=>?_) λ_=>aN cK (have u:=u.p1.p1;⟨_,cK,k2+1,rfl,rfl,cK,dY EI Jc (show uN p AZ.dP=false from L4 λj _=>apk j cK),u⟩)));refine aO fu u.dX cK E1 (λ_ apm=>bV zF fR apm rfl rfl λ_ XR=>aD ji XR ?_);obtain⟨sC,tX⟩:=gx AZ.dP (i:=(k3:Int).toNat) cK;refine aO iy (aiF.ext u.aG) cK tX (λ_ EJ=>aD gv EJ ⟨λjv w'=>jv=.bool (decide (cU AZ.dP sC<k3)||decide (0<=cU (cT p) sC)||decide (0<=cU (cM p) sC))/\St w bD [bH V AY,bY ko (j0 (⟨U,J,G,O,I,M⟩:bP))] w',?_,?_⟩)
  .refine aO fu u.dX cK E1 (λ_ apn=>bV zF fR apn rfl rfl λ_ Mb=>?_);exact aD ji Mb (aV rS u (C123 _ AZ.dP _ _ (aiF.ext u.aG) (by have:=mF B.toPS;have hk:(cM p).length<=500:=(by unfold cM;rw[n0];exact B.eJ);omega)) λ_ _ u=>aR (aC (λ_=>have u:=u.p1.p1;⟨vb dD,u⟩) λ_=>aD et u.p1.At (dT Ky u (C124 p _ _ ⟨U,J,G,O,I,M,rfl,cQ.ext u.aG,dG.ext u.aG,cW.ext u.aG,cB.ext u.aG,cC.ext u.aG,cP.ext u.aG⟩ B) λ_ _ _ u=>aV rS u (C123 _ (cT p) _ _ u.dX (by have:=mF B.toPS;have hk:(cM p).length<=500:=(by unfold cM;rw[n0];exact B.eJ);omega)) λ_ _ u=>cR (aC (λ_=>have u:=u.drop.p1.p1;⟨vb dD,u⟩) λ_=>aD et u.p2.At (dT Rb u (C125 p _ _ ⟨U,J,G,O,I,M,rfl,cQ.ext u.aG,dG.ext u.aG,cW.ext u.aG,cB.ext u.aG,cC.ext u.aG,cP.ext u.aG⟩ B) λ_ _ _ u=>aV rS u (C123 _ (cM p) _ _ u.dX (by have:=mF B.toPS;have hk:(cM p).length<=500:=(by unfold cM;rw[n0];exact B.eJ);omega)) λ_ _ u=>cR (have u:=u.drop.drop.p1.p1;⟨vb dD,u⟩))))))
  rintro _ _ ⟨rfl,u⟩ _;exact aY (λE2=>aO fu u.dX cK E1 λ_ apo=>bV AZ.at_ qo apo rfl rfl λ_ apq=>have u:=u.drew;aD bL apq (have u:=u.drop.drop;⟨_,gN (λq=>Bh #[hZ q,_]) (ago E fr Y h10 (hG Jc (show uN p AZ.dP=true from L5 (j:=k3) cK (by rw[AV (k:=k3) tX];exact E2)))).symm,u.aG⟩)) (λE2=>aN cK ⟨_,cK,k3+1,rfl,rfl,cK,R2 apk (by rw[AV (k:=k3) tX];exact E2),u⟩)
 rw[kW cK]at EI;have aiG:(gl p).any (λt=>uN p t.dP)=false:=iz EI;have u:=u.p1.p1;refine⟨λm x W=>∃k5:Nat,x=hZ (k5:Int)/\m=(gl p).length-k5/\k5<=(gl p).length/\(∀y∈(gl p).take k5,y.body.any (m8 p y.dP)=false)/\St w bD [bH V AY,bY ko (j0 (⟨U,J,G,O,I,M⟩:bP))] W,⟨_,0,rfl,rfl,l1 _,ei,u⟩,?_⟩;rintro m _ _ ⟨k5,rfl,rfl,hk5,aiH,u⟩ _;refine aK fu u.dX (aR (aC (λapr=>?_) λapr=>?_))
 .obtain⟨avP,Dv⟩:=gx AY (i:=(k5:Int).toNat) cK;obtain⟨BZ,A0⟩:=gx (gl p) (i:=(k5:Int).toNat) cK;obtain⟨Mc,xl,rfl,Md,CE⟩:=Pa.2 _ _ _ Dv A0;have aps:=B.qR (kO A0);have avQ:=hPF.qR (kO A0);obtain⟨hb45,apt,_⟩:=lu avQ.2.1;refine⟨λm x W=>∃k6:Nat,x=hZ (k6:Int)/\m=BZ.body.length-k6/\k6<=BZ.body.length/\(∀y∈BZ.body.take k6,m8 p BZ.dP y=false)/\St w bD [bH V AY,bY ko (j0 (⟨U,J,G,O,I,M⟩:bP))] W,⟨_,0,rfl,rfl,l1 _,ei,u⟩,?_⟩
  rintro m _ _ ⟨k6,rfl,rfl,hk6,aiI,u⟩ _;refine aO fu u.dX cK Dv (λ_ aiJ=>bV xl lI aiJ rfl rfl λ_ aiK=>aD jN aiK ?_);obtain⟨avR,apu,apv⟩:=CE.open;have hn40:=apv.1;refine aK fq (apu.ext u.aG) (aR (aC (λavS=>?_) λ_=>aN cK (have u:=u.p1.p1;⟨_,cK,k5+1,rfl,rfl,cK,dY aiH A0 (iz (by rw[kW cK]at aiI;exact aiI)),u⟩)));have u:=u.drew;refine aD et u.p1.At (aO fu u.dX cK Dv λ_ Pc=>aD m4 Pc (aO fu u.dX cK Dv λ_ aiL=>bV xl lI aiL rfl rfl λ_ aiM=>aD jN aiM ?_))
  obtain⟨avT,R6⟩:=gx avR (i:=(k6:Int).toNat) cK;obtain⟨aiN,A1⟩:=gx BZ.body (i:=(k6:Int).toNat) cK;obtain⟨XS,XT,rfl,XU,XV⟩:=apv.2 _ _ _ R6 A1;refine aO fq (apu.ext u.aG) cK R6 (λ_ aiO=>aD eL aiO ?_);have hf5:=ac9 (apt _ (kO A1));refine dQ amx (C126 p _ BZ _ aiN _ _ ⟨U,J,G,O,I,M,rfl,cQ.ext u.aG,dG.ext u.aG,cW.ext u.aG,cB.ext u.aG,cC.ext u.aG,cP.ext u.aG⟩ ⟨Mc,xl,rfl,Md.ext u.aG,CE.ext u.aG⟩ ⟨XS,XT,rfl,XU.ext u.aG,XV.ext u.aG⟩ B aps.2.1 (aps.1.2.2 _ (kO A1)) hf5) ?_
  rintro _ _ ⟨avU,rfl,R7,he⟩;have u:=u.ext he;exact cR (aC (λzG=>have u:=u.drop.drop;⟨_,gN (λq=>Bh #[hZ q,_]) (ce9 E fr Y h10 aiG (hG A0 (hG A1 (by rw[<- R7];exact ez zG)))).symm,u.aG⟩) λzG=>aN cK ⟨_,cK,k6+1,rfl,rfl,cK,dY aiI A1 (by rw[<- R7];exact fN zG),u⟩)
 rw[kW cK]at aiH;have h9:(gl p).any (λt=>t.body.any (m8 p t.dP))=false:=iz aiH;have u:=u.drew;refine aD et u.p1.At (aD et u.p1.At (dT Ky u (C124 p _ _ ⟨U,J,G,O,I,M,rfl,cQ.ext u.aG,dG.ext u.aG,cW.ext u.aG,cB.ext u.aG,cC.ext u.aG,cP.ext u.aG⟩ B) λavV _ cL u=>?_));refine⟨eH et u.p2.At,?_⟩;refine aV Iw u (C62 p _ _ ⟨U,J,G,O,I,M,rfl,cQ.ext u.aG,dG.ext u.aG,cW.ext u.aG,cB.ext u.aG,cC.ext u.aG,cP.ext u.aG⟩ B) (λ_ he u=>?_)
 have EW:=mF B.toPS;have RQ:0<=ey p/\ey p<=(cT p).length:=by unfold ey cT im;rw[n0,lY];omega
 refine jP iy u.dX cK cK (λavW adl=>?_);have u:=u.p1.drop.p1.p1;refine⟨λm x W=>∃k7:Nat,x=hZ (k7:Int)/\m=p.dS.length-k7/\k7<=p.dS.length/\(∀y∈p.dS.take k7,o8 y.e (gm p)=false)/\St w bD [bH avV (cT p),bY ko (j0 (⟨U,J,G,O,I,M⟩:bP))] W,⟨_,0,rfl,rfl,l1 _,ei,u⟩,?_⟩;rintro m _ _ ⟨k7,rfl,rfl,hk7,aiP,u⟩ _;have hzc:=B.dS;refine aA jt (aB qP u.p1.hb rfl ?_);obtain⟨avX,apw,apx⟩:=cP.open;have hn41:=apx.1;refine aK sY (apw.ext u.aG) (aR (aC (λavY=>?_) λ_=>have u:=u.drop.drop;⟨_,gN (λq=>Bh #[hZ q,_]) (ce0 E fr Y h10 aiG h9 (iz (by rw[kW cK]at aiP;exact aiP))).symm,u.aG⟩))
 refine aA jt (aB qP u.p1.hb rfl ?_);obtain⟨avZ,R8⟩:=gx avX (i:=(k7:Int).toNat) cK;obtain⟨av0,A3⟩:=gx p.dS (i:=(k7:Int).toNat) cK;obtain⟨XW,rfl,XX⟩:=apx.2 _ _ _ R8 A3;refine aO sY (apw.ext u.aG) cK R8 (λ_ Pd=>bV XW vh Pd rfl rfl λ_ aiQ=>aD ju aiQ ?_);have av1:=DL.flat XX;refine dQ VV (C127 _ _ _ _ _ (av1.ext u.aG) (adl _ u.dX) (B.zc _ (kO A3)).1 (by have:=mF B.toPS;simp;omega) (BX (hPF.cl _ (kO A3)).2)) ?_;rintro _ _ ⟨av2,rfl,R9,he⟩
 have u:=u.ext he;exact cR (aC (λPe=>have u:=u.drop.drop;⟨_,gN (λq=>Bh #[hZ q,_]) (aoU E fr Y h10 aiG h9 (hG A3 (by unfold gm;rw[<- R9];exact ez Pe))).symm,u.aG⟩) λPe=>aN cK ⟨_,cK,k7+1,rfl,rfl,cK,dY aiP A3 (by unfold gm;rw[<- R9];exact fN Pe),u⟩)
theorem Bk.apy{x:bQ}{a b r:Bk}(h:(Bk.cons x a b r).str){hi lo:Int}(h1:hi=1+x.body)(h2:lo=1):((Bk.cons x a b r).flat.take hi.toNat).drop lo.toNat=a.flat:=by
 obtain⟨u,E,_⟩:=h
 have B:=a.cY
 rw[vp _ (a:=1) (n:=a.flat.length) cK cK]
 grind[flat]
theorem Bk.apz{x:bQ}{a b r:Bk}(h:(Bk.cons x a b r).str){hi lo:Int}(h1:hi=1+x.body+x.eu)(h2:lo=1+x.body):((Bk.cons x a b r).flat.take hi.toNat).drop lo.toNat=b.flat:=by
 obtain⟨u,E,_⟩:=h
 have B:=a.cY
 have lb:=b.cY
 rw[vp _ (a:=1+a.flat.length) (n:=b.flat.length) cK cK]
 grind[flat]
def yO:Bk->Int
 | .nil=>0
 | .cons x a b r=>(if x.kind=12 then 2+yO a else if x.kind=11 then(if 0<x.eu then 1+yO a+yO b+1 else 1+yO a+yO b)else 1)+yO r
def toT(x:bQ)(a:Bk)(at_:Int):Int:=if 0<x.eu then at_+1+yO a+1 else at_+1+yO a
end Go.Proofs.YtpdlpabnlkofmaaGreatDoor

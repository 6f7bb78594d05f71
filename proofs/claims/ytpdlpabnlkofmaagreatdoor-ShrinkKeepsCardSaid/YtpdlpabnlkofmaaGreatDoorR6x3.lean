/-
  Part 3.
-/
import Derived.Test.YtpdlpabnlkofmaaGreatDoorR6x2
set_option maxHeartbeats 8000000
set_option linter.all false
set_option maxRecDepth 100000
open Go.Fw.Flat renaming val->ir,enc->j0,sz->mA
open ByteArray renaming mk->kp,size->acg
open List renaming getElem?_eq_some_iff->kB,mem_of_getElem?->kE,take_of_length_le->kO,getElem?_eq_getElem->la,length_append->lr,length_take->l1,length_singleton->l2,length_map->nc,getElem?_eq_none->nt,append_assoc->nK,getD_eq_getElem?_getD->n3,mem_map->ob,getElem?_map->o1,mem_append->o8,take_append_drop->qa,length_drop->rH,replicate->r6,drop_eq_getElem_cons->sk,mem_cons->sl,length_eq_zero_iff->s4,drop_drop->tz,range->tU,take_add_one->uH,getElem?_append_left->u3,drop_eq_nil_of_le->v9,map_append->wk,any_eq_true->wS,ext_getElem?->xn,any_eq_false->B2,getElem?_set_self->Dh,getElem?_eq_none_iff->Dp,drop_left->FT,getElem_of_mem->F1,getElem?_set_ne->G3,map_map->H4,nodup_cons->Ka,mem_range->LY,take_left->Ny,toArray->P3,getElem?_eraseIdx_of_lt->QW,getElem?_eraseIdx_of_ge->Q3,drop_zero->R8,getElem_inj->aaR,cons->abg
open Nat renaming zero_le->l0,le_refl->o6,zero_add->u4,min_eq_left->Gf,le_of_lt->aaC
open Go.Fw.Deep renaming dr->mi
open Option renaming bind_some->mU,some->n5,map_some->F3
open Go.Value renaming int->nG,bool->xH,tuple->EI,string->GJ
open Go.Instr renaming sliceAt->n0,index->wg,sliceBounds->wM,mapUpdate->xP,lookup->yC,keyThatStays->Pd,makeMap->QO,findKey->Ub
open Bool renaming and_eq_true->n4,not_eq_true'->ta,true_and->Av
open Int renaming toNat_natCast->pd,mul_le_mul->JO,toNat->abr
open Decidable renaming not_not->u1
open Array renaming toList_push->aaB
namespace Go.Proofs.YtpdlpabnlkofmaaGreatDoor
open Go.Fw
inductive Bk where
 | nil
 | cons (x:bR) (a b r:Bk)
namespace Bk
def flat:Bk->List bR|nil=>[]|cons x a b r=>x::(a.flat++(b.flat++r.flat))
def len:Bk->Nat|nil=>0|cons _ a b r=>a.len+b.len+r.len+1
def str:Bk->Prop|nil=>True|cons x a b r=>x.body=a.len/\x.eG=b.len/\a.len<=40/\b.len<=40/\a.str/\b.str/\r.str
def Es(x:bR)(loops:Int):Int:=if x.kind=12 then loops+1 else loops
def Aj(x:bR):Bool:=decide (x.kind=11\/x.kind=12)
def yP(x:bR)(loops:Int):Bool:=decide ((x.body<=0\/x.kind=11\/x.kind=12)/\(x.eG<=0\/x.kind=11)/\(¬ x.kind=13\/¬ loops=0))
def ok:Bk->Int->Bool|nil,_=>true|cons x a b r,n=>yP x n&&a.ok (Es x n)&&b.ok (Es x n)&&r.ok n
def depth:Bk->Int|nil=>0|cons x a b r=>if Aj x then max (max (1+a.depth) (1+b.depth)) r.depth else r.depth
end Bk
theorem Bk.dC(t:Bk):t.flat.length=t.len:=by
 induction t with
 | nil=>rfl
 | cons x a b r B E u=>grind[flat,len]
theorem Bk.Bz(t:Bk):0<=t.depth/\t.depth<=t.len:=by
 induction t with
 | nil=>simp[Bk.depth,Bk.len]
 | cons x a b r B E u=>
  grind[depth,len]
def W8:Nat->List bR->Option Bk
 | _,[]=>some .nil
 | 0,_::_=>none
 | n+1,x::l=>
  if 0<=x.body/\0<=x.eG/\x.body<=40/\x.eG<=40/\x.body+x.eG<=l.length then
   match W8 n (l.take x.body.toNat),W8 n ((l.drop x.body.toNat).take x.eG.toNat),W8 n (l.drop (x.body.toNat+x.eG.toNat))with
   | some a,some b,some r=>some (.cons x a b r)
   | _,_,_=>none
  else none
theorem yQ:∀n l t,W8 n l=some t->l=t.flat/\t.str
 | _,[],t,h=>by
  have h:some Bk.nil=some t:=by unfold W8 at h;exact h
  cases h;exact⟨rfl,trivial⟩
 | 0,x::l,t,h=>by cases h
 | n+1,x::l,t,h=>by
  unfold W8 at h
  split at h
  .rename_i hb
   obtain⟨h1,h2,h3,h4,h5⟩:=hb
   cases ha:W8 n (l.take x.body.toNat)with
   | none=>grind
   | some a=>
    cases hb:W8 n ((l.drop x.body.toNat).take x.eG.toNat)with
    | none=>grind
    | some b=>
     cases hr:W8 n (l.drop (x.body.toNat+x.eG.toNat))with
     | none=>grind
     | some r=>
      rw[ha,hb,hr]at h
      cases h
      obtain⟨u,G⟩:=yQ n _ _ ha
      obtain⟨b1,b2⟩:=yQ n _ _ hb
      obtain⟨I,B⟩:=yQ n _ _ hr
      have E:=g6 List.length u
      have lb:=g6 List.length b1
      rw[Bk.dC,l1]at E
      rw[Bk.dC,l1,rH]at lb
      refine⟨?_,cO,cO,cO,cO,G,b2,B⟩
      unfold Bk.flat
      rw[<- u,<- b1,<- I,<- tz,qa,qa]
  .cases h
theorem YO(t:Bk):t.str->∀n,t.len<=n->W8 n t.flat=some t:=by
 induction t with
 | nil=>intro _ n _;cases n<;>rfl
 | cons x a b r E G u=>
  intro h n B
  obtain⟨h1,h2,h3,h4,J,hb,I⟩:=h
  cases n with
  | zero=>simp[Bk.len]at B
  | succ n=>
   have B:a.len+b.len+r.len<=n:=by simp[Bk.len]at B;omega
   have M:=a.dC
   have lb:=b.dC
   unfold Bk.flat W8
   rw[ew ⟨cO,cO,cO,cO,dI⟩,show x.body.toNat=a.flat.length from cO,Ny,FT,show x.eG.toNat=b.flat.length from cO,Ny,<- tz,FT,FT,
    E J n cO,G hb n cO,u I n cO]
def tV(l:List bR):Option Bk:=W8 l.length l
def oI{l:List bR}{t:Bk}(h:tV l=some t):l=t.flat/\t.str:=yQ _ _ _ h
theorem sq{t:Bk}(h:t.str):tV t.flat=some t:=YO t h _ (by rw[Bk.dC];omega)
def fL(l:List bR)(loops:Int):Int:=match tV l with|some t=>if t.ok loops then t.depth else -1|none=>-1
theorem CK(loops:Int):fL [] loops=0:=rfl
theorem uh(l:List bR)(loops:Int) : -1<=fL l loops/\fL l loops<=l.length:=by
 unfold fL
 cases h:tV l with
 | none=>grind
 | some t=>
  obtain⟨rfl,_⟩:=oI h
  have:=t.Bz
  simp only[Bk.dC]
  omega
def vi(x:bR)(l:List bR):Prop:=0<=x.body/\0<=x.eG/\x.body<=40/\x.eG<=40/\x.body+x.eG<=l.length
theorem Vm{x:bR}{l:List bR}{loops:Int}(h:¬ (vi x l/\Bk.yP x loops=true)):fL (x::l) loops = -1:=by
 unfold fL
 cases hb:tV (x::l)with
 | none=>rfl
 | some t=>
  obtain⟨u,B⟩:=oI hb
  cases t with
  | nil=>cases u
  | cons y a b r=>
   obtain⟨rfl,rfl⟩:=abg.inj u
   obtain⟨h1,h2,h3,h4,_⟩:=B
   have:Bk.yP x loops=false:=by
    cases hk:Bk.yP x loops with
    | false=>rfl
    | true=>exact absurd ⟨⟨cO,cO,cO,cO,by simp[Bk.dC];omega⟩,hk⟩ h
   have h:(Bk.cons x a b r).ok loops=false:=by unfold Bk.ok;grind
   grind
theorem Fz{x:bR}{l:List bR}{loops:Int}(h:vi x l)(Z:Bk.yP x loops=true) :
  fL (x::l) loops=(let A:=fL (l.take x.body.toNat) (Bk.Es x loops);let B:=fL ((l.drop x.body.toNat).take x.eG.toNat) (Bk.Es x loops);let R:=fL (l.drop (x.body.toNat+x.eG.toNat)) loops
   if A<0\/B<0\/R<0 then -1 else if Bk.Aj x then max (max (1+A) (1+B)) R else R):=by
 obtain⟨h1,h2,h3,h4,h5⟩:=h
 have e:l=l.take x.body.toNat++((l.drop x.body.toNat).take x.eG.toNat++l.drop (x.body.toNat+x.eG.toNat)):=by
  rw[<- tz,qa,qa]
 have U:(l.take x.body.toNat).length=x.body.toNat:=dI
 have lb:((l.drop x.body.toNat).take x.eG.toNat).length=x.eG.toNat:=by rw[l1,rH];omega
 simp only[]
 have Y:∀t,tV (x::l)=some t->∃a b r,t=.cons x a b r/\tV (l.take x.body.toNat)=some a/\tV ((l.drop x.body.toNat).take x.eG.toNat)=some b/\tV (l.drop (x.body.toNat+x.eG.toNat))=some r:=by
  intro t ht
  obtain⟨M,hs⟩:=oI ht
  cases t with
  | nil=>cases M
  | cons y a b r=>
   obtain⟨rfl,G⟩:=abg.inj M
   obtain⟨g1,g2,_,_,E,hb,u⟩:=hs
   have I:x.body.toNat=a.flat.length:=by rw[Bk.dC];omega
   have J:x.eG.toNat=b.flat.length:=by rw[Bk.dC];omega
   refine⟨a,b,r,rfl,?_,?_,?_⟩
   .rw[G,I,Ny];exact sq E
   .rw[G,I,J,FT,Ny];exact sq hb
   .rw[G,<- tz,I,J,FT,FT];exact sq u
 cases E:tV (l.take x.body.toNat)with
 | none=>
  have:tV (x::l)=none:=by
   cases hh:tV (x::l)with
   | none=>rfl
   | some t=>grind
  unfold fL;rw[this,E];simp
 | some a=>
  cases hb:tV ((l.drop x.body.toNat).take x.eG.toNat)with
  | none=>
   have:tV (x::l)=none:=by
    cases hh:tV (x::l)with
    | none=>rfl
    | some t=>grind
   unfold fL;rw[this,hb];simp
  | some b=>
   cases u:tV (l.drop (x.body.toNat+x.eG.toNat))with
   | none=>
    have:tV (x::l)=none:=by
     cases hh:tV (x::l)with
     | none=>rfl
     | some t=>grind
    unfold fL;rw[this,u];simp
   | some r=>
    obtain⟨V,W⟩:=oI E
    obtain⟨b1,b2⟩:=oI hb
    obtain⟨r1,O⟩:=oI u
    have G:x::l=(Bk.cons x a b r).flat:=by unfold Bk.flat;grind
    rw[V,Bk.dC]at U
    rw[b1,Bk.dC]at lb
    have:tV (x::l)=some (.cons x a b r):=by rw[G];exact sq ⟨cO,cO,cO,cO,W,b2,O⟩
    have na:=a.Bz
    have nb:=b.Bz
    have nr:=r.Bz
    unfold fL
    rw[this,E,hb,u]
    simp only[Bk.ok,Z,Av]
    cases h1:a.ok (Bk.Es x loops)<;>cases h2:b.ok (Bk.Es x loops)<;>cases h3:r.ok loops<;>simp[Bk.depth]
    omega
def sX(n d:Int):Int:=if d<0 then -1 else max n d
def J9{xs l:List bR}{x:bR}{loops n:Int}(h:fL xs loops=sX n (fL (x::l) loops))(hb:¬ (vi x l/\Bk.yP x loops=true)):fL xs loops = -1:=by
 rw[h,Vm hb];rfl
def YP{xs l:List bR}{x:bR}{loops n:Int}(h:fL xs loops=sX n (fL (x::l) loops))(G:vi x l)(u:Bk.yP x loops=true)(hb:Bk.Aj x=true)(A B:Int)
  (I:A=fL (l.take x.body.toNat) (Bk.Es x loops)) (E:B=fL ((l.drop x.body.toNat).take x.eG.toNat) (Bk.Es x loops)) :
  (A<0\/B<0->fL xs loops = -1)/\(¬ (A<0\/B<0)->fL xs loops=sX (max (max n (1+A)) (1+B)) (fL (l.drop (x.body.toNat+x.eG.toNat)) loops)):=by
 have J:=uh (l.drop (x.body.toNat+x.eG.toNat)) loops
 rw[h,Fz G u]
 simp only[<- I,<- E,hb,if_true]
 unfold sX
 constructor<;>intro h<;>repeat' split
 all_goals omega
def ahP{xs l:List bR}{x:bR}{loops n:Int}(h:fL xs loops=sX n (fL (x::l) loops))(E:vi x l)(B:Bk.yP x loops=true)(hb:Bk.Aj x=false) :
  fL xs loops=sX n (fL (l.drop (x.body.toNat+x.eG.toNat)) loops):=by
 have u:x.body=0/\x.eG=0:=by
  unfold Bk.yP at B
  unfold Bk.Aj at hb
  obtain⟨h1,h2,_⟩:=E
  grind
 rw[h,Fz E B,u.1,u.2]
 have I:l.take (abr 0)=[]:=rfl
 have G:(l.drop (abr 0)).take (abr 0)=[]:=rfl
 simp only[hb,I,G,CK]
 unfold sX
 repeat' split
 all_goals first|omega|simp_all
theorem drop_cons{α:Type}{xs:List α}{k:Nat}{x:α}(h:xs[k]?=some x):xs.drop k=x::xs.drop (k+1):=by
 obtain⟨h1,h2⟩:=kB.1 h
 rw[sk h1,h2]
theorem vY{α:Type}(xs:List α){a b c n:Nat}(h:b=a+n)(hc:c=a):(xs.take b).drop c=(xs.drop a).take n:=by
 subst h hc;rw[List.drop_take,Nat.add_sub_cancel_left]
def Vn:List ByteArray:=[⟨#[]⟩,⟨#[114,101]⟩,⟨#[114,110]⟩,⟨#[110,101]⟩,⟨#[114,110,101,102]⟩,⟨#[110]⟩,⟨#[110]⟩,⟨#[]⟩,⟨#[]⟩,⟨#[110]⟩,⟨#[110]⟩,⟨#[101,98]⟩,⟨#[107,98]⟩,⟨#[]⟩,⟨#[101]⟩]
def fO(k:Int):ByteArray:=if k<1\/14<k then⟨#[]⟩else Vn.getD k.toNat ⟨#[]⟩
def fb(s:ByteArray)(c:Int):Bool:=(iX s).any λb=>decide ((b.toNat:Int)=c)
def nB(x:bR):Bool:=
 !(decide (x.kind<1)||decide (14<x.kind)||decide (x.at_<0)||decide (4000<x.at_)) &&
 !((fb (fO x.kind) 114 != gY x.eN)||(!fb (fO x.kind) 114&&decide (¬ x.eN=⟨#[]⟩))||(fb (fO x.kind) 110 != gY x.name)||(!fb (fO x.kind) 110&&decide (¬ x.name=⟨#[]⟩))) &&
 !((fb (fO x.kind) 101 != fK x.e)||(!fb (fO x.kind) 101&&decide (0<x.e.length))||(fb (fO x.kind) 102 != fK x.f)||(!fb (fO x.kind) 102&&decide (0<x.f.length))) &&
 (if fb (fO x.kind) 107=true then decide (1<=x.n/\x.n<=8)else decide (x.n=0))
def qq(l:List bR):Bool:=decide (l.length<=40)&&!l.any (λx=>!nB x)&&decide (0<=fL l 0/\fL l 0<=12)
def r7(n:Int):Bool:=decide (0<=n/\n<=4000)
def iZ(u:Int)(c:cN):Bool:=!gY c.name||decide (c.n<0)||decide (u<c.n)||!r7 c.at_
def oJ(u:Int)(l:List cN):Bool:=!l.any (iZ u)
def sY(nb:Bool)(t:cR):Bool:=(nb != gY t.name)||(!nb&&decide (¬ t.name=⟨#[]⟩))||!r7 t.at_||!qq t.body
def mP(nb:Bool)(t:cR):Bool:=sY nb t||t.dY.any (λs=>!gY s)
def n8(nb:Bool)(l:List cR):Bool:=!l.any (mP nb)
def oz(l:List cN):Bool:=decide ((l.length:Int)=0)||!oJ 4294967296 l
def l9(c:ic):Bool:=!r7 c.at_||!fK c.e
def kH(p:bZ):Bool:=!p.lines.any oz&&!p.eb.any l9&&(oJ 4294967296 p.iY&&oJ 0 p.eS&&n8 true p.threads&&n8 false p.recover&&decide (p.recover.length<=1))
def SzS(x:bR):Prop:=x.eN.size<=1048576/\x.name.size<=1048576/\x.e.length<=1048576/\x.f.length<=1048576/\(∀y∈x.e,y.name.size<=1048576)/\(∀y∈x.f,y.name.size<=1048576)
def YQ(t:cR):Prop:=t.name.size<=1048576/\(∀s∈t.dY,s.size<=1048576)/\(∀x∈t.body,SzS x)
structure PZ(p:bZ):Prop extends PS p where
 zl:∀l∈p.lines,∀c∈l,c.name.size<=1048576
 zv:∀c∈p.iY,c.name.size<=1048576
 zk:∀c∈p.eS,c.name.size<=1048576
 zt:∀t∈p.threads,YQ t
 zr:∀t∈p.recover,YQ t
 zc:∀c∈p.eb,c.e.length<=1048576/\∀y∈c.e,y.name.size<=1048576
def FA(k:Int):(fO k).size<=1048576:=by
 unfold fO
 split
 .decide
 rename_i h
 obtain rfl|rfl|rfl|rfl|rfl|rfl|rfl|rfl|rfl|rfl|rfl|rfl|rfl|rfl:k=1\/k=2\/k=3\/k=4\/k=5\/k=6\/k=7\/k=8\/k=9\/k=10\/k=11\/k=12\/k=13\/k=14:=cO
 all_goals decide
def C315(k:Int)(w:World):CR 315 [hZ k] w (λv w'=>v=.string (fO k)/\Ext w w'):=by
 have u:=St.start w;refine adU _ _ _ ?_;unfold S315;refine⟨λI w'=>I=.bool (decide (k<1\/14<k))/\w=w',aR (aC (λ_=>⟨Ph cO,rfl⟩) λ_=>cQ ⟨zi cO,rfl⟩),?_⟩;rintro _ _ ⟨rfl,M⟩ _;subst M;refine aC (λB=>?_) (λB=>?_)
 .refine⟨?_,u.aG⟩;unfold fO;rw[ew B]
 refine aV Vn u iK rfl rfl (dQ rfl) (λJ _ u=>?_);have U:Vn.length=15:=rfl;obtain⟨O,E⟩:=gx Vn (i:=k.toNat) cO;refine dT u iK cO cO (λ_ G=>gq u gK G E ?_);refine⟨?_,u.aG⟩;unfold fO;rw[ej B,n3,E];rfl
def C316(s:ByteArray)(c:Int)(w:World)(W:s.size<=1048576):CR 316 [.string s,.int .u8 c] w (λv w'=>v=.bool (fb s c)/\Ext w w'):=by
 have u:=St.start w;refine fj Tryz.func316 ?_;refine⟨λm x I=>∃k:Nat,x=hZ (k:Int)/\m=(iX s).length-k/\k<=(iX s).length/\(∀y∈(iX s).take k,decide ((y.toNat:Int)=c)=false)/\St w aX [] I,⟨_,0,rfl,rfl,l0 _,ei,u⟩,?_⟩;rintro m _ I ⟨k,rfl,rfl,O,B,u⟩ _;rw[fh]at O;have U:=fh s;refine fu iC (aR (aC (λM=>?_) λM=>?_))
 .obtain⟨V,E⟩:∃J,(iX s)[(k:Int).toNat]?=some J:=⟨_,la (by rw[fh];omega)⟩;exact j8 iC cO E (nZ (aC (λG=>⟨vb (iw E (ez G)).symm,u.aG⟩) λG=>aO cO ⟨_,cO,k+1,rfl,rfl,cO,eh B E (fV G),u⟩))
 rw[kO cO]at B;exact⟨vb (iL B).symm,u.aG⟩
def C288(x:bR)(xv:bF)(w:World)(hx:mi w xv x)(B:SzS x):CR 288 [ir xv] w (λv w'=>v=.bool (nB x)/\Ext w w'):=by
 obtain⟨V,U,rfl,MR,Iq⟩:=hx;have u:=St.start w;refine fj Tryz.func288 ?_;refine cM u (λO _ u=>⟨λE w'=>E=.bool (decide (x.kind<1)||decide (14<x.kind)||decide (x.at_<0)||decide (4000<x.at_))/\St w aX [bW O (j0 (⟨x.kind,x.eN,x.name,V,U,x.n,x.body,x.eG,x.at_⟩:bF))] w',?_,?_⟩)
 .refine aA dU (aB (v:=hZ x.kind) bL u.hb rfl ?_);exact aR (aC (λ_=>⟨vb dI,u⟩) λ_=>aA dU (aB (v:=hZ x.kind) bL u.hb rfl (cQ (aC (λ_=>⟨vb dI,u⟩) λ_=>aA lW (aB (v:=hZ x.at_) bL u.hb rfl (aR (aC (λ_=>⟨vb dI,u⟩) λ_=>aA lW (aB (v:=hZ x.at_) bL u.hb rfl (cQ ⟨vb dI,u⟩)))))))))
 rintro _ _ ⟨rfl,u⟩ _;refine bD (λjK=>?_) (λjK=>aA dU (aB (v:=hZ x.kind) bL u.hb rfl (aW apn u (C315 _ _) λ_ G u=>aW L7 u (C316 _ _ _ (FA _)) λ_ G u=>aW L7 u (C316 _ _ _ (FA _)) λ_ G u=>aW L7 u (C316 _ _ _ (FA _)) λ_ G u=>aW L7 u (C316 _ _ _ (FA _)) λ_ G u=>⟨λE w'=>E=.bool ((fb (fO x.kind) 114 != gY x.eN)||(!fb (fO x.kind) 114&&decide (¬ x.eN=⟨#[]⟩))||(fb (fO x.kind) 110 != gY x.name)||(!fb (fO x.kind) 110&&decide (¬ x.name=⟨#[]⟩)))/\St w aX [bW O (j0 (⟨x.kind,x.eN,x.name,V,U,x.n,x.body,x.eG,x.at_⟩:bF))] w',?_,?_⟩)))
 .refine⟨vb ?_,u.drop.aG⟩;unfold nB;simp only[*]
  first|done|rfl|simp
 .refine aA iP (aB (v:=.string x.eN) gK u.hb rfl (aW uY u (C211 _ _ B.1) λ_ G u=>sG Mi (bD (λ_=>⟨vb dI,u⟩) λwH=>bT (bD (λBA=>?_) λ_=>aA gw (aB (v:=.string x.name) gK u.hb rfl (aW uY u (C211 _ _ B.2.1) λ_ _ u=>sG Mi (bD (λ_=>⟨vb dI,u⟩) λ_=>bT (bD (λ_=>aA gw (aB (v:=.string x.name) gK u.hb rfl (mn ⟨vb dI,u⟩))) λ_=>⟨vb dI,u⟩))))))));refine aA iP ?_;exact aB (v:=.string x.eN) gK u.hb rfl (mn (aC (λ_=>⟨vb dI,u⟩) λ_=>aA gw (aB (v:=.string x.name) gK u.hb rfl (aW uY u (C211 _ _ B.2.1) λ_ _ u=>sG Mi (bD (λ_=>⟨vb dI,u⟩) λ_=>bT (bD (λ_=>aA gw (aB (v:=.string x.name) gK u.hb rfl (mn ⟨vb dI,u⟩))) λ_=>⟨vb dI,u⟩))))))
 rintro _ _ ⟨rfl,u⟩ _;refine bD (λY=>?_) (λY=>⟨λE w'=>E=.bool ((fb (fO x.kind) 101 != fK x.e)||(!fb (fO x.kind) 101&&decide (0<x.e.length))||(fb (fO x.kind) 102 != fK x.f)||(!fb (fO x.kind) 102&&decide (0<x.f.length)))/\St w aX [bW O (j0 (⟨x.kind,x.eN,x.name,V,U,x.n,x.body,x.eG,x.at_⟩:bF))] w',?_,?_⟩)
 .refine⟨vb ?_,u.drop.aG⟩;unfold nB;simp only[*]
  first|done|rfl|simp
 .refine aA jg (aB jC u.hb rfl ?_);have M:=DL.flat MR;refine aW LZ u (C200 _ _ _ (M.ext u.aG) B.2.2.1 B.2.2.2.2.1) (λ_ G u=>sG Mi (bD (λ_=>⟨vb dI,u⟩) λIr=>bT (bD (λW=>aA jg (aB jC u.hb rfl (aK il (M.ext u.aG) (cQ (aC (λ_=>⟨vb dI,u⟩) λTh=>?_))))) λW=>?_)))
  .refine aA km (aB jC u.hb rfl ?_);have J:=DL.flat Iq;exact aW LZ u (C200 _ _ _ (J.ext u.aG) B.2.2.2.1 B.2.2.2.2.2) (λ_ _ u=>sG Mi (bD (λ_=>⟨vb dI,u⟩) λ_=>bT (bD (λ_=>aA km (aB jC u.hb rfl (aK il (J.ext u.aG) (cQ ⟨vb dI,u⟩)))) λ_=>⟨vb dI,u⟩)))
  refine aA km (aB jC u.hb rfl ?_);have I:=DL.flat Iq;exact aW LZ u (C200 _ _ _ (I.ext u.aG) B.2.2.2.1 B.2.2.2.2.2) (λ_ _ u=>sG Mi (bD (λ_=>⟨vb dI,u⟩) λ_=>bT (bD (λ_=>aA km (aB jC u.hb rfl (aK il (I.ext u.aG) (cQ ⟨vb dI,u⟩)))) λ_=>⟨vb dI,u⟩)))
 rintro _ _ ⟨rfl,u⟩ _;refine bD (λZ=>?_) (λZ=>aW L7 u (C316 _ _ _ (FA _)) λ_ G u=>bD (λCL=>⟨λE w'=>E=.bool (decide (1<=x.n/\x.n<=8))/\St w aX [bW O (j0 (⟨x.kind,x.eN,x.name,V,U,x.n,x.body,x.eG,x.at_⟩:bF))] w',aA jX (aB (v:=hZ x.n) bL u.hb rfl (cT (aC (λ_=>aA jX (aB (v:=hZ x.n) bL u.hb rfl (gz ⟨vb dI,u⟩))) λ_=>⟨vb dI,u⟩))),?_⟩) λCL=>?_)
 .refine⟨vb ?_,u.drop.aG⟩;unfold nB;simp only[*]
  first|done|rfl|simp
 .rintro _ _ ⟨rfl,u⟩ _;refine⟨vb ?_,u.drop.aG⟩;unfold nB;simp only[*]
  first|done|rfl|simp
 refine aA jX (aB (v:=hZ x.n) bL u.hb rfl (aH ?_));refine⟨vb ?_,u.drop.aG⟩;unfold nB;simp only[*]
 first|done|rfl|simp
theorem C289(lv:Value)(xs:List bR)(loops:Int)(N:Nat)(w:World)(hL:DL w lv xs)(hn:xs.length<=1048576)(hlo:0<=loops)(MS:loops+N<=4194304)(hN:xs.length<N):CR 289 [lv,hZ loops] w (λv w'=>v=hZ (fL xs loops)/\Ext w w'):=by
 have E:=St.start w;refine adQ _ _ _ _ ?_;unfold S289;refine⟨λm y x w1=>∃(k:Nat) (n:Int),y=hZ n/\x=hZ (k:Int)/\m=xs.length-k/\k<=xs.length/\0<=n/\n<=41/\fL xs loops=sX n (fL (xs.drop k) loops)/\St w aX [] w1,⟨_,0,0,rfl,rfl,rfl,cO,cO,cO,by have:=uh xs loops;rw[R8];unfold sX;split<;>omega,E⟩,?_⟩;rintro m _ _ w1 ⟨k,n,rfl,rfl,rfl,hk,W9,YF,hinv,E⟩ _;obtain⟨ts7,G,J⟩:=hL.open;have hn7:=J.1;refine aK fB (G.ext E.aG) (aR (aC (λjx=>?_) λjx=>?_))
 .obtain⟨qX,ig⟩:=gx ts7 (i:=(k:Int).toNat) cO;obtain⟨u,FC⟩:=gx xs (i:=(k:Int).toNat) cO;obtain⟨O,M,rfl,aep,aeq⟩:=J.2 _ _ _ ig FC;refine aQ fB (G.ext E.aG) cO ig (λ_ sU=>?_);have hdk:=drop_cons (xs:=xs) (k:=k) FC;rw[hdk]at hinv;have Is:(xs.drop (k+1)).length=xs.length-(k+1):=rH;refine aD eU sU (aN E jD λV _ E=>aJ (x:=(⟨u.kind,u.eN,u.name,O,M,u.n,u.body,u.eG,u.at_⟩:bF)) E eU rfl rfl λ_ E=>⟨λI w'=>I=.bool (decide (u.body<0)||decide (u.eG<0)||decide (40<u.body)||decide (40<u.eG)||decide ((xs.length:Int)<k+1+u.body+u.eG))/\St w aX [bW V (j0 (⟨u.kind,u.eN,u.name,O,M,u.n,u.body,u.eG,u.at_⟩:bF))] w',aA jh (aB (v:=hZ u.body) bL E.hb rfl (aR (aC (λ_=>⟨vb dI,E⟩) λiG=>aA iQ (aB (v:=hZ u.eG) bL E.hb rfl (aR (aC (λ_=>⟨vb dI,E⟩) λzM=>aA jh (aB (v:=hZ u.body) bL E.hb rfl (cQ (aC (λ_=>⟨vb dI,E⟩) λmz=>?_))))))))),?_⟩)
  .exact aA iQ (aB (v:=hZ u.eG) bL E.hb rfl (cQ (aC (λ_=>⟨vb dI,E⟩) λ_=>aO cO (aA jh (aB (v:=hZ u.body) bL E.hb rfl (aO cO (aA iQ (aB (v:=hZ u.eG) bL E.hb rfl (aO cO (aK fB (G.ext E.aG) (cQ ⟨vb dI,E⟩)))))))))))
  rintro _ _ ⟨rfl,E⟩ _;refine bD (λ_=>⟨g6 (nG .i64) (J9 hinv (by unfold vi;grind)).symm,E.drop.aG⟩) (λMO=>?_);have pf:vi u (xs.drop (k+1)):=by unfold vi;grind
  refine⟨λI w'=>I=.bool (!Bk.yP u loops)/\St w aX [bW V (j0 (⟨u.kind,u.eN,u.name,O,M,u.n,u.body,u.eG,u.at_⟩:bF))] w',aA jh (aB (v:=hZ u.body) bL E.hb rfl (cQ (aC (λDx=>aA dU (aB (v:=hZ u.kind) bL E.hb rfl (bQ (aC (λap8=>aA dU (aB (v:=hZ u.kind) bL E.hb rfl (bQ (aC (λ_=>⟨vb (by unfold Bk.yP;grind),E⟩) λTi=>?_)))) λap8=>?_)))) λDx=>?_))),?_⟩
  .refine aA iQ (aB (v:=hZ u.eG) bL E.hb rfl (cQ (aC (λ_=>aA dU (aB (v:=hZ u.kind) bL E.hb rfl (bQ (aC (λ_=>⟨vb (by unfold Bk.yP;grind),E⟩) λ_=>aA dU (aB (v:=hZ u.kind) bL E.hb rfl (aH (aC (λ_=>aH ⟨vb (by unfold Bk.yP;grind),E⟩) λ_=>⟨vb (by unfold Bk.yP;grind),E⟩))))))) λxG=>?_)));exact aA dU (aB (v:=hZ u.kind) bL E.hb rfl (aH (aC (λ_=>aH ⟨vb (by unfold Bk.yP;grind),E⟩) λ_=>⟨vb (by unfold Bk.yP;grind),E⟩)))
  .refine aA iQ (aB (v:=hZ u.eG) bL E.hb rfl (cQ (aC (λ_=>aA dU (aB (v:=hZ u.kind) bL E.hb rfl (bQ (aC (λ_=>⟨vb (by unfold Bk.yP;grind),E⟩) λ_=>aA dU (aB (v:=hZ u.kind) bL E.hb rfl (aH (aC (λ_=>aH ⟨vb (by unfold Bk.yP;grind),E⟩) λ_=>⟨vb (by unfold Bk.yP;grind),E⟩))))))) λavf=>?_)));exact aA dU (aB (v:=hZ u.kind) bL E.hb rfl (aH (aC (λ_=>aH ⟨vb (by unfold Bk.yP;grind),E⟩) λ_=>⟨vb (by unfold Bk.yP;grind),E⟩)))
  .refine aA iQ (aB (v:=hZ u.eG) bL E.hb rfl (cQ (aC (λ_=>aA dU (aB (v:=hZ u.kind) bL E.hb rfl (bQ (aC (λ_=>⟨vb (by unfold Bk.yP;grind),E⟩) λ_=>aA dU (aB (v:=hZ u.kind) bL E.hb rfl (aH (aC (λ_=>aH ⟨vb (by unfold Bk.yP;grind),E⟩) λ_=>⟨vb (by unfold Bk.yP;grind),E⟩))))))) λavg=>?_)));exact aA dU (aB (v:=hZ u.kind) bL E.hb rfl (aH (aC (λ_=>aH ⟨vb (by unfold Bk.yP;grind),E⟩) λ_=>⟨vb (by unfold Bk.yP;grind),E⟩)))
  rintro _ _ ⟨rfl,E⟩ _;refine bD (λ_=>⟨g6 (nG .i64) (J9 hinv dI).symm,E.drop.aG⟩) (λahT=>?_);have j7:Bk.yP u loops=true:=dI
  have ajV:=pf;unfold vi at ajV;refine aO cO (aA jh (have E:=E.drew;aB (v:=hZ u.body) bL E.hb rfl (aO cO ⟨λI w'=>I=hZ (Bk.Es u loops)/\St w aX [bW V (j0 (⟨u.kind,u.eN,u.name,O,M,u.n,u.body,u.eG,u.at_⟩:bF))] w',aA dU (aB (v:=hZ u.kind) bL E.hb rfl (aH (aC (λ_=>aO cO ⟨g6 (nG .i64) (by unfold Bk.Es;grind),E⟩) λ_=>⟨g6 (nG .i64) (by unfold Bk.Es;grind),E⟩))),?_⟩)));rintro _ _ ⟨rfl,E⟩ _;have tS:loops<=Bk.Es u loops/\Bk.Es u loops<=loops+1:=by unfold Bk.Es;split<;>omega
  refine⟨λI w'=>∃U:Int,I=hZ U/\0<=U/\U<=41/\fL xs loops=sX U (fL (xs.drop (k+1+(u.body.toNat+u.eG.toNat))) loops)/\St w aX [bW V (j0 (⟨u.kind,u.eN,u.name,O,M,u.n,u.body,u.eG,u.at_⟩:bF))] w',⟨λI w'=>I=.bool (decide (u.kind=11)||decide (u.kind=12))/\St w aX [bW V (j0 (⟨u.kind,u.eN,u.name,O,M,u.n,u.body,u.eG,u.at_⟩:bF))] w',aA dU (aB (v:=hZ u.kind) bL E.hb rfl (aH (aC (λ_=>⟨vb dI,E⟩) λ_=>aA dU (aB (v:=hZ u.kind) bL E.hb rfl (aH ⟨vb dI,E⟩))))),?_⟩,?_⟩
  .rintro _ _ ⟨rfl,E⟩ _;refine bD (λajW=>?_) (λajW=>?_)
   .refine aO cO (oX fB (G.ext E.aG) cO cO cO λaxM aer=>?_);have aes:=DL.cut aer G J;refine aA iQ (have E:=E.drew;aB (v:=hZ u.eG) bL E.hb rfl (aO cO (oX fB (G.ext E.aG) cO cO cO λaxN aet=>?_)));have aeu:=DL.cut aet G J;have Y:((xs.take (((k:Int)+1)+u.body).toNat).drop ((k:Int)+1).toNat)=(xs.drop (k+1)).take u.body.toNat:=vY xs cO cO;have W:((xs.take ((((k:Int)+1)+u.body)+u.eG).toNat).drop (((k:Int)+1)+u.body).toNat)=((xs.drop (k+1)).drop u.body.toNat).take u.eG.toNat:=by rw[tz];exact vY xs cO cO
    have hlA:((xs.take (((k:Int)+1)+u.body).toNat).drop ((k:Int)+1).toNat).length<=xs.length-1/\((xs.take (((k:Int)+1)+u.body).toNat).drop ((k:Int)+1).toNat).length<=40:=by rw[Y,l1];omega
    have hlB:((xs.take ((((k:Int)+1)+u.body)+u.eG).toNat).drop (((k:Int)+1)+u.body).toNat).length<=xs.length-1/\((xs.take ((((k:Int)+1)+u.body)+u.eG).toNat).drop (((k:Int)+1)+u.body).toNat).length<=40:=by rw[W,l1,rH];omega
    refine aW XP E (C289 _ _ _ (N-1) _ (aes.ext E.aG) cO cO cO cO) (λ_ he E=>?_);refine⟨aF bL (E.hb.cell rfl),?_⟩;refine dO XP (C289 _ _ _ (N-1) _ (aeu.ext E.aG) cO cO cO cO) ?_;rintro _ _ ⟨rfl,he⟩;have E:=E.ext he;obtain⟨A,hA⟩:∃A,A=fL ((xs.take (((k:Int)+1)+u.body).toNat).drop ((k:Int)+1).toNat) (Bk.Es u loops):=⟨_,rfl⟩;obtain⟨B,hB⟩:∃B,B=fL ((xs.take ((((k:Int)+1)+u.body)+u.eG).toNat).drop (((k:Int)+1)+u.body).toNat) (Bk.Es u loops):=⟨_,rfl⟩;have hAb:=uh ((xs.take (((k:Int)+1)+u.body).toNat).drop ((k:Int)+1).toNat) (Bk.Es u loops)
    have hBb:=uh ((xs.take ((((k:Int)+1)+u.body)+u.eG).toNat).drop (((k:Int)+1)+u.body).toNat) (Bk.Es u loops);rw[<- hA]at hAb;rw[<- hB]at hBb;rw[<- hA,<- hB];have Vk:=YP hinv pf j7 (by unfold Bk.Aj;grind) A B (by rw[hA,Y]) (by rw[hB,W]);refine⟨λI w'=>I=.bool (decide (A<0\/B<0))/\St w aX [bW V (j0 (⟨u.kind,u.eN,u.name,O,M,u.n,u.body,u.eG,u.at_⟩:bF))] w',aR (aC (λ_=>⟨vb dI,E⟩) λ_=>aR ⟨vb dI,E⟩),?_⟩;rintro _ _ ⟨rfl,E⟩ _;refine bD (λQs=>⟨g6 (nG .i64) (Vk.1 (g7 Qs)).symm,E.drop.aG⟩) (λQs=>aO cO (aO cO (MG ?_)))
    have YR:=Vk.2 (g8 Qs);rw[tz]at YR;exact⟨_,rfl,cO,cO,YR,E⟩
   have Z:=ahP hinv pf j7 (by unfold Bk.Aj;grind);rw[tz]at Z;exact⟨_,rfl,W9,YF,Z,E⟩
  rintro _ _ ⟨U,rfl,ajY,ajZ,YS,E⟩ _;exact aA iQ (aB (v:=hZ u.eG) bL E.hb rfl (aO cO ⟨_,cO,k+1+(u.body.toNat+u.eG.toNat),U,rfl,g6 (nG .i64) cO,rfl,cO,ajY,ajZ,YS,E.drop⟩))
 rw[v9 cO,CK]at hinv;exact⟨g6 (nG .i64) (by rw[hinv];unfold sX;omega),E.aG⟩
termination_by N
decreasing_by all_goals omega
def C253(lv:Value)(xs:List bR)(w:World)(Y:DL w lv xs)(hn:xs.length<=1048576)(hz:∀x∈xs,SzS x):CR 253 [lv] w (λv w'=>v=.bool (qq xs)/\Ext w w'):=by
 have u:=St.start w;refine fj Tryz.func253 ?_;obtain⟨O,B,E⟩:=Y.open;have hn8:=E.1;refine aK fB (B.ext u.aG) (cQ (aC (λie=>?_) λie=>?_))
 .refine⟨vb ?_,u.aG⟩;unfold qq;rw[fV cO];rfl
 refine⟨λm x Z=>∃k:Nat,x=hZ (k:Int)/\m=xs.length-k/\k<=xs.length/\(∀y∈xs.take k,(!nB y)=false)/\St w aX [] Z,⟨_,0,rfl,rfl,l0 _,ei,u⟩,?_⟩;rintro m _ Z ⟨k,rfl,rfl,hk,U,u⟩ _;refine aK fB (B.ext u.aG) (aR (aC (λjJ=>?_) λjJ=>aW XP u (C289 _ _ _ (xs.length+1) _ (Y.ext u.aG) cO cO cO cO) λ_ he u=>⟨λjv w'=>jv=.bool (decide (0<=fL xs 0/\fL xs 0<=12))/\St w aX [] w',cT (aC (λ_=>gz ⟨vb dI,u⟩) λ_=>⟨vb dI,u⟩),?_⟩))
 .obtain⟨YT,oK⟩:=gx O (i:=(k:Int).toNat) cO;obtain⟨sZ,G⟩:=gx xs (i:=(k:Int).toNat) cO;obtain⟨M,W,rfl,V,I⟩:=E.2 _ _ _ oK G;refine aQ fB (B.ext u.aG) cO oK (λ_ Bt=>aD eU Bt (aW apc u (C288 sZ _ _ ⟨M,W,rfl,V.ext u.aG,I.ext u.aG⟩ (hz _ (kE G))) λ_ he u=>bT (bD (λJ=>?_) λJ=>aO cO ⟨_,cO,k+1,rfl,rfl,cO,eh U G J,u⟩)));refine⟨vb ?_,u.aG⟩;unfold qq;rw[iw G J];simp
 rintro _ _ ⟨rfl,u⟩ _;rw[kO cO]at U;refine⟨vb ?_,u.aG⟩;unfold qq;rw[iL U,ez (show xs.length<=40 by omega)];rfl
def C199(n:Int)(w:World):CR 199 [hZ n] w (λv w'=>v=.bool (r7 n)/\Ext w w'):=by
 have B:=St.start w;refine fj Tryz.func199 ?_;refine⟨λu w'=>u=.bool (decide (0<=n/\n<=4000))/\w=w',cT (aC (λ_=>gz ⟨zi cO,rfl⟩) λ_=>⟨XE cO,rfl⟩),?_⟩;rintro _ _ ⟨rfl,E⟩ _;subst E;exact⟨rfl,B.aG⟩
def C198(lv:Value)(xs:List cN)(I:Int)(w:World)(E:dD (λ_=>True) w lv xs)(hn:xs.length<=1048576)(V:∀c∈xs,c.name.size<=1048576):CR 198 [lv,hZ I] w (λv w'=>v=.bool (oJ I xs)/\Ext w w'):=by
 have u:=St.start w;refine fj Tryz.func198 ?_;refine⟨λm x O=>∃k:Nat,x=hZ (k:Int)/\m=xs.length-k/\k<=xs.length/\(∀y∈xs.take k,iZ I y=false)/\St w aX [] O,⟨_,0,rfl,rfl,l0 _,ei,u⟩,?_⟩;rintro m _ O ⟨k,rfl,rfl,hk,M,u⟩ _;refine aK iD (E.ext u.aG) (aR (aC (λY=>?_) λY=>?_))
 .obtain⟨G,B⟩:=gx xs (i:=(k:Int).toNat) cO;refine⟨λZ w'=>Z=.bool (iZ I G)/\St w aX [] w',aQ iD (E.ext u.aG) cO B (λ_ W=>bX G.name kZ W rfl rfl λ_ vg=>aD gK vg (aW uY u (C211 _ _ (V _ (kE B))) λ_ he u=>bT (bD (λ_=>⟨vb (by unfold iZ;grind),u⟩) λl6=>?_))),?_⟩
  .refine aQ iD (E.ext u.aG) cO B (λ_ BB=>bX G.n sJ BB rfl rfl λ_ q8=>?_);exact aD bL q8 (aR (aC (λ_=>⟨vb (by unfold iZ;grind),u⟩) λ_=>aQ iD (E.ext u.aG) cO B λ_ mO=>bX G.n sJ mO rfl rfl λ_ U=>aD bL U (cQ (aC (λ_=>⟨vb (by unfold iZ;grind),u⟩) λ_=>aQ iD (E.ext u.aG) cO B λ_ xR=>bX G.at_ va xR rfl rfl λ_ YM=>aD bL YM (aW SA u (C199 _ _) λ_ _ u=>bT ⟨vb (by unfold iZ;grind),u⟩)))))
  rintro _ _ ⟨rfl,u⟩ _;refine bD (λJ=>?_) (λJ=>aO cO ⟨_,cO,k+1,rfl,rfl,cO,eh M B J,u⟩);refine⟨vb ?_,u.aG⟩;unfold oJ;rw[iw B J];rfl
 rw[kO cO]at M;refine⟨vb ?_,u.aG⟩;unfold oJ;rw[iL M];rfl
def C201(lv:Value)(xs:List cR)(nb:Bool)(w:World)(hL:DL w lv xs)(hn:xs.length<=1048576)(hz:∀t∈xs,YQ t/\t.dY.length<=500/\t.body.length<=500):CR 201 [lv,.bool nb] w (λv w'=>v=.bool (n8 nb xs)/\Ext w w'):=by
 have u:=St.start w;refine fj Tryz.func201 ?_;refine⟨λm x W=>∃k:Nat,x=hZ (k:Int)/\m=xs.length-k/\k<=xs.length/\(∀y∈xs.take k,mP nb y=false)/\St w aX [] W,⟨_,0,rfl,rfl,l0 _,ei,u⟩,?_⟩;rintro m _ W ⟨k,rfl,rfl,hk,eO,u⟩ _;obtain⟨ts9,B,M⟩:=hL.open;have hn9:=M.1;refine aK fF (B.ext u.aG) (aR (aC (λgW=>?_) λgW=>?_))
 .obtain⟨YT,I⟩:=gx ts9 (i:=(k:Int).toNat) cO;obtain⟨E,O⟩:=gx xs (i:=(k:Int).toNat) cO;obtain⟨FD,FE,rfl,Qt,FG⟩:=M.2 _ _ _ I O;have G:=hz _ (kE O);refine⟨λjv w'=>jv=.bool (sY nb E)/\St w aX [] w',aQ fF (B.ext u.aG) cO I (λ_ Bt=>bX E.name qR Bt rfl rfl λ_ ML=>aD gK ML (aW uY u (C211 _ _ G.1.1) λ_ he u=>sG Mi (bD (λ_=>⟨vb (by unfold sY;grind),u⟩) λnz=>?_))),?_⟩
  .refine bT (bD (λnA=>?_) λ_=>aQ fF (B.ext u.aG) cO I λ_ aeA=>bX E.at_ qS aeA rfl rfl λ_ aeB=>aD bL aeB (aW SA u (C199 _ _) λ_ _ u=>bT (bD (λ_=>⟨vb (by unfold sY;grind),u⟩) λ_=>aQ fF (B.ext u.aG) cO I λ_ Y=>bX FE lV Y rfl rfl λ_ aeD=>aD jW aeD (aW ahn u (C253 _ _ _ (FG.ext u.aG) cO G.1.2.2) λ_ _ u=>bT ⟨vb (by unfold sY;grind),u⟩))));refine aQ fF (B.ext u.aG) cO I (λ_ sW=>bX E.name qR sW rfl rfl λ_ FH=>aD gK FH ?_)
   exact mn (aC (λ_=>⟨vb (by unfold sY;grind),u⟩) λ_=>aQ fF (B.ext u.aG) cO I λ_ Bx=>bX E.at_ qS Bx rfl rfl λ_ xS=>aD bL xS (aW SA u (C199 _ _) λ_ _ u=>bT (bD (λ_=>⟨vb (by unfold sY;grind),u⟩) λ_=>aQ fF (B.ext u.aG) cO I λ_ FI=>bX FE lV FI rfl rfl λ_ MT=>aD jW MT (aW ahn u (C253 _ _ _ (FG.ext u.aG) cO G.1.2.2) λ_ _ u=>bT ⟨vb (by unfold sY;grind),u⟩))))
  rintro _ _ ⟨rfl,u⟩ _;refine bD (λMO=>?_) (λMO=>?_)
  .refine⟨vb ?_,u.aG⟩;unfold n8;rw[iw O (show mP nb E=true by unfold mP;rw[MO];rfl)];rfl
  refine⟨λm x W=>∃J:Nat,x=hZ (J:Int)/\m=E.dY.length-J/\J<=E.dY.length/\(∀s∈E.dY.take J,(!gY s)=false)/\St w aX [] W,⟨_,0,rfl,rfl,l0 _,ei,u⟩,?_⟩;rintro m _ _ ⟨J,rfl,rfl,xd,FJ,u⟩ _;refine aQ fF (B.ext u.aG) cO I (λ_ YN=>bX FD fZ YN rfl rfl λ_ Bs=>aD jq Bs ?_);have U:=DL.flat Qt;refine aK iK (U.ext u.aG) (aR (aC (λIt=>?_) λ_=>aO cO ⟨_,cO,k+1,rfl,rfl,cO,eh eO O (by unfold mP;rw[MO,iL (by rw[kO cO]at FJ;exact FJ)];rfl),u⟩))
  refine aQ fF (B.ext u.aG) cO I (λ_ MU=>bX FD fZ MU rfl rfl λ_ FK=>aD jq FK ?_);obtain⟨e_x67,V⟩:=gx E.dY (i:=(J:Int).toNat) cO;refine aQ iK (U.ext u.aG) cO V (λ_ aqe=>aD gK aqe (aW uY u (C211 _ _ (G.1.2.1 _ (kE V))) λ_ he u=>bT (bD (λZ=>?_) λZ=>aO cO ⟨_,cO,J+1,rfl,rfl,cO,eh FJ V Z,u⟩)));refine⟨vb ?_,u.aG⟩;unfold n8;rw[iw O (show mP nb E=true by unfold mP;rw[iw V Z];simp)];rfl
 rw[kO cO]at eO;refine⟨vb ?_,u.aG⟩;unfold n8;rw[iL eO];rfl
variable (w:World) (K:Value->hM)
def S236(G E:Value):Prop:=
 kP (λB u a=>∀_:Env,
 eQ (λK2=>lN 9 G λb=>bA .lss 3 u b λc=>cV c (eX hH (wg 9 G u) λd=>kT hH E [d] a λe f=>K2 e f) (K2 ff a)) (λg h=>∀_:Env,
 cV g (bB .add 3 u (i 1) λj=>B j h) (K u h))) (λB=>B (i 0) w)
theorem aeE(B u:Value)(h:S236 w K B u):CR 236 [B,u] w K:=
 qj 20 (λ_=>.nil) 16 [.tmp 4] Tryz.func236 h
def S246(B G:Value):Prop:=
 cF 287 [B,G] w λa b=>lN 41 a λc=>nP (λu E d e=>∀_:Env,
 bA .lss 3 d c λf=>cV f (iA 41 a d λg=>lA 3 g e λh=>cF 246 [B,h] e λj k=>eX hH (Builtin.max_ #[3,3] 3 [E,j].toArray) λl=>bB .add 3 d (i 1) λn=>
 u l n k) (bB .add 3 E (i 1) λo=>K o e)) (λu=>u (i 0) (i 0) b)
theorem aeF(u B:Value)(h:S246 w K u B):CR 246 [u,B] w K:=
 qj 24 (λ_=>.nil) 16 [.tmp 4] Tryz.func246 h
def axQ:dM:=λi=>match i with
 | 8=>(.of [(0,[]),(1,[]),(2,[]),(3,[]),(4,[]),(5,[]),(6,[]),(7,[]),(8,[]),(9,[]),(10,[]),(11,[4,9]),(12,[])])
 | _=>.nil
def S218(u E:Value):Prop:=
 ry hH (Instr.box 91 E) w λB a=>cF 185 [u] a λb c=>eX hH (Op.unary .not b) λd=>cV d (K (.tuple #[(.slice none 0 0),(i 8)]) c) (cF 264 [u] c λe f=>
 cF 240 [e,(.func (Go.Fn.func 262) [].toArray [B].toArray)] f λg h=>cV g (K (.tuple #[(.slice none 0 0),(i 9)]) h) (lA 91 B h λj=>cF 265 [u,(i 0),j] h λk l=>
 K (.tuple #[k,(i 0)]) l))
theorem aeG(B u:Value)(h:S218 w K B u):CR 218 [B,u] w K:=
 qj 18 (λ_=>.nil) 48 [.tmp 4,.tmp 5] Tryz.func218 h
def S143(E B u:Value):Prop:=
 lN 91 B λa=>lN 41 u λb=>bA .neq 3 a b λc=>cV c (K (.tuple #[(i 0),(i 1)]) w) (cF 218 [E,B] w λd e=>xT d 0 λf=>xT d 1 λg=>bB .neq 31 g (i 0) λh=>
 cV h (K (.tuple #[(i 0),g]) e) (cF 219 [f,u] e λj k=>xT j 0 λl=>xT j 1 λn=>K (.tuple #[l,n]) k))
theorem aeH(B E u:Value)(h:S143 w K B E u):CR 143 [B,E,u] w K:=
 qj 29 (λ_=>.nil) 192 [.tmp 6,.tmp 7] Tryz.func143 h
theorem ahU:PL 234:=dR Tryz.func234
theorem aqf:PL 238:=dR Tryz.func238
theorem aqg:PL 236:=dR Tryz.func236
theorem aqh:PL 237:=dR Tryz.func237
theorem aqi:PL 235:=dR Tryz.func235
theorem MW:PL 180:=dR Tryz.func180
theorem YV:PL 286:=dR Tryz.func286
theorem aqj:PL 243:=dR Tryz.func243
theorem aqk:PL 242:=dR Tryz.func242
theorem YW:PL 245:=dR Tryz.func245
theorem aql:PL 287:=dR Tryz.func287
theorem ahV:PL 246:=dR Tryz.func246
theorem Tj:PL 185:=dR Tryz.func185
theorem aqm:PL 264:=dR Tryz.func264
theorem ahW:PL 265:=dR Tryz.func265
theorem aqn:PL 218:=dR Tryz.func218
theorem aqo:PL 262:=dR Tryz.func262
theorem ahX:PL 143:=dR Tryz.func143
theorem aqp:PL 244:=dR Tryz.func244
theorem aqq:PL 285:=dR Tryz.func285
theorem ahY:PL 240:=dR Tryz.func240
theorem aqr:PL 281:=dR Tryz.func281
theorem ahZ:PL 263:=dR Tryz.func263
theorem YX:PL 225:=dR Tryz.func225
end Go.Proofs.YtpdlpabnlkofmaaGreatDoor
namespace Go.Fw
open Go.MapKept (Stamped IsKey)
open Go.ChangeMaps (setBlock)
def mQ(w:World)(b:Nat)(ks:List Int)(vs:List Value):Prop:=
 ∃es clock,w.heap[b]?=some (.map es clock)/\Stamped es clock/\es.toList.map (·.key)=ks.map (nG .i64)/\es.toList.map (·.val)=vs
def lu:List Int->Int->Option Nat
 | [],_=>none
 | x::xs,k=>if x=k then some 0 else(lu xs k).map (· + 1)
theorem kI:∀{ks:List Int}{k:Int}{j:Nat},lu ks k=some j->ks[j]?=some k
 | x::xs,k,j,h=>by
  unfold lu at h
  split at h
  .grind
  .cases hh:lu xs k with
   | none=>grind
   | some i=>rw[hh]at h;simp at h;subst h;simpa using kI hh
theorem mR:∀{ks:List Int}{k:Int},lu ks k=none↔k ∉ ks
 | [],_=>by simp[lu]
 | x::xs,k=>by
  unfold lu
  by_cases e:x=k
  .simp[e]
  .rw[ej e,Option.map_eq_none_iff,mR,sl]
   grind
theorem td:∀{ks:List Int}{k:Int}{j:Nat},ks.Nodup->ks[j]?=some k->lu ks k=some j
 | x::xs,k,0,_,h=>by simp at h;simp[lu,h]
 | x::xs,k,j+1,hn,h=>by
  rw[List.getElem?_cons_succ]at h
  have u:=kE h
  have:x≠k:=λe=>(Ka.1 hn).1 (e▸u)
  simp[lu,this,td (Ka.1 hn).2 h]
def look{β:Type}(ks:List Int)(vs:List β)(k:Int):Option β:=(lu ks k).bind (vs[·]?)
def qt{β:Type}(f:Int->β)(k:Int)(x:β):Int->β:=λj=>if j=k then x else f j
section
variable {P:Program}{w w0 w':World}{A:Nat->Prop}{L:List HP}{b:Nat}{ks:List Int}{vs:List Value}
theorem mQ.of_eq(h:mQ w b ks vs)(u:w'.heap[b]?=w.heap[b]?):mQ w' b ks vs:=by
 grind[mQ]
theorem mQ.lt(h:mQ w b ks vs):b<w.heap.size:=by obtain⟨es,c,h1,_⟩:=h;grind
theorem mQ.ext(h:mQ w b ks vs)(e:Ext w w'):mQ w' b ks vs:=h.of_eq (e.bW b h.lt λh=>h)
theorem mQ.len(h:mQ w b ks vs):ks.length=vs.length:=by
 obtain⟨es,c,_,_,h3,h4⟩:=h
 have:=g6 List.length h3;grind
theorem mQ.nodup(h:mQ w b ks vs):ks.Nodup:=by
 obtain⟨es,c,_,h2,h3,h4⟩:=h
 have:=h2.2.2
 grind
def MX(b:Nat)(ks:List Int)(vs:List Value):HP where
 p w F:=mQ w b ks vs/\∀k,F k↔k=b
 loc w w' F h hh:=⟨h.1.of_eq (hh b ((h.2 b).2 rfl)),h.2⟩
 lt w F b' h hb:=by rw[(h.2 b').1 hb];exact h.1.lt
theorem Vo{es:Array MapEntry}(h3:es.toList.map (·.key)=ks.map (nG .i64)):∀x∈es.toList,IsKey (.int .i64) x.key:=by
 intro x u
 have:x.key∈es.toList.map (·.key):=ob.2 ⟨x,u,rfl⟩
 rw[h3]at this
 obtain⟨k,_,e⟩:=ob.1 this
 rw[<- e];simp[IsKey]
theorem FM{T:TypeId}{k:Int}{es:Array MapEntry}(u:P.underlying T=some (.int .i64))(B:ks.Nodup)(h3:es.toList.map (·.key)=ks.map (nG .i64)) :
  (lu ks k=none/\(Ub T (hZ k) es.toList).run P w=.ok none w)\/∃j e,lu ks k=some j/\es.toList[j]?=some e/\e.key=hZ k/\(Ub T (hZ k) es.toList).run P w=.ok (some (j,e.val)) w:=by
 rcases MapKept.findNow_spec (d:=.int .i64) (k:=hZ k) (by simp[IsKey]) es.toList 0 (Vo h3)with⟨h1,h2⟩|⟨j,e,h1,h2,h4⟩
 .refine .inl ⟨mR.2 λE=>?_,MapKept.run_findKey u h1⟩
  have:nG .i64 k∈es.toList.map (·.key):=dI
  grind
 refine .inr ⟨j,e,td B ?_,h2,h4,by rw[u4]at h1;exact MapKept.run_findKey u h1⟩
 have:(es.toList.map (·.key))[j]?=some (hZ k):=dI
 grind
theorem Al{T G E:TypeId}{z:Value}{k:Int}(h:mQ w b ks vs)(ht:P.underlying T=some (.map G E))(I:P.underlying G=some (.int .i64))(u:oT P E z) :
  (yC T (.map (some b)) (hZ k) false).run P w=.ok ((look ks vs k).getD z) w:=by
 have M:=h.nodup
 obtain⟨es,c,h1,h2,h3,h4⟩:=h
 have B:(zeroValue E).run P w=.ok z w:=by
  unfold oT eD at u
  cases hi:P.info? E with
  | none=>grind
  | some i=>
   rw[hi]at u
   simp only[F3,n5.injEq]at u
   refine gn ?_ w
   unfold zeroValue;rw[cZ,mG hi];simp only[mU,u];rfl
 have hc:=MapKept.run_checkKey (P:=P) (w:=w) (kt:=G) (k:=hZ k) I (by simp[IsKey]) es.isEmpty 9999
 rcases FM (w:=w) (k:=k) I M h3 with⟨h5,h6⟩|⟨j,e,h5,h6,O,J⟩
 .simp[yC,run_underlying ht,MapKept.run_getObj_map h1,hc,h6,B,Result.andThen,look,h5]
 have:vs[j]?=some e.val:=dI
 simp[yC,run_underlying ht,MapKept.run_getObj_map h1,hc,J,Result.andThen,look,h5,this]
theorem kz(o:Obj)(hb:b<w.heap.size):(setBlock w b o).heap[b]?=some o:=by simp[setBlock,hb]
theorem gJ.setBlock(w:World)(b:Nat)(o:Obj):gJ (· = b) w (setBlock w b o):=
 ⟨rfl,rfl,rfl,by simp[ChangeMaps.setBlock],λk _ u=>by simp only[ChangeMaps.setBlock];grind⟩
theorem oL{es:Array MapEntry}{clock:Nat}{o:Obj}(h1:w.heap[b]?=some (.map es clock)):(setObj b o).run P w=.ok () (setBlock w b o):=by
 simp[setObj,Sem.run,h1,setBlock]
theorem aeI{T I E:TypeId}{v:Value}{k:Int}(h:mQ w b ks vs)(ht:P.underlying T=some (.map I E))(M:P.underlying I=some (.int .i64)) :
  ∃w',(xP T (.map (some b)) (hZ k) v).run P w=.ok () w'/\gJ (· = b) w w'/\
   (match lu ks k with|some j=>mQ w' b ks (vs.set j v)|none=>mQ w' b (ks++[k]) (vs++[v])):=by
 have Z:=h.nodup
 have J:=h.lt
 obtain⟨es,c,h1,h2,h3,h4⟩:=h
 have hc:=MapKept.run_checkKey (P:=P) (w:=w) (kt:=I) (k:=hZ k) M (by simp[IsKey]) false 9999
 rcases FM (w:=w) (k:=k) M Z h3 with⟨h5,h6⟩|⟨j,e,h5,h6,U,W⟩
 .refine⟨_,?_,gJ.setBlock w b (.map (es.push ⟨hZ k,v,c⟩) (c+1)),?_⟩
  .simp[xP,run_underlying ht,MapKept.run_getObj_map h1,hc,h6,oL h1,Result.andThen]
  rw[h5]
  refine⟨_,_,kz _ J,MapKept.stamped_push h2 λx V e=>?_,by simp[h3],by simp[h4]⟩
  have:x.key∈es.toList.map (·.key):=ob.2 ⟨x,V,rfl⟩
  rw[h3,e]at this
  obtain⟨k',G,u⟩:=ob.1 this
  simp at u
  exact mR.1 h5 (u▸G)
 have Y:es[j]?=some e:=dI
 have O:(Pd e.key (hZ k)).run P w=.ok (hZ k) w:=by
  rw[U];unfold Pd;simp[Instr.sameBits]
 refine⟨_,?_,gJ.setBlock w b (.map (es.modify j λe=>{e with key:=hZ k,val:=v}) c),?_⟩
 .simp[xP,run_underlying ht,MapKept.run_getObj_map h1,hc,W,oL h1,Result.andThen,Y,O]
 rw[h5]
 have G:∀u,es[j]?=some u->({u with key:=hZ k,val:=v}:MapEntry).key=u.key:=λu B=>by
  grind
 refine⟨_,_,kz _ J,MapKept.stamped_modify h2 j _ (λ_ _=>rfl) (λu _ B=>G u B),?_,?_⟩
 .rw[MapKept.modify_keys j _ G,h3]
 rw[<- h4]
 apply xn
 grind
theorem aeJ{T u E R:TypeId}{J:Array TypeId}{k:Int}(h:mQ w b ks vs)(M:J[0]?=some T)(ht:P.underlying T=some (.map u E))(I:P.underlying u=some (.int .i64)) :
  ∃w',(Builtin.delete_ J R [.map (some b),hZ k].toArray).run P w=.ok (.tuple #[]) w'/\gJ (· = b) w w'/\
   (match lu ks k with|some j=>mQ w' b (ks.eraseIdx j) (vs.eraseIdx j)|none=>mQ w' b ks vs):=by
 have U:=h.nodup
 have B:=h.lt
 obtain⟨es,c,h1,h2,h3,h4⟩:=h
 have hc:=MapKept.run_checkKey (P:=P) (w:=w) (kt:=u) (k:=hZ k) I (by simp[IsKey]) es.isEmpty 9999
 rcases FM (w:=w) (k:=k) I U h3 with⟨h5,h6⟩|⟨j,e,h5,h6,W,O⟩
 .refine⟨_,?_,gJ.setBlock w b (.map es c),?_⟩
  .simp[Builtin.delete_,M,run_underlying ht,MapKept.run_getObj_map h1,hc,h6,oL h1,Result.andThen]
  rw[h5]
  exact⟨_,_,kz _ B,h2,h3,h4⟩
 have V:j<es.size:=dI
 refine⟨_,?_,gJ.setBlock w b (.map (es.eraseIdxIfInBounds j) c),?_⟩
 .simp[Builtin.delete_,M,run_underlying ht,MapKept.run_getObj_map h1,hc,O,oL h1,Result.andThen]
 rw[h5]
 have G:(es.eraseIdxIfInBounds j).toList=es.toList.eraseIdx j:=by
  simp_all
 refine⟨_,_,kz _ B,MapKept.stamped_erase h2 j,?_,?_⟩
 .rw[G,ChangeMaps.map_eraseIdx,h3,ChangeMaps.map_eraseIdx]
 rw[G,ChangeMaps.map_eraseIdx,h4]
theorem MY{T:TypeId}{K:Value->hM}(u:St w0 A L w)(k:∀b w',St w0 A (MX b [] []::L) w'->K (.map (some b)) w'):ry P (QO T none) w K:=
 ⟨_,_,rfl,k _ _ (u.new (Ext.push w (.map #[] 0)) (F:=λk=>k=w.heap.size) ⟨⟨#[],0,mF _ _,MapKept.stamped_empty 0,rfl,rfl⟩,λ_=>Iff.rfl⟩ λb hb=>by rw[hb];exact o6 _)⟩
theorem St.MZ(u:St w0 A (MX b ks vs::L) w):mQ w b ks vs:=by obtain⟨F,h,_⟩:=u.head;exact h.1
end
section
variable {α:Type}[Flat α] {P:Program}{w w0 w':World}{A:Nat->Prop}{L:List HP}{b:Nat}{f:Int->List α}
abbrev D5(s:SV)(x:List α):HP:=bE (ir s) x
def rM(b:Nat)(f:Int->List α):HP:=qm λks=>qm λB:List SV=>qm λu:List (List α)=>fact (f=λk=>(look ks u k).getD []) (sep (MX b ks (B.map ir)) (iu D5 B u))
def wL(w:World)(b:Nat)(f:Int->List α):Prop:=∃ks,∃u:List SV,mQ w b ks (u.map ir)/\(∀(i:Nat) (k:Int) (s:SV),ks[i]?=some k->u[i]?=some s->dD (λ_=>True) w (ir s) (f k))/\∀k,k ∉ ks->f k=[]
theorem wL.ext(h:wL w b f)(e:Ext w w'):wL w' b f:=by
 obtain⟨ks,u,h1,h2,h3⟩:=h;exact⟨ks,u,h1.ext e,λi k s a c=>(h2 i k s a c).ext e,h3⟩
theorem qN{β:Type}{ks:List Int}{xs:List β}{k:Int}{i:Nat}{x:β}(u:ks.Nodup)(h1:ks[i]?=some k)(h2:xs[i]?=some x):look ks xs k=some x:=by
 unfold look;rw[td u h1];exact h2
theorem qu{β:Type}{ks:List Int}{xs:List β}{k:Int}(h:k ∉ ks):look ks xs k=none:=by unfold look;rw[mR.2 h];rfl
theorem rM.rd{F:Nat->Prop}(h:(rM b f).p w F):wL w b f:=by
 obtain⟨ks,J,u,G,U,O,h1,h2,_,_⟩:=h
 refine⟨ks,J,h1.1,λi k s B I=>?_,λk B=>by rw[G];dsimp only;rw[qu B];rfl⟩
 have V:=CE h2
 have hi:i<u.length:=by have:=(kB.1 I).1;omega
 have E:u[i]?=some u[i]:=la hi
 have M:St w O [iu D5 J u] w:=St.begin h2
 have:=M.ajG I E (Φ:=λw=>dD (λ_=>True) w (ir s) u[i]) λh=>(bE.rd h).mono λ_ _=>trivial
 rw[G];dsimp only
 rw[qN h1.1.nodup B E];exact this
theorem St.YY(u:St w0 A (rM b f::L) w):wL w b f:=by obtain⟨F,h,_⟩:=u.head;exact rM.rd h
theorem wL.look{T G E:TypeId}{k:Int}(h:wL w b f)(ht:P.underlying T=some (.map G E))(O:P.underlying G=some (.int .i64))(J:oT P E (.slice none 0 0)) :
  ∃s:SV,(yC T (.map (some b)) (hZ k) false).run P w=.ok (ir s) w/\dD (λ_=>True) w (ir s) (f k):=by
 obtain⟨ks,u,h1,h2,h3⟩:=h
 have I:=Al (P:=P) (k:=k) h1 ht O J
 cases wN:lu ks k with
 | none=>
  have:Fw.look ks (u.map ir) k=none:=by unfold Fw.look;grind
  rw[this]at I
  exact⟨bY,I,by rw[h3 k (mR.1 wN)];exact dD.nil _ _⟩
 | some j=>
  have U:=kI wN
  have V:=h1.len
  have B:j<u.length:=dI
  have M:u[j]?=some u[j]:=la B
  have:Fw.look ks (u.map ir) k=some (ir u[j]):=by unfold Fw.look;grind
  grind
theorem wL.aqt{T G E:TypeId}{k:Int}(h:wL w0 b f)(ht:P.underlying T=some (.map G E))(O:P.underlying G=some (.int .i64))(J:oT P E (.slice none 0 0)) :
  ∃s:SV,(∀w,Ext w0 w->(yC T (.map (some b)) (hZ k) false).run P w=.ok (ir s) w)/\dD (λ_=>True) w0 (ir s) (f k):=by
 obtain⟨ks,u,h1,h2,h3⟩:=h
 have I:∀w,Ext w0 w->_:=λw e=>Al (P:=P) (k:=k) (h1.ext e) ht O J
 cases wN:lu ks k with
 | none=>
  have:Fw.look ks (u.map ir) k=none:=by unfold Fw.look;grind
  rw[this]at I
  exact⟨bY,I,by rw[h3 k (mR.1 wN)];exact dD.nil _ _⟩
 | some j=>
  have U:=kI wN
  have V:=h1.len
  have B:j<u.length:=dI
  have M:u[j]?=some u[j]:=la B
  have:Fw.look ks (u.map ir) k=some (ir u[j]):=by unfold Fw.look;grind
  grind
theorem Iu{T u E:TypeId}{k:Int}{K:Value->Prop}(h:wL w0 b f)(e:Ext w0 w)(ht:P.underlying T=some (.map u E))(I:P.underlying u=some (.int .i64))(G:oT P E (.slice none 0 0))
  (B:∀s:SV,dD (λ_=>True) w0 (ir s) (f k)->K (ir s)):Lu P (yC T (.map (some b)) (hZ k) false) w K:=by
 obtain⟨s,h1,h2⟩:=h.aqt (P:=P) (k:=k) ht I G;exact⟨_,h1 w e,B s h2⟩
def M4(b:Nat)(f:Int->List α)(k:Int)(s:SV):HP:=qm λks=>qm λB:List SV=>qm λE:List (List α)=>qm λvs:List Value=>
 fact ((∀u,u≠k->f u=(look ks E u).getD [])/\look ks vs k=(lu ks k).map (λ_=>ir s)/\(lu ks k=none->s=bY)/\vs.length=B.length/\∀(i:Nat) (u:Int),ks[i]?=some u->u≠k->vs[i]?=(B[i]?).map ir) (sep (MX b ks vs) (iu D5 B E))
theorem St.M5{k:Int}(u:St w0 A (rM b f::L) w):∃s:SV,St w0 A (bE (ir s) (f k)::M4 b f k s::L) w:=by
 obtain⟨ks,u⟩:=u.eA;obtain⟨B,u⟩:=u.eA;obtain⟨E,u⟩:=u.eA;obtain⟨O,u⟩:=u.mK
 replace u:=u.split
 have V:=u.MZ
 have hl:=V.len
 have Z:=u.p1.ji
 have hn:=V.nodup
 rw[nc]at hl
 cases wN:lu ks k with
 | none=>
  refine⟨bY,?_⟩
  have W:look ks E k=none:=by unfold look;rw[wN];rfl
  have e:f k=[]:=by rw[O];dsimp only;rw[W];rfl
  rw[e]
  refine(St.eB ks (St.eB B (St.eB E (St.eB (B.map ir) (St.oW ⟨λM _=>by rw[O],by unfold look;rw[wN];rfl,λ_=>rfl,by rw[nc],λi M _ _=>by rw[o1]⟩ (St.join u)))))).eK
 | some j=>
  have J:=kI wN
  have Y:=(kB.1 J).1
  have I:B[j]?=some (B[j]'(cO)):=la _
  have G:E[j]?=some (E[j]'(cO)):=la _
  refine⟨B[j]'(cO),?_⟩
  have e:f k=E[j]'(cO):=by rw[O];dsimp only;rw[qN hn J G];rfl
  rw[e]
  have h1:=(u.p1.focus I G).p1
  have h2:=(h1.eK (α:=α)).p1
  have h3:St w0 A (D5 (bY:SV) ([]:List α)::n6 D5 B E j::_::_::L) w:=h2.p1
  have h4:=h3.Fm cO Z
  have h5:=h4.p2
  refine(St.eB ks (St.eB (B.set j bY) (St.eB (E.set j []) (St.eB (B.map ir) (St.oW ⟨λM U=>?_,by unfold look;rw[wN];simp[I],λh=>(by cases wN.symm.trans h),ei,λi M hi U=>?_⟩ (St.join h5)))))).p1
  .rw[O];dsimp only
   unfold look
   cases hq:lu ks M with
   | none=>rfl
   | some i=>
    have:j≠i:=λe=>U (by have:=kI hq;rw[<- e,J]at this;exact(n5.inj this).symm)
    simp[this]
  .rw[o1,G3]
   rintro rfl
   rw[J]at hi;exact U (n5.inj hi).symm
theorem St.CM{T B E:TypeId}{k:Int}{s:SV}(u:St w0 A (M4 b f k s::L) w)(ht:P.underlying T=some (.map B E))(I:P.underlying B=some (.int .i64))(G:oT P E (.slice none 0 0)) :
  (yC T (.map (some b)) (hZ k) false).run P w=.ok (ir s) w:=by
 obtain⟨ks,u⟩:=u.eA;obtain⟨J,u⟩:=u.eA;obtain⟨M,u⟩:=u.eA;obtain⟨vs,u⟩:=u.eA;obtain⟨⟨_,h2,h3,_⟩,u⟩:=u.mK
 have:=Al (P:=P) (k:=k) u.split.MZ ht I G
 rw[h2]at this
 cases wN:lu ks k with
 | none=>rw[wN]at this;rw[h3 wN];exact this
 | some j=>rw[wN]at this;exact this
theorem St.YZ{k:Int}{s:SV}{xs:List α}(u:St w0 A (bE (ir s) xs::M4 b f k s::L) w):St w0 A (rM b (qt f k xs)::L) w:=by
 replace u:=u.p1
 obtain⟨ks,u⟩:=u.eA;obtain⟨E,u⟩:=u.eA;obtain⟨G,u⟩:=u.eA;obtain⟨vs,u⟩:=u.eA;obtain⟨⟨hf,h2,h3,hvs,Y⟩,u⟩:=u.mK
 replace u:=u.split
 have W:=u.MZ
 have hl:=W.len
 have hn:=W.nodup
 have Hh:=u.p1.ji
 cases wN:lu ks k with
 | none=>
  have Z:=mR.1 wN
  have I:vs=E.map ir:=xn λi=>by
   cases hi:ks[i]? with
   | none=>rw[Dp]at hi;rw[nt cO,nt (by rw[nc];omega)]
   | some B=>rw[Y i B hi (λe=>Z (e▸kE hi)),o1]
  have hx:xs=[]:=by
   obtain⟨F,h,_⟩:=u.p2.head
   rw[h3 wN]at h
   rcases h with⟨_,h,_⟩|⟨b',cap,rest,h,_⟩
   .exact h
   .cases h
  subst hx
  refine St.eB ks (St.eB E (St.eB G (St.oW ?_ (St.join ?_))))
  .funext B
   unfold qt
   by_cases e:B=k
   .subst e;rw[ew rfl,qu Z];rfl
   .rw[ej e,hf B e]
  .rw[<- I];exact u.p2.drop
 | some j=>
  have J:=kI wN
  have hjk:=(kB.1 J).1
  have U:E[j]?=some (E[j]'(cO)):=la _
  have O:G[j]?=some (G[j]'(cO)):=la _
  have V:vs[j]?=some (ir s):=by unfold look at h2;rw[wN]at h2;exact h2
  have h6:=((u.p1.focus U O).drop).p2
  have h7:St w0 A (D5 s xs::n6 D5 E G j::_::L) w:=h6.p0
  have h8:=h7.Fm cO Hh
  refine St.eB ks (St.eB (E.set j s) (St.eB (G.set j xs) (St.oW ?_ (St.join ?_))))
  .funext B
   unfold qt
   by_cases e:B=k
   .subst e
    rw[ew rfl,qN hn J (x:=xs) (by rw[Dh cO])];rfl
   .rw[ej e,hf B e]
    unfold look
    cases hq:lu ks B with
    | none=>rfl
    | some i=>
     have:j≠i:=λM=>e (by have:=kI hq;rw[<- M,J]at this;exact(n5.inj this).symm)
     simp[this]
  .have e:(E.set j s).map ir=vs:=by
    apply xn
    intro i
    rw[o1]
    by_cases e:j=i
    .subst e;rw[Dh cO,V];rfl
    .rw[G3 e]
     cases hi:ks[i]? with
     | none=>rw[Dp]at hi;rw[nt (show vs.length<=i by omega),nt (show E.length<=i by omega)];rfl
     | some B=>rw[Y i B hi λM=>e (by rw[M]at hi;have h1:=td hn hi;rw[wN]at h1;exact n5.inj h1)]
   rw[e];exact h8.p1
omit [Flat α]in
theorem Vp{f:Int->List α}{k:Int}:qt f k (f k)=f:=by
 grind[qt]
theorem M6{T Kt E:TypeId}{k:Int}{s s':SV}{xs:List α}{K:hM}(u:St w0 A (bE (ir s') xs::M4 b f k s::L) w)(ht:P.underlying T=some (.map Kt E))(V:P.underlying Kt=some (.int .i64))
  (kk:∀w',St w0 A (rM b (qt f k xs)::L) w'->K w'):WY P (xP T (.map (some b)) (hZ k) (ir s')) w K:=by
 replace u:=u.p1
 obtain⟨ks,u⟩:=u.eA;obtain⟨G,u⟩:=u.eA;obtain⟨I,u⟩:=u.eA;obtain⟨vs,u⟩:=u.eA;obtain⟨⟨hf,h2,h3,hvs,Y0⟩,u⟩:=u.mK
 replace u:=u.split
 have hm:=u.MZ
 have hl:=hm.len
 have hn:=hm.nodup
 have Hh:=u.p1.ji
 obtain⟨w',r1,r2,J⟩:=aeI (P:=P) (v:=ir s') (k:=k) hm ht V
 refine⟨w',r1,kk w' ?_⟩
 cases wN:lu ks k with
 | none=>
  rw[wN]at J
  have h5:St w0 A (MX b (ks++[k]) (vs++[ir s'])::_::_::L) w':=u.rV λF O=>⟨F,⟨J,O.2⟩,λb hb=>.inl hb,r2.mono λk V=>(O.2 k).2 V⟩
  have Pm:=mR.1 wN
  have W:vs=G.map ir:=xn λi=>by
   cases hi:ks[i]? with
   | none=>rw[Dp]at hi;rw[nt cO,nt (by rw[nc];omega)]
   | some B=>rw[Y0 i B hi (λe=>Pm (e▸kE hi)),o1]
  have h6:=h5.p1
  have h7:St w0 A (iu D5 (G++[s']) (I++[xs])::_::L) w':=St.Fl (H:=D5 (α:=α)) (p:=s') (x:=xs) h6.p2.p1
  refine St.eB (ks++[k]) (St.eB (G++[s']) (St.eB (I++[xs]) (St.oW ?_ (St.join ?_))))
  .funext B
   unfold qt
   by_cases e:B=k
   .subst e
    rw[ew rfl,qN (i:=ks.length) J.nodup ei (x:=xs) (by rw[List.getElem?_append_right cO];simp[show ks.length-I.length=0 from cO])];rfl
   .rw[ej e,hf B e]
    by_cases tS:B∈ks
    .obtain⟨i,hi,Z⟩:=F1 tS
     have U:ks[i]?=some B:=by rw[la hi,Z]
     have M:I[i]?=some (I[i]'(cO)):=la _
     rw[qN hn U M,qN (i:=i) J.nodup (by rw[u3 hi];exact U) (by rw[u3 cO];exact M)]
    .rw[qu tS,qu (by simp[tS,e])]
  .have e:(G++[s']).map ir=vs++[ir s']:=by rw[W,wk];rfl
   rw[e];exact h7.p1
 | some j=>
  rw[wN]at J
  have h5:St w0 A (MX b ks (vs.set j (ir s'))::_::_::L) w':=u.rV λF O=>⟨F,⟨J,O.2⟩,λb hb=>.inl hb,r2.mono λk V=>(O.2 k).2 V⟩
  have Y:=kI wN
  have hjk:=(kB.1 Y).1
  have hsj:G[j]?=some (G[j]'(cO)):=la _
  have hxj:I[j]?=some (I[j]'(cO)):=la _
  have h6:=((h5.p1.focus hsj hxj).drop).p2
  have h7:St w0 A (D5 s' xs::n6 D5 G I j::_::L) w':=h6.p0
  have h8:=h7.Fm cO Hh
  refine St.eB ks (St.eB (G.set j s') (St.eB (I.set j xs) (St.oW ?_ (St.join ?_))))
  .funext B
   unfold qt
   by_cases e:B=k
   .subst e
    rw[ew rfl,qN hn Y (x:=xs) (by rw[Dh cO])];rfl
   .rw[ej e,hf B e]
    unfold look
    cases hq:lu ks B with
    | none=>rfl
    | some i=>
     have:j≠i:=λe'=>e (by have:=kI hq;rw[<- e',Y]at this;exact(n5.inj this).symm)
     simp[this]
  .have e:(G.set j s').map ir=vs.set j (ir s'):=by
    apply xn
    intro i
    rw[o1]
    by_cases e:j=i
    .subst e;rw[Dh cO,Dh cO];rfl
    .rw[G3 e,G3 e]
     cases hi:ks[i]? with
     | none=>rw[Dp]at hi;rw[nt (show vs.length<=i by omega),nt (show G.length<=i by omega)];rfl
     | some B=>rw[Y0 i B hi λe'=>e (by rw[e']at hi;have h1:=td hn hi;rw[wN]at h1;exact n5.inj h1)]
   rw[e];exact h8.p1
theorem BC{T:TypeId}{K:Value->hM}(u:St w0 A L w)(k:∀b w',St w0 A (rM b (λ_=>([]:List α))::L) w'->K (.map (some b)) w'):ry P (QO T none) w K:=
 MY u λb w' h=>k b w' (St.eB [] (St.eB [] (St.eB ([]:List (List α)) (St.oW rfl (St.join ((h.new (Ext.refl w') (H:=iu D5 [] []) (F:=aX) (λ_ h=>h) λ_ h=>h.elim).p1))))))
theorem M7{T Kt E R:TypeId}{k:Int}{A2:Array TypeId}{K:Value->hM}(u:St w0 A (rM b f::L) w)(ha:A2[0]?=some T)(ht:P.underlying T=some (.map Kt E))(V:P.underlying Kt=some (.int .i64))
  (kk:∀v w',St w0 A (rM b (qt f k [])::L) w'->K v w'):ry P (Builtin.delete_ A2 R [.map (some b),hZ k].toArray) w K:=by
 obtain⟨ks,u⟩:=u.eA;obtain⟨O,u⟩:=u.eA;obtain⟨M,u⟩:=u.eA;obtain⟨hf,u⟩:=u.mK
 replace u:=u.split
 have W:=u.MZ
 have hl:=W.len
 have Hh:=u.p1.ji
 have hn:=W.nodup
 rw[nc]at hl
 obtain⟨w',r1,r2,I⟩:=aeJ (P:=P) (R:=R) (k:=k) W ha ht V
 refine⟨_,w',r1,kk _ w' ?_⟩
 cases wN:lu ks k with
 | none=>
  rw[wN]at I
  have h5:St w0 A (MX b ks (O.map ir)::_::L) w':=u.rV λF U=>⟨F,⟨I,U.2⟩,λb hb=>.inl hb,r2.mono λk V=>(U.2 k).2 V⟩
  refine St.eB ks (St.eB O (St.eB M (St.oW ?_ (St.join h5))))
  funext k'
  unfold qt
  by_cases e:k'=k
  .subst e;rw[ew rfl];unfold look;rw[wN];rfl
  .rw[ej e,hf]
 | some j=>
  rw[wN]at I
  have hj:=kI wN
  have hjk:=(kB.1 hj).1
  have h5:St w0 A (MX b (ks.eraseIdx j) ((O.map ir).eraseIdx j)::_::L) w':=u.rV λF U=>⟨F,⟨I,U.2⟩,λb hb=>.inl hb,r2.mono λk V=>(U.2 k).2 V⟩
  have Z:O[j]?=some (O[j]'(cO)):=la _
  have Y:M[j]?=some (M[j]'(cO)):=la _
  have h6:=(h5.p1.focus Z Y).drop.Vb
  dsimp only at I
  rw[<- ChangeMaps.map_eraseIdx]at h6 I
  refine St.eB (ks.eraseIdx j) (St.eB (O.eraseIdx j) (St.eB (M.eraseIdx j) (St.oW ?_ (St.join h6.p1))))
  funext k'
  unfold qt
  by_cases e:k'=k
  .subst e
   rw[ew rfl,qu];rfl
   intro LP
   obtain⟨i,hi,B⟩:=F1 LP
   rw[List.getElem_eraseIdx]at B
   split at B
   .have:=td (j:=i) hn (k:=k') (by rw[<- B];exact la _);rw[wN]at this;have:=n5.inj this;omega
   .have:=td (j:=i+1) hn (k:=k') (by rw[<- B];exact la _);rw[wN]at this;have:=n5.inj this;omega
  .rw[ej e,hf];dsimp only
   by_cases tS:k'∈ks
   .obtain⟨i,hi,B⟩:=F1 tS
    have G:ks[i]?=some k':=by rw[la hi,B]
    have J:M[i]?=some (M[i]'(cO)):=la _
    have hij:i≠j:=λe'=>e (by rw[e',hj]at G;exact(n5.inj G).symm)
    rw[qN hn G J]
    by_cases ot:i<j
    .rw[qN (i:=i) I.nodup (by rw[QW ot];exact G) (by rw[QW ot];exact J)]
    .rw[qN (i:=i-1) I.nodup (by rw[Q3 cO,show i-1+1=i from cO];exact G) (by rw[Q3 cO,show i-1+1=i from cO];exact J)]
   .rw[qu tS,qu λh=>tS ((List.eraseIdx_sublist ks j).subset h)]
end
section
variable {α:Type}[Flat α] {P:Program}{w w0 w':World}{A S:Nat->Prop}{L:List HP}{xs ys:List α}
theorem Qu{T T2 E G b o dn dc:Nat}{z:Option Nat}{R:TypeId}{src:Value}{cs:List Value}(ht:eY P T=some (E,mA α,G,z))(hb:nh w b cs)(u:dD S w src ys)
  (U:ys.length<=dn) (V:o+ys.length*mA α<=cs.length) :
  ∃w',(Builtin.copy_ #[T,T2] R [.slice (some ⟨b,o,none⟩) dn dc,src].toArray).run P w=.ok (hZ ys.length) w'/\nh w' b (jo cs o (flat ys))/\gJ (· = b) w w':=by
 obtain⟨J,B,hi,I,Y,_⟩:=fz ht
 have M:=yH (α:=α) (P:=P) (sz:=mA α) rfl u
 have rd:=u
 obtain⟨W,Z,rfl,XT,O⟩:=rd
 obtain⟨w',h1,h2,h3⟩:=nj (P:=P) (o:=o) (flat ys) 0 cs w hb (by rw[dG];omega) A0
 refine⟨w',?_,cO,h3⟩
 simp[Builtin.copy_,run_underlying J,sizeOf,typeInfo,hi,Builtin.lenOf,Gf U,M,I,h1,goInt]
theorem M8{T T2 E Z:Nat}{z:Option Nat}{R:TypeId}{v src:Value}{K:Value->hM}(J:St w0 A (bE v xs::L) w)(ht:eY P T=some (E,mA α,Z,z))(G:dD S w src ys)(B:ys.length<=xs.length)
  (k:∀w',St w0 A (bE v (ys++xs.drop ys.length)::L) w'->K (hZ ys.length) w'):ry P (Builtin.copy_ #[T,T2] R [v,src].toArray) w K:=by
 obtain⟨U,F,U',g1,g2,g3,g4,g5⟩:=J.uC
 rcases g1 with⟨rfl,rfl,hF⟩|⟨b,cap,rest,rfl,hb,W,hF⟩
 .obtain rfl:ys=[]:=by simpa using B
  obtain⟨hu,Y,hi,pf,xr,_⟩:=fz ht
  have V:=yH (α:=α) (P:=P) (sz:=mA α) rfl G
  obtain⟨sa,Hu,rfl,XT,hs3⟩:=G
  refine⟨_,w,?_,k w J⟩
  simp at V
  simp[Builtin.copy_,run_underlying hu,sizeOf,typeInfo,hi,Builtin.lenOf,pf,V,goInt]
 have hle:ys.length*mA α<=xs.length*mA α:=Nat.mul_le_mul_right _ B
 obtain⟨w',h1,h2,h3⟩:=Qu (P:=P) (o:=0) (dn:=xs.length) (dc:=cap) (T2:=T2) (R:=R) ht hb G B (by rw[lr,dG];omega)
 refine⟨_,w',h1,k w' (J.rV λF' u=>?_)⟩
 rcases u with⟨h,_⟩|⟨b',D0,I,M,hb',hl',u⟩
 .cases h
 simp only[Value.slice.injEq,n5.injEq,Addr.mk.injEq,and_true,true_and]at M
 obtain⟨rfl,rfl⟩:=M
 refine⟨F',.inr ⟨b,cap,rest,?_,?_,?_,u⟩,λb hb=>.inl hb,h3.mono λk hk=>(u k).2 hk⟩
 .congr 1;rw[lr,rH];omega
 .have e:flat xs=[]++flat (xs.take ys.length)++flat (xs.drop ys.length):=by rw[List.nil_append,<- gU,qa]
  have:=mH [] (flat (xs.take ys.length)) (flat (xs.drop ys.length)++rest) (flat ys) (by rw[dG,dG,l1,Gf B])
  rw[List.length_nil]at this
  rw[e,nK,this]at h2
  rw[gU,nK];exact h2
 have O:(ys++xs.drop ys.length).length=xs.length:=by rw[lr,rH];omega
 exact⟨by rw[O];exact W.1,by have:=W.2;rw[lr,dG]at this |-;rw[O];exact this⟩
end
section
variable {P:Program}{w w0 w':World}{A:Nat->Prop}{L:List HP}{b r:Nat}
def Iv(r m since:Nat)(seen:Array Nat):HP where
 p w F:=w.heap[r]?=some (.mapIter (some m) since seen since)/\∀k,F k↔k=r
 loc w w' F h hh:=⟨(hh r ((h.2 r).2 rfl)).trans h.1,h.2⟩
 lt w F b' h hb:=dI
theorem Vq{T u E:TypeId}{es:Array MapEntry}{clock:Nat}{K:Value->hM}(B:St w0 A L w)(ht:P.underlying T=some (.map u E))(hb:w.heap[b]?=some (.map es clock))
  (k:∀r w',St w0 A (Iv r b clock #[]::L) w'->K (.pointer (some ⟨r,0,none⟩)) w'):ry P (Instr.range T (.map (some b))) w K:=
 ⟨_,_,run_range_map w T u E b es clock ht hb,k _ _ (B.new (Ext.push w _) (F:=λk=>k=w.heap.size) ⟨mF _ _,λ_=>Iff.rfl⟩ λb hb=>by rw[hb];exact o6 _)⟩
theorem Y3{T since:Nat}{seen:Array Nat}{es:Array MapEntry}{K:Value->hM}(B:St w0 A (Iv r b since seen::L) w)(hb:w.heap[b]?=some (.map es since))(hold:∀x∈es.toList,x.born<since)
  (J:(leftOf es seen).size=0->K (.tuple #[.bool false]) w)
  (O:∀e w',e∈(leftOf es seen).toList->St w0 A (Iv r b since (seen.push e.born)::L) w'->K (.tuple #[.bool true,e.key,e.val]) w'):ry P (Instr.next (.pointer (some ⟨r,0,none⟩)) false T) w K:=by
 obtain⟨F,h,_⟩:=B.head
 rcases run_next_at (P:=P) w T r b since since seen es since h.1 hb hold (o6 _)with⟨h1,h2⟩|⟨e,M,E,G,h2⟩
 .exact⟨_,w,h2,J h1⟩
 have I:St w0 A (Iv r b since seen::L) E:=by
  rcases G with rfl|rfl
  .exact B
  .exact B.ext ⟨rfl,rfl,rfl,o6 _,λ_ _ _=>rfl⟩
 refine⟨_,_,h2,O e _ M (I.rV λF u=>⟨F,⟨kz _ (vL u.1),u.2⟩,λb hb=>.inl hb,(gJ.setBlock E r _).mono λk U=>(u.2 k).2 U⟩)⟩
theorem Vr{since:Nat}{seen:Array Nat}{es:Array MapEntry}{e:MapEntry}{K:Value->Prop}(u:St w0 A (Iv r b since (seen.push e.born)::L) w)(hb:w.heap[b]?=some (.map es since))(B:e∈es.toList)(E:(es.toList.map (·.born)).Nodup)
  (k:K (.tuple #[e.key,e.val])):Lu P (Instr.entry (.pointer (some ⟨r,0,none⟩))) w K:=by
 obtain⟨F,h,_⟩:=u.head
 exact⟨_,run_entry_at w r b since seen es since e h.1 hb B E,k⟩
theorem FN{o:Obj}(h:w.heap[b]?=some o)(e:Ext w w'):w'.heap[b]?=some o:=(e.bW b (vL h) λh=>h).trans h
theorem xU{seen:Array Nat}{x y:Nat}(h:(seen.push x).contains y=true):seen.contains y=true\/y=x:=by
 grind
theorem born_inj{es:Array MapEntry}(E:(es.toList.map (·.born)).Nodup){e u:MapEntry}(h:e∈es.toList)(B:u∈es.toList)(hb:e.born=u.born):e=u:=by
 obtain⟨i,hi,rfl⟩:=F1 h
 obtain⟨j,G,rfl⟩:=F1 B
 have:=(aaR (i:=i) (j:=j) (h₀:=by grind) (h₁:=by grind) E).1 dI
 grind
end
section
variable {P:Program}{w w0 w':World}{A:Nat->Prop}{L:List HP}{b r:Nat}
theorem bG{f:FuncId}{args:List Value}{H:HP}{H':Value->HP}{Φ:Value->hM}{K:Value->hM}(pl:Plain P f)(B:St w0 A (H::L) w)
  (hc:∀F,H.p w F->(∀w',gJ F w w'->St w0 A L w')->Calls P f args.toArray w (tQ λv w'=>Φ v w'/\nd F (H' v) w w')) (k:∀v w',Φ v w'->St w0 A (H' v::L) w'->K v w'):Dm P f args w K:=by
 obtain⟨U,F,I,h1,h2,h3,h4,h5⟩:=B.uC
 refine dO pl (hc F h1 λw' E=>⟨B.aG.trans E (λ_ h=>h) λb hb u=>(h2 b u).elim id λM=>cO,I,h5.loc λb hb=>E.bW b (h5.lt b hb) λu=>h3 b u hb⟩) λv w' ⟨G,J⟩=>k v w' G (B.Yh h2 h3 h5 J)
theorem BD{g:FuncId}{args first cap:List Value}{H:HP}{H':Value->HP}{Φ:Value->hM}{K:Value->hM}(pl:Plain P g)(B:St w0 A (H::L) w)
  (hc:∀F,H.p w F->(∀w',gJ F w w'->St w0 A L w')->Calls P g (first++args++cap).toArray w (tQ λv w'=>Φ v w'/\nd F (H' v) w w')) (k:∀v w',Φ v w'->St w0 A (H' v::L) w'->K v w'):kT P (.func (.func g) first.toArray cap.toArray) args w K:=by
 obtain⟨U,F,I,h1,h2,h3,h4,h5⟩:=B.uC
 refine ij pl (hc F h1 λw' E=>⟨B.aG.trans E (λ_ h=>h) λb hb u=>(h2 b u).elim id λM=>cO,I,h5.loc λb hb=>E.bW b (h5.lt b hb) λu=>h3 b u hb⟩) λv w' ⟨G,J⟩=>k v w' G (B.Yh h2 h3 h5 J)
end
def Has(H:HP)(w:World):Prop:=∃F,H.p w F
def St.has{w w0:World}{A:Nat->Prop}{L:List HP}{H:HP}(u:St w0 A (H::L) w):Has H w:=by obtain⟨F,h,_⟩:=u.head;exact⟨F,h⟩
theorem Has.ext{H:HP}{w w':World}(h:Has H w)(e:Ext w w'):Has H w':=by
 obtain⟨F,h⟩:=h;exact⟨F,H.loc _ _ _ h λb hb=>e.bW b (H.lt _ _ _ h hb) λx=>x⟩
def Has.st{H:HP}{w:World}(h:Has H w):∃F,St w F [H] w:=by obtain⟨F,h⟩:=h;exact⟨F,St.begin h⟩
abbrev SI:=ByteArray×Int
def Tl(p:SI):Value×Value:=(.string p.1,hZ p.2)
def vj(w:World)(b:Nat)(l:List SI):Prop:=
 ∃es clock,w.heap[b]?=some (.map es clock)/\Stamped es clock/\(es.toList.map λe=>(e.key,e.val)).Perm (l.map Tl)
def eP:List SI->ByteArray->Int
 | [],_=>0
 | p::r,k=>if p.1=k then p.2 else eP r k
theorem vk:∀{l:List SI}{p:SI},(l.map (·.1)).Nodup->p∈l->eP l p.1=p.2
 | q::r,p,hn,hm=>by
  rw[List.map_cons,Ka]at hn
  rcases sl.1 hm with rfl|hm
  .unfold eP;grind
  .have:q.1≠p.1:=λe=>hn.1 (ob.2 ⟨p,hm,e.symm⟩)
   unfold eP;rw[ej this];exact vk hn.2 hm
theorem Am:∀{l:List SI}{k:ByteArray},(∀p∈l,p.1≠k)->eP l k=0
 | [],_,_=>rfl
 | q::r,k,h=>by
  unfold eP;rw[ej (h q (List.mem_cons_self ..))];exact Am λp u=>h p (List.mem_cons_of_mem _ u)
def Qv{l:List SI}{k:ByteArray}(E:(l.map (·.1)).Nodup)(B:∀p∈l,p.2≠0)(h:eP l k=0):∀p∈l,p.1≠k:=λp u e=>by
 subst e;exact B p u ((vk E u).symm.trans h)
section
variable {P:Program}{w w0 w':World}{A:Nat->Prop}{L:List HP}{b:Nat}{l:List SI}
theorem vj.of_eq(h:vj w b l)(u:w'.heap[b]?=w.heap[b]?):vj w' b l:=by
 grind[vj]
theorem vj.lt(h:vj w b l):b<w.heap.size:=by obtain⟨es,c,h1,_⟩:=h;grind
theorem vj.nodup(h:vj w b l):(l.map (·.1)).Nodup:=by
 obtain⟨es,c,_,h2,h3⟩:=h
 have h4:=(h3.map Prod.fst)
 rw[H4,H4]at h4
 have h5:(l.map λp=>GJ p.1).Nodup:=h4.nodup_iff.1 h2.2.2
 grind
theorem vj.perm{u:List SI}(h:vj w b l)(B:l.Perm u):vj w b u:=by
 obtain⟨es,c,h1,h2,h3⟩:=h;exact⟨es,c,h1,h2,h3.trans (B.map _)⟩
def nJ(b:Nat)(l:List SI):HP where
 p w F:=vj w b l/\∀k,F k↔k=b
 loc w w' F h hh:=⟨h.1.of_eq (hh b ((h.2 b).2 rfl)),h.2⟩
 lt w F b' h hb:=by rw[(h.2 b').1 hb];exact h.1.lt
theorem Y4{es:Array MapEntry}(h3:(es.toList.map λe=>(e.key,e.val)).Perm (l.map Tl)){e:MapEntry}(B:e∈es.toList):∃p∈l,e.key=.string p.1/\e.val=hZ p.2:=by
 have:(e.key,e.val)∈l.map Tl:=h3.mem_iff.1 (ob.2 ⟨e,B,rfl⟩)
 obtain⟨p,E,u⟩:=ob.1 this
 unfold Tl at u
 grind
theorem Y5{es:Array MapEntry}(h3:(es.toList.map λe=>(e.key,e.val)).Perm (l.map Tl)){p:SI}(u:p∈l):∃e∈es.toList,e.key=.string p.1/\e.val=hZ p.2:=by
 have:Tl p∈es.toList.map λe=>(e.key,e.val):=h3.mem_iff.2 (ob.2 ⟨p,u,rfl⟩)
 obtain⟨e,E,B⟩:=ob.1 this
 unfold Tl at B
 grind
theorem Iw{T:TypeId}{k:ByteArray}{es:Array MapEntry}(G:P.underlying T=some .string)(h3:(es.toList.map λe=>(e.key,e.val)).Perm (l.map Tl)) :
  ((∀p∈l,p.1≠k)/\(Ub T (.string k) es.toList).run P w=.ok none w)\/∃j p,p∈l/\p.1=k/\(Ub T (.string k) es.toList).run P w=.ok (some (j,hZ p.2)) w:=by
 rcases MapKept.findNow_spec (d:=.string) (k:=.string k) (by simp[IsKey]) es.toList 0 (λx E=>by obtain⟨p,_,e,_⟩:=Y4 h3 E;rw[e];simp[IsKey])with⟨h1,h2⟩|⟨j,e,h1,h2,h4⟩
 .refine .inl ⟨λp B e=>?_,MapKept.run_findKey G h1⟩
  obtain⟨x,E,u,_⟩:=Y5 h3 B
  grind
 obtain⟨p,B,u,I⟩:=Y4 h3 (kE h2)
 rw[h4]at u;injection u with u
 refine .inr ⟨j,p,B,u.symm,?_⟩
 rw[u4,I]at h1
 exact MapKept.run_findKey G h1
theorem M9{T G E:TypeId}{k:ByteArray}(h:vj w b l)(ht:P.underlying T=some (.map G E))(I:P.underlying G=some .string)(u:oT P E (hZ 0)) :
  (yC T (.map (some b)) (.string k) false).run P w=.ok (hZ (eP l k)) w:=by
 have M:=h.nodup
 obtain⟨es,c,h1,h2,h3⟩:=h
 have B:(zeroValue E).run P w=.ok (hZ 0) w:=by
  unfold oT eD at u
  cases hi:P.info? E with
  | none=>grind
  | some i=>
   rw[hi]at u
   simp only[F3,n5.injEq]at u
   refine gn ?_ w
   unfold zeroValue;rw[cZ,mG hi];simp only[mU,u];rfl
 have hc:=MapKept.run_checkKey (P:=P) (w:=w) (kt:=G) (k:=.string k) I (by simp[IsKey]) es.isEmpty 9999
 rcases Iw (w:=w) (k:=k) I h3 with⟨h5,h6⟩|⟨j,p,h5,h6,J⟩
 .simp[yC,run_underlying ht,MapKept.run_getObj_map h1,hc,h6,B,Result.andThen,Am h5]
 subst h6
 simp[yC,run_underlying ht,MapKept.run_getObj_map h1,hc,J,Result.andThen,vk M h5]
theorem Na{T u E:TypeId}{v:Int}{k:ByteArray}(h:vj w b l)(ht:P.underlying T=some (.map u E))(B:P.underlying u=some .string)(M:∀p∈l,p.1≠k) :
  ∃w',(xP T (.map (some b)) (.string k) (hZ v)).run P w=.ok () w'/\gJ (· = b) w w'/\vj w' b (l++[(k,v)]):=by
 have G:=h.lt
 obtain⟨es,c,h1,h2,h3⟩:=h
 have hc:=MapKept.run_checkKey (P:=P) (w:=w) (kt:=u) (k:=.string k) B (by simp[IsKey]) false 9999
 rcases Iw (w:=w) (k:=k) B h3 with⟨h5,h6⟩|⟨j,p,h5,h6,U⟩
 .refine⟨_,?_,gJ.setBlock w b (.map (es.push ⟨.string k,hZ v,c⟩) (c+1)),?_⟩
  .simp[xP,run_underlying ht,MapKept.run_getObj_map h1,hc,h6,oL h1,Result.andThen]
  refine⟨_,_,kz _ G,MapKept.stamped_push h2 λx I e=>?_,?_⟩
  .obtain⟨p,O,J,_⟩:=Y4 h3 I
   grind
  rw[aaB,wk,wk]
  exact h3.append (List.Perm.refl _)
 grind
theorem Nb{T:TypeId}{K:Value->hM}(u:St w0 A L w)(k:∀b w',St w0 A (nJ b []::L) w'->K (.map (some b)) w'):ry P (QO T none) w K:=
 ⟨_,_,rfl,k _ _ (u.new (Ext.push w (.map #[] 0)) (F:=λk=>k=w.heap.size) ⟨⟨#[],0,mF _ _,⟨ei,ei,ei⟩,ei⟩,λ_=>Iff.rfl⟩ λb hb=>by rw[hb];exact o6 _)⟩
theorem St.nJ(u:St w0 A (nJ b l::L) w):vj w b l:=by obtain⟨F,h,_⟩:=u.head;exact h.1
theorem yR{T u E:TypeId}{k:ByteArray}{K:Value->Prop}(h:vj w b l)(ht:P.underlying T=some (.map u E))(I:P.underlying u=some .string)(G:oT P E (hZ 0))(B:K (hZ (eP l k))):Lu P (yC T (.map (some b)) (.string k) false) w K:=
 ⟨_,M9 h ht I G,B⟩
theorem Nc{T B E:TypeId}{v:Int}{k:ByteArray}{K:hM}(I:St w0 A (Fw.nJ b l::L) w)(ht:P.underlying T=some (.map B E))(u:P.underlying B=some .string)(J:∀p∈l,p.1≠k)
  (M:∀w',St w0 A (Fw.nJ b (l++[(k,v)])::L) w'->K w'):WY P (xP T (.map (some b)) (.string k) (hZ v)) w K:=by
 obtain⟨w',h1,h2,h3⟩:=Na (P:=P) (v:=v) (k:=k) I.nJ ht u J
 exact⟨w',h1,M w' (I.rV λF G=>⟨F,⟨h3,G.2⟩,λb hb=>.inl hb,h2.mono λk u=>(G.2 k).2 u⟩)⟩
theorem key_inj{es:Array MapEntry}(E:(es.toList.map (·.key)).Nodup){e u:MapEntry}(h:e∈es.toList)(B:u∈es.toList)(hb:e.key=u.key):e=u:=by
 obtain⟨i,hi,rfl⟩:=F1 h
 obtain⟨j,G,rfl⟩:=F1 B
 have:=(aaR (i:=i) (j:=j) (h₀:=by grind) (h₁:=by grind) E).1 dI
 grind
theorem Y6{l:List SI}(u:(l.map (·.1)).Nodup){p q:SI}(B:p∈l)(E:q∈l)(h:p.1=q.1):p=q:=by
 have h1:=vk u B
 have h2:=vk u E
 grind
end
open Go.MapKept (IsKey)
section
variable {P:Program}{w w':World}{b:Nat}{l:List ByteArray}
def Kb(w:World)(b:Nat)(l:List ByteArray):Prop:=
 ∃es clock,w.heap[b]?=some (.map es clock)/\(es.toList.map λe=>(e.key,e.val))=l.map λs=>(GJ s,xH true)
theorem Nd{T I E:TypeId}{k:ByteArray}(h:Kb w b l)(ht:P.underlying T=some (.map I E))(J:P.underlying I=some .string)(B:oT P E (.bool false)) :
  (yC T (.map (some b)) (.string k) false).run P w=.ok (.bool (l.any λy=>decide (y=k))) w:=by
 obtain⟨es,c,h1,h2⟩:=h
 have G:(zeroValue E).run P w=.ok (.bool false) w:=by
  unfold oT eD at B
  cases hi:P.info? E with
  | none=>grind
  | some i=>
   rw[hi]at B
   simp only[F3,n5.injEq]at B
   refine gn ?_ w
   unfold zeroValue;rw[cZ,mG hi];simp only[mU,B];rfl
 have hc:=MapKept.run_checkKey (P:=P) (w:=w) (kt:=I) (k:=.string k) J (by simp[IsKey]) es.isEmpty 9999
 have mem:∀e∈es.toList,∃s∈l,e.key=.string s/\e.val=.bool true:=λe O=>by
  have:(e.key,e.val)∈l.map λs=>(GJ s,xH true):=dI
  grind
 rcases MapKept.findNow_spec (d:=.string) (k:=.string k) (by simp[IsKey]) es.toList 0 (λx V=>by obtain⟨p,_,e,_⟩:=mem x V;rw[e];simp[IsKey])with⟨h3,h4⟩|⟨j,e,h3,h4,h5⟩
 .have:(l.any λy=>decide (y=k))=false:=by
   rw[B2]
   intro s M
   have:(GJ s,xH true)∈es.toList.map λe=>(e.key,e.val):=by rw[h2];exact ob.2 ⟨s,M,rfl⟩
   obtain⟨e,O,u⟩:=ob.1 this
   simp only[Prod.mk.injEq]at u
   intro h
   exact h4 e O (by rw[u.1,g7 h])
  rw[this]
  simp[yC,run_underlying ht,MapKept.run_getObj_map h1,hc,MapKept.run_findKey J h3,G,Result.andThen]
 obtain⟨s,M,u,U⟩:=mem e (kE h4)
 rw[h5]at u;injection u with u
 have:(l.any λy=>decide (y=k))=true:=wS.2 ⟨s,M,ez u.symm⟩
 rw[this]
 rw[u4,U]at h3
 simp[yC,run_underlying ht,MapKept.run_getObj_map h1,hc,MapKept.run_findKey J h3,Result.andThen]
theorem Nf{T u E:TypeId}{k:ByteArray}{K:Value->Prop}(h:Kb w b l)(ht:P.underlying T=some (.map u E))(I:P.underlying u=some .string)(G:oT P E (.bool false))(B:K (.bool (l.any λy=>decide (y=k)))):Lu P (yC T (.map (some b)) (.string k) false) w K:=
 ⟨_,Nd h ht I G,B⟩
end
section
variable {P:Program}{w w0 w':World}{A:Nat->Prop}{L:List HP}{b:Nat}{l:List ByteArray}
theorem Kb.lt(h:Kb w b l):b<w.heap.size:=by obtain⟨es,c,h1,_⟩:=h;grind
def Qw(b:Nat)(l:List ByteArray):HP where
 p w F:=Kb w b l/\∀k,F k↔k=b
 loc w w' F h hh:=⟨by grind[Kb],h.2⟩
 lt w F b' h hb:=by rw[(h.2 b').1 hb];exact h.1.lt
theorem Y7{T:TypeId}{K:Value->hM}(u:St w0 A L w)(k:∀b w',St w0 A (Qw b []::L) w'->K (.map (some b)) w'):ry P (QO T none) w K:=
 ⟨_,_,rfl,k _ _ (u.new (Ext.push w (.map #[] 0)) (F:=λk=>k=w.heap.size) ⟨⟨#[],0,mF _ _,rfl⟩,λ_=>Iff.rfl⟩ λb hb=>by rw[hb];exact o6 _)⟩
theorem Y8{T I E:TypeId}{k:ByteArray}{K:hM}(B:St w0 A (Qw b l::L) w)(ht:P.underlying T=some (.map I E))(G:P.underlying I=some .string)(U:∀s∈l,s≠k)
  (Y:∀w',St w0 A (Qw b (l++[k])::L) w'->K w'):WY P (xP T (.map (some b)) (.string k) (.bool true)) w K:=by
 have J:∃w',(xP T (.map (some b)) (.string k) (.bool true)).run P w=.ok () w'/\gJ (· = b) w w'/\Kb w' b (l++[k]):=by
  obtain⟨F,h,_⟩:=B.head
  have O:=h.1.lt
  obtain⟨es,c,h1,h2⟩:=h.1
  have mem:∀e∈es.toList,∃s∈l,e.key=.string s:=λe V=>by
   have:(e.key,e.val)∈l.map λs=>(GJ s,xH true):=by rw[<- h2];exact ob.2 ⟨e,V,rfl⟩
   obtain⟨s,B,u⟩:=ob.1 this
   simp only[Prod.mk.injEq]at u
   exact⟨s,B,u.1.symm⟩
  have hc:=MapKept.run_checkKey (P:=P) (w:=w) (kt:=I) (k:=.string k) G (by simp[IsKey]) false 9999
  rcases MapKept.findNow_spec (d:=.string) (k:=.string k) (by simp[IsKey]) es.toList 0 (λx W=>by obtain⟨p,_,e⟩:=mem x W;rw[e];simp[IsKey])with⟨h3,h4⟩|⟨j,e,h3,h4,h5⟩
  .have h6:=MapKept.run_findKey (P:=P) (w:=w) G h3
   refine⟨_,?_,gJ.setBlock w b (.map (es.push ⟨.string k,.bool true,c⟩) (c+1)),_,_,kz _ O,?_⟩
   .simp[xP,run_underlying ht,MapKept.run_getObj_map h1,hc,h6,oL h1,Result.andThen]
   .rw[aaB,wk,wk,h2];rfl
  .obtain⟨s,B,u⟩:=mem e (kE h4)
   rw[h5]at u;injection u with u
   exact absurd u.symm (U s B)
 obtain⟨w',h1,h2,h3⟩:=J
 exact⟨w',h1,Y w' (B.rV λF M=>⟨F,⟨h3,M.2⟩,λb hb=>.inl hb,h2.mono λk G=>(M.2 k).2 G⟩)⟩
theorem St.Qw(u:St w0 A (Fw.Qw b l::L) w):Kb w b l:=by obtain⟨F,h,_⟩:=u.head;exact h.1
theorem Ng{f : FuncId}{u : Func}{e : Array Value -> Sem Value}{args : List Value}{v : Value}{K : Value -> World -> Prop}(G : P.funcs[f]?=some u)(hb : (u.name == "runtime.NumGoroutine")=false /\ u.body.isNone=true /\ Extern.findNext u=none)(E : Extern.find u=some e)
  (B:pr P (e args.toArray)=some v) (k:K v w):Dm P f args w K:=by
 refine⟨.inr ⟨v,w,?_,k⟩⟩
 show(match P.funcs[f]? with|none=>_|some u=>_:Sem Next).run P w=_
 rw[G]
 simp only[hb.1,hb.2.1,hb.2.2,E]
 have:=gn B w
 simp_all
theorem Qx{T:Nat}{s:ByteArray}{i:Int}{K:Value->Prop}(u:P.underlying T=some .string)(B:0<=i)(h1:i<=s.size)(k:K (.string (s.extract i.toNat s.size))):eX P (n0 T (.string s) (some (hZ i)) none none) K:=by
 refine⟨_,?_,k⟩
 unfold n0
 rw[cZ,cY u]
 simp only[mU]
 unfold Instr.slice
 rw[cZ,cY u]
 simp only[mU]
 rw[ej ee]
 have hb:pr P (wM false s.size s.size (some (hZ i)) none none)=some (i.toNat,s.size,s.size):=by
  simp only[wM,cZ,fY,mU]
  rw[jt B cO];rfl
 rw[cZ,hb];rfl
theorem Kc(s:ByteArray)(i j:Nat):iX (s.extract i j)=((iX s).drop i).take (j-i):=by
 simp_all[iX]
theorem Tm{s t:ByteArray}(h:iX s=iX t):s=t:=by
 cases s;cases t
 exact g6 kp (Array.toList_inj.1 h)
def HA:List UInt8->UInt8->Option Nat
 | [],_=>none
 | x::r,c=>if x=c then some 0 else(HA r c).map (· + 1)
def FP(l:List UInt8)(c:UInt8):Int:=match HA l c with|some k=>(k:Int)|none=>-1
theorem Iy(l:List UInt8)(c:UInt8)(g:Nat->Bool):∀(r:List UInt8) (o:Nat),(∀j x,r[j]?=some x->g (o+j)=(x == c))->(List.range' o r.length).find? g=(HA r c).map (o + ·)
 | [],o,h=>rfl
 | x::r,o,h=>by
  have u:=h 0 x rfl
  rw[List.length_cons,List.range'_succ,List.find?_cons,show g o=(x == c)from u]
  unfold HA
  by_cases e:x=c
  .grind
  .rw[ej e,show(x == c)=false from beq_eq_false_iff_ne.2 e]
   show List.find? g _=_
   rw[Iy l c g r (o+1) λj x B=>by rw[show o+1+j=o+(j+1)from cO];simp_all]
   rw[Option.map_map]
   congr 1;grind
theorem aj1(s:ByteArray)(c:UInt8):pr P (Extern.BytealgIndexByte.indexByte #[.string s,.int .u8 (c.toNat:Int)])=some (hZ (FP (iX s) c)):=by
 have B:Extern.BytealgIndexByte.indexByte #[.string s,.int .u8 (c.toNat:Int)]=(do let b <- Extern.Bytes.bytesOf (.string s);let d <- Extern.Bytes.asByte (.int .u8 (c.toNat:Int));match (tU b.size).find? λi=>b[i]! == d with|some i=>pure (goInt i)|none=>pure (goInt (-1))):=rfl
 have hc:(Extern.Bytes.asByte (.int .u8 (c.toNat:Int)))=pure c:=by
  show pure ((c.toNat:Int).toNat.toUInt8)=_
  simp_all
 have hb:(Extern.Bytes.bytesOf (.string s))=pure s:=rfl
 have E:(tU s.size).find? (λi=>s[i]! == c)=HA (iX s) c:=by
  have:=Iy (iX s) c (λi=>s[i]! == c) (iX s) 0 λj x u=>by
   rw[S3]at u
   grind
  rw[fh]at this
  rw[List.range_eq_range',this]
  simp_all
 rw[B]
 simp only[hc,hb,cZ,fY,mU,E]
 unfold FP
 cases HA (iX s) c<;>rfl
theorem Y9(l:List UInt8)(c:UInt8):0<=FP l c↔l.any (λb=>decide (b=c))=true:=by
 unfold FP
 induction l with
 | nil=>exact⟨λh=>absurd (show(0:Int)<=-1 from h) ee,λh=>by cases h⟩
 | cons x r u=>
  rw[List.any_cons]
  unfold HA
  by_cases e:x=c
  .rw[ew e,ez e];exact⟨λ_=>rfl,λ_=>by show(0:Int)<=((0:Nat):Int);omega⟩
  .rw[ej e,fV e,Bool.false_or,<- u]
   cases HA r c with
   | none=>exact Iff.rfl
   | some k=>exact⟨λ_=>by show(0:Int)<=(k:Int);omega,λ_=>by show(0:Int)<=((k+1:Nat):Int);omega⟩
end
end Go.Fw
namespace Go.Proofs.YtpdlpabnlkofmaaGreatDoor
open Go.Fw
variable (w:World) (K:Value->hM)
def S335(M J BE I:Value):Prop:=
 bB .eql 3 I (i 0) λa=>cV a (K (.slice none 0 0) w) (eX hH (ke .eql 9 false true J (Go.Value.string (kp (#[])))) λb=>cV b (cF 338 [M,I] w λc d=>
 K c d) (eQ (λW=>bB .lss 3 I (i 0) λe=>cV e (cF 339 [M,J] w λf g=>bB .add 3 f (i 1) λh=>W h g) (W I w)) (λO j=>∀_:Env,
 lN 9 M λk=>bB .add 3 k (i 1) λl=>eX hH (Builtin.min_ #[3,3] 3 [O,l].toArray) λn=>ry hH (Instr.makeSlice 91 n n) j λo p=>bB .sub 3 n (i 1) λq=>
 EX (λK2=>nP (λV E B r=>∀_:Env,
 bA .lss 3 B q λs=>cV s (cF 337 [E,J] r λt u=>bB .lss 3 t (i 0) λv=>cV v (K2 E B u) (bA .add 3 t BE λx=>eX hH (n0 9 E none (some x) none) λy=>
 iA 91 o B λz=>sA 9 z y u λaa=>lN 9 J λZ=>bA .add 3 t Z λac=>eX hH (n0 9 E (some ac) none none) λad=>bB .add 3 B (i 1) λae=>V ad ae aa)) (
 K2 E B r)) λV=>V M (i 0) p) (λU G af=>∀_:Env,
 iA 91 o G λag=>sA 9 ag U af λah=>bB .add 3 G (i 1) λY=>eX hH (n0 91 o none (some Y) none) λaj=>K aj ah))))
theorem aeL(G u B E:Value)(h:S335 w K G u B E):CR 335 [G,u,B,E] w K:=
 qj 66 (λ_=>.nil) 256 [.tmp 8] Tryz.func335 h
theorem aqu:PL 280:=dR Tryz.func280
theorem aqv:PL 308:=dR Tryz.func308
theorem aqw:PL 335:=dR Tryz.func335
theorem aqx:PL 339:=dR Tryz.func339
theorem ah5:PL 337:=dR Tryz.func337
theorem aqy:PL 344:=dR Tryz.func344
end Go.Proofs.YtpdlpabnlkofmaaGreatDoor
namespace Go.Proofs.YtpdlpabnlkofmaaGreatDoor
open Go.Fw
def C344(s:ByteArray)(c:UInt8)(w:World):CR 344 [.string s,.int .u8 (c.toNat:Int)] w (λv w'=>v=hZ (FP (iX s) c)/\Ext w w'):=by
 have u:=St.start w;refine fj Tryz.func344 ?_;exact Ng Tryz.func349 ⟨by kernel_rfl,by kernel_rfl,by kernel_rfl⟩ (by kernel_rfl) (aj1 s c) ⟨rfl,u.aG⟩
def Kd(c:UInt8):ByteArray:=⟨#[c]⟩
def C340(s:ByteArray)(c:UInt8)(w:World):CR 340 [.string s,.string (Kd c)] w (λv w'=>v=hZ (FP (iX s) c)/\Ext w w'):=by
 have u:=St.start w;refine fj Tryz.func340 ?_;refine fu iC ?_;refine⟨λB w'=>B=.bool (decide (Kd c=s))/\w'=w,?_,?_⟩
 .exact aH (aC (λh=>absurd (show(1:Int)=0 from h) ee) λ_=>jP ⟨rfl,rfl⟩)
 rintro _ _ ⟨rfl,rfl⟩ _;refine aC (λh=>?_) (λ_=>?_)
 .subst h;exact⟨g6 (nG .i64) (show(0:Int)=FP [c] c by unfold FP HA;rw[ew rfl];rfl),u.aG⟩
 exact aH (aC (λ_=>j8 (s:=Kd c) (e:=c) iC ee rfl (aW aqy u (C344 s c _) λ_ _ u=>⟨rfl,u.aG⟩)) λh=>absurd (show(1:Int)=1 from rfl) h)
def C337(s:ByteArray)(c:UInt8)(w:World):CR 337 [.string s,.string (Kd c)] w (λv w'=>v=hZ (FP (iX s) c)/\Ext w w'):=by
 have u:=St.start w;refine fj Tryz.func337 ?_;exact aW ⟨_,Tryz.func340,by kernel_rfl,by kernel_rfl⟩ u (C340 s c _) (λ_ _ u=>⟨rfl,u.aG⟩)
def kwT:ByteArray:=⟨#[108,105,110,101,32,118,111,108,32,108,111,99,107,32,116,104,114,101,97,100,32,114,101,103,32,108,111,97,100,32,115,116,111,114,101,32,99,97,115,32,102,108,117,115,104,32,111,112,116,32,115,102,101,110,99,101,32,109,102,101,110,99,101,32,116,97,107,101,32,103,105,118,101,32,105,102,32,101,108,115,101,32,108,111,111,112,32,98,114,101,97,107,32,99,104,101,99,107,32,114,101,99,111,118,101,114,32,97,108,119,97,121,115]⟩
def kwl:List UInt8:=iX kwT
def kwo(k:Nat):Nat:=(j3.take k).foldl (λn x=>n+x.size+1) 0
def Vs(k:Nat):ByteArray:=kwT.extract (kwo k) kwT.size
def AM(k:Nat):ByteArray:=j3.getD k ⟨#[]⟩
def aqz(k:Nat):Bool:=decide (HA (kwl.drop (kwo k)) 32=some (AM k).size)&&(decide ((kwl.drop (kwo k)).take (AM k).size=iX (AM k))&&(decide (kwo (k+1)=kwo k+((AM k).size+1))&&decide (kwo k+(AM k).size+1<=kwl.length)))
def aeM:(tU 20).all aqz=true:=by decide +kernel
theorem Nh(k:Nat):iX (Vs k)=kwl.drop (kwo k):=by
 unfold Vs kwl
 rw[Kc]
 exact kO (by rw[rH,fh];omega)
def aj3(k:Nat)(h:k<20):FP (iX (Vs k)) 32=(AM k).size/\(AM k).size+1<=(Vs k).size/\(Vs k).extract 0 (AM k).size=AM k/\(Vs k).extract ((AM k).size+1) (Vs k).size=Vs (k+1):=by
 have:=List.all_eq_true.1 aeM k (LY.2 h)
 unfold aqz at this
 simp only[n4,decide_eq_true_eq]at this
 obtain⟨h1,h2,h3,h4⟩:=this
 have u:(Vs k).size=kwl.length-kwo k:=by rw[<- fh,Nh,rH]
 refine⟨by rw[Nh];unfold FP;rw[h1],cO,Tm ?_,Tm ?_⟩
 .rw[Kc,Nh,R8,Nat.sub_zero];exact h2
 rw[Kc,Nh,Nh,tz,h3]
 exact kO dI
def kwB(k:Nat):(AM k).size<=100:=by
 by_cases h:k<21
 .exact(by decide +kernel:∀k,k<21->(AM k).size<=100) k h
 unfold AM;rw[n3,nt (show j3.length<=k from Nat.le_of_not_lt h)];decide
def aqA:∀k,k<21->∀s∈j3.take k,s≠AM k:=by decide +kernel
theorem Zb{k:Nat}(h:k<21):j3[k]?=some (AM k):=by simp_all[j3,AM]
theorem aj4{k:Nat}(h:k<21):(j3.take k++r6 (21-k) (⟨#[]⟩:ByteArray)).set k (AM k)=(j3.take (k+1)++r6 (21-(k+1)) (⟨#[]⟩:ByteArray)):=by
 have u:(j3.take k).length=k:=by rw[l1];exact Gf (aaC h)
 rw[List.set_append_right _ _ cO,u,Nat.sub_self,show 21-k=(21-(k+1))+1 from cO,List.replicate_succ,List.set_cons_zero,uH,Zb h,nK]
 rfl
theorem Ke{k:Nat}(h:k<21):(j3.take k++r6 (21-k) (⟨#[]⟩:ByteArray)).length=21:=by
 rw[lr,l1,List.length_replicate,Gf (show k<=j3.length from aaC h)];omega
def C339(w:World):CR 339 [.string kwT,.string (Kd 32)] w (λv w'=>v=hZ 20/\Ext w w'):=by
 have u:=St.start w;refine fj Tryz.func339 ?_;exact fu iC (aH (aC (λh=>absurd (show(1:Int)=0 from h) ee) λ_=>fu iC (aH (aC (λ_=>j8 (s:=Kd 32) (e:=32) iC ee rfl (Ng (e:=Extern.BytealgCount.count) (v:=hZ 20) Tryz.func343 ⟨by kernel_rfl,by kernel_rfl,by kernel_rfl⟩ (by kernel_rfl) (by kernel_rfl) ⟨rfl,u.aG⟩)) λh=>absurd (show(1:Int)=1 from rfl) h))))
def C335(w:World):CR 335 [.string kwT,.string (Kd 32),hZ 0,hZ (-1)] w (λv w'=>kq (bE v j3) w w'):=by
 have u:=St.start w;refine aeL _ _ _ _ _ _ ?_;unfold S335;refine aH (aC (λh=>absurd h ee) λ_=>jP (aC (λh=>absurd h ee) λ_=>?_));refine⟨λM w'=>M=hZ 21/\St w aX [] w',?_,?_⟩
 .exact aR (aC (λ_=>aW aqx u (C339 _) λ_ _ u=>aO ee ⟨rfl,u⟩) λh=>absurd ee h)
 rintro _ _ ⟨rfl,u⟩ _;refine fu iC (aO ee (rX ?_));rw[show min (21:Int) ((kwT.size:Int)+1)=21 from ee];refine xu (⟨#[]⟩:ByteArray) u iK ahw ee ee ee (λB _ u=>ft ee ?_);refine⟨λs y w'=>s=.string (Vs 20)/\y=hZ 20/\St w aX [bE B (j3.take 20++r6 (21-20) (⟨#[]⟩:ByteArray))] w',?_,?_⟩
 .refine⟨λG s y w'=>∃k:Nat,s=.string (Vs k)/\y=hZ (k:Int)/\G=20-k/\k<=20/\St w aX [bE B (j3.take k++r6 (21-k) (⟨#[]⟩:ByteArray))] w',⟨_,0,g6 GJ ee,rfl,rfl,l0 _,u⟩,?_⟩;rintro G _ _ _ ⟨k,rfl,rfl,rfl,W,u⟩ _;refine aR (aC (λO=>?_) λO=>?_);rotate_left
  .obtain rfl:k=20:=cO
   exact⟨rfl,rfl,u⟩
  obtain⟨J,V,U,I⟩:=aj3 k cO;refine aW ah5 u (C337 (Vs k) 32 _) (λ_ Y u=>?_);rw[J];refine aR (aC (λh=>absurd h cO) λ_=>aO (show -9223372036854775808<=((AM k).size:Int)+0/\((AM k).size:Int)+0<=9223372036854775807 by have:=kwB k;omega) (oH iC cO cO ?_));rw[show(((AM k).size:Int)+0).toNat=(AM k).size from cO,U];refine dT u iK cO (by rw[Ke cO];omega) (λq E=>jA (AM k) u gK E (by rw[Ke cO];omega) λ_ u=>?_);rw[pd,aj4 cO]at u;refine fu iC (aO (show -9223372036854775808<=((AM k).size:Int)+1/\((AM k).size:Int)+1<=9223372036854775807 by have:=kwB k;omega) (Qx iC (show(0:Int)<=((AM k).size:Int)+1 by omega) (show((AM k).size:Int)+1<=_ by omega) ?_))
  rw[show((AM k).size:Int)+(((Kd 32).size:Nat):Int)=((AM k).size:Int)+1 from rfl,show(((AM k).size:Int)+1).toNat=(AM k).size+1 from cO,I];exact aO cO ⟨_,cO,k+1,rfl,rfl,rfl,cO,u⟩
 rintro _ _ _ ⟨rfl,rfl,u⟩ _;exact dT u iK ee (by rw[Ke ee];decide) (λ_ E=>jA (Vs 20) u gK E (by rw[Ke ee];decide) λ_ u=>aO ee (sQ iK u ee ee λ_ u=>u.fresh))
def C308(w:World):CR 308 [.string kwT,.string (Kd 32)] w (λv w'=>kq (bE v j3) w w'):=by
 have u:=St.start w;refine fj Tryz.func308 ?_;exact dV aqw u (C335 _) (λ_ _ _ u=>u.fresh)
def C280(w:World):CR 280 [] w (λv w'=>∃b,v=.map (some b)/\Kb w' b j3/\Ext w w'):=by
 have u:=St.start w;refine fj Tryz.func280 ?_;refine Y7 u (λb _ u=>dV aqv u (C308 _) λI _ M u=>aK iK u.dW ?_);refine⟨λG y w'=>∃k:Nat,y=hZ (k:Int)/\G=21-k/\k<=21/\St w aX [Qw b (j3.take k),bE I j3] w',⟨_,0,rfl,rfl,l0 _,u.p1⟩,?_⟩;rintro G _ _ ⟨k,rfl,rfl,O,u⟩ _;refine aR (aC (λB=>?_) λB=>?_);rotate_left
 .obtain rfl:k=21:=by have h:¬ (k:Int)<21:=B;omega
  exact⟨b,rfl,u.Qw,u.aG⟩
 have E:k<21:=by have h:(k:Int)<21:=B;omega
 refine aQ iK u.p1.dW cO (Zb (show((k:Nat):Int).toNat<21 by omega)) (λq J=>aD gK J ?_);rw[pd];refine Y8 u Tryz.underlying329 iC (aqA k E) (λ_ u=>aO cO ?_);refine⟨_,cO,k+1,rfl,rfl,cO,?_⟩;rw[uH,Zb E];exact u
def FnU(w:World)(f:Value)(g:UInt8->Bool):Prop:=∃u first cap,f=.func (.func u) (P3 first) (P3 cap)/\Plain hH u/\
 ∀(c:UInt8) B,Ext w B->Calls hH u (first++[nG .u8 c.toNat]++cap).toArray B (tQ λv E=>v=.bool (g c)/\Ext B E)
def aeN{g:UInt8->Bool}{l:List UInt8}{k:Nat}(u:∀y∈l.take k,g y=true)(B:k<=l.length)(h:(match l[k]? with|some c=>g c|none=>false)=false):k=l.length↔l.all g=true:=by
 grind
def xV(s:ByteArray):Bool:=decide (s.size<1\/16<s.size)||(match (iX s)[0]? with|some c=>!gN c.toNat|none=>true)||j3.any (λy=>decide (y=s))
def Zc{s:ByteArray}(h:xV s=false):s.size<=1048576:=by
 unfold xV at h
 grind
def Zd{s:ByteArray}(h:xV s=true):gY s=false:=by
 show(!(xV s)&&_)=false
 rw[h];rfl
def Ze{s:ByteArray}{n:Nat}(h:xV s=false)(u:n=(iX s).length↔(iX s).all (λc=>gN c.toNat||kG c.toNat)=true):decide ((n:Int)=(s.size:Int))=gY s:=by
 show _=(!(xV s)&&!(iX s).any λc=>!gN c.toNat&&!kG c.toNat)
 rw[h,Bool.not_false,Av,<- fh]
 grind
theorem aj5{s:ByteArray}(h:s.size=0):s=kp #[]:=by
 cases s with
 | mk a=>cases a with
  | mk l=>cases l with
   | nil=>rfl
   | cons x r=>simp[acg]at h
def C234(c:Int)(w:World):CR 234 [.int .u8 c] w (λv w'=>v=.bool (gN c)/\Ext w w'):=by
 have B:=St.start w;refine fj Tryz.func234 ?_;refine⟨λu w'=>u=.bool (decide (97<=c/\c<=122\/c=95))/\w=w',Bl (aC (λ_=>Bj (aC (λ_=>⟨Ph cO,rfl⟩) λ_=>nZ ⟨zi cO,rfl⟩)) λ_=>nZ ⟨zi cO,rfl⟩),?_⟩;rintro _ _ ⟨rfl,E⟩ _;subst E;exact⟨rfl,B.aG⟩
def C238(c:Int)(w:World):CR 238 [.int .u8 c] w (λv w'=>v=.bool (kG c)/\Ext w w'):=by
 have B:=St.start w;refine fj Tryz.func238 ?_;refine⟨λu w'=>u=.bool (decide (48<=c/\c<=57))/\w=w',Bl (aC (λ_=>Bj ⟨zi cO,rfl⟩) λ_=>⟨XE cO,rfl⟩),?_⟩;rintro _ _ ⟨rfl,E⟩ _;subst E;exact⟨rfl,B.aG⟩
def C237(c:Int)(w:World):CR 237 [.int .u8 c] w (λv w'=>v=.bool (gN c||kG c)/\Ext w w'):=by
 have u:=St.start w;refine fj Tryz.func237 ?_;refine⟨λB w'=>B=.bool (gN c||kG c)/\St w aX [] w',aW ahU u (C234 _ _) (λ_ _ u=>bD (λ_=>⟨vb dI,u⟩) λ_=>aW aqf u (C238 _ _) λ_ _ u=>⟨vb dI,u⟩),?_⟩;rintro _ _ ⟨rfl,u⟩ _;exact⟨rfl,u.aG⟩
def C236(s:ByteArray)(fv:Value)(g:UInt8->Bool)(w:World)(Y:FnU w fv g)(hn:s.size<=1048576):CR 236 [.string s,fv] w (λv w'=>∃n:Nat,v=hZ (n:Int)/\(n=(iX s).length↔(iX s).all g=true)/\Ext w w'):=by
 obtain⟨g0,first,cap,rfl,U,O⟩:=Y;have u:=St.start w;refine aeE _ _ _ _ ?_;unfold S236;refine⟨λm x J=>∃k:Nat,x=hZ (k:Int)/\m=(iX s).length-k/\k<=(iX s).length/\(∀y∈(iX s).take k,g y=true)/\St w aX [] J,⟨_,0,rfl,rfl,l0 _,ei,u⟩,?_⟩;rintro m _ J ⟨k,rfl,rfl,W,I,u⟩ _;have Im:=fh s;refine⟨λV w'=>V=.bool (match (iX s)[k]? with|some c=>g c|none=>false)/\St w aX [] w',fu iC (aR (aC (λjQ=>?_) λ_=>⟨vb dI,u⟩)),?_⟩
 .obtain⟨M,B⟩:∃G,(iX s)[(k:Int).toNat]?=some G:=⟨_,la (by rw[fh];omega)⟩;refine j8 iC cO B (ij U (O M _ u.aG) ?_);rintro _ _ ⟨rfl,Z⟩;have u:=u.ext Z;exact⟨vb dI,u⟩
 rintro _ _ ⟨rfl,u⟩ _;refine bD (λE=>?_) (λE=>⟨k,rfl,aeN I W (by simpa using E),u.aG⟩);obtain⟨M,B⟩:∃G,(iX s)[k]?=some G:=by cases h:(iX s)[k]? with|none=>rw[h]at E;cases E|some x=>exact⟨x,rfl⟩
 have Ss:=(kB.1 B).1;exact aO cO ⟨_,cO,k+1,rfl,rfl,cO,eh I B dI,u⟩
def C235(s:ByteArray)(w:World):CR 235 [.string s] w (λv w'=>v=.bool (j3.any λy=>decide (y=s))/\Ext w w'):=by
 have u:=St.start w;refine fj Tryz.func235 ?_;refine dO aqu (C280 _) ?_;rintro _ _ ⟨G,rfl,B,E⟩;have u:=u.ext E;exact Nf B Tryz.underlying329 Tryz.underlying9 XX ⟨rfl,u.aG⟩
def C180(s:ByteArray)(w:World):CR 180 [.string s] w (λv w'=>v=.bool (gY s)/\Ext w w'):=by
 have u:=St.start w;refine fj Tryz.func180 ?_;refine⟨λV w'=>V=.bool (xV s)/\St w aX [] w',jP (aC (λG=>?_) λG=>?_),?_⟩
 .have U:s.size=0:=by rw[G];rfl
  exact⟨vb (by unfold xV;grind),u⟩
 .have U:s.size≠0:=λh=>G (aj5 h);refine fu iC (cQ (aC (λ_=>⟨vb (by unfold xV;grind),u⟩) λgR=>?_));obtain⟨Y,I⟩:∃M,(iX s)[(0:Int).toNat]?=some M:=⟨_,la (by rw[fh];omega)⟩;refine j8 iC cO I ?_;have J:(iX s)[0]?=some Y:=I;have O:¬ (s.size<1\/16<s.size):=cO
  exact aW ahU u (C234 _ _) (λ_ _ u=>bT (bD (λ_=>⟨vb (by unfold xV;grind),u⟩) λ_=>aW aqi u (C235 _ _) λ_ _ u=>⟨vb (by unfold xV;grind),u⟩))
 rintro _ _ ⟨rfl,u⟩ _;refine bD (λB=>⟨vb (Zd B).symm,u.aG⟩) (λB=>dO aqg (C236 s _ (λc=>gN c.toNat||kG c.toNat) _ ⟨237,[],[],rfl,aqh,λ_ W _=>C237 _ W⟩ (Zc (by simpa using B))) ?_);rintro _ _ ⟨nr,rfl,E,Z⟩;have u:=u.ext Z;exact fu iC (aH ⟨vb (Ze (by simpa using B) E),u.aG⟩)
def Vt(xs:List cC)(i:Int)(n:Nat):Int:=if n=0 then i else if i<0 then -1 else D3 xs.length (skip n (xs.drop i.toNat))
def aeO(xs:List cC)(i:Int):Vt xs i 1=qW xs i:=by unfold Vt qW;omega
theorem Zg(xs:List cC)(i:Int):Vt xs i 0=i:=rfl
theorem aeP{xs:List cC}{i:Int}{n:Nat}(u:0<n)(h:i<0\/(xs.length:Int)<=i):Vt xs i n = -1:=by
 unfold Vt
 rw[ej cO]
 split
 .rfl
 rw[v9 cO]
 cases n with
 | zero=>omega
 | succ n=>rfl
theorem aeQ{xs:List cC}{i:Int}{n:Nat}{x:cC}(J:0<n)(G:0<=i)(u:xs[i.toNat]?=some x)(I:kids x.op<0):Vt xs i n = -1:=by
 unfold Vt
 obtain⟨B,E⟩:=kB.1 u
 rw[ej cO,ej cO,sk B,E]
 cases n with
 | zero=>omega
 | succ n=>
  grind[D3,skip]
theorem Zh{xs:List cC}{i:Int}{n m:Nat}{x:cC}(M:0<n)(G:0<=i)(u:xs[i.toNat]?=some x)(J:0<=kids x.op)(I:(m:Int)=n+kids x.op-1):Vt xs i n=Vt xs (i+1) m:=by
 obtain⟨B,E⟩:=kB.1 u
 have h1:Vt xs i n=D3 xs.length (skip m (xs.drop (i+1).toNat)):=by
  unfold Vt
  rw[ej cO,ej cO,sk B,E,show(i+1).toNat=i.toNat+1 from cO]
  cases n with
  | zero=>omega
  | succ n=>
   grind[D3,skip]
 rw[h1]
 grind[D3,skip,Vt]
def Zi(i:Int)(ks:List Ex)(k:Nat):List Int:=(tU k).map λj=>i+1+(qY ks j:Int)
theorem Zj(i:Int)(ks:List Ex)(k:Nat):Zi i ks (k+1)=Zi i ks k++[i+1+(qY ks k:Int)]:=by
 unfold Zi;rw[List.range_succ,wk];rfl
theorem Tn(i:Int)(ks:List Ex)(k:Nat):(Zi i ks k).length=k:=by simp[Zi]
def aeR{i:Int}{ks:List Ex}{n k:Nat}{e:Int}(h:(Zi i ks n)[k]?=some e):e=i+1+(qY ks k:Int)/\k<n:=by
 unfold Zi at h
 grind
def C286(k:Int)(w:World):CR 286 [hZ k] w (λv w'=>v=hZ (kids k)/\Ext w w'):=by
 have E:=St.start w;refine fj Tryz.func286 ?_;refine⟨λu w'=>u=.bool (decide (k=1\/k=2))/\w=w',aH (aC (λ_=>⟨Ph cO,rfl⟩) λ_=>aH ⟨zi cO,rfl⟩),?_⟩;rintro _ _ ⟨rfl,B⟩ _;subst B;refine aC (λJ=>?_) (λJ=>⟨λu w'=>u=.bool (decide (k=3\/k=4))/\w=w',aH (aC (λ_=>⟨Ph cO,rfl⟩) λ_=>aH ⟨zi cO,rfl⟩),?_⟩)
 .unfold kids;exact⟨g6 (nG .i64) dI,E.aG⟩
 rintro _ _ ⟨rfl,B⟩ _;subst B;refine aC (λG=>?_) (λG=>⟨λu w'=>u=.bool (decide (5<=k/\k<=15))/\w=w',cT (aC (λ_=>gz ⟨zi cO,rfl⟩) λ_=>⟨XE cO,rfl⟩),?_⟩)
 .unfold kids;exact⟨g6 (nG .i64) dI,E.aG⟩
 rintro _ _ ⟨rfl,B⟩ _;subst B;refine aC (λI=>?_) (λI=>?_)
 .unfold kids;exact⟨g6 (nG .i64) dI,E.aG⟩
 unfold kids;exact⟨g6 (nG .i64) dI,E.aG⟩
def C243(x:cC)(w:World):CR 243 [ir x] w (λv w'=>v=.bool (!lE x)/\Ext w w'):=by
 have u:=St.start w;refine fj Tryz.func243 ?_;refine cM u (λE _ u=>⟨λB w'=>B=.bool (decide (x.at_<0\/4000<x.at_))/\St w aX [bW E (j0 x)] w',aA sL (aB (v:=hZ x.at_) bL u.hb rfl (aR (aC (λ_=>⟨vb dI,u⟩) λ_=>aA sL (aB (v:=hZ x.at_) bL u.hb rfl (cQ ⟨vb dI,u⟩))))),?_⟩);rintro _ _ ⟨rfl,u⟩ _;refine bD (λJ=>?_) (λJ=>?_)
 .refine⟨vb ?_,u.drop.aG⟩;unfold lE
  grind
 refine aA fm (aB (v:=hZ x.op) bL u.hb rfl (aH (aC (λI=>⟨λB w'=>B=.bool (decide (0<=x.n/\x.n<=4294967296/\x.name=⟨#[]⟩))/\St w aX [bW E (j0 x)] w',aA ju (aB (v:=hZ x.n) bL u.hb rfl (cT (aC (λ_=>aA ju (aB (v:=hZ x.n) bL u.hb rfl (gz (aC (λ_=>aA gC (aB (v:=.string x.name) gK u.hb rfl (jP ⟨vb dI,u⟩))) λ_=>⟨vb dI,u⟩)))) λ_=>⟨vb dI,u⟩))),?_⟩) λI=>?_)))
 .rintro _ _ ⟨rfl,u⟩ _;refine⟨vb ?_,u.drop.aG⟩;unfold lE
  grind
 refine aA fm (aB (v:=hZ x.op) bL u.hb rfl (aH (aC (λG=>⟨λB w'=>B=.bool (decide (x.n=0)&&gY x.name)/\St w aX [bW E (j0 x)] w',aA ju (aB (v:=hZ x.n) bL u.hb rfl (aH (aC (λ_=>aA gC (aB (v:=.string x.name) gK u.hb rfl (aW MW u (C180 _ _) λ_ _ u=>⟨vb dI,u⟩))) λ_=>⟨vb dI,u⟩))),?_⟩) λG=>?_)))
 .rintro _ _ ⟨rfl,u⟩ _;refine⟨vb ?_,u.drop.aG⟩;unfold lE
  grind
 refine⟨λB w'=>B=.bool (decide (x.n=0/\x.name=⟨#[]⟩))/\St w aX [bW E (j0 x)] w',aA ju (aB (v:=hZ x.n) bL u.hb rfl (aH (aC (λ_=>aA gC (aB (v:=.string x.name) gK u.hb rfl (jP ⟨vb dI,u⟩))) λ_=>⟨vb dI,u⟩))),?_⟩;rintro _ _ ⟨rfl,u⟩ _;refine⟨vb ?_,u.drop.aG⟩;unfold lE
 grind
def C242(x:cC)(w:World):CR 242 [ir x] w (λv w'=>v=.bool (lE x)/\Ext w w'):=by
 have u:=St.start w;refine fj Tryz.func242 ?_;exact cM u (λ_ _ u=>aD sK u.At (aW aqj u (C243 _ _) λ_ _ u=>bT ⟨vb ei,u.drop.aG⟩))
def C285(sv fv:Value)(xs:List cC)(g:cC->Bool)(w:World)(J:dD (λ_=>True) w sv xs)(W:wY w fv g)(hn:xs.length<=1073741824):CR 285 [sv,fv] w (λv w'=>v=hZ (sT g xs)/\Ext w w'):=by
 obtain⟨Z,first,cap,rfl,U,M⟩:=W;have u:=St.start w;refine fj Tryz.func285 ?_;refine aK il (J.ext u.aG) ?_;refine⟨λm x I=>∃k:Nat,x=hZ (k:Int)/\m=xs.length-k/\k<=xs.length/\(∀y∈xs.take k,g y=false)/\St w aX [] I,⟨_,0,rfl,rfl,l0 _,ei,u⟩,?_⟩;rintro m _ I ⟨k,rfl,rfl,hk,B,u⟩ _;refine aR (aC (λjQ=>?_) λ_=>⟨g6 (nG .i64) (jm (by rw[kO cO]at B;exact B)).symm,u.aG⟩);obtain⟨V,E⟩:=gx xs (i:=(k:Int).toNat) cO;refine aQ il J cO E (λ_ O=>aD sK (O.ext u.aG) (ij U (M V I u.aG) ?_))
 rintro _ _ ⟨rfl,Y⟩;have u:=u.ext Y;exact bD (λG=>⟨g6 (nG .i64) (my B E G).symm,u.aG⟩) (λG=>aO cO ⟨xs.length-(k+1),cO,k+1,rfl,rfl,cO,eh B E G,u⟩)
def C244(sv fv:Value)(xs:List cC)(g:cC->Bool)(w:World)(B:dD (λ_=>True) w sv xs)(E:wY w fv g)(G:xs.length<=1073741824):CR 244 [sv,fv] w (λv w'=>v=.bool (xs.any g)/\Ext w w'):=by
 have u:=St.start w;refine fj Tryz.func244 ?_;exact aW aqq u (C285 _ _ _ _ _ (B.ext u.aG) (E.ext u.aG) cO) (λ_ _ u=>cT ⟨vb (lh _ _),u.aG⟩)
def C245(lv:Value)(xs:List cC)(i:Int)(w:World)(I:dD (λ_=>True) w lv xs)(hn:xs.length<=1048576):CR 245 [lv,hZ i] w (λv w'=>v=hZ (qW xs i)/\Ext w w'):=by
 have u:=St.start w;refine fj Tryz.func245 ?_;refine⟨λm x y M=>∃(a:Int) (n:Nat),x=hZ a/\y=hZ (n:Int)/\m=xs.length-a.toNat/\n<=1+a.toNat/\Vt xs a n=qW xs i/\St w aX [] M,⟨_,i,1,rfl,rfl,rfl,cO,aeO _ _,u⟩,?_⟩;rintro m _ _ M ⟨a,n,rfl,rfl,rfl,V,G,u⟩ _;refine cQ (aC (λZ=>⟨λjv w'=>jv=.bool (decide (a<0\/(xs.length:Int)<=a)||(match xs[a.toNat]? with|some x=>decide (kids x.op = -1)|none=>true))/\St w aX [] w',aR (aC (λ_=>⟨vb dI,u⟩) λjJ=>aK il (I.ext u.aG) (cT (aC (λ_=>⟨vb dI,u⟩) λeE=>?_))),?_⟩) λZ=>?_)
 .obtain⟨B,E⟩:=gx xs (i:=a.toNat) cO;have YI:=uF B.op;exact aQ il I cO E (λ_ W=>bX B.op fm W rfl rfl λ_ BB=>aD bL (BB.ext u.aG) (aW YV u (C286 _ _) λ_ _ u=>aH ⟨vb dI,u⟩))
 .rintro _ _ ⟨rfl,u⟩ _;refine bD (λJ=>?_) (λJ=>?_)
  .refine⟨g6 (nG .i64) ?_,u.aG⟩;rw[<- G]
   by_cases hq:a<0\/(xs.length:Int)<=a
   .exact(aeP cO hq).symm
   have O:a.toNat<xs.length:=cO
   rw[la O]at J;exact(aeQ cO cO (la O) dI).symm
  have h23:¬ (a<0\/(xs.length:Int)<=a):=dI
  obtain⟨B,E⟩:=gx xs (i:=a.toNat) cO;have YI:=uF B.op;have Qn:0<=kids B.op:=dI
  exact aQ il I cO E (λ_ mO=>bX B.op fm mO rfl rfl λ_ U=>aD bL (U.ext u.aG) (aW YV u (C286 _ _) λ_ _ u=>aO cO (aO cO (ft cO ⟨_,cO,a+1,((n:Int)+kids B.op-1).toNat,rfl,g6 (nG .i64) cO,rfl,cO,by rw[<- G];exact(Zh cO cO E Qn cO).symm,u⟩))))
 have Y:n=0:=cO
 rw[Y,Zg]at G;exact⟨g6 (nG .i64) G,u.aG⟩
theorem Dy{l:List cC}:fK l=(decide (l.length<=40)&&decide (qW l 0=l.length)&&!l.any lE&&decide (Tf l<=12)):=by
 unfold fK;rw[Fy]
def C287(lv:Value)(xs:List cC)(i:Int)(t:Ex)(w:World)(G:dD (λ_=>True) w lv xs)(hn:xs.length<=1048576)(B:Cr xs i t):CR 287 [lv,hZ i] w (λv w'=>kq (bE v (Zi i t.eJ t.eJ.length)) w w'):=by
 obtain⟨I,hq,U⟩:∃e,e=t.root/\xs[(i).toNat]?=some e:=⟨_,rfl,B.root.1⟩;have Y:=B.root.2;have hie:=B.end;have Z:=Ex.pI B.2.1;rw[<- hq]at Z;have YI:=uF I.op;have O:=B.1;have u:=St.start w;refine fj Tryz.func287 ?_;refine aO cO (aQ il G cO U λ_ FB=>bX I.op fm FB rfl rfl λ_ Zk=>aD bL (Zk.ext u.aG) (aW YV u (C286 _ _) λM he u=>?_));refine⟨λm J a x M=>∃k:Nat,a=hZ (i+1+qY t.eJ k)/\x=hZ (k:Int)/\m=t.eJ.length-k/\k<=t.eJ.length/\St w aX [bE J (Zi i t.eJ k)] M,⟨_,0,g6 (nG .i64) (by simp[qY]),rfl,rfl,cO,u.eK (α:=Int)⟩,?_⟩
 rintro m J _ _ _ ⟨k,rfl,rfl,rfl,hk,u⟩ _;refine aR (aC (λeE=>?_) λeE=>?_)
 .obtain⟨a,E⟩:=gx t.eJ (i:=k) cO;have hka:=Ex.uG B.2.1 (kE E);have V:=B.kid E;have W7:=V.end;have Vk:=a.rZ;refine aV ([(i+1+qY t.eJ k:Int)]) u cS rfl rfl (dQ rfl) (λZl _ u=>?_);have W:=u.dW;exact bI u.p1 cS W (by rw[Tn];exact aaC (by simp;omega)) ee (λ_ _ u=>have u:=u.p1.drop;aW YW u (C245 _ _ _ _ (G.ext u.aG) cO) λ_ _ u=>aO cO ⟨_,cO,k+1,g6 (nG .i64) (by rw[W7.1,vh E];omega),rfl,rfl,cO,by rw[Zj];exact u⟩)
 rw[show t.eJ.length=k from cO];exact u.fresh
theorem C246(lv:Value)(xs:List cC)(i:Int)(t:Ex)(N:Nat)(w:World)(J:dD (λ_=>True) w lv xs)(hn:xs.length<=1048576)(B:Cr xs i t)(hN:t.size<N):CR 246 [lv,hZ i] w (λv w'=>v=hZ t.depth/\Ext w w'):=by
 obtain⟨V,hq,sV⟩:∃e,e=t.root/\xs[(i).toNat]?=some e:=⟨_,rfl,B.root.1⟩;have W:=B.root.2;have Z:=B.end;have Y:=Ex.pI B.2.1;rw[<- hq]at Y;have YI:=uF V.op;have U:=B.1;have u:=St.start w;refine aeF _ _ _ _ ?_;unfold S246;refine dV aql u (C287 _ _ _ t _ (J.ext u.aG) cO B) (λG O cI u=>?_);have Kh:=Tn i t.eJ t.eJ.length;refine aK cS u.dW ?_;refine⟨λm n x O=>∃k:Nat,n=hZ (D4 t.eJ k)/\x=hZ (k:Int)/\m=t.eJ.length-k/\k<=t.eJ.length/\St w aX [bE G (Zi i t.eJ t.eJ.length)] O,⟨_,0,rfl,rfl,rfl,cO,u⟩,?_⟩;rintro m _ _ _ ⟨k,rfl,rfl,rfl,hk,u⟩ _
 have hdk:=Qo (ks:=t.eJ) (N:=(t.size:Int)) cO (λa ha=>by have:=(Ex.uG B.2.1 ha).2;have:=a.rZ;omega) k;refine aR (aC (λxL=>?_) λ_=>aO cO ⟨g6 (nG .i64) (by rw[t.MM,show k=t.eJ.length from cO]),u.aG⟩);obtain⟨iH,M⟩:=gx (Zi i t.eJ t.eJ.length) (i:=(k:Int).toNat) cO;refine dT u cS cO cO (λ_ ix=>gq u bL ix M ?_);obtain⟨rfl,Ag⟩:=aeR M;obtain⟨a,E⟩:=gx t.eJ (i:=k) cO;have hka:=Ex.uG B.2.1 (kE E);have I:=B.kid E;have W7:=I.end;have Vk:=a.rZ
 exact aW ahV u (C246 _ _ _ _ (N-1) _ (J.ext u.aG) hn I cO) (λ_ _ u=>En (aO cO ⟨_,cO,k+1,by rw[CI E],rfl,rfl,cO,u⟩))
termination_by N
decreasing_by all_goals omega
def C185(lv:Value)(xs:List cC)(w:World)(B:dD (λ_=>True) w lv xs)(V:xs.length<=1048576):CR 185 [lv] w (λv w'=>v=.bool (fK xs)/\Ext w w'):=by
 have u:=St.start w;refine fj Tryz.func185 ?_;refine⟨λO w'=>O=.bool (decide (xs.length=0\/40<xs.length)||xs.any lE||decide (¬ qW xs 0=xs.length))/\St w aX [] w',aK il (B.ext u.aG) (aH (aC (λ_=>⟨vb dI,u⟩) λY=>aK il (B.ext u.aG) (cQ (aC (λ_=>⟨vb dI,u⟩) λW=>?_)))),?_⟩
 .have E:wY w (.func (.func 242) [].toArray [].toArray) lE:=
   ⟨242,[],[],rfl,aqk,λy U _=>C242 y U⟩
  exact aW aqp u (C244 _ _ _ _ _ (B.ext u.aG) E cO) (λ_ _ u=>bD (λ_=>⟨vb dI,u⟩) λ_=>aW YW u (C245 _ _ _ _ (B.ext u.aG) cO) λ_ _ u=>aK il (B.ext u.aG) (bQ ⟨vb dI,u⟩))
 rintro _ _ ⟨rfl,u⟩ _;refine bD (λG=>?_) (λG=>?_)
 .refine⟨vb ?_,u.aG⟩;rw[Dy]
  by_cases J:xs.length=0
  .obtain rfl:=s4.1 J;rfl
  grind
 have M:qW xs 0=xs.length:=dI
 obtain⟨t,ht⟩:=Cr.of (xs:=xs) (i:=0) cO;have I:=ht.zero M;refine aW ahV u (C246 _ _ _ t (t.size+1) _ (B.ext u.aG) V ht cO) (λ_ Z u=>gz ?_);refine⟨vb ?_,u.aG⟩;rw[Dy];unfold Tf;rw[I.2]
 grind
def oA(o:List ByteArray)(x:cC):List ByteArray:=if x.op=2/\o.any (λy=>decide (y=x.name))=false then o++[x.name]else o
theorem Zm{o:List ByteArray}{x:cC}(h:x.op=2/\o.any (λy=>decide (y=x.name))=false):oA o x=o++[x.name]:=ew h
theorem Zn{o:List ByteArray}{x:cC}(h:¬ (x.op=2/\o.any (λy=>decide (y=x.name))=false)):oA o x=o:=ej h
def oB(xs:List cC):List ByteArray:=xs.foldl oA []
theorem Ni{xs:List cC}{k:Nat}{x:cC}(h:xs[k]?=some x):oB (xs.take (k+1))=oA (oB (xs.take k)) x:=by
 unfold oB;rw[<- gX h,List.foldl_append];rfl
theorem Dz(xs:List cC):(oB xs).length<=xs.length:=by
 have:∀(l:List cC) (o:List ByteArray),(l.foldl oA o).length<=o.length+l.length:=by
  intro l
  induction l with
  | nil=>grind
  | cons x l u=>
   grind[oA]
 simpa[oB]using this xs []
theorem Qz(g:ByteArray->Bool)(xs:List cC):(oB xs).any g=xs.any λx=>decide (x.op=2)&&g x.name:=by
 have:∀(l:List cC) (o:List ByteArray),(l.foldl oA o).any g=(o.any g||l.any λx=>decide (x.op=2)&&g x.name):=by
  intro l
  induction l with
  | nil=>grind
  | cons x l u=>
   intro o
   show(l.foldl oA (oA o x)).any g=_
   rw[u]
   have h2:(oA o x).any g=(o.any g||(decide (x.op=2)&&g x.name)):=by
    unfold oA
    grind
   grind
 exact(this xs []).trans ei
theorem CN(ns:List ByteArray)(s:ByteArray):decide (0<=dA ns s)=ns.any λy=>decide (y=s):=lh _ _
theorem Vu(ns:List ByteArray)(s:ByteArray):decide (dA ns s<0) = !ns.any λy=>decide (y=s):=by
 rw[<- CN]
 grind
def QA{k:Int}(h:0<=kids k):eM k=kids k:=by unfold eM kids at *;grind
def aeS{ns:List ByteArray}{xs:List cC}(h:fK xs=false):lq ns xs=8:=by unfold lq;grind
def aeT{ns:List ByteArray}{xs:List cC}(h:fK xs=true):lq ns xs=if (oB xs).any (λs=>!ns.any λy=>decide (y=s))=true then 9 else 0:=by
 unfold lq
 rw[ej (by simp[h]),Qz]
 simp only[Vu]
theorem Nj{ns:List ByteArray}{xs:List cC}(h:¬ lq ns xs=0):qZ ns xs=[]:=by unfold qZ;grind
def qw(ns:List ByteArray)(nums:List Int)(xs:List cC):Int×Int:=if ns.length=nums.length then(if lq ns xs=0 then runM (qZ ns xs) nums else(0,lq ns xs))else(0,1)
def C225(sv:Value)(ns:List ByteArray)(s:ByteArray)(w:World)(I:dD (λ_=>True) w sv ns)(W:ns.length<=1048576):CR 225 [sv,.string s] w (λv w'=>v=hZ (dA ns s)/\Ext w w'):=by
 have u:=St.start w;refine fj Tryz.func225 ?_;refine aK iK (I.ext u.aG) ?_;refine⟨λm x J=>∃k:Nat,x=hZ (k:Int)/\m=ns.length-k/\k<=ns.length/\(∀y∈ns.take k,decide (y=s)=false)/\St w aX [] J,⟨_,0,rfl,rfl,l0 _,ei,u⟩,?_⟩;rintro m _ J ⟨k,rfl,rfl,U,B,u⟩ _;refine aR (aC (λO=>?_) λ_=>⟨g6 (nG .i64) (jm (by rw[kO cO]at B;exact B)).symm,u.aG⟩);obtain⟨V,E⟩:=gx ns (i:=(k:Int).toNat) cO;exact aQ iK I cO E (λ_ M=>aD gK (M.ext u.aG) (jP (aC (λG=>⟨g6 (nG .i64) (my B E (ez G.symm)).symm,u.aG⟩) λG=>aO cO ⟨_,cO,k+1,rfl,rfl,cO,eh B E (fV λh=>G h.symm),u⟩)))
def C263(sv:Value)(ns:List ByteArray)(s:ByteArray)(w:World)(B:dD (λ_=>True) w sv ns)(E:ns.length<=1048576):CR 263 [sv,.string s] w (λv w'=>v=.bool (ns.any λy=>decide (y=s))/\Ext w w'):=by
 have u:=St.start w;refine fj Tryz.func263 ?_;exact aW YX u (C225 _ _ _ _ (B.ext u.aG) cO) (λ_ _ u=>cT ⟨vb (CN _ _),u.aG⟩)
def C281(sv fv:Value)(xs:List ByteArray)(g:ByteArray->Bool)(w:World)(J:dD (λ_=>True) w sv xs)(W:wY w fv g)(hn:xs.length<=1073741824):CR 281 [sv,fv] w (λv w'=>v=hZ (sT g xs)/\Ext w w'):=by
 obtain⟨Z,first,cap,rfl,U,M⟩:=W;have u:=St.start w;refine fj Tryz.func281 ?_;refine aK iK (J.ext u.aG) ?_;refine⟨λm x I=>∃k:Nat,x=hZ (k:Int)/\m=xs.length-k/\k<=xs.length/\(∀y∈xs.take k,g y=false)/\St w aX [] I,⟨_,0,rfl,rfl,l0 _,ei,u⟩,?_⟩;rintro m _ I ⟨k,rfl,rfl,hk,B,u⟩ _;refine aR (aC (λjQ=>?_) λ_=>⟨g6 (nG .i64) (jm (by rw[kO cO]at B;exact B)).symm,u.aG⟩);obtain⟨V,E⟩:=gx xs (i:=(k:Int).toNat) cO;refine aQ iK J cO E (λ_ O=>aD gK (O.ext u.aG) (ij U (M V I u.aG) ?_))
 rintro _ _ ⟨rfl,Y⟩;have u:=u.ext Y;exact bD (λG=>⟨g6 (nG .i64) (my B E G).symm,u.aG⟩) (λG=>aO cO ⟨xs.length-(k+1),cO,k+1,rfl,rfl,cO,eh B E G,u⟩)
def C240(sv fv:Value)(xs:List ByteArray)(g:ByteArray->Bool)(w:World)(B:dD (λ_=>True) w sv xs)(E:wY w fv g)(G:xs.length<=1073741824):CR 240 [sv,fv] w (λv w'=>v=.bool (xs.any g)/\Ext w w'):=by
 have u:=St.start w;refine fj Tryz.func240 ?_;exact aW aqr u (C281 _ _ _ _ _ (B.ext u.aG) (E.ext u.aG) cO) (λ_ _ u=>cT ⟨vb (lh _ _),u.aG⟩)
def C264(lv:Value)(xs:List cC)(w:World)(G:dD (λ_=>True) w lv xs)(hn:xs.length<=1048576)(hr:fK xs=true):CR 264 [lv] w (λv w'=>kq (bE v (oB xs)) w w'):=by
 have u:=St.start w;refine fj Tryz.func264 ?_;refine aW Tj u (C185 _ _ _ (G.ext u.aG) cO) (λW he u=>bT (bD (λE=>?_) λE=>?_))
 .rw[hr]at E;cases E
 refine aK il (G.ext u.aG) ?_;refine⟨λm J x W=>∃k:Nat,x=hZ (k:Int)/\m=xs.length-k/\k<=xs.length/\St w aX [bE J (oB (xs.take k))] W,⟨_,0,rfl,rfl,cO,u.eK (α:=ByteArray)⟩,?_⟩;rintro m J _ _ ⟨k,rfl,rfl,hk,u⟩ _;refine aR (aC (λlG=>?_) λlG=>?_)
 .obtain⟨B,V⟩:=gx xs (i:=(k:Int).toNat) cO;refine⟨λM w'=>St w aX [bE M (oA (oB (xs.take k)) B)] w',?_,?_⟩
  .have Y:=Dz (xs.take k);rw[l1]at Y;refine aQ il G cO V (λ_ Fs=>aD sK (Fs.ext u.aG) (aN u yL λZ _ u=>aJ (x:=B) u sK rfl rfl λ_ u=>⟨λM w'=>M=.bool (decide (B.op=2)&&!(oB (xs.take k)).any λy=>decide (y=B.name))/\St w aX [bW Z (j0 B),bE J (oB (xs.take k))] w',aA fm (aB (v:=hZ B.op) bL u.hb rfl (aH (aC (λ_=>aA gC (aB (v:=.string B.name) gK u.hb rfl (aW ahZ u (C263 _ _ _ _ u.p1.dW cO) λ_ _ u=>bT ⟨vb dI,u⟩))) λ_=>⟨vb dI,u⟩))),?_⟩))
   rintro _ _ ⟨rfl,u⟩ _;refine bD (λO=>?_) (λO=>?_)
   .refine aA gC (aB (v:=.string B.name) gK u.hb rfl (aV ([B.name]) u iK rfl rfl (dQ rfl) λI _ u=>?_));have Qr:=u.dW;refine bI u.p2 iK Qr (by simp<;>omega) ee (λU _ u=>?_);have u:=u.p1.drop;rw[Zm (by simpa using O)];exact u.p1.drop
   rw[Zn (by simpa using O)];exact u.drop
  rintro FR _ u _;exact aO cO ⟨_,cO,k+1,rfl,rfl,cO,by rw[Ni (k:=k) V];exact u⟩
 rw[kO cO]at u;exact u.fresh
def Kj{α:Type}[Flat α]{S:Nat->Prop}{w:World}{v:Value}{xs:List α}(h:dD S w v xs):xo v=true:=by obtain⟨a,c,rfl,_⟩:=h;rfl
theorem Vv(ns:List ByteArray)(xs:List cC):(qZ ns xs).length<=xs.length:=by
 unfold qZ
 split
 .unfold CJ
  cases h:Ah xs with
  | none=>grind
  | some t=>
   rw[Ex.qp,<- Ex.dC,<- (vX h).2];omega
 grind
theorem C265(lv nv:Value)(xs:List cC)(ns:List ByteArray)(i:Int)(t:Ex)(N:Nat)(w:World)(G:dD (λ_=>True) w lv xs)(Z:dD (λ_=>True) w nv ns)(hn:xs.length<=1048576)(Cp:ns.length<=1048576)(E:Cr xs i t)(hNt:t.size<N):CR 265 [lv,hZ i,nv] w (λv w'=>kq (bE v (t.steps ns)) w w'):=by
 obtain⟨B,hq,I⟩:∃e,e=t.root/\xs[(i).toNat]?=some e:=⟨_,rfl,E.root.1⟩;have hri:=E.root.2;have hie:=E.end;have Qn:=Ex.pI E.2.1;rw[<- hq]at Qn;have YI:=uF B.op;have hi0:=E.1;have hwk:=QA (k:=B.op) cO;have u:=St.start w;refine pj Tryz.func265 (pl:=axQ) ?_;refine aO cO (aQ il G cO I λ_ ix=>bX B.op fm ix rfl rfl λ_ vg=>aD bL (vg.ext u.aG) (aW XO u (C267 _ _) λw1 he u=>?_));refine⟨λm U a x w1=>∃k:Nat,a=hZ (i+1+qY t.eJ k)/\x=hZ (k:Int)/\m=t.eJ.length-k/\k<=t.eJ.length/\St w aX [bE U (YJ ns t.eJ k)] w1,⟨_,0,g6 (nG .i64) (by simp[qY]),rfl,rfl,cO,u.eK (α:=oZ)⟩,?_⟩
 rintro m U _ _ _ ⟨k,rfl,rfl,rfl,hk,u⟩ _;refine aR (aC (λfE=>?_) λfE=>?_)
 .obtain⟨a,J⟩:=gx t.eJ (i:=k) cO;have hka:=Ex.uG E.2.1 (kE J);have V:=E.kid J;have W7:=V.end;have Vk:=a.rZ;have W:=Er (ns:=ns) (ks:=t.eJ) (k:=k);have Vl:=Ex.qp ns a;refine dV ahW u (C265 _ _ _ _ _ _ (N-1) _ (G.ext u.aG) (Z.ext u.aG) hn Cp V cO) (λx24 _ cI u=>?_);have QB:=u.dW;exact bI u.p1 ue QB cO ee (λ_ _ u=>have u:=u.p1.drop;aW YW u (C245 _ _ _ _ (G.ext u.aG) cO) λ_ _ u=>aO cO ⟨_,cO,k+1,g6 (nG .i64) (by rw[W7.1,vh J];omega),rfl,rfl,cO,by rw[MN J];exact u⟩)
 have W:=Er (ns:=ns) (ks:=t.eJ) (k:=k);refine aQ il G cO I (λ_ xX=>bX B.op fm xX rfl rfl λ_ Y=>have u:=u.drew;aD bL (Y.ext u.aG) (aQ il G cO I λ_ xS=>bX B.n ju xS rfl rfl λ_ zN=>aD bL (zN.ext u.aG) (pop (Fe _ _) (aN u JZ λCH _ u=>?_))));refine⟨eL bL (Y.ext u.aG),?_⟩;refine⟨eL bL (zN.ext u.aG),?_⟩;refine aJ (x:=(⟨B.op,B.n⟩:oZ)) u E9 rfl rfl (λ_ u=>⟨λw'=>St w aX [bW CH (j0 (⟨B.op,Ex.numOf ns B⟩:oZ)),bE U (YJ ns t.eJ k)] w',aA nV (aB (v:=hZ ((⟨B.op,B.n⟩:oZ).kind)) bL u.hb rfl (aH (aC (λM=>?_) λM=>?_))),?_⟩)
 .refine aQ il G cO I (λ_ By=>bX B.name gC By rfl rfl λ_ MQ=>aD gK (MQ.ext u.aG) (aW YX u (C225 _ _ _ _ (Z.ext u.aG) cO) λ_ he u=>aA qV (aT u bL (dQ rfl) (rfl) λ_ u=>?_)));have u:=u.enc (cs':=j0 ({ (⟨B.op,B.n⟩:oZ)with n:=(dA ns B.name)}:oZ)) rfl;have O:Ex.numOf ns B=dA ns B.name:=ew M;rw[<- O]at u;exact u
 .have O:Ex.numOf ns B=B.n:=ej M;rw[<- O]at u;exact u
 rintro _ u _;refine aD E9 u.At (aV ([(⟨B.op,Ex.numOf ns B⟩:oZ)]) u ue rfl rfl (dQ rfl) λaqD _ u=>?_);have QC:=u.dW;refine bI u.p2 ue QC (by rw[W,l2];have:(t.steps ns).length=t.size:=Ex.qp ns t;rw[Ex.vW,lr,l2,<- show k=t.eJ.length from cO]at this;omega) ee (λaqE _ u=>?_);have u:=u.p1.drop;rw[Ex.vW,<- show k=t.eJ.length from cO,<- hq];exact u.p1.drop.fresh
termination_by N
decreasing_by all_goals omega
def C262(s:ByteArray)(b2:Nat)(B:Value)(ns:List ByteArray)(w:World)(hc:Cell w b2 0 B)(E:dD (λ_=>True) w B ns)(G:ns.length<=1048576):CR 262 [.string s,.pointer (some ⟨b2,0,none⟩)] w (λv w'=>v=.bool (!ns.any λy=>decide (y=s))/\Ext w w'):=by
 have u:=St.start w;refine fj Tryz.func262 ?_;exact bN jq (hc.ext u.aG) (aW ahZ u (C263 _ _ _ _ (E.ext u.aG) cO) λ_ _ u=>bT ⟨rfl,u.aG⟩)
def C218(lv O:Value)(xs:List cC)(ns:List ByteArray)(w:World)(G:dD (λ_=>True) w lv xs)(M:dD (λ_=>True) w O ns)(hn:xs.length<=1048576)(Cp:ns.length<=1048576):CR 218 [lv,O] w (λv w'=>∃s,v=.tuple #[s,hZ (lq ns xs)]/\kq (bE s (qZ ns xs)) w w'):=by
 have u:=St.start w;refine aeG _ _ _ _ ?_;unfold S218;refine nQ u (Kj M) (λZ w1 u=>aW Tj u (C185 _ _ _ (G.ext u.aG) cO) λ_ he u=>bT (bD (λJ=>?_) λJ=>?_))
 .have h8:lq ns xs=8:=aeS (by simpa using J);refine⟨_,by rw[h8],?_⟩;rw[Nj (by rw[h8];decide)];exact(u.drop.eK (α:=oZ)).fresh
 have B:fK xs=true:=by simpa using J
 have Lx:=Dz xs;have V:=aeT (ns:=ns) B;refine dV aqm u (C264 _ _ _ (G.ext u.aG) hn B) (λx12 _ cI u=>?_)
 have I:wY _ (.func (.func 262) [].toArray [.pointer (some ⟨Z,0,none⟩)].toArray) (λs=>!ns.any λy=>decide (y=s)):=
  ⟨262,[],_,rfl,aqo,λy w1 U=>C262 y Z O ns w1 ((u.p1.hb.cell rfl).ext U) ((M.ext u.aG).ext U) Cp⟩
 refine aW ahY u (C240 _ _ _ _ _ u.dW I cO) (λ_ he u=>bD (λE=>?_) λE=>?_)
 .have Y:lq ns xs=9:=by rw[V,ew E]
  refine⟨_,by rw[Y],?_⟩;rw[Nj (by rw[Y];decide)];exact(u.drop.drop.eK (α:=oZ)).fresh
 refine aB jq u.p1.hb rfl ?_;have W:lq ns xs=0:=by rw[V,ej (by simpa using E)]
 have YL:=Ai B;obtain⟨t,ht⟩:=Cr.of (xs:=xs) (i:=0) cO;have hz:=ht.zero YL;refine dV ahW u (C265 _ _ _ _ _ t (t.size+1) _ (G.ext u.aG) (M.ext u.aG) hn Cp ht cO) (λVw _ cI u=>?_);refine⟨Vw,by rw[W],?_⟩;unfold qZ CJ;rw[ew W,hz.2];exact u.p1.drop.p1.drop.fresh
def C143(lv M J:Value)(xs:List cC)(ns:List ByteArray)(nums:List Int)(w:World)(U:dD (λ_=>True) w lv xs)(G:dD (λ_=>True) w M ns)(I:dD (λ_=>True) w J nums)(hn:xs.length<=1048576)(Z:ns.length<=1048576):CR 143 [lv,M,J] w (λv w'=>v=.tuple #[hZ (qw ns nums xs).1,hZ (qw ns nums xs).2]/\Ext w w'):=by
 have u:=St.start w;refine aeH _ _ _ _ _ ?_;unfold S143;refine aK iK (G.ext u.aG) (aK cS (I.ext u.aG) (bQ (aC (λO=>?_) λO=>?_)))
 .refine⟨?_,u.aG⟩;unfold qw;rw[ej cO]
 refine dO aqn (C218 _ _ _ _ _ (U.ext u.aG) (G.ext u.aG) cO cO) ?_;rintro E _ ⟨W,rfl,V⟩;have u:=u.made V;refine aM rfl (aM rfl (bQ (aC (λB=>?_) λB=>?_)))
 .refine⟨?_,u.aG⟩;unfold qw;rw[ew cO,ej B]
 have Y:=Vv ns xs;refine aW aoT u (C219 _ _ _ _ _ u.dW (I.ext u.aG) cO) (λ_ he u=>aM rfl (aM rfl ?_));refine⟨?_,u.aG⟩;unfold qw;rw[ew cO,ew (by simpa using B)]
variable (w:World) (K:Value->hM)
def axT:dM:=λi=>match i with
 | 9=>(.of [(0,[]),(1,[]),(2,[]),(3,[]),(4,[]),(6,[]),(7,[]),(5,[7]),(8,[]),(9,[]),(10,[]),(11,[]),(12,[]),(13,[]),(15,[]),(16,[]),(14,[16]),(17,[]),(18,[]),(19,[]),(20,[]),(21,[]),(22,[]),(24,[]),(25,[]),(23,[25]),(26,[]),(27,[]),(28,[]),(29,[]),(30,[]),(31,[]),(33,[]),(34,[]),(32,[34]),(35,[]),(36,[]),(37,[]),(38,[])])
 | _=>.nil
def S284(B mE:Value):Prop:=
 nP (λV Y E a=>∀_:Env,
 lN 141 B λb=>bA .lss 3 E b λc=>cV c (iA 141 B E λd=>lA 193 d a λe=>aL 193 a λf g=>sA 193 f e g λh=>bB .add 3 E (i 1) λj=>fA 193 f 6 λk=>lA 3 k h λl=>
 bA .add 3 j l λn=>fA 193 f 7 λo=>lA 3 o h λp=>bA .add 3 n p λq=>eQ (λK2=>fA 193 f 0 λr=>lA 3 r h λs=>bB .eql 3 s (i 11) λt=>cV t (K2 tt h) (fA 193 f 0 λu=>
 lA 3 u h λv=>bB .eql 3 v (i 12) λx=>K2 x h)) (λTo y=>∀_:Env,
 eQ (λG=>fA 193 f 6 λz=>lA 3 z y λaa=>bB .lss 3 aa (i 0) λab=>cV ab (G tt y) (fA 193 f 7 λac=>lA 3 ac y λad=>bB .lss 3 ad (i 0) λae=>cV ae (G tt y) (
 fA 193 f 6 λaf=>lA 3 af y λag=>lN 141 B λah=>bA .gtr 3 ag ah λai=>cV ai (G tt y) (fA 193 f 7 λaj=>lA 3 aj y λak=>lN 141 B λal=>bA .gtr 3 ak al λam=>
 cV am (G tt y) (lN 141 B λan=>bA .gtr 3 q an λao=>G ao y))))) (λap M=>∀_:Env,
 cV ap (K (i (-1)) M) (eQ (λJ=>eQ (λK5=>eX hH (Op.unary .not To) λar=>cV ar (fA 193 f 6 λasx=>lA 3 asx M λau=>bB .gtr 3 au (i 0) λav=>K5 av M) (
 K5 ff M)) (λaw I=>∀_:Env,
 cV aw (J aw I) (eQ (λK6=>fA 193 f 0 λay=>lA 3 ay I λaz=>bB .neq 3 az (i 11) λa0=>cV a0 (fA 193 f 7 λa1=>lA 3 a1 I λa2=>bB .gtr 3 a2 (i 0) λa3=>K6 a3 I) (
 K6 ff I)) (λa4 O=>∀_:Env,
 cV a4 (J a4 O) (fA 193 f 0 λa6=>lA 3 a6 O λa7=>bB .eql 3 a7 (i 13) λa8=>cV a8 (bB .eql 3 mE (i 0) λa9=>J a9 O) (J ff O)))))) (λba U=>∀_:Env,
 cV ba (K (i (-1)) U) (eQ (λK7=>cV To (fA 193 f 0 λbc=>lA 3 bc U λbd=>bB .eql 3 bd (i 12) λbe=>cF 302 [be] U λbf W=>bA .add 3 mE bf λbh=>bB .add 3 E (i 1) λbi=>
 bB .add 3 E (i 1) λbj=>fA 193 f 6 λbk=>lA 3 bk (drew W) λbl=>bA .add 3 bj bl λbm=>eX hH (n0 141 B (some bi) (some bm) none) λbn=>bB .add 3 E (i 1) λbo=>
 fA 193 f 6 λbp=>lA 3 bp (drew W) λbq=>bA .add 3 bo bq λbr=>eX hH (n0 141 B (some br) (some q) none) λbs=>cF 284 [bn,bh] (drew W) λbt bu=>
 kA 3 bp bq bu (cF 284 [bs,bh] bu λbv bw=>eQ (λK8=>bB .eql 3 bt (i (-1)) λbx=>cV bx (K8 tt bw) (bB .eql 3 bv (i (-1)) λbz=>K8 bz bw)) (λb0 b1=>∀_:Env,
 cV b0 (K (i (-1)) b1) (bB .add 3 bt (i 1) λb2=>bB .add 3 bv (i 1) λb3=>eX hH (Builtin.max_ #[3,3,3] 3 [Y,b2,b3].toArray) λb4=>K7 b4 b1)))) (K7 Y U)) (λZ b5=>∀_:Env,
 V Z q b5))))))) (K Y a)) (λV=>V (i 0) (i 0) w)
def axU:dM:=λi=>match i with
 | 15=>(.of [(0,[]),(1,[]),(2,[]),(3,[]),(4,[]),(5,[]),(6,[]),(7,[]),(8,[]),(9,[]),(11,[]),(12,[]),(13,[]),(14,[]),(15,[]),(16,[]),(17,[]),(18,[]),(19,[]),(10,[15]),(20,[]),(21,[]),(22,[])])
 | _=>.nil
theorem aeU(B u:Value)(h:S284 w K B u):CR 284 [B,u] w K:=
 qj 131 axU 16 [.tmp 4] Tryz.func284 h
theorem aqF:PL 310:=dR Tryz.func310
theorem aqG:PL 283:=dR Tryz.func283
theorem Nl:PL 311:=dR Tryz.func311
theorem ah7:PL 313:=dR Tryz.func313
theorem ah8:PL 314:=dR Tryz.func314
theorem Zo:PL 284:=dR Tryz.func284
theorem aqH:PL 241:=dR Tryz.func241
theorem aqI:PL 108:=dR Tryz.func108
theorem aqJ:PL 177:=dR Tryz.func177
theorem aqK:PL 179:=dR Tryz.func179
theorem aqL:PL 182:=dR Tryz.func182
theorem aqM:PL 183:=dR Tryz.func183
theorem Zp:PL 178:=dR Tryz.func178
theorem aqN:PL 233:=dR Tryz.func233
theorem ah9:PL 181:=dR Tryz.func181
theorem aqO:PL 239:=dR Tryz.func239
theorem Zq:PL 184:=dR Tryz.func184
theorem aqP:PL 282:=dR Tryz.func282
theorem aqQ:PL 309:=dR Tryz.func309
theorem aqR:PL 232:=dR Tryz.func232
theorem aqS:PL 279:=dR Tryz.func279
theorem aia:PL 186:=dR Tryz.func186
theorem aqT:PL 247:=dR Tryz.func247
theorem Zr:PL 187:=dR Tryz.func187
theorem aqU:PL 248:=dR Tryz.func248
theorem aqV:PL 188:=dR Tryz.func188
theorem aqW:PL 249:=dR Tryz.func249
end Go.Proofs.YtpdlpabnlkofmaaGreatDoor
namespace Go.Proofs.YtpdlpabnlkofmaaGreatDoor
open Go.Fw
variable (w:World) (K:Value->hM)
theorem aqX:PL 336:=dR Tryz.func336
theorem aqY:PL 312:=dR Tryz.func312
end Go.Proofs.YtpdlpabnlkofmaaGreatDoor
namespace Go.Proofs.YtpdlpabnlkofmaaGreatDoor
open Go.Fw
structure K15 where
instance:Flat K15 where
 agg:=true
 sz:=15
 enc _:=Vn.map GJ
 val _:=.agg (Vn.map GJ).toArray
 pos:=ee
 len _:=rfl
 one a v h:=by grind[xo]
 oE _ _:=rfl
 oF h:=by cases h
def C336(w:World):CR 336 [] w (λv w'=>v=ir (⟨⟩:K15)/\Ext w w'):=by
 have u:=St.start w;refine fj Tryz.func336 ?_;exact aN u ad8 (λ_ _ u=>pop (v:=ir (⟨⟩:K15)) (by kernel_rfl) (aJ (x:=(⟨⟩:K15)) u ahy rfl rfl λ_ u=>aD (x:=(⟨⟩:K15)) ahy u.At ⟨rfl,u.drop.aG⟩))
theorem C310(k:Int)(w:World):CR 310 [hZ k] w (λv w'=>v=.string (fO k)/\Ext w w'):=by
 have u:=St.start w;refine fj Tryz.func310 ?_;refine⟨λB w'=>B=.bool (decide (k<0\/15<=k))/\w'=w,?_,?_⟩
 .exact aR (aC (λc=>⟨vb (ez (.inl c)).symm,rfl⟩) λ_=>cT ⟨vb (ga.2 cO),rfl⟩)
 rintro _ _ ⟨rfl,rfl⟩ _;refine aC (λ_=>⟨g6 GJ (by unfold fO;rw[ew cO]),u.aG⟩) (λc=>aW aqX u (C336 _) λ_ E u=>?_);obtain⟨n,rfl⟩:∃n:Nat,k=n:=⟨k.toNat,cO⟩;refine pop (v:=.string (fO n)) ?_ ⟨rfl,u.aG⟩
 match n,c with
 | 0,_=>exact(by kernel_rfl:pr hH (wg 364 (ir K15.mk) (hZ ((0:Nat):Int)))=some (.string (fO ((0:Nat):Int))))
 | 1,_=>exact(by kernel_rfl:pr hH (wg 364 (ir K15.mk) (hZ ((1:Nat):Int)))=some (.string (fO ((1:Nat):Int))))
 | 2,_=>exact(by kernel_rfl:pr hH (wg 364 (ir K15.mk) (hZ ((2:Nat):Int)))=some (.string (fO ((2:Nat):Int))))
 | 3,_=>exact(by kernel_rfl:pr hH (wg 364 (ir K15.mk) (hZ ((3:Nat):Int)))=some (.string (fO ((3:Nat):Int))))
 | 4,_=>exact(by kernel_rfl:pr hH (wg 364 (ir K15.mk) (hZ ((4:Nat):Int)))=some (.string (fO ((4:Nat):Int))))
 | 5,_=>exact(by kernel_rfl:pr hH (wg 364 (ir K15.mk) (hZ ((5:Nat):Int)))=some (.string (fO ((5:Nat):Int))))
 | 6,_=>exact(by kernel_rfl:pr hH (wg 364 (ir K15.mk) (hZ ((6:Nat):Int)))=some (.string (fO ((6:Nat):Int))))
 | 7,_=>exact(by kernel_rfl:pr hH (wg 364 (ir K15.mk) (hZ ((7:Nat):Int)))=some (.string (fO ((7:Nat):Int))))
 | 8,_=>exact(by kernel_rfl:pr hH (wg 364 (ir K15.mk) (hZ ((8:Nat):Int)))=some (.string (fO ((8:Nat):Int))))
 | 9,_=>exact(by kernel_rfl:pr hH (wg 364 (ir K15.mk) (hZ ((9:Nat):Int)))=some (.string (fO ((9:Nat):Int))))
 | 10,_=>exact(by kernel_rfl:pr hH (wg 364 (ir K15.mk) (hZ ((10:Nat):Int)))=some (.string (fO ((10:Nat):Int))))
 | 11,_=>exact(by kernel_rfl:pr hH (wg 364 (ir K15.mk) (hZ ((11:Nat):Int)))=some (.string (fO ((11:Nat):Int))))
 | 12,_=>exact(by kernel_rfl:pr hH (wg 364 (ir K15.mk) (hZ ((12:Nat):Int)))=some (.string (fO ((12:Nat):Int))))
 | 13,_=>exact(by kernel_rfl:pr hH (wg 364 (ir K15.mk) (hZ ((13:Nat):Int)))=some (.string (fO ((13:Nat):Int))))
 | 14,_=>exact(by kernel_rfl:pr hH (wg 364 (ir K15.mk) (hZ ((14:Nat):Int)))=some (.string (fO ((14:Nat):Int))))
 | n+15,c=>exact absurd (.inr cO) c
def aj6:List Nat:=[107,114,110,101,102]
def aqZ(c:Nat):ByteArray:=⟨#[c.toUInt8]⟩
def C312(k:Int)(c:Nat)(hc:c∈aj6)(w:World):CR 312 [.string (fO k),.string (aqZ c)] w (λv w'=>v=.bool (fb (fO k) c)/\Ext w w'):=by
 have u:=St.start w;refine fj Tryz.func312 ?_;refine aW ah5 u (C337 (fO k) c.toUInt8 _) (λ_ B u=>cT ?_);refine⟨vb ?_,u.aG⟩;have h1:=Y9 (iX (fO k)) c.toUInt8;have h2:c.toUInt8.toNat=c:=(by decide:∀c∈aj6,c.toUInt8.toNat=c) c hc;unfold fb;rw[show(λb:UInt8=>decide ((b.toNat:Int)=(c:Int)))=λb=>decide (b=c.toUInt8)from funext λ_=>ga.2 ⟨λ_=>UInt8.toNat_inj.1 cO,λh=>by rw[h,h2]⟩];exact(Bool.eq_iff_iff.2 (decide_eq_true_iff.trans h1))
def C311(k:Int)(c b2:Nat)(w:World)(hc:Cell w b2 0 (.string (fO k)))(B:c∈aj6):CR 311 [.string (aqZ c),.pointer (some ⟨b2,0,none⟩)] w (λv w'=>v=.bool (fb (fO k) c)/\Ext w w'):=by
 have u:=St.start w;refine fj Tryz.func311 ?_;exact bN gK (hc.ext u.aG) (aW aqY u (C312 k c B _) λ_ _ u=>⟨rfl,u.aG⟩)
def C313(b:Bool)(s:ByteArray)(w:World):CR 313 [.bool b,.string s] w (λv w'=>v=.bool ((b&&gY s)||(!b&&decide (s=⟨#[]⟩)))/\Ext w w'):=by
 have u:=St.start w;refine fj Tryz.func313 ?_;refine⟨λB w'=>B=.bool ((b&&gY s)||(!b&&decide (s=⟨#[]⟩)))/\St w aX [] w',bD (λ_=>aW MW u (C180 _ _) λ_ _ u=>bD (λ_=>⟨vb dI,u⟩) λ_=>bT (bD (λ_=>jP ⟨vb dI,u⟩) λ_=>⟨vb dI,u⟩)) (λ_=>bT (bD (λ_=>jP ⟨vb dI,u⟩) λ_=>⟨vb dI,u⟩)),?_⟩;rintro _ _ ⟨rfl,u⟩ _;exact⟨rfl,u.aG⟩
def C314(b:Bool)(lv:Value)(xs:List cC)(w:World)(B:dD (λ_=>True) w lv xs)(G:xs.length<=1048576):CR 314 [.bool b,lv] w (λv w'=>v=.bool ((b&&fK xs)||(!b&&decide (xs.length=0)))/\Ext w w'):=by
 have u:=St.start w;refine fj Tryz.func314 ?_;refine⟨λE w'=>E=.bool ((b&&fK xs)||(!b&&decide (xs.length=0)))/\St w aX [] w',bD (λ_=>aW Tj u (C185 _ _ _ (B.ext u.aG) cO) λ_ _ u=>bD (λ_=>⟨vb dI,u⟩) λ_=>bT (bD (λ_=>aK il (B.ext u.aG) (aH ⟨vb dI,u⟩)) λ_=>⟨vb dI,u⟩)) (λ_=>bT (bD (λ_=>aK il (B.ext u.aG) (aH ⟨vb dI,u⟩)) λ_=>⟨vb dI,u⟩)),?_⟩;rintro _ _ ⟨rfl,u⟩ _;exact⟨rfl,u.aG⟩
theorem Nm{x:bR}{u:Bool}(h:u=(if fb (fO x.kind) 107=true then decide (1<=x.n/\x.n<=8)else decide (x.n=0))) :
  (!(decide (1<=x.kind/\x.kind<15/\0<=x.at_/\x.at_<=4000)&&u)||(!(fb (fO x.kind) 114&&gY x.eN||!fb (fO x.kind) 114&&decide (x.eN=⟨#[]⟩))||(!(fb (fO x.kind) 110&&gY x.name||!fb (fO x.kind) 110&&decide (x.name=⟨#[]⟩)) ||
  (!(fb (fO x.kind) 101&&fK x.e||!fb (fO x.kind) 101&&decide (x.e.length=0))||!(fb (fO x.kind) 102&&fK x.f||!fb (fO x.kind) 102&&decide (x.f.length=0)))))) = !nB x:=by
 subst h
 have B:gY x.eN=true->¬ x.eN=⟨#[]⟩:=λh e=>by rw[e]at h;exact absurd h ee
 have E:gY x.name=true->¬ x.name=⟨#[]⟩:=λh e=>by rw[e]at h;exact absurd h ee
 have G:fK x.e=true->¬ x.e.length=0:=λh e=>by rw[s4.1 e]at h;exact absurd h ee
 have I:fK x.f=true->¬ x.f.length=0:=λh e=>by rw[s4.1 e]at h;exact absurd h ee
 unfold nB
 cases h1:fb (fO x.kind) 114<;>cases h2:fb (fO x.kind) 110<;>cases h3:fb (fO x.kind) 101<;>cases h4:fb (fO x.kind) 102<;>cases h5:fb (fO x.kind) 107<;>simp<;>grind
def C283(x:bR)(Z:bF)(w:World)(hx:mi w Z x)(I:x.e.length<=1048576)(Y:x.f.length<=1048576):CR 283 [ir Z] w (λv w'=>v=.bool (!nB x)/\Ext w w'):=by
 obtain⟨W,U,rfl,MR,Iq⟩:=hx;have u:=St.start w;refine pj Tryz.func283 (pl:=axT) ?_;refine cM u (λJ _ u=>aA dU (aB (v:=hZ x.kind) bL u.hb rfl (aW aqF u (C310 _ _) λ_ B u=>gP u ahw rfl λE _ u=>aT u gK (dQ rfl) (rfl) λ_ u=>aA jX (aB (v:=hZ x.n) bL u.p1.hb rfl (aH ⟨λG w'=>G=.bool (if fb (fO x.kind) 107=true then decide (1<=x.n/\x.n<=8)else decide (x.n=0))/\St w aX [bW E [.string (fO x.kind)],bW J (j0 (⟨x.kind,x.eN,x.name,W,U,x.n,x.body,x.eG,x.at_⟩:bF))] w',?_,?_⟩)))))
 .refine ij Nl (C311 x.kind 107 E _ (u.hb.cell rfl) ee) ?_;rintro _ _ ⟨rfl,B⟩;have u:=u.ext B;exact bD (λ_=>aA jX (aB (v:=hZ x.n) bL u.p1.hb rfl (cT (aC (λ_=>aA jX (aB (v:=hZ x.n) bL u.p1.hb rfl (gz ⟨vb dI,u⟩))) λ_=>⟨vb dI,u⟩)))) (λ_=>⟨vb dI,u⟩)
 rintro _ _ ⟨rfl,u⟩ _;refine⟨λG w'=>G=.bool (decide (1<=x.kind/\x.kind<15/\0<=x.at_/\x.at_<=4000)&&(if fb (fO x.kind) 107=true then decide (1<=x.n/\x.n<=8)else decide (x.n=0)))/\St w aX [bW E [.string (fO x.kind)],bW J (j0 (⟨x.kind,x.eN,x.name,W,U,x.n,x.body,x.eG,x.at_⟩:bF))] w',?_,?_⟩
 .refine aA dU (aB (v:=hZ x.kind) bL u.p1.hb rfl (cT ?_));exact aC (λ_=>aA dU (aB (v:=hZ x.kind) bL u.p1.hb rfl (aR (aC (λ_=>aA lW (aB (v:=hZ x.at_) bL u.p1.hb rfl (cT (aC (λ_=>aA lW (aB (v:=hZ x.at_) bL u.p1.hb rfl (gz (aC (λ_=>⟨vb dI,u⟩) λ_=>⟨vb dI,u⟩)))) λ_=>⟨vb dI,u⟩)))) λ_=>⟨vb dI,u⟩)))) (λ_=>⟨vb dI,u⟩)
 rintro _ _ ⟨rfl,u⟩ _;refine⟨λG w'=>G=.bool (!nB x)/\St w aX [bW E [.string (fO x.kind)],bW J (j0 (⟨x.kind,x.eN,x.name,W,U,x.n,x.body,x.eG,x.at_⟩:bF))] w',bT (bD (λ_=>have u:=u.drew;⟨vb (by rw[<- Nm rfl];grind),u⟩) λxY=>?_),?_⟩
 .refine aA iP (have u:=u.drew;aB (v:=.string x.eN) gK u.p1.hb rfl (ij Nl (C311 x.kind 114 E _ (u.hb.cell rfl) ee) ?_));rintro _ _ ⟨rfl,B⟩;have u:=u.ext B;refine⟨aF gK (u.p1.hb.cell rfl),?_⟩;refine ij ah7 (C313 _ x.eN _) ?_;rintro _ _ ⟨rfl,B⟩;have u:=u.ext B;refine bT (bD (λ_=>⟨vb (by rw[<- Nm rfl];grind),u⟩) λaib=>aA gw (aB (v:=.string x.name) gK u.p1.hb rfl (ij Nl (C311 x.kind 110 E _ (u.hb.cell rfl) ee) ?_)));rintro _ _ ⟨rfl,B⟩;have u:=u.ext B;refine⟨aF gK (u.p1.hb.cell rfl),?_⟩;refine ij ah7 (C313 _ x.name _) ?_
  rintro _ _ ⟨rfl,B⟩;have u:=u.ext B;refine bT (bD (λ_=>⟨vb (by rw[<- Nm rfl];grind),u⟩) λM=>aA jg (aB jC u.p1.hb rfl ?_));have O:=DL.flat MR;refine ij Nl (C311 x.kind 101 E _ (u.hb.cell rfl) ee) ?_;rintro _ _ ⟨rfl,B⟩;have u:=u.ext B;refine⟨aF jC (u.p1.hb.cell rfl),?_⟩;refine ij ah8 (C314 _ _ x.e _ (O.ext u.aG) I) ?_;rintro _ _ ⟨rfl,B⟩;have u:=u.ext B;refine bT (bD (λ_=>⟨vb (by rw[<- Nm rfl];grind),u⟩) λahS=>aA km (aB jC u.p1.hb rfl ?_));have V:=DL.flat Iq;refine ij Nl (C311 x.kind 102 E _ (u.hb.cell rfl) ee) ?_
  rintro _ _ ⟨rfl,B⟩;have u:=u.ext B;refine⟨aF jC (u.p1.hb.cell rfl),?_⟩;refine ij ah8 (C314 _ _ x.f _ (V.ext u.aG) Y) ?_;rintro _ _ ⟨rfl,B⟩;have u:=u.ext B;exact bT ⟨vb (by rw[<- Nm rfl];grind),u⟩
 rintro _ _ ⟨rfl,u⟩ _;exact⟨rfl,u.drop.drop.aG⟩
def CO{l:List cC}(h:fK l=true):∀y∈l,0<=y.at_:=by
 intro y B
 unfold fK at h
 have u:l.any lE=false:=dI
 rw[B2]at u
 have:=u y B
 unfold lE at this
 grind
structure aq0(x:bR):Prop where
 kind:1<=x.kind/\x.kind<=14
 at0:0<=x.at_/\x.at_<=4000
 e:(fb (fO x.kind) 101=true/\fK x.e=true)\/(fb (fO x.kind) 101=false/\x.e=[])
 f:(fb (fO x.kind) 102=true/\fK x.f=true)\/(fb (fO x.kind) 102=false/\x.f=[])
 eN:(fb (fO x.kind) 114=true/\gY x.eN=true)\/(fb (fO x.kind) 114=false/\x.eN=⟨#[]⟩)
 name:(fb (fO x.kind) 110=true/\gY x.name=true)\/(fb (fO x.kind) 110=false/\x.name=⟨#[]⟩)
 n:(fb (fO x.kind) 107=true/\1<=x.n/\x.n<=8)\/(fb (fO x.kind) 107=false/\x.n=0)
def yS{x:bR}(h:nB x=true):aq0 x:=by
 unfold nB at h
 simp only[n4,ta,Bool.or_eq_false_iff,decide_eq_false_iff_not,bne_eq_false_iff_eq,Bool.and_eq_false_iff,Bool.not_eq_false',u1]at h
 obtain⟨⟨⟨h1,h2⟩,h3⟩,h4⟩:=h
 constructor
 .omega
 .omega
 .grind
 .grind
 .grind
 .grind
 grind
def aeW{x:bR}(h:nB x=true):0<=x.at_/\(∀y∈x.e,0<=y.at_)/\(∀y∈x.f,0<=y.at_):=by
 have h:=yS h
 refine⟨h.at0.1,?_,?_⟩
 .rcases h.e with h|h
  .exact CO h.2
  grind
 rcases h.f with h|h
 .exact CO h.2
 grind
theorem aj7:fb (fO 12) 107=true:=ee
theorem lK{l:List bR}(h:qq l=true):l.length<=40/\(∀x∈l,nB x=true)/\∃t:Bk,l=t.flat/\t.str/\t.ok 0=true/\t.depth<=12:=by
 unfold qq at h
 simp only[n4,decide_eq_true_eq,ta]at h
 obtain⟨⟨h1,h2⟩,h3⟩:=h
 rw[B2]at h2
 refine⟨h1,λx B=>dI,?_⟩
 unfold fL at h3
 cases hb:tV l with
 | none=>grind
 | some t=>
  rw[hb]at h3
  obtain⟨E,u⟩:=oI hb
  grind
structure PF(p:bZ):Prop where
 lines:∀l∈p.lines,l≠[]/\∀c∈l,iZ 4294967296 c=false
 iY:∀c∈p.iY,iZ 4294967296 c=false
 eS:∀c∈p.eS,iZ 0 c=false
 th:∀t∈p.threads,mP true t=false
 rc:∀t∈p.recover,mP false t=false
 cl:∀c∈p.eb,0<=c.at_/\fK c.e=true
 one:p.recover.length<=1
def q9{p:bZ}(h:kH p=true):PF p:=by
 unfold kH oJ n8 at h
 simp only[n4,ta,B2,decide_eq_true_eq]at h
 obtain⟨⟨h1,h2⟩,⟨⟨h3,h4⟩,h5⟩,h6⟩:=h
 refine⟨λl u=>?_,λc hc=>dI,λc hc=>dI,λt ht=>dI,λt ht=>dI,λc hc=>?_,h6⟩
 .have:=h1 l u
  unfold oz oJ at this
  grind
 have:=h2 c hc
 unfold l9 r7 at this
 grind
def An{nb:Bool}{t:cR}(h:mP nb t=false):0<=t.at_/\qq t.body=true/\(∀s∈t.dY,gY s=true)/\gY t.name=nb:=by
 unfold mP sY r7 at h
 grind
def Ao{m:Int}{c:cN}(h:iZ m c=false):0<=c.at_/\gY c.name=true/\0<=c.n/\c.n<=m:=by
 unfold iZ r7 at h
 grind
def gE(p:bZ):List cR:=p.threads++p.recover
def PF.rB{p:bZ}(h:PF p){t:cR}(ht:t∈gE p):0<=t.at_/\qq t.body=true/\∀s∈t.dY,gY s=true:=by
 unfold gE at ht
 rcases o8.1 ht with ht|ht
 .have:=An (h.th t ht);grind
 have:=An (h.rc t ht);grind
def eV(p:bZ):List Int:=(iE p).map cN.n
def eH(p:bZ):Int:=(p.lines.flatten.length:Int)
def Zs(p:bZ):((iE p).length:Int)-p.iY.length=eH p:=by unfold iE eH;rw[lr];omega
def cX(p:bZ):List ByteArray:=(iE p).map cN.name
def cP(p:bZ):List ByteArray:=p.eS.map cN.name
def jy:List (List cN)->Int->Int->Int
 | [],i,a=>i+a
 | l::r,i,a=>if a<l.length then i else jy r (i+1) (a-l.length)
def qd(p:bZ)(c:Int):Int:=if c<0\/(iE p).length<=c then -1 else jy p.lines 0 c
def pK(l:List cC)(ns:List ByteArray):Bool:=l.any λx=>decide (x.op=2)&&decide (dA ns x.name<0)
def rO(x:bR)(n:Int):Int:=if x.kind=12 then n*x.n else n
def mS:Bk->Int->Bool
 | .nil,_=>false
 | .cons x a b r,n=>decide (64<rO x n)||(mS a (rO x n)||mS b (rO x n))||mS r n
def Bk.app:Bk->Bk->Bk
 | .nil,t=>t
 | .cons x a b r,t=>.cons x a b (r.app t)
theorem Bk.BF(a b:Bk):(a.app b).flat=a.flat++b.flat:=by
 induction a with
 | nil=>rfl
 | cons x c d r _ _ u=>grind[flat,app]
theorem Bk.Tp{a b:Bk}(B:a.str)(hb:b.str):(a.app b).str:=by
 induction a with
 | nil=>exact hb
 | cons x c d r _ _ u=>
  grind[str,app]
theorem Iz(a b:Bk)(n:Int):mS (a.app b) n=(mS a n||mS b n):=by
 induction a with
 | nil=>simp[Bk.app,mS]
 | cons x c d r _ _ u=>simp only[Bk.app,mS,u,Bool.or_assoc]
def rP(l:List bR):Bool:=match tV l with|some t=>mS t 1|none=>false
theorem vZ{t:Bk}(h:t.str):rP t.flat=mS t 1:=by unfold rP;rw[sq h]
def fW(p:bZ):List cN:=iE p++p.eS++p.threads.map (λt=>⟨t.name,0,t.at_⟩)
def Et(l:List cN)(j:Nat):Bool:=match l[j]? with|some c=>decide (dA (l.map cN.name) c.name<j)|none=>false
def kJ(l:List cN):Bool:=(tU l.length).any (Et l)
def Tq(p:bZ)(rs:List ByteArray)(j:Nat):Bool:=match rs[j]? with|some s=>decide (dA rs s<j)||decide (0<=dA (cX p) s)||decide (0<=dA (cP p) s)|none=>false
def vl(p:bZ)(rs:List ByteArray):Bool:=(tU rs.length).any (Tq p rs)
theorem No{f:Nat->Bool}{n:Nat}(h:∀j,j<n->f j=false):(tU n).any f=false:=by
 grind
theorem Np{f:Nat->Bool}{n j:Nat}(u:j<n)(h:f j=true):(tU n).any f=true:=wS.2 ⟨j,LY.2 u,h⟩
def Tr{f:Nat->Bool}{k:Nat}(h:∀j,j<k->f j=false)(B:f k=false):∀j,j<k+1->f j=false:=λj u=>by
 grind
def nD(p:bZ)(rs:List ByteArray)(x:bR):Bool:=
 (decide (¬ x.eN=⟨#[]⟩)&&decide (dA rs x.eN<0)) ||
 ((decide (x.kind=2)||decide (x.kind=3)||decide (x.kind=4))&&decide (dA (cX p) x.name<0)) ||
 ((decide (x.kind=5)||decide (x.kind=6))&&(decide (dA (cX p) x.name<0)||decide (eH p<=dA (cX p) x.name))) ||
 ((decide (x.kind=9)||decide (x.kind=10))&&decide (dA (cP p) x.name<0))||pK x.e rs||pK x.f rs
def vm(p:bZ):Bool:=p.lines.any (λl=>decide (4<(l.length:Int)))||(gE p).any (λt=>decide (4<(t.dY.length:Int))) ||
 (decide (4<(p.lines.length:Int))||decide (4<(p.iY.length:Int))||decide (2<(p.eS.length:Int))||decide ((p.threads.length:Int)<1)||decide (3<(p.threads.length:Int))||decide (4<(p.eb.length:Int)))
def gF(p:bZ):List ByteArray:=(cX p).take (eH p).toNat
def fg(p:bZ):Int:=
 if kH p=false then 8 else if vm p=true then 2 else if (gE p).any (λt=>rP t.body)=true then 11 else if kJ (fW p)=true then 10
 else if (gE p).any (λt=>vl p t.dY)=true then 10 else if (gE p).any (λt=>t.body.any (nD p t.dY))=true then 9
 else if p.eb.any (λc=>pK c.e (gF p))=true then 9 else 0
def Kk{x:bR}(h:nB x=true):0<=x.at_/\(x.kind=12->1<=x.n/\x.n<=8):=by
 have h:=yS h
 refine⟨h.at0.1,λu=>?_⟩
 rcases h.n with h|h
 .exact h.2
 rw[u,aj7]at h;grind
section
variable {p:bZ}
theorem ce8(h1:kH p=false):fg p=8:=by unfold fg;grind
theorem ce2(h1:kH p=true)(h2:vm p=true):fg p=2:=by grind[fg]
theorem aq1(h1:kH p=true)(h2:vm p=false)(h3:(gE p).any (λt=>rP t.body)=true):fg p=11:=by grind[fg]
theorem aq2(h1:kH p=true)(h2:vm p=false)(h3:(gE p).any (λt=>rP t.body)=false)(h4:kJ (fW p)=true):fg p=10:=by
 grind[fg]
theorem aic(h1:kH p=true)(h2:vm p=false)(h3:(gE p).any (λt=>rP t.body)=false)(h4:kJ (fW p)=false)(h5:(gE p).any (λt=>vl p t.dY)=true):fg p=10:=by
 grind[fg]
theorem ce9(h1:kH p=true)(h2:vm p=false)(h3:(gE p).any (λt=>rP t.body)=false)(h4:kJ (fW p)=false)(h5:(gE p).any (λt=>vl p t.dY)=false)
  (h6:(gE p).any (λt=>t.body.any (nD p t.dY))=true):fg p=9:=by
 grind[fg]
theorem aq3(h1:kH p=true)(h2:vm p=false)(h3:(gE p).any (λt=>rP t.body)=false)(h4:kJ (fW p)=false)(h5:(gE p).any (λt=>vl p t.dY)=false)
  (h6:(gE p).any (λt=>t.body.any (nD p t.dY))=false) (u:p.eb.any (λc=>pK c.e (gF p))=true):fg p=9:=by
 grind[fg]
theorem ce0(h1:kH p=true)(h2:vm p=false)(h3:(gE p).any (λt=>rP t.body)=false)(h4:kJ (fW p)=false)(h5:(gE p).any (λt=>vl p t.dY)=false)
  (h6:(gE p).any (λt=>t.body.any (nD p t.dY))=false) (u:p.eb.any (λc=>pK c.e (gF p))=false):fg p=0:=by
 grind[fg]
theorem PF.decl(h:PF p):∀c∈fW p,0<=c.at_:=by
 intro c hc
 unfold fW iE at hc
 rcases o8.1 hc with hc|hc
 .rcases o8.1 hc with hc|hc
  .rcases o8.1 hc with hc|hc
   .obtain⟨l,u,hc⟩:=List.mem_flatten.1 hc
    exact(Ao ((h.lines l u).2 c hc)).1
   exact(Ao (h.iY c hc)).1
  exact(Ao (h.eS c hc)).1
 obtain⟨t,ht,rfl⟩:=ob.1 hc
 exact(An (h.th t ht)).1
theorem Vx(u:PS p):(fW p).length<=252000:=by
 have:=lj u
 have:=u.eS
 have:=u.threads
 grind[fW]
theorem mT(u:PS p):(cX p).length<=250500:=by unfold cX;rw[nc];exact lj u
theorem Eu(u:PS p):(gE p).length<=1000:=by
 have:=u.threads
 have:=u.recover
 grind[gE]
theorem PZ.rB(u:PZ p){t:cR}(ht:t∈gE p):YQ t/\t.dY.length<=500/\t.body.length<=500:=by
 refine⟨?_,u.dY t ht,u.body t ht⟩
 rcases o8.1 ht with h|h
 .exact u.zt t h
 exact u.zr t h
end
def C118(p:bZ)(pv:bO)(w:World)(hp:mi w pv p)(B:PZ p):CR 118 [ir pv] w (λv w'=>v=.bool (kH p)/\Ext w w'):=by
 obtain⟨bK,J,O,M,aZ,U,rfl,cW,dK,dB,cE,cG,cU⟩:=hp;have u:=St.start w;refine fj Tryz.func118 ?_;refine cM u (λV w1 u=>?_);refine⟨λm x w1=>∃k:Nat,x=hZ (k:Int)/\m=p.lines.length-k/\k<=p.lines.length/\(∀y∈p.lines.take k,oz y=false)/\St w aX [bW V (j0 (⟨bK,J,O,M,aZ,U⟩:bO))] w1,⟨_,0,rfl,rfl,l0 _,ei,u⟩,?_⟩;rintro m _ _ ⟨k,rfl,rfl,hk,eO,u⟩ _;have hzl:=B.lines;refine aA gL (aB pk u.hb rfl ?_);obtain⟨aj8,Vy,Zt⟩:=cW.open
 have axV:=Zt.1;refine aK ql (Vy.ext u.aG) (aR (aC (λjQ=>?_) λjQ=>?_))
 .obtain⟨Ft,rA⟩:=gx aj8 (i:=(k:Int).toNat) cO;obtain⟨Z,Y⟩:=gx p.lines (i:=(k:Int).toNat) cO;have aq4:DL w (ir Ft) Z:=Zt.2 _ _ _ rA Y;refine⟨λW w'=>W=.bool (oz Z)/\St w aX [bW V (j0 (⟨bK,J,O,M,aZ,U⟩:bO))] w',?_,?_⟩
  .refine aA gL (aB pk u.hb rfl (aQ ql (Vy.ext u.aG) cO rA λ_ vg=>aD jT vg ?_));have aeX:=DL.flat aq4;exact aK iD (aeX.ext u.aG) (aH (aC (λ_=>⟨vb (by unfold oz;grind),u⟩) λ_=>aA gL (aB pk u.hb rfl (aQ ql (Vy.ext u.aG) cO rA λ_ q8=>aD jT q8 (aW XI u (C198 _ _ _ _ (aeX.ext u.aG) (by have:=B.line _ (kE Y);omega) (B.zl _ (kE Y))) λ_ _ u=>bT ⟨vb (by unfold oz;grind),u⟩)))))
  rintro _ _ ⟨rfl,u⟩ _;refine bD (λlH=>?_) (λlH=>aO cO ⟨_,cO,k+1,rfl,rfl,cO,eh eO Y lH,u⟩);refine⟨vb ?_,u.drop.aG⟩;unfold kH;rw[iw Y lH];rfl
 have I:=eO;refine⟨λm x w1=>∃E:Nat,x=hZ (E:Int)/\m=p.eb.length-E/\E<=p.eb.length/\(∀y∈p.eb.take E,l9 y=false)/\St w aX [bW V (j0 (⟨bK,J,O,M,aZ,U⟩:bO))] w1,⟨_,0,rfl,rfl,l0 _,ei,u⟩,?_⟩;rintro m _ _ ⟨E,rfl,rfl,YI,QD,u⟩ _;have hzc:=B.eb;refine aA jB (aB rz u.hb rfl ?_);obtain⟨axW,G,aq6⟩:=cU.open;have hn13:=aq6.1;refine aK tT (G.ext u.aG) (aR (aC (λku=>?_) λku=>⟨λW w'=>W=.bool (oJ 4294967296 p.iY&&oJ 0 p.eS&&n8 true p.threads&&n8 false p.recover&&decide (p.recover.length<=1))/\St w aX [bW V (j0 (⟨bK,J,O,M,aZ,U⟩:bO))] w',?_,?_⟩))
 .obtain⟨Nq,CP⟩:=gx axW (i:=(E:Int).toNat) cO;obtain⟨aie,FU⟩:=gx p.eb (i:=(E:Int).toNat) cO;obtain⟨aeY,rfl,aeZ⟩:=aq6.2 _ _ _ CP FU;refine⟨λW w'=>W=.bool (l9 aie)/\St w aX [bW V (j0 (⟨bK,J,O,M,aZ,U⟩:bO))] w',aA jB (aB rz u.hb rfl (aQ tT (G.ext u.aG) cO CP λ_ zN=>bX aie.at_ JU zN rfl rfl λ_ xR=>aD bL xR (aW SA u (C199 _ _) λ_ he u=>bT (bD (λ_=>⟨vb (by unfold l9;grind),u⟩) λre=>?_)))),?_⟩
  .refine aA jB (aB rz u.hb rfl (aQ tT (G.ext u.aG) cO CP λ_ By=>bX aeY vQ By rfl rfl λ_ MQ=>aD jC MQ ?_));have axX:=DL.flat aeZ;exact aW LZ u (C200 _ _ _ (axX.ext u.aG) (B.zc _ (kE FU)).1 (B.zc _ (kE FU)).2) (λ_ _ u=>bT ⟨vb (by unfold l9;grind),u⟩)
  rintro _ _ ⟨rfl,u⟩ _;refine bD (λvn=>?_) (λvn=>aO cO ⟨_,cO,E+1,rfl,rfl,cO,eh QD FU vn,u⟩);refine⟨vb ?_,u.drop.aG⟩;unfold kH;rw[iw FU vn];simp
 .refine aA qG (aB jT u.hb rfl ?_);have axY:=DL.flat dK;refine aW XI u (C198 _ _ _ _ (axY.ext u.aG) (by have:=B.iY;omega) B.zv) (λ_ he u=>bD (λS9=>?_) λ_=>⟨vb dI,u⟩);refine aA ou (aB jT u.hb rfl ?_);have aka:=DL.flat dB;refine aW XI u (C198 _ _ _ _ (aka.ext u.aG) (by have:=B.eS;omega) B.zk) (λ_ he u=>bD (λc_x59=>aA kR (aB iJ u.hb rfl (aW ahh u (C201 _ _ true _ (cE.ext u.aG) (by have:=B.threads;omega) λ_ ht=>B.rB (List.mem_append_left _ ht)) λ_ he u=>bD (λvp=>aA po (aB iJ u.hb rfl (aW ahh u (C201 _ _ false _ (cG.ext u.aG) (by have:=B.recover;omega) λ_ ht=>B.rB (List.mem_append_right _ ht)) λ_ he u=>bD (λahI=>?_) λ_=>⟨vb dI,u⟩))) λ_=>⟨vb dI,u⟩))) λ_=>⟨vb dI,u⟩)
  refine aA po (aB iJ u.hb rfl ?_);obtain⟨ts17,axZ,ax0⟩:=cG.open;have hn17:=ax0.1;exact aK fF (axZ.ext u.aG) (gz ⟨vb dI,u⟩)
 rintro _ _ ⟨rfl,u⟩ _;refine⟨vb ?_,u.drop.aG⟩;unfold kH;rw[iL (by rw[kO cO]at I;exact I),iL (by rw[kO cO]at QD;exact QD)];rfl
def C63(p:bZ)(pv:bO)(w:World)(hp:mi w pv p)(V:PZ p):CR 63 [ir pv] w (λv w'=>kq (bE v (eV p)) w w'):=by
 obtain⟨U,O,I,G,E,M,rfl,cW,dK,dB,Z,cG,cU⟩:=hp;have u:=St.start w;refine fj Tryz.func63 ?_;refine cM u (λkF W u=>aV ([]:List Int) u cS rfl rfl (dQ rfl) λae0 _ u=>aD er u.p1.At (dV U3 u (C59 p _ _ ⟨U,O,I,G,E,M,rfl,cW.ext u.aG,dK.ext u.aG,dB.ext u.aG,Z.ext u.aG,cG.ext u.aG,cU.ext u.aG⟩ V.toPS) λx8 _ cI u=>?_));have u:=u.p2.p1.p2;refine⟨λm y x W=>∃k:Nat,x=hZ (k:Int)/\m=(iE p).length-k/\k<=(iE p).length/\St w aX [bE y (((iE p).take k).map cN.n),bE x8 (iE p),bW kF (j0 (⟨U,O,I,G,E,M⟩:bO))] W,⟨_,0,rfl,rfl,cO,u⟩,?_⟩
 rintro m nI _ _ ⟨k,rfl,rfl,hk,u⟩ _;have hac:=lj V.toPS;have D1:(((iE p).take k).map cN.n).length=k:=by rw[nc,l1];omega
 refine aK iD u.p1.dW (aR (aC (λlG=>?_) λlG=>?_))
 .obtain⟨Y,J⟩:=gx (iE p) (i:=(k:Int).toNat) cO;refine dT u.p1 iD cO cO (λ_ sU=>mL sJ sU λ_ l8=>nY Y.n u.p1 bL l8 J rfl (aV ([Y.n]:List Int) u cS rfl rfl (dQ rfl) λaq7 _ u=>?_));have B:=u.dW;exact bI u.p1 cS B (by simp<;>omega) ee (λ_ _ u=>have u:=u.p1.drop;aO cO (have u:=u.p2.p2.p2;⟨_,cO,k+1,rfl,rfl,cO,by rw[<- gy (k:=k) J];exact u⟩))
 have u:=u.p1.drop.p1.drop;rw[kO cO]at u;exact u.fresh
def C124(p:bZ)(pv:bO)(w:World)(O:mi w pv p)(B:PZ p):CR 124 [ir pv] w (λv w'=>kq (bE v (cX p)) w w'):=by
 obtain⟨V,U,J,I,G,M,rfl,Y,dK,W,E,cG,Z⟩:=O;have u:=St.start w;refine fj Tryz.func124 ?_;exact cM u (λ_ _ u=>aD er u.At (dV U3 u (C59 p _ _ ⟨V,U,J,I,G,M,rfl,Y.ext u.aG,dK.ext u.aG,(W).ext u.aG,E.ext u.aG,cG.ext u.aG,Z.ext u.aG⟩ B.toPS) λ_ _ _ u=>dV XJ u (C202 _ _ _ u.dW (by have:=lj B.toPS;omega)) λ_ _ _ u=>have u:=u.p1.drop.p1.drop;u.fresh))
def C125(p:bZ)(pv:bO)(w:World)(E:mi w pv p)(G:PZ p):CR 125 [ir pv] w (λv w'=>kq (bE v (cP p)) w w'):=by
 obtain⟨Y,W,U,O,M,V,rfl,cW,dK,I,J,cG,cU⟩:=E;have u:=St.start w;refine fj Tryz.func125 ?_;refine cM u (λZ _ u=>aA ou (aB jT u.hb rfl ?_));have B:=DL.flat I;exact dV XJ u (C202 _ _ _ (B.ext u.aG) (by have:=G.eS;omega)) (λ_ _ _ u=>have u:=u.p1.drop;u.fresh)
def C62(p:bZ)(pv:bO)(w:World)(W:mi w pv p)(E:PZ p):CR 62 [ir pv] w (λv w'=>v=hZ (eH p)/\Ext w w'):=by
 obtain⟨Z,Y,U,O,M,V,rfl,cW,G,dB,I,cG,cU⟩:=W;have u:=St.start w;refine pj Tryz.func62 (pl:=P62) ?_;refine cM u (λkF _ u=>have u:=u.drew;aD er u.At (aA qG (aB jT u.hb rfl ?_)));have B:=DL.flat G;refine aK iD (B.ext u.aG) (dV U3 u (C59 p _ _ ⟨Z,Y,U,O,M,V,rfl,cW.ext u.aG,G.ext u.aG,dB.ext u.aG,I.ext u.aG,cG.ext u.aG,cU.ext u.aG⟩ E.toPS) λx4 _ cI u=>?_);refine⟨aF jT (u.p1.hb.cell rfl),?_⟩
 refine aK iD u.dW ?_;have hac:=lj E.toPS;have J:=E.iY;exact ft cO (have u:=u.drop.drop;⟨g6 (nG .i64) (Zs p),u.aG⟩)
theorem Zu{l:List cN}{r:List (List cN)}{i a:Int}(h:¬ a<l.length):jy (l::r) i a=jy r (i+1) (a-l.length):=by rw[jy,ej h]
def Zv{x:bR}{n m:Int}(u:1<=n/\n<=64)(h:x.kind=12->1<=x.n/\x.n<=8)(B:m=rO x n):1<=m/\m<=512:=by
 rw[B];unfold rO
 split
 .rename_i hk
  have:=h hk
  have h1:=JO (a:=1) (b:=1) u.1 this.1 cO cO
  have h2:=JO (c:=64) (d:=8) u.2 this.2 cO cO
  omega
 omega
theorem Bk.Ev{t:Bk}(h:¬ (t.flat.length:Int)=0):∃x a b r,t=.cons x a b r:=by
 cases t with
 | nil=>exact absurd rfl h
 | cons x a b r=>grind
theorem Bk.DZ{x:bR}{a b r:Bk}(h:(Bk.cons x a b r).str){hi lo:Int}(h1:hi=1+x.body+x.eG)(h2:lo=1):((Bk.cons x a b r).flat.take hi.toNat).drop lo.toNat=(a.app b).flat:=by
 obtain⟨E,u,_⟩:=h
 have B:=a.dC
 have lb:=b.dC
 rw[Bk.BF,vY _ (a:=1) (n:=(a.flat++b.flat).length) dI cO]
 grind[flat]
theorem Bk.akd{x:bR}{a b r:Bk}(h:(Bk.cons x a b r).str){hi:Int}(h1:hi=1+x.body+x.eG):(Bk.cons x a b r).flat.drop hi.toNat=r.flat:=by
 obtain⟨E,u,_⟩:=h
 have B:=a.dC
 have lb:=b.dC
 have e:(Bk.cons x a b r).flat=(x::(a.flat++b.flat))++r.flat:=by simp[Bk.flat]
 rw[e,show hi.toNat=(x::(a.flat++b.flat)).length from by simp;omega,FT]
theorem yT{l:List cN}{k:Nat}{c:cN}(h:l[k]?=some c):Et l k=decide (dA (l.map cN.name) c.name<k):=by unfold Et;rw[h]
theorem BG{p:bZ}{l:List ByteArray}{k:Nat}{c:ByteArray}(h:l[k]?=some c):Tq p l k=(decide (dA l c<k)||decide (0<=dA (cX p) c)||decide (0<=dA (cP p) c)):=by unfold Tq;rw[h]
theorem Ew(a b:Bk):(a.app b).len=a.len+b.len:=by rw[<- Bk.dC,Bk.BF,lr,Bk.dC,Bk.dC]
def C60(p:bZ)(pv:bO)(c:Int)(w:World)(hp:mi w pv p)(hz:PZ p):CR 60 [ir pv,hZ c] w (λv w'=>v=hZ (qd p c)/\Ext w w'):=by
 obtain⟨bK,bV,Z,Y,W,bH,rfl,cW,dK,dB,cE,cG,cU⟩:=hp;have u:=St.start w;refine fj Tryz.func60 ?_;refine cM u (λI w1 u=>⟨λjv w'=>jv=.bool (decide (c<0)||decide (((iE p).length:Int)<=c))/\St w aX [bW I (j0 (⟨bK,bV,Z,Y,W,bH⟩:bO))] w',aR (aC (λ_=>⟨vb dI,u⟩) λ_=>aD er u.At (dV U3 u (C59 p _ _ ⟨bK,bV,Z,Y,W,bH,rfl,cW.ext u.aG,dK.ext u.aG,dB.ext u.aG,cE.ext u.aG,cG.ext u.aG,cU.ext u.aG⟩ hz.toPS) λ_ _ _ u=>aK iD u.dW (cT (have u:=u.drop;⟨vb dI,u⟩)))),?_⟩)
 rintro _ _ ⟨rfl,u⟩ _;have hac:=lj hz.toPS;refine bD (λjx=>?_) (λjx=>?_)
 .refine⟨g6 (nG .i64) ?_,u.drop.aG⟩;unfold qd;rw[ew dI]
 have hc2:0<=c/\c<(iE p).length:=dI
 refine⟨λm y x w1=>∃(k:Nat) (a:Int),y=hZ a/\x=hZ (k:Int)/\m=p.lines.length-k/\k<=p.lines.length/\0<=a/\a<=c/\jy p.lines 0 c=jy (p.lines.drop k) k a/\St w aX [bW I (j0 (⟨bK,bV,Z,Y,W,bH⟩:bO))] w1,⟨_,0,c,rfl,rfl,rfl,cO,cO,cO,rfl,u⟩,?_⟩;rintro m _ _ _ ⟨k,a,rfl,rfl,rfl,hk,ha0,hac1,B,u⟩ _;have hzl:=hz.lines;refine aA gL (aB pk u.hb rfl ?_);obtain⟨aq9,J,E⟩:=cW.open;have ax3:=E.1;refine aK ql (J.ext u.aG) (aR (aC (λlg=>?_) λlg=>?_))
 .refine aA gL (aB pk u.hb rfl ?_);obtain⟨U,QE⟩:=gx aq9 (i:=(k:Int).toNat) cO;obtain⟨M,V⟩:=gx p.lines (i:=(k:Int).toNat) cO;have O:DL w (ir U) M:=E.2 _ _ _ QE V;refine aQ ql (J.ext u.aG) cO QE (λ_ FH=>aD jT FH ?_);have G:=DL.flat O;refine aK iD (G.ext u.aG) (aR (aC (λmz=>?_) λmz=>?_))
  .refine⟨g6 (nG .i64) ?_,u.drop.aG⟩;rw[drop_cons (k:=k) V]at B;unfold qd;rw[ej cO,B];unfold jy;rw[ew cO]
  refine aA gL (aB pk u.hb rfl (aQ ql (J.ext u.aG) cO QE λ_ xS=>aD jT xS (aK iD (G.ext u.aG) (ft cO (aO cO ?_)))));rw[drop_cons (k:=k) V,Zu cO]at B;exact⟨_,cO,k+1,_,rfl,rfl,rfl,cO,cO,cO,B,u⟩
 refine aA gL (aB pk u.hb rfl (aK ql (J.ext u.aG) (aO cO ?_)));refine⟨g6 (nG .i64) ?_,u.drop.aG⟩;rw[v9 cO]at B;unfold qd;rw[ej cO,B];unfold jy;omega
def C127(lv O:Value)(xs:List cC)(ns:List ByteArray)(w:World)(G:dD (λ_=>True) w lv xs)(Y:dD (λ_=>True) w O ns)(hn:xs.length<=1048576)(Cp:ns.length<=1048576)(te:∀y∈xs,0<=y.at_):CR 127 [lv,O] w (λv w'=>∃a:Int,v=hZ a/\decide (0<=a)=pK xs ns/\Ext w w'):=by
 have u:=St.start w;refine fj Tryz.func127 ?_;refine⟨λm x M=>∃k:Nat,x=hZ (k:Int)/\m=xs.length-k/\k<=xs.length/\(∀y∈xs.take k,(decide (y.op=2)&&decide (dA ns y.name<0))=false)/\St w aX [] M,⟨_,0,rfl,rfl,l0 _,ei,u⟩,?_⟩;rintro m _ M ⟨k,rfl,rfl,hk,I,u⟩ _;refine aK il (G.ext u.aG) (aR (aC (λW=>?_) λW=>?_))
 .obtain⟨E,B⟩:=gx xs (i:=(k:Int).toNat) cO;refine⟨λZ w'=>Z=.bool (decide (E.op=2)&&decide (dA ns E.name<0))/\St w aX [] w',aQ il (G.ext u.aG) cO B (λ_ V=>bX E.op fm V rfl rfl λ_ vg=>aD bL vg (aH (aC (λ_=>aQ il (G.ext u.aG) cO B λ_ BB=>bX E.name gC BB rfl rfl λ_ q8=>aD gK q8 (aW sD u (C123 _ ns _ _ (Y.ext u.aG) cO) λ_ _ u=>aR ⟨vb dI,u⟩)) λ_=>⟨vb dI,u⟩))),?_⟩;rintro _ _ ⟨rfl,u⟩ _;exact bD (λJ=>aQ il (G.ext u.aG) cO B λ_ mO=>bX E.at_ sL mO rfl rfl λ_ U=>aD bL U ⟨_,rfl,by unfold pK;rw[iw B J];exact ez (te _ (kE B)),u.aG⟩) (λJ=>aO cO ⟨_,cO,k+1,rfl,rfl,cO,eh I B J,u⟩)
 rw[kO cO]at I;exact⟨_,rfl,by unfold pK;rw[iL I];rfl,u.aG⟩
theorem C121(lv:Value)(t:Bk)(n:Int)(N:Nat)(w:World)(hL:DL w lv t.flat)(W:t.str)(hq:∀x∈t.flat,0<=x.at_/\(x.kind=12->1<=x.n/\x.n<=8))(U:1<=n/\n<=64)(hl:t.len<=1048576)(hN:t.len<N):CR 121 [lv,hZ n] w (λv w'=>∃a:Int,v=hZ a/\decide (0<=a)=mS t n/\Ext w w'):=by
 have uD:=t.dC;have u:=St.start w;refine fj Tryz.func121 ?_;obtain⟨ax4,J,E⟩:=hL.open;have hn22:=E.1;refine aK fB (J.ext u.aG) (aH (aC (λjJ=>?_) λjJ=>?_))
 .cases t with
  | nil=>exact⟨_,rfl,rfl,u.aG⟩
  | cons x a b r=>exact absurd uD (by rw[show(Bk.cons x a b r).len=a.len+b.len+r.len+1 from rfl];omega)
 obtain⟨x,a,b,r,rfl⟩:=Bk.Ev (t:=t) cO;obtain⟨vf,vU⟩:=gx ax4 (i:=(0:Int).toNat) cO;obtain⟨B,Zx⟩:=gx ((Bk.cons x a b r).flat) (i:=(0:Int).toNat) cO;obtain⟨Ts,Tt,rfl,avk,avl⟩:=E.2 _ _ _ vU Zx;refine aQ fB (J.ext u.aG) cO vU (λ_ Fs=>?_);obtain rfl:B=x:=(n5.inj Zx).symm;have I:=hq B (by simp[Bk.flat]);have Zy:=W;obtain⟨Cs,Hi,VB,hg4,Z,hgb,hgr⟩:=Zy;have Hj:a.len+b.len+r.len+1<=1048576:=hl;have hNn:a.len+b.len+r.len+1<N:=hN;have hla:=a.dC;have MS:=b.dC;have hlr:=r.dC
 have Zw:(Bk.cons B a b r).flat.length=a.len+b.len+r.len+1:=Bk.dC _;refine aD eU Fs (aN u jD λKi _ u=>aJ (x:=(⟨B.kind,B.eN,B.name,Ts,Tt,B.n,B.body,B.eG,B.at_⟩:bF)) u eU rfl rfl λ_ u=>⟨λjv w'=>∃m:Int,jv=hZ m/\m=rO B n/\St w aX [bW Ki (j0 (⟨B.kind,B.eN,B.name,Ts,Tt,B.n,B.body,B.eG,B.at_⟩:bF))] w',aA dU (aB (v:=hZ B.kind) bL u.hb rfl (aH (aC (λl6=>aA jX (aB (v:=hZ B.n) bL u.hb rfl (El (by have VC:=I.2 l6;have h1:=JO (a:=1) (b:=1) U.1 VC.1 cO cO;have h2:=JO (c:=64) (d:=8) U.2 VC.2 cO cO;omega) ⟨_,rfl,by grind[rO],u⟩))) λ_=>⟨_,rfl,by grind[rO],u⟩))),?_⟩)
 rintro _ _ ⟨m,rfl,M,u⟩ _;have hm8:=Zv U I.2 M;refine cQ (aC (λ_=>aA lW (aB (v:=hZ B.at_) bL u.hb rfl ⟨_,rfl,by unfold mS;rw[<- M,ez (show(64:Int)<m by omega)];exact ez I.1,u.drop.aG⟩)) λn7=>aA jh (aB (v:=hZ B.body) bL u.hb rfl (aO cO (aA iQ (aB (v:=hZ B.eG) bL u.hb rfl (aO cO (oX fB (J.ext u.aG) cO cO cO λard ake=>?_)))))));have Y:=DL.cut ake J E;refine dO XG (C121 _ (a.app b) m (N-1) _ (by have h:=Y.ext u.aG;rw[Bk.DZ W cO cO]at h;exact h) (Bk.Tp Z hgb) (λy O=>hq y (by rw[Bk.BF]at O;simp only[Bk.flat,sl,o8];rcases o8.1 O with h|h<;>simp[h])) cO (by rw[Ew];omega) (by rw[Ew];omega)) ?_
 rintro _ _ ⟨a1,rfl,G,he⟩;have u:=u.ext he;rw[Iz]at G;refine cT (aC (λV=>⟨_,rfl,by unfold mS;rw[<- M];rw[ez V]at G;rw[<- G,ez V];simp,u.drop.aG⟩) λV=>Ad fB (J.ext u.aG) cO cO λaih akg=>?_);have akh:=DL.Yp akg J E;refine dO XG (C121 _ r n (N-1) _ (by have h:=akh.ext u.aG;rw[Bk.akd W cO]at h;exact h) hgr (λy O=>hq y (by simp[Bk.flat,O])) U cO cO) ?_;rintro _ _ ⟨a2,rfl,ha2,he⟩;have u:=u.ext he;exact⟨_,rfl,by unfold mS;rw[<- M];rw[<- G,ha2,fV (show ¬ (64:Int)<m by omega),fV V];rfl,u.drop.aG⟩
termination_by N
decreasing_by all_goals omega
def C120(p:bZ)(pv:bO)(B E:List cL)(w:World)(J:mi w pv p)(h3:dD (λ_=>True) w (ir pv.threads) B)(h4:dD (λ_=>True) w (ir pv.recover) E)(V:B.length<=500)(G:E.length<=500):CR 120 [ir pv] w (λv w'=>kq (bE v (B++E)) w w'):=by
 obtain⟨bK,bV,bM,Z,Y,bH,rfl,cW,dK,dB,W,cG,cU⟩:=J;have u:=St.start w;refine fj Tryz.func120 ?_;refine cM u (λkF _ u=>aV ([]:List cL) u fF rfl rfl (dQ rfl) λM _ u=>aA kR (aB iJ u.p1.hb rfl ?_));have I:=(h3.ext u.aG);refine bI u fF I (by simp<;>omega) ee (λO _ u=>aA po (aB iJ u.p1.hb rfl ?_));have U:=(h4.ext u.aG);exact bI u fF U (by simp;omega) ee (λ_ _ u=>have u:=u.p1.drop;u.fresh)
def C122(p:bZ)(pv:bO)(w:World)(hp:mi w pv p)(B:PZ p)(te:∀c∈fW p,0<=c.at_):CR 122 [ir pv] w (λv w'=>∃a:Int,v=hZ a/\decide (0<=a)=kJ (fW p)/\Ext w w'):=by
 obtain⟨V,U,M,J,I,O,rfl,cW,dK,dB,cE,cG,cU⟩:=hp;have u:=St.start w;refine adC _ _ _ ?_;unfold S122;refine cM u (λkF W u=>aV ([]:List cN) u iD rfl rfl (dQ rfl) λae5 _ u=>aD er u.p1.At (dV U3 u (C59 p _ _ ⟨V,U,M,J,I,O,rfl,cW.ext u.aG,dK.ext u.aG,dB.ext u.aG,cE.ext u.aG,cG.ext u.aG,cU.ext u.aG⟩ B.toPS) λx9 _ cI u=>?_));have aki:=u.dW;refine bI u.p1 iD aki (by simp;have:=lj B.toPS;omega) ee (λapR _ u=>have u:=u.p1.drop;aA ou (aB jT u.p1.hb rfl ?_))
 have ax7:=DL.flat dB;have jj:=(ax7.ext u.aG);refine bI u iD jj (by simp;have:=lj B.toPS;have:=B.eS;omega) ee (λs_x14 _ u=>?_);have u:=u.p1.p1;refine⟨λm y x W=>∃k:Nat,x=hZ (k:Int)/\m=p.threads.length-k/\k<=p.threads.length/\St w aX [bE y (iE p++p.eS++(p.threads.take k).map λt=>(⟨t.name,0,t.at_⟩:cN)),bW kF (j0 (⟨V,U,M,J,I,O⟩:bO))] W,⟨_,0,rfl,rfl,cO,by simpa using u⟩,?_⟩;rintro m l3 _ _ ⟨k,rfl,rfl,hk,u⟩ _;have hzt:=B.threads;refine aA kR (aB iJ u.p1.hb rfl ?_)
 obtain⟨Y,Z,VD⟩:=cE.open;have ax8:=VD.1;refine aK fF (Z.ext u.aG) (aR (aC (λfE=>?_) λfE=>?_))
 .refine aA kR (have u:=u.drew;aB iJ u.p1.hb rfl ?_);obtain⟨e_x26,QG⟩:=gx Y (i:=(k:Int).toNat) cO;obtain⟨G,Zz⟩:=gx p.threads (i:=(k:Int).toNat) cO;obtain⟨akk,akl,rfl,akm,akn⟩:=VD.2 _ _ _ QG Zz;refine aQ fF (Z.ext u.aG) cO QG (λ_ xN=>bX G.name qR xN rfl rfl λ_ sW=>aD gK sW (aA kR (aB iJ u.p1.hb rfl (aQ fF (Z.ext u.aG) cO QG λ_ xX=>bX G.at_ qS xX rfl rfl λ_ rN=>aD bL rN (pop (Fa _ _) (aV ([(⟨G.name,0,G.at_⟩:cN)]) u iD rfl rfl (dQ rfl) λare _ u=>?_))))))
  have ako:=u.dW;exact bI u.p1 iD ako (by have:=lj B.toPS;have:=B.eS;have:=B.threads;simp;omega) ee (λ_ _ u=>have u:=u.p1.drop;aO cO (have u:=u.p1.p1;⟨_,cO,k+1,rfl,rfl,cO,by rw[<- gy (k:=k) Zz,<- nK];exact u⟩))
 rw[kO cO]at u;have Is:=Vx B.toPS;have u:St w aX [bE l3 (fW p),bW kF (j0 (⟨V,U,M,J,I,O⟩:bO))] _:=u;refine dV XJ u (C202 _ _ _ u.dW cO) (λx39 _ cI u=>?_);have u:=u.p2.p2.p2;refine⟨λm x W=>∃k:Nat,x=hZ (k:Int)/\m=(fW p).length-k/\k<=(fW p).length/\(∀j,j<k->Et (fW p) j=false)/\St w aX [bE x39 ((fW p).map cN.name),bE l3 (fW p),bW kF (j0 (⟨V,U,M,J,I,O⟩:bO))] W,⟨_,0,rfl,rfl,cO,ei,u⟩,?_⟩
 rintro m _ _ ⟨k,rfl,rfl,hk,eO,u⟩ _;refine aK iD u.p1.dW (aR (aC (λwF=>?_) λ_=>have u:=u.drop.drop.drop;⟨_,rfl,by unfold kJ;rw[No λj _=>eO j cO];rfl,u.aG⟩));obtain⟨FV,E⟩:=gx (fW p) (i:=(k:Int).toNat) cO;exact dT u.p1 iD cO cO (λ_ FW=>mL kZ FW λ_ ZA=>nY FV.name u.p1 gK ZA E rfl (aW sD u (C123 _ ((fW p).map cN.name) _ _ u.dW (by rw[nc];omega)) λ_ _ u=>aR (aC (λBH=>dT u.p1 iD cO cO λ_ FX=>mL va FX λ_ BI=>nY FV.at_ u.p1 bL BI E rfl (have u:=u.drop.drop.drop;⟨_,rfl,by unfold kJ;rw[Np (j:=k) cO (by rw[yT (k:=k) E];exact ez BH)];exact ez (te _ (kE E)),u.aG⟩)) λBH=>aO cO ⟨_,cO,k+1,rfl,rfl,cO,Tr eO (by rw[yT (k:=k) E];exact fV BH),u⟩)))
def C126(p:bZ)(pv:bO)(t:cR)(tv:cL)(x:bR)(xv:bF)(w:World)(hp:mi w pv p)(ht:mi w tv t)(hx:mi w xv x)(hz:PZ p)(hzt:t.dY.length<=500)(hzx:SzS x)(W:0<=x.at_/\(∀y∈x.e,0<=y.at_)/\(∀y∈x.f,0<=y.at_)):CR 126 [ir pv,ir tv,ir xv] w (λv w'=>∃a:Int,v=hZ a/\decide (0<=a)=nD p t.dY x/\Ext w w'):=by
 obtain⟨V,U,M,J,I,O,rfl,cW,dK,dB,cE,cG,cU⟩:=hp;obtain⟨ma,mc,rfl,oe,tf⟩:=ht;obtain⟨wI,wJ,rfl,MR,Iq⟩:=hx;have D6:=mT hz.toPS;have Ag:(cP p).length<=500:=by unfold cP;rw[nc];exact hz.eS
 have u:=St.start w;refine pj Tryz.func126 (pl:=awM) ?_;refine cM u (λG _ u=>cM u λE _ u=>cM u λKi _ u=>⟨λB w'=>B=.bool (decide (¬ x.eN=⟨#[]⟩)&&decide (dA t.dY x.eN<0))/\St w aX [bW Ki (j0 (⟨x.kind,x.eN,x.name,wI,wJ,x.n,x.body,x.eG,x.at_⟩:bF)),bW E (j0 (⟨t.name,ma,mc,t.at_⟩:cL)),bW G (j0 (⟨V,U,M,J,I,O⟩:bO))] w',aA iP (aB (v:=.string x.eN) gK u.hb rfl (mn (aC (λjJ=>?_) λ_=>⟨vb dI,u⟩))),?_⟩)
 .refine aA fZ (aB jq u.p1.hb rfl ?_);have akr:=DL.flat oe;exact aA iP (aB (v:=.string x.eN) gK u.hb rfl (aW sD u (C123 _ t.dY _ _ (akr.ext u.aG) cO) λ_ _ u=>aR ⟨vb dI,u⟩))
 rintro _ _ ⟨rfl,u⟩ _;refine bD (λ_=>aA lW (aB (v:=hZ x.at_) bL u.hb rfl (have u:=u.drop.drop.drop;⟨_,rfl,by rw[ez W.1];unfold nD;grind,u.aG⟩))) (λfE=>have u:=u.drew;aD er u.p2.At (aA gw (aB (v:=.string x.name) gK u.hb rfl (dV LW u (C124 p _ _ ⟨V,U,M,J,I,O,rfl,cW.ext u.aG,dK.ext u.aG,dB.ext u.aG,cE.ext u.aG,cG.ext u.aG,cU.ext u.aG⟩ hz) λx23 _ cI u=>?_))));refine⟨aF gK (u.p1.hb.cell rfl),?_⟩;refine aW sD u (C123 _ (cX p) _ _ u.dW cO) (λw7 he u=>⟨λw'=>(((decide (x.kind=2)||decide (x.kind=3)||decide (x.kind=4))&&decide (dA (cX p) x.name<0))||((decide (x.kind=5)||decide (x.kind=6))&&(decide (dA (cX p) x.name<0)||decide (eH p<=dA (cX p) x.name)))||((decide (x.kind=9)||decide (x.kind=10))&&decide (dA (cP p) x.name<0)))=false/\St w aX [bW Ki (j0 (⟨x.kind,x.eN,x.name,wI,wJ,x.n,x.body,x.eG,x.at_⟩:bF)),bW E (j0 (⟨t.name,ma,mc,t.at_⟩:cL)),bW G (j0 (⟨V,U,M,J,I,O⟩:bO))] w',aA dU (aB (v:=hZ x.kind) bL u.p1.hb rfl ⟨λB w'=>B=.bool (decide (x.kind=2\/x.kind=3\/x.kind=4))/\w7=w',aH (aC (λ_=>⟨zi cO,rfl⟩) λ_=>aH (aC (λ_=>⟨zi cO,rfl⟩) λ_=>aH ⟨zi cO,rfl⟩)),?_⟩),?_⟩)
 .rintro _ _ ⟨rfl,Y⟩ _;subst Y;refine aC (λ_=>aR (aC (λ_=>aA lW (aB (v:=hZ x.at_) bL u.p1.hb rfl (have u:=u.drop.drop.drop.drop;⟨_,rfl,by rw[ez W.1];unfold nD;grind,u.aG⟩))) λ_=>have u:=u.drop.p2.p2.p2;⟨dI,u⟩)) (λaii=>⟨λB w'=>B=.bool (decide (x.kind=5\/x.kind=6))/\w7=w',aH (aC (λ_=>⟨zi cO,rfl⟩) λ_=>aH ⟨zi cO,rfl⟩),?_⟩);rintro _ _ ⟨rfl,Y⟩ _;subst Y;refine aC (λpH=>⟨λB w'=>B=.bool (decide (dA (cX p) x.name<0)||decide (eH p<=dA (cX p) x.name))/\St w aX [bE x23 (cX p),bW Ki (j0 (⟨x.kind,x.eN,x.name,wI,wJ,x.n,x.body,x.eG,x.at_⟩:bF)),bW E (j0 (⟨t.name,ma,mc,t.at_⟩:cL)),bW G (j0 (⟨V,U,M,J,I,O⟩:bO))] w',aR (aC (λ_=>⟨vb dI,u⟩) λ_=>aD er u.p3.At (aW JI u (C62 p _ _ ⟨V,U,M,J,I,O,rfl,cW.ext u.aG,dK.ext u.aG,dB.ext u.aG,cE.ext u.aG,cG.ext u.aG,cU.ext u.aG⟩ hz) λ_ _ u=>cT ⟨vb dI,u⟩)),?_⟩) (λpH=>⟨λB w'=>B=.bool (decide (x.kind=9\/x.kind=10))/\w7=w',aH (aC (λ_=>⟨zi cO,rfl⟩) λ_=>aH ⟨zi cO,rfl⟩),?_⟩)
  .rintro _ _ ⟨rfl,u⟩ _;exact bD (λ_=>aA lW (aB (v:=hZ x.at_) bL u.p1.hb rfl (have u:=u.drop.drop.drop.drop;⟨_,rfl,by rw[ez W.1];unfold nD;grind,u.aG⟩))) (λ_=>have u:=u.drop.p2.p2.p2;⟨dI,u⟩)
  rintro _ _ ⟨rfl,Y⟩ _;subst Y;exact aC (λ_=>have u:=u.drew;aD er u.p3.At (aA gw (aB (v:=.string x.name) gK u.p1.hb rfl (dV Sw u (C125 p _ _ ⟨V,U,M,J,I,O,rfl,cW.ext u.aG,dK.ext u.aG,dB.ext u.aG,cE.ext u.aG,cG.ext u.aG,cU.ext u.aG⟩ hz) λ_ _ _ u=>⟨aF gK (u.p2.hb.cell rfl),aW sD u (C123 _ (cP p) _ _ u.dW cO) λ_ _ u=>aR (aC (λ_=>aA lW (aB (v:=hZ x.at_) bL u.p2.hb rfl (have u:=u.drop.drop.drop.drop.drop;⟨_,rfl,by rw[ez W.1];unfold nD;grind,u.aG⟩))) λ_=>have u:=u.drop.drop.p2.p2.p2;⟨dI,u⟩)⟩)))) (λ_=>have u:=u.drop.p2.p2.p2;⟨dI,u⟩)
 rintro _ ⟨hmid,u⟩ _;refine aA jg (aB jC u.hb rfl ?_);have ax9:=DL.flat MR;refine aA fZ (aB jq u.p1.hb rfl ?_);have Z:=DL.flat oe;refine dO XH (C127 _ _ _ _ _ (ax9.ext u.aG) (Z.ext u.aG) hzx.2.2.1 cO W.2.1) ?_;rintro _ _ ⟨a_x65,rfl,aya,he⟩;have u:=u.ext he;refine cT (aC (λ_=>have u:=u.drop.drop.drop;⟨_,rfl,by unfold nD;grind,u.aG⟩) λxG=>aA km (aB jC u.hb rfl ?_));have ayb:=DL.flat Iq;refine aA fZ (aB jq u.p1.hb rfl (dO XH (C127 _ _ _ _ _ (ayb.ext u.aG) (Z.ext u.aG) hzx.2.2.2.1 cO W.2.2) ?_))
 rintro _ _ ⟨a_x73,rfl,ayc,he⟩;have u:=(((u.ext he).drop).drop).drop;exact⟨_,rfl,by unfold nD;grind,u.aG⟩
def C119(p:bZ)(pv:bO)(w:World)(hp:mi w pv p)(V:PZ p):CR 119 [ir pv] w (λv w'=>v=.bool (vm p)/\Ext w w'):=by
 obtain⟨bK,bV,bM,aY,aZ,bH,rfl,cW,dK,dB,cE,cG,cU⟩:=hp;have u:=St.start w;refine fj Tryz.func119 ?_;refine cM u (λkF W u=>?_);refine⟨λm x W=>∃k:Nat,x=hZ (k:Int)/\m=p.lines.length-k/\k<=p.lines.length/\(∀y∈p.lines.take k,decide (4<(y.length:Int))=false)/\St w aX [bW kF (j0 (⟨bK,bV,bM,aY,aZ,bH⟩:bO))] W,⟨_,0,rfl,rfl,l0 _,ei,u⟩,?_⟩;rintro m _ _ ⟨k,rfl,rfl,hk,Y,u⟩ _;have hzl:=V.lines;refine aA gL (aB pk u.hb rfl ?_)
 obtain⟨ayd,G,M⟩:=cW.open;have hn29:=M.1;refine aK ql (G.ext u.aG) (aR (aC (λgW=>?_) λgW=>?_))
 .refine aA gL (aB pk u.hb rfl ?_);obtain⟨YT,oK⟩:=gx ayd (i:=(k:Int).toNat) cO;obtain⟨sZ,pJ⟩:=gx p.lines (i:=(k:Int).toNat) cO;have ari:DL w (ir YT) sZ:=M.2 _ _ _ oK pJ;refine aQ ql (G.ext u.aG) cO oK (λ_ Bt=>aD jT Bt ?_);have aye:=DL.flat ari;refine aK iD (aye.ext u.aG) (cQ (aC (λfE=>?_) λfE=>aO cO ⟨_,cO,k+1,rfl,rfl,cO,eh Y pJ (fV fE),u⟩));have u:=u.drop;refine⟨vb ?_,u.aG⟩;unfold vm;rw[iw pJ (ez cO)];rfl
 refine aD er u.At ?_;obtain⟨I,E,O⟩:=cE.open;have hn31:=O.1;obtain⟨U,ayf,J⟩:=cG.open;have hn32:=J.1;refine dO ag8 (C120 p _ I U _ ⟨bK,bV,bM,aY,aZ,bH,rfl,cW.ext u.aG,dK.ext u.aG,dB.ext u.aG,cE.ext u.aG,cG.ext u.aG,cU.ext u.aG⟩ (E.ext u.aG) (ayf.ext u.aG) (by have:=V.threads;omega) (by have:=V.recover;omega)) ?_;rintro x21 _ cI;have u:=u.made cI;obtain⟨BJ,Nt⟩:∃t,t=I++U:=⟨_,rfl⟩;rw[<- Nt]at u;have QH:fT BJ (gE p) w:=by rw[Nt];exact fT.append O J
 have ayg:=QH.1;have aku:=Eu V.toPS;have u:=u.p1.p1;refine⟨λm x W=>∃B:Nat,x=hZ (B:Int)/\m=(gE p).length-B/\B<=(gE p).length/\(∀y∈(gE p).take B,decide (4<(y.dY.length:Int))=false)/\St w aX [bE x21 BJ,bW kF (j0 (⟨bK,bV,bM,aY,aZ,bH⟩:bO))] W,⟨_,0,rfl,rfl,l0 _,ei,u⟩,?_⟩;rintro m _ _ ⟨B,rfl,rfl,YI,QD,u⟩ _;refine aK fF u.dW (aR (aC (λjK=>?_) λjK=>⟨λjv w'=>jv=.bool (decide (4<(p.lines.length:Int))||decide (4<(p.iY.length:Int))||decide (2<(p.eS.length:Int))||decide ((p.threads.length:Int)<1)||decide (3<(p.threads.length:Int))||decide (4<(p.eb.length:Int)))/\St w aX [] w',aA gL (aB pk u.p1.hb rfl (aK ql (G.ext u.aG) (cQ (aC (λ_=>have u:=u.drop.drop;⟨vb dI,u⟩) λrQ=>?_)))),?_⟩))
 .obtain⟨rL,gD⟩:=gx BJ (i:=(B:Int).toNat) cO;obtain⟨aro,Z⟩:=gx (gE p) (i:=(B:Int).toNat) cO;obtain⟨FY,FZ,rfl,F4,F5⟩:=QH.2 _ _ _ gD Z;refine aQ fF u.dW cO gD (λ_ mO=>bX FY fZ mO rfl rfl λ_ tc=>aD jq tc ?_);have ayh:=DL.flat F4;refine aK iK (ayh.ext u.aG) (cQ (aC (λl4=>?_) λ_=>aO cO ⟨_,cO,B+1,rfl,rfl,cO,eh QD Z (fV cO),u⟩));have u:=u.drop.drop;refine⟨vb ?_,u.aG⟩;unfold vm;rw[iw Z (ez cO)];simp
 .refine aA qG (aB jT u.p1.hb rfl ?_);have ayi:=DL.flat dK;refine aK iD (ayi.ext u.aG) (cQ (aC (λ_=>have u:=u.drop.drop;⟨vb dI,u⟩) λwF=>aA ou (aB jT u.p1.hb rfl ?_)));have ayj:=DL.flat dB;refine aK iD (ayj.ext u.aG) (cQ (aC (λ_=>have u:=u.drop.drop;⟨vb dI,u⟩) λsR=>aA kR (aB iJ u.p1.hb rfl (aK fF (E.ext u.aG) (aR (aC (λ_=>have u:=u.drop.drop;⟨vb dI,u⟩) λS9=>aA kR (aB iJ u.p1.hb rfl (aK fF (E.ext u.aG) (cQ (aC (λ_=>have u:=u.drop.drop;⟨vb dI,u⟩) λahH=>aA jB (aB rz u.p1.hb rfl ?_)))))))))))
  obtain⟨ts36,ayk,ayl⟩:=cU.open;have hn36:=ayl.1;exact aK tT (ayk.ext u.aG) (cQ (have u:=u.drop.drop;⟨vb dI,u⟩))
 rintro _ _ ⟨rfl,u⟩ _;refine⟨vb ?_,u.aG⟩;unfold vm;rw[iL (by rw[kO cO]at Y;exact Y),iL (by rw[kO cO]at QD;exact QD)];rfl
def C57(p:bZ)(pv:bO)(w:World)(hp:mi w pv p)(B:PZ p):CR 57 [ir pv] w (λv w'=>∃a:Int,v=.tuple #[hZ (fg p),hZ a]/\Ext w w'):=by
 obtain⟨O,G,J,I,U,M,rfl,cW,dK,dB,cE,cG,cU⟩:=hp;have u:=St.start w;refine ajh _ _ _ ?_;unfold S57;refine cM u (λkF W u=>aD er u.At (aW aoC u (C118 p _ _ ⟨O,G,J,I,U,M,rfl,cW.ext u.aG,dK.ext u.aG,dB.ext u.aG,cE.ext u.aG,cG.ext u.aG,cU.ext u.aG⟩ B) λ_ he u=>bT (bD (λky=>have u:=u.drop;⟨_,g6 (λq=>EI #[hZ q,_]) (ce8 (by simpa using ky)).symm,u.aG⟩) λky=>?_)))
 have E:kH p=true:=by simpa using ky
 have hPF:=q9 E;refine aD er u.At (aW aoD u (C119 p _ _ ⟨O,G,J,I,U,M,rfl,cW.ext u.aG,dK.ext u.aG,dB.ext u.aG,cE.ext u.aG,cG.ext u.aG,cU.ext u.aG⟩ B) λ_ he u=>bD (λfE=>have u:=u.drop;⟨_,g6 (λq=>EI #[hZ q,_]) (ce2 E fE).symm,u.aG⟩) λfE=>aD er u.At ?_);obtain⟨arp,aym,arq⟩:=cE.open;have hn37:=arq.1;obtain⟨ars,ayn,art⟩:=cG.open;have hn38:=art.1;refine dO ag8 (C120 p _ arp ars _ ⟨O,G,J,I,U,M,rfl,cW.ext u.aG,dK.ext u.aG,dB.ext u.aG,cE.ext u.aG,cG.ext u.aG,cU.ext u.aG⟩ (aym.ext u.aG) (ayn.ext u.aG) (by have:=B.threads;omega) (by have:=B.recover;omega)) ?_
 rintro V _ cI;have u:=u.made cI;obtain⟨BJ,Nt⟩:∃t,t=arp++ars:=⟨_,rfl⟩;rw[<- Nt]at u;have QH:fT BJ (gE p) w:=by rw[Nt];exact fT.append arq art
 have ayg:=QH.1;have aku:=Eu B.toPS;have u:=u.p1.p1;refine⟨λm x W=>∃k1:Nat,x=hZ (k1:Int)/\m=(gE p).length-k1/\k1<=(gE p).length/\(∀y∈(gE p).take k1,rP y.body=false)/\St w aX [bE V BJ,bW kF (j0 (⟨O,G,J,I,U,M⟩:bO))] W,⟨_,0,rfl,rfl,l0 _,ei,u⟩,?_⟩;rintro m _ _ ⟨k1,rfl,rfl,Ss,akv,u⟩ _;refine aK fF u.dW (aR (aC (λjK=>?_) λjK=>?_))
 .obtain⟨rL,gD⟩:=gx BJ (i:=(k1:Int).toNat) cO;obtain⟨aro,xZ⟩:=gx (gE p) (i:=(k1:Int).toNat) cO;obtain⟨FY,FZ,rfl,F4,F5⟩:=QH.2 _ _ _ gD xZ;refine aQ fF u.dW cO gD (λ_ mO=>bX FZ lV mO rfl rfl λ_ tc=>aD jW tc ?_);obtain⟨aru,U5,tr,Y,akx,j7,_⟩:=lK (hPF.rB (kE xZ)).2.1;have uD:=g6 List.length Y;rw[Bk.dC]at uD;refine dO XG (C121 _ tr 1 (tr.len+1) _ (by rw[<- Y];exact(F5.ext u.aG)) akx (λy hy=>Kk (U5 y (by rw[Y];exact hy))) cO cO cO) ?_
  rintro _ _ ⟨wa,rfl,hwa,he⟩;have u:=u.ext he;exact cT (aC (λlI=>have u:=u.drop.drop;⟨_,g6 (λq=>EI #[hZ q,_]) (aq1 E fE (iw xZ (by rw[Y,vZ akx,<- hwa];exact ez lI))).symm,u.aG⟩) λlI=>aO cO (have u:=u.p1.p1;⟨_,cO,k1+1,rfl,rfl,cO,eh akv xZ (by rw[Y,vZ akx,<- hwa];exact fV lI),u⟩))
 rw[kO cO]at akv;have Z:(gE p).any (λt=>rP t.body)=false:=iL akv;refine aD er u.p1.At (dO aoE (C122 p _ _ ⟨O,G,J,I,U,M,rfl,cW.ext u.aG,dK.ext u.aG,dB.ext u.aG,cE.ext u.aG,cG.ext u.aG,cU.ext u.aG⟩ B hPF.decl) ?_);rintro _ _ ⟨a_x38,rfl,ZB,he⟩;have u:=u.ext he;refine cT (aC (λxM=>have u:=u.drop.drop;⟨_,g6 (λq=>EI #[hZ q,_]) (aq2 E fE Z (by rw[<- ZB];exact ez xM)).symm,u.aG⟩) λxM=>?_);have h10:kJ (fW p)=false:=by rw[<- ZB];exact fV xM
 have u:=u.p1.p1;refine⟨λm x W=>∃k2:Nat,x=hZ (k2:Int)/\m=(gE p).length-k2/\k2<=(gE p).length/\(∀y∈(gE p).take k2,vl p y.dY=false)/\St w aX [bE V BJ,bW kF (j0 (⟨O,G,J,I,U,M⟩:bO))] W,⟨_,0,rfl,rfl,l0 _,ei,u⟩,?_⟩;rintro m _ _ ⟨k2,rfl,rfl,xd,FJ,u⟩ _;refine aK fF u.dW (aR (aC (λNu=>?_) λNu=>?_))
 .obtain⟨e_x51,F6⟩:=gx BJ (i:=(k2:Int).toNat) cO;obtain⟨BK,Kl⟩:=gx (gE p) (i:=(k2:Int).toNat) cO;obtain⟨Ap,aky,rfl,QI,akz⟩:=QH.2 _ _ _ F6 Kl;have hzt2:=B.rB (kE Kl);refine⟨λm x W=>∃k3:Nat,x=hZ (k3:Int)/\m=BK.dY.length-k3/\k3<=BK.dY.length/\(∀j,j<k3->Tq p BK.dY j=false)/\St w aX [bE V BJ,bW kF (j0 (⟨O,G,J,I,U,M⟩:bO))] W,⟨_,0,rfl,rfl,l0 _,ei,u⟩,?_⟩;rintro m _ _ ⟨k3,rfl,rfl,hk3,arw,u⟩ _;refine aQ fF u.dW cO F6 (λ_ arx=>bX Ap fZ arx rfl rfl λ_ ZC=>aD jq ZC ?_)
  have akA:=DL.flat QI;refine aK iK (akA.ext u.aG) (aR (aC (λS9=>?_) λ_=>aO cO (have u:=u.p1.p1;⟨_,cO,k2+1,rfl,rfl,cO,eh FJ Kl (show vl p BK.dY=false from No λj _=>arw j cO),u⟩)));refine aQ fF u.dW cO F6 (λ_ ary=>bX Ap fZ ary rfl rfl λ_ ZD=>aD jq ZD ?_);obtain⟨tg,uI⟩:=gx BK.dY (i:=(k3:Int).toNat) cO;refine aQ iK (akA.ext u.aG) cO uI (λ_ FK=>aD gK FK ⟨λjv w'=>jv=.bool (decide (dA BK.dY tg<k3)||decide (0<=dA (cX p) tg)||decide (0<=dA (cP p) tg))/\St w aX [bE V BJ,bW kF (j0 (⟨O,G,J,I,U,M⟩:bO))] w',?_,?_⟩)
  .refine aQ fF u.dW cO F6 (λ_ arz=>bX Ap fZ arz rfl rfl λ_ Nv=>?_);exact aD jq Nv (aW sD u (C123 _ BK.dY _ _ (akA.ext u.aG) (by have:=mT B.toPS;have hk:(cP p).length<=500:=(by unfold cP;rw[nc];exact B.eS);omega)) λ_ _ u=>aR (aC (λ_=>have u:=u.p1.p1;⟨vb dI,u⟩) λ_=>aD er u.p1.At (dV LW u (C124 p _ _ ⟨O,G,J,I,U,M,rfl,cW.ext u.aG,dK.ext u.aG,dB.ext u.aG,cE.ext u.aG,cG.ext u.aG,cU.ext u.aG⟩ B) λ_ _ _ u=>aW sD u (C123 _ (cX p) _ _ u.dW (by have:=mT B.toPS;have hk:(cP p).length<=500:=(by unfold cP;rw[nc];exact B.eS);omega)) λ_ _ u=>cT (aC (λ_=>have u:=u.drop.p1.p1;⟨vb dI,u⟩) λ_=>aD er u.p2.At (dV Sw u (C125 p _ _ ⟨O,G,J,I,U,M,rfl,cW.ext u.aG,dK.ext u.aG,dB.ext u.aG,cE.ext u.aG,cG.ext u.aG,cU.ext u.aG⟩ B) λ_ _ _ u=>aW sD u (C123 _ (cP p) _ _ u.dW (by have:=mT B.toPS;have hk:(cP p).length<=500:=(by unfold cP;rw[nc];exact B.eS);omega)) λ_ _ u=>cT (have u:=u.drop.drop.p1.p1;⟨vb dI,u⟩))))))
  rintro _ _ ⟨rfl,u⟩ _;exact bD (λF7=>aQ fF u.dW cO F6 λ_ arA=>bX BK.at_ qS arA rfl rfl λ_ arB=>have u:=u.drew;aD bL arB (have u:=u.drop.drop;⟨_,g6 (λq=>EI #[hZ q,_]) (aic E fE Z h10 (iw Kl (show vl p BK.dY=true from Np (j:=k3) cO (by rw[BG (k:=k3) uI];exact F7)))).symm,u.aG⟩)) (λF7=>aO cO ⟨_,cO,k3+1,rfl,rfl,cO,Tr arw (by rw[BG (k:=k3) uI];exact F7),u⟩)
 rw[kO cO]at FJ;have akB:(gE p).any (λt=>vl p t.dY)=false:=iL FJ;have u:=u.p1.p1;refine⟨λm x W=>∃k5:Nat,x=hZ (k5:Int)/\m=(gE p).length-k5/\k5<=(gE p).length/\(∀y∈(gE p).take k5,y.body.any (nD p y.dY)=false)/\St w aX [bE V BJ,bW kF (j0 (⟨O,G,J,I,U,M⟩:bO))] W,⟨_,0,rfl,rfl,l0 _,ei,u⟩,?_⟩;rintro m _ _ ⟨k5,rfl,rfl,hk5,akC,u⟩ _;refine aK fF u.dW (aR (aC (λarC=>?_) λarC=>?_))
 .obtain⟨ayp,Ey⟩:=gx BJ (i:=(k5:Int).toNat) cO;obtain⟨CQ,BL⟩:=gx (gE p) (i:=(k5:Int).toNat) cO;obtain⟨Nw,ya,rfl,Nx,DB⟩:=QH.2 _ _ _ Ey BL;have arD:=B.rB (kE BL);have ayq:=hPF.rB (kE BL);obtain⟨hb45,arE,_⟩:=lK ayq.2.1;refine⟨λm x W=>∃k6:Nat,x=hZ (k6:Int)/\m=CQ.body.length-k6/\k6<=CQ.body.length/\(∀y∈CQ.body.take k6,nD p CQ.dY y=false)/\St w aX [bE V BJ,bW kF (j0 (⟨O,G,J,I,U,M⟩:bO))] W,⟨_,0,rfl,rfl,l0 _,ei,u⟩,?_⟩
  rintro m _ _ ⟨k6,rfl,rfl,hk6,akD,u⟩ _;refine aQ fF u.dW cO Ey (λ_ akE=>bX ya lV akE rfl rfl λ_ akF=>aD jW akF ?_);obtain⟨ayr,arF,arG⟩:=DB.open;have hn40:=arG.1;refine aK fB (arF.ext u.aG) (aR (aC (λays=>?_) λ_=>aO cO (have u:=u.p1.p1;⟨_,cO,k5+1,rfl,rfl,cO,eh akC BL (iL (by rw[kO cO]at akD;exact akD)),u⟩)));have u:=u.drew;refine aD er u.p1.At (aQ fF u.dW cO Ey λ_ QJ=>aD ny QJ (aQ fF u.dW cO Ey λ_ akG=>bX ya lV akG rfl rfl λ_ akH=>aD jW akH ?_))
  obtain⟨ayt,Tv⟩:=gx ayr (i:=(k6:Int).toNat) cO;obtain⟨akI,BM⟩:=gx CQ.body (i:=(k6:Int).toNat) cO;obtain⟨ZE,ZF,rfl,ZG,ZH⟩:=arG.2 _ _ _ Tv BM;refine aQ fB (arF.ext u.aG) cO Tv (λ_ akJ=>aD eU akJ ?_);have hf5:=aeW (arE _ (kE BM));refine dO aoF (C126 p _ CQ _ akI _ _ ⟨O,G,J,I,U,M,rfl,cW.ext u.aG,dK.ext u.aG,dB.ext u.aG,cE.ext u.aG,cG.ext u.aG,cU.ext u.aG⟩ ⟨Nw,ya,rfl,Nx.ext u.aG,DB.ext u.aG⟩ ⟨ZE,ZF,rfl,ZG.ext u.aG,ZH.ext u.aG⟩ B arD.2.1 (arD.1.2.2 _ (kE BM)) hf5) ?_
  rintro _ _ ⟨ayu,rfl,Tw,he⟩;have u:=u.ext he;exact cT (aC (λAq=>have u:=u.drop.drop;⟨_,g6 (λq=>EI #[hZ q,_]) (ce9 E fE Z h10 akB (iw BL (iw BM (by rw[<- Tw];exact ez Aq)))).symm,u.aG⟩) λAq=>aO cO ⟨_,cO,k6+1,rfl,rfl,cO,eh akD BM (by rw[<- Tw];exact fV Aq),u⟩)
 rw[kO cO]at akC;have h9:(gE p).any (λt=>t.body.any (nD p t.dY))=false:=iL akC;have u:=u.drew;refine aD er u.p1.At (aD er u.p1.At (dV LW u (C124 p _ _ ⟨O,G,J,I,U,M,rfl,cW.ext u.aG,dK.ext u.aG,dB.ext u.aG,cE.ext u.aG,cG.ext u.aG,cU.ext u.aG⟩ B) λayv _ cI u=>?_));refine⟨eL er u.p2.At,?_⟩;refine aW JI u (C62 p _ _ ⟨O,G,J,I,U,M,rfl,cW.ext u.aG,dK.ext u.aG,dB.ext u.aG,cE.ext u.aG,cG.ext u.aG,cU.ext u.aG⟩ B) (λ_ he u=>?_)
 have D6:=mT B.toPS;have Pl:0<=eH p/\eH p<=(cX p).length:=by unfold eH cX iE;rw[nc,lr];omega
 refine jY iK u.dW cO cO (λayw ae6=>?_);have u:=u.p1.drop.p1.p1;refine⟨λm x W=>∃k7:Nat,x=hZ (k7:Int)/\m=p.eb.length-k7/\k7<=p.eb.length/\(∀y∈p.eb.take k7,pK y.e (gF p)=false)/\St w aX [bE ayv (cX p),bW kF (j0 (⟨O,G,J,I,U,M⟩:bO))] W,⟨_,0,rfl,rfl,l0 _,ei,u⟩,?_⟩;rintro m _ _ ⟨k7,rfl,rfl,hk7,akK,u⟩ _;have hzc:=B.eb;refine aA jB (aB rz u.p1.hb rfl ?_);obtain⟨ayx,arH,arI⟩:=cU.open;have hn41:=arI.1;refine aK tT (arH.ext u.aG) (aR (aC (λayy=>?_) λ_=>have u:=u.drop.drop;⟨_,g6 (λq=>EI #[hZ q,_]) (ce0 E fE Z h10 akB h9 (iL (by rw[kO cO]at akK;exact akK))).symm,u.aG⟩))
 refine aA jB (aB rz u.p1.hb rfl ?_);obtain⟨ayz,Tx⟩:=gx ayx (i:=(k7:Int).toNat) cO;obtain⟨ayA,BN⟩:=gx p.eb (i:=(k7:Int).toNat) cO;obtain⟨ZI,rfl,ZJ⟩:=arI.2 _ _ _ Tx BN;refine aQ tT (arH.ext u.aG) cO Tx (λ_ QK=>bX ZI vQ QK rfl rfl λ_ akL=>aD jC akL ?_);have ayB:=DL.flat ZJ;refine dO XH (C127 _ _ _ _ _ (ayB.ext u.aG) (ae6 _ u.dW) (B.zc _ (kE BN)).1 (by have:=mT B.toPS;simp;omega) (CO (hPF.cl _ (kE BN)).2)) ?_;rintro _ _ ⟨ayC,rfl,Ty,he⟩
 have u:=u.ext he;exact cT (aC (λQL=>have u:=u.drop.drop;⟨_,g6 (λq=>EI #[hZ q,_]) (aq3 E fE Z h10 akB h9 (iw BN (by unfold gF;rw[<- Ty];exact ez QL))).symm,u.aG⟩) λQL=>aO cO ⟨_,cO,k7+1,rfl,rfl,cO,eh akK BN (by unfold gF;rw[<- Ty];exact fV QL),u⟩)
theorem Bk.arJ{x:bR}{a b r:Bk}(h:(Bk.cons x a b r).str){hi lo:Int}(h1:hi=1+x.body)(h2:lo=1):((Bk.cons x a b r).flat.take hi.toNat).drop lo.toNat=a.flat:=by
 obtain⟨E,u,_⟩:=h
 have B:=a.dC
 rw[vY _ (a:=1) (n:=a.flat.length) cO cO]
 grind[flat]
theorem Bk.arK{x:bR}{a b r:Bk}(h:(Bk.cons x a b r).str){hi lo:Int}(h1:hi=1+x.body+x.eG)(h2:lo=1+x.body):((Bk.cons x a b r).flat.take hi.toNat).drop lo.toNat=b.flat:=by
 obtain⟨E,u,_⟩:=h
 have B:=a.dC
 have lb:=b.dC
 rw[vY _ (a:=1+a.flat.length) (n:=b.flat.length) cO cO]
 grind[flat]
def zP:Bk->Int
 | .nil=>0
 | .cons x a b r=>(if x.kind=12 then 2+zP a else if x.kind=11 then(if 0<x.eG then 1+zP a+zP b+1 else 1+zP a+zP b)else 1)+zP r
def toT(x:bR)(a:Bk)(at_:Int):Int:=if 0<x.eG then at_+1+zP a+1 else at_+1+zP a
end Go.Proofs.YtpdlpabnlkofmaaGreatDoor

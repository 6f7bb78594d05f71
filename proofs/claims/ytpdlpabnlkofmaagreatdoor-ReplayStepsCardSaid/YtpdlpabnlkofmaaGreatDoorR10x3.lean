/-
  Part 3.
-/
import Derived.Test.YtpdlpabnlkofmaaGreatDoorR10x2
set_option maxHeartbeats 8000000
set_option linter.all false
set_option maxRecDepth 100000
open Go.Fw.Flat renaming val->hM,enc->ia,sz->l1
open ByteArray renaming mk->hZ,size->abR
open List renaming getElem?_eq_some_iff->ir,mem_of_getElem?->j0,take_of_length_le->kp,getElem?_eq_getElem->kE,length_append->kH,length_singleton->lH,length_take->lQ,length_map->mv,getElem?_eq_none->mC,append_assoc->mX,getD_eq_getElem?_getD->n0,mem_map->n4,getElem?_map->og,mem_append->oi,take_append_drop->o1,length_drop->pd,replicate->po,drop_eq_nil_of_le->pC,length_eq_zero_iff->qa,drop_eq_getElem_cons->qH,mem_cons->sk,drop_drop->sm,getElem?_append_left->s4,take_add_one->tK,map_append->u1,any_eq_true->u4,range->v7,ext_getElem?->wx,any_eq_false->x7,getElem?_set_self->AS,getElem?_eq_none_iff->A4,drop_left->DB,getElem_of_mem->DX,getElem?_set_ne->E6,map_map->GG,mem_range->Iw,nodup_cons->IX,take_left->L3,toArray->OY,getElem?_eraseIdx_of_lt->P5,getElem?_eraseIdx_of_ge->P8,drop_zero->XV,getElem_inj->aaX,cons->abE
open Nat renaming zero_le->kO,le_refl->o5,zero_add->ta,min_eq_left->Em,le_of_lt->aav
open Option renaming bind_some->l2,some->n3,map_some->DY
open Go.Value renaming int->mn,bool->vX,tuple->Be,string->Cv
open Go.Fw.Deep renaming dr->mL
open Go.Instr renaming sliceAt->nn,index->tU,sliceBounds->vd,mapUpdate->wG,lookup->xY,keyThatStays->M8,makeMap->PJ,findKey->Us
open Bool renaming and_eq_true->nS,not_eq_true'->qm,true_and->Av
open Int renaming toNat_natCast->o6,mul_le_mul->Ix,toNat->abF
open Decidable renaming not_not->u3
open Array renaming toList_push->aaf
namespace Go.Proofs.YtpdlpabnlkofmaaGreatDoor
open Go.Fw
inductive Bk where
 | nil
 | cons (x:bK) (a b r:Bk)
namespace Bk
def flat:Bk->List bK|nil=>[]|cons x a b r=>x::(a.flat++(b.flat++r.flat))
def len:Bk->Nat|nil=>0|cons _ a b r=>a.len+b.len+r.len+1
def str:Bk->Prop|nil=>True|cons x a b r=>x.body=a.len/\x.eo=b.len/\a.len<=40/\b.len<=40/\a.str/\b.str/\r.str
def Di(x:bK)(loops:Int):Int:=if x.kind=12 then loops+1 else loops
def za(x:bK):Bool:=decide (x.kind=11\/x.kind=12)
def xN(x:bK)(loops:Int):Bool:=decide ((x.body<=0\/x.kind=11\/x.kind=12)/\(x.eo<=0\/x.kind=11)/\(¬ x.kind=13\/¬ loops=0))
def ok:Bk->Int->Bool|nil,_=>true|cons x a b r,n=>xN x n&&a.ok (Di x n)&&b.ok (Di x n)&&r.ok n
def depth:Bk->Int|nil=>0|cons x a b r=>if za x then max (max (1+a.depth) (1+b.depth)) r.depth else r.depth
end Bk
theorem Bk.cY(t:Bk):t.flat.length=t.len:=by
 induction t with
 | nil=>rfl
 | cons x a b r B E u=>grind[flat,len]
theorem Bk.AE(t:Bk):0<=t.depth/\t.depth<=t.len:=by
 induction t with
 | nil=>simp[Bk.depth,Bk.len]
 | cons x a b r B E u=>
  grind[depth,len]
def VM:Nat->List bK->Option Bk
 | _,[]=>some .nil
 | 0,_::_=>none
 | n+1,x::l=>
  if 0<=x.body/\0<=x.eo/\x.body<=40/\x.eo<=40/\x.body+x.eo<=l.length then
   match VM n (l.take x.body.toNat),VM n ((l.drop x.body.toNat).take x.eo.toNat),VM n (l.drop (x.body.toNat+x.eo.toNat))with
   | some a,some b,some r=>some (.cons x a b r)
   | _,_,_=>none
  else none
theorem xO:∀n l t,VM n l=some t->l=t.flat/\t.str
 | _,[],t,h=>by
  have h:some Bk.nil=some t:=by unfold VM at h;exact h
  cases h;exact⟨rfl,trivial⟩
 | 0,x::l,t,h=>by cases h
 | n+1,x::l,t,h=>by
  unfold VM at h
  split at h
  .rename_i hb
   obtain⟨h1,h2,h3,h4,h5⟩:=hb
   cases ha:VM n (l.take x.body.toNat)with
   | none=>grind
   | some a=>
    cases hb:VM n ((l.drop x.body.toNat).take x.eo.toNat)with
    | none=>grind
    | some b=>
     cases hr:VM n (l.drop (x.body.toNat+x.eo.toNat))with
     | none=>grind
     | some r=>
      rw[ha,hb,hr]at h
      cases h
      obtain⟨u,B⟩:=xO n _ _ ha
      obtain⟨b1,b2⟩:=xO n _ _ hb
      obtain⟨G,E⟩:=xO n _ _ hr
      have I:=ez List.length u
      have lb:=ez List.length b1
      rw[Bk.cY,lQ]at I
      rw[Bk.cY,lQ,pd]at lb
      refine⟨?_,bL,bL,bL,bL,B,b2,E⟩
      unfold Bk.flat
      rw[<- u,<- b1,<- G,<- sm,o1,o1]
  .cases h
theorem Xz(t:Bk):t.str->∀n,t.len<=n->VM n t.flat=some t:=by
 induction t with
 | nil=>intro _ n _;cases n<;>rfl
 | cons x a b r I J u=>
  intro h n B
  obtain⟨h1,h2,h3,h4,E,hb,G⟩:=h
  cases n with
  | zero=>simp[Bk.len]at B
  | succ n=>
   have B:a.len+b.len+r.len<=n:=by simp[Bk.len]at B;omega
   have M:=a.cY
   have lb:=b.cY
   unfold Bk.flat VM
   rw[ee ⟨bL,bL,bL,bL,cH⟩,show x.body.toNat=a.flat.length from bL,L3,DB,show x.eo.toNat=b.flat.length from bL,L3,<- sm,DB,DB,
    I E n bL,J hb n bL,u G n bL]
def sN(l:List bK):Option Bk:=VM l.length l
def nM{l:List bK}{t:Bk}(h:sN l=some t):l=t.flat/\t.str:=xO _ _ _ h
theorem rq{t:Bk}(h:t.str):sN t.flat=some t:=Xz t h _ (by rw[Bk.cY];omega)
def fy(l:List bK)(loops:Int):Int:=match sN l with|some t=>if t.ok loops then t.depth else -1|none=>-1
theorem BJ(loops:Int):fy [] loops=0:=rfl
theorem ti(l:List bK)(loops:Int) : -1<=fy l loops/\fy l loops<=l.length:=by
 unfold fy
 cases h:sN l with
 | none=>grind
 | some t=>
  obtain⟨rfl,_⟩:=nM h
  have:=t.AE
  simp only[Bk.cY]
  omega
def uw(x:bK)(l:List bK):Prop:=0<=x.body/\0<=x.eo/\x.body<=40/\x.eo<=40/\x.body+x.eo<=l.length
theorem Uf{x:bK}{l:List bK}{loops:Int}(h:¬ (uw x l/\Bk.xN x loops=true)):fy (x::l) loops = -1:=by
 unfold fy
 cases hb:sN (x::l)with
 | none=>rfl
 | some t=>
  obtain⟨u,B⟩:=nM hb
  cases t with
  | nil=>cases u
  | cons y a b r=>
   obtain⟨rfl,rfl⟩:=abE.inj u
   obtain⟨h1,h2,h3,h4,_⟩:=B
   have:Bk.xN x loops=false:=by
    cases hk:Bk.xN x loops with
    | false=>rfl
    | true=>exact absurd ⟨⟨bL,bL,bL,bL,by simp[Bk.cY];omega⟩,hk⟩ h
   have h:(Bk.cons x a b r).ok loops=false:=by unfold Bk.ok;grind
   grind
theorem Et{x:bK}{l:List bK}{loops:Int}(h:uw x l)(Z:Bk.xN x loops=true) :
  fy (x::l) loops=(let A:=fy (l.take x.body.toNat) (Bk.Di x loops);let B:=fy ((l.drop x.body.toNat).take x.eo.toNat) (Bk.Di x loops);let R:=fy (l.drop (x.body.toNat+x.eo.toNat)) loops
   if A<0\/B<0\/R<0 then -1 else if Bk.za x then max (max (1+A) (1+B)) R else R):=by
 obtain⟨h1,h2,h3,h4,h5⟩:=h
 have e:l=l.take x.body.toNat++((l.drop x.body.toNat).take x.eo.toNat++l.drop (x.body.toNat+x.eo.toNat)):=by
  rw[<- sm,o1,o1]
 have la:(l.take x.body.toNat).length=x.body.toNat:=cH
 have lb:((l.drop x.body.toNat).take x.eo.toNat).length=x.eo.toNat:=by rw[lQ,pd];omega
 simp only[]
 have V:∀t,sN (x::l)=some t->∃a b r,t=.cons x a b r/\sN (l.take x.body.toNat)=some a/\sN ((l.drop x.body.toNat).take x.eo.toNat)=some b/\sN (l.drop (x.body.toNat+x.eo.toNat))=some r:=by
  intro t ht
  obtain⟨J,O⟩:=nM ht
  cases t with
  | nil=>cases J
  | cons y a b r=>
   obtain⟨rfl,G⟩:=abE.inj J
   obtain⟨g1,g2,_,_,u,hb,E⟩:=O
   have I:x.body.toNat=a.flat.length:=by rw[Bk.cY];omega
   have M:x.eo.toNat=b.flat.length:=by rw[Bk.cY];omega
   refine⟨a,b,r,rfl,?_,?_,?_⟩
   .rw[G,I,L3];exact rq u
   .rw[G,I,M,DB,L3];exact rq hb
   .rw[G,<- sm,I,M,DB,DB];exact rq E
 cases u:sN (l.take x.body.toNat)with
 | none=>
  have:sN (x::l)=none:=by
   cases hh:sN (x::l)with
   | none=>rfl
   | some t=>grind
  unfold fy;rw[this,u];simp
 | some a=>
  cases hb:sN ((l.drop x.body.toNat).take x.eo.toNat)with
  | none=>
   have:sN (x::l)=none:=by
    cases hh:sN (x::l)with
    | none=>rfl
    | some t=>grind
   unfold fy;rw[this,hb];simp
  | some b=>
   cases E:sN (l.drop (x.body.toNat+x.eo.toNat))with
   | none=>
    have:sN (x::l)=none:=by
     cases hh:sN (x::l)with
     | none=>rfl
     | some t=>grind
    unfold fy;rw[this,E];simp
   | some r=>
    obtain⟨Y,U⟩:=nM u
    obtain⟨b1,b2⟩:=nM hb
    obtain⟨r1,W⟩:=nM E
    have G:x::l=(Bk.cons x a b r).flat:=by unfold Bk.flat;grind
    rw[Y,Bk.cY]at la
    rw[b1,Bk.cY]at lb
    have:sN (x::l)=some (.cons x a b r):=by rw[G];exact rq ⟨bL,bL,bL,bL,U,b2,W⟩
    have na:=a.AE
    have nb:=b.AE
    have nr:=r.AE
    unfold fy
    rw[this,u,hb,E]
    simp only[Bk.ok,Z,Av]
    cases h1:a.ok (Bk.Di x loops)<;>cases h2:b.ok (Bk.Di x loops)<;>cases h3:r.ok loops<;>simp[Bk.depth]
    omega
def rW(n d:Int):Int:=if d<0 then -1 else max n d
def IW{xs l:List bK}{x:bK}{loops n:Int}(h:fy xs loops=rW n (fy (x::l) loops))(hb:¬ (uw x l/\Bk.xN x loops=true)):fy xs loops = -1:=by
 rw[h,Uf hb];rfl
def XA{xs l:List bK}{x:bK}{loops n:Int}(h:fy xs loops=rW n (fy (x::l) loops))(E:uw x l)(I:Bk.xN x loops=true)(hb:Bk.za x=true)(A B:Int)
  (u:A=fy (l.take x.body.toNat) (Bk.Di x loops)) (G:B=fy ((l.drop x.body.toNat).take x.eo.toNat) (Bk.Di x loops)) :
  (A<0\/B<0->fy xs loops = -1)/\(¬ (A<0\/B<0)->fy xs loops=rW (max (max n (1+A)) (1+B)) (fy (l.drop (x.body.toNat+x.eo.toNat)) loops)):=by
 have J:=ti (l.drop (x.body.toNat+x.eo.toNat)) loops
 rw[h,Et E I]
 simp only[<- u,<- G,hb,if_true]
 unfold rW
 constructor<;>intro h<;>repeat' split
 all_goals omega
def agv{xs l:List bK}{x:bK}{loops n:Int}(h:fy xs loops=rW n (fy (x::l) loops))(B:uw x l)(E:Bk.xN x loops=true)(hb:Bk.za x=false) :
  fy xs loops=rW n (fy (l.drop (x.body.toNat+x.eo.toNat)) loops):=by
 have u:x.body=0/\x.eo=0:=by
  unfold Bk.xN at E
  unfold Bk.za at hb
  obtain⟨h1,h2,_⟩:=B
  grind
 rw[h,Et B E,u.1,u.2]
 have I:l.take (abF 0)=[]:=rfl
 have G:(l.drop (abF 0)).take (abF 0)=[]:=rfl
 simp only[hb,I,G,BJ]
 unfold rW
 repeat' split
 all_goals first|omega|simp_all
theorem drop_cons{α:Type}{xs:List α}{k:Nat}{x:α}(h:xs[k]?=some x):xs.drop k=x::xs.drop (k+1):=by
 obtain⟨h1,h2⟩:=ir.1 h
 rw[qH h1,h2]
theorem u7{α:Type}(xs:List α){a b c n:Nat}(h:b=a+n)(hc:c=a):(xs.take b).drop c=(xs.drop a).take n:=by
 subst h hc;rw[List.drop_take,Nat.add_sub_cancel_left]
def Ug:List ByteArray:=[⟨#[]⟩,⟨#[114,101]⟩,⟨#[114,110]⟩,⟨#[110,101]⟩,⟨#[114,110,101,102]⟩,⟨#[110]⟩,⟨#[110]⟩,⟨#[]⟩,⟨#[]⟩,⟨#[110]⟩,⟨#[110]⟩,⟨#[101,98]⟩,⟨#[107,98]⟩,⟨#[]⟩,⟨#[101]⟩]
def fB(k:Int):ByteArray:=if k<1\/14<k then⟨#[]⟩else Ug.getD k.toNat ⟨#[]⟩
def eO(s:ByteArray)(c:Int):Bool:=(iI s).any λb=>decide ((b.toNat:Int)=c)
def mS(x:bK):Bool:=
 !(decide (x.kind<1)||decide (14<x.kind)||decide (x.at_<0)||decide (4000<x.at_)) &&
 !((eO (fB x.kind) 114 != gJ x.eB)||(!eO (fB x.kind) 114&&decide (¬ x.eB=⟨#[]⟩))||(eO (fB x.kind) 110 != gJ x.name)||(!eO (fB x.kind) 110&&decide (¬ x.name=⟨#[]⟩))) &&
 !((eO (fB x.kind) 101 != fw x.e)||(!eO (fB x.kind) 101&&decide (0<x.e.length))||(eO (fB x.kind) 102 != fw x.f)||(!eO (fB x.kind) 102&&decide (0<x.f.length))) &&
 (if eO (fB x.kind) 107=true then decide (1<=x.n/\x.n<=8)else decide (x.n=0))
def pw(l:List bK):Bool:=decide (l.length<=40)&&!l.any (λx=>!mS x)&&decide (0<=fy l 0/\fy l 0<=12)
def q7(n:Int):Bool:=decide (0<=n/\n<=4000)
def iK(u:Int)(c:cG):Bool:=!gJ c.name||decide (c.n<0)||decide (u<c.n)||!q7 c.at_
def nN(u:Int)(l:List cG):Bool:=!l.any (iK u)
def rX(nb:Bool)(t:cL):Bool:=(nb != gJ t.name)||(!nb&&decide (¬ t.name=⟨#[]⟩))||!q7 t.at_||!pw t.body
def mg(nb:Bool)(t:cL):Bool:=rX nb t||t.dN.any (λs=>!gJ s)
def ny(nb:Bool)(l:List cL):Bool:=!l.any (mg nb)
def nE(l:List cG):Bool:=decide ((l.length:Int)=0)||!nN 4294967296 l
def lB(c:gO):Bool:=!q7 c.at_||!fw c.e
def j7(p:cE):Bool:=!p.lines.any nE&&!p.dX.any lB&&(nN 4294967296 p.iJ&&nN 0 p.eE&&ny true p.threads&&ny false p.recover&&decide (p.recover.length<=1))
def SzS(x:bK):Prop:=x.eB.size<=1048576/\x.name.size<=1048576/\x.e.length<=1048576/\x.f.length<=1048576/\(∀y∈x.e,y.name.size<=1048576)/\(∀y∈x.f,y.name.size<=1048576)
def XB(t:cL):Prop:=t.name.size<=1048576/\(∀s∈t.dN,s.size<=1048576)/\(∀x∈t.body,SzS x)
structure PZ(p:cE):Prop extends PS p where
 zl:∀l∈p.lines,∀c∈l,c.name.size<=1048576
 zv:∀c∈p.iJ,c.name.size<=1048576
 zk:∀c∈p.eE,c.name.size<=1048576
 zt:∀t∈p.threads,XB t
 zr:∀t∈p.recover,XB t
 zc:∀c∈p.dX,c.e.length<=1048576/\∀y∈c.e,y.name.size<=1048576
def Eu(k:Int):(fB k).size<=1048576:=by
 unfold fB
 split
 .decide
 rename_i h
 obtain rfl|rfl|rfl|rfl|rfl|rfl|rfl|rfl|rfl|rfl|rfl|rfl|rfl|rfl:k=1\/k=2\/k=3\/k=4\/k=5\/k=6\/k=7\/k=8\/k=9\/k=10\/k=11\/k=12\/k=13\/k=14:=bL
 all_goals decide
def C315(k:Int)(w:World):CR 315 [hH k] w (λv w'=>v=.string (fB k)/\Ext w w'):=by
 have u:=St.start w;refine acp _ _ _ ?_;unfold S315;refine⟨λJ w'=>J=.bool (decide (k<1\/14<k))/\w=w',aO (aC (λ_=>⟨Ko bL,rfl⟩) λ_=>cP ⟨xB bL,rfl⟩),?_⟩;rintro _ _ ⟨rfl,G⟩ _;subst G;refine aC (λB=>?_) (λB=>?_)
 .refine⟨?_,u.aF⟩;unfold fB;rw[ee B]
 refine aW Ug u ix rfl rfl (dM rfl) (λI _ u=>?_);have O:Ug.length=15:=rfl;obtain⟨U,E⟩:=gx Ug (i:=k.toNat) bL;refine dJ u ix bL bL (λ_ M=>fV u gn M E ?_);refine⟨?_,u.aF⟩;unfold fB;rw[eb B,n0,E];rfl
def C316(s:ByteArray)(c:Int)(w:World)(V:s.size<=1048576):CR 316 [.string s,.int .u8 c] w (λv w'=>v=.bool (eO s c)/\Ext w w'):=by
 have u:=St.start w;refine eU Tryz.func316 ?_;refine⟨λm x I=>∃k:Nat,x=hH (k:Int)/\m=(iI s).length-k/\k<=(iI s).length/\(∀y∈(iI s).take k,decide ((y.toNat:Int)=c)=false)/\St w aY [] I,⟨_,0,rfl,rfl,kO _,ea,u⟩,?_⟩;rintro m _ I ⟨k,rfl,rfl,J,E,u⟩ _;rw[eV]at J;have W:=eV s;refine fb ic (aO (aC (λO=>?_) λO=>?_))
 .obtain⟨U,B⟩:∃M,(iI s)[(k:Int).toNat]?=some M:=⟨_,kE (by rw[eV];omega)⟩;exact jH ic bL B (nu (aC (λG=>⟨vb (gZ B (ei G)).symm,u.aF⟩) λG=>aJ bL ⟨_,bL,k+1,rfl,rfl,bL,dS E B (ej G),u⟩))
 rw[kp bL]at E;exact⟨vb (iq E).symm,u.aF⟩
def C288(x:bK)(xv:aZ)(w:World)(hx:mL w xv x)(B:SzS x):CR 288 [hM xv] w (λv w'=>v=.bool (mS x)/\Ext w w'):=by
 obtain⟨U,O,rfl,Lx,GZ⟩:=hx;have u:=St.start w;refine eU Tryz.func288 ?_;refine cJ u (λV _ u=>⟨λE w'=>E=.bool (decide (x.kind<1)||decide (14<x.kind)||decide (x.at_<0)||decide (4000<x.at_))/\St w aY [bZ V (ia (⟨x.kind,x.eB,x.name,U,O,x.n,x.body,x.eo,x.at_⟩:aZ))] w',?_,?_⟩)
 .refine aA dK (aB (v:=hH x.kind) bO u.hb rfl ?_);exact aO (aC (λ_=>⟨vb cH,u⟩) λ_=>aA dK (aB (v:=hH x.kind) bO u.hb rfl (cP (aC (λ_=>⟨vb cH,u⟩) λ_=>aA lj (aB (v:=hH x.at_) bO u.hb rfl (aO (aC (λ_=>⟨vb cH,u⟩) λ_=>aA lj (aB (v:=hH x.at_) bO u.hb rfl (cP ⟨vb cH,u⟩)))))))))
 rintro _ _ ⟨rfl,u⟩ _;refine aX (λjq=>?_) (λjq=>aA dK (aB (v:=hH x.kind) bO u.hb rfl (aS anO u (C315 _ _) λ_ G u=>aS KA u (C316 _ _ _ (Eu _)) λ_ G u=>aS KA u (C316 _ _ _ (Eu _)) λ_ G u=>aS KA u (C316 _ _ _ (Eu _)) λ_ G u=>aS KA u (C316 _ _ _ (Eu _)) λ_ G u=>⟨λE w'=>E=.bool ((eO (fB x.kind) 114 != gJ x.eB)||(!eO (fB x.kind) 114&&decide (¬ x.eB=⟨#[]⟩))||(eO (fB x.kind) 110 != gJ x.name)||(!eO (fB x.kind) 110&&decide (¬ x.name=⟨#[]⟩)))/\St w aY [bZ V (ia (⟨x.kind,x.eB,x.name,U,O,x.n,x.body,x.eo,x.at_⟩:aZ))] w',?_,?_⟩)))
 .refine⟨vb ?_,u.drop.aF⟩;unfold mS;simp only[*]
  first|done|rfl|simp
 .refine aA iy (aB (v:=.string x.eB) gn u.hb rfl (aS uc u (C211 _ _ B.1) λ_ G u=>rE KM (aX (λ_=>⟨vb cH,u⟩) λvx=>bP (aX (λAF=>?_) λ_=>aA fX (aB (v:=.string x.name) gn u.hb rfl (aS uc u (C211 _ _ B.2.1) λ_ _ u=>rE KM (aX (λ_=>⟨vb cH,u⟩) λ_=>bP (aX (λ_=>aA fX (aB (v:=.string x.name) gn u.hb rfl (lJ ⟨vb cH,u⟩))) λ_=>⟨vb cH,u⟩))))))));refine aA iy ?_;exact aB (v:=.string x.eB) gn u.hb rfl (lJ (aC (λ_=>⟨vb cH,u⟩) λ_=>aA fX (aB (v:=.string x.name) gn u.hb rfl (aS uc u (C211 _ _ B.2.1) λ_ _ u=>rE KM (aX (λ_=>⟨vb cH,u⟩) λ_=>bP (aX (λ_=>aA fX (aB (v:=.string x.name) gn u.hb rfl (lJ ⟨vb cH,u⟩))) λ_=>⟨vb cH,u⟩))))))
 rintro _ _ ⟨rfl,u⟩ _;refine aX (λW=>?_) (λW=>⟨λE w'=>E=.bool ((eO (fB x.kind) 101 != fw x.e)||(!eO (fB x.kind) 101&&decide (0<x.e.length))||(eO (fB x.kind) 102 != fw x.f)||(!eO (fB x.kind) 102&&decide (0<x.f.length)))/\St w aY [bZ V (ia (⟨x.kind,x.eB,x.name,U,O,x.n,x.body,x.eo,x.at_⟩:aZ))] w',?_,?_⟩)
 .refine⟨vb ?_,u.drop.aF⟩;unfold mS;simp only[*]
  first|done|rfl|simp
 .refine aA iN (aB jy u.hb rfl ?_);have I:=DL.flat Lx;refine aS Kv u (C200 _ _ _ (I.ext u.aF) B.2.2.1 B.2.2.2.2.1) (λ_ G u=>rE KM (aX (λ_=>⟨vb cH,u⟩) λG0=>bP (aX (λZ=>aA iN (aB jy u.hb rfl (aH gV (I.ext u.aF) (cP (aC (λ_=>⟨vb cH,u⟩) λR8=>?_))))) λZ=>?_)))
  .refine aA jS (aB jy u.hb rfl ?_);have M:=DL.flat GZ;exact aS Kv u (C200 _ _ _ (M.ext u.aF) B.2.2.2.1 B.2.2.2.2.2) (λ_ _ u=>rE KM (aX (λ_=>⟨vb cH,u⟩) λ_=>bP (aX (λ_=>aA jS (aB jy u.hb rfl (aH gV (M.ext u.aF) (cP ⟨vb cH,u⟩)))) λ_=>⟨vb cH,u⟩)))
  refine aA jS (aB jy u.hb rfl ?_);have J:=DL.flat GZ;exact aS Kv u (C200 _ _ _ (J.ext u.aF) B.2.2.2.1 B.2.2.2.2.2) (λ_ _ u=>rE KM (aX (λ_=>⟨vb cH,u⟩) λ_=>bP (aX (λ_=>aA jS (aB jy u.hb rfl (aH gV (J.ext u.aF) (cP ⟨vb cH,u⟩)))) λ_=>⟨vb cH,u⟩)))
 rintro _ _ ⟨rfl,u⟩ _;refine aX (λY=>?_) (λY=>aS KA u (C316 _ _ _ (Eu _)) λ_ G u=>aX (λBK=>⟨λE w'=>E=.bool (decide (1<=x.n/\x.n<=8))/\St w aY [bZ V (ia (⟨x.kind,x.eB,x.name,U,O,x.n,x.body,x.eo,x.at_⟩:aZ))] w',aA jB (aB (v:=hH x.n) bO u.hb rfl (cR (aC (λ_=>aA jB (aB (v:=hH x.n) bO u.hb rfl (ga ⟨vb cH,u⟩))) λ_=>⟨vb cH,u⟩))),?_⟩) λBK=>?_)
 .refine⟨vb ?_,u.drop.aF⟩;unfold mS;simp only[*]
  first|done|rfl|simp
 .rintro _ _ ⟨rfl,u⟩ _;refine⟨vb ?_,u.drop.aF⟩;unfold mS;simp only[*]
  first|done|rfl|simp
 refine aA jB (aB (v:=hH x.n) bO u.hb rfl (aG ?_));refine⟨vb ?_,u.drop.aF⟩;unfold mS;simp only[*]
 first|done|rfl|simp
theorem C289(lv:Value)(xs:List bK)(loops:Int)(N:Nat)(w:World)(hL:DL w lv xs)(hn:xs.length<=1048576)(hlo:0<=loops)(Ly:loops+N<=4194304)(hN:xs.length<N):CR 289 [lv,hH loops] w (λv w'=>v=hH (fy xs loops)/\Ext w w'):=by
 have E:=St.start w;refine ack _ _ _ _ ?_;unfold S289;refine⟨λm y x w1=>∃(k:Nat) (n:Int),y=hH n/\x=hH (k:Int)/\m=xs.length-k/\k<=xs.length/\0<=n/\n<=41/\fy xs loops=rW n (fy (xs.drop k) loops)/\St w aY [] w1,⟨_,0,0,rfl,rfl,rfl,bL,bL,bL,by have:=ti xs loops;rw[XV];unfold rW;split<;>omega,E⟩,?_⟩;rintro m _ _ w1 ⟨k,n,rfl,rfl,rfl,hk,XC,Xp,hinv,E⟩ _;obtain⟨ts7,G,J⟩:=hL.open;have hn7:=J.1;refine aH fj (G.ext E.aF) (aO (aC (λjd=>?_) λjd=>?_))
 .obtain⟨qd,gQ⟩:=gx ts7 (i:=(k:Int).toNat) bL;obtain⟨u,Ew⟩:=gx xs (i:=(k:Int).toNat) bL;obtain⟨M,O,rfl,acX,acY⟩:=J.2 _ _ _ gQ Ew;refine aM fj (G.ext E.aF) bL gQ (λ_ rT=>?_);have hdk:=drop_cons (xs:=xs) (k:=k) Ew;rw[hdk]at hinv;have O0:(xs.drop (k+1)).length=xs.length-(k+1):=pd;refine aE eG rT (aQ E jk λU _ E=>aK (x:=(⟨u.kind,u.eB,u.name,M,O,u.n,u.body,u.eo,u.at_⟩:aZ)) E eG rfl rfl λ_ E=>⟨λI w'=>I=.bool (decide (u.body<0)||decide (u.eo<0)||decide (40<u.body)||decide (40<u.eo)||decide ((xs.length:Int)<k+1+u.body+u.eo))/\St w aY [bZ U (ia (⟨u.kind,u.eB,u.name,M,O,u.n,u.body,u.eo,u.at_⟩:aZ))] w',aA iO (aB (v:=hH u.body) bO E.hb rfl (aO (aC (λ_=>⟨vb cH,E⟩) λik=>aA iz (aB (v:=hH u.eo) bO E.hb rfl (aO (aC (λ_=>⟨vb cH,E⟩) λyy=>aA iO (aB (v:=hH u.body) bO E.hb rfl (cP (aC (λ_=>⟨vb cH,E⟩) λlO=>?_))))))))),?_⟩)
  .exact aA iz (aB (v:=hH u.eo) bO E.hb rfl (cP (aC (λ_=>⟨vb cH,E⟩) λ_=>aJ bL (aA iO (aB (v:=hH u.body) bO E.hb rfl (aJ bL (aA iz (aB (v:=hH u.eo) bO E.hb rfl (aJ bL (aH fj (G.ext E.aF) (cP ⟨vb cH,E⟩)))))))))))
  rintro _ _ ⟨rfl,E⟩ _;refine aX (λ_=>⟨ez (mn .i64) (IW hinv (by unfold uw;grind)).symm,E.drop.aF⟩) (λLu=>?_);have oZ:uw u (xs.drop (k+1)):=by unfold uw;grind
  refine⟨λI w'=>I=.bool (!Bk.xN u loops)/\St w aY [bZ U (ia (⟨u.kind,u.eB,u.name,M,O,u.n,u.body,u.eo,u.at_⟩:aZ))] w',aA iO (aB (v:=hH u.body) bO E.hb rfl (cP (aC (λCx=>aA dK (aB (v:=hH u.kind) bO E.hb rfl (bT (aC (λaoA=>aA dK (aB (v:=hH u.kind) bO E.hb rfl (bT (aC (λ_=>⟨vb (by unfold Bk.xN;grind),E⟩) λR9=>?_)))) λaoA=>?_)))) λCx=>?_))),?_⟩
  .refine aA iz (aB (v:=hH u.eo) bO E.hb rfl (cP (aC (λ_=>aA dK (aB (v:=hH u.kind) bO E.hb rfl (bT (aC (λ_=>⟨vb (by unfold Bk.xN;grind),E⟩) λ_=>aA dK (aB (v:=hH u.kind) bO E.hb rfl (aG (aC (λ_=>aG ⟨vb (by unfold Bk.xN;grind),E⟩) λ_=>⟨vb (by unfold Bk.xN;grind),E⟩))))))) λEj=>?_)));exact aA dK (aB (v:=hH u.kind) bO E.hb rfl (aG (aC (λ_=>aG ⟨vb (by unfold Bk.xN;grind),E⟩) λ_=>⟨vb (by unfold Bk.xN;grind),E⟩)))
  .refine aA iz (aB (v:=hH u.eo) bO E.hb rfl (cP (aC (λ_=>aA dK (aB (v:=hH u.kind) bO E.hb rfl (bT (aC (λ_=>⟨vb (by unfold Bk.xN;grind),E⟩) λ_=>aA dK (aB (v:=hH u.kind) bO E.hb rfl (aG (aC (λ_=>aG ⟨vb (by unfold Bk.xN;grind),E⟩) λ_=>⟨vb (by unfold Bk.xN;grind),E⟩))))))) λatn=>?_)));exact aA dK (aB (v:=hH u.kind) bO E.hb rfl (aG (aC (λ_=>aG ⟨vb (by unfold Bk.xN;grind),E⟩) λ_=>⟨vb (by unfold Bk.xN;grind),E⟩)))
  .refine aA iz (aB (v:=hH u.eo) bO E.hb rfl (cP (aC (λ_=>aA dK (aB (v:=hH u.kind) bO E.hb rfl (bT (aC (λ_=>⟨vb (by unfold Bk.xN;grind),E⟩) λ_=>aA dK (aB (v:=hH u.kind) bO E.hb rfl (aG (aC (λ_=>aG ⟨vb (by unfold Bk.xN;grind),E⟩) λ_=>⟨vb (by unfold Bk.xN;grind),E⟩))))))) λato=>?_)));exact aA dK (aB (v:=hH u.kind) bO E.hb rfl (aG (aC (λ_=>aG ⟨vb (by unfold Bk.xN;grind),E⟩) λ_=>⟨vb (by unfold Bk.xN;grind),E⟩)))
  rintro _ _ ⟨rfl,E⟩ _;refine aX (λ_=>⟨ez (mn .i64) (IW hinv cH).symm,E.drop.aF⟩) (λagz=>?_);have jK:Bk.xN u loops=true:=cH
  have aiv:=oZ;unfold uw at aiv;refine aJ bL (aA iO (have E:=E.drew;aB (v:=hH u.body) bO E.hb rfl (aJ bL ⟨λI w'=>I=hH (Bk.Di u loops)/\St w aY [bZ U (ia (⟨u.kind,u.eB,u.name,M,O,u.n,u.body,u.eo,u.at_⟩:aZ))] w',aA dK (aB (v:=hH u.kind) bO E.hb rfl (aG (aC (λ_=>aJ bL ⟨ez (mn .i64) (by unfold Bk.Di;grind),E⟩) λ_=>⟨ez (mn .i64) (by unfold Bk.Di;grind),E⟩))),?_⟩)));rintro _ _ ⟨rfl,E⟩ _;have sT:loops<=Bk.Di u loops/\Bk.Di u loops<=loops+1:=by unfold Bk.Di;split<;>omega
  refine⟨λI w'=>∃V:Int,I=hH V/\0<=V/\V<=41/\fy xs loops=rW V (fy (xs.drop (k+1+(u.body.toNat+u.eo.toNat))) loops)/\St w aY [bZ U (ia (⟨u.kind,u.eB,u.name,M,O,u.n,u.body,u.eo,u.at_⟩:aZ))] w',⟨λI w'=>I=.bool (decide (u.kind=11)||decide (u.kind=12))/\St w aY [bZ U (ia (⟨u.kind,u.eB,u.name,M,O,u.n,u.body,u.eo,u.at_⟩:aZ))] w',aA dK (aB (v:=hH u.kind) bO E.hb rfl (aG (aC (λ_=>⟨vb cH,E⟩) λ_=>aA dK (aB (v:=hH u.kind) bO E.hb rfl (aG ⟨vb cH,E⟩))))),?_⟩,?_⟩
  .rintro _ _ ⟨rfl,E⟩ _;refine aX (λaiw=>?_) (λaiw=>?_)
   .refine aJ bL (n6 fj (G.ext E.aF) bL bL bL λavW acZ=>?_);have ac0:=DL.cut acZ G J;refine aA iz (have E:=E.drew;aB (v:=hH u.eo) bO E.hb rfl (aJ bL (n6 fj (G.ext E.aF) bL bL bL λavX ac1=>?_)));have ac2:=DL.cut ac1 G J;have Y:((xs.take (((k:Int)+1)+u.body).toNat).drop ((k:Int)+1).toNat)=(xs.drop (k+1)).take u.body.toNat:=u7 xs bL bL;have Z:((xs.take ((((k:Int)+1)+u.body)+u.eo).toNat).drop (((k:Int)+1)+u.body).toNat)=((xs.drop (k+1)).drop u.body.toNat).take u.eo.toNat:=by rw[sm];exact u7 xs bL bL
    have hlA:((xs.take (((k:Int)+1)+u.body).toNat).drop ((k:Int)+1).toNat).length<=xs.length-1/\((xs.take (((k:Int)+1)+u.body).toNat).drop ((k:Int)+1).toNat).length<=40:=by rw[Y,lQ];omega
    have hlB:((xs.take ((((k:Int)+1)+u.body)+u.eo).toNat).drop (((k:Int)+1)+u.body).toNat).length<=xs.length-1/\((xs.take ((((k:Int)+1)+u.body)+u.eo).toNat).drop (((k:Int)+1)+u.body).toNat).length<=40:=by rw[Z,lQ,pd];omega
    refine aS Wp E (C289 _ _ _ (N-1) _ (ac0.ext E.aF) bL bL bL bL) (λ_ he E=>?_);refine⟨aI bO (E.hb.cell rfl),?_⟩;refine dO Wp (C289 _ _ _ (N-1) _ (ac2.ext E.aF) bL bL bL bL) ?_;rintro _ _ ⟨rfl,he⟩;have E:=E.ext he;obtain⟨A,hA⟩:∃A,A=fy ((xs.take (((k:Int)+1)+u.body).toNat).drop ((k:Int)+1).toNat) (Bk.Di u loops):=⟨_,rfl⟩;obtain⟨B,hB⟩:∃B,B=fy ((xs.take ((((k:Int)+1)+u.body)+u.eo).toNat).drop (((k:Int)+1)+u.body).toNat) (Bk.Di u loops):=⟨_,rfl⟩;have hAb:=ti ((xs.take (((k:Int)+1)+u.body).toNat).drop ((k:Int)+1).toNat) (Bk.Di u loops)
    have hBb:=ti ((xs.take ((((k:Int)+1)+u.body)+u.eo).toNat).drop (((k:Int)+1)+u.body).toNat) (Bk.Di u loops);rw[<- hA]at hAb;rw[<- hB]at hBb;rw[<- hA,<- hB];have Ue:=XA hinv oZ jK (by unfold Bk.za;grind) A B (by rw[hA,Y]) (by rw[hB,Z]);refine⟨λI w'=>I=.bool (decide (A<0\/B<0))/\St w aY [bZ U (ia (⟨u.kind,u.eB,u.name,M,O,u.n,u.body,u.eo,u.at_⟩:aZ))] w',aO (aC (λ_=>⟨vb cH,E⟩) λ_=>aO ⟨vb cH,E⟩),?_⟩;rintro _ _ ⟨rfl,E⟩ _;refine aX (λO1=>⟨ez (mn .i64) (Ue.1 (fK O1)).symm,E.drop.aF⟩) (λO1=>aJ bL (aJ bL (Ll ?_)))
    have XD:=Ue.2 (gL O1);rw[sm]at XD;exact⟨_,rfl,bL,bL,XD,E⟩
   have W:=agv hinv oZ jK (by unfold Bk.za;grind);rw[sm]at W;exact⟨_,rfl,XC,Xp,W,E⟩
  rintro _ _ ⟨V,rfl,aiy,aiz,XE,E⟩ _;exact aA iz (aB (v:=hH u.eo) bO E.hb rfl (aJ bL ⟨_,bL,k+1+(u.body.toNat+u.eo.toNat),V,rfl,ez (mn .i64) bL,rfl,bL,aiy,aiz,XE,E.drop⟩))
 rw[pC bL,BJ]at hinv;exact⟨ez (mn .i64) (by rw[hinv];unfold rW;omega),E.aF⟩
termination_by N
decreasing_by all_goals omega
def C253(lv:Value)(xs:List bK)(w:World)(hL:DL w lv xs)(hn:xs.length<=1048576)(hz:∀x∈xs,SzS x):CR 253 [lv] w (λv w'=>v=.bool (pw xs)/\Ext w w'):=by
 have u:=St.start w;refine eU Tryz.func253 ?_;obtain⟨U,B,E⟩:=hL.open;have hn8:=E.1;refine aH fj (B.ext u.aF) (cP (aC (λgP=>?_) λgP=>?_))
 .refine⟨vb ?_,u.aF⟩;unfold pw;rw[ej bL];rfl
 refine⟨λm x Y=>∃k:Nat,x=hH (k:Int)/\m=xs.length-k/\k<=xs.length/\(∀y∈xs.take k,(!mS y)=false)/\St w aY [] Y,⟨_,0,rfl,rfl,kO _,ea,u⟩,?_⟩;rintro m _ Y ⟨k,rfl,rfl,hk,V,u⟩ _;refine aH fj (B.ext u.aF) (aO (aC (λjo=>?_) λjo=>aS Wp u (C289 _ _ _ (xs.length+1) _ (hL.ext u.aF) bL bL bL bL) λ_ he u=>⟨λjv w'=>jv=.bool (decide (0<=fy xs 0/\fy xs 0<=12))/\St w aY [] w',cR (aC (λ_=>ga ⟨vb cH,u⟩) λ_=>⟨vb cH,u⟩),?_⟩))
 .obtain⟨XF,Z⟩:=gx U (i:=(k:Int).toNat) bL;obtain⟨rY,G⟩:=gx xs (i:=(k:Int).toNat) bL;obtain⟨M,O,rfl,W,J⟩:=E.2 _ _ _ Z G;refine aM fj (B.ext u.aF) bL Z (λ_ Az=>aE eG Az (aS anD u (C288 rY _ _ ⟨M,O,rfl,(W).ext u.aF,J.ext u.aF⟩ (hz _ (j0 G))) λ_ he u=>bP (aX (λI=>?_) λI=>aJ bL ⟨_,bL,k+1,rfl,rfl,bL,dS V G I,u⟩)));refine⟨vb ?_,u.aF⟩;unfold pw;rw[gZ G I];simp
 rintro _ _ ⟨rfl,u⟩ _;rw[kp bL]at V;refine⟨vb ?_,u.aF⟩;unfold pw;rw[iq V,ei (show xs.length<=40 by omega)];rfl
def C199(n:Int)(w:World):CR 199 [hH n] w (λv w'=>v=.bool (q7 n)/\Ext w w'):=by
 have u:=St.start w;refine eU Tryz.func199 ?_;refine⟨λE w'=>E=.bool (decide (0<=n/\n<=4000))/\w=w',cR (aC (λ_=>ga ⟨xB bL,rfl⟩) λ_=>⟨Wf bL,rfl⟩),?_⟩;rintro _ _ ⟨rfl,B⟩ _;subst B;exact⟨rfl,u.aF⟩
def C198(lv:Value)(xs:List cG)(I:Int)(w:World)(G:dz (λ_=>True) w lv xs)(hn:xs.length<=1048576)(hz:∀c∈xs,c.name.size<=1048576):CR 198 [lv,hH I] w (λv w'=>v=.bool (nN I xs)/\Ext w w'):=by
 have u:=St.start w;refine eU Tryz.func198 ?_;refine⟨λm x O=>∃k:Nat,x=hH (k:Int)/\m=xs.length-k/\k<=xs.length/\(∀y∈xs.take k,iK I y=false)/\St w aY [] O,⟨_,0,rfl,rfl,kO _,ea,u⟩,?_⟩;rintro m _ O ⟨k,rfl,rfl,hk,J,u⟩ _;refine aH ie (G.ext u.aF) (aO (aC (λje=>?_) λje=>?_))
 .obtain⟨E,B⟩:=gx xs (i:=(k:Int).toNat) bL;refine⟨λW w'=>W=.bool (iK I E)/\St w aY [] w',aM ie (G.ext u.aF) bL B (λ_ Y=>bW E.name kx Y rfl rfl λ_ V=>aE gn V (aS uc u (C211 _ _ (hz _ (j0 B))) λ_ he u=>bP (aX (λ_=>⟨vb (by unfold iK;grind),u⟩) λlz=>?_))),?_⟩
  .refine aM ie (G.ext u.aF) bL B (λ_ wJ=>bW E.n rH wJ rfl rfl λ_ qh=>?_);exact aE bO qh (aO (aC (λ_=>⟨vb (by unfold iK;grind),u⟩) λ_=>aM ie (G.ext u.aF) bL B λ_ Z=>bW E.n rH Z rfl rfl λ_ ux=>aE bO ux (cP (aC (λ_=>⟨vb (by unfold iK;grind),u⟩) λ_=>aM ie (G.ext u.aF) bL B λ_ wL=>bW E.at_ ui wL rfl rfl λ_ U=>aE bO U (aS Rs u (C199 _ _) λ_ _ u=>bP ⟨vb (by unfold iK;grind),u⟩)))))
  rintro _ _ ⟨rfl,u⟩ _;refine aX (λM=>?_) (λM=>aJ bL ⟨_,bL,k+1,rfl,rfl,bL,dS J B M,u⟩);refine⟨vb ?_,u.aF⟩;unfold nN;rw[gZ B M];rfl
 rw[kp bL]at J;refine⟨vb ?_,u.aF⟩;unfold nN;rw[iq J];rfl
def C201(lv:Value)(xs:List cL)(nb:Bool)(w:World)(hL:DL w lv xs)(hn:xs.length<=1048576)(hz:∀t∈xs,XB t/\t.dN.length<=500/\t.body.length<=500):CR 201 [lv,.bool nb] w (λv w'=>v=.bool (ny nb xs)/\Ext w w'):=by
 have u:=St.start w;refine eU Tryz.func201 ?_;refine⟨λm x V=>∃k:Nat,x=hH (k:Int)/\m=xs.length-k/\k<=xs.length/\(∀y∈xs.take k,mg nb y=false)/\St w aY [] V,⟨_,0,rfl,rfl,kO _,ea,u⟩,?_⟩;rintro m _ V ⟨k,rfl,rfl,hk,ey,u⟩ _;obtain⟨ts9,B,U⟩:=hL.open;have hn9:=U.1;refine aH fr (B.ext u.aF) (aO (aC (λgT=>?_) λgT=>?_))
 .obtain⟨XF,I⟩:=gx ts9 (i:=(k:Int).toNat) bL;obtain⟨E,O⟩:=gx xs (i:=(k:Int).toNat) bL;obtain⟨Ey,Ez,rfl,O2,EA⟩:=U.2 _ _ _ I O;have G:=hz _ (j0 O);refine⟨λjv w'=>jv=.bool (rX nb E)/\St w aY [] w',aM fr (B.ext u.aF) bL I (λ_ Az=>bW E.name pS Az rfl rfl λ_ Lq=>aE gn Lq (aS uc u (C211 _ _ G.1.1) λ_ he u=>rE KM (aX (λ_=>⟨vb (by unfold rX;grind),u⟩) λmQ=>?_))),?_⟩
  .refine bP (aX (λmR=>?_) λ_=>aM fr (B.ext u.aF) bL I λ_ ac8=>bW E.at_ pU ac8 rfl rfl λ_ ac9=>aE bO ac9 (aS Rs u (C199 _ _) λ_ _ u=>bP (aX (λ_=>⟨vb (by unfold rX;grind),u⟩) λ_=>aM fr (B.ext u.aF) bL I λ_ ada=>bW Ez lh ada rfl rfl λ_ Y=>aE jA Y (aS af3 u (C253 _ _ _ (EA.ext u.aF) bL G.1.2.2) λ_ _ u=>bP ⟨vb (by unfold rX;grind),u⟩))));refine aM fr (B.ext u.aF) bL I (λ_ rV=>bW E.name pS rV rfl rfl λ_ EB=>aE gn EB ?_)
   exact lJ (aC (λ_=>⟨vb (by unfold rX;grind),u⟩) λ_=>aM fr (B.ext u.aF) bL I λ_ Es=>bW E.at_ pU Es rfl rfl λ_ AG=>aE bO AG (aS Rs u (C199 _ _) λ_ _ u=>bP (aX (λ_=>⟨vb (by unfold rX;grind),u⟩) λ_=>aM fr (B.ext u.aF) bL I λ_ Lz=>bW Ez lh Lz rfl rfl λ_ LA=>aE jA LA (aS af3 u (C253 _ _ _ (EA.ext u.aF) bL G.1.2.2) λ_ _ u=>bP ⟨vb (by unfold rX;grind),u⟩))))
  rintro _ _ ⟨rfl,u⟩ _;refine aX (λLu=>?_) (λLu=>?_)
  .refine⟨vb ?_,u.aF⟩;unfold ny;rw[gZ O (show mg nb E=true by unfold mg;rw[Lu];rfl)];rfl
  refine⟨λm x V=>∃J:Nat,x=hH (J:Int)/\m=E.dN.length-J/\J<=E.dN.length/\(∀s∈E.dN.take J,(!gJ s)=false)/\St w aY [] V,⟨_,0,rfl,rfl,kO _,ea,u⟩,?_⟩;rintro m _ _ ⟨J,rfl,rfl,u9,EC,u⟩ _;refine aM fr (B.ext u.aF) bL I (λ_ Xy=>bW Ey fP Xy rfl rfl λ_ Ay=>aE iW Ay ?_);have M:=DL.flat O2;refine aH ix (M.ext u.aF) (aO (aC (λG3=>?_) λ_=>aJ bL ⟨_,bL,k+1,rfl,rfl,bL,dS ey O (by unfold mg;rw[Lu,iq (by rw[kp bL]at EC;exact EC)];rfl),u⟩))
  refine aM fr (B.ext u.aF) bL I (λ_ XG=>bW Ey fP XG rfl rfl λ_ ED=>aE iW ED ?_);obtain⟨e_x67,W⟩:=gx E.dN (i:=(J:Int).toNat) bL;refine aM ix (M.ext u.aF) bL W (λ_ Z=>aE gn Z (aS uc u (C211 _ _ (G.1.2.1 _ (j0 W))) λ_ he u=>bP (aX (λEE=>?_) λEE=>aJ bL ⟨_,bL,J+1,rfl,rfl,bL,dS EC W EE,u⟩)));refine⟨vb ?_,u.aF⟩;unfold ny;rw[gZ O (show mg nb E=true by unfold mg;rw[gZ W EE];simp)];rfl
 rw[kp bL]at ey;refine⟨vb ?_,u.aF⟩;unfold ny;rw[iq ey];rfl
variable (w:World) (K:Value->g7)
def S236(G B:Value):Prop:=
 jQ (λE u a=>∀_:Env,
 eR (λK2=>lN 9 G λb=>bA .lss 3 u b λc=>cV c (eM g6 (tU 9 G u) λd=>ko g6 B [d] a λe f=>K2 e f) (K2 ff a)) (λg h=>∀_:Env,
 cV g (bB .add 3 u (i 1) λj=>E j h) (K u h))) (λE=>E (i 0) w)
theorem ade(B u:Value)(h:S236 w K B u):CR 236 [B,u] w K:=
 qu 20 (λ_=>.nil) 16 [.tmp 4] Tryz.func236 h
def S246(B G:Value):Prop:=
 cF 287 [B,G] w λa b=>lN 41 a λc=>o0 (λu E d e=>∀_:Env,
 bA .lss 3 d c λf=>cV f (iA 41 a d λg=>lA 3 g e λh=>cF 246 [B,h] e λj k=>eM g6 (Builtin.max_ #[3,3] 3 [E,j].toArray) λl=>bB .add 3 d (i 1) λn=>
 u l n k) (bB .add 3 E (i 1) λo=>K o e)) (λu=>u (i 0) (i 0) b)
theorem adf(B u:Value)(h:S246 w K B u):CR 246 [B,u] w K:=
 qu 24 (λ_=>.nil) 16 [.tmp 4] Tryz.func246 h
def av0:dH:=λi=>match i with
 | 8=>(.of [(0,[]),(1,[]),(2,[]),(3,[]),(4,[]),(5,[]),(6,[]),(7,[]),(8,[]),(9,[]),(10,[]),(11,[4,9]),(12,[])])
 | _=>.nil
def S218(u E:Value):Prop:=
 rA g6 (Instr.box 91 E) w λB a=>cF 185 [u] a λb c=>eM g6 (Op.unary .not b) λd=>cV d (K (.tuple #[(.slice none 0 0),(i 8)]) c) (cF 264 [u] c λe f=>
 cF 240 [e,(.func (Go.Fn.func 262) [].toArray [B].toArray)] f λg h=>cV g (K (.tuple #[(.slice none 0 0),(i 9)]) h) (lA 91 B h λj=>cF 265 [u,(i 0),j] h λk l=>
 K (.tuple #[k,(i 0)]) l))
theorem adg(B u:Value)(h:S218 w K B u):CR 218 [B,u] w K:=
 qu 18 (λ_=>.nil) 48 [.tmp 4,.tmp 5] Tryz.func218 h
def S143(E B u:Value):Prop:=
 lN 91 B λa=>lN 41 u λb=>bA .neq 3 a b λc=>cV c (K (.tuple #[(i 0),(i 1)]) w) (cF 218 [E,B] w λd e=>xT d 0 λf=>xT d 1 λg=>bB .neq 31 g (i 0) λh=>
 cV h (K (.tuple #[(i 0),g]) e) (cF 219 [f,u] e λj k=>xT j 0 λl=>xT j 1 λn=>K (.tuple #[l,n]) k))
theorem adh(u E B:Value)(h:S143 w K u E B):CR 143 [u,E,B] w K:=
 qu 29 (λ_=>.nil) 192 [.tmp 6,.tmp 7] Tryz.func143 h
theorem agA:PL 234:=dG Tryz.func234
theorem aoH:PL 238:=dG Tryz.func238
theorem aoI:PL 236:=dG Tryz.func236
theorem aoJ:PL 237:=dG Tryz.func237
theorem aoK:PL 235:=dG Tryz.func235
theorem LC:PL 180:=dG Tryz.func180
theorem XI:PL 286:=dG Tryz.func286
theorem aoL:PL 243:=dG Tryz.func243
theorem aoM:PL 242:=dG Tryz.func242
theorem XJ:PL 245:=dG Tryz.func245
theorem aoN:PL 287:=dG Tryz.func287
theorem agB:PL 246:=dG Tryz.func246
theorem Sa:PL 185:=dG Tryz.func185
theorem aoO:PL 264:=dG Tryz.func264
theorem agC:PL 265:=dG Tryz.func265
theorem aoP:PL 218:=dG Tryz.func218
theorem aoQ:PL 262:=dG Tryz.func262
theorem agD:PL 143:=dG Tryz.func143
theorem aoR:PL 244:=dG Tryz.func244
theorem aoS:PL 285:=dG Tryz.func285
theorem agE:PL 240:=dG Tryz.func240
theorem aoT:PL 281:=dG Tryz.func281
theorem agF:PL 263:=dG Tryz.func263
theorem XK:PL 225:=dG Tryz.func225
end Go.Proofs.YtpdlpabnlkofmaaGreatDoor
namespace Go.Fw
open Go.MapKept (Stamped IsKey)
open Go.ChangeMaps (setBlock)
def mh(w:World)(b:Nat)(ks:List Int)(vs:List Value):Prop:=
 ∃es clock,w.heap[b]?=some (.map es clock)/\Stamped es clock/\es.toList.map (·.key)=ks.map (mn .i64)/\es.toList.map (·.val)=vs
def kI:List Int->Int->Option Nat
 | [],_=>none
 | x::xs,k=>if x=k then some 0 else(kI xs k).map (· + 1)
theorem j8:∀{ks:List Int}{k:Int}{j:Nat},kI ks k=some j->ks[j]?=some k
 | x::xs,k,j,h=>by
  unfold kI at h
  split at h
  .grind
  .cases hh:kI xs k with
   | none=>grind
   | some i=>rw[hh]at h;simp at h;subst h;simpa using j8 hh
theorem mi:∀{ks:List Int}{k:Int},kI ks k=none↔k ∉ ks
 | [],_=>by simp[kI]
 | x::xs,k=>by
  unfold kI
  by_cases e:x=k
  .simp[e]
  .rw[eb e,Option.map_eq_none_iff,mi,sk]
   grind
theorem rZ:∀{ks:List Int}{k:Int}{j:Nat},ks.Nodup->ks[j]?=some k->kI ks k=some j
 | x::xs,k,0,_,h=>by simp at h;simp[kI,h]
 | x::xs,k,j+1,hn,h=>by
  rw[List.getElem?_cons_succ]at h
  have u:=j0 h
  have:x≠k:=λe=>(IX.1 hn).1 (e▸u)
  simp[kI,this,rZ (IX.1 hn).2 h]
def look{β:Type}(ks:List Int)(vs:List β)(k:Int):Option β:=(kI ks k).bind (vs[·]?)
def px{β:Type}(f:Int->β)(k:Int)(x:β):Int->β:=λj=>if j=k then x else f j
section
variable {P:Program}{w w0 w':World}{A:Nat->Prop}{L:List HP}{b:Nat}{ks:List Int}{vs:List Value}
theorem mh.of_eq(h:mh w b ks vs)(u:w'.heap[b]?=w.heap[b]?):mh w' b ks vs:=by
 grind[mh]
theorem mh.lt(h:mh w b ks vs):b<w.heap.size:=by obtain⟨es,c,h1,_⟩:=h;grind
theorem mh.ext(h:mh w b ks vs)(e:Ext w w'):mh w' b ks vs:=h.of_eq (e.bZ b h.lt λh=>h)
theorem mh.len(h:mh w b ks vs):ks.length=vs.length:=by
 obtain⟨es,c,_,_,h3,h4⟩:=h
 have:=ez List.length h3;grind
theorem mh.nodup(h:mh w b ks vs):ks.Nodup:=by
 obtain⟨es,c,_,h2,h3,h4⟩:=h
 have:=h2.2.2
 grind
def LD(b:Nat)(ks:List Int)(vs:List Value):HP where
 p w F:=mh w b ks vs/\∀k,F k↔k=b
 loc w w' F h hh:=⟨h.1.of_eq (hh b ((h.2 b).2 rfl)),h.2⟩
 lt w F b' h hb:=by rw[(h.2 b').1 hb];exact h.1.lt
theorem Uh{es:Array MapEntry}(h3:es.toList.map (·.key)=ks.map (mn .i64)):∀x∈es.toList,IsKey (.int .i64) x.key:=by
 intro x u
 have:x.key∈es.toList.map (·.key):=n4.2 ⟨x,u,rfl⟩
 rw[h3]at this
 obtain⟨k,_,e⟩:=n4.1 this
 rw[<- e];simp[IsKey]
theorem EF{T:TypeId}{k:Int}{es:Array MapEntry}(u:P.underlying T=some (.int .i64))(B:ks.Nodup)(h3:es.toList.map (·.key)=ks.map (mn .i64)) :
  (kI ks k=none/\(Us T (hH k) es.toList).run P w=.ok none w)\/∃j e,kI ks k=some j/\es.toList[j]?=some e/\e.key=hH k/\(Us T (hH k) es.toList).run P w=.ok (some (j,e.val)) w:=by
 rcases MapKept.findNow_spec (d:=.int .i64) (k:=hH k) (by simp[IsKey]) es.toList 0 (Uh h3)with⟨h1,h2⟩|⟨j,e,h1,h2,h4⟩
 .refine .inl ⟨mi.2 λE=>?_,MapKept.run_findKey u h1⟩
  have:mn .i64 k∈es.toList.map (·.key):=cH
  grind
 refine .inr ⟨j,e,rZ B ?_,h2,h4,by rw[ta]at h1;exact MapKept.run_findKey u h1⟩
 have:(es.toList.map (·.key))[j]?=some (hH k):=cH
 grind
theorem zd{T B E:TypeId}{z:Value}{k:Int}(h:mh w b ks vs)(ht:P.underlying T=some (.map B E))(I:P.underlying B=some (.int .i64))(u:nU P E z) :
  (xY T (.map (some b)) (hH k) false).run P w=.ok ((look ks vs k).getD z) w:=by
 have M:=h.nodup
 obtain⟨es,c,h1,h2,h3,h4⟩:=h
 have G:(zeroValue E).run P w=.ok z w:=by
  unfold nU eh at u
  cases hi:P.info? E with
  | none=>grind
  | some i=>
   rw[hi]at u
   simp only[DY,n3.injEq]at u
   refine fU ?_ w
   unfold zeroValue;rw[cT,lV hi];simp only[l2,u];rfl
 have hc:=MapKept.run_checkKey (P:=P) (w:=w) (kt:=B) (k:=hH k) I (by simp[IsKey]) es.isEmpty 9999
 rcases EF (w:=w) (k:=k) I M h3 with⟨h5,h6⟩|⟨j,e,h5,h6,O,J⟩
 .simp[xY,run_underlying ht,MapKept.run_getObj_map h1,hc,h6,G,Result.andThen,look,h5]
 have:vs[j]?=some e.val:=cH
 simp[xY,run_underlying ht,MapKept.run_getObj_map h1,hc,J,Result.andThen,look,h5,this]
theorem jX(o:Obj)(hb:b<w.heap.size):(setBlock w b o).heap[b]?=some o:=by simp[setBlock,hb]
theorem gC.setBlock(w:World)(b:Nat)(o:Obj):gC (· = b) w (setBlock w b o):=
 ⟨rfl,rfl,rfl,by simp[ChangeMaps.setBlock],λk _ u=>by simp only[ChangeMaps.setBlock];grind⟩
theorem nP{es:Array MapEntry}{clock:Nat}{o:Obj}(h1:w.heap[b]?=some (.map es clock)):(setObj b o).run P w=.ok () (setBlock w b o):=by
 simp[setObj,Sem.run,h1,setBlock]
theorem adi{T I E:TypeId}{v:Value}{k:Int}(h:mh w b ks vs)(ht:P.underlying T=some (.map I E))(M:P.underlying I=some (.int .i64)) :
  ∃w',(wG T (.map (some b)) (hH k) v).run P w=.ok () w'/\gC (· = b) w w'/\
   (match kI ks k with|some j=>mh w' b ks (vs.set j v)|none=>mh w' b (ks++[k]) (vs++[v])):=by
 have V:=h.nodup
 have J:=h.lt
 obtain⟨es,c,h1,h2,h3,h4⟩:=h
 have hc:=MapKept.run_checkKey (P:=P) (w:=w) (kt:=I) (k:=hH k) M (by simp[IsKey]) false 9999
 rcases EF (w:=w) (k:=k) M V h3 with⟨h5,h6⟩|⟨j,e,h5,h6,U,O⟩
 .refine⟨_,?_,gC.setBlock w b (.map (es.push ⟨hH k,v,c⟩) (c+1)),?_⟩
  .simp[wG,run_underlying ht,MapKept.run_getObj_map h1,hc,h6,nP h1,Result.andThen]
  rw[h5]
  refine⟨_,_,jX _ J,MapKept.stamped_push h2 λx W e=>?_,by simp[h3],by simp[h4]⟩
  have:x.key∈es.toList.map (·.key):=n4.2 ⟨x,W,rfl⟩
  rw[h3,e]at this
  obtain⟨k',G,u⟩:=n4.1 this
  simp at u
  exact mi.1 h5 (u▸G)
 have Y:es[j]?=some e:=cH
 have Z:(M8 e.key (hH k)).run P w=.ok (hH k) w:=by
  rw[U];unfold M8;simp[Instr.sameBits]
 refine⟨_,?_,gC.setBlock w b (.map (es.modify j λe=>{e with key:=hH k,val:=v}) c),?_⟩
 .simp[wG,run_underlying ht,MapKept.run_getObj_map h1,hc,O,nP h1,Result.andThen,Y,Z]
 rw[h5]
 have G:∀u,es[j]?=some u->({u with key:=hH k,val:=v}:MapEntry).key=u.key:=λu B=>by
  grind
 refine⟨_,_,jX _ J,MapKept.stamped_modify h2 j _ (λ_ _=>rfl) (λu _ B=>G u B),?_,?_⟩
 .rw[MapKept.modify_keys j _ G,h3]
 rw[<- h4]
 apply wx
 grind
theorem adj{T u E R:TypeId}{M:Array TypeId}{k:Int}(h:mh w b ks vs)(B:M[0]?=some T)(ht:P.underlying T=some (.map u E))(I:P.underlying u=some (.int .i64)) :
  ∃w',(Builtin.delete_ M R [.map (some b),hH k].toArray).run P w=.ok (.tuple #[]) w'/\gC (· = b) w w'/\
   (match kI ks k with|some j=>mh w' b (ks.eraseIdx j) (vs.eraseIdx j)|none=>mh w' b ks vs):=by
 have U:=h.nodup
 have G:=h.lt
 obtain⟨es,c,h1,h2,h3,h4⟩:=h
 have hc:=MapKept.run_checkKey (P:=P) (w:=w) (kt:=u) (k:=hH k) I (by simp[IsKey]) es.isEmpty 9999
 rcases EF (w:=w) (k:=k) I U h3 with⟨h5,h6⟩|⟨j,e,h5,h6,V,O⟩
 .refine⟨_,?_,gC.setBlock w b (.map es c),?_⟩
  .simp[Builtin.delete_,B,run_underlying ht,MapKept.run_getObj_map h1,hc,h6,nP h1,Result.andThen]
  rw[h5]
  exact⟨_,_,jX _ G,h2,h3,h4⟩
 have W:j<es.size:=cH
 refine⟨_,?_,gC.setBlock w b (.map (es.eraseIdxIfInBounds j) c),?_⟩
 .simp[Builtin.delete_,B,run_underlying ht,MapKept.run_getObj_map h1,hc,O,nP h1,Result.andThen]
 rw[h5]
 have J:(es.eraseIdxIfInBounds j).toList=es.toList.eraseIdx j:=by
  simp_all
 refine⟨_,_,jX _ G,MapKept.stamped_erase h2 j,?_,?_⟩
 .rw[J,ChangeMaps.map_eraseIdx,h3,ChangeMaps.map_eraseIdx]
 rw[J,ChangeMaps.map_eraseIdx,h4]
theorem LF{T:TypeId}{K:Value->g7}(u:St w0 A L w)(k:∀b w',St w0 A (LD b [] []::L) w'->K (.map (some b)) w'):rA P (PJ T none) w K:=
 ⟨_,_,rfl,k _ _ (u.new (Ext.push w (.map #[] 0)) (F:=λk=>k=w.heap.size) ⟨⟨#[],0,nc _ _,MapKept.stamped_empty 0,rfl,rfl⟩,λ_=>Iff.rfl⟩ λb hb=>by rw[hb];exact o5 _)⟩
theorem St.LG(u:St w0 A (LD b ks vs::L) w):mh w b ks vs:=by obtain⟨F,h,_⟩:=u.head;exact h.1
end
section
variable {α:Type}[Flat α] {P:Program}{w w0 w':World}{A:Nat->Prop}{L:List HP}{b:Nat}{f:Int->List α}
abbrev CW(s:SV)(x:List α):HP:=bF (hM s) x
def qL(b:Nat)(f:Int->List α):HP:=pZ λks=>pZ λB:List SV=>pZ λu:List (List α)=>fact (f=λk=>(look ks u k).getD []) (sep (LD b ks (B.map hM)) (gY CW B u))
def vA(w:World)(b:Nat)(f:Int->List α):Prop:=∃ks,∃u:List SV,mh w b ks (u.map hM)/\(∀(i:Nat) (k:Int) (s:SV),ks[i]?=some k->u[i]?=some s->dz (λ_=>True) w (hM s) (f k))/\∀k,k ∉ ks->f k=[]
theorem vA.ext(h:vA w b f)(e:Ext w w'):vA w' b f:=by
 obtain⟨ks,u,h1,h2,h3⟩:=h;exact⟨ks,u,h1.ext e,λi k s a c=>(h2 i k s a c).ext e,h3⟩
theorem pP{β:Type}{ks:List Int}{xs:List β}{k:Int}{i:Nat}{x:β}(u:ks.Nodup)(h1:ks[i]?=some k)(h2:xs[i]?=some x):look ks xs k=some x:=by
 unfold look;rw[rZ u h1];exact h2
theorem py{β:Type}{ks:List Int}{xs:List β}{k:Int}(h:k ∉ ks):look ks xs k=none:=by unfold look;rw[mi.2 h];rfl
theorem qL.rd{F:Nat->Prop}(h:(qL b f).p w F):vA w b f:=by
 obtain⟨ks,J,u,I,U,M,h1,h2,_,_⟩:=h
 refine⟨ks,J,h1.1,λi k s B E=>?_,λk B=>by rw[I];dsimp only;rw[py B];rfl⟩
 have V:=BC h2
 have hi:i<u.length:=by have:=(ir.1 E).1;omega
 have G:u[i]?=some u[i]:=kE hi
 have O:St w M [gY CW J u] w:=St.begin h2
 have:=O.aif E G (Φ:=λw=>dz (λ_=>True) w (hM s) u[i]) λh=>(bF.rd h).mono λ_ _=>trivial
 rw[I];dsimp only
 rw[pP h1.1.nodup B G];exact this
theorem St.XL(u:St w0 A (qL b f::L) w):vA w b f:=by obtain⟨F,h,_⟩:=u.head;exact qL.rd h
theorem vA.look{T G E:TypeId}{k:Int}(h:vA w b f)(ht:P.underlying T=some (.map G E))(M:P.underlying G=some (.int .i64))(O:nU P E (.slice none 0 0)) :
  ∃s:SV,(xY T (.map (some b)) (hH k) false).run P w=.ok (hM s) w/\dz (λ_=>True) w (hM s) (f k):=by
 obtain⟨ks,u,h1,h2,h3⟩:=h
 have I:=zd (P:=P) (k:=k) h1 ht M O
 cases vB:kI ks k with
 | none=>
  have:Fw.look ks (u.map hM) k=none:=by unfold Fw.look;grind
  rw[this]at I
  exact⟨cI,I,by rw[h3 k (mi.1 vB)];exact dz.nil _ _⟩
 | some j=>
  have V:=j8 vB
  have U:=h1.len
  have B:j<u.length:=cH
  have J:u[j]?=some u[j]:=kE B
  have:Fw.look ks (u.map hM) k=some (hM u[j]):=by unfold Fw.look;grind
  grind
theorem vA.aoV{T G E:TypeId}{k:Int}(h:vA w0 b f)(ht:P.underlying T=some (.map G E))(M:P.underlying G=some (.int .i64))(O:nU P E (.slice none 0 0)) :
  ∃s:SV,(∀w,Ext w0 w->(xY T (.map (some b)) (hH k) false).run P w=.ok (hM s) w)/\dz (λ_=>True) w0 (hM s) (f k):=by
 obtain⟨ks,u,h1,h2,h3⟩:=h
 have I:∀w,Ext w0 w->_:=λw e=>zd (P:=P) (k:=k) (h1.ext e) ht M O
 cases vB:kI ks k with
 | none=>
  have:Fw.look ks (u.map hM) k=none:=by unfold Fw.look;grind
  rw[this]at I
  exact⟨cI,I,by rw[h3 k (mi.1 vB)];exact dz.nil _ _⟩
 | some j=>
  have V:=j8 vB
  have U:=h1.len
  have B:j<u.length:=cH
  have J:u[j]?=some u[j]:=kE B
  have:Fw.look ks (u.map hM) k=some (hM u[j]):=by unfold Fw.look;grind
  grind
theorem G4{T u E:TypeId}{k:Int}{K:Value->Prop}(h:vA w0 b f)(e:Ext w0 w)(ht:P.underlying T=some (.map u E))(B:P.underlying u=some (.int .i64))(I:nU P E (.slice none 0 0))
  (G:∀s:SV,dz (λ_=>True) w0 (hM s) (f k)->K (hM s)):J2 P (xY T (.map (some b)) (hH k) false) w K:=by
 obtain⟨s,h1,h2⟩:=h.aoV (P:=P) (k:=k) ht B I;exact⟨_,h1 w e,G s h2⟩
def LH(b:Nat)(f:Int->List α)(k:Int)(s:SV):HP:=pZ λks=>pZ λB:List SV=>pZ λE:List (List α)=>pZ λvs:List Value=>
 fact ((∀u,u≠k->f u=(look ks E u).getD [])/\look ks vs k=(kI ks k).map (λ_=>hM s)/\(kI ks k=none->s=cI)/\vs.length=B.length/\∀(i:Nat) (u:Int),ks[i]?=some u->u≠k->vs[i]?=(B[i]?).map hM) (sep (LD b ks vs) (gY CW B E))
theorem St.LI{k:Int}(u:St w0 A (qL b f::L) w):∃s:SV,St w0 A (bF (hM s) (f k)::LH b f k s::L) w:=by
 obtain⟨ks,u⟩:=u.ep;obtain⟨B,u⟩:=u.ep;obtain⟨E,u⟩:=u.ep;obtain⟨M,u⟩:=u.l6
 replace u:=u.split
 have V:=u.LG
 have hl:=V.len
 have W:=u.p1.iP
 have Y:=V.nodup
 rw[mv]at hl
 cases vB:kI ks k with
 | none=>
  refine⟨cI,?_⟩
  have hx:look ks E k=none:=by unfold look;rw[vB];rfl
  have e:f k=[]:=by rw[M];dsimp only;rw[hx];rfl
  rw[e]
  refine(St.er ks (St.er B (St.er E (St.er (B.map hM) (St.nZ ⟨λJ _=>by rw[M],by unfold look;rw[vB];rfl,λ_=>rfl,by rw[mv],λi J _ _=>by rw[og]⟩ (St.join u)))))).eW
 | some j=>
  have O:=j8 vB
  have Z:=(ir.1 O).1
  have G:B[j]?=some (B[j]'(bL)):=kE _
  have I:E[j]?=some (E[j]'(bL)):=kE _
  refine⟨B[j]'(bL),?_⟩
  have e:f k=E[j]'(bL):=by rw[M];dsimp only;rw[pP Y O I];rfl
  rw[e]
  have h1:=(u.p1.focus G I).p1
  have h2:=(h1.eW (α:=α)).p1
  have h3:St w0 A (CW (cI:SV) ([]:List α)::nw CW B E j::_::_::L) w:=h2.p1
  have h4:=h3.Ef bL W
  have h5:=h4.p2
  refine(St.er ks (St.er (B.set j cI) (St.er (E.set j []) (St.er (B.map hM) (St.nZ ⟨λJ U=>?_,by unfold look;rw[vB];simp[G],λh=>(by cases vB.symm.trans h),ea,λi J hi U=>?_⟩ (St.join h5)))))).p1
  .rw[M];dsimp only
   unfold look
   cases hq:kI ks J with
   | none=>rfl
   | some i=>
    have:j≠i:=λe=>U (by have:=j8 hq;rw[<- e,O]at this;exact(n3.inj this).symm)
    simp[this]
  .rw[og,E6]
   rintro rfl
   rw[O]at hi;exact U (n3.inj hi).symm
theorem St.BL{T B E:TypeId}{k:Int}{s:SV}(u:St w0 A (LH b f k s::L) w)(ht:P.underlying T=some (.map B E))(G:P.underlying B=some (.int .i64))(I:nU P E (.slice none 0 0)) :
  (xY T (.map (some b)) (hH k) false).run P w=.ok (hM s) w:=by
 obtain⟨ks,u⟩:=u.ep;obtain⟨M,u⟩:=u.ep;obtain⟨J,u⟩:=u.ep;obtain⟨vs,u⟩:=u.ep;obtain⟨⟨_,h2,h3,_⟩,u⟩:=u.l6
 have:=zd (P:=P) (k:=k) u.split.LG ht G I
 rw[h2]at this
 cases vB:kI ks k with
 | none=>rw[vB]at this;rw[h3 vB];exact this
 | some j=>rw[vB]at this;exact this
theorem St.XM{k:Int}{s:SV}{xs:List α}(u:St w0 A (bF (hM s) xs::LH b f k s::L) w):St w0 A (qL b (px f k xs)::L) w:=by
 replace u:=u.p1
 obtain⟨ks,u⟩:=u.ep;obtain⟨E,u⟩:=u.ep;obtain⟨I,u⟩:=u.ep;obtain⟨vs,u⟩:=u.ep;obtain⟨⟨hf,h2,h3,hvs,XN⟩,u⟩:=u.l6
 replace u:=u.split
 have Y:=u.LG
 have hl:=Y.len
 have Z:=Y.nodup
 have Ga:=u.p1.iP
 cases vB:kI ks k with
 | none=>
  have W:=mi.1 vB
  have G:vs=E.map hM:=wx λi=>by
   cases hi:ks[i]? with
   | none=>rw[A4]at hi;rw[mC bL,mC (by rw[mv];omega)]
   | some B=>rw[XN i B hi (λe=>W (e▸j0 hi)),og]
  have hx:xs=[]:=by
   obtain⟨F,h,_⟩:=u.p2.head
   rw[h3 vB]at h
   rcases h with⟨_,h,_⟩|⟨b',cap,rest,h,_⟩
   .exact h
   .cases h
  subst hx
  refine St.er ks (St.er E (St.er I (St.nZ ?_ (St.join ?_))))
  .funext B
   unfold px
   by_cases e:B=k
   .subst e;rw[ee rfl,py W];rfl
   .rw[eb e,hf B e]
  .rw[<- G];exact u.p2.drop
 | some j=>
  have U:=j8 vB
  have hjk:=(ir.1 U).1
  have J:E[j]?=some (E[j]'(bL)):=kE _
  have M:I[j]?=some (I[j]'(bL)):=kE _
  have V:vs[j]?=some (hM s):=by unfold look at h2;rw[vB]at h2;exact h2
  have h6:=((u.p1.focus J M).drop).p2
  have h7:St w0 A (CW s xs::nw CW E I j::_::L) w:=h6.p0
  have h8:=h7.Ef bL Ga
  refine St.er ks (St.er (E.set j s) (St.er (I.set j xs) (St.nZ ?_ (St.join ?_))))
  .funext B
   unfold px
   by_cases e:B=k
   .subst e
    rw[ee rfl,pP Z U (x:=xs) (by rw[AS bL])];rfl
   .rw[eb e,hf B e]
    unfold look
    cases hq:kI ks B with
    | none=>rfl
    | some i=>
     have:j≠i:=λO=>e (by have:=j8 hq;rw[<- O,U]at this;exact(n3.inj this).symm)
     simp[this]
  .have e:(E.set j s).map hM=vs:=by
    apply wx
    intro i
    rw[og]
    by_cases e:j=i
    .subst e;rw[AS bL,V];rfl
    .rw[E6 e]
     cases hi:ks[i]? with
     | none=>rw[A4]at hi;rw[mC (show vs.length<=i by omega),mC (show E.length<=i by omega)];rfl
     | some B=>rw[XN i B hi λO=>e (by rw[O]at hi;have h1:=rZ Z hi;rw[vB]at h1;exact n3.inj h1)]
   rw[e];exact h8.p1
omit [Flat α]in
theorem Ui{f:Int->List α}{k:Int}:px f k (f k)=f:=by
 grind[px]
theorem LJ{T Kt E:TypeId}{k:Int}{s s':SV}{xs:List α}{K:g7}(u:St w0 A (bF (hM s') xs::LH b f k s::L) w)(ht:P.underlying T=some (.map Kt E))(U:P.underlying Kt=some (.int .i64))
  (kk:∀w',St w0 A (qL b (px f k xs)::L) w'->K w'):VG P (wG T (.map (some b)) (hH k) (hM s')) w K:=by
 replace u:=u.p1
 obtain⟨ks,u⟩:=u.ep;obtain⟨G,u⟩:=u.ep;obtain⟨I,u⟩:=u.ep;obtain⟨vs,u⟩:=u.ep;obtain⟨⟨hf,h2,h3,hvs,XN⟩,u⟩:=u.l6
 replace u:=u.split
 have hm:=u.LG
 have hl:=hm.len
 have hn:=hm.nodup
 have Ga:=u.p1.iP
 obtain⟨w',r1,r2,J⟩:=adi (P:=P) (v:=hM s') (k:=k) hm ht U
 refine⟨w',r1,kk w' ?_⟩
 cases vB:kI ks k with
 | none=>
  rw[vB]at J
  have h5:St w0 A (LD b (ks++[k]) (vs++[hM s'])::_::_::L) w':=u.qW λF V=>⟨F,⟨J,V.2⟩,λb hb=>.inl hb,r2.mono λk U=>(V.2 k).2 U⟩
  have Ob:=mi.1 vB
  have M:vs=G.map hM:=wx λi=>by
   cases hi:ks[i]? with
   | none=>rw[A4]at hi;rw[mC bL,mC (by rw[mv];omega)]
   | some B=>rw[XN i B hi (λe=>Ob (e▸j0 hi)),og]
  have h6:=h5.p1
  have h7:St w0 A (gY CW (G++[s']) (I++[xs])::_::L) w':=St.Ee (H:=CW (α:=α)) (p:=s') (x:=xs) h6.p2.p1
  refine St.er (ks++[k]) (St.er (G++[s']) (St.er (I++[xs]) (St.nZ ?_ (St.join ?_))))
  .funext B
   unfold px
   by_cases e:B=k
   .subst e
    rw[ee rfl,pP (i:=ks.length) J.nodup ea (x:=xs) (by rw[List.getElem?_append_right bL];simp[show ks.length-I.length=0 from bL])];rfl
   .rw[eb e,hf B e]
    by_cases Z:B∈ks
    .obtain⟨i,hi,hik⟩:=DX Z
     have O:ks[i]?=some B:=by rw[kE hi,hik]
     have W:I[i]?=some (I[i]'(bL)):=kE _
     rw[pP hn O W,pP (i:=i) J.nodup (by rw[s4 hi];exact O) (by rw[s4 bL];exact W)]
    .rw[py Z,py (by simp[Z,e])]
  .have e:(G++[s']).map hM=vs++[hM s']:=by rw[M,u1];rfl
   rw[e];exact h7.p1
 | some j=>
  rw[vB]at J
  have h5:St w0 A (LD b ks (vs.set j (hM s'))::_::_::L) w':=u.qW λF V=>⟨F,⟨J,V.2⟩,λb hb=>.inl hb,r2.mono λk U=>(V.2 k).2 U⟩
  have hj:=j8 vB
  have hjk:=(ir.1 hj).1
  have Y:G[j]?=some (G[j]'(bL)):=kE _
  have hxj:I[j]?=some (I[j]'(bL)):=kE _
  have h6:=((h5.p1.focus Y hxj).drop).p2
  have h7:St w0 A (CW s' xs::nw CW G I j::_::L) w':=h6.p0
  have h8:=h7.Ef bL Ga
  refine St.er ks (St.er (G.set j s') (St.er (I.set j xs) (St.nZ ?_ (St.join ?_))))
  .funext B
   unfold px
   by_cases e:B=k
   .subst e
    rw[ee rfl,pP hn hj (x:=xs) (by rw[AS bL])];rfl
   .rw[eb e,hf B e]
    unfold look
    cases hq:kI ks B with
    | none=>rfl
    | some i=>
     have:j≠i:=λe'=>e (by have:=j8 hq;rw[<- e',hj]at this;exact(n3.inj this).symm)
     simp[this]
  .have e:(G.set j s').map hM=vs.set j (hM s'):=by
    apply wx
    intro i
    rw[og]
    by_cases e:j=i
    .subst e;rw[AS bL,AS bL];rfl
    .rw[E6 e,E6 e]
     cases hi:ks[i]? with
     | none=>rw[A4]at hi;rw[mC (show vs.length<=i by omega),mC (show G.length<=i by omega)];rfl
     | some B=>rw[XN i B hi λe'=>e (by rw[e']at hi;have h1:=rZ hn hi;rw[vB]at h1;exact n3.inj h1)]
   rw[e];exact h8.p1
theorem AH{T:TypeId}{K:Value->g7}(u:St w0 A L w)(k:∀b w',St w0 A (qL b (λ_=>([]:List α))::L) w'->K (.map (some b)) w'):rA P (PJ T none) w K:=
 LF u λb w' h=>k b w' (St.er [] (St.er [] (St.er ([]:List (List α)) (St.nZ rfl (St.join ((h.new (Ext.refl w') (H:=gY CW [] []) (F:=aY) (λ_ h=>h) λ_ h=>h.elim).p1))))))
theorem LK{T Kt E R:TypeId}{k:Int}{A2:Array TypeId}{K:Value->g7}(u:St w0 A (qL b f::L) w)(ha:A2[0]?=some T)(ht:P.underlying T=some (.map Kt E))(U:P.underlying Kt=some (.int .i64))
  (kk:∀v w',St w0 A (qL b (px f k [])::L) w'->K v w'):rA P (Builtin.delete_ A2 R [.map (some b),hH k].toArray) w K:=by
 obtain⟨ks,u⟩:=u.ep;obtain⟨O,u⟩:=u.ep;obtain⟨M,u⟩:=u.ep;obtain⟨hf,u⟩:=u.l6
 replace u:=u.split
 have Z:=u.LG
 have hl:=Z.len
 have Ga:=u.p1.iP
 have hn:=Z.nodup
 rw[mv]at hl
 obtain⟨w',r1,r2,I⟩:=adj (P:=P) (R:=R) (k:=k) Z ha ht U
 refine⟨_,w',r1,kk _ w' ?_⟩
 cases vB:kI ks k with
 | none=>
  rw[vB]at I
  have h5:St w0 A (LD b ks (O.map hM)::_::L) w':=u.qW λF V=>⟨F,⟨I,V.2⟩,λb hb=>.inl hb,r2.mono λk U=>(V.2 k).2 U⟩
  refine St.er ks (St.er O (St.er M (St.nZ ?_ (St.join h5))))
  funext k'
  unfold px
  by_cases e:k'=k
  .subst e;rw[ee rfl];unfold look;rw[vB];rfl
  .rw[eb e,hf]
 | some j=>
  rw[vB]at I
  have hj:=j8 vB
  have hjk:=(ir.1 hj).1
  have h5:St w0 A (LD b (ks.eraseIdx j) ((O.map hM).eraseIdx j)::_::L) w':=u.qW λF V=>⟨F,⟨I,V.2⟩,λb hb=>.inl hb,r2.mono λk U=>(V.2 k).2 U⟩
  have W:O[j]?=some (O[j]'(bL)):=kE _
  have hxj:M[j]?=some (M[j]'(bL)):=kE _
  have h6:=(h5.p1.focus W hxj).drop.T5
  dsimp only at I
  rw[<- ChangeMaps.map_eraseIdx]at h6 I
  refine St.er (ks.eraseIdx j) (St.er (O.eraseIdx j) (St.er (M.eraseIdx j) (St.nZ ?_ (St.join h6.p1))))
  funext k'
  unfold px
  by_cases e:k'=k
  .subst e
   rw[ee rfl,py];rfl
   intro Kj
   obtain⟨i,hi,B⟩:=DX Kj
   rw[List.getElem_eraseIdx]at B
   split at B
   .have:=rZ (j:=i) hn (k:=k') (by rw[<- B];exact kE _);rw[vB]at this;have:=n3.inj this;omega
   .have:=rZ (j:=i+1) hn (k:=k') (by rw[<- B];exact kE _);rw[vB]at this;have:=n3.inj this;omega
  .rw[eb e,hf];dsimp only
   by_cases Y:k'∈ks
   .obtain⟨i,hi,B⟩:=DX Y
    have G:ks[i]?=some k':=by rw[kE hi,B]
    have J:M[i]?=some (M[i]'(bL)):=kE _
    have hij:i≠j:=λe'=>e (by rw[e',hj]at G;exact(n3.inj G).symm)
    rw[pP hn G J]
    by_cases nB:i<j
    .rw[pP (i:=i) I.nodup (by rw[P5 nB];exact G) (by rw[P5 nB];exact J)]
    .rw[pP (i:=i-1) I.nodup (by rw[P8 bL,show i-1+1=i from bL];exact G) (by rw[P8 bL,show i-1+1=i from bL];exact J)]
   .rw[py Y,py λh=>Y ((List.eraseIdx_sublist ks j).subset h)]
end
section
variable {α:Type}[Flat α] {P:Program}{w w0 w':World}{A S:Nat->Prop}{L:List HP}{xs ys:List α}
theorem O3{T T2 E I b o dn dc:Nat}{z:Option Nat}{R:TypeId}{src:Value}{cs:List Value}(ht:eI P T=some (E,l1 α,I,z))(hb:qx w b cs)(u:dz S w src ys)
  (U:ys.length<=dn) (Y:o+ys.length*l1 α<=cs.length) :
  ∃w',(Builtin.copy_ #[T,T2] R [.slice (some ⟨b,o,none⟩) dn dc,src].toArray).run P w=.ok (hH ys.length) w'/\qx w' b (iV cs o (flat ys))/\gC (· = b) w w':=by
 obtain⟨B,O,hi,M,yR,_⟩:=fq ht
 have V:=xD (α:=α) (P:=P) (sz:=l1 α) rfl u
 have rd:=u
 obtain⟨Z,W,rfl,G,J⟩:=rd
 obtain⟨w',h1,h2,h3⟩:=mF (P:=P) (o:=o) (flat ys) 0 cs w hb (by rw[dF];omega) zZ
 refine⟨w',?_,bL,h3⟩
 simp[Builtin.copy_,run_underlying B,sizeOf,typeInfo,hi,Builtin.lenOf,Em U,V,M,h1,goInt]
theorem LL{T T2 E kR:Nat}{z:Option Nat}{R:TypeId}{v src:Value}{K:Value->g7}(I:St w0 A (bF v xs::L) w)(ht:eI P T=some (E,l1 α,kR,z))(G:dz S w src ys)(B:ys.length<=xs.length)
  (k:∀w',St w0 A (bF v (ys++xs.drop ys.length)::L) w'->K (hH ys.length) w'):rA P (Builtin.copy_ #[T,T2] R [v,src].toArray) w K:=by
 obtain⟨U,F,U',g1,g2,g3,g4,g5⟩:=I.tF
 rcases g1 with⟨rfl,rfl,hF⟩|⟨b,cap,rest,rfl,hb,O,hF⟩
 .obtain rfl:ys=[]:=by simpa using B
  obtain⟨Y,inf,hi,oZ,yR,_⟩:=fq ht
  have M:=xD (α:=α) (P:=P) (sz:=l1 α) rfl G
  obtain⟨sa,Wv,rfl,Z,hs3⟩:=G
  refine⟨_,w,?_,k w I⟩
  simp at M
  simp[Builtin.copy_,run_underlying Y,sizeOf,typeInfo,hi,Builtin.lenOf,oZ,M,goInt]
 have hle:ys.length*l1 α<=xs.length*l1 α:=Nat.mul_le_mul_right _ B
 obtain⟨w',h1,h2,h3⟩:=O3 (P:=P) (o:=0) (dn:=xs.length) (dc:=cap) (T2:=T2) (R:=R) ht hb G B (by rw[kH,dF];omega)
 refine⟨_,w',h1,k w' (I.qW λF' u=>?_)⟩
 rcases u with⟨h,_⟩|⟨b',D2,J,W,hb',hl',u⟩
 .cases h
 simp only[Value.slice.injEq,n3.injEq,Addr.mk.injEq,and_true,true_and]at W
 obtain⟨rfl,rfl⟩:=W
 refine⟨F',.inr ⟨b,cap,rest,?_,?_,?_,u⟩,λb hb=>.inl hb,h3.mono λk hk=>(u k).2 hk⟩
 .congr 1;rw[kH,pd];omega
 .have e:flat xs=[]++flat (xs.take ys.length)++flat (xs.drop ys.length):=by rw[List.nil_append,<- ig,o1]
  have:=lX [] (flat (xs.take ys.length)) (flat (xs.drop ys.length)++rest) (flat ys) (by rw[dF,dF,lQ,Em B])
  rw[List.length_nil]at this
  rw[e,mX,this]at h2
  rw[ig,mX];exact h2
 have V:(ys++xs.drop ys.length).length=xs.length:=by rw[kH,pd];omega
 exact⟨by rw[V];exact O.1,by have:=O.2;rw[kH,dF]at this |-;rw[V];exact this⟩
end
section
variable {P:Program}{w w0 w':World}{A:Nat->Prop}{L:List HP}{b r:Nat}
def G5(r m since:Nat)(seen:Array Nat):HP where
 p w F:=w.heap[r]?=some (.mapIter (some m) since seen since)/\∀k,F k↔k=r
 loc w w' F h hh:=⟨(hh r ((h.2 r).2 rfl)).trans h.1,h.2⟩
 lt w F b' h hb:=cH
theorem Uj{T u E:TypeId}{es:Array MapEntry}{clock:Nat}{K:Value->g7}(B:St w0 A L w)(ht:P.underlying T=some (.map u E))(hb:w.heap[b]?=some (.map es clock))
  (k:∀r w',St w0 A (G5 r b clock #[]::L) w'->K (.pointer (some ⟨r,0,none⟩)) w'):rA P (Instr.range T (.map (some b))) w K:=
 ⟨_,_,run_range_map w T u E b es clock ht hb,k _ _ (B.new (Ext.push w _) (F:=λk=>k=w.heap.size) ⟨nc _ _,λ_=>Iff.rfl⟩ λb hb=>by rw[hb];exact o5 _)⟩
theorem XO{T since:Nat}{seen:Array Nat}{es:Array MapEntry}{K:Value->g7}(u:St w0 A (G5 r b since seen::L) w)(hb:w.heap[b]?=some (.map es since))(hold:∀x∈es.toList,x.born<since)
  (O:(leftOf es seen).size=0->K (.tuple #[.bool false]) w)
  (I:∀e w',e∈(leftOf es seen).toList->St w0 A (G5 r b since (seen.push e.born)::L) w'->K (.tuple #[.bool true,e.key,e.val]) w'):rA P (Instr.next (.pointer (some ⟨r,0,none⟩)) false T) w K:=by
 obtain⟨F,h,_⟩:=u.head
 rcases run_next_at (P:=P) w T r b since since seen es since h.1 hb hold (o5 _)with⟨h1,h2⟩|⟨e,U,E,G,h2⟩
 .exact⟨_,w,h2,O h1⟩
 have J:St w0 A (G5 r b since seen::L) E:=by
  rcases G with rfl|rfl
  .exact u
  .exact u.ext ⟨rfl,rfl,rfl,o5 _,λ_ _ _=>rfl⟩
 refine⟨_,_,h2,I e _ U (J.qW λF B=>⟨F,⟨jX _ (uT B.1),B.2⟩,λb hb=>.inl hb,(gC.setBlock E r _).mono λk M=>(B.2 k).2 M⟩)⟩
theorem Uk{since:Nat}{seen:Array Nat}{es:Array MapEntry}{e:MapEntry}{K:Value->Prop}(B:St w0 A (G5 r b since (seen.push e.born)::L) w)(hb:w.heap[b]?=some (.map es since))(u:e∈es.toList)(E:(es.toList.map (·.born)).Nodup)
  (k:K (.tuple #[e.key,e.val])):J2 P (Instr.entry (.pointer (some ⟨r,0,none⟩))) w K:=by
 obtain⟨F,h,_⟩:=B.head
 exact⟨_,run_entry_at w r b since seen es since e h.1 hb u E,k⟩
theorem EG{o:Obj}(h:w.heap[b]?=some o)(e:Ext w w'):w'.heap[b]?=some o:=(e.bZ b (uT h) λh=>h).trans h
theorem wM{seen:Array Nat}{x y:Nat}(h:(seen.push x).contains y=true):seen.contains y=true\/y=x:=by
 grind
theorem born_inj{es:Array MapEntry}(B:(es.toList.map (·.born)).Nodup){e u:MapEntry}(h:e∈es.toList)(E:u∈es.toList)(hb:e.born=u.born):e=u:=by
 obtain⟨i,hi,rfl⟩:=DX h
 obtain⟨j,G,rfl⟩:=DX E
 have:=(aaX (i:=i) (j:=j) (h₀:=by grind) (h₁:=by grind) B).1 cH
 grind
end
section
variable {P:Program}{w w0 w':World}{A:Nat->Prop}{L:List HP}{b r:Nat}
theorem bD{f:FuncId}{args:List Value}{H:HP}{H':Value->HP}{Φ:Value->g7}{K:Value->g7}(pl:Plain P f)(u:St w0 A (H::L) w)
  (hc:∀F,H.p w F->(∀w',gC F w w'->St w0 A L w')->Calls P f args.toArray w (sK λv w'=>Φ v w'/\mH F (H' v) w w')) (k:∀v w',Φ v w'->St w0 A (H' v::L) w'->K v w'):Cm P f args w K:=by
 obtain⟨U,F,I,h1,h2,h3,h4,h5⟩:=u.tF
 refine dO pl (hc F h1 λw' E=>⟨u.aF.trans E (λ_ h=>h) λb hb B=>(h2 b B).elim id λM=>bL,I,h5.loc λb hb=>E.bZ b (h5.lt b hb) λB=>h3 b B hb⟩) λv w' ⟨G,J⟩=>k v w' G (u.WZ h2 h3 h5 J)
theorem EH{g:FuncId}{args first cap:List Value}{H:HP}{H':Value->HP}{Φ:Value->g7}{K:Value->g7}(pl:Plain P g)(u:St w0 A (H::L) w)
  (hc:∀F,H.p w F->(∀w',gC F w w'->St w0 A L w')->Calls P g (first++args++cap).toArray w (sK λv w'=>Φ v w'/\mH F (H' v) w w')) (k:∀v w',Φ v w'->St w0 A (H' v::L) w'->K v w'):ko P (.func (.func g) first.toArray cap.toArray) args w K:=by
 obtain⟨U,F,I,h1,h2,h3,h4,h5⟩:=u.tF
 refine gS pl (hc F h1 λw' E=>⟨u.aF.trans E (λ_ h=>h) λb hb B=>(h2 b B).elim id λM=>bL,I,h5.loc λb hb=>E.bZ b (h5.lt b hb) λB=>h3 b B hb⟩) λv w' ⟨G,J⟩=>k v w' G (u.WZ h2 h3 h5 J)
end
def Has(H:HP)(w:World):Prop:=∃F,H.p w F
def St.has{w w0:World}{A:Nat->Prop}{L:List HP}{H:HP}(u:St w0 A (H::L) w):Has H w:=by obtain⟨F,h,_⟩:=u.head;exact⟨F,h⟩
theorem Has.ext{H:HP}{w w':World}(h:Has H w)(e:Ext w w'):Has H w':=by
 obtain⟨F,h⟩:=h;exact⟨F,H.loc _ _ _ h λb hb=>e.bZ b (H.lt _ _ _ h hb) λx=>x⟩
def Has.st{H:HP}{w:World}(h:Has H w):∃F,St w F [H] w:=by obtain⟨F,h⟩:=h;exact⟨F,St.begin h⟩
abbrev SI:=ByteArray×Int
def Sb(p:SI):Value×Value:=(.string p.1,hH p.2)
def uy(w:World)(b:Nat)(l:List SI):Prop:=
 ∃es clock,w.heap[b]?=some (.map es clock)/\Stamped es clock/\(es.toList.map λe=>(e.key,e.val)).Perm (l.map Sb)
def eC:List SI->ByteArray->Int
 | [],_=>0
 | p::r,k=>if p.1=k then p.2 else eC r k
theorem uz:∀{l:List SI}{p:SI},(l.map (·.1)).Nodup->p∈l->eC l p.1=p.2
 | q::r,p,hn,hm=>by
  rw[List.map_cons,IX]at hn
  rcases sk.1 hm with rfl|hm
  .unfold eC;grind
  .have:q.1≠p.1:=λe=>hn.1 (n4.2 ⟨p,hm,e.symm⟩)
   unfold eC;rw[eb this];exact uz hn.2 hm
theorem ze:∀{l:List SI}{k:ByteArray},(∀p∈l,p.1≠k)->eC l k=0
 | [],_,_=>rfl
 | q::r,k,h=>by
  unfold eC;rw[eb (h q (List.mem_cons_self ..))];exact ze λp u=>h p (List.mem_cons_of_mem _ u)
def O4{l:List SI}{k:ByteArray}(E:(l.map (·.1)).Nodup)(B:∀p∈l,p.2≠0)(h:eC l k=0):∀p∈l,p.1≠k:=λp u e=>by
 subst e;exact B p u ((uz E u).symm.trans h)
section
variable {P:Program}{w w0 w':World}{A:Nat->Prop}{L:List HP}{b:Nat}{l:List SI}
theorem uy.of_eq(h:uy w b l)(u:w'.heap[b]?=w.heap[b]?):uy w' b l:=by
 grind[uy]
theorem uy.lt(h:uy w b l):b<w.heap.size:=by obtain⟨es,c,h1,_⟩:=h;grind
theorem uy.nodup(h:uy w b l):(l.map (·.1)).Nodup:=by
 obtain⟨es,c,_,h2,h3⟩:=h
 have h4:=(h3.map Prod.fst)
 rw[GG,GG]at h4
 have h5:(l.map λp=>Cv p.1).Nodup:=h4.nodup_iff.1 h2.2.2
 grind
theorem uy.perm{u:List SI}(h:uy w b l)(B:l.Perm u):uy w b u:=by
 obtain⟨es,c,h1,h2,h3⟩:=h;exact⟨es,c,h1,h2,h3.trans (B.map _)⟩
def mZ(b:Nat)(l:List SI):HP where
 p w F:=uy w b l/\∀k,F k↔k=b
 loc w w' F h hh:=⟨h.1.of_eq (hh b ((h.2 b).2 rfl)),h.2⟩
 lt w F b' h hb:=by rw[(h.2 b').1 hb];exact h.1.lt
theorem XP{es:Array MapEntry}(h3:(es.toList.map λe=>(e.key,e.val)).Perm (l.map Sb)){e:MapEntry}(B:e∈es.toList):∃p∈l,e.key=.string p.1/\e.val=hH p.2:=by
 have:(e.key,e.val)∈l.map Sb:=h3.mem_iff.1 (n4.2 ⟨e,B,rfl⟩)
 obtain⟨p,E,u⟩:=n4.1 this
 unfold Sb at u
 grind
theorem XQ{es:Array MapEntry}(h3:(es.toList.map λe=>(e.key,e.val)).Perm (l.map Sb)){p:SI}(B:p∈l):∃e∈es.toList,e.key=.string p.1/\e.val=hH p.2:=by
 have:Sb p∈es.toList.map λe=>(e.key,e.val):=h3.mem_iff.2 (n4.2 ⟨p,B,rfl⟩)
 obtain⟨e,E,u⟩:=n4.1 this
 unfold Sb at u
 grind
theorem G6{T:TypeId}{k:ByteArray}{es:Array MapEntry}(G:P.underlying T=some .string)(h3:(es.toList.map λe=>(e.key,e.val)).Perm (l.map Sb)) :
  ((∀p∈l,p.1≠k)/\(Us T (.string k) es.toList).run P w=.ok none w)\/∃j p,p∈l/\p.1=k/\(Us T (.string k) es.toList).run P w=.ok (some (j,hH p.2)) w:=by
 rcases MapKept.findNow_spec (d:=.string) (k:=.string k) (by simp[IsKey]) es.toList 0 (λx E=>by obtain⟨p,_,e,_⟩:=XP h3 E;rw[e];simp[IsKey])with⟨h1,h2⟩|⟨j,e,h1,h2,h4⟩
 .refine .inl ⟨λp B e=>?_,MapKept.run_findKey G h1⟩
  obtain⟨x,E,u,_⟩:=XQ h3 B
  grind
 obtain⟨p,B,u,I⟩:=XP h3 (j0 h2)
 rw[h4]at u;injection u with u
 refine .inr ⟨j,p,B,u.symm,?_⟩
 rw[ta,I]at h1
 exact MapKept.run_findKey G h1
theorem LM{T B E:TypeId}{k:ByteArray}(h:uy w b l)(ht:P.underlying T=some (.map B E))(I:P.underlying B=some .string)(u:nU P E (hH 0)) :
  (xY T (.map (some b)) (.string k) false).run P w=.ok (hH (eC l k)) w:=by
 have M:=h.nodup
 obtain⟨es,c,h1,h2,h3⟩:=h
 have G:(zeroValue E).run P w=.ok (hH 0) w:=by
  unfold nU eh at u
  cases hi:P.info? E with
  | none=>grind
  | some i=>
   rw[hi]at u
   simp only[DY,n3.injEq]at u
   refine fU ?_ w
   unfold zeroValue;rw[cT,lV hi];simp only[l2,u];rfl
 have hc:=MapKept.run_checkKey (P:=P) (w:=w) (kt:=B) (k:=.string k) I (by simp[IsKey]) es.isEmpty 9999
 rcases G6 (w:=w) (k:=k) I h3 with⟨h5,h6⟩|⟨j,p,h5,h6,J⟩
 .simp[xY,run_underlying ht,MapKept.run_getObj_map h1,hc,h6,G,Result.andThen,ze h5]
 subst h6
 simp[xY,run_underlying ht,MapKept.run_getObj_map h1,hc,J,Result.andThen,uz M h5]
theorem LN{T u E:TypeId}{v:Int}{k:ByteArray}(h:uy w b l)(ht:P.underlying T=some (.map u E))(B:P.underlying u=some .string)(U:∀p∈l,p.1≠k) :
  ∃w',(wG T (.map (some b)) (.string k) (hH v)).run P w=.ok () w'/\gC (· = b) w w'/\uy w' b (l++[(k,v)]):=by
 have G:=h.lt
 obtain⟨es,c,h1,h2,h3⟩:=h
 have hc:=MapKept.run_checkKey (P:=P) (w:=w) (kt:=u) (k:=.string k) B (by simp[IsKey]) false 9999
 rcases G6 (w:=w) (k:=k) B h3 with⟨h5,h6⟩|⟨j,p,h5,h6,J⟩
 .refine⟨_,?_,gC.setBlock w b (.map (es.push ⟨.string k,hH v,c⟩) (c+1)),?_⟩
  .simp[wG,run_underlying ht,MapKept.run_getObj_map h1,hc,h6,nP h1,Result.andThen]
  refine⟨_,_,jX _ G,MapKept.stamped_push h2 λx I e=>?_,?_⟩
  .obtain⟨p,O,M,_⟩:=XP h3 I
   grind
  rw[aaf,u1,u1]
  exact h3.append (List.Perm.refl _)
 grind
theorem LO{T:TypeId}{K:Value->g7}(u:St w0 A L w)(k:∀b w',St w0 A (mZ b []::L) w'->K (.map (some b)) w'):rA P (PJ T none) w K:=
 ⟨_,_,rfl,k _ _ (u.new (Ext.push w (.map #[] 0)) (F:=λk=>k=w.heap.size) ⟨⟨#[],0,nc _ _,⟨ea,ea,ea⟩,ea⟩,λ_=>Iff.rfl⟩ λb hb=>by rw[hb];exact o5 _)⟩
theorem St.mZ(u:St w0 A (mZ b l::L) w):uy w b l:=by obtain⟨F,h,_⟩:=u.head;exact h.1
theorem xP{T u E:TypeId}{k:ByteArray}{K:Value->Prop}(h:uy w b l)(ht:P.underlying T=some (.map u E))(B:P.underlying u=some .string)(I:nU P E (hH 0))(G:K (hH (eC l k))):J2 P (xY T (.map (some b)) (.string k) false) w K:=
 ⟨_,LM h ht B I,G⟩
theorem LP{T I E:TypeId}{v:Int}{k:ByteArray}{K:g7}(B:St w0 A (Fw.mZ b l::L) w)(ht:P.underlying T=some (.map I E))(u:P.underlying I=some .string)(M:∀p∈l,p.1≠k)
  (J:∀w',St w0 A (Fw.mZ b (l++[(k,v)])::L) w'->K w'):VG P (wG T (.map (some b)) (.string k) (hH v)) w K:=by
 obtain⟨w',h1,h2,h3⟩:=LN (P:=P) (v:=v) (k:=k) B.mZ ht u M
 exact⟨w',h1,J w' (B.qW λF G=>⟨F,⟨h3,G.2⟩,λb hb=>.inl hb,h2.mono λk u=>(G.2 k).2 u⟩)⟩
theorem key_inj{es:Array MapEntry}(B:(es.toList.map (·.key)).Nodup){e u:MapEntry}(h:e∈es.toList)(E:u∈es.toList)(hb:e.key=u.key):e=u:=by
 obtain⟨i,hi,rfl⟩:=DX h
 obtain⟨j,G,rfl⟩:=DX E
 have:=(aaX (i:=i) (j:=j) (h₀:=by grind) (h₁:=by grind) B).1 cH
 grind
theorem XR{l:List SI}(u:(l.map (·.1)).Nodup){p q:SI}(B:p∈l)(E:q∈l)(h:p.1=q.1):p=q:=by
 have h1:=uz u B
 have h2:=uz u E
 grind
end
open Go.MapKept (IsKey)
section
variable {P:Program}{w w':World}{b:Nat}{l:List ByteArray}
def IY(w:World)(b:Nat)(l:List ByteArray):Prop:=
 ∃es clock,w.heap[b]?=some (.map es clock)/\(es.toList.map λe=>(e.key,e.val))=l.map λs=>(Cv s,vX true)
theorem LQ{T J E:TypeId}{k:ByteArray}(h:IY w b l)(ht:P.underlying T=some (.map J E))(I:P.underlying J=some .string)(B:nU P E (.bool false)) :
  (xY T (.map (some b)) (.string k) false).run P w=.ok (.bool (l.any λy=>decide (y=k))) w:=by
 obtain⟨es,c,h1,h2⟩:=h
 have M:(zeroValue E).run P w=.ok (.bool false) w:=by
  unfold nU eh at B
  cases hi:P.info? E with
  | none=>grind
  | some i=>
   rw[hi]at B
   simp only[DY,n3.injEq]at B
   refine fU ?_ w
   unfold zeroValue;rw[cT,lV hi];simp only[l2,B];rfl
 have hc:=MapKept.run_checkKey (P:=P) (w:=w) (kt:=J) (k:=.string k) I (by simp[IsKey]) es.isEmpty 9999
 have mem:∀e∈es.toList,∃s∈l,e.key=.string s/\e.val=.bool true:=λe O=>by
  have:(e.key,e.val)∈l.map λs=>(Cv s,vX true):=cH
  grind
 rcases MapKept.findNow_spec (d:=.string) (k:=.string k) (by simp[IsKey]) es.toList 0 (λx V=>by obtain⟨p,_,e,_⟩:=mem x V;rw[e];simp[IsKey])with⟨h3,h4⟩|⟨j,e,h3,h4,h5⟩
 .have:(l.any λy=>decide (y=k))=false:=by
   rw[x7]
   intro s G
   have:(Cv s,vX true)∈es.toList.map λe=>(e.key,e.val):=by rw[h2];exact n4.2 ⟨s,G,rfl⟩
   obtain⟨e,O,u⟩:=n4.1 this
   simp only[Prod.mk.injEq]at u
   intro h
   exact h4 e O (by rw[u.1,fK h])
  rw[this]
  simp[xY,run_underlying ht,MapKept.run_getObj_map h1,hc,MapKept.run_findKey I h3,M,Result.andThen]
 obtain⟨s,G,u,U⟩:=mem e (j0 h4)
 rw[h5]at u;injection u with u
 have:(l.any λy=>decide (y=k))=true:=u4.2 ⟨s,G,ei u.symm⟩
 rw[this]
 rw[ta,U]at h3
 simp[xY,run_underlying ht,MapKept.run_getObj_map h1,hc,MapKept.run_findKey I h3,Result.andThen]
theorem LR{T u E:TypeId}{k:ByteArray}{K:Value->Prop}(h:IY w b l)(ht:P.underlying T=some (.map u E))(B:P.underlying u=some .string)(I:nU P E (.bool false))(G:K (.bool (l.any λy=>decide (y=k)))):J2 P (xY T (.map (some b)) (.string k) false) w K:=
 ⟨_,LQ h ht B I,G⟩
end
section
variable {P:Program}{w w0 w':World}{A:Nat->Prop}{L:List HP}{b:Nat}{l:List ByteArray}
theorem IY.lt(h:IY w b l):b<w.heap.size:=by obtain⟨es,c,h1,_⟩:=h;grind
def O5(b:Nat)(l:List ByteArray):HP where
 p w F:=IY w b l/\∀k,F k↔k=b
 loc w w' F h hh:=⟨by grind[IY],h.2⟩
 lt w F b' h hb:=by rw[(h.2 b').1 hb];exact h.1.lt
theorem XS{T:TypeId}{K:Value->g7}(u:St w0 A L w)(k:∀b w',St w0 A (O5 b []::L) w'->K (.map (some b)) w'):rA P (PJ T none) w K:=
 ⟨_,_,rfl,k _ _ (u.new (Ext.push w (.map #[] 0)) (F:=λk=>k=w.heap.size) ⟨⟨#[],0,nc _ _,rfl⟩,λ_=>Iff.rfl⟩ λb hb=>by rw[hb];exact o5 _)⟩
theorem XT{T J E:TypeId}{k:ByteArray}{K:g7}(B:St w0 A (O5 b l::L) w)(ht:P.underlying T=some (.map J E))(G:P.underlying J=some .string)(Y:∀s∈l,s≠k)
  (W:∀w',St w0 A (O5 b (l++[k])::L) w'->K w'):VG P (wG T (.map (some b)) (.string k) (.bool true)) w K:=by
 have I:∃w',(wG T (.map (some b)) (.string k) (.bool true)).run P w=.ok () w'/\gC (· = b) w w'/\IY w' b (l++[k]):=by
  obtain⟨F,h,_⟩:=B.head
  have O:=h.1.lt
  obtain⟨es,c,h1,h2⟩:=h.1
  have mem:∀e∈es.toList,∃s∈l,e.key=.string s:=λe V=>by
   have:(e.key,e.val)∈l.map λs=>(Cv s,vX true):=by rw[<- h2];exact n4.2 ⟨e,V,rfl⟩
   obtain⟨s,B,u⟩:=n4.1 this
   simp only[Prod.mk.injEq]at u
   exact⟨s,B,u.1.symm⟩
  have hc:=MapKept.run_checkKey (P:=P) (w:=w) (kt:=J) (k:=.string k) G (by simp[IsKey]) false 9999
  rcases MapKept.findNow_spec (d:=.string) (k:=.string k) (by simp[IsKey]) es.toList 0 (λx U=>by obtain⟨p,_,e⟩:=mem x U;rw[e];simp[IsKey])with⟨h3,h4⟩|⟨j,e,h3,h4,h5⟩
  .have h6:=MapKept.run_findKey (P:=P) (w:=w) G h3
   refine⟨_,?_,gC.setBlock w b (.map (es.push ⟨.string k,.bool true,c⟩) (c+1)),_,_,jX _ O,?_⟩
   .simp[wG,run_underlying ht,MapKept.run_getObj_map h1,hc,h6,nP h1,Result.andThen]
   .rw[aaf,u1,u1,h2];rfl
  .obtain⟨s,B,u⟩:=mem e (j0 h4)
   rw[h5]at u;injection u with u
   exact absurd u.symm (Y s B)
 obtain⟨w',h1,h2,h3⟩:=I
 exact⟨w',h1,W w' (B.qW λF M=>⟨F,⟨h3,M.2⟩,λb hb=>.inl hb,h2.mono λk G=>(M.2 k).2 G⟩)⟩
theorem St.O5(u:St w0 A (Fw.O5 b l::L) w):IY w b l:=by obtain⟨F,h,_⟩:=u.head;exact h.1
theorem LS{f : FuncId}{u : Func}{e : Array Value -> Sem Value}{args : List Value}{v : Value}{K : Value -> World -> Prop}(E : P.funcs[f]?=some u)(hb : (u.name == "runtime.NumGoroutine")=false /\ u.body.isNone=true /\ Extern.findNext u=none)(B : Extern.find u=some e)
  (G:pr P (e args.toArray)=some v) (k:K v w):Cm P f args w K:=by
 refine⟨.inr ⟨v,w,?_,k⟩⟩
 show(match P.funcs[f]? with|none=>_|some u=>_:Sem Next).run P w=_
 rw[E]
 simp only[hb.1,hb.2.1,hb.2.2,B]
 have:=fU G w
 simp_all
theorem O6{T:Nat}{s:ByteArray}{i:Int}{K:Value->Prop}(u:P.underlying T=some .string)(B:0<=i)(h1:i<=s.size)(k:K (.string (s.extract i.toNat s.size))):eM P (nn T (.string s) (some (hH i)) none none) K:=by
 refine⟨_,?_,k⟩
 unfold nn
 rw[cT,cS u]
 simp only[l2]
 unfold Instr.slice
 rw[cT,cS u]
 simp only[l2]
 rw[eb cZ]
 have hb:pr P (vd false s.size s.size (some (hH i)) none none)=some (i.toNat,s.size,s.size):=by
  simp only[vd,cT,fO,l2]
  rw[iZ B bL];rfl
 rw[cT,hb];rfl
theorem IZ(s:ByteArray)(i j:Nat):iI (s.extract i j)=((iI s).drop i).take (j-i):=by
 simp_all[iI]
theorem Sc{s t:ByteArray}(h:iI s=iI t):s=t:=by
 cases s;cases t
 exact ez hZ (Array.toList_inj.1 h)
def Gi:List UInt8->UInt8->Option Nat
 | [],_=>none
 | x::r,c=>if x=c then some 0 else(Gi r c).map (· + 1)
def EI(l:List UInt8)(c:UInt8):Int:=match Gi l c with|some k=>(k:Int)|none=>-1
theorem G7(l:List UInt8)(c:UInt8)(g:Nat->Bool):∀(r:List UInt8) (o:Nat),(∀j x,r[j]?=some x->g (o+j)=(x == c))->(List.range' o r.length).find? g=(Gi r c).map (o + ·)
 | [],o,h=>rfl
 | x::r,o,h=>by
  have u:=h 0 x rfl
  rw[List.length_cons,List.range'_succ,List.find?_cons,show g o=(x == c)from u]
  unfold Gi
  by_cases e:x=c
  .grind
  .rw[eb e,show(x == c)=false from beq_eq_false_iff_ne.2 e]
   show List.find? g _=_
   rw[G7 l c g r (o+1) λj x B=>by rw[show o+1+j=o+(j+1)from bL];simp_all]
   rw[Option.map_map]
   congr 1;grind
theorem aiB(s:ByteArray)(c:UInt8):pr P (Extern.BytealgIndexByte.indexByte #[.string s,.int .u8 (c.toNat:Int)])=some (hH (EI (iI s) c)):=by
 have u:Extern.BytealgIndexByte.indexByte #[.string s,.int .u8 (c.toNat:Int)]=(do let b <- Extern.Bytes.bytesOf (.string s);let d <- Extern.Bytes.asByte (.int .u8 (c.toNat:Int));match (v7 b.size).find? λi=>b[i]! == d with|some i=>pure (goInt i)|none=>pure (goInt (-1))):=rfl
 have hc:(Extern.Bytes.asByte (.int .u8 (c.toNat:Int)))=pure c:=by
  show pure ((c.toNat:Int).toNat.toUInt8)=_
  simp_all
 have hb:(Extern.Bytes.bytesOf (.string s))=pure s:=rfl
 have B:(v7 s.size).find? (λi=>s[i]! == c)=Gi (iI s) c:=by
  have:=G7 (iI s) c (λi=>s[i]! == c) (iI s) 0 λj x E=>by
   rw[RS]at E
   grind
  rw[eV]at this
  rw[List.range_eq_range',this]
  simp_all
 rw[u]
 simp only[hc,hb,cT,fO,l2,B]
 unfold EI
 cases Gi (iI s) c<;>rfl
theorem XU(l:List UInt8)(c:UInt8):0<=EI l c↔l.any (λb=>decide (b=c))=true:=by
 unfold EI
 induction l with
 | nil=>exact⟨λh=>absurd (show(0:Int)<=-1 from h) cZ,λh=>by cases h⟩
 | cons x r u=>
  rw[List.any_cons]
  unfold Gi
  by_cases e:x=c
  .rw[ee e,ei e];exact⟨λ_=>rfl,λ_=>by show(0:Int)<=((0:Nat):Int);omega⟩
  .rw[eb e,ej e,Bool.false_or,<- u]
   cases Gi r c with
   | none=>exact Iff.rfl
   | some k=>exact⟨λ_=>by show(0:Int)<=(k:Int);omega,λ_=>by show(0:Int)<=((k+1:Nat):Int);omega⟩
end
end Go.Fw
namespace Go.Proofs.YtpdlpabnlkofmaaGreatDoor
open Go.Fw
variable (w:World) (K:Value->g7)
def S335(J I AI M:Value):Prop:=
 bB .eql 3 M (i 0) λa=>cV a (K (.slice none 0 0) w) (eM g6 (ji .eql 9 false true I (Go.Value.string (hZ (#[])))) λb=>cV b (cF 338 [J,M] w λc d=>
 K c d) (eR (λW=>bB .lss 3 M (i 0) λe=>cV e (cF 339 [J,I] w λf g=>bB .add 3 f (i 1) λh=>W h g) (W M w)) (λV j=>∀_:Env,
 lN 9 J λk=>bB .add 3 k (i 1) λl=>eM g6 (Builtin.min_ #[3,3] 3 [V,l].toArray) λn=>rA g6 (Instr.makeSlice 91 n n) j λo p=>bB .sub 3 n (i 1) λq=>
 Cp (λK2=>o0 (λO E B r=>∀_:Env,
 bA .lss 3 B q λs=>cV s (cF 337 [E,I] r λt u=>bB .lss 3 t (i 0) λv=>cV v (K2 E B u) (bA .add 3 t AI λx=>eM g6 (nn 9 E none (some x) none) λy=>
 iA 91 o B λz=>sA 9 z y u λaa=>lN 9 I λab=>bA .add 3 t ab λac=>eM g6 (nn 9 E (some ac) none none) λad=>bB .add 3 B (i 1) λZ=>O ad Z aa)) (
 K2 E B r)) λO=>O J (i 0) p) (λU G af=>∀_:Env,
 iA 91 o G λag=>sA 9 ag U af λah=>bB .add 3 G (i 1) λY=>eM g6 (nn 91 o none (some Y) none) λaj=>K aj ah))))
theorem adl(G u E B:Value)(h:S335 w K G u E B):CR 335 [G,u,E,B] w K:=
 qu 66 (λ_=>.nil) 256 [.tmp 8] Tryz.func335 h
theorem aoW:PL 280:=dG Tryz.func280
theorem aoX:PL 308:=dG Tryz.func308
theorem aoY:PL 335:=dG Tryz.func335
theorem aoZ:PL 339:=dG Tryz.func339
theorem agK:PL 337:=dG Tryz.func337
theorem ao0:PL 344:=dG Tryz.func344
end Go.Proofs.YtpdlpabnlkofmaaGreatDoor
namespace Go.Proofs.YtpdlpabnlkofmaaGreatDoor
open Go.Fw
def C344(s:ByteArray)(c:UInt8)(w:World):CR 344 [.string s,.int .u8 (c.toNat:Int)] w (λv w'=>v=hH (EI (iI s) c)/\Ext w w'):=by
 have u:=St.start w;refine eU Tryz.func344 ?_;exact LS Tryz.func349 ⟨by kernel_rfl,by kernel_rfl,by kernel_rfl⟩ (by kernel_rfl) (aiB s c) ⟨rfl,u.aF⟩
def I0(c:UInt8):ByteArray:=⟨#[c]⟩
def C340(s:ByteArray)(c:UInt8)(w:World):CR 340 [.string s,.string (I0 c)] w (λv w'=>v=hH (EI (iI s) c)/\Ext w w'):=by
 have u:=St.start w;refine eU Tryz.func340 ?_;refine fb ic ?_;refine⟨λB w'=>B=.bool (decide (I0 c=s))/\w'=w,?_,?_⟩
 .exact aG (aC (λh=>absurd (show(1:Int)=0 from h) cZ) λ_=>iG ⟨rfl,rfl⟩)
 rintro _ _ ⟨rfl,rfl⟩ _;refine aC (λh=>?_) (λ_=>?_)
 .subst h;exact⟨ez (mn .i64) (show(0:Int)=EI [c] c by unfold EI Gi;rw[ee rfl];rfl),u.aF⟩
 exact aG (aC (λ_=>jH (s:=I0 c) (e:=c) ic cZ rfl (aS ao0 u (C344 s c _) λ_ _ u=>⟨rfl,u.aF⟩)) λh=>absurd (show(1:Int)=1 from rfl) h)
def C337(s:ByteArray)(c:UInt8)(w:World):CR 337 [.string s,.string (I0 c)] w (λv w'=>v=hH (EI (iI s) c)/\Ext w w'):=by
 have u:=St.start w;refine eU Tryz.func337 ?_;exact aS ⟨_,Tryz.func340,by kernel_rfl,by kernel_rfl⟩ u (C340 s c _) (λ_ _ u=>⟨rfl,u.aF⟩)
def kwT:ByteArray:=⟨#[108,105,110,101,32,118,111,108,32,108,111,99,107,32,116,104,114,101,97,100,32,114,101,103,32,108,111,97,100,32,115,116,111,114,101,32,99,97,115,32,102,108,117,115,104,32,111,112,116,32,115,102,101,110,99,101,32,109,102,101,110,99,101,32,116,97,107,101,32,103,105,118,101,32,105,102,32,101,108,115,101,32,108,111,111,112,32,98,114,101,97,107,32,99,104,101,99,107,32,114,101,99,111,118,101,114,32,97,108,119,97,121,115]⟩
def kwl:List UInt8:=iI kwT
def kwo(k:Nat):Nat:=(jD.take k).foldl (λn x=>n+x.size+1) 0
def Ul(k:Nat):ByteArray:=kwT.extract (kwo k) kwT.size
def zM(k:Nat):ByteArray:=jD.getD k ⟨#[]⟩
def ao1(k:Nat):Bool:=decide (Gi (kwl.drop (kwo k)) 32=some (zM k).size)&&(decide ((kwl.drop (kwo k)).take (zM k).size=iI (zM k))&&(decide (kwo (k+1)=kwo k+((zM k).size+1))&&decide (kwo k+(zM k).size+1<=kwl.length)))
def adm:(v7 20).all ao1=true:=by decide +kernel
theorem LU(k:Nat):iI (Ul k)=kwl.drop (kwo k):=by
 unfold Ul kwl
 rw[IZ]
 exact kp (by rw[pd,eV];omega)
def aiD(k:Nat)(h:k<20):EI (iI (Ul k)) 32=(zM k).size/\(zM k).size+1<=(Ul k).size/\(Ul k).extract 0 (zM k).size=zM k/\(Ul k).extract ((zM k).size+1) (Ul k).size=Ul (k+1):=by
 have:=List.all_eq_true.1 adm k (Iw.2 h)
 unfold ao1 at this
 simp only[nS,decide_eq_true_eq]at this
 obtain⟨h1,h2,h3,h4⟩:=this
 have u:(Ul k).size=kwl.length-kwo k:=by rw[<- eV,LU,pd]
 refine⟨by rw[LU];unfold EI;rw[h1],bL,Sc ?_,Sc ?_⟩
 .rw[IZ,LU,XV,Nat.sub_zero];exact h2
 rw[IZ,LU,LU,sm,h3]
 exact kp cH
def kwB(k:Nat):(zM k).size<=100:=by
 by_cases h:k<21
 .exact(by decide +kernel:∀k,k<21->(zM k).size<=100) k h
 unfold zM;rw[n0,mC (show jD.length<=k from Nat.le_of_not_lt h)];decide
def ao2:∀k,k<21->∀s∈jD.take k,s≠zM k:=by decide +kernel
theorem XW{k:Nat}(h:k<21):jD[k]?=some (zM k):=by simp_all[jD,zM]
theorem aiE{k:Nat}(h:k<21):(jD.take k++po (21-k) (⟨#[]⟩:ByteArray)).set k (zM k)=(jD.take (k+1)++po (21-(k+1)) (⟨#[]⟩:ByteArray)):=by
 have u:(jD.take k).length=k:=by rw[lQ];exact Em (aav h)
 rw[List.set_append_right _ _ bL,u,Nat.sub_self,show 21-k=(21-(k+1))+1 from bL,List.replicate_succ,List.set_cons_zero,tK,XW h,mX]
 rfl
theorem I1{k:Nat}(h:k<21):(jD.take k++po (21-k) (⟨#[]⟩:ByteArray)).length=21:=by
 rw[kH,lQ,List.length_replicate,Em (show k<=jD.length from aav h)];omega
def C339(w:World):CR 339 [.string kwT,.string (I0 32)] w (λv w'=>v=hH 20/\Ext w w'):=by
 have u:=St.start w;refine eU Tryz.func339 ?_;exact fb ic (aG (aC (λh=>absurd (show(1:Int)=0 from h) cZ) λ_=>fb ic (aG (aC (λ_=>jH (s:=I0 32) (e:=32) ic cZ rfl (LS (e:=Extern.BytealgCount.count) (v:=hH 20) Tryz.func343 ⟨by kernel_rfl,by kernel_rfl,by kernel_rfl⟩ (by kernel_rfl) (by kernel_rfl) ⟨rfl,u.aF⟩)) λh=>absurd (show(1:Int)=1 from rfl) h))))
def C335(w:World):CR 335 [.string kwT,.string (I0 32),hH 0,hH (-1)] w (λv w'=>kZ (bF v jD) w w'):=by
 have u:=St.start w;refine adl _ _ _ _ _ _ ?_;unfold S335;refine aG (aC (λh=>absurd h cZ) λ_=>iG (aC (λh=>absurd h cZ) λ_=>?_));refine⟨λM w'=>M=hH 21/\St w aY [] w',?_,?_⟩
 .exact aO (aC (λ_=>aS aoZ u (C339 _) λ_ _ u=>aJ cZ ⟨rfl,u⟩) λh=>absurd cZ h)
 rintro _ _ ⟨rfl,u⟩ _;refine fb ic (aJ cZ (tf ?_));rw[show min (21:Int) ((kwT.size:Int)+1)=21 from cZ];refine v9 (⟨#[]⟩:ByteArray) u ix agb cZ cZ cZ (λB _ u=>fk cZ ?_);refine⟨λs y w'=>s=.string (Ul 20)/\y=hH 20/\St w aY [bF B (jD.take 20++po (21-20) (⟨#[]⟩:ByteArray))] w',?_,?_⟩
 .refine⟨λG s y w'=>∃k:Nat,s=.string (Ul k)/\y=hH (k:Int)/\G=20-k/\k<=20/\St w aY [bF B (jD.take k++po (21-k) (⟨#[]⟩:ByteArray))] w',⟨_,0,ez Cv cZ,rfl,rfl,kO _,u⟩,?_⟩;rintro G _ _ _ ⟨k,rfl,rfl,rfl,V,u⟩ _;refine aO (aC (λJ=>?_) λJ=>?_);rotate_left
  .obtain rfl:k=20:=bL
   exact⟨rfl,rfl,u⟩
  obtain⟨O,W,U,I⟩:=aiD k bL;refine aS agK u (C337 (Ul k) 32 _) (λ_ Y u=>?_);rw[O];refine aO (aC (λh=>absurd h bL) λ_=>aJ (show -9223372036854775808<=((zM k).size:Int)+0/\((zM k).size:Int)+0<=9223372036854775807 by have:=kwB k;omega) (nK ic bL bL ?_));rw[show(((zM k).size:Int)+0).toNat=(zM k).size from bL,U];refine dJ u ix bL (by rw[I1 bL];omega) (λq E=>jj (zM k) u gn E (by rw[I1 bL];omega) λ_ u=>?_);rw[o6,aiE bL]at u;refine fb ic (aJ (show -9223372036854775808<=((zM k).size:Int)+1/\((zM k).size:Int)+1<=9223372036854775807 by have:=kwB k;omega) (O6 ic (show(0:Int)<=((zM k).size:Int)+1 by omega) (show((zM k).size:Int)+1<=_ by omega) ?_))
  rw[show((zM k).size:Int)+(((I0 32).size:Nat):Int)=((zM k).size:Int)+1 from rfl,show(((zM k).size:Int)+1).toNat=(zM k).size+1 from bL,I];exact aJ bL ⟨_,bL,k+1,rfl,rfl,rfl,bL,u⟩
 rintro _ _ _ ⟨rfl,rfl,u⟩ _;exact dJ u ix cZ (by rw[I1 cZ];decide) (λ_ E=>jj (Ul 20) u gn E (by rw[I1 cZ];decide) λ_ u=>aJ cZ (rO ix u cZ cZ λ_ u=>u.fresh))
def C308(w:World):CR 308 [.string kwT,.string (I0 32)] w (λv w'=>kZ (bF v jD) w w'):=by
 have u:=St.start w;refine eU Tryz.func308 ?_;exact ef aoY u (C335 _) (λ_ _ _ u=>u.fresh)
def C280(w:World):CR 280 [] w (λv w'=>∃b,v=.map (some b)/\IY w' b jD/\Ext w w'):=by
 have u:=St.start w;refine eU Tryz.func280 ?_;refine XS u (λb _ u=>ef aoX u (C308 _) λI _ O u=>aH ix u.dQ ?_);refine⟨λE y w'=>∃k:Nat,y=hH (k:Int)/\E=21-k/\k<=21/\St w aY [O5 b (jD.take k),bF I jD] w',⟨_,0,rfl,rfl,kO _,u.p1⟩,?_⟩;rintro E _ _ ⟨k,rfl,rfl,M,u⟩ _;refine aO (aC (λB=>?_) λB=>?_);rotate_left
 .obtain rfl:k=21:=by have h:¬ (k:Int)<21:=B;omega
  exact⟨b,rfl,u.O5,u.aF⟩
 have G:k<21:=by have h:(k:Int)<21:=B;omega
 refine aM ix u.p1.dQ bL (XW (show((k:Nat):Int).toNat<21 by omega)) (λq J=>aE gn J ?_);rw[o6];refine XT u Tryz.underlying329 ic (ao2 k G) (λ_ u=>aJ bL ?_);refine⟨_,bL,k+1,rfl,rfl,bL,?_⟩;rw[tK,XW G];exact u
def FnU(w:World)(f:Value)(g:UInt8->Bool):Prop:=∃B first cap,f=.func (.func B) (OY first) (OY cap)/\Plain g6 B/\
 ∀(c:UInt8) u,Ext w u->Calls g6 B (first++[mn .u8 c.toNat]++cap).toArray u (sK λv E=>v=.bool (g c)/\Ext u E)
def adn{g:UInt8->Bool}{l:List UInt8}{k:Nat}(B:∀y∈l.take k,g y=true)(u:k<=l.length)(h:(match l[k]? with|some c=>g c|none=>false)=false):k=l.length↔l.all g=true:=by
 grind
def wN(s:ByteArray):Bool:=decide (s.size<1\/16<s.size)||(match (iI s)[0]? with|some c=>!gw c.toNat|none=>true)||jD.any (λy=>decide (y=s))
def XX{s:ByteArray}(h:wN s=false):s.size<=1048576:=by
 unfold wN at h
 grind
def XY{s:ByteArray}(h:wN s=true):gJ s=false:=by
 show(!(wN s)&&_)=false
 rw[h];rfl
def XZ{s:ByteArray}{n:Nat}(h:wN s=false)(u:n=(iI s).length↔(iI s).all (λc=>gw c.toNat||j6 c.toNat)=true):decide ((n:Int)=(s.size:Int))=gJ s:=by
 show _=(!(wN s)&&!(iI s).any λc=>!gw c.toNat&&!j6 c.toNat)
 rw[h,Bool.not_false,Av,<- eV]
 grind
theorem aiF{s:ByteArray}(h:s.size=0):s=hZ #[]:=by
 cases s with
 | mk a=>cases a with
  | mk l=>cases l with
   | nil=>rfl
   | cons x r=>simp[abR]at h
def C234(c:Int)(w:World):CR 234 [.int .u8 c] w (λv w'=>v=.bool (gw c)/\Ext w w'):=by
 have u:=St.start w;refine eU Tryz.func234 ?_;refine⟨λE w'=>E=.bool (decide (97<=c/\c<=122\/c=95))/\w=w',Ao (aC (λ_=>An (aC (λ_=>⟨Ko bL,rfl⟩) λ_=>nu ⟨xB bL,rfl⟩)) λ_=>nu ⟨xB bL,rfl⟩),?_⟩;rintro _ _ ⟨rfl,B⟩ _;subst B;exact⟨rfl,u.aF⟩
def C238(c:Int)(w:World):CR 238 [.int .u8 c] w (λv w'=>v=.bool (j6 c)/\Ext w w'):=by
 have u:=St.start w;refine eU Tryz.func238 ?_;refine⟨λE w'=>E=.bool (decide (48<=c/\c<=57))/\w=w',Ao (aC (λ_=>An ⟨xB bL,rfl⟩) λ_=>⟨Wf bL,rfl⟩),?_⟩;rintro _ _ ⟨rfl,B⟩ _;subst B;exact⟨rfl,u.aF⟩
def C237(c:Int)(w:World):CR 237 [.int .u8 c] w (λv w'=>v=.bool (gw c||j6 c)/\Ext w w'):=by
 have u:=St.start w;refine eU Tryz.func237 ?_;refine⟨λB w'=>B=.bool (gw c||j6 c)/\St w aY [] w',aS agA u (C234 _ _) (λ_ _ u=>aX (λ_=>⟨vb cH,u⟩) λ_=>aS aoH u (C238 _ _) λ_ _ u=>⟨vb cH,u⟩),?_⟩;rintro _ _ ⟨rfl,u⟩ _;exact⟨rfl,u.aF⟩
def C236(s:ByteArray)(fv:Value)(g:UInt8->Bool)(w:World)(Y:FnU w fv g)(hn:s.size<=1048576):CR 236 [.string s,fv] w (λv w'=>∃n:Nat,v=hH (n:Int)/\(n=(iI s).length↔(iI s).all g=true)/\Ext w w'):=by
 obtain⟨g0,first,cap,rfl,W,V⟩:=Y;have u:=St.start w;refine ade _ _ _ _ ?_;unfold S236;refine⟨λm x I=>∃k:Nat,x=hH (k:Int)/\m=(iI s).length-k/\k<=(iI s).length/\(∀y∈(iI s).take k,g y=true)/\St w aY [] I,⟨_,0,rfl,rfl,kO _,ea,u⟩,?_⟩;rintro m _ I ⟨k,rfl,rfl,U,M,u⟩ _;have GW:=eV s;refine⟨λO w'=>O=.bool (match (iI s)[k]? with|some c=>g c|none=>false)/\St w aY [] w',fb ic (aO (aC (λje=>?_) λ_=>⟨vb cH,u⟩)),?_⟩
 .obtain⟨J,B⟩:∃G,(iI s)[(k:Int).toNat]?=some G:=⟨_,kE (by rw[eV];omega)⟩;refine jH ic bL B (gS W (V J _ u.aF) ?_);rintro _ _ ⟨rfl,Z⟩;have u:=u.ext Z;exact⟨vb cH,u⟩
 rintro _ _ ⟨rfl,u⟩ _;refine aX (λE=>?_) (λE=>⟨k,rfl,adn M U (by simpa using E),u.aF⟩);obtain⟨J,B⟩:∃G,(iI s)[k]?=some G:=by cases h:(iI s)[k]? with|none=>rw[h]at E;cases E|some x=>exact⟨x,rfl⟩
 have Oq:=(ir.1 B).1;exact aJ bL ⟨_,bL,k+1,rfl,rfl,bL,dS M B cH,u⟩
def C235(s:ByteArray)(w:World):CR 235 [.string s] w (λv w'=>v=.bool (jD.any λy=>decide (y=s))/\Ext w w'):=by
 have u:=St.start w;refine eU Tryz.func235 ?_;refine dO aoW (C280 _) ?_;rintro _ _ ⟨G,rfl,E,B⟩;have u:=u.ext B;exact LR E Tryz.underlying329 Tryz.underlying9 Wz ⟨rfl,u.aF⟩
def C180(s:ByteArray)(w:World):CR 180 [.string s] w (λv w'=>v=.bool (gJ s)/\Ext w w'):=by
 have u:=St.start w;refine eU Tryz.func180 ?_;refine⟨λM w'=>M=.bool (wN s)/\St w aY [] w',iG (aC (λG=>?_) λG=>?_),?_⟩
 .have Z:s.size=0:=by rw[G];rfl
  exact⟨vb (by unfold wN;grind),u⟩
 .have Z:s.size≠0:=λh=>G (aiF h);refine fb ic (cP (aC (λ_=>⟨vb (by unfold wN;grind),u⟩) λfN=>?_));obtain⟨V,I⟩:∃O,(iI s)[(0:Int).toNat]?=some O:=⟨_,kE (by rw[eV];omega)⟩;refine jH ic bL I ?_;have W:(iI s)[0]?=some V:=I;have U:¬ (s.size<1\/16<s.size):=bL
  exact aS agA u (C234 _ _) (λ_ _ u=>bP (aX (λ_=>⟨vb (by unfold wN;grind),u⟩) λ_=>aS aoK u (C235 _ _) λ_ _ u=>⟨vb (by unfold wN;grind),u⟩))
 rintro _ _ ⟨rfl,u⟩ _;refine aX (λB=>⟨vb (XY B).symm,u.aF⟩) (λB=>dO aoI (C236 s _ (λc=>gw c.toNat||j6 c.toNat) _ ⟨237,[],[],rfl,aoJ,λ_ J _=>C237 _ J⟩ (XX (by simpa using B))) ?_);rintro _ _ ⟨nr,rfl,E,Y⟩;have u:=u.ext Y;exact fb ic (aG ⟨vb (XZ (by simpa using B) E),u.aF⟩)
def Um(xs:List bY)(i:Int)(n:Nat):Int:=if n=0 then i else if i<0 then -1 else CU xs.length (skip n (xs.drop i.toNat))
def ado(xs:List bY)(i:Int):Um xs i 1=qc xs i:=by unfold Um qc;omega
theorem X1(xs:List bY)(i:Int):Um xs i 0=i:=rfl
theorem adp{xs:List bY}{i:Int}{n:Nat}(u:0<n)(h:i<0\/(xs.length:Int)<=i):Um xs i n = -1:=by
 unfold Um
 rw[eb bL]
 split
 .rfl
 rw[pC bL]
 cases n with
 | zero=>omega
 | succ n=>rfl
theorem adq{xs:List bY}{i:Int}{n:Nat}{x:bY}(J:0<n)(I:0<=i)(u:xs[i.toNat]?=some x)(G:kids x.op<0):Um xs i n = -1:=by
 unfold Um
 obtain⟨E,B⟩:=ir.1 u
 rw[eb bL,eb bL,qH E,B]
 cases n with
 | zero=>omega
 | succ n=>
  grind[CU,skip]
theorem X2{xs:List bY}{i:Int}{n m:Nat}{x:bY}(M:0<n)(I:0<=i)(u:xs[i.toNat]?=some x)(G:0<=kids x.op)(J:(m:Int)=n+kids x.op-1):Um xs i n=Um xs (i+1) m:=by
 obtain⟨E,B⟩:=ir.1 u
 have h1:Um xs i n=CU xs.length (skip m (xs.drop (i+1).toNat)):=by
  unfold Um
  rw[eb bL,eb bL,qH E,B,show(i+1).toNat=i.toNat+1 from bL]
  cases n with
  | zero=>omega
  | succ n=>
   grind[CU,skip]
 rw[h1]
 grind[CU,skip,Um]
def X3(i:Int)(ks:List Ex)(k:Nat):List Int:=(v7 k).map λj=>i+1+(qe ks j:Int)
theorem X4(i:Int)(ks:List Ex)(k:Nat):X3 i ks (k+1)=X3 i ks k++[i+1+(qe ks k:Int)]:=by
 unfold X3;rw[List.range_succ,u1];rfl
theorem Sd(i:Int)(ks:List Ex)(k:Nat):(X3 i ks k).length=k:=by simp[X3]
def adr{i:Int}{ks:List Ex}{n k:Nat}{e:Int}(h:(X3 i ks n)[k]?=some e):e=i+1+(qe ks k:Int)/\k<n:=by
 unfold X3 at h
 grind
def C286(k:Int)(w:World):CR 286 [hH k] w (λv w'=>v=hH (kids k)/\Ext w w'):=by
 have E:=St.start w;refine eU Tryz.func286 ?_;refine⟨λB w'=>B=.bool (decide (k=1\/k=2))/\w=w',aG (aC (λ_=>⟨Ko bL,rfl⟩) λ_=>aG ⟨xB bL,rfl⟩),?_⟩;rintro _ _ ⟨rfl,u⟩ _;subst u;refine aC (λG=>?_) (λG=>⟨λB w'=>B=.bool (decide (k=3\/k=4))/\w=w',aG (aC (λ_=>⟨Ko bL,rfl⟩) λ_=>aG ⟨xB bL,rfl⟩),?_⟩)
 .unfold kids;exact⟨ez (mn .i64) cH,E.aF⟩
 rintro _ _ ⟨rfl,u⟩ _;subst u;refine aC (λJ=>?_) (λJ=>⟨λB w'=>B=.bool (decide (5<=k/\k<=15))/\w=w',cR (aC (λ_=>ga ⟨xB bL,rfl⟩) λ_=>⟨Wf bL,rfl⟩),?_⟩)
 .unfold kids;exact⟨ez (mn .i64) cH,E.aF⟩
 rintro _ _ ⟨rfl,u⟩ _;subst u;refine aC (λI=>?_) (λI=>?_)
 .unfold kids;exact⟨ez (mn .i64) cH,E.aF⟩
 unfold kids;exact⟨ez (mn .i64) cH,E.aF⟩
def C243(x:bY)(w:World):CR 243 [hM x] w (λv w'=>v=.bool (!kP x)/\Ext w w'):=by
 have u:=St.start w;refine eU Tryz.func243 ?_;refine cJ u (λE _ u=>⟨λB w'=>B=.bool (decide (x.at_<0\/4000<x.at_))/\St w aY [bZ E (ia x)] w',aA rJ (aB (v:=hH x.at_) bO u.hb rfl (aO (aC (λ_=>⟨vb cH,u⟩) λ_=>aA rJ (aB (v:=hH x.at_) bO u.hb rfl (cP ⟨vb cH,u⟩))))),?_⟩);rintro _ _ ⟨rfl,u⟩ _;refine aX (λI=>?_) (λI=>?_)
 .refine⟨vb ?_,u.drop.aF⟩;unfold kP
  grind
 refine aA eX (aB (v:=hH x.op) bO u.hb rfl (aG (aC (λJ=>⟨λB w'=>B=.bool (decide (0<=x.n/\x.n<=4294967296/\x.name=⟨#[]⟩))/\St w aY [bZ E (ia x)] w',aA ja (aB (v:=hH x.n) bO u.hb rfl (cR (aC (λ_=>aA ja (aB (v:=hH x.n) bO u.hb rfl (ga (aC (λ_=>aA gh (aB (v:=.string x.name) gn u.hb rfl (iG ⟨vb cH,u⟩))) λ_=>⟨vb cH,u⟩)))) λ_=>⟨vb cH,u⟩))),?_⟩) λJ=>?_)))
 .rintro _ _ ⟨rfl,u⟩ _;refine⟨vb ?_,u.drop.aF⟩;unfold kP
  grind
 refine aA eX (aB (v:=hH x.op) bO u.hb rfl (aG (aC (λG=>⟨λB w'=>B=.bool (decide (x.n=0)&&gJ x.name)/\St w aY [bZ E (ia x)] w',aA ja (aB (v:=hH x.n) bO u.hb rfl (aG (aC (λ_=>aA gh (aB (v:=.string x.name) gn u.hb rfl (aS LC u (C180 _ _) λ_ _ u=>⟨vb cH,u⟩))) λ_=>⟨vb cH,u⟩))),?_⟩) λG=>?_)))
 .rintro _ _ ⟨rfl,u⟩ _;refine⟨vb ?_,u.drop.aF⟩;unfold kP
  grind
 refine⟨λB w'=>B=.bool (decide (x.n=0/\x.name=⟨#[]⟩))/\St w aY [bZ E (ia x)] w',aA ja (aB (v:=hH x.n) bO u.hb rfl (aG (aC (λ_=>aA gh (aB (v:=.string x.name) gn u.hb rfl (iG ⟨vb cH,u⟩))) λ_=>⟨vb cH,u⟩))),?_⟩;rintro _ _ ⟨rfl,u⟩ _;refine⟨vb ?_,u.drop.aF⟩;unfold kP
 grind
def C242(x:bY)(w:World):CR 242 [hM x] w (λv w'=>v=.bool (kP x)/\Ext w w'):=by
 have u:=St.start w;refine eU Tryz.func242 ?_;exact cJ u (λ_ _ u=>aE rI u.At (aS aoL u (C243 _ _) λ_ _ u=>bP ⟨vb ea,u.drop.aF⟩))
def C285(M fv:Value)(xs:List bY)(g:bY->Bool)(w:World)(J:dz (λ_=>True) w M xs)(Y:vM w fv g)(hn:xs.length<=1073741824):CR 285 [M,fv] w (λv w'=>v=hH (rS g xs)/\Ext w w'):=by
 obtain⟨g0,first,cap,rfl,W,V⟩:=Y;have u:=St.start w;refine eU Tryz.func285 ?_;refine aH gV (J.ext u.aF) ?_;refine⟨λm x E=>∃k:Nat,x=hH (k:Int)/\m=xs.length-k/\k<=xs.length/\(∀y∈xs.take k,g y=false)/\St w aY [] E,⟨_,0,rfl,rfl,kO _,ea,u⟩,?_⟩;rintro m _ E ⟨k,rfl,rfl,hk,B,u⟩ _;refine aO (aC (λje=>?_) λ_=>⟨ez (mn .i64) (iT (by rw[kp bL]at B;exact B)).symm,u.aF⟩);obtain⟨O,G⟩:=gx xs (i:=(k:Int).toNat) bL;refine aM gV J bL G (λ_ U=>aE rI (U.ext u.aF) (gS W (V O E u.aF) ?_))
 rintro _ _ ⟨rfl,Z⟩;have u:=u.ext Z;exact aX (λI=>⟨ez (mn .i64) (lM B G I).symm,u.aF⟩) (λI=>aJ bL ⟨xs.length-(k+1),bL,k+1,rfl,rfl,bL,dS B G I,u⟩)
def C244(B fv:Value)(xs:List bY)(g:bY->Bool)(w:World)(G:dz (λ_=>True) w B xs)(E:vM w fv g)(I:xs.length<=1073741824):CR 244 [B,fv] w (λv w'=>v=.bool (xs.any g)/\Ext w w'):=by
 have u:=St.start w;refine eU Tryz.func244 ?_;exact aS aoS u (C285 _ _ _ _ _ (G.ext u.aF) (E.ext u.aF) bL) (λ_ _ u=>cR ⟨vb (kD _ _),u.aF⟩)
def C245(lv:Value)(xs:List bY)(i:Int)(w:World)(I:dz (λ_=>True) w lv xs)(hn:xs.length<=1048576):CR 245 [lv,hH i] w (λv w'=>v=hH (qc xs i)/\Ext w w'):=by
 have u:=St.start w;refine eU Tryz.func245 ?_;refine⟨λm x y J=>∃(a:Int) (n:Nat),x=hH a/\y=hH (n:Int)/\m=xs.length-a.toNat/\n<=1+a.toNat/\Um xs a n=qc xs i/\St w aY [] J,⟨_,i,1,rfl,rfl,rfl,bL,ado _ _,u⟩,?_⟩;rintro m _ _ J ⟨a,n,rfl,rfl,rfl,hna,E,u⟩ _;refine cP (aC (λgP=>⟨λW w'=>W=.bool (decide (a<0\/(xs.length:Int)<=a)||(match xs[a.toNat]? with|some x=>decide (kids x.op = -1)|none=>true))/\St w aY [] w',aO (aC (λ_=>⟨vb cH,u⟩) λjo=>aH gV (I.ext u.aF) (cR (aC (λ_=>⟨vb cH,u⟩) λdP=>?_))),?_⟩) λgP=>?_)
 .obtain⟨B,G⟩:=gx xs (i:=a.toNat) bL;have Xs:=tI B.op;exact aM gV I bL G (λ_ V=>bW B.op eX V rfl rfl λ_ wJ=>aE bO (wJ.ext u.aF) (aS XI u (C286 _ _) λ_ _ u=>aG ⟨vb cH,u⟩))
 .rintro _ _ ⟨rfl,u⟩ _;refine aX (λM=>?_) (λM=>?_)
  .refine⟨ez (mn .i64) ?_,u.aF⟩;rw[<- E]
   by_cases hq:a<0\/(xs.length:Int)<=a
   .exact(adp bL hq).symm
   have O:a.toNat<xs.length:=bL
   rw[kE O]at M;exact(adq bL bL (kE O) cH).symm
  have h23:¬ (a<0\/(xs.length:Int)<=a):=cH
  obtain⟨B,G⟩:=gx xs (i:=a.toNat) bL;have Xs:=tI B.op;have Z:0<=kids B.op:=cH
  exact aM gV I bL G (λ_ Y=>bW B.op eX Y rfl rfl λ_ ux=>aE bO (ux.ext u.aF) (aS XI u (C286 _ _) λ_ _ u=>aJ bL (aJ bL (fk bL ⟨_,bL,a+1,((n:Int)+kids B.op-1).toNat,rfl,ez (mn .i64) bL,rfl,bL,by rw[<- E];exact(X2 bL bL G Z bL).symm,u⟩))))
 have U:n=0:=bL
 rw[U,X1]at E;exact⟨ez (mn .i64) E,u.aF⟩
theorem Cy{l:List bY}:fw l=(decide (l.length<=40)&&decide (qc l 0=l.length)&&!l.any kP&&decide (R5 l<=12)):=by
 unfold fw;rw[Er]
def C287(lv:Value)(xs:List bY)(i:Int)(t:Ex)(w:World)(M:dz (λ_=>True) w lv xs)(hn:xs.length<=1048576)(B:Bn xs i t):CR 287 [lv,hH i] w (λv w'=>kZ (bF v (X3 i t.eu t.eu.length)) w w'):=by
 obtain⟨I,hq,Y⟩:∃e,e=t.root/\xs[(i).toNat]?=some e:=⟨_,rfl,B.root.1⟩;have V:=B.root.2;have hie:=B.end;have W:=Ex.oN B.2.1;rw[<- hq]at W;have Xs:=tI I.op;have Z:=B.1;have u:=St.start w;refine eU Tryz.func287 ?_;refine aJ bL (aM gV M bL Y λ_ Ev=>bW I.op eX Ev rfl rfl λ_ X5=>aE bO (X5.ext u.aF) (aS XI u (C286 _ _) λG he u=>?_));refine⟨λm J a x G=>∃k:Nat,a=hH (i+1+qe t.eu k)/\x=hH (k:Int)/\m=t.eu.length-k/\k<=t.eu.length/\St w aY [bF J (X3 i t.eu k)] G,⟨_,0,ez (mn .i64) (by simp[qe]),rfl,rfl,bL,u.eW (α:=Int)⟩,?_⟩
 rintro m J _ _ _ ⟨k,rfl,rfl,rfl,hk,u⟩ _;refine aO (aC (λU=>?_) λU=>?_)
 .obtain⟨a,E⟩:=gx t.eu (i:=k) bL;have O:=Ex.tJ B.2.1 (j0 E);have Ud:=B.kid E;have VL:=Ud.end;have Ue:=a.qZ;refine aW ([(i+1+qe t.eu k:Int)]) u cQ rfl rfl (dM rfl) (λX6 _ u=>?_);have I3:=u.dQ;exact bJ u.p1 cQ I3 (by rw[Sd];exact aav (by simp;omega)) cZ (λ_ _ u=>have u:=u.p1.drop;aS XJ u (C245 _ _ _ _ (M.ext u.aF) bL) λ_ _ u=>aJ bL ⟨_,bL,k+1,ez (mn .i64) (by rw[VL.1,uu E];omega),rfl,rfl,bL,by rw[X4];exact u⟩)
 rw[show t.eu.length=k from bL];exact u.fresh
theorem C246(lv:Value)(xs:List bY)(i:Int)(t:Ex)(N:Nat)(w:World)(O:dz (λ_=>True) w lv xs)(hn:xs.length<=1048576)(B:Bn xs i t)(hN:t.size<N):CR 246 [lv,hH i] w (λv w'=>v=hH t.depth/\Ext w w'):=by
 obtain⟨Z,hq,rU⟩:∃e,e=t.root/\xs[(i).toNat]?=some e:=⟨_,rfl,B.root.1⟩;have W:=B.root.2;have hie:=B.end;have OV:=Ex.oN B.2.1;rw[<- hq]at OV;have Xs:=tI Z.op;have hi0:=B.1;have u:=St.start w;refine adf _ _ _ _ ?_;unfold S246;refine ef aoN u (C287 _ _ _ t _ (O.ext u.aF) bL B) (λG I cM u=>?_);have I4:=Sd i t.eu t.eu.length;refine aH cQ u.dQ ?_;refine⟨λm n x I=>∃k:Nat,n=hH (CV t.eu k)/\x=hH (k:Int)/\m=t.eu.length-k/\k<=t.eu.length/\St w aY [bF G (X3 i t.eu t.eu.length)] I,⟨_,0,rfl,rfl,rfl,bL,u⟩,?_⟩;rintro m _ _ _ ⟨k,rfl,rfl,rfl,hk,u⟩ _
 have hdk:=OW (ks:=t.eu) (N:=(t.size:Int)) bL (λa U=>by have:=(Ex.tJ B.2.1 U).2;have:=a.qZ;omega) k;refine aO (aC (λwD=>?_) λ_=>aJ bL ⟨ez (mn .i64) (by rw[t.Ls,show k=t.eu.length from bL]),u.aF⟩);obtain⟨g8,J⟩:=gx (X3 i t.eu t.eu.length) (i:=(k:Int).toNat) bL;refine dJ u cQ bL bL (λ_ Y=>fV u bO Y J ?_);obtain⟨rfl,Ep⟩:=adr J;obtain⟨a,E⟩:=gx t.eu (i:=k) bL;have V:=Ex.tJ B.2.1 (j0 E);have M:=B.kid E;have VL:=M.end;have Ue:=a.qZ
 exact aS agB u (C246 _ _ _ _ (N-1) _ (O.ext u.aF) hn M bL) (λ_ _ u=>De (aJ bL ⟨_,bL,k+1,by rw[BH E],rfl,rfl,bL,u⟩))
termination_by N
decreasing_by all_goals omega
def C185(lv:Value)(xs:List bY)(w:World)(B:dz (λ_=>True) w lv xs)(J:xs.length<=1048576):CR 185 [lv] w (λv w'=>v=.bool (fw xs)/\Ext w w'):=by
 have u:=St.start w;refine eU Tryz.func185 ?_;refine⟨λI w'=>I=.bool (decide (xs.length=0\/40<xs.length)||xs.any kP||decide (¬ qc xs 0=xs.length))/\St w aY [] w',aH gV (B.ext u.aF) (aG (aC (λ_=>⟨vb cH,u⟩) λW=>aH gV (B.ext u.aF) (cP (aC (λ_=>⟨vb cH,u⟩) λZ=>?_)))),?_⟩
 .have E:vM w (.func (.func 242) [].toArray [].toArray) kP:=
   ⟨242,[],[],rfl,aoM,λy G _=>C242 y G⟩
  exact aS aoR u (C244 _ _ _ _ _ (B.ext u.aF) E bL) (λ_ _ u=>aX (λ_=>⟨vb cH,u⟩) λ_=>aS XJ u (C245 _ _ _ _ (B.ext u.aF) bL) λ_ _ u=>aH gV (B.ext u.aF) (bT ⟨vb cH,u⟩))
 rintro _ _ ⟨rfl,u⟩ _;refine aX (λM=>?_) (λM=>?_)
 .refine⟨vb ?_,u.aF⟩;rw[Cy]
  by_cases U:xs.length=0
  .obtain rfl:=qa.1 U;rfl
  grind
 have O:qc xs 0=xs.length:=cH
 obtain⟨t,ht⟩:=Bn.of (xs:=xs) (i:=0) bL;have V:=ht.zero O;refine aS agB u (C246 _ _ _ t (t.size+1) _ (B.ext u.aF) J ht bL) (λ_ Y u=>ga ?_);refine⟨vb ?_,u.aF⟩;rw[Cy];unfold R5;rw[V.2]
 grind
def nF(o:List ByteArray)(x:bY):List ByteArray:=if x.op=2/\o.any (λy=>decide (y=x.name))=false then o++[x.name]else o
theorem X7{o:List ByteArray}{x:bY}(h:x.op=2/\o.any (λy=>decide (y=x.name))=false):nF o x=o++[x.name]:=ee h
theorem X8{o:List ByteArray}{x:bY}(h:¬ (x.op=2/\o.any (λy=>decide (y=x.name))=false)):nF o x=o:=eb h
def nG(xs:List bY):List ByteArray:=xs.foldl nF []
theorem LV{xs:List bY}{k:Nat}{x:bY}(h:xs[k]?=some x):nG (xs.take (k+1))=nF (nG (xs.take k)) x:=by
 unfold nG;rw[<- gG h,List.foldl_append];rfl
theorem Cz(xs:List bY):(nG xs).length<=xs.length:=by
 have:∀(l:List bY) (o:List ByteArray),(l.foldl nF o).length<=o.length+l.length:=by
  intro l
  induction l with
  | nil=>grind
  | cons x l u=>
   grind[nF]
 simpa[nG]using this xs []
theorem O8(g:ByteArray->Bool)(xs:List bY):(nG xs).any g=xs.any λx=>decide (x.op=2)&&g x.name:=by
 have:∀(l:List bY) (o:List ByteArray),(l.foldl nF o).any g=(o.any g||l.any λx=>decide (x.op=2)&&g x.name):=by
  intro l
  induction l with
  | nil=>grind
  | cons x l u=>
   intro o
   show(l.foldl nF (nF o x)).any g=_
   rw[u]
   have h2:(nF o x).any g=(o.any g||(decide (x.op=2)&&g x.name)):=by
    unfold nF
    grind
   grind
 exact(this xs []).trans ea
theorem BM(ns:List ByteArray)(s:ByteArray):decide (0<=cU ns s)=ns.any λy=>decide (y=s):=kD _ _
theorem Un(ns:List ByteArray)(s:ByteArray):decide (cU ns s<0) = !ns.any λy=>decide (y=s):=by
 rw[<- BM]
 grind
def O9{k:Int}(h:0<=kids k):eA k=kids k:=by unfold eA kids at *;grind
def ads{ns:List ByteArray}{xs:List bY}(h:fw xs=false):kG ns xs=8:=by unfold kG;grind
def adt{ns:List ByteArray}{xs:List bY}(h:fw xs=true):kG ns xs=if (nG xs).any (λs=>!ns.any λy=>decide (y=s))=true then 9 else 0:=by
 unfold kG
 rw[eb (by simp[h]),O8]
 simp only[Un]
theorem LW{ns:List ByteArray}{xs:List bY}(h:¬ kG ns xs=0):qf ns xs=[]:=by unfold qf;grind
def qA(ns:List ByteArray)(nums:List Int)(xs:List bY):Int×Int:=if ns.length=nums.length then(if kG ns xs=0 then runM (qf ns xs) nums else(0,kG ns xs))else(0,1)
def C225(M:Value)(ns:List ByteArray)(s:ByteArray)(w:World)(J:dz (λ_=>True) w M ns)(W:ns.length<=1048576):CR 225 [M,.string s] w (λv w'=>v=hH (cU ns s)/\Ext w w'):=by
 have u:=St.start w;refine eU Tryz.func225 ?_;refine aH ix (J.ext u.aF) ?_;refine⟨λm x I=>∃k:Nat,x=hH (k:Int)/\m=ns.length-k/\k<=ns.length/\(∀y∈ns.take k,decide (y=s)=false)/\St w aY [] I,⟨_,0,rfl,rfl,kO _,ea,u⟩,?_⟩;rintro m _ I ⟨k,rfl,rfl,V,B,u⟩ _;refine aO (aC (λY=>?_) λ_=>⟨ez (mn .i64) (iT (by rw[kp bL]at B;exact B)).symm,u.aF⟩);obtain⟨U,E⟩:=gx ns (i:=(k:Int).toNat) bL;exact aM ix J bL E (λ_ O=>aE gn (O.ext u.aF) (iG (aC (λG=>⟨ez (mn .i64) (lM B E (ei G.symm)).symm,u.aF⟩) λG=>aJ bL ⟨_,bL,k+1,rfl,rfl,bL,dS B E (ej λh=>G h.symm),u⟩)))
def C263(B:Value)(ns:List ByteArray)(s:ByteArray)(w:World)(E:dz (λ_=>True) w B ns)(G:ns.length<=1048576):CR 263 [B,.string s] w (λv w'=>v=.bool (ns.any λy=>decide (y=s))/\Ext w w'):=by
 have u:=St.start w;refine eU Tryz.func263 ?_;exact aS XK u (C225 _ _ _ _ (E.ext u.aF) bL) (λ_ _ u=>cR ⟨vb (BM _ _),u.aF⟩)
def C281(M fv:Value)(xs:List ByteArray)(g:ByteArray->Bool)(w:World)(J:dz (λ_=>True) w M xs)(Y:vM w fv g)(hn:xs.length<=1073741824):CR 281 [M,fv] w (λv w'=>v=hH (rS g xs)/\Ext w w'):=by
 obtain⟨g0,first,cap,rfl,W,V⟩:=Y;have u:=St.start w;refine eU Tryz.func281 ?_;refine aH ix (J.ext u.aF) ?_;refine⟨λm x E=>∃k:Nat,x=hH (k:Int)/\m=xs.length-k/\k<=xs.length/\(∀y∈xs.take k,g y=false)/\St w aY [] E,⟨_,0,rfl,rfl,kO _,ea,u⟩,?_⟩;rintro m _ E ⟨k,rfl,rfl,hk,B,u⟩ _;refine aO (aC (λje=>?_) λ_=>⟨ez (mn .i64) (iT (by rw[kp bL]at B;exact B)).symm,u.aF⟩);obtain⟨O,G⟩:=gx xs (i:=(k:Int).toNat) bL;refine aM ix J bL G (λ_ U=>aE gn (U.ext u.aF) (gS W (V O E u.aF) ?_))
 rintro _ _ ⟨rfl,Z⟩;have u:=u.ext Z;exact aX (λI=>⟨ez (mn .i64) (lM B G I).symm,u.aF⟩) (λI=>aJ bL ⟨xs.length-(k+1),bL,k+1,rfl,rfl,bL,dS B G I,u⟩)
def C240(B fv:Value)(xs:List ByteArray)(g:ByteArray->Bool)(w:World)(G:dz (λ_=>True) w B xs)(E:vM w fv g)(I:xs.length<=1073741824):CR 240 [B,fv] w (λv w'=>v=.bool (xs.any g)/\Ext w w'):=by
 have u:=St.start w;refine eU Tryz.func240 ?_;exact aS aoT u (C281 _ _ _ _ _ (G.ext u.aF) (E.ext u.aF) bL) (λ_ _ u=>cR ⟨vb (kD _ _),u.aF⟩)
def C264(lv:Value)(xs:List bY)(w:World)(U:dz (λ_=>True) w lv xs)(hn:xs.length<=1048576)(hr:fw xs=true):CR 264 [lv] w (λv w'=>kZ (bF v (nG xs)) w w'):=by
 have u:=St.start w;refine eU Tryz.func264 ?_;refine aS Sa u (C185 _ _ _ (U.ext u.aF) bL) (λV he u=>bP (aX (λO=>?_) λO=>?_))
 .rw[hr]at O;cases O
 refine aH gV (U.ext u.aF) ?_;refine⟨λm J x V=>∃k:Nat,x=hH (k:Int)/\m=xs.length-k/\k<=xs.length/\St w aY [bF J (nG (xs.take k))] V,⟨_,0,rfl,rfl,bL,u.eW (α:=ByteArray)⟩,?_⟩;rintro m J _ _ ⟨k,rfl,rfl,hk,u⟩ _;refine aO (aC (λY=>?_) λY=>?_)
 .obtain⟨B,W⟩:=gx xs (i:=(k:Int).toNat) bL;refine⟨λE w'=>St w aY [bF E (nF (nG (xs.take k)) B)] w',?_,?_⟩
  .have TO:=Cz (xs.take k);rw[lQ]at TO;refine aM gV U bL W (λ_ Z=>aE rI (Z.ext u.aF) (aQ u xH λI5 _ u=>aK (x:=B) u rI rfl rfl λ_ u=>⟨λE w'=>E=.bool (decide (B.op=2)&&!(nG (xs.take k)).any λy=>decide (y=B.name))/\St w aY [bZ I5 (ia B),bF J (nG (xs.take k))] w',aA eX (aB (v:=hH B.op) bO u.hb rfl (aG (aC (λ_=>aA gh (aB (v:=.string B.name) gn u.hb rfl (aS agF u (C263 _ _ _ _ u.p1.dQ bL) λ_ _ u=>bP ⟨vb cH,u⟩))) λ_=>⟨vb cH,u⟩))),?_⟩))
   rintro _ _ ⟨rfl,u⟩ _;refine aX (λM=>?_) (λM=>?_)
   .refine aA gh (aB (v:=.string B.name) gn u.hb rfl (aW ([B.name]) u ix rfl rfl (dM rfl) λI _ u=>?_));have OZ:=u.dQ;refine bJ u.p2 ix OZ (by simp<;>omega) cZ (λG _ u=>?_);have u:=u.p1.drop;rw[X7 (by simpa using M)];exact u.p1.drop
   rw[X8 (by simpa using M)];exact u.drop
  rintro Pa _ u _;exact aJ bL ⟨_,bL,k+1,rfl,rfl,bL,by rw[LV (k:=k) W];exact u⟩
 rw[kp bL]at u;exact u.fresh
def I6{α:Type}[Flat α]{S:Nat->Prop}{w:World}{v:Value}{xs:List α}(h:dz S w v xs):vK v=true:=by obtain⟨a,c,rfl,_⟩:=h;rfl
theorem Uo(ns:List ByteArray)(xs:List bY):(qf ns xs).length<=xs.length:=by
 unfold qf
 split
 .unfold BI
  cases h:yZ xs with
  | none=>grind
  | some t=>
   rw[Ex.pq,<- Ex.cY,<- (u6 h).2];omega
 grind
theorem C265(lv nv:Value)(xs:List bY)(ns:List ByteArray)(i:Int)(t:Ex)(N:Nat)(w:World)(G:dz (λ_=>True) w lv xs)(hN:dz (λ_=>True) w nv ns)(hn:xs.length<=1048576)(Bm:ns.length<=1048576)(E:Bn xs i t)(hNt:t.size<N):CR 265 [lv,hH i,nv] w (λv w'=>kZ (bF v (t.steps ns)) w w'):=by
 obtain⟨B,hq,I⟩:∃e,e=t.root/\xs[(i).toNat]?=some e:=⟨_,rfl,E.root.1⟩;have hri:=E.root.2;have hie:=E.end;have OV:=Ex.oN E.2.1;rw[<- hq]at OV;have Xs:=tI B.op;have hi0:=E.1;have hwk:=O9 (k:=B.op) bL;have u:=St.start w;refine pJ Tryz.func265 (pl:=av0) ?_;refine aJ bL (aM gV G bL I λ_ gH=>bW B.op eX gH rfl rfl λ_ ur=>aE bO (ur.ext u.aF) (aS Wo u (C267 _ _) λV he u=>?_));refine⟨λm M a x V=>∃k:Nat,a=hH (i+1+qe t.eu k)/\x=hH (k:Int)/\m=t.eu.length-k/\k<=t.eu.length/\St w aY [bF M (Xt ns t.eu k)] V,⟨_,0,ez (mn .i64) (by simp[qe]),rfl,rfl,bL,u.eW (α:=n8)⟩,?_⟩
 rintro m M _ _ _ ⟨k,rfl,rfl,rfl,hk,u⟩ _;refine aO (aC (λeT=>?_) λeT=>?_)
 .obtain⟨a,J⟩:=gx t.eu (i:=k) bL;have hka:=Ex.tJ E.2.1 (j0 J);have Ud:=E.kid J;have VL:=Ud.end;have Ue:=a.qZ;have Z:=Dh (ns:=ns) (ks:=t.eu) (k:=k);have Xw:=Ex.pq ns a;refine ef agC u (C265 _ _ _ _ _ _ (N-1) _ (G.ext u.aF) (hN.ext u.aF) hn Bm Ud bL) (λx24 _ cM u=>?_);have Pb:=u.dQ;exact bJ u.p1 td Pb bL cZ (λ_ _ u=>have u:=u.p1.drop;aS XJ u (C245 _ _ _ _ (G.ext u.aF) bL) λ_ _ u=>aJ bL ⟨_,bL,k+1,ez (mn .i64) (by rw[VL.1,uu J];omega),rfl,rfl,bL,by rw[Lt J];exact u⟩)
 have Z:=Dh (ns:=ns) (ks:=t.eu) (k:=k);refine aM gV G bL I (λ_ AJ=>bW B.op eX AJ rfl rfl λ_ W=>have u:=u.drew;aE bO (W.ext u.aF) (aM gV G bL I λ_ AG=>bW B.n ja AG rfl rfl λ_ Y=>aE bO (Y.ext u.aF) (pop (D7 _ _) (aQ u IK λBF _ u=>?_))));refine⟨fm bO (W.ext u.aF),?_⟩;refine⟨fm bO (Y.ext u.aF),?_⟩;refine aK (x:=(⟨B.op,B.n⟩:n8)) u D3 rfl rfl (λ_ u=>⟨λw'=>St w aY [bZ BF (ia (⟨B.op,Ex.numOf ns B⟩:n8)),bF M (Xt ns t.eu k)] w',aA nj (aB (v:=hH ((⟨B.op,B.n⟩:n8).kind)) bO u.hb rfl (aG (aC (λO=>?_) λO=>?_))),?_⟩)
 .refine aM gV G bL I (λ_ AD=>bW B.name gh AD rfl rfl λ_ Lw=>aE gn (Lw.ext u.aF) (aS XK u (C225 _ _ _ _ (hN.ext u.aF) bL) λ_ he u=>aA pY (aV u bO (dM rfl) (rfl) λ_ u=>?_)));have u:=u.enc (cs':=ia ({ (⟨B.op,B.n⟩:n8)with n:=(cU ns B.name)}:n8)) rfl;have U:Ex.numOf ns B=cU ns B.name:=ee O;rw[<- U]at u;exact u
 .have U:Ex.numOf ns B=B.n:=eb O;rw[<- U]at u;exact u
 rintro _ u _;refine aE D3 u.At (aW ([(⟨B.op,Ex.numOf ns B⟩:n8)]) u td rfl rfl (dM rfl) λao5 _ u=>?_);have Pc:=u.dQ;refine bJ u.p2 td Pc (by rw[Z,lH];have:(t.steps ns).length=t.size:=Ex.pq ns t;rw[Ex.u5,kH,lH,<- show k=t.eu.length from bL]at this;omega) cZ (λao6 _ u=>?_);have u:=u.p1.drop;rw[Ex.u5,<- show k=t.eu.length from bL,<- hq];exact u.p1.drop.fresh
termination_by N
decreasing_by all_goals omega
def C262(s:ByteArray)(b2:Nat)(B:Value)(ns:List ByteArray)(w:World)(hc:Cell w b2 0 B)(E:dz (λ_=>True) w B ns)(G:ns.length<=1048576):CR 262 [.string s,.pointer (some ⟨b2,0,none⟩)] w (λv w'=>v=.bool (!ns.any λy=>decide (y=s))/\Ext w w'):=by
 have u:=St.start w;refine eU Tryz.func262 ?_;exact bU iW (hc.ext u.aF) (aS agF u (C263 _ _ _ _ (E.ext u.aF) bL) λ_ _ u=>bP ⟨rfl,u.aF⟩)
def C218(lv G:Value)(xs:List bY)(ns:List ByteArray)(w:World)(J:dz (λ_=>True) w lv xs)(I:dz (λ_=>True) w G ns)(hn:xs.length<=1048576)(Bm:ns.length<=1048576):CR 218 [lv,G] w (λv w'=>∃s,v=.tuple #[s,hH (kG ns xs)]/\kZ (bF s (qf ns xs)) w w'):=by
 have u:=St.start w;refine adg _ _ _ _ ?_;unfold S218;refine nd u (I6 I) (λLX V u=>aS Sa u (C185 _ _ _ (J.ext u.aF) bL) λ_ he u=>bP (aX (λO=>?_) λO=>?_))
 .have W:kG ns xs=8:=ads (by simpa using O);refine⟨_,by rw[W],?_⟩;rw[LW (by rw[W];decide)];exact(u.drop.eW (α:=n8)).fresh
 have B:fw xs=true:=by simpa using O
 have TO:=Cz xs;have Y:=adt (ns:=ns) B;refine ef aoO u (C264 _ _ _ (J.ext u.aF) hn B) (λx12 _ cM u=>?_)
 have U:vM _ (.func (.func 262) [].toArray [.pointer (some ⟨LX,0,none⟩)].toArray) (λs=>!ns.any λy=>decide (y=s)):=
  ⟨262,[],_,rfl,aoQ,λy V Z=>C262 y LX G ns V ((u.p1.hb.cell rfl).ext Z) ((I.ext u.aF).ext Z) Bm⟩
 refine aS agE u (C240 _ _ _ _ _ u.dQ U bL) (λ_ he u=>aX (λM=>?_) λM=>?_)
 .have h9:kG ns xs=9:=by rw[Y,ee M]
  refine⟨_,by rw[h9],?_⟩;rw[LW (by rw[h9];decide)];exact(u.drop.drop.eW (α:=n8)).fresh
 refine aB iW u.p1.hb rfl ?_;have h0:kG ns xs=0:=by rw[Y,eb (by simpa using M)]
 have Xv:=y9 B;obtain⟨t,ht⟩:=Bn.of (xs:=xs) (i:=0) bL;have hz:=ht.zero Xv;refine ef agC u (C265 _ _ _ _ _ t (t.size+1) _ (J.ext u.aF) (I.ext u.aF) hn Bm ht bL) (λE _ cM u=>?_);refine⟨E,by rw[h0],?_⟩;unfold qf BI;rw[ee h0,hz.2];exact u.p1.drop.p1.drop.fresh
def C143(lv E M:Value)(xs:List bY)(ns:List ByteArray)(nums:List Int)(w:World)(U:dz (λ_=>True) w lv xs)(G:dz (λ_=>True) w E ns)(J:dz (λ_=>True) w M nums)(Y:xs.length<=1048576)(Z:ns.length<=1048576):CR 143 [lv,E,M] w (λv w'=>v=.tuple #[hH (qA ns nums xs).1,hH (qA ns nums xs).2]/\Ext w w'):=by
 have u:=St.start w;refine adh _ _ _ _ _ ?_;unfold S143;refine aH ix (G.ext u.aF) (aH cQ (J.ext u.aF) (bT (aC (λV=>?_) λV=>?_)))
 .refine⟨?_,u.aF⟩;unfold qA;rw[eb bL]
 refine dO aoP (C218 _ _ _ _ _ (U.ext u.aF) (G.ext u.aF) bL bL) ?_;rintro I _ ⟨Xn,rfl,O⟩;have u:=u.made O;refine aN rfl (aN rfl (bT (aC (λB=>?_) λB=>?_)))
 .refine⟨?_,u.aF⟩;unfold qA;rw[ee bL,eb B]
 have W:=Uo ns xs;refine aS anh u (C219 _ _ _ _ _ u.dQ (J.ext u.aF) bL) (λ_ he u=>aN rfl (aN rfl ?_));refine⟨?_,u.aF⟩;unfold qA;rw[ee bL,ee (by simpa using B)]
variable (w:World) (K:Value->g7)
def av3:dH:=λi=>match i with
 | 9=>(.of [(0,[]),(1,[]),(2,[]),(3,[]),(4,[]),(6,[]),(7,[]),(5,[7]),(8,[]),(9,[]),(10,[]),(11,[]),(12,[]),(13,[]),(15,[]),(16,[]),(14,[16]),(17,[]),(18,[]),(19,[]),(20,[]),(21,[]),(22,[]),(24,[]),(25,[]),(23,[25]),(26,[]),(27,[]),(28,[]),(29,[]),(30,[]),(31,[]),(33,[]),(34,[]),(32,[34]),(35,[]),(36,[]),(37,[]),(38,[])])
 | _=>.nil
def S284(B lU:Value):Prop:=
 o0 (λV Z E a=>∀_:Env,
 lN 141 B λb=>bA .lss 3 E b λc=>cV c (iA 141 B E λd=>lA 193 d a λe=>aL 193 a λf g=>sA 193 f e g λh=>bB .add 3 E (i 1) λj=>fA 193 f 6 λk=>lA 3 k h λl=>
 bA .add 3 j l λn=>fA 193 f 7 λo=>lA 3 o h λp=>bA .add 3 n p λq=>eR (λK2=>fA 193 f 0 λr=>lA 3 r h λs=>bB .eql 3 s (i 11) λt=>cV t (K2 tt h) (fA 193 f 0 λu=>
 lA 3 u h λv=>bB .eql 3 v (i 12) λx=>K2 x h)) (λSe y=>∀_:Env,
 eR (λI=>fA 193 f 6 λz=>lA 3 z y λaa=>bB .lss 3 aa (i 0) λab=>cV ab (I tt y) (fA 193 f 7 λac=>lA 3 ac y λad=>bB .lss 3 ad (i 0) λae=>cV ae (I tt y) (
 fA 193 f 6 λaf=>lA 3 af y λag=>lN 141 B λah=>bA .gtr 3 ag ah λai=>cV ai (I tt y) (fA 193 f 7 λaj=>lA 3 aj y λak=>lN 141 B λal=>bA .gtr 3 ak al λam=>
 cV am (I tt y) (lN 141 B λan=>bA .gtr 3 q an λao=>I ao y))))) (λap O=>∀_:Env,
 cV ap (K (i (-1)) O) (eR (λU=>eR (λK5=>eM g6 (Op.unary .not Se) λar=>cV ar (fA 193 f 6 λasx=>lA 3 asx O λau=>bB .gtr 3 au (i 0) λav=>K5 av O) (
 K5 ff O)) (λaw G=>∀_:Env,
 cV aw (U aw G) (eR (λK6=>fA 193 f 0 λay=>lA 3 ay G λaz=>bB .neq 3 az (i 11) λa0=>cV a0 (fA 193 f 7 λa1=>lA 3 a1 G λa2=>bB .gtr 3 a2 (i 0) λa3=>K6 a3 G) (
 K6 ff G)) (λa4 J=>∀_:Env,
 cV a4 (U a4 J) (fA 193 f 0 λa6=>lA 3 a6 J λa7=>bB .eql 3 a7 (i 13) λa8=>cV a8 (bB .eql 3 lU (i 0) λa9=>U a9 J) (U ff J)))))) (λba M=>∀_:Env,
 cV ba (K (i (-1)) M) (eR (λK7=>cV Se (fA 193 f 0 λbc=>lA 3 bc M λbd=>bB .eql 3 bd (i 12) λbe=>cF 302 [be] M λbf Y=>bA .add 3 lU bf λbh=>bB .add 3 E (i 1) λbi=>
 bB .add 3 E (i 1) λbj=>fA 193 f 6 λbk=>lA 3 bk (drew Y) λbl=>bA .add 3 bj bl λbm=>eM g6 (nn 141 B (some bi) (some bm) none) λbn=>bB .add 3 E (i 1) λbo=>
 fA 193 f 6 λbp=>lA 3 bp (drew Y) λbq=>bA .add 3 bo bq λbr=>eM g6 (nn 141 B (some br) (some q) none) λbs=>cF 284 [bn,bh] (drew Y) λbt bu=>
 kA 3 bp bq bu (cF 284 [bs,bh] bu λbv bw=>eR (λK8=>bB .eql 3 bt (i (-1)) λbx=>cV bx (K8 tt bw) (bB .eql 3 bv (i (-1)) λbz=>K8 bz bw)) (λb0 b1=>∀_:Env,
 cV b0 (K (i (-1)) b1) (bB .add 3 bt (i 1) λb2=>bB .add 3 bv (i 1) λb3=>eM g6 (Builtin.max_ #[3,3,3] 3 [Z,b2,b3].toArray) λb4=>K7 b4 b1)))) (K7 Z M)) (λW b5=>∀_:Env,
 V W q b5))))))) (K Z a)) (λV=>V (i 0) (i 0) w)
def av4:dH:=λi=>match i with
 | 15=>(.of [(0,[]),(1,[]),(2,[]),(3,[]),(4,[]),(5,[]),(6,[]),(7,[]),(8,[]),(9,[]),(11,[]),(12,[]),(13,[]),(14,[]),(15,[]),(16,[]),(17,[]),(18,[]),(19,[]),(10,[15]),(20,[]),(21,[]),(22,[])])
 | _=>.nil
theorem adu(B u:Value)(h:S284 w K B u):CR 284 [B,u] w K:=
 qu 131 av4 16 [.tmp 4] Tryz.func284 h
theorem ao8:PL 310:=dG Tryz.func310
theorem ao9:PL 283:=dG Tryz.func283
theorem LY:PL 311:=dG Tryz.func311
theorem agM:PL 313:=dG Tryz.func313
theorem agN:PL 314:=dG Tryz.func314
theorem X9:PL 284:=dG Tryz.func284
theorem apa:PL 241:=dG Tryz.func241
theorem apb:PL 108:=dG Tryz.func108
theorem apc:PL 177:=dG Tryz.func177
theorem apd:PL 179:=dG Tryz.func179
theorem ape:PL 182:=dG Tryz.func182
theorem apf:PL 183:=dG Tryz.func183
theorem Ya:PL 178:=dG Tryz.func178
theorem apg:PL 233:=dG Tryz.func233
theorem agO:PL 181:=dG Tryz.func181
theorem aph:PL 239:=dG Tryz.func239
theorem Yb:PL 184:=dG Tryz.func184
theorem api:PL 282:=dG Tryz.func282
theorem apj:PL 309:=dG Tryz.func309
theorem apk:PL 232:=dG Tryz.func232
theorem apl:PL 279:=dG Tryz.func279
theorem agP:PL 186:=dG Tryz.func186
theorem apm:PL 247:=dG Tryz.func247
theorem Yc:PL 187:=dG Tryz.func187
theorem apn:PL 248:=dG Tryz.func248
theorem apo:PL 188:=dG Tryz.func188
theorem apq:PL 249:=dG Tryz.func249
end Go.Proofs.YtpdlpabnlkofmaaGreatDoor
namespace Go.Proofs.YtpdlpabnlkofmaaGreatDoor
open Go.Fw
variable (w:World) (K:Value->g7)
theorem apr:PL 336:=dG Tryz.func336
theorem aps:PL 312:=dG Tryz.func312
end Go.Proofs.YtpdlpabnlkofmaaGreatDoor
namespace Go.Proofs.YtpdlpabnlkofmaaGreatDoor
open Go.Fw
structure K15 where
instance:Flat K15 where
 agg:=true
 sz:=15
 enc _:=Ug.map Cv
 val _:=.agg (Ug.map Cv).toArray
 pos:=cZ
 len _:=rfl
 one a v h:=by grind[vK]
 ng _ _:=rfl
 nh h:=by cases h
def C336(w:World):CR 336 [] w (λv w'=>v=hM (⟨⟩:K15)/\Ext w w'):=by
 have u:=St.start w;refine eU Tryz.func336 ?_;exact aQ u acG (λ_ _ u=>pop (v:=hM (⟨⟩:K15)) (by kernel_rfl) (aK (x:=(⟨⟩:K15)) u age rfl rfl λ_ u=>aE (x:=(⟨⟩:K15)) age u.At ⟨rfl,u.drop.aF⟩))
theorem C310(k:Int)(w:World):CR 310 [hH k] w (λv w'=>v=.string (fB k)/\Ext w w'):=by
 have u:=St.start w;refine eU Tryz.func310 ?_;refine⟨λB w'=>B=.bool (decide (k<0\/15<=k))/\w'=w,?_,?_⟩
 .exact aO (aC (λc=>⟨vb (ei (.inl c)).symm,rfl⟩) λ_=>cR ⟨vb (ew.2 bL),rfl⟩)
 rintro _ _ ⟨rfl,rfl⟩ _;refine aC (λ_=>⟨ez Cv (by unfold fB;rw[ee bL]),u.aF⟩) (λc=>aS apr u (C336 _) λ_ E u=>?_);obtain⟨n,rfl⟩:∃n:Nat,k=n:=⟨k.toNat,bL⟩;refine pop (v:=.string (fB n)) ?_ ⟨rfl,u.aF⟩
 match n,c with
 | 0,_=>exact(by kernel_rfl:pr g6 (tU 364 (hM K15.mk) (hH ((0:Nat):Int)))=some (.string (fB ((0:Nat):Int))))
 | 1,_=>exact(by kernel_rfl:pr g6 (tU 364 (hM K15.mk) (hH ((1:Nat):Int)))=some (.string (fB ((1:Nat):Int))))
 | 2,_=>exact(by kernel_rfl:pr g6 (tU 364 (hM K15.mk) (hH ((2:Nat):Int)))=some (.string (fB ((2:Nat):Int))))
 | 3,_=>exact(by kernel_rfl:pr g6 (tU 364 (hM K15.mk) (hH ((3:Nat):Int)))=some (.string (fB ((3:Nat):Int))))
 | 4,_=>exact(by kernel_rfl:pr g6 (tU 364 (hM K15.mk) (hH ((4:Nat):Int)))=some (.string (fB ((4:Nat):Int))))
 | 5,_=>exact(by kernel_rfl:pr g6 (tU 364 (hM K15.mk) (hH ((5:Nat):Int)))=some (.string (fB ((5:Nat):Int))))
 | 6,_=>exact(by kernel_rfl:pr g6 (tU 364 (hM K15.mk) (hH ((6:Nat):Int)))=some (.string (fB ((6:Nat):Int))))
 | 7,_=>exact(by kernel_rfl:pr g6 (tU 364 (hM K15.mk) (hH ((7:Nat):Int)))=some (.string (fB ((7:Nat):Int))))
 | 8,_=>exact(by kernel_rfl:pr g6 (tU 364 (hM K15.mk) (hH ((8:Nat):Int)))=some (.string (fB ((8:Nat):Int))))
 | 9,_=>exact(by kernel_rfl:pr g6 (tU 364 (hM K15.mk) (hH ((9:Nat):Int)))=some (.string (fB ((9:Nat):Int))))
 | 10,_=>exact(by kernel_rfl:pr g6 (tU 364 (hM K15.mk) (hH ((10:Nat):Int)))=some (.string (fB ((10:Nat):Int))))
 | 11,_=>exact(by kernel_rfl:pr g6 (tU 364 (hM K15.mk) (hH ((11:Nat):Int)))=some (.string (fB ((11:Nat):Int))))
 | 12,_=>exact(by kernel_rfl:pr g6 (tU 364 (hM K15.mk) (hH ((12:Nat):Int)))=some (.string (fB ((12:Nat):Int))))
 | 13,_=>exact(by kernel_rfl:pr g6 (tU 364 (hM K15.mk) (hH ((13:Nat):Int)))=some (.string (fB ((13:Nat):Int))))
 | 14,_=>exact(by kernel_rfl:pr g6 (tU 364 (hM K15.mk) (hH ((14:Nat):Int)))=some (.string (fB ((14:Nat):Int))))
 | n+15,c=>exact absurd (.inr bL) c
def aiG:List Nat:=[107,114,110,101,102]
def apt(c:Nat):ByteArray:=⟨#[c.toUInt8]⟩
def C312(k:Int)(c:Nat)(hc:c∈aiG)(w:World):CR 312 [.string (fB k),.string (apt c)] w (λv w'=>v=.bool (eO (fB k) c)/\Ext w w'):=by
 have u:=St.start w;refine eU Tryz.func312 ?_;refine aS agK u (C337 (fB k) c.toUInt8 _) (λ_ B u=>cR ?_);refine⟨vb ?_,u.aF⟩;have h1:=XU (iI (fB k)) c.toUInt8;have h2:c.toUInt8.toNat=c:=(by decide:∀c∈aiG,c.toUInt8.toNat=c) c hc;unfold eO;rw[show(λb:UInt8=>decide ((b.toNat:Int)=(c:Int)))=λb=>decide (b=c.toUInt8)from funext λ_=>ew.2 ⟨λ_=>UInt8.toNat_inj.1 bL,λh=>by rw[h,h2]⟩];exact(Bool.eq_iff_iff.2 (decide_eq_true_iff.trans h1))
def C311(k:Int)(c b2:Nat)(w:World)(hc:Cell w b2 0 (.string (fB k)))(B:c∈aiG):CR 311 [.string (apt c),.pointer (some ⟨b2,0,none⟩)] w (λv w'=>v=.bool (eO (fB k) c)/\Ext w w'):=by
 have u:=St.start w;refine eU Tryz.func311 ?_;exact bU gn (hc.ext u.aF) (aS aps u (C312 k c B _) λ_ _ u=>⟨rfl,u.aF⟩)
def C313(b:Bool)(s:ByteArray)(w:World):CR 313 [.bool b,.string s] w (λv w'=>v=.bool ((b&&gJ s)||(!b&&decide (s=⟨#[]⟩)))/\Ext w w'):=by
 have u:=St.start w;refine eU Tryz.func313 ?_;refine⟨λB w'=>B=.bool ((b&&gJ s)||(!b&&decide (s=⟨#[]⟩)))/\St w aY [] w',aX (λ_=>aS LC u (C180 _ _) λ_ _ u=>aX (λ_=>⟨vb cH,u⟩) λ_=>bP (aX (λ_=>iG ⟨vb cH,u⟩) λ_=>⟨vb cH,u⟩)) (λ_=>bP (aX (λ_=>iG ⟨vb cH,u⟩) λ_=>⟨vb cH,u⟩)),?_⟩;rintro _ _ ⟨rfl,u⟩ _;exact⟨rfl,u.aF⟩
def C314(b:Bool)(lv:Value)(xs:List bY)(w:World)(B:dz (λ_=>True) w lv xs)(G:xs.length<=1048576):CR 314 [.bool b,lv] w (λv w'=>v=.bool ((b&&fw xs)||(!b&&decide (xs.length=0)))/\Ext w w'):=by
 have u:=St.start w;refine eU Tryz.func314 ?_;refine⟨λE w'=>E=.bool ((b&&fw xs)||(!b&&decide (xs.length=0)))/\St w aY [] w',aX (λ_=>aS Sa u (C185 _ _ _ (B.ext u.aF) bL) λ_ _ u=>aX (λ_=>⟨vb cH,u⟩) λ_=>bP (aX (λ_=>aH gV (B.ext u.aF) (aG ⟨vb cH,u⟩)) λ_=>⟨vb cH,u⟩)) (λ_=>bP (aX (λ_=>aH gV (B.ext u.aF) (aG ⟨vb cH,u⟩)) λ_=>⟨vb cH,u⟩)),?_⟩;rintro _ _ ⟨rfl,u⟩ _;exact⟨rfl,u.aF⟩
theorem LZ{x:bK}{u:Bool}(h:u=(if eO (fB x.kind) 107=true then decide (1<=x.n/\x.n<=8)else decide (x.n=0))) :
  (!(decide (1<=x.kind/\x.kind<15/\0<=x.at_/\x.at_<=4000)&&u)||(!(eO (fB x.kind) 114&&gJ x.eB||!eO (fB x.kind) 114&&decide (x.eB=⟨#[]⟩))||(!(eO (fB x.kind) 110&&gJ x.name||!eO (fB x.kind) 110&&decide (x.name=⟨#[]⟩)) ||
  (!(eO (fB x.kind) 101&&fw x.e||!eO (fB x.kind) 101&&decide (x.e.length=0))||!(eO (fB x.kind) 102&&fw x.f||!eO (fB x.kind) 102&&decide (x.f.length=0)))))) = !mS x:=by
 subst h
 have G:gJ x.eB=true->¬ x.eB=⟨#[]⟩:=λh e=>by rw[e]at h;exact absurd h cZ
 have I:gJ x.name=true->¬ x.name=⟨#[]⟩:=λh e=>by rw[e]at h;exact absurd h cZ
 have B:fw x.e=true->¬ x.e.length=0:=λh e=>by rw[qa.1 e]at h;exact absurd h cZ
 have E:fw x.f=true->¬ x.f.length=0:=λh e=>by rw[qa.1 e]at h;exact absurd h cZ
 unfold mS
 cases h1:eO (fB x.kind) 114<;>cases h2:eO (fB x.kind) 110<;>cases h3:eO (fB x.kind) 101<;>cases h4:eO (fB x.kind) 102<;>cases h5:eO (fB x.kind) 107<;>simp<;>grind
def C283(x:bK)(Z:aZ)(w:World)(hx:mL w Z x)(M:x.e.length<=1048576)(J:x.f.length<=1048576):CR 283 [hM Z] w (λv w'=>v=.bool (!mS x)/\Ext w w'):=by
 obtain⟨U,O,rfl,Lx,GZ⟩:=hx;have u:=St.start w;refine pJ Tryz.func283 (pl:=av3) ?_;refine cJ u (λV _ u=>aA dK (aB (v:=hH x.kind) bO u.hb rfl (aS ao8 u (C310 _ _) λ_ B u=>gW u agb rfl λE _ u=>aV u gn (dM rfl) (rfl) λ_ u=>aA jB (aB (v:=hH x.n) bO u.p1.hb rfl (aG ⟨λG w'=>G=.bool (if eO (fB x.kind) 107=true then decide (1<=x.n/\x.n<=8)else decide (x.n=0))/\St w aY [bZ E [.string (fB x.kind)],bZ V (ia (⟨x.kind,x.eB,x.name,U,O,x.n,x.body,x.eo,x.at_⟩:aZ))] w',?_,?_⟩)))))
 .refine gS LY (C311 x.kind 107 E _ (u.hb.cell rfl) cZ) ?_;rintro _ _ ⟨rfl,B⟩;have u:=u.ext B;exact aX (λ_=>aA jB (aB (v:=hH x.n) bO u.p1.hb rfl (cR (aC (λ_=>aA jB (aB (v:=hH x.n) bO u.p1.hb rfl (ga ⟨vb cH,u⟩))) λ_=>⟨vb cH,u⟩)))) (λ_=>⟨vb cH,u⟩)
 rintro _ _ ⟨rfl,u⟩ _;refine⟨λG w'=>G=.bool (decide (1<=x.kind/\x.kind<15/\0<=x.at_/\x.at_<=4000)&&(if eO (fB x.kind) 107=true then decide (1<=x.n/\x.n<=8)else decide (x.n=0)))/\St w aY [bZ E [.string (fB x.kind)],bZ V (ia (⟨x.kind,x.eB,x.name,U,O,x.n,x.body,x.eo,x.at_⟩:aZ))] w',?_,?_⟩
 .refine aA dK (aB (v:=hH x.kind) bO u.p1.hb rfl (cR ?_));exact aC (λ_=>aA dK (aB (v:=hH x.kind) bO u.p1.hb rfl (aO (aC (λ_=>aA lj (aB (v:=hH x.at_) bO u.p1.hb rfl (cR (aC (λ_=>aA lj (aB (v:=hH x.at_) bO u.p1.hb rfl (ga (aC (λ_=>⟨vb cH,u⟩) λ_=>⟨vb cH,u⟩)))) λ_=>⟨vb cH,u⟩)))) λ_=>⟨vb cH,u⟩)))) (λ_=>⟨vb cH,u⟩)
 rintro _ _ ⟨rfl,u⟩ _;refine⟨λG w'=>G=.bool (!mS x)/\St w aY [bZ E [.string (fB x.kind)],bZ V (ia (⟨x.kind,x.eB,x.name,U,O,x.n,x.body,x.eo,x.at_⟩:aZ))] w',bP (aX (λ_=>have u:=u.drew;⟨vb (by rw[<- LZ rfl];grind),u⟩) λwP=>?_),?_⟩
 .refine aA iy (have u:=u.drew;aB (v:=.string x.eB) gn u.p1.hb rfl (gS LY (C311 x.kind 114 E _ (u.hb.cell rfl) cZ) ?_));rintro _ _ ⟨rfl,B⟩;have u:=u.ext B;refine⟨aI gn (u.p1.hb.cell rfl),?_⟩;refine gS agM (C313 _ x.eB _) ?_;rintro _ _ ⟨rfl,B⟩;have u:=u.ext B;refine bP (aX (λ_=>⟨vb (by rw[<- LZ rfl];grind),u⟩) λagQ=>aA fX (aB (v:=.string x.name) gn u.p1.hb rfl (gS LY (C311 x.kind 110 E _ (u.hb.cell rfl) cZ) ?_)));rintro _ _ ⟨rfl,B⟩;have u:=u.ext B;refine⟨aI gn (u.p1.hb.cell rfl),?_⟩;refine gS agM (C313 _ x.name _) ?_
  rintro _ _ ⟨rfl,B⟩;have u:=u.ext B;refine bP (aX (λ_=>⟨vb (by rw[<- LZ rfl];grind),u⟩) λI=>aA iN (aB jy u.p1.hb rfl ?_));have Y:=DL.flat Lx;refine gS LY (C311 x.kind 101 E _ (u.hb.cell rfl) cZ) ?_;rintro _ _ ⟨rfl,B⟩;have u:=u.ext B;refine⟨aI jy (u.p1.hb.cell rfl),?_⟩;refine gS agN (C314 _ _ x.e _ (Y.ext u.aF) M) ?_;rintro _ _ ⟨rfl,B⟩;have u:=u.ext B;refine bP (aX (λ_=>⟨vb (by rw[<- LZ rfl];grind),u⟩) λagy=>aA jS (aB jy u.p1.hb rfl ?_));have W:=DL.flat GZ;refine gS LY (C311 x.kind 102 E _ (u.hb.cell rfl) cZ) ?_
  rintro _ _ ⟨rfl,B⟩;have u:=u.ext B;refine⟨aI jy (u.p1.hb.cell rfl),?_⟩;refine gS agN (C314 _ _ x.f _ (W.ext u.aF) J) ?_;rintro _ _ ⟨rfl,B⟩;have u:=u.ext B;exact bP ⟨vb (by rw[<- LZ rfl];grind),u⟩
 rintro _ _ ⟨rfl,u⟩ _;exact⟨rfl,u.drop.drop.aF⟩
def BN{l:List bY}(h:fw l=true):∀y∈l,0<=y.at_:=by
 intro y B
 unfold fw at h
 have u:l.any kP=false:=cH
 rw[x7]at u
 have:=u y B
 unfold kP at this
 grind
structure apu(x:bK):Prop where
 kind:1<=x.kind/\x.kind<=14
 at0:0<=x.at_/\x.at_<=4000
 e:(eO (fB x.kind) 101=true/\fw x.e=true)\/(eO (fB x.kind) 101=false/\x.e=[])
 f:(eO (fB x.kind) 102=true/\fw x.f=true)\/(eO (fB x.kind) 102=false/\x.f=[])
 eB:(eO (fB x.kind) 114=true/\gJ x.eB=true)\/(eO (fB x.kind) 114=false/\x.eB=⟨#[]⟩)
 name:(eO (fB x.kind) 110=true/\gJ x.name=true)\/(eO (fB x.kind) 110=false/\x.name=⟨#[]⟩)
 n:(eO (fB x.kind) 107=true/\1<=x.n/\x.n<=8)\/(eO (fB x.kind) 107=false/\x.n=0)
def xQ{x:bK}(h:mS x=true):apu x:=by
 unfold mS at h
 simp only[nS,qm,Bool.or_eq_false_iff,decide_eq_false_iff_not,bne_eq_false_iff_eq,Bool.and_eq_false_iff,Bool.not_eq_false',u3]at h
 obtain⟨⟨⟨h1,h2⟩,h3⟩,h4⟩:=h
 constructor
 .omega
 .omega
 .grind
 .grind
 .grind
 .grind
 grind
def adw{x:bK}(h:mS x=true):0<=x.at_/\(∀y∈x.e,0<=y.at_)/\(∀y∈x.f,0<=y.at_):=by
 have h:=xQ h
 refine⟨h.at0.1,?_,?_⟩
 .rcases h.e with h|h
  .exact BN h.2
  grind
 rcases h.f with h|h
 .exact BN h.2
 grind
theorem aiH:eO (fB 12) 107=true:=cZ
theorem kU{l:List bK}(h:pw l=true):l.length<=40/\(∀x∈l,mS x=true)/\∃t:Bk,l=t.flat/\t.str/\t.ok 0=true/\t.depth<=12:=by
 unfold pw at h
 simp only[nS,decide_eq_true_eq,qm]at h
 obtain⟨⟨h1,h2⟩,h3⟩:=h
 rw[x7]at h2
 refine⟨h1,λx u=>cH,?_⟩
 unfold fy at h3
 cases hb:sN l with
 | none=>grind
 | some t=>
  rw[hb]at h3
  obtain⟨E,B⟩:=nM hb
  grind
structure PF(p:cE):Prop where
 lines:∀l∈p.lines,l≠[]/\∀c∈l,iK 4294967296 c=false
 iJ:∀c∈p.iJ,iK 4294967296 c=false
 eE:∀c∈p.eE,iK 0 c=false
 th:∀t∈p.threads,mg true t=false
 rc:∀t∈p.recover,mg false t=false
 cl:∀c∈p.dX,0<=c.at_/\fw c.e=true
 one:p.recover.length<=1
def qi{p:cE}(h:j7 p=true):PF p:=by
 unfold j7 nN ny at h
 simp only[nS,qm,x7,decide_eq_true_eq]at h
 obtain⟨⟨h1,h2⟩,⟨⟨h3,h4⟩,h5⟩,h6⟩:=h
 refine⟨λl u=>?_,λc hc=>cH,λc hc=>cH,λt ht=>cH,λt ht=>cH,λc hc=>?_,h6⟩
 .have:=h1 l u
  unfold nE nN at this
  grind
 have:=h2 c hc
 unfold lB q7 at this
 grind
def zh{nb:Bool}{t:cL}(h:mg nb t=false):0<=t.at_/\pw t.body=true/\(∀s∈t.dN,gJ s=true)/\gJ t.name=nb:=by
 unfold mg rX q7 at h
 grind
def zi{m:Int}{c:cG}(h:iK m c=false):0<=c.at_/\gJ c.name=true/\0<=c.n/\c.n<=m:=by
 unfold iK q7 at h
 grind
def gj(p:cE):List cL:=p.threads++p.recover
def PF.qB{p:cE}(h:PF p){t:cL}(ht:t∈gj p):0<=t.at_/\pw t.body=true/\∀s∈t.dN,gJ s=true:=by
 unfold gj at ht
 rcases oi.1 ht with ht|ht
 .have:=zh (h.th t ht);grind
 have:=zh (h.rc t ht);grind
def fo(p:cE):List Int:=(iQ p).map cG.n
def eJ(p:cE):Int:=(p.lines.flatten.length:Int)
def Yd(p:cE):((iQ p).length:Int)-p.iJ.length=eJ p:=by unfold iQ eJ;rw[kH];omega
def cX(p:cE):List ByteArray:=(iQ p).map cG.name
def cK(p:cE):List ByteArray:=p.eE.map cG.name
def jg:List (List cG)->Int->Int->Int
 | [],i,a=>i+a
 | l::r,i,a=>if a<l.length then i else jg r (i+1) (a-l.length)
def o7(p:cE)(c:Int):Int:=if c<0\/(iQ p).length<=c then -1 else jg p.lines 0 c
def oP(l:List bY)(ns:List ByteArray):Bool:=l.any λx=>decide (x.op=2)&&decide (cU ns x.name<0)
def qN(x:bK)(n:Int):Int:=if x.kind=12 then n*x.n else n
def mj:Bk->Int->Bool
 | .nil,_=>false
 | .cons x a b r,n=>decide (64<qN x n)||(mj a (qN x n)||mj b (qN x n))||mj r n
def Bk.app:Bk->Bk->Bk
 | .nil,t=>t
 | .cons x a b r,t=>.cons x a b (r.app t)
theorem Bk.AK(a b:Bk):(a.app b).flat=a.flat++b.flat:=by
 induction a with
 | nil=>rfl
 | cons x c d r _ _ u=>grind[flat,app]
theorem Bk.Sf{a b:Bk}(u:a.str)(hb:b.str):(a.app b).str:=by
 induction a with
 | nil=>exact hb
 | cons x c d r _ _ B=>
  grind[str,app]
theorem G8(a b:Bk)(n:Int):mj (a.app b) n=(mj a n||mj b n):=by
 induction a with
 | nil=>simp[Bk.app,mj]
 | cons x c d r _ _ u=>simp only[Bk.app,mj,u,Bool.or_assoc]
def qO(l:List bK):Bool:=match sN l with|some t=>mj t 1|none=>false
theorem va{t:Bk}(h:t.str):qO t.flat=mj t 1:=by unfold qO;rw[rq h]
def fL(p:cE):List cG:=iQ p++p.eE++p.threads.map (λt=>⟨t.name,0,t.at_⟩)
def Dj(l:List cG)(j:Nat):Bool:=match l[j]? with|some c=>decide (cU (l.map cG.name) c.name<j)|none=>false
def j9(l:List cG):Bool:=(v7 l.length).any (Dj l)
def Sg(p:cE)(rs:List ByteArray)(j:Nat):Bool:=match rs[j]? with|some s=>decide (cU rs s<j)||decide (0<=cU (cX p) s)||decide (0<=cU (cK p) s)|none=>false
def uA(p:cE)(rs:List ByteArray):Bool:=(v7 rs.length).any (Sg p rs)
theorem L4{f:Nat->Bool}{n:Nat}(h:∀j,j<n->f j=false):(v7 n).any f=false:=by
 grind
theorem L5{f:Nat->Bool}{n j:Nat}(u:j<n)(h:f j=true):(v7 n).any f=true:=u4.2 ⟨j,Iw.2 u,h⟩
def Sh{f:Nat->Bool}{k:Nat}(h:∀j,j<k->f j=false)(u:f k=false):∀j,j<k+1->f j=false:=λj B=>by
 grind
def mT(p:cE)(rs:List ByteArray)(x:bK):Bool:=
 (decide (¬ x.eB=⟨#[]⟩)&&decide (cU rs x.eB<0)) ||
 ((decide (x.kind=2)||decide (x.kind=3)||decide (x.kind=4))&&decide (cU (cX p) x.name<0)) ||
 ((decide (x.kind=5)||decide (x.kind=6))&&(decide (cU (cX p) x.name<0)||decide (eJ p<=cU (cX p) x.name))) ||
 ((decide (x.kind=9)||decide (x.kind=10))&&decide (cU (cK p) x.name<0))||oP x.e rs||oP x.f rs
def uB(p:cE):Bool:=p.lines.any (λl=>decide (4<(l.length:Int)))||(gj p).any (λt=>decide (4<(t.dN.length:Int))) ||
 (decide (4<(p.lines.length:Int))||decide (4<(p.iJ.length:Int))||decide (2<(p.eE.length:Int))||decide ((p.threads.length:Int)<1)||decide (3<(p.threads.length:Int))||decide (4<(p.dX.length:Int)))
def iu(p:cE):List ByteArray:=(cX p).take (eJ p).toNat
def fc(p:cE):Int:=
 if j7 p=false then 8 else if uB p=true then 2 else if (gj p).any (λt=>qO t.body)=true then 11 else if j9 (fL p)=true then 10
 else if (gj p).any (λt=>uA p t.dN)=true then 10 else if (gj p).any (λt=>t.body.any (mT p t.dN))=true then 9
 else if p.dX.any (λc=>oP c.e (iu p))=true then 9 else 0
def I7{x:bK}(h:mS x=true):0<=x.at_/\(x.kind=12->1<=x.n/\x.n<=8):=by
 have h:=xQ h
 refine⟨h.at0.1,λu=>?_⟩
 rcases h.n with h|h
 .exact h.2
 rw[u,aiH]at h;grind
section
variable {p:cE}
theorem ce8(h1:j7 p=false):fc p=8:=by unfold fc;grind
theorem ce2(h1:j7 p=true)(h2:uB p=true):fc p=2:=by grind[fc]
theorem apv(h1:j7 p=true)(h2:uB p=false)(h3:(gj p).any (λt=>qO t.body)=true):fc p=11:=by grind[fc]
theorem apw(h1:j7 p=true)(h2:uB p=false)(h3:(gj p).any (λt=>qO t.body)=false)(h4:j9 (fL p)=true):fc p=10:=by
 grind[fc]
theorem agR(h1:j7 p=true)(h2:uB p=false)(h3:(gj p).any (λt=>qO t.body)=false)(h4:j9 (fL p)=false)(h5:(gj p).any (λt=>uA p t.dN)=true):fc p=10:=by
 grind[fc]
theorem ce9(h1:j7 p=true)(h2:uB p=false)(h3:(gj p).any (λt=>qO t.body)=false)(h4:j9 (fL p)=false)(h5:(gj p).any (λt=>uA p t.dN)=false)
  (h6:(gj p).any (λt=>t.body.any (mT p t.dN))=true):fc p=9:=by
 grind[fc]
theorem apx(h1:j7 p=true)(h2:uB p=false)(h3:(gj p).any (λt=>qO t.body)=false)(h4:j9 (fL p)=false)(h5:(gj p).any (λt=>uA p t.dN)=false)
  (h6:(gj p).any (λt=>t.body.any (mT p t.dN))=false) (u:p.dX.any (λc=>oP c.e (iu p))=true):fc p=9:=by
 grind[fc]
theorem ce0(h1:j7 p=true)(h2:uB p=false)(h3:(gj p).any (λt=>qO t.body)=false)(h4:j9 (fL p)=false)(h5:(gj p).any (λt=>uA p t.dN)=false)
  (h6:(gj p).any (λt=>t.body.any (mT p t.dN))=false) (u:p.dX.any (λc=>oP c.e (iu p))=false):fc p=0:=by
 grind[fc]
theorem PF.decl(h:PF p):∀c∈fL p,0<=c.at_:=by
 intro c hc
 unfold fL iQ at hc
 rcases oi.1 hc with hc|hc
 .rcases oi.1 hc with hc|hc
  .rcases oi.1 hc with hc|hc
   .obtain⟨l,u,hc⟩:=List.mem_flatten.1 hc
    exact(zi ((h.lines l u).2 c hc)).1
   exact(zi (h.iJ c hc)).1
  exact(zi (h.eE c hc)).1
 obtain⟨t,ht,rfl⟩:=n4.1 hc
 exact(zh (h.th t ht)).1
theorem Up(u:PS p):(fL p).length<=252000:=by
 have:=kF u
 have:=u.eE
 have:=u.threads
 grind[fL]
theorem ml(u:PS p):(cX p).length<=250500:=by unfold cX;rw[mv];exact kF u
theorem Dk(u:PS p):(gj p).length<=1000:=by
 have:=u.threads
 have:=u.recover
 grind[gj]
theorem PZ.qB(u:PZ p){t:cL}(ht:t∈gj p):XB t/\t.dN.length<=500/\t.body.length<=500:=by
 refine⟨?_,u.dN t ht,u.body t ht⟩
 rcases oi.1 ht with h|h
 .exact u.zt t h
 exact u.zr t h
end
def C118(p:cE)(pv:bM)(w:World)(hp:mL w pv p)(B:PZ p):CR 118 [hM pv] w (λv w'=>v=.bool (j7 p)/\Ext w w'):=by
 obtain⟨I,bR,Z,U,J,bE,rfl,cO,dA,cW,cA,cB,cN⟩:=hp;have u:=St.start w;refine eU Tryz.func118 ?_;refine cJ u (λM w1 u=>?_);refine⟨λm x w1=>∃k:Nat,x=hH (k:Int)/\m=p.lines.length-k/\k<=p.lines.length/\(∀y∈p.lines.take k,nE y=false)/\St w aY [bZ M (ia (⟨I,bR,Z,U,J,bE⟩:bM))] w1,⟨_,0,rfl,rfl,kO _,ea,u⟩,?_⟩;rintro m _ _ ⟨k,rfl,rfl,hk,ey,u⟩ _;have hzl:=B.lines;refine aA gq (aB oz u.hb rfl ?_);obtain⟨aiI,Uq,Ye⟩:=cO.open
 have av5:=Ye.1;refine aH pj (Uq.ext u.aF) (aO (aC (λje=>?_) λje=>?_))
 .obtain⟨El,qz⟩:=gx aiI (i:=(k:Int).toNat) bL;obtain⟨O,EK⟩:=gx p.lines (i:=(k:Int).toNat) bL;have apy:DL w (hM El) O:=Ye.2 _ _ _ qz EK;refine⟨λjv w'=>jv=.bool (nE O)/\St w aY [bZ M (ia (⟨I,bR,Z,U,J,bE⟩:bM))] w',?_,?_⟩
  .refine aA gq (aB oz u.hb rfl (aM pj (Uq.ext u.aF) bL qz λ_ ur=>aE jw ur ?_));have adx:=DL.flat apy;exact aH ie (adx.ext u.aF) (aG (aC (λ_=>⟨vb (by unfold nE;grind),u⟩) λ_=>aA gq (aB oz u.hb rfl (aM pj (Uq.ext u.aF) bL qz λ_ qh=>aE jw qh (aS Wj u (C198 _ _ _ _ (adx.ext u.aF) (by have:=B.line _ (j0 EK);omega) (B.zl _ (j0 EK))) λ_ _ u=>bP ⟨vb (by unfold nE;grind),u⟩)))))
  rintro _ _ ⟨rfl,u⟩ _;refine aX (λlx=>?_) (λlx=>aJ bL ⟨_,bL,k+1,rfl,rfl,bL,dS ey EK lx,u⟩);refine⟨vb ?_,u.drop.aF⟩;unfold j7;rw[gZ EK lx];rfl
 have W:=ey;refine⟨λm x w1=>∃E:Nat,x=hH (E:Int)/\m=p.dX.length-E/\E<=p.dX.length/\(∀y∈p.dX.take E,lB y=false)/\St w aY [bZ M (ia (⟨I,bR,Z,U,J,bE⟩:bM))] w1,⟨_,0,rfl,rfl,kO _,ea,u⟩,?_⟩;rintro m _ _ ⟨E,rfl,rfl,Xs,Pd,u⟩ _;have hzc:=B.dX;refine aA jR (aB sL u.hb rfl ?_);obtain⟨av6,G,V⟩:=cN.open;have hn13:=V.1;refine aH uf (G.ext u.aF) (aO (aC (λjU=>?_) λjU=>⟨λjv w'=>jv=.bool (nN 4294967296 p.iJ&&nN 0 p.eE&&ny true p.threads&&ny false p.recover&&decide (p.recover.length<=1))/\St w aY [bZ M (ia (⟨I,bR,Z,U,J,bE⟩:bM))] w',?_,?_⟩))
 .obtain⟨L6,BO⟩:=gx av6 (i:=(E:Int).toNat) bL;obtain⟨agT,Y⟩:=gx p.dX (i:=(E:Int).toNat) bL;obtain⟨ady,rfl,adz⟩:=V.2 _ _ _ BO Y;refine⟨λjv w'=>jv=.bool (lB agT)/\St w aY [bZ M (ia (⟨I,bR,Z,U,J,bE⟩:bM))] w',aA jR (aB sL u.hb rfl (aM uf (G.ext u.aF) bL BO λ_ yz=>bW agT.at_ IE yz rfl rfl λ_ wL=>aE bO wL (aS Rs u (C199 _ _) λ_ he u=>bP (aX (λ_=>⟨vb (by unfold lB;grind),u⟩) λqj=>?_)))),?_⟩
  .refine aA jR (aB sL u.hb rfl (aM uf (G.ext u.aF) bL BO λ_ AD=>bW ady xF AD rfl rfl λ_ Lw=>aE jy Lw ?_));have av7:=DL.flat adz;exact aS Kv u (C200 _ _ _ (av7.ext u.aF) (B.zc _ (j0 Y)).1 (B.zc _ (j0 Y)).2) (λ_ _ u=>bP ⟨vb (by unfold lB;grind),u⟩)
  rintro _ _ ⟨rfl,u⟩ _;refine aX (λvC=>?_) (λvC=>aJ bL ⟨_,bL,E+1,rfl,rfl,bL,dS Pd Y vC,u⟩);refine⟨vb ?_,u.drop.aF⟩;unfold j7;rw[gZ Y vC];simp
 .refine aA pK (aB jw u.hb rfl ?_);have av8:=DL.flat dA;refine aS Wj u (C198 _ _ _ _ (av8.ext u.aF) (by have:=B.iJ;omega) B.zv) (λ_ he u=>aX (λRY=>?_) λ_=>⟨vb cH,u⟩);refine aA nD (aB jw u.hb rfl ?_);have aiK:=DL.flat cW;refine aS Wj u (C198 _ _ _ _ (aiK.ext u.aF) (by have:=B.eE;omega) B.zk) (λ_ he u=>aX (λc_x59=>aA kj (aB im u.hb rfl (aS afX u (C201 _ _ true _ (cA.ext u.aF) (by have:=B.threads;omega) λ_ ht=>B.qB (List.mem_append_left _ ht)) λ_ he u=>aX (λuC=>aA oA (aB im u.hb rfl (aS afX u (C201 _ _ false _ (cB.ext u.aF) (by have:=B.recover;omega) λ_ ht=>B.qB (List.mem_append_right _ ht)) λ_ he u=>aX (λagp=>?_) λ_=>⟨vb cH,u⟩))) λ_=>⟨vb cH,u⟩))) λ_=>⟨vb cH,u⟩)
  refine aA oA (aB im u.hb rfl ?_);obtain⟨ts17,av9,awa⟩:=cB.open;have hn17:=awa.1;exact aH fr (av9.ext u.aF) (ga ⟨vb cH,u⟩)
 rintro _ _ ⟨rfl,u⟩ _;refine⟨vb ?_,u.drop.aF⟩;unfold j7;rw[iq (by rw[kp bL]at W;exact W),iq (by rw[kp bL]at Pd;exact Pd)];rfl
def C63(p:cE)(pv:bM)(w:World)(hp:mL w pv p)(V:PZ p):CR 63 [hM pv] w (λv w'=>kZ (bF v (fo p)) w w'):=by
 obtain⟨I,W,U,G,J,O,rfl,cO,dA,cW,cA,cB,cN⟩:=hp;have u:=St.start w;refine eU Tryz.func63 ?_;refine cJ u (λj5 E u=>aW ([]:List Int) u cQ rfl rfl (dM rfl) λadA _ u=>aE eN u.p1.At (ef TS u (C59 p _ _ ⟨I,W,U,G,J,O,rfl,cO.ext u.aF,dA.ext u.aF,cW.ext u.aF,cA.ext u.aF,cB.ext u.aF,cN.ext u.aF⟩ V.toPS) λx8 _ cM u=>?_));have u:=u.p2.p1.p2;refine⟨λm y x E=>∃k:Nat,x=hH (k:Int)/\m=(iQ p).length-k/\k<=(iQ p).length/\St w aY [bF y (((iQ p).take k).map cG.n),bF x8 (iQ p),bZ j5 (ia (⟨I,W,U,G,J,O⟩:bM))] E,⟨_,0,rfl,rfl,bL,u⟩,?_⟩
 rintro m oL _ _ ⟨k,rfl,rfl,hk,u⟩ _;have hac:=kF V.toPS;have KH:(((iQ p).take k).map cG.n).length=k:=by rw[mv,lQ];omega
 refine aH ie u.p1.dQ (aO (aC (λZ=>?_) λZ=>?_))
 .obtain⟨Y,M⟩:=gx (iQ p) (i:=(k:Int).toNat) bL;refine dJ u.p1 ie bL bL (λ_ rT=>l8 rH rT λ_ me=>nt Y.n u.p1 bO me M rfl (aW ([Y.n]:List Int) u cQ rfl rfl (dM rfl) λagU _ u=>?_));have B:=u.dQ;exact bJ u.p1 cQ B (by simp<;>omega) cZ (λ_ _ u=>have u:=u.p1.drop;aJ bL (have u:=u.p2.p2.p2;⟨_,bL,k+1,rfl,rfl,bL,by rw[<- gI (k:=k) M];exact u⟩))
 have u:=u.p1.drop.p1.drop;rw[kp bL]at u;exact u.fresh
def C124(p:cE)(pv:bM)(w:World)(W:mL w pv p)(B:PZ p):CR 124 [hM pv] w (λv w'=>kZ (bF v (cX p)) w w'):=by
 obtain⟨G,bR,Z,E,I,V,rfl,J,U,Y,O,M,cN⟩:=W;have u:=St.start w;refine eU Tryz.func124 ?_;exact cJ u (λ_ _ u=>aE eN u.At (ef TS u (C59 p _ _ ⟨G,bR,Z,E,I,V,rfl,J.ext u.aF,U.ext u.aF,Y.ext u.aF,O.ext u.aF,M.ext u.aF,cN.ext u.aF⟩ B.toPS) λ_ _ _ u=>ef Wk u (C202 _ _ _ u.dQ (by have:=kF B.toPS;omega)) λ_ _ _ u=>have u:=u.p1.drop.p1.drop;u.fresh))
def C125(p:cE)(pv:bM)(w:World)(E:mL w pv p)(I:PZ p):CR 125 [hM pv] w (λv w'=>kZ (bF v (cK p)) w w'):=by
 obtain⟨M,bR,bI,J,O,bE,rfl,U,Z,G,Y,W,cN⟩:=E;have u:=St.start w;refine eU Tryz.func125 ?_;refine cJ u (λV _ u=>aA nD (aB jw u.hb rfl ?_));have B:=DL.flat G;exact ef Wk u (C202 _ _ _ (B.ext u.aF) (by have:=I.eE;omega)) (λ_ _ _ u=>have u:=u.p1.drop;u.fresh)
def C62(p:cE)(pv:bM)(w:World)(hp:mL w pv p)(E:PZ p):CR 62 [hM pv] w (λv w'=>v=hH (eJ p)/\Ext w w'):=by
 obtain⟨M,bR,bI,J,U,Z,rfl,V,G,cW,Y,W,cN⟩:=hp;have u:=St.start w;refine pJ Tryz.func62 (pl:=P62) ?_;refine cJ u (λj5 _ u=>have u:=u.drew;aE eN u.At (aA pK (aB jw u.hb rfl ?_)));have B:=DL.flat G;refine aH ie (B.ext u.aF) (ef TS u (C59 p _ _ ⟨M,bR,bI,J,U,Z,rfl,V.ext u.aF,G.ext u.aF,cW.ext u.aF,Y.ext u.aF,(W).ext u.aF,cN.ext u.aF⟩ E.toPS) λx4 _ cM u=>?_);refine⟨aI jw (u.p1.hb.cell rfl),?_⟩
 refine aH ie u.dQ ?_;have O:=kF E.toPS;have I:=E.iJ;exact fk bL (have u:=u.drop.drop;⟨ez (mn .i64) (Yd p),u.aF⟩)
theorem Yf{l:List cG}{r:List (List cG)}{i a:Int}(h:¬ a<l.length):jg (l::r) i a=jg r (i+1) (a-l.length):=by rw[jg,eb h]
def Yg{x:bK}{n m:Int}(u:1<=n/\n<=64)(h:x.kind=12->1<=x.n/\x.n<=8)(B:m=qN x n):1<=m/\m<=512:=by
 rw[B];unfold qN
 split
 .rename_i hk
  have:=h hk
  have h1:=Ix (a:=1) (b:=1) u.1 this.1 bL bL
  have h2:=Ix (c:=64) (d:=8) u.2 this.2 bL bL
  omega
 omega
theorem Bk.Dl{t:Bk}(h:¬ (t.flat.length:Int)=0):∃x a b r,t=.cons x a b r:=by
 cases t with
 | nil=>exact absurd rfl h
 | cons x a b r=>grind
theorem Bk.CP{x:bK}{a b r:Bk}(h:(Bk.cons x a b r).str){hi lo:Int}(h1:hi=1+x.body+x.eo)(h2:lo=1):((Bk.cons x a b r).flat.take hi.toNat).drop lo.toNat=(a.app b).flat:=by
 obtain⟨B,u,_⟩:=h
 have E:=a.cY
 have lb:=b.cY
 rw[Bk.AK,u7 _ (a:=1) (n:=(a.flat++b.flat).length) cH bL]
 grind[flat]
theorem Bk.aiN{x:bK}{a b r:Bk}(h:(Bk.cons x a b r).str){hi:Int}(h1:hi=1+x.body+x.eo):(Bk.cons x a b r).flat.drop hi.toNat=r.flat:=by
 obtain⟨E,u,_⟩:=h
 have B:=a.cY
 have lb:=b.cY
 have e:(Bk.cons x a b r).flat=(x::(a.flat++b.flat))++r.flat:=by simp[Bk.flat]
 rw[e,show hi.toNat=(x::(a.flat++b.flat)).length from by simp;omega,DB]
theorem xR{l:List cG}{k:Nat}{c:cG}(h:l[k]?=some c):Dj l k=decide (cU (l.map cG.name) c.name<k):=by unfold Dj;rw[h]
theorem AL{p:cE}{l:List ByteArray}{k:Nat}{c:ByteArray}(h:l[k]?=some c):Sg p l k=(decide (cU l c<k)||decide (0<=cU (cX p) c)||decide (0<=cU (cK p) c)):=by unfold Sg;rw[h]
theorem Dm(a b:Bk):(a.app b).len=a.len+b.len:=by rw[<- Bk.cY,Bk.AK,kH,Bk.cY,Bk.cY]
def C60(p:cE)(pv:bM)(c:Int)(w:World)(hp:mL w pv p)(hz:PZ p):CR 60 [hM pv,hH c] w (λv w'=>v=hH (o7 p c)/\Ext w w'):=by
 obtain⟨V,bR,bI,U,W,bE,rfl,cO,dA,cW,cA,cB,cN⟩:=hp;have u:=St.start w;refine eU Tryz.func60 ?_;refine cJ u (λI w1 u=>⟨λjv w'=>jv=.bool (decide (c<0)||decide (((iQ p).length:Int)<=c))/\St w aY [bZ I (ia (⟨V,bR,bI,U,W,bE⟩:bM))] w',aO (aC (λ_=>⟨vb cH,u⟩) λ_=>aE eN u.At (ef TS u (C59 p _ _ ⟨V,bR,bI,U,W,bE,rfl,cO.ext u.aF,dA.ext u.aF,cW.ext u.aF,cA.ext u.aF,cB.ext u.aF,cN.ext u.aF⟩ hz.toPS) λ_ _ _ u=>aH ie u.dQ (cR (have u:=u.drop;⟨vb cH,u⟩)))),?_⟩)
 rintro _ _ ⟨rfl,u⟩ _;have hac:=kF hz.toPS;refine aX (λjd=>?_) (λjd=>?_)
 .refine⟨ez (mn .i64) ?_,u.drop.aF⟩;unfold o7;rw[ee cH]
 have hc2:0<=c/\c<(iQ p).length:=cH
 refine⟨λm y x w1=>∃(k:Nat) (a:Int),y=hH a/\x=hH (k:Int)/\m=p.lines.length-k/\k<=p.lines.length/\0<=a/\a<=c/\jg p.lines 0 c=jg (p.lines.drop k) k a/\St w aY [bZ I (ia (⟨V,bR,bI,U,W,bE⟩:bM))] w1,⟨_,0,c,rfl,rfl,rfl,bL,bL,bL,rfl,u⟩,?_⟩;rintro m _ _ _ ⟨k,a,rfl,rfl,rfl,hk,ha0,hac1,B,u⟩ _;have hzl:=hz.lines;refine aA gq (aB oz u.hb rfl ?_);obtain⟨apC,J,E⟩:=cO.open;have awd:=E.1;refine aH pj (J.ext u.aF) (aO (aC (λkC=>?_) λkC=>?_))
 .refine aA gq (aB oz u.hb rfl ?_);obtain⟨Z,Y⟩:=gx apC (i:=(k:Int).toNat) bL;obtain⟨O,Pf⟩:=gx p.lines (i:=(k:Int).toNat) bL;have M:DL w (hM Z) O:=E.2 _ _ _ Y Pf;refine aM pj (J.ext u.aF) bL Y (λ_ EB=>aE jw EB ?_);have G:=DL.flat M;refine aH ie (G.ext u.aF) (aO (aC (λlO=>?_) λlO=>?_))
  .refine⟨ez (mn .i64) ?_,u.drop.aF⟩;rw[drop_cons (k:=k) Pf]at B;unfold o7;rw[eb bL,B];unfold jg;rw[ee bL]
  refine aA gq (aB oz u.hb rfl (aM pj (J.ext u.aF) bL Y λ_ AG=>aE jw AG (aH ie (G.ext u.aF) (fk bL (aJ bL ?_)))));rw[drop_cons (k:=k) Pf,Yf bL]at B;exact⟨_,bL,k+1,_,rfl,rfl,rfl,bL,bL,bL,B,u⟩
 refine aA gq (aB oz u.hb rfl (aH pj (J.ext u.aF) (aJ bL ?_)));refine⟨ez (mn .i64) ?_,u.drop.aF⟩;rw[pC bL]at B;unfold o7;rw[eb bL,B];unfold jg;omega
def C127(lv O:Value)(xs:List bY)(ns:List ByteArray)(w:World)(G:dz (λ_=>True) w lv xs)(hN:dz (λ_=>True) w O ns)(hn:xs.length<=1048576)(Bm:ns.length<=1048576)(r8:∀y∈xs,0<=y.at_):CR 127 [lv,O] w (λv w'=>∃a:Int,v=hH a/\decide (0<=a)=oP xs ns/\Ext w w'):=by
 have u:=St.start w;refine eU Tryz.func127 ?_;refine⟨λm x M=>∃k:Nat,x=hH (k:Int)/\m=xs.length-k/\k<=xs.length/\(∀y∈xs.take k,(decide (y.op=2)&&decide (cU ns y.name<0))=false)/\St w aY [] M,⟨_,0,rfl,rfl,kO _,ea,u⟩,?_⟩;rintro m _ M ⟨k,rfl,rfl,hk,J,u⟩ _;refine aH gV (G.ext u.aF) (aO (aC (λje=>?_) λje=>?_))
 .obtain⟨E,B⟩:=gx xs (i:=(k:Int).toNat) bL;refine⟨λV w'=>V=.bool (decide (E.op=2)&&decide (cU ns E.name<0))/\St w aY [] w',aM gV (G.ext u.aF) bL B (λ_ W=>bW E.op eX W rfl rfl λ_ U=>aE bO U (aG (aC (λ_=>aM gV (G.ext u.aF) bL B λ_ wJ=>bW E.name gh wJ rfl rfl λ_ qh=>aE gn qh (aS rB u (C123 _ ns _ _ (hN.ext u.aF) bL) λ_ _ u=>aO ⟨vb cH,u⟩)) λ_=>⟨vb cH,u⟩))),?_⟩;rintro _ _ ⟨rfl,u⟩ _;exact aX (λI=>aM gV (G.ext u.aF) bL B λ_ Y=>bW E.at_ rJ Y rfl rfl λ_ Z=>aE bO Z ⟨_,rfl,by unfold oP;rw[gZ B I];exact ei (r8 _ (j0 B)),u.aF⟩) (λI=>aJ bL ⟨_,bL,k+1,rfl,rfl,bL,dS J B I,u⟩)
 rw[kp bL]at J;exact⟨_,rfl,by unfold oP;rw[iq J];rfl,u.aF⟩
theorem C121(lv:Value)(t:Bk)(n:Int)(N:Nat)(w:World)(hL:DL w lv t.flat)(iS:t.str)(hq:∀x∈t.flat,0<=x.at_/\(x.kind=12->1<=x.n/\x.n<=8))(O:1<=n/\n<=64)(hl:t.len<=1048576)(hN:t.len<N):CR 121 [lv,hH n] w (λv w'=>∃a:Int,v=hH a/\decide (0<=a)=mj t n/\Ext w w'):=by
 have tG:=t.cY;have u:=St.start w;refine eU Tryz.func121 ?_;obtain⟨awe,J,E⟩:=hL.open;have hn22:=E.1;refine aH fj (J.ext u.aF) (aG (aC (λjo=>?_) λjo=>?_))
 .cases t with
  | nil=>exact⟨_,rfl,rfl,u.aF⟩
  | cons x a b r=>exact absurd tG (by rw[show(Bk.cons x a b r).len=a.len+b.len+r.len+1 from rfl];omega)
 obtain⟨x,a,b,r,rfl⟩:=Bk.Dl (t:=t) bL;obtain⟨uq,uZ⟩:=gx awe (i:=(0:Int).toNat) bL;obtain⟨B,Yi⟩:=gx ((Bk.cons x a b r).flat) (i:=(0:Int).toNat) bL;obtain⟨Si,Sj,rfl,att,atu⟩:=E.2 _ _ _ uZ Yi;refine aM fj (J.ext u.aF) bL uZ (λ_ Ek=>?_);obtain rfl:B=x:=(n3.inj Yi).symm;have I:=hq B (by simp[Bk.flat]);have Yj:=iS;obtain⟨Bo,I8,Ut,hg4,Y,hgb,hgr⟩:=Yj;have F3:a.len+b.len+r.len+1<=1048576:=hl;have hNn:a.len+b.len+r.len+1<N:=hN;have hla:=a.cY;have Ly:=b.cY;have hlr:=r.cY
 have Yh:(Bk.cons B a b r).flat.length=a.len+b.len+r.len+1:=Bk.cY _;refine aE eG Ek (aQ u jk λI5 _ u=>aK (x:=(⟨B.kind,B.eB,B.name,Si,Sj,B.n,B.body,B.eo,B.at_⟩:aZ)) u eG rfl rfl λ_ u=>⟨λjv w'=>∃m:Int,jv=hH m/\m=qN B n/\St w aY [bZ I5 (ia (⟨B.kind,B.eB,B.name,Si,Sj,B.n,B.body,B.eo,B.at_⟩:aZ))] w',aA dK (aB (v:=hH B.kind) bO u.hb rfl (aG (aC (λlz=>aA jB (aB (v:=hH B.n) bO u.hb rfl (Da (by have Uu:=I.2 lz;have h1:=Ix (a:=1) (b:=1) O.1 Uu.1 bL bL;have h2:=Ix (c:=64) (d:=8) O.2 Uu.2 bL bL;omega) ⟨_,rfl,by grind[qN],u⟩))) λ_=>⟨_,rfl,by grind[qN],u⟩))),?_⟩)
 rintro _ _ ⟨m,rfl,M,u⟩ _;have hm8:=Yg O I.2 M;refine cP (aC (λ_=>aA lj (aB (v:=hH B.at_) bO u.hb rfl ⟨_,rfl,by unfold mj;rw[<- M,ei (show(64:Int)<m by omega)];exact ei I.1,u.drop.aF⟩)) λnx=>aA iO (aB (v:=hH B.body) bO u.hb rfl (aJ bL (aA iz (aB (v:=hH B.eo) bO u.hb rfl (aJ bL (n6 fj (J.ext u.aF) bL bL bL λapG aiP=>?_)))))));have Z:=DL.cut aiP J E;refine dO Wh (C121 _ (a.app b) m (N-1) _ (by have h:=Z.ext u.aF;rw[Bk.CP iS bL bL]at h;exact h) (Bk.Sf Y hgb) (λy U=>hq y (by rw[Bk.AK]at U;simp only[Bk.flat,sk,oi];rcases oi.1 U with h|h<;>simp[h])) bL (by rw[Dm];omega) (by rw[Dm];omega)) ?_
 rintro _ _ ⟨a1,rfl,G,he⟩;have u:=u.ext he;rw[G8]at G;refine cR (aC (λV=>⟨_,rfl,by unfold mj;rw[<- M];rw[ei V]at G;rw[<- G,ei V];simp,u.drop.aF⟩) λV=>yW fj (J.ext u.aF) bL bL λagW aiR=>?_);have W:=DL.W9 aiR J E;refine dO Wh (C121 _ r n (N-1) _ (by have h:=W.ext u.aF;rw[Bk.aiN iS bL]at h;exact h) hgr (λy U=>hq y (by simp[Bk.flat,U])) O bL bL) ?_;rintro _ _ ⟨a2,rfl,ha2,he⟩;have u:=u.ext he;exact⟨_,rfl,by unfold mj;rw[<- M];rw[<- G,ha2,ej (show ¬ (64:Int)<m by omega),ej V];rfl,u.drop.aF⟩
termination_by N
decreasing_by all_goals omega
def C120(p:cE)(pv:bM)(B E:List cD)(w:World)(U:mL w pv p)(h3:dz (λ_=>True) w (hM pv.threads) B)(h4:dz (λ_=>True) w (hM pv.recover) E)(J:B.length<=500)(I:E.length<=500):CR 120 [hM pv] w (λv w'=>kZ (bF v (B++E)) w w'):=by
 obtain⟨Y,bR,bI,W,Z,bE,rfl,cO,dA,cW,cA,cB,cN⟩:=U;have u:=St.start w;refine eU Tryz.func120 ?_;refine cJ u (λj5 _ u=>aW ([]:List cD) u fr rfl rfl (dM rfl) λG _ u=>aA kj (aB im u.p1.hb rfl ?_));have V:=(h3.ext u.aF);refine bJ u fr V (by simp<;>omega) cZ (λM _ u=>aA oA (aB im u.p1.hb rfl ?_));have O:=(h4.ext u.aF);exact bJ u fr O (by simp;omega) cZ (λ_ _ u=>have u:=u.p1.drop;u.fresh)
def C122(p:cE)(pv:bM)(w:World)(hp:mL w pv p)(B:PZ p)(r8:∀c∈fL p,0<=c.at_):CR 122 [hM pv] w (λv w'=>∃a:Int,v=hH a/\decide (0<=a)=j9 (fL p)/\Ext w w'):=by
 obtain⟨J,W,V,I,M,U,rfl,cO,dA,cW,cA,cB,cN⟩:=hp;have u:=St.start w;refine ab6 _ _ _ ?_;unfold S122;refine cJ u (λj5 G u=>aW ([]:List cG) u ie rfl rfl (dM rfl) λadE _ u=>aE eN u.p1.At (ef TS u (C59 p _ _ ⟨J,W,V,I,M,U,rfl,cO.ext u.aF,dA.ext u.aF,cW.ext u.aF,cA.ext u.aF,cB.ext u.aF,cN.ext u.aF⟩ B.toPS) λx9 _ cM u=>?_));have aiT:=u.dQ;refine bJ u.p1 ie aiT (by simp;have:=kF B.toPS;omega) cZ (λaoj _ u=>have u:=u.p1.drop;aA nD (aB jw u.p1.hb rfl ?_))
 have awh:=DL.flat cW;have iR:=(awh.ext u.aF);refine bJ u ie iR (by simp;have:=kF B.toPS;have:=B.eE;omega) cZ (λs_x14 _ u=>?_);have u:=u.p1.p1;refine⟨λm y x G=>∃k:Nat,x=hH (k:Int)/\m=p.threads.length-k/\k<=p.threads.length/\St w aY [bF y (iQ p++p.eE++(p.threads.take k).map λt=>(⟨t.name,0,t.at_⟩:cG)),bZ j5 (ia (⟨J,W,V,I,M,U⟩:bM))] G,⟨_,0,rfl,rfl,bL,by simpa using u⟩,?_⟩;rintro m l3 _ _ ⟨k,rfl,rfl,hk,u⟩ _;have hzt:=B.threads;refine aA kj (aB im u.p1.hb rfl ?_)
 obtain⟨aiU,L8,Uv⟩:=cA.open;have awi:=Uv.1;refine aH fr (L8.ext u.aF) (aO (aC (λeT=>?_) λeT=>?_))
 .refine aA kj (have u:=u.drew;aB im u.p1.hb rfl ?_);obtain⟨e_x26,Pg⟩:=gx aiU (i:=(k:Int).toNat) bL;obtain⟨O,Yk⟩:=gx p.threads (i:=(k:Int).toNat) bL;obtain⟨aiV,aiW,rfl,aiX,aiY⟩:=Uv.2 _ _ _ Pg Yk;refine aM fr (L8.ext u.aF) bL Pg (λ_ wF=>bW O.name pS wF rfl rfl λ_ rV=>aE gn rV (aA kj (aB im u.p1.hb rfl (aM fr (L8.ext u.aF) bL Pg λ_ AJ=>bW O.at_ pU AJ rfl rfl λ_ qM=>aE bO qM (pop (D4 _ _) (aW ([(⟨O.name,0,O.at_⟩:cG)]) u ie rfl rfl (dM rfl) λapH _ u=>?_))))))
  have Y:=u.dQ;exact bJ u.p1 ie Y (by have:=kF B.toPS;have:=B.eE;have:=B.threads;simp;omega) cZ (λ_ _ u=>have u:=u.p1.drop;aJ bL (have u:=u.p1.p1;⟨_,bL,k+1,rfl,rfl,bL,by rw[<- gI (k:=k) Yk,<- mX];exact u⟩))
 rw[kp bL]at u;have O0:=Up B.toPS;have u:St w aY [bF l3 (fL p),bZ j5 (ia (⟨J,W,V,I,M,U⟩:bM))] _:=u;refine ef Wk u (C202 _ _ _ u.dQ bL) (λx39 _ cM u=>?_);have u:=u.p2.p2.p2;refine⟨λm x G=>∃k:Nat,x=hH (k:Int)/\m=(fL p).length-k/\k<=(fL p).length/\(∀j,j<k->Dj (fL p) j=false)/\St w aY [bF x39 ((fL p).map cG.name),bF l3 (fL p),bZ j5 (ia (⟨J,W,V,I,M,U⟩:bM))] G,⟨_,0,rfl,rfl,bL,ea,u⟩,?_⟩
 rintro m _ _ ⟨k,rfl,rfl,hk,ey,u⟩ _;refine aH ie u.p1.dQ (aO (aC (λvw=>?_) λ_=>have u:=u.drop.drop.drop;⟨_,rfl,by unfold j9;rw[L4 λj _=>ey j bL];rfl,u.aF⟩));obtain⟨EM,E⟩:=gx (fL p) (i:=(k:Int).toNat) bL;exact dJ u.p1 ie bL bL (λ_ L9=>l8 kx L9 λ_ Z=>nt EM.name u.p1 gn Z E rfl (aS rB u (C123 _ ((fL p).map cG.name) _ _ u.dQ (by rw[mv];omega)) λ_ _ u=>aO (aC (λAM=>dJ u.p1 ie bL bL λ_ Ma=>l8 ui Ma λ_ EN=>nt EM.at_ u.p1 bO EN E rfl (have u:=u.drop.drop.drop;⟨_,rfl,by unfold j9;rw[L5 (j:=k) bL (by rw[xR (k:=k) E];exact ei AM)];exact ei (r8 _ (j0 E)),u.aF⟩)) λAM=>aJ bL ⟨_,bL,k+1,rfl,rfl,bL,Sh ey (by rw[xR (k:=k) E];exact ej AM),u⟩)))
def C126(p:cE)(pv:bM)(t:cL)(tv:cD)(x:bK)(xv:aZ)(w:World)(hp:mL w pv p)(ht:mL w tv t)(hx:mL w xv x)(hz:PZ p)(hzt:t.dN.length<=500)(Z:SzS x)(O:0<=x.at_/\(∀y∈x.e,0<=y.at_)/\(∀y∈x.f,0<=y.at_)):CR 126 [hM pv,hM tv,hM xv] w (λv w'=>∃a:Int,v=hH a/\decide (0<=a)=mT p t.dN x/\Ext w w'):=by
 obtain⟨J,W,V,I,M,U,rfl,cO,dA,cW,cA,cB,cN⟩:=hp;obtain⟨lC,lD,rfl,nz,r9⟩:=ht;obtain⟨vy,vz,rfl,Lx,GZ⟩:=hx;have EO:=ml hz.toPS;have Ep:(cK p).length<=500:=by unfold cK;rw[mv];exact hz.eE
 have u:=St.start w;refine pJ Tryz.func126 (pl:=auV) ?_;refine cJ u (λE _ u=>cJ u λG _ u=>cJ u λI5 _ u=>⟨λB w'=>B=.bool (decide (¬ x.eB=⟨#[]⟩)&&decide (cU t.dN x.eB<0))/\St w aY [bZ I5 (ia (⟨x.kind,x.eB,x.name,vy,vz,x.n,x.body,x.eo,x.at_⟩:aZ)),bZ G (ia (⟨t.name,lC,lD,t.at_⟩:cD)),bZ E (ia (⟨J,W,V,I,M,U⟩:bM))] w',aA iy (aB (v:=.string x.eB) gn u.hb rfl (lJ (aC (λjo=>?_) λ_=>⟨vb cH,u⟩))),?_⟩)
 .refine aA fP (aB iW u.p1.hb rfl ?_);have ai2:=DL.flat nz;exact aA iy (aB (v:=.string x.eB) gn u.hb rfl (aS rB u (C123 _ t.dN _ _ (ai2.ext u.aF) bL) λ_ _ u=>aO ⟨vb cH,u⟩))
 rintro _ _ ⟨rfl,u⟩ _;refine aX (λ_=>aA lj (aB (v:=hH x.at_) bO u.hb rfl (have u:=u.drop.drop.drop;⟨_,rfl,by rw[ei O.1];unfold mT;grind,u.aF⟩))) (λeT=>have u:=u.drew;aE eN u.p2.At (aA fX (aB (v:=.string x.name) gn u.hb rfl (ef Rn u (C124 p _ _ ⟨J,W,V,I,M,U,rfl,cO.ext u.aF,dA.ext u.aF,cW.ext u.aF,cA.ext u.aF,cB.ext u.aF,cN.ext u.aF⟩ hz) λx23 _ cM u=>?_))));refine⟨aI gn (u.p1.hb.cell rfl),?_⟩;refine aS rB u (C123 _ (cX p) _ _ u.dQ bL) (λw7 he u=>⟨λw'=>(((decide (x.kind=2)||decide (x.kind=3)||decide (x.kind=4))&&decide (cU (cX p) x.name<0))||((decide (x.kind=5)||decide (x.kind=6))&&(decide (cU (cX p) x.name<0)||decide (eJ p<=cU (cX p) x.name)))||((decide (x.kind=9)||decide (x.kind=10))&&decide (cU (cK p) x.name<0)))=false/\St w aY [bZ I5 (ia (⟨x.kind,x.eB,x.name,vy,vz,x.n,x.body,x.eo,x.at_⟩:aZ)),bZ G (ia (⟨t.name,lC,lD,t.at_⟩:cD)),bZ E (ia (⟨J,W,V,I,M,U⟩:bM))] w',aA dK (aB (v:=hH x.kind) bO u.p1.hb rfl ⟨λB w'=>B=.bool (decide (x.kind=2\/x.kind=3\/x.kind=4))/\w7=w',aG (aC (λ_=>⟨xB bL,rfl⟩) λ_=>aG (aC (λ_=>⟨xB bL,rfl⟩) λ_=>aG ⟨xB bL,rfl⟩)),?_⟩),?_⟩)
 .rintro _ _ ⟨rfl,Y⟩ _;subst Y;refine aC (λ_=>aO (aC (λ_=>aA lj (aB (v:=hH x.at_) bO u.p1.hb rfl (have u:=u.drop.drop.drop.drop;⟨_,rfl,by rw[ei O.1];unfold mT;grind,u.aF⟩))) λ_=>have u:=u.drop.p2.p2.p2;⟨cH,u⟩)) (λagX=>⟨λB w'=>B=.bool (decide (x.kind=5\/x.kind=6))/\w7=w',aG (aC (λ_=>⟨xB bL,rfl⟩) λ_=>aG ⟨xB bL,rfl⟩),?_⟩);rintro _ _ ⟨rfl,Y⟩ _;subst Y;refine aC (λoM=>⟨λB w'=>B=.bool (decide (cU (cX p) x.name<0)||decide (eJ p<=cU (cX p) x.name))/\St w aY [bF x23 (cX p),bZ I5 (ia (⟨x.kind,x.eB,x.name,vy,vz,x.n,x.body,x.eo,x.at_⟩:aZ)),bZ G (ia (⟨t.name,lC,lD,t.at_⟩:cD)),bZ E (ia (⟨J,W,V,I,M,U⟩:bM))] w',aO (aC (λ_=>⟨vb cH,u⟩) λ_=>aE eN u.p3.At (aS ahV u (C62 p _ _ ⟨J,W,V,I,M,U,rfl,cO.ext u.aF,dA.ext u.aF,cW.ext u.aF,cA.ext u.aF,cB.ext u.aF,cN.ext u.aF⟩ hz) λ_ _ u=>cR ⟨vb cH,u⟩)),?_⟩) (λoM=>⟨λB w'=>B=.bool (decide (x.kind=9\/x.kind=10))/\w7=w',aG (aC (λ_=>⟨xB bL,rfl⟩) λ_=>aG ⟨xB bL,rfl⟩),?_⟩)
  .rintro _ _ ⟨rfl,u⟩ _;exact aX (λ_=>aA lj (aB (v:=hH x.at_) bO u.p1.hb rfl (have u:=u.drop.drop.drop.drop;⟨_,rfl,by rw[ei O.1];unfold mT;grind,u.aF⟩))) (λ_=>have u:=u.drop.p2.p2.p2;⟨cH,u⟩)
  rintro _ _ ⟨rfl,Y⟩ _;subst Y;exact aC (λ_=>have u:=u.drew;aE eN u.p3.At (aA fX (aB (v:=.string x.name) gn u.p1.hb rfl (ef Ro u (C125 p _ _ ⟨J,W,V,I,M,U,rfl,cO.ext u.aF,dA.ext u.aF,cW.ext u.aF,cA.ext u.aF,cB.ext u.aF,cN.ext u.aF⟩ hz) λ_ _ _ u=>⟨aI gn (u.p2.hb.cell rfl),aS rB u (C123 _ (cK p) _ _ u.dQ bL) λ_ _ u=>aO (aC (λ_=>aA lj (aB (v:=hH x.at_) bO u.p2.hb rfl (have u:=u.drop.drop.drop.drop.drop;⟨_,rfl,by rw[ei O.1];unfold mT;grind,u.aF⟩))) λ_=>have u:=u.drop.drop.p2.p2.p2;⟨cH,u⟩)⟩)))) (λ_=>have u:=u.drop.p2.p2.p2;⟨cH,u⟩)
 rintro _ ⟨hmid,u⟩ _;refine aA iN (aB jy u.hb rfl ?_);have ai3:=DL.flat Lx;refine aA fP (aB iW u.p1.hb rfl ?_);have adF:=DL.flat nz;refine dO Wi (C127 _ _ _ _ _ (ai3.ext u.aF) (adF.ext u.aF) Z.2.2.1 bL O.2.1) ?_;rintro _ _ ⟨a_x65,rfl,awj,he⟩;have u:=u.ext he;refine cR (aC (λ_=>have u:=u.drop.drop.drop;⟨_,rfl,by unfold mT;grind,u.aF⟩) λEj=>aA jS (aB jy u.hb rfl ?_));have awk:=DL.flat GZ;refine aA fP (aB iW u.p1.hb rfl (dO Wi (C127 _ _ _ _ _ (awk.ext u.aF) (adF.ext u.aF) Z.2.2.2.1 bL O.2.2) ?_))
 rintro _ _ ⟨a_x73,rfl,awl,he⟩;have u:=(((u.ext he).drop).drop).drop;exact⟨_,rfl,by unfold mT;grind,u.aF⟩
def C119(p:cE)(pv:bM)(w:World)(hp:mL w pv p)(V:PZ p):CR 119 [hM pv] w (λv w'=>v=.bool (uB p)/\Ext w w'):=by
 obtain⟨Z,bR,bI,aT,aU,bE,rfl,cO,dA,cW,cA,cB,cN⟩:=hp;have u:=St.start w;refine eU Tryz.func119 ?_;refine cJ u (λj5 W u=>?_);refine⟨λm x W=>∃k:Nat,x=hH (k:Int)/\m=p.lines.length-k/\k<=p.lines.length/\(∀y∈p.lines.take k,decide (4<(y.length:Int))=false)/\St w aY [bZ j5 (ia (⟨Z,bR,bI,aT,aU,bE⟩:bM))] W,⟨_,0,rfl,rfl,kO _,ea,u⟩,?_⟩;rintro m _ _ ⟨k,rfl,rfl,hk,ey,u⟩ _;have hzl:=V.lines;refine aA gq (aB oz u.hb rfl ?_)
 obtain⟨awm,E,O⟩:=cO.open;have hn29:=O.1;refine aH pj (E.ext u.aF) (aO (aC (λgT=>?_) λgT=>?_))
 .refine aA gq (aB oz u.hb rfl ?_);obtain⟨XF,nO⟩:=gx awm (i:=(k:Int).toNat) bL;obtain⟨rY,oO⟩:=gx p.lines (i:=(k:Int).toNat) bL;have apK:DL w (hM XF) rY:=O.2 _ _ _ nO oO;refine aM pj (E.ext u.aF) bL nO (λ_ Az=>aE jw Az ?_);have awn:=DL.flat apK;refine aH ie (awn.ext u.aF) (cP (aC (λeT=>?_) λeT=>aJ bL ⟨_,bL,k+1,rfl,rfl,bL,dS ey oO (ej eT),u⟩));have u:=u.drop;refine⟨vb ?_,u.aF⟩;unfold uB;rw[gZ oO (ei bL)];rfl
 refine aE eN u.At ?_;obtain⟨U,G,M⟩:=cA.open;have hn31:=M.1;obtain⟨J,awo,I⟩:=cB.open;have hn32:=I.1;refine dO afO (C120 p _ U J _ ⟨Z,bR,bI,aT,aU,bE,rfl,cO.ext u.aF,dA.ext u.aF,cW.ext u.aF,cA.ext u.aF,cB.ext u.aF,cN.ext u.aF⟩ (G.ext u.aF) (awo.ext u.aF) (by have:=V.threads;omega) (by have:=V.recover;omega)) ?_;rintro x21 _ cM;have u:=u.made cM;obtain⟨AN,Mb⟩:∃t,t=U++J:=⟨_,rfl⟩;rw[<- Mb]at u;have Ph:gu AN (gj p) w:=by rw[Mb];exact gu.append M I
 have awp:=Ph.1;have ai6:=Dk V.toPS;have u:=u.p1.p1;refine⟨λm x W=>∃B:Nat,x=hH (B:Int)/\m=(gj p).length-B/\B<=(gj p).length/\(∀y∈(gj p).take B,decide (4<(y.dN.length:Int))=false)/\St w aY [bF x21 AN,bZ j5 (ia (⟨Z,bR,bI,aT,aU,bE⟩:bM))] W,⟨_,0,rfl,rfl,kO _,ea,u⟩,?_⟩;rintro m _ _ ⟨B,rfl,rfl,Xs,Pd,u⟩ _;refine aH fr u.dQ (aO (aC (λjq=>?_) λjq=>⟨λjv w'=>jv=.bool (decide (4<(p.lines.length:Int))||decide (4<(p.iJ.length:Int))||decide (2<(p.eE.length:Int))||decide ((p.threads.length:Int)<1)||decide (3<(p.threads.length:Int))||decide (4<(p.dX.length:Int)))/\St w aY [] w',aA gq (aB oz u.p1.hb rfl (aH pj (E.ext u.aF) (cP (aC (λ_=>have u:=u.drop.drop;⟨vb cH,u⟩) λqP=>?_)))),?_⟩))
 .obtain⟨qK,gi⟩:=gx AN (i:=(B:Int).toNat) bL;obtain⟨apP,Y⟩:=gx (gj p) (i:=(B:Int).toNat) bL;obtain⟨EP,ER,rfl,ES,ET⟩:=Ph.2 _ _ _ gi Y;refine aM fr u.dQ bL gi (λ_ mf=>bW EP fP mf rfl rfl λ_ ux=>aE iW ux ?_);have awq:=DL.flat ES;refine aH ix (awq.ext u.aF) (cP (aC (λly=>?_) λ_=>aJ bL ⟨_,bL,B+1,rfl,rfl,bL,dS Pd Y (ej bL),u⟩));have u:=u.drop.drop;refine⟨vb ?_,u.aF⟩;unfold uB;rw[gZ Y (ei bL)];simp
 .refine aA pK (aB jw u.p1.hb rfl ?_);have awr:=DL.flat dA;refine aH ie (awr.ext u.aF) (cP (aC (λ_=>have u:=u.drop.drop;⟨vb cH,u⟩) λvw=>aA nD (aB jw u.p1.hb rfl ?_)));have aws:=DL.flat cW;refine aH ie (aws.ext u.aF) (cP (aC (λ_=>have u:=u.drop.drop;⟨vb cH,u⟩) λrQ=>aA kj (aB im u.p1.hb rfl (aH fr (G.ext u.aF) (aO (aC (λ_=>have u:=u.drop.drop;⟨vb cH,u⟩) λRY=>aA kj (aB im u.p1.hb rfl (aH fr (G.ext u.aF) (cP (aC (λ_=>have u:=u.drop.drop;⟨vb cH,u⟩) λago=>aA jR (aB sL u.p1.hb rfl ?_)))))))))))
  obtain⟨ts36,awt,awu⟩:=cN.open;have hn36:=awu.1;exact aH uf (awt.ext u.aF) (cP (have u:=u.drop.drop;⟨vb cH,u⟩))
 rintro _ _ ⟨rfl,u⟩ _;refine⟨vb ?_,u.aF⟩;unfold uB;rw[iq (by rw[kp bL]at ey;exact ey),iq (by rw[kp bL]at Pd;exact Pd)];rfl
def C57(p:cE)(pv:bM)(w:World)(hp:mL w pv p)(B:PZ p):CR 57 [hM pv] w (λv w'=>∃a:Int,v=.tuple #[hH (fc p),hH a]/\Ext w w'):=by
 obtain⟨G,O,M,J,I,U,rfl,cO,dA,cW,cA,cB,cN⟩:=hp;have u:=St.start w;refine ahP _ _ _ ?_;unfold S57;refine cJ u (λj5 W u=>aE eN u.At (aS amZ u (C118 p _ _ ⟨G,O,M,J,I,U,rfl,cO.ext u.aF,dA.ext u.aF,cW.ext u.aF,cA.ext u.aF,cB.ext u.aF,cN.ext u.aF⟩ B) λ_ he u=>bP (aX (λjW=>have u:=u.drop;⟨_,ez (λq=>Be #[hH q,_]) (ce8 (by simpa using jW)).symm,u.aF⟩) λjW=>?_)))
 have E:j7 p=true:=by simpa using jW
 have hPF:=qi E;refine aE eN u.At (aS am0 u (C119 p _ _ ⟨G,O,M,J,I,U,rfl,cO.ext u.aF,dA.ext u.aF,cW.ext u.aF,cA.ext u.aF,cB.ext u.aF,cN.ext u.aF⟩ B) λ_ he u=>aX (λeT=>have u:=u.drop;⟨_,ez (λq=>Be #[hH q,_]) (ce2 E eT).symm,u.aF⟩) λeT=>aE eN u.At ?_);obtain⟨apQ,awv,apR⟩:=cA.open;have hn37:=apR.1;obtain⟨apS,aww,apT⟩:=cB.open;have hn38:=apT.1;refine dO afO (C120 p _ apQ apS _ ⟨G,O,M,J,I,U,rfl,cO.ext u.aF,dA.ext u.aF,cW.ext u.aF,cA.ext u.aF,cB.ext u.aF,cN.ext u.aF⟩ (awv.ext u.aF) (aww.ext u.aF) (by have:=B.threads;omega) (by have:=B.recover;omega)) ?_
 rintro V _ cM;have u:=u.made cM;obtain⟨AN,Mb⟩:∃t,t=apQ++apS:=⟨_,rfl⟩;rw[<- Mb]at u;have Ph:gu AN (gj p) w:=by rw[Mb];exact gu.append apR apT
 have awp:=Ph.1;have ai6:=Dk B.toPS;have u:=u.p1.p1;refine⟨λm x W=>∃k1:Nat,x=hH (k1:Int)/\m=(gj p).length-k1/\k1<=(gj p).length/\(∀y∈(gj p).take k1,qO y.body=false)/\St w aY [bF V AN,bZ j5 (ia (⟨G,O,M,J,I,U⟩:bM))] W,⟨_,0,rfl,rfl,kO _,ea,u⟩,?_⟩;rintro m _ _ ⟨k1,rfl,rfl,Oq,ai7,u⟩ _;refine aH fr u.dQ (aO (aC (λjq=>?_) λjq=>?_))
 .obtain⟨qK,gi⟩:=gx AN (i:=(k1:Int).toNat) bL;obtain⟨apP,wQ⟩:=gx (gj p) (i:=(k1:Int).toNat) bL;obtain⟨EP,ER,rfl,ES,ET⟩:=Ph.2 _ _ _ gi wQ;refine aM fr u.dQ bL gi (λ_ mf=>bW ER lh mf rfl rfl λ_ ux=>aE jA ux ?_);obtain⟨apU,TV,tr,Y,ai9,jK,_⟩:=kU (hPF.qB (j0 wQ)).2.1;have tG:=ez List.length Y;rw[Bk.cY]at tG;refine dO Wh (C121 _ tr 1 (tr.len+1) _ (by rw[<- Y];exact(ET.ext u.aF)) ai9 (λy hy=>I7 (TV y (by rw[Y];exact hy))) bL bL bL) ?_
  rintro _ _ ⟨wa,rfl,hwa,he⟩;have u:=u.ext he;exact cR (aC (λkS=>have u:=u.drop.drop;⟨_,ez (λq=>Be #[hH q,_]) (apv E eT (gZ wQ (by rw[Y,va ai9,<- hwa];exact ei kS))).symm,u.aF⟩) λkS=>aJ bL (have u:=u.p1.p1;⟨_,bL,k1+1,rfl,rfl,bL,dS ai7 wQ (by rw[Y,va ai9,<- hwa];exact ej kS),u⟩))
 rw[kp bL]at ai7;have h11:(gj p).any (λt=>qO t.body)=false:=iq ai7;refine aE eN u.p1.At (dO am1 (C122 p _ _ ⟨G,O,M,J,I,U,rfl,cO.ext u.aF,dA.ext u.aF,cW.ext u.aF,cA.ext u.aF,cB.ext u.aF,cN.ext u.aF⟩ B hPF.decl) ?_);rintro _ _ ⟨a_x38,rfl,Yl,he⟩;have u:=u.ext he;refine cR (aC (λwE=>have u:=u.drop.drop;⟨_,ez (λq=>Be #[hH q,_]) (apw E eT h11 (by rw[<- Yl];exact ei wE)).symm,u.aF⟩) λwE=>?_);have h10:j9 (fL p)=false:=by rw[<- Yl];exact ej wE
 have u:=u.p1.p1;refine⟨λm x W=>∃k2:Nat,x=hH (k2:Int)/\m=(gj p).length-k2/\k2<=(gj p).length/\(∀y∈(gj p).take k2,uA p y.dN=false)/\St w aY [bF V AN,bZ j5 (ia (⟨G,O,M,J,I,U⟩:bM))] W,⟨_,0,rfl,rfl,kO _,ea,u⟩,?_⟩;rintro m _ _ ⟨k2,rfl,rfl,u9,EC,u⟩ _;refine aH fr u.dQ (aO (aC (λMc=>?_) λMc=>?_))
 .obtain⟨e_x51,EU⟩:=gx AN (i:=(k2:Int).toNat) bL;obtain⟨AO,I9⟩:=gx (gj p) (i:=(k2:Int).toNat) bL;obtain⟨zj,aja,rfl,Pj,ajb⟩:=Ph.2 _ _ _ EU I9;have hzt2:=B.qB (j0 I9);refine⟨λm x W=>∃Z:Nat,x=hH (Z:Int)/\m=AO.dN.length-Z/\Z<=AO.dN.length/\(∀j,j<Z->Sg p AO.dN j=false)/\St w aY [bF V AN,bZ j5 (ia (⟨G,O,M,J,I,U⟩:bM))] W,⟨_,0,rfl,rfl,kO _,ea,u⟩,?_⟩;rintro m _ _ ⟨Z,rfl,rfl,hk3,apW,u⟩ _;refine aM fr u.dQ bL EU (λ_ apX=>bW zj fP apX rfl rfl λ_ Ym=>aE iW Ym ?_)
  have ajc:=DL.flat Pj;refine aH ix (ajc.ext u.aF) (aO (aC (λRY=>?_) λ_=>aJ bL (have u:=u.p1.p1;⟨_,bL,k2+1,rfl,rfl,bL,dS EC I9 (show uA p AO.dN=false from L4 λj _=>apW j bL),u⟩)));refine aM fr u.dQ bL EU (λ_ apY=>bW zj fP apY rfl rfl λ_ Yn=>aE iW Yn ?_);obtain⟨sd,tL⟩:=gx AO.dN (i:=(Z:Int).toNat) bL;refine aM ix (ajc.ext u.aF) bL tL (λ_ ED=>aE gn ED ⟨λjv w'=>jv=.bool (decide (cU AO.dN sd<Z)||decide (0<=cU (cX p) sd)||decide (0<=cU (cK p) sd))/\St w aY [bF V AN,bZ j5 (ia (⟨G,O,M,J,I,U⟩:bM))] w',?_,?_⟩)
  .refine aM fr u.dQ bL EU (λ_ apZ=>bW zj fP apZ rfl rfl λ_ Md=>?_);exact aE iW Md (aS rB u (C123 _ AO.dN _ _ (ajc.ext u.aF) (by have:=ml B.toPS;have hk:(cK p).length<=500:=(by unfold cK;rw[mv];exact B.eE);omega)) λ_ _ u=>aO (aC (λ_=>have u:=u.p1.p1;⟨vb cH,u⟩) λ_=>aE eN u.p1.At (ef Rn u (C124 p _ _ ⟨G,O,M,J,I,U,rfl,cO.ext u.aF,dA.ext u.aF,cW.ext u.aF,cA.ext u.aF,cB.ext u.aF,cN.ext u.aF⟩ B) λ_ _ _ u=>aS rB u (C123 _ (cX p) _ _ u.dQ (by have:=ml B.toPS;have hk:(cK p).length<=500:=(by unfold cK;rw[mv];exact B.eE);omega)) λ_ _ u=>cR (aC (λ_=>have u:=u.drop.p1.p1;⟨vb cH,u⟩) λ_=>aE eN u.p2.At (ef Ro u (C125 p _ _ ⟨G,O,M,J,I,U,rfl,cO.ext u.aF,dA.ext u.aF,cW.ext u.aF,cA.ext u.aF,cB.ext u.aF,cN.ext u.aF⟩ B) λ_ _ _ u=>aS rB u (C123 _ (cK p) _ _ u.dQ (by have:=ml B.toPS;have hk:(cK p).length<=500:=(by unfold cK;rw[mv];exact B.eE);omega)) λ_ _ u=>cR (have u:=u.drop.drop.p1.p1;⟨vb cH,u⟩))))))
  rintro _ _ ⟨rfl,u⟩ _;exact aX (λEV=>aM fr u.dQ bL EU λ_ ap0=>bW AO.at_ pU ap0 rfl rfl λ_ ap1=>have u:=u.drew;aE bO ap1 (have u:=u.drop.drop;⟨_,ez (λq=>Be #[hH q,_]) (agR E eT h11 h10 (gZ I9 (show uA p AO.dN=true from L5 (j:=Z) bL (by rw[AL (k:=Z) tL];exact EV)))).symm,u.aF⟩)) (λEV=>aJ bL ⟨_,bL,Z+1,rfl,rfl,bL,Sh apW (by rw[AL (k:=Z) tL];exact EV),u⟩)
 rw[kp bL]at EC;have ajd:(gj p).any (λt=>uA p t.dN)=false:=iq EC;have u:=u.p1.p1;refine⟨λm x W=>∃k5:Nat,x=hH (k5:Int)/\m=(gj p).length-k5/\k5<=(gj p).length/\(∀y∈(gj p).take k5,y.body.any (mT p y.dN)=false)/\St w aY [bF V AN,bZ j5 (ia (⟨G,O,M,J,I,U⟩:bM))] W,⟨_,0,rfl,rfl,kO _,ea,u⟩,?_⟩;rintro m _ _ ⟨k5,rfl,rfl,hk5,aje,u⟩ _;refine aH fr u.dQ (aO (aC (λap2=>?_) λap2=>?_))
 .obtain⟨awy,Dn⟩:=gx AN (i:=(k5:Int).toNat) bL;obtain⟨BP,AP⟩:=gx (gj p) (i:=(k5:Int).toNat) bL;obtain⟨Me,wR,rfl,Mf,CA⟩:=Ph.2 _ _ _ Dn AP;have ap3:=B.qB (j0 AP);have awz:=hPF.qB (j0 AP);obtain⟨hb45,ap4,_⟩:=kU awz.2.1;refine⟨λm x W=>∃k6:Nat,x=hH (k6:Int)/\m=BP.body.length-k6/\k6<=BP.body.length/\(∀y∈BP.body.take k6,mT p BP.dN y=false)/\St w aY [bF V AN,bZ j5 (ia (⟨G,O,M,J,I,U⟩:bM))] W,⟨_,0,rfl,rfl,kO _,ea,u⟩,?_⟩
  rintro m _ _ ⟨k6,rfl,rfl,hk6,ajf,u⟩ _;refine aM fr u.dQ bL Dn (λ_ ajg=>bW wR lh ajg rfl rfl λ_ ajh=>aE jA ajh ?_);obtain⟨awA,ap5,ap6⟩:=CA.open;have hn40:=ap6.1;refine aH fj (ap5.ext u.aF) (aO (aC (λawB=>?_) λ_=>aJ bL (have u:=u.p1.p1;⟨_,bL,k5+1,rfl,rfl,bL,dS aje AP (iq (by rw[kp bL]at ajf;exact ajf)),u⟩)));have u:=u.drew;refine aE eN u.p1.At (aM fr u.dQ bL Dn λ_ Pk=>aE mP Pk (aM fr u.dQ bL Dn λ_ aji=>bW wR lh aji rfl rfl λ_ ajj=>aE jA ajj ?_))
  obtain⟨awC,Sl⟩:=gx awA (i:=(k6:Int).toNat) bL;obtain⟨ajk,AQ⟩:=gx BP.body (i:=(k6:Int).toNat) bL;obtain⟨Yo,Yp,rfl,Yq,Yr⟩:=ap6.2 _ _ _ Sl AQ;refine aM fj (ap5.ext u.aF) bL Sl (λ_ ajl=>aE eG ajl ?_);have hf5:=adw (ap4 _ (j0 AQ));refine dO am2 (C126 p _ BP _ ajk _ _ ⟨G,O,M,J,I,U,rfl,cO.ext u.aF,dA.ext u.aF,cW.ext u.aF,cA.ext u.aF,cB.ext u.aF,cN.ext u.aF⟩ ⟨Me,wR,rfl,Mf.ext u.aF,CA.ext u.aF⟩ ⟨Yo,Yp,rfl,Yq.ext u.aF,Yr.ext u.aF⟩ B ap3.2.1 (ap3.1.2.2 _ (j0 AQ)) hf5) ?_
  rintro _ _ ⟨awD,rfl,Sm,he⟩;have u:=u.ext he;exact cR (aC (λzn=>have u:=u.drop.drop;⟨_,ez (λq=>Be #[hH q,_]) (ce9 E eT h11 h10 ajd (gZ AP (gZ AQ (by rw[<- Sm];exact ei zn)))).symm,u.aF⟩) λzn=>aJ bL ⟨_,bL,k6+1,rfl,rfl,bL,dS ajf AQ (by rw[<- Sm];exact ej zn),u⟩)
 rw[kp bL]at aje;have h9:(gj p).any (λt=>t.body.any (mT p t.dN))=false:=iq aje;have u:=u.drew;refine aE eN u.p1.At (aE eN u.p1.At (ef Rn u (C124 p _ _ ⟨G,O,M,J,I,U,rfl,cO.ext u.aF,dA.ext u.aF,cW.ext u.aF,cA.ext u.aF,cB.ext u.aF,cN.ext u.aF⟩ B) λawE _ cM u=>?_));refine⟨fm eN u.p2.At,?_⟩;refine aS ahV u (C62 p _ _ ⟨G,O,M,J,I,U,rfl,cO.ext u.aF,dA.ext u.aF,cW.ext u.aF,cA.ext u.aF,cB.ext u.aF,cN.ext u.aF⟩ B) (λ_ he u=>?_)
 have EO:=ml B.toPS;have R7:0<=eJ p/\eJ p<=(cX p).length:=by unfold eJ cX iQ;rw[mv,kH];omega
 refine j1 ix u.dQ bL bL (λawF adG=>?_);have u:=u.p1.drop.p1.p1;refine⟨λm x W=>∃k7:Nat,x=hH (k7:Int)/\m=p.dX.length-k7/\k7<=p.dX.length/\(∀y∈p.dX.take k7,oP y.e (iu p)=false)/\St w aY [bF awE (cX p),bZ j5 (ia (⟨G,O,M,J,I,U⟩:bM))] W,⟨_,0,rfl,rfl,kO _,ea,u⟩,?_⟩;rintro m _ _ ⟨k7,rfl,rfl,hk7,ajm,u⟩ _;have hzc:=B.dX;refine aA jR (aB sL u.p1.hb rfl ?_);obtain⟨awG,ap7,ap8⟩:=cN.open;have hn41:=ap8.1;refine aH uf (ap7.ext u.aF) (aO (aC (λawH=>?_) λ_=>have u:=u.drop.drop;⟨_,ez (λq=>Be #[hH q,_]) (ce0 E eT h11 h10 ajd h9 (iq (by rw[kp bL]at ajm;exact ajm))).symm,u.aF⟩))
 refine aA jR (aB sL u.p1.hb rfl ?_);obtain⟨awI,Sn⟩:=gx awG (i:=(k7:Int).toNat) bL;obtain⟨awJ,AR⟩:=gx p.dX (i:=(k7:Int).toNat) bL;obtain⟨Ys,rfl,Yt⟩:=ap8.2 _ _ _ Sn AR;refine aM uf (ap7.ext u.aF) bL Sn (λ_ Pl=>bW Ys xF Pl rfl rfl λ_ ajn=>aE jy ajn ?_);have awK:=DL.flat Yt;refine dO Wi (C127 _ _ _ _ _ (awK.ext u.aF) (adG _ u.dQ) (B.zc _ (j0 AR)).1 (by have:=ml B.toPS;simp;omega) (BN (hPF.cl _ (j0 AR)).2)) ?_;rintro _ _ ⟨awL,rfl,So,he⟩
 have u:=u.ext he;exact cR (aC (λPm=>have u:=u.drop.drop;⟨_,ez (λq=>Be #[hH q,_]) (apx E eT h11 h10 ajd h9 (gZ AR (by unfold iu;rw[<- So];exact ei Pm))).symm,u.aF⟩) λPm=>aJ bL ⟨_,bL,k7+1,rfl,rfl,bL,dS ajm AR (by unfold iu;rw[<- So];exact ej Pm),u⟩)
theorem Bk.ap9{x:bK}{a b r:Bk}(h:(Bk.cons x a b r).str){hi lo:Int}(h1:hi=1+x.body)(h2:lo=1):((Bk.cons x a b r).flat.take hi.toNat).drop lo.toNat=a.flat:=by
 obtain⟨u,B,_⟩:=h
 have E:=a.cY
 rw[u7 _ (a:=1) (n:=a.flat.length) bL bL]
 grind[flat]
theorem Bk.aqa{x:bK}{a b r:Bk}(h:(Bk.cons x a b r).str){hi lo:Int}(h1:hi=1+x.body+x.eo)(h2:lo=1+x.body):((Bk.cons x a b r).flat.take hi.toNat).drop lo.toNat=b.flat:=by
 obtain⟨B,u,_⟩:=h
 have E:=a.cY
 have lb:=b.cY
 rw[u7 _ (a:=1+a.flat.length) (n:=b.flat.length) bL bL]
 grind[flat]
def yB:Bk->Int
 | .nil=>0
 | .cons x a b r=>(if x.kind=12 then 2+yB a else if x.kind=11 then(if 0<x.eo then 1+yB a+yB b+1 else 1+yB a+yB b)else 1)+yB r
def toT(x:bK)(a:Bk)(at_:Int):Int:=if 0<x.eo then at_+1+yB a+1 else at_+1+yB a
end Go.Proofs.YtpdlpabnlkofmaaGreatDoor

/-
  Part 3.
-/
import Derived.Test.YtpdlpabnlkofmaaGreatDoorR8x2
set_option maxHeartbeats 8000000
set_option linter.all false
set_option maxRecDepth 100000
open Go.Fw.Flat renaming val->ia,enc->j0,sz->mI
open ByteArray renaming mk->kh,size->abv
open List renaming getElem?_eq_some_iff->kp,mem_of_getElem?->kE,take_of_length_le->kO,getElem?_eq_getElem->kX,length_append->la,length_take->l0,length_singleton->mv,getElem?_eq_none->m4,length_map->n0,append_assoc->n3,getD_eq_getElem?_getD->og,mem_map->oj,getElem?_map->pd,mem_append->pU,length_drop->qb,take_append_drop->qB,replicate->r6,mem_cons->sl,drop_drop->sZ,take_add_one->ta,drop_eq_getElem_cons->tx,getElem?_append_left->ub,length_eq_zero_iff->uX,range->u3,map_append->vA,drop_eq_nil_of_le->vF,ext_getElem?->wM,any_eq_true->xo,any_eq_false->AK,getElem?_set_self->AY,getElem?_eq_none_iff->A9,drop_left->Eu,getElem_of_mem->Fe,getElem?_set_ne->F1,nodup_cons->I4,map_map->I7,take_left->Lw,mem_range->Lx,toArray->O8,getElem?_eraseIdx_of_lt->P0,getElem?_eraseIdx_of_ge->P1,drop_zero->P6,cons->ZY,getElem_inj->aaf
open Nat renaming zero_le->l1,le_refl->o6,zero_add->u1,min_eq_left->Gt,le_of_lt->Zg
open Go.Fw.Deep renaming dr->mh
open Option renaming bind_some->mQ,some->oi,map_some->Fh
open Go.Value renaming int->ni,bool->wX,tuple->Bv,string->F0
open Go.Instr renaming sliceAt->n4,index->u4,sliceBounds->v7,mapUpdate->xg,lookup->x6,keyThatStays->Nj,makeMap->Pv,findKey->So
open Bool renaming and_eq_true->ob,not_eq_true'->sk,true_and->yU
open Int renaming toNat_natCast->qa,mul_le_mul->Kd,toNat->abk
open Decidable renaming not_not->vh
open Array renaming toList_push->Y5
namespace Go.Proofs.YtpdlpabnlkofmaaGreatDoor
open Go.Fw
inductive Bk where
 | nil
 | cons (x:bQ) (a b r:Bk)
namespace Bk
def flat:Bk->List bQ|nil=>[]|cons x a b r=>x::(a.flat++(b.flat++r.flat))
def len:Bk->Nat|nil=>0|cons _ a b r=>a.len+b.len+r.len+1
def str:Bk->Prop|nil=>True|cons x a b r=>x.body=a.len/\x.eu=b.len/\a.len<=40/\b.len<=40/\a.str/\b.str/\r.str
def Dv(x:bQ)(loops:Int):Int:=if x.kind=12 then loops+1 else loops
def zB(x:bQ):Bool:=decide (x.kind=11\/x.kind=12)
def yg(x:bQ)(loops:Int):Bool:=decide ((x.body<=0\/x.kind=11\/x.kind=12)/\(x.eu<=0\/x.kind=11)/\(¬ x.kind=13\/¬ loops=0))
def ok:Bk->Int->Bool|nil,_=>true|cons x a b r,n=>yg x n&&a.ok (Dv x n)&&b.ok (Dv x n)&&r.ok n
def depth:Bk->Int|nil=>0|cons x a b r=>if zB x then max (max (1+a.depth) (1+b.depth)) r.depth else r.depth
end Bk
theorem Bk.cY(t:Bk):t.flat.length=t.len:=by
 induction t with
 | nil=>rfl
 | cons x a b r E B u=>grind[flat,len]
theorem Bk.AT(t:Bk):0<=t.depth/\t.depth<=t.len:=by
 induction t with
 | nil=>simp[Bk.depth,Bk.len]
 | cons x a b r E B u=>
  grind[depth,len]
def Vw:Nat->List bQ->Option Bk
 | _,[]=>some .nil
 | 0,_::_=>none
 | n+1,x::l=>
  if 0<=x.body/\0<=x.eu/\x.body<=40/\x.eu<=40/\x.body+x.eu<=l.length then
   match Vw n (l.take x.body.toNat),Vw n ((l.drop x.body.toNat).take x.eu.toNat),Vw n (l.drop (x.body.toNat+x.eu.toNat))with
   | some a,some b,some r=>some (.cons x a b r)
   | _,_,_=>none
  else none
theorem yh:∀n l t,Vw n l=some t->l=t.flat/\t.str
 | _,[],t,h=>by
  have h:some Bk.nil=some t:=by unfold Vw at h;exact h
  cases h;exact⟨rfl,trivial⟩
 | 0,x::l,t,h=>by cases h
 | n+1,x::l,t,h=>by
  unfold Vw at h
  split at h
  .rename_i hb
   obtain⟨h1,h2,h3,h4,h5⟩:=hb
   cases ha:Vw n (l.take x.body.toNat)with
   | none=>grind
   | some a=>
    cases hb:Vw n ((l.drop x.body.toNat).take x.eu.toNat)with
    | none=>grind
    | some b=>
     cases hr:Vw n (l.drop (x.body.toNat+x.eu.toNat))with
     | none=>grind
     | some r=>
      rw[ha,hb,hr]at h
      cases h
      obtain⟨u,G⟩:=yh n _ _ ha
      obtain⟨b1,b2⟩:=yh n _ _ hb
      obtain⟨I,E⟩:=yh n _ _ hr
      have B:=gO List.length u
      have lb:=gO List.length b1
      rw[Bk.cY,l0]at B
      rw[Bk.cY,l0,qb]at lb
      refine⟨?_,cK,cK,cK,cK,G,b2,E⟩
      unfold Bk.flat
      rw[<- u,<- b1,<- I,<- sZ,qB,qB]
  .cases h
theorem Xf(t:Bk):t.str->∀n,t.len<=n->Vw n t.flat=some t:=by
 induction t with
 | nil=>intro _ n _;cases n<;>rfl
 | cons x a b r J G u=>
  intro h n B
  obtain⟨h1,h2,h3,h4,E,hb,I⟩:=h
  cases n with
  | zero=>simp[Bk.len]at B
  | succ n=>
   have B:a.len+b.len+r.len<=n:=by simp[Bk.len]at B;omega
   have M:=a.cY
   have lb:=b.cY
   unfold Bk.flat Vw
   rw[ew ⟨cK,cK,cK,cK,dD⟩,show x.body.toNat=a.flat.length from cK,Lw,Eu,show x.eu.toNat=b.flat.length from cK,Lw,<- sZ,Eu,Eu,
    J E n cK,G hb n cK,u I n cK]
def tc(l:List bQ):Option Bk:=Vw l.length l
def nX{l:List bQ}{t:Bk}(h:tc l=some t):l=t.flat/\t.str:=yh _ _ _ h
theorem rO{t:Bk}(h:t.str):tc t.flat=some t:=Xf t h _ (by rw[Bk.cY];omega)
def fE(l:List bQ)(loops:Int):Int:=match tc l with|some t=>if t.ok loops then t.depth else -1|none=>-1
theorem BY(loops:Int):fE [] loops=0:=rfl
theorem tH(l:List bQ)(loops:Int) : -1<=fE l loops/\fE l loops<=l.length:=by
 unfold fE
 cases h:tc l with
 | none=>grind
 | some t=>
  obtain⟨rfl,_⟩:=nX h
  have:=t.AT
  simp only[Bk.cY]
  omega
def uO(x:bQ)(l:List bQ):Prop:=0<=x.body/\0<=x.eu/\x.body<=40/\x.eu<=40/\x.body+x.eu<=l.length
theorem T1{x:bQ}{l:List bQ}{loops:Int}(h:¬ (uO x l/\Bk.yg x loops=true)):fE (x::l) loops = -1:=by
 unfold fE
 cases hb:tc (x::l)with
 | none=>rfl
 | some t=>
  obtain⟨u,B⟩:=nX hb
  cases t with
  | nil=>cases u
  | cons y a b r=>
   obtain⟨rfl,rfl⟩:=ZY.inj u
   obtain⟨h1,h2,h3,h4,_⟩:=B
   have:Bk.yg x loops=false:=by
    cases hk:Bk.yg x loops with
    | false=>rfl
    | true=>exact absurd ⟨⟨cK,cK,cK,cK,by simp[Bk.cY];omega⟩,hk⟩ h
   have h:(Bk.cons x a b r).ok loops=false:=by unfold Bk.ok;grind
   grind
theorem EC{x:bQ}{l:List bQ}{loops:Int}(h:uO x l)(Y:Bk.yg x loops=true) :
  fE (x::l) loops=(let A:=fE (l.take x.body.toNat) (Bk.Dv x loops);let B:=fE ((l.drop x.body.toNat).take x.eu.toNat) (Bk.Dv x loops);let R:=fE (l.drop (x.body.toNat+x.eu.toNat)) loops
   if A<0\/B<0\/R<0 then -1 else if Bk.zB x then max (max (1+A) (1+B)) R else R):=by
 obtain⟨h1,h2,h3,h4,h5⟩:=h
 have e:l=l.take x.body.toNat++((l.drop x.body.toNat).take x.eu.toNat++l.drop (x.body.toNat+x.eu.toNat)):=by
  rw[<- sZ,qB,qB]
 have Z:(l.take x.body.toNat).length=x.body.toNat:=dD
 have lb:((l.drop x.body.toNat).take x.eu.toNat).length=x.eu.toNat:=by rw[l0,qb];omega
 simp only[]
 have U:∀t,tc (x::l)=some t->∃a b r,t=.cons x a b r/\tc (l.take x.body.toNat)=some a/\tc ((l.drop x.body.toNat).take x.eu.toNat)=some b/\tc (l.drop (x.body.toNat+x.eu.toNat))=some r:=by
  intro t ht
  obtain⟨J,O⟩:=nX ht
  cases t with
  | nil=>cases J
  | cons y a b r=>
   obtain⟨rfl,u⟩:=ZY.inj J
   obtain⟨g1,g2,_,_,E,hb,G⟩:=O
   have I:x.body.toNat=a.flat.length:=by rw[Bk.cY];omega
   have M:x.eu.toNat=b.flat.length:=by rw[Bk.cY];omega
   refine⟨a,b,r,rfl,?_,?_,?_⟩
   .rw[u,I,Lw];exact rO E
   .rw[u,I,M,Eu,Lw];exact rO hb
   .rw[u,<- sZ,I,M,Eu,Eu];exact rO G
 cases E:tc (l.take x.body.toNat)with
 | none=>
  have:tc (x::l)=none:=by
   cases hh:tc (x::l)with
   | none=>rfl
   | some t=>grind
  unfold fE;rw[this,E];simp
 | some a=>
  cases hb:tc ((l.drop x.body.toNat).take x.eu.toNat)with
  | none=>
   have:tc (x::l)=none:=by
    cases hh:tc (x::l)with
    | none=>rfl
    | some t=>grind
   unfold fE;rw[this,hb];simp
  | some b=>
   cases G:tc (l.drop (x.body.toNat+x.eu.toNat))with
   | none=>
    have:tc (x::l)=none:=by
     cases hh:tc (x::l)with
     | none=>rfl
     | some t=>grind
    unfold fE;rw[this,G];simp
   | some r=>
    obtain⟨W,a2⟩:=nX E
    obtain⟨b1,b2⟩:=nX hb
    obtain⟨r1,V⟩:=nX G
    have u:x::l=(Bk.cons x a b r).flat:=by unfold Bk.flat;grind
    rw[W,Bk.cY]at Z
    rw[b1,Bk.cY]at lb
    have:tc (x::l)=some (.cons x a b r):=by rw[u];exact rO ⟨cK,cK,cK,cK,a2,b2,V⟩
    have na:=a.AT
    have nb:=b.AT
    have nr:=r.AT
    unfold fE
    rw[this,E,hb,G]
    simp only[Bk.ok,Y,yU]
    cases h1:a.ok (Bk.Dv x loops)<;>cases h2:b.ok (Bk.Dv x loops)<;>cases h3:r.ok loops<;>simp[Bk.depth]
    omega
def so(n d:Int):Int:=if d<0 then -1 else max n d
def I6{xs l:List bQ}{x:bQ}{loops n:Int}(h:fE xs loops=so n (fE (x::l) loops))(hb:¬ (uO x l/\Bk.yg x loops=true)):fE xs loops = -1:=by
 rw[h,T1 hb];rfl
def Xg{xs l:List bQ}{x:bQ}{loops n:Int}(h:fE xs loops=so n (fE (x::l) loops))(E:uO x l)(G:Bk.yg x loops=true)(hb:Bk.zB x=true)(A B:Int)
  (I:A=fE (l.take x.body.toNat) (Bk.Dv x loops)) (u:B=fE ((l.drop x.body.toNat).take x.eu.toNat) (Bk.Dv x loops)) :
  (A<0\/B<0->fE xs loops = -1)/\(¬ (A<0\/B<0)->fE xs loops=so (max (max n (1+A)) (1+B)) (fE (l.drop (x.body.toNat+x.eu.toNat)) loops)):=by
 have J:=tH (l.drop (x.body.toNat+x.eu.toNat)) loops
 rw[h,EC E G]
 simp only[<- I,<- u,hb,if_true]
 unfold so
 constructor<;>intro h<;>repeat' split
 all_goals omega
def af9{xs l:List bQ}{x:bQ}{loops n:Int}(h:fE xs loops=so n (fE (x::l) loops))(B:uO x l)(E:Bk.yg x loops=true)(hb:Bk.zB x=false) :
  fE xs loops=so n (fE (l.drop (x.body.toNat+x.eu.toNat)) loops):=by
 have u:x.body=0/\x.eu=0:=by
  unfold Bk.yg at E
  unfold Bk.zB at hb
  obtain⟨h1,h2,_⟩:=B
  grind
 rw[h,EC B E,u.1,u.2]
 have G:l.take (abk 0)=[]:=rfl
 have I:(l.drop (abk 0)).take (abk 0)=[]:=rfl
 simp only[hb,G,I,BY]
 unfold so
 repeat' split
 all_goals first|omega|simp_all
theorem drop_cons{α:Type}{xs:List α}{k:Nat}{x:α}(h:xs[k]?=some x):xs.drop k=x::xs.drop (k+1):=by
 obtain⟨h1,h2⟩:=kp.1 h
 rw[tx h1,h2]
theorem vu{α:Type}(xs:List α){a b c n:Nat}(h:b=a+n)(hc:c=a):(xs.take b).drop c=(xs.drop a).take n:=by
 subst h hc;rw[List.drop_take,Nat.add_sub_cancel_left]
def T3:List ByteArray:=[⟨#[]⟩,⟨#[114,101]⟩,⟨#[114,110]⟩,⟨#[110,101]⟩,⟨#[114,110,101,102]⟩,⟨#[110]⟩,⟨#[110]⟩,⟨#[]⟩,⟨#[]⟩,⟨#[110]⟩,⟨#[110]⟩,⟨#[101,98]⟩,⟨#[107,98]⟩,⟨#[]⟩,⟨#[101]⟩]
def fG(k:Int):ByteArray:=if k<1\/14<k then⟨#[]⟩else T3.getD k.toNat ⟨#[]⟩
def eU(s:ByteArray)(c:Int):Bool:=(iQ s).any λb=>decide ((b.toNat:Int)=c)
def m9(x:bQ):Bool:=
 !(decide (x.kind<1)||decide (14<x.kind)||decide (x.at_<0)||decide (4000<x.at_)) &&
 !((eU (fG x.kind) 114 != gK x.eF)||(!eU (fG x.kind) 114&&decide (¬ x.eF=⟨#[]⟩))||(eU (fG x.kind) 110 != gK x.name)||(!eU (fG x.kind) 110&&decide (¬ x.name=⟨#[]⟩))) &&
 !((eU (fG x.kind) 101 != fC x.e)||(!eU (fG x.kind) 101&&decide (0<x.e.length))||(eU (fG x.kind) 102 != fC x.f)||(!eU (fG x.kind) 102&&decide (0<x.f.length))) &&
 (if eU (fG x.kind) 107=true then decide (1<=x.n/\x.n<=8)else decide (x.n=0))
def pO(l:List bQ):Bool:=decide (l.length<=40)&&!l.any (λx=>!m9 x)&&decide (0<=fE l 0/\fE l 0<=12)
def rD(n:Int):Bool:=decide (0<=n/\n<=4000)
def iS(u:Int)(c:cJ):Bool:=!gK c.name||decide (c.n<0)||decide (u<c.n)||!rD c.at_
def nY(u:Int)(l:List cJ):Bool:=!l.any (iS u)
def sq(nb:Bool)(t:cN):Bool:=(nb != gK t.name)||(!nb&&decide (¬ t.name=⟨#[]⟩))||!rD t.at_||!pO t.body
def mD(nb:Bool)(t:cN):Bool:=sq nb t||t.dQ.any (λs=>!gK s)
def nL(nb:Bool)(l:List cN):Bool:=!l.any (mD nb)
def nR(l:List cJ):Bool:=decide ((l.length:Int)=0)||!nY 4294967296 l
def lT(c:gS):Bool:=!rD c.at_||!fC c.e
def kr(p:cE):Bool:=!p.lines.any nR&&!p.dS.any lT&&(nY 4294967296 p.iR&&nY 0 p.eJ&&nL true p.threads&&nL false p.recover&&decide (p.recover.length<=1))
def SzS(x:bQ):Prop:=x.eF.size<=1048576/\x.name.size<=1048576/\x.e.length<=1048576/\x.f.length<=1048576/\(∀y∈x.e,y.name.size<=1048576)/\(∀y∈x.f,y.name.size<=1048576)
def Xh(t:cN):Prop:=t.name.size<=1048576/\(∀s∈t.dQ,s.size<=1048576)/\(∀x∈t.body,SzS x)
structure PZ(p:cE):Prop extends PS p where
 zl:∀l∈p.lines,∀c∈l,c.name.size<=1048576
 zv:∀c∈p.iR,c.name.size<=1048576
 zk:∀c∈p.eJ,c.name.size<=1048576
 zt:∀t∈p.threads,Xh t
 zr:∀t∈p.recover,Xh t
 zc:∀c∈p.dS,c.e.length<=1048576/\∀y∈c.e,y.name.size<=1048576
def ED(k:Int):(fG k).size<=1048576:=by
 unfold fG
 split
 .decide
 rename_i h
 obtain rfl|rfl|rfl|rfl|rfl|rfl|rfl|rfl|rfl|rfl|rfl|rfl|rfl|rfl:k=1\/k=2\/k=3\/k=4\/k=5\/k=6\/k=7\/k=8\/k=9\/k=10\/k=11\/k=12\/k=13\/k=14:=cK
 all_goals decide
def C315(k:Int)(w:World):CR 315 [hZ k] w (λv w'=>v=.string (fG k)/\Ext w w'):=by
 have u:=St.start w;refine acb _ _ _ ?_;unfold S315;refine⟨λI w'=>I=.bool (decide (k<1\/14<k))/\w=w',aR (aC (λ_=>⟨N7 cK,rfl⟩) λ_=>cO ⟨yF cK,rfl⟩),?_⟩;rintro _ _ ⟨rfl,J⟩ _;subst J;refine aC (λB=>?_) (λB=>?_)
 .refine⟨?_,u.aG⟩;unfold fG;rw[ew B]
 refine bD T3 u iC rfl rfl (dL rfl) (λG _ u=>?_);have U:T3.length=15:=rfl;obtain⟨O,E⟩:=gx T3 (i:=k.toNat) cK;refine dR u iC cK cK (λ_ M=>gM u gw M E ?_);refine⟨?_,u.aG⟩;unfold fG;rw[ej B,og,E];rfl
def C316(s:ByteArray)(c:Int)(w:World)(V:s.size<=1048576):CR 316 [.string s,.int .u8 c] w (λv w'=>v=.bool (eU s c)/\Ext w w'):=by
 have u:=St.start w;refine fg Tryz.func316 ?_;refine⟨λm x I=>∃k:Nat,x=hZ (k:Int)/\m=(iQ s).length-k/\k<=(iQ s).length/\(∀y∈(iQ s).take k,decide ((y.toNat:Int)=c)=false)/\St w aZ [] I,⟨_,0,rfl,rfl,l1 _,ei,u⟩,?_⟩;rintro m _ I ⟨k,rfl,rfl,M,G,u⟩ _;rw[eY]at M;have U:=eY s;refine fk il (aR (aC (λO=>?_) λO=>?_))
 .obtain⟨W,E⟩:∃J,(iQ s)[(k:Int).toNat]?=some J:=⟨_,kX (by rw[eY];omega)⟩;exact jW il cK E (nH (aC (λB=>⟨vb (ic E (ez B)).symm,u.aG⟩) λB=>aN cK ⟨_,cK,k+1,rfl,rfl,cK,dZ G E (fN B),u⟩))
 rw[kO cK]at G;exact⟨vb (iD G).symm,u.aG⟩
def C288(x:bQ)(xv:bE)(w:World)(hx:mh w xv x)(B:SzS x):CR 288 [ia xv] w (λv w'=>v=.bool (m9 x)/\Ext w w'):=by
 obtain⟨U,V,rfl,LG,Hf⟩:=hx;have u:=St.start w;refine fg Tryz.func288 ?_;refine cI u (λO _ u=>⟨λE w'=>E=.bool (decide (x.kind<1)||decide (14<x.kind)||decide (x.at_<0)||decide (4000<x.at_))/\St w aZ [bY O (j0 (⟨x.kind,x.eF,x.name,U,V,x.n,x.body,x.eu,x.at_⟩:bE))] w',?_,?_⟩)
 .refine aA dM (aB (v:=hZ x.kind) bM u.hb rfl ?_);exact aR (aC (λ_=>⟨vb dD,u⟩) λ_=>aA dM (aB (v:=hZ x.kind) bM u.hb rfl (cO (aC (λ_=>⟨vb dD,u⟩) λ_=>aA lL (aB (v:=hZ x.at_) bM u.hb rfl (aR (aC (λ_=>⟨vb dD,u⟩) λ_=>aA lL (aB (v:=hZ x.at_) bM u.hb rfl (cO ⟨vb dD,u⟩)))))))))
 rintro _ _ ⟨rfl,u⟩ _;refine aY (λjE=>?_) (λjE=>aA dM (aB (v:=hZ x.kind) bM u.hb rfl (aV anv u (C315 _ _) λ_ G u=>aV KN u (C316 _ _ _ (ED _)) λ_ G u=>aV KN u (C316 _ _ _ (ED _)) λ_ G u=>aV KN u (C316 _ _ _ (ED _)) λ_ G u=>aV KN u (C316 _ _ _ (ED _)) λ_ G u=>⟨λE w'=>E=.bool ((eU (fG x.kind) 114 != gK x.eF)||(!eU (fG x.kind) 114&&decide (¬ x.eF=⟨#[]⟩))||(eU (fG x.kind) 110 != gK x.name)||(!eU (fG x.kind) 110&&decide (¬ x.name=⟨#[]⟩)))/\St w aZ [bY O (j0 (⟨x.kind,x.eF,x.name,U,V,x.n,x.body,x.eu,x.at_⟩:bE))] w',?_,?_⟩)))
 .refine⟨vb ?_,u.drop.aG⟩;unfold m9;simp only[*]
  first|done|rfl|simp
 .refine aA iH (aB (v:=.string x.eF) gw u.hb rfl (aV uy u (C211 _ _ B.1) λ_ G u=>rW KY (aY (λ_=>⟨vb dD,u⟩) λvT=>bR (aY (λAU=>?_) λ_=>aA fZ (aB (v:=.string x.name) gw u.hb rfl (aV uy u (C211 _ _ B.2.1) λ_ _ u=>rW KY (aY (λ_=>⟨vb dD,u⟩) λ_=>bR (aY (λ_=>aA fZ (aB (v:=.string x.name) gw u.hb rfl (l9 ⟨vb dD,u⟩))) λ_=>⟨vb dD,u⟩))))))));refine aA iH ?_;exact aB (v:=.string x.eF) gw u.hb rfl (l9 (aC (λ_=>⟨vb dD,u⟩) λ_=>aA fZ (aB (v:=.string x.name) gw u.hb rfl (aV uy u (C211 _ _ B.2.1) λ_ _ u=>rW KY (aY (λ_=>⟨vb dD,u⟩) λ_=>bR (aY (λ_=>aA fZ (aB (v:=.string x.name) gw u.hb rfl (l9 ⟨vb dD,u⟩))) λ_=>⟨vb dD,u⟩))))))
 rintro _ _ ⟨rfl,u⟩ _;refine aY (λW=>?_) (λW=>⟨λE w'=>E=.bool ((eU (fG x.kind) 101 != fC x.e)||(!eU (fG x.kind) 101&&decide (0<x.e.length))||(eU (fG x.kind) 102 != fC x.f)||(!eU (fG x.kind) 102&&decide (0<x.f.length)))/\St w aZ [bY O (j0 (⟨x.kind,x.eF,x.name,U,V,x.n,x.body,x.eu,x.at_⟩:bE))] w',?_,?_⟩)
 .refine⟨vb ?_,u.drop.aG⟩;unfold m9;simp only[*]
  first|done|rfl|simp
 .refine aA iX (aB jx u.hb rfl ?_);have J:=DL.flat LG;refine aV KI u (C200 _ _ _ (J.ext u.aG) B.2.2.1 B.2.2.2.2.1) (λ_ G u=>rW KY (aY (λ_=>⟨vb dD,u⟩) λHg=>bR (aY (λY=>aA iX (aB jx u.hb rfl (aK gX (J.ext u.aG) (cO (aC (λ_=>⟨vb dD,u⟩) λRZ=>?_))))) λY=>?_)))
  .refine aA j6 (aB jx u.hb rfl ?_);have I:=DL.flat Hf;exact aV KI u (C200 _ _ _ (I.ext u.aG) B.2.2.2.1 B.2.2.2.2.2) (λ_ _ u=>rW KY (aY (λ_=>⟨vb dD,u⟩) λ_=>bR (aY (λ_=>aA j6 (aB jx u.hb rfl (aK gX (I.ext u.aG) (cO ⟨vb dD,u⟩)))) λ_=>⟨vb dD,u⟩)))
  refine aA j6 (aB jx u.hb rfl ?_);have M:=DL.flat Hf;exact aV KI u (C200 _ _ _ (M.ext u.aG) B.2.2.2.1 B.2.2.2.2.2) (λ_ _ u=>rW KY (aY (λ_=>⟨vb dD,u⟩) λ_=>bR (aY (λ_=>aA j6 (aB jx u.hb rfl (aK gX (M.ext u.aG) (cO ⟨vb dD,u⟩)))) λ_=>⟨vb dD,u⟩)))
 rintro _ _ ⟨rfl,u⟩ _;refine aY (λZ=>?_) (λZ=>aV KN u (C316 _ _ _ (ED _)) λ_ G u=>aY (λBZ=>⟨λE w'=>E=.bool (decide (1<=x.n/\x.n<=8))/\St w aZ [bY O (j0 (⟨x.kind,x.eF,x.name,U,V,x.n,x.body,x.eu,x.at_⟩:bE))] w',aA jQ (aB (v:=hZ x.n) bM u.hb rfl (cR (aC (λ_=>aA jQ (aB (v:=hZ x.n) bM u.hb rfl (iE ⟨vb dD,u⟩))) λ_=>⟨vb dD,u⟩))),?_⟩) λBZ=>?_)
 .refine⟨vb ?_,u.drop.aG⟩;unfold m9;simp only[*]
  first|done|rfl|simp
 .rintro _ _ ⟨rfl,u⟩ _;refine⟨vb ?_,u.drop.aG⟩;unfold m9;simp only[*]
  first|done|rfl|simp
 refine aA jQ (aB (v:=hZ x.n) bM u.hb rfl (aH ?_));refine⟨vb ?_,u.drop.aG⟩;unfold m9;simp only[*]
 first|done|rfl|simp
theorem C289(lv:Value)(xs:List bQ)(loops:Int)(N:Nat)(w:World)(hL:DL w lv xs)(hn:xs.length<=1048576)(hlo:0<=loops)(Ob:loops+N<=4194304)(hN:xs.length<N):CR 289 [lv,hZ loops] w (λv w'=>v=hZ (fE xs loops)/\Ext w w'):=by
 have E:=St.start w;refine ab7 _ _ _ _ ?_;unfold S289;refine⟨λm y x w1=>∃(k:Nat) (n:Int),y=hZ n/\x=hZ (k:Int)/\m=xs.length-k/\k<=xs.length/\0<=n/\n<=41/\fE xs loops=so n (fE (xs.drop k) loops)/\St w aZ [] w1,⟨_,0,0,rfl,rfl,rfl,cK,cK,cK,by have:=tH xs loops;rw[P6];unfold so;split<;>omega,E⟩,?_⟩;rintro m _ _ w1 ⟨k,n,rfl,rfl,rfl,hk,Vx,W6,hinv,E⟩ _;obtain⟨ts7,G,J⟩:=hL.open;have hn7:=J.1;refine aK fq (G.ext E.aG) (aR (aC (λjr=>?_) λjr=>?_))
 .obtain⟨re,ja⟩:=gx ts7 (i:=(k:Int).toNat) cK;obtain⟨u,EF⟩:=gx xs (i:=(k:Int).toNat) cK;obtain⟨O,M,rfl,acK,acL⟩:=J.2 _ _ _ ja EF;refine aQ fq (G.ext E.aG) cK ja (λ_ uL=>?_);have hdk:=drop_cons (xs:=xs) (k:=k) EF;rw[hdk]at hinv;have Hh:(xs.drop (k+1)).length=xs.length-(k+1):=qb;refine aD eM uL (aM E jy λU _ E=>aI (x:=(⟨u.kind,u.eF,u.name,O,M,u.n,u.body,u.eu,u.at_⟩:bE)) E eM rfl rfl λ_ E=>⟨λI w'=>I=.bool (decide (u.body<0)||decide (u.eu<0)||decide (40<u.body)||decide (40<u.eu)||decide ((xs.length:Int)<k+1+u.body+u.eu))/\St w aZ [bY U (j0 (⟨u.kind,u.eF,u.name,O,M,u.n,u.body,u.eu,u.at_⟩:bE))] w',aA iY (aB (v:=hZ u.body) bM E.hb rfl (aR (aC (λ_=>⟨vb dD,E⟩) λiP=>aA iI (aB (v:=hZ u.eu) bM E.hb rfl (aR (aC (λ_=>⟨vb dD,E⟩) λyP=>aA iY (aB (v:=hZ u.body) bM E.hb rfl (cO (aC (λ_=>⟨vb dD,E⟩) λmf=>?_))))))))),?_⟩)
  .exact aA iI (aB (v:=hZ u.eu) bM E.hb rfl (cO (aC (λ_=>⟨vb dD,E⟩) λ_=>aN cK (aA iY (aB (v:=hZ u.body) bM E.hb rfl (aN cK (aA iI (aB (v:=hZ u.eu) bM E.hb rfl (aN cK (aK fq (G.ext E.aG) (cO ⟨vb dD,E⟩)))))))))))
  rintro _ _ ⟨rfl,E⟩ _;refine aY (λ_=>⟨gO (ni .i64) (I6 hinv (by unfold uO;grind)).symm,E.drop.aG⟩) (λLC=>?_);have oL:uO u (xs.drop (k+1)):=by unfold uO;grind
  refine⟨λI w'=>I=.bool (!Bk.yg u loops)/\St w aZ [bY U (j0 (⟨u.kind,u.eF,u.name,O,M,u.n,u.body,u.eu,u.at_⟩:bE))] w',aA iY (aB (v:=hZ u.body) bM E.hb rfl (cO (aC (λCF=>aA dM (aB (v:=hZ u.kind) bM E.hb rfl (bV (aC (λaoe=>aA dM (aB (v:=hZ u.kind) bM E.hb rfl (bV (aC (λ_=>⟨vb (by unfold Bk.yg;grind),E⟩) λR0=>?_)))) λaoe=>?_)))) λCF=>?_))),?_⟩
  .refine aA iI (aB (v:=hZ u.eu) bM E.hb rfl (cO (aC (λ_=>aA dM (aB (v:=hZ u.kind) bM E.hb rfl (bV (aC (λ_=>⟨vb (by unfold Bk.yg;grind),E⟩) λ_=>aA dM (aB (v:=hZ u.kind) bM E.hb rfl (aH (aC (λ_=>aH ⟨vb (by unfold Bk.yg;grind),E⟩) λ_=>⟨vb (by unfold Bk.yg;grind),E⟩))))))) λwW=>?_)));exact aA dM (aB (v:=hZ u.kind) bM E.hb rfl (aH (aC (λ_=>aH ⟨vb (by unfold Bk.yg;grind),E⟩) λ_=>⟨vb (by unfold Bk.yg;grind),E⟩)))
  .refine aA iI (aB (v:=hZ u.eu) bM E.hb rfl (cO (aC (λ_=>aA dM (aB (v:=hZ u.kind) bM E.hb rfl (bV (aC (λ_=>⟨vb (by unfold Bk.yg;grind),E⟩) λ_=>aA dM (aB (v:=hZ u.kind) bM E.hb rfl (aH (aC (λ_=>aH ⟨vb (by unfold Bk.yg;grind),E⟩) λ_=>⟨vb (by unfold Bk.yg;grind),E⟩))))))) λas2=>?_)));exact aA dM (aB (v:=hZ u.kind) bM E.hb rfl (aH (aC (λ_=>aH ⟨vb (by unfold Bk.yg;grind),E⟩) λ_=>⟨vb (by unfold Bk.yg;grind),E⟩)))
  .refine aA iI (aB (v:=hZ u.eu) bM E.hb rfl (cO (aC (λ_=>aA dM (aB (v:=hZ u.kind) bM E.hb rfl (bV (aC (λ_=>⟨vb (by unfold Bk.yg;grind),E⟩) λ_=>aA dM (aB (v:=hZ u.kind) bM E.hb rfl (aH (aC (λ_=>aH ⟨vb (by unfold Bk.yg;grind),E⟩) λ_=>⟨vb (by unfold Bk.yg;grind),E⟩))))))) λas3=>?_)));exact aA dM (aB (v:=hZ u.kind) bM E.hb rfl (aH (aC (λ_=>aH ⟨vb (by unfold Bk.yg;grind),E⟩) λ_=>⟨vb (by unfold Bk.yg;grind),E⟩)))
  rintro _ _ ⟨rfl,E⟩ _;refine aY (λ_=>⟨gO (ni .i64) (I6 hinv dD).symm,E.drop.aG⟩) (λagd=>?_);have kC:Bk.yg u loops=true:=dD
  have ah9:=oL;unfold uO at ah9;refine aN cK (aA iY (have E:=E.drew;aB (v:=hZ u.body) bM E.hb rfl (aN cK ⟨λI w'=>I=hZ (Bk.Dv u loops)/\St w aZ [bY U (j0 (⟨u.kind,u.eF,u.name,O,M,u.n,u.body,u.eu,u.at_⟩:bE))] w',aA dM (aB (v:=hZ u.kind) bM E.hb rfl (aH (aC (λ_=>aN cK ⟨gO (ni .i64) (by unfold Bk.Dv;grind),E⟩) λ_=>⟨gO (ni .i64) (by unfold Bk.Dv;grind),E⟩))),?_⟩)));rintro _ _ ⟨rfl,E⟩ _;have tj:loops<=Bk.Dv u loops/\Bk.Dv u loops<=loops+1:=by unfold Bk.Dv;split<;>omega
  refine⟨λI w'=>∃V:Int,I=hZ V/\0<=V/\V<=41/\fE xs loops=so V (fE (xs.drop (k+1+(u.body.toNat+u.eu.toNat))) loops)/\St w aZ [bY U (j0 (⟨u.kind,u.eF,u.name,O,M,u.n,u.body,u.eu,u.at_⟩:bE))] w',⟨λI w'=>I=.bool (decide (u.kind=11)||decide (u.kind=12))/\St w aZ [bY U (j0 (⟨u.kind,u.eF,u.name,O,M,u.n,u.body,u.eu,u.at_⟩:bE))] w',aA dM (aB (v:=hZ u.kind) bM E.hb rfl (aH (aC (λ_=>⟨vb dD,E⟩) λ_=>aA dM (aB (v:=hZ u.kind) bM E.hb rfl (aH ⟨vb dD,E⟩))))),?_⟩,?_⟩
  .rintro _ _ ⟨rfl,E⟩ _;refine aY (λaia=>?_) (λaia=>?_)
   .refine aN cK (oz fq (G.ext E.aG) cK cK cK λavt acM=>?_);have acN:=DL.cut acM G J;refine aA iI (have E:=E.drew;aB (v:=hZ u.eu) bM E.hb rfl (aN cK (oz fq (G.ext E.aG) cK cK cK λavu acO=>?_)));have acP:=DL.cut acO G J;have W:((xs.take (((k:Int)+1)+u.body).toNat).drop ((k:Int)+1).toNat)=(xs.drop (k+1)).take u.body.toNat:=vu xs cK cK;have Z:((xs.take ((((k:Int)+1)+u.body)+u.eu).toNat).drop (((k:Int)+1)+u.body).toNat)=((xs.drop (k+1)).drop u.body.toNat).take u.eu.toNat:=by rw[sZ];exact vu xs cK cK
    have hlA:((xs.take (((k:Int)+1)+u.body).toNat).drop ((k:Int)+1).toNat).length<=xs.length-1/\((xs.take (((k:Int)+1)+u.body).toNat).drop ((k:Int)+1).toNat).length<=40:=by rw[W,l0];omega
    have hlB:((xs.take ((((k:Int)+1)+u.body)+u.eu).toNat).drop (((k:Int)+1)+u.body).toNat).length<=xs.length-1/\((xs.take ((((k:Int)+1)+u.body)+u.eu).toNat).drop (((k:Int)+1)+u.body).toNat).length<=40:=by rw[Z,l0,qb];omega
    refine aV We E (C289 _ _ _ (N-1) _ (acN.ext E.aG) cK cK cK cK) (λ_ he E=>?_);refine⟨aF bM (E.hb.cell rfl),?_⟩;refine dO We (C289 _ _ _ (N-1) _ (acP.ext E.aG) cK cK cK cK) ?_;rintro _ _ ⟨rfl,he⟩;have E:=E.ext he;obtain⟨A,hA⟩:∃A,A=fE ((xs.take (((k:Int)+1)+u.body).toNat).drop ((k:Int)+1).toNat) (Bk.Dv u loops):=⟨_,rfl⟩;obtain⟨B,hB⟩:∃B,B=fE ((xs.take ((((k:Int)+1)+u.body)+u.eu).toNat).drop (((k:Int)+1)+u.body).toNat) (Bk.Dv u loops):=⟨_,rfl⟩;have hAb:=tH ((xs.take (((k:Int)+1)+u.body).toNat).drop ((k:Int)+1).toNat) (Bk.Dv u loops)
    have hBb:=tH ((xs.take ((((k:Int)+1)+u.body)+u.eu).toNat).drop (((k:Int)+1)+u.body).toNat) (Bk.Dv u loops);rw[<- hA]at hAb;rw[<- hB]at hBb;rw[<- hA,<- hB];have TZ:=Xg hinv oL kC (by unfold Bk.zB;grind) A B (by rw[hA,W]) (by rw[hB,Z]);refine⟨λI w'=>I=.bool (decide (A<0\/B<0))/\St w aZ [bY U (j0 (⟨u.kind,u.eF,u.name,O,M,u.n,u.body,u.eu,u.at_⟩:bE))] w',aR (aC (λ_=>⟨vb dD,E⟩) λ_=>aR ⟨vb dD,E⟩),?_⟩;rintro _ _ ⟨rfl,E⟩ _;refine aY (λO2=>⟨gO (ni .i64) (TZ.1 (gP O2)).symm,E.drop.aG⟩) (λO2=>aN cK (aN cK (Lu ?_)))
    have Xi:=TZ.2 (g6 O2);rw[sZ]at Xi;exact⟨_,rfl,cK,cK,Xi,E⟩
   have Y:=af9 hinv oL kC (by unfold Bk.zB;grind);rw[sZ]at Y;exact⟨_,rfl,Vx,W6,Y,E⟩
  rintro _ _ ⟨V,rfl,aic,aid,Xj,E⟩ _;exact aA iI (aB (v:=hZ u.eu) bM E.hb rfl (aN cK ⟨_,cK,k+1+(u.body.toNat+u.eu.toNat),V,rfl,gO (ni .i64) cK,rfl,cK,aic,aid,Xj,E.drop⟩))
 rw[vF cK,BY]at hinv;exact⟨gO (ni .i64) (by rw[hinv];unfold so;omega),E.aG⟩
termination_by N
decreasing_by all_goals omega
def C253(lv:Value)(xs:List bQ)(w:World)(Z:DL w lv xs)(hn:xs.length<=1048576)(hz:∀x∈xs,SzS x):CR 253 [lv] w (λv w'=>v=.bool (pO xs)/\Ext w w'):=by
 have u:=St.start w;refine fg Tryz.func253 ?_;obtain⟨J,B,E⟩:=Z.open;have hn8:=E.1;refine aK fq (B.ext u.aG) (cO (aC (λgT=>?_) λgT=>?_))
 .refine⟨vb ?_,u.aG⟩;unfold pO;rw[fN cK];rfl
 refine⟨λm x Y=>∃k:Nat,x=hZ (k:Int)/\m=xs.length-k/\k<=xs.length/\(∀y∈xs.take k,(!m9 y)=false)/\St w aZ [] Y,⟨_,0,rfl,rfl,l1 _,ei,u⟩,?_⟩;rintro m _ Y ⟨k,rfl,rfl,hk,V,u⟩ _;refine aK fq (B.ext u.aG) (aR (aC (λjD=>?_) λjD=>aV We u (C289 _ _ _ (xs.length+1) _ (Z.ext u.aG) cK cK cK cK) λ_ he u=>⟨λjv w'=>jv=.bool (decide (0<=fE xs 0/\fE xs 0<=12))/\St w aZ [] w',cR (aC (λ_=>iE ⟨vb dD,u⟩) λ_=>⟨vb dD,u⟩),?_⟩))
 .obtain⟨Xk,nZ⟩:=gx J (i:=(k:Int).toNat) cK;obtain⟨su,G⟩:=gx xs (i:=(k:Int).toNat) cK;obtain⟨W,M,rfl,O,U⟩:=E.2 _ _ _ nZ G;refine aQ fq (B.ext u.aG) cK nZ (λ_ AN=>aD eM AN (aV ank u (C288 su _ _ ⟨W,M,rfl,O.ext u.aG,U.ext u.aG⟩ (hz _ (kE G))) λ_ he u=>bR (aY (λI=>?_) λI=>aN cK ⟨_,cK,k+1,rfl,rfl,cK,dZ V G I,u⟩)));refine⟨vb ?_,u.aG⟩;unfold pO;rw[ic G I];simp
 rintro _ _ ⟨rfl,u⟩ _;rw[kO cK]at V;refine⟨vb ?_,u.aG⟩;unfold pO;rw[iD V,ez (show xs.length<=40 by omega)];rfl
def C199(n:Int)(w:World):CR 199 [hZ n] w (λv w'=>v=.bool (rD n)/\Ext w w'):=by
 have u:=St.start w;refine fg Tryz.func199 ?_;refine⟨λB w'=>B=.bool (decide (0<=n/\n<=4000))/\w=w',cR (aC (λ_=>iE ⟨yF cK,rfl⟩) λ_=>⟨jvF cK,rfl⟩),?_⟩;rintro _ _ ⟨rfl,E⟩ _;subst E;exact⟨rfl,u.aG⟩
def C198(lv:Value)(xs:List cJ)(I:Int)(w:World)(E:dC (λ_=>True) w lv xs)(hn:xs.length<=1048576)(hz:∀c∈xs,c.name.size<=1048576):CR 198 [lv,hZ I] w (λv w'=>v=.bool (nY I xs)/\Ext w w'):=by
 have u:=St.start w;refine fg Tryz.func198 ?_;refine⟨λm x O=>∃k:Nat,x=hZ (k:Int)/\m=xs.length-k/\k<=xs.length/\(∀y∈xs.take k,iS I y=false)/\St w aZ [] O,⟨_,0,rfl,rfl,l1 _,ei,u⟩,?_⟩;rintro m _ O ⟨k,rfl,rfl,hk,J,u⟩ _;refine aK im (E.ext u.aG) (aR (aC (λjJ=>?_) λjJ=>?_))
 .obtain⟨G,B⟩:=gx xs (i:=(k:Int).toNat) cK;refine⟨λV w'=>V=.bool (iS I G)/\St w aZ [] w',aQ im (E.ext u.aG) cK B (λ_ W=>bW G.name kQ W rfl rfl λ_ Y=>aD gw Y (aV uy u (C211 _ _ (hz _ (kE B))) λ_ he u=>bR (aY (λ_=>⟨vb (by unfold iS;grind),u⟩) λlR=>?_))),?_⟩
  .refine aQ im (E.ext u.aG) cK B (λ_ AV=>bW G.n rZ AV rfl rfl λ_ qC=>?_);exact aD bM qC (aR (aC (λ_=>⟨vb (by unfold iS;grind),u⟩) λ_=>aQ im (E.ext u.aG) cK B λ_ Z=>bW G.n rZ Z rfl rfl λ_ sw=>aD bM sw (cO (aC (λ_=>⟨vb (by unfold iS;grind),u⟩) λ_=>aQ im (E.ext u.aG) cK B λ_ xj=>bW G.at_ uF xj rfl rfl λ_ U=>aD bM U (aV Ro u (C199 _ _) λ_ _ u=>bR ⟨vb (by unfold iS;grind),u⟩)))))
  rintro _ _ ⟨rfl,u⟩ _;refine aY (λM=>?_) (λM=>aN cK ⟨_,cK,k+1,rfl,rfl,cK,dZ J B M,u⟩);refine⟨vb ?_,u.aG⟩;unfold nY;rw[ic B M];rfl
 rw[kO cK]at J;refine⟨vb ?_,u.aG⟩;unfold nY;rw[iD J];rfl
def C201(lv:Value)(xs:List cN)(nb:Bool)(w:World)(hL:DL w lv xs)(hn:xs.length<=1048576)(hz:∀t∈xs,Xh t/\t.dQ.length<=500/\t.body.length<=500):CR 201 [lv,.bool nb] w (λv w'=>v=.bool (nL nb xs)/\Ext w w'):=by
 have u:=St.start w;refine fg Tryz.func201 ?_;refine⟨λm x W=>∃k:Nat,x=hZ (k:Int)/\m=xs.length-k/\k<=xs.length/\(∀y∈xs.take k,mD nb y=false)/\St w aZ [] W,⟨_,0,rfl,rfl,l1 _,ei,u⟩,?_⟩;rintro m _ W ⟨k,rfl,rfl,hk,eG,u⟩ _;obtain⟨ts9,B,M⟩:=hL.open;have hn9:=M.1;refine aK fy (B.ext u.aG) (aR (aC (λgI=>?_) λgI=>?_))
 .obtain⟨Xk,I⟩:=gx ts9 (i:=(k:Int).toNat) cK;obtain⟨E,O⟩:=gx xs (i:=(k:Int).toNat) cK;obtain⟨EG,EH,rfl,O3,EI⟩:=M.2 _ _ _ I O;have G:=hz _ (kE O);refine⟨λjv w'=>jv=.bool (sq nb E)/\St w aZ [] w',aQ fy (B.ext u.aG) cK I (λ_ AN=>bW E.name qq AN rfl rfl λ_ Lz=>aD gw Lz (aV uy u (C211 _ _ G.1.1) λ_ he u=>rW KY (aY (λ_=>⟨vb (by unfold sq;grind),u⟩) λoB=>?_))),?_⟩
  .refine bR (aY (λm8=>?_) λ_=>aQ fy (B.ext u.aG) cK I λ_ acV=>bW E.at_ qt acV rfl rfl λ_ acW=>aD bM acW (aV Ro u (C199 _ _) λ_ _ u=>bR (aY (λ_=>⟨vb (by unfold sq;grind),u⟩) λ_=>aQ fy (B.ext u.aG) cK I λ_ acX=>bW EH lK acX rfl rfl λ_ acY=>aD jP acY (aV afI u (C253 _ _ _ (EI.ext u.aG) cK G.1.2.2) λ_ _ u=>bR ⟨vb (by unfold sq;grind),u⟩))));refine aQ fy (B.ext u.aG) cK I (λ_ uN=>bW E.name qq uN rfl rfl λ_ EJ=>aD gw EJ ?_)
   exact l9 (aC (λ_=>⟨vb (by unfold sq;grind),u⟩) λ_=>aQ fy (B.ext u.aG) cK I λ_ AR=>bW E.at_ qt AR rfl rfl λ_ xk=>aD bM xk (aV Ro u (C199 _ _) λ_ _ u=>bR (aY (λ_=>⟨vb (by unfold sq;grind),u⟩) λ_=>aQ fy (B.ext u.aG) cK I λ_ EK=>bW EH lK EK rfl rfl λ_ LH=>aD jP LH (aV afI u (C253 _ _ _ (EI.ext u.aG) cK G.1.2.2) λ_ _ u=>bR ⟨vb (by unfold sq;grind),u⟩))))
  rintro _ _ ⟨rfl,u⟩ _;refine aY (λLC=>?_) (λLC=>?_)
  .refine⟨vb ?_,u.aG⟩;unfold nL;rw[ic O (show mD nb E=true by unfold mD;rw[LC];rfl)];rfl
  refine⟨λm x W=>∃J:Nat,x=hZ (J:Int)/\m=E.dQ.length-J/\J<=E.dQ.length/\(∀s∈E.dQ.take J,(!gK s)=false)/\St w aZ [] W,⟨_,0,rfl,rfl,l1 _,ei,u⟩,?_⟩;rintro m _ _ ⟨J,rfl,rfl,xl,EL,u⟩ _;refine aQ fy (B.ext u.aG) cK I (λ_ Xe=>bW EG fS Xe rfl rfl λ_ AM=>aD jk AM ?_);have U:=DL.flat O3;refine aK iC (U.ext u.aG) (aR (aC (λHi=>?_) λ_=>aN cK ⟨_,cK,k+1,rfl,rfl,cK,dZ eG O (by unfold mD;rw[LC,iD (by rw[kO cK]at EL;exact EL)];rfl),u⟩))
  refine aQ fy (B.ext u.aG) cK I (λ_ LI=>bW EG fS LI rfl rfl λ_ EM=>aD jk EM ?_);obtain⟨Z,V⟩:=gx E.dQ (i:=(J:Int).toNat) cK;refine aQ iC (U.ext u.aG) cK V (λ_ aok=>aD gw aok (aV uy u (C211 _ _ (G.1.2.1 _ (kE V))) λ_ he u=>bR (aY (λY=>?_) λY=>aN cK ⟨_,cK,J+1,rfl,rfl,cK,dZ EL V Y,u⟩)));refine⟨vb ?_,u.aG⟩;unfold nL;rw[ic O (show mD nb E=true by unfold mD;rw[ic V Y];simp)];rfl
 rw[kO cK]at eG;refine⟨vb ?_,u.aG⟩;unfold nL;rw[iD eG];rfl
variable (w:World) (K:Value->hM)
def S236(G E:Value):Prop:=
 kK (λB u a=>∀_:Env,
 eT (λK2=>lN 9 G λb=>bA .lss 3 u b λc=>cV c (eP hH (u4 9 G u) λd=>kI hH E [d] a λe f=>K2 e f) (K2 ff a)) (λg h=>∀_:Env,
 cV g (bB .add 3 u (i 1) λj=>B j h) (K u h))) (λB=>B (i 0) w)
theorem acZ(B u:Value)(h:S236 w K B u):CR 236 [B,u] w K:=
 qm 20 (λ_=>.nil) 16 [.tmp 4] Tryz.func236 h
def S246(B G:Value):Prop:=
 cF 287 [B,G] w λa b=>lN 41 a λc=>oq (λu E d e=>∀_:Env,
 bA .lss 3 d c λf=>cV f (iA 41 a d λg=>lA 3 g e λh=>cF 246 [B,h] e λj k=>eP hH (Builtin.max_ #[3,3] 3 [E,j].toArray) λl=>bB .add 3 d (i 1) λn=>
 u l n k) (bB .add 3 E (i 1) λo=>K o e)) (λu=>u (i 0) (i 0) b)
theorem ac0(u B:Value)(h:S246 w K u B):CR 246 [u,B] w K:=
 qm 24 (λ_=>.nil) 16 [.tmp 4] Tryz.func246 h
def avx:dI:=λi=>match i with
 | 8=>(.of [(0,[]),(1,[]),(2,[]),(3,[]),(4,[]),(5,[]),(6,[]),(7,[]),(8,[]),(9,[]),(10,[]),(11,[4,9]),(12,[])])
 | _=>.nil
def S218(u E:Value):Prop:=
 qZ hH (Instr.box 91 E) w λB a=>cF 185 [u] a λb c=>eP hH (Op.unary .not b) λd=>cV d (K (.tuple #[(.slice none 0 0),(i 8)]) c) (cF 264 [u] c λe f=>
 cF 240 [e,(.func (Go.Fn.func 262) [].toArray [B].toArray)] f λg h=>cV g (K (.tuple #[(.slice none 0 0),(i 9)]) h) (lA 91 B h λj=>cF 265 [u,(i 0),j] h λk l=>
 K (.tuple #[k,(i 0)]) l))
theorem ac1(u B:Value)(h:S218 w K u B):CR 218 [u,B] w K:=
 qm 18 (λ_=>.nil) 48 [.tmp 4,.tmp 5] Tryz.func218 h
def S143(E B u:Value):Prop:=
 lN 91 B λa=>lN 41 u λb=>bA .neq 3 a b λc=>cV c (K (.tuple #[(i 0),(i 1)]) w) (cF 218 [E,B] w λd e=>xT d 0 λf=>xT d 1 λg=>bB .neq 31 g (i 0) λh=>
 cV h (K (.tuple #[(i 0),g]) e) (cF 219 [f,u] e λj k=>xT j 0 λl=>xT j 1 λn=>K (.tuple #[l,n]) k))
theorem ac2(u E B:Value)(h:S143 w K u E B):CR 143 [u,E,B] w K:=
 qm 29 (λ_=>.nil) 192 [.tmp 6,.tmp 7] Tryz.func143 h
theorem age:PL 234:=dK Tryz.func234
theorem aol:PL 238:=dK Tryz.func238
theorem aom:PL 236:=dK Tryz.func236
theorem aon:PL 237:=dK Tryz.func237
theorem aoo:PL 235:=dK Tryz.func235
theorem LK:PL 180:=dK Tryz.func180
theorem Xm:PL 286:=dK Tryz.func286
theorem aop:PL 243:=dK Tryz.func243
theorem aoq:PL 242:=dK Tryz.func242
theorem Xn:PL 245:=dK Tryz.func245
theorem aor:PL 287:=dK Tryz.func287
theorem agf:PL 246:=dK Tryz.func246
theorem R2:PL 185:=dK Tryz.func185
theorem aos:PL 264:=dK Tryz.func264
theorem agh:PL 265:=dK Tryz.func265
theorem aot:PL 218:=dK Tryz.func218
theorem aou:PL 262:=dK Tryz.func262
theorem agi:PL 143:=dK Tryz.func143
theorem aov:PL 244:=dK Tryz.func244
theorem aow:PL 285:=dK Tryz.func285
theorem agj:PL 240:=dK Tryz.func240
theorem aox:PL 281:=dK Tryz.func281
theorem agk:PL 263:=dK Tryz.func263
theorem Xo:PL 225:=dK Tryz.func225
end Go.Proofs.YtpdlpabnlkofmaaGreatDoor
namespace Go.Fw
open Go.MapKept (Stamped IsKey)
open Go.ChangeMaps (setBlock)
def mE(w:World)(b:Nat)(ks:List Int)(vs:List Value):Prop:=
 ∃es clock,w.heap[b]?=some (.map es clock)/\Stamped es clock/\es.toList.map (·.key)=ks.map (ni .i64)/\es.toList.map (·.val)=vs
def kY:List Int->Int->Option Nat
 | [],_=>none
 | x::xs,k=>if x=k then some 0 else(kY xs k).map (· + 1)
theorem ku:∀{ks:List Int}{k:Int}{j:Nat},kY ks k=some j->ks[j]?=some k
 | x::xs,k,j,h=>by
  unfold kY at h
  split at h
  .grind
  .cases hh:kY xs k with
   | none=>grind
   | some i=>rw[hh]at h;simp at h;subst h;simpa using ku hh
theorem mF:∀{ks:List Int}{k:Int},kY ks k=none↔k ∉ ks
 | [],_=>by simp[kY]
 | x::xs,k=>by
  unfold kY
  by_cases e:x=k
  .simp[e]
  .rw[ej e,Option.map_eq_none_iff,mF,sl]
   grind
theorem sy:∀{ks:List Int}{k:Int}{j:Nat},ks.Nodup->ks[j]?=some k->kY ks k=some j
 | x::xs,k,0,_,h=>by simp at h;simp[kY,h]
 | x::xs,k,j+1,hn,h=>by
  rw[List.getElem?_cons_succ]at h
  have u:=kE h
  have:x≠k:=λe=>(I4.1 hn).1 (e▸u)
  simp[kY,this,sy (I4.1 hn).2 h]
def look{β:Type}(ks:List Int)(vs:List β)(k:Int):Option β:=(kY ks k).bind (vs[·]?)
def pP{β:Type}(f:Int->β)(k:Int)(x:β):Int->β:=λj=>if j=k then x else f j
section
variable {P:Program}{w w0 w':World}{A:Nat->Prop}{L:List HP}{b:Nat}{ks:List Int}{vs:List Value}
theorem mE.of_eq(h:mE w b ks vs)(u:w'.heap[b]?=w.heap[b]?):mE w' b ks vs:=by
 grind[mE]
theorem mE.lt(h:mE w b ks vs):b<w.heap.size:=by obtain⟨es,c,h1,_⟩:=h;grind
theorem mE.ext(h:mE w b ks vs)(e:Ext w w'):mE w' b ks vs:=h.of_eq (e.bY b h.lt λh=>h)
theorem mE.len(h:mE w b ks vs):ks.length=vs.length:=by
 obtain⟨es,c,_,_,h3,h4⟩:=h
 have:=gO List.length h3;grind
theorem mE.nodup(h:mE w b ks vs):ks.Nodup:=by
 obtain⟨es,c,_,h2,h3,h4⟩:=h
 have:=h2.2.2
 grind
def LL(b:Nat)(ks:List Int)(vs:List Value):HP where
 p w F:=mE w b ks vs/\∀k,F k↔k=b
 loc w w' F h hh:=⟨h.1.of_eq (hh b ((h.2 b).2 rfl)),h.2⟩
 lt w F b' h hb:=by rw[(h.2 b').1 hb];exact h.1.lt
theorem T4{es:Array MapEntry}(h3:es.toList.map (·.key)=ks.map (ni .i64)):∀x∈es.toList,IsKey (.int .i64) x.key:=by
 intro x u
 have:x.key∈es.toList.map (·.key):=oj.2 ⟨x,u,rfl⟩
 rw[h3]at this
 obtain⟨k,_,e⟩:=oj.1 this
 rw[<- e];simp[IsKey]
theorem EO{T:TypeId}{k:Int}{es:Array MapEntry}(u:P.underlying T=some (.int .i64))(B:ks.Nodup)(h3:es.toList.map (·.key)=ks.map (ni .i64)) :
  (kY ks k=none/\(So T (hZ k) es.toList).run P w=.ok none w)\/∃j e,kY ks k=some j/\es.toList[j]?=some e/\e.key=hZ k/\(So T (hZ k) es.toList).run P w=.ok (some (j,e.val)) w:=by
 rcases MapKept.findNow_spec (d:=.int .i64) (k:=hZ k) (by simp[IsKey]) es.toList 0 (T4 h3)with⟨h1,h2⟩|⟨j,e,h1,h2,h4⟩
 .refine .inl ⟨mF.2 λE=>?_,MapKept.run_findKey u h1⟩
  have:ni .i64 k∈es.toList.map (·.key):=dD
  grind
 refine .inr ⟨j,e,sy B ?_,h2,h4,by rw[u1]at h1;exact MapKept.run_findKey u h1⟩
 have:(es.toList.map (·.key))[j]?=some (hZ k):=dD
 grind
theorem zD{T G E:TypeId}{z:Value}{k:Int}(h:mE w b ks vs)(ht:P.underlying T=some (.map G E))(I:P.underlying G=some (.int .i64))(u:ot P E z) :
  (x6 T (.map (some b)) (hZ k) false).run P w=.ok ((look ks vs k).getD z) w:=by
 have J:=h.nodup
 obtain⟨es,c,h1,h2,h3,h4⟩:=h
 have B:(zeroValue E).run P w=.ok z w:=by
  unfold ot ep at u
  cases hi:P.info? E with
  | none=>grind
  | some i=>
   rw[hi]at u
   simp only[Fh,oi.injEq]at u
   refine fY ?_ w
   unfold zeroValue;rw[cX,mq hi];simp only[mQ,u];rfl
 have hc:=MapKept.run_checkKey (P:=P) (w:=w) (kt:=G) (k:=hZ k) I (by simp[IsKey]) es.isEmpty 9999
 rcases EO (w:=w) (k:=k) I J h3 with⟨h5,h6⟩|⟨j,e,h5,h6,O,M⟩
 .simp[x6,run_underlying ht,MapKept.run_getObj_map h1,hc,h6,B,Result.andThen,look,h5]
 have:vs[j]?=some e.val:=dD
 simp[x6,run_underlying ht,MapKept.run_getObj_map h1,hc,M,Result.andThen,look,h5,this]
theorem kf(o:Obj)(hb:b<w.heap.size):(setBlock w b o).heap[b]?=some o:=by simp[setBlock,hb]
theorem gv.setBlock(w:World)(b:Nat)(o:Obj):gv (· = b) w (setBlock w b o):=
 ⟨rfl,rfl,rfl,by simp[ChangeMaps.setBlock],λk _ u=>by simp only[ChangeMaps.setBlock];grind⟩
theorem n6{es:Array MapEntry}{clock:Nat}{o:Obj}(h1:w.heap[b]?=some (.map es clock)):(setObj b o).run P w=.ok () (setBlock w b o):=by
 simp[setObj,Sem.run,h1,setBlock]
theorem ac3{T I E:TypeId}{v:Value}{k:Int}(h:mE w b ks vs)(ht:P.underlying T=some (.map I E))(M:P.underlying I=some (.int .i64)) :
  ∃w',(xg T (.map (some b)) (hZ k) v).run P w=.ok () w'/\gv (· = b) w w'/\
   (match kY ks k with|some j=>mE w' b ks (vs.set j v)|none=>mE w' b (ks++[k]) (vs++[v])):=by
 have W:=h.nodup
 have J:=h.lt
 obtain⟨es,c,h1,h2,h3,h4⟩:=h
 have hc:=MapKept.run_checkKey (P:=P) (w:=w) (kt:=I) (k:=hZ k) M (by simp[IsKey]) false 9999
 rcases EO (w:=w) (k:=k) M W h3 with⟨h5,h6⟩|⟨j,e,h5,h6,U,Y⟩
 .refine⟨_,?_,gv.setBlock w b (.map (es.push ⟨hZ k,v,c⟩) (c+1)),?_⟩
  .simp[xg,run_underlying ht,MapKept.run_getObj_map h1,hc,h6,n6 h1,Result.andThen]
  rw[h5]
  refine⟨_,_,kf _ J,MapKept.stamped_push h2 λx O e=>?_,by simp[h3],by simp[h4]⟩
  have:x.key∈es.toList.map (·.key):=oj.2 ⟨x,O,rfl⟩
  rw[h3,e]at this
  obtain⟨k',G,u⟩:=oj.1 this
  simp at u
  exact mF.1 h5 (u▸G)
 have V:es[j]?=some e:=dD
 have Z:(Nj e.key (hZ k)).run P w=.ok (hZ k) w:=by
  rw[U];unfold Nj;simp[Instr.sameBits]
 refine⟨_,?_,gv.setBlock w b (.map (es.modify j λe=>{e with key:=hZ k,val:=v}) c),?_⟩
 .simp[xg,run_underlying ht,MapKept.run_getObj_map h1,hc,Y,n6 h1,Result.andThen,V,Z]
 rw[h5]
 have G:∀u,es[j]?=some u->({u with key:=hZ k,val:=v}:MapEntry).key=u.key:=λu B=>by
  grind
 refine⟨_,_,kf _ J,MapKept.stamped_modify h2 j _ (λ_ _=>rfl) (λu _ B=>G u B),?_,?_⟩
 .rw[MapKept.modify_keys j _ G,h3]
 rw[<- h4]
 apply wM
 grind
theorem ac4{T u E R:TypeId}{I:Array TypeId}{k:Int}(h:mE w b ks vs)(G:I[0]?=some T)(ht:P.underlying T=some (.map u E))(M:P.underlying u=some (.int .i64)) :
  ∃w',(Builtin.delete_ I R [.map (some b),hZ k].toArray).run P w=.ok (.tuple #[]) w'/\gv (· = b) w w'/\
   (match kY ks k with|some j=>mE w' b (ks.eraseIdx j) (vs.eraseIdx j)|none=>mE w' b ks vs):=by
 have O:=h.nodup
 have J:=h.lt
 obtain⟨es,c,h1,h2,h3,h4⟩:=h
 have hc:=MapKept.run_checkKey (P:=P) (w:=w) (kt:=u) (k:=hZ k) M (by simp[IsKey]) es.isEmpty 9999
 rcases EO (w:=w) (k:=k) M O h3 with⟨h5,h6⟩|⟨j,e,h5,h6,V,U⟩
 .refine⟨_,?_,gv.setBlock w b (.map es c),?_⟩
  .simp[Builtin.delete_,G,run_underlying ht,MapKept.run_getObj_map h1,hc,h6,n6 h1,Result.andThen]
  rw[h5]
  exact⟨_,_,kf _ J,h2,h3,h4⟩
 have W:j<es.size:=dD
 refine⟨_,?_,gv.setBlock w b (.map (es.eraseIdxIfInBounds j) c),?_⟩
 .simp[Builtin.delete_,G,run_underlying ht,MapKept.run_getObj_map h1,hc,U,n6 h1,Result.andThen]
 rw[h5]
 have B:(es.eraseIdxIfInBounds j).toList=es.toList.eraseIdx j:=by
  simp_all
 refine⟨_,_,kf _ J,MapKept.stamped_erase h2 j,?_,?_⟩
 .rw[B,ChangeMaps.map_eraseIdx,h3,ChangeMaps.map_eraseIdx]
 rw[B,ChangeMaps.map_eraseIdx,h4]
theorem LM{T:TypeId}{K:Value->hM}(u:St w0 A L w)(k:∀b w',St w0 A (LL b [] []::L) w'->K (.map (some b)) w'):qZ P (Pv T none) w K:=
 ⟨_,_,rfl,k _ _ (u.new (Ext.push w (.map #[] 0)) (F:=λk=>k=w.heap.size) ⟨⟨#[],0,mn _ _,MapKept.stamped_empty 0,rfl,rfl⟩,λ_=>Iff.rfl⟩ λb hb=>by rw[hb];exact o6 _)⟩
theorem St.LN(u:St w0 A (LL b ks vs::L) w):mE w b ks vs:=by obtain⟨F,h,_⟩:=u.head;exact h.1
end
section
variable {α:Type}[Flat α] {P:Program}{w w0 w':World}{A:Nat->Prop}{L:List HP}{b:Nat}{f:Int->List α}
abbrev C4(s:SV)(x:List α):HP:=bH (ia s) x
def rf(b:Nat)(f:Int->List α):HP:=pK λks=>pK λu:List SV=>pK λB:List (List α)=>fact (f=λk=>(look ks B k).getD []) (sep (LL b ks (u.map ia)) (g9 C4 u B))
def vW(w:World)(b:Nat)(f:Int->List α):Prop:=∃ks,∃u:List SV,mE w b ks (u.map ia)/\(∀(i:Nat) (k:Int) (s:SV),ks[i]?=some k->u[i]?=some s->dC (λ_=>True) w (ia s) (f k))/\∀k,k ∉ ks->f k=[]
theorem vW.ext(h:vW w b f)(e:Ext w w'):vW w' b f:=by
 obtain⟨ks,u,h1,h2,h3⟩:=h;exact⟨ks,u,h1.ext e,λi k s a c=>(h2 i k s a c).ext e,h3⟩
theorem ql{β:Type}{ks:List Int}{xs:List β}{k:Int}{i:Nat}{x:β}(u:ks.Nodup)(h1:ks[i]?=some k)(h2:xs[i]?=some x):look ks xs k=some x:=by
 unfold look;rw[sy u h1];exact h2
theorem pQ{β:Type}{ks:List Int}{xs:List β}{k:Int}(h:k ∉ ks):look ks xs k=none:=by unfold look;rw[mF.2 h];rfl
theorem rf.rd{F:Nat->Prop}(h:(rf b f).p w F):vW w b f:=by
 obtain⟨ks,J,u,I,V,M,h1,h2,_,_⟩:=h
 refine⟨ks,J,h1.1,λi k s B E=>?_,λk B=>by rw[I];dsimp only;rw[pQ B];rfl⟩
 have U:=BR h2
 have hi:i<u.length:=by have:=(kp.1 E).1;omega
 have G:u[i]?=some u[i]:=kX hi
 have O:St w M [g9 C4 J u] w:=St.begin h2
 have:=O.ahV E G (Φ:=λw=>dC (λ_=>True) w (ia s) u[i]) λh=>(bH.rd h).mono λ_ _=>trivial
 rw[I];dsimp only
 rw[ql h1.1.nodup B G];exact this
theorem St.Xp(u:St w0 A (rf b f::L) w):vW w b f:=by obtain⟨F,h,_⟩:=u.head;exact rf.rd h
theorem vW.look{T G E:TypeId}{k:Int}(h:vW w b f)(ht:P.underlying T=some (.map G E))(M:P.underlying G=some (.int .i64))(O:ot P E (.slice none 0 0)) :
  ∃s:SV,(x6 T (.map (some b)) (hZ k) false).run P w=.ok (ia s) w/\dC (λ_=>True) w (ia s) (f k):=by
 obtain⟨ks,u,h1,h2,h3⟩:=h
 have I:=zD (P:=P) (k:=k) h1 ht M O
 cases vX:kY ks k with
 | none=>
  have:Fw.look ks (u.map ia) k=none:=by unfold Fw.look;grind
  rw[this]at I
  exact⟨bX,I,by rw[h3 k (mF.1 vX)];exact dC.nil _ _⟩
 | some j=>
  have V:=ku vX
  have U:=h1.len
  have B:j<u.length:=dD
  have J:u[j]?=some u[j]:=kX B
  have:Fw.look ks (u.map ia) k=some (ia u[j]):=by unfold Fw.look;grind
  grind
theorem vW.aoz{T G E:TypeId}{k:Int}(h:vW w0 b f)(ht:P.underlying T=some (.map G E))(M:P.underlying G=some (.int .i64))(O:ot P E (.slice none 0 0)) :
  ∃s:SV,(∀w,Ext w0 w->(x6 T (.map (some b)) (hZ k) false).run P w=.ok (ia s) w)/\dC (λ_=>True) w0 (ia s) (f k):=by
 obtain⟨ks,u,h1,h2,h3⟩:=h
 have I:∀w,Ext w0 w->_:=λw e=>zD (P:=P) (k:=k) (h1.ext e) ht M O
 cases vX:kY ks k with
 | none=>
  have:Fw.look ks (u.map ia) k=none:=by unfold Fw.look;grind
  rw[this]at I
  exact⟨bX,I,by rw[h3 k (mF.1 vX)];exact dC.nil _ _⟩
 | some j=>
  have V:=ku vX
  have U:=h1.len
  have B:j<u.length:=dD
  have J:u[j]?=some u[j]:=kX B
  have:Fw.look ks (u.map ia) k=some (ia u[j]):=by unfold Fw.look;grind
  grind
theorem Hj{T u E:TypeId}{k:Int}{K:Value->Prop}(h:vW w0 b f)(e:Ext w0 w)(ht:P.underlying T=some (.map u E))(B:P.underlying u=some (.int .i64))(I:ot P E (.slice none 0 0))
  (G:∀s:SV,dC (λ_=>True) w0 (ia s) (f k)->K (ia s)):Ke P (x6 T (.map (some b)) (hZ k) false) w K:=by
 obtain⟨s,h1,h2⟩:=h.aoz (P:=P) (k:=k) ht B I;exact⟨_,h1 w e,G s h2⟩
def LO(b:Nat)(f:Int->List α)(k:Int)(s:SV):HP:=pK λks=>pK λB:List SV=>pK λE:List (List α)=>pK λvs:List Value=>
 fact ((∀u,u≠k->f u=(look ks E u).getD [])/\look ks vs k=(kY ks k).map (λ_=>ia s)/\(kY ks k=none->s=bX)/\vs.length=B.length/\∀(i:Nat) (u:Int),ks[i]?=some u->u≠k->vs[i]?=(B[i]?).map ia) (sep (LL b ks vs) (g9 C4 B E))
theorem St.LP{k:Int}(u:St w0 A (rf b f::L) w):∃s:SV,St w0 A (bH (ia s) (f k)::LO b f k s::L) w:=by
 obtain⟨ks,u⟩:=u.eh;obtain⟨B,u⟩:=u.eh;obtain⟨E,u⟩:=u.eh;obtain⟨J,u⟩:=u.mz
 replace u:=u.split
 have V:=u.LN
 have W:=V.len
 have Dk:=u.p1.iZ
 have hn:=V.nodup
 rw[n0]at W
 cases vX:kY ks k with
 | none=>
  refine⟨bX,?_⟩
  have Z:look ks E k=none:=by unfold look;rw[vX];rfl
  have e:f k=[]:=by rw[J];dsimp only;rw[Z];rfl
  rw[e]
  refine(St.ek ks (St.ek B (St.ek E (St.ek (B.map ia) (St.oy ⟨λM _=>by rw[J],by unfold look;rw[vX];rfl,λ_=>rfl,by rw[n0],λi M _ _=>by rw[pd]⟩ (St.join u)))))).eL
 | some j=>
  have O:=ku vX
  have Y:=(kp.1 O).1
  have G:B[j]?=some (B[j]'(cK)):=kX _
  have I:E[j]?=some (E[j]'(cK)):=kX _
  refine⟨B[j]'(cK),?_⟩
  have e:f k=E[j]'(cK):=by rw[J];dsimp only;rw[ql hn O I];rfl
  rw[e]
  have h1:=(u.p1.focus G I).p1
  have h2:=(h1.eL (α:=α)).p1
  have h3:St w0 A (C4 (bX:SV) ([]:List α)::nI C4 B E j::_::_::L) w:=h2.p1
  have h4:=h3.Er cK Dk
  have h5:=h4.p2
  refine(St.ek ks (St.ek (B.set j bX) (St.ek (E.set j []) (St.ek (B.map ia) (St.oy ⟨λM U=>?_,by unfold look;rw[vX];simp[G],λh=>(by cases vX.symm.trans h),ei,λi M hi U=>?_⟩ (St.join h5)))))).p1
  .rw[J];dsimp only
   unfold look
   cases hq:kY ks M with
   | none=>rfl
   | some i=>
    have:j≠i:=λe=>U (by have:=ku hq;rw[<- e,O]at this;exact(oi.inj this).symm)
    simp[this]
  .rw[pd,F1]
   rintro rfl
   rw[O]at hi;exact U (oi.inj hi).symm
theorem St.B0{T B E:TypeId}{k:Int}{s:SV}(u:St w0 A (LO b f k s::L) w)(ht:P.underlying T=some (.map B E))(G:P.underlying B=some (.int .i64))(I:ot P E (.slice none 0 0)) :
  (x6 T (.map (some b)) (hZ k) false).run P w=.ok (ia s) w:=by
 obtain⟨ks,u⟩:=u.eh;obtain⟨J,u⟩:=u.eh;obtain⟨M,u⟩:=u.eh;obtain⟨vs,u⟩:=u.eh;obtain⟨⟨_,h2,h3,_⟩,u⟩:=u.mz
 have:=zD (P:=P) (k:=k) u.split.LN ht G I
 rw[h2]at this
 cases vX:kY ks k with
 | none=>rw[vX]at this;rw[h3 vX];exact this
 | some j=>rw[vX]at this;exact this
theorem St.Xq{k:Int}{s:SV}{xs:List α}(u:St w0 A (bH (ia s) xs::LO b f k s::L) w):St w0 A (rf b (pP f k xs)::L) w:=by
 replace u:=u.p1
 obtain⟨ks,u⟩:=u.eh;obtain⟨E,u⟩:=u.eh;obtain⟨I,u⟩:=u.eh;obtain⟨vs,u⟩:=u.eh;obtain⟨⟨Y,h2,h3,hvs,W⟩,u⟩:=u.mz
 replace u:=u.split
 have hm:=u.LN
 have hl:=hm.len
 have Z:=hm.nodup
 have Dk:=u.p1.iZ
 cases vX:kY ks k with
 | none=>
  have Oc:=mF.1 vX
  have G:vs=E.map ia:=wM λi=>by
   cases hi:ks[i]? with
   | none=>rw[A9]at hi;rw[m4 cK,m4 (by rw[n0];omega)]
   | some B=>rw[W i B hi (λe=>Oc (e▸kE hi)),pd]
  have hx:xs=[]:=by
   obtain⟨F,h,_⟩:=u.p2.head
   rw[h3 vX]at h
   rcases h with⟨_,h,_⟩|⟨b',cap,rest,h,_⟩
   .exact h
   .cases h
  subst hx
  refine St.ek ks (St.ek E (St.ek I (St.oy ?_ (St.join ?_))))
  .funext B
   unfold pP
   by_cases e:B=k
   .subst e;rw[ew rfl,pQ Oc];rfl
   .rw[ej e,Y B e]
  .rw[<- G];exact u.p2.drop
 | some j=>
  have U:=ku vX
  have hjk:=(kp.1 U).1
  have J:E[j]?=some (E[j]'(cK)):=kX _
  have V:I[j]?=some (I[j]'(cK)):=kX _
  have M:vs[j]?=some (ia s):=by unfold look at h2;rw[vX]at h2;exact h2
  have h6:=((u.p1.focus J V).drop).p2
  have h7:St w0 A (C4 s xs::nI C4 E I j::_::L) w:=h6.p0
  have h8:=h7.Er cK Dk
  refine St.ek ks (St.ek (E.set j s) (St.ek (I.set j xs) (St.oy ?_ (St.join ?_))))
  .funext B
   unfold pP
   by_cases e:B=k
   .subst e
    rw[ew rfl,ql Z U (x:=xs) (by rw[AY cK])];rfl
   .rw[ej e,Y B e]
    unfold look
    cases hq:kY ks B with
    | none=>rfl
    | some i=>
     have:j≠i:=λO=>e (by have:=ku hq;rw[<- O,U]at this;exact(oi.inj this).symm)
     simp[this]
  .have e:(E.set j s).map ia=vs:=by
    apply wM
    intro i
    rw[pd]
    by_cases e:j=i
    .subst e;rw[AY cK,M];rfl
    .rw[F1 e]
     cases hi:ks[i]? with
     | none=>rw[A9]at hi;rw[m4 (show vs.length<=i by omega),m4 (show E.length<=i by omega)];rfl
     | some B=>rw[W i B hi λO=>e (by rw[O]at hi;have h1:=sy Z hi;rw[vX]at h1;exact oi.inj h1)]
   rw[e];exact h8.p1
omit [Flat α]in
theorem T5{f:Int->List α}{k:Int}:pP f k (f k)=f:=by
 grind[pP]
theorem LQ{T Kt E:TypeId}{k:Int}{s s':SV}{xs:List α}{K:hM}(u:St w0 A (bH (ia s') xs::LO b f k s::L) w)(ht:P.underlying T=some (.map Kt E))(W:P.underlying Kt=some (.int .i64))
  (kk:∀w',St w0 A (rf b (pP f k xs)::L) w'->K w'):Vo P (xg T (.map (some b)) (hZ k) (ia s')) w K:=by
 replace u:=u.p1
 obtain⟨ks,u⟩:=u.eh;obtain⟨G,u⟩:=u.eh;obtain⟨I,u⟩:=u.eh;obtain⟨vs,u⟩:=u.eh;obtain⟨⟨hf,h2,h3,hvs,Xr⟩,u⟩:=u.mz
 replace u:=u.split
 have hm:=u.LN
 have hl:=hm.len
 have hn:=hm.nodup
 have Dk:=u.p1.iZ
 obtain⟨w',r1,r2,J⟩:=ac3 (P:=P) (v:=ia s') (k:=k) hm ht W
 refine⟨w',r1,kk w' ?_⟩
 cases vX:kY ks k with
 | none=>
  rw[vX]at J
  have h5:St w0 A (LL b (ks++[k]) (vs++[ia s'])::_::_::L) w':=u.rz λF V=>⟨F,⟨J,V.2⟩,λb hb=>.inl hb,r2.mono λk W=>(V.2 k).2 W⟩
  have Oc:=mF.1 vX
  have M:vs=G.map ia:=wM λi=>by
   cases hi:ks[i]? with
   | none=>rw[A9]at hi;rw[m4 cK,m4 (by rw[n0];omega)]
   | some B=>rw[Xr i B hi (λe=>Oc (e▸kE hi)),pd]
  have h6:=h5.p1
  have Y:St w0 A (g9 C4 (G++[s']) (I++[xs])::_::L) w':=St.Ep (H:=C4 (α:=α)) (p:=s') (x:=xs) h6.p2.p1
  refine St.ek (ks++[k]) (St.ek (G++[s']) (St.ek (I++[xs]) (St.oy ?_ (St.join ?_))))
  .funext B
   unfold pP
   by_cases e:B=k
   .subst e
    rw[ew rfl,ql (i:=ks.length) J.nodup ei (x:=xs) (by rw[List.getElem?_append_right cK];simp[show ks.length-I.length=0 from cK])];rfl
   .rw[ej e,hf B e]
    by_cases tj:B∈ks
    .obtain⟨i,hi,hik⟩:=Fe tj
     have U:ks[i]?=some B:=by rw[kX hi,hik]
     have O:I[i]?=some (I[i]'(cK)):=kX _
     rw[ql hn U O,ql (i:=i) J.nodup (by rw[ub hi];exact U) (by rw[ub cK];exact O)]
    .rw[pQ tj,pQ (by simp[tj,e])]
  .have e:(G++[s']).map ia=vs++[ia s']:=by rw[M,vA];rfl
   rw[e];exact Y.p1
 | some j=>
  rw[vX]at J
  have h5:St w0 A (LL b ks (vs.set j (ia s'))::_::_::L) w':=u.rz λF V=>⟨F,⟨J,V.2⟩,λb hb=>.inl hb,r2.mono λk W=>(V.2 k).2 W⟩
  have hj:=ku vX
  have hjk:=(kp.1 hj).1
  have Z:G[j]?=some (G[j]'(cK)):=kX _
  have hxj:I[j]?=some (I[j]'(cK)):=kX _
  have h6:=((h5.p1.focus Z hxj).drop).p2
  have Y:St w0 A (C4 s' xs::nI C4 G I j::_::L) w':=h6.p0
  have h8:=Y.Er cK Dk
  refine St.ek ks (St.ek (G.set j s') (St.ek (I.set j xs) (St.oy ?_ (St.join ?_))))
  .funext B
   unfold pP
   by_cases e:B=k
   .subst e
    rw[ew rfl,ql hn hj (x:=xs) (by rw[AY cK])];rfl
   .rw[ej e,hf B e]
    unfold look
    cases hq:kY ks B with
    | none=>rfl
    | some i=>
     have:j≠i:=λe'=>e (by have:=ku hq;rw[<- e',hj]at this;exact(oi.inj this).symm)
     simp[this]
  .have e:(G.set j s').map ia=vs.set j (ia s'):=by
    apply wM
    intro i
    rw[pd]
    by_cases e:j=i
    .subst e;rw[AY cK,AY cK];rfl
    .rw[F1 e,F1 e]
     cases hi:ks[i]? with
     | none=>rw[A9]at hi;rw[m4 (show vs.length<=i by omega),m4 (show G.length<=i by omega)];rfl
     | some B=>rw[Xr i B hi λe'=>e (by rw[e']at hi;have h1:=sy hn hi;rw[vX]at h1;exact oi.inj h1)]
   rw[e];exact h8.p1
theorem AW{T:TypeId}{K:Value->hM}(u:St w0 A L w)(k:∀b w',St w0 A (rf b (λ_=>([]:List α))::L) w'->K (.map (some b)) w'):qZ P (Pv T none) w K:=
 LM u λb w' h=>k b w' (St.ek [] (St.ek [] (St.ek ([]:List (List α)) (St.oy rfl (St.join ((h.new (Ext.refl w') (H:=g9 C4 [] []) (F:=aZ) (λ_ h=>h) λ_ h=>h.elim).p1))))))
theorem LR{T Kt E R:TypeId}{k:Int}{A2:Array TypeId}{K:Value->hM}(u:St w0 A (rf b f::L) w)(ha:A2[0]?=some T)(ht:P.underlying T=some (.map Kt E))(V:P.underlying Kt=some (.int .i64))
  (kk:∀v w',St w0 A (rf b (pP f k [])::L) w'->K v w'):qZ P (Builtin.delete_ A2 R [.map (some b),hZ k].toArray) w K:=by
 obtain⟨ks,u⟩:=u.eh;obtain⟨M,u⟩:=u.eh;obtain⟨O,u⟩:=u.eh;obtain⟨hf,u⟩:=u.mz
 replace u:=u.split
 have hm:=u.LN
 have hl:=hm.len
 have Dk:=u.p1.iZ
 have Y:=hm.nodup
 rw[n0]at hl
 obtain⟨w',r1,r2,I⟩:=ac4 (P:=P) (R:=R) (k:=k) hm ha ht V
 refine⟨_,w',r1,kk _ w' ?_⟩
 cases vX:kY ks k with
 | none=>
  rw[vX]at I
  have h5:St w0 A (LL b ks (M.map ia)::_::L) w':=u.rz λF U=>⟨F,⟨I,U.2⟩,λb hb=>.inl hb,r2.mono λk V=>(U.2 k).2 V⟩
  refine St.ek ks (St.ek M (St.ek O (St.oy ?_ (St.join h5))))
  funext k'
  unfold pP
  by_cases e:k'=k
  .subst e;rw[ew rfl];unfold look;rw[vX];rfl
  .rw[ej e,hf]
 | some j=>
  rw[vX]at I
  have hj:=ku vX
  have hjk:=(kp.1 hj).1
  have h5:St w0 A (LL b (ks.eraseIdx j) ((M.map ia).eraseIdx j)::_::L) w':=u.rz λF U=>⟨F,⟨I,U.2⟩,λb hb=>.inl hb,r2.mono λk V=>(U.2 k).2 V⟩
  have W:M[j]?=some (M[j]'(cK)):=kX _
  have hxj:O[j]?=some (O[j]'(cK)):=kX _
  have h6:=(h5.p1.focus W hxj).drop.TQ
  dsimp only at I
  rw[<- ChangeMaps.map_eraseIdx]at h6 I
  refine St.ek (ks.eraseIdx j) (St.ek (M.eraseIdx j) (St.ek (O.eraseIdx j) (St.oy ?_ (St.join h6.p1))))
  funext k'
  unfold pP
  by_cases e:k'=k
  .subst e
   rw[ew rfl,pQ];rfl
   intro Ky
   obtain⟨i,hi,B⟩:=Fe Ky
   rw[List.getElem_eraseIdx]at B
   split at B
   .have:=sy (j:=i) Y (k:=k') (by rw[<- B];exact kX _);rw[vX]at this;have:=oi.inj this;omega
   .have:=sy (j:=i+1) Y (k:=k') (by rw[<- B];exact kX _);rw[vX]at this;have:=oi.inj this;omega
  .rw[ej e,hf];dsimp only
   by_cases Z:k'∈ks
   .obtain⟨i,hi,B⟩:=Fe Z
    have G:ks[i]?=some k':=by rw[kX hi,B]
    have J:O[i]?=some (O[i]'(cK)):=kX _
    have hij:i≠j:=λe'=>e (by rw[e',hj]at G;exact(oi.inj G).symm)
    rw[ql Y G J]
    by_cases nP:i<j
    .rw[ql (i:=i) I.nodup (by rw[P0 nP];exact G) (by rw[P0 nP];exact J)]
    .rw[ql (i:=i-1) I.nodup (by rw[P1 cK,show i-1+1=i from cK];exact G) (by rw[P1 cK,show i-1+1=i from cK];exact J)]
   .rw[pQ Z,pQ λh=>Z ((List.eraseIdx_sublist ks j).subset h)]
end
section
variable {α:Type}[Flat α] {P:Program}{w w0 w':World}{A S:Nat->Prop}{L:List HP}{xs ys:List α}
theorem O4{T T2 E U b o dn dc:Nat}{z:Option Nat}{R:TypeId}{src:Value}{cs:List Value}(ht:eQ P T=some (E,mI α,U,z))(hb:mT w b cs)(u:dC S w src ys)
  (M:ys.length<=dn) (Y:o+ys.length*mI α<=cs.length) :
  ∃w',(Builtin.copy_ #[T,T2] R [.slice (some ⟨b,o,none⟩) dn dc,src].toArray).run P w=.ok (hZ ys.length) w'/\mT w' b (jj cs o (flat ys))/\gv (· = b) w w':=by
 obtain⟨J,V,hi,O,wJ,_⟩:=fp ht
 have I:=xY (α:=α) (P:=P) (sz:=mI α) rfl u
 have rd:=u
 obtain⟨W,Z,rfl,B,G⟩:=rd
 obtain⟨w',h1,h2,h3⟩:=mV (P:=P) (o:=o) (flat ys) 0 cs w hb (by rw[dA];omega) Ak
 refine⟨w',?_,cK,h3⟩
 simp[Builtin.copy_,run_underlying J,sizeOf,typeInfo,hi,Builtin.lenOf,Gt M,I,O,h1,goInt]
theorem LS{T T2 E kD:Nat}{z:Option Nat}{R:TypeId}{v src:Value}{K:Value->hM}(G:St w0 A (bH v xs::L) w)(ht:eQ P T=some (E,mI α,kD,z))(I:dC S w src ys)(B:ys.length<=xs.length)
  (k:∀w',St w0 A (bH v (ys++xs.drop ys.length)::L) w'->K (hZ ys.length) w'):qZ P (Builtin.copy_ #[T,T2] R [v,src].toArray) w K:=by
 obtain⟨U,F,U',g1,g2,g3,g4,g5⟩:=G.tW
 rcases g1 with⟨rfl,rfl,hF⟩|⟨b,cap,rest,rfl,hb,M,hF⟩
 .obtain rfl:ys=[]:=by simpa using B
  obtain⟨hu,inf,hi,oL,wJ,_⟩:=fp ht
  have V:=xY (α:=α) (P:=P) (sz:=mI α) rfl I
  obtain⟨sa,Gk,rfl,Z,hs3⟩:=I
  refine⟨_,w,?_,k w G⟩
  simp at V
  simp[Builtin.copy_,run_underlying hu,sizeOf,typeInfo,hi,Builtin.lenOf,oL,V,goInt]
 have Y:ys.length*mI α<=xs.length*mI α:=Nat.mul_le_mul_right _ B
 obtain⟨w',h1,h2,h3⟩:=O4 (P:=P) (o:=0) (dn:=xs.length) (dc:=cap) (T2:=T2) (R:=R) ht hb I B (by rw[la,dA];omega)
 refine⟨_,w',h1,k w' (G.rz λF' u=>?_)⟩
 rcases u with⟨h,_⟩|⟨b',CZ,J,O,hb',hl',u⟩
 .cases h
 simp only[Value.slice.injEq,oi.injEq,Addr.mk.injEq,and_true,true_and]at O
 obtain⟨rfl,rfl⟩:=O
 refine⟨F',.inr ⟨b,cap,rest,?_,?_,?_,u⟩,λb hb=>.inl hb,h3.mono λk hk=>(u k).2 hk⟩
 .congr 1;rw[la,qb];omega
 .have e:flat xs=[]++flat (xs.take ys.length)++flat (xs.drop ys.length):=by rw[List.nil_append,<- gG,qB]
  have:=mr [] (flat (xs.take ys.length)) (flat (xs.drop ys.length)++rest) (flat ys) (by rw[dA,dA,l0,Gt B])
  rw[List.length_nil]at this
  rw[e,n3,this]at h2
  rw[gG,n3];exact h2
 have W:(ys++xs.drop ys.length).length=xs.length:=by rw[la,qb];omega
 exact⟨by rw[W];exact M.1,by have:=M.2;rw[la,dA]at this |-;rw[W];exact this⟩
end
section
variable {P:Program}{w w0 w':World}{A:Nat->Prop}{L:List HP}{b r:Nat}
def Hk(r m since:Nat)(seen:Array Nat):HP where
 p w F:=w.heap[r]?=some (.mapIter (some m) since seen since)/\∀k,F k↔k=r
 loc w w' F h hh:=⟨(hh r ((h.2 r).2 rfl)).trans h.1,h.2⟩
 lt w F b' h hb:=dD
theorem T6{T u E:TypeId}{es:Array MapEntry}{clock:Nat}{K:Value->hM}(B:St w0 A L w)(ht:P.underlying T=some (.map u E))(hb:w.heap[b]?=some (.map es clock))
  (k:∀r w',St w0 A (Hk r b clock #[]::L) w'->K (.pointer (some ⟨r,0,none⟩)) w'):qZ P (Instr.range T (.map (some b))) w K:=
 ⟨_,_,run_range_map w T u E b es clock ht hb,k _ _ (B.new (Ext.push w _) (F:=λk=>k=w.heap.size) ⟨mn _ _,λ_=>Iff.rfl⟩ λb hb=>by rw[hb];exact o6 _)⟩
theorem Xs{T since:Nat}{seen:Array Nat}{es:Array MapEntry}{K:Value->hM}(u:St w0 A (Hk r b since seen::L) w)(hb:w.heap[b]?=some (.map es since))(hold:∀x∈es.toList,x.born<since)
  (O:(leftOf es seen).size=0->K (.tuple #[.bool false]) w)
  (I:∀e w',e∈(leftOf es seen).toList->St w0 A (Hk r b since (seen.push e.born)::L) w'->K (.tuple #[.bool true,e.key,e.val]) w'):qZ P (Instr.next (.pointer (some ⟨r,0,none⟩)) false T) w K:=by
 obtain⟨F,h,_⟩:=u.head
 rcases run_next_at (P:=P) w T r b since since seen es since h.1 hb hold (o6 _)with⟨h1,h2⟩|⟨e,J,E,G,h2⟩
 .exact⟨_,w,h2,O h1⟩
 have M:St w0 A (Hk r b since seen::L) E:=by
  rcases G with rfl|rfl
  .exact u
  .exact u.ext ⟨rfl,rfl,rfl,o6 _,λ_ _ _=>rfl⟩
 refine⟨_,_,h2,I e _ J (M.rz λF B=>⟨F,⟨kf _ (vi B.1),B.2⟩,λb hb=>.inl hb,(gv.setBlock E r _).mono λk U=>(B.2 k).2 U⟩)⟩
theorem T7{since:Nat}{seen:Array Nat}{es:Array MapEntry}{e:MapEntry}{K:Value->Prop}(E:St w0 A (Hk r b since (seen.push e.born)::L) w)(hb:w.heap[b]?=some (.map es since))(u:e∈es.toList)(B:(es.toList.map (·.born)).Nodup)
  (k:K (.tuple #[e.key,e.val])):Ke P (Instr.entry (.pointer (some ⟨r,0,none⟩))) w K:=by
 obtain⟨F,h,_⟩:=E.head
 exact⟨_,run_entry_at w r b since seen es since e h.1 hb u B,k⟩
theorem EP{o:Obj}(h:w.heap[b]?=some o)(e:Ext w w'):w'.heap[b]?=some o:=(e.bY b (vi h) λh=>h).trans h
theorem xm{seen:Array Nat}{x y:Nat}(h:(seen.push x).contains y=true):seen.contains y=true\/y=x:=by
 grind
theorem born_inj{es:Array MapEntry}(B:(es.toList.map (·.born)).Nodup){e u:MapEntry}(h:e∈es.toList)(E:u∈es.toList)(hb:e.born=u.born):e=u:=by
 obtain⟨i,hi,rfl⟩:=Fe h
 obtain⟨j,G,rfl⟩:=Fe E
 have:=(aaf (i:=i) (j:=j) (h₀:=by grind) (h₁:=by grind) B).1 dD
 grind
end
section
variable {P:Program}{w w0 w':World}{A:Nat->Prop}{L:List HP}{b r:Nat}
theorem bF{f:FuncId}{args:List Value}{H:HP}{H':Value->HP}{Φ:Value->hM}{K:Value->hM}(pl:Plain P f)(u:St w0 A (H::L) w)
  (hc:∀F,H.p w F->(∀w',gv F w w'->St w0 A L w')->Calls P f args.toArray w (tV λv w'=>Φ v w'/\mR F (H' v) w w')) (k:∀v w',Φ v w'->St w0 A (H' v::L) w'->K v w'):Cv P f args w K:=by
 obtain⟨U,F,J,h1,h2,h3,h4,h5⟩:=u.tW
 refine dO pl (hc F h1 λw' E=>⟨u.aG.trans E (λ_ h=>h) λb hb B=>(h2 b B).elim id λM=>cK,J,h5.loc λb hb=>E.bY b (h5.lt b hb) λB=>h3 b B hb⟩) λv w' ⟨I,G⟩=>k v w' I (u.WD h2 h3 h5 G)
theorem AX{g:FuncId}{args first cap:List Value}{H:HP}{H':Value->HP}{Φ:Value->hM}{K:Value->hM}(pl:Plain P g)(u:St w0 A (H::L) w)
  (hc:∀F,H.p w F->(∀w',gv F w w'->St w0 A L w')->Calls P g (first++args++cap).toArray w (tV λv w'=>Φ v w'/\mR F (H' v) w w')) (k:∀v w',Φ v w'->St w0 A (H' v::L) w'->K v w'):kI P (.func (.func g) first.toArray cap.toArray) args w K:=by
 obtain⟨U,F,J,h1,h2,h3,h4,h5⟩:=u.tW
 refine gV pl (hc F h1 λw' E=>⟨u.aG.trans E (λ_ h=>h) λb hb B=>(h2 b B).elim id λM=>cK,J,h5.loc λb hb=>E.bY b (h5.lt b hb) λB=>h3 b B hb⟩) λv w' ⟨I,G⟩=>k v w' I (u.WD h2 h3 h5 G)
end
def Has(H:HP)(w:World):Prop:=∃F,H.p w F
def St.has{w w0:World}{A:Nat->Prop}{L:List HP}{H:HP}(u:St w0 A (H::L) w):Has H w:=by obtain⟨F,h,_⟩:=u.head;exact⟨F,h⟩
theorem Has.ext{H:HP}{w w':World}(h:Has H w)(e:Ext w w'):Has H w':=by
 obtain⟨F,h⟩:=h;exact⟨F,H.loc _ _ _ h λb hb=>e.bY b (H.lt _ _ _ h hb) λx=>x⟩
def Has.st{H:HP}{w:World}(h:Has H w):∃F,St w F [H] w:=by obtain⟨F,h⟩:=h;exact⟨F,St.begin h⟩
abbrev SI:=ByteArray×Int
def R3(p:SI):Value×Value:=(.string p.1,hZ p.2)
def uP(w:World)(b:Nat)(l:List SI):Prop:=
 ∃es clock,w.heap[b]?=some (.map es clock)/\Stamped es clock/\(es.toList.map λe=>(e.key,e.val)).Perm (l.map R3)
def eH:List SI->ByteArray->Int
 | [],_=>0
 | p::r,k=>if p.1=k then p.2 else eH r k
theorem uQ:∀{l:List SI}{p:SI},(l.map (·.1)).Nodup->p∈l->eH l p.1=p.2
 | q::r,p,hn,hm=>by
  rw[List.map_cons,I4]at hn
  rcases sl.1 hm with rfl|hm
  .unfold eH;grind
  .have:q.1≠p.1:=λe=>hn.1 (oj.2 ⟨p,hm,e.symm⟩)
   unfold eH;rw[ej this];exact uQ hn.2 hm
theorem zF:∀{l:List SI}{k:ByteArray},(∀p∈l,p.1≠k)->eH l k=0
 | [],_,_=>rfl
 | q::r,k,h=>by
  unfold eH;rw[ej (h q (List.mem_cons_self ..))];exact zF λp u=>h p (List.mem_cons_of_mem _ u)
def O5{l:List SI}{k:ByteArray}(B:(l.map (·.1)).Nodup)(E:∀p∈l,p.2≠0)(h:eH l k=0):∀p∈l,p.1≠k:=λp u e=>by
 subst e;exact E p u ((uQ B u).symm.trans h)
section
variable {P:Program}{w w0 w':World}{A:Nat->Prop}{L:List HP}{b:Nat}{l:List SI}
theorem uP.of_eq(h:uP w b l)(u:w'.heap[b]?=w.heap[b]?):uP w' b l:=by
 grind[uP]
theorem uP.lt(h:uP w b l):b<w.heap.size:=by obtain⟨es,c,h1,_⟩:=h;grind
theorem uP.nodup(h:uP w b l):(l.map (·.1)).Nodup:=by
 obtain⟨es,c,_,h2,h3⟩:=h
 have h4:=(h3.map Prod.fst)
 rw[I7,I7]at h4
 have h5:(l.map λp=>F0 p.1).Nodup:=h4.nodup_iff.1 h2.2.2
 grind
theorem uP.perm{u:List SI}(h:uP w b l)(B:l.Perm u):uP w b u:=by
 obtain⟨es,c,h1,h2,h3⟩:=h;exact⟨es,c,h1,h2,h3.trans (B.map _)⟩
def nq(b:Nat)(l:List SI):HP where
 p w F:=uP w b l/\∀k,F k↔k=b
 loc w w' F h hh:=⟨h.1.of_eq (hh b ((h.2 b).2 rfl)),h.2⟩
 lt w F b' h hb:=by rw[(h.2 b').1 hb];exact h.1.lt
theorem Xt{es:Array MapEntry}(h3:(es.toList.map λe=>(e.key,e.val)).Perm (l.map R3)){e:MapEntry}(u:e∈es.toList):∃p∈l,e.key=.string p.1/\e.val=hZ p.2:=by
 have:(e.key,e.val)∈l.map R3:=h3.mem_iff.1 (oj.2 ⟨e,u,rfl⟩)
 obtain⟨p,E,B⟩:=oj.1 this
 unfold R3 at B
 grind
theorem Xu{es:Array MapEntry}(h3:(es.toList.map λe=>(e.key,e.val)).Perm (l.map R3)){p:SI}(u:p∈l):∃e∈es.toList,e.key=.string p.1/\e.val=hZ p.2:=by
 have:R3 p∈es.toList.map λe=>(e.key,e.val):=h3.mem_iff.2 (oj.2 ⟨p,u,rfl⟩)
 obtain⟨e,E,B⟩:=oj.1 this
 unfold R3 at B
 grind
theorem Hl{T:TypeId}{k:ByteArray}{es:Array MapEntry}(E:P.underlying T=some .string)(h3:(es.toList.map λe=>(e.key,e.val)).Perm (l.map R3)) :
  ((∀p∈l,p.1≠k)/\(So T (.string k) es.toList).run P w=.ok none w)\/∃j p,p∈l/\p.1=k/\(So T (.string k) es.toList).run P w=.ok (some (j,hZ p.2)) w:=by
 rcases MapKept.findNow_spec (d:=.string) (k:=.string k) (by simp[IsKey]) es.toList 0 (λx G=>by obtain⟨p,_,e,_⟩:=Xt h3 G;rw[e];simp[IsKey])with⟨h1,h2⟩|⟨j,e,h1,h2,h4⟩
 .refine .inl ⟨λp B e=>?_,MapKept.run_findKey E h1⟩
  obtain⟨x,G,u,_⟩:=Xu h3 B
  grind
 obtain⟨p,B,u,I⟩:=Xt h3 (kE h2)
 rw[h4]at u;injection u with u
 refine .inr ⟨j,p,B,u.symm,?_⟩
 rw[u1,I]at h1
 exact MapKept.run_findKey E h1
theorem LU{T G E:TypeId}{k:ByteArray}(h:uP w b l)(ht:P.underlying T=some (.map G E))(I:P.underlying G=some .string)(u:ot P E (hZ 0)) :
  (x6 T (.map (some b)) (.string k) false).run P w=.ok (hZ (eH l k)) w:=by
 have M:=h.nodup
 obtain⟨es,c,h1,h2,h3⟩:=h
 have B:(zeroValue E).run P w=.ok (hZ 0) w:=by
  unfold ot ep at u
  cases hi:P.info? E with
  | none=>grind
  | some i=>
   rw[hi]at u
   simp only[Fh,oi.injEq]at u
   refine fY ?_ w
   unfold zeroValue;rw[cX,mq hi];simp only[mQ,u];rfl
 have hc:=MapKept.run_checkKey (P:=P) (w:=w) (kt:=G) (k:=.string k) I (by simp[IsKey]) es.isEmpty 9999
 rcases Hl (w:=w) (k:=k) I h3 with⟨h5,h6⟩|⟨j,p,h5,h6,J⟩
 .simp[x6,run_underlying ht,MapKept.run_getObj_map h1,hc,h6,B,Result.andThen,zF h5]
 subst h6
 simp[x6,run_underlying ht,MapKept.run_getObj_map h1,hc,J,Result.andThen,uQ M h5]
theorem LV{T u E:TypeId}{v:Int}{k:ByteArray}(h:uP w b l)(ht:P.underlying T=some (.map u E))(B:P.underlying u=some .string)(O:∀p∈l,p.1≠k) :
  ∃w',(xg T (.map (some b)) (.string k) (hZ v)).run P w=.ok () w'/\gv (· = b) w w'/\uP w' b (l++[(k,v)]):=by
 have I:=h.lt
 obtain⟨es,c,h1,h2,h3⟩:=h
 have hc:=MapKept.run_checkKey (P:=P) (w:=w) (kt:=u) (k:=.string k) B (by simp[IsKey]) false 9999
 rcases Hl (w:=w) (k:=k) B h3 with⟨h5,h6⟩|⟨j,p,h5,h6,J⟩
 .refine⟨_,?_,gv.setBlock w b (.map (es.push ⟨.string k,hZ v,c⟩) (c+1)),?_⟩
  .simp[xg,run_underlying ht,MapKept.run_getObj_map h1,hc,h6,n6 h1,Result.andThen]
  refine⟨_,_,kf _ I,MapKept.stamped_push h2 λx G e=>?_,?_⟩
  .obtain⟨p,U,M,_⟩:=Xt h3 G
   grind
  rw[Y5,vA,vA]
  exact h3.append (List.Perm.refl _)
 grind
theorem LW{T:TypeId}{K:Value->hM}(u:St w0 A L w)(k:∀b w',St w0 A (nq b []::L) w'->K (.map (some b)) w'):qZ P (Pv T none) w K:=
 ⟨_,_,rfl,k _ _ (u.new (Ext.push w (.map #[] 0)) (F:=λk=>k=w.heap.size) ⟨⟨#[],0,mn _ _,⟨ei,ei,ei⟩,ei⟩,λ_=>Iff.rfl⟩ λb hb=>by rw[hb];exact o6 _)⟩
theorem St.nq(u:St w0 A (nq b l::L) w):uP w b l:=by obtain⟨F,h,_⟩:=u.head;exact h.1
theorem yi{T u E:TypeId}{k:ByteArray}{K:Value->Prop}(h:uP w b l)(ht:P.underlying T=some (.map u E))(B:P.underlying u=some .string)(G:ot P E (hZ 0))(I:K (hZ (eH l k))):Ke P (x6 T (.map (some b)) (.string k) false) w K:=
 ⟨_,LU h ht B G,I⟩
theorem LX{T G E:TypeId}{v:Int}{k:ByteArray}{K:hM}(B:St w0 A (Fw.nq b l::L) w)(ht:P.underlying T=some (.map G E))(u:P.underlying G=some .string)(J:∀p∈l,p.1≠k)
  (M:∀w',St w0 A (Fw.nq b (l++[(k,v)])::L) w'->K w'):Vo P (xg T (.map (some b)) (.string k) (hZ v)) w K:=by
 obtain⟨w',h1,h2,h3⟩:=LV (P:=P) (v:=v) (k:=k) B.nq ht u J
 exact⟨w',h1,M w' (B.rz λF I=>⟨F,⟨h3,I.2⟩,λb hb=>.inl hb,h2.mono λk u=>(I.2 k).2 u⟩)⟩
theorem key_inj{es:Array MapEntry}(B:(es.toList.map (·.key)).Nodup){e u:MapEntry}(h:e∈es.toList)(E:u∈es.toList)(hb:e.key=u.key):e=u:=by
 obtain⟨i,hi,rfl⟩:=Fe h
 obtain⟨j,G,rfl⟩:=Fe E
 have:=(aaf (i:=i) (j:=j) (h₀:=by grind) (h₁:=by grind) B).1 dD
 grind
theorem Xv{l:List SI}(u:(l.map (·.1)).Nodup){p q:SI}(E:p∈l)(B:q∈l)(h:p.1=q.1):p=q:=by
 have h1:=uQ u E
 have h2:=uQ u B
 grind
end
open Go.MapKept (IsKey)
section
variable {P:Program}{w w':World}{b:Nat}{l:List ByteArray}
def I8(w:World)(b:Nat)(l:List ByteArray):Prop:=
 ∃es clock,w.heap[b]?=some (.map es clock)/\(es.toList.map λe=>(e.key,e.val))=l.map λs=>(F0 s,wX true)
theorem LY{T J E:TypeId}{k:ByteArray}(h:I8 w b l)(ht:P.underlying T=some (.map J E))(M:P.underlying J=some .string)(B:ot P E (.bool false)) :
  (x6 T (.map (some b)) (.string k) false).run P w=.ok (.bool (l.any λy=>decide (y=k))) w:=by
 obtain⟨es,c,h1,h2⟩:=h
 have I:(zeroValue E).run P w=.ok (.bool false) w:=by
  unfold ot ep at B
  cases hi:P.info? E with
  | none=>grind
  | some i=>
   rw[hi]at B
   simp only[Fh,oi.injEq]at B
   refine fY ?_ w
   unfold zeroValue;rw[cX,mq hi];simp only[mQ,B];rfl
 have hc:=MapKept.run_checkKey (P:=P) (w:=w) (kt:=J) (k:=.string k) M (by simp[IsKey]) es.isEmpty 9999
 have mem:∀e∈es.toList,∃s∈l,e.key=.string s/\e.val=.bool true:=λe O=>by
  have:(e.key,e.val)∈l.map λs=>(F0 s,wX true):=dD
  grind
 rcases MapKept.findNow_spec (d:=.string) (k:=.string k) (by simp[IsKey]) es.toList 0 (λx U=>by obtain⟨p,_,e,_⟩:=mem x U;rw[e];simp[IsKey])with⟨h3,h4⟩|⟨j,e,h3,h4,h5⟩
 .have:(l.any λy=>decide (y=k))=false:=by
   rw[AK]
   intro s G
   have:(F0 s,wX true)∈es.toList.map λe=>(e.key,e.val):=by rw[h2];exact oj.2 ⟨s,G,rfl⟩
   obtain⟨e,O,u⟩:=oj.1 this
   simp only[Prod.mk.injEq]at u
   intro h
   exact h4 e O (by rw[u.1,gP h])
  rw[this]
  simp[x6,run_underlying ht,MapKept.run_getObj_map h1,hc,MapKept.run_findKey M h3,I,Result.andThen]
 obtain⟨s,G,u,V⟩:=mem e (kE h4)
 rw[h5]at u;injection u with u
 have:(l.any λy=>decide (y=k))=true:=xo.2 ⟨s,G,ez u.symm⟩
 rw[this]
 rw[u1,V]at h3
 simp[x6,run_underlying ht,MapKept.run_getObj_map h1,hc,MapKept.run_findKey M h3,Result.andThen]
theorem LZ{T u E:TypeId}{k:ByteArray}{K:Value->Prop}(h:I8 w b l)(ht:P.underlying T=some (.map u E))(B:P.underlying u=some .string)(G:ot P E (.bool false))(I:K (.bool (l.any λy=>decide (y=k)))):Ke P (x6 T (.map (some b)) (.string k) false) w K:=
 ⟨_,LY h ht B G,I⟩
end
section
variable {P:Program}{w w0 w':World}{A:Nat->Prop}{L:List HP}{b:Nat}{l:List ByteArray}
theorem I8.lt(h:I8 w b l):b<w.heap.size:=by obtain⟨es,c,h1,_⟩:=h;grind
def O6(b:Nat)(l:List ByteArray):HP where
 p w F:=I8 w b l/\∀k,F k↔k=b
 loc w w' F h hh:=⟨by grind[I8],h.2⟩
 lt w F b' h hb:=by rw[(h.2 b').1 hb];exact h.1.lt
theorem Xw{T:TypeId}{K:Value->hM}(u:St w0 A L w)(k:∀b w',St w0 A (O6 b []::L) w'->K (.map (some b)) w'):qZ P (Pv T none) w K:=
 ⟨_,_,rfl,k _ _ (u.new (Ext.push w (.map #[] 0)) (F:=λk=>k=w.heap.size) ⟨⟨#[],0,mn _ _,rfl⟩,λ_=>Iff.rfl⟩ λb hb=>by rw[hb];exact o6 _)⟩
theorem Xx{T J E:TypeId}{k:ByteArray}{K:hM}(B:St w0 A (O6 b l::L) w)(ht:P.underlying T=some (.map J E))(G:P.underlying J=some .string)(V:∀s∈l,s≠k)
  (Y:∀w',St w0 A (O6 b (l++[k])::L) w'->K w'):Vo P (xg T (.map (some b)) (.string k) (.bool true)) w K:=by
 have I:∃w',(xg T (.map (some b)) (.string k) (.bool true)).run P w=.ok () w'/\gv (· = b) w w'/\I8 w' b (l++[k]):=by
  obtain⟨F,h,_⟩:=B.head
  have W:=h.1.lt
  obtain⟨es,c,h1,h2⟩:=h.1
  have mem:∀e∈es.toList,∃s∈l,e.key=.string s:=λe U=>by
   have:(e.key,e.val)∈l.map λs=>(F0 s,wX true):=by rw[<- h2];exact oj.2 ⟨e,U,rfl⟩
   obtain⟨s,B,u⟩:=oj.1 this
   simp only[Prod.mk.injEq]at u
   exact⟨s,B,u.1.symm⟩
  have hc:=MapKept.run_checkKey (P:=P) (w:=w) (kt:=J) (k:=.string k) G (by simp[IsKey]) false 9999
  rcases MapKept.findNow_spec (d:=.string) (k:=.string k) (by simp[IsKey]) es.toList 0 (λx O=>by obtain⟨p,_,e⟩:=mem x O;rw[e];simp[IsKey])with⟨h3,h4⟩|⟨j,e,h3,h4,h5⟩
  .have h6:=MapKept.run_findKey (P:=P) (w:=w) G h3
   refine⟨_,?_,gv.setBlock w b (.map (es.push ⟨.string k,.bool true,c⟩) (c+1)),_,_,kf _ W,?_⟩
   .simp[xg,run_underlying ht,MapKept.run_getObj_map h1,hc,h6,n6 h1,Result.andThen]
   .rw[Y5,vA,vA,h2];rfl
  .obtain⟨s,B,u⟩:=mem e (kE h4)
   rw[h5]at u;injection u with u
   exact absurd u.symm (V s B)
 obtain⟨w',h1,h2,h3⟩:=I
 exact⟨w',h1,Y w' (B.rz λF M=>⟨F,⟨h3,M.2⟩,λb hb=>.inl hb,h2.mono λk G=>(M.2 k).2 G⟩)⟩
theorem St.O6(u:St w0 A (Fw.O6 b l::L) w):I8 w b l:=by obtain⟨F,h,_⟩:=u.head;exact h.1
theorem L3{f : FuncId}{u : Func}{e : Array Value -> Sem Value}{args : List Value}{v : Value}{K : Value -> World -> Prop}(E : P.funcs[f]?=some u)(hb : (u.name == "runtime.NumGoroutine")=false /\ u.body.isNone=true /\ Extern.findNext u=none)(B : Extern.find u=some e)
  (G:pr P (e args.toArray)=some v) (k:K v w):Cv P f args w K:=by
 refine⟨.inr ⟨v,w,?_,k⟩⟩
 show(match P.funcs[f]? with|none=>_|some u=>_:Sem Next).run P w=_
 rw[E]
 simp only[hb.1,hb.2.1,hb.2.2,B]
 have:=fY G w
 simp_all
theorem O7{T:Nat}{s:ByteArray}{i:Int}{K:Value->Prop}(u:P.underlying T=some .string)(B:0<=i)(h1:i<=s.size)(k:K (.string (s.extract i.toNat s.size))):eP P (n4 T (.string s) (some (hZ i)) none none) K:=by
 refine⟨_,?_,k⟩
 unfold n4
 rw[cX,cZ u]
 simp only[mQ]
 unfold Instr.slice
 rw[cX,cZ u]
 simp only[mQ]
 rw[ej ee]
 have hb:pr P (v7 false s.size s.size (some (hZ i)) none none)=some (i.toNat,s.size,s.size):=by
  simp only[v7,cX,fR,mQ]
  rw[jn B cK];rfl
 rw[cX,hb];rfl
theorem I9(s:ByteArray)(i j:Nat):iQ (s.extract i j)=((iQ s).drop i).take (j-i):=by
 simp_all[iQ]
theorem R4{s t:ByteArray}(h:iQ s=iQ t):s=t:=by
 cases s;cases t
 exact gO kh (Array.toList_inj.1 h)
def Gr:List UInt8->UInt8->Option Nat
 | [],_=>none
 | x::r,c=>if x=c then some 0 else(Gr r c).map (· + 1)
def ER(l:List UInt8)(c:UInt8):Int:=match Gr l c with|some k=>(k:Int)|none=>-1
theorem Hm(l:List UInt8)(c:UInt8)(g:Nat->Bool):∀(r:List UInt8) (o:Nat),(∀j x,r[j]?=some x->g (o+j)=(x == c))->(List.range' o r.length).find? g=(Gr r c).map (o + ·)
 | [],o,h=>rfl
 | x::r,o,h=>by
  have u:=h 0 x rfl
  rw[List.length_cons,List.range'_succ,List.find?_cons,show g o=(x == c)from u]
  unfold Gr
  by_cases e:x=c
  .grind
  .rw[ej e,show(x == c)=false from beq_eq_false_iff_ne.2 e]
   show List.find? g _=_
   rw[Hm l c g r (o+1) λj x B=>by rw[show o+1+j=o+(j+1)from cK];simp_all]
   rw[Option.map_map]
   congr 1;grind
theorem aif(s:ByteArray)(c:UInt8):pr P (Extern.BytealgIndexByte.indexByte #[.string s,.int .u8 (c.toNat:Int)])=some (hZ (ER (iQ s) c)):=by
 have u:Extern.BytealgIndexByte.indexByte #[.string s,.int .u8 (c.toNat:Int)]=(do let b <- Extern.Bytes.bytesOf (.string s);let d <- Extern.Bytes.asByte (.int .u8 (c.toNat:Int));match (u3 b.size).find? λi=>b[i]! == d with|some i=>pure (goInt i)|none=>pure (goInt (-1))):=rfl
 have hc:(Extern.Bytes.asByte (.int .u8 (c.toNat:Int)))=pure c:=by
  show pure ((c.toNat:Int).toNat.toUInt8)=_
  simp_all
 have hb:(Extern.Bytes.bytesOf (.string s))=pure s:=rfl
 have B:(u3 s.size).find? (λi=>s[i]! == c)=Gr (iQ s) c:=by
  have:=Hm (iQ s) c (λi=>s[i]! == c) (iQ s) 0 λj x E=>by
   rw[RN]at E
   grind
  rw[eY]at this
  rw[List.range_eq_range',this]
  simp_all
 rw[u]
 simp only[hc,hb,cX,fR,mQ,B]
 unfold ER
 cases Gr (iQ s) c<;>rfl
theorem Xy(l:List UInt8)(c:UInt8):0<=ER l c↔l.any (λb=>decide (b=c))=true:=by
 unfold ER
 induction l with
 | nil=>exact⟨λh=>absurd (show(0:Int)<=-1 from h) ee,λh=>by cases h⟩
 | cons x r u=>
  rw[List.any_cons]
  unfold Gr
  by_cases e:x=c
  .rw[ew e,ez e];exact⟨λ_=>rfl,λ_=>by show(0:Int)<=((0:Nat):Int);omega⟩
  .rw[ej e,fN e,Bool.false_or,<- u]
   cases Gr r c with
   | none=>exact Iff.rfl
   | some k=>exact⟨λ_=>by show(0:Int)<=(k:Int);omega,λ_=>by show(0:Int)<=((k+1:Nat):Int);omega⟩
end
end Go.Fw
namespace Go.Proofs.YtpdlpabnlkofmaaGreatDoor
open Go.Fw
variable (w:World) (K:Value->hM)
def S335(M J Z I:Value):Prop:=
 bB .eql 3 I (i 0) λa=>cV a (K (.slice none 0 0) w) (eP hH (kj .eql 9 false true J (Go.Value.string (kh (#[])))) λb=>cV b (cF 338 [M,I] w λc d=>
 K c d) (eT (λW=>bB .lss 3 I (i 0) λe=>cV e (cF 339 [M,J] w λf g=>bB .add 3 f (i 1) λh=>W h g) (W I w)) (λV j=>∀_:Env,
 lN 9 M λk=>bB .add 3 k (i 1) λl=>eP hH (Builtin.min_ #[3,3] 3 [V,l].toArray) λn=>qZ hH (Instr.makeSlice 91 n n) j λo p=>bB .sub 3 n (i 1) λq=>
 GM (λK2=>oq (λO G B r=>∀_:Env,
 bA .lss 3 B q λs=>cV s (cF 337 [G,J] r λt u=>bB .lss 3 t (i 0) λv=>cV v (K2 G B u) (bA .add 3 t Z λx=>eP hH (n4 9 G none (some x) none) λy=>
 iA 91 o B λz=>sA 9 z y u λaa=>lN 9 J λY=>bA .add 3 t Y λac=>eP hH (n4 9 G (some ac) none none) λad=>bB .add 3 B (i 1) λae=>O ad ae aa)) (
 K2 G B r)) λO=>O M (i 0) p) (λU E af=>∀_:Env,
 iA 91 o E λag=>sA 9 ag U af λah=>bB .add 3 E (i 1) λai=>eP hH (n4 91 o none (some ai) none) λaj=>K aj ah))))
theorem ac6(E u G B:Value)(h:S335 w K E u G B):CR 335 [E,u,G,B] w K:=
 qm 66 (λ_=>.nil) 256 [.tmp 8] Tryz.func335 h
theorem aoA:PL 280:=dK Tryz.func280
theorem aoB:PL 308:=dK Tryz.func308
theorem aoC:PL 335:=dK Tryz.func335
theorem aoD:PL 339:=dK Tryz.func339
theorem agp:PL 337:=dK Tryz.func337
theorem aoE:PL 344:=dK Tryz.func344
end Go.Proofs.YtpdlpabnlkofmaaGreatDoor
namespace Go.Proofs.YtpdlpabnlkofmaaGreatDoor
open Go.Fw
def C344(s:ByteArray)(c:UInt8)(w:World):CR 344 [.string s,.int .u8 (c.toNat:Int)] w (λv w'=>v=hZ (ER (iQ s) c)/\Ext w w'):=by
 have u:=St.start w;refine fg Tryz.func344 ?_;exact L3 Tryz.func349 ⟨by kernel_rfl,by kernel_rfl,by kernel_rfl⟩ (by kernel_rfl) (aif s c) ⟨rfl,u.aG⟩
def Ja(c:UInt8):ByteArray:=⟨#[c]⟩
def C340(s:ByteArray)(c:UInt8)(w:World):CR 340 [.string s,.string (Ja c)] w (λv w'=>v=hZ (ER (iQ s) c)/\Ext w w'):=by
 have u:=St.start w;refine fg Tryz.func340 ?_;refine fk il ?_;refine⟨λB w'=>B=.bool (decide (Ja c=s))/\w'=w,?_,?_⟩
 .exact aH (aC (λh=>absurd (show(1:Int)=0 from h) ee) λ_=>jI ⟨rfl,rfl⟩)
 rintro _ _ ⟨rfl,rfl⟩ _;refine aC (λh=>?_) (λ_=>?_)
 .subst h;exact⟨gO (ni .i64) (show(0:Int)=ER [c] c by unfold ER Gr;rw[ew rfl];rfl),u.aG⟩
 exact aH (aC (λ_=>jW (s:=Ja c) (e:=c) il ee rfl (aV aoE u (C344 s c _) λ_ _ u=>⟨rfl,u.aG⟩)) λh=>absurd (show(1:Int)=1 from rfl) h)
def C337(s:ByteArray)(c:UInt8)(w:World):CR 337 [.string s,.string (Ja c)] w (λv w'=>v=hZ (ER (iQ s) c)/\Ext w w'):=by
 have u:=St.start w;refine fg Tryz.func337 ?_;exact aV ⟨_,Tryz.func340,by kernel_rfl,by kernel_rfl⟩ u (C340 s c _) (λ_ _ u=>⟨rfl,u.aG⟩)
def kwT:ByteArray:=⟨#[108,105,110,101,32,118,111,108,32,108,111,99,107,32,116,104,114,101,97,100,32,114,101,103,32,108,111,97,100,32,115,116,111,114,101,32,99,97,115,32,102,108,117,115,104,32,111,112,116,32,115,102,101,110,99,101,32,109,102,101,110,99,101,32,116,97,107,101,32,103,105,118,101,32,105,102,32,101,108,115,101,32,108,111,111,112,32,98,114,101,97,107,32,99,104,101,99,107,32,114,101,99,111,118,101,114,32,97,108,119,97,121,115]⟩
def kwl:List UInt8:=iQ kwT
def kwo(k:Nat):Nat:=(jT.take k).foldl (λn x=>n+x.size+1) 0
def T8(k:Nat):ByteArray:=kwT.extract (kwo k) kwT.size
def z7(k:Nat):ByteArray:=jT.getD k ⟨#[]⟩
def aoF(k:Nat):Bool:=decide (Gr (kwl.drop (kwo k)) 32=some (z7 k).size)&&(decide ((kwl.drop (kwo k)).take (z7 k).size=iQ (z7 k))&&(decide (kwo (k+1)=kwo k+((z7 k).size+1))&&decide (kwo k+(z7 k).size+1<=kwl.length)))
def ac7:(u3 20).all aoF=true:=by decide +kernel
theorem L4(k:Nat):iQ (T8 k)=kwl.drop (kwo k):=by
 unfold T8 kwl
 rw[I9]
 exact kO (by rw[qb,eY];omega)
def aii(k:Nat)(h:k<20):ER (iQ (T8 k)) 32=(z7 k).size/\(z7 k).size+1<=(T8 k).size/\(T8 k).extract 0 (z7 k).size=z7 k/\(T8 k).extract ((z7 k).size+1) (T8 k).size=T8 (k+1):=by
 have:=List.all_eq_true.1 ac7 k (Lx.2 h)
 unfold aoF at this
 simp only[ob,decide_eq_true_eq]at this
 obtain⟨h1,h2,h3,h4⟩:=this
 have u:(T8 k).size=kwl.length-kwo k:=by rw[<- eY,L4,qb]
 refine⟨by rw[L4];unfold ER;rw[h1],cK,R4 ?_,R4 ?_⟩
 .rw[I9,L4,P6,Nat.sub_zero];exact h2
 rw[I9,L4,L4,sZ,h3]
 exact kO dD
def kwB(k:Nat):(z7 k).size<=100:=by
 by_cases h:k<21
 .exact(by decide +kernel:∀k,k<21->(z7 k).size<=100) k h
 unfold z7;rw[og,m4 (show jT.length<=k from Nat.le_of_not_lt h)];decide
def aoG:∀k,k<21->∀s∈jT.take k,s≠z7 k:=by decide +kernel
theorem XA{k:Nat}(h:k<21):jT[k]?=some (z7 k):=by simp_all[jT,z7]
theorem aij{k:Nat}(h:k<21):(jT.take k++r6 (21-k) (⟨#[]⟩:ByteArray)).set k (z7 k)=(jT.take (k+1)++r6 (21-(k+1)) (⟨#[]⟩:ByteArray)):=by
 have u:(jT.take k).length=k:=by rw[l0];exact Gt (Zg h)
 rw[List.set_append_right _ _ cK,u,Nat.sub_self,show 21-k=(21-(k+1))+1 from cK,List.replicate_succ,List.set_cons_zero,ta,XA h,n3]
 rfl
theorem Jb{k:Nat}(h:k<21):(jT.take k++r6 (21-k) (⟨#[]⟩:ByteArray)).length=21:=by
 rw[la,l0,List.length_replicate,Gt (show k<=jT.length from Zg h)];omega
def C339(w:World):CR 339 [.string kwT,.string (Ja 32)] w (λv w'=>v=hZ 20/\Ext w w'):=by
 have u:=St.start w;refine fg Tryz.func339 ?_;exact fk il (aH (aC (λh=>absurd (show(1:Int)=0 from h) ee) λ_=>fk il (aH (aC (λ_=>jW (s:=Ja 32) (e:=32) il ee rfl (L3 (e:=Extern.BytealgCount.count) (v:=hZ 20) Tryz.func343 ⟨by kernel_rfl,by kernel_rfl,by kernel_rfl⟩ (by kernel_rfl) (by kernel_rfl) ⟨rfl,u.aG⟩)) λh=>absurd (show(1:Int)=1 from rfl) h))))
def C335(w:World):CR 335 [.string kwT,.string (Ja 32),hZ 0,hZ (-1)] w (λv w'=>lh (bH v jT) w w'):=by
 have u:=St.start w;refine ac6 _ _ _ _ _ _ ?_;unfold S335;refine aH (aC (λh=>absurd h ee) λ_=>jI (aC (λh=>absurd h ee) λ_=>?_));refine⟨λJ w'=>J=hZ 21/\St w aZ [] w',?_,?_⟩
 .exact aR (aC (λ_=>aV aoD u (C339 _) λ_ _ u=>aN ee ⟨rfl,u⟩) λh=>absurd ee h)
 rintro _ _ ⟨rfl,u⟩ _;refine fk il (aN ee (rB ?_));rw[show min (21:Int) ((kwT.size:Int)+1)=21 from ee];refine wL (⟨#[]⟩:ByteArray) u iC afQ ee ee ee (λB _ u=>fh ee ?_);refine⟨λs y w'=>s=.string (T8 20)/\y=hZ 20/\St w aZ [bH B (jT.take 20++r6 (21-20) (⟨#[]⟩:ByteArray))] w',?_,?_⟩
 .refine⟨λG s y w'=>∃k:Nat,s=.string (T8 k)/\y=hZ (k:Int)/\G=20-k/\k<=20/\St w aZ [bH B (jT.take k++r6 (21-k) (⟨#[]⟩:ByteArray))] w',⟨_,0,gO F0 ee,rfl,rfl,l1 _,u⟩,?_⟩;rintro G _ _ _ ⟨k,rfl,rfl,rfl,Y,u⟩ _;refine aR (aC (λO=>?_) λO=>?_);rotate_left
  .obtain rfl:k=20:=cK
   exact⟨rfl,rfl,u⟩
  obtain⟨U,V,M,I⟩:=aii k cK;refine aV agp u (C337 (T8 k) 32 _) (λ_ W u=>?_);rw[U];refine aR (aC (λh=>absurd h cK) λ_=>aN (show -9223372036854775808<=((z7 k).size:Int)+0/\((z7 k).size:Int)+0<=9223372036854775807 by have:=kwB k;omega) (nW il cK cK ?_));rw[show(((z7 k).size:Int)+0).toNat=(z7 k).size from cK,M];refine dR u iC cK (by rw[Jb cK];omega) (λq E=>ju (z7 k) u gw E (by rw[Jb cK];omega) λ_ u=>?_);rw[qa,aij cK]at u;refine fk il (aN (show -9223372036854775808<=((z7 k).size:Int)+1/\((z7 k).size:Int)+1<=9223372036854775807 by have:=kwB k;omega) (O7 il (show(0:Int)<=((z7 k).size:Int)+1 by omega) (show((z7 k).size:Int)+1<=_ by omega) ?_))
  rw[show((z7 k).size:Int)+(((Ja 32).size:Nat):Int)=((z7 k).size:Int)+1 from rfl,show(((z7 k).size:Int)+1).toNat=(z7 k).size+1 from cK,I];exact aN cK ⟨_,cK,k+1,rfl,rfl,rfl,cK,u⟩
 rintro _ _ _ ⟨rfl,rfl,u⟩ _;exact dR u iC ee (by rw[Jb ee];decide) (λ_ E=>ju (T8 20) u gw E (by rw[Jb ee];decide) λ_ u=>aN ee (sg iC u ee ee λ_ u=>u.fresh))
def C308(w:World):CR 308 [.string kwT,.string (Ja 32)] w (λv w'=>lh (bH v jT) w w'):=by
 have u:=St.start w;refine fg Tryz.func308 ?_;exact dY aoC u (C335 _) (λ_ _ _ u=>u.fresh)
def C280(w:World):CR 280 [] w (λv w'=>∃b,v=.map (some b)/\I8 w' b jT/\Ext w w'):=by
 have u:=St.start w;refine fg Tryz.func280 ?_;refine Xw u (λb _ u=>dY aoB u (C308 _) λJ _ M u=>aK iC u.dX ?_);refine⟨λE y w'=>∃k:Nat,y=hZ (k:Int)/\E=21-k/\k<=21/\St w aZ [O6 b (jT.take k),bH J jT] w',⟨_,0,rfl,rfl,l1 _,u.p1⟩,?_⟩;rintro E _ _ ⟨k,rfl,rfl,O,u⟩ _;refine aR (aC (λB=>?_) λB=>?_);rotate_left
 .obtain rfl:k=21:=by have h:¬ (k:Int)<21:=B;omega
  exact⟨b,rfl,u.O6,u.aG⟩
 have G:k<21:=by have h:(k:Int)<21:=B;omega
 refine aQ iC u.p1.dX cK (XA (show((k:Nat):Int).toNat<21 by omega)) (λq I=>aD gw I ?_);rw[qa];refine Xx u Tryz.underlying329 il (aoG k G) (λ_ u=>aN cK ?_);refine⟨_,cK,k+1,rfl,rfl,cK,?_⟩;rw[ta,XA G];exact u
def FnU(w:World)(f:Value)(g:UInt8->Bool):Prop:=∃u first cap,f=.func (.func u) (O8 first) (O8 cap)/\Plain hH u/\
 ∀(c:UInt8) B,Ext w B->Calls hH u (first++[ni .u8 c.toNat]++cap).toArray B (tV λv E=>v=.bool (g c)/\Ext B E)
def ac8{g:UInt8->Bool}{l:List UInt8}{k:Nat}(B:∀y∈l.take k,g y=true)(u:k<=l.length)(h:(match l[k]? with|some c=>g c|none=>false)=false):k=l.length↔l.all g=true:=by
 grind
def xn(s:ByteArray):Bool:=decide (s.size<1\/16<s.size)||(match (iQ s)[0]? with|some c=>!gA c.toNat|none=>true)||jT.any (λy=>decide (y=s))
def XB{s:ByteArray}(h:xn s=false):s.size<=1048576:=by
 unfold xn at h
 grind
def XC{s:ByteArray}(h:xn s=true):gK s=false:=by
 show(!(xn s)&&_)=false
 rw[h];rfl
def XD{s:ByteArray}{n:Nat}(h:xn s=false)(u:n=(iQ s).length↔(iQ s).all (λc=>gA c.toNat||kq c.toNat)=true):decide ((n:Int)=(s.size:Int))=gK s:=by
 show _=(!(xn s)&&!(iQ s).any λc=>!gA c.toNat&&!kq c.toNat)
 rw[h,Bool.not_false,yU,<- eY]
 grind
theorem aik{s:ByteArray}(h:s.size=0):s=kh #[]:=by
 cases s with
 | mk a=>cases a with
  | mk l=>cases l with
   | nil=>rfl
   | cons x r=>simp[abv]at h
def C234(c:Int)(w:World):CR 234 [.int .u8 c] w (λv w'=>v=.bool (gA c)/\Ext w w'):=by
 have u:=St.start w;refine fg Tryz.func234 ?_;refine⟨λB w'=>B=.bool (decide (97<=c/\c<=122\/c=95))/\w=w',AG (aC (λ_=>AF (aC (λ_=>⟨N7 cK,rfl⟩) λ_=>nH ⟨yF cK,rfl⟩)) λ_=>nH ⟨yF cK,rfl⟩),?_⟩;rintro _ _ ⟨rfl,E⟩ _;subst E;exact⟨rfl,u.aG⟩
def C238(c:Int)(w:World):CR 238 [.int .u8 c] w (λv w'=>v=.bool (kq c)/\Ext w w'):=by
 have u:=St.start w;refine fg Tryz.func238 ?_;refine⟨λB w'=>B=.bool (decide (48<=c/\c<=57))/\w=w',AG (aC (λ_=>AF ⟨yF cK,rfl⟩) λ_=>⟨jvF cK,rfl⟩),?_⟩;rintro _ _ ⟨rfl,E⟩ _;subst E;exact⟨rfl,u.aG⟩
def C237(c:Int)(w:World):CR 237 [.int .u8 c] w (λv w'=>v=.bool (gA c||kq c)/\Ext w w'):=by
 have u:=St.start w;refine fg Tryz.func237 ?_;refine⟨λB w'=>B=.bool (gA c||kq c)/\St w aZ [] w',aV age u (C234 _ _) (λ_ _ u=>aY (λ_=>⟨vb dD,u⟩) λ_=>aV aol u (C238 _ _) λ_ _ u=>⟨vb dD,u⟩),?_⟩;rintro _ _ ⟨rfl,u⟩ _;exact⟨rfl,u.aG⟩
def C236(s:ByteArray)(fv:Value)(g:UInt8->Bool)(w:World)(W:FnU w fv g)(hn:s.size<=1048576):CR 236 [.string s,fv] w (λv w'=>∃n:Nat,v=hZ (n:Int)/\(n=(iQ s).length↔(iQ s).all g=true)/\Ext w w'):=by
 obtain⟨g0,first,cap,rfl,Y,V⟩:=W;have u:=St.start w;refine acZ _ _ _ _ ?_;unfold S236;refine⟨λm x I=>∃k:Nat,x=hZ (k:Int)/\m=(iQ s).length-k/\k<=(iQ s).length/\(∀y∈(iQ s).take k,g y=true)/\St w aZ [] I,⟨_,0,rfl,rfl,l1 _,ei,u⟩,?_⟩;rintro m _ I ⟨k,rfl,rfl,Z,J,u⟩ _;have Hc:=eY s;refine⟨λO w'=>O=.bool (match (iQ s)[k]? with|some c=>g c|none=>false)/\St w aZ [] w',fk il (aR (aC (λjJ=>?_) λ_=>⟨vb dD,u⟩)),?_⟩
 .obtain⟨M,E⟩:∃G,(iQ s)[(k:Int).toNat]?=some G:=⟨_,kX (by rw[eY];omega)⟩;refine jW il cK E (gV Y (V M _ u.aG) ?_);rintro _ _ ⟨rfl,U⟩;have u:=u.ext U;exact⟨vb dD,u⟩
 rintro _ _ ⟨rfl,u⟩ _;refine aY (λB=>?_) (λB=>⟨k,rfl,ac8 J Z (by simpa using B),u.aG⟩);obtain⟨M,E⟩:∃G,(iQ s)[k]?=some G:=by cases h:(iQ s)[k]? with|none=>rw[h]at B;cases B|some x=>exact⟨x,rfl⟩
 have Rh:=(kp.1 E).1;exact aN cK ⟨_,cK,k+1,rfl,rfl,cK,dZ J E dD,u⟩
def C235(s:ByteArray)(w:World):CR 235 [.string s] w (λv w'=>v=.bool (jT.any λy=>decide (y=s))/\Ext w w'):=by
 have u:=St.start w;refine fg Tryz.func235 ?_;refine dO aoA (C280 _) ?_;rintro _ _ ⟨G,rfl,E,B⟩;have u:=u.ext B;exact LZ E Tryz.underlying329 Tryz.underlying9 Wk ⟨rfl,u.aG⟩
def C180(s:ByteArray)(w:World):CR 180 [.string s] w (λv w'=>v=.bool (gK s)/\Ext w w'):=by
 have u:=St.start w;refine fg Tryz.func180 ?_;refine⟨λM w'=>M=.bool (xn s)/\St w aZ [] w',jI (aC (λG=>?_) λG=>?_),?_⟩
 .have Z:s.size=0:=by rw[G];rfl
  exact⟨vb (by unfold xn;grind),u⟩
 .have Z:s.size≠0:=λh=>G (aik h);refine fk il (cO (aC (λ_=>⟨vb (by unfold xn;grind),u⟩) λgE=>?_));obtain⟨J,I⟩:∃V,(iQ s)[(0:Int).toNat]?=some V:=⟨_,kX (by rw[eY];omega)⟩;refine jW il cK I ?_;have W:(iQ s)[0]?=some J:=I;have Y:¬ (s.size<1\/16<s.size):=cK
  exact aV age u (C234 _ _) (λ_ _ u=>bR (aY (λ_=>⟨vb (by unfold xn;grind),u⟩) λ_=>aV aoo u (C235 _ _) λ_ _ u=>⟨vb (by unfold xn;grind),u⟩))
 rintro _ _ ⟨rfl,u⟩ _;refine aY (λB=>⟨vb (XC B).symm,u.aG⟩) (λB=>dO aom (C236 s _ (λc=>gA c.toNat||kq c.toNat) _ ⟨237,[],[],rfl,aon,λ_ U _=>C237 _ U⟩ (XB (by simpa using B))) ?_);rintro _ _ ⟨nr,rfl,E,O⟩;have u:=u.ext O;exact fk il (aH ⟨vb (XD (by simpa using B) E),u.aG⟩)
def T9(xs:List cA)(i:Int)(n:Nat):Int:=if n=0 then i else if i<0 then -1 else C2 xs.length (skip n (xs.drop i.toNat))
def ac9(xs:List cA)(i:Int):T9 xs i 1=qy xs i:=by unfold T9 qy;omega
theorem XF(xs:List cA)(i:Int):T9 xs i 0=i:=rfl
theorem ada{xs:List cA}{i:Int}{n:Nat}(u:0<n)(h:i<0\/(xs.length:Int)<=i):T9 xs i n = -1:=by
 unfold T9
 rw[ej cK]
 split
 .rfl
 rw[vF cK]
 cases n with
 | zero=>omega
 | succ n=>rfl
theorem adb{xs:List cA}{i:Int}{n:Nat}{x:cA}(I:0<n)(G:0<=i)(E:xs[i.toNat]?=some x)(J:kids x.op<0):T9 xs i n = -1:=by
 unfold T9
 obtain⟨B,u⟩:=kp.1 E
 rw[ej cK,ej cK,tx B,u]
 cases n with
 | zero=>omega
 | succ n=>
  grind[C2,skip]
theorem XG{xs:List cA}{i:Int}{n m:Nat}{x:cA}(J:0<n)(I:0<=i)(E:xs[i.toNat]?=some x)(M:0<=kids x.op)(G:(m:Int)=n+kids x.op-1):T9 xs i n=T9 xs (i+1) m:=by
 obtain⟨B,u⟩:=kp.1 E
 have h1:T9 xs i n=C2 xs.length (skip m (xs.drop (i+1).toNat)):=by
  unfold T9
  rw[ej cK,ej cK,tx B,u,show(i+1).toNat=i.toNat+1 from cK]
  cases n with
  | zero=>omega
  | succ n=>
   grind[C2,skip]
 rw[h1]
 grind[C2,skip,T9]
def XH(i:Int)(ks:List Ex)(k:Nat):List Int:=(u3 k).map λj=>i+1+(qz ks j:Int)
theorem XI(i:Int)(ks:List Ex)(k:Nat):XH i ks (k+1)=XH i ks k++[i+1+(qz ks k:Int)]:=by
 unfold XH;rw[List.range_succ,vA];rfl
theorem R5(i:Int)(ks:List Ex)(k:Nat):(XH i ks k).length=k:=by simp[XH]
def ade{i:Int}{ks:List Ex}{n k:Nat}{e:Int}(h:(XH i ks n)[k]?=some e):e=i+1+(qz ks k:Int)/\k<n:=by
 unfold XH at h
 grind
def C286(k:Int)(w:World):CR 286 [hZ k] w (λv w'=>v=hZ (kids k)/\Ext w w'):=by
 have E:=St.start w;refine fg Tryz.func286 ?_;refine⟨λu w'=>u=.bool (decide (k=1\/k=2))/\w=w',aH (aC (λ_=>⟨N7 cK,rfl⟩) λ_=>aH ⟨yF cK,rfl⟩),?_⟩;rintro _ _ ⟨rfl,B⟩ _;subst B;refine aC (λI=>?_) (λI=>⟨λu w'=>u=.bool (decide (k=3\/k=4))/\w=w',aH (aC (λ_=>⟨N7 cK,rfl⟩) λ_=>aH ⟨yF cK,rfl⟩),?_⟩)
 .unfold kids;exact⟨gO (ni .i64) dD,E.aG⟩
 rintro _ _ ⟨rfl,B⟩ _;subst B;refine aC (λJ=>?_) (λJ=>⟨λu w'=>u=.bool (decide (5<=k/\k<=15))/\w=w',cR (aC (λ_=>iE ⟨yF cK,rfl⟩) λ_=>⟨jvF cK,rfl⟩),?_⟩)
 .unfold kids;exact⟨gO (ni .i64) dD,E.aG⟩
 rintro _ _ ⟨rfl,B⟩ _;subst B;refine aC (λG=>?_) (λG=>?_)
 .unfold kids;exact⟨gO (ni .i64) dD,E.aG⟩
 unfold kids;exact⟨gO (ni .i64) dD,E.aG⟩
def C243(x:cA)(w:World):CR 243 [ia x] w (λv w'=>v=.bool (!lj x)/\Ext w w'):=by
 have u:=St.start w;refine fg Tryz.func243 ?_;refine cI u (λE _ u=>⟨λB w'=>B=.bool (decide (x.at_<0\/4000<x.at_))/\St w aZ [bY E (j0 x)] w',aA r8 (aB (v:=hZ x.at_) bM u.hb rfl (aR (aC (λ_=>⟨vb dD,u⟩) λ_=>aA r8 (aB (v:=hZ x.at_) bM u.hb rfl (cO ⟨vb dD,u⟩))))),?_⟩);rintro _ _ ⟨rfl,u⟩ _;refine aY (λG=>?_) (λG=>?_)
 .refine⟨vb ?_,u.drop.aG⟩;unfold lj
  grind
 refine aA fa (aB (v:=hZ x.op) bM u.hb rfl (aH (aC (λJ=>⟨λB w'=>B=.bool (decide (0<=x.n/\x.n<=4294967296/\x.name=⟨#[]⟩))/\St w aZ [bY E (j0 x)] w',aA jo (aB (v:=hZ x.n) bM u.hb rfl (cR (aC (λ_=>aA jo (aB (v:=hZ x.n) bM u.hb rfl (iE (aC (λ_=>aA gk (aB (v:=.string x.name) gw u.hb rfl (jI ⟨vb dD,u⟩))) λ_=>⟨vb dD,u⟩)))) λ_=>⟨vb dD,u⟩))),?_⟩) λJ=>?_)))
 .rintro _ _ ⟨rfl,u⟩ _;refine⟨vb ?_,u.drop.aG⟩;unfold lj
  grind
 refine aA fa (aB (v:=hZ x.op) bM u.hb rfl (aH (aC (λI=>⟨λB w'=>B=.bool (decide (x.n=0)&&gK x.name)/\St w aZ [bY E (j0 x)] w',aA jo (aB (v:=hZ x.n) bM u.hb rfl (aH (aC (λ_=>aA gk (aB (v:=.string x.name) gw u.hb rfl (aV LK u (C180 _ _) λ_ _ u=>⟨vb dD,u⟩))) λ_=>⟨vb dD,u⟩))),?_⟩) λI=>?_)))
 .rintro _ _ ⟨rfl,u⟩ _;refine⟨vb ?_,u.drop.aG⟩;unfold lj
  grind
 refine⟨λB w'=>B=.bool (decide (x.n=0/\x.name=⟨#[]⟩))/\St w aZ [bY E (j0 x)] w',aA jo (aB (v:=hZ x.n) bM u.hb rfl (aH (aC (λ_=>aA gk (aB (v:=.string x.name) gw u.hb rfl (jI ⟨vb dD,u⟩))) λ_=>⟨vb dD,u⟩))),?_⟩;rintro _ _ ⟨rfl,u⟩ _;refine⟨vb ?_,u.drop.aG⟩;unfold lj
 grind
def C242(x:cA)(w:World):CR 242 [ia x] w (λv w'=>v=.bool (lj x)/\Ext w w'):=by
 have u:=St.start w;refine fg Tryz.func242 ?_;exact cI u (λ_ _ u=>aD r7 u.At (aV aop u (C243 _ _) λ_ _ u=>bR ⟨vb ei,u.drop.aG⟩))
def C285(sv fv:Value)(xs:List cA)(g:cA->Bool)(w:World)(J:dC (λ_=>True) w sv xs)(V:wk w fv g)(hn:xs.length<=1073741824):CR 285 [sv,fv] w (λv w'=>v=hZ (sm g xs)/\Ext w w'):=by
 obtain⟨Z,first,cap,rfl,W,U⟩:=V;have u:=St.start w;refine fg Tryz.func285 ?_;refine aK gX (J.ext u.aG) ?_;refine⟨λm x G=>∃k:Nat,x=hZ (k:Int)/\m=xs.length-k/\k<=xs.length/\(∀y∈xs.take k,g y=false)/\St w aZ [] G,⟨_,0,rfl,rfl,l1 _,ei,u⟩,?_⟩;rintro m _ G ⟨k,rfl,rfl,hk,B,u⟩ _;refine aR (aC (λjJ=>?_) λ_=>⟨gO (ni .i64) (jh (by rw[kO cK]at B;exact B)).symm,u.aG⟩);obtain⟨Y,I⟩:=gx xs (i:=(k:Int).toNat) cK;refine aQ gX J cK I (λ_ M=>aD r7 (M.ext u.aG) (gV W (U Y G u.aG) ?_))
 rintro _ _ ⟨rfl,O⟩;have u:=u.ext O;exact aY (λE=>⟨gO (ni .i64) (me B I E).symm,u.aG⟩) (λE=>aN cK ⟨xs.length-(k+1),cK,k+1,rfl,rfl,cK,dZ B I E,u⟩)
def C244(sv fv:Value)(xs:List cA)(g:cA->Bool)(w:World)(E:dC (λ_=>True) w sv xs)(B:wk w fv g)(G:xs.length<=1073741824):CR 244 [sv,fv] w (λv w'=>v=.bool (xs.any g)/\Ext w w'):=by
 have u:=St.start w;refine fg Tryz.func244 ?_;exact aV aow u (C285 _ _ _ _ _ (E.ext u.aG) (B.ext u.aG) cK) (λ_ _ u=>cR ⟨vb (kU _ _),u.aG⟩)
def C245(lv:Value)(xs:List cA)(i:Int)(w:World)(I:dC (λ_=>True) w lv xs)(hn:xs.length<=1048576):CR 245 [lv,hZ i] w (λv w'=>v=hZ (qy xs i)/\Ext w w'):=by
 have u:=St.start w;refine fg Tryz.func245 ?_;refine⟨λm x y M=>∃(a:Int) (n:Nat),x=hZ a/\y=hZ (n:Int)/\m=xs.length-a.toNat/\n<=1+a.toNat/\T9 xs a n=qy xs i/\St w aZ [] M,⟨_,i,1,rfl,rfl,rfl,cK,ac9 _ _,u⟩,?_⟩;rintro m _ _ M ⟨a,n,rfl,rfl,rfl,W,G,u⟩ _;refine cO (aC (λV=>⟨λY w'=>Y=.bool (decide (a<0\/(xs.length:Int)<=a)||(match xs[a.toNat]? with|some x=>decide (kids x.op = -1)|none=>true))/\St w aZ [] w',aR (aC (λ_=>⟨vb dD,u⟩) λjD=>aK gX (I.ext u.aG) (cR (aC (λ_=>⟨vb dD,u⟩) λet=>?_))),?_⟩) λV=>?_)
 .obtain⟨B,E⟩:=gx xs (i:=a.toNat) cK;have U:=tZ B.op;exact aQ gX I cK E (λ_ ES=>bW B.op fa ES rfl rfl λ_ AV=>aD bM (AV.ext u.aG) (aV Xm u (C286 _ _) λ_ _ u=>aH ⟨vb dD,u⟩))
 .rintro _ _ ⟨rfl,u⟩ _;refine aY (λO=>?_) (λO=>?_)
  .refine⟨gO (ni .i64) ?_,u.aG⟩;rw[<- G]
   by_cases hq:a<0\/(xs.length:Int)<=a
   .exact(ada cK hq).symm
   have J:a.toNat<xs.length:=cK
   rw[kX J]at O;exact(adb cK cK (kX J) dD).symm
  have h23:¬ (a<0\/(xs.length:Int)<=a):=dD
  obtain⟨B,E⟩:=gx xs (i:=a.toNat) cK;have U:=tZ B.op;have Oa:0<=kids B.op:=dD
  exact aQ gX I cK E (λ_ Z=>bW B.op fa Z rfl rfl λ_ sw=>aD bM (sw.ext u.aG) (aV Xm u (C286 _ _) λ_ _ u=>aN cK (aN cK (fh cK ⟨_,cK,a+1,((n:Int)+kids B.op-1).toNat,rfl,gO (ni .i64) cK,rfl,cK,by rw[<- G];exact(XG cK cK E Oa cK).symm,u⟩))))
 have Vx:n=0:=cK
 rw[Vx,XF]at G;exact⟨gO (ni .i64) G,u.aG⟩
theorem CG{l:List cA}:fC l=(decide (l.length<=40)&&decide (qy l 0=l.length)&&!l.any lj&&decide (RX l<=12)):=by
 unfold fC;rw[EB]
def C287(lv:Value)(xs:List cA)(i:Int)(t:Ex)(w:World)(J:dC (λ_=>True) w lv xs)(hn:xs.length<=1048576)(B:BE xs i t):CR 287 [lv,hZ i] w (λv w'=>lh (bH v (XH i t.eC t.eC.length)) w w'):=by
 obtain⟨M,hq,sn⟩:∃e,e=t.root/\xs[(i).toNat]?=some e:=⟨_,rfl,B.root.1⟩;have U:=B.root.2;have Z:=B.end;have Oa:=Ex.o8 B.2.1;rw[<- hq]at Oa;have W9:=tZ M.op;have hi0:=B.1;have u:=St.start w;refine fg Tryz.func287 ?_;refine aN cK (aQ gX J cK sn λ_ EE=>bW M.op fa EE rfl rfl λ_ XJ=>aD bM (XJ.ext u.aG) (aV Xm u (C286 _ _) λG he u=>?_));refine⟨λm I a x G=>∃k:Nat,a=hZ (i+1+qz t.eC k)/\x=hZ (k:Int)/\m=t.eC.length-k/\k<=t.eC.length/\St w aZ [bH I (XH i t.eC k)] G,⟨_,0,gO (ni .i64) (by simp[qz]),rfl,rfl,cK,u.eL (α:=Int)⟩,?_⟩
 rintro m I _ _ _ ⟨k,rfl,rfl,rfl,hk,u⟩ _;refine aR (aC (λO=>?_) λO=>?_)
 .obtain⟨a,E⟩:=gx t.eC (i:=k) cK;have V:=Ex.ua B.2.1 (kE E);have TY:=B.kid E;have W:=TY.end;have TZ:=a.rC;refine bD ([(i+1+qz t.eC k:Int)]) u cS rfl rfl (dL rfl) (λXK _ u=>?_);have Y:=u.dX;exact bJ u.p1 cS Y (by rw[R5];exact Zg (by simp;omega)) ee (λ_ _ u=>have u:=u.p1.drop;aV Xn u (C245 _ _ _ _ (J.ext u.aG) cK) λ_ _ u=>aN cK ⟨_,cK,k+1,gO (ni .i64) (by rw[W.1,uM E];omega),rfl,rfl,cK,by rw[XI];exact u⟩)
 rw[show t.eC.length=k from cK];exact u.fresh
theorem C246(lv:Value)(xs:List cA)(i:Int)(t:Ex)(N:Nat)(w:World)(J:dC (λ_=>True) w lv xs)(hn:xs.length<=1048576)(B:BE xs i t)(hN:t.size<N):CR 246 [lv,hZ i] w (λv w'=>v=hZ t.depth/\Ext w w'):=by
 obtain⟨pM,hq,sn⟩:∃e,e=t.root/\xs[(i).toNat]?=some e:=⟨_,rfl,B.root.1⟩;have V:=B.root.2;have hie:=B.end;have Oa:=Ex.o8 B.2.1;rw[<- hq]at Oa;have W9:=tZ pM.op;have hi0:=B.1;have u:=St.start w;refine ac0 _ _ _ _ ?_;unfold S246;refine dY aor u (C287 _ _ _ t _ (J.ext u.aG) cK B) (λE I cL u=>?_);have Kk:=R5 i t.eC t.eC.length;refine aK cS u.dX ?_;refine⟨λm n x I=>∃k:Nat,n=hZ (C3 t.eC k)/\x=hZ (k:Int)/\m=t.eC.length-k/\k<=t.eC.length/\St w aZ [bH E (XH i t.eC t.eC.length)] I,⟨_,0,rfl,rfl,rfl,cK,u⟩,?_⟩;rintro m _ _ _ ⟨k,rfl,rfl,rfl,hk,u⟩ _
 have U:=OX (ks:=t.eC) (N:=(t.size:Int)) cK (λa Y=>by have:=(Ex.ua B.2.1 Y).2;have:=a.rC;omega) k;refine aR (aC (λxd=>?_) λ_=>aN cK ⟨gO (ni .i64) (by rw[t.LA,show k=t.eC.length from cK]),u.aG⟩);obtain⟨ix,M⟩:=gx (XH i t.eC t.eC.length) (i:=(k:Int).toNat) cK;refine dR u cS cK cK (λ_ W=>gM u bM W M ?_);obtain⟨rfl,BV⟩:=ade M;obtain⟨a,G⟩:=gx t.eC (i:=k) cK;have Z:=Ex.ua B.2.1 (kE G);have O:=B.kid G;have Vv:=O.end;have TZ:=a.rC
 exact aV agf u (C246 _ _ _ _ (N-1) _ (J.ext u.aG) hn O cK) (λ_ _ u=>Dr (aN cK ⟨_,cK,k+1,by rw[BW G],rfl,rfl,cK,u⟩))
termination_by N
decreasing_by all_goals omega
def C185(lv:Value)(xs:List cA)(w:World)(B:dC (λ_=>True) w lv xs)(O:xs.length<=1048576):CR 185 [lv] w (λv w'=>v=.bool (fC xs)/\Ext w w'):=by
 have u:=St.start w;refine fg Tryz.func185 ?_;refine⟨λG w'=>G=.bool (decide (xs.length=0\/40<xs.length)||xs.any lj||decide (¬ qy xs 0=xs.length))/\St w aZ [] w',aK gX (B.ext u.aG) (aH (aC (λ_=>⟨vb dD,u⟩) λY=>aK gX (B.ext u.aG) (cO (aC (λ_=>⟨vb dD,u⟩) λZ=>?_)))),?_⟩
 .have E:wk w (.func (.func 242) [].toArray [].toArray) lj:=
   ⟨242,[],[],rfl,aoq,λy J _=>C242 y J⟩
  exact aV aov u (C244 _ _ _ _ _ (B.ext u.aG) E cK) (λ_ _ u=>aY (λ_=>⟨vb dD,u⟩) λ_=>aV Xn u (C245 _ _ _ _ (B.ext u.aG) cK) λ_ _ u=>aK gX (B.ext u.aG) (bV ⟨vb dD,u⟩))
 rintro _ _ ⟨rfl,u⟩ _;refine aY (λI=>?_) (λI=>?_)
 .refine⟨vb ?_,u.aG⟩;rw[CG]
  by_cases M:xs.length=0
  .obtain rfl:=uX.1 M;rfl
  grind
 have V:qy xs 0=xs.length:=dD
 obtain⟨t,ht⟩:=BE.of (xs:=xs) (i:=0) cK;have U:=ht.zero V;refine aV agf u (C246 _ _ _ t (t.size+1) _ (B.ext u.aG) O ht cK) (λ_ W u=>iE ?_);refine⟨vb ?_,u.aG⟩;rw[CG];unfold RX;rw[U.2]
 grind
def nS(o:List ByteArray)(x:cA):List ByteArray:=if x.op=2/\o.any (λy=>decide (y=x.name))=false then o++[x.name]else o
theorem XL{o:List ByteArray}{x:cA}(h:x.op=2/\o.any (λy=>decide (y=x.name))=false):nS o x=o++[x.name]:=ew h
theorem XM{o:List ByteArray}{x:cA}(h:¬ (x.op=2/\o.any (λy=>decide (y=x.name))=false)):nS o x=o:=ej h
def nT(xs:List cA):List ByteArray:=xs.foldl nS []
theorem L5{xs:List cA}{k:Nat}{x:cA}(h:xs[k]?=some x):nT (xs.take (k+1))=nS (nT (xs.take k)) x:=by
 unfold nT;rw[<- gJ h,List.foldl_append];rfl
theorem CH(xs:List cA):(nT xs).length<=xs.length:=by
 have:∀(l:List cA) (o:List ByteArray),(l.foldl nS o).length<=o.length+l.length:=by
  intro l
  induction l with
  | nil=>grind
  | cons x l u=>
   grind[nS]
 simpa[nT]using this xs []
theorem O9(g:ByteArray->Bool)(xs:List cA):(nT xs).any g=xs.any λx=>decide (x.op=2)&&g x.name:=by
 have:∀(l:List cA) (o:List ByteArray),(l.foldl nS o).any g=(o.any g||l.any λx=>decide (x.op=2)&&g x.name):=by
  intro l
  induction l with
  | nil=>grind
  | cons x l u=>
   intro o
   show(l.foldl nS (nS o x)).any g=_
   rw[u]
   have h2:(nS o x).any g=(o.any g||(decide (x.op=2)&&g x.name)):=by
    unfold nS
    grind
   grind
 exact(this xs []).trans ei
theorem B2(ns:List ByteArray)(s:ByteArray):decide (0<=cU ns s)=ns.any λy=>decide (y=s):=kU _ _
theorem Ua(ns:List ByteArray)(s:ByteArray):decide (cU ns s<0) = !ns.any λy=>decide (y=s):=by
 rw[<- B2]
 grind
def Pa{k:Int}(h:0<=kids k):eE k=kids k:=by unfold eE kids at *;grind
def adf{ns:List ByteArray}{xs:List cA}(h:fC xs=false):kW ns xs=8:=by unfold kW;grind
def adg{ns:List ByteArray}{xs:List cA}(h:fC xs=true):kW ns xs=if (nT xs).any (λs=>!ns.any λy=>decide (y=s))=true then 9 else 0:=by
 unfold kW
 rw[ej (by simp[h]),O9]
 simp only[Ua]
theorem L6{ns:List ByteArray}{xs:List cA}(h:¬ kW ns xs=0):qA ns xs=[]:=by unfold qA;grind
def pR(ns:List ByteArray)(nums:List Int)(xs:List cA):Int×Int:=if ns.length=nums.length then(if kW ns xs=0 then runM (qA ns xs) nums else(0,kW ns xs))else(0,1)
def C225(sv:Value)(ns:List ByteArray)(s:ByteArray)(w:World)(J:dC (λ_=>True) w sv ns)(O:ns.length<=1048576):CR 225 [sv,.string s] w (λv w'=>v=hZ (cU ns s)/\Ext w w'):=by
 have u:=St.start w;refine fg Tryz.func225 ?_;refine aK iC (J.ext u.aG) ?_;refine⟨λm x I=>∃k:Nat,x=hZ (k:Int)/\m=ns.length-k/\k<=ns.length/\(∀y∈ns.take k,decide (y=s)=false)/\St w aZ [] I,⟨_,0,rfl,rfl,l1 _,ei,u⟩,?_⟩;rintro m _ I ⟨k,rfl,rfl,U,B,u⟩ _;refine aR (aC (λV=>?_) λ_=>⟨gO (ni .i64) (jh (by rw[kO cK]at B;exact B)).symm,u.aG⟩);obtain⟨W,G⟩:=gx ns (i:=(k:Int).toNat) cK;exact aQ iC J cK G (λ_ M=>aD gw (M.ext u.aG) (jI (aC (λE=>⟨gO (ni .i64) (me B G (ez E.symm)).symm,u.aG⟩) λE=>aN cK ⟨_,cK,k+1,rfl,rfl,cK,dZ B G (fN λh=>E h.symm),u⟩)))
def C263(sv:Value)(ns:List ByteArray)(s:ByteArray)(w:World)(B:dC (λ_=>True) w sv ns)(E:ns.length<=1048576):CR 263 [sv,.string s] w (λv w'=>v=.bool (ns.any λy=>decide (y=s))/\Ext w w'):=by
 have u:=St.start w;refine fg Tryz.func263 ?_;exact aV Xo u (C225 _ _ _ _ (B.ext u.aG) cK) (λ_ _ u=>cR ⟨vb (B2 _ _),u.aG⟩)
def C281(sv fv:Value)(xs:List ByteArray)(g:ByteArray->Bool)(w:World)(J:dC (λ_=>True) w sv xs)(V:wk w fv g)(hn:xs.length<=1073741824):CR 281 [sv,fv] w (λv w'=>v=hZ (sm g xs)/\Ext w w'):=by
 obtain⟨Z,first,cap,rfl,W,U⟩:=V;have u:=St.start w;refine fg Tryz.func281 ?_;refine aK iC (J.ext u.aG) ?_;refine⟨λm x G=>∃k:Nat,x=hZ (k:Int)/\m=xs.length-k/\k<=xs.length/\(∀y∈xs.take k,g y=false)/\St w aZ [] G,⟨_,0,rfl,rfl,l1 _,ei,u⟩,?_⟩;rintro m _ G ⟨k,rfl,rfl,hk,B,u⟩ _;refine aR (aC (λjJ=>?_) λ_=>⟨gO (ni .i64) (jh (by rw[kO cK]at B;exact B)).symm,u.aG⟩);obtain⟨Y,I⟩:=gx xs (i:=(k:Int).toNat) cK;refine aQ iC J cK I (λ_ M=>aD gw (M.ext u.aG) (gV W (U Y G u.aG) ?_))
 rintro _ _ ⟨rfl,O⟩;have u:=u.ext O;exact aY (λE=>⟨gO (ni .i64) (me B I E).symm,u.aG⟩) (λE=>aN cK ⟨xs.length-(k+1),cK,k+1,rfl,rfl,cK,dZ B I E,u⟩)
def C240(sv fv:Value)(xs:List ByteArray)(g:ByteArray->Bool)(w:World)(E:dC (λ_=>True) w sv xs)(B:wk w fv g)(G:xs.length<=1073741824):CR 240 [sv,fv] w (λv w'=>v=.bool (xs.any g)/\Ext w w'):=by
 have u:=St.start w;refine fg Tryz.func240 ?_;exact aV aox u (C281 _ _ _ _ _ (E.ext u.aG) (B.ext u.aG) cK) (λ_ _ u=>cR ⟨vb (kU _ _),u.aG⟩)
def C264(lv:Value)(xs:List cA)(w:World)(I:dC (λ_=>True) w lv xs)(hn:xs.length<=1048576)(hr:fC xs=true):CR 264 [lv] w (λv w'=>lh (bH v (nT xs)) w w'):=by
 have u:=St.start w;refine fg Tryz.func264 ?_;refine aV R2 u (C185 _ _ _ (I.ext u.aG) cK) (λW he u=>bR (aY (λU=>?_) λU=>?_))
 .rw[hr]at U;cases U
 refine aK gX (I.ext u.aG) ?_;refine⟨λm M x W=>∃k:Nat,x=hZ (k:Int)/\m=xs.length-k/\k<=xs.length/\St w aZ [bH M (nT (xs.take k))] W,⟨_,0,rfl,rfl,cK,u.eL (α:=ByteArray)⟩,?_⟩;rintro m M _ _ ⟨k,rfl,rfl,hk,u⟩ _;refine aR (aC (λnJ=>?_) λnJ=>?_)
 .obtain⟨B,V⟩:=gx xs (i:=(k:Int).toNat) cK;refine⟨λE w'=>St w aZ [bH E (nS (nT (xs.take k)) B)] w',?_,?_⟩
  .have Y:=CH (xs.take k);rw[l0]at Y;refine aQ gX I cK V (λ_ Ev=>aD r7 (Ev.ext u.aG) (aM u yc λZ _ u=>aI (x:=B) u r7 rfl rfl λ_ u=>⟨λE w'=>E=.bool (decide (B.op=2)&&!(nT (xs.take k)).any λy=>decide (y=B.name))/\St w aZ [bY Z (j0 B),bH M (nT (xs.take k))] w',aA fa (aB (v:=hZ B.op) bM u.hb rfl (aH (aC (λ_=>aA gk (aB (v:=.string B.name) gw u.hb rfl (aV agk u (C263 _ _ _ _ u.p1.dX cK) λ_ _ u=>bR ⟨vb dD,u⟩))) λ_=>⟨vb dD,u⟩))),?_⟩))
   rintro _ _ ⟨rfl,u⟩ _;refine aY (λG=>?_) (λG=>?_)
   .refine aA gk (aB (v:=.string B.name) gw u.hb rfl (bD ([B.name]) u iC rfl rfl (dL rfl) λJ _ u=>?_));have O1:=u.dX;refine bJ u.p2 iC O1 (by simp<;>omega) ee (λO _ u=>?_);have u:=u.p1.drop;rw[XL (by simpa using G)];exact u.p1.drop
   rw[XM (by simpa using G)];exact u.drop
  rintro ET _ u _;exact aN cK ⟨_,cK,k+1,rfl,rfl,cK,by rw[L5 (k:=k) V];exact u⟩
 rw[kO cK]at u;exact u.fresh
def Jf{α:Type}[Flat α]{S:Nat->Prop}{w:World}{v:Value}{xs:List α}(h:dC S w v xs):wG v=true:=by obtain⟨a,c,rfl,_⟩:=h;rfl
theorem Ub(ns:List ByteArray)(xs:List cA):(qA ns xs).length<=xs.length:=by
 unfold qA
 split
 .unfold BX
  cases h:zz xs with
  | none=>grind
  | some t=>
   rw[Ex.pN,<- Ex.cY,<- (vt h).2];omega
 grind
theorem C265(lv Y:Value)(xs:List cA)(ns:List ByteArray)(i:Int)(t:Ex)(N:Nat)(w:World)(G:dC (λ_=>True) w lv xs)(hN:dC (λ_=>True) w Y ns)(hn:xs.length<=1048576)(BB:ns.length<=1048576)(E:BE xs i t)(hNt:t.size<N):CR 265 [lv,hZ i,Y] w (λv w'=>lh (bH v (t.steps ns)) w w'):=by
 obtain⟨B,hq,J⟩:∃e,e=t.root/\xs[(i).toNat]?=some e:=⟨_,rfl,E.root.1⟩;have hri:=E.root.2;have hie:=E.end;have Oa:=Ex.o8 E.2.1;rw[<- hq]at Oa;have W9:=tZ B.op;have hi0:=E.1;have hwk:=Pa (k:=B.op) cK;have u:=St.start w;refine oM Tryz.func265 (pl:=avx) ?_;refine aN cK (aQ gX G cK J λ_ ie=>bW B.op fa ie rfl rfl λ_ uK=>aD bM (uK.ext u.aG) (aV Wc u (C267 _ _) λZ he u=>?_));refine⟨λm O a x Z=>∃k:Nat,a=hZ (i+1+qz t.eC k)/\x=hZ (k:Int)/\m=t.eC.length-k/\k<=t.eC.length/\St w aZ [bH O (Xa ns t.eC k)] Z,⟨_,0,gO (ni .i64) (by simp[qz]),rfl,rfl,cK,u.eL (α:=oA)⟩,?_⟩
 rintro m O _ _ _ ⟨k,rfl,rfl,rfl,hk,u⟩ _;refine aR (aC (λfw=>?_) λfw=>?_)
 .obtain⟨a,I⟩:=gx t.eC (i:=k) cK;have hka:=Ex.ua E.2.1 (kE I);have TY:=E.kid I;have Vv:=TY.end;have TZ:=a.rC;have W:=Du (ns:=ns) (ks:=t.eC) (k:=k);have T0:=Ex.pN ns a;refine dY agh u (C265 _ _ _ _ _ _ (N-1) _ (G.ext u.aG) (hN.ext u.aG) hn BB TY cK) (λx24 _ cL u=>?_);have Pb:=u.dX;exact bJ u.p1 tD Pb cK ee (λ_ _ u=>have u:=u.p1.drop;aV Xn u (C245 _ _ _ _ (G.ext u.aG) cK) λ_ _ u=>aN cK ⟨_,cK,k+1,gO (ni .i64) (by rw[Vv.1,uM I];omega),rfl,rfl,cK,by rw[LB I];exact u⟩)
 have W:=Du (ns:=ns) (ks:=t.eC) (k:=k);refine aQ gX G cK J (λ_ xp=>bW B.op fa xp rfl rfl λ_ rh=>have u:=u.drew;aD bM (rh.ext u.aG) (aQ gX G cK J λ_ xk=>bW B.n jo xk rfl rfl λ_ V=>aD bM (V.ext u.aG) (pop (Ei _ _) (aM u IW λBU _ u=>?_))));refine⟨eN bM (rh.ext u.aG),?_⟩;refine⟨eN bM (V.ext u.aG),?_⟩;refine aI (x:=(⟨B.op,B.n⟩:oA)) u Ee rfl rfl (λ_ u=>⟨λw'=>St w aZ [bY BU (j0 (⟨B.op,Ex.numOf ns B⟩:oA)),bH O (Xa ns t.eC k)] w',aA nD (aB (v:=hZ ((⟨B.op,B.n⟩:oA).kind)) bM u.hb rfl (aH (aC (λM=>?_) λM=>?_))),?_⟩)
 .refine aQ gX G cK J (λ_ AS=>bW B.name gk AS rfl rfl λ_ LF=>aD gw (LF.ext u.aG) (aV Xo u (C225 _ _ _ _ (hN.ext u.aG) cK) λ_ he u=>aA qx (aT u bM (dL rfl) (rfl) λ_ u=>?_)));have u:=u.enc (cs':=j0 ({ (⟨B.op,B.n⟩:oA)with n:=(cU ns B.name)}:oA)) rfl;have U:Ex.numOf ns B=cU ns B.name:=ew M;rw[<- U]at u;exact u
 .have U:Ex.numOf ns B=B.n:=ej M;rw[<- U]at u;exact u
 rintro _ u _;refine aD Ee u.At (bD ([(⟨B.op,Ex.numOf ns B⟩:oA)]) u tD rfl rfl (dL rfl) λaoJ _ u=>?_);have Pc:=u.dX;refine bJ u.p2 tD Pc (by rw[W,mv];have:(t.steps ns).length=t.size:=Ex.pN ns t;rw[Ex.vr,la,mv,<- show k=t.eC.length from cK]at this;omega) ee (λaoK _ u=>?_);have u:=u.p1.drop;rw[Ex.vr,<- show k=t.eC.length from cK,<- hq];exact u.p1.drop.fresh
termination_by N
decreasing_by all_goals omega
def C262(s:ByteArray)(b2:Nat)(B:Value)(ns:List ByteArray)(w:World)(hc:Cell w b2 0 B)(E:dC (λ_=>True) w B ns)(G:ns.length<=1048576):CR 262 [.string s,.pointer (some ⟨b2,0,none⟩)] w (λv w'=>v=.bool (!ns.any λy=>decide (y=s))/\Ext w w'):=by
 have u:=St.start w;refine fg Tryz.func262 ?_;exact bO jk (hc.ext u.aG) (aV agk u (C263 _ _ _ _ (E.ext u.aG) cK) λ_ _ u=>bR ⟨rfl,u.aG⟩)
def C218(lv E:Value)(xs:List cA)(ns:List ByteArray)(w:World)(G:dC (λ_=>True) w lv xs)(J:dC (λ_=>True) w E ns)(hn:xs.length<=1048576)(Z:ns.length<=1048576):CR 218 [lv,E] w (λv w'=>∃s,v=.tuple #[s,hZ (kW ns xs)]/\lh (bH s (qA ns xs)) w w'):=by
 have u:=St.start w;refine ac1 _ _ _ _ ?_;unfold S218;refine nx u (Jf J) (λL7 Y u=>aV R2 u (C185 _ _ _ (G.ext u.aG) cK) λ_ he u=>bR (aY (λM=>?_) λM=>?_))
 .have h8:kW ns xs=8:=adf (by simpa using M);refine⟨_,by rw[h8],?_⟩;rw[L6 (by rw[h8];decide)];exact(u.drop.eL (α:=oA)).fresh
 have B:fC xs=true:=by simpa using M
 have Kh:=CH xs;have U:=adg (ns:=ns) B;refine dY aos u (C264 _ _ _ (G.ext u.aG) hn B) (λx12 _ cL u=>?_)
 have I:wk _ (.func (.func 262) [].toArray [.pointer (some ⟨L7,0,none⟩)].toArray) (λs=>!ns.any λy=>decide (y=s)):=
  ⟨262,[],_,rfl,aou,λy Y W=>C262 y L7 E ns Y ((u.p1.hb.cell rfl).ext W) ((J.ext u.aG).ext W) Z⟩
 refine aV agj u (C240 _ _ _ _ _ u.dX I cK) (λ_ he u=>aY (λO=>?_) λO=>?_)
 .have V:kW ns xs=9:=by rw[U,ew O]
  refine⟨_,by rw[V],?_⟩;rw[L6 (by rw[V];decide)];exact(u.drop.drop.eL (α:=oA)).fresh
 refine aB jk u.p1.hb rfl ?_;have h0:kW ns xs=0:=by rw[U,ej (by simpa using O)]
 have Xc:=zA B;obtain⟨t,ht⟩:=BE.of (xs:=xs) (i:=0) cK;have hz:=ht.zero Xc;refine dY agh u (C265 _ _ _ _ _ t (t.size+1) _ (G.ext u.aG) (J.ext u.aG) hn Z ht cK) (λUc _ cL u=>?_);refine⟨Uc,by rw[h0],?_⟩;unfold qA BX;rw[ew h0,hz.2];exact u.p1.drop.p1.drop.fresh
def C143(lv E G:Value)(xs:List cA)(ns:List ByteArray)(nums:List Int)(w:World)(O:dC (λ_=>True) w lv xs)(I:dC (λ_=>True) w E ns)(J:dC (λ_=>True) w G nums)(Z:xs.length<=1048576)(Y:ns.length<=1048576):CR 143 [lv,E,G] w (λv w'=>v=.tuple #[hZ (pR ns nums xs).1,hZ (pR ns nums xs).2]/\Ext w w'):=by
 have u:=St.start w;refine ac2 _ _ _ _ _ ?_;unfold S143;refine aK iC (I.ext u.aG) (aK cS (J.ext u.aG) (bV (aC (λV=>?_) λV=>?_)))
 .refine⟨?_,u.aG⟩;unfold pR;rw[ej cK]
 refine dO aot (C218 _ _ _ _ _ (O.ext u.aG) (I.ext u.aG) cK cK) ?_;rintro M _ ⟨W4,rfl,U⟩;have u:=u.made U;refine aO rfl (aO rfl (bV (aC (λB=>?_) λB=>?_)))
 .refine⟨?_,u.aG⟩;unfold pR;rw[ew cK,ej B]
 have CB:=Ub ns xs;refine aV am0 u (C219 _ _ _ _ _ u.dX (J.ext u.aG) cK) (λ_ W u=>aO rfl (aO rfl ?_));refine⟨?_,u.aG⟩;unfold pR;rw[ew cK,ew (by simpa using B)]
variable (w:World) (K:Value->hM)
def avA:dI:=λi=>match i with
 | 9=>(.of [(0,[]),(1,[]),(2,[]),(3,[]),(4,[]),(6,[]),(7,[]),(5,[7]),(8,[]),(9,[]),(10,[]),(11,[]),(12,[]),(13,[]),(15,[]),(16,[]),(14,[16]),(17,[]),(18,[]),(19,[]),(20,[]),(21,[]),(22,[]),(24,[]),(25,[]),(23,[25]),(26,[]),(27,[]),(28,[]),(29,[]),(30,[]),(31,[]),(33,[]),(34,[]),(32,[34]),(35,[]),(36,[]),(37,[]),(38,[])])
 | _=>.nil
def S284(B ml:Value):Prop:=
 oq (λY n5 E a=>∀_:Env,
 lN 141 B λb=>bA .lss 3 E b λc=>cV c (iA 141 B E λd=>lA 193 d a λe=>aL 193 a λf g=>sA 193 f e g λh=>bB .add 3 E (i 1) λj=>fA 193 f 6 λk=>lA 3 k h λl=>
 bA .add 3 j l λn=>fA 193 f 7 λo=>lA 3 o h λp=>bA .add 3 n p λq=>eT (λK2=>fA 193 f 0 λr=>lA 3 r h λs=>bB .eql 3 s (i 11) λt=>cV t (K2 tt h) (fA 193 f 0 λu=>
 lA 3 u h λv=>bB .eql 3 v (i 12) λx=>K2 x h)) (λR6 y=>∀_:Env,
 eT (λI=>fA 193 f 6 λz=>lA 3 z y λaa=>bB .lss 3 aa (i 0) λab=>cV ab (I tt y) (fA 193 f 7 λac=>lA 3 ac y λad=>bB .lss 3 ad (i 0) λae=>cV ae (I tt y) (
 fA 193 f 6 λaf=>lA 3 af y λag=>lN 141 B λah=>bA .gtr 3 ag ah λai=>cV ai (I tt y) (fA 193 f 7 λaj=>lA 3 aj y λak=>lN 141 B λal=>bA .gtr 3 ak al λam=>
 cV am (I tt y) (lN 141 B λan=>bA .gtr 3 q an λao=>I ao y))))) (λap M=>∀_:Env,
 cV ap (K (i (-1)) M) (eT (λU=>eT (λK5=>eP hH (Op.unary .not R6) λar=>cV ar (fA 193 f 6 λZ=>lA 3 Z M λau=>bB .gtr 3 au (i 0) λav=>K5 av M) (
 K5 ff M)) (λaw G=>∀_:Env,
 cV aw (U aw G) (eT (λK6=>fA 193 f 0 λay=>lA 3 ay G λaz=>bB .neq 3 az (i 11) λa0=>cV a0 (fA 193 f 7 λa1=>lA 3 a1 G λa2=>bB .gtr 3 a2 (i 0) λa3=>K6 a3 G) (
 K6 ff G)) (λa4 O=>∀_:Env,
 cV a4 (U a4 O) (fA 193 f 0 λa6=>lA 3 a6 O λa7=>bB .eql 3 a7 (i 13) λa8=>cV a8 (bB .eql 3 ml (i 0) λa9=>U a9 O) (U ff O)))))) (λba J=>∀_:Env,
 cV ba (K (i (-1)) J) (eT (λK7=>cV R6 (fA 193 f 0 λbc=>lA 3 bc J λbd=>bB .eql 3 bd (i 12) λbe=>cF 302 [be] J λbf W=>bA .add 3 ml bf λbh=>bB .add 3 E (i 1) λbi=>
 bB .add 3 E (i 1) λbj=>fA 193 f 6 λbk=>lA 3 bk (drew W) λbl=>bA .add 3 bj bl λbm=>eP hH (n4 141 B (some bi) (some bm) none) λbn=>bB .add 3 E (i 1) λbo=>
 fA 193 f 6 λbp=>lA 3 bp (drew W) λbq=>bA .add 3 bo bq λbr=>eP hH (n4 141 B (some br) (some q) none) λbs=>cF 284 [bn,bh] (drew W) λbt bu=>
 kA 3 bp bq bu (cF 284 [bs,bh] bu λbv bw=>eT (λK8=>bB .eql 3 bt (i (-1)) λbx=>cV bx (K8 tt bw) (bB .eql 3 bv (i (-1)) λbz=>K8 bz bw)) (λb0 b1=>∀_:Env,
 cV b0 (K (i (-1)) b1) (bB .add 3 bt (i 1) λb2=>bB .add 3 bv (i 1) λb3=>eP hH (Builtin.max_ #[3,3,3] 3 [n5,b2,b3].toArray) λb4=>K7 b4 b1)))) (K7 n5 J)) (λV b5=>∀_:Env,
 Y V q b5))))))) (K n5 a)) (λY=>Y (i 0) (i 0) w)
def avB:dI:=λi=>match i with
 | 15=>(.of [(0,[]),(1,[]),(2,[]),(3,[]),(4,[]),(5,[]),(6,[]),(7,[]),(8,[]),(9,[]),(11,[]),(12,[]),(13,[]),(14,[]),(15,[]),(16,[]),(17,[]),(18,[]),(19,[]),(10,[15]),(20,[]),(21,[]),(22,[])])
 | _=>.nil
theorem adh(u B:Value)(h:S284 w K u B):CR 284 [u,B] w K:=
 qm 131 avB 16 [.tmp 4] Tryz.func284 h
theorem aoL:PL 310:=dK Tryz.func310
theorem aoM:PL 283:=dK Tryz.func283
theorem L8:PL 311:=dK Tryz.func311
theorem agr:PL 313:=dK Tryz.func313
theorem ags:PL 314:=dK Tryz.func314
theorem XN:PL 284:=dK Tryz.func284
theorem aoN:PL 241:=dK Tryz.func241
theorem aoO:PL 108:=dK Tryz.func108
theorem aoP:PL 177:=dK Tryz.func177
theorem aoQ:PL 179:=dK Tryz.func179
theorem aoR:PL 182:=dK Tryz.func182
theorem aoS:PL 183:=dK Tryz.func183
theorem XO:PL 178:=dK Tryz.func178
theorem aoT:PL 233:=dK Tryz.func233
theorem agt:PL 181:=dK Tryz.func181
theorem aoU:PL 239:=dK Tryz.func239
theorem XP:PL 184:=dK Tryz.func184
theorem aoV:PL 282:=dK Tryz.func282
theorem aoW:PL 309:=dK Tryz.func309
theorem aoX:PL 232:=dK Tryz.func232
theorem aoY:PL 279:=dK Tryz.func279
theorem agu:PL 186:=dK Tryz.func186
theorem aoZ:PL 247:=dK Tryz.func247
theorem XQ:PL 187:=dK Tryz.func187
theorem ao0:PL 248:=dK Tryz.func248
theorem ao1:PL 188:=dK Tryz.func188
theorem ao2:PL 249:=dK Tryz.func249
end Go.Proofs.YtpdlpabnlkofmaaGreatDoor
namespace Go.Proofs.YtpdlpabnlkofmaaGreatDoor
open Go.Fw
variable (w:World) (K:Value->hM)
theorem ao3:PL 336:=dK Tryz.func336
theorem ao4:PL 312:=dK Tryz.func312
end Go.Proofs.YtpdlpabnlkofmaaGreatDoor
namespace Go.Proofs.YtpdlpabnlkofmaaGreatDoor
open Go.Fw
structure K15 where
instance:Flat K15 where
 agg:=true
 sz:=15
 enc _:=T3.map F0
 val _:=.agg (T3.map F0).toArray
 pos:=ee
 len _:=rfl
 one a v h:=by grind[wG]
 oH _ _:=rfl
 oI h:=by cases h
def C336(w:World):CR 336 [] w (λv w'=>v=ia (⟨⟩:K15)/\Ext w w'):=by
 have u:=St.start w;refine fg Tryz.func336 ?_;exact aM u acr (λ_ _ u=>pop (v:=ia (⟨⟩:K15)) (by kernel_rfl) (aI (x:=(⟨⟩:K15)) u afS rfl rfl λ_ u=>aD (x:=(⟨⟩:K15)) afS u.At ⟨rfl,u.drop.aG⟩))
theorem C310(k:Int)(w:World):CR 310 [hZ k] w (λv w'=>v=.string (fG k)/\Ext w w'):=by
 have u:=St.start w;refine fg Tryz.func310 ?_;refine⟨λB w'=>B=.bool (decide (k<0\/15<=k))/\w'=w,?_,?_⟩
 .exact aR (aC (λc=>⟨vb (ez (.inl c)).symm,rfl⟩) λ_=>cR ⟨vb (ga.2 cK),rfl⟩)
 rintro _ _ ⟨rfl,rfl⟩ _;refine aC (λ_=>⟨gO F0 (by unfold fG;rw[ew cK]),u.aG⟩) (λc=>aV ao3 u (C336 _) λ_ E u=>?_);obtain⟨n,rfl⟩:∃n:Nat,k=n:=⟨k.toNat,cK⟩;refine pop (v:=.string (fG n)) ?_ ⟨rfl,u.aG⟩
 match n,c with
 | 0,_=>exact(by kernel_rfl:pr hH (u4 364 (ia K15.mk) (hZ ((0:Nat):Int)))=some (.string (fG ((0:Nat):Int))))
 | 1,_=>exact(by kernel_rfl:pr hH (u4 364 (ia K15.mk) (hZ ((1:Nat):Int)))=some (.string (fG ((1:Nat):Int))))
 | 2,_=>exact(by kernel_rfl:pr hH (u4 364 (ia K15.mk) (hZ ((2:Nat):Int)))=some (.string (fG ((2:Nat):Int))))
 | 3,_=>exact(by kernel_rfl:pr hH (u4 364 (ia K15.mk) (hZ ((3:Nat):Int)))=some (.string (fG ((3:Nat):Int))))
 | 4,_=>exact(by kernel_rfl:pr hH (u4 364 (ia K15.mk) (hZ ((4:Nat):Int)))=some (.string (fG ((4:Nat):Int))))
 | 5,_=>exact(by kernel_rfl:pr hH (u4 364 (ia K15.mk) (hZ ((5:Nat):Int)))=some (.string (fG ((5:Nat):Int))))
 | 6,_=>exact(by kernel_rfl:pr hH (u4 364 (ia K15.mk) (hZ ((6:Nat):Int)))=some (.string (fG ((6:Nat):Int))))
 | 7,_=>exact(by kernel_rfl:pr hH (u4 364 (ia K15.mk) (hZ ((7:Nat):Int)))=some (.string (fG ((7:Nat):Int))))
 | 8,_=>exact(by kernel_rfl:pr hH (u4 364 (ia K15.mk) (hZ ((8:Nat):Int)))=some (.string (fG ((8:Nat):Int))))
 | 9,_=>exact(by kernel_rfl:pr hH (u4 364 (ia K15.mk) (hZ ((9:Nat):Int)))=some (.string (fG ((9:Nat):Int))))
 | 10,_=>exact(by kernel_rfl:pr hH (u4 364 (ia K15.mk) (hZ ((10:Nat):Int)))=some (.string (fG ((10:Nat):Int))))
 | 11,_=>exact(by kernel_rfl:pr hH (u4 364 (ia K15.mk) (hZ ((11:Nat):Int)))=some (.string (fG ((11:Nat):Int))))
 | 12,_=>exact(by kernel_rfl:pr hH (u4 364 (ia K15.mk) (hZ ((12:Nat):Int)))=some (.string (fG ((12:Nat):Int))))
 | 13,_=>exact(by kernel_rfl:pr hH (u4 364 (ia K15.mk) (hZ ((13:Nat):Int)))=some (.string (fG ((13:Nat):Int))))
 | 14,_=>exact(by kernel_rfl:pr hH (u4 364 (ia K15.mk) (hZ ((14:Nat):Int)))=some (.string (fG ((14:Nat):Int))))
 | n+15,c=>exact absurd (.inr cK) c
def ail:List Nat:=[107,114,110,101,102]
def ao5(c:Nat):ByteArray:=⟨#[c.toUInt8]⟩
def C312(k:Int)(c:Nat)(hc:c∈ail)(w:World):CR 312 [.string (fG k),.string (ao5 c)] w (λv w'=>v=.bool (eU (fG k) c)/\Ext w w'):=by
 have u:=St.start w;refine fg Tryz.func312 ?_;refine aV agp u (C337 (fG k) c.toUInt8 _) (λ_ B u=>cR ?_);refine⟨vb ?_,u.aG⟩;have h1:=Xy (iQ (fG k)) c.toUInt8;have h2:c.toUInt8.toNat=c:=(by decide:∀c∈ail,c.toUInt8.toNat=c) c hc;unfold eU;rw[show(λb:UInt8=>decide ((b.toNat:Int)=(c:Int)))=λb=>decide (b=c.toUInt8)from funext λ_=>ga.2 ⟨λ_=>UInt8.toNat_inj.1 cK,λh=>by rw[h,h2]⟩];exact(Bool.eq_iff_iff.2 (decide_eq_true_iff.trans h1))
def C311(k:Int)(c b2:Nat)(w:World)(hc:Cell w b2 0 (.string (fG k)))(B:c∈ail):CR 311 [.string (ao5 c),.pointer (some ⟨b2,0,none⟩)] w (λv w'=>v=.bool (eU (fG k) c)/\Ext w w'):=by
 have u:=St.start w;refine fg Tryz.func311 ?_;exact bO gw (hc.ext u.aG) (aV ao4 u (C312 k c B _) λ_ _ u=>⟨rfl,u.aG⟩)
def C313(b:Bool)(s:ByteArray)(w:World):CR 313 [.bool b,.string s] w (λv w'=>v=.bool ((b&&gK s)||(!b&&decide (s=⟨#[]⟩)))/\Ext w w'):=by
 have u:=St.start w;refine fg Tryz.func313 ?_;refine⟨λB w'=>B=.bool ((b&&gK s)||(!b&&decide (s=⟨#[]⟩)))/\St w aZ [] w',aY (λ_=>aV LK u (C180 _ _) λ_ _ u=>aY (λ_=>⟨vb dD,u⟩) λ_=>bR (aY (λ_=>jI ⟨vb dD,u⟩) λ_=>⟨vb dD,u⟩)) (λ_=>bR (aY (λ_=>jI ⟨vb dD,u⟩) λ_=>⟨vb dD,u⟩)),?_⟩;rintro _ _ ⟨rfl,u⟩ _;exact⟨rfl,u.aG⟩
def C314(b:Bool)(lv:Value)(xs:List cA)(w:World)(B:dC (λ_=>True) w lv xs)(G:xs.length<=1048576):CR 314 [.bool b,lv] w (λv w'=>v=.bool ((b&&fC xs)||(!b&&decide (xs.length=0)))/\Ext w w'):=by
 have u:=St.start w;refine fg Tryz.func314 ?_;refine⟨λE w'=>E=.bool ((b&&fC xs)||(!b&&decide (xs.length=0)))/\St w aZ [] w',aY (λ_=>aV R2 u (C185 _ _ _ (B.ext u.aG) cK) λ_ _ u=>aY (λ_=>⟨vb dD,u⟩) λ_=>bR (aY (λ_=>aK gX (B.ext u.aG) (aH ⟨vb dD,u⟩)) λ_=>⟨vb dD,u⟩)) (λ_=>bR (aY (λ_=>aK gX (B.ext u.aG) (aH ⟨vb dD,u⟩)) λ_=>⟨vb dD,u⟩)),?_⟩;rintro _ _ ⟨rfl,u⟩ _;exact⟨rfl,u.aG⟩
theorem L9{x:bQ}{u:Bool}(h:u=(if eU (fG x.kind) 107=true then decide (1<=x.n/\x.n<=8)else decide (x.n=0))) :
  (!(decide (1<=x.kind/\x.kind<15/\0<=x.at_/\x.at_<=4000)&&u)||(!(eU (fG x.kind) 114&&gK x.eF||!eU (fG x.kind) 114&&decide (x.eF=⟨#[]⟩))||(!(eU (fG x.kind) 110&&gK x.name||!eU (fG x.kind) 110&&decide (x.name=⟨#[]⟩)) ||
  (!(eU (fG x.kind) 101&&fC x.e||!eU (fG x.kind) 101&&decide (x.e.length=0))||!(eU (fG x.kind) 102&&fC x.f||!eU (fG x.kind) 102&&decide (x.f.length=0)))))) = !m9 x:=by
 subst h
 have I:gK x.eF=true->¬ x.eF=⟨#[]⟩:=λh e=>by rw[e]at h;exact absurd h ee
 have E:gK x.name=true->¬ x.name=⟨#[]⟩:=λh e=>by rw[e]at h;exact absurd h ee
 have B:fC x.e=true->¬ x.e.length=0:=λh e=>by rw[uX.1 e]at h;exact absurd h ee
 have G:fC x.f=true->¬ x.f.length=0:=λh e=>by rw[uX.1 e]at h;exact absurd h ee
 unfold m9
 cases h1:eU (fG x.kind) 114<;>cases h2:eU (fG x.kind) 110<;>cases h3:eU (fG x.kind) 101<;>cases h4:eU (fG x.kind) 102<;>cases h5:eU (fG x.kind) 107<;>simp<;>grind
def C283(x:bQ)(Z:bE)(w:World)(hx:mh w Z x)(W:x.e.length<=1048576)(O:x.f.length<=1048576):CR 283 [ia Z] w (λv w'=>v=.bool (!m9 x)/\Ext w w'):=by
 obtain⟨J,Y,rfl,LG,Hf⟩:=hx;have u:=St.start w;refine oM Tryz.func283 (pl:=avA) ?_;refine cI u (λI _ u=>aA dM (aB (v:=hZ x.kind) bM u.hb rfl (aV aoL u (C310 _ _) λ_ B u=>gC u afQ rfl λE _ u=>aT u gw (dL rfl) (rfl) λ_ u=>aA jQ (aB (v:=hZ x.n) bM u.p1.hb rfl (aH ⟨λG w'=>G=.bool (if eU (fG x.kind) 107=true then decide (1<=x.n/\x.n<=8)else decide (x.n=0))/\St w aZ [bY E [.string (fG x.kind)],bY I (j0 (⟨x.kind,x.eF,x.name,J,Y,x.n,x.body,x.eu,x.at_⟩:bE))] w',?_,?_⟩)))))
 .refine gV L8 (C311 x.kind 107 E _ (u.hb.cell rfl) ee) ?_;rintro _ _ ⟨rfl,B⟩;have u:=u.ext B;exact aY (λ_=>aA jQ (aB (v:=hZ x.n) bM u.p1.hb rfl (cR (aC (λ_=>aA jQ (aB (v:=hZ x.n) bM u.p1.hb rfl (iE ⟨vb dD,u⟩))) λ_=>⟨vb dD,u⟩)))) (λ_=>⟨vb dD,u⟩)
 rintro _ _ ⟨rfl,u⟩ _;refine⟨λG w'=>G=.bool (decide (1<=x.kind/\x.kind<15/\0<=x.at_/\x.at_<=4000)&&(if eU (fG x.kind) 107=true then decide (1<=x.n/\x.n<=8)else decide (x.n=0)))/\St w aZ [bY E [.string (fG x.kind)],bY I (j0 (⟨x.kind,x.eF,x.name,J,Y,x.n,x.body,x.eu,x.at_⟩:bE))] w',?_,?_⟩
 .refine aA dM (aB (v:=hZ x.kind) bM u.p1.hb rfl (cR ?_));exact aC (λ_=>aA dM (aB (v:=hZ x.kind) bM u.p1.hb rfl (aR (aC (λ_=>aA lL (aB (v:=hZ x.at_) bM u.p1.hb rfl (cR (aC (λ_=>aA lL (aB (v:=hZ x.at_) bM u.p1.hb rfl (iE (aC (λ_=>⟨vb dD,u⟩) λ_=>⟨vb dD,u⟩)))) λ_=>⟨vb dD,u⟩)))) λ_=>⟨vb dD,u⟩)))) (λ_=>⟨vb dD,u⟩)
 rintro _ _ ⟨rfl,u⟩ _;refine⟨λG w'=>G=.bool (!m9 x)/\St w aZ [bY E [.string (fG x.kind)],bY I (j0 (⟨x.kind,x.eF,x.name,J,Y,x.n,x.body,x.eu,x.at_⟩:bE))] w',bR (aY (λ_=>have u:=u.drew;⟨vb (by rw[<- L9 rfl];grind),u⟩) λR7=>?_),?_⟩
 .refine aA iH (have u:=u.drew;aB (v:=.string x.eF) gw u.p1.hb rfl (gV L8 (C311 x.kind 114 E _ (u.hb.cell rfl) ee) ?_));rintro _ _ ⟨rfl,B⟩;have u:=u.ext B;refine⟨aF gw (u.p1.hb.cell rfl),?_⟩;refine gV agr (C313 _ x.eF _) ?_;rintro _ _ ⟨rfl,B⟩;have u:=u.ext B;refine bR (aY (λ_=>⟨vb (by rw[<- L9 rfl];grind),u⟩) λagv=>aA fZ (aB (v:=.string x.name) gw u.p1.hb rfl (gV L8 (C311 x.kind 110 E _ (u.hb.cell rfl) ee) ?_)));rintro _ _ ⟨rfl,B⟩;have u:=u.ext B;refine⟨aF gw (u.p1.hb.cell rfl),?_⟩;refine gV agr (C313 _ x.name _) ?_
  rintro _ _ ⟨rfl,B⟩;have u:=u.ext B;refine bR (aY (λ_=>⟨vb (by rw[<- L9 rfl];grind),u⟩) λV=>aA iX (aB jx u.p1.hb rfl ?_));have M:=DL.flat LG;refine gV L8 (C311 x.kind 101 E _ (u.hb.cell rfl) ee) ?_;rintro _ _ ⟨rfl,B⟩;have u:=u.ext B;refine⟨aF jx (u.p1.hb.cell rfl),?_⟩;refine gV ags (C314 _ _ x.e _ (M.ext u.aG) W) ?_;rintro _ _ ⟨rfl,B⟩;have u:=u.ext B;refine bR (aY (λ_=>⟨vb (by rw[<- L9 rfl];grind),u⟩) λagc=>aA j6 (aB jx u.p1.hb rfl ?_));have U:=DL.flat Hf;refine gV L8 (C311 x.kind 102 E _ (u.hb.cell rfl) ee) ?_
  rintro _ _ ⟨rfl,B⟩;have u:=u.ext B;refine⟨aF jx (u.p1.hb.cell rfl),?_⟩;refine gV ags (C314 _ _ x.f _ (U.ext u.aG) O) ?_;rintro _ _ ⟨rfl,B⟩;have u:=u.ext B;exact bR ⟨vb (by rw[<- L9 rfl];grind),u⟩
 rintro _ _ ⟨rfl,u⟩ _;exact⟨rfl,u.drop.drop.aG⟩
def B3{l:List cA}(h:fC l=true):∀y∈l,0<=y.at_:=by
 intro y B
 unfold fC at h
 have u:l.any lj=false:=dD
 rw[AK]at u
 have:=u y B
 unfold lj at this
 grind
structure ao6(x:bQ):Prop where
 kind:1<=x.kind/\x.kind<=14
 at0:0<=x.at_/\x.at_<=4000
 e:(eU (fG x.kind) 101=true/\fC x.e=true)\/(eU (fG x.kind) 101=false/\x.e=[])
 f:(eU (fG x.kind) 102=true/\fC x.f=true)\/(eU (fG x.kind) 102=false/\x.f=[])
 eF:(eU (fG x.kind) 114=true/\gK x.eF=true)\/(eU (fG x.kind) 114=false/\x.eF=⟨#[]⟩)
 name:(eU (fG x.kind) 110=true/\gK x.name=true)\/(eU (fG x.kind) 110=false/\x.name=⟨#[]⟩)
 n:(eU (fG x.kind) 107=true/\1<=x.n/\x.n<=8)\/(eU (fG x.kind) 107=false/\x.n=0)
def yj{x:bQ}(h:m9 x=true):ao6 x:=by
 unfold m9 at h
 simp only[ob,sk,Bool.or_eq_false_iff,decide_eq_false_iff_not,bne_eq_false_iff_eq,Bool.and_eq_false_iff,Bool.not_eq_false',vh]at h
 obtain⟨⟨⟨h1,h2⟩,h3⟩,h4⟩:=h
 constructor
 .omega
 .omega
 .grind
 .grind
 .grind
 .grind
 grind
def adj{x:bQ}(h:m9 x=true):0<=x.at_/\(∀y∈x.e,0<=y.at_)/\(∀y∈x.f,0<=y.at_):=by
 have h:=yj h
 refine⟨h.at0.1,?_,?_⟩
 .rcases h.e with h|h
  .exact B3 h.2
  grind
 rcases h.f with h|h
 .exact B3 h.2
 grind
theorem aim:eU (fG 12) 107=true:=ee
theorem lx{l:List bQ}(h:pO l=true):l.length<=40/\(∀x∈l,m9 x=true)/\∃t:Bk,l=t.flat/\t.str/\t.ok 0=true/\t.depth<=12:=by
 unfold pO at h
 simp only[ob,decide_eq_true_eq,sk]at h
 obtain⟨⟨h1,h2⟩,h3⟩:=h
 rw[AK]at h2
 refine⟨h1,λx u=>dD,?_⟩
 unfold fE at h3
 cases hb:tc l with
 | none=>grind
 | some t=>
  rw[hb]at h3
  obtain⟨E,B⟩:=nX hb
  grind
structure PF(p:cE):Prop where
 lines:∀l∈p.lines,l≠[]/\∀c∈l,iS 4294967296 c=false
 iR:∀c∈p.iR,iS 4294967296 c=false
 eJ:∀c∈p.eJ,iS 0 c=false
 th:∀t∈p.threads,mD true t=false
 rc:∀t∈p.recover,mD false t=false
 cl:∀c∈p.dS,0<=c.at_/\fC c.e=true
 one:p.recover.length<=1
def qD{p:cE}(h:kr p=true):PF p:=by
 unfold kr nY nL at h
 simp only[ob,sk,AK,decide_eq_true_eq]at h
 obtain⟨⟨h1,h2⟩,⟨⟨h3,h4⟩,h5⟩,h6⟩:=h
 refine⟨λl u=>?_,λc hc=>dD,λc hc=>dD,λt ht=>dD,λt ht=>dD,λc hc=>?_,h6⟩
 .have:=h1 l u
  unfold nR nY at this
  grind
 have:=h2 c hc
 unfold lT rD at this
 grind
def zG{nb:Bool}{t:cN}(h:mD nb t=false):0<=t.at_/\pO t.body=true/\(∀s∈t.dQ,gK s=true)/\gK t.name=nb:=by
 unfold mD sq rD at h
 grind
def zH{m:Int}{c:cJ}(h:iS m c=false):0<=c.at_/\gK c.name=true/\0<=c.n/\c.n<=m:=by
 unfold iS rD at h
 grind
def gm(p:cE):List cN:=p.threads++p.recover
def PF.qS{p:cE}(h:PF p){t:cN}(ht:t∈gm p):0<=t.at_/\pO t.body=true/\∀s∈t.dQ,gK s=true:=by
 unfold gm at ht
 rcases pU.1 ht with ht|ht
 .have:=zG (h.th t ht);grind
 have:=zG (h.rc t ht);grind
def eW(p:cE):List Int:=(iu p).map cJ.n
def ey(p:cE):Int:=(p.lines.flatten.length:Int)
def XR(p:cE):((iu p).length:Int)-p.iR.length=ey p:=by unfold iu ey;rw[la];omega
def cT(p:cE):List ByteArray:=(iu p).map cJ.name
def cM(p:cE):List ByteArray:=p.eJ.map cJ.name
def js:List (List cJ)->Int->Int->Int
 | [],i,a=>i+a
 | l::r,i,a=>if a<l.length then i else js r (i+1) (a-l.length)
def pC(p:cE)(c:Int):Int:=if c<0\/(iu p).length<=c then -1 else js p.lines 0 c
def pa(l:List cA)(ns:List ByteArray):Bool:=l.any λx=>decide (x.op=2)&&decide (cU ns x.name<0)
def ri(x:bQ)(n:Int):Int:=if x.kind=12 then n*x.n else n
def mG:Bk->Int->Bool
 | .nil,_=>false
 | .cons x a b r,n=>decide (64<ri x n)||(mG a (ri x n)||mG b (ri x n))||mG r n
def Bk.app:Bk->Bk->Bk
 | .nil,t=>t
 | .cons x a b r,t=>.cons x a b (r.app t)
theorem Bk.AZ(a b:Bk):(a.app b).flat=a.flat++b.flat:=by
 induction a with
 | nil=>rfl
 | cons x c d r _ _ u=>grind[flat,app]
theorem Bk.R8{a b:Bk}(u:a.str)(hb:b.str):(a.app b).str:=by
 induction a with
 | nil=>exact hb
 | cons x c d r _ _ B=>
  grind[str,app]
theorem Hn(a b:Bk)(n:Int):mG (a.app b) n=(mG a n||mG b n):=by
 induction a with
 | nil=>simp[Bk.app,mG]
 | cons x c d r _ _ u=>simp only[Bk.app,mG,u,Bool.or_assoc]
def rj(l:List bQ):Bool:=match tc l with|some t=>mG t 1|none=>false
theorem vv{t:Bk}(h:t.str):rj t.flat=mG t 1:=by unfold rj;rw[rO h]
def fP(p:cE):List cJ:=iu p++p.eJ++p.threads.map (λt=>⟨t.name,0,t.at_⟩)
def Dw(l:List cJ)(j:Nat):Bool:=match l[j]? with|some c=>decide (cU (l.map cJ.name) c.name<j)|none=>false
def kx(l:List cJ):Bool:=(u3 l.length).any (Dw l)
def R9(p:cE)(rs:List ByteArray)(j:Nat):Bool:=match rs[j]? with|some s=>decide (cU rs s<j)||decide (0<=cU (cT p) s)||decide (0<=cU (cM p) s)|none=>false
def uR(p:cE)(rs:List ByteArray):Bool:=(u3 rs.length).any (R9 p rs)
theorem Mb{f:Nat->Bool}{n:Nat}(h:∀j,j<n->f j=false):(u3 n).any f=false:=by
 grind
theorem Mc{f:Nat->Bool}{n j:Nat}(u:j<n)(h:f j=true):(u3 n).any f=true:=xo.2 ⟨j,Lx.2 u,h⟩
def Sa{f:Nat->Bool}{k:Nat}(h:∀j,j<k->f j=false)(B:f k=false):∀j,j<k+1->f j=false:=λj u=>by
 grind
def nc(p:cE)(rs:List ByteArray)(x:bQ):Bool:=
 (decide (¬ x.eF=⟨#[]⟩)&&decide (cU rs x.eF<0)) ||
 ((decide (x.kind=2)||decide (x.kind=3)||decide (x.kind=4))&&decide (cU (cT p) x.name<0)) ||
 ((decide (x.kind=5)||decide (x.kind=6))&&(decide (cU (cT p) x.name<0)||decide (ey p<=cU (cT p) x.name))) ||
 ((decide (x.kind=9)||decide (x.kind=10))&&decide (cU (cM p) x.name<0))||pa x.e rs||pa x.f rs
def uS(p:cE):Bool:=p.lines.any (λl=>decide (4<(l.length:Int)))||(gm p).any (λt=>decide (4<(t.dQ.length:Int))) ||
 (decide (4<(p.lines.length:Int))||decide (4<(p.iR.length:Int))||decide (2<(p.eJ.length:Int))||decide ((p.threads.length:Int)<1)||decide (3<(p.threads.length:Int))||decide (4<(p.dS.length:Int)))
def gn(p:cE):List ByteArray:=(cT p).take (ey p).toNat
def fm(p:cE):Int:=
 if kr p=false then 8 else if uS p=true then 2 else if (gm p).any (λt=>rj t.body)=true then 11 else if kx (fP p)=true then 10
 else if (gm p).any (λt=>uR p t.dQ)=true then 10 else if (gm p).any (λt=>t.body.any (nc p t.dQ))=true then 9
 else if p.dS.any (λc=>pa c.e (gn p))=true then 9 else 0
def Jg{x:bQ}(h:m9 x=true):0<=x.at_/\(x.kind=12->1<=x.n/\x.n<=8):=by
 have h:=yj h
 refine⟨h.at0.1,λu=>?_⟩
 rcases h.n with h|h
 .exact h.2
 rw[u,aim]at h;grind
section
variable {p:cE}
theorem ce8(h1:kr p=false):fm p=8:=by unfold fm;grind
theorem ce2(h1:kr p=true)(h2:uS p=true):fm p=2:=by grind[fm]
theorem ao7(h1:kr p=true)(h2:uS p=false)(h3:(gm p).any (λt=>rj t.body)=true):fm p=11:=by grind[fm]
theorem ao8(h1:kr p=true)(h2:uS p=false)(h3:(gm p).any (λt=>rj t.body)=false)(h4:kx (fP p)=true):fm p=10:=by
 grind[fm]
theorem agw(h1:kr p=true)(h2:uS p=false)(h3:(gm p).any (λt=>rj t.body)=false)(h4:kx (fP p)=false)(h5:(gm p).any (λt=>uR p t.dQ)=true):fm p=10:=by
 grind[fm]
theorem ce9(h1:kr p=true)(h2:uS p=false)(h3:(gm p).any (λt=>rj t.body)=false)(h4:kx (fP p)=false)(h5:(gm p).any (λt=>uR p t.dQ)=false)
  (h6:(gm p).any (λt=>t.body.any (nc p t.dQ))=true):fm p=9:=by
 grind[fm]
theorem ao9(h1:kr p=true)(h2:uS p=false)(h3:(gm p).any (λt=>rj t.body)=false)(h4:kx (fP p)=false)(h5:(gm p).any (λt=>uR p t.dQ)=false)
  (h6:(gm p).any (λt=>t.body.any (nc p t.dQ))=false) (u:p.dS.any (λc=>pa c.e (gn p))=true):fm p=9:=by
 grind[fm]
theorem ce0(h1:kr p=true)(h2:uS p=false)(h3:(gm p).any (λt=>rj t.body)=false)(h4:kx (fP p)=false)(h5:(gm p).any (λt=>uR p t.dQ)=false)
  (h6:(gm p).any (λt=>t.body.any (nc p t.dQ))=false) (u:p.dS.any (λc=>pa c.e (gn p))=false):fm p=0:=by
 grind[fm]
theorem PF.decl(h:PF p):∀c∈fP p,0<=c.at_:=by
 intro c hc
 unfold fP iu at hc
 rcases pU.1 hc with hc|hc
 .rcases pU.1 hc with hc|hc
  .rcases pU.1 hc with hc|hc
   .obtain⟨l,u,hc⟩:=List.mem_flatten.1 hc
    exact(zH ((h.lines l u).2 c hc)).1
   exact(zH (h.iR c hc)).1
  exact(zH (h.eJ c hc)).1
 obtain⟨t,ht,rfl⟩:=oj.1 hc
 exact(zG (h.th t ht)).1
theorem Ud(u:PS p):(fP p).length<=252000:=by
 have:=kV u
 have:=u.eJ
 have:=u.threads
 grind[fP]
theorem mH(u:PS p):(cT p).length<=250500:=by unfold cT;rw[n0];exact kV u
theorem Dx(u:PS p):(gm p).length<=1000:=by
 have:=u.threads
 have:=u.recover
 grind[gm]
theorem PZ.qS(u:PZ p){t:cN}(ht:t∈gm p):Xh t/\t.dQ.length<=500/\t.body.length<=500:=by
 refine⟨?_,u.dQ t ht,u.body t ht⟩
 rcases pU.1 ht with h|h
 .exact u.zt t h
 exact u.zr t h
end
def C118(p:cE)(pv:bP)(w:World)(hp:mh w pv p)(B:PZ p):CR 118 [ia pv] w (λv w'=>v=.bool (kr p)/\Ext w w'):=by
 obtain⟨I,bU,bL,J,Z,V,rfl,cQ,dG,cW,cC,cD,cP⟩:=hp;have u:=St.start w;refine fg Tryz.func118 ?_;refine cI u (λO w1 u=>?_);refine⟨λm x w1=>∃k:Nat,x=hZ (k:Int)/\m=p.lines.length-k/\k<=p.lines.length/\(∀y∈p.lines.take k,nR y=false)/\St w aZ [bY O (j0 (⟨I,bU,bL,J,Z,V⟩:bP))] w1,⟨_,0,rfl,rfl,l1 _,ei,u⟩,?_⟩;rintro m _ _ ⟨k,rfl,rfl,hk,eG,u⟩ _;have hzl:=B.lines;refine aA gy (aB oP u.hb rfl ?_);obtain⟨ain,Ue,XS⟩:=cQ.open
 have avC:=XS.1;refine aK pJ (Ue.ext u.aG) (aR (aC (λjJ=>?_) λjJ=>?_))
 .obtain⟨Ew,qR⟩:=gx ain (i:=(k:Int).toNat) cK;obtain⟨M,EU⟩:=gx p.lines (i:=(k:Int).toNat) cK;have apa:DL w (ia Ew) M:=XS.2 _ _ _ qR EU;refine⟨λjv w'=>jv=.bool (nR M)/\St w aZ [bY O (j0 (⟨I,bU,bL,J,Z,V⟩:bP))] w',?_,?_⟩
  .refine aA gy (aB oP u.hb rfl (aQ pJ (Ue.ext u.aG) cK qR λ_ uK=>aD jM uK ?_));have W:=DL.flat apa;exact aK im (W.ext u.aG) (aH (aC (λ_=>⟨vb (by unfold nR;grind),u⟩) λ_=>aA gy (aB oP u.hb rfl (aQ pJ (Ue.ext u.aG) cK qR λ_ qC=>aD jM qC (aV V7 u (C198 _ _ _ _ (W.ext u.aG) (by have:=B.line _ (kE EU);omega) (B.zl _ (kE EU))) λ_ _ u=>bR ⟨vb (by unfold nR;grind),u⟩)))))
  rintro _ _ ⟨rfl,u⟩ _;refine aY (λlr=>?_) (λlr=>aN cK ⟨_,cK,k+1,rfl,rfl,cK,dZ eG EU lr,u⟩);refine⟨vb ?_,u.drop.aG⟩;unfold kr;rw[ic EU lr];rfl
 have Y:=eG;refine⟨λm x w1=>∃E:Nat,x=hZ (E:Int)/\m=p.dS.length-E/\E<=p.dS.length/\(∀y∈p.dS.take E,lT y=false)/\St w aZ [bY O (j0 (⟨I,bU,bL,J,Z,V⟩:bP))] w1,⟨_,0,rfl,rfl,l1 _,ei,u⟩,?_⟩;rintro m _ _ ⟨E,rfl,rfl,W9,Pd,u⟩ _;have hzc:=B.dS;refine aA jw (aB qQ u.hb rfl ?_);obtain⟨avD,G,U⟩:=cP.open;have hn13:=U.1;refine aK sX (G.ext u.aG) (aR (aC (λj9=>?_) λj9=>⟨λjv w'=>jv=.bool (nY 4294967296 p.iR&&nY 0 p.eJ&&nL true p.threads&&nL false p.recover&&decide (p.recover.length<=1))/\St w aZ [bY O (j0 (⟨I,bU,bL,J,Z,V⟩:bP))] w',?_,?_⟩))
 .obtain⟨Md,B4⟩:=gx avD (i:=(E:Int).toNat) cK;obtain⟨agy,EV⟩:=gx p.dS (i:=(E:Int).toNat) cK;obtain⟨adl,rfl,adm⟩:=U.2 _ _ _ B4 EV;refine⟨λjv w'=>jv=.bool (lT agy)/\St w aZ [bY O (j0 (⟨I,bU,bL,J,Z,V⟩:bP))] w',aA jw (aB qQ u.hb rfl (aQ sX (G.ext u.aG) cK B4 λ_ yQ=>bW agy.at_ IQ yQ rfl rfl λ_ xj=>aD bM xj (aV Ro u (C199 _ _) λ_ he u=>bR (aY (λ_=>⟨vb (by unfold lT;grind),u⟩) λqE=>?_)))),?_⟩
  .refine aA jw (aB qQ u.hb rfl (aQ sX (G.ext u.aG) cK B4 λ_ AS=>bW adl vl AS rfl rfl λ_ LF=>aD jx LF ?_));have avE:=DL.flat adm;exact aV KI u (C200 _ _ _ (avE.ext u.aG) (B.zc _ (kE EV)).1 (B.zc _ (kE EV)).2) (λ_ _ u=>bR ⟨vb (by unfold lT;grind),u⟩)
  rintro _ _ ⟨rfl,u⟩ _;refine aY (λuT=>?_) (λuT=>aN cK ⟨_,cK,E+1,rfl,rfl,cK,dZ Pd EV uT,u⟩);refine⟨vb ?_,u.drop.aG⟩;unfold kr;rw[ic EV uT];simp
 .refine aA qf (aB jM u.hb rfl ?_);have avF:=DL.flat dG;refine aV V7 u (C198 _ _ _ _ (avF.ext u.aG) (by have:=B.iR;omega) B.zv) (λ_ he u=>aY (λRR=>?_) λ_=>⟨vb dD,u⟩);refine aA nQ (aB jM u.hb rfl ?_);have aip:=DL.flat cW;refine aV V7 u (C198 _ _ _ _ (aip.ext u.aG) (by have:=B.eJ;omega) B.zk) (λ_ he u=>aY (λc_x59=>aA kG (aB iB u.hb rfl (aV afC u (C201 _ _ true _ (cC.ext u.aG) (by have:=B.threads;omega) λ_ ht=>B.qS (List.mem_append_left _ ht)) λ_ he u=>aY (λuU=>aA oQ (aB iB u.hb rfl (aV afC u (C201 _ _ false _ (cD.ext u.aG) (by have:=B.recover;omega) λ_ ht=>B.qS (List.mem_append_right _ ht)) λ_ he u=>aY (λaf2=>?_) λ_=>⟨vb dD,u⟩))) λ_=>⟨vb dD,u⟩))) λ_=>⟨vb dD,u⟩)
  refine aA oQ (aB iB u.hb rfl ?_);obtain⟨ts17,avG,avH⟩:=cD.open;have hn17:=avH.1;exact aK fy (avG.ext u.aG) (iE ⟨vb dD,u⟩)
 rintro _ _ ⟨rfl,u⟩ _;refine⟨vb ?_,u.drop.aG⟩;unfold kr;rw[iD (by rw[kO cK]at Y;exact Y),iD (by rw[kO cK]at Pd;exact Pd)];rfl
def C63(p:cE)(pv:bP)(w:World)(hp:mh w pv p)(W:PZ p):CR 63 [ia pv] w (λv w'=>lh (bH v (eW p)) w w'):=by
 obtain⟨E,V,U,J,I,G,rfl,cQ,dG,cW,cC,cD,cP⟩:=hp;have u:=St.start w;refine fg Tryz.func63 ?_;refine cI u (λko M u=>bD ([]:List Int) u cS rfl rfl (dL rfl) λadn _ u=>aD er u.p1.At (dY TJ u (C59 p _ _ ⟨E,V,U,J,I,G,rfl,cQ.ext u.aG,dG.ext u.aG,cW.ext u.aG,cC.ext u.aG,cD.ext u.aG,cP.ext u.aG⟩ W.toPS) λx8 _ cL u=>?_));have u:=u.p2.p1.p2;refine⟨λm y x M=>∃k:Nat,x=hZ (k:Int)/\m=(iu p).length-k/\k<=(iu p).length/\St w aZ [bH y (((iu p).take k).map cJ.n),bH x8 (iu p),bY ko (j0 (⟨E,V,U,J,I,G⟩:bP))] M,⟨_,0,rfl,rfl,cK,u⟩,?_⟩
 rintro m nk _ _ ⟨k,rfl,rfl,hk,u⟩ _;have hac:=kV W.toPS;have CB:(((iu p).take k).map cJ.n).length=k:=by rw[n0,l0];omega
 refine aK im u.p1.dX (aR (aC (λnJ=>?_) λnJ=>?_))
 .obtain⟨Y,O⟩:=gx (iu p) (i:=(k:Int).toNat) cK;refine dR u.p1 im cK cK (λ_ uL=>mA rZ uL λ_ lS=>nG Y.n u.p1 bM lS O rfl (bD ([Y.n]:List Int) u cS rfl rfl (dL rfl) λZ _ u=>?_));have B:=u.dX;exact bJ u.p1 cS B (by simp<;>omega) ee (λ_ _ u=>have u:=u.p1.drop;aN cK (have u:=u.p2.p2.p2;⟨_,cK,k+1,rfl,rfl,cK,by rw[<- gd (k:=k) O];exact u⟩))
 have u:=u.p1.drop.p1.drop;rw[kO cK]at u;exact u.fresh
def C124(p:cE)(pv:bP)(w:World)(W:mh w pv p)(B:PZ p):CR 124 [ia pv] w (λv w'=>lh (bH v (cT p)) w w'):=by
 obtain⟨E,U,O,M,I,G,rfl,cQ,V,J,Y,cD,Z⟩:=W;have u:=St.start w;refine fg Tryz.func124 ?_;exact cI u (λ_ _ u=>aD er u.At (dY TJ u (C59 p _ _ ⟨E,U,O,M,I,G,rfl,cQ.ext u.aG,V.ext u.aG,J.ext u.aG,Y.ext u.aG,cD.ext u.aG,Z.ext u.aG⟩ B.toPS) λ_ _ _ u=>dY V8 u (C202 _ _ _ u.dX (by have:=kV B.toPS;omega)) λ_ _ _ u=>have u:=u.p1.drop.p1.drop;u.fresh))
def C125(p:cE)(pv:bP)(w:World)(G:mh w pv p)(I:PZ p):CR 125 [ia pv] w (λv w'=>lh (bH v (cM p)) w w'):=by
 obtain⟨J,Y,V,U,O,M,rfl,cQ,Z,E,cC,cD,cP⟩:=G;have u:=St.start w;refine fg Tryz.func125 ?_;refine cI u (λW _ u=>aA nQ (aB jM u.hb rfl ?_));have B:=DL.flat E;exact dY V8 u (C202 _ _ _ (B.ext u.aG) (by have:=I.eJ;omega)) (λ_ _ _ u=>have u:=u.p1.drop;u.fresh)
def C62(p:cE)(pv:bP)(w:World)(Z:mh w pv p)(E:PZ p):CR 62 [ia pv] w (λv w'=>v=hZ (ey p)/\Ext w w'):=by
 obtain⟨I,Y,W,U,M,J,rfl,cQ,G,O,cC,cD,cP⟩:=Z;have u:=St.start w;refine oM Tryz.func62 (pl:=P62) ?_;refine cI u (λko _ u=>have u:=u.drew;aD er u.At (aA qf (aB jM u.hb rfl ?_)));have B:=DL.flat G;refine aK im (B.ext u.aG) (dY TJ u (C59 p _ _ ⟨I,Y,W,U,M,J,rfl,cQ.ext u.aG,G.ext u.aG,O.ext u.aG,cC.ext u.aG,cD.ext u.aG,cP.ext u.aG⟩ E.toPS) λx4 _ cL u=>?_);refine⟨aF jM (u.p1.hb.cell rfl),?_⟩
 refine aK im u.dX ?_;have hac:=kV E.toPS;have V:=E.iR;exact fh cK (have u:=u.drop.drop;⟨gO (ni .i64) (XR p),u.aG⟩)
theorem XT{l:List cJ}{r:List (List cJ)}{i a:Int}(h:¬ a<l.length):js (l::r) i a=js r (i+1) (a-l.length):=by rw[js,ej h]
def XU{x:bQ}{n m:Int}(u:1<=n/\n<=64)(h:x.kind=12->1<=x.n/\x.n<=8)(B:m=ri x n):1<=m/\m<=512:=by
 rw[B];unfold ri
 split
 .rename_i hk
  have:=h hk
  have h1:=Kd (a:=1) (b:=1) u.1 this.1 cK cK
  have h2:=Kd (c:=64) (d:=8) u.2 this.2 cK cK
  omega
 omega
theorem Bk.Dy{t:Bk}(h:¬ (t.flat.length:Int)=0):∃x a b r,t=.cons x a b r:=by
 cases t with
 | nil=>exact absurd rfl h
 | cons x a b r=>grind
theorem Bk.CY{x:bQ}{a b r:Bk}(h:(Bk.cons x a b r).str){hi lo:Int}(h1:hi=1+x.body+x.eu)(h2:lo=1):((Bk.cons x a b r).flat.take hi.toNat).drop lo.toNat=(a.app b).flat:=by
 obtain⟨E,B,_⟩:=h
 have u:=a.cY
 have lb:=b.cY
 rw[Bk.AZ,vu _ (a:=1) (n:=(a.flat++b.flat).length) dD cK]
 grind[flat]
theorem Bk.ais{x:bQ}{a b r:Bk}(h:(Bk.cons x a b r).str){hi:Int}(h1:hi=1+x.body+x.eu):(Bk.cons x a b r).flat.drop hi.toNat=r.flat:=by
 obtain⟨E,B,_⟩:=h
 have u:=a.cY
 have lb:=b.cY
 have e:(Bk.cons x a b r).flat=(x::(a.flat++b.flat))++r.flat:=by simp[Bk.flat]
 rw[e,show hi.toNat=(x::(a.flat++b.flat)).length from by simp;omega,Eu]
theorem yk{l:List cJ}{k:Nat}{c:cJ}(h:l[k]?=some c):Dw l k=decide (cU (l.map cJ.name) c.name<k):=by unfold Dw;rw[h]
theorem A0{p:cE}{l:List ByteArray}{k:Nat}{c:ByteArray}(h:l[k]?=some c):R9 p l k=(decide (cU l c<k)||decide (0<=cU (cT p) c)||decide (0<=cU (cM p) c)):=by unfold R9;rw[h]
theorem Dz(a b:Bk):(a.app b).len=a.len+b.len:=by rw[<- Bk.cY,Bk.AZ,la,Bk.cY,Bk.cY]
def C60(p:cE)(pv:bP)(c:Int)(w:World)(hp:mh w pv p)(hz:PZ p):CR 60 [ia pv,hZ c] w (λv w'=>v=hZ (pC p c)/\Ext w w'):=by
 obtain⟨M,bU,Z,V,U,O,rfl,cQ,dG,cW,cC,cD,cP⟩:=hp;have u:=St.start w;refine fg Tryz.func60 ?_;refine cI u (λG w1 u=>⟨λjv w'=>jv=.bool (decide (c<0)||decide (((iu p).length:Int)<=c))/\St w aZ [bY G (j0 (⟨M,bU,Z,V,U,O⟩:bP))] w',aR (aC (λ_=>⟨vb dD,u⟩) λ_=>aD er u.At (dY TJ u (C59 p _ _ ⟨M,bU,Z,V,U,O,rfl,cQ.ext u.aG,dG.ext u.aG,cW.ext u.aG,cC.ext u.aG,cD.ext u.aG,cP.ext u.aG⟩ hz.toPS) λ_ _ _ u=>aK im u.dX (cR (have u:=u.drop;⟨vb dD,u⟩)))),?_⟩)
 rintro _ _ ⟨rfl,u⟩ _;have hac:=kV hz.toPS;refine aY (λjr=>?_) (λjr=>?_)
 .refine⟨gO (ni .i64) ?_,u.drop.aG⟩;unfold pC;rw[ew dD]
 have hc2:0<=c/\c<(iu p).length:=dD
 refine⟨λm y x w1=>∃(k:Nat) (a:Int),y=hZ a/\x=hZ (k:Int)/\m=p.lines.length-k/\k<=p.lines.length/\0<=a/\a<=c/\js p.lines 0 c=js (p.lines.drop k) k a/\St w aZ [bY G (j0 (⟨M,bU,Z,V,U,O⟩:bP))] w1,⟨_,0,c,rfl,rfl,rfl,cK,cK,cK,rfl,u⟩,?_⟩;rintro m _ _ _ ⟨k,a,rfl,rfl,rfl,hk,ha0,hac1,B,u⟩ _;have hzl:=hz.lines;refine aA gy (aB oP u.hb rfl ?_);obtain⟨apf,J,I⟩:=cQ.open;have avK:=I.1;refine aK pJ (J.ext u.aG) (aR (aC (λkT=>?_) λkT=>?_))
 .refine aA gy (aB oP u.hb rfl ?_);obtain⟨W,Pe⟩:=gx apf (i:=(k:Int).toNat) cK;obtain⟨Y,Pf⟩:=gx p.lines (i:=(k:Int).toNat) cK;have api:DL w (ia W) Y:=I.2 _ _ _ Pe Pf;refine aQ pJ (J.ext u.aG) cK Pe (λ_ EJ=>aD jM EJ ?_);have E:=DL.flat api;refine aK im (E.ext u.aG) (aR (aC (λmf=>?_) λmf=>?_))
  .refine⟨gO (ni .i64) ?_,u.drop.aG⟩;rw[drop_cons (k:=k) Pf]at B;unfold pC;rw[ej cK,B];unfold js;rw[ew cK]
  refine aA gy (aB oP u.hb rfl (aQ pJ (J.ext u.aG) cK Pe λ_ xk=>aD jM xk (aK im (E.ext u.aG) (fh cK (aN cK ?_)))));rw[drop_cons (k:=k) Pf,XT cK]at B;exact⟨_,cK,k+1,_,rfl,rfl,rfl,cK,cK,cK,B,u⟩
 refine aA gy (aB oP u.hb rfl (aK pJ (J.ext u.aG) (aN cK ?_)));refine⟨gO (ni .i64) ?_,u.drop.aG⟩;rw[vF cK]at B;unfold pC;rw[ej cK,B];unfold js;omega
def C127(lv M:Value)(xs:List cA)(ns:List ByteArray)(w:World)(G:dC (λ_=>True) w lv xs)(hN:dC (λ_=>True) w M ns)(hn:xs.length<=1048576)(BB:ns.length<=1048576)(sB:∀y∈xs,0<=y.at_):CR 127 [lv,M] w (λv w'=>∃a:Int,v=hZ a/\decide (0<=a)=pa xs ns/\Ext w w'):=by
 have u:=St.start w;refine fg Tryz.func127 ?_;refine⟨λm x O=>∃k:Nat,x=hZ (k:Int)/\m=xs.length-k/\k<=xs.length/\(∀y∈xs.take k,(decide (y.op=2)&&decide (cU ns y.name<0))=false)/\St w aZ [] O,⟨_,0,rfl,rfl,l1 _,ei,u⟩,?_⟩;rintro m _ O ⟨k,rfl,rfl,hk,I,u⟩ _;refine aK gX (G.ext u.aG) (aR (aC (λjJ=>?_) λjJ=>?_))
 .obtain⟨E,B⟩:=gx xs (i:=(k:Int).toNat) cK;refine⟨λU w'=>U=.bool (decide (E.op=2)&&decide (cU ns E.name<0))/\St w aZ [] w',aQ gX (G.ext u.aG) cK B (λ_ V=>bW E.op fa V rfl rfl λ_ W=>aD bM W (aH (aC (λ_=>aQ gX (G.ext u.aG) cK B λ_ AV=>bW E.name gk AV rfl rfl λ_ Z=>aD gw Z (aV rT u (C123 _ ns _ _ (hN.ext u.aG) cK) λ_ _ u=>aR ⟨vb dD,u⟩)) λ_=>⟨vb dD,u⟩))),?_⟩;rintro _ _ ⟨rfl,u⟩ _;exact aY (λJ=>aQ gX (G.ext u.aG) cK B λ_ Y=>bW E.at_ r8 Y rfl rfl λ_ sw=>aD bM sw ⟨_,rfl,by unfold pa;rw[ic B J];exact ez (sB _ (kE B)),u.aG⟩) (λJ=>aN cK ⟨_,cK,k+1,rfl,rfl,cK,dZ I B J,u⟩)
 rw[kO cK]at I;exact⟨_,rfl,by unfold pa;rw[iD I];rfl,u.aG⟩
theorem C121(lv:Value)(t:Bk)(n:Int)(N:Nat)(w:World)(hL:DL w lv t.flat)(iV:t.str)(hq:∀x∈t.flat,0<=x.at_/\(x.kind=12->1<=x.n/\x.n<=8))(U:1<=n/\n<=64)(hl:t.len<=1048576)(hN:t.len<N):CR 121 [lv,hZ n] w (λv w'=>∃a:Int,v=hZ a/\decide (0<=a)=mG t n/\Ext w w'):=by
 have tX:=t.cY;have u:=St.start w;refine fg Tryz.func121 ?_;obtain⟨avL,J,E⟩:=hL.open;have hn22:=E.1;refine aK fq (J.ext u.aG) (aH (aC (λjD=>?_) λjD=>?_))
 .cases t with
  | nil=>exact⟨_,rfl,rfl,u.aG⟩
  | cons x a b r=>exact absurd tX (by rw[show(Bk.cons x a b r).len=a.len+b.len+r.len+1 from rfl];omega)
 obtain⟨x,a,b,r,rfl⟩:=Bk.Dy (t:=t) cK;obtain⟨uJ,vp⟩:=gx avL (i:=(0:Int).toNat) cK;obtain⟨B,XW⟩:=gx ((Bk.cons x a b r).flat) (i:=(0:Int).toNat) cK;obtain⟨Sb,Sc,rfl,as7,as8⟩:=E.2 _ _ _ vp XW;refine aQ fq (J.ext u.aG) cK vp (λ_ Ev=>?_);obtain rfl:B=x:=(oi.inj XW).symm;have I:=hq B (by simp[Bk.flat]);have XX:=iV;obtain⟨BF,Gb,Uh,hg4,hga,hgb,hgr⟩:=XX;have Gs:a.len+b.len+r.len+1<=1048576:=hl;have hNn:a.len+b.len+r.len+1<N:=hN;have hla:=a.cY;have Ob:=b.cY;have hlr:=r.cY
 have XV:(Bk.cons B a b r).flat.length=a.len+b.len+r.len+1:=Bk.cY _;refine aD eM Ev (aM u jy λJe _ u=>aI (x:=(⟨B.kind,B.eF,B.name,Sb,Sc,B.n,B.body,B.eu,B.at_⟩:bE)) u eM rfl rfl λ_ u=>⟨λjv w'=>∃m:Int,jv=hZ m/\m=ri B n/\St w aZ [bY Je (j0 (⟨B.kind,B.eF,B.name,Sb,Sc,B.n,B.body,B.eu,B.at_⟩:bE))] w',aA dM (aB (v:=hZ B.kind) bM u.hb rfl (aH (aC (λlR=>aA jQ (aB (v:=hZ B.n) bM u.hb rfl (IH (by have Ui:=I.2 lR;have h1:=Kd (a:=1) (b:=1) U.1 Ui.1 cK cK;have h2:=Kd (c:=64) (d:=8) U.2 Ui.2 cK cK;omega) ⟨_,rfl,by grind[ri],u⟩))) λ_=>⟨_,rfl,by grind[ri],u⟩))),?_⟩)
 rintro _ _ ⟨m,rfl,V,u⟩ _;have hm8:=XU U I.2 V;refine cO (aC (λ_=>aA lL (aB (v:=hZ B.at_) bM u.hb rfl ⟨_,rfl,by unfold mG;rw[<- V,ez (show(64:Int)<m by omega)];exact ez I.1,u.drop.aG⟩)) λnK=>aA iY (aB (v:=hZ B.body) bM u.hb rfl (aN cK (aA iI (aB (v:=hZ B.eu) bM u.hb rfl (aN cK (oz fq (J.ext u.aG) cK cK cK λapj ait=>?_)))))));have aiu:=DL.cut ait J E;refine dO V5 (C121 _ (a.app b) m (N-1) _ (by have h:=aiu.ext u.aG;rw[Bk.CY iV cK cK]at h;exact h) (Bk.R8 hga hgb) (λy M=>hq y (by rw[Bk.AZ]at M;simp only[Bk.flat,sl,pU];rcases pU.1 M with h|h<;>simp[h])) cK (by rw[Dz];omega) (by rw[Dz];omega)) ?_
 rintro _ _ ⟨a1,rfl,G,Y⟩;have u:=u.ext Y;rw[Hn]at G;refine cR (aC (λO=>⟨_,rfl,by unfold mG;rw[<- V];rw[ez O]at G;rw[<- G,ez O];simp,u.drop.aG⟩) λO=>zu fq (J.ext u.aG) cK cK λagA Z=>?_);have aiw:=DL.WM Z J E;refine dO V5 (C121 _ r n (N-1) _ (by have h:=aiw.ext u.aG;rw[Bk.ais iV cK]at h;exact h) hgr (λy M=>hq y (by simp[Bk.flat,M])) U cK cK) ?_;rintro _ _ ⟨a2,rfl,W,Y⟩;have u:=u.ext Y;exact⟨_,rfl,by unfold mG;rw[<- V];rw[<- G,W,fN (show ¬ (64:Int)<m by omega),fN O];rfl,u.drop.aG⟩
termination_by N
decreasing_by all_goals omega
def C120(p:cE)(pv:bP)(B E:List cH)(w:World)(U:mh w pv p)(h3:dC (λ_=>True) w (ia pv.threads) B)(h4:dC (λ_=>True) w (ia pv.recover) E)(J:B.length<=500)(G:E.length<=500):CR 120 [ia pv] w (λv w'=>lh (bH v (B++E)) w w'):=by
 obtain⟨W,bU,bL,aW,Z,Y,rfl,cQ,dG,cW,cC,cD,cP⟩:=U;have u:=St.start w;refine fg Tryz.func120 ?_;refine cI u (λko _ u=>bD ([]:List cH) u fy rfl rfl (dL rfl) λV _ u=>aA kG (aB iB u.p1.hb rfl ?_));have M:=(h3.ext u.aG);refine bJ u fy M (by simp<;>omega) ee (λI _ u=>aA oQ (aB iB u.p1.hb rfl ?_));have O:=(h4.ext u.aG);exact bJ u fy O (by simp;omega) ee (λ_ _ u=>have u:=u.p1.drop;u.fresh)
def C122(p:cE)(pv:bP)(w:World)(hp:mh w pv p)(B:PZ p)(sB:∀c∈fP p,0<=c.at_):CR 122 [ia pv] w (λv w'=>∃a:Int,v=hZ a/\decide (0<=a)=kx (fP p)/\Ext w w'):=by
 obtain⟨G,W,U,M,J,I,rfl,cQ,dG,cW,cC,cD,cP⟩:=hp;have u:=St.start w;refine abT _ _ _ ?_;unfold S122;refine cI u (λko O u=>bD ([]:List cJ) u im rfl rfl (dL rfl) λads _ u=>aD er u.p1.At (dY TJ u (C59 p _ _ ⟨G,W,U,M,J,I,rfl,cQ.ext u.aG,dG.ext u.aG,cW.ext u.aG,cC.ext u.aG,cD.ext u.aG,cP.ext u.aG⟩ B.toPS) λx9 _ cL u=>?_));have aix:=u.dX;refine bJ u.p1 im aix (by simp;have:=kV B.toPS;omega) ee (λanZ _ u=>have u:=u.p1.drop;aA nQ (aB jM u.p1.hb rfl ?_))
 have avO:=DL.flat cW;have jb:=(avO.ext u.aG);refine bJ u im jb (by simp;have:=kV B.toPS;have:=B.eJ;omega) ee (λY _ u=>?_);have u:=u.p1.p1;refine⟨λm y x O=>∃k:Nat,x=hZ (k:Int)/\m=p.threads.length-k/\k<=p.threads.length/\St w aZ [bH y (iu p++p.eJ++(p.threads.take k).map λt=>(⟨t.name,0,t.at_⟩:cJ)),bY ko (j0 (⟨G,W,U,M,J,I⟩:bP))] O,⟨_,0,rfl,rfl,cK,by simpa using u⟩,?_⟩;rintro m l3 _ _ ⟨k,rfl,rfl,hk,u⟩ _;have hzt:=B.threads;refine aA kG (aB iB u.p1.hb rfl ?_)
 obtain⟨aiy,Mf,Uj⟩:=cC.open;have avP:=Uj.1;refine aK fy (Mf.ext u.aG) (aR (aC (λfw=>?_) λfw=>?_))
 .refine aA kG (have u:=u.drew;aB iB u.p1.hb rfl ?_);obtain⟨Z,Pg⟩:=gx aiy (i:=(k:Int).toNat) cK;obtain⟨V,XY⟩:=gx p.threads (i:=(k:Int).toNat) cK;obtain⟨aiz,aiA,rfl,aiB,aiC⟩:=Uj.2 _ _ _ Pg XY;refine aQ fy (Mf.ext u.aG) cK Pg (λ_ xf=>bW V.name qq xf rfl rfl λ_ uN=>aD gw uN (aA kG (aB iB u.p1.hb rfl (aQ fy (Mf.ext u.aG) cK Pg λ_ xp=>bW V.at_ qt xp rfl rfl λ_ rh=>aD bM rh (pop (Ef _ _) (bD ([(⟨V.name,0,V.at_⟩:cJ)]) u im rfl rfl (dL rfl) λapk _ u=>?_))))))
  have aiD:=u.dX;exact bJ u.p1 im aiD (by have:=kV B.toPS;have:=B.eJ;have:=B.threads;simp;omega) ee (λ_ _ u=>have u:=u.p1.drop;aN cK (have u:=u.p1.p1;⟨_,cK,k+1,rfl,rfl,cK,by rw[<- gd (k:=k) XY,<- n3];exact u⟩))
 rw[kO cK]at u;have Hh:=Ud B.toPS;have u:St w aZ [bH l3 (fP p),bY ko (j0 (⟨G,W,U,M,J,I⟩:bP))] _:=u;refine dY V8 u (C202 _ _ _ u.dX cK) (λx39 _ cL u=>?_);have u:=u.p2.p2.p2;refine⟨λm x O=>∃k:Nat,x=hZ (k:Int)/\m=(fP p).length-k/\k<=(fP p).length/\(∀j,j<k->Dw (fP p) j=false)/\St w aZ [bH x39 ((fP p).map cJ.name),bH l3 (fP p),bY ko (j0 (⟨G,W,U,M,J,I⟩:bP))] O,⟨_,0,rfl,rfl,cK,ei,u⟩,?_⟩
 rintro m _ _ ⟨k,rfl,rfl,hk,eG,u⟩ _;refine aK im u.p1.dX (aR (aC (λvR=>?_) λ_=>have u:=u.drop.drop.drop;⟨_,rfl,by unfold kx;rw[Mb λj _=>eG j cK];rfl,u.aG⟩));obtain⟨EW,E⟩:=gx (fP p) (i:=(k:Int).toNat) cK;exact dR u.p1 im cK cK (λ_ EX=>mA kQ EX λ_ XZ=>nG EW.name u.p1 gw XZ E rfl (aV rT u (C123 _ ((fP p).map cJ.name) _ _ u.dX (by rw[n0];omega)) λ_ _ u=>aR (aC (λA1=>dR u.p1 im cK cK λ_ EY=>mA uF EY λ_ A3=>nG EW.at_ u.p1 bM A3 E rfl (have u:=u.drop.drop.drop;⟨_,rfl,by unfold kx;rw[Mc (j:=k) cK (by rw[yk (k:=k) E];exact ez A1)];exact ez (sB _ (kE E)),u.aG⟩)) λA1=>aN cK ⟨_,cK,k+1,rfl,rfl,cK,Sa eG (by rw[yk (k:=k) E];exact fN A1),u⟩)))
def C126(p:cE)(pv:bP)(t:cN)(tv:cH)(x:bQ)(xv:bE)(w:World)(hp:mh w pv p)(ht:mh w tv t)(hx:mh w xv x)(hz:PZ p)(hzt:t.dQ.length<=500)(hzx:SzS x)(W:0<=x.at_/\(∀y∈x.e,0<=y.at_)/\(∀y∈x.f,0<=y.at_)):CR 126 [ia pv,ia tv,ia xv] w (λv w'=>∃a:Int,v=hZ a/\decide (0<=a)=nc p t.dQ x/\Ext w w'):=by
 obtain⟨I,V,U,O,M,J,rfl,cQ,dG,cW,cC,cD,cP⟩:=hp;obtain⟨lU,lV,rfl,nM,sC⟩:=ht;obtain⟨vU,vV,rfl,LG,Hf⟩:=hx;have EZ:=mH hz.toPS;have BV:(cM p).length<=500:=by unfold cM;rw[n0];exact hz.eJ
 have u:=St.start w;refine oM Tryz.func126 (pl:=auq) ?_;refine cI u (λE _ u=>cI u λG _ u=>cI u λJe _ u=>⟨λB w'=>B=.bool (decide (¬ x.eF=⟨#[]⟩)&&decide (cU t.dQ x.eF<0))/\St w aZ [bY Je (j0 (⟨x.kind,x.eF,x.name,vU,vV,x.n,x.body,x.eu,x.at_⟩:bE)),bY G (j0 (⟨t.name,lU,lV,t.at_⟩:cH)),bY E (j0 (⟨I,V,U,O,M,J⟩:bP))] w',aA iH (aB (v:=.string x.eF) gw u.hb rfl (l9 (aC (λjD=>?_) λ_=>⟨vb dD,u⟩))),?_⟩)
 .refine aA fS (aB jk u.p1.hb rfl ?_);have aiG:=DL.flat nM;exact aA iH (aB (v:=.string x.eF) gw u.hb rfl (aV rT u (C123 _ t.dQ _ _ (aiG.ext u.aG) cK) λ_ _ u=>aR ⟨vb dD,u⟩))
 rintro _ _ ⟨rfl,u⟩ _;refine aY (λ_=>aA lL (aB (v:=hZ x.at_) bM u.hb rfl (have u:=u.drop.drop.drop;⟨_,rfl,by rw[ez W.1];unfold nc;grind,u.aG⟩))) (λfw=>have u:=u.drew;aD er u.p2.At (aA fZ (aB (v:=.string x.name) gw u.hb rfl (dY KF u (C124 p _ _ ⟨I,V,U,O,M,J,rfl,cQ.ext u.aG,dG.ext u.aG,cW.ext u.aG,cC.ext u.aG,cD.ext u.aG,cP.ext u.aG⟩ hz) λx23 _ cL u=>?_))));refine⟨aF gw (u.p1.hb.cell rfl),?_⟩;refine aV rT u (C123 _ (cT p) _ _ u.dX cK) (λw7 he u=>⟨λw'=>(((decide (x.kind=2)||decide (x.kind=3)||decide (x.kind=4))&&decide (cU (cT p) x.name<0))||((decide (x.kind=5)||decide (x.kind=6))&&(decide (cU (cT p) x.name<0)||decide (ey p<=cU (cT p) x.name)))||((decide (x.kind=9)||decide (x.kind=10))&&decide (cU (cM p) x.name<0)))=false/\St w aZ [bY Je (j0 (⟨x.kind,x.eF,x.name,vU,vV,x.n,x.body,x.eu,x.at_⟩:bE)),bY G (j0 (⟨t.name,lU,lV,t.at_⟩:cH)),bY E (j0 (⟨I,V,U,O,M,J⟩:bP))] w',aA dM (aB (v:=hZ x.kind) bM u.p1.hb rfl ⟨λB w'=>B=.bool (decide (x.kind=2\/x.kind=3\/x.kind=4))/\w7=w',aH (aC (λ_=>⟨yF cK,rfl⟩) λ_=>aH (aC (λ_=>⟨yF cK,rfl⟩) λ_=>aH ⟨yF cK,rfl⟩)),?_⟩),?_⟩)
 .rintro _ _ ⟨rfl,Y⟩ _;subst Y;refine aC (λ_=>aR (aC (λ_=>aA lL (aB (v:=hZ x.at_) bM u.p1.hb rfl (have u:=u.drop.drop.drop.drop;⟨_,rfl,by rw[ez W.1];unfold nc;grind,u.aG⟩))) λ_=>have u:=u.drop.p2.p2.p2;⟨dD,u⟩)) (λagB=>⟨λB w'=>B=.bool (decide (x.kind=5\/x.kind=6))/\w7=w',aH (aC (λ_=>⟨yF cK,rfl⟩) λ_=>aH ⟨yF cK,rfl⟩),?_⟩);rintro _ _ ⟨rfl,Y⟩ _;subst Y;refine aC (λo7=>⟨λB w'=>B=.bool (decide (cU (cT p) x.name<0)||decide (ey p<=cU (cT p) x.name))/\St w aZ [bH x23 (cT p),bY Je (j0 (⟨x.kind,x.eF,x.name,vU,vV,x.n,x.body,x.eu,x.at_⟩:bE)),bY G (j0 (⟨t.name,lU,lV,t.at_⟩:cH)),bY E (j0 (⟨I,V,U,O,M,J⟩:bP))] w',aR (aC (λ_=>⟨vb dD,u⟩) λ_=>aD er u.p3.At (aV IE u (C62 p _ _ ⟨I,V,U,O,M,J,rfl,cQ.ext u.aG,dG.ext u.aG,cW.ext u.aG,cC.ext u.aG,cD.ext u.aG,cP.ext u.aG⟩ hz) λ_ _ u=>cR ⟨vb dD,u⟩)),?_⟩) (λo7=>⟨λB w'=>B=.bool (decide (x.kind=9\/x.kind=10))/\w7=w',aH (aC (λ_=>⟨yF cK,rfl⟩) λ_=>aH ⟨yF cK,rfl⟩),?_⟩)
  .rintro _ _ ⟨rfl,u⟩ _;exact aY (λ_=>aA lL (aB (v:=hZ x.at_) bM u.p1.hb rfl (have u:=u.drop.drop.drop.drop;⟨_,rfl,by rw[ez W.1];unfold nc;grind,u.aG⟩))) (λ_=>have u:=u.drop.p2.p2.p2;⟨dD,u⟩)
  rintro _ _ ⟨rfl,Y⟩ _;subst Y;exact aC (λ_=>have u:=u.drew;aD er u.p3.At (aA fZ (aB (v:=.string x.name) gw u.p1.hb rfl (dY Rk u (C125 p _ _ ⟨I,V,U,O,M,J,rfl,cQ.ext u.aG,dG.ext u.aG,cW.ext u.aG,cC.ext u.aG,cD.ext u.aG,cP.ext u.aG⟩ hz) λ_ _ _ u=>⟨aF gw (u.p2.hb.cell rfl),aV rT u (C123 _ (cM p) _ _ u.dX cK) λ_ _ u=>aR (aC (λ_=>aA lL (aB (v:=hZ x.at_) bM u.p2.hb rfl (have u:=u.drop.drop.drop.drop.drop;⟨_,rfl,by rw[ez W.1];unfold nc;grind,u.aG⟩))) λ_=>have u:=u.drop.drop.p2.p2.p2;⟨dD,u⟩)⟩)))) (λ_=>have u:=u.drop.p2.p2.p2;⟨dD,u⟩)
 rintro _ ⟨hmid,u⟩ _;refine aA iX (aB jx u.hb rfl ?_);have avQ:=DL.flat LG;refine aA fS (aB jk u.p1.hb rfl ?_);have Z:=DL.flat nM;refine dO V6 (C127 _ _ _ _ _ (avQ.ext u.aG) (Z.ext u.aG) hzx.2.2.1 cK W.2.1) ?_;rintro _ _ ⟨a_x65,rfl,avR,he⟩;have u:=u.ext he;refine cR (aC (λ_=>have u:=u.drop.drop.drop;⟨_,rfl,by unfold nc;grind,u.aG⟩) λwW=>aA j6 (aB jx u.hb rfl ?_));have avS:=DL.flat Hf;refine aA fS (aB jk u.p1.hb rfl (dO V6 (C127 _ _ _ _ _ (avS.ext u.aG) (Z.ext u.aG) hzx.2.2.2.1 cK W.2.2) ?_))
 rintro _ _ ⟨a_x73,rfl,avT,he⟩;have u:=(((u.ext he).drop).drop).drop;exact⟨_,rfl,by unfold nc;grind,u.aG⟩
def C119(p:cE)(pv:bP)(w:World)(hp:mh w pv p)(V:PZ p):CR 119 [ia pv] w (λv w'=>v=.bool (uS p)/\Ext w w'):=by
 obtain⟨Y,bU,bL,aW,aX,bG,rfl,cQ,dG,cW,cC,cD,cP⟩:=hp;have u:=St.start w;refine fg Tryz.func119 ?_;refine cI u (λko W u=>?_);refine⟨λm x W=>∃k:Nat,x=hZ (k:Int)/\m=p.lines.length-k/\k<=p.lines.length/\(∀y∈p.lines.take k,decide (4<(y.length:Int))=false)/\St w aZ [bY ko (j0 (⟨Y,bU,bL,aW,aX,bG⟩:bP))] W,⟨_,0,rfl,rfl,l1 _,ei,u⟩,?_⟩;rintro m _ _ ⟨k,rfl,rfl,hk,eG,u⟩ _;have hzl:=V.lines;refine aA gy (aB oP u.hb rfl ?_)
 obtain⟨avU,E,J⟩:=cQ.open;have hn29:=J.1;refine aK pJ (E.ext u.aG) (aR (aC (λgI=>?_) λgI=>?_))
 .refine aA gy (aB oP u.hb rfl ?_);obtain⟨Xk,nZ⟩:=gx avU (i:=(k:Int).toNat) cK;obtain⟨su,o9⟩:=gx p.lines (i:=(k:Int).toNat) cK;have apn:DL w (ia Xk) su:=J.2 _ _ _ nZ o9;refine aQ pJ (E.ext u.aG) cK nZ (λ_ AN=>aD jM AN ?_);have avV:=DL.flat apn;refine aK im (avV.ext u.aG) (cO (aC (λfw=>?_) λfw=>aN cK ⟨_,cK,k+1,rfl,rfl,cK,dZ eG o9 (fN fw),u⟩));have u:=u.drop;refine⟨vb ?_,u.aG⟩;unfold uS;rw[ic o9 (ez cK)];rfl
 refine aD er u.At ?_;obtain⟨O,G,I⟩:=cC.open;have hn31:=I.1;obtain⟨U,avW,M⟩:=cD.open;have hn32:=M.1;refine dO afu (C120 p _ O U _ ⟨Y,bU,bL,aW,aX,bG,rfl,cQ.ext u.aG,dG.ext u.aG,cW.ext u.aG,cC.ext u.aG,cD.ext u.aG,cP.ext u.aG⟩ (G.ext u.aG) (avW.ext u.aG) (by have:=V.threads;omega) (by have:=V.recover;omega)) ?_;rintro x21 _ cL;have u:=u.made cL;obtain⟨A4,Mg⟩:∃t,t=O++U:=⟨_,rfl⟩;rw[<- Mg]at u;have Ph:iq A4 (gm p) w:=by rw[Mg];exact iq.append I M
 have avX:=Ph.1;have aiJ:=Dx V.toPS;have u:=u.p1.p1;refine⟨λm x W=>∃B:Nat,x=hZ (B:Int)/\m=(gm p).length-B/\B<=(gm p).length/\(∀y∈(gm p).take B,decide (4<(y.dQ.length:Int))=false)/\St w aZ [bH x21 A4,bY ko (j0 (⟨Y,bU,bL,aW,aX,bG⟩:bP))] W,⟨_,0,rfl,rfl,l1 _,ei,u⟩,?_⟩;rintro m _ _ ⟨B,rfl,rfl,W9,Pd,u⟩ _;refine aK fy u.dX (aR (aC (λjE=>?_) λjE=>⟨λjv w'=>jv=.bool (decide (4<(p.lines.length:Int))||decide (4<(p.iR.length:Int))||decide (2<(p.eJ.length:Int))||decide ((p.threads.length:Int)<1)||decide (3<(p.threads.length:Int))||decide (4<(p.dS.length:Int)))/\St w aZ [] w',aA gy (aB oP u.p1.hb rfl (aK pJ (E.ext u.aG) (cO (aC (λ_=>have u:=u.drop.drop;⟨vb dD,u⟩) λrk=>?_)))),?_⟩))
 .obtain⟨q9,gl⟩:=gx A4 (i:=(B:Int).toNat) cK;obtain⟨apt,xq⟩:=gx (gm p) (i:=(B:Int).toNat) cK;obtain⟨E0,E1,rfl,E2,E3⟩:=Ph.2 _ _ _ gl xq;refine aQ fy u.dX cK gl (λ_ mC=>bW E0 fS mC rfl rfl λ_ sw=>aD jk sw ?_);have avY:=DL.flat E2;refine aK iC (avY.ext u.aG) (cO (aC (λlQ=>?_) λ_=>aN cK ⟨_,cK,B+1,rfl,rfl,cK,dZ Pd xq (fN cK),u⟩));have u:=u.drop.drop;refine⟨vb ?_,u.aG⟩;unfold uS;rw[ic xq (ez cK)];simp
 .refine aA qf (aB jM u.p1.hb rfl ?_);have avZ:=DL.flat dG;refine aK im (avZ.ext u.aG) (cO (aC (λ_=>have u:=u.drop.drop;⟨vb dD,u⟩) λvR=>aA nQ (aB jM u.p1.hb rfl ?_)));have Z:=DL.flat cW;refine aK im (Z.ext u.aG) (cO (aC (λ_=>have u:=u.drop.drop;⟨vb dD,u⟩) λsi=>aA kG (aB iB u.p1.hb rfl (aK fy (G.ext u.aG) (aR (aC (λ_=>have u:=u.drop.drop;⟨vb dD,u⟩) λRR=>aA kG (aB iB u.p1.hb rfl (aK fy (G.ext u.aG) (cO (aC (λ_=>have u:=u.drop.drop;⟨vb dD,u⟩) λaf1=>aA jw (aB qQ u.p1.hb rfl ?_)))))))))))
  obtain⟨ts36,av1,av2⟩:=cP.open;have hn36:=av2.1;exact aK sX (av1.ext u.aG) (cO (have u:=u.drop.drop;⟨vb dD,u⟩))
 rintro _ _ ⟨rfl,u⟩ _;refine⟨vb ?_,u.aG⟩;unfold uS;rw[iD (by rw[kO cK]at eG;exact eG),iD (by rw[kO cK]at Pd;exact Pd)];rfl
def C57(p:cE)(pv:bP)(w:World)(hp:mh w pv p)(B:PZ p):CR 57 [ia pv] w (λv w'=>∃a:Int,v=.tuple #[hZ (fm p),hZ a]/\Ext w w'):=by
 obtain⟨G,U,O,I,M,J,rfl,cQ,dG,cW,cC,cD,cP⟩:=hp;have u:=St.start w;refine ahB _ _ _ ?_;unfold S57;refine cI u (λko W u=>aD er u.At (aV amJ u (C118 p _ _ ⟨G,U,O,I,M,J,rfl,cQ.ext u.aG,dG.ext u.aG,cW.ext u.aG,cC.ext u.aG,cD.ext u.aG,cP.ext u.aG⟩ B) λ_ he u=>bR (aY (λke=>have u:=u.drop;⟨_,gO (λq=>Bv #[hZ q,_]) (ce8 (by simpa using ke)).symm,u.aG⟩) λke=>?_)))
 have E:kr p=true:=by simpa using ke
 have hPF:=qD E;refine aD er u.At (aV amK u (C119 p _ _ ⟨G,U,O,I,M,J,rfl,cQ.ext u.aG,dG.ext u.aG,cW.ext u.aG,cC.ext u.aG,cD.ext u.aG,cP.ext u.aG⟩ B) λ_ he u=>aY (λfw=>have u:=u.drop;⟨_,gO (λq=>Bv #[hZ q,_]) (ce2 E fw).symm,u.aG⟩) λfw=>aD er u.At ?_);obtain⟨apu,av3,apv⟩:=cC.open;have hn37:=apv.1;obtain⟨apw,av4,apx⟩:=cD.open;have hn38:=apx.1;refine dO afu (C120 p _ apu apw _ ⟨G,U,O,I,M,J,rfl,cQ.ext u.aG,dG.ext u.aG,cW.ext u.aG,cC.ext u.aG,cD.ext u.aG,cP.ext u.aG⟩ (av3.ext u.aG) (av4.ext u.aG) (by have:=B.threads;omega) (by have:=B.recover;omega)) ?_
 rintro V _ cL;have u:=u.made cL;obtain⟨A4,Mg⟩:∃t,t=apu++apw:=⟨_,rfl⟩;rw[<- Mg]at u;have Ph:iq A4 (gm p) w:=by rw[Mg];exact iq.append apv apx
 have avX:=Ph.1;have aiJ:=Dx B.toPS;have u:=u.p1.p1;refine⟨λm x W=>∃k1:Nat,x=hZ (k1:Int)/\m=(gm p).length-k1/\k1<=(gm p).length/\(∀y∈(gm p).take k1,rj y.body=false)/\St w aZ [bH V A4,bY ko (j0 (⟨G,U,O,I,M,J⟩:bP))] W,⟨_,0,rfl,rfl,l1 _,ei,u⟩,?_⟩;rintro m _ _ ⟨k1,rfl,rfl,Rh,aiK,u⟩ _;refine aK fy u.dX (aR (aC (λjE=>?_) λjE=>?_))
 .obtain⟨q9,gl⟩:=gx A4 (i:=(k1:Int).toNat) cK;obtain⟨apt,xq⟩:=gx (gm p) (i:=(k1:Int).toNat) cK;obtain⟨E0,E1,rfl,E2,E3⟩:=Ph.2 _ _ _ gl xq;refine aQ fy u.dX cK gl (λ_ mC=>bW E1 lK mC rfl rfl λ_ sw=>aD jP sw ?_);obtain⟨apy,TK,tr,htr,aiM,kC,_⟩:=lx (hPF.qS (kE xq)).2.1;have tX:=gO List.length htr;rw[Bk.cY]at tX;refine dO V5 (C121 _ tr 1 (tr.len+1) _ (by rw[<- htr];exact(E3.ext u.aG)) aiM (λy hy=>Jg (TK y (by rw[htr];exact hy))) cK cK cK) ?_
  rintro _ _ ⟨wa,rfl,hwa,he⟩;have u:=u.ext he;exact cR (aC (λmg=>have u:=u.drop.drop;⟨_,gO (λq=>Bv #[hZ q,_]) (ao7 E fw (ic xq (by rw[htr,vv aiM,<- hwa];exact ez mg))).symm,u.aG⟩) λmg=>aN cK (have u:=u.p1.p1;⟨_,cK,k1+1,rfl,rfl,cK,dZ aiK xq (by rw[htr,vv aiM,<- hwa];exact fN mg),u⟩))
 rw[kO cK]at aiK;have Y:(gm p).any (λt=>rj t.body)=false:=iD aiK;refine aD er u.p1.At (dO amL (C122 p _ _ ⟨G,U,O,I,M,J,rfl,cQ.ext u.aG,dG.ext u.aG,cW.ext u.aG,cC.ext u.aG,cD.ext u.aG,cP.ext u.aG⟩ B hPF.decl) ?_);rintro _ _ ⟨a_x38,rfl,X0,he⟩;have u:=u.ext he;refine cR (aC (λxe=>have u:=u.drop.drop;⟨_,gO (λq=>Bv #[hZ q,_]) (ao8 E fw Y (by rw[<- X0];exact ez xe)).symm,u.aG⟩) λxe=>?_);have h10:kx (fP p)=false:=by rw[<- X0];exact fN xe
 have u:=u.p1.p1;refine⟨λm x W=>∃k2:Nat,x=hZ (k2:Int)/\m=(gm p).length-k2/\k2<=(gm p).length/\(∀y∈(gm p).take k2,uR p y.dQ=false)/\St w aZ [bH V A4,bY ko (j0 (⟨G,U,O,I,M,J⟩:bP))] W,⟨_,0,rfl,rfl,l1 _,ei,u⟩,?_⟩;rintro m _ _ ⟨k2,rfl,rfl,xl,EL,u⟩ _;refine aK fy u.dX (aR (aC (λMh=>?_) λMh=>?_))
 .obtain⟨e_x51,E4⟩:=gx A4 (i:=(k2:Int).toNat) cK;obtain⟨A5,Jh⟩:=gx (gm p) (i:=(k2:Int).toNat) cK;obtain⟨zI,aiN,rfl,Pj,aiO⟩:=Ph.2 _ _ _ E4 Jh;have hzt2:=B.qS (kE Jh);refine⟨λm x W=>∃Z:Nat,x=hZ (Z:Int)/\m=A5.dQ.length-Z/\Z<=A5.dQ.length/\(∀j,j<Z->R9 p A5.dQ j=false)/\St w aZ [bH V A4,bY ko (j0 (⟨G,U,O,I,M,J⟩:bP))] W,⟨_,0,rfl,rfl,l1 _,ei,u⟩,?_⟩;rintro m _ _ ⟨Z,rfl,rfl,hk3,apA,u⟩ _;refine aQ fy u.dX cK E4 (λ_ apB=>bW zI fS apB rfl rfl λ_ X1=>aD jk X1 ?_)
  have aiP:=DL.flat Pj;refine aK iC (aiP.ext u.aG) (aR (aC (λRR=>?_) λ_=>aN cK (have u:=u.p1.p1;⟨_,cK,k2+1,rfl,rfl,cK,dZ EL Jh (show uR p A5.dQ=false from Mb λj _=>apA j cK),u⟩)));refine aQ fy u.dX cK E4 (λ_ apC=>bW zI fS apC rfl rfl λ_ X2=>aD jk X2 ?_);obtain⟨sD,uc⟩:=gx A5.dQ (i:=(Z:Int).toNat) cK;refine aQ iC (aiP.ext u.aG) cK uc (λ_ EM=>aD gw EM ⟨λjv w'=>jv=.bool (decide (cU A5.dQ sD<Z)||decide (0<=cU (cT p) sD)||decide (0<=cU (cM p) sD))/\St w aZ [bH V A4,bY ko (j0 (⟨G,U,O,I,M,J⟩:bP))] w',?_,?_⟩)
  .refine aQ fy u.dX cK E4 (λ_ apD=>bW zI fS apD rfl rfl λ_ Mi=>?_);exact aD jk Mi (aV rT u (C123 _ A5.dQ _ _ (aiP.ext u.aG) (by have:=mH B.toPS;have hk:(cM p).length<=500:=(by unfold cM;rw[n0];exact B.eJ);omega)) λ_ _ u=>aR (aC (λ_=>have u:=u.p1.p1;⟨vb dD,u⟩) λ_=>aD er u.p1.At (dY KF u (C124 p _ _ ⟨G,U,O,I,M,J,rfl,cQ.ext u.aG,dG.ext u.aG,cW.ext u.aG,cC.ext u.aG,cD.ext u.aG,cP.ext u.aG⟩ B) λ_ _ _ u=>aV rT u (C123 _ (cT p) _ _ u.dX (by have:=mH B.toPS;have hk:(cM p).length<=500:=(by unfold cM;rw[n0];exact B.eJ);omega)) λ_ _ u=>cR (aC (λ_=>have u:=u.drop.p1.p1;⟨vb dD,u⟩) λ_=>aD er u.p2.At (dY Rk u (C125 p _ _ ⟨G,U,O,I,M,J,rfl,cQ.ext u.aG,dG.ext u.aG,cW.ext u.aG,cC.ext u.aG,cD.ext u.aG,cP.ext u.aG⟩ B) λ_ _ _ u=>aV rT u (C123 _ (cM p) _ _ u.dX (by have:=mH B.toPS;have hk:(cM p).length<=500:=(by unfold cM;rw[n0];exact B.eJ);omega)) λ_ _ u=>cR (have u:=u.drop.drop.p1.p1;⟨vb dD,u⟩))))))
  rintro _ _ ⟨rfl,u⟩ _;exact aY (λE5=>aQ fy u.dX cK E4 λ_ apE=>bW A5.at_ qt apE rfl rfl λ_ apF=>have u:=u.drew;aD bM apF (have u:=u.drop.drop;⟨_,gO (λq=>Bv #[hZ q,_]) (agw E fw Y h10 (ic Jh (show uR p A5.dQ=true from Mc (j:=Z) cK (by rw[A0 (k:=Z) uc];exact E5)))).symm,u.aG⟩)) (λE5=>aN cK ⟨_,cK,Z+1,rfl,rfl,cK,Sa apA (by rw[A0 (k:=Z) uc];exact E5),u⟩)
 rw[kO cK]at EL;have aiQ:(gm p).any (λt=>uR p t.dQ)=false:=iD EL;have u:=u.p1.p1;refine⟨λm x W=>∃k5:Nat,x=hZ (k5:Int)/\m=(gm p).length-k5/\k5<=(gm p).length/\(∀y∈(gm p).take k5,y.body.any (nc p y.dQ)=false)/\St w aZ [bH V A4,bY ko (j0 (⟨G,U,O,I,M,J⟩:bP))] W,⟨_,0,rfl,rfl,l1 _,ei,u⟩,?_⟩;rintro m _ _ ⟨k5,rfl,rfl,hk5,aiR,u⟩ _;refine aK fy u.dX (aR (aC (λapG=>?_) λapG=>?_))
 .obtain⟨av6,DB⟩:=gx A4 (i:=(k5:Int).toNat) cK;obtain⟨B5,A6⟩:=gx (gm p) (i:=(k5:Int).toNat) cK;obtain⟨Mj,xr,rfl,Mk,CI⟩:=Ph.2 _ _ _ DB A6;have apH:=B.qS (kE A6);have av7:=hPF.qS (kE A6);obtain⟨hb45,apI,_⟩:=lx av7.2.1;refine⟨λm x W=>∃k6:Nat,x=hZ (k6:Int)/\m=B5.body.length-k6/\k6<=B5.body.length/\(∀y∈B5.body.take k6,nc p B5.dQ y=false)/\St w aZ [bH V A4,bY ko (j0 (⟨G,U,O,I,M,J⟩:bP))] W,⟨_,0,rfl,rfl,l1 _,ei,u⟩,?_⟩
  rintro m _ _ ⟨k6,rfl,rfl,hk6,aiS,u⟩ _;refine aQ fy u.dX cK DB (λ_ aiT=>bW xr lK aiT rfl rfl λ_ aiU=>aD jP aiU ?_);obtain⟨av8,apJ,apK⟩:=CI.open;have hn40:=apK.1;refine aK fq (apJ.ext u.aG) (aR (aC (λav9=>?_) λ_=>aN cK (have u:=u.p1.p1;⟨_,cK,k5+1,rfl,rfl,cK,dZ aiR A6 (iD (by rw[kO cK]at aiS;exact aiS)),u⟩)));have u:=u.drew;refine aD er u.p1.At (aQ fy u.dX cK DB λ_ Pk=>aD m7 Pk (aQ fy u.dX cK DB λ_ aiV=>bW xr lK aiV rfl rfl λ_ aiW=>aD jP aiW ?_))
  obtain⟨awa,Se⟩:=gx av8 (i:=(k6:Int).toNat) cK;obtain⟨aiX,A7⟩:=gx B5.body (i:=(k6:Int).toNat) cK;obtain⟨X3,X4,rfl,X5,X6⟩:=apK.2 _ _ _ Se A7;refine aQ fq (apJ.ext u.aG) cK Se (λ_ aiY=>aD eM aiY ?_);have hf5:=adj (apI _ (kE A7));refine dO amM (C126 p _ B5 _ aiX _ _ ⟨G,U,O,I,M,J,rfl,cQ.ext u.aG,dG.ext u.aG,cW.ext u.aG,cC.ext u.aG,cD.ext u.aG,cP.ext u.aG⟩ ⟨Mj,xr,rfl,Mk.ext u.aG,CI.ext u.aG⟩ ⟨X3,X4,rfl,X5.ext u.aG,X6.ext u.aG⟩ B apH.2.1 (apH.1.2.2 _ (kE A7)) hf5) ?_
  rintro _ _ ⟨awb,rfl,Sf,he⟩;have u:=u.ext he;exact cR (aC (λzJ=>have u:=u.drop.drop;⟨_,gO (λq=>Bv #[hZ q,_]) (ce9 E fw Y h10 aiQ (ic A6 (ic A7 (by rw[<- Sf];exact ez zJ)))).symm,u.aG⟩) λzJ=>aN cK ⟨_,cK,k6+1,rfl,rfl,cK,dZ aiS A7 (by rw[<- Sf];exact fN zJ),u⟩)
 rw[kO cK]at aiR;have h9:(gm p).any (λt=>t.body.any (nc p t.dQ))=false:=iD aiR;have u:=u.drew;refine aD er u.p1.At (aD er u.p1.At (dY KF u (C124 p _ _ ⟨G,U,O,I,M,J,rfl,cQ.ext u.aG,dG.ext u.aG,cW.ext u.aG,cC.ext u.aG,cD.ext u.aG,cP.ext u.aG⟩ B) λawc _ cL u=>?_));refine⟨eN er u.p2.At,?_⟩;refine aV IE u (C62 p _ _ ⟨G,U,O,I,M,J,rfl,cQ.ext u.aG,dG.ext u.aG,cW.ext u.aG,cC.ext u.aG,cD.ext u.aG,cP.ext u.aG⟩ B) (λ_ he u=>?_)
 have EZ:=mH B.toPS;have O0:0<=ey p/\ey p<=(cT p).length:=by unfold ey cT iu;rw[n0,la];omega
 refine jR iC u.dX cK cK (λawd adt=>?_);have u:=u.p1.drop.p1.p1;refine⟨λm x W=>∃k7:Nat,x=hZ (k7:Int)/\m=p.dS.length-k7/\k7<=p.dS.length/\(∀y∈p.dS.take k7,pa y.e (gn p)=false)/\St w aZ [bH awc (cT p),bY ko (j0 (⟨G,U,O,I,M,J⟩:bP))] W,⟨_,0,rfl,rfl,l1 _,ei,u⟩,?_⟩;rintro m _ _ ⟨k7,rfl,rfl,hk7,aiZ,u⟩ _;have hzc:=B.dS;refine aA jw (aB qQ u.p1.hb rfl ?_);obtain⟨awe,apL,apM⟩:=cP.open;have hn41:=apM.1;refine aK sX (apL.ext u.aG) (aR (aC (λawf=>?_) λ_=>have u:=u.drop.drop;⟨_,gO (λq=>Bv #[hZ q,_]) (ce0 E fw Y h10 aiQ h9 (iD (by rw[kO cK]at aiZ;exact aiZ))).symm,u.aG⟩))
 refine aA jw (aB qQ u.p1.hb rfl ?_);obtain⟨awg,Sg⟩:=gx awe (i:=(k7:Int).toNat) cK;obtain⟨awh,A8⟩:=gx p.dS (i:=(k7:Int).toNat) cK;obtain⟨X7,rfl,X8⟩:=apM.2 _ _ _ Sg A8;refine aQ sX (apL.ext u.aG) cK Sg (λ_ Pl=>bW X7 vl Pl rfl rfl λ_ ai0=>aD jx ai0 ?_);have awi:=DL.flat X8;refine dO V6 (C127 _ _ _ _ _ (awi.ext u.aG) (adt _ u.dX) (B.zc _ (kE A8)).1 (by have:=mH B.toPS;simp;omega) (B3 (hPF.cl _ (kE A8)).2)) ?_;rintro _ _ ⟨awj,rfl,Sh,he⟩
 have u:=u.ext he;exact cR (aC (λPm=>have u:=u.drop.drop;⟨_,gO (λq=>Bv #[hZ q,_]) (ao9 E fw Y h10 aiQ h9 (ic A8 (by unfold gn;rw[<- Sh];exact ez Pm))).symm,u.aG⟩) λPm=>aN cK ⟨_,cK,k7+1,rfl,rfl,cK,dZ aiZ A8 (by unfold gn;rw[<- Sh];exact fN Pm),u⟩)
theorem Bk.apN{x:bQ}{a b r:Bk}(h:(Bk.cons x a b r).str){hi lo:Int}(h1:hi=1+x.body)(h2:lo=1):((Bk.cons x a b r).flat.take hi.toNat).drop lo.toNat=a.flat:=by
 obtain⟨E,B,_⟩:=h
 have u:=a.cY
 rw[vu _ (a:=1) (n:=a.flat.length) cK cK]
 grind[flat]
theorem Bk.apO{x:bQ}{a b r:Bk}(h:(Bk.cons x a b r).str){hi lo:Int}(h1:hi=1+x.body+x.eu)(h2:lo=1+x.body):((Bk.cons x a b r).flat.take hi.toNat).drop lo.toNat=b.flat:=by
 obtain⟨E,B,_⟩:=h
 have u:=a.cY
 have lb:=b.cY
 rw[vu _ (a:=1+a.flat.length) (n:=b.flat.length) cK cK]
 grind[flat]
def yS:Bk->Int
 | .nil=>0
 | .cons x a b r=>(if x.kind=12 then 2+yS a else if x.kind=11 then(if 0<x.eu then 1+yS a+yS b+1 else 1+yS a+yS b)else 1)+yS r
def toT(x:bQ)(a:Bk)(at_:Int):Int:=if 0<x.eu then at_+1+yS a+1 else at_+1+yS a
end Go.Proofs.YtpdlpabnlkofmaaGreatDoor

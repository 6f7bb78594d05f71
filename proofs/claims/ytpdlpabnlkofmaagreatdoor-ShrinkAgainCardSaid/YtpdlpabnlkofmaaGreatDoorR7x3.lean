/-
  Part 3.
-/
import Derived.Test.YtpdlpabnlkofmaaGreatDoorR7x2
set_option maxHeartbeats 8000000
set_option linter.all false
set_option maxRecDepth 100000
open Go.Fw.Flat renaming val->hM,enc->hZ,sz->l2
open ByteArray renaming mk->ia,size->abR
open List renaming getElem?_eq_some_iff->j0,mem_of_getElem?->kp,take_of_length_le->kE,getElem?_eq_getElem->kO,length_append->kU,length_take->lY,length_singleton->l0,length_map->mE,getElem?_eq_none->mW,append_assoc->nk,getD_eq_getElem?_getD->n0,mem_map->n5,getElem?_map->oj,mem_append->oF,take_append_drop->o6,length_drop->qa,replicate->qV,drop_eq_getElem_cons->r6,mem_cons->sk,drop_drop->sZ,getElem?_append_left->s4,length_eq_zero_iff->ta,take_add_one->uT,drop_eq_nil_of_le->u1,map_append->vf,any_eq_true->v7,range->wx,ext_getElem?->wS,any_eq_false->A3,getElem?_set_self->BJ,getElem?_eq_none_iff->BR,drop_left->ED,getElem_of_mem->EZ,getElem?_set_ne->F1,map_map->H4,nodup_cons->JG,mem_range->Lo,take_left->M6,toArray->P1,getElem?_eraseIdx_of_lt->Qx,getElem?_eraseIdx_of_ge->Qy,drop_zero->U0,getElem_inj->aau,cons->aaT
open Nat renaming zero_le->la,le_refl->o1,zero_add->tx,min_eq_left->Gz,le_of_lt->aaf
open Option renaming bind_some->ma,some->n4,map_some->E2
open Go.Fw.Deep renaming dr->mv
open Go.Value renaming int->ng,bool->xc,tuple->Cg,string->FR
open Go.Instr renaming sliceAt->nT,index->u3,sliceBounds->vC,mapUpdate->xk,lookup->x7,keyThatStays->OI,makeMap->Qi,findKey->TH
open Bool renaming and_eq_true->n3,not_eq_true'->sl,true_and->Bt
open Int renaming toNat_natCast->qb,mul_le_mul->Jh,toNat->aa5
open Decidable renaming not_not->vy
open Array renaming toList_push->aae
namespace Go.Proofs.YtpdlpabnlkofmaaGreatDoor
open Go.Fw
inductive Bk where
 | nil
 | cons (x:bP) (a b r:Bk)
namespace Bk
def flat:Bk->List bP|nil=>[]|cons x a b r=>x::(a.flat++(b.flat++r.flat))
def len:Bk->Nat|nil=>0|cons _ a b r=>a.len+b.len+r.len+1
def str:Bk->Prop|nil=>True|cons x a b r=>x.body=a.len/\x.et=b.len/\a.len<=40/\b.len<=40/\a.str/\b.str/\r.str
def D2(x:bP)(loops:Int):Int:=if x.kind=12 then loops+1 else loops
def zM(x:bP):Bool:=decide (x.kind=11\/x.kind=12)
def yp(x:bP)(loops:Int):Bool:=decide ((x.body<=0\/x.kind=11\/x.kind=12)/\(x.et<=0\/x.kind=11)/\(¬ x.kind=13\/¬ loops=0))
def ok:Bk->Int->Bool|nil,_=>true|cons x a b r,n=>yp x n&&a.ok (D2 x n)&&b.ok (D2 x n)&&r.ok n
def depth:Bk->Int|nil=>0|cons x a b r=>if zM x then max (max (1+a.depth) (1+b.depth)) r.depth else r.depth
end Bk
theorem Bk.cY(t:Bk):t.flat.length=t.len:=by
 induction t with
 | nil=>rfl
 | cons x a b r B E u=>grind[flat,len]
theorem Bk.Bc(t:Bk):0<=t.depth/\t.depth<=t.len:=by
 induction t with
 | nil=>simp[Bk.depth,Bk.len]
 | cons x a b r B E u=>
  grind[depth,len]
def WD:Nat->List bP->Option Bk
 | _,[]=>some .nil
 | 0,_::_=>none
 | n+1,x::l=>
  if 0<=x.body/\0<=x.et/\x.body<=40/\x.et<=40/\x.body+x.et<=l.length then
   match WD n (l.take x.body.toNat),WD n ((l.drop x.body.toNat).take x.et.toNat),WD n (l.drop (x.body.toNat+x.et.toNat))with
   | some a,some b,some r=>some (.cons x a b r)
   | _,_,_=>none
  else none
theorem yq:∀n l t,WD n l=some t->l=t.flat/\t.str
 | _,[],t,h=>by
  have h:some Bk.nil=some t:=by unfold WD at h;exact h
  cases h;exact⟨rfl,trivial⟩
 | 0,x::l,t,h=>by cases h
 | n+1,x::l,t,h=>by
  unfold WD at h
  split at h
  .rename_i hb
   obtain⟨h1,h2,h3,h4,h5⟩:=hb
   cases ha:WD n (l.take x.body.toNat)with
   | none=>grind
   | some a=>
    cases hb:WD n ((l.drop x.body.toNat).take x.et.toNat)with
    | none=>grind
    | some b=>
     cases hr:WD n (l.drop (x.body.toNat+x.et.toNat))with
     | none=>grind
     | some r=>
      rw[ha,hb,hr]at h
      cases h
      obtain⟨u,I⟩:=yq n _ _ ha
      obtain⟨b1,b2⟩:=yq n _ _ hb
      obtain⟨B,G⟩:=yq n _ _ hr
      have E:=fM List.length u
      have lb:=fM List.length b1
      rw[Bk.cY,lY]at E
      rw[Bk.cY,lY,qa]at lb
      refine⟨?_,bM,bM,bM,bM,I,b2,G⟩
      unfold Bk.flat
      rw[<- u,<- b1,<- B,<- sZ,o6,o6]
  .cases h
theorem Yp(t:Bk):t.str->∀n,t.len<=n->WD n t.flat=some t:=by
 induction t with
 | nil=>intro _ n _;cases n<;>rfl
 | cons x a b r E G u=>
  intro h n B
  obtain⟨h1,h2,h3,h4,I,hb,J⟩:=h
  cases n with
  | zero=>simp[Bk.len]at B
  | succ n=>
   have B:a.len+b.len+r.len<=n:=by simp[Bk.len]at B;omega
   have M:=a.cY
   have lb:=b.cY
   unfold Bk.flat WD
   rw[ej ⟨bM,bM,bM,bM,cJ⟩,show x.body.toNat=a.flat.length from bM,M6,ED,show x.et.toNat=b.flat.length from bM,M6,<- sZ,ED,ED,
    E I n bM,G hb n bM,u J n bM]
def tf(l:List bP):Option Bk:=WD l.length l
def nZ{l:List bP}{t:Bk}(h:tf l=some t):l=t.flat/\t.str:=yq _ _ _ h
theorem rM{t:Bk}(h:t.str):tf t.flat=some t:=Yp t h _ (by rw[Bk.cY];omega)
def fC(l:List bP)(loops:Int):Int:=match tf l with|some t=>if t.ok loops then t.depth else -1|none=>-1
theorem Cp(loops:Int):fC [] loops=0:=rfl
theorem tH(l:List bP)(loops:Int) : -1<=fC l loops/\fC l loops<=l.length:=by
 unfold fC
 cases h:tf l with
 | none=>grind
 | some t=>
  obtain⟨rfl,_⟩:=nZ h
  have:=t.Bc
  simp only[Bk.cY]
  omega
def uL(x:bP)(l:List bP):Prop:=0<=x.body/\0<=x.et/\x.body<=40/\x.et<=40/\x.body+x.et<=l.length
theorem UR{x:bP}{l:List bP}{loops:Int}(h:¬ (uL x l/\Bk.yp x loops=true)):fC (x::l) loops = -1:=by
 unfold fC
 cases hb:tf (x::l)with
 | none=>rfl
 | some t=>
  obtain⟨u,B⟩:=nZ hb
  cases t with
  | nil=>cases u
  | cons y a b r=>
   obtain⟨rfl,rfl⟩:=aaT.inj u
   obtain⟨h1,h2,h3,h4,_⟩:=B
   have:Bk.yp x loops=false:=by
    cases hk:Bk.yp x loops with
    | false=>rfl
    | true=>exact absurd ⟨⟨bM,bM,bM,bM,by simp[Bk.cY];omega⟩,hk⟩ h
   have h:(Bk.cons x a b r).ok loops=false:=by unfold Bk.ok;grind
   grind
theorem E6{x:bP}{l:List bP}{loops:Int}(h:uL x l)(U:Bk.yp x loops=true) :
  fC (x::l) loops=(let A:=fC (l.take x.body.toNat) (Bk.D2 x loops);let B:=fC ((l.drop x.body.toNat).take x.et.toNat) (Bk.D2 x loops);let R:=fC (l.drop (x.body.toNat+x.et.toNat)) loops
   if A<0\/B<0\/R<0 then -1 else if Bk.zM x then max (max (1+A) (1+B)) R else R):=by
 obtain⟨h1,h2,h3,h4,h5⟩:=h
 have e:l=l.take x.body.toNat++((l.drop x.body.toNat).take x.et.toNat++l.drop (x.body.toNat+x.et.toNat)):=by
  rw[<- sZ,o6,o6]
 have W:(l.take x.body.toNat).length=x.body.toNat:=cJ
 have lb:((l.drop x.body.toNat).take x.et.toNat).length=x.et.toNat:=by rw[lY,qa];omega
 simp only[]
 have Y:∀t,tf (x::l)=some t->∃a b r,t=.cons x a b r/\tf (l.take x.body.toNat)=some a/\tf ((l.drop x.body.toNat).take x.et.toNat)=some b/\tf (l.drop (x.body.toNat+x.et.toNat))=some r:=by
  intro t ht
  obtain⟨J,O⟩:=nZ ht
  cases t with
  | nil=>cases J
  | cons y a b r=>
   obtain⟨rfl,u⟩:=aaT.inj J
   obtain⟨g1,g2,_,_,G,hb,E⟩:=O
   have I:x.body.toNat=a.flat.length:=by rw[Bk.cY];omega
   have M:x.et.toNat=b.flat.length:=by rw[Bk.cY];omega
   refine⟨a,b,r,rfl,?_,?_,?_⟩
   .rw[u,I,M6];exact rM G
   .rw[u,I,M,ED,M6];exact rM hb
   .rw[u,<- sZ,I,M,ED,ED];exact rM E
 cases G:tf (l.take x.body.toNat)with
 | none=>
  have:tf (x::l)=none:=by
   cases hh:tf (x::l)with
   | none=>rfl
   | some t=>grind
  unfold fC;rw[this,G];simp
 | some a=>
  cases hb:tf ((l.drop x.body.toNat).take x.et.toNat)with
  | none=>
   have:tf (x::l)=none:=by
    cases hh:tf (x::l)with
    | none=>rfl
    | some t=>grind
   unfold fC;rw[this,hb];simp
  | some b=>
   cases E:tf (l.drop (x.body.toNat+x.et.toNat))with
   | none=>
    have:tf (x::l)=none:=by
     cases hh:tf (x::l)with
     | none=>rfl
     | some t=>grind
    unfold fC;rw[this,E];simp
   | some r=>
    obtain⟨V,a2⟩:=nZ G
    obtain⟨b1,b2⟩:=nZ hb
    obtain⟨r1,Z⟩:=nZ E
    have u:x::l=(Bk.cons x a b r).flat:=by unfold Bk.flat;grind
    rw[V,Bk.cY]at W
    rw[b1,Bk.cY]at lb
    have:tf (x::l)=some (.cons x a b r):=by rw[u];exact rM ⟨bM,bM,bM,bM,a2,b2,Z⟩
    have na:=a.Bc
    have nb:=b.Bc
    have nr:=r.Bc
    unfold fC
    rw[this,G,hb,E]
    simp only[Bk.ok,U,Bt]
    cases h1:a.ok (Bk.D2 x loops)<;>cases h2:b.ok (Bk.D2 x loops)<;>cases h3:r.ok loops<;>simp[Bk.depth]
    omega
def so(n d:Int):Int:=if d<0 then -1 else max n d
def JF{xs l:List bP}{x:bP}{loops n:Int}(h:fC xs loops=so n (fC (x::l) loops))(hb:¬ (uL x l/\Bk.yp x loops=true)):fC xs loops = -1:=by
 rw[h,UR hb];rfl
def Yq{xs l:List bP}{x:bP}{loops n:Int}(h:fC xs loops=so n (fC (x::l) loops))(E:uL x l)(G:Bk.yp x loops=true)(hb:Bk.zM x=true)(A B:Int)
  (I:A=fC (l.take x.body.toNat) (Bk.D2 x loops)) (u:B=fC ((l.drop x.body.toNat).take x.et.toNat) (Bk.D2 x loops)) :
  (A<0\/B<0->fC xs loops = -1)/\(¬ (A<0\/B<0)->fC xs loops=so (max (max n (1+A)) (1+B)) (fC (l.drop (x.body.toNat+x.et.toNat)) loops)):=by
 have J:=tH (l.drop (x.body.toNat+x.et.toNat)) loops
 rw[h,E6 E G]
 simp only[<- I,<- u,hb,if_true]
 unfold so
 constructor<;>intro h<;>repeat' split
 all_goals omega
def ag5{xs l:List bP}{x:bP}{loops n:Int}(h:fC xs loops=so n (fC (x::l) loops))(u:uL x l)(B:Bk.yp x loops=true)(hb:Bk.zM x=false) :
  fC xs loops=so n (fC (l.drop (x.body.toNat+x.et.toNat)) loops):=by
 have E:x.body=0/\x.et=0:=by
  unfold Bk.yp at B
  unfold Bk.zM at hb
  obtain⟨h1,h2,_⟩:=u
  grind
 rw[h,E6 u B,E.1,E.2]
 have G:l.take (aa5 0)=[]:=rfl
 have I:(l.drop (aa5 0)).take (aa5 0)=[]:=rfl
 simp only[hb,G,I,Cp]
 unfold so
 repeat' split
 all_goals first|omega|simp_all
theorem drop_cons{α:Type}{xs:List α}{k:Nat}{x:α}(h:xs[k]?=some x):xs.drop k=x::xs.drop (k+1):=by
 obtain⟨h1,h2⟩:=j0.1 h
 rw[r6 h1,h2]
theorem vv{α:Type}(xs:List α){a b c n:Nat}(h:b=a+n)(hc:c=a):(xs.take b).drop c=(xs.drop a).take n:=by
 subst h hc;rw[List.drop_take,Nat.add_sub_cancel_left]
def US:List ByteArray:=[⟨#[]⟩,⟨#[114,101]⟩,⟨#[114,110]⟩,⟨#[110,101]⟩,⟨#[114,110,101,102]⟩,⟨#[110]⟩,⟨#[110]⟩,⟨#[]⟩,⟨#[]⟩,⟨#[110]⟩,⟨#[110]⟩,⟨#[101,98]⟩,⟨#[107,98]⟩,⟨#[]⟩,⟨#[101]⟩]
def fE(k:Int):ByteArray:=if k<1\/14<k then⟨#[]⟩else US.getD k.toNat ⟨#[]⟩
def eU(s:ByteArray)(c:Int):Bool:=(iN s).any λb=>decide ((b.toNat:Int)=c)
def m9(x:bP):Bool:=
 !(decide (x.kind<1)||decide (14<x.kind)||decide (x.at_<0)||decide (4000<x.at_)) &&
 !((eU (fE x.kind) 114 != gQ x.eD)||(!eU (fE x.kind) 114&&decide (¬ x.eD=⟨#[]⟩))||(eU (fE x.kind) 110 != gQ x.name)||(!eU (fE x.kind) 110&&decide (¬ x.name=⟨#[]⟩))) &&
 !((eU (fE x.kind) 101 != fB x.e)||(!eU (fE x.kind) 101&&decide (0<x.e.length))||(eU (fE x.kind) 102 != fB x.f)||(!eU (fE x.kind) 102&&decide (0<x.f.length))) &&
 (if eU (fE x.kind) 107=true then decide (1<=x.n/\x.n<=8)else decide (x.n=0))
def pO(l:List bP):Bool:=decide (l.length<=40)&&!l.any (λx=>!m9 x)&&decide (0<=fC l 0/\fC l 0<=12)
def rA(n:Int):Bool:=decide (0<=n/\n<=4000)
def iP(u:Int)(c:cI):Bool:=!gQ c.name||decide (c.n<0)||decide (u<c.n)||!rA c.at_
def n6(u:Int)(l:List cI):Bool:=!l.any (iP u)
def sq(nb:Bool)(t:cM):Bool:=(nb != gQ t.name)||(!nb&&decide (¬ t.name=⟨#[]⟩))||!rA t.at_||!pO t.body
def mz(nb:Bool)(t:cM):Bool:=sq nb t||t.dQ.any (λs=>!gQ s)
def nI(nb:Bool)(l:List cM):Bool:=!l.any (mz nb)
def nQ(l:List cI):Bool:=decide ((l.length:Int)=0)||!n6 4294967296 l
def lR(c:gV):Bool:=!rA c.at_||!fB c.e
def km(p:cA):Bool:=!p.lines.any nQ&&!p.eb.any lR&&(n6 4294967296 p.iO&&n6 0 p.eI&&nI true p.threads&&nI false p.recover&&decide (p.recover.length<=1))
def SzS(x:bP):Prop:=x.eD.size<=1048576/\x.name.size<=1048576/\x.e.length<=1048576/\x.f.length<=1048576/\(∀y∈x.e,y.name.size<=1048576)/\(∀y∈x.f,y.name.size<=1048576)
def Yr(t:cM):Prop:=t.name.size<=1048576/\(∀s∈t.dQ,s.size<=1048576)/\(∀x∈t.body,SzS x)
structure PZ(p:cA):Prop extends PS p where
 zl:∀l∈p.lines,∀c∈l,c.name.size<=1048576
 zv:∀c∈p.iO,c.name.size<=1048576
 zk:∀c∈p.eI,c.name.size<=1048576
 zt:∀t∈p.threads,Yr t
 zr:∀t∈p.recover,Yr t
 zc:∀c∈p.eb,c.e.length<=1048576/\∀y∈c.e,y.name.size<=1048576
def E7(k:Int):(fE k).size<=1048576:=by
 unfold fE
 split
 .decide
 rename_i h
 obtain rfl|rfl|rfl|rfl|rfl|rfl|rfl|rfl|rfl|rfl|rfl|rfl|rfl|rfl:k=1\/k=2\/k=3\/k=4\/k=5\/k=6\/k=7\/k=8\/k=9\/k=10\/k=11\/k=12\/k=13\/k=14:=bM
 all_goals decide
def C315(k:Int)(w:World):CR 315 [hH k] w (λv w'=>v=.string (fE k)/\Ext w w'):=by
 have u:=St.start w;refine adb _ _ _ ?_;unfold S315;refine⟨λM w'=>M=.bool (decide (k<1\/14<k))/\w=w',aQ (aC (λ_=>⟨OU bM,rfl⟩) λ_=>cP ⟨yJ bM,rfl⟩),?_⟩;rintro _ _ ⟨rfl,J⟩ _;subst J;refine aC (λB=>?_) (λB=>?_)
 .refine⟨?_,u.aF⟩;unfold fE;rw[ej B]
 refine bD US u iF rfl rfl (dR rfl) (λI _ u=>?_);have U:US.length=15:=rfl;obtain⟨O,E⟩:=gx US (i:=k.toNat) bM;refine dM u iF bM bM (λ_ G=>fZ u gB G E ?_);refine⟨?_,u.aF⟩;unfold fE;rw[ei B,n0,E];rfl
def C316(s:ByteArray)(c:Int)(w:World)(U:s.size<=1048576):CR 316 [.string s,.int .u8 c] w (λv w'=>v=.bool (eU s c)/\Ext w w'):=by
 have u:=St.start w;refine eZ Tryz.func316 ?_;refine⟨λm x I=>∃k:Nat,x=hH (k:Int)/\m=(iN s).length-k/\k<=(iN s).length/\(∀y∈(iN s).take k,decide ((y.toNat:Int)=c)=false)/\St w aZ [] I,⟨_,0,rfl,rfl,la _,ee,u⟩,?_⟩;rintro m _ I ⟨k,rfl,rfl,J,B,u⟩ _;rw[eY]at J;have V:=eY s;refine fg iq (aQ (aC (λM=>?_) λM=>?_))
 .obtain⟨W,E⟩:∃O,(iN s)[(k:Int).toNat]?=some O:=⟨_,kO (by rw[eY];omega)⟩;exact jQ iq bM E (nF (aC (λG=>⟨vb (ig E (ew G)).symm,u.aF⟩) λG=>aK bM ⟨_,bM,k+1,rfl,rfl,bM,dW B E (ez G),u⟩))
 rw[kE bM]at B;exact⟨vb (iB B).symm,u.aF⟩
def C288(x:bP)(xv:bE)(w:World)(hx:mv w xv x)(B:SzS x):CR 288 [hM xv] w (λv w'=>v=.bool (m9 x)/\Ext w w'):=by
 obtain⟨U,V,rfl,Mn,HL⟩:=hx;have u:=St.start w;refine eZ Tryz.func288 ?_;refine cH u (λO _ u=>⟨λG w'=>G=.bool (decide (x.kind<1)||decide (14<x.kind)||decide (x.at_<0)||decide (4000<x.at_))/\St w aZ [bY O (hZ (⟨x.kind,x.eD,x.name,U,V,x.n,x.body,x.et,x.at_⟩:bE))] w',?_,?_⟩)
 .refine aA dN (aB (v:=hH x.kind) bO u.hb rfl ?_);exact aQ (aC (λ_=>⟨vb cJ,u⟩) λ_=>aA dN (aB (v:=hH x.kind) bO u.hb rfl (cP (aC (λ_=>⟨vb cJ,u⟩) λ_=>aA lJ (aB (v:=hH x.at_) bO u.hb rfl (aQ (aC (λ_=>⟨vb cJ,u⟩) λ_=>aA lJ (aB (v:=hH x.at_) bO u.hb rfl (cP ⟨vb cJ,u⟩)))))))))
 rintro _ _ ⟨rfl,u⟩ _;refine aY (λjx=>?_) (λjx=>aA dN (aB (v:=hH x.kind) bO u.hb rfl (aV aos u (C315 _ _) λ_ E u=>aV Lv u (C316 _ _ _ (E7 _)) λ_ E u=>aV Lv u (C316 _ _ _ (E7 _)) λ_ E u=>aV Lv u (C316 _ _ _ (E7 _)) λ_ E u=>aV Lv u (C316 _ _ _ (E7 _)) λ_ E u=>⟨λG w'=>G=.bool ((eU (fE x.kind) 114 != gQ x.eD)||(!eU (fE x.kind) 114&&decide (¬ x.eD=⟨#[]⟩))||(eU (fE x.kind) 110 != gQ x.name)||(!eU (fE x.kind) 110&&decide (¬ x.name=⟨#[]⟩)))/\St w aZ [bY O (hZ (⟨x.kind,x.eD,x.name,U,V,x.n,x.body,x.et,x.at_⟩:bE))] w',?_,?_⟩)))
 .refine⟨vb ?_,u.drop.aF⟩;unfold m9;simp only[*]
  first|done|rfl|simp
 .refine aA iG (aB (v:=.string x.eD) gB u.hb rfl (aV uy u (C211 _ _ B.1) λ_ E u=>rV LI (aY (λ_=>⟨vb cJ,u⟩) λvS=>bQ (aY (λBd=>?_) λ_=>aA gh (aB (v:=.string x.name) gB u.hb rfl (aV uy u (C211 _ _ B.2.1) λ_ _ u=>rV LI (aY (λ_=>⟨vb cJ,u⟩) λ_=>bQ (aY (λ_=>aA gh (aB (v:=.string x.name) gB u.hb rfl (l4 ⟨vb cJ,u⟩))) λ_=>⟨vb cJ,u⟩))))))));refine aA iG ?_;exact aB (v:=.string x.eD) gB u.hb rfl (l4 (aC (λ_=>⟨vb cJ,u⟩) λ_=>aA gh (aB (v:=.string x.name) gB u.hb rfl (aV uy u (C211 _ _ B.2.1) λ_ _ u=>rV LI (aY (λ_=>⟨vb cJ,u⟩) λ_=>bQ (aY (λ_=>aA gh (aB (v:=.string x.name) gB u.hb rfl (l4 ⟨vb cJ,u⟩))) λ_=>⟨vb cJ,u⟩))))))
 rintro _ _ ⟨rfl,u⟩ _;refine aY (λZ=>?_) (λZ=>⟨λG w'=>G=.bool ((eU (fE x.kind) 101 != fB x.e)||(!eU (fE x.kind) 101&&decide (0<x.e.length))||(eU (fE x.kind) 102 != fB x.f)||(!eU (fE x.kind) 102&&decide (0<x.f.length)))/\St w aZ [bY O (hZ (⟨x.kind,x.eD,x.name,U,V,x.n,x.body,x.et,x.at_⟩:bE))] w',?_,?_⟩)
 .refine⟨vb ?_,u.drop.aF⟩;unfold m9;simp only[*]
  first|done|rfl|simp
 .refine aA iT (aB jH u.hb rfl ?_);have J:=DL.flat Mn;refine aV Lq u (C200 _ _ _ (J.ext u.aF) B.2.2.1 B.2.2.2.2.1) (λ_ E u=>rV LI (aY (λ_=>⟨vb cJ,u⟩) λHM=>bQ (aY (λW=>aA iT (aB jH u.hb rfl (aH g9 (J.ext u.aF) (cP (aC (λ_=>⟨vb cJ,u⟩) λSR=>?_))))) λW=>?_)))
  .refine aA j3 (aB jH u.hb rfl ?_);have M:=DL.flat HL;exact aV Lq u (C200 _ _ _ (M.ext u.aF) B.2.2.2.1 B.2.2.2.2.2) (λ_ _ u=>rV LI (aY (λ_=>⟨vb cJ,u⟩) λ_=>bQ (aY (λ_=>aA j3 (aB jH u.hb rfl (aH g9 (M.ext u.aF) (cP ⟨vb cJ,u⟩)))) λ_=>⟨vb cJ,u⟩)))
  refine aA j3 (aB jH u.hb rfl ?_);have I:=DL.flat HL;exact aV Lq u (C200 _ _ _ (I.ext u.aF) B.2.2.2.1 B.2.2.2.2.2) (λ_ _ u=>rV LI (aY (λ_=>⟨vb cJ,u⟩) λ_=>bQ (aY (λ_=>aA j3 (aB jH u.hb rfl (aH g9 (I.ext u.aF) (cP ⟨vb cJ,u⟩)))) λ_=>⟨vb cJ,u⟩)))
 rintro _ _ ⟨rfl,u⟩ _;refine aY (λY=>?_) (λY=>aV Lv u (C316 _ _ _ (E7 _)) λ_ E u=>aY (λCq=>⟨λG w'=>G=.bool (decide (1<=x.n/\x.n<=8))/\St w aZ [bY O (hZ (⟨x.kind,x.eD,x.name,U,V,x.n,x.body,x.et,x.at_⟩:bE))] w',aA jK (aB (v:=hH x.n) bO u.hb rfl (cQ (aC (λ_=>aA jK (aB (v:=hH x.n) bO u.hb rfl (gA ⟨vb cJ,u⟩))) λ_=>⟨vb cJ,u⟩))),?_⟩) λCq=>?_)
 .refine⟨vb ?_,u.drop.aF⟩;unfold m9;simp only[*]
  first|done|rfl|simp
 .rintro _ _ ⟨rfl,u⟩ _;refine⟨vb ?_,u.drop.aF⟩;unfold m9;simp only[*]
  first|done|rfl|simp
 refine aA jK (aB (v:=hH x.n) bO u.hb rfl (aG ?_));refine⟨vb ?_,u.drop.aF⟩;unfold m9;simp only[*]
 first|done|rfl|simp
theorem C289(lv:Value)(xs:List bP)(loops:Int)(N:Nat)(w:World)(hL:DL w lv xs)(hn:xs.length<=1048576)(hlo:0<=loops)(Mp:loops+N<=4194304)(hN:xs.length<N):CR 289 [lv,hH loops] w (λv w'=>v=hH (fC xs loops)/\Ext w w'):=by
 have E:=St.start w;refine ac7 _ _ _ _ ?_;unfold S289;refine⟨λm y x w1=>∃(k:Nat) (n:Int),y=hH n/\x=hH (k:Int)/\m=xs.length-k/\k<=xs.length/\0<=n/\n<=41/\fC xs loops=so n (fC (xs.drop k) loops)/\St w aZ [] w1,⟨_,0,0,rfl,rfl,rfl,bM,bM,bM,by have:=tH xs loops;rw[U0];unfold so;split<;>omega,E⟩,?_⟩;rintro m _ _ w1 ⟨k,n,rfl,rfl,rfl,hk,Ys,Yf,hinv,E⟩ _;obtain⟨ts7,G,J⟩:=hL.open;have hn7:=J.1;refine aH fq (G.ext E.aF) (aQ (aC (λjl=>?_) λjl=>?_))
 .obtain⟨qx,gX⟩:=gx ts7 (i:=(k:Int).toNat) bM;obtain⟨u,E9⟩:=gx xs (i:=(k:Int).toNat) bM;obtain⟨O,M,rfl,adK,adL⟩:=J.2 _ _ _ gX E9;refine aN fq (G.ext E.aF) bM gX (λ_ sj=>?_);have hdk:=drop_cons (xs:=xs) (k:=k) E9;rw[hdk]at hinv;have Mq:(xs.drop (k+1)).length=xs.length-(k+1):=qa;refine aD eK sj (aR E jq λU _ E=>aJ (x:=(⟨u.kind,u.eD,u.name,O,M,u.n,u.body,u.et,u.at_⟩:bE)) E eK rfl rfl λ_ E=>⟨λI w'=>I=.bool (decide (u.body<0)||decide (u.et<0)||decide (40<u.body)||decide (40<u.et)||decide ((xs.length:Int)<k+1+u.body+u.et))/\St w aZ [bY U (hZ (⟨u.kind,u.eD,u.name,O,M,u.n,u.body,u.et,u.at_⟩:bE))] w',aA iU (aB (v:=hH u.body) bO E.hb rfl (aQ (aC (λ_=>⟨vb cJ,E⟩) λiw=>aA iH (aB (v:=hH u.et) bO E.hb rfl (aQ (aC (λ_=>⟨vb cJ,E⟩) λza=>aA iU (aB (v:=hH u.body) bO E.hb rfl (cP (aC (λ_=>⟨vb cJ,E⟩) λl9=>?_))))))))),?_⟩)
  .exact aA iH (aB (v:=hH u.et) bO E.hb rfl (cP (aC (λ_=>⟨vb cJ,E⟩) λ_=>aK bM (aA iU (aB (v:=hH u.body) bO E.hb rfl (aK bM (aA iH (aB (v:=hH u.et) bO E.hb rfl (aK bM (aH fq (G.ext E.aF) (cP ⟨vb cJ,E⟩)))))))))))
  rintro _ _ ⟨rfl,E⟩ _;refine aY (λ_=>⟨fM (ng .i64) (JF hinv (by unfold uL;grind)).symm,E.drop.aF⟩) (λMk=>?_);have oK:uL u (xs.drop (k+1)):=by unfold uL;grind
  refine⟨λI w'=>I=.bool (!Bk.yp u loops)/\St w aZ [bY U (hZ (⟨u.kind,u.eD,u.name,O,M,u.n,u.body,u.et,u.at_⟩:bE))] w',aA iU (aB (v:=hH u.body) bO E.hb rfl (cP (aC (λC9=>aA dN (aB (v:=hH u.kind) bO E.hb rfl (bV (aC (λapd=>aA dN (aB (v:=hH u.kind) bO E.hb rfl (bV (aC (λ_=>⟨vb (by unfold Bk.yp;grind),E⟩) λSS=>?_)))) λapd=>?_)))) λC9=>?_))),?_⟩
  .refine aA iH (aB (v:=hH u.et) bO E.hb rfl (cP (aC (λ_=>aA dN (aB (v:=hH u.kind) bO E.hb rfl (bV (aC (λ_=>⟨vb (by unfold Bk.yp;grind),E⟩) λ_=>aA dN (aB (v:=hH u.kind) bO E.hb rfl (aG (aC (λ_=>aG ⟨vb (by unfold Bk.yp;grind),E⟩) λ_=>⟨vb (by unfold Bk.yp;grind),E⟩))))))) λwZ=>?_)));exact aA dN (aB (v:=hH u.kind) bO E.hb rfl (aG (aC (λ_=>aG ⟨vb (by unfold Bk.yp;grind),E⟩) λ_=>⟨vb (by unfold Bk.yp;grind),E⟩)))
  .refine aA iH (aB (v:=hH u.et) bO E.hb rfl (cP (aC (λ_=>aA dN (aB (v:=hH u.kind) bO E.hb rfl (bV (aC (λ_=>⟨vb (by unfold Bk.yp;grind),E⟩) λ_=>aA dN (aB (v:=hH u.kind) bO E.hb rfl (aG (aC (λ_=>aG ⟨vb (by unfold Bk.yp;grind),E⟩) λ_=>⟨vb (by unfold Bk.yp;grind),E⟩))))))) λauh=>?_)));exact aA dN (aB (v:=hH u.kind) bO E.hb rfl (aG (aC (λ_=>aG ⟨vb (by unfold Bk.yp;grind),E⟩) λ_=>⟨vb (by unfold Bk.yp;grind),E⟩)))
  .refine aA iH (aB (v:=hH u.et) bO E.hb rfl (cP (aC (λ_=>aA dN (aB (v:=hH u.kind) bO E.hb rfl (bV (aC (λ_=>⟨vb (by unfold Bk.yp;grind),E⟩) λ_=>aA dN (aB (v:=hH u.kind) bO E.hb rfl (aG (aC (λ_=>aG ⟨vb (by unfold Bk.yp;grind),E⟩) λ_=>⟨vb (by unfold Bk.yp;grind),E⟩))))))) λaui=>?_)));exact aA dN (aB (v:=hH u.kind) bO E.hb rfl (aG (aC (λ_=>aG ⟨vb (by unfold Bk.yp;grind),E⟩) λ_=>⟨vb (by unfold Bk.yp;grind),E⟩)))
  rintro _ _ ⟨rfl,E⟩ _;refine aY (λ_=>⟨fM (ng .i64) (JF hinv cJ).symm,E.drop.aF⟩) (λag9=>?_);have jT:Bk.yp u loops=true:=cJ
  have aja:=oK;unfold uL at aja;refine aK bM (aA iU (have E:=E.drew;aB (v:=hH u.body) bO E.hb rfl (aK bM ⟨λI w'=>I=hH (Bk.D2 u loops)/\St w aZ [bY U (hZ (⟨u.kind,u.eD,u.name,O,M,u.n,u.body,u.et,u.at_⟩:bE))] w',aA dN (aB (v:=hH u.kind) bO E.hb rfl (aG (aC (λ_=>aK bM ⟨fM (ng .i64) (by unfold Bk.D2;grind),E⟩) λ_=>⟨fM (ng .i64) (by unfold Bk.D2;grind),E⟩))),?_⟩)));rintro _ _ ⟨rfl,E⟩ _;have rU:loops<=Bk.D2 u loops/\Bk.D2 u loops<=loops+1:=by unfold Bk.D2;split<;>omega
  refine⟨λI w'=>∃V:Int,I=hH V/\0<=V/\V<=41/\fC xs loops=so V (fC (xs.drop (k+1+(u.body.toNat+u.et.toNat))) loops)/\St w aZ [bY U (hZ (⟨u.kind,u.eD,u.name,O,M,u.n,u.body,u.et,u.at_⟩:bE))] w',⟨λI w'=>I=.bool (decide (u.kind=11)||decide (u.kind=12))/\St w aZ [bY U (hZ (⟨u.kind,u.eD,u.name,O,M,u.n,u.body,u.et,u.at_⟩:bE))] w',aA dN (aB (v:=hH u.kind) bO E.hb rfl (aG (aC (λ_=>⟨vb cJ,E⟩) λ_=>aA dN (aB (v:=hH u.kind) bO E.hb rfl (aG ⟨vb cJ,E⟩))))),?_⟩,?_⟩
  .rintro _ _ ⟨rfl,E⟩ _;refine aY (λajb=>?_) (λajb=>?_)
   .refine aK bM (oA fq (G.ext E.aF) bM bM bM λawK adM=>?_);have adN:=DL.cut adM G J;refine aA iH (have E:=E.drew;aB (v:=hH u.et) bO E.hb rfl (aK bM (oA fq (G.ext E.aF) bM bM bM λawL adO=>?_)));have adP:=DL.cut adO G J;have Z:((xs.take (((k:Int)+1)+u.body).toNat).drop ((k:Int)+1).toNat)=(xs.drop (k+1)).take u.body.toNat:=vv xs bM bM;have W:((xs.take ((((k:Int)+1)+u.body)+u.et).toNat).drop (((k:Int)+1)+u.body).toNat)=((xs.drop (k+1)).drop u.body.toNat).take u.et.toNat:=by rw[sZ];exact vv xs bM bM
    have hlA:((xs.take (((k:Int)+1)+u.body).toNat).drop ((k:Int)+1).toNat).length<=xs.length-1/\((xs.take (((k:Int)+1)+u.body).toNat).drop ((k:Int)+1).toNat).length<=40:=by rw[Z,lY];omega
    have hlB:((xs.take ((((k:Int)+1)+u.body)+u.et).toNat).drop (((k:Int)+1)+u.body).toNat).length<=xs.length-1/\((xs.take ((((k:Int)+1)+u.body)+u.et).toNat).drop (((k:Int)+1)+u.body).toNat).length<=40:=by rw[W,lY,qa];omega
    refine aV Xo E (C289 _ _ _ (N-1) _ (adN.ext E.aF) bM bM bM bM) (λ_ he E=>?_);refine⟨aI bO (E.hb.cell rfl),?_⟩;refine dO Xo (C289 _ _ _ (N-1) _ (adP.ext E.aF) bM bM bM bM) ?_;rintro _ _ ⟨rfl,he⟩;have E:=E.ext he;obtain⟨A,hA⟩:∃A,A=fC ((xs.take (((k:Int)+1)+u.body).toNat).drop ((k:Int)+1).toNat) (Bk.D2 u loops):=⟨_,rfl⟩;obtain⟨B,hB⟩:∃B,B=fC ((xs.take ((((k:Int)+1)+u.body)+u.et).toNat).drop (((k:Int)+1)+u.body).toNat) (Bk.D2 u loops):=⟨_,rfl⟩;have hAb:=tH ((xs.take (((k:Int)+1)+u.body).toNat).drop ((k:Int)+1).toNat) (Bk.D2 u loops)
    have hBb:=tH ((xs.take ((((k:Int)+1)+u.body)+u.et).toNat).drop (((k:Int)+1)+u.body).toNat) (Bk.D2 u loops);rw[<- hA]at hAb;rw[<- hB]at hBb;rw[<- hA,<- hB];have UQ:=Yq hinv oK jT (by unfold Bk.zM;grind) A B (by rw[hA,Z]) (by rw[hB,W]);refine⟨λI w'=>I=.bool (decide (A<0\/B<0))/\St w aZ [bY U (hZ (⟨u.kind,u.eD,u.name,O,M,u.n,u.body,u.et,u.at_⟩:bE))] w',aQ (aC (λ_=>⟨vb cJ,E⟩) λ_=>aQ ⟨vb cJ,E⟩),?_⟩;rintro _ _ ⟨rfl,E⟩ _;refine aY (λPU=>⟨fM (ng .i64) (UQ.1 (ga PU)).symm,E.drop.aF⟩) (λPU=>aK bM (aK bM (Mb ?_)))
    have Yt:=UQ.2 (gS PU);rw[sZ]at Yt;exact⟨_,rfl,bM,bM,Yt,E⟩
   have Y:=ag5 hinv oK jT (by unfold Bk.zM;grind);rw[sZ]at Y;exact⟨_,rfl,Ys,Yf,Y,E⟩
  rintro _ _ ⟨V,rfl,ajd,aje,Yu,E⟩ _;exact aA iH (aB (v:=hH u.et) bO E.hb rfl (aK bM ⟨_,bM,k+1+(u.body.toNat+u.et.toNat),V,rfl,fM (ng .i64) bM,rfl,bM,ajd,aje,Yu,E.drop⟩))
 rw[u1 bM,Cp]at hinv;exact⟨fM (ng .i64) (by rw[hinv];unfold so;omega),E.aF⟩
termination_by N
decreasing_by all_goals omega
def C253(lv:Value)(xs:List bP)(w:World)(hL:DL w lv xs)(hn:xs.length<=1048576)(hz:∀x∈xs,SzS x):CR 253 [lv] w (λv w'=>v=.bool (pO xs)/\Ext w w'):=by
 have u:=St.start w;refine eZ Tryz.func253 ?_;obtain⟨U,B,E⟩:=hL.open;have hn8:=E.1;refine aH fq (B.ext u.aF) (cP (aC (λgW=>?_) λgW=>?_))
 .refine⟨vb ?_,u.aF⟩;unfold pO;rw[ez bM];rfl
 refine⟨λm x Z=>∃k:Nat,x=hH (k:Int)/\m=xs.length-k/\k<=xs.length/\(∀y∈xs.take k,(!m9 y)=false)/\St w aZ [] Z,⟨_,0,rfl,rfl,la _,ee,u⟩,?_⟩;rintro m _ Z ⟨k,rfl,rfl,hk,I,u⟩ _;refine aH fq (B.ext u.aF) (aQ (aC (λjw=>?_) λjw=>aV Xo u (C289 _ _ _ (xs.length+1) _ (hL.ext u.aF) bM bM bM bM) λ_ he u=>⟨λjv w'=>jv=.bool (decide (0<=fC xs 0/\fC xs 0<=12))/\St w aZ [] w',cQ (aC (λ_=>gA ⟨vb cJ,u⟩) λ_=>⟨vb cJ,u⟩),?_⟩))
 .obtain⟨Yv,Y⟩:=gx U (i:=(k:Int).toNat) bM;obtain⟨su,G⟩:=gx xs (i:=(k:Int).toNat) bM;obtain⟨J,M,rfl,V,O⟩:=E.2 _ _ _ Y G;refine aN fq (B.ext u.aF) bM Y (λ_ A6=>aD eK A6 (aV aoh u (C288 su _ _ ⟨J,M,rfl,V.ext u.aF,O.ext u.aF⟩ (hz _ (kp G))) λ_ he u=>bQ (aY (λW=>?_) λW=>aK bM ⟨_,bM,k+1,rfl,rfl,bM,dW I G W,u⟩)));refine⟨vb ?_,u.aF⟩;unfold pO;rw[ig G W];simp
 rintro _ _ ⟨rfl,u⟩ _;rw[kE bM]at I;refine⟨vb ?_,u.aF⟩;unfold pO;rw[iB I,ew (show xs.length<=40 by omega)];rfl
def C199(n:Int)(w:World):CR 199 [hH n] w (λv w'=>v=.bool (rA n)/\Ext w w'):=by
 have u:=St.start w;refine eZ Tryz.func199 ?_;refine⟨λE w'=>E=.bool (decide (0<=n/\n<=4000))/\w=w',cQ (aC (λ_=>gA ⟨yJ bM,rfl⟩) λ_=>⟨Xd bM,rfl⟩),?_⟩;rintro _ _ ⟨rfl,B⟩ _;subst B;exact⟨rfl,u.aF⟩
def C198(lv:Value)(xs:List cI)(I:Int)(w:World)(G:cZ (λ_=>True) w lv xs)(hn:xs.length<=1048576)(Z:∀c∈xs,c.name.size<=1048576):CR 198 [lv,hH I] w (λv w'=>v=.bool (n6 I xs)/\Ext w w'):=by
 have u:=St.start w;refine eZ Tryz.func198 ?_;refine⟨λm x O=>∃k:Nat,x=hH (k:Int)/\m=xs.length-k/\k<=xs.length/\(∀y∈xs.take k,iP I y=false)/\St w aZ [] O,⟨_,0,rfl,rfl,la _,ee,u⟩,?_⟩;rintro m _ O ⟨k,rfl,rfl,hk,M,u⟩ _;refine aH iu (G.ext u.aF) (aQ (aC (λjC=>?_) λjC=>?_))
 .obtain⟨E,B⟩:=gx xs (i:=(k:Int).toNat) bM;refine⟨λU w'=>U=.bool (iP I E)/\St w aZ [] w',aN iu (G.ext u.aF) bM B (λ_ ij=>bU E.name kL ij rfl rfl λ_ uJ=>aD gB uJ (aV uy u (C211 _ _ (Z _ (kp B))) λ_ he u=>bQ (aY (λ_=>⟨vb (by unfold iP;grind),u⟩) λlP=>?_))),?_⟩
  .refine aN iu (G.ext u.aF) bM B (λ_ W=>bU E.n rX W rfl rfl λ_ V=>?_);exact aD bO V (aQ (aC (λ_=>⟨vb (by unfold iP;grind),u⟩) λ_=>aN iu (G.ext u.aF) bM B λ_ my=>bU E.n rX my rfl rfl λ_ sw=>aD bO sw (cP (aC (λ_=>⟨vb (by unfold iP;grind),u⟩) λ_=>aN iu (G.ext u.aF) bM B λ_ Y=>bU E.at_ uE Y rfl rfl λ_ Yn=>aD bO Yn (aV Sc u (C199 _ _) λ_ _ u=>bQ ⟨vb (by unfold iP;grind),u⟩)))))
  rintro _ _ ⟨rfl,u⟩ _;refine aY (λJ=>?_) (λJ=>aK bM ⟨_,bM,k+1,rfl,rfl,bM,dW M B J,u⟩);refine⟨vb ?_,u.aF⟩;unfold n6;rw[ig B J];rfl
 rw[kE bM]at M;refine⟨vb ?_,u.aF⟩;unfold n6;rw[iB M];rfl
def C201(lv:Value)(xs:List cM)(nb:Bool)(w:World)(hL:DL w lv xs)(hn:xs.length<=1048576)(hz:∀t∈xs,Yr t/\t.dQ.length<=500/\t.body.length<=500):CR 201 [lv,.bool nb] w (λv w'=>v=.bool (nI nb xs)/\Ext w w'):=by
 have u:=St.start w;refine eZ Tryz.func201 ?_;refine⟨λm x V=>∃k:Nat,x=hH (k:Int)/\m=xs.length-k/\k<=xs.length/\(∀y∈xs.take k,mz nb y=false)/\St w aZ [] V,⟨_,0,rfl,rfl,la _,ee,u⟩,?_⟩;rintro m _ V ⟨k,rfl,rfl,hk,eE,u⟩ _;obtain⟨ts9,B,M⟩:=hL.open;have hn9:=M.1;refine aH fw (B.ext u.aF) (aQ (aC (λgN=>?_) λgN=>?_))
 .obtain⟨Yv,G⟩:=gx ts9 (i:=(k:Int).toNat) bM;obtain⟨E,O⟩:=gx xs (i:=(k:Int).toNat) bM;obtain⟨Fa,Fb,rfl,PV,Fc⟩:=M.2 _ _ _ G O;have I:=hz _ (kp O);refine⟨λjv w'=>jv=.bool (sq nb E)/\St w aZ [] w',aN fw (B.ext u.aF) bM G (λ_ A6=>bU E.name qo A6 rfl rfl λ_ Mg=>aD gB Mg (aV uy u (C211 _ _ I.1.1) λ_ he u=>rV LI (aY (λ_=>⟨vb (by unfold sq;grind),u⟩) λm7=>?_))),?_⟩
  .refine bQ (aY (λm8=>?_) λ_=>aN fw (B.ext u.aF) bM G λ_ adV=>bU E.at_ qp adV rfl rfl λ_ adW=>aD bO adW (aV Sc u (C199 _ _) λ_ _ u=>bQ (aY (λ_=>⟨vb (by unfold sq;grind),u⟩) λ_=>aN fw (B.ext u.aF) bM G λ_ adX=>bU Fb lI adX rfl rfl λ_ adY=>aD jJ adY (aV agE u (C253 _ _ _ (Fc.ext u.aF) bM I.1.2.2) λ_ _ u=>bQ ⟨vb (by unfold sq;grind),u⟩))));refine aN fw (B.ext u.aF) bM G (λ_ sn=>bU E.name qo sn rfl rfl λ_ Fe=>aD gB Fe ?_)
   exact l4 (aC (λ_=>⟨vb (by unfold sq;grind),u⟩) λ_=>aN fw (B.ext u.aF) bM G λ_ Ba=>bU E.at_ qp Ba rfl rfl λ_ xn=>aD bO xn (aV Sc u (C199 _ _) λ_ _ u=>bQ (aY (λ_=>⟨vb (by unfold sq;grind),u⟩) λ_=>aN fw (B.ext u.aF) bM G λ_ Ff=>bU Fb lI Ff rfl rfl λ_ Mr=>aD jJ Mr (aV agE u (C253 _ _ _ (Fc.ext u.aF) bM I.1.2.2) λ_ _ u=>bQ ⟨vb (by unfold sq;grind),u⟩))))
  rintro _ _ ⟨rfl,u⟩ _;refine aY (λMk=>?_) (λMk=>?_)
  .refine⟨vb ?_,u.aF⟩;unfold nI;rw[ig O (show mz nb E=true by unfold mz;rw[Mk];rfl)];rfl
  refine⟨λm x V=>∃J:Nat,x=hH (J:Int)/\m=E.dQ.length-J/\J<=E.dQ.length/\(∀s∈E.dQ.take J,(!gQ s)=false)/\St w aZ [] V,⟨_,0,rfl,rfl,la _,ee,u⟩,?_⟩;rintro m _ _ ⟨J,rfl,rfl,xo,Fg,u⟩ _;refine aN fw (B.ext u.aF) bM G (λ_ Yo=>bU Fa fQ Yo rfl rfl λ_ A5=>aD je A5 ?_);have U:=DL.flat PV;refine aH iF (U.ext u.aF) (aQ (aC (λHN=>?_) λ_=>aK bM ⟨_,bM,k+1,rfl,rfl,bM,dW eE O (by unfold mz;rw[Mk,iB (by rw[kE bM]at Fg;exact Fg)];rfl),u⟩))
  refine aN fw (B.ext u.aF) bM G (λ_ Ms=>bU Fa fQ Ms rfl rfl λ_ Fh=>aD je Fh ?_);obtain⟨Y,W⟩:=gx E.dQ (i:=(J:Int).toNat) bM;refine aN iF (U.ext u.aF) bM W (λ_ apj=>aD gB apj (aV uy u (C211 _ _ (I.1.2.1 _ (kp W))) λ_ he u=>bQ (aY (λZ=>?_) λZ=>aK bM ⟨_,bM,J+1,rfl,rfl,bM,dW Fg W Z,u⟩)));refine⟨vb ?_,u.aF⟩;unfold nI;rw[ig O (show mz nb E=true by unfold mz;rw[ig W Z];simp)];rfl
 rw[kE bM]at eE;refine⟨vb ?_,u.aF⟩;unfold nI;rw[iB eE];rfl
variable (w:World) (K:Value->g7)
def S236(G B:Value):Prop:=
 kG (λE u a=>∀_:Env,
 eS (λK2=>lN 9 G λb=>bA .lss 3 u b λc=>cV c (eT g6 (u3 9 G u) λd=>kD g6 B [d] a λe f=>K2 e f) (K2 ff a)) (λg h=>∀_:Env,
 cV g (bB .add 3 u (i 1) λj=>E j h) (K u h))) (λE=>E (i 0) w)
theorem adZ(B u:Value)(h:S236 w K B u):CR 236 [B,u] w K:=
 qm 20 (λ_=>.nil) 16 [.tmp 4] Tryz.func236 h
def S246(E G:Value):Prop:=
 cF 287 [E,G] w λa b=>lN 41 a λc=>oN (λu B d e=>∀_:Env,
 bA .lss 3 d c λf=>cV f (iA 41 a d λg=>lA 3 g e λh=>cF 246 [E,h] e λj k=>eT g6 (Builtin.max_ #[3,3] 3 [B,j].toArray) λl=>bB .add 3 d (i 1) λn=>
 u l n k) (bB .add 3 B (i 1) λo=>K o e)) (λu=>u (i 0) (i 0) b)
theorem ad0(B u:Value)(h:S246 w K B u):CR 246 [B,u] w K:=
 qm 24 (λ_=>.nil) 16 [.tmp 4] Tryz.func246 h
def awO:dJ:=λi=>match i with
 | 8=>(.of [(0,[]),(1,[]),(2,[]),(3,[]),(4,[]),(5,[]),(6,[]),(7,[]),(8,[]),(9,[]),(10,[]),(11,[4,9]),(12,[])])
 | _=>.nil
def S218(u E:Value):Prop:=
 qW g6 (Instr.box 91 E) w λB a=>cF 185 [u] a λb c=>eT g6 (Op.unary .not b) λd=>cV d (K (.tuple #[(.slice none 0 0),(i 8)]) c) (cF 264 [u] c λe f=>
 cF 240 [e,(.func (Go.Fn.func 262) [].toArray [B].toArray)] f λg h=>cV g (K (.tuple #[(.slice none 0 0),(i 9)]) h) (lA 91 B h λj=>cF 265 [u,(i 0),j] h λk l=>
 K (.tuple #[k,(i 0)]) l))
theorem ad1(B u:Value)(h:S218 w K B u):CR 218 [B,u] w K:=
 qm 18 (λ_=>.nil) 48 [.tmp 4,.tmp 5] Tryz.func218 h
def S143(E u B:Value):Prop:=
 lN 91 u λa=>lN 41 B λb=>bA .neq 3 a b λc=>cV c (K (.tuple #[(i 0),(i 1)]) w) (cF 218 [E,u] w λd e=>xT d 0 λf=>xT d 1 λg=>bB .neq 31 g (i 0) λh=>
 cV h (K (.tuple #[(i 0),g]) e) (cF 219 [f,B] e λj k=>xT j 0 λl=>xT j 1 λn=>K (.tuple #[l,n]) k))
theorem ad2(u B E:Value)(h:S143 w K u B E):CR 143 [u,B,E] w K:=
 qm 29 (λ_=>.nil) 192 [.tmp 6,.tmp 7] Tryz.func143 h
theorem aha:PL 234:=dL Tryz.func234
theorem apk:PL 238:=dL Tryz.func238
theorem apl:PL 236:=dL Tryz.func236
theorem apm:PL 237:=dL Tryz.func237
theorem apn:PL 235:=dL Tryz.func235
theorem Mu:PL 180:=dL Tryz.func180
theorem Yx:PL 286:=dL Tryz.func286
theorem apo:PL 243:=dL Tryz.func243
theorem apq:PL 242:=dL Tryz.func242
theorem Yy:PL 245:=dL Tryz.func245
theorem apr:PL 287:=dL Tryz.func287
theorem ahb:PL 246:=dL Tryz.func246
theorem SU:PL 185:=dL Tryz.func185
theorem aps:PL 264:=dL Tryz.func264
theorem ahc:PL 265:=dL Tryz.func265
theorem apt:PL 218:=dL Tryz.func218
theorem apu:PL 262:=dL Tryz.func262
theorem ahd:PL 143:=dL Tryz.func143
theorem apv:PL 244:=dL Tryz.func244
theorem apw:PL 285:=dL Tryz.func285
theorem ahe:PL 240:=dL Tryz.func240
theorem apx:PL 281:=dL Tryz.func281
theorem ahf:PL 263:=dL Tryz.func263
theorem Yz:PL 225:=dL Tryz.func225
end Go.Proofs.YtpdlpabnlkofmaaGreatDoor
namespace Go.Fw
open Go.MapKept (Stamped IsKey)
open Go.ChangeMaps (setBlock)
def mA(w:World)(b:Nat)(ks:List Int)(vs:List Value):Prop:=
 ∃es clock,w.heap[b]?=some (.map es clock)/\Stamped es clock/\es.toList.map (·.key)=ks.map (ng .i64)/\es.toList.map (·.val)=vs
def kV:List Int->Int->Option Nat
 | [],_=>none
 | x::xs,k=>if x=k then some 0 else(kV xs k).map (· + 1)
theorem ko:∀{ks:List Int}{k:Int}{j:Nat},kV ks k=some j->ks[j]?=some k
 | x::xs,k,j,h=>by
  unfold kV at h
  split at h
  .grind
  .cases hh:kV xs k with
   | none=>grind
   | some i=>rw[hh]at h;simp at h;subst h;simpa using ko hh
theorem mB:∀{ks:List Int}{k:Int},kV ks k=none↔k ∉ ks
 | [],_=>by simp[kV]
 | x::xs,k=>by
  unfold kV
  by_cases e:x=k
  .simp[e]
  .rw[ei e,Option.map_eq_none_iff,mB,sk]
   grind
theorem sy:∀{ks:List Int}{k:Int}{j:Nat},ks.Nodup->ks[j]?=some k->kV ks k=some j
 | x::xs,k,0,_,h=>by simp at h;simp[kV,h]
 | x::xs,k,j+1,hn,h=>by
  rw[List.getElem?_cons_succ]at h
  have u:=kp h
  have:x≠k:=λe=>(JG.1 hn).1 (e▸u)
  simp[kV,this,sy (JG.1 hn).2 h]
def look{β:Type}(ks:List Int)(vs:List β)(k:Int):Option β:=(kV ks k).bind (vs[·]?)
def pP{β:Type}(f:Int->β)(k:Int)(x:β):Int->β:=λj=>if j=k then x else f j
section
variable {P:Program}{w w0 w':World}{A:Nat->Prop}{L:List HP}{b:Nat}{ks:List Int}{vs:List Value}
theorem mA.of_eq(h:mA w b ks vs)(u:w'.heap[b]?=w.heap[b]?):mA w' b ks vs:=by
 grind[mA]
theorem mA.lt(h:mA w b ks vs):b<w.heap.size:=by obtain⟨es,c,h1,_⟩:=h;grind
theorem mA.ext(h:mA w b ks vs)(e:Ext w w'):mA w' b ks vs:=h.of_eq (e.bY b h.lt λh=>h)
theorem mA.len(h:mA w b ks vs):ks.length=vs.length:=by
 obtain⟨es,c,_,_,h3,h4⟩:=h
 have:=fM List.length h3;grind
theorem mA.nodup(h:mA w b ks vs):ks.Nodup:=by
 obtain⟨es,c,_,h2,h3,h4⟩:=h
 have:=h2.2.2
 grind
def Mv(b:Nat)(ks:List Int)(vs:List Value):HP where
 p w F:=mA w b ks vs/\∀k,F k↔k=b
 loc w w' F h hh:=⟨h.1.of_eq (hh b ((h.2 b).2 rfl)),h.2⟩
 lt w F b' h hb:=by rw[(h.2 b').1 hb];exact h.1.lt
theorem UT{es:Array MapEntry}(h3:es.toList.map (·.key)=ks.map (ng .i64)):∀x∈es.toList,IsKey (.int .i64) x.key:=by
 intro x u
 have:x.key∈es.toList.map (·.key):=n5.2 ⟨x,u,rfl⟩
 rw[h3]at this
 obtain⟨k,_,e⟩:=n5.1 this
 rw[<- e];simp[IsKey]
theorem Fj{T:TypeId}{k:Int}{es:Array MapEntry}(u:P.underlying T=some (.int .i64))(B:ks.Nodup)(h3:es.toList.map (·.key)=ks.map (ng .i64)) :
  (kV ks k=none/\(TH T (hH k) es.toList).run P w=.ok none w)\/∃j e,kV ks k=some j/\es.toList[j]?=some e/\e.key=hH k/\(TH T (hH k) es.toList).run P w=.ok (some (j,e.val)) w:=by
 rcases MapKept.findNow_spec (d:=.int .i64) (k:=hH k) (by simp[IsKey]) es.toList 0 (UT h3)with⟨h1,h2⟩|⟨j,e,h1,h2,h4⟩
 .refine .inl ⟨mB.2 λE=>?_,MapKept.run_findKey u h1⟩
  have:ng .i64 k∈es.toList.map (·.key):=cJ
  grind
 refine .inr ⟨j,e,sy B ?_,h2,h4,by rw[tx]at h1;exact MapKept.run_findKey u h1⟩
 have:(es.toList.map (·.key))[j]?=some (hH k):=cJ
 grind
theorem zO{T B E:TypeId}{z:Value}{k:Int}(h:mA w b ks vs)(ht:P.underlying T=some (.map B E))(I:P.underlying B=some (.int .i64))(u:ot P E z) :
  (x7 T (.map (some b)) (hH k) false).run P w=.ok ((look ks vs k).getD z) w:=by
 have J:=h.nodup
 obtain⟨es,c,h1,h2,h3,h4⟩:=h
 have G:(zeroValue E).run P w=.ok z w:=by
  unfold ot eo at u
  cases hi:P.info? E with
  | none=>grind
  | some i=>
   rw[hi]at u
   simp only[E2,n4.injEq]at u
   refine fY ?_ w
   unfold zeroValue;rw[cT,mi hi];simp only[ma,u];rfl
 have hc:=MapKept.run_checkKey (P:=P) (w:=w) (kt:=B) (k:=hH k) I (by simp[IsKey]) es.isEmpty 9999
 rcases Fj (w:=w) (k:=k) I J h3 with⟨h5,h6⟩|⟨j,e,h5,h6,O,M⟩
 .simp[x7,run_underlying ht,MapKept.run_getObj_map h1,hc,h6,G,Result.andThen,look,h5]
 have:vs[j]?=some e.val:=cJ
 simp[x7,run_underlying ht,MapKept.run_getObj_map h1,hc,M,Result.andThen,look,h5,this]
theorem j9(o:Obj)(hb:b<w.heap.size):(setBlock w b o).heap[b]?=some o:=by simp[setBlock,hb]
theorem gz.setBlock(w:World)(b:Nat)(o:Obj):gz (· = b) w (setBlock w b o):=
 ⟨rfl,rfl,rfl,by simp[ChangeMaps.setBlock],λk _ u=>by simp only[ChangeMaps.setBlock];grind⟩
theorem n8{es:Array MapEntry}{clock:Nat}{o:Obj}(h1:w.heap[b]?=some (.map es clock)):(setObj b o).run P w=.ok () (setBlock w b o):=by
 simp[setObj,Sem.run,h1,setBlock]
theorem ad3{T I E:TypeId}{v:Value}{k:Int}(h:mA w b ks vs)(ht:P.underlying T=some (.map I E))(M:P.underlying I=some (.int .i64)) :
  ∃w',(xk T (.map (some b)) (hH k) v).run P w=.ok () w'/\gz (· = b) w w'/\
   (match kV ks k with|some j=>mA w' b ks (vs.set j v)|none=>mA w' b (ks++[k]) (vs++[v])):=by
 have V:=h.nodup
 have J:=h.lt
 obtain⟨es,c,h1,h2,h3,h4⟩:=h
 have hc:=MapKept.run_checkKey (P:=P) (w:=w) (kt:=I) (k:=hH k) M (by simp[IsKey]) false 9999
 rcases Fj (w:=w) (k:=k) M V h3 with⟨h5,h6⟩|⟨j,e,h5,h6,U,W⟩
 .refine⟨_,?_,gz.setBlock w b (.map (es.push ⟨hH k,v,c⟩) (c+1)),?_⟩
  .simp[xk,run_underlying ht,MapKept.run_getObj_map h1,hc,h6,n8 h1,Result.andThen]
  rw[h5]
  refine⟨_,_,j9 _ J,MapKept.stamped_push h2 λx O e=>?_,by simp[h3],by simp[h4]⟩
  have:x.key∈es.toList.map (·.key):=n5.2 ⟨x,O,rfl⟩
  rw[h3,e]at this
  obtain⟨k',G,u⟩:=n5.1 this
  simp at u
  exact mB.1 h5 (u▸G)
 have Z:es[j]?=some e:=cJ
 have Y:(OI e.key (hH k)).run P w=.ok (hH k) w:=by
  rw[U];unfold OI;simp[Instr.sameBits]
 refine⟨_,?_,gz.setBlock w b (.map (es.modify j λe=>{e with key:=hH k,val:=v}) c),?_⟩
 .simp[xk,run_underlying ht,MapKept.run_getObj_map h1,hc,W,n8 h1,Result.andThen,Z,Y]
 rw[h5]
 have G:∀u,es[j]?=some u->({u with key:=hH k,val:=v}:MapEntry).key=u.key:=λu B=>by
  grind
 refine⟨_,_,j9 _ J,MapKept.stamped_modify h2 j _ (λ_ _=>rfl) (λu _ B=>G u B),?_,?_⟩
 .rw[MapKept.modify_keys j _ G,h3]
 rw[<- h4]
 apply wS
 grind
theorem ad4{T u E R:TypeId}{I:Array TypeId}{k:Int}(h:mA w b ks vs)(M:I[0]?=some T)(ht:P.underlying T=some (.map u E))(J:P.underlying u=some (.int .i64)) :
  ∃w',(Builtin.delete_ I R [.map (some b),hH k].toArray).run P w=.ok (.tuple #[]) w'/\gz (· = b) w w'/\
   (match kV ks k with|some j=>mA w' b (ks.eraseIdx j) (vs.eraseIdx j)|none=>mA w' b ks vs):=by
 have O:=h.nodup
 have B:=h.lt
 obtain⟨es,c,h1,h2,h3,h4⟩:=h
 have hc:=MapKept.run_checkKey (P:=P) (w:=w) (kt:=u) (k:=hH k) J (by simp[IsKey]) es.isEmpty 9999
 rcases Fj (w:=w) (k:=k) J O h3 with⟨h5,h6⟩|⟨j,e,h5,h6,W,U⟩
 .refine⟨_,?_,gz.setBlock w b (.map es c),?_⟩
  .simp[Builtin.delete_,M,run_underlying ht,MapKept.run_getObj_map h1,hc,h6,n8 h1,Result.andThen]
  rw[h5]
  exact⟨_,_,j9 _ B,h2,h3,h4⟩
 have V:j<es.size:=cJ
 refine⟨_,?_,gz.setBlock w b (.map (es.eraseIdxIfInBounds j) c),?_⟩
 .simp[Builtin.delete_,M,run_underlying ht,MapKept.run_getObj_map h1,hc,U,n8 h1,Result.andThen]
 rw[h5]
 have G:(es.eraseIdxIfInBounds j).toList=es.toList.eraseIdx j:=by
  simp_all
 refine⟨_,_,j9 _ B,MapKept.stamped_erase h2 j,?_,?_⟩
 .rw[G,ChangeMaps.map_eraseIdx,h3,ChangeMaps.map_eraseIdx]
 rw[G,ChangeMaps.map_eraseIdx,h4]
theorem Mw{T:TypeId}{K:Value->g7}(u:St w0 A L w)(k:∀b w',St w0 A (Mv b [] []::L) w'->K (.map (some b)) w'):qW P (Qi T none) w K:=
 ⟨_,_,rfl,k _ _ (u.new (Ext.push w (.map #[] 0)) (F:=λk=>k=w.heap.size) ⟨⟨#[],0,mh _ _,MapKept.stamped_empty 0,rfl,rfl⟩,λ_=>Iff.rfl⟩ λb hb=>by rw[hb];exact o1 _)⟩
theorem St.Mx(u:St w0 A (Mv b ks vs::L) w):mA w b ks vs:=by obtain⟨F,h,_⟩:=u.head;exact h.1
end
section
variable {α:Type}[Flat α] {P:Program}{w w0 w':World}{A:Nat->Prop}{L:List HP}{b:Nat}{f:Int->List α}
abbrev DB(s:SV)(x:List α):HP:=bH (hM s) x
def q7(b:Nat)(f:Int->List α):HP:=pK λks=>pK λB:List SV=>pK λu:List (List α)=>fact (f=λk=>(look ks u k).getD []) (sep (Mv b ks (B.map hM)) (ie DB B u))
def vV(w:World)(b:Nat)(f:Int->List α):Prop:=∃ks,∃u:List SV,mA w b ks (u.map hM)/\(∀(i:Nat) (k:Int) (s:SV),ks[i]?=some k->u[i]?=some s->cZ (λ_=>True) w (hM s) (f k))/\∀k,k ∉ ks->f k=[]
theorem vV.ext(h:vV w b f)(e:Ext w w'):vV w' b f:=by
 obtain⟨ks,u,h1,h2,h3⟩:=h;exact⟨ks,u,h1.ext e,λi k s a c=>(h2 i k s a c).ext e,h3⟩
theorem qj{β:Type}{ks:List Int}{xs:List β}{k:Int}{i:Nat}{x:β}(u:ks.Nodup)(h1:ks[i]?=some k)(h2:xs[i]?=some x):look ks xs k=some x:=by
 unfold look;rw[sy u h1];exact h2
theorem pQ{β:Type}{ks:List Int}{xs:List β}{k:Int}(h:k ∉ ks):look ks xs k=none:=by unfold look;rw[mB.2 h];rfl
theorem q7.rd{F:Nat->Prop}(h:(q7 b f).p w F):vV w b f:=by
 obtain⟨ks,J,u,I,V,O,h1,h2,_,_⟩:=h
 refine⟨ks,J,h1.1,λi k s B E=>?_,λk B=>by rw[I];dsimp only;rw[pQ B];rfl⟩
 have U:=Cj h2
 have hi:i<u.length:=by have:=(j0.1 E).1;omega
 have G:u[i]?=some u[i]:=kO hi
 have M:St w O [ie DB J u] w:=St.begin h2
 have:=M.aiV E G (Φ:=λw=>cZ (λ_=>True) w (hM s) u[i]) λh=>(bH.rd h).mono λ_ _=>trivial
 rw[I];dsimp only
 rw[qj h1.1.nodup B G];exact this
theorem St.YA(u:St w0 A (q7 b f::L) w):vV w b f:=by obtain⟨F,h,_⟩:=u.head;exact q7.rd h
theorem vV.look{T G E:TypeId}{k:Int}(h:vV w b f)(ht:P.underlying T=some (.map G E))(M:P.underlying G=some (.int .i64))(J:ot P E (.slice none 0 0)) :
  ∃s:SV,(x7 T (.map (some b)) (hH k) false).run P w=.ok (hM s) w/\cZ (λ_=>True) w (hM s) (f k):=by
 obtain⟨ks,u,h1,h2,h3⟩:=h
 have I:=zO (P:=P) (k:=k) h1 ht M J
 cases vW:kV ks k with
 | none=>
  have:Fw.look ks (u.map hM) k=none:=by unfold Fw.look;grind
  rw[this]at I
  exact⟨bW,I,by rw[h3 k (mB.1 vW)];exact cZ.nil _ _⟩
 | some j=>
  have U:=ko vW
  have V:=h1.len
  have B:j<u.length:=cJ
  have O:u[j]?=some u[j]:=kO B
  have:Fw.look ks (u.map hM) k=some (hM u[j]):=by unfold Fw.look;grind
  grind
theorem vV.apz{T G E:TypeId}{k:Int}(h:vV w0 b f)(ht:P.underlying T=some (.map G E))(M:P.underlying G=some (.int .i64))(J:ot P E (.slice none 0 0)) :
  ∃s:SV,(∀w,Ext w0 w->(x7 T (.map (some b)) (hH k) false).run P w=.ok (hM s) w)/\cZ (λ_=>True) w0 (hM s) (f k):=by
 obtain⟨ks,u,h1,h2,h3⟩:=h
 have I:∀w,Ext w0 w->_:=λw e=>zO (P:=P) (k:=k) (h1.ext e) ht M J
 cases vW:kV ks k with
 | none=>
  have:Fw.look ks (u.map hM) k=none:=by unfold Fw.look;grind
  rw[this]at I
  exact⟨bW,I,by rw[h3 k (mB.1 vW)];exact cZ.nil _ _⟩
 | some j=>
  have U:=ko vW
  have V:=h1.len
  have B:j<u.length:=cJ
  have O:u[j]?=some u[j]:=kO B
  have:Fw.look ks (u.map hM) k=some (hM u[j]):=by unfold Fw.look;grind
  grind
theorem HO{T u E:TypeId}{k:Int}{K:Value->Prop}(h:vV w0 b f)(e:Ext w0 w)(ht:P.underlying T=some (.map u E))(G:P.underlying u=some (.int .i64))(B:ot P E (.slice none 0 0))
  (I:∀s:SV,cZ (λ_=>True) w0 (hM s) (f k)->K (hM s)):KQ P (x7 T (.map (some b)) (hH k) false) w K:=by
 obtain⟨s,h1,h2⟩:=h.apz (P:=P) (k:=k) ht G B;exact⟨_,h1 w e,I s h2⟩
def My(b:Nat)(f:Int->List α)(k:Int)(s:SV):HP:=pK λks=>pK λB:List SV=>pK λE:List (List α)=>pK λvs:List Value=>
 fact ((∀u,u≠k->f u=(look ks E u).getD [])/\look ks vs k=(kV ks k).map (λ_=>hM s)/\(kV ks k=none->s=bW)/\vs.length=B.length/\∀(i:Nat) (u:Int),ks[i]?=some u->u≠k->vs[i]?=(B[i]?).map hM) (sep (Mv b ks vs) (ie DB B E))
theorem St.Mz{k:Int}(u:St w0 A (q7 b f::L) w):∃s:SV,St w0 A (bH (hM s) (f k)::My b f k s::L) w:=by
 obtain⟨ks,u⟩:=u.eg;obtain⟨B,u⟩:=u.eg;obtain⟨E,u⟩:=u.eg;obtain⟨O,u⟩:=u.mq
 replace u:=u.split
 have V:=u.Mx
 have hl:=V.len
 have Y:=u.p1.iV
 have hn:=V.nodup
 rw[mE]at hl
 cases vW:kV ks k with
 | none=>
  refine⟨bW,?_⟩
  have W:look ks E k=none:=by unfold look;rw[vW];rfl
  have e:f k=[]:=by rw[O];dsimp only;rw[W];rfl
  rw[e]
  refine(St.eh ks (St.eh B (St.eh E (St.eh (B.map hM) (St.oz ⟨λJ _=>by rw[O],by unfold look;rw[vW];rfl,λ_=>rfl,by rw[mE],λi J _ _=>by rw[oj]⟩ (St.join u)))))).eV
 | some j=>
  have M:=ko vW
  have Z:=(j0.1 M).1
  have G:B[j]?=some (B[j]'(bM)):=kO _
  have I:E[j]?=some (E[j]'(bM)):=kO _
  refine⟨B[j]'(bM),?_⟩
  have e:f k=E[j]'(bM):=by rw[O];dsimp only;rw[qj hn M I];rfl
  rw[e]
  have h1:=(u.p1.focus G I).p1
  have h2:=(h1.eV (α:=α)).p1
  have h3:St w0 A (DB (bW:SV) ([]:List α)::nG DB B E j::_::_::L) w:=h2.p1
  have h4:=h3.EW bM Y
  have h5:=h4.p2
  refine(St.eh ks (St.eh (B.set j bW) (St.eh (E.set j []) (St.eh (B.map hM) (St.oz ⟨λJ U=>?_,by unfold look;rw[vW];simp[G],λh=>(by cases vW.symm.trans h),ee,λi J hi U=>?_⟩ (St.join h5)))))).p1
  .rw[O];dsimp only
   unfold look
   cases hq:kV ks J with
   | none=>rfl
   | some i=>
    have:j≠i:=λe=>U (by have:=ko hq;rw[<- e,M]at this;exact(n4.inj this).symm)
    simp[this]
  .rw[oj,F1]
   rintro rfl
   rw[M]at hi;exact U (n4.inj hi).symm
theorem St.Cr{T B E:TypeId}{k:Int}{s:SV}(u:St w0 A (My b f k s::L) w)(ht:P.underlying T=some (.map B E))(I:P.underlying B=some (.int .i64))(G:ot P E (.slice none 0 0)) :
  (x7 T (.map (some b)) (hH k) false).run P w=.ok (hM s) w:=by
 obtain⟨ks,u⟩:=u.eg;obtain⟨M,u⟩:=u.eg;obtain⟨J,u⟩:=u.eg;obtain⟨vs,u⟩:=u.eg;obtain⟨⟨_,h2,h3,_⟩,u⟩:=u.mq
 have:=zO (P:=P) (k:=k) u.split.Mx ht I G
 rw[h2]at this
 cases vW:kV ks k with
 | none=>rw[vW]at this;rw[h3 vW];exact this
 | some j=>rw[vW]at this;exact this
theorem St.YB{k:Int}{s:SV}{xs:List α}(u:St w0 A (bH (hM s) xs::My b f k s::L) w):St w0 A (q7 b (pP f k xs)::L) w:=by
 replace u:=u.p1
 obtain⟨ks,u⟩:=u.eg;obtain⟨E,u⟩:=u.eg;obtain⟨I,u⟩:=u.eg;obtain⟨vs,u⟩:=u.eg;obtain⟨⟨hf,h2,h3,hvs,Y⟩,u⟩:=u.mq
 replace u:=u.split
 have W:=u.Mx
 have hl:=W.len
 have Z:=W.nodup
 have GI:=u.p1.iV
 cases vW:kV ks k with
 | none=>
  have OX:=mB.1 vW
  have G:vs=E.map hM:=wS λi=>by
   cases hi:ks[i]? with
   | none=>rw[BR]at hi;rw[mW bM,mW (by rw[mE];omega)]
   | some B=>rw[Y i B hi (λe=>OX (e▸kp hi)),oj]
  have hx:xs=[]:=by
   obtain⟨F,h,_⟩:=u.p2.head
   rw[h3 vW]at h
   rcases h with⟨_,h,_⟩|⟨b',cap,rest,h,_⟩
   .exact h
   .cases h
  subst hx
  refine St.eh ks (St.eh E (St.eh I (St.oz ?_ (St.join ?_))))
  .funext B
   unfold pP
   by_cases e:B=k
   .subst e;rw[ej rfl,pQ OX];rfl
   .rw[ei e,hf B e]
  .rw[<- G];exact u.p2.drop
 | some j=>
  have J:=ko vW
  have hjk:=(j0.1 J).1
  have M:E[j]?=some (E[j]'(bM)):=kO _
  have O:I[j]?=some (I[j]'(bM)):=kO _
  have V:vs[j]?=some (hM s):=by unfold look at h2;rw[vW]at h2;exact h2
  have h6:=((u.p1.focus M O).drop).p2
  have h7:St w0 A (DB s xs::nG DB E I j::_::L) w:=h6.p0
  have h8:=h7.EW bM GI
  refine St.eh ks (St.eh (E.set j s) (St.eh (I.set j xs) (St.oz ?_ (St.join ?_))))
  .funext B
   unfold pP
   by_cases e:B=k
   .subst e
    rw[ej rfl,qj Z J (x:=xs) (by rw[BJ bM])];rfl
   .rw[ei e,hf B e]
    unfold look
    cases hq:kV ks B with
    | none=>rfl
    | some i=>
     have:j≠i:=λU=>e (by have:=ko hq;rw[<- U,J]at this;exact(n4.inj this).symm)
     simp[this]
  .have e:(E.set j s).map hM=vs:=by
    apply wS
    intro i
    rw[oj]
    by_cases e:j=i
    .subst e;rw[BJ bM,V];rfl
    .rw[F1 e]
     cases hi:ks[i]? with
     | none=>rw[BR]at hi;rw[mW (show vs.length<=i by omega),mW (show E.length<=i by omega)];rfl
     | some B=>rw[Y i B hi λU=>e (by rw[U]at hi;have h1:=sy Z hi;rw[vW]at h1;exact n4.inj h1)]
   rw[e];exact h8.p1
omit [Flat α]in
theorem UW{f:Int->List α}{k:Int}:pP f k (f k)=f:=by
 grind[pP]
theorem MA{T Kt E:TypeId}{k:Int}{s s':SV}{xs:List α}{K:g7}(u:St w0 A (bH (hM s') xs::My b f k s::L) w)(ht:P.underlying T=some (.map Kt E))(U:P.underlying Kt=some (.int .i64))
  (kk:∀w',St w0 A (q7 b (pP f k xs)::L) w'->K w'):Wu P (xk T (.map (some b)) (hH k) (hM s')) w K:=by
 replace u:=u.p1
 obtain⟨ks,u⟩:=u.eg;obtain⟨G,u⟩:=u.eg;obtain⟨I,u⟩:=u.eg;obtain⟨vs,u⟩:=u.eg;obtain⟨⟨hf,h2,h3,hvs,YC⟩,u⟩:=u.mq
 replace u:=u.split
 have hm:=u.Mx
 have hl:=hm.len
 have hn:=hm.nodup
 have GI:=u.p1.iV
 obtain⟨w',r1,r2,J⟩:=ad3 (P:=P) (v:=hM s') (k:=k) hm ht U
 refine⟨w',r1,kk w' ?_⟩
 cases vW:kV ks k with
 | none=>
  rw[vW]at J
  have h5:St w0 A (Mv b (ks++[k]) (vs++[hM s'])::_::_::L) w':=u.rp λF V=>⟨F,⟨J,V.2⟩,λb hb=>.inl hb,r2.mono λk U=>(V.2 k).2 U⟩
  have OX:=mB.1 vW
  have M:vs=G.map hM:=wS λi=>by
   cases hi:ks[i]? with
   | none=>rw[BR]at hi;rw[mW bM,mW (by rw[mE];omega)]
   | some B=>rw[YC i B hi (λe=>OX (e▸kp hi)),oj]
  have h6:=h5.p1
  have h7:St w0 A (ie DB (G++[s']) (I++[xs])::_::L) w':=St.EV (H:=DB (α:=α)) (p:=s') (x:=xs) h6.p2.p1
  refine St.eh (ks++[k]) (St.eh (G++[s']) (St.eh (I++[xs]) (St.oz ?_ (St.join ?_))))
  .funext B
   unfold pP
   by_cases e:B=k
   .subst e
    rw[ej rfl,qj (i:=ks.length) J.nodup ee (x:=xs) (by rw[List.getElem?_append_right bM];simp[show ks.length-I.length=0 from bM])];rfl
   .rw[ei e,hf B e]
    by_cases rU:B∈ks
    .obtain⟨i,hi,Z⟩:=EZ rU
     have W:ks[i]?=some B:=by rw[kO hi,Z]
     have O:I[i]?=some (I[i]'(bM)):=kO _
     rw[qj hn W O,qj (i:=i) J.nodup (by rw[s4 hi];exact W) (by rw[s4 bM];exact O)]
    .rw[pQ rU,pQ (by simp[rU,e])]
  .have e:(G++[s']).map hM=vs++[hM s']:=by rw[M,vf];rfl
   rw[e];exact h7.p1
 | some j=>
  rw[vW]at J
  have h5:St w0 A (Mv b ks (vs.set j (hM s'))::_::_::L) w':=u.rp λF V=>⟨F,⟨J,V.2⟩,λb hb=>.inl hb,r2.mono λk U=>(V.2 k).2 U⟩
  have Y:=ko vW
  have hjk:=(j0.1 Y).1
  have hsj:G[j]?=some (G[j]'(bM)):=kO _
  have hxj:I[j]?=some (I[j]'(bM)):=kO _
  have h6:=((h5.p1.focus hsj hxj).drop).p2
  have h7:St w0 A (DB s' xs::nG DB G I j::_::L) w':=h6.p0
  have h8:=h7.EW bM GI
  refine St.eh ks (St.eh (G.set j s') (St.eh (I.set j xs) (St.oz ?_ (St.join ?_))))
  .funext B
   unfold pP
   by_cases e:B=k
   .subst e
    rw[ej rfl,qj hn Y (x:=xs) (by rw[BJ bM])];rfl
   .rw[ei e,hf B e]
    unfold look
    cases hq:kV ks B with
    | none=>rfl
    | some i=>
     have:j≠i:=λe'=>e (by have:=ko hq;rw[<- e',Y]at this;exact(n4.inj this).symm)
     simp[this]
  .have e:(G.set j s').map hM=vs.set j (hM s'):=by
    apply wS
    intro i
    rw[oj]
    by_cases e:j=i
    .subst e;rw[BJ bM,BJ bM];rfl
    .rw[F1 e,F1 e]
     cases hi:ks[i]? with
     | none=>rw[BR]at hi;rw[mW (show vs.length<=i by omega),mW (show G.length<=i by omega)];rfl
     | some B=>rw[YC i B hi λe'=>e (by rw[e']at hi;have h1:=sy hn hi;rw[vW]at h1;exact n4.inj h1)]
   rw[e];exact h8.p1
theorem Bf{T:TypeId}{K:Value->g7}(u:St w0 A L w)(k:∀b w',St w0 A (q7 b (λ_=>([]:List α))::L) w'->K (.map (some b)) w'):qW P (Qi T none) w K:=
 Mw u λb w' h=>k b w' (St.eh [] (St.eh [] (St.eh ([]:List (List α)) (St.oz rfl (St.join ((h.new (Ext.refl w') (H:=ie DB [] []) (F:=aZ) (λ_ h=>h) λ_ h=>h.elim).p1))))))
theorem MC{T Kt E R:TypeId}{k:Int}{A2:Array TypeId}{K:Value->g7}(u:St w0 A (q7 b f::L) w)(ha:A2[0]?=some T)(ht:P.underlying T=some (.map Kt E))(U:P.underlying Kt=some (.int .i64))
  (kk:∀v w',St w0 A (q7 b (pP f k [])::L) w'->K v w'):qW P (Builtin.delete_ A2 R [.map (some b),hH k].toArray) w K:=by
 obtain⟨ks,u⟩:=u.eg;obtain⟨M,u⟩:=u.eg;obtain⟨O,u⟩:=u.eg;obtain⟨hf,u⟩:=u.mq
 replace u:=u.split
 have W:=u.Mx
 have hl:=W.len
 have GI:=u.p1.iV
 have Y:=W.nodup
 rw[mE]at hl
 obtain⟨w',r1,r2,I⟩:=ad4 (P:=P) (R:=R) (k:=k) W ha ht U
 refine⟨_,w',r1,kk _ w' ?_⟩
 cases vW:kV ks k with
 | none=>
  rw[vW]at I
  have h5:St w0 A (Mv b ks (M.map hM)::_::L) w':=u.rp λF V=>⟨F,⟨I,V.2⟩,λb hb=>.inl hb,r2.mono λk U=>(V.2 k).2 U⟩
  refine St.eh ks (St.eh M (St.eh O (St.oz ?_ (St.join h5))))
  funext k'
  unfold pP
  by_cases e:k'=k
  .subst e;rw[ej rfl];unfold look;rw[vW];rfl
  .rw[ei e,hf]
 | some j=>
  rw[vW]at I
  have hj:=ko vW
  have hjk:=(j0.1 hj).1
  have h5:St w0 A (Mv b (ks.eraseIdx j) ((M.map hM).eraseIdx j)::_::L) w':=u.rp λF V=>⟨F,⟨I,V.2⟩,λb hb=>.inl hb,r2.mono λk U=>(V.2 k).2 U⟩
  have Z:M[j]?=some (M[j]'(bM)):=kO _
  have hxj:O[j]?=some (O[j]'(bM)):=kO _
  have h6:=(h5.p1.focus Z hxj).drop.UH
  dsimp only at I
  rw[<- ChangeMaps.map_eraseIdx]at h6 I
  refine St.eh (ks.eraseIdx j) (St.eh (M.eraseIdx j) (St.eh (O.eraseIdx j) (St.oz ?_ (St.join h6.p1))))
  funext k'
  unfold pP
  by_cases e:k'=k
  .subst e
   rw[ej rfl,pQ];rfl
   intro Lj
   obtain⟨i,hi,B⟩:=EZ Lj
   rw[List.getElem_eraseIdx]at B
   split at B
   .have:=sy (j:=i) Y (k:=k') (by rw[<- B];exact kO _);rw[vW]at this;have:=n4.inj this;omega
   .have:=sy (j:=i+1) Y (k:=k') (by rw[<- B];exact kO _);rw[vW]at this;have:=n4.inj this;omega
  .rw[ei e,hf];dsimp only
   by_cases rU:k'∈ks
   .obtain⟨i,hi,B⟩:=EZ rU
    have G:ks[i]?=some k':=by rw[kO hi,B]
    have J:O[i]?=some (O[i]'(bM)):=kO _
    have hij:i≠j:=λe'=>e (by rw[e',hj]at G;exact(n4.inj G).symm)
    rw[qj Y G J]
    by_cases nM:i<j
    .rw[qj (i:=i) I.nodup (by rw[Qx nM];exact G) (by rw[Qx nM];exact J)]
    .rw[qj (i:=i-1) I.nodup (by rw[Qy bM,show i-1+1=i from bM];exact G) (by rw[Qy bM,show i-1+1=i from bM];exact J)]
   .rw[pQ rU,pQ λh=>rU ((List.eraseIdx_sublist ks j).subset h)]
end
section
variable {α:Type}[Flat α] {P:Program}{w w0 w':World}{A S:Nat->Prop}{L:List HP}{xs ys:List α}
theorem PW{T T2 E J b o dn dc:Nat}{z:Option Nat}{R:TypeId}{src:Value}{cs:List Value}(ht:eM P T=some (E,l2 α,J,z))(hb:qd w b cs)(u:cZ S w src ys)
  (M:ys.length<=dn) (V:o+ys.length*l2 α<=cs.length) :
  ∃w',(Builtin.copy_ #[T,T2] R [.slice (some ⟨b,o,none⟩) dn dc,src].toArray).run P w=.ok (hH ys.length) w'/\qd w' b (jd cs o (flat ys))/\gz (· = b) w w':=by
 obtain⟨I,G,hi,U,W,_⟩:=fp ht
 have O:=yg (α:=α) (P:=P) (sz:=l2 α) rfl u
 have rd:=u
 obtain⟨Y,Z,rfl,Xs,B⟩:=rd
 obtain⟨w',h1,h2,h3⟩:=mS (P:=P) (o:=o) (flat ys) 0 cs w hb (by rw[dA];omega) AE
 refine⟨w',?_,bM,h3⟩
 simp[Builtin.copy_,run_underlying I,sizeOf,typeInfo,hi,Builtin.lenOf,Gz M,O,U,h1,goInt]
theorem MD{T T2 E kz:Nat}{z:Option Nat}{R:TypeId}{v src:Value}{K:Value->g7}(G:St w0 A (bH v xs::L) w)(ht:eM P T=some (E,l2 α,kz,z))(I:cZ S w src ys)(B:ys.length<=xs.length)
  (k:∀w',St w0 A (bH v (ys++xs.drop ys.length)::L) w'->K (hH ys.length) w'):qW P (Builtin.copy_ #[T,T2] R [v,src].toArray) w K:=by
 obtain⟨U,F,U',g1,g2,g3,g4,g5⟩:=G.tV
 rcases g1 with⟨rfl,rfl,hF⟩|⟨b,cap,rest,rfl,hb,M,hF⟩
 .obtain rfl:ys=[]:=by simpa using B
  obtain⟨hu,inf,hi,oK,wI,_⟩:=fp ht
  have W:=yg (α:=α) (P:=P) (sz:=l2 α) rfl I
  obtain⟨sa,GX,rfl,Xs,Z⟩:=I
  refine⟨_,w,?_,k w G⟩
  simp at W
  simp[Builtin.copy_,run_underlying hu,sizeOf,typeInfo,hi,Builtin.lenOf,oK,W,goInt]
 have hle:ys.length*l2 α<=xs.length*l2 α:=Nat.mul_le_mul_right _ B
 obtain⟨w',h1,h2,h3⟩:=PW (P:=P) (o:=0) (dn:=xs.length) (dc:=cap) (T2:=T2) (R:=R) ht hb I B (by rw[kU,dA];omega)
 refine⟨_,w',h1,k w' (G.rp λF' u=>?_)⟩
 rcases u with⟨h,_⟩|⟨b',Du,J,V,hb',Y,u⟩
 .cases h
 simp only[Value.slice.injEq,n4.injEq,Addr.mk.injEq,and_true,true_and]at V
 obtain⟨rfl,rfl⟩:=V
 refine⟨F',.inr ⟨b,cap,rest,?_,?_,?_,u⟩,λb hb=>.inl hb,h3.mono λk hk=>(u k).2 hk⟩
 .congr 1;rw[kU,qa];omega
 .have e:flat xs=[]++flat (xs.take ys.length)++flat (xs.drop ys.length):=by rw[List.nil_append,<- gL,o6]
  have:=mj [] (flat (xs.take ys.length)) (flat (xs.drop ys.length)++rest) (flat ys) (by rw[dA,dA,lY,Gz B])
  rw[List.length_nil]at this
  rw[e,nk,this]at h2
  rw[gL,nk];exact h2
 have O:(ys++xs.drop ys.length).length=xs.length:=by rw[kU,qa];omega
 exact⟨by rw[O];exact M.1,by have:=M.2;rw[kU,dA]at this |-;rw[O];exact this⟩
end
section
variable {P:Program}{w w0 w':World}{A:Nat->Prop}{L:List HP}{b r:Nat}
def HQ(r m since:Nat)(seen:Array Nat):HP where
 p w F:=w.heap[r]?=some (.mapIter (some m) since seen since)/\∀k,F k↔k=r
 loc w w' F h hh:=⟨(hh r ((h.2 r).2 rfl)).trans h.1,h.2⟩
 lt w F b' h hb:=cJ
theorem UX{T u E:TypeId}{es:Array MapEntry}{clock:Nat}{K:Value->g7}(B:St w0 A L w)(ht:P.underlying T=some (.map u E))(hb:w.heap[b]?=some (.map es clock))
  (k:∀r w',St w0 A (HQ r b clock #[]::L) w'->K (.pointer (some ⟨r,0,none⟩)) w'):qW P (Instr.range T (.map (some b))) w K:=
 ⟨_,_,run_range_map w T u E b es clock ht hb,k _ _ (B.new (Ext.push w _) (F:=λk=>k=w.heap.size) ⟨mh _ _,λ_=>Iff.rfl⟩ λb hb=>by rw[hb];exact o1 _)⟩
theorem YD{T since:Nat}{seen:Array Nat}{es:Array MapEntry}{K:Value->g7}(u:St w0 A (HQ r b since seen::L) w)(hb:w.heap[b]?=some (.map es since))(hold:∀x∈es.toList,x.born<since)
  (U:(leftOf es seen).size=0->K (.tuple #[.bool false]) w)
  (G:∀e w',e∈(leftOf es seen).toList->St w0 A (HQ r b since (seen.push e.born)::L) w'->K (.tuple #[.bool true,e.key,e.val]) w'):qW P (Instr.next (.pointer (some ⟨r,0,none⟩)) false T) w K:=by
 obtain⟨F,h,_⟩:=u.head
 rcases run_next_at (P:=P) w T r b since since seen es since h.1 hb hold (o1 _)with⟨h1,h2⟩|⟨e,I,E,O,h2⟩
 .exact⟨_,w,h2,U h1⟩
 have J:St w0 A (HQ r b since seen::L) E:=by
  rcases O with rfl|rfl
  .exact u
  .exact u.ext ⟨rfl,rfl,rfl,o1 _,λ_ _ _=>rfl⟩
 refine⟨_,_,h2,G e _ I (J.rp λF B=>⟨F,⟨j9 _ (vg B.1),B.2⟩,λb hb=>.inl hb,(gz.setBlock E r _).mono λk M=>(B.2 k).2 M⟩)⟩
theorem UY{since:Nat}{seen:Array Nat}{es:Array MapEntry}{e:MapEntry}{K:Value->Prop}(u:St w0 A (HQ r b since (seen.push e.born)::L) w)(hb:w.heap[b]?=some (.map es since))(E:e∈es.toList)(B:(es.toList.map (·.born)).Nodup)
  (k:K (.tuple #[e.key,e.val])):KQ P (Instr.entry (.pointer (some ⟨r,0,none⟩))) w K:=by
 obtain⟨F,h,_⟩:=u.head
 exact⟨_,run_entry_at w r b since seen es since e h.1 hb E B,k⟩
theorem Fk{o:Obj}(h:w.heap[b]?=some o)(e:Ext w w'):w'.heap[b]?=some o:=(e.bY b (vg h) λh=>h).trans h
theorem xp{seen:Array Nat}{x y:Nat}(h:(seen.push x).contains y=true):seen.contains y=true\/y=x:=by
 grind
theorem born_inj{es:Array MapEntry}(E:(es.toList.map (·.born)).Nodup){e u:MapEntry}(h:e∈es.toList)(B:u∈es.toList)(hb:e.born=u.born):e=u:=by
 obtain⟨i,hi,rfl⟩:=EZ h
 obtain⟨j,G,rfl⟩:=EZ B
 have:=(aau (i:=i) (j:=j) (h₀:=by grind) (h₁:=by grind) E).1 cJ
 grind
end
section
variable {P:Program}{w w0 w':World}{A:Nat->Prop}{L:List HP}{b r:Nat}
theorem bF{f:FuncId}{args:List Value}{H:HP}{H':Value->HP}{Φ:Value->g7}{K:Value->g7}(pl:Plain P f)(u:St w0 A (H::L) w)
  (hc:∀F,H.p w F->(∀w',gz F w w'->St w0 A L w')->Calls P f args.toArray w (tc λv w'=>Φ v w'/\mP F (H' v) w w')) (k:∀v w',Φ v w'->St w0 A (H' v::L) w'->K v w'):CZ P f args w K:=by
 obtain⟨U,F,I,h1,h2,h3,h4,h5⟩:=u.tV
 refine dO pl (hc F h1 λw' E=>⟨u.aF.trans E (λ_ h=>h) λb hb B=>(h2 b B).elim id λM=>bM,I,h5.loc λb hb=>E.bY b (h5.lt b hb) λB=>h3 b B hb⟩) λv w' ⟨G,J⟩=>k v w' G (u.XR h2 h3 h5 J)
theorem Bg{g:FuncId}{args first cap:List Value}{H:HP}{H':Value->HP}{Φ:Value->g7}{K:Value->g7}(pl:Plain P g)(u:St w0 A (H::L) w)
  (hc:∀F,H.p w F->(∀w',gz F w w'->St w0 A L w')->Calls P g (first++args++cap).toArray w (tc λv w'=>Φ v w'/\mP F (H' v) w w')) (k:∀v w',Φ v w'->St w0 A (H' v::L) w'->K v w'):kD P (.func (.func g) first.toArray cap.toArray) args w K:=by
 obtain⟨U,F,I,h1,h2,h3,h4,h5⟩:=u.tV
 refine gZ pl (hc F h1 λw' E=>⟨u.aF.trans E (λ_ h=>h) λb hb B=>(h2 b B).elim id λM=>bM,I,h5.loc λb hb=>E.bY b (h5.lt b hb) λB=>h3 b B hb⟩) λv w' ⟨G,J⟩=>k v w' G (u.XR h2 h3 h5 J)
end
def Has(H:HP)(w:World):Prop:=∃F,H.p w F
def St.has{w w0:World}{A:Nat->Prop}{L:List HP}{H:HP}(u:St w0 A (H::L) w):Has H w:=by obtain⟨F,h,_⟩:=u.head;exact⟨F,h⟩
theorem Has.ext{H:HP}{w w':World}(h:Has H w)(e:Ext w w'):Has H w':=by
 obtain⟨F,h⟩:=h;exact⟨F,H.loc _ _ _ h λb hb=>e.bY b (H.lt _ _ _ h hb) λx=>x⟩
def Has.st{H:HP}{w:World}(h:Has H w):∃F,St w F [H] w:=by obtain⟨F,h⟩:=h;exact⟨F,St.begin h⟩
abbrev SI:=ByteArray×Int
def SW(p:SI):Value×Value:=(.string p.1,hH p.2)
def uM(w:World)(b:Nat)(l:List SI):Prop:=
 ∃es clock,w.heap[b]?=some (.map es clock)/\Stamped es clock/\(es.toList.map λe=>(e.key,e.val)).Perm (l.map SW)
def eF:List SI->ByteArray->Int
 | [],_=>0
 | p::r,k=>if p.1=k then p.2 else eF r k
theorem uN:∀{l:List SI}{p:SI},(l.map (·.1)).Nodup->p∈l->eF l p.1=p.2
 | q::r,p,hn,hm=>by
  rw[List.map_cons,JG]at hn
  rcases sk.1 hm with rfl|hm
  .unfold eF;grind
  .have:q.1≠p.1:=λe=>hn.1 (n5.2 ⟨p,hm,e.symm⟩)
   unfold eF;rw[ei this];exact uN hn.2 hm
theorem zP:∀{l:List SI}{k:ByteArray},(∀p∈l,p.1≠k)->eF l k=0
 | [],_,_=>rfl
 | q::r,k,h=>by
  unfold eF;rw[ei (h q (List.mem_cons_self ..))];exact zP λp u=>h p (List.mem_cons_of_mem _ u)
def PX{l:List SI}{k:ByteArray}(E:(l.map (·.1)).Nodup)(B:∀p∈l,p.2≠0)(h:eF l k=0):∀p∈l,p.1≠k:=λp u e=>by
 subst e;exact B p u ((uN E u).symm.trans h)
section
variable {P:Program}{w w0 w':World}{A:Nat->Prop}{L:List HP}{b:Nat}{l:List SI}
theorem uM.of_eq(h:uM w b l)(u:w'.heap[b]?=w.heap[b]?):uM w' b l:=by
 grind[uM]
theorem uM.lt(h:uM w b l):b<w.heap.size:=by obtain⟨es,c,h1,_⟩:=h;grind
theorem uM.nodup(h:uM w b l):(l.map (·.1)).Nodup:=by
 obtain⟨es,c,_,h2,h3⟩:=h
 have h4:=(h3.map Prod.fst)
 rw[H4,H4]at h4
 have h5:(l.map λp=>FR p.1).Nodup:=h4.nodup_iff.1 h2.2.2
 grind
theorem uM.perm{u:List SI}(h:uM w b l)(B:l.Perm u):uM w b u:=by
 obtain⟨es,c,h1,h2,h3⟩:=h;exact⟨es,c,h1,h2,h3.trans (B.map _)⟩
def nj(b:Nat)(l:List SI):HP where
 p w F:=uM w b l/\∀k,F k↔k=b
 loc w w' F h hh:=⟨h.1.of_eq (hh b ((h.2 b).2 rfl)),h.2⟩
 lt w F b' h hb:=by rw[(h.2 b').1 hb];exact h.1.lt
theorem YE{es:Array MapEntry}(h3:(es.toList.map λe=>(e.key,e.val)).Perm (l.map SW)){e:MapEntry}(B:e∈es.toList):∃p∈l,e.key=.string p.1/\e.val=hH p.2:=by
 have:(e.key,e.val)∈l.map SW:=h3.mem_iff.1 (n5.2 ⟨e,B,rfl⟩)
 obtain⟨p,E,u⟩:=n5.1 this
 unfold SW at u
 grind
theorem YF{es:Array MapEntry}(h3:(es.toList.map λe=>(e.key,e.val)).Perm (l.map SW)){p:SI}(u:p∈l):∃e∈es.toList,e.key=.string p.1/\e.val=hH p.2:=by
 have:SW p∈es.toList.map λe=>(e.key,e.val):=h3.mem_iff.2 (n5.2 ⟨p,u,rfl⟩)
 obtain⟨e,E,B⟩:=n5.1 this
 unfold SW at B
 grind
theorem HS{T:TypeId}{k:ByteArray}{es:Array MapEntry}(G:P.underlying T=some .string)(h3:(es.toList.map λe=>(e.key,e.val)).Perm (l.map SW)) :
  ((∀p∈l,p.1≠k)/\(TH T (.string k) es.toList).run P w=.ok none w)\/∃j p,p∈l/\p.1=k/\(TH T (.string k) es.toList).run P w=.ok (some (j,hH p.2)) w:=by
 rcases MapKept.findNow_spec (d:=.string) (k:=.string k) (by simp[IsKey]) es.toList 0 (λx E=>by obtain⟨p,_,e,_⟩:=YE h3 E;rw[e];simp[IsKey])with⟨h1,h2⟩|⟨j,e,h1,h2,h4⟩
 .refine .inl ⟨λp B e=>?_,MapKept.run_findKey G h1⟩
  obtain⟨x,E,u,_⟩:=YF h3 B
  grind
 obtain⟨p,B,u,I⟩:=YE h3 (kp h2)
 rw[h4]at u;injection u with u
 refine .inr ⟨j,p,B,u.symm,?_⟩
 rw[tx,I]at h1
 exact MapKept.run_findKey G h1
theorem ME{T B E:TypeId}{k:ByteArray}(h:uM w b l)(ht:P.underlying T=some (.map B E))(I:P.underlying B=some .string)(u:ot P E (hH 0)) :
  (x7 T (.map (some b)) (.string k) false).run P w=.ok (hH (eF l k)) w:=by
 have M:=h.nodup
 obtain⟨es,c,h1,h2,h3⟩:=h
 have G:(zeroValue E).run P w=.ok (hH 0) w:=by
  unfold ot eo at u
  cases hi:P.info? E with
  | none=>grind
  | some i=>
   rw[hi]at u
   simp only[E2,n4.injEq]at u
   refine fY ?_ w
   unfold zeroValue;rw[cT,mi hi];simp only[ma,u];rfl
 have hc:=MapKept.run_checkKey (P:=P) (w:=w) (kt:=B) (k:=.string k) I (by simp[IsKey]) es.isEmpty 9999
 rcases HS (w:=w) (k:=k) I h3 with⟨h5,h6⟩|⟨j,p,h5,h6,J⟩
 .simp[x7,run_underlying ht,MapKept.run_getObj_map h1,hc,h6,G,Result.andThen,zP h5]
 subst h6
 simp[x7,run_underlying ht,MapKept.run_getObj_map h1,hc,J,Result.andThen,uN M h5]
theorem MF{T u E:TypeId}{v:Int}{k:ByteArray}(h:uM w b l)(ht:P.underlying T=some (.map u E))(B:P.underlying u=some .string)(O:∀p∈l,p.1≠k) :
  ∃w',(xk T (.map (some b)) (.string k) (hH v)).run P w=.ok () w'/\gz (· = b) w w'/\uM w' b (l++[(k,v)]):=by
 have G:=h.lt
 obtain⟨es,c,h1,h2,h3⟩:=h
 have hc:=MapKept.run_checkKey (P:=P) (w:=w) (kt:=u) (k:=.string k) B (by simp[IsKey]) false 9999
 rcases HS (w:=w) (k:=k) B h3 with⟨h5,h6⟩|⟨j,p,h5,h6,J⟩
 .refine⟨_,?_,gz.setBlock w b (.map (es.push ⟨.string k,hH v,c⟩) (c+1)),?_⟩
  .simp[xk,run_underlying ht,MapKept.run_getObj_map h1,hc,h6,n8 h1,Result.andThen]
  refine⟨_,_,j9 _ G,MapKept.stamped_push h2 λx I e=>?_,?_⟩
  .obtain⟨p,U,M,_⟩:=YE h3 I
   grind
  rw[aae,vf,vf]
  exact h3.append (List.Perm.refl _)
 grind
theorem MG{T:TypeId}{K:Value->g7}(u:St w0 A L w)(k:∀b w',St w0 A (nj b []::L) w'->K (.map (some b)) w'):qW P (Qi T none) w K:=
 ⟨_,_,rfl,k _ _ (u.new (Ext.push w (.map #[] 0)) (F:=λk=>k=w.heap.size) ⟨⟨#[],0,mh _ _,⟨ee,ee,ee⟩,ee⟩,λ_=>Iff.rfl⟩ λb hb=>by rw[hb];exact o1 _)⟩
theorem St.nj(u:St w0 A (nj b l::L) w):uM w b l:=by obtain⟨F,h,_⟩:=u.head;exact h.1
theorem yr{T u E:TypeId}{k:ByteArray}{K:Value->Prop}(h:uM w b l)(ht:P.underlying T=some (.map u E))(G:P.underlying u=some .string)(B:ot P E (hH 0))(I:K (hH (eF l k))):KQ P (x7 T (.map (some b)) (.string k) false) w K:=
 ⟨_,ME h ht G B,I⟩
theorem MH{T G E:TypeId}{v:Int}{k:ByteArray}{K:g7}(B:St w0 A (Fw.nj b l::L) w)(ht:P.underlying T=some (.map G E))(u:P.underlying G=some .string)(M:∀p∈l,p.1≠k)
  (J:∀w',St w0 A (Fw.nj b (l++[(k,v)])::L) w'->K w'):Wu P (xk T (.map (some b)) (.string k) (hH v)) w K:=by
 obtain⟨w',h1,h2,h3⟩:=MF (P:=P) (v:=v) (k:=k) B.nj ht u M
 exact⟨w',h1,J w' (B.rp λF I=>⟨F,⟨h3,I.2⟩,λb hb=>.inl hb,h2.mono λk u=>(I.2 k).2 u⟩)⟩
theorem key_inj{es:Array MapEntry}(E:(es.toList.map (·.key)).Nodup){e u:MapEntry}(h:e∈es.toList)(B:u∈es.toList)(hb:e.key=u.key):e=u:=by
 obtain⟨i,hi,rfl⟩:=EZ h
 obtain⟨j,G,rfl⟩:=EZ B
 have:=(aau (i:=i) (j:=j) (h₀:=by grind) (h₁:=by grind) E).1 cJ
 grind
theorem YG{l:List SI}(u:(l.map (·.1)).Nodup){p q:SI}(E:p∈l)(B:q∈l)(h:p.1=q.1):p=q:=by
 have h1:=uN u E
 have h2:=uN u B
 grind
end
open Go.MapKept (IsKey)
section
variable {P:Program}{w w':World}{b:Nat}{l:List ByteArray}
def JH(w:World)(b:Nat)(l:List ByteArray):Prop:=
 ∃es clock,w.heap[b]?=some (.map es clock)/\(es.toList.map λe=>(e.key,e.val))=l.map λs=>(FR s,xc true)
theorem MI{T J E:TypeId}{k:ByteArray}(h:JH w b l)(ht:P.underlying T=some (.map J E))(I:P.underlying J=some .string)(B:ot P E (.bool false)) :
  (x7 T (.map (some b)) (.string k) false).run P w=.ok (.bool (l.any λy=>decide (y=k))) w:=by
 obtain⟨es,c,h1,h2⟩:=h
 have M:(zeroValue E).run P w=.ok (.bool false) w:=by
  unfold ot eo at B
  cases hi:P.info? E with
  | none=>grind
  | some i=>
   rw[hi]at B
   simp only[E2,n4.injEq]at B
   refine fY ?_ w
   unfold zeroValue;rw[cT,mi hi];simp only[ma,B];rfl
 have hc:=MapKept.run_checkKey (P:=P) (w:=w) (kt:=J) (k:=.string k) I (by simp[IsKey]) es.isEmpty 9999
 have mem:∀e∈es.toList,∃s∈l,e.key=.string s/\e.val=.bool true:=λe O=>by
  have:(e.key,e.val)∈l.map λs=>(FR s,xc true):=cJ
  grind
 rcases MapKept.findNow_spec (d:=.string) (k:=.string k) (by simp[IsKey]) es.toList 0 (λx U=>by obtain⟨p,_,e,_⟩:=mem x U;rw[e];simp[IsKey])with⟨h3,h4⟩|⟨j,e,h3,h4,h5⟩
 .have:(l.any λy=>decide (y=k))=false:=by
   rw[A3]
   intro s G
   have:(FR s,xc true)∈es.toList.map λe=>(e.key,e.val):=by rw[h2];exact n5.2 ⟨s,G,rfl⟩
   obtain⟨e,O,u⟩:=n5.1 this
   simp only[Prod.mk.injEq]at u
   intro h
   exact h4 e O (by rw[u.1,ga h])
  rw[this]
  simp[x7,run_underlying ht,MapKept.run_getObj_map h1,hc,MapKept.run_findKey I h3,M,Result.andThen]
 obtain⟨s,G,u,V⟩:=mem e (kp h4)
 rw[h5]at u;injection u with u
 have:(l.any λy=>decide (y=k))=true:=v7.2 ⟨s,G,ew u.symm⟩
 rw[this]
 rw[tx,V]at h3
 simp[x7,run_underlying ht,MapKept.run_getObj_map h1,hc,MapKept.run_findKey I h3,Result.andThen]
theorem MJ{T u E:TypeId}{k:ByteArray}{K:Value->Prop}(h:JH w b l)(ht:P.underlying T=some (.map u E))(G:P.underlying u=some .string)(B:ot P E (.bool false))(I:K (.bool (l.any λy=>decide (y=k)))):KQ P (x7 T (.map (some b)) (.string k) false) w K:=
 ⟨_,MI h ht G B,I⟩
end
section
variable {P:Program}{w w0 w':World}{A:Nat->Prop}{L:List HP}{b:Nat}{l:List ByteArray}
theorem JH.lt(h:JH w b l):b<w.heap.size:=by obtain⟨es,c,h1,_⟩:=h;grind
def PY(b:Nat)(l:List ByteArray):HP where
 p w F:=JH w b l/\∀k,F k↔k=b
 loc w w' F h hh:=⟨by grind[JH],h.2⟩
 lt w F b' h hb:=by rw[(h.2 b').1 hb];exact h.1.lt
theorem YH{T:TypeId}{K:Value->g7}(u:St w0 A L w)(k:∀b w',St w0 A (PY b []::L) w'->K (.map (some b)) w'):qW P (Qi T none) w K:=
 ⟨_,_,rfl,k _ _ (u.new (Ext.push w (.map #[] 0)) (F:=λk=>k=w.heap.size) ⟨⟨#[],0,mh _ _,rfl⟩,λ_=>Iff.rfl⟩ λb hb=>by rw[hb];exact o1 _)⟩
theorem YI{T I E:TypeId}{k:ByteArray}{K:g7}(B:St w0 A (PY b l::L) w)(ht:P.underlying T=some (.map I E))(G:P.underlying I=some .string)(Y:∀s∈l,s≠k)
  (V:∀w',St w0 A (PY b (l++[k])::L) w'->K w'):Wu P (xk T (.map (some b)) (.string k) (.bool true)) w K:=by
 have J:∃w',(xk T (.map (some b)) (.string k) (.bool true)).run P w=.ok () w'/\gz (· = b) w w'/\JH w' b (l++[k]):=by
  obtain⟨F,h,_⟩:=B.head
  have O:=h.1.lt
  obtain⟨es,c,h1,h2⟩:=h.1
  have mem:∀e∈es.toList,∃s∈l,e.key=.string s:=λe W=>by
   have:(e.key,e.val)∈l.map λs=>(FR s,xc true):=by rw[<- h2];exact n5.2 ⟨e,W,rfl⟩
   obtain⟨s,B,u⟩:=n5.1 this
   simp only[Prod.mk.injEq]at u
   exact⟨s,B,u.1.symm⟩
  have hc:=MapKept.run_checkKey (P:=P) (w:=w) (kt:=I) (k:=.string k) G (by simp[IsKey]) false 9999
  rcases MapKept.findNow_spec (d:=.string) (k:=.string k) (by simp[IsKey]) es.toList 0 (λx U=>by obtain⟨p,_,e⟩:=mem x U;rw[e];simp[IsKey])with⟨h3,h4⟩|⟨j,e,h3,h4,h5⟩
  .have h6:=MapKept.run_findKey (P:=P) (w:=w) G h3
   refine⟨_,?_,gz.setBlock w b (.map (es.push ⟨.string k,.bool true,c⟩) (c+1)),_,_,j9 _ O,?_⟩
   .simp[xk,run_underlying ht,MapKept.run_getObj_map h1,hc,h6,n8 h1,Result.andThen]
   .rw[aae,vf,vf,h2];rfl
  .obtain⟨s,B,u⟩:=mem e (kp h4)
   rw[h5]at u;injection u with u
   exact absurd u.symm (Y s B)
 obtain⟨w',h1,h2,h3⟩:=J
 exact⟨w',h1,V w' (B.rp λF M=>⟨F,⟨h3,M.2⟩,λb hb=>.inl hb,h2.mono λk G=>(M.2 k).2 G⟩)⟩
theorem St.PY(u:St w0 A (Fw.PY b l::L) w):JH w b l:=by obtain⟨F,h,_⟩:=u.head;exact h.1
theorem MK{f : FuncId}{u : Func}{e : Array Value -> Sem Value}{args : List Value}{v : Value}{K : Value -> World -> Prop}(B : P.funcs[f]?=some u)(hb : (u.name == "runtime.NumGoroutine")=false /\ u.body.isNone=true /\ Extern.findNext u=none)(G : Extern.find u=some e)
  (E:pr P (e args.toArray)=some v) (k:K v w):CZ P f args w K:=by
 refine⟨.inr ⟨v,w,?_,k⟩⟩
 show(match P.funcs[f]? with|none=>_|some u=>_:Sem Next).run P w=_
 rw[B]
 simp only[hb.1,hb.2.1,hb.2.2,G]
 have:=fY E w
 simp_all
theorem Qa{T:Nat}{s:ByteArray}{i:Int}{K:Value->Prop}(u:P.underlying T=some .string)(B:0<=i)(h1:i<=s.size)(k:K (.string (s.extract i.toNat s.size))):eT P (nT T (.string s) (some (hH i)) none none) K:=by
 refine⟨_,?_,k⟩
 unfold nT
 rw[cT,cS u]
 simp only[ma]
 unfold Instr.slice
 rw[cT,cS u]
 simp only[ma]
 rw[ei dC]
 have hb:pr P (vC false s.size s.size (some (hH i)) none none)=some (i.toNat,s.size,s.size):=by
  simp only[vC,cT,fP,ma]
  rw[ji B bM];rfl
 rw[cT,hb];rfl
theorem JI(s:ByteArray)(i j:Nat):iN (s.extract i j)=((iN s).drop i).take (j-i):=by
 simp_all[iN]
theorem SX{s t:ByteArray}(h:iN s=iN t):s=t:=by
 cases s;cases t
 exact fM ia (Array.toList_inj.1 h)
def G5:List UInt8->UInt8->Option Nat
 | [],_=>none
 | x::r,c=>if x=c then some 0 else(G5 r c).map (· + 1)
def Fl(l:List UInt8)(c:UInt8):Int:=match G5 l c with|some k=>(k:Int)|none=>-1
theorem HT(l:List UInt8)(c:UInt8)(g:Nat->Bool):∀(r:List UInt8) (o:Nat),(∀j x,r[j]?=some x->g (o+j)=(x == c))->(List.range' o r.length).find? g=(G5 r c).map (o + ·)
 | [],o,h=>rfl
 | x::r,o,h=>by
  have u:=h 0 x rfl
  rw[List.length_cons,List.range'_succ,List.find?_cons,show g o=(x == c)from u]
  unfold G5
  by_cases e:x=c
  .grind
  .rw[ei e,show(x == c)=false from beq_eq_false_iff_ne.2 e]
   show List.find? g _=_
   rw[HT l c g r (o+1) λj x B=>by rw[show o+1+j=o+(j+1)from bM];simp_all]
   rw[Option.map_map]
   congr 1;grind
theorem ajg(s:ByteArray)(c:UInt8):pr P (Extern.BytealgIndexByte.indexByte #[.string s,.int .u8 (c.toNat:Int)])=some (hH (Fl (iN s) c)):=by
 have E:Extern.BytealgIndexByte.indexByte #[.string s,.int .u8 (c.toNat:Int)]=(do let b <- Extern.Bytes.bytesOf (.string s);let d <- Extern.Bytes.asByte (.int .u8 (c.toNat:Int));match (wx b.size).find? λi=>b[i]! == d with|some i=>pure (goInt i)|none=>pure (goInt (-1))):=rfl
 have hc:(Extern.Bytes.asByte (.int .u8 (c.toNat:Int)))=pure c:=by
  show pure ((c.toNat:Int).toNat.toUInt8)=_
  simp_all
 have hb:(Extern.Bytes.bytesOf (.string s))=pure s:=rfl
 have B:(wx s.size).find? (λi=>s[i]! == c)=G5 (iN s) c:=by
  have:=HT (iN s) c (λi=>s[i]! == c) (iN s) 0 λj x u=>by
   rw[SD]at u
   grind
  rw[eY]at this
  rw[List.range_eq_range',this]
  simp_all
 rw[E]
 simp only[hc,hb,cT,fP,ma,B]
 unfold Fl
 cases G5 (iN s) c<;>rfl
theorem YJ(l:List UInt8)(c:UInt8):0<=Fl l c↔l.any (λb=>decide (b=c))=true:=by
 unfold Fl
 induction l with
 | nil=>exact⟨λh=>absurd (show(0:Int)<=-1 from h) dC,λh=>by cases h⟩
 | cons x r u=>
  rw[List.any_cons]
  unfold G5
  by_cases e:x=c
  .rw[ej e,ew e];exact⟨λ_=>rfl,λ_=>by show(0:Int)<=((0:Nat):Int);omega⟩
  .rw[ei e,ez e,Bool.false_or,<- u]
   cases G5 r c with
   | none=>exact Iff.rfl
   | some k=>exact⟨λ_=>by show(0:Int)<=(k:Int);omega,λ_=>by show(0:Int)<=((k+1:Nat):Int);omega⟩
end
end Go.Fw
namespace Go.Proofs.YtpdlpabnlkofmaaGreatDoor
open Go.Fw
variable (w:World) (K:Value->g7)
def S335(J M Y I:Value):Prop:=
 bB .eql 3 I (i 0) λa=>cV a (K (.slice none 0 0) w) (eT g6 (jU .eql 9 false true M (Go.Value.string (ia (#[])))) λb=>cV b (cF 338 [J,I] w λc d=>
 K c d) (eS (λW=>bB .lss 3 I (i 0) λe=>cV e (cF 339 [J,M] w λf g=>bB .add 3 f (i 1) λh=>W h g) (W I w)) (λO j=>∀_:Env,
 lN 9 J λk=>bB .add 3 k (i 1) λl=>eT g6 (Builtin.min_ #[3,3] 3 [O,l].toArray) λn=>qW g6 (Instr.makeSlice 91 n n) j λo p=>bB .sub 3 n (i 1) λq=>
 Ey (λK2=>oN (λU G B r=>∀_:Env,
 bA .lss 3 B q λs=>cV s (cF 337 [G,M] r λt u=>bB .lss 3 t (i 0) λv=>cV v (K2 G B u) (bA .add 3 t Y λx=>eT g6 (nT 9 G none (some x) none) λy=>
 iA 91 o B λz=>sA 9 z y u λaa=>lN 9 M λab=>bA .add 3 t ab λZ=>eT g6 (nT 9 G (some Z) none none) λad=>bB .add 3 B (i 1) λae=>U ad ae aa)) (
 K2 G B r)) λU=>U J (i 0) p) (λV E af=>∀_:Env,
 iA 91 o E λag=>sA 9 ag V af λah=>bB .add 3 E (i 1) λai=>eT g6 (nT 91 o none (some ai) none) λaj=>K aj ah))))
theorem ad6(G u B E:Value)(h:S335 w K G u B E):CR 335 [G,u,B,E] w K:=
 qm 66 (λ_=>.nil) 256 [.tmp 8] Tryz.func335 h
theorem apA:PL 280:=dL Tryz.func280
theorem apB:PL 308:=dL Tryz.func308
theorem apC:PL 335:=dL Tryz.func335
theorem apD:PL 339:=dL Tryz.func339
theorem ahl:PL 337:=dL Tryz.func337
theorem apE:PL 344:=dL Tryz.func344
end Go.Proofs.YtpdlpabnlkofmaaGreatDoor
namespace Go.Proofs.YtpdlpabnlkofmaaGreatDoor
open Go.Fw
def C344(s:ByteArray)(c:UInt8)(w:World):CR 344 [.string s,.int .u8 (c.toNat:Int)] w (λv w'=>v=hH (Fl (iN s) c)/\Ext w w'):=by
 have u:=St.start w;refine eZ Tryz.func344 ?_;exact MK Tryz.func349 ⟨by kernel_rfl,by kernel_rfl,by kernel_rfl⟩ (by kernel_rfl) (ajg s c) ⟨rfl,u.aF⟩
def JJ(c:UInt8):ByteArray:=⟨#[c]⟩
def C340(s:ByteArray)(c:UInt8)(w:World):CR 340 [.string s,.string (JJ c)] w (λv w'=>v=hH (Fl (iN s) c)/\Ext w w'):=by
 have u:=St.start w;refine eZ Tryz.func340 ?_;refine fg iq ?_;refine⟨λB w'=>B=.bool (decide (JJ c=s))/\w'=w,?_,?_⟩
 .exact aG (aC (λh=>absurd (show(1:Int)=0 from h) dC) λ_=>jB ⟨rfl,rfl⟩)
 rintro _ _ ⟨rfl,rfl⟩ _;refine aC (λh=>?_) (λ_=>?_)
 .subst h;exact⟨fM (ng .i64) (show(0:Int)=Fl [c] c by unfold Fl G5;rw[ej rfl];rfl),u.aF⟩
 exact aG (aC (λ_=>jQ (s:=JJ c) (e:=c) iq dC rfl (aV apE u (C344 s c _) λ_ _ u=>⟨rfl,u.aF⟩)) λh=>absurd (show(1:Int)=1 from rfl) h)
def C337(s:ByteArray)(c:UInt8)(w:World):CR 337 [.string s,.string (JJ c)] w (λv w'=>v=hH (Fl (iN s) c)/\Ext w w'):=by
 have u:=St.start w;refine eZ Tryz.func337 ?_;exact aV ⟨_,Tryz.func340,by kernel_rfl,by kernel_rfl⟩ u (C340 s c _) (λ_ _ u=>⟨rfl,u.aF⟩)
def kwT:ByteArray:=⟨#[108,105,110,101,32,118,111,108,32,108,111,99,107,32,116,104,114,101,97,100,32,114,101,103,32,108,111,97,100,32,115,116,111,114,101,32,99,97,115,32,102,108,117,115,104,32,111,112,116,32,115,102,101,110,99,101,32,109,102,101,110,99,101,32,116,97,107,101,32,103,105,118,101,32,105,102,32,101,108,115,101,32,108,111,111,112,32,98,114,101,97,107,32,99,104,101,99,107,32,114,101,99,111,118,101,114,32,97,108,119,97,121,115]⟩
def kwl:List UInt8:=iN kwT
def kwo(k:Nat):Nat:=(jN.take k).foldl (λn x=>n+x.size+1) 0
def UZ(k:Nat):ByteArray:=kwT.extract (kwo k) kwT.size
def An(k:Nat):ByteArray:=jN.getD k ⟨#[]⟩
def apF(k:Nat):Bool:=decide (G5 (kwl.drop (kwo k)) 32=some (An k).size)&&(decide ((kwl.drop (kwo k)).take (An k).size=iN (An k))&&(decide (kwo (k+1)=kwo k+((An k).size+1))&&decide (kwo k+(An k).size+1<=kwl.length)))
def ad7:(wx 20).all apF=true:=by decide +kernel
theorem ML(k:Nat):iN (UZ k)=kwl.drop (kwo k):=by
 unfold UZ kwl
 rw[JI]
 exact kE (by rw[qa,eY];omega)
def aji(k:Nat)(h:k<20):Fl (iN (UZ k)) 32=(An k).size/\(An k).size+1<=(UZ k).size/\(UZ k).extract 0 (An k).size=An k/\(UZ k).extract ((An k).size+1) (UZ k).size=UZ (k+1):=by
 have:=List.all_eq_true.1 ad7 k (Lo.2 h)
 unfold apF at this
 simp only[n3,decide_eq_true_eq]at this
 obtain⟨h1,h2,h3,h4⟩:=this
 have u:(UZ k).size=kwl.length-kwo k:=by rw[<- eY,ML,qa]
 refine⟨by rw[ML];unfold Fl;rw[h1],bM,SX ?_,SX ?_⟩
 .rw[JI,ML,U0,Nat.sub_zero];exact h2
 rw[JI,ML,ML,sZ,h3]
 exact kE cJ
def kwB(k:Nat):(An k).size<=100:=by
 by_cases h:k<21
 .exact(by decide +kernel:∀k,k<21->(An k).size<=100) k h
 unfold An;rw[n0,mW (show jN.length<=k from Nat.le_of_not_lt h)];decide
def apG:∀k,k<21->∀s∈jN.take k,s≠An k:=by decide +kernel
theorem YL{k:Nat}(h:k<21):jN[k]?=some (An k):=by simp_all[jN,An]
theorem ajj{k:Nat}(h:k<21):(jN.take k++qV (21-k) (⟨#[]⟩:ByteArray)).set k (An k)=(jN.take (k+1)++qV (21-(k+1)) (⟨#[]⟩:ByteArray)):=by
 have u:(jN.take k).length=k:=by rw[lY];exact Gz (aaf h)
 rw[List.set_append_right _ _ bM,u,Nat.sub_self,show 21-k=(21-(k+1))+1 from bM,List.replicate_succ,List.set_cons_zero,uT,YL h,nk]
 rfl
theorem JK{k:Nat}(h:k<21):(jN.take k++qV (21-k) (⟨#[]⟩:ByteArray)).length=21:=by
 rw[kU,lY,List.length_replicate,Gz (show k<=jN.length from aaf h)];omega
def C339(w:World):CR 339 [.string kwT,.string (JJ 32)] w (λv w'=>v=hH 20/\Ext w w'):=by
 have u:=St.start w;refine eZ Tryz.func339 ?_;exact fg iq (aG (aC (λh=>absurd (show(1:Int)=0 from h) dC) λ_=>fg iq (aG (aC (λ_=>jQ (s:=JJ 32) (e:=32) iq dC rfl (MK (e:=Extern.BytealgCount.count) (v:=hH 20) Tryz.func343 ⟨by kernel_rfl,by kernel_rfl,by kernel_rfl⟩ (by kernel_rfl) (by kernel_rfl) ⟨rfl,u.aF⟩)) λh=>absurd (show(1:Int)=1 from rfl) h))))
def C335(w:World):CR 335 [.string kwT,.string (JJ 32),hH 0,hH (-1)] w (λv w'=>kP (bH v jN) w w'):=by
 have u:=St.start w;refine ad6 _ _ _ _ _ _ ?_;unfold S335;refine aG (aC (λh=>absurd h dC) λ_=>jB (aC (λh=>absurd h dC) λ_=>?_));refine⟨λU w'=>U=hH 21/\St w aZ [] w',?_,?_⟩
 .exact aQ (aC (λ_=>aV apD u (C339 _) λ_ _ u=>aK dC ⟨rfl,u⟩) λh=>absurd dC h)
 rintro _ _ ⟨rfl,u⟩ _;refine fg iq (aK dC (ru ?_));rw[show min (21:Int) ((kwT.size:Int)+1)=21 from dC];refine wL (⟨#[]⟩:ByteArray) u iF agM dC dC dC (λB _ u=>fr dC ?_);refine⟨λs y w'=>s=.string (UZ 20)/\y=hH 20/\St w aZ [bH B (jN.take 20++qV (21-20) (⟨#[]⟩:ByteArray))] w',?_,?_⟩
 .refine⟨λG s y w'=>∃k:Nat,s=.string (UZ k)/\y=hH (k:Int)/\G=20-k/\k<=20/\St w aZ [bH B (jN.take k++qV (21-k) (⟨#[]⟩:ByteArray))] w',⟨_,0,fM FR dC,rfl,rfl,la _,u⟩,?_⟩;rintro G _ _ _ ⟨k,rfl,rfl,rfl,W,u⟩ _;refine aQ (aC (λM=>?_) λM=>?_);rotate_left
  .obtain rfl:k=20:=bM
   exact⟨rfl,rfl,u⟩
  obtain⟨J,Y,I,O⟩:=aji k bM;refine aV ahl u (C337 (UZ k) 32 _) (λ_ V u=>?_);rw[J];refine aQ (aC (λh=>absurd h bM) λ_=>aK (show -9223372036854775808<=((An k).size:Int)+0/\((An k).size:Int)+0<=9223372036854775807 by have:=kwB k;omega) (nY iq bM bM ?_));rw[show(((An k).size:Int)+0).toNat=(An k).size from bM,I];refine dM u iF bM (by rw[JK bM];omega) (λq E=>jo (An k) u gB E (by rw[JK bM];omega) λ_ u=>?_);rw[qb,ajj bM]at u;refine fg iq (aK (show -9223372036854775808<=((An k).size:Int)+1/\((An k).size:Int)+1<=9223372036854775807 by have:=kwB k;omega) (Qa iq (show(0:Int)<=((An k).size:Int)+1 by omega) (show((An k).size:Int)+1<=_ by omega) ?_))
  rw[show((An k).size:Int)+(((JJ 32).size:Nat):Int)=((An k).size:Int)+1 from rfl,show(((An k).size:Int)+1).toNat=(An k).size+1 from bM,O];exact aK bM ⟨_,bM,k+1,rfl,rfl,rfl,bM,u⟩
 rintro _ _ _ ⟨rfl,rfl,u⟩ _;exact dM u iF dC (by rw[JK dC];decide) (λ_ E=>jo (UZ 20) u gB E (by rw[JK dC];decide) λ_ u=>aK dC (se iF u dC dC λ_ u=>u.fresh))
def C308(w:World):CR 308 [.string kwT,.string (JJ 32)] w (λv w'=>kP (bH v jN) w w'):=by
 have u:=St.start w;refine eZ Tryz.func308 ?_;exact dT apC u (C335 _) (λ_ _ _ u=>u.fresh)
def C280(w:World):CR 280 [] w (λv w'=>∃b,v=.map (some b)/\JH w' b jN/\Ext w w'):=by
 have u:=St.start w;refine eZ Tryz.func280 ?_;refine YH u (λb _ u=>dT apB u (C308 _) λJ _ M u=>aH iF u.dS ?_);refine⟨λE y w'=>∃k:Nat,y=hH (k:Int)/\E=21-k/\k<=21/\St w aZ [PY b (jN.take k),bH J jN] w',⟨_,0,rfl,rfl,la _,u.p1⟩,?_⟩;rintro E _ _ ⟨k,rfl,rfl,O,u⟩ _;refine aQ (aC (λB=>?_) λB=>?_);rotate_left
 .obtain rfl:k=21:=by have h:¬ (k:Int)<21:=B;omega
  exact⟨b,rfl,u.PY,u.aF⟩
 have G:k<21:=by have h:(k:Int)<21:=B;omega
 refine aN iF u.p1.dS bM (YL (show((k:Nat):Int).toNat<21 by omega)) (λq I=>aD gB I ?_);rw[qb];refine YI u Tryz.underlying329 iq (apG k G) (λ_ u=>aK bM ?_);refine⟨_,bM,k+1,rfl,rfl,bM,?_⟩;rw[uT,YL G];exact u
def FnU(w:World)(f:Value)(g:UInt8->Bool):Prop:=∃u first cap,f=.func (.func u) (P1 first) (P1 cap)/\Plain g6 u/\
 ∀(c:UInt8) B,Ext w B->Calls g6 u (first++[ng .u8 c.toNat]++cap).toArray B (tc λv E=>v=.bool (g c)/\Ext B E)
def ad8{g:UInt8->Bool}{l:List UInt8}{k:Nat}(u:∀y∈l.take k,g y=true)(B:k<=l.length)(h:(match l[k]? with|some c=>g c|none=>false)=false):k=l.length↔l.all g=true:=by
 grind
def xq(s:ByteArray):Bool:=decide (s.size<1\/16<s.size)||(match (iN s)[0]? with|some c=>!gE c.toNat|none=>true)||jN.any (λy=>decide (y=s))
def YM{s:ByteArray}(h:xq s=false):s.size<=1048576:=by
 unfold xq at h
 grind
def YN{s:ByteArray}(h:xq s=true):gQ s=false:=by
 show(!(xq s)&&_)=false
 rw[h];rfl
def YO{s:ByteArray}{n:Nat}(h:xq s=false)(u:n=(iN s).length↔(iN s).all (λc=>gE c.toNat||kj c.toNat)=true):decide ((n:Int)=(s.size:Int))=gQ s:=by
 show _=(!(xq s)&&!(iN s).any λc=>!gE c.toNat&&!kj c.toNat)
 rw[h,Bool.not_false,Bt,<- eY]
 grind
theorem ajk{s:ByteArray}(h:s.size=0):s=ia #[]:=by
 cases s with
 | mk a=>cases a with
  | mk l=>cases l with
   | nil=>rfl
   | cons x r=>simp[abR]at h
def C234(c:Int)(w:World):CR 234 [.int .u8 c] w (λv w'=>v=.bool (gE c)/\Ext w w'):=by
 have u:=St.start w;refine eZ Tryz.func234 ?_;refine⟨λE w'=>E=.bool (decide (97<=c/\c<=122\/c=95))/\w=w',AX (aC (λ_=>AW (aC (λ_=>⟨OU bM,rfl⟩) λ_=>nF ⟨yJ bM,rfl⟩)) λ_=>nF ⟨yJ bM,rfl⟩),?_⟩;rintro _ _ ⟨rfl,B⟩ _;subst B;exact⟨rfl,u.aF⟩
def C238(c:Int)(w:World):CR 238 [.int .u8 c] w (λv w'=>v=.bool (kj c)/\Ext w w'):=by
 have u:=St.start w;refine eZ Tryz.func238 ?_;refine⟨λE w'=>E=.bool (decide (48<=c/\c<=57))/\w=w',AX (aC (λ_=>AW ⟨yJ bM,rfl⟩) λ_=>⟨Xd bM,rfl⟩),?_⟩;rintro _ _ ⟨rfl,B⟩ _;subst B;exact⟨rfl,u.aF⟩
def C237(c:Int)(w:World):CR 237 [.int .u8 c] w (λv w'=>v=.bool (gE c||kj c)/\Ext w w'):=by
 have u:=St.start w;refine eZ Tryz.func237 ?_;refine⟨λB w'=>B=.bool (gE c||kj c)/\St w aZ [] w',aV aha u (C234 _ _) (λ_ _ u=>aY (λ_=>⟨vb cJ,u⟩) λ_=>aV apk u (C238 _ _) λ_ _ u=>⟨vb cJ,u⟩),?_⟩;rintro _ _ ⟨rfl,u⟩ _;exact⟨rfl,u.aF⟩
def C236(s:ByteArray)(fv:Value)(g:UInt8->Bool)(w:World)(V:FnU w fv g)(hn:s.size<=1048576):CR 236 [.string s,fv] w (λv w'=>∃n:Nat,v=hH (n:Int)/\(n=(iN s).length↔(iN s).all g=true)/\Ext w w'):=by
 obtain⟨g0,first,cap,rfl,W,Y⟩:=V;have u:=St.start w;refine adZ _ _ _ _ ?_;unfold S236;refine⟨λm x M=>∃k:Nat,x=hH (k:Int)/\m=(iN s).length-k/\k<=(iN s).length/\(∀y∈(iN s).take k,g y=true)/\St w aZ [] M,⟨_,0,rfl,rfl,la _,ee,u⟩,?_⟩;rintro m _ M ⟨k,rfl,rfl,U,I,u⟩ _;have HI:=eY s;refine⟨λZ w'=>Z=.bool (match (iN s)[k]? with|some c=>g c|none=>false)/\St w aZ [] w',fg iq (aQ (aC (λjC=>?_) λ_=>⟨vb cJ,u⟩)),?_⟩
 .obtain⟨J,B⟩:∃G,(iN s)[(k:Int).toNat]?=some G:=⟨_,kO (by rw[eY];omega)⟩;refine jQ iq bM B (gZ W (Y J _ u.aF) ?_);rintro _ _ ⟨rfl,O⟩;have u:=u.ext O;exact⟨vb cJ,u⟩
 rintro _ _ ⟨rfl,u⟩ _;refine aY (λE=>?_) (λE=>⟨k,rfl,ad8 I U (by simpa using E),u.aF⟩);obtain⟨J,B⟩:∃G,(iN s)[k]?=some G:=by cases h:(iN s)[k]? with|none=>rw[h]at E;cases E|some x=>exact⟨x,rfl⟩
 have R4:=(j0.1 B).1;exact aK bM ⟨_,bM,k+1,rfl,rfl,bM,dW I B cJ,u⟩
def C235(s:ByteArray)(w:World):CR 235 [.string s] w (λv w'=>v=.bool (jN.any λy=>decide (y=s))/\Ext w w'):=by
 have u:=St.start w;refine eZ Tryz.func235 ?_;refine dO apA (C280 _) ?_;rintro _ _ ⟨G,rfl,B,E⟩;have u:=u.ext E;exact MJ B Tryz.underlying329 Tryz.underlying9 Xw ⟨rfl,u.aF⟩
def C180(s:ByteArray)(w:World):CR 180 [.string s] w (λv w'=>v=.bool (gQ s)/\Ext w w'):=by
 have u:=St.start w;refine eZ Tryz.func180 ?_;refine⟨λZ w'=>Z=.bool (xq s)/\St w aZ [] w',jB (aC (λG=>?_) λG=>?_),?_⟩
 .have O:s.size=0:=by rw[G];rfl
  exact⟨vb (by unfold xq;grind),u⟩
 .have O:s.size≠0:=λh=>G (ajk h);refine fg iq (cP (aC (λ_=>⟨vb (by unfold xq;grind),u⟩) λgJ=>?_));obtain⟨U,I⟩:∃Y,(iN s)[(0:Int).toNat]?=some Y:=⟨_,kO (by rw[eY];omega)⟩;refine jQ iq bM I ?_;have M:(iN s)[0]?=some U:=I;have W:¬ (s.size<1\/16<s.size):=bM
  exact aV aha u (C234 _ _) (λ_ _ u=>bQ (aY (λ_=>⟨vb (by unfold xq;grind),u⟩) λ_=>aV apn u (C235 _ _) λ_ _ u=>⟨vb (by unfold xq;grind),u⟩))
 rintro _ _ ⟨rfl,u⟩ _;refine aY (λB=>⟨vb (YN B).symm,u.aF⟩) (λB=>dO apl (C236 s _ (λc=>gE c.toNat||kj c.toNat) _ ⟨237,[],[],rfl,apm,λ_ V _=>C237 _ V⟩ (YM (by simpa using B))) ?_);rintro _ _ ⟨nr,rfl,E,J⟩;have u:=u.ext J;exact fg iq (aG ⟨vb (YO (by simpa using B) E),u.aF⟩)
def U1(xs:List bZ)(i:Int)(n:Nat):Int:=if n=0 then i else if i<0 then -1 else Dy xs.length (skip n (xs.drop i.toNat))
def ad9(xs:List bZ)(i:Int):U1 xs i 1=qw xs i:=by unfold U1 qw;omega
theorem YQ(xs:List bZ)(i:Int):U1 xs i 0=i:=rfl
theorem aea{xs:List bZ}{i:Int}{n:Nat}(u:0<n)(h:i<0\/(xs.length:Int)<=i):U1 xs i n = -1:=by
 unfold U1
 rw[ei bM]
 split
 .rfl
 rw[u1 bM]
 cases n with
 | zero=>omega
 | succ n=>rfl
theorem aeb{xs:List bZ}{i:Int}{n:Nat}{x:bZ}(G:0<n)(J:0<=i)(u:xs[i.toNat]?=some x)(I:kids x.op<0):U1 xs i n = -1:=by
 unfold U1
 obtain⟨B,E⟩:=j0.1 u
 rw[ei bM,ei bM,r6 B,E]
 cases n with
 | zero=>omega
 | succ n=>
  grind[Dy,skip]
theorem YR{xs:List bZ}{i:Int}{n m:Nat}{x:bZ}(G:0<n)(M:0<=i)(u:xs[i.toNat]?=some x)(J:0<=kids x.op)(I:(m:Int)=n+kids x.op-1):U1 xs i n=U1 xs (i+1) m:=by
 obtain⟨B,E⟩:=j0.1 u
 have h1:U1 xs i n=Dy xs.length (skip m (xs.drop (i+1).toNat)):=by
  unfold U1
  rw[ei bM,ei bM,r6 B,E,show(i+1).toNat=i.toNat+1 from bM]
  cases n with
  | zero=>omega
  | succ n=>
   grind[Dy,skip]
 rw[h1]
 grind[Dy,skip,U1]
def YS(i:Int)(ks:List Ex)(k:Nat):List Int:=(wx k).map λj=>i+1+(qy ks j:Int)
theorem YT(i:Int)(ks:List Ex)(k:Nat):YS i ks (k+1)=YS i ks k++[i+1+(qy ks k:Int)]:=by
 unfold YS;rw[List.range_succ,vf];rfl
theorem SY(i:Int)(ks:List Ex)(k:Nat):(YS i ks k).length=k:=by simp[YS]
def aec{i:Int}{ks:List Ex}{n k:Nat}{e:Int}(h:(YS i ks n)[k]?=some e):e=i+1+(qy ks k:Int)/\k<n:=by
 unfold YS at h
 grind
def C286(k:Int)(w:World):CR 286 [hH k] w (λv w'=>v=hH (kids k)/\Ext w w'):=by
 have E:=St.start w;refine eZ Tryz.func286 ?_;refine⟨λB w'=>B=.bool (decide (k=1\/k=2))/\w=w',aG (aC (λ_=>⟨OU bM,rfl⟩) λ_=>aG ⟨yJ bM,rfl⟩),?_⟩;rintro _ _ ⟨rfl,u⟩ _;subst u;refine aC (λJ=>?_) (λJ=>⟨λB w'=>B=.bool (decide (k=3\/k=4))/\w=w',aG (aC (λ_=>⟨OU bM,rfl⟩) λ_=>aG ⟨yJ bM,rfl⟩),?_⟩)
 .unfold kids;exact⟨fM (ng .i64) cJ,E.aF⟩
 rintro _ _ ⟨rfl,u⟩ _;subst u;refine aC (λI=>?_) (λI=>⟨λB w'=>B=.bool (decide (5<=k/\k<=15))/\w=w',cQ (aC (λ_=>gA ⟨yJ bM,rfl⟩) λ_=>⟨Xd bM,rfl⟩),?_⟩)
 .unfold kids;exact⟨fM (ng .i64) cJ,E.aF⟩
 rintro _ _ ⟨rfl,u⟩ _;subst u;refine aC (λG=>?_) (λG=>?_)
 .unfold kids;exact⟨fM (ng .i64) cJ,E.aF⟩
 unfold kids;exact⟨fM (ng .i64) cJ,E.aF⟩
def C243(x:bZ)(w:World):CR 243 [hM x] w (λv w'=>v=.bool (!lg x)/\Ext w w'):=by
 have u:=St.start w;refine eZ Tryz.func243 ?_;refine cH u (λE _ u=>⟨λB w'=>B=.bool (decide (x.at_<0\/4000<x.at_))/\St w aZ [bY E (hZ x)] w',aA rZ (aB (v:=hH x.at_) bO u.hb rfl (aQ (aC (λ_=>⟨vb cJ,u⟩) λ_=>aA rZ (aB (v:=hH x.at_) bO u.hb rfl (cP ⟨vb cJ,u⟩))))),?_⟩);rintro _ _ ⟨rfl,u⟩ _;refine aY (λI=>?_) (λI=>?_)
 .refine⟨vb ?_,u.drop.aF⟩;unfold lg
  grind
 refine aA fa (aB (v:=hH x.op) bO u.hb rfl (aG (aC (λG=>⟨λB w'=>B=.bool (decide (0<=x.n/\x.n<=4294967296/\x.name=⟨#[]⟩))/\St w aZ [bY E (hZ x)] w',aA jj (aB (v:=hH x.n) bO u.hb rfl (cQ (aC (λ_=>aA jj (aB (v:=hH x.n) bO u.hb rfl (gA (aC (λ_=>aA gn (aB (v:=.string x.name) gB u.hb rfl (jB ⟨vb cJ,u⟩))) λ_=>⟨vb cJ,u⟩)))) λ_=>⟨vb cJ,u⟩))),?_⟩) λG=>?_)))
 .rintro _ _ ⟨rfl,u⟩ _;refine⟨vb ?_,u.drop.aF⟩;unfold lg
  grind
 refine aA fa (aB (v:=hH x.op) bO u.hb rfl (aG (aC (λJ=>⟨λB w'=>B=.bool (decide (x.n=0)&&gQ x.name)/\St w aZ [bY E (hZ x)] w',aA jj (aB (v:=hH x.n) bO u.hb rfl (aG (aC (λ_=>aA gn (aB (v:=.string x.name) gB u.hb rfl (aV Mu u (C180 _ _) λ_ _ u=>⟨vb cJ,u⟩))) λ_=>⟨vb cJ,u⟩))),?_⟩) λJ=>?_)))
 .rintro _ _ ⟨rfl,u⟩ _;refine⟨vb ?_,u.drop.aF⟩;unfold lg
  grind
 refine⟨λB w'=>B=.bool (decide (x.n=0/\x.name=⟨#[]⟩))/\St w aZ [bY E (hZ x)] w',aA jj (aB (v:=hH x.n) bO u.hb rfl (aG (aC (λ_=>aA gn (aB (v:=.string x.name) gB u.hb rfl (jB ⟨vb cJ,u⟩))) λ_=>⟨vb cJ,u⟩))),?_⟩;rintro _ _ ⟨rfl,u⟩ _;refine⟨vb ?_,u.drop.aF⟩;unfold lg
 grind
def C242(x:bZ)(w:World):CR 242 [hM x] w (λv w'=>v=.bool (lg x)/\Ext w w'):=by
 have u:=St.start w;refine eZ Tryz.func242 ?_;exact cH u (λ_ _ u=>aD rY u.At (aV apo u (C243 _ _) λ_ _ u=>bQ ⟨vb ee,u.drop.aF⟩))
def C285(sv fv:Value)(xs:List bZ)(g:bZ->Bool)(w:World)(J:cZ (λ_=>True) w sv xs)(U:wi w fv g)(Z:xs.length<=1073741824):CR 285 [sv,fv] w (λv w'=>v=hH (si g xs)/\Ext w w'):=by
 obtain⟨g0,first,cap,rfl,W,Y⟩:=U;have u:=St.start w;refine eZ Tryz.func285 ?_;refine aH g9 (J.ext u.aF) ?_;refine⟨λm x G=>∃k:Nat,x=hH (k:Int)/\m=xs.length-k/\k<=xs.length/\(∀y∈xs.take k,g y=false)/\St w aZ [] G,⟨_,0,rfl,rfl,la _,ee,u⟩,?_⟩;rintro m _ G ⟨k,rfl,rfl,hk,B,u⟩ _;refine aQ (aC (λjC=>?_) λ_=>⟨fM (ng .i64) (ja (by rw[kE bM]at B;exact B)).symm,u.aF⟩);obtain⟨V,E⟩:=gx xs (i:=(k:Int).toNat) bM;refine aN g9 J bM E (λ_ O=>aD rY (O.ext u.aF) (gZ W (Y V G u.aF) ?_))
 rintro _ _ ⟨rfl,M⟩;have u:=u.ext M;exact aY (λI=>⟨fM (ng .i64) (l8 B E I).symm,u.aF⟩) (λI=>aK bM ⟨xs.length-(k+1),bM,k+1,rfl,rfl,bM,dW B E I,u⟩)
def C244(sv fv:Value)(xs:List bZ)(g:bZ->Bool)(w:World)(E:cZ (λ_=>True) w sv xs)(B:wi w fv g)(G:xs.length<=1073741824):CR 244 [sv,fv] w (λv w'=>v=.bool (xs.any g)/\Ext w w'):=by
 have u:=St.start w;refine eZ Tryz.func244 ?_;exact aV apw u (C285 _ _ _ _ _ (E.ext u.aF) (B.ext u.aF) bM) (λ_ _ u=>cQ ⟨vb (kR _ _),u.aF⟩)
def C245(lv:Value)(xs:List bZ)(i:Int)(w:World)(I:cZ (λ_=>True) w lv xs)(hn:xs.length<=1048576):CR 245 [lv,hH i] w (λv w'=>v=hH (qw xs i)/\Ext w w'):=by
 have u:=St.start w;refine eZ Tryz.func245 ?_;refine⟨λm x y O=>∃(a:Int) (n:Nat),x=hH a/\y=hH (n:Int)/\m=xs.length-a.toNat/\n<=1+a.toNat/\U1 xs a n=qw xs i/\St w aZ [] O,⟨_,i,1,rfl,rfl,rfl,bM,ad9 _ _,u⟩,?_⟩;rintro m _ _ O ⟨a,n,rfl,rfl,rfl,hna,E,u⟩ _;refine cP (aC (λY=>⟨λjv w'=>jv=.bool (decide (a<0\/(xs.length:Int)<=a)||(match xs[a.toNat]? with|some x=>decide (kids x.op = -1)|none=>true))/\St w aZ [] w',aQ (aC (λ_=>⟨vb cJ,u⟩) λjw=>aH g9 (I.ext u.aF) (cQ (aC (λ_=>⟨vb cJ,u⟩) λep=>?_))),?_⟩) λY=>?_)
 .obtain⟨B,G⟩:=gx xs (i:=a.toNat) bM;have Yi:=tY B.op;exact aN g9 I bM G (λ_ Z=>bU B.op fa Z rfl rfl λ_ W=>aD bO (W.ext u.aF) (aV Yx u (C286 _ _) λ_ _ u=>aG ⟨vb cJ,u⟩))
 .rintro _ _ ⟨rfl,u⟩ _;refine aY (λJ=>?_) (λJ=>?_)
  .refine⟨fM (ng .i64) ?_,u.aF⟩;rw[<- E]
   by_cases U:a<0\/(xs.length:Int)<=a
   .exact(aea bM U).symm
   have M:a.toNat<xs.length:=bM
   rw[kO M]at J;exact(aeb bM bM (kO M) cJ).symm
  have h23:¬ (a<0\/(xs.length:Int)<=a):=cJ
  obtain⟨B,G⟩:=gx xs (i:=a.toNat) bM;have Yi:=tY B.op;have PM:0<=kids B.op:=cJ
  exact aN g9 I bM G (λ_ my=>bU B.op fa my rfl rfl λ_ sw=>aD bO (sw.ext u.aF) (aV Yx u (C286 _ _) λ_ _ u=>aK bM (aK bM (fr bM ⟨_,bM,a+1,((n:Int)+kids B.op-1).toNat,rfl,fM (ng .i64) bM,rfl,bM,by rw[<- E];exact(YR bM bM G PM bM).symm,u⟩))))
 have V:n=0:=bM
 rw[V,YQ]at E;exact⟨fM (ng .i64) E,u.aF⟩
theorem Da{l:List bZ}:fB l=(decide (l.length<=40)&&decide (qw l 0=l.length)&&!l.any lg&&decide (SP l<=12)):=by
 unfold fB;rw[E5]
def C287(lv:Value)(xs:List bZ)(i:Int)(t:Ex)(w:World)(J:cZ (λ_=>True) w lv xs)(hn:xs.length<=1048576)(B:B5 xs i t):CR 287 [lv,hH i] w (λv w'=>kP (bH v (YS i t.eB t.eB.length)) w w'):=by
 obtain⟨M,O,Z⟩:∃e,e=t.root/\xs[(i).toNat]?=some e:=⟨_,rfl,B.root.1⟩;have Y:=B.root.2;have U:=B.end;have PM:=Ex.o9 B.2.1;rw[<- O]at PM;have Yi:=tY M.op;have hi0:=B.1;have u:=St.start w;refine eZ Tryz.func287 ?_;refine aK bM (aN g9 J bM Z λ_ E8=>bU M.op fa E8 rfl rfl λ_ YU=>aD bO (YU.ext u.aF) (aV Yx u (C286 _ _) λI he u=>?_));refine⟨λm G a x I=>∃k:Nat,a=hH (i+1+qy t.eB k)/\x=hH (k:Int)/\m=t.eB.length-k/\k<=t.eB.length/\St w aZ [bH G (YS i t.eB k)] I,⟨_,0,fM (ng .i64) (by simp[qy]),rfl,rfl,bM,u.eV (α:=Int)⟩,?_⟩
 rintro m G _ _ _ ⟨k,rfl,rfl,rfl,hk,u⟩ _;refine aQ (aC (λep=>?_) λep=>?_)
 .obtain⟨a,E⟩:=gx t.eB (i:=k) bM;have hka:=Ex.tZ B.2.1 (kp E);have W:=B.kid E;have WC:=W.end;have UQ:=a.rz;refine bD ([(i+1+qy t.eB k:Int)]) u cR rfl rfl (dR rfl) (λYV _ u=>?_);have V:=u.dS;exact bL u.p1 cR V (by rw[SY];exact aaf (by simp;omega)) dC (λ_ _ u=>have u:=u.p1.drop;aV Yy u (C245 _ _ _ _ (J.ext u.aF) bM) λ_ _ u=>aK bM ⟨_,bM,k+1,fM (ng .i64) (by rw[WC.1,uK E];omega),rfl,rfl,bM,by rw[YT];exact u⟩)
 rw[show t.eB.length=k from bM];exact u.fresh
theorem C246(lv:Value)(xs:List bZ)(i:Int)(t:Ex)(N:Nat)(w:World)(O:cZ (λ_=>True) w lv xs)(Y:xs.length<=1048576)(B:B5 xs i t)(hN:t.size<N):CR 246 [lv,hH i] w (λv w'=>v=hH t.depth/\Ext w w'):=by
 obtain⟨pM,U,sm⟩:∃e,e=t.root/\xs[(i).toNat]?=some e:=⟨_,rfl,B.root.1⟩;have Z:=B.root.2;have V:=B.end;have PM:=Ex.o9 B.2.1;rw[<- U]at PM;have Yi:=tY pM.op;have hi0:=B.1;have u:=St.start w;refine ad0 _ _ _ _ ?_;unfold S246;refine dT apr u (C287 _ _ _ t _ (O.ext u.aF) bM B) (λE M cK u=>?_);have JN:=SY i t.eB t.eB.length;refine aH cR u.dS ?_;refine⟨λm n x M=>∃k:Nat,n=hH (Dz t.eB k)/\x=hH (k:Int)/\m=t.eB.length-k/\k<=t.eB.length/\St w aZ [bH E (YS i t.eB t.eB.length)] M,⟨_,0,rfl,rfl,rfl,bM,u⟩,?_⟩;rintro m _ _ _ ⟨k,rfl,rfl,rfl,hk,u⟩ _
 have W:=PN (ks:=t.eB) (N:=(t.size:Int)) bM (λa ha=>by have:=(Ex.tZ B.2.1 ha).2;have:=a.rz;omega) k;refine aQ (aC (λxg=>?_) λ_=>aK bM ⟨fM (ng .i64) (by rw[t.Mi,show k=t.eB.length from bM]),u.aF⟩);obtain⟨ix,J⟩:=gx (YS i t.eB t.eB.length) (i:=(k:Int).toNat) bM;refine dM u cR bM bM (λ_ ij=>fZ u bO ij J ?_);obtain⟨rfl,B4⟩:=aec J;obtain⟨a,G⟩:=gx t.eB (i:=k) bM;have hka:=Ex.tZ B.2.1 (kp G);have I:=B.kid G;have WC:=I.end;have UQ:=a.rz
 exact aV ahb u (C246 _ _ _ _ (N-1) _ (O.ext u.aF) Y I bM) (λ_ _ u=>DY (aK bM ⟨_,bM,k+1,by rw[Cn G],rfl,rfl,bM,u⟩))
termination_by N
decreasing_by all_goals omega
def C185(lv:Value)(xs:List bZ)(w:World)(B:cZ (λ_=>True) w lv xs)(M:xs.length<=1048576):CR 185 [lv] w (λv w'=>v=.bool (fB xs)/\Ext w w'):=by
 have u:=St.start w;refine eZ Tryz.func185 ?_;refine⟨λG w'=>G=.bool (decide (xs.length=0\/40<xs.length)||xs.any lg||decide (¬ qw xs 0=xs.length))/\St w aZ [] w',aH g9 (B.ext u.aF) (aG (aC (λ_=>⟨vb cJ,u⟩) λY=>aH g9 (B.ext u.aF) (cP (aC (λ_=>⟨vb cJ,u⟩) λZ=>?_)))),?_⟩
 .have E:wi w (.func (.func 242) [].toArray [].toArray) lg:=
   ⟨242,[],[],rfl,apq,λy U _=>C242 y U⟩
  exact aV apv u (C244 _ _ _ _ _ (B.ext u.aF) E bM) (λ_ _ u=>aY (λ_=>⟨vb cJ,u⟩) λ_=>aV Yy u (C245 _ _ _ _ (B.ext u.aF) bM) λ_ _ u=>aH g9 (B.ext u.aF) (bV ⟨vb cJ,u⟩))
 rintro _ _ ⟨rfl,u⟩ _;refine aY (λI=>?_) (λI=>?_)
 .refine⟨vb ?_,u.aF⟩;rw[Da]
  by_cases V:xs.length=0
  .obtain rfl:=ta.1 V;rfl
  grind
 have O:qw xs 0=xs.length:=cJ
 obtain⟨t,ht⟩:=B5.of (xs:=xs) (i:=0) bM;have J:=ht.zero O;refine aV ahb u (C246 _ _ _ t (t.size+1) _ (B.ext u.aF) M ht bM) (λ_ W u=>gA ?_);refine⟨vb ?_,u.aF⟩;rw[Da];unfold SP;rw[J.2]
 grind
def nR(o:List ByteArray)(x:bZ):List ByteArray:=if x.op=2/\o.any (λy=>decide (y=x.name))=false then o++[x.name]else o
theorem YW{o:List ByteArray}{x:bZ}(h:x.op=2/\o.any (λy=>decide (y=x.name))=false):nR o x=o++[x.name]:=ej h
theorem YX{o:List ByteArray}{x:bZ}(h:¬ (x.op=2/\o.any (λy=>decide (y=x.name))=false)):nR o x=o:=ei h
def nS(xs:List bZ):List ByteArray:=xs.foldl nR []
theorem MM{xs:List bZ}{k:Nat}{x:bZ}(h:xs[k]?=some x):nS (xs.take (k+1))=nR (nS (xs.take k)) x:=by
 unfold nS;rw[<- gO h,List.foldl_append];rfl
theorem Db(xs:List bZ):(nS xs).length<=xs.length:=by
 have:∀(l:List bZ) (o:List ByteArray),(l.foldl nR o).length<=o.length+l.length:=by
  intro l
  induction l with
  | nil=>grind
  | cons x l u=>
   grind[nR]
 simpa[nS]using this xs []
theorem Qc(g:ByteArray->Bool)(xs:List bZ):(nS xs).any g=xs.any λx=>decide (x.op=2)&&g x.name:=by
 have:∀(l:List bZ) (o:List ByteArray),(l.foldl nR o).any g=(o.any g||l.any λx=>decide (x.op=2)&&g x.name):=by
  intro l
  induction l with
  | nil=>grind
  | cons x l u=>
   intro o
   show(l.foldl nR (nR o x)).any g=_
   rw[u]
   have h2:(nR o x).any g=(o.any g||(decide (x.op=2)&&g x.name)):=by
    unfold nR
    grind
   grind
 exact(this xs []).trans ee
theorem Cs(ns:List ByteArray)(s:ByteArray):decide (0<=cU ns s)=ns.any λy=>decide (y=s):=kR _ _
theorem U3(ns:List ByteArray)(s:ByteArray):decide (cU ns s<0) = !ns.any λy=>decide (y=s):=by
 rw[<- Cs]
 grind
def Qd{k:Int}(h:0<=kids k):eC k=kids k:=by unfold eC kids at *;grind
def aed{ns:List ByteArray}{xs:List bZ}(h:fB xs=false):kT ns xs=8:=by unfold kT;grind
def aee{ns:List ByteArray}{xs:List bZ}(h:fB xs=true):kT ns xs=if (nS xs).any (λs=>!ns.any λy=>decide (y=s))=true then 9 else 0:=by
 unfold kT
 rw[ei (by simp[h]),Qc]
 simp only[U3]
theorem MN{ns:List ByteArray}{xs:List bZ}(h:¬ kT ns xs=0):qz ns xs=[]:=by unfold qz;grind
def qO(ns:List ByteArray)(nums:List Int)(xs:List bZ):Int×Int:=if ns.length=nums.length then(if kT ns xs=0 then runM (qz ns xs) nums else(0,kT ns xs))else(0,1)
def C225(sv:Value)(ns:List ByteArray)(s:ByteArray)(w:World)(J:cZ (λ_=>True) w sv ns)(O:ns.length<=1048576):CR 225 [sv,.string s] w (λv w'=>v=hH (cU ns s)/\Ext w w'):=by
 have u:=St.start w;refine eZ Tryz.func225 ?_;refine aH iF (J.ext u.aF) ?_;refine⟨λm x I=>∃k:Nat,x=hH (k:Int)/\m=ns.length-k/\k<=ns.length/\(∀y∈ns.take k,decide (y=s)=false)/\St w aZ [] I,⟨_,0,rfl,rfl,la _,ee,u⟩,?_⟩;rintro m _ I ⟨k,rfl,rfl,U,B,u⟩ _;refine aQ (aC (λV=>?_) λ_=>⟨fM (ng .i64) (ja (by rw[kE bM]at B;exact B)).symm,u.aF⟩);obtain⟨W,E⟩:=gx ns (i:=(k:Int).toNat) bM;exact aN iF J bM E (λ_ M=>aD gB (M.ext u.aF) (jB (aC (λG=>⟨fM (ng .i64) (l8 B E (ew G.symm)).symm,u.aF⟩) λG=>aK bM ⟨_,bM,k+1,rfl,rfl,bM,dW B E (ez λh=>G h.symm),u⟩)))
def C263(sv:Value)(ns:List ByteArray)(s:ByteArray)(w:World)(B:cZ (λ_=>True) w sv ns)(E:ns.length<=1048576):CR 263 [sv,.string s] w (λv w'=>v=.bool (ns.any λy=>decide (y=s))/\Ext w w'):=by
 have u:=St.start w;refine eZ Tryz.func263 ?_;exact aV Yz u (C225 _ _ _ _ (B.ext u.aF) bM) (λ_ _ u=>cQ ⟨vb (Cs _ _),u.aF⟩)
def C281(sv fv:Value)(xs:List ByteArray)(g:ByteArray->Bool)(w:World)(J:cZ (λ_=>True) w sv xs)(U:wi w fv g)(Z:xs.length<=1073741824):CR 281 [sv,fv] w (λv w'=>v=hH (si g xs)/\Ext w w'):=by
 obtain⟨g0,first,cap,rfl,W,Y⟩:=U;have u:=St.start w;refine eZ Tryz.func281 ?_;refine aH iF (J.ext u.aF) ?_;refine⟨λm x G=>∃k:Nat,x=hH (k:Int)/\m=xs.length-k/\k<=xs.length/\(∀y∈xs.take k,g y=false)/\St w aZ [] G,⟨_,0,rfl,rfl,la _,ee,u⟩,?_⟩;rintro m _ G ⟨k,rfl,rfl,hk,B,u⟩ _;refine aQ (aC (λjC=>?_) λ_=>⟨fM (ng .i64) (ja (by rw[kE bM]at B;exact B)).symm,u.aF⟩);obtain⟨V,E⟩:=gx xs (i:=(k:Int).toNat) bM;refine aN iF J bM E (λ_ O=>aD gB (O.ext u.aF) (gZ W (Y V G u.aF) ?_))
 rintro _ _ ⟨rfl,M⟩;have u:=u.ext M;exact aY (λI=>⟨fM (ng .i64) (l8 B E I).symm,u.aF⟩) (λI=>aK bM ⟨xs.length-(k+1),bM,k+1,rfl,rfl,bM,dW B E I,u⟩)
def C240(sv fv:Value)(xs:List ByteArray)(g:ByteArray->Bool)(w:World)(E:cZ (λ_=>True) w sv xs)(B:wi w fv g)(G:xs.length<=1073741824):CR 240 [sv,fv] w (λv w'=>v=.bool (xs.any g)/\Ext w w'):=by
 have u:=St.start w;refine eZ Tryz.func240 ?_;exact aV apx u (C281 _ _ _ _ _ (E.ext u.aF) (B.ext u.aF) bM) (λ_ _ u=>cQ ⟨vb (kR _ _),u.aF⟩)
def C264(lv:Value)(xs:List bZ)(w:World)(U:cZ (λ_=>True) w lv xs)(hn:xs.length<=1048576)(Z:fB xs=true):CR 264 [lv] w (λv w'=>kP (bH v (nS xs)) w w'):=by
 have u:=St.start w;refine eZ Tryz.func264 ?_;refine aV SU u (C185 _ _ _ (U.ext u.aF) bM) (λW he u=>bQ (aY (λM=>?_) λM=>?_))
 .rw[Z]at M;cases M
 refine aH g9 (U.ext u.aF) ?_;refine⟨λm J x W=>∃k:Nat,x=hH (k:Int)/\m=xs.length-k/\k<=xs.length/\St w aZ [bH J (nS (xs.take k))] W,⟨_,0,rfl,rfl,bM,u.eV (α:=ByteArray)⟩,?_⟩;rintro m J _ _ ⟨k,rfl,rfl,hk,u⟩ _;refine aQ (aC (λY=>?_) λY=>?_)
 .obtain⟨B,V⟩:=gx xs (i:=(k:Int).toNat) bM;refine⟨λE w'=>St w aZ [bH E (nR (nS (xs.take k)) B)] w',?_,?_⟩
  .have KT:=Db (xs.take k);rw[lY]at KT;refine aN g9 U bM V (λ_ E0=>aD rY (E0.ext u.aF) (aR u yl λJO _ u=>aJ (x:=B) u rY rfl rfl λ_ u=>⟨λE w'=>E=.bool (decide (B.op=2)&&!(nS (xs.take k)).any λy=>decide (y=B.name))/\St w aZ [bY JO (hZ B),bH J (nS (xs.take k))] w',aA fa (aB (v:=hH B.op) bO u.hb rfl (aG (aC (λ_=>aA gn (aB (v:=.string B.name) gB u.hb rfl (aV ahf u (C263 _ _ _ _ u.p1.dS bM) λ_ _ u=>bQ ⟨vb cJ,u⟩))) λ_=>⟨vb cJ,u⟩))),?_⟩))
   rintro _ _ ⟨rfl,u⟩ _;refine aY (λG=>?_) (λG=>?_)
   .refine aA gn (aB (v:=.string B.name) gB u.hb rfl (bD ([B.name]) u iF rfl rfl (dR rfl) λI _ u=>?_));have PR:=u.dS;refine bL u.p2 iF PR (by simp<;>omega) dC (λO _ u=>?_);have u:=u.p1.drop;rw[YW (by simpa using G)];exact u.p1.drop
   rw[YX (by simpa using G)];exact u.drop
  rintro Qe _ u _;exact aK bM ⟨_,bM,k+1,rfl,rfl,bM,by rw[MM (k:=k) V];exact u⟩
 rw[kE bM]at u;exact u.fresh
def JP{α:Type}[Flat α]{S:Nat->Prop}{w:World}{v:Value}{xs:List α}(h:cZ S w v xs):wF v=true:=by obtain⟨a,c,rfl,_⟩:=h;rfl
theorem U4(ns:List ByteArray)(xs:List bZ):(qz ns xs).length<=xs.length:=by
 unfold qz
 split
 .unfold Co
  cases h:zK xs with
  | none=>grind
  | some t=>
   rw[Ex.pN,<- Ex.cY,<- (vu h).2];omega
 grind
theorem C265(lv nv:Value)(xs:List bZ)(ns:List ByteArray)(i:Int)(t:Ex)(N:Nat)(w:World)(G:cZ (λ_=>True) w lv xs)(hN:cZ (λ_=>True) w nv ns)(hn:xs.length<=1048576)(B3:ns.length<=1048576)(E:B5 xs i t)(hNt:t.size<N):CR 265 [lv,hH i,nv] w (λv w'=>kP (bH v (t.steps ns)) w w'):=by
 obtain⟨B,V,J⟩:∃e,e=t.root/\xs[(i).toNat]?=some e:=⟨_,rfl,E.root.1⟩;have hri:=E.root.2;have hie:=E.end;have PM:=Ex.o9 E.2.1;rw[<- V]at PM;have Yi:=tY B.op;have hi0:=E.1;have hwk:=Qd (k:=B.op) bM;have u:=St.start w;refine py Tryz.func265 (pl:=awO) ?_;refine aK bM (aN g9 G bM J λ_ ij=>bU B.op fa ij rfl rfl λ_ uJ=>aD bO (uJ.ext u.aF) (aV Xn u (C267 _ _) λw1 he u=>?_));refine⟨λm O a x w1=>∃k:Nat,a=hH (i+1+qy t.eB k)/\x=hH (k:Int)/\m=t.eB.length-k/\k<=t.eB.length/\St w aZ [bH O (Yj ns t.eB k)] w1,⟨_,0,fM (ng .i64) (by simp[qy]),rfl,rfl,bM,u.eV (α:=oC)⟩,?_⟩
 rintro m O _ _ _ ⟨k,rfl,rfl,rfl,hk,u⟩ _;refine aQ (aC (λfu=>?_) λfu=>?_)
 .obtain⟨a,I⟩:=gx t.eB (i:=k) bM;have hka:=Ex.tZ E.2.1 (kp I);have Y:=E.kid I;have WC:=Y.end;have UQ:=a.rz;have Z:=D1 (ns:=ns) (ks:=t.eB) (k:=k);have Ym:=Ex.pN ns a;refine dT ahc u (C265 _ _ _ _ _ _ (N-1) _ (G.ext u.aF) (hN.ext u.aF) hn B3 Y bM) (λx24 _ cK u=>?_);have Qf:=u.dS;exact bL u.p1 tE Qf bM dC (λ_ _ u=>have u:=u.p1.drop;aV Yy u (C245 _ _ _ _ (G.ext u.aF) bM) λ_ _ u=>aK bM ⟨_,bM,k+1,fM (ng .i64) (by rw[WC.1,uK I];omega),rfl,rfl,bM,by rw[Mj I];exact u⟩)
 have Z:=D1 (ns:=ns) (ks:=t.eB) (k:=k);refine aN g9 G bM J (λ_ xt=>bU B.op fa xt rfl rfl λ_ q8=>have u:=u.drew;aD bO (q8.ext u.aF) (aN g9 G bM J λ_ xn=>bU B.n jj xn rfl rfl λ_ W=>aD bO (W.ext u.aF) (pop (EN _ _) (aR u Ju λCm _ u=>?_))));refine⟨eP bO (q8.ext u.aF),?_⟩;refine⟨eP bO (W.ext u.aF),?_⟩;refine aJ (x:=(⟨B.op,B.n⟩:oC)) u EJ rfl rfl (λ_ u=>⟨λw'=>St w aZ [bY Cm (hZ (⟨B.op,Ex.numOf ns B⟩:oC)),bH O (Yj ns t.eB k)] w',aA nA (aB (v:=hH ((⟨B.op,B.n⟩:oC).kind)) bO u.hb rfl (aG (aC (λU=>?_) λU=>?_))),?_⟩)
 .refine aN g9 G bM J (λ_ Bb=>bU B.name gn Bb rfl rfl λ_ Mm=>aD gB (Mm.ext u.aF) (aV Yz u (C225 _ _ _ _ (hN.ext u.aF) bM) λ_ he u=>aA qu (aW u bO (dR rfl) (rfl) λ_ u=>?_)));have u:=u.enc (cs':=hZ ({ (⟨B.op,B.n⟩:oC)with n:=(cU ns B.name)}:oC)) rfl;have M:Ex.numOf ns B=cU ns B.name:=ej U;rw[<- M]at u;exact u
 .have M:Ex.numOf ns B=B.n:=ei U;rw[<- M]at u;exact u
 rintro _ u _;refine aD EJ u.At (bD ([(⟨B.op,Ex.numOf ns B⟩:oC)]) u tE rfl rfl (dR rfl) λapJ _ u=>?_);have Qg:=u.dS;refine bL u.p2 tE Qg (by rw[Z,l0];have:(t.steps ns).length=t.size:=Ex.pN ns t;rw[Ex.vt,kU,l0,<- show k=t.eB.length from bM]at this;omega) dC (λapK _ u=>?_);have u:=u.p1.drop;rw[Ex.vt,<- show k=t.eB.length from bM,<- V];exact u.p1.drop.fresh
termination_by N
decreasing_by all_goals omega
def C262(s:ByteArray)(b2:Nat)(B:Value)(ns:List ByteArray)(w:World)(hc:Cell w b2 0 B)(E:cZ (λ_=>True) w B ns)(G:ns.length<=1048576):CR 262 [.string s,.pointer (some ⟨b2,0,none⟩)] w (λv w'=>v=.bool (!ns.any λy=>decide (y=s))/\Ext w w'):=by
 have u:=St.start w;refine eZ Tryz.func262 ?_;exact bX je (hc.ext u.aF) (aV ahf u (C263 _ _ _ _ (E.ext u.aF) bM) λ_ _ u=>bQ ⟨rfl,u.aF⟩)
def C218(lv J:Value)(xs:List bZ)(ns:List ByteArray)(w:World)(O:cZ (λ_=>True) w lv xs)(I:cZ (λ_=>True) w J ns)(hn:xs.length<=1048576)(Y:ns.length<=1048576):CR 218 [lv,J] w (λv w'=>∃s,v=.tuple #[s,hH (kT ns xs)]/\kP (bH s (qz ns xs)) w w'):=by
 have u:=St.start w;refine ad1 _ _ _ _ ?_;unfold S218;refine nx u (JP I) (λW w1 u=>aV SU u (C185 _ _ _ (O.ext u.aF) bM) λ_ he u=>bQ (aY (λG=>?_) λG=>?_))
 .have h8:kT ns xs=8:=aed (by simpa using G);refine⟨_,by rw[h8],?_⟩;rw[MN (by rw[h8];decide)];exact(u.drop.eV (α:=oC)).fresh
 have B:fB xs=true:=by simpa using G
 have KT:=Db xs;have V:=aee (ns:=ns) B;refine dT aps u (C264 _ _ _ (O.ext u.aF) hn B) (λx12 _ cK u=>?_)
 have E:wi _ (.func (.func 262) [].toArray [.pointer (some ⟨W,0,none⟩)].toArray) (λs=>!ns.any λy=>decide (y=s)):=
  ⟨262,[],_,rfl,apu,λy w1 Z=>C262 y W J ns w1 ((u.p1.hb.cell rfl).ext Z) ((I.ext u.aF).ext Z) Y⟩
 refine aV ahe u (C240 _ _ _ _ _ u.dS E bM) (λ_ he u=>aY (λM=>?_) λM=>?_)
 .have U:kT ns xs=9:=by rw[V,ej M]
  refine⟨_,by rw[U],?_⟩;rw[MN (by rw[U];decide)];exact(u.drop.drop.eV (α:=oC)).fresh
 refine aB je u.p1.hb rfl ?_;have h0:kT ns xs=0:=by rw[V,ei (by simpa using M)]
 have Yl:=zL B;obtain⟨t,ht⟩:=B5.of (xs:=xs) (i:=0) bM;have hz:=ht.zero Yl;refine dT ahc u (C265 _ _ _ _ _ t (t.size+1) _ (O.ext u.aF) (I.ext u.aF) hn Y ht bM) (λU5 _ cK u=>?_);refine⟨U5,by rw[h0],?_⟩;unfold qz Co;rw[ej h0,hz.2];exact u.p1.drop.p1.drop.fresh
def C143(lv I E:Value)(xs:List bZ)(ns:List ByteArray)(nums:List Int)(w:World)(V:cZ (λ_=>True) w lv xs)(G:cZ (λ_=>True) w I ns)(M:cZ (λ_=>True) w E nums)(Z:xs.length<=1048576)(W:ns.length<=1048576):CR 143 [lv,I,E] w (λv w'=>v=.tuple #[hH (qO ns nums xs).1,hH (qO ns nums xs).2]/\Ext w w'):=by
 have u:=St.start w;refine ad2 _ _ _ _ _ ?_;unfold S143;refine aH iF (G.ext u.aF) (aH cR (M.ext u.aF) (bV (aC (λU=>?_) λU=>?_)))
 .refine⟨?_,u.aF⟩;unfold qO;rw[ei bM]
 refine dO apt (C218 _ _ _ _ _ (V.ext u.aF) (G.ext u.aF) bM bM) ?_;rintro J _ ⟨Yd,rfl,O⟩;have u:=u.made O;refine aO rfl (aO rfl (bV (aC (λB=>?_) λB=>?_)))
 .refine⟨?_,u.aF⟩;unfold qO;rw[ej bM,ei B]
 have LC:=U4 ns xs;refine aV anX u (C219 _ _ _ _ _ u.dS (M.ext u.aF) bM) (λ_ Y u=>aO rfl (aO rfl ?_));refine⟨?_,u.aF⟩;unfold qO;rw[ej bM,ej (by simpa using B)]
variable (w:World) (K:Value->g7)
def awR:dJ:=λi=>match i with
 | 9=>(.of [(0,[]),(1,[]),(2,[]),(3,[]),(4,[]),(6,[]),(7,[]),(5,[7]),(8,[]),(9,[]),(10,[]),(11,[]),(12,[]),(13,[]),(15,[]),(16,[]),(14,[16]),(17,[]),(18,[]),(19,[]),(20,[]),(21,[]),(22,[]),(24,[]),(25,[]),(23,[25]),(26,[]),(27,[]),(28,[]),(29,[]),(30,[]),(31,[]),(33,[]),(34,[]),(32,[34]),(35,[]),(36,[]),(37,[]),(38,[])])
 | _=>.nil
def S284(B mg:Value):Prop:=
 oN (λZ Y E a=>∀_:Env,
 lN 141 B λb=>bA .lss 3 E b λc=>cV c (iA 141 B E λd=>lA 193 d a λe=>aL 193 a λf g=>sA 193 f e g λh=>bB .add 3 E (i 1) λj=>fA 193 f 6 λk=>lA 3 k h λl=>
 bA .add 3 j l λn=>fA 193 f 7 λo=>lA 3 o h λp=>bA .add 3 n p λq=>eS (λK2=>fA 193 f 0 λr=>lA 3 r h λs=>bB .eql 3 s (i 11) λt=>cV t (K2 tt h) (fA 193 f 0 λu=>
 lA 3 u h λv=>bB .eql 3 v (i 12) λx=>K2 x h)) (λSZ y=>∀_:Env,
 eS (λG=>fA 193 f 6 λz=>lA 3 z y λaa=>bB .lss 3 aa (i 0) λab=>cV ab (G tt y) (fA 193 f 7 λac=>lA 3 ac y λad=>bB .lss 3 ad (i 0) λae=>cV ae (G tt y) (
 fA 193 f 6 λaf=>lA 3 af y λag=>lN 141 B λah=>bA .gtr 3 ag ah λai=>cV ai (G tt y) (fA 193 f 7 λaj=>lA 3 aj y λak=>lN 141 B λal=>bA .gtr 3 ak al λam=>
 cV am (G tt y) (lN 141 B λan=>bA .gtr 3 q an λao=>G ao y))))) (λap O=>∀_:Env,
 cV ap (K (i (-1)) O) (eS (λM=>eS (λK5=>eT g6 (Op.unary .not SZ) λar=>cV ar (fA 193 f 6 λV=>lA 3 V O λau=>bB .gtr 3 au (i 0) λav=>K5 av O) (
 K5 ff O)) (λaw I=>∀_:Env,
 cV aw (M aw I) (eS (λK6=>fA 193 f 0 λay=>lA 3 ay I λaz=>bB .neq 3 az (i 11) λa0=>cV a0 (fA 193 f 7 λa1=>lA 3 a1 I λa2=>bB .gtr 3 a2 (i 0) λa3=>K6 a3 I) (
 K6 ff I)) (λa4 J=>∀_:Env,
 cV a4 (M a4 J) (fA 193 f 0 λa6=>lA 3 a6 J λa7=>bB .eql 3 a7 (i 13) λa8=>cV a8 (bB .eql 3 mg (i 0) λa9=>M a9 J) (M ff J)))))) (λba U=>∀_:Env,
 cV ba (K (i (-1)) U) (eS (λK7=>cV SZ (fA 193 f 0 λbc=>lA 3 bc U λbd=>bB .eql 3 bd (i 12) λbe=>cF 302 [be] U λbf bg=>bA .add 3 mg bf λbh=>bB .add 3 E (i 1) λbi=>
 bB .add 3 E (i 1) λbj=>fA 193 f 6 λbk=>lA 3 bk (drew bg) λbl=>bA .add 3 bj bl λbm=>eT g6 (nT 141 B (some bi) (some bm) none) λbn=>bB .add 3 E (i 1) λbo=>
 fA 193 f 6 λbp=>lA 3 bp (drew bg) λbq=>bA .add 3 bo bq λbr=>eT g6 (nT 141 B (some br) (some q) none) λbs=>cF 284 [bn,bh] (drew bg) λbt bu=>
 kA 3 bp bq bu (cF 284 [bs,bh] bu λbv bw=>eS (λK8=>bB .eql 3 bt (i (-1)) λbx=>cV bx (K8 tt bw) (bB .eql 3 bv (i (-1)) λbz=>K8 bz bw)) (λb0 b1=>∀_:Env,
 cV b0 (K (i (-1)) b1) (bB .add 3 bt (i 1) λb2=>bB .add 3 bv (i 1) λb3=>eT g6 (Builtin.max_ #[3,3,3] 3 [Y,b2,b3].toArray) λb4=>K7 b4 b1)))) (K7 Y U)) (λW b5=>∀_:Env,
 Z W q b5))))))) (K Y a)) (λZ=>Z (i 0) (i 0) w)
def awS:dJ:=λi=>match i with
 | 15=>(.of [(0,[]),(1,[]),(2,[]),(3,[]),(4,[]),(5,[]),(6,[]),(7,[]),(8,[]),(9,[]),(11,[]),(12,[]),(13,[]),(14,[]),(15,[]),(16,[]),(17,[]),(18,[]),(19,[]),(10,[15]),(20,[]),(21,[]),(22,[])])
 | _=>.nil
theorem aef(B u:Value)(h:S284 w K B u):CR 284 [B,u] w K:=
 qm 131 awS 16 [.tmp 4] Tryz.func284 h
theorem apL:PL 310:=dL Tryz.func310
theorem apM:PL 283:=dL Tryz.func283
theorem MP:PL 311:=dL Tryz.func311
theorem ahn:PL 313:=dL Tryz.func313
theorem aho:PL 314:=dL Tryz.func314
theorem YY:PL 284:=dL Tryz.func284
theorem apN:PL 241:=dL Tryz.func241
theorem apO:PL 108:=dL Tryz.func108
theorem apP:PL 177:=dL Tryz.func177
theorem apQ:PL 179:=dL Tryz.func179
theorem apR:PL 182:=dL Tryz.func182
theorem apS:PL 183:=dL Tryz.func183
theorem YZ:PL 178:=dL Tryz.func178
theorem apT:PL 233:=dL Tryz.func233
theorem ahp:PL 181:=dL Tryz.func181
theorem apU:PL 239:=dL Tryz.func239
theorem Y0:PL 184:=dL Tryz.func184
theorem apV:PL 282:=dL Tryz.func282
theorem apW:PL 309:=dL Tryz.func309
theorem apX:PL 232:=dL Tryz.func232
theorem apY:PL 279:=dL Tryz.func279
theorem ahq:PL 186:=dL Tryz.func186
theorem apZ:PL 247:=dL Tryz.func247
theorem Y3:PL 187:=dL Tryz.func187
theorem ap0:PL 248:=dL Tryz.func248
theorem ap1:PL 188:=dL Tryz.func188
theorem ap2:PL 249:=dL Tryz.func249
end Go.Proofs.YtpdlpabnlkofmaaGreatDoor
namespace Go.Proofs.YtpdlpabnlkofmaaGreatDoor
open Go.Fw
variable (w:World) (K:Value->g7)
theorem ap3:PL 336:=dL Tryz.func336
theorem ap4:PL 312:=dL Tryz.func312
end Go.Proofs.YtpdlpabnlkofmaaGreatDoor
namespace Go.Proofs.YtpdlpabnlkofmaaGreatDoor
open Go.Fw
structure K15 where
instance:Flat K15 where
 agg:=true
 sz:=15
 enc _:=US.map FR
 val _:=.agg (US.map FR).toArray
 pos:=dC
 len _:=rfl
 one a v h:=by grind[wF]
 nV _ _:=rfl
 nW h:=by cases h
def C336(w:World):CR 336 [] w (λv w'=>v=hM (⟨⟩:K15)/\Ext w w'):=by
 have u:=St.start w;refine eZ Tryz.func336 ?_;exact aR u adt (λ_ _ u=>pop (v:=hM (⟨⟩:K15)) (by kernel_rfl) (aJ (x:=(⟨⟩:K15)) u agO rfl rfl λ_ u=>aD (x:=(⟨⟩:K15)) agO u.At ⟨rfl,u.drop.aF⟩))
theorem C310(k:Int)(w:World):CR 310 [hH k] w (λv w'=>v=.string (fE k)/\Ext w w'):=by
 have u:=St.start w;refine eZ Tryz.func310 ?_;refine⟨λB w'=>B=.bool (decide (k<0\/15<=k))/\w'=w,?_,?_⟩
 .exact aQ (aC (λc=>⟨vb (ew (.inl c)).symm,rfl⟩) λ_=>cQ ⟨vb (e8.2 bM),rfl⟩)
 rintro _ _ ⟨rfl,rfl⟩ _;refine aC (λ_=>⟨fM FR (by unfold fE;rw[ej bM]),u.aF⟩) (λc=>aV ap3 u (C336 _) λ_ E u=>?_);obtain⟨n,rfl⟩:∃n:Nat,k=n:=⟨k.toNat,bM⟩;refine pop (v:=.string (fE n)) ?_ ⟨rfl,u.aF⟩
 match n,c with
 | 0,_=>exact(by kernel_rfl:pr g6 (u3 364 (hM K15.mk) (hH ((0:Nat):Int)))=some (.string (fE ((0:Nat):Int))))
 | 1,_=>exact(by kernel_rfl:pr g6 (u3 364 (hM K15.mk) (hH ((1:Nat):Int)))=some (.string (fE ((1:Nat):Int))))
 | 2,_=>exact(by kernel_rfl:pr g6 (u3 364 (hM K15.mk) (hH ((2:Nat):Int)))=some (.string (fE ((2:Nat):Int))))
 | 3,_=>exact(by kernel_rfl:pr g6 (u3 364 (hM K15.mk) (hH ((3:Nat):Int)))=some (.string (fE ((3:Nat):Int))))
 | 4,_=>exact(by kernel_rfl:pr g6 (u3 364 (hM K15.mk) (hH ((4:Nat):Int)))=some (.string (fE ((4:Nat):Int))))
 | 5,_=>exact(by kernel_rfl:pr g6 (u3 364 (hM K15.mk) (hH ((5:Nat):Int)))=some (.string (fE ((5:Nat):Int))))
 | 6,_=>exact(by kernel_rfl:pr g6 (u3 364 (hM K15.mk) (hH ((6:Nat):Int)))=some (.string (fE ((6:Nat):Int))))
 | 7,_=>exact(by kernel_rfl:pr g6 (u3 364 (hM K15.mk) (hH ((7:Nat):Int)))=some (.string (fE ((7:Nat):Int))))
 | 8,_=>exact(by kernel_rfl:pr g6 (u3 364 (hM K15.mk) (hH ((8:Nat):Int)))=some (.string (fE ((8:Nat):Int))))
 | 9,_=>exact(by kernel_rfl:pr g6 (u3 364 (hM K15.mk) (hH ((9:Nat):Int)))=some (.string (fE ((9:Nat):Int))))
 | 10,_=>exact(by kernel_rfl:pr g6 (u3 364 (hM K15.mk) (hH ((10:Nat):Int)))=some (.string (fE ((10:Nat):Int))))
 | 11,_=>exact(by kernel_rfl:pr g6 (u3 364 (hM K15.mk) (hH ((11:Nat):Int)))=some (.string (fE ((11:Nat):Int))))
 | 12,_=>exact(by kernel_rfl:pr g6 (u3 364 (hM K15.mk) (hH ((12:Nat):Int)))=some (.string (fE ((12:Nat):Int))))
 | 13,_=>exact(by kernel_rfl:pr g6 (u3 364 (hM K15.mk) (hH ((13:Nat):Int)))=some (.string (fE ((13:Nat):Int))))
 | 14,_=>exact(by kernel_rfl:pr g6 (u3 364 (hM K15.mk) (hH ((14:Nat):Int)))=some (.string (fE ((14:Nat):Int))))
 | n+15,c=>exact absurd (.inr bM) c
def ajl:List Nat:=[107,114,110,101,102]
def ap5(c:Nat):ByteArray:=⟨#[c.toUInt8]⟩
def C312(k:Int)(c:Nat)(hc:c∈ajl)(w:World):CR 312 [.string (fE k),.string (ap5 c)] w (λv w'=>v=.bool (eU (fE k) c)/\Ext w w'):=by
 have u:=St.start w;refine eZ Tryz.func312 ?_;refine aV ahl u (C337 (fE k) c.toUInt8 _) (λ_ B u=>cQ ?_);refine⟨vb ?_,u.aF⟩;have h1:=YJ (iN (fE k)) c.toUInt8;have h2:c.toUInt8.toNat=c:=(by decide:∀c∈ajl,c.toUInt8.toNat=c) c hc;unfold eU;rw[show(λb:UInt8=>decide ((b.toNat:Int)=(c:Int)))=λb=>decide (b=c.toUInt8)from funext λ_=>e8.2 ⟨λ_=>UInt8.toNat_inj.1 bM,λh=>by rw[h,h2]⟩];exact(Bool.eq_iff_iff.2 (decide_eq_true_iff.trans h1))
def C311(k:Int)(c b2:Nat)(w:World)(hc:Cell w b2 0 (.string (fE k)))(B:c∈ajl):CR 311 [.string (ap5 c),.pointer (some ⟨b2,0,none⟩)] w (λv w'=>v=.bool (eU (fE k) c)/\Ext w w'):=by
 have u:=St.start w;refine eZ Tryz.func311 ?_;exact bX gB (hc.ext u.aF) (aV ap4 u (C312 k c B _) λ_ _ u=>⟨rfl,u.aF⟩)
def C313(b:Bool)(s:ByteArray)(w:World):CR 313 [.bool b,.string s] w (λv w'=>v=.bool ((b&&gQ s)||(!b&&decide (s=⟨#[]⟩)))/\Ext w w'):=by
 have u:=St.start w;refine eZ Tryz.func313 ?_;refine⟨λB w'=>B=.bool ((b&&gQ s)||(!b&&decide (s=⟨#[]⟩)))/\St w aZ [] w',aY (λ_=>aV Mu u (C180 _ _) λ_ _ u=>aY (λ_=>⟨vb cJ,u⟩) λ_=>bQ (aY (λ_=>jB ⟨vb cJ,u⟩) λ_=>⟨vb cJ,u⟩)) (λ_=>bQ (aY (λ_=>jB ⟨vb cJ,u⟩) λ_=>⟨vb cJ,u⟩)),?_⟩;rintro _ _ ⟨rfl,u⟩ _;exact⟨rfl,u.aF⟩
def C314(b:Bool)(lv:Value)(xs:List bZ)(w:World)(B:cZ (λ_=>True) w lv xs)(G:xs.length<=1048576):CR 314 [.bool b,lv] w (λv w'=>v=.bool ((b&&fB xs)||(!b&&decide (xs.length=0)))/\Ext w w'):=by
 have u:=St.start w;refine eZ Tryz.func314 ?_;refine⟨λE w'=>E=.bool ((b&&fB xs)||(!b&&decide (xs.length=0)))/\St w aZ [] w',aY (λ_=>aV SU u (C185 _ _ _ (B.ext u.aF) bM) λ_ _ u=>aY (λ_=>⟨vb cJ,u⟩) λ_=>bQ (aY (λ_=>aH g9 (B.ext u.aF) (aG ⟨vb cJ,u⟩)) λ_=>⟨vb cJ,u⟩)) (λ_=>bQ (aY (λ_=>aH g9 (B.ext u.aF) (aG ⟨vb cJ,u⟩)) λ_=>⟨vb cJ,u⟩)),?_⟩;rintro _ _ ⟨rfl,u⟩ _;exact⟨rfl,u.aF⟩
theorem MQ{x:bP}{u:Bool}(h:u=(if eU (fE x.kind) 107=true then decide (1<=x.n/\x.n<=8)else decide (x.n=0))) :
  (!(decide (1<=x.kind/\x.kind<15/\0<=x.at_/\x.at_<=4000)&&u)||(!(eU (fE x.kind) 114&&gQ x.eD||!eU (fE x.kind) 114&&decide (x.eD=⟨#[]⟩))||(!(eU (fE x.kind) 110&&gQ x.name||!eU (fE x.kind) 110&&decide (x.name=⟨#[]⟩)) ||
  (!(eU (fE x.kind) 101&&fB x.e||!eU (fE x.kind) 101&&decide (x.e.length=0))||!(eU (fE x.kind) 102&&fB x.f||!eU (fE x.kind) 102&&decide (x.f.length=0)))))) = !m9 x:=by
 subst h
 have G:gQ x.eD=true->¬ x.eD=⟨#[]⟩:=λh e=>by rw[e]at h;exact absurd h dC
 have E:gQ x.name=true->¬ x.name=⟨#[]⟩:=λh e=>by rw[e]at h;exact absurd h dC
 have I:fB x.e=true->¬ x.e.length=0:=λh e=>by rw[ta.1 e]at h;exact absurd h dC
 have B:fB x.f=true->¬ x.f.length=0:=λh e=>by rw[ta.1 e]at h;exact absurd h dC
 unfold m9
 cases h1:eU (fE x.kind) 114<;>cases h2:eU (fE x.kind) 110<;>cases h3:eU (fE x.kind) 101<;>cases h4:eU (fE x.kind) 102<;>cases h5:eU (fE x.kind) 107<;>simp<;>grind
def C283(x:bP)(Z:bE)(w:World)(hx:mv w Z x)(O:x.e.length<=1048576)(U:x.f.length<=1048576):CR 283 [hM Z] w (λv w'=>v=.bool (!m9 x)/\Ext w w'):=by
 obtain⟨M,Y,rfl,Mn,HL⟩:=hx;have u:=St.start w;refine py Tryz.func283 (pl:=awR) ?_;refine cH u (λI _ u=>aA dN (aB (v:=hH x.kind) bO u.hb rfl (aV apL u (C310 _ _) λ_ B u=>gG u agM rfl λE _ u=>aW u gB (dR rfl) (rfl) λ_ u=>aA jK (aB (v:=hH x.n) bO u.p1.hb rfl (aG ⟨λG w'=>G=.bool (if eU (fE x.kind) 107=true then decide (1<=x.n/\x.n<=8)else decide (x.n=0))/\St w aZ [bY E [.string (fE x.kind)],bY I (hZ (⟨x.kind,x.eD,x.name,M,Y,x.n,x.body,x.et,x.at_⟩:bE))] w',?_,?_⟩)))))
 .refine gZ MP (C311 x.kind 107 E _ (u.hb.cell rfl) dC) ?_;rintro _ _ ⟨rfl,B⟩;have u:=u.ext B;exact aY (λ_=>aA jK (aB (v:=hH x.n) bO u.p1.hb rfl (cQ (aC (λ_=>aA jK (aB (v:=hH x.n) bO u.p1.hb rfl (gA ⟨vb cJ,u⟩))) λ_=>⟨vb cJ,u⟩)))) (λ_=>⟨vb cJ,u⟩)
 rintro _ _ ⟨rfl,u⟩ _;refine⟨λG w'=>G=.bool (decide (1<=x.kind/\x.kind<15/\0<=x.at_/\x.at_<=4000)&&(if eU (fE x.kind) 107=true then decide (1<=x.n/\x.n<=8)else decide (x.n=0)))/\St w aZ [bY E [.string (fE x.kind)],bY I (hZ (⟨x.kind,x.eD,x.name,M,Y,x.n,x.body,x.et,x.at_⟩:bE))] w',?_,?_⟩
 .refine aA dN (aB (v:=hH x.kind) bO u.p1.hb rfl (cQ ?_));exact aC (λ_=>aA dN (aB (v:=hH x.kind) bO u.p1.hb rfl (aQ (aC (λ_=>aA lJ (aB (v:=hH x.at_) bO u.p1.hb rfl (cQ (aC (λ_=>aA lJ (aB (v:=hH x.at_) bO u.p1.hb rfl (gA (aC (λ_=>⟨vb cJ,u⟩) λ_=>⟨vb cJ,u⟩)))) λ_=>⟨vb cJ,u⟩)))) λ_=>⟨vb cJ,u⟩)))) (λ_=>⟨vb cJ,u⟩)
 rintro _ _ ⟨rfl,u⟩ _;refine⟨λG w'=>G=.bool (!m9 x)/\St w aZ [bY E [.string (fE x.kind)],bY I (hZ (⟨x.kind,x.eD,x.name,M,Y,x.n,x.body,x.et,x.at_⟩:bE))] w',bQ (aY (λ_=>have u:=u.drew;⟨vb (by rw[<- MQ rfl];grind),u⟩) λxu=>?_),?_⟩
 .refine aA iG (have u:=u.drew;aB (v:=.string x.eD) gB u.p1.hb rfl (gZ MP (C311 x.kind 114 E _ (u.hb.cell rfl) dC) ?_));rintro _ _ ⟨rfl,B⟩;have u:=u.ext B;refine⟨aI gB (u.p1.hb.cell rfl),?_⟩;refine gZ ahn (C313 _ x.eD _) ?_;rintro _ _ ⟨rfl,B⟩;have u:=u.ext B;refine bQ (aY (λ_=>⟨vb (by rw[<- MQ rfl];grind),u⟩) λahr=>aA gh (aB (v:=.string x.name) gB u.p1.hb rfl (gZ MP (C311 x.kind 110 E _ (u.hb.cell rfl) dC) ?_)));rintro _ _ ⟨rfl,B⟩;have u:=u.ext B;refine⟨aI gB (u.p1.hb.cell rfl),?_⟩;refine gZ ahn (C313 _ x.name _) ?_
  rintro _ _ ⟨rfl,B⟩;have u:=u.ext B;refine bQ (aY (λ_=>⟨vb (by rw[<- MQ rfl];grind),u⟩) λV=>aA iT (aB jH u.p1.hb rfl ?_));have W:=DL.flat Mn;refine gZ MP (C311 x.kind 101 E _ (u.hb.cell rfl) dC) ?_;rintro _ _ ⟨rfl,B⟩;have u:=u.ext B;refine⟨aI jH (u.p1.hb.cell rfl),?_⟩;refine gZ aho (C314 _ _ x.e _ (W.ext u.aF) O) ?_;rintro _ _ ⟨rfl,B⟩;have u:=u.ext B;refine bQ (aY (λ_=>⟨vb (by rw[<- MQ rfl];grind),u⟩) λag8=>aA j3 (aB jH u.p1.hb rfl ?_));have J:=DL.flat HL;refine gZ MP (C311 x.kind 102 E _ (u.hb.cell rfl) dC) ?_
  rintro _ _ ⟨rfl,B⟩;have u:=u.ext B;refine⟨aI jH (u.p1.hb.cell rfl),?_⟩;refine gZ aho (C314 _ _ x.f _ (J.ext u.aF) U) ?_;rintro _ _ ⟨rfl,B⟩;have u:=u.ext B;exact bQ ⟨vb (by rw[<- MQ rfl];grind),u⟩
 rintro _ _ ⟨rfl,u⟩ _;exact⟨rfl,u.drop.drop.aF⟩
def Ct{l:List bZ}(h:fB l=true):∀y∈l,0<=y.at_:=by
 intro y B
 unfold fB at h
 have u:l.any lg=false:=cJ
 rw[A3]at u
 have:=u y B
 unfold lg at this
 grind
structure ap6(x:bP):Prop where
 kind:1<=x.kind/\x.kind<=14
 at0:0<=x.at_/\x.at_<=4000
 e:(eU (fE x.kind) 101=true/\fB x.e=true)\/(eU (fE x.kind) 101=false/\x.e=[])
 f:(eU (fE x.kind) 102=true/\fB x.f=true)\/(eU (fE x.kind) 102=false/\x.f=[])
 eD:(eU (fE x.kind) 114=true/\gQ x.eD=true)\/(eU (fE x.kind) 114=false/\x.eD=⟨#[]⟩)
 name:(eU (fE x.kind) 110=true/\gQ x.name=true)\/(eU (fE x.kind) 110=false/\x.name=⟨#[]⟩)
 n:(eU (fE x.kind) 107=true/\1<=x.n/\x.n<=8)\/(eU (fE x.kind) 107=false/\x.n=0)
def yt{x:bP}(h:m9 x=true):ap6 x:=by
 unfold m9 at h
 simp only[n3,sl,Bool.or_eq_false_iff,decide_eq_false_iff_not,bne_eq_false_iff_eq,Bool.and_eq_false_iff,Bool.not_eq_false',vy]at h
 obtain⟨⟨⟨h1,h2⟩,h3⟩,h4⟩:=h
 constructor
 .omega
 .omega
 .grind
 .grind
 .grind
 .grind
 grind
def aeh{x:bP}(h:m9 x=true):0<=x.at_/\(∀y∈x.e,0<=y.at_)/\(∀y∈x.f,0<=y.at_):=by
 have h:=yt h
 refine⟨h.at0.1,?_,?_⟩
 .rcases h.e with h|h
  .exact Ct h.2
  grind
 rcases h.f with h|h
 .exact Ct h.2
 grind
theorem ajm:eU (fE 12) 107=true:=dC
theorem lx{l:List bP}(h:pO l=true):l.length<=40/\(∀x∈l,m9 x=true)/\∃t:Bk,l=t.flat/\t.str/\t.ok 0=true/\t.depth<=12:=by
 unfold pO at h
 simp only[n3,decide_eq_true_eq,sl]at h
 obtain⟨⟨h1,h2⟩,h3⟩:=h
 rw[A3]at h2
 refine⟨h1,λx B=>cJ,?_⟩
 unfold fC at h3
 cases hb:tf l with
 | none=>grind
 | some t=>
  rw[hb]at h3
  obtain⟨E,u⟩:=nZ hb
  grind
structure PF(p:cA):Prop where
 lines:∀l∈p.lines,l≠[]/\∀c∈l,iP 4294967296 c=false
 iO:∀c∈p.iO,iP 4294967296 c=false
 eI:∀c∈p.eI,iP 0 c=false
 th:∀t∈p.threads,mz true t=false
 rc:∀t∈p.recover,mz false t=false
 cl:∀c∈p.eb,0<=c.at_/\fB c.e=true
 one:p.recover.length<=1
def qC{p:cA}(h:km p=true):PF p:=by
 unfold km n6 nI at h
 simp only[n3,sl,A3,decide_eq_true_eq]at h
 obtain⟨⟨h1,h2⟩,⟨⟨h3,h4⟩,h5⟩,h6⟩:=h
 refine⟨λl u=>?_,λc hc=>cJ,λc hc=>cJ,λt ht=>cJ,λt ht=>cJ,λc hc=>?_,h6⟩
 .have:=h1 l u
  unfold nQ n6 at this
  grind
 have:=h2 c hc
 unfold lR rA at this
 grind
def zQ{nb:Bool}{t:cM}(h:mz nb t=false):0<=t.at_/\pO t.body=true/\(∀s∈t.dQ,gQ s=true)/\gQ t.name=nb:=by
 unfold mz sq rA at h
 grind
def zR{m:Int}{c:cI}(h:iP m c=false):0<=c.at_/\gQ c.name=true/\0<=c.n/\c.n<=m:=by
 unfold iP rA at h
 grind
def gu(p:cA):List cM:=p.threads++p.recover
def PF.qP{p:cA}(h:PF p){t:cM}(ht:t∈gu p):0<=t.at_/\pO t.body=true/\∀s∈t.dQ,gQ s=true:=by
 unfold gu at ht
 rcases oF.1 ht with ht|ht
 .have:=zQ (h.th t ht);grind
 have:=zQ (h.rc t ht);grind
def fm(p:cA):List Int:=(iW p).map cI.n
def eN(p:cA):Int:=(p.lines.flatten.length:Int)
def Y4(p:cA):((iW p).length:Int)-p.iO.length=eN p:=by unfold iW eN;rw[kU];omega
def cX(p:cA):List ByteArray:=(iW p).map cI.name
def cL(p:cA):List ByteArray:=p.eI.map cI.name
def jm:List (List cI)->Int->Int->Int
 | [],i,a=>i+a
 | l::r,i,a=>if a<l.length then i else jm r (i+1) (a-l.length)
def pB(p:cA)(c:Int):Int:=if c<0\/(iW p).length<=c then -1 else jm p.lines 0 c
def pb(l:List bZ)(ns:List ByteArray):Bool:=l.any λx=>decide (x.op=2)&&decide (cU ns x.name<0)
def q9(x:bP)(n:Int):Int:=if x.kind=12 then n*x.n else n
def mC:Bk->Int->Bool
 | .nil,_=>false
 | .cons x a b r,n=>decide (64<q9 x n)||(mC a (q9 x n)||mC b (q9 x n))||mC r n
def Bk.app:Bk->Bk->Bk
 | .nil,t=>t
 | .cons x a b r,t=>.cons x a b (r.app t)
theorem Bk.Bi(a b:Bk):(a.app b).flat=a.flat++b.flat:=by
 induction a with
 | nil=>rfl
 | cons x c d r _ _ u=>grind[flat,app]
theorem Bk.S0{a b:Bk}(B:a.str)(hb:b.str):(a.app b).str:=by
 induction a with
 | nil=>exact hb
 | cons x c d r _ _ u=>
  grind[str,app]
theorem HU(a b:Bk)(n:Int):mC (a.app b) n=(mC a n||mC b n):=by
 induction a with
 | nil=>simp[Bk.app,mC]
 | cons x c d r _ _ u=>simp only[Bk.app,mC,u,Bool.or_assoc]
def re(l:List bP):Bool:=match tf l with|some t=>mC t 1|none=>false
theorem vw{t:Bk}(h:t.str):re t.flat=mC t 1:=by unfold re;rw[rM h]
def fN(p:cA):List cI:=iW p++p.eI++p.threads.map (λt=>⟨t.name,0,t.at_⟩)
def D3(l:List cI)(j:Nat):Bool:=match l[j]? with|some c=>decide (cU (l.map cI.name) c.name<j)|none=>false
def kq(l:List cI):Bool:=(wx l.length).any (D3 l)
def S1(p:cA)(rs:List ByteArray)(j:Nat):Bool:=match rs[j]? with|some s=>decide (cU rs s<j)||decide (0<=cU (cX p) s)||decide (0<=cU (cL p) s)|none=>false
def uO(p:cA)(rs:List ByteArray):Bool:=(wx rs.length).any (S1 p rs)
theorem MS{f:Nat->Bool}{n:Nat}(h:∀j,j<n->f j=false):(wx n).any f=false:=by
 grind
theorem MT{f:Nat->Bool}{n j:Nat}(u:j<n)(h:f j=true):(wx n).any f=true:=v7.2 ⟨j,Lo.2 u,h⟩
def S2{f:Nat->Bool}{k:Nat}(h:∀j,j<k->f j=false)(B:f k=false):∀j,j<k+1->f j=false:=λj u=>by
 grind
def nc(p:cA)(rs:List ByteArray)(x:bP):Bool:=
 (decide (¬ x.eD=⟨#[]⟩)&&decide (cU rs x.eD<0)) ||
 ((decide (x.kind=2)||decide (x.kind=3)||decide (x.kind=4))&&decide (cU (cX p) x.name<0)) ||
 ((decide (x.kind=5)||decide (x.kind=6))&&(decide (cU (cX p) x.name<0)||decide (eN p<=cU (cX p) x.name))) ||
 ((decide (x.kind=9)||decide (x.kind=10))&&decide (cU (cL p) x.name<0))||pb x.e rs||pb x.f rs
def uP(p:cA):Bool:=p.lines.any (λl=>decide (4<(l.length:Int)))||(gu p).any (λt=>decide (4<(t.dQ.length:Int))) ||
 (decide (4<(p.lines.length:Int))||decide (4<(p.iO.length:Int))||decide (2<(p.eI.length:Int))||decide ((p.threads.length:Int)<1)||decide (3<(p.threads.length:Int))||decide (4<(p.eb.length:Int)))
def iC(p:cA):List ByteArray:=(cX p).take (eN p).toNat
def fe(p:cA):Int:=
 if km p=false then 8 else if uP p=true then 2 else if (gu p).any (λt=>re t.body)=true then 11 else if kq (fN p)=true then 10
 else if (gu p).any (λt=>uO p t.dQ)=true then 10 else if (gu p).any (λt=>t.body.any (nc p t.dQ))=true then 9
 else if p.eb.any (λc=>pb c.e (iC p))=true then 9 else 0
def JQ{x:bP}(h:m9 x=true):0<=x.at_/\(x.kind=12->1<=x.n/\x.n<=8):=by
 have h:=yt h
 refine⟨h.at0.1,λu=>?_⟩
 rcases h.n with h|h
 .exact h.2
 rw[u,ajm]at h;grind
section
variable {p:cA}
theorem ce8(h1:km p=false):fe p=8:=by unfold fe;grind
theorem ce2(h1:km p=true)(h2:uP p=true):fe p=2:=by grind[fe]
theorem ap7(h1:km p=true)(h2:uP p=false)(h3:(gu p).any (λt=>re t.body)=true):fe p=11:=by grind[fe]
theorem ap8(h1:km p=true)(h2:uP p=false)(h3:(gu p).any (λt=>re t.body)=false)(h4:kq (fN p)=true):fe p=10:=by
 grind[fe]
theorem ahs(h1:km p=true)(h2:uP p=false)(h3:(gu p).any (λt=>re t.body)=false)(h4:kq (fN p)=false)(h5:(gu p).any (λt=>uO p t.dQ)=true):fe p=10:=by
 grind[fe]
theorem ce9(h1:km p=true)(h2:uP p=false)(h3:(gu p).any (λt=>re t.body)=false)(h4:kq (fN p)=false)(h5:(gu p).any (λt=>uO p t.dQ)=false)
  (h6:(gu p).any (λt=>t.body.any (nc p t.dQ))=true):fe p=9:=by
 grind[fe]
theorem ap9(h1:km p=true)(h2:uP p=false)(h3:(gu p).any (λt=>re t.body)=false)(h4:kq (fN p)=false)(h5:(gu p).any (λt=>uO p t.dQ)=false)
  (h6:(gu p).any (λt=>t.body.any (nc p t.dQ))=false) (u:p.eb.any (λc=>pb c.e (iC p))=true):fe p=9:=by
 grind[fe]
theorem ce0(h1:km p=true)(h2:uP p=false)(h3:(gu p).any (λt=>re t.body)=false)(h4:kq (fN p)=false)(h5:(gu p).any (λt=>uO p t.dQ)=false)
  (h6:(gu p).any (λt=>t.body.any (nc p t.dQ))=false) (u:p.eb.any (λc=>pb c.e (iC p))=false):fe p=0:=by
 grind[fe]
theorem PF.decl(h:PF p):∀c∈fN p,0<=c.at_:=by
 intro c hc
 unfold fN iW at hc
 rcases oF.1 hc with hc|hc
 .rcases oF.1 hc with hc|hc
  .rcases oF.1 hc with hc|hc
   .obtain⟨l,u,hc⟩:=List.mem_flatten.1 hc
    exact(zR ((h.lines l u).2 c hc)).1
   exact(zR (h.iO c hc)).1
  exact(zR (h.eI c hc)).1
 obtain⟨t,ht,rfl⟩:=n5.1 hc
 exact(zQ (h.th t ht)).1
theorem U6(u:PS p):(fN p).length<=252000:=by
 have:=kS u
 have:=u.eI
 have:=u.threads
 grind[fN]
theorem mD(u:PS p):(cX p).length<=250500:=by unfold cX;rw[mE];exact kS u
theorem D4(u:PS p):(gu p).length<=1000:=by
 have:=u.threads
 have:=u.recover
 grind[gu]
theorem PZ.qP(u:PZ p){t:cM}(ht:t∈gu p):Yr t/\t.dQ.length<=500/\t.body.length<=500:=by
 refine⟨?_,u.dQ t ht,u.body t ht⟩
 rcases oF.1 ht with h|h
 .exact u.zt t h
 exact u.zr t h
end
def C118(p:cA)(pv:bN)(w:World)(hp:mv w pv p)(B:PZ p):CR 118 [hM pv] w (λv w'=>v=.bool (km p)/\Ext w w'):=by
 obtain⟨bJ,W,bK,aU,Z,J,rfl,cO,dG,cW,cB,cC,cN⟩:=hp;have u:=St.start w;refine eZ Tryz.func118 ?_;refine cH u (λki w1 u=>?_);refine⟨λm x w1=>∃k:Nat,x=hH (k:Int)/\m=p.lines.length-k/\k<=p.lines.length/\(∀y∈p.lines.take k,nQ y=false)/\St w aZ [bY ki (hZ (⟨bJ,W,bK,aU,Z,J⟩:bN))] w1,⟨_,0,rfl,rfl,la _,ee,u⟩,?_⟩;rintro m _ _ ⟨k,rfl,rfl,hk,eE,u⟩ _;have hzl:=B.lines;refine aA gC (aB oO u.hb rfl ?_);obtain⟨ajn,U7,Y5⟩:=cO.open
 have awT:=Y5.1;refine aH pJ (U7.ext u.aF) (aQ (aC (λjC=>?_) λjC=>?_))
 .obtain⟨E1,qN⟩:=gx ajn (i:=(k:Int).toNat) bM;obtain⟨aht,Y⟩:=gx p.lines (i:=(k:Int).toNat) bM;have aqa:DL w (hM E1) aht:=Y5.2 _ _ _ qN Y;refine⟨λO w'=>O=.bool (nQ aht)/\St w aZ [bY ki (hZ (⟨bJ,W,bK,aU,Z,J⟩:bN))] w',?_,?_⟩
  .refine aA gC (aB oO u.hb rfl (aN pJ (U7.ext u.aF) bM qN λ_ uJ=>aD jF uJ ?_));have aei:=DL.flat aqa;exact aH iu (aei.ext u.aF) (aG (aC (λ_=>⟨vb (by unfold nQ;grind),u⟩) λ_=>aA gC (aB oO u.hb rfl (aN pJ (U7.ext u.aF) bM qN λ_ qB=>aD jF qB (aV Xh u (C198 _ _ _ _ (aei.ext u.aF) (by have:=B.line _ (kp Y);omega) (B.zl _ (kp Y))) λ_ _ u=>bQ ⟨vb (by unfold nQ;grind),u⟩)))))
  rintro _ _ ⟨rfl,u⟩ _;refine aY (λlq=>?_) (λlq=>aK bM ⟨_,bM,k+1,rfl,rfl,bM,dW eE Y lq,u⟩);refine⟨vb ?_,u.drop.aF⟩;unfold km;rw[ig Y lq];rfl
 have V:=eE;refine⟨λm x w1=>∃E:Nat,x=hH (E:Int)/\m=p.eb.length-E/\E<=p.eb.length/\(∀y∈p.eb.take E,lR y=false)/\St w aZ [bY ki (hZ (⟨bJ,W,bK,aU,Z,J⟩:bN))] w1,⟨_,0,rfl,rfl,la _,ee,u⟩,?_⟩;rintro m _ _ ⟨E,rfl,rfl,Yi,Qh,u⟩ _;have hzc:=B.eb;refine aA j1 (aB td u.hb rfl ?_);obtain⟨awU,G,U⟩:=cN.open;have hn13:=U.1;refine aH uB (G.ext u.aF) (aQ (aC (λj6=>?_) λj6=>⟨λO w'=>O=.bool (n6 4294967296 p.iO&&n6 0 p.eI&&nI true p.threads&&nI false p.recover&&decide (p.recover.length<=1))/\St w aZ [bY ki (hZ (⟨bJ,W,bK,aU,Z,J⟩:bN))] w',?_,?_⟩))
 .obtain⟨MU,Cu⟩:=gx awU (i:=(E:Int).toNat) bM;obtain⟨M,I⟩:=gx p.eb (i:=(E:Int).toNat) bM;obtain⟨aej,rfl,aek⟩:=U.2 _ _ _ Cu I;refine⟨λO w'=>O=.bool (lR M)/\St w aZ [bY ki (hZ (⟨bJ,W,bK,aU,Z,J⟩:bN))] w',aA j1 (aB td u.hb rfl (aN uB (G.ext u.aF) bM Cu λ_ zb=>bU M.at_ Jo zb rfl rfl λ_ xm=>aD bO xm (aV Sc u (C199 _ _) λ_ he u=>bQ (aY (λ_=>⟨vb (by unfold lR;grind),u⟩) λqD=>?_)))),?_⟩
  .refine aA j1 (aB td u.hb rfl (aN uB (G.ext u.aF) bM Cu λ_ Bb=>bU aej yj Bb rfl rfl λ_ Mm=>aD jH Mm ?_));have awV:=DL.flat aek;exact aV Lq u (C200 _ _ _ (awV.ext u.aF) (B.zc _ (kp I)).1 (B.zc _ (kp I)).2) (λ_ _ u=>bQ ⟨vb (by unfold lR;grind),u⟩)
  rintro _ _ ⟨rfl,u⟩ _;refine aY (λuQ=>?_) (λuQ=>aK bM ⟨_,bM,E+1,rfl,rfl,bM,dW Qh I uQ,u⟩);refine⟨vb ?_,u.drop.aF⟩;unfold km;rw[ig I uQ];simp
 .refine aA qe (aB jF u.hb rfl ?_);have awW:=DL.flat dG;refine aV Xh u (C198 _ _ _ _ (awW.ext u.aF) (by have:=B.iO;omega) B.zv) (λ_ he u=>aY (λSJ=>?_) λ_=>⟨vb cJ,u⟩);refine aA nN (aB jF u.hb rfl ?_);have ajp:=DL.flat cW;refine aV Xh u (C198 _ _ _ _ (ajp.ext u.aF) (by have:=B.eI;omega) B.zk) (λ_ he u=>aY (λc_x59=>aA kB (aB iz u.hb rfl (aV agy u (C201 _ _ true _ (cB.ext u.aF) (by have:=B.threads;omega) λ_ ht=>B.qP (List.mem_append_left _ ht)) λ_ he u=>aY (λuR=>aA oP (aB iz u.hb rfl (aV agy u (C201 _ _ false _ (cC.ext u.aF) (by have:=B.recover;omega) λ_ ht=>B.qP (List.mem_append_right _ ht)) λ_ he u=>aY (λagZ=>?_) λ_=>⟨vb cJ,u⟩))) λ_=>⟨vb cJ,u⟩))) λ_=>⟨vb cJ,u⟩)
  refine aA oP (aB iz u.hb rfl ?_);obtain⟨ts17,awX,awY⟩:=cC.open;have hn17:=awY.1;exact aH fw (awX.ext u.aF) (gA ⟨vb cJ,u⟩)
 rintro _ _ ⟨rfl,u⟩ _;refine⟨vb ?_,u.drop.aF⟩;unfold km;rw[iB (by rw[kE bM]at V;exact V),iB (by rw[kE bM]at Qh;exact Qh)];rfl
def C63(p:cA)(pv:bN)(w:World)(hp:mv w pv p)(G:PZ p):CR 63 [hM pv] w (λv w'=>kP (bH v (fm p)) w w'):=by
 obtain⟨M,V,I,Y,J,O,rfl,cO,dG,cW,cB,cC,cN⟩:=hp;have u:=St.start w;refine eZ Tryz.func63 ?_;refine cH u (λki W u=>bD ([]:List Int) u cR rfl rfl (dR rfl) λael _ u=>aD eL u.p1.At (dT Uy u (C59 p _ _ ⟨M,V,I,Y,J,O,rfl,cO.ext u.aF,dG.ext u.aF,cW.ext u.aF,cB.ext u.aF,cC.ext u.aF,cN.ext u.aF⟩ G.toPS) λx8 _ cK u=>?_));have u:=u.p2.p1.p2;refine⟨λm y x W=>∃k:Nat,x=hH (k:Int)/\m=(iW p).length-k/\k<=(iW p).length/\St w aZ [bH y (((iW p).take k).map cI.n),bH x8 (iW p),bY ki (hZ (⟨M,V,I,Y,J,O⟩:bN))] W,⟨_,0,rfl,rfl,bM,u⟩,?_⟩
 rintro m o7 _ _ ⟨k,rfl,rfl,hk,u⟩ _;have hac:=kS G.toPS;have LC:(((iW p).take k).map cI.n).length=k:=by rw[mE,lY];omega
 refine aH iu u.p1.dS (aQ (aC (λZ=>?_) λZ=>?_))
 .obtain⟨E,U⟩:=gx (iW p) (i:=(k:Int).toNat) bM;refine dM u.p1 iu bM bM (λ_ sj=>mr rX sj λ_ lQ=>nE E.n u.p1 bO lQ U rfl (bD ([E.n]:List Int) u cR rfl rfl (dR rfl) λaqd _ u=>?_));have B:=u.dS;exact bL u.p1 cR B (by simp<;>omega) dC (λ_ _ u=>have u:=u.p1.drop;aK bM (have u:=u.p2.p2.p2;⟨_,bM,k+1,rfl,rfl,bM,by rw[<- gP (k:=k) U];exact u⟩))
 have u:=u.p1.drop.p1.drop;rw[kE bM]at u;exact u.fresh
def C124(p:cA)(pv:bN)(w:World)(M:mv w pv p)(B:PZ p):CR 124 [hM pv] w (λv w'=>kP (bH v (cX p)) w w'):=by
 obtain⟨V,Z,J,aU,U,W,rfl,I,dG,Y,E,G,O⟩:=M;have u:=St.start w;refine eZ Tryz.func124 ?_;exact cH u (λ_ _ u=>aD eL u.At (dT Uy u (C59 p _ _ ⟨V,Z,J,aU,U,W,rfl,I.ext u.aF,dG.ext u.aF,Y.ext u.aF,E.ext u.aF,G.ext u.aF,O.ext u.aF⟩ B.toPS) λ_ _ _ u=>dT Xi u (C202 _ _ _ u.dS (by have:=kS B.toPS;omega)) λ_ _ _ u=>have u:=u.p1.drop.p1.drop;u.fresh))
def C125(p:cA)(pv:bN)(w:World)(G:mv w pv p)(E:PZ p):CR 125 [hM pv] w (λv w'=>kP (bH v (cL p)) w w'):=by
 obtain⟨Z,bT,U,aU,W,bG,rfl,O,dG,I,J,M,V⟩:=G;have u:=St.start w;refine eZ Tryz.func125 ?_;refine cH u (λY _ u=>aA nN (aB jF u.hb rfl ?_));have B:=DL.flat I;exact dT Xi u (C202 _ _ _ (B.ext u.aF) (by have:=E.eI;omega)) (λ_ _ _ u=>have u:=u.p1.drop;u.fresh)
def C62(p:cA)(pv:bN)(w:World)(U:mv w pv p)(B:PZ p):CR 62 [hM pv] w (λv w'=>v=hH (eN p)/\Ext w w'):=by
 obtain⟨Z,bT,O,aU,Y,bG,rfl,M,G,cW,I,J,W⟩:=U;have u:=St.start w;refine py Tryz.func62 (pl:=P62) ?_;refine cH u (λki _ u=>have u:=u.drew;aD eL u.At (aA qe (aB jF u.hb rfl ?_)));have E:=DL.flat G;refine aH iu (E.ext u.aF) (dT Uy u (C59 p _ _ ⟨Z,bT,O,aU,Y,bG,rfl,M.ext u.aF,G.ext u.aF,cW.ext u.aF,I.ext u.aF,J.ext u.aF,(W).ext u.aF⟩ B.toPS) λx4 _ cK u=>?_);refine⟨aI jF (u.p1.hb.cell rfl),?_⟩
 refine aH iu u.dS ?_;have V:=kS B.toPS;have hzv:=B.iO;exact fr bM (have u:=u.drop.drop;⟨fM (ng .i64) (Y4 p),u.aF⟩)
theorem Y6{l:List cI}{r:List (List cI)}{i a:Int}(h:¬ a<l.length):jm (l::r) i a=jm r (i+1) (a-l.length):=by rw[jm,ei h]
def Y7{x:bP}{n m:Int}(u:1<=n/\n<=64)(h:x.kind=12->1<=x.n/\x.n<=8)(B:m=q9 x n):1<=m/\m<=512:=by
 rw[B];unfold q9
 split
 .rename_i hk
  have:=h hk
  have h1:=Jh (a:=1) (b:=1) u.1 this.1 bM bM
  have h2:=Jh (c:=64) (d:=8) u.2 this.2 bM bM
  omega
 omega
theorem Bk.D5{t:Bk}(h:¬ (t.flat.length:Int)=0):∃x a b r,t=.cons x a b r:=by
 cases t with
 | nil=>exact absurd rfl h
 | cons x a b r=>grind
theorem Bk.Dt{x:bP}{a b r:Bk}(h:(Bk.cons x a b r).str){hi lo:Int}(h1:hi=1+x.body+x.et)(h2:lo=1):((Bk.cons x a b r).flat.take hi.toNat).drop lo.toNat=(a.app b).flat:=by
 obtain⟨B,u,_⟩:=h
 have E:=a.cY
 have lb:=b.cY
 rw[Bk.Bi,vv _ (a:=1) (n:=(a.flat++b.flat).length) cJ bM]
 grind[flat]
theorem Bk.ajs{x:bP}{a b r:Bk}(h:(Bk.cons x a b r).str){hi:Int}(h1:hi=1+x.body+x.et):(Bk.cons x a b r).flat.drop hi.toNat=r.flat:=by
 obtain⟨B,u,_⟩:=h
 have E:=a.cY
 have lb:=b.cY
 have e:(Bk.cons x a b r).flat=(x::(a.flat++b.flat))++r.flat:=by simp[Bk.flat]
 rw[e,show hi.toNat=(x::(a.flat++b.flat)).length from by simp;omega,ED]
theorem yu{l:List cI}{k:Nat}{c:cI}(h:l[k]?=some c):D3 l k=decide (cU (l.map cI.name) c.name<k):=by unfold D3;rw[h]
theorem Bj{p:cA}{l:List ByteArray}{k:Nat}{c:ByteArray}(h:l[k]?=some c):S1 p l k=(decide (cU l c<k)||decide (0<=cU (cX p) c)||decide (0<=cU (cL p) c)):=by unfold S1;rw[h]
theorem D6(a b:Bk):(a.app b).len=a.len+b.len:=by rw[<- Bk.cY,Bk.Bi,kU,Bk.cY,Bk.cY]
def C60(p:cA)(pv:bN)(c:Int)(w:World)(hp:mv w pv p)(O:PZ p):CR 60 [hM pv,hH c] w (λv w'=>v=hH (pB p c)/\Ext w w'):=by
 obtain⟨bJ,bT,U,aU,Y,bG,rfl,cO,dG,cW,cB,cC,cN⟩:=hp;have u:=St.start w;refine eZ Tryz.func60 ?_;refine cH u (λE w1 u=>⟨λjv w'=>jv=.bool (decide (c<0)||decide (((iW p).length:Int)<=c))/\St w aZ [bY E (hZ (⟨bJ,bT,U,aU,Y,bG⟩:bN))] w',aQ (aC (λ_=>⟨vb cJ,u⟩) λ_=>aD eL u.At (dT Uy u (C59 p _ _ ⟨bJ,bT,U,aU,Y,bG,rfl,cO.ext u.aF,dG.ext u.aF,cW.ext u.aF,cB.ext u.aF,cC.ext u.aF,cN.ext u.aF⟩ O.toPS) λ_ _ _ u=>aH iu u.dS (cQ (have u:=u.drop;⟨vb cJ,u⟩)))),?_⟩)
 rintro _ _ ⟨rfl,u⟩ _;have hac:=kS O.toPS;refine aY (λjl=>?_) (λjl=>?_)
 .refine⟨fM (ng .i64) ?_,u.drop.aF⟩;unfold pB;rw[ej cJ]
 have hc2:0<=c/\c<(iW p).length:=cJ
 refine⟨λm y x w1=>∃(k:Nat) (a:Int),y=hH a/\x=hH (k:Int)/\m=p.lines.length-k/\k<=p.lines.length/\0<=a/\a<=c/\jm p.lines 0 c=jm (p.lines.drop k) k a/\St w aZ [bY E (hZ (⟨bJ,bT,U,aU,Y,bG⟩:bN))] w1,⟨_,0,c,rfl,rfl,rfl,bM,bM,bM,rfl,u⟩,?_⟩;rintro m _ _ _ ⟨k,a,rfl,rfl,rfl,hk,ha0,hac1,B,u⟩ _;have hzl:=O.lines;refine aA gC (aB oO u.hb rfl ?_);obtain⟨aqf,J,G⟩:=cO.open;have aw1:=G.1;refine aH pJ (J.ext u.aF) (aQ (aC (λkQ=>?_) λkQ=>?_))
 .refine aA gC (aB oO u.hb rfl ?_);obtain⟨M,V⟩:=gx aqf (i:=(k:Int).toNat) bM;obtain⟨aqh,Z⟩:=gx p.lines (i:=(k:Int).toNat) bM;have W:DL w (hM M) aqh:=G.2 _ _ _ V Z;refine aN pJ (J.ext u.aF) bM V (λ_ Fe=>aD jF Fe ?_);have I:=DL.flat W;refine aH iu (I.ext u.aF) (aQ (aC (λl9=>?_) λl9=>?_))
  .refine⟨fM (ng .i64) ?_,u.drop.aF⟩;rw[drop_cons (k:=k) Z]at B;unfold pB;rw[ei bM,B];unfold jm;rw[ej bM]
  refine aA gC (aB oO u.hb rfl (aN pJ (J.ext u.aF) bM V λ_ xn=>aD jF xn (aH iu (I.ext u.aF) (fr bM (aK bM ?_)))));rw[drop_cons (k:=k) Z,Y6 bM]at B;exact⟨_,bM,k+1,_,rfl,rfl,rfl,bM,bM,bM,B,u⟩
 refine aA gC (aB oO u.hb rfl (aH pJ (J.ext u.aF) (aK bM ?_)));refine⟨fM (ng .i64) ?_,u.drop.aF⟩;rw[u1 bM]at B;unfold pB;rw[ei bM,B];unfold jm;omega
def C127(lv M:Value)(xs:List bZ)(ns:List ByteArray)(w:World)(G:cZ (λ_=>True) w lv xs)(hN:cZ (λ_=>True) w M ns)(hn:xs.length<=1048576)(B3:ns.length<=1048576)(Y:∀y∈xs,0<=y.at_):CR 127 [lv,M] w (λv w'=>∃a:Int,v=hH a/\decide (0<=a)=pb xs ns/\Ext w w'):=by
 have u:=St.start w;refine eZ Tryz.func127 ?_;refine⟨λm x O=>∃k:Nat,x=hH (k:Int)/\m=xs.length-k/\k<=xs.length/\(∀y∈xs.take k,(decide (y.op=2)&&decide (cU ns y.name<0))=false)/\St w aZ [] O,⟨_,0,rfl,rfl,la _,ee,u⟩,?_⟩;rintro m _ O ⟨k,rfl,rfl,hk,I,u⟩ _;refine aH g9 (G.ext u.aF) (aQ (aC (λZ=>?_) λZ=>?_))
 .obtain⟨E,B⟩:=gx xs (i:=(k:Int).toNat) bM;refine⟨λU w'=>U=.bool (decide (E.op=2)&&decide (cU ns E.name<0))/\St w aZ [] w',aN g9 (G.ext u.aF) bM B (λ_ ij=>bU E.op fa ij rfl rfl λ_ uJ=>aD bO uJ (aG (aC (λ_=>aN g9 (G.ext u.aF) bM B λ_ W=>bU E.name gn W rfl rfl λ_ V=>aD gB V (aV rR u (C123 _ ns _ _ (hN.ext u.aF) bM) λ_ _ u=>aQ ⟨vb cJ,u⟩)) λ_=>⟨vb cJ,u⟩))),?_⟩;rintro _ _ ⟨rfl,u⟩ _;exact aY (λJ=>aN g9 (G.ext u.aF) bM B λ_ my=>bU E.at_ rZ my rfl rfl λ_ sw=>aD bO sw ⟨_,rfl,by unfold pb;rw[ig B J];exact ew (Y _ (kp B)),u.aF⟩) (λJ=>aK bM ⟨_,bM,k+1,rfl,rfl,bM,dW I B J,u⟩)
 rw[kE bM]at I;exact⟨_,rfl,by unfold pb;rw[iB I];rfl,u.aF⟩
theorem C121(lv:Value)(t:Bk)(n:Int)(N:Nat)(w:World)(hL:DL w lv t.flat)(iY:t.str)(W:∀x∈t.flat,0<=x.at_/\(x.kind=12->1<=x.n/\x.n<=8))(V:1<=n/\n<=64)(hl:t.len<=1048576)(hN:t.len<N):CR 121 [lv,hH n] w (λv w'=>∃a:Int,v=hH a/\decide (0<=a)=mC t n/\Ext w w'):=by
 have tW:=t.cY;have u:=St.start w;refine eZ Tryz.func121 ?_;obtain⟨Y,J,E⟩:=hL.open;have hn22:=E.1;refine aH fq (J.ext u.aF) (aG (aC (λjw=>?_) λjw=>?_))
 .cases t with
  | nil=>exact⟨_,rfl,rfl,u.aF⟩
  | cons x a b r=>exact absurd tW (by rw[show(Bk.cons x a b r).len=a.len+b.len+r.len+1 from rfl];omega)
 obtain⟨x,a,b,r,rfl⟩:=Bk.D5 (t:=t) bM;obtain⟨uI,vq⟩:=gx Y (i:=(0:Int).toNat) bM;obtain⟨B,Y9⟩:=gx ((Bk.cons x a b r).flat) (i:=(0:Int).toNat) bM;obtain⟨S3,S4,rfl,aum,aun⟩:=E.2 _ _ _ vq Y9;refine aN fq (J.ext u.aF) bM vq (λ_ E0=>?_);obtain rfl:B=x:=(n4.inj Y9).symm;have I:=W B (by simp[Bk.flat]);have Za:=iY;obtain⟨B6,GK,Va,hg4,Z,hgb,hgr⟩:=Za;have GL:a.len+b.len+r.len+1<=1048576:=hl;have hNn:a.len+b.len+r.len+1<N:=hN;have hla:=a.cY;have Mp:=b.cY;have hlr:=r.cY
 have Y8:(Bk.cons B a b r).flat.length=a.len+b.len+r.len+1:=Bk.cY _;refine aD eK E0 (aR u jq λJO _ u=>aJ (x:=(⟨B.kind,B.eD,B.name,S3,S4,B.n,B.body,B.et,B.at_⟩:bE)) u eK rfl rfl λ_ u=>⟨λjv w'=>∃m:Int,jv=hH m/\m=q9 B n/\St w aZ [bY JO (hZ (⟨B.kind,B.eD,B.name,S3,S4,B.n,B.body,B.et,B.at_⟩:bE))] w',aA dN (aB (v:=hH B.kind) bO u.hb rfl (aG (aC (λlP=>aA jK (aB (v:=hH B.n) bO u.hb rfl (DV (by have Vb:=I.2 lP;have h1:=Jh (a:=1) (b:=1) V.1 Vb.1 bM bM;have h2:=Jh (c:=64) (d:=8) V.2 Vb.2 bM bM;omega) ⟨_,rfl,by grind[q9],u⟩))) λ_=>⟨_,rfl,by grind[q9],u⟩))),?_⟩)
 rintro _ _ ⟨m,rfl,O,u⟩ _;have hm8:=Y7 V I.2 O;refine cP (aC (λ_=>aA lJ (aB (v:=hH B.at_) bO u.hb rfl ⟨_,rfl,by unfold mC;rw[<- O,ew (show(64:Int)<m by omega)];exact ew I.1,u.drop.aF⟩)) λnH=>aA iU (aB (v:=hH B.body) bO u.hb rfl (aK bM (aA iH (aB (v:=hH B.et) bO u.hb rfl (aK bM (oA fq (J.ext u.aF) bM bM bM λaqj aju=>?_)))))));have ajv:=DL.cut aju J E;refine dO Xf (C121 _ (a.app b) m (N-1) _ (by have h:=ajv.ext u.aF;rw[Bk.Dt iY bM bM]at h;exact h) (Bk.S0 Z hgb) (λy U=>W y (by rw[Bk.Bi]at U;simp only[Bk.flat,sk,oF];rcases oF.1 U with h|h<;>simp[h])) bM (by rw[D6];omega) (by rw[D6];omega)) ?_
 rintro _ _ ⟨a1,rfl,G,he⟩;have u:=u.ext he;rw[HU]at G;refine cQ (aC (λM=>⟨_,rfl,by unfold mC;rw[<- O];rw[ew M]at G;rw[<- G,ew M];simp,u.drop.aF⟩) λM=>zG fq (J.ext u.aF) bM bM λahw ajw=>?_);have ajx:=DL.XZ ajw J E;refine dO Xf (C121 _ r n (N-1) _ (by have h:=ajx.ext u.aF;rw[Bk.ajs iY bM]at h;exact h) hgr (λy U=>W y (by simp[Bk.flat,U])) V bM bM) ?_;rintro _ _ ⟨a2,rfl,ha2,he⟩;have u:=u.ext he;exact⟨_,rfl,by unfold mC;rw[<- O];rw[<- G,ha2,ez (show ¬ (64:Int)<m by omega),ez M];rfl,u.drop.aF⟩
termination_by N
decreasing_by all_goals omega
def C120(p:cA)(pv:bN)(B E:List cE)(w:World)(J:mv w pv p)(h3:cZ (λ_=>True) w (hM pv.threads) B)(h4:cZ (λ_=>True) w (hM pv.recover) E)(O:B.length<=500)(U:E.length<=500):CR 120 [hM pv] w (λv w'=>kP (bH v (B++E)) w w'):=by
 obtain⟨bJ,bT,bK,aU,aX,bG,rfl,Z,dG,cW,W,Y,cN⟩:=J;have u:=St.start w;refine eZ Tryz.func120 ?_;refine cH u (λki _ u=>bD ([]:List cE) u fw rfl rfl (dR rfl) λM _ u=>aA kB (aB iz u.p1.hb rfl ?_));have V:=(h3.ext u.aF);refine bL u fw V (by simp<;>omega) dC (λG _ u=>aA oP (aB iz u.p1.hb rfl ?_));have I:=(h4.ext u.aF);exact bL u fw I (by simp;omega) dC (λ_ _ u=>have u:=u.p1.drop;u.fresh)
def C122(p:cA)(pv:bN)(w:World)(hp:mv w pv p)(B:PZ p)(sB:∀c∈fN p,0<=c.at_):CR 122 [hM pv] w (λv w'=>∃a:Int,v=hH a/\decide (0<=a)=kq (fN p)/\Ext w w'):=by
 obtain⟨M,U,I,W,J,O,rfl,cO,dG,cW,cB,cC,cN⟩:=hp;have u:=St.start w;refine acU _ _ _ ?_;unfold S122;refine cH u (λki V u=>bD ([]:List cI) u iu rfl rfl (dR rfl) λaep _ u=>aD eL u.p1.At (dT Uy u (C59 p _ _ ⟨M,U,I,W,J,O,rfl,cO.ext u.aF,dG.ext u.aF,cW.ext u.aF,cB.ext u.aF,cC.ext u.aF,cN.ext u.aF⟩ B.toPS) λx9 _ cK u=>?_));have Y:=u.dS;refine bL u.p1 iu Y (by simp;have:=kS B.toPS;omega) dC (λaoW _ u=>have u:=u.p1.drop;aA nN (aB jF u.p1.hb rfl ?_))
 have Z:=DL.flat cW;have iX:=(Z.ext u.aF);refine bL u iu iX (by simp;have:=kS B.toPS;have:=B.eI;omega) dC (λs_x14 _ u=>?_);have u:=u.p1.p1;refine⟨λm y x V=>∃k:Nat,x=hH (k:Int)/\m=p.threads.length-k/\k<=p.threads.length/\St w aZ [bH y (iW p++p.eI++(p.threads.take k).map λt=>(⟨t.name,0,t.at_⟩:cI)),bY ki (hZ (⟨M,U,I,W,J,O⟩:bN))] V,⟨_,0,rfl,rfl,bM,by simpa using u⟩,?_⟩;rintro m l3 _ _ ⟨k,rfl,rfl,hk,u⟩ _;have hzt:=B.threads;refine aA kB (aB iz u.p1.hb rfl ?_)
 obtain⟨ajz,MW,Vc⟩:=cB.open;have aw6:=Vc.1;refine aH fw (MW.ext u.aF) (aQ (aC (λfu=>?_) λfu=>?_))
 .refine aA kB (have u:=u.drew;aB iz u.p1.hb rfl ?_);obtain⟨e_x26,Qk⟩:=gx ajz (i:=(k:Int).toNat) bM;obtain⟨G,Zb⟩:=gx p.threads (i:=(k:Int).toNat) bM;obtain⟨ajA,ajB,rfl,ajC,ajD⟩:=Vc.2 _ _ _ Qk Zb;refine aN fw (MW.ext u.aF) bM Qk (λ_ xi=>bU G.name qo xi rfl rfl λ_ sn=>aD gB sn (aA kB (aB iz u.p1.hb rfl (aN fw (MW.ext u.aF) bM Qk λ_ xt=>bU G.at_ qp xt rfl rfl λ_ q8=>aD bO q8 (pop (EK _ _) (bD ([(⟨G.name,0,G.at_⟩:cI)]) u iu rfl rfl (dR rfl) λaqk _ u=>?_))))))
  have ajE:=u.dS;exact bL u.p1 iu ajE (by have:=kS B.toPS;have:=B.eI;have:=B.threads;simp;omega) dC (λ_ _ u=>have u:=u.p1.drop;aK bM (have u:=u.p1.p1;⟨_,bM,k+1,rfl,rfl,bM,by rw[<- gP (k:=k) Zb,<- nk];exact u⟩))
 rw[kE bM]at u;have Mq:=U6 B.toPS;have u:St w aZ [bH l3 (fN p),bY ki (hZ (⟨M,U,I,W,J,O⟩:bN))] _:=u;refine dT Xi u (C202 _ _ _ u.dS bM) (λx39 _ cK u=>?_);have u:=u.p2.p2.p2;refine⟨λm x V=>∃k:Nat,x=hH (k:Int)/\m=(fN p).length-k/\k<=(fN p).length/\(∀j,j<k->D3 (fN p) j=false)/\St w aZ [bH x39 ((fN p).map cI.name),bH l3 (fN p),bY ki (hZ (⟨M,U,I,W,J,O⟩:bN))] V,⟨_,0,rfl,rfl,bM,ee,u⟩,?_⟩
 rintro m _ _ ⟨k,rfl,rfl,hk,eE,u⟩ _;refine aH iu u.p1.dS (aQ (aC (λvR=>?_) λ_=>have u:=u.drop.drop.drop;⟨_,rfl,by unfold kq;rw[MS λj _=>eE j bM];rfl,u.aF⟩));obtain⟨Fq,E⟩:=gx (fN p) (i:=(k:Int).toNat) bM;exact dM u.p1 iu bM bM (λ_ Fs=>mr kL Fs λ_ Zc=>nE Fq.name u.p1 gB Zc E rfl (aV rR u (C123 _ ((fN p).map cI.name) _ _ u.dS (by rw[mE];omega)) λ_ _ u=>aQ (aC (λBl=>dM u.p1 iu bM bM λ_ Ft=>mr uE Ft λ_ Bm=>nE Fq.at_ u.p1 bO Bm E rfl (have u:=u.drop.drop.drop;⟨_,rfl,by unfold kq;rw[MT (j:=k) bM (by rw[yu (k:=k) E];exact ew Bl)];exact ew (sB _ (kp E)),u.aF⟩)) λBl=>aK bM ⟨_,bM,k+1,rfl,rfl,bM,S2 eE (by rw[yu (k:=k) E];exact ez Bl),u⟩)))
def C126(p:cA)(pv:bN)(t:cM)(tv:cE)(x:bP)(xv:bE)(w:World)(hp:mv w pv p)(ht:mv w tv t)(hx:mv w xv x)(Z:PZ p)(hzt:t.dQ.length<=500)(Y:SzS x)(J:0<=x.at_/\(∀y∈x.e,0<=y.at_)/\(∀y∈x.f,0<=y.at_)):CR 126 [hM pv,hM tv,hM xv] w (λv w'=>∃a:Int,v=hH a/\decide (0<=a)=nc p t.dQ x/\Ext w w'):=by
 obtain⟨O,V,I,W,M,U,rfl,cO,dG,cW,cB,cC,cN⟩:=hp;obtain⟨lS,lT,rfl,nJ,sC⟩:=ht;obtain⟨vT,vU,rfl,Mn,HL⟩:=hx;have Fu:=mD Z.toPS;have B4:(cL p).length<=500:=by unfold cL;rw[mE];exact Z.eI
 have u:=St.start w;refine py Tryz.func126 (pl:=avI) ?_;refine cH u (λE _ u=>cH u λG _ u=>cH u λJO _ u=>⟨λB w'=>B=.bool (decide (¬ x.eD=⟨#[]⟩)&&decide (cU t.dQ x.eD<0))/\St w aZ [bY JO (hZ (⟨x.kind,x.eD,x.name,vT,vU,x.n,x.body,x.et,x.at_⟩:bE)),bY G (hZ (⟨t.name,lS,lT,t.at_⟩:cE)),bY E (hZ (⟨O,V,I,W,M,U⟩:bN))] w',aA iG (aB (v:=.string x.eD) gB u.hb rfl (l4 (aC (λjw=>?_) λ_=>⟨vb cJ,u⟩))),?_⟩)
 .refine aA fQ (aB je u.p1.hb rfl ?_);have ajH:=DL.flat nJ;exact aA iG (aB (v:=.string x.eD) gB u.hb rfl (aV rR u (C123 _ t.dQ _ _ (ajH.ext u.aF) bM) λ_ _ u=>aQ ⟨vb cJ,u⟩))
 rintro _ _ ⟨rfl,u⟩ _;refine aY (λ_=>aA lJ (aB (v:=hH x.at_) bO u.hb rfl (have u:=u.drop.drop.drop;⟨_,rfl,by rw[ew J.1];unfold nc;grind,u.aF⟩))) (λfu=>have u:=u.drew;aD eL u.p2.At (aA gh (aB (v:=.string x.name) gB u.hb rfl (dT R7 u (C124 p _ _ ⟨O,V,I,W,M,U,rfl,cO.ext u.aF,dG.ext u.aF,cW.ext u.aF,cB.ext u.aF,cC.ext u.aF,cN.ext u.aF⟩ Z) λx23 _ cK u=>?_))));refine⟨aI gB (u.p1.hb.cell rfl),?_⟩;refine aV rR u (C123 _ (cX p) _ _ u.dS bM) (λw7 he u=>⟨λw'=>(((decide (x.kind=2)||decide (x.kind=3)||decide (x.kind=4))&&decide (cU (cX p) x.name<0))||((decide (x.kind=5)||decide (x.kind=6))&&(decide (cU (cX p) x.name<0)||decide (eN p<=cU (cX p) x.name)))||((decide (x.kind=9)||decide (x.kind=10))&&decide (cU (cL p) x.name<0)))=false/\St w aZ [bY JO (hZ (⟨x.kind,x.eD,x.name,vT,vU,x.n,x.body,x.et,x.at_⟩:bE)),bY G (hZ (⟨t.name,lS,lT,t.at_⟩:cE)),bY E (hZ (⟨O,V,I,W,M,U⟩:bN))] w',aA dN (aB (v:=hH x.kind) bO u.p1.hb rfl ⟨λB w'=>B=.bool (decide (x.kind=2\/x.kind=3\/x.kind=4))/\w7=w',aG (aC (λ_=>⟨yJ bM,rfl⟩) λ_=>aG (aC (λ_=>⟨yJ bM,rfl⟩) λ_=>aG ⟨yJ bM,rfl⟩)),?_⟩),?_⟩)
 .rintro _ _ ⟨rfl,hw⟩ _;subst hw;refine aC (λ_=>aQ (aC (λ_=>aA lJ (aB (v:=hH x.at_) bO u.p1.hb rfl (have u:=u.drop.drop.drop.drop;⟨_,rfl,by rw[ew J.1];unfold nc;grind,u.aF⟩))) λ_=>have u:=u.drop.p2.p2.p2;⟨cJ,u⟩)) (λahx=>⟨λB w'=>B=.bool (decide (x.kind=5\/x.kind=6))/\w7=w',aG (aC (λ_=>⟨yJ bM,rfl⟩) λ_=>aG ⟨yJ bM,rfl⟩),?_⟩);rintro _ _ ⟨rfl,hw⟩ _;subst hw;refine aC (λo8=>⟨λB w'=>B=.bool (decide (cU (cX p) x.name<0)||decide (eN p<=cU (cX p) x.name))/\St w aZ [bH x23 (cX p),bY JO (hZ (⟨x.kind,x.eD,x.name,vT,vU,x.n,x.body,x.et,x.at_⟩:bE)),bY G (hZ (⟨t.name,lS,lT,t.at_⟩:cE)),bY E (hZ (⟨O,V,I,W,M,U⟩:bN))] w',aQ (aC (λ_=>⟨vb cJ,u⟩) λ_=>aD eL u.p3.At (aV aiB u (C62 p _ _ ⟨O,V,I,W,M,U,rfl,cO.ext u.aF,dG.ext u.aF,cW.ext u.aF,cB.ext u.aF,cC.ext u.aF,cN.ext u.aF⟩ Z) λ_ _ u=>cQ ⟨vb cJ,u⟩)),?_⟩) (λo8=>⟨λB w'=>B=.bool (decide (x.kind=9\/x.kind=10))/\w7=w',aG (aC (λ_=>⟨yJ bM,rfl⟩) λ_=>aG ⟨yJ bM,rfl⟩),?_⟩)
  .rintro _ _ ⟨rfl,u⟩ _;exact aY (λ_=>aA lJ (aB (v:=hH x.at_) bO u.p1.hb rfl (have u:=u.drop.drop.drop.drop;⟨_,rfl,by rw[ew J.1];unfold nc;grind,u.aF⟩))) (λ_=>have u:=u.drop.p2.p2.p2;⟨cJ,u⟩)
  rintro _ _ ⟨rfl,hw⟩ _;subst hw;exact aC (λ_=>have u:=u.drew;aD eL u.p3.At (aA gh (aB (v:=.string x.name) gB u.p1.hb rfl (dT R8 u (C125 p _ _ ⟨O,V,I,W,M,U,rfl,cO.ext u.aF,dG.ext u.aF,cW.ext u.aF,cB.ext u.aF,cC.ext u.aF,cN.ext u.aF⟩ Z) λ_ _ _ u=>⟨aI gB (u.p2.hb.cell rfl),aV rR u (C123 _ (cL p) _ _ u.dS bM) λ_ _ u=>aQ (aC (λ_=>aA lJ (aB (v:=hH x.at_) bO u.p2.hb rfl (have u:=u.drop.drop.drop.drop.drop;⟨_,rfl,by rw[ew J.1];unfold nc;grind,u.aF⟩))) λ_=>have u:=u.drop.drop.p2.p2.p2;⟨cJ,u⟩)⟩)))) (λ_=>have u:=u.drop.p2.p2.p2;⟨cJ,u⟩)
 rintro _ ⟨hmid,u⟩ _;refine aA iT (aB jH u.hb rfl ?_);have aw7:=DL.flat Mn;refine aA fQ (aB je u.p1.hb rfl ?_);have aql:=DL.flat nJ;refine dO Xg (C127 _ _ _ _ _ (aw7.ext u.aF) (aql.ext u.aF) Y.2.2.1 bM J.2.1) ?_;rintro _ _ ⟨a_x65,rfl,aw8,he⟩;have u:=u.ext he;refine cQ (aC (λ_=>have u:=u.drop.drop.drop;⟨_,rfl,by unfold nc;grind,u.aF⟩) λwZ=>aA j3 (aB jH u.hb rfl ?_));have aw9:=DL.flat HL;refine aA fQ (aB je u.p1.hb rfl (dO Xg (C127 _ _ _ _ _ (aw9.ext u.aF) (aql.ext u.aF) Y.2.2.2.1 bM J.2.2) ?_))
 rintro _ _ ⟨a_x73,rfl,axa,he⟩;have u:=(((u.ext he).drop).drop).drop;exact⟨_,rfl,by unfold nc;grind,u.aF⟩
def C119(p:cA)(pv:bN)(w:World)(hp:mv w pv p)(W:PZ p):CR 119 [hM pv] w (λv w'=>v=.bool (uP p)/\Ext w w'):=by
 obtain⟨bJ,bT,bK,aU,aX,Y,rfl,cO,dG,cW,cB,cC,cN⟩:=hp;have u:=St.start w;refine eZ Tryz.func119 ?_;refine cH u (λki V u=>?_);refine⟨λm x V=>∃k:Nat,x=hH (k:Int)/\m=p.lines.length-k/\k<=p.lines.length/\(∀y∈p.lines.take k,decide (4<(y.length:Int))=false)/\St w aZ [bY ki (hZ (⟨bJ,bT,bK,aU,aX,Y⟩:bN))] V,⟨_,0,rfl,rfl,la _,ee,u⟩,?_⟩;rintro m _ _ ⟨k,rfl,rfl,hk,eE,u⟩ _;have hzl:=W.lines;refine aA gC (aB oO u.hb rfl ?_)
 obtain⟨axb,G,U⟩:=cO.open;have hn29:=U.1;refine aH pJ (G.ext u.aF) (aQ (aC (λgN=>?_) λgN=>?_))
 .refine aA gC (aB oO u.hb rfl ?_);obtain⟨Yv,n7⟩:=gx axb (i:=(k:Int).toNat) bM;obtain⟨su,pa⟩:=gx p.lines (i:=(k:Int).toNat) bM;have aqn:DL w (hM Yv) su:=U.2 _ _ _ n7 pa;refine aN pJ (G.ext u.aF) bM n7 (λ_ A6=>aD jF A6 ?_);have axc:=DL.flat aqn;refine aH iu (axc.ext u.aF) (cP (aC (λfu=>?_) λfu=>aK bM ⟨_,bM,k+1,rfl,rfl,bM,dW eE pa (ez fu),u⟩));have u:=u.drop;refine⟨vb ?_,u.aF⟩;unfold uP;rw[ig pa (ew bM)];rfl
 refine aD eL u.At ?_;obtain⟨M,E,I⟩:=cB.open;have hn31:=I.1;obtain⟨J,axd,O⟩:=cC.open;have hn32:=O.1;refine dO agp (C120 p _ M J _ ⟨bJ,bT,bK,aU,aX,Y,rfl,cO.ext u.aF,dG.ext u.aF,cW.ext u.aF,cB.ext u.aF,cC.ext u.aF,cN.ext u.aF⟩ (E.ext u.aF) (axd.ext u.aF) (by have:=W.threads;omega) (by have:=W.recover;omega)) ?_;rintro x21 _ cK;have u:=u.made cK;obtain⟨Bn,MX⟩:∃t,t=M++J:=⟨_,rfl⟩;rw[<- MX]at u;have Ql:fR Bn (gu p) w:=by rw[MX];exact fR.append I O
 have axe:=Ql.1;have ajK:=D4 W.toPS;have u:=u.p1.p1;refine⟨λm x V=>∃B:Nat,x=hH (B:Int)/\m=(gu p).length-B/\B<=(gu p).length/\(∀y∈(gu p).take B,decide (4<(y.dQ.length:Int))=false)/\St w aZ [bH x21 Bn,bY ki (hZ (⟨bJ,bT,bK,aU,aX,Y⟩:bN))] V,⟨_,0,rfl,rfl,la _,ee,u⟩,?_⟩;rintro m _ _ ⟨B,rfl,rfl,Yi,Qh,u⟩ _;refine aH fw u.dS (aQ (aC (λjx=>?_) λjx=>⟨λjv w'=>jv=.bool (decide (4<(p.lines.length:Int))||decide (4<(p.iO.length:Int))||decide (2<(p.eI.length:Int))||decide ((p.threads.length:Int)<1)||decide (3<(p.threads.length:Int))||decide (4<(p.eb.length:Int)))/\St w aZ [] w',aA gC (aB oO u.p1.hb rfl (aH pJ (G.ext u.aF) (cP (aC (λ_=>have u:=u.drop.drop;⟨vb cJ,u⟩) λrf=>?_)))),?_⟩))
 .obtain⟨qZ,gq⟩:=gx Bn (i:=(B:Int).toNat) bM;obtain⟨aqs,xw⟩:=gx (gu p) (i:=(B:Int).toNat) bM;obtain⟨Fv,Fx,rfl,Fy,Fz⟩:=Ql.2 _ _ _ gq xw;refine aN fw u.dS bM gq (λ_ my=>bU Fv fQ my rfl rfl λ_ sw=>aD je sw ?_);have axf:=DL.flat Fy;refine aH iF (axf.ext u.aF) (cP (aC (λlO=>?_) λ_=>aK bM ⟨_,bM,B+1,rfl,rfl,bM,dW Qh xw (ez bM),u⟩));have u:=u.drop.drop;refine⟨vb ?_,u.aF⟩;unfold uP;rw[ig xw (ew bM)];simp
 .refine aA qe (aB jF u.p1.hb rfl ?_);have axg:=DL.flat dG;refine aH iu (axg.ext u.aF) (cP (aC (λ_=>have u:=u.drop.drop;⟨vb cJ,u⟩) λvR=>aA nN (aB jF u.p1.hb rfl ?_)));have axh:=DL.flat cW;refine aH iu (axh.ext u.aF) (cP (aC (λ_=>have u:=u.drop.drop;⟨vb cJ,u⟩) λsf=>aA kB (aB iz u.p1.hb rfl (aH fw (E.ext u.aF) (aQ (aC (λ_=>have u:=u.drop.drop;⟨vb cJ,u⟩) λSJ=>aA kB (aB iz u.p1.hb rfl (aH fw (E.ext u.aF) (cP (aC (λ_=>have u:=u.drop.drop;⟨vb cJ,u⟩) λagY=>aA j1 (aB td u.p1.hb rfl ?_)))))))))))
  obtain⟨ts36,axi,Z⟩:=cN.open;have hn36:=Z.1;exact aH uB (axi.ext u.aF) (cP (have u:=u.drop.drop;⟨vb cJ,u⟩))
 rintro _ _ ⟨rfl,u⟩ _;refine⟨vb ?_,u.aF⟩;unfold uP;rw[iB (by rw[kE bM]at eE;exact eE),iB (by rw[kE bM]at Qh;exact Qh)];rfl
def C57(p:cA)(pv:bN)(w:World)(hp:mv w pv p)(B:PZ p):CR 57 [hM pv] w (λv w'=>∃a:Int,v=.tuple #[hH (fe p),hH a]/\Ext w w'):=by
 obtain⟨M,I,U,O,J,G,rfl,cO,dG,cW,cB,cC,cN⟩:=hp;have u:=St.start w;refine aiv _ _ _ ?_;unfold S57;refine cH u (λki W u=>aD eL u.At (aV anG u (C118 p _ _ ⟨M,I,U,O,J,G,rfl,cO.ext u.aF,dG.ext u.aF,cW.ext u.aF,cB.ext u.aF,cC.ext u.aF,cN.ext u.aF⟩ B) λ_ he u=>bQ (aY (λj8=>have u:=u.drop;⟨_,fM (λq=>Cg #[hH q,_]) (ce8 (by simpa using j8)).symm,u.aF⟩) λj8=>?_)))
 have E:km p=true:=by simpa using j8
 have hPF:=qC E;refine aD eL u.At (aV anH u (C119 p _ _ ⟨M,I,U,O,J,G,rfl,cO.ext u.aF,dG.ext u.aF,cW.ext u.aF,cB.ext u.aF,cC.ext u.aF,cN.ext u.aF⟩ B) λ_ he u=>aY (λfu=>have u:=u.drop;⟨_,fM (λq=>Cg #[hH q,_]) (ce2 E fu).symm,u.aF⟩) λfu=>aD eL u.At ?_);obtain⟨aqt,axk,aqu⟩:=cB.open;have hn37:=aqu.1;obtain⟨aqv,axl,aqw⟩:=cC.open;have hn38:=aqw.1;refine dO agp (C120 p _ aqt aqv _ ⟨M,I,U,O,J,G,rfl,cO.ext u.aF,dG.ext u.aF,cW.ext u.aF,cB.ext u.aF,cC.ext u.aF,cN.ext u.aF⟩ (axk.ext u.aF) (axl.ext u.aF) (by have:=B.threads;omega) (by have:=B.recover;omega)) ?_
 rintro V _ cK;have u:=u.made cK;obtain⟨Bn,MX⟩:∃t,t=aqt++aqv:=⟨_,rfl⟩;rw[<- MX]at u;have Ql:fR Bn (gu p) w:=by rw[MX];exact fR.append aqu aqw
 have axe:=Ql.1;have ajK:=D4 B.toPS;have u:=u.p1.p1;refine⟨λm x W=>∃k1:Nat,x=hH (k1:Int)/\m=(gu p).length-k1/\k1<=(gu p).length/\(∀y∈(gu p).take k1,re y.body=false)/\St w aZ [bH V Bn,bY ki (hZ (⟨M,I,U,O,J,G⟩:bN))] W,⟨_,0,rfl,rfl,la _,ee,u⟩,?_⟩;rintro m _ _ ⟨k1,rfl,rfl,R4,ajL,u⟩ _;refine aH fw u.dS (aQ (aC (λjx=>?_) λjx=>?_))
 .obtain⟨qZ,gq⟩:=gx Bn (i:=(k1:Int).toNat) bM;obtain⟨aqs,xw⟩:=gx (gu p) (i:=(k1:Int).toNat) bM;obtain⟨Fv,Fx,rfl,Fy,Fz⟩:=Ql.2 _ _ _ gq xw;refine aN fw u.dS bM gq (λ_ my=>bU Fx lI my rfl rfl λ_ sw=>aD jJ sw ?_);obtain⟨aqx,UB,tr,Y,ajN,jT,_⟩:=lx (hPF.qP (kp xw)).2.1;have tW:=fM List.length Y;rw[Bk.cY]at tW;refine dO Xf (C121 _ tr 1 (tr.len+1) _ (by rw[<- Y];exact(Fz.ext u.aF)) ajN (λy hy=>JQ (UB y (by rw[Y];exact hy))) bM bM bM) ?_
  rintro _ _ ⟨wa,rfl,hwa,he⟩;have u:=u.ext he;exact cQ (aC (λlr=>have u:=u.drop.drop;⟨_,fM (λq=>Cg #[hH q,_]) (ap7 E fu (ig xw (by rw[Y,vw ajN,<- hwa];exact ew lr))).symm,u.aF⟩) λlr=>aK bM (have u:=u.p1.p1;⟨_,bM,k1+1,rfl,rfl,bM,dW ajL xw (by rw[Y,vw ajN,<- hwa];exact ez lr),u⟩))
 rw[kE bM]at ajL;have h11:(gu p).any (λt=>re t.body)=false:=iB ajL;refine aD eL u.p1.At (dO anI (C122 p _ _ ⟨M,I,U,O,J,G,rfl,cO.ext u.aF,dG.ext u.aF,cW.ext u.aF,cB.ext u.aF,cC.ext u.aF,cN.ext u.aF⟩ B hPF.decl) ?_);rintro _ _ ⟨a_x38,rfl,Zd,he⟩;have u:=u.ext he;refine cQ (aC (λxh=>have u:=u.drop.drop;⟨_,fM (λq=>Cg #[hH q,_]) (ap8 E fu h11 (by rw[<- Zd];exact ew xh)).symm,u.aF⟩) λxh=>?_);have h10:kq (fN p)=false:=by rw[<- Zd];exact ez xh
 have u:=u.p1.p1;refine⟨λm x W=>∃k2:Nat,x=hH (k2:Int)/\m=(gu p).length-k2/\k2<=(gu p).length/\(∀y∈(gu p).take k2,uO p y.dQ=false)/\St w aZ [bH V Bn,bY ki (hZ (⟨M,I,U,O,J,G⟩:bN))] W,⟨_,0,rfl,rfl,la _,ee,u⟩,?_⟩;rintro m _ _ ⟨k2,rfl,rfl,xo,Fg,u⟩ _;refine aH fw u.dS (aQ (aC (λMY=>?_) λMY=>?_))
 .obtain⟨e_x51,FA⟩:=gx Bn (i:=(k2:Int).toNat) bM;obtain⟨Bo,JR⟩:=gx (gu p) (i:=(k2:Int).toNat) bM;obtain⟨zS,ajO,rfl,Qm,ajP⟩:=Ql.2 _ _ _ FA JR;have hzt2:=B.qP (kp JR);refine⟨λm x W=>∃Z:Nat,x=hH (Z:Int)/\m=Bo.dQ.length-Z/\Z<=Bo.dQ.length/\(∀j,j<Z->S1 p Bo.dQ j=false)/\St w aZ [bH V Bn,bY ki (hZ (⟨M,I,U,O,J,G⟩:bN))] W,⟨_,0,rfl,rfl,la _,ee,u⟩,?_⟩;rintro m _ _ ⟨Z,rfl,rfl,hk3,aqz,u⟩ _;refine aN fw u.dS bM FA (λ_ aqA=>bU zS fQ aqA rfl rfl λ_ Ze=>aD je Ze ?_)
  have ajQ:=DL.flat Qm;refine aH iF (ajQ.ext u.aF) (aQ (aC (λSJ=>?_) λ_=>aK bM (have u:=u.p1.p1;⟨_,bM,k2+1,rfl,rfl,bM,dW Fg JR (show uO p Bo.dQ=false from MS λj _=>aqz j bM),u⟩)));refine aN fw u.dS bM FA (λ_ aqB=>bU zS fQ aqB rfl rfl λ_ Zf=>aD je Zf ?_);obtain⟨sD,ub⟩:=gx Bo.dQ (i:=(Z:Int).toNat) bM;refine aN iF (ajQ.ext u.aF) bM ub (λ_ Fh=>aD gB Fh ⟨λjv w'=>jv=.bool (decide (cU Bo.dQ sD<Z)||decide (0<=cU (cX p) sD)||decide (0<=cU (cL p) sD))/\St w aZ [bH V Bn,bY ki (hZ (⟨M,I,U,O,J,G⟩:bN))] w',?_,?_⟩)
  .refine aN fw u.dS bM FA (λ_ aqC=>bU zS fQ aqC rfl rfl λ_ MZ=>?_);exact aD je MZ (aV rR u (C123 _ Bo.dQ _ _ (ajQ.ext u.aF) (by have:=mD B.toPS;have hk:(cL p).length<=500:=(by unfold cL;rw[mE];exact B.eI);omega)) λ_ _ u=>aQ (aC (λ_=>have u:=u.p1.p1;⟨vb cJ,u⟩) λ_=>aD eL u.p1.At (dT R7 u (C124 p _ _ ⟨M,I,U,O,J,G,rfl,cO.ext u.aF,dG.ext u.aF,cW.ext u.aF,cB.ext u.aF,cC.ext u.aF,cN.ext u.aF⟩ B) λ_ _ _ u=>aV rR u (C123 _ (cX p) _ _ u.dS (by have:=mD B.toPS;have hk:(cL p).length<=500:=(by unfold cL;rw[mE];exact B.eI);omega)) λ_ _ u=>cQ (aC (λ_=>have u:=u.drop.p1.p1;⟨vb cJ,u⟩) λ_=>aD eL u.p2.At (dT R8 u (C125 p _ _ ⟨M,I,U,O,J,G,rfl,cO.ext u.aF,dG.ext u.aF,cW.ext u.aF,cB.ext u.aF,cC.ext u.aF,cN.ext u.aF⟩ B) λ_ _ _ u=>aV rR u (C123 _ (cL p) _ _ u.dS (by have:=mD B.toPS;have hk:(cL p).length<=500:=(by unfold cL;rw[mE];exact B.eI);omega)) λ_ _ u=>cQ (have u:=u.drop.drop.p1.p1;⟨vb cJ,u⟩))))))
  rintro _ _ ⟨rfl,u⟩ _;exact aY (λFB=>aN fw u.dS bM FA λ_ aqD=>bU Bo.at_ qp aqD rfl rfl λ_ aqE=>have u:=u.drew;aD bO aqE (have u:=u.drop.drop;⟨_,fM (λq=>Cg #[hH q,_]) (ahs E fu h11 h10 (ig JR (show uO p Bo.dQ=true from MT (j:=Z) bM (by rw[Bj (k:=Z) ub];exact FB)))).symm,u.aF⟩)) (λFB=>aK bM ⟨_,bM,Z+1,rfl,rfl,bM,S2 aqz (by rw[Bj (k:=Z) ub];exact FB),u⟩)
 rw[kE bM]at Fg;have ajR:(gu p).any (λt=>uO p t.dQ)=false:=iB Fg;have u:=u.p1.p1;refine⟨λm x W=>∃k5:Nat,x=hH (k5:Int)/\m=(gu p).length-k5/\k5<=(gu p).length/\(∀y∈(gu p).take k5,y.body.any (nc p y.dQ)=false)/\St w aZ [bH V Bn,bY ki (hZ (⟨M,I,U,O,J,G⟩:bN))] W,⟨_,0,rfl,rfl,la _,ee,u⟩,?_⟩;rintro m _ _ ⟨k5,rfl,rfl,hk5,ajS,u⟩ _;refine aH fw u.dS (aQ (aC (λaqF=>?_) λaqF=>?_))
 .obtain⟨axn,D7⟩:=gx Bn (i:=(k5:Int).toNat) bM;obtain⟨Cv,Bp⟩:=gx (gu p) (i:=(k5:Int).toNat) bM;obtain⟨M4,xy,rfl,M5,Dc⟩:=Ql.2 _ _ _ D7 Bp;have aqG:=B.qP (kp Bp);have axo:=hPF.qP (kp Bp);obtain⟨hb45,aqH,_⟩:=lx axo.2.1;refine⟨λm x W=>∃k6:Nat,x=hH (k6:Int)/\m=Cv.body.length-k6/\k6<=Cv.body.length/\(∀y∈Cv.body.take k6,nc p Cv.dQ y=false)/\St w aZ [bH V Bn,bY ki (hZ (⟨M,I,U,O,J,G⟩:bN))] W,⟨_,0,rfl,rfl,la _,ee,u⟩,?_⟩
  rintro m _ _ ⟨k6,rfl,rfl,hk6,ajT,u⟩ _;refine aN fw u.dS bM D7 (λ_ ajU=>bU xy lI ajU rfl rfl λ_ ajV=>aD jJ ajV ?_);obtain⟨axp,aqI,aqJ⟩:=Dc.open;have hn40:=aqJ.1;refine aH fq (aqI.ext u.aF) (aQ (aC (λaxq=>?_) λ_=>aK bM (have u:=u.p1.p1;⟨_,bM,k5+1,rfl,rfl,bM,dW ajS Bp (iB (by rw[kE bM]at ajT;exact ajT)),u⟩)));have u:=u.drew;refine aD eL u.p1.At (aN fw u.dS bM D7 λ_ Qn=>aD m6 Qn (aN fw u.dS bM D7 λ_ ajW=>bU xy lI ajW rfl rfl λ_ ajX=>aD jJ ajX ?_))
  obtain⟨axr,S6⟩:=gx axp (i:=(k6:Int).toNat) bM;obtain⟨ajY,Bq⟩:=gx Cv.body (i:=(k6:Int).toNat) bM;obtain⟨Zg,Zh,rfl,Zi,Zj⟩:=aqJ.2 _ _ _ S6 Bq;refine aN fq (aqI.ext u.aF) bM S6 (λ_ ajZ=>aD eK ajZ ?_);have hf5:=aeh (aqH _ (kp Bq));refine dO anJ (C126 p _ Cv _ ajY _ _ ⟨M,I,U,O,J,G,rfl,cO.ext u.aF,dG.ext u.aF,cW.ext u.aF,cB.ext u.aF,cC.ext u.aF,cN.ext u.aF⟩ ⟨M4,xy,rfl,M5.ext u.aF,Dc.ext u.aF⟩ ⟨Zg,Zh,rfl,Zi.ext u.aF,Zj.ext u.aF⟩ B aqG.2.1 (aqG.1.2.2 _ (kp Bq)) hf5) ?_
  rintro _ _ ⟨axs,rfl,S8,he⟩;have u:=u.ext he;exact cQ (aC (λzT=>have u:=u.drop.drop;⟨_,fM (λq=>Cg #[hH q,_]) (ce9 E fu h11 h10 ajR (ig Bp (ig Bq (by rw[<- S8];exact ew zT)))).symm,u.aF⟩) λzT=>aK bM ⟨_,bM,k6+1,rfl,rfl,bM,dW ajT Bq (by rw[<- S8];exact ez zT),u⟩)
 rw[kE bM]at ajS;have h9:(gu p).any (λt=>t.body.any (nc p t.dQ))=false:=iB ajS;have u:=u.drew;refine aD eL u.p1.At (aD eL u.p1.At (dT R7 u (C124 p _ _ ⟨M,I,U,O,J,G,rfl,cO.ext u.aF,dG.ext u.aF,cW.ext u.aF,cB.ext u.aF,cC.ext u.aF,cN.ext u.aF⟩ B) λaxt _ cK u=>?_));refine⟨eP eL u.p2.At,?_⟩;refine aV aiB u (C62 p _ _ ⟨M,I,U,O,J,G,rfl,cO.ext u.aF,dG.ext u.aF,cW.ext u.aF,cB.ext u.aF,cC.ext u.aF,cN.ext u.aF⟩ B) (λ_ he u=>?_)
 have Fu:=mD B.toPS;have OW:0<=eN p/\eN p<=(cX p).length:=by unfold eN cX iW;rw[mE,kU];omega
 refine jL iF u.dS bM bM (λaxu aeq=>?_);have u:=u.p1.drop.p1.p1;refine⟨λm x W=>∃k7:Nat,x=hH (k7:Int)/\m=p.eb.length-k7/\k7<=p.eb.length/\(∀y∈p.eb.take k7,pb y.e (iC p)=false)/\St w aZ [bH axt (cX p),bY ki (hZ (⟨M,I,U,O,J,G⟩:bN))] W,⟨_,0,rfl,rfl,la _,ee,u⟩,?_⟩;rintro m _ _ ⟨k7,rfl,rfl,hk7,aj0,u⟩ _;have hzc:=B.eb;refine aA j1 (aB td u.p1.hb rfl ?_);obtain⟨axv,aqK,aqL⟩:=cN.open;have hn41:=aqL.1;refine aH uB (aqK.ext u.aF) (aQ (aC (λaxw=>?_) λ_=>have u:=u.drop.drop;⟨_,fM (λq=>Cg #[hH q,_]) (ce0 E fu h11 h10 ajR h9 (iB (by rw[kE bM]at aj0;exact aj0))).symm,u.aF⟩))
 refine aA j1 (aB td u.p1.hb rfl ?_);obtain⟨axx,S9⟩:=gx axv (i:=(k7:Int).toNat) bM;obtain⟨axy,Br⟩:=gx p.eb (i:=(k7:Int).toNat) bM;obtain⟨Zk,rfl,Zl⟩:=aqL.2 _ _ _ S9 Br;refine aN uB (aqK.ext u.aF) bM S9 (λ_ Qo=>bU Zk yj Qo rfl rfl λ_ aj1=>aD jH aj1 ?_);have axz:=DL.flat Zl;refine dO Xg (C127 _ _ _ _ _ (axz.ext u.aF) (aeq _ u.dS) (B.zc _ (kp Br)).1 (by have:=mD B.toPS;simp;omega) (Ct (hPF.cl _ (kp Br)).2)) ?_;rintro _ _ ⟨axA,rfl,Ta,he⟩
 have u:=u.ext he;exact cQ (aC (λQp=>have u:=u.drop.drop;⟨_,fM (λq=>Cg #[hH q,_]) (ap9 E fu h11 h10 ajR h9 (ig Br (by unfold iC;rw[<- Ta];exact ew Qp))).symm,u.aF⟩) λQp=>aK bM ⟨_,bM,k7+1,rfl,rfl,bM,dW aj0 Br (by unfold iC;rw[<- Ta];exact ez Qp),u⟩)
theorem Bk.aqM{x:bP}{a b r:Bk}(h:(Bk.cons x a b r).str){hi lo:Int}(h1:hi=1+x.body)(h2:lo=1):((Bk.cons x a b r).flat.take hi.toNat).drop lo.toNat=a.flat:=by
 obtain⟨B,u,_⟩:=h
 have E:=a.cY
 rw[vv _ (a:=1) (n:=a.flat.length) bM bM]
 grind[flat]
theorem Bk.aqN{x:bP}{a b r:Bk}(h:(Bk.cons x a b r).str){hi lo:Int}(h1:hi=1+x.body+x.et)(h2:lo=1+x.body):((Bk.cons x a b r).flat.take hi.toNat).drop lo.toNat=b.flat:=by
 obtain⟨B,u,_⟩:=h
 have E:=a.cY
 have lb:=b.cY
 rw[vv _ (a:=1+a.flat.length) (n:=b.flat.length) bM bM]
 grind[flat]
def ze:Bk->Int
 | .nil=>0
 | .cons x a b r=>(if x.kind=12 then 2+ze a else if x.kind=11 then(if 0<x.et then 1+ze a+ze b+1 else 1+ze a+ze b)else 1)+ze r
def toT(x:bP)(a:Bk)(at_:Int):Int:=if 0<x.et then at_+1+ze a+1 else at_+1+ze a
end Go.Proofs.YtpdlpabnlkofmaaGreatDoor

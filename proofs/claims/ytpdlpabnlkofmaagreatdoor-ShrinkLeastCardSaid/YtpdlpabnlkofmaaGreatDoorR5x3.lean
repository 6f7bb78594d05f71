/-
  Part 3.
-/
import Derived.Test.YtpdlpabnlkofmaaGreatDoorR5x2
set_option maxHeartbeats 8000000
set_option linter.all false
set_option maxRecDepth 100000
open Go.Fw.Flat renaming val->j0,enc->kp,sz->m8
open ByteArray renaming mk->kE,size->abI
open List renaming getElem?_eq_some_iff->kO,mem_of_getElem?->la,take_of_length_le->ld,getElem?_eq_getElem->l0,length_append->l1,length_take->l2,length_singleton->mv,getElem?_eq_none->n0,length_map->n4,append_assoc->n5,getD_eq_getElem?_getD->oj,mem_map->oG,getElem?_map->pO,mem_append->pX,take_append_drop->qa,length_drop->rf,replicate->sk,length_eq_zero_iff->sl,mem_cons->s4,drop_drop->tj,take_add_one->tz,drop_eq_getElem_cons->u1,getElem?_append_left->u3,range->u7,map_append->vH,drop_eq_nil_of_le->vM,ext_getElem?->wS,any_eq_true->ya,any_eq_false->Bu,getElem?_set_self->BX,getElem?_eq_none_iff->CB,drop_left->FF,getElem_of_mem->FY,getElem?_set_ne->Iq,nodup_cons->Kk,map_map->Km,take_left->Nc,mem_range->Nd,toArray->PM,getElem?_eraseIdx_of_lt->P7,getElem?_eraseIdx_of_ge->P8,drop_zero->Q8,getElem_inj->aaF,cons->aby
open Nat renaming zero_le->l6,le_refl->pb,zero_add->u4,min_eq_left->Gk,le_of_lt->Zw
open Go.Fw.Deep renaming dr->ml
open Option renaming bind_some->nj,some->oq,map_some->F1
open Go.Value renaming int->n3,bool->xl,tuple->Ej,string->H4
open Go.Instr renaming sliceAt->ob,index->vp,sliceBounds->v7,mapUpdate->xu,lookup->yy,keyThatStays->Oh,makeMap->P1,findKey->S4
open Bool renaming and_eq_true->oi,not_eq_true'->sQ,true_and->Ac
open Int renaming toNat_natCast->qb,mul_le_mul->K0,toNat->abz
open Decidable renaming not_not->uh
open Array renaming toList_push->Zu
namespace Go.Proofs.YtpdlpabnlkofmaaGreatDoor
open Go.Fw
inductive Bk where
 | nil
 | cons (x:bQ) (a b r:Bk)
namespace Bk
def flat:Bk->List bQ|nil=>[]|cons x a b r=>x::(a.flat++(b.flat++r.flat))
def len:Bk->Nat|nil=>0|cons _ a b r=>a.len+b.len+r.len+1
def str:Bk->Prop|nil=>True|cons x a b r=>x.body=a.len/\x.ey=b.len/\a.len<=40/\b.len<=40/\a.str/\b.str/\r.str
def DH(x:bQ)(loops:Int):Int:=if x.kind=12 then loops+1 else loops
def zL(x:bQ):Bool:=decide (x.kind=11\/x.kind=12)
def yo(x:bQ)(loops:Int):Bool:=decide ((x.body<=0\/x.kind=11\/x.kind=12)/\(x.ey<=0\/x.kind=11)/\(¬ x.kind=13\/¬ loops=0))
def ok:Bk->Int->Bool|nil,_=>true|cons x a b r,n=>yo x n&&a.ok (DH x n)&&b.ok (DH x n)&&r.ok n
def depth:Bk->Int|nil=>0|cons x a b r=>if zL x then max (max (1+a.depth) (1+b.depth)) r.depth else r.depth
end Bk
theorem Bk.cY(t:Bk):t.flat.length=t.len:=by
 induction t with
 | nil=>rfl
 | cons x a b r B E u=>grind[flat,len]
theorem Bk.A4(t:Bk):0<=t.depth/\t.depth<=t.len:=by
 induction t with
 | nil=>simp[Bk.depth,Bk.len]
 | cons x a b r B E u=>
  grind[depth,len]
def VF:Nat->List bQ->Option Bk
 | _,[]=>some .nil
 | 0,_::_=>none
 | n+1,x::l=>
  if 0<=x.body/\0<=x.ey/\x.body<=40/\x.ey<=40/\x.body+x.ey<=l.length then
   match VF n (l.take x.body.toNat),VF n ((l.drop x.body.toNat).take x.ey.toNat),VF n (l.drop (x.body.toNat+x.ey.toNat))with
   | some a,some b,some r=>some (.cons x a b r)
   | _,_,_=>none
  else none
theorem yp:∀n l t,VF n l=some t->l=t.flat/\t.str
 | _,[],t,h=>by
  have h:some Bk.nil=some t:=by unfold VF at h;exact h
  cases h;exact⟨rfl,trivial⟩
 | 0,x::l,t,h=>by cases h
 | n+1,x::l,t,h=>by
  unfold VF at h
  split at h
  .rename_i hb
   obtain⟨h1,h2,h3,h4,h5⟩:=hb
   cases ha:VF n (l.take x.body.toNat)with
   | none=>grind
   | some a=>
    cases hb:VF n ((l.drop x.body.toNat).take x.ey.toNat)with
    | none=>grind
    | some b=>
     cases hr:VF n (l.drop (x.body.toNat+x.ey.toNat))with
     | none=>grind
     | some r=>
      rw[ha,hb,hr]at h
      cases h
      obtain⟨u,I⟩:=yp n _ _ ha
      obtain⟨b1,b2⟩:=yp n _ _ hb
      obtain⟨G,E⟩:=yp n _ _ hr
      have B:=gQ List.length u
      have lb:=gQ List.length b1
      rw[Bk.cY,l2]at B
      rw[Bk.cY,l2,rf]at lb
      refine⟨?_,bO,bO,bO,bO,I,b2,E⟩
      unfold Bk.flat
      rw[<- u,<- b1,<- G,<- tj,qa,qa]
  .cases h
theorem Xn(t:Bk):t.str->∀n,t.len<=n->VF n t.flat=some t:=by
 induction t with
 | nil=>intro _ n _;cases n<;>rfl
 | cons x a b r G I u=>
  intro h n B
  obtain⟨h1,h2,h3,h4,E,hb,J⟩:=h
  cases n with
  | zero=>simp[Bk.len]at B
  | succ n=>
   have B:a.len+b.len+r.len<=n:=by simp[Bk.len]at B;omega
   have M:=a.cY
   have lb:=b.cY
   unfold Bk.flat VF
   rw[ej ⟨bO,bO,bO,bO,cL⟩,show x.body.toNat=a.flat.length from bO,Nc,FF,show x.ey.toNat=b.flat.length from bO,Nc,<- tj,FF,FF,
    G E n bO,I hb n bO,u J n bO]
def tA(l:List bQ):Option Bk:=VF l.length l
def n7{l:List bQ}{t:Bk}(h:tA l=some t):l=t.flat/\t.str:=yp _ _ _ h
theorem rV{t:Bk}(h:t.str):tA t.flat=some t:=Xn t h _ (by rw[Bk.cY];omega)
def fE(l:List bQ)(loops:Int):Int:=match tA l with|some t=>if t.ok loops then t.depth else -1|none=>-1
theorem B9(loops:Int):fE [] loops=0:=rfl
theorem tO(l:List bQ)(loops:Int) : -1<=fE l loops/\fE l loops<=l.length:=by
 unfold fE
 cases h:tA l with
 | none=>grind
 | some t=>
  obtain⟨rfl,_⟩:=n7 h
  have:=t.A4
  simp only[Bk.cY]
  omega
def uU(x:bQ)(l:List bQ):Prop:=0<=x.body/\0<=x.ey/\x.body<=40/\x.ey<=40/\x.body+x.ey<=l.length
theorem T7{x:bQ}{l:List bQ}{loops:Int}(h:¬ (uU x l/\Bk.yo x loops=true)):fE (x::l) loops = -1:=by
 unfold fE
 cases hb:tA (x::l)with
 | none=>rfl
 | some t=>
  obtain⟨u,B⟩:=n7 hb
  cases t with
  | nil=>cases u
  | cons y a b r=>
   obtain⟨rfl,rfl⟩:=aby.inj u
   obtain⟨h1,h2,h3,h4,_⟩:=B
   have:Bk.yo x loops=false:=by
    cases hk:Bk.yo x loops with
    | false=>rfl
    | true=>exact absurd ⟨⟨bO,bO,bO,bO,by simp[Bk.cY];omega⟩,hk⟩ h
   have h:(Bk.cons x a b r).ok loops=false:=by unfold Bk.ok;grind
   grind
theorem EP{x:bQ}{l:List bQ}{loops:Int}(h:uU x l)(Z:Bk.yo x loops=true) :
  fE (x::l) loops=(let A:=fE (l.take x.body.toNat) (Bk.DH x loops);let B:=fE ((l.drop x.body.toNat).take x.ey.toNat) (Bk.DH x loops);let R:=fE (l.drop (x.body.toNat+x.ey.toNat)) loops
   if A<0\/B<0\/R<0 then -1 else if Bk.zL x then max (max (1+A) (1+B)) R else R):=by
 obtain⟨h1,h2,h3,h4,h5⟩:=h
 have e:l=l.take x.body.toNat++((l.drop x.body.toNat).take x.ey.toNat++l.drop (x.body.toNat+x.ey.toNat)):=by
  rw[<- tj,qa,qa]
 have W:(l.take x.body.toNat).length=x.body.toNat:=cL
 have lb:((l.drop x.body.toNat).take x.ey.toNat).length=x.ey.toNat:=by rw[l2,rf];omega
 simp only[]
 have O:∀t,tA (x::l)=some t->∃a b r,t=.cons x a b r/\tA (l.take x.body.toNat)=some a/\tA ((l.drop x.body.toNat).take x.ey.toNat)=some b/\tA (l.drop (x.body.toNat+x.ey.toNat))=some r:=by
  intro t ht
  obtain⟨J,V⟩:=n7 ht
  cases t with
  | nil=>cases J
  | cons y a b r=>
   obtain⟨rfl,E⟩:=aby.inj J
   obtain⟨g1,g2,_,_,u,hb,G⟩:=V
   have I:x.body.toNat=a.flat.length:=by rw[Bk.cY];omega
   have M:x.ey.toNat=b.flat.length:=by rw[Bk.cY];omega
   refine⟨a,b,r,rfl,?_,?_,?_⟩
   .rw[E,I,Nc];exact rV u
   .rw[E,I,M,FF,Nc];exact rV hb
   .rw[E,<- tj,I,M,FF,FF];exact rV G
 cases u:tA (l.take x.body.toNat)with
 | none=>
  have:tA (x::l)=none:=by
   cases hh:tA (x::l)with
   | none=>rfl
   | some t=>grind
  unfold fE;rw[this,u];simp
 | some a=>
  cases hb:tA ((l.drop x.body.toNat).take x.ey.toNat)with
  | none=>
   have:tA (x::l)=none:=by
    cases hh:tA (x::l)with
    | none=>rfl
    | some t=>grind
   unfold fE;rw[this,hb];simp
  | some b=>
   cases G:tA (l.drop (x.body.toNat+x.ey.toNat))with
   | none=>
    have:tA (x::l)=none:=by
     cases hh:tA (x::l)with
     | none=>rfl
     | some t=>grind
    unfold fE;rw[this,G];simp
   | some r=>
    obtain⟨U,a2⟩:=n7 u
    obtain⟨b1,b2⟩:=n7 hb
    obtain⟨r1,Y⟩:=n7 G
    have E:x::l=(Bk.cons x a b r).flat:=by unfold Bk.flat;grind
    rw[U,Bk.cY]at W
    rw[b1,Bk.cY]at lb
    have:tA (x::l)=some (.cons x a b r):=by rw[E];exact rV ⟨bO,bO,bO,bO,a2,b2,Y⟩
    have na:=a.A4
    have nb:=b.A4
    have nr:=r.A4
    unfold fE
    rw[this,u,hb,G]
    simp only[Bk.ok,Z,Ac]
    cases h1:a.ok (Bk.DH x loops)<;>cases h2:b.ok (Bk.DH x loops)<;>cases h3:r.ok loops<;>simp[Bk.depth]
    omega
def sE(n d:Int):Int:=if d<0 then -1 else max n d
def Ji{xs l:List bQ}{x:bQ}{loops n:Int}(h:fE xs loops=sE n (fE (x::l) loops))(hb:¬ (uU x l/\Bk.yo x loops=true)):fE xs loops = -1:=by
 rw[h,T7 hb];rfl
def Xo{xs l:List bQ}{x:bQ}{loops n:Int}(h:fE xs loops=sE n (fE (x::l) loops))(I:uU x l)(G:Bk.yo x loops=true)(hb:Bk.zL x=true)(A B:Int)
  (E:A=fE (l.take x.body.toNat) (Bk.DH x loops)) (u:B=fE ((l.drop x.body.toNat).take x.ey.toNat) (Bk.DH x loops)) :
  (A<0\/B<0->fE xs loops = -1)/\(¬ (A<0\/B<0)->fE xs loops=sE (max (max n (1+A)) (1+B)) (fE (l.drop (x.body.toNat+x.ey.toNat)) loops)):=by
 have J:=tO (l.drop (x.body.toNat+x.ey.toNat)) loops
 rw[h,EP I G]
 simp only[<- E,<- u,hb,if_true]
 unfold sE
 constructor<;>intro h<;>repeat' split
 all_goals omega
def agh{xs l:List bQ}{x:bQ}{loops n:Int}(h:fE xs loops=sE n (fE (x::l) loops))(E:uU x l)(B:Bk.yo x loops=true)(hb:Bk.zL x=false) :
  fE xs loops=sE n (fE (l.drop (x.body.toNat+x.ey.toNat)) loops):=by
 have u:x.body=0/\x.ey=0:=by
  unfold Bk.yo at B
  unfold Bk.zL at hb
  obtain⟨h1,h2,_⟩:=E
  grind
 rw[h,EP E B,u.1,u.2]
 have G:l.take (abz 0)=[]:=rfl
 have I:(l.drop (abz 0)).take (abz 0)=[]:=rfl
 simp only[hb,G,I,B9]
 unfold sE
 repeat' split
 all_goals first|omega|simp_all
theorem drop_cons{α:Type}{xs:List α}{k:Nat}{x:α}(h:xs[k]?=some x):xs.drop k=x::xs.drop (k+1):=by
 obtain⟨h1,h2⟩:=kO.1 h
 rw[u1 h1,h2]
theorem vB{α:Type}(xs:List α){a b c n:Nat}(h:b=a+n)(hc:c=a):(xs.take b).drop c=(xs.drop a).take n:=by
 subst h hc;rw[List.drop_take,Nat.add_sub_cancel_left]
def T8:List ByteArray:=[⟨#[]⟩,⟨#[114,101]⟩,⟨#[114,110]⟩,⟨#[110,101]⟩,⟨#[114,110,101,102]⟩,⟨#[110]⟩,⟨#[110]⟩,⟨#[]⟩,⟨#[]⟩,⟨#[110]⟩,⟨#[110]⟩,⟨#[101,98]⟩,⟨#[107,98]⟩,⟨#[]⟩,⟨#[101]⟩]
def fG(k:Int):ByteArray:=if k<1\/14<k then⟨#[]⟩else T8.getD k.toNat ⟨#[]⟩
def eT(s:ByteArray)(c:Int):Bool:=(iQ s).any λb=>decide ((b.toNat:Int)=c)
def nf(x:bQ):Bool:=
 !(decide (x.kind<1)||decide (14<x.kind)||decide (x.at_<0)||decide (4000<x.at_)) &&
 !((eT (fG x.kind) 114 != gN x.eG)||(!eT (fG x.kind) 114&&decide (¬ x.eG=⟨#[]⟩))||(eT (fG x.kind) 110 != gN x.name)||(!eT (fG x.kind) 110&&decide (¬ x.name=⟨#[]⟩))) &&
 !((eT (fG x.kind) 101 != fB x.e)||(!eT (fG x.kind) 101&&decide (0<x.e.length))||(eT (fG x.kind) 102 != fB x.f)||(!eT (fG x.kind) 102&&decide (0<x.f.length))) &&
 (if eT (fG x.kind) 107=true then decide (1<=x.n/\x.n<=8)else decide (x.n=0))
def pQ(l:List bQ):Bool:=decide (l.length<=40)&&!l.any (λx=>!nf x)&&decide (0<=fE l 0/\fE l 0<=12)
def rJ(n:Int):Bool:=decide (0<=n/\n<=4000)
def iS(u:Int)(c:cK):Bool:=!gN c.name||decide (c.n<0)||decide (u<c.n)||!rJ c.at_
def n8(u:Int)(l:List cK):Bool:=!l.any (iS u)
def sF(nb:Bool)(t:cO):Bool:=(nb != gN t.name)||(!nb&&decide (¬ t.name=⟨#[]⟩))||!rJ t.at_||!pQ t.body
def mG(nb:Bool)(t:cO):Bool:=sF nb t||t.dQ.any (λs=>!gN s)
def nP(nb:Bool)(l:List cO):Bool:=!l.any (mG nb)
def nU(l:List cK):Bool:=decide ((l.length:Int)=0)||!n8 4294967296 l
def lU(c:gS):Bool:=!rJ c.at_||!fB c.e
def ky(p:cB):Bool:=!p.lines.any nU&&!p.dT.any lU&&(n8 4294967296 p.iR&&n8 0 p.eK&&nP true p.threads&&nP false p.recover&&decide (p.recover.length<=1))
def SzS(x:bQ):Prop:=x.eG.size<=1048576/\x.name.size<=1048576/\x.e.length<=1048576/\x.f.length<=1048576/\(∀y∈x.e,y.name.size<=1048576)/\(∀y∈x.f,y.name.size<=1048576)
def Xp(t:cO):Prop:=t.name.size<=1048576/\(∀s∈t.dQ,s.size<=1048576)/\(∀x∈t.body,SzS x)
structure PZ(p:cB):Prop extends PS p where
 zl:∀l∈p.lines,∀c∈l,c.name.size<=1048576
 zv:∀c∈p.iR,c.name.size<=1048576
 zk:∀c∈p.eK,c.name.size<=1048576
 zt:∀t∈p.threads,Xp t
 zr:∀t∈p.recover,Xp t
 zc:∀c∈p.dT,c.e.length<=1048576/\∀y∈c.e,y.name.size<=1048576
def ER(k:Int):(fG k).size<=1048576:=by
 unfold fG
 split
 .decide
 rename_i h
 obtain rfl|rfl|rfl|rfl|rfl|rfl|rfl|rfl|rfl|rfl|rfl|rfl|rfl|rfl:k=1\/k=2\/k=3\/k=4\/k=5\/k=6\/k=7\/k=8\/k=9\/k=10\/k=11\/k=12\/k=13\/k=14:=bO
 all_goals decide
def C315(k:Int)(w:World):CR 315 [hZ k] w (λv w'=>v=.string (fG k)/\Ext w w'):=by
 have u:=St.start w;refine acn _ _ _ ?_;unfold S315;refine⟨λI w'=>I=.bool (decide (k<1\/14<k))/\w=w',aR (aC (λ_=>⟨Oi bO,rfl⟩) λ_=>cN ⟨yN bO,rfl⟩),?_⟩;rintro _ _ ⟨rfl,M⟩ _;subst M;refine aC (λB=>?_) (λB=>?_)
 .refine⟨?_,u.aG⟩;unfold fG;rw[ej B]
 refine bD T8 u iD rfl rfl (dL rfl) (λJ _ u=>?_);have O:T8.length=15:=rfl;obtain⟨U,E⟩:=gx T8 (i:=k.toNat) bO;refine dR u iD bO bO (λ_ G=>gP u gA G E ?_);refine⟨?_,u.aG⟩;unfold fG;rw[ei B,oj,E];rfl
def C316(s:ByteArray)(c:Int)(w:World)(U:s.size<=1048576):CR 316 [.string s,.int .u8 c] w (λv w'=>v=.bool (eT s c)/\Ext w w'):=by
 have u:=St.start w;refine eZ Tryz.func316 ?_;refine⟨λm x I=>∃k:Nat,x=hZ (k:Int)/\m=(iQ s).length-k/\k<=(iQ s).length/\(∀y∈(iQ s).take k,decide ((y.toNat:Int)=c)=false)/\St w aZ [] I,⟨_,0,rfl,rfl,l6 _,ee,u⟩,?_⟩;rintro m _ I ⟨k,rfl,rfl,M,E,u⟩ _;rw[eX]at M;have V:=eX s;refine fj iq (aR (aC (λO=>?_) λO=>?_))
 .obtain⟨W,G⟩:∃J,(iQ s)[(k:Int).toNat]?=some J:=⟨_,l0 (by rw[eX];omega)⟩;exact jY iq bO G (nL (aC (λB=>⟨vb (ig G (ew B)).symm,u.aG⟩) λB=>aO bO ⟨_,bO,k+1,rfl,rfl,bO,dY E G (fP B),u⟩))
 rw[ld bO]at E;exact⟨vb (iE E).symm,u.aG⟩
def C288(x:bQ)(xv:bE)(w:World)(hx:ml w xv x)(B:SzS x):CR 288 [j0 xv] w (λv w'=>v=.bool (nf x)/\Ext w w'):=by
 obtain⟨U,O,rfl,LN,Ht⟩:=hx;have u:=St.start w;refine eZ Tryz.func288 ?_;refine cG u (λV _ u=>⟨λG w'=>G=.bool (decide (x.kind<1)||decide (14<x.kind)||decide (x.at_<0)||decide (4000<x.at_))/\St w aZ [bY V (kp (⟨x.kind,x.eG,x.name,U,O,x.n,x.body,x.ey,x.at_⟩:bE))] w',?_,?_⟩)
 .refine aA dO (aB (v:=hZ x.kind) bL u.hb rfl ?_);exact aR (aC (λ_=>⟨vb cL,u⟩) λ_=>aA dO (aB (v:=hZ x.kind) bL u.hb rfl (cN (aC (λ_=>⟨vb cL,u⟩) λ_=>aA lM (aB (v:=hZ x.at_) bL u.hb rfl (aR (aC (λ_=>⟨vb cL,u⟩) λ_=>aA lM (aB (v:=hZ x.at_) bL u.hb rfl (cN ⟨vb cL,u⟩)))))))))
 rintro _ _ ⟨rfl,u⟩ _;refine aY (λjG=>?_) (λjG=>aA dO (aB (v:=hZ x.kind) bL u.hb rfl (aV anz u (C315 _ _) λ_ E u=>aV KT u (C316 _ _ _ (ER _)) λ_ E u=>aV KT u (C316 _ _ _ (ER _)) λ_ E u=>aV KT u (C316 _ _ _ (ER _)) λ_ E u=>aV KT u (C316 _ _ _ (ER _)) λ_ E u=>⟨λG w'=>G=.bool ((eT (fG x.kind) 114 != gN x.eG)||(!eT (fG x.kind) 114&&decide (¬ x.eG=⟨#[]⟩))||(eT (fG x.kind) 110 != gN x.name)||(!eT (fG x.kind) 110&&decide (¬ x.name=⟨#[]⟩)))/\St w aZ [bY V (kp (⟨x.kind,x.eG,x.name,U,O,x.n,x.body,x.ey,x.at_⟩:bE))] w',?_,?_⟩)))
 .refine⟨vb ?_,u.drop.aG⟩;unfold nf;simp only[*]
  first|done|rfl|simp
 .refine aA iH (aB (v:=.string x.eG) gA u.hb rfl (aV uE u (C211 _ _ B.1) λ_ E u=>sd Le (aY (λ_=>⟨vb cL,u⟩) λv9=>bR (aY (λA5=>?_) λ_=>aA gh (aB (v:=.string x.name) gA u.hb rfl (aV uE u (C211 _ _ B.2.1) λ_ _ u=>sd Le (aY (λ_=>⟨vb cL,u⟩) λ_=>bR (aY (λ_=>aA gh (aB (v:=.string x.name) gA u.hb rfl (ma ⟨vb cL,u⟩))) λ_=>⟨vb cL,u⟩))))))));refine aA iH ?_;exact aB (v:=.string x.eG) gA u.hb rfl (ma (aC (λ_=>⟨vb cL,u⟩) λ_=>aA gh (aB (v:=.string x.name) gA u.hb rfl (aV uE u (C211 _ _ B.2.1) λ_ _ u=>sd Le (aY (λ_=>⟨vb cL,u⟩) λ_=>bR (aY (λ_=>aA gh (aB (v:=.string x.name) gA u.hb rfl (ma ⟨vb cL,u⟩))) λ_=>⟨vb cL,u⟩))))))
 rintro _ _ ⟨rfl,u⟩ _;refine aY (λW=>?_) (λW=>⟨λG w'=>G=.bool ((eT (fG x.kind) 101 != fB x.e)||(!eT (fG x.kind) 101&&decide (0<x.e.length))||(eT (fG x.kind) 102 != fB x.f)||(!eT (fG x.kind) 102&&decide (0<x.f.length)))/\St w aZ [bY V (kp (⟨x.kind,x.eG,x.name,U,O,x.n,x.body,x.ey,x.at_⟩:bE))] w',?_,?_⟩)
 .refine⟨vb ?_,u.drop.aG⟩;unfold nf;simp only[*]
  first|done|rfl|simp
 .refine aA iX (aB jz u.hb rfl ?_);have M:=DL.flat LN;refine aV KO u (C200 _ _ _ (M.ext u.aG) B.2.2.1 B.2.2.2.2.1) (λ_ E u=>sd Le (aY (λ_=>⟨vb cL,u⟩) λHu=>bR (aY (λZ=>aA iX (aB jz u.hb rfl (aK gY (M.ext u.aG) (cN (aC (λ_=>⟨vb cL,u⟩) λR8=>?_))))) λZ=>?_)))
  .refine aA j9 (aB jz u.hb rfl ?_);have I:=DL.flat Ht;exact aV KO u (C200 _ _ _ (I.ext u.aG) B.2.2.2.1 B.2.2.2.2.2) (λ_ _ u=>sd Le (aY (λ_=>⟨vb cL,u⟩) λ_=>bR (aY (λ_=>aA j9 (aB jz u.hb rfl (aK gY (I.ext u.aG) (cN ⟨vb cL,u⟩)))) λ_=>⟨vb cL,u⟩)))
  refine aA j9 (aB jz u.hb rfl ?_);have J:=DL.flat Ht;exact aV KO u (C200 _ _ _ (J.ext u.aG) B.2.2.2.1 B.2.2.2.2.2) (λ_ _ u=>sd Le (aY (λ_=>⟨vb cL,u⟩) λ_=>bR (aY (λ_=>aA j9 (aB jz u.hb rfl (aK gY (J.ext u.aG) (cN ⟨vb cL,u⟩)))) λ_=>⟨vb cL,u⟩)))
 rintro _ _ ⟨rfl,u⟩ _;refine aY (λY=>?_) (λY=>aV KT u (C316 _ _ _ (ER _)) λ_ E u=>aY (λCa=>⟨λG w'=>G=.bool (decide (1<=x.n/\x.n<=8))/\St w aZ [bY V (kp (⟨x.kind,x.eG,x.name,U,O,x.n,x.body,x.ey,x.at_⟩:bE))] w',aA jS (aB (v:=hZ x.n) bL u.hb rfl (cR (aC (λ_=>aA jS (aB (v:=hZ x.n) bL u.hb rfl (gZ ⟨vb cL,u⟩))) λ_=>⟨vb cL,u⟩))),?_⟩) λCa=>?_)
 .refine⟨vb ?_,u.drop.aG⟩;unfold nf;simp only[*]
  first|done|rfl|simp
 .rintro _ _ ⟨rfl,u⟩ _;refine⟨vb ?_,u.drop.aG⟩;unfold nf;simp only[*]
  first|done|rfl|simp
 refine aA jS (aB (v:=hZ x.n) bL u.hb rfl (aH ?_));refine⟨vb ?_,u.drop.aG⟩;unfold nf;simp only[*]
 first|done|rfl|simp
theorem C289(lv:Value)(xs:List bQ)(loops:Int)(N:Nat)(w:World)(hL:DL w lv xs)(hn:xs.length<=1048576)(hlo:0<=loops)(Om:loops+N<=4194304)(hN:xs.length<N):CR 289 [lv,hZ loops] w (λv w'=>v=hZ (fE xs loops)/\Ext w w'):=by
 have E:=St.start w;refine aci _ _ _ _ ?_;unfold S289;refine⟨λm y x w1=>∃(k:Nat) (n:Int),y=hZ n/\x=hZ (k:Int)/\m=xs.length-k/\k<=xs.length/\0<=n/\n<=41/\fE xs loops=sE n (fE (xs.drop k) loops)/\St w aZ [] w1,⟨_,0,0,rfl,rfl,rfl,bO,bO,bO,by have:=tO xs loops;rw[Q8];unfold sE;split<;>omega,E⟩,?_⟩;rintro m _ _ w1 ⟨k,n,rfl,rfl,rfl,hk,VG,Xe,hinv,E⟩ _;obtain⟨ts7,G,J⟩:=hL.open;have hn7:=J.1;refine aK fq (G.ext E.aG) (aR (aC (λjs=>?_) λjs=>?_))
 .obtain⟨rn,ja⟩:=gx ts7 (i:=(k:Int).toNat) bO;obtain⟨u,ET⟩:=gx xs (i:=(k:Int).toNat) bO;obtain⟨M,O,rfl,acV,acW⟩:=J.2 _ _ _ ja ET;refine aQ fq (G.ext E.aG) bO ja (λ_ uR=>?_);have hdk:=drop_cons (xs:=xs) (k:=k) ET;rw[hdk]at hinv;have EU:(xs.drop (k+1)).length=xs.length-(k+1):=rf;refine aD eN uR (aM E jA λV _ E=>aJ (x:=(⟨u.kind,u.eG,u.name,M,O,u.n,u.body,u.ey,u.at_⟩:bE)) E eN rfl rfl λ_ E=>⟨λI w'=>I=.bool (decide (u.body<0)||decide (u.ey<0)||decide (40<u.body)||decide (40<u.ey)||decide ((xs.length:Int)<k+1+u.body+u.ey))/\St w aZ [bY V (kp (⟨u.kind,u.eG,u.name,M,O,u.n,u.body,u.ey,u.at_⟩:bE))] w',aA iY (aB (v:=hZ u.body) bL E.hb rfl (aR (aC (λ_=>⟨vb cL,E⟩) λiP=>aA iI (aB (v:=hZ u.ey) bL E.hb rfl (aR (aC (λ_=>⟨vb cL,E⟩) λyY=>aA iY (aB (v:=hZ u.body) bL E.hb rfl (cN (aC (λ_=>⟨vb cL,E⟩) λmi=>?_))))))))),?_⟩)
  .exact aA iI (aB (v:=hZ u.ey) bL E.hb rfl (cN (aC (λ_=>⟨vb cL,E⟩) λ_=>aO bO (aA iY (aB (v:=hZ u.body) bL E.hb rfl (aO bO (aA iI (aB (v:=hZ u.ey) bL E.hb rfl (aO bO (aK fq (G.ext E.aG) (cN ⟨vb cL,E⟩)))))))))))
  rintro _ _ ⟨rfl,E⟩ _;refine aY (λ_=>⟨gQ (n3 .i64) (Ji hinv (by unfold uU;grind)).symm,E.drop.aG⟩) (λLK=>?_);have oO:uU u (xs.drop (k+1)):=by unfold uU;grind
  refine⟨λI w'=>I=.bool (!Bk.yo u loops)/\St w aZ [bY V (kp (⟨u.kind,u.eG,u.name,M,O,u.n,u.body,u.ey,u.at_⟩:bE))] w',aA iY (aB (v:=hZ u.body) bL E.hb rfl (cN (aC (λCQ=>aA dO (aB (v:=hZ u.kind) bL E.hb rfl (bX (aC (λaog=>aA dO (aB (v:=hZ u.kind) bL E.hb rfl (bX (aC (λ_=>⟨vb (by unfold Bk.yo;grind),E⟩) λR9=>?_)))) λaog=>?_)))) λCQ=>?_))),?_⟩
  .refine aA iI (aB (v:=hZ u.ey) bL E.hb rfl (cN (aC (λ_=>aA dO (aB (v:=hZ u.kind) bL E.hb rfl (bX (aC (λ_=>⟨vb (by unfold Bk.yo;grind),E⟩) λ_=>aA dO (aB (v:=hZ u.kind) bL E.hb rfl (aH (aC (λ_=>aH ⟨vb (by unfold Bk.yo;grind),E⟩) λ_=>⟨vb (by unfold Bk.yo;grind),E⟩))))))) λxd=>?_)));exact aA dO (aB (v:=hZ u.kind) bL E.hb rfl (aH (aC (λ_=>aH ⟨vb (by unfold Bk.yo;grind),E⟩) λ_=>⟨vb (by unfold Bk.yo;grind),E⟩)))
  .refine aA iI (aB (v:=hZ u.ey) bL E.hb rfl (cN (aC (λ_=>aA dO (aB (v:=hZ u.kind) bL E.hb rfl (bX (aC (λ_=>⟨vb (by unfold Bk.yo;grind),E⟩) λ_=>aA dO (aB (v:=hZ u.kind) bL E.hb rfl (aH (aC (λ_=>aH ⟨vb (by unfold Bk.yo;grind),E⟩) λ_=>⟨vb (by unfold Bk.yo;grind),E⟩))))))) λas5=>?_)));exact aA dO (aB (v:=hZ u.kind) bL E.hb rfl (aH (aC (λ_=>aH ⟨vb (by unfold Bk.yo;grind),E⟩) λ_=>⟨vb (by unfold Bk.yo;grind),E⟩)))
  .refine aA iI (aB (v:=hZ u.ey) bL E.hb rfl (cN (aC (λ_=>aA dO (aB (v:=hZ u.kind) bL E.hb rfl (bX (aC (λ_=>⟨vb (by unfold Bk.yo;grind),E⟩) λ_=>aA dO (aB (v:=hZ u.kind) bL E.hb rfl (aH (aC (λ_=>aH ⟨vb (by unfold Bk.yo;grind),E⟩) λ_=>⟨vb (by unfold Bk.yo;grind),E⟩))))))) λas6=>?_)));exact aA dO (aB (v:=hZ u.kind) bL E.hb rfl (aH (aC (λ_=>aH ⟨vb (by unfold Bk.yo;grind),E⟩) λ_=>⟨vb (by unfold Bk.yo;grind),E⟩)))
  rintro _ _ ⟨rfl,E⟩ _;refine aY (λ_=>⟨gQ (n3 .i64) (Ji hinv cL).symm,E.drop.aG⟩) (λagl=>?_);have kG:Bk.yo u loops=true:=cL
  have aie:=oO;unfold uU at aie;refine aO bO (aA iY (have E:=E.drew;aB (v:=hZ u.body) bL E.hb rfl (aO bO ⟨λI w'=>I=hZ (Bk.DH u loops)/\St w aZ [bY V (kp (⟨u.kind,u.eG,u.name,M,O,u.n,u.body,u.ey,u.at_⟩:bE))] w',aA dO (aB (v:=hZ u.kind) bL E.hb rfl (aH (aC (λ_=>aO bO ⟨gQ (n3 .i64) (by unfold Bk.DH;grind),E⟩) λ_=>⟨gQ (n3 .i64) (by unfold Bk.DH;grind),E⟩))),?_⟩)));rintro _ _ ⟨rfl,E⟩ _;have tm:loops<=Bk.DH u loops/\Bk.DH u loops<=loops+1:=by unfold Bk.DH;split<;>omega
  refine⟨λI w'=>∃U:Int,I=hZ U/\0<=U/\U<=41/\fE xs loops=sE U (fE (xs.drop (k+1+(u.body.toNat+u.ey.toNat))) loops)/\St w aZ [bY V (kp (⟨u.kind,u.eG,u.name,M,O,u.n,u.body,u.ey,u.at_⟩:bE))] w',⟨λI w'=>I=.bool (decide (u.kind=11)||decide (u.kind=12))/\St w aZ [bY V (kp (⟨u.kind,u.eG,u.name,M,O,u.n,u.body,u.ey,u.at_⟩:bE))] w',aA dO (aB (v:=hZ u.kind) bL E.hb rfl (aH (aC (λ_=>⟨vb cL,E⟩) λ_=>aA dO (aB (v:=hZ u.kind) bL E.hb rfl (aH ⟨vb cL,E⟩))))),?_⟩,?_⟩
  .rintro _ _ ⟨rfl,E⟩ _;refine aY (λaif=>?_) (λaif=>?_)
   .refine aO bO (oB fq (G.ext E.aG) bO bO bO λavx acX=>?_);have acY:=DL.cut acX G J;refine aA iI (have E:=E.drew;aB (v:=hZ u.ey) bL E.hb rfl (aO bO (oB fq (G.ext E.aG) bO bO bO λavy acZ=>?_)));have ac0:=DL.cut acZ G J;have Y:((xs.take (((k:Int)+1)+u.body).toNat).drop ((k:Int)+1).toNat)=(xs.drop (k+1)).take u.body.toNat:=vB xs bO bO;have Z:((xs.take ((((k:Int)+1)+u.body)+u.ey).toNat).drop (((k:Int)+1)+u.body).toNat)=((xs.drop (k+1)).drop u.body.toNat).take u.ey.toNat:=by rw[tj];exact vB xs bO bO
    have hlA:((xs.take (((k:Int)+1)+u.body).toNat).drop ((k:Int)+1).toNat).length<=xs.length-1/\((xs.take (((k:Int)+1)+u.body).toNat).drop ((k:Int)+1).toNat).length<=40:=by rw[Y,l2];omega
    have hlB:((xs.take ((((k:Int)+1)+u.body)+u.ey).toNat).drop (((k:Int)+1)+u.body).toNat).length<=xs.length-1/\((xs.take ((((k:Int)+1)+u.body)+u.ey).toNat).drop (((k:Int)+1)+u.body).toNat).length<=40:=by rw[Z,l2,rf];omega
    refine aV Wm E (C289 _ _ _ (N-1) _ (acY.ext E.aG) bO bO bO bO) (λ_ he E=>?_);refine⟨aF bL (E.hb.cell rfl),?_⟩;refine dM Wm (C289 _ _ _ (N-1) _ (ac0.ext E.aG) bO bO bO bO) ?_;rintro _ _ ⟨rfl,he⟩;have E:=E.ext he;obtain⟨A,hA⟩:∃A,A=fE ((xs.take (((k:Int)+1)+u.body).toNat).drop ((k:Int)+1).toNat) (Bk.DH u loops):=⟨_,rfl⟩;obtain⟨B,hB⟩:∃B,B=fE ((xs.take ((((k:Int)+1)+u.body)+u.ey).toNat).drop (((k:Int)+1)+u.body).toNat) (Bk.DH u loops):=⟨_,rfl⟩;have hAb:=tO ((xs.take (((k:Int)+1)+u.body).toNat).drop ((k:Int)+1).toNat) (Bk.DH u loops)
    have hBb:=tO ((xs.take ((((k:Int)+1)+u.body)+u.ey).toNat).drop (((k:Int)+1)+u.body).toNat) (Bk.DH u loops);rw[<- hA]at hAb;rw[<- hB]at hBb;rw[<- hA,<- hB];have T5:=Xo hinv oO kG (by unfold Bk.zL;grind) A B (by rw[hA,Y]) (by rw[hB,Z]);refine⟨λI w'=>I=.bool (decide (A<0\/B<0))/\St w aZ [bY V (kp (⟨u.kind,u.eG,u.name,M,O,u.n,u.body,u.ey,u.at_⟩:bE))] w',aR (aC (λ_=>⟨vb cL,E⟩) λ_=>aR ⟨vb cL,E⟩),?_⟩;rintro _ _ ⟨rfl,E⟩ _;refine aY (λPe=>⟨gQ (n3 .i64) (T5.1 (gR Pe)).symm,E.drop.aG⟩) (λPe=>aO bO (aO bO (LA ?_)))
    have Xq:=T5.2 (g6 Pe);rw[tj]at Xq;exact⟨_,rfl,bO,bO,Xq,E⟩
   have W:=agh hinv oO kG (by unfold Bk.zL;grind);rw[tj]at W;exact⟨_,rfl,VG,Xe,W,E⟩
  rintro _ _ ⟨U,rfl,aii,aij,Xr,E⟩ _;exact aA iI (aB (v:=hZ u.ey) bL E.hb rfl (aO bO ⟨_,bO,k+1+(u.body.toNat+u.ey.toNat),U,rfl,gQ (n3 .i64) bO,rfl,bO,aii,aij,Xr,E.drop⟩))
 rw[vM bO,B9]at hinv;exact⟨gQ (n3 .i64) (by rw[hinv];unfold sE;omega),E.aG⟩
termination_by N
decreasing_by all_goals omega
def C253(lv:Value)(xs:List bQ)(w:World)(Y:DL w lv xs)(hn:xs.length<=1048576)(hz:∀x∈xs,SzS x):CR 253 [lv] w (λv w'=>v=.bool (pQ xs)/\Ext w w'):=by
 have u:=St.start w;refine eZ Tryz.func253 ?_;obtain⟨I,B,E⟩:=Y.open;have hn8:=E.1;refine aK fq (B.ext u.aG) (cN (aC (λgT=>?_) λgT=>?_))
 .refine⟨vb ?_,u.aG⟩;unfold pQ;rw[fP bO];rfl
 refine⟨λm x w1=>∃k:Nat,x=hZ (k:Int)/\m=xs.length-k/\k<=xs.length/\(∀y∈xs.take k,(!nf y)=false)/\St w aZ [] w1,⟨_,0,rfl,rfl,l6 _,ee,u⟩,?_⟩;rintro m _ w1 ⟨k,rfl,rfl,hk,M,u⟩ _;refine aK fq (B.ext u.aG) (aR (aC (λjF=>?_) λjF=>aV Wm u (C289 _ _ _ (xs.length+1) _ (Y.ext u.aG) bO bO bO bO) λ_ he u=>⟨λjv w'=>jv=.bool (decide (0<=fE xs 0/\fE xs 0<=12))/\St w aZ [] w',cR (aC (λ_=>gZ ⟨vb cL,u⟩) λ_=>⟨vb cL,u⟩),?_⟩))
 .obtain⟨Xs,Z⟩:=gx I (i:=(k:Int).toNat) bO;obtain⟨sG,G⟩:=gx xs (i:=(k:Int).toNat) bO;obtain⟨U,O,rfl,J,V⟩:=E.2 _ _ _ Z G;refine aQ fq (B.ext u.aG) bO Z (λ_ AX=>aD eN AX (aV ann u (C288 sG _ _ ⟨U,O,rfl,J.ext u.aG,V.ext u.aG⟩ (hz _ (la G))) λ_ he u=>bR (aY (λW=>?_) λW=>aO bO ⟨_,bO,k+1,rfl,rfl,bO,dY M G W,u⟩)));refine⟨vb ?_,u.aG⟩;unfold pQ;rw[ig G W];simp
 rintro _ _ ⟨rfl,u⟩ _;rw[ld bO]at M;refine⟨vb ?_,u.aG⟩;unfold pQ;rw[iE M,ew (show xs.length<=40 by omega)];rfl
def C199(n:Int)(w:World):CR 199 [hZ n] w (λv w'=>v=.bool (rJ n)/\Ext w w'):=by
 have E:=St.start w;refine eZ Tryz.func199 ?_;refine⟨λu w'=>u=.bool (decide (0<=n/\n<=4000))/\w=w',cR (aC (λ_=>gZ ⟨yN bO,rfl⟩) λ_=>⟨jvF bO,rfl⟩),?_⟩;rintro _ _ ⟨rfl,B⟩ _;subst B;exact⟨rfl,E.aG⟩
def C198(lv:Value)(xs:List cK)(I:Int)(w:World)(E:dA (λ_=>True) w lv xs)(hn:xs.length<=1048576)(hz:∀c∈xs,c.name.size<=1048576):CR 198 [lv,hZ I] w (λv w'=>v=.bool (n8 I xs)/\Ext w w'):=by
 have u:=St.start w;refine eZ Tryz.func198 ?_;refine⟨λm x O=>∃k:Nat,x=hZ (k:Int)/\m=xs.length-k/\k<=xs.length/\(∀y∈xs.take k,iS I y=false)/\St w aZ [] O,⟨_,0,rfl,rfl,l6 _,ee,u⟩,?_⟩;rintro m _ O ⟨k,rfl,rfl,hk,J,u⟩ _;refine aK iu (E.ext u.aG) (aR (aC (λjL=>?_) λjL=>?_))
 .obtain⟨G,B⟩:=gx xs (i:=(k:Int).toNat) bO;refine⟨λjv w'=>jv=.bool (iS I G)/\St w aZ [] w',aQ iu (E.ext u.aG) bO B (λ_ ij=>bV G.name kS ij rfl rfl λ_ U=>aD gA U (aV uE u (C211 _ _ (hz _ (la B))) λ_ he u=>bR (aY (λ_=>⟨vb (by unfold iS;grind),u⟩) λlS=>?_))),?_⟩
  .refine aQ iu (E.ext u.aG) bO B (λ_ A6=>bV G.n sg A6 rfl rfl λ_ Z=>?_);exact aD bL Z (aR (aC (λ_=>⟨vb (by unfold iS;grind),u⟩) λ_=>aQ iu (E.ext u.aG) bO B λ_ mF=>bV G.n sg mF rfl rfl λ_ W=>aD bL W (cN (aC (λ_=>⟨vb (by unfold iS;grind),u⟩) λ_=>aQ iu (E.ext u.aG) bO B λ_ V=>bV G.at_ uL V rfl rfl λ_ Y=>aD bL Y (aV Rw u (C199 _ _) λ_ _ u=>bR ⟨vb (by unfold iS;grind),u⟩)))))
  rintro _ _ ⟨rfl,u⟩ _;refine aY (λM=>?_) (λM=>aO bO ⟨_,bO,k+1,rfl,rfl,bO,dY J B M,u⟩);refine⟨vb ?_,u.aG⟩;unfold n8;rw[ig B M];rfl
 rw[ld bO]at J;refine⟨vb ?_,u.aG⟩;unfold n8;rw[iE J];rfl
def C201(lv:Value)(xs:List cO)(nb:Bool)(w:World)(hL:DL w lv xs)(hn:xs.length<=1048576)(hz:∀t∈xs,Xp t/\t.dQ.length<=500/\t.body.length<=500):CR 201 [lv,.bool nb] w (λv w'=>v=.bool (nP nb xs)/\Ext w w'):=by
 have u:=St.start w;refine eZ Tryz.func201 ?_;refine⟨λm x W=>∃k:Nat,x=hZ (k:Int)/\m=xs.length-k/\k<=xs.length/\(∀y∈xs.take k,mG nb y=false)/\St w aZ [] W,⟨_,0,rfl,rfl,l6 _,ee,u⟩,?_⟩;rintro m _ W ⟨k,rfl,rfl,hk,eH,u⟩ _;obtain⟨ts9,B,U⟩:=hL.open;have hn9:=U.1;refine aK fx (B.ext u.aG) (aR (aC (λgL=>?_) λgL=>?_))
 .obtain⟨Xs,G⟩:=gx ts9 (i:=(k:Int).toNat) bO;obtain⟨E,M⟩:=gx xs (i:=(k:Int).toNat) bO;obtain⟨EV,EW,rfl,Pf,EX⟩:=U.2 _ _ _ G M;have I:=hz _ (la M);refine⟨λjv w'=>jv=.bool (sF nb E)/\St w aZ [] w',aQ fx (B.ext u.aG) bO G (λ_ AX=>bV E.name qx AX rfl rfl λ_ LG=>aD gA LG (aV uE u (C211 _ _ I.1.1) λ_ he u=>sd Le (aY (λ_=>⟨vb (by unfold sF;grind),u⟩) λoD=>?_))),?_⟩
  .refine bR (aY (λnd=>?_) λ_=>aQ fx (B.ext u.aG) bO G λ_ Y=>bV E.at_ qy Y rfl rfl λ_ Z=>aD bL Z (aV Rw u (C199 _ _) λ_ _ u=>bR (aY (λ_=>⟨vb (by unfold sF;grind),u⟩) λ_=>aQ fx (B.ext u.aG) bO G λ_ ac8=>bV EW lL ac8 rfl rfl λ_ ac9=>aD jR ac9 (aV afO u (C253 _ _ _ (EX.ext u.aG) bO I.1.2.2) λ_ _ u=>bR ⟨vb (by unfold sF;grind),u⟩))));refine aQ fx (B.ext u.aG) bO G (λ_ uT=>bV E.name qx uT rfl rfl λ_ EY=>aD gA EY ?_)
   exact ma (aC (λ_=>⟨vb (by unfold sF;grind),u⟩) λ_=>aQ fx (B.ext u.aG) bO G λ_ A1=>bV E.at_ qy A1 rfl rfl λ_ xp=>aD bL xp (aV Rw u (C199 _ _) λ_ _ u=>bR (aY (λ_=>⟨vb (by unfold sF;grind),u⟩) λ_=>aQ fx (B.ext u.aG) bO G λ_ EZ=>bV EW lL EZ rfl rfl λ_ LO=>aD jR LO (aV afO u (C253 _ _ _ (EX.ext u.aG) bO I.1.2.2) λ_ _ u=>bR ⟨vb (by unfold sF;grind),u⟩))))
  rintro _ _ ⟨rfl,u⟩ _;refine aY (λLK=>?_) (λLK=>?_)
  .refine⟨vb ?_,u.aG⟩;unfold nP;rw[ig M (show mG nb E=true by unfold mG;rw[LK];rfl)];rfl
  refine⟨λm x W=>∃J:Nat,x=hZ (J:Int)/\m=E.dQ.length-J/\J<=E.dQ.length/\(∀s∈E.dQ.take J,(!gN s)=false)/\St w aZ [] W,⟨_,0,rfl,rfl,l6 _,ee,u⟩,?_⟩;rintro m _ _ ⟨J,rfl,rfl,xq,E0,u⟩ _;refine aQ fx (B.ext u.aG) bO G (λ_ Xm=>bV EV fT Xm rfl rfl λ_ AW=>aD jj AW ?_);have O:=DL.flat Pf;refine aK iD (O.ext u.aG) (aR (aC (λHv=>?_) λ_=>aO bO ⟨_,bO,k+1,rfl,rfl,bO,dY eH M (by unfold mG;rw[LK,iE (by rw[ld bO]at E0;exact E0)];rfl),u⟩))
  refine aQ fx (B.ext u.aG) bO G (λ_ LP=>bV EV fT LP rfl rfl λ_ E1=>aD jj E1 ?_);obtain⟨e_x67,V⟩:=gx E.dQ (i:=(J:Int).toNat) bO;refine aQ iD (O.ext u.aG) bO V (λ_ aom=>aD gA aom (aV uE u (C211 _ _ (I.1.2.1 _ (la V))) λ_ he u=>bR (aY (λE2=>?_) λE2=>aO bO ⟨_,bO,J+1,rfl,rfl,bO,dY E0 V E2,u⟩)));refine⟨vb ?_,u.aG⟩;unfold nP;rw[ig M (show mG nb E=true by unfold mG;rw[ig V E2];simp)];rfl
 rw[ld bO]at eH;refine⟨vb ?_,u.aG⟩;unfold nP;rw[iE eH];rfl
variable (w:World) (K:Value->hM)
def S236(G B:Value):Prop:=
 kM (λE u a=>∀_:Env,
 fg (λK2=>lN 9 G λb=>bA .lss 3 u b λc=>cV c (eU hH (vp 9 G u) λd=>kK hH B [d] a λe f=>K2 e f) (K2 ff a)) (λg h=>∀_:Env,
 cV g (bB .add 3 u (i 1) λj=>E j h) (K u h))) (λE=>E (i 0) w)
theorem ada(B u:Value)(h:S236 w K B u):CR 236 [B,u] w K:=
 qW 20 (λ_=>.nil) 16 [.tmp 4] Tryz.func236 h
def S246(B G:Value):Prop:=
 cF 287 [B,G] w λa b=>lN 41 a λc=>pD (λu E d e=>∀_:Env,
 bA .lss 3 d c λf=>cV f (iA 41 a d λg=>lA 3 g e λh=>cF 246 [B,h] e λj k=>eU hH (Builtin.max_ #[3,3] 3 [E,j].toArray) λl=>bB .add 3 d (i 1) λn=>
 u l n k) (bB .add 3 E (i 1) λo=>K o e)) (λu=>u (i 0) (i 0) b)
theorem adb(B u:Value)(h:S246 w K B u):CR 246 [B,u] w K:=
 qW 24 (λ_=>.nil) 16 [.tmp 4] Tryz.func246 h
def avB:dI:=λi=>match i with
 | 8=>(.of [(0,[]),(1,[]),(2,[]),(3,[]),(4,[]),(5,[]),(6,[]),(7,[]),(8,[]),(9,[]),(10,[]),(11,[4,9]),(12,[])])
 | _=>.nil
def S218(u E:Value):Prop:=
 rR hH (Instr.box 91 E) w λB a=>cF 185 [u] a λb c=>eU hH (Op.unary .not b) λd=>cV d (K (.tuple #[(.slice none 0 0),(i 8)]) c) (cF 264 [u] c λe f=>
 cF 240 [e,(.func (Go.Fn.func 262) [].toArray [B].toArray)] f λg h=>cV g (K (.tuple #[(.slice none 0 0),(i 9)]) h) (lA 91 B h λj=>cF 265 [u,(i 0),j] h λk l=>
 K (.tuple #[k,(i 0)]) l))
theorem ade(u B:Value)(h:S218 w K u B):CR 218 [u,B] w K:=
 qW 18 (λ_=>.nil) 48 [.tmp 4,.tmp 5] Tryz.func218 h
def S143(E u B:Value):Prop:=
 lN 91 u λa=>lN 41 B λb=>bA .neq 3 a b λc=>cV c (K (.tuple #[(i 0),(i 1)]) w) (cF 218 [E,u] w λd e=>xT d 0 λf=>xT d 1 λg=>bB .neq 31 g (i 0) λh=>
 cV h (K (.tuple #[(i 0),g]) e) (cF 219 [f,B] e λj k=>xT j 0 λl=>xT j 1 λn=>K (.tuple #[l,n]) k))
theorem adf(u B E:Value)(h:S143 w K u B E):CR 143 [u,B,E] w K:=
 qW 29 (λ_=>.nil) 192 [.tmp 6,.tmp 7] Tryz.func143 h
theorem agm:PL 234:=dJ Tryz.func234
theorem aon:PL 238:=dJ Tryz.func238
theorem aoo:PL 236:=dJ Tryz.func236
theorem aop:PL 237:=dJ Tryz.func237
theorem aoq:PL 235:=dJ Tryz.func235
theorem LR:PL 180:=dJ Tryz.func180
theorem Xu:PL 286:=dJ Tryz.func286
theorem aor:PL 243:=dJ Tryz.func243
theorem aos:PL 242:=dJ Tryz.func242
theorem Xv:PL 245:=dJ Tryz.func245
theorem aot:PL 287:=dJ Tryz.func287
theorem agn:PL 246:=dJ Tryz.func246
theorem Sa:PL 185:=dJ Tryz.func185
theorem aou:PL 264:=dJ Tryz.func264
theorem ago:PL 265:=dJ Tryz.func265
theorem aov:PL 218:=dJ Tryz.func218
theorem aow:PL 262:=dJ Tryz.func262
theorem agp:PL 143:=dJ Tryz.func143
theorem aox:PL 244:=dJ Tryz.func244
theorem aoy:PL 285:=dJ Tryz.func285
theorem agq:PL 240:=dJ Tryz.func240
theorem aoz:PL 281:=dJ Tryz.func281
theorem agr:PL 263:=dJ Tryz.func263
theorem Xw:PL 225:=dJ Tryz.func225
end Go.Proofs.YtpdlpabnlkofmaaGreatDoor
namespace Go.Fw
open Go.MapKept (Stamped IsKey)
open Go.ChangeMaps (setBlock)
def mH(w:World)(b:Nat)(ks:List Int)(vs:List Value):Prop:=
 ∃es clock,w.heap[b]?=some (.map es clock)/\Stamped es clock/\es.toList.map (·.key)=ks.map (n3 .i64)/\es.toList.map (·.val)=vs
def lf:List Int->Int->Option Nat
 | [],_=>none
 | x::xs,k=>if x=k then some 0 else(lf xs k).map (· + 1)
theorem kz:∀{ks:List Int}{k:Int}{j:Nat},lf ks k=some j->ks[j]?=some k
 | x::xs,k,j,h=>by
  unfold lf at h
  split at h
  .grind
  .cases hh:lf xs k with
   | none=>grind
   | some i=>rw[hh]at h;simp at h;subst h;simpa using kz hh
theorem mI:∀{ks:List Int}{k:Int},lf ks k=none↔k ∉ ks
 | [],_=>by simp[lf]
 | x::xs,k=>by
  unfold lf
  by_cases e:x=k
  .simp[e]
  .rw[ei e,Option.map_eq_none_iff,mI,s4]
   grind
theorem sI:∀{ks:List Int}{k:Int}{j:Nat},ks.Nodup->ks[j]?=some k->lf ks k=some j
 | x::xs,k,0,_,h=>by simp at h;simp[lf,h]
 | x::xs,k,j+1,hn,h=>by
  rw[List.getElem?_cons_succ]at h
  have u:=la h
  have:x≠k:=λe=>(Kk.1 hn).1 (e▸u)
  simp[lf,this,sI (Kk.1 hn).2 h]
def look{β:Type}(ks:List Int)(vs:List β)(k:Int):Option β:=(lf ks k).bind (vs[·]?)
def pR{β:Type}(f:Int->β)(k:Int)(x:β):Int->β:=λj=>if j=k then x else f j
section
variable {P:Program}{w w0 w':World}{A:Nat->Prop}{L:List HP}{b:Nat}{ks:List Int}{vs:List Value}
theorem mH.of_eq(h:mH w b ks vs)(u:w'.heap[b]?=w.heap[b]?):mH w' b ks vs:=by
 grind[mH]
theorem mH.lt(h:mH w b ks vs):b<w.heap.size:=by obtain⟨es,c,h1,_⟩:=h;grind
theorem mH.ext(h:mH w b ks vs)(e:Ext w w'):mH w' b ks vs:=h.of_eq (e.bY b h.lt λh=>h)
theorem mH.len(h:mH w b ks vs):ks.length=vs.length:=by
 obtain⟨es,c,_,_,h3,h4⟩:=h
 have:=gQ List.length h3;grind
theorem mH.nodup(h:mH w b ks vs):ks.Nodup:=by
 obtain⟨es,c,_,h2,h3,h4⟩:=h
 have:=h2.2.2
 grind
def LS(b:Nat)(ks:List Int)(vs:List Value):HP where
 p w F:=mH w b ks vs/\∀k,F k↔k=b
 loc w w' F h hh:=⟨h.1.of_eq (hh b ((h.2 b).2 rfl)),h.2⟩
 lt w F b' h hb:=by rw[(h.2 b').1 hb];exact h.1.lt
theorem T9{es:Array MapEntry}(h3:es.toList.map (·.key)=ks.map (n3 .i64)):∀x∈es.toList,IsKey (.int .i64) x.key:=by
 intro x u
 have:x.key∈es.toList.map (·.key):=oG.2 ⟨x,u,rfl⟩
 rw[h3]at this
 obtain⟨k,_,e⟩:=oG.1 this
 rw[<- e];simp[IsKey]
theorem E3{T:TypeId}{k:Int}{es:Array MapEntry}(u:P.underlying T=some (.int .i64))(B:ks.Nodup)(h3:es.toList.map (·.key)=ks.map (n3 .i64)) :
  (lf ks k=none/\(S4 T (hZ k) es.toList).run P w=.ok none w)\/∃j e,lf ks k=some j/\es.toList[j]?=some e/\e.key=hZ k/\(S4 T (hZ k) es.toList).run P w=.ok (some (j,e.val)) w:=by
 rcases MapKept.findNow_spec (d:=.int .i64) (k:=hZ k) (by simp[IsKey]) es.toList 0 (T9 h3)with⟨h1,h2⟩|⟨j,e,h1,h2,h4⟩
 .refine .inl ⟨mI.2 λE=>?_,MapKept.run_findKey u h1⟩
  have:n3 .i64 k∈es.toList.map (·.key):=cL
  grind
 refine .inr ⟨j,e,sI B ?_,h2,h4,by rw[u4]at h1;exact MapKept.run_findKey u h1⟩
 have:(es.toList.map (·.key))[j]?=some (hZ k):=cL
 grind
theorem zN{T G E:TypeId}{z:Value}{k:Int}(h:mH w b ks vs)(ht:P.underlying T=some (.map G E))(I:P.underlying G=some (.int .i64))(u:ox P E z) :
  (yy T (.map (some b)) (hZ k) false).run P w=.ok ((look ks vs k).getD z) w:=by
 have J:=h.nodup
 obtain⟨es,c,h1,h2,h3,h4⟩:=h
 have B:(zeroValue E).run P w=.ok z w:=by
  unfold ox et at u
  cases hi:P.info? E with
  | none=>grind
  | some i=>
   rw[hi]at u
   simp only[F1,oq.injEq]at u
   refine fZ ?_ w
   unfold zeroValue;rw[cX,mw hi];simp only[nj,u];rfl
 have hc:=MapKept.run_checkKey (P:=P) (w:=w) (kt:=G) (k:=hZ k) I (by simp[IsKey]) es.isEmpty 9999
 rcases E3 (w:=w) (k:=k) I J h3 with⟨h5,h6⟩|⟨j,e,h5,h6,O,M⟩
 .simp[yy,run_underlying ht,MapKept.run_getObj_map h1,hc,h6,B,Result.andThen,look,h5]
 have:vs[j]?=some e.val:=cL
 simp[yy,run_underlying ht,MapKept.run_getObj_map h1,hc,M,Result.andThen,look,h5,this]
theorem kj(o:Obj)(hb:b<w.heap.size):(setBlock w b o).heap[b]?=some o:=by simp[setBlock,hb]
theorem gz.setBlock(w:World)(b:Nat)(o:Obj):gz (· = b) w (setBlock w b o):=
 ⟨rfl,rfl,rfl,by simp[ChangeMaps.setBlock],λk _ u=>by simp only[ChangeMaps.setBlock];grind⟩
theorem og{es:Array MapEntry}{clock:Nat}{o:Obj}(h1:w.heap[b]?=some (.map es clock)):(setObj b o).run P w=.ok () (setBlock w b o):=by
 simp[setObj,Sem.run,h1,setBlock]
theorem adg{T I E:TypeId}{v:Value}{k:Int}(h:mH w b ks vs)(ht:P.underlying T=some (.map I E))(M:P.underlying I=some (.int .i64)) :
  ∃w',(xu T (.map (some b)) (hZ k) v).run P w=.ok () w'/\gz (· = b) w w'/\
   (match lf ks k with|some j=>mH w' b ks (vs.set j v)|none=>mH w' b (ks++[k]) (vs++[v])):=by
 have U:=h.nodup
 have J:=h.lt
 obtain⟨es,c,h1,h2,h3,h4⟩:=h
 have hc:=MapKept.run_checkKey (P:=P) (w:=w) (kt:=I) (k:=hZ k) M (by simp[IsKey]) false 9999
 rcases E3 (w:=w) (k:=k) M U h3 with⟨h5,h6⟩|⟨j,e,h5,h6,Y,Z⟩
 .refine⟨_,?_,gz.setBlock w b (.map (es.push ⟨hZ k,v,c⟩) (c+1)),?_⟩
  .simp[xu,run_underlying ht,MapKept.run_getObj_map h1,hc,h6,og h1,Result.andThen]
  rw[h5]
  refine⟨_,_,kj _ J,MapKept.stamped_push h2 λx W e=>?_,by simp[h3],by simp[h4]⟩
  have:x.key∈es.toList.map (·.key):=oG.2 ⟨x,W,rfl⟩
  rw[h3,e]at this
  obtain⟨k',G,u⟩:=oG.1 this
  simp at u
  exact mI.1 h5 (u▸G)
 have O:es[j]?=some e:=cL
 have V:(Oh e.key (hZ k)).run P w=.ok (hZ k) w:=by
  rw[Y];unfold Oh;simp[Instr.sameBits]
 refine⟨_,?_,gz.setBlock w b (.map (es.modify j λe=>{e with key:=hZ k,val:=v}) c),?_⟩
 .simp[xu,run_underlying ht,MapKept.run_getObj_map h1,hc,Z,og h1,Result.andThen,O,V]
 rw[h5]
 have G:∀u,es[j]?=some u->({u with key:=hZ k,val:=v}:MapEntry).key=u.key:=λu B=>by
  grind
 refine⟨_,_,kj _ J,MapKept.stamped_modify h2 j _ (λ_ _=>rfl) (λu _ B=>G u B),?_,?_⟩
 .rw[MapKept.modify_keys j _ G,h3]
 rw[<- h4]
 apply wS
 grind
theorem adh{T u E R:TypeId}{I:Array TypeId}{k:Int}(h:mH w b ks vs)(G:I[0]?=some T)(ht:P.underlying T=some (.map u E))(M:P.underlying u=some (.int .i64)) :
  ∃w',(Builtin.delete_ I R [.map (some b),hZ k].toArray).run P w=.ok (.tuple #[]) w'/\gz (· = b) w w'/\
   (match lf ks k with|some j=>mH w' b (ks.eraseIdx j) (vs.eraseIdx j)|none=>mH w' b ks vs):=by
 have O:=h.nodup
 have J:=h.lt
 obtain⟨es,c,h1,h2,h3,h4⟩:=h
 have hc:=MapKept.run_checkKey (P:=P) (w:=w) (kt:=u) (k:=hZ k) M (by simp[IsKey]) es.isEmpty 9999
 rcases E3 (w:=w) (k:=k) M O h3 with⟨h5,h6⟩|⟨j,e,h5,h6,V,U⟩
 .refine⟨_,?_,gz.setBlock w b (.map es c),?_⟩
  .simp[Builtin.delete_,G,run_underlying ht,MapKept.run_getObj_map h1,hc,h6,og h1,Result.andThen]
  rw[h5]
  exact⟨_,_,kj _ J,h2,h3,h4⟩
 have W:j<es.size:=cL
 refine⟨_,?_,gz.setBlock w b (.map (es.eraseIdxIfInBounds j) c),?_⟩
 .simp[Builtin.delete_,G,run_underlying ht,MapKept.run_getObj_map h1,hc,U,og h1,Result.andThen]
 rw[h5]
 have B:(es.eraseIdxIfInBounds j).toList=es.toList.eraseIdx j:=by
  simp_all
 refine⟨_,_,kj _ J,MapKept.stamped_erase h2 j,?_,?_⟩
 .rw[B,ChangeMaps.map_eraseIdx,h3,ChangeMaps.map_eraseIdx]
 rw[B,ChangeMaps.map_eraseIdx,h4]
theorem LU{T:TypeId}{K:Value->hM}(u:St w0 A L w)(k:∀b w',St w0 A (LS b [] []::L) w'->K (.map (some b)) w'):rR P (P1 T none) w K:=
 ⟨_,_,rfl,k _ _ (u.new (Ext.push w (.map #[] 0)) (F:=λk=>k=w.heap.size) ⟨⟨#[],0,mu _ _,MapKept.stamped_empty 0,rfl,rfl⟩,λ_=>Iff.rfl⟩ λb hb=>by rw[hb];exact pb _)⟩
theorem St.LV(u:St w0 A (LS b ks vs::L) w):mH w b ks vs:=by obtain⟨F,h,_⟩:=u.head;exact h.1
end
section
variable {α:Type}[Flat α] {P:Program}{w w0 w':World}{A:Nat->Prop}{L:List HP}{b:Nat}{f:Int->List α}
abbrev Dh(s:SV)(x:List α):HP:=bH (j0 s) x
def rp(b:Nat)(f:Int->List α):HP:=pM λks=>pM λB:List SV=>pM λu:List (List α)=>fact (f=λk=>(look ks u k).getD []) (sep (LS b ks (B.map j0)) (ic Dh B u))
def wg(w:World)(b:Nat)(f:Int->List α):Prop:=∃ks,∃u:List SV,mH w b ks (u.map j0)/\(∀(i:Nat) (k:Int) (s:SV),ks[i]?=some k->u[i]?=some s->dA (λ_=>True) w (j0 s) (f k))/\∀k,k ∉ ks->f k=[]
theorem wg.ext(h:wg w b f)(e:Ext w w'):wg w' b f:=by
 obtain⟨ks,u,h1,h2,h3⟩:=h;exact⟨ks,u,h1.ext e,λi k s a c=>(h2 i k s a c).ext e,h3⟩
theorem qp{β:Type}{ks:List Int}{xs:List β}{k:Int}{i:Nat}{x:β}(u:ks.Nodup)(h1:ks[i]?=some k)(h2:xs[i]?=some x):look ks xs k=some x:=by
 unfold look;rw[sI u h1];exact h2
theorem pS{β:Type}{ks:List Int}{xs:List β}{k:Int}(h:k ∉ ks):look ks xs k=none:=by unfold look;rw[mI.2 h];rfl
theorem rp.rd{F:Nat->Prop}(h:(rp b f).p w F):wg w b f:=by
 obtain⟨ks,E,u,J,V,M,h1,h2,_,_⟩:=h
 refine⟨ks,E,h1.1,λi k s B G=>?_,λk B=>by rw[J];dsimp only;rw[pS B];rfl⟩
 have U:=B3 h2
 have hi:i<u.length:=by have:=(kO.1 G).1;omega
 have I:u[i]?=some u[i]:=l0 hi
 have O:St w M [ic Dh E u] w:=St.begin h2
 have:=O.ah0 G I (Φ:=λw=>dA (λ_=>True) w (j0 s) u[i]) λh=>(bH.rd h).mono λ_ _=>trivial
 rw[J];dsimp only
 rw[qp h1.1.nodup B I];exact this
theorem St.Xx(u:St w0 A (rp b f::L) w):wg w b f:=by obtain⟨F,h,_⟩:=u.head;exact rp.rd h
theorem wg.look{T I E:TypeId}{k:Int}(h:wg w b f)(ht:P.underlying T=some (.map I E))(J:P.underlying I=some (.int .i64))(O:ox P E (.slice none 0 0)) :
  ∃s:SV,(yy T (.map (some b)) (hZ k) false).run P w=.ok (j0 s) w/\dA (λ_=>True) w (j0 s) (f k):=by
 obtain⟨ks,u,h1,h2,h3⟩:=h
 have G:=zN (P:=P) (k:=k) h1 ht J O
 cases wh:lf ks k with
 | none=>
  have:Fw.look ks (u.map j0) k=none:=by unfold Fw.look;grind
  rw[this]at G
  exact⟨bW,G,by rw[h3 k (mI.1 wh)];exact dA.nil _ _⟩
 | some j=>
  have V:=kz wh
  have U:=h1.len
  have B:j<u.length:=cL
  have M:u[j]?=some u[j]:=l0 B
  have:Fw.look ks (u.map j0) k=some (j0 u[j]):=by unfold Fw.look;grind
  grind
theorem wg.aoB{T I E:TypeId}{k:Int}(h:wg w0 b f)(ht:P.underlying T=some (.map I E))(J:P.underlying I=some (.int .i64))(O:ox P E (.slice none 0 0)) :
  ∃s:SV,(∀w,Ext w0 w->(yy T (.map (some b)) (hZ k) false).run P w=.ok (j0 s) w)/\dA (λ_=>True) w0 (j0 s) (f k):=by
 obtain⟨ks,u,h1,h2,h3⟩:=h
 have G:∀w,Ext w0 w->_:=λw e=>zN (P:=P) (k:=k) (h1.ext e) ht J O
 cases wh:lf ks k with
 | none=>
  have:Fw.look ks (u.map j0) k=none:=by unfold Fw.look;grind
  rw[this]at G
  exact⟨bW,G,by rw[h3 k (mI.1 wh)];exact dA.nil _ _⟩
 | some j=>
  have V:=kz wh
  have U:=h1.len
  have B:j<u.length:=cL
  have M:u[j]?=some u[j]:=l0 B
  have:Fw.look ks (u.map j0) k=some (j0 u[j]):=by unfold Fw.look;grind
  grind
theorem Hw{T u E:TypeId}{k:Int}{K:Value->Prop}(h:wg w0 b f)(e:Ext w0 w)(ht:P.underlying T=some (.map u E))(G:P.underlying u=some (.int .i64))(I:ox P E (.slice none 0 0))
  (B:∀s:SV,dA (λ_=>True) w0 (j0 s) (f k)->K (j0 s)):Kn P (yy T (.map (some b)) (hZ k) false) w K:=by
 obtain⟨s,h1,h2⟩:=h.aoB (P:=P) (k:=k) ht G I;exact⟨_,h1 w e,B s h2⟩
def LW(b:Nat)(f:Int->List α)(k:Int)(s:SV):HP:=pM λks=>pM λB:List SV=>pM λE:List (List α)=>pM λvs:List Value=>
 fact ((∀u,u≠k->f u=(look ks E u).getD [])/\look ks vs k=(lf ks k).map (λ_=>j0 s)/\(lf ks k=none->s=bW)/\vs.length=B.length/\∀(i:Nat) (u:Int),ks[i]?=some u->u≠k->vs[i]?=(B[i]?).map j0) (sep (LS b ks vs) (ic Dh B E))
theorem St.LX{k:Int}(u:St w0 A (rp b f::L) w):∃s:SV,St w0 A (bH (j0 s) (f k)::LW b f k s::L) w:=by
 obtain⟨ks,u⟩:=u.eo;obtain⟨B,u⟩:=u.eo;obtain⟨E,u⟩:=u.eo;obtain⟨J,u⟩:=u.mC
 replace u:=u.split
 have V:=u.LV
 have hl:=V.len
 have W:=u.p1.iZ
 have Y:=V.nodup
 rw[n4]at hl
 cases wh:lf ks k with
 | none=>
  refine⟨bW,?_⟩
  have Z:look ks E k=none:=by unfold look;rw[wh];rfl
  have e:f k=[]:=by rw[J];dsimp only;rw[Z];rfl
  rw[e]
  refine(St.ep ks (St.ep B (St.ep E (St.ep (B.map j0) (St.oA ⟨λO _=>by rw[J],by unfold look;rw[wh];rfl,λ_=>rfl,by rw[n4],λi O _ _=>by rw[pO]⟩ (St.join u)))))).eM
 | some j=>
  have M:=kz wh
  have hjk:=(kO.1 M).1
  have I:B[j]?=some (B[j]'(bO)):=l0 _
  have G:E[j]?=some (E[j]'(bO)):=l0 _
  refine⟨B[j]'(bO),?_⟩
  have e:f k=E[j]'(bO):=by rw[J];dsimp only;rw[qp Y M G];rfl
  rw[e]
  have h1:=(u.p1.focus I G).p1
  have h2:=(h1.eM (α:=α)).p1
  have h3:St w0 A (Dh (bW:SV) ([]:List α)::nM Dh B E j::_::_::L) w:=h2.p1
  have h4:=h3.EF bO W
  have h5:=h4.p2
  refine(St.ep ks (St.ep (B.set j bW) (St.ep (E.set j []) (St.ep (B.map j0) (St.oA ⟨λO U=>?_,by unfold look;rw[wh];simp[I],λh=>(by cases wh.symm.trans h),ee,λi O hi U=>?_⟩ (St.join h5)))))).p1
  .rw[J];dsimp only
   unfold look
   cases hq:lf ks O with
   | none=>rfl
   | some i=>
    have:j≠i:=λe=>U (by have:=kz hq;rw[<- e,M]at this;exact(oq.inj this).symm)
    simp[this]
  .rw[pO,Iq]
   rintro rfl
   rw[M]at hi;exact U (oq.inj hi).symm
theorem St.Cb{T B E:TypeId}{k:Int}{s:SV}(u:St w0 A (LW b f k s::L) w)(ht:P.underlying T=some (.map B E))(G:P.underlying B=some (.int .i64))(I:ox P E (.slice none 0 0)) :
  (yy T (.map (some b)) (hZ k) false).run P w=.ok (j0 s) w:=by
 obtain⟨ks,u⟩:=u.eo;obtain⟨M,u⟩:=u.eo;obtain⟨J,u⟩:=u.eo;obtain⟨vs,u⟩:=u.eo;obtain⟨⟨_,h2,h3,_⟩,u⟩:=u.mC
 have:=zN (P:=P) (k:=k) u.split.LV ht G I
 rw[h2]at this
 cases wh:lf ks k with
 | none=>rw[wh]at this;rw[h3 wh];exact this
 | some j=>rw[wh]at this;exact this
theorem St.Xy{k:Int}{s:SV}{xs:List α}(u:St w0 A (bH (j0 s) xs::LW b f k s::L) w):St w0 A (rp b (pR f k xs)::L) w:=by
 replace u:=u.p1
 obtain⟨ks,u⟩:=u.eo;obtain⟨E,u⟩:=u.eo;obtain⟨G,u⟩:=u.eo;obtain⟨vs,u⟩:=u.eo;obtain⟨⟨Z,h2,h3,hvs,Xz⟩,u⟩:=u.mC
 replace u:=u.split
 have W:=u.LV
 have hl:=W.len
 have Y:=W.nodup
 have Dy:=u.p1.iZ
 cases wh:lf ks k with
 | none=>
  have On:=mI.1 wh
  have I:vs=E.map j0:=wS λi=>by
   cases hi:ks[i]? with
   | none=>rw[CB]at hi;rw[n0 bO,n0 (by rw[n4];omega)]
   | some B=>rw[Xz i B hi (λe=>On (e▸la hi)),pO]
  have hx:xs=[]:=by
   obtain⟨F,h,_⟩:=u.p2.head
   rw[h3 wh]at h
   rcases h with⟨_,h,_⟩|⟨b',cap,rest,h,_⟩
   .exact h
   .cases h
  subst hx
  refine St.ep ks (St.ep E (St.ep G (St.oA ?_ (St.join ?_))))
  .funext B
   unfold pR
   by_cases e:B=k
   .subst e;rw[ej rfl,pS On];rfl
   .rw[ei e,Z B e]
  .rw[<- I];exact u.p2.drop
 | some j=>
  have M:=kz wh
  have hjk:=(kO.1 M).1
  have U:E[j]?=some (E[j]'(bO)):=l0 _
  have J:G[j]?=some (G[j]'(bO)):=l0 _
  have V:vs[j]?=some (j0 s):=by unfold look at h2;rw[wh]at h2;exact h2
  have h6:=((u.p1.focus U J).drop).p2
  have h7:St w0 A (Dh s xs::nM Dh E G j::_::L) w:=h6.p0
  have h8:=h7.EF bO Dy
  refine St.ep ks (St.ep (E.set j s) (St.ep (G.set j xs) (St.oA ?_ (St.join ?_))))
  .funext B
   unfold pR
   by_cases e:B=k
   .subst e
    rw[ej rfl,qp Y M (x:=xs) (by rw[BX bO])];rfl
   .rw[ei e,Z B e]
    unfold look
    cases hq:lf ks B with
    | none=>rfl
    | some i=>
     have:j≠i:=λO=>e (by have:=kz hq;rw[<- O,M]at this;exact(oq.inj this).symm)
     simp[this]
  .have e:(E.set j s).map j0=vs:=by
    apply wS
    intro i
    rw[pO]
    by_cases e:j=i
    .subst e;rw[BX bO,V];rfl
    .rw[Iq e]
     cases hi:ks[i]? with
     | none=>rw[CB]at hi;rw[n0 (show vs.length<=i by omega),n0 (show E.length<=i by omega)];rfl
     | some B=>rw[Xz i B hi λO=>e (by rw[O]at hi;have h1:=sI Y hi;rw[wh]at h1;exact oq.inj h1)]
   rw[e];exact h8.p1
omit [Flat α]in
theorem Ua{f:Int->List α}{k:Int}:pR f k (f k)=f:=by
 grind[pR]
theorem LY{T Kt E:TypeId}{k:Int}{s s':SV}{xs:List α}{K:hM}(u:St w0 A (bH (j0 s') xs::LW b f k s::L) w)(ht:P.underlying T=some (.map Kt E))(O:P.underlying Kt=some (.int .i64))
  (kk:∀w',St w0 A (rp b (pR f k xs)::L) w'->K w'):Vx P (xu T (.map (some b)) (hZ k) (j0 s')) w K:=by
 replace u:=u.p1
 obtain⟨ks,u⟩:=u.eo;obtain⟨G,u⟩:=u.eo;obtain⟨I,u⟩:=u.eo;obtain⟨vs,u⟩:=u.eo;obtain⟨⟨hf,h2,h3,hvs,Xz⟩,u⟩:=u.mC
 replace u:=u.split
 have Y:=u.LV
 have hl:=Y.len
 have Z:=Y.nodup
 have Dy:=u.p1.iZ
 obtain⟨w',r1,r2,J⟩:=adg (P:=P) (v:=j0 s') (k:=k) Y ht O
 refine⟨w',r1,kk w' ?_⟩
 cases wh:lf ks k with
 | none=>
  rw[wh]at J
  have h5:St w0 A (LS b (ks++[k]) (vs++[j0 s'])::_::_::L) w':=u.rF λF U=>⟨F,⟨J,U.2⟩,λb hb=>.inl hb,r2.mono λk O=>(U.2 k).2 O⟩
  have On:=mI.1 wh
  have V:vs=G.map j0:=wS λi=>by
   cases hi:ks[i]? with
   | none=>rw[CB]at hi;rw[n0 bO,n0 (by rw[n4];omega)]
   | some B=>rw[Xz i B hi (λe=>On (e▸la hi)),pO]
  have h6:=h5.p1
  have h7:St w0 A (ic Dh (G++[s']) (I++[xs])::_::L) w':=St.EE (H:=Dh (α:=α)) (p:=s') (x:=xs) h6.p2.p1
  refine St.ep (ks++[k]) (St.ep (G++[s']) (St.ep (I++[xs]) (St.oA ?_ (St.join ?_))))
  .funext B
   unfold pR
   by_cases e:B=k
   .subst e
    rw[ej rfl,qp (i:=ks.length) J.nodup ee (x:=xs) (by rw[List.getElem?_append_right bO];simp[show ks.length-I.length=0 from bO])];rfl
   .rw[ei e,hf B e]
    by_cases tm:B∈ks
    .obtain⟨i,hi,hik⟩:=FY tm
     have W:ks[i]?=some B:=by rw[l0 hi,hik]
     have M:I[i]?=some (I[i]'(bO)):=l0 _
     rw[qp Z W M,qp (i:=i) J.nodup (by rw[u3 hi];exact W) (by rw[u3 bO];exact M)]
    .rw[pS tm,pS (by simp[tm,e])]
  .have e:(G++[s']).map j0=vs++[j0 s']:=by rw[V,vH];rfl
   rw[e];exact h7.p1
 | some j=>
  rw[wh]at J
  have h5:St w0 A (LS b ks (vs.set j (j0 s'))::_::_::L) w':=u.rF λF U=>⟨F,⟨J,U.2⟩,λb hb=>.inl hb,r2.mono λk O=>(U.2 k).2 O⟩
  have hj:=kz wh
  have hjk:=(kO.1 hj).1
  have hsj:G[j]?=some (G[j]'(bO)):=l0 _
  have hxj:I[j]?=some (I[j]'(bO)):=l0 _
  have h6:=((h5.p1.focus hsj hxj).drop).p2
  have h7:St w0 A (Dh s' xs::nM Dh G I j::_::L) w':=h6.p0
  have h8:=h7.EF bO Dy
  refine St.ep ks (St.ep (G.set j s') (St.ep (I.set j xs) (St.oA ?_ (St.join ?_))))
  .funext B
   unfold pR
   by_cases e:B=k
   .subst e
    rw[ej rfl,qp Z hj (x:=xs) (by rw[BX bO])];rfl
   .rw[ei e,hf B e]
    unfold look
    cases hq:lf ks B with
    | none=>rfl
    | some i=>
     have:j≠i:=λe'=>e (by have:=kz hq;rw[<- e',hj]at this;exact(oq.inj this).symm)
     simp[this]
  .have e:(G.set j s').map j0=vs.set j (j0 s'):=by
    apply wS
    intro i
    rw[pO]
    by_cases e:j=i
    .subst e;rw[BX bO,BX bO];rfl
    .rw[Iq e,Iq e]
     cases hi:ks[i]? with
     | none=>rw[CB]at hi;rw[n0 (show vs.length<=i by omega),n0 (show G.length<=i by omega)];rfl
     | some B=>rw[Xz i B hi λe'=>e (by rw[e']at hi;have h1:=sI Z hi;rw[wh]at h1;exact oq.inj h1)]
   rw[e];exact h8.p1
theorem A7{T:TypeId}{K:Value->hM}(u:St w0 A L w)(k:∀b w',St w0 A (rp b (λ_=>([]:List α))::L) w'->K (.map (some b)) w'):rR P (P1 T none) w K:=
 LU u λb w' h=>k b w' (St.ep [] (St.ep [] (St.ep ([]:List (List α)) (St.oA rfl (St.join ((h.new (Ext.refl w') (H:=ic Dh [] []) (F:=aZ) (λ_ h=>h) λ_ h=>h.elim).p1))))))
theorem LZ{T Kt E R:TypeId}{k:Int}{A2:Array TypeId}{K:Value->hM}(u:St w0 A (rp b f::L) w)(ha:A2[0]?=some T)(ht:P.underlying T=some (.map Kt E))(U:P.underlying Kt=some (.int .i64))
  (kk:∀v w',St w0 A (rp b (pR f k [])::L) w'->K v w'):rR P (Builtin.delete_ A2 R [.map (some b),hZ k].toArray) w K:=by
 obtain⟨ks,u⟩:=u.eo;obtain⟨O,u⟩:=u.eo;obtain⟨M,u⟩:=u.eo;obtain⟨hf,u⟩:=u.mC
 replace u:=u.split
 have W:=u.LV
 have hl:=W.len
 have Dy:=u.p1.iZ
 have Y:=W.nodup
 rw[n4]at hl
 obtain⟨w',r1,r2,I⟩:=adh (P:=P) (R:=R) (k:=k) W ha ht U
 refine⟨_,w',r1,kk _ w' ?_⟩
 cases wh:lf ks k with
 | none=>
  rw[wh]at I
  have h5:St w0 A (LS b ks (O.map j0)::_::L) w':=u.rF λF V=>⟨F,⟨I,V.2⟩,λb hb=>.inl hb,r2.mono λk U=>(V.2 k).2 U⟩
  refine St.ep ks (St.ep O (St.ep M (St.oA ?_ (St.join h5))))
  funext k'
  unfold pR
  by_cases e:k'=k
  .subst e;rw[ej rfl];unfold look;rw[wh];rfl
  .rw[ei e,hf]
 | some j=>
  rw[wh]at I
  have hj:=kz wh
  have hjk:=(kO.1 hj).1
  have h5:St w0 A (LS b (ks.eraseIdx j) ((O.map j0).eraseIdx j)::_::L) w':=u.rF λF V=>⟨F,⟨I,V.2⟩,λb hb=>.inl hb,r2.mono λk U=>(V.2 k).2 U⟩
  have hsj:O[j]?=some (O[j]'(bO)):=l0 _
  have Z:M[j]?=some (M[j]'(bO)):=l0 _
  have h6:=(h5.p1.focus hsj Z).drop.TV
  dsimp only at I
  rw[<- ChangeMaps.map_eraseIdx]at h6 I
  refine St.ep (ks.eraseIdx j) (St.ep (O.eraseIdx j) (St.ep (M.eraseIdx j) (St.oA ?_ (St.join h6.p1))))
  funext k'
  unfold pR
  by_cases e:k'=k
  .subst e
   rw[ej rfl,pS];rfl
   intro KG
   obtain⟨i,hi,B⟩:=FY KG
   rw[List.getElem_eraseIdx]at B
   split at B
   .have:=sI (j:=i) Y (k:=k') (by rw[<- B];exact l0 _);rw[wh]at this;have:=oq.inj this;omega
   .have:=sI (j:=i+1) Y (k:=k') (by rw[<- B];exact l0 _);rw[wh]at this;have:=oq.inj this;omega
  .rw[ei e,hf];dsimp only
   by_cases tm:k'∈ks
   .obtain⟨i,hi,B⟩:=FY tm
    have G:ks[i]?=some k':=by rw[l0 hi,B]
    have J:M[i]?=some (M[i]'(bO)):=l0 _
    have hij:i≠j:=λe'=>e (by rw[e',hj]at G;exact(oq.inj G).symm)
    rw[qp Y G J]
    by_cases nS:i<j
    .rw[qp (i:=i) I.nodup (by rw[P7 nS];exact G) (by rw[P7 nS];exact J)]
    .rw[qp (i:=i-1) I.nodup (by rw[P8 bO,show i-1+1=i from bO];exact G) (by rw[P8 bO,show i-1+1=i from bO];exact J)]
   .rw[pS tm,pS λh=>tm ((List.eraseIdx_sublist ks j).subset h)]
end
section
variable {α:Type}[Flat α] {P:Program}{w w0 w':World}{A S:Nat->Prop}{L:List HP}{xs ys:List α}
theorem Pg{T T2 E G b o dn dc:Nat}{z:Option Nat}{R:TypeId}{src:Value}{cs:List Value}(ht:eQ P T=some (E,m8 α,G,z))(hb:mW w b cs)(u:dA S w src ys)
  (B:ys.length<=dn) (Y:o+ys.length*m8 α<=cs.length) :
  ∃w',(Builtin.copy_ #[T,T2] R [.slice (some ⟨b,o,none⟩) dn dc,src].toArray).run P w=.ok (hZ ys.length) w'/\mW w' b (ji cs o (flat ys))/\gz (· = b) w w':=by
 obtain⟨O,U,hi,J,W,_⟩:=fp ht
 have M:=yg (α:=α) (P:=P) (sz:=m8 α) rfl u
 have rd:=u
 obtain⟨Z,Gx,rfl,I,V⟩:=rd
 obtain⟨w',h1,h2,h3⟩:=mY (P:=P) (o:=o) (flat ys) 0 cs w hb (by rw[dB];omega) Aw
 refine⟨w',?_,bO,h3⟩
 simp[Builtin.copy_,run_underlying O,sizeOf,typeInfo,hi,Builtin.lenOf,Gk B,M,J,h1,goInt]
theorem L3{T T2 E Z:Nat}{z:Option Nat}{R:TypeId}{v src:Value}{K:Value->hM}(J:St w0 A (bH v xs::L) w)(ht:eQ P T=some (E,m8 α,Z,z))(G:dA S w src ys)(B:ys.length<=xs.length)
  (k:∀w',St w0 A (bH v (ys++xs.drop ys.length)::L) w'->K (hZ ys.length) w'):rR P (Builtin.copy_ #[T,T2] R [v,src].toArray) w K:=by
 obtain⟨U,F,U',g1,g2,g3,g4,g5⟩:=J.uc
 rcases g1 with⟨rfl,rfl,hF⟩|⟨b,cap,rest,rfl,hb,W,hF⟩
 .obtain rfl:ys=[]:=by simpa using B
  obtain⟨hu,inf,hi,oO,wP,_⟩:=fp ht
  have V:=yg (α:=α) (P:=P) (sz:=m8 α) rfl G
  obtain⟨sa,Gx,rfl,hsc,hs3⟩:=G
  refine⟨_,w,?_,k w J⟩
  simp at V
  simp[Builtin.copy_,run_underlying hu,sizeOf,typeInfo,hi,Builtin.lenOf,oO,V,goInt]
 have hle:ys.length*m8 α<=xs.length*m8 α:=Nat.mul_le_mul_right _ B
 obtain⟨w',h1,h2,h3⟩:=Pg (P:=P) (o:=0) (dn:=xs.length) (dc:=cap) (T2:=T2) (R:=R) ht hb G B (by rw[l1,dB];omega)
 refine⟨_,w',h1,k w' (J.rF λF' u=>?_)⟩
 rcases u with⟨h,_⟩|⟨b',Db,I,O,Y,hl',u⟩
 .cases h
 simp only[Value.slice.injEq,oq.injEq,Addr.mk.injEq,and_true,true_and]at O
 obtain⟨rfl,rfl⟩:=O
 refine⟨F',.inr ⟨b,cap,rest,?_,?_,?_,u⟩,λb hb=>.inl hb,h3.mono λk hk=>(u k).2 hk⟩
 .congr 1;rw[l1,rf];omega
 .have e:flat xs=[]++flat (xs.take ys.length)++flat (xs.drop ys.length):=by rw[List.nil_append,<- gJ,qa]
  have:=my [] (flat (xs.take ys.length)) (flat (xs.drop ys.length)++rest) (flat ys) (by rw[dB,dB,l2,Gk B])
  rw[List.length_nil]at this
  rw[e,n5,this]at h2
  rw[gJ,n5];exact h2
 have M:(ys++xs.drop ys.length).length=xs.length:=by rw[l1,rf];omega
 exact⟨by rw[M];exact W.1,by have:=W.2;rw[l1,dB]at this |-;rw[M];exact this⟩
end
section
variable {P:Program}{w w0 w':World}{A:Nat->Prop}{L:List HP}{b r:Nat}
def Hx(r m since:Nat)(seen:Array Nat):HP where
 p w F:=w.heap[r]?=some (.mapIter (some m) since seen since)/\∀k,F k↔k=r
 loc w w' F h hh:=⟨(hh r ((h.2 r).2 rfl)).trans h.1,h.2⟩
 lt w F b' h hb:=cL
theorem Ub{T u E:TypeId}{es:Array MapEntry}{clock:Nat}{K:Value->hM}(B:St w0 A L w)(ht:P.underlying T=some (.map u E))(hb:w.heap[b]?=some (.map es clock))
  (k:∀r w',St w0 A (Hx r b clock #[]::L) w'->K (.pointer (some ⟨r,0,none⟩)) w'):rR P (Instr.range T (.map (some b))) w K:=
 ⟨_,_,run_range_map w T u E b es clock ht hb,k _ _ (B.new (Ext.push w _) (F:=λk=>k=w.heap.size) ⟨mu _ _,λ_=>Iff.rfl⟩ λb hb=>by rw[hb];exact pb _)⟩
theorem XA{T since:Nat}{seen:Array Nat}{es:Array MapEntry}{K:Value->hM}(u:St w0 A (Hx r b since seen::L) w)(hb:w.heap[b]?=some (.map es since))(hold:∀x∈es.toList,x.born<since)
  (U:(leftOf es seen).size=0->K (.tuple #[.bool false]) w)
  (J:∀e w',e∈(leftOf es seen).toList->St w0 A (Hx r b since (seen.push e.born)::L) w'->K (.tuple #[.bool true,e.key,e.val]) w'):rR P (Instr.next (.pointer (some ⟨r,0,none⟩)) false T) w K:=by
 obtain⟨F,h,_⟩:=u.head
 rcases run_next_at (P:=P) w T r b since since seen es since h.1 hb hold (pb _)with⟨h1,h2⟩|⟨e,I,E,M,h2⟩
 .exact⟨_,w,h2,U h1⟩
 have G:St w0 A (Hx r b since seen::L) E:=by
  rcases M with rfl|rfl
  .exact u
  .exact u.ext ⟨rfl,rfl,rfl,pb _,λ_ _ _=>rfl⟩
 refine⟨_,_,h2,J e _ I (G.rF λF B=>⟨F,⟨kj _ (vq B.1),B.2⟩,λb hb=>.inl hb,(gz.setBlock E r _).mono λk O=>(B.2 k).2 O⟩)⟩
theorem Uc{since:Nat}{seen:Array Nat}{es:Array MapEntry}{e:MapEntry}{K:Value->Prop}(B:St w0 A (Hx r b since (seen.push e.born)::L) w)(hb:w.heap[b]?=some (.map es since))(u:e∈es.toList)(E:(es.toList.map (·.born)).Nodup)
  (k:K (.tuple #[e.key,e.val])):Kn P (Instr.entry (.pointer (some ⟨r,0,none⟩))) w K:=by
 obtain⟨F,h,_⟩:=B.head
 exact⟨_,run_entry_at w r b since seen es since e h.1 hb u E,k⟩
theorem E4{o:Obj}(h:w.heap[b]?=some o)(e:Ext w w'):w'.heap[b]?=some o:=(e.bY b (vq h) λh=>h).trans h
theorem xr{seen:Array Nat}{x y:Nat}(h:(seen.push x).contains y=true):seen.contains y=true\/y=x:=by
 grind
theorem born_inj{es:Array MapEntry}(E:(es.toList.map (·.born)).Nodup){e u:MapEntry}(h:e∈es.toList)(B:u∈es.toList)(hb:e.born=u.born):e=u:=by
 obtain⟨i,hi,rfl⟩:=FY h
 obtain⟨j,G,rfl⟩:=FY B
 have:=(aaF (i:=i) (j:=j) (h₀:=by grind) (h₁:=by grind) E).1 cL
 grind
end
section
variable {P:Program}{w w0 w':World}{A:Nat->Prop}{L:List HP}{b r:Nat}
theorem bF{f:FuncId}{args:List Value}{H:HP}{H':Value->HP}{Φ:Value->hM}{K:Value->hM}(pl:Plain P f)(u:St w0 A (H::L) w)
  (hc:∀F,H.p w F->(∀w',gz F w w'->St w0 A L w')->Calls P f args.toArray w (ub λv w'=>Φ v w'/\mU F (H' v) w w')) (k:∀v w',Φ v w'->St w0 A (H' v::L) w'->K v w'):CG P f args w K:=by
 obtain⟨U,F,I,h1,h2,h3,h4,h5⟩:=u.uc
 refine dM pl (hc F h1 λw' E=>⟨u.aG.trans E (λ_ h=>h) λb hb B=>(h2 b B).elim id λM=>bO,I,h5.loc λb hb=>E.bY b (h5.lt b hb) λB=>h3 b B hb⟩) λv w' ⟨G,J⟩=>k v w' G (u.WM h2 h3 h5 J)
theorem A8{g:FuncId}{args first cap:List Value}{H:HP}{H':Value->HP}{Φ:Value->hM}{K:Value->hM}(pl:Plain P g)(u:St w0 A (H::L) w)
  (hc:∀F,H.p w F->(∀w',gz F w w'->St w0 A L w')->Calls P g (first++args++cap).toArray w (ub λv w'=>Φ v w'/\mU F (H' v) w w')) (k:∀v w',Φ v w'->St w0 A (H' v::L) w'->K v w'):kK P (.func (.func g) first.toArray cap.toArray) args w K:=by
 obtain⟨U,F,I,h1,h2,h3,h4,h5⟩:=u.uc
 refine gW pl (hc F h1 λw' E=>⟨u.aG.trans E (λ_ h=>h) λb hb B=>(h2 b B).elim id λM=>bO,I,h5.loc λb hb=>E.bY b (h5.lt b hb) λB=>h3 b B hb⟩) λv w' ⟨G,J⟩=>k v w' G (u.WM h2 h3 h5 J)
end
def Has(H:HP)(w:World):Prop:=∃F,H.p w F
def St.has{w w0:World}{A:Nat->Prop}{L:List HP}{H:HP}(u:St w0 A (H::L) w):Has H w:=by obtain⟨F,h,_⟩:=u.head;exact⟨F,h⟩
theorem Has.ext{H:HP}{w w':World}(h:Has H w)(e:Ext w w'):Has H w':=by
 obtain⟨F,h⟩:=h;exact⟨F,H.loc _ _ _ h λb hb=>e.bY b (H.lt _ _ _ h hb) λx=>x⟩
def Has.st{H:HP}{w:World}(h:Has H w):∃F,St w F [H] w:=by obtain⟨F,h⟩:=h;exact⟨F,St.begin h⟩
abbrev SI:=ByteArray×Int
def Sb(p:SI):Value×Value:=(.string p.1,hZ p.2)
def uV(w:World)(b:Nat)(l:List SI):Prop:=
 ∃es clock,w.heap[b]?=some (.map es clock)/\Stamped es clock/\(es.toList.map λe=>(e.key,e.val)).Perm (l.map Sb)
def eI:List SI->ByteArray->Int
 | [],_=>0
 | p::r,k=>if p.1=k then p.2 else eI r k
theorem uW:∀{l:List SI}{p:SI},(l.map (·.1)).Nodup->p∈l->eI l p.1=p.2
 | q::r,p,hn,hm=>by
  rw[List.map_cons,Kk]at hn
  rcases s4.1 hm with rfl|hm
  .unfold eI;grind
  .have:q.1≠p.1:=λe=>hn.1 (oG.2 ⟨p,hm,e.symm⟩)
   unfold eI;rw[ei this];exact uW hn.2 hm
theorem zO:∀{l:List SI}{k:ByteArray},(∀p∈l,p.1≠k)->eI l k=0
 | [],_,_=>rfl
 | q::r,k,h=>by
  unfold eI;rw[ei (h q (List.mem_cons_self ..))];exact zO λp u=>h p (List.mem_cons_of_mem _ u)
def Ph{l:List SI}{k:ByteArray}(E:(l.map (·.1)).Nodup)(B:∀p∈l,p.2≠0)(h:eI l k=0):∀p∈l,p.1≠k:=λp u e=>by
 subst e;exact B p u ((uW E u).symm.trans h)
section
variable {P:Program}{w w0 w':World}{A:Nat->Prop}{L:List HP}{b:Nat}{l:List SI}
theorem uV.of_eq(h:uV w b l)(u:w'.heap[b]?=w.heap[b]?):uV w' b l:=by
 grind[uV]
theorem uV.lt(h:uV w b l):b<w.heap.size:=by obtain⟨es,c,h1,_⟩:=h;grind
theorem uV.nodup(h:uV w b l):(l.map (·.1)).Nodup:=by
 obtain⟨es,c,_,h2,h3⟩:=h
 have h4:=(h3.map Prod.fst)
 rw[Km,Km]at h4
 have h5:(l.map λp=>H4 p.1).Nodup:=h4.nodup_iff.1 h2.2.2
 grind
theorem uV.perm{u:List SI}(h:uV w b l)(B:l.Perm u):uV w b u:=by
 obtain⟨es,c,h1,h2,h3⟩:=h;exact⟨es,c,h1,h2,h3.trans (B.map _)⟩
def nt(b:Nat)(l:List SI):HP where
 p w F:=uV w b l/\∀k,F k↔k=b
 loc w w' F h hh:=⟨h.1.of_eq (hh b ((h.2 b).2 rfl)),h.2⟩
 lt w F b' h hb:=by rw[(h.2 b').1 hb];exact h.1.lt
theorem XB{es:Array MapEntry}(h3:(es.toList.map λe=>(e.key,e.val)).Perm (l.map Sb)){e:MapEntry}(u:e∈es.toList):∃p∈l,e.key=.string p.1/\e.val=hZ p.2:=by
 have:(e.key,e.val)∈l.map Sb:=h3.mem_iff.1 (oG.2 ⟨e,u,rfl⟩)
 obtain⟨p,E,B⟩:=oG.1 this
 unfold Sb at B
 grind
theorem XC{es:Array MapEntry}(h3:(es.toList.map λe=>(e.key,e.val)).Perm (l.map Sb)){p:SI}(B:p∈l):∃e∈es.toList,e.key=.string p.1/\e.val=hZ p.2:=by
 have:Sb p∈es.toList.map λe=>(e.key,e.val):=h3.mem_iff.2 (oG.2 ⟨p,B,rfl⟩)
 obtain⟨e,E,u⟩:=oG.1 this
 unfold Sb at u
 grind
theorem Hy{T:TypeId}{k:ByteArray}{es:Array MapEntry}(G:P.underlying T=some .string)(h3:(es.toList.map λe=>(e.key,e.val)).Perm (l.map Sb)) :
  ((∀p∈l,p.1≠k)/\(S4 T (.string k) es.toList).run P w=.ok none w)\/∃j p,p∈l/\p.1=k/\(S4 T (.string k) es.toList).run P w=.ok (some (j,hZ p.2)) w:=by
 rcases MapKept.findNow_spec (d:=.string) (k:=.string k) (by simp[IsKey]) es.toList 0 (λx E=>by obtain⟨p,_,e,_⟩:=XB h3 E;rw[e];simp[IsKey])with⟨h1,h2⟩|⟨j,e,h1,h2,h4⟩
 .refine .inl ⟨λp B e=>?_,MapKept.run_findKey G h1⟩
  obtain⟨x,E,u,_⟩:=XC h3 B
  grind
 obtain⟨p,B,u,I⟩:=XB h3 (la h2)
 rw[h4]at u;injection u with u
 refine .inr ⟨j,p,B,u.symm,?_⟩
 rw[u4,I]at h1
 exact MapKept.run_findKey G h1
theorem L4{T G E:TypeId}{k:ByteArray}(h:uV w b l)(ht:P.underlying T=some (.map G E))(I:P.underlying G=some .string)(u:ox P E (hZ 0)) :
  (yy T (.map (some b)) (.string k) false).run P w=.ok (hZ (eI l k)) w:=by
 have J:=h.nodup
 obtain⟨es,c,h1,h2,h3⟩:=h
 have B:(zeroValue E).run P w=.ok (hZ 0) w:=by
  unfold ox et at u
  cases hi:P.info? E with
  | none=>grind
  | some i=>
   rw[hi]at u
   simp only[F1,oq.injEq]at u
   refine fZ ?_ w
   unfold zeroValue;rw[cX,mw hi];simp only[nj,u];rfl
 have hc:=MapKept.run_checkKey (P:=P) (w:=w) (kt:=G) (k:=.string k) I (by simp[IsKey]) es.isEmpty 9999
 rcases Hy (w:=w) (k:=k) I h3 with⟨h5,h6⟩|⟨j,p,h5,h6,M⟩
 .simp[yy,run_underlying ht,MapKept.run_getObj_map h1,hc,h6,B,Result.andThen,zO h5]
 subst h6
 simp[yy,run_underlying ht,MapKept.run_getObj_map h1,hc,M,Result.andThen,uW J h5]
theorem L5{T u E:TypeId}{v:Int}{k:ByteArray}(h:uV w b l)(ht:P.underlying T=some (.map u E))(B:P.underlying u=some .string)(M:∀p∈l,p.1≠k) :
  ∃w',(xu T (.map (some b)) (.string k) (hZ v)).run P w=.ok () w'/\gz (· = b) w w'/\uV w' b (l++[(k,v)]):=by
 have I:=h.lt
 obtain⟨es,c,h1,h2,h3⟩:=h
 have hc:=MapKept.run_checkKey (P:=P) (w:=w) (kt:=u) (k:=.string k) B (by simp[IsKey]) false 9999
 rcases Hy (w:=w) (k:=k) B h3 with⟨h5,h6⟩|⟨j,p,h5,h6,O⟩
 .refine⟨_,?_,gz.setBlock w b (.map (es.push ⟨.string k,hZ v,c⟩) (c+1)),?_⟩
  .simp[xu,run_underlying ht,MapKept.run_getObj_map h1,hc,h6,og h1,Result.andThen]
  refine⟨_,_,kj _ I,MapKept.stamped_push h2 λx G e=>?_,?_⟩
  .obtain⟨p,U,J,_⟩:=XB h3 G
   grind
  rw[Zu,vH,vH]
  exact h3.append (List.Perm.refl _)
 grind
theorem L6{T:TypeId}{K:Value->hM}(u:St w0 A L w)(k:∀b w',St w0 A (nt b []::L) w'->K (.map (some b)) w'):rR P (P1 T none) w K:=
 ⟨_,_,rfl,k _ _ (u.new (Ext.push w (.map #[] 0)) (F:=λk=>k=w.heap.size) ⟨⟨#[],0,mu _ _,⟨ee,ee,ee⟩,ee⟩,λ_=>Iff.rfl⟩ λb hb=>by rw[hb];exact pb _)⟩
theorem St.nt(u:St w0 A (nt b l::L) w):uV w b l:=by obtain⟨F,h,_⟩:=u.head;exact h.1
theorem yq{T u E:TypeId}{k:ByteArray}{K:Value->Prop}(h:uV w b l)(ht:P.underlying T=some (.map u E))(G:P.underlying u=some .string)(I:ox P E (hZ 0))(B:K (hZ (eI l k))):Kn P (yy T (.map (some b)) (.string k) false) w K:=
 ⟨_,L4 h ht G I,B⟩
theorem L7{T I E:TypeId}{v:Int}{k:ByteArray}{K:hM}(B:St w0 A (Fw.nt b l::L) w)(ht:P.underlying T=some (.map I E))(u:P.underlying I=some .string)(M:∀p∈l,p.1≠k)
  (J:∀w',St w0 A (Fw.nt b (l++[(k,v)])::L) w'->K w'):Vx P (xu T (.map (some b)) (.string k) (hZ v)) w K:=by
 obtain⟨w',h1,h2,h3⟩:=L5 (P:=P) (v:=v) (k:=k) B.nt ht u M
 exact⟨w',h1,J w' (B.rF λF G=>⟨F,⟨h3,G.2⟩,λb hb=>.inl hb,h2.mono λk u=>(G.2 k).2 u⟩)⟩
theorem key_inj{es:Array MapEntry}(E:(es.toList.map (·.key)).Nodup){e u:MapEntry}(h:e∈es.toList)(B:u∈es.toList)(hb:e.key=u.key):e=u:=by
 obtain⟨i,hi,rfl⟩:=FY h
 obtain⟨j,G,rfl⟩:=FY B
 have:=(aaF (i:=i) (j:=j) (h₀:=by grind) (h₁:=by grind) E).1 cL
 grind
theorem XD{l:List SI}(u:(l.map (·.1)).Nodup){p q:SI}(E:p∈l)(B:q∈l)(h:p.1=q.1):p=q:=by
 have h1:=uW u E
 have h2:=uW u B
 grind
end
open Go.MapKept (IsKey)
section
variable {P:Program}{w w':World}{b:Nat}{l:List ByteArray}
def Jk(w:World)(b:Nat)(l:List ByteArray):Prop:=
 ∃es clock,w.heap[b]?=some (.map es clock)/\(es.toList.map λe=>(e.key,e.val))=l.map λs=>(H4 s,xl true)
theorem L8{T M E:TypeId}{k:ByteArray}(h:Jk w b l)(ht:P.underlying T=some (.map M E))(J:P.underlying M=some .string)(B:ox P E (.bool false)) :
  (yy T (.map (some b)) (.string k) false).run P w=.ok (.bool (l.any λy=>decide (y=k))) w:=by
 obtain⟨es,c,h1,h2⟩:=h
 have G:(zeroValue E).run P w=.ok (.bool false) w:=by
  unfold ox et at B
  cases hi:P.info? E with
  | none=>grind
  | some i=>
   rw[hi]at B
   simp only[F1,oq.injEq]at B
   refine fZ ?_ w
   unfold zeroValue;rw[cX,mw hi];simp only[nj,B];rfl
 have hc:=MapKept.run_checkKey (P:=P) (w:=w) (kt:=M) (k:=.string k) J (by simp[IsKey]) es.isEmpty 9999
 have mem:∀e∈es.toList,∃s∈l,e.key=.string s/\e.val=.bool true:=λe O=>by
  have:(e.key,e.val)∈l.map λs=>(H4 s,xl true):=cL
  grind
 rcases MapKept.findNow_spec (d:=.string) (k:=.string k) (by simp[IsKey]) es.toList 0 (λx U=>by obtain⟨p,_,e,_⟩:=mem x U;rw[e];simp[IsKey])with⟨h3,h4⟩|⟨j,e,h3,h4,h5⟩
 .have:(l.any λy=>decide (y=k))=false:=by
   rw[Bu]
   intro s I
   have:(H4 s,xl true)∈es.toList.map λe=>(e.key,e.val):=by rw[h2];exact oG.2 ⟨s,I,rfl⟩
   obtain⟨e,O,u⟩:=oG.1 this
   simp only[Prod.mk.injEq]at u
   intro h
   exact h4 e O (by rw[u.1,gR h])
  rw[this]
  simp[yy,run_underlying ht,MapKept.run_getObj_map h1,hc,MapKept.run_findKey J h3,G,Result.andThen]
 obtain⟨s,I,u,V⟩:=mem e (la h4)
 rw[h5]at u;injection u with u
 have:(l.any λy=>decide (y=k))=true:=ya.2 ⟨s,I,ew u.symm⟩
 rw[this]
 rw[u4,V]at h3
 simp[yy,run_underlying ht,MapKept.run_getObj_map h1,hc,MapKept.run_findKey J h3,Result.andThen]
theorem L9{T u E:TypeId}{k:ByteArray}{K:Value->Prop}(h:Jk w b l)(ht:P.underlying T=some (.map u E))(G:P.underlying u=some .string)(I:ox P E (.bool false))(B:K (.bool (l.any λy=>decide (y=k)))):Kn P (yy T (.map (some b)) (.string k) false) w K:=
 ⟨_,L8 h ht G I,B⟩
end
section
variable {P:Program}{w w0 w':World}{A:Nat->Prop}{L:List HP}{b:Nat}{l:List ByteArray}
theorem Jk.lt(h:Jk w b l):b<w.heap.size:=by obtain⟨es,c,h1,_⟩:=h;grind
def Pj(b:Nat)(l:List ByteArray):HP where
 p w F:=Jk w b l/\∀k,F k↔k=b
 loc w w' F h hh:=⟨by grind[Jk],h.2⟩
 lt w F b' h hb:=by rw[(h.2 b').1 hb];exact h.1.lt
theorem XE{T:TypeId}{K:Value->hM}(u:St w0 A L w)(k:∀b w',St w0 A (Pj b []::L) w'->K (.map (some b)) w'):rR P (P1 T none) w K:=
 ⟨_,_,rfl,k _ _ (u.new (Ext.push w (.map #[] 0)) (F:=λk=>k=w.heap.size) ⟨⟨#[],0,mu _ _,rfl⟩,λ_=>Iff.rfl⟩ λb hb=>by rw[hb];exact pb _)⟩
theorem XF{T J E:TypeId}{k:ByteArray}{K:hM}(B:St w0 A (Pj b l::L) w)(ht:P.underlying T=some (.map J E))(G:P.underlying J=some .string)(V:∀s∈l,s≠k)
  (U:∀w',St w0 A (Pj b (l++[k])::L) w'->K w'):Vx P (xu T (.map (some b)) (.string k) (.bool true)) w K:=by
 have I:∃w',(xu T (.map (some b)) (.string k) (.bool true)).run P w=.ok () w'/\gz (· = b) w w'/\Jk w' b (l++[k]):=by
  obtain⟨F,h,_⟩:=B.head
  have Y:=h.1.lt
  obtain⟨es,c,h1,h2⟩:=h.1
  have mem:∀e∈es.toList,∃s∈l,e.key=.string s:=λe O=>by
   have:(e.key,e.val)∈l.map λs=>(H4 s,xl true):=by rw[<- h2];exact oG.2 ⟨e,O,rfl⟩
   obtain⟨s,B,u⟩:=oG.1 this
   simp only[Prod.mk.injEq]at u
   exact⟨s,B,u.1.symm⟩
  have hc:=MapKept.run_checkKey (P:=P) (w:=w) (kt:=J) (k:=.string k) G (by simp[IsKey]) false 9999
  rcases MapKept.findNow_spec (d:=.string) (k:=.string k) (by simp[IsKey]) es.toList 0 (λx W=>by obtain⟨p,_,e⟩:=mem x W;rw[e];simp[IsKey])with⟨h3,h4⟩|⟨j,e,h3,h4,h5⟩
  .have h6:=MapKept.run_findKey (P:=P) (w:=w) G h3
   refine⟨_,?_,gz.setBlock w b (.map (es.push ⟨.string k,.bool true,c⟩) (c+1)),_,_,kj _ Y,?_⟩
   .simp[xu,run_underlying ht,MapKept.run_getObj_map h1,hc,h6,og h1,Result.andThen]
   .rw[Zu,vH,vH,h2];rfl
  .obtain⟨s,B,u⟩:=mem e (la h4)
   rw[h5]at u;injection u with u
   exact absurd u.symm (V s B)
 obtain⟨w',h1,h2,h3⟩:=I
 exact⟨w',h1,U w' (B.rF λF M=>⟨F,⟨h3,M.2⟩,λb hb=>.inl hb,h2.mono λk G=>(M.2 k).2 G⟩)⟩
theorem St.Pj(u:St w0 A (Fw.Pj b l::L) w):Jk w b l:=by obtain⟨F,h,_⟩:=u.head;exact h.1
theorem Ma{f : FuncId}{u : Func}{e : Array Value -> Sem Value}{args : List Value}{v : Value}{K : Value -> World -> Prop}(E : P.funcs[f]?=some u)(hb : (u.name == "runtime.NumGoroutine")=false /\ u.body.isNone=true /\ Extern.findNext u=none)(B : Extern.find u=some e)
  (G:pr P (e args.toArray)=some v) (k:K v w):CG P f args w K:=by
 refine⟨.inr ⟨v,w,?_,k⟩⟩
 show(match P.funcs[f]? with|none=>_|some u=>_:Sem Next).run P w=_
 rw[E]
 simp only[hb.1,hb.2.1,hb.2.2,B]
 have:=fZ G w
 simp_all
theorem Pk{T:Nat}{s:ByteArray}{i:Int}{K:Value->Prop}(u:P.underlying T=some .string)(B:0<=i)(h1:i<=s.size)(k:K (.string (s.extract i.toNat s.size))):eU P (ob T (.string s) (some (hZ i)) none none) K:=by
 refine⟨_,?_,k⟩
 unfold ob
 rw[cX,cZ u]
 simp only[nj]
 unfold Instr.slice
 rw[cX,cZ u]
 simp only[nj]
 rw[ei dD]
 have hb:pr P (v7 false s.size s.size (some (hZ i)) none none)=some (i.toNat,s.size,s.size):=by
  simp only[v7,cX,fS,nj]
  rw[jo B bO];rfl
 rw[cX,hb];rfl
theorem Jl(s:ByteArray)(i j:Nat):iQ (s.extract i j)=((iQ s).drop i).take (j-i):=by
 simp_all[iQ]
theorem Sc{s t:ByteArray}(h:iQ s=iQ t):s=t:=by
 cases s;cases t
 exact gQ kE (Array.toList_inj.1 h)
def GD:List UInt8->UInt8->Option Nat
 | [],_=>none
 | x::r,c=>if x=c then some 0 else(GD r c).map (· + 1)
def E5(l:List UInt8)(c:UInt8):Int:=match GD l c with|some k=>(k:Int)|none=>-1
theorem Hz(l:List UInt8)(c:UInt8)(g:Nat->Bool):∀(r:List UInt8) (o:Nat),(∀j x,r[j]?=some x->g (o+j)=(x == c))->(List.range' o r.length).find? g=(GD r c).map (o + ·)
 | [],o,h=>rfl
 | x::r,o,h=>by
  have u:=h 0 x rfl
  rw[List.length_cons,List.range'_succ,List.find?_cons,show g o=(x == c)from u]
  unfold GD
  by_cases e:x=c
  .grind
  .rw[ei e,show(x == c)=false from beq_eq_false_iff_ne.2 e]
   show List.find? g _=_
   rw[Hz l c g r (o+1) λj x B=>by rw[show o+1+j=o+(j+1)from bO];simp_all]
   rw[Option.map_map]
   congr 1;grind
theorem ail(s:ByteArray)(c:UInt8):pr P (Extern.BytealgIndexByte.indexByte #[.string s,.int .u8 (c.toNat:Int)])=some (hZ (E5 (iQ s) c)):=by
 have u:Extern.BytealgIndexByte.indexByte #[.string s,.int .u8 (c.toNat:Int)]=(do let b <- Extern.Bytes.bytesOf (.string s);let d <- Extern.Bytes.asByte (.int .u8 (c.toNat:Int));match (u7 b.size).find? λi=>b[i]! == d with|some i=>pure (goInt i)|none=>pure (goInt (-1))):=rfl
 have hc:(Extern.Bytes.asByte (.int .u8 (c.toNat:Int)))=pure c:=by
  show pure ((c.toNat:Int).toNat.toUInt8)=_
  simp_all
 have hb:(Extern.Bytes.bytesOf (.string s))=pure s:=rfl
 have B:(u7 s.size).find? (λi=>s[i]! == c)=GD (iQ s) c:=by
  have:=Hz (iQ s) c (λi=>s[i]! == c) (iQ s) 0 λj x E=>by
   rw[RV]at E
   grind
  rw[eX]at this
  rw[List.range_eq_range',this]
  simp_all
 rw[u]
 simp only[hc,hb,cX,fS,nj,B]
 unfold E5
 cases GD (iQ s) c<;>rfl
theorem XG(l:List UInt8)(c:UInt8):0<=E5 l c↔l.any (λb=>decide (b=c))=true:=by
 unfold E5
 induction l with
 | nil=>exact⟨λh=>absurd (show(0:Int)<=-1 from h) dD,λh=>by cases h⟩
 | cons x r u=>
  rw[List.any_cons]
  unfold GD
  by_cases e:x=c
  .rw[ej e,ew e];exact⟨λ_=>rfl,λ_=>by show(0:Int)<=((0:Nat):Int);omega⟩
  .rw[ei e,fP e,Bool.false_or,<- u]
   cases GD r c with
   | none=>exact Iff.rfl
   | some k=>exact⟨λ_=>by show(0:Int)<=(k:Int);omega,λ_=>by show(0:Int)<=((k+1:Nat):Int);omega⟩
end
end Go.Fw
namespace Go.Proofs.YtpdlpabnlkofmaaGreatDoor
open Go.Fw
variable (w:World) (K:Value->hM)
def S335(J M A9 I:Value):Prop:=
 bB .eql 3 I (i 0) λa=>cV a (K (.slice none 0 0) w) (eU hH (kq .eql 9 false true M (Go.Value.string (kE (#[])))) λb=>cV b (cF 338 [J,I] w λc d=>
 K c d) (fg (λW=>bB .lss 3 I (i 0) λe=>cV e (cF 339 [J,M] w λf g=>bB .add 3 f (i 1) λh=>W h g) (W I w)) (λU j=>∀_:Env,
 lN 9 J λk=>bB .add 3 k (i 1) λl=>eU hH (Builtin.min_ #[3,3] 3 [U,l].toArray) λn=>rR hH (Instr.makeSlice 91 n n) j λo p=>bB .sub 3 n (i 1) λq=>
 G3 (λK2=>pD (λV E B r=>∀_:Env,
 bA .lss 3 B q λs=>cV s (cF 337 [E,M] r λt u=>bB .lss 3 t (i 0) λv=>cV v (K2 E B u) (bA .add 3 t A9 λx=>eU hH (ob 9 E none (some x) none) λy=>
 iA 91 o B λz=>sA 9 z y u λZ=>lN 9 M λY=>bA .add 3 t Y λac=>eU hH (ob 9 E (some ac) none none) λad=>bB .add 3 B (i 1) λae=>V ad ae Z)) (
 K2 E B r)) λV=>V J (i 0) p) (λO G af=>∀_:Env,
 iA 91 o G λag=>sA 9 ag O af λah=>bB .add 3 G (i 1) λai=>eU hH (ob 91 o none (some ai) none) λaj=>K aj ah))))
theorem adj(E G u B:Value)(h:S335 w K E G u B):CR 335 [E,G,u,B] w K:=
 qW 66 (λ_=>.nil) 256 [.tmp 8] Tryz.func335 h
theorem aoC:PL 280:=dJ Tryz.func280
theorem aoD:PL 308:=dJ Tryz.func308
theorem aoE:PL 335:=dJ Tryz.func335
theorem aoF:PL 339:=dJ Tryz.func339
theorem agx:PL 337:=dJ Tryz.func337
theorem aoG:PL 344:=dJ Tryz.func344
end Go.Proofs.YtpdlpabnlkofmaaGreatDoor
namespace Go.Proofs.YtpdlpabnlkofmaaGreatDoor
open Go.Fw
def C344(s:ByteArray)(c:UInt8)(w:World):CR 344 [.string s,.int .u8 (c.toNat:Int)] w (λv w'=>v=hZ (E5 (iQ s) c)/\Ext w w'):=by
 have u:=St.start w;refine eZ Tryz.func344 ?_;exact Ma Tryz.func349 ⟨by kernel_rfl,by kernel_rfl,by kernel_rfl⟩ (by kernel_rfl) (ail s c) ⟨rfl,u.aG⟩
def Jm(c:UInt8):ByteArray:=⟨#[c]⟩
def C340(s:ByteArray)(c:UInt8)(w:World):CR 340 [.string s,.string (Jm c)] w (λv w'=>v=hZ (E5 (iQ s) c)/\Ext w w'):=by
 have u:=St.start w;refine eZ Tryz.func340 ?_;refine fj iq ?_;refine⟨λB w'=>B=.bool (decide (Jm c=s))/\w'=w,?_,?_⟩
 .exact aH (aC (λh=>absurd (show(1:Int)=0 from h) dD) λ_=>jK ⟨rfl,rfl⟩)
 rintro _ _ ⟨rfl,rfl⟩ _;refine aC (λh=>?_) (λ_=>?_)
 .subst h;exact⟨gQ (n3 .i64) (show(0:Int)=E5 [c] c by unfold E5 GD;rw[ej rfl];rfl),u.aG⟩
 exact aH (aC (λ_=>jY (s:=Jm c) (e:=c) iq dD rfl (aV aoG u (C344 s c _) λ_ _ u=>⟨rfl,u.aG⟩)) λh=>absurd (show(1:Int)=1 from rfl) h)
def C337(s:ByteArray)(c:UInt8)(w:World):CR 337 [.string s,.string (Jm c)] w (λv w'=>v=hZ (E5 (iQ s) c)/\Ext w w'):=by
 have u:=St.start w;refine eZ Tryz.func337 ?_;exact aV ⟨_,Tryz.func340,by kernel_rfl,by kernel_rfl⟩ u (C340 s c _) (λ_ _ u=>⟨rfl,u.aG⟩)
def kwT:ByteArray:=⟨#[108,105,110,101,32,118,111,108,32,108,111,99,107,32,116,104,114,101,97,100,32,114,101,103,32,108,111,97,100,32,115,116,111,114,101,32,99,97,115,32,102,108,117,115,104,32,111,112,116,32,115,102,101,110,99,101,32,109,102,101,110,99,101,32,116,97,107,101,32,103,105,118,101,32,105,102,32,101,108,115,101,32,108,111,111,112,32,98,114,101,97,107,32,99,104,101,99,107,32,114,101,99,111,118,101,114,32,97,108,119,97,121,115]⟩
def kwl:List UInt8:=iQ kwT
def kwo(k:Nat):Nat:=(jV.take k).foldl (λn x=>n+x.size+1) 0
def Ud(k:Nat):ByteArray:=kwT.extract (kwo k) kwT.size
def Ah(k:Nat):ByteArray:=jV.getD k ⟨#[]⟩
def aoH(k:Nat):Bool:=decide (GD (kwl.drop (kwo k)) 32=some (Ah k).size)&&(decide ((kwl.drop (kwo k)).take (Ah k).size=iQ (Ah k))&&(decide (kwo (k+1)=kwo k+((Ah k).size+1))&&decide (kwo k+(Ah k).size+1<=kwl.length)))
def adk:(u7 20).all aoH=true:=by decide +kernel
theorem Mb(k:Nat):iQ (Ud k)=kwl.drop (kwo k):=by
 unfold Ud kwl
 rw[Jl]
 exact ld (by rw[rf,eX];omega)
def ain(k:Nat)(h:k<20):E5 (iQ (Ud k)) 32=(Ah k).size/\(Ah k).size+1<=(Ud k).size/\(Ud k).extract 0 (Ah k).size=Ah k/\(Ud k).extract ((Ah k).size+1) (Ud k).size=Ud (k+1):=by
 have:=List.all_eq_true.1 adk k (Nd.2 h)
 unfold aoH at this
 simp only[oi,decide_eq_true_eq]at this
 obtain⟨h1,h2,h3,h4⟩:=this
 have u:(Ud k).size=kwl.length-kwo k:=by rw[<- eX,Mb,rf]
 refine⟨by rw[Mb];unfold E5;rw[h1],bO,Sc ?_,Sc ?_⟩
 .rw[Jl,Mb,Q8,Nat.sub_zero];exact h2
 rw[Jl,Mb,Mb,tj,h3]
 exact ld cL
def kwB(k:Nat):(Ah k).size<=100:=by
 by_cases h:k<21
 .exact(by decide +kernel:∀k,k<21->(Ah k).size<=100) k h
 unfold Ah;rw[oj,n0 (show jV.length<=k from Nat.le_of_not_lt h)];decide
def aoI:∀k,k<21->∀s∈jV.take k,s≠Ah k:=by decide +kernel
theorem XI{k:Nat}(h:k<21):jV[k]?=some (Ah k):=by simp_all[jV,Ah]
theorem aio{k:Nat}(h:k<21):(jV.take k++sk (21-k) (⟨#[]⟩:ByteArray)).set k (Ah k)=(jV.take (k+1)++sk (21-(k+1)) (⟨#[]⟩:ByteArray)):=by
 have u:(jV.take k).length=k:=by rw[l2];exact Gk (Zw h)
 rw[List.set_append_right _ _ bO,u,Nat.sub_self,show 21-k=(21-(k+1))+1 from bO,List.replicate_succ,List.set_cons_zero,tz,XI h,n5]
 rfl
theorem Jn{k:Nat}(h:k<21):(jV.take k++sk (21-k) (⟨#[]⟩:ByteArray)).length=21:=by
 rw[l1,l2,List.length_replicate,Gk (show k<=jV.length from Zw h)];omega
def C339(w:World):CR 339 [.string kwT,.string (Jm 32)] w (λv w'=>v=hZ 20/\Ext w w'):=by
 have u:=St.start w;refine eZ Tryz.func339 ?_;exact fj iq (aH (aC (λh=>absurd (show(1:Int)=0 from h) dD) λ_=>fj iq (aH (aC (λ_=>jY (s:=Jm 32) (e:=32) iq dD rfl (Ma (e:=Extern.BytealgCount.count) (v:=hZ 20) Tryz.func343 ⟨by kernel_rfl,by kernel_rfl,by kernel_rfl⟩ (by kernel_rfl) (by kernel_rfl) ⟨rfl,u.aG⟩)) λh=>absurd (show(1:Int)=1 from rfl) h))))
def C335(w:World):CR 335 [.string kwT,.string (Jm 32),hZ 0,hZ (-1)] w (λv w'=>kV (bH v jV) w w'):=by
 have u:=St.start w;refine adj _ _ _ _ _ _ ?_;unfold S335;refine aH (aC (λh=>absurd h dD) λ_=>jK (aC (λh=>absurd h dD) λ_=>?_));refine⟨λM w'=>M=hZ 21/\St w aZ [] w',?_,?_⟩
 .exact aR (aC (λ_=>aV aoF u (C339 _) λ_ _ u=>aO dD ⟨rfl,u⟩) λh=>absurd dD h)
 rintro _ _ ⟨rfl,u⟩ _;refine fj iq (aO dD (rH ?_));rw[show min (21:Int) ((kwT.size:Int)+1)=21 from dD];refine wR (⟨#[]⟩:ByteArray) u iD afW dD dD dD (λB _ u=>fh dD ?_);refine⟨λs y w'=>s=.string (Ud 20)/\y=hZ 20/\St w aZ [bH B (jV.take 20++sk (21-20) (⟨#[]⟩:ByteArray))] w',?_,?_⟩
 .refine⟨λG s y w'=>∃k:Nat,s=.string (Ud k)/\y=hZ (k:Int)/\G=20-k/\k<=20/\St w aZ [bH B (jV.take k++sk (21-k) (⟨#[]⟩:ByteArray))] w',⟨_,0,gQ H4 dD,rfl,rfl,l6 _,u⟩,?_⟩;rintro G _ _ _ ⟨k,rfl,rfl,rfl,Y,u⟩ _;refine aR (aC (λJ=>?_) λJ=>?_);rotate_left
  .obtain rfl:k=20:=bO
   exact⟨rfl,rfl,u⟩
  obtain⟨U,W,O,I⟩:=ain k bO;refine aV agx u (C337 (Ud k) 32 _) (λ_ V u=>?_);rw[U];refine aR (aC (λh=>absurd h bO) λ_=>aO (show -9223372036854775808<=((Ah k).size:Int)+0/\((Ah k).size:Int)+0<=9223372036854775807 by have:=kwB k;omega) (n6 iq bO bO ?_));rw[show(((Ah k).size:Int)+0).toNat=(Ah k).size from bO,O];refine dR u iD bO (by rw[Jn bO];omega) (λq E=>jw (Ah k) u gA E (by rw[Jn bO];omega) λ_ u=>?_);rw[qb,aio bO]at u;refine fj iq (aO (show -9223372036854775808<=((Ah k).size:Int)+1/\((Ah k).size:Int)+1<=9223372036854775807 by have:=kwB k;omega) (Pk iq (show(0:Int)<=((Ah k).size:Int)+1 by omega) (show((Ah k).size:Int)+1<=_ by omega) ?_))
  rw[show((Ah k).size:Int)+(((Jm 32).size:Nat):Int)=((Ah k).size:Int)+1 from rfl,show(((Ah k).size:Int)+1).toNat=(Ah k).size+1 from bO,I];exact aO bO ⟨_,bO,k+1,rfl,rfl,rfl,bO,u⟩
 rintro _ _ _ ⟨rfl,rfl,u⟩ _;exact dR u iD dD (by rw[Jn dD];decide) (λ_ E=>jw (Ud 20) u gA E (by rw[Jn dD];decide) λ_ u=>aO dD (su iD u dD dD λ_ u=>u.fresh))
def C308(w:World):CR 308 [.string kwT,.string (Jm 32)] w (λv w'=>kV (bH v jV) w w'):=by
 have u:=St.start w;refine eZ Tryz.func308 ?_;exact dU aoE u (C335 _) (λ_ _ _ u=>u.fresh)
def C280(w:World):CR 280 [] w (λv w'=>∃b,v=.map (some b)/\Jk w' b jV/\Ext w w'):=by
 have u:=St.start w;refine eZ Tryz.func280 ?_;refine XE u (λb _ u=>dU aoD u (C308 _) λJ _ O u=>aK iD u.dS ?_);refine⟨λE y w'=>∃k:Nat,y=hZ (k:Int)/\E=21-k/\k<=21/\St w aZ [Pj b (jV.take k),bH J jV] w',⟨_,0,rfl,rfl,l6 _,u.p1⟩,?_⟩;rintro E _ _ ⟨k,rfl,rfl,M,u⟩ _;refine aR (aC (λB=>?_) λB=>?_);rotate_left
 .obtain rfl:k=21:=by have h:¬ (k:Int)<21:=B;omega
  exact⟨b,rfl,u.Pj,u.aG⟩
 have G:k<21:=by have h:(k:Int)<21:=B;omega
 refine aQ iD u.p1.dS bO (XI (show((k:Nat):Int).toNat<21 by omega)) (λq I=>aD gA I ?_);rw[qb];refine XF u Tryz.underlying329 iq (aoI k G) (λ_ u=>aO bO ?_);refine⟨_,bO,k+1,rfl,rfl,bO,?_⟩;rw[tz,XI G];exact u
def FnU(w:World)(f:Value)(g:UInt8->Bool):Prop:=∃u first cap,f=.func (.func u) (PM first) (PM cap)/\Plain hH u/\
 ∀(c:UInt8) B,Ext w B->Calls hH u (first++[n3 .u8 c.toNat]++cap).toArray B (ub λv E=>v=.bool (g c)/\Ext B E)
def adl{g:UInt8->Bool}{l:List UInt8}{k:Nat}(u:∀y∈l.take k,g y=true)(B:k<=l.length)(h:(match l[k]? with|some c=>g c|none=>false)=false):k=l.length↔l.all g=true:=by
 grind
def xt(s:ByteArray):Bool:=decide (s.size<1\/16<s.size)||(match (iQ s)[0]? with|some c=>!gD c.toNat|none=>true)||jV.any (λy=>decide (y=s))
def XJ{s:ByteArray}(h:xt s=false):s.size<=1048576:=by
 unfold xt at h
 grind
def XK{s:ByteArray}(h:xt s=true):gN s=false:=by
 show(!(xt s)&&_)=false
 rw[h];rfl
def XL{s:ByteArray}{n:Nat}(h:xt s=false)(u:n=(iQ s).length↔(iQ s).all (λc=>gD c.toNat||kx c.toNat)=true):decide ((n:Int)=(s.size:Int))=gN s:=by
 show _=(!(xt s)&&!(iQ s).any λc=>!gD c.toNat&&!kx c.toNat)
 rw[h,Bool.not_false,Ac,<- eX]
 grind
theorem aip{s:ByteArray}(h:s.size=0):s=kE #[]:=by
 cases s with
 | mk a=>cases a with
  | mk l=>cases l with
   | nil=>rfl
   | cons x r=>simp[abI]at h
def C234(c:Int)(w:World):CR 234 [.int .u8 c] w (λv w'=>v=.bool (gD c)/\Ext w w'):=by
 have E:=St.start w;refine eZ Tryz.func234 ?_;refine⟨λu w'=>u=.bool (decide (97<=c/\c<=122\/c=95))/\w=w',AQ (aC (λ_=>AP (aC (λ_=>⟨Oi bO,rfl⟩) λ_=>nL ⟨yN bO,rfl⟩)) λ_=>nL ⟨yN bO,rfl⟩),?_⟩;rintro _ _ ⟨rfl,B⟩ _;subst B;exact⟨rfl,E.aG⟩
def C238(c:Int)(w:World):CR 238 [.int .u8 c] w (λv w'=>v=.bool (kx c)/\Ext w w'):=by
 have E:=St.start w;refine eZ Tryz.func238 ?_;refine⟨λu w'=>u=.bool (decide (48<=c/\c<=57))/\w=w',AQ (aC (λ_=>AP ⟨yN bO,rfl⟩) λ_=>⟨jvF bO,rfl⟩),?_⟩;rintro _ _ ⟨rfl,B⟩ _;subst B;exact⟨rfl,E.aG⟩
def C237(c:Int)(w:World):CR 237 [.int .u8 c] w (λv w'=>v=.bool (gD c||kx c)/\Ext w w'):=by
 have u:=St.start w;refine eZ Tryz.func237 ?_;refine⟨λB w'=>B=.bool (gD c||kx c)/\St w aZ [] w',aV agm u (C234 _ _) (λ_ _ u=>aY (λ_=>⟨vb cL,u⟩) λ_=>aV aon u (C238 _ _) λ_ _ u=>⟨vb cL,u⟩),?_⟩;rintro _ _ ⟨rfl,u⟩ _;exact⟨rfl,u.aG⟩
def C236(s:ByteArray)(fv:Value)(g:UInt8->Bool)(w:World)(V:FnU w fv g)(hn:s.size<=1048576):CR 236 [.string s,fv] w (λv w'=>∃n:Nat,v=hZ (n:Int)/\(n=(iQ s).length↔(iQ s).all g=true)/\Ext w w'):=by
 obtain⟨g0,first,cap,rfl,U,Y⟩:=V;have u:=St.start w;refine ada _ _ _ _ ?_;unfold S236;refine⟨λm x M=>∃k:Nat,x=hZ (k:Int)/\m=(iQ s).length-k/\k<=(iQ s).length/\(∀y∈(iQ s).take k,g y=true)/\St w aZ [] M,⟨_,0,rfl,rfl,l6 _,ee,u⟩,?_⟩;rintro m _ M ⟨k,rfl,rfl,W,I,u⟩ _;have Hq:=eX s;refine⟨λZ w'=>Z=.bool (match (iQ s)[k]? with|some c=>g c|none=>false)/\St w aZ [] w',fj iq (aR (aC (λjL=>?_) λ_=>⟨vb cL,u⟩)),?_⟩
 .obtain⟨J,E⟩:∃G,(iQ s)[(k:Int).toNat]?=some G:=⟨_,l0 (by rw[eX];omega)⟩;refine jY iq bO E (gW U (Y J _ u.aG) ?_);rintro _ _ ⟨rfl,O⟩;have u:=u.ext O;exact⟨vb cL,u⟩
 rintro _ _ ⟨rfl,u⟩ _;refine aY (λB=>?_) (λB=>⟨k,rfl,adl I W (by simpa using B),u.aG⟩);obtain⟨J,E⟩:∃G,(iQ s)[k]?=some G:=by cases h:(iQ s)[k]? with|none=>rw[h]at B;cases B|some x=>exact⟨x,rfl⟩
 have Rp:=(kO.1 E).1;exact aO bO ⟨_,bO,k+1,rfl,rfl,bO,dY I E cL,u⟩
def C235(s:ByteArray)(w:World):CR 235 [.string s] w (λv w'=>v=.bool (jV.any λy=>decide (y=s))/\Ext w w'):=by
 have u:=St.start w;refine eZ Tryz.func235 ?_;refine dM aoC (C280 _) ?_;rintro _ _ ⟨G,rfl,E,B⟩;have u:=u.ext B;exact L9 E Tryz.underlying329 Tryz.underlying9 Ws ⟨rfl,u.aG⟩
def C180(s:ByteArray)(w:World):CR 180 [.string s] w (λv w'=>v=.bool (gN s)/\Ext w w'):=by
 have u:=St.start w;refine eZ Tryz.func180 ?_;refine⟨λV w'=>V=.bool (xt s)/\St w aZ [] w',jK (aC (λG=>?_) λG=>?_),?_⟩
 .have Y:s.size=0:=by rw[G];rfl
  exact⟨vb (by unfold xt;grind),u⟩
 .have Y:s.size≠0:=λh=>G (aip h);refine fj iq (cN (aC (λ_=>⟨vb (by unfold xt;grind),u⟩) λgH=>?_));obtain⟨Z,I⟩:∃U,(iQ s)[(0:Int).toNat]?=some U:=⟨_,l0 (by rw[eX];omega)⟩;refine jY iq bO I ?_;have M:(iQ s)[0]?=some Z:=I;have O:¬ (s.size<1\/16<s.size):=bO
  exact aV agm u (C234 _ _) (λ_ _ u=>bR (aY (λ_=>⟨vb (by unfold xt;grind),u⟩) λ_=>aV aoq u (C235 _ _) λ_ _ u=>⟨vb (by unfold xt;grind),u⟩))
 rintro _ _ ⟨rfl,u⟩ _;refine aY (λB=>⟨vb (XK B).symm,u.aG⟩) (λB=>dM aoo (C236 s _ (λc=>gD c.toNat||kx c.toNat) _ ⟨237,[],[],rfl,aop,λ_ W _=>C237 _ W⟩ (XJ (by simpa using B))) ?_);rintro _ _ ⟨nr,rfl,E,J⟩;have u:=u.ext J;exact fj iq (aH ⟨vb (XL (by simpa using B) E),u.aG⟩)
def Ue(xs:List cA)(i:Int)(n:Nat):Int:=if n=0 then i else if i<0 then -1 else Df xs.length (skip n (xs.drop i.toNat))
def adm(xs:List cA)(i:Int):Ue xs i 1=qC xs i:=by unfold Ue qC;omega
theorem XN(xs:List cA)(i:Int):Ue xs i 0=i:=rfl
theorem adn{xs:List cA}{i:Int}{n:Nat}(u:0<n)(h:i<0\/(xs.length:Int)<=i):Ue xs i n = -1:=by
 unfold Ue
 rw[ei bO]
 split
 .rfl
 rw[vM bO]
 cases n with
 | zero=>omega
 | succ n=>rfl
theorem ado{xs:List cA}{i:Int}{n:Nat}{x:cA}(J:0<n)(G:0<=i)(E:xs[i.toNat]?=some x)(I:kids x.op<0):Ue xs i n = -1:=by
 unfold Ue
 obtain⟨B,u⟩:=kO.1 E
 rw[ei bO,ei bO,u1 B,u]
 cases n with
 | zero=>omega
 | succ n=>
  grind[Df,skip]
theorem XO{xs:List cA}{i:Int}{n m:Nat}{x:cA}(M:0<n)(G:0<=i)(E:xs[i.toNat]?=some x)(I:0<=kids x.op)(J:(m:Int)=n+kids x.op-1):Ue xs i n=Ue xs (i+1) m:=by
 obtain⟨B,u⟩:=kO.1 E
 have h1:Ue xs i n=Df xs.length (skip m (xs.drop (i+1).toNat)):=by
  unfold Ue
  rw[ei bO,ei bO,u1 B,u,show(i+1).toNat=i.toNat+1 from bO]
  cases n with
  | zero=>omega
  | succ n=>
   grind[Df,skip]
 rw[h1]
 grind[Df,skip,Ue]
def XP(i:Int)(ks:List Ex)(k:Nat):List Int:=(u7 k).map λj=>i+1+(qD ks j:Int)
theorem XQ(i:Int)(ks:List Ex)(k:Nat):XP i ks (k+1)=XP i ks k++[i+1+(qD ks k:Int)]:=by
 unfold XP;rw[List.range_succ,vH];rfl
theorem Sd(i:Int)(ks:List Ex)(k:Nat):(XP i ks k).length=k:=by simp[XP]
def adp{i:Int}{ks:List Ex}{n k:Nat}{e:Int}(h:(XP i ks n)[k]?=some e):e=i+1+(qD ks k:Int)/\k<n:=by
 unfold XP at h
 grind
def C286(k:Int)(w:World):CR 286 [hZ k] w (λv w'=>v=hZ (kids k)/\Ext w w'):=by
 have E:=St.start w;refine eZ Tryz.func286 ?_;refine⟨λu w'=>u=.bool (decide (k=1\/k=2))/\w=w',aH (aC (λ_=>⟨Oi bO,rfl⟩) λ_=>aH ⟨yN bO,rfl⟩),?_⟩;rintro _ _ ⟨rfl,B⟩ _;subst B;refine aC (λG=>?_) (λG=>⟨λu w'=>u=.bool (decide (k=3\/k=4))/\w=w',aH (aC (λ_=>⟨Oi bO,rfl⟩) λ_=>aH ⟨yN bO,rfl⟩),?_⟩)
 .unfold kids;exact⟨gQ (n3 .i64) cL,E.aG⟩
 rintro _ _ ⟨rfl,B⟩ _;subst B;refine aC (λI=>?_) (λI=>⟨λu w'=>u=.bool (decide (5<=k/\k<=15))/\w=w',cR (aC (λ_=>gZ ⟨yN bO,rfl⟩) λ_=>⟨jvF bO,rfl⟩),?_⟩)
 .unfold kids;exact⟨gQ (n3 .i64) cL,E.aG⟩
 rintro _ _ ⟨rfl,B⟩ _;subst B;refine aC (λJ=>?_) (λJ=>?_)
 .unfold kids;exact⟨gQ (n3 .i64) cL,E.aG⟩
 unfold kids;exact⟨gQ (n3 .i64) cL,E.aG⟩
def C243(x:cA)(w:World):CR 243 [j0 x] w (λv w'=>v=.bool (!lr x)/\Ext w w'):=by
 have u:=St.start w;refine eZ Tryz.func243 ?_;refine cG u (λE _ u=>⟨λB w'=>B=.bool (decide (x.at_<0\/4000<x.at_))/\St w aZ [bY E (kp x)] w',aA sj (aB (v:=hZ x.at_) bL u.hb rfl (aR (aC (λ_=>⟨vb cL,u⟩) λ_=>aA sj (aB (v:=hZ x.at_) bL u.hb rfl (cN ⟨vb cL,u⟩))))),?_⟩);rintro _ _ ⟨rfl,u⟩ _;refine aY (λG=>?_) (λG=>?_)
 .refine⟨vb ?_,u.drop.aG⟩;unfold lr
  grind
 refine aA fa (aB (v:=hZ x.op) bL u.hb rfl (aH (aC (λJ=>⟨λB w'=>B=.bool (decide (0<=x.n/\x.n<=4294967296/\x.name=⟨#[]⟩))/\St w aZ [bY E (kp x)] w',aA jq (aB (v:=hZ x.n) bL u.hb rfl (cR (aC (λ_=>aA jq (aB (v:=hZ x.n) bL u.hb rfl (gZ (aC (λ_=>aA gm (aB (v:=.string x.name) gA u.hb rfl (jK ⟨vb cL,u⟩))) λ_=>⟨vb cL,u⟩)))) λ_=>⟨vb cL,u⟩))),?_⟩) λJ=>?_)))
 .rintro _ _ ⟨rfl,u⟩ _;refine⟨vb ?_,u.drop.aG⟩;unfold lr
  grind
 refine aA fa (aB (v:=hZ x.op) bL u.hb rfl (aH (aC (λI=>⟨λB w'=>B=.bool (decide (x.n=0)&&gN x.name)/\St w aZ [bY E (kp x)] w',aA jq (aB (v:=hZ x.n) bL u.hb rfl (aH (aC (λ_=>aA gm (aB (v:=.string x.name) gA u.hb rfl (aV LR u (C180 _ _) λ_ _ u=>⟨vb cL,u⟩))) λ_=>⟨vb cL,u⟩))),?_⟩) λI=>?_)))
 .rintro _ _ ⟨rfl,u⟩ _;refine⟨vb ?_,u.drop.aG⟩;unfold lr
  grind
 refine⟨λB w'=>B=.bool (decide (x.n=0/\x.name=⟨#[]⟩))/\St w aZ [bY E (kp x)] w',aA jq (aB (v:=hZ x.n) bL u.hb rfl (aH (aC (λ_=>aA gm (aB (v:=.string x.name) gA u.hb rfl (jK ⟨vb cL,u⟩))) λ_=>⟨vb cL,u⟩))),?_⟩;rintro _ _ ⟨rfl,u⟩ _;refine⟨vb ?_,u.drop.aG⟩;unfold lr
 grind
def C242(x:cA)(w:World):CR 242 [j0 x] w (λv w'=>v=.bool (lr x)/\Ext w w'):=by
 have u:=St.start w;refine eZ Tryz.func242 ?_;exact cG u (λ_ _ u=>aD si u.At (aV aor u (C243 _ _) λ_ _ u=>bR ⟨vb ee,u.drop.aG⟩))
def C285(sv fv:Value)(xs:List cA)(g:cA->Bool)(w:World)(J:dA (λ_=>True) w sv xs)(U:wB w fv g)(Z:xs.length<=1073741824):CR 285 [sv,fv] w (λv w'=>v=hZ (sC g xs)/\Ext w w'):=by
 obtain⟨g0,first,cap,rfl,O,W⟩:=U;have u:=St.start w;refine eZ Tryz.func285 ?_;refine aK gY (J.ext u.aG) ?_;refine⟨λm x I=>∃k:Nat,x=hZ (k:Int)/\m=xs.length-k/\k<=xs.length/\(∀y∈xs.take k,g y=false)/\St w aZ [] I,⟨_,0,rfl,rfl,l6 _,ee,u⟩,?_⟩;rintro m _ I ⟨k,rfl,rfl,hk,B,u⟩ _;refine aR (aC (λjL=>?_) λ_=>⟨gQ (n3 .i64) (jg (by rw[ld bO]at B;exact B)).symm,u.aG⟩);obtain⟨V,G⟩:=gx xs (i:=(k:Int).toNat) bO;refine aQ gY J bO G (λ_ Y=>aD si (Y.ext u.aG) (gW O (W V I u.aG) ?_))
 rintro _ _ ⟨rfl,M⟩;have u:=u.ext M;exact aY (λE=>⟨gQ (n3 .i64) (mh B G E).symm,u.aG⟩) (λE=>aO bO ⟨xs.length-(k+1),bO,k+1,rfl,rfl,bO,dY B G E,u⟩)
def C244(sv fv:Value)(xs:List cA)(g:cA->Bool)(w:World)(B:dA (λ_=>True) w sv xs)(E:wB w fv g)(G:xs.length<=1073741824):CR 244 [sv,fv] w (λv w'=>v=.bool (xs.any g)/\Ext w w'):=by
 have u:=St.start w;refine eZ Tryz.func244 ?_;exact aV aoy u (C285 _ _ _ _ _ (B.ext u.aG) (E.ext u.aG) bO) (λ_ _ u=>cR ⟨vb (kX _ _),u.aG⟩)
def C245(lv:Value)(xs:List cA)(i:Int)(w:World)(I:dA (λ_=>True) w lv xs)(hn:xs.length<=1048576):CR 245 [lv,hZ i] w (λv w'=>v=hZ (qC xs i)/\Ext w w'):=by
 have u:=St.start w;refine eZ Tryz.func245 ?_;refine⟨λm x y M=>∃(a:Int) (n:Nat),x=hZ a/\y=hZ (n:Int)/\m=xs.length-a.toNat/\n<=1+a.toNat/\Ue xs a n=qC xs i/\St w aZ [] M,⟨_,i,1,rfl,rfl,rfl,bO,adm _ _,u⟩,?_⟩;rintro m _ _ M ⟨a,n,rfl,rfl,rfl,hna,E,u⟩ _;refine cN (aC (λgT=>⟨λjv w'=>jv=.bool (decide (a<0\/(xs.length:Int)<=a)||(match xs[a.toNat]? with|some x=>decide (kids x.op = -1)|none=>true))/\St w aZ [] w',aR (aC (λ_=>⟨vb cL,u⟩) λjF=>aK gY (I.ext u.aG) (cR (aC (λ_=>⟨vb cL,u⟩) λeu=>?_))),?_⟩) λgT=>?_)
 .obtain⟨B,G⟩:=gx xs (i:=a.toNat) bO;have Z:=uf B.op;exact aQ gY I bO G (λ_ E6=>bV B.op fa E6 rfl rfl λ_ A6=>aD bL (A6.ext u.aG) (aV Xu u (C286 _ _) λ_ _ u=>aH ⟨vb cL,u⟩))
 .rintro _ _ ⟨rfl,u⟩ _;refine aY (λO=>?_) (λO=>?_)
  .refine⟨gQ (n3 .i64) ?_,u.aG⟩;rw[<- E]
   by_cases V:a<0\/(xs.length:Int)<=a
   .exact(adn bO V).symm
   have J:a.toNat<xs.length:=bO
   rw[l0 J]at O;exact(ado bO bO (l0 J) cL).symm
  have h23:¬ (a<0\/(xs.length:Int)<=a):=cL
  obtain⟨B,G⟩:=gx xs (i:=a.toNat) bO;have Z:=uf B.op;have U:0<=kids B.op:=cL
  exact aQ gY I bO G (λ_ mF=>bV B.op fa mF rfl rfl λ_ W=>aD bL (W.ext u.aG) (aV Xu u (C286 _ _) λ_ _ u=>aO bO (aO bO (fh bO ⟨_,bO,a+1,((n:Int)+kids B.op-1).toNat,rfl,gQ (n3 .i64) bO,rfl,bO,by rw[<- E];exact(XO bO bO G U bO).symm,u⟩))))
 have Y:n=0:=bO
 rw[Y,XN]at E;exact⟨gQ (n3 .i64) E,u.aG⟩
theorem CS{l:List cA}:fB l=(decide (l.length<=40)&&decide (qC l 0=l.length)&&!l.any lr&&decide (R6 l<=12)):=by
 unfold fB;rw[EO]
def C287(lv:Value)(xs:List cA)(i:Int)(t:Ex)(w:World)(I:dA (λ_=>True) w lv xs)(hn:xs.length<=1048576)(B:BO xs i t):CR 287 [lv,hZ i] w (λv w'=>kV (bH v (XP i t.eD t.eD.length)) w w'):=by
 obtain⟨G,Z,sD⟩:∃e,e=t.root/\xs[(i).toNat]?=some e:=⟨_,rfl,B.root.1⟩;have hri:=B.root.2;have Y:=B.end;have O:=Ex.pa B.2.1;rw[<- Z]at O;have Xh:=uf G.op;have hi0:=B.1;have u:=St.start w;refine eZ Tryz.func287 ?_;refine aO bO (aQ gY I bO sD λ_ ES=>bV G.op fa ES rfl rfl λ_ XR=>aD bL (XR.ext u.aG) (aV Xu u (C286 _ _) λM he u=>?_));refine⟨λm J a x M=>∃k:Nat,a=hZ (i+1+qD t.eD k)/\x=hZ (k:Int)/\m=t.eD.length-k/\k<=t.eD.length/\St w aZ [bH J (XP i t.eD k)] M,⟨_,0,gQ (n3 .i64) (by simp[qD]),rfl,rfl,bO,u.eM (α:=Int)⟩,?_⟩
 rintro m J _ _ _ ⟨k,rfl,rfl,rfl,hk,u⟩ _;refine aR (aC (λV=>?_) λV=>?_)
 .obtain⟨a,E⟩:=gx t.eD (i:=k) bO;have W:=Ex.ug B.2.1 (la E);have T4:=B.kid E;have VE:=T4.end;have T5:=a.rI;refine bD ([(i+1+qD t.eD k:Int)]) u cS rfl rfl (dL rfl) (λXS _ u=>?_);have U:=u.dS;exact bJ u.p1 cS U (by rw[Sd];exact Zw (by simp;omega)) dD (λ_ _ u=>have u:=u.p1.drop;aV Xv u (C245 _ _ _ _ (I.ext u.aG) bO) λ_ _ u=>aO bO ⟨_,bO,k+1,gQ (n3 .i64) (by rw[VE.1,uS E];omega),rfl,rfl,bO,by rw[XQ];exact u⟩)
 rw[show t.eD.length=k from bO];exact u.fresh
theorem C246(lv:Value)(xs:List cA)(i:Int)(t:Ex)(N:Nat)(w:World)(I:dA (λ_=>True) w lv xs)(W:xs.length<=1048576)(B:BO xs i t)(hN:t.size<N):CR 246 [lv,hZ i] w (λv w'=>v=hZ t.depth/\Ext w w'):=by
 obtain⟨Z,hq,sD⟩:∃e,e=t.root/\xs[(i).toNat]?=some e:=⟨_,rfl,B.root.1⟩;have hri:=B.root.2;have Y:=B.end;have U:=Ex.pa B.2.1;rw[<- hq]at U;have Xh:=uf Z.op;have hi0:=B.1;have u:=St.start w;refine adb _ _ _ _ ?_;unfold S246;refine dU aot u (C287 _ _ _ t _ (I.ext u.aG) bO B) (λE M cJ u=>?_);have Ku:=Sd i t.eD t.eD.length;refine aK cS u.dS ?_;refine⟨λm n x M=>∃k:Nat,n=hZ (Dg t.eD k)/\x=hZ (k:Int)/\m=t.eD.length-k/\k<=t.eD.length/\St w aZ [bH E (XP i t.eD t.eD.length)] M,⟨_,0,rfl,rfl,rfl,bO,u⟩,?_⟩;rintro m _ _ _ ⟨k,rfl,rfl,rfl,hk,u⟩ _
 have hdk:=Pa (ks:=t.eD) (N:=(t.size:Int)) bO (λa ha=>by have:=(Ex.ug B.2.1 ha).2;have:=a.rI;omega) k;refine aR (aC (λxi=>?_) λ_=>aO bO ⟨gQ (n3 .i64) (by rw[t.LI,show k=t.eD.length from bO]),u.aG⟩);obtain⟨iy,J⟩:=gx (XP i t.eD t.eD.length) (i:=(k:Int).toNat) bO;refine dR u cS bO bO (λ_ ij=>gP u bL ij J ?_);obtain⟨rfl,yX⟩:=adp J;obtain⟨a,G⟩:=gx t.eD (i:=k) bO;have V:=Ex.ug B.2.1 (la G);have O:=B.kid G;have VE:=O.end;have T5:=a.rI
 exact aV agn u (C246 _ _ _ _ (N-1) _ (I.ext u.aG) W O bO) (λ_ _ u=>DD (aO bO ⟨_,bO,k+1,by rw[B7 G],rfl,rfl,bO,u⟩))
termination_by N
decreasing_by all_goals omega
def C185(lv:Value)(xs:List cA)(w:World)(B:dA (λ_=>True) w lv xs)(G:xs.length<=1048576):CR 185 [lv] w (λv w'=>v=.bool (fB xs)/\Ext w w'):=by
 have u:=St.start w;refine eZ Tryz.func185 ?_;refine⟨λM w'=>M=.bool (decide (xs.length=0\/40<xs.length)||xs.any lr||decide (¬ qC xs 0=xs.length))/\St w aZ [] w',aK gY (B.ext u.aG) (aH (aC (λ_=>⟨vb cL,u⟩) λZ=>aK gY (B.ext u.aG) (cN (aC (λ_=>⟨vb cL,u⟩) λY=>?_)))),?_⟩
 .have E:wB w (.func (.func 242) [].toArray [].toArray) lr:=
   ⟨242,[],[],rfl,aos,λy O _=>C242 y O⟩
  exact aV aox u (C244 _ _ _ _ _ (B.ext u.aG) E bO) (λ_ _ u=>aY (λ_=>⟨vb cL,u⟩) λ_=>aV Xv u (C245 _ _ _ _ (B.ext u.aG) bO) λ_ _ u=>aK gY (B.ext u.aG) (bX ⟨vb cL,u⟩))
 rintro _ _ ⟨rfl,u⟩ _;refine aY (λI=>?_) (λI=>?_)
 .refine⟨vb ?_,u.aG⟩;rw[CS]
  by_cases J:xs.length=0
  .obtain rfl:=sl.1 J;rfl
  grind
 have V:qC xs 0=xs.length:=cL
 obtain⟨t,ht⟩:=BO.of (xs:=xs) (i:=0) bO;have U:=ht.zero V;refine aV agn u (C246 _ _ _ t (t.size+1) _ (B.ext u.aG) G ht bO) (λ_ W u=>gZ ?_);refine⟨vb ?_,u.aG⟩;rw[CS];unfold R6;rw[U.2]
 grind
def nV(o:List ByteArray)(x:cA):List ByteArray:=if x.op=2/\o.any (λy=>decide (y=x.name))=false then o++[x.name]else o
theorem XT{o:List ByteArray}{x:cA}(h:x.op=2/\o.any (λy=>decide (y=x.name))=false):nV o x=o++[x.name]:=ej h
theorem XU{o:List ByteArray}{x:cA}(h:¬ (x.op=2/\o.any (λy=>decide (y=x.name))=false)):nV o x=o:=ei h
def nW(xs:List cA):List ByteArray:=xs.foldl nV []
theorem Mc{xs:List cA}{k:Nat}{x:cA}(h:xs[k]?=some x):nW (xs.take (k+1))=nV (nW (xs.take k)) x:=by
 unfold nW;rw[<- gM h,List.foldl_append];rfl
theorem CT(xs:List cA):(nW xs).length<=xs.length:=by
 have:∀(l:List cA) (o:List ByteArray),(l.foldl nV o).length<=o.length+l.length:=by
  intro l
  induction l with
  | nil=>grind
  | cons x l u=>
   grind[nV]
 simpa[nW]using this xs []
theorem Pm(g:ByteArray->Bool)(xs:List cA):(nW xs).any g=xs.any λx=>decide (x.op=2)&&g x.name:=by
 have:∀(l:List cA) (o:List ByteArray),(l.foldl nV o).any g=(o.any g||l.any λx=>decide (x.op=2)&&g x.name):=by
  intro l
  induction l with
  | nil=>grind
  | cons x l u=>
   intro o
   show(l.foldl nV (nV o x)).any g=_
   rw[u]
   have h2:(nV o x).any g=(o.any g||(decide (x.op=2)&&g x.name)):=by
    unfold nV
    grind
   grind
 exact(this xs []).trans ee
theorem Cc(ns:List ByteArray)(s:ByteArray):decide (0<=cU ns s)=ns.any λy=>decide (y=s):=kX _ _
theorem Uf(ns:List ByteArray)(s:ByteArray):decide (cU ns s<0) = !ns.any λy=>decide (y=s):=by
 rw[<- Cc]
 grind
def Pn{k:Int}(h:0<=kids k):eE k=kids k:=by unfold eE kids at *;grind
def adq{ns:List ByteArray}{xs:List cA}(h:fB xs=false):kZ ns xs=8:=by unfold kZ;grind
def adr{ns:List ByteArray}{xs:List cA}(h:fB xs=true):kZ ns xs=if (nW xs).any (λs=>!ns.any λy=>decide (y=s))=true then 9 else 0:=by
 unfold kZ
 rw[ei (by simp[h]),Pm]
 simp only[Uf]
theorem Md{ns:List ByteArray}{xs:List cA}(h:¬ kZ ns xs=0):qE ns xs=[]:=by unfold qE;grind
def pU(ns:List ByteArray)(nums:List Int)(xs:List cA):Int×Int:=if ns.length=nums.length then(if kZ ns xs=0 then runM (qE ns xs) nums else(0,kZ ns xs))else(0,1)
def C225(sv:Value)(ns:List ByteArray)(s:ByteArray)(w:World)(I:dA (λ_=>True) w sv ns)(O:ns.length<=1048576):CR 225 [sv,.string s] w (λv w'=>v=hZ (cU ns s)/\Ext w w'):=by
 have u:=St.start w;refine eZ Tryz.func225 ?_;refine aK iD (I.ext u.aG) ?_;refine⟨λm x J=>∃k:Nat,x=hZ (k:Int)/\m=ns.length-k/\k<=ns.length/\(∀y∈ns.take k,decide (y=s)=false)/\St w aZ [] J,⟨_,0,rfl,rfl,l6 _,ee,u⟩,?_⟩;rintro m _ J ⟨k,rfl,rfl,U,B,u⟩ _;refine aR (aC (λW=>?_) λ_=>⟨gQ (n3 .i64) (jg (by rw[ld bO]at B;exact B)).symm,u.aG⟩);obtain⟨V,G⟩:=gx ns (i:=(k:Int).toNat) bO;exact aQ iD I bO G (λ_ M=>aD gA (M.ext u.aG) (jK (aC (λE=>⟨gQ (n3 .i64) (mh B G (ew E.symm)).symm,u.aG⟩) λE=>aO bO ⟨_,bO,k+1,rfl,rfl,bO,dY B G (fP λh=>E h.symm),u⟩)))
def C263(sv:Value)(ns:List ByteArray)(s:ByteArray)(w:World)(B:dA (λ_=>True) w sv ns)(E:ns.length<=1048576):CR 263 [sv,.string s] w (λv w'=>v=.bool (ns.any λy=>decide (y=s))/\Ext w w'):=by
 have u:=St.start w;refine eZ Tryz.func263 ?_;exact aV Xw u (C225 _ _ _ _ (B.ext u.aG) bO) (λ_ _ u=>cR ⟨vb (Cc _ _),u.aG⟩)
def C281(sv fv:Value)(xs:List ByteArray)(g:ByteArray->Bool)(w:World)(J:dA (λ_=>True) w sv xs)(U:wB w fv g)(Z:xs.length<=1073741824):CR 281 [sv,fv] w (λv w'=>v=hZ (sC g xs)/\Ext w w'):=by
 obtain⟨g0,first,cap,rfl,O,W⟩:=U;have u:=St.start w;refine eZ Tryz.func281 ?_;refine aK iD (J.ext u.aG) ?_;refine⟨λm x I=>∃k:Nat,x=hZ (k:Int)/\m=xs.length-k/\k<=xs.length/\(∀y∈xs.take k,g y=false)/\St w aZ [] I,⟨_,0,rfl,rfl,l6 _,ee,u⟩,?_⟩;rintro m _ I ⟨k,rfl,rfl,hk,B,u⟩ _;refine aR (aC (λjL=>?_) λ_=>⟨gQ (n3 .i64) (jg (by rw[ld bO]at B;exact B)).symm,u.aG⟩);obtain⟨V,G⟩:=gx xs (i:=(k:Int).toNat) bO;refine aQ iD J bO G (λ_ Y=>aD gA (Y.ext u.aG) (gW O (W V I u.aG) ?_))
 rintro _ _ ⟨rfl,M⟩;have u:=u.ext M;exact aY (λE=>⟨gQ (n3 .i64) (mh B G E).symm,u.aG⟩) (λE=>aO bO ⟨xs.length-(k+1),bO,k+1,rfl,rfl,bO,dY B G E,u⟩)
def C240(sv fv:Value)(xs:List ByteArray)(g:ByteArray->Bool)(w:World)(B:dA (λ_=>True) w sv xs)(E:wB w fv g)(G:xs.length<=1073741824):CR 240 [sv,fv] w (λv w'=>v=.bool (xs.any g)/\Ext w w'):=by
 have u:=St.start w;refine eZ Tryz.func240 ?_;exact aV aoz u (C281 _ _ _ _ _ (B.ext u.aG) (E.ext u.aG) bO) (λ_ _ u=>cR ⟨vb (kX _ _),u.aG⟩)
def C264(lv:Value)(xs:List cA)(w:World)(E:dA (λ_=>True) w lv xs)(hn:xs.length<=1048576)(hr:fB xs=true):CR 264 [lv] w (λv w'=>kV (bH v (nW xs)) w w'):=by
 have u:=St.start w;refine eZ Tryz.func264 ?_;refine aV Sa u (C185 _ _ _ (E.ext u.aG) bO) (λV he u=>bR (aY (λI=>?_) λI=>?_))
 .rw[hr]at I;cases I
 refine aK gY (E.ext u.aG) ?_;refine⟨λm U x V=>∃k:Nat,x=hZ (k:Int)/\m=xs.length-k/\k<=xs.length/\St w aZ [bH U (nW (xs.take k))] V,⟨_,0,rfl,rfl,bO,u.eM (α:=ByteArray)⟩,?_⟩;rintro m U _ _ ⟨k,rfl,rfl,hk,u⟩ _;refine aR (aC (λnN=>?_) λnN=>?_)
 .obtain⟨B,W⟩:=gx xs (i:=(k:Int).toNat) bO;refine⟨λM w'=>St w aZ [bH M (nV (nW (xs.take k)) B)] w',?_,?_⟩
  .have Z:=CT (xs.take k);rw[l2]at Z;refine aQ gY E bO W (λ_ EJ=>aD si (EJ.ext u.aG) (aM u yk λY _ u=>aJ (x:=B) u si rfl rfl λ_ u=>⟨λM w'=>M=.bool (decide (B.op=2)&&!(nW (xs.take k)).any λy=>decide (y=B.name))/\St w aZ [bY Y (kp B),bH U (nW (xs.take k))] w',aA fa (aB (v:=hZ B.op) bL u.hb rfl (aH (aC (λ_=>aA gm (aB (v:=.string B.name) gA u.hb rfl (aV agr u (C263 _ _ _ _ u.p1.dS bO) λ_ _ u=>bR ⟨vb cL,u⟩))) λ_=>⟨vb cL,u⟩))),?_⟩))
   rintro _ _ ⟨rfl,u⟩ _;refine aY (λO=>?_) (λO=>?_)
   .refine aA gm (aB (v:=.string B.name) gA u.hb rfl (bD ([B.name]) u iD rfl rfl (dL rfl) λJ _ u=>?_));have Pd:=u.dS;refine bJ u.p2 iD Pd (by simp<;>omega) dD (λG _ u=>?_);have u:=u.p1.drop;rw[XT (by simpa using O)];exact u.p1.drop
   rw[XU (by simpa using O)];exact u.drop
  rintro E7 _ u _;exact aO bO ⟨_,bO,k+1,rfl,rfl,bO,by rw[Mc (k:=k) W];exact u⟩
 rw[ld bO]at u;exact u.fresh
def Jr{α:Type}[Flat α]{S:Nat->Prop}{w:World}{v:Value}{xs:List α}(h:dA S w v xs):wA v=true:=by obtain⟨a,c,rfl,_⟩:=h;rfl
theorem Ug(ns:List ByteArray)(xs:List cA):(qE ns xs).length<=xs.length:=by
 unfold qE
 split
 .unfold B8
  cases h:zJ xs with
  | none=>grind
  | some t=>
   rw[Ex.pP,<- Ex.cY,<- (vA h).2];omega
 grind
theorem C265(lv W:Value)(xs:List cA)(ns:List ByteArray)(i:Int)(t:Ex)(N:Nat)(w:World)(G:dA (λ_=>True) w lv xs)(Y:dA (λ_=>True) w W ns)(hn:xs.length<=1048576)(BN:ns.length<=1048576)(E:BO xs i t)(hNt:t.size<N):CR 265 [lv,hZ i,W] w (λv w'=>kV (bH v (t.steps ns)) w w'):=by
 obtain⟨B,Z,J⟩:∃e,e=t.root/\xs[(i).toNat]?=some e:=⟨_,rfl,E.root.1⟩;have hri:=E.root.2;have hie:=E.end;have O9:=Ex.pa E.2.1;rw[<- Z]at O9;have Xh:=uf B.op;have hi0:=E.1;have hwk:=Pn (k:=B.op) bO;have u:=St.start w;refine oL Tryz.func265 (pl:=avB) ?_;refine aO bO (aQ gY G bO J λ_ ij=>bV B.op fa ij rfl rfl λ_ uQ=>aD bL (uQ.ext u.aG) (aV Wl u (C267 _ _) λw1 he u=>?_));refine⟨λm O a x w1=>∃k:Nat,a=hZ (i+1+qD t.eD k)/\x=hZ (k:Int)/\m=t.eD.length-k/\k<=t.eD.length/\St w aZ [bH O (Xi ns t.eD k)] w1,⟨_,0,gQ (n3 .i64) (by simp[qD]),rfl,rfl,bO,u.eM (α:=oC)⟩,?_⟩
 rintro m O _ _ _ ⟨k,rfl,rfl,rfl,hk,u⟩ _;refine aR (aC (λft=>?_) λft=>?_)
 .obtain⟨a,I⟩:=gx t.eD (i:=k) bO;have hka:=Ex.ug E.2.1 (la I);have T4:=E.kid I;have VE:=T4.end;have T5:=a.rI;have V:=DG (ns:=ns) (ks:=t.eD) (k:=k);have T6:=Ex.pP ns a;refine dU ago u (C265 _ _ _ _ _ _ (N-1) _ (G.ext u.aG) (Y.ext u.aG) hn BN T4 bO) (λx24 _ cJ u=>?_);have Po:=u.dS;exact bJ u.p1 tK Po bO dD (λ_ _ u=>have u:=u.p1.drop;aV Xv u (C245 _ _ _ _ (G.ext u.aG) bO) λ_ _ u=>aO bO ⟨_,bO,k+1,gQ (n3 .i64) (by rw[VE.1,uS I];omega),rfl,rfl,bO,by rw[LJ I];exact u⟩)
 have V:=DG (ns:=ns) (ks:=t.eD) (k:=k);refine aQ gY G bO J (λ_ xw=>bV B.op fa xw rfl rfl λ_ rq=>have u:=u.drew;aD bL (rq.ext u.aG) (aQ gY G bO J λ_ xp=>bV B.n jq xp rfl rfl λ_ yZ=>aD bL (yZ.ext u.aG) (pop (Ew _ _) (aM u I8 λB6 _ u=>?_))));refine⟨eA bL (rq.ext u.aG),?_⟩;refine⟨eA bL (yZ.ext u.aG),?_⟩;refine aJ (x:=(⟨B.op,B.n⟩:oC)) u Es rfl rfl (λ_ u=>⟨λw'=>St w aZ [bY B6 (kp (⟨B.op,Ex.numOf ns B⟩:oC)),bH O (Xi ns t.eD k)] w',aA nH (aB (v:=hZ ((⟨B.op,B.n⟩:oC).kind)) bL u.hb rfl (aH (aC (λM=>?_) λM=>?_))),?_⟩)
 .refine aQ gY G bO J (λ_ A3=>bV B.name gm A3 rfl rfl λ_ LM=>aD gA (LM.ext u.aG) (aV Xw u (C225 _ _ _ _ (Y.ext u.aG) bO) λ_ he u=>aA qB (aT u bL (dL rfl) (rfl) λ_ u=>?_)));have u:=u.enc (cs':=kp ({ (⟨B.op,B.n⟩:oC)with n:=(cU ns B.name)}:oC)) rfl;have U:Ex.numOf ns B=cU ns B.name:=ej M;rw[<- U]at u;exact u
 .have U:Ex.numOf ns B=B.n:=ei M;rw[<- U]at u;exact u
 rintro _ u _;refine aD Es u.At (bD ([(⟨B.op,Ex.numOf ns B⟩:oC)]) u tK rfl rfl (dL rfl) λaoL _ u=>?_);have Pp:=u.dS;refine bJ u.p2 tK Pp (by rw[V,mv];have:(t.steps ns).length=t.size:=Ex.pP ns t;rw[Ex.vz,l1,mv,<- show k=t.eD.length from bO]at this;omega) dD (λaoM _ u=>?_);have u:=u.p1.drop;rw[Ex.vz,<- show k=t.eD.length from bO,<- Z];exact u.p1.drop.fresh
termination_by N
decreasing_by all_goals omega
def C262(s:ByteArray)(b2:Nat)(B:Value)(ns:List ByteArray)(w:World)(hc:Cell w b2 0 B)(E:dA (λ_=>True) w B ns)(G:ns.length<=1048576):CR 262 [.string s,.pointer (some ⟨b2,0,none⟩)] w (λv w'=>v=.bool (!ns.any λy=>decide (y=s))/\Ext w w'):=by
 have u:=St.start w;refine eZ Tryz.func262 ?_;exact bN jj (hc.ext u.aG) (aV agr u (C263 _ _ _ _ (E.ext u.aG) bO) λ_ _ u=>bR ⟨rfl,u.aG⟩)
def C218(lv E:Value)(xs:List cA)(ns:List ByteArray)(w:World)(J:dA (λ_=>True) w lv xs)(G:dA (λ_=>True) w E ns)(V:xs.length<=1048576)(BN:ns.length<=1048576):CR 218 [lv,E] w (λv w'=>∃s,v=.tuple #[s,hZ (kZ ns xs)]/\kV (bH s (qE ns xs)) w w'):=by
 have u:=St.start w;refine ade _ _ _ _ ?_;unfold S218;refine nA u (Jr G) (λMe w1 u=>aV Sa u (C185 _ _ _ (J.ext u.aG) bO) λ_ he u=>bR (aY (λM=>?_) λM=>?_))
 .have Z:kZ ns xs=8:=adq (by simpa using M);refine⟨_,by rw[Z],?_⟩;rw[Md (by rw[Z];decide)];exact(u.drop.eM (α:=oC)).fresh
 have B:fB xs=true:=by simpa using M
 have Kq:=CT xs;have W:=adr (ns:=ns) B;refine dU aou u (C264 _ _ _ (J.ext u.aG) V B) (λx12 _ cJ u=>?_)
 have O:wB _ (.func (.func 262) [].toArray [.pointer (some ⟨Me,0,none⟩)].toArray) (λs=>!ns.any λy=>decide (y=s)):=
  ⟨262,[],_,rfl,aow,λy w1 U=>C262 y Me E ns w1 ((u.p1.hb.cell rfl).ext U) ((G.ext u.aG).ext U) BN⟩
 refine aV agq u (C240 _ _ _ _ _ u.dS O bO) (λ_ he u=>aY (λI=>?_) λI=>?_)
 .have h9:kZ ns xs=9:=by rw[W,ej I]
  refine⟨_,by rw[h9],?_⟩;rw[Md (by rw[h9];decide)];exact(u.drop.drop.eM (α:=oC)).fresh
 refine aB jj u.p1.hb rfl ?_;have Y:kZ ns xs=0:=by rw[W,ei (by simpa using I)]
 have Xk:=zK B;obtain⟨t,ht⟩:=BO.of (xs:=xs) (i:=0) bO;have hz:=ht.zero Xk;refine dU ago u (C265 _ _ _ _ _ t (t.size+1) _ (J.ext u.aG) (G.ext u.aG) V BN ht bO) (λUh _ cJ u=>?_);refine⟨Uh,by rw[Y],?_⟩;unfold qE B8;rw[ej Y,hz.2];exact u.p1.drop.p1.drop.fresh
def C143(lv E M:Value)(xs:List cA)(ns:List ByteArray)(nums:List Int)(w:World)(U:dA (λ_=>True) w lv xs)(G:dA (λ_=>True) w E ns)(I:dA (λ_=>True) w M nums)(Y:xs.length<=1048576)(BN:ns.length<=1048576):CR 143 [lv,E,M] w (λv w'=>v=.tuple #[hZ (pU ns nums xs).1,hZ (pU ns nums xs).2]/\Ext w w'):=by
 have u:=St.start w;refine adf _ _ _ _ _ ?_;unfold S143;refine aK iD (G.ext u.aG) (aK cS (I.ext u.aG) (bX (aC (λO=>?_) λO=>?_)))
 .refine⟨?_,u.aG⟩;unfold pU;rw[ei bO]
 refine dM aov (C218 _ _ _ _ _ (U.ext u.aG) (G.ext u.aG) bO bO) ?_;rintro J _ ⟨Z,rfl,V⟩;have u:=u.made V;refine aN rfl (aN rfl (bX (aC (λB=>?_) λB=>?_)))
 .refine⟨?_,u.aG⟩;unfold pU;rw[ej bO,ei B]
 have CM:=Ug ns xs;refine aV am2 u (C219 _ _ _ _ _ u.dS (I.ext u.aG) bO) (λ_ W u=>aN rfl (aN rfl ?_));refine⟨?_,u.aG⟩;unfold pU;rw[ej bO,ej (by simpa using B)]
variable (w:World) (K:Value->hM)
def avE:dI:=λi=>match i with
 | 9=>(.of [(0,[]),(1,[]),(2,[]),(3,[]),(4,[]),(6,[]),(7,[]),(5,[7]),(8,[]),(9,[]),(10,[]),(11,[]),(12,[]),(13,[]),(15,[]),(16,[]),(14,[16]),(17,[]),(18,[]),(19,[]),(20,[]),(21,[]),(22,[]),(24,[]),(25,[]),(23,[25]),(26,[]),(27,[]),(28,[]),(29,[]),(30,[]),(31,[]),(33,[]),(34,[]),(32,[34]),(35,[]),(36,[]),(37,[]),(38,[])])
 | _=>.nil
def S284(B mr:Value):Prop:=
 pD (λZ W E a=>∀_:Env,
 lN 141 B λb=>bA .lss 3 E b λc=>cV c (iA 141 B E λd=>lA 193 d a λe=>aL 193 a λf g=>sA 193 f e g λh=>bB .add 3 E (i 1) λj=>fA 193 f 6 λk=>lA 3 k h λl=>
 bA .add 3 j l λn=>fA 193 f 7 λo=>lA 3 o h λp=>bA .add 3 n p λq=>fg (λK2=>fA 193 f 0 λr=>lA 3 r h λs=>bB .eql 3 s (i 11) λt=>cV t (K2 tt h) (fA 193 f 0 λu=>
 lA 3 u h λv=>bB .eql 3 v (i 12) λx=>K2 x h)) (λSe y=>∀_:Env,
 fg (λG=>fA 193 f 6 λz=>lA 3 z y λaa=>bB .lss 3 aa (i 0) λab=>cV ab (G tt y) (fA 193 f 7 λac=>lA 3 ac y λad=>bB .lss 3 ad (i 0) λae=>cV ae (G tt y) (
 fA 193 f 6 λaf=>lA 3 af y λag=>lN 141 B λah=>bA .gtr 3 ag ah λai=>cV ai (G tt y) (fA 193 f 7 λaj=>lA 3 aj y λak=>lN 141 B λal=>bA .gtr 3 ak al λam=>
 cV am (G tt y) (lN 141 B λan=>bA .gtr 3 q an λao=>G ao y))))) (λap M=>∀_:Env,
 cV ap (K (i (-1)) M) (fg (λJ=>fg (λK5=>eU hH (Op.unary .not Se) λar=>cV ar (fA 193 f 6 λasx=>lA 3 asx M λau=>bB .gtr 3 au (i 0) λav=>K5 av M) (
 K5 ff M)) (λaw I=>∀_:Env,
 cV aw (J aw I) (fg (λK6=>fA 193 f 0 λay=>lA 3 ay I λaz=>bB .neq 3 az (i 11) λa0=>cV a0 (fA 193 f 7 λa1=>lA 3 a1 I λa2=>bB .gtr 3 a2 (i 0) λa3=>K6 a3 I) (
 K6 ff I)) (λa4 U=>∀_:Env,
 cV a4 (J a4 U) (fA 193 f 0 λa6=>lA 3 a6 U λa7=>bB .eql 3 a7 (i 13) λa8=>cV a8 (bB .eql 3 mr (i 0) λa9=>J a9 U) (J ff U)))))) (λba O=>∀_:Env,
 cV ba (K (i (-1)) O) (fg (λK7=>cV Se (fA 193 f 0 λbc=>lA 3 bc O λbd=>bB .eql 3 bd (i 12) λbe=>cF 302 [be] O λbf Y=>bA .add 3 mr bf λbh=>bB .add 3 E (i 1) λbi=>
 bB .add 3 E (i 1) λbj=>fA 193 f 6 λbk=>lA 3 bk (drew Y) λbl=>bA .add 3 bj bl λbm=>eU hH (ob 141 B (some bi) (some bm) none) λbn=>bB .add 3 E (i 1) λbo=>
 fA 193 f 6 λbp=>lA 3 bp (drew Y) λbq=>bA .add 3 bo bq λbr=>eU hH (ob 141 B (some br) (some q) none) λbs=>cF 284 [bn,bh] (drew Y) λbt bu=>
 kA 3 bp bq bu (cF 284 [bs,bh] bu λbv bw=>fg (λK8=>bB .eql 3 bt (i (-1)) λbx=>cV bx (K8 tt bw) (bB .eql 3 bv (i (-1)) λbz=>K8 bz bw)) (λb0 b1=>∀_:Env,
 cV b0 (K (i (-1)) b1) (bB .add 3 bt (i 1) λb2=>bB .add 3 bv (i 1) λb3=>eU hH (Builtin.max_ #[3,3,3] 3 [W,b2,b3].toArray) λb4=>K7 b4 b1)))) (K7 W O)) (λV b5=>∀_:Env,
 Z V q b5))))))) (K W a)) (λZ=>Z (i 0) (i 0) w)
def avF:dI:=λi=>match i with
 | 15=>(.of [(0,[]),(1,[]),(2,[]),(3,[]),(4,[]),(5,[]),(6,[]),(7,[]),(8,[]),(9,[]),(11,[]),(12,[]),(13,[]),(14,[]),(15,[]),(16,[]),(17,[]),(18,[]),(19,[]),(10,[15]),(20,[]),(21,[]),(22,[])])
 | _=>.nil
theorem ads(B u:Value)(h:S284 w K B u):CR 284 [B,u] w K:=
 qW 131 avF 16 [.tmp 4] Tryz.func284 h
theorem aoN:PL 310:=dJ Tryz.func310
theorem aoO:PL 283:=dJ Tryz.func283
theorem Mf:PL 311:=dJ Tryz.func311
theorem agz:PL 313:=dJ Tryz.func313
theorem agA:PL 314:=dJ Tryz.func314
theorem XV:PL 284:=dJ Tryz.func284
theorem aoP:PL 241:=dJ Tryz.func241
theorem aoQ:PL 108:=dJ Tryz.func108
theorem aoR:PL 177:=dJ Tryz.func177
theorem aoS:PL 179:=dJ Tryz.func179
theorem aoT:PL 182:=dJ Tryz.func182
theorem aoU:PL 183:=dJ Tryz.func183
theorem XW:PL 178:=dJ Tryz.func178
theorem aoV:PL 233:=dJ Tryz.func233
theorem agB:PL 181:=dJ Tryz.func181
theorem aoW:PL 239:=dJ Tryz.func239
theorem XX:PL 184:=dJ Tryz.func184
theorem aoX:PL 282:=dJ Tryz.func282
theorem aoY:PL 309:=dJ Tryz.func309
theorem aoZ:PL 232:=dJ Tryz.func232
theorem ao0:PL 279:=dJ Tryz.func279
theorem agC:PL 186:=dJ Tryz.func186
theorem ao1:PL 247:=dJ Tryz.func247
theorem XY:PL 187:=dJ Tryz.func187
theorem ao2:PL 248:=dJ Tryz.func248
theorem ao3:PL 188:=dJ Tryz.func188
theorem ao4:PL 249:=dJ Tryz.func249
end Go.Proofs.YtpdlpabnlkofmaaGreatDoor
namespace Go.Proofs.YtpdlpabnlkofmaaGreatDoor
open Go.Fw
variable (w:World) (K:Value->hM)
theorem ao5:PL 336:=dJ Tryz.func336
theorem ao6:PL 312:=dJ Tryz.func312
end Go.Proofs.YtpdlpabnlkofmaaGreatDoor
namespace Go.Proofs.YtpdlpabnlkofmaaGreatDoor
open Go.Fw
structure K15 where
instance:Flat K15 where
 agg:=true
 sz:=15
 enc _:=T8.map H4
 val _:=.agg (T8.map H4).toArray
 pos:=dD
 len _:=rfl
 one a v h:=by grind[wA]
 nD _ _:=rfl
 nX h:=by cases h
def C336(w:World):CR 336 [] w (λv w'=>v=j0 (⟨⟩:K15)/\Ext w w'):=by
 have u:=St.start w;refine eZ Tryz.func336 ?_;exact aM u acD (λ_ _ u=>pop (v:=j0 (⟨⟩:K15)) (by kernel_rfl) (aJ (x:=(⟨⟩:K15)) u afY rfl rfl λ_ u=>aD (x:=(⟨⟩:K15)) afY u.At ⟨rfl,u.drop.aG⟩))
theorem C310(k:Int)(w:World):CR 310 [hZ k] w (λv w'=>v=.string (fG k)/\Ext w w'):=by
 have u:=St.start w;refine eZ Tryz.func310 ?_;refine⟨λB w'=>B=.bool (decide (k<0\/15<=k))/\w'=w,?_,?_⟩
 .exact aR (aC (λc=>⟨vb (ew (.inl c)).symm,rfl⟩) λ_=>cR ⟨vb (ga.2 bO),rfl⟩)
 rintro _ _ ⟨rfl,rfl⟩ _;refine aC (λ_=>⟨gQ H4 (by unfold fG;rw[ej bO]),u.aG⟩) (λc=>aV ao5 u (C336 _) λ_ E u=>?_);obtain⟨n,rfl⟩:∃n:Nat,k=n:=⟨k.toNat,bO⟩;refine pop (v:=.string (fG n)) ?_ ⟨rfl,u.aG⟩
 match n,c with
 | 0,_=>exact(by kernel_rfl:pr hH (vp 364 (j0 K15.mk) (hZ ((0:Nat):Int)))=some (.string (fG ((0:Nat):Int))))
 | 1,_=>exact(by kernel_rfl:pr hH (vp 364 (j0 K15.mk) (hZ ((1:Nat):Int)))=some (.string (fG ((1:Nat):Int))))
 | 2,_=>exact(by kernel_rfl:pr hH (vp 364 (j0 K15.mk) (hZ ((2:Nat):Int)))=some (.string (fG ((2:Nat):Int))))
 | 3,_=>exact(by kernel_rfl:pr hH (vp 364 (j0 K15.mk) (hZ ((3:Nat):Int)))=some (.string (fG ((3:Nat):Int))))
 | 4,_=>exact(by kernel_rfl:pr hH (vp 364 (j0 K15.mk) (hZ ((4:Nat):Int)))=some (.string (fG ((4:Nat):Int))))
 | 5,_=>exact(by kernel_rfl:pr hH (vp 364 (j0 K15.mk) (hZ ((5:Nat):Int)))=some (.string (fG ((5:Nat):Int))))
 | 6,_=>exact(by kernel_rfl:pr hH (vp 364 (j0 K15.mk) (hZ ((6:Nat):Int)))=some (.string (fG ((6:Nat):Int))))
 | 7,_=>exact(by kernel_rfl:pr hH (vp 364 (j0 K15.mk) (hZ ((7:Nat):Int)))=some (.string (fG ((7:Nat):Int))))
 | 8,_=>exact(by kernel_rfl:pr hH (vp 364 (j0 K15.mk) (hZ ((8:Nat):Int)))=some (.string (fG ((8:Nat):Int))))
 | 9,_=>exact(by kernel_rfl:pr hH (vp 364 (j0 K15.mk) (hZ ((9:Nat):Int)))=some (.string (fG ((9:Nat):Int))))
 | 10,_=>exact(by kernel_rfl:pr hH (vp 364 (j0 K15.mk) (hZ ((10:Nat):Int)))=some (.string (fG ((10:Nat):Int))))
 | 11,_=>exact(by kernel_rfl:pr hH (vp 364 (j0 K15.mk) (hZ ((11:Nat):Int)))=some (.string (fG ((11:Nat):Int))))
 | 12,_=>exact(by kernel_rfl:pr hH (vp 364 (j0 K15.mk) (hZ ((12:Nat):Int)))=some (.string (fG ((12:Nat):Int))))
 | 13,_=>exact(by kernel_rfl:pr hH (vp 364 (j0 K15.mk) (hZ ((13:Nat):Int)))=some (.string (fG ((13:Nat):Int))))
 | 14,_=>exact(by kernel_rfl:pr hH (vp 364 (j0 K15.mk) (hZ ((14:Nat):Int)))=some (.string (fG ((14:Nat):Int))))
 | n+15,c=>exact absurd (.inr bO) c
def aiq:List Nat:=[107,114,110,101,102]
def ao7(c:Nat):ByteArray:=⟨#[c.toUInt8]⟩
def C312(k:Int)(c:Nat)(hc:c∈aiq)(w:World):CR 312 [.string (fG k),.string (ao7 c)] w (λv w'=>v=.bool (eT (fG k) c)/\Ext w w'):=by
 have u:=St.start w;refine eZ Tryz.func312 ?_;refine aV agx u (C337 (fG k) c.toUInt8 _) (λ_ B u=>cR ?_);refine⟨vb ?_,u.aG⟩;have h1:=XG (iQ (fG k)) c.toUInt8;have h2:c.toUInt8.toNat=c:=(by decide:∀c∈aiq,c.toUInt8.toNat=c) c hc;unfold eT;rw[show(λb:UInt8=>decide ((b.toNat:Int)=(c:Int)))=λb=>decide (b=c.toUInt8)from funext λ_=>ga.2 ⟨λ_=>UInt8.toNat_inj.1 bO,λh=>by rw[h,h2]⟩];exact(Bool.eq_iff_iff.2 (decide_eq_true_iff.trans h1))
def C311(k:Int)(c b2:Nat)(w:World)(hc:Cell w b2 0 (.string (fG k)))(B:c∈aiq):CR 311 [.string (ao7 c),.pointer (some ⟨b2,0,none⟩)] w (λv w'=>v=.bool (eT (fG k) c)/\Ext w w'):=by
 have u:=St.start w;refine eZ Tryz.func311 ?_;exact bN gA (hc.ext u.aG) (aV ao6 u (C312 k c B _) λ_ _ u=>⟨rfl,u.aG⟩)
def C313(b:Bool)(s:ByteArray)(w:World):CR 313 [.bool b,.string s] w (λv w'=>v=.bool ((b&&gN s)||(!b&&decide (s=⟨#[]⟩)))/\Ext w w'):=by
 have u:=St.start w;refine eZ Tryz.func313 ?_;refine⟨λB w'=>B=.bool ((b&&gN s)||(!b&&decide (s=⟨#[]⟩)))/\St w aZ [] w',aY (λ_=>aV LR u (C180 _ _) λ_ _ u=>aY (λ_=>⟨vb cL,u⟩) λ_=>bR (aY (λ_=>jK ⟨vb cL,u⟩) λ_=>⟨vb cL,u⟩)) (λ_=>bR (aY (λ_=>jK ⟨vb cL,u⟩) λ_=>⟨vb cL,u⟩)),?_⟩;rintro _ _ ⟨rfl,u⟩ _;exact⟨rfl,u.aG⟩
def C314(b:Bool)(lv:Value)(xs:List cA)(w:World)(B:dA (λ_=>True) w lv xs)(G:xs.length<=1048576):CR 314 [.bool b,lv] w (λv w'=>v=.bool ((b&&fB xs)||(!b&&decide (xs.length=0)))/\Ext w w'):=by
 have u:=St.start w;refine eZ Tryz.func314 ?_;refine⟨λE w'=>E=.bool ((b&&fB xs)||(!b&&decide (xs.length=0)))/\St w aZ [] w',aY (λ_=>aV Sa u (C185 _ _ _ (B.ext u.aG) bO) λ_ _ u=>aY (λ_=>⟨vb cL,u⟩) λ_=>bR (aY (λ_=>aK gY (B.ext u.aG) (aH ⟨vb cL,u⟩)) λ_=>⟨vb cL,u⟩)) (λ_=>bR (aY (λ_=>aK gY (B.ext u.aG) (aH ⟨vb cL,u⟩)) λ_=>⟨vb cL,u⟩)),?_⟩;rintro _ _ ⟨rfl,u⟩ _;exact⟨rfl,u.aG⟩
theorem Mg{x:bQ}{u:Bool}(h:u=(if eT (fG x.kind) 107=true then decide (1<=x.n/\x.n<=8)else decide (x.n=0))) :
  (!(decide (1<=x.kind/\x.kind<15/\0<=x.at_/\x.at_<=4000)&&u)||(!(eT (fG x.kind) 114&&gN x.eG||!eT (fG x.kind) 114&&decide (x.eG=⟨#[]⟩))||(!(eT (fG x.kind) 110&&gN x.name||!eT (fG x.kind) 110&&decide (x.name=⟨#[]⟩)) ||
  (!(eT (fG x.kind) 101&&fB x.e||!eT (fG x.kind) 101&&decide (x.e.length=0))||!(eT (fG x.kind) 102&&fB x.f||!eT (fG x.kind) 102&&decide (x.f.length=0)))))) = !nf x:=by
 subst h
 have I:gN x.eG=true->¬ x.eG=⟨#[]⟩:=λh e=>by rw[e]at h;exact absurd h dD
 have G:gN x.name=true->¬ x.name=⟨#[]⟩:=λh e=>by rw[e]at h;exact absurd h dD
 have B:fB x.e=true->¬ x.e.length=0:=λh e=>by rw[sl.1 e]at h;exact absurd h dD
 have E:fB x.f=true->¬ x.f.length=0:=λh e=>by rw[sl.1 e]at h;exact absurd h dD
 unfold nf
 cases h1:eT (fG x.kind) 114<;>cases h2:eT (fG x.kind) 110<;>cases h3:eT (fG x.kind) 101<;>cases h4:eT (fG x.kind) 102<;>cases h5:eT (fG x.kind) 107<;>simp<;>grind
def C283(x:bQ)(Z:bE)(w:World)(hx:ml w Z x)(I:x.e.length<=1048576)(Y:x.f.length<=1048576):CR 283 [j0 Z] w (λv w'=>v=.bool (!nf x)/\Ext w w'):=by
 obtain⟨O,J,rfl,LN,Ht⟩:=hx;have u:=St.start w;refine oL Tryz.func283 (pl:=avE) ?_;refine cG u (λW _ u=>aA dO (aB (v:=hZ x.kind) bL u.hb rfl (aV aoN u (C310 _ _) λ_ B u=>gF u afW rfl λE _ u=>aT u gA (dL rfl) (rfl) λ_ u=>aA jS (aB (v:=hZ x.n) bL u.p1.hb rfl (aH ⟨λG w'=>G=.bool (if eT (fG x.kind) 107=true then decide (1<=x.n/\x.n<=8)else decide (x.n=0))/\St w aZ [bY E [.string (fG x.kind)],bY W (kp (⟨x.kind,x.eG,x.name,O,J,x.n,x.body,x.ey,x.at_⟩:bE))] w',?_,?_⟩)))))
 .refine gW Mf (C311 x.kind 107 E _ (u.hb.cell rfl) dD) ?_;rintro _ _ ⟨rfl,B⟩;have u:=u.ext B;exact aY (λ_=>aA jS (aB (v:=hZ x.n) bL u.p1.hb rfl (cR (aC (λ_=>aA jS (aB (v:=hZ x.n) bL u.p1.hb rfl (gZ ⟨vb cL,u⟩))) λ_=>⟨vb cL,u⟩)))) (λ_=>⟨vb cL,u⟩)
 rintro _ _ ⟨rfl,u⟩ _;refine⟨λG w'=>G=.bool (decide (1<=x.kind/\x.kind<15/\0<=x.at_/\x.at_<=4000)&&(if eT (fG x.kind) 107=true then decide (1<=x.n/\x.n<=8)else decide (x.n=0)))/\St w aZ [bY E [.string (fG x.kind)],bY W (kp (⟨x.kind,x.eG,x.name,O,J,x.n,x.body,x.ey,x.at_⟩:bE))] w',?_,?_⟩
 .refine aA dO (aB (v:=hZ x.kind) bL u.p1.hb rfl (cR ?_));exact aC (λ_=>aA dO (aB (v:=hZ x.kind) bL u.p1.hb rfl (aR (aC (λ_=>aA lM (aB (v:=hZ x.at_) bL u.p1.hb rfl (cR (aC (λ_=>aA lM (aB (v:=hZ x.at_) bL u.p1.hb rfl (gZ (aC (λ_=>⟨vb cL,u⟩) λ_=>⟨vb cL,u⟩)))) λ_=>⟨vb cL,u⟩)))) λ_=>⟨vb cL,u⟩)))) (λ_=>⟨vb cL,u⟩)
 rintro _ _ ⟨rfl,u⟩ _;refine⟨λG w'=>G=.bool (!nf x)/\St w aZ [bY E [.string (fG x.kind)],bY W (kp (⟨x.kind,x.eG,x.name,O,J,x.n,x.body,x.ey,x.at_⟩:bE))] w',bR (aY (λ_=>have u:=u.drew;⟨vb (by rw[<- Mg rfl];grind),u⟩) λSf=>?_),?_⟩
 .refine aA iH (have u:=u.drew;aB (v:=.string x.eG) gA u.p1.hb rfl (gW Mf (C311 x.kind 114 E _ (u.hb.cell rfl) dD) ?_));rintro _ _ ⟨rfl,B⟩;have u:=u.ext B;refine⟨aF gA (u.p1.hb.cell rfl),?_⟩;refine gW agz (C313 _ x.eG _) ?_;rintro _ _ ⟨rfl,B⟩;have u:=u.ext B;refine bR (aY (λ_=>⟨vb (by rw[<- Mg rfl];grind),u⟩) λagD=>aA gh (aB (v:=.string x.name) gA u.p1.hb rfl (gW Mf (C311 x.kind 110 E _ (u.hb.cell rfl) dD) ?_)));rintro _ _ ⟨rfl,B⟩;have u:=u.ext B;refine⟨aF gA (u.p1.hb.cell rfl),?_⟩;refine gW agz (C313 _ x.name _) ?_
  rintro _ _ ⟨rfl,B⟩;have u:=u.ext B;refine bR (aY (λ_=>⟨vb (by rw[<- Mg rfl];grind),u⟩) λV=>aA iX (aB jz u.p1.hb rfl ?_));have U:=DL.flat LN;refine gW Mf (C311 x.kind 101 E _ (u.hb.cell rfl) dD) ?_;rintro _ _ ⟨rfl,B⟩;have u:=u.ext B;refine⟨aF jz (u.p1.hb.cell rfl),?_⟩;refine gW agA (C314 _ _ x.e _ (U.ext u.aG) I) ?_;rintro _ _ ⟨rfl,B⟩;have u:=u.ext B;refine bR (aY (λ_=>⟨vb (by rw[<- Mg rfl];grind),u⟩) λagk=>aA j9 (aB jz u.p1.hb rfl ?_));have M:=DL.flat Ht;refine gW Mf (C311 x.kind 102 E _ (u.hb.cell rfl) dD) ?_
  rintro _ _ ⟨rfl,B⟩;have u:=u.ext B;refine⟨aF jz (u.p1.hb.cell rfl),?_⟩;refine gW agA (C314 _ _ x.f _ (M.ext u.aG) Y) ?_;rintro _ _ ⟨rfl,B⟩;have u:=u.ext B;exact bR ⟨vb (by rw[<- Mg rfl];grind),u⟩
 rintro _ _ ⟨rfl,u⟩ _;exact⟨rfl,u.drop.drop.aG⟩
def Cd{l:List cA}(h:fB l=true):∀y∈l,0<=y.at_:=by
 intro y B
 unfold fB at h
 have u:l.any lr=false:=cL
 rw[Bu]at u
 have:=u y B
 unfold lr at this
 grind
structure ao8(x:bQ):Prop where
 kind:1<=x.kind/\x.kind<=14
 at0:0<=x.at_/\x.at_<=4000
 e:(eT (fG x.kind) 101=true/\fB x.e=true)\/(eT (fG x.kind) 101=false/\x.e=[])
 f:(eT (fG x.kind) 102=true/\fB x.f=true)\/(eT (fG x.kind) 102=false/\x.f=[])
 eG:(eT (fG x.kind) 114=true/\gN x.eG=true)\/(eT (fG x.kind) 114=false/\x.eG=⟨#[]⟩)
 name:(eT (fG x.kind) 110=true/\gN x.name=true)\/(eT (fG x.kind) 110=false/\x.name=⟨#[]⟩)
 n:(eT (fG x.kind) 107=true/\1<=x.n/\x.n<=8)\/(eT (fG x.kind) 107=false/\x.n=0)
def yr{x:bQ}(h:nf x=true):ao8 x:=by
 unfold nf at h
 simp only[oi,sQ,Bool.or_eq_false_iff,decide_eq_false_iff_not,bne_eq_false_iff_eq,Bool.and_eq_false_iff,Bool.not_eq_false',uh]at h
 obtain⟨⟨⟨h1,h2⟩,h3⟩,h4⟩:=h
 constructor
 .omega
 .omega
 .grind
 .grind
 .grind
 .grind
 grind
def adu{x:bQ}(h:nf x=true):0<=x.at_/\(∀y∈x.e,0<=y.at_)/\(∀y∈x.f,0<=y.at_):=by
 have h:=yr h
 refine⟨h.at0.1,?_,?_⟩
 .rcases h.e with h|h
  .exact Cd h.2
  grind
 rcases h.f with h|h
 .exact Cd h.2
 grind
theorem air:eT (fG 12) 107=true:=dD
theorem lz{l:List bQ}(h:pQ l=true):l.length<=40/\(∀x∈l,nf x=true)/\∃t:Bk,l=t.flat/\t.str/\t.ok 0=true/\t.depth<=12:=by
 unfold pQ at h
 simp only[oi,decide_eq_true_eq,sQ]at h
 obtain⟨⟨h1,h2⟩,h3⟩:=h
 rw[Bu]at h2
 refine⟨h1,λx E=>cL,?_⟩
 unfold fE at h3
 cases hb:tA l with
 | none=>grind
 | some t=>
  rw[hb]at h3
  obtain⟨B,u⟩:=n7 hb
  grind
structure PF(p:cB):Prop where
 lines:∀l∈p.lines,l≠[]/\∀c∈l,iS 4294967296 c=false
 iR:∀c∈p.iR,iS 4294967296 c=false
 eK:∀c∈p.eK,iS 0 c=false
 th:∀t∈p.threads,mG true t=false
 rc:∀t∈p.recover,mG false t=false
 cl:∀c∈p.dT,0<=c.at_/\fB c.e=true
 one:p.recover.length<=1
def qH{p:cB}(h:ky p=true):PF p:=by
 unfold ky n8 nP at h
 simp only[oi,sQ,Bu,decide_eq_true_eq]at h
 obtain⟨⟨h1,h2⟩,⟨⟨h3,h4⟩,h5⟩,h6⟩:=h
 refine⟨λl u=>?_,λc hc=>cL,λc hc=>cL,λt ht=>cL,λt ht=>cL,λc hc=>?_,h6⟩
 .have:=h1 l u
  unfold nU n8 at this
  grind
 have:=h2 c hc
 unfold lU rJ at this
 grind
def zP{nb:Bool}{t:cO}(h:mG nb t=false):0<=t.at_/\pQ t.body=true/\(∀s∈t.dQ,gN s=true)/\gN t.name=nb:=by
 unfold mG sF rJ at h
 grind
def zQ{m:Int}{c:cK}(h:iS m c=false):0<=c.at_/\gN c.name=true/\0<=c.n/\c.n<=m:=by
 unfold iS rJ at h
 grind
def gp(p:cB):List cO:=p.threads++p.recover
def PF.qZ{p:cB}(h:PF p){t:cO}(ht:t∈gp p):0<=t.at_/\pQ t.body=true/\∀s∈t.dQ,gN s=true:=by
 unfold gp at ht
 rcases pX.1 ht with ht|ht
 .have:=zP (h.th t ht);grind
 have:=zP (h.rc t ht);grind
def eW(p:cB):List Int:=(iv p).map cK.n
def eB(p:cB):Int:=(p.lines.flatten.length:Int)
def XZ(p:cB):((iv p).length:Int)-p.iR.length=eB p:=by unfold iv eB;rw[l1];omega
def cT(p:cB):List ByteArray:=(iv p).map cK.name
def cM(p:cB):List ByteArray:=p.eK.map cK.name
def jt:List (List cK)->Int->Int->Int
 | [],i,a=>i+a
 | l::r,i,a=>if a<l.length then i else jt r (i+1) (a-l.length)
def pE(p:cB)(c:Int):Int:=if c<0\/(iv p).length<=c then -1 else jt p.lines 0 c
def pe(l:List cA)(ns:List ByteArray):Bool:=l.any λx=>decide (x.op=2)&&decide (cU ns x.name<0)
def ru(x:bQ)(n:Int):Int:=if x.kind=12 then n*x.n else n
def mJ:Bk->Int->Bool
 | .nil,_=>false
 | .cons x a b r,n=>decide (64<ru x n)||(mJ a (ru x n)||mJ b (ru x n))||mJ r n
def Bk.app:Bk->Bk->Bk
 | .nil,t=>t
 | .cons x a b r,t=>.cons x a b (r.app t)
theorem Bk.Ba(a b:Bk):(a.app b).flat=a.flat++b.flat:=by
 induction a with
 | nil=>rfl
 | cons x c d r _ _ u=>grind[flat,app]
theorem Bk.Sg{a b:Bk}(B:a.str)(hb:b.str):(a.app b).str:=by
 induction a with
 | nil=>exact hb
 | cons x c d r _ _ u=>
  grind[str,app]
theorem HA(a b:Bk)(n:Int):mJ (a.app b) n=(mJ a n||mJ b n):=by
 induction a with
 | nil=>simp[Bk.app,mJ]
 | cons x c d r _ _ u=>simp only[Bk.app,mJ,u,Bool.or_assoc]
def ry(l:List bQ):Bool:=match tA l with|some t=>mJ t 1|none=>false
theorem vC{t:Bk}(h:t.str):ry t.flat=mJ t 1:=by unfold ry;rw[rV h]
def fQ(p:cB):List cK:=iv p++p.eK++p.threads.map (λt=>⟨t.name,0,t.at_⟩)
def DI(l:List cK)(j:Nat):Bool:=match l[j]? with|some c=>decide (cU (l.map cK.name) c.name<j)|none=>false
def kB(l:List cK):Bool:=(u7 l.length).any (DI l)
def Sh(p:cB)(rs:List ByteArray)(j:Nat):Bool:=match rs[j]? with|some s=>decide (cU rs s<j)||decide (0<=cU (cT p) s)||decide (0<=cU (cM p) s)|none=>false
def uX(p:cB)(rs:List ByteArray):Bool:=(u7 rs.length).any (Sh p rs)
theorem Mi{f:Nat->Bool}{n:Nat}(h:∀j,j<n->f j=false):(u7 n).any f=false:=by
 grind
theorem Mj{f:Nat->Bool}{n j:Nat}(u:j<n)(h:f j=true):(u7 n).any f=true:=ya.2 ⟨j,Nd.2 u,h⟩
def Si{f:Nat->Bool}{k:Nat}(h:∀j,j<k->f j=false)(u:f k=false):∀j,j<k+1->f j=false:=λj B=>by
 grind
def ng(p:cB)(rs:List ByteArray)(x:bQ):Bool:=
 (decide (¬ x.eG=⟨#[]⟩)&&decide (cU rs x.eG<0)) ||
 ((decide (x.kind=2)||decide (x.kind=3)||decide (x.kind=4))&&decide (cU (cT p) x.name<0)) ||
 ((decide (x.kind=5)||decide (x.kind=6))&&(decide (cU (cT p) x.name<0)||decide (eB p<=cU (cT p) x.name))) ||
 ((decide (x.kind=9)||decide (x.kind=10))&&decide (cU (cM p) x.name<0))||pe x.e rs||pe x.f rs
def uY(p:cB):Bool:=p.lines.any (λl=>decide (4<(l.length:Int)))||(gp p).any (λt=>decide (4<(t.dQ.length:Int))) ||
 (decide (4<(p.lines.length:Int))||decide (4<(p.iR.length:Int))||decide (2<(p.eK.length:Int))||decide ((p.threads.length:Int)<1)||decide (3<(p.threads.length:Int))||decide (4<(p.dT.length:Int)))
def gq(p:cB):List ByteArray:=(cT p).take (eB p).toNat
def fk(p:cB):Int:=
 if ky p=false then 8 else if uY p=true then 2 else if (gp p).any (λt=>ry t.body)=true then 11 else if kB (fQ p)=true then 10
 else if (gp p).any (λt=>uX p t.dQ)=true then 10 else if (gp p).any (λt=>t.body.any (ng p t.dQ))=true then 9
 else if p.dT.any (λc=>pe c.e (gq p))=true then 9 else 0
def Js{x:bQ}(h:nf x=true):0<=x.at_/\(x.kind=12->1<=x.n/\x.n<=8):=by
 have h:=yr h
 refine⟨h.at0.1,λu=>?_⟩
 rcases h.n with h|h
 .exact h.2
 rw[u,air]at h;grind
section
variable {p:cB}
theorem ce8(h1:ky p=false):fk p=8:=by unfold fk;grind
theorem ce2(h1:ky p=true)(h2:uY p=true):fk p=2:=by grind[fk]
theorem ao9(h1:ky p=true)(h2:uY p=false)(h3:(gp p).any (λt=>ry t.body)=true):fk p=11:=by grind[fk]
theorem apa(h1:ky p=true)(h2:uY p=false)(h3:(gp p).any (λt=>ry t.body)=false)(h4:kB (fQ p)=true):fk p=10:=by
 grind[fk]
theorem agE(h1:ky p=true)(h2:uY p=false)(h3:(gp p).any (λt=>ry t.body)=false)(h4:kB (fQ p)=false)(h5:(gp p).any (λt=>uX p t.dQ)=true):fk p=10:=by
 grind[fk]
theorem ce9(h1:ky p=true)(h2:uY p=false)(h3:(gp p).any (λt=>ry t.body)=false)(h4:kB (fQ p)=false)(h5:(gp p).any (λt=>uX p t.dQ)=false)
  (h6:(gp p).any (λt=>t.body.any (ng p t.dQ))=true):fk p=9:=by
 grind[fk]
theorem apb(h1:ky p=true)(h2:uY p=false)(h3:(gp p).any (λt=>ry t.body)=false)(h4:kB (fQ p)=false)(h5:(gp p).any (λt=>uX p t.dQ)=false)
  (h6:(gp p).any (λt=>t.body.any (ng p t.dQ))=false) (u:p.dT.any (λc=>pe c.e (gq p))=true):fk p=9:=by
 grind[fk]
theorem ce0(h1:ky p=true)(h2:uY p=false)(h3:(gp p).any (λt=>ry t.body)=false)(h4:kB (fQ p)=false)(h5:(gp p).any (λt=>uX p t.dQ)=false)
  (h6:(gp p).any (λt=>t.body.any (ng p t.dQ))=false) (u:p.dT.any (λc=>pe c.e (gq p))=false):fk p=0:=by
 grind[fk]
theorem PF.decl(h:PF p):∀c∈fQ p,0<=c.at_:=by
 intro c hc
 unfold fQ iv at hc
 rcases pX.1 hc with hc|hc
 .rcases pX.1 hc with hc|hc
  .rcases pX.1 hc with hc|hc
   .obtain⟨l,u,hc⟩:=List.mem_flatten.1 hc
    exact(zQ ((h.lines l u).2 c hc)).1
   exact(zQ (h.iR c hc)).1
  exact(zQ (h.eK c hc)).1
 obtain⟨t,ht,rfl⟩:=oG.1 hc
 exact(zP (h.th t ht)).1
theorem Ui(u:PS p):(fQ p).length<=252000:=by
 have:=kY u
 have:=u.eK
 have:=u.threads
 grind[fQ]
theorem mK(u:PS p):(cT p).length<=250500:=by unfold cT;rw[n4];exact kY u
theorem DJ(u:PS p):(gp p).length<=1000:=by
 have:=u.threads
 have:=u.recover
 grind[gp]
theorem PZ.qZ(u:PZ p){t:cO}(ht:t∈gp p):Xp t/\t.dQ.length<=500/\t.body.length<=500:=by
 refine⟨?_,u.dQ t ht,u.body t ht⟩
 rcases pX.1 ht with h|h
 .exact u.zt t h
 exact u.zr t h
end
def C118(p:cB)(pv:bP)(w:World)(hp:ml w pv p)(B:PZ p):CR 118 [j0 pv] w (λv w'=>v=.bool (ky p)/\Ext w w'):=by
 obtain⟨J,Y,W,I,V,bG,rfl,cQ,dG,cW,cC,cD,cP⟩:=hp;have u:=St.start w;refine eZ Tryz.func118 ?_;refine cG u (λku w1 u=>?_);refine⟨λm x w1=>∃k:Nat,x=hZ (k:Int)/\m=p.lines.length-k/\k<=p.lines.length/\(∀y∈p.lines.take k,nU y=false)/\St w aZ [bY ku (kp (⟨J,Y,W,I,V,bG⟩:bP))] w1,⟨_,0,rfl,rfl,l6 _,ee,u⟩,?_⟩;rintro m _ _ ⟨k,rfl,rfl,hk,eH,u⟩ _;have hzl:=B.lines;refine aA gB (aB oS u.hb rfl ?_);obtain⟨ais,Uj,X0⟩:=cQ.open
 have avG:=X0.1;refine aK pL (Uj.ext u.aG) (aR (aC (λjL=>?_) λjL=>?_))
 .obtain⟨EK,qY⟩:=gx ais (i:=(k:Int).toNat) bO;obtain⟨O,E8⟩:=gx p.lines (i:=(k:Int).toNat) bO;have apc:DL w (j0 EK) O:=X0.2 _ _ _ qY E8;refine⟨λM w'=>M=.bool (nU O)/\St w aZ [bY ku (kp (⟨J,Y,W,I,V,bG⟩:bP))] w',?_,?_⟩
  .refine aA gB (aB oS u.hb rfl (aQ pL (Uj.ext u.aG) bO qY λ_ uQ=>aD jO uQ ?_));have U:=DL.flat apc;exact aK iu (U.ext u.aG) (aH (aC (λ_=>⟨vb (by unfold nU;grind),u⟩) λ_=>aA gB (aB oS u.hb rfl (aQ pL (Uj.ext u.aG) bO qY λ_ qG=>aD jO qG (aV Wf u (C198 _ _ _ _ (U.ext u.aG) (by have:=B.line _ (la E8);omega) (B.zl _ (la E8))) λ_ _ u=>bR ⟨vb (by unfold nU;grind),u⟩)))))
  rintro _ _ ⟨rfl,u⟩ _;refine aY (λlx=>?_) (λlx=>aO bO ⟨_,bO,k+1,rfl,rfl,bO,dY eH E8 lx,u⟩);refine⟨vb ?_,u.drop.aG⟩;unfold ky;rw[ig E8 lx];rfl
 have apd:=eH;refine⟨λm x w1=>∃E:Nat,x=hZ (E:Int)/\m=p.dT.length-E/\E<=p.dT.length/\(∀y∈p.dT.take E,lU y=false)/\St w aZ [bY ku (kp (⟨J,Y,W,I,V,bG⟩:bP))] w1,⟨_,0,rfl,rfl,l6 _,ee,u⟩,?_⟩;rintro m _ _ ⟨E,rfl,rfl,Xh,Pq,u⟩ _;have hzc:=B.dT;refine aA jx (aB qX u.hb rfl ?_);obtain⟨avH,G,ape⟩:=cP.open;have hn13:=ape.1;refine aK tn (G.ext u.aG) (aR (aC (λkf=>?_) λkf=>⟨λM w'=>M=.bool (n8 4294967296 p.iR&&n8 0 p.eK&&nP true p.threads&&nP false p.recover&&decide (p.recover.length<=1))/\St w aZ [bY ku (kp (⟨J,Y,W,I,V,bG⟩:bP))] w',?_,?_⟩))
 .obtain⟨Mk,Ce⟩:=gx avH (i:=(E:Int).toNat) bO;obtain⟨agG,Z⟩:=gx p.dT (i:=(E:Int).toNat) bO;obtain⟨adw,rfl,adx⟩:=ape.2 _ _ _ Ce Z;refine⟨λM w'=>M=.bool (lU agG)/\St w aZ [bY ku (kp (⟨J,Y,W,I,V,bG⟩:bP))] w',aA jx (aB qX u.hb rfl (aQ tn (G.ext u.aG) bO Ce λ_ yZ=>bV agG.at_ I3 yZ rfl rfl λ_ xo=>aD bL xo (aV Rw u (C199 _ _) λ_ he u=>bR (aY (λ_=>⟨vb (by unfold lU;grind),u⟩) λqI=>?_)))),?_⟩
  .refine aA jx (aB qX u.hb rfl (aQ tn (G.ext u.aG) bO Ce λ_ A3=>bV adw vu A3 rfl rfl λ_ LM=>aD jz LM ?_));have avI:=DL.flat adx;exact aV KO u (C200 _ _ _ (avI.ext u.aG) (B.zc _ (la Z)).1 (B.zc _ (la Z)).2) (λ_ _ u=>bR ⟨vb (by unfold lU;grind),u⟩)
  rintro _ _ ⟨rfl,u⟩ _;refine aY (λuZ=>?_) (λuZ=>aO bO ⟨_,bO,E+1,rfl,rfl,bO,dY Pq Z uZ,u⟩);refine⟨vb ?_,u.drop.aG⟩;unfold ky;rw[ig Z uZ];simp
 .refine aA qi (aB jO u.hb rfl ?_);have avJ:=DL.flat dG;refine aV Wf u (C198 _ _ _ _ (avJ.ext u.aG) (by have:=B.iR;omega) B.zv) (λ_ he u=>aY (λRZ=>?_) λ_=>⟨vb cL,u⟩);refine aA nT (aB jO u.hb rfl ?_);have aiu:=DL.flat cW;refine aV Wf u (C198 _ _ _ _ (aiu.ext u.aG) (by have:=B.eK;omega) B.zk) (λ_ he u=>aY (λc_x59=>aA kI (aB iC u.hb rfl (aV afI u (C201 _ _ true _ (cC.ext u.aG) (by have:=B.threads;omega) λ_ ht=>B.qZ (List.mem_append_left _ ht)) λ_ he u=>aY (λu0=>aA oT (aB iC u.hb rfl (aV afI u (C201 _ _ false _ (cD.ext u.aG) (by have:=B.recover;omega) λ_ ht=>B.qZ (List.mem_append_right _ ht)) λ_ he u=>aY (λaf9=>?_) λ_=>⟨vb cL,u⟩))) λ_=>⟨vb cL,u⟩))) λ_=>⟨vb cL,u⟩)
  refine aA oT (aB iC u.hb rfl ?_);obtain⟨ts17,avK,avL⟩:=cD.open;have hn17:=avL.1;exact aK fx (avK.ext u.aG) (gZ ⟨vb cL,u⟩)
 rintro _ _ ⟨rfl,u⟩ _;refine⟨vb ?_,u.drop.aG⟩;unfold ky;rw[iE (by rw[ld bO]at apd;exact apd),iE (by rw[ld bO]at Pq;exact Pq)];rfl
def C63(p:cB)(pv:bP)(w:World)(hp:ml w pv p)(Y:PZ p):CR 63 [j0 pv] w (λv w'=>kV (bH v (eW p)) w w'):=by
 obtain⟨J,E,V,I,U,M,rfl,Z,dG,cW,cC,cD,cP⟩:=hp;have u:=St.start w;refine eZ Tryz.func63 ?_;refine cG u (λku W u=>bD ([]:List Int) u cS rfl rfl (dL rfl) λady _ u=>aD eg u.p1.At (dU TO u (C59 p _ _ ⟨J,E,V,I,U,M,rfl,Z.ext u.aG,dG.ext u.aG,cW.ext u.aG,cC.ext u.aG,cD.ext u.aG,cP.ext u.aG⟩ Y.toPS) λx8 _ cJ u=>?_));have u:=u.p2.p1.p2;refine⟨λm y x W=>∃k:Nat,x=hZ (k:Int)/\m=(iv p).length-k/\k<=(iv p).length/\St w aZ [bH y (((iv p).take k).map cK.n),bH x8 (iv p),bY ku (kp (⟨J,E,V,I,U,M⟩:bP))] W,⟨_,0,rfl,rfl,bO,u⟩,?_⟩
 rintro m nq _ _ ⟨k,rfl,rfl,hk,u⟩ _;have hac:=kY Y.toPS;have CM:(((iv p).take k).map cK.n).length=k:=by rw[n4,l2];omega
 refine aK iu u.p1.dS (aR (aC (λnN=>?_) λnN=>?_))
 .obtain⟨G,O⟩:=gx (iv p) (i:=(k:Int).toNat) bO;refine dR u.p1 iu bO bO (λ_ uR=>mD sg uR λ_ lT=>nK G.n u.p1 bL lT O rfl (bD ([G.n]:List Int) u cS rfl rfl (dL rfl) λapf _ u=>?_));have B:=u.dS;exact bJ u.p1 cS B (by simp<;>omega) dD (λ_ _ u=>have u:=u.p1.drop;aO bO (have u:=u.p2.p2.p2;⟨_,bO,k+1,rfl,rfl,bO,by rw[<- gi (k:=k) O];exact u⟩))
 have u:=u.p1.drop.p1.drop;rw[ld bO]at u;exact u.fresh
def C124(p:cB)(pv:bP)(w:World)(Z:ml w pv p)(B:PZ p):CR 124 [j0 pv] w (λv w'=>kV (bH v (cT p)) w w'):=by
 obtain⟨V,I,bM,U,aX,Y,rfl,E,O,M,G,J,W⟩:=Z;have u:=St.start w;refine eZ Tryz.func124 ?_;exact cG u (λ_ _ u=>aD eg u.At (dU TO u (C59 p _ _ ⟨V,I,bM,U,aX,Y,rfl,E.ext u.aG,O.ext u.aG,M.ext u.aG,G.ext u.aG,J.ext u.aG,(W).ext u.aG⟩ B.toPS) λ_ _ _ u=>dU Wg u (C202 _ _ _ u.dS (by have:=kY B.toPS;omega)) λ_ _ _ u=>have u:=u.p1.drop.p1.drop;u.fresh))
def C125(p:cB)(pv:bP)(w:World)(G:ml w pv p)(I:PZ p):CR 125 [j0 pv] w (λv w'=>kV (bH v (cM p)) w w'):=by
 obtain⟨Z,O,bM,Y,aX,bG,rfl,J,V,E,M,U,cP⟩:=G;have u:=St.start w;refine eZ Tryz.func125 ?_;refine cG u (λW _ u=>aA nT (aB jO u.hb rfl ?_));have B:=DL.flat E;exact dU Wg u (C202 _ _ _ (B.ext u.aG) (by have:=I.eK;omega)) (λ_ _ _ u=>have u:=u.p1.drop;u.fresh)
def C62(p:cB)(pv:bP)(w:World)(hp:ml w pv p)(E:PZ p):CR 62 [j0 pv] w (λv w'=>v=hZ (eB p)/\Ext w w'):=by
 obtain⟨Z,M,bM,Y,aX,bG,rfl,I,G,W,J,U,cP⟩:=hp;have u:=St.start w;refine oL Tryz.func62 (pl:=P62) ?_;refine cG u (λku _ u=>have u:=u.drew;aD eg u.At (aA qi (aB jO u.hb rfl ?_)));have B:=DL.flat G;refine aK iu (B.ext u.aG) (dU TO u (C59 p _ _ ⟨Z,M,bM,Y,aX,bG,rfl,I.ext u.aG,G.ext u.aG,(W).ext u.aG,J.ext u.aG,U.ext u.aG,cP.ext u.aG⟩ E.toPS) λx4 _ cJ u=>?_);refine⟨aF jO (u.p1.hb.cell rfl),?_⟩
 refine aK iu u.dS ?_;have V:=kY E.toPS;have O:=E.iR;exact fh bO (have u:=u.drop.drop;⟨gQ (n3 .i64) (XZ p),u.aG⟩)
theorem X1{l:List cK}{r:List (List cK)}{i a:Int}(h:¬ a<l.length):jt (l::r) i a=jt r (i+1) (a-l.length):=by rw[jt,ei h]
def X2{x:bQ}{n m:Int}(u:1<=n/\n<=64)(h:x.kind=12->1<=x.n/\x.n<=8)(B:m=ru x n):1<=m/\m<=512:=by
 rw[B];unfold ru
 split
 .rename_i hk
  have:=h hk
  have h1:=K0 (a:=1) (b:=1) u.1 this.1 bO bO
  have h2:=K0 (c:=64) (d:=8) u.2 this.2 bO bO
  omega
 omega
theorem Bk.DK{t:Bk}(h:¬ (t.flat.length:Int)=0):∃x a b r,t=.cons x a b r:=by
 cases t with
 | nil=>exact absurd rfl h
 | cons x a b r=>grind
theorem Bk.Da{x:bQ}{a b r:Bk}(h:(Bk.cons x a b r).str){hi lo:Int}(h1:hi=1+x.body+x.ey)(h2:lo=1):((Bk.cons x a b r).flat.take hi.toNat).drop lo.toNat=(a.app b).flat:=by
 obtain⟨E,B,_⟩:=h
 have u:=a.cY
 have lb:=b.cY
 rw[Bk.Ba,vB _ (a:=1) (n:=(a.flat++b.flat).length) cL bO]
 grind[flat]
theorem Bk.aix{x:bQ}{a b r:Bk}(h:(Bk.cons x a b r).str){hi:Int}(h1:hi=1+x.body+x.ey):(Bk.cons x a b r).flat.drop hi.toNat=r.flat:=by
 obtain⟨E,B,_⟩:=h
 have u:=a.cY
 have lb:=b.cY
 have e:(Bk.cons x a b r).flat=(x::(a.flat++b.flat))++r.flat:=by simp[Bk.flat]
 rw[e,show hi.toNat=(x::(a.flat++b.flat)).length from by simp;omega,FF]
theorem yt{l:List cK}{k:Nat}{c:cK}(h:l[k]?=some c):DI l k=decide (cU (l.map cK.name) c.name<k):=by unfold DI;rw[h]
theorem Bb{p:cB}{l:List ByteArray}{k:Nat}{c:ByteArray}(h:l[k]?=some c):Sh p l k=(decide (cU l c<k)||decide (0<=cU (cT p) c)||decide (0<=cU (cM p) c)):=by unfold Sh;rw[h]
theorem DM(a b:Bk):(a.app b).len=a.len+b.len:=by rw[<- Bk.cY,Bk.Ba,l1,Bk.cY,Bk.cY]
def C60(p:cB)(pv:bP)(c:Int)(w:World)(hp:ml w pv p)(hz:PZ p):CR 60 [j0 pv,hZ c] w (λv w'=>v=hZ (pE p c)/\Ext w w'):=by
 obtain⟨bK,V,bM,Z,aX,bG,rfl,cQ,dG,cW,cC,cD,cP⟩:=hp;have u:=St.start w;refine eZ Tryz.func60 ?_;refine cG u (λI w1 u=>⟨λjv w'=>jv=.bool (decide (c<0)||decide (((iv p).length:Int)<=c))/\St w aZ [bY I (kp (⟨bK,V,bM,Z,aX,bG⟩:bP))] w',aR (aC (λ_=>⟨vb cL,u⟩) λ_=>aD eg u.At (dU TO u (C59 p _ _ ⟨bK,V,bM,Z,aX,bG,rfl,cQ.ext u.aG,dG.ext u.aG,cW.ext u.aG,cC.ext u.aG,cD.ext u.aG,cP.ext u.aG⟩ hz.toPS) λ_ _ _ u=>aK iu u.dS (cR (have u:=u.drop;⟨vb cL,u⟩)))),?_⟩)
 rintro _ _ ⟨rfl,u⟩ _;have hac:=kY hz.toPS;refine aY (λjs=>?_) (λjs=>?_)
 .refine⟨gQ (n3 .i64) ?_,u.drop.aG⟩;unfold pE;rw[ej cL]
 have hc2:0<=c/\c<(iv p).length:=cL
 refine⟨λm y x w1=>∃(k:Nat) (a:Int),y=hZ a/\x=hZ (k:Int)/\m=p.lines.length-k/\k<=p.lines.length/\0<=a/\a<=c/\jt p.lines 0 c=jt (p.lines.drop k) k a/\St w aZ [bY I (kp (⟨bK,V,bM,Z,aX,bG⟩:bP))] w1,⟨_,0,c,rfl,rfl,rfl,bO,bO,bO,rfl,u⟩,?_⟩;rintro m _ _ _ ⟨k,a,rfl,rfl,rfl,hk,ha0,hac1,B,u⟩ _;have hzl:=hz.lines;refine aA gB (aB oS u.hb rfl ?_);obtain⟨W,J,E⟩:=cQ.open;have avO:=E.1;refine aK pL (J.ext u.aG) (aR (aC (λkW=>?_) λkW=>?_))
 .refine aA gB (aB oS u.hb rfl ?_);obtain⟨U,O⟩:=gx W (i:=(k:Int).toNat) bO;obtain⟨M,Ps⟩:=gx p.lines (i:=(k:Int).toNat) bO;have Y:DL w (j0 U) M:=E.2 _ _ _ O Ps;refine aQ pL (J.ext u.aG) bO O (λ_ EY=>aD jO EY ?_);have G:=DL.flat Y;refine aK iu (G.ext u.aG) (aR (aC (λmi=>?_) λmi=>?_))
  .refine⟨gQ (n3 .i64) ?_,u.drop.aG⟩;rw[drop_cons (k:=k) Ps]at B;unfold pE;rw[ei bO,B];unfold jt;rw[ej bO]
  refine aA gB (aB oS u.hb rfl (aQ pL (J.ext u.aG) bO O λ_ xp=>aD jO xp (aK iu (G.ext u.aG) (fh bO (aO bO ?_)))));rw[drop_cons (k:=k) Ps,X1 bO]at B;exact⟨_,bO,k+1,_,rfl,rfl,rfl,bO,bO,bO,B,u⟩
 refine aA gB (aB oS u.hb rfl (aK pL (J.ext u.aG) (aO bO ?_)));refine⟨gQ (n3 .i64) ?_,u.drop.aG⟩;rw[vM bO]at B;unfold pE;rw[ei bO,B];unfold jt;omega
def C127(lv M:Value)(xs:List cA)(ns:List ByteArray)(w:World)(G:dA (λ_=>True) w lv xs)(V:dA (λ_=>True) w M ns)(hn:xs.length<=1048576)(BN:ns.length<=1048576)(Y:∀y∈xs,0<=y.at_):CR 127 [lv,M] w (λv w'=>∃a:Int,v=hZ a/\decide (0<=a)=pe xs ns/\Ext w w'):=by
 have u:=St.start w;refine eZ Tryz.func127 ?_;refine⟨λm x O=>∃k:Nat,x=hZ (k:Int)/\m=xs.length-k/\k<=xs.length/\(∀y∈xs.take k,(decide (y.op=2)&&decide (cU ns y.name<0))=false)/\St w aZ [] O,⟨_,0,rfl,rfl,l6 _,ee,u⟩,?_⟩;rintro m _ O ⟨k,rfl,rfl,hk,I,u⟩ _;refine aK gY (G.ext u.aG) (aR (aC (λjL=>?_) λjL=>?_))
 .obtain⟨E,B⟩:=gx xs (i:=(k:Int).toNat) bO;refine⟨λjv w'=>jv=.bool (decide (E.op=2)&&decide (cU ns E.name<0))/\St w aZ [] w',aQ gY (G.ext u.aG) bO B (λ_ ij=>bV E.op fa ij rfl rfl λ_ U=>aD bL U (aH (aC (λ_=>aQ gY (G.ext u.aG) bO B λ_ A6=>bV E.name gm A6 rfl rfl λ_ Z=>aD gA Z (aV r7 u (C123 _ ns _ _ (V.ext u.aG) bO) λ_ _ u=>aR ⟨vb cL,u⟩)) λ_=>⟨vb cL,u⟩))),?_⟩;rintro _ _ ⟨rfl,u⟩ _;exact aY (λJ=>aQ gY (G.ext u.aG) bO B λ_ mF=>bV E.at_ sj mF rfl rfl λ_ W=>aD bL W ⟨_,rfl,by unfold pe;rw[ig B J];exact ew (Y _ (la B)),u.aG⟩) (λJ=>aO bO ⟨_,bO,k+1,rfl,rfl,bO,dY I B J,u⟩)
 rw[ld bO]at I;exact⟨_,rfl,by unfold pe;rw[iE I];rfl,u.aG⟩
theorem C121(lv:Value)(t:Bk)(n:Int)(N:Nat)(w:World)(hL:DL w lv t.flat)(iV:t.str)(hq:∀x∈t.flat,0<=x.at_/\(x.kind=12->1<=x.n/\x.n<=8))(O:1<=n/\n<=64)(hl:t.len<=1048576)(hN:t.len<N):CR 121 [lv,hZ n] w (λv w'=>∃a:Int,v=hZ a/\decide (0<=a)=mJ t n/\Ext w w'):=by
 have ud:=t.cY;have u:=St.start w;refine eZ Tryz.func121 ?_;obtain⟨avP,J,G⟩:=hL.open;have hn22:=G.1;refine aK fq (J.ext u.aG) (aH (aC (λjF=>?_) λjF=>?_))
 .cases t with
  | nil=>exact⟨_,rfl,rfl,u.aG⟩
  | cons x a b r=>exact absurd ud (by rw[show(Bk.cons x a b r).len=a.len+b.len+r.len+1 from rfl];omega)
 obtain⟨x,a,b,r,rfl⟩:=Bk.DK (t:=t) bO;obtain⟨uP,vx⟩:=gx avP (i:=(0:Int).toNat) bO;obtain⟨B,X4⟩:=gx ((Bk.cons x a b r).flat) (i:=(0:Int).toNat) bO;obtain⟨Sj,Sk,rfl,ata,atb⟩:=G.2 _ _ _ vx X4;refine aQ fq (J.ext u.aG) bO vx (λ_ EJ=>?_);obtain rfl:B=x:=(oq.inj X4).symm;have I:=hq B (by simp[Bk.flat]);have X5:=iV;obtain⟨BP,Gq,Um,hg4,hga,hgb,Z⟩:=X5;have GF:a.len+b.len+r.len+1<=1048576:=hl;have hNn:a.len+b.len+r.len+1<N:=hN;have hla:=a.cY;have Om:=b.cY;have hlr:=r.cY
 have X3:(Bk.cons B a b r).flat.length=a.len+b.len+r.len+1:=Bk.cY _;refine aD eN EJ (aM u jA λJq _ u=>aJ (x:=(⟨B.kind,B.eG,B.name,Sj,Sk,B.n,B.body,B.ey,B.at_⟩:bE)) u eN rfl rfl λ_ u=>⟨λjv w'=>∃m:Int,jv=hZ m/\m=ru B n/\St w aZ [bY Jq (kp (⟨B.kind,B.eG,B.name,Sj,Sk,B.n,B.body,B.ey,B.at_⟩:bE))] w',aA dO (aB (v:=hZ B.kind) bL u.hb rfl (aH (aC (λlS=>aA jS (aB (v:=hZ B.n) bL u.hb rfl (IV (by have Un:=I.2 lS;have h1:=K0 (a:=1) (b:=1) O.1 Un.1 bO bO;have h2:=K0 (c:=64) (d:=8) O.2 Un.2 bO bO;omega) ⟨_,rfl,by grind[ru],u⟩))) λ_=>⟨_,rfl,by grind[ru],u⟩))),?_⟩)
 rintro _ _ ⟨m,rfl,M,u⟩ _;have hm8:=X2 O I.2 M;refine cN (aC (λ_=>aA lM (aB (v:=hZ B.at_) bL u.hb rfl ⟨_,rfl,by unfold mJ;rw[<- M,ew (show(64:Int)<m by omega)];exact ew I.1,u.drop.aG⟩)) λnO=>aA iY (aB (v:=hZ B.body) bL u.hb rfl (aO bO (aA iI (aB (v:=hZ B.ey) bL u.hb rfl (aO bO (oB fq (J.ext u.aG) bO bO bO λapl aiy=>?_)))))));have Y:=DL.cut aiy J G;refine dM Wc (C121 _ (a.app b) m (N-1) _ (by have h:=Y.ext u.aG;rw[Bk.Da iV bO bO]at h;exact h) (Bk.Sg hga hgb) (λy U=>hq y (by rw[Bk.Ba]at U;simp only[Bk.flat,s4,pX];rcases pX.1 U with h|h<;>simp[h])) bO (by rw[DM];omega) (by rw[DM];omega)) ?_
 rintro _ _ ⟨a1,rfl,E,W⟩;have u:=u.ext W;rw[HA]at E;refine cR (aC (λV=>⟨_,rfl,by unfold mJ;rw[<- M];rw[ew V]at E;rw[<- E,ew V];simp,u.drop.aG⟩) λV=>zG fq (J.ext u.aG) bO bO λagI aiA=>?_);have aiB:=DL.WW aiA J G;refine dM Wc (C121 _ r n (N-1) _ (by have h:=aiB.ext u.aG;rw[Bk.aix iV bO]at h;exact h) Z (λy U=>hq y (by simp[Bk.flat,U])) O bO bO) ?_;rintro _ _ ⟨a2,rfl,ha2,W⟩;have u:=u.ext W;exact⟨_,rfl,by unfold mJ;rw[<- M];rw[<- E,ha2,fP (show ¬ (64:Int)<m by omega),fP V];rfl,u.drop.aG⟩
termination_by N
decreasing_by all_goals omega
def C120(p:cB)(pv:bP)(E B:List cH)(w:World)(O:ml w pv p)(h3:dA (λ_=>True) w (j0 pv.threads) E)(h4:dA (λ_=>True) w (j0 pv.recover) B)(G:E.length<=500)(M:B.length<=500):CR 120 [j0 pv] w (λv w'=>kV (bH v (E++B)) w w'):=by
 obtain⟨bK,Z,bM,aW,aX,bG,rfl,W,dG,cW,Y,cD,cP⟩:=O;have u:=St.start w;refine eZ Tryz.func120 ?_;refine cG u (λku _ u=>bD ([]:List cH) u fx rfl rfl (dL rfl) λV _ u=>aA kI (aB iC u.p1.hb rfl ?_));have U:=(h3.ext u.aG);refine bJ u fx U (by simp<;>omega) dD (λJ _ u=>aA oT (aB iC u.p1.hb rfl ?_));have I:=(h4.ext u.aG);exact bJ u fx I (by simp;omega) dD (λ_ _ u=>have u:=u.p1.drop;u.fresh)
def C122(p:cB)(pv:bP)(w:World)(hp:ml w pv p)(B:PZ p)(sJ:∀c∈fQ p,0<=c.at_):CR 122 [j0 pv] w (λv w'=>∃a:Int,v=hZ a/\decide (0<=a)=kB (fQ p)/\Ext w w'):=by
 obtain⟨J,G,U,I,O,M,rfl,cQ,dG,cW,cC,cD,cP⟩:=hp;have u:=St.start w;refine ab4 _ _ _ ?_;unfold S122;refine cG u (λku V u=>bD ([]:List cK) u iu rfl rfl (dL rfl) λadD _ u=>aD eg u.p1.At (dU TO u (C59 p _ _ ⟨J,G,U,I,O,M,rfl,cQ.ext u.aG,dG.ext u.aG,cW.ext u.aG,cC.ext u.aG,cD.ext u.aG,cP.ext u.aG⟩ B.toPS) λx9 _ cJ u=>?_));have aiC:=u.dS;refine bJ u.p1 iu aiC (by simp;have:=kY B.toPS;omega) dD (λan1 _ u=>have u:=u.p1.drop;aA nT (aB jO u.p1.hb rfl ?_))
 have avS:=DL.flat cW;have jb:=(avS.ext u.aG);refine bJ u iu jb (by simp;have:=kY B.toPS;have:=B.eK;omega) dD (λZ _ u=>?_);have u:=u.p1.p1;refine⟨λm y x V=>∃k:Nat,x=hZ (k:Int)/\m=p.threads.length-k/\k<=p.threads.length/\St w aZ [bH y (iv p++p.eK++(p.threads.take k).map λt=>(⟨t.name,0,t.at_⟩:cK)),bY ku (kp (⟨J,G,U,I,O,M⟩:bP))] V,⟨_,0,rfl,rfl,bO,by simpa using u⟩,?_⟩;rintro m l3 _ _ ⟨k,rfl,rfl,hk,u⟩ _;have hzt:=B.threads;refine aA kI (aB iC u.p1.hb rfl ?_)
 obtain⟨aiD,Mm,Uo⟩:=cC.open;have avT:=Uo.1;refine aK fx (Mm.ext u.aG) (aR (aC (λft=>?_) λft=>?_))
 .refine aA kI (have u:=u.drew;aB iC u.p1.hb rfl ?_);obtain⟨Y,Pt⟩:=gx aiD (i:=(k:Int).toNat) bO;obtain⟨W,X6⟩:=gx p.threads (i:=(k:Int).toNat) bO;obtain⟨aiE,aiF,rfl,aiG,aiH⟩:=Uo.2 _ _ _ Pt X6;refine aQ fx (Mm.ext u.aG) bO Pt (λ_ xk=>bV (W).name qx xk rfl rfl λ_ uT=>aD gA uT (aA kI (aB iC u.p1.hb rfl (aQ fx (Mm.ext u.aG) bO Pt λ_ xw=>bV (W).at_ qy xw rfl rfl λ_ rq=>aD bL rq (pop (Et _ _) (bD ([(⟨(W).name,0,(W).at_⟩:cK)]) u iu rfl rfl (dL rfl) λapm _ u=>?_))))))
  have aiI:=u.dS;exact bJ u.p1 iu aiI (by have:=kY B.toPS;have:=B.eK;have:=B.threads;simp;omega) dD (λ_ _ u=>have u:=u.p1.drop;aO bO (have u:=u.p1.p1;⟨_,bO,k+1,rfl,rfl,bO,by rw[<- gi (k:=k) X6,<- n5];exact u⟩))
 rw[ld bO]at u;have EU:=Ui B.toPS;have u:St w aZ [bH l3 (fQ p),bY ku (kp (⟨J,G,U,I,O,M⟩:bP))] _:=u;refine dU Wg u (C202 _ _ _ u.dS bO) (λx39 _ cJ u=>?_);have u:=u.p2.p2.p2;refine⟨λm x V=>∃k:Nat,x=hZ (k:Int)/\m=(fQ p).length-k/\k<=(fQ p).length/\(∀j,j<k->DI (fQ p) j=false)/\St w aZ [bH x39 ((fQ p).map cK.name),bH l3 (fQ p),bY ku (kp (⟨J,G,U,I,O,M⟩:bP))] V,⟨_,0,rfl,rfl,bO,ee,u⟩,?_⟩
 rintro m _ _ ⟨k,rfl,rfl,hk,eH,u⟩ _;refine aK iu u.p1.dS (aR (aC (λvY=>?_) λ_=>have u:=u.drop.drop.drop;⟨_,rfl,by unfold kB;rw[Mi λj _=>eH j bO];rfl,u.aG⟩));obtain⟨Fa,E⟩:=gx (fQ p) (i:=(k:Int).toNat) bO;exact dR u.p1 iu bO bO (λ_ Fb=>mD kS Fb λ_ X7=>nK Fa.name u.p1 gA X7 E rfl (aV r7 u (C123 _ ((fQ p).map cK.name) _ _ u.dS (by rw[n4];omega)) λ_ _ u=>aR (aC (λBc=>dR u.p1 iu bO bO λ_ Fc=>mD uL Fc λ_ Bd=>nK Fa.at_ u.p1 bL Bd E rfl (have u:=u.drop.drop.drop;⟨_,rfl,by unfold kB;rw[Mj (j:=k) bO (by rw[yt (k:=k) E];exact ew Bc)];exact ew (sJ _ (la E)),u.aG⟩)) λBc=>aO bO ⟨_,bO,k+1,rfl,rfl,bO,Si eH (by rw[yt (k:=k) E];exact fP Bc),u⟩)))
def C126(p:cB)(pv:bP)(t:cO)(tv:cH)(x:bQ)(xv:bE)(w:World)(hp:ml w pv p)(ht:ml w tv t)(hx:ml w xv x)(hz:PZ p)(hzt:t.dQ.length<=500)(Y:SzS x)(O:0<=x.at_/\(∀y∈x.e,0<=y.at_)/\(∀y∈x.f,0<=y.at_)):CR 126 [j0 pv,j0 tv,j0 xv] w (λv w'=>∃a:Int,v=hZ a/\decide (0<=a)=ng p t.dQ x/\Ext w w'):=by
 obtain⟨M,I,W,J,V,U,rfl,cQ,dG,cW,cC,cD,cP⟩:=hp;obtain⟨lV,lW,rfl,nQ,sK⟩:=ht;obtain⟨wc,we,rfl,LN,Ht⟩:=hx;have Fe:=mK hz.toPS;have yX:(cM p).length<=500:=by unfold cM;rw[n4];exact hz.eK
 have u:=St.start w;refine oL Tryz.func126 (pl:=auv) ?_;refine cG u (λE _ u=>cG u λG _ u=>cG u λJq _ u=>⟨λB w'=>B=.bool (decide (¬ x.eG=⟨#[]⟩)&&decide (cU t.dQ x.eG<0))/\St w aZ [bY Jq (kp (⟨x.kind,x.eG,x.name,wc,we,x.n,x.body,x.ey,x.at_⟩:bE)),bY G (kp (⟨t.name,lV,lW,t.at_⟩:cH)),bY E (kp (⟨M,I,W,J,V,U⟩:bP))] w',aA iH (aB (v:=.string x.eG) gA u.hb rfl (ma (aC (λjF=>?_) λ_=>⟨vb cL,u⟩))),?_⟩)
 .refine aA fT (aB jj u.p1.hb rfl ?_);have aiL:=DL.flat nQ;exact aA iH (aB (v:=.string x.eG) gA u.hb rfl (aV r7 u (C123 _ t.dQ _ _ (aiL.ext u.aG) bO) λ_ _ u=>aR ⟨vb cL,u⟩))
 rintro _ _ ⟨rfl,u⟩ _;refine aY (λ_=>aA lM (aB (v:=hZ x.at_) bL u.hb rfl (have u:=u.drop.drop.drop;⟨_,rfl,by rw[ew O.1];unfold ng;grind,u.aG⟩))) (λft=>have u:=u.drew;aD eg u.p2.At (aA gh (aB (v:=.string x.name) gA u.hb rfl (dU KM u (C124 p _ _ ⟨M,I,W,J,V,U,rfl,cQ.ext u.aG,dG.ext u.aG,cW.ext u.aG,cC.ext u.aG,cD.ext u.aG,cP.ext u.aG⟩ hz) λx23 _ cJ u=>?_))));refine⟨aF gA (u.p1.hb.cell rfl),?_⟩;refine aV r7 u (C123 _ (cT p) _ _ u.dS bO) (λw7 he u=>⟨λw'=>(((decide (x.kind=2)||decide (x.kind=3)||decide (x.kind=4))&&decide (cU (cT p) x.name<0))||((decide (x.kind=5)||decide (x.kind=6))&&(decide (cU (cT p) x.name<0)||decide (eB p<=cU (cT p) x.name)))||((decide (x.kind=9)||decide (x.kind=10))&&decide (cU (cM p) x.name<0)))=false/\St w aZ [bY Jq (kp (⟨x.kind,x.eG,x.name,wc,we,x.n,x.body,x.ey,x.at_⟩:bE)),bY G (kp (⟨t.name,lV,lW,t.at_⟩:cH)),bY E (kp (⟨M,I,W,J,V,U⟩:bP))] w',aA dO (aB (v:=hZ x.kind) bL u.p1.hb rfl ⟨λB w'=>B=.bool (decide (x.kind=2\/x.kind=3\/x.kind=4))/\w7=w',aH (aC (λ_=>⟨yN bO,rfl⟩) λ_=>aH (aC (λ_=>⟨yN bO,rfl⟩) λ_=>aH ⟨yN bO,rfl⟩)),?_⟩),?_⟩)
 .rintro _ _ ⟨rfl,hw⟩ _;subst hw;refine aC (λ_=>aR (aC (λ_=>aA lM (aB (v:=hZ x.at_) bL u.p1.hb rfl (have u:=u.drop.drop.drop.drop;⟨_,rfl,by rw[ew O.1];unfold ng;grind,u.aG⟩))) λ_=>have u:=u.drop.p2.p2.p2;⟨cL,u⟩)) (λagJ=>⟨λB w'=>B=.bool (decide (x.kind=5\/x.kind=6))/\w7=w',aH (aC (λ_=>⟨yN bO,rfl⟩) λ_=>aH ⟨yN bO,rfl⟩),?_⟩);rintro _ _ ⟨rfl,hw⟩ _;subst hw;refine aC (λo9=>⟨λB w'=>B=.bool (decide (cU (cT p) x.name<0)||decide (eB p<=cU (cT p) x.name))/\St w aZ [bH x23 (cT p),bY Jq (kp (⟨x.kind,x.eG,x.name,wc,we,x.n,x.body,x.ey,x.at_⟩:bE)),bY G (kp (⟨t.name,lV,lW,t.at_⟩:cH)),bY E (kp (⟨M,I,W,J,V,U⟩:bP))] w',aR (aC (λ_=>⟨vb cL,u⟩) λ_=>aD eg u.p3.At (aV IQ u (C62 p _ _ ⟨M,I,W,J,V,U,rfl,cQ.ext u.aG,dG.ext u.aG,cW.ext u.aG,cC.ext u.aG,cD.ext u.aG,cP.ext u.aG⟩ hz) λ_ _ u=>cR ⟨vb cL,u⟩)),?_⟩) (λo9=>⟨λB w'=>B=.bool (decide (x.kind=9\/x.kind=10))/\w7=w',aH (aC (λ_=>⟨yN bO,rfl⟩) λ_=>aH ⟨yN bO,rfl⟩),?_⟩)
  .rintro _ _ ⟨rfl,u⟩ _;exact aY (λ_=>aA lM (aB (v:=hZ x.at_) bL u.p1.hb rfl (have u:=u.drop.drop.drop.drop;⟨_,rfl,by rw[ew O.1];unfold ng;grind,u.aG⟩))) (λ_=>have u:=u.drop.p2.p2.p2;⟨cL,u⟩)
  rintro _ _ ⟨rfl,hw⟩ _;subst hw;exact aC (λ_=>have u:=u.drew;aD eg u.p3.At (aA gh (aB (v:=.string x.name) gA u.p1.hb rfl (dU Rs u (C125 p _ _ ⟨M,I,W,J,V,U,rfl,cQ.ext u.aG,dG.ext u.aG,cW.ext u.aG,cC.ext u.aG,cD.ext u.aG,cP.ext u.aG⟩ hz) λ_ _ _ u=>⟨aF gA (u.p2.hb.cell rfl),aV r7 u (C123 _ (cM p) _ _ u.dS bO) λ_ _ u=>aR (aC (λ_=>aA lM (aB (v:=hZ x.at_) bL u.p2.hb rfl (have u:=u.drop.drop.drop.drop.drop;⟨_,rfl,by rw[ew O.1];unfold ng;grind,u.aG⟩))) λ_=>have u:=u.drop.drop.p2.p2.p2;⟨cL,u⟩)⟩)))) (λ_=>have u:=u.drop.p2.p2.p2;⟨cL,u⟩)
 rintro _ ⟨hmid,u⟩ _;refine aA iX (aB jz u.hb rfl ?_);have avU:=DL.flat LN;refine aA fT (aB jj u.p1.hb rfl ?_);have Z:=DL.flat nQ;refine dM We (C127 _ _ _ _ _ (avU.ext u.aG) (Z.ext u.aG) Y.2.2.1 bO O.2.1) ?_;rintro _ _ ⟨a_x65,rfl,avV,he⟩;have u:=u.ext he;refine cR (aC (λ_=>have u:=u.drop.drop.drop;⟨_,rfl,by unfold ng;grind,u.aG⟩) λxd=>aA j9 (aB jz u.hb rfl ?_));have avW:=DL.flat Ht;refine aA fT (aB jj u.p1.hb rfl (dM We (C127 _ _ _ _ _ (avW.ext u.aG) (Z.ext u.aG) Y.2.2.2.1 bO O.2.2) ?_))
 rintro _ _ ⟨a_x73,rfl,avX,he⟩;have u:=(((u.ext he).drop).drop).drop;exact⟨_,rfl,by unfold ng;grind,u.aG⟩
def C119(p:cB)(pv:bP)(w:World)(hp:ml w pv p)(W:PZ p):CR 119 [j0 pv] w (λv w'=>v=.bool (uY p)/\Ext w w'):=by
 obtain⟨bK,bU,bM,aW,aX,bG,rfl,cQ,dG,cW,cC,cD,cP⟩:=hp;have u:=St.start w;refine eZ Tryz.func119 ?_;refine cG u (λku V u=>?_);refine⟨λm x V=>∃k:Nat,x=hZ (k:Int)/\m=p.lines.length-k/\k<=p.lines.length/\(∀y∈p.lines.take k,decide (4<(y.length:Int))=false)/\St w aZ [bY ku (kp (⟨bK,bU,bM,aW,aX,bG⟩:bP))] V,⟨_,0,rfl,rfl,l6 _,ee,u⟩,?_⟩;rintro m _ _ ⟨k,rfl,rfl,hk,eH,u⟩ _;have hzl:=W.lines;refine aA gB (aB oS u.hb rfl ?_)
 obtain⟨avY,E,M⟩:=cQ.open;have hn29:=M.1;refine aK pL (E.ext u.aG) (aR (aC (λgL=>?_) λgL=>?_))
 .refine aA gB (aB oS u.hb rfl ?_);obtain⟨Xs,oe⟩:=gx avY (i:=(k:Int).toNat) bO;obtain⟨sG,Z⟩:=gx p.lines (i:=(k:Int).toNat) bO;have apq:DL w (j0 Xs) sG:=M.2 _ _ _ oe Z;refine aQ pL (E.ext u.aG) bO oe (λ_ AX=>aD jO AX ?_);have avZ:=DL.flat apq;refine aK iu (avZ.ext u.aG) (cN (aC (λft=>?_) λft=>aO bO ⟨_,bO,k+1,rfl,rfl,bO,dY eH Z (fP ft),u⟩));have u:=u.drop;refine⟨vb ?_,u.aG⟩;unfold uY;rw[ig Z (ew bO)];rfl
 refine aD eg u.At ?_;obtain⟨J,G,U⟩:=cC.open;have hn31:=U.1;obtain⟨I,av0,O⟩:=cD.open;have hn32:=O.1;refine dM afA (C120 p _ J I _ ⟨bK,bU,bM,aW,aX,bG,rfl,cQ.ext u.aG,dG.ext u.aG,cW.ext u.aG,cC.ext u.aG,cD.ext u.aG,cP.ext u.aG⟩ (G.ext u.aG) (av0.ext u.aG) (by have:=W.threads;omega) (by have:=W.recover;omega)) ?_;rintro x21 _ cJ;have u:=u.made cJ;obtain⟨Be,Mn⟩:∃t,t=J++I:=⟨_,rfl⟩;rw[<- Mn]at u;have Pu:gy Be (gp p) w:=by rw[Mn];exact gy.append U O
 have av1:=Pu.1;have aiO:=DJ W.toPS;have u:=u.p1.p1;refine⟨λm x V=>∃B:Nat,x=hZ (B:Int)/\m=(gp p).length-B/\B<=(gp p).length/\(∀y∈(gp p).take B,decide (4<(y.dQ.length:Int))=false)/\St w aZ [bH x21 Be,bY ku (kp (⟨bK,bU,bM,aW,aX,bG⟩:bP))] V,⟨_,0,rfl,rfl,l6 _,ee,u⟩,?_⟩;rintro m _ _ ⟨B,rfl,rfl,Xh,Pq,u⟩ _;refine aK fx u.dS (aR (aC (λjG=>?_) λjG=>⟨λjv w'=>jv=.bool (decide (4<(p.lines.length:Int))||decide (4<(p.iR.length:Int))||decide (2<(p.eK.length:Int))||decide ((p.threads.length:Int)<1)||decide (3<(p.threads.length:Int))||decide (4<(p.dT.length:Int)))/\St w aZ [] w',aA gB (aB oS u.p1.hb rfl (aK pL (E.ext u.aG) (cN (aC (λ_=>have u:=u.drop.drop;⟨vb cL,u⟩) λrz=>?_)))),?_⟩))
 .obtain⟨rk,gn⟩:=gx Be (i:=(B:Int).toNat) bO;obtain⟨apv,Y⟩:=gx (gp p) (i:=(B:Int).toNat) bO;obtain⟨Ff,Fg,rfl,Fh,Fi⟩:=Pu.2 _ _ _ gn Y;refine aQ fx u.dS bO gn (λ_ mF=>bV Ff fT mF rfl rfl λ_ sH=>aD jj sH ?_);have av2:=DL.flat Fh;refine aK iD (av2.ext u.aG) (cN (aC (λlR=>?_) λ_=>aO bO ⟨_,bO,B+1,rfl,rfl,bO,dY Pq Y (fP bO),u⟩));have u:=u.drop.drop;refine⟨vb ?_,u.aG⟩;unfold uY;rw[ig Y (ew bO)];simp
 .refine aA qi (aB jO u.p1.hb rfl ?_);have av3:=DL.flat dG;refine aK iu (av3.ext u.aG) (cN (aC (λ_=>have u:=u.drop.drop;⟨vb cL,u⟩) λvY=>aA nT (aB jO u.p1.hb rfl ?_)));have av4:=DL.flat cW;refine aK iu (av4.ext u.aG) (cN (aC (λ_=>have u:=u.drop.drop;⟨vb cL,u⟩) λsy=>aA kI (aB iC u.p1.hb rfl (aK fx (G.ext u.aG) (aR (aC (λ_=>have u:=u.drop.drop;⟨vb cL,u⟩) λRZ=>aA kI (aB iC u.p1.hb rfl (aK fx (G.ext u.aG) (cN (aC (λ_=>have u:=u.drop.drop;⟨vb cL,u⟩) λaf8=>aA jx (aB qX u.p1.hb rfl ?_)))))))))))
  obtain⟨ts36,av5,av6⟩:=cP.open;have hn36:=av6.1;exact aK tn (av5.ext u.aG) (cN (have u:=u.drop.drop;⟨vb cL,u⟩))
 rintro _ _ ⟨rfl,u⟩ _;refine⟨vb ?_,u.aG⟩;unfold uY;rw[iE (by rw[ld bO]at eH;exact eH),iE (by rw[ld bO]at Pq;exact Pq)];rfl
def C57(p:cB)(pv:bP)(w:World)(hp:ml w pv p)(B:PZ p):CR 57 [j0 pv] w (λv w'=>∃a:Int,v=.tuple #[hZ (fk p),hZ a]/\Ext w w'):=by
 obtain⟨I,O,M,G,J,U,rfl,cQ,dG,cW,cC,cD,cP⟩:=hp;have u:=St.start w;refine ahF _ _ _ ?_;unfold S57;refine cG u (λku W u=>aD eg u.At (aV amL u (C118 p _ _ ⟨I,O,M,G,J,U,rfl,cQ.ext u.aG,dG.ext u.aG,cW.ext u.aG,cC.ext u.aG,cD.ext u.aG,cP.ext u.aG⟩ B) λ_ he u=>bR (aY (λki=>have u:=u.drop;⟨_,gQ (λq=>Ej #[hZ q,_]) (ce8 (by simpa using ki)).symm,u.aG⟩) λki=>?_)))
 have E:ky p=true:=by simpa using ki
 have hPF:=qH E;refine aD eg u.At (aV amM u (C119 p _ _ ⟨I,O,M,G,J,U,rfl,cQ.ext u.aG,dG.ext u.aG,cW.ext u.aG,cC.ext u.aG,cD.ext u.aG,cP.ext u.aG⟩ B) λ_ he u=>aY (λft=>have u:=u.drop;⟨_,gQ (λq=>Ej #[hZ q,_]) (ce2 E ft).symm,u.aG⟩) λft=>aD eg u.At ?_);obtain⟨apw,av7,apx⟩:=cC.open;have hn37:=apx.1;obtain⟨apy,av8,apz⟩:=cD.open;have hn38:=apz.1;refine dM afA (C120 p _ apw apy _ ⟨I,O,M,G,J,U,rfl,cQ.ext u.aG,dG.ext u.aG,cW.ext u.aG,cC.ext u.aG,cD.ext u.aG,cP.ext u.aG⟩ (av7.ext u.aG) (av8.ext u.aG) (by have:=B.threads;omega) (by have:=B.recover;omega)) ?_
 rintro V _ cJ;have u:=u.made cJ;obtain⟨Be,Mn⟩:∃t,t=apw++apy:=⟨_,rfl⟩;rw[<- Mn]at u;have Pu:gy Be (gp p) w:=by rw[Mn];exact gy.append apx apz
 have av1:=Pu.1;have aiO:=DJ B.toPS;have u:=u.p1.p1;refine⟨λm x W=>∃k1:Nat,x=hZ (k1:Int)/\m=(gp p).length-k1/\k1<=(gp p).length/\(∀y∈(gp p).take k1,ry y.body=false)/\St w aZ [bH V Be,bY ku (kp (⟨I,O,M,G,J,U⟩:bP))] W,⟨_,0,rfl,rfl,l6 _,ee,u⟩,?_⟩;rintro m _ _ ⟨k1,rfl,rfl,Rp,aiP,u⟩ _;refine aK fx u.dS (aR (aC (λjG=>?_) λjG=>?_))
 .obtain⟨rk,gn⟩:=gx Be (i:=(k1:Int).toNat) bO;obtain⟨apv,xy⟩:=gx (gp p) (i:=(k1:Int).toNat) bO;obtain⟨Ff,Fg,rfl,Fh,Fi⟩:=Pu.2 _ _ _ gn xy;refine aQ fx u.dS bO gn (λ_ mF=>bV Fg lL mF rfl rfl λ_ sH=>aD jR sH ?_);obtain⟨apA,TQ,tr,Z,aiR,kG,_⟩:=lz (hPF.qZ (la xy)).2.1;have ud:=gQ List.length Z;rw[Bk.cY]at ud;refine dM Wc (C121 _ tr 1 (tr.len+1) _ (by rw[<- Z];exact(Fi.ext u.aG)) aiR (λy hy=>Js (TQ y (by rw[Z];exact hy))) bO bO bO) ?_
  rintro _ _ ⟨wa,rfl,hwa,he⟩;have u:=u.ext he;exact cR (aC (λmj=>have u:=u.drop.drop;⟨_,gQ (λq=>Ej #[hZ q,_]) (ao9 E ft (ig xy (by rw[Z,vC aiR,<- hwa];exact ew mj))).symm,u.aG⟩) λmj=>aO bO (have u:=u.p1.p1;⟨_,bO,k1+1,rfl,rfl,bO,dY aiP xy (by rw[Z,vC aiR,<- hwa];exact fP mj),u⟩))
 rw[ld bO]at aiP;have Y:(gp p).any (λt=>ry t.body)=false:=iE aiP;refine aD eg u.p1.At (dM amN (C122 p _ _ ⟨I,O,M,G,J,U,rfl,cQ.ext u.aG,dG.ext u.aG,cW.ext u.aG,cC.ext u.aG,cD.ext u.aG,cP.ext u.aG⟩ B hPF.decl) ?_);rintro _ _ ⟨a_x38,rfl,X8,he⟩;have u:=u.ext he;refine cR (aC (λxj=>have u:=u.drop.drop;⟨_,gQ (λq=>Ej #[hZ q,_]) (apa E ft Y (by rw[<- X8];exact ew xj)).symm,u.aG⟩) λxj=>?_);have h10:kB (fQ p)=false:=by rw[<- X8];exact fP xj
 have u:=u.p1.p1;refine⟨λm x W=>∃k2:Nat,x=hZ (k2:Int)/\m=(gp p).length-k2/\k2<=(gp p).length/\(∀y∈(gp p).take k2,uX p y.dQ=false)/\St w aZ [bH V Be,bY ku (kp (⟨I,O,M,G,J,U⟩:bP))] W,⟨_,0,rfl,rfl,l6 _,ee,u⟩,?_⟩;rintro m _ _ ⟨k2,rfl,rfl,xq,E0,u⟩ _;refine aK fx u.dS (aR (aC (λMp=>?_) λMp=>?_))
 .obtain⟨e_x51,Fj⟩:=gx Be (i:=(k2:Int).toNat) bO;obtain⟨Bf,Jt⟩:=gx (gp p) (i:=(k2:Int).toNat) bO;obtain⟨zR,aiS,rfl,Pv,aiT⟩:=Pu.2 _ _ _ Fj Jt;have hzt2:=B.qZ (la Jt);refine⟨λm x W=>∃k3:Nat,x=hZ (k3:Int)/\m=Bf.dQ.length-k3/\k3<=Bf.dQ.length/\(∀j,j<k3->Sh p Bf.dQ j=false)/\St w aZ [bH V Be,bY ku (kp (⟨I,O,M,G,J,U⟩:bP))] W,⟨_,0,rfl,rfl,l6 _,ee,u⟩,?_⟩;rintro m _ _ ⟨k3,rfl,rfl,hk3,apC,u⟩ _;refine aQ fx u.dS bO Fj (λ_ apD=>bV zR fT apD rfl rfl λ_ X9=>aD jj X9 ?_)
  have aiU:=DL.flat Pv;refine aK iD (aiU.ext u.aG) (aR (aC (λRZ=>?_) λ_=>aO bO (have u:=u.p1.p1;⟨_,bO,k2+1,rfl,rfl,bO,dY E0 Jt (show uX p Bf.dQ=false from Mi λj _=>apC j bO),u⟩)));refine aQ fx u.dS bO Fj (λ_ apE=>bV zR fT apE rfl rfl λ_ Ya=>aD jj Ya ?_);obtain⟨sL,ui⟩:=gx Bf.dQ (i:=(k3:Int).toNat) bO;refine aQ iD (aiU.ext u.aG) bO ui (λ_ E1=>aD gA E1 ⟨λjv w'=>jv=.bool (decide (cU Bf.dQ sL<k3)||decide (0<=cU (cT p) sL)||decide (0<=cU (cM p) sL))/\St w aZ [bH V Be,bY ku (kp (⟨I,O,M,G,J,U⟩:bP))] w',?_,?_⟩)
  .refine aQ fx u.dS bO Fj (λ_ apF=>bV zR fT apF rfl rfl λ_ Mq=>?_);exact aD jj Mq (aV r7 u (C123 _ Bf.dQ _ _ (aiU.ext u.aG) (by have:=mK B.toPS;have hk:(cM p).length<=500:=(by unfold cM;rw[n4];exact B.eK);omega)) λ_ _ u=>aR (aC (λ_=>have u:=u.p1.p1;⟨vb cL,u⟩) λ_=>aD eg u.p1.At (dU KM u (C124 p _ _ ⟨I,O,M,G,J,U,rfl,cQ.ext u.aG,dG.ext u.aG,cW.ext u.aG,cC.ext u.aG,cD.ext u.aG,cP.ext u.aG⟩ B) λ_ _ _ u=>aV r7 u (C123 _ (cT p) _ _ u.dS (by have:=mK B.toPS;have hk:(cM p).length<=500:=(by unfold cM;rw[n4];exact B.eK);omega)) λ_ _ u=>cR (aC (λ_=>have u:=u.drop.p1.p1;⟨vb cL,u⟩) λ_=>aD eg u.p2.At (dU Rs u (C125 p _ _ ⟨I,O,M,G,J,U,rfl,cQ.ext u.aG,dG.ext u.aG,cW.ext u.aG,cC.ext u.aG,cD.ext u.aG,cP.ext u.aG⟩ B) λ_ _ _ u=>aV r7 u (C123 _ (cM p) _ _ u.dS (by have:=mK B.toPS;have hk:(cM p).length<=500:=(by unfold cM;rw[n4];exact B.eK);omega)) λ_ _ u=>cR (have u:=u.drop.drop.p1.p1;⟨vb cL,u⟩))))))
  rintro _ _ ⟨rfl,u⟩ _;exact aY (λFk=>aQ fx u.dS bO Fj λ_ apG=>bV Bf.at_ qy apG rfl rfl λ_ apH=>have u:=u.drew;aD bL apH (have u:=u.drop.drop;⟨_,gQ (λq=>Ej #[hZ q,_]) (agE E ft Y h10 (ig Jt (show uX p Bf.dQ=true from Mj (j:=k3) bO (by rw[Bb (k:=k3) ui];exact Fk)))).symm,u.aG⟩)) (λFk=>aO bO ⟨_,bO,k3+1,rfl,rfl,bO,Si apC (by rw[Bb (k:=k3) ui];exact Fk),u⟩)
 rw[ld bO]at E0;have aiV:(gp p).any (λt=>uX p t.dQ)=false:=iE E0;have u:=u.p1.p1;refine⟨λm x W=>∃k5:Nat,x=hZ (k5:Int)/\m=(gp p).length-k5/\k5<=(gp p).length/\(∀y∈(gp p).take k5,y.body.any (ng p y.dQ)=false)/\St w aZ [bH V Be,bY ku (kp (⟨I,O,M,G,J,U⟩:bP))] W,⟨_,0,rfl,rfl,l6 _,ee,u⟩,?_⟩;rintro m _ _ ⟨k5,rfl,rfl,hk5,aiW,u⟩ _;refine aK fx u.dS (aR (aC (λapI=>?_) λapI=>?_))
 .obtain⟨awa,DN⟩:=gx Be (i:=(k5:Int).toNat) bO;obtain⟨Cf,Bg⟩:=gx (gp p) (i:=(k5:Int).toNat) bO;obtain⟨Mr,xz,rfl,Ms,CU⟩:=Pu.2 _ _ _ DN Bg;have apJ:=B.qZ (la Bg);have awb:=hPF.qZ (la Bg);obtain⟨hb45,apK,_⟩:=lz awb.2.1;refine⟨λm x W=>∃k6:Nat,x=hZ (k6:Int)/\m=Cf.body.length-k6/\k6<=Cf.body.length/\(∀y∈Cf.body.take k6,ng p Cf.dQ y=false)/\St w aZ [bH V Be,bY ku (kp (⟨I,O,M,G,J,U⟩:bP))] W,⟨_,0,rfl,rfl,l6 _,ee,u⟩,?_⟩
  rintro m _ _ ⟨k6,rfl,rfl,hk6,aiX,u⟩ _;refine aQ fx u.dS bO DN (λ_ aiY=>bV xz lL aiY rfl rfl λ_ aiZ=>aD jR aiZ ?_);obtain⟨awc,apL,apM⟩:=CU.open;have hn40:=apM.1;refine aK fq (apL.ext u.aG) (aR (aC (λawd=>?_) λ_=>aO bO (have u:=u.p1.p1;⟨_,bO,k5+1,rfl,rfl,bO,dY aiW Bg (iE (by rw[ld bO]at aiX;exact aiX)),u⟩)));have u:=u.drew;refine aD eg u.p1.At (aQ fx u.dS bO DN λ_ Pw=>aD nc Pw (aQ fx u.dS bO DN λ_ ai0=>bV xz lL ai0 rfl rfl λ_ ai1=>aD jR ai1 ?_))
  obtain⟨awe,Sm⟩:=gx awc (i:=(k6:Int).toNat) bO;obtain⟨ai2,Bh⟩:=gx Cf.body (i:=(k6:Int).toNat) bO;obtain⟨Yb,Yc,rfl,Yd,Ye⟩:=apM.2 _ _ _ Sm Bh;refine aQ fq (apL.ext u.aG) bO Sm (λ_ ai3=>aD eN ai3 ?_);have hf5:=adu (apK _ (la Bh));refine dM amO (C126 p _ Cf _ ai2 _ _ ⟨I,O,M,G,J,U,rfl,cQ.ext u.aG,dG.ext u.aG,cW.ext u.aG,cC.ext u.aG,cD.ext u.aG,cP.ext u.aG⟩ ⟨Mr,xz,rfl,Ms.ext u.aG,CU.ext u.aG⟩ ⟨Yb,Yc,rfl,Yd.ext u.aG,Ye.ext u.aG⟩ B apJ.2.1 (apJ.1.2.2 _ (la Bh)) hf5) ?_
  rintro _ _ ⟨awf,rfl,Sn,he⟩;have u:=u.ext he;exact cR (aC (λzS=>have u:=u.drop.drop;⟨_,gQ (λq=>Ej #[hZ q,_]) (ce9 E ft Y h10 aiV (ig Bg (ig Bh (by rw[<- Sn];exact ew zS)))).symm,u.aG⟩) λzS=>aO bO ⟨_,bO,k6+1,rfl,rfl,bO,dY aiX Bh (by rw[<- Sn];exact fP zS),u⟩)
 rw[ld bO]at aiW;have h9:(gp p).any (λt=>t.body.any (ng p t.dQ))=false:=iE aiW;have u:=u.drew;refine aD eg u.p1.At (aD eg u.p1.At (dU KM u (C124 p _ _ ⟨I,O,M,G,J,U,rfl,cQ.ext u.aG,dG.ext u.aG,cW.ext u.aG,cC.ext u.aG,cD.ext u.aG,cP.ext u.aG⟩ B) λawg _ cJ u=>?_));refine⟨eA eg u.p2.At,?_⟩;refine aV IQ u (C62 p _ _ ⟨I,O,M,G,J,U,rfl,cQ.ext u.aG,dG.ext u.aG,cW.ext u.aG,cC.ext u.aG,cD.ext u.aG,cP.ext u.aG⟩ B) (λ_ he u=>?_)
 have Fe:=mK B.toPS;have Ol:0<=eB p/\eB p<=(cT p).length:=by unfold eB cT iv;rw[n4,l1];omega
 refine jT iD u.dS bO bO (λawh adE=>?_);have u:=u.p1.drop.p1.p1;refine⟨λm x W=>∃k7:Nat,x=hZ (k7:Int)/\m=p.dT.length-k7/\k7<=p.dT.length/\(∀y∈p.dT.take k7,pe y.e (gq p)=false)/\St w aZ [bH awg (cT p),bY ku (kp (⟨I,O,M,G,J,U⟩:bP))] W,⟨_,0,rfl,rfl,l6 _,ee,u⟩,?_⟩;rintro m _ _ ⟨k7,rfl,rfl,hk7,ai4,u⟩ _;have hzc:=B.dT;refine aA jx (aB qX u.p1.hb rfl ?_);obtain⟨awi,apN,apO⟩:=cP.open;have hn41:=apO.1;refine aK tn (apN.ext u.aG) (aR (aC (λawj=>?_) λ_=>have u:=u.drop.drop;⟨_,gQ (λq=>Ej #[hZ q,_]) (ce0 E ft Y h10 aiV h9 (iE (by rw[ld bO]at ai4;exact ai4))).symm,u.aG⟩))
 refine aA jx (aB qX u.p1.hb rfl ?_);obtain⟨awk,So⟩:=gx awi (i:=(k7:Int).toNat) bO;obtain⟨awl,Bi⟩:=gx p.dT (i:=(k7:Int).toNat) bO;obtain⟨Yf,rfl,Yg⟩:=apO.2 _ _ _ So Bi;refine aQ tn (apN.ext u.aG) bO So (λ_ Px=>bV Yf vu Px rfl rfl λ_ ai5=>aD jz ai5 ?_);have awm:=DL.flat Yg;refine dM We (C127 _ _ _ _ _ (awm.ext u.aG) (adE _ u.dS) (B.zc _ (la Bi)).1 (by have:=mK B.toPS;simp;omega) (Cd (hPF.cl _ (la Bi)).2)) ?_;rintro _ _ ⟨awn,rfl,Sp,he⟩
 have u:=u.ext he;exact cR (aC (λPy=>have u:=u.drop.drop;⟨_,gQ (λq=>Ej #[hZ q,_]) (apb E ft Y h10 aiV h9 (ig Bi (by unfold gq;rw[<- Sp];exact ew Py))).symm,u.aG⟩) λPy=>aO bO ⟨_,bO,k7+1,rfl,rfl,bO,dY ai4 Bi (by unfold gq;rw[<- Sp];exact fP Py),u⟩)
theorem Bk.apP{x:bQ}{a b r:Bk}(h:(Bk.cons x a b r).str){hi lo:Int}(h1:hi=1+x.body)(h2:lo=1):((Bk.cons x a b r).flat.take hi.toNat).drop lo.toNat=a.flat:=by
 obtain⟨E,B,_⟩:=h
 have u:=a.cY
 rw[vB _ (a:=1) (n:=a.flat.length) bO bO]
 grind[flat]
theorem Bk.apQ{x:bQ}{a b r:Bk}(h:(Bk.cons x a b r).str){hi lo:Int}(h1:hi=1+x.body+x.ey)(h2:lo=1+x.body):((Bk.cons x a b r).flat.take hi.toNat).drop lo.toNat=b.flat:=by
 obtain⟨E,B,_⟩:=h
 have u:=a.cY
 have lb:=b.cY
 rw[vB _ (a:=1+a.flat.length) (n:=b.flat.length) bO bO]
 grind[flat]
def za:Bk->Int
 | .nil=>0
 | .cons x a b r=>(if x.kind=12 then 2+za a else if x.kind=11 then(if 0<x.ey then 1+za a+za b+1 else 1+za a+za b)else 1)+za r
def toT(x:bQ)(a:Bk)(at_:Int):Int:=if 0<x.ey then at_+1+za a+1 else at_+1+za a
end Go.Proofs.YtpdlpabnlkofmaaGreatDoor

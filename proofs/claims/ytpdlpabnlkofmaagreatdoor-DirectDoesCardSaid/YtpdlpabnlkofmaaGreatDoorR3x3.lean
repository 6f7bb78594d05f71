/-
  Part 3.
-/
import Derived.Test.YtpdlpabnlkofmaaGreatDoorR3x2
set_option maxHeartbeats 8000000
set_option linter.all false
set_option maxRecDepth 100000
open Go.Fw.Flat renaming val->jr,enc->kp,sz->nk
open ByteArray renaming mk->j0,size->ace
open List renaming getElem?_eq_some_iff->kE,mem_of_getElem?->kO,take_of_length_le->la,getElem?_eq_getElem->lU,length_append->l0,length_take->l9,length_map->mW,length_singleton->nh,getElem?_eq_none->n0,append_assoc->n4,getD_eq_getElem?_getD->oi,replicate->oz,mem_map->o1,getElem?_map->o6,mem_append->pd,take_append_drop->qT,length_drop->sJ,mem_cons->s4,range->tg,getElem?_append_left->uc,drop_drop->u3,drop_eq_nil_of_le->u6,drop_eq_getElem_cons->vl,length_eq_zero_iff->vq,map_append->vG,take_add_one->v7,ext_getElem?->xq,any_eq_true->xy,length_replicate->yz,nil_append->zS,getElem_of_mem->CI,any_eq_false->CP,getElem?_set_self->Eu,getElem?_eq_none_iff->EV,drop_left->GA,map_cons->Ix,getElem?_set_ne->IQ,map_map->Jz,length_nil->Ld,nodup_cons->Li,mem_range->Ns,take_left->Oy,toArray->P4,getElem?_eraseIdx_of_lt->Rs,getElem?_eraseIdx_of_ge->RW,forIn_cons->XW,mem_range'->Yk,drop_zero->Z4,cons->abo,getElem_inj->abr,range'->ab8
open Nat renaming zero_le->l2,le_refl->sl,zero_add->xp,min_eq_left->GF,add_sub_cancel->Ts,le_of_lt->XO,mul_one->Z0,sub_zero->aaW,div_one->ab7
open Option renaming bind_some->mv,some->ob,map_some->FK
open Go.Value renaming int->n3,bool->x6,string->IF
open Go.Fw.Deep renaming dr->n5
open Go.Instr renaming sliceAt->oa,index->wk,lookup->wo,sliceBounds->wN,mapUpdate->xi,makeMap->NK,findKey->N9,checkKey->OA,keyThatStays->PQ,findAsking->XB
open Bool renaming and_eq_true->oj,not_eq_true'->u1,true_and->Et
open Int renaming toNat_natCast->tx,mul_le_mul->KH,toNat->abZ
open Decidable renaming not_not->A0
open Array renaming toList_push->aaX
namespace Go.Proofs.YtpdlpabnlkofmaaGreatDoor
open Go.Fw
inductive Bk where
 | nil
 | cons (x:bM) (a b r:Bk)
namespace Bk
def flat:Bk->List bM|nil=>[]|cons x a b r=>x::(a.flat++(b.flat++r.flat))
def len:Bk->Nat|nil=>0|cons _ a b r=>a.len+b.len+r.len+1
def str:Bk->Prop|nil=>True|cons x a b r=>x.body=a.len/\x.ep=b.len/\a.len<=40/\b.len<=40/\a.str/\b.str/\r.str
def DO(x:bM)(loops:Int):Int:=if x.kind=12 then loops+1 else loops
def zH(x:bM):Bool:=decide (x.kind=11\/x.kind=12)
def ym(x:bM)(loops:Int):Bool:=decide ((x.body<=0\/x.kind=11\/x.kind=12)/\(x.ep<=0\/x.kind=11)/\(¬ x.kind=13\/¬ loops=0))
def ok:Bk->Int->Bool|nil,_=>true|cons x a b r,n=>ym x n&&a.ok (DO x n)&&b.ok (DO x n)&&r.ok n
def depth:Bk->Int|nil=>0|cons x a b r=>if zH x then max (max (1+a.depth) (1+b.depth)) r.depth else r.depth
end Bk
theorem Bk.cX(t:Bk):t.flat.length=t.len:=by
 induction t with
 | nil=>rfl
 | cons x a b r E B u=>grind[flat,len]
theorem Bk.AY(t:Bk):0<=t.depth/\t.depth<=t.len:=by
 induction t with
 | nil=>simp[Bk.depth,Bk.len]
 | cons x a b r E B u=>
  grind[depth,len]
def Wa:Nat->List bM->Option Bk
 | _,[]=>some .nil
 | 0,_::_=>none
 | n+1,x::l=>
  if 0<=x.body/\0<=x.ep/\x.body<=40/\x.ep<=40/\x.body+x.ep<=l.length then
   match Wa n (l.take x.body.toNat),Wa n ((l.drop x.body.toNat).take x.ep.toNat),Wa n (l.drop (x.body.toNat+x.ep.toNat))with
   | some a,some b,some r=>some (.cons x a b r)
   | _,_,_=>none
  else none
theorem yn:∀n l t,Wa n l=some t->l=t.flat/\t.str
 | _,[],t,h=>by
  have h:some Bk.nil=some t:=by unfold Wa at h;exact h
  cases h;exact⟨rfl,trivial⟩
 | 0,x::l,t,h=>by cases h
 | n+1,x::l,t,h=>by
  unfold Wa at h
  split at h
  .rename_i hb
   obtain⟨h1,h2,h3,h4,h5⟩:=hb
   cases ha:Wa n (l.take x.body.toNat)with
   | none=>grind
   | some a=>
    cases hb:Wa n ((l.drop x.body.toNat).take x.ep.toNat)with
    | none=>grind
    | some b=>
     cases hr:Wa n (l.drop (x.body.toNat+x.ep.toNat))with
     | none=>grind
     | some r=>
      rw[ha,hb,hr]at h
      cases h
      obtain⟨u,E⟩:=yn n _ _ ha
      obtain⟨b1,b2⟩:=yn n _ _ hb
      obtain⟨B,I⟩:=yn n _ _ hr
      have G:=gL List.length u
      have lb:=gL List.length b1
      rw[Bk.cX,l9]at G
      rw[Bk.cX,l9,sJ]at lb
      refine⟨?_,bL,bL,bL,bL,E,b2,I⟩
      unfold Bk.flat
      rw[<- u,<- b1,<- B,<- u3,qT,qT]
  .cases h
theorem X0(t:Bk):t.str->∀n,t.len<=n->Wa n t.flat=some t:=by
 induction t with
 | nil=>intro _ n _;cases n<;>rfl
 | cons x a b r J I u=>
  intro h n B
  obtain⟨h1,h2,h3,h4,G,hb,E⟩:=h
  cases n with
  | zero=>simp[Bk.len]at B
  | succ n=>
   have B:a.len+b.len+r.len<=n:=by simp[Bk.len]at B;omega
   have M:=a.cX
   have lb:=b.cX
   unfold Bk.flat Wa
   rw[ej ⟨bL,bL,bL,bL,cD⟩,show x.body.toNat=a.flat.length from bL,Oy,GA,show x.ep.toNat=b.flat.length from bL,Oy,<- u3,GA,GA,
    J G n bL,I hb n bL,u E n bL]
def ti(l:List bM):Option Bk:=Wa l.length l
def nY{l:List bM}{t:Bk}(h:ti l=some t):l=t.flat/\t.str:=yn _ _ _ h
theorem rE{t:Bk}(h:t.str):ti t.flat=some t:=X0 t h _ (by rw[Bk.cX];omega)
def fC(l:List bM)(loops:Int):Int:=match ti l with|some t=>if t.ok loops then t.depth else -1|none=>-1
theorem Cd(loops:Int):fC [] loops=0:=rfl
theorem tK(l:List bM)(loops:Int) : -1<=fC l loops/\fC l loops<=l.length:=by
 unfold fC
 cases h:ti l with
 | none=>grind
 | some t=>
  obtain⟨rfl,_⟩:=nY h
  have:=t.AY
  simp only[Bk.cX]
  omega
def uQ(x:bM)(l:List bM):Prop:=0<=x.body/\0<=x.ep/\x.body<=40/\x.ep<=40/\x.body+x.ep<=l.length
theorem UA{x:bM}{l:List bM}{loops:Int}(h:¬ (uQ x l/\Bk.ym x loops=true)):fC (x::l) loops = -1:=by
 unfold fC
 cases hb:ti (x::l)with
 | none=>rfl
 | some t=>
  obtain⟨u,B⟩:=nY hb
  cases t with
  | nil=>cases u
  | cons y a b r=>
   obtain⟨rfl,rfl⟩:=abo.inj u
   obtain⟨h1,h2,h3,h4,_⟩:=B
   have:Bk.ym x loops=false:=by
    cases hk:Bk.ym x loops with
    | false=>rfl
    | true=>exact absurd ⟨⟨bL,bL,bL,bL,by simp[Bk.cX];omega⟩,hk⟩ h
   have h:(Bk.cons x a b r).ok loops=false:=by unfold Bk.ok;grind
   grind
theorem E2{x:bM}{l:List bM}{loops:Int}(h:uQ x l)(ho:Bk.ym x loops=true) :
  fC (x::l) loops=(let A:=fC (l.take x.body.toNat) (Bk.DO x loops);let B:=fC ((l.drop x.body.toNat).take x.ep.toNat) (Bk.DO x loops);let R:=fC (l.drop (x.body.toNat+x.ep.toNat)) loops
   if A<0\/B<0\/R<0 then -1 else if Bk.zH x then max (max (1+A) (1+B)) R else R):=by
 obtain⟨h1,h2,h3,h4,h5⟩:=h
 have e:l=l.take x.body.toNat++((l.drop x.body.toNat).take x.ep.toNat++l.drop (x.body.toNat+x.ep.toNat)):=by
  rw[<- u3,qT,qT]
 have O:(l.take x.body.toNat).length=x.body.toNat:=cD
 have lb:((l.drop x.body.toNat).take x.ep.toNat).length=x.ep.toNat:=by rw[l9,sJ];omega
 simp only[]
 have Y:∀t,ti (x::l)=some t->∃a b r,t=.cons x a b r/\ti (l.take x.body.toNat)=some a/\ti ((l.drop x.body.toNat).take x.ep.toNat)=some b/\ti (l.drop (x.body.toNat+x.ep.toNat))=some r:=by
  intro t ht
  obtain⟨J,W⟩:=nY ht
  cases t with
  | nil=>cases J
  | cons y a b r=>
   obtain⟨rfl,E⟩:=abo.inj J
   obtain⟨g1,g2,_,_,G,hb,u⟩:=W
   have I:x.body.toNat=a.flat.length:=by rw[Bk.cX];omega
   have M:x.ep.toNat=b.flat.length:=by rw[Bk.cX];omega
   refine⟨a,b,r,rfl,?_,?_,?_⟩
   .rw[E,I,Oy];exact rE G
   .rw[E,I,M,GA,Oy];exact rE hb
   .rw[E,<- u3,I,M,GA,GA];exact rE u
 cases G:ti (l.take x.body.toNat)with
 | none=>
  have:ti (x::l)=none:=by
   cases hh:ti (x::l)with
   | none=>rfl
   | some t=>grind
  unfold fC;rw[this,G];simp
 | some a=>
  cases hb:ti ((l.drop x.body.toNat).take x.ep.toNat)with
  | none=>
   have:ti (x::l)=none:=by
    cases hh:ti (x::l)with
    | none=>rfl
    | some t=>grind
   unfold fC;rw[this,hb];simp
  | some b=>
   cases u:ti (l.drop (x.body.toNat+x.ep.toNat))with
   | none=>
    have:ti (x::l)=none:=by
     cases hh:ti (x::l)with
     | none=>rfl
     | some t=>grind
    unfold fC;rw[this,u];simp
   | some r=>
    obtain⟨Z,V⟩:=nY G
    obtain⟨b1,b2⟩:=nY hb
    obtain⟨r1,U⟩:=nY u
    have E:x::l=(Bk.cons x a b r).flat:=by unfold Bk.flat;grind
    rw[Z,Bk.cX]at O
    rw[b1,Bk.cX]at lb
    have:ti (x::l)=some (.cons x a b r):=by rw[E];exact rE ⟨bL,bL,bL,bL,V,b2,U⟩
    have na:=a.AY
    have nb:=b.AY
    have nr:=r.AY
    unfold fC
    rw[this,G,hb,u]
    simp only[Bk.ok,ho,Et]
    cases h1:a.ok (Bk.DO x loops)<;>cases h2:b.ok (Bk.DO x loops)<;>cases h3:r.ok loops<;>simp[Bk.depth]
    omega
def sn(n d:Int):Int:=if d<0 then -1 else max n d
def Jw{xs l:List bM}{x:bM}{loops n:Int}(h:fC xs loops=sn n (fC (x::l) loops))(hb:¬ (uQ x l/\Bk.ym x loops=true)):fC xs loops = -1:=by
 rw[h,UA hb];rfl
def X1{xs l:List bM}{x:bM}{loops n:Int}(h:fC xs loops=sn n (fC (x::l) loops))(E:uQ x l)(u:Bk.ym x loops=true)(hb:Bk.zH x=true)(A B:Int)
  (I:A=fC (l.take x.body.toNat) (Bk.DO x loops)) (G:B=fC ((l.drop x.body.toNat).take x.ep.toNat) (Bk.DO x loops)) :
  (A<0\/B<0->fC xs loops = -1)/\(¬ (A<0\/B<0)->fC xs loops=sn (max (max n (1+A)) (1+B)) (fC (l.drop (x.body.toNat+x.ep.toNat)) loops)):=by
 have J:=tK (l.drop (x.body.toNat+x.ep.toNat)) loops
 rw[h,E2 E u]
 simp only[<- I,<- G,hb,if_true]
 unfold sn
 constructor<;>intro h<;>repeat' split
 all_goals omega
def ag0{xs l:List bM}{x:bM}{loops n:Int}(h:fC xs loops=sn n (fC (x::l) loops))(B:uQ x l)(u:Bk.ym x loops=true)(hb:Bk.zH x=false) :
  fC xs loops=sn n (fC (l.drop (x.body.toNat+x.ep.toNat)) loops):=by
 have E:x.body=0/\x.ep=0:=by
  unfold Bk.ym at u
  unfold Bk.zH at hb
  obtain⟨h1,h2,_⟩:=B
  grind
 rw[h,E2 B u,E.1,E.2]
 have G:l.take (abZ 0)=[]:=rfl
 have I:(l.drop (abZ 0)).take (abZ 0)=[]:=rfl
 simp only[hb,G,I,Cd]
 unfold sn
 repeat' split
 all_goals first|omega|simp_all
theorem drop_cons{α:Type}{xs:List α}{k:Nat}{x:α}(h:xs[k]?=some x):xs.drop k=x::xs.drop (k+1):=by
 obtain⟨h1,h2⟩:=kE.1 h
 rw[vl h1,h2]
theorem vD{α:Type}(xs:List α){a b c n:Nat}(h:b=a+n)(hc:c=a):(xs.take b).drop c=(xs.drop a).take n:=by
 subst h hc;rw[List.drop_take,Nat.add_sub_cancel_left]
def UB:List ByteArray:=[⟨#[]⟩,⟨#[114,101]⟩,⟨#[114,110]⟩,⟨#[110,101]⟩,⟨#[114,110,101,102]⟩,⟨#[110]⟩,⟨#[110]⟩,⟨#[]⟩,⟨#[]⟩,⟨#[110]⟩,⟨#[110]⟩,⟨#[101,98]⟩,⟨#[107,98]⟩,⟨#[]⟩,⟨#[101]⟩]
def fE(k:Int):ByteArray:=if k<1\/14<k then⟨#[]⟩else UB.getD k.toNat ⟨#[]⟩
def eP(s:ByteArray)(c:Int):Bool:=(iO s).any λb=>decide ((b.toNat:Int)=c)
def m9(x:bM):Bool:=
 !(decide (x.kind<1)||decide (14<x.kind)||decide (x.at_<0)||decide (4000<x.at_)) &&
 !((eP (fE x.kind) 114 != gI x.ey)||(!eP (fE x.kind) 114&&decide (¬ x.ey=⟨#[]⟩))||(eP (fE x.kind) 110 != gI x.name)||(!eP (fE x.kind) 110&&decide (¬ x.name=⟨#[]⟩))) &&
 !((eP (fE x.kind) 101 != fz x.e)||(!eP (fE x.kind) 101&&decide (0<x.e.length))||(eP (fE x.kind) 102 != fz x.f)||(!eP (fE x.kind) 102&&decide (0<x.f.length))) &&
 (if eP (fE x.kind) 107=true then decide (1<=x.n/\x.n<=8)else decide (x.n=0))
def pL(l:List bM):Bool:=decide (l.length<=40)&&!l.any (λx=>!m9 x)&&decide (0<=fC l 0/\fC l 0<=12)
def rq(n:Int):Bool:=decide (0<=n/\n<=4000)
def iQ(u:Int)(c:cC):Bool:=!gI c.name||decide (c.n<0)||decide (u<c.n)||!rq c.at_
def nZ(u:Int)(l:List cC):Bool:=!l.any (iQ u)
def so(nb:Bool)(t:cK):Bool:=(nb != gI t.name)||(!nb&&decide (¬ t.name=⟨#[]⟩))||!rq t.at_||!pL t.body
def my(nb:Bool)(t:cK):Bool:=so nb t||t.dO.any (λs=>!gI s)
def nL(nb:Bool)(l:List cK):Bool:=!l.any (my nb)
def nR(l:List cC):Bool:=decide ((l.length:Int)=0)||!nZ 4294967296 l
def lM(c:gP):Bool:=!rq c.at_||!fz c.e
def ko(p:cR):Bool:=!p.lines.any nR&&!p.dV.any lM&&(nZ 4294967296 p.iP&&nZ 0 p.eE&&nL true p.threads&&nL false p.recover&&decide (p.recover.length<=1))
def SzS(x:bM):Prop:=x.ey.size<=1048576/\x.name.size<=1048576/\x.e.length<=1048576/\x.f.length<=1048576/\(∀y∈x.e,y.name.size<=1048576)/\(∀y∈x.f,y.name.size<=1048576)
def X2(t:cK):Prop:=t.name.size<=1048576/\(∀s∈t.dO,s.size<=1048576)/\(∀x∈t.body,SzS x)
structure PZ(p:cR):Prop extends PS p where
 zl:∀l∈p.lines,∀c∈l,c.name.size<=1048576
 zv:∀c∈p.iP,c.name.size<=1048576
 zk:∀c∈p.eE,c.name.size<=1048576
 zt:∀t∈p.threads,X2 t
 zr:∀t∈p.recover,X2 t
 zc:∀c∈p.dV,c.e.length<=1048576/\∀y∈c.e,y.name.size<=1048576
def E3(k:Int):(fE k).size<=1048576:=by
 unfold fE
 split
 .decide
 rename_i h
 obtain rfl|rfl|rfl|rfl|rfl|rfl|rfl|rfl|rfl|rfl|rfl|rfl|rfl|rfl:k=1\/k=2\/k=3\/k=4\/k=5\/k=6\/k=7\/k=8\/k=9\/k=10\/k=11\/k=12\/k=13\/k=14:=bL
 all_goals decide
def C315(k:Int)(w:World):CR 315 [ir k] w (λv w'=>v=.string (fE k)/\Ext w w'):=by
 have u:=St.start w;refine acW _ _ _ ?_;unfold S315;refine⟨λI w'=>I=.bool (decide (k<1\/14<k))/\w=w',aN (aC (λ_=>⟨Oz bL,rfl⟩) λ_=>cL ⟨yd bL,rfl⟩),?_⟩;rintro _ _ ⟨rfl,G⟩ _;subst G;refine aC (λB=>?_) (λB=>?_)
 .refine⟨?_,u.aF⟩;unfold fE;rw[ej B]
 refine bD UB u iu rfl rfl (dQ rfl) (λM _ u=>?_);have O:UB.length=15:=rfl;obtain⟨U,E⟩:=gx UB (i:=k.toNat) bL;refine dG u iu bL bL (λ_ J=>fM u gv J E ?_);refine⟨?_,u.aF⟩;unfold fE;rw[ei B,oi,E];rfl
def C316(s:ByteArray)(c:Int)(w:World)(V:s.size<=1048576):CR 316 [.string s,.int .u8 c] w (λv w'=>v=.bool (eP s c)/\Ext w w'):=by
 have u:=St.start w;refine fb Tryz.func316 ?_;refine⟨λm x I=>∃k:Nat,x=ir (k:Int)/\m=(iO s).length-k/\k<=(iO s).length/\(∀y∈(iO s).take k,decide ((y.toNat:Int)=c)=false)/\St w aX [] I,⟨_,0,rfl,rfl,l2 _,ee,u⟩,?_⟩;rintro m _ I ⟨k,rfl,rfl,M,B,u⟩ _;rw[eV]at M;have W:=eV s;refine fe hG (aN (aC (λO=>?_) λO=>?_))
 .obtain⟨U,E⟩:∃J,(iO s)[(k:Int).toNat]?=some J:=⟨_,lU (by rw[eV];omega)⟩;exact jO hG bL E (nI (aC (λG=>⟨vb (gY E (ew G)).symm,u.aF⟩) λG=>aJ bL ⟨_,bL,k+1,rfl,rfl,bL,dY B E (ez G),u⟩))
 rw[la bL]at B;exact⟨vb (ix B).symm,u.aF⟩
def C288(x:bM)(xv:aZ)(w:World)(hx:n5 w xv x)(B:SzS x):CR 288 [jr xv] w (λv w'=>v=.bool (m9 x)/\Ext w w'):=by
 obtain⟨O,U,rfl,L5,HG⟩:=hx;have u:=St.start w;refine fb Tryz.func288 ?_;refine cP u (λV _ u=>⟨λG w'=>G=.bool (decide (x.kind<1)||decide (14<x.kind)||decide (x.at_<0)||decide (4000<x.at_))/\St w aX [bX V (kp (⟨x.kind,x.ey,x.name,O,U,x.n,x.body,x.ep,x.at_⟩:aZ))] w',?_,?_⟩)
 .refine aA dN (aB (v:=ir x.kind) bO u.hb rfl ?_);exact aN (aC (λ_=>⟨vb cD,u⟩) λ_=>aA dN (aB (v:=ir x.kind) bO u.hb rfl (cL (aC (λ_=>⟨vb cD,u⟩) λ_=>aA jI (aB (v:=ir x.at_) bO u.hb rfl (aN (aC (λ_=>⟨vb cD,u⟩) λ_=>aA jI (aB (v:=ir x.at_) bO u.hb rfl (cL ⟨vb cD,u⟩)))))))))
 rintro _ _ ⟨rfl,u⟩ _;refine aW (λiL=>?_) (λiL=>aA dN (aB (v:=ir x.kind) bO u.hb rfl (aV aoy u (C315 _ _) λ_ E u=>aV Lo u (C316 _ _ _ (E3 _)) λ_ E u=>aV Lo u (C316 _ _ _ (E3 _)) λ_ E u=>aV Lo u (C316 _ _ _ (E3 _)) λ_ E u=>aV Lo u (C316 _ _ _ (E3 _)) λ_ E u=>⟨λG w'=>G=.bool ((eP (fE x.kind) 114 != gI x.ey)||(!eP (fE x.kind) 114&&decide (¬ x.ey=⟨#[]⟩))||(eP (fE x.kind) 110 != gI x.name)||(!eP (fE x.kind) 110&&decide (¬ x.name=⟨#[]⟩)))/\St w aX [bX V (kp (⟨x.kind,x.ey,x.name,O,U,x.n,x.body,x.ep,x.at_⟩:aZ))] w',?_,?_⟩)))
 .refine⟨vb ?_,u.drop.aF⟩;unfold m9;simp only[*]
  first|done|rfl|simp
 .refine aA iC (aB (v:=.string x.ey) gv u.hb rfl (aV uz u (C211 _ _ B.1) λ_ E u=>mh EB (aW (λ_=>⟨vb cD,u⟩) λtJ=>bN (aW (λAZ=>?_) λ_=>aA fY (aB (v:=.string x.name) gv u.hb rfl (aV uz u (C211 _ _ B.2.1) λ_ _ u=>mh EB (aW (λ_=>⟨vb cD,u⟩) λ_=>bN (aW (λ_=>aA fY (aB (v:=.string x.name) gv u.hb rfl (lW ⟨vb cD,u⟩))) λ_=>⟨vb cD,u⟩))))))));refine aA iC ?_;exact aB (v:=.string x.ey) gv u.hb rfl (lW (aC (λ_=>⟨vb cD,u⟩) λ_=>aA fY (aB (v:=.string x.name) gv u.hb rfl (aV uz u (C211 _ _ B.2.1) λ_ _ u=>mh EB (aW (λ_=>⟨vb cD,u⟩) λ_=>bN (aW (λ_=>aA fY (aB (v:=.string x.name) gv u.hb rfl (lW ⟨vb cD,u⟩))) λ_=>⟨vb cD,u⟩))))))
 rintro _ _ ⟨rfl,u⟩ _;refine aW (λW=>?_) (λW=>⟨λG w'=>G=.bool ((eP (fE x.kind) 101 != fz x.e)||(!eP (fE x.kind) 101&&decide (0<x.e.length))||(eP (fE x.kind) 102 != fz x.f)||(!eP (fE x.kind) 102&&decide (0<x.f.length)))/\St w aX [bX V (kp (⟨x.kind,x.ey,x.name,O,U,x.n,x.body,x.ep,x.at_⟩:aZ))] w',?_,?_⟩)
 .refine⟨vb ?_,u.drop.aF⟩;unfold m9;simp only[*]
  first|done|rfl|simp
 .refine aA iV (aB jo u.hb rfl ?_);have M:=DL.flat L5;refine aV Lj u (C200 _ _ _ (M.ext u.aF) B.2.2.1 B.2.2.2.2.1) (λ_ E u=>mh EB (aW (λ_=>⟨vb cD,u⟩) λHH=>bN (aW (λY=>aA iV (aB jo u.hb rfl (aI gU (M.ext u.aF) (cL (aC (λ_=>⟨vb cD,u⟩) λSv=>?_))))) λY=>?_)))
  .refine aA j1 (aB jo u.hb rfl ?_);have I:=DL.flat HG;exact aV Lj u (C200 _ _ _ (I.ext u.aF) B.2.2.2.1 B.2.2.2.2.2) (λ_ _ u=>mh EB (aW (λ_=>⟨vb cD,u⟩) λ_=>bN (aW (λ_=>aA j1 (aB jo u.hb rfl (aI gU (I.ext u.aF) (cL ⟨vb cD,u⟩)))) λ_=>⟨vb cD,u⟩)))
  refine aA j1 (aB jo u.hb rfl ?_);have J:=DL.flat HG;exact aV Lj u (C200 _ _ _ (J.ext u.aF) B.2.2.2.1 B.2.2.2.2.2) (λ_ _ u=>mh EB (aW (λ_=>⟨vb cD,u⟩) λ_=>bN (aW (λ_=>aA j1 (aB jo u.hb rfl (aI gU (J.ext u.aF) (cL ⟨vb cD,u⟩)))) λ_=>⟨vb cD,u⟩)))
 rintro _ _ ⟨rfl,u⟩ _;refine aW (λZ=>?_) (λZ=>aV Lo u (C316 _ _ _ (E3 _)) λ_ E u=>aW (λCe=>⟨λG w'=>G=.bool (decide (1<=x.n/\x.n<=8))/\St w aX [bX V (kp (⟨x.kind,x.ey,x.name,O,U,x.n,x.body,x.ep,x.at_⟩:aZ))] w',aA jH (aB (v:=ir x.n) bO u.hb rfl (cO (aC (λ_=>aA jH (aB (v:=ir x.n) bO u.hb rfl (gu ⟨vb cD,u⟩))) λ_=>⟨vb cD,u⟩))),?_⟩) λCe=>?_)
 .refine⟨vb ?_,u.drop.aF⟩;unfold m9;simp only[*]
  first|done|rfl|simp
 .rintro _ _ ⟨rfl,u⟩ _;refine⟨vb ?_,u.drop.aF⟩;unfold m9;simp only[*]
  first|done|rfl|simp
 refine aA jH (aB (v:=ir x.n) bO u.hb rfl (aG ?_));refine⟨vb ?_,u.drop.aF⟩;unfold m9;simp only[*]
 first|done|rfl|simp
theorem C289(lv:Value)(xs:List bM)(loops:Int)(N:Nat)(w:World)(hL:DL w lv xs)(hn:xs.length<=1048576)(hlo:0<=loops)(Jy:loops+N<=4194304)(hN:xs.length<N):CR 289 [lv,ir loops] w (λv w'=>v=ir (fC xs loops)/\Ext w w'):=by
 have E:=St.start w;refine acS _ _ _ _ ?_;unfold S289;refine⟨λm y x w1=>∃(k:Nat) (n:Int),y=ir n/\x=ir (k:Int)/\m=xs.length-k/\k<=xs.length/\0<=n/\n<=41/\fC xs loops=sn n (fC (xs.drop k) loops)/\St w aX [] w1,⟨_,0,0,rfl,rfl,rfl,bL,bL,bL,by have:=tK xs loops;rw[Z4];unfold sn;split<;>omega,E⟩,?_⟩;rintro m _ _ w1 ⟨k,n,rfl,rfl,rfl,hk,Wb,XR,hinv,E⟩ _;obtain⟨ts7,G,J⟩:=hL.open;have hn7:=J.1;refine aI fk (G.ext E.aF) (aN (aC (λjk=>?_) λjk=>?_))
 .obtain⟨qx,gR⟩:=gx ts7 (i:=(k:Int).toNat) bL;obtain⟨u,E5⟩:=gx xs (i:=(k:Int).toNat) bL;obtain⟨M,O,rfl,adt,adu⟩:=J.2 _ _ _ gR E5;refine aK fk (G.ext E.aF) bL gR (λ_ si=>?_);have hdk:=drop_cons (xs:=xs) (k:=k) E5;rw[hdk]at hinv;have DP:(xs.drop (k+1)).length=xs.length-(k+1):=sJ;refine aE eD si (aQ E iN λV _ E=>aM (x:=(⟨u.kind,u.ey,u.name,M,O,u.n,u.body,u.ep,u.at_⟩:aZ)) E eD rfl rfl λ_ E=>⟨λI w'=>I=.bool (decide (u.body<0)||decide (u.ep<0)||decide (40<u.body)||decide (40<u.ep)||decide ((xs.length:Int)<k+1+u.body+u.ep))/\St w aX [bX V (kp (⟨u.kind,u.ey,u.name,M,O,u.n,u.body,u.ep,u.at_⟩:aZ))] w',aA iW (aB (v:=ir u.body) bO E.hb rfl (aN (aC (λ_=>⟨vb cD,E⟩) λik=>aA iD (aB (v:=ir u.ep) bO E.hb rfl (aN (aC (λ_=>⟨vb cD,E⟩) λyV=>aA iW (aB (v:=ir u.body) bO E.hb rfl (cL (aC (λ_=>⟨vb cD,E⟩) λl8=>?_))))))))),?_⟩)
  .exact aA iD (aB (v:=ir u.ep) bO E.hb rfl (cL (aC (λ_=>⟨vb cD,E⟩) λ_=>aJ bL (aA iW (aB (v:=ir u.body) bO E.hb rfl (aJ bL (aA iD (aB (v:=ir u.ep) bO E.hb rfl (aJ bL (aI fk (G.ext E.aF) (cL ⟨vb cD,E⟩)))))))))))
  rintro _ _ ⟨rfl,E⟩ _;refine aW (λ_=>⟨gL (n3 .i64) (Jw hinv (by unfold uQ;grind)).symm,E.drop.aF⟩) (λLZ=>?_);have ph:uQ u (xs.drop (k+1)):=by unfold uQ;grind
  refine⟨λI w'=>I=.bool (!Bk.ym u loops)/\St w aX [bX V (kp (⟨u.kind,u.ey,u.name,M,O,u.n,u.body,u.ep,u.at_⟩:aZ))] w',aA iW (aB (v:=ir u.body) bO E.hb rfl (cL (aC (λCY=>aA dN (aB (v:=ir u.kind) bO E.hb rfl (bW (aC (λapj=>aA dN (aB (v:=ir u.kind) bO E.hb rfl (bW (aC (λ_=>⟨vb (by unfold Bk.ym;grind),E⟩) λSw=>?_)))) λapj=>?_)))) λCY=>?_))),?_⟩
  .refine aA iD (aB (v:=ir u.ep) bO E.hb rfl (cL (aC (λ_=>aA dN (aB (v:=ir u.kind) bO E.hb rfl (bW (aC (λ_=>⟨vb (by unfold Bk.ym;grind),E⟩) λ_=>aA dN (aB (v:=ir u.kind) bO E.hb rfl (aG (aC (λ_=>aG ⟨vb (by unfold Bk.ym;grind),E⟩) λ_=>⟨vb (by unfold Bk.ym;grind),E⟩))))))) λxh=>?_)));exact aA dN (aB (v:=ir u.kind) bO E.hb rfl (aG (aC (λ_=>aG ⟨vb (by unfold Bk.ym;grind),E⟩) λ_=>⟨vb (by unfold Bk.ym;grind),E⟩)))
  .refine aA iD (aB (v:=ir u.ep) bO E.hb rfl (cL (aC (λ_=>aA dN (aB (v:=ir u.kind) bO E.hb rfl (bW (aC (λ_=>⟨vb (by unfold Bk.ym;grind),E⟩) λ_=>aA dN (aB (v:=ir u.kind) bO E.hb rfl (aG (aC (λ_=>aG ⟨vb (by unfold Bk.ym;grind),E⟩) λ_=>⟨vb (by unfold Bk.ym;grind),E⟩))))))) λaug=>?_)));exact aA dN (aB (v:=ir u.kind) bO E.hb rfl (aG (aC (λ_=>aG ⟨vb (by unfold Bk.ym;grind),E⟩) λ_=>⟨vb (by unfold Bk.ym;grind),E⟩)))
  .refine aA iD (aB (v:=ir u.ep) bO E.hb rfl (cL (aC (λ_=>aA dN (aB (v:=ir u.kind) bO E.hb rfl (bW (aC (λ_=>⟨vb (by unfold Bk.ym;grind),E⟩) λ_=>aA dN (aB (v:=ir u.kind) bO E.hb rfl (aG (aC (λ_=>aG ⟨vb (by unfold Bk.ym;grind),E⟩) λ_=>⟨vb (by unfold Bk.ym;grind),E⟩))))))) λauh=>?_)));exact aA dN (aB (v:=ir u.kind) bO E.hb rfl (aG (aC (λ_=>aG ⟨vb (by unfold Bk.ym;grind),E⟩) λ_=>⟨vb (by unfold Bk.ym;grind),E⟩)))
  rintro _ _ ⟨rfl,E⟩ _;refine aW (λ_=>⟨gL (n3 .i64) (Jw hinv cD).symm,E.drop.aF⟩) (λag4=>?_);have iv:Bk.ym u loops=true:=cD
  have ai9:=ph;unfold uQ at ai9;refine aJ bL (aA iW (have E:=E.drew;aB (v:=ir u.body) bO E.hb rfl (aJ bL ⟨λI w'=>I=ir (Bk.DO u loops)/\St w aX [bX V (kp (⟨u.kind,u.ey,u.name,M,O,u.n,u.body,u.ep,u.at_⟩:aZ))] w',aA dN (aB (v:=ir u.kind) bO E.hb rfl (aG (aC (λ_=>aJ bL ⟨gL (n3 .i64) (by unfold Bk.DO;grind),E⟩) λ_=>⟨gL (n3 .i64) (by unfold Bk.DO;grind),E⟩))),?_⟩)));rintro _ _ ⟨rfl,E⟩ _;have tA:loops<=Bk.DO u loops/\Bk.DO u loops<=loops+1:=by unfold Bk.DO;split<;>omega
  refine⟨λI w'=>∃U:Int,I=ir U/\0<=U/\U<=41/\fC xs loops=sn U (fC (xs.drop (k+1+(u.body.toNat+u.ep.toNat))) loops)/\St w aX [bX V (kp (⟨u.kind,u.ey,u.name,M,O,u.n,u.body,u.ep,u.at_⟩:aZ))] w',⟨λI w'=>I=.bool (decide (u.kind=11)||decide (u.kind=12))/\St w aX [bX V (kp (⟨u.kind,u.ey,u.name,M,O,u.n,u.body,u.ep,u.at_⟩:aZ))] w',aA dN (aB (v:=ir u.kind) bO E.hb rfl (aG (aC (λ_=>⟨vb cD,E⟩) λ_=>aA dN (aB (v:=ir u.kind) bO E.hb rfl (aG ⟨vb cD,E⟩))))),?_⟩,?_⟩
  .rintro _ _ ⟨rfl,E⟩ _;refine aW (λaja=>?_) (λaja=>?_)
   .refine aJ bL (oq fk (G.ext E.aF) bL bL bL λawR adv=>?_);have adw:=DL.cut adv G J;refine aA iD (have E:=E.drew;aB (v:=ir u.ep) bO E.hb rfl (aJ bL (oq fk (G.ext E.aF) bL bL bL λawS adx=>?_)));have ady:=DL.cut adx G J;have Y:((xs.take (((k:Int)+1)+u.body).toNat).drop ((k:Int)+1).toNat)=(xs.drop (k+1)).take u.body.toNat:=vD xs bL bL;have Z:((xs.take ((((k:Int)+1)+u.body)+u.ep).toNat).drop (((k:Int)+1)+u.body).toNat)=((xs.drop (k+1)).drop u.body.toNat).take u.ep.toNat:=by rw[u3];exact vD xs bL bL
    have hlA:((xs.take (((k:Int)+1)+u.body).toNat).drop ((k:Int)+1).toNat).length<=xs.length-1/\((xs.take (((k:Int)+1)+u.body).toNat).drop ((k:Int)+1).toNat).length<=40:=by rw[Y,l9];omega
    have hlB:((xs.take ((((k:Int)+1)+u.body)+u.ep).toNat).drop (((k:Int)+1)+u.body).toNat).length<=xs.length-1/\((xs.take ((((k:Int)+1)+u.body)+u.ep).toNat).drop (((k:Int)+1)+u.body).toNat).length<=40:=by rw[Z,l9,sJ];omega
    refine aV W0 E (C289 _ _ _ (N-1) _ (adw.ext E.aF) bL bL bL bL) (λ_ he E=>?_);refine⟨aH bO (E.hb.cell rfl),?_⟩;refine dR W0 (C289 _ _ _ (N-1) _ (ady.ext E.aF) bL bL bL bL) ?_;rintro _ _ ⟨rfl,he⟩;have E:=E.ext he;obtain⟨A,hA⟩:∃A,A=fC ((xs.take (((k:Int)+1)+u.body).toNat).drop ((k:Int)+1).toNat) (Bk.DO u loops):=⟨_,rfl⟩;obtain⟨B,hB⟩:∃B,B=fC ((xs.take ((((k:Int)+1)+u.body)+u.ep).toNat).drop (((k:Int)+1)+u.body).toNat) (Bk.DO u loops):=⟨_,rfl⟩;have hAb:=tK ((xs.take (((k:Int)+1)+u.body).toNat).drop ((k:Int)+1).toNat) (Bk.DO u loops)
    have hBb:=tK ((xs.take ((((k:Int)+1)+u.body)+u.ep).toNat).drop (((k:Int)+1)+u.body).toNat) (Bk.DO u loops);rw[<- hA]at hAb;rw[<- hB]at hBb;rw[<- hA,<- hB];have Uz:=X1 hinv ph iv (by unfold Bk.zH;grind) A B (by rw[hA,Y]) (by rw[hB,Z]);refine⟨λI w'=>I=.bool (decide (A<0\/B<0))/\St w aX [bX V (kp (⟨u.kind,u.ey,u.name,M,O,u.n,u.body,u.ep,u.at_⟩:aZ))] w',aN (aC (λ_=>⟨vb cD,E⟩) λ_=>aN ⟨vb cD,E⟩),?_⟩;rintro _ _ ⟨rfl,E⟩ _;refine aW (λPn=>⟨gL (n3 .i64) (Uz.1 (gM Pn)).symm,E.drop.aF⟩) (λPn=>aJ bL (aJ bL (LP ?_)))
    have X3:=Uz.2 (g6 Pn);rw[u3]at X3;exact⟨_,rfl,bL,bL,X3,E⟩
   have W:=ag0 hinv ph iv (by unfold Bk.zH;grind);rw[u3]at W;exact⟨_,rfl,Wb,XR,W,E⟩
  rintro _ _ ⟨U,rfl,ajc,ajd,X4,E⟩ _;exact aA iD (aB (v:=ir u.ep) bO E.hb rfl (aJ bL ⟨_,bL,k+1+(u.body.toNat+u.ep.toNat),U,rfl,gL (n3 .i64) bL,rfl,bL,ajc,ajd,X4,E.drop⟩))
 rw[u6 bL,Cd]at hinv;exact⟨gL (n3 .i64) (by rw[hinv];unfold sn;omega),E.aF⟩
termination_by N
decreasing_by all_goals omega
def C253(lv:Value)(xs:List bM)(w:World)(W:DL w lv xs)(hn:xs.length<=1048576)(hz:∀x∈xs,SzS x):CR 253 [lv] w (λv w'=>v=.bool (pL xs)/\Ext w w'):=by
 have u:=St.start w;refine fb Tryz.func253 ?_;obtain⟨Wc,B,E⟩:=(W).open;have hn8:=E.1;refine aI fk (B.ext u.aF) (cL (aC (λgQ=>?_) λgQ=>?_))
 .refine⟨vb ?_,u.aF⟩;unfold pL;rw[ez bL];rfl
 refine⟨λm x Y=>∃k:Nat,x=ir (k:Int)/\m=xs.length-k/\k<=xs.length/\(∀y∈xs.take k,(!m9 y)=false)/\St w aX [] Y,⟨_,0,rfl,rfl,l2 _,ee,u⟩,?_⟩;rintro m _ Y ⟨k,rfl,rfl,hk,I,u⟩ _;refine aI fk (B.ext u.aF) (aN (aC (λju=>?_) λju=>aV W0 u (C289 _ _ _ (xs.length+1) _ (W.ext u.aF) bL bL bL bL) λ_ he u=>⟨λjv w'=>jv=.bool (decide (0<=fC xs 0/\fC xs 0<=12))/\St w aX [] w',cO (aC (λ_=>gu ⟨vb cD,u⟩) λ_=>⟨vb cD,u⟩),?_⟩))
 .obtain⟨X5,Z⟩:=gx Wc (i:=(k:Int).toNat) bL;obtain⟨sq,G⟩:=gx xs (i:=(k:Int).toNat) bL;obtain⟨V,O,rfl,U,M⟩:=E.2 _ _ _ Z G;refine aK fk (B.ext u.aF) bL Z (λ_ AT=>aE eD AT (aV aon u (C288 sq _ _ ⟨V,O,rfl,U.ext u.aF,M.ext u.aF⟩ (hz _ (kO G))) λ_ he u=>bN (aW (λJ=>?_) λJ=>aJ bL ⟨_,bL,k+1,rfl,rfl,bL,dY I G J,u⟩)));refine⟨vb ?_,u.aF⟩;unfold pL;rw[gY G J];simp
 rintro _ _ ⟨rfl,u⟩ _;rw[la bL]at I;refine⟨vb ?_,u.aF⟩;unfold pL;rw[ix I,ew (show xs.length<=40 by omega)];rfl
def C199(n:Int)(w:World):CR 199 [ir n] w (λv w'=>v=.bool (rq n)/\Ext w w'):=by
 have E:=St.start w;refine fb Tryz.func199 ?_;refine⟨λB w'=>B=.bool (decide (0<=n/\n<=4000))/\w=w',cO (aC (λ_=>gu ⟨yd bL,rfl⟩) λ_=>⟨Uf bL,rfl⟩),?_⟩;rintro _ _ ⟨rfl,u⟩ _;subst u;exact⟨rfl,E.aF⟩
def C198(lv:Value)(xs:List cC)(I:Int)(w:World)(G:cZ (λ_=>True) w lv xs)(hn:xs.length<=1048576)(hz:∀c∈xs,c.name.size<=1048576):CR 198 [lv,ir I] w (λv w'=>v=.bool (nZ I xs)/\Ext w w'):=by
 have u:=St.start w;refine fb Tryz.func198 ?_;refine⟨λm x O=>∃k:Nat,x=ir (k:Int)/\m=xs.length-k/\k<=xs.length/\(∀y∈xs.take k,iQ I y=false)/\St w aX [] O,⟨_,0,rfl,rfl,l2 _,ee,u⟩,?_⟩;rintro m _ O ⟨k,rfl,rfl,hk,J,u⟩ _;refine aI ic (G.ext u.aF) (aN (aC (λjA=>?_) λjA=>?_))
 .obtain⟨E,B⟩:=gx xs (i:=(k:Int).toNat) bL;refine⟨λY w'=>Y=.bool (iQ I E)/\St w aX [] w',aK ic (G.ext u.aF) bL B (λ_ W=>bT E.name kJ W rfl rfl λ_ uN=>aE gv uN (aV uz u (C211 _ _ (hz _ (kO B))) λ_ he u=>bN (aW (λ_=>⟨vb (by unfold iQ;grind),u⟩) λlL=>?_))),?_⟩
  .refine aK ic (G.ext u.aF) bL B (λ_ U=>bT E.n rV U rfl rfl λ_ oV=>?_);exact aE bO oV (aN (aC (λ_=>⟨vb (by unfold iQ;grind),u⟩) λ_=>aK ic (G.ext u.aF) bL B λ_ mw=>bT E.n rV mw rfl rfl λ_ V=>aE bO V (cL (aC (λ_=>⟨vb (by unfold iQ;grind),u⟩) λ_=>aK ic (G.ext u.aF) bL B λ_ xt=>bT E.at_ uH xt rfl rfl λ_ Z=>aE bO Z (aV RS u (C199 _ _) λ_ _ u=>bN ⟨vb (by unfold iQ;grind),u⟩)))))
  rintro _ _ ⟨rfl,u⟩ _;refine aW (λM=>?_) (λM=>aJ bL ⟨_,bL,k+1,rfl,rfl,bL,dY J B M,u⟩);refine⟨vb ?_,u.aF⟩;unfold nZ;rw[gY B M];rfl
 rw[la bL]at J;refine⟨vb ?_,u.aF⟩;unfold nZ;rw[ix J];rfl
def C201(lv:Value)(xs:List cK)(nb:Bool)(w:World)(hL:DL w lv xs)(hn:xs.length<=1048576)(hz:∀t∈xs,X2 t/\t.dO.length<=500/\t.body.length<=500):CR 201 [lv,.bool nb] w (λv w'=>v=.bool (nL nb xs)/\Ext w w'):=by
 have u:=St.start w;refine fb Tryz.func201 ?_;refine⟨λm x V=>∃k:Nat,x=ir (k:Int)/\m=xs.length-k/\k<=xs.length/\(∀y∈xs.take k,my nb y=false)/\St w aX [] V,⟨_,0,rfl,rfl,l2 _,ee,u⟩,?_⟩;rintro m _ V ⟨k,rfl,rfl,hk,Y,u⟩ _;obtain⟨ts9,I,M⟩:=hL.open;have hn9:=M.1;refine aI fu (I.ext u.aF) (aN (aC (λfZ=>?_) λfZ=>?_))
 .obtain⟨X5,G⟩:=gx ts9 (i:=(k:Int).toNat) bL;obtain⟨B,O⟩:=gx xs (i:=(k:Int).toNat) bL;obtain⟨E6,E7,rfl,Po,E8⟩:=M.2 _ _ _ G O;have E:=hz _ (kO O);refine⟨λjv w'=>jv=.bool (so nb B)/\St w aX [] w',aK fu (I.ext u.aF) bL G (λ_ AT=>bT B.name qn AT rfl rfl λ_ LW=>aE gv LW (aV uz u (C211 _ _ E.1.1) λ_ he u=>mh EB (aW (λ_=>⟨vb (by unfold so;grind),u⟩) λm7=>?_))),?_⟩
  .refine bN (aW (λm8=>?_) λ_=>aK fu (I.ext u.aF) bL G λ_ adD=>bT B.at_ qo adD rfl rfl λ_ adE=>aE bO adE (aV RS u (C199 _ _) λ_ _ u=>bN (aW (λ_=>⟨vb (by unfold so;grind),u⟩) λ_=>aK fu (I.ext u.aF) bL G λ_ adF=>bT E7 lG adF rfl rfl λ_ adG=>aE jG adG (aV agx u (C253 _ _ _ (E8.ext u.aF) bL E.1.2.2) λ_ _ u=>bN ⟨vb (by unfold so;grind),u⟩))));refine aK fu (I.ext u.aF) bL G (λ_ sm=>bT B.name qn sm rfl rfl λ_ E9=>aE gv E9 ?_)
   exact lW (aC (λ_=>⟨vb (by unfold so;grind),u⟩) λ_=>aK fu (I.ext u.aF) bL G λ_ AX=>bT B.at_ qo AX rfl rfl λ_ xu=>aE bO xu (aV RS u (C199 _ _) λ_ _ u=>bN (aW (λ_=>⟨vb (by unfold so;grind),u⟩) λ_=>aK fu (I.ext u.aF) bL G λ_ Fa=>bT E7 lG Fa rfl rfl λ_ L6=>aE jG L6 (aV agx u (C253 _ _ _ (E8.ext u.aF) bL E.1.2.2) λ_ _ u=>bN ⟨vb (by unfold so;grind),u⟩))))
  rintro _ _ ⟨rfl,u⟩ _;refine aW (λLZ=>?_) (λLZ=>?_)
  .refine⟨vb ?_,u.aF⟩;unfold nL;rw[gY O (show my nb B=true by unfold my;rw[LZ];rfl)];rfl
  refine⟨λm x V=>∃J:Nat,x=ir (J:Int)/\m=B.dO.length-J/\J<=B.dO.length/\(∀s∈B.dO.take J,(!gI s)=false)/\St w aX [] V,⟨_,0,rfl,rfl,l2 _,ee,u⟩,?_⟩;rintro m _ _ ⟨J,rfl,rfl,uR,Fb,u⟩ _;refine aK fu (I.ext u.aF) bL G (λ_ XZ=>bT E6 fS XZ rfl rfl λ_ AS=>aE je AS ?_);have U:=DL.flat Po;refine aI iu (U.ext u.aF) (aN (aC (λHI=>?_) λ_=>aJ bL ⟨_,bL,k+1,rfl,rfl,bL,dY Y O (by unfold my;rw[LZ,ix (by rw[la bL]at Fb;exact Fb)];rfl),u⟩))
  refine aK fu (I.ext u.aF) bL G (λ_ L7=>bT E6 fS L7 rfl rfl λ_ Fc=>aE je Fc ?_);obtain⟨e_x67,W⟩:=gx B.dO (i:=(J:Int).toNat) bL;refine aK iu (U.ext u.aF) bL W (λ_ apo=>aE gv apo (aV uz u (C211 _ _ (E.1.2.1 _ (kO W))) λ_ he u=>bN (aW (λZ=>?_) λZ=>aJ bL ⟨_,bL,J+1,rfl,rfl,bL,dY Fb W Z,u⟩)));refine⟨vb ?_,u.aF⟩;unfold nL;rw[gY O (show my nb B=true by unfold my;rw[gY W Z];simp)];rfl
 rw[la bL]at Y;refine⟨vb ?_,u.aF⟩;unfold nL;rw[ix Y];rfl
variable (w:World) (K:Value->hM)
def S236(G B:Value):Prop:=
 jR (λE u a=>∀_:Env,
 eH (λK2=>lN 9 G λb=>bA .lss 3 u b λc=>cV c (eK hH (wk 9 G u) λd=>kG hH B [d] a λe f=>K2 e f) (K2 ff a)) (λg h=>∀_:Env,
 cV g (bB .add 3 u (i 1) λj=>E j h) (K u h))) (λE=>E (i 0) w)
theorem adH(B u:Value)(h:S236 w K B u):CR 236 [B,u] w K:=
 oe 20 (λ_=>.nil) 16 [.tmp 4] Tryz.func236 h
def S246(E G:Value):Prop:=
 cF 287 [E,G] w λa b=>lN 41 a λc=>od (λu B d e=>∀_:Env,
 bA .lss 3 d c λf=>cV f (iA 41 a d λg=>lA 3 g e λh=>cF 246 [E,h] e λj k=>eK hH (Builtin.max_ #[3,3] 3 [B,j].toArray) λl=>bB .add 3 d (i 1) λn=>
 u l n k) (bB .add 3 B (i 1) λo=>K o e)) (λu=>u (i 0) (i 0) b)
theorem adI(u B:Value)(h:S246 w K u B):CR 246 [u,B] w K:=
 oe 24 (λ_=>.nil) 16 [.tmp 4] Tryz.func246 h
def awV:dL:=λi=>match i with
 | 8=>(.of [(0,[]),(1,[]),(2,[]),(3,[]),(4,[]),(5,[]),(6,[]),(7,[]),(8,[]),(9,[]),(10,[]),(11,[4,9]),(12,[])])
 | _=>.nil
def S218(u E:Value):Prop:=
 qM hH (Instr.box 91 E) w λB a=>cF 185 [u] a λb c=>eK hH (Op.unary .not b) λd=>cV d (K (.tuple #[(.slice none 0 0),(i 8)]) c) (cF 264 [u] c λe f=>
 cF 240 [e,(.func (Go.Fn.func 262) [].toArray [B].toArray)] f λg h=>cV g (K (.tuple #[(.slice none 0 0),(i 9)]) h) (lA 91 B h λj=>cF 265 [u,(i 0),j] h λk l=>
 K (.tuple #[k,(i 0)]) l))
theorem adJ(B u:Value)(h:S218 w K B u):CR 218 [B,u] w K:=
 oe 18 (λ_=>.nil) 48 [.tmp 4,.tmp 5] Tryz.func218 h
def S143(E u B:Value):Prop:=
 lN 91 u λa=>lN 41 B λb=>bA .neq 3 a b λc=>cV c (K (.tuple #[(i 0),(i 1)]) w) (cF 218 [E,u] w λd e=>xT d 0 λf=>xT d 1 λg=>bB .neq 31 g (i 0) λh=>
 cV h (K (.tuple #[(i 0),g]) e) (cF 219 [f,B] e λj k=>xT j 0 λl=>xT j 1 λn=>K (.tuple #[l,n]) k))
theorem adK(B u E:Value)(h:S143 w K B u E):CR 143 [B,u,E] w K:=
 oe 29 (λ_=>.nil) 192 [.tmp 6,.tmp 7] Tryz.func143 h
theorem ag6:PL 234:=dJ Tryz.func234
theorem apq:PL 238:=dJ Tryz.func238
theorem apr:PL 236:=dJ Tryz.func236
theorem aps:PL 237:=dJ Tryz.func237
theorem apt:PL 235:=dJ Tryz.func235
theorem L9:PL 180:=dJ Tryz.func180
theorem X7:PL 286:=dJ Tryz.func286
theorem apu:PL 243:=dJ Tryz.func243
theorem apv:PL 242:=dJ Tryz.func242
theorem X8:PL 245:=dJ Tryz.func245
theorem apw:PL 287:=dJ Tryz.func287
theorem ag7:PL 246:=dJ Tryz.func246
theorem Sx:PL 185:=dJ Tryz.func185
theorem apx:PL 264:=dJ Tryz.func264
theorem ag8:PL 265:=dJ Tryz.func265
theorem apy:PL 218:=dJ Tryz.func218
theorem apz:PL 262:=dJ Tryz.func262
theorem ag9:PL 143:=dJ Tryz.func143
theorem apA:PL 244:=dJ Tryz.func244
theorem apB:PL 285:=dJ Tryz.func285
theorem aha:PL 240:=dJ Tryz.func240
theorem apC:PL 281:=dJ Tryz.func281
theorem ahb:PL 263:=dJ Tryz.func263
theorem X9:PL 225:=dJ Tryz.func225
end Go.Proofs.YtpdlpabnlkofmaaGreatDoor
namespace Go.Fw
open Go.MapKept (Stamped IsKey)
open Go.ChangeMaps (setBlock)
def mz(w:World)(b:Nat)(ks:List Int)(vs:List Value):Prop:=
 ∃es clock,w.heap[b]?=some (.map es clock)/\Stamped es clock/\es.toList.map (·.key)=ks.map (n3 .i64)/\es.toList.map (·.val)=vs
def kR:List Int->Int->Option Nat
 | [],_=>none
 | x::xs,k=>if x=k then some 0 else(kR xs k).map (· + 1)
theorem kq:∀{ks:List Int}{k:Int}{j:Nat},kR ks k=some j->ks[j]?=some k
 | x::xs,k,j,h=>by
  unfold kR at h
  split at h
  .grind
  .cases hh:kR xs k with
   | none=>grind
   | some i=>rw[hh]at h;simp at h;subst h;simpa using kq hh
theorem mA:∀{ks:List Int}{k:Int},kR ks k=none↔k ∉ ks
 | [],_=>by simp[kR]
 | x::xs,k=>by
  unfold kR
  by_cases e:x=k
  .simp[e]
  .rw[ei e,Option.map_eq_none_iff,mA,s4]
   grind
theorem su:∀{ks:List Int}{k:Int}{j:Nat},ks.Nodup->ks[j]?=some k->kR ks k=some j
 | x::xs,k,0,_,h=>by simp at h;simp[kR,h]
 | x::xs,k,j+1,hn,h=>by
  rw[List.getElem?_cons_succ]at h
  have u:=kO h
  have:x≠k:=λe=>(Li.1 hn).1 (e▸u)
  simp[kR,this,su (Li.1 hn).2 h]
def look{β:Type}(ks:List Int)(vs:List β)(k:Int):Option β:=(kR ks k).bind (vs[·]?)
def oX{β:Type}(f:Int->β)(k:Int)(x:β):Int->β:=λj=>if j=k then x else f j
section
variable {P:Program}{w w0 w':World}{A:Nat->Prop}{L:List HP}{b:Nat}{ks:List Int}{vs:List Value}
theorem mz.of_eq(h:mz w b ks vs)(u:w'.heap[b]?=w.heap[b]?):mz w' b ks vs:=by
 grind[mz]
theorem mz.lt(h:mz w b ks vs):b<w.heap.size:=by obtain⟨es,c,h1,_⟩:=h;grind
theorem mz.ext(h:mz w b ks vs)(e:Ext w w'):mz w' b ks vs:=h.of_eq (e.bX b h.lt λh=>h)
theorem mz.len(h:mz w b ks vs):ks.length=vs.length:=by
 obtain⟨es,c,_,_,h3,h4⟩:=h
 have:=gL List.length h3;grind
theorem mz.nodup(h:mz w b ks vs):ks.Nodup:=by
 obtain⟨es,c,_,h2,h3,h4⟩:=h
 have:=h2.2.2
 grind
def Ma(b:Nat)(ks:List Int)(vs:List Value):HP where
 p w F:=mz w b ks vs/\∀k,F k↔k=b
 loc w w' F h hh:=⟨h.1.of_eq (hh b ((h.2 b).2 rfl)),h.2⟩
 lt w F b' h hb:=by rw[(h.2 b').1 hb];exact h.1.lt
theorem UD{es:Array MapEntry}(h3:es.toList.map (·.key)=ks.map (n3 .i64)):∀x∈es.toList,IsKey (.int .i64) x.key:=by
 intro x u
 have:x.key∈es.toList.map (·.key):=o1.2 ⟨x,u,rfl⟩
 rw[h3]at this
 obtain⟨k,_,e⟩:=o1.1 this
 rw[<- e];simp[IsKey]
theorem Ff{T:TypeId}{k:Int}{es:Array MapEntry}(u:P.underlying T=some (.int .i64))(B:ks.Nodup)(h3:es.toList.map (·.key)=ks.map (n3 .i64)) :
  (kR ks k=none/\(N9 T (ir k) es.toList).run P w=.ok none w)\/∃j e,kR ks k=some j/\es.toList[j]?=some e/\e.key=ir k/\(N9 T (ir k) es.toList).run P w=.ok (some (j,e.val)) w:=by
 rcases MapKept.findNow_spec (d:=.int .i64) (k:=ir k) (by simp[IsKey]) es.toList 0 (UD h3)with⟨h1,h2⟩|⟨j,e,h1,h2,h4⟩
 .refine .inl ⟨mA.2 λE=>?_,MapKept.run_findKey u h1⟩
  have:n3 .i64 k∈es.toList.map (·.key):=cD
  grind
 refine .inr ⟨j,e,su B ?_,h2,h4,by rw[xp]at h1;exact MapKept.run_findKey u h1⟩
 have:(es.toList.map (·.key))[j]?=some (ir k):=cD
 grind
theorem zJ{T G E:TypeId}{z:Value}{k:Int}(h:mz w b ks vs)(ht:P.underlying T=some (.map G E))(I:P.underlying G=some (.int .i64))(u:m4 P E z) :
  (wo T (.map (some b)) (ir k) false).run P w=.ok ((look ks vs k).getD z) w:=by
 have M:=h.nodup
 obtain⟨es,c,h1,h2,h3,h4⟩:=h
 have B:(zeroValue E).run P w=.ok z w:=by
  unfold m4 eg at u
  cases hi:P.info? E with
  | none=>grind
  | some i=>
   rw[hi]at u
   simp only[FK,ob.injEq]at u
   refine fa ?_ w
   unfold zeroValue;rw[cI,kZ hi];simp only[mv,u];rfl
 have hc:=MapKept.run_checkKey (P:=P) (w:=w) (kt:=G) (k:=ir k) I (by simp[IsKey]) es.isEmpty 9999
 rcases Ff (w:=w) (k:=k) I M h3 with⟨h5,h6⟩|⟨j,e,h5,h6,O,J⟩
 .simp[wo,run_underlying ht,MapKept.run_getObj_map h1,hc,h6,B,Result.andThen,look,h5]
 have:vs[j]?=some e.val:=cD
 simp[wo,run_underlying ht,MapKept.run_getObj_map h1,hc,J,Result.andThen,look,h5,this]
theorem jw(o:Obj)(hb:b<w.heap.size):(setBlock w b o).heap[b]?=some o:=by simp[setBlock,hb]
theorem gD.setBlock(w:World)(b:Nat)(o:Obj):gD (· = b) w (setBlock w b o):=
 ⟨rfl,rfl,rfl,by simp[ChangeMaps.setBlock],λk _ u=>by simp only[ChangeMaps.setBlock];grind⟩
theorem mB{es:Array MapEntry}{clock:Nat}{o:Obj}(h1:w.heap[b]?=some (.map es clock)):(setObj b o).run P w=.ok () (setBlock w b o):=by
 simp[setObj,Sem.run,h1,setBlock]
theorem adL{T I E:TypeId}{v:Value}{k:Int}(h:mz w b ks vs)(ht:P.underlying T=some (.map I E))(J:P.underlying I=some (.int .i64)) :
  ∃w',(xi T (.map (some b)) (ir k) v).run P w=.ok () w'/\gD (· = b) w w'/\
   (match kR ks k with|some j=>mz w' b ks (vs.set j v)|none=>mz w' b (ks++[k]) (vs++[v])):=by
 have V:=h.nodup
 have M:=h.lt
 obtain⟨es,c,h1,h2,h3,h4⟩:=h
 have hc:=MapKept.run_checkKey (P:=P) (w:=w) (kt:=I) (k:=ir k) J (by simp[IsKey]) false 9999
 rcases Ff (w:=w) (k:=k) J V h3 with⟨h5,h6⟩|⟨j,e,h5,h6,O,U⟩
 .refine⟨_,?_,gD.setBlock w b (.map (es.push ⟨ir k,v,c⟩) (c+1)),?_⟩
  .simp[xi,run_underlying ht,MapKept.run_getObj_map h1,hc,h6,mB h1,Result.andThen]
  rw[h5]
  refine⟨_,_,jw _ M,MapKept.stamped_push h2 λx W e=>?_,by simp[h3],by simp[h4]⟩
  have:x.key∈es.toList.map (·.key):=o1.2 ⟨x,W,rfl⟩
  rw[h3,e]at this
  obtain⟨k',G,u⟩:=o1.1 this
  simp at u
  exact mA.1 h5 (u▸G)
 have Y:es[j]?=some e:=cD
 have Z:(PQ e.key (ir k)).run P w=.ok (ir k) w:=by
  rw[O];unfold PQ;simp[Instr.sameBits]
 refine⟨_,?_,gD.setBlock w b (.map (es.modify j λe=>{e with key:=ir k,val:=v}) c),?_⟩
 .simp[xi,run_underlying ht,MapKept.run_getObj_map h1,hc,U,mB h1,Result.andThen,Y,Z]
 rw[h5]
 have G:∀u,es[j]?=some u->({u with key:=ir k,val:=v}:MapEntry).key=u.key:=λu B=>by
  grind
 refine⟨_,_,jw _ M,MapKept.stamped_modify h2 j _ (λ_ _=>rfl) (λu _ B=>G u B),?_,?_⟩
 .rw[MapKept.modify_keys j _ G,h3]
 rw[<- h4]
 apply xq
 grind
theorem adM{T u E R:TypeId}{M:Array TypeId}{k:Int}(h:mz w b ks vs)(J:M[0]?=some T)(ht:P.underlying T=some (.map u E))(G:P.underlying u=some (.int .i64)) :
  ∃w',(Builtin.delete_ M R [.map (some b),ir k].toArray).run P w=.ok (.tuple #[]) w'/\gD (· = b) w w'/\
   (match kR ks k with|some j=>mz w' b (ks.eraseIdx j) (vs.eraseIdx j)|none=>mz w' b ks vs):=by
 have U:=h.nodup
 have I:=h.lt
 obtain⟨es,c,h1,h2,h3,h4⟩:=h
 have hc:=MapKept.run_checkKey (P:=P) (w:=w) (kt:=u) (k:=ir k) G (by simp[IsKey]) es.isEmpty 9999
 rcases Ff (w:=w) (k:=k) G U h3 with⟨h5,h6⟩|⟨j,e,h5,h6,V,O⟩
 .refine⟨_,?_,gD.setBlock w b (.map es c),?_⟩
  .simp[Builtin.delete_,J,run_underlying ht,MapKept.run_getObj_map h1,hc,h6,mB h1,Result.andThen]
  rw[h5]
  exact⟨_,_,jw _ I,h2,h3,h4⟩
 have W:j<es.size:=cD
 refine⟨_,?_,gD.setBlock w b (.map (es.eraseIdxIfInBounds j) c),?_⟩
 .simp[Builtin.delete_,J,run_underlying ht,MapKept.run_getObj_map h1,hc,O,mB h1,Result.andThen]
 rw[h5]
 have B:(es.eraseIdxIfInBounds j).toList=es.toList.eraseIdx j:=by
  simp_all
 refine⟨_,_,jw _ I,MapKept.stamped_erase h2 j,?_,?_⟩
 .rw[B,ChangeMaps.map_eraseIdx,h3,ChangeMaps.map_eraseIdx]
 rw[B,ChangeMaps.map_eraseIdx,h4]
theorem Mb{T:TypeId}{K:Value->hM}(u:St w0 A L w)(k:∀b w',St w0 A (Ma b [] []::L) w'->K (.map (some b)) w'):qM P (NK T none) w K:=
 ⟨_,_,rfl,k _ _ (u.new (Ext.push w (.map #[] 0)) (F:=λk=>k=w.heap.size) ⟨⟨#[],0,mf _ _,MapKept.stamped_empty 0,rfl,rfl⟩,λ_=>Iff.rfl⟩ λb hb=>by rw[hb];exact sl _)⟩
theorem St.Mc(u:St w0 A (Ma b ks vs::L) w):mz w b ks vs:=by obtain⟨F,h,_⟩:=u.head;exact h.1
end
section
variable {α:Type}[Flat α] {P:Program}{w w0 w':World}{A:Nat->Prop}{L:List HP}{b:Nat}{f:Int->List α}
abbrev Dn(s:SV)(x:List α):HP:=bF (jr s) x
def pq(b:Nat)(f:Int->List α):HP:=oO λks=>oO λu:List SV=>oO λB:List (List α)=>fact (f=λk=>(look ks B k).getD []) (sep (Ma b ks (u.map jr)) (fR Dn u B))
def tL(w:World)(b:Nat)(f:Int->List α):Prop:=∃ks,∃u:List SV,mz w b ks (u.map jr)/\(∀(i:Nat) (k:Int) (s:SV),ks[i]?=some k->u[i]?=some s->cZ (λ_=>True) w (jr s) (f k))/\∀k,k ∉ ks->f k=[]
theorem tL.ext(h:tL w b f)(e:Ext w w'):tL w' b f:=by
 obtain⟨ks,u,h1,h2,h3⟩:=h;exact⟨ks,u,h1.ext e,λi k s a c=>(h2 i k s a c).ext e,h3⟩
theorem qi{β:Type}{ks:List Int}{xs:List β}{k:Int}{i:Nat}{x:β}(u:ks.Nodup)(h1:ks[i]?=some k)(h2:xs[i]?=some x):look ks xs k=some x:=by
 unfold look;rw[su u h1];exact h2
theorem pM{β:Type}{ks:List Int}{xs:List β}{k:Int}(h:k ∉ ks):look ks xs k=none:=by unfold look;rw[mA.2 h];rfl
theorem pq.rd{F:Nat->Prop}(h:(pq b f).p w F):tL w b f:=by
 obtain⟨ks,E,u,G,U,M,h1,h2,_,_⟩:=h
 refine⟨ks,E,h1.1,λi k s B I=>?_,λk B=>by rw[G];dsimp only;rw[pM B];rfl⟩
 have V:=B6 h2
 have hi:i<u.length:=by have:=(kE.1 I).1;omega
 have J:u[i]?=some u[i]:=lU hi
 have O:St w M [fR Dn E u] w:=St.begin h2
 have:=O.adg I J (Φ:=λw=>cZ (λ_=>True) w (jr s) u[i]) λh=>(bF.rd h).mono λ_ _=>trivial
 rw[G];dsimp only
 rw[qi h1.1.nodup B J];exact this
theorem St.Ya(u:St w0 A (pq b f::L) w):tL w b f:=by obtain⟨F,h,_⟩:=u.head;exact pq.rd h
theorem tL.look{T I E:TypeId}{k:Int}(h:tL w b f)(ht:P.underlying T=some (.map I E))(J:P.underlying I=some (.int .i64))(O:m4 P E (.slice none 0 0)) :
  ∃s:SV,(wo T (.map (some b)) (ir k) false).run P w=.ok (jr s) w/\cZ (λ_=>True) w (jr s) (f k):=by
 obtain⟨ks,u,h1,h2,h3⟩:=h
 have G:=zJ (P:=P) (k:=k) h1 ht J O
 cases wj:kR ks k with
 | none=>
  have:Fw.look ks (u.map jr) k=none:=by unfold Fw.look;grind
  rw[this]at G
  exact⟨cG,G,by rw[h3 k (mA.1 wj)];exact cZ.nil _ _⟩
 | some j=>
  have V:=kq wj
  have U:=h1.len
  have B:j<u.length:=cD
  have M:u[j]?=some u[j]:=lU B
  have:Fw.look ks (u.map jr) k=some (jr u[j]):=by unfold Fw.look;grind
  grind
theorem tL.apE{T I E:TypeId}{k:Int}(h:tL w0 b f)(ht:P.underlying T=some (.map I E))(J:P.underlying I=some (.int .i64))(O:m4 P E (.slice none 0 0)) :
  ∃s:SV,(∀w,Ext w0 w->(wo T (.map (some b)) (ir k) false).run P w=.ok (jr s) w)/\cZ (λ_=>True) w0 (jr s) (f k):=by
 obtain⟨ks,u,h1,h2,h3⟩:=h
 have G:∀w,Ext w0 w->_:=λw e=>zJ (P:=P) (k:=k) (h1.ext e) ht J O
 cases wj:kR ks k with
 | none=>
  have:Fw.look ks (u.map jr) k=none:=by unfold Fw.look;grind
  rw[this]at G
  exact⟨cG,G,by rw[h3 k (mA.1 wj)];exact cZ.nil _ _⟩
 | some j=>
  have V:=kq wj
  have U:=h1.len
  have B:j<u.length:=cD
  have M:u[j]?=some u[j]:=lU B
  have:Fw.look ks (u.map jr) k=some (jr u[j]):=by unfold Fw.look;grind
  grind
theorem Cf{T u E:TypeId}{k:Int}{K:Value->Prop}(h:tL w0 b f)(e:Ext w0 w)(ht:P.underlying T=some (.map u E))(G:P.underlying u=some (.int .i64))(I:m4 P E (.slice none 0 0))
  (B:∀s:SV,cZ (λ_=>True) w0 (jr s) (f k)->K (jr s)):GL P (wo T (.map (some b)) (ir k) false) w K:=by
 obtain⟨s,h1,h2⟩:=h.apE (P:=P) (k:=k) ht G I;exact⟨_,h1 w e,B s h2⟩
def Md(b:Nat)(f:Int->List α)(k:Int)(s:SV):HP:=oO λks=>oO λB:List SV=>oO λE:List (List α)=>oO λvs:List Value=>
 fact ((∀u,u≠k->f u=(look ks E u).getD [])/\look ks vs k=(kR ks k).map (λ_=>jr s)/\(kR ks k=none->s=cG)/\vs.length=B.length/\∀(i:Nat) (u:Int),ks[i]?=some u->u≠k->vs[i]?=(B[i]?).map jr) (sep (Ma b ks vs) (fR Dn B E))
theorem St.Fg{k:Int}(u:St w0 A (pq b f::L) w):∃s:SV,St w0 A (bF (jr s) (f k)::Md b f k s::L) w:=by
 obtain⟨ks,u⟩:=u.dK;obtain⟨B,u⟩:=u.dK;obtain⟨E,u⟩:=u.dK;obtain⟨J,u⟩:=u.j4
 replace u:=u.split
 have V:=u.Mc
 have Y:=V.len
 have Z:=u.p1.fG
 have hn:=V.nodup
 rw[mW]at Y
 cases wj:kR ks k with
 | none=>
  refine⟨cG,?_⟩
  have hx:look ks E k=none:=by unfold look;rw[wj];rfl
  have e:f k=[]:=by rw[J];dsimp only;rw[hx];rfl
  rw[e]
  refine(St.dT ks (St.dT B (St.dT E (St.dT (B.map jr) (St.l4 ⟨λM _=>by rw[J],by unfold look;rw[wj];rfl,λ_=>rfl,by rw[mW],λi M _ _=>by rw[o6]⟩ (St.join u)))))).eU
 | some j=>
  have O:=kq wj
  have W:=(kE.1 O).1
  have G:B[j]?=some (B[j]'(bL)):=lU _
  have I:E[j]?=some (E[j]'(bL)):=lU _
  refine⟨B[j]'(bL),?_⟩
  have e:f k=E[j]'(bL):=by rw[J];dsimp only;rw[qi hn O I];rfl
  rw[e]
  have h1:=(u.p1.focus G I).p1
  have h2:=(h1.eU (α:=α)).p1
  have h3:St w0 A (Dn (cG:SV) ([]:List α)::nJ Dn B E j::_::_::L) w:=h2.p1
  have h4:=h3.ES bL Z
  have h5:=h4.p2
  refine(St.dT ks (St.dT (B.set j cG) (St.dT (E.set j []) (St.dT (B.map jr) (St.l4 ⟨λM U=>?_,by unfold look;rw[wj];simp[G],λh=>(by cases wj.symm.trans h),ee,λi M hi U=>?_⟩ (St.join h5)))))).p1
  .rw[J];dsimp only
   unfold look
   cases hq:kR ks M with
   | none=>rfl
   | some i=>
    have:j≠i:=λe=>U (by have:=kq hq;rw[<- e,O]at this;exact(ob.inj this).symm)
    simp[this]
  .rw[o6,IQ]
   rintro rfl
   rw[O]at hi;exact U (ob.inj hi).symm
theorem St.Cg{T B E:TypeId}{k:Int}{s:SV}(u:St w0 A (Md b f k s::L) w)(ht:P.underlying T=some (.map B E))(G:P.underlying B=some (.int .i64))(I:m4 P E (.slice none 0 0)) :
  (wo T (.map (some b)) (ir k) false).run P w=.ok (jr s) w:=by
 obtain⟨ks,u⟩:=u.dK;obtain⟨J,u⟩:=u.dK;obtain⟨M,u⟩:=u.dK;obtain⟨vs,u⟩:=u.dK;obtain⟨⟨_,h2,h3,_⟩,u⟩:=u.j4
 have:=zJ (P:=P) (k:=k) u.split.Mc ht G I
 rw[h2]at this
 cases wj:kR ks k with
 | none=>rw[wj]at this;rw[h3 wj];exact this
 | some j=>rw[wj]at this;exact this
theorem St.Yb{k:Int}{s:SV}{xs:List α}(u:St w0 A (bF (jr s) xs::Md b f k s::L) w):St w0 A (pq b (oX f k xs)::L) w:=by
 replace u:=u.p1
 obtain⟨ks,u⟩:=u.dK;obtain⟨E,u⟩:=u.dK;obtain⟨G,u⟩:=u.dK;obtain⟨vs,u⟩:=u.dK;obtain⟨⟨Z,h2,h3,hvs,Y⟩,u⟩:=u.j4
 replace u:=u.split
 have W:=u.Mc
 have hl:=W.len
 have hn:=W.nodup
 have Df:=u.p1.fG
 cases wj:kR ks k with
 | none=>
  have KK:=mA.1 wj
  have I:vs=E.map jr:=xq λi=>by
   cases hi:ks[i]? with
   | none=>rw[EV]at hi;rw[n0 bL,n0 (by rw[mW];omega)]
   | some B=>rw[Y i B hi (λe=>KK (e▸kO hi)),o6]
  have hx:xs=[]:=by
   obtain⟨F,h,_⟩:=u.p2.head
   rw[h3 wj]at h
   rcases h with⟨_,h,_⟩|⟨b',cap,rest,h,_⟩
   .exact h
   .cases h
  subst hx
  refine St.dT ks (St.dT E (St.dT G (St.l4 ?_ (St.join ?_))))
  .funext B
   unfold oX
   by_cases e:B=k
   .subst e;rw[ej rfl,pM KK];rfl
   .rw[ei e,Z B e]
  .rw[<- I];exact u.p2.drop
 | some j=>
  have U:=kq wj
  have hjk:=(kE.1 U).1
  have M:E[j]?=some (E[j]'(bL)):=lU _
  have O:G[j]?=some (G[j]'(bL)):=lU _
  have J:vs[j]?=some (jr s):=by unfold look at h2;rw[wj]at h2;exact h2
  have h6:=((u.p1.focus M O).drop).p2
  have h7:St w0 A (Dn s xs::nJ Dn E G j::_::L) w:=h6.p0
  have h8:=h7.ES bL Df
  refine St.dT ks (St.dT (E.set j s) (St.dT (G.set j xs) (St.l4 ?_ (St.join ?_))))
  .funext B
   unfold oX
   by_cases e:B=k
   .subst e
    rw[ej rfl,qi hn U (x:=xs) (by rw[Eu bL])];rfl
   .rw[ei e,Z B e]
    unfold look
    cases hq:kR ks B with
    | none=>rfl
    | some i=>
     have:j≠i:=λV=>e (by have:=kq hq;rw[<- V,U]at this;exact(ob.inj this).symm)
     simp[this]
  .have e:(E.set j s).map jr=vs:=by
    apply xq
    intro i
    rw[o6]
    by_cases e:j=i
    .subst e;rw[Eu bL,J];rfl
    .rw[IQ e]
     cases hi:ks[i]? with
     | none=>rw[EV]at hi;rw[n0 (show vs.length<=i by omega),n0 (show E.length<=i by omega)];rfl
     | some B=>rw[Y i B hi λV=>e (by rw[V]at hi;have h1:=su hn hi;rw[wj]at h1;exact ob.inj h1)]
   rw[e];exact h8.p1
omit [Flat α]in
theorem UE{f:Int->List α}{k:Int}:oX f k (f k)=f:=by
 grind[oX]
theorem CZ{T Kt E:TypeId}{k:Int}{s s':SV}{xs:List α}{K:hM}(u:St w0 A (bF (jr s') xs::Md b f k s::L) w)(ht:P.underlying T=some (.map Kt E))(M:P.underlying Kt=some (.int .i64))
  (kk:∀w',St w0 A (pq b (oX f k xs)::L) w'->K w'):RB P (xi T (.map (some b)) (ir k) (jr s')) w K:=by
 replace u:=u.p1
 obtain⟨ks,u⟩:=u.dK;obtain⟨G,u⟩:=u.dK;obtain⟨I,u⟩:=u.dK;obtain⟨vs,u⟩:=u.dK;obtain⟨⟨hf,h2,h3,hvs,Yc⟩,u⟩:=u.j4
 replace u:=u.split
 have Y:=u.Mc
 have hl:=Y.len
 have hn:=Y.nodup
 have Df:=u.p1.fG
 obtain⟨w',r1,r2,J⟩:=adL (P:=P) (v:=jr s') (k:=k) Y ht M
 refine⟨w',r1,kk w' ?_⟩
 cases wj:kR ks k with
 | none=>
  rw[wj]at J
  have h5:St w0 A (Ma b (ks++[k]) (vs++[jr s'])::_::_::L) w':=u.qm λF U=>⟨F,⟨J,U.2⟩,λb hb=>.inl hb,r2.mono λk M=>(U.2 k).2 M⟩
  have KK:=mA.1 wj
  have O:vs=G.map jr:=xq λi=>by
   cases hi:ks[i]? with
   | none=>rw[EV]at hi;rw[n0 bL,n0 (by rw[mW];omega)]
   | some B=>rw[Yc i B hi (λe=>KK (e▸kO hi)),o6]
  have h6:=h5.p1
  have Z:St w0 A (fR Dn (G++[s']) (I++[xs])::_::L) w':=St.AN (H:=Dn (α:=α)) (p:=s') (x:=xs) h6.p2.p1
  refine St.dT (ks++[k]) (St.dT (G++[s']) (St.dT (I++[xs]) (St.l4 ?_ (St.join ?_))))
  .funext B
   unfold oX
   by_cases e:B=k
   .subst e
    rw[ej rfl,qi (i:=ks.length) J.nodup ee (x:=xs) (by rw[List.getElem?_append_right bL];simp[show ks.length-I.length=0 from bL])];rfl
   .rw[ei e,hf B e]
    by_cases tA:B∈ks
    .obtain⟨i,hi,hik⟩:=CI tA
     have V:ks[i]?=some B:=by rw[lU hi,hik]
     have W:I[i]?=some (I[i]'(bL)):=lU _
     rw[qi hn V W,qi (i:=i) J.nodup (by rw[uc hi];exact V) (by rw[uc bL];exact W)]
    .rw[pM tA,pM (by simp[tA,e])]
  .have e:(G++[s']).map jr=vs++[jr s']:=by rw[O,vG];rfl
   rw[e];exact Z.p1
 | some j=>
  rw[wj]at J
  have h5:St w0 A (Ma b ks (vs.set j (jr s'))::_::_::L) w':=u.qm λF U=>⟨F,⟨J,U.2⟩,λb hb=>.inl hb,r2.mono λk M=>(U.2 k).2 M⟩
  have hj:=kq wj
  have hjk:=(kE.1 hj).1
  have hsj:G[j]?=some (G[j]'(bL)):=lU _
  have hxj:I[j]?=some (I[j]'(bL)):=lU _
  have h6:=((h5.p1.focus hsj hxj).drop).p2
  have Z:St w0 A (Dn s' xs::nJ Dn G I j::_::L) w':=h6.p0
  have h8:=Z.ES bL Df
  refine St.dT ks (St.dT (G.set j s') (St.dT (I.set j xs) (St.l4 ?_ (St.join ?_))))
  .funext B
   unfold oX
   by_cases e:B=k
   .subst e
    rw[ej rfl,qi hn hj (x:=xs) (by rw[Eu bL])];rfl
   .rw[ei e,hf B e]
    unfold look
    cases hq:kR ks B with
    | none=>rfl
    | some i=>
     have:j≠i:=λe'=>e (by have:=kq hq;rw[<- e',hj]at this;exact(ob.inj this).symm)
     simp[this]
  .have e:(G.set j s').map jr=vs.set j (jr s'):=by
    apply xq
    intro i
    rw[o6]
    by_cases e:j=i
    .subst e;rw[Eu bL,Eu bL];rfl
    .rw[IQ e,IQ e]
     cases hi:ks[i]? with
     | none=>rw[EV]at hi;rw[n0 (show vs.length<=i by omega),n0 (show G.length<=i by omega)];rfl
     | some B=>rw[Yc i B hi λe'=>e (by rw[e']at hi;have h1:=su hn hi;rw[wj]at h1;exact ob.inj h1)]
   rw[e];exact h8.p1
theorem oY{T:TypeId}{K:Value->hM}(u:St w0 A L w)(k:∀b w',St w0 A (pq b (λ_=>([]:List α))::L) w'->K (.map (some b)) w'):qM P (NK T none) w K:=
 Mb u λb w' h=>k b w' (St.dT [] (St.dT [] (St.dT ([]:List (List α)) (St.l4 rfl (St.join ((h.new (Ext.refl w') (H:=fR Dn [] []) (F:=aX) (λ_ h=>h) λ_ h=>h.elim).p1))))))
theorem Me{T Kt E R:TypeId}{k:Int}{A2:Array TypeId}{K:Value->hM}(u:St w0 A (pq b f::L) w)(ha:A2[0]?=some T)(ht:P.underlying T=some (.map Kt E))(U:P.underlying Kt=some (.int .i64))
  (kk:∀v w',St w0 A (pq b (oX f k [])::L) w'->K v w'):qM P (Builtin.delete_ A2 R [.map (some b),ir k].toArray) w K:=by
 obtain⟨ks,u⟩:=u.dK;obtain⟨M,u⟩:=u.dK;obtain⟨O,u⟩:=u.dK;obtain⟨hf,u⟩:=u.j4
 replace u:=u.split
 have W:=u.Mc
 have hl:=W.len
 have Df:=u.p1.fG
 have Z:=W.nodup
 rw[mW]at hl
 obtain⟨w',r1,r2,I⟩:=adM (P:=P) (R:=R) (k:=k) W ha ht U
 refine⟨_,w',r1,kk _ w' ?_⟩
 cases wj:kR ks k with
 | none=>
  rw[wj]at I
  have h5:St w0 A (Ma b ks (M.map jr)::_::L) w':=u.qm λF V=>⟨F,⟨I,V.2⟩,λb hb=>.inl hb,r2.mono λk U=>(V.2 k).2 U⟩
  refine St.dT ks (St.dT M (St.dT O (St.l4 ?_ (St.join h5))))
  funext k'
  unfold oX
  by_cases e:k'=k
  .subst e;rw[ej rfl];unfold look;rw[wj];rfl
  .rw[ei e,hf]
 | some j=>
  rw[wj]at I
  have hj:=kq wj
  have hjk:=(kE.1 hj).1
  have h5:St w0 A (Ma b (ks.eraseIdx j) ((M.map jr).eraseIdx j)::_::L) w':=u.qm λF V=>⟨F,⟨I,V.2⟩,λb hb=>.inl hb,r2.mono λk U=>(V.2 k).2 U⟩
  have hsj:M[j]?=some (M[j]'(bL)):=lU _
  have hxj:O[j]?=some (O[j]'(bL)):=lU _
  have h6:=(h5.p1.focus hsj hxj).drop.Us
  dsimp only at I
  rw[<- ChangeMaps.map_eraseIdx]at h6 I
  refine St.dT (ks.eraseIdx j) (St.dT (M.eraseIdx j) (St.dT (O.eraseIdx j) (St.l4 ?_ (St.join h6.p1))))
  funext k'
  unfold oX
  by_cases e:k'=k
  .subst e
   rw[ej rfl,pM];rfl
   intro KX
   obtain⟨i,hi,B⟩:=CI KX
   rw[List.getElem_eraseIdx]at B
   split at B
   .have:=su (j:=i) Z (k:=k') (by rw[<- B];exact lU _);rw[wj]at this;have:=ob.inj this;omega
   .have:=su (j:=i+1) Z (k:=k') (by rw[<- B];exact lU _);rw[wj]at this;have:=ob.inj this;omega
  .rw[ei e,hf];dsimp only
   by_cases Y:k'∈ks
   .obtain⟨i,hi,B⟩:=CI Y
    have G:ks[i]?=some k':=by rw[lU hi,B]
    have J:O[i]?=some (O[i]'(bL)):=lU _
    have hij:i≠j:=λe'=>e (by rw[e',hj]at G;exact(ob.inj G).symm)
    rw[qi Z G J]
    by_cases nw:i<j
    .rw[qi (i:=i) I.nodup (by rw[Rs nw];exact G) (by rw[Rs nw];exact J)]
    .rw[qi (i:=i-1) I.nodup (by rw[RW bL,show i-1+1=i from bL];exact G) (by rw[RW bL,show i-1+1=i from bL];exact J)]
   .rw[pM Y,pM λh=>Y ((List.eraseIdx_sublist ks j).subset h)]
end
section
variable {α:Type}[Flat α] {P:Program}{w w0 w':World}{A S:Nat->Prop}{L:List HP}{xs ys:List α}
theorem Fh{T T2 E J b o dn dc:Nat}{z:Option Nat}{R:TypeId}{src:Value}{cs:List Value}(ht:eM P T=some (E,nk α,J,z))(hb:pk w b cs)(u:cZ S w src ys)
  (M:ys.length<=dn) (Y:o+ys.length*nk α<=cs.length) :
  ∃w',(Builtin.copy_ #[T,T2] R [.slice (some ⟨b,o,none⟩) dn dc,src].toArray).run P w=.ok (ir ys.length) w'/\pk w' b (iI cs o (flat ys))/\gD (· = b) w w':=by
 obtain⟨O,V,hi,U,zq,_⟩:=ft ht
 have B:=yf (α:=α) (P:=P) (sz:=nk α) rfl u
 have rd:=u
 obtain⟨W,Z,rfl,I,G⟩:=rd
 obtain⟨w',h1,h2,h3⟩:=mR (P:=P) (o:=o) (flat ys) 0 cs w hb (by rw[dI];omega) Au
 refine⟨w',?_,bL,h3⟩
 simp[Builtin.copy_,run_underlying O,sizeOf,typeInfo,hi,Builtin.lenOf,GF M,B,U,h1,goInt]
theorem Mf{T T2 E kW:Nat}{z:Option Nat}{R:TypeId}{v src:Value}{K:Value->hM}(I:St w0 A (bF v xs::L) w)(ht:eM P T=some (E,nk α,kW,z))(G:cZ S w src ys)(B:ys.length<=xs.length)
  (k:∀w',St w0 A (bF v (ys++xs.drop ys.length)::L) w'->K (ir ys.length) w'):qM P (Builtin.copy_ #[T,T2] R [v,src].toArray) w K:=by
 obtain⟨U,F,U',g1,g2,g3,g4,g5⟩:=I.tY
 rcases g1 with⟨rfl,rfl,hF⟩|⟨b,cap,rest,rfl,hb,V,hF⟩
 .obtain rfl:ys=[]:=by simpa using B
  obtain⟨hu,inf,hi,ph,zq,_⟩:=ft ht
  have O:=yf (α:=α) (P:=P) (sz:=nk α) rfl G
  obtain⟨sa,W7,rfl,hsc,hs3⟩:=G
  refine⟨_,w,?_,k w I⟩
  simp at O
  simp[Builtin.copy_,run_underlying hu,sizeOf,typeInfo,hi,Builtin.lenOf,ph,O,goInt]
 have Y:ys.length*nk α<=xs.length*nk α:=Nat.mul_le_mul_right _ B
 obtain⟨w',h1,h2,h3⟩:=Fh (P:=P) (o:=0) (dn:=xs.length) (dc:=cap) (T2:=T2) (R:=R) ht hb G B (by rw[l0,dI];omega)
 refine⟨_,w',h1,k w' (I.qm λF' u=>?_)⟩
 rcases u with⟨h,_⟩|⟨b',Ez,J,M,hb',Z,u⟩
 .cases h
 simp only[Value.slice.injEq,ob.injEq,Addr.mk.injEq,and_true,true_and]at M
 obtain⟨rfl,rfl⟩:=M
 refine⟨F',.inr ⟨b,cap,rest,?_,?_,?_,u⟩,λb hb=>.inl hb,h3.mono λk hk=>(u k).2 hk⟩
 .congr 1;rw[l0,sJ];omega
 .have e:flat xs=[]++flat (xs.take ys.length)++flat (xs.drop ys.length):=by rw[zS,<- ig,qT]
  have:=ly [] (flat (xs.take ys.length)) (flat (xs.drop ys.length)++rest) (flat ys) (by rw[dI,dI,l9,GF B])
  rw[Ld]at this
  rw[e,n4,this]at h2
  rw[ig,n4];exact h2
 have W:(ys++xs.drop ys.length).length=xs.length:=by rw[l0,sJ];omega
 exact⟨by rw[W];exact V.1,by have:=V.2;rw[l0,dI]at this |-;rw[W];exact this⟩
end
section
variable {P:Program}{w w0 w':World}{A:Nat->Prop}{L:List HP}{b r:Nat}
def Fi(r m since:Nat)(seen:Array Nat):HP where
 p w F:=w.heap[r]?=some (.mapIter (some m) since seen since)/\∀k,F k↔k=r
 loc w w' F h hh:=⟨(hh r ((h.2 r).2 rfl)).trans h.1,h.2⟩
 lt w F b' h hb:=cD
theorem HJ{T u E:TypeId}{es:Array MapEntry}{clock:Nat}{K:Value->hM}(B:St w0 A L w)(ht:P.underlying T=some (.map u E))(hb:w.heap[b]?=some (.map es clock))
  (k:∀r w',St w0 A (Fi r b clock #[]::L) w'->K (.pointer (some ⟨r,0,none⟩)) w'):qM P (Instr.range T (.map (some b))) w K:=
 ⟨_,_,run_range_map w T u E b es clock ht hb,k _ _ (B.new (Ext.push w _) (F:=λk=>k=w.heap.size) ⟨mf _ _,λ_=>Iff.rfl⟩ λb hb=>by rw[hb];exact sl _)⟩
theorem Mg{T since:Nat}{seen:Array Nat}{es:Array MapEntry}{K:Value->hM}(u:St w0 A (Fi r b since seen::L) w)(hb:w.heap[b]?=some (.map es since))(hold:∀x∈es.toList,x.born<since)
  (U:(leftOf es seen).size=0->K (.tuple #[.bool false]) w)
  (J:∀e w',e∈(leftOf es seen).toList->St w0 A (Fi r b since (seen.push e.born)::L) w'->K (.tuple #[.bool true,e.key,e.val]) w'):qM P (Instr.next (.pointer (some ⟨r,0,none⟩)) false T) w K:=by
 obtain⟨F,h,_⟩:=u.head
 rcases run_next_at (P:=P) w T r b since since seen es since h.1 hb hold (sl _)with⟨h1,h2⟩|⟨e,I,E,O,h2⟩
 .exact⟨_,w,h2,U h1⟩
 have G:St w0 A (Fi r b since seen::L) E:=by
  rcases O with rfl|rfl
  .exact u
  .exact u.ext ⟨rfl,rfl,rfl,sl _,λ_ _ _=>rfl⟩
 refine⟨_,_,h2,J e _ I (G.qm λF B=>⟨F,⟨jw _ (rL B.1),B.2⟩,λb hb=>.inl hb,(gD.setBlock E r _).mono λk M=>(B.2 k).2 M⟩)⟩
theorem HK{since:Nat}{seen:Array Nat}{es:Array MapEntry}{e:MapEntry}{K:Value->Prop}(u:St w0 A (Fi r b since (seen.push e.born)::L) w)(hb:w.heap[b]?=some (.map es since))(E:e∈es.toList)(B:(es.toList.map (·.born)).Nodup)
  (k:K (.tuple #[e.key,e.val])):GL P (Instr.entry (.pointer (some ⟨r,0,none⟩))) w K:=by
 obtain⟨F,h,_⟩:=u.head
 exact⟨_,run_entry_at w r b since seen es since e h.1 hb E B,k⟩
theorem tL.es{α:Type}[Flat α]{f:Int->List α}(h:tL w b f):∃es clock,w.heap[b]?=some (.map es clock)/\Stamped es clock/\(∀e∈es.toList,∃k,∃s:SV,e.key=ir k/\e.val=jr s/\cZ (λ_=>True) w (jr s) (f k))/\∀k,(∀e∈es.toList,e.key≠ir k)->f k=[]:=by
 obtain⟨ks,u,⟨es,clock,h1,h2,h3,h4⟩,h5,h6⟩:=h
 have G:es.toList.length=ks.length:=by have:=gL List.length h3;grind
 have E:es.toList.length=u.length:=by have:=gL List.length h4;grind
 refine⟨es,clock,h1,h2,λe B=>?_,λk J=>h6 k λI=>?_⟩
 .obtain⟨i,hi,rfl⟩:=CI B
  refine⟨ks[i]'(bL),u[i]'(bL),?_,?_,h5 i _ _ (lU _) (lU _)⟩
  .have:=gL (·[i]?) h3
   grind
  have:=gL (·[i]?) h4
  grind
 have:n3 .i64 k∈es.toList.map (·.key):=cD
 grind
theorem uS{o:Obj}(h:w.heap[b]?=some o)(e:Ext w w'):w'.heap[b]?=some o:=(e.bX b (rL h) λh=>h).trans h
theorem sw{seen:Array Nat}{x y:Nat}(h:(seen.push x).contains y=true):seen.contains y=true\/y=x:=by
 grind
theorem born_inj{es:Array MapEntry}(B:(es.toList.map (·.born)).Nodup){e u:MapEntry}(h:e∈es.toList)(E:u∈es.toList)(hb:e.born=u.born):e=u:=by
 obtain⟨i,hi,rfl⟩:=CI h
 obtain⟨j,G,rfl⟩:=CI E
 have:=(abr (i:=i) (j:=j) (h₀:=by grind) (h₁:=by grind) B).1 cD
 grind
end
section
variable {P:Program}{w w0 w':World}{A:Nat->Prop}{L:List HP}{b r:Nat}
def Mh(P:Program)(n T E:Nat):Prop:=P.underlying T=some (.array n E)/\P.underlying E=some (.int .i64)/\pr P (sizeOf E)=some 1
abbrev A1(xs:List Int):Value:=.agg (xs.map (n3 .i64)).toArray
theorem Mi{β:Type}{f:Nat->β->Sem (ForInStep β)}{g:Nat->Bool}{u stop:β}:∀l:List Nat,(∀i∈l,pr P (f i u)=some (if g i=true then .yield u else .done stop))->pr P (forIn l u f)=some (if l.all g=true then u else stop)
 | [],_=>by simp[eS]
 | i::l,h=>by
  rw[XW,cI,h i ee]
  by_cases B:g i=true
  .rw[ej B]
   simp only[mv]
   rw[Mi l λj E=>h j (by simp[E])]
   simp[B]
  .rw[ei B]
   simp[B,eS]
theorem zK{E:TypeId}{xs:List Int}{i:Nat}(u:P.underlying E=some (.int .i64))(hi:i<xs.length):pr P (part E (xs.map (n3 .i64)).toArray i)=some (ir xs[i]):=
 Jf (n:=0) u rfl (by simp[hi])
theorem adO{n T E:Nat}{xs ys:List Int}(h:Mh P n T E)(O:xs.length=n)(U:ys.length=n):pr P (Op.equal T (A1 xs) (A1 ys))=some (decide (xs=ys)):=by
 obtain⟨ht,B,J⟩:=h
 have e:∀x y:Int,pr P (Op.equalIn 9999 E (ir x) (ir y))=some (decide (x=y)):=λx y=>by
  rw[CT (k:=9998) (n:=0) B rfl rfl rfl];rfl
 show pr P (Op.equalIn (9999+1) T _ _)=_
 unfold Op.equalIn
 rw[cI,cJ ht]
 simp only[mv,cI,J]
 simp only[Std.Legacy.Range.forIn_eq_forIn_range',Std.Legacy.Range.size,aaW,Ts,ab7,Z0]
 rw[Mi (g:=λi=>decide (xs[i]?=ys[i]?)) (stop:=⟨some false,PUnit.unit⟩)]
 .by_cases u:xs=ys
  .subst u
   simp[eS]
  have:(ab8 0 n).all (λi=>decide (xs[i]?=ys[i]?))=false:=by
   rw[List.all_eq_false]
   apply g7
   intro hc
   apply u
   apply xq
   intro i
   apply g7
   intro I
   by_cases hi:i<n
   .exact hc ⟨i,by simp[Yk];omega,by simpa using I⟩
   .exact I (by rw[n0 bL,n0 bL])
  simp[this,u,eS]
 intro i hi
 have M:i<n:=by simp[Yk]at hi;omega
 simp only[cI,zK B (show i<xs.length by omega),zK B (show i<ys.length by omega),mv,e]
 rw[lU (show i<xs.length by omega),lU (show i<ys.length by omega)]
 by_cases G:xs[i]'(bL)=ys[i]'(bL)
 .simp[G,eS]
 simp[G,eS]
def Pp(b n:Nat)(ks:List (List Int)):HP where
 p w F:=(∃es clock,w.heap[b]?=some (.map es clock)/\es.toList.map (·.key)=ks.map A1/\(∀e∈es.toList,e.val=.bool true)/\∀k∈ks,k.length=n)/\∀k,F k↔k=b
 loc w w' F h hh:=by
  grind
 lt w F b' h hb:=cD
theorem Mj{T n:TypeId}{K:Value->hM}(u:St w0 A L w)(k:∀b w',St w0 A (Pp b n []::L) w'->K (.map (some b)) w'):qM P (NK T none) w K:=
 ⟨_,_,rfl,k _ _ (u.new (Ext.push w (.map #[] 0)) (F:=λk=>k=w.heap.size) ⟨⟨#[],0,mf _ _,rfl,ee,ee⟩,λ_=>Iff.rfl⟩ λb hb=>by rw[hb];exact sl _)⟩
theorem Yd{T E n:Nat}{x:List Int}(h:Mh P n T E)(I:x.length=n):∀(es:List MapEntry) (ks:List (List Int)) (i:Nat),es.map (·.key)=ks.map A1->(∀k∈ks,k.length=n)->(∀e∈es,e.val=.bool true)->
  (x ∉ ks/\pr P (XB T (A1 x) es i)=some none)\/(x∈ks/\∃j,pr P (XB T (A1 x) es i)=some (some (j,.bool true)))
 | [],ks,i,u,_,_=>by
  have:ks=[]:=by simp_all
  subst this
  exact .inl ⟨ee,rfl⟩
 | e::es,[],i,u,_,_=>by simp at u
 | e::es,k::ks,i,u,hl,hv=>by
  simp only[Ix,abo.injEq]at u
  have B:pr P (Op.equal T (A1 x) e.key)=some (decide (x=k)):=by rw[u.1];exact adO h I (hl k ee)
  unfold XB
  rw[cI,B]
  simp only[mv]
  by_cases G:x=k
  .subst G
   refine .inr ⟨ee,i,?_⟩
   simp[eS,hv e ee]
  .rcases Yd h I es ks (i+1) u.2 (λk u=>hl k (by simp[u])) (λe B=>hv e (by simp[B]))with⟨h1,h2⟩|⟨h1,j,h2⟩
   .grind
   grind
theorem Mk{E:TypeId}{x:Int}{em:Bool}(u:P.underlying E=some (.int .i64)):pr P (OA em 9999 E (ir x))=some ():=by
 show pr P (OA em (9998+1) E _)=_
 unfold OA
 rw[cI,cJ u];rfl
theorem Fj{f:Nat->PUnit->Sem (ForInStep PUnit)}:∀l:List Nat,(∀i∈l,pr P (f i ⟨⟩)=some (.yield ⟨⟩))->pr P (forIn l PUnit.unit f)=some ⟨⟩
 | [],_=>by simp[eS]
 | i::l,h=>by
  rw[XW,cI,h i ee]
  simp only[mv]
  exact Fj l λj u=>h j (by simp[u])
theorem C0{T E n:Nat}{x:List Int}{em:Bool}(h:Mh P n T E)(I:x.length=n):pr P (OA em 10000 T (A1 x))=some ():=by
 obtain⟨ht,B,u⟩:=h
 show pr P (OA em (9999+1) T _)=_
 unfold OA
 rw[cI,cJ ht]
 simp only[mv,cI,u]
 simp only[Std.Legacy.Range.forIn_eq_forIn_range',Std.Legacy.Range.size,aaW,Ts,ab7,Z0]
 rw[Fj]
 .rfl
 intro i hi
 have G:i<n:=by simp[Yk]at hi;omega
 simp only[cI,u,mv,Z0,zK B (show i<x.length by omega),Mk B,eS]
theorem Sy{T E n:Nat}{x:List Int}{es:List MapEntry}{ks:List (List Int)}(h:Mh P n T E)(I:x.length=n)(G:es.map (·.key)=ks.map A1)(u:∀k∈ks,k.length=n)(B:∀e∈es,e.val=.bool true) :
  (x ∉ ks/\pr P (N9 T (A1 x) es)=some none)\/(x∈ks/\∃j,pr P (N9 T (A1 x) es)=some (some (j,.bool true))):=by
 unfold N9
 rw[cI,cJ h.1]
 simp only[mv]
 cases es with
 | nil=>
  have:ks=[]:=by simp_all
  subst this
  exact .inl ⟨ee,rfl⟩
 | cons e es=>exact Yd h I (e::es) ks 0 G u B
theorem adP{T O E B n:Nat}{x:List Int}{ks:List (List Int)}{K:Value->Prop}(U:St w0 A (Pp b n ks::L) w)(ht:P.underlying T=some (.map O B))(h:Mh P n O E)(u:m4 P B (.bool false))(M:x.length=n)
  (k:K (.bool (decide (x∈ks)))):GL P (wo T (.map (some b)) (A1 x) false) w K:=by
 obtain⟨F,⟨⟨es,c,h1,h2,h3,h4⟩,h5⟩,_⟩:=U.head
 refine⟨_,?_,k⟩
 have J:(zeroValue B).run P w=.ok (.bool false) w:=by
  unfold m4 eg at u
  cases hi:P.info? B with
  | none=>rw[hi]at u;cases u
  | some i=>
   rw[hi]at u
   simp only[FK,ob.injEq]at u
   refine fa ?_ w
   unfold zeroValue;rw[cI,kZ hi];simp only[mv,u];rfl
 have hc:=fa (C0 (em:=es.isEmpty) h M) w
 rcases Sy h M h2 h4 h3 with⟨h6,G⟩|⟨h6,j,G⟩
 .have I:=fa G w
  simp[wo,run_underlying ht,MapKept.run_getObj_map h1,hc,I,J,Result.andThen,h6]
 have I:=fa G w
 simp[wo,run_underlying ht,MapKept.run_getObj_map h1,hc,I,Result.andThen,h6]
theorem adQ{T O E U n:Nat}{x:List Int}{ks:List (List Int)}{K:hM}(J:St w0 A (Pp b n ks::L) w)(ht:P.underlying T=some (.map O U))(h:Mh P n O E)(G:x.length=n)(Y:x ∉ ks)
  (k:∀w',St w0 A (Pp b n (ks++[x])::L) w'->K w'):RB P (xi T (.map (some b)) (A1 x) (.bool true)) w K:=by
 obtain⟨F,⟨⟨es,c,h1,h2,h3,h4⟩,h5⟩,_⟩:=J.head
 have hc:=fa (C0 (em:=false) h G) w
 rcases Sy h G h2 h4 h3 with⟨h6,I⟩|⟨h6,j,I⟩
 .have V:=fa I w
  refine⟨setBlock w b (.map (es.push ⟨A1 x,.bool true,c⟩) (c+1)),?_,k _ (J.qm λZ M=>⟨Z,⟨⟨_,_,jw _ (rL h1),by simp[h2],?_,?_⟩,M.2⟩,λb hb=>.inl hb,(gD.setBlock w b _).mono λk W=>(M.2 k).2 W⟩)⟩
  .simp[xi,run_underlying ht,MapKept.run_getObj_map h1,hc,V,mB h1,Result.andThen]
  .intro e u;simp at u;rcases u with u|rfl
   .exact h3 e (by simpa using u)
   rfl
  intro q B;simp at B;rcases B with B|rfl
  .exact h4 q B
  exact G
 exact absurd h6 Y
theorem aY{f:FuncId}{args:List Value}{H:HP}{H':Value->HP}{Φ:Value->hM}{K:Value->hM}(pl:Plain P f)(B:St w0 A (H::L) w)
  (hc:∀F,H.p w F->(∀w',gD F w w'->St w0 A L w')->Calls P f args.toArray w (tu λv w'=>Φ v w'/\mT F (H' v) w w')) (k:∀v w',Φ v w'->St w0 A (H' v::L) w'->K v w'):CM P f args w K:=by
 obtain⟨U,F,J,h1,h2,h3,h4,h5⟩:=B.tY
 refine dR pl (hc F h1 λw' E=>⟨B.aF.trans E (λ_ h=>h) λb hb u=>(h2 b u).elim id λM=>bL,J,h5.loc λb hb=>E.bX b (h5.lt b hb) λu=>h3 b u hb⟩) λv w' ⟨G,I⟩=>k v w' G (B.Xq h2 h3 h5 I)
theorem Fk{g:FuncId}{args first cap:List Value}{H:HP}{H':Value->HP}{Φ:Value->hM}{K:Value->hM}(pl:Plain P g)(B:St w0 A (H::L) w)
  (hc:∀F,H.p w F->(∀w',gD F w w'->St w0 A L w')->Calls P g (first++args++cap).toArray w (tu λv w'=>Φ v w'/\mT F (H' v) w w')) (k:∀v w',Φ v w'->St w0 A (H' v::L) w'->K v w'):kG P (.func (.func g) first.toArray cap.toArray) args w K:=by
 obtain⟨U,F,J,h1,h2,h3,h4,h5⟩:=B.tY
 refine gS pl (hc F h1 λw' E=>⟨B.aF.trans E (λ_ h=>h) λb hb u=>(h2 b u).elim id λM=>bL,J,h5.loc λb hb=>E.bX b (h5.lt b hb) λu=>h3 b u hb⟩) λv w' ⟨G,I⟩=>k v w' G (B.Xq h2 h3 h5 I)
theorem UF{T E n:Nat}{K:Value->Prop}(h:Mh P n T E)(k:K (.slice (some ⟨b,0,none⟩) n n)):eK P (oa T (.pointer (some ⟨b,0,none⟩)) none none none) K:=by
 refine⟨_,?_,k⟩
 unfold oa
 rw[cI,cJ h.1]
 simp only[mv,Instr.sureAddr,cI,eS,wN,h.2.2]
 simp[gi]
theorem ajf{xs:List Int}{n:Nat}(h:xs.length<=n):iI (oz n (n3 .i64 0)) 0 (flat xs)=(xs++oz (n-xs.length) 0).map (n3 .i64):=by
 have u:flat xs=xs.map (n3 .i64):=by
  induction xs with
  | nil=>rfl
  | cons x xs E=>rw[jV,E (by simp at h;omega)];rfl
 have B:(flat xs).length=xs.length:=by rw[u,mW]
 have:=ly [] (oz xs.length (n3 .i64 0)) (oz (n-xs.length) (n3 .i64 0)) (flat xs) (by rw[yz,B])
 rw[zS,zS,List.replicate_append_replicate,show xs.length+(n-xs.length)=n from bL,Ld]at this
 rw[this,u,vG,List.map_replicate]
theorem Ml{T T2 E J n dc:Nat}{z:Option Nat}{R:TypeId}{src:Value}{cs:List Value}{ys:List Int}{S:Nat->Prop}{K:Value->hM}(u:St w0 A (bX b cs::L) w)(ht:eM P T=some (E,nk Int,J,z))(G:cZ S w src ys)(M:ys.length<=n)(O:ys.length<=cs.length)
  (k:∀w',St w0 A (bX b (iI cs 0 (flat ys))::L) w'->K (ir ys.length) w'):qM P (Builtin.copy_ #[T,T2] R [.slice (some ⟨b,0,none⟩) n dc,src].toArray) w K:=by
 obtain⟨w',h1,h2,h3⟩:=Fh (P:=P) (o:=0) (dn:=n) (dc:=dc) (T2:=T2) (R:=R) ht u.hb G M (by change 0+ys.length*1<=_;omega)
 exact⟨_,w',h1,k w' (u.qm λF B=>⟨F,⟨h2,B.2⟩,λb hb=>.inl hb,h3.mono λk I=>(B.2 k).2 I⟩)⟩
end
def Has(H:HP)(w:World):Prop:=∃F,H.p w F
def St.has{w w0:World}{A:Nat->Prop}{L:List HP}{H:HP}(u:St w0 A (H::L) w):Has H w:=by obtain⟨F,h,_⟩:=u.head;exact⟨F,h⟩
theorem Has.ext{H:HP}{w w':World}(h:Has H w)(e:Ext w w'):Has H w':=by
 obtain⟨F,h⟩:=h;exact⟨F,H.loc _ _ _ h λb hb=>e.bX b (H.lt _ _ _ h hb) λx=>x⟩
def Has.st{H:HP}{w:World}(h:Has H w):∃F,St w F [H] w:=by obtain⟨F,h⟩:=h;exact⟨F,St.begin h⟩
abbrev SI:=ByteArray×Int
def Sz(p:SI):Value×Value:=(.string p.1,ir p.2)
def uT(w:World)(b:Nat)(l:List SI):Prop:=
 ∃es clock,w.heap[b]?=some (.map es clock)/\Stamped es clock/\(es.toList.map λe=>(e.key,e.val)).Perm (l.map Sz)
def eB:List SI->ByteArray->Int
 | [],_=>0
 | p::r,k=>if p.1=k then p.2 else eB r k
theorem uU:∀{l:List SI}{p:SI},(l.map (·.1)).Nodup->p∈l->eB l p.1=p.2
 | q::r,p,hn,hm=>by
  rw[Ix,Li]at hn
  rcases s4.1 hm with rfl|hm
  .unfold eB;grind
  .have:q.1≠p.1:=λe=>hn.1 (o1.2 ⟨p,hm,e.symm⟩)
   unfold eB;rw[ei this];exact uU hn.2 hm
theorem zL:∀{l:List SI}{k:ByteArray},(∀p∈l,p.1≠k)->eB l k=0
 | [],_,_=>rfl
 | q::r,k,h=>by
  unfold eB;rw[ei (h q (List.mem_cons_self ..))];exact zL λp u=>h p (List.mem_cons_of_mem _ u)
def Pq{l:List SI}{k:ByteArray}(E:(l.map (·.1)).Nodup)(B:∀p∈l,p.2≠0)(h:eB l k=0):∀p∈l,p.1≠k:=λp u e=>by
 subst e;exact B p u ((uU E u).symm.trans h)
section
variable {P:Program}{w w0 w':World}{A:Nat->Prop}{L:List HP}{b:Nat}{l:List SI}
theorem uT.of_eq(h:uT w b l)(u:w'.heap[b]?=w.heap[b]?):uT w' b l:=by
 grind[uT]
theorem uT.lt(h:uT w b l):b<w.heap.size:=by obtain⟨es,c,h1,_⟩:=h;grind
theorem uT.nodup(h:uT w b l):(l.map (·.1)).Nodup:=by
 obtain⟨es,c,_,h2,h3⟩:=h
 have h4:=(h3.map Prod.fst)
 rw[Jz,Jz]at h4
 have h5:(l.map λp=>IF p.1).Nodup:=h4.nodup_iff.1 h2.2.2
 grind
theorem uT.perm{u:List SI}(h:uT w b l)(B:l.Perm u):uT w b u:=by
 obtain⟨es,c,h1,h2,h3⟩:=h;exact⟨es,c,h1,h2,h3.trans (B.map _)⟩
def nj(b:Nat)(l:List SI):HP where
 p w F:=uT w b l/\∀k,F k↔k=b
 loc w w' F h hh:=⟨h.1.of_eq (hh b ((h.2 b).2 rfl)),h.2⟩
 lt w F b' h hb:=by rw[(h.2 b').1 hb];exact h.1.lt
theorem Ye{es:Array MapEntry}(h3:(es.toList.map λe=>(e.key,e.val)).Perm (l.map Sz)){e:MapEntry}(B:e∈es.toList):∃p∈l,e.key=.string p.1/\e.val=ir p.2:=by
 have:(e.key,e.val)∈l.map Sz:=h3.mem_iff.1 (o1.2 ⟨e,B,rfl⟩)
 obtain⟨p,E,u⟩:=o1.1 this
 unfold Sz at u
 grind
theorem Yf{es:Array MapEntry}(h3:(es.toList.map λe=>(e.key,e.val)).Perm (l.map Sz)){p:SI}(u:p∈l):∃e∈es.toList,e.key=.string p.1/\e.val=ir p.2:=by
 have:Sz p∈es.toList.map λe=>(e.key,e.val):=h3.mem_iff.2 (o1.2 ⟨p,u,rfl⟩)
 obtain⟨e,E,B⟩:=o1.1 this
 unfold Sz at B
 grind
theorem HL{T:TypeId}{k:ByteArray}{es:Array MapEntry}(E:P.underlying T=some .string)(h3:(es.toList.map λe=>(e.key,e.val)).Perm (l.map Sz)) :
  ((∀p∈l,p.1≠k)/\(N9 T (.string k) es.toList).run P w=.ok none w)\/∃j p,p∈l/\p.1=k/\(N9 T (.string k) es.toList).run P w=.ok (some (j,ir p.2)) w:=by
 rcases MapKept.findNow_spec (d:=.string) (k:=.string k) (by simp[IsKey]) es.toList 0 (λx G=>by obtain⟨p,_,e,_⟩:=Ye h3 G;rw[e];simp[IsKey])with⟨h1,h2⟩|⟨j,e,h1,h2,h4⟩
 .refine .inl ⟨λp B e=>?_,MapKept.run_findKey E h1⟩
  obtain⟨x,G,u,_⟩:=Yf h3 B
  grind
 obtain⟨p,B,u,I⟩:=Ye h3 (kO h2)
 rw[h4]at u;injection u with u
 refine .inr ⟨j,p,B,u.symm,?_⟩
 rw[xp,I]at h1
 exact MapKept.run_findKey E h1
theorem Mm{T G E:TypeId}{k:ByteArray}(h:uT w b l)(ht:P.underlying T=some (.map G E))(I:P.underlying G=some .string)(u:m4 P E (ir 0)) :
  (wo T (.map (some b)) (.string k) false).run P w=.ok (ir (eB l k)) w:=by
 have M:=h.nodup
 obtain⟨es,c,h1,h2,h3⟩:=h
 have B:(zeroValue E).run P w=.ok (ir 0) w:=by
  unfold m4 eg at u
  cases hi:P.info? E with
  | none=>grind
  | some i=>
   rw[hi]at u
   simp only[FK,ob.injEq]at u
   refine fa ?_ w
   unfold zeroValue;rw[cI,kZ hi];simp only[mv,u];rfl
 have hc:=MapKept.run_checkKey (P:=P) (w:=w) (kt:=G) (k:=.string k) I (by simp[IsKey]) es.isEmpty 9999
 rcases HL (w:=w) (k:=k) I h3 with⟨h5,h6⟩|⟨j,p,h5,h6,J⟩
 .simp[wo,run_underlying ht,MapKept.run_getObj_map h1,hc,h6,B,Result.andThen,zL h5]
 subst h6
 simp[wo,run_underlying ht,MapKept.run_getObj_map h1,hc,J,Result.andThen,uU M h5]
theorem Mn{T u E:TypeId}{v:Int}{k:ByteArray}(h:uT w b l)(ht:P.underlying T=some (.map u E))(B:P.underlying u=some .string)(J:∀p∈l,p.1≠k) :
  ∃w',(xi T (.map (some b)) (.string k) (ir v)).run P w=.ok () w'/\gD (· = b) w w'/\uT w' b (l++[(k,v)]):=by
 have I:=h.lt
 obtain⟨es,c,h1,h2,h3⟩:=h
 have hc:=MapKept.run_checkKey (P:=P) (w:=w) (kt:=u) (k:=.string k) B (by simp[IsKey]) false 9999
 rcases HL (w:=w) (k:=k) B h3 with⟨h5,h6⟩|⟨j,p,h5,h6,O⟩
 .refine⟨_,?_,gD.setBlock w b (.map (es.push ⟨.string k,ir v,c⟩) (c+1)),?_⟩
  .simp[xi,run_underlying ht,MapKept.run_getObj_map h1,hc,h6,mB h1,Result.andThen]
  refine⟨_,_,jw _ I,MapKept.stamped_push h2 λx G e=>?_,?_⟩
  .obtain⟨p,U,M,_⟩:=Ye h3 G
   grind
  rw[aaX,vG,vG]
  exact h3.append (List.Perm.refl _)
 grind
theorem Mp{T:TypeId}{K:Value->hM}(u:St w0 A L w)(k:∀b w',St w0 A (nj b []::L) w'->K (.map (some b)) w'):qM P (NK T none) w K:=
 ⟨_,_,rfl,k _ _ (u.new (Ext.push w (.map #[] 0)) (F:=λk=>k=w.heap.size) ⟨⟨#[],0,mf _ _,⟨ee,ee,ee⟩,ee⟩,λ_=>Iff.rfl⟩ λb hb=>by rw[hb];exact sl _)⟩
theorem St.nj(u:St w0 A (nj b l::L) w):uT w b l:=by obtain⟨F,h,_⟩:=u.head;exact h.1
theorem yo{T u E:TypeId}{k:ByteArray}{K:Value->Prop}(h:uT w b l)(ht:P.underlying T=some (.map u E))(G:P.underlying u=some .string)(I:m4 P E (ir 0))(B:K (ir (eB l k))):GL P (wo T (.map (some b)) (.string k) false) w K:=
 ⟨_,Mm h ht G I,B⟩
theorem Mq{T I E:TypeId}{v:Int}{k:ByteArray}{K:hM}(B:St w0 A (Fw.nj b l::L) w)(ht:P.underlying T=some (.map I E))(u:P.underlying I=some .string)(J:∀p∈l,p.1≠k)
  (M:∀w',St w0 A (Fw.nj b (l++[(k,v)])::L) w'->K w'):RB P (xi T (.map (some b)) (.string k) (ir v)) w K:=by
 obtain⟨w',h1,h2,h3⟩:=Mn (P:=P) (v:=v) (k:=k) B.nj ht u J
 exact⟨w',h1,M w' (B.qm λF G=>⟨F,⟨h3,G.2⟩,λb hb=>.inl hb,h2.mono λk u=>(G.2 k).2 u⟩)⟩
theorem key_inj{es:Array MapEntry}(B:(es.toList.map (·.key)).Nodup){e u:MapEntry}(h:e∈es.toList)(E:u∈es.toList)(hb:e.key=u.key):e=u:=by
 obtain⟨i,hi,rfl⟩:=CI h
 obtain⟨j,G,rfl⟩:=CI E
 have:=(abr (i:=i) (j:=j) (h₀:=by grind) (h₁:=by grind) B).1 cD
 grind
theorem Yg{l:List SI}(u:(l.map (·.1)).Nodup){p q:SI}(B:p∈l)(E:q∈l)(h:p.1=q.1):p=q:=by
 have h1:=uU u B
 have h2:=uU u E
 grind
end
open Go.MapKept (IsKey)
section
variable {P:Program}{w w':World}{b:Nat}{l:List ByteArray}
def JA(w:World)(b:Nat)(l:List ByteArray):Prop:=
 ∃es clock,w.heap[b]?=some (.map es clock)/\(es.toList.map λe=>(e.key,e.val))=l.map λs=>(IF s,x6 true)
theorem Mr{T M E:TypeId}{k:ByteArray}(h:JA w b l)(ht:P.underlying T=some (.map M E))(I:P.underlying M=some .string)(B:m4 P E (.bool false)) :
  (wo T (.map (some b)) (.string k) false).run P w=.ok (.bool (l.any λy=>decide (y=k))) w:=by
 obtain⟨es,c,h1,h2⟩:=h
 have J:(zeroValue E).run P w=.ok (.bool false) w:=by
  unfold m4 eg at B
  cases hi:P.info? E with
  | none=>grind
  | some i=>
   rw[hi]at B
   simp only[FK,ob.injEq]at B
   refine fa ?_ w
   unfold zeroValue;rw[cI,kZ hi];simp only[mv,B];rfl
 have hc:=MapKept.run_checkKey (P:=P) (w:=w) (kt:=M) (k:=.string k) I (by simp[IsKey]) es.isEmpty 9999
 have mem:∀e∈es.toList,∃s∈l,e.key=.string s/\e.val=.bool true:=λe O=>by
  have:(e.key,e.val)∈l.map λs=>(IF s,x6 true):=cD
  grind
 rcases MapKept.findNow_spec (d:=.string) (k:=.string k) (by simp[IsKey]) es.toList 0 (λx U=>by obtain⟨p,_,e,_⟩:=mem x U;rw[e];simp[IsKey])with⟨h3,h4⟩|⟨j,e,h3,h4,h5⟩
 .have:(l.any λy=>decide (y=k))=false:=by
   rw[CP]
   intro s G
   have:(IF s,x6 true)∈es.toList.map λe=>(e.key,e.val):=by rw[h2];exact o1.2 ⟨s,G,rfl⟩
   obtain⟨e,O,u⟩:=o1.1 this
   simp only[Prod.mk.injEq]at u
   intro h
   exact h4 e O (by rw[u.1,gM h])
  rw[this]
  simp[wo,run_underlying ht,MapKept.run_getObj_map h1,hc,MapKept.run_findKey I h3,J,Result.andThen]
 obtain⟨s,G,u,V⟩:=mem e (kO h4)
 rw[h5]at u;injection u with u
 have:(l.any λy=>decide (y=k))=true:=xy.2 ⟨s,G,ew u.symm⟩
 rw[this]
 rw[xp,V]at h3
 simp[wo,run_underlying ht,MapKept.run_getObj_map h1,hc,MapKept.run_findKey I h3,Result.andThen]
theorem Ms{T u E:TypeId}{k:ByteArray}{K:Value->Prop}(h:JA w b l)(ht:P.underlying T=some (.map u E))(G:P.underlying u=some .string)(I:m4 P E (.bool false))(B:K (.bool (l.any λy=>decide (y=k)))):GL P (wo T (.map (some b)) (.string k) false) w K:=
 ⟨_,Mr h ht G I,B⟩
end
section
variable {P:Program}{w w0 w':World}{A:Nat->Prop}{L:List HP}{b:Nat}{l:List ByteArray}
theorem JA.lt(h:JA w b l):b<w.heap.size:=by obtain⟨es,c,h1,_⟩:=h;grind
def Pr(b:Nat)(l:List ByteArray):HP where
 p w F:=JA w b l/\∀k,F k↔k=b
 loc w w' F h hh:=⟨by grind[JA],h.2⟩
 lt w F b' h hb:=by rw[(h.2 b').1 hb];exact h.1.lt
theorem Yh{T:TypeId}{K:Value->hM}(u:St w0 A L w)(k:∀b w',St w0 A (Pr b []::L) w'->K (.map (some b)) w'):qM P (NK T none) w K:=
 ⟨_,_,rfl,k _ _ (u.new (Ext.push w (.map #[] 0)) (F:=λk=>k=w.heap.size) ⟨⟨#[],0,mf _ _,rfl⟩,λ_=>Iff.rfl⟩ λb hb=>by rw[hb];exact sl _)⟩
theorem Yi{T J E:TypeId}{k:ByteArray}{K:hM}(B:St w0 A (Pr b l::L) w)(ht:P.underlying T=some (.map J E))(G:P.underlying J=some .string)(O:∀s∈l,s≠k)
  (U:∀w',St w0 A (Pr b (l++[k])::L) w'->K w'):RB P (xi T (.map (some b)) (.string k) (.bool true)) w K:=by
 have I:∃w',(xi T (.map (some b)) (.string k) (.bool true)).run P w=.ok () w'/\gD (· = b) w w'/\JA w' b (l++[k]):=by
  obtain⟨F,h,_⟩:=B.head
  have Y:=h.1.lt
  obtain⟨es,c,h1,h2⟩:=h.1
  have mem:∀e∈es.toList,∃s∈l,e.key=.string s:=λe V=>by
   have:(e.key,e.val)∈l.map λs=>(IF s,x6 true):=by rw[<- h2];exact o1.2 ⟨e,V,rfl⟩
   obtain⟨s,B,u⟩:=o1.1 this
   simp only[Prod.mk.injEq]at u
   exact⟨s,B,u.1.symm⟩
  have hc:=MapKept.run_checkKey (P:=P) (w:=w) (kt:=J) (k:=.string k) G (by simp[IsKey]) false 9999
  rcases MapKept.findNow_spec (d:=.string) (k:=.string k) (by simp[IsKey]) es.toList 0 (λx W=>by obtain⟨p,_,e⟩:=mem x W;rw[e];simp[IsKey])with⟨h3,h4⟩|⟨j,e,h3,h4,h5⟩
  .have h6:=MapKept.run_findKey (P:=P) (w:=w) G h3
   refine⟨_,?_,gD.setBlock w b (.map (es.push ⟨.string k,.bool true,c⟩) (c+1)),_,_,jw _ Y,?_⟩
   .simp[xi,run_underlying ht,MapKept.run_getObj_map h1,hc,h6,mB h1,Result.andThen]
   .rw[aaX,vG,vG,h2];rfl
  .obtain⟨s,B,u⟩:=mem e (kO h4)
   rw[h5]at u;injection u with u
   exact absurd u.symm (O s B)
 obtain⟨w',h1,h2,h3⟩:=I
 exact⟨w',h1,U w' (B.qm λF M=>⟨F,⟨h3,M.2⟩,λb hb=>.inl hb,h2.mono λk G=>(M.2 k).2 G⟩)⟩
theorem St.Pr(u:St w0 A (Fw.Pr b l::L) w):JA w b l:=by obtain⟨F,h,_⟩:=u.head;exact h.1
theorem Mt{f : FuncId}{u : Func}{e : Array Value -> Sem Value}{args : List Value}{v : Value}{K : Value -> World -> Prop}(E : P.funcs[f]?=some u)(hb : (u.name == "runtime.NumGoroutine")=false /\ u.body.isNone=true /\ Extern.findNext u=none)(G : Extern.find u=some e)
  (B:pr P (e args.toArray)=some v) (k:K v w):CM P f args w K:=by
 refine⟨.inr ⟨v,w,?_,k⟩⟩
 show(match P.funcs[f]? with|none=>_|some u=>_:Sem Next).run P w=_
 rw[E]
 simp only[hb.1,hb.2.1,hb.2.2,G]
 have:=fa B w
 simp_all
theorem Ps{T:Nat}{s:ByteArray}{i:Int}{K:Value->Prop}(u:P.underlying T=some .string)(B:0<=i)(h1:i<=s.size)(k:K (.string (s.extract i.toNat s.size))):eK P (oa T (.string s) (some (ir i)) none none) K:=by
 refine⟨_,?_,k⟩
 unfold oa
 rw[cI,cJ u]
 simp only[mv]
 unfold Instr.slice
 rw[cI,cJ u]
 simp only[mv]
 rw[ei dy]
 have hb:pr P (wN false s.size s.size (some (ir i)) none none)=some (i.toNat,s.size,s.size):=by
  simp only[wN,cI,eS,mv]
  rw[jh B bL];rfl
 rw[cI,hb];rfl
theorem JB(s:ByteArray)(i j:Nat):iO (s.extract i j)=((iO s).drop i).take (j-i):=by
 simp_all[iO]
theorem SA{s t:ByteArray}(h:iO s=iO t):s=t:=by
 cases s;cases t
 exact gL j0 (Array.toList_inj.1 h)
def G0:List UInt8->UInt8->Option Nat
 | [],_=>none
 | x::r,c=>if x=c then some 0 else(G0 r c).map (· + 1)
def Fl(l:List UInt8)(c:UInt8):Int:=match G0 l c with|some k=>(k:Int)|none=>-1
theorem HM(l:List UInt8)(c:UInt8)(g:Nat->Bool):∀(r:List UInt8) (o:Nat),(∀j x,r[j]?=some x->g (o+j)=(x == c))->(ab8 o r.length).find? g=(G0 r c).map (o + ·)
 | [],o,h=>rfl
 | x::r,o,h=>by
  have u:=h 0 x rfl
  rw[List.length_cons,List.range'_succ,List.find?_cons,show g o=(x == c)from u]
  unfold G0
  by_cases e:x=c
  .grind
  .rw[ei e,show(x == c)=false from beq_eq_false_iff_ne.2 e]
   show List.find? g _=_
   rw[HM l c g r (o+1) λj x B=>by rw[show o+1+j=o+(j+1)from bL];simp_all]
   rw[Option.map_map]
   congr 1;grind
theorem ajg(s:ByteArray)(c:UInt8):pr P (Extern.BytealgIndexByte.indexByte #[.string s,.int .u8 (c.toNat:Int)])=some (ir (Fl (iO s) c)):=by
 have E:Extern.BytealgIndexByte.indexByte #[.string s,.int .u8 (c.toNat:Int)]=(do let b <- Extern.Bytes.bytesOf (.string s);let d <- Extern.Bytes.asByte (.int .u8 (c.toNat:Int));match (tg b.size).find? λi=>b[i]! == d with|some i=>pure (goInt i)|none=>pure (goInt (-1))):=rfl
 have hc:(Extern.Bytes.asByte (.int .u8 (c.toNat:Int)))=pure c:=by
  show pure ((c.toNat:Int).toNat.toUInt8)=_
  simp_all
 have hb:(Extern.Bytes.bytesOf (.string s))=pure s:=rfl
 have u:(tg s.size).find? (λi=>s[i]! == c)=G0 (iO s) c:=by
  have:=HM (iO s) c (λi=>s[i]! == c) (iO s) 0 λj x B=>by
   rw[Sh]at B
   grind
  rw[eV]at this
  rw[List.range_eq_range',this]
  simp_all
 rw[E]
 simp only[hc,hb,cI,eS,mv,u]
 unfold Fl
 cases G0 (iO s) c<;>rfl
theorem Yj(l:List UInt8)(c:UInt8):0<=Fl l c↔l.any (λb=>decide (b=c))=true:=by
 unfold Fl
 induction l with
 | nil=>exact⟨λh=>absurd (show(0:Int)<=-1 from h) dy,λh=>by cases h⟩
 | cons x r u=>
  rw[List.any_cons]
  unfold G0
  by_cases e:x=c
  .rw[ej e,ew e];exact⟨λ_=>rfl,λ_=>by show(0:Int)<=((0:Nat):Int);omega⟩
  .rw[ei e,ez e,Bool.false_or,<- u]
   cases G0 r c with
   | none=>exact Iff.rfl
   | some k=>exact⟨λ_=>by show(0:Int)<=(k:Int);omega,λ_=>by show(0:Int)<=((k+1:Nat):Int);omega⟩
end
end Go.Fw
namespace Go.Proofs.YtpdlpabnlkofmaaGreatDoor
open Go.Fw
variable (w:World) (K:Value->hM)
def S335(I M A3 J:Value):Prop:=
 bB .eql 3 J (i 0) λa=>cV a (K (.slice none 0 0) w) (eK hH (jQ .eql 9 false true M (Go.Value.string (j0 (#[])))) λb=>cV b (cF 338 [I,J] w λc d=>
 K c d) (eH (λW=>bB .lss 3 J (i 0) λe=>cV e (cF 339 [I,M] w λf g=>bB .add 3 f (i 1) λh=>W h g) (W J w)) (λV j=>∀_:Env,
 lN 9 I λk=>bB .add 3 k (i 1) λl=>eK hH (Builtin.min_ #[3,3] 3 [V,l].toArray) λn=>qM hH (Instr.makeSlice 91 n n) j λo p=>bB .sub 3 n (i 1) λq=>
 En (λK2=>od (λU E B r=>∀_:Env,
 bA .lss 3 B q λs=>cV s (cF 337 [E,M] r λt u=>bB .lss 3 t (i 0) λv=>cV v (K2 E B u) (bA .add 3 t A3 λx=>eK hH (oa 9 E none (some x) none) λy=>
 iA 91 o B λz=>sA 9 z y u λaa=>lN 9 M λab=>bA .add 3 t ab λac=>eK hH (oa 9 E (some ac) none none) λad=>bB .add 3 B (i 1) λZ=>U ad Z aa)) (
 K2 E B r)) λU=>U I (i 0) p) (λO G af=>∀_:Env,
 iA 91 o G λag=>sA 9 ag O af λY=>bB .add 3 G (i 1) λai=>eK hH (oa 91 o none (some ai) none) λaj=>K aj Y))))
theorem adR(G E u B:Value)(h:S335 w K G E u B):CR 335 [G,E,u,B] w K:=
 oe 66 (λ_=>.nil) 256 [.tmp 8] Tryz.func335 h
theorem apF:PL 280:=dJ Tryz.func280
theorem apG:PL 308:=dJ Tryz.func308
theorem apH:PL 335:=dJ Tryz.func335
theorem apI:PL 339:=dJ Tryz.func339
theorem ahg:PL 337:=dJ Tryz.func337
theorem apJ:PL 344:=dJ Tryz.func344
end Go.Proofs.YtpdlpabnlkofmaaGreatDoor
namespace Go.Proofs.YtpdlpabnlkofmaaGreatDoor
open Go.Fw
def C344(s:ByteArray)(c:UInt8)(w:World):CR 344 [.string s,.int .u8 (c.toNat:Int)] w (λv w'=>v=ir (Fl (iO s) c)/\Ext w w'):=by
 have u:=St.start w;refine fb Tryz.func344 ?_;exact Mt Tryz.func349 ⟨by kernel_rfl,by kernel_rfl,by kernel_rfl⟩ (by kernel_rfl) (ajg s c) ⟨rfl,u.aF⟩
def JC(c:UInt8):ByteArray:=⟨#[c]⟩
def C340(s:ByteArray)(c:UInt8)(w:World):CR 340 [.string s,.string (JC c)] w (λv w'=>v=ir (Fl (iO s) c)/\Ext w w'):=by
 have u:=St.start w;refine fb Tryz.func340 ?_;refine fe hG ?_;refine⟨λB w'=>B=.bool (decide (JC c=s))/\w'=w,?_,?_⟩
 .exact aG (aC (λh=>absurd (show(1:Int)=0 from h) dy) λ_=>jz ⟨rfl,rfl⟩)
 rintro _ _ ⟨rfl,rfl⟩ _;refine aC (λh=>?_) (λ_=>?_)
 .subst h;exact⟨gL (n3 .i64) (show(0:Int)=Fl [c] c by unfold Fl G0;rw[ej rfl];rfl),u.aF⟩
 exact aG (aC (λ_=>jO (s:=JC c) (e:=c) hG dy rfl (aV apJ u (C344 s c _) λ_ _ u=>⟨rfl,u.aF⟩)) λh=>absurd (show(1:Int)=1 from rfl) h)
def C337(s:ByteArray)(c:UInt8)(w:World):CR 337 [.string s,.string (JC c)] w (λv w'=>v=ir (Fl (iO s) c)/\Ext w w'):=by
 have u:=St.start w;refine fb Tryz.func337 ?_;exact aV ⟨_,Tryz.func340,by kernel_rfl,by kernel_rfl⟩ u (C340 s c _) (λ_ _ u=>⟨rfl,u.aF⟩)
def kwT:ByteArray:=⟨#[108,105,110,101,32,118,111,108,32,108,111,99,107,32,116,104,114,101,97,100,32,114,101,103,32,108,111,97,100,32,115,116,111,114,101,32,99,97,115,32,102,108,117,115,104,32,111,112,116,32,115,102,101,110,99,101,32,109,102,101,110,99,101,32,116,97,107,101,32,103,105,118,101,32,105,102,32,101,108,115,101,32,108,111,111,112,32,98,114,101,97,107,32,99,104,101,99,107,32,114,101,99,111,118,101,114,32,97,108,119,97,121,115]⟩
def kwl:List UInt8:=iO kwT
def kwo(k:Nat):Nat:=(jK.take k).foldl (λn x=>n+x.size+1) 0
def UG(k:Nat):ByteArray:=kwT.extract (kwo k) kwT.size
def Af(k:Nat):ByteArray:=jK.getD k ⟨#[]⟩
def apK(k:Nat):Bool:=decide (G0 (kwl.drop (kwo k)) 32=some (Af k).size)&&(decide ((kwl.drop (kwo k)).take (Af k).size=iO (Af k))&&(decide (kwo (k+1)=kwo k+((Af k).size+1))&&decide (kwo k+(Af k).size+1<=kwl.length)))
def adS:(tg 20).all apK=true:=by decide +kernel
theorem Mu(k:Nat):iO (UG k)=kwl.drop (kwo k):=by
 unfold UG kwl
 rw[JB]
 exact la (by rw[sJ,eV];omega)
def aji(k:Nat)(h:k<20):Fl (iO (UG k)) 32=(Af k).size/\(Af k).size+1<=(UG k).size/\(UG k).extract 0 (Af k).size=Af k/\(UG k).extract ((Af k).size+1) (UG k).size=UG (k+1):=by
 have:=List.all_eq_true.1 adS k (Ns.2 h)
 unfold apK at this
 simp only[oj,decide_eq_true_eq]at this
 obtain⟨h1,h2,h3,h4⟩:=this
 have u:(UG k).size=kwl.length-kwo k:=by rw[<- eV,Mu,sJ]
 refine⟨by rw[Mu];unfold Fl;rw[h1],bL,SA ?_,SA ?_⟩
 .rw[JB,Mu,Z4,aaW];exact h2
 rw[JB,Mu,Mu,u3,h3]
 exact la cD
def kwB(k:Nat):(Af k).size<=100:=by
 by_cases h:k<21
 .exact(by decide +kernel:∀k,k<21->(Af k).size<=100) k h
 unfold Af;rw[oi,n0 (show jK.length<=k from Nat.le_of_not_lt h)];decide
def apL:∀k,k<21->∀s∈jK.take k,s≠Af k:=by decide +kernel
theorem Yl{k:Nat}(h:k<21):jK[k]?=some (Af k):=by simp_all[jK,Af]
theorem ajj{k:Nat}(h:k<21):(jK.take k++oz (21-k) (⟨#[]⟩:ByteArray)).set k (Af k)=(jK.take (k+1)++oz (21-(k+1)) (⟨#[]⟩:ByteArray)):=by
 have u:(jK.take k).length=k:=by rw[l9];exact GF (XO h)
 rw[List.set_append_right _ _ bL,u,Nat.sub_self,show 21-k=(21-(k+1))+1 from bL,List.replicate_succ,List.set_cons_zero,v7,Yl h,n4]
 rfl
theorem JD{k:Nat}(h:k<21):(jK.take k++oz (21-k) (⟨#[]⟩:ByteArray)).length=21:=by
 rw[l0,l9,yz,GF (show k<=jK.length from XO h)];omega
def C339(w:World):CR 339 [.string kwT,.string (JC 32)] w (λv w'=>v=ir 20/\Ext w w'):=by
 have u:=St.start w;refine fb Tryz.func339 ?_;exact fe hG (aG (aC (λh=>absurd (show(1:Int)=0 from h) dy) λ_=>fe hG (aG (aC (λ_=>jO (s:=JC 32) (e:=32) hG dy rfl (Mt (e:=Extern.BytealgCount.count) (v:=ir 20) Tryz.func343 ⟨by kernel_rfl,by kernel_rfl,by kernel_rfl⟩ (by kernel_rfl) (by kernel_rfl) ⟨rfl,u.aF⟩)) λh=>absurd (show(1:Int)=1 from rfl) h))))
def C335(w:World):CR 335 [.string kwT,.string (JC 32),ir 0,ir (-1)] w (λv w'=>lf (bF v jK) w w'):=by
 have u:=St.start w;refine adR _ _ _ _ _ _ ?_;unfold S335;refine aG (aC (λh=>absurd h dy) λ_=>jz (aC (λh=>absurd h dy) λ_=>?_));refine⟨λJ w'=>J=ir 21/\St w aX [] w',?_,?_⟩
 .exact aN (aC (λ_=>aV apI u (C339 _) λ_ _ u=>aJ dy ⟨rfl,u⟩) λh=>absurd dy h)
 rintro _ _ ⟨rfl,u⟩ _;refine fe hG (aJ dy (rj ?_));rw[show min (21:Int) ((kwT.size:Int)+1)=21 from dy];refine uD (⟨#[]⟩:ByteArray) u iu agF dy dy dy (λB _ u=>fc dy ?_);refine⟨λs y w'=>s=.string (UG 20)/\y=ir 20/\St w aX [bF B (jK.take 20++oz (21-20) (⟨#[]⟩:ByteArray))] w',?_,?_⟩
 .refine⟨λG s y w'=>∃k:Nat,s=.string (UG k)/\y=ir (k:Int)/\G=20-k/\k<=20/\St w aX [bF B (jK.take k++oz (21-k) (⟨#[]⟩:ByteArray))] w',⟨_,0,gL IF dy,rfl,rfl,l2 _,u⟩,?_⟩;rintro G _ _ _ ⟨k,rfl,rfl,rfl,W,u⟩ _;refine aN (aC (λM=>?_) λM=>?_);rotate_left
  .obtain rfl:k=20:=bL
   exact⟨rfl,rfl,u⟩
  obtain⟨O,Y,I,U⟩:=aji k bL;refine aV ahg u (C337 (UG k) 32 _) (λ_ V u=>?_);rw[O];refine aN (aC (λh=>absurd h bL) λ_=>aJ (show -9223372036854775808<=((Af k).size:Int)+0/\((Af k).size:Int)+0<=9223372036854775807 by have:=kwB k;omega) (nX hG bL bL ?_));rw[show(((Af k).size:Int)+0).toNat=(Af k).size from bL,I];refine dG u iu bL (by rw[JD bL];omega) (λq E=>iM (Af k) u gv E (by rw[JD bL];omega) λ_ u=>?_);rw[tx,ajj bL]at u;refine fe hG (aJ (show -9223372036854775808<=((Af k).size:Int)+1/\((Af k).size:Int)+1<=9223372036854775807 by have:=kwB k;omega) (Ps hG (show(0:Int)<=((Af k).size:Int)+1 by omega) (show((Af k).size:Int)+1<=_ by omega) ?_))
  rw[show((Af k).size:Int)+(((JC 32).size:Nat):Int)=((Af k).size:Int)+1 from rfl,show(((Af k).size:Int)+1).toNat=(Af k).size+1 from bL,U];exact aJ bL ⟨_,bL,k+1,rfl,rfl,rfl,bL,u⟩
 rintro _ _ _ ⟨rfl,rfl,u⟩ _;exact dG u iu dy (by rw[JD dy];decide) (λ_ E=>iM (UG 20) u gv E (by rw[JD dy];decide) λ_ u=>aJ dy (EN iu u dy dy λ_ u=>u.fresh))
def C308(w:World):CR 308 [.string kwT,.string (JC 32)] w (λv w'=>lf (bF v jK) w w'):=by
 have u:=St.start w;refine fb Tryz.func308 ?_;exact dB apH u (C335 _) (λ_ _ _ u=>u.fresh)
def C280(w:World):CR 280 [] w (λv w'=>∃b,v=.map (some b)/\JA w' b jK/\Ext w w'):=by
 have u:=St.start w;refine fb Tryz.func280 ?_;refine Yh u (λb _ u=>dB apG u (C308 _) λJ _ M u=>aI iu u.dS ?_);refine⟨λE y w'=>∃k:Nat,y=ir (k:Int)/\E=21-k/\k<=21/\St w aX [Pr b (jK.take k),bF J jK] w',⟨_,0,rfl,rfl,l2 _,u.p1⟩,?_⟩;rintro E _ _ ⟨k,rfl,rfl,O,u⟩ _;refine aN (aC (λB=>?_) λB=>?_);rotate_left
 .obtain rfl:k=21:=by have h:¬ (k:Int)<21:=B;omega
  exact⟨b,rfl,u.Pr,u.aF⟩
 have G:k<21:=by have h:(k:Int)<21:=B;omega
 refine aK iu u.p1.dS bL (Yl (show((k:Nat):Int).toNat<21 by omega)) (λq I=>aE gv I ?_);rw[tx];refine Yi u Tryz.underlying329 hG (apL k G) (λ_ u=>aJ bL ?_);refine⟨_,bL,k+1,rfl,rfl,bL,?_⟩;rw[v7,Yl G];exact u
def FnU(w:World)(f:Value)(g:UInt8->Bool):Prop:=∃u first cap,f=.func (.func u) (P4 first) (P4 cap)/\Plain hH u/\
 ∀(c:UInt8) B,Ext w B->Calls hH u (first++[n3 .u8 c.toNat]++cap).toArray B (tu λv E=>v=.bool (g c)/\Ext B E)
def adT{g:UInt8->Bool}{l:List UInt8}{k:Nat}(u:∀y∈l.take k,g y=true)(B:k<=l.length)(h:(match l[k]? with|some c=>g c|none=>false)=false):k=l.length↔l.all g=true:=by
 grind
def xw(s:ByteArray):Bool:=decide (s.size<1\/16<s.size)||(match (iO s)[0]? with|some c=>!gA c.toNat|none=>true)||jK.any (λy=>decide (y=s))
def Ym{s:ByteArray}(h:xw s=false):s.size<=1048576:=by
 unfold xw at h
 grind
def Yn{s:ByteArray}(h:xw s=true):gI s=false:=by
 show(!(xw s)&&_)=false
 rw[h];rfl
def Yo{s:ByteArray}{n:Nat}(h:xw s=false)(u:n=(iO s).length↔(iO s).all (λc=>gA c.toNat||km c.toNat)=true):decide ((n:Int)=(s.size:Int))=gI s:=by
 show _=(!(xw s)&&!(iO s).any λc=>!gA c.toNat&&!km c.toNat)
 rw[h,Bool.not_false,Et,<- eV]
 grind
theorem ajk{s:ByteArray}(h:s.size=0):s=j0 #[]:=by
 cases s with
 | mk a=>cases a with
  | mk l=>cases l with
   | nil=>rfl
   | cons x r=>simp[ace]at h
def C234(c:Int)(w:World):CR 234 [.int .u8 c] w (λv w'=>v=.bool (gA c)/\Ext w w'):=by
 have E:=St.start w;refine fb Tryz.func234 ?_;refine⟨λB w'=>B=.bool (decide (97<=c/\c<=122\/c=95))/\w=w',AM (aC (λ_=>AL (aC (λ_=>⟨Oz bL,rfl⟩) λ_=>nI ⟨yd bL,rfl⟩)) λ_=>nI ⟨yd bL,rfl⟩),?_⟩;rintro _ _ ⟨rfl,u⟩ _;subst u;exact⟨rfl,E.aF⟩
def C238(c:Int)(w:World):CR 238 [.int .u8 c] w (λv w'=>v=.bool (km c)/\Ext w w'):=by
 have E:=St.start w;refine fb Tryz.func238 ?_;refine⟨λB w'=>B=.bool (decide (48<=c/\c<=57))/\w=w',AM (aC (λ_=>AL ⟨yd bL,rfl⟩) λ_=>⟨Uf bL,rfl⟩),?_⟩;rintro _ _ ⟨rfl,u⟩ _;subst u;exact⟨rfl,E.aF⟩
def C237(c:Int)(w:World):CR 237 [.int .u8 c] w (λv w'=>v=.bool (gA c||km c)/\Ext w w'):=by
 have u:=St.start w;refine fb Tryz.func237 ?_;refine⟨λB w'=>B=.bool (gA c||km c)/\St w aX [] w',aV ag6 u (C234 _ _) (λ_ _ u=>aW (λ_=>⟨vb cD,u⟩) λ_=>aV apq u (C238 _ _) λ_ _ u=>⟨vb cD,u⟩),?_⟩;rintro _ _ ⟨rfl,u⟩ _;exact⟨rfl,u.aF⟩
def C236(s:ByteArray)(fv:Value)(g:UInt8->Bool)(w:World)(O:FnU w fv g)(hn:s.size<=1048576):CR 236 [.string s,fv] w (λv w'=>∃n:Nat,v=ir (n:Int)/\(n=(iO s).length↔(iO s).all g=true)/\Ext w w'):=by
 obtain⟨g0,first,cap,rfl,Z,V⟩:=O;have u:=St.start w;refine adH _ _ _ _ ?_;unfold S236;refine⟨λm x M=>∃k:Nat,x=ir (k:Int)/\m=(iO s).length-k/\k<=(iO s).length/\(∀y∈(iO s).take k,g y=true)/\St w aX [] M,⟨_,0,rfl,rfl,l2 _,ee,u⟩,?_⟩;rintro m _ M ⟨k,rfl,rfl,Y,I,u⟩ _;have GZ:=eV s;refine⟨λW w'=>W=.bool (match (iO s)[k]? with|some c=>g c|none=>false)/\St w aX [] w',fe hG (aN (aC (λjA=>?_) λ_=>⟨vb cD,u⟩)),?_⟩
 .obtain⟨J,B⟩:∃G,(iO s)[(k:Int).toNat]?=some G:=⟨_,lU (by rw[eV];omega)⟩;refine jO hG bL B (gS Z (V J _ u.aF) ?_);rintro _ _ ⟨rfl,U⟩;have u:=u.ext U;exact⟨vb cD,u⟩
 rintro _ _ ⟨rfl,u⟩ _;refine aW (λE=>?_) (λE=>⟨k,rfl,adT I Y (by simpa using E),u.aF⟩);obtain⟨J,B⟩:∃G,(iO s)[k]?=some G:=by cases h:(iO s)[k]? with|none=>rw[h]at E;cases E|some x=>exact⟨x,rfl⟩
 have RK:=(kE.1 B).1;exact aJ bL ⟨_,bL,k+1,rfl,rfl,bL,dY I B cD,u⟩
def C235(s:ByteArray)(w:World):CR 235 [.string s] w (λv w'=>v=.bool (jK.any λy=>decide (y=s))/\Ext w w'):=by
 have u:=St.start w;refine fb Tryz.func235 ?_;refine dR apF (C280 _) ?_;rintro _ _ ⟨G,rfl,B,E⟩;have u:=u.ext E;exact Ms B Tryz.underlying329 Tryz.underlying9 R5 ⟨rfl,u.aF⟩
def C180(s:ByteArray)(w:World):CR 180 [.string s] w (λv w'=>v=.bool (gI s)/\Ext w w'):=by
 have u:=St.start w;refine fb Tryz.func180 ?_;refine⟨λO w'=>O=.bool (xw s)/\St w aX [] w',jz (aC (λG=>?_) λG=>?_),?_⟩
 .have Z:s.size=0:=by rw[G];rfl
  exact⟨vb (by unfold xw;grind),u⟩
 .have Z:s.size≠0:=λh=>G (ajk h);refine fe hG (cL (aC (λ_=>⟨vb (by unfold xw;grind),u⟩) λgG=>?_));obtain⟨Y,I⟩:∃J,(iO s)[(0:Int).toNat]?=some J:=⟨_,lU (by rw[eV];omega)⟩;refine jO hG bL I ?_;have V:(iO s)[0]?=some Y:=I;have W:¬ (s.size<1\/16<s.size):=bL
  exact aV ag6 u (C234 _ _) (λ_ _ u=>bN (aW (λ_=>⟨vb (by unfold xw;grind),u⟩) λ_=>aV apt u (C235 _ _) λ_ _ u=>⟨vb (by unfold xw;grind),u⟩))
 rintro _ _ ⟨rfl,u⟩ _;refine aW (λB=>⟨vb (Yn B).symm,u.aF⟩) (λB=>dR apr (C236 s _ (λc=>gA c.toNat||km c.toNat) _ ⟨237,[],[],rfl,aps,λ_ U _=>C237 _ U⟩ (Ym (by simpa using B))) ?_);rintro _ _ ⟨nr,rfl,E,M⟩;have u:=u.ext M;exact fe hG (aG ⟨vb (Yo (by simpa using B) E),u.aF⟩)
def UH(xs:List bU)(i:Int)(n:Nat):Int:=if n=0 then i else if i<0 then -1 else Dl xs.length (skip n (xs.drop i.toNat))
def adU(xs:List bU)(i:Int):UH xs i 1=qw xs i:=by unfold UH qw;omega
theorem Yq(xs:List bU)(i:Int):UH xs i 0=i:=rfl
theorem adV{xs:List bU}{i:Int}{n:Nat}(u:0<n)(h:i<0\/(xs.length:Int)<=i):UH xs i n = -1:=by
 unfold UH
 rw[ei bL]
 split
 .rfl
 rw[u6 bL]
 cases n with
 | zero=>omega
 | succ n=>rfl
theorem adW{xs:List bU}{i:Int}{n:Nat}{x:bU}(J:0<n)(G:0<=i)(B:xs[i.toNat]?=some x)(I:kids x.op<0):UH xs i n = -1:=by
 unfold UH
 obtain⟨u,E⟩:=kE.1 B
 rw[ei bL,ei bL,vl u,E]
 cases n with
 | zero=>omega
 | succ n=>
  grind[Dl,skip]
theorem Yr{xs:List bU}{i:Int}{n m:Nat}{x:bU}(M:0<n)(I:0<=i)(B:xs[i.toNat]?=some x)(J:0<=kids x.op)(G:(m:Int)=n+kids x.op-1):UH xs i n=UH xs (i+1) m:=by
 obtain⟨u,E⟩:=kE.1 B
 have h1:UH xs i n=Dl xs.length (skip m (xs.drop (i+1).toNat)):=by
  unfold UH
  rw[ei bL,ei bL,vl u,E,show(i+1).toNat=i.toNat+1 from bL]
  cases n with
  | zero=>omega
  | succ n=>
   grind[Dl,skip]
 rw[h1]
 grind[Dl,skip,UH]
def Ys(i:Int)(ks:List Ex)(k:Nat):List Int:=(tg k).map λj=>i+1+(qy ks j:Int)
theorem Yt(i:Int)(ks:List Ex)(k:Nat):Ys i ks (k+1)=Ys i ks k++[i+1+(qy ks k:Int)]:=by
 unfold Ys;rw[List.range_succ,vG];rfl
theorem SB(i:Int)(ks:List Ex)(k:Nat):(Ys i ks k).length=k:=by simp[Ys]
def adX{i:Int}{ks:List Ex}{n k:Nat}{e:Int}(h:(Ys i ks n)[k]?=some e):e=i+1+(qy ks k:Int)/\k<n:=by
 unfold Ys at h
 grind
def C286(k:Int)(w:World):CR 286 [ir k] w (λv w'=>v=ir (kids k)/\Ext w w'):=by
 have E:=St.start w;refine fb Tryz.func286 ?_;refine⟨λB w'=>B=.bool (decide (k=1\/k=2))/\w=w',aG (aC (λ_=>⟨Oz bL,rfl⟩) λ_=>aG ⟨yd bL,rfl⟩),?_⟩;rintro _ _ ⟨rfl,u⟩ _;subst u;refine aC (λG=>?_) (λG=>⟨λB w'=>B=.bool (decide (k=3\/k=4))/\w=w',aG (aC (λ_=>⟨Oz bL,rfl⟩) λ_=>aG ⟨yd bL,rfl⟩),?_⟩)
 .unfold kids;exact⟨gL (n3 .i64) cD,E.aF⟩
 rintro _ _ ⟨rfl,u⟩ _;subst u;refine aC (λJ=>?_) (λJ=>⟨λB w'=>B=.bool (decide (5<=k/\k<=15))/\w=w',cO (aC (λ_=>gu ⟨yd bL,rfl⟩) λ_=>⟨Uf bL,rfl⟩),?_⟩)
 .unfold kids;exact⟨gL (n3 .i64) cD,E.aF⟩
 rintro _ _ ⟨rfl,u⟩ _;subst u;refine aC (λI=>?_) (λI=>?_)
 .unfold kids;exact⟨gL (n3 .i64) cD,E.aF⟩
 unfold kids;exact⟨gL (n3 .i64) cD,E.aF⟩
def C243(x:bU)(w:World):CR 243 [jr x] w (λv w'=>v=.bool (!kX x)/\Ext w w'):=by
 have u:=St.start w;refine fb Tryz.func243 ?_;refine cP u (λE _ u=>⟨λB w'=>B=.bool (decide (x.at_<0\/4000<x.at_))/\St w aX [bX E (kp x)] w',aA rX (aB (v:=ir x.at_) bO u.hb rfl (aN (aC (λ_=>⟨vb cD,u⟩) λ_=>aA rX (aB (v:=ir x.at_) bO u.hb rfl (cL ⟨vb cD,u⟩))))),?_⟩);rintro _ _ ⟨rfl,u⟩ _;refine aW (λG=>?_) (λG=>?_)
 .refine⟨vb ?_,u.drop.aF⟩;unfold kX
  grind
 refine aA eX (aB (v:=ir x.op) bO u.hb rfl (aG (aC (λJ=>⟨λB w'=>B=.bool (decide (0<=x.n/\x.n<=4294967296/\x.name=⟨#[]⟩))/\St w aX [bX E (kp x)] w',aA ji (aB (v:=ir x.n) bO u.hb rfl (cO (aC (λ_=>aA ji (aB (v:=ir x.n) bO u.hb rfl (gu (aC (λ_=>aA gj (aB (v:=.string x.name) gv u.hb rfl (jz ⟨vb cD,u⟩))) λ_=>⟨vb cD,u⟩)))) λ_=>⟨vb cD,u⟩))),?_⟩) λJ=>?_)))
 .rintro _ _ ⟨rfl,u⟩ _;refine⟨vb ?_,u.drop.aF⟩;unfold kX
  grind
 refine aA eX (aB (v:=ir x.op) bO u.hb rfl (aG (aC (λI=>⟨λB w'=>B=.bool (decide (x.n=0)&&gI x.name)/\St w aX [bX E (kp x)] w',aA ji (aB (v:=ir x.n) bO u.hb rfl (aG (aC (λ_=>aA gj (aB (v:=.string x.name) gv u.hb rfl (aV L9 u (C180 _ _) λ_ _ u=>⟨vb cD,u⟩))) λ_=>⟨vb cD,u⟩))),?_⟩) λI=>?_)))
 .rintro _ _ ⟨rfl,u⟩ _;refine⟨vb ?_,u.drop.aF⟩;unfold kX
  grind
 refine⟨λB w'=>B=.bool (decide (x.n=0/\x.name=⟨#[]⟩))/\St w aX [bX E (kp x)] w',aA ji (aB (v:=ir x.n) bO u.hb rfl (aG (aC (λ_=>aA gj (aB (v:=.string x.name) gv u.hb rfl (jz ⟨vb cD,u⟩))) λ_=>⟨vb cD,u⟩))),?_⟩;rintro _ _ ⟨rfl,u⟩ _;refine⟨vb ?_,u.drop.aF⟩;unfold kX
 grind
def C242(x:bU)(w:World):CR 242 [jr x] w (λv w'=>v=.bool (kX x)/\Ext w w'):=by
 have u:=St.start w;refine fb Tryz.func242 ?_;exact cP u (λ_ _ u=>aE rW u.At (aV apu u (C243 _ _) λ_ _ u=>bN ⟨vb ee,u.drop.aF⟩))
def C285(M fv:Value)(xs:List bU)(g:bU->Bool)(w:World)(J:cZ (λ_=>True) w M xs)(O:wD w fv g)(hn:xs.length<=1073741824):CR 285 [M,fv] w (λv w'=>v=ir (sg g xs)/\Ext w w'):=by
 obtain⟨g0,first,cap,rfl,Z,Y⟩:=O;have u:=St.start w;refine fb Tryz.func285 ?_;refine aI gU (J.ext u.aF) ?_;refine⟨λm x I=>∃k:Nat,x=ir (k:Int)/\m=xs.length-k/\k<=xs.length/\(∀y∈xs.take k,g y=false)/\St w aX [] I,⟨_,0,rfl,rfl,l2 _,ee,u⟩,?_⟩;rintro m _ I ⟨k,rfl,rfl,hk,B,u⟩ _;refine aN (aC (λjA=>?_) λ_=>⟨gL (n3 .i64) (jb (by rw[la bL]at B;exact B)).symm,u.aF⟩);obtain⟨W,E⟩:=gx xs (i:=(k:Int).toNat) bL;refine aK gU J bL E (λ_ U=>aE rW (U.ext u.aF) (gS Z (Y W I u.aF) ?_))
 rintro _ _ ⟨rfl,V⟩;have u:=u.ext V;exact aW (λG=>⟨gL (n3 .i64) (l6 B E G).symm,u.aF⟩) (λG=>aJ bL ⟨xs.length-(k+1),bL,k+1,rfl,rfl,bL,dY B E G,u⟩)
def C244(B fv:Value)(xs:List bU)(g:bU->Bool)(w:World)(E:cZ (λ_=>True) w B xs)(G:wD w fv g)(I:xs.length<=1073741824):CR 244 [B,fv] w (λv w'=>v=.bool (xs.any g)/\Ext w w'):=by
 have u:=St.start w;refine fb Tryz.func244 ?_;exact aV apB u (C285 _ _ _ _ _ (E.ext u.aF) (G.ext u.aF) bL) (λ_ _ u=>cO ⟨vb (kN _ _),u.aF⟩)
def C245(lv:Value)(xs:List bU)(i:Int)(w:World)(I:cZ (λ_=>True) w lv xs)(hn:xs.length<=1048576):CR 245 [lv,ir i] w (λv w'=>v=ir (qw xs i)/\Ext w w'):=by
 have u:=St.start w;refine fb Tryz.func245 ?_;refine⟨λm x y O=>∃(a:Int) (n:Nat),x=ir a/\y=ir (n:Int)/\m=xs.length-a.toNat/\n<=1+a.toNat/\UH xs a n=qw xs i/\St w aX [] O,⟨_,i,1,rfl,rfl,rfl,bL,adU _ _,u⟩,?_⟩;rintro m _ _ O ⟨a,n,rfl,rfl,rfl,W,B,u⟩ _;refine cL (aC (λgQ=>⟨λY w'=>Y=.bool (decide (a<0\/(xs.length:Int)<=a)||(match xs[a.toNat]? with|some x=>decide (kids x.op = -1)|none=>true))/\St w aX [] w',aN (aC (λ_=>⟨vb cD,u⟩) λju=>aI gU (I.ext u.aF) (cO (aC (λ_=>⟨vb cD,u⟩) λeb=>?_))),?_⟩) λgQ=>?_)
 .obtain⟨E,G⟩:=gx xs (i:=a.toNat) bL;have XU:=ua E.op;exact aK gU I bL G (λ_ Z=>bT E.op eX Z rfl rfl λ_ U=>aE bO (U.ext u.aF) (aV X7 u (C286 _ _) λ_ _ u=>aG ⟨vb cD,u⟩))
 .rintro _ _ ⟨rfl,u⟩ _;refine aW (λM=>?_) (λM=>?_)
  .refine⟨gL (n3 .i64) ?_,u.aF⟩;rw[<- B]
   by_cases hq:a<0\/(xs.length:Int)<=a
   .exact(adV bL hq).symm
   have J:a.toNat<xs.length:=bL
   rw[lU J]at M;exact(adW bL bL (lU J) cD).symm
  have h23:¬ (a<0\/(xs.length:Int)<=a):=cD
  obtain⟨E,G⟩:=gx xs (i:=a.toNat) bL;have XU:=ua E.op;have Pg:0<=kids E.op:=cD
  exact aK gU I bL G (λ_ mw=>bT E.op eX mw rfl rfl λ_ V=>aE bO (V.ext u.aF) (aV X7 u (C286 _ _) λ_ _ u=>aJ bL (aJ bL (fc bL ⟨_,bL,a+1,((n:Int)+kids E.op-1).toNat,rfl,gL (n3 .i64) bL,rfl,bL,by rw[<- B];exact(Yr bL bL G Pg bL).symm,u⟩))))
 have Wb:n=0:=bL
 rw[Wb,Yq]at B;exact⟨gL (n3 .i64) B,u.aF⟩
theorem C1{l:List bU}:fz l=(decide (l.length<=40)&&decide (qw l 0=l.length)&&!l.any kX&&decide (Ss l<=12)):=by
 unfold fz;rw[E1]
def C287(lv:Value)(xs:List bU)(i:Int)(t:Ex)(w:World)(I:cZ (λ_=>True) w lv xs)(hn:xs.length<=1048576)(B:BO xs i t):CR 287 [lv,ir i] w (λv w'=>lf (bF v (Ys i t.eu t.eu.length)) w w'):=by
 obtain⟨M,V,sj⟩:∃e,e=t.root/\xs[(i).toNat]?=some e:=⟨_,rfl,B.root.1⟩;have hri:=B.root.2;have W:=B.end;have Pg:=Ex.oU B.2.1;rw[<- V]at Pg;have XU:=ua M.op;have Z:=B.1;have u:=St.start w;refine fb Tryz.func287 ?_;refine aJ bL (aK gU I bL sj λ_ E4=>bT M.op eX E4 rfl rfl λ_ O=>aE bO (O.ext u.aF) (aV X7 u (C286 _ _) λJ he u=>?_));refine⟨λm G a x J=>∃k:Nat,a=ir (i+1+qy t.eu k)/\x=ir (k:Int)/\m=t.eu.length-k/\k<=t.eu.length/\St w aX [bF G (Ys i t.eu k)] J,⟨_,0,gL (n3 .i64) (by simp[qy]),rfl,rfl,bL,u.eU (α:=Int)⟩,?_⟩
 rintro m G _ _ _ ⟨k,rfl,rfl,rfl,hk,u⟩ _;refine aN (aC (λU=>?_) λU=>?_)
 .obtain⟨a,E⟩:=gx t.eu (i:=k) bL;have Y:=Ex.ub B.2.1 (kO E);have Uy:=B.kid E;have V8:=Uy.end;have Uz:=a.rp;refine bD ([(i+1+qy t.eu k:Int)]) u cQ rfl rfl (dQ rfl) (λYv _ u=>?_);have JE:=u.dS;exact bJ u.p1 cQ JE (by rw[SB];exact XO (by simp;omega)) dy (λ_ _ u=>have u:=u.p1.drop;aV X8 u (C245 _ _ _ _ (I.ext u.aF) bL) λ_ _ u=>aJ bL ⟨_,bL,k+1,gL (n3 .i64) (by rw[V8.1,uO E];omega),rfl,rfl,bL,by rw[Yt];exact u⟩)
 rw[show t.eu.length=k from bL];exact u.fresh
theorem C246(lv:Value)(xs:List bU)(i:Int)(t:Ex)(N:Nat)(w:World)(J:cZ (λ_=>True) w lv xs)(hn:xs.length<=1048576)(B:BO xs i t)(hN:t.size<N):CR 246 [lv,ir i] w (λv w'=>v=ir t.depth/\Ext w w'):=by
 obtain⟨pJ,W,sj⟩:∃e,e=t.root/\xs[(i).toNat]?=some e:=⟨_,rfl,B.root.1⟩;have hri:=B.root.2;have Y:=B.end;have Pg:=Ex.oU B.2.1;rw[<- W]at Pg;have XU:=ua pJ.op;have hi0:=B.1;have u:=St.start w;refine adI _ _ _ _ ?_;unfold S246;refine dB apw u (C287 _ _ _ t _ (J.ext u.aF) bL B) (λG M cE u=>?_);have GI:=SB i t.eu t.eu.length;refine aI cQ u.dS ?_;refine⟨λm n x M=>∃k:Nat,n=ir (Dm t.eu k)/\x=ir (k:Int)/\m=t.eu.length-k/\k<=t.eu.length/\St w aX [bF G (Ys i t.eu t.eu.length)] M,⟨_,0,rfl,rfl,rfl,bL,u⟩,?_⟩;rintro m _ _ _ ⟨k,rfl,rfl,rfl,hk,u⟩ _
 have V:=Ph (ks:=t.eu) (N:=(t.size:Int)) bL (λa ha=>by have:=(Ex.ub B.2.1 ha).2;have:=a.rp;omega) k;refine aN (aC (λxm=>?_) λ_=>aJ bL ⟨gL (n3 .i64) (by rw[t.LX,show k=t.eu.length from bL]),u.aF⟩);obtain⟨il,I⟩:=gx (Ys i t.eu t.eu.length) (i:=(k:Int).toNat) bL;refine dG u cQ bL bL (λ_ U=>fM u bO U I ?_);obtain⟨rfl,Ca⟩:=adX I;obtain⟨a,E⟩:=gx t.eu (i:=k) bL;have Z:=Ex.ub B.2.1 (kO E);have O:=B.kid E;have V8:=O.end;have Uz:=a.rp
 exact aV ag7 u (C246 _ _ _ _ (N-1) _ (J.ext u.aF) hn O bL) (λ_ _ u=>DJ (aJ bL ⟨_,bL,k+1,by rw[Cb E],rfl,rfl,bL,u⟩))
termination_by N
decreasing_by all_goals omega
def C185(lv:Value)(xs:List bU)(w:World)(B:cZ (λ_=>True) w lv xs)(U:xs.length<=1048576):CR 185 [lv] w (λv w'=>v=.bool (fz xs)/\Ext w w'):=by
 have u:=St.start w;refine fb Tryz.func185 ?_;refine⟨λJ w'=>J=.bool (decide (xs.length=0\/40<xs.length)||xs.any kX||decide (¬ qw xs 0=xs.length))/\St w aX [] w',aI gU (B.ext u.aF) (aG (aC (λ_=>⟨vb cD,u⟩) λY=>aI gU (B.ext u.aF) (cL (aC (λ_=>⟨vb cD,u⟩) λZ=>?_)))),?_⟩
 .have E:wD w (.func (.func 242) [].toArray [].toArray) kX:=
   ⟨242,[],[],rfl,apv,λy M _=>C242 y M⟩
  exact aV apA u (C244 _ _ _ _ _ (B.ext u.aF) E bL) (λ_ _ u=>aW (λ_=>⟨vb cD,u⟩) λ_=>aV X8 u (C245 _ _ _ _ (B.ext u.aF) bL) λ_ _ u=>aI gU (B.ext u.aF) (bW ⟨vb cD,u⟩))
 rintro _ _ ⟨rfl,u⟩ _;refine aW (λI=>?_) (λI=>?_)
 .refine⟨vb ?_,u.aF⟩;rw[C1]
  by_cases O:xs.length=0
  .obtain rfl:=vq.1 O;rfl
  grind
 have G:qw xs 0=xs.length:=cD
 obtain⟨t,ht⟩:=BO.of (xs:=xs) (i:=0) bL;have V:=ht.zero G;refine aV ag7 u (C246 _ _ _ t (t.size+1) _ (B.ext u.aF) U ht bL) (λ_ W u=>gu ?_);refine⟨vb ?_,u.aF⟩;rw[C1];unfold Ss;rw[V.2]
 grind
def nS(o:List ByteArray)(x:bU):List ByteArray:=if x.op=2/\o.any (λy=>decide (y=x.name))=false then o++[x.name]else o
theorem Yw{o:List ByteArray}{x:bU}(h:x.op=2/\o.any (λy=>decide (y=x.name))=false):nS o x=o++[x.name]:=ej h
theorem Yx{o:List ByteArray}{x:bU}(h:¬ (x.op=2/\o.any (λy=>decide (y=x.name))=false)):nS o x=o:=ei h
def nT(xs:List bU):List ByteArray:=xs.foldl nS []
theorem Mv{xs:List bU}{k:Nat}{x:bU}(h:xs[k]?=some x):nT (xs.take (k+1))=nS (nT (xs.take k)) x:=by
 unfold nT;rw[<- gg h,List.foldl_append];rfl
theorem C2(xs:List bU):(nT xs).length<=xs.length:=by
 have:∀(l:List bU) (o:List ByteArray),(l.foldl nS o).length<=o.length+l.length:=by
  intro l
  induction l with
  | nil=>grind
  | cons x l u=>
   grind[nS]
 simpa[nT]using this xs []
theorem Pu(g:ByteArray->Bool)(xs:List bU):(nT xs).any g=xs.any λx=>decide (x.op=2)&&g x.name:=by
 have:∀(l:List bU) (o:List ByteArray),(l.foldl nS o).any g=(o.any g||l.any λx=>decide (x.op=2)&&g x.name):=by
  intro l
  induction l with
  | nil=>grind
  | cons x l u=>
   intro o
   show(l.foldl nS (nS o x)).any g=_
   rw[u]
   have h2:(nS o x).any g=(o.any g||(decide (x.op=2)&&g x.name)):=by
    unfold nS
    grind
   grind
 exact(this xs []).trans ee
theorem Ch(ns:List ByteArray)(s:ByteArray):decide (0<=cU ns s)=ns.any λy=>decide (y=s):=kN _ _
theorem UI(ns:List ByteArray)(s:ByteArray):decide (cU ns s<0) = !ns.any λy=>decide (y=s):=by
 rw[<- Ch]
 grind
def Pv{k:Int}(h:0<=kids k):eA k=kids k:=by unfold eA kids at *;grind
def adY{ns:List ByteArray}{xs:List bU}(h:fz xs=false):kQ ns xs=8:=by unfold kQ;grind
def adZ{ns:List ByteArray}{xs:List bU}(h:fz xs=true):kQ ns xs=if (nT xs).any (λs=>!ns.any λy=>decide (y=s))=true then 9 else 0:=by
 unfold kQ
 rw[ei (by simp[h]),Pu]
 simp only[UI]
theorem Mw{ns:List ByteArray}{xs:List bU}(h:¬ kQ ns xs=0):qz ns xs=[]:=by unfold qz;grind
def pN(ns:List ByteArray)(nums:List Int)(xs:List bU):Int×Int:=if ns.length=nums.length then(if kQ ns xs=0 then runM (qz ns xs) nums else(0,kQ ns xs))else(0,1)
def C225(M:Value)(ns:List ByteArray)(s:ByteArray)(w:World)(I:cZ (λ_=>True) w M ns)(W:ns.length<=1048576):CR 225 [M,.string s] w (λv w'=>v=ir (cU ns s)/\Ext w w'):=by
 have u:=St.start w;refine fb Tryz.func225 ?_;refine aI iu (I.ext u.aF) ?_;refine⟨λm x J=>∃k:Nat,x=ir (k:Int)/\m=ns.length-k/\k<=ns.length/\(∀y∈ns.take k,decide (y=s)=false)/\St w aX [] J,⟨_,0,rfl,rfl,l2 _,ee,u⟩,?_⟩;rintro m _ J ⟨k,rfl,rfl,V,B,u⟩ _;refine aN (aC (λY=>?_) λ_=>⟨gL (n3 .i64) (jb (by rw[la bL]at B;exact B)).symm,u.aF⟩);obtain⟨U,E⟩:=gx ns (i:=(k:Int).toNat) bL;exact aK iu I bL E (λ_ O=>aE gv (O.ext u.aF) (jz (aC (λG=>⟨gL (n3 .i64) (l6 B E (ew G.symm)).symm,u.aF⟩) λG=>aJ bL ⟨_,bL,k+1,rfl,rfl,bL,dY B E (ez λh=>G h.symm),u⟩)))
def C263(B:Value)(ns:List ByteArray)(s:ByteArray)(w:World)(E:cZ (λ_=>True) w B ns)(G:ns.length<=1048576):CR 263 [B,.string s] w (λv w'=>v=.bool (ns.any λy=>decide (y=s))/\Ext w w'):=by
 have u:=St.start w;refine fb Tryz.func263 ?_;exact aV X9 u (C225 _ _ _ _ (E.ext u.aF) bL) (λ_ _ u=>cO ⟨vb (Ch _ _),u.aF⟩)
def C281(M fv:Value)(xs:List ByteArray)(g:ByteArray->Bool)(w:World)(J:cZ (λ_=>True) w M xs)(O:wD w fv g)(hn:xs.length<=1073741824):CR 281 [M,fv] w (λv w'=>v=ir (sg g xs)/\Ext w w'):=by
 obtain⟨g0,first,cap,rfl,Z,Y⟩:=O;have u:=St.start w;refine fb Tryz.func281 ?_;refine aI iu (J.ext u.aF) ?_;refine⟨λm x I=>∃k:Nat,x=ir (k:Int)/\m=xs.length-k/\k<=xs.length/\(∀y∈xs.take k,g y=false)/\St w aX [] I,⟨_,0,rfl,rfl,l2 _,ee,u⟩,?_⟩;rintro m _ I ⟨k,rfl,rfl,hk,B,u⟩ _;refine aN (aC (λjA=>?_) λ_=>⟨gL (n3 .i64) (jb (by rw[la bL]at B;exact B)).symm,u.aF⟩);obtain⟨W,E⟩:=gx xs (i:=(k:Int).toNat) bL;refine aK iu J bL E (λ_ U=>aE gv (U.ext u.aF) (gS Z (Y W I u.aF) ?_))
 rintro _ _ ⟨rfl,V⟩;have u:=u.ext V;exact aW (λG=>⟨gL (n3 .i64) (l6 B E G).symm,u.aF⟩) (λG=>aJ bL ⟨xs.length-(k+1),bL,k+1,rfl,rfl,bL,dY B E G,u⟩)
def C240(B fv:Value)(xs:List ByteArray)(g:ByteArray->Bool)(w:World)(E:cZ (λ_=>True) w B xs)(G:wD w fv g)(I:xs.length<=1073741824):CR 240 [B,fv] w (λv w'=>v=.bool (xs.any g)/\Ext w w'):=by
 have u:=St.start w;refine fb Tryz.func240 ?_;exact aV apC u (C281 _ _ _ _ _ (E.ext u.aF) (G.ext u.aF) bL) (λ_ _ u=>cO ⟨vb (kN _ _),u.aF⟩)
def C264(lv:Value)(xs:List bU)(w:World)(J:cZ (λ_=>True) w lv xs)(hn:xs.length<=1048576)(Z:fz xs=true):CR 264 [lv] w (λv w'=>lf (bF v (nT xs)) w w'):=by
 have u:=St.start w;refine fb Tryz.func264 ?_;refine aV Sx u (C185 _ _ _ (J.ext u.aF) bL) (λW he u=>bN (aW (λE=>?_) λE=>?_))
 .rw[Z]at E;cases E
 refine aI gU (J.ext u.aF) ?_;refine⟨λm G x W=>∃k:Nat,x=ir (k:Int)/\m=xs.length-k/\k<=xs.length/\St w aX [bF G (nT (xs.take k))] W,⟨_,0,rfl,rfl,bL,u.eU (α:=ByteArray)⟩,?_⟩;rintro m G _ _ ⟨k,rfl,rfl,hk,u⟩ _;refine aN (aC (λlg=>?_) λlg=>?_)
 .obtain⟨B,V⟩:=gx xs (i:=(k:Int).toNat) bL;refine⟨λI w'=>St w aX [bF I (nS (nT (xs.take k)) B)] w',?_,?_⟩
  .have WA:=C2 (xs.take k);rw[l9]at WA;refine aK gU J bL V (λ_ EW=>aE rW (EW.ext u.aF) (aQ u yg λY _ u=>aM (x:=B) u rW rfl rfl λ_ u=>⟨λI w'=>I=.bool (decide (B.op=2)&&!(nT (xs.take k)).any λy=>decide (y=B.name))/\St w aX [bX Y (kp B),bF G (nT (xs.take k))] w',aA eX (aB (v:=ir B.op) bO u.hb rfl (aG (aC (λ_=>aA gj (aB (v:=.string B.name) gv u.hb rfl (aV ahb u (C263 _ _ _ _ u.p1.dS bL) λ_ _ u=>bN ⟨vb cD,u⟩))) λ_=>⟨vb cD,u⟩))),?_⟩))
   rintro _ _ ⟨rfl,u⟩ _;refine aW (λM=>?_) (λM=>?_)
   .refine aA gj (aB (v:=.string B.name) gv u.hb rfl (bD ([B.name]) u iu rfl rfl (dQ rfl) λO _ u=>?_));have Pm:=u.dS;refine bJ u.p2 iu Pm (by simp<;>omega) dy (λU _ u=>?_);have u:=u.p1.drop;rw[Yw (by simpa using M)];exact u.p1.drop
   rw[Yx (by simpa using M)];exact u.drop
  rintro wO _ u _;exact aJ bL ⟨_,bL,k+1,rfl,rfl,bL,by rw[Mv (k:=k) V];exact u⟩
 rw[la bL]at u;exact u.fresh
def JG{α:Type}[Flat α]{S:Nat->Prop}{w:World}{v:Value}{xs:List α}(h:cZ S w v xs):rN v=true:=by obtain⟨a,c,rfl,_⟩:=h;rfl
theorem UJ(ns:List ByteArray)(xs:List bU):(qz ns xs).length<=xs.length:=by
 unfold qz
 split
 .unfold Cc
  cases h:zF xs with
  | none=>grind
  | some t=>
   rw[Ex.pK,<- Ex.cX,<- (vC h).2];omega
 grind
theorem C265(lv nv:Value)(xs:List bU)(ns:List ByteArray)(i:Int)(t:Ex)(N:Nat)(w:World)(G:cZ (λ_=>True) w lv xs)(W:cZ (λ_=>True) w nv ns)(hn:xs.length<=1048576)(BN:ns.length<=1048576)(E:BO xs i t)(hNt:t.size<N):CR 265 [lv,ir i,nv] w (λv w'=>lf (bF v (t.steps ns)) w w'):=by
 obtain⟨B,Z,J⟩:∃e,e=t.root/\xs[(i).toNat]?=some e:=⟨_,rfl,E.root.1⟩;have hri:=E.root.2;have hie:=E.end;have Pg:=Ex.oU E.2.1;rw[<- Z]at Pg;have XU:=ua B.op;have hi0:=E.1;have hwk:=Pv (k:=B.op) bL;have u:=St.start w;refine pj Tryz.func265 (pl:=awV) ?_;refine aJ bL (aK gU G bL J λ_ gZ=>bT B.op eX gZ rfl rfl λ_ uN=>aE bO (uN.ext u.aF) (aV WZ u (C267 _ _) λw1 he u=>?_));refine⟨λm O a x w1=>∃k:Nat,a=ir (i+1+qy t.eu k)/\x=ir (k:Int)/\m=t.eu.length-k/\k<=t.eu.length/\St w aX [bF O (XV ns t.eu k)] w1,⟨_,0,gL (n3 .i64) (by simp[qy]),rfl,rfl,bL,u.eU (α:=ou)⟩,?_⟩
 rintro m O _ _ _ ⟨k,rfl,rfl,rfl,hk,u⟩ _;refine aN (aC (λfo=>?_) λfo=>?_)
 .obtain⟨a,I⟩:=gx t.eu (i:=k) bL;have hka:=Ex.ub E.2.1 (kO I);have Uy:=E.kid I;have V8:=Uy.end;have Uz:=a.rp;have Y:=DN (ns:=ns) (ks:=t.eu) (k:=k);have V9:=Ex.pK ns a;refine dB ag8 u (C265 _ _ _ _ _ _ (N-1) _ (G.ext u.aF) (W.ext u.aF) hn BN Uy bL) (λx24 _ cE u=>?_);have Pw:=u.dS;exact bJ u.p1 tG Pw bL dy (λ_ _ u=>have u:=u.p1.drop;aV X8 u (C245 _ _ _ _ (G.ext u.aF) bL) λ_ _ u=>aJ bL ⟨_,bL,k+1,gL (n3 .i64) (by rw[V8.1,uO I];omega),rfl,rfl,bL,by rw[LY I];exact u⟩)
 have Y:=DN (ns:=ns) (ks:=t.eu) (k:=k);refine aK gU G bL J (λ_ xz=>bT B.op eX xz rfl rfl λ_ V=>have u:=u.drew;aE bO (V.ext u.aF) (aK gU G bL J λ_ xu=>bT B.n ji xu rfl rfl λ_ wm=>aE bO (wm.ext u.aF) (pop (EH _ _) (aQ u Jn λB9 _ u=>?_))));refine⟨fq bO (V.ext u.aF),?_⟩;refine⟨fq bO (wm.ext u.aF),?_⟩;refine aM (x:=(⟨B.op,B.n⟩:ou)) u ED rfl rfl (λ_ u=>⟨λw'=>St w aX [bX B9 (kp (⟨B.op,Ex.numOf ns B⟩:ou)),bF O (XV ns t.eu k)] w',aA nE (aB (v:=ir ((⟨B.op,B.n⟩:ou).kind)) bO u.hb rfl (aG (aC (λU=>?_) λU=>?_))),?_⟩)
 .refine aK gU G bL J (λ_ xo=>bT B.name gj xo rfl rfl λ_ L4=>aE gv (L4.ext u.aF) (aV X9 u (C225 _ _ _ _ (W.ext u.aF) bL) λ_ he u=>aA qt (aR u bO (dQ rfl) (rfl) λ_ u=>?_)));have u:=u.enc (cs':=kp ({ (⟨B.op,B.n⟩:ou)with n:=(cU ns B.name)}:ou)) rfl;have M:Ex.numOf ns B=cU ns B.name:=ej U;rw[<- M]at u;exact u
 .have M:Ex.numOf ns B=B.n:=ei U;rw[<- M]at u;exact u
 rintro _ u _;refine aE ED u.At (bD ([(⟨B.op,Ex.numOf ns B⟩:ou)]) u tG rfl rfl (dQ rfl) λapO _ u=>?_);have Px:=u.dS;refine bJ u.p2 tG Px (by rw[Y,nh];have:(t.steps ns).length=t.size:=Ex.pK ns t;rw[Ex.vB,l0,nh,<- show k=t.eu.length from bL]at this;omega) dy (λapP _ u=>?_);have u:=u.p1.drop;rw[Ex.vB,<- show k=t.eu.length from bL,<- Z];exact u.p1.drop.fresh
termination_by N
decreasing_by all_goals omega
def C262(s:ByteArray)(b2:Nat)(B:Value)(ns:List ByteArray)(w:World)(hc:Cell w b2 0 B)(E:cZ (λ_=>True) w B ns)(G:ns.length<=1048576):CR 262 [.string s,.pointer (some ⟨b2,0,none⟩)] w (λv w'=>v=.bool (!ns.any λy=>decide (y=s))/\Ext w w'):=by
 have u:=St.start w;refine fb Tryz.func262 ?_;exact bE je (hc.ext u.aF) (aV ahb u (C263 _ _ _ _ (E.ext u.aF) bL) λ_ _ u=>bN ⟨rfl,u.aF⟩)
def C218(lv O:Value)(xs:List bU)(ns:List ByteArray)(w:World)(G:cZ (λ_=>True) w lv xs)(E:cZ (λ_=>True) w O ns)(hn:xs.length<=1048576)(BN:ns.length<=1048576):CR 218 [lv,O] w (λv w'=>∃s,v=.tuple #[s,ir (kQ ns xs)]/\lf (bF s (qz ns xs)) w w'):=by
 have u:=St.start w;refine adJ _ _ _ _ ?_;unfold S218;refine nx u (JG E) (λMx w1 u=>aV Sx u (C185 _ _ _ (G.ext u.aF) bL) λ_ he u=>bN (aW (λU=>?_) λU=>?_))
 .have W:kQ ns xs=8:=adY (by simpa using U);refine⟨_,by rw[W],?_⟩;rw[Mw (by rw[W];decide)];exact(u.drop.eU (α:=ou)).fresh
 have B:fz xs=true:=by simpa using U
 have WA:=C2 xs;have Y:=adZ (ns:=ns) B;refine dB apx u (C264 _ _ _ (G.ext u.aF) hn B) (λx12 _ cE u=>?_)
 have J:wD _ (.func (.func 262) [].toArray [.pointer (some ⟨Mx,0,none⟩)].toArray) (λs=>!ns.any λy=>decide (y=s)):=
  ⟨262,[],_,rfl,apz,λy w1 V=>C262 y Mx O ns w1 ((u.p1.hb.cell rfl).ext V) ((E.ext u.aF).ext V) BN⟩
 refine aV aha u (C240 _ _ _ _ _ u.dS J bL) (λ_ he u=>aW (λM=>?_) λM=>?_)
 .have Z:kQ ns xs=9:=by rw[Y,ej M]
  refine⟨_,by rw[Z],?_⟩;rw[Mw (by rw[Z];decide)];exact(u.drop.drop.eU (α:=ou)).fresh
 refine aB je u.p1.hb rfl ?_;have h0:kQ ns xs=0:=by rw[Y,ei (by simpa using M)]
 have XX:=zG B;obtain⟨t,ht⟩:=BO.of (xs:=xs) (i:=0) bL;have hz:=ht.zero XX;refine dB ag8 u (C265 _ _ _ _ _ t (t.size+1) _ (G.ext u.aF) (E.ext u.aF) hn BN ht bL) (λI _ cE u=>?_);refine⟨I,by rw[h0],?_⟩;unfold qz Cc;rw[ej h0,hz.2];exact u.p1.drop.p1.drop.fresh
def C143(lv M E:Value)(xs:List bU)(ns:List ByteArray)(nums:List Int)(w:World)(O:cZ (λ_=>True) w lv xs)(G:cZ (λ_=>True) w M ns)(I:cZ (λ_=>True) w E nums)(Z:xs.length<=1048576)(BN:ns.length<=1048576):CR 143 [lv,M,E] w (λv w'=>v=.tuple #[ir (pN ns nums xs).1,ir (pN ns nums xs).2]/\Ext w w'):=by
 have u:=St.start w;refine adK _ _ _ _ _ ?_;unfold S143;refine aI iu (G.ext u.aF) (aI cQ (I.ext u.aF) (bW (aC (λV=>?_) λV=>?_)))
 .refine⟨?_,u.aF⟩;unfold pN;rw[ei bL]
 refine dR apy (C218 _ _ _ _ _ (O.ext u.aF) (G.ext u.aF) bL bL) ?_;rintro J _ ⟨Y,rfl,U⟩;have u:=u.made U;refine aO rfl (aO rfl (bW (aC (λB=>?_) λB=>?_)))
 .refine⟨?_,u.aF⟩;unfold pN;rw[ej bL,ei B]
 have Hs:=UJ ns xs;refine aV an2 u (C219 _ _ _ _ _ u.dS (I.ext u.aF) bL) (λ_ W u=>aO rfl (aO rfl ?_));refine⟨?_,u.aF⟩;unfold pN;rw[ej bL,ej (by simpa using B)]
variable (w:World) (K:Value->hM)
def awZ:dL:=λi=>match i with
 | 9=>(.of [(0,[]),(1,[]),(2,[]),(3,[]),(4,[]),(6,[]),(7,[]),(5,[7]),(8,[]),(9,[]),(10,[]),(11,[]),(12,[]),(13,[]),(15,[]),(16,[]),(14,[16]),(17,[]),(18,[]),(19,[]),(20,[]),(21,[]),(22,[]),(24,[]),(25,[]),(23,[25]),(26,[]),(27,[]),(28,[]),(29,[]),(30,[]),(31,[]),(33,[]),(34,[]),(32,[34]),(35,[]),(36,[]),(37,[]),(38,[])])
 | _=>.nil
def S284(B me:Value):Prop:=
 od (λV Z E a=>∀_:Env,
 lN 141 B λb=>bA .lss 3 E b λc=>cV c (iA 141 B E λd=>lA 193 d a λe=>aL 193 a λf g=>sA 193 f e g λh=>bB .add 3 E (i 1) λj=>fA 193 f 6 λk=>lA 3 k h λl=>
 bA .add 3 j l λn=>fA 193 f 7 λo=>lA 3 o h λp=>bA .add 3 n p λq=>eH (λK2=>fA 193 f 0 λr=>lA 3 r h λs=>bB .eql 3 s (i 11) λt=>cV t (K2 tt h) (fA 193 f 0 λu=>
 lA 3 u h λv=>bB .eql 3 v (i 12) λx=>K2 x h)) (λSC y=>∀_:Env,
 eH (λG=>fA 193 f 6 λz=>lA 3 z y λaa=>bB .lss 3 aa (i 0) λab=>cV ab (G tt y) (fA 193 f 7 λac=>lA 3 ac y λad=>bB .lss 3 ad (i 0) λae=>cV ae (G tt y) (
 fA 193 f 6 λaf=>lA 3 af y λag=>lN 141 B λah=>bA .gtr 3 ag ah λai=>cV ai (G tt y) (fA 193 f 7 λaj=>lA 3 aj y λak=>lN 141 B λal=>bA .gtr 3 ak al λam=>
 cV am (G tt y) (lN 141 B λan=>bA .gtr 3 q an λao=>G ao y))))) (λap O=>∀_:Env,
 cV ap (K (i (-1)) O) (eH (λJ=>eH (λK5=>eK hH (Op.unary .not SC) λar=>cV ar (fA 193 f 6 λasx=>lA 3 asx O λau=>bB .gtr 3 au (i 0) λav=>K5 av O) (
 K5 ff O)) (λaw I=>∀_:Env,
 cV aw (J aw I) (eH (λK6=>fA 193 f 0 λay=>lA 3 ay I λaz=>bB .neq 3 az (i 11) λa0=>cV a0 (fA 193 f 7 λa1=>lA 3 a1 I λa2=>bB .gtr 3 a2 (i 0) λa3=>K6 a3 I) (
 K6 ff I)) (λa4 M=>∀_:Env,
 cV a4 (J a4 M) (fA 193 f 0 λa6=>lA 3 a6 M λa7=>bB .eql 3 a7 (i 13) λa8=>cV a8 (bB .eql 3 me (i 0) λa9=>J a9 M) (J ff M)))))) (λba U=>∀_:Env,
 cV ba (K (i (-1)) U) (eH (λK7=>cV SC (fA 193 f 0 λbc=>lA 3 bc U λbd=>bB .eql 3 bd (i 12) λbe=>cF 302 [be] U λbf Y=>bA .add 3 me bf λbh=>bB .add 3 E (i 1) λbi=>
 bB .add 3 E (i 1) λbj=>fA 193 f 6 λbk=>lA 3 bk (drew Y) λbl=>bA .add 3 bj bl λbm=>eK hH (oa 141 B (some bi) (some bm) none) λbn=>bB .add 3 E (i 1) λbo=>
 fA 193 f 6 λbp=>lA 3 bp (drew Y) λbq=>bA .add 3 bo bq λbr=>eK hH (oa 141 B (some br) (some q) none) λbs=>cF 284 [bn,bh] (drew Y) λbt bu=>
 kA 3 bp bq bu (cF 284 [bs,bh] bu λbv bw=>eH (λK8=>bB .eql 3 bt (i (-1)) λbx=>cV bx (K8 tt bw) (bB .eql 3 bv (i (-1)) λbz=>K8 bz bw)) (λb0 b1=>∀_:Env,
 cV b0 (K (i (-1)) b1) (bB .add 3 bt (i 1) λb2=>bB .add 3 bv (i 1) λb3=>eK hH (Builtin.max_ #[3,3,3] 3 [Z,b2,b3].toArray) λb4=>K7 b4 b1)))) (K7 Z U)) (λW b5=>∀_:Env,
 V W q b5))))))) (K Z a)) (λV=>V (i 0) (i 0) w)
def aw0:dL:=λi=>match i with
 | 15=>(.of [(0,[]),(1,[]),(2,[]),(3,[]),(4,[]),(5,[]),(6,[]),(7,[]),(8,[]),(9,[]),(11,[]),(12,[]),(13,[]),(14,[]),(15,[]),(16,[]),(17,[]),(18,[]),(19,[]),(10,[15]),(20,[]),(21,[]),(22,[])])
 | _=>.nil
theorem ad0(B u:Value)(h:S284 w K B u):CR 284 [B,u] w K:=
 oe 131 aw0 16 [.tmp 4] Tryz.func284 h
theorem apQ:PL 310:=dJ Tryz.func310
theorem apR:PL 283:=dJ Tryz.func283
theorem My:PL 311:=dJ Tryz.func311
theorem ahi:PL 313:=dJ Tryz.func313
theorem ahj:PL 314:=dJ Tryz.func314
theorem Yy:PL 284:=dJ Tryz.func284
theorem apS:PL 241:=dJ Tryz.func241
theorem apT:PL 108:=dJ Tryz.func108
theorem apU:PL 177:=dJ Tryz.func177
theorem apV:PL 179:=dJ Tryz.func179
theorem apW:PL 182:=dJ Tryz.func182
theorem apX:PL 183:=dJ Tryz.func183
theorem Yz:PL 178:=dJ Tryz.func178
theorem apY:PL 233:=dJ Tryz.func233
theorem ahk:PL 181:=dJ Tryz.func181
theorem apZ:PL 239:=dJ Tryz.func239
theorem YA:PL 184:=dJ Tryz.func184
theorem ap0:PL 282:=dJ Tryz.func282
theorem ap1:PL 309:=dJ Tryz.func309
theorem ap2:PL 232:=dJ Tryz.func232
theorem ap3:PL 279:=dJ Tryz.func279
theorem ahl:PL 186:=dJ Tryz.func186
theorem ap4:PL 247:=dJ Tryz.func247
theorem YB:PL 187:=dJ Tryz.func187
theorem ap5:PL 248:=dJ Tryz.func248
theorem ap6:PL 188:=dJ Tryz.func188
theorem ap7:PL 249:=dJ Tryz.func249
end Go.Proofs.YtpdlpabnlkofmaaGreatDoor
namespace Go.Proofs.YtpdlpabnlkofmaaGreatDoor
open Go.Fw
variable (w:World) (K:Value->hM)
theorem ap8:PL 336:=dJ Tryz.func336
theorem ap9:PL 312:=dJ Tryz.func312
end Go.Proofs.YtpdlpabnlkofmaaGreatDoor
namespace Go.Proofs.YtpdlpabnlkofmaaGreatDoor
open Go.Fw
structure K15 where
instance:Flat K15 where
 agg:=true
 sz:=15
 enc _:=UB.map IF
 val _:=.agg (UB.map IF).toArray
 pos:=dy
 len _:=rfl
 one a v h:=by grind[rN]
 nU _ _:=rfl
 nV h:=by cases h
def C336(w:World):CR 336 [] w (λv w'=>v=jr (⟨⟩:K15)/\Ext w w'):=by
 have u:=St.start w;refine fb Tryz.func336 ?_;exact aQ u ada (λ_ _ u=>pop (v:=jr (⟨⟩:K15)) (by kernel_rfl) (aM (x:=(⟨⟩:K15)) u agJ rfl rfl λ_ u=>aE (x:=(⟨⟩:K15)) agJ u.At ⟨rfl,u.drop.aF⟩))
theorem C310(k:Int)(w:World):CR 310 [ir k] w (λv w'=>v=.string (fE k)/\Ext w w'):=by
 have u:=St.start w;refine fb Tryz.func310 ?_;refine⟨λB w'=>B=.bool (decide (k<0\/15<=k))/\w'=w,?_,?_⟩
 .exact aN (aC (λc=>⟨vb (ew (.inl c)).symm,rfl⟩) λ_=>cO ⟨vb (fN.2 bL),rfl⟩)
 rintro _ _ ⟨rfl,rfl⟩ _;refine aC (λ_=>⟨gL IF (by unfold fE;rw[ej bL]),u.aF⟩) (λc=>aV ap8 u (C336 _) λ_ E u=>?_);obtain⟨n,rfl⟩:∃n:Nat,k=n:=⟨k.toNat,bL⟩;refine pop (v:=.string (fE n)) ?_ ⟨rfl,u.aF⟩
 match n,c with
 | 0,_=>exact(by kernel_rfl:pr hH (wk 364 (jr K15.mk) (ir ((0:Nat):Int)))=some (.string (fE ((0:Nat):Int))))
 | 1,_=>exact(by kernel_rfl:pr hH (wk 364 (jr K15.mk) (ir ((1:Nat):Int)))=some (.string (fE ((1:Nat):Int))))
 | 2,_=>exact(by kernel_rfl:pr hH (wk 364 (jr K15.mk) (ir ((2:Nat):Int)))=some (.string (fE ((2:Nat):Int))))
 | 3,_=>exact(by kernel_rfl:pr hH (wk 364 (jr K15.mk) (ir ((3:Nat):Int)))=some (.string (fE ((3:Nat):Int))))
 | 4,_=>exact(by kernel_rfl:pr hH (wk 364 (jr K15.mk) (ir ((4:Nat):Int)))=some (.string (fE ((4:Nat):Int))))
 | 5,_=>exact(by kernel_rfl:pr hH (wk 364 (jr K15.mk) (ir ((5:Nat):Int)))=some (.string (fE ((5:Nat):Int))))
 | 6,_=>exact(by kernel_rfl:pr hH (wk 364 (jr K15.mk) (ir ((6:Nat):Int)))=some (.string (fE ((6:Nat):Int))))
 | 7,_=>exact(by kernel_rfl:pr hH (wk 364 (jr K15.mk) (ir ((7:Nat):Int)))=some (.string (fE ((7:Nat):Int))))
 | 8,_=>exact(by kernel_rfl:pr hH (wk 364 (jr K15.mk) (ir ((8:Nat):Int)))=some (.string (fE ((8:Nat):Int))))
 | 9,_=>exact(by kernel_rfl:pr hH (wk 364 (jr K15.mk) (ir ((9:Nat):Int)))=some (.string (fE ((9:Nat):Int))))
 | 10,_=>exact(by kernel_rfl:pr hH (wk 364 (jr K15.mk) (ir ((10:Nat):Int)))=some (.string (fE ((10:Nat):Int))))
 | 11,_=>exact(by kernel_rfl:pr hH (wk 364 (jr K15.mk) (ir ((11:Nat):Int)))=some (.string (fE ((11:Nat):Int))))
 | 12,_=>exact(by kernel_rfl:pr hH (wk 364 (jr K15.mk) (ir ((12:Nat):Int)))=some (.string (fE ((12:Nat):Int))))
 | 13,_=>exact(by kernel_rfl:pr hH (wk 364 (jr K15.mk) (ir ((13:Nat):Int)))=some (.string (fE ((13:Nat):Int))))
 | 14,_=>exact(by kernel_rfl:pr hH (wk 364 (jr K15.mk) (ir ((14:Nat):Int)))=some (.string (fE ((14:Nat):Int))))
 | n+15,c=>exact absurd (.inr bL) c
def ajl:List Nat:=[107,114,110,101,102]
def aqa(c:Nat):ByteArray:=⟨#[c.toUInt8]⟩
def C312(k:Int)(c:Nat)(hc:c∈ajl)(w:World):CR 312 [.string (fE k),.string (aqa c)] w (λv w'=>v=.bool (eP (fE k) c)/\Ext w w'):=by
 have u:=St.start w;refine fb Tryz.func312 ?_;refine aV ahg u (C337 (fE k) c.toUInt8 _) (λ_ B u=>cO ?_);refine⟨vb ?_,u.aF⟩;have h1:=Yj (iO (fE k)) c.toUInt8;have h2:c.toUInt8.toNat=c:=(by decide:∀c∈ajl,c.toUInt8.toNat=c) c hc;unfold eP;rw[show(λb:UInt8=>decide ((b.toNat:Int)=(c:Int)))=λb=>decide (b=c.toUInt8)from funext λ_=>fN.2 ⟨λ_=>UInt8.toNat_inj.1 bL,λh=>by rw[h,h2]⟩];exact(Bool.eq_iff_iff.2 (decide_eq_true_iff.trans h1))
def C311(k:Int)(c b2:Nat)(w:World)(hc:Cell w b2 0 (.string (fE k)))(B:c∈ajl):CR 311 [.string (aqa c),.pointer (some ⟨b2,0,none⟩)] w (λv w'=>v=.bool (eP (fE k) c)/\Ext w w'):=by
 have u:=St.start w;refine fb Tryz.func311 ?_;exact bE gv (hc.ext u.aF) (aV ap9 u (C312 k c B _) λ_ _ u=>⟨rfl,u.aF⟩)
def C313(b:Bool)(s:ByteArray)(w:World):CR 313 [.bool b,.string s] w (λv w'=>v=.bool ((b&&gI s)||(!b&&decide (s=⟨#[]⟩)))/\Ext w w'):=by
 have u:=St.start w;refine fb Tryz.func313 ?_;refine⟨λB w'=>B=.bool ((b&&gI s)||(!b&&decide (s=⟨#[]⟩)))/\St w aX [] w',aW (λ_=>aV L9 u (C180 _ _) λ_ _ u=>aW (λ_=>⟨vb cD,u⟩) λ_=>bN (aW (λ_=>jz ⟨vb cD,u⟩) λ_=>⟨vb cD,u⟩)) (λ_=>bN (aW (λ_=>jz ⟨vb cD,u⟩) λ_=>⟨vb cD,u⟩)),?_⟩;rintro _ _ ⟨rfl,u⟩ _;exact⟨rfl,u.aF⟩
def C314(b:Bool)(lv:Value)(xs:List bU)(w:World)(B:cZ (λ_=>True) w lv xs)(G:xs.length<=1048576):CR 314 [.bool b,lv] w (λv w'=>v=.bool ((b&&fz xs)||(!b&&decide (xs.length=0)))/\Ext w w'):=by
 have u:=St.start w;refine fb Tryz.func314 ?_;refine⟨λE w'=>E=.bool ((b&&fz xs)||(!b&&decide (xs.length=0)))/\St w aX [] w',aW (λ_=>aV Sx u (C185 _ _ _ (B.ext u.aF) bL) λ_ _ u=>aW (λ_=>⟨vb cD,u⟩) λ_=>bN (aW (λ_=>aI gU (B.ext u.aF) (aG ⟨vb cD,u⟩)) λ_=>⟨vb cD,u⟩)) (λ_=>bN (aW (λ_=>aI gU (B.ext u.aF) (aG ⟨vb cD,u⟩)) λ_=>⟨vb cD,u⟩)),?_⟩;rintro _ _ ⟨rfl,u⟩ _;exact⟨rfl,u.aF⟩
theorem Mz{x:bM}{u:Bool}(h:u=(if eP (fE x.kind) 107=true then decide (1<=x.n/\x.n<=8)else decide (x.n=0))) :
  (!(decide (1<=x.kind/\x.kind<15/\0<=x.at_/\x.at_<=4000)&&u)||(!(eP (fE x.kind) 114&&gI x.ey||!eP (fE x.kind) 114&&decide (x.ey=⟨#[]⟩))||(!(eP (fE x.kind) 110&&gI x.name||!eP (fE x.kind) 110&&decide (x.name=⟨#[]⟩)) ||
  (!(eP (fE x.kind) 101&&fz x.e||!eP (fE x.kind) 101&&decide (x.e.length=0))||!(eP (fE x.kind) 102&&fz x.f||!eP (fE x.kind) 102&&decide (x.f.length=0)))))) = !m9 x:=by
 subst h
 have E:gI x.ey=true->¬ x.ey=⟨#[]⟩:=λh e=>by rw[e]at h;exact absurd h dy
 have B:gI x.name=true->¬ x.name=⟨#[]⟩:=λh e=>by rw[e]at h;exact absurd h dy
 have I:fz x.e=true->¬ x.e.length=0:=λh e=>by rw[vq.1 e]at h;exact absurd h dy
 have G:fz x.f=true->¬ x.f.length=0:=λh e=>by rw[vq.1 e]at h;exact absurd h dy
 unfold m9
 cases h1:eP (fE x.kind) 114<;>cases h2:eP (fE x.kind) 110<;>cases h3:eP (fE x.kind) 101<;>cases h4:eP (fE x.kind) 102<;>cases h5:eP (fE x.kind) 107<;>simp<;>grind
def C283(x:bM)(Z:aZ)(w:World)(hx:n5 w Z x)(U:x.e.length<=1048576)(Y:x.f.length<=1048576):CR 283 [jr Z] w (λv w'=>v=.bool (!m9 x)/\Ext w w'):=by
 obtain⟨O,V,rfl,L5,HG⟩:=hx;have u:=St.start w;refine pj Tryz.func283 (pl:=awZ) ?_;refine cP u (λW _ u=>aA dN (aB (v:=ir x.kind) bO u.hb rfl (aV apQ u (C310 _ _) λ_ B u=>gV u agF rfl λE _ u=>aR u gv (dQ rfl) (rfl) λ_ u=>aA jH (aB (v:=ir x.n) bO u.p1.hb rfl (aG ⟨λG w'=>G=.bool (if eP (fE x.kind) 107=true then decide (1<=x.n/\x.n<=8)else decide (x.n=0))/\St w aX [bX E [.string (fE x.kind)],bX W (kp (⟨x.kind,x.ey,x.name,O,V,x.n,x.body,x.ep,x.at_⟩:aZ))] w',?_,?_⟩)))))
 .refine gS My (C311 x.kind 107 E _ (u.hb.cell rfl) dy) ?_;rintro _ _ ⟨rfl,B⟩;have u:=u.ext B;exact aW (λ_=>aA jH (aB (v:=ir x.n) bO u.p1.hb rfl (cO (aC (λ_=>aA jH (aB (v:=ir x.n) bO u.p1.hb rfl (gu ⟨vb cD,u⟩))) λ_=>⟨vb cD,u⟩)))) (λ_=>⟨vb cD,u⟩)
 rintro _ _ ⟨rfl,u⟩ _;refine⟨λG w'=>G=.bool (decide (1<=x.kind/\x.kind<15/\0<=x.at_/\x.at_<=4000)&&(if eP (fE x.kind) 107=true then decide (1<=x.n/\x.n<=8)else decide (x.n=0)))/\St w aX [bX E [.string (fE x.kind)],bX W (kp (⟨x.kind,x.ey,x.name,O,V,x.n,x.body,x.ep,x.at_⟩:aZ))] w',?_,?_⟩
 .refine aA dN (aB (v:=ir x.kind) bO u.p1.hb rfl (cO ?_));exact aC (λ_=>aA dN (aB (v:=ir x.kind) bO u.p1.hb rfl (aN (aC (λ_=>aA jI (aB (v:=ir x.at_) bO u.p1.hb rfl (cO (aC (λ_=>aA jI (aB (v:=ir x.at_) bO u.p1.hb rfl (gu (aC (λ_=>⟨vb cD,u⟩) λ_=>⟨vb cD,u⟩)))) λ_=>⟨vb cD,u⟩)))) λ_=>⟨vb cD,u⟩)))) (λ_=>⟨vb cD,u⟩)
 rintro _ _ ⟨rfl,u⟩ _;refine⟨λG w'=>G=.bool (!m9 x)/\St w aX [bX E [.string (fE x.kind)],bX W (kp (⟨x.kind,x.ey,x.name,O,V,x.n,x.body,x.ep,x.at_⟩:aZ))] w',bN (aW (λ_=>have u:=u.drew;⟨vb (by rw[<- Mz rfl];grind),u⟩) λxA=>?_),?_⟩
 .refine aA iC (have u:=u.drew;aB (v:=.string x.ey) gv u.p1.hb rfl (gS My (C311 x.kind 114 E _ (u.hb.cell rfl) dy) ?_));rintro _ _ ⟨rfl,B⟩;have u:=u.ext B;refine⟨aH gv (u.p1.hb.cell rfl),?_⟩;refine gS ahi (C313 _ x.ey _) ?_;rintro _ _ ⟨rfl,B⟩;have u:=u.ext B;refine bN (aW (λ_=>⟨vb (by rw[<- Mz rfl];grind),u⟩) λahm=>aA fY (aB (v:=.string x.name) gv u.p1.hb rfl (gS My (C311 x.kind 110 E _ (u.hb.cell rfl) dy) ?_)));rintro _ _ ⟨rfl,B⟩;have u:=u.ext B;refine⟨aH gv (u.p1.hb.cell rfl),?_⟩;refine gS ahi (C313 _ x.name _) ?_
  rintro _ _ ⟨rfl,B⟩;have u:=u.ext B;refine bN (aW (λ_=>⟨vb (by rw[<- Mz rfl];grind),u⟩) λM=>aA iV (aB jo u.p1.hb rfl ?_));have J:=DL.flat L5;refine gS My (C311 x.kind 101 E _ (u.hb.cell rfl) dy) ?_;rintro _ _ ⟨rfl,B⟩;have u:=u.ext B;refine⟨aH jo (u.p1.hb.cell rfl),?_⟩;refine gS ahj (C314 _ _ x.e _ (J.ext u.aF) U) ?_;rintro _ _ ⟨rfl,B⟩;have u:=u.ext B;refine bN (aW (λ_=>⟨vb (by rw[<- Mz rfl];grind),u⟩) λag3=>aA j1 (aB jo u.p1.hb rfl ?_));have I:=DL.flat HG;refine gS My (C311 x.kind 102 E _ (u.hb.cell rfl) dy) ?_
  rintro _ _ ⟨rfl,B⟩;have u:=u.ext B;refine⟨aH jo (u.p1.hb.cell rfl),?_⟩;refine gS ahj (C314 _ _ x.f _ (I.ext u.aF) Y) ?_;rintro _ _ ⟨rfl,B⟩;have u:=u.ext B;exact bN ⟨vb (by rw[<- Mz rfl];grind),u⟩
 rintro _ _ ⟨rfl,u⟩ _;exact⟨rfl,u.drop.drop.aF⟩
def Ci{l:List bU}(h:fz l=true):∀y∈l,0<=y.at_:=by
 intro y B
 unfold fz at h
 have u:l.any kX=false:=cD
 rw[CP]at u
 have:=u y B
 unfold kX at this
 grind
structure aqb(x:bM):Prop where
 kind:1<=x.kind/\x.kind<=14
 at0:0<=x.at_/\x.at_<=4000
 e:(eP (fE x.kind) 101=true/\fz x.e=true)\/(eP (fE x.kind) 101=false/\x.e=[])
 f:(eP (fE x.kind) 102=true/\fz x.f=true)\/(eP (fE x.kind) 102=false/\x.f=[])
 ey:(eP (fE x.kind) 114=true/\gI x.ey=true)\/(eP (fE x.kind) 114=false/\x.ey=⟨#[]⟩)
 name:(eP (fE x.kind) 110=true/\gI x.name=true)\/(eP (fE x.kind) 110=false/\x.name=⟨#[]⟩)
 n:(eP (fE x.kind) 107=true/\1<=x.n/\x.n<=8)\/(eP (fE x.kind) 107=false/\x.n=0)
def yp{x:bM}(h:m9 x=true):aqb x:=by
 unfold m9 at h
 simp only[oj,u1,Bool.or_eq_false_iff,decide_eq_false_iff_not,bne_eq_false_iff_eq,Bool.and_eq_false_iff,Bool.not_eq_false',A0]at h
 obtain⟨⟨⟨h1,h2⟩,h3⟩,h4⟩:=h
 constructor
 .omega
 .omega
 .grind
 .grind
 .grind
 .grind
 grind
def ad2{x:bM}(h:m9 x=true):0<=x.at_/\(∀y∈x.e,0<=y.at_)/\(∀y∈x.f,0<=y.at_):=by
 have h:=yp h
 refine⟨h.at0.1,?_,?_⟩
 .rcases h.e with h|h
  .exact Ci h.2
  grind
 rcases h.f with h|h
 .exact Ci h.2
 grind
theorem ajm:eP (fE 12) 107=true:=dy
theorem lr{l:List bM}(h:pL l=true):l.length<=40/\(∀x∈l,m9 x=true)/\∃t:Bk,l=t.flat/\t.str/\t.ok 0=true/\t.depth<=12:=by
 unfold pL at h
 simp only[oj,decide_eq_true_eq,u1]at h
 obtain⟨⟨h1,h2⟩,h3⟩:=h
 rw[CP]at h2
 refine⟨h1,λx E=>cD,?_⟩
 unfold fC at h3
 cases hb:ti l with
 | none=>grind
 | some t=>
  rw[hb]at h3
  obtain⟨u,B⟩:=nY hb
  grind
structure PF(p:cR):Prop where
 lines:∀l∈p.lines,l≠[]/\∀c∈l,iQ 4294967296 c=false
 iP:∀c∈p.iP,iQ 4294967296 c=false
 eE:∀c∈p.eE,iQ 0 c=false
 th:∀t∈p.threads,my true t=false
 rc:∀t∈p.recover,my false t=false
 cl:∀c∈p.dV,0<=c.at_/\fz c.e=true
 one:p.recover.length<=1
def qB{p:cR}(h:ko p=true):PF p:=by
 unfold ko nZ nL at h
 simp only[oj,u1,CP,decide_eq_true_eq]at h
 obtain⟨⟨h1,h2⟩,⟨⟨h3,h4⟩,h5⟩,h6⟩:=h
 refine⟨λl u=>?_,λc hc=>cD,λc hc=>cD,λt ht=>cD,λt ht=>cD,λc hc=>?_,h6⟩
 .have:=h1 l u
  unfold nR nZ at this
  grind
 have:=h2 c hc
 unfold lM rq at this
 grind
def zM{nb:Bool}{t:cK}(h:my nb t=false):0<=t.at_/\pL t.body=true/\(∀s∈t.dO,gI s=true)/\gI t.name=nb:=by
 unfold my so rq at h
 grind
def zN{m:Int}{c:cC}(h:iQ m c=false):0<=c.at_/\gI c.name=true/\0<=c.n/\c.n<=m:=by
 unfold iQ rq at h
 grind
def gl(p:cR):List cK:=p.threads++p.recover
def PF.rF{p:cR}(h:PF p){t:cK}(ht:t∈gl p):0<=t.at_/\pL t.body=true/\∀s∈t.dO,gI s=true:=by
 unfold gl at ht
 rcases pd.1 ht with ht|ht
 .have:=zM (h.th t ht);grind
 have:=zM (h.rc t ht);grind
def fB(p:cR):List Int:=(iJ p).map cC.n
def eL(p:cR):Int:=(p.lines.flatten.length:Int)
def YC(p:cR):((iJ p).length:Int)-p.iP.length=eL p:=by unfold iJ eL;rw[l0];omega
def cT(p:cR):List ByteArray:=(iJ p).map cC.name
def cH(p:cR):List ByteArray:=p.eE.map cC.name
def jl:List (List cC)->Int->Int->Int
 | [],i,a=>i+a
 | l::r,i,a=>if a<l.length then i else jl r (i+1) (a-l.length)
def pw(p:cR)(c:Int):Int:=if c<0\/(iJ p).length<=c then -1 else jl p.lines 0 c
def oZ(l:List bU)(ns:List ByteArray):Bool:=l.any λx=>decide (x.op=2)&&decide (cU ns x.name<0)
def qX(x:bM)(n:Int):Int:=if x.kind=12 then n*x.n else n
def mC:Bk->Int->Bool
 | .nil,_=>false
 | .cons x a b r,n=>decide (64<qX x n)||(mC a (qX x n)||mC b (qX x n))||mC r n
def Bk.app:Bk->Bk->Bk
 | .nil,t=>t
 | .cons x a b r,t=>.cons x a b (r.app t)
theorem Bk.A4(a b:Bk):(a.app b).flat=a.flat++b.flat:=by
 induction a with
 | nil=>rfl
 | cons x c d r _ _ u=>grind[flat,app]
theorem Bk.SD{a b:Bk}(u:a.str)(hb:b.str):(a.app b).str:=by
 induction a with
 | nil=>exact hb
 | cons x c d r _ _ B=>
  grind[str,app]
theorem HN(a b:Bk)(n:Int):mC (a.app b) n=(mC a n||mC b n):=by
 induction a with
 | nil=>simp[Bk.app,mC]
 | cons x c d r _ _ u=>simp only[Bk.app,mC,u,Bool.or_assoc]
def qY(l:List bM):Bool:=match ti l with|some t=>mC t 1|none=>false
theorem vE{t:Bk}(h:t.str):qY t.flat=mC t 1:=by unfold qY;rw[rE h]
def fO(p:cR):List cC:=iJ p++p.eE++p.threads.map (λt=>⟨t.name,0,t.at_⟩)
def DU(l:List cC)(j:Nat):Bool:=match l[j]? with|some c=>decide (cU (l.map cC.name) c.name<j)|none=>false
def kr(l:List cC):Bool:=(tg l.length).any (DU l)
def SE(p:cR)(rs:List ByteArray)(j:Nat):Bool:=match rs[j]? with|some s=>decide (cU rs s<j)||decide (0<=cU (cT p) s)||decide (0<=cU (cH p) s)|none=>false
def uV(p:cR)(rs:List ByteArray):Bool:=(tg rs.length).any (SE p rs)
theorem MC{f:Nat->Bool}{n:Nat}(h:∀j,j<n->f j=false):(tg n).any f=false:=by
 grind
theorem MD{f:Nat->Bool}{n j:Nat}(u:j<n)(h:f j=true):(tg n).any f=true:=xy.2 ⟨j,Ns.2 u,h⟩
def SF{f:Nat->Bool}{k:Nat}(h:∀j,j<k->f j=false)(u:f k=false):∀j,j<k+1->f j=false:=λj B=>by
 grind
def nc(p:cR)(rs:List ByteArray)(x:bM):Bool:=
 (decide (¬ x.ey=⟨#[]⟩)&&decide (cU rs x.ey<0)) ||
 ((decide (x.kind=2)||decide (x.kind=3)||decide (x.kind=4))&&decide (cU (cT p) x.name<0)) ||
 ((decide (x.kind=5)||decide (x.kind=6))&&(decide (cU (cT p) x.name<0)||decide (eL p<=cU (cT p) x.name))) ||
 ((decide (x.kind=9)||decide (x.kind=10))&&decide (cU (cH p) x.name<0))||oZ x.e rs||oZ x.f rs
def uW(p:cR):Bool:=p.lines.any (λl=>decide (4<(l.length:Int)))||(gl p).any (λt=>decide (4<(t.dO.length:Int))) ||
 (decide (4<(p.lines.length:Int))||decide (4<(p.iP.length:Int))||decide (2<(p.eE.length:Int))||decide ((p.threads.length:Int)<1)||decide (3<(p.threads.length:Int))||decide (4<(p.dV.length:Int)))
def gm(p:cR):List ByteArray:=(cT p).take (eL p).toNat
def fr(p:cR):Int:=
 if ko p=false then 8 else if uW p=true then 2 else if (gl p).any (λt=>qY t.body)=true then 11 else if kr (fO p)=true then 10
 else if (gl p).any (λt=>uV p t.dO)=true then 10 else if (gl p).any (λt=>t.body.any (nc p t.dO))=true then 9
 else if p.dV.any (λc=>oZ c.e (gm p))=true then 9 else 0
def JH{x:bM}(h:m9 x=true):0<=x.at_/\(x.kind=12->1<=x.n/\x.n<=8):=by
 have h:=yp h
 refine⟨h.at0.1,λu=>?_⟩
 rcases h.n with h|h
 .exact h.2
 rw[u,ajm]at h;grind
section
variable {p:cR}
theorem ce8(h1:ko p=false):fr p=8:=by unfold fr;grind
theorem ce2(h1:ko p=true)(h2:uW p=true):fr p=2:=by grind[fr]
theorem aqc(h1:ko p=true)(h2:uW p=false)(h3:(gl p).any (λt=>qY t.body)=true):fr p=11:=by grind[fr]
theorem aqd(h1:ko p=true)(h2:uW p=false)(h3:(gl p).any (λt=>qY t.body)=false)(h4:kr (fO p)=true):fr p=10:=by
 grind[fr]
theorem ahn(h1:ko p=true)(h2:uW p=false)(h3:(gl p).any (λt=>qY t.body)=false)(h4:kr (fO p)=false)(h5:(gl p).any (λt=>uV p t.dO)=true):fr p=10:=by
 grind[fr]
theorem ce9(h1:ko p=true)(h2:uW p=false)(h3:(gl p).any (λt=>qY t.body)=false)(h4:kr (fO p)=false)(h5:(gl p).any (λt=>uV p t.dO)=false)
  (h6:(gl p).any (λt=>t.body.any (nc p t.dO))=true):fr p=9:=by
 grind[fr]
theorem aqe(h1:ko p=true)(h2:uW p=false)(h3:(gl p).any (λt=>qY t.body)=false)(h4:kr (fO p)=false)(h5:(gl p).any (λt=>uV p t.dO)=false)
  (h6:(gl p).any (λt=>t.body.any (nc p t.dO))=false) (u:p.dV.any (λc=>oZ c.e (gm p))=true):fr p=9:=by
 grind[fr]
theorem ce0(h1:ko p=true)(h2:uW p=false)(h3:(gl p).any (λt=>qY t.body)=false)(h4:kr (fO p)=false)(h5:(gl p).any (λt=>uV p t.dO)=false)
  (h6:(gl p).any (λt=>t.body.any (nc p t.dO))=false) (u:p.dV.any (λc=>oZ c.e (gm p))=false):fr p=0:=by
 grind[fr]
theorem PF.decl(h:PF p):∀c∈fO p,0<=c.at_:=by
 intro c hc
 unfold fO iJ at hc
 rcases pd.1 hc with hc|hc
 .rcases pd.1 hc with hc|hc
  .rcases pd.1 hc with hc|hc
   .obtain⟨l,u,hc⟩:=List.mem_flatten.1 hc
    exact(zN ((h.lines l u).2 c hc)).1
   exact(zN (h.iP c hc)).1
  exact(zN (h.eE c hc)).1
 obtain⟨t,ht,rfl⟩:=o1.1 hc
 exact(zM (h.th t ht)).1
theorem UK(u:PS p):(fO p).length<=252000:=by
 have:=kP u
 have:=u.eE
 have:=u.threads
 grind[fO]
theorem mD(u:PS p):(cT p).length<=250500:=by unfold cT;rw[mW];exact kP u
theorem DV(u:PS p):(gl p).length<=1000:=by
 have:=u.threads
 have:=u.recover
 grind[gl]
theorem PZ.rF(u:PZ p){t:cK}(ht:t∈gl p):X2 t/\t.dO.length<=500/\t.body.length<=500:=by
 refine⟨?_,u.dO t ht,u.body t ht⟩
 rcases pd.1 ht with h|h
 .exact u.zt t h
 exact u.zr t h
end
def C118(p:cR)(pv:bP)(w:World)(hp:n5 w pv p)(B:PZ p):CR 118 [jr pv] w (λv w'=>v=.bool (ko p)/\Ext w w'):=by
 obtain⟨W,bR,J,Y,aU,V,rfl,cN,dD,cW,bY,bZ,cM⟩:=hp;have u:=St.start w;refine fb Tryz.func118 ?_;refine cP u (λZ w1 u=>?_);refine⟨λm x w1=>∃k:Nat,x=ir (k:Int)/\m=p.lines.length-k/\k<=p.lines.length/\(∀y∈p.lines.take k,nR y=false)/\St w aX [bX Z (kp (⟨W,bR,J,Y,aU,V⟩:bP))] w1,⟨_,0,rfl,rfl,l2 _,ee,u⟩,?_⟩;rintro m _ _ ⟨k,rfl,rfl,hk,er,u⟩ _;have hzl:=B.lines;refine aA gw (aB oH u.hb rfl ?_);obtain⟨ajn,UL,YD⟩:=cN.open
 have aw1:=YD.1;refine aI pG (UL.ext u.aF) (aN (aC (λjA=>?_) λjA=>?_))
 .obtain⟨EX,qO⟩:=gx ajn (i:=(k:Int).toNat) bL;obtain⟨aho,Fo⟩:=gx p.lines (i:=(k:Int).toNat) bL;have aqf:DL w (jr EX) aho:=YD.2 _ _ _ qO Fo;refine⟨λjv w'=>jv=.bool (nR aho)/\St w aX [bX Z (kp (⟨W,bR,J,Y,aU,V⟩:bP))] w',?_,?_⟩
  .refine aA gw (aB oH u.hb rfl (aK pG (UL.ext u.aF) bL qO λ_ uN=>aE jD uN ?_));have O:=DL.flat aqf;exact aI ic (O.ext u.aF) (aG (aC (λ_=>⟨vb (by unfold nR;grind),u⟩) λ_=>aA gw (aB oH u.hb rfl (aK pG (UL.ext u.aF) bL qO λ_ oV=>aE jD oV (aV WU u (C198 _ _ _ _ (O.ext u.aF) (by have:=B.line _ (kO Fo);omega) (B.zl _ (kO Fo))) λ_ _ u=>bN ⟨vb (by unfold nR;grind),u⟩)))))
  rintro _ _ ⟨rfl,u⟩ _;refine aW (λlh=>?_) (λlh=>aJ bL ⟨_,bL,k+1,rfl,rfl,bL,dY er Fo lh,u⟩);refine⟨vb ?_,u.drop.aF⟩;unfold ko;rw[gY Fo lh];rfl
 have I:=er;refine⟨λm x w1=>∃E:Nat,x=ir (E:Int)/\m=p.dV.length-E/\E<=p.dV.length/\(∀y∈p.dV.take E,lM y=false)/\St w aX [bX Z (kp (⟨W,bR,J,Y,aU,V⟩:bP))] w1,⟨_,0,rfl,rfl,l2 _,ee,u⟩,?_⟩;rintro m _ _ ⟨E,rfl,rfl,XU,Py,u⟩ _;have hzc:=B.dV;refine aA jn (aB qN u.hb rfl ?_);obtain⟨aw2,G,M⟩:=cM.open;have hn13:=M.1;refine aI tf (G.ext u.aF) (aN (aC (λj5=>?_) λj5=>⟨λjv w'=>jv=.bool (nZ 4294967296 p.iP&&nZ 0 p.eE&&nL true p.threads&&nL false p.recover&&decide (p.recover.length<=1))/\St w aX [bX Z (kp (⟨W,bR,J,Y,aU,V⟩:bP))] w',?_,?_⟩))
 .obtain⟨ME,Cj⟩:=gx aw2 (i:=(E:Int).toNat) bL;obtain⟨U,Fp⟩:=gx p.dV (i:=(E:Int).toNat) bL;obtain⟨ad4,rfl,ad5⟩:=M.2 _ _ _ Cj Fp;refine⟨λjv w'=>jv=.bool (lM U)/\St w aX [bX Z (kp (⟨W,bR,J,Y,aU,V⟩:bP))] w',aA jn (aB qN u.hb rfl (aK tf (G.ext u.aF) bL Cj λ_ wm=>bT U.at_ Jj wm rfl rfl λ_ xt=>aE bO xt (aV RS u (C199 _ _) λ_ he u=>bN (aW (λ_=>⟨vb (by unfold lM;grind),u⟩) λqC=>?_)))),?_⟩
  .refine aA jn (aB qN u.hb rfl (aK tf (G.ext u.aF) bL Cj λ_ xo=>bT ad4 vx xo rfl rfl λ_ L4=>aE jo L4 ?_));have aw3:=DL.flat ad5;exact aV Lj u (C200 _ _ _ (aw3.ext u.aF) (B.zc _ (kO Fp)).1 (B.zc _ (kO Fp)).2) (λ_ _ u=>bN ⟨vb (by unfold lM;grind),u⟩)
  rintro _ _ ⟨rfl,u⟩ _;refine aW (λuX=>?_) (λuX=>aJ bL ⟨_,bL,E+1,rfl,rfl,bL,dY Py Fp uX,u⟩);refine⟨vb ?_,u.drop.aF⟩;unfold ko;rw[gY Fp uX];simp
 .refine aA pY (aB jD u.hb rfl ?_);have aw4:=DL.flat dD;refine aV WU u (C198 _ _ _ _ (aw4.ext u.aF) (by have:=B.iP;omega) B.zv) (λ_ he u=>aW (λSm=>?_) λ_=>⟨vb cD,u⟩);refine aA nO (aB jD u.hb rfl ?_);have ajp:=DL.flat cW;refine aV WU u (C198 _ _ _ _ (ajp.ext u.aF) (by have:=B.eE;omega) B.zk) (λ_ he u=>aW (λc_x59=>aA kD (aB iq u.hb rfl (aV agr u (C201 _ _ true _ (bY.ext u.aF) (by have:=B.threads;omega) λ_ ht=>B.rF (List.mem_append_left _ ht)) λ_ he u=>aW (λuY=>aA oI (aB iq u.hb rfl (aV agr u (C201 _ _ false _ (bZ.ext u.aF) (by have:=B.recover;omega) λ_ ht=>B.rF (List.mem_append_right _ ht)) λ_ he u=>aW (λagT=>?_) λ_=>⟨vb cD,u⟩))) λ_=>⟨vb cD,u⟩))) λ_=>⟨vb cD,u⟩)
  refine aA oI (aB iq u.hb rfl ?_);obtain⟨ts17,aw5,aw6⟩:=bZ.open;have hn17:=aw6.1;exact aI fu (aw5.ext u.aF) (gu ⟨vb cD,u⟩)
 rintro _ _ ⟨rfl,u⟩ _;refine⟨vb ?_,u.drop.aF⟩;unfold ko;rw[ix (by rw[la bL]at I;exact I),ix (by rw[la bL]at Py;exact Py)];rfl
def C63(p:cR)(pv:bP)(w:World)(hp:n5 w pv p)(Y:PZ p):CR 63 [jr pv] w (λv w'=>lf (bF v (fB p)) w w'):=by
 obtain⟨J,U,G,I,O,E,rfl,cN,dD,cW,bY,bZ,cM⟩:=hp;have u:=St.start w;refine fb Tryz.func63 ?_;refine cP u (λkj M u=>bD ([]:List Int) u cQ rfl rfl (dQ rfl) λad6 _ u=>aE fp u.p1.At (dB Ui u (C59 p _ _ ⟨J,U,G,I,O,E,rfl,cN.ext u.aF,dD.ext u.aF,cW.ext u.aF,bY.ext u.aF,bZ.ext u.aF,cM.ext u.aF⟩ Y.toPS) λx8 _ cE u=>?_));have u:=u.p2.p1.p2;refine⟨λm y x M=>∃k:Nat,x=ir (k:Int)/\m=(iJ p).length-k/\k<=(iJ p).length/\St w aX [bF y (((iJ p).take k).map cC.n),bF x8 (iJ p),bX kj (kp (⟨J,U,G,I,O,E⟩:bP))] M,⟨_,0,rfl,rfl,bL,u⟩,?_⟩
 rintro m jX _ _ ⟨k,rfl,rfl,hk,u⟩ _;have Z:=kP Y.toPS;have Hs:(((iJ p).take k).map cC.n).length=k:=by rw[mW,l9];omega
 refine aI ic u.p1.dS (aN (aC (λlg=>?_) λlg=>?_))
 .obtain⟨V,W⟩:=gx (iJ p) (i:=(k:Int).toNat) bL;refine dG u.p1 ic bL bL (λ_ si=>mq rV si λ_ j8=>nH V.n u.p1 bO j8 W rfl (bD ([V.n]:List Int) u cQ rfl rfl (dQ rfl) λaqi _ u=>?_));have B:=u.dS;exact bJ u.p1 cQ B (by simp<;>omega) dy (λ_ _ u=>have u:=u.p1.drop;aJ bL (have u:=u.p2.p2.p2;⟨_,bL,k+1,rfl,rfl,bL,by rw[<- fV (k:=k) W];exact u⟩))
 have u:=u.p1.drop.p1.drop;rw[la bL]at u;exact u.fresh
def C124(p:cR)(pv:bP)(w:World)(U:n5 w pv p)(B:PZ p):CR 124 [jr pv] w (λv w'=>lf (bF v (cT p)) w w'):=by
 obtain⟨V,Z,J,O,Y,E,rfl,cN,dD,I,M,W,G⟩:=U;have u:=St.start w;refine fb Tryz.func124 ?_;exact cP u (λ_ _ u=>aE fp u.At (dB Ui u (C59 p _ _ ⟨V,Z,J,O,Y,E,rfl,cN.ext u.aF,dD.ext u.aF,I.ext u.aF,M.ext u.aF,(W).ext u.aF,G.ext u.aF⟩ B.toPS) λ_ _ _ u=>dB WV u (C202 _ _ _ u.dS (by have:=kP B.toPS;omega)) λ_ _ _ u=>have u:=u.p1.drop.p1.drop;u.fresh))
def C125(p:cR)(pv:bP)(w:World)(G:n5 w pv p)(I:PZ p):CR 125 [jr pv] w (λv w'=>lf (bF v (cH p)) w w'):=by
 obtain⟨W,bR,O,V,aU,J,rfl,cN,dD,E,U,Y,M⟩:=G;have u:=St.start w;refine fb Tryz.func125 ?_;refine cP u (λZ _ u=>aA nO (aB jD u.hb rfl ?_));have B:=DL.flat E;exact dB WV u (C202 _ _ _ (B.ext u.aF) (by have:=I.eE;omega)) (λ_ _ _ u=>have u:=u.p1.drop;u.fresh)
def C62(p:cR)(pv:bP)(w:World)(Y:n5 w pv p)(E:PZ p):CR 62 [jr pv] w (λv w'=>v=ir (eL p)/\Ext w w'):=by
 obtain⟨Z,bR,U,W,aU,J,rfl,cN,G,O,V,bZ,M⟩:=Y;have u:=St.start w;refine pj Tryz.func62 (pl:=P62) ?_;refine cP u (λkj _ u=>have u:=u.drew;aE fp u.At (aA pY (aB jD u.hb rfl ?_)));have B:=DL.flat G;refine aI ic (B.ext u.aF) (dB Ui u (C59 p _ _ ⟨Z,bR,U,W,aU,J,rfl,cN.ext u.aF,G.ext u.aF,O.ext u.aF,V.ext u.aF,bZ.ext u.aF,M.ext u.aF⟩ E.toPS) λx4 _ cE u=>?_);refine⟨aH jD (u.p1.hb.cell rfl),?_⟩
 refine aI ic u.dS ?_;have I:=kP E.toPS;have hzv:=E.iP;exact fc bL (have u:=u.drop.drop;⟨gL (n3 .i64) (YC p),u.aF⟩)
theorem YE{l:List cC}{r:List (List cC)}{i a:Int}(h:¬ a<l.length):jl (l::r) i a=jl r (i+1) (a-l.length):=by rw[jl,ei h]
def YF{x:bM}{n m:Int}(u:1<=n/\n<=64)(h:x.kind=12->1<=x.n/\x.n<=8)(B:m=qX x n):1<=m/\m<=512:=by
 rw[B];unfold qX
 split
 .rename_i hk
  have:=h hk
  have h1:=KH (a:=1) (b:=1) u.1 this.1 bL bL
  have h2:=KH (c:=64) (d:=8) u.2 this.2 bL bL
  omega
 omega
theorem Bk.DW{t:Bk}(h:¬ (t.flat.length:Int)=0):∃x a b r,t=.cons x a b r:=by
 cases t with
 | nil=>exact absurd rfl h
 | cons x a b r=>grind
theorem Bk.wP{x:bM}{a b r:Bk}(h:(Bk.cons x a b r).str){hi lo:Int}(h1:hi=1+x.body+x.ep)(h2:lo=1):((Bk.cons x a b r).flat.take hi.toNat).drop lo.toNat=(a.app b).flat:=by
 obtain⟨u,E,_⟩:=h
 have B:=a.cX
 have lb:=b.cX
 rw[Bk.A4,vD _ (a:=1) (n:=(a.flat++b.flat).length) cD bL]
 grind[flat]
theorem Bk.ajs{x:bM}{a b r:Bk}(h:(Bk.cons x a b r).str){hi:Int}(h1:hi=1+x.body+x.ep):(Bk.cons x a b r).flat.drop hi.toNat=r.flat:=by
 obtain⟨u,E,_⟩:=h
 have B:=a.cX
 have lb:=b.cX
 have e:(Bk.cons x a b r).flat=(x::(a.flat++b.flat))++r.flat:=by simp[Bk.flat]
 rw[e,show hi.toNat=(x::(a.flat++b.flat)).length from by simp;omega,GA]
theorem yq{l:List cC}{k:Nat}{c:cC}(h:l[k]?=some c):DU l k=decide (cU (l.map cC.name) c.name<k):=by unfold DU;rw[h]
theorem A5{p:cR}{l:List ByteArray}{k:Nat}{c:ByteArray}(h:l[k]?=some c):SE p l k=(decide (cU l c<k)||decide (0<=cU (cT p) c)||decide (0<=cU (cH p) c)):=by unfold SE;rw[h]
theorem DX(a b:Bk):(a.app b).len=a.len+b.len:=by rw[<- Bk.cX,Bk.A4,l0,Bk.cX,Bk.cX]
def C60(p:cR)(pv:bP)(c:Int)(w:World)(hp:n5 w pv p)(hz:PZ p):CR 60 [jr pv,ir c] w (λv w'=>v=ir (pw p c)/\Ext w w'):=by
 obtain⟨bI,bR,V,aT,aU,O,rfl,cN,dD,cW,bY,bZ,cM⟩:=hp;have u:=St.start w;refine fb Tryz.func60 ?_;refine cP u (λE w1 u=>⟨λjv w'=>jv=.bool (decide (c<0)||decide (((iJ p).length:Int)<=c))/\St w aX [bX E (kp (⟨bI,bR,V,aT,aU,O⟩:bP))] w',aN (aC (λ_=>⟨vb cD,u⟩) λ_=>aE fp u.At (dB Ui u (C59 p _ _ ⟨bI,bR,V,aT,aU,O,rfl,cN.ext u.aF,dD.ext u.aF,cW.ext u.aF,bY.ext u.aF,bZ.ext u.aF,cM.ext u.aF⟩ hz.toPS) λ_ _ _ u=>aI ic u.dS (cO (have u:=u.drop;⟨vb cD,u⟩)))),?_⟩)
 rintro _ _ ⟨rfl,u⟩ _;have hac:=kP hz.toPS;refine aW (λjk=>?_) (λjk=>?_)
 .refine⟨gL (n3 .i64) ?_,u.drop.aF⟩;unfold pw;rw[ej cD]
 have hc2:0<=c/\c<(iJ p).length:=cD
 refine⟨λm y x w1=>∃(k:Nat) (a:Int),y=ir a/\x=ir (k:Int)/\m=p.lines.length-k/\k<=p.lines.length/\0<=a/\a<=c/\jl p.lines 0 c=jl (p.lines.drop k) k a/\St w aX [bX E (kp (⟨bI,bR,V,aT,aU,O⟩:bP))] w1,⟨_,0,c,rfl,rfl,rfl,bL,bL,bL,rfl,u⟩,?_⟩;rintro m _ _ _ ⟨k,a,rfl,rfl,rfl,hk,ha0,hac1,B,u⟩ _;have hzl:=hz.lines;refine aA gw (aB oH u.hb rfl ?_);obtain⟨W,J,I⟩:=cN.open;have aw9:=I.1;refine aI pG (J.ext u.aF) (aN (aC (λkM=>?_) λkM=>?_))
 .refine aA gw (aB oH u.hb rfl ?_);obtain⟨Z,Pz⟩:=gx W (i:=(k:Int).toNat) bL;obtain⟨M,Y⟩:=gx p.lines (i:=(k:Int).toNat) bL;have U:DL w (jr Z) M:=I.2 _ _ _ Pz Y;refine aK pG (J.ext u.aF) bL Pz (λ_ E9=>aE jD E9 ?_);have G:=DL.flat U;refine aI ic (G.ext u.aF) (aN (aC (λl8=>?_) λl8=>?_))
  .refine⟨gL (n3 .i64) ?_,u.drop.aF⟩;rw[drop_cons (k:=k) Y]at B;unfold pw;rw[ei bL,B];unfold jl;rw[ej bL]
  refine aA gw (aB oH u.hb rfl (aK pG (J.ext u.aF) bL Pz λ_ xu=>aE jD xu (aI ic (G.ext u.aF) (fc bL (aJ bL ?_)))));rw[drop_cons (k:=k) Y,YE bL]at B;exact⟨_,bL,k+1,_,rfl,rfl,rfl,bL,bL,bL,B,u⟩
 refine aA gw (aB oH u.hb rfl (aI pG (J.ext u.aF) (aJ bL ?_)));refine⟨gL (n3 .i64) ?_,u.drop.aF⟩;rw[u6 bL]at B;unfold pw;rw[ei bL,B];unfold jl;omega
def C127(lv O:Value)(xs:List bU)(ns:List ByteArray)(w:World)(G:cZ (λ_=>True) w lv xs)(Y:cZ (λ_=>True) w O ns)(hn:xs.length<=1048576)(BN:ns.length<=1048576)(px:∀y∈xs,0<=y.at_):CR 127 [lv,O] w (λv w'=>∃a:Int,v=ir a/\decide (0<=a)=oZ xs ns/\Ext w w'):=by
 have u:=St.start w;refine fb Tryz.func127 ?_;refine⟨λm x M=>∃k:Nat,x=ir (k:Int)/\m=xs.length-k/\k<=xs.length/\(∀y∈xs.take k,(decide (y.op=2)&&decide (cU ns y.name<0))=false)/\St w aX [] M,⟨_,0,rfl,rfl,l2 _,ee,u⟩,?_⟩;rintro m _ M ⟨k,rfl,rfl,hk,I,u⟩ _;refine aI gU (G.ext u.aF) (aN (aC (λjA=>?_) λjA=>?_))
 .obtain⟨E,B⟩:=gx xs (i:=(k:Int).toNat) bL;refine⟨λZ w'=>Z=.bool (decide (E.op=2)&&decide (cU ns E.name<0))/\St w aX [] w',aK gU (G.ext u.aF) bL B (λ_ W=>bT E.op eX W rfl rfl λ_ uN=>aE bO uN (aG (aC (λ_=>aK gU (G.ext u.aF) bL B λ_ U=>bT E.name gj U rfl rfl λ_ oV=>aE gv oV (aV rK u (C123 _ ns _ _ (Y.ext u.aF) bL) λ_ _ u=>aN ⟨vb cD,u⟩)) λ_=>⟨vb cD,u⟩))),?_⟩;rintro _ _ ⟨rfl,u⟩ _;exact aW (λJ=>aK gU (G.ext u.aF) bL B λ_ mw=>bT E.at_ rX mw rfl rfl λ_ V=>aE bO V ⟨_,rfl,by unfold oZ;rw[gY B J];exact ew (px _ (kO B)),u.aF⟩) (λJ=>aJ bL ⟨_,bL,k+1,rfl,rfl,bL,dY I B J,u⟩)
 rw[la bL]at I;exact⟨_,rfl,by unfold oZ;rw[ix I];rfl,u.aF⟩
theorem C121(lv:Value)(t:Bk)(n:Int)(N:Nat)(w:World)(hL:DL w lv t.flat)(ie:t.str)(hq:∀x∈t.flat,0<=x.at_/\(x.kind=12->1<=x.n/\x.n<=8))(O:1<=n/\n<=64)(hl:t.len<=1048576)(hN:t.len<N):CR 121 [lv,ir n] w (λv w'=>∃a:Int,v=ir a/\decide (0<=a)=mC t n/\Ext w w'):=by
 have td:=t.cX;have u:=St.start w;refine fb Tryz.func121 ?_;obtain⟨axa,J,G⟩:=hL.open;have hn22:=G.1;refine aI fk (J.ext u.aF) (aG (aC (λju=>?_) λju=>?_))
 .cases t with
  | nil=>exact⟨_,rfl,rfl,u.aF⟩
  | cons x a b r=>exact absurd td (by rw[show(Bk.cons x a b r).len=a.len+b.len+r.len+1 from rfl];omega)
 obtain⟨x,a,b,r,rfl⟩:=Bk.DW (t:=t) bL;obtain⟨uM,vz⟩:=gx axa (i:=(0:Int).toNat) bL;obtain⟨B,YH⟩:=gx ((Bk.cons x a b r).flat) (i:=(0:Int).toNat) bL;obtain⟨SG,SH,rfl,aul,aum⟩:=G.2 _ _ _ vz YH;refine aK fk (J.ext u.aF) bL vz (λ_ EW=>?_);obtain rfl:B=x:=(ob.inj YH).symm;have I:=hq B (by simp[Bk.flat]);have YI:=ie;obtain⟨uZ,DY,JI,hg4,Z,Y,hgr⟩:=YI;have GJ:a.len+b.len+r.len+1<=1048576:=hl;have hNn:a.len+b.len+r.len+1<N:=hN;have hla:=a.cX;have Jy:=b.cX;have UO:=r.cX
 have YG:(Bk.cons B a b r).flat.length=a.len+b.len+r.len+1:=Bk.cX _;refine aE eD EW (aQ u iN λJF _ u=>aM (x:=(⟨B.kind,B.ey,B.name,SG,SH,B.n,B.body,B.ep,B.at_⟩:aZ)) u eD rfl rfl λ_ u=>⟨λjv w'=>∃m:Int,jv=ir m/\m=qX B n/\St w aX [bX JF (kp (⟨B.kind,B.ey,B.name,SG,SH,B.n,B.body,B.ep,B.at_⟩:aZ))] w',aA dN (aB (v:=ir B.kind) bO u.hb rfl (aG (aC (λlL=>aA jH (aB (v:=ir B.n) bO u.hb rfl (DG (by have UP:=I.2 lL;have h1:=KH (a:=1) (b:=1) O.1 UP.1 bL bL;have h2:=KH (c:=64) (d:=8) O.2 UP.2 bL bL;omega) ⟨_,rfl,by grind[qX],u⟩))) λ_=>⟨_,rfl,by grind[qX],u⟩))),?_⟩)
 rintro _ _ ⟨m,rfl,M,u⟩ _;have hm8:=YF O I.2 M;refine cL (aC (λ_=>aA jI (aB (v:=ir B.at_) bO u.hb rfl ⟨_,rfl,by unfold mC;rw[<- M,ew (show(64:Int)<m by omega)];exact ew I.1,u.drop.aF⟩)) λnK=>aA iW (aB (v:=ir B.body) bO u.hb rfl (aJ bL (aA iD (aB (v:=ir B.ep) bO u.hb rfl (aJ bL (oq fk (J.ext u.aF) bL bL bL λaqo W=>?_)))))));have aju:=DL.cut W J G;refine dR WO (C121 _ (a.app b) m (N-1) _ (by have h:=aju.ext u.aF;rw[Bk.wP ie bL bL]at h;exact h) (Bk.SD Z Y) (λy U=>hq y (by rw[Bk.A4]at U;simp only[Bk.flat,s4,pd];rcases pd.1 U with h|h<;>simp[h])) bL (by rw[DX];omega) (by rw[DX];omega)) ?_
 rintro _ _ ⟨a1,rfl,E,he⟩;have u:=u.ext he;rw[HN]at E;refine cO (aC (λV=>⟨_,rfl,by unfold mC;rw[<- M];rw[ew V]at E;rw[<- E,ew V];simp,u.drop.aF⟩) λV=>zC fk (J.ext u.aF) bL bL λahr ajv=>?_);have ajw:=DL.Xy ajv J G;refine dR WO (C121 _ r n (N-1) _ (by have h:=ajw.ext u.aF;rw[Bk.ajs ie bL]at h;exact h) hgr (λy U=>hq y (by simp[Bk.flat,U])) O bL bL) ?_;rintro _ _ ⟨a2,rfl,V6,he⟩;have u:=u.ext he;exact⟨_,rfl,by unfold mC;rw[<- M];rw[<- E,V6,ez (show ¬ (64:Int)<m by omega),ez V];rfl,u.drop.aF⟩
termination_by N
decreasing_by all_goals omega
def C120(p:cR)(pv:bP)(B E:List cB)(w:World)(I:n5 w pv p)(h3:cZ (λ_=>True) w (jr pv.threads) B)(h4:cZ (λ_=>True) w (jr pv.recover) E)(V:B.length<=500)(M:E.length<=500):CR 120 [jr pv] w (λv w'=>lf (bF v (B++E)) w w'):=by
 obtain⟨bI,bR,bK,aT,aU,W,rfl,cN,dD,Z,bY,bZ,Y⟩:=I;have u:=St.start w;refine fb Tryz.func120 ?_;refine cP u (λkj _ u=>bD ([]:List cB) u fu rfl rfl (dQ rfl) λO _ u=>aA kD (aB iq u.p1.hb rfl ?_));have J:=(h3.ext u.aF);refine bJ u fu J (by simp<;>omega) dy (λG _ u=>aA oI (aB iq u.p1.hb rfl ?_));have U:=(h4.ext u.aF);exact bJ u fu U (by simp;omega) dy (λ_ _ u=>have u:=u.p1.drop;u.fresh)
def C122(p:cR)(pv:bP)(w:World)(hp:n5 w pv p)(B:PZ p)(px:∀c∈fO p,0<=c.at_):CR 122 [jr pv] w (λv w'=>∃a:Int,v=ir a/\decide (0<=a)=kr (fO p)/\Ext w w'):=by
 obtain⟨M,W,I,J,V,G,rfl,cN,dD,cW,bY,bZ,cM⟩:=hp;have u:=St.start w;refine acE _ _ _ ?_;unfold S122;refine cP u (λkj O u=>bD ([]:List cC) u ic rfl rfl (dQ rfl) λaeb _ u=>aE fp u.p1.At (dB Ui u (C59 p _ _ ⟨M,W,I,J,V,G,rfl,cN.ext u.aF,dD.ext u.aF,cW.ext u.aF,bY.ext u.aF,bZ.ext u.aF,cM.ext u.aF⟩ B.toPS) λx9 _ cE u=>?_));have ajx:=u.dS;refine bJ u.p1 ic ajx (by simp;have:=kP B.toPS;omega) dy (λao1 _ u=>have u:=u.p1.drop;aA nO (aB jD u.p1.hb rfl ?_))
 have axd:=DL.flat cW;have iX:=(axd.ext u.aF);refine bJ u ic iX (by simp;have:=kP B.toPS;have:=B.eE;omega) dy (λs_x14 _ u=>?_);have u:=u.p1.p1;refine⟨λm y x O=>∃k:Nat,x=ir (k:Int)/\m=p.threads.length-k/\k<=p.threads.length/\St w aX [bF y (iJ p++p.eE++(p.threads.take k).map λt=>(⟨t.name,0,t.at_⟩:cC)),bX kj (kp (⟨M,W,I,J,V,G⟩:bP))] O,⟨_,0,rfl,rfl,bL,by simpa using u⟩,?_⟩;rintro m l3 _ _ ⟨k,rfl,rfl,hk,u⟩ _;have hzt:=B.threads;refine aA kD (aB iq u.p1.hb rfl ?_)
 obtain⟨ajy,MF,UQ⟩:=bY.open;have axe:=UQ.1;refine aI fu (MF.ext u.aF) (aN (aC (λfo=>?_) λfo=>?_))
 .refine aA kD (have u:=u.drew;aB iq u.p1.hb rfl ?_);obtain⟨e_x26,PB⟩:=gx ajy (i:=(k:Int).toNat) bL;obtain⟨U,YJ⟩:=gx p.threads (i:=(k:Int).toNat) bL;obtain⟨ajz,ajA,rfl,ajB,ajC⟩:=UQ.2 _ _ _ PB YJ;refine aK fu (MF.ext u.aF) bL PB (λ_ uP=>bT U.name qn uP rfl rfl λ_ sm=>aE gv sm (aA kD (aB iq u.p1.hb rfl (aK fu (MF.ext u.aF) bL PB λ_ xz=>bT U.at_ qo xz rfl rfl λ_ qW=>aE bO qW (pop (EE _ _) (bD ([(⟨U.name,0,U.at_⟩:cC)]) u ic rfl rfl (dQ rfl) λaqp _ u=>?_))))))
  have Y:=u.dS;exact bJ u.p1 ic Y (by have:=kP B.toPS;have:=B.eE;have:=B.threads;simp;omega) dy (λ_ _ u=>have u:=u.p1.drop;aJ bL (have u:=u.p1.p1;⟨_,bL,k+1,rfl,rfl,bL,by rw[<- fV (k:=k) YJ,<- n4];exact u⟩))
 rw[la bL]at u;have DP:=UK B.toPS;have u:St w aX [bF l3 (fO p),bX kj (kp (⟨M,W,I,J,V,G⟩:bP))] _:=u;refine dB WV u (C202 _ _ _ u.dS bL) (λx39 _ cE u=>?_);have u:=u.p2.p2.p2;refine⟨λm x O=>∃k:Nat,x=ir (k:Int)/\m=(fO p).length-k/\k<=(fO p).length/\(∀j,j<k->DU (fO p) j=false)/\St w aX [bF x39 ((fO p).map cC.name),bF l3 (fO p),bX kj (kp (⟨M,W,I,J,V,G⟩:bP))] O,⟨_,0,rfl,rfl,bL,ee,u⟩,?_⟩
 rintro m _ _ ⟨k,rfl,rfl,hk,er,u⟩ _;refine aI ic u.p1.dS (aN (aC (λwe=>?_) λ_=>have u:=u.drop.drop.drop;⟨_,rfl,by unfold kr;rw[MC λj _=>er j bL];rfl,u.aF⟩));obtain⟨Fs,E⟩:=gx (fO p) (i:=(k:Int).toNat) bL;exact dG u.p1 ic bL bL (λ_ Ft=>mq kJ Ft λ_ YK=>nH Fs.name u.p1 gv YK E rfl (aV rK u (C123 _ ((fO p).map cC.name) _ _ u.dS (by rw[mW];omega)) λ_ _ u=>aN (aC (λZ=>dG u.p1 ic bL bL λ_ A7=>mq uH A7 λ_ A8=>nH Fs.at_ u.p1 bO A8 E rfl (have u:=u.drop.drop.drop;⟨_,rfl,by unfold kr;rw[MD (j:=k) bL (by rw[yq (k:=k) E];exact ew Z)];exact ew (px _ (kO E)),u.aF⟩)) λZ=>aJ bL ⟨_,bL,k+1,rfl,rfl,bL,SF er (by rw[yq (k:=k) E];exact ez Z),u⟩)))
def C126(p:cR)(pv:bP)(t:cK)(tv:cB)(x:bM)(xv:aZ)(w:World)(hp:n5 w pv p)(ht:n5 w tv t)(hx:n5 w xv x)(hz:PZ p)(hzt:t.dO.length<=500)(Y:SzS x)(U:0<=x.at_/\(∀y∈x.e,0<=y.at_)/\(∀y∈x.f,0<=y.at_)):CR 126 [jr pv,jr tv,jr xv] w (λv w'=>∃a:Int,v=ir a/\decide (0<=a)=nc p t.dO x/\Ext w w'):=by
 obtain⟨O,W,J,M,V,I,rfl,cN,dD,cW,bY,bZ,cM⟩:=hp;obtain⟨lO,lP,rfl,nM,sy⟩:=ht;obtain⟨wh,wi,rfl,L5,HG⟩:=hx;have Ag:=mD hz.toPS;have Ca:(cH p).length<=500:=by unfold cH;rw[mW];exact hz.eE
 have u:=St.start w;refine pj Tryz.func126 (pl:=avL) ?_;refine cP u (λG _ u=>cP u λE _ u=>cP u λJF _ u=>⟨λB w'=>B=.bool (decide (¬ x.ey=⟨#[]⟩)&&decide (cU t.dO x.ey<0))/\St w aX [bX JF (kp (⟨x.kind,x.ey,x.name,wh,wi,x.n,x.body,x.ep,x.at_⟩:aZ)),bX E (kp (⟨t.name,lO,lP,t.at_⟩:cB)),bX G (kp (⟨O,W,J,M,V,I⟩:bP))] w',aA iC (aB (v:=.string x.ey) gv u.hb rfl (lW (aC (λju=>?_) λ_=>⟨vb cD,u⟩))),?_⟩)
 .refine aA fS (aB je u.p1.hb rfl ?_);have ajG:=DL.flat nM;exact aA iC (aB (v:=.string x.ey) gv u.hb rfl (aV rK u (C123 _ t.dO _ _ (ajG.ext u.aF) bL) λ_ _ u=>aN ⟨vb cD,u⟩))
 rintro _ _ ⟨rfl,u⟩ _;refine aW (λ_=>aA jI (aB (v:=ir x.at_) bO u.hb rfl (have u:=u.drop.drop.drop;⟨_,rfl,by rw[ew U.1];unfold nc;grind,u.aF⟩))) (λfo=>have u:=u.drew;aE fp u.p2.At (aA fY (aB (v:=.string x.name) gv u.hb rfl (dB Lf u (C124 p _ _ ⟨O,W,J,M,V,I,rfl,cN.ext u.aF,dD.ext u.aF,cW.ext u.aF,bY.ext u.aF,bZ.ext u.aF,cM.ext u.aF⟩ hz) λx23 _ cE u=>?_))));refine⟨aH gv (u.p1.hb.cell rfl),?_⟩;refine aV rK u (C123 _ (cT p) _ _ u.dS bL) (λw7 he u=>⟨λw'=>(((decide (x.kind=2)||decide (x.kind=3)||decide (x.kind=4))&&decide (cU (cT p) x.name<0))||((decide (x.kind=5)||decide (x.kind=6))&&(decide (cU (cT p) x.name<0)||decide (eL p<=cU (cT p) x.name)))||((decide (x.kind=9)||decide (x.kind=10))&&decide (cU (cH p) x.name<0)))=false/\St w aX [bX JF (kp (⟨x.kind,x.ey,x.name,wh,wi,x.n,x.body,x.ep,x.at_⟩:aZ)),bX E (kp (⟨t.name,lO,lP,t.at_⟩:cB)),bX G (kp (⟨O,W,J,M,V,I⟩:bP))] w',aA dN (aB (v:=ir x.kind) bO u.p1.hb rfl ⟨λB w'=>B=.bool (decide (x.kind=2\/x.kind=3\/x.kind=4))/\w7=w',aG (aC (λ_=>⟨yd bL,rfl⟩) λ_=>aG (aC (λ_=>⟨yd bL,rfl⟩) λ_=>aG ⟨yd bL,rfl⟩)),?_⟩),?_⟩)
 .rintro _ _ ⟨rfl,hw⟩ _;subst hw;refine aC (λ_=>aN (aC (λ_=>aA jI (aB (v:=ir x.at_) bO u.p1.hb rfl (have u:=u.drop.drop.drop.drop;⟨_,rfl,by rw[ew U.1];unfold nc;grind,u.aF⟩))) λ_=>have u:=u.drop.p2.p2.p2;⟨cD,u⟩)) (λahs=>⟨λB w'=>B=.bool (decide (x.kind=5\/x.kind=6))/\w7=w',aG (aC (λ_=>⟨yd bL,rfl⟩) λ_=>aG ⟨yd bL,rfl⟩),?_⟩);rintro _ _ ⟨rfl,hw⟩ _;subst hw;refine aC (λoT=>⟨λB w'=>B=.bool (decide (cU (cT p) x.name<0)||decide (eL p<=cU (cT p) x.name))/\St w aX [bF x23 (cT p),bX JF (kp (⟨x.kind,x.ey,x.name,wh,wi,x.n,x.body,x.ep,x.at_⟩:aZ)),bX E (kp (⟨t.name,lO,lP,t.at_⟩:cB)),bX G (kp (⟨O,W,J,M,V,I⟩:bP))] w',aN (aC (λ_=>⟨vb cD,u⟩) λ_=>aE fp u.p3.At (aV acD u (C62 p _ _ ⟨O,W,J,M,V,I,rfl,cN.ext u.aF,dD.ext u.aF,cW.ext u.aF,bY.ext u.aF,bZ.ext u.aF,cM.ext u.aF⟩ hz) λ_ _ u=>cO ⟨vb cD,u⟩)),?_⟩) (λoT=>⟨λB w'=>B=.bool (decide (x.kind=9\/x.kind=10))/\w7=w',aG (aC (λ_=>⟨yd bL,rfl⟩) λ_=>aG ⟨yd bL,rfl⟩),?_⟩)
  .rintro _ _ ⟨rfl,u⟩ _;exact aW (λ_=>aA jI (aB (v:=ir x.at_) bO u.p1.hb rfl (have u:=u.drop.drop.drop.drop;⟨_,rfl,by rw[ew U.1];unfold nc;grind,u.aF⟩))) (λ_=>have u:=u.drop.p2.p2.p2;⟨cD,u⟩)
  rintro _ _ ⟨rfl,hw⟩ _;subst hw;exact aC (λ_=>have u:=u.drew;aE fp u.p3.At (aA fY (aB (v:=.string x.name) gv u.p1.hb rfl (dB RO u (C125 p _ _ ⟨O,W,J,M,V,I,rfl,cN.ext u.aF,dD.ext u.aF,cW.ext u.aF,bY.ext u.aF,bZ.ext u.aF,cM.ext u.aF⟩ hz) λ_ _ _ u=>⟨aH gv (u.p2.hb.cell rfl),aV rK u (C123 _ (cH p) _ _ u.dS bL) λ_ _ u=>aN (aC (λ_=>aA jI (aB (v:=ir x.at_) bO u.p2.hb rfl (have u:=u.drop.drop.drop.drop.drop;⟨_,rfl,by rw[ew U.1];unfold nc;grind,u.aF⟩))) λ_=>have u:=u.drop.drop.p2.p2.p2;⟨cD,u⟩)⟩)))) (λ_=>have u:=u.drop.p2.p2.p2;⟨cD,u⟩)
 rintro _ ⟨hmid,u⟩ _;refine aA iV (aB jo u.hb rfl ?_);have axf:=DL.flat L5;refine aA fS (aB je u.p1.hb rfl ?_);have Z:=DL.flat nM;refine dR WQ (C127 _ _ _ _ _ (axf.ext u.aF) (Z.ext u.aF) Y.2.2.1 bL U.2.1) ?_;rintro _ _ ⟨a_x65,rfl,axg,he⟩;have u:=u.ext he;refine cO (aC (λ_=>have u:=u.drop.drop.drop;⟨_,rfl,by unfold nc;grind,u.aF⟩) λxh=>aA j1 (aB jo u.hb rfl ?_));have axh:=DL.flat HG;refine aA fS (aB je u.p1.hb rfl (dR WQ (C127 _ _ _ _ _ (axh.ext u.aF) (Z.ext u.aF) Y.2.2.2.1 bL U.2.2) ?_))
 rintro _ _ ⟨a_x73,rfl,axi,he⟩;have u:=(((u.ext he).drop).drop).drop;exact⟨_,rfl,by unfold nc;grind,u.aF⟩
def C119(p:cR)(pv:bP)(w:World)(hp:n5 w pv p)(V:PZ p):CR 119 [jr pv] w (λv w'=>v=.bool (uW p)/\Ext w w'):=by
 obtain⟨bI,bR,Z,aT,aU,bG,rfl,cN,dD,cW,bY,bZ,cM⟩:=hp;have u:=St.start w;refine fb Tryz.func119 ?_;refine cP u (λkj W u=>?_);refine⟨λm x W=>∃k:Nat,x=ir (k:Int)/\m=p.lines.length-k/\k<=p.lines.length/\(∀y∈p.lines.take k,decide (4<(y.length:Int))=false)/\St w aX [bX kj (kp (⟨bI,bR,Z,aT,aU,bG⟩:bP))] W,⟨_,0,rfl,rfl,l2 _,ee,u⟩,?_⟩;rintro m _ _ ⟨k,rfl,rfl,hk,Y,u⟩ _;have hzl:=V.lines;refine aA gw (aB oH u.hb rfl ?_)
 obtain⟨axj,G,M⟩:=cN.open;have hn29:=M.1;refine aI pG (G.ext u.aF) (aN (aC (λfZ=>?_) λfZ=>?_))
 .refine aA gw (aB oH u.hb rfl ?_);obtain⟨X5,n6⟩:=gx axj (i:=(k:Int).toNat) bL;obtain⟨sq,oW⟩:=gx p.lines (i:=(k:Int).toNat) bL;have aqs:DL w (jr X5) sq:=M.2 _ _ _ n6 oW;refine aK pG (G.ext u.aF) bL n6 (λ_ AT=>aE jD AT ?_);have axk:=DL.flat aqs;refine aI ic (axk.ext u.aF) (cL (aC (λfo=>?_) λfo=>aJ bL ⟨_,bL,k+1,rfl,rfl,bL,dY Y oW (ez fo),u⟩));have u:=u.drop;refine⟨vb ?_,u.aF⟩;unfold uW;rw[gY oW (ew bL)];rfl
 refine aE fp u.At ?_;obtain⟨J,E,I⟩:=bY.open;have hn31:=I.1;obtain⟨U,axl,O⟩:=bZ.open;have hn32:=O.1;refine dR agh (C120 p _ J U _ ⟨bI,bR,Z,aT,aU,bG,rfl,cN.ext u.aF,dD.ext u.aF,cW.ext u.aF,bY.ext u.aF,bZ.ext u.aF,cM.ext u.aF⟩ (E.ext u.aF) (axl.ext u.aF) (by have:=V.threads;omega) (by have:=V.recover;omega)) ?_;rintro x21 _ cE;have u:=u.made cE;obtain⟨A9,MG⟩:∃t,t=J++U:=⟨_,rfl⟩;rw[<- MG]at u;have PC:gd A9 (gl p) w:=by rw[MG];exact gd.append I O
 have axm:=PC.1;have ajJ:=DV V.toPS;have u:=u.p1.p1;refine⟨λm x W=>∃B:Nat,x=ir (B:Int)/\m=(gl p).length-B/\B<=(gl p).length/\(∀y∈(gl p).take B,decide (4<(y.dO.length:Int))=false)/\St w aX [bF x21 A9,bX kj (kp (⟨bI,bR,Z,aT,aU,bG⟩:bP))] W,⟨_,0,rfl,rfl,l2 _,ee,u⟩,?_⟩;rintro m _ _ ⟨B,rfl,rfl,XU,Py,u⟩ _;refine aI fu u.dS (aN (aC (λiL=>?_) λiL=>⟨λjv w'=>jv=.bool (decide (4<(p.lines.length:Int))||decide (4<(p.iP.length:Int))||decide (2<(p.eE.length:Int))||decide ((p.threads.length:Int)<1)||decide (3<(p.threads.length:Int))||decide (4<(p.dV.length:Int)))/\St w aX [] w',aA gw (aB oH u.p1.hb rfl (aI pG (G.ext u.aF) (cL (aC (λ_=>have u:=u.drop.drop;⟨vb cD,u⟩) λqZ=>?_)))),?_⟩))
 .obtain⟨qV,gk⟩:=gx A9 (i:=(B:Int).toNat) bL;obtain⟨aqx,xB⟩:=gx (gl p) (i:=(B:Int).toNat) bL;obtain⟨Fu,Fv,rfl,Fx,Fy⟩:=PC.2 _ _ _ gk xB;refine aK fu u.dS bL gk (λ_ mw=>bT Fu fS mw rfl rfl λ_ qA=>aE je qA ?_);have axn:=DL.flat Fx;refine aI iu (axn.ext u.aF) (cL (aC (λlK=>?_) λ_=>aJ bL ⟨_,bL,B+1,rfl,rfl,bL,dY Py xB (ez bL),u⟩));have u:=u.drop.drop;refine⟨vb ?_,u.aF⟩;unfold uW;rw[gY xB (ew bL)];simp
 .refine aA pY (aB jD u.p1.hb rfl ?_);have axo:=DL.flat dD;refine aI ic (axo.ext u.aF) (cL (aC (λ_=>have u:=u.drop.drop;⟨vb cD,u⟩) λwe=>aA nO (aB jD u.p1.hb rfl ?_)));have axp:=DL.flat cW;refine aI ic (axp.ext u.aF) (cL (aC (λ_=>have u:=u.drop.drop;⟨vb cD,u⟩) λse=>aA kD (aB iq u.p1.hb rfl (aI fu (E.ext u.aF) (aN (aC (λ_=>have u:=u.drop.drop;⟨vb cD,u⟩) λSm=>aA kD (aB iq u.p1.hb rfl (aI fu (E.ext u.aF) (cL (aC (λ_=>have u:=u.drop.drop;⟨vb cD,u⟩) λagS=>aA jn (aB qN u.p1.hb rfl ?_)))))))))))
  obtain⟨ts36,axq,axr⟩:=cM.open;have hn36:=axr.1;exact aI tf (axq.ext u.aF) (cL (have u:=u.drop.drop;⟨vb cD,u⟩))
 rintro _ _ ⟨rfl,u⟩ _;refine⟨vb ?_,u.aF⟩;unfold uW;rw[ix (by rw[la bL]at Y;exact Y),ix (by rw[la bL]at Py;exact Py)];rfl
end Go.Proofs.YtpdlpabnlkofmaaGreatDoor

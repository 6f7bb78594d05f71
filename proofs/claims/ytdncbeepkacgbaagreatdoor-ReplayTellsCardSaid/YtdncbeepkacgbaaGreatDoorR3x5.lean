/-
  Part 5.
-/
import Derived.Test.YtdncbeepkacgbaaGreatDoorR3x4
set_option maxHeartbeats 8000000
set_option linter.all false
set_option maxRecDepth 100000
open ByteArray renaming mk->ia
open Go.Fw.Flat renaming val->iS,enc->jn
open List renaming getElem?_eq_some_iff->j0,length_append->kE,take_of_length_le->kO,mem_of_getElem?->l0,getElem?_eq_none->l2,append_assoc->mu,length_singleton->nB,length_map->nP,mem_map->n0,mem_cons_self->oi,append_nil->oj,replicate->oI,getD_eq_getElem?_getD->o4,mem_append->pI,length_replicate->xr,length_nil->D1,length_set->D5,any_eq_false->E7
open Option renaming bind_some->la,some->nM
open Go.Fw.Deep renaming dr->l3
open Go.Value renaming int->mf
open Nat renaming zero_le->mj,le_refl->om,le_succ->CT
open Bool renaming and_eq_true->nu,or_eq_false_iff->FB
open Int renaming toNat_natCast->qG,eq_ofNat_of_zero_le->H4,le_refl->Jt
open Decidable renaming not_not->BL
namespace Go.Proofs.YtdncbeepkacgbaaGreatDoor
open Go.Fw
structure eA where
 l:(List bI)
 to:Int
 e:Int
 at_:Int
deriving DecidableEq
structure cP where
 l:SV
 to:Int
 e:Int
 at_:Int
instance:Flat cP where
 agg:=true
 sz:=4
 enc e:=[.slice e.l.a e.l.n e.l.cap,hZ e.to,hZ e.e,hZ e.at_]
 val e:=.agg [.slice e.l.a e.l.n e.l.cap,hZ e.to,hZ e.e,hZ e.at_].toArray
 pos:=ea
 len _:=rfl
 one a v h:=by grind[qD]
 lj _ _:=rfl
 lD h:=by cases h
instance:Deep eA cP where
 dr w s x:=∃(u:SV),s=(⟨u,x.to,x.e,x.at_⟩:cP)/\DL w (iS u) x.l
 ext h e:=by
  obtain⟨B,rfl,E⟩:=h
  exact⟨B,rfl,E.ext e⟩
def iK{w:World}{u:cP}{x:eA}(h:l3 w u x):DL w (iS u.l) x.l:=by obtain⟨_,rfl,h⟩:=h;exact h
def mr(n:Int):List Int:=if n=0 then [15]else if n=1 then [14]else if n=2 then [10,11,12,13]else if n=3 then [5,6]else [7,8,9]
def xV:List ByteArray:=[⟨#[]⟩,⟨#[]⟩,⟨#[]⟩,⟨#[45]⟩,⟨#[33]⟩,⟨#[43]⟩,⟨#[45]⟩,⟨#[42]⟩,⟨#[47]⟩,⟨#[37]⟩,⟨#[61,61]⟩,⟨#[33,61]⟩,⟨#[60]⟩,⟨#[60,61]⟩,⟨#[38,38]⟩,⟨#[124,124]⟩]
def E3(k:Int):ByteArray:=(xV[k.toNat]?).getD ⟨#[]⟩
def e8(l:List aW)(i e:Int):eA:=⟨[],0,if (l.length:Int)<=i then 6 else e,jK l i⟩
abbrev adF(r:eA)(w:World):=oU λv w'=>∃u:cP,v=iS u/\mD (eH λw=>l3 w u r) w w'
def XC(l:List aW)(rec:Int->Int->Int->Option eA):Prop:=∀(lv:Value) (i d n:Int) (r:eA) (w:World),dy (λ_=>True) w lv l->rec i d n=some r->0<=i/\i<=l.length->0<=d/\d<=12->0<=n/\n<=5->
 Calls hM 287 [lv,hZ i,hZ d,hZ n].toArray w (adF r w)/\(n=5->Calls hM 339 [lv,hZ i,hZ d].toArray w (adF r w))
structure fQ(l:List aW):Prop where
 n:l.length<=5000
 at_:∀x∈l,0<=x.at_/\x.at_<=1000000/\x.text.size<=1000000
def Lx(l:List aW)(i:Int):Bool:=ox l i ⟨#[33]⟩||ox l i ⟨#[45]⟩
def lg(rec:Int->Int->Int->Option eA)(l:List aW)(i d:Int):Option eA:=
 match (if (l.length:Int)<=i then none else l[i.toNat]?)with
 | none=>some (e8 l i 6)
 | some t=>if ((Lx l i||ox l i ⟨#[40]⟩)&&decide (d=12))=true then some (e8 l i 7)
  else if Lx l i=true then(rec (i+1) (d+1) 5).bind λx=>if x.l.length<=10000 then some (if x.e≠0 then x else {x with l:=[⟨if t.text=⟨#[45]⟩then 3 else 4,0,⟨#[]⟩,t.at_⟩]++x.l})else none
  else if ox l i ⟨#[40]⟩=true then(rec (i+1) (d+1) 0).bind λx=>some (if x.e≠0 then x else if ox l x.to ⟨#[41]⟩=true then {x with to:=x.to+1}else e8 l x.to 5)
  else if t.kind=2 then some ⟨[⟨1,t.n,⟨#[]⟩,t.at_⟩],i+1,0,0⟩
  else if (decide (t.kind=1)&&fw t.text)=true then some ⟨[⟨2,0,t.text,t.at_⟩],i+1,0,0⟩
  else some (e8 l i 5)
def zB(l:List aW)(to n:Int)(k:Nat):Int:=((mr n).take k).foldl (λop f=>if ox l to (E3 f)=true then f else op) 0
def CG(l:List aW)(to n:Int):Int:=zB l to n (mr n).length
theorem Be{l:List aW}{to n:Int}{k:Nat}{f:Int}(h:(mr n)[k]?=some f):zB l to n (k+1)=if ox l to (E3 f)=true then f else zB l to n k:=by
 unfold zB;rw[List.take_add_one,h,Option.toList_some,List.foldl_append];rfl
def qz(rec:Int->Int->Int->Option eA)(l:List aW)(d n:Int):Nat->eA->Option eA
 | 0,_=>none
 | k+1,x=>if x.e≠0 then some x else if CG l x.to n=0 then some x else match (if 0<=x.to then l[x.to.toNat]? else none)with
  | none=>none
  | some t=>match rec (x.to+1) d (n+1)with
   | none=>none
   | some y=>if y.e≠0 then some y else if x.l.length+y.l.length<=10000 then
     (if n=2 then some ⟨[⟨CG l x.to n,0,⟨#[]⟩,t.at_⟩]++x.l++y.l,y.to,0,0⟩else qz rec l d n k ⟨[⟨CG l x.to n,0,⟨#[]⟩,t.at_⟩]++x.l++y.l,y.to,0,0⟩)else none
def Bf(l:List aW):Nat->Int->Int->Int->Option eA
 | 0,_,_,_=>none
 | k+1,i,d,n=>if n=5 then lg (Bf l k) l i d else(Bf l k i d (n+1)).bind (qz (Bf l k) l d n k)
def PJ{n:Int}{k:Nat}{f:Int}(h:(mr n)[k]?=some f):5<=f/\f<=15:=by
 have u:=l0 h
 unfold mr at u
 grind
section
variable {rec:Int->Int->Int->Option eA}{l:List aW}{i d n:Int}{r x y:eA}{t:aW}{k:Nat}
theorem Hm(h:lg rec l i d=some r)(u:(l.length:Int)<=i):r=e8 l i 6:=by
 unfold lg at h;grind
theorem E4(h:lg rec l i d=some r)(u:¬ (l.length:Int)<=i)(ht:l[i.toNat]?=some t)(B:((Lx l i||ox l i ⟨#[40]⟩)&&decide (d=12))=true):r=e8 l i 7:=by
 unfold lg at h;grind
theorem Ly(h:lg rec l i d=some r)(B:¬ (l.length:Int)<=i)(ht:l[i.toNat]?=some t)(E:((Lx l i||ox l i ⟨#[40]⟩)&&decide (d=12))=false)(u:Lx l i=true) :
  ∃x,rec (i+1) (d+1) 5=some x/\x.l.length<=10000/\r=if x.e≠0 then x else {x with l:=[⟨if t.text=⟨#[45]⟩then 3 else 4,0,⟨#[]⟩,t.at_⟩]++x.l}:=by
 unfold lg at h;rw[fg B,ht]at h;dsimp only at h;rw[fg cR,fh u]at h
 cases hr:rec (i+1) (d+1) 5 with
 | none=>grind
 | some x=>
  grind
theorem E5(h:lg rec l i d=some r)(B:¬ (l.length:Int)<=i)(ht:l[i.toNat]?=some t)(E:((Lx l i||ox l i ⟨#[40]⟩)&&decide (d=12))=false)(G:Lx l i=false)(u:ox l i ⟨#[40]⟩=true) :
  ∃x,rec (i+1) (d+1) 0=some x/\r=if x.e≠0 then x else if ox l x.to ⟨#[41]⟩=true then {x with to:=x.to+1}else e8 l x.to 5:=by
 unfold lg at h;rw[fg B,ht]at h;dsimp only at h;rw[fg cR,fg cR,fh u]at h
 cases hr:rec (i+1) (d+1) 0 with
 | none=>grind
 | some x=>grind
theorem E6(h:lg rec l i d=some r)(G:¬ (l.length:Int)<=i)(ht:l[i.toNat]?=some t)(u:((Lx l i||ox l i ⟨#[40]⟩)&&decide (d=12))=false)(B:Lx l i=false)(E:ox l i ⟨#[40]⟩=false) :
  r=if t.kind=2 then⟨[⟨1,t.n,⟨#[]⟩,t.at_⟩],i+1,0,0⟩else if (decide (t.kind=1)&&fw t.text)=true then⟨[⟨2,0,t.text,t.at_⟩],i+1,0,0⟩else e8 l i 5:=by
 unfold lg at h;grind
theorem Hn(h:qz rec l d n k x=some r):∃j,k=j+1:=by
 cases k with
 | zero=>cases h
 | succ j=>grind
theorem Tt(h:qz rec l d n (k+1) x=some r)(u:x.e≠0):r=x:=by
 unfold qz at h;grind
theorem PK(h:qz rec l d n (k+1) x=some r)(B:¬ x.e≠0)(u:CG l x.to n=0):r=x:=by
 unfold qz at h;grind
theorem PM(h:qz rec l d n (k+1) x=some r)(u:¬ x.e≠0)(B:¬ CG l x.to n=0):∃t y,0<=x.to/\l[x.to.toNat]?=some t/\rec (x.to+1) d (n+1)=some y/\(y.e≠0->r=y)/\
  (¬ y.e≠0->x.l.length+y.l.length<=10000/\(n=2->r=⟨[⟨CG l x.to n,0,⟨#[]⟩,t.at_⟩]++x.l++y.l,y.to,0,0⟩)/\(¬ n=2->qz rec l d n k ⟨[⟨CG l x.to n,0,⟨#[]⟩,t.at_⟩]++x.l++y.l,y.to,0,0⟩=some r)):=by
 unfold qz at h;grind
theorem VB(h:Bf l (k+1) i d 5=some r):lg (Bf l k) l i d=some r:=by grind[lg,Bf]
theorem adG(h:Bf l (k+1) i d n=some r)(u:¬ n=5):∃x,Bf l k i d (n+1)=some x/\qz (Bf l k) l d n k x=some r:=by
 unfold Bf at h;rw[fg u]at h
 cases hx:Bf l k i d (n+1)with
 | none=>grind
 | some x=>grind
end
def qA(l:List aW)(i:Int):Option (List bI×Int×Int×Int):=if i<0 then some ([],0,1,0)else(Bf l 10000 i 0 0).bind λx=>
 if x.e≠0 then some ([],0,x.e,x.at_)else match tf x.l,l[i.toNat]? with
  | some t,some k=>if x.l.length<=10000 then(if 12<t.depth then some ([],0,7,k.at_)else if 40<x.l.length then some ([],0,2,k.at_)else some (x.l,x.to,0,0))else none
  | _,_=>none
def Ho(n:Int):(mr n).length<=4:=by
 grind[mr]
def C340(n:Int)(w:World)(hn:0<=n/\n<=4):CR 340 [hZ n] w (λv w'=>mD (bH v (mr n)) w w'):=by
 have u:=St.start w;refine eR Tryz.func340 ?_;refine bK ([15]:List Int) u dG rfl rfl (dQ rfl) (λZ _ u=>bK ([14]:List Int) u dG rfl rfl (dQ rfl) λM _ u=>bK ([10,11,12,13]:List Int) u dG rfl rfl (dQ rfl) λR5 _ u=>bK ([5,6]:List Int) u dG rfl rfl (dQ rfl) λU _ u=>bK ([7,8,9]:List Int) u dG rfl rfl (dQ rfl) λW _ u=>?_);obtain⟨O,rfl⟩:=u.p4.gF;obtain⟨G,rfl⟩:=u.p3.gF;obtain⟨J,rfl⟩:=u.p2.gF;obtain⟨V,rfl⟩:=u.p1.gF;obtain⟨I,rfl⟩:=u.gF;refine bK ([O,G,J,V,I]) u AH rfl rfl (dQ rfl) (λY _ u=>?_)
 have u:=(((((((((((u.RU (α:=Int)).p6).p1).yB).p5).p1).yB).p4).p1).yB).p3).p1;have u:=u.yB.p2.p1.yB;obtain rfl|rfl|rfl|rfl|rfl:n=0\/n=1\/n=2\/n=3\/n=4:=bP
 .have E:=u.uC;exact ed u.p1 AH ea ew (λ_ B=>gM u.p1 eK B (show _=some O from rfl) (have u:=u.split;u.fresh))
 .have E:=u.uC;exact ed u.p1 AH ea ew (λ_ B=>gM u.p1 eK B (show _=some G from rfl) (have u:=u.split.drop.split;u.fresh))
 .have E:=u.uC;exact ed u.p1 AH ea ew (λ_ B=>gM u.p1 eK B (show _=some J from rfl) (have u:=u.split.drop.split.drop.split;u.fresh))
 .have E:=u.uC;exact ed u.p1 AH ea ew (λ_ B=>gM u.p1 eK B (show _=some V from rfl) (have u:=u.split.drop.split.drop.split.drop.split;u.fresh))
 have E:=u.uC;exact ed u.p1 AH ea ew (λ_ B=>gM u.p1 eK B (show _=some I from rfl) (have u:=u.split.drop.split.drop.split.drop.split.drop.split;u.fresh))
def C341(k:Int)(w:World)(M:0<=k/\k<=15):CR 341 [hZ k] w (λv w'=>v=.string (E3 k)/\Ext w w'):=by
 have u:=St.start w;refine eR Tryz.func341 ?_;refine bK xV u iN rfl rfl (dQ rfl) (λI _ u=>?_);have E:xV.length=16:=rfl;obtain⟨G,B⟩:=gx xV (i:=k.toNat) bP;refine ed u iN bP bP (λ_ J=>gM u jZ J B ?_);refine⟨?_,u.drop.aF⟩;unfold E3;rw[B];rfl
def C357(lv:Value)(l:List aW)(i e:Int)(w:World)(E:dy (λ_=>True) w lv l)(B:fQ l):CR 357 [lv,hZ i,hZ e] w (λv w'=>∃sh:cP,v=iS sh/\mD (eH λw=>l3 w sh (e8 l i e)) w w'):=by
 have U:=B.n;have I:l.length<=1000000:=bP
 have G:=B.at_;have u:=St.start w;refine RB _ _ _ _ _ ?_;unfold S357;refine aK u n6 (λV M u=>have u:=u.enc (cs':=jn (⟨bY,0,0,0⟩:cP)) rfl;⟨λJ w'=>J=hZ (if (l.length:Int)<=i then 6 else e)/\M=w',aI ey (E.ext u.aF) (cJ (aC (λ_=>⟨by rw[fh bP],rfl⟩) λ_=>⟨by rw[fg bP],rfl⟩)),?_⟩);rintro _ _ ⟨rfl,O⟩ _;subst O;exact aR Aw u (C201 _ l i _ (E.ext u.aF) I G) (λ_ _ u=>pop (Gm _ _) (aH (x:=(⟨bY,0,(if (l.length:Int)<=i then 6 else e),(jK l i)⟩:cP)) u eL rfl rfl λ_ u=>aE eL u.At (have u:=u.fG (Φ:=(λw=>l3 w (⟨bY,0,(if (l.length:Int)<=i then 6 else e),(jK l i)⟩:cP) (⟨[],0,(if (l.length:Int)<=i then 6 else e),(jK l i)⟩:eA))) (λ_=>⟨_,rfl,DL.nil _⟩);have u:=u.p1.drop;⟨_,rfl,u.fresh⟩)))
def C339(l:List aW)(rec:Int->Int->Int->Option eA)(lv:Value)(i d:Int)(r:eA)(w:World)(E:dy (λ_=>True) w lv l)(Y:fQ l)(HR:XC l rec)(h0:0<=i/\i<=l.length)(hd:0<=d/\d<=12)(hr:lg rec l i d=some r):CR 339 [lv,hZ i,hZ d] w (λv w'=>∃sh:cP,v=iS sh/\mD (eH λw=>l3 w sh r) w w'):=by
 have xP:=Y.n;have hn:l.length<=1000000:=bP
 have qK:=Y.at_;have u:=St.start w;refine Rz _ _ _ _ _ ?_;unfold S339;refine aK u n6 (λLa _ u=>have u:=u.enc (cs':=jn (⟨bY,0,0,0⟩:cP)) rfl;aI ey (E.ext u.aF) (cJ (aC (λcW=>?_) λcW=>?_)))
 .refine dW Ik (C357 _ l i 6 _ (E.ext u.aF) Y) ?_;rintro _ _ ⟨XE,rfl,M⟩;have u:=u.made M;obtain⟨vh,Hp,_⟩:=u.eH;subst Hp;refine aH (x:=(⟨vh,(e8 l i 6).to,(e8 l i 6).e,(e8 l i 6).at_⟩:cP)) u.p1 eL rfl rfl (λ_ u=>aE eL u.At ?_);have I:r=(⟨(e8 l i 6).l,(e8 l i 6).to,(e8 l i 6).e,(e8 l i 6).at_⟩:eA):=Hm hr bP;rw[I];have u:=u.p1.dH (Ψ:=(λw=>l3 w (⟨vh,(e8 l i 6).to,(e8 l i 6).e,(e8 l i 6).at_⟩:cP) (⟨(e8 l i 6).l,(e8 l i 6).to,(e8 l i 6).e,(e8 l i 6).at_⟩:eA))) (λ_ h=>⟨_,rfl,iK h⟩)
  have u:=u.p1.drop;exact⟨_,rfl,u.fresh⟩
 obtain⟨t,ht⟩:=gx l (i:=i.toNat) bP;have hta:=qK t (l0 ht);refine⟨λW w'=>W=.bool (Lx l i)/\St w bF [bM La (jn (⟨bY,0,0,0⟩:cP))] w',aR qh u (C196 _ l i (ia #[33]) _ (E.ext u.aF) hn) (λ_ _ u=>bD (λgS=>⟨vb (by unfold Lx;rw[gS];rfl),u⟩) λgS=>aR qh u (C196 _ l i (ia #[45]) _ (E.ext u.aF) hn) λ_ _ u=>⟨vb (by unfold Lx;rw[gS];rfl),u⟩),?_⟩;rintro _ _ ⟨rfl,u⟩ _;refine aR qh u (C196 _ l i (ia #[40]) _ (E.ext u.aF) hn) (λ_ he u=>⟨λW w'=>W=.bool ((Lx l i||ox l i (ia #[40]))&&decide (d=12))/\St w bF [bM La (jn (⟨bY,0,0,0⟩:cP))] w',bD (λG=>aG ⟨vb (by first|(rw[G];simp;done)|(rw[G,J];simp;done)|(rw[G];rfl)|(rw[G,J];rfl)),u⟩) (λG=>bD (λJ=>aG ⟨vb (by first|(rw[G];simp;done)|(rw[G,J];simp;done)|(rw[G];rfl)|(rw[G,J];rfl)),u⟩) λJ=>⟨vb (by first|(rw[G];simp;done)|(rw[G,J];simp;done)|(rw[G];rfl)|(rw[G,J];rfl)),u⟩),?_⟩)
 rintro _ _ ⟨rfl,u⟩ _;refine bD (λO=>?_) (λO=>bD (λG=>?_) λG=>bD (λJ=>?_) λJ=>?_)
 .refine dW Ik (C357 _ l i 7 _ (E.ext u.aF) Y) ?_;rintro _ _ ⟨ai2,rfl,M⟩;have u:=u.made M;obtain⟨Jw,XF,_⟩:=u.eH;subst XF;refine aH (x:=(⟨Jw,(e8 l i 7).to,(e8 l i 7).e,(e8 l i 7).at_⟩:cP)) u.p1 eL rfl rfl (λ_ u=>aE eL u.At ?_);have I:r=(⟨(e8 l i 7).l,(e8 l i 7).to,(e8 l i 7).e,(e8 l i 7).at_⟩:eA):=E4 hr bP ht O;rw[I];have u:=u.p1.dH (Ψ:=(λw=>l3 w (⟨Jw,(e8 l i 7).to,(e8 l i 7).e,(e8 l i 7).at_⟩:cP) (⟨(e8 l i 7).l,(e8 l i 7).to,(e8 l i 7).e,(e8 l i 7).at_⟩:eA))) (λ_ h=>⟨_,rfl,iK h⟩)
  have u:=u.p1.drop;exact⟨_,rfl,u.fresh⟩
 .refine aM bP (aM bP ?_);have ai3:¬ d=12:=λh=>by rw[G,fY h]at O;cases O
  obtain⟨B,V,Zi,Z⟩:=Ly hr bP ht O G;refine dW Uw ((HR _ (i+1) (d+1) 5 B _ (E.ext u.aF) V bP bP bP).2 rfl) ?_;rintro _ _ ⟨ai4,rfl,M⟩;have u:=u.made M;obtain⟨xW,XG,_⟩:=u.eH;subst XG;refine aK u n6 (λvN _ u=>have u:=u.enc (cs':=jn (⟨bY,0,0,0⟩:cP)) rfl;aH (x:=(⟨xW,B.to,B.e,B.at_⟩:cP)) u eL rfl rfl λw13 u=>aA pb (aB (v:=hZ B.e) gq u.hb rfl (cB (aC (λre=>?_) λre=>⟨λW w'=>W=hZ (if t.text=ia #[45]then 3 else 4)/\w13=w',aY ey (E.ext u.aF) bP ht (λ_ Ns=>cU t.text jR Ns rfl rfl λ_ Pe=>aE jZ Pe (fz (aC (λE2=>⟨by rw[fh E2],rfl⟩) λE2=>⟨by rw[fg E2],rfl⟩))),?_⟩))))
  .refine aE eL u.At (aH (x:=(⟨xW,B.to,B.e,B.at_⟩:cP)) u.p2 eL rfl rfl λ_ u=>aE eL u.At ?_);have I:r=(⟨B.l,B.to,B.e,B.at_⟩:eA):=Z.trans (fh re);rw[I];have u:=u.p2.dH (Ψ:=(λw=>l3 w (⟨xW,B.to,B.e,B.at_⟩:cP) (⟨B.l,B.to,B.e,B.at_⟩:eA))) (λ_ h=>⟨_,rfl,iK h⟩);have u:=u.p1.drop.p1.drop;exact⟨_,rfl,u.fresh⟩
  rintro _ _ ⟨rfl,hw⟩ _;subst hw;obtain⟨op,VC⟩:∃op,op=(if t.text=ia #[45]then(3:Int)else 4):=⟨_,rfl⟩;rw[<- VC];refine aY ey (E.ext u.aF) bP ht (λ_ adJ=>cU t.at_ iP adJ rfl rfl λ_ adK=>aE bL adK (pop (yv _ _) (bK ([(⟨op,0,(ia #[]),t.at_⟩:bI)]) u ju rfl rfl (dQ rfl) λs_x66 _ u=>aA ng (aB (v:=iS (xW:SV)) lF u.p1.hb rfl ?_))));have XH:=(DL.flat (iK u.p2.eH));refine cO u ju XH (by simp;omega) ea (λVr _ u=>aA ng ?_);obtain⟨Hq,rfl⟩:=u.gF;refine aO u.p1 lF (dQ rfl) (rfl) (λ_ u=>have u:=u.enc (cs':=jn (⟨Hq,B.to,B.e,B.at_⟩:cP)) rfl;aE eL u.At (aH (x:=(⟨Hq,B.to,B.e,B.at_⟩:cP)) u.p3 eL rfl rfl λ_ u=>aE eL u.At ?_))
  have I:r=(⟨([(⟨op,0,(ia #[]),t.at_⟩:bI)]++B.l),B.to,B.e,B.at_⟩:eA):=by rw[Z,fg re,<- VC]
  rw[I];have u:=u.p2.freeze.dH (Ψ:=(λw=>l3 w (⟨Hq,B.to,B.e,B.at_⟩:cP) (⟨([(⟨op,0,(ia #[]),t.at_⟩:bI)]++B.l),B.to,B.e,B.at_⟩:eA))) (λ_ h=>⟨_,rfl,DL.gG h⟩);have u:=u.p1.drop.p1.drop.p1.drop;exact⟨_,rfl,u.fresh⟩
 .refine aM bP (aM bP ?_);have ai3:¬ d=12:=λh=>by rw[G,J,fY h]at O;cases O
  obtain⟨B,V,Z⟩:=E5 hr bP ht O G J;refine dW Ij ((HR _ (i+1) (d+1) 0 B _ (E.ext u.aF) V bP bP bP).1) ?_;rintro _ _ ⟨ai5,rfl,M⟩;have u:=u.made M;obtain⟨so,XI,_⟩:=u.eH;subst XI;refine aK u n6 (λNn _ u=>have u:=u.enc (cs':=jn (⟨bY,0,0,0⟩:cP)) rfl;aH (x:=(⟨so,B.to,B.e,B.at_⟩:cP)) u eL rfl rfl λ_ u=>aA pb (aB (v:=hZ B.e) gq u.hb rfl (cB (aC (λJy=>?_) λJy=>aA kP (aB (v:=hZ B.to) bL u.hb rfl (aR qh u (C196 _ l B.to (ia #[41]) _ (E.ext u.aF) hn) λ_ he u=>bJ (bD (λJz=>?_) λJz=>?_)))))))
  .refine aE eL u.At (aH (x:=(⟨so,B.to,B.e,B.at_⟩:cP)) u.p2 eL rfl rfl λ_ u=>aE eL u.At ?_);have I:r=(⟨B.l,B.to,B.e,B.at_⟩:eA):=Z.trans (fh Jy);rw[I];have u:=u.p2.dH (Ψ:=(λw=>l3 w (⟨so,B.to,B.e,B.at_⟩:cP) (⟨B.l,B.to,B.e,B.at_⟩:eA))) (λ_ h=>⟨_,rfl,iK h⟩);have u:=u.p1.drop.p1.drop;exact⟨_,rfl,u.fresh⟩
  .refine aA kP (aB (v:=hZ B.to) bL u.hb rfl (dW Ik (C357 _ l B.to 5 _ (E.ext u.aF) Y) ?_));rintro _ _ ⟨ai6,rfl,M⟩;have u:=u.made M;obtain⟨JA,XJ,_⟩:=u.eH;subst XJ;refine aH (x:=(⟨JA,(e8 l B.to 5).to,(e8 l B.to 5).e,(e8 l B.to 5).at_⟩:cP)) u.p3 eL rfl rfl (λ_ u=>aE eL u.At ?_);have I:r=(⟨(e8 l B.to 5).l,(e8 l B.to 5).to,(e8 l B.to 5).e,(e8 l B.to 5).at_⟩:eA):=Z.trans ((fg Jy).trans (fg (by simpa using Jz)));rw[I];have u:=u.p1.dH (Ψ:=(λw=>l3 w (⟨JA,(e8 l B.to 5).to,(e8 l B.to 5).e,(e8 l B.to 5).at_⟩:cP) (⟨(e8 l B.to 5).l,(e8 l B.to 5).to,(e8 l B.to 5).e,(e8 l B.to 5).at_⟩:eA))) (λ_ h=>⟨_,rfl,iK h⟩)
   have u:=u.p1.drop.p1.drop.p1.drop;exact⟨_,rfl,u.fresh⟩
  refine aA kP (aB (v:=hZ B.to) bL u.hb rfl ?_);have tO:=nJ (l:=l) (i:=B.to) (t:=ia #[41]) (by simpa using Jz);refine aM bP (aA kP (aO u bL (dQ rfl) (rfl) λ_ u=>have u:=u.enc (cs':=jn (⟨so,(B.to+1),B.e,B.at_⟩:cP)) rfl;aE eL u.At (aH (x:=(⟨so,(B.to+1),B.e,B.at_⟩:cP)) u.p2 eL rfl rfl λ_ u=>aE eL u.At ?_)));have I:r=(⟨B.l,(B.to+1),B.e,B.at_⟩:eA):=Z.trans ((fg Jy).trans (fh (by simpa using Jz)));rw[I];have u:=u.p2.dH (Ψ:=(λw=>l3 w (⟨so,(B.to+1),B.e,B.at_⟩:cP) (⟨B.l,(B.to+1),B.e,B.at_⟩:eA))) (λ_ h=>⟨_,rfl,iK h⟩)
  have u:=u.p1.drop.p1.drop;exact⟨_,rfl,u.fresh⟩
 have U:=E6 hr bP ht O G J;refine aY ey (E.ext u.aF) bP ht (λ_ XK=>cU t.kind iO XK rfl rfl λ_ XL=>aE bL XL (aG (aC (λCH=>?_) λCH=>⟨λW w'=>W=.bool (decide (t.kind=1)&&fw t.text)/\St w bF [bM La (jn (⟨bY,0,0,0⟩:cP))] w',aY ey (E.ext u.aF) bP ht (λ_ XM=>cU t.kind iO XM rfl rfl λ_ XN=>aE bL XN (aG (aC (λHr=>aY ey (E.ext u.aF) bP ht λ_ XO=>cU t.text jR XO rfl rfl λ_ XP=>aE jZ XP (aR MC u (C198 _ _ bP) λ_ _ u=>⟨vb (by rw[fY Hr];rfl),u⟩)) λHr=>⟨vb (by rw[fZ Hr];rfl),u⟩))),?_⟩)))
 .refine aY ey (E.ext u.aF) bP ht (λ_ XQ=>cU t.n m9 XQ rfl rfl λ_ XR=>have u:=u.drew;aE bL XR (aY ey (E.ext u.aF) bP ht λ_ XS=>cU t.at_ iP XS rfl rfl λ_ XT=>aE bL XT (pop (BW _ _ _) (aM bP (bK ([(⟨1,t.n,(ia #[]),t.at_⟩:bI)]) u ju rfl rfl (dQ rfl) λai8 _ u=>?_)))));obtain⟨JB,rfl⟩:=u.gF;refine pop (tc _ _ _ _) (aH (x:=(⟨JB,(i+1),0,0⟩:cP)) u.p1 eL rfl rfl λ_ u=>aE eL u.At ?_);have I:r=(⟨[(⟨1,t.n,(ia #[]),t.at_⟩:bI)],(i+1),0,0⟩:eA):=U.trans (fh CH)
  rw[I];have u:=u.p1.freeze.dH (Ψ:=(λw=>l3 w (⟨JB,(i+1),0,0⟩:cP) (⟨[(⟨1,t.n,(ia #[]),t.at_⟩:bI)],(i+1),0,0⟩:eA))) (λ_ h=>⟨_,rfl,DL.gG h⟩);have u:=u.p1.drop;exact⟨_,rfl,u.fresh⟩
 rintro _ _ ⟨rfl,u⟩ _;refine bD (λHs=>?_) (λHs=>?_)
 .refine aY ey (E.ext u.aF) bP ht (λ_ XU=>cU t.text jR XU rfl rfl λ_ XV=>have u:=u.drew;aE jZ XV (aY ey (E.ext u.aF) bP ht λ_ XW=>cU t.at_ iP XW rfl rfl λ_ XX=>aE bL XX (pop (BX _ _ _) (aM bP (bK ([(⟨2,0,t.text,t.at_⟩:bI)]) u ju rfl rfl (dQ rfl) λai9 _ u=>?_)))));obtain⟨JC,rfl⟩:=u.gF;refine pop (tc _ _ _ _) (aH (x:=(⟨JC,(i+1),0,0⟩:cP)) u.p1 eL rfl rfl λ_ u=>aE eL u.At ?_);have I:r=(⟨[(⟨2,0,t.text,t.at_⟩:bI)],(i+1),0,0⟩:eA):=U.trans ((fg CH).trans (fh Hs))
  rw[I];have u:=u.p1.freeze.dH (Ψ:=(λw=>l3 w (⟨JC,(i+1),0,0⟩:cP) (⟨[(⟨2,0,t.text,t.at_⟩:bI)],(i+1),0,0⟩:eA))) (λ_ h=>⟨_,rfl,DL.gG h⟩);have u:=u.p1.drop;exact⟨_,rfl,u.fresh⟩
 refine dW Ik (C357 _ l i 5 _ (E.ext u.aF) Y) ?_;rintro _ _ ⟨afs,rfl,M⟩;have u:=u.made M;obtain⟨E8,Tv,_⟩:=u.eH;subst Tv;refine aH (x:=(⟨E8,(e8 l i 5).to,(e8 l i 5).e,(e8 l i 5).at_⟩:cP)) u.p1 eL rfl rfl (λ_ u=>aE eL u.At ?_);have I:r=(⟨(e8 l i 5).l,(e8 l i 5).to,(e8 l i 5).e,(e8 l i 5).at_⟩:eA):=U.trans ((fg CH).trans (fg (by simpa using Hs)));rw[I];have u:=u.p1.dH (Ψ:=(λw=>l3 w (⟨E8,(e8 l i 5).to,(e8 l i 5).e,(e8 l i 5).at_⟩:cP) (⟨(e8 l i 5).l,(e8 l i 5).to,(e8 l i 5).e,(e8 l i 5).at_⟩:eA))) (λ_ h=>⟨_,rfl,iK h⟩)
 have u:=u.p1.drop;exact⟨_,rfl,u.fresh⟩
theorem PN{l:List aW}{i:Int}{R:List bI×Int×Int×Int}(h:qA l i=some R)(hi:¬ i<0):∃x,Bf l 10000 i 0 0=some x/\
  (if x.e≠0 then some ([],0,x.e,x.at_)else match tf x.l,l[i.toNat]? with
  | some t,some k=>if x.l.length<=10000 then(if 12<t.depth then some ([],0,7,k.at_)else if 40<x.l.length then some ([],0,2,k.at_)else some (x.l,x.to,0,0))else none
  | _,_=>none)=some R:=by
 unfold qA at h;rw[fg hi]at h
 cases hx:Bf l 10000 i 0 0 with
 | none=>grind
 | some x=>grind
theorem Ht{x:eA}{o:Option aW}{R:List bI×Int×Int×Int}(h:(match tf x.l,o with
  | some t,some k=>if x.l.length<=10000 then(if 12<t.depth then some ([],0,7,k.at_)else if 40<x.l.length then some ([],0,2,k.at_)else some (x.l,x.to,0,0))else none
  | _,_=>none)=some R):∃t k,tf x.l=some t/\o=some k/\x.l.length<=10000/\(if 12<t.depth then some ([],0,7,k.at_)else if 40<x.l.length then some ([],0,2,k.at_)else some (x.l,x.to,0,0))=some R:=by
 grind
def C287(l:List aW)(j:Nat)(lv:Value)(i d n:Int)(r:eA)(w:World)(U:dy (λ_=>True) w lv l)(hk:fQ l)(HR:XC l (Bf l j))(h0:0<=i/\i<=l.length)(hd:0<=d/\d<=12)(hnn:0<=n/\n<=5)(hr:Bf l (j+1) i d n=some r):CR 287 [lv,hZ i,hZ d,hZ n] w (λv w'=>∃sh:cP,v=iS sh/\mD (eH λw=>l3 w sh r) w w'):=by
 have xP:=hk.n;have hn:l.length<=1000000:=bP
 have qK:=hk.at_;have u:=St.start w;refine Rx _ _ _ _ _ _ ?_;unfold S287;refine aK u n6 (λKy _ u=>have u:=u.enc (cs':=jn (⟨bY,0,0,0⟩:cP)) rfl;aG (aC (λjY=>?_) λjY=>?_))
 .refine dW Uw (C339 l (Bf l j) _ i d r _ (U.ext u.aF) hk HR h0 hd (VB (by rw[jY]at hr;exact hr))) ?_;rintro _ _ ⟨XE,rfl,E⟩;have u:=u.made E;obtain⟨vh,Hp,_⟩:=u.eH;subst Hp;refine aH (x:=(⟨vh,r.to,r.e,r.at_⟩:cP)) u.p1 eL rfl rfl (λ_ u=>aE eL u.At ?_);have B:r=(⟨r.l,r.to,r.e,r.at_⟩:eA):=rfl;rw[B];have u:=u.p1.dH (Ψ:=(λw=>l3 w (⟨vh,r.to,r.e,r.at_⟩:cP) (⟨r.l,r.to,r.e,r.at_⟩:eA))) (λ_ h=>⟨_,rfl,iK h⟩);have u:=u.p1.drop;exact⟨_,rfl,u.fresh⟩
 obtain⟨I,hx1,aja⟩:=adG hr jY;refine aM bP (dW Ij ((HR _ i d (n+1) I _ (U.ext u.aF) hx1 h0 hd bP).1) ?_);rintro _ _ ⟨ajb,rfl,E⟩;have u:=u.made E;obtain⟨CI,XY,_⟩:=u.eH;subst XY;refine aK u n6 (λvN _ u=>have u:=u.enc (cs':=jn (⟨bY,0,0,0⟩:cP)) rfl;aH (x:=(⟨CI,I.to,I.e,I.at_⟩:cP)) u eL rfl rfl λ_ u=>?_);have u:=u.p2.p2.p2.p1.dH (Ψ:=λw=>DL w (iS CI) I.l) (λ_ h=>iK h);have u:=u.p2.p1.p2;refine⟨λJ w'=>∃(x:eA) (g:SV),qz (Bf l j) l d n J x=some r/\St w bF [bM vN (jn (⟨g,x.to,x.e,x.at_⟩:cP)),eH (λw=>DL w (iS g) x.l),bM Ky (jn (⟨bY,0,0,0⟩:cP))] w',⟨j,I,CI,aja,u⟩,?_⟩
 rintro J _ ⟨x,g,Y,u⟩ _;obtain⟨j2,rfl⟩:=Hn Y;refine aA pb (aB (v:=hZ x.e) gq u.hb rfl (aG (aC (λOL=>?_) λOL=>?_)))
 .have u:=u.p2.p2.p2;refine⟨λJ o kk w'=>∃k:Nat,o=hZ (zB l x.to n k)/\kk=hZ (k:Int)/\J=(mr n).length-k/\k<=(mr n).length/\St w bF [bM vN (jn (⟨g,x.to,x.e,x.at_⟩:cP)),eH (λw=>DL w (iS g) x.l),bM Ky (jn (⟨bY,0,0,0⟩:cP))] w',⟨_,0,rfl,rfl,rfl,mj _,u⟩,?_⟩;rintro J _ _ _ ⟨k,rfl,rfl,rfl,Nu,u⟩ _;have hfl4:=Ho n;refine fV MF u (C340 n _ bP) (λx31 _ E u=>aI dG u.eS (aQ (aC (λwT=>⟨λjv w'=>jv=hZ (zB l x.to n (k+1))/\St w bF [bM vN (jn (⟨g,x.to,x.e,x.at_⟩:cP)),eH (λw=>DL w (iS g) x.l),bM Ky (jn (⟨bY,0,0,0⟩:cP))] w',?_,?_⟩) λwT=>?_)))
  .refine aA kP (have u:=u.drew;aB (v:=hZ x.to) bL u.p1.hb rfl (fV MF u (C340 n _ bP) λx40 _ E u=>?_));refine⟨aX bL (u.p2.hb.cell rfl),?_⟩;obtain⟨VD,O⟩:=gx (mr n) (i:=(k:Int).toNat) bP;refine ed u dG bP bP (λ_ adL=>gM u bL adL O ?_);have hfb:=PJ O;refine aR aaE u (C341 VD _ bP) (λ_ he u=>?_);refine⟨aX bL (u.p2.hb.cell rfl),?_⟩;exact aR qh u (C196 _ l x.to (E3 VD) _ (U.ext u.aF) hn) (λ_ _ u=>bD (λPO=>fV MF u (C340 n _ bP) λ_ _ _ u=>ed u dG bP bP λ_ Pd=>gM u bL Pd O (have u:=u.drop.drop.drop.p2.p2.p2;⟨by rw[Be (k:=k) O,fh PO]<;>rfl,u⟩)) λPO=>have u:=u.drop.drop.p2.p2.p2;⟨by rw[Be (k:=k) O,fg (by simpa using PO)]<;>rfl,u⟩)
  .rintro _ _ ⟨rfl,u⟩ _;exact aM bP ⟨_,bP,k+1,rfl,rfl,rfl,bP,u⟩
  have Z:zB l x.to n k=CG l x.to n:=by unfold CG;rw[show k=(mr n).length from bP]
  refine aG (aC (λwZ=>?_) λwZ=>?_)
  .refine aE eL u.p1.At (aH (x:=(⟨g,x.to,x.e,x.at_⟩:cP)) u.p3 eL rfl rfl λ_ u=>aE eL u.At ?_);have B:r=(⟨x.l,x.to,x.e,x.at_⟩:eA):=PK (x:=x) Y bP (by rw[<- Z];exact wZ);rw[B];have u:=u.p3.dH (Ψ:=(λw=>l3 w (⟨g,x.to,x.e,x.at_⟩:cP) (⟨x.l,x.to,x.e,x.at_⟩:eA))) (λ_ h=>⟨_,rfl,id h⟩);have u:=u.p1.drop.p1.drop.p1.drop;exact⟨_,rfl,u.fresh⟩
  obtain⟨t,y,h0t,ht,hy,hye,G⟩:=PM Y bP (by rw[<- Z];exact wZ);have Kk:=(j0.1 ht).1;refine aA kP (aB (v:=hZ x.to) bL u.p1.hb rfl (aM bP (aM bP (dW Ij ((HR _ (x.to+1) d (n+1) y _ (U.ext u.aF) hy bP hd bP).1) ?_))));rintro _ _ ⟨ajd,rfl,E⟩;have u:=u.made E;obtain⟨W,X0,_⟩:=u.eH;subst X0;refine aK u n6 (λb_y12 _ u=>have u:=u.enc (cs':=jn (⟨bY,0,0,0⟩:cP)) rfl;aH (x:=(⟨W,y.to,y.e,y.at_⟩:cP)) u eL rfl rfl λ_ u=>aA pb (aB (v:=hZ y.e) gq u.hb rfl (cB (aC (λqy=>?_) λqy=>?_))))
  .refine aE eL u.At (aH (x:=(⟨W,y.to,y.e,y.at_⟩:cP)) u.p5 eL rfl rfl λ_ u=>aE eL u.At ?_);have B:r=(⟨y.l,y.to,y.e,y.at_⟩:eA):=hye qy;rw[B];have u:=u.p2.dH (Ψ:=(λw=>l3 w (⟨W,y.to,y.e,y.at_⟩:cP) (⟨y.l,y.to,y.e,y.at_⟩:eA))) (λ_ h=>⟨_,rfl,iK h⟩);have u:=u.p1.drop.p1.drop.p1.drop.p1.drop.p1.drop;exact⟨_,rfl,u.fresh⟩
  refine aA kP (aB (v:=hZ x.to) bL u.p3.hb rfl (aY ey (U.ext u.aF) bP ht λ_ adM=>cU t.at_ iP adM rfl rfl λ_ adN=>aE bL adN (pop (yv _ _) (bK ([(⟨(zB l x.to n k),0,(ia #[]),t.at_⟩:bI)]) u ju rfl rfl (dQ rfl) λadO _ u=>aA ng (aB (v:=iS (g:SV)) lF u.p4.hb rfl ?_)))));have GV:=(G bP).1;have X1:=(DL.flat (id u.p5.eH));refine cO u ju X1 (by simp;omega) ea (λs_x78 _ u=>aA ng (aB (v:=iS (W:SV)) lF u.p1.hb rfl ?_));have X2:=(DL.flat (iK u.p2.eH))
  refine cO u ju X2 (by simp;omega) ea (λs_x82 _ u=>aA kP (aB (v:=hZ y.to) bL u.p1.hb rfl ?_));obtain⟨V,rfl⟩:=u.gF;refine pop (tc _ _ _ _) (aH (x:=(⟨V,y.to,0,0⟩:cP)) u.p4 eL rfl rfl λ_ u=>aG (aC (λPQ=>?_) λPQ=>?_))
  .refine aE eL u.At (aH (x:=(⟨V,y.to,0,0⟩:cP)) u.p6 eL rfl rfl λ_ u=>aE eL u.At ?_);have B:r=(⟨(([(⟨(zB l x.to n k),0,(ia #[]),t.at_⟩:bI)]++x.l)++y.l),y.to,0,0⟩:eA):=((G bP).2.1 PQ).trans (by rw[<- Z]);rw[B];have u:=u.p2.freeze.dH (Ψ:=(λw=>l3 w (⟨V,y.to,0,0⟩:cP) (⟨(([(⟨(zB l x.to n k),0,(ia #[]),t.at_⟩:bI)]++x.l)++y.l),y.to,0,0⟩:eA))) (λ_ h=>⟨_,rfl,DL.gG h⟩);have u:=u.p1.drop.p1.drop.p1.drop.p1.drop.p1.drop.p1.drop;exact⟨_,rfl,u.fresh⟩
  have u:=u.p1.freeze.dH (Ψ:=λw=>DL w (iS V) ([(⟨zB l x.to n k,0,ia #[],t.at_⟩:bI)]++x.l++y.l)) (λ_ h=>DL.gG h);have u:=u.p2.drop.p2.drop.p2.drop.p2.drop.p2.p1.p2;have M:=(G bP).2.2 PQ;rw[<- Z]at M;exact⟨_,bP,⟨_,_,_,_⟩,V,M,u⟩
 refine aE eL u.At (aH (x:=(⟨g,x.to,x.e,x.at_⟩:cP)) u.p2 eL rfl rfl λ_ u=>aE eL u.At ?_);have B:r=(⟨x.l,x.to,x.e,x.at_⟩:eA):=Tt (x:=x) Y bP;rw[B];have u:=u.p2.dH (Ψ:=(λw=>l3 w (⟨g,x.to,x.e,x.at_⟩:cP) (⟨x.l,x.to,x.e,x.at_⟩:eA))) (λ_ h=>⟨_,rfl,id h⟩);have u:=u.p1.drop.p1.drop;exact⟨_,rfl,u.fresh⟩
theorem X3{l:List aW}(u:fQ l):∀j,XC l (Bf l j)
 | 0=>λlv i d n r w E B=>by cases B
 | j+1=>λlv i d n r w E B I G J=>⟨C287 l j lv i d n r w E u (X3 u j) I G J B,λh5=>by subst h5;exact C339 l (Bf l j) lv i d r w E u (X3 u j) I G (VB B)⟩
def C200(l:List aW)(lv:Value)(i:Int)(R:List bI×Int×Int×Int)(w:World)(hL:dy (λ_=>True) w lv l)(W:fQ l)(hil:i<=l.length)(O:qA l i=some R):CR 200 [lv,hZ i] w (λv w'=>∃sv:SV,v=.tuple #[iS sv,hZ R.2.1,hZ R.2.2.1,hZ R.2.2.2]/\mD (eH λw=>DL w (iS sv) R.1) w w'):=by
 have xP:=W.n;have hn:l.length<=1000000:=bP
 have qK:=W.at_;have u:=St.start w;refine qg Tryz.func200 (pl:=ags) ?_;refine aQ (aC (λgD=>?_) λgD=>?_)
 .have B:R=([],0,1,0):=by
   unfold qA at O;rw[fh gD]at O;exact(nM.inj O).symm
  rw[B];exact⟨bY,rfl,(u.fG (Φ:=λw=>DL w (iS (bY:SV)) ([]:List bI)) λw=>DL.nil w).fresh⟩
 obtain⟨x,hx,I⟩:=PN O bP;refine dW Ij ((X3 W 10000 _ i 0 0 x _ (hL.ext u.aF) hx bP bP bP).1) ?_;rintro _ _ ⟨aje,rfl,dw⟩;have u:=u.made dw;obtain⟨G,X4,_⟩:=u.eH;subst X4;refine aK u n6 (λKy _ u=>have u:=u.enc (cs':=jn (⟨bY,0,0,0⟩:cP)) rfl;aH (x:=(⟨G,x.to,x.e,x.at_⟩:cP)) u eL rfl rfl λ_ u=>aA pb (aB (v:=hZ x.e) gq u.hb rfl (cB (aC (λcW=>?_) λcW=>?_))))
 .refine aA pb (have u:=u.drew;aB (v:=hZ x.e) gq u.hb rfl (aA MV (aB (v:=hZ x.at_) bL u.hb rfl ?_)))
  have B:R=([],0,x.e,x.at_):=by
   rw[fh cW]at I;exact(nM.inj I).symm
  rw[B];exact⟨bY,rfl,(u.fG (Φ:=λw=>DL w (iS (bY:SV)) ([]:List bI)) λw=>DL.nil w).fresh⟩
 rw[fg cW]at I;obtain⟨tr,J,Z,Y,Zi,E⟩:=Ht I;have htki:=(j0.1 Y).1;obtain⟨U,F8⟩:=tg Z;have V:AN x.l 0 tr:=⟨bP,U,[],by simpa using F8⟩;refine aA ng (aB (v:=iS (G:SV)) lF u.hb rfl (aR Uu u (C288 _ x.l 0 tr (tr.size+1) _ (DL.flat (iK u.p1.eH)) bP V bP) λ_ he u=>dL (aC (λM=>?_) λM=>aA ng (aB (v:=iS (G:SV)) lF u.hb rfl (aI ju (DL.flat (iK u.p1.eH)) (dL (aC (λwT=>?_) λwT=>?_)))))))
 .refine aY ey (hL.ext u.aF) bP Y (λ_ Pw=>cU J.at_ iP Pw rfl rfl λ_ Px=>have u:=u.drew;aE bL Px ?_)
  have B:R=([],0,7,J.at_):=by
   rw[fh M]at E;exact(nM.inj E).symm
  rw[B];exact⟨bY,rfl,(u.fG (Φ:=λw=>DL w (iS (bY:SV)) ([]:List bI)) λw=>DL.nil w).fresh⟩
 .refine aY ey (hL.ext u.aF) bP Y (λ_ Py=>cU J.at_ iP Py rfl rfl λ_ N8=>have u:=u.drew;aE bL N8 ?_)
  have B:R=([],0,2,J.at_):=by
   rw[fg M,fh bP]at E;exact(nM.inj E).symm
  rw[B];exact⟨bY,rfl,(u.fG (Φ:=λw=>DL w (iS (bY:SV)) ([]:List bI)) λw=>DL.nil w).fresh⟩
 refine aA ng (have u:=u.drew;aB (v:=iS (G:SV)) lF u.hb rfl (aA kP (aB (v:=hZ x.to) bL u.hb rfl ?_)));have u:=u.p1.dH (Ψ:=λw=>DL w (iS G) x.l) (λ_ h=>iK h)
 have B:R=(x.l,x.to,0,0):=by
  rw[fg M,fg bP]at E;exact(nM.inj E).symm
 rw[B];exact⟨G,rfl,u.fresh⟩
structure eE where
 at_:Int
 e:Int
 pos:Int
deriving DecidableEq
def gd(l:List aW)(s:eE)(e:Int):eE:=if s.e=0 then {s with e:=if (l.length:Int)<=s.at_ then 6 else e,pos:=jK l s.at_}else s
def cN(l:List aW)(s:eE)(t:ByteArray):eE:=if (decide (s.e=0)&&ox l s.at_ t)=true then {s with at_:=s.at_+1}else gd l s 5
def iT(l:List aW)(i:Int):Option aW:=if 0<=i then l[i.toNat]? else none
def oy(l:List aW)(s:eE):Bool:=decide (s.e=0)&&(match iT l s.at_ with|some t=>decide (t.kind=1)&&fw t.text|none=>false)
def lB(l:List aW)(i:Int):aW:=(iT l i).getD ⟨0,⟨#[]⟩,0,0⟩
def bX(l:List aW)(s:eE):eE×ByteArray:=if oy l s=true then({s with at_:=s.at_+1},(lB l s.at_).text)else(gd l s 5,⟨#[]⟩)
def mH(l:List aW)(s:eE):Option (eE×List bI):=if s.e≠0 then some (s,[])else(qA l s.at_).bind λR=>
 if R.2.2.1≠0 then some ({s with e:=R.2.2.1,pos:=R.2.2.2},[])else if 0<=R.2.1/\R.2.1<=l.length then some ({s with at_:=R.2.1},R.1)else none
def Hu(l:List aW)(s:eE):Bool:=decide (s.e=0)&&(match iT l s.at_ with|some t=>decide (t.kind=2)|none=>false)
def iy(l:List aW)(s:eE):eE×Int:=if Hu l s=true then(if 1<=(lB l s.at_).n/\(lB l s.at_).n<=8 then({s with at_:=s.at_+1},(lB l s.at_).n)else(gd l s 11,0))else(gd l s 5,0)
def xY:List ByteArray:=[⟨#[]⟩,⟨#[]⟩,⟨#[108,111,97,100]⟩,⟨#[115,116,111,114,101]⟩,⟨#[99,97,115]⟩,⟨#[102,108,117,115,104]⟩,⟨#[111,112,116]⟩,⟨#[115,102,101,110,99,101]⟩,⟨#[109,102,101,110,99,101]⟩,⟨#[116,97,107,101]⟩,⟨#[103,105,118,101]⟩,⟨#[105,102]⟩,⟨#[108,111,111,112]⟩,⟨#[98,114,101,97,107]⟩,⟨#[99,104,101,99,107]⟩]
def Bg(k:Int):ByteArray:=(xY[k.toNat]?).getD ⟨#[]⟩
def iL(l:List aW)(s:eE):Prop:=0<=s.at_/\s.at_<=l.length
section
variable {l:List aW}{s:eE}{e:Int}{t:ByteArray}
theorem oz(h:iL l s):iL l (gd l s e):=by unfold gd;split<;>exact h
theorem er(h:iL l s):iL l (cN l s t):=by
 unfold cN;split
 .rename_i h2
  rw[nu]at h2
  have:=nJ h2.2
  exact⟨cR,cR⟩
 exact oz h
theorem jr{i:Int}{k:aW}(h:iT l i=some k):0<=i/\i<l.length/\l[i.toNat]?=some k:=by
 unfold iT at h
 grind
theorem vi(h:oy l s=true):s.e=0/\∃k,iT l s.at_=some k/\k.kind=1/\fw k.text=true:=by
 unfold oy at h
 grind
theorem JD(h:Hu l s=true):s.e=0/\∃k,iT l s.at_=some k/\k.kind=2:=by
 unfold Hu at h
 grind
theorem fe(h:iL l s):iL l (bX l s).1:=by
 unfold bX;split
 .rename_i h2
  obtain⟨_,k,u,_⟩:=vi h2
  have:=jr u
  exact⟨cR,cR⟩
 exact oz h
theorem Lz(h:iL l s):iL l (iy l s).1:=by
 unfold iy;split
 .rename_i h2
  obtain⟨_,k,u,_⟩:=JD h2
  have:=jr u
  split
  .exact⟨cR,cR⟩
  exact oz h
 exact oz h
theorem nK{s':eE}{x:List bI}(h:iL l s)(u:mH l s=some (s',x)):iL l s':=by
 unfold mH at u
 split at u
 .grind
 cases hx:qA l s.at_ with
 | none=>grind
 | some R=>
  grind[iL]
end
@[reducible] def dx(lv ov:Value)(s:eE):List Value:=[lv,.int .i64 s.at_,.int .i64 s.e,.int .i64 s.pos,ov]
@[reducible] def dz(lv:Value)(s:eE):List Value:=[lv,.int .i64 s.at_,.int .i64 s.e,.int .i64 s.pos]
def fr(l:List aW)(s:eE)(t:ByteArray):eE×Bool:=if (decide (s.e=0)&&ox l s.at_ t)=true then({s with at_:=s.at_+1},true)else(s,false)
def dU(l:List aW)(s:eE):eE×bO:=if oy l s=true then({s with at_:=s.at_+1},⟨(lB l s.at_).text,0,(lB l s.at_).at_⟩)else(gd l s 5,⟨⟨#[]⟩,0,0⟩)
def ic{l:List aW}{s:eE}{t:ByteArray}(h:iL l s):iL l (fr l s t).1:=by
 unfold fr;split
 .rename_i h2
  rw[nu]at h2
  have:=nJ h2.2
  exact⟨cR,cR⟩
 exact h
def pF{l:List aW}{s:eE}(h:iL l s):iL l (dU l s).1:=by
 unfold dU;split
 .rename_i h2
  obtain⟨_,k,u,_⟩:=vi h2
  have:=jr u
  exact⟨cR,cR⟩
 exact oz h
theorem PU{l:List aW}{s u:eE}{x:List bI}(h:mH l s=some (u,x))(B:¬ s.e≠0):∃R,qA l s.at_=some R/\
  (if R.2.2.1≠0 then some ({s with e:=R.2.2.1,pos:=R.2.2.2},[])else if 0<=R.2.1/\R.2.1<=l.length then some ({s with at_:=R.2.1},R.1)else none)=some (u,x):=by
 unfold mH at h;rw[fg B]at h
 cases hx:qA l s.at_ with
 | none=>grind
 | some R=>grind
def PV{l:List aW}{s u:eE}{x:List bI}{R:List bI×Int×Int×Int}(h:(if R.2.2.1≠0 then some ({s with e:=R.2.2.1,pos:=R.2.2.2},[])else if 0<=R.2.1/\R.2.1<=l.length then some ({s with at_:=R.2.1},R.1)else none)=some (u,x))(B:¬ R.2.2.1≠0):0<=R.2.1/\R.2.1<=l.length:=by
 grind
def C336(p:Nat)(lv ov:Value)(l:List aW)(s:eE)(e:Int)(F:Nat->Prop)(w:World)(V:(bM p (dx lv ov s)).p w F)(G:∀w',fD F w w'->dy (λ_=>True) w' lv l)(J:fQ l)(W:iL l s):CR 336 [(.pointer (some ⟨p,0,none⟩)),hZ e] w (λv w'=>v=.tuple #[]/\mC F (bM p (dx lv ov (gd l s e))) w w'):=by
 have u:=St.begin V;have xP:=J.n;have I:l.length<=1000000:=bP
 have M:=J.at_;obtain⟨JE,JF⟩:=id W;refine qg Tryz.func336 (pl:=agz) ?_;refine aD (aA iu (aB gq u.hb rfl (aG (aC (λB=>aD (aA iu (aO u gq (dQ rfl) (rfl) λ_ u=>⟨_,aD (aA dT (have u:=u.drew;aB bL u.hb rfl (aD (aA fu (aB fU u.hb rfl (aI ey (G _ u.aF) (cJ (aC (λE=>?_) λE=>?_)))))))),λ_ h=>h⟩))) λB=>?_))))
 .refine aD (aA iu (aO u gq (dQ rfl) (rfl) λ_ u=>?_));intro U;refine aD (aA fu (have u:=u.drew;aB fU u.hb rfl (aD (aA dT (aB bL u.hb rfl (aR Aw u (C201 _ l s.at_ _ (G _ u.aF) I M) λZ Y u=>aD (aA uA (aO u bL (dQ rfl) (rfl) λO u=>?_))))))));have hb:gd l s e=(⟨s.at_,6,(jK l s.at_)⟩:eE):=by unfold gd;rw[fh B,fh E]
  rw[hb];exact⟨rfl,u.mut⟩
 .intro U;refine aD (aA fu (have u:=u.drew;aB fU u.hb rfl (aD (aA dT (aB bL u.hb rfl (aR Aw u (C201 _ l s.at_ _ (G _ u.aF) I M) λZ Y u=>aD (aA uA (aO u bL (dQ rfl) (rfl) λO u=>?_))))))));have hb:gd l s e=(⟨s.at_,e,(jK l s.at_)⟩:eE):=by unfold gd;rw[fh B,fg E]
  rw[hb];exact⟨rfl,u.mut⟩
 have hb:gd l s e=s:=by unfold gd;rw[fg B]
 rw[hb];exact⟨rfl,u.mut⟩
def C106(p:Nat)(lv:Value)(l:List aW)(s:eE)(F:Nat->Prop)(w:World)(V:(bM p (dz lv s)).p w F)(G:∀w',fD F w w'->dy (λ_=>True) w' lv l)(J:fQ l)(W:iL l s):CR 106 [(.pointer (some ⟨p,0,none⟩))] w (λv w'=>v=.tuple #[]/\mC F (bM p (dz lv (gd l s 5))) w w'):=by
 have u:=St.begin V;have xP:=J.n;have I:l.length<=1000000:=bP
 have M:=J.at_;obtain⟨JE,JF⟩:=id W;refine qg Tryz.func106 (pl:=age) ?_;refine aD (aA jh (aB gq u.hb rfl (aG (aC (λB=>aD (aA jh (aO u gq (dQ rfl) (rfl) λ_ u=>⟨_,aD (aA eh (have u:=u.drew;aB bL u.hb rfl (aD (aA gP (aB fU u.hb rfl (aI ey (G _ u.aF) (cJ (aC (λE=>?_) λE=>?_)))))))),λ_ h=>h⟩))) λB=>?_))))
 .refine aD (aA jh (aO u gq (dQ rfl) (rfl) λ_ u=>?_));intro U;refine aD (aA gP (have u:=u.drew;aB fU u.hb rfl (aD (aA eh (aB bL u.hb rfl (aR Aw u (C201 _ l s.at_ _ (G _ u.aF) I M) λZ Y u=>aD (aA qT (aO u bL (dQ rfl) (rfl) λO u=>?_))))))));have hb:gd l s 5=(⟨s.at_,6,(jK l s.at_)⟩:eE):=by unfold gd;rw[fh B,fh E]
  rw[hb];exact⟨rfl,u.mut⟩
 .intro U;refine aD (aA gP (have u:=u.drew;aB fU u.hb rfl (aD (aA eh (aB bL u.hb rfl (aR Aw u (C201 _ l s.at_ _ (G _ u.aF) I M) λZ Y u=>aD (aA qT (aO u bL (dQ rfl) (rfl) λO u=>?_))))))));have hb:gd l s 5=(⟨s.at_,5,(jK l s.at_)⟩:eE):=by unfold gd;rw[fh B,fg E]
  rw[hb];exact⟨rfl,u.mut⟩
 have hb:gd l s 5=s:=by unfold gd;rw[fg B]
 rw[hb];exact⟨rfl,u.mut⟩
def C286(p:Nat)(lv ov:Value)(l:List aW)(s:eE)(t:ByteArray)(F:Nat->Prop)(w:World)(U:(bM p (dx lv ov s)).p w F)(J:∀w',fD F w w'->dy (λ_=>True) w' lv l)(G:fQ l)(I:iL l s):CR 286 [(.pointer (some ⟨p,0,none⟩)),.string t] w (λv w'=>v=.tuple #[]/\mC F (bM p (dx lv ov (cN l s t))) w w'):=by
 have u:=St.begin U;have xP:=G.n;have M:l.length<=1000000:=bP
 have qK:=G.at_;obtain⟨JE,JF⟩:=id I;refine qg Tryz.func286 (pl:=agx) ?_;refine⟨λY w'=>Y=.bool (decide (s.e=0)&&ox l s.at_ t)/\St w F [bM p (dx lv ov s)] w',aD (aA iu (have u:=u.drew;aB gq u.hb rfl (aG (aC (λE=>aD (aA fu (aB fU u.hb rfl (aD (aA dT (aB bL u.hb rfl (aR qh u (C196 _ l s.at_ t _ (J _ u.aF) M) λ_ _ u=>⟨vb (by first|(rw[fY E];rfl)|(rw[fZ E];rfl)),u⟩))))))) λE=>⟨vb (by first|(rw[fY E];rfl)|(rw[fZ E];rfl)),u⟩)))),?_⟩;rintro _ _ ⟨rfl,u⟩ _;refine bD (λB=>?_) (λB=>?_)
 .have W:=nJ (by rw[nu]at B;exact B.2);refine aD (aA dT (aB bL u.hb rfl (aM bP (aD (aA dT (aO u bL (dQ rfl) (rfl) λ_ u=>?_))))));have hb:cN l s t={s with at_:=s.at_+1}:=by unfold cN;rw[fh (by simpa using B)]
  rw[hb];exact⟨rfl,u.mut⟩
 refine aS Az u (H':=λ_=>bM p (dx lv ov (gd l s 5))) (Φ:=λ_ _=>True) (λO V Z=>?_) ?_
 .exact(C336 p lv ov l s 5 O _ V (λw' hc=>J w' (Z w' hc).aF) G I).mono λ_ _ r=>r.mono λ_ _ h=>⟨trivial,h.2⟩
 rintro _ _ _ u;have hb:cN l s t=gd l s 5:=by unfold cN;rw[fg (by simpa using B)]
 rw[hb];exact⟨rfl,u.mut⟩
def C101(p:Nat)(lv:Value)(l:List aW)(s:eE)(t:ByteArray)(F:Nat->Prop)(w:World)(M:(bM p (dz lv s)).p w F)(U:∀w',fD F w w'->dy (λ_=>True) w' lv l)(G:fQ l)(J:iL l s):CR 101 [(.pointer (some ⟨p,0,none⟩)),.string t] w (λv w'=>v=.bool (fr l s t).2/\mC F (bM p (dz lv (fr l s t).1)) w w'):=by
 have u:=St.begin M;have Y:=G.n;have I:l.length<=1000000:=bP
 have Z:=G.at_;obtain⟨W,JF⟩:=id J;refine qg Tryz.func101 (pl:=af9) ?_;refine⟨λV w'=>V=.bool (decide (s.e=0)&&ox l s.at_ t)/\St w F [bM p (dz lv s)] w',aD (aA jh (have u:=u.drew;aB gq u.hb rfl (aG (aC (λB=>aD (aA gP (aB fU u.hb rfl (aD (aA eh (aB bL u.hb rfl (aR qh u (C196 _ l s.at_ t _ (U _ u.aF) I) λ_ _ u=>⟨vb (by first|(rw[fY B];rfl)|(rw[fZ B];rfl)),u⟩))))))) λB=>⟨vb (by first|(rw[fY B];rfl)|(rw[fZ B];rfl)),u⟩)))),?_⟩;rintro _ _ ⟨rfl,u⟩ _;refine bD (λE=>?_) (λE=>?_)
 .have O:=nJ (by rw[nu]at E;exact E.2);refine aD (aA eh (aB bL u.hb rfl (aM bP (aD (aA eh (aO u bL (dQ rfl) (rfl) λ_ u=>?_))))));have hb:fr l s t=({s with at_:=s.at_+1},true):=by unfold fr;rw[fh (by simpa using E)]
  rw[hb];exact⟨rfl,u.mut⟩
 have hb:fr l s t=(s,false):=by unfold fr;rw[fg (by simpa using E)]
 rw[hb];exact⟨rfl,u.mut⟩
def C197(p:Nat)(lv:Value)(l:List aW)(s:eE)(t:ByteArray)(F:Nat->Prop)(w:World)(W:(bM p (dz lv s)).p w F)(V:∀w',fD F w w'->dy (λ_=>True) w' lv l)(E:fQ l)(I:iL l s):CR 197 [(.pointer (some ⟨p,0,none⟩)),.string t] w (λv w'=>v=.tuple #[]/\mC F (bM p (dz lv (cN l s t))) w w'):=by
 have B:=St.begin W;have xP:=E.n;have Y:l.length<=1000000:=bP
 have qK:=E.at_;obtain⟨Z,JF⟩:=id I;refine eR Tryz.func197 ?_;refine aS sK B (H':=λ_=>bM p (dz lv (fr l s t).1)) (Φ:=λv _=>v=.bool (fr l s t).2) (λG M U=>?_) ?_
 .exact C101 p lv l s t G _ M (λw' hc=>V w' (U w' hc).aF) E I
 rintro _ w1 rfl B;refine bJ (bD (λJ=>?_) λJ=>?_)
 .refine aS H9 B (H':=λ_=>bM p (dz lv (gd l (fr l s t).1 5))) (Φ:=λ_ _=>True) (λG M U=>?_) ?_
  .exact(C106 p lv l (fr l s t).1 G _ M (λw' hc=>V w' (U w' hc).aF) E (ic I)).mono λ_ _ r=>r.mono λ_ _ h=>⟨trivial,h.2⟩
  rintro _ w2 _ B
  have O:cN l s t=gd l (fr l s t).1 5:=by
   have u:(fr l s t).2=false:=by simpa using J
   unfold fr at u |-;unfold cN
   split at u
   .cases u
   .rename_i h8;rw[fg h8,fg h8]
  rw[O];exact⟨rfl,B.mut⟩
 have O:cN l s t=(fr l s t).1:=by
  have u:(fr l s t).2=true:=by simpa using J
  unfold fr at u |-;unfold cN
  split at u
  .rename_i h8;rw[fh h8,fh h8]
  .cases u
 rw[O];exact⟨rfl,B.mut⟩
def C354(p:Nat)(lv ov:Value)(l:List aW)(s:eE)(F:Nat->Prop)(w:World)(hF:(bM p (dx lv ov s)).p w F)(I:∀w',fD F w w'->dy (λ_=>True) w' lv l)(M:fQ l)(U:iL l s):CR 354 [(.pointer (some ⟨p,0,none⟩))] w (λv w'=>v=.string (bX l s).2/\mC F (bM p (dx lv ov (bX l s).1)) w w'):=by
 have u:=St.begin hF;have xP:=M.n;have hn:l.length<=1000000:=bP
 have qK:=M.at_;obtain⟨JE,JF⟩:=id U;refine qg Tryz.func354 (pl:=agH) ?_;refine⟨λjv w'=>jv=.bool (oy l s)/\St w F [bM p (dx lv ov s)] w',?_,?_⟩
 .refine aD (aA iu (have u:=u.drew;aB gq u.hb rfl (aG (aC (λB=>aD (aA dT (aB bL u.hb rfl (aD (aA fu (aB fU u.hb rfl (aI ey (I _ u.aF) (aQ (aC (λl8=>?_) λl8=>⟨vb (by unfold oy iT;first|(rw[fZ B];rfl)|(rw[fh bP,l2 bP];simp;done)|(rw[fh bP,G,fY B];dsimp only;first|(rw[fZ E];rfl)|(rw[fY E];rfl))),u⟩))))))))) λB=>⟨vb (by unfold oy iT;first|(rw[fZ B];rfl)|(rw[fh bP,l2 bP];simp;done)|(rw[fh bP,G,fY B];dsimp only;first|(rw[fZ E];rfl)|(rw[fY E];rfl))),u⟩))))
  refine aD (aA fu (aB fU u.hb rfl (aD (aA dT (aB bL u.hb rfl ?_)))));obtain⟨V,G⟩:=gx l (i:=s.at_.toNat) bP;refine aY ey (I _ u.aF) bP G (λ_ Z=>cU V.kind iO Z rfl rfl λ_ uN=>?_);exact aE bL uN (aG (aC (λE=>aD (aA fu (aB fU u.hb rfl (aD (aA dT (aB bL u.hb rfl (aY ey (I _ u.aF) bP G λ_ sV=>cU V.text jR sV rfl rfl λ_ zA=>aE jZ zA (aR MC u (C198 _ _ (by have:=qK _ (l0 G);omega)) λ_ he u=>⟨vb (by unfold oy iT;first|(rw[fZ B];rfl)|(rw[fh bP,l2 bP];simp;done)|(rw[fh bP,G,fY B];dsimp only;first|(rw[fZ E];rfl)|(rw[fY E];rfl))),u⟩)))))))) λE=>⟨vb (by unfold oy iT;first|(rw[fZ B];rfl)|(rw[fh bP,l2 bP];simp;done)|(rw[fh bP,G,fY B];dsimp only;first|(rw[fZ E];rfl)|(rw[fY E];rfl))),u⟩))
 rintro _ _ ⟨rfl,u⟩ _;refine bD (λJ=>?_) (λJ=>?_)
 .obtain⟨_,O,W,_,_⟩:=vi J;obtain⟨adP,Y,X5⟩:=jr W;have Cl:l[(s.at_+1-1).toNat]?=some O:=by rw[<- X5];congr 2;omega
  refine aD (aA dT (aB bL u.hb rfl (aM bP (aD (aA dT (aO u bL (dQ rfl) (rfl) λ_ u=>aD (aA fu (have u:=u.drew;aB fU u.hb rfl (aD (aA dT (aB bL u.hb rfl ?_)))))))))));refine fk bP (aY ey (I _ u.aF) bP Cl λ_ PW=>cU O.text jR PW rfl rfl λ_ PX=>aE jZ PX ?_);have hb:bX l s=({s with at_:=s.at_+1},O.text):=by unfold bX;rw[fh J];unfold lB;rw[W];rfl
  rw[hb];exact⟨rfl,u.mut⟩
 refine aS Az u (H':=λ_=>bM p (dx lv ov (gd l s 5))) (Φ:=λ_ _=>True) (λF2 dP dK=>?_) ?_
 .exact(C336 p lv ov l s 5 F2 _ dP (λw' hc=>I w' (dK w' hc).aF) M U).mono λ_ _ r=>r.mono λ_ _ h=>⟨trivial,h.2⟩
 rintro _ _ _ u;have hb:bX l s=(gd l s 5,⟨#[]⟩):=by unfold bX;rw[fg (by simpa using J)]
 rw[hb];exact⟨rfl,u.mut⟩
def C103(p:Nat)(lv:Value)(l:List aW)(s:eE)(F:Nat->Prop)(w:World)(hF:(bM p (dz lv s)).p w F)(J:∀w',fD F w w'->dy (λ_=>True) w' lv l)(U:fQ l)(V:iL l s):CR 103 [(.pointer (some ⟨p,0,none⟩))] w (λv w'=>v=iS (dU l s).2/\mC F (bM p (dz lv (dU l s).1)) w w'):=by
 have u:=St.begin hF;have xP:=U.n;have hn:l.length<=1000000:=bP
 have qK:=U.at_;obtain⟨JE,JF⟩:=id V;refine qg Tryz.func103 (pl:=agb) ?_;refine aK u lO (λyH _ u=>⟨λjv w'=>jv=.bool (oy l s)/\St w F [bM p (dz lv s),bM yH (jn (⟨ia #[],0,0⟩:bO))] w',?_,?_⟩)
 .refine aD (aA jh (have u:=u.drew;aB gq u.p1.hb rfl (aG (aC (λB=>aD (aA eh (aB bL u.p1.hb rfl (aD (aA gP (aB fU u.p1.hb rfl (aI ey (J _ u.aF) (aQ (aC (λl8=>?_) λl8=>have u:=u.p1;⟨vb (by unfold oy iT;first|(rw[fZ B];rfl)|(rw[fh bP,l2 bP];simp;done)|(rw[fh bP,G,fY B];dsimp only;first|(rw[fZ E];rfl)|(rw[fY E];rfl))),u⟩))))))))) λB=>have u:=u.p1;⟨vb (by unfold oy iT;first|(rw[fZ B];rfl)|(rw[fh bP,l2 bP];simp;done)|(rw[fh bP,G,fY B];dsimp only;first|(rw[fZ E];rfl)|(rw[fY E];rfl))),u⟩))))
  refine aD (aA gP (aB fU u.p1.hb rfl (aD (aA eh (aB bL u.p1.hb rfl ?_)))));obtain⟨W,G⟩:=gx l (i:=s.at_.toNat) bP;refine aY ey (J _ u.aF) bP G (λ_ uM=>cU (W).kind iO uM rfl rfl λ_ uN=>?_);exact aE bL uN (aG (aC (λE=>aD (aA gP (aB fU u.p1.hb rfl (aD (aA eh (aB bL u.p1.hb rfl (aY ey (J _ u.aF) bP G λ_ sV=>cU (W).text jR sV rfl rfl λ_ zA=>aE jZ zA (aR MC u (C198 _ _ (by have:=qK _ (l0 G);omega)) λ_ he u=>have u:=u.p1;⟨vb (by unfold oy iT;first|(rw[fZ B];rfl)|(rw[fh bP,l2 bP];simp;done)|(rw[fh bP,G,fY B];dsimp only;first|(rw[fZ E];rfl)|(rw[fY E];rfl))),u⟩)))))))) λE=>have u:=u.p1;⟨vb (by unfold oy iT;first|(rw[fZ B];rfl)|(rw[fh bP,l2 bP];simp;done)|(rw[fh bP,G,fY B];dsimp only;first|(rw[fZ E];rfl)|(rw[fY E];rfl))),u⟩))
 rintro _ _ ⟨rfl,u⟩ _;refine bD (λM=>?_) (λM=>?_)
 .obtain⟨_,I,Z,_,_⟩:=vi M;obtain⟨adP,adQ,X5⟩:=jr Z;have Y:l[(s.at_+1-1).toNat]?=some I:=by rw[<- X5];congr 2;omega
  refine aD (aA eh (aB bL u.hb rfl (aM bP (aD (aA eh (aO u bL (dQ rfl) (rfl) λ_ u=>aD (aA gP (have u:=u.drew;aB fU u.hb rfl (aD (aA eh (aB bL u.hb rfl ?_)))))))))));refine fk bP (aY ey (J _ u.aF) bP Y λ_ PW=>cU I.text jR PW rfl rfl λ_ PX=>aE jZ PX (aD (aA gP (aB fU u.hb rfl (aD (aA eh (aB bL u.hb rfl (fk bP (aY ey (J _ u.aF) bP Y λ_ O=>cU I.at_ iP O rfl rfl λ_ PY=>?_)))))))))
  refine aE bL PY (pop (Gh _ _) (aH (x:=(⟨I.text,0,I.at_⟩:bO)) u.p1 jQ rfl rfl λ_ u=>aE jQ u.At ?_));have u:=u.drop;have hb:dU l s=({s with at_:=s.at_+1},⟨I.text,0,I.at_⟩):=by unfold dU;rw[fh M];unfold lB;rw[Z];rfl
  rw[hb];exact⟨rfl,u.mut⟩
 refine aS H9 u (H':=λ_=>bM p (dz lv (gd l s 5))) (Φ:=λ_ _=>True) (λF2 dP dK=>?_) ?_
 .exact(C106 p lv l s F2 _ dP (λw' hc=>J w' (dK w' hc).aF) U V).mono λ_ _ r=>r.mono λ_ _ h=>⟨trivial,h.2⟩
 rintro _ _ _ u;refine pop RT (aH (x:=(⟨(ia #[]),0,0⟩:bO)) u.p1 jQ rfl rfl λ_ u=>aE jQ u.At ?_);have u:=u.drop;have hb:dU l s=(gd l s 5,⟨⟨#[]⟩,0,0⟩):=by unfold dU;rw[fg (by simpa using M)]
 rw[hb];exact⟨rfl,u.mut⟩
def C335(k:Int)(w:World)(M:0<=k/\k<=14):CR 335 [hZ k] w (λv w'=>v=.string (Bg k)/\Ext w w'):=by
 have u:=St.start w;refine eR Tryz.func335 ?_;refine bK xY u iN rfl rfl (dQ rfl) (λI _ u=>?_);have E:xY.length=15:=rfl;obtain⟨G,B⟩:=gx xY (i:=k.toNat) bP;refine ed u iN bP bP (λ_ J=>gM u jZ J B ?_);refine⟨?_,u.drop.aF⟩;unfold Bg;rw[B];rfl
def C356(p:Nat)(lv ov:Value)(l:List aW)(s:eE)(F:Nat->Prop)(w:World)(hF:(bM p (dx lv ov s)).p w F)(G:∀w',fD F w w'->dy (λ_=>True) w' lv l)(I:fQ l)(U:iL l s):CR 356 [(.pointer (some ⟨p,0,none⟩))] w (λv w'=>v=hZ (iy l s).2/\mC F (bM p (dx lv ov (iy l s).1)) w w'):=by
 have u:=St.begin hF;have xP:=I.n;have hn:l.length<=1000000:=bP
 have qK:=I.at_;obtain⟨JE,JF⟩:=id U;refine qg Tryz.func356 (pl:=agJ) ?_;refine⟨λY w'=>Y=.bool (Hu l s)/\St w F [bM p (dx lv ov s)] w',?_,?_⟩
 .refine aD (aA iu (have u:=u.drew;aB gq u.hb rfl (aG (aC (λB=>aD (aA dT (aB bL u.hb rfl (aD (aA fu (aB fU u.hb rfl (aI ey (G _ u.aF) (aQ (aC (λfc=>?_) λfc=>⟨vb (by unfold Hu iT;first|(rw[fZ B];rfl)|(rw[fh bP,l2 bP];simp;done)|(rw[fh bP,M,fY B];rfl)),u⟩))))))))) λB=>⟨vb (by unfold Hu iT;first|(rw[fZ B];rfl)|(rw[fh bP,l2 bP];simp;done)|(rw[fh bP,M,fY B];rfl)),u⟩))))
  refine aD (aA fu (aB fU u.hb rfl (aD (aA dT (aB bL u.hb rfl ?_)))));obtain⟨II,M⟩:=gx l (i:=s.at_.toNat) bP;exact aY ey (G _ u.aF) bP M (λ_ uN=>cU II.kind iO uN rfl rfl λ_ N1=>aE bL N1 (aG ⟨vb (by unfold Hu iT;first|(rw[fZ B];rfl)|(rw[fh bP,l2 bP];simp;done)|(rw[fh bP,M,fY B];rfl)),u⟩))
 rintro _ _ ⟨rfl,u⟩ _;refine bD (λE=>?_) (λE=>?_)
 .obtain⟨_,J,Z,_⟩:=JD E;obtain⟨adP,adQ,Cl⟩:=jr Z;refine aD (aA fu (have u:=u.drew;aB fU u.hb rfl (aD (aA dT (aB bL u.hb rfl (aY ey (G _ u.aF) bP Cl λ_ sV=>cU J.n m9 sV rfl rfl λ_ zA=>aE bL zA ⟨λY w'=>Y=.bool (decide (1<=J.n/\J.n<=8))/\St w F [bM p (dx lv ov s)] w',cJ (aC (λ_=>gL ⟨vb (by first|exact(fZ bP).symm|exact ga.2 bP),u⟩) λ_=>⟨vb (by first|exact(fZ bP).symm|exact ga.2 bP),u⟩),?_⟩))))))
  rintro _ _ ⟨rfl,u⟩ _;refine aC (λW=>?_) (λW=>?_)
  .refine aD (aA dT (aB bL u.hb rfl (aM bP (aD (aA dT (aO u bL (dQ rfl) (rfl) λ_ u=>?_))))));have hb:iy l s=({s with at_:=s.at_+1},J.n):=by unfold iy;rw[fh E];unfold lB;rw[Z];exact fh W
   rw[hb];exact⟨rfl,u.mut⟩
  refine aS Az u (H':=λ_=>bM p (dx lv ov (gd l s 11))) (Φ:=λ_ _=>True) (λO V dK=>?_) ?_
  .exact(C336 p lv ov l s 11 O _ V (λw' hc=>G w' (dK w' hc).aF) I U).mono λ_ _ r=>r.mono λ_ _ h=>⟨trivial,h.2⟩
  rintro _ _ _ u;have hb:iy l s=(gd l s 11,0):=by unfold iy;rw[fh E];unfold lB;rw[Z];exact fg W
  rw[hb];exact⟨rfl,u.mut⟩
 refine aS Az u (H':=λ_=>bM p (dx lv ov (gd l s 5))) (Φ:=λ_ _=>True) (λO V dK=>?_) ?_
 .exact(C336 p lv ov l s 5 O _ V (λw' hc=>G w' (dK w' hc).aF) I U).mono λ_ _ r=>r.mono λ_ _ h=>⟨trivial,h.2⟩
 rintro _ _ _ u;have hb:iy l s=(gd l s 5,0):=by unfold iy;rw[fg (by simpa using E)]
 rw[hb];exact⟨rfl,u.mut⟩
def C355(p:Nat)(lv ov:Value)(l:List aW)(s:eE)(G:eE)(x:List bI)(F:Nat->Prop)(w:World)(Y:(bM p (dx lv ov s)).p w F)(hT:∀w',fD F w w'->dy (λ_=>True) w' lv l)(M:fQ l)(Z:iL l s)(J:mH l s=some (G,x)):CR 355 [(.pointer (some ⟨p,0,none⟩))] w (λv w'=>mC F (oV λW:SV=>fact (v=iS W) (sep (bM p (dx lv ov G)) (eH λw=>DL w (iS W) x))) w w'):=by
 have u:=St.begin Y;have xP:=M.n;have hn:l.length<=1000000:=bP
 have qK:=M.at_;obtain⟨JE,JF⟩:=id Z;refine qg Tryz.func355 (pl:=agI) ?_;refine aD (aA iu (aB gq u.hb rfl (cB (aC (λV=>?_) λV=>?_))))
 .have E:((s,[]):eE×List bI)=(G,x):=by unfold mH at J;rw[fh V]at J;exact nM.inj J
  cases E;have u:=(u.fG (Φ:=λw=>DL w (iS (bY:SV)) ([]:List bI)) λw=>DL.nil w).p1;exact(St.dO (bY:SV) (St.mB rfl (St.join u))).mut
 refine aD (aA fu (have u:=u.drew;aB fU u.hb rfl (aD (aA dT (aB bL u.hb rfl ?_)))));obtain⟨R,O,B⟩:=PU J bP;refine dW Up (C200 l _ s.at_ R _ (hT _ u.aF) M bP O) ?_;rintro _ _ ⟨U,rfl,dw⟩;have u:=u.made dw;refine aJ rfl (aJ rfl (aJ rfl (aJ rfl (cB (aC (λI=>?_) λI=>?_)))))
 .refine aD (aA iu (aO u.p1 gq (dQ rfl) (rfl) λ_ u=>aD (aA uA (aO u bL (dQ rfl) (rfl) λ_ u=>?_))));have E:(({s with e:=R.2.2.1,pos:=R.2.2.2},[]):eE×List bI)=(G,x):=by rw[fh I]at B;exact nM.inj B
  cases E;have u:=(u.p1.drop.fG (Φ:=λw=>DL w (iS (bY:SV)) ([]:List bI)) λw=>DL.nil w).p1;exact(St.dO (bY:SV) (St.mB rfl (St.join u))).mut
 have FP:=PV B I;refine aD (aA dT (aO u.p1 bL (dQ rfl) (rfl) λ_ u=>?_));have E:(({s with at_:=R.2.1},R.1):eE×List bI)=(G,x):=by rw[fg I,fh FP]at B;exact nM.inj B
 cases E;have u:=u.p1.p1;exact(St.dO U (St.mB rfl (St.join u))).mut
def FR(k at_:Int):aZ:=⟨k,⟨#[]⟩,⟨#[]⟩,[],[],0,0,0,at_⟩
abbrev CZ:ByteArray:=⟨#[61]⟩
def Mb(l:List aW)(s:eE):eE:=cN l (bX l s).1 (ia #[61])
def s2M(l:List aW)(s:eE):eE:=cN l (bX l (Mb l s)).1 (ia #[44])
def iz(l:List aW)(s:eE)(k a:Int):Option (eE×aZ):=
 if k=1 then(mH l (Mb l s)).bind λr=>some (r.1,{FR k a with eO:=(bX l s).2,e:=r.2})
 else if k=2 then some ((bX l (Mb l s)).1,{FR k a with eO:=(bX l s).2,name:=(bX l (Mb l s)).2})
 else if k=3 then(mH l (Mb l s)).bind λr=>some (r.1,{FR k a with name:=(bX l s).2,e:=r.2})
 else if k=4 then(mH l (s2M l s)).bind λr=>(mH l (cN l r.1 (ia #[44]))).bind λq=>some (q.1,{FR k a with eO:=(bX l s).2,name:=(bX l (Mb l s)).2,e:=r.2,f:=q.2})
 else if k=5\/k=6\/k=9\/k=10 then some ((bX l s).1,{FR k a with name:=(bX l s).2})
 else if k=11\/k=14 then(mH l s).bind λr=>some (r.1,{FR k a with e:=r.2})
 else if k=12 then some ((iy l s).1,{FR k a with n:=(iy l s).2})
 else some (s,FR k a)
section
variable {l:List aW}{s s':eE}{k a:Int}{x:aZ}
theorem dN{α β γ:Type}{o:Option (α×β)}{g:α×β->Option γ}{c:γ}(h:o.bind g=some c):∃p q,o=some (p,q)/\g (p,q)=some c:=by
 cases o with
 | none=>cases h
 | some r=>grind
theorem JG(h:iz l s k a=some (s',x))(u:k=1):∃q e,mH l (Mb l s)=some (q,e)/\s'=q/\x={FR k a with eO:=(bX l s).2,e:=e}:=by
 unfold iz at h;rw[fh u]at h
 obtain⟨q,e,h1,h2⟩:=dN h
 grind
theorem JH(h:iz l s k a=some (s',x))(u:k=2):s'=(bX l (Mb l s)).1/\x={FR k a with eO:=(bX l s).2,name:=(bX l (Mb l s)).2}:=by
 unfold iz at h;grind
theorem JI(h:iz l s k a=some (s',x))(u:k=3):∃q e,mH l (Mb l s)=some (q,e)/\s'=q/\x={FR k a with name:=(bX l s).2,e:=e}:=by
 unfold iz at h;rw[fg bP,fg bP,fh u]at h
 obtain⟨q,e,h1,h2⟩:=dN h
 grind
theorem JJ(h:iz l s k a=some (s',x))(B:k=4):∃q e u f,mH l (s2M l s)=some (q,e)/\mH l (cN l q (ia #[44]))=some (u,f)/\s'=u/\x={FR k a with eO:=(bX l s).2,name:=(bX l (Mb l s)).2,e:=e,f:=f}:=by
 unfold iz at h;rw[fg bP,fg bP,fg bP,fh B]at h
 obtain⟨q,e,h1,h2⟩:=dN h
 obtain⟨u,f,h3,h4⟩:=dN h2
 grind
theorem JK(h:iz l s k a=some (s',x))(u:k=5\/k=6\/k=9\/k=10):s'=(bX l s).1/\x={FR k a with name:=(bX l s).2}:=by
 unfold iz at h;grind
theorem E9(h:iz l s k a=some (s',x))(u:k=11\/k=14):∃q e,mH l s=some (q,e)/\s'=q/\x={FR k a with e:=e}:=by
 unfold iz at h;rw[fg bP,fg bP,fg bP,fg bP,fg bP,fh u]at h
 obtain⟨q,e,h1,h2⟩:=dN h
 grind
theorem Fa(h:iz l s k a=some (s',x))(u:k=12):s'=(iy l s).1/\x={FR k a with n:=(iy l s).2}:=by
 unfold iz at h;grind
theorem Fb(h:iz l s k a=some (s',x))(h1:¬ k=1)(h2:¬ k=2)(h3:¬ k=3)(h4:¬ k=4)(h5:¬ (k=5\/k=6\/k=9\/k=10))(h6:¬ (k=11\/k=14))(u:¬ k=12):s'=s/\x=FR k a:=by
 unfold iz at h;grind
end
def wx{l:List aW}{s s':eE}{k a:Int}{x:aZ}(B:iL l s)(h:iz l s k a=some (s',x)):iL l s':=by
 have E:iL l (Mb l s):=er (fe B)
 have J:iL l (s2M l s):=er (fe E)
 by_cases h1:k=1
 .obtain⟨q,e,u,rfl,_⟩:=JG h h1;exact nK E u
 by_cases h2:k=2
 .obtain⟨rfl,_⟩:=JH h h2;exact fe E
 by_cases h3:k=3
 .obtain⟨q,e,u,rfl,_⟩:=JI h h3;exact nK E u
 by_cases h4:k=4
 .obtain⟨q,e,M,f,u,I,rfl,_⟩:=JJ h h4;exact nK (er (nK J u)) I
 by_cases h5:k=5\/k=6\/k=9\/k=10
 .obtain⟨rfl,_⟩:=JK h h5;exact fe B
 by_cases h6:k=11\/k=14
 .obtain⟨q,e,u,rfl,_⟩:=E9 h h6;exact nK B u
 by_cases G:k=12
 .obtain⟨rfl,_⟩:=Fa h G;exact Lz B
 obtain⟨rfl,_⟩:=Fb h h1 h2 h3 h4 h5 h6 G;exact B
def rM{α σ:Type}[Flat σ][Deep α σ]{w w0:World}{A:Nat->Prop}{L:List HP}{B:HP}{u:σ}{x:α}(E:St w0 A (B::eH (λw=>l3 w u x)::L) w) :
  St w0 A ((oV λs:σ=>fact (iS u=iS s) (sep B (eH λw=>l3 w s x)))::L) w:=
 St.dO (H:=λs:σ=>fact (iS u=iS s) (sep B (eH λw=>l3 w s x))) u (St.mB rfl (St.join E))
def C337(p:Nat)(lv ov:Value)(l:List aW)(s:eE)(B a:Int)(Z:eE)(x:aZ)(F:Nat->Prop)(w:World)(hF:(bM p (dx lv ov s)).p w F)(U:∀w',fD F w w'->dy (λ_=>True) w' lv l)(J:fQ l)(M:iL l s)(hp:iz l s B a=some (Z,x)):CR 337 [(.pointer (some ⟨p,0,none⟩)),hZ B,hZ a] w (λv w'=>mC F (oV λsh:aT=>fact (v=iS sh) (sep (bM p (dx lv ov Z)) (eH λw=>l3 w sh x))) w w'):=by
 have u:=St.begin hF;have xP:=J.n;have hn:l.length<=1000000:=bP
 have qK:=J.at_;obtain⟨JE,JF⟩:=id M;refine eR Tryz.func337 ?_;refine aK u jw (λLa _ u=>have u:=u.enc (cs':=jn (⟨0,(ia #[]),(ia #[]),bY,bY,0,0,0,0⟩:aT)) rfl;pop (Gi _ _) (aK u jw λAb _ u=>have u:=u.enc (cs':=jn (⟨0,(ia #[]),(ia #[]),bY,bY,0,0,0,0⟩:aT)) rfl;aH (x:=(⟨B,(ia #[]),(ia #[]),bY,bY,0,0,0,a⟩:aT)) u ek rfl rfl λw3 u=>?_));refine⟨_,?_,λ_ h=>h⟩;refine aG (aC (λuL=>?_) λuL=>aG (aC (λpg=>?_) λpg=>aG (aC (λwT=>?_) λwT=>aG (aC (λwS=>?_) λwS=>⟨λjv w'=>jv=.bool (decide (B=5\/B=6\/B=9\/B=10))/\w3=w',aG (aC (λ_=>⟨vb cR,rfl⟩) λ_=>aG (aC (λ_=>⟨vb cR,rfl⟩) λ_=>aG (aC (λ_=>⟨vb cR,rfl⟩) λ_=>aG ⟨vb cR,rfl⟩))),?_⟩))))
 .obtain⟨q,e,O,rfl,rfl⟩:=JG hp uL;refine aS yi u.p2 (H':=λ_=>bM p (dx lv ov (bX l s).1)) (Φ:=λv _=>v=.string (bX l s).2) (λE G I=>?_) ?_
  .exact C354 p lv ov l s E _ G (λw' hc=>U w' (I w' hc).aF) J M
  rintro _ _ rfl u;refine aA kL (aO u.p1 jZ (dQ rfl) (rfl) λ_ u=>have u:=u.enc (cs':=jn (⟨B,(bX l s).2,(ia #[]),bY,bY,0,0,0,a⟩:aT)) rfl;aS sL u.p1 (H':=λ_=>bM p (dx lv ov (cN l (bX l s).1 (ia #[61])))) (Φ:=λ_ _=>True) (λE G I=>?_) ?_)
  .exact(C286 p lv ov l (bX l s).1 (ia #[61]) E _ G (λw' hc=>U w' (I w' hc).aF) J (fe M)).mono λ_ _ r=>r.mono λ_ _ h=>⟨trivial,h.2⟩
  rintro _ _ _ u;refine aS Dp u (H':=λv=>oV λW:SV=>fact (v=iS W) (sep (bM p (dx lv ov Z)) (eH λw=>DL w (iS W) e))) (Φ:=λ_ _=>True) (λE G I=>?_) ?_
  .exact(C355 p lv ov l (cN l (bX l s).1 (ia #[61])) Z e E _ G (λw' hc=>U w' (I w' hc).aF) J (er (fe M)) O).mono λ_ _ r=>r.mono λ_ _ h=>⟨trivial,h⟩
  rintro v_x20 _ _ V;obtain⟨Hv,Y⟩:=V.dS
  clear V
  obtain⟨X6,xZ⟩:=Y.lr
  clear Y
  subst X6;have u:=xZ.split;refine aA kM (aO u.p2 lF (dQ rfl) (rfl) λ_ u=>?_);have u:=u.enc (cs':=jn (⟨B,(bX l s).2,(ia #[]),Hv,bY,0,0,0,a⟩:aT)) rfl;intro zQ;exact aE ek u.At (aH (x:=(⟨B,(bX l s).2,(ia #[]),Hv,bY,0,0,0,a⟩:aT)) u.p3 ek rfl rfl λ_ u=>aE ek u.At (have u:=u.p3.dH (Ψ:=(λw=>l3 w (⟨B,(bX l s).2,(ia #[]),Hv,bY,0,0,0,a⟩:aT) (⟨B,(bX l s).2,(ia #[]),e,[],0,0,0,a⟩:aZ))) (λ_ h=>⟨_,_,rfl,id h,DL.nil _⟩);have u:=u.p1.drop.p1.drop.p1;(rM u).mut))
 .obtain⟨rfl,rfl⟩:=JH hp pg;refine aS yi u.p2 (H':=λ_=>bM p (dx lv ov (bX l s).1)) (Φ:=λv _=>v=.string (bX l s).2) (λE G I=>?_) ?_
  .exact C354 p lv ov l s E _ G (λw' hc=>U w' (I w' hc).aF) J M
  rintro _ _ rfl u;refine aA kL (aO u.p1 jZ (dQ rfl) (rfl) λ_ u=>have u:=u.enc (cs':=jn (⟨B,(bX l s).2,(ia #[]),bY,bY,0,0,0,a⟩:aT)) rfl;aS sL u.p1 (H':=λ_=>bM p (dx lv ov (cN l (bX l s).1 (ia #[61])))) (Φ:=λ_ _=>True) (λE G I=>?_) ?_)
  .exact(C286 p lv ov l (bX l s).1 (ia #[61]) E _ G (λw' hc=>U w' (I w' hc).aF) J (fe M)).mono λ_ _ r=>r.mono λ_ _ h=>⟨trivial,h.2⟩
  rintro _ _ _ u;refine aS yi u (H':=λ_=>bM p (dx lv ov (bX l (cN l (bX l s).1 (ia #[61]))).1)) (Φ:=λv _=>v=.string (bX l (cN l (bX l s).1 (ia #[61]))).2) (λE G I=>?_) ?_
  .exact C354 p lv ov l (cN l (bX l s).1 (ia #[61])) E _ G (λw' hc=>U w' (I w' hc).aF) J (er (fe M))
  rintro _ _ rfl u;refine aA jS (aO u.p1 jZ (dQ rfl) (rfl) λ_ u=>?_);have u:=u.enc (cs':=jn (⟨B,(bX l s).2,(bX l (cN l (bX l s).1 (ia #[61]))).2,bY,bY,0,0,0,a⟩:aT)) rfl;intro zQ;exact aE ek u.At (aH (x:=(⟨B,(bX l s).2,(bX l (cN l (bX l s).1 (ia #[61]))).2,bY,bY,0,0,0,a⟩:aT)) u.p2 ek rfl rfl λ_ u=>aE ek u.At (have u:=u.fG (Φ:=(λw=>l3 w (⟨B,(bX l s).2,(bX l (cN l (bX l s).1 (ia #[61]))).2,bY,bY,0,0,0,a⟩:aT) (⟨B,(bX l s).2,(bX l (cN l (bX l s).1 (ia #[61]))).2,[],[],0,0,0,a⟩:aZ))) (λ_=>⟨_,_,rfl,DL.nil _,DL.nil _⟩);have u:=u.p1.drop.p1.drop.p1;(rM u).mut))
 .obtain⟨q,e,O,rfl,rfl⟩:=JI hp wT;refine aS yi u.p2 (H':=λ_=>bM p (dx lv ov (bX l s).1)) (Φ:=λv _=>v=.string (bX l s).2) (λE G I=>?_) ?_
  .exact C354 p lv ov l s E _ G (λw' hc=>U w' (I w' hc).aF) J M
  rintro _ _ rfl u;refine aA jS (aO u.p1 jZ (dQ rfl) (rfl) λ_ u=>have u:=u.enc (cs':=jn (⟨B,(ia #[]),(bX l s).2,bY,bY,0,0,0,a⟩:aT)) rfl;aS sL u.p1 (H':=λ_=>bM p (dx lv ov (cN l (bX l s).1 (ia #[61])))) (Φ:=λ_ _=>True) (λE G I=>?_) ?_)
  .exact(C286 p lv ov l (bX l s).1 (ia #[61]) E _ G (λw' hc=>U w' (I w' hc).aF) J (fe M)).mono λ_ _ r=>r.mono λ_ _ h=>⟨trivial,h.2⟩
  rintro _ _ _ u;refine aS Dp u (H':=λv=>oV λW:SV=>fact (v=iS W) (sep (bM p (dx lv ov Z)) (eH λw=>DL w (iS W) e))) (Φ:=λ_ _=>True) (λE G I=>?_) ?_
  .exact(C355 p lv ov l (cN l (bX l s).1 (ia #[61])) Z e E _ G (λw' hc=>U w' (I w' hc).aF) J (er (fe M)) O).mono λ_ _ r=>r.mono λ_ _ h=>⟨trivial,h⟩
  rintro v_x40 _ _ V;obtain⟨Hw,Y⟩:=V.dS
  clear V
  obtain⟨X7,xZ⟩:=Y.lr
  clear Y
  subst X7;have u:=xZ.split;refine aA kM (aO u.p2 lF (dQ rfl) (rfl) λ_ u=>?_);have u:=u.enc (cs':=jn (⟨B,(ia #[]),(bX l s).2,Hw,bY,0,0,0,a⟩:aT)) rfl;intro zQ;exact aE ek u.At (aH (x:=(⟨B,(ia #[]),(bX l s).2,Hw,bY,0,0,0,a⟩:aT)) u.p3 ek rfl rfl λ_ u=>aE ek u.At (have u:=u.p3.dH (Ψ:=(λw=>l3 w (⟨B,(ia #[]),(bX l s).2,Hw,bY,0,0,0,a⟩:aT) (⟨B,(ia #[]),(bX l s).2,e,[],0,0,0,a⟩:aZ))) (λ_ h=>⟨_,_,rfl,id h,DL.nil _⟩);have u:=u.p1.drop.p1.drop.p1;(rM u).mut))
 .obtain⟨q,e,q2,f,O,hfx,rfl,rfl⟩:=JJ hp wS;refine aS yi u.p2 (H':=λ_=>bM p (dx lv ov (bX l s).1)) (Φ:=λv _=>v=.string (bX l s).2) (λE G I=>?_) ?_
  .exact C354 p lv ov l s E _ G (λw' hc=>U w' (I w' hc).aF) J M
  rintro _ _ rfl u;refine aA kL (aO u.p1 jZ (dQ rfl) (rfl) λ_ u=>have u:=u.enc (cs':=jn (⟨B,(bX l s).2,(ia #[]),bY,bY,0,0,0,a⟩:aT)) rfl;aS sL u.p1 (H':=λ_=>bM p (dx lv ov (cN l (bX l s).1 (ia #[61])))) (Φ:=λ_ _=>True) (λE G I=>?_) ?_)
  .exact(C286 p lv ov l (bX l s).1 (ia #[61]) E _ G (λw' hc=>U w' (I w' hc).aF) J (fe M)).mono λ_ _ r=>r.mono λ_ _ h=>⟨trivial,h.2⟩
  rintro _ _ _ u;refine aS yi u (H':=λ_=>bM p (dx lv ov (bX l (cN l (bX l s).1 (ia #[61]))).1)) (Φ:=λv _=>v=.string (bX l (cN l (bX l s).1 (ia #[61]))).2) (λE G I=>?_) ?_
  .exact C354 p lv ov l (cN l (bX l s).1 (ia #[61])) E _ G (λw' hc=>U w' (I w' hc).aF) J (er (fe M))
  rintro _ _ rfl u;refine aA jS (aO u.p1 jZ (dQ rfl) (rfl) λ_ u=>have u:=u.enc (cs':=jn (⟨B,(bX l s).2,(bX l (cN l (bX l s).1 (ia #[61]))).2,bY,bY,0,0,0,a⟩:aT)) rfl;aS sL u.p1 (H':=λ_=>bM p (dx lv ov (cN l (bX l (cN l (bX l s).1 (ia #[61]))).1 (ia #[44])))) (Φ:=λ_ _=>True) (λE G I=>?_) ?_)
  .exact(C286 p lv ov l (bX l (cN l (bX l s).1 (ia #[61]))).1 (ia #[44]) E _ G (λw' hc=>U w' (I w' hc).aF) J (fe (er (fe M)))).mono λ_ _ r=>r.mono λ_ _ h=>⟨trivial,h.2⟩
  rintro _ _ _ u;refine aS Dp u (H':=λv=>oV λW:SV=>fact (v=iS W) (sep (bM p (dx lv ov q)) (eH λw=>DL w (iS W) e))) (Φ:=λ_ _=>True) (λE G I=>?_) ?_
  .exact(C355 p lv ov l (cN l (bX l (cN l (bX l s).1 (ia #[61]))).1 (ia #[44])) q e E _ G (λw' hc=>U w' (I w' hc).aF) J (er (fe (er (fe M)))) O).mono λ_ _ r=>r.mono λ_ _ h=>⟨trivial,h⟩
  rintro v_x55 _ _ V;obtain⟨zh,Y⟩:=V.dS
  clear V
  obtain⟨X8,xZ⟩:=Y.lr
  clear Y
  subst X8;have u:=xZ.split;refine aA kM (aO u.p2 lF (dQ rfl) (rfl) λ_ u=>have u:=u.enc (cs':=jn (⟨B,(bX l s).2,(bX l (cN l (bX l s).1 (ia #[61]))).2,zh,bY,0,0,0,a⟩:aT)) rfl;aS sL u.p1 (H':=λ_=>bM p (dx lv ov (cN l q (ia #[44])))) (Φ:=λ_ _=>True) (λE G I=>?_) ?_)
  .exact(C286 p lv ov l q (ia #[44]) E _ G (λw' hc=>U w' (I w' hc).aF) J (nK (er (fe (er (fe M)))) O)).mono λ_ _ r=>r.mono λ_ _ h=>⟨trivial,h.2⟩
  rintro _ _ _ u;refine aS Dp u (H':=λv=>oV λW:SV=>fact (v=iS W) (sep (bM p (dx lv ov Z)) (eH λw=>DL w (iS W) f))) (Φ:=λ_ _=>True) (λE G I=>?_) ?_
  .exact(C355 p lv ov l (cN l q (ia #[44])) Z f E _ G (λw' hc=>U w' (I w' hc).aF) J (er (nK (er (fe (er (fe M)))) O)) hfx).mono λ_ _ r=>r.mono λ_ _ h=>⟨trivial,h⟩
  rintro v_x60 _ _ V;obtain⟨Hx,Y⟩:=V.dS
  clear V
  obtain⟨X9,xZ⟩:=Y.lr
  clear Y
  subst X9;have u:=xZ.split;refine aA qW (aO u.p2 lF (dQ rfl) (rfl) λ_ u=>?_);have u:=u.enc (cs':=jn (⟨B,(bX l s).2,(bX l (cN l (bX l s).1 (ia #[61]))).2,zh,Hx,0,0,0,a⟩:aT)) rfl;intro zQ;exact aE ek u.At (aH (x:=(⟨B,(bX l s).2,(bX l (cN l (bX l s).1 (ia #[61]))).2,zh,Hx,0,0,0,a⟩:aT)) u.p4 ek rfl rfl λ_ u=>aE ek u.At (have u:=u.p4.p4.p1.gY.dH (Ψ:=(λw=>l3 w (⟨B,(bX l s).2,(bX l (cN l (bX l s).1 (ia #[61]))).2,zh,Hx,0,0,0,a⟩:aT) (⟨B,(bX l s).2,(bX l (cN l (bX l s).1 (ia #[61]))).2,e,f,0,0,0,a⟩:aZ))) (λ_ h=>⟨_,_,rfl,id h.1,id h.2⟩);have u:=u.p1.drop.p1.drop.p1;(rM u).mut))
 rintro _ _ ⟨rfl,hw⟩ _;subst hw;refine aC (λQa=>?_) (λQa=>⟨λjv w'=>jv=.bool (decide (B=11\/B=14))/\w3=w',aG (aC (λ_=>⟨vb cR,rfl⟩) λ_=>aG ⟨vb cR,rfl⟩),?_⟩)
 .obtain⟨rfl,rfl⟩:=JK hp Qa;refine aS yi u.p2 (H':=λ_=>bM p (dx lv ov (bX l s).1)) (Φ:=λv _=>v=.string (bX l s).2) (λE G I=>?_) ?_
  .exact C354 p lv ov l s E _ G (λw' hc=>U w' (I w' hc).aF) J M
  rintro _ _ rfl u;refine aA jS (aO u.p1 jZ (dQ rfl) (rfl) λ_ u=>?_);have u:=u.enc (cs':=jn (⟨B,(ia #[]),(bX l s).2,bY,bY,0,0,0,a⟩:aT)) rfl;intro zQ;exact aE ek u.At (aH (x:=(⟨B,(ia #[]),(bX l s).2,bY,bY,0,0,0,a⟩:aT)) u.p2 ek rfl rfl λ_ u=>aE ek u.At (have u:=u.fG (Φ:=(λw=>l3 w (⟨B,(ia #[]),(bX l s).2,bY,bY,0,0,0,a⟩:aT) (⟨B,(ia #[]),(bX l s).2,[],[],0,0,0,a⟩:aZ))) (λ_=>⟨_,_,rfl,DL.nil _,DL.nil _⟩);have u:=u.p1.drop.p1.drop.p1;(rM u).mut))
 rintro _ _ ⟨rfl,hw⟩ _;subst hw;refine aC (λQb=>?_) (λQb=>aG (aC (λQc=>?_) λQc=>?_))
 .obtain⟨q,e,O,rfl,rfl⟩:=E9 hp Qb;refine aS Dp u.p2 (H':=λv=>oV λW:SV=>fact (v=iS W) (sep (bM p (dx lv ov Z)) (eH λw=>DL w (iS W) e))) (Φ:=λ_ _=>True) (λE G I=>?_) ?_
  .exact(C355 p lv ov l s Z e E _ G (λw' hc=>U w' (I w' hc).aF) J M O).mono λ_ _ r=>r.mono λ_ _ h=>⟨trivial,h⟩
  rintro v_x74 _ _ V;obtain⟨Hy,Y⟩:=V.dS
  clear V
  obtain⟨Ya,xZ⟩:=Y.lr
  clear Y
  subst Ya;have u:=xZ.split;refine aA kM (aO u.p2 lF (dQ rfl) (rfl) λ_ u=>?_);have u:=u.enc (cs':=jn (⟨B,(ia #[]),(ia #[]),Hy,bY,0,0,0,a⟩:aT)) rfl;intro zQ;exact aE ek u.At (aH (x:=(⟨B,(ia #[]),(ia #[]),Hy,bY,0,0,0,a⟩:aT)) u.p3 ek rfl rfl λ_ u=>aE ek u.At (have u:=u.p3.dH (Ψ:=(λw=>l3 w (⟨B,(ia #[]),(ia #[]),Hy,bY,0,0,0,a⟩:aT) (⟨B,(ia #[]),(ia #[]),e,[],0,0,0,a⟩:aZ))) (λ_ h=>⟨_,_,rfl,id h,DL.nil _⟩);have u:=u.p1.drop.p1.drop.p1;(rM u).mut))
 .obtain⟨rfl,rfl⟩:=Fa hp Qc;refine aS aaG u.p2 (H':=λ_=>bM p (dx lv ov (iy l s).1)) (Φ:=λv _=>v=hZ (iy l s).2) (λE G I=>?_) ?_
  .exact C356 p lv ov l s E _ G (λw' hc=>U w' (I w' hc).aF) J M
  rintro _ _ rfl u;refine aA lX (aO u.p1 bL (dQ rfl) (rfl) λ_ u=>?_);have u:=u.enc (cs':=jn (⟨B,(ia #[]),(ia #[]),bY,bY,(iy l s).2,0,0,a⟩:aT)) rfl;intro zQ;exact aE ek u.At (aH (x:=(⟨B,(ia #[]),(ia #[]),bY,bY,(iy l s).2,0,0,a⟩:aT)) u.p2 ek rfl rfl λ_ u=>aE ek u.At (have u:=u.fG (Φ:=(λw=>l3 w (⟨B,(ia #[]),(ia #[]),bY,bY,(iy l s).2,0,0,a⟩:aT) (⟨B,(ia #[]),(ia #[]),[],[],(iy l s).2,0,0,a⟩:aZ))) (λ_=>⟨_,_,rfl,DL.nil _,DL.nil _⟩);have u:=u.p1.drop.p1.drop.p1;(rM u).mut))
 obtain⟨rfl,rfl⟩:=Fb hp uL pg wT wS Qa Qb Qc;intro zQ;exact aE ek u.At (aH (x:=(⟨B,(ia #[]),(ia #[]),bY,bY,0,0,0,a⟩:aT)) u.p1 ek rfl rfl λ_ u=>aE ek u.At (have u:=u.fG (Φ:=(λw=>l3 w (⟨B,(ia #[]),(ia #[]),bY,bY,0,0,0,a⟩:aT) (⟨B,(ia #[]),(ia #[]),[],[],0,0,0,a⟩:aZ))) (λ_=>⟨_,_,rfl,DL.nil _,DL.nil _⟩);have u:=u.p1.drop.p1.drop.p1;(rM u).mut))
def fx(l:List aW)(a:Int):Nat->Int
 | 0=>1
 | n+1=>if ox l a (Bg ((n:Int)+2))=true then(n:Int)+2 else fx l a n
theorem JL{l:List aW}{a:Int}:∀n:Nat,1<=fx l a n/\fx l a n<=(n:Int)+1
 | 0=>by unfold fx;omega
 | n+1=>by
  have:=JL (l:=l) (a:=a) n
  unfold fx
  omega
theorem Fc{l:List aW}{a:Int}:∀n:Nat,fx l a n=1\/∃t,ox l a t=true
 | 0=>.inl rfl
 | n+1=>by
  unfold fx
  split
  .grind
  .exact Fc n
def Bh{l:List aW}{a:Int}{n:Nat}(h:ox l a (Bg ((n:Int)+2))=true):fx l a (n+1)=(n:Int)+2:=fh h
def Bi{l:List aW}{a:Int}{n:Nat}(h:¬ ox l a (Bg ((n:Int)+2))=true):fx l a (n+1)=fx l a n:=fg h
def Q9(l:List aW)(s:eE):eE:=if fx l s.at_ 13≠1 then {s with at_:=s.at_+1}else s
def CJ{l:List aW}{s:eE}(h:iL l s):iL l (Q9 l s):=by
 unfold Q9
 split
 .rename_i h1
  rcases Fc (l:=l) (a:=s.at_) 13 with h2|⟨t,h2⟩
  .omega
  have:=nJ h2
  exact⟨cR,cR⟩
 exact h
abbrev VE:ByteArray:=⟨#[101,108,115,101]⟩
def ij(l:List aW)(u:Int)(s:eE):Bool:=decide (u=11)&&decide (s.e=0)&&ox l s.at_ VE
def LA(s:eE):eE:={s with at_:=s.at_+1}
abbrev Tw:=eE->Int->Int->Option (eE×List aZ)
def xE(l:List aW)(bM:Tw)(s:eE)(d lp:Int):Option (eE×List aZ):=
 if fx l s.at_ 13=13/\lp=0 then some (gd l s 5,[])
 else(iz l (Q9 l s) (fx l s.at_ 13) (jK l s.at_)).bind λr=>
  if fx l s.at_ 13≠11/\fx l s.at_ 13≠12 then some (cN l r.1 ⟨#[59]⟩,[r.2])
  else(bM r.1 (d+1) (if fx l s.at_ 13=12 then lp+1 else lp)).bind λq=>
   if ij l (fx l s.at_ 13) q.1=true then(bM (LA q.1) (d+1) lp).bind λt=>some (t.1,{r.2 with body:=(q.2.length:Int),eG:=(t.2.length:Int)}::(q.2++t.2))
   else some (q.1,{r.2 with body:=(q.2.length:Int)}::q.2)
section
variable {l:List aW}{bM:Tw}{s s':eE}{d lp:Int}{add:List aZ}
theorem JM(h:xE l bM s d lp=some (s',add))(hb:fx l s.at_ 13=13/\lp=0):s'=gd l s 5/\add=[]:=by
 unfold xE at h;grind
theorem Qd(h:xE l bM s d lp=some (s',add))(hb:¬ (fx l s.at_ 13=13/\lp=0)):∃u x,iz l (Q9 l s) (fx l s.at_ 13) (jK l s.at_)=some (u,x)/\
  (if fx l s.at_ 13≠11/\fx l s.at_ 13≠12 then some (cN l u ⟨#[59]⟩,[x])
  else(bM u (d+1) (if fx l s.at_ 13=12 then lp+1 else lp)).bind λq=>
   if ij l (fx l s.at_ 13) q.1=true then(bM (LA q.1) (d+1) lp).bind λt=>some (t.1,{x with body:=(q.2.length:Int),eG:=(t.2.length:Int)}::(q.2++t.2))
   else some (q.1,{x with body:=(q.2.length:Int)}::q.2))=some (s',add):=by
 unfold xE at h;rw[fg hb]at h
 obtain⟨p,q,h1,h2⟩:=dN h
 grind
theorem JN{u:Int}{J:eE}{x:aZ}(h:(if u≠11/\u≠12 then some (cN l J ⟨#[59]⟩,[x])
  else(bM J (d+1) (if u=12 then lp+1 else lp)).bind λq=>
   if ij l u q.1=true then(bM (LA q.1) (d+1) lp).bind λt=>some (t.1,{x with body:=(q.2.length:Int),eG:=(t.2.length:Int)}::(q.2++t.2))
   else some (q.1,{x with body:=(q.2.length:Int)}::q.2))=some (s',add)) (M:¬ (u≠11/\u≠12)) :
  ∃B E,bM J (d+1) (if u=12 then lp+1 else lp)=some (B,E)/\
   ((ij l u B=true/\∃I G,bM (LA B) (d+1) lp=some (I,G)/\s'=I/\add={x with body:=(E.length:Int),eG:=(G.length:Int)}::(E++G))\/
    (ij l u B=false/\s'=B/\add={x with body:=(E.length:Int)}::E)):=by
 rw[fg M]at h
 obtain⟨B,E,h1,h2⟩:=dN h
 refine⟨B,E,h1,?_⟩
 dsimp only at h2
 cases he:ij l u B with
 | true=>
  rw[he,fh rfl]at h2
  obtain⟨I,G,h3,h4⟩:=dN h2
  grind
 | false=>
  grind
theorem Bj{u:Int}{B:eE}{x:aZ}(h:(if u≠11/\u≠12 then some (cN l B ⟨#[59]⟩,[x])
  else(bM B (d+1) (if u=12 then lp+1 else lp)).bind λq=>
   if ij l u q.1=true then(bM (LA q.1) (d+1) lp).bind λt=>some (t.1,{x with body:=(q.2.length:Int),eG:=(t.2.length:Int)}::(q.2++t.2))
   else some (q.1,{x with body:=(q.2.length:Int)}::q.2))=some (s',add)) (E:u≠11/\u≠12):s'=cN l B ⟨#[59]⟩/\add=[x]:=by
 grind
end
abbrev xc:ByteArray:=⟨#[123]⟩
abbrev kC:ByteArray:=⟨#[125]⟩
def oA(l:List aW)(one:eE->Option (eE×List aZ)):Nat->eE->Option (eE×List aZ)
 | 0,_=>none
 | m+1,s=>if (decide (s.e=0)&&!ox l s.at_ kC)=true then(one s).bind λr=>(oA l one m r.1).bind λq=>some (q.1,r.2++q.2)else some (s,[])
def Mc(l:List aW)(s:eE)(d:Int):eE:=if (decide (12<d)&&ox l s.at_ xc)=true then gd l s 7 else s
def Hz{l:List aW}{s:eE}{d:Int}(h:iL l s):iL l (Mc l s d):=by unfold Mc;split;exact oz h;exact h
def Md(l:List aW):Nat->Tw
 | 0=>λ_ _ _=>none
 | k+1=>λs d lp=>(oA l (λs=>xE l (Md l k) s d lp) 10000 (cN l (Mc l s d) xc)).bind λr=>some (cN l r.1 kC,r.2)
section
variable {l:List aW}{one:eE->Option (eE×List aZ)}{s s':eE}{d lp:Int}{add:List aZ}{m:Nat}
theorem Bl(h:oA l one m s=some (s',add)):∃k,m=k+1:=by
 cases m with
 | zero=>cases h
 | succ k=>grind
theorem zF(h:oA l one (m+1) s=some (s',add))(hb:(decide (s.e=0)&&!ox l s.at_ kC)=false):s'=s/\add=[]:=by
 unfold oA at h;grind
theorem CK(h:oA l one (m+1) s=some (s',add))(hb:(decide (s.e=0)&&!ox l s.at_ kC)=true):∃u B E,one s=some (u,B)/\oA l one m u=some (s',E)/\add=B++E:=by
 unfold oA at h;rw[hb,fh rfl]at h
 obtain⟨u,B,h1,h2⟩:=dN h
 obtain⟨G,E,h3,h4⟩:=dN h2
 grind
theorem Qe{k:Nat}(h:Md l (k+1) s d lp=some (s',add)):∃u,oA l (λs=>xE l (Md l k) s d lp) 10000 (cN l (Mc l s d) xc)=some (u,add)/\s'=cN l u kC:=by
 unfold Md at h
 obtain⟨u,B,h1,h2⟩:=dN h
 grind
end
def HA{l:List aW}{bM:Tw}{s s':eE}{d lp:Int}{add:List aZ}(hb:∀s d lp s' a,iL l s->bM s d lp=some (s',a)->iL l s')(E:iL l s)(h:xE l bM s d lp=some (s',add)):iL l s':=by
 by_cases h1:fx l s.at_ 13=13/\lp=0
 .rw[(JM h h1).1];exact oz E
 obtain⟨W,x,h2,h3⟩:=Qd h h1
 have u:=wx (CJ E) h2
 by_cases h4:fx l s.at_ 13≠11/\fx l s.at_ 13≠12
 .rw[(Bj h3 h4).1];exact er u
 obtain⟨V,U,h5,h6⟩:=JN h3 h4
 have I:=hb _ _ _ _ _ u h5
 rcases h6 with⟨B,O,M,J,G,_⟩|⟨_,G,_⟩
 .rw[G]
  refine hb _ _ _ _ _ ?_ J
  unfold ij at B
  rw[nu]at B
  have:=nJ B.2
  grind[iL,LA]
 grind
theorem JO{l:List aW}{one:eE->Option (eE×List aZ)}(u:∀s s' a,iL l s->one s=some (s',a)->iL l s'):∀{m:Nat}{s s':eE}{add:List aZ},iL l s->oA l one m s=some (s',add)->iL l s'
 | 0,_,_,_,_,h=>by cases h
 | m+1,s,s',add,B,h=>by
  cases hb:(decide (s.e=0)&&!ox l s.at_ kC)with
  | false=>rw[(zF h hb).1];exact B
  | true=>
   obtain⟨E,G,I,h1,h2,_⟩:=CK h hb
   exact JO u (u _ _ _ B h1) h2
theorem HC{l:List aW}:∀{k:Nat}{s s':eE}{d lp:Int}{add:List aZ},iL l s->Md l k s d lp=some (s',add)->iL l s'
 | 0,_,_,_,_,_,_,h=>by cases h
 | k+1,s,s',d,lp,add,u,h=>by
  obtain⟨B,h1,h2⟩:=Qe h
  rw[h2]
  exact er (JO (λ_ _ _ a b=>HA (λ_ _ _ _ _ c e=>HC c e) a b) (er (Hz u)) h1)
def pT(p:Nat)(lv:Value)(s:eE)(out:List aZ)(Q:hU):HP:=oV λov:Value=>oV λts:List aT=>sep (bM p (dx lv ov s)) (sep (bH ov ts) (eH λw=>gQ ts out w/\Q w))
section
variable {w0 w:World}{A:Nat->Prop}{L:List HP}{p:Nat}{lv:Value}{s:eE}{out:List aZ}{Q:hU}
theorem pT.open(u:St w0 A (pT p lv s out Q::L) w):∃(ov:Value) (ts:List aT),St w0 A (bM p (dx lv ov s)::bH ov ts::eH (λw=>gQ ts out w/\Q w)::L) w:=by
 obtain⟨ov,h1⟩:=u.dS
 obtain⟨ts,h2⟩:=h1.dS
 exact⟨ov,ts,h2.split.p1.split.p2⟩
theorem pT.shut{ov:Value}{ts:List aT}(u:St w0 A (bM p (dx lv ov s)::bH ov ts::eH (λw=>gQ ts out w/\Q w)::L) w):St w0 A (pT p lv s out Q::L) w:=
 St.dO (H:=λov:Value=>oV λts:List aT=>sep (bM p (dx lv ov s)) (sep (bH ov ts) (eH λw=>gQ ts out w/\Q w))) ov (St.dO (H:=λts:List aT=>sep (bM p (dx lv ov s)) (sep (bH ov ts) (eH λw=>gQ ts out w/\Q w))) ts (St.join u.p2.p2.join.p1))
end
def Yb(l:List aW)(k:Nat):Prop:=∀(p:Nat) (lv:Value) (s:eE) (d lp:Int) (out:List aZ) (u:eE) (add:List aZ) (Q:hU) (F:Nat->Prop) (w:World),
 (pT p lv s out Q).p w F->(∀w',fD F w w'->dy (λ_=>True) w' lv l)->iL l s->0<=d/\d+k<=1001->0<=lp/\lp+k<=1001->out.length+add.length<=1000000->Md l k s d lp=some (u,add)->
 Calls hM 338 [.pointer (some ⟨p,0,none⟩),hZ d,hZ lp].toArray w (oU λv w'=>v=hZ (add.length:Int)/\mC F (pT p lv u (out++add) Q) w w')
def Tx{w:World}{u:aT}{x:aZ}(h:l3 w u x):DL w (iS u.e) x.e:=by obtain⟨_,_,rfl,h,_⟩:=h;exact h
def Ty{w:World}{u:aT}{x:aZ}(h:l3 w u x):DL w (iS u.f) x.f:=by obtain⟨_,_,rfl,_,h⟩:=h;exact h
def HD{l:List aW}{u:Int}{s:eE}(h:ij l u s=true):iL l (LA s):=by
 unfold ij at h
 rw[nu]at h
 have:=nJ h.2
 grind[iL,LA]
def Tz{α σ:Type}[Flat σ][Deep α σ]{w:World}{ts:List σ}{xs:List α}{i:Nat}{t:σ}{x:α}(h:gQ ts xs w)(ht:l3 w t x):gQ (ts.set i t) (xs.set i x) w:=by
 grind[gQ]
theorem Qf{α:Type}{a b:List α}{x y:α}:(a++x::b).set a.length y=a++y::b:=by
 grind
def C285(p:Nat)(lv:Value)(l:List aW)(s:eE)(k:Nat)(d lp:Int)(out:List aZ)(s2:eE)(add:List aZ)(Q:hU)(F:Nat->Prop)(w:World)(hF:(pT p lv s out Q).p w F)(W:∀w',fD F w w'->dy (λ_=>True) w' lv l)(hk:fQ l)(h0:iL l s)(HB:Yb l k)(hd:0<=d/\d+k<=1000)(XZ:0<=lp/\lp+k<=1000)(Ou:out.length+add.length<=1000000)(hr:xE l (Md l k) s d lp=some (s2,add)):CR 285 [(.pointer (some ⟨p,0,none⟩)),hZ d,hZ lp] w (λv w'=>v=.tuple #[]/\mC F (pT p lv s2 (out++add) Q) w w'):=by
 have u:=St.begin hF;obtain⟨ov,ts,u⟩:=pT.open u;have Kk:ts.length=out.length:=u.p2.eH.1.1;have xP:=hk.n;have hn:l.length<=1000000:=bP
 have qK:=hk.at_;obtain⟨JE,JF⟩:=id h0;refine Rw _ _ _ _ _ ?_;unfold S285;refine aD (aA fu (have u:=u.drew;aB fU u.hb rfl (aD (aA dT (aB bL u.hb rfl (aR Aw u (C201 _ l s.at_ _ (W _ u.aF) hn qK) λ_ he u=>?_))))));have u:=u.p2.p2.p2;refine⟨λmm a b w'=>∃j:Nat,a=hZ (fx l s.at_ j)/\b=hZ ((j:Int)+2)/\mm=13-j/\j<=13/\St w F [bM p (dx lv ov s),bH ov ts,eH λw=>gQ ts out w/\Q w] w',⟨_,0,rfl,rfl,rfl,mj _,u⟩,?_⟩;rintro mm _ _ w2 ⟨j,rfl,rfl,rfl,hj,u⟩ _;refine gL (aC (λgS=>⟨_,aD (aA fu (have u:=u.drew;aB fU u.hb rfl (aD (aA dT (aB bL u.hb rfl (aR aaC u (C335 ((j:Int)+2) _ bP) λ_ he u=>⟨aX fU (u.hb.cell rfl),⟨aX bL (u.hb.cell rfl),aR qh u (C196 _ l s.at_ (Bg ((j:Int)+2)) _ (W _ u.aF) hn) λ_ he u=>bD (λkr=>?_) λkr=>?_⟩⟩)))))),λ_ _ h=>h⟩) λgS=>?_)
 .intro xn;exact aM bP ⟨_,bP,j+1,gl (mf .i64) (by first|exact(Bh kr).symm|exact(Bi (by rw[kr];simp)).symm),gl (mf .i64) bP,rfl,bP,u⟩
 .intro xn;exact aM bP ⟨_,bP,j+1,gl (mf .i64) (by first|exact(Bh kr).symm|exact(Bi (by rw[kr];simp)).symm),gl (mf .i64) bP,rfl,bP,u⟩
 obtain rfl:j=13:=bP
 have Wl:=JL (l:=l) (a:=s.at_) 13;refine⟨λZ w'=>Z=.bool (decide ((fx l s.at_ 13)=13/\lp=0))/\w2=w',aG (aC (λ_=>aG ⟨xh bP,rfl⟩) λ_=>⟨QY bP,rfl⟩),?_⟩;rintro _ _ ⟨rfl,hw⟩ _;subst hw;refine aC (λmG=>?_) (λmG=>⟨λw'=>St w F [bM p (dx lv ov (Q9 l s)),bH ov ts,eH λw=>gQ ts out w/\Q w] w',cB (aC (λuJ=>?_) λuJ=>?_),?_⟩)
 .refine aS Az u (H':=λ_=>bM p (dx lv ov (gd l s 5))) (Φ:=λ_ _=>True) (λU M O=>?_) ?_
  .exact(C336 p lv ov l s 5 U _ M (λw' hc=>W w' (O w' hc).aF) hk h0).mono λ_ _ r=>r.mono λ_ _ h=>⟨trivial,h.2⟩
  rintro _ _ _ u;obtain⟨e1,e2⟩:=JM hr mG;rw[e1,e2,oj];exact⟨rfl,(pT.shut u).mut⟩
 .refine aD (aA dT (aB bL u.hb rfl (aM bP (aD (aA dT (aO u bL (dQ rfl) (rfl) λ_ u=>?_))))));have u:=u.p2.p2.p2;have KT:(Q9 l s)={s with at_:=s.at_+1}:=by unfold Q9;rw[fh bP]
  rw[KT];exact u
 .have u:=u.p2.p2.p2;have KT:(Q9 l s)=s:=by unfold Q9;rw[fg bP]
  rw[KT];exact u
 intro _ u _;obtain⟨q,x,mI,BF⟩:=Qd hr mG;refine aS aaD u (H':=λv=>oV λsh:aT=>fact (v=iS sh) (sep (bM p (dx lv ov q)) (eH λw=>l3 w sh x))) (Φ:=λ_ _=>True) (λU M O=>?_) ?_
 .exact(C337 p lv ov l (Q9 l s) (fx l s.at_ 13) (jK l s.at_) q x U _ M (λw' hc=>W w' (O w' hc).aF) hk (CJ h0) mI).mono λ_ _ r=>r.mono λ_ _ h=>⟨trivial,h⟩
 rintro v_x58 _ _ sT;obtain⟨ajj,vk⟩:=sT.dS
 clear sT
 obtain⟨Yc,xZ⟩:=vk.lr
 clear vk
 subst Yc;have u:=xZ.split
 clear xZ
 obtain⟨B,E,Yd,hde,hdf⟩:=u.p1.eH;subst Yd;refine aK u jw (λvN _ u=>have u:=u.enc (cs':=jn (⟨0,(ia #[]),(ia #[]),bY,bY,0,0,0,0⟩:aT)) rfl;aH (x:=(⟨x.kind,x.eO,x.name,B,E,x.n,x.body,x.eG,x.at_⟩:aT)) u ek rfl rfl λ_ u=>aD (aA l5 (aB lV u.p1.hb rfl (aI fT u.p3.eS (aD (aA l5 (have u:=u.drew;aB lV u.p1.hb rfl (aE ek u.At (bK ([(⟨x.kind,x.eO,x.name,B,E,x.n,x.body,x.eG,x.at_⟩:aT)]) u fT rfl rfl (dQ rfl) λVr _ u=>?_)))))))))
 refine⟨aX lV (u.p2.hb.cell rfl),?_⟩;have Ye:=u.eS;refine cO u.p4 fT Ye (by simp;omega) ea (λJP _ u=>have u:=u.p1.drop;aD (aA l5 (aO u.p2 lV (dQ rfl) u.eS.one λ_ u=>⟨λZ w'=>Z=.bool (decide ((fx l s.at_ 13)≠11/\(fx l s.at_ 13)≠12))/\St w F [bM p (dx lv JP q),bH JP (ts++[(⟨x.kind,x.eO,x.name,B,E,x.n,x.body,x.eG,x.at_⟩:aT)]),eH (λw=>gQ (ts++[(⟨x.kind,x.eO,x.name,B,E,x.n,x.body,x.eG,x.at_⟩:aT)]) (out++[x]) w/\(λw=>Q w/\l3 w (⟨x.kind,x.eO,x.name,B,E,x.n,x.body,x.eG,x.at_⟩:aT) x) w),bM vN (jn (⟨x.kind,x.eO,x.name,B,E,x.n,x.body,x.eG,x.at_⟩:aT))] w',cB (aC (λ_=>cB (have u:=u.p3.p4.gY.dH (Ψ:=λw=>gQ (ts++[(⟨x.kind,x.eO,x.name,B,E,x.n,x.body,x.eG,x.at_⟩:aT)]) (out++[x]) w/\(λw=>Q w/\l3 w (⟨x.kind,x.eO,x.name,B,E,x.n,x.body,x.eG,x.at_⟩:aT) x) w) (λ_ h=>⟨h.1.1.snoc h.2,h.1.2,h.2⟩);have u:=u.p3.p1.p3.p3;⟨vb cR,u⟩)) λ_=>have u:=u.p3.p4.gY.dH (Ψ:=λw=>gQ (ts++[(⟨x.kind,x.eO,x.name,B,E,x.n,x.body,x.eG,x.at_⟩:aT)]) (out++[x]) w/\(λw=>Q w/\l3 w (⟨x.kind,x.eO,x.name,B,E,x.n,x.body,x.eG,x.at_⟩:aT) x) w) (λ_ h=>⟨h.1.1.snoc h.2,h.1.2,h.2⟩);have u:=u.p3.p1.p3.p3;⟨vb cR,u⟩),?_⟩)))
 rintro _ w16 ⟨rfl,u⟩ _;refine aC (λQg=>?_) (λQg=>⟨λZ w'=>Z=hZ (if (fx l s.at_ 13)=12 then lp+1 else lp)/\w16=w',aG (aC (λ_=>aM bP ⟨by rw[fh bP],rfl⟩) λ_=>⟨by rw[fg bP],rfl⟩),?_⟩)
 .refine aS sL u (H':=λ_=>bM p (dx lv JP (cN l q (ia #[59])))) (Φ:=λ_ _=>True) (λU M O=>?_) ?_
  .exact(C286 p lv JP l q (ia #[59]) U _ M (λw' hc=>W w' (O w' hc).aF) hk (wx (CJ h0) mI)).mono λ_ _ r=>r.mono λ_ _ h=>⟨trivial,h.2⟩
  rintro _ _ _ u;have u:=u.p3.drop.p1.p1.p2.dH (Ψ:=λw=>gQ (ts++[(⟨x.kind,x.eO,x.name,B,E,x.n,x.body,x.eG,x.at_⟩:aT)]) (out++[x]) w/\Q w) (λ_ h=>⟨h.1,h.2.1⟩);have u:=u.p2.p2;obtain⟨e1,e2⟩:=Bj BF Qg;rw[e1,e2];exact⟨rfl,(pT.shut u).mut⟩
 rintro _ _ ⟨rfl,hw⟩ _;subst hw;refine aM bP ?_;have u:=pT.shut u.p2.p2.p2;obtain⟨V,G,FG,RG⟩:=JN BF Qg;have hm1:G.length<add.length:=by rcases RG with⟨_,s5,m2,_,_,e⟩|⟨_,_,e⟩<;>rw[e]<;>simp<;>omega
 refine aS Uv u (H':=λ_=>pT p lv V ((out++[x])++G) λw=>Q w/\l3 w (⟨x.kind,x.eO,x.name,B,E,x.n,x.body,x.eG,x.at_⟩:aT) x) (Φ:=λv _=>v=hZ (G.length:Int)) (λU M O=>?_) ?_
 .exact HB p lv q (d+1) (if (fx l s.at_ 13)=12 then lp+1 else lp) (out++[x]) V G (λw=>Q w/\l3 w (⟨x.kind,x.eO,x.name,B,E,x.n,x.body,x.eG,x.at_⟩:aT) x) U _ M (λw' hc=>W w' (O w' hc).aF) (wx (CJ h0) mI) bP (by split<;>omega) (by rw[kE,nB];omega) FG
 rintro _ _ rfl u;obtain⟨ov3,rA,u⟩:=pT.open u;refine aA jT (aO u.p3 bL (dQ rfl) (rfl) λ_ u=>have u:=u.enc (cs':=jn (⟨x.kind,x.eO,x.name,B,E,x.n,(G.length:Int),x.eG,x.at_⟩:aT)) rfl;⟨λw'=>∃(bd el:Int) (rest:List aZ),add={x with body:=bd,eG:=el}::rest/\St w F [pT p lv s2 ((out++[x])++rest) (λw=>Q w/\l3 w (⟨x.kind,x.eO,x.name,B,E,x.n,x.body,x.eG,x.at_⟩:aT) x),bM vN (jn (⟨x.kind,x.eO,x.name,B,E,x.n,bd,el,x.at_⟩:aT))] w',⟨λZ w'=>Z=.bool (ij l (fx l s.at_ 13) V)/\St w F [bM p (dx lv ov3 V),bH ov3 rA,eH (λw=>gQ rA ((out++[x])++G) w/\(λw=>Q w/\l3 w (⟨x.kind,x.eO,x.name,B,E,x.n,x.body,x.eG,x.at_⟩:aT) x) w),bM vN (jn (⟨x.kind,x.eO,x.name,B,E,x.n,(G.length:Int),x.eG,x.at_⟩:aT))] w',?_,?_⟩,?_⟩)
 .refine aG ?_;exact aC (λBm=>aD (aA iu (have u:=u.drew;aB gq u.p1.hb rfl (aG (aC (λCL=>aD (aA fu (aB fU u.p1.hb rfl (aD (aA dT (aB bL u.p1.hb rfl (aR qh u (C196 _ l V.at_ (ia #[101,108,115,101]) _ (W _ u.aF) hn) λ_ _ u=>have u:=u.p3.p3.p3;⟨vb (by unfold ij;rw[fY Bm,fY CL];rfl),u⟩))))))) λCL=>have u:=u.p3.p3.p3;⟨vb (by unfold ij;first|(rw[fZ Bm];rfl)|(rw[fY Bm,fZ CL];rfl)),u⟩))))) (λBm=>have u:=u.drew.p3.p3.p3;⟨vb (by unfold ij;first|(rw[fZ Bm];rfl)|(rw[fY Bm,fZ CL];rfl)),u⟩)
 .rintro _ _ ⟨rfl,u⟩ _;refine bD (λI=>?_) (λI=>?_)
  .obtain⟨J,s5,m2,hb2,e5,Y⟩|⟨J,_⟩:=RG
   rotate_left
   .rw[J]at I;cases I
   subst e5;have hin3:=nJ (show ox l V.at_ VE=true by unfold ij at I;rw[nu]at I;exact I.2);refine aD (aA dT (aB bL u.hb rfl (aM bP (aD (aA dT (aO u bL (dQ rfl) (rfl) λ_ u=>aM bP ?_))))));have u:=pT.shut (s:=LA V) u.p2.p2.p2;have hkd11:(fx l s.at_ 13)=11:=by unfold ij at I;simp at I;exact I.1.1
   rw[fg (show ¬ (fx l s.at_ 13)=12 by omega)];refine aS Uv u (H':=λ_=>pT p lv s2 (((out++[x])++G)++m2) λw=>Q w/\l3 w (⟨x.kind,x.eO,x.name,B,E,x.n,x.body,x.eG,x.at_⟩:aT) x) (Φ:=λv _=>v=hZ (m2.length:Int)) (λU M O=>?_) ?_
   .exact HB p lv (LA V) (d+1) lp ((out++[x])++G) s2 m2 (λw=>Q w/\l3 w (⟨x.kind,x.eO,x.name,B,E,x.n,x.body,x.eG,x.at_⟩:aT) x) U _ M (λw' hc=>W w' (O w' hc).aF) (HD I) bP bP (by have:=gl List.length Y;simp at this |-;omega) hb2
   rintro _ _ rfl u;rw[mu (out++[x])]at u;exact aA lY (aO u.p1 bL (dQ rfl) (rfl) λ_ u=>have u:=u.enc (cs':=jn (⟨x.kind,x.eO,x.name,B,E,x.n,(G.length:Int),(m2.length:Int),x.at_⟩:aT)) rfl;have u:=u.p1;⟨_,_,_,Y,u⟩)
  obtain⟨J,_⟩|⟨J,e5,Y⟩:=RG
  .rw[J]at I;cases I
  subst e5;have u:=((pT.shut u.p2.p2.p2).p1).p1;exact⟨(G.length:Int),x.eG,G,Y,u⟩
 rintro _ ⟨bd,el,rest,Y,u⟩ _;obtain⟨ov5,Vj,u⟩:=pT.open u;refine aD (aA l5 (have u:=u.drew;aB lV u.hb rfl (aE ek u.p3.At ?_)));have h5l:Vj.length=(out++[x]++rest).length:=u.p2.eH.1.1;have h6l:=gl List.length Y;simp only[kE,List.length_cons,D1]at h5l h6l;obtain⟨ajl,afv⟩:=gx Vj (i:=(ts.length:Int).toNat) bP;refine ed u.p1 fT bP bP (λ_ Yf=>kI _ u.p1 ek Yf bP λ_ u=>?_)
 have u:=u.p3.drop.p1.p2.dH (Ψ:=λw=>gQ (Vj.set (ts.length:Int).toNat (⟨x.kind,x.eO,x.name,B,E,x.n,bd,el,x.at_⟩:aT)) (out++add) w/\Q w) (λ_ h=>⟨by
  have hh:=Tz (i:=(ts.length:Int).toNat) (t:=(⟨x.kind,x.eO,x.name,B,E,x.n,bd,el,x.at_⟩:aT)) (x:={x with body:=bd,eG:=el}) h.1 ⟨B,E,rfl,Tx (x:=x) h.2.2,Ty (x:=x) h.2.2⟩;rw[show(ts.length:Int).toNat=out.length from bP,mu,List.singleton_append,Qf]at hh;rw[Y,show(ts.length:Int).toNat=out.length from bP];exact hh,h.2.1⟩)
 have u:=u.p2.p2;exact⟨rfl,(pT.shut u).mut⟩
def C338(p:Nat)(lv:Value)(l:List aW)(s:eE)(k:Nat)(d lp:Int)(out:List aZ)(s2:eE)(add:List aZ)(Q:hU)(F:Nat->Prop)(w:World)(hF:(pT p lv s out Q).p w F)(O:∀w',fD F w w'->dy (λ_=>True) w' lv l)(M:fQ l)(V:iL l s)(HB:Yb l k)(hd:0<=d/\d+k<=1000)(XZ:0<=lp/\lp+k<=1000)(Ou:out.length+add.length<=1000000)(hr:Md l (k+1) s d lp=some (s2,add)):CR 338 [(.pointer (some ⟨p,0,none⟩)),hZ d,hZ lp] w (λv w'=>v=hZ (add.length:Int)/\mC F (pT p lv s2 (out++add) Q) w w'):=by
 have u:=St.begin hF;obtain⟨ov,ts,u⟩:=pT.open u;have Kk:ts.length=out.length:=u.p2.eH.1.1;obtain⟨s9,WZ,e2⟩:=Qe hr;have xP:=M.n;have hn:l.length<=1000000:=bP
 have qK:=M.at_;obtain⟨JE,JF⟩:=id V;refine qg Tryz.func338 (pl:=agA) ?_;refine aD (aA l5 (aB lV u.hb rfl (aI fT u.p1.eS ⟨λw'=>St w F [bM p (dx lv ov (Mc l s d)),bH ov ts,eH λw=>gQ ts out w/\Q w] w',⟨λjv w'=>jv=.bool (decide (12<d)&&ox l s.at_ xc)/\St w F [bM p (dx lv ov s),bH ov ts,eH λw=>gQ ts out w/\Q w] w',dL (aC (λ_=>aD (aA fu (have u:=u.drew;aB fU u.hb rfl (aD (aA dT (aB bL u.hb rfl (aR qh u (C196 _ l s.at_ (ia #[123]) _ (O _ u.aF) hn) λ_ _ u=>⟨vb (by first|(rw[fY (show 12<d by omega)];rfl)|(rw[fZ (show ¬ 12<d by omega)];rfl)),u⟩))))))) λ_=>have u:=u.drew;⟨vb (by first|(rw[fY (show 12<d by omega)];rfl)|(rw[fZ (show ¬ 12<d by omega)];rfl)),u⟩),?_⟩,?_⟩)))
 .rintro _ _ ⟨rfl,u⟩ _;refine bD (λkx=>?_) (λkx=>?_)
  .refine aS Az u (H':=λ_=>bM p (dx lv ov (gd l s 7))) (Φ:=λ_ _=>True) (λG I J=>?_) ?_
   .exact(C336 p lv ov l s 7 G _ I (λw' hc=>O w' (J w' hc).aF) M V).mono λ_ _ r=>r.mono λ_ _ h=>⟨trivial,h.2⟩
   rintro _ _ _ u;have u:=u.p2.p2.p2;have h7:Mc l s d=gd l s 7:=by unfold Mc;rw[fh kx]
   rw[h7];exact u
  have u:=u.p2.p2.p2;have h7:Mc l s d=s:=by unfold Mc;rw[fg (by rw[kx];simp)]
  rw[h7];exact u
 intro _ u _;refine aS sL u (H':=λ_=>bM p (dx lv ov (cN l (Mc l s d) (ia #[123])))) (Φ:=λ_ _=>True) (λG I J=>?_) ?_
 .exact(C286 p lv ov l (Mc l s d) (ia #[123]) G _ I (λw' hc=>O w' (J w' hc).aF) M (Hz V)).mono λ_ _ r=>r.mono λ_ _ h=>⟨trivial,h.2⟩
 rintro _ _ _ u;have u:=pT.shut (s:=cN l (Mc l s d) xc) u.p2.p2.p2;refine⟨λmm w'=>∃(B:eE) (E a2:List aZ),iL l B/\oA l (λs=>xE l (Md l k) s d lp) mm B=some (s9,a2)/\add=E++a2/\St w F [pT p lv B (out++E) Q] w',⟨10000,_,[],add,er (Hz V),WZ,rfl,by rw[oj];exact u⟩,?_⟩;rintro mm _ ⟨B,E,a2,Fe,FG,Y,u⟩ _;obtain⟨m,rfl⟩:=Bl FG;obtain⟨W,SK,u⟩:=pT.open u;have TA:SK.length=(out++E).length:=u.p2.eH.1.1;rw[kE]at TA;refine⟨λjv w'=>jv=.bool (decide (B.e=0)&&!ox l B.at_ kC)/\St w F [bM p (dx lv W B),bH W SK,eH λw=>gQ SK (out++E) w/\Q w] w',aD (aA iu (have u:=u.drew;aB gq u.hb rfl (aG (aC (λU=>aD (aA fu (aB fU u.hb rfl (aD (aA dT (aB bL u.hb rfl (aR qh u (C196 _ l B.at_ (ia #[125]) _ (O _ u.aF) hn) λ_ _ u=>bJ (have u:=u.p2.p2.p2;⟨vb (by first|(rw[fY U];rfl)|(rw[fZ U];rfl)),u⟩)))))))) λU=>have u:=u.p2.p2.p2;⟨vb (by first|(rw[fY U];rfl)|(rw[fZ U];rfl)),u⟩)))),?_⟩
 rintro _ _ ⟨rfl,u⟩ _;refine bD (λZ=>?_) (λZ=>?_)
 .obtain⟨s3,a1,a3,ho,hb3,rfl⟩:=CK FG Z;have u:=pT.shut u.p2.p2.p2;refine aS Ut u (H':=λ_=>pT p lv s3 ((out++E)++a1) Q) (Φ:=λ_ _=>True) (λG I J=>?_) ?_
  .exact(C285 p lv l B k d lp (out++E) s3 a1 Q G _ I (λw' hc=>O w' (J w' hc).aF) M Fe HB bP bP (by have:=gl List.length Y;simp at this |-;omega) ho).mono λ_ _ r=>r.mono λ_ _ h=>⟨trivial,h.2⟩
  rintro _ _ _ u;exact⟨_,bP,s3,E++a1,a3,HA (λ_ _ _ _ _ c e=>HC c e) Fe ho,hb3,by rw[Y,mu],by rw[<- mu];exact u⟩
 obtain⟨e9,rfl⟩:=zF FG Z;replace e9:=e9.symm;subst e9;rw[oj]at Y;subst Y;refine aS sL u (H':=λ_=>bM p (dx lv W (cN l B (ia #[125])))) (Φ:=λ_ _=>True) (λG I J=>?_) ?_
 .exact(C286 p lv W l B (ia #[125]) G _ I (λw' hc=>O w' (J w' hc).aF) M Fe).mono λ_ _ r=>r.mono λ_ _ h=>⟨trivial,h.2⟩
 rintro _ _ _ u;refine aD (aA l5 (aB lV u.hb rfl (aI fT u.p1.eS (fk bP ?_))));rw[e2];exact⟨gl (mf .i64) bP,(pT.shut u).mut⟩
theorem adT{l:List aW}(u:fQ l):∀k,Yb l k
 | 0=>λp lv s d lp out B add Q F w _ _ _ _ _ _ h=>by cases h
 | k+1=>λp lv s d lp out B add Q F w E I G M O J h=>C338 p lv l s k d lp out B add Q F w E I u G (adT u k) bP bP J h
def oT(i:Int):eE:=⟨i,0,0⟩
def zG(l:List aW)(i op:Int):Option (List aZ×Int×Int×Int):=
 (oA l (λs=>xE l (Md l 20) s 0 0) 10000 (oT i)).bind λr=>
  if 1000000<r.2.length then none else if (cN l r.1 kC).e≠0 then some ([],0,(cN l r.1 kC).e,(cN l r.1 kC).pos)
  else if 40<r.2.length then some ([],0,2,(lB l op).at_)
  else some (r.2,(cN l r.1 kC).at_,0,0)
def CM(l:List aW)(s:eE):Bool:=match iT l s.at_ with|some t=>decide (t.kind=2)|none=>false
def iG(l:List aW)(nb:Bool)(s:eE):eE×bO:=
 if (nb&&(fr l (dU l s).1 CZ).2)=true then
  (if CM l (fr l (dU l s).1 CZ).1=true then(LA (fr l (dU l s).1 CZ).1,{ (dU l s).2 with n:=(lB l (fr l (dU l s).1 CZ).1.at_).n})
  else(gd l (fr l (dU l s).1 CZ).1 5,(dU l s).2))
 else dU l s
abbrev wy:ByteArray:=⟨#[44]⟩
abbrev JQ:ByteArray:=⟨#[59]⟩
def lK(l:List aW)(nb:Bool):Nat->Bool->eE->Option (eE×List bO)
 | 0,_,_=>none
 | m+1,more,s=>if (more&&decide (s.e=0))=true then(lK l nb m (fr l (iG l nb s).1 wy).2 (fr l (iG l nb s).1 wy).1).bind λr=>some (r.1,(iG l nb s).2::r.2)else some (s,[])
def jL(l:List aW)(nb:Bool)(s:eE):Option (eE×List bO):=(lK l nb 10000 true s).bind λr=>if 1000000<r.2.length then none else some (cN l r.1 JQ,r.2)
abbrev LB:ByteArray:=⟨#[114,101,103]⟩
def vl(l:List aW)(s:eE):Option (eE×List ByteArray):=
 if (fr l s LB).2=true then(jL l false (fr l s LB).1).bind λr=>some (r.1,r.2.map bO.name)else some (s,[])
def oB(l:List aW)(s:eE)(nm:ByteArray)(a:Int):Option (eE×bW):=
 (vl l (cN l s xc)).bind λr=>
  if r.1.e≠0 then some (r.1,⟨nm,r.2,[],a⟩)
  else(zG l r.1.at_ s.at_).bind λR=>if 0<=R.2.1/\R.2.1<=l.length then some (⟨R.2.1,R.2.2.1,R.2.2.2⟩,⟨nm,r.2,R.1,a⟩)else none
def rN(l:List aW)(s:eE)(a:Int):Option (eE×gH):=
 (qA l s.at_).bind λR=>if R.2.2.1≠0 then some ({s with e:=R.2.2.1,pos:=R.2.2.2},⟨[],0⟩)
  else if 0<=R.2.1/\R.2.1<=l.length then some (cN l {s with at_:=R.2.1} JQ,⟨R.1,a⟩)else none
def jD{α:Type}(l:List aW)(t:ByteArray)(rd:eE->Option (eE×α)):Nat->eE->Option (eE×List α)
 | 0,_=>none
 | m+1,s=>if (fr l s t).2=true then(rd (fr l s t).1).bind λr=>(jD l t rd m r.1).bind λq=>some (q.1,r.2::q.2)else some (s,[])
def tJ(l:List aW)(s:eE):Int:=(lB l (s.at_-1)).at_
def HE(l:List aW)(s:eE):Option (eE×List bW):=
 if (fr l s ⟨#[114,101,99,111,118,101,114]⟩).2=true then(oB l (fr l s ⟨#[114,101,99,111,118,101,114]⟩).1 ⟨#[]⟩ (tJ l (fr l s ⟨#[114,101,99,111,118,101,114]⟩).1)).bind λr=>some (r.1,[r.2])else some (s,[])
abbrev Qh:ByteArray:=⟨#[108,105,110,101]⟩
abbrev Yg:ByteArray:=⟨#[118,111,108]⟩
abbrev Qi:ByteArray:=⟨#[108,111,99,107]⟩
abbrev CN:ByteArray:=⟨#[116,104,114,101,97,100]⟩
abbrev CO:ByteArray:=⟨#[97,108,119,97,121,115]⟩
def Yh(l:List aW)(s:eE):Option (eE×bW):=oB l (dU l s).1 (dU l s).2.name (dU l s).2.at_
def Af(l:List aW)(s:eE):eE:=if s.at_<l.length then gd l s 5 else s
def Ff:bQ:=⟨[],[],[],[],[],[]⟩
def pZ(t:ByteArray):Option (bQ×Int×Int):=
 (qx t).bind λL=>if L.2.1≠0 then some (Ff,L.2.1,L.2.2)else
 (jD L.1 Qh (jL L.1 true) 10000 (oT 0)).bind λG=>
 (jD L.1 Yg (jL L.1 true) 10000 G.1).bind λI=>
 (jD L.1 Qi (jL L.1 false) 10000 I.1).bind λE=>
 (jD L.1 CN (Yh L.1) 10000 E.1).bind λB=>
 (HE L.1 B.1).bind λJ=>
 (jD L.1 CO (λs=>rN L.1 s (tJ L.1 s)) 10000 J.1).bind λu=>
  if 1000000<G.2.length\/1000000<I.2.flatten.length\/1000000<E.2.flatten.length\/1000000<B.2.length\/1000000<u.2.length then none else if (Af L.1 u.1).e≠0 then some (Ff,(Af L.1 u.1).e,(Af L.1 u.1).pos)else some (⟨G.2,I.2.flatten,E.2.flatten,B.2,J.2,u.2⟩,0,0)
section
variable {l:List aW}{s s':eE}
theorem Qj{t:ByteArray}(h:(fr l s t).2=true):fr l s t=({s with at_:=s.at_+1},true)/\s.e=0/\0<=s.at_/\s.at_<l.length:=by
 unfold fr at h |-
 split at h
 .rename_i h2
  rw[fh h2]
  rw[nu,decide_eq_true_eq]at h2
  exact⟨rfl,h2.1,nJ h2.2⟩
 cases h
theorem rO{t:ByteArray}(h:(fr l s t).2=false):fr l s t=(s,false):=by
 grind[fr]
theorem zH{nb:Bool}(h:iL l s):iL l (iG l nb s).1:=by
 have h1:=pF h
 have h2:=ic (t:=CZ) h1
 unfold iG
 split
 .split
  .rename_i h3
   unfold CM at h3
   cases ht:iT l (fr l (dU l s).1 CZ).1.at_ with
   | none=>grind
   | some t=>
    have:=jr ht
    exact⟨by show 0<=(fr l (dU l s).1 CZ).1.at_+1;omega,by show(fr l (dU l s).1 CZ).1.at_+1<=_;omega⟩
  exact oz h2
 exact h1
theorem Bn{nb:Bool}:∀{m:Nat}{more:Bool}{s s':eE}{x:List bO},iL l s->lK l nb m more s=some (s',x)->iL l s'
 | 0,_,_,_,_,_,h=>by cases h
 | m+1,more,s,s',x,u,h=>by
  unfold lK at h
  split at h
  .obtain⟨q,y,h1,h2⟩:=dN h
   cases h2
   exact Bn (ic (zH u)) h1
  grind
theorem su{nb:Bool}{x:List bO}(h:jL l nb s=some (s',x)):∃u,lK l nb 10000 true s=some (u,x)/\s'=cN l u JQ/\x.length<=1000000:=by
 unfold jL at h
 obtain⟨q,y,h1,h2⟩:=dN h
 grind
theorem sw{nb:Bool}{x:List bO}(u:iL l s)(h:jL l nb s=some (s',x)):iL l s':=by
 obtain⟨B,h1,h2,_⟩:=su h
 rw[h2];exact er (Bn u h1)
theorem Fg{nb more:Bool}{m:Nat}{x:List bO}(h:lK l nb m more s=some (s',x)):∃k,m=k+1:=by
 cases m with
 | zero=>cases h
 | succ k=>grind
theorem zI{nb more:Bool}{m:Nat}{x:List bO}(h:lK l nb (m+1) more s=some (s',x))(hb:(more&&decide (s.e=0))=false):s'=s/\x=[]:=by
 unfold lK at h;grind
theorem LC{nb more:Bool}{m:Nat}{x:List bO}(h:lK l nb (m+1) more s=some (s',x))(hb:(more&&decide (s.e=0))=true):∃y,lK l nb m (fr l (iG l nb s).1 wy).2 (fr l (iG l nb s).1 wy).1=some (s',y)/\x=(iG l nb s).2::y:=by
 unfold lK at h;rw[hb,fh rfl]at h
 obtain⟨q,y,h1,h2⟩:=dN h
 grind
theorem Fh{x:List ByteArray}(u:iL l s)(h:vl l s=some (s',x)):iL l s':=by
 unfold vl at h
 split at h
 .obtain⟨q,y,h1,h2⟩:=dN h
  cases h2
  exact sw (ic u) h1
 grind
theorem zJ{nm:ByteArray}{a:Int}{x:bW}(u:iL l s)(h:oB l s nm a=some (s',x)):iL l s':=by
 unfold oB at h
 obtain⟨q,y,h1,h2⟩:=dN h
 have h3:=Fh (er u) h1
 dsimp only at h2
 split at h2
 .grind
 cases hr:zG l q.at_ s.at_ with
 | none=>grind
 | some R=>
  grind[iL]
theorem LD{a:Int}{x:gH}(u:iL l s)(h:rN l s a=some (s',x)):iL l s':=by
 unfold rN at h
 cases hr:qA l s.at_ with
 | none=>grind
 | some R=>
  rw[hr]at h
  simp only[la]at h
  split at h
  .cases h;exact u
  .split at h
   .rename_i h4;cases h;exact er h4
   .cases h
theorem nL{α:Type}{t:ByteArray}{rd:eE->Option (eE×α)}{m:Nat}{x:List α}(h:jD l t rd m s=some (s',x)):∃k,m=k+1:=by
 cases m with
 | zero=>cases h
 | succ k=>grind
theorem pG{α:Type}{t:ByteArray}{rd:eE->Option (eE×α)}{m:Nat}{x:List α}(h:jD l t rd (m+1) s=some (s',x))(hb:(fr l s t).2=false):s'=s/\x=[]:=by
 unfold jD at h;grind
theorem rP{α:Type}{t:ByteArray}{rd:eE->Option (eE×α)}{m:Nat}{x:List α}(h:jD l t rd (m+1) s=some (s',x))(hb:(fr l s t).2=true):∃u y z,rd (fr l s t).1=some (u,y)/\jD l t rd m u=some (s',z)/\x=y::z:=by
 unfold jD at h;rw[hb,fh rfl]at h
 obtain⟨q,y,h1,h2⟩:=dN h
 obtain⟨E,B,h3,h4⟩:=dN h2
 grind
end
def noQ:hU:=λ_=>True
theorem vm{l:List aW}{i:Int}{t:aW}(u:0<=i)(h:l[i.toNat]?=some t):lB l i=t:=by
 unfold lB iT;grind
def TB{l:List aW}{i op:Int}{R:List aZ×Int×Int×Int}(h:zG l i op=some R):∃u add,oA l (λs=>xE l (Md l 20) s 0 0) 10000 (oT i)=some (u,add)/\add.length<=1000000/\
  ((cN l u kC).e≠0->R=([],0,(cN l u kC).e,(cN l u kC).pos))/\(¬ (cN l u kC).e≠0->40<(add.length:Int)->R=([],0,2,(lB l op).at_))/\
  (¬ (cN l u kC).e≠0->¬ 40<(add.length:Int)->R=(add,(cN l u kC).at_,0,0)):=by
 unfold zG at h
 obtain⟨q,y,h1,h2⟩:=dN h
 grind
section
variable {l:List aW}{s s':eE}{nb:Bool}
theorem LF(u:nb=true)(h2:(fr l (dU l s).1 CZ).2=true)(h3:CM l (fr l (dU l s).1 CZ).1=true) :
  iG l nb s=(LA (fr l (dU l s).1 CZ).1,{ (dU l s).2 with n:=(lB l (fr l (dU l s).1 CZ).1.at_).n}):=by
 unfold iG;grind
theorem LG(u:nb=true)(h2:(fr l (dU l s).1 CZ).2=true)(h3:CM l (fr l (dU l s).1 CZ).1=false) :
  iG l nb s=(gd l (fr l (dU l s).1 CZ).1 5,(dU l s).2):=by
 unfold iG;grind
theorem Qk(h2:(fr l (dU l s).1 CZ).2=false):iG l nb s=((fr l (dU l s).1 CZ).1,(dU l s).2):=by
 unfold iG;rw[fg cR,rO h2]
theorem Ql(u:nb=false):iG l nb s=((dU l s).1,(dU l s).2):=by
 grind[iG,dU]
theorem TC{q:eE}(h:CM l q=true):∃u,iT l q.at_=some u/\l[q.at_.toNat]?=some u/\0<=q.at_/\q.at_<l.length:=by
 unfold CM at h
 cases ht:iT l q.at_ with
 | none=>grind
 | some u=>have:=jr ht;grind
theorem Bo{x:List ByteArray}(h:vl l s=some (s',x))(h1:(fr l s LB).2=true):∃ys,jL l false (fr l s LB).1=some (s',ys)/\x=ys.map bO.name:=by
 unfold vl at h;rw[fh h1]at h
 obtain⟨q,y,h2,h3⟩:=dN h
 grind
theorem Fi{x:List ByteArray}(h:vl l s=some (s',x))(h1:(fr l s LB).2=false):s'=s/\x=[]:=by
 unfold vl at h;grind
theorem HF{nm:ByteArray}{a:Int}{x:bW}(h:oB l s nm a=some (s',x)):∃q u,vl l (cN l s xc)=some (q,u)/\
  (q.e≠0->s'=q/\x=⟨nm,u,[],a⟩)/\(¬ q.e≠0->∃R,zG l q.at_ s.at_=some R/\0<=R.2.1/\R.2.1<=l.length/\s'=⟨R.2.1,R.2.2.1,R.2.2.2⟩/\x=⟨nm,u,R.1,a⟩):=by
 unfold oB at h
 obtain⟨q,u,h1,h2⟩:=dN h
 refine⟨q,u,h1,λB=>?_,λB=>?_⟩
 .grind
 dsimp only at h2;rw[fg B]at h2
 cases hr:zG l q.at_ s.at_ with
 | none=>grind
 | some R=>
  grind
theorem LH{a:Int}{x:gH}(h:rN l s a=some (s',x)):∃R,qA l s.at_=some R/\
  (R.2.2.1≠0->s'={s with e:=R.2.2.1,pos:=R.2.2.2}/\x=⟨[],0⟩)/\(¬ R.2.2.1≠0->(0<=R.2.1/\R.2.1<=l.length)/\s'=cN l {s with at_:=R.2.1} JQ/\x=⟨R.1,a⟩):=by
 unfold rN at h
 cases hr:qA l s.at_ with
 | none=>grind
 | some R=>
  grind
theorem Yi{e:Int}(u:e≠0)(h:(gd l s e).e=0):False:=by
 unfold gd at h
 grind
theorem TD{t:ByteArray}(h:(cN l s t).e=0):ox l s.at_ t=true:=by
 unfold cN at h
 split at h
 .grind
 exact(Yi ea h).elim
theorem adV{t:ByteArray}:(fr l s t).1.e=s.e:=by unfold fr;grind
theorem LI{e:Int}(h:s.e≠0):(gd l s e).e≠0:=by unfold gd;grind
theorem HG{t:ByteArray}(h:s.e≠0):(cN l s t).e≠0:=by
 unfold cN;rw[fg cR];exact LI h
theorem Fj:∀{m:Nat}{more:Bool}{s s':eE}{x:List bO},s.e≠0->lK l nb m more s=some (s',x)->s'.e≠0
 | 0,_,_,_,_,_,h=>by cases h
 | m+1,more,s,s',x,u,h=>by
  have:=zI h cR
  grind
theorem Fk{x:List bO}(u:s.e≠0)(h:jL l nb s=some (s',x)):s'.e≠0:=by
 obtain⟨B,h1,h2,_⟩:=su h
 rw[h2];exact HG (Fj u h1)
theorem HH{x:List ByteArray}(u:s.e≠0)(h:vl l s=some (s',x)):s'.e≠0:=by
 cases h1:(fr l s LB).2 with
 | true=>obtain⟨ys,h2,_⟩:=Bo h h1;exact Fk (by rw[adV];exact u) h2
 | false=>rw[(Fi h h1).1];exact u
end
theorem Ag{α β:Type}{f:α->β}{l:List α}{k:Nat}{e:α}(h:l[k]?=some e):(l.take k).map f++[f e]=(l.take (k+1)).map f:=by
 rw[<- gm h,List.map_append];rfl
def Fl{l:List aW}{s s':eE}{x:List bW}(h:HE l s=some (s',x))(h1:(fr l s ⟨#[114,101,99,111,118,101,114]⟩).2=true):∃y,oB l (fr l s ⟨#[114,101,99,111,118,101,114]⟩).1 ⟨#[]⟩ (tJ l (fr l s ⟨#[114,101,99,111,118,101,114]⟩).1)=some (s',y)/\x=[y]:=by
 unfold HE at h;rw[fh h1]at h
 obtain⟨q,y,h2,h3⟩:=dN h
 grind
theorem JR{l:List aW}{s s':eE}{x:List bW}(h:HE l s=some (s',x))(h1:(fr l s ⟨#[114,101,99,111,118,101,114]⟩).2=false):s'=s/\x=[]:=by
 unfold HE at h;grind
theorem LJ{t:ByteArray}{l:List aW}{e a:Int}{R:bQ×Int×Int}(h:pZ t=some R)(u:qx t=some (l,e,a))(B:e≠0):R=(Ff,e,a):=by
 unfold pZ at h;rw[u]at h
 simp only[la]at h
 rw[fh B]at h;exact(nM.inj h).symm
theorem HI{t:ByteArray}{R:bQ×Int×Int}(h:pZ t=some R):∃l e a,qx t=some (l,e,a):=by
 unfold pZ at h
 cases hs:qx t with
 | none=>rw[hs]at h;cases h
 | some L=>exact⟨L.1,L.2.1,L.2.2,rfl⟩
structure Yj(l:List aW)(R:bQ×Int×Int)(t1 t2 t3 t4 t5 t6:eE)(y1:List (List bO))(y2 y3:List (List bO))(y4 y5:List bW)(y6:List gH):Prop where
 h1:jD l Qh (jL l true) 10000 (oT 0)=some (t1,y1)
 h2:jD l Yg (jL l true) 10000 t1=some (t2,y2)
 h3:jD l Qi (jL l false) 10000 t2=some (t3,y3)
 h4:jD l CN (Yh l) 10000 t3=some (t4,y4)
 h5:HE l t4=some (t5,y5)
 h6:jD l CO (λs=>rN l s (tJ l s)) 10000 t5=some (t6,y6)
 b1:y1.length<=1000000
 b2:y2.flatten.length<=1000000
 b3:y3.flatten.length<=1000000
 b4:y4.length<=1000000
 b6:y6.length<=1000000
 bad:(Af l t6).e≠0->R=(Ff,(Af l t6).e,(Af l t6).pos)
 ajm:¬ (Af l t6).e≠0->R=(⟨y1,y2.flatten,y3.flatten,y4,y5,y6⟩,0,0)
def Qm{t:ByteArray}{l:List aW}{e a:Int}{R:bQ×Int×Int}(h:pZ t=some R)(hs:qx t=some (l,e,a))(he:¬ e≠0):∃I J Z u V M W U G O E B,Yj l R I J Z u V M W U G O E B:=by
 unfold pZ at h;rw[hs]at h
 simp only[la]at h
 rw[fg he]at h
 obtain⟨I,W,h1,h⟩:=dN h
 obtain⟨J,U,h2,h⟩:=dN h
 obtain⟨Z,G,h3,h⟩:=dN h
 obtain⟨u,O,h4,h⟩:=dN h
 obtain⟨V,E,h5,h⟩:=dN h
 obtain⟨M,B,h6,h⟩:=dN h
 dsimp only at h
 split at h
 .cases h
 rename_i hb
 simp only[not_or,Nat.not_lt]at hb
 refine⟨I,J,Z,u,V,M,W,U,G,O,E,B,h1,h2,h3,h4,h5,h6,hb.1,hb.2.1,hb.2.2.1,hb.2.2.2.1,hb.2.2.2.2,λY=>?_,λY=>?_⟩
 .rw[fh Y]at h;exact(nM.inj h).symm
 rw[fg Y]at h;exact(nM.inj h).symm
theorem TE{l:List aW}{s s':eE}{x:List bW}(u:iL l s)(h:HE l s=some (s',x)):iL l s':=by
 cases h1:(fr l s ⟨#[114,101,99,111,118,101,114]⟩).2 with
 | true=>obtain⟨y,h2,_⟩:=Fl h h1;exact zJ (ic u) h2
 | false=>rw[(JR h h1).1];exact u
theorem vn{α:Type}{a:List (List α)}{b:List α}:(a++[b]).flatten=a.flatten++b:=ew
def JS{α:Type}{y a c:List (List α)}{b:List α}(h:y=a++b::c):a.flatten.length+b.length<=y.flatten.length:=cR
def C199(l:List aW)(lv:Value)(i op:Int)(R:List aZ×Int×Int×Int)(w:World)(hL:dy (λ_=>True) w lv l)(J:fQ l)(h0:0<=i/\i<=l.length)(gW:0<=op/\op<l.length)(hr:zG l i op=some R):CR 199 [lv,hZ i,hZ op] w (λv w'=>∃M:SV,v=.tuple #[iS M,hZ R.2.1,hZ R.2.2.1,hZ R.2.2.2]/\mD (eH λw=>DL w (iS M) R.1) w w'):=by
 have xP:=J.n;have hn:l.length<=1000000:=bP
 have qK:=J.at_;obtain⟨s9,add,WZ,Ou,hR⟩:=TB hr;obtain⟨lsv,Vy⟩:=hL.gF;have u:=St.start w;refine qg Tryz.func199 (pl:=agr) ?_;rw[Vy];refine pop (Gl _ _ _ _) (oZ u λadW _ u=>?_);obtain⟨p,rfl⟩:∃p,p=adW:=⟨_,rfl⟩;have u:=u.enc (cs':=dx (iS lsv) (.slice none 0 0) (oT i)) rfl;rw[<- Vy]at u |-;have hT:∀w',fD bF w w'->dy (λ_=>True) w' lv l:=λ_ hc=>hL.ext hc;have u:=((u.fG (Φ:=λw=>gQ ([]:List aT) ([]:List aZ) w/\noQ w) λ_=>⟨gQ.nil,trivial⟩).eD (α:=aT)).p2;have u:=pT.shut u;refine⟨λmm w'=>∃(B:eE) (E a2:List aZ),iL l B/\oA l (λs=>xE l (Md l 20) s 0 0) mm B=some (s9,a2)/\add=E++a2/\St w bF [pT p lv B (([]:List aZ)++E) noQ] w',⟨10000,oT i,[],add,(show iL l (oT i)from h0),WZ,rfl,by rw[oj];exact u⟩,?_⟩
 rintro mm _ ⟨B,E,a2,V,FG,Y,u⟩ _;obtain⟨m,rfl⟩:=Bl FG;obtain⟨W,U,u⟩:=pT.open u;have TA:U.length=(([]:List aZ)++E).length:=u.p2.eH.1.1;rw[kE]at TA;refine⟨λjv w'=>jv=.bool (decide (B.e=0)&&!ox l B.at_ kC)/\St w bF [bM p (dx lv W B),bH W U,eH λw=>gQ U (([]:List aZ)++E) w/\noQ w] w',aD (aA iu (have u:=u.drew;aB gq u.hb rfl (aG (aC (λI=>aD (aA fu (aB fU u.hb rfl (aD (aA dT (aB bL u.hb rfl (aR qh u (C196 _ l B.at_ (ia #[125]) _ (hT _ u.aF) hn) λ_ _ u=>bJ (have u:=u.p2.p2.p2;⟨vb (by first|(rw[fY I];rfl)|(rw[fZ I];rfl)),u⟩)))))))) λI=>have u:=u.p2.p2.p2;⟨vb (by first|(rw[fY I];rfl)|(rw[fZ I];rfl)),u⟩)))),?_⟩
 rintro _ _ ⟨rfl,u⟩ _;refine bD (λn8=>?_) (λn8=>?_)
 .obtain⟨s3,a1,a3,ho,hb3,rfl⟩:=CK FG n8;have u:=pT.shut u.p2.p2.p2;refine aS Ut u (H':=λ_=>pT p lv s3 ((([]:List aZ)++E)++a1) noQ) (Φ:=λ_ _=>True) (λZ dP dK=>?_) ?_
  .exact(C285 p lv l B 20 0 0 (([]:List aZ)++E) s3 a1 noQ Z _ dP (λw' hc=>hT w' (dK w' hc).aF) J V (adT J 20) bP bP (by have:=gl List.length Y;simp at this |-;omega) ho).mono λ_ _ r=>r.mono λ_ _ h=>⟨trivial,h.2⟩
  rintro _ _ _ u;exact⟨_,bP,s3,E++a1,a3,HA (λ_ _ _ _ _ c e=>HC c e) V ho,hb3,by rw[Y,mu],by rw[<- mu];exact u⟩
 obtain⟨e9,rfl⟩:=zF FG n8;replace e9:=e9.symm;subst e9;rw[oj]at Y;subst Y;obtain⟨ajo,ajp⟩:=id V;simp only[D1,Nat.zero_add]at TA;refine aS sL u (H':=λ_=>bM p (dx lv W (cN l B (ia #[125])))) (Φ:=λ_ _=>True) (λZ dP dK=>?_) ?_
 .exact(C286 p lv W l B (ia #[125]) Z _ dP (λw' hc=>hT w' (dK w' hc).aF) J V).mono λ_ _ r=>r.mono λ_ _ h=>⟨trivial,h.2⟩
 rintro _ _ _ u;refine aD (aA iu (aB gq u.hb rfl (cB (aC (λO=>?_) λO=>aD (aA l5 (aB lV u.hb rfl (aI fT u.p1.eS (dL (aC (λadX=>?_) λadX=>?_)))))))))
 .refine aD (aA iu (have u:=u.drew;aB gq u.hb rfl (aD (aA uA (aB bL u.hb rfl ?_)))));have G:R=([],0,(cN l B kC).e,(cN l B kC).pos):=hR.1 O;rw[G];exact⟨bY,rfl,(u.fG (Φ:=λw=>DL w (iS (bY:SV)) ([]:List aZ)) λw=>DL.nil w).fresh⟩
 .obtain⟨VF,Qn⟩:=gx l (i:=op.toNat) bP;refine aY ey hL bP Qn (λ_ adY=>cU VF.at_ iP adY rfl rfl λ_ Fm=>have u:=u.drew;aE bL (Fm.ext u.aF) ?_);have G:R=([],0,2,VF.at_):=(hR.2.1 O bP).trans (by rw[vm gW.1 Qn]);rw[G];exact⟨bY,rfl,(u.fG (Φ:=λw=>DL w (iS (bY:SV)) ([]:List aZ)) λw=>DL.nil w).fresh⟩
 refine aD (aA l5 (have u:=u.drew;aB lV u.hb rfl (aD (aA dT (aB bL u.hb rfl ?_)))));have u:=(u.drop.p1.dH (Ψ:=gQ U ([]++add)) λ_ h=>h.1).p1;have u:=St.IA u;obtain⟨M,hsv⟩:=u.DU;subst hsv;rw[hR.2.2 O bP];exact⟨M,rfl,u.se.fresh⟩
def C102(p:Nat)(lv:Value)(l:List aW)(s:eE)(nb:Bool)(s2:eE)(x:List bO)(F:Nat->Prop)(w:World)(hF:(bM p (dz lv s)).p w F)(M:∀w',fD F w w'->dy (λ_=>True) w' lv l)(O:fQ l)(h0:iL l s)(hr:jL l nb s=some (s2,x)):CR 102 [(.pointer (some ⟨p,0,none⟩)),.bool nb] w (λv w'=>mC F (sep (bM p (dz lv s2)) (bH v x)) w w'):=by
 have u:=St.begin hF;obtain⟨s9,Sk,e2,Ou⟩:=su hr;have xP:=O.n;have hn:l.length<=1000000:=bP
 have qK:=O.at_;obtain⟨JE,JF⟩:=id h0;refine qg Tryz.func102 (pl:=aga) ?_;refine bK ([]:List bO) u nQ rfl rfl (dQ rfl) (λai0 _ u=>?_);have u:=u.p1.p1;refine⟨λmm o mo w'=>∃(B:eE) (b:Bool) (W a2:List bO),mo=.bool b/\iL l B/\lK l nb mm b B=some (s9,a2)/\x=W++a2/\St w F [bH o W,bM p (dz lv B)] w',⟨10000,s,true,[],x,rfl,h0,Sk,rfl,u⟩,?_⟩;rintro mm pL _ w2 ⟨B,b,W,a2,rfl,J,Vh,hx,u⟩ _;obtain⟨m,rfl⟩:=Fg Vh;obtain⟨ajo,ajp⟩:=id J;refine⟨λjv w'=>jv=.bool (b&&decide (B.e=0))/\w2=w',bD (λY=>aD (aA jh (aB gq u.p1.hb rfl (aG ⟨vb (by first|(rw[Y];rfl)|(rw[Y];rfl)),rfl⟩)))) (λY=>⟨vb (by first|(rw[Y];rfl)|(rw[Y];rfl)),rfl⟩),?_⟩
 rintro _ _ ⟨rfl,hw⟩ _;subst hw;refine bD (λcW=>?_) (λcW=>?_)
 .obtain⟨a3,Sr,rfl⟩:=LC Vh cW;refine aS Uh u.p1 (H':=λ_=>bM p (dz lv (dU l B).1)) (Φ:=λv _=>v=iS (dU l B).2) (λI E G=>?_) ?_
  .exact C103 p lv l B I _ E (λw' hc=>M w' (G w' hc).aF) O J
  rintro _ _ rfl u;refine aK u lO (λZ _ u=>aH (x:=(dU l B).2) u jQ rfl rfl λ_ u=>⟨λw'=>St w F [bM p (dz lv (iG l nb B).1),bM Z (jn (iG l nb B).2),bH pL W] w',⟨_,bD (λqc=>?_) (λqc=>?_),λ_ _ h=>h⟩,?_⟩)
  .refine aS sK u.p1 (H':=λ_=>bM p (dz lv (fr l (dU l B).1 (ia #[61])).1)) (Φ:=λv _=>v=.bool (fr l (dU l B).1 (ia #[61])).2) (λI E G=>?_) ?_
   .exact C101 p lv l (dU l B).1 (ia #[61]) I _ E (λw' hc=>M w' (G w' hc).aF) O (pF J)
   rintro _ _ rfl u;intro zQ;refine bD (λkx=>?_) (λkx=>?_)
   .have hq:=ic (t:=ia #[61]) (pF J);obtain⟨U,hq1⟩:=id hq;refine⟨λjv w'=>jv=.bool (CM l (fr l (dU l B).1 (ia #[61])).1)/\St w F [bM p (dz lv (fr l (dU l B).1 (ia #[61])).1),bM Z (jn (dU l B).2),bH pL W] w',aD (aA eh (have u:=u.drew;aB bL u.hb rfl (aD (aA gP (aB fU u.hb rfl (aI ey (M _ u.aF) (aQ (aC (λkr=>?_) λkr=>have u:=u.p2.p2.p2;⟨vb (by unfold CM iT;rw[fh U,l2 bP]),u⟩)))))))),?_⟩
    .refine aD (aA gP (aB fU u.hb rfl (aD (aA eh (aB bL u.hb rfl ?_)))));obtain⟨ad0,Qo⟩:=gx l (i:=(((fr l (dU l B).1 (ia #[61])).1).at_).toNat) bP;exact aY ey (M _ u.aF) bP Qo (λ_ ad1=>cU ad0.kind iO ad1 rfl rfl λ_ ad2=>aE bL ad2 (aG (have u:=u.p2.p2.p2;⟨vb (by unfold CM iT;rw[fh U,Qo]),u⟩)))
    rintro _ _ ⟨rfl,u⟩ _;refine bD (λwU=>?_) (λwU=>?_)
    .obtain⟨tk,PC,Cl,_,hqlt⟩:=TC wU;have FI:lB l (fr l (dU l B).1 (ia #[61])).1.at_=tk:=vm U Cl;refine aD (aA gP (have u:=u.drew;aB fU u.hb rfl (aD (aA eh (aB bL u.hb rfl (aY ey (M _ u.aF) bP Cl λ_ Fm=>cU tk.n m9 Fm rfl rfl λ_ ad3=>aE bL ad3 (aA uv (aO u.p1 bL (dQ rfl) (rfl) λ_ u=>have u:=u.enc (cs':=jn ({ (dU l B).2 with n:=tk.n}:bO)) rfl;aD (aA eh ?_)))))))));refine aB bL u.p1.hb rfl (aM bP (aD (aA eh (aO u.p1 bL (dQ rfl) (rfl) λ_ u=>?_))))
     have u:=u.p2.p2.p2;have V:(iG l nb B)=(LA (fr l (dU l B).1 (ia #[61])).1,{ (dU l B).2 with n:=tk.n}):=(LF qc kx wU).trans (by rw[FI]);rw[V];exact u
    refine aS H9 u (H':=λ_=>bM p (dz lv (gd l (fr l (dU l B).1 (ia #[61])).1 5))) (Φ:=λ_ _=>True) (λI E G=>?_) ?_
    .exact(C106 p lv l (fr l (dU l B).1 (ia #[61])).1 I _ E (λw' hc=>M w' (G w' hc).aF) O (ic (pF J))).mono λ_ _ r=>r.mono λ_ _ h=>⟨trivial,h.2⟩
    rintro _ _ _ u;have u:=u.p2.p2.p2;have V:=LG qc kx wU;rw[V];exact u
   have u:=u.p2.p2.p2;have V:=Qk (nb:=nb) kx;rw[V];exact u
  .intro zQ;refine ep ?_;have u:=u.p2.p1.p2;have V:=Ql (l:=l) (s:=B) qc;rw[V];exact u
  intro _ u _;refine aE jQ u.p1.At (bK ([(iG l nb B).2]) u nQ rfl rfl (dQ rfl) λadO _ u=>?_);have Yk:=u.eS;refine cO u.p3 nQ Yk (by have:=gl List.length hx;simp at this |-;omega) ea (λs_x75 _ u=>have u:=u.p1.drop;aS sK u.p1 (H':=λ_=>bM p (dz lv (fr l (iG l nb B).1 (ia #[44])).1)) (Φ:=λv _=>v=.bool (fr l (iG l nb B).1 (ia #[44])).2) (λI E G=>?_) ?_)
  .exact C101 p lv l (iG l nb B).1 (ia #[44]) I _ E (λw' hc=>M w' (G w' hc).aF) O (zH J)
  rintro _ _ rfl u;have u:=u.p2.drop.p1;exact⟨_,bP,(fr l (iG l nb B).1 wy).1,(fr l (iG l nb B).1 wy).2,W++[(iG l nb B).2],a3,rfl,ic (zH J),Sr,by rw[hx,mu];rfl,u⟩
 obtain⟨e9,rfl⟩:=zI Vh cW;replace e9:=e9.symm;subst e9;rw[oj]at hx;subst hx;refine aS MA u.p1 (H':=λ_=>bM p (dz lv (cN l B (ia #[59])))) (Φ:=λ_ _=>True) (λI E G=>?_) ?_
 .exact(C197 p lv l B (ia #[59]) I _ E (λw' hc=>M w' (G w' hc).aF) O J).mono λ_ _ r=>r.mono λ_ _ h=>⟨trivial,h.2⟩
 rintro _ _ _ u;have u:=u.p1.p1;rw[e2];exact(St.join u).mut
def C104(p:Nat)(lv:Value)(l:List aW)(s:eE)(nm:ByteArray)(a:Int)(s2:eE)(x:bW)(F:Nat->Prop)(w:World)(hF:(bM p (dz lv s)).p w F)(Z:∀w',fD F w w'->dy (λ_=>True) w' lv l)(E:fQ l)(O:iL l s)(hr:oB l s nm a=some (s2,x)):CR 104 [(.pointer (some ⟨p,0,none⟩)),iS (⟨nm,bY,bY,a⟩:bU)] w (λv w'=>mC F (oV λsh:bU=>fact (v=iS sh) (sep (bM p (dz lv s2)) (eH λw=>l3 w sh x))) w w'):=by
 have u:=St.begin hF;obtain⟨q,Y,FP,AZ,CX⟩:=HF hr;have U:=Fh (er O) FP;obtain⟨hqi0,hqi1⟩:=id U;have xP:=E.n;have hn:l.length<=1000000:=bP
 have qK:=E.at_;obtain⟨JE,JF⟩:=id O;refine qg Tryz.func104 (pl:=agc) ?_;refine cE (x:=(⟨nm,bY,bY,a⟩:bU)) u (λYl _ u=>aK u r8 λO5 _ u=>have u:=u.enc (cs':=jn (⟨(ia #[]),bY,bY,0⟩:bU)) rfl;aD (aA eh (aB bL u.p2.hb rfl (aS MA u.p2 (H':=λ_=>bM p (dz lv (cN l s (ia #[123])))) (Φ:=λ_ _=>True) (λM G J=>?_) ?_))))
 .exact(C197 p lv l s (ia #[123]) M _ G (λw' hc=>Z w' (J w' hc).aF) E O).mono λ_ _ r=>r.mono λ_ _ h=>⟨trivial,h.2⟩
 rintro _ _ _ u;refine⟨λw'=>∃B:SV,St w F [bH (iS B) Y,bM Yl (jn (⟨nm,B,bY,a⟩:bU)),bM O5 (jn (⟨(ia #[]),bY,bY,0⟩:bU)),bM p (dz lv q)] w',?_,?_⟩
 .refine aS sK u (H':=λ_=>bM p (dz lv (fr l (cN l s (ia #[123])) (ia #[114,101,103])).1)) (Φ:=λv _=>v=.bool (fr l (cN l s (ia #[123])) (ia #[114,101,103])).2) (λM G J=>?_) ?_
  .exact C101 p lv l (cN l s (ia #[123])) (ia #[114,101,103]) M _ G (λw' hc=>Z w' (J w' hc).aF) E (er O)
  rintro _ _ rfl u;refine bD (λW=>?_) (λW=>?_)
  .obtain⟨ys,I,Zt⟩:=Bo FP W;have hyl:ys.length<=1000000:=by obtain⟨_,_,_,h⟩:=su I;exact h
   refine aS H8 u (H':=λv=>sep (bM p (dz lv q)) (bH v ys)) (Φ:=λ_ _=>True) (λM G J=>?_) ?_
   .exact(C102 p lv l (fr l (cN l s (ia #[123])) (ia #[114,101,103])).1 false q ys M _ G (λw' hc=>Z w' (J w' hc).aF) E (ic (er O)) I).mono λ_ _ r=>r.mono λ_ _ h=>⟨trivial,h⟩
   rintro x21 _ _ u;have u:=(((((u.split.eD (α:=ByteArray)).p1).p3).p3).p4).p4;refine⟨λmm i w'=>∃(j:Nat) (B:SV),i=hZ (j:Int)/\mm=ys.length-j/\j<=ys.length/\St w F [bH (iS B) ((ys.take j).map bO.name),bM Yl (jn (⟨nm,B,bY,a⟩:bU)),bH x21 ys,bM O5 (jn (⟨(ia #[]),bY,bY,0⟩:bU)),bM p (dz lv q)] w',⟨_,0,bY,rfl,rfl,mj _,u⟩,?_⟩;rintro mm _ _ ⟨j,B,rfl,rfl,hj,u⟩ _;refine aI nQ u.p2.eS (aQ (aC (λkx=>?_) λkx=>?_))
   .refine aA m6 (have u:=u.drew;aB (v:=iS (B:SV)) lT u.p1.hb rfl ?_);obtain⟨VG,Qp⟩:=gx ys (i:=(j:Int).toNat) bP;refine ed u.p2 nQ bP bP (λ_ Ev=>q8 m8 Ev λ_ AT=>uB VG.name u.p2 jZ AT Qp rfl (bK ([VG.name]) u iN rfl rfl (dQ rfl) λs_x35 _ u=>?_));refine⟨aX lT (u.p2.hb.cell rfl),?_⟩;have Ym:=u.eS;refine cO u.p1 iN Ym (by simp;omega) ea (λs_x36 _ u=>have u:=u.p1.drop;aA m6 ?_);obtain⟨Qq,rfl⟩:=u.gF;exact aO u.p1 lT (dQ rfl) (rfl) (λ_ u=>have u:=u.enc (cs':=jn (⟨nm,Qq,bY,a⟩:bU)) rfl;aM bP (have u:=u.p4.p4.p4.p3.p4;⟨_,bP,j+1,Qq,rfl,rfl,bP,by rw[<- Ag (k:=j) Qp];exact u⟩))
   have u:=u.p2.drop.p3.p3.p3.p3;rw[kO bP]at u;rw[Zt];exact⟨B,u⟩
  have u:=((((u.eD (α:=ByteArray)).p1).p2).p3).p3;obtain⟨e1,e3⟩:=Fi FP W;rw[rO W]at u;rw[e1,e3];exact⟨bY,u⟩
 rintro _ ⟨B,u⟩ _;refine⟨λw'=>∃(B V:SV) (body:List aZ),x=⟨nm,Y,body,a⟩/\St w F [bH (iS B) Y,eH (λw=>DL w (iS V) body),bM Yl (jn (⟨nm,B,V,a⟩:bU)),bM O5 (jn (⟨(ia #[]),bY,bY,0⟩:bU)),bM p (dz lv s2)] w',aD (aA jh (aB gq u.p3.hb rfl (aG (aC (λmG=>?_) λmG=>?_)))),?_⟩
 .obtain⟨R,hR,hR0,hR1,e2,hx⟩:=CX bP;have L9:(cN l s xc).e=0:=BL.1 λhh=>HH hh FP bP;have gW:=nJ (TD L9);refine aD (aA gP (have u:=u.drew;aB fU u.p3.hb rfl (aD (aA eh (aB bL u.p3.hb rfl (dW Z7 (C199 l _ q.at_ s.at_ R _ (Z _ u.aF) E U gW hR) ?_))))));rintro _ _ ⟨Qr,rfl,dw⟩;have u:=u.made dw;refine aJ rfl (aJ rfl (aJ rfl (aJ rfl (aA qQ (aO u.p2 lV (dQ rfl) (rfl) λ_ u=>have u:=u.enc (cs':=jn (⟨nm,B,Qr,a⟩:bU)) rfl;aD (aA eh (aO u.p4 bL (dQ rfl) (rfl) λ_ u=>aD (aA jh (aO u gq (dQ rfl) (rfl) λ_ u=>aD ?_)))))))))
  refine aA qT (aO u bL (dQ rfl) (rfl) λ_ u=>?_);have u:=u.p4.p2.p3.p4;rw[e2];exact⟨B,Qr,R.1,hx,u⟩
 .have u:=u.fG (Φ:=λw=>DL w (iS (bY:SV)) ([]:List aZ)) λw=>DL.nil w;have u:=u.p4.p4.p4.p3.p4;obtain⟨e2,hx⟩:=AZ mG;rw[e2];exact⟨B,bY,[],hx,u⟩
 rintro _ ⟨B,V,body,rfl,u⟩ _;exact aE lq u.p2.At (aH (x:=(⟨nm,B,V,a⟩:bU)) u.p3 lq rfl rfl λ_ u=>aE lq u.At (have u:=u.p1.freeze.p2.p1.gY.dH (Ψ:=(λw=>l3 w (⟨nm,B,V,a⟩:bU) (⟨nm,Y,body,a⟩:bW))) (λ_ h=>⟨_,_,rfl,DL.gG h.1,id h.2⟩);have u:=u.p1.drop.p1.drop.p1;(rM u).mut))
def C105(p:Nat)(lv:Value)(l:List aW)(s:eE)(a:Int)(O:eE)(x:gH)(F:Nat->Prop)(w:World)(W:(bM p (dz lv s)).p w F)(M:∀w',fD F w w'->dy (λ_=>True) w' lv l)(B:fQ l)(V:iL l s)(hr:rN l s a=some (O,x)):CR 105 [(.pointer (some ⟨p,0,none⟩)),hZ a] w (λv w'=>mC F (oV λI:ig=>fact (v=iS I) (sep (bM p (dz lv O)) (eH λw=>l3 w I x))) w w'):=by
 have u:=St.begin W;obtain⟨R,E,AZ,CX⟩:=LH hr;have xP:=B.n;have hn:l.length<=1000000:=bP
 have qK:=B.at_;obtain⟨JE,JF⟩:=id V;refine qg Tryz.func105 (pl:=agd) ?_;refine aK u Gf (λO5 _ u=>have u:=u.enc (cs':=jn (⟨bY,0⟩:ig)) rfl;aD (aA gP (have u:=u.drew;aB fU u.p1.hb rfl (aD (aA eh (aB bL u.p1.hb rfl (dW Up (C200 l _ s.at_ R _ (M _ u.aF) B bP E) ?_)))))));rintro _ _ ⟨J,rfl,dw⟩;have u:=u.made dw;refine aJ rfl (aJ rfl (aJ rfl (aJ rfl (cB (aC (λG=>?_) λG=>?_)))))
 .obtain⟨rfl,rfl⟩:=AZ G;exact aD (aA jh (aO u.p2 gq (dQ rfl) (rfl) λ_ u=>aD (aA qT (aO u bL (dQ rfl) (rfl) λ_ u=>pop (v:=iS (⟨bY,0⟩:ig)) (by kernel_rfl) (aH (x:=(⟨bY,0⟩:ig)) u.p2 BS rfl rfl λ_ u=>aE BS u.At (have u:=u.fG (Φ:=(λw=>l3 w (⟨bY,0⟩:ig) (⟨[],0⟩:gH))) (λ_=>⟨_,rfl,DL.nil _⟩);have u:=u.p1.drop.p2.drop.p1;(rM u).mut))))))
 obtain⟨Y,rfl,rfl⟩:=CX G;refine aD (aA eh (aO u.p2 bL (dQ rfl) (rfl) λ_ u=>have u:=u.enc (cs':=dz lv ({s with at_:=R.2.1}:eE)) rfl;aS MA u (H':=λ_=>bM p (dz lv (cN l ({s with at_:=R.2.1}:eE) (ia #[59])))) (Φ:=λ_ _=>True) (λU Z dK=>?_) ?_))
 .exact(C197 p lv l ({s with at_:=R.2.1}:eE) (ia #[59]) U _ Z (λw' hc=>M w' (dK w' hc).aF) B (show iL l ({s with at_:=R.2.1}:eE)from Y)).mono λ_ _ r=>r.mono λ_ _ h=>⟨trivial,h.2⟩
 rintro _ _ _ u;exact pop (Ks _ _ _ _) (aH (x:=(⟨J,a⟩:ig)) u.p2 BS rfl rfl λ_ u=>aE BS u.At (have u:=u.p2.dH (Ψ:=(λw=>l3 w (⟨J,a⟩:ig) (⟨R.1,a⟩:gH))) (λ_ h=>⟨_,rfl,id h⟩);have u:=u.p1.drop.p1;(rM u).mut))
def C44(s:ByteArray)(R:bQ×Int×Int)(w:World)(Q6:s.size<=1000000)(hr:pZ s=some R)(hTk:∀l e a,qx s=some (l,e,a)->fQ l):CR 44 [.string s] w (λv w'=>∃pv:bZ,v=.tuple #[iS pv,hZ R.2.1,hZ R.2.2]/\mD (eH λw=>l3 w pv R.1) w w'):=by
 obtain⟨l,e,a,Uy⟩:=HI hr;have W:=hTk l e a Uy;have xP:=W.n;have hn:l.length<=1000000:=bP
 have qK:=W.at_;have u:=St.start w;refine qg Tryz.func44 (pl:=P44) ?_;refine aK u Gc (λyH _ u=>have u:=u.enc (cs':=jn (⟨bY,bY,bY,bY,bY,bY⟩:bZ)) rfl;dW ZX (C100 s (l,e,a) _ Q6 Uy) ?_);rintro _ _ ⟨lv,rfl,dw⟩;have u:=u.made dw;refine aJ rfl (aJ rfl (aJ rfl (cB (aC (λl8=>?_) λl8=>?_))))
 .refine pop (v:=iS (⟨bY,bY,bY,bY,bY,bY⟩:bZ)) (by kernel_rfl) (aH (x:=(⟨bY,bY,bY,bY,bY,bY⟩:bZ)) u.p1 fS rfl rfl λ_ u=>aE fS u.At ?_);have u:=u.fG (Φ:=(λw=>l3 w (⟨bY,bY,bY,bY,bY,bY⟩:bZ) (⟨[],[],[],[],[],[]⟩:bQ))) (λ_=>⟨_,_,_,_,_,_,rfl,DL.nil _,DL.nil _,DL.nil _,DL.nil _,DL.nil _,DL.nil _⟩);have u:=u.p1.drop.p1.drop;rw[LJ hr Uy l8];exact⟨_,rfl,u.fresh⟩
 obtain⟨t1,t2,t3,t4,t5,t6,y1,y2,y3,y4,y5,y6,Y⟩:=Qm hr Uy l8;obtain⟨lsv,Vy⟩:=u.gF;rw[Vy];refine pop (MX _ _ _) (oZ u λID _ u=>pop (v:=iS (⟨bY,bY,bY,bY,bY,bY⟩:bZ)) (by kernel_rfl) (aK u Gc λHJ _ u=>have u:=u.enc (cs':=jn (⟨bY,bY,bY,bY,bY,bY⟩:bZ)) rfl;aH (x:=(⟨bY,bY,bY,bY,bY,bY⟩:bZ)) u fS rfl rfl λ_ u=>?_));obtain⟨p,rfl⟩:∃p,p=ID:=⟨_,rfl⟩;have u:=u.p1.enc (cs':=dz (iS lsv) (oT 0)) rfl;rw[<- Vy]at u |-;have ajr:iL l (oT 0):=⟨Jt _,by show(0:Int)<=_;omega⟩;have u:=(((((u.Gt (α:=(List bO))).p4).p4).p3).p4).p4
 refine⟨λZ w'=>∃(s0:eE) (J:SV) (xs0 a0:List (List bO)),iL l s0/\jD l Qh (jL l true) Z s0=some (t1,a0)/\y1=xs0++a0/\St w bF [jW (iS J) xs0,bM HJ (jn (⟨J,bY,bY,bY,bY,bY⟩:bZ)),bM p (dz lv s0),bH lv l,bM yH (jn (⟨bY,bY,bY,bY,bY,bY⟩:bZ))] w',⟨10000,oT 0,bY,[],y1,ajr,Y.h1,rfl,u⟩,?_⟩;rintro Z _ ⟨s0,J,xs0,a0,UR,L9,hy0,u⟩ _;obtain⟨m0,rfl⟩:=nL L9;refine aS sK u.p2 (H':=λ_=>bM p (dz lv (fr l s0 (ia #[108,105,110,101])).1)) (Φ:=λv _=>v=.bool (fr l s0 (ia #[108,105,110,101])).2) (λG B E=>?_) ?_
 .exact C101 p lv l s0 (ia #[108,105,110,101]) G _ B (λw' hc=>(E w' hc).p2.eS) W UR
 rintro _ _ rfl u;refine bD (λvj=>?_) (λvj=>?_)
 .obtain⟨q0,z0,b0,Jb,Sk,rfl⟩:=rP L9 vj;refine aA mK (have u:=u.drew;aB (v:=iS (J:SV)) ym u.p2.hb rfl (aS H8 u (H':=λv=>sep (bM p (dz lv q0)) (bH v z0)) (Φ:=λ_ _=>True) (λG B E=>?_) ?_))
  .exact(C102 p lv l (fr l s0 (ia #[108,105,110,101])).1 true q0 z0 G _ B (λw' hc=>(E w' hc).p2.eS) W (ic UR) Jb).mono λ_ _ r=>r.mono λ_ _ h=>⟨trivial,h⟩
  rintro x31 _ _ u;have u:=u.split;refine⟨aX ym (u.p3.hb.cell rfl),?_⟩;obtain⟨Qt,rfl⟩:=u.p1.gF;have u:=u.p1.freeze.dH (Ψ:=λw=>l3 w Qt z0) (λ_ h=>DL.gG h);refine kp (s:=Qt) (x:=z0) u yn ea (λs_x32 _ u=>?_);refine⟨aX ym (u.p3.hb.cell rfl),?_⟩;have u:=u.p2;refine kq u yn (by have h1:=gl List.length hy0;have h2:=Y.b1;simp at h1 |-;omega) ea (λs_x33 _ u=>aA mK ?_);obtain⟨Qu,rfl⟩:=u.DU;exact aO u.p2 ym (dQ rfl) (rfl) (λ_ u=>have u:=((((u.enc (cs':=jn (⟨Qu,bY,bY,bY,bY,bY⟩:bZ)) rfl).p4).p4).p4).p3;have u:=u.p4;⟨_,bP,q0,Qu,xs0++[z0],b0,sw (ic UR) Jb,Sk,by rw[hy0,mu];rfl,u⟩)
 obtain⟨U,rfl⟩:=pG L9 vj;replace U:=U.symm;subst U;rw[oj]at hy0;subst hy0;rw[rO vj]at u;have u:=((((((u.eD (α:=bO)).p5).p5).p3).p5).p5).p5;refine⟨λZ w'=>∃(s1:eE) (M:SV) (xs1 a1:List (List bO)),iL l s1/\jD l Yg (jL l true) Z s1=some (t2,a1)/\y2=xs1++a1/\St w bF [bH (iS M) xs1.flatten,jW (iS J) y1,bM HJ (jn (⟨J,M,bY,bY,bY,bY⟩:bZ)),bM p (dz lv s1),bH lv l,bM yH (jn (⟨bY,bY,bY,bY,bY,bY⟩:bZ))] w',⟨10000,s0,bY,[],y2,UR,Y.h2,rfl,u⟩,?_⟩;rintro Z _ ⟨s1,M,xs1,a1,hi1,hm1,hy1,u⟩ _;obtain⟨m1,rfl⟩:=nL hm1
 refine aS sK u.p3 (H':=λ_=>bM p (dz lv (fr l s1 (ia #[118,111,108])).1)) (Φ:=λv _=>v=.bool (fr l s1 (ia #[118,111,108])).2) (λG B E=>?_) ?_
 .exact C101 p lv l s1 (ia #[118,111,108]) G _ B (λw' hc=>(E w' hc).p3.eS) W hi1
 rintro _ _ rfl u;refine bD (λJT=>?_) (λJT=>?_)
 .obtain⟨q1,z1,b1,ZU,Vh,rfl⟩:=rP hm1 JT;refine aA ug (have u:=u.drew;aB (v:=iS (M:SV)) sy u.p3.hb rfl (aS H8 u (H':=λv=>sep (bM p (dz lv q1)) (bH v z1)) (Φ:=λ_ _=>True) (λG B E=>?_) ?_))
  .exact(C102 p lv l (fr l s1 (ia #[118,111,108])).1 true q1 z1 G _ B (λw' hc=>(E w' hc).p3.eS) W (ic hi1) ZU).mono λ_ _ r=>r.mono λ_ _ h=>⟨trivial,h⟩
  rintro x40 _ _ u;have u:=u.split;refine⟨aX sy (u.p4.hb.cell rfl),?_⟩;have Yn:=u.p1.eS;refine cO u.p2 nQ Yn (by have:=JS hy1;have:=Y.b2;omega) ea (λs_x41 _ u=>have u:=u.p2.drop;aA ug ?_);obtain⟨Qv,rfl⟩:=u.gF;refine aO u.p3 sy (dQ rfl) (rfl) (λ_ u=>?_);have u:=((((u.enc (cs':=jn (⟨J,Qv,bY,bY,bY,bY⟩:bZ)) rfl).p5).p5).p4).p3;have u:=u.p5.p5;rw[<- vn]at u;exact⟨_,bP,q1,Qv,xs1++[z1],b1,sw (ic hi1) ZU,Vh,by rw[hy1,mu];rfl,u⟩
 obtain⟨U,rfl⟩:=pG hm1 JT;replace U:=U.symm;subst U;rw[oj]at hy1;subst hy1;rw[rO JT]at u;have u:=(((((((u.eD (α:=bO)).p6).p6).p3).p6).p5).p6).p6;refine⟨λZ w'=>∃(s2:eE) (V:SV) (xs2 a2:List (List bO)),iL l s2/\jD l Qi (jL l false) Z s2=some (t3,a2)/\y3=xs2++a2/\St w bF [bH (iS V) xs2.flatten,jW (iS J) y1,bH (iS M) y2.flatten,bM HJ (jn (⟨J,M,V,bY,bY,bY⟩:bZ)),bM p (dz lv s2),bH lv l,bM yH (jn (⟨bY,bY,bY,bY,bY,bY⟩:bZ))] w',⟨10000,s1,bY,[],y3,hi1,Y.h3,rfl,u⟩,?_⟩;rintro Z _ ⟨s2,V,xs2,a2,WQ,hm2,hy2,u⟩ _
 obtain⟨m2,rfl⟩:=nL hm2;refine aS sK u.p4 (H':=λ_=>bM p (dz lv (fr l s2 (ia #[108,111,99,107])).1)) (Φ:=λv _=>v=.bool (fr l s2 (ia #[108,111,99,107])).2) (λG B E=>?_) ?_
 .exact C101 p lv l s2 (ia #[108,111,99,107]) G _ B (λw' hc=>(E w' hc).p4.eS) W WQ
 rintro _ _ rfl u;refine bD (λJU=>?_) (λJU=>?_)
 .obtain⟨q2,z2,b2,Yo,WH,rfl⟩:=rP hm2 JU;refine aA rX (have u:=u.drew;aB (v:=iS (V:SV)) sy u.p4.hb rfl (aS H8 u (H':=λv=>sep (bM p (dz lv q2)) (bH v z2)) (Φ:=λ_ _=>True) (λG B E=>?_) ?_))
  .exact(C102 p lv l (fr l s2 (ia #[108,111,99,107])).1 false q2 z2 G _ B (λw' hc=>(E w' hc).p4.eS) W (ic WQ) Yo).mono λ_ _ r=>r.mono λ_ _ h=>⟨trivial,h⟩
  rintro x48 _ _ u;have u:=u.split;refine⟨aX sy (u.p5.hb.cell rfl),?_⟩;have Yp:=u.p1.eS;refine cO u.p2 nQ Yp (by have:=JS hy2;have:=Y.b3;omega) ea (λs_x49 _ u=>have u:=u.p2.drop;aA rX ?_);obtain⟨Qw,rfl⟩:=u.gF;refine aO u.p4 sy (dQ rfl) (rfl) (λ_ u=>?_);have u:=((((u.enc (cs':=jn (⟨J,M,Qw,bY,bY,bY⟩:bZ)) rfl).p6).p6).p4).p3;have u:=u.p6.p6.p6;rw[<- vn]at u;exact⟨_,bP,q2,Qw,xs2++[z2],b2,sw (ic WQ) Yo,WH,by rw[hy2,mu];rfl,u⟩
 obtain⟨U,rfl⟩:=pG hm2 JU;replace U:=U.symm;subst U;rw[oj]at hy2;subst hy2;rw[rO JU]at u;have u:=((((((((u.Gt (α:=bW)).p7).p7).p3).p7).p5).p7).p7).p7;refine⟨λZ w'=>∃(I:eE) (v3:SV) (xs3 a3:List bW),iL l I/\jD l CN (Yh l) Z I=some (t4,a3)/\y4=xs3++a3/\St w bF [jW (iS v3) xs3,jW (iS J) y1,bH (iS M) y2.flatten,bH (iS V) y3.flatten,bM HJ (jn (⟨J,M,V,v3,bY,bY⟩:bZ)),bM p (dz lv I),bH lv l,bM yH (jn (⟨bY,bY,bY,bY,bY,bY⟩:bZ))] w',⟨10000,s2,bY,[],y4,WQ,Y.h4,rfl,u⟩,?_⟩;rintro Z _ ⟨I,v3,xs3,a3,Yq,hm3,hy3,u⟩ _
 obtain⟨m3,rfl⟩:=nL hm3;refine aS sK u.p5 (H':=λ_=>bM p (dz lv (fr l I (ia #[116,104,114,101,97,100])).1)) (Φ:=λv _=>v=.bool (fr l I (ia #[116,104,114,101,97,100])).2) (λG B E=>?_) ?_
 .exact C101 p lv l I (ia #[116,104,114,101,97,100]) G _ B (λw' hc=>(E w' hc).p5.eS) W Yq
 rintro _ _ rfl u;refine bD (λwZ=>?_) (λwZ=>?_)
 .obtain⟨q3,z3,b3,hd3,Sr,rfl⟩:=rP hm3 wZ;refine aS Uh u (H':=λ_=>bM p (dz lv (dU l (fr l I (ia #[116,104,114,101,97,100])).1).1)) (Φ:=λv _=>v=iS (dU l (fr l I (ia #[116,104,114,101,97,100])).1).2) (λG B E=>?_) ?_
  .exact C103 p lv l (fr l I (ia #[116,104,114,101,97,100])).1 G _ B (λw' hc=>(E w' hc).p5.eS) W (ic Yq)
  rintro _ _ rfl u;refine aK u lO (λb_c10 _ u=>aH (x:=(dU l (fr l I (ia #[116,104,114,101,97,100])).1).2) u jQ rfl rfl λ_ u=>aA pO (have u:=u.drew;aB (v:=iS (v3:SV)) pN u.p6.hb rfl (aA m8 (aB (v:=.string (((dU l (fr l I (ia #[116,104,114,101,97,100])).1).2).name)) jZ u.hb rfl (aA uw (aB (v:=hZ (((dU l (fr l I (ia #[116,104,114,101,97,100])).1).2).at_)) bL u.hb rfl (pop (Gg _ _) (aS Ui u.p1 (H':=λv=>oV λsh:bU=>fact (v=iS sh) (sep (bM p (dz lv q3)) (eH λw=>l3 w sh z3))) (Φ:=λ_ _=>True) (λG B E=>?_) ?_))))))))
  .exact(C104 p lv l (dU l (fr l I (ia #[116,104,114,101,97,100])).1).1 ((dU l (fr l I (ia #[116,104,114,101,97,100])).1).2).name ((dU l (fr l I (ia #[116,104,114,101,97,100])).1).2).at_ q3 z3 G _ B (λw' hc=>(E w' hc).p6.eS) W (pF (ic Yq)) hd3).mono λ_ _ r=>r.mono λ_ _ h=>⟨trivial,h⟩
  rintro v_x63 _ _ sT;obtain⟨Yr,vk⟩:=sT.dS
  clear sT
  obtain⟨Ys,xZ⟩:=vk.lr
  clear vk
  subst Ys;have u:=xZ.split
  clear xZ
  refine⟨aX pN (u.p7.hb.cell rfl),?_⟩;have u:=u.p1;refine kp (s:=Yr) (x:=z3) u kJ ea (λs_x64 _ u=>?_);refine⟨aX pN (u.p7.hb.cell rfl),?_⟩;have u:=u.p3;refine kq u kJ (by have h1:=gl List.length hy3;have h2:=Y.b4;simp at h1 |-;omega) ea (λs_x65 _ u=>aA pO ?_);obtain⟨Qx,rfl⟩:=u.DU;exact aO u.p6 pN (dQ rfl) (rfl) (λ_ u=>have u:=((((u.enc (cs':=jn (⟨J,M,V,Qx,bY,bY⟩:bZ)) rfl).p3).drop).p7).p7;have u:=u.p4.p3.p7.p7.p7.p7;⟨_,bP,q3,Qx,xs3++[z3],b3,zJ (pF (ic Yq)) hd3,Sr,by rw[hy3,mu];rfl,u⟩)
 obtain⟨U,rfl⟩:=pG hm3 wZ;replace U:=U.symm;subst U;rw[oj]at hy3;subst hy3;rw[rO wZ]at u;refine⟨λw'=>∃v4:SV,St w bF [jW (iS v4) y5,jW (iS J) y1,bH (iS M) y2.flatten,bH (iS V) y3.flatten,jW (iS v3) y4,bM HJ (jn (⟨J,M,V,v3,v4,bY⟩:bZ)),bM p (dz lv t5),bH lv l,bM yH (jn (⟨bY,bY,bY,bY,bY,bY⟩:bZ))] w',?_,?_⟩
 .refine aS sK u (H':=λ_=>bM p (dz lv (fr l I (ia #[114,101,99,111,118,101,114])).1)) (Φ:=λv _=>v=.bool (fr l I (ia #[114,101,99,111,118,101,114])).2) (λG B E=>?_) ?_
  .exact C101 p lv l I (ia #[114,101,99,111,118,101,114]) G _ B (λw' hc=>(E w' hc).p5.eS) W Yq
  rintro _ _ rfl u;refine bD (λFo=>?_) (λFo=>?_)
  .obtain⟨z4,hd4,Zz⟩:=Fl Y.h5 Fo;obtain⟨aju,_,hlo68,hhi68⟩:=Qj Fo;have hat68:(fr l I (ia #[114,101,99,111,118,101,114])).1.at_=I.at_+1:=by rw[aju]
   refine aA rY (have u:=u.drew;aB (v:=iS (bY:SV)) pN u.p5.hb rfl (aD (aA eh (aB bL u.hb rfl (fk bP ?_)))));obtain⟨Qy,Qz⟩:=gx l (i:=(((fr l I (ia #[114,101,99,111,118,101,114])).1).at_-1).toNat) bP;refine ed u.p6 ey bP bP (λ_ PY=>q8 iP PY λ_ ad4=>uB Qy.at_ u.p6 bL ad4 Qz rfl (pop (MW _) ?_));have Zu:tJ l (fr l I (ia #[114,101,99,111,118,101,114])).1=Qy.at_:=gl aW.at_ (vm bP Qz);rw[Zu]at hd4;refine aS Ui u (H':=λv=>oV λsh:bU=>fact (v=iS sh) (sep (bM p (dz lv t5)) (eH λw=>l3 w sh z4))) (Φ:=λ_ _=>True) (λG B E=>?_) ?_
   .exact(C104 p lv l (fr l I (ia #[114,101,99,111,118,101,114])).1 (ia #[]) Qy.at_ t5 z4 G _ B (λw' hc=>(E w' hc).p5.eS) W (ic Yq) hd4).mono λ_ _ r=>r.mono λ_ _ h=>⟨trivial,h⟩
   rintro v_x82 _ _ sT;obtain⟨Yt,vk⟩:=sT.dS
   clear sT
   obtain⟨Yu,xZ⟩:=vk.lr
   clear vk
   subst Yu;have u:=xZ.split
   clear xZ
   refine⟨aX pN (u.p6.hb.cell rfl),?_⟩;have u:=u.p1;refine kp (s:=Yt) (x:=z4) u kJ ea (λs_x83 _ u=>?_);refine⟨aX pN (u.p6.hb.cell rfl),?_⟩;have u:=((u.Gt (α:=bW)).p1).p1;refine kq u kJ ew ea (λs_x84 _ u=>aA rY ?_);obtain⟨QA,rfl⟩:=u.DU;refine aO u.p6 pN (dQ rfl) (rfl) (λ_ u=>?_);have u:=(((((u.enc (cs':=jn (⟨J,M,V,v3,QA,bY⟩:bZ)) rfl).p8).p8).p4).p3).p5;have u:=u.p8.p8.p8.p8;rw[Zz];exact⟨QA,u⟩
  rw[rO Fo]at u;have u:=(((((((((u.Gt (α:=bW)).p8).p8).p3).p8).p5).p8).p8).p8).p8;obtain⟨e5,e6⟩:=JR Y.h5 Fo;rw[e5,e6];exact⟨bY,u⟩
 rintro _ ⟨v4,u⟩ _;have u:=((((((((((u.Gt (α:=gH)).p9).p9).p9).p9).p5).p9).p9).p9).p9).p9;refine⟨λZ w'=>∃(O:eE) (v5:SV) (xs5 a5:List gH),iL l O/\jD l CO (λs=>rN l s (tJ l s)) Z O=some (t6,a5)/\y6=xs5++a5/\St w bF [jW (iS v5) xs5,jW (iS J) y1,bH (iS M) y2.flatten,bH (iS V) y3.flatten,jW (iS v3) y4,jW (iS v4) y5,bM HJ (jn (⟨J,M,V,v3,v4,v5⟩:bZ)),bM p (dz lv O),bH lv l,bM yH (jn (⟨bY,bY,bY,bY,bY,bY⟩:bZ))] w',⟨10000,t5,bY,[],y6,(TE Yq Y.h5),Y.h6,rfl,u⟩,?_⟩;rintro Z _ ⟨O,v5,xs5,a5,hi5,hm5,Zz,u⟩ _
 obtain⟨m5,rfl⟩:=nL hm5;refine aS sK u.p7 (H':=λ_=>bM p (dz lv (fr l O (ia #[97,108,119,97,121,115])).1)) (Φ:=λv _=>v=.bool (fr l O (ia #[97,108,119,97,121,115])).2) (λG B E=>?_) ?_
 .exact C101 p lv l O (ia #[97,108,119,97,121,115]) G _ B (λw' hc=>(E w' hc).p7.eS) W hi5
 rintro _ _ rfl u;refine bD (λFp=>?_) (λFp=>?_)
 .obtain⟨q5,z5,b5,hd5,xP,rfl⟩:=rP hm5 Fp;obtain⟨ajx,_,hlo87,hhi87⟩:=Qj Fp;have hat87:(fr l O (ia #[97,108,119,97,121,115])).1.at_=O.at_+1:=by rw[ajx]
  refine aA rZ (have u:=u.drew;aB (v:=iS (v5:SV)) DB u.p7.hb rfl (aD (aA eh (aB bL u.hb rfl (fk bP ?_)))));obtain⟨QB,QC⟩:=gx l (i:=(((fr l O (ia #[97,108,119,97,121,115])).1).at_-1).toNat) bP;refine ed u.p8 ey bP bP (λ_ ad6=>q8 iP ad6 λ_ ad7=>uB QB.at_ u.p8 bL ad7 QC rfl ?_);have Zu:tJ l (fr l O (ia #[97,108,119,97,121,115])).1=QB.at_:=gl aW.at_ (vm bP QC);rw[Zu]at hd5;refine aS ZY u (H':=λv=>oV λsh:ig=>fact (v=iS sh) (sep (bM p (dz lv q5)) (eH λw=>l3 w sh z5))) (Φ:=λ_ _=>True) (λG B E=>?_) ?_
  .exact(C105 p lv l (fr l O (ia #[97,108,119,97,121,115])).1 QB.at_ q5 z5 G _ B (λw' hc=>(E w' hc).p7.eS) W (ic hi5) hd5).mono λ_ _ r=>r.mono λ_ _ h=>⟨trivial,h⟩
  rintro ajy _ _ sT;obtain⟨TF,vk⟩:=sT.dS
  clear sT
  obtain⟨TG,xZ⟩:=vk.lr
  clear vk
  subst TG;have u:=xZ.split
  clear xZ
  refine⟨aX DB (u.p8.hb.cell rfl),?_⟩;have u:=u.p1;refine kp (s:=TF) (x:=z5) u BP ea (λXA _ u=>?_);refine⟨aX DB (u.p8.hb.cell rfl),?_⟩;have u:=u.p2;refine kq u BP (by have h1:=gl List.length Zz;have h2:=Y.b6;simp at h1 |-;omega) ea (λXB _ u=>aA rZ ?_);obtain⟨JV,rfl⟩:=u.DU;exact aO u.p7 DB (dQ rfl) (rfl) (λ_ u=>have u:=(((((u.enc (cs':=jn (⟨J,M,V,v3,v4,JV⟩:bZ)) rfl).p9).p9).p4).p3).p9;have u:=u.p9.p9.p9.p9.p9;⟨_,bP,q5,JV,xs5++[z5],b5,LD (ic hi5) hd5,xP,by rw[Zz,mu];rfl,u⟩)
 obtain⟨U,rfl⟩:=pG hm5 Fp;replace U:=U.symm;subst U;rw[oj]at Zz;subst Zz;rw[rO Fp]at u;obtain⟨hi50,hi51⟩:=id hi5;refine⟨λw'=>St w bF [jW (iS v5) y6,jW (iS J) y1,bH (iS M) y2.flatten,bH (iS V) y3.flatten,jW (iS v3) y4,jW (iS v4) y5,bM HJ (jn (⟨J,M,V,v3,v4,v5⟩:bZ)),bM p (dz lv (Af l O)),bH lv l,bM yH (jn (⟨bY,bY,bY,bY,bY,bY⟩:bZ))] w',aD (aA eh (aB bL u.hb rfl (aI ey u.p8.eS (aQ (aC (λHK=>?_) λHK=>?_))))),?_⟩
 .refine aS H9 u (H':=λ_=>bM p (dz lv (gd l O 5))) (Φ:=λ_ _=>True) (λG B E=>?_) ?_
  .exact(C106 p lv l O G _ B (λw' hc=>(E w' hc).p7.eS) W hi5).mono λ_ _ r=>r.mono λ_ _ h=>⟨trivial,h.2⟩
  rintro _ _ _ u;have u:=u.p9.p9.p2.p9.p9.p9.p9.p9.p9.p9;have he6:Af l O=gd l O 5:=fh HK;rw[he6];exact u
 .have u:=u.p9.p9.p2.p9.p9.p9.p9.p9.p9.p9;have he6:Af l O=O:=fg HK;rw[he6];exact u
 intro _ u _;refine aD (aA jh (aB gq u.p7.hb rfl (cB (aC (λHL=>?_) λHL=>?_))))
 .refine pop (v:=iS (⟨bY,bY,bY,bY,bY,bY⟩:bZ)) (by kernel_rfl) (aD (aA jh (have u:=u.drew;aB gq u.p7.hb rfl (aD (aA qT (aB bL u.p7.hb rfl (aH (x:=(⟨bY,bY,bY,bY,bY,bY⟩:bZ)) u.p9 fS rfl rfl λ_ u=>?_)))))));refine⟨aX gq (u.p8.hb.cell rfl),?_⟩;refine⟨aX bL (u.p8.hb.cell rfl),?_⟩;refine aE fS u.At ?_;have u:=u.fG (Φ:=(λw=>l3 w (⟨bY,bY,bY,bY,bY,bY⟩:bZ) (⟨[],[],[],[],[],[]⟩:bQ))) (λ_=>⟨_,_,_,_,_,_,rfl,DL.nil _,DL.nil _,DL.nil _,DL.nil _,DL.nil _,DL.nil _⟩);have u:=u.p1.drop.p1.drop.p1.drop.p1.drop.p1.drop.p1.drop.p1.drop.p1.drop.p1.drop
  have u:=u.p1.drop;rw[Y.bad HL];exact⟨_,rfl,u.fresh⟩
 refine aE fS u.p6.At (aH (x:=(⟨J,M,V,v3,v4,v5⟩:bZ)) u.p9 fS rfl rfl λ_ u=>aE fS u.At ?_);have u:=u.p2.se.p3.freeze.p1.gY.p3.freeze.p1.gY.p3.se.p1.gY.p3.se.p1.gY;have u:=u.p2.se.p1.gY.dH (Ψ:=(λw=>l3 w (⟨J,M,V,v3,v4,v5⟩:bZ) (⟨y1,y2.flatten,y3.flatten,y4,y5,y6⟩:bQ))) (λ_ h=>⟨_,_,_,_,_,_,rfl,h.1.1.1.1.1,DL.gG h.1.1.1.1.2,DL.gG h.1.1.1.2,h.1.1.2,h.1.2,h.2⟩);have u:=u.p1.drop.p1.drop.p1.drop.p1.drop;rw[Y.ajm HL];exact⟨_,rfl,u.fresh⟩
theorem Fq{l:List Int}{k:Nat}(u:0<k)(h:k<=l.length):kc (l.take k)=l.getD (k-1) 0+1:=by
 grind[kc]
def JW{f:Int->List jk}{a k:Int}{xs:List jk}{x:jk}(h:x∈pS f a xs k):x∈xs\/x∈f k:=by
 unfold pS at h;grind
def Bp{m:Mem}{c n:Int}(h:xQ m):xQ (fC m c n):=by
 unfold fC
 split
 .rename_i tO
  unfold G6 at tO;rw[decide_eq_true_eq]at tO
  refine⟨h.O7,h.fl,by show(m.l.set _ _).length=_;rw[D5];exact h.ll,h.kl,h.ofr,h.lb,λk x u=>?_⟩
  dsimp only at u
  split at u
  .rename_i hc
   rcases JW u with h1|h1
   .rw[pI]at h1
    rcases h1 with h1|h1
    .exact h.pc _ x h1
    grind
   exact h.pc _ x h1
  exact h.pc _ x u
 exact h
def TH{m:Mem}{c:Int}(h:xQ m):xQ (pC m c):=by
 unfold pC
 split
 .refine⟨h.O7,h.fl,h.ll,by show(sF _ _).length=_;rw[u7];exact h.kl,h.ofr,h.lb,λk x u=>?_⟩
  rcases JW u with h1|h1
  .cases h1
  exact h.pc _ x h1
 exact h
def LK{m:Mem}{cut u:List Int}(h:gw m cut=some u):u.length=m.kept.length:=by
 unfold gw at h;split at h
 .cases h;exact rF _ _ _
 cases h
def LL{m:Mem}{cut u:List Int}(h:xQ m)(hi:gw m cut=some u):xQ (nA m u):=by
 have h1:=LK hi
 have h2:=h.kl;have h3:=h.O7
 refine⟨h.O7,h.fl,?_,?_,h.ofr,h.lb,λk x B=>by cases B⟩
 .show(u++m.dZ.drop u.length).length=m.dZ.length
  rw[kE,List.length_drop];omega
 show u.length=m.of.length;omega
section
variable {t:Ma}
theorem Bq{u:Mem}{x:bE}(h:xQ u):xQ (ke u x)/\(ke u x).of=u.of/\(ke u x).dZ=u.dZ:=by
 unfold ke
 split
 .exact⟨Bp h,Ba _ _ _,oP _ _ _⟩
 split
 .grind
 exact⟨TH h,S4 _ _,EO _ _⟩
end
def MB.mono{u:Mem}{a b:Nat}(h:MB u a)(B:a<=b):MB u b:=λk=>Nat.le_trans (h k) B
def MB.write{u:Mem}{c x:Int}{n:Nat}(h:MB u n):MB (fC u c x) (n+1):=by
 intro k
 unfold fC
 split
 .dsimp only
  split
  .unfold pS
   split
   .rw[kE,nB];have:=h (u.of.getD c.toNat 0);omega
   have:=h k;omega
  have:=h k;omega
 have:=h k;omega
theorem MB.out{u:Mem}{c:Int}{n:Nat}(h:MB u n):MB (pC u c) n:=by
 intro k
 unfold pC
 split
 .dsimp only
  unfold pS
  split
  .simp
  exact h k
 exact h k
theorem MB.ke{u:Mem}{x:bE}{n:Nat}(h:MB u n):MB (ke u x) (n+1):=by
 unfold Go.Proofs.YtdncbeepkacgbaaGreatDoor.ke
 split
 .exact h.write
 split
 .exact h.mono (CT n)
 exact h.out.mono (CT n)
theorem qd:∀(ls:List (List bO)) (i a:Int),0<=a->(∀l∈ls,l≠[])->i<=iE ls i a/\(∀b,a<=b->iE ls i a<=iE ls i b)/\(iE ls i (a+1)=iE ls i a\/iE ls i (a+1)=iE ls i a+1)
 | [],i,a,E,_=>⟨by unfold iE;omega,λb hb=>by unfold iE;omega,by unfold iE;omega⟩
 | l::r,i,a,E,hl=>by
  have G:0<l.length:=List.length_pos_iff.2 (hl l (oi ..))
  have u:=λl B=>hl l (List.mem_cons_of_mem _ B)
  unfold iE
  by_cases h1:a<l.length
  .rw[fh h1]
   refine⟨Jt _,λb hb=>?_,?_⟩
   .split
    .omega
    .have:=(qd r (i+1) (b-l.length) bP u).1;omega
   .split
    .omega
    .have e:a+1-(l.length:Int)=0:=bP
     rw[e]
     cases r with
     | nil=>unfold iE;omega
     | cons O M=>
      simp_all[iE]
  .rw[fg h1]
   obtain⟨I,J,U⟩:=qd r (i+1) (a-l.length) bP u
   grind
section
variable {p:bQ}
theorem rQ(p:bQ):0<=ee p/\ee p<=(jb p).length:=by grind[ee,jb]
theorem Fs{c:Int}(h:0<=c/\c<(jb p).length):po p c=iE p.lines 0 c:=by unfold po;omega
end
section
variable {m:iB}{t:jM}{i:Int}{x:aZ}{p:bQ}
theorem Yv:(eB m t i x).1.l=m.l:=by
 unfold eB rJ qw;grind
theorem Br:(eB m t i x).1.room=m.room:=by
 unfold eB rJ qw;grind
theorem Yw:(eB m t i x).1.p=m.p:=by
 unfold eB rJ qw;grind
theorem Bs:(eB m t i x).2.1.bN=t.bN:=by
 unfold eB pD tC;grind
theorem tK:(eB m t i x).2.1.names=t.names:=by
 unfold eB pD tC;grind
theorem LM{room:Int}{l:List bE}{y:bE}:(sE room l y).length<=l.length\/((sE room l y).length:Int)<=room:=by
 grind[sE]
theorem JX{φ:aZ->Prop}(h:oQ φ t)(B:m.room<=16):oQ φ (eB m t i x).2.1:=by
 have h1:=h.p;have h2:=h.rl;have h3:=h.nb;have h4:=h.bl;have h5:=h.cl
 have u:∀y,oQ φ (tC m t y):=λy=>by
  have h6:=LM (room:=m.room) (l:=t.buf) (y:=y)
  exact⟨h1,h2,h3,by show(sE m.room t.buf y).length<=1000;omega,h5⟩
 unfold eB;repeat' split
 all_goals first
  | exact h
  | exact h.set _ _
  | exact u _
theorem QD(h:xQ m.mem):xQ (eB m t i x).1.mem/\(eB m t i x).1.mem.of=m.mem.of/\(eB m t i x).1.mem.dZ=m.mem.dZ:=by
 unfold eB rJ qw;repeat' split
 all_goals first
  | exact⟨h,rfl,rfl⟩
  | exact⟨Bp h,Ba _ _ _,oP _ _ _⟩
theorem TI{n:Nat}(h:MB m.mem n):MB (eB m t i x).1.mem (n+1):=by
 unfold eB rJ qw;repeat' split
 all_goals first
  | exact h.mono (CT n)
  | exact h.write
theorem TJ:(eB m t i x).1.fb.length=m.fb.length:=by
 unfold eB rJ qw;grind
theorem JY{φ:aZ->Prop}(h:oQ φ t):oQ φ {t with bN:=gU t.bN}:=by
 refine h.bN h.p.pop ?_
 match hp:t.bN with
 | []=>exact om _
 | (.nil,_)::q=>grind[fq,gU]
 | (.cons y a b r,e)::q=>have:=Hb (p:=(.cons y a b r,e)::q) rfl;omega
theorem Ft{cs ls:List ByteArray}(h:wk cs ls t):Pu (Xc t):=λu=>Jk _ (pE h).1 h u
theorem LN(u:nU m)(ht:t∈m.l):wk (cX m.p) (cS m.p) (tD m t i x)/\Pu (tD m t i x)/\(tD m t i x).names=t.names:=by
 have h1:oQ (Vw (cX m.p) (cS m.p) t.names) { (eB m t i x).2.1 with bN:=gU (eB m t i x).2.1.bN}:=JY (JX (u.th t ht) u.rm.2)
 have h2:wk (cX m.p) (cS m.p) { (eB m t i x).2.1 with bN:=gU (eB m t i x).2.1.bN}:=by
  show oQ (Vw _ _ (eB m t i x).2.1.names) _
  rw[tK];exact h1
 exact⟨(pE h2).2.1,Ft h2,(pE h2).2.2.trans tK⟩
theorem vp{β:Type}{l:List β}{k:Nat}{a y:β}(h:y∈l.set k a):y=a\/y∈l:=(List.mem_or_eq_of_mem_set h).symm
theorem QE(u:nU m):nU (iZ m i).1/\(iZ m i).1.p=m.p/\(∀n,MB m.mem n->MB (iZ m i).1.mem (n+1))/\(iZ m i).1.l.length=m.l.length:=by
 unfold iZ
 split
 .exact⟨u,rfl,λn h=>h.mono (CT n),rfl⟩
 rename_i t ht
 have G:=l0 ht
 split
 .exact⟨⟨u.mem,u.th,u.tl,u.ow,u.rm,u.st,u.pz⟩,rfl,λn h=>h.mono (CT n),rfl⟩
 split
 .exact⟨u,rfl,λn h=>h.mono (CT n),rfl⟩
 rename_i x _ _ _
 split
 .exact⟨⟨u.mem,u.th,u.tl,u.ow,u.rm,u.st,u.pz⟩,rfl,λn h=>h.mono (CT n),rfl⟩
 obtain⟨I,J,_⟩:=LN (i:=i) (x:=x) u G
 have E:=Yw (m:=m) (t:=t) (i:=i) (x:=x)
 refine⟨⟨(QD u.mem).1,λy B=>?_,by show(m.l.set _ _).length<=_;rw[D5];exact u.tl,?_,by show 1<=(eB m t i x).1.room/\_;rw[Br];exact u.rm,λy B=>?_,?_⟩,E,λn h=>TI h,D5⟩
 .show wk (cX (eB m t i x).1.p) (cS (eB m t i x).1.p) y
  rw[E]
  rcases vp B with rfl|B
  .exact I
  exact u.th y B
 .show(eB m t i x).1.fb.length=(cS (eB m t i x).1.p).length
  rw[TJ,E];exact u.ow
 .rcases vp B with rfl|B
  .exact J
  exact u.st y B
 show PZ (eB m t i x).1.p;rw[E];exact u.pz
theorem HM{l:List bE}{i:Int}:(ky l i).length<=l.length:=by
 grind[ky]
theorem TK{q:bG}(u:nU m)(ht:m.l[q.t.toNat]?=some t):nU (xB m t q)/\(∀n,MB m.mem n->MB (xB m t q).mem (n+1)):=by
 have E:=l0 ht
 have h1:=u.th t E
 refine⟨⟨(Bq u.mem).1,λy B=>?_,by show(m.l.set _ _).length<=_;rw[D5];exact u.tl,u.ow,u.rm,λy B=>?_,u.pz⟩,λn h=>h.ke⟩
 .rcases vp B with rfl|B
  .have:=HM (l:=t.buf) (i:=q.i)
   exact⟨h1.p,h1.rl,h1.nb,by show(ky t.buf q.i).length<=1000;have:=h1.bl;omega,h1.cl⟩
  exact u.th y B
 rcases vp B with rfl|B
 .exact u.st t E
 exact u.st y B
structure LO(p:bQ):Prop where
 f:PF p
 big:sC p=false
 w:∀t∈g9 p,og t.body=false
 tw:jo (hG p)=false
 u:∀t∈g9 p,∀x∈t.body,qp p t.dJ x=false
theorem JZ(h:eI p=0):LO p:=by
 unfold eI at h
 split at h
 .cases h
 rename_i h1
 split at h
 .cases h
 rename_i h2
 split at h
 .cases h
 rename_i h3
 split at h
 .cases h
 rename_i h4
 split at h
 .cases h
 rename_i h5
 split at h
 .cases h
 rename_i h6
 simp only[Bool.not_eq_true,E7]at h2 h3 h4 h6
 exact⟨oe cR,h2,λt ht=>cR,h4,λt ht x u=>cR⟩
theorem CP:∀(b:Bk) (n:Int),b.ok n=true->∀x∈b.flat,x.eG<=0\/x.kind=11
 | .nil,_,_,_,h=>by cases h
 | .cons y a b r,n,h,x,u=>by
  unfold Bk.ok at h
  simp only[nu]at h
  obtain⟨⟨⟨h1,h2⟩,h3⟩,h4⟩:=h
  unfold Bk.flat at u
  rcases List.mem_cons.1 u with rfl|u
  .unfold Bk.FH at h1;grind
  .rcases pI.1 u with u|u
   .exact CP a _ h2 x u
   .rcases pI.1 u with u|u
    .exact CP b _ h3 x u
    .exact CP r _ h4 x u
theorem zK{l:List bI}(h:fJ l=true):l.length<=40:=by
 unfold fJ at h
 grind
theorem Bt{l:List bI}(h:fJ l=true):∀y∈l,y.name.size<=1000:=λy B=>by
 have u:xq y=false:=by
  unfold fJ at h
  grind
 unfold xq fw at u
 by_cases h2:y.op=2
 .grind
 .have:y.name=⟨#[]⟩:=cR
  rw[this];decide
theorem Yx(hc:LO p){t:bW}(ht:t∈g9 p){x:aZ}(O:x∈t.body)(G:oc x=true)(Y:x.eG<=0\/x.kind=11):Vw (cX p) (cS p) t.dJ x:=by
 have E:=hc.u t ht x O
 have hq:=GI G
 have u:=vV G
 unfold qp at E
 simp only[FB,Bool.and_eq_false_iff,decide_eq_false_iff_not,BL]at E
 obtain⟨⟨⟨⟨⟨B,W⟩,Z⟩,U⟩,_⟩,_⟩:=E
 have J:x.e.length<=1000:=by
  rcases u.e with h|h
  .have:=zK h.2;omega
  grind
 have I:x.f.length<=1000:=by
  rcases u.f with h|h
  .have:=zK h.2;omega
  grind
 refine⟨u.kind,⟨J,I⟩,λh=>bP,λh=>bP,λh=>?_,λh=>bP,λh=>bP,?_,?_⟩
 rotate_left
 .rcases u.e with h|h
  .exact Bt h.2
  grind
 .rcases u.f with h|h
  .exact Bt h.2
  grind
 rcases B with B|B
 .exfalso
  have M:=u.eO
  rcases M with⟨_,h2⟩|⟨h1,_⟩
  .rw[B,EL]at h2;cases h2
  have V:=u.kind
  rcases h with h|h|h<;>rw[h]at h1<;>exact absurd h1 ea
 omega
theorem pH:∀(b:Bk) (n:Int),1<=n->n<=64->kV b n=false->(∀x∈b.flat,x.kind=12->1<=x.n)->n.toNat*iY b<=128*b.len
 | .nil,n,_,_,_,_=>by simp[iY]
 | .cons y a b r,n,h1,h2,hw,G=>by
  rw[pU]at hw
  simp only[FB,decide_eq_false_iff_not]at hw
  obtain⟨⟨M,u,J⟩,Z⟩:=hw
  have O:∀x∈a.flat,x.kind=12->1<=x.n:=λx E=>G x (by unfold Bk.flat;simp[E])
  have qb:∀x∈b.flat,x.kind=12->1<=x.n:=λx E=>G x (by unfold Bk.flat;simp[E])
  have Y:∀x∈r.flat,x.kind=12->1<=x.n:=λx E=>G x (by unfold Bk.flat;simp[E])
  have ir:=pH r n h1 h2 Z Y
  rw[pX]
  unfold Bk.len
  obtain⟨k,rfl⟩:=H4 (show 0<=n by omega)
  rw[qG]at ir |-
  by_cases B:y.kind=12
  .rw[fh B]
   have U:=G y (by unfold Bk.flat;grind) B
   unfold pq at M u
   rw[fh B]at M u
   obtain⟨j,V⟩:=H4 (show 0<=y.n by omega)
   rw[V]at M u U
   rw[V,qG]
   have I:(1:Int)<=(k:Int)*(j:Int):=by
    have:=Int.mul_le_mul (a:=1) (b:=1) (c:=(k:Int)) (d:=(j:Int)) h1 U bP bP
    omega
   have W:=pH a _ I bP u O
   grind
  .rw[fg B]
   unfold pq at u J
   rw[fg B]at u J
   have W:=pH a k h1 h2 u O
   have ib:=pH b k h1 h2 J qb
   grind
theorem Fu{b:Bk}(h:b.str):Tl b.flat=b:=by unfold Tl;rw[mU h];rfl
theorem CQ(hc:LO p){t:bW}(ht:t∈g9 p):wk (cX p) (cS p) (Ad t):=by
 obtain⟨_,h2,_⟩:=hc.f.sj ht
 obtain⟨h3,h4,b,h5,h6,O,_⟩:=me h2
 have hb:Tl t.body=b:=by rw[h5];exact Fu h6
 have J:xz (Vw (cX p) (cS p) t.dJ) b:=(Lj b).2 λx u=>by
  rw[<- h5]at u
  exact Yx hc ht u (h4 x u) (CP b 0 O x cR)
 have U:Bb (Vw (cX p) (cS p) t.dJ) []:=⟨λ_ h=>(by cases h),λ_ h=>(by cases h),λ_ h=>(by cases h)⟩
 have G:=hc.w t ht
 rw[h5,yX h6]at G
 have E:=pH b 1 bP bP G λx u M=>(((GI (h4 x cR)).2 M).1)
 have V:b.len<=40:=by rw[<- Bk.cM,<- h5];exact h3
 have I:t.dJ.length<=4:=by
  have B:=hc.big
  unfold sC at B
  grind
 refine⟨?_,by simp[Ad],by show t.dJ.length<=1000;omega,by simp[Ad],?_⟩
 .show Bb _ (jC (Tl t.body) false [])
  rw[hb];exact U.push h6 J
 show fq (jC (Tl t.body) false [])<=10000
 rw[hb,nF]
 grind[iY,fq]
theorem QF:wk (cX p) (cS p) (Ad ⟨⟨#[]⟩,[],[],0⟩):=by
 refine⟨⟨λ_ h=>(by cases h),λ_ h=>(by cases h),λ_ h=>(by cases h)⟩,rfl,(by decide:(0:Nat)<=1000),(by decide:(0:Nat)<=1000),(by decide:(0:Nat)<=10000)⟩
theorem Bu{l:List bW}(I:xQ m.mem)(E:1<=m.room/\m.room<=16)(G:PZ m.p)(J:l.length<=1000)(h:∀t∈l,wk (cX m.p) (cS m.p) (Ad t)):nU (tG m l):=by
 refine⟨I,λt ht=>?_,by show(l.map Zw).length<=1000;rw[nP];exact J,by show(oI _ _).length=_;rw[xr];rfl,E,λt ht=>?_,G⟩
 .obtain⟨u,B,rfl⟩:=n0.1 ht
  exact(pE (h u B)).2.1
 obtain⟨u,B,rfl⟩:=n0.1 ht
 exact Ft (h u B)
theorem J0(hc:LO m.p):(wm m).length<=1/\∀t∈wm m,wk (cX m.p) (cS m.p) (Ad t):=by
 unfold wm
 split
 .exact⟨om _,λt ht=>by rw[List.mem_singleton.1 ht];exact QF⟩
 exact⟨hc.f.one,λt ht=>CQ hc (List.mem_append_right _ ht)⟩
theorem CS{k:Nat}{x:bG}(h:x∈gy m k):∃i t,i<k/\m.l[i]?=some t/\x∈ou m i t:=by
 unfold gy at h
 grind
theorem HN{i:Nat}{t:jM}{x:bG}(h:x∈ou m i t):x.t=i/\x.cut=[]/\((x.kind=1/\xA m t=true/\x.i=0)\/(x.kind=2/\x.i∈qq t.buf)):=by
 unfold ou at h
 grind
theorem ajA{q:bG}(h:(kf m).any (qu q)=true):m.fault=0/\0<=q.t/\q.cut.length=0/\∃t,m.l[q.t.toNat]?=some t/\((q.kind=1/\xA m t=true)\/(q.kind=2/\q.i∈qq t.buf)):=by
 rw[List.any_eq_true]at h
 obtain⟨x,B,u⟩:=h
 unfold kf at B
 split at B
 .cases B
 rename_i hf
 obtain⟨i,t,_,ht,E⟩:=CS B
 obtain⟨h1,_,h2⟩:=HN E
 unfold qu at u
 simp only[nu,decide_eq_true_eq]at u
 have e:q.t=(i:Int):=bP
 refine⟨bP,bP,u.2,t,by rw[e];exact ht,?_⟩
 rcases h2 with⟨a,b,_⟩|⟨a,b⟩
 .exact .inl ⟨bP,b⟩
 exact .inr ⟨bP,by rw[<- u.1.2];exact b⟩
theorem QG(h:xA m t=true):∃x a b,qH t.bN=some (x,a,b):=by
 unfold xA at h
 grind
theorem Yz{q:bG}(u:nU m)(hc:LO m.p):nU (vf m q).1/\(vf m q).1.p=m.p/\(∀n,MB m.mem n->MB (vf m q).1.mem (n+1)):=by
 unfold vf
 cases hi:ld m q with
 | some G=>
  have B:gw m.mem q.cut=some G:=by unfold ld at hi;grind
  obtain⟨I,E⟩:=J0 hc
  refine⟨Bu (LL u.mem B) u.rm u.pz bP E,rfl,λn h k=>?_⟩
  show([]:List jk).length<=_
  grind
 | none=>
  dsimp only
  split
  .split
   .split
    .rename_i t ht
     obtain⟨h1,h2⟩:=TK u ht
     exact⟨h1,rfl,h2⟩
    .exact⟨u,rfl,λn h=>h.mono (CT n)⟩
   .obtain⟨h1,h2,h3,_⟩:=QE (i:=q.t) u
    grind
  .exact⟨u,rfl,λn h=>h.mono (CT n)⟩
theorem HO{i:Nat}(h:i<(cX p).length):(xU p)[i]?=some (po p i):=by grind[xU,po]
theorem zL(p:bQ):(cX p).length=(jb p).length:=by unfold cX;grind
theorem VH(hc:LO p):(jb p).length<=20:=by
 have hb:=hc.big
 unfold sC at hb
 simp only[FB,E7,decide_eq_false_iff_not,decide_eq_true_eq]at hb
 obtain⟨⟨h1,_⟩,⟨⟨⟨⟨h2,h3⟩,_⟩,_⟩,_⟩,_⟩:=hb
 have h4:∀ls:List (List bO),(∀l∈ls,¬ 4<(l.length:Int))->ls.flatten.length<=4*ls.length:=by
  intro ls
  induction ls with
  | nil=>grind
  | cons l r u=>
   grind
 grind[jb]
theorem QH(hc:LO p){k:Nat}{n:Int}(I:(k:Int)<ee p)(E:(xU p)[k]?=some n):(n=uY (xU p) k\/(0<k/\n=uY (xU p) k-1))/\0<=n/\n<=k:=by
 have O:=rQ p
 have W:=zL p
 have B:∀l∈p.lines,l≠[]:=λl G=>(hc.f.lines l G).1
 have J:∀j:Nat,(j:Int)<ee p->(xU p)[j]?=some (iE p.lines 0 j):=λj V=>by rw[HO bP,Fs bP]
 rw[J k I]at E;cases E
 have u:∀j:Nat,iE p.lines 0 j<=j:=by
  intro j
  induction j with
  | zero=>
   cases G:p.lines with
   | nil=>unfold iE;omega
   | cons l r=>
    grind[iE]
  | succ j M=>
   have:=(qd p.lines 0 (j:Int) bP B).2.2
   grind
 refine⟨?_,(qd p.lines 0 (k:Int) bP B).1,u k⟩
 cases k with
 | zero=>
  left
  have:=u 0
  have:=(qd p.lines 0 ((0:Nat):Int) bP B).1
  show _=0
  omega
 | succ k=>
  have h3:=(qd p.lines 0 (k:Int) bP B).2.2
  have e:((k+1:Nat):Int)=(k:Int)+1:=bP
  have U:uY (xU p) (k+1)=iE p.lines 0 (k:Int)+1:=by
   unfold uY;grind
  grind
theorem QI(hc:LO p):xQ (Pf (xU p) (ee p) (fM p)):=by
 have Y:=rQ p
 have W:=zL p
 have Z:=VH hc
 have M:∀l∈p.lines,l≠[]:=λl B=>(hc.f.lines l B).1
 have U:(xU p).length=(jb p).length:=by grind[xU,jb]
 have V:(fM p).length=(jb p).length:=by unfold fM;grind
 have B:((xU p).take (ee p).toNat).length=(ee p).toNat:=cR
 have G:∀j:Nat,(j:Int)<ee p->(xU p)[j]?=some (iE p.lines 0 j):=λj hj=>by rw[HO bP,Fs bP]
 have u:0<(ee p).toNat->kc ((xU p).take (ee p).toNat)=iE p.lines 0 ((ee p).toNat-1:Nat)+1:=λE=>by
  rw[Fq E bP,o4,G _ bP];rfl
 refine⟨?_,?_,rfl,?_,λn J=>?_,?_,λk x O=>by cases O⟩
 .show((xU p).take (ee p).toNat).length<=(fM p).length;omega
 .show(fM p).length<=20;omega
 .show((fM p).take (ee p).toNat).length=((xU p).take (ee p).toNat).length;grind
 .obtain⟨i,hi⟩:=List.mem_iff_getElem?.1 (show n∈(xU p).take (ee p).toNat from J)
  have I:=(j0.1 hi).1
  rw[B]at I
  rw[List.getElem?_take,fh I,G i bP]at hi
  cases hi
  show 0<=_/\_<kc ((xU p).take (ee p).toNat)
  rw[u bP]
  have h3:=qd p.lines 0 (i:Int) bP M
  grind
 show kc ((xU p).take (ee p).toNat)<=20
 by_cases E:(ee p).toNat=0
 .rw[E,List.take_zero];decide
 rw[u bP]
 have:=(QH hc (k:=(ee p).toNat-1) bP (G _ bP)).2.2
 omega
theorem TL(u:PZ p)(hc:LO p){room:Int}(B:1<=room/\room<=16):nU (jc p room):=by
 refine Bu (m:=zx p room) (QI hc) B u (by have:=u.threads;omega) λt ht=>CQ hc (List.mem_append_left _ ht)
end
def hdC(g:Int->Nat)(u B:Nat)(x:aZ):Nat:=
 if x.kind=11 then g 12+max (u+(if 0<x.eG then g 11 else 0)) B
 else if x.kind=12 then g 13+x.n.toNat*(u+g 14)
 else if x.kind=13 then g 11 else g (if x.kind=14 then 15 else x.kind)
def QJ(g:Int->Nat):Bk->Nat
 | .nil=>0
 | .cons x a b r=>hdC g (QJ g a) (QJ g b) x+QJ g r
def ad8(x:aZ)(a b r:Bk)(at_:Int):Int:=at_+(sR (.cons x a b r)-sR r)
def W(g:Int->Nat):Bk->Int->Int->List Int->Int->Nat->Nat->Option Nat
 | .nil,at_,_,_,pos,u,_=>if pos=at_ then some u else none
 | .cons x a b r,at_,lp,cs,pos,u,B=>
  if ad8 x a b r at_<=pos then W g r (ad8 x a b r at_) lp cs pos u B
  else if pos=at_ then(if x.kind=13 then some (g 11+B)else some (hdC g (QJ g a) (QJ g b) x+(QJ g r+u)))
  else if x.kind=11 then(if pos<toT x a at_ then W g a (at_+1) lp cs pos ((if 0<x.eG then g 11 else 0)+(QJ g r+u)) B else W g b (toT x a at_) lp cs pos (QJ g r+u) B)
  else if x.kind=12 then(if 1<=cs.getD lp.toNat 0/\cs.getD lp.toNat 0<=8 then W g a (at_+1) (lp+1) cs pos (g 14+((cs.getD lp.toNat 0).toNat-1)*(QJ g a+g 14)+(QJ g r+u)) (QJ g r+u)else none)
  else none
def TM{x y:bG}:x=y↔x.kind=y.kind/\x.t=y.t/\x.i=y.i/\x.cut=y.cut:=by
 cases x;cases y;simp
def Ex.val(ns:List ByteArray)(u:List Int):Ex->Int×Int
 | .leaf x=>(if x.op=2 then u.getD (cT ns x.name).toNat 0 else x.n,0)
 | .un x a=>if (a.val ns u).2=0 then(vL x.op (a.val ns u).1,0)else(0,(a.val ns u).2)
 | .bin x a b=>if (a.val ns u).2=0 then(if (b.val ns u).2=0 then(l7 x.op (a.val ns u).1 (b.val ns u).1,l6 x.op (b.val ns u).1)else(0,(b.val ns u).2))else(0,(a.val ns u).2)
def C86(K:hU)(p:Nat)(m:iB)(i:Int)(t:jM)(F:Nat->Prop)(w:World)(hF:(fi K p m).p w F)(V:∀w',fD F w w'->K w')(Z:nU m)(FQ:MB m.mem 1000000)(h0:0<=i)(ht:m.l[i.toNat]?=some t)(ajB:t.fault=0->∃x a b,qH t.bN=some (x,a,b)) :
   CR 86 [.pointer (some ⟨p,0,none⟩),hZ i] w (λv w'=>v=iS (iZ m i).2/\mC F (fi K p (iZ m i).1) w w'):=by
 have u:=St.begin hF;have Jn:=l0 ht;have U:=Z.th t Jn;have kH:=(j0.1 ht).1;have mI:=xR U.p;have OV:=U.cl;have L4:=U.bl;have hnb:=U.nb;have Po:=U.rl;have how:=Z.ow;have aiN:(cS m.p).length<=500:=by unfold cS;rw[nP];exact Z.pz.eV
 have hcll:(cX m.p).length<=250500:=GJ Z.pz.toPS;refine Xp _ _ _ _ ?_;unfold S86;refine aK u qP (λb4 _ u=>?_);have u:=(u.enc (cs':=jn (⟨0,0,0,0,0⟩:cQ)) rfl).p1;obtain⟨a,hu,u⟩:=fi.open u;have vq:=u.p4.jj;refine aD (aA m4 (aB uo u.hb rfl ?_));obtain⟨e,he⟩:=gx a.ps (i:=i.toNat) bP;refine aY wL u.p3.eS h0 he (λq hq=>aE AG hq ?_);have u:=Pt u.p4 he ht;obtain⟨O,nv,rg,pl,es,W,u⟩:=dM.open u;refine aD (aA qR (aB bL u.hb rfl (cB (aC (λc=>?_) λc=>?_))))
 .have hse:iZ m i=({m with fault:=t.fault,kZ:=i},⟨16,i,t.fault,0,0⟩):=by unfold iZ;rw[ht];dsimp only;rw[fh c]
  refine aD (aA qR (aB bL u.hb rfl ?_));have u:=dM.shut (Φ:=λ_=>True) (t:=t) W u.p4.p4.p4.p4.p4;have u:=St.IB (H:=sI K m.room) (x:=t) u.p1.p1 bP vq he;rw[mL ht]at u;have u:=fi.shut (m:=m) hu u.p4.p4.p4.p4;refine aS Vz u (H':=λ_=>fi K p {m with fault:=t.fault,kZ:=i}) (Φ:=λv _=>v=iS (⟨16,i,t.fault,0,0⟩:cQ)) (λE B I=>?_) ?_
  .exact C161 K p m i t.fault E _ B
  rintro _ _ rfl u;refine aH (x:=(⟨16,i,t.fault,0,0⟩:cQ)) u.p1 iC rfl rfl (λ_ u=>aE iC u.At ?_);rw[hse];exact⟨rfl,u.drop.mut⟩
 have hf0:t.fault=0:=bP
 refine dW Pm (C127 K e.b t O nv rg pl es _ _ u.hb u.p3.eS u.p4.eH.1 (λ_ e=>V _ (u.aF.then e)) U.p bP) ?_;rintro v _ ⟨hex,hv⟩;have u:=u.ext hex
 rcases hv with⟨ej,_⟩|⟨x,xa,xb,xv,av,bv,ra,rb,Pp,rfl,CY,_⟩
 .obtain⟨_,_,_,h⟩:=ajB hf0;rw[ej]at h;cases h
 obtain⟨ge,gf,rfl,_,_⟩:=kY (CY _ (V _ u.aF))
 have Xm:∀w,K w->dy (λ_=>True) w (iS ge) x.e/\dy (λ_=>True) w (iS gf) x.f:=λw hw=>by
  obtain⟨_,_,h4,h5,h6⟩:=kY (CY w hw);cases h4
  exact⟨h5,h6⟩
 obtain⟨⟨Rk,IQ⟩,hv1,hv2⟩:=Z.st t Jn hf0 _ _ _ Pp;obtain⟨hx,_,_,_,_,_,_,_,r,en,p',xl,sr,ar⟩:=U.top Pp;have gi:(Bk.cons x xa xb r).str:=U.p.st _ (by rw[xl];exact oi ..);have hxe:=hx.e;have ht1:{t with fault:=if (et t x.e).2=true then t.fault else 2}=t:=by rw[hv1];rfl
 refine aJ rfl (aJ rfl (aJ rfl (aJ rfl (have u:=dM.shut (Φ:=λ_=>True) (t:=t) W u.p4.p4.p4.p4.p4;aK u jw λb6 _ u=>aH (x:=(⟨x.kind,x.eO,x.name,ge,gf,x.n,x.body,x.eG,x.at_⟩:aT)) u ek rfl rfl λ_ u=>have u:=u.drew;aD (aA yo (aB lT u.p3.hb rfl (aA jS (aB (v:=.string x.name) jZ u.hb rfl (aD (aA yp ?_))))))))));refine aB lT u.p3.hb rfl (aA jS (aB (v:=.string x.name) jZ u.hb rfl (aR AX u (C146 _ (cX m.p) x.name _ (hu.cs _ (V _ u.aF)) bP) λ_ he2 u=>?_)));refine⟨aX lT (u.p3.hb.cell rfl),?_⟩
 refine⟨aX jZ (u.hb.cell rfl),?_⟩;refine aR AX u (C146 _ (cS m.p) x.name _ (hu.ks _ (V _ u.aF)) bP) (λ_ he2 u=>aD (aA uq (Iw a.pv fS u.p3.hb rfl (aR ab9 u (C53 m.p a.pv _ _ (hu.pr _ (V _ u.aF)) Z.pz) λ_ he2 u=>aK u qP λb13 _ u=>?_))));have u:=jz.shut (m:=m) (⟨hu,he,vq,bP⟩) ((((((u.enc (cs':=jn (⟨0,0,0,0,0⟩:cQ)) rfl).p3).p7).p7).p7).p7);obtain⟨c,hc⟩:∃c,c=gk m x:=⟨_,rfl⟩;obtain⟨lk,hlk⟩:∃lk,lk=gV m x:=⟨_,rfl⟩;obtain⟨ln,Ou⟩:∃ln,ln=ix m x:=⟨_,rfl⟩;have u:=u.p3.p4.p4.p4;have VI:iZ m i=(if x.kind=10/\m.fb.getD (gV m x).toNat 0≠i then({m with fault:=3,kZ:=i},⟨16,i,3,0,0⟩)else({ (eB m t i x).1 with l:=m.l.set i.toNat (tD m t i x)},{ (eB m t i x).2.2 with t:=i})):=by unfold iZ;rw[ht];dsimp only;rw[fg bP,Pp]
 refine⟨λw'=>¬ (x.kind=10/\m.fb.getD (gV m x).toNat 0≠i)/\St w F [bM b13 (jn ((eB m t i x).2.2)),bM b6 (jn (⟨x.kind,x.eO,x.name,ge,gf,x.n,x.body,x.eG,x.at_⟩:aT)),bM b4 (jn (⟨0,0,0,0,0⟩:cQ)),mQ K e.b m.room (eB m t i x).2.1,jz K p (eB m t i x).1 i.toNat e] w',?_,?_⟩
 .refine aA ft (aB (v:=hZ x.kind) bL u.p1.hb rfl (aG (aC (λY=>?_) λY=>?_)))
  .have G:(eB m t i x)=(m,pD t x.eO (lJ m t (gk m x)),CC m t x):=by unfold eB;rw[fh Y]
   have J:¬ (x.kind=10/\m.fb.getD (gV m x).toNat 0≠i):=bP
   refine aE ek u.p1.At (have u:=St.join u.p4.p4;aS ac0 u (H':=λ_=>sep (mQ K e.b m.room (pD t x.eO (lJ m t (gk m x)))) (jz K p m i.toNat e)) (Φ:=λv _=>v=iS (CC m t x)) (λE B I=>?_) ?_)
   .exact C162 K p m i.toNat e t x ⟨x.kind,x.eO,x.name,ge,gf,x.n,x.body,x.eG,x.at_⟩ E (gk m x) _ B (λw' hc=>V w' (I w' hc).aF) U Z.mem CY (hx.rg bP)
   rintro _ _ rfl u;have u:=u.split;refine aH (x:=(CC m t x:cQ)) u.p2 iC rfl rfl (λ_ u=>?_);have u:=u.p2.p2.p4.p4.p4;rw[G];exact⟨J,u⟩
  refine aG (aC (λk3=>?_) λk3=>?_)
  .have G:(eB m t i x)=(m,tC m t ⟨3,ix m x,gk m x,(et t x.e).1⟩,⟨3,0,gk m x,(et t x.e).1,0⟩):=by unfold eB;rw[fg Y,fh k3]
   have J:¬ (x.kind=10/\m.fb.getD (gV m x).toNat 0≠i):=bP
   refine aA kM (aB (v:=iS ge) lF u.p1.hb rfl (have u:=u.p3;aS EU u (H':=λ_=>mQ K e.b m.room t) (Φ:=λv _=>v=.tuple #[hZ (et t x.e).1,.bool (et t x.e).2]) (λE B I=>?_) ?_))
   .have:=C163 K _ e.b m.room t E _ x.e _ B (λw' hc=>V w' (I w' hc).aF) (Xm _ (V _ u.aF)).1 bP bP;rw[ht1]at this;exact this
   rintro _ _ rfl u;refine aJ rfl (aJ rfl ?_);obtain⟨O,nv,rg,pl,es,W,u⟩:=dM.open u;refine aD (aA kK (aB um u.hb rfl (pop (zq 3 (ix m x) (gk m x) (et t x.e).1) (have u:=u.p1;aS Ie u (H':=λ_=>kW O m.room (sE m.room t.buf (⟨3,ix m x,gk m x,(et t x.e).1⟩:bE))) (Φ:=λ_ _=>True) (λE B I=>?_) ?_))))
   .exact(C164 O m.room t.buf (⟨3,ix m x,gk m x,(et t x.e).1⟩:bE) E _ B bP).mono λ_ _ r=>r.mono λ_ _ h=>⟨trivial,h.2⟩
   rintro _ _ _ u;refine pop (qZ 3 (gk m x) (et t x.e).1) (have u:=dM.shut (Φ:=λ_=>True) (t:=tC m t (⟨3,ix m x,gk m x,(et t x.e).1⟩:bE)) W u.p4.p4.p4.p3.p4;aH (x:=(⟨3,0,gk m x,(et t x.e).1,0⟩:cQ)) u.p1 iC rfl rfl λw14' u=>?_);have u:=u.p4.p2.p4.p4.p4;rw[G];exact⟨J,u⟩
  refine aG (aC (λk5=>?_) λk5=>?_)
  .have G:(eB m t i x)=(m,tC m t ⟨5,ix m x,0,0⟩,⟨4,0,ix m x,0,0⟩):=by unfold eB;rw[fg Y,fg k3,fh k5]
   have J:¬ (x.kind=10/\m.fb.getD (gV m x).toNat 0≠i):=bP
   have u:=u.p3;obtain⟨O,nv,rg,pl,es,W,u⟩:=dM.open u;refine aD (aA kK (aB um u.hb rfl (pop (yy 5 (ix m x)) (have u:=u.p1;aS Ie u (H':=λ_=>kW O m.room (sE m.room t.buf (⟨5,ix m x,0,0⟩:bE))) (Φ:=λ_ _=>True) (λE B I=>?_) ?_))))
   .exact(C164 O m.room t.buf (⟨5,ix m x,0,0⟩:bE) E _ B bP).mono λ_ _ r=>r.mono λ_ _ h=>⟨trivial,h.2⟩
   rintro _ _ _ u;refine pop (sc 4 (ix m x)) (have u:=dM.shut (Φ:=λ_=>True) (t:=tC m t (⟨5,ix m x,0,0⟩:bE)) W u.p4.p4.p4.p3.p4;aH (x:=(⟨4,0,ix m x,0,0⟩:cQ)) u.p1 iC rfl rfl λw16' u=>?_);have u:=u.p4.p2.p4.p4.p4;rw[G];exact⟨J,u⟩
  refine aG (aC (λk6=>?_) λk6=>?_)
  .have G:(eB m t i x)=(m,tC m t ⟨6,ix m x,0,0⟩,⟨5,0,ix m x,0,0⟩):=by unfold eB;rw[fg Y,fg k3,fg k5,fh k6]
   have J:¬ (x.kind=10/\m.fb.getD (gV m x).toNat 0≠i):=bP
   have u:=u.p3;obtain⟨O,nv,rg,pl,es,W,u⟩:=dM.open u;refine aD (aA kK (aB um u.hb rfl (pop (yy 6 (ix m x)) (have u:=u.p1;aS Ie u (H':=λ_=>kW O m.room (sE m.room t.buf (⟨6,ix m x,0,0⟩:bE))) (Φ:=λ_ _=>True) (λE B I=>?_) ?_))))
   .exact(C164 O m.room t.buf (⟨6,ix m x,0,0⟩:bE) E _ B bP).mono λ_ _ r=>r.mono λ_ _ h=>⟨trivial,h.2⟩
   rintro _ _ _ u;refine pop (sc 5 (ix m x)) (have u:=dM.shut (Φ:=λ_=>True) (t:=tC m t (⟨6,ix m x,0,0⟩:bE)) W u.p4.p4.p4.p3.p4;aH (x:=(⟨5,0,ix m x,0,0⟩:cQ)) u.p1 iC rfl rfl λw18' u=>?_);have u:=u.p4.p2.p4.p4.p4;rw[G];exact⟨J,u⟩
  refine aG (aC (λk7=>?_) λk7=>?_)
  .have G:(eB m t i x)=(m,tC m t ⟨7,0,0,0⟩,⟨6,0,0,0,0⟩):=by unfold eB;rw[fg Y,fg k3,fg k5,fg k6,fh k7]
   have J:¬ (x.kind=10/\m.fb.getD (gV m x).toNat 0≠i):=bP
   have u:=u.p3;obtain⟨O,nv,rg,pl,es,W,u⟩:=dM.open u;refine aD (aA kK (aB um u.hb rfl (pop (yx 7) (have u:=u.p1;aS Ie u (H':=λ_=>kW O m.room (sE m.room t.buf (⟨7,0,0,0⟩:bE))) (Φ:=λ_ _=>True) (λE B I=>?_) ?_))))
   .exact(C164 O m.room t.buf (⟨7,0,0,0⟩:bE) E _ B bP).mono λ_ _ r=>r.mono λ_ _ h=>⟨trivial,h.2⟩
   rintro _ _ _ u;refine pop (Iv 6) (have u:=dM.shut (Φ:=λ_=>True) (t:=tC m t (⟨7,0,0,0⟩:bE)) W u.p4.p4.p4.p3.p4;aH (x:=(⟨6,0,0,0,0⟩:cQ)) u.p1 iC rfl rfl λw20' u=>?_);have u:=u.p4.p2.p4.p4.p4;rw[G];exact⟨J,u⟩
  refine aG (aC (λk8=>?_) λk8=>?_)
  .have G:(eB m t i x)=(m,t,⟨7,0,0,0,0⟩):=by unfold eB;rw[fg Y,fg k3,fg k5,fg k6,fg k7,fh k8]
   have J:¬ (x.kind=10/\m.fb.getD (gV m x).toNat 0≠i):=bP
   refine pop (Iv 7) (aH (x:=(⟨7,0,0,0,0⟩:cQ)) u iC rfl rfl λ_ u=>?_);have u:=u.p4.p4.p4.p4.p4;rw[G];exact⟨J,u⟩
  refine aG (aC (λk4=>?_) λk4=>?_)
  .have G:(eB m t i x)=(rJ m t x,pD t x.eO (ly m.mem (gk m x)),ve m t x):=by unfold eB;rw[fg Y,fg k3,fg k5,fg k6,fg k7,fg k8,fh k4]
   have J:¬ (x.kind=10/\m.fb.getD (gV m x).toNat 0≠i):=bP
   refine aE ek u.p1.At (have u:=St.join u.p4.p4;aS ac1 u (H':=λ_=>sep (mQ K e.b m.room (pD t x.eO (ly m.mem (gk m x)))) (jz K p (rJ m t x) i.toNat e)) (Φ:=λv _=>v=iS (ve m t x)) (λE B I=>?_) ?_)
   .exact C165 K p m i.toNat e t x ⟨x.kind,x.eO,x.name,ge,gf,x.n,x.body,x.eG,x.at_⟩ E _ B (λw' hc=>V w' (I w' hc).aF) U Z.mem CY (hx.rg bP) FQ hxe hv1 hv2
   rintro _ _ rfl u;have u:=u.split;refine aH (x:=(ve m t x:cQ)) u.p2 iC rfl rfl (λ_ u=>?_);have u:=u.p2.p2.p4.p4.p4;rw[G];exact⟨J,u⟩
  have ajD:x.kind=9\/x.kind=10:=bP
  obtain⟨j,hj,FK,_⟩:=py (cY.1 (hx.lk ajD));have LZ:=(j0.1 FK).1;have hjk:gV m x=(j:Int):=hj;refine aG (aC (λk9=>?_) λk9=>?_)
  .have G:(eB m t i x)=(qw m x i,t,⟨10,0,gV m x,0,0⟩):=by unfold eB;rw[fg Y,fg k3,fg k5,fg k6,fg k7,fg k8,fg k4,fh k9]
   have J:¬ (x.kind=10/\m.fb.getD (gV m x).toNat 0≠i):=bP
   have u:=u.p4;obtain⟨a,M,u⟩:=jz.open u;refine aD (aA mZ (aB eK u.hb rfl (ed u.p2 dG (show 0<=gV m x by omega) (show gV m x<_ by omega) λ_ ad9=>kI (i:Int) u.p2 bL ad9 bP λ_ u=>pop (sc 10 (gV m x)) (have u:=jz.shut (m:=qw m x i) (⟨⟨M.1.pr,M.1.cs,M.1.ks,M.1.mem,M.1.rc⟩,M.2⟩) u.p4.p4.p2.p4.p4;aH (x:=(⟨10,0,gV m x,0,0⟩:cQ)) u.p1 iC rfl rfl λ_ u=>?_))));have u:=u.p1.p4.p4.p4.p4;rw[G];exact⟨J,u⟩
  have G:(eB m t i x)=(qw m x (-1),t,⟨11,0,gV m x,0,0⟩):=by unfold eB;rw[fg Y,fg k3,fg k5,fg k6,fg k7,fg k8,fg k4,fg k9]
  have u:=u.p4;obtain⟨a,M,u⟩:=jz.open u;have hwl:=u.p2.eS;obtain⟨ov,hov⟩:=gx m.fb (i:=(gV m x).toNat) bP;have hgd:m.fb.getD (gV m x).toNat 0=ov:=by rw[o4,hov];rfl
  refine aD (aA mZ (aB eK u.hb rfl (aY dG hwl (show 0<=gV m x by omega) hov λq69 h69=>aE bL h69 (cB (aC (λc72=>?_) λc72=>?_)))))
  .have u:=u.p4;have u:=rI ((jz.shut (m:=m) M u.p4.p4.p4.p4).p4);rw[mL ht]at u;refine aS Vz u (H':=λ_=>fi K p {m with fault:=3,kZ:=i}) (Φ:=λv _=>v=iS (⟨16,i,3,0,0⟩:cQ)) (λE B I=>?_) ?_
   .exact C161 K p m i 3 E _ B
   rintro _ _ rfl u;refine aH (x:=(⟨16,i,3,0,0⟩:cQ)) u.p3 iC rfl rfl (λ_ u=>aE iC u.At ?_);have u:=u.drop.p1.drop.p1.drop;rw[VI,fh ⟨bP,by rw[hgd];exact c72⟩];exact⟨rfl,u.mut⟩
  refine aD (aA mZ (aB eK u.hb rfl (ed u.p2 dG (show 0<=gV m x by omega) (show gV m x<_ by omega) λ_ ajF=>kI (-1:Int) u.p2 bL ajF bP λ_ u=>pop (sc 11 (gV m x)) (have u:=jz.shut (m:=qw m x (-1)) (⟨⟨M.1.pr,M.1.cs,M.1.ks,M.1.mem,M.1.rc⟩,M.2⟩) u.p4.p4.p2.p4.p4;aH (x:=(⟨11,0,gV m x,0,0⟩:cQ)) u.p1 iC rfl rfl λ_ u=>?_))));have u:=u.p1.p4.p4.p4.p4;rw[G];exact⟨by rw[hgd];exactλh=>c72 h.2,u⟩
 rintro _ ⟨aea,u⟩ _;have ajG:(eB m t i x).2.1.bN=(.cons x xa xb r,en)::p':=by rw[Bs];exact xl
 have wJ:=Br (m:=m) (t:=t) (i:=i) (x:=x);have ajH:oQ (Vw (cX m.p) (cS m.p) t.names) (eB m t i x).2.1:=JX U Z.rm.2
 have aeb:wk (cX m.p) (cS m.p) { (eB m t i x).2.1 with bN:=gU (eB m t i x).2.1.bN}:=by
  show oQ (Vw _ _ (eB m t i x).2.1.names) _;rw[tK];exact JY ajH
 refine aA RK (aO u bL (dQ rfl) rfl λ_ u=>have u:=(u.enc (cs':=jn ({ (eB m t i x).2.2 with t:=i}:cQ)) rfl).p3;aS ET u (H':=λ_=>mQ K e.b m.room { (eB m t i x).2.1 with bN:=gU (eB m t i x).2.1.bN}) (Φ:=λ_ _=>True) (λE B I=>?_) ?_)
 .exact(C166 K _ e.b m.room (eB m t i x).2.1 E x xa xb r en p' _ B (λw' hc=>V w' (I w' hc).aF) ajG gi (by rw[Bs];omega)).mono λ_ _ r=>r.mono λ_ _ h=>⟨trivial,h.2⟩
 rintro _ _ _ u;refine aS Vx u (H':=λ_=>mQ K e.b m.room (tD m t i x)) (Φ:=λ_ _=>True) (λE B I=>?_) ?_
 .exact(C119 K e.b m.room { (eB m t i x).2.1 with bN:=gU (eB m t i x).2.1.bN} (tD m t i x) _ _ _ E _ B (λw' hc=>V w' (I w' hc).aF) aeb (pE aeb).1).mono λ_ _ r=>r.mono λ_ _ h=>⟨trivial,h.2⟩
 rintro _ _ _ u;refine aE (x:=({ (eB m t i x).2.2 with t:=i}:cQ)) iC u.p1.At (aH (x:=({ (eB m t i x).2.2 with t:=i}:cQ)) u.p3 iC rfl rfl λ_ u=>aE iC u.At ?_);have u:=u.drop.p1.drop.p1.drop.p1.p1;rw[<- wJ]at u;have u:=rI u;rw[Yv]at u;rw[VI,fg aea];exact⟨rfl,u.mut⟩
def C85(K:hU)(p:Nat)(m:iB)(q:bG)(Z:SV)(t:jM)(F:Nat->Prop)(w:World)(hF:(fi K p m).p w F)(hK:∀w',fD F w w'->K w')(lS:nU m)(FQ:MB m.mem 1000000)(h0:0<=q.t)(ht:m.l[q.t.toNat]?=some t) :
   CR 85 [.pointer (some ⟨p,0,none⟩),iS (⟨q.kind,q.t,q.i,Z⟩:aU)] w (λv w'=>v=iS (zi q.t (ei t.buf q.i))/\mC F (fi K p (xB m t q)) w w'):=by
 have u:=St.begin hF;have Jn:=l0 ht;have qi:=lS.th t Jn;have kH:=(j0.1 ht).1;have L4:=qi.bl;refine qg Tryz.func85 (pl:=P85) ?_;refine cE (x:=(⟨q.kind,q.t,q.i,Z⟩:aU)) u (λb3 _ u=>aK u qP λb4 _ u=>?_);have u:=(u.enc (cs':=jn (⟨0,0,0,0,0⟩:cQ)) rfl).p2;obtain⟨a,hu,u⟩:=fi.open u;have vq:=u.p4.jj;obtain⟨e,M⟩:=gx a.ps (i:=q.t.toNat) bP;refine⟨λx5 w'=>∃J,x5=.pointer (some ⟨J,0,none⟩)/\St w F [bM J (jn (ei t.buf q.i)),bM b4 (jn (⟨0,0,0,0,0⟩:cQ)),bM b3 (jn (⟨q.kind,q.t,q.i,Z⟩:aU)),mQ K e.b m.room ({t with buf:=ky t.buf q.i}),jz K p m q.t.toNat e] w',?_,?_⟩
 .have u:=u.drew;refine aD (aA m4 (aB uo u.hb rfl (aA n4 (aB (v:=hZ q.t) bL u.p6.hb rfl (ed u.p3 wL h0 (by have:=vq;omega) λq14 Wy=>gM u.p3 AG Wy M ?_)))));have u:=Pt u.p4 M ht;obtain⟨Y,nv,rg,pl,es,hk,u⟩:=dM.open u;refine aD (aA kK (aB um u.hb rfl (aA xM (aB (v:=hZ q.i) bL u.p11.hb rfl ⟨?_,?_,trivial⟩))))
  .have u:=u.p1;refine aS Um u (H':=λ_=>kW Y m.room (ky t.buf q.i)) (Φ:=λv _=>v=.tuple #[iS (ei t.buf q.i),hZ (u6 t.buf q.i)]) (λG I V=>?_) ?_
   .exact C158 Y m.room t.buf q.i G _ I bP
   rintro _ _ rfl u;refine aJ rfl (aJ rfl (aK u r9 λJ _ u=>?_));refine⟨aX uo (u.p7.hb.cell rfl),?_⟩;refine⟨aX bL (u.p12.hb.cell (v:=hZ q.t) rfl),?_⟩;refine⟨Iy u.p10 AG Wy M,?_⟩;refine⟨aX um (u.p2.hb.cell rfl),?_⟩;refine⟨aX bL (u.p12.hb.cell (v:=hZ q.i) rfl),?_⟩;exact aH (x:=(ei t.buf q.i)) u jB rfl rfl (λ_ u=>have u:=dM.shut (Φ:=λ_=>True) (t:={t with buf:=ky t.buf q.i}) hk u.p5.p5.p5.p4.p5;have u:=jz.shut (m:=m) ⟨hu,M,vq,bP⟩ u.p2.p6.p6.p6.p6;have u:=u.p1.p4.p4.p4;⟨J,rfl,u⟩)
  refine aK u r9 (λJ _ u=>?_);refine⟨aX uo (u.p7.hb.cell rfl),?_⟩;refine⟨aX bL (u.p12.hb.cell (v:=hZ q.t) rfl),?_⟩;refine⟨Iy u.p10 AG Wy M,?_⟩;refine⟨aX um (u.p1.hb.cell rfl),?_⟩;refine⟨aX bL (u.p12.hb.cell (v:=hZ q.i) rfl),?_⟩;have u:=u.p2;refine aS Um u (H':=λ_=>kW Y m.room (ky t.buf q.i)) (Φ:=λv _=>v=.tuple #[iS (ei t.buf q.i),hZ (u6 t.buf q.i)]) (λG I V=>?_) ?_
  .exact C158 Y m.room t.buf q.i G _ I bP
  rintro _ _ rfl u;exact aJ rfl (aJ rfl (aH (x:=(ei t.buf q.i)) u.p1 jB rfl rfl λ_ u=>have u:=dM.shut (Φ:=λ_=>True) (t:={t with buf:=ky t.buf q.i}) hk u.p5.p5.p5.p4.p5;have u:=jz.shut (m:=m) ⟨hu,M,vq,bP⟩ u.p2.p6.p6.p6.p6;have u:=u.p1.p4.p4.p4;⟨J,rfl,u⟩))
 rintro _ _ ⟨J,rfl,u⟩ _;refine aA nf (aB (v:=hZ (ei t.buf q.i).kind) bL u.hb rfl (aG (aC (λc=>?_) λc=>?_)))
 .have u:=u.p4;obtain⟨a,B,u⟩:=jz.open u;have u:=u.drew;refine aD (aA lU (aB wK u.hb rfl (aA pa (aB (v:=hZ (ei t.buf q.i).cell) bL u.p5.hb rfl (aA qY (aB (v:=hZ (ei t.buf q.i).n) bL u.p5.hb rfl (have u:=u.p1;aS Un u (H':=λ_=>fy a.q a.ov a.fv (fC m.mem (ei t.buf q.i).cell (ei t.buf q.i).n)) (Φ:=λ_ _=>True) (λG I V=>?_) ?_)))))))
  .exact(C159 a.q a.ov a.fv m.mem G _ _ _ I (λw' hc=>B.1.mem _ (hK w' (V w' hc).aF)) lS.mem FQ).mono λ_ _ r=>r.mono λ_ _ h=>⟨trivial,h.2⟩
  rintro _ _ _ u;refine aA n4 (aB (v:=hZ q.t) bL u.p7.hb rfl (aA pa (aB (v:=hZ (ei t.buf q.i).cell) bL u.p5.hb rfl (aA qY (aB (v:=hZ (ei t.buf q.i).n) bL u.p5.hb rfl (pop (zZ 12 q.t (ei t.buf q.i).cell (ei t.buf q.i).n) (aH (x:=(⟨12,q.t,(ei t.buf q.i).cell,(ei t.buf q.i).n,0⟩:cQ)) u.p6 iC rfl rfl λ_ u=>aE iC u.At ?_)))))));have U:ke m.mem (ei t.buf q.i)=fC m.mem (ei t.buf q.i).cell (ei t.buf q.i).n:=by unfold ke;rw[fh c]
  have E:zi q.t (ei t.buf q.i)=⟨12,q.t,(ei t.buf q.i).cell,(ei t.buf q.i).n,0⟩:=by unfold zi;rw[fh c]
  have u:=jz.shut (m:={m with mem:=fC m.mem (ei t.buf q.i).cell (ei t.buf q.i).n}) ⟨⟨B.1.pr,B.1.cs,B.1.ks,λw hw=>(B.1.mem w hw).write,B.1.rc⟩,B.2⟩ u.drop.p6.drop.p5.drop.p4.p4.p4.p3.p4;have u:=rI (m:={m with mem:=fC m.mem (ei t.buf q.i).cell (ei t.buf q.i).n}) (tp:=e) (t:={t with buf:=ky t.buf q.i}) u.p1;have W:xB m t q={ {m with mem:=fC m.mem (ei t.buf q.i).cell (ei t.buf q.i).n}with l:=m.l.set q.t.toNat ({t with buf:=ky t.buf q.i})}:=by unfold xB;rw[U]
  rw[W,E];exact⟨rfl,u.mut⟩
 refine aG (aC (λO=>?_) λO=>?_)
 .refine aA n4 (aB (v:=hZ q.t) bL u.p2.hb rfl (pop (Kp 14 q.t) (aH (x:=(⟨14,q.t,0,0,0⟩:cQ)) u.p1 iC rfl rfl λ_ u=>aE iC u.At ?_)));have u:=u.p4;obtain⟨a,B,u⟩:=jz.open u;have U:ke m.mem (ei t.buf q.i)=m.mem:=by unfold ke;rw[fg c,fh O]
  have E:zi q.t (ei t.buf q.i)=⟨14,q.t,0,0,0⟩:=by unfold zi;rw[fg c,fh O]
  have u:=jz.shut (m:={m with mem:=m.mem}) B u.p5.drop.p6.drop.p5.drop.p4.p4.p4.p4.p4;have u:=rI (m:={m with mem:=m.mem}) (tp:=e) (t:={t with buf:=ky t.buf q.i}) u.p1;have W:xB m t q={ {m with mem:=m.mem}with l:=m.l.set q.t.toNat ({t with buf:=ky t.buf q.i})}:=by unfold xB;rw[U]
  rw[W,E];exact⟨rfl,u.mut⟩
 have u:=u.p4;obtain⟨a,B,u⟩:=jz.open u;have u:=u.drew;refine aD (aA lU (aB wK u.hb rfl (aA kN (aB (v:=hZ (ei t.buf q.i).line) bL u.p5.hb rfl (have u:=u.p1;aS Z5 u (H':=λ_=>fy a.q a.ov a.fv (pC m.mem (ei t.buf q.i).line)) (Φ:=λ_ _=>True) (λG I V=>?_) ?_)))))
 .exact(C160 a.q a.ov a.fv m.mem G _ _ I (λw' hc=>B.1.mem _ (hK w' (V w' hc).aF)) lS.mem FQ).mono λ_ _ r=>r.mono λ_ _ h=>⟨trivial,h.2⟩
 rintro _ _ _ u;refine aA n4 (aB (v:=hZ q.t) bL u.p7.hb rfl (aA kN (aB (v:=hZ (ei t.buf q.i).line) bL u.p5.hb rfl (pop (wO 13 q.t (ei t.buf q.i).line) (aH (x:=(⟨13,q.t,(ei t.buf q.i).line,0,0⟩:cQ)) u.p6 iC rfl rfl λ_ u=>aE iC u.At ?_)))));have U:ke m.mem (ei t.buf q.i)=pC m.mem (ei t.buf q.i).line:=by unfold ke;rw[fg c,fg O]
 have E:zi q.t (ei t.buf q.i)=⟨13,q.t,(ei t.buf q.i).line,0,0⟩:=by unfold zi;rw[fg c,fg O]
 have u:=jz.shut (m:={m with mem:=pC m.mem (ei t.buf q.i).line}) ⟨⟨B.1.pr,B.1.cs,B.1.ks,λw hw=>(B.1.mem w hw).out,B.1.rc⟩,B.2⟩ u.drop.p6.drop.p5.drop.p4.p4.p4.p3.p4;have u:=rI (m:={m with mem:=pC m.mem (ei t.buf q.i).line}) (tp:=e) (t:={t with buf:=ky t.buf q.i}) u.p1;have W:xB m t q={ {m with mem:=pC m.mem (ei t.buf q.i).line}with l:=m.l.set q.t.toNat ({t with buf:=ky t.buf q.i})}:=by unfold xB;rw[U]
 rw[W,E];exact⟨rfl,u.mut⟩
def C57(K:hU)(p:Nat)(m:iB)(sj:List bW)(lv:Value)(O:List bU)(F:Nat->Prop)(w:World)(hF:(fi K p m).p w F)(W:∀w',fD F w w'->K w')(SW:1<=m.room/\m.room<=16)(hlk:(cS m.p).length<=1000)(hl:∀w',fD F w w'->dy (λ_=>True) w' lv O)(M:EX K O sj)
   (qi:∀t∈sj,wk (cX m.p) (cS m.p) (Ad t)/\t.body=(Tl t.body).flat) (hn:sj.length<=1000) :
   CR 57 [.pointer (some ⟨p,0,none⟩),lv] w (λv w'=>v=.tuple #[]/\mC F (fi K p (tG m sj)) w w'):=by
 have u:=St.begin hF;have Kk:=M.1;refine qg Tryz.func57 (pl:=P57) ?_;obtain⟨a,I,u⟩:=fi.open u;have vq:=u.p4.jj;refine aD (aA m4 (aO u uo (dQ rfl) rfl λ_ u=>aD (aA mZ (aO u eK (dQ rfl) rfl λ_ u=>aD (aA yp (aB lT u.hb rfl (aI iN (I.ks _ (W _ u.aF)) ?_)))))));have u:=(((u.p2.drop.p2.drop.p2.drop.eD (α:=Int)).p2).p1).p2;refine⟨λJ x w'=>∃(k:Nat) (ov:Value),x=hZ (k:Int)/\J=(cS m.p).length-k/\k<=(cS m.p).length/\St w F [bM p (mn {a with ow:=ov,ll:=.slice none 0 0} m),bH ov (oI k (-1:Int)),fy a.q a.ov a.fv m.mem] w',⟨_,0,_,rfl,rfl,mj _,u⟩,?_⟩
 rintro J _ _ ⟨k,ov,rfl,rfl,Rk,u⟩ _;refine aQ (aC (λc=>?_) λc=>?_)
 .refine aD (aA mZ (aB eK u.hb rfl (bK ([-1]:List Int) u dG rfl rfl (dQ rfl) λs27 _ u=>?_)));have ajI:=u.eS;exact cO u.p2 dG ajI (by rw[xr,nB];omega) ea (λs28 _ u=>have u:=u.p1.drop;aD (aA mZ (aO u.p1 eK (dQ rfl) u.eS.one λ_ u=>aM bP ⟨_,bP,k+1,s28,rfl,rfl,bP,by rw[List.replicate_succ'];exact u⟩)))
 refine aI kJ (hl _ u.aF) ?_;rw[show k=(cS m.p).length from bP]at u;have u:=((((((u.DV (H:=sI K m.room)).eD (α:=Ptr)).p4).p4).p3).p3).p4;refine⟨λJ x w'=>∃(j:Nat) (B:Value) (ps:List Ptr),x=hZ (j:Int)/\J=O.length-j/\j<=O.length/\St w F [bM p (mn {a with ow:=ov,ll:=B} m),bH B ps,gj (sI K m.room) ps ((sj.take j).map Zw),bH ov (oI (cS m.p).length (-1:Int)),fy a.q a.ov a.fv m.mem] w',⟨_,0,_,_,rfl,rfl,mj _,u⟩,?_⟩;rintro J _ _ ⟨j,B,ps,rfl,rfl,hj1,u⟩ _;refine aQ (aC (λc2=>?_) λc2=>?_);rotate_left
 .rw[kO bP]at u;have u:=u.p2.p2.p3.p4.p4;exact⟨rfl,(fi.shut (m:=tG m sj) (a:={a with ow:=ov,ll:=B,ps:=ps}) ⟨I.pr,I.cs,I.ks,I.mem,I.rc⟩ u).mut⟩
 obtain⟨tv,V⟩:=gx O (i:=((j:Nat):Int).toNat) bP;obtain⟨t,ht⟩:=gx sj (i:=j) bP;obtain⟨E,gb,rows,rfl,U,hgb⟩:=M.2 j _ _ V ht;obtain⟨YA,Zu⟩:=qi t (l0 ht);have Po:t.dJ.length<=1000:=YA.nb;refine aY kJ (hl _ u.aF) bP V (λq36 Y=>aE lq Y (aK u r8 λb5 _ u=>aH (x:=(⟨t.name,E,gb,t.at_⟩:bU)) u lq rfl rfl λ_ u=>aD (aA MM (aB bL u.p1.hb rfl (dW ZW (C50 m.room _) ?_)))));rintro v43 _ hh;obtain⟨_,_,b43,rfl,dw⟩:=hh.resolve_left (λ_=>bP);have u:=u.made dw;refine aJ rfl (aJ rfl (have u:=u.drew;aA m6 (aB (v:=iS E) lT u.p1.hb rfl (aA m6 (aB (v:=iS E) lT u.p1.hb rfl (aI iN (U _ (W _ u.aF)) (Dv (0:Int) u dG sM bP bP ea λs52 _ u=>?_)))))))
 rw[qG]at u;refine⟨aX lT (u.p2.hb.cell (v:=iS E) rfl),?_⟩;obtain⟨YB,rfl⟩:=u.gF;refine pop (CB (some ⟨b43,0,none⟩) E.a E.n E.cap YB.a YB.n YB.cap) (oZ u λG _ u=>have u:=(u.eD (α:=rH)).fG (Φ:=λw=>xS K w [] []/\True) (λ_=>⟨trivial,trivial⟩);have u:=dM.shut (Φ:=λ_=>True) (t:=(⟨t.dJ,oI t.dJ.length 0,[],0,[]⟩:jM)) (es:=[]) U u.p1.p3.p4.p4;aA qQ (aB (v:=iS gb) lV u.p1.hb rfl (aS ES u (H':=λ_=>mQ K G m.room (Ad t)) (Φ:=λ_ _=>True) (λF2 Z dK=>?_) ?_)))
 .exact(C118 K _ G m.room ⟨t.dJ,oI t.dJ.length 0,[],0,[]⟩ F2 gb rows (Tl t.body) false _ Z (λw' hc=>W w' (dK w' hc).aF) (λw _=>by rw[<- Zu];exact hgb w) (show(0:Nat)<=100000 by decide)).mono λ_ _ r=>r.mono λ_ _ h=>⟨trivial,h.2⟩
 rintro _ _ _ u;refine aS Vx u (H':=λ_=>mQ K G m.room (Zw t)) (Φ:=λ_ _=>True) (λF2 Z dK=>?_) ?_
 .exact(C119 K G m.room (Ad t) (Zw t) _ _ _ F2 _ Z (λw' hc=>W w' (dK w' hc).aF) YA (pE YA).1).mono λ_ _ r=>r.mono λ_ _ h=>⟨trivial,h.2⟩
 rintro _ _ _ u;refine aD (aA m4 ?_);have mI:=u.p4.jj;rw[nP,List.length_take]at mI;refine aB uo u.p2.hb rfl (bK ([(⟨G⟩:Ptr)]) u wL rfl rfl (dQ rfl) λs67 _ u=>?_);have ajK:=u.eS;exact cO u.p4 wL ajK (by simp;omega) ea (λs68 _ u=>have u:=u.p1.drop;aD (aA m4 (aO u.p3 uo (dQ rfl) u.eS.one λ_ u=>have u:=(((St.DW (H:=sI K m.room) (p:=⟨G⟩) (x:=Zw t) u.p3.drop.p2.p3).p4).p4).p2;have u:=u.p4.p4;aM bP ⟨_,bP,j+1,s68,ps++[⟨G⟩],rfl,rfl,bP,by rw[<- nn (k:=j) ht];exact u⟩)))
end Go.Proofs.YtdncbeepkacgbaaGreatDoor

/-
  Part 5.
-/
import Derived.Test.YtdncbeepkacgbaaGreatDoorR4x4
set_option maxHeartbeats 8000000
set_option linter.all false
set_option maxRecDepth 100000
open ByteArray renaming mk->hZ
open Go.Fw.Flat renaming val->ia,enc->iW
open List renaming getElem?_eq_some_iff->jq,length_append->kC,take_of_length_le->kE,mem_of_getElem?->l0,getElem?_eq_none->l3,append_assoc->mv,length_singleton->nD,length_map->nQ,mem_map->nT,mem_cons_self->oj,append_nil->oo,replicate->oJ,getD_eq_getElem?_getD->o4,mem_append->pJ,length_replicate->wG,length_nil->Dd,length_set->Dx,any_eq_false->Ec
open Option renaming bind_some->kO,some->nN
open Go.Fw.Deep renaming dr->l2
open Go.Value renaming int->mj
open Nat renaming zero_le->mr,le_refl->oq,le_succ->Cm
open Bool renaming and_eq_true->nw,or_eq_false_iff->Em
open Int renaming toNat_natCast->qs,eq_ofNat_of_zero_le->G6,le_refl->IT
open Decidable renaming not_not->zP
namespace Go.Proofs.YtdncbeepkacgbaaGreatDoor
open Go.Fw
structure eC where
 l:(List bI)
 to:Int
 e:Int
 at_:Int
deriving DecidableEq
structure cP where
 l:SV
 to:Int
 e:Int
 at_:Int
instance:Flat cP where
 agg:=true
 sz:=4
 enc e:=[.slice e.l.a e.l.n e.l.cap,hU e.to,hU e.e,hU e.at_]
 val e:=.agg [.slice e.l.a e.l.n e.l.cap,hU e.to,hU e.e,hU e.at_].toArray
 pos:=ea
 len _:=rfl
 one a v h:=by grind[qG]
 lj _ _:=rfl
 lF h:=by cases h
instance:Deep eC cP where
 dr w s x:=∃(u:SV),s=(⟨u,x.to,x.e,x.at_⟩:cP)/\DL w (ia u) x.l
 ext h e:=by
  obtain⟨E,rfl,B⟩:=h
  exact⟨E,rfl,B.ext e⟩
def iO{w:World}{u:cP}{x:eC}(h:l2 w u x):DL w (ia u.l) x.l:=by obtain⟨_,rfl,h⟩:=h;exact h
def mz(n:Int):List Int:=if n=0 then [15]else if n=1 then [14]else if n=2 then [10,11,12,13]else if n=3 then [5,6]else [7,8,9]
def yf:List ByteArray:=[⟨#[]⟩,⟨#[]⟩,⟨#[]⟩,⟨#[45]⟩,⟨#[33]⟩,⟨#[43]⟩,⟨#[45]⟩,⟨#[42]⟩,⟨#[47]⟩,⟨#[37]⟩,⟨#[61,61]⟩,⟨#[33,61]⟩,⟨#[60]⟩,⟨#[60,61]⟩,⟨#[38,38]⟩,⟨#[124,124]⟩]
def Fh(k:Int):ByteArray:=(yf[k.toNat]?).getD ⟨#[]⟩
def fb(l:List aX)(i e:Int):eC:=⟨[],0,if (l.length:Int)<=i then 6 else e,jM l i⟩
abbrev ad6(r:eC)(w:World):=oV λv w'=>∃u:cP,v=ia u/\mG (eI λw=>l2 w u r) w w'
def XV(l:List aX)(rec:Int->Int->Int->Option eC):Prop:=∀(lv:Value) (i d n:Int) (r:eC) (w:World),dy (λ_=>True) w lv l->rec i d n=some r->0<=i/\i<=l.length->0<=d/\d<=12->0<=n/\n<=5->
 Calls hH 287 [lv,hU i,hU d,hU n].toArray w (ad6 r w)/\(n=5->Calls hH 339 [lv,hU i,hU d].toArray w (ad6 r w))
structure fU(l:List aX):Prop where
 n:l.length<=5000
 at_:∀x∈l,0<=x.at_/\x.at_<=1000000/\x.text.size<=1000000
def LL(l:List aX)(i:Int):Bool:=oy l i ⟨#[33]⟩||oy l i ⟨#[45]⟩
def lh(rec:Int->Int->Int->Option eC)(l:List aX)(i d:Int):Option eC:=
 match (if (l.length:Int)<=i then none else l[i.toNat]?)with
 | none=>some (fb l i 6)
 | some t=>if ((LL l i||oy l i ⟨#[40]⟩)&&decide (d=12))=true then some (fb l i 7)
  else if LL l i=true then(rec (i+1) (d+1) 5).bind λx=>if x.l.length<=10000 then some (if x.e≠0 then x else {x with l:=[⟨if t.text=⟨#[45]⟩then 3 else 4,0,⟨#[]⟩,t.at_⟩]++x.l})else none
  else if oy l i ⟨#[40]⟩=true then(rec (i+1) (d+1) 0).bind λx=>some (if x.e≠0 then x else if oy l x.to ⟨#[41]⟩=true then {x with to:=x.to+1}else fb l x.to 5)
  else if t.kind=2 then some ⟨[⟨1,t.n,⟨#[]⟩,t.at_⟩],i+1,0,0⟩
  else if (decide (t.kind=1)&&fB t.text)=true then some ⟨[⟨2,0,t.text,t.at_⟩],i+1,0,0⟩
  else some (fb l i 5)
def zO(l:List aX)(to n:Int)(k:Nat):Int:=((mz n).take k).foldl (λop f=>if oy l to (Fh f)=true then f else op) 0
def CU(l:List aX)(to n:Int):Int:=zO l to n (mz n).length
theorem Br{l:List aX}{to n:Int}{k:Nat}{f:Int}(h:(mz n)[k]?=some f):zO l to n (k+1)=if oy l to (Fh f)=true then f else zO l to n k:=by
 unfold zO;rw[List.take_add_one,h,Option.toList_some,List.foldl_append];rfl
def qC(rec:Int->Int->Int->Option eC)(l:List aX)(d n:Int):Nat->eC->Option eC
 | 0,_=>none
 | k+1,x=>if x.e≠0 then some x else if CU l x.to n=0 then some x else match (if 0<=x.to then l[x.to.toNat]? else none)with
  | none=>none
  | some t=>match rec (x.to+1) d (n+1)with
   | none=>none
   | some y=>if y.e≠0 then some y else if x.l.length+y.l.length<=10000 then
     (if n=2 then some ⟨[⟨CU l x.to n,0,⟨#[]⟩,t.at_⟩]++x.l++y.l,y.to,0,0⟩else qC rec l d n k ⟨[⟨CU l x.to n,0,⟨#[]⟩,t.at_⟩]++x.l++y.l,y.to,0,0⟩)else none
def Bs(l:List aX):Nat->Int->Int->Int->Option eC
 | 0,_,_,_=>none
 | k+1,i,d,n=>if n=5 then lh (Bs l k) l i d else(Bs l k i d (n+1)).bind (qC (Bs l k) l d n k)
def Qb{n:Int}{k:Nat}{f:Int}(h:(mz n)[k]?=some f):5<=f/\f<=15:=by
 have u:=l0 h
 unfold mz at u
 grind
section
variable {rec:Int->Int->Int->Option eC}{l:List aX}{i d n:Int}{r x y:eC}{t:aX}{k:Nat}
theorem Hz(h:lh rec l i d=some r)(u:(l.length:Int)<=i):r=fb l i 6:=by
 unfold lh at h;grind
theorem Fi(h:lh rec l i d=some r)(B:¬ (l.length:Int)<=i)(ht:l[i.toNat]?=some t)(u:((LL l i||oy l i ⟨#[40]⟩)&&decide (d=12))=true):r=fb l i 7:=by
 unfold lh at h;grind
theorem LM(h:lh rec l i d=some r)(B:¬ (l.length:Int)<=i)(ht:l[i.toNat]?=some t)(E:((LL l i||oy l i ⟨#[40]⟩)&&decide (d=12))=false)(u:LL l i=true) :
  ∃x,rec (i+1) (d+1) 5=some x/\x.l.length<=10000/\r=if x.e≠0 then x else {x with l:=[⟨if t.text=⟨#[45]⟩then 3 else 4,0,⟨#[]⟩,t.at_⟩]++x.l}:=by
 unfold lh at h;rw[ez B,ht]at h;dsimp only at h;rw[ez cR,fi u]at h
 cases hr:rec (i+1) (d+1) 5 with
 | none=>grind
 | some x=>
  grind
theorem Fj(h:lh rec l i d=some r)(B:¬ (l.length:Int)<=i)(ht:l[i.toNat]?=some t)(E:((LL l i||oy l i ⟨#[40]⟩)&&decide (d=12))=false)(G:LL l i=false)(u:oy l i ⟨#[40]⟩=true) :
  ∃x,rec (i+1) (d+1) 0=some x/\r=if x.e≠0 then x else if oy l x.to ⟨#[41]⟩=true then {x with to:=x.to+1}else fb l x.to 5:=by
 unfold lh at h;rw[ez B,ht]at h;dsimp only at h;rw[ez cR,ez cR,fi u]at h
 cases hr:rec (i+1) (d+1) 0 with
 | none=>grind
 | some x=>grind
theorem Fk(h:lh rec l i d=some r)(G:¬ (l.length:Int)<=i)(ht:l[i.toNat]?=some t)(u:((LL l i||oy l i ⟨#[40]⟩)&&decide (d=12))=false)(E:LL l i=false)(B:oy l i ⟨#[40]⟩=false) :
  r=if t.kind=2 then⟨[⟨1,t.n,⟨#[]⟩,t.at_⟩],i+1,0,0⟩else if (decide (t.kind=1)&&fB t.text)=true then⟨[⟨2,0,t.text,t.at_⟩],i+1,0,0⟩else fb l i 5:=by
 unfold lh at h;grind
theorem HA(h:qC rec l d n k x=some r):∃j,k=j+1:=by
 cases k with
 | zero=>cases h
 | succ j=>grind
theorem TL(h:qC rec l d n (k+1) x=some r)(u:x.e≠0):r=x:=by
 unfold qC at h;grind
theorem Qc(h:qC rec l d n (k+1) x=some r)(u:¬ x.e≠0)(B:CU l x.to n=0):r=x:=by
 unfold qC at h;grind
theorem Qd(h:qC rec l d n (k+1) x=some r)(B:¬ x.e≠0)(u:¬ CU l x.to n=0):∃t y,0<=x.to/\l[x.to.toNat]?=some t/\rec (x.to+1) d (n+1)=some y/\(y.e≠0->r=y)/\
  (¬ y.e≠0->x.l.length+y.l.length<=10000/\(n=2->r=⟨[⟨CU l x.to n,0,⟨#[]⟩,t.at_⟩]++x.l++y.l,y.to,0,0⟩)/\(¬ n=2->qC rec l d n k ⟨[⟨CU l x.to n,0,⟨#[]⟩,t.at_⟩]++x.l++y.l,y.to,0,0⟩=some r)):=by
 unfold qC at h;grind
theorem VV(h:Bs l (k+1) i d 5=some r):lh (Bs l k) l i d=some r:=by grind[lh,Bs]
theorem ad7(h:Bs l (k+1) i d n=some r)(u:¬ n=5):∃x,Bs l k i d (n+1)=some x/\qC (Bs l k) l d n k x=some r:=by
 unfold Bs at h;rw[ez u]at h
 cases hx:Bs l k i d (n+1)with
 | none=>grind
 | some x=>grind
end
def qD(l:List aX)(i:Int):Option (List bI×Int×Int×Int):=if i<0 then some ([],0,1,0)else(Bs l 10000 i 0 0).bind λx=>
 if x.e≠0 then some ([],0,x.e,x.at_)else match tj x.l,l[i.toNat]? with
  | some t,some k=>if x.l.length<=10000 then(if 12<t.depth then some ([],0,7,k.at_)else if 40<x.l.length then some ([],0,2,k.at_)else some (x.l,x.to,0,0))else none
  | _,_=>none
def HC(n:Int):(mz n).length<=4:=by
 grind[mz]
def C340(n:Int)(w:World)(hn:0<=n/\n<=4):CR 340 [hU n] w (λv w'=>mG (bH v (mz n)) w w'):=by
 have u:=St.start w;refine eT Tryz.func340 ?_;refine bK ([15]:List Int) u dz rfl rfl (dP rfl) (λZ _ u=>bK ([14]:List Int) u dz rfl rfl (dP rfl) λJ _ u=>bK ([10,11,12,13]:List Int) u dz rfl rfl (dP rfl) λSl _ u=>bK ([5,6]:List Int) u dz rfl rfl (dP rfl) λI _ u=>bK ([7,8,9]:List Int) u dz rfl rfl (dP rfl) λW _ u=>?_);obtain⟨M,rfl⟩:=u.p4.gu;obtain⟨O,rfl⟩:=u.p3.gu;obtain⟨U,rfl⟩:=u.p2.gu;obtain⟨G,rfl⟩:=u.p1.gu;obtain⟨V,rfl⟩:=u.gu;refine bK ([M,O,U,G,V]) u AU rfl rfl (dP rfl) (λY _ u=>?_)
 have u:=(((((((((((u.Sb (α:=Int)).p6).p1).yL).p5).p1).yL).p4).p1).yL).p3).p1;have u:=u.yL.p2.p1.yL;obtain rfl|rfl|rfl|rfl|rfl:n=0\/n=1\/n=2\/n=3\/n=4:=bP
 .have E:=u.uF;exact ed u.p1 AU ea ew (λ_ B=>gP u.p1 ek B (show _=some M from rfl) (have u:=u.split;u.fresh))
 .have E:=u.uF;exact ed u.p1 AU ea ew (λ_ B=>gP u.p1 ek B (show _=some O from rfl) (have u:=u.split.drop.split;u.fresh))
 .have E:=u.uF;exact ed u.p1 AU ea ew (λ_ B=>gP u.p1 ek B (show _=some U from rfl) (have u:=u.split.drop.split.drop.split;u.fresh))
 .have E:=u.uF;exact ed u.p1 AU ea ew (λ_ B=>gP u.p1 ek B (show _=some G from rfl) (have u:=u.split.drop.split.drop.split.drop.split;u.fresh))
 have E:=u.uF;exact ed u.p1 AU ea ew (λ_ B=>gP u.p1 ek B (show _=some V from rfl) (have u:=u.split.drop.split.drop.split.drop.split.drop.split;u.fresh))
def C341(k:Int)(w:World)(M:0<=k/\k<=15):CR 341 [hU k] w (λv w'=>v=.string (Fh k)/\Ext w w'):=by
 have u:=St.start w;refine eT Tryz.func341 ?_;refine bK yf u iR rfl rfl (dP rfl) (λI _ u=>?_);have G:yf.length=16:=rfl;obtain⟨E,B⟩:=gx yf (i:=k.toNat) bP;refine ed u iR bP bP (λ_ J=>gP u j3 J B ?_);refine⟨?_,u.drop.aF⟩;unfold Fh;rw[B];rfl
def C357(lv:Value)(l:List aX)(i e:Int)(w:World)(B:dy (λ_=>True) w lv l)(E:fU l):CR 357 [lv,hU i,hU e] w (λv w'=>∃sh:cP,v=ia sh/\mG (eI λw=>l2 w sh (fb l i e)) w w'):=by
 have V:=E.n;have O:l.length<=1000000:=bP
 have J:=E.at_;have u:=St.start w;refine RR _ _ _ _ _ ?_;unfold S357;refine aM u n8 (λU G u=>have u:=u.enc (cs':=iW (⟨bZ,0,0,0⟩:cP)) rfl;⟨λI w'=>I=hU (if (l.length:Int)<=i then 6 else e)/\G=w',aI eB (B.ext u.aF) (cJ (aC (λ_=>⟨by rw[fi bP],rfl⟩) λ_=>⟨by rw[ez bP],rfl⟩)),?_⟩);rintro _ _ ⟨rfl,M⟩ _;subst M;exact aR AK u (C201 _ l i _ (B.ext u.aF) O J) (λ_ _ u=>pop (GA _ _) (aH (x:=(⟨bZ,0,(if (l.length:Int)<=i then 6 else e),(jM l i)⟩:cP)) u eL rfl rfl λ_ u=>aE eL u.At (have u:=u.fK (Φ:=(λw=>l2 w (⟨bZ,0,(if (l.length:Int)<=i then 6 else e),(jM l i)⟩:cP) (⟨[],0,(if (l.length:Int)<=i then 6 else e),(jM l i)⟩:eC))) (λ_=>⟨_,rfl,DL.nil _⟩);have u:=u.p1.drop;⟨_,rfl,u.fresh⟩)))
def C339(l:List aX)(rec:Int->Int->Int->Option eC)(lv:Value)(i d:Int)(r:eC)(w:World)(E:dy (λ_=>True) w lv l)(Z:fU l)(HR:XV l rec)(h0:0<=i/\i<=l.length)(hd:0<=d/\d<=12)(hr:lh rec l i d=some r):CR 339 [lv,hU i,hU d] w (λv w'=>∃sh:cP,v=ia sh/\mG (eI λw=>l2 w sh r) w w'):=by
 have ya:=Z.n;have hn:l.length<=1000000:=bP
 have qN:=Z.at_;have u:=St.start w;refine RP _ _ _ _ _ ?_;unfold S339;refine aM u n8 (λLn _ u=>have u:=u.enc (cs':=iW (⟨bZ,0,0,0⟩:cP)) rfl;aI eB (E.ext u.aF) (cJ (aC (λcW=>?_) λcW=>?_)))
 .refine dX IB (C357 _ l i 6 _ (E.ext u.aF) Z) ?_;rintro _ _ ⟨XX,rfl,M⟩;have u:=u.made M;obtain⟨vk,HD,_⟩:=u.eI;subst HD;refine aH (x:=(⟨vk,(fb l i 6).to,(fb l i 6).e,(fb l i 6).at_⟩:cP)) u.p1 eL rfl rfl (λ_ u=>aE eL u.At ?_);have I:r=(⟨(fb l i 6).l,(fb l i 6).to,(fb l i 6).e,(fb l i 6).at_⟩:eC):=Hz hr bP;rw[I];have u:=u.p1.dH (Ψ:=(λw=>l2 w (⟨vk,(fb l i 6).to,(fb l i 6).e,(fb l i 6).at_⟩:cP) (⟨(fb l i 6).l,(fb l i 6).to,(fb l i 6).e,(fb l i 6).at_⟩:eC))) (λ_ h=>⟨_,rfl,iO h⟩)
  have u:=u.p1.drop;exact⟨_,rfl,u.fresh⟩
 obtain⟨t,ht⟩:=gx l (i:=i.toNat) bP;have hta:=qN t (l0 ht);refine⟨λU w'=>U=.bool (LL l i)/\St w bF [bM Ln (iW (⟨bZ,0,0,0⟩:cP))] w',aR qk u (C196 _ l i (hZ #[33]) _ (E.ext u.aF) hn) (λ_ _ u=>bD (λgW=>⟨vb (by unfold LL;rw[gW];rfl),u⟩) λgW=>aR qk u (C196 _ l i (hZ #[45]) _ (E.ext u.aF) hn) λ_ _ u=>⟨vb (by unfold LL;rw[gW];rfl),u⟩),?_⟩;rintro _ _ ⟨rfl,u⟩ _;refine aR qk u (C196 _ l i (hZ #[40]) _ (E.ext u.aF) hn) (λ_ he u=>⟨λU w'=>U=.bool ((LL l i||oy l i (hZ #[40]))&&decide (d=12))/\St w bF [bM Ln (iW (⟨bZ,0,0,0⟩:cP))] w',bD (λG=>aG ⟨vb (by first|(rw[G];simp;done)|(rw[G,J];simp;done)|(rw[G];rfl)|(rw[G,J];rfl)),u⟩) (λG=>bD (λJ=>aG ⟨vb (by first|(rw[G];simp;done)|(rw[G,J];simp;done)|(rw[G];rfl)|(rw[G,J];rfl)),u⟩) λJ=>⟨vb (by first|(rw[G];simp;done)|(rw[G,J];simp;done)|(rw[G];rfl)|(rw[G,J];rfl)),u⟩),?_⟩)
 rintro _ _ ⟨rfl,u⟩ _;refine bD (λO=>?_) (λO=>bD (λG=>?_) λG=>bD (λJ=>?_) λJ=>?_)
 .refine dX IB (C357 _ l i 7 _ (E.ext u.aF) Z) ?_;rintro _ _ ⟨aju,rfl,M⟩;have u:=u.made M;obtain⟨JM,XY,_⟩:=u.eI;subst XY;refine aH (x:=(⟨JM,(fb l i 7).to,(fb l i 7).e,(fb l i 7).at_⟩:cP)) u.p1 eL rfl rfl (λ_ u=>aE eL u.At ?_);have I:r=(⟨(fb l i 7).l,(fb l i 7).to,(fb l i 7).e,(fb l i 7).at_⟩:eC):=Fi hr bP ht O;rw[I];have u:=u.p1.dH (Ψ:=(λw=>l2 w (⟨JM,(fb l i 7).to,(fb l i 7).e,(fb l i 7).at_⟩:cP) (⟨(fb l i 7).l,(fb l i 7).to,(fb l i 7).e,(fb l i 7).at_⟩:eC))) (λ_ h=>⟨_,rfl,iO h⟩)
  have u:=u.p1.drop;exact⟨_,rfl,u.fresh⟩
 .refine aK bP (aK bP ?_);have ajv:¬ d=12:=λh=>by rw[G,fj h]at O;cases O
  obtain⟨B,V,ZI,ZY⟩:=LM hr bP ht O G;refine dX UQ ((HR _ (i+1) (d+1) 5 B _ (E.ext u.aF) V bP bP bP).2 rfl) ?_;rintro _ _ ⟨ajw,rfl,M⟩;have u:=u.made M;obtain⟨yg,XZ,_⟩:=u.eI;subst XZ;refine aM u n8 (λvQ _ u=>have u:=u.enc (cs':=iW (⟨bZ,0,0,0⟩:cP)) rfl;aH (x:=(⟨yg,B.to,B.e,B.at_⟩:cP)) u eL rfl rfl λw13 u=>aA pe (aB (v:=hU B.e) gA u.hb rfl (cC (aC (λri=>?_) λri=>⟨λU w'=>U=hU (if t.text=hZ #[45]then 3 else 4)/\w13=w',aZ eB (E.ext u.aF) bP ht (λ_ NH=>cU t.text jT NH rfl rfl λ_ Ps=>aE j3 Ps (fE (aC (λzN=>⟨by rw[fi zN],rfl⟩) λzN=>⟨by rw[ez zN],rfl⟩))),?_⟩))))
  .refine aE eL u.At (aH (x:=(⟨yg,B.to,B.e,B.at_⟩:cP)) u.p2 eL rfl rfl λ_ u=>aE eL u.At ?_);have I:r=(⟨B.l,B.to,B.e,B.at_⟩:eC):=ZY.trans (fi ri);rw[I];have u:=u.p2.dH (Ψ:=(λw=>l2 w (⟨yg,B.to,B.e,B.at_⟩:cP) (⟨B.l,B.to,B.e,B.at_⟩:eC))) (λ_ h=>⟨_,rfl,iO h⟩);have u:=u.p1.drop.p1.drop;exact⟨_,rfl,u.fresh⟩
  rintro _ _ ⟨rfl,hw⟩ _;subst hw;obtain⟨op,VW⟩:∃op,op=(if t.text=hZ #[45]then(3:Int)else 4):=⟨_,rfl⟩;rw[<- VW];refine aZ eB (E.ext u.aF) bP ht (λ_ aea=>cU t.at_ iT aea rfl rfl λ_ aeb=>aE bL aeb (pop (yF _ _) (bK ([(⟨op,0,(hZ #[]),t.at_⟩:bI)]) u jx rfl rfl (dP rfl) λs_x66 _ u=>aA nh (aB (v:=ia (yg:SV)) lH u.p1.hb rfl ?_))));have X0:=(DL.flat (iO u.p2.eI));refine cO u jx X0 (by simp;omega) ea (λVL _ u=>aA nh ?_);obtain⟨HE,rfl⟩:=u.gu;refine aO u.p1 lH (dP rfl) (rfl) (λ_ u=>have u:=u.enc (cs':=iW (⟨HE,B.to,B.e,B.at_⟩:cP)) rfl;aE eL u.At (aH (x:=(⟨HE,B.to,B.e,B.at_⟩:cP)) u.p3 eL rfl rfl λ_ u=>aE eL u.At ?_))
  have I:r=(⟨([(⟨op,0,(hZ #[]),t.at_⟩:bI)]++B.l),B.to,B.e,B.at_⟩:eC):=by rw[ZY,ez ri,<- VW]
  rw[I];have u:=u.p2.freeze.dH (Ψ:=(λw=>l2 w (⟨HE,B.to,B.e,B.at_⟩:cP) (⟨([(⟨op,0,(hZ #[]),t.at_⟩:bI)]++B.l),B.to,B.e,B.at_⟩:eC))) (λ_ h=>⟨_,rfl,DL.eO h⟩);have u:=u.p1.drop.p1.drop.p1.drop;exact⟨_,rfl,u.fresh⟩
 .refine aK bP (aK bP ?_);have ajv:¬ d=12:=λh=>by rw[G,J,fj h]at O;cases O
  obtain⟨B,V,ZY⟩:=Fj hr bP ht O G J;refine dX IA ((HR _ (i+1) (d+1) 0 B _ (E.ext u.aF) V bP bP bP).1) ?_;rintro _ _ ⟨ajx,rfl,M⟩;have u:=u.made M;obtain⟨Y,X1,_⟩:=u.eI;subst X1;refine aM u n8 (λNB _ u=>have u:=u.enc (cs':=iW (⟨bZ,0,0,0⟩:cP)) rfl;aH (x:=(⟨Y,B.to,B.e,B.at_⟩:cP)) u eL rfl rfl λ_ u=>aA pe (aB (v:=hU B.e) gA u.hb rfl (cC (aC (λJN=>?_) λJN=>aA kQ (aB (v:=hU B.to) bL u.hb rfl (aR qk u (C196 _ l B.to (hZ #[41]) _ (E.ext u.aF) hn) λ_ he u=>bJ (bD (λJO=>?_) λJO=>?_)))))))
  .refine aE eL u.At (aH (x:=(⟨Y,B.to,B.e,B.at_⟩:cP)) u.p2 eL rfl rfl λ_ u=>aE eL u.At ?_);have I:r=(⟨B.l,B.to,B.e,B.at_⟩:eC):=ZY.trans (fi JN);rw[I];have u:=u.p2.dH (Ψ:=(λw=>l2 w (⟨Y,B.to,B.e,B.at_⟩:cP) (⟨B.l,B.to,B.e,B.at_⟩:eC))) (λ_ h=>⟨_,rfl,iO h⟩);have u:=u.p1.drop.p1.drop;exact⟨_,rfl,u.fresh⟩
  .refine aA kQ (aB (v:=hU B.to) bL u.hb rfl (dX IB (C357 _ l B.to 5 _ (E.ext u.aF) Z) ?_));rintro _ _ ⟨ajy,rfl,M⟩;have u:=u.made M;obtain⟨JP,X2,_⟩:=u.eI;subst X2;refine aH (x:=(⟨JP,(fb l B.to 5).to,(fb l B.to 5).e,(fb l B.to 5).at_⟩:cP)) u.p3 eL rfl rfl (λ_ u=>aE eL u.At ?_);have I:r=(⟨(fb l B.to 5).l,(fb l B.to 5).to,(fb l B.to 5).e,(fb l B.to 5).at_⟩:eC):=ZY.trans ((ez JN).trans (ez (by simpa using JO)));rw[I];have u:=u.p1.dH (Ψ:=(λw=>l2 w (⟨JP,(fb l B.to 5).to,(fb l B.to 5).e,(fb l B.to 5).at_⟩:cP) (⟨(fb l B.to 5).l,(fb l B.to 5).to,(fb l B.to 5).e,(fb l B.to 5).at_⟩:eC))) (λ_ h=>⟨_,rfl,iO h⟩)
   have u:=u.p1.drop.p1.drop.p1.drop;exact⟨_,rfl,u.fresh⟩
  refine aA kQ (aB (v:=hU B.to) bL u.hb rfl ?_);have tS:=nK (l:=l) (i:=B.to) (t:=hZ #[41]) (by simpa using JO);refine aK bP (aA kQ (aO u bL (dP rfl) (rfl) λ_ u=>have u:=u.enc (cs':=iW (⟨Y,(B.to+1),B.e,B.at_⟩:cP)) rfl;aE eL u.At (aH (x:=(⟨Y,(B.to+1),B.e,B.at_⟩:cP)) u.p2 eL rfl rfl λ_ u=>aE eL u.At ?_)));have I:r=(⟨B.l,(B.to+1),B.e,B.at_⟩:eC):=ZY.trans ((ez JN).trans (fi (by simpa using JO)));rw[I];have u:=u.p2.dH (Ψ:=(λw=>l2 w (⟨Y,(B.to+1),B.e,B.at_⟩:cP) (⟨B.l,(B.to+1),B.e,B.at_⟩:eC))) (λ_ h=>⟨_,rfl,iO h⟩)
  have u:=u.p1.drop.p1.drop;exact⟨_,rfl,u.fresh⟩
 have W:=Fk hr bP ht O G J;refine aZ eB (E.ext u.aF) bP ht (λ_ X3=>cU t.kind iS X3 rfl rfl λ_ X4=>aE bL X4 (aG (aC (λCV=>?_) λCV=>⟨λU w'=>U=.bool (decide (t.kind=1)&&fB t.text)/\St w bF [bM Ln (iW (⟨bZ,0,0,0⟩:cP))] w',aZ eB (E.ext u.aF) bP ht (λ_ X5=>cU t.kind iS X5 rfl rfl λ_ X6=>aE bL X6 (aG (aC (λHF=>aZ eB (E.ext u.aF) bP ht λ_ X7=>cU t.text jT X7 rfl rfl λ_ X8=>aE j3 X8 (aR MQ u (C198 _ _ bP) λ_ _ u=>⟨vb (by rw[fj HF];rfl),u⟩)) λHF=>⟨vb (by rw[ga HF];rfl),u⟩))),?_⟩)))
 .refine aZ eB (E.ext u.aF) bP ht (λ_ X9=>cU t.n nc X9 rfl rfl λ_ Ya=>have u:=u.drew;aE bL Ya (aZ eB (E.ext u.aF) bP ht λ_ Yb=>cU t.at_ iT Yb rfl rfl λ_ Yc=>aE bL Yc (pop (Cb _ _ _) (aK bP (bK ([(⟨1,t.n,(hZ #[]),t.at_⟩:bI)]) u jx rfl rfl (dP rfl) λajA _ u=>?_)))));obtain⟨JQ,rfl⟩:=u.gu;refine pop (tf _ _ _ _) (aH (x:=(⟨JQ,(i+1),0,0⟩:cP)) u.p1 eL rfl rfl λ_ u=>aE eL u.At ?_);have I:r=(⟨[(⟨1,t.n,(hZ #[]),t.at_⟩:bI)],(i+1),0,0⟩:eC):=W.trans (fi CV)
  rw[I];have u:=u.p1.freeze.dH (Ψ:=(λw=>l2 w (⟨JQ,(i+1),0,0⟩:cP) (⟨[(⟨1,t.n,(hZ #[]),t.at_⟩:bI)],(i+1),0,0⟩:eC))) (λ_ h=>⟨_,rfl,DL.eO h⟩);have u:=u.p1.drop;exact⟨_,rfl,u.fresh⟩
 rintro _ _ ⟨rfl,u⟩ _;refine bD (λHG=>?_) (λHG=>?_)
 .refine aZ eB (E.ext u.aF) bP ht (λ_ Yd=>cU t.text jT Yd rfl rfl λ_ Ye=>have u:=u.drew;aE j3 Ye (aZ eB (E.ext u.aF) bP ht λ_ Yf=>cU t.at_ iT Yf rfl rfl λ_ Yg=>aE bL Yg (pop (Cc _ _ _) (aK bP (bK ([(⟨2,0,t.text,t.at_⟩:bI)]) u jx rfl rfl (dP rfl) λajB _ u=>?_)))));obtain⟨JR,rfl⟩:=u.gu;refine pop (tf _ _ _ _) (aH (x:=(⟨JR,(i+1),0,0⟩:cP)) u.p1 eL rfl rfl λ_ u=>aE eL u.At ?_);have I:r=(⟨[(⟨2,0,t.text,t.at_⟩:bI)],(i+1),0,0⟩:eC):=W.trans ((ez CV).trans (fi HG))
  rw[I];have u:=u.p1.freeze.dH (Ψ:=(λw=>l2 w (⟨JR,(i+1),0,0⟩:cP) (⟨[(⟨2,0,t.text,t.at_⟩:bI)],(i+1),0,0⟩:eC))) (λ_ h=>⟨_,rfl,DL.eO h⟩);have u:=u.p1.drop;exact⟨_,rfl,u.fresh⟩
 refine dX IB (C357 _ l i 5 _ (E.ext u.aF) Z) ?_;rintro _ _ ⟨afV,rfl,M⟩;have u:=u.made M;obtain⟨Fm,TN,_⟩:=u.eI;subst TN;refine aH (x:=(⟨Fm,(fb l i 5).to,(fb l i 5).e,(fb l i 5).at_⟩:cP)) u.p1 eL rfl rfl (λ_ u=>aE eL u.At ?_);have I:r=(⟨(fb l i 5).l,(fb l i 5).to,(fb l i 5).e,(fb l i 5).at_⟩:eC):=W.trans ((ez CV).trans (ez (by simpa using HG)));rw[I];have u:=u.p1.dH (Ψ:=(λw=>l2 w (⟨Fm,(fb l i 5).to,(fb l i 5).e,(fb l i 5).at_⟩:cP) (⟨(fb l i 5).l,(fb l i 5).to,(fb l i 5).e,(fb l i 5).at_⟩:eC))) (λ_ h=>⟨_,rfl,iO h⟩)
 have u:=u.p1.drop;exact⟨_,rfl,u.fresh⟩
theorem Qe{l:List aX}{i:Int}{R:List bI×Int×Int×Int}(h:qD l i=some R)(hi:¬ i<0):∃x,Bs l 10000 i 0 0=some x/\
  (if x.e≠0 then some ([],0,x.e,x.at_)else match tj x.l,l[i.toNat]? with
  | some t,some k=>if x.l.length<=10000 then(if 12<t.depth then some ([],0,7,k.at_)else if 40<x.l.length then some ([],0,2,k.at_)else some (x.l,x.to,0,0))else none
  | _,_=>none)=some R:=by
 unfold qD at h;rw[ez hi]at h
 cases hx:Bs l 10000 i 0 0 with
 | none=>grind
 | some x=>grind
theorem HH{x:eC}{o:Option aX}{R:List bI×Int×Int×Int}(h:(match tj x.l,o with
  | some t,some k=>if x.l.length<=10000 then(if 12<t.depth then some ([],0,7,k.at_)else if 40<x.l.length then some ([],0,2,k.at_)else some (x.l,x.to,0,0))else none
  | _,_=>none)=some R):∃t k,tj x.l=some t/\o=some k/\x.l.length<=10000/\(if 12<t.depth then some ([],0,7,k.at_)else if 40<x.l.length then some ([],0,2,k.at_)else some (x.l,x.to,0,0))=some R:=by
 grind
def C287(l:List aX)(j:Nat)(lv:Value)(i d n:Int)(r:eC)(w:World)(U:dy (λ_=>True) w lv l)(hk:fU l)(HR:XV l (Bs l j))(h0:0<=i/\i<=l.length)(hd:0<=d/\d<=12)(hnn:0<=n/\n<=5)(hr:Bs l (j+1) i d n=some r):CR 287 [lv,hU i,hU d,hU n] w (λv w'=>∃sh:cP,v=ia sh/\mG (eI λw=>l2 w sh r) w w'):=by
 have ya:=hk.n;have hn:l.length<=1000000:=bP
 have qN:=hk.at_;have u:=St.start w;refine RN _ _ _ _ _ _ ?_;unfold S287;refine aM u n8 (λKL _ u=>have u:=u.enc (cs':=iW (⟨bZ,0,0,0⟩:cP)) rfl;aG (aC (λj1=>?_) λj1=>?_))
 .refine dX UQ (C339 l (Bs l j) _ i d r _ (U.ext u.aF) hk HR h0 hd (VV (by rw[j1]at hr;exact hr))) ?_;rintro _ _ ⟨XX,rfl,G⟩;have u:=u.made G;obtain⟨vk,HD,_⟩:=u.eI;subst HD;refine aH (x:=(⟨vk,r.to,r.e,r.at_⟩:cP)) u.p1 eL rfl rfl (λ_ u=>aE eL u.At ?_);have B:r=(⟨r.l,r.to,r.e,r.at_⟩:eC):=rfl;rw[B];have u:=u.p1.dH (Ψ:=(λw=>l2 w (⟨vk,r.to,r.e,r.at_⟩:cP) (⟨r.l,r.to,r.e,r.at_⟩:eC))) (λ_ h=>⟨_,rfl,iO h⟩);have u:=u.p1.drop;exact⟨_,rfl,u.fresh⟩
 obtain⟨I,hx1,ajC⟩:=ad7 hr j1;refine aK bP (dX IA ((HR _ i d (n+1) I _ (U.ext u.aF) hx1 h0 hd bP).1) ?_);rintro _ _ ⟨ajD,rfl,G⟩;have u:=u.made G;obtain⟨CW,Yh,_⟩:=u.eI;subst Yh;refine aM u n8 (λvQ _ u=>have u:=u.enc (cs':=iW (⟨bZ,0,0,0⟩:cP)) rfl;aH (x:=(⟨CW,I.to,I.e,I.at_⟩:cP)) u eL rfl rfl λ_ u=>?_);have u:=u.p2.p2.p2.p1.dH (Ψ:=λw=>DL w (ia CW) I.l) (λ_ h=>iO h);have u:=u.p2.p1.p2;refine⟨λM w'=>∃(x:eC) (g:SV),qC (Bs l j) l d n M x=some r/\St w bF [bM vQ (iW (⟨g,x.to,x.e,x.at_⟩:cP)),eI (λw=>DL w (ia g) x.l),bM KL (iW (⟨bZ,0,0,0⟩:cP))] w',⟨j,I,CW,ajC,u⟩,?_⟩
 rintro M _ ⟨x,g,Y,u⟩ _;obtain⟨j2,rfl⟩:=HA Y;refine aA pe (aB (v:=hU x.e) gA u.hb rfl (aG (aC (λOY=>?_) λOY=>?_)))
 .have u:=u.p2.p2.p2;refine⟨λM o kk w'=>∃k:Nat,o=hU (zO l x.to n k)/\kk=hU (k:Int)/\M=(mz n).length-k/\k<=(mz n).length/\St w bF [bM vQ (iW (⟨g,x.to,x.e,x.at_⟩:cP)),eI (λw=>DL w (ia g) x.l),bM KL (iW (⟨bZ,0,0,0⟩:cP))] w',⟨_,0,rfl,rfl,rfl,mr _,u⟩,?_⟩;rintro M _ _ _ ⟨k,rfl,rfl,rfl,NJ,u⟩ _;have hfl4:=HC n;refine fZ MT u (C340 n _ bP) (λx31 _ G u=>aI dz u.eU (aS (aC (λxc=>⟨λjv w'=>jv=hU (zO l x.to n (k+1))/\St w bF [bM vQ (iW (⟨g,x.to,x.e,x.at_⟩:cP)),eI (λw=>DL w (ia g) x.l),bM KL (iW (⟨bZ,0,0,0⟩:cP))] w',?_,?_⟩) λxc=>?_)))
  .refine aA kQ (have u:=u.drew;aB (v:=hU x.to) bL u.p1.hb rfl (fZ MT u (C340 n _ bP) λx40 _ G u=>?_));refine⟨aY bL (u.p2.hb.cell rfl),?_⟩;obtain⟨VX,J⟩:=gx (mz n) (i:=(k:Int).toNat) bP;refine ed u dz bP bP (λ_ aec=>gP u bL aec J ?_);have hfb:=Qb J;refine aR aa5 u (C341 VX _ bP) (λ_ he u=>?_);refine⟨aY bL (u.p2.hb.cell rfl),?_⟩;exact aR qk u (C196 _ l x.to (Fh VX) _ (U.ext u.aF) hn) (λ_ _ u=>bD (λQf=>fZ MT u (C340 n _ bP) λ_ _ _ u=>ed u dz bP bP λ_ Pr=>gP u bL Pr J (have u:=u.drop.drop.drop.p2.p2.p2;⟨by rw[Br (k:=k) J,fi Qf]<;>rfl,u⟩)) λQf=>have u:=u.drop.drop.p2.p2.p2;⟨by rw[Br (k:=k) J,ez (by simpa using Qf)]<;>rfl,u⟩)
  .rintro _ _ ⟨rfl,u⟩ _;exact aK bP ⟨_,bP,k+1,rfl,rfl,rfl,bP,u⟩
  have Z:zO l x.to n k=CU l x.to n:=by unfold CU;rw[show k=(mz n).length from bP]
  refine aG (aC (λxj=>?_) λxj=>?_)
  .refine aE eL u.p1.At (aH (x:=(⟨g,x.to,x.e,x.at_⟩:cP)) u.p3 eL rfl rfl λ_ u=>aE eL u.At ?_);have B:r=(⟨x.l,x.to,x.e,x.at_⟩:eC):=Qc (x:=x) Y bP (by rw[<- Z];exact xj);rw[B];have u:=u.p3.dH (Ψ:=(λw=>l2 w (⟨g,x.to,x.e,x.at_⟩:cP) (⟨x.l,x.to,x.e,x.at_⟩:eC))) (λ_ h=>⟨_,rfl,id h⟩);have u:=u.p1.drop.p1.drop.p1.drop;exact⟨_,rfl,u.fresh⟩
  obtain⟨t,y,h0t,ht,hy,hye,E⟩:=Qd Y bP (by rw[<- Z];exact xj);have Kz:=(jq.1 ht).1;refine aA kQ (aB (v:=hU x.to) bL u.p1.hb rfl (aK bP (aK bP (dX IA ((HR _ (x.to+1) d (n+1) y _ (U.ext u.aF) hy bP hd bP).1) ?_))));rintro _ _ ⟨ajF,rfl,G⟩;have u:=u.made G;obtain⟨W,Yj,_⟩:=u.eI;subst Yj;refine aM u n8 (λb_y12 _ u=>have u:=u.enc (cs':=iW (⟨bZ,0,0,0⟩:cP)) rfl;aH (x:=(⟨W,y.to,y.e,y.at_⟩:cP)) u eL rfl rfl λ_ u=>aA pe (aB (v:=hU y.e) gA u.hb rfl (cC (aC (λqB=>?_) λqB=>?_))))
  .refine aE eL u.At (aH (x:=(⟨W,y.to,y.e,y.at_⟩:cP)) u.p5 eL rfl rfl λ_ u=>aE eL u.At ?_);have B:r=(⟨y.l,y.to,y.e,y.at_⟩:eC):=hye qB;rw[B];have u:=u.p2.dH (Ψ:=(λw=>l2 w (⟨W,y.to,y.e,y.at_⟩:cP) (⟨y.l,y.to,y.e,y.at_⟩:eC))) (λ_ h=>⟨_,rfl,iO h⟩);have u:=u.p1.drop.p1.drop.p1.drop.p1.drop.p1.drop;exact⟨_,rfl,u.fresh⟩
  refine aA kQ (aB (v:=hU x.to) bL u.p3.hb rfl (aZ eB (U.ext u.aF) bP ht λ_ aed=>cU t.at_ iT aed rfl rfl λ_ aee=>aE bL aee (pop (yF _ _) (bK ([(⟨(zO l x.to n k),0,(hZ #[]),t.at_⟩:bI)]) u jx rfl rfl (dP rfl) λaef _ u=>aA nh (aB (v:=ia (g:SV)) lH u.p4.hb rfl ?_)))));have Ha:=(E bP).1;have Yk:=(DL.flat (id u.p5.eI));refine cO u jx Yk (by simp;omega) ea (λs_x78 _ u=>aA nh (aB (v:=ia (W:SV)) lH u.p1.hb rfl ?_));have Yl:=(DL.flat (iO u.p2.eI))
  refine cO u jx Yl (by simp;omega) ea (λs_x82 _ u=>aA kQ (aB (v:=hU y.to) bL u.p1.hb rfl ?_));obtain⟨O,rfl⟩:=u.gu;refine pop (tf _ _ _ _) (aH (x:=(⟨O,y.to,0,0⟩:cP)) u.p4 eL rfl rfl λ_ u=>aG (aC (λQg=>?_) λQg=>?_))
  .refine aE eL u.At (aH (x:=(⟨O,y.to,0,0⟩:cP)) u.p6 eL rfl rfl λ_ u=>aE eL u.At ?_);have B:r=(⟨(([(⟨(zO l x.to n k),0,(hZ #[]),t.at_⟩:bI)]++x.l)++y.l),y.to,0,0⟩:eC):=((E bP).2.1 Qg).trans (by rw[<- Z]);rw[B];have u:=u.p2.freeze.dH (Ψ:=(λw=>l2 w (⟨O,y.to,0,0⟩:cP) (⟨(([(⟨(zO l x.to n k),0,(hZ #[]),t.at_⟩:bI)]++x.l)++y.l),y.to,0,0⟩:eC))) (λ_ h=>⟨_,rfl,DL.eO h⟩);have u:=u.p1.drop.p1.drop.p1.drop.p1.drop.p1.drop.p1.drop;exact⟨_,rfl,u.fresh⟩
  have u:=u.p1.freeze.dH (Ψ:=λw=>DL w (ia O) ([(⟨zO l x.to n k,0,hZ #[],t.at_⟩:bI)]++x.l++y.l)) (λ_ h=>DL.eO h);have u:=u.p2.drop.p2.drop.p2.drop.p2.drop.p2.p1.p2;have V:=(E bP).2.2 Qg;rw[<- Z]at V;exact⟨_,bP,⟨_,_,_,_⟩,O,V,u⟩
 refine aE eL u.At (aH (x:=(⟨g,x.to,x.e,x.at_⟩:cP)) u.p2 eL rfl rfl λ_ u=>aE eL u.At ?_);have B:r=(⟨x.l,x.to,x.e,x.at_⟩:eC):=TL (x:=x) Y bP;rw[B];have u:=u.p2.dH (Ψ:=(λw=>l2 w (⟨g,x.to,x.e,x.at_⟩:cP) (⟨x.l,x.to,x.e,x.at_⟩:eC))) (λ_ h=>⟨_,rfl,id h⟩);have u:=u.p1.drop.p1.drop;exact⟨_,rfl,u.fresh⟩
theorem Ym{l:List aX}(B:fU l):∀j,XV l (Bs l j)
 | 0=>λlv i d n r w E u=>by cases u
 | j+1=>λlv i d n r w E u G I J=>⟨C287 l j lv i d n r w E B (Ym B j) G I J u,λh5=>by subst h5;exact C339 l (Bs l j) lv i d r w E B (Ym B j) G I (VV u)⟩
def C200(l:List aX)(lv:Value)(i:Int)(R:List bI×Int×Int×Int)(w:World)(U:dy (λ_=>True) w lv l)(hk:fU l)(hil:i<=l.length)(M:qD l i=some R):CR 200 [lv,hU i] w (λv w'=>∃sv:SV,v=.tuple #[ia sv,hU R.2.1,hU R.2.2.1,hU R.2.2.2]/\mG (eI λw=>DL w (ia sv) R.1) w w'):=by
 have ya:=hk.n;have hn:l.length<=1000000:=bP
 have qN:=hk.at_;have u:=St.start w;refine qj Tryz.func200 (pl:=agU) ?_;refine aS (aC (λgG=>?_) λgG=>?_)
 .have B:R=([],0,1,0):=by
   unfold qD at M;rw[fi gG]at M;exact(nN.inj M).symm
  rw[B];exact⟨bZ,rfl,(u.fK (Φ:=λw=>DL w (ia (bZ:SV)) ([]:List bI)) λw=>DL.nil w).fresh⟩
 obtain⟨x,hx,O⟩:=Qe M bP;refine dX IA ((Ym hk 10000 _ i 0 0 x _ (U.ext u.aF) hx bP bP bP).1) ?_;rintro _ _ ⟨ajG,rfl,dw⟩;have u:=u.made dw;obtain⟨G,Yn,_⟩:=u.eI;subst Yn;refine aM u n8 (λKL _ u=>have u:=u.enc (cs':=iW (⟨bZ,0,0,0⟩:cP)) rfl;aH (x:=(⟨G,x.to,x.e,x.at_⟩:cP)) u eL rfl rfl λ_ u=>aA pe (aB (v:=hU x.e) gA u.hb rfl (cC (aC (λcW=>?_) λcW=>?_))))
 .refine aA pe (have u:=u.drew;aB (v:=hU x.e) gA u.hb rfl (aA Nd (aB (v:=hU x.at_) bL u.hb rfl ?_)))
  have B:R=([],0,x.e,x.at_):=by
   rw[fi cW]at O;exact(nN.inj O).symm
  rw[B];exact⟨bZ,rfl,(u.fK (Φ:=λw=>DL w (ia (bZ:SV)) ([]:List bI)) λw=>DL.nil w).fresh⟩
 rw[ez cW]at O;obtain⟨Z,I,W,Y,ZI,E⟩:=HH O;have htki:=(jq.1 Y).1;obtain⟨hwf,Gl⟩:=tm W;have V:A0 x.l 0 Z:=⟨bP,hwf,[],by simpa using Gl⟩;refine aA nh (aB (v:=ia (G:SV)) lH u.hb rfl (aR UO u (C288 _ x.l 0 Z (Z.size+1) _ (DL.flat (iO u.p1.eI)) bP V bP) λ_ he u=>dL (aC (λJ=>?_) λJ=>aA nh (aB (v:=ia (G:SV)) lH u.hb rfl (aI jx (DL.flat (iO u.p1.eI)) (dL (aC (λxc=>?_) λxc=>?_)))))))
 .refine aZ eB (U.ext u.aF) bP Y (λ_ PO=>cU I.at_ iT PO rfl rfl λ_ PQ=>have u:=u.drew;aE bL PQ ?_)
  have B:R=([],0,7,I.at_):=by
   rw[fi J]at E;exact(nN.inj E).symm
  rw[B];exact⟨bZ,rfl,(u.fK (Φ:=λw=>DL w (ia (bZ:SV)) ([]:List bI)) λw=>DL.nil w).fresh⟩
 .refine aZ eB (U.ext u.aF) bP Y (λ_ PR=>cU I.at_ iT PR rfl rfl λ_ Ol=>have u:=u.drew;aE bL Ol ?_)
  have B:R=([],0,2,I.at_):=by
   rw[ez J,fi bP]at E;exact(nN.inj E).symm
  rw[B];exact⟨bZ,rfl,(u.fK (Φ:=λw=>DL w (ia (bZ:SV)) ([]:List bI)) λw=>DL.nil w).fresh⟩
 refine aA nh (have u:=u.drew;aB (v:=ia (G:SV)) lH u.hb rfl (aA kQ (aB (v:=hU x.to) bL u.hb rfl ?_)));have u:=u.p1.dH (Ψ:=λw=>DL w (ia G) x.l) (λ_ h=>iO h)
 have B:R=(x.l,x.to,0,0):=by
  rw[ez J,ez bP]at E;exact(nN.inj E).symm
 rw[B];exact⟨G,rfl,u.fresh⟩
structure eG where
 at_:Int
 e:Int
 pos:Int
deriving DecidableEq
def gk(l:List aX)(s:eG)(e:Int):eG:=if s.e=0 then {s with e:=if (l.length:Int)<=s.at_ then 6 else e,pos:=jM l s.at_}else s
def cN(l:List aX)(s:eG)(t:ByteArray):eG:=if (decide (s.e=0)&&oy l s.at_ t)=true then {s with at_:=s.at_+1}else gk l s 5
def iX(l:List aX)(i:Int):Option aX:=if 0<=i then l[i.toNat]? else none
def oz(l:List aX)(s:eG):Bool:=decide (s.e=0)&&(match iX l s.at_ with|some t=>decide (t.kind=1)&&fB t.text|none=>false)
def lC(l:List aX)(i:Int):aX:=(iX l i).getD ⟨0,⟨#[]⟩,0,0⟩
def bX(l:List aX)(s:eG):eG×ByteArray:=if oz l s=true then({s with at_:=s.at_+1},(lC l s.at_).text)else(gk l s 5,⟨#[]⟩)
def mK(l:List aX)(s:eG):Option (eG×List bI):=if s.e≠0 then some (s,[])else(qD l s.at_).bind λR=>
 if R.2.2.1≠0 then some ({s with e:=R.2.2.1,pos:=R.2.2.2},[])else if 0<=R.2.1/\R.2.1<=l.length then some ({s with at_:=R.2.1},R.1)else none
def HI(l:List aX)(s:eG):Bool:=decide (s.e=0)&&(match iX l s.at_ with|some t=>decide (t.kind=2)|none=>false)
def iE(l:List aX)(s:eG):eG×Int:=if HI l s=true then(if 1<=(lC l s.at_).n/\(lC l s.at_).n<=8 then({s with at_:=s.at_+1},(lC l s.at_).n)else(gk l s 11,0))else(gk l s 5,0)
def yi:List ByteArray:=[⟨#[]⟩,⟨#[]⟩,⟨#[108,111,97,100]⟩,⟨#[115,116,111,114,101]⟩,⟨#[99,97,115]⟩,⟨#[102,108,117,115,104]⟩,⟨#[111,112,116]⟩,⟨#[115,102,101,110,99,101]⟩,⟨#[109,102,101,110,99,101]⟩,⟨#[116,97,107,101]⟩,⟨#[103,105,118,101]⟩,⟨#[105,102]⟩,⟨#[108,111,111,112]⟩,⟨#[98,114,101,97,107]⟩,⟨#[99,104,101,99,107]⟩]
def Bt(k:Int):ByteArray:=(yi[k.toNat]?).getD ⟨#[]⟩
def iP(l:List aX)(s:eG):Prop:=0<=s.at_/\s.at_<=l.length
section
variable {l:List aX}{s:eG}{e:Int}{t:ByteArray}
theorem oA(h:iP l s):iP l (gk l s e):=by unfold gk;split<;>exact h
theorem eu(h:iP l s):iP l (cN l s t):=by
 unfold cN;split
 .rename_i h2
  rw[nw]at h2
  have:=nK h2.2
  exact⟨cR,cR⟩
 exact oA h
theorem jt{i:Int}{k:aX}(h:iX l i=some k):0<=i/\i<l.length/\l[i.toNat]?=some k:=by
 unfold iX at h
 grind
theorem vl(h:oz l s=true):s.e=0/\∃k,iX l s.at_=some k/\k.kind=1/\fB k.text=true:=by
 unfold oz at h
 grind
theorem JS(h:HI l s=true):s.e=0/\∃k,iX l s.at_=some k/\k.kind=2:=by
 unfold HI at h
 grind
theorem fh(h:iP l s):iP l (bX l s).1:=by
 unfold bX;split
 .rename_i h2
  obtain⟨_,k,u,_⟩:=vl h2
  have:=jt u
  exact⟨cR,cR⟩
 exact oA h
theorem LN(h:iP l s):iP l (iE l s).1:=by
 unfold iE;split
 .rename_i h2
  obtain⟨_,k,u,_⟩:=JS h2
  have:=jt u
  split
  .exact⟨cR,cR⟩
  exact oA h
 exact oA h
theorem nL{s':eG}{x:List bI}(h:iP l s)(u:mK l s=some (s',x)):iP l s':=by
 unfold mK at u
 split at u
 .grind
 cases hx:qD l s.at_ with
 | none=>grind
 | some R=>
  grind[iP]
end
@[reducible] def dx(lv ov:Value)(s:eG):List Value:=[lv,.int .i64 s.at_,.int .i64 s.e,.int .i64 s.pos,ov]
@[reducible] def dA(lv:Value)(s:eG):List Value:=[lv,.int .i64 s.at_,.int .i64 s.e,.int .i64 s.pos]
def fx(l:List aX)(s:eG)(t:ByteArray):eG×Bool:=if (decide (s.e=0)&&oy l s.at_ t)=true then({s with at_:=s.at_+1},true)else(s,false)
def dU(l:List aX)(s:eG):eG×bO:=if oz l s=true then({s with at_:=s.at_+1},⟨(lC l s.at_).text,0,(lC l s.at_).at_⟩)else(gk l s 5,⟨⟨#[]⟩,0,0⟩)
def il{l:List aX}{s:eG}{t:ByteArray}(h:iP l s):iP l (fx l s t).1:=by
 unfold fx;split
 .rename_i h2
  rw[nw]at h2
  have:=nK h2.2
  exact⟨cR,cR⟩
 exact h
def pG{l:List aX}{s:eG}(h:iP l s):iP l (dU l s).1:=by
 unfold dU;split
 .rename_i h2
  obtain⟨_,k,u,_⟩:=vl h2
  have:=jt u
  exact⟨cR,cR⟩
 exact oA h
theorem Qi{l:List aX}{s u:eG}{x:List bI}(h:mK l s=some (u,x))(B:¬ s.e≠0):∃R,qD l s.at_=some R/\
  (if R.2.2.1≠0 then some ({s with e:=R.2.2.1,pos:=R.2.2.2},[])else if 0<=R.2.1/\R.2.1<=l.length then some ({s with at_:=R.2.1},R.1)else none)=some (u,x):=by
 unfold mK at h;rw[ez B]at h
 cases hx:qD l s.at_ with
 | none=>grind
 | some R=>grind
def Qj{l:List aX}{s u:eG}{x:List bI}{R:List bI×Int×Int×Int}(h:(if R.2.2.1≠0 then some ({s with e:=R.2.2.1,pos:=R.2.2.2},[])else if 0<=R.2.1/\R.2.1<=l.length then some ({s with at_:=R.2.1},R.1)else none)=some (u,x))(B:¬ R.2.2.1≠0):0<=R.2.1/\R.2.1<=l.length:=by
 grind
def C336(p:Nat)(lv ov:Value)(l:List aX)(s:eG)(e:Int)(F:Nat->Prop)(w:World)(V:(bM p (dx lv ov s)).p w F)(E:∀w',fH F w w'->dy (λ_=>True) w' lv l)(M:fU l)(W:iP l s):CR 336 [(.pointer (some ⟨p,0,none⟩)),hU e] w (λv w'=>v=.tuple #[]/\mF F (bM p (dx lv ov (gk l s e))) w w'):=by
 have u:=St.begin V;have ya:=M.n;have J:l.length<=1000000:=bP
 have I:=M.at_;obtain⟨JT,JU⟩:=id W;refine qj Tryz.func336 (pl:=ag1) ?_;refine aD (aA iz (aB gA u.hb rfl (aG (aC (λB=>aD (aA iz (aO u gA (dP rfl) (rfl) λ_ u=>⟨_,aD (aA dT (have u:=u.drew;aB bL u.hb rfl (aD (aA fz (aB fY u.hb rfl (aI eB (E _ u.aF) (cJ (aC (λG=>?_) λG=>?_)))))))),λ_ h=>h⟩))) λB=>?_))))
 .refine aD (aA iz (aO u gA (dP rfl) (rfl) λ_ u=>?_));intro Z;refine aD (aA fz (have u:=u.drew;aB fY u.hb rfl (aD (aA dT (aB bL u.hb rfl (aR AK u (C201 _ l s.at_ _ (E _ u.aF) J I) λO Y u=>aD (aA uD (aO u bL (dP rfl) (rfl) λU u=>?_))))))));have hb:gk l s e=(⟨s.at_,6,(jM l s.at_)⟩:eG):=by unfold gk;rw[fi B,fi G]
  rw[hb];exact⟨rfl,u.mut⟩
 .intro Z;refine aD (aA fz (have u:=u.drew;aB fY u.hb rfl (aD (aA dT (aB bL u.hb rfl (aR AK u (C201 _ l s.at_ _ (E _ u.aF) J I) λO Y u=>aD (aA uD (aO u bL (dP rfl) (rfl) λU u=>?_))))))));have hb:gk l s e=(⟨s.at_,e,(jM l s.at_)⟩:eG):=by unfold gk;rw[fi B,ez G]
  rw[hb];exact⟨rfl,u.mut⟩
 have hb:gk l s e=s:=by unfold gk;rw[ez B]
 rw[hb];exact⟨rfl,u.mut⟩
def C106(p:Nat)(lv:Value)(l:List aX)(s:eG)(F:Nat->Prop)(w:World)(V:(bM p (dA lv s)).p w F)(E:∀w',fH F w w'->dy (λ_=>True) w' lv l)(M:fU l)(W:iP l s):CR 106 [(.pointer (some ⟨p,0,none⟩))] w (λv w'=>v=.tuple #[]/\mF F (bM p (dA lv (gk l s 5))) w w'):=by
 have u:=St.begin V;have ya:=M.n;have J:l.length<=1000000:=bP
 have I:=M.at_;obtain⟨JT,JU⟩:=id W;refine qj Tryz.func106 (pl:=agH) ?_;refine aD (aA jj (aB gA u.hb rfl (aG (aC (λB=>aD (aA jj (aO u gA (dP rfl) (rfl) λ_ u=>⟨_,aD (aA eh (have u:=u.drew;aB bL u.hb rfl (aD (aA gS (aB fY u.hb rfl (aI eB (E _ u.aF) (cJ (aC (λG=>?_) λG=>?_)))))))),λ_ h=>h⟩))) λB=>?_))))
 .refine aD (aA jj (aO u gA (dP rfl) (rfl) λ_ u=>?_));intro Z;refine aD (aA gS (have u:=u.drew;aB fY u.hb rfl (aD (aA eh (aB bL u.hb rfl (aR AK u (C201 _ l s.at_ _ (E _ u.aF) J I) λO Y u=>aD (aA qW (aO u bL (dP rfl) (rfl) λU u=>?_))))))));have hb:gk l s 5=(⟨s.at_,6,(jM l s.at_)⟩:eG):=by unfold gk;rw[fi B,fi G]
  rw[hb];exact⟨rfl,u.mut⟩
 .intro Z;refine aD (aA gS (have u:=u.drew;aB fY u.hb rfl (aD (aA eh (aB bL u.hb rfl (aR AK u (C201 _ l s.at_ _ (E _ u.aF) J I) λO Y u=>aD (aA qW (aO u bL (dP rfl) (rfl) λU u=>?_))))))));have hb:gk l s 5=(⟨s.at_,5,(jM l s.at_)⟩:eG):=by unfold gk;rw[fi B,ez G]
  rw[hb];exact⟨rfl,u.mut⟩
 have hb:gk l s 5=s:=by unfold gk;rw[ez B]
 rw[hb];exact⟨rfl,u.mut⟩
def C286(p:Nat)(lv ov:Value)(l:List aX)(s:eG)(t:ByteArray)(F:Nat->Prop)(w:World)(W:(bM p (dx lv ov s)).p w F)(I:∀w',fH F w w'->dy (λ_=>True) w' lv l)(G:fU l)(J:iP l s):CR 286 [(.pointer (some ⟨p,0,none⟩)),.string t] w (λv w'=>v=.tuple #[]/\mF F (bM p (dx lv ov (cN l s t))) w w'):=by
 have u:=St.begin W;have ya:=G.n;have V:l.length<=1000000:=bP
 have qN:=G.at_;obtain⟨JT,JU⟩:=id J;refine qj Tryz.func286 (pl:=agZ) ?_;refine⟨λZ w'=>Z=.bool (decide (s.e=0)&&oy l s.at_ t)/\St w F [bM p (dx lv ov s)] w',aD (aA iz (have u:=u.drew;aB gA u.hb rfl (aG (aC (λE=>aD (aA fz (aB fY u.hb rfl (aD (aA dT (aB bL u.hb rfl (aR qk u (C196 _ l s.at_ t _ (I _ u.aF) V) λ_ _ u=>⟨vb (by first|(rw[fj E];rfl)|(rw[ga E];rfl)),u⟩))))))) λE=>⟨vb (by first|(rw[fj E];rfl)|(rw[ga E];rfl)),u⟩)))),?_⟩;rintro _ _ ⟨rfl,u⟩ _;refine bD (λB=>?_) (λB=>?_)
 .have U:=nK (by rw[nw]at B;exact B.2);refine aD (aA dT (aB bL u.hb rfl (aK bP (aD (aA dT (aO u bL (dP rfl) (rfl) λ_ u=>?_))))));have hb:cN l s t={s with at_:=s.at_+1}:=by unfold cN;rw[fi (by simpa using B)]
  rw[hb];exact⟨rfl,u.mut⟩
 refine aU AN u (H':=λ_=>bM p (dx lv ov (gk l s 5))) (Φ:=λ_ _=>True) (λY O M=>?_) ?_
 .exact(C336 p lv ov l s 5 Y _ O (λw' hc=>I w' (M w' hc).aF) G J).mono λ_ _ r=>r.mono λ_ _ h=>⟨trivial,h.2⟩
 rintro _ _ _ u;have hb:cN l s t=gk l s 5:=by unfold cN;rw[ez (by simpa using B)]
 rw[hb];exact⟨rfl,u.mut⟩
def C101(p:Nat)(lv:Value)(l:List aX)(s:eG)(t:ByteArray)(F:Nat->Prop)(w:World)(O:(bM p (dA lv s)).p w F)(I:∀w',fH F w w'->dy (λ_=>True) w' lv l)(G:fU l)(U:iP l s):CR 101 [(.pointer (some ⟨p,0,none⟩)),.string t] w (λv w'=>v=.bool (fx l s t).2/\mF F (bM p (dA lv (fx l s t).1)) w w'):=by
 have u:=St.begin O;have Y:=G.n;have M:l.length<=1000000:=bP
 have W:=G.at_;obtain⟨JT,Z⟩:=id U;refine qj Tryz.func101 (pl:=agC) ?_;refine⟨λV w'=>V=.bool (decide (s.e=0)&&oy l s.at_ t)/\St w F [bM p (dA lv s)] w',aD (aA jj (have u:=u.drew;aB gA u.hb rfl (aG (aC (λE=>aD (aA gS (aB fY u.hb rfl (aD (aA eh (aB bL u.hb rfl (aR qk u (C196 _ l s.at_ t _ (I _ u.aF) M) λ_ _ u=>⟨vb (by first|(rw[fj E];rfl)|(rw[ga E];rfl)),u⟩))))))) λE=>⟨vb (by first|(rw[fj E];rfl)|(rw[ga E];rfl)),u⟩)))),?_⟩;rintro _ _ ⟨rfl,u⟩ _;refine bD (λB=>?_) (λB=>?_)
 .have J:=nK (by rw[nw]at B;exact B.2);refine aD (aA eh (aB bL u.hb rfl (aK bP (aD (aA eh (aO u bL (dP rfl) (rfl) λ_ u=>?_))))));have hb:fx l s t=({s with at_:=s.at_+1},true):=by unfold fx;rw[fi (by simpa using B)]
  rw[hb];exact⟨rfl,u.mut⟩
 have hb:fx l s t=(s,false):=by unfold fx;rw[ez (by simpa using B)]
 rw[hb];exact⟨rfl,u.mut⟩
def C197(p:Nat)(lv:Value)(l:List aX)(s:eG)(t:ByteArray)(F:Nat->Prop)(w:World)(W:(bM p (dA lv s)).p w F)(V:∀w',fH F w w'->dy (λ_=>True) w' lv l)(E:fU l)(O:iP l s):CR 197 [(.pointer (some ⟨p,0,none⟩)),.string t] w (λv w'=>v=.tuple #[]/\mF F (bM p (dA lv (cN l s t))) w w'):=by
 have B:=St.begin W;have ya:=E.n;have hn:l.length<=1000000:=bP
 have Y:=E.at_;obtain⟨JT,JU⟩:=id O;refine eT Tryz.func197 ?_;refine aU sO B (H':=λ_=>bM p (dA lv (fx l s t).1)) (Φ:=λv _=>v=.bool (fx l s t).2) (λU M G=>?_) ?_
 .exact C101 p lv l s t U _ M (λw' hc=>V w' (G w' hc).aF) E O
 rintro _ w1 rfl B;refine bJ (bD (λI=>?_) λI=>?_)
 .refine aU Ir B (H':=λ_=>bM p (dA lv (gk l (fx l s t).1 5))) (Φ:=λ_ _=>True) (λU M G=>?_) ?_
  .exact(C106 p lv l (fx l s t).1 U _ M (λw' hc=>V w' (G w' hc).aF) E (il O)).mono λ_ _ r=>r.mono λ_ _ h=>⟨trivial,h.2⟩
  rintro _ Z _ B
  have J:cN l s t=gk l (fx l s t).1 5:=by
   have u:(fx l s t).2=false:=by simpa using I
   unfold fx at u |-;unfold cN
   split at u
   .cases u
   .rename_i h8;rw[ez h8,ez h8]
  rw[J];exact⟨rfl,B.mut⟩
 have J:cN l s t=(fx l s t).1:=by
  have u:(fx l s t).2=true:=by simpa using I
  unfold fx at u |-;unfold cN
  split at u
  .rename_i h8;rw[fi h8,fi h8]
  .cases u
 rw[J];exact⟨rfl,B.mut⟩
def C354(p:Nat)(lv ov:Value)(l:List aX)(s:eG)(F:Nat->Prop)(w:World)(hF:(bM p (dx lv ov s)).p w F)(I:∀w',fH F w w'->dy (λ_=>True) w' lv l)(O:fU l)(U:iP l s):CR 354 [(.pointer (some ⟨p,0,none⟩))] w (λv w'=>v=.string (bX l s).2/\mF F (bM p (dx lv ov (bX l s).1)) w w'):=by
 have u:=St.begin hF;have ya:=O.n;have hn:l.length<=1000000:=bP
 have Y:=O.at_;obtain⟨JT,JU⟩:=id U;refine qj Tryz.func354 (pl:=ag9) ?_;refine⟨λjv w'=>jv=.bool (oz l s)/\St w F [bM p (dx lv ov s)] w',?_,?_⟩
 .refine aD (aA iz (have u:=u.drew;aB gA u.hb rfl (aG (aC (λB=>aD (aA dT (aB bL u.hb rfl (aD (aA fz (aB fY u.hb rfl (aI eB (I _ u.aF) (aS (aC (λme=>?_) λme=>⟨vb (by unfold oz iX;first|(rw[ga B];rfl)|(rw[fi bP,l3 bP];simp;done)|(rw[fi bP,G,fj B];dsimp only;first|(rw[ga E];rfl)|(rw[fj E];rfl))),u⟩))))))))) λB=>⟨vb (by unfold oz iX;first|(rw[ga B];rfl)|(rw[fi bP,l3 bP];simp;done)|(rw[fi bP,G,fj B];dsimp only;first|(rw[ga E];rfl)|(rw[fj E];rfl))),u⟩))))
  refine aD (aA fz (aB fY u.hb rfl (aD (aA dT (aB bL u.hb rfl ?_)))));obtain⟨W,G⟩:=gx l (i:=s.at_.toNat) bP;refine aZ eB (I _ u.aF) bP G (λ_ uP=>cU (W).kind iS uP rfl rfl λ_ uQ=>?_);exact aE bL uQ (aG (aC (λE=>aD (aA fz (aB fY u.hb rfl (aD (aA dT (aB bL u.hb rfl (aZ eB (I _ u.aF) bP G λ_ sY=>cU (W).text jT sY rfl rfl λ_ Z=>aE j3 Z (aR MQ u (C198 _ _ (by have:=Y _ (l0 G);omega)) λ_ he u=>⟨vb (by unfold oz iX;first|(rw[ga B];rfl)|(rw[fi bP,l3 bP];simp;done)|(rw[fi bP,G,fj B];dsimp only;first|(rw[ga E];rfl)|(rw[fj E];rfl))),u⟩)))))))) λE=>⟨vb (by unfold oz iX;first|(rw[ga B];rfl)|(rw[fi bP,l3 bP];simp;done)|(rw[fi bP,G,fj B];dsimp only;first|(rw[ga E];rfl)|(rw[fj E];rfl))),u⟩))
 rintro _ _ ⟨rfl,u⟩ _;refine bD (λJ=>?_) (λJ=>?_)
 .obtain⟨_,M,V,_,_⟩:=vl J;obtain⟨aeg,aeh,Yo⟩:=jt V;have Cy:l[(s.at_+1-1).toNat]?=some M:=by rw[<- Yo];congr 2;omega
  refine aD (aA dT (aB bL u.hb rfl (aK bP (aD (aA dT (aO u bL (dP rfl) (rfl) λ_ u=>aD (aA fz (have u:=u.drew;aB fY u.hb rfl (aD (aA dT (aB bL u.hb rfl ?_)))))))))));refine fo bP (aZ eB (I _ u.aF) bP Cy λ_ Qk=>cU M.text jT Qk rfl rfl λ_ Ql=>aE j3 Ql ?_);have hb:bX l s=({s with at_:=s.at_+1},M.text):=by unfold bX;rw[fi J];unfold lC;rw[V];rfl
  rw[hb];exact⟨rfl,u.mut⟩
 refine aU AN u (H':=λ_=>bM p (dx lv ov (gk l s 5))) (Φ:=λ_ _=>True) (λF2 dQ dK=>?_) ?_
 .exact(C336 p lv ov l s 5 F2 _ dQ (λw' hc=>I w' (dK w' hc).aF) O U).mono λ_ _ r=>r.mono λ_ _ h=>⟨trivial,h.2⟩
 rintro _ _ _ u;have hb:bX l s=(gk l s 5,⟨#[]⟩):=by unfold bX;rw[ez (by simpa using J)]
 rw[hb];exact⟨rfl,u.mut⟩
def C103(p:Nat)(lv:Value)(l:List aX)(s:eG)(F:Nat->Prop)(w:World)(hF:(bM p (dA lv s)).p w F)(J:∀w',fH F w w'->dy (λ_=>True) w' lv l)(U:fU l)(W:iP l s):CR 103 [(.pointer (some ⟨p,0,none⟩))] w (λv w'=>v=ia (dU l s).2/\mF F (bM p (dA lv (dU l s).1)) w w'):=by
 have u:=St.begin hF;have ya:=U.n;have hn:l.length<=1000000:=bP
 have qN:=U.at_;obtain⟨JT,JU⟩:=id W;refine qj Tryz.func103 (pl:=agE) ?_;refine aM u lR (λyR _ u=>⟨λjv w'=>jv=.bool (oz l s)/\St w F [bM p (dA lv s),bM yR (iW (⟨hZ #[],0,0⟩:bO))] w',?_,?_⟩)
 .refine aD (aA jj (have u:=u.drew;aB gA u.p1.hb rfl (aG (aC (λB=>aD (aA eh (aB bL u.p1.hb rfl (aD (aA gS (aB fY u.p1.hb rfl (aI eB (J _ u.aF) (aS (aC (λme=>?_) λme=>have u:=u.p1;⟨vb (by unfold oz iX;first|(rw[ga B];rfl)|(rw[fi bP,l3 bP];simp;done)|(rw[fi bP,G,fj B];dsimp only;first|(rw[ga E];rfl)|(rw[fj E];rfl))),u⟩))))))))) λB=>have u:=u.p1;⟨vb (by unfold oz iX;first|(rw[ga B];rfl)|(rw[fi bP,l3 bP];simp;done)|(rw[fi bP,G,fj B];dsimp only;first|(rw[ga E];rfl)|(rw[fj E];rfl))),u⟩))))
  refine aD (aA gS (aB fY u.p1.hb rfl (aD (aA eh (aB bL u.p1.hb rfl ?_)))));obtain⟨Z,G⟩:=gx l (i:=s.at_.toNat) bP;refine aZ eB (J _ u.aF) bP G (λ_ uP=>cU Z.kind iS uP rfl rfl λ_ uQ=>?_);exact aE bL uQ (aG (aC (λE=>aD (aA gS (aB fY u.p1.hb rfl (aD (aA eh (aB bL u.p1.hb rfl (aZ eB (J _ u.aF) bP G λ_ sY=>cU Z.text jT sY rfl rfl λ_ zM=>aE j3 zM (aR MQ u (C198 _ _ (by have:=qN _ (l0 G);omega)) λ_ he u=>have u:=u.p1;⟨vb (by unfold oz iX;first|(rw[ga B];rfl)|(rw[fi bP,l3 bP];simp;done)|(rw[fi bP,G,fj B];dsimp only;first|(rw[ga E];rfl)|(rw[fj E];rfl))),u⟩)))))))) λE=>have u:=u.p1;⟨vb (by unfold oz iX;first|(rw[ga B];rfl)|(rw[fi bP,l3 bP];simp;done)|(rw[fi bP,G,fj B];dsimp only;first|(rw[ga E];rfl)|(rw[fj E];rfl))),u⟩))
 rintro _ _ ⟨rfl,u⟩ _;refine bD (λM=>?_) (λM=>?_)
 .obtain⟨_,I,Y,_,_⟩:=vl M;obtain⟨aeg,aeh,Yo⟩:=jt Y;have V:l[(s.at_+1-1).toNat]?=some I:=by rw[<- Yo];congr 2;omega
  refine aD (aA eh (aB bL u.hb rfl (aK bP (aD (aA eh (aO u bL (dP rfl) (rfl) λ_ u=>aD (aA gS (have u:=u.drew;aB fY u.hb rfl (aD (aA eh (aB bL u.hb rfl ?_)))))))))));refine fo bP (aZ eB (J _ u.aF) bP V λ_ Qk=>cU I.text jT Qk rfl rfl λ_ Ql=>aE j3 Ql (aD (aA gS (aB fY u.hb rfl (aD (aA eh (aB bL u.hb rfl (fo bP (aZ eB (J _ u.aF) bP V λ_ O=>cU I.at_ iT O rfl rfl λ_ Qm=>?_)))))))))
  refine aE bL Qm (pop (Gv _ _) (aH (x:=(⟨I.text,0,I.at_⟩:bO)) u.p1 jS rfl rfl λ_ u=>aE jS u.At ?_));have u:=u.drop;have hb:dU l s=({s with at_:=s.at_+1},⟨I.text,0,I.at_⟩):=by unfold dU;rw[fi M];unfold lC;rw[Y];rfl
  rw[hb];exact⟨rfl,u.mut⟩
 refine aU Ir u (H':=λ_=>bM p (dA lv (gk l s 5))) (Φ:=λ_ _=>True) (λF2 dQ dK=>?_) ?_
 .exact(C106 p lv l s F2 _ dQ (λw' hc=>J w' (dK w' hc).aF) U W).mono λ_ _ r=>r.mono λ_ _ h=>⟨trivial,h.2⟩
 rintro _ _ _ u;refine pop Sa (aH (x:=(⟨(hZ #[]),0,0⟩:bO)) u.p1 jS rfl rfl λ_ u=>aE jS u.At ?_);have u:=u.drop;have hb:dU l s=(gk l s 5,⟨⟨#[]⟩,0,0⟩):=by unfold dU;rw[ez (by simpa using M)]
 rw[hb];exact⟨rfl,u.mut⟩
def C335(k:Int)(w:World)(M:0<=k/\k<=14):CR 335 [hU k] w (λv w'=>v=.string (Bt k)/\Ext w w'):=by
 have u:=St.start w;refine eT Tryz.func335 ?_;refine bK yi u iR rfl rfl (dP rfl) (λI _ u=>?_);have G:yi.length=15:=rfl;obtain⟨E,B⟩:=gx yi (i:=k.toNat) bP;refine ed u iR bP bP (λ_ J=>gP u j3 J B ?_);refine⟨?_,u.drop.aF⟩;unfold Bt;rw[B];rfl
def C356(p:Nat)(lv ov:Value)(l:List aX)(s:eG)(F:Nat->Prop)(w:World)(hF:(bM p (dx lv ov s)).p w F)(G:∀w',fH F w w'->dy (λ_=>True) w' lv l)(M:fU l)(W:iP l s):CR 356 [(.pointer (some ⟨p,0,none⟩))] w (λv w'=>v=hU (iE l s).2/\mF F (bM p (dx lv ov (iE l s).1)) w w'):=by
 have u:=St.begin hF;have ya:=M.n;have hn:l.length<=1000000:=bP
 have qN:=M.at_;obtain⟨JT,JU⟩:=id W;refine qj Tryz.func356 (pl:=ahb) ?_;refine⟨λZ w'=>Z=.bool (HI l s)/\St w F [bM p (dx lv ov s)] w',?_,?_⟩
 .refine aD (aA iz (have u:=u.drew;aB gA u.hb rfl (aG (aC (λB=>aD (aA dT (aB bL u.hb rfl (aD (aA fz (aB fY u.hb rfl (aI eB (G _ u.aF) (aS (aC (λfg=>?_) λfg=>⟨vb (by unfold HI iX;first|(rw[ga B];rfl)|(rw[fi bP,l3 bP];simp;done)|(rw[fi bP,J,fj B];rfl)),u⟩))))))))) λB=>⟨vb (by unfold HI iX;first|(rw[ga B];rfl)|(rw[fi bP,l3 bP];simp;done)|(rw[fi bP,J,fj B];rfl)),u⟩))))
  refine aD (aA fz (aB fY u.hb rfl (aD (aA dT (aB bL u.hb rfl ?_)))));obtain⟨IZ,J⟩:=gx l (i:=s.at_.toNat) bP;exact aZ eB (G _ u.aF) bP J (λ_ uQ=>cU IZ.kind iS uQ rfl rfl λ_ Oe=>aE bL Oe (aG ⟨vb (by unfold HI iX;first|(rw[ga B];rfl)|(rw[fi bP,l3 bP];simp;done)|(rw[fi bP,J,fj B];rfl)),u⟩))
 rintro _ _ ⟨rfl,u⟩ _;refine bD (λE=>?_) (λE=>?_)
 .obtain⟨_,I,FX,_⟩:=JS E;obtain⟨aeg,aeh,Cy⟩:=jt FX;refine aD (aA fz (have u:=u.drew;aB fY u.hb rfl (aD (aA dT (aB bL u.hb rfl (aZ eB (G _ u.aF) bP Cy λ_ sY=>cU I.n nc sY rfl rfl λ_ zM=>aE bL zM ⟨λZ w'=>Z=.bool (decide (1<=I.n/\I.n<=8))/\St w F [bM p (dx lv ov s)] w',cJ (aC (λ_=>gO ⟨vb (by first|exact(ga bP).symm|exact gh.2 bP),u⟩) λ_=>⟨vb (by first|exact(ga bP).symm|exact gh.2 bP),u⟩),?_⟩))))))
  rintro _ _ ⟨rfl,u⟩ _;refine aC (λO=>?_) (λO=>?_)
  .refine aD (aA dT (aB bL u.hb rfl (aK bP (aD (aA dT (aO u bL (dP rfl) (rfl) λ_ u=>?_))))));have hb:iE l s=({s with at_:=s.at_+1},I.n):=by unfold iE;rw[fi E];unfold lC;rw[FX];exact fi O
   rw[hb];exact⟨rfl,u.mut⟩
  refine aU AN u (H':=λ_=>bM p (dx lv ov (gk l s 11))) (Φ:=λ_ _=>True) (λY V U=>?_) ?_
  .exact(C336 p lv ov l s 11 Y _ V (λw' hc=>G w' (U w' hc).aF) M W).mono λ_ _ r=>r.mono λ_ _ h=>⟨trivial,h.2⟩
  rintro _ _ _ u;have hb:iE l s=(gk l s 11,0):=by unfold iE;rw[fi E];unfold lC;rw[FX];exact ez O
  rw[hb];exact⟨rfl,u.mut⟩
 refine aU AN u (H':=λ_=>bM p (dx lv ov (gk l s 5))) (Φ:=λ_ _=>True) (λY V U=>?_) ?_
 .exact(C336 p lv ov l s 5 Y _ V (λw' hc=>G w' (U w' hc).aF) M W).mono λ_ _ r=>r.mono λ_ _ h=>⟨trivial,h.2⟩
 rintro _ _ _ u;have hb:iE l s=(gk l s 5,0):=by unfold iE;rw[ez (by simpa using E)]
 rw[hb];exact⟨rfl,u.mut⟩
def C355(p:Nat)(lv ov:Value)(l:List aX)(s:eG)(B:eG)(x:List bI)(F:Nat->Prop)(w:World)(Z:(bM p (dx lv ov s)).p w F)(Y:∀w',fH F w w'->dy (λ_=>True) w' lv l)(U:fU l)(h0:iP l s)(I:mK l s=some (B,x)):CR 355 [(.pointer (some ⟨p,0,none⟩))] w (λv w'=>mF F (oW λV:SV=>fact (v=ia V) (sep (bM p (dx lv ov B)) (eI λw=>DL w (ia V) x))) w w'):=by
 have u:=St.begin Z;have ya:=U.n;have hn:l.length<=1000000:=bP
 have qN:=U.at_;obtain⟨JT,JU⟩:=id h0;refine qj Tryz.func355 (pl:=aha) ?_;refine aD (aA iz (aB gA u.hb rfl (cC (aC (λW=>?_) λW=>?_))))
 .have E:((s,[]):eG×List bI)=(B,x):=by unfold mK at I;rw[fi W]at I;exact nN.inj I
  cases E;have u:=(u.fK (Φ:=λw=>DL w (ia (bZ:SV)) ([]:List bI)) λw=>DL.nil w).p1;exact(St.dO (bZ:SV) (St.mE rfl (St.join u))).mut
 refine aD (aA fz (have u:=u.drew;aB fY u.hb rfl (aD (aA dT (aB bL u.hb rfl ?_)))));obtain⟨R,O,G⟩:=Qi I bP;refine dX UJ (C200 l _ s.at_ R _ (Y _ u.aF) U bP O) ?_;rintro _ _ ⟨M,rfl,dw⟩;have u:=u.made dw;refine aJ rfl (aJ rfl (aJ rfl (aJ rfl (cC (aC (λJ=>?_) λJ=>?_)))))
 .refine aD (aA iz (aO u.p1 gA (dP rfl) (rfl) λ_ u=>aD (aA uD (aO u bL (dP rfl) (rfl) λ_ u=>?_))));have E:(({s with e:=R.2.2.1,pos:=R.2.2.2},[]):eG×List bI)=(B,x):=by rw[fi J]at G;exact nN.inj G
  cases E;have u:=(u.p1.drop.fK (Φ:=λw=>DL w (ia (bZ:SV)) ([]:List bI)) λw=>DL.nil w).p1;exact(St.dO (bZ:SV) (St.mE rfl (St.join u))).mut
 have F5:=Qj G J;refine aD (aA dT (aO u.p1 bL (dP rfl) (rfl) λ_ u=>?_));have E:(({s with at_:=R.2.1},R.1):eG×List bI)=(B,x):=by rw[ez J,fi F5]at G;exact nN.inj G
 cases E;have u:=u.p1.p1;exact(St.dO M (St.mE rfl (St.join u))).mut
def F7(k at_:Int):bE:=⟨k,⟨#[]⟩,⟨#[]⟩,[],[],0,0,0,at_⟩
abbrev Dh:ByteArray:=⟨#[61]⟩
def Mp(l:List aX)(s:eG):eG:=cN l (bX l s).1 (hZ #[61])
def s2M(l:List aX)(s:eG):eG:=cN l (bX l (Mp l s)).1 (hZ #[44])
def iF(l:List aX)(s:eG)(k a:Int):Option (eG×bE):=
 if k=1 then(mK l (Mp l s)).bind λr=>some (r.1,{F7 k a with eQ:=(bX l s).2,e:=r.2})
 else if k=2 then some ((bX l (Mp l s)).1,{F7 k a with eQ:=(bX l s).2,name:=(bX l (Mp l s)).2})
 else if k=3 then(mK l (Mp l s)).bind λr=>some (r.1,{F7 k a with name:=(bX l s).2,e:=r.2})
 else if k=4 then(mK l (s2M l s)).bind λr=>(mK l (cN l r.1 (hZ #[44]))).bind λq=>some (q.1,{F7 k a with eQ:=(bX l s).2,name:=(bX l (Mp l s)).2,e:=r.2,f:=q.2})
 else if k=5\/k=6\/k=9\/k=10 then some ((bX l s).1,{F7 k a with name:=(bX l s).2})
 else if k=11\/k=14 then(mK l s).bind λr=>some (r.1,{F7 k a with e:=r.2})
 else if k=12 then some ((iE l s).1,{F7 k a with n:=(iE l s).2})
 else some (s,F7 k a)
section
variable {l:List aX}{s s':eG}{k a:Int}{x:bE}
theorem dN{α β γ:Type}{o:Option (α×β)}{g:α×β->Option γ}{c:γ}(h:o.bind g=some c):∃p q,o=some (p,q)/\g (p,q)=some c:=by
 cases o with
 | none=>cases h
 | some r=>grind
theorem JV(h:iF l s k a=some (s',x))(u:k=1):∃q e,mK l (Mp l s)=some (q,e)/\s'=q/\x={F7 k a with eQ:=(bX l s).2,e:=e}:=by
 unfold iF at h;rw[fi u]at h
 obtain⟨q,e,h1,h2⟩:=dN h
 grind
theorem JW(h:iF l s k a=some (s',x))(u:k=2):s'=(bX l (Mp l s)).1/\x={F7 k a with eQ:=(bX l s).2,name:=(bX l (Mp l s)).2}:=by
 unfold iF at h;grind
theorem JX(h:iF l s k a=some (s',x))(u:k=3):∃q e,mK l (Mp l s)=some (q,e)/\s'=q/\x={F7 k a with name:=(bX l s).2,e:=e}:=by
 unfold iF at h;rw[ez bP,ez bP,fi u]at h
 obtain⟨q,e,h1,h2⟩:=dN h
 grind
theorem JY(h:iF l s k a=some (s',x))(B:k=4):∃q e u f,mK l (s2M l s)=some (q,e)/\mK l (cN l q (hZ #[44]))=some (u,f)/\s'=u/\x={F7 k a with eQ:=(bX l s).2,name:=(bX l (Mp l s)).2,e:=e,f:=f}:=by
 unfold iF at h;rw[ez bP,ez bP,ez bP,fi B]at h
 obtain⟨q,e,h1,h2⟩:=dN h
 obtain⟨u,f,h3,h4⟩:=dN h2
 grind
theorem JZ(h:iF l s k a=some (s',x))(u:k=5\/k=6\/k=9\/k=10):s'=(bX l s).1/\x={F7 k a with name:=(bX l s).2}:=by
 unfold iF at h;grind
theorem Fo(h:iF l s k a=some (s',x))(u:k=11\/k=14):∃q e,mK l s=some (q,e)/\s'=q/\x={F7 k a with e:=e}:=by
 unfold iF at h;rw[ez bP,ez bP,ez bP,ez bP,ez bP,fi u]at h
 obtain⟨q,e,h1,h2⟩:=dN h
 grind
theorem Fp(h:iF l s k a=some (s',x))(u:k=12):s'=(iE l s).1/\x={F7 k a with n:=(iE l s).2}:=by
 unfold iF at h;grind
theorem Fq(h:iF l s k a=some (s',x))(h1:¬ k=1)(h2:¬ k=2)(h3:¬ k=3)(h4:¬ k=4)(h5:¬ (k=5\/k=6\/k=9\/k=10))(h6:¬ (k=11\/k=14))(u:¬ k=12):s'=s/\x=F7 k a:=by
 unfold iF at h;grind
end
def wA{l:List aX}{s s':eG}{k a:Int}{x:bE}(B:iP l s)(h:iF l s k a=some (s',x)):iP l s':=by
 have E:iP l (Mp l s):=eu (fh B)
 have I:iP l (s2M l s):=eu (fh E)
 by_cases h1:k=1
 .obtain⟨q,e,u,rfl,_⟩:=JV h h1;exact nL E u
 by_cases h2:k=2
 .obtain⟨rfl,_⟩:=JW h h2;exact fh E
 by_cases h3:k=3
 .obtain⟨q,e,u,rfl,_⟩:=JX h h3;exact nL E u
 by_cases h4:k=4
 .obtain⟨q,e,M,f,u,J,rfl,_⟩:=JY h h4;exact nL (eu (nL I u)) J
 by_cases h5:k=5\/k=6\/k=9\/k=10
 .obtain⟨rfl,_⟩:=JZ h h5;exact fh B
 by_cases h6:k=11\/k=14
 .obtain⟨q,e,u,rfl,_⟩:=Fo h h6;exact nL B u
 by_cases G:k=12
 .obtain⟨rfl,_⟩:=Fp h G;exact LN B
 obtain⟨rfl,_⟩:=Fq h h1 h2 h3 h4 h5 h6 G;exact B
def rP{α σ:Type}[Flat σ][Deep α σ]{w w0:World}{A:Nat->Prop}{L:List HP}{B:HP}{u:σ}{x:α}(E:St w0 A (B::eI (λw=>l2 w u x)::L) w) :
  St w0 A ((oW λs:σ=>fact (ia u=ia s) (sep B (eI λw=>l2 w s x)))::L) w:=
 St.dO (H:=λs:σ=>fact (ia u=ia s) (sep B (eI λw=>l2 w s x))) u (St.mE rfl (St.join E))
def C337(p:Nat)(lv ov:Value)(l:List aX)(s:eG)(B a:Int)(Z:eG)(x:bE)(F:Nat->Prop)(w:World)(hF:(bM p (dx lv ov s)).p w F)(O:∀w',fH F w w'->dy (λ_=>True) w' lv l)(J:fU l)(M:iP l s)(hp:iF l s B a=some (Z,x)):CR 337 [(.pointer (some ⟨p,0,none⟩)),hU B,hU a] w (λv w'=>mF F (oW λsh:aW=>fact (v=ia sh) (sep (bM p (dx lv ov Z)) (eI λw=>l2 w sh x))) w w'):=by
 have u:=St.begin hF;have ya:=J.n;have hn:l.length<=1000000:=bP
 have qN:=J.at_;obtain⟨JT,JU⟩:=id M;refine eT Tryz.func337 ?_;refine aM u jy (λLn _ u=>have u:=u.enc (cs':=iW (⟨0,(hZ #[]),(hZ #[]),bZ,bZ,0,0,0,0⟩:aW)) rfl;pop (Gw _ _) (aM u jy λAo _ u=>have u:=u.enc (cs':=iW (⟨0,(hZ #[]),(hZ #[]),bZ,bZ,0,0,0,0⟩:aW)) rfl;aH (x:=(⟨B,(hZ #[]),(hZ #[]),bZ,bZ,0,0,0,a⟩:aW)) u ep rfl rfl λw3 u=>?_));refine⟨_,?_,λ_ h=>h⟩;refine aG (aC (λuO=>?_) λuO=>aG (aC (λph=>?_) λph=>aG (aC (λxc=>?_) λxc=>aG (aC (λwZ=>?_) λwZ=>⟨λjv w'=>jv=.bool (decide (B=5\/B=6\/B=9\/B=10))/\w3=w',aG (aC (λ_=>⟨vb cR,rfl⟩) λ_=>aG (aC (λ_=>⟨vb cR,rfl⟩) λ_=>aG (aC (λ_=>⟨vb cR,rfl⟩) λ_=>aG ⟨vb cR,rfl⟩))),?_⟩))))
 .obtain⟨q,e,U,rfl,rfl⟩:=JV hp uO;refine aU yt u.p2 (H':=λ_=>bM p (dx lv ov (bX l s).1)) (Φ:=λv _=>v=.string (bX l s).2) (λI G E=>?_) ?_
  .exact C354 p lv ov l s I _ G (λw' hc=>O w' (E w' hc).aF) J M
  rintro _ _ rfl u;refine aA kM (aO u.p1 j3 (dP rfl) (rfl) λ_ u=>have u:=u.enc (cs':=iW (⟨B,(bX l s).2,(hZ #[]),bZ,bZ,0,0,0,a⟩:aW)) rfl;aU sP u.p1 (H':=λ_=>bM p (dx lv ov (cN l (bX l s).1 (hZ #[61])))) (Φ:=λ_ _=>True) (λI G E=>?_) ?_)
  .exact(C286 p lv ov l (bX l s).1 (hZ #[61]) I _ G (λw' hc=>O w' (E w' hc).aF) J (fh M)).mono λ_ _ r=>r.mono λ_ _ h=>⟨trivial,h.2⟩
  rintro _ _ _ u;refine aU DE u (H':=λv=>oW λW:SV=>fact (v=ia W) (sep (bM p (dx lv ov Z)) (eI λw=>DL w (ia W) e))) (Φ:=λ_ _=>True) (λI G E=>?_) ?_
  .exact(C355 p lv ov l (cN l (bX l s).1 (hZ #[61])) Z e I _ G (λw' hc=>O w' (E w' hc).aF) J (eu (fh M)) U).mono λ_ _ r=>r.mono λ_ _ h=>⟨trivial,h⟩
  rintro v_x20 _ _ Y;obtain⟨HJ,V⟩:=Y.dS
  clear Y
  obtain⟨Yp,yj⟩:=V.lr
  clear V
  subst Yp;have u:=yj.split;refine aA kN (aO u.p2 lH (dP rfl) (rfl) λ_ u=>?_);have u:=u.enc (cs':=iW (⟨B,(bX l s).2,(hZ #[]),HJ,bZ,0,0,0,a⟩:aW)) rfl;intro z9;exact aE ep u.At (aH (x:=(⟨B,(bX l s).2,(hZ #[]),HJ,bZ,0,0,0,a⟩:aW)) u.p3 ep rfl rfl λ_ u=>aE ep u.At (have u:=u.p3.dH (Ψ:=(λw=>l2 w (⟨B,(bX l s).2,(hZ #[]),HJ,bZ,0,0,0,a⟩:aW) (⟨B,(bX l s).2,(hZ #[]),e,[],0,0,0,a⟩:bE))) (λ_ h=>⟨_,_,rfl,id h,DL.nil _⟩);have u:=u.p1.drop.p1.drop.p1;(rP u).mut))
 .obtain⟨rfl,rfl⟩:=JW hp ph;refine aU yt u.p2 (H':=λ_=>bM p (dx lv ov (bX l s).1)) (Φ:=λv _=>v=.string (bX l s).2) (λI G E=>?_) ?_
  .exact C354 p lv ov l s I _ G (λw' hc=>O w' (E w' hc).aF) J M
  rintro _ _ rfl u;refine aA kM (aO u.p1 j3 (dP rfl) (rfl) λ_ u=>have u:=u.enc (cs':=iW (⟨B,(bX l s).2,(hZ #[]),bZ,bZ,0,0,0,a⟩:aW)) rfl;aU sP u.p1 (H':=λ_=>bM p (dx lv ov (cN l (bX l s).1 (hZ #[61])))) (Φ:=λ_ _=>True) (λI G E=>?_) ?_)
  .exact(C286 p lv ov l (bX l s).1 (hZ #[61]) I _ G (λw' hc=>O w' (E w' hc).aF) J (fh M)).mono λ_ _ r=>r.mono λ_ _ h=>⟨trivial,h.2⟩
  rintro _ _ _ u;refine aU yt u (H':=λ_=>bM p (dx lv ov (bX l (cN l (bX l s).1 (hZ #[61]))).1)) (Φ:=λv _=>v=.string (bX l (cN l (bX l s).1 (hZ #[61]))).2) (λI G E=>?_) ?_
  .exact C354 p lv ov l (cN l (bX l s).1 (hZ #[61])) I _ G (λw' hc=>O w' (E w' hc).aF) J (eu (fh M))
  rintro _ _ rfl u;refine aA jU (aO u.p1 j3 (dP rfl) (rfl) λ_ u=>?_);have u:=u.enc (cs':=iW (⟨B,(bX l s).2,(bX l (cN l (bX l s).1 (hZ #[61]))).2,bZ,bZ,0,0,0,a⟩:aW)) rfl;intro z9;exact aE ep u.At (aH (x:=(⟨B,(bX l s).2,(bX l (cN l (bX l s).1 (hZ #[61]))).2,bZ,bZ,0,0,0,a⟩:aW)) u.p2 ep rfl rfl λ_ u=>aE ep u.At (have u:=u.fK (Φ:=(λw=>l2 w (⟨B,(bX l s).2,(bX l (cN l (bX l s).1 (hZ #[61]))).2,bZ,bZ,0,0,0,a⟩:aW) (⟨B,(bX l s).2,(bX l (cN l (bX l s).1 (hZ #[61]))).2,[],[],0,0,0,a⟩:bE))) (λ_=>⟨_,_,rfl,DL.nil _,DL.nil _⟩);have u:=u.p1.drop.p1.drop.p1;(rP u).mut))
 .obtain⟨q,e,U,rfl,rfl⟩:=JX hp xc;refine aU yt u.p2 (H':=λ_=>bM p (dx lv ov (bX l s).1)) (Φ:=λv _=>v=.string (bX l s).2) (λI G E=>?_) ?_
  .exact C354 p lv ov l s I _ G (λw' hc=>O w' (E w' hc).aF) J M
  rintro _ _ rfl u;refine aA jU (aO u.p1 j3 (dP rfl) (rfl) λ_ u=>have u:=u.enc (cs':=iW (⟨B,(hZ #[]),(bX l s).2,bZ,bZ,0,0,0,a⟩:aW)) rfl;aU sP u.p1 (H':=λ_=>bM p (dx lv ov (cN l (bX l s).1 (hZ #[61])))) (Φ:=λ_ _=>True) (λI G E=>?_) ?_)
  .exact(C286 p lv ov l (bX l s).1 (hZ #[61]) I _ G (λw' hc=>O w' (E w' hc).aF) J (fh M)).mono λ_ _ r=>r.mono λ_ _ h=>⟨trivial,h.2⟩
  rintro _ _ _ u;refine aU DE u (H':=λv=>oW λW:SV=>fact (v=ia W) (sep (bM p (dx lv ov Z)) (eI λw=>DL w (ia W) e))) (Φ:=λ_ _=>True) (λI G E=>?_) ?_
  .exact(C355 p lv ov l (cN l (bX l s).1 (hZ #[61])) Z e I _ G (λw' hc=>O w' (E w' hc).aF) J (eu (fh M)) U).mono λ_ _ r=>r.mono λ_ _ h=>⟨trivial,h⟩
  rintro v_x40 _ _ Y;obtain⟨HK,V⟩:=Y.dS
  clear Y
  obtain⟨Yq,yj⟩:=V.lr
  clear V
  subst Yq;have u:=yj.split;refine aA kN (aO u.p2 lH (dP rfl) (rfl) λ_ u=>?_);have u:=u.enc (cs':=iW (⟨B,(hZ #[]),(bX l s).2,HK,bZ,0,0,0,a⟩:aW)) rfl;intro z9;exact aE ep u.At (aH (x:=(⟨B,(hZ #[]),(bX l s).2,HK,bZ,0,0,0,a⟩:aW)) u.p3 ep rfl rfl λ_ u=>aE ep u.At (have u:=u.p3.dH (Ψ:=(λw=>l2 w (⟨B,(hZ #[]),(bX l s).2,HK,bZ,0,0,0,a⟩:aW) (⟨B,(hZ #[]),(bX l s).2,e,[],0,0,0,a⟩:bE))) (λ_ h=>⟨_,_,rfl,id h,DL.nil _⟩);have u:=u.p1.drop.p1.drop.p1;(rP u).mut))
 .obtain⟨q,e,q2,f,U,hfx,rfl,rfl⟩:=JY hp wZ;refine aU yt u.p2 (H':=λ_=>bM p (dx lv ov (bX l s).1)) (Φ:=λv _=>v=.string (bX l s).2) (λI G E=>?_) ?_
  .exact C354 p lv ov l s I _ G (λw' hc=>O w' (E w' hc).aF) J M
  rintro _ _ rfl u;refine aA kM (aO u.p1 j3 (dP rfl) (rfl) λ_ u=>have u:=u.enc (cs':=iW (⟨B,(bX l s).2,(hZ #[]),bZ,bZ,0,0,0,a⟩:aW)) rfl;aU sP u.p1 (H':=λ_=>bM p (dx lv ov (cN l (bX l s).1 (hZ #[61])))) (Φ:=λ_ _=>True) (λI G E=>?_) ?_)
  .exact(C286 p lv ov l (bX l s).1 (hZ #[61]) I _ G (λw' hc=>O w' (E w' hc).aF) J (fh M)).mono λ_ _ r=>r.mono λ_ _ h=>⟨trivial,h.2⟩
  rintro _ _ _ u;refine aU yt u (H':=λ_=>bM p (dx lv ov (bX l (cN l (bX l s).1 (hZ #[61]))).1)) (Φ:=λv _=>v=.string (bX l (cN l (bX l s).1 (hZ #[61]))).2) (λI G E=>?_) ?_
  .exact C354 p lv ov l (cN l (bX l s).1 (hZ #[61])) I _ G (λw' hc=>O w' (E w' hc).aF) J (eu (fh M))
  rintro _ _ rfl u;refine aA jU (aO u.p1 j3 (dP rfl) (rfl) λ_ u=>have u:=u.enc (cs':=iW (⟨B,(bX l s).2,(bX l (cN l (bX l s).1 (hZ #[61]))).2,bZ,bZ,0,0,0,a⟩:aW)) rfl;aU sP u.p1 (H':=λ_=>bM p (dx lv ov (cN l (bX l (cN l (bX l s).1 (hZ #[61]))).1 (hZ #[44])))) (Φ:=λ_ _=>True) (λI G E=>?_) ?_)
  .exact(C286 p lv ov l (bX l (cN l (bX l s).1 (hZ #[61]))).1 (hZ #[44]) I _ G (λw' hc=>O w' (E w' hc).aF) J (fh (eu (fh M)))).mono λ_ _ r=>r.mono λ_ _ h=>⟨trivial,h.2⟩
  rintro _ _ _ u;refine aU DE u (H':=λv=>oW λW:SV=>fact (v=ia W) (sep (bM p (dx lv ov q)) (eI λw=>DL w (ia W) e))) (Φ:=λ_ _=>True) (λI G E=>?_) ?_
  .exact(C355 p lv ov l (cN l (bX l (cN l (bX l s).1 (hZ #[61]))).1 (hZ #[44])) q e I _ G (λw' hc=>O w' (E w' hc).aF) J (eu (fh (eu (fh M)))) U).mono λ_ _ r=>r.mono λ_ _ h=>⟨trivial,h⟩
  rintro v_x55 _ _ Y;obtain⟨zA,V⟩:=Y.dS
  clear Y
  obtain⟨Yr,yj⟩:=V.lr
  clear V
  subst Yr;have u:=yj.split;refine aA kN (aO u.p2 lH (dP rfl) (rfl) λ_ u=>have u:=u.enc (cs':=iW (⟨B,(bX l s).2,(bX l (cN l (bX l s).1 (hZ #[61]))).2,zA,bZ,0,0,0,a⟩:aW)) rfl;aU sP u.p1 (H':=λ_=>bM p (dx lv ov (cN l q (hZ #[44])))) (Φ:=λ_ _=>True) (λI G E=>?_) ?_)
  .exact(C286 p lv ov l q (hZ #[44]) I _ G (λw' hc=>O w' (E w' hc).aF) J (nL (eu (fh (eu (fh M)))) U)).mono λ_ _ r=>r.mono λ_ _ h=>⟨trivial,h.2⟩
  rintro _ _ _ u;refine aU DE u (H':=λv=>oW λW:SV=>fact (v=ia W) (sep (bM p (dx lv ov Z)) (eI λw=>DL w (ia W) f))) (Φ:=λ_ _=>True) (λI G E=>?_) ?_
  .exact(C355 p lv ov l (cN l q (hZ #[44])) Z f I _ G (λw' hc=>O w' (E w' hc).aF) J (eu (nL (eu (fh (eu (fh M)))) U)) hfx).mono λ_ _ r=>r.mono λ_ _ h=>⟨trivial,h⟩
  rintro v_x60 _ _ Y;obtain⟨HL,V⟩:=Y.dS
  clear Y
  obtain⟨Ys,yj⟩:=V.lr
  clear V
  subst Ys;have u:=yj.split;refine aA qZ (aO u.p2 lH (dP rfl) (rfl) λ_ u=>?_);have u:=u.enc (cs':=iW (⟨B,(bX l s).2,(bX l (cN l (bX l s).1 (hZ #[61]))).2,zA,HL,0,0,0,a⟩:aW)) rfl;intro z9;exact aE ep u.At (aH (x:=(⟨B,(bX l s).2,(bX l (cN l (bX l s).1 (hZ #[61]))).2,zA,HL,0,0,0,a⟩:aW)) u.p4 ep rfl rfl λ_ u=>aE ep u.At (have u:=u.p4.p4.p1.ic.dH (Ψ:=(λw=>l2 w (⟨B,(bX l s).2,(bX l (cN l (bX l s).1 (hZ #[61]))).2,zA,HL,0,0,0,a⟩:aW) (⟨B,(bX l s).2,(bX l (cN l (bX l s).1 (hZ #[61]))).2,e,f,0,0,0,a⟩:bE))) (λ_ h=>⟨_,_,rfl,id h.1,id h.2⟩);have u:=u.p1.drop.p1.drop.p1;(rP u).mut))
 rintro _ _ ⟨rfl,hw⟩ _;subst hw;refine aC (λQn=>?_) (λQn=>⟨λjv w'=>jv=.bool (decide (B=11\/B=14))/\w3=w',aG (aC (λ_=>⟨vb cR,rfl⟩) λ_=>aG ⟨vb cR,rfl⟩),?_⟩)
 .obtain⟨rfl,rfl⟩:=JZ hp Qn;refine aU yt u.p2 (H':=λ_=>bM p (dx lv ov (bX l s).1)) (Φ:=λv _=>v=.string (bX l s).2) (λI G E=>?_) ?_
  .exact C354 p lv ov l s I _ G (λw' hc=>O w' (E w' hc).aF) J M
  rintro _ _ rfl u;refine aA jU (aO u.p1 j3 (dP rfl) (rfl) λ_ u=>?_);have u:=u.enc (cs':=iW (⟨B,(hZ #[]),(bX l s).2,bZ,bZ,0,0,0,a⟩:aW)) rfl;intro z9;exact aE ep u.At (aH (x:=(⟨B,(hZ #[]),(bX l s).2,bZ,bZ,0,0,0,a⟩:aW)) u.p2 ep rfl rfl λ_ u=>aE ep u.At (have u:=u.fK (Φ:=(λw=>l2 w (⟨B,(hZ #[]),(bX l s).2,bZ,bZ,0,0,0,a⟩:aW) (⟨B,(hZ #[]),(bX l s).2,[],[],0,0,0,a⟩:bE))) (λ_=>⟨_,_,rfl,DL.nil _,DL.nil _⟩);have u:=u.p1.drop.p1.drop.p1;(rP u).mut))
 rintro _ _ ⟨rfl,hw⟩ _;subst hw;refine aC (λQo=>?_) (λQo=>aG (aC (λQp=>?_) λQp=>?_))
 .obtain⟨q,e,U,rfl,rfl⟩:=Fo hp Qo;refine aU DE u.p2 (H':=λv=>oW λW:SV=>fact (v=ia W) (sep (bM p (dx lv ov Z)) (eI λw=>DL w (ia W) e))) (Φ:=λ_ _=>True) (λI G E=>?_) ?_
  .exact(C355 p lv ov l s Z e I _ G (λw' hc=>O w' (E w' hc).aF) J M U).mono λ_ _ r=>r.mono λ_ _ h=>⟨trivial,h⟩
  rintro v_x74 _ _ Y;obtain⟨HM,V⟩:=Y.dS
  clear Y
  obtain⟨Yt,yj⟩:=V.lr
  clear V
  subst Yt;have u:=yj.split;refine aA kN (aO u.p2 lH (dP rfl) (rfl) λ_ u=>?_);have u:=u.enc (cs':=iW (⟨B,(hZ #[]),(hZ #[]),HM,bZ,0,0,0,a⟩:aW)) rfl;intro z9;exact aE ep u.At (aH (x:=(⟨B,(hZ #[]),(hZ #[]),HM,bZ,0,0,0,a⟩:aW)) u.p3 ep rfl rfl λ_ u=>aE ep u.At (have u:=u.p3.dH (Ψ:=(λw=>l2 w (⟨B,(hZ #[]),(hZ #[]),HM,bZ,0,0,0,a⟩:aW) (⟨B,(hZ #[]),(hZ #[]),e,[],0,0,0,a⟩:bE))) (λ_ h=>⟨_,_,rfl,id h,DL.nil _⟩);have u:=u.p1.drop.p1.drop.p1;(rP u).mut))
 .obtain⟨rfl,rfl⟩:=Fp hp Qp;refine aU aa7 u.p2 (H':=λ_=>bM p (dx lv ov (iE l s).1)) (Φ:=λv _=>v=hU (iE l s).2) (λI G E=>?_) ?_
  .exact C356 p lv ov l s I _ G (λw' hc=>O w' (E w' hc).aF) J M
  rintro _ _ rfl u;refine aA l5 (aO u.p1 bL (dP rfl) (rfl) λ_ u=>?_);have u:=u.enc (cs':=iW (⟨B,(hZ #[]),(hZ #[]),bZ,bZ,(iE l s).2,0,0,a⟩:aW)) rfl;intro z9;exact aE ep u.At (aH (x:=(⟨B,(hZ #[]),(hZ #[]),bZ,bZ,(iE l s).2,0,0,a⟩:aW)) u.p2 ep rfl rfl λ_ u=>aE ep u.At (have u:=u.fK (Φ:=(λw=>l2 w (⟨B,(hZ #[]),(hZ #[]),bZ,bZ,(iE l s).2,0,0,a⟩:aW) (⟨B,(hZ #[]),(hZ #[]),[],[],(iE l s).2,0,0,a⟩:bE))) (λ_=>⟨_,_,rfl,DL.nil _,DL.nil _⟩);have u:=u.p1.drop.p1.drop.p1;(rP u).mut))
 obtain⟨rfl,rfl⟩:=Fq hp uO ph xc wZ Qn Qo Qp;intro z9;exact aE ep u.At (aH (x:=(⟨B,(hZ #[]),(hZ #[]),bZ,bZ,0,0,0,a⟩:aW)) u.p1 ep rfl rfl λ_ u=>aE ep u.At (have u:=u.fK (Φ:=(λw=>l2 w (⟨B,(hZ #[]),(hZ #[]),bZ,bZ,0,0,0,a⟩:aW) (⟨B,(hZ #[]),(hZ #[]),[],[],0,0,0,a⟩:bE))) (λ_=>⟨_,_,rfl,DL.nil _,DL.nil _⟩);have u:=u.p1.drop.p1.drop.p1;(rP u).mut))
def fC(l:List aX)(a:Int):Nat->Int
 | 0=>1
 | n+1=>if oy l a (Bt ((n:Int)+2))=true then(n:Int)+2 else fC l a n
theorem J0{l:List aX}{a:Int}:∀n:Nat,1<=fC l a n/\fC l a n<=(n:Int)+1
 | 0=>by unfold fC;omega
 | n+1=>by
  have:=J0 (l:=l) (a:=a) n
  unfold fC
  omega
theorem Fs{l:List aX}{a:Int}:∀n:Nat,fC l a n=1\/∃t,oy l a t=true
 | 0=>.inl rfl
 | n+1=>by
  unfold fC
  split
  .grind
  .exact Fs n
def Bu{l:List aX}{a:Int}{n:Nat}(h:oy l a (Bt ((n:Int)+2))=true):fC l a (n+1)=(n:Int)+2:=fi h
def Bv{l:List aX}{a:Int}{n:Nat}(h:¬ oy l a (Bt ((n:Int)+2))=true):fC l a (n+1)=fC l a n:=ez h
def Ro(l:List aX)(s:eG):eG:=if fC l s.at_ 13≠1 then {s with at_:=s.at_+1}else s
def CX{l:List aX}{s:eG}(h:iP l s):iP l (Ro l s):=by
 unfold Ro
 split
 .rename_i h1
  rcases Fs (l:=l) (a:=s.at_) 13 with h2|⟨t,h2⟩
  .omega
  have:=nK h2
  exact⟨cR,cR⟩
 exact h
abbrev VY:ByteArray:=⟨#[101,108,115,101]⟩
def iu(l:List aX)(u:Int)(s:eG):Bool:=decide (u=11)&&decide (s.e=0)&&oy l s.at_ VY
def LO(s:eG):eG:={s with at_:=s.at_+1}
abbrev TO:=eG->Int->Int->Option (eG×List bE)
def xO(l:List aX)(bM:TO)(s:eG)(d lp:Int):Option (eG×List bE):=
 if fC l s.at_ 13=13/\lp=0 then some (gk l s 5,[])
 else(iF l (Ro l s) (fC l s.at_ 13) (jM l s.at_)).bind λr=>
  if fC l s.at_ 13≠11/\fC l s.at_ 13≠12 then some (cN l r.1 ⟨#[59]⟩,[r.2])
  else(bM r.1 (d+1) (if fC l s.at_ 13=12 then lp+1 else lp)).bind λq=>
   if iu l (fC l s.at_ 13) q.1=true then(bM (LO q.1) (d+1) lp).bind λt=>some (t.1,{r.2 with body:=(q.2.length:Int),eH:=(t.2.length:Int)}::(q.2++t.2))
   else some (q.1,{r.2 with body:=(q.2.length:Int)}::q.2)
section
variable {l:List aX}{bM:TO}{s s':eG}{d lp:Int}{add:List bE}
theorem J1(h:xO l bM s d lp=some (s',add))(hb:fC l s.at_ 13=13/\lp=0):s'=gk l s 5/\add=[]:=by
 unfold xO at h;grind
theorem Qq(h:xO l bM s d lp=some (s',add))(hb:¬ (fC l s.at_ 13=13/\lp=0)):∃u x,iF l (Ro l s) (fC l s.at_ 13) (jM l s.at_)=some (u,x)/\
  (if fC l s.at_ 13≠11/\fC l s.at_ 13≠12 then some (cN l u ⟨#[59]⟩,[x])
  else(bM u (d+1) (if fC l s.at_ 13=12 then lp+1 else lp)).bind λq=>
   if iu l (fC l s.at_ 13) q.1=true then(bM (LO q.1) (d+1) lp).bind λt=>some (t.1,{x with body:=(q.2.length:Int),eH:=(t.2.length:Int)}::(q.2++t.2))
   else some (q.1,{x with body:=(q.2.length:Int)}::q.2))=some (s',add):=by
 unfold xO at h;rw[ez hb]at h
 obtain⟨p,q,h1,h2⟩:=dN h
 grind
theorem J2{u:Int}{I:eG}{x:bE}(h:(if u≠11/\u≠12 then some (cN l I ⟨#[59]⟩,[x])
  else(bM I (d+1) (if u=12 then lp+1 else lp)).bind λq=>
   if iu l u q.1=true then(bM (LO q.1) (d+1) lp).bind λt=>some (t.1,{x with body:=(q.2.length:Int),eH:=(t.2.length:Int)}::(q.2++t.2))
   else some (q.1,{x with body:=(q.2.length:Int)}::q.2))=some (s',add)) (M:¬ (u≠11/\u≠12)) :
  ∃B E,bM I (d+1) (if u=12 then lp+1 else lp)=some (B,E)/\
   ((iu l u B=true/\∃J G,bM (LO B) (d+1) lp=some (J,G)/\s'=J/\add={x with body:=(E.length:Int),eH:=(G.length:Int)}::(E++G))\/
    (iu l u B=false/\s'=B/\add={x with body:=(E.length:Int)}::E)):=by
 rw[ez M]at h
 obtain⟨B,E,h1,h2⟩:=dN h
 refine⟨B,E,h1,?_⟩
 dsimp only at h2
 cases he:iu l u B with
 | true=>
  rw[he,fi rfl]at h2
  obtain⟨J,G,h3,h4⟩:=dN h2
  grind
 | false=>
  grind
theorem Bw{u:Int}{B:eG}{x:bE}(h:(if u≠11/\u≠12 then some (cN l B ⟨#[59]⟩,[x])
  else(bM B (d+1) (if u=12 then lp+1 else lp)).bind λq=>
   if iu l u q.1=true then(bM (LO q.1) (d+1) lp).bind λt=>some (t.1,{x with body:=(q.2.length:Int),eH:=(t.2.length:Int)}::(q.2++t.2))
   else some (q.1,{x with body:=(q.2.length:Int)}::q.2))=some (s',add)) (E:u≠11/\u≠12):s'=cN l B ⟨#[59]⟩/\add=[x]:=by
 grind
end
abbrev xk:ByteArray:=⟨#[123]⟩
abbrev kD:ByteArray:=⟨#[125]⟩
def oB(l:List aX)(one:eG->Option (eG×List bE)):Nat->eG->Option (eG×List bE)
 | 0,_=>none
 | m+1,s=>if (decide (s.e=0)&&!oy l s.at_ kD)=true then(one s).bind λr=>(oB l one m r.1).bind λq=>some (q.1,r.2++q.2)else some (s,[])
def Mq(l:List aX)(s:eG)(d:Int):eG:=if (decide (12<d)&&oy l s.at_ xk)=true then gk l s 7 else s
def HN{l:List aX}{s:eG}{d:Int}(h:iP l s):iP l (Mq l s d):=by unfold Mq;split;exact oA h;exact h
def Mr(l:List aX):Nat->TO
 | 0=>λ_ _ _=>none
 | k+1=>λs d lp=>(oB l (λs=>xO l (Mr l k) s d lp) 10000 (cN l (Mq l s d) xk)).bind λr=>some (cN l r.1 kD,r.2)
section
variable {l:List aX}{one:eG->Option (eG×List bE)}{s s':eG}{d lp:Int}{add:List bE}{m:Nat}
theorem Bx(h:oB l one m s=some (s',add)):∃k,m=k+1:=by
 cases m with
 | zero=>cases h
 | succ k=>grind
theorem zR(h:oB l one (m+1) s=some (s',add))(hb:(decide (s.e=0)&&!oy l s.at_ kD)=false):s'=s/\add=[]:=by
 unfold oB at h;grind
theorem CY(h:oB l one (m+1) s=some (s',add))(hb:(decide (s.e=0)&&!oy l s.at_ kD)=true):∃B E u,one s=some (B,E)/\oB l one m B=some (s',u)/\add=E++u:=by
 unfold oB at h;rw[hb,fi rfl]at h
 obtain⟨B,E,h1,h2⟩:=dN h
 obtain⟨G,u,h3,h4⟩:=dN h2
 grind
theorem Qr{k:Nat}(h:Mr l (k+1) s d lp=some (s',add)):∃u,oB l (λs=>xO l (Mr l k) s d lp) 10000 (cN l (Mq l s d) xk)=some (u,add)/\s'=cN l u kD:=by
 unfold Mr at h
 obtain⟨u,B,h1,h2⟩:=dN h
 grind
end
def HO{l:List aX}{bM:TO}{s s':eG}{d lp:Int}{add:List bE}(hb:∀s d lp s' a,iP l s->bM s d lp=some (s',a)->iP l s')(G:iP l s)(h:xO l bM s d lp=some (s',add)):iP l s':=by
 by_cases h1:fC l s.at_ 13=13/\lp=0
 .rw[(J1 h h1).1];exact oA G
 obtain⟨M,x,h2,h3⟩:=Qq h h1
 have u:=wA (CX G) h2
 by_cases h4:fC l s.at_ 13≠11/\fC l s.at_ 13≠12
 .rw[(Bw h3 h4).1];exact eu u
 obtain⟨V,W,h5,h6⟩:=J2 h3 h4
 have I:=hb _ _ _ _ _ u h5
 rcases h6 with⟨B,U,O,J,E,_⟩|⟨_,E,_⟩
 .rw[E]
  refine hb _ _ _ _ _ ?_ J
  unfold iu at B
  rw[nw]at B
  have:=nK B.2
  grind[iP,LO]
 grind
theorem J3{l:List aX}{one:eG->Option (eG×List bE)}(B:∀s s' a,iP l s->one s=some (s',a)->iP l s'):∀{m:Nat}{s s':eG}{add:List bE},iP l s->oB l one m s=some (s',add)->iP l s'
 | 0,_,_,_,_,h=>by cases h
 | m+1,s,s',add,u,h=>by
  cases hb:(decide (s.e=0)&&!oy l s.at_ kD)with
  | false=>rw[(zR h hb).1];exact u
  | true=>
   obtain⟨G,I,E,h1,h2,_⟩:=CY h hb
   exact J3 B (B _ _ _ u h1) h2
theorem HQ{l:List aX}:∀{k:Nat}{s s':eG}{d lp:Int}{add:List bE},iP l s->Mr l k s d lp=some (s',add)->iP l s'
 | 0,_,_,_,_,_,_,h=>by cases h
 | k+1,s,s',d,lp,add,u,h=>by
  obtain⟨B,h1,h2⟩:=Qr h
  rw[h2]
  exact eu (J3 (λ_ _ _ a b=>HO (λ_ _ _ _ _ c e=>HQ c e) a b) (eu (HN u)) h1)
def pT(p:Nat)(lv:Value)(s:eG)(out:List bE)(Q:hM):HP:=oW λov:Value=>oW λts:List aW=>sep (bM p (dx lv ov s)) (sep (bH ov ts) (eI λw=>gU ts out w/\Q w))
section
variable {w0 w:World}{A:Nat->Prop}{L:List HP}{p:Nat}{lv:Value}{s:eG}{out:List bE}{Q:hM}
theorem pT.open(u:St w0 A (pT p lv s out Q::L) w):∃(ov:Value) (ts:List aW),St w0 A (bM p (dx lv ov s)::bH ov ts::eI (λw=>gU ts out w/\Q w)::L) w:=by
 obtain⟨ov,h1⟩:=u.dS
 obtain⟨ts,h2⟩:=h1.dS
 exact⟨ov,ts,h2.split.p1.split.p2⟩
theorem pT.shut{ov:Value}{ts:List aW}(u:St w0 A (bM p (dx lv ov s)::bH ov ts::eI (λw=>gU ts out w/\Q w)::L) w):St w0 A (pT p lv s out Q::L) w:=
 St.dO (H:=λov:Value=>oW λts:List aW=>sep (bM p (dx lv ov s)) (sep (bH ov ts) (eI λw=>gU ts out w/\Q w))) ov (St.dO (H:=λts:List aW=>sep (bM p (dx lv ov s)) (sep (bH ov ts) (eI λw=>gU ts out w/\Q w))) ts (St.join u.p2.p2.join.p1))
end
def Yu(l:List aX)(k:Nat):Prop:=∀(p:Nat) (lv:Value) (s:eG) (d lp:Int) (out:List bE) (u:eG) (add:List bE) (Q:hM) (F:Nat->Prop) (w:World),
 (pT p lv s out Q).p w F->(∀w',fH F w w'->dy (λ_=>True) w' lv l)->iP l s->0<=d/\d+k<=1001->0<=lp/\lp+k<=1001->out.length+add.length<=1000000->Mr l k s d lp=some (u,add)->
 Calls hH 338 [.pointer (some ⟨p,0,none⟩),hU d,hU lp].toArray w (oV λv w'=>v=hU (add.length:Int)/\mF F (pT p lv u (out++add) Q) w w')
def TP{w:World}{u:aW}{x:bE}(h:l2 w u x):DL w (ia u.e) x.e:=by obtain⟨_,_,rfl,h,_⟩:=h;exact h
def TQ{w:World}{u:aW}{x:bE}(h:l2 w u x):DL w (ia u.f) x.f:=by obtain⟨_,_,rfl,_,h⟩:=h;exact h
def HS{l:List aX}{u:Int}{s:eG}(h:iu l u s=true):iP l (LO s):=by
 unfold iu at h
 rw[nw]at h
 have:=nK h.2
 grind[iP,LO]
def TR{α σ:Type}[Flat σ][Deep α σ]{w:World}{ts:List σ}{xs:List α}{i:Nat}{t:σ}{x:α}(h:gU ts xs w)(ht:l2 w t x):gU (ts.set i t) (xs.set i x) w:=by
 grind[gU]
theorem Qs{α:Type}{a b:List α}{x y:α}:(a++x::b).set a.length y=a++y::b:=by
 grind
def C285(p:Nat)(lv:Value)(l:List aX)(s:eG)(k:Nat)(d lp:Int)(out:List bE)(s2:eG)(add:List bE)(Q:hM)(F:Nat->Prop)(w:World)(hF:(pT p lv s out Q).p w F)(V:∀w',fH F w w'->dy (λ_=>True) w' lv l)(hk:fU l)(h0:iP l s)(HB:Yu l k)(hd:0<=d/\d+k<=1000)(Yi:0<=lp/\lp+k<=1000)(OH:out.length+add.length<=1000000)(hr:xO l (Mr l k) s d lp=some (s2,add)):CR 285 [(.pointer (some ⟨p,0,none⟩)),hU d,hU lp] w (λv w'=>v=.tuple #[]/\mF F (pT p lv s2 (out++add) Q) w w'):=by
 have u:=St.begin hF;obtain⟨ov,ts,u⟩:=pT.open u;have Kz:ts.length=out.length:=u.p2.eI.1.1;have ya:=hk.n;have hn:l.length<=1000000:=bP
 have qN:=hk.at_;obtain⟨JT,JU⟩:=id h0;refine RM _ _ _ _ _ ?_;unfold S285;refine aD (aA fz (have u:=u.drew;aB fY u.hb rfl (aD (aA dT (aB bL u.hb rfl (aR AK u (C201 _ l s.at_ _ (V _ u.aF) hn qN) λ_ he u=>?_))))));have u:=u.p2.p2.p2;refine⟨λmm a b w'=>∃j:Nat,a=hU (fC l s.at_ j)/\b=hU ((j:Int)+2)/\mm=13-j/\j<=13/\St w F [bM p (dx lv ov s),bH ov ts,eI λw=>gU ts out w/\Q w] w',⟨_,0,rfl,rfl,rfl,mr _,u⟩,?_⟩;rintro mm _ _ w2 ⟨j,rfl,rfl,rfl,hj,u⟩ _;refine gO (aC (λgW=>⟨_,aD (aA fz (have u:=u.drew;aB fY u.hb rfl (aD (aA dT (aB bL u.hb rfl (aR aa3 u (C335 ((j:Int)+2) _ bP) λ_ he u=>⟨aY fY (u.hb.cell rfl),⟨aY bL (u.hb.cell rfl),aR qk u (C196 _ l s.at_ (Bt ((j:Int)+2)) _ (V _ u.aF) hn) λ_ he u=>bD (λku=>?_) λku=>?_⟩⟩)))))),λ_ _ h=>h⟩) λgW=>?_)
 .intro xA;exact aK bP ⟨_,bP,j+1,gj (mj .i64) (by first|exact(Bu ku).symm|exact(Bv (by rw[ku];simp)).symm),gj (mj .i64) bP,rfl,bP,u⟩
 .intro xA;exact aK bP ⟨_,bP,j+1,gj (mj .i64) (by first|exact(Bu ku).symm|exact(Bv (by rw[ku];simp)).symm),gj (mj .i64) bP,rfl,bP,u⟩
 obtain rfl:j=13:=bP
 have WG:=J0 (l:=l) (a:=s.at_) 13;refine⟨λY w'=>Y=.bool (decide ((fC l s.at_ 13)=13/\lp=0))/\w2=w',aG (aC (λ_=>aG ⟨xr bP,rfl⟩) λ_=>⟨Rc bP,rfl⟩),?_⟩;rintro _ _ ⟨rfl,hw⟩ _;subst hw;refine aC (λmJ=>?_) (λmJ=>⟨λw'=>St w F [bM p (dx lv ov (Ro l s)),bH ov ts,eI λw=>gU ts out w/\Q w] w',cC (aC (λuM=>?_) λuM=>?_),?_⟩)
 .refine aU AN u (H':=λ_=>bM p (dx lv ov (gk l s 5))) (Φ:=λ_ _=>True) (λO M U=>?_) ?_
  .exact(C336 p lv ov l s 5 O _ M (λw' hc=>V w' (U w' hc).aF) hk h0).mono λ_ _ r=>r.mono λ_ _ h=>⟨trivial,h.2⟩
  rintro _ _ _ u;obtain⟨e1,e2⟩:=J1 hr mJ;rw[e1,e2,oo];exact⟨rfl,(pT.shut u).mut⟩
 .refine aD (aA dT (aB bL u.hb rfl (aK bP (aD (aA dT (aO u bL (dP rfl) (rfl) λ_ u=>?_))))));have u:=u.p2.p2.p2;have Lg:(Ro l s)={s with at_:=s.at_+1}:=by unfold Ro;rw[fi bP]
  rw[Lg];exact u
 .have u:=u.p2.p2.p2;have Lg:(Ro l s)=s:=by unfold Ro;rw[ez bP]
  rw[Lg];exact u
 intro _ u _;obtain⟨q,x,mL,BT⟩:=Qq hr mJ;refine aU aa4 u (H':=λv=>oW λsh:aW=>fact (v=ia sh) (sep (bM p (dx lv ov q)) (eI λw=>l2 w sh x))) (Φ:=λ_ _=>True) (λO M U=>?_) ?_
 .exact(C337 p lv ov l (Ro l s) (fC l s.at_ 13) (jM l s.at_) q x O _ M (λw' hc=>V w' (U w' hc).aF) hk (CX h0) mL).mono λ_ _ r=>r.mono λ_ _ h=>⟨trivial,h⟩
 rintro v_x58 _ _ sW;obtain⟨ajL,vn⟩:=sW.dS
 clear sW
 obtain⟨Yv,yj⟩:=vn.lr
 clear vn
 subst Yv;have u:=yj.split
 clear yj
 obtain⟨E,B,Yw,hde,hdf⟩:=u.p1.eI;subst Yw;refine aM u jy (λvQ _ u=>have u:=u.enc (cs':=iW (⟨0,(hZ #[]),(hZ #[]),bZ,bZ,0,0,0,0⟩:aW)) rfl;aH (x:=(⟨x.kind,x.eQ,x.name,E,B,x.n,x.body,x.eH,x.at_⟩:aW)) u ep rfl rfl λ_ u=>aD (aA l9 (aB lZ u.p1.hb rfl (aI fX u.p3.eU (aD (aA l9 (have u:=u.drew;aB lZ u.p1.hb rfl (aE ep u.At (bK ([(⟨x.kind,x.eQ,x.name,E,B,x.n,x.body,x.eH,x.at_⟩:aW)]) u fX rfl rfl (dP rfl) λVL _ u=>?_)))))))))
 refine⟨aY lZ (u.p2.hb.cell rfl),?_⟩;have Yx:=u.eU;refine cO u.p4 fX Yx (by simp;omega) ea (λJ4 _ u=>have u:=u.p1.drop;aD (aA l9 (aO u.p2 lZ (dP rfl) u.eU.one λ_ u=>⟨λY w'=>Y=.bool (decide ((fC l s.at_ 13)≠11/\(fC l s.at_ 13)≠12))/\St w F [bM p (dx lv J4 q),bH J4 (ts++[(⟨x.kind,x.eQ,x.name,E,B,x.n,x.body,x.eH,x.at_⟩:aW)]),eI (λw=>gU (ts++[(⟨x.kind,x.eQ,x.name,E,B,x.n,x.body,x.eH,x.at_⟩:aW)]) (out++[x]) w/\(λw=>Q w/\l2 w (⟨x.kind,x.eQ,x.name,E,B,x.n,x.body,x.eH,x.at_⟩:aW) x) w),bM vQ (iW (⟨x.kind,x.eQ,x.name,E,B,x.n,x.body,x.eH,x.at_⟩:aW))] w',cC (aC (λ_=>cC (have u:=u.p3.p4.ic.dH (Ψ:=λw=>gU (ts++[(⟨x.kind,x.eQ,x.name,E,B,x.n,x.body,x.eH,x.at_⟩:aW)]) (out++[x]) w/\(λw=>Q w/\l2 w (⟨x.kind,x.eQ,x.name,E,B,x.n,x.body,x.eH,x.at_⟩:aW) x) w) (λ_ h=>⟨h.1.1.snoc h.2,h.1.2,h.2⟩);have u:=u.p3.p1.p3.p3;⟨vb cR,u⟩)) λ_=>have u:=u.p3.p4.ic.dH (Ψ:=λw=>gU (ts++[(⟨x.kind,x.eQ,x.name,E,B,x.n,x.body,x.eH,x.at_⟩:aW)]) (out++[x]) w/\(λw=>Q w/\l2 w (⟨x.kind,x.eQ,x.name,E,B,x.n,x.body,x.eH,x.at_⟩:aW) x) w) (λ_ h=>⟨h.1.1.snoc h.2,h.1.2,h.2⟩);have u:=u.p3.p1.p3.p3;⟨vb cR,u⟩),?_⟩)))
 rintro _ w16 ⟨rfl,u⟩ _;refine aC (λQt=>?_) (λQt=>⟨λY w'=>Y=hU (if (fC l s.at_ 13)=12 then lp+1 else lp)/\w16=w',aG (aC (λ_=>aK bP ⟨by rw[fi bP],rfl⟩) λ_=>⟨by rw[ez bP],rfl⟩),?_⟩)
 .refine aU sP u (H':=λ_=>bM p (dx lv J4 (cN l q (hZ #[59])))) (Φ:=λ_ _=>True) (λO M U=>?_) ?_
  .exact(C286 p lv J4 l q (hZ #[59]) O _ M (λw' hc=>V w' (U w' hc).aF) hk (wA (CX h0) mL)).mono λ_ _ r=>r.mono λ_ _ h=>⟨trivial,h.2⟩
  rintro _ _ _ u;have u:=u.p3.drop.p1.p1.p2.dH (Ψ:=λw=>gU (ts++[(⟨x.kind,x.eQ,x.name,E,B,x.n,x.body,x.eH,x.at_⟩:aW)]) (out++[x]) w/\Q w) (λ_ h=>⟨h.1,h.2.1⟩);have u:=u.p2.p2;obtain⟨e1,e2⟩:=Bw BT Qt;rw[e1,e2];exact⟨rfl,(pT.shut u).mut⟩
 rintro _ _ ⟨rfl,hw⟩ _;subst hw;refine aK bP ?_;have u:=pT.shut u.p2.p2.p2;obtain⟨W,G,FV,RW⟩:=J2 BT Qt;have hm1:G.length<add.length:=by rcases RW with⟨_,s5,m2,_,_,e⟩|⟨_,_,e⟩<;>rw[e]<;>simp<;>omega
 refine aU UP u (H':=λ_=>pT p lv W ((out++[x])++G) λw=>Q w/\l2 w (⟨x.kind,x.eQ,x.name,E,B,x.n,x.body,x.eH,x.at_⟩:aW) x) (Φ:=λv _=>v=hU (G.length:Int)) (λO M U=>?_) ?_
 .exact HB p lv q (d+1) (if (fC l s.at_ 13)=12 then lp+1 else lp) (out++[x]) W G (λw=>Q w/\l2 w (⟨x.kind,x.eQ,x.name,E,B,x.n,x.body,x.eH,x.at_⟩:aW) x) O _ M (λw' hc=>V w' (U w' hc).aF) (wA (CX h0) mL) bP (by split<;>omega) (by rw[kC,nD];omega) FV
 rintro _ _ rfl u;obtain⟨ov3,rD,u⟩:=pT.open u;refine aA jV (aO u.p3 bL (dP rfl) (rfl) λ_ u=>have u:=u.enc (cs':=iW (⟨x.kind,x.eQ,x.name,E,B,x.n,(G.length:Int),x.eH,x.at_⟩:aW)) rfl;⟨λw'=>∃(bd el:Int) (rest:List bE),add={x with body:=bd,eH:=el}::rest/\St w F [pT p lv s2 ((out++[x])++rest) (λw=>Q w/\l2 w (⟨x.kind,x.eQ,x.name,E,B,x.n,x.body,x.eH,x.at_⟩:aW) x),bM vQ (iW (⟨x.kind,x.eQ,x.name,E,B,x.n,bd,el,x.at_⟩:aW))] w',⟨λY w'=>Y=.bool (iu l (fC l s.at_ 13) W)/\St w F [bM p (dx lv ov3 W),bH ov3 rD,eI (λw=>gU rD ((out++[x])++G) w/\(λw=>Q w/\l2 w (⟨x.kind,x.eQ,x.name,E,B,x.n,x.body,x.eH,x.at_⟩:aW) x) w),bM vQ (iW (⟨x.kind,x.eQ,x.name,E,B,x.n,(G.length:Int),x.eH,x.at_⟩:aW))] w',?_,?_⟩,?_⟩)
 .refine aG ?_;exact aC (λBy=>aD (aA iz (have u:=u.drew;aB gA u.p1.hb rfl (aG (aC (λCZ=>aD (aA fz (aB fY u.p1.hb rfl (aD (aA dT (aB bL u.p1.hb rfl (aR qk u (C196 _ l W.at_ (hZ #[101,108,115,101]) _ (V _ u.aF) hn) λ_ _ u=>have u:=u.p3.p3.p3;⟨vb (by unfold iu;rw[fj By,fj CZ];rfl),u⟩))))))) λCZ=>have u:=u.p3.p3.p3;⟨vb (by unfold iu;first|(rw[ga By];rfl)|(rw[fj By,ga CZ];rfl)),u⟩))))) (λBy=>have u:=u.drew.p3.p3.p3;⟨vb (by unfold iu;first|(rw[ga By];rfl)|(rw[fj By,ga CZ];rfl)),u⟩)
 .rintro _ _ ⟨rfl,u⟩ _;refine bD (λI=>?_) (λI=>?_)
  .obtain⟨J,s5,m2,hb2,e5,Z⟩|⟨J,_⟩:=RW
   rotate_left
   .rw[J]at I;cases I
   subst e5;have hin3:=nK (show oy l W.at_ VY=true by unfold iu at I;rw[nw]at I;exact I.2);refine aD (aA dT (aB bL u.hb rfl (aK bP (aD (aA dT (aO u bL (dP rfl) (rfl) λ_ u=>aK bP ?_))))));have u:=pT.shut (s:=LO W) u.p2.p2.p2;have hkd11:(fC l s.at_ 13)=11:=by unfold iu at I;simp at I;exact I.1.1
   rw[ez (show ¬ (fC l s.at_ 13)=12 by omega)];refine aU UP u (H':=λ_=>pT p lv s2 (((out++[x])++G)++m2) λw=>Q w/\l2 w (⟨x.kind,x.eQ,x.name,E,B,x.n,x.body,x.eH,x.at_⟩:aW) x) (Φ:=λv _=>v=hU (m2.length:Int)) (λO M U=>?_) ?_
   .exact HB p lv (LO W) (d+1) lp ((out++[x])++G) s2 m2 (λw=>Q w/\l2 w (⟨x.kind,x.eQ,x.name,E,B,x.n,x.body,x.eH,x.at_⟩:aW) x) O _ M (λw' hc=>V w' (U w' hc).aF) (HS I) bP bP (by have:=gj List.length Z;simp at this |-;omega) hb2
   rintro _ _ rfl u;rw[mv (out++[x])]at u;exact aA l6 (aO u.p1 bL (dP rfl) (rfl) λ_ u=>have u:=u.enc (cs':=iW (⟨x.kind,x.eQ,x.name,E,B,x.n,(G.length:Int),(m2.length:Int),x.at_⟩:aW)) rfl;have u:=u.p1;⟨_,_,_,Z,u⟩)
  obtain⟨J,_⟩|⟨J,e5,Z⟩:=RW
  .rw[J]at I;cases I
  subst e5;have u:=((pT.shut u.p2.p2.p2).p1).p1;exact⟨(G.length:Int),x.eH,G,Z,u⟩
 rintro _ ⟨bd,el,rest,Z,u⟩ _;obtain⟨ov5,VC,u⟩:=pT.open u;refine aD (aA l9 (have u:=u.drew;aB lZ u.hb rfl (aE ep u.p3.At ?_)));have h5l:VC.length=(out++[x]++rest).length:=u.p2.eI.1.1;have h6l:=gj List.length Z;simp only[kC,List.length_cons,Dd]at h5l h6l;obtain⟨ajN,afX⟩:=gx VC (i:=(ts.length:Int).toNat) bP;refine ed u.p1 fX bP bP (λ_ Yy=>kJ _ u.p1 ep Yy bP λ_ u=>?_)
 have u:=u.p3.drop.p1.p2.dH (Ψ:=λw=>gU (VC.set (ts.length:Int).toNat (⟨x.kind,x.eQ,x.name,E,B,x.n,bd,el,x.at_⟩:aW)) (out++add) w/\Q w) (λ_ h=>⟨by
  have hh:=TR (i:=(ts.length:Int).toNat) (t:=(⟨x.kind,x.eQ,x.name,E,B,x.n,bd,el,x.at_⟩:aW)) (x:={x with body:=bd,eH:=el}) h.1 ⟨E,B,rfl,TP (x:=x) h.2.2,TQ (x:=x) h.2.2⟩;rw[show(ts.length:Int).toNat=out.length from bP,mv,List.singleton_append,Qs]at hh;rw[Z,show(ts.length:Int).toNat=out.length from bP];exact hh,h.2.1⟩)
 have u:=u.p2.p2;exact⟨rfl,(pT.shut u).mut⟩
def C338(p:Nat)(lv:Value)(l:List aX)(s:eG)(k:Nat)(d lp:Int)(out:List bE)(s2:eG)(add:List bE)(Q:hM)(F:Nat->Prop)(w:World)(hF:(pT p lv s out Q).p w F)(M:∀w',fH F w w'->dy (λ_=>True) w' lv l)(O:fU l)(W:iP l s)(HB:Yu l k)(hd:0<=d/\d+k<=1000)(Yi:0<=lp/\lp+k<=1000)(OH:out.length+add.length<=1000000)(hr:Mr l (k+1) s d lp=some (s2,add)):CR 338 [(.pointer (some ⟨p,0,none⟩)),hU d,hU lp] w (λv w'=>v=hU (add.length:Int)/\mF F (pT p lv s2 (out++add) Q) w w'):=by
 have u:=St.begin hF;obtain⟨ov,ts,u⟩:=pT.open u;have Kz:ts.length=out.length:=u.p2.eI.1.1;obtain⟨s9,Xk,e2⟩:=Qr hr;have ya:=O.n;have hn:l.length<=1000000:=bP
 have qN:=O.at_;obtain⟨JT,JU⟩:=id W;refine qj Tryz.func338 (pl:=ag2) ?_;refine aD (aA l9 (aB lZ u.hb rfl (aI fX u.p1.eU ⟨λw'=>St w F [bM p (dx lv ov (Mq l s d)),bH ov ts,eI λw=>gU ts out w/\Q w] w',⟨λjv w'=>jv=.bool (decide (12<d)&&oy l s.at_ xk)/\St w F [bM p (dx lv ov s),bH ov ts,eI λw=>gU ts out w/\Q w] w',dL (aC (λ_=>aD (aA fz (have u:=u.drew;aB fY u.hb rfl (aD (aA dT (aB bL u.hb rfl (aR qk u (C196 _ l s.at_ (hZ #[123]) _ (M _ u.aF) hn) λ_ _ u=>⟨vb (by first|(rw[fj (show 12<d by omega)];rfl)|(rw[ga (show ¬ 12<d by omega)];rfl)),u⟩))))))) λ_=>have u:=u.drew;⟨vb (by first|(rw[fj (show 12<d by omega)];rfl)|(rw[ga (show ¬ 12<d by omega)];rfl)),u⟩),?_⟩,?_⟩)))
 .rintro _ _ ⟨rfl,u⟩ _;refine bD (λky=>?_) (λky=>?_)
  .refine aU AN u (H':=λ_=>bM p (dx lv ov (gk l s 7))) (Φ:=λ_ _=>True) (λJ I G=>?_) ?_
   .exact(C336 p lv ov l s 7 J _ I (λw' hc=>M w' (G w' hc).aF) O W).mono λ_ _ r=>r.mono λ_ _ h=>⟨trivial,h.2⟩
   rintro _ _ _ u;have u:=u.p2.p2.p2;have h7:Mq l s d=gk l s 7:=by unfold Mq;rw[fi ky]
   rw[h7];exact u
  have u:=u.p2.p2.p2;have h7:Mq l s d=s:=by unfold Mq;rw[ez (by rw[ky];simp)]
  rw[h7];exact u
 intro _ u _;refine aU sP u (H':=λ_=>bM p (dx lv ov (cN l (Mq l s d) (hZ #[123])))) (Φ:=λ_ _=>True) (λJ I G=>?_) ?_
 .exact(C286 p lv ov l (Mq l s d) (hZ #[123]) J _ I (λw' hc=>M w' (G w' hc).aF) O (HN W)).mono λ_ _ r=>r.mono λ_ _ h=>⟨trivial,h.2⟩
 rintro _ _ _ u;have u:=pT.shut (s:=cN l (Mq l s d) xk) u.p2.p2.p2;refine⟨λmm w'=>∃(B:eG) (E a2:List bE),iP l B/\oB l (λs=>xO l (Mr l k) s d lp) mm B=some (s9,a2)/\add=E++a2/\St w F [pT p lv B (out++E) Q] w',⟨10000,_,[],add,eu (HN W),Xk,rfl,by rw[oo];exact u⟩,?_⟩;rintro mm _ ⟨B,E,a2,Ft,FV,V,u⟩ _;obtain⟨m,rfl⟩:=Bx FV;obtain⟨Y,S5,u⟩:=pT.open u;have TS:S5.length=(out++E).length:=u.p2.eI.1.1;rw[kC]at TS;refine⟨λjv w'=>jv=.bool (decide (B.e=0)&&!oy l B.at_ kD)/\St w F [bM p (dx lv Y B),bH Y S5,eI λw=>gU S5 (out++E) w/\Q w] w',aD (aA iz (have u:=u.drew;aB gA u.hb rfl (aG (aC (λU=>aD (aA fz (aB fY u.hb rfl (aD (aA dT (aB bL u.hb rfl (aR qk u (C196 _ l B.at_ (hZ #[125]) _ (M _ u.aF) hn) λ_ _ u=>bJ (have u:=u.p2.p2.p2;⟨vb (by first|(rw[fj U];rfl)|(rw[ga U];rfl)),u⟩)))))))) λU=>have u:=u.p2.p2.p2;⟨vb (by first|(rw[fj U];rfl)|(rw[ga U];rfl)),u⟩)))),?_⟩
 rintro _ _ ⟨rfl,u⟩ _;refine bD (λuM=>?_) (λuM=>?_)
 .obtain⟨s3,a1,a3,ho,hb3,rfl⟩:=CY FV uM;have u:=pT.shut u.p2.p2.p2;refine aU UN u (H':=λ_=>pT p lv s3 ((out++E)++a1) Q) (Φ:=λ_ _=>True) (λJ I G=>?_) ?_
  .exact(C285 p lv l B k d lp (out++E) s3 a1 Q J _ I (λw' hc=>M w' (G w' hc).aF) O Ft HB bP bP (by have:=gj List.length V;simp at this |-;omega) ho).mono λ_ _ r=>r.mono λ_ _ h=>⟨trivial,h.2⟩
  rintro _ _ _ u;exact⟨_,bP,s3,E++a1,a3,HO (λ_ _ _ _ _ c e=>HQ c e) Ft ho,hb3,by rw[V,mv],by rw[<- mv];exact u⟩
 obtain⟨Z,rfl⟩:=zR FV uM;replace Z:=Z.symm;subst Z;rw[oo]at V;subst V;refine aU sP u (H':=λ_=>bM p (dx lv Y (cN l B (hZ #[125])))) (Φ:=λ_ _=>True) (λJ I G=>?_) ?_
 .exact(C286 p lv Y l B (hZ #[125]) J _ I (λw' hc=>M w' (G w' hc).aF) O Ft).mono λ_ _ r=>r.mono λ_ _ h=>⟨trivial,h.2⟩
 rintro _ _ _ u;refine aD (aA l9 (aB lZ u.hb rfl (aI fX u.p1.eU (fo bP ?_))));rw[e2];exact⟨gj (mj .i64) bP,(pT.shut u).mut⟩
theorem aek{l:List aX}(B:fU l):∀k,Yu l k
 | 0=>λp lv s d lp out u add Q F w _ _ _ _ _ _ h=>by cases h
 | k+1=>λp lv s d lp out u add Q F w I E J M O G h=>C338 p lv l s k d lp out u add Q F w I E B J (aek B k) bP bP G h
def oU(i:Int):eG:=⟨i,0,0⟩
def zS(l:List aX)(i op:Int):Option (List bE×Int×Int×Int):=
 (oB l (λs=>xO l (Mr l 20) s 0 0) 10000 (oU i)).bind λr=>
  if 1000000<r.2.length then none else if (cN l r.1 kD).e≠0 then some ([],0,(cN l r.1 kD).e,(cN l r.1 kD).pos)
  else if 40<r.2.length then some ([],0,2,(lC l op).at_)
  else some (r.2,(cN l r.1 kD).at_,0,0)
def C0(l:List aX)(s:eG):Bool:=match iX l s.at_ with|some t=>decide (t.kind=2)|none=>false
def iL(l:List aX)(nb:Bool)(s:eG):eG×bO:=
 if (nb&&(fx l (dU l s).1 Dh).2)=true then
  (if C0 l (fx l (dU l s).1 Dh).1=true then(LO (fx l (dU l s).1 Dh).1,{ (dU l s).2 with n:=(lC l (fx l (dU l s).1 Dh).1.at_).n})
  else(gk l (fx l (dU l s).1 Dh).1 5,(dU l s).2))
 else dU l s
abbrev wB:ByteArray:=⟨#[44]⟩
abbrev J5:ByteArray:=⟨#[59]⟩
def lM(l:List aX)(nb:Bool):Nat->Bool->eG->Option (eG×List bO)
 | 0,_,_=>none
 | m+1,more,s=>if (more&&decide (s.e=0))=true then(lM l nb m (fx l (iL l nb s).1 wB).2 (fx l (iL l nb s).1 wB).1).bind λr=>some (r.1,(iL l nb s).2::r.2)else some (s,[])
def jN(l:List aX)(nb:Bool)(s:eG):Option (eG×List bO):=(lM l nb 10000 true s).bind λr=>if 1000000<r.2.length then none else some (cN l r.1 J5,r.2)
abbrev LP:ByteArray:=⟨#[114,101,103]⟩
def vo(l:List aX)(s:eG):Option (eG×List ByteArray):=
 if (fx l s LP).2=true then(jN l false (fx l s LP).1).bind λr=>some (r.1,r.2.map bO.name)else some (s,[])
def oC(l:List aX)(s:eG)(nm:ByteArray)(a:Int):Option (eG×bW):=
 (vo l (cN l s xk)).bind λr=>
  if r.1.e≠0 then some (r.1,⟨nm,r.2,[],a⟩)
  else(zS l r.1.at_ s.at_).bind λR=>if 0<=R.2.1/\R.2.1<=l.length then some (⟨R.2.1,R.2.2.1,R.2.2.2⟩,⟨nm,r.2,R.1,a⟩)else none
def rQ(l:List aX)(s:eG)(a:Int):Option (eG×gI):=
 (qD l s.at_).bind λR=>if R.2.2.1≠0 then some ({s with e:=R.2.2.1,pos:=R.2.2.2},⟨[],0⟩)
  else if 0<=R.2.1/\R.2.1<=l.length then some (cN l {s with at_:=R.2.1} J5,⟨R.1,a⟩)else none
def jF{α:Type}(l:List aX)(t:ByteArray)(rd:eG->Option (eG×α)):Nat->eG->Option (eG×List α)
 | 0,_=>none
 | m+1,s=>if (fx l s t).2=true then(rd (fx l s t).1).bind λr=>(jF l t rd m r.1).bind λq=>some (q.1,r.2::q.2)else some (s,[])
def tM(l:List aX)(s:eG):Int:=(lC l (s.at_-1)).at_
def HT(l:List aX)(s:eG):Option (eG×List bW):=
 if (fx l s ⟨#[114,101,99,111,118,101,114]⟩).2=true then(oC l (fx l s ⟨#[114,101,99,111,118,101,114]⟩).1 ⟨#[]⟩ (tM l (fx l s ⟨#[114,101,99,111,118,101,114]⟩).1)).bind λr=>some (r.1,[r.2])else some (s,[])
abbrev Qu:ByteArray:=⟨#[108,105,110,101]⟩
abbrev Yz:ByteArray:=⟨#[118,111,108]⟩
abbrev Qv:ByteArray:=⟨#[108,111,99,107]⟩
abbrev C1:ByteArray:=⟨#[116,104,114,101,97,100]⟩
abbrev C2:ByteArray:=⟨#[97,108,119,97,121,115]⟩
def YA(l:List aX)(s:eG):Option (eG×bW):=oC l (dU l s).1 (dU l s).2.name (dU l s).2.at_
def Au(l:List aX)(s:eG):eG:=if s.at_<l.length then gk l s 5 else s
def Fu:bQ:=⟨[],[],[],[],[],[]⟩
def qc(t:ByteArray):Option (bQ×Int×Int):=
 (qA t).bind λL=>if L.2.1≠0 then some (Fu,L.2.1,L.2.2)else
 (jF L.1 Qu (jN L.1 true) 10000 (oU 0)).bind λG=>
 (jF L.1 Yz (jN L.1 true) 10000 G.1).bind λB=>
 (jF L.1 Qv (jN L.1 false) 10000 B.1).bind λE=>
 (jF L.1 C1 (YA L.1) 10000 E.1).bind λI=>
 (HT L.1 I.1).bind λJ=>
 (jF L.1 C2 (λs=>rQ L.1 s (tM L.1 s)) 10000 J.1).bind λu=>
  if 1000000<G.2.length\/1000000<B.2.flatten.length\/1000000<E.2.flatten.length\/1000000<I.2.length\/1000000<u.2.length then none else if (Au L.1 u.1).e≠0 then some (Fu,(Au L.1 u.1).e,(Au L.1 u.1).pos)else some (⟨G.2,B.2.flatten,E.2.flatten,I.2,J.2,u.2⟩,0,0)
section
variable {l:List aX}{s s':eG}
theorem Qw{t:ByteArray}(h:(fx l s t).2=true):fx l s t=({s with at_:=s.at_+1},true)/\s.e=0/\0<=s.at_/\s.at_<l.length:=by
 unfold fx at h |-
 split at h
 .rename_i h2
  rw[fi h2]
  rw[nw,decide_eq_true_eq]at h2
  exact⟨rfl,h2.1,nK h2.2⟩
 cases h
theorem rR{t:ByteArray}(h:(fx l s t).2=false):fx l s t=(s,false):=by
 grind[fx]
theorem zT{nb:Bool}(h:iP l s):iP l (iL l nb s).1:=by
 have h1:=pG h
 have h2:=il (t:=Dh) h1
 unfold iL
 split
 .split
  .rename_i h3
   unfold C0 at h3
   cases ht:iX l (fx l (dU l s).1 Dh).1.at_ with
   | none=>grind
   | some t=>
    have:=jt ht
    exact⟨by show 0<=(fx l (dU l s).1 Dh).1.at_+1;omega,by show(fx l (dU l s).1 Dh).1.at_+1<=_;omega⟩
  exact oA h2
 exact h1
theorem Bz{nb:Bool}:∀{m:Nat}{more:Bool}{s s':eG}{x:List bO},iP l s->lM l nb m more s=some (s',x)->iP l s'
 | 0,_,_,_,_,_,h=>by cases h
 | m+1,more,s,s',x,u,h=>by
  unfold lM at h
  split at h
  .obtain⟨q,y,h1,h2⟩:=dN h
   cases h2
   exact Bz (il (zT u)) h1
  grind
theorem sC{nb:Bool}{x:List bO}(h:jN l nb s=some (s',x)):∃u,lM l nb 10000 true s=some (u,x)/\s'=cN l u J5/\x.length<=1000000:=by
 unfold jN at h
 obtain⟨q,y,h1,h2⟩:=dN h
 grind
theorem sD{nb:Bool}{x:List bO}(u:iP l s)(h:jN l nb s=some (s',x)):iP l s':=by
 obtain⟨B,h1,h2,_⟩:=sC h
 rw[h2];exact eu (Bz u h1)
theorem Fv{nb more:Bool}{m:Nat}{x:List bO}(h:lM l nb m more s=some (s',x)):∃k,m=k+1:=by
 cases m with
 | zero=>cases h
 | succ k=>grind
theorem zU{nb more:Bool}{m:Nat}{x:List bO}(h:lM l nb (m+1) more s=some (s',x))(hb:(more&&decide (s.e=0))=false):s'=s/\x=[]:=by
 unfold lM at h;grind
theorem LQ{nb more:Bool}{m:Nat}{x:List bO}(h:lM l nb (m+1) more s=some (s',x))(hb:(more&&decide (s.e=0))=true):∃y,lM l nb m (fx l (iL l nb s).1 wB).2 (fx l (iL l nb s).1 wB).1=some (s',y)/\x=(iL l nb s).2::y:=by
 unfold lM at h;rw[hb,fi rfl]at h
 obtain⟨q,y,h1,h2⟩:=dN h
 grind
theorem Fx{x:List ByteArray}(u:iP l s)(h:vo l s=some (s',x)):iP l s':=by
 unfold vo at h
 split at h
 .obtain⟨q,y,h1,h2⟩:=dN h
  cases h2
  exact sD (il u) h1
 grind
theorem zV{nm:ByteArray}{a:Int}{x:bW}(u:iP l s)(h:oC l s nm a=some (s',x)):iP l s':=by
 unfold oC at h
 obtain⟨q,y,h1,h2⟩:=dN h
 have h3:=Fx (eu u) h1
 dsimp only at h2
 split at h2
 .grind
 cases hr:zS l q.at_ s.at_ with
 | none=>grind
 | some R=>
  grind[iP]
theorem LR{a:Int}{x:gI}(u:iP l s)(h:rQ l s a=some (s',x)):iP l s':=by
 unfold rQ at h
 cases hr:qD l s.at_ with
 | none=>grind
 | some R=>
  rw[hr]at h
  simp only[kO]at h
  split at h
  .cases h;exact u
  .split at h
   .rename_i h4;cases h;exact eu h4
   .cases h
theorem nM{α:Type}{t:ByteArray}{rd:eG->Option (eG×α)}{m:Nat}{x:List α}(h:jF l t rd m s=some (s',x)):∃k,m=k+1:=by
 cases m with
 | zero=>cases h
 | succ k=>grind
theorem pH{α:Type}{t:ByteArray}{rd:eG->Option (eG×α)}{m:Nat}{x:List α}(h:jF l t rd (m+1) s=some (s',x))(hb:(fx l s t).2=false):s'=s/\x=[]:=by
 unfold jF at h;grind
theorem rS{α:Type}{t:ByteArray}{rd:eG->Option (eG×α)}{m:Nat}{x:List α}(h:jF l t rd (m+1) s=some (s',x))(hb:(fx l s t).2=true):∃u y z,rd (fx l s t).1=some (u,y)/\jF l t rd m u=some (s',z)/\x=y::z:=by
 unfold jF at h;rw[hb,fi rfl]at h
 obtain⟨q,y,h1,h2⟩:=dN h
 obtain⟨B,E,h3,h4⟩:=dN h2
 grind
end
def noQ:hM:=λ_=>True
theorem vp{l:List aX}{i:Int}{t:aX}(u:0<=i)(h:l[i.toNat]?=some t):lC l i=t:=by
 unfold lC iX;grind
def TT{l:List aX}{i op:Int}{R:List bE×Int×Int×Int}(h:zS l i op=some R):∃u add,oB l (λs=>xO l (Mr l 20) s 0 0) 10000 (oU i)=some (u,add)/\add.length<=1000000/\
  ((cN l u kD).e≠0->R=([],0,(cN l u kD).e,(cN l u kD).pos))/\(¬ (cN l u kD).e≠0->40<(add.length:Int)->R=([],0,2,(lC l op).at_))/\
  (¬ (cN l u kD).e≠0->¬ 40<(add.length:Int)->R=(add,(cN l u kD).at_,0,0)):=by
 unfold zS at h
 obtain⟨q,y,h1,h2⟩:=dN h
 grind
section
variable {l:List aX}{s s':eG}{nb:Bool}
theorem LS(u:nb=true)(h2:(fx l (dU l s).1 Dh).2=true)(h3:C0 l (fx l (dU l s).1 Dh).1=true) :
  iL l nb s=(LO (fx l (dU l s).1 Dh).1,{ (dU l s).2 with n:=(lC l (fx l (dU l s).1 Dh).1.at_).n}):=by
 unfold iL;grind
theorem LU(u:nb=true)(h2:(fx l (dU l s).1 Dh).2=true)(h3:C0 l (fx l (dU l s).1 Dh).1=false) :
  iL l nb s=(gk l (fx l (dU l s).1 Dh).1 5,(dU l s).2):=by
 unfold iL;grind
theorem Qx(h2:(fx l (dU l s).1 Dh).2=false):iL l nb s=((fx l (dU l s).1 Dh).1,(dU l s).2):=by
 unfold iL;rw[ez cR,rR h2]
theorem Qy(u:nb=false):iL l nb s=((dU l s).1,(dU l s).2):=by
 grind[iL,dU]
theorem TU{q:eG}(h:C0 l q=true):∃u,iX l q.at_=some u/\l[q.at_.toNat]?=some u/\0<=q.at_/\q.at_<l.length:=by
 unfold C0 at h
 cases ht:iX l q.at_ with
 | none=>grind
 | some u=>have:=jt ht;grind
theorem BA{x:List ByteArray}(h:vo l s=some (s',x))(h1:(fx l s LP).2=true):∃ys,jN l false (fx l s LP).1=some (s',ys)/\x=ys.map bO.name:=by
 unfold vo at h;rw[fi h1]at h
 obtain⟨q,y,h2,h3⟩:=dN h
 grind
theorem Fy{x:List ByteArray}(h:vo l s=some (s',x))(h1:(fx l s LP).2=false):s'=s/\x=[]:=by
 unfold vo at h;grind
theorem HU{nm:ByteArray}{a:Int}{x:bW}(h:oC l s nm a=some (s',x)):∃q u,vo l (cN l s xk)=some (q,u)/\
  (q.e≠0->s'=q/\x=⟨nm,u,[],a⟩)/\(¬ q.e≠0->∃R,zS l q.at_ s.at_=some R/\0<=R.2.1/\R.2.1<=l.length/\s'=⟨R.2.1,R.2.2.1,R.2.2.2⟩/\x=⟨nm,u,R.1,a⟩):=by
 unfold oC at h
 obtain⟨q,u,h1,h2⟩:=dN h
 refine⟨q,u,h1,λB=>?_,λB=>?_⟩
 .grind
 dsimp only at h2;rw[ez B]at h2
 cases hr:zS l q.at_ s.at_ with
 | none=>grind
 | some R=>
  grind
theorem LV{a:Int}{x:gI}(h:rQ l s a=some (s',x)):∃R,qD l s.at_=some R/\
  (R.2.2.1≠0->s'={s with e:=R.2.2.1,pos:=R.2.2.2}/\x=⟨[],0⟩)/\(¬ R.2.2.1≠0->(0<=R.2.1/\R.2.1<=l.length)/\s'=cN l {s with at_:=R.2.1} J5/\x=⟨R.1,a⟩):=by
 unfold rQ at h
 cases hr:qD l s.at_ with
 | none=>grind
 | some R=>
  grind
theorem YB{e:Int}(u:e≠0)(h:(gk l s e).e=0):False:=by
 unfold gk at h
 grind
theorem TV{t:ByteArray}(h:(cN l s t).e=0):oy l s.at_ t=true:=by
 unfold cN at h
 split at h
 .grind
 exact(YB ea h).elim
theorem aem{t:ByteArray}:(fx l s t).1.e=s.e:=by unfold fx;grind
theorem LW{e:Int}(h:s.e≠0):(gk l s e).e≠0:=by unfold gk;grind
theorem HV{t:ByteArray}(h:s.e≠0):(cN l s t).e≠0:=by
 unfold cN;rw[ez cR];exact LW h
theorem Fz:∀{m:Nat}{more:Bool}{s s':eG}{x:List bO},s.e≠0->lM l nb m more s=some (s',x)->s'.e≠0
 | 0,_,_,_,_,_,h=>by cases h
 | m+1,more,s,s',x,u,h=>by
  have:=zU h cR
  grind
theorem FA{x:List bO}(u:s.e≠0)(h:jN l nb s=some (s',x)):s'.e≠0:=by
 obtain⟨B,h1,h2,_⟩:=sC h
 rw[h2];exact HV (Fz u h1)
theorem HW{x:List ByteArray}(u:s.e≠0)(h:vo l s=some (s',x)):s'.e≠0:=by
 cases h1:(fx l s LP).2 with
 | true=>obtain⟨ys,h2,_⟩:=BA h h1;exact FA (by rw[aem];exact u) h2
 | false=>rw[(Fy h h1).1];exact u
end
theorem Av{α β:Type}{f:α->β}{l:List α}{k:Nat}{e:α}(h:l[k]?=some e):(l.take k).map f++[f e]=(l.take (k+1)).map f:=by
 rw[<- gw h,List.map_append];rfl
def FB{l:List aX}{s s':eG}{x:List bW}(h:HT l s=some (s',x))(h1:(fx l s ⟨#[114,101,99,111,118,101,114]⟩).2=true):∃y,oC l (fx l s ⟨#[114,101,99,111,118,101,114]⟩).1 ⟨#[]⟩ (tM l (fx l s ⟨#[114,101,99,111,118,101,114]⟩).1)=some (s',y)/\x=[y]:=by
 unfold HT at h;rw[fi h1]at h
 obtain⟨q,y,h2,h3⟩:=dN h
 grind
theorem J6{l:List aX}{s s':eG}{x:List bW}(h:HT l s=some (s',x))(h1:(fx l s ⟨#[114,101,99,111,118,101,114]⟩).2=false):s'=s/\x=[]:=by
 unfold HT at h;grind
theorem LX{t:ByteArray}{l:List aX}{e a:Int}{R:bQ×Int×Int}(h:qc t=some R)(u:qA t=some (l,e,a))(B:e≠0):R=(Fu,e,a):=by
 unfold qc at h;rw[u]at h
 simp only[kO]at h
 rw[fi B]at h;exact(nN.inj h).symm
theorem HX{t:ByteArray}{R:bQ×Int×Int}(h:qc t=some R):∃l e a,qA t=some (l,e,a):=by
 unfold qc at h
 cases hs:qA t with
 | none=>rw[hs]at h;cases h
 | some L=>exact⟨L.1,L.2.1,L.2.2,rfl⟩
structure YC(l:List aX)(R:bQ×Int×Int)(t1 t2 t3 t4 t5 t6:eG)(y1:List (List bO))(y2 y3:List (List bO))(y4 y5:List bW)(y6:List gI):Prop where
 h1:jF l Qu (jN l true) 10000 (oU 0)=some (t1,y1)
 h2:jF l Yz (jN l true) 10000 t1=some (t2,y2)
 h3:jF l Qv (jN l false) 10000 t2=some (t3,y3)
 h4:jF l C1 (YA l) 10000 t3=some (t4,y4)
 h5:HT l t4=some (t5,y5)
 h6:jF l C2 (λs=>rQ l s (tM l s)) 10000 t5=some (t6,y6)
 b1:y1.length<=1000000
 b2:y2.flatten.length<=1000000
 b3:y3.flatten.length<=1000000
 b4:y4.length<=1000000
 b6:y6.length<=1000000
 bad:(Au l t6).e≠0->R=(Fu,(Au l t6).e,(Au l t6).pos)
 ajO:¬ (Au l t6).e≠0->R=(⟨y1,y2.flatten,y3.flatten,y4,y5,y6⟩,0,0)
def Qz{t:ByteArray}{l:List aX}{e a:Int}{R:bQ×Int×Int}(h:qc t=some R)(hs:qA t=some (l,e,a))(he:¬ e≠0):∃E Y U u G O V B I Z W J,YC l R E Y U u G O V B I Z W J:=by
 unfold qc at h;rw[hs]at h
 simp only[kO]at h
 rw[ez he]at h
 obtain⟨E,V,h1,h⟩:=dN h
 obtain⟨Y,B,h2,h⟩:=dN h
 obtain⟨U,I,h3,h⟩:=dN h
 obtain⟨u,Z,h4,h⟩:=dN h
 obtain⟨G,W,h5,h⟩:=dN h
 obtain⟨O,J,h6,h⟩:=dN h
 dsimp only at h
 split at h
 .cases h
 rename_i hb
 simp only[not_or,Nat.not_lt]at hb
 refine⟨E,Y,U,u,G,O,V,B,I,Z,W,J,h1,h2,h3,h4,h5,h6,hb.1,hb.2.1,hb.2.2.1,hb.2.2.2.1,hb.2.2.2.2,λM=>?_,λM=>?_⟩
 .rw[fi M]at h;exact(nN.inj h).symm
 rw[ez M]at h;exact(nN.inj h).symm
theorem TW{l:List aX}{s s':eG}{x:List bW}(u:iP l s)(h:HT l s=some (s',x)):iP l s':=by
 cases h1:(fx l s ⟨#[114,101,99,111,118,101,114]⟩).2 with
 | true=>obtain⟨y,h2,_⟩:=FB h h1;exact zV (il u) h2
 | false=>rw[(J6 h h1).1];exact u
theorem vq{α:Type}{a:List (List α)}{b:List α}:(a++[b]).flatten=a.flatten++b:=ew
def J7{α:Type}{y a c:List (List α)}{b:List α}(h:y=a++b::c):a.flatten.length+b.length<=y.flatten.length:=cR
def C199(l:List aX)(lv:Value)(i op:Int)(R:List bE×Int×Int×Int)(w:World)(Z:dy (λ_=>True) w lv l)(J:fU l)(h0:0<=i/\i<=l.length)(g8:0<=op/\op<l.length)(hr:zS l i op=some R):CR 199 [lv,hU i,hU op] w (λv w'=>∃O:SV,v=.tuple #[ia O,hU R.2.1,hU R.2.2.1,hU R.2.2.2]/\mG (eI λw=>DL w (ia O) R.1) w w'):=by
 have ya:=J.n;have hn:l.length<=1000000:=bP
 have qN:=J.at_;obtain⟨s9,add,Xk,OH,hR⟩:=TT hr;obtain⟨lsv,VS⟩:=Z.gu;have u:=St.start w;refine qj Tryz.func199 (pl:=agT) ?_;rw[VS];refine pop (Gz _ _ _ _) (o0 u λaen _ u=>?_);obtain⟨p,rfl⟩:∃p,p=aen:=⟨_,rfl⟩;have u:=u.enc (cs':=dx (ia lsv) (.slice none 0 0) (oU i)) rfl;rw[<- VS]at u |-;have hT:∀w',fH bF w w'->dy (λ_=>True) w' lv l:=λ_ hc=>Z.ext hc;have u:=((u.fK (Φ:=λw=>gU ([]:List aW) ([]:List bE) w/\noQ w) λ_=>⟨gU.nil,trivial⟩).eF (α:=aW)).p2;have u:=pT.shut u;refine⟨λmm w'=>∃(B:eG) (E a2:List bE),iP l B/\oB l (λs=>xO l (Mr l 20) s 0 0) mm B=some (s9,a2)/\add=E++a2/\St w bF [pT p lv B (([]:List bE)++E) noQ] w',⟨10000,oU i,[],add,(show iP l (oU i)from h0),Xk,rfl,by rw[oo];exact u⟩,?_⟩
 rintro mm _ ⟨B,E,a2,Y,FV,M,u⟩ _;obtain⟨m,rfl⟩:=Bx FV;obtain⟨V,U,u⟩:=pT.open u;have TS:U.length=(([]:List bE)++E).length:=u.p2.eI.1.1;rw[kC]at TS;refine⟨λjv w'=>jv=.bool (decide (B.e=0)&&!oy l B.at_ kD)/\St w bF [bM p (dx lv V B),bH V U,eI λw=>gU U (([]:List bE)++E) w/\noQ w] w',aD (aA iz (have u:=u.drew;aB gA u.hb rfl (aG (aC (λI=>aD (aA fz (aB fY u.hb rfl (aD (aA dT (aB bL u.hb rfl (aR qk u (C196 _ l B.at_ (hZ #[125]) _ (hT _ u.aF) hn) λ_ _ u=>bJ (have u:=u.p2.p2.p2;⟨vb (by first|(rw[fj I];rfl)|(rw[ga I];rfl)),u⟩)))))))) λI=>have u:=u.p2.p2.p2;⟨vb (by first|(rw[fj I];rfl)|(rw[ga I];rfl)),u⟩)))),?_⟩
 rintro _ _ ⟨rfl,u⟩ _;refine bD (λoc=>?_) (λoc=>?_)
 .obtain⟨s3,a1,a3,ho,hb3,rfl⟩:=CY FV oc;have u:=pT.shut u.p2.p2.p2;refine aU UN u (H':=λ_=>pT p lv s3 ((([]:List bE)++E)++a1) noQ) (Φ:=λ_ _=>True) (λF2 dQ dK=>?_) ?_
  .exact(C285 p lv l B 20 0 0 (([]:List bE)++E) s3 a1 noQ F2 _ dQ (λw' hc=>hT w' (dK w' hc).aF) J Y (aek J 20) bP bP (by have:=gj List.length M;simp at this |-;omega) ho).mono λ_ _ r=>r.mono λ_ _ h=>⟨trivial,h.2⟩
  rintro _ _ _ u;exact⟨_,bP,s3,E++a1,a3,HO (λ_ _ _ _ _ c e=>HQ c e) Y ho,hb3,by rw[M,mv],by rw[<- mv];exact u⟩
 obtain⟨e9,rfl⟩:=zR FV oc;replace e9:=e9.symm;subst e9;rw[oo]at M;subst M;obtain⟨ajQ,ajR⟩:=id Y;simp only[Dd,Nat.zero_add]at TS;refine aU sP u (H':=λ_=>bM p (dx lv V (cN l B (hZ #[125])))) (Φ:=λ_ _=>True) (λF2 dQ dK=>?_) ?_
 .exact(C286 p lv V l B (hZ #[125]) F2 _ dQ (λw' hc=>hT w' (dK w' hc).aF) J Y).mono λ_ _ r=>r.mono λ_ _ h=>⟨trivial,h.2⟩
 rintro _ _ _ u;refine aD (aA iz (aB gA u.hb rfl (cC (aC (λW=>?_) λW=>aD (aA l9 (aB lZ u.hb rfl (aI fX u.p1.eU (dL (aC (λaeo=>?_) λaeo=>?_)))))))))
 .refine aD (aA iz (have u:=u.drew;aB gA u.hb rfl (aD (aA uD (aB bL u.hb rfl ?_)))));have G:R=([],0,(cN l B kD).e,(cN l B kD).pos):=hR.1 W;rw[G];exact⟨bZ,rfl,(u.fK (Φ:=λw=>DL w (ia (bZ:SV)) ([]:List bE)) λw=>DL.nil w).fresh⟩
 .obtain⟨VZ,QA⟩:=gx l (i:=op.toNat) bP;refine aZ eB Z bP QA (λ_ aep=>cU VZ.at_ iT aep rfl rfl λ_ FC=>have u:=u.drew;aE bL (FC.ext u.aF) ?_);have G:R=([],0,2,VZ.at_):=(hR.2.1 W bP).trans (by rw[vp g8.1 QA]);rw[G];exact⟨bZ,rfl,(u.fK (Φ:=λw=>DL w (ia (bZ:SV)) ([]:List bE)) λw=>DL.nil w).fresh⟩
 refine aD (aA l9 (have u:=u.drew;aB lZ u.hb rfl (aD (aA dT (aB bL u.hb rfl ?_)))));have u:=(u.drop.p1.dH (Ψ:=gU U ([]++add)) λ_ h=>h.1).p1;have u:=St.IQ u;obtain⟨O,hsv⟩:=u.D8;subst hsv;rw[hR.2.2 W bP];exact⟨O,rfl,u.sj.fresh⟩
def C102(p:Nat)(lv:Value)(l:List aX)(s:eG)(nb:Bool)(s2:eG)(x:List bO)(F:Nat->Prop)(w:World)(hF:(bM p (dA lv s)).p w F)(J:∀w',fH F w w'->dy (λ_=>True) w' lv l)(U:fU l)(h0:iP l s)(hr:jN l nb s=some (s2,x)):CR 102 [(.pointer (some ⟨p,0,none⟩)),.bool nb] w (λv w'=>mF F (sep (bM p (dA lv s2)) (bH v x)) w w'):=by
 have u:=St.begin hF;obtain⟨s9,SB,e2,OH⟩:=sC hr;have ya:=U.n;have hn:l.length<=1000000:=bP
 have qN:=U.at_;obtain⟨JT,JU⟩:=id h0;refine qj Tryz.func102 (pl:=agD) ?_;refine bK ([]:List bO) u nR rfl rfl (dP rfl) (λajs _ u=>?_);have u:=u.p1.p1;refine⟨λmm o mo w'=>∃(B:eG) (b:Bool) (W a2:List bO),mo=.bool b/\iP l B/\lM l nb mm b B=some (s9,a2)/\x=W++a2/\St w F [bH o W,bM p (dA lv B)] w',⟨10000,s,true,[],x,rfl,h0,SB,rfl,u⟩,?_⟩;rintro mm pM _ w2 ⟨B,b,W,a2,rfl,M,SL,hx,u⟩ _;obtain⟨m,rfl⟩:=Fv SL;obtain⟨ajQ,ajR⟩:=id M;refine⟨λjv w'=>jv=.bool (b&&decide (B.e=0))/\w2=w',bD (λZ=>aD (aA jj (aB gA u.p1.hb rfl (aG ⟨vb (by first|(rw[Z];rfl)|(rw[Z];rfl)),rfl⟩)))) (λZ=>⟨vb (by first|(rw[Z];rfl)|(rw[Z];rfl)),rfl⟩),?_⟩
 rintro _ _ ⟨rfl,hw⟩ _;subst hw;refine bD (λcW=>?_) (λcW=>?_)
 .obtain⟨a3,Rj,rfl⟩:=LQ SL cW;refine aU UB u.p1 (H':=λ_=>bM p (dA lv (dU l B).1)) (Φ:=λv _=>v=ia (dU l B).2) (λG E I=>?_) ?_
  .exact C103 p lv l B G _ E (λw' hc=>J w' (I w' hc).aF) U M
  rintro _ _ rfl u;refine aM u lR (λY _ u=>aH (x:=(dU l B).2) u jS rfl rfl λ_ u=>⟨λw'=>St w F [bM p (dA lv (iL l nb B).1),bM Y (iW (iL l nb B).2),bH pM W] w',⟨_,bD (λqd=>?_) (λqd=>?_),λ_ _ h=>h⟩,?_⟩)
  .refine aU sO u.p1 (H':=λ_=>bM p (dA lv (fx l (dU l B).1 (hZ #[61])).1)) (Φ:=λv _=>v=.bool (fx l (dU l B).1 (hZ #[61])).2) (λG E I=>?_) ?_
   .exact C101 p lv l (dU l B).1 (hZ #[61]) G _ E (λw' hc=>J w' (I w' hc).aF) U (pG M)
   rintro _ _ rfl u;intro z9;refine bD (λky=>?_) (λky=>?_)
   .have hq:=il (t:=hZ #[61]) (pG M);obtain⟨O,hq1⟩:=id hq;refine⟨λjv w'=>jv=.bool (C0 l (fx l (dU l B).1 (hZ #[61])).1)/\St w F [bM p (dA lv (fx l (dU l B).1 (hZ #[61])).1),bM Y (iW (dU l B).2),bH pM W] w',aD (aA eh (have u:=u.drew;aB bL u.hb rfl (aD (aA gS (aB fY u.hb rfl (aI eB (J _ u.aF) (aS (aC (λku=>?_) λku=>have u:=u.p2.p2.p2;⟨vb (by unfold C0 iX;rw[fi O,l3 bP]),u⟩)))))))),?_⟩
    .refine aD (aA gS (aB fY u.hb rfl (aD (aA eh (aB bL u.hb rfl ?_)))));obtain⟨aer,QB⟩:=gx l (i:=(((fx l (dU l B).1 (hZ #[61])).1).at_).toNat) bP;exact aZ eB (J _ u.aF) bP QB (λ_ aes=>cU aer.kind iS aes rfl rfl λ_ aet=>aE bL aet (aG (have u:=u.p2.p2.p2;⟨vb (by unfold C0 iX;rw[fi O,QB]),u⟩)))
    rintro _ _ ⟨rfl,u⟩ _;refine bD (λxd=>?_) (λxd=>?_)
    .obtain⟨tk,PX,Cy,_,hqlt⟩:=TU xd;have FX:lC l (fx l (dU l B).1 (hZ #[61])).1.at_=tk:=vp O Cy;refine aD (aA gS (have u:=u.drew;aB fY u.hb rfl (aD (aA eh (aB bL u.hb rfl (aZ eB (J _ u.aF) bP Cy λ_ FC=>cU tk.n nc FC rfl rfl λ_ aeu=>aE bL aeu (aA uy (aO u.p1 bL (dP rfl) (rfl) λ_ u=>have u:=u.enc (cs':=iW ({ (dU l B).2 with n:=tk.n}:bO)) rfl;aD (aA eh ?_)))))))));refine aB bL u.p1.hb rfl (aK bP (aD (aA eh (aO u.p1 bL (dP rfl) (rfl) λ_ u=>?_))))
     have u:=u.p2.p2.p2;have V:(iL l nb B)=(LO (fx l (dU l B).1 (hZ #[61])).1,{ (dU l B).2 with n:=tk.n}):=(LS qd ky xd).trans (by rw[FX]);rw[V];exact u
    refine aU Ir u (H':=λ_=>bM p (dA lv (gk l (fx l (dU l B).1 (hZ #[61])).1 5))) (Φ:=λ_ _=>True) (λG E I=>?_) ?_
    .exact(C106 p lv l (fx l (dU l B).1 (hZ #[61])).1 G _ E (λw' hc=>J w' (I w' hc).aF) U (il (pG M))).mono λ_ _ r=>r.mono λ_ _ h=>⟨trivial,h.2⟩
    rintro _ _ _ u;have u:=u.p2.p2.p2;have V:=LU qd ky xd;rw[V];exact u
   have u:=u.p2.p2.p2;have V:=Qx (nb:=nb) ky;rw[V];exact u
  .intro z9;refine et ?_;have u:=u.p2.p1.p2;have V:=Qy (l:=l) (s:=B) qd;rw[V];exact u
  intro _ u _;refine aE jS u.p1.At (bK ([(iL l nb B).2]) u nR rfl rfl (dP rfl) λaef _ u=>?_);have YD:=u.eU;refine cO u.p3 nR YD (by have:=gj List.length hx;simp at this |-;omega) ea (λs_x75 _ u=>have u:=u.p1.drop;aU sO u.p1 (H':=λ_=>bM p (dA lv (fx l (iL l nb B).1 (hZ #[44])).1)) (Φ:=λv _=>v=.bool (fx l (iL l nb B).1 (hZ #[44])).2) (λG E I=>?_) ?_)
  .exact C101 p lv l (iL l nb B).1 (hZ #[44]) G _ E (λw' hc=>J w' (I w' hc).aF) U (zT M)
  rintro _ _ rfl u;have u:=u.p2.drop.p1;exact⟨_,bP,(fx l (iL l nb B).1 wB).1,(fx l (iL l nb B).1 wB).2,W++[(iL l nb B).2],a3,rfl,il (zT M),Rj,by rw[hx,mv];rfl,u⟩
 obtain⟨e9,rfl⟩:=zU SL cW;replace e9:=e9.symm;subst e9;rw[oo]at hx;subst hx;refine aU MP u.p1 (H':=λ_=>bM p (dA lv (cN l B (hZ #[59])))) (Φ:=λ_ _=>True) (λG E I=>?_) ?_
 .exact(C197 p lv l B (hZ #[59]) G _ E (λw' hc=>J w' (I w' hc).aF) U M).mono λ_ _ r=>r.mono λ_ _ h=>⟨trivial,h.2⟩
 rintro _ _ _ u;have u:=u.p1.p1;rw[e2];exact(St.join u).mut
def C104(p:Nat)(lv:Value)(l:List aX)(s:eG)(nm:ByteArray)(a:Int)(s2:eG)(x:bW)(F:Nat->Prop)(w:World)(hF:(bM p (dA lv s)).p w F)(Z:∀w',fH F w w'->dy (λ_=>True) w' lv l)(E:fU l)(O:iP l s)(hr:oC l s nm a=some (s2,x)):CR 104 [(.pointer (some ⟨p,0,none⟩)),ia (⟨nm,bZ,bZ,a⟩:bU)] w (λv w'=>mF F (oW λsh:bU=>fact (v=ia sh) (sep (bM p (dA lv s2)) (eI λw=>l2 w sh x))) w w'):=by
 have u:=St.begin hF;obtain⟨q,Y,W,Bd,Df⟩:=HU hr;have V:=Fx (eu O) W;obtain⟨hqi0,hqi1⟩:=id V;have ya:=E.n;have hn:l.length<=1000000:=bP
 have qN:=E.at_;obtain⟨JT,JU⟩:=id O;refine qj Tryz.func104 (pl:=agF) ?_;refine bY (x:=(⟨nm,bZ,bZ,a⟩:bU)) u (λYE _ u=>aM u sd λPj _ u=>have u:=u.enc (cs':=iW (⟨(hZ #[]),bZ,bZ,0⟩:bU)) rfl;aD (aA eh (aB bL u.p2.hb rfl (aU MP u.p2 (H':=λ_=>bM p (dA lv (cN l s (hZ #[123])))) (Φ:=λ_ _=>True) (λI G M=>?_) ?_))))
 .exact(C197 p lv l s (hZ #[123]) I _ G (λw' hc=>Z w' (M w' hc).aF) E O).mono λ_ _ r=>r.mono λ_ _ h=>⟨trivial,h.2⟩
 rintro _ _ _ u;refine⟨λw'=>∃B:SV,St w F [bH (ia B) Y,bM YE (iW (⟨nm,B,bZ,a⟩:bU)),bM Pj (iW (⟨(hZ #[]),bZ,bZ,0⟩:bU)),bM p (dA lv q)] w',?_,?_⟩
 .refine aU sO u (H':=λ_=>bM p (dA lv (fx l (cN l s (hZ #[123])) (hZ #[114,101,103])).1)) (Φ:=λv _=>v=.bool (fx l (cN l s (hZ #[123])) (hZ #[114,101,103])).2) (λI G M=>?_) ?_
  .exact C101 p lv l (cN l s (hZ #[123])) (hZ #[114,101,103]) I _ G (λw' hc=>Z w' (M w' hc).aF) E (eu O)
  rintro _ _ rfl u;refine bD (λfg=>?_) (λfg=>?_)
  .obtain⟨ys,U,ZT⟩:=BA W fg;have hyl:ys.length<=1000000:=by obtain⟨_,_,_,h⟩:=sC U;exact h
   refine aU Iq u (H':=λv=>sep (bM p (dA lv q)) (bH v ys)) (Φ:=λ_ _=>True) (λI G M=>?_) ?_
   .exact(C102 p lv l (fx l (cN l s (hZ #[123])) (hZ #[114,101,103])).1 false q ys I _ G (λw' hc=>Z w' (M w' hc).aF) E (il (eu O)) U).mono λ_ _ r=>r.mono λ_ _ h=>⟨trivial,h⟩
   rintro x21 _ _ u;have u:=(((((u.split.eF (α:=ByteArray)).p1).p3).p3).p4).p4;refine⟨λmm i w'=>∃(j:Nat) (B:SV),i=hU (j:Int)/\mm=ys.length-j/\j<=ys.length/\St w F [bH (ia B) ((ys.take j).map bO.name),bM YE (iW (⟨nm,B,bZ,a⟩:bU)),bH x21 ys,bM Pj (iW (⟨(hZ #[]),bZ,bZ,0⟩:bU)),bM p (dA lv q)] w',⟨_,0,bZ,rfl,rfl,mr _,u⟩,?_⟩;rintro mm _ _ ⟨j,B,rfl,rfl,hj,u⟩ _;refine aI nR u.p2.eU (aS (aC (λky=>?_) λky=>?_))
   .refine aA m7 (have u:=u.drew;aB (v:=ia (B:SV)) lX u.p1.hb rfl ?_);obtain⟨V0,QC⟩:=gx ys (i:=(j:Int).toNat) bP;refine ed u.p2 nR bP bP (λ_ EK=>rf m9 EK λ_ A7=>uE V0.name u.p2 j3 A7 QC rfl (bK ([V0.name]) u iR rfl rfl (dP rfl) λs_x35 _ u=>?_));refine⟨aY lX (u.p2.hb.cell rfl),?_⟩;have YF:=u.eU;refine cO u.p1 iR YF (by simp;omega) ea (λs_x36 _ u=>have u:=u.p1.drop;aA m7 ?_);obtain⟨QD,rfl⟩:=u.gu;exact aO u.p1 lX (dP rfl) (rfl) (λ_ u=>have u:=u.enc (cs':=iW (⟨nm,QD,bZ,a⟩:bU)) rfl;aK bP (have u:=u.p4.p4.p4.p3.p4;⟨_,bP,j+1,QD,rfl,rfl,bP,by rw[<- Av (k:=j) QC];exact u⟩))
   have u:=u.p2.drop.p3.p3.p3.p3;rw[kE bP]at u;rw[ZT];exact⟨B,u⟩
  have u:=((((u.eF (α:=ByteArray)).p1).p2).p3).p3;obtain⟨e1,e3⟩:=Fy W fg;rw[rR fg]at u;rw[e1,e3];exact⟨bZ,u⟩
 rintro _ ⟨B,u⟩ _;refine⟨λw'=>∃(B J:SV) (body:List bE),x=⟨nm,Y,body,a⟩/\St w F [bH (ia B) Y,eI (λw=>DL w (ia J) body),bM YE (iW (⟨nm,B,J,a⟩:bU)),bM Pj (iW (⟨(hZ #[]),bZ,bZ,0⟩:bU)),bM p (dA lv s2)] w',aD (aA jj (aB gA u.p3.hb rfl (aG (aC (λmJ=>?_) λmJ=>?_)))),?_⟩
 .obtain⟨R,hR,hR0,hR1,e2,hx⟩:=Df bP;have Mn:(cN l s xk).e=0:=zP.1 λhh=>HW hh W bP;have g8:=nK (TV Mn);refine aD (aA gS (have u:=u.drew;aB fY u.p3.hb rfl (aD (aA eh (aB bL u.p3.hb rfl (dX aay (C199 l _ q.at_ s.at_ R _ (Z _ u.aF) E V g8 hR) ?_))))));rintro _ _ ⟨QE,rfl,dw⟩;have u:=u.made dw;refine aJ rfl (aJ rfl (aJ rfl (aJ rfl (aA qT (aO u.p2 lZ (dP rfl) (rfl) λ_ u=>have u:=u.enc (cs':=iW (⟨nm,B,QE,a⟩:bU)) rfl;aD (aA eh (aO u.p4 bL (dP rfl) (rfl) λ_ u=>aD (aA jj (aO u gA (dP rfl) (rfl) λ_ u=>aD ?_)))))))))
  refine aA qW (aO u bL (dP rfl) (rfl) λ_ u=>?_);have u:=u.p4.p2.p3.p4;rw[e2];exact⟨B,QE,R.1,hx,u⟩
 .have u:=u.fK (Φ:=λw=>DL w (ia (bZ:SV)) ([]:List bE)) λw=>DL.nil w;have u:=u.p4.p4.p4.p3.p4;obtain⟨e2,hx⟩:=Bd mJ;rw[e2];exact⟨B,bZ,[],hx,u⟩
 rintro _ ⟨B,J,body,rfl,u⟩ _;exact aE lq u.p2.At (aH (x:=(⟨nm,B,J,a⟩:bU)) u.p3 lq rfl rfl λ_ u=>aE lq u.At (have u:=u.p1.freeze.p2.p1.ic.dH (Ψ:=(λw=>l2 w (⟨nm,B,J,a⟩:bU) (⟨nm,Y,body,a⟩:bW))) (λ_ h=>⟨_,_,rfl,DL.eO h.1,id h.2⟩);have u:=u.p1.drop.p1.drop.p1;(rP u).mut))
def C105(p:Nat)(lv:Value)(l:List aX)(s:eG)(a:Int)(I:eG)(x:gI)(F:Nat->Prop)(w:World)(Y:(bM p (dA lv s)).p w F)(J:∀w',fH F w w'->dy (λ_=>True) w' lv l)(B:fU l)(h0:iP l s)(hr:rQ l s a=some (I,x)):CR 105 [(.pointer (some ⟨p,0,none⟩)),hU a] w (λv w'=>mF F (oW λM:iq=>fact (v=ia M) (sep (bM p (dA lv I)) (eI λw=>l2 w M x))) w w'):=by
 have u:=St.begin Y;obtain⟨R,G,Z,V⟩:=LV hr;have ya:=B.n;have hn:l.length<=1000000:=bP
 have qN:=B.at_;obtain⟨JT,JU⟩:=id h0;refine qj Tryz.func105 (pl:=agG) ?_;refine aM u Gt (λPj _ u=>have u:=u.enc (cs':=iW (⟨bZ,0⟩:iq)) rfl;aD (aA gS (have u:=u.drew;aB fY u.p1.hb rfl (aD (aA eh (aB bL u.p1.hb rfl (dX UJ (C200 l _ s.at_ R _ (J _ u.aF) B bP G) ?_)))))));rintro _ _ ⟨O,rfl,dw⟩;have u:=u.made dw;refine aJ rfl (aJ rfl (aJ rfl (aJ rfl (cC (aC (λE=>?_) λE=>?_)))))
 .obtain⟨rfl,rfl⟩:=Z E;exact aD (aA jj (aO u.p2 gA (dP rfl) (rfl) λ_ u=>aD (aA qW (aO u bL (dP rfl) (rfl) λ_ u=>pop (v:=ia (⟨bZ,0⟩:iq)) (by kernel_rfl) (aH (x:=(⟨bZ,0⟩:iq)) u.p2 B7 rfl rfl λ_ u=>aE B7 u.At (have u:=u.fK (Φ:=(λw=>l2 w (⟨bZ,0⟩:iq) (⟨[],0⟩:gI))) (λ_=>⟨_,rfl,DL.nil _⟩);have u:=u.p1.drop.p2.drop.p1;(rP u).mut))))))
 obtain⟨F5,rfl,rfl⟩:=V E;refine aD (aA eh (aO u.p2 bL (dP rfl) (rfl) λ_ u=>have u:=u.enc (cs':=dA lv ({s with at_:=R.2.1}:eG)) rfl;aU MP u (H':=λ_=>bM p (dA lv (cN l ({s with at_:=R.2.1}:eG) (hZ #[59])))) (Φ:=λ_ _=>True) (λF2 W U=>?_) ?_))
 .exact(C197 p lv l ({s with at_:=R.2.1}:eG) (hZ #[59]) F2 _ W (λw' hc=>J w' (U w' hc).aF) B (show iP l ({s with at_:=R.2.1}:eG)from F5)).mono λ_ _ r=>r.mono λ_ _ h=>⟨trivial,h.2⟩
 rintro _ _ _ u;exact pop (KG _ _ _ _) (aH (x:=(⟨O,a⟩:iq)) u.p2 B7 rfl rfl λ_ u=>aE B7 u.At (have u:=u.p2.dH (Ψ:=(λw=>l2 w (⟨O,a⟩:iq) (⟨R.1,a⟩:gI))) (λ_ h=>⟨_,rfl,id h⟩);have u:=u.p1.drop.p1;(rP u).mut))
def C44(s:ByteArray)(R:bQ×Int×Int)(w:World)(Rl:s.size<=1000000)(hr:qc s=some R)(hTk:∀l e a,qA s=some (l,e,a)->fU l):CR 44 [.string s] w (λv w'=>∃pv:cA,v=.tuple #[ia pv,hU R.2.1,hU R.2.2]/\mG (eI λw=>l2 w pv R.1) w w'):=by
 obtain⟨l,e,a,US⟩:=HX hr;have W:=hTk l e a US;have ya:=W.n;have hn:l.length<=1000000:=bP
 have qN:=W.at_;have u:=St.start w;refine qj Tryz.func44 (pl:=P44) ?_;refine aM u Gq (λyR _ u=>have u:=u.enc (cs':=iW (⟨bZ,bZ,bZ,bZ,bZ,bZ⟩:cA)) rfl;dX aao (C100 s (l,e,a) _ Rl US) ?_);rintro _ _ ⟨lv,rfl,dw⟩;have u:=u.made dw;refine aJ rfl (aJ rfl (aJ rfl (cC (aC (λme=>?_) λme=>?_))))
 .refine pop (v:=ia (⟨bZ,bZ,bZ,bZ,bZ,bZ⟩:cA)) (by kernel_rfl) (aH (x:=(⟨bZ,bZ,bZ,bZ,bZ,bZ⟩:cA)) u.p1 fW rfl rfl λ_ u=>aE fW u.At ?_);have u:=u.fK (Φ:=(λw=>l2 w (⟨bZ,bZ,bZ,bZ,bZ,bZ⟩:cA) (⟨[],[],[],[],[],[]⟩:bQ))) (λ_=>⟨_,_,_,_,_,_,rfl,DL.nil _,DL.nil _,DL.nil _,DL.nil _,DL.nil _,DL.nil _⟩);have u:=u.p1.drop.p1.drop;rw[LX hr US me];exact⟨_,rfl,u.fresh⟩
 obtain⟨t1,t2,t3,t4,t5,t6,y1,y2,y3,y4,y5,y6,Y⟩:=Qz hr US me;obtain⟨lsv,VS⟩:=u.gu;rw[VS];refine pop (Ng _ _ _) (o0 u λIU _ u=>pop (v:=ia (⟨bZ,bZ,bZ,bZ,bZ,bZ⟩:cA)) (by kernel_rfl) (aM u Gq λHY _ u=>have u:=u.enc (cs':=iW (⟨bZ,bZ,bZ,bZ,bZ,bZ⟩:cA)) rfl;aH (x:=(⟨bZ,bZ,bZ,bZ,bZ,bZ⟩:cA)) u fW rfl rfl λ_ u=>?_));obtain⟨p,rfl⟩:∃p,p=IU:=⟨_,rfl⟩;have u:=u.p1.enc (cs':=dA (ia lsv) (oU 0)) rfl;rw[<- VS]at u |-;have ajT:iP l (oU 0):=⟨IT _,by show(0:Int)<=_;omega⟩;have u:=(((((u.GH (α:=(List bO))).p4).p4).p3).p4).p4
 refine⟨λZ w'=>∃(s0:eG) (J:SV) (xs0 a0:List (List bO)),iP l s0/\jF l Qu (jN l true) Z s0=some (t1,a0)/\y1=xs0++a0/\St w bF [jY (ia J) xs0,bM HY (iW (⟨J,bZ,bZ,bZ,bZ,bZ⟩:cA)),bM p (dA lv s0),bH lv l,bM yR (iW (⟨bZ,bZ,bZ,bZ,bZ,bZ⟩:cA))] w',⟨10000,oU 0,bZ,[],y1,ajT,Y.h1,rfl,u⟩,?_⟩;rintro Z _ ⟨s0,J,xs0,a0,Vf,Mn,hy0,u⟩ _;obtain⟨m0,rfl⟩:=nM Mn;refine aU sO u.p2 (H':=λ_=>bM p (dA lv (fx l s0 (hZ #[108,105,110,101])).1)) (Φ:=λv _=>v=.bool (fx l s0 (hZ #[108,105,110,101])).2) (λE B G=>?_) ?_
 .exact C101 p lv l s0 (hZ #[108,105,110,101]) E _ B (λw' hc=>(G w' hc).p2.eU) W Vf
 rintro _ _ rfl u;refine bD (λvm=>?_) (λvm=>?_)
 .obtain⟨q0,z0,b0,Jq,SB,rfl⟩:=rS Mn vm;refine aA mN (have u:=u.drew;aB (v:=ia (J:SV)) yx u.p2.hb rfl (aU Iq u (H':=λv=>sep (bM p (dA lv q0)) (bH v z0)) (Φ:=λ_ _=>True) (λE B G=>?_) ?_))
  .exact(C102 p lv l (fx l s0 (hZ #[108,105,110,101])).1 true q0 z0 E _ B (λw' hc=>(G w' hc).p2.eU) W (il Vf) Jq).mono λ_ _ r=>r.mono λ_ _ h=>⟨trivial,h⟩
  rintro x31 _ _ u;have u:=u.split;refine⟨aY yx (u.p3.hb.cell rfl),?_⟩;obtain⟨QG,rfl⟩:=u.p1.gu;have u:=u.p1.freeze.dH (Ψ:=λw=>l2 w QG z0) (λ_ h=>DL.eO h);refine kq (s:=QG) (x:=z0) u yy ea (λs_x32 _ u=>?_);refine⟨aY yx (u.p3.hb.cell rfl),?_⟩;have u:=u.p2;refine kr u yy (by have h1:=gj List.length hy0;have h2:=Y.b1;simp at h1 |-;omega) ea (λs_x33 _ u=>aA mN ?_);obtain⟨QH,rfl⟩:=u.D8;exact aO u.p2 yx (dP rfl) (rfl) (λ_ u=>have u:=((((u.enc (cs':=iW (⟨QH,bZ,bZ,bZ,bZ,bZ⟩:cA)) rfl).p4).p4).p4).p3;have u:=u.p4;⟨_,bP,q0,QH,xs0++[z0],b0,sD (il Vf) Jq,SB,by rw[hy0,mv];rfl,u⟩)
 obtain⟨O,rfl⟩:=pH Mn vm;replace O:=O.symm;subst O;rw[oo]at hy0;subst hy0;rw[rR vm]at u;have u:=((((((u.eF (α:=bO)).p5).p5).p3).p5).p5).p5;refine⟨λZ w'=>∃(s1:eG) (M:SV) (xs1 a1:List (List bO)),iP l s1/\jF l Yz (jN l true) Z s1=some (t2,a1)/\y2=xs1++a1/\St w bF [bH (ia M) xs1.flatten,jY (ia J) y1,bM HY (iW (⟨J,M,bZ,bZ,bZ,bZ⟩:cA)),bM p (dA lv s1),bH lv l,bM yR (iW (⟨bZ,bZ,bZ,bZ,bZ,bZ⟩:cA))] w',⟨10000,s0,bZ,[],y2,Vf,Y.h2,rfl,u⟩,?_⟩;rintro Z _ ⟨s1,M,xs1,a1,hi1,hm1,hy1,u⟩ _;obtain⟨m1,rfl⟩:=nM hm1
 refine aU sO u.p3 (H':=λ_=>bM p (dA lv (fx l s1 (hZ #[118,111,108])).1)) (Φ:=λv _=>v=.bool (fx l s1 (hZ #[118,111,108])).2) (λE B G=>?_) ?_
 .exact C101 p lv l s1 (hZ #[118,111,108]) E _ B (λw' hc=>(G w' hc).p3.eU) W hi1
 rintro _ _ rfl u;refine bD (λJ8=>?_) (λJ8=>?_)
 .obtain⟨q1,z1,b1,hd1,SL,rfl⟩:=rS hm1 J8;refine aA uj (have u:=u.drew;aB (v:=ia (M:SV)) sE u.p3.hb rfl (aU Iq u (H':=λv=>sep (bM p (dA lv q1)) (bH v z1)) (Φ:=λ_ _=>True) (λE B G=>?_) ?_))
  .exact(C102 p lv l (fx l s1 (hZ #[118,111,108])).1 true q1 z1 E _ B (λw' hc=>(G w' hc).p3.eU) W (il hi1) hd1).mono λ_ _ r=>r.mono λ_ _ h=>⟨trivial,h⟩
  rintro x40 _ _ u;have u:=u.split;refine⟨aY sE (u.p4.hb.cell rfl),?_⟩;have YG:=u.p1.eU;refine cO u.p2 nR YG (by have:=J7 hy1;have:=Y.b2;omega) ea (λs_x41 _ u=>have u:=u.p2.drop;aA uj ?_);obtain⟨QI,rfl⟩:=u.gu;refine aO u.p3 sE (dP rfl) (rfl) (λ_ u=>?_);have u:=((((u.enc (cs':=iW (⟨J,QI,bZ,bZ,bZ,bZ⟩:cA)) rfl).p5).p5).p4).p3;have u:=u.p5.p5;rw[<- vq]at u;exact⟨_,bP,q1,QI,xs1++[z1],b1,sD (il hi1) hd1,SL,by rw[hy1,mv];rfl,u⟩
 obtain⟨O,rfl⟩:=pH hm1 J8;replace O:=O.symm;subst O;rw[oo]at hy1;subst hy1;rw[rR J8]at u;have u:=(((((((u.eF (α:=bO)).p6).p6).p3).p6).p5).p6).p6;refine⟨λZ w'=>∃(s2:eG) (V:SV) (xs2 a2:List (List bO)),iP l s2/\jF l Qv (jN l false) Z s2=some (t3,a2)/\y3=xs2++a2/\St w bF [bH (ia V) xs2.flatten,jY (ia J) y1,bH (ia M) y2.flatten,bM HY (iW (⟨J,M,V,bZ,bZ,bZ⟩:cA)),bM p (dA lv s2),bH lv l,bM yR (iW (⟨bZ,bZ,bZ,bZ,bZ,bZ⟩:cA))] w',⟨10000,s1,bZ,[],y3,hi1,Y.h3,rfl,u⟩,?_⟩;rintro Z _ ⟨s2,V,xs2,a2,Xc,hm2,hy2,u⟩ _
 obtain⟨m2,rfl⟩:=nM hm2;refine aU sO u.p4 (H':=λ_=>bM p (dA lv (fx l s2 (hZ #[108,111,99,107])).1)) (Φ:=λv _=>v=.bool (fx l s2 (hZ #[108,111,99,107])).2) (λE B G=>?_) ?_
 .exact C101 p lv l s2 (hZ #[108,111,99,107]) E _ B (λw' hc=>(G w' hc).p4.eU) W Xc
 rintro _ _ rfl u;refine bD (λxl=>?_) (λxl=>?_)
 .obtain⟨q2,z2,b2,YH,VF,rfl⟩:=rS hm2 xl;refine aA r8 (have u:=u.drew;aB (v:=ia (V:SV)) sE u.p4.hb rfl (aU Iq u (H':=λv=>sep (bM p (dA lv q2)) (bH v z2)) (Φ:=λ_ _=>True) (λE B G=>?_) ?_))
  .exact(C102 p lv l (fx l s2 (hZ #[108,111,99,107])).1 false q2 z2 E _ B (λw' hc=>(G w' hc).p4.eU) W (il Xc) YH).mono λ_ _ r=>r.mono λ_ _ h=>⟨trivial,h⟩
  rintro x48 _ _ u;have u:=u.split;refine⟨aY sE (u.p5.hb.cell rfl),?_⟩;have YI:=u.p1.eU;refine cO u.p2 nR YI (by have:=J7 hy2;have:=Y.b3;omega) ea (λs_x49 _ u=>have u:=u.p2.drop;aA r8 ?_);obtain⟨QJ,rfl⟩:=u.gu;refine aO u.p4 sE (dP rfl) (rfl) (λ_ u=>?_);have u:=((((u.enc (cs':=iW (⟨J,M,QJ,bZ,bZ,bZ⟩:cA)) rfl).p6).p6).p4).p3;have u:=u.p6.p6.p6;rw[<- vq]at u;exact⟨_,bP,q2,QJ,xs2++[z2],b2,sD (il Xc) YH,VF,by rw[hy2,mv];rfl,u⟩
 obtain⟨O,rfl⟩:=pH hm2 xl;replace O:=O.symm;subst O;rw[oo]at hy2;subst hy2;rw[rR xl]at u;have u:=((((((((u.GH (α:=bW)).p7).p7).p3).p7).p5).p7).p7).p7;refine⟨λZ w'=>∃(I:eG) (v3:SV) (xs3 a3:List bW),iP l I/\jF l C1 (YA l) Z I=some (t4,a3)/\y4=xs3++a3/\St w bF [jY (ia v3) xs3,jY (ia J) y1,bH (ia M) y2.flatten,bH (ia V) y3.flatten,bM HY (iW (⟨J,M,V,v3,bZ,bZ⟩:cA)),bM p (dA lv I),bH lv l,bM yR (iW (⟨bZ,bZ,bZ,bZ,bZ,bZ⟩:cA))] w',⟨10000,s2,bZ,[],y4,Xc,Y.h4,rfl,u⟩,?_⟩;rintro Z _ ⟨I,v3,xs3,a3,YJ,hm3,hy3,u⟩ _
 obtain⟨m3,rfl⟩:=nM hm3;refine aU sO u.p5 (H':=λ_=>bM p (dA lv (fx l I (hZ #[116,104,114,101,97,100])).1)) (Φ:=λv _=>v=.bool (fx l I (hZ #[116,104,114,101,97,100])).2) (λE B G=>?_) ?_
 .exact C101 p lv l I (hZ #[116,104,114,101,97,100]) E _ B (λw' hc=>(G w' hc).p5.eU) W YJ
 rintro _ _ rfl u;refine bD (λxj=>?_) (λxj=>?_)
 .obtain⟨q3,z3,b3,hd3,Rj,rfl⟩:=rS hm3 xj;refine aU UB u (H':=λ_=>bM p (dA lv (dU l (fx l I (hZ #[116,104,114,101,97,100])).1).1)) (Φ:=λv _=>v=ia (dU l (fx l I (hZ #[116,104,114,101,97,100])).1).2) (λE B G=>?_) ?_
  .exact C103 p lv l (fx l I (hZ #[116,104,114,101,97,100])).1 E _ B (λw' hc=>(G w' hc).p5.eU) W (il YJ)
  rintro _ _ rfl u;refine aM u lR (λb_c10 _ u=>aH (x:=(dU l (fx l I (hZ #[116,104,114,101,97,100])).1).2) u jS rfl rfl λ_ u=>aA pP (have u:=u.drew;aB (v:=ia (v3:SV)) pO u.p6.hb rfl (aA m9 (aB (v:=.string (((dU l (fx l I (hZ #[116,104,114,101,97,100])).1).2).name)) j3 u.hb rfl (aA uz (aB (v:=hU (((dU l (fx l I (hZ #[116,104,114,101,97,100])).1).2).at_)) bL u.hb rfl (pop (Gu _ _) (aU UC u.p1 (H':=λv=>oW λsh:bU=>fact (v=ia sh) (sep (bM p (dA lv q3)) (eI λw=>l2 w sh z3))) (Φ:=λ_ _=>True) (λE B G=>?_) ?_))))))))
  .exact(C104 p lv l (dU l (fx l I (hZ #[116,104,114,101,97,100])).1).1 ((dU l (fx l I (hZ #[116,104,114,101,97,100])).1).2).name ((dU l (fx l I (hZ #[116,104,114,101,97,100])).1).2).at_ q3 z3 E _ B (λw' hc=>(G w' hc).p6.eU) W (pG (il YJ)) hd3).mono λ_ _ r=>r.mono λ_ _ h=>⟨trivial,h⟩
  rintro v_x63 _ _ sW;obtain⟨YK,vn⟩:=sW.dS
  clear sW
  obtain⟨YL,yj⟩:=vn.lr
  clear vn
  subst YL;have u:=yj.split
  clear yj
  refine⟨aY pO (u.p7.hb.cell rfl),?_⟩;have u:=u.p1;refine kq (s:=YK) (x:=z3) u kK ea (λs_x64 _ u=>?_);refine⟨aY pO (u.p7.hb.cell rfl),?_⟩;have u:=u.p3;refine kr u kK (by have h1:=gj List.length hy3;have h2:=Y.b4;simp at h1 |-;omega) ea (λs_x65 _ u=>aA pP ?_);obtain⟨QK,rfl⟩:=u.D8;exact aO u.p6 pO (dP rfl) (rfl) (λ_ u=>have u:=((((u.enc (cs':=iW (⟨J,M,V,QK,bZ,bZ⟩:cA)) rfl).p3).drop).p7).p7;have u:=u.p4.p3.p7.p7.p7.p7;⟨_,bP,q3,QK,xs3++[z3],b3,zV (pG (il YJ)) hd3,Rj,by rw[hy3,mv];rfl,u⟩)
 obtain⟨O,rfl⟩:=pH hm3 xj;replace O:=O.symm;subst O;rw[oo]at hy3;subst hy3;rw[rR xj]at u;refine⟨λw'=>∃v4:SV,St w bF [jY (ia v4) y5,jY (ia J) y1,bH (ia M) y2.flatten,bH (ia V) y3.flatten,jY (ia v3) y4,bM HY (iW (⟨J,M,V,v3,v4,bZ⟩:cA)),bM p (dA lv t5),bH lv l,bM yR (iW (⟨bZ,bZ,bZ,bZ,bZ,bZ⟩:cA))] w',?_,?_⟩
 .refine aU sO u (H':=λ_=>bM p (dA lv (fx l I (hZ #[114,101,99,111,118,101,114])).1)) (Φ:=λv _=>v=.bool (fx l I (hZ #[114,101,99,111,118,101,114])).2) (λE B G=>?_) ?_
  .exact C101 p lv l I (hZ #[114,101,99,111,118,101,114]) E _ B (λw' hc=>(G w' hc).p5.eU) W YJ
  rintro _ _ rfl u;refine bD (λFD=>?_) (λFD=>?_)
  .obtain⟨z4,hd4,ZZ⟩:=FB Y.h5 FD;obtain⟨ajW,_,hlo68,hhi68⟩:=Qw FD;have hat68:(fx l I (hZ #[114,101,99,111,118,101,114])).1.at_=I.at_+1:=by rw[ajW]
   refine aA r9 (have u:=u.drew;aB (v:=ia (bZ:SV)) pO u.p5.hb rfl (aD (aA eh (aB bL u.hb rfl (fo bP ?_)))));obtain⟨QL,QM⟩:=gx l (i:=(((fx l I (hZ #[114,101,99,111,118,101,114])).1).at_-1).toNat) bP;refine ed u.p6 eB bP bP (λ_ Qm=>rf iT Qm λ_ aev=>uE QL.at_ u.p6 bL aev QM rfl (pop (Nf _) ?_));have ZU:tM l (fx l I (hZ #[114,101,99,111,118,101,114])).1=QL.at_:=gj aX.at_ (vp bP QM);rw[ZU]at hd4;refine aU UC u (H':=λv=>oW λsh:bU=>fact (v=ia sh) (sep (bM p (dA lv t5)) (eI λw=>l2 w sh z4))) (Φ:=λ_ _=>True) (λE B G=>?_) ?_
   .exact(C104 p lv l (fx l I (hZ #[114,101,99,111,118,101,114])).1 (hZ #[]) QL.at_ t5 z4 E _ B (λw' hc=>(G w' hc).p5.eU) W (il YJ) hd4).mono λ_ _ r=>r.mono λ_ _ h=>⟨trivial,h⟩
   rintro v_x82 _ _ sW;obtain⟨YM,vn⟩:=sW.dS
   clear sW
   obtain⟨YN,yj⟩:=vn.lr
   clear vn
   subst YN;have u:=yj.split
   clear yj
   refine⟨aY pO (u.p6.hb.cell rfl),?_⟩;have u:=u.p1;refine kq (s:=YM) (x:=z4) u kK ea (λs_x83 _ u=>?_);refine⟨aY pO (u.p6.hb.cell rfl),?_⟩;have u:=((u.GH (α:=bW)).p1).p1;refine kr u kK ew ea (λs_x84 _ u=>aA r9 ?_);obtain⟨QN,rfl⟩:=u.D8;refine aO u.p6 pO (dP rfl) (rfl) (λ_ u=>?_);have u:=(((((u.enc (cs':=iW (⟨J,M,V,v3,QN,bZ⟩:cA)) rfl).p8).p8).p4).p3).p5;have u:=u.p8.p8.p8.p8;rw[ZZ];exact⟨QN,u⟩
  rw[rR FD]at u;have u:=(((((((((u.GH (α:=bW)).p8).p8).p3).p8).p5).p8).p8).p8).p8;obtain⟨e5,e6⟩:=J6 Y.h5 FD;rw[e5,e6];exact⟨bZ,u⟩
 rintro _ ⟨v4,u⟩ _;have u:=((((((((((u.GH (α:=gI)).p9).p9).p9).p9).p5).p9).p9).p9).p9).p9;refine⟨λZ w'=>∃(U:eG) (v5:SV) (xs5 a5:List gI),iP l U/\jF l C2 (λs=>rQ l s (tM l s)) Z U=some (t6,a5)/\y6=xs5++a5/\St w bF [jY (ia v5) xs5,jY (ia J) y1,bH (ia M) y2.flatten,bH (ia V) y3.flatten,jY (ia v3) y4,jY (ia v4) y5,bM HY (iW (⟨J,M,V,v3,v4,v5⟩:cA)),bM p (dA lv U),bH lv l,bM yR (iW (⟨bZ,bZ,bZ,bZ,bZ,bZ⟩:cA))] w',⟨10000,t5,bZ,[],y6,(TW YJ Y.h5),Y.h6,rfl,u⟩,?_⟩;rintro Z _ ⟨U,v5,xs5,a5,hi5,hm5,ZZ,u⟩ _
 obtain⟨m5,rfl⟩:=nM hm5;refine aU sO u.p7 (H':=λ_=>bM p (dA lv (fx l U (hZ #[97,108,119,97,121,115])).1)) (Φ:=λv _=>v=.bool (fx l U (hZ #[97,108,119,97,121,115])).2) (λE B G=>?_) ?_
 .exact C101 p lv l U (hZ #[97,108,119,97,121,115]) E _ B (λw' hc=>(G w' hc).p7.eU) W hi5
 rintro _ _ rfl u;refine bD (λFE=>?_) (λFE=>?_)
 .obtain⟨q5,z5,b5,hd5,ya,rfl⟩:=rS hm5 FE;obtain⟨ajZ,_,hlo87,hhi87⟩:=Qw FE;have hat87:(fx l U (hZ #[97,108,119,97,121,115])).1.at_=U.at_+1:=by rw[ajZ]
  refine aA sc (have u:=u.drew;aB (v:=ia (v5:SV)) DU u.p7.hb rfl (aD (aA eh (aB bL u.hb rfl (fo bP ?_)))));obtain⟨QO,QP⟩:=gx l (i:=(((fx l U (hZ #[97,108,119,97,121,115])).1).at_-1).toNat) bP;refine ed u.p8 eB bP bP (λ_ aex=>rf iT aex λ_ aey=>uE QO.at_ u.p8 bL aey QP rfl ?_);have ZU:tM l (fx l U (hZ #[97,108,119,97,121,115])).1=QO.at_:=gj aX.at_ (vp bP QP);rw[ZU]at hd5;refine aU aap u (H':=λv=>oW λsh:iq=>fact (v=ia sh) (sep (bM p (dA lv q5)) (eI λw=>l2 w sh z5))) (Φ:=λ_ _=>True) (λE B G=>?_) ?_
  .exact(C105 p lv l (fx l U (hZ #[97,108,119,97,121,115])).1 QO.at_ q5 z5 E _ B (λw' hc=>(G w' hc).p7.eU) W (il hi5) hd5).mono λ_ _ r=>r.mono λ_ _ h=>⟨trivial,h⟩
  rintro aj0 _ _ sW;obtain⟨TX,vn⟩:=sW.dS
  clear sW
  obtain⟨TY,yj⟩:=vn.lr
  clear vn
  subst TY;have u:=yj.split
  clear yj
  refine⟨aY DU (u.p8.hb.cell rfl),?_⟩;have u:=u.p1;refine kq (s:=TX) (x:=z5) u B4 ea (λXT _ u=>?_);refine⟨aY DU (u.p8.hb.cell rfl),?_⟩;have u:=u.p2;refine kr u B4 (by have h1:=gj List.length ZZ;have h2:=Y.b6;simp at h1 |-;omega) ea (λXU _ u=>aA sc ?_);obtain⟨J9,rfl⟩:=u.D8;exact aO u.p7 DU (dP rfl) (rfl) (λ_ u=>have u:=(((((u.enc (cs':=iW (⟨J,M,V,v3,v4,J9⟩:cA)) rfl).p9).p9).p4).p3).p9;have u:=u.p9.p9.p9.p9.p9;⟨_,bP,q5,J9,xs5++[z5],b5,LR (il hi5) hd5,ya,by rw[ZZ,mv];rfl,u⟩)
 obtain⟨O,rfl⟩:=pH hm5 FE;replace O:=O.symm;subst O;rw[oo]at ZZ;subst ZZ;rw[rR FE]at u;obtain⟨hi50,hi51⟩:=id hi5;refine⟨λw'=>St w bF [jY (ia v5) y6,jY (ia J) y1,bH (ia M) y2.flatten,bH (ia V) y3.flatten,jY (ia v3) y4,jY (ia v4) y5,bM HY (iW (⟨J,M,V,v3,v4,v5⟩:cA)),bM p (dA lv (Au l U)),bH lv l,bM yR (iW (⟨bZ,bZ,bZ,bZ,bZ,bZ⟩:cA))] w',aD (aA eh (aB bL u.hb rfl (aI eB u.p8.eU (aS (aC (λHZ=>?_) λHZ=>?_))))),?_⟩
 .refine aU Ir u (H':=λ_=>bM p (dA lv (gk l U 5))) (Φ:=λ_ _=>True) (λE B G=>?_) ?_
  .exact(C106 p lv l U E _ B (λw' hc=>(G w' hc).p7.eU) W hi5).mono λ_ _ r=>r.mono λ_ _ h=>⟨trivial,h.2⟩
  rintro _ _ _ u;have u:=u.p9.p9.p2.p9.p9.p9.p9.p9.p9.p9;have he6:Au l U=gk l U 5:=fi HZ;rw[he6];exact u
 .have u:=u.p9.p9.p2.p9.p9.p9.p9.p9.p9.p9;have he6:Au l U=U:=ez HZ;rw[he6];exact u
 intro _ u _;refine aD (aA jj (aB gA u.p7.hb rfl (cC (aC (λH0=>?_) λH0=>?_))))
 .refine pop (v:=ia (⟨bZ,bZ,bZ,bZ,bZ,bZ⟩:cA)) (by kernel_rfl) (aD (aA jj (have u:=u.drew;aB gA u.p7.hb rfl (aD (aA qW (aB bL u.p7.hb rfl (aH (x:=(⟨bZ,bZ,bZ,bZ,bZ,bZ⟩:cA)) u.p9 fW rfl rfl λ_ u=>?_)))))));refine⟨aY gA (u.p8.hb.cell rfl),?_⟩;refine⟨aY bL (u.p8.hb.cell rfl),?_⟩;refine aE fW u.At ?_;have u:=u.fK (Φ:=(λw=>l2 w (⟨bZ,bZ,bZ,bZ,bZ,bZ⟩:cA) (⟨[],[],[],[],[],[]⟩:bQ))) (λ_=>⟨_,_,_,_,_,_,rfl,DL.nil _,DL.nil _,DL.nil _,DL.nil _,DL.nil _,DL.nil _⟩);have u:=u.p1.drop.p1.drop.p1.drop.p1.drop.p1.drop.p1.drop.p1.drop.p1.drop.p1.drop
  have u:=u.p1.drop;rw[Y.bad H0];exact⟨_,rfl,u.fresh⟩
 refine aE fW u.p6.At (aH (x:=(⟨J,M,V,v3,v4,v5⟩:cA)) u.p9 fW rfl rfl λ_ u=>aE fW u.At ?_);have u:=u.p2.sj.p3.freeze.p1.ic.p3.freeze.p1.ic.p3.sj.p1.ic.p3.sj.p1.ic;have u:=u.p2.sj.p1.ic.dH (Ψ:=(λw=>l2 w (⟨J,M,V,v3,v4,v5⟩:cA) (⟨y1,y2.flatten,y3.flatten,y4,y5,y6⟩:bQ))) (λ_ h=>⟨_,_,_,_,_,_,rfl,h.1.1.1.1.1,DL.eO h.1.1.1.1.2,DL.eO h.1.1.1.2,h.1.1.2,h.1.2,h.2⟩);have u:=u.p1.drop.p1.drop.p1.drop.p1.drop;rw[Y.ajO H0];exact⟨_,rfl,u.fresh⟩
theorem FG{l:List Int}{k:Nat}(u:0<k)(h:k<=l.length):ke (l.take k)=l.getD (k-1) 0+1:=by
 grind[ke]
def Ka{f:Int->List jm}{a k:Int}{xs:List jm}{x:jm}(h:x∈pU f a xs k):x∈xs\/x∈f k:=by
 unfold pU at h;grind
def BB{m:Mem}{c n:Int}(h:yb m):yb (fG m c n):=by
 unfold fG
 split
 .rename_i tS
  unfold Hj at tS;rw[decide_eq_true_eq]at tS
  refine⟨h.Pl,h.fl,by show(m.l.set _ _).length=_;rw[Dx];exact h.ll,h.kl,h.ofr,h.lb,λk x u=>?_⟩
  dsimp only at u
  split at u
  .rename_i hc
   rcases Ka u with h1|h1
   .rw[pJ]at h1
    rcases h1 with h1|h1
    .exact h.pc _ x h1
    grind
   exact h.pc _ x h1
  exact h.pc _ x u
 exact h
def TZ{m:Mem}{c:Int}(h:yb m):yb (pD m c):=by
 unfold pD
 split
 .refine⟨h.Pl,h.fl,h.ll,by show(sJ _ _).length=_;rw[vc];exact h.kl,h.ofr,h.lb,λk x u=>?_⟩
  rcases Ka u with h1|h1
  .cases h1
  exact h.pc _ x h1
 exact h
def LY{m:Mem}{cut u:List Int}(h:gD m cut=some u):u.length=m.kept.length:=by
 unfold gD at h;split at h
 .cases h;exact rI _ _ _
 cases h
def LZ{m:Mem}{cut u:List Int}(h:yb m)(hi:gD m cut=some u):yb (nB m u):=by
 have h1:=LY hi
 have h2:=h.kl;have h3:=h.Pl
 refine⟨h.Pl,h.fl,?_,?_,h.ofr,h.lb,λk x B=>by cases B⟩
 .show(u++m.dZ.drop u.length).length=m.dZ.length
  rw[kC,List.length_drop];omega
 show u.length=m.of.length;omega
section
variable {t:Mo}
theorem BC{u:Mem}{x:bG}(h:yb u):yb (kf u x)/\(kf u x).of=u.of/\(kf u x).dZ=u.dZ:=by
 unfold kf
 split
 .exact⟨BB h,Bn _ _ _,oQ _ _ _⟩
 split
 .grind
 exact⟨TZ h,Tq _ _,E3 _ _⟩
end
def MB.mono{u:Mem}{a b:Nat}(h:MB u a)(B:a<=b):MB u b:=λk=>Nat.le_trans (h k) B
def MB.write{u:Mem}{c x:Int}{n:Nat}(h:MB u n):MB (fG u c x) (n+1):=by
 intro k
 unfold fG
 split
 .dsimp only
  split
  .unfold pU
   split
   .rw[kC,nD];have:=h (u.of.getD c.toNat 0);omega
   have:=h k;omega
  have:=h k;omega
 have:=h k;omega
theorem MB.out{u:Mem}{c:Int}{n:Nat}(h:MB u n):MB (pD u c) n:=by
 intro k
 unfold pD
 split
 .dsimp only
  unfold pU
  split
  .simp
  exact h k
 exact h k
theorem MB.kf{u:Mem}{x:bG}{n:Nat}(h:MB u n):MB (kf u x) (n+1):=by
 unfold Go.Proofs.YtdncbeepkacgbaaGreatDoor.kf
 split
 .exact h.write
 split
 .exact h.mono (Cm n)
 exact h.out.mono (Cm n)
theorem qe:∀(ls:List (List bO)) (i a:Int),0<=a->(∀l∈ls,l≠[])->i<=iJ ls i a/\(∀b,a<=b->iJ ls i a<=iJ ls i b)/\(iJ ls i (a+1)=iJ ls i a\/iJ ls i (a+1)=iJ ls i a+1)
 | [],i,a,B,_=>⟨by unfold iJ;omega,λb hb=>by unfold iJ;omega,by unfold iJ;omega⟩
 | l::r,i,a,B,hl=>by
  have I:0<l.length:=List.length_pos_iff.2 (hl l (oj ..))
  have u:=λl E=>hl l (List.mem_cons_of_mem _ E)
  unfold iJ
  by_cases h1:a<l.length
  .rw[fi h1]
   refine⟨IT _,λb hb=>?_,?_⟩
   .split
    .omega
    .have:=(qe r (i+1) (b-l.length) bP u).1;omega
   .split
    .omega
    .have e:a+1-(l.length:Int)=0:=bP
     rw[e]
     cases r with
     | nil=>unfold iJ;omega
     | cons O J=>
      simp_all[iJ]
  .rw[ez h1]
   obtain⟨M,U,G⟩:=qe r (i+1) (a-l.length) bP u
   grind
section
variable {p:bQ}
theorem rT(p:bQ):0<=ee p/\ee p<=(jd p).length:=by grind[ee,jd]
theorem FH{c:Int}(h:0<=c/\c<(jd p).length):pq p c=iJ p.lines 0 c:=by unfold pq;omega
end
section
variable {m:iG}{t:jO}{i:Int}{x:bE}{p:bQ}
theorem YO:(eD m t i x).1.l=m.l:=by
 unfold eD rM qz;grind
theorem BD:(eD m t i x).1.room=m.room:=by
 unfold eD rM qz;grind
theorem YP:(eD m t i x).1.p=m.p:=by
 unfold eD rM qz;grind
theorem BE:(eD m t i x).2.1.bN=t.bN:=by
 unfold eD pE tH;grind
theorem tN:(eD m t i x).2.1.names=t.names:=by
 unfold eD pE tH;grind
theorem L3{room:Int}{l:List bG}{y:bG}:(sI room l y).length<=l.length\/((sI room l y).length:Int)<=room:=by
 grind[sI]
theorem Kb{φ:bE->Prop}(h:oR φ t)(B:m.room<=16):oR φ (eD m t i x).2.1:=by
 have h1:=h.p;have h2:=h.rl;have h3:=h.nb;have h4:=h.bl;have h5:=h.cl
 have u:∀y,oR φ (tH m t y):=λy=>by
  have h6:=L3 (room:=m.room) (l:=t.buf) (y:=y)
  exact⟨h1,h2,h3,by show(sI m.room t.buf y).length<=1000;omega,h5⟩
 unfold eD;repeat' split
 all_goals first
  | exact h
  | exact h.set _ _
  | exact u _
theorem QQ(h:yb m.mem):yb (eD m t i x).1.mem/\(eD m t i x).1.mem.of=m.mem.of/\(eD m t i x).1.mem.dZ=m.mem.dZ:=by
 unfold eD rM qz;repeat' split
 all_goals first
  | exact⟨h,rfl,rfl⟩
  | exact⟨BB h,Bn _ _ _,oQ _ _ _⟩
theorem T0{n:Nat}(h:MB m.mem n):MB (eD m t i x).1.mem (n+1):=by
 unfold eD rM qz;repeat' split
 all_goals first
  | exact h.mono (Cm n)
  | exact h.write
theorem T1:(eD m t i x).1.fe.length=m.fe.length:=by
 unfold eD rM qz;grind
theorem Kc{φ:bE->Prop}(h:oR φ t):oR φ {t with bN:=gY t.bN}:=by
 refine h.bN h.p.pop ?_
 match hp:t.bN with
 | []=>exact oq _
 | (.nil,_)::q=>grind[fu,gY]
 | (.cons y a b r,e)::q=>have:=Ho (p:=(.cons y a b r,e)::q) rfl;omega
theorem FI{cs ls:List ByteArray}(h:wq cs ls t):PM (Xv t):=λu=>JA _ (pF h).1 h u
theorem L4(u:nV m)(ht:t∈m.l):wq (cX m.p) (cS m.p) (tI m t i x)/\PM (tI m t i x)/\(tI m t i x).names=t.names:=by
 have h1:oR (VQ (cX m.p) (cS m.p) t.names) { (eD m t i x).2.1 with bN:=gY (eD m t i x).2.1.bN}:=Kc (Kb (u.th t ht) u.rm.2)
 have h2:wq (cX m.p) (cS m.p) { (eD m t i x).2.1 with bN:=gY (eD m t i x).2.1.bN}:=by
  show oR (VQ _ _ (eD m t i x).2.1.names) _
  rw[tN];exact h1
 exact⟨(pF h2).2.1,FI h2,(pF h2).2.2.trans tN⟩
theorem vt{β:Type}{l:List β}{k:Nat}{a y:β}(h:y∈l.set k a):y=a\/y∈l:=(List.mem_or_eq_of_mem_set h).symm
theorem QR(u:nV m):nV (jb m i).1/\(jb m i).1.p=m.p/\(∀n,MB m.mem n->MB (jb m i).1.mem (n+1))/\(jb m i).1.l.length=m.l.length:=by
 unfold jb
 split
 .exact⟨u,rfl,λn h=>h.mono (Cm n),rfl⟩
 rename_i t ht
 have G:=l0 ht
 split
 .exact⟨⟨u.mem,u.th,u.tl,u.ow,u.rm,u.st,u.pz⟩,rfl,λn h=>h.mono (Cm n),rfl⟩
 split
 .exact⟨u,rfl,λn h=>h.mono (Cm n),rfl⟩
 rename_i x _ _ _
 split
 .exact⟨⟨u.mem,u.th,u.tl,u.ow,u.rm,u.st,u.pz⟩,rfl,λn h=>h.mono (Cm n),rfl⟩
 obtain⟨J,I,_⟩:=L4 (i:=i) (x:=x) u G
 have E:=YP (m:=m) (t:=t) (i:=i) (x:=x)
 refine⟨⟨(QQ u.mem).1,λy B=>?_,by show(m.l.set _ _).length<=_;rw[Dx];exact u.tl,?_,by show 1<=(eD m t i x).1.room/\_;rw[BD];exact u.rm,λy B=>?_,?_⟩,E,λn h=>T0 h,Dx⟩
 .show wq (cX (eD m t i x).1.p) (cS (eD m t i x).1.p) y
  rw[E]
  rcases vt B with rfl|B
  .exact J
  exact u.th y B
 .show(eD m t i x).1.fe.length=(cS (eD m t i x).1.p).length
  rw[T1,E];exact u.ow
 .rcases vt B with rfl|B
  .exact I
  exact u.st y B
 show PZ (eD m t i x).1.p;rw[E];exact u.pz
theorem H6{l:List bG}{i:Int}:(kz l i).length<=l.length:=by
 grind[kz]
theorem T3{q:aT}(u:nV m)(ht:m.l[q.t.toNat]?=some t):nV (xL m t q)/\(∀n,MB m.mem n->MB (xL m t q).mem (n+1)):=by
 have E:=l0 ht
 have h1:=u.th t E
 refine⟨⟨(BC u.mem).1,λy B=>?_,by show(m.l.set _ _).length<=_;rw[Dx];exact u.tl,u.ow,u.rm,λy B=>?_,u.pz⟩,λn h=>h.kf⟩
 .rcases vt B with rfl|B
  .have:=H6 (l:=t.buf) (i:=q.i)
   exact⟨h1.p,h1.rl,h1.nb,by show(kz t.buf q.i).length<=1000;have:=h1.bl;omega,h1.cl⟩
  exact u.th y B
 rcases vt B with rfl|B
 .exact u.st t E
 exact u.st y B
structure L5(p:bQ):Prop where
 f:PF p
 big:sG p=false
 w:∀t∈ij p,om t.body=false
 tw:jr (ik p)=false
 u:∀t∈ij p,∀x∈t.body,qu p t.dJ x=false
theorem Kd(h:eJ p=0):L5 p:=by
 unfold eJ at h
 split at h
 .cases h
 rename_i h1
 split at h
 .cases h
 rename_i h2
 split at h
 .cases h
 rename_i h3
 split at h
 .cases h
 rename_i h4
 split at h
 .cases h
 rename_i h5
 split at h
 .cases h
 rename_i h6
 simp only[Bool.not_eq_true,Ec]at h2 h3 h4 h6
 exact⟨oh cR,h2,λt ht=>cR,h4,λt ht x u=>cR⟩
theorem C5:∀(b:Bk) (n:Int),b.ok n=true->∀x∈b.flat,x.eH<=0\/x.kind=11
 | .nil,_,_,_,h=>by cases h
 | .cons y a b r,n,h,x,u=>by
  unfold Bk.ok at h
  simp only[nw]at h
  obtain⟨⟨⟨h1,h2⟩,h3⟩,h4⟩:=h
  unfold Bk.flat at u
  rcases List.mem_cons.1 u with rfl|u
  .unfold Bk.FW at h1;grind
  .rcases pJ.1 u with u|u
   .exact C5 a _ h2 x u
   .rcases pJ.1 u with u|u
    .exact C5 b _ h3 x u
    .exact C5 r _ h4 x u
theorem zW{l:List bI}(h:fN l=true):l.length<=40:=by
 unfold fN at h
 grind
theorem BF{l:List bI}(h:fN l=true):∀y∈l,y.name.size<=1000:=λy B=>by
 have u:xD y=false:=by
  unfold fN at h
  grind
 unfold xD fB at u
 by_cases h2:y.op=2
 .grind
 .have:y.name=⟨#[]⟩:=cR
  rw[this];decide
theorem YQ(hc:L5 p){t:bW}(ht:t∈ij p){x:bE}(I:x∈t.body)(G:oe x=true)(W:x.eH<=0\/x.kind=11):VQ (cX p) (cS p) t.dJ x:=by
 have E:=hc.u t ht x I
 have Z:=GW G
 have u:=vY G
 unfold qu at E
 simp only[Em,Bool.and_eq_false_iff,decide_eq_false_iff_not,zP]at E
 obtain⟨⟨⟨⟨⟨B,U⟩,V⟩,Y⟩,_⟩,_⟩:=E
 have O:x.e.length<=1000:=by
  rcases u.e with h|h
  .have:=zW h.2;omega
  grind
 have M:x.f.length<=1000:=by
  rcases u.f with h|h
  .have:=zW h.2;omega
  grind
 refine⟨u.kind,⟨O,M⟩,λh=>bP,λh=>bP,λh=>?_,λh=>bP,λh=>bP,?_,?_⟩
 rotate_left
 .rcases u.e with h|h
  .exact BF h.2
  grind
 .rcases u.f with h|h
  .exact BF h.2
  grind
 rcases B with B|B
 .exfalso
  have J:=u.eQ
  rcases J with⟨_,h2⟩|⟨h1,_⟩
  .rw[B,E0]at h2;cases h2
  have hk:=u.kind
  rcases h with h|h|h<;>rw[h]at h1<;>exact absurd h1 ea
 omega
theorem pI:∀(b:Bk) (n:Int),1<=n->n<=64->kW b n=false->(∀x∈b.flat,x.kind=12->1<=x.n)->n.toNat*ja b<=128*b.len
 | .nil,n,_,_,_,_=>by simp[ja]
 | .cons y a b r,n,h1,h2,hw,G=>by
  rw[pV]at hw
  simp only[Em,decide_eq_false_iff_not]at hw
  obtain⟨⟨I,u,J⟩,W⟩:=hw
  have O:∀x∈a.flat,x.kind=12->1<=x.n:=λx B=>G x (by unfold Bk.flat;simp[B])
  have qb:∀x∈b.flat,x.kind=12->1<=x.n:=λx B=>G x (by unfold Bk.flat;simp[B])
  have Y:∀x∈r.flat,x.kind=12->1<=x.n:=λx B=>G x (by unfold Bk.flat;simp[B])
  have ir:=pI r n h1 h2 W Y
  rw[pY]
  unfold Bk.len
  obtain⟨k,rfl⟩:=G6 (show 0<=n by omega)
  rw[qs]at ir |-
  by_cases E:y.kind=12
  .rw[fi E]
   have U:=G y (by unfold Bk.flat;grind) E
   unfold pw at I u
   rw[fi E]at I u
   obtain⟨j,V⟩:=G6 (show 0<=y.n by omega)
   rw[V]at I u U
   rw[V,qs]
   have M:(1:Int)<=(k:Int)*(j:Int):=by
    have:=Int.mul_le_mul (a:=1) (b:=1) (c:=(k:Int)) (d:=(j:Int)) h1 U bP bP
    omega
   have Z:=pI a _ M bP u O
   grind
  .rw[ez E]
   unfold pw at u J
   rw[ez E]at u J
   have Z:=pI a k h1 h2 u O
   have ib:=pI b k h1 h2 J qb
   grind
theorem FJ{b:Bk}(h:b.str):TD b.flat=b:=by unfold TD;rw[mX h];rfl
theorem C6(hc:L5 p){t:bW}(ht:t∈ij p):wq (cX p) (cS p) (Aq t):=by
 obtain⟨_,h2,_⟩:=hc.f.so ht
 obtain⟨h3,h4,b,h5,h6,M,_⟩:=mi h2
 have hb:TD t.body=b:=by rw[h5];exact FJ h6
 have J:xJ (VQ (cX p) (cS p) t.dJ) b:=(Lw b).2 λx u=>by
  rw[<- h5]at u
  exact YQ hc ht u (h4 x u) (C5 b 0 M x cR)
 have O:Bo (VQ (cX p) (cS p) t.dJ) []:=⟨λ_ h=>(by cases h),λ_ h=>(by cases h),λ_ h=>(by cases h)⟩
 have I:=hc.w t ht
 rw[h5,zi h6]at I
 have E:=pI b 1 bP bP I λx u U=>(((GW (h4 x cR)).2 U).1)
 have V:b.len<=40:=by rw[<- Bk.cM,<- h5];exact h3
 have G:t.dJ.length<=4:=by
  have B:=hc.big
  unfold sG at B
  grind
 refine⟨?_,by simp[Aq],by show t.dJ.length<=1000;omega,by simp[Aq],?_⟩
 .show Bo _ (jE (TD t.body) false [])
  rw[hb];exact O.push h6 J
 show fu (jE (TD t.body) false [])<=10000
 rw[hb,nG]
 grind[ja,fu]
theorem QS:wq (cX p) (cS p) (Aq ⟨⟨#[]⟩,[],[],0⟩):=by
 refine⟨⟨λ_ h=>(by cases h),λ_ h=>(by cases h),λ_ h=>(by cases h)⟩,rfl,(by decide:(0:Nat)<=1000),(by decide:(0:Nat)<=1000),(by decide:(0:Nat)<=10000)⟩
theorem BG{l:List bW}(G:yb m.mem)(E:1<=m.room/\m.room<=16)(I:PZ m.p)(J:l.length<=1000)(h:∀t∈l,wq (cX m.p) (cS m.p) (Aq t)):nV (tJ m l):=by
 refine⟨G,λt ht=>?_,by show(l.map ZW).length<=1000;rw[nQ];exact J,by show(oJ _ _).length=_;rw[wG];rfl,E,λt ht=>?_,I⟩
 .obtain⟨u,B,rfl⟩:=nT.1 ht
  exact(pF (h u B)).2.1
 obtain⟨u,B,rfl⟩:=nT.1 ht
 exact FI (h u B)
theorem Ke(hc:L5 m.p):(wv m).length<=1/\∀t∈wv m,wq (cX m.p) (cS m.p) (Aq t):=by
 unfold wv
 split
 .exact⟨oq _,λt ht=>by rw[List.mem_singleton.1 ht];exact QS⟩
 exact⟨hc.f.one,λt ht=>C6 hc (List.mem_append_right _ ht)⟩
theorem Da{k:Nat}{x:aT}(h:x∈gE m k):∃i t,i<k/\m.l[i]?=some t/\x∈ox m i t:=by
 unfold gE at h
 grind
theorem H7{i:Nat}{t:jO}{x:aT}(h:x∈ox m i t):x.t=i/\x.cut=[]/\((x.kind=1/\xK m t=true/\x.i=0)\/(x.kind=2/\x.i∈qw t.buf)):=by
 unfold ox at h
 grind
theorem aj2{q:aT}(h:(kh m).any (qy q)=true):m.fault=0/\0<=q.t/\q.cut.length=0/\∃t,m.l[q.t.toNat]?=some t/\((q.kind=1/\xK m t=true)\/(q.kind=2/\q.i∈qw t.buf)):=by
 rw[List.any_eq_true]at h
 obtain⟨x,u,B⟩:=h
 unfold kh at u
 split at u
 .cases u
 rename_i hf
 obtain⟨i,t,_,ht,E⟩:=Da u
 obtain⟨h1,_,h2⟩:=H7 E
 unfold qy at B
 simp only[nw,decide_eq_true_eq]at B
 have e:q.t=(i:Int):=bP
 refine⟨bP,bP,B.2,t,by rw[e];exact ht,?_⟩
 rcases h2 with⟨a,b,_⟩|⟨a,b⟩
 .exact .inl ⟨bP,b⟩
 exact .inr ⟨bP,by rw[<- B.1.2];exact b⟩
theorem QT(h:xK m t=true):∃x a b,qK t.bN=some (x,a,b):=by
 unfold xK at h
 grind
theorem YS{q:aT}(u:nV m)(hc:L5 m.p):nV (vi m q).1/\(vi m q).1.p=m.p/\(∀n,MB m.mem n->MB (vi m q).1.mem (n+1)):=by
 unfold vi
 cases hi:lf m q with
 | some E=>
  have G:gD m.mem q.cut=some E:=by unfold lf at hi;grind
  obtain⟨I,B⟩:=Ke hc
  refine⟨BG (LZ u.mem G) u.rm u.pz bP B,rfl,λn h k=>?_⟩
  show([]:List jm).length<=_
  grind
 | none=>
  dsimp only
  split
  .split
   .split
    .rename_i t ht
     obtain⟨h1,h2⟩:=T3 u ht
     exact⟨h1,rfl,h2⟩
    .exact⟨u,rfl,λn h=>h.mono (Cm n)⟩
   .obtain⟨h1,h2,h3,_⟩:=QR (i:=q.t) u
    grind
  .exact⟨u,rfl,λn h=>h.mono (Cm n)⟩
theorem H8{i:Nat}(h:i<(cX p).length):(ye p)[i]?=some (pq p i):=by grind[ye,pq]
theorem zX(p:bQ):(cX p).length=(jd p).length:=by unfold cX;grind
theorem V1(hc:L5 p):(jd p).length<=20:=by
 have hb:=hc.big
 unfold sG at hb
 simp only[Em,Ec,decide_eq_false_iff_not,decide_eq_true_eq]at hb
 obtain⟨⟨h1,_⟩,⟨⟨⟨⟨h2,h3⟩,_⟩,_⟩,_⟩,_⟩:=hb
 have h4:∀ls:List (List bO),(∀l∈ls,¬ 4<(l.length:Int))->ls.flatten.length<=4*ls.length:=by
  intro ls
  induction ls with
  | nil=>grind
  | cons l r u=>
   grind
 grind[jd]
theorem QU(hc:L5 p){k:Nat}{n:Int}(J:(k:Int)<ee p)(G:(ye p)[k]?=some n):(n=u5 (ye p) k\/(0<k/\n=u5 (ye p) k-1))/\0<=n/\n<=k:=by
 have V:=rT p
 have W:=zX p
 have B:∀l∈p.lines,l≠[]:=λl E=>(hc.f.lines l E).1
 have I:∀j:Nat,(j:Int)<ee p->(ye p)[j]?=some (iJ p.lines 0 j):=λj M=>by rw[H8 bP,FH bP]
 rw[I k J]at G;cases G
 have u:∀j:Nat,iJ p.lines 0 j<=j:=by
  intro j
  induction j with
  | zero=>
   cases E:p.lines with
   | nil=>unfold iJ;omega
   | cons l r=>
    grind[iJ]
  | succ j U=>
   have:=(qe p.lines 0 (j:Int) bP B).2.2
   grind
 refine⟨?_,(qe p.lines 0 (k:Int) bP B).1,u k⟩
 cases k with
 | zero=>
  left
  have:=u 0
  have:=(qe p.lines 0 ((0:Nat):Int) bP B).1
  show _=0
  omega
 | succ k=>
  have h3:=(qe p.lines 0 (k:Int) bP B).2.2
  have e:((k+1:Nat):Int)=(k:Int)+1:=bP
  have O:u5 (ye p) (k+1)=iJ p.lines 0 (k:Int)+1:=by
   unfold u5;grind
  grind
theorem QV(hc:L5 p):yb (Pt (ye p) (ee p) (fQ p)):=by
 have Z:=rT p
 have O8:=zX p
 have U:=V1 hc
 have J:∀l∈p.lines,l≠[]:=λl E=>(hc.f.lines l E).1
 have Y:(ye p).length=(jd p).length:=by grind[ye,jd]
 have W:(fQ p).length=(jd p).length:=by unfold fQ;grind
 have E:((ye p).take (ee p).toNat).length=(ee p).toNat:=cR
 have B:∀j:Nat,(j:Int)<ee p->(ye p)[j]?=some (iJ p.lines 0 j):=λj V=>by rw[H8 bP,FH bP]
 have u:0<(ee p).toNat->ke ((ye p).take (ee p).toNat)=iJ p.lines 0 ((ee p).toNat-1:Nat)+1:=λG=>by
  rw[FG G bP,o4,B _ bP];rfl
 refine⟨?_,?_,rfl,?_,λn O=>?_,?_,λk x M=>by cases M⟩
 .show((ye p).take (ee p).toNat).length<=(fQ p).length;omega
 .show(fQ p).length<=20;omega
 .show((fQ p).take (ee p).toNat).length=((ye p).take (ee p).toNat).length;grind
 .obtain⟨i,hi⟩:=List.mem_iff_getElem?.1 (show n∈(ye p).take (ee p).toNat from O)
  have I:=(jq.1 hi).1
  rw[E]at I
  rw[List.getElem?_take,fi I,B i bP]at hi
  cases hi
  show 0<=_/\_<ke ((ye p).take (ee p).toNat)
  rw[u bP]
  have h3:=qe p.lines 0 (i:Int) bP J
  grind
 show ke ((ye p).take (ee p).toNat)<=20
 by_cases G:(ee p).toNat=0
 .rw[G,List.take_zero];decide
 rw[u bP]
 have:=(QU hc (k:=(ee p).toNat-1) bP (B _ bP)).2.2
 omega
theorem T4(u:PZ p)(hc:L5 p){room:Int}(B:1<=room/\room<=16):nV (je p room):=by
 refine BG (m:=zJ p room) (QV hc) B u (by have:=u.threads;omega) λt ht=>C6 hc (List.mem_append_left _ ht)
end
def hdC(g:Int->Nat)(u B:Nat)(x:bE):Nat:=
 if x.kind=11 then g 12+max (u+(if 0<x.eH then g 11 else 0)) B
 else if x.kind=12 then g 13+x.n.toNat*(u+g 14)
 else if x.kind=13 then g 11 else g (if x.kind=14 then 15 else x.kind)
def QW(g:Int->Nat):Bk->Nat
 | .nil=>0
 | .cons x a b r=>hdC g (QW g a) (QW g b) x+QW g r
def aez(x:bE)(a b r:Bk)(at_:Int):Int:=at_+(sU (.cons x a b r)-sU r)
def W(g:Int->Nat):Bk->Int->Int->List Int->Int->Nat->Nat->Option Nat
 | .nil,at_,_,_,pos,u,_=>if pos=at_ then some u else none
 | .cons x a b r,at_,lp,cs,pos,u,B=>
  if aez x a b r at_<=pos then W g r (aez x a b r at_) lp cs pos u B
  else if pos=at_ then(if x.kind=13 then some (g 11+B)else some (hdC g (QW g a) (QW g b) x+(QW g r+u)))
  else if x.kind=11 then(if pos<toT x a at_ then W g a (at_+1) lp cs pos ((if 0<x.eH then g 11 else 0)+(QW g r+u)) B else W g b (toT x a at_) lp cs pos (QW g r+u) B)
  else if x.kind=12 then(if 1<=cs.getD lp.toNat 0/\cs.getD lp.toNat 0<=8 then W g a (at_+1) (lp+1) cs pos (g 14+((cs.getD lp.toNat 0).toNat-1)*(QW g a+g 14)+(QW g r+u)) (QW g r+u)else none)
  else none
def T5{x y:aT}:x=y↔x.kind=y.kind/\x.t=y.t/\x.i=y.i/\x.cut=y.cut:=by
 cases x;cases y;simp
def Ex.val(ns:List ByteArray)(u:List Int):Ex->Int×Int
 | .leaf x=>(if x.op=2 then u.getD (cT ns x.name).toNat 0 else x.n,0)
 | .un x a=>if (a.val ns u).2=0 then(vO x.op (a.val ns u).1,0)else(0,(a.val ns u).2)
 | .bin x a b=>if (a.val ns u).2=0 then(if (b.val ns u).2=0 then(mc x.op (a.val ns u).1 (b.val ns u).1,ma x.op (b.val ns u).1)else(0,(b.val ns u).2))else(0,(a.val ns u).2)
def C86(K:hM)(p:Nat)(m:iG)(i:Int)(t:jO)(F:Nat->Prop)(w:World)(hF:(fk K p m).p w F)(V:∀w',fH F w w'->K w')(lV:nV m)(F6:MB m.mem 1000000)(h0:0<=i)(ht:m.l[i.toNat]?=some t)(aj3:t.fault=0->∃x a b,qK t.bN=some (x,a,b)) :
   CR 86 [.pointer (some ⟨p,0,none⟩),hU i] w (λv w'=>v=ia (jb m i).2/\mF F (fk K p (jb m i).1) w w'):=by
 have u:=St.begin hF;have JD:=l0 ht;have U:=lV.th t JD;have kI:=(jq.1 ht).1;have mL:=yc U.p;have O8:=U.cl;have Mi:=U.bl;have hnb:=U.nb;have PB:=U.rl;have how:=lV.ow;have ajf:(cS m.p).length<=500:=by unfold cS;rw[nQ];exact lV.pz.eX
 have hcll:(cX m.p).length<=250500:=GX lV.pz.toPS;refine XI _ _ _ _ ?_;unfold S86;refine aM u qS (λb4 _ u=>?_);have u:=(u.enc (cs':=iW (⟨0,0,0,0,0⟩:cQ)) rfl).p1;obtain⟨a,hu,u⟩:=fk.open u;have vu:=u.p4.jl;refine aD (aA m6 (aB uu u.hb rfl ?_));obtain⟨e,he⟩:=gx a.ps (i:=i.toNat) bP;refine aZ wR u.p3.eU h0 he (λq hq=>aE AT hq ?_);have u:=PK u.p4 he ht;obtain⟨O,nv,rg,pl,es,Y,u⟩:=dM.open u;refine aD (aA qU (aB bL u.hb rfl (cC (aC (λc=>?_) λc=>?_))))
 .have hse:jb m i=({m with fault:=t.fault,ld:=i},⟨16,i,t.fault,0,0⟩):=by unfold jb;rw[ht];dsimp only;rw[fi c]
  refine aD (aA qU (aB bL u.hb rfl ?_));have u:=dM.shut (Φ:=λ_=>True) (t:=t) Y u.p4.p4.p4.p4.p4;have u:=St.IS (H:=sM K m.room) (x:=t) u.p1.p1 bP vu he;rw[mO ht]at u;have u:=fk.shut (m:=m) hu u.p4.p4.p4.p4;refine aU VT u (H':=λ_=>fk K p {m with fault:=t.fault,ld:=i}) (Φ:=λv _=>v=ia (⟨16,i,t.fault,0,0⟩:cQ)) (λE B I=>?_) ?_
  .exact C161 K p m i t.fault E _ B
  rintro _ _ rfl u;refine aH (x:=(⟨16,i,t.fault,0,0⟩:cQ)) u.p1 iH rfl rfl (λ_ u=>aE iH u.At ?_);rw[hse];exact⟨rfl,u.drop.mut⟩
 have hf0:t.fault=0:=bP
 refine dX Pz (C127 K e.b t O nv rg pl es _ _ u.hb u.p3.eU u.p4.eI.1 (λ_ e=>V _ (u.aF.then e)) U.p bP) ?_;rintro v _ ⟨hex,hv⟩;have u:=u.ext hex
 rcases hv with⟨ej,_⟩|⟨x,xa,xb,xv,av,bv,ra,rb,PC,rfl,Dg,_⟩
 .obtain⟨_,_,_,h⟩:=aj3 hf0;rw[ej]at h;cases h
 obtain⟨ge,gf,rfl,_,_⟩:=kZ (Dg _ (V _ u.aF))
 have XF:∀w,K w->dy (λ_=>True) w (ia ge) x.e/\dy (λ_=>True) w (ia gf) x.f:=λw hw=>by
  obtain⟨_,_,h4,h5,h6⟩:=kZ (Dg w hw);cases h4
  exact⟨h5,h6⟩
 obtain⟨⟨RA,I6⟩,hv1,hv2⟩:=lV.st t JD hf0 _ _ _ PC;obtain⟨hx,_,_,_,_,_,_,_,r,en,p',xy,sr,ar⟩:=U.top PC;have gn:(Bk.cons x xa xb r).str:=U.p.st _ (by rw[xy];exact oj ..);have hxe:=hx.e;have ht1:{t with fault:=if (ey t x.e).2=true then t.fault else 2}=t:=by rw[hv1];rfl
 refine aJ rfl (aJ rfl (aJ rfl (aJ rfl (have u:=dM.shut (Φ:=λ_=>True) (t:=t) Y u.p4.p4.p4.p4.p4;aM u jy λb6 _ u=>aH (x:=(⟨x.kind,x.eQ,x.name,ge,gf,x.n,x.body,x.eH,x.at_⟩:aW)) u ep rfl rfl λ_ u=>have u:=u.drew;aD (aA yz (aB lX u.p3.hb rfl (aA jU (aB (v:=.string x.name) j3 u.hb rfl (aD (aA yA ?_))))))))));refine aB lX u.p3.hb rfl (aA jU (aB (v:=.string x.name) j3 u.hb rfl (aR Bb u (C146 _ (cX m.p) x.name _ (hu.cs _ (V _ u.aF)) bP) λ_ he2 u=>?_)));refine⟨aY lX (u.p3.hb.cell rfl),?_⟩
 refine⟨aY j3 (u.hb.cell rfl),?_⟩;refine aR Bb u (C146 _ (cS m.p) x.name _ (hu.ks _ (V _ u.aF)) bP) (λ_ he2 u=>aD (aA uv (IM a.pv fW u.p3.hb rfl (aR acD u (C53 m.p a.pv _ _ (hu.pr _ (V _ u.aF)) lV.pz) λ_ he2 u=>aM u qS λb13 _ u=>?_))));have u:=jB.shut (m:=m) (⟨hu,he,vu,bP⟩) ((((((u.enc (cs':=iW (⟨0,0,0,0,0⟩:cQ)) rfl).p3).p7).p7).p7).p7);obtain⟨c,hc⟩:∃c,c=gq m x:=⟨_,rfl⟩;obtain⟨lk,hlk⟩:∃lk,lk=gZ m x:=⟨_,rfl⟩;obtain⟨ln,OH⟩:∃ln,ln=iD m x:=⟨_,rfl⟩;have u:=u.p3.p4.p4.p4;have V2:jb m i=(if x.kind=10/\m.fe.getD (gZ m x).toNat 0≠i then({m with fault:=3,ld:=i},⟨16,i,3,0,0⟩)else({ (eD m t i x).1 with l:=m.l.set i.toNat (tI m t i x)},{ (eD m t i x).2.2 with t:=i})):=by unfold jb;rw[ht];dsimp only;rw[ez bP,PC]
 refine⟨λw'=>¬ (x.kind=10/\m.fe.getD (gZ m x).toNat 0≠i)/\St w F [bM b13 (iW ((eD m t i x).2.2)),bM b6 (iW (⟨x.kind,x.eQ,x.name,ge,gf,x.n,x.body,x.eH,x.at_⟩:aW)),bM b4 (iW (⟨0,0,0,0,0⟩:cQ)),mT K e.b m.room (eD m t i x).2.1,jB K p (eD m t i x).1 i.toNat e] w',?_,?_⟩
 .refine aA fy (aB (v:=hU x.kind) bL u.p1.hb rfl (aG (aC (λW=>?_) λW=>?_)))
  .have G:(eD m t i x)=(m,pE t x.eQ (lL m t (gq m x)),CP m t x):=by unfold eD;rw[fi W]
   have J:¬ (x.kind=10/\m.fe.getD (gZ m x).toNat 0≠i):=bP
   refine aE ep u.p1.At (have u:=St.join u.p4.p4;aU adt u (H':=λ_=>sep (mT K e.b m.room (pE t x.eQ (lL m t (gq m x)))) (jB K p m i.toNat e)) (Φ:=λv _=>v=ia (CP m t x)) (λE B I=>?_) ?_)
   .exact C162 K p m i.toNat e t x ⟨x.kind,x.eQ,x.name,ge,gf,x.n,x.body,x.eH,x.at_⟩ E (gq m x) _ B (λw' hc=>V w' (I w' hc).aF) U lV.mem Dg (hx.rg bP)
   rintro _ _ rfl u;have u:=u.split;refine aH (x:=(CP m t x:cQ)) u.p2 iH rfl rfl (λ_ u=>?_);have u:=u.p2.p2.p4.p4.p4;rw[G];exact⟨J,u⟩
  refine aG (aC (λZ=>?_) λZ=>?_)
  .have G:(eD m t i x)=(m,tH m t ⟨3,iD m x,gq m x,(ey t x.e).1⟩,⟨3,0,gq m x,(ey t x.e).1,0⟩):=by unfold eD;rw[ez W,fi Z]
   have J:¬ (x.kind=10/\m.fe.getD (gZ m x).toNat 0≠i):=bP
   refine aA kN (aB (v:=ia ge) lH u.p1.hb rfl (have u:=u.p3;aU E8 u (H':=λ_=>mT K e.b m.room t) (Φ:=λv _=>v=.tuple #[hU (ey t x.e).1,.bool (ey t x.e).2]) (λE B I=>?_) ?_))
   .have:=C163 K _ e.b m.room t E _ x.e _ B (λw' hc=>V w' (I w' hc).aF) (XF _ (V _ u.aF)).1 bP bP;rw[ht1]at this;exact this
   rintro _ _ rfl u;refine aJ rfl (aJ rfl ?_);obtain⟨O,nv,rg,pl,es,Y,u⟩:=dM.open u;refine aD (aA kL (aB ur u.hb rfl (pop (zH 3 (iD m x) (gq m x) (ey t x.e).1) (have u:=u.p1;aU Iv u (H':=λ_=>kX O m.room (sI m.room t.buf (⟨3,iD m x,gq m x,(ey t x.e).1⟩:bG))) (Φ:=λ_ _=>True) (λE B I=>?_) ?_))))
   .exact(C164 O m.room t.buf (⟨3,iD m x,gq m x,(ey t x.e).1⟩:bG) E _ B bP).mono λ_ _ r=>r.mono λ_ _ h=>⟨trivial,h.2⟩
   rintro _ _ _ u;refine pop (q9 3 (gq m x) (ey t x.e).1) (have u:=dM.shut (Φ:=λ_=>True) (t:=tH m t (⟨3,iD m x,gq m x,(ey t x.e).1⟩:bG)) Y u.p4.p4.p4.p3.p4;aH (x:=(⟨3,0,gq m x,(ey t x.e).1,0⟩:cQ)) u.p1 iH rfl rfl λw14' u=>?_);have u:=u.p4.p2.p4.p4.p4;rw[G];exact⟨J,u⟩
  refine aG (aC (λk5=>?_) λk5=>?_)
  .have G:(eD m t i x)=(m,tH m t ⟨5,iD m x,0,0⟩,⟨4,0,iD m x,0,0⟩):=by unfold eD;rw[ez W,ez Z,fi k5]
   have J:¬ (x.kind=10/\m.fe.getD (gZ m x).toNat 0≠i):=bP
   have u:=u.p3;obtain⟨O,nv,rg,pl,es,Y,u⟩:=dM.open u;refine aD (aA kL (aB ur u.hb rfl (pop (yI 5 (iD m x)) (have u:=u.p1;aU Iv u (H':=λ_=>kX O m.room (sI m.room t.buf (⟨5,iD m x,0,0⟩:bG))) (Φ:=λ_ _=>True) (λE B I=>?_) ?_))))
   .exact(C164 O m.room t.buf (⟨5,iD m x,0,0⟩:bG) E _ B bP).mono λ_ _ r=>r.mono λ_ _ h=>⟨trivial,h.2⟩
   rintro _ _ _ u;refine pop (sf 4 (iD m x)) (have u:=dM.shut (Φ:=λ_=>True) (t:=tH m t (⟨5,iD m x,0,0⟩:bG)) Y u.p4.p4.p4.p3.p4;aH (x:=(⟨4,0,iD m x,0,0⟩:cQ)) u.p1 iH rfl rfl λw16' u=>?_);have u:=u.p4.p2.p4.p4.p4;rw[G];exact⟨J,u⟩
  refine aG (aC (λk6=>?_) λk6=>?_)
  .have G:(eD m t i x)=(m,tH m t ⟨6,iD m x,0,0⟩,⟨5,0,iD m x,0,0⟩):=by unfold eD;rw[ez W,ez Z,ez k5,fi k6]
   have J:¬ (x.kind=10/\m.fe.getD (gZ m x).toNat 0≠i):=bP
   have u:=u.p3;obtain⟨O,nv,rg,pl,es,Y,u⟩:=dM.open u;refine aD (aA kL (aB ur u.hb rfl (pop (yI 6 (iD m x)) (have u:=u.p1;aU Iv u (H':=λ_=>kX O m.room (sI m.room t.buf (⟨6,iD m x,0,0⟩:bG))) (Φ:=λ_ _=>True) (λE B I=>?_) ?_))))
   .exact(C164 O m.room t.buf (⟨6,iD m x,0,0⟩:bG) E _ B bP).mono λ_ _ r=>r.mono λ_ _ h=>⟨trivial,h.2⟩
   rintro _ _ _ u;refine pop (sf 5 (iD m x)) (have u:=dM.shut (Φ:=λ_=>True) (t:=tH m t (⟨6,iD m x,0,0⟩:bG)) Y u.p4.p4.p4.p3.p4;aH (x:=(⟨5,0,iD m x,0,0⟩:cQ)) u.p1 iH rfl rfl λw18' u=>?_);have u:=u.p4.p2.p4.p4.p4;rw[G];exact⟨J,u⟩
  refine aG (aC (λk7=>?_) λk7=>?_)
  .have G:(eD m t i x)=(m,tH m t ⟨7,0,0,0⟩,⟨6,0,0,0,0⟩):=by unfold eD;rw[ez W,ez Z,ez k5,ez k6,fi k7]
   have J:¬ (x.kind=10/\m.fe.getD (gZ m x).toNat 0≠i):=bP
   have u:=u.p3;obtain⟨O,nv,rg,pl,es,Y,u⟩:=dM.open u;refine aD (aA kL (aB ur u.hb rfl (pop (yH 7) (have u:=u.p1;aU Iv u (H':=λ_=>kX O m.room (sI m.room t.buf (⟨7,0,0,0⟩:bG))) (Φ:=λ_ _=>True) (λE B I=>?_) ?_))))
   .exact(C164 O m.room t.buf (⟨7,0,0,0⟩:bG) E _ B bP).mono λ_ _ r=>r.mono λ_ _ h=>⟨trivial,h.2⟩
   rintro _ _ _ u;refine pop (IL 6) (have u:=dM.shut (Φ:=λ_=>True) (t:=tH m t (⟨7,0,0,0⟩:bG)) Y u.p4.p4.p4.p3.p4;aH (x:=(⟨6,0,0,0,0⟩:cQ)) u.p1 iH rfl rfl λw20' u=>?_);have u:=u.p4.p2.p4.p4.p4;rw[G];exact⟨J,u⟩
  refine aG (aC (λk8=>?_) λk8=>?_)
  .have G:(eD m t i x)=(m,t,⟨7,0,0,0,0⟩):=by unfold eD;rw[ez W,ez Z,ez k5,ez k6,ez k7,fi k8]
   have J:¬ (x.kind=10/\m.fe.getD (gZ m x).toNat 0≠i):=bP
   refine pop (IL 7) (aH (x:=(⟨7,0,0,0,0⟩:cQ)) u iH rfl rfl λ_ u=>?_);have u:=u.p4.p4.p4.p4.p4;rw[G];exact⟨J,u⟩
  refine aG (aC (λk4=>?_) λk4=>?_)
  .have G:(eD m t i x)=(rM m t x,pE t x.eQ (lz m.mem (gq m x)),vh m t x):=by unfold eD;rw[ez W,ez Z,ez k5,ez k6,ez k7,ez k8,fi k4]
   have J:¬ (x.kind=10/\m.fe.getD (gZ m x).toNat 0≠i):=bP
   refine aE ep u.p1.At (have u:=St.join u.p4.p4;aU adu u (H':=λ_=>sep (mT K e.b m.room (pE t x.eQ (lz m.mem (gq m x)))) (jB K p (rM m t x) i.toNat e)) (Φ:=λv _=>v=ia (vh m t x)) (λE B I=>?_) ?_)
   .exact C165 K p m i.toNat e t x ⟨x.kind,x.eQ,x.name,ge,gf,x.n,x.body,x.eH,x.at_⟩ E _ B (λw' hc=>V w' (I w' hc).aF) U lV.mem Dg (hx.rg bP) F6 hxe hv1 hv2
   rintro _ _ rfl u;have u:=u.split;refine aH (x:=(vh m t x:cQ)) u.p2 iH rfl rfl (λ_ u=>?_);have u:=u.p2.p2.p4.p4.p4;rw[G];exact⟨J,u⟩
  have aj5:x.kind=9\/x.kind=10:=bP
  obtain⟨j,hj,FZ,_⟩:=pA (cY.1 (hx.lk aj5));have Mg:=(jq.1 FZ).1;have hjk:gZ m x=(j:Int):=hj;refine aG (aC (λk9=>?_) λk9=>?_)
  .have G:(eD m t i x)=(qz m x i,t,⟨10,0,gZ m x,0,0⟩):=by unfold eD;rw[ez W,ez Z,ez k5,ez k6,ez k7,ez k8,ez k4,fi k9]
   have J:¬ (x.kind=10/\m.fe.getD (gZ m x).toNat 0≠i):=bP
   have u:=u.p4;obtain⟨a,M,u⟩:=jB.open u;refine aD (aA m4 (aB ek u.hb rfl (ed u.p2 dz (show 0<=gZ m x by omega) (show gZ m x<_ by omega) λ_ aeA=>kJ (i:Int) u.p2 bL aeA bP λ_ u=>pop (sf 10 (gZ m x)) (have u:=jB.shut (m:=qz m x i) (⟨⟨M.1.pr,M.1.cs,M.1.ks,M.1.mem,M.1.rc⟩,M.2⟩) u.p4.p4.p2.p4.p4;aH (x:=(⟨10,0,gZ m x,0,0⟩:cQ)) u.p1 iH rfl rfl λ_ u=>?_))));have u:=u.p1.p4.p4.p4.p4;rw[G];exact⟨J,u⟩
  have G:(eD m t i x)=(qz m x (-1),t,⟨11,0,gZ m x,0,0⟩):=by unfold eD;rw[ez W,ez Z,ez k5,ez k6,ez k7,ez k8,ez k4,ez k9]
  have u:=u.p4;obtain⟨a,M,u⟩:=jB.open u;have hwl:=u.p2.eU;obtain⟨ov,hov⟩:=gx m.fe (i:=(gZ m x).toNat) bP;have hgd:m.fe.getD (gZ m x).toNat 0=ov:=by rw[o4,hov];rfl
  refine aD (aA m4 (aB ek u.hb rfl (aZ dz hwl (show 0<=gZ m x by omega) hov λq69 h69=>aE bL h69 (cC (aC (λc72=>?_) λc72=>?_)))))
  .have u:=u.p4;have u:=rL ((jB.shut (m:=m) M u.p4.p4.p4.p4).p4);rw[mO ht]at u;refine aU VT u (H':=λ_=>fk K p {m with fault:=3,ld:=i}) (Φ:=λv _=>v=ia (⟨16,i,3,0,0⟩:cQ)) (λE B I=>?_) ?_
   .exact C161 K p m i 3 E _ B
   rintro _ _ rfl u;refine aH (x:=(⟨16,i,3,0,0⟩:cQ)) u.p3 iH rfl rfl (λ_ u=>aE iH u.At ?_);have u:=u.drop.p1.drop.p1.drop;rw[V2,fi ⟨bP,by rw[hgd];exact c72⟩];exact⟨rfl,u.mut⟩
  refine aD (aA m4 (aB ek u.hb rfl (ed u.p2 dz (show 0<=gZ m x by omega) (show gZ m x<_ by omega) λ_ aj7=>kJ (-1:Int) u.p2 bL aj7 bP λ_ u=>pop (sf 11 (gZ m x)) (have u:=jB.shut (m:=qz m x (-1)) (⟨⟨M.1.pr,M.1.cs,M.1.ks,M.1.mem,M.1.rc⟩,M.2⟩) u.p4.p4.p2.p4.p4;aH (x:=(⟨11,0,gZ m x,0,0⟩:cQ)) u.p1 iH rfl rfl λ_ u=>?_))));have u:=u.p1.p4.p4.p4.p4;rw[G];exact⟨by rw[hgd];exactλh=>c72 h.2,u⟩
 rintro _ ⟨aeB,u⟩ _;have aj8:(eD m t i x).2.1.bN=(.cons x xa xb r,en)::p':=by rw[BE];exact xy
 have wP:=BD (m:=m) (t:=t) (i:=i) (x:=x);have aj9:oR (VQ (cX m.p) (cS m.p) t.names) (eD m t i x).2.1:=Kb U lV.rm.2
 have aeC:wq (cX m.p) (cS m.p) { (eD m t i x).2.1 with bN:=gY (eD m t i x).2.1.bN}:=by
  show oR (VQ _ _ (eD m t i x).2.1.names) _;rw[tN];exact Kc aj9
 refine aA R0 (aO u bL (dP rfl) rfl λ_ u=>have u:=(u.enc (cs':=iW ({ (eD m t i x).2.2 with t:=i}:cQ)) rfl).p3;aU E7 u (H':=λ_=>mT K e.b m.room { (eD m t i x).2.1 with bN:=gY (eD m t i x).2.1.bN}) (Φ:=λ_ _=>True) (λE B I=>?_) ?_)
 .exact(C166 K _ e.b m.room (eD m t i x).2.1 E x xa xb r en p' _ B (λw' hc=>V w' (I w' hc).aF) aj8 gn (by rw[BE];omega)).mono λ_ _ r=>r.mono λ_ _ h=>⟨trivial,h.2⟩
 rintro _ _ _ u;refine aU VR u (H':=λ_=>mT K e.b m.room (tI m t i x)) (Φ:=λ_ _=>True) (λE B I=>?_) ?_
 .exact(C119 K e.b m.room { (eD m t i x).2.1 with bN:=gY (eD m t i x).2.1.bN} (tI m t i x) _ _ _ E _ B (λw' hc=>V w' (I w' hc).aF) aeC (pF aeC).1).mono λ_ _ r=>r.mono λ_ _ h=>⟨trivial,h.2⟩
 rintro _ _ _ u;refine aE (x:=({ (eD m t i x).2.2 with t:=i}:cQ)) iH u.p1.At (aH (x:=({ (eD m t i x).2.2 with t:=i}:cQ)) u.p3 iH rfl rfl λ_ u=>aE iH u.At ?_);have u:=u.drop.p1.drop.p1.drop.p1.p1;rw[<- wP]at u;have u:=rL u;rw[YO]at u;rw[V2,ez aeB];exact⟨rfl,u.mut⟩
def C85(K:hM)(p:Nat)(m:iG)(q:aT)(Z:SV)(t:jO)(F:Nat->Prop)(w:World)(hF:(fk K p m).p w F)(hK:∀w',fH F w w'->K w')(lV:nV m)(F6:MB m.mem 1000000)(h0:0<=q.t)(ht:m.l[q.t.toNat]?=some t) :
   CR 85 [.pointer (some ⟨p,0,none⟩),ia (⟨q.kind,q.t,q.i,Z⟩:aQ)] w (λv w'=>v=ia (zB q.t (ei t.buf q.i))/\mF F (fk K p (xL m t q)) w w'):=by
 have u:=St.begin hF;have JD:=l0 ht;have ql:=lV.th t JD;have kI:=(jq.1 ht).1;have Mi:=ql.bl;refine qj Tryz.func85 (pl:=P85) ?_;refine bY (x:=(⟨q.kind,q.t,q.i,Z⟩:aQ)) u (λb3 _ u=>aM u qS λb4 _ u=>?_);have u:=(u.enc (cs':=iW (⟨0,0,0,0,0⟩:cQ)) rfl).p2;obtain⟨a,hu,u⟩:=fk.open u;have vu:=u.p4.jl;obtain⟨e,M⟩:=gx a.ps (i:=q.t.toNat) bP;refine⟨λx5 w'=>∃J,x5=.pointer (some ⟨J,0,none⟩)/\St w F [bM J (iW (ei t.buf q.i)),bM b4 (iW (⟨0,0,0,0,0⟩:cQ)),bM b3 (iW (⟨q.kind,q.t,q.i,Z⟩:aQ)),mT K e.b m.room ({t with buf:=kz t.buf q.i}),jB K p m q.t.toNat e] w',?_,?_⟩
 .have u:=u.drew;refine aD (aA m6 (aB uu u.hb rfl (aA n6 (aB (v:=hU q.t) bL u.p6.hb rfl (ed u.p3 wR h0 (by have:=vu;omega) λq14 WV=>gP u.p3 AT WV M ?_)))));have u:=PK u.p4 M ht;obtain⟨Y,nv,rg,pl,es,hk,u⟩:=dM.open u;refine aD (aA kL (aB ur u.hb rfl (aA xX (aB (v:=hU q.i) bL u.p11.hb rfl ⟨?_,?_,trivial⟩))))
  .have u:=u.p1;refine aU UG u (H':=λ_=>kX Y m.room (kz t.buf q.i)) (Φ:=λv _=>v=.tuple #[ia (ei t.buf q.i),hU (va t.buf q.i)]) (λI G O=>?_) ?_
   .exact C158 Y m.room t.buf q.i I _ G bP
   rintro _ _ rfl u;refine aJ rfl (aJ rfl (aM u se λJ _ u=>?_));refine⟨aY uu (u.p7.hb.cell rfl),?_⟩;refine⟨aY bL (u.p12.hb.cell (v:=hU q.t) rfl),?_⟩;refine⟨IN u.p10 AT WV M,?_⟩;refine⟨aY ur (u.p2.hb.cell rfl),?_⟩;refine⟨aY bL (u.p12.hb.cell (v:=hU q.i) rfl),?_⟩;exact aH (x:=(ei t.buf q.i)) u jD rfl rfl (λ_ u=>have u:=dM.shut (Φ:=λ_=>True) (t:={t with buf:=kz t.buf q.i}) hk u.p5.p5.p5.p4.p5;have u:=jB.shut (m:=m) ⟨hu,M,vu,bP⟩ u.p2.p6.p6.p6.p6;have u:=u.p1.p4.p4.p4;⟨J,rfl,u⟩)
  refine aM u se (λJ _ u=>?_);refine⟨aY uu (u.p7.hb.cell rfl),?_⟩;refine⟨aY bL (u.p12.hb.cell (v:=hU q.t) rfl),?_⟩;refine⟨IN u.p10 AT WV M,?_⟩;refine⟨aY ur (u.p1.hb.cell rfl),?_⟩;refine⟨aY bL (u.p12.hb.cell (v:=hU q.i) rfl),?_⟩;have u:=u.p2;refine aU UG u (H':=λ_=>kX Y m.room (kz t.buf q.i)) (Φ:=λv _=>v=.tuple #[ia (ei t.buf q.i),hU (va t.buf q.i)]) (λI G O=>?_) ?_
  .exact C158 Y m.room t.buf q.i I _ G bP
  rintro _ _ rfl u;exact aJ rfl (aJ rfl (aH (x:=(ei t.buf q.i)) u.p1 jD rfl rfl λ_ u=>have u:=dM.shut (Φ:=λ_=>True) (t:={t with buf:=kz t.buf q.i}) hk u.p5.p5.p5.p4.p5;have u:=jB.shut (m:=m) ⟨hu,M,vu,bP⟩ u.p2.p6.p6.p6.p6;have u:=u.p1.p4.p4.p4;⟨J,rfl,u⟩))
 rintro _ _ ⟨J,rfl,u⟩ _;refine aA ng (aB (v:=hU (ei t.buf q.i).kind) bL u.hb rfl (aG (aC (λc=>?_) λc=>?_)))
 .have u:=u.p4;obtain⟨a,B,u⟩:=jB.open u;have u:=u.drew;refine aD (aA lY (aB wQ u.hb rfl (aA pb (aB (v:=hU (ei t.buf q.i).cell) bL u.p5.hb rfl (aA q8 (aB (v:=hU (ei t.buf q.i).n) bL u.p5.hb rfl (have u:=u.p1;aU UH u (H':=λ_=>fD a.q a.ov a.fv (fG m.mem (ei t.buf q.i).cell (ei t.buf q.i).n)) (Φ:=λ_ _=>True) (λI G O=>?_) ?_)))))))
  .exact(C159 a.q a.ov a.fv m.mem I _ _ _ G (λw' hc=>B.1.mem _ (hK w' (O w' hc).aF)) lV.mem F6).mono λ_ _ r=>r.mono λ_ _ h=>⟨trivial,h.2⟩
  rintro _ _ _ u;refine aA n6 (aB (v:=hU q.t) bL u.p7.hb rfl (aA pb (aB (v:=hU (ei t.buf q.i).cell) bL u.p5.hb rfl (aA q8 (aB (v:=hU (ei t.buf q.i).n) bL u.p5.hb rfl (pop (Ai 12 q.t (ei t.buf q.i).cell (ei t.buf q.i).n) (aH (x:=(⟨12,q.t,(ei t.buf q.i).cell,(ei t.buf q.i).n,0⟩:cQ)) u.p6 iH rfl rfl λ_ u=>aE iH u.At ?_)))))));have W:kf m.mem (ei t.buf q.i)=fG m.mem (ei t.buf q.i).cell (ei t.buf q.i).n:=by unfold kf;rw[fi c]
  have E:zB q.t (ei t.buf q.i)=⟨12,q.t,(ei t.buf q.i).cell,(ei t.buf q.i).n,0⟩:=by unfold zB;rw[fi c]
  have u:=jB.shut (m:={m with mem:=fG m.mem (ei t.buf q.i).cell (ei t.buf q.i).n}) ⟨⟨B.1.pr,B.1.cs,B.1.ks,λw hw=>(B.1.mem w hw).write,B.1.rc⟩,B.2⟩ u.drop.p6.drop.p5.drop.p4.p4.p4.p3.p4;have u:=rL (m:={m with mem:=fG m.mem (ei t.buf q.i).cell (ei t.buf q.i).n}) (tp:=e) (t:={t with buf:=kz t.buf q.i}) u.p1;have V:xL m t q={ {m with mem:=fG m.mem (ei t.buf q.i).cell (ei t.buf q.i).n}with l:=m.l.set q.t.toNat ({t with buf:=kz t.buf q.i})}:=by unfold xL;rw[W]
  rw[V,E];exact⟨rfl,u.mut⟩
 refine aG (aC (λU=>?_) λU=>?_)
 .refine aA n6 (aB (v:=hU q.t) bL u.p2.hb rfl (pop (KE 14 q.t) (aH (x:=(⟨14,q.t,0,0,0⟩:cQ)) u.p1 iH rfl rfl λ_ u=>aE iH u.At ?_)));have u:=u.p4;obtain⟨a,B,u⟩:=jB.open u;have W:kf m.mem (ei t.buf q.i)=m.mem:=by unfold kf;rw[ez c,fi U]
  have E:zB q.t (ei t.buf q.i)=⟨14,q.t,0,0,0⟩:=by unfold zB;rw[ez c,fi U]
  have u:=jB.shut (m:={m with mem:=m.mem}) B u.p5.drop.p6.drop.p5.drop.p4.p4.p4.p4.p4;have u:=rL (m:={m with mem:=m.mem}) (tp:=e) (t:={t with buf:=kz t.buf q.i}) u.p1;have V:xL m t q={ {m with mem:=m.mem}with l:=m.l.set q.t.toNat ({t with buf:=kz t.buf q.i})}:=by unfold xL;rw[W]
  rw[V,E];exact⟨rfl,u.mut⟩
 have u:=u.p4;obtain⟨a,B,u⟩:=jB.open u;have u:=u.drew;refine aD (aA lY (aB wQ u.hb rfl (aA kP (aB (v:=hU (ei t.buf q.i).line) bL u.p5.hb rfl (have u:=u.p1;aU aaw u (H':=λ_=>fD a.q a.ov a.fv (pD m.mem (ei t.buf q.i).line)) (Φ:=λ_ _=>True) (λI G O=>?_) ?_)))))
 .exact(C160 a.q a.ov a.fv m.mem I _ _ G (λw' hc=>B.1.mem _ (hK w' (O w' hc).aF)) lV.mem F6).mono λ_ _ r=>r.mono λ_ _ h=>⟨trivial,h.2⟩
 rintro _ _ _ u;refine aA n6 (aB (v:=hU q.t) bL u.p7.hb rfl (aA kP (aB (v:=hU (ei t.buf q.i).line) bL u.p5.hb rfl (pop (wU 13 q.t (ei t.buf q.i).line) (aH (x:=(⟨13,q.t,(ei t.buf q.i).line,0,0⟩:cQ)) u.p6 iH rfl rfl λ_ u=>aE iH u.At ?_)))));have W:kf m.mem (ei t.buf q.i)=pD m.mem (ei t.buf q.i).line:=by unfold kf;rw[ez c,ez U]
 have E:zB q.t (ei t.buf q.i)=⟨13,q.t,(ei t.buf q.i).line,0,0⟩:=by unfold zB;rw[ez c,ez U]
 have u:=jB.shut (m:={m with mem:=pD m.mem (ei t.buf q.i).line}) ⟨⟨B.1.pr,B.1.cs,B.1.ks,λw hw=>(B.1.mem w hw).out,B.1.rc⟩,B.2⟩ u.drop.p6.drop.p5.drop.p4.p4.p4.p3.p4;have u:=rL (m:={m with mem:=pD m.mem (ei t.buf q.i).line}) (tp:=e) (t:={t with buf:=kz t.buf q.i}) u.p1;have V:xL m t q={ {m with mem:=pD m.mem (ei t.buf q.i).line}with l:=m.l.set q.t.toNat ({t with buf:=kz t.buf q.i})}:=by unfold xL;rw[W]
 rw[V,E];exact⟨rfl,u.mut⟩
def C57(K:hM)(p:Nat)(m:iG)(so:List bW)(lv:Value)(V:List bU)(F:Nat->Prop)(w:World)(hF:(fk K p m).p w F)(W:∀w',fH F w w'->K w')(Ti:1<=m.room/\m.room<=16)(hlk:(cS m.p).length<=1000)(hl:∀w',fH F w w'->dy (λ_=>True) w' lv V)(U:Fb K V so)
   (ql:∀t∈so,wq (cX m.p) (cS m.p) (Aq t)/\t.body=(TD t.body).flat) (hn:so.length<=1000) :
   CR 57 [.pointer (some ⟨p,0,none⟩),lv] w (λv w'=>v=.tuple #[]/\mF F (fk K p (tJ m so)) w w'):=by
 have u:=St.begin hF;have Kz:=U.1;refine qj Tryz.func57 (pl:=P57) ?_;obtain⟨a,I,u⟩:=fk.open u;have vu:=u.p4.jl;refine aD (aA m6 (aO u uu (dP rfl) rfl λ_ u=>aD (aA m4 (aO u ek (dP rfl) rfl λ_ u=>aD (aA yA (aB lX u.hb rfl (aI iR (I.ks _ (W _ u.aF)) ?_)))))));have u:=(((u.p2.drop.p2.drop.p2.drop.eF (α:=Int)).p2).p1).p2;refine⟨λJ x w'=>∃(k:Nat) (ov:Value),x=hU (k:Int)/\J=(cS m.p).length-k/\k<=(cS m.p).length/\St w F [bM p (mw {a with ow:=ov,ll:=.slice none 0 0} m),bH ov (oJ k (-1:Int)),fD a.q a.ov a.fv m.mem] w',⟨_,0,_,rfl,rfl,mr _,u⟩,?_⟩
 rintro J _ _ ⟨k,ov,rfl,rfl,RA,u⟩ _;refine aS (aC (λc=>?_) λc=>?_)
 .refine aD (aA m4 (aB ek u.hb rfl (bK ([-1]:List Int) u dz rfl rfl (dP rfl) λs27 _ u=>?_)));have aka:=u.eU;exact cO u.p2 dz aka (by rw[wG,nD];omega) ea (λs28 _ u=>have u:=u.p1.drop;aD (aA m4 (aO u.p1 ek (dP rfl) u.eU.one λ_ u=>aK bP ⟨_,bP,k+1,s28,rfl,rfl,bP,by rw[List.replicate_succ'];exact u⟩)))
 refine aI kK (hl _ u.aF) ?_;rw[show k=(cS m.p).length from bP]at u;have u:=((((((u.D9 (H:=sM K m.room)).eF (α:=Ptr)).p4).p4).p3).p3).p4;refine⟨λJ x w'=>∃(j:Nat) (B:Value) (ps:List Ptr),x=hU (j:Int)/\J=V.length-j/\j<=V.length/\St w F [bM p (mw {a with ow:=ov,ll:=B} m),bH B ps,gp (sM K m.room) ps ((so.take j).map ZW),bH ov (oJ (cS m.p).length (-1:Int)),fD a.q a.ov a.fv m.mem] w',⟨_,0,_,_,rfl,rfl,mr _,u⟩,?_⟩;rintro J _ _ ⟨j,B,ps,rfl,rfl,hj1,u⟩ _;refine aS (aC (λc2=>?_) λc2=>?_);rotate_left
 .rw[kE bP]at u;have u:=u.p2.p2.p3.p4.p4;exact⟨rfl,(fk.shut (m:=tJ m so) (a:={a with ow:=ov,ll:=B,ps:=ps}) ⟨I.pr,I.cs,I.ks,I.mem,I.rc⟩ u).mut⟩
 obtain⟨tv,O⟩:=gx V (i:=((j:Nat):Int).toNat) bP;obtain⟨t,ht⟩:=gx so (i:=j) bP;obtain⟨G,gb,rows,rfl,M,hgb⟩:=U.2 j _ _ O ht;obtain⟨YT,ZU⟩:=ql t (l0 ht);have PB:t.dJ.length<=1000:=YT.nb;refine aZ kK (hl _ u.aF) bP O (λq36 Z=>aE lq Z (aM u sd λb5 _ u=>aH (x:=(⟨t.name,G,gb,t.at_⟩:bU)) u lq rfl rfl λ_ u=>aD (aA M4 (aB bL u.p1.hb rfl (dX aan (C50 m.room _) ?_)))));rintro v43 _ hh;obtain⟨_,_,b43,rfl,dw⟩:=hh.resolve_left (λ_=>bP);have u:=u.made dw;refine aJ rfl (aJ rfl (have u:=u.drew;aA m7 (aB (v:=ia G) lX u.p1.hb rfl (aA m7 (aB (v:=ia G) lX u.p1.hb rfl (aI iR (M _ (W _ u.aF)) (DK (0:Int) u dz sQ bP bP ea λs52 _ u=>?_)))))))
 rw[qs]at u;refine⟨aY lX (u.p2.hb.cell (v:=ia G) rfl),?_⟩;obtain⟨YU,rfl⟩:=u.gu;refine pop (CO (some ⟨b43,0,none⟩) G.a G.n G.cap YU.a YU.n YU.cap) (o0 u λE _ u=>have u:=(u.eF (α:=rK)).fK (Φ:=λw=>yd K w [] []/\True) (λ_=>⟨trivial,trivial⟩);have u:=dM.shut (Φ:=λ_=>True) (t:=(⟨t.dJ,oJ t.dJ.length 0,[],0,[]⟩:jO)) (es:=[]) M u.p1.p3.p4.p4;aA qT (aB (v:=ia gb) lZ u.p1.hb rfl (aU E6 u (H':=λ_=>mT K E m.room (Aq t)) (Φ:=λ_ _=>True) (λF2 Y dK=>?_) ?_)))
 .exact(C118 K _ E m.room ⟨t.dJ,oJ t.dJ.length 0,[],0,[]⟩ F2 gb rows (TD t.body) false _ Y (λw' hc=>W w' (dK w' hc).aF) (λw _=>by rw[<- ZU];exact hgb w) (show(0:Nat)<=100000 by decide)).mono λ_ _ r=>r.mono λ_ _ h=>⟨trivial,h.2⟩
 rintro _ _ _ u;refine aU VR u (H':=λ_=>mT K E m.room (ZW t)) (Φ:=λ_ _=>True) (λF2 Y dK=>?_) ?_
 .exact(C119 K E m.room (Aq t) (ZW t) _ _ _ F2 _ Y (λw' hc=>W w' (dK w' hc).aF) YT (pF YT).1).mono λ_ _ r=>r.mono λ_ _ h=>⟨trivial,h.2⟩
 rintro _ _ _ u;refine aD (aA m6 ?_);have mL:=u.p4.jl;rw[nQ,List.length_take]at mL;refine aB uu u.p2.hb rfl (bK ([(⟨E⟩:Ptr)]) u wR rfl rfl (dP rfl) λs67 _ u=>?_);have akc:=u.eU;exact cO u.p4 wR akc (by simp;omega) ea (λs68 _ u=>have u:=u.p1.drop;aD (aA m6 (aO u.p3 uu (dP rfl) u.eU.one λ_ u=>have u:=(((St.Ea (H:=sM K m.room) (p:=⟨E⟩) (x:=ZW t) u.p3.drop.p2.p3).p4).p4).p2;have u:=u.p4.p4;aK bP ⟨_,bP,j+1,s68,ps++[⟨E⟩],rfl,rfl,bP,by rw[<- nq (k:=j) ht];exact u⟩)))
end Go.Proofs.YtdncbeepkacgbaaGreatDoor

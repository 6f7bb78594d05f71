/-
  Part 6.
-/
import Derived.Test.YtpdlpabnlkofmaaGreatDoorR3x5
set_option maxHeartbeats 8000000
set_option linter.all false
set_option maxRecDepth 100000
open Go.Fw.Flat renaming val->jr,enc->kp
open ByteArray renaming mk->j0
open List renaming getElem?_eq_some_iff->kE,mem_of_getElem?->kO,take_of_length_le->la,getElem?_eq_getElem->lU,length_append->l0,length_singleton->nh,getElem?_eq_none->n0,append_assoc->n4,getD_eq_getElem?_getD->oi,mem_map->o1,mem_append->pd,append_nil->qb,take_add_one->v7,any_eq_true->xy,any_eq_false->CP,foldl_append->Gg,length_set->Jc,length_nil->Ld
open Nat renaming zero_le->l2,le_refl->sl,le_succ->Nx,lt_or_ge->Pk
open Option renaming bind_some->mv,some->ob,toList_some->K0
open Go.Value renaming int->n3
open Go.Fw.Deep renaming dr->n5
open Bool renaming and_eq_true->oj,not_eq_true'->u1,or_eq_false_iff->LR
open Int renaming toNat_natCast->tx,le_refl->Ot,eq_ofNat_of_zero_le->PX,emod_lt_of_pos->aaj,emod_nonneg->abR
open Decidable renaming not_not->A0
namespace Go.Proofs.YtpdlpabnlkofmaaGreatDoor
open Go.Fw
def numOf(s:ByteArray)(a k:Nat):Int:=(((iO s).drop a).take (k-a)).foldl (λn c=>if n<=4294967296 then 10*n+((c.toNat:Int)-48)else n) 0
theorem Tt(s:ByteArray)(a:Nat):numOf s a a=0:=by unfold numOf;grind
theorem zZ{s:ByteArray}{a k:Nat}{c:UInt8}(u:a<=k)(h:(iO s)[k]?=some c):numOf s a (k+1)=if numOf s a k<=4294967296 then 10*numOf s a k+((c.toNat:Int)-48)else numOf s a k:=by
 unfold numOf
 rw[show k+1-a=(k-a)+1 from bL,v7,List.getElem?_drop,show a+(k-a)=k from bL,h,K0,Gg]
 rfl
theorem ae6{s:ByteArray}{a:Nat}:∀{k:Nat},a<=k->k<=s.size->(∀j c,a<=j->j<k->(iO s)[j]?=some c->48<=(c.toNat:Int)/\(c.toNat:Int)<=57)->0<=numOf s a k/\numOf s a k<=42949672969:=by
 intro k
 induction k with
 | zero=>
  grind[iO,numOf]
 | succ k u=>
  intro B E hd
  by_cases e:a=k+1
  .subst e;rw[Tt];omega
  .have:=u bL bL λj c h1 h2=>hd j c h1 bL
   obtain⟨c,hc⟩:∃c,(iO s)[k]?=some c:=⟨_,lU (by rw[eV];omega)⟩
   have h2:=hd k c bL bL hc
   rw[zZ bL hc]
   omega
def mK(s:ByteArray):Nat->Nat->List bQ->Option (List bQ×Int×Int)
 | 0,_,_=>none
 | n+1,a,out=>match (iO s)[a]? with
  | none=>some (out,0,0)
  | some c=>
   if gA c.toNat=true then(if 16<wI sR s a-a then some ([],2,(a:Int))else(lx s (s.size+1) (wI sR s a)).bind λu=>mK s n u (out++[⟨1,s.extract a (wI sR s a),0,a⟩]))
   else if km c.toNat=true then(if 4294967296<numOf s a (wI wJ s a)then some ([],4,(a:Int))else(lx s (s.size+1) (wI wJ s a)).bind λu=>mK s n u (out++[⟨2,s.extract a (wI wJ s a),numOf s a (wI wJ s a),a⟩]))
   else if qL s a c=0 then some ([],3,(a:Int))else(lx s (s.size+1) (a+(qL s a c).toNat)).bind λu=>mK s n u (out++[⟨3,s.extract a (a+(qL s a c).toNat),0,a⟩])
def wy(s:ByteArray):Option (List bQ×Int×Int):=if 4000<s.size then some ([],2,4000)else(lx s (s.size+1) 0).bind λa=>mK s (s.size+2) a []
theorem QI{s:ByteArray}{n a:Nat}{out:List bQ}{r:List bQ×Int×Int}(h:mK s n a out=some r):∃k,n=k+1:=by
 cases n with
 | zero=>cases h
 | succ k=>grind
def yy(s:ByteArray)(k a:Nat)(out:List bQ)(R:List bQ×Int×Int)(B:Int)(e:Nat)(n:Int):Prop:=a<e/\e<=s.size/\∃u,lx s (s.size+1) e=some u/\mK s k u (out++[⟨B,s.extract a e,n,a⟩])=some R
section
variable {s:ByteArray}{k a:Nat}{c:UInt8}{out:List bQ}{R:List bQ×Int×Int}
theorem Vi(h:mK s (k+1) a out=some R)(u:s.size<=a):R=(out,0,0):=by
 unfold mK at h;rw[n0 (by rw[eV];exact u)]at h;grind
theorem G8(h:mK s (k+1) a out=some R)(hc:(iO s)[a]?=some c)(u:gA c.toNat=true)(hb:16<wI sR s a-a):R=([],2,(a:Int)):=by
 unfold mK at h;grind
theorem CC{e:Nat}{u n:Int}(h:((lx s (s.size+1) e).bind λB=>mK s k B (out++[⟨u,s.extract a e,n,a⟩]))=some R)(h1:a<e)(h2:e<=s.size):yy s k a out R u e n:=by
 cases hp:lx s (s.size+1) e with
 | none=>grind
 | some B=>grind[yy]
theorem Vj(h:mK s (k+1) a out=some R)(hc:(iO s)[a]?=some c)(B:gA c.toNat=true)(hb:¬ 16<wI sR s a-a)(u:a<wI sR s a):yy s k a out R 1 (wI sR s a) 0:=by
 unfold mK at h;rw[hc]at h;dsimp only at h;rw[ej B,ei hb]at h
 have:=qQ hc;have h2:=QG (s:=s) (a:=a) sR
 exact CC h u bL
theorem Ke(h:mK s (k+1) a out=some R)(hc:(iO s)[a]?=some c)(u:gA c.toNat=false)(hd:km c.toNat=true)(hb:4294967296<numOf s a (wI wJ s a)):R=([],4,(a:Int)):=by
 unfold mK at h;grind
theorem aah(h:mK s (k+1) a out=some R)(hc:(iO s)[a]?=some c)(B:gA c.toNat=false)(hd:km c.toNat=true)(hb:¬ 4294967296<numOf s a (wI wJ s a))(u:a<wI wJ s a):yy s k a out R 2 (wI wJ s a) (numOf s a (wI wJ s a)):=by
 unfold mK at h;rw[hc]at h;dsimp only at h;rw[ei cD,ej hd,ei hb]at h
 have:=qQ hc;have h2:=QG (s:=s) (a:=a) wJ
 exact CC h u bL
theorem Vk(h:mK s (k+1) a out=some R)(hc:(iO s)[a]?=some c)(u:gA c.toNat=false)(hd:km c.toNat=false)(hb:qL s a c=0):R=([],3,(a:Int)):=by
 unfold mK at h;grind
theorem aai(s:ByteArray)(a:Nat)(c:UInt8):qL s a c=0\/qL s a c=1\/qL s a c=2:=by
 grind[qL]
theorem Tu{s:ByteArray}{a:Nat}{c:UInt8}(h:(iO s)[a]?=some c):(a:Int)+qL s a c<=s.size:=by
 have B:=qQ h
 unfold qL
 split
 .rename_i h2
  rw[xy]at h2
  obtain⟨t,ht,hb⟩:=h2
  have:t.size=2:=by
   have u:∀t∈Dv,t.size=2:=dy
   grind
  unfold CB at hb
  grind
 omega
theorem Vl(h:mK s (k+1) a out=some R)(hc:(iO s)[a]?=some c)(u:gA c.toNat=false)(hd:km c.toNat=false)(hb:¬ qL s a c=0):yy s k a out R 3 (a+(qL s a c).toNat) 0:=by
 unfold mK at h;rw[hc]at h;dsimp only at h;rw[ei cD,ei cD,ei hb]at h
 have h1:=aai s a c;have h2:=Tu hc
 exact CC h bL bL
end
theorem C130(s:ByteArray)(R:List bQ×Int×Int)(w:World)(XP:s.size<=1000000)(hr:wy s=some R):CR 130 [.string s] w (λv w'=>∃o,v=.tuple #[o,ir R.2.1,ir R.2.2]/\lf (bF o R.1) w w'):=by
 have u:=St.start w;refine acF _ _ _ ?_;unfold S130;refine fe hG (cL (aC (λju=>?_) λju=>?_))
 .have O:([],2,4000)=R:=by unfold wy at hr;rw[ej bL]at hr;exact ob.inj hr
  subst O;exact⟨_,rfl,u.eU.fresh⟩
 have h4:s.size<=4000:=bL
 obtain⟨a0,ha0,OE⟩:∃a0,lx s (s.size+1) 0=some a0/\mK s (s.size+2) a0 []=some R:=by
  unfold wy at hr;rw[ei bL]at hr;cases hq:lx s (s.size+1) 0 with
  | none=>rw[hq]at hr;cases hr
  | some a0=>rw[hq]at hr;exact⟨a0,rfl,hr⟩
 have azm:=Bq ha0 bL;refine bD ([]:List bQ) u fI rfl rfl (dQ rfl) (λs_x12 _ u=>aV ags u (C205 s 0 (s.size+1) a0 _ bL bL ha0) λ_ he u=>?_);refine⟨λmm o x w'=>∃(a:Nat) (out:List bQ),x=ir (a:Int)/\a<=s.size/\out.length<=a/\mK s mm a out=some R/\St w aX [bF o out] w',⟨_,a0,[],rfl,azm.2,l2 _,OE,u⟩,?_⟩;rintro mm yF _ _ ⟨a,out,rfl,ha,GI,hp,u⟩ _;obtain⟨k,rfl⟩:=QI hp;refine fe hG (aN (aC (λlL=>pop (Xo _) (aQ u ac6 λVm _ u=>aM (x:=(⟨0,(j0 #[]),0,(a:Int)⟩:bQ)) u agH rfl rfl λ_ u=>⟨λto w'=>∃(kd:Int) (e:Nat) (n:Int),to=ir (e:Int)/\yy s k a out R kd e n/\St w aX [bX Vm (kp (⟨kd,j0 #[],n,(a:Int)⟩:bQ)),bF yF out] w',?_,?_⟩)) λlL=>?_))
 .obtain⟨iF,jJ⟩:∃xx,(iO s)[(a:Int).toNat]?=some xx:=⟨_,lU (by rw[eV];omega)⟩;refine jO hG bL jJ ?_;have B:(iO s)[a]?=some iF:=jJ;refine aV RT u (C206 _ _) (λ_ he u=>aW (λiL=>?_) λiL=>?_)
  .have G:=iL;refine aA lH (aR u bO (dQ rfl) (rfl) λ_ u=>?_);have u:=u.enc (cs':=kp ({ (⟨0,(j0 #[]),0,(a:Int)⟩:bQ)with kind:=1}:bQ)) rfl;have u:=u.p1.p1;refine⟨λmm x w'=>∃j:Nat,x=ir (j:Int)/\mm=s.size-j/\a<=j/\j<=s.size/\wI sR s a=wI sR s j/\St w aX [bX Vm (kp (⟨1,j0 #[],0,(a:Int)⟩:bQ)),bF yF out] w',⟨_,a,rfl,rfl,sl _,ha,rfl,u⟩,?_⟩;rintro mm _ _ ⟨j,rfl,rfl,V,hj,I,u⟩ _;refine⟨λjv w'=>jv=.bool (match (iO s)[j]? with|some c=>sR c|none=>false)/\St w aX [bX Vm (kp (⟨1,j0 #[],0,(a:Int)⟩:bQ)),bF yF out] w',fe hG (aN (aC (λq9=>?_) λq9=>⟨vb (by first|(rw[show(iO s)[j]?=some J from o0];show _=(gA J.toNat||km J.toNat);rw[lj];rfl)|(rw[n0 (by rw[eV];omega)])),u⟩)),?_⟩
   .obtain⟨J,o0⟩:∃xx,(iO s)[(j:Int).toNat]?=some xx:=⟨_,lU (by rw[eV];omega)⟩;refine jO hG bL o0 ?_;have hcj0:(iO s)[j]?=some J:=o0;exact aV RT u (C206 _ _) (λ_ he u=>aW (λlj=>⟨vb (by first|(rw[show(iO s)[j]?=some J from o0];show _=(gA J.toNat||km J.toNat);rw[lj];rfl)|(rw[n0 (by rw[eV];omega)])),u⟩) λlj=>jO hG bL o0 (aV RU u (C207 _ _) λ_ he u=>⟨vb (by first|(rw[show(iO s)[j]?=some J from o0];show _=(gA J.toNat||km J.toNat);rw[lj];rfl)|(rw[n0 (by rw[eV];omega)])),u⟩))
   rintro _ _ ⟨rfl,u⟩ _;refine aW (λZ=>?_) (λZ=>?_)
   .refine aJ bL ?_
    have W:∃c,(iO s)[j]?=some c/\sR c=true:=by
     cases hc:(iO s)[j]? with
     | none=>rw[hc]at Z;cases Z
     | some c=>rw[hc]at Z;exact⟨c,rfl,Z⟩
    obtain⟨cj,U,Vh⟩:=W;have CO:=qQ U;exact⟨_,bL,j+1,rfl,rfl,bL,bL,I.trans (Gc U Vh),u⟩
   have Y:wI sR s j=j:=by
    by_cases hjs:j<s.size
    .obtain⟨cj,W⟩:∃c,(iO s)[j]?=some c:=⟨_,lU (by rw[eV];exact hjs)⟩;rw[W]at Z;exact Gd W Z
    .exact Kc bL
   refine fc bL (cL (aC (λxA=>?_) λxA=>?_))
   .have u:=u.drop.drop;have O:=G8 hp B G (by rw[I,Y];omega);subst O;exact⟨_,rfl,u.eU.fresh⟩
   have u:=u.p1.p1
   have hgt:a<j:=by
    rcases Pk a j with h|h
    .exact h
    .obtain rfl:j=a:=bL
     rw[B]at Z;have h9:sR iF=false:=Z;unfold sR at h9;rw[G]at h9;cases h9
   have E:=Vj hp B G (by rw[I,Y];omega) (by rw[I,Y];exact hgt);rw[I,Y]at E;exact⟨1,j,0,rfl,E,u⟩
  have G:=iL;refine jO hG bL jJ (aV RU u (C207 _ _) λ_ he u=>aW (λCY=>?_) λCY=>?_)
  .have QJ:=CY;refine aA lH (aR u bO (dQ rfl) (rfl) λ_ u=>?_);have u:=u.enc (cs':=kp ({ (⟨0,(j0 #[]),0,(a:Int)⟩:bQ)with kind:=2}:bQ)) rfl;have u:=u.p1.p1;refine⟨λmm x w'=>∃j:Nat,x=ir (j:Int)/\mm=s.size-j/\a<=j/\j<=s.size/\wI wJ s a=wI wJ s j/\(∀(i:Nat) (c:UInt8),a<=i->i<j->(iO s)[i]?=some c->48<=(c.toNat:Int)/\(c.toNat:Int)<=57)/\St w aX [bX Vm (kp (⟨2,j0 #[],(numOf s a j),(a:Int)⟩:bQ)),bF yF out] w',⟨_,a,rfl,rfl,sl _,ha,rfl,λ_ _ h1 _=>absurd h1 bL,by rw[Tt];exact u⟩,?_⟩;rintro mm _ _ ⟨j,rfl,rfl,V,hj,I,hdg,u⟩ _
   refine⟨λjv w'=>jv=.bool (match (iO s)[j]? with|some c=>wJ c|none=>false)/\St w aX [bX Vm (kp (⟨2,j0 #[],(numOf s a j),(a:Int)⟩:bQ)),bF yF out] w',fe hG (aN (aC (λHI=>?_) λHI=>⟨vb (by first|(rw[show(iO s)[j]?=some ahR from QK];rfl)|(rw[n0 (by rw[eV];omega)])),u⟩)),?_⟩
   .obtain⟨ahR,QK⟩:∃xx,(iO s)[(j:Int).toNat]?=some xx:=⟨_,lU (by rw[eV];omega)⟩;exact jO hG bL QK (aV RU u (C207 _ _) λ_ he u=>⟨vb (by first|(rw[show(iO s)[j]?=some ahR from QK];rfl)|(rw[n0 (by rw[eV];omega)])),u⟩)
   rintro _ _ ⟨rfl,u⟩ _;refine aW (λM=>?_) (λM=>?_)
   .have W:∃c,(iO s)[j]?=some c/\wJ c=true:=by
     cases hc:(iO s)[j]? with
     | none=>rw[hc]at M;cases M
     | some c=>rw[hc]at M;exact⟨c,rfl,M⟩
    obtain⟨cj,U,Vh⟩:=W;have CO:=qQ U;have hcd:=Vh;unfold wJ km at hcd;rw[decide_eq_true_eq]at hcd;have Wk:=ae6 V bL hdg;refine⟨λw'=>St w aX [bX Vm (kp (⟨2,j0 #[],(numOf s a (j+1)),(a:Int)⟩:bQ)),bF yF out] w',aA rZ (aB (v:=ir (numOf s a j)) bO u.hb rfl (gu (aC (λxh=>?_) λxh=>?_))),?_⟩
    .refine aA rZ (have u:=u.drew;aB (v:=ir (numOf s a j)) bO u.hb rfl (DG bL ?_));obtain⟨asu,aak⟩:∃xx,(iO s)[(j:Int).toNat]?=some xx:=⟨_,lU (by rw[eV];omega)⟩;refine jO hG bL aak ?_;obtain rfl:=ob.inj (aak.symm.trans (show(iO s)[(j:Int).toNat]?=some cj from U));refine ZU bL (U9 awD EA bL (aJ bL (aA rZ (aR u bO (dQ rfl) (rfl) λ_ u=>?_))));have u:=u.enc (cs':=kp ({ (⟨2,j0 #[],(numOf s a j),(a:Int)⟩:bQ)with n:=((10*(numOf s a j))+((asu.toNat:Int)-48))}:bQ)) rfl
     have u:=u.p1.p1;rw[zZ V U,ej xh];exact u
    .have u:=u.p1.p1;rw[zZ V U,ei xh];exact u
    intro _ u _;refine aJ bL ?_
    exact⟨_,bL,j+1,rfl,rfl,bL,bL,I.trans (Gc U Vh),λi c h1 h2 h3=>by
     by_cases e:i=j
     .subst e;obtain rfl:=ob.inj (h3.symm.trans U);omega
     .exact hdg i c h1 bL h3,u⟩
   have Y:wI wJ s j=j:=by
    by_cases hjs:j<s.size
    .obtain⟨cj,W⟩:∃c,(iO s)[j]?=some c:=⟨_,lU (by rw[eV];exact hjs)⟩;rw[W]at M;exact Gd W M
    .exact Kc bL
   refine aA rZ (aB (v:=ir (numOf s a j)) bO u.hb rfl (cL (aC (λag4=>?_) λag4=>?_)))
   .have u:=u.drop.drop;have O:=Ke hp B G QJ (by rw[I,Y];omega);subst O;exact⟨_,rfl,u.eU.fresh⟩
   have u:=u.p1.p1
   have hgt:a<j:=by
    rcases Pk a j with h|h
    .exact h
    .obtain rfl:j=a:=bL
     rw[B]at M;have h9:wJ iF=false:=M;unfold wJ at h9;rw[QJ]at h9;cases h9
   have E:=aah hp B G QJ (by rw[I,Y];omega) (by rw[I,Y];exact hgt);rw[I,Y]at E;exact⟨2,j,_,rfl,E,u⟩
  have QJ:=CY;have hsb:=aai s a iF;have hsi:=Tu B;refine aA lH (aR u bO (dQ rfl) (rfl) λ_ u=>have u:=u.enc (cs':=kp ({ (⟨0,(j0 #[]),0,(a:Int)⟩:bQ)with kind:=3}:bQ)) rfl;aV an0 u (C208 s a iF _ XP B) λ_ he u=>aJ bL (aG (aC (λasv=>?_) λasv=>?_)))
  .have u:=u.drop.drop;have O:=Vk hp B G QJ bL;subst O;exact⟨_,rfl,u.eU.fresh⟩
  have u:=u.p1.p1;have E:=Vl hp B G QJ bL;exact⟨3,a+(qL s a iF).toNat,0,by congr 1;omega,E,u⟩
 .rintro _ _ ⟨kd,e,n,rfl,E,u⟩ _;have azn:=E;obtain⟨h1e0,h2e0,_⟩:=azn;refine LO hG bL bL bL (aA nB (aR u gv (dQ rfl) (rfl) λ_ u=>have u:=u.enc (cs':=kp ({ (⟨kd,j0 #[],n,(a:Int)⟩:bQ)with text:=(s.extract (a:Int).toNat (e:Int).toNat)}:bQ)) rfl;aE agH u.At (bD ([(⟨kd,s.extract (a:Int).toNat (e:Int).toNat,n,(a:Int)⟩:bQ)]) u fI rfl rfl (dQ rfl) λakM _ u=>?_)));have ae7:=u.dS;refine bJ u.p2 fI ae7 (by simp;omega) dy (λakN _ u=>?_);have u:=u.p1.drop;obtain⟨h1e,h2e,a2,V6,hp2⟩:=E
  have azo:=Bq V6 h2e;exact aV ags u (C205 s e (s.size+1) a2 _ bL bL V6) (λ_ _ u=>have u:=u.p1.drop;⟨k,bL,a2,_,rfl,azo.2,by simp;omega,hp2,u⟩)
 have O:=Vi hp bL;subst O;exact⟨_,rfl,u.fresh⟩
structure fJ where
 l:(List bU)
 to:Int
 e:Int
 at_:Int
deriving DecidableEq
structure dZ where
 l:SV
 to:Int
 e:Int
 at_:Int
instance:Flat dZ where
 agg:=true
 sz:=4
 enc e:=[.slice e.l.a e.l.n e.l.cap,ir e.to,ir e.e,ir e.at_]
 val e:=.agg [.slice e.l.a e.l.n e.l.cap,ir e.to,ir e.e,ir e.at_].toArray
 pos:=dy
 len _:=rfl
 one a v h:=by grind[rN]
 nU _ _:=rfl
 nV h:=by cases h
instance:Deep fJ dZ where
 dr w s x:=∃(u:SV),s=(⟨u,x.to,x.e,x.at_⟩:dZ)/\DL w (jr u) x.l
 ext h e:=by
  obtain⟨B,rfl,E⟩:=h
  exact⟨B,rfl,E.ext e⟩
def lD{w:World}{u:dZ}{x:fJ}(h:n5 w u x):DL w (jr u.l) x.l:=by obtain⟨_,rfl,h⟩:=h;exact h
def qR(n:Int):List Int:=if n=0 then [15]else if n=1 then [14]else if n=2 then [10,11,12,13]else if n=3 then [5,6]else [7,8,9]
def D4:List ByteArray:=[⟨#[]⟩,⟨#[]⟩,⟨#[]⟩,⟨#[45]⟩,⟨#[33]⟩,⟨#[43]⟩,⟨#[45]⟩,⟨#[42]⟩,⟨#[47]⟩,⟨#[37]⟩,⟨#[61,61]⟩,⟨#[33,61]⟩,⟨#[60]⟩,⟨#[60,61]⟩,⟨#[38,38]⟩,⟨#[124,124]⟩]
def NG(k:Int):ByteArray:=(D4[k.toNat]?).getD ⟨#[]⟩
def gn(l:List bQ)(i e:Int):fJ:=⟨[],0,if (l.length:Int)<=i then 6 else e,nq l i⟩
abbrev asw(r:fJ)(w:World):=tu λv w'=>∃u:dZ,v=jr u/\lf (eC λw=>n5 w u r) w w'
def akO(l:List bQ)(rec:Int->Int->Int->Option fJ):Prop:=∀(lv:Value) (i d n:Int) (r:fJ) (w:World),cZ (λ_=>True) w lv l->rec i d n=some r->0<=i/\i<=l.length->0<=d/\d<=12->0<=n/\n<=5->
 Calls hH 258 [lv,ir i,ir d,ir n].toArray w (asw r w)/\(n=5->Calls hH 294 [lv,ir i,ir d].toArray w (asw r w))
structure jg(l:List bQ):Prop where
 n:l.length<=5000
 at_:∀x∈l,0<=x.at_/\x.at_<=1000000/\x.text.size<=1000000
def Vn(l:List bQ)(i:Int):Bool:=tT l i ⟨#[33]⟩||tT l i ⟨#[45]⟩
def pb(rec:Int->Int->Int->Option fJ)(l:List bQ)(i d:Int):Option fJ:=
 match (if (l.length:Int)<=i then none else l[i.toNat]?)with
 | none=>some (gn l i 6)
 | some t=>if ((Vn l i||tT l i ⟨#[40]⟩)&&decide (d=12))=true then some (gn l i 7)
  else if Vn l i=true then(rec (i+1) (d+1) 5).bind λx=>if x.l.length<=10000 then some (if x.e≠0 then x else {x with l:=[⟨if t.text=⟨#[45]⟩then 3 else 4,0,⟨#[]⟩,t.at_⟩]++x.l})else none
  else if tT l i ⟨#[40]⟩=true then(rec (i+1) (d+1) 0).bind λx=>some (if x.e≠0 then x else if tT l x.to ⟨#[41]⟩=true then {x with to:=x.to+1}else gn l x.to 5)
  else if t.kind=2 then some ⟨[⟨1,t.n,⟨#[]⟩,t.at_⟩],i+1,0,0⟩
  else if (decide (t.kind=1)&&gI t.text)=true then some ⟨[⟨2,0,t.text,t.at_⟩],i+1,0,0⟩
  else some (gn l i 5)
def Ge(l:List bQ)(to n:Int)(k:Nat):Int:=((qR n).take k).foldl (λop f=>if tT l to (NG f)=true then f else op) 0
def Kf(l:List bQ)(to n:Int):Int:=Ge l to n (qR n).length
theorem Ip{l:List bQ}{to n:Int}{k:Nat}{f:Int}(h:(qR n)[k]?=some f):Ge l to n (k+1)=if tT l to (NG f)=true then f else Ge l to n k:=by
 unfold Ge;rw[v7,h,K0,Gg];rfl
def wz(rec:Int->Int->Int->Option fJ)(l:List bQ)(d n:Int):Nat->fJ->Option fJ
 | 0,_=>none
 | k+1,x=>if x.e≠0 then some x else if Kf l x.to n=0 then some x else match (if 0<=x.to then l[x.to.toNat]? else none)with
  | none=>none
  | some t=>match rec (x.to+1) d (n+1)with
   | none=>none
   | some y=>if y.e≠0 then some y else if x.l.length+y.l.length<=10000 then
     (if n=2 then some ⟨[⟨Kf l x.to n,0,⟨#[]⟩,t.at_⟩]++x.l++y.l,y.to,0,0⟩else wz rec l d n k ⟨[⟨Kf l x.to n,0,⟨#[]⟩,t.at_⟩]++x.l++y.l,y.to,0,0⟩)else none
def Iq(l:List bQ):Nat->Int->Int->Int->Option fJ
 | 0,_,_,_=>none
 | k+1,i,d,n=>if n=5 then pb (Iq l k) l i d else(Iq l k i d (n+1)).bind (wz (Iq l k) l d n k)
def aal{n:Int}{k:Nat}{f:Int}(h:(qR n)[k]?=some f):5<=f/\f<=15:=by
 have u:=kO h
 unfold qR at u
 grind
section
variable {rec:Int->Int->Int->Option fJ}{l:List bQ}{i d n:Int}{r x y:fJ}{t:bQ}{k:Nat}
theorem QL(h:pb rec l i d=some r)(u:(l.length:Int)<=i):r=gn l i 6:=by
 unfold pb at h;grind
theorem NH(h:pb rec l i d=some r)(u:¬ (l.length:Int)<=i)(ht:l[i.toNat]?=some t)(hd:((Vn l i||tT l i ⟨#[40]⟩)&&decide (d=12))=true):r=gn l i 7:=by
 unfold pb at h;grind
theorem Vo(h:pb rec l i d=some r)(u:¬ (l.length:Int)<=i)(ht:l[i.toNat]?=some t)(hd:((Vn l i||tT l i ⟨#[40]⟩)&&decide (d=12))=false)(B:Vn l i=true) :
  ∃x,rec (i+1) (d+1) 5=some x/\x.l.length<=10000/\r=if x.e≠0 then x else {x with l:=[⟨if t.text=⟨#[45]⟩then 3 else 4,0,⟨#[]⟩,t.at_⟩]++x.l}:=by
 unfold pb at h;rw[ei u,ht]at h;dsimp only at h;rw[ei cD,ej B]at h
 cases hr:rec (i+1) (d+1) 5 with
 | none=>grind
 | some x=>
  grind
theorem NI(h:pb rec l i d=some r)(B:¬ (l.length:Int)<=i)(ht:l[i.toNat]?=some t)(hd:((Vn l i||tT l i ⟨#[40]⟩)&&decide (d=12))=false)(E:Vn l i=false)(u:tT l i ⟨#[40]⟩=true) :
  ∃x,rec (i+1) (d+1) 0=some x/\r=if x.e≠0 then x else if tT l x.to ⟨#[41]⟩=true then {x with to:=x.to+1}else gn l x.to 5:=by
 unfold pb at h;rw[ei B,ht]at h;dsimp only at h;rw[ei cD,ei cD,ej u]at h
 cases hr:rec (i+1) (d+1) 0 with
 | none=>grind
 | some x=>grind
theorem NJ(h:pb rec l i d=some r)(B:¬ (l.length:Int)<=i)(ht:l[i.toNat]?=some t)(hd:((Vn l i||tT l i ⟨#[40]⟩)&&decide (d=12))=false)(E:Vn l i=false)(u:tT l i ⟨#[40]⟩=false) :
  r=if t.kind=2 then⟨[⟨1,t.n,⟨#[]⟩,t.at_⟩],i+1,0,0⟩else if (decide (t.kind=1)&&gI t.text)=true then⟨[⟨2,0,t.text,t.at_⟩],i+1,0,0⟩else gn l i 5:=by
 unfold pb at h;grind
theorem QM(h:wz rec l d n k x=some r):∃j,k=j+1:=by
 cases k with
 | zero=>cases h
 | succ j=>grind
theorem ae8(h:wz rec l d n (k+1) x=some r)(u:x.e≠0):r=x:=by
 unfold wz at h;grind
theorem aam(h:wz rec l d n (k+1) x=some r)(B:¬ x.e≠0)(u:Kf l x.to n=0):r=x:=by
 unfold wz at h;grind
theorem aan(h:wz rec l d n (k+1) x=some r)(B:¬ x.e≠0)(u:¬ Kf l x.to n=0):∃t y,0<=x.to/\l[x.to.toNat]?=some t/\rec (x.to+1) d (n+1)=some y/\(y.e≠0->r=y)/\
  (¬ y.e≠0->x.l.length+y.l.length<=10000/\(n=2->r=⟨[⟨Kf l x.to n,0,⟨#[]⟩,t.at_⟩]++x.l++y.l,y.to,0,0⟩)/\(¬ n=2->wz rec l d n k ⟨[⟨Kf l x.to n,0,⟨#[]⟩,t.at_⟩]++x.l++y.l,y.to,0,0⟩=some r)):=by
 unfold wz at h;grind
theorem ahS(h:Iq l (k+1) i d 5=some r):pb (Iq l k) l i d=some r:=by grind[pb,Iq]
theorem asx(h:Iq l (k+1) i d n=some r)(u:¬ n=5):∃x,Iq l k i d (n+1)=some x/\wz (Iq l k) l d n k x=some r:=by
 unfold Iq at h;rw[ei u]at h
 cases hx:Iq l k i d (n+1)with
 | none=>grind
 | some x=>grind
end
def wA(l:List bQ)(i:Int):Option (List bU×Int×Int×Int):=if i<0 then some ([],0,1,0)else(Iq l 10000 i 0 0).bind λx=>
 if x.e≠0 then some ([],0,x.e,x.at_)else match zF x.l,l[i.toNat]? with
  | some t,some k=>if x.l.length<=10000 then(if 12<t.depth then some ([],0,7,k.at_)else if 40<x.l.length then some ([],0,2,k.at_)else some (x.l,x.to,0,0))else none
  | _,_=>none
def QN(n:Int):(qR n).length<=4:=by
 grind[qR]
def C295(n:Int)(w:World)(hn:0<=n/\n<=4):CR 295 [ir n] w (λv w'=>lf (bF v (qR n)) w w'):=by
 have u:=St.start w;refine fb Tryz.func295 ?_;refine bD ([15]:List Int) u cQ rfl rfl (dQ rfl) (λV _ u=>bD ([14]:List Int) u cQ rfl rfl (dQ rfl) λZ _ u=>bD ([10,11,12,13]:List Int) u cQ rfl rfl (dQ rfl) λLV _ u=>bD ([5,6]:List Int) u cQ rfl rfl (dQ rfl) λW _ u=>bD ([7,8,9]:List Int) u cQ rfl rfl (dQ rfl) λU _ u=>?_);obtain⟨G,rfl⟩:=u.p4.fK;obtain⟨J,rfl⟩:=u.p3.fK;obtain⟨I,rfl⟩:=u.p2.fK;obtain⟨O,rfl⟩:=u.p1.fK;obtain⟨M,rfl⟩:=u.fK;refine bD ([G,J,I,O,M]) u ld rfl rfl (dQ rfl) (λY _ u=>?_)
 have u:=(((((((((((u.ade (α:=Int)).p6).p1).EK).p5).p1).EK).p4).p1).EK).p3).p1;have u:=u.EK.p2.p1.EK;obtain rfl|rfl|rfl|rfl|rfl:n=0\/n=1\/n=2\/n=3\/n=4:=bL
 .have E:=u.AJ;exact dG u.p1 ld dy ee (λ_ B=>fM u.p1 dX B (show _=some G from rfl) (have u:=u.split;u.fresh))
 .have E:=u.AJ;exact dG u.p1 ld dy ee (λ_ B=>fM u.p1 dX B (show _=some J from rfl) (have u:=u.split.drop.split;u.fresh))
 .have E:=u.AJ;exact dG u.p1 ld dy ee (λ_ B=>fM u.p1 dX B (show _=some I from rfl) (have u:=u.split.drop.split.drop.split;u.fresh))
 .have E:=u.AJ;exact dG u.p1 ld dy ee (λ_ B=>fM u.p1 dX B (show _=some O from rfl) (have u:=u.split.drop.split.drop.split.drop.split;u.fresh))
 have E:=u.AJ;exact dG u.p1 ld dy ee (λ_ B=>fM u.p1 dX B (show _=some M from rfl) (have u:=u.split.drop.split.drop.split.drop.split.drop.split;u.fresh))
def C296(k:Int)(w:World)(M:0<=k/\k<=15):CR 296 [ir k] w (λv w'=>v=.string (NG k)/\Ext w w'):=by
 have u:=St.start w;refine fb Tryz.func296 ?_;refine bD D4 u iu rfl rfl (dQ rfl) (λI _ u=>?_);have J:D4.length=16:=rfl;obtain⟨G,E⟩:=gx D4 (i:=k.toNat) bL;refine dG u iu bL bL (λ_ B=>fM u gv B E ?_);refine⟨?_,u.drop.aF⟩;unfold NG;rw[E];rfl
def C320(lv:Value)(l:List bQ)(i e:Int)(w:World)(B:cZ (λ_=>True) w lv l)(E:jg l):CR 320 [lv,ir i,ir e] w (λv w'=>∃sh:dZ,v=jr sh/\lf (eC λw=>n5 w sh (gn l i e)) w w'):=by
 have V:=E.n;have O:l.length<=1000000:=bL
 have M:=E.at_;have u:=St.start w;refine acX _ _ _ _ _ ?_;unfold S320;refine aQ u tH (λU G u=>have u:=u.enc (cs':=kp (⟨cG,0,0,0⟩:dZ)) rfl;⟨λJ w'=>J=ir (if (l.length:Int)<=i then 6 else e)/\G=w',aI fI (B.ext u.aF) (cO (aC (λ_=>⟨by rw[ej bL],rfl⟩) λ_=>⟨by rw[ei bL],rfl⟩)),?_⟩);rintro _ _ ⟨rfl,I⟩ _;subst I;exact aV Hl u (C214 _ l i _ (B.ext u.aF) O M) (λ_ _ u=>pop (O7 _ _) (aM (x:=(⟨cG,0,(if (l.length:Int)<=i then 6 else e),(nq l i)⟩:dZ)) u fW rfl rfl λ_ u=>aE fW u.At (have u:=u.gE (Φ:=(λw=>n5 w (⟨cG,0,(if (l.length:Int)<=i then 6 else e),(nq l i)⟩:dZ) (⟨[],0,(if (l.length:Int)<=i then 6 else e),(nq l i)⟩:fJ))) (λ_=>⟨_,rfl,DL.nil _⟩);have u:=u.p1.drop;⟨_,rfl,u.fresh⟩)))
def C294(l:List bQ)(rec:Int->Int->Int->Option fJ)(lv:Value)(i d:Int)(r:fJ)(w:World)(G:cZ (λ_=>True) w lv l)(Z:jg l)(HR:akO l rec)(h0:0<=i/\i<=l.length)(hd:0<=d/\d<=12)(hr:pb rec l i d=some r):CR 294 [lv,ir i,ir d] w (λv w'=>∃sh:dZ,v=jr sh/\lf (eC λw=>n5 w sh r) w w'):=by
 have D1:=Z.n;have hn:l.length<=1000000:=bL
 have px:=Z.at_;have u:=St.start w;refine acT _ _ _ _ _ ?_;unfold S294;refine aQ u tH (λQr _ u=>have u:=u.enc (cs':=kp (⟨cG,0,0,0⟩:dZ)) rfl;aI fI (G.ext u.aF) (cO (aC (λeb=>?_) λeb=>?_)))
 .refine dR R0 (C320 _ l i 6 _ (G.ext u.aF) Z) ?_;rintro _ _ ⟨akR,rfl,O⟩;have u:=u.made O;obtain⟨Br,QO,_⟩:=u.eC;subst QO;refine aM (x:=(⟨Br,(gn l i 6).to,(gn l i 6).e,(gn l i 6).at_⟩:dZ)) u.p1 fW rfl rfl (λ_ u=>aE fW u.At ?_);have I:r=(⟨(gn l i 6).l,(gn l i 6).to,(gn l i 6).e,(gn l i 6).at_⟩:fJ):=QL hr bL;rw[I];have u:=u.p1.dH (Ψ:=(λw=>n5 w (⟨Br,(gn l i 6).to,(gn l i 6).e,(gn l i 6).at_⟩:dZ) (⟨(gn l i 6).l,(gn l i 6).to,(gn l i 6).e,(gn l i 6).at_⟩:fJ))) (λ_ h=>⟨_,rfl,lD h⟩)
  have u:=u.p1.drop;exact⟨_,rfl,u.fresh⟩
 obtain⟨t,ht⟩:=gx l (i:=i.toNat) bL;have hta:=px t (kO ht);refine⟨λW w'=>W=.bool (Vn l i)/\St w aX [bX Qr (kp (⟨cG,0,0,0⟩:dZ))] w',aV vZ u (C209 _ l i (j0 #[33]) _ (G.ext u.aF) hn) (λ_ _ u=>aW (λik=>⟨vb (by unfold Vn;rw[ik];rfl),u⟩) λik=>aV vZ u (C209 _ l i (j0 #[45]) _ (G.ext u.aF) hn) λ_ _ u=>⟨vb (by unfold Vn;rw[ik];rfl),u⟩),?_⟩;rintro _ _ ⟨rfl,u⟩ _;refine aV vZ u (C209 _ l i (j0 #[40]) _ (G.ext u.aF) hn) (λ_ he u=>⟨λW w'=>W=.bool ((Vn l i||tT l i (j0 #[40]))&&decide (d=12))/\St w aX [bX Qr (kp (⟨cG,0,0,0⟩:dZ))] w',aW (λE=>aG ⟨vb (by first|(rw[E];simp;done)|(rw[E,M];simp;done)|(rw[E];rfl)|(rw[E,M];rfl)),u⟩) (λE=>aW (λM=>aG ⟨vb (by first|(rw[E];simp;done)|(rw[E,M];simp;done)|(rw[E];rfl)|(rw[E,M];rfl)),u⟩) λM=>⟨vb (by first|(rw[E];simp;done)|(rw[E,M];simp;done)|(rw[E];rfl)|(rw[E,M];rfl)),u⟩),?_⟩)
 rintro _ _ ⟨rfl,u⟩ _;refine aW (λU=>?_) (λU=>aW (λE=>?_) λE=>aW (λM=>?_) λM=>?_)
 .refine dR R0 (C320 _ l i 7 _ (G.ext u.aF) Z) ?_;rintro _ _ ⟨azq,rfl,O⟩;have u:=u.made O;obtain⟨Tz,akS,_⟩:=u.eC;subst akS;refine aM (x:=(⟨Tz,(gn l i 7).to,(gn l i 7).e,(gn l i 7).at_⟩:dZ)) u.p1 fW rfl rfl (λ_ u=>aE fW u.At ?_);have I:r=(⟨(gn l i 7).l,(gn l i 7).to,(gn l i 7).e,(gn l i 7).at_⟩:fJ):=NH hr bL ht U;rw[I];have u:=u.p1.dH (Ψ:=(λw=>n5 w (⟨Tz,(gn l i 7).to,(gn l i 7).e,(gn l i 7).at_⟩:dZ) (⟨(gn l i 7).l,(gn l i 7).to,(gn l i 7).e,(gn l i 7).at_⟩:fJ))) (λ_ h=>⟨_,rfl,lD h⟩)
  have u:=u.p1.drop;exact⟨_,rfl,u.fresh⟩
 .refine aJ bL (aJ bL ?_);have azr:¬ d=12:=λh=>by rw[E,ew h]at U;cases U
  obtain⟨B,V,hxl,J⟩:=Vo hr bL ht U E;refine dR agC ((HR _ (i+1) (d+1) 5 B _ (G.ext u.aF) V bL bL bL).2 rfl) ?_;rintro _ _ ⟨azs,rfl,O⟩;have u:=u.made O;obtain⟨D5,akT,_⟩:=u.eC;subst akT;refine aQ u tH (λB9 _ u=>have u:=u.enc (cs':=kp (⟨cG,0,0,0⟩:dZ)) rfl;aM (x:=(⟨D5,B.to,B.e,B.at_⟩:dZ)) u fW rfl rfl λw13 u=>aA uJ (aB (v:=ir B.e) jE u.hb rfl (bW (aC (λwg=>?_) λwg=>⟨λW w'=>W=ir (if t.text=j0 #[45]then 3 else 4)/\w13=w',aK fI (G.ext u.aF) bL ht (λ_ AS=>bT t.text nB AS rfl rfl λ_ Nf=>aE gv Nf (jz (aC (λHI=>⟨by rw[ej HI],rfl⟩) λHI=>⟨by rw[ei HI],rfl⟩))),?_⟩))))
  .refine aE fW u.At (aM (x:=(⟨D5,B.to,B.e,B.at_⟩:dZ)) u.p2 fW rfl rfl λ_ u=>aE fW u.At ?_);have I:r=(⟨B.l,B.to,B.e,B.at_⟩:fJ):=J.trans (ej wg);rw[I];have u:=u.p2.dH (Ψ:=(λw=>n5 w (⟨D5,B.to,B.e,B.at_⟩:dZ) (⟨B.l,B.to,B.e,B.at_⟩:fJ))) (λ_ h=>⟨_,rfl,lD h⟩);have u:=u.p1.drop.p1.drop;exact⟨_,rfl,u.fresh⟩
  rintro _ _ ⟨rfl,hw⟩ _;subst hw;obtain⟨op,ahT⟩:∃op,op=(if t.text=j0 #[45]then(3:Int)else 4):=⟨_,rfl⟩;rw[<- ahT];refine aK fI (G.ext u.aF) bL ht (λ_ FN=>bT t.at_ lI FN rfl rfl λ_ L7=>aE bO L7 (pop (EF _ _) (bD ([(⟨op,0,(j0 #[]),t.at_⟩:bU)]) u gU rfl rfl (dQ rfl) λs_x66 _ u=>aA sd (aB (v:=jr (D5:SV)) jo u.p1.hb rfl ?_))));have akU:=(DL.flat (lD u.p2.eC));refine bJ u gU akU (by simp;omega) dy (λahF _ u=>aA sd ?_);obtain⟨QP,rfl⟩:=u.fK;refine aR u.p1 jo (dQ rfl) (rfl) (λ_ u=>have u:=u.enc (cs':=kp (⟨QP,B.to,B.e,B.at_⟩:dZ)) rfl;aE fW u.At (aM (x:=(⟨QP,B.to,B.e,B.at_⟩:dZ)) u.p3 fW rfl rfl λ_ u=>aE fW u.At ?_))
  have I:r=(⟨([(⟨op,0,(j0 #[]),t.at_⟩:bU)]++B.l),B.to,B.e,B.at_⟩:fJ):=by rw[J,ei wg,<- ahT]
  rw[I];have u:=u.p2.freeze.dH (Ψ:=(λw=>n5 w (⟨QP,B.to,B.e,B.at_⟩:dZ) (⟨([(⟨op,0,(j0 #[]),t.at_⟩:bU)]++B.l),B.to,B.e,B.at_⟩:fJ))) (λ_ h=>⟨_,rfl,DL.ki h⟩);have u:=u.p1.drop.p1.drop.p1.drop;exact⟨_,rfl,u.fresh⟩
 .refine aJ bL (aJ bL ?_);have azr:¬ d=12:=λh=>by rw[E,M,ew h]at U;cases U
  obtain⟨B,V,J⟩:=NI hr bL ht U E M;refine dR RX ((HR _ (i+1) (d+1) 0 B _ (G.ext u.aF) V bL bL bL).1) ?_;rintro _ _ ⟨azt,rfl,O⟩;have u:=u.made O;obtain⟨Y,akV,_⟩:=u.eC;subst akV;refine aQ u tH (λXD _ u=>have u:=u.enc (cs':=kp (⟨cG,0,0,0⟩:dZ)) rfl;aM (x:=(⟨Y,B.to,B.e,B.at_⟩:dZ)) u fW rfl rfl λ_ u=>aA uJ (aB (v:=ir B.e) jE u.hb rfl (bW (aC (λTA=>?_) λTA=>aA oN (aB (v:=ir B.to) bO u.hb rfl (aV vZ u (C209 _ l B.to (j0 #[41]) _ (G.ext u.aF) hn) λ_ he u=>bN (aW (λTB=>?_) λTB=>?_)))))))
  .refine aE fW u.At (aM (x:=(⟨Y,B.to,B.e,B.at_⟩:dZ)) u.p2 fW rfl rfl λ_ u=>aE fW u.At ?_);have I:r=(⟨B.l,B.to,B.e,B.at_⟩:fJ):=J.trans (ej TA);rw[I];have u:=u.p2.dH (Ψ:=(λw=>n5 w (⟨Y,B.to,B.e,B.at_⟩:dZ) (⟨B.l,B.to,B.e,B.at_⟩:fJ))) (λ_ h=>⟨_,rfl,lD h⟩);have u:=u.p1.drop.p1.drop;exact⟨_,rfl,u.fresh⟩
  .refine aA oN (aB (v:=ir B.to) bO u.hb rfl (dR R0 (C320 _ l B.to 5 _ (G.ext u.aF) Z) ?_));rintro _ _ ⟨azu,rfl,O⟩;have u:=u.made O;obtain⟨TC,akW,_⟩:=u.eC;subst akW;refine aM (x:=(⟨TC,(gn l B.to 5).to,(gn l B.to 5).e,(gn l B.to 5).at_⟩:dZ)) u.p3 fW rfl rfl (λ_ u=>aE fW u.At ?_);have I:r=(⟨(gn l B.to 5).l,(gn l B.to 5).to,(gn l B.to 5).e,(gn l B.to 5).at_⟩:fJ):=J.trans ((ei TA).trans (ei (by simpa using TB)));rw[I];have u:=u.p1.dH (Ψ:=(λw=>n5 w (⟨TC,(gn l B.to 5).to,(gn l B.to 5).e,(gn l B.to 5).at_⟩:dZ) (⟨(gn l B.to 5).l,(gn l B.to 5).to,(gn l B.to 5).e,(gn l B.to 5).at_⟩:fJ))) (λ_ h=>⟨_,rfl,lD h⟩)
   have u:=u.p1.drop.p1.drop.p1.drop;exact⟨_,rfl,u.fresh⟩
  refine aA oN (aB (v:=ir B.to) bO u.hb rfl ?_);have tA:=sS (l:=l) (i:=B.to) (t:=j0 #[41]) (by simpa using TB);refine aJ bL (aA oN (aR u bO (dQ rfl) (rfl) λ_ u=>have u:=u.enc (cs':=kp (⟨Y,(B.to+1),B.e,B.at_⟩:dZ)) rfl;aE fW u.At (aM (x:=(⟨Y,(B.to+1),B.e,B.at_⟩:dZ)) u.p2 fW rfl rfl λ_ u=>aE fW u.At ?_)));have I:r=(⟨B.l,(B.to+1),B.e,B.at_⟩:fJ):=J.trans ((ei TA).trans (ej (by simpa using TB)));rw[I];have u:=u.p2.dH (Ψ:=(λw=>n5 w (⟨Y,(B.to+1),B.e,B.at_⟩:dZ) (⟨B.l,(B.to+1),B.e,B.at_⟩:fJ))) (λ_ h=>⟨_,rfl,lD h⟩)
  have u:=u.p1.drop.p1.drop;exact⟨_,rfl,u.fresh⟩
 have YG:=NJ hr bL ht U E M;refine aK fI (G.ext u.aF) bL ht (λ_ akX=>bT t.kind lH akX rfl rfl λ_ akY=>aE bO akY (aG (aC (λKg=>?_) λKg=>⟨λW w'=>W=.bool (decide (t.kind=1)&&gI t.text)/\St w aX [bX Qr (kp (⟨cG,0,0,0⟩:dZ))] w',aK fI (G.ext u.aF) bL ht (λ_ akZ=>bT t.kind lH akZ rfl rfl λ_ ak0=>aE bO ak0 (aG (aC (λzP=>aK fI (G.ext u.aF) bL ht λ_ ak1=>bT t.text nB ak1 rfl rfl λ_ ak2=>aE gv ak2 (aV uz u (C211 _ _ bL) λ_ _ u=>⟨vb (by rw[ew zP];rfl),u⟩)) λzP=>⟨vb (by rw[ez zP];rfl),u⟩))),?_⟩)))
 .refine aK fI (G.ext u.aF) bL ht (λ_ ak3=>bT t.n rZ ak3 rfl rfl λ_ ak4=>have u:=u.drew;aE bO ak4 (aK fI (G.ext u.aF) bL ht λ_ ak5=>bT t.at_ lI ak5 rfl rfl λ_ PI=>aE bO PI (pop (Jp _ _ _) (aJ bL (bD ([(⟨1,t.n,(j0 #[]),t.at_⟩:bU)]) u gU rfl rfl (dQ rfl) λazv _ u=>?_)))));obtain⟨TD,rfl⟩:=u.fK;refine pop (zA _ _ _ _) (aM (x:=(⟨TD,(i+1),0,0⟩:dZ)) u.p1 fW rfl rfl λ_ u=>aE fW u.At ?_);have I:r=(⟨[(⟨1,t.n,(j0 #[]),t.at_⟩:bU)],(i+1),0,0⟩:fJ):=YG.trans (ej Kg)
  rw[I];have u:=u.p1.freeze.dH (Ψ:=(λw=>n5 w (⟨TD,(i+1),0,0⟩:dZ) (⟨[(⟨1,t.n,(j0 #[]),t.at_⟩:bU)],(i+1),0,0⟩:fJ))) (λ_ h=>⟨_,rfl,DL.ki h⟩);have u:=u.p1.drop;exact⟨_,rfl,u.fresh⟩
 rintro _ _ ⟨rfl,u⟩ _;refine aW (λQQ=>?_) (λQQ=>?_)
 .refine aK fI (G.ext u.aF) bL ht (λ_ ak6=>bT t.text nB ak6 rfl rfl λ_ ak7=>have u:=u.drew;aE gv ak7 (aK fI (G.ext u.aF) bL ht λ_ ak8=>bT t.at_ lI ak8 rfl rfl λ_ PJ=>aE bO PJ (pop (Jq _ _ _) (aJ bL (bD ([(⟨2,0,t.text,t.at_⟩:bU)]) u gU rfl rfl (dQ rfl) λazw _ u=>?_)))));obtain⟨TE,rfl⟩:=u.fK;refine pop (zA _ _ _ _) (aM (x:=(⟨TE,(i+1),0,0⟩:dZ)) u.p1 fW rfl rfl λ_ u=>aE fW u.At ?_);have I:r=(⟨[(⟨2,0,t.text,t.at_⟩:bU)],(i+1),0,0⟩:fJ):=YG.trans ((ei Kg).trans (ej QQ))
  rw[I];have u:=u.p1.freeze.dH (Ψ:=(λw=>n5 w (⟨TE,(i+1),0,0⟩:dZ) (⟨[(⟨2,0,t.text,t.at_⟩:bU)],(i+1),0,0⟩:fJ))) (λ_ h=>⟨_,rfl,DL.ki h⟩);have u:=u.p1.drop;exact⟨_,rfl,u.fresh⟩
 refine dR R0 (C320 _ l i 5 _ (G.ext u.aF) Z) ?_;rintro _ _ ⟨auN,rfl,O⟩;have u:=u.made O;obtain⟨NL,afa,_⟩:=u.eC;subst afa;refine aM (x:=(⟨NL,(gn l i 5).to,(gn l i 5).e,(gn l i 5).at_⟩:dZ)) u.p1 fW rfl rfl (λ_ u=>aE fW u.At ?_);have I:r=(⟨(gn l i 5).l,(gn l i 5).to,(gn l i 5).e,(gn l i 5).at_⟩:fJ):=YG.trans ((ei Kg).trans (ei (by simpa using QQ)));rw[I];have u:=u.p1.dH (Ψ:=(λw=>n5 w (⟨NL,(gn l i 5).to,(gn l i 5).e,(gn l i 5).at_⟩:dZ) (⟨(gn l i 5).l,(gn l i 5).to,(gn l i 5).e,(gn l i 5).at_⟩:fJ))) (λ_ h=>⟨_,rfl,lD h⟩)
 have u:=u.p1.drop;exact⟨_,rfl,u.fresh⟩
theorem aao{l:List bQ}{i:Int}{R:List bU×Int×Int×Int}(h:wA l i=some R)(hi:¬ i<0):∃x,Iq l 10000 i 0 0=some x/\
  (if x.e≠0 then some ([],0,x.e,x.at_)else match zF x.l,l[i.toNat]? with
  | some t,some k=>if x.l.length<=10000 then(if 12<t.depth then some ([],0,7,k.at_)else if 40<x.l.length then some ([],0,2,k.at_)else some (x.l,x.to,0,0))else none
  | _,_=>none)=some R:=by
 unfold wA at h;rw[ei hi]at h
 cases hx:Iq l 10000 i 0 0 with
 | none=>grind
 | some x=>grind
theorem QR{x:fJ}{o:Option bQ}{R:List bU×Int×Int×Int}(h:(match zF x.l,o with
  | some t,some k=>if x.l.length<=10000 then(if 12<t.depth then some ([],0,7,k.at_)else if 40<x.l.length then some ([],0,2,k.at_)else some (x.l,x.to,0,0))else none
  | _,_=>none)=some R):∃t k,zF x.l=some t/\o=some k/\x.l.length<=10000/\(if 12<t.depth then some ([],0,7,k.at_)else if 40<x.l.length then some ([],0,2,k.at_)else some (x.l,x.to,0,0))=some R:=by
 grind
def C258(l:List bQ)(j:Nat)(lv:Value)(i d n:Int)(r:fJ)(w:World)(O:cZ (λ_=>True) w lv l)(hk:jg l)(HR:akO l (Iq l j))(h0:0<=i/\i<=l.length)(hd:0<=d/\d<=12)(hnn:0<=n/\n<=5)(hr:Iq l (j+1) i d n=some r):CR 258 [lv,ir i,ir d,ir n] w (λv w'=>∃sh:dZ,v=jr sh/\lf (eC λw=>n5 w sh r) w w'):=by
 have D1:=hk.n;have hn:l.length<=1000000:=bL
 have px:=hk.at_;have u:=St.start w;refine acP _ _ _ _ _ _ ?_;unfold S258;refine aQ u tH (λPd _ u=>have u:=u.enc (cs':=kp (⟨cG,0,0,0⟩:dZ)) rfl;aG (aC (λjk=>?_) λjk=>?_))
 .refine dR agC (C294 l (Iq l j) _ i d r _ (O.ext u.aF) hk HR h0 hd (ahS (by rw[jk]at hr;exact hr))) ?_;rintro _ _ ⟨akR,rfl,G⟩;have u:=u.made G;obtain⟨Br,QO,_⟩:=u.eC;subst QO;refine aM (x:=(⟨Br,r.to,r.e,r.at_⟩:dZ)) u.p1 fW rfl rfl (λ_ u=>aE fW u.At ?_);have B:r=(⟨r.l,r.to,r.e,r.at_⟩:fJ):=rfl;rw[B];have u:=u.p1.dH (Ψ:=(λw=>n5 w (⟨Br,r.to,r.e,r.at_⟩:dZ) (⟨r.l,r.to,r.e,r.at_⟩:fJ))) (λ_ h=>⟨_,rfl,lD h⟩);have u:=u.p1.drop;exact⟨_,rfl,u.fresh⟩
 obtain⟨J,hx1,azx⟩:=asx hr jk;refine aJ bL (dR RX ((HR _ i d (n+1) J _ (O.ext u.aF) hx1 h0 hd bL).1) ?_);rintro _ _ ⟨azy,rfl,G⟩;have u:=u.made G;obtain⟨Kh,ak9,_⟩:=u.eC;subst ak9;refine aQ u tH (λB9 _ u=>have u:=u.enc (cs':=kp (⟨cG,0,0,0⟩:dZ)) rfl;aM (x:=(⟨Kh,J.to,J.e,J.at_⟩:dZ)) u fW rfl rfl λ_ u=>?_);have u:=u.p2.p2.p2.p1.dH (Ψ:=λw=>DL w (jr Kh) J.l) (λ_ h=>lD h);have u:=u.p2.p1.p2;refine⟨λV w'=>∃(x:fJ) (g:SV),wz (Iq l j) l d n V x=some r/\St w aX [bX B9 (kp (⟨g,x.to,x.e,x.at_⟩:dZ)),eC (λw=>DL w (jr g) x.l),bX Pd (kp (⟨cG,0,0,0⟩:dZ))] w',⟨j,J,Kh,azx,u⟩,?_⟩
 rintro V _ ⟨x,g,E,u⟩ _;obtain⟨j2,rfl⟩:=QM E;refine aA uJ (aB (v:=ir x.e) jE u.hb rfl (aG (aC (λFV=>?_) λFV=>?_)))
 .have u:=u.p2.p2.p2;refine⟨λV o kk w'=>∃k:Nat,o=ir (Ge l x.to n k)/\kk=ir (k:Int)/\V=(qR n).length-k/\k<=(qR n).length/\St w aX [bX B9 (kp (⟨g,x.to,x.e,x.at_⟩:dZ)),eC (λw=>DL w (jr g) x.l),bX Pd (kp (⟨cG,0,0,0⟩:dZ))] w',⟨_,0,rfl,rfl,rfl,l2 _,u⟩,?_⟩;rintro V _ _ _ ⟨k,rfl,rfl,rfl,Ca,u⟩ _;have hfl4:=QN n;refine dB W3 u (C295 n _ bL) (λx31 _ G u=>aI cQ u.dS (aN (aC (λsD=>⟨λjv w'=>jv=ir (Ge l x.to n (k+1))/\St w aX [bX B9 (kp (⟨g,x.to,x.e,x.at_⟩:dZ)),eC (λw=>DL w (jr g) x.l),bX Pd (kp (⟨cG,0,0,0⟩:dZ))] w',?_,?_⟩) λsD=>?_)))
  .refine aA oN (have u:=u.drew;aB (v:=ir x.to) bO u.p1.hb rfl (dB W3 u (C295 n _ bL) λx40 _ G u=>?_));refine⟨aH bO (u.p2.hb.cell rfl),?_⟩;obtain⟨Gf,U⟩:=gx (qR n) (i:=(k:Int).toNat) bL;refine dG u cQ bL bL (λ_ NM=>fM u bO NM U ?_);have hfb:=aal U;refine aV aoq u (C296 Gf _ bL) (λ_ he u=>?_);refine⟨aH bO (u.p2.hb.cell rfl),?_⟩;exact aV vZ u (C209 _ l x.to (NG Gf) _ (O.ext u.aF) hn) (λ_ _ u=>aW (λMH=>dB W3 u (C295 n _ bL) λ_ _ _ u=>dG u cQ bL bL λ_ Ft=>fM u bO Ft U (have u:=u.drop.drop.drop.p2.p2.p2;⟨by rw[Ip (k:=k) U,ej MH]<;>rfl,u⟩)) λMH=>have u:=u.drop.drop.p2.p2.p2;⟨by rw[Ip (k:=k) U,ei (by simpa using MH)]<;>rfl,u⟩)
  .rintro _ _ ⟨rfl,u⟩ _;exact aJ bL ⟨_,bL,k+1,rfl,rfl,rfl,bL,u⟩
  have Y:Ge l x.to n k=Kf l x.to n:=by unfold Kf;rw[show k=(qR n).length from bL]
  refine aG (aC (λuX=>?_) λuX=>?_)
  .refine aE fW u.p1.At (aM (x:=(⟨g,x.to,x.e,x.at_⟩:dZ)) u.p3 fW rfl rfl λ_ u=>aE fW u.At ?_);have B:r=(⟨x.l,x.to,x.e,x.at_⟩:fJ):=aam (x:=x) E bL (by rw[<- Y];exact uX);rw[B];have u:=u.p3.dH (Ψ:=(λw=>n5 w (⟨g,x.to,x.e,x.at_⟩:dZ) (⟨x.l,x.to,x.e,x.at_⟩:fJ))) (λ_ h=>⟨_,rfl,id h⟩);have u:=u.p1.drop.p1.drop.p1.drop;exact⟨_,rfl,u.fresh⟩
  obtain⟨t,y,h0t,ht,hy,hye,I⟩:=aan E bL (by rw[<- Y];exact uX);have Hu:=(kE.1 ht).1;refine aA oN (aB (v:=ir x.to) bO u.p1.hb rfl (aJ bL (aJ bL (dR RX ((HR _ (x.to+1) d (n+1) y _ (O.ext u.aF) hy bL hd bL).1) ?_))));rintro _ _ ⟨azA,rfl,G⟩;have u:=u.made G;obtain⟨Z,alb,_⟩:=u.eC;subst alb;refine aQ u tH (λb_y12 _ u=>have u:=u.enc (cs':=kp (⟨cG,0,0,0⟩:dZ)) rfl;aM (x:=(⟨Z,y.to,y.e,y.at_⟩:dZ)) u fW rfl rfl λ_ u=>aA uJ (aB (v:=ir y.e) jE u.hb rfl (bW (aC (λuY=>?_) λuY=>?_))))
  .refine aE fW u.At (aM (x:=(⟨Z,y.to,y.e,y.at_⟩:dZ)) u.p5 fW rfl rfl λ_ u=>aE fW u.At ?_);have B:r=(⟨y.l,y.to,y.e,y.at_⟩:fJ):=hye uY;rw[B];have u:=u.p2.dH (Ψ:=(λw=>n5 w (⟨Z,y.to,y.e,y.at_⟩:dZ) (⟨y.l,y.to,y.e,y.at_⟩:fJ))) (λ_ h=>⟨_,rfl,lD h⟩);have u:=u.p1.drop.p1.drop.p1.drop.p1.drop.p1.drop;exact⟨_,rfl,u.fresh⟩
  refine aA oN (aB (v:=ir x.to) bO u.p3.hb rfl (aK fI (O.ext u.aF) bL ht λ_ YX=>bT t.at_ lI YX rfl rfl λ_ asA=>aE bO asA (pop (EF _ _) (bD ([(⟨(Ge l x.to n k),0,(j0 #[]),t.at_⟩:bU)]) u gU rfl rfl (dQ rfl) λasB _ u=>aA sd (aB (v:=jr (g:SV)) jo u.p4.hb rfl ?_)))));have HC:=(I bL).1;have alc:=(DL.flat (id u.p5.eC));refine bJ u gU alc (by simp;omega) dy (λaqY _ u=>aA sd (aB (v:=jr (Z:SV)) jo u.p1.hb rfl ?_));have ald:=(DL.flat (lD u.p2.eC))
  refine bJ u gU ald (by simp;omega) dy (λs_x82 _ u=>aA oN (aB (v:=ir y.to) bO u.p1.hb rfl ?_));obtain⟨W,rfl⟩:=u.fK;refine pop (zA _ _ _ _) (aM (x:=(⟨W,y.to,0,0⟩:dZ)) u.p4 fW rfl rfl λ_ u=>aG (aC (λFA=>?_) λFA=>?_))
  .refine aE fW u.At (aM (x:=(⟨W,y.to,0,0⟩:dZ)) u.p6 fW rfl rfl λ_ u=>aE fW u.At ?_);have B:r=(⟨(([(⟨(Ge l x.to n k),0,(j0 #[]),t.at_⟩:bU)]++x.l)++y.l),y.to,0,0⟩:fJ):=((I bL).2.1 FA).trans (by rw[<- Y]);rw[B];have u:=u.p2.freeze.dH (Ψ:=(λw=>n5 w (⟨W,y.to,0,0⟩:dZ) (⟨(([(⟨(Ge l x.to n k),0,(j0 #[]),t.at_⟩:bU)]++x.l)++y.l),y.to,0,0⟩:fJ))) (λ_ h=>⟨_,rfl,DL.ki h⟩);have u:=u.p1.drop.p1.drop.p1.drop.p1.drop.p1.drop.p1.drop;exact⟨_,rfl,u.fresh⟩
  have u:=u.p1.freeze.dH (Ψ:=λw=>DL w (jr W) ([(⟨Ge l x.to n k,0,j0 #[],t.at_⟩:bU)]++x.l++y.l)) (λ_ h=>DL.ki h);have u:=u.p2.drop.p2.drop.p2.drop.p2.drop.p2.p1.p2;have M:=(I bL).2.2 FA;rw[<- Y]at M;exact⟨_,bL,⟨_,_,_,_⟩,W,M,u⟩
 refine aE fW u.At (aM (x:=(⟨g,x.to,x.e,x.at_⟩:dZ)) u.p2 fW rfl rfl λ_ u=>aE fW u.At ?_);have B:r=(⟨x.l,x.to,x.e,x.at_⟩:fJ):=ae8 (x:=x) E bL;rw[B];have u:=u.p2.dH (Ψ:=(λw=>n5 w (⟨g,x.to,x.e,x.at_⟩:dZ) (⟨x.l,x.to,x.e,x.at_⟩:fJ))) (λ_ h=>⟨_,rfl,id h⟩);have u:=u.p1.drop.p1.drop;exact⟨_,rfl,u.fresh⟩
theorem ale{l:List bQ}(B:jg l):∀j,akO l (Iq l j)
 | 0=>λlv i d n r w E u=>by cases u
 | j+1=>λlv i d n r w E u G hd I=>⟨C258 l j lv i d n r w E B (ale B j) G hd I u,λh5=>by subst h5;exact C294 l (Iq l j) lv i d r w E B (ale B j) G hd (ahS u)⟩
def C213(l:List bQ)(lv:Value)(i:Int)(R:List bU×Int×Int×Int)(w:World)(Y:cZ (λ_=>True) w lv l)(Z:jg l)(ZP:i<=l.length)(I:wA l i=some R):CR 213 [lv,ir i] w (λv w'=>∃sv:SV,v=.tuple #[jr sv,ir R.2.1,ir R.2.2.1,ir R.2.2.2]/\lf (eC λw=>DL w (jr sv) R.1) w w'):=by
 have D1:=Z.n;have hn:l.length<=1000000:=bL
 have px:=Z.at_;have u:=St.start w;refine pj Tryz.func213 (pl:=awa) ?_;refine aN (aC (λfZ=>?_) λfZ=>?_)
 .have B:R=([],0,1,0):=by
   unfold wA at I;rw[ej fZ]at I;exact(ob.inj I).symm
  rw[B];exact⟨cG,rfl,(u.gE (Φ:=λw=>DL w (jr (cG:SV)) ([]:List bU)) λw=>DL.nil w).fresh⟩
 obtain⟨x,hx,O⟩:=aao I bL;refine dR RX ((ale Z 10000 _ i 0 0 x _ (Y.ext u.aF) hx bL bL bL).1) ?_;rintro _ _ ⟨azB,rfl,cE⟩;have u:=u.made cE;obtain⟨E,U,_⟩:=u.eC;subst U;refine aQ u tH (λPd _ u=>have u:=u.enc (cs':=kp (⟨cG,0,0,0⟩:dZ)) rfl;aM (x:=(⟨E,x.to,x.e,x.at_⟩:dZ)) u fW rfl rfl λ_ u=>aA uJ (aB (v:=ir x.e) jE u.hb rfl (bW (aC (λV=>?_) λV=>?_))))
 .refine aA uJ (have u:=u.drew;aB (v:=ir x.e) jE u.hb rfl (aA Xi (aB (v:=ir x.at_) bO u.hb rfl ?_)))
  have B:R=([],0,x.e,x.at_):=by
   rw[ej V]at O;exact(ob.inj O).symm
  rw[B];exact⟨cG,rfl,(u.gE (Φ:=λw=>DL w (jr (cG:SV)) ([]:List bU)) λw=>DL.nil w).fresh⟩
 rw[ei V]at O;obtain⟨tr,M,W,HS,hxl,G⟩:=QR O;have htki:=(kE.1 HS).1;obtain⟨hwf,td⟩:=vC W;have hAt:BO x.l 0 tr:=⟨bL,hwf,[],by simpa using td⟩;refine aA sd (aB (v:=jr (E:SV)) jo u.hb rfl (aV WX u (C252 _ x.l 0 tr (tr.size+1) _ (DL.flat (lD u.p1.eC)) bL hAt bL) λ_ he u=>cL (aC (λJ=>?_) λJ=>aA sd (aB (v:=jr (E:SV)) jo u.hb rfl (aI gU (DL.flat (lD u.p1.eC)) (cL (aC (λsD=>?_) λsD=>?_)))))))
 .refine aK fI (Y.ext u.aF) bL HS (λ_ sm=>bT M.at_ lI sm rfl rfl λ_ E9=>have u:=u.drew;aE bO E9 ?_)
  have B:R=([],0,7,M.at_):=by
   rw[ej J]at G;exact(ob.inj G).symm
  rw[B];exact⟨cG,rfl,(u.gE (Φ:=λw=>DL w (jr (cG:SV)) ([]:List bU)) λw=>DL.nil w).fresh⟩
 .refine aK fI (Y.ext u.aF) bL HS (λ_ AX=>bT M.at_ lI AX rfl rfl λ_ xu=>have u:=u.drew;aE bO xu ?_)
  have B:R=([],0,2,M.at_):=by
   rw[ei J,ej bL]at G;exact(ob.inj G).symm
  rw[B];exact⟨cG,rfl,(u.gE (Φ:=λw=>DL w (jr (cG:SV)) ([]:List bU)) λw=>DL.nil w).fresh⟩
 refine aA sd (have u:=u.drew;aB (v:=jr (E:SV)) jo u.hb rfl (aA oN (aB (v:=ir x.to) bO u.hb rfl ?_)));have u:=u.p1.dH (Ψ:=λw=>DL w (jr E) x.l) (λ_ h=>lD h)
 have B:R=(x.l,x.to,0,0):=by
  rw[ei J,ei bL]at G;exact(ob.inj G).symm
 rw[B];exact⟨E,rfl,u.fresh⟩
structure fQ where
 at_:Int
 e:Int
 pos:Int
deriving DecidableEq
def js(l:List bQ)(s:fQ)(e:Int):fQ:=if s.e=0 then {s with e:=if (l.length:Int)<=s.at_ then 6 else e,pos:=nq l s.at_}else s
def dW(l:List bQ)(s:fQ)(t:ByteArray):fQ:=if (decide (s.e=0)&&tT l s.at_ t)=true then {s with at_:=s.at_+1}else js l s 5
def lV(l:List bQ)(i:Int):Option bQ:=if 0<=i then l[i.toNat]? else none
def tU(l:List bQ)(s:fQ):Bool:=decide (s.e=0)&&(match lV l s.at_ with|some t=>decide (t.kind=1)&&gI t.text|none=>false)
def pB(l:List bQ)(i:Int):bQ:=(lV l i).getD ⟨0,⟨#[]⟩,0,0⟩
def dw(l:List bQ)(s:fQ):fQ×ByteArray:=if tU l s=true then({s with at_:=s.at_+1},(pB l s.at_).text)else(js l s 5,⟨#[]⟩)
def re(l:List bQ)(s:fQ):Option (fQ×List bU):=if s.e≠0 then some (s,[])else(wA l s.at_).bind λR=>
 if R.2.2.1≠0 then some ({s with e:=R.2.2.1,pos:=R.2.2.2},[])else if 0<=R.2.1/\R.2.1<=l.length then some ({s with at_:=R.2.1},R.1)else none
def QT(l:List bQ)(s:fQ):Bool:=decide (s.e=0)&&(match lV l s.at_ with|some t=>decide (t.kind=2)|none=>false)
def kU(l:List bQ)(s:fQ):fQ×Int:=if QT l s=true then(if 1<=(pB l s.at_).n/\(pB l s.at_).n<=8 then({s with at_:=s.at_+1},(pB l s.at_).n)else(js l s 11,0))else(js l s 5,0)
def D7:List ByteArray:=[⟨#[]⟩,⟨#[]⟩,⟨#[108,111,97,100]⟩,⟨#[115,116,111,114,101]⟩,⟨#[99,97,115]⟩,⟨#[102,108,117,115,104]⟩,⟨#[111,112,116]⟩,⟨#[115,102,101,110,99,101]⟩,⟨#[109,102,101,110,99,101]⟩,⟨#[116,97,107,101]⟩,⟨#[103,105,118,101]⟩,⟨#[105,102]⟩,⟨#[108,111,111,112]⟩,⟨#[98,114,101,97,107]⟩,⟨#[99,104,101,99,107]⟩]
def Ir(k:Int):ByteArray:=(D7[k.toNat]?).getD ⟨#[]⟩
def lE(l:List bQ)(s:fQ):Prop:=0<=s.at_/\s.at_<=l.length
section
variable {l:List bQ}{s:fQ}{e:Int}{t:ByteArray}
theorem tV(h:lE l s):lE l (js l s e):=by unfold js;split<;>exact h
theorem fH(h:lE l s):lE l (dW l s t):=by
 unfold dW;split
 .rename_i h2
  rw[oj]at h2
  have:=sS h2.2
  exact⟨cD,cD⟩
 exact tV h
theorem mL{i:Int}{k:bQ}(h:lV l i=some k):0<=i/\i<l.length/\l[i.toNat]?=some k:=by
 unfold lV at h
 grind
theorem Bs(h:tU l s=true):s.e=0/\∃k,lV l s.at_=some k/\k.kind=1/\gI k.text=true:=by
 unfold tU at h
 grind
theorem TF(h:QT l s=true):s.e=0/\∃k,lV l s.at_=some k/\k.kind=2:=by
 unfold QT at h
 grind
theorem gK(h:lE l s):lE l (dw l s).1:=by
 unfold dw;split
 .rename_i h2
  obtain⟨_,k,u,_⟩:=Bs h2
  have:=mL u
  exact⟨cD,cD⟩
 exact tV h
theorem Vp(h:lE l s):lE l (kU l s).1:=by
 unfold kU;split
 .rename_i h2
  obtain⟨_,k,u,_⟩:=TF h2
  have:=mL u
  split
  .exact⟨cD,cD⟩
  exact tV h
 exact tV h
theorem sT{s':fQ}{x:List bU}(h:lE l s)(u:re l s=some (s',x)):lE l s':=by
 unfold re at u
 split at u
 .grind
 cases hx:wA l s.at_ with
 | none=>grind
 | some R=>
  grind[lE]
end
@[reducible] def eo(lv ov:Value)(s:fQ):List Value:=[lv,.int .i64 s.at_,.int .i64 s.e,.int .i64 s.pos,ov]
@[reducible] def et(lv:Value)(s:fQ):List Value:=[lv,.int .i64 s.at_,.int .i64 s.e,.int .i64 s.pos]
def iB(l:List bQ)(s:fQ)(t:ByteArray):fQ×Bool:=if (decide (s.e=0)&&tT l s.at_ t)=true then({s with at_:=s.at_+1},true)else(s,false)
def eZ(l:List bQ)(s:fQ):fQ×cC:=if tU l s=true then({s with at_:=s.at_+1},⟨(pB l s.at_).text,0,(pB l s.at_).at_⟩)else(js l s 5,⟨⟨#[]⟩,0,0⟩)
def ky{l:List bQ}{s:fQ}{t:ByteArray}(h:lE l s):lE l (iB l s t).1:=by
 unfold iB;split
 .rename_i h2
  rw[oj]at h2
  have:=sS h2.2
  exact⟨cD,cD⟩
 exact h
def vg{l:List bQ}{s:fQ}(h:lE l s):lE l (eZ l s).1:=by
 unfold eZ;split
 .rename_i h2
  obtain⟨_,k,u,_⟩:=Bs h2
  have:=mL u
  exact⟨cD,cD⟩
 exact tV h
theorem aap{l:List bQ}{s u:fQ}{x:List bU}(h:re l s=some (u,x))(B:¬ s.e≠0):∃R,wA l s.at_=some R/\
  (if R.2.2.1≠0 then some ({s with e:=R.2.2.1,pos:=R.2.2.2},[])else if 0<=R.2.1/\R.2.1<=l.length then some ({s with at_:=R.2.1},R.1)else none)=some (u,x):=by
 unfold re at h;rw[ei B]at h
 cases hx:wA l s.at_ with
 | none=>grind
 | some R=>grind
def aaq{l:List bQ}{s u:fQ}{x:List bU}{R:List bU×Int×Int×Int}(h:(if R.2.2.1≠0 then some ({s with e:=R.2.2.1,pos:=R.2.2.2},[])else if 0<=R.2.1/\R.2.1<=l.length then some ({s with at_:=R.2.1},R.1)else none)=some (u,x))(B:¬ R.2.2.1≠0):0<=R.2.1/\R.2.1<=l.length:=by
 grind
def C291(p:Nat)(lv ov:Value)(l:List bQ)(s:fQ)(e:Int)(F:Nat->Prop)(w:World)(Z:(bX p (eo lv ov s)).p w F)(E:∀w',gD F w w'->cZ (λ_=>True) w' lv l)(I:jg l)(W:lE l s):CR 291 [(.pointer (some ⟨p,0,none⟩)),ir e] w (λv w'=>v=.tuple #[]/\mT F (bX p (eo lv ov (js l s e))) w w'):=by
 have u:=St.begin Z;have D1:=I.n;have M:l.length<=1000000:=bL
 have J:=I.at_;obtain⟨TG,TH⟩:=id W;refine pj Tryz.func291 (pl:=awo) ?_;refine aD (aA kL (aB jE u.hb rfl (aG (aC (λB=>aD (aA kL (aR u jE (dQ rfl) (rfl) λ_ u=>⟨_,aD (aA eY (have u:=u.drew;aB bO u.hb rfl (aD (aA iE (aB jj u.hb rfl (aI fI (E _ u.aF) (cO (aC (λG=>?_) λG=>?_)))))))),λ_ h=>h⟩))) λB=>?_))))
 .refine aD (aA kL (aR u jE (dQ rfl) (rfl) λ_ u=>?_));intro Y;refine aD (aA iE (have u:=u.drew;aB jj u.hb rfl (aD (aA eY (aB bO u.hb rfl (aV Hl u (C214 _ l s.at_ _ (E _ u.aF) M J) λU V u=>aD (aA AF (aR u bO (dQ rfl) (rfl) λO u=>?_))))))));have hb:js l s e=(⟨s.at_,6,(nq l s.at_)⟩:fQ):=by unfold js;rw[ej B,ej G]
  rw[hb];exact⟨rfl,u.mut⟩
 .intro Y;refine aD (aA iE (have u:=u.drew;aB jj u.hb rfl (aD (aA eY (aB bO u.hb rfl (aV Hl u (C214 _ l s.at_ _ (E _ u.aF) M J) λU V u=>aD (aA AF (aR u bO (dQ rfl) (rfl) λO u=>?_))))))));have hb:js l s e=(⟨s.at_,e,(nq l s.at_)⟩:fQ):=by unfold js;rw[ej B,ei G]
  rw[hb];exact⟨rfl,u.mut⟩
 have hb:js l s e=s:=by unfold js;rw[ei B]
 rw[hb];exact⟨rfl,u.mut⟩
def C136(p:Nat)(lv:Value)(l:List bQ)(s:fQ)(F:Nat->Prop)(w:World)(Z:(bX p (et lv s)).p w F)(G:∀w',gD F w w'->cZ (λ_=>True) w' lv l)(I:jg l)(Y:lE l s):CR 136 [(.pointer (some ⟨p,0,none⟩))] w (λv w'=>v=.tuple #[]/\mT F (bX p (et lv (js l s 5))) w w'):=by
 have u:=St.begin Z;have D1:=I.n;have M:l.length<=1000000:=bL
 have J:=I.at_;obtain⟨TG,TH⟩:=id Y;refine pj Tryz.func136 (pl:=avZ) ?_;refine aD (aA ml (aB jE u.hb rfl (aG (aC (λB=>aD (aA ml (aR u jE (dQ rfl) (rfl) λ_ u=>⟨_,aD (aA fw (have u:=u.drew;aB bO u.hb rfl (aD (aA j3 (aB jj u.hb rfl (aI fI (G _ u.aF) (cO (aC (λE=>?_) λE=>?_)))))))),λ_ h=>h⟩))) λB=>?_))))
 .refine aD (aA ml (aR u jE (dQ rfl) (rfl) λ_ u=>?_));intro W;refine aD (aA j3 (have u:=u.drew;aB jj u.hb rfl (aD (aA fw (aB bO u.hb rfl (aV Hl u (C214 _ l s.at_ _ (G _ u.aF) M J) λU V u=>aD (aA wZ (aR u bO (dQ rfl) (rfl) λO u=>?_))))))));have hb:js l s 5=(⟨s.at_,6,(nq l s.at_)⟩:fQ):=by unfold js;rw[ej B,ej E]
  rw[hb];exact⟨rfl,u.mut⟩
 .intro W;refine aD (aA j3 (have u:=u.drew;aB jj u.hb rfl (aD (aA fw (aB bO u.hb rfl (aV Hl u (C214 _ l s.at_ _ (G _ u.aF) M J) λU V u=>aD (aA wZ (aR u bO (dQ rfl) (rfl) λO u=>?_))))))));have hb:js l s 5=(⟨s.at_,5,(nq l s.at_)⟩:fQ):=by unfold js;rw[ej B,ei E]
  rw[hb];exact⟨rfl,u.mut⟩
 have hb:js l s 5=s:=by unfold js;rw[ei B]
 rw[hb];exact⟨rfl,u.mut⟩
def C257(p:Nat)(lv ov:Value)(l:List bQ)(s:fQ)(t:ByteArray)(F:Nat->Prop)(w:World)(W:(bX p (eo lv ov s)).p w F)(J:∀w',gD F w w'->cZ (λ_=>True) w' lv l)(G:jg l)(I:lE l s):CR 257 [(.pointer (some ⟨p,0,none⟩)),.string t] w (λv w'=>v=.tuple #[]/\mT F (bX p (eo lv ov (dW l s t))) w w'):=by
 have u:=St.begin W;have D1:=G.n;have Y:l.length<=1000000:=bL
 have px:=G.at_;obtain⟨TG,TH⟩:=id I;refine pj Tryz.func257 (pl:=awi) ?_;refine⟨λO w'=>O=.bool (decide (s.e=0)&&tT l s.at_ t)/\St w F [bX p (eo lv ov s)] w',aD (aA kL (have u:=u.drew;aB jE u.hb rfl (aG (aC (λB=>aD (aA iE (aB jj u.hb rfl (aD (aA eY (aB bO u.hb rfl (aV vZ u (C209 _ l s.at_ t _ (J _ u.aF) Y) λ_ _ u=>⟨vb (by first|(rw[ew B];rfl)|(rw[ez B];rfl)),u⟩))))))) λB=>⟨vb (by first|(rw[ew B];rfl)|(rw[ez B];rfl)),u⟩)))),?_⟩;rintro _ _ ⟨rfl,u⟩ _;refine aW (λE=>?_) (λE=>?_)
 .have V:=sS (by rw[oj]at E;exact E.2);refine aD (aA eY (aB bO u.hb rfl (aJ bL (aD (aA eY (aR u bO (dQ rfl) (rfl) λ_ u=>?_))))));have hb:dW l s t={s with at_:=s.at_+1}:=by unfold dW;rw[ej (by simpa using E)]
  rw[hb];exact⟨rfl,u.mut⟩
 refine aY Hn u (H':=λ_=>bX p (eo lv ov (js l s 5))) (Φ:=λ_ _=>True) (λM U Z=>?_) ?_
 .exact(C291 p lv ov l s 5 M _ U (λw' hc=>J w' (Z w' hc).aF) G I).mono λ_ _ r=>r.mono λ_ _ h=>⟨trivial,h.2⟩
 rintro _ _ _ u;have hb:dW l s t=js l s 5:=by unfold dW;rw[ei (by simpa using E)]
 rw[hb];exact⟨rfl,u.mut⟩
def C131(p:Nat)(lv:Value)(l:List bQ)(s:fQ)(t:ByteArray)(F:Nat->Prop)(w:World)(O:(bX p (et lv s)).p w F)(V:∀w',gD F w w'->cZ (λ_=>True) w' lv l)(G:jg l)(M:lE l s):CR 131 [(.pointer (some ⟨p,0,none⟩)),.string t] w (λv w'=>v=.bool (iB l s t).2/\mT F (bX p (et lv (iB l s t).1)) w w'):=by
 have u:=St.begin O;have Z:=G.n;have U:l.length<=1000000:=bL
 have Y:=G.at_;obtain⟨TG,W⟩:=id M;refine pj Tryz.func131 (pl:=avN) ?_;refine⟨λI w'=>I=.bool (decide (s.e=0)&&tT l s.at_ t)/\St w F [bX p (et lv s)] w',aD (aA ml (have u:=u.drew;aB jE u.hb rfl (aG (aC (λE=>aD (aA j3 (aB jj u.hb rfl (aD (aA fw (aB bO u.hb rfl (aV vZ u (C209 _ l s.at_ t _ (V _ u.aF) U) λ_ _ u=>⟨vb (by first|(rw[ew E];rfl)|(rw[ez E];rfl)),u⟩))))))) λE=>⟨vb (by first|(rw[ew E];rfl)|(rw[ez E];rfl)),u⟩)))),?_⟩;rintro _ _ ⟨rfl,u⟩ _;refine aW (λB=>?_) (λB=>?_)
 .have J:=sS (by rw[oj]at B;exact B.2);refine aD (aA fw (aB bO u.hb rfl (aJ bL (aD (aA fw (aR u bO (dQ rfl) (rfl) λ_ u=>?_))))));have hb:iB l s t=({s with at_:=s.at_+1},true):=by unfold iB;rw[ej (by simpa using B)]
  rw[hb];exact⟨rfl,u.mut⟩
 have hb:iB l s t=(s,false):=by unfold iB;rw[ei (by simpa using B)]
 rw[hb];exact⟨rfl,u.mut⟩
def C210(p:Nat)(lv:Value)(l:List bQ)(s:fQ)(t:ByteArray)(F:Nat->Prop)(w:World)(W:(bX p (et lv s)).p w F)(V:∀w',gD F w w'->cZ (λ_=>True) w' lv l)(E:jg l)(M:lE l s):CR 210 [(.pointer (some ⟨p,0,none⟩)),.string t] w (λv w'=>v=.tuple #[]/\mT F (bX p (et lv (dW l s t))) w w'):=by
 have B:=St.begin W;have D1:=E.n;have hn:l.length<=1000000:=bL
 have px:=E.at_;obtain⟨TG,Z⟩:=id M;refine fb Tryz.func210 ?_;refine aY yN B (H':=λ_=>bX p (et lv (iB l s t).1)) (Φ:=λv _=>v=.bool (iB l s t).2) (λG I U=>?_) ?_
 .exact C131 p lv l s t G _ I (λw' hc=>V w' (U w' hc).aF) E M
 rintro _ w1 rfl B;refine bN (aW (λO=>?_) λO=>?_)
 .refine aY RQ B (H':=λ_=>bX p (et lv (js l (iB l s t).1 5))) (Φ:=λ_ _=>True) (λG I U=>?_) ?_
  .exact(C136 p lv l (iB l s t).1 G _ I (λw' hc=>V w' (U w' hc).aF) E (ky M)).mono λ_ _ r=>r.mono λ_ _ h=>⟨trivial,h.2⟩
  rintro _ Y _ B
  have J:dW l s t=js l (iB l s t).1 5:=by
   have u:(iB l s t).2=false:=by simpa using O
   unfold iB at u |-;unfold dW
   split at u
   .cases u
   .rename_i h8;rw[ei h8,ei h8]
  rw[J];exact⟨rfl,B.mut⟩
 have J:dW l s t=(iB l s t).1:=by
  have u:(iB l s t).2=true:=by simpa using O
  unfold iB at u |-;unfold dW
  split at u
  .rename_i h8;rw[ej h8,ej h8]
  .cases u
 rw[J];exact⟨rfl,B.mut⟩
def C317(p:Nat)(lv ov:Value)(l:List bQ)(s:fQ)(F:Nat->Prop)(w:World)(hF:(bX p (eo lv ov s)).p w F)(I:∀w',gD F w w'->cZ (λ_=>True) w' lv l)(U:jg l)(Z:lE l s):CR 317 [(.pointer (some ⟨p,0,none⟩))] w (λv w'=>v=.string (dw l s).2/\mT F (bX p (eo lv ov (dw l s).1)) w w'):=by
 have u:=St.begin hF;have D1:=U.n;have hn:l.length<=1000000:=bL
 have px:=U.at_;obtain⟨TG,TH⟩:=id Z;refine pj Tryz.func317 (pl:=aww) ?_;refine⟨λjv w'=>jv=.bool (tU l s)/\St w F [bX p (eo lv ov s)] w',?_,?_⟩
 .refine aD (aA kL (have u:=u.drew;aB jE u.hb rfl (aG (aC (λE=>aD (aA eY (aB bO u.hb rfl (aD (aA iE (aB jj u.hb rfl (aI fI (I _ u.aF) (aN (aC (λlL=>?_) λlL=>⟨vb (by unfold tU lV;first|(rw[ez E];rfl)|(rw[ej bL,n0 bL];simp;done)|(rw[ej bL,G,ew E];dsimp only;first|(rw[ez B];rfl)|(rw[ew B];rfl))),u⟩))))))))) λE=>⟨vb (by unfold tU lV;first|(rw[ez E];rfl)|(rw[ej bL,n0 bL];simp;done)|(rw[ej bL,G,ew E];dsimp only;first|(rw[ez B];rfl)|(rw[ew B];rfl))),u⟩))))
  refine aD (aA iE (aB jj u.hb rfl (aD (aA eY (aB bO u.hb rfl ?_)))));obtain⟨W,G⟩:=gx l (i:=s.at_.toNat) bL;refine aK fI (I _ u.aF) bL G (λ_ AV=>bT (W).kind lH AV rfl rfl λ_ mw=>?_);exact aE bO mw (aG (aC (λB=>aD (aA iE (aB jj u.hb rfl (aD (aA eY (aB bO u.hb rfl (aK fI (I _ u.aF) bL G λ_ wq=>bT (W).text nB wq rfl rfl λ_ u7=>aE gv u7 (aV uz u (C211 _ _ (by have:=px _ (kO G);omega)) λ_ he u=>⟨vb (by unfold tU lV;first|(rw[ez E];rfl)|(rw[ej bL,n0 bL];simp;done)|(rw[ej bL,G,ew E];dsimp only;first|(rw[ez B];rfl)|(rw[ew B];rfl))),u⟩)))))))) λB=>⟨vb (by unfold tU lV;first|(rw[ez E];rfl)|(rw[ej bL,n0 bL];simp;done)|(rw[ej bL,G,ew E];dsimp only;first|(rw[ez B];rfl)|(rw[ew B];rfl))),u⟩))
 rintro _ _ ⟨rfl,u⟩ _;refine aW (λJ=>?_) (λJ=>?_)
 .obtain⟨_,V,Y,_,_⟩:=Bs J;obtain⟨asC,asD,O⟩:=mL Y;have HS:l[(s.at_+1-1).toNat]?=some V:=by rw[<- O];congr 2;omega
  refine aD (aA eY (aB bO u.hb rfl (aJ bL (aD (aA eY (aR u bO (dQ rfl) (rfl) λ_ u=>aD (aA iE (have u:=u.drew;aB jj u.hb rfl (aD (aA eY (aB bO u.hb rfl ?_)))))))))));refine fc bL (aK fI (I _ u.aF) bL HS λ_ C5=>bT V.text nB C5 rfl rfl λ_ M=>aE gv M ?_);have hb:dw l s=({s with at_:=s.at_+1},V.text):=by unfold dw;rw[ej J];unfold pB;rw[Y];rfl
  rw[hb];exact⟨rfl,u.mut⟩
 refine aY Hn u (H':=λ_=>bX p (eo lv ov (js l s 5))) (Φ:=λ_ _=>True) (λF2 ek dU=>?_) ?_
 .exact(C291 p lv ov l s 5 F2 _ ek (λw' hc=>I w' (dU w' hc).aF) U Z).mono λ_ _ r=>r.mono λ_ _ h=>⟨trivial,h.2⟩
 rintro _ _ _ u;have hb:dw l s=(js l s 5,⟨#[]⟩):=by unfold dw;rw[ei (by simpa using J)]
 rw[hb];exact⟨rfl,u.mut⟩
def C133(p:Nat)(lv:Value)(l:List bQ)(s:fQ)(F:Nat->Prop)(w:World)(hF:(bX p (et lv s)).p w F)(J:∀w',gD F w w'->cZ (λ_=>True) w' lv l)(V:jg l)(h0:lE l s):CR 133 [(.pointer (some ⟨p,0,none⟩))] w (λv w'=>v=jr (eZ l s).2/\mT F (bX p (et lv (eZ l s).1)) w w'):=by
 have u:=St.begin hF;have D1:=V.n;have hn:l.length<=1000000:=bL
 have px:=V.at_;obtain⟨TG,TH⟩:=id h0;refine pj Tryz.func133 (pl:=avW) ?_;refine aQ u oL (λwE _ u=>⟨λjv w'=>jv=.bool (tU l s)/\St w F [bX p (et lv s),bX wE (kp (⟨j0 #[],0,0⟩:cC))] w',?_,?_⟩)
 .refine aD (aA ml (have u:=u.drew;aB jE u.p1.hb rfl (aG (aC (λE=>aD (aA fw (aB bO u.p1.hb rfl (aD (aA j3 (aB jj u.p1.hb rfl (aI fI (J _ u.aF) (aN (aC (λlL=>?_) λlL=>have u:=u.p1;⟨vb (by unfold tU lV;first|(rw[ez E];rfl)|(rw[ej bL,n0 bL];simp;done)|(rw[ej bL,I,ew E];dsimp only;first|(rw[ez B];rfl)|(rw[ew B];rfl))),u⟩))))))))) λE=>have u:=u.p1;⟨vb (by unfold tU lV;first|(rw[ez E];rfl)|(rw[ej bL,n0 bL];simp;done)|(rw[ej bL,I,ew E];dsimp only;first|(rw[ez B];rfl)|(rw[ew B];rfl))),u⟩))))
  refine aD (aA j3 (aB jj u.p1.hb rfl (aD (aA fw (aB bO u.p1.hb rfl ?_)))));obtain⟨Y,I⟩:=gx l (i:=s.at_.toNat) bL;refine aK fI (J _ u.aF) bL I (λ_ AV=>bT Y.kind lH AV rfl rfl λ_ mw=>?_);exact aE bO mw (aG (aC (λB=>aD (aA j3 (aB jj u.p1.hb rfl (aD (aA fw (aB bO u.p1.hb rfl (aK fI (J _ u.aF) bL I λ_ wq=>bT Y.text nB wq rfl rfl λ_ u7=>aE gv u7 (aV uz u (C211 _ _ (by have:=px _ (kO I);omega)) λ_ he u=>have u:=u.p1;⟨vb (by unfold tU lV;first|(rw[ez E];rfl)|(rw[ej bL,n0 bL];simp;done)|(rw[ej bL,I,ew E];dsimp only;first|(rw[ez B];rfl)|(rw[ew B];rfl))),u⟩)))))))) λB=>have u:=u.p1;⟨vb (by unfold tU lV;first|(rw[ez E];rfl)|(rw[ej bL,n0 bL];simp;done)|(rw[ej bL,I,ew E];dsimp only;first|(rw[ez B];rfl)|(rw[ew B];rfl))),u⟩))
 rintro _ _ ⟨rfl,u⟩ _;refine aW (λM=>?_) (λM=>?_)
 .obtain⟨_,G,KK,_,_⟩:=Bs M;obtain⟨asC,asD,U⟩:=mL KK;have Z:l[(s.at_+1-1).toNat]?=some G:=by rw[<- U];congr 2;omega
  refine aD (aA fw (aB bO u.hb rfl (aJ bL (aD (aA fw (aR u bO (dQ rfl) (rfl) λ_ u=>aD (aA j3 (have u:=u.drew;aB jj u.hb rfl (aD (aA fw (aB bO u.hb rfl ?_)))))))))));refine fc bL (aK fI (J _ u.aF) bL Z λ_ C5=>bT G.text nB C5 rfl rfl λ_ O=>aE gv O (aD (aA j3 (aB jj u.hb rfl (aD (aA fw (aB bO u.hb rfl (fc bL (aK fI (J _ u.aF) bL Z λ_ W=>bT G.at_ lI W rfl rfl λ_ NN=>?_)))))))))
  refine aE bO NN (pop (EE _ _) (aM (x:=(⟨G.text,0,G.at_⟩:cC)) u.p1 lZ rfl rfl λ_ u=>aE lZ u.At ?_));have u:=u.drop;have hb:eZ l s=({s with at_:=s.at_+1},⟨G.text,0,G.at_⟩):=by unfold eZ;rw[ej M];unfold pB;rw[KK];rfl
  rw[hb];exact⟨rfl,u.mut⟩
 refine aY RQ u (H':=λ_=>bX p (et lv (js l s 5))) (Φ:=λ_ _=>True) (λF2 ek dU=>?_) ?_
 .exact(C136 p lv l s F2 _ ek (λw' hc=>J w' (dU w' hc).aF) V h0).mono λ_ _ r=>r.mono λ_ _ h=>⟨trivial,h.2⟩
 rintro _ _ _ u;refine pop adb (aM (x:=(⟨(j0 #[]),0,0⟩:cC)) u.p1 lZ rfl rfl λ_ u=>aE lZ u.At ?_);have u:=u.drop;have hb:eZ l s=(js l s 5,⟨⟨#[]⟩,0,0⟩):=by unfold eZ;rw[ei (by simpa using M)]
 rw[hb];exact⟨rfl,u.mut⟩
def C290(k:Int)(w:World)(M:0<=k/\k<=14):CR 290 [ir k] w (λv w'=>v=.string (Ir k)/\Ext w w'):=by
 have u:=St.start w;refine fb Tryz.func290 ?_;refine bD D7 u iu rfl rfl (dQ rfl) (λI _ u=>?_);have J:D7.length=15:=rfl;obtain⟨G,E⟩:=gx D7 (i:=k.toNat) bL;refine dG u iu bL bL (λ_ B=>fM u gv B E ?_);refine⟨?_,u.drop.aF⟩;unfold Ir;rw[E];rfl
def C319(p:Nat)(lv ov:Value)(l:List bQ)(s:fQ)(F:Nat->Prop)(w:World)(hF:(bX p (eo lv ov s)).p w F)(E:∀w',gD F w w'->cZ (λ_=>True) w' lv l)(I:jg l)(Z:lE l s):CR 319 [(.pointer (some ⟨p,0,none⟩))] w (λv w'=>v=ir (kU l s).2/\mT F (bX p (eo lv ov (kU l s).1)) w w'):=by
 have u:=St.begin hF;have D1:=I.n;have hn:l.length<=1000000:=bL
 have px:=I.at_;obtain⟨TG,TH⟩:=id Z;refine pj Tryz.func319 (pl:=awy) ?_;refine⟨λU w'=>U=.bool (QT l s)/\St w F [bX p (eo lv ov s)] w',?_,?_⟩
 .refine aD (aA kL (have u:=u.drew;aB jE u.hb rfl (aG (aC (λB=>aD (aA eY (aB bO u.hb rfl (aD (aA iE (aB jj u.hb rfl (aI fI (E _ u.aF) (aN (aC (λfo=>?_) λfo=>⟨vb (by unfold QT lV;first|(rw[ez B];rfl)|(rw[ej bL,n0 bL];simp;done)|(rw[ej bL,M,ew B];rfl)),u⟩))))))))) λB=>⟨vb (by unfold QT lV;first|(rw[ez B];rfl)|(rw[ej bL,n0 bL];simp;done)|(rw[ej bL,M,ew B];rfl)),u⟩))))
  refine aD (aA iE (aB jj u.hb rfl (aD (aA eY (aB bO u.hb rfl ?_)))));obtain⟨qV,M⟩:=gx l (i:=s.at_.toNat) bL;exact aK fI (E _ u.aF) bL M (λ_ mw=>bT qV.kind lH mw rfl rfl λ_ qA=>aE bO qA (aG ⟨vb (by unfold QT lV;first|(rw[ez B];rfl)|(rw[ej bL,n0 bL];simp;done)|(rw[ej bL,M,ew B];rfl)),u⟩))
 rintro _ _ ⟨rfl,u⟩ _;refine aW (λG=>?_) (λG=>?_)
 .obtain⟨_,J,Y,_⟩:=TF G;obtain⟨asC,asD,HS⟩:=mL Y;refine aD (aA iE (have u:=u.drew;aB jj u.hb rfl (aD (aA eY (aB bO u.hb rfl (aK fI (E _ u.aF) bL HS λ_ wq=>bT J.n rZ wq rfl rfl λ_ u7=>aE bO u7 ⟨λU w'=>U=.bool (decide (1<=J.n/\J.n<=8))/\St w F [bX p (eo lv ov s)] w',cO (aC (λ_=>gu ⟨vb (by first|exact(ez bL).symm|exact fN.2 bL),u⟩) λ_=>⟨vb (by first|exact(ez bL).symm|exact fN.2 bL),u⟩),?_⟩))))))
  rintro _ _ ⟨rfl,u⟩ _;refine aC (λV=>?_) (λV=>?_)
  .refine aD (aA eY (aB bO u.hb rfl (aJ bL (aD (aA eY (aR u bO (dQ rfl) (rfl) λ_ u=>?_))))));have hb:kU l s=({s with at_:=s.at_+1},J.n):=by unfold kU;rw[ej G];unfold pB;rw[Y];exact ej V
   rw[hb];exact⟨rfl,u.mut⟩
  refine aY Hn u (H':=λ_=>bX p (eo lv ov (js l s 11))) (Φ:=λ_ _=>True) (λO W dU=>?_) ?_
  .exact(C291 p lv ov l s 11 O _ W (λw' hc=>E w' (dU w' hc).aF) I Z).mono λ_ _ r=>r.mono λ_ _ h=>⟨trivial,h.2⟩
  rintro _ _ _ u;have hb:kU l s=(js l s 11,0):=by unfold kU;rw[ej G];unfold pB;rw[Y];exact ei V
  rw[hb];exact⟨rfl,u.mut⟩
 refine aY Hn u (H':=λ_=>bX p (eo lv ov (js l s 5))) (Φ:=λ_ _=>True) (λO W dU=>?_) ?_
 .exact(C291 p lv ov l s 5 O _ W (λw' hc=>E w' (dU w' hc).aF) I Z).mono λ_ _ r=>r.mono λ_ _ h=>⟨trivial,h.2⟩
 rintro _ _ _ u;have hb:kU l s=(js l s 5,0):=by unfold kU;rw[ei (by simpa using G)]
 rw[hb];exact⟨rfl,u.mut⟩
def C318(p:Nat)(lv ov:Value)(l:List bQ)(s:fQ)(B:fQ)(x:List bU)(F:Nat->Prop)(w:World)(hF:(bX p (eo lv ov s)).p w F)(hT:∀w',gD F w w'->cZ (λ_=>True) w' lv l)(O:jg l)(h0:lE l s)(I:re l s=some (B,x)):CR 318 [(.pointer (some ⟨p,0,none⟩))] w (λv w'=>mT F (oO λW:SV=>fact (v=jr W) (sep (bX p (eo lv ov B)) (eC λw=>DL w (jr W) x))) w w'):=by
 have u:=St.begin hF;have D1:=O.n;have hn:l.length<=1000000:=bL
 have px:=O.at_;obtain⟨TG,TH⟩:=id h0;refine pj Tryz.func318 (pl:=awx) ?_;refine aD (aA kL (aB jE u.hb rfl (bW (aC (λV=>?_) λV=>?_))))
 .have E:((s,[]):fQ×List bU)=(B,x):=by unfold re at I;rw[ej V]at I;exact ob.inj I
  cases E;have u:=(u.gE (Φ:=λw=>DL w (jr (cG:SV)) ([]:List bU)) λw=>DL.nil w).p1;exact(St.dT (cG:SV) (St.l4 rfl (St.join u))).mut
 refine aD (aA iE (have u:=u.drew;aB jj u.hb rfl (aD (aA eY (aB bO u.hb rfl ?_)))));obtain⟨R,U,G⟩:=aap I bL;refine dR agt (C213 l _ s.at_ R _ (hT _ u.aF) O bL U) ?_;rintro _ _ ⟨M,rfl,Z⟩;have u:=u.made Z;refine aO rfl (aO rfl (aO rfl (aO rfl (bW (aC (λJ=>?_) λJ=>?_)))))
 .refine aD (aA kL (aR u.p1 jE (dQ rfl) (rfl) λ_ u=>aD (aA AF (aR u bO (dQ rfl) (rfl) λ_ u=>?_))));have E:(({s with e:=R.2.2.1,pos:=R.2.2.2},[]):fQ×List bU)=(B,x):=by rw[ej J]at G;exact ob.inj G
  cases E;have u:=(u.p1.drop.gE (Φ:=λw=>DL w (jr (cG:SV)) ([]:List bU)) λw=>DL.nil w).p1;exact(St.dT (cG:SV) (St.l4 rfl (St.join u))).mut
 have Y:=aaq G J;refine aD (aA eY (aR u.p1 bO (dQ rfl) (rfl) λ_ u=>?_));have E:(({s with at_:=R.2.1},R.1):fQ×List bU)=(B,x):=by rw[ei J,ej Y]at G;exact ob.inj G
 cases E;have u:=u.p1.p1;exact(St.dT M (St.l4 rfl (St.join u))).mut
def OG(k at_:Int):bM:=⟨k,⟨#[]⟩,⟨#[]⟩,[],[],0,0,0,at_⟩
abbrev KM:ByteArray:=⟨#[61]⟩
def Wl(l:List bQ)(s:fQ):fQ:=dW l (dw l s).1 (j0 #[61])
def s2M(l:List bQ)(s:fQ):fQ:=dW l (dw l (Wl l s)).1 (j0 #[44])
def kV(l:List bQ)(s:fQ)(k a:Int):Option (fQ×bM):=
 if k=1 then(re l (Wl l s)).bind λr=>some (r.1,{OG k a with ey:=(dw l s).2,e:=r.2})
 else if k=2 then some ((dw l (Wl l s)).1,{OG k a with ey:=(dw l s).2,name:=(dw l (Wl l s)).2})
 else if k=3 then(re l (Wl l s)).bind λr=>some (r.1,{OG k a with name:=(dw l s).2,e:=r.2})
 else if k=4 then(re l (s2M l s)).bind λr=>(re l (dW l r.1 (j0 #[44]))).bind λq=>some (q.1,{OG k a with ey:=(dw l s).2,name:=(dw l (Wl l s)).2,e:=r.2,f:=q.2})
 else if k=5\/k=6\/k=9\/k=10 then some ((dw l s).1,{OG k a with name:=(dw l s).2})
 else if k=11\/k=14 then(re l s).bind λr=>some (r.1,{OG k a with e:=r.2})
 else if k=12 then some ((kU l s).1,{OG k a with n:=(kU l s).2})
 else some (s,OG k a)
section
variable {l:List bQ}{s s':fQ}{k a:Int}{x:bM}
theorem eN{α β γ:Type}{o:Option (α×β)}{g:α×β->Option γ}{c:γ}(h:o.bind g=some c):∃p q,o=some (p,q)/\g (p,q)=some c:=by
 cases o with
 | none=>cases h
 | some r=>grind
theorem TI(h:kV l s k a=some (s',x))(u:k=1):∃q e,re l (Wl l s)=some (q,e)/\s'=q/\x={OG k a with ey:=(dw l s).2,e:=e}:=by
 unfold kV at h;rw[ej u]at h
 obtain⟨q,e,h1,h2⟩:=eN h
 grind
theorem TJ(h:kV l s k a=some (s',x))(u:k=2):s'=(dw l (Wl l s)).1/\x={OG k a with ey:=(dw l s).2,name:=(dw l (Wl l s)).2}:=by
 unfold kV at h;grind
theorem TK(h:kV l s k a=some (s',x))(u:k=3):∃q e,re l (Wl l s)=some (q,e)/\s'=q/\x={OG k a with name:=(dw l s).2,e:=e}:=by
 unfold kV at h;rw[ei bL,ei bL,ej u]at h
 obtain⟨q,e,h1,h2⟩:=eN h
 grind
theorem TL(h:kV l s k a=some (s',x))(B:k=4):∃q e u f,re l (s2M l s)=some (q,e)/\re l (dW l q (j0 #[44]))=some (u,f)/\s'=u/\x={OG k a with ey:=(dw l s).2,name:=(dw l (Wl l s)).2,e:=e,f:=f}:=by
 unfold kV at h;rw[ei bL,ei bL,ei bL,ej B]at h
 obtain⟨q,e,h1,h2⟩:=eN h
 obtain⟨u,f,h3,h4⟩:=eN h2
 grind
theorem TM(h:kV l s k a=some (s',x))(u:k=5\/k=6\/k=9\/k=10):s'=(dw l s).1/\x={OG k a with name:=(dw l s).2}:=by
 unfold kV at h;grind
theorem NP(h:kV l s k a=some (s',x))(u:k=11\/k=14):∃q e,re l s=some (q,e)/\s'=q/\x={OG k a with e:=e}:=by
 unfold kV at h;rw[ei bL,ei bL,ei bL,ei bL,ei bL,ej u]at h
 obtain⟨q,e,h1,h2⟩:=eN h
 grind
theorem NQ(h:kV l s k a=some (s',x))(u:k=12):s'=(kU l s).1/\x={OG k a with n:=(kU l s).2}:=by
 unfold kV at h;grind
theorem NR(h:kV l s k a=some (s',x))(h1:¬ k=1)(h2:¬ k=2)(h3:¬ k=3)(h4:¬ k=4)(h5:¬ (k=5\/k=6\/k=9\/k=10))(h6:¬ (k=11\/k=14))(u:¬ k=12):s'=s/\x=OG k a:=by
 unfold kV at h;grind
end
def CD{l:List bQ}{s s':fQ}{k a:Int}{x:bM}(B:lE l s)(h:kV l s k a=some (s',x)):lE l s':=by
 have E:lE l (Wl l s):=fH (gK B)
 have G:lE l (s2M l s):=fH (gK E)
 by_cases h1:k=1
 .obtain⟨q,e,u,rfl,_⟩:=TI h h1;exact sT E u
 by_cases h2:k=2
 .obtain⟨rfl,_⟩:=TJ h h2;exact gK E
 by_cases h3:k=3
 .obtain⟨q,e,u,rfl,_⟩:=TK h h3;exact sT E u
 by_cases h4:k=4
 .obtain⟨q,e,M,f,u,J,rfl,_⟩:=TL h h4;exact sT (fH (sT G u)) J
 by_cases h5:k=5\/k=6\/k=9\/k=10
 .obtain⟨rfl,_⟩:=TM h h5;exact gK B
 by_cases h6:k=11\/k=14
 .obtain⟨q,e,u,rfl,_⟩:=NP h h6;exact sT B u
 by_cases I:k=12
 .obtain⟨rfl,_⟩:=NQ h I;exact Vp B
 obtain⟨rfl,_⟩:=NR h h1 h2 h3 h4 h5 h6 I;exact B
def xP{α σ:Type}[Flat σ][Deep α σ]{w w0:World}{A:Nat->Prop}{L:List HP}{B:HP}{u:σ}{x:α}(E:St w0 A (B::eC (λw=>n5 w u x)::L) w) :
  St w0 A ((oO λs:σ=>fact (jr u=jr s) (sep B (eC λw=>n5 w s x)))::L) w:=
 St.dT (H:=λs:σ=>fact (jr u=jr s) (sep B (eC λw=>n5 w s x))) u (St.l4 rfl (St.join E))
def C292(p:Nat)(lv ov:Value)(l:List bQ)(s:fQ)(B a:Int)(Z:fQ)(x:bM)(F:Nat->Prop)(w:World)(hF:(bX p (eo lv ov s)).p w F)(O:∀w',gD F w w'->cZ (λ_=>True) w' lv l)(J:jg l)(M:lE l s)(hp:kV l s B a=some (Z,x)):CR 292 [(.pointer (some ⟨p,0,none⟩)),ir B,ir a] w (λv w'=>mT F (oO λsh:aZ=>fact (v=jr sh) (sep (bX p (eo lv ov Z)) (eC λw=>n5 w sh x))) w w'):=by
 have u:=St.begin hF;have D1:=J.n;have hn:l.length<=1000000:=bL
 have px:=J.at_;obtain⟨TG,TH⟩:=id M;refine fb Tryz.func292 ?_;refine aQ u iN (λQr _ u=>have u:=u.enc (cs':=kp (⟨0,(j0 #[]),(j0 #[]),cG,cG,0,0,0,0⟩:aZ)) rfl;pop (O4 _ _) (aQ u iN λxr _ u=>have u:=u.enc (cs':=kp (⟨0,(j0 #[]),(j0 #[]),cG,cG,0,0,0,0⟩:aZ)) rfl;aM (x:=(⟨B,(j0 #[]),(j0 #[]),cG,cG,0,0,0,a⟩:aZ)) u eD rfl rfl λw3 u=>?_));refine⟨_,?_,λ_ h=>h⟩;refine aG (aC (λxm=>?_) λxm=>aG (aC (λm8=>?_) λm8=>aG (aC (λsD=>?_) λsD=>aG (aC (λwe=>?_) λwe=>⟨λjv w'=>jv=.bool (decide (B=5\/B=6\/B=9\/B=10))/\w3=w',aG (aC (λ_=>⟨vb cD,rfl⟩) λ_=>aG (aC (λ_=>⟨vb cD,rfl⟩) λ_=>aG (aC (λ_=>⟨vb cD,rfl⟩) λ_=>aG ⟨vb cD,rfl⟩))),?_⟩))))
 .obtain⟨q,e,U,rfl,rfl⟩:=TI hp xm;refine aY Ev u.p2 (H':=λ_=>bX p (eo lv ov (dw l s).1)) (Φ:=λv _=>v=.string (dw l s).2) (λE G I=>?_) ?_
  .exact C317 p lv ov l s E _ G (λw' hc=>O w' (I w' hc).aF) J M
  rintro _ _ rfl u;refine aA iC (aR u.p1 gv (dQ rfl) (rfl) λ_ u=>have u:=u.enc (cs':=kp (⟨B,(dw l s).2,(j0 #[]),cG,cG,0,0,0,a⟩:aZ)) rfl;aY yO u.p1 (H':=λ_=>bX p (eo lv ov (dW l (dw l s).1 (j0 #[61])))) (Φ:=λ_ _=>True) (λE G I=>?_) ?_)
  .exact(C257 p lv ov l (dw l s).1 (j0 #[61]) E _ G (λw' hc=>O w' (I w' hc).aF) J (gK M)).mono λ_ _ r=>r.mono λ_ _ h=>⟨trivial,h.2⟩
  rintro _ _ _ u;refine aY Lp u (H':=λv=>oO λY:SV=>fact (v=jr Y) (sep (bX p (eo lv ov Z)) (eC λw=>DL w (jr Y) e))) (Φ:=λ_ _=>True) (λE G I=>?_) ?_
  .exact(C318 p lv ov l (dW l (dw l s).1 (j0 #[61])) Z e E _ G (λw' hc=>O w' (I w' hc).aF) J (fH (gK M)) U).mono λ_ _ r=>r.mono λ_ _ h=>⟨trivial,h⟩
  rintro v_x20 _ _ W;obtain⟨QU,V⟩:=W.dK
  clear W
  obtain⟨alh,D8⟩:=V.j4
  clear V
  subst alh;have u:=D8.split;refine aA iV (aR u.p2 jo (dQ rfl) (rfl) λ_ u=>?_);have u:=u.enc (cs':=kp (⟨B,(dw l s).2,(j0 #[]),QU,cG,0,0,0,a⟩:aZ)) rfl;intro yl;exact aE eD u.At (aM (x:=(⟨B,(dw l s).2,(j0 #[]),QU,cG,0,0,0,a⟩:aZ)) u.p3 eD rfl rfl λ_ u=>aE eD u.At (have u:=u.p3.dH (Ψ:=(λw=>n5 w (⟨B,(dw l s).2,(j0 #[]),QU,cG,0,0,0,a⟩:aZ) (⟨B,(dw l s).2,(j0 #[]),e,[],0,0,0,a⟩:bM))) (λ_ h=>⟨_,_,rfl,id h,DL.nil _⟩);have u:=u.p1.drop.p1.drop.p1;(xP u).mut))
 .obtain⟨rfl,rfl⟩:=TJ hp m8;refine aY Ev u.p2 (H':=λ_=>bX p (eo lv ov (dw l s).1)) (Φ:=λv _=>v=.string (dw l s).2) (λE G I=>?_) ?_
  .exact C317 p lv ov l s E _ G (λw' hc=>O w' (I w' hc).aF) J M
  rintro _ _ rfl u;refine aA iC (aR u.p1 gv (dQ rfl) (rfl) λ_ u=>have u:=u.enc (cs':=kp (⟨B,(dw l s).2,(j0 #[]),cG,cG,0,0,0,a⟩:aZ)) rfl;aY yO u.p1 (H':=λ_=>bX p (eo lv ov (dW l (dw l s).1 (j0 #[61])))) (Φ:=λ_ _=>True) (λE G I=>?_) ?_)
  .exact(C257 p lv ov l (dw l s).1 (j0 #[61]) E _ G (λw' hc=>O w' (I w' hc).aF) J (gK M)).mono λ_ _ r=>r.mono λ_ _ h=>⟨trivial,h.2⟩
  rintro _ _ _ u;refine aY Ev u (H':=λ_=>bX p (eo lv ov (dw l (dW l (dw l s).1 (j0 #[61]))).1)) (Φ:=λv _=>v=.string (dw l (dW l (dw l s).1 (j0 #[61]))).2) (λE G I=>?_) ?_
  .exact C317 p lv ov l (dW l (dw l s).1 (j0 #[61])) E _ G (λw' hc=>O w' (I w' hc).aF) J (fH (gK M))
  rintro _ _ rfl u;refine aA fY (aR u.p1 gv (dQ rfl) (rfl) λ_ u=>?_);have u:=u.enc (cs':=kp (⟨B,(dw l s).2,(dw l (dW l (dw l s).1 (j0 #[61]))).2,cG,cG,0,0,0,a⟩:aZ)) rfl;intro yl;exact aE eD u.At (aM (x:=(⟨B,(dw l s).2,(dw l (dW l (dw l s).1 (j0 #[61]))).2,cG,cG,0,0,0,a⟩:aZ)) u.p2 eD rfl rfl λ_ u=>aE eD u.At (have u:=u.gE (Φ:=(λw=>n5 w (⟨B,(dw l s).2,(dw l (dW l (dw l s).1 (j0 #[61]))).2,cG,cG,0,0,0,a⟩:aZ) (⟨B,(dw l s).2,(dw l (dW l (dw l s).1 (j0 #[61]))).2,[],[],0,0,0,a⟩:bM))) (λ_=>⟨_,_,rfl,DL.nil _,DL.nil _⟩);have u:=u.p1.drop.p1.drop.p1;(xP u).mut))
 .obtain⟨q,e,U,rfl,rfl⟩:=TK hp sD;refine aY Ev u.p2 (H':=λ_=>bX p (eo lv ov (dw l s).1)) (Φ:=λv _=>v=.string (dw l s).2) (λE G I=>?_) ?_
  .exact C317 p lv ov l s E _ G (λw' hc=>O w' (I w' hc).aF) J M
  rintro _ _ rfl u;refine aA fY (aR u.p1 gv (dQ rfl) (rfl) λ_ u=>have u:=u.enc (cs':=kp (⟨B,(j0 #[]),(dw l s).2,cG,cG,0,0,0,a⟩:aZ)) rfl;aY yO u.p1 (H':=λ_=>bX p (eo lv ov (dW l (dw l s).1 (j0 #[61])))) (Φ:=λ_ _=>True) (λE G I=>?_) ?_)
  .exact(C257 p lv ov l (dw l s).1 (j0 #[61]) E _ G (λw' hc=>O w' (I w' hc).aF) J (gK M)).mono λ_ _ r=>r.mono λ_ _ h=>⟨trivial,h.2⟩
  rintro _ _ _ u;refine aY Lp u (H':=λv=>oO λY:SV=>fact (v=jr Y) (sep (bX p (eo lv ov Z)) (eC λw=>DL w (jr Y) e))) (Φ:=λ_ _=>True) (λE G I=>?_) ?_
  .exact(C318 p lv ov l (dW l (dw l s).1 (j0 #[61])) Z e E _ G (λw' hc=>O w' (I w' hc).aF) J (fH (gK M)) U).mono λ_ _ r=>r.mono λ_ _ h=>⟨trivial,h⟩
  rintro v_x40 _ _ W;obtain⟨QV,V⟩:=W.dK
  clear W
  obtain⟨ali,D8⟩:=V.j4
  clear V
  subst ali;have u:=D8.split;refine aA iV (aR u.p2 jo (dQ rfl) (rfl) λ_ u=>?_);have u:=u.enc (cs':=kp (⟨B,(j0 #[]),(dw l s).2,QV,cG,0,0,0,a⟩:aZ)) rfl;intro yl;exact aE eD u.At (aM (x:=(⟨B,(j0 #[]),(dw l s).2,QV,cG,0,0,0,a⟩:aZ)) u.p3 eD rfl rfl λ_ u=>aE eD u.At (have u:=u.p3.dH (Ψ:=(λw=>n5 w (⟨B,(j0 #[]),(dw l s).2,QV,cG,0,0,0,a⟩:aZ) (⟨B,(j0 #[]),(dw l s).2,e,[],0,0,0,a⟩:bM))) (λ_ h=>⟨_,_,rfl,id h,DL.nil _⟩);have u:=u.p1.drop.p1.drop.p1;(xP u).mut))
 .obtain⟨q,e,q2,f,U,hfx,rfl,rfl⟩:=TL hp we;refine aY Ev u.p2 (H':=λ_=>bX p (eo lv ov (dw l s).1)) (Φ:=λv _=>v=.string (dw l s).2) (λE G I=>?_) ?_
  .exact C317 p lv ov l s E _ G (λw' hc=>O w' (I w' hc).aF) J M
  rintro _ _ rfl u;refine aA iC (aR u.p1 gv (dQ rfl) (rfl) λ_ u=>have u:=u.enc (cs':=kp (⟨B,(dw l s).2,(j0 #[]),cG,cG,0,0,0,a⟩:aZ)) rfl;aY yO u.p1 (H':=λ_=>bX p (eo lv ov (dW l (dw l s).1 (j0 #[61])))) (Φ:=λ_ _=>True) (λE G I=>?_) ?_)
  .exact(C257 p lv ov l (dw l s).1 (j0 #[61]) E _ G (λw' hc=>O w' (I w' hc).aF) J (gK M)).mono λ_ _ r=>r.mono λ_ _ h=>⟨trivial,h.2⟩
  rintro _ _ _ u;refine aY Ev u (H':=λ_=>bX p (eo lv ov (dw l (dW l (dw l s).1 (j0 #[61]))).1)) (Φ:=λv _=>v=.string (dw l (dW l (dw l s).1 (j0 #[61]))).2) (λE G I=>?_) ?_
  .exact C317 p lv ov l (dW l (dw l s).1 (j0 #[61])) E _ G (λw' hc=>O w' (I w' hc).aF) J (fH (gK M))
  rintro _ _ rfl u;refine aA fY (aR u.p1 gv (dQ rfl) (rfl) λ_ u=>have u:=u.enc (cs':=kp (⟨B,(dw l s).2,(dw l (dW l (dw l s).1 (j0 #[61]))).2,cG,cG,0,0,0,a⟩:aZ)) rfl;aY yO u.p1 (H':=λ_=>bX p (eo lv ov (dW l (dw l (dW l (dw l s).1 (j0 #[61]))).1 (j0 #[44])))) (Φ:=λ_ _=>True) (λE G I=>?_) ?_)
  .exact(C257 p lv ov l (dw l (dW l (dw l s).1 (j0 #[61]))).1 (j0 #[44]) E _ G (λw' hc=>O w' (I w' hc).aF) J (gK (fH (gK M)))).mono λ_ _ r=>r.mono λ_ _ h=>⟨trivial,h.2⟩
  rintro _ _ _ u;refine aY Lp u (H':=λv=>oO λY:SV=>fact (v=jr Y) (sep (bX p (eo lv ov q)) (eC λw=>DL w (jr Y) e))) (Φ:=λ_ _=>True) (λE G I=>?_) ?_
  .exact(C318 p lv ov l (dW l (dw l (dW l (dw l s).1 (j0 #[61]))).1 (j0 #[44])) q e E _ G (λw' hc=>O w' (I w' hc).aF) J (fH (gK (fH (gK M)))) U).mono λ_ _ r=>r.mono λ_ _ h=>⟨trivial,h⟩
  rintro v_x55 _ _ W;obtain⟨F6,V⟩:=W.dK
  clear W
  obtain⟨alj,D8⟩:=V.j4
  clear V
  subst alj;have u:=D8.split;refine aA iV (aR u.p2 jo (dQ rfl) (rfl) λ_ u=>have u:=u.enc (cs':=kp (⟨B,(dw l s).2,(dw l (dW l (dw l s).1 (j0 #[61]))).2,F6,cG,0,0,0,a⟩:aZ)) rfl;aY yO u.p1 (H':=λ_=>bX p (eo lv ov (dW l q (j0 #[44])))) (Φ:=λ_ _=>True) (λE G I=>?_) ?_)
  .exact(C257 p lv ov l q (j0 #[44]) E _ G (λw' hc=>O w' (I w' hc).aF) J (sT (fH (gK (fH (gK M)))) U)).mono λ_ _ r=>r.mono λ_ _ h=>⟨trivial,h.2⟩
  rintro _ _ _ u;refine aY Lp u (H':=λv=>oO λY:SV=>fact (v=jr Y) (sep (bX p (eo lv ov Z)) (eC λw=>DL w (jr Y) f))) (Φ:=λ_ _=>True) (λE G I=>?_) ?_
  .exact(C318 p lv ov l (dW l q (j0 #[44])) Z f E _ G (λw' hc=>O w' (I w' hc).aF) J (fH (sT (fH (gK (fH (gK M)))) U)) hfx).mono λ_ _ r=>r.mono λ_ _ h=>⟨trivial,h⟩
  rintro v_x60 _ _ W;obtain⟨Cp,V⟩:=W.dK
  clear W
  obtain⟨alk,D8⟩:=V.j4
  clear V
  subst alk;have u:=D8.split;refine aA j1 (aR u.p2 jo (dQ rfl) (rfl) λ_ u=>?_);have u:=u.enc (cs':=kp (⟨B,(dw l s).2,(dw l (dW l (dw l s).1 (j0 #[61]))).2,F6,Cp,0,0,0,a⟩:aZ)) rfl;intro yl;exact aE eD u.At (aM (x:=(⟨B,(dw l s).2,(dw l (dW l (dw l s).1 (j0 #[61]))).2,F6,Cp,0,0,0,a⟩:aZ)) u.p4 eD rfl rfl λ_ u=>aE eD u.At (have u:=u.p4.p4.p1.fX.dH (Ψ:=(λw=>n5 w (⟨B,(dw l s).2,(dw l (dW l (dw l s).1 (j0 #[61]))).2,F6,Cp,0,0,0,a⟩:aZ) (⟨B,(dw l s).2,(dw l (dW l (dw l s).1 (j0 #[61]))).2,e,f,0,0,0,a⟩:bM))) (λ_ h=>⟨_,_,rfl,id h.1,id h.2⟩);have u:=u.p1.drop.p1.drop.p1;(xP u).mut))
 rintro _ _ ⟨rfl,hw⟩ _;subst hw;refine aC (λSw=>?_) (λSw=>⟨λjv w'=>jv=.bool (decide (B=11\/B=14))/\w3=w',aG (aC (λ_=>⟨vb cD,rfl⟩) λ_=>aG ⟨vb cD,rfl⟩),?_⟩)
 .obtain⟨rfl,rfl⟩:=TM hp Sw;refine aY Ev u.p2 (H':=λ_=>bX p (eo lv ov (dw l s).1)) (Φ:=λv _=>v=.string (dw l s).2) (λE G I=>?_) ?_
  .exact C317 p lv ov l s E _ G (λw' hc=>O w' (I w' hc).aF) J M
  rintro _ _ rfl u;refine aA fY (aR u.p1 gv (dQ rfl) (rfl) λ_ u=>?_);have u:=u.enc (cs':=kp (⟨B,(j0 #[]),(dw l s).2,cG,cG,0,0,0,a⟩:aZ)) rfl;intro yl;exact aE eD u.At (aM (x:=(⟨B,(j0 #[]),(dw l s).2,cG,cG,0,0,0,a⟩:aZ)) u.p2 eD rfl rfl λ_ u=>aE eD u.At (have u:=u.gE (Φ:=(λw=>n5 w (⟨B,(j0 #[]),(dw l s).2,cG,cG,0,0,0,a⟩:aZ) (⟨B,(j0 #[]),(dw l s).2,[],[],0,0,0,a⟩:bM))) (λ_=>⟨_,_,rfl,DL.nil _,DL.nil _⟩);have u:=u.p1.drop.p1.drop.p1;(xP u).mut))
 rintro _ _ ⟨rfl,hw⟩ _;subst hw;refine aC (λFe=>?_) (λFe=>aG (aC (λaas=>?_) λaas=>?_))
 .obtain⟨q,e,U,rfl,rfl⟩:=NP hp Fe;refine aY Lp u.p2 (H':=λv=>oO λY:SV=>fact (v=jr Y) (sep (bX p (eo lv ov Z)) (eC λw=>DL w (jr Y) e))) (Φ:=λ_ _=>True) (λE G I=>?_) ?_
  .exact(C318 p lv ov l s Z e E _ G (λw' hc=>O w' (I w' hc).aF) J M U).mono λ_ _ r=>r.mono λ_ _ h=>⟨trivial,h⟩
  rintro v_x74 _ _ W;obtain⟨QW,V⟩:=W.dK
  clear W
  obtain⟨alm,D8⟩:=V.j4
  clear V
  subst alm;have u:=D8.split;refine aA iV (aR u.p2 jo (dQ rfl) (rfl) λ_ u=>?_);have u:=u.enc (cs':=kp (⟨B,(j0 #[]),(j0 #[]),QW,cG,0,0,0,a⟩:aZ)) rfl;intro yl;exact aE eD u.At (aM (x:=(⟨B,(j0 #[]),(j0 #[]),QW,cG,0,0,0,a⟩:aZ)) u.p3 eD rfl rfl λ_ u=>aE eD u.At (have u:=u.p3.dH (Ψ:=(λw=>n5 w (⟨B,(j0 #[]),(j0 #[]),QW,cG,0,0,0,a⟩:aZ) (⟨B,(j0 #[]),(j0 #[]),e,[],0,0,0,a⟩:bM))) (λ_ h=>⟨_,_,rfl,id h,DL.nil _⟩);have u:=u.p1.drop.p1.drop.p1;(xP u).mut))
 .obtain⟨rfl,rfl⟩:=NQ hp aas;refine aY aoz u.p2 (H':=λ_=>bX p (eo lv ov (kU l s).1)) (Φ:=λv _=>v=ir (kU l s).2) (λE G I=>?_) ?_
  .exact C319 p lv ov l s E _ G (λw' hc=>O w' (I w' hc).aF) J M
  rintro _ _ rfl u;refine aA jH (aR u.p1 bO (dQ rfl) (rfl) λ_ u=>?_);have u:=u.enc (cs':=kp (⟨B,(j0 #[]),(j0 #[]),cG,cG,(kU l s).2,0,0,a⟩:aZ)) rfl;intro yl;exact aE eD u.At (aM (x:=(⟨B,(j0 #[]),(j0 #[]),cG,cG,(kU l s).2,0,0,a⟩:aZ)) u.p2 eD rfl rfl λ_ u=>aE eD u.At (have u:=u.gE (Φ:=(λw=>n5 w (⟨B,(j0 #[]),(j0 #[]),cG,cG,(kU l s).2,0,0,a⟩:aZ) (⟨B,(j0 #[]),(j0 #[]),[],[],(kU l s).2,0,0,a⟩:bM))) (λ_=>⟨_,_,rfl,DL.nil _,DL.nil _⟩);have u:=u.p1.drop.p1.drop.p1;(xP u).mut))
 obtain⟨rfl,rfl⟩:=NR hp xm m8 sD we Sw Fe aas;intro yl;exact aE eD u.At (aM (x:=(⟨B,(j0 #[]),(j0 #[]),cG,cG,0,0,0,a⟩:aZ)) u.p1 eD rfl rfl λ_ u=>aE eD u.At (have u:=u.gE (Φ:=(λw=>n5 w (⟨B,(j0 #[]),(j0 #[]),cG,cG,0,0,0,a⟩:aZ) (⟨B,(j0 #[]),(j0 #[]),[],[],0,0,0,a⟩:bM))) (λ_=>⟨_,_,rfl,DL.nil _,DL.nil _⟩);have u:=u.p1.drop.p1.drop.p1;(xP u).mut))
def iH(l:List bQ)(a:Int):Nat->Int
 | 0=>1
 | n+1=>if tT l a (Ir ((n:Int)+2))=true then(n:Int)+2 else iH l a n
theorem TN{l:List bQ}{a:Int}:∀n:Nat,1<=iH l a n/\iH l a n<=(n:Int)+1
 | 0=>by unfold iH;omega
 | n+1=>by
  have:=TN (l:=l) (a:=a) n
  unfold iH
  omega
theorem NS{l:List bQ}{a:Int}:∀n:Nat,iH l a n=1\/∃t,tT l a t=true
 | 0=>.inl rfl
 | n+1=>by
  unfold iH
  split
  .grind
  .exact NS n
def Is{l:List bQ}{a:Int}{n:Nat}(h:tT l a (Ir ((n:Int)+2))=true):iH l a (n+1)=(n:Int)+2:=ej h
def It{l:List bQ}{a:Int}{n:Nat}(h:¬ tT l a (Ir ((n:Int)+2))=true):iH l a (n+1)=iH l a n:=ei h
def s1S(l:List bQ)(s:fQ):fQ:=if iH l s.at_ 13≠1 then {s with at_:=s.at_+1}else s
def Ki{l:List bQ}{s:fQ}(h:lE l s):lE l (s1S l s):=by
 unfold s1S
 split
 .rename_i h1
  rcases NS (l:=l) (a:=s.at_) 13 with h2|⟨t,h2⟩
  .omega
  have:=sS h2
  exact⟨cD,cD⟩
 exact h
abbrev ahU:ByteArray:=⟨#[101,108,115,101]⟩
def kF(l:List bQ)(u:Int)(s:fQ):Bool:=decide (u=11)&&decide (s.e=0)&&tT l s.at_ ahU
def Vq(s:fQ):fQ:={s with at_:=s.at_+1}
abbrev afb:=fQ->Int->Int->Option (fQ×List bM)
def Dx(l:List bQ)(bX:afb)(s:fQ)(d lp:Int):Option (fQ×List bM):=
 if iH l s.at_ 13=13/\lp=0 then some (js l s 5,[])
 else(kV l (s1S l s) (iH l s.at_ 13) (nq l s.at_)).bind λr=>
  if iH l s.at_ 13≠11/\iH l s.at_ 13≠12 then some (dW l r.1 ⟨#[59]⟩,[r.2])
  else(bX r.1 (d+1) (if iH l s.at_ 13=12 then lp+1 else lp)).bind λq=>
   if kF l (iH l s.at_ 13) q.1=true then(bX (Vq q.1) (d+1) lp).bind λt=>some (t.1,{r.2 with body:=(q.2.length:Int),ep:=(t.2.length:Int)}::(q.2++t.2))
   else some (q.1,{r.2 with body:=(q.2.length:Int)}::q.2)
section
variable {l:List bQ}{bX:afb}{s s':fQ}{d lp:Int}{add:List bM}
theorem TO(h:Dx l bX s d lp=some (s',add))(hb:iH l s.at_ 13=13/\lp=0):s'=js l s 5/\add=[]:=by
 unfold Dx at h;grind
theorem aat(h:Dx l bX s d lp=some (s',add))(hb:¬ (iH l s.at_ 13=13/\lp=0)):∃u x,kV l (s1S l s) (iH l s.at_ 13) (nq l s.at_)=some (u,x)/\
  (if iH l s.at_ 13≠11/\iH l s.at_ 13≠12 then some (dW l u ⟨#[59]⟩,[x])
  else(bX u (d+1) (if iH l s.at_ 13=12 then lp+1 else lp)).bind λq=>
   if kF l (iH l s.at_ 13) q.1=true then(bX (Vq q.1) (d+1) lp).bind λt=>some (t.1,{x with body:=(q.2.length:Int),ep:=(t.2.length:Int)}::(q.2++t.2))
   else some (q.1,{x with body:=(q.2.length:Int)}::q.2))=some (s',add):=by
 unfold Dx at h;rw[ei hb]at h
 obtain⟨p,q,h1,h2⟩:=eN h
 grind
theorem TP{u:Int}{I:fQ}{x:bM}(h:(if u≠11/\u≠12 then some (dW l I ⟨#[59]⟩,[x])
  else(bX I (d+1) (if u=12 then lp+1 else lp)).bind λq=>
   if kF l u q.1=true then(bX (Vq q.1) (d+1) lp).bind λt=>some (t.1,{x with body:=(q.2.length:Int),ep:=(t.2.length:Int)}::(q.2++t.2))
   else some (q.1,{x with body:=(q.2.length:Int)}::q.2))=some (s',add)) (M:¬ (u≠11/\u≠12)) :
  ∃B E,bX I (d+1) (if u=12 then lp+1 else lp)=some (B,E)/\
   ((kF l u B=true/\∃J G,bX (Vq B) (d+1) lp=some (J,G)/\s'=J/\add={x with body:=(E.length:Int),ep:=(G.length:Int)}::(E++G))\/
    (kF l u B=false/\s'=B/\add={x with body:=(E.length:Int)}::E)):=by
 rw[ei M]at h
 obtain⟨B,E,h1,h2⟩:=eN h
 refine⟨B,E,h1,?_⟩
 dsimp only at h2
 cases he:kF l u B with
 | true=>
  rw[he,ej rfl]at h2
  obtain⟨J,G,h3,h4⟩:=eN h2
  grind
 | false=>
  grind
theorem Iu{u:Int}{B:fQ}{x:bM}(h:(if u≠11/\u≠12 then some (dW l B ⟨#[59]⟩,[x])
  else(bX B (d+1) (if u=12 then lp+1 else lp)).bind λq=>
   if kF l u q.1=true then(bX (Vq q.1) (d+1) lp).bind λt=>some (t.1,{x with body:=(q.2.length:Int),ep:=(t.2.length:Int)}::(q.2++t.2))
   else some (q.1,{x with body:=(q.2.length:Int)}::q.2))=some (s',add)) (E:u≠11/\u≠12):s'=dW l B ⟨#[59]⟩/\add=[x]:=by
 grind
end
abbrev Db:ByteArray:=⟨#[123]⟩
abbrev oA:ByteArray:=⟨#[125]⟩
def tW(l:List bQ)(one:fQ->Option (fQ×List bM)):Nat->fQ->Option (fQ×List bM)
 | 0,_=>none
 | m+1,s=>if (decide (s.e=0)&&!tT l s.at_ oA)=true then(one s).bind λr=>(tW l one m r.1).bind λq=>some (q.1,r.2++q.2)else some (s,[])
def Wm(l:List bQ)(s:fQ)(d:Int):fQ:=if (decide (12<d)&&tT l s.at_ Db)=true then js l s 7 else s
def QX{l:List bQ}{s:fQ}{d:Int}(h:lE l s):lE l (Wm l s d):=by unfold Wm;split;exact tV h;exact h
def Wn(l:List bQ):Nat->afb
 | 0=>λ_ _ _=>none
 | k+1=>λs d lp=>(tW l (λs=>Dx l (Wn l k) s d lp) 10000 (dW l (Wm l s d) Db)).bind λr=>some (dW l r.1 oA,r.2)
section
variable {l:List bQ}{one:fQ->Option (fQ×List bM)}{s s':fQ}{d lp:Int}{add:List bM}{m:Nat}
theorem Iv(h:tW l one m s=some (s',add)):∃k,m=k+1:=by
 cases m with
 | zero=>cases h
 | succ k=>grind
theorem Gh(h:tW l one (m+1) s=some (s',add))(hb:(decide (s.e=0)&&!tT l s.at_ oA)=false):s'=s/\add=[]:=by
 unfold tW at h;grind
theorem Kj(h:tW l one (m+1) s=some (s',add))(hb:(decide (s.e=0)&&!tT l s.at_ oA)=true):∃E u B,one s=some (E,u)/\tW l one m E=some (s',B)/\add=u++B:=by
 unfold tW at h;rw[hb,ej rfl]at h
 obtain⟨E,u,h1,h2⟩:=eN h
 obtain⟨G,B,h3,h4⟩:=eN h2
 grind
theorem aau{k:Nat}(h:Wn l (k+1) s d lp=some (s',add)):∃u,tW l (λs=>Dx l (Wn l k) s d lp) 10000 (dW l (Wm l s d) Db)=some (u,add)/\s'=dW l u oA:=by
 unfold Wn at h
 obtain⟨u,B,h1,h2⟩:=eN h
 grind
end
def QY{l:List bQ}{bX:afb}{s s':fQ}{d lp:Int}{add:List bM}(hb:∀s d lp s' a,lE l s->bX s d lp=some (s',a)->lE l s')(G:lE l s)(h:Dx l bX s d lp=some (s',add)):lE l s':=by
 by_cases h1:iH l s.at_ 13=13/\lp=0
 .rw[(TO h h1).1];exact tV G
 obtain⟨O,x,h2,h3⟩:=aat h h1
 have u:=CD (Ki G) h2
 by_cases h4:iH l s.at_ 13≠11/\iH l s.at_ 13≠12
 .rw[(Iu h3 h4).1];exact fH u
 obtain⟨V,W,h5,h6⟩:=TP h3 h4
 have J:=hb _ _ _ _ _ u h5
 rcases h6 with⟨B,U,M,I,E,_⟩|⟨_,E,_⟩
 .rw[E]
  refine hb _ _ _ _ _ ?_ I
  unfold kF at B
  rw[oj]at B
  have:=sS B.2
  grind[lE,Vq]
 grind
theorem TQ{l:List bQ}{one:fQ->Option (fQ×List bM)}(u:∀s s' a,lE l s->one s=some (s',a)->lE l s'):∀{m:Nat}{s s':fQ}{add:List bM},lE l s->tW l one m s=some (s',add)->lE l s'
 | 0,_,_,_,_,h=>by cases h
 | m+1,s,s',add,B,h=>by
  cases hb:(decide (s.e=0)&&!tT l s.at_ oA)with
  | false=>rw[(Gh h hb).1];exact B
  | true=>
   obtain⟨I,G,E,h1,h2,_⟩:=Kj h hb
   exact TQ u (u _ _ _ B h1) h2
theorem QZ{l:List bQ}:∀{k:Nat}{s s':fQ}{d lp:Int}{add:List bM},lE l s->Wn l k s d lp=some (s',add)->lE l s'
 | 0,_,_,_,_,_,_,h=>by cases h
 | k+1,s,s',d,lp,add,u,h=>by
  obtain⟨B,h1,h2⟩:=aau h
  rw[h2]
  exact fH (TQ (λ_ _ _ a b=>QY (λ_ _ _ _ _ c e=>QZ c e) a b) (fH (QX u)) h1)
def pT(p:Nat)(lv:Value)(s:fQ)(out:List bM)(Q:hM):HP:=oO λov:Value=>oO λts:List aZ=>sep (bX p (eo lv ov s)) (sep (bF ov ts) (eC λw=>gd ts out w/\Q w))
section
variable {w0 w:World}{A:Nat->Prop}{L:List HP}{p:Nat}{lv:Value}{s:fQ}{out:List bM}{Q:hM}
theorem pT.open(u:St w0 A (pT p lv s out Q::L) w):∃(ov:Value) (ts:List aZ),St w0 A (bX p (eo lv ov s)::bF ov ts::eC (λw=>gd ts out w/\Q w)::L) w:=by
 obtain⟨ov,h1⟩:=u.dK
 obtain⟨ts,h2⟩:=h1.dK
 exact⟨ov,ts,h2.split.p1.split.p2⟩
theorem pT.shut{ov:Value}{ts:List aZ}(u:St w0 A (bX p (eo lv ov s)::bF ov ts::eC (λw=>gd ts out w/\Q w)::L) w):St w0 A (pT p lv s out Q::L) w:=
 St.dT (H:=λov:Value=>oO λts:List aZ=>sep (bX p (eo lv ov s)) (sep (bF ov ts) (eC λw=>gd ts out w/\Q w))) ov (St.dT (H:=λts:List aZ=>sep (bX p (eo lv ov s)) (sep (bF ov ts) (eC λw=>gd ts out w/\Q w))) ts (St.join u.p2.p2.join.p1))
end
def aln(l:List bQ)(k:Nat):Prop:=∀(p:Nat) (lv:Value) (s:fQ) (d lp:Int) (out:List bM) (u:fQ) (add:List bM) (Q:hM) (F:Nat->Prop) (w:World),
 (pT p lv s out Q).p w F->(∀w',gD F w w'->cZ (λ_=>True) w' lv l)->lE l s->0<=d/\d+k<=1001->0<=lp/\lp+k<=1001->out.length+add.length<=1000000->Wn l k s d lp=some (u,add)->
 Calls hH 293 [.pointer (some ⟨p,0,none⟩),ir d,ir lp].toArray w (tu λv w'=>v=ir (add.length:Int)/\mT F (pT p lv u (out++add) Q) w w')
def afc{w:World}{u:aZ}{x:bM}(h:n5 w u x):DL w (jr u.e) x.e:=by obtain⟨_,_,rfl,h,_⟩:=h;exact h
def afd{w:World}{u:aZ}{x:bM}(h:n5 w u x):DL w (jr u.f) x.f:=by obtain⟨_,_,rfl,_,h⟩:=h;exact h
def Q0{l:List bQ}{u:Int}{s:fQ}(h:kF l u s=true):lE l (Vq s):=by
 unfold kF at h
 rw[oj]at h
 have:=sS h.2
 grind[lE,Vq]
def afe{α σ:Type}[Flat σ][Deep α σ]{w:World}{ts:List σ}{xs:List α}{i:Nat}{t:σ}{x:α}(h:gd ts xs w)(ht:n5 w t x):gd (ts.set i t) (xs.set i x) w:=by
 grind[gd]
theorem aav{α:Type}{a b:List α}{x y:α}:(a++x::b).set a.length y=a++y::b:=by
 grind
def C256(p:Nat)(lv:Value)(l:List bQ)(s:fQ)(k:Nat)(d lp:Int)(out:List bM)(s2:fQ)(add:List bM)(Q:hM)(F:Nat->Prop)(w:World)(hF:(pT p lv s out Q).p w F)(W:∀w',gD F w w'->cZ (λ_=>True) w' lv l)(hk:jg l)(h0:lE l s)(HB:aln l k)(hd:0<=d/\d+k<=1000)(hlp:0<=lp/\lp+k<=1000)(GJ:out.length+add.length<=1000000)(hr:Dx l (Wn l k) s d lp=some (s2,add)):CR 256 [(.pointer (some ⟨p,0,none⟩)),ir d,ir lp] w (λv w'=>v=.tuple #[]/\mT F (pT p lv s2 (out++add) Q) w w'):=by
 have u:=St.begin hF;obtain⟨ov,ts,u⟩:=pT.open u;have Hu:ts.length=out.length:=u.p2.eC.1.1;have D1:=hk.n;have hn:l.length<=1000000:=bL
 have px:=hk.at_;obtain⟨TG,TH⟩:=id h0;refine acO _ _ _ _ _ ?_;unfold S256;refine aD (aA iE (have u:=u.drew;aB jj u.hb rfl (aD (aA eY (aB bO u.hb rfl (aV Hl u (C214 _ l s.at_ _ (W _ u.aF) hn px) λ_ he u=>?_))))));have u:=u.p2.p2.p2;refine⟨λmm a b w'=>∃j:Nat,a=ir (iH l s.at_ j)/\b=ir ((j:Int)+2)/\mm=13-j/\j<=13/\St w F [bX p (eo lv ov s),bF ov ts,eC λw=>gd ts out w/\Q w] w',⟨_,0,rfl,rfl,rfl,l2 _,u⟩,?_⟩;rintro mm _ _ w2 ⟨j,rfl,rfl,rfl,hj,u⟩ _;refine gu (aC (λik=>?_) λik=>?_)
 .refine⟨_,?_,λ_ _ h=>h⟩;refine aD (aA iE (have u:=u.drew;aB jj u.hb rfl (aD (aA eY (aB bO u.hb rfl (aV aoo u (C290 ((j:Int)+2) _ bL) λ_ he u=>?_))))));refine⟨aH jj (u.hb.cell rfl),?_⟩;refine⟨aH bO (u.hb.cell rfl),?_⟩;refine aV vZ u (C209 _ l s.at_ (Ir ((j:Int)+2)) _ (W _ u.aF) hn) (λ_ he u=>aW (λlj=>?_) λlj=>?_)
  .intro vp;refine aJ bL ?_;exact⟨_,bL,j+1,gL (n3 .i64) (by first|exact(Is lj).symm|exact(It (by rw[lj];simp)).symm),gL (n3 .i64) bL,rfl,bL,u⟩
  .intro vp;refine aJ bL ?_;exact⟨_,bL,j+1,gL (n3 .i64) (by first|exact(Is lj).symm|exact(It (by rw[lj];simp)).symm),gL (n3 .i64) bL,rfl,bL,u⟩
 .obtain rfl:j=13:=bL
  have XU:=TN (l:=l) (a:=s.at_) 13;refine⟨λjv w'=>jv=.bool (decide ((iH l s.at_ 13)=13/\lp=0))/\w2=w',?_,?_⟩
  .refine aG (aC (λqZ=>?_) λqZ=>?_)
   .refine aG ?_;exact⟨yd bL,rfl⟩
   .exact⟨Uf bL,rfl⟩
  .rintro _ _ ⟨rfl,hw⟩ _;subst hw;refine aC (λqC=>?_) (λqC=>?_)
   .refine aY Hn u (H':=λ_=>bX p (eo lv ov (js l s 5))) (Φ:=λ_ _=>True) (λM U O=>?_) ?_
    .exact(C291 p lv ov l s 5 M _ U (λw' hc=>W w' (O w' hc).aF) hk h0).mono λ_ _ r=>r.mono λ_ _ h=>⟨trivial,h.2⟩
    rintro _ _ _ u;obtain⟨e1,e2⟩:=TO hr qC;rw[e1,e2,qb];exact⟨rfl,(pT.shut u).mut⟩
   .refine⟨λw'=>St w F [bX p (eo lv ov (s1S l s)),bF ov ts,eC λw=>gd ts out w/\Q w] w',?_,?_⟩
    .refine bW (aC (λxk=>?_) λxk=>?_)
     .refine aD (aA eY (aB bO u.hb rfl (aJ bL (aD (aA eY (aR u bO (dQ rfl) (rfl) λ_ u=>?_))))));have u:=u.p2.p2.p2;have UY:(s1S l s)={s with at_:=s.at_+1}:=by unfold s1S;rw[ej bL]
      rw[UY];exact u
     .have u:=u.p2.p2.p2;have UY:(s1S l s)=s:=by unfold s1S;rw[ei bL]
      rw[UY];exact u
    .intro _ u _;obtain⟨q,x,ng,GH⟩:=aat hr qC;refine aY aop u (H':=λv=>oO λsh:aZ=>fact (v=jr sh) (sep (bX p (eo lv ov q)) (eC λw=>n5 w sh x))) (Φ:=λ_ _=>True) (λM U O=>?_) ?_
     .exact(C292 p lv ov l (s1S l s) (iH l s.at_ 13) (nq l s.at_) q x M _ U (λw' hc=>W w' (O w' hc).aF) hk (Ki h0) ng).mono λ_ _ r=>r.mono λ_ _ h=>⟨trivial,h⟩
     rintro v_x58 _ _ xE;obtain⟨azG,zh⟩:=xE.dK
     clear xE
     obtain⟨alo,D8⟩:=zh.j4
     clear zh
     subst alo;have u:=D8.split
     clear D8
     obtain⟨E,B,alp,hde,hdf⟩:=u.p1.eC;subst alp;refine aQ u iN (λB9 _ u=>have u:=u.enc (cs':=kp (⟨0,(j0 #[]),(j0 #[]),cG,cG,0,0,0,0⟩:aZ)) rfl;aM (x:=(⟨x.kind,x.ey,x.name,E,B,x.n,x.body,x.ep,x.at_⟩:aZ)) u eD rfl rfl λ_ u=>aD (aA qp (aB jG u.p1.hb rfl (aI fk u.p3.dS (aD (aA qp (have u:=u.drew;aB jG u.p1.hb rfl (aE eD u.At (bD ([(⟨x.kind,x.ey,x.name,E,B,x.n,x.body,x.ep,x.at_⟩:aZ)]) u fk rfl rfl (dQ rfl) λahF _ u=>?_)))))))))
     refine⟨aH jG (u.p2.hb.cell rfl),?_⟩;have alq:=u.dS;refine bJ u.p4 fk alq (by simp;omega) dy (λTR _ u=>have u:=u.p1.drop;aD (aA qp (aR u.p2 jG (dQ rfl) u.dS.one λ_ u=>?_)));refine⟨λjv w'=>jv=.bool (decide ((iH l s.at_ 13)≠11/\(iH l s.at_ 13)≠12))/\St w F [bX p (eo lv TR q),bF TR (ts++[(⟨x.kind,x.ey,x.name,E,B,x.n,x.body,x.ep,x.at_⟩:aZ)]),eC (λw=>gd (ts++[(⟨x.kind,x.ey,x.name,E,B,x.n,x.body,x.ep,x.at_⟩:aZ)]) (out++[x]) w/\(λw=>Q w/\n5 w (⟨x.kind,x.ey,x.name,E,B,x.n,x.body,x.ep,x.at_⟩:aZ) x) w),bX B9 (kp (⟨x.kind,x.ey,x.name,E,B,x.n,x.body,x.ep,x.at_⟩:aZ))] w',?_,?_⟩
     .refine bW (aC (λasF=>?_) λasF=>?_)
      .refine bW ?_;have u:=u.p3.p4.fX.dH (Ψ:=λw=>gd (ts++[(⟨x.kind,x.ey,x.name,E,B,x.n,x.body,x.ep,x.at_⟩:aZ)]) (out++[x]) w/\(λw=>Q w/\n5 w (⟨x.kind,x.ey,x.name,E,B,x.n,x.body,x.ep,x.at_⟩:aZ) x) w) (λ_ h=>⟨h.1.1.snoc h.2,h.1.2,h.2⟩);have u:=u.p3.p1.p3.p3;exact⟨vb cD,u⟩
      .have u:=u.p3.p4.fX.dH (Ψ:=λw=>gd (ts++[(⟨x.kind,x.ey,x.name,E,B,x.n,x.body,x.ep,x.at_⟩:aZ)]) (out++[x]) w/\(λw=>Q w/\n5 w (⟨x.kind,x.ey,x.name,E,B,x.n,x.body,x.ep,x.at_⟩:aZ) x) w) (λ_ h=>⟨h.1.1.snoc h.2,h.1.2,h.2⟩);have u:=u.p3.p1.p3.p3;exact⟨vb cD,u⟩
     .rintro _ w16 ⟨rfl,u⟩ _;refine aC (λSv=>?_) (λSv=>?_)
      .refine aY yO u (H':=λ_=>bX p (eo lv TR (dW l q (j0 #[59])))) (Φ:=λ_ _=>True) (λM U O=>?_) ?_
       .exact(C257 p lv TR l q (j0 #[59]) M _ U (λw' hc=>W w' (O w' hc).aF) hk (CD (Ki h0) ng)).mono λ_ _ r=>r.mono λ_ _ h=>⟨trivial,h.2⟩
       rintro _ _ _ u;have u:=u.p3.drop.p1.p1.p2.dH (Ψ:=λw=>gd (ts++[(⟨x.kind,x.ey,x.name,E,B,x.n,x.body,x.ep,x.at_⟩:aZ)]) (out++[x]) w/\Q w) (λ_ h=>⟨h.1,h.2.1⟩);have u:=u.p2.p2;obtain⟨e1,e2⟩:=Iu GH Sv;rw[e1,e2];exact⟨rfl,(pT.shut u).mut⟩
      .refine⟨λjv w'=>jv=ir (if (iH l s.at_ 13)=12 then lp+1 else lp)/\w16=w',?_,?_⟩
       .refine aG (aC (λasG=>?_) λasG=>?_)
        .refine aJ bL ?_;exact⟨by rw[ej bL],rfl⟩
        .exact⟨by rw[ei bL],rfl⟩
       .rintro _ _ ⟨rfl,hw⟩ _;subst hw;refine aJ bL ?_;have u:=pT.shut u.p2.p2.p2;obtain⟨V,G,KJ,Y⟩:=TP GH Sv;have hm1:G.length<add.length:=by rcases Y with⟨_,s5,m2,_,_,e⟩|⟨_,_,e⟩<;>rw[e]<;>simp<;>omega
        refine aY agB u (H':=λ_=>pT p lv V ((out++[x])++G) λw=>Q w/\n5 w (⟨x.kind,x.ey,x.name,E,B,x.n,x.body,x.ep,x.at_⟩:aZ) x) (Φ:=λv _=>v=ir (G.length:Int)) (λM U O=>?_) ?_
        .exact HB p lv q (d+1) (if (iH l s.at_ 13)=12 then lp+1 else lp) (out++[x]) V G (λw=>Q w/\n5 w (⟨x.kind,x.ey,x.name,E,B,x.n,x.body,x.ep,x.at_⟩:aZ) x) M _ U (λw' hc=>W w' (O w' hc).aF) (CD (Ki h0) ng) bL (by split<;>omega) (by rw[l0,nh];omega) KJ
        rintro _ _ rfl u;obtain⟨ov3,vF,u⟩:=pT.open u;refine aA iW (aR u.p3 bO (dQ rfl) (rfl) λ_ u=>?_);have u:=u.enc (cs':=kp (⟨x.kind,x.ey,x.name,E,B,x.n,(G.length:Int),x.ep,x.at_⟩:aZ)) rfl;refine⟨λw'=>∃(bd el:Int) (rest:List bM),add={x with body:=bd,ep:=el}::rest/\St w F [pT p lv s2 ((out++[x])++rest) (λw=>Q w/\n5 w (⟨x.kind,x.ey,x.name,E,B,x.n,x.body,x.ep,x.at_⟩:aZ) x),bX B9 (kp (⟨x.kind,x.ey,x.name,E,B,x.n,bd,el,x.at_⟩:aZ))] w',?_,?_⟩
        .refine⟨λjv w'=>jv=.bool (kF l (iH l s.at_ 13) V)/\St w F [bX p (eo lv ov3 V),bF ov3 vF,eC (λw=>gd vF ((out++[x])++G) w/\(λw=>Q w/\n5 w (⟨x.kind,x.ey,x.name,E,B,x.n,x.body,x.ep,x.at_⟩:aZ) x) w),bX B9 (kp (⟨x.kind,x.ey,x.name,E,B,x.n,(G.length:Int),x.ep,x.at_⟩:aZ))] w',?_,?_⟩
         .refine aG (aC (λIw=>?_) λIw=>?_)
          .refine aD (aA kL (have u:=u.drew;aB jE u.p1.hb rfl (aG (aC (λCe=>?_) λCe=>?_))))
           .refine aD (aA iE (aB jj u.p1.hb rfl (aD (aA eY (aB bO u.p1.hb rfl (aV vZ u (C209 _ l V.at_ (j0 #[101,108,115,101]) _ (W _ u.aF) hn) λ_ he u=>?_))))));have u:=u.p3.p3.p3;exact⟨vb (by unfold kF;rw[ew Iw,ew Ce];rfl),u⟩
           .have u:=u.p3.p3.p3;exact⟨vb (by unfold kF;first|(rw[ez Iw];rfl)|(rw[ew Iw,ez Ce];rfl)),u⟩
          .have u:=u.drew.p3.p3.p3;exact⟨vb (by unfold kF;first|(rw[ez Iw];rfl)|(rw[ew Iw,ez Ce];rfl)),u⟩
         .rintro _ _ ⟨rfl,u⟩ _;refine aW (λI=>?_) (λI=>?_)
          .obtain⟨J,s5,m2,hb2,e5,Z⟩|⟨J,_⟩:=Y
           rotate_left
           .rw[J]at I;cases I
           subst e5;have hin3:=sS (show tT l V.at_ ahU=true by unfold kF at I;rw[oj]at I;exact I.2);refine aD (aA eY (aB bO u.hb rfl (aJ bL (aD (aA eY (aR u bO (dQ rfl) (rfl) λ_ u=>aJ bL ?_))))));have u:=pT.shut (s:=Vq V) u.p2.p2.p2;have hkd11:(iH l s.at_ 13)=11:=by unfold kF at I;simp at I;exact I.1.1
           rw[ei (show ¬ (iH l s.at_ 13)=12 by omega)];refine aY agB u (H':=λ_=>pT p lv s2 (((out++[x])++G)++m2) λw=>Q w/\n5 w (⟨x.kind,x.ey,x.name,E,B,x.n,x.body,x.ep,x.at_⟩:aZ) x) (Φ:=λv _=>v=ir (m2.length:Int)) (λM U O=>?_) ?_
           .exact HB p lv (Vq V) (d+1) lp ((out++[x])++G) s2 m2 (λw=>Q w/\n5 w (⟨x.kind,x.ey,x.name,E,B,x.n,x.body,x.ep,x.at_⟩:aZ) x) M _ U (λw' hc=>W w' (O w' hc).aF) (Q0 I) bL bL (by have:=gL List.length Z;simp at this |-;omega) hb2
           rintro _ _ rfl u;rw[n4 (out++[x])]at u;refine aA iD (aR u.p1 bO (dQ rfl) (rfl) λ_ u=>?_);have u:=u.enc (cs':=kp (⟨x.kind,x.ey,x.name,E,B,x.n,(G.length:Int),(m2.length:Int),x.at_⟩:aZ)) rfl;have u:=u.p1;exact⟨_,_,_,Z,u⟩
          .obtain⟨J,_⟩|⟨J,e5,Z⟩:=Y
           .rw[J]at I;cases I
           subst e5;have u:=((pT.shut u.p2.p2.p2).p1).p1;exact⟨(G.length:Int),x.ep,G,Z,u⟩
        .rintro _ ⟨bd,el,rest,Z,u⟩ _;obtain⟨ov5,ts5,u⟩:=pT.open u;refine aD (aA qp (have u:=u.drew;aB jG u.hb rfl (aE eD u.p3.At ?_)));have h5l:ts5.length=(out++[x]++rest).length:=u.p2.eC.1.1;have h6l:=gL List.length Z;simp only[l0,List.length_cons,Ld]at h5l h6l;obtain⟨azH,auP⟩:=gx ts5 (i:=(ts.length:Int).toNat) bL;refine dG u.p1 fk bL bL (λ_ alr=>iM _ u.p1 eD alr bL λ_ u=>?_);have u:=u.p3.drop.p1.p2.dH (Ψ:=λw=>gd (ts5.set (ts.length:Int).toNat (⟨x.kind,x.ey,x.name,E,B,x.n,bd,el,x.at_⟩:aZ)) (out++add) w/\Q w) (λ_ h=>⟨by
  have hh:=afe (i:=(ts.length:Int).toNat) (t:=(⟨x.kind,x.ey,x.name,E,B,x.n,bd,el,x.at_⟩:aZ)) (x:={x with body:=bd,ep:=el}) h.1 ⟨E,B,rfl,afc (x:=x) h.2.2,afd (x:=x) h.2.2⟩;rw[show(ts.length:Int).toNat=out.length from bL,n4,List.singleton_append,aav]at hh
  rw[Z,show(ts.length:Int).toNat=out.length from bL];exact hh,h.2.1⟩)
         have u:=u.p2.p2;exact⟨rfl,(pT.shut u).mut⟩
def C293(p:Nat)(lv:Value)(l:List bQ)(s:fQ)(k:Nat)(d lp:Int)(out:List bM)(s2:fQ)(add:List bM)(Q:hM)(F:Nat->Prop)(w:World)(hF:(pT p lv s out Q).p w F)(U:∀w',gD F w w'->cZ (λ_=>True) w' lv l)(O:jg l)(Y:lE l s)(HB:aln l k)(hd:0<=d/\d+k<=1000)(hlp:0<=lp/\lp+k<=1000)(GJ:out.length+add.length<=1000000)(hr:Wn l (k+1) s d lp=some (s2,add)):CR 293 [(.pointer (some ⟨p,0,none⟩)),ir d,ir lp] w (λv w'=>v=ir (add.length:Int)/\mT F (pT p lv s2 (out++add) Q) w w'):=by
 have u:=St.begin hF;obtain⟨ov,ts,u⟩:=pT.open u;have Hu:ts.length=out.length:=u.p2.eC.1.1;obtain⟨s9,U4,e2⟩:=aau hr;have D1:=O.n;have hn:l.length<=1000000:=bL
 have px:=O.at_;obtain⟨TG,TH⟩:=id Y;refine pj Tryz.func293 (pl:=awp) ?_;refine aD (aA qp (aB jG u.hb rfl (aI fk u.p1.dS ⟨λw'=>St w F [bX p (eo lv ov (Wm l s d)),bF ov ts,eC λw=>gd ts out w/\Q w] w',⟨λjv w'=>jv=.bool (decide (12<d)&&tT l s.at_ Db)/\St w F [bX p (eo lv ov s),bF ov ts,eC λw=>gd ts out w/\Q w] w',cL (aC (λ_=>aD (aA iE (have u:=u.drew;aB jj u.hb rfl (aD (aA eY (aB bO u.hb rfl (aV vZ u (C209 _ l s.at_ (j0 #[123]) _ (U _ u.aF) hn) λ_ _ u=>⟨vb (by first|(rw[ew (show 12<d by omega)];rfl)|(rw[ez (show ¬ 12<d by omega)];rfl)),u⟩))))))) λ_=>have u:=u.drew;⟨vb (by first|(rw[ew (show 12<d by omega)];rfl)|(rw[ez (show ¬ 12<d by omega)];rfl)),u⟩),?_⟩,?_⟩)))
 .rintro _ _ ⟨rfl,u⟩ _;refine aW (λiL=>?_) (λiL=>?_)
  .refine aY Hn u (H':=λ_=>bX p (eo lv ov (js l s 7))) (Φ:=λ_ _=>True) (λI J M=>?_) ?_
   .exact(C291 p lv ov l s 7 I _ J (λw' hc=>U w' (M w' hc).aF) O Y).mono λ_ _ r=>r.mono λ_ _ h=>⟨trivial,h.2⟩
   rintro _ _ _ u;have u:=u.p2.p2.p2;have h7:Wm l s d=js l s 7:=by unfold Wm;rw[ej iL]
   rw[h7];exact u
  have u:=u.p2.p2.p2;have h7:Wm l s d=s:=by unfold Wm;rw[ei (by rw[iL];simp)]
  rw[h7];exact u
 intro _ u _;refine aY yO u (H':=λ_=>bX p (eo lv ov (dW l (Wm l s d) (j0 #[123])))) (Φ:=λ_ _=>True) (λI J M=>?_) ?_
 .exact(C257 p lv ov l (Wm l s d) (j0 #[123]) I _ J (λw' hc=>U w' (M w' hc).aF) O (QX Y)).mono λ_ _ r=>r.mono λ_ _ h=>⟨trivial,h.2⟩
 rintro _ _ _ u;have u:=pT.shut (s:=dW l (Wm l s d) Db) u.p2.p2.p2;refine⟨λmm w'=>∃(B:fQ) (G a2:List bM),lE l B/\tW l (λs=>Dx l (Wn l k) s d lp) mm B=some (s9,a2)/\add=G++a2/\St w F [pT p lv B (out++G) Q] w',⟨10000,_,[],add,fH (QX Y),U4,rfl,by rw[qb];exact u⟩,?_⟩;rintro mm _ ⟨B,G,a2,NT,KJ,W,u⟩ _;obtain⟨m,rfl⟩:=Iv KJ;obtain⟨E,XQ,u⟩:=pT.open u;have afg:XQ.length=(out++G).length:=u.p2.eC.1.1;rw[l0]at afg;refine⟨λjv w'=>jv=.bool (decide (B.e=0)&&!tT l B.at_ oA)/\St w F [bX p (eo lv E B),bF E XQ,eC λw=>gd XQ (out++G) w/\Q w] w',aD (aA kL (have u:=u.drew;aB jE u.hb rfl (aG (aC (λV=>aD (aA iE (aB jj u.hb rfl (aD (aA eY (aB bO u.hb rfl (aV vZ u (C209 _ l B.at_ (j0 #[125]) _ (U _ u.aF) hn) λ_ _ u=>bN (have u:=u.p2.p2.p2;⟨vb (by first|(rw[ew V];rfl)|(rw[ez V];rfl)),u⟩)))))))) λV=>have u:=u.p2.p2.p2;⟨vb (by first|(rw[ew V];rfl)|(rw[ez V];rfl)),u⟩)))),?_⟩
 rintro _ _ ⟨rfl,u⟩ _;refine aW (λxk=>?_) (λxk=>?_)
 .obtain⟨s3,a1,a3,ho,hb3,rfl⟩:=Kj KJ xk;have u:=pT.shut u.p2.p2.p2;refine aY agz u (H':=λ_=>pT p lv s3 ((out++G)++a1) Q) (Φ:=λ_ _=>True) (λI J M=>?_) ?_
  .exact(C256 p lv l B k d lp (out++G) s3 a1 Q I _ J (λw' hc=>U w' (M w' hc).aF) O NT HB bL bL (by have:=gL List.length W;simp at this |-;omega) ho).mono λ_ _ r=>r.mono λ_ _ h=>⟨trivial,h.2⟩
  rintro _ _ _ u;exact⟨_,bL,s3,G++a1,a3,QY (λ_ _ _ _ _ c e=>QZ c e) NT ho,hb3,by rw[W,n4],by rw[<- n4];exact u⟩
 obtain⟨Z,rfl⟩:=Gh KJ xk;replace Z:=Z.symm;subst Z;rw[qb]at W;subst W;refine aY yO u (H':=λ_=>bX p (eo lv E (dW l B (j0 #[125])))) (Φ:=λ_ _=>True) (λI J M=>?_) ?_
 .exact(C257 p lv E l B (j0 #[125]) I _ J (λw' hc=>U w' (M w' hc).aF) O NT).mono λ_ _ r=>r.mono λ_ _ h=>⟨trivial,h.2⟩
 rintro _ _ _ u;refine aD (aA qp (aB jG u.hb rfl (aI fk u.p1.dS (fc bL ?_))));rw[e2];exact⟨gL (n3 .i64) bL,(pT.shut u).mut⟩
theorem asI{l:List bQ}(B:jg l):∀k,aln l k
 | 0=>λp lv s d lp out u add Q F w _ _ _ _ _ _ h=>by cases h
 | k+1=>λp lv s d lp out u add Q F w G J E hd I M h=>C293 p lv l s k d lp out u add Q F w G J B E (asI B k) bL bL M h
def ur(i:Int):fQ:=⟨i,0,0⟩
def Gi(l:List bQ)(i op:Int):Option (List bM×Int×Int×Int):=
 (tW l (λs=>Dx l (Wn l 20) s 0 0) 10000 (ur i)).bind λr=>
  if 1000000<r.2.length then none else if (dW l r.1 oA).e≠0 then some ([],0,(dW l r.1 oA).e,(dW l r.1 oA).pos)
  else if 40<r.2.length then some ([],0,2,(pB l op).at_)
  else some (r.2,(dW l r.1 oA).at_,0,0)
def Kk(l:List bQ)(s:fQ):Bool:=match lV l s.at_ with|some t=>decide (t.kind=2)|none=>false
def jC(l:List bQ)(nb:Bool)(s:fQ):fQ×cC:=
 if (nb&&(iB l (eZ l s).1 KM).2)=true then
  (if Kk l (iB l (eZ l s).1 KM).1=true then(Vq (iB l (eZ l s).1 KM).1,{ (eZ l s).2 with n:=(pB l (iB l (eZ l s).1 KM).1.at_).n})
  else(js l (iB l (eZ l s).1 KM).1 5,(eZ l s).2))
 else eZ l s
abbrev CE:ByteArray:=⟨#[44]⟩
abbrev TS:ByteArray:=⟨#[59]⟩
def pX(l:List bQ)(nb:Bool):Nat->Bool->fQ->Option (fQ×List cC)
 | 0,_,_=>none
 | m+1,more,s=>if (more&&decide (s.e=0))=true then(pX l nb m (iB l (jC l nb s).1 CE).2 (iB l (jC l nb s).1 CE).1).bind λr=>some (r.1,(jC l nb s).2::r.2)else some (s,[])
def nt(l:List bQ)(nb:Bool)(s:fQ):Option (fQ×List cC):=(pX l nb 10000 true s).bind λr=>if 1000000<r.2.length then none else some (dW l r.1 TS,r.2)
abbrev Vr:ByteArray:=⟨#[114,101,103]⟩
def Bu(l:List bQ)(s:fQ):Option (fQ×List ByteArray):=
 if (iB l s Vr).2=true then(nt l false (iB l s Vr).1).bind λr=>some (r.1,r.2.map cC.name)else some (s,[])
def tX(l:List bQ)(s:fQ)(nm:ByteArray)(a:Int):Option (fQ×cK):=
 (Bu l (dW l s Db)).bind λr=>
  if r.1.e≠0 then some (r.1,⟨nm,r.2,[],a⟩)
  else(Gi l r.1.at_ s.at_).bind λR=>if 0<=R.2.1/\R.2.1<=l.length then some (⟨R.2.1,R.2.2.1,R.2.2.2⟩,⟨nm,r.2,R.1,a⟩)else none
def xQ(l:List bQ)(s:fQ)(a:Int):Option (fQ×gP):=
 (wA l s.at_).bind λR=>if R.2.2.1≠0 then some ({s with e:=R.2.2.1,pos:=R.2.2.2},⟨[],0⟩)
  else if 0<=R.2.1/\R.2.1<=l.length then some (dW l {s with at_:=R.2.1} TS,⟨R.1,a⟩)else none
def nf{α:Type}(l:List bQ)(t:ByteArray)(rd:fQ->Option (fQ×α)):Nat->fQ->Option (fQ×List α)
 | 0,_=>none
 | m+1,s=>if (iB l s t).2=true then(rd (iB l s t).1).bind λr=>(nf l t rd m r.1).bind λq=>some (q.1,r.2::q.2)else some (s,[])
def z6(l:List bQ)(s:fQ):Int:=(pB l (s.at_-1)).at_
def Q1(l:List bQ)(s:fQ):Option (fQ×List cK):=
 if (iB l s ⟨#[114,101,99,111,118,101,114]⟩).2=true then(tX l (iB l s ⟨#[114,101,99,111,118,101,114]⟩).1 ⟨#[]⟩ (z6 l (iB l s ⟨#[114,101,99,111,118,101,114]⟩).1)).bind λr=>some (r.1,[r.2])else some (s,[])
abbrev aaw:ByteArray:=⟨#[108,105,110,101]⟩
abbrev als:ByteArray:=⟨#[118,111,108]⟩
abbrev aax:ByteArray:=⟨#[108,111,99,107]⟩
abbrev Kl:ByteArray:=⟨#[116,104,114,101,97,100]⟩
abbrev Km:ByteArray:=⟨#[97,108,119,97,121,115]⟩
def alu(l:List bQ)(s:fQ):Option (fQ×cK):=tX l (eZ l s).1 (eZ l s).2.name (eZ l s).2.at_
def G9(l:List bQ)(s:fQ):fQ:=if s.at_<l.length then js l s 5 else s
def Bv:cR:=⟨[],[],[],[],[],[]⟩
def vT(t:ByteArray):Option (cR×Int×Int):=
 (wy t).bind λL=>if L.2.1≠0 then some (Bv,L.2.1,L.2.2)else
 (nf L.1 aaw (nt L.1 true) 10000 (ur 0)).bind λE=>
 (nf L.1 als (nt L.1 true) 10000 E.1).bind λI=>
 (nf L.1 aax (nt L.1 false) 10000 I.1).bind λB=>
 (nf L.1 Kl (alu L.1) 10000 B.1).bind λG=>
 (Q1 L.1 G.1).bind λJ=>
 (nf L.1 Km (λs=>xQ L.1 s (z6 L.1 s)) 10000 J.1).bind λu=>
  if 1000000<E.2.length\/1000000<I.2.flatten.length\/1000000<B.2.flatten.length\/1000000<G.2.length\/1000000<u.2.length then none else if (G9 L.1 u.1).e≠0 then some (Bv,(G9 L.1 u.1).e,(G9 L.1 u.1).pos)else some (⟨E.2,I.2.flatten,B.2.flatten,G.2,J.2,u.2⟩,0,0)
section
variable {l:List bQ}{s s':fQ}
theorem aay{t:ByteArray}(h:(iB l s t).2=true):iB l s t=({s with at_:=s.at_+1},true)/\s.e=0/\0<=s.at_/\s.at_<l.length:=by
 unfold iB at h |-
 split at h
 .rename_i h2
  rw[ej h2]
  rw[oj,decide_eq_true_eq]at h2
  exact⟨rfl,h2.1,sS h2.2⟩
 cases h
theorem xR{t:ByteArray}(h:(iB l s t).2=false):iB l s t=(s,false):=by
 grind[iB]
theorem Gj{nb:Bool}(h:lE l s):lE l (jC l nb s).1:=by
 have h1:=vg h
 have h2:=ky (t:=KM) h1
 unfold jC
 split
 .split
  .rename_i h3
   unfold Kk at h3
   cases ht:lV l (iB l (eZ l s).1 KM).1.at_ with
   | none=>grind
   | some t=>
    have:=mL ht
    exact⟨by show 0<=(iB l (eZ l s).1 KM).1.at_+1;omega,by show(iB l (eZ l s).1 KM).1.at_+1<=_;omega⟩
  exact tV h2
 exact h1
theorem Iy{nb:Bool}:∀{m:Nat}{more:Bool}{s s':fQ}{x:List cC},lE l s->pX l nb m more s=some (s',x)->lE l s'
 | 0,_,_,_,_,_,h=>by cases h
 | m+1,more,s,s',x,u,h=>by
  unfold pX at h
  split at h
  .obtain⟨q,y,h1,h2⟩:=eN h
   cases h2
   exact Iy (ky (Gj u)) h1
  grind
theorem yB{nb:Bool}{x:List cC}(h:nt l nb s=some (s',x)):∃u,pX l nb 10000 true s=some (u,x)/\s'=dW l u TS/\x.length<=1000000:=by
 unfold nt at h
 obtain⟨q,y,h1,h2⟩:=eN h
 grind
theorem yC{nb:Bool}{x:List cC}(u:lE l s)(h:nt l nb s=some (s',x)):lE l s':=by
 obtain⟨B,h1,h2,_⟩:=yB h
 rw[h2];exact fH (Iy u h1)
theorem NU{nb more:Bool}{m:Nat}{x:List cC}(h:pX l nb m more s=some (s',x)):∃k,m=k+1:=by
 cases m with
 | zero=>cases h
 | succ k=>grind
theorem Gk{nb more:Bool}{m:Nat}{x:List cC}(h:pX l nb (m+1) more s=some (s',x))(hb:(more&&decide (s.e=0))=false):s'=s/\x=[]:=by
 unfold pX at h;grind
theorem Vs{nb more:Bool}{m:Nat}{x:List cC}(h:pX l nb (m+1) more s=some (s',x))(hb:(more&&decide (s.e=0))=true):∃y,pX l nb m (iB l (jC l nb s).1 CE).2 (iB l (jC l nb s).1 CE).1=some (s',y)/\x=(jC l nb s).2::y:=by
 unfold pX at h;rw[hb,ej rfl]at h
 obtain⟨q,y,h1,h2⟩:=eN h
 grind
theorem NV{x:List ByteArray}(u:lE l s)(h:Bu l s=some (s',x)):lE l s':=by
 unfold Bu at h
 split at h
 .obtain⟨q,y,h1,h2⟩:=eN h
  cases h2
  exact yC (ky u) h1
 grind
theorem Gl{nm:ByteArray}{a:Int}{x:cK}(u:lE l s)(h:tX l s nm a=some (s',x)):lE l s':=by
 unfold tX at h
 obtain⟨q,y,h1,h2⟩:=eN h
 have h3:=NV (fH u) h1
 dsimp only at h2
 split at h2
 .grind
 cases hr:Gi l q.at_ s.at_ with
 | none=>grind
 | some R=>
  grind[lE]
theorem Vt{a:Int}{x:gP}(u:lE l s)(h:xQ l s a=some (s',x)):lE l s':=by
 unfold xQ at h
 cases hr:wA l s.at_ with
 | none=>grind
 | some R=>
  rw[hr]at h
  simp only[mv]at h
  split at h
  .cases h;exact u
  .split at h
   .rename_i h4;cases h;exact fH h4
   .cases h
theorem sU{α:Type}{t:ByteArray}{rd:fQ->Option (fQ×α)}{m:Nat}{x:List α}(h:nf l t rd m s=some (s',x)):∃k,m=k+1:=by
 cases m with
 | zero=>cases h
 | succ k=>grind
theorem vh{α:Type}{t:ByteArray}{rd:fQ->Option (fQ×α)}{m:Nat}{x:List α}(h:nf l t rd (m+1) s=some (s',x))(hb:(iB l s t).2=false):s'=s/\x=[]:=by
 unfold nf at h;grind
theorem xS{α:Type}{t:ByteArray}{rd:fQ->Option (fQ×α)}{m:Nat}{x:List α}(h:nf l t rd (m+1) s=some (s',x))(hb:(iB l s t).2=true):∃u y z,rd (iB l s t).1=some (u,y)/\nf l t rd m u=some (s',z)/\x=y::z:=by
 unfold nf at h;rw[hb,ej rfl]at h
 obtain⟨q,y,h1,h2⟩:=eN h
 obtain⟨E,B,h3,h4⟩:=eN h2
 grind
end
def noQ:hM:=λ_=>True
theorem Bw{l:List bQ}{i:Int}{t:bQ}(u:0<=i)(h:l[i.toNat]?=some t):pB l i=t:=by
 unfold pB lV;grind
def afh{l:List bQ}{i op:Int}{R:List bM×Int×Int×Int}(h:Gi l i op=some R):∃u add,tW l (λs=>Dx l (Wn l 20) s 0 0) 10000 (ur i)=some (u,add)/\add.length<=1000000/\
  ((dW l u oA).e≠0->R=([],0,(dW l u oA).e,(dW l u oA).pos))/\(¬ (dW l u oA).e≠0->40<(add.length:Int)->R=([],0,2,(pB l op).at_))/\
  (¬ (dW l u oA).e≠0->¬ 40<(add.length:Int)->R=(add,(dW l u oA).at_,0,0)):=by
 unfold Gi at h
 obtain⟨q,y,h1,h2⟩:=eN h
 grind
section
variable {l:List bQ}{s s':fQ}{nb:Bool}
theorem Vu(u:nb=true)(h2:(iB l (eZ l s).1 KM).2=true)(h3:Kk l (iB l (eZ l s).1 KM).1=true) :
  jC l nb s=(Vq (iB l (eZ l s).1 KM).1,{ (eZ l s).2 with n:=(pB l (iB l (eZ l s).1 KM).1.at_).n}):=by
 unfold jC;grind
theorem Vv(u:nb=true)(h2:(iB l (eZ l s).1 KM).2=true)(h3:Kk l (iB l (eZ l s).1 KM).1=false) :
  jC l nb s=(js l (iB l (eZ l s).1 KM).1 5,(eZ l s).2):=by
 unfold jC;grind
theorem aaz(h2:(iB l (eZ l s).1 KM).2=false):jC l nb s=((iB l (eZ l s).1 KM).1,(eZ l s).2):=by
 unfold jC;rw[ei cD,xR h2]
theorem aaA(u:nb=false):jC l nb s=((eZ l s).1,(eZ l s).2):=by
 grind[jC,eZ]
theorem afi{q:fQ}(h:Kk l q=true):∃u,lV l q.at_=some u/\l[q.at_.toNat]?=some u/\0<=q.at_/\q.at_<l.length:=by
 unfold Kk at h
 cases ht:lV l q.at_ with
 | none=>grind
 | some u=>have:=mL ht;grind
theorem Iz{x:List ByteArray}(h:Bu l s=some (s',x))(h1:(iB l s Vr).2=true):∃ys,nt l false (iB l s Vr).1=some (s',ys)/\x=ys.map cC.name:=by
 unfold Bu at h;rw[ej h1]at h
 obtain⟨q,y,h2,h3⟩:=eN h
 grind
theorem NW{x:List ByteArray}(h:Bu l s=some (s',x))(h1:(iB l s Vr).2=false):s'=s/\x=[]:=by
 unfold Bu at h;grind
theorem Q2{nm:ByteArray}{a:Int}{x:cK}(h:tX l s nm a=some (s',x)):∃q rs,Bu l (dW l s Db)=some (q,rs)/\
  (q.e≠0->s'=q/\x=⟨nm,rs,[],a⟩)/\(¬ q.e≠0->∃R,Gi l q.at_ s.at_=some R/\0<=R.2.1/\R.2.1<=l.length/\s'=⟨R.2.1,R.2.2.1,R.2.2.2⟩/\x=⟨nm,rs,R.1,a⟩):=by
 unfold tX at h
 obtain⟨q,rs,h1,h2⟩:=eN h
 refine⟨q,rs,h1,λu=>?_,λu=>?_⟩
 .grind
 dsimp only at h2;rw[ei u]at h2
 cases hr:Gi l q.at_ s.at_ with
 | none=>grind
 | some R=>
  grind
theorem Vw{a:Int}{x:gP}(h:xQ l s a=some (s',x)):∃R,wA l s.at_=some R/\
  (R.2.2.1≠0->s'={s with e:=R.2.2.1,pos:=R.2.2.2}/\x=⟨[],0⟩)/\(¬ R.2.2.1≠0->(0<=R.2.1/\R.2.1<=l.length)/\s'=dW l {s with at_:=R.2.1} TS/\x=⟨R.1,a⟩):=by
 unfold xQ at h
 cases hr:wA l s.at_ with
 | none=>grind
 | some R=>
  grind
theorem alv{e:Int}(u:e≠0)(h:(js l s e).e=0):False:=by
 unfold js at h
 grind
theorem afj{t:ByteArray}(h:(dW l s t).e=0):tT l s.at_ t=true:=by
 unfold dW at h
 split at h
 .grind
 exact(alv dy h).elim
theorem asK{t:ByteArray}:(iB l s t).1.e=s.e:=by unfold iB;grind
theorem Vx{e:Int}(h:s.e≠0):(js l s e).e≠0:=by unfold js;grind
theorem Q3{t:ByteArray}(h:s.e≠0):(dW l s t).e≠0:=by
 unfold dW;rw[ei cD];exact Vx h
theorem NX:∀{m:Nat}{more:Bool}{s s':fQ}{x:List cC},s.e≠0->pX l nb m more s=some (s',x)->s'.e≠0
 | 0,_,_,_,_,_,h=>by cases h
 | m+1,more,s,s',x,u,h=>by
  have:=Gk h cD
  grind
theorem NY{x:List cC}(u:s.e≠0)(h:nt l nb s=some (s',x)):s'.e≠0:=by
 obtain⟨B,h1,h2,_⟩:=yB h
 rw[h2];exact Q3 (NX u h1)
theorem Q4{x:List ByteArray}(u:s.e≠0)(h:Bu l s=some (s',x)):s'.e≠0:=by
 cases h1:(iB l s Vr).2 with
 | true=>obtain⟨ys,h2,_⟩:=Iz h h1;exact NY (by rw[asK];exact u) h2
 | false=>rw[(NW h h1).1];exact u
end
theorem Ha{α β:Type}{f:α->β}{l:List α}{k:Nat}{e:α}(h:l[k]?=some e):(l.take k).map f++[f e]=(l.take (k+1)).map f:=by
 rw[<- gg h,List.map_append];rfl
def NZ{l:List bQ}{s s':fQ}{x:List cK}(h:Q1 l s=some (s',x))(h1:(iB l s ⟨#[114,101,99,111,118,101,114]⟩).2=true):∃y,tX l (iB l s ⟨#[114,101,99,111,118,101,114]⟩).1 ⟨#[]⟩ (z6 l (iB l s ⟨#[114,101,99,111,118,101,114]⟩).1)=some (s',y)/\x=[y]:=by
 unfold Q1 at h;rw[ej h1]at h
 obtain⟨q,y,h2,h3⟩:=eN h
 grind
theorem TT{l:List bQ}{s s':fQ}{x:List cK}(h:Q1 l s=some (s',x))(h1:(iB l s ⟨#[114,101,99,111,118,101,114]⟩).2=false):s'=s/\x=[]:=by
 unfold Q1 at h;grind
theorem Vy{t:ByteArray}{l:List bQ}{e a:Int}{R:cR×Int×Int}(h:vT t=some R)(u:wy t=some (l,e,a))(B:e≠0):R=(Bv,e,a):=by
 unfold vT at h;rw[u]at h
 simp only[mv]at h
 rw[ej B]at h;exact(ob.inj h).symm
theorem Q5{t:ByteArray}{R:cR×Int×Int}(h:vT t=some R):∃l e a,wy t=some (l,e,a):=by
 unfold vT at h
 cases hs:wy t with
 | none=>rw[hs]at h;cases h
 | some L=>exact⟨L.1,L.2.1,L.2.2,rfl⟩
structure alw(l:List bQ)(R:cR×Int×Int)(t1 t2 t3 t4 t5 t6:fQ)(y1:List (List cC))(y2 y3:List (List cC))(y4 y5:List cK)(y6:List gP):Prop where
 h1:nf l aaw (nt l true) 10000 (ur 0)=some (t1,y1)
 h2:nf l als (nt l true) 10000 t1=some (t2,y2)
 h3:nf l aax (nt l false) 10000 t2=some (t3,y3)
 h4:nf l Kl (alu l) 10000 t3=some (t4,y4)
 h5:Q1 l t4=some (t5,y5)
 h6:nf l Km (λs=>xQ l s (z6 l s)) 10000 t5=some (t6,y6)
 b1:y1.length<=1000000
 b2:y2.flatten.length<=1000000
 b3:y3.flatten.length<=1000000
 b4:y4.length<=1000000
 b6:y6.length<=1000000
 bad:(G9 l t6).e≠0->R=(Bv,(G9 l t6).e,(G9 l t6).pos)
 azI:¬ (G9 l t6).e≠0->R=(⟨y1,y2.flatten,y3.flatten,y4,y5,y6⟩,0,0)
def aaB{t:ByteArray}{l:List bQ}{e a:Int}{R:cR×Int×Int}(h:vT t=some R)(hs:wy t=some (l,e,a))(he:¬ e≠0):∃O V E W U Y G M u J B I,alw l R O V E W U Y G M u J B I:=by
 unfold vT at h;rw[hs]at h
 simp only[mv]at h
 rw[ei he]at h
 obtain⟨O,G,h1,h⟩:=eN h
 obtain⟨V,M,h2,h⟩:=eN h
 obtain⟨E,u,h3,h⟩:=eN h
 obtain⟨W,J,h4,h⟩:=eN h
 obtain⟨U,B,h5,h⟩:=eN h
 obtain⟨Y,I,h6,h⟩:=eN h
 dsimp only at h
 split at h
 .cases h
 rename_i hb
 simp only[not_or,Nat.not_lt]at hb
 refine⟨O,V,E,W,U,Y,G,M,u,J,B,I,h1,h2,h3,h4,h5,h6,hb.1,hb.2.1,hb.2.2.1,hb.2.2.2.1,hb.2.2.2.2,λZ=>?_,λZ=>?_⟩
 .rw[ej Z]at h;exact(ob.inj h).symm
 rw[ei Z]at h;exact(ob.inj h).symm
theorem afk{l:List bQ}{s s':fQ}{x:List cK}(u:lE l s)(h:Q1 l s=some (s',x)):lE l s':=by
 cases h1:(iB l s ⟨#[114,101,99,111,118,101,114]⟩).2 with
 | true=>obtain⟨y,h2,_⟩:=NZ h h1;exact Gl (ky u) h2
 | false=>rw[(TT h h1).1];exact u
theorem Bx{α:Type}{a:List (List α)}{b:List α}:(a++[b]).flatten=a.flatten++b:=ee
def TU{α:Type}{y a c:List (List α)}{b:List α}(h:y=a++b::c):a.flatten.length+b.length<=y.flatten.length:=cD
def C212(l:List bQ)(lv:Value)(i op:Int)(R:List bM×Int×Int×Int)(w:World)(hL:cZ (λ_=>True) w lv l)(O:jg l)(h0:0<=i/\i<=l.length)(kc:0<=op/\op<l.length)(hr:Gi l i op=some R):CR 212 [lv,ir i,ir op] w (λv w'=>∃sv:SV,v=.tuple #[jr sv,ir R.2.1,ir R.2.2.1,ir R.2.2.2]/\lf (eC λw=>DL w (jr sv) R.1) w w'):=by
 have D1:=O.n;have hn:l.length<=1000000:=bL
 have px:=O.at_;obtain⟨s9,add,U4,GJ,hR⟩:=afh hr;obtain⟨lsv,U⟩:=hL.fK;have u:=St.start w;refine pj Tryz.func212 (pl:=av9) ?_;rw[U];refine pop (O6 _ _ _ _) (jZ u λasL _ u=>?_);obtain⟨p,rfl⟩:∃p,p=asL:=⟨_,rfl⟩;have u:=u.enc (cs':=eo (jr lsv) (.slice none 0 0) (ur i)) rfl;rw[<- U]at u |-;have hT:∀w',gD aX w w'->cZ (λ_=>True) w' lv l:=λ_ hc=>hL.ext hc;have u:=((u.gE (Φ:=λw=>gd ([]:List aZ) ([]:List bM) w/\noQ w) λ_=>⟨gd.nil,trivial⟩).eU (α:=aZ)).p2;have u:=pT.shut u;refine⟨λmm w'=>∃(B:fQ) (G a2:List bM),lE l B/\tW l (λs=>Dx l (Wn l 20) s 0 0) mm B=some (s9,a2)/\add=G++a2/\St w aX [pT p lv B (([]:List bM)++G) noQ] w',⟨10000,ur i,[],add,(show lE l (ur i)from h0),U4,rfl,by rw[qb];exact u⟩,?_⟩
 rintro mm _ ⟨B,G,a2,Y,KJ,W,u⟩ _;obtain⟨m,rfl⟩:=Iv KJ;obtain⟨E,Z,u⟩:=pT.open u;have M:Z.length=(([]:List bM)++G).length:=u.p2.eC.1.1;rw[l0]at M;refine⟨λjv w'=>jv=.bool (decide (B.e=0)&&!tT l B.at_ oA)/\St w aX [bX p (eo lv E B),bF E Z,eC λw=>gd Z (([]:List bM)++G) w/\noQ w] w',aD (aA kL (have u:=u.drew;aB jE u.hb rfl (aG (aC (λJ=>aD (aA iE (aB jj u.hb rfl (aD (aA eY (aB bO u.hb rfl (aV vZ u (C209 _ l B.at_ (j0 #[125]) _ (hT _ u.aF) hn) λ_ _ u=>bN (have u:=u.p2.p2.p2;⟨vb (by first|(rw[ew J];rfl)|(rw[ez J];rfl)),u⟩)))))))) λJ=>have u:=u.p2.p2.p2;⟨vb (by first|(rw[ew J];rfl)|(rw[ez J];rfl)),u⟩)))),?_⟩
 rintro _ _ ⟨rfl,u⟩ _;refine aW (λl8=>?_) (λl8=>?_)
 .obtain⟨s3,a1,a3,ho,hb3,rfl⟩:=Kj KJ l8;have u:=pT.shut u.p2.p2.p2;refine aY agz u (H':=λ_=>pT p lv s3 ((([]:List bM)++G)++a1) noQ) (Φ:=λ_ _=>True) (λF2 ek dU=>?_) ?_
  .exact(C256 p lv l B 20 0 0 (([]:List bM)++G) s3 a1 noQ F2 _ ek (λw' hc=>hT w' (dU w' hc).aF) O Y (asI O 20) bL bL (by have:=gL List.length W;simp at this |-;omega) ho).mono λ_ _ r=>r.mono λ_ _ h=>⟨trivial,h.2⟩
  rintro _ _ _ u;exact⟨_,bL,s3,G++a1,a3,QY (λ_ _ _ _ _ c e=>QZ c e) Y ho,hb3,by rw[W,n4],by rw[<- n4];exact u⟩
 obtain⟨e9,rfl⟩:=Gh KJ l8;replace e9:=e9.symm;subst e9;rw[qb]at W;subst W;obtain⟨azK,azL⟩:=id Y;simp only[Ld,Nat.zero_add]at M;refine aY yO u (H':=λ_=>bX p (eo lv E (dW l B (j0 #[125])))) (Φ:=λ_ _=>True) (λF2 ek dU=>?_) ?_
 .exact(C257 p lv E l B (j0 #[125]) F2 _ ek (λw' hc=>hT w' (dU w' hc).aF) O Y).mono λ_ _ r=>r.mono λ_ _ h=>⟨trivial,h.2⟩
 rintro _ _ _ u;refine aD (aA kL (aB jE u.hb rfl (bW (aC (λV=>?_) λV=>aD (aA qp (aB jG u.hb rfl (aI fk u.p1.dS (cL (aC (λA6=>?_) λA6=>?_)))))))))
 .refine aD (aA kL (have u:=u.drew;aB jE u.hb rfl (aD (aA AF (aB bO u.hb rfl ?_)))));have I:R=([],0,(dW l B oA).e,(dW l B oA).pos):=hR.1 V;rw[I];exact⟨cG,rfl,(u.gE (Φ:=λw=>DL w (jr (cG:SV)) ([]:List bM)) λw=>DL.nil w).fresh⟩
 .obtain⟨SS,ue⟩:=gx l (i:=op.toNat) bL;refine aK fI hL bL ue (λ_ A7=>bT SS.at_ lI A7 rfl rfl λ_ A8=>have u:=u.drew;aE bO (A8.ext u.aF) ?_);have I:R=([],0,2,SS.at_):=(hR.2.1 V bL).trans (by rw[Bw kc.1 ue]);rw[I];exact⟨cG,rfl,(u.gE (Φ:=λw=>DL w (jr (cG:SV)) ([]:List bM)) λw=>DL.nil w).fresh⟩
 refine aD (aA qp (have u:=u.drew;aB jG u.hb rfl (aD (aA eY (aB bO u.hb rfl ?_)))));have u:=(u.drop.p1.dH (Ψ:=gd Z ([]++add)) λ_ h=>h.1).p1;have u:=St.xg u;obtain⟨sv,hsv⟩:=u.oR;subst hsv;rw[hR.2.2 V bL];exact⟨sv,rfl,u.oQ.fresh⟩
def C132(p:Nat)(lv:Value)(l:List bQ)(s:fQ)(nb:Bool)(s2:fQ)(x:List cC)(F:Nat->Prop)(w:World)(hF:(bX p (et lv s)).p w F)(M:∀w',gD F w w'->cZ (λ_=>True) w' lv l)(V:jg l)(h0:lE l s)(hr:nt l nb s=some (s2,x)):CR 132 [(.pointer (some ⟨p,0,none⟩)),.bool nb] w (λv w'=>mT F (sep (bX p (et lv s2)) (bF v x)) w w'):=by
 have u:=St.begin hF;obtain⟨s9,Wb,e2,GJ⟩:=yB hr;have D1:=V.n;have hn:l.length<=1000000:=bL
 have px:=V.at_;obtain⟨TG,TH⟩:=id h0;refine pj Tryz.func132 (pl:=avV) ?_;refine bD ([]:List cC) u ic rfl rfl (dQ rfl) (λakP _ u=>?_);have u:=u.p1.p1;refine⟨λmm o mo w'=>∃(B:fQ) (b:Bool) (W a2:List cC),mo=.bool b/\lE l B/\pX l nb mm b B=some (s9,a2)/\x=W++a2/\St w F [bF o W,bX p (et lv B)] w',⟨10000,s,true,[],x,rfl,h0,Wb,rfl,u⟩,?_⟩;rintro mm yF _ w2 ⟨B,b,W,a2,rfl,J,XR,hx,u⟩ _;obtain⟨m,rfl⟩:=NU XR;obtain⟨azK,azL⟩:=id J;refine⟨λjv w'=>jv=.bool (b&&decide (B.e=0))/\w2=w',aW (λBy=>aD (aA ml (aB jE u.p1.hb rfl (aG ⟨vb (by first|(rw[By];rfl)|(rw[By];rfl)),rfl⟩)))) (λBy=>⟨vb (by first|(rw[By];rfl)|(rw[By];rfl)),rfl⟩),?_⟩
 rintro _ _ ⟨rfl,hw⟩ _;subst hw;refine aW (λeb=>?_) (λeb=>?_)
 .obtain⟨a3,hn3,rfl⟩:=Vs XR eb;refine aY agi u.p1 (H':=λ_=>bX p (et lv (eZ l B).1)) (Φ:=λv _=>v=jr (eZ l B).2) (λE I G=>?_) ?_
  .exact C133 p lv l B E _ I (λw' hc=>M w' (G w' hc).aF) V J
  rintro _ _ rfl u;refine aQ u oL (λY _ u=>aM (x:=(eZ l B).2) u lZ rfl rfl λ_ u=>⟨λw'=>St w F [bX p (et lv (jC l nb B).1),bX Y (kp (jC l nb B).2),bF yF W] w',⟨_,aW (λvU=>?_) (λvU=>?_),λ_ _ h=>h⟩,?_⟩)
  .refine aY yN u.p1 (H':=λ_=>bX p (et lv (iB l (eZ l B).1 (j0 #[61])).1)) (Φ:=λv _=>v=.bool (iB l (eZ l B).1 (j0 #[61])).2) (λE I G=>?_) ?_
   .exact C131 p lv l (eZ l B).1 (j0 #[61]) E _ I (λw' hc=>M w' (G w' hc).aF) V (vg J)
   rintro _ _ rfl u;intro yl;refine aW (λiL=>?_) (λiL=>?_)
   .have hq:=ky (t:=j0 #[61]) (vg J);obtain⟨U,hq1⟩:=id hq;refine⟨λjv w'=>jv=.bool (Kk l (iB l (eZ l B).1 (j0 #[61])).1)/\St w F [bX p (et lv (iB l (eZ l B).1 (j0 #[61])).1),bX Y (kp (eZ l B).2),bF yF W] w',aD (aA fw (have u:=u.drew;aB bO u.hb rfl (aD (aA j3 (aB jj u.hb rfl (aI fI (M _ u.aF) (aN (aC (λlj=>?_) λlj=>have u:=u.p2.p2.p2;⟨vb (by unfold Kk lV;rw[ej U,n0 bL]),u⟩)))))))),?_⟩
    .refine aD (aA j3 (aB jj u.hb rfl (aD (aA fw (aB bO u.hb rfl ?_)))));obtain⟨asN,Z⟩:=gx l (i:=(((iB l (eZ l B).1 (j0 #[61])).1).at_).toNat) bL;exact aK fI (M _ u.aF) bL Z (λ_ Fa=>bT asN.kind lH Fa rfl rfl λ_ L6=>aE bO L6 (aG (have u:=u.p2.p2.p2;⟨vb (by unfold Kk lV;rw[ej U,Z]),u⟩)))
    rintro _ _ ⟨rfl,u⟩ _;refine aW (λse=>?_) (λse=>?_)
    .obtain⟨tk,hnt,HS,_,hqlt⟩:=afi se;have KK:pB l (iB l (eZ l B).1 (j0 #[61])).1.at_=tk:=Bw U HS;refine aD (aA j3 (have u:=u.drew;aB jj u.hb rfl (aD (aA fw (aB bO u.hb rfl (aK fI (M _ u.aF) bL HS λ_ A8=>bT tk.n rZ A8 rfl rfl λ_ asO=>aE bO asO (aA rV (aR u.p1 bO (dQ rfl) (rfl) λ_ u=>have u:=u.enc (cs':=kp ({ (eZ l B).2 with n:=tk.n}:cC)) rfl;aD (aA fw ?_)))))))));refine aB bO u.p1.hb rfl (aJ bL (aD (aA fw (aR u.p1 bO (dQ rfl) (rfl) λ_ u=>?_))))
     have u:=u.p2.p2.p2;have O:(jC l nb B)=(Vq (iB l (eZ l B).1 (j0 #[61])).1,{ (eZ l B).2 with n:=tk.n}):=(Vu vU iL se).trans (by rw[KK]);rw[O];exact u
    refine aY RQ u (H':=λ_=>bX p (et lv (js l (iB l (eZ l B).1 (j0 #[61])).1 5))) (Φ:=λ_ _=>True) (λE I G=>?_) ?_
    .exact(C136 p lv l (iB l (eZ l B).1 (j0 #[61])).1 E _ I (λw' hc=>M w' (G w' hc).aF) V (ky (vg J))).mono λ_ _ r=>r.mono λ_ _ h=>⟨trivial,h.2⟩
    rintro _ _ _ u;have u:=u.p2.p2.p2;have O:=Vv vU iL se;rw[O];exact u
   have u:=u.p2.p2.p2;have O:=aaz (nb:=nb) iL;rw[O];exact u
  .intro yl;refine eR ?_;have u:=u.p2.p1.p2;have O:=aaA (l:=l) (s:=B) vU;rw[O];exact u
  intro _ u _;refine aE lZ u.p1.At (bD ([(jC l nb B).2]) u ic rfl rfl (dQ rfl) λasB _ u=>?_);have alx:=u.dS;refine bJ u.p3 ic alx (by have:=gL List.length hx;simp at this |-;omega) dy (λasP _ u=>have u:=u.p1.drop;aY yN u.p1 (H':=λ_=>bX p (et lv (iB l (jC l nb B).1 (j0 #[44])).1)) (Φ:=λv _=>v=.bool (iB l (jC l nb B).1 (j0 #[44])).2) (λE I G=>?_) ?_)
  .exact C131 p lv l (jC l nb B).1 (j0 #[44]) E _ I (λw' hc=>M w' (G w' hc).aF) V (Gj J)
  rintro _ _ rfl u;have u:=u.p2.drop.p1;exact⟨_,bL,(iB l (jC l nb B).1 CE).1,(iB l (jC l nb B).1 CE).2,W++[(jC l nb B).2],a3,rfl,ky (Gj J),hn3,by rw[hx,n4];rfl,u⟩
 obtain⟨e9,rfl⟩:=Gk XR eb;replace e9:=e9.symm;subst e9;rw[qb]at hx;subst hx;refine aY WW u.p1 (H':=λ_=>bX p (et lv (dW l B (j0 #[59])))) (Φ:=λ_ _=>True) (λE I G=>?_) ?_
 .exact(C210 p lv l B (j0 #[59]) E _ I (λw' hc=>M w' (G w' hc).aF) V J).mono λ_ _ r=>r.mono λ_ _ h=>⟨trivial,h.2⟩
 rintro _ _ _ u;have u:=u.p1.p1;rw[e2];exact(St.join u).mut
def C134(p:Nat)(lv:Value)(l:List bQ)(s:fQ)(nm:ByteArray)(a:Int)(s2:fQ)(x:cK)(F:Nat->Prop)(w:World)(hF:(bX p (et lv s)).p w F)(hT:∀w',gD F w w'->cZ (λ_=>True) w' lv l)(G:jg l)(Y:lE l s)(hr:tX l s nm a=some (s2,x)):CR 134 [(.pointer (some ⟨p,0,none⟩)),jr (⟨nm,cG,cG,a⟩:cB)] w (λv w'=>mT F (oO λsh:cB=>fact (v=jr sh) (sep (bX p (et lv s2)) (eC λw=>n5 w sh x))) w w'):=by
 have u:=St.begin hF;obtain⟨q,rs,zY,uZ,DY⟩:=Q2 hr;have J:=NV (fH Y) zY;obtain⟨hqi0,hqi1⟩:=id J;have D1:=G.n;have hn:l.length<=1000000:=bL
 have px:=G.at_;obtain⟨TG,TH⟩:=id Y;refine pj Tryz.func134 (pl:=avX) ?_;refine cP (x:=(⟨nm,cG,cG,a⟩:cB)) u (λE _ u=>aQ u tE λPj _ u=>have u:=u.enc (cs':=kp (⟨(j0 #[]),cG,cG,0⟩:cB)) rfl;aD (aA fw (aB bO u.p2.hb rfl (aY WW u.p2 (H':=λ_=>bX p (et lv (dW l s (j0 #[123])))) (Φ:=λ_ _=>True) (λO W V=>?_) ?_))))
 .exact(C210 p lv l s (j0 #[123]) O _ W (λw' hc=>hT w' (V w' hc).aF) G Y).mono λ_ _ r=>r.mono λ_ _ h=>⟨trivial,h.2⟩
 rintro _ _ _ u;refine⟨λw'=>∃B:SV,St w F [bF (jr B) rs,bX E (kp (⟨nm,B,cG,a⟩:cB)),bX Pj (kp (⟨(j0 #[]),cG,cG,0⟩:cB)),bX p (et lv q)] w',?_,?_⟩
 .refine aY yN u (H':=λ_=>bX p (et lv (iB l (dW l s (j0 #[123])) (j0 #[114,101,103])).1)) (Φ:=λv _=>v=.bool (iB l (dW l s (j0 #[123])) (j0 #[114,101,103])).2) (λO W V=>?_) ?_
  .exact C131 p lv l (dW l s (j0 #[123])) (j0 #[114,101,103]) O _ W (λw' hc=>hT w' (V w' hc).aF) G (fH Y)
  rintro _ _ rfl u;refine aW (λfo=>?_) (λfo=>?_)
  .obtain⟨ys,U,hrs⟩:=Iz zY fo;have hyl:ys.length<=1000000:=by obtain⟨_,_,_,h⟩:=yB U;exact h
   refine aY RP u (H':=λv=>sep (bX p (et lv q)) (bF v ys)) (Φ:=λ_ _=>True) (λO W V=>?_) ?_
   .exact(C132 p lv l (iB l (dW l s (j0 #[123])) (j0 #[114,101,103])).1 false q ys O _ W (λw' hc=>hT w' (V w' hc).aF) G (ky (fH Y)) U).mono λ_ _ r=>r.mono λ_ _ h=>⟨trivial,h⟩
   rintro x21 _ _ u;have u:=(((((u.split.eU (α:=ByteArray)).p1).p3).p3).p4).p4;refine⟨λmm i w'=>∃(j:Nat) (B:SV),i=ir (j:Int)/\mm=ys.length-j/\j<=ys.length/\St w F [bF (jr B) ((ys.take j).map cC.name),bX E (kp (⟨nm,B,cG,a⟩:cB)),bF x21 ys,bX Pj (kp (⟨(j0 #[]),cG,cG,0⟩:cB)),bX p (et lv q)] w',⟨_,0,cG,rfl,rfl,l2 _,u⟩,?_⟩;rintro mm _ _ ⟨j,B,rfl,rfl,hj,u⟩ _;refine aI ic u.p2.dS (aN (aC (λiL=>?_) λiL=>?_))
   .refine aA fS (have u:=u.drew;aB (v:=jr (B:SV)) je u.p1.hb rfl ?_);obtain⟨Z,I⟩:=gx ys (i:=(j:Int).toNat) bL;refine dG u.p2 ic bL bL (λ_ xz=>mq kJ xz λ_ qW=>nH Z.name u.p2 gv qW I rfl (bD ([Z.name]) u iu rfl rfl (dQ rfl) λaqo _ u=>?_));refine⟨aH je (u.p2.hb.cell rfl),?_⟩;have alz:=u.dS;refine bJ u.p1 iu alz (by simp;omega) dy (λaqp _ u=>have u:=u.p1.drop;aA fS ?_);obtain⟨aaE,rfl⟩:=u.fK;exact aR u.p1 je (dQ rfl) (rfl) (λ_ u=>have u:=u.enc (cs':=kp (⟨nm,aaE,cG,a⟩:cB)) rfl;aJ bL (have u:=u.p4.p4.p4.p3.p4;⟨_,bL,j+1,aaE,rfl,rfl,bL,by rw[<- Ha (k:=j) I];exact u⟩))
   have u:=u.p2.drop.p3.p3.p3.p3;rw[la bL]at u;rw[hrs];exact⟨B,u⟩
  have u:=((((u.eU (α:=ByteArray)).p1).p2).p3).p3;obtain⟨e1,e3⟩:=NW zY fo;rw[xR fo]at u;rw[e1,e3];exact⟨cG,u⟩
 rintro _ ⟨B,u⟩ _;refine⟨λw'=>∃(B M:SV) (body:List bM),x=⟨nm,rs,body,a⟩/\St w F [bF (jr B) rs,eC (λw=>DL w (jr M) body),bX E (kp (⟨nm,B,M,a⟩:cB)),bX Pj (kp (⟨(j0 #[]),cG,cG,0⟩:cB)),bX p (et lv s2)] w',aD (aA ml (aB jE u.p3.hb rfl (aG (aC (λqC=>?_) λqC=>?_)))),?_⟩
 .obtain⟨R,hR,hR0,hR1,e2,hx⟩:=DY bL;have zV:(dW l s Db).e=0:=A0.1 λhh=>Q4 hh zY bL;have kc:=sS (afj zV);refine aD (aA j3 (have u:=u.drew;aB jj u.p3.hb rfl (aD (aA fw (aB bO u.p3.hb rfl (dR an1 (C212 l _ q.at_ s.at_ R _ (hT _ u.aF) G J kc hR) ?_))))));rintro _ _ ⟨aaF,rfl,cE⟩;have u:=u.made cE;refine aO rfl (aO rfl (aO rfl (aO rfl (aA lG (aR u.p2 jG (dQ rfl) (rfl) λ_ u=>have u:=u.enc (cs':=kp (⟨nm,B,aaF,a⟩:cB)) rfl;aD (aA fw (aR u.p4 bO (dQ rfl) (rfl) λ_ u=>aD (aA ml (aR u jE (dQ rfl) (rfl) λ_ u=>aD ?_)))))))))
  refine aA wZ (aR u bO (dQ rfl) (rfl) λ_ u=>?_);have u:=u.p4.p2.p3.p4;rw[e2];exact⟨B,aaF,R.1,hx,u⟩
 .have u:=u.gE (Φ:=λw=>DL w (jr (cG:SV)) ([]:List bM)) λw=>DL.nil w;have u:=u.p4.p4.p4.p3.p4;obtain⟨e2,hx⟩:=uZ qC;rw[e2];exact⟨B,cG,[],hx,u⟩
 rintro _ ⟨B,M,body,rfl,u⟩ _;exact aE m6 u.p2.At (aM (x:=(⟨nm,B,M,a⟩:cB)) u.p3 m6 rfl rfl λ_ u=>aE m6 u.At (have u:=u.p1.freeze.p2.p1.fX.dH (Ψ:=(λw=>n5 w (⟨nm,B,M,a⟩:cB) (⟨nm,rs,body,a⟩:cK))) (λ_ h=>⟨_,_,rfl,DL.ki h.1,id h.2⟩);have u:=u.p1.drop.p1.drop.p1;(xP u).mut))
def C135(p:Nat)(lv:Value)(l:List bQ)(s:fQ)(a:Int)(J:fQ)(x:gP)(F:Nat->Prop)(w:World)(hF:(bX p (et lv s)).p w F)(O:∀w',gD F w w'->cZ (λ_=>True) w' lv l)(E:jg l)(h0:lE l s)(W:xQ l s a=some (J,x)):CR 135 [(.pointer (some ⟨p,0,none⟩)),ir a] w (λv w'=>mT F (oO λM:jq=>fact (v=jr M) (sep (bX p (et lv J)) (eC λw=>n5 w M x))) w w'):=by
 have u:=St.begin hF;obtain⟨R,I,uZ,Y⟩:=Vw W;have D1:=E.n;have hn:l.length<=1000000:=bL
 have px:=E.at_;obtain⟨TG,TH⟩:=id h0;refine pj Tryz.func135 (pl:=avY) ?_;refine aQ u O0 (λPj _ u=>have u:=u.enc (cs':=kp (⟨cG,0⟩:jq)) rfl;aD (aA j3 (have u:=u.drew;aB jj u.p1.hb rfl (aD (aA fw (aB bO u.p1.hb rfl (dR agt (C213 l _ s.at_ R _ (O _ u.aF) E bL I) ?_)))))));rintro _ _ ⟨B,rfl,cE⟩;have u:=u.made cE;refine aO rfl (aO rfl (aO rfl (aO rfl (bW (aC (λG=>?_) λG=>?_)))))
 .obtain⟨rfl,rfl⟩:=uZ G;exact aD (aA ml (aR u.p2 jE (dQ rfl) (rfl) λ_ u=>aD (aA wZ (aR u bO (dQ rfl) (rfl) λ_ u=>pop (v:=jr (⟨cG,0⟩:jq)) (by kernel_rfl) (aM (x:=(⟨cG,0⟩:jq)) u.p2 Ji rfl rfl λ_ u=>aE Ji u.At (have u:=u.gE (Φ:=(λw=>n5 w (⟨cG,0⟩:jq) (⟨[],0⟩:gP))) (λ_=>⟨_,rfl,DL.nil _⟩);have u:=u.p1.drop.p2.drop.p1;(xP u).mut))))))
 obtain⟨V,rfl,rfl⟩:=Y G;refine aD (aA fw (aR u.p2 bO (dQ rfl) (rfl) λ_ u=>have u:=u.enc (cs':=et lv ({s with at_:=R.2.1}:fQ)) rfl;aY WW u (H':=λ_=>bX p (et lv (dW l ({s with at_:=R.2.1}:fQ) (j0 #[59])))) (Φ:=λ_ _=>True) (λU Z dU=>?_) ?_))
 .exact(C210 p lv l ({s with at_:=R.2.1}:fQ) (j0 #[59]) U _ Z (λw' hc=>O w' (dU w' hc).aF) E (show lE l ({s with at_:=R.2.1}:fQ)from V)).mono λ_ _ r=>r.mono λ_ _ h=>⟨trivial,h.2⟩
 rintro _ _ _ u;exact pop (Hx _ _ _ _) (aM (x:=(⟨B,a⟩:jq)) u.p2 Ji rfl rfl λ_ u=>aE Ji u.At (have u:=u.p2.dH (Ψ:=(λw=>n5 w (⟨B,a⟩:jq) (⟨R.1,a⟩:gP))) (λ_ h=>⟨_,rfl,id h⟩);have u:=u.p1.drop.p1;(xP u).mut))
def C65(s:ByteArray)(R:cR×Int×Int)(w:World)(XP:s.size<=1000000)(hr:vT s=some R)(hTk:∀l e a,wy s=some (l,e,a)->jg l):CR 65 [.string s] w (λv w'=>∃pv:bP,v=.tuple #[jr pv,ir R.2.1,ir R.2.2]/\lf (eC λw=>n5 w pv R.1) w w'):=by
 obtain⟨l,e,a,hsc⟩:=Q5 hr;have W:=hTk l e a hsc;have D1:=W.n;have hn:l.length<=1000000:=bL
 have px:=W.at_;have u:=St.start w;refine pj Tryz.func65 (pl:=P65) ?_;refine aQ u vu (λwE _ u=>have u:=u.enc (cs':=kp (⟨cG,cG,cG,cG,cG,cG⟩:bP)) rfl;dR anR (C130 s (l,e,a) _ XP hsc) ?_);rintro _ _ ⟨lv,rfl,cE⟩;have u:=u.made cE;refine aO rfl (aO rfl (aO rfl (bW (aC (λlL=>?_) λlL=>?_))))
 .refine pop (v:=jr (⟨cG,cG,cG,cG,cG,cG⟩:bP)) (by kernel_rfl) (aM (x:=(⟨cG,cG,cG,cG,cG,cG⟩:bP)) u.p1 fp rfl rfl λ_ u=>aE fp u.At ?_);have u:=u.gE (Φ:=(λw=>n5 w (⟨cG,cG,cG,cG,cG,cG⟩:bP) (⟨[],[],[],[],[],[]⟩:cR))) (λ_=>⟨_,_,_,_,_,_,rfl,DL.nil _,DL.nil _,DL.nil _,DL.nil _,DL.nil _,DL.nil _⟩);have u:=u.p1.drop.p1.drop;rw[Vy hr hsc lL];exact⟨_,rfl,u.fresh⟩
 obtain⟨t1,t2,t3,t4,t5,t6,y1,y2,y3,y4,y5,y6,Y⟩:=aaB hr hsc lL;obtain⟨lsv,hlv⟩:=u.fK;rw[hlv];refine pop (Xn _ _ _) (jZ u λSn _ u=>pop (v:=jr (⟨cG,cG,cG,cG,cG,cG⟩:bP)) (by kernel_rfl) (aQ u vu λQ6 _ u=>have u:=u.enc (cs':=kp (⟨cG,cG,cG,cG,cG,cG⟩:bP)) rfl;aM (x:=(⟨cG,cG,cG,cG,cG,cG⟩:bP)) u fp rfl rfl λ_ u=>?_));obtain⟨p,rfl⟩:∃p,p=Sn:=⟨_,rfl⟩;have u:=u.p1.enc (cs':=et (jr lsv) (ur 0)) rfl;rw[<- hlv]at u |-;have azN:lE l (ur 0):=⟨Ot _,by show(0:Int)<=_;omega⟩;have u:=(((((u.EP (α:=(List cC))).p4).p4).p3).p4).p4
 refine⟨λmm w'=>∃(s0:fQ) (J:SV) (xs0 a0:List (List cC)),lE l s0/\nf l aaw (nt l true) mm s0=some (t1,a0)/\y1=xs0++a0/\St w aX [fy (jr J) xs0,bX Q6 (kp (⟨J,cG,cG,cG,cG,cG⟩:bP)),bX p (et lv s0),bF lv l,bX wE (kp (⟨cG,cG,cG,cG,cG,cG⟩:bP))] w',⟨10000,ur 0,cG,[],y1,azN,Y.h1,rfl,u⟩,?_⟩;rintro mm _ ⟨s0,J,xs0,a0,hi0,zV,hy0,u⟩ _;obtain⟨m0,rfl⟩:=sU zV;refine aY yN u.p2 (H':=λ_=>bX p (et lv (iB l s0 (j0 #[108,105,110,101])).1)) (Φ:=λv _=>v=.bool (iB l s0 (j0 #[108,105,110,101])).2) (λB G E=>?_) ?_
 .exact C131 p lv l s0 (j0 #[108,105,110,101]) B _ G (λw' hc=>(E w' hc).p2.dS) W hi0
 rintro _ _ rfl u;refine aW (λlh=>?_) (λlh=>?_)
 .obtain⟨q0,z0,b0,yr,Wb,rfl⟩:=xS zV lh;refine aA gw (have u:=u.drew;aB (v:=jr (J:SV)) oH u.p2.hb rfl (aY RP u (H':=λv=>sep (bX p (et lv q0)) (bF v z0)) (Φ:=λ_ _=>True) (λB G E=>?_) ?_))
  .exact(C132 p lv l (iB l s0 (j0 #[108,105,110,101])).1 true q0 z0 B _ G (λw' hc=>(E w' hc).p2.dS) W (ky hi0) yr).mono λ_ _ r=>r.mono λ_ _ h=>⟨trivial,h⟩
  rintro x31 _ _ u;have u:=u.split;refine⟨aH oH (u.p3.hb.cell rfl),?_⟩;obtain⟨Kn,rfl⟩:=u.p1.fK;have u:=u.p1.freeze.dH (Ψ:=λw=>n5 w Kn z0) (λ_ h=>DL.ki h);refine ga (s:=Kn) (x:=z0) u pG dy (λarQ _ u=>?_);refine⟨aH oH (u.p3.hb.cell rfl),?_⟩;have u:=u.p2;refine fU u pG (by have h1:=gL List.length hy0;have h2:=Y.b1;simp at h1 |-;omega) dy (λs_x33 _ u=>aA gw ?_);obtain⟨aaH,rfl⟩:=u.oR;exact aR u.p2 oH (dQ rfl) (rfl) (λ_ u=>have u:=((((u.enc (cs':=kp (⟨aaH,cG,cG,cG,cG,cG⟩:bP)) rfl).p4).p4).p4).p3;have u:=u.p4;⟨_,bL,q0,aaH,xs0++[z0],b0,yC (ky hi0) yr,Wb,by rw[hy0,n4];rfl,u⟩)
 obtain⟨O,rfl⟩:=vh zV lh;replace O:=O.symm;subst O;rw[qb]at hy0;subst hy0;rw[xR lh]at u;have u:=((((((u.eU (α:=cC)).p5).p5).p3).p5).p5).p5;refine⟨λmm w'=>∃(s1:fQ) (M:SV) (xs1 a1:List (List cC)),lE l s1/\nf l als (nt l true) mm s1=some (t2,a1)/\y2=xs1++a1/\St w aX [bF (jr M) xs1.flatten,fy (jr J) y1,bX Q6 (kp (⟨J,M,cG,cG,cG,cG⟩:bP)),bX p (et lv s1),bF lv l,bX wE (kp (⟨cG,cG,cG,cG,cG,cG⟩:bP))] w',⟨10000,s0,cG,[],y2,hi0,Y.h2,rfl,u⟩,?_⟩;rintro mm _ ⟨s1,M,xs1,a1,hi1,hm1,hy1,u⟩ _;obtain⟨m1,rfl⟩:=sU hm1
 refine aY yN u.p3 (H':=λ_=>bX p (et lv (iB l s1 (j0 #[118,111,108])).1)) (Φ:=λv _=>v=.bool (iB l s1 (j0 #[118,111,108])).2) (λB G E=>?_) ?_
 .exact C131 p lv l s1 (j0 #[118,111,108]) B _ G (λw' hc=>(E w' hc).p3.dS) W hi1
 rintro _ _ rfl u;refine aW (λCX=>?_) (λCX=>?_)
 .obtain⟨q1,z1,b1,hd1,XR,rfl⟩:=xS hm1 CX;refine aA pY (have u:=u.drew;aB (v:=jr (M:SV)) jD u.p3.hb rfl (aY RP u (H':=λv=>sep (bX p (et lv q1)) (bF v z1)) (Φ:=λ_ _=>True) (λB G E=>?_) ?_))
  .exact(C132 p lv l (iB l s1 (j0 #[118,111,108])).1 true q1 z1 B _ G (λw' hc=>(E w' hc).p3.dS) W (ky hi1) hd1).mono λ_ _ r=>r.mono λ_ _ h=>⟨trivial,h⟩
  rintro x40 _ _ u;have u:=u.split;refine⟨aH jD (u.p4.hb.cell rfl),?_⟩;have alA:=u.p1.dS;refine bJ u.p2 ic alA (by have:=TU hy1;have:=Y.b2;omega) dy (λasQ _ u=>have u:=u.p2.drop;aA pY ?_);obtain⟨JN,rfl⟩:=u.fK;refine aR u.p3 jD (dQ rfl) (rfl) (λ_ u=>?_);have u:=((((u.enc (cs':=kp (⟨J,JN,cG,cG,cG,cG⟩:bP)) rfl).p5).p5).p4).p3;have u:=u.p5.p5;rw[<- Bx]at u;exact⟨_,bL,q1,JN,xs1++[z1],b1,yC (ky hi1) hd1,XR,by rw[hy1,n4];rfl,u⟩
 obtain⟨O,rfl⟩:=vh hm1 CX;replace O:=O.symm;subst O;rw[qb]at hy1;subst hy1;rw[xR CX]at u;have u:=(((((((u.eU (α:=cC)).p6).p6).p3).p6).p5).p6).p6;refine⟨λmm w'=>∃(s2:fQ) (V:SV) (xs2 a2:List (List cC)),lE l s2/\nf l aax (nt l false) mm s2=some (t3,a2)/\y3=xs2++a2/\St w aX [bF (jr V) xs2.flatten,fy (jr J) y1,bF (jr M) y2.flatten,bX Q6 (kp (⟨J,M,V,cG,cG,cG⟩:bP)),bX p (et lv s2),bF lv l,bX wE (kp (⟨cG,cG,cG,cG,cG,cG⟩:bP))] w',⟨10000,s1,cG,[],y3,hi1,Y.h3,rfl,u⟩,?_⟩;rintro mm _ ⟨s2,V,xs2,a2,UW,hm2,hy2,u⟩ _
 obtain⟨m2,rfl⟩:=sU hm2;refine aY yN u.p4 (H':=λ_=>bX p (et lv (iB l s2 (j0 #[108,111,99,107])).1)) (Φ:=λv _=>v=.bool (iB l s2 (j0 #[108,111,99,107])).2) (λB G E=>?_) ?_
 .exact C131 p lv l s2 (j0 #[108,111,99,107]) B _ G (λw' hc=>(E w' hc).p4.dS) W UW
 rintro _ _ rfl u;refine aW (λAZ=>?_) (λAZ=>?_)
 .obtain⟨q2,z2,b2,hd2,hn2,rfl⟩:=xS hm2 AZ;refine aA nO (have u:=u.drew;aB (v:=jr (V:SV)) jD u.p4.hb rfl (aY RP u (H':=λv=>sep (bX p (et lv q2)) (bF v z2)) (Φ:=λ_ _=>True) (λB G E=>?_) ?_))
  .exact(C132 p lv l (iB l s2 (j0 #[108,111,99,107])).1 false q2 z2 B _ G (λw' hc=>(E w' hc).p4.dS) W (ky UW) hd2).mono λ_ _ r=>r.mono λ_ _ h=>⟨trivial,h⟩
  rintro x48 _ _ u;have u:=u.split;refine⟨aH jD (u.p5.hb.cell rfl),?_⟩;have Q7:=u.p1.dS;refine bJ u.p2 ic Q7 (by have:=TU hy2;have:=Y.b3;omega) dy (λs_x49 _ u=>have u:=u.p2.drop;aA nO ?_);obtain⟨aaI,rfl⟩:=u.fK;refine aR u.p4 jD (dQ rfl) (rfl) (λ_ u=>?_);have u:=((((u.enc (cs':=kp (⟨J,M,aaI,cG,cG,cG⟩:bP)) rfl).p6).p6).p4).p3;have u:=u.p6.p6.p6;rw[<- Bx]at u;exact⟨_,bL,q2,aaI,xs2++[z2],b2,yC (ky UW) hd2,hn2,by rw[hy2,n4];rfl,u⟩
 obtain⟨O,rfl⟩:=vh hm2 AZ;replace O:=O.symm;subst O;rw[qb]at hy2;subst hy2;rw[xR AZ]at u;have u:=((((((((u.EP (α:=cK)).p7).p7).p3).p7).p5).p7).p7).p7;refine⟨λmm w'=>∃(I:fQ) (v3:SV) (xs3 a3:List cK),lE l I/\nf l Kl (alu l) mm I=some (t4,a3)/\y4=xs3++a3/\St w aX [fy (jr v3) xs3,fy (jr J) y1,bF (jr M) y2.flatten,bF (jr V) y3.flatten,bX Q6 (kp (⟨J,M,V,v3,cG,cG⟩:bP)),bX p (et lv I),bF lv l,bX wE (kp (⟨cG,cG,cG,cG,cG,cG⟩:bP))] w',⟨10000,s2,cG,[],y4,UW,Y.h4,rfl,u⟩,?_⟩;rintro mm _ ⟨I,v3,xs3,a3,Z,hm3,hy3,u⟩ _
 obtain⟨m3,rfl⟩:=sU hm3;refine aY yN u.p5 (H':=λ_=>bX p (et lv (iB l I (j0 #[116,104,114,101,97,100])).1)) (Φ:=λv _=>v=.bool (iB l I (j0 #[116,104,114,101,97,100])).2) (λB G E=>?_) ?_
 .exact C131 p lv l I (j0 #[116,104,114,101,97,100]) B _ G (λw' hc=>(E w' hc).p5.dS) W Z
 rintro _ _ rfl u;refine aW (λuX=>?_) (λuX=>?_)
 .obtain⟨q3,z3,b3,hd3,hn3,rfl⟩:=xS hm3 uX;refine aY agi u (H':=λ_=>bX p (et lv (eZ l (iB l I (j0 #[116,104,114,101,97,100])).1).1)) (Φ:=λv _=>v=jr (eZ l (iB l I (j0 #[116,104,114,101,97,100])).1).2) (λB G E=>?_) ?_
  .exact C133 p lv l (iB l I (j0 #[116,104,114,101,97,100])).1 B _ G (λw' hc=>(E w' hc).p5.dS) W (ky Z)
  rintro _ _ rfl u;refine aQ u oL (λb_c10 _ u=>aM (x:=(eZ l (iB l I (j0 #[116,104,114,101,97,100])).1).2) u lZ rfl rfl λ_ u=>aA kD (have u:=u.drew;aB (v:=jr (v3:SV)) iq u.p6.hb rfl (aA kJ (aB (v:=.string (((eZ l (iB l I (j0 #[116,104,114,101,97,100])).1).2).name)) gv u.hb rfl (aA uH (aB (v:=ir (((eZ l (iB l I (j0 #[116,104,114,101,97,100])).1).2).at_)) bO u.hb rfl (pop (O2 _ _) (aY agj u.p1 (H':=λv=>oO λsh:cB=>fact (v=jr sh) (sep (bX p (et lv q3)) (eC λw=>n5 w sh z3))) (Φ:=λ_ _=>True) (λB G E=>?_) ?_))))))))
  .exact(C134 p lv l (eZ l (iB l I (j0 #[116,104,114,101,97,100])).1).1 ((eZ l (iB l I (j0 #[116,104,114,101,97,100])).1).2).name ((eZ l (iB l I (j0 #[116,104,114,101,97,100])).1).2).at_ q3 z3 B _ G (λw' hc=>(E w' hc).p6.dS) W (vg (ky Z)) hd3).mono λ_ _ r=>r.mono λ_ _ h=>⟨trivial,h⟩
  rintro v_x63 _ _ xE;obtain⟨alD,zh⟩:=xE.dK
  clear xE
  obtain⟨alE,D8⟩:=zh.j4
  clear zh
  subst alE;have u:=D8.split
  clear D8
  refine⟨aH iq (u.p7.hb.cell rfl),?_⟩;have u:=u.p1;refine ga (s:=alD) (x:=z3) u fu dy (λasR _ u=>?_);refine⟨aH iq (u.p7.hb.cell rfl),?_⟩;have u:=u.p3;refine fU u fu (by have h1:=gL List.length hy3;have h2:=Y.b4;simp at h1 |-;omega) dy (λasS _ u=>aA kD ?_);obtain⟨aaJ,rfl⟩:=u.oR;exact aR u.p6 iq (dQ rfl) (rfl) (λ_ u=>have u:=((((u.enc (cs':=kp (⟨J,M,V,aaJ,cG,cG⟩:bP)) rfl).p3).drop).p7).p7;have u:=u.p4.p3.p7.p7.p7.p7;⟨_,bL,q3,aaJ,xs3++[z3],b3,Gl (vg (ky Z)) hd3,hn3,by rw[hy3,n4];rfl,u⟩)
 obtain⟨O,rfl⟩:=vh hm3 uX;replace O:=O.symm;subst O;rw[qb]at hy3;subst hy3;rw[xR uX]at u;refine⟨λw'=>∃v4:SV,St w aX [fy (jr v4) y5,fy (jr J) y1,bF (jr M) y2.flatten,bF (jr V) y3.flatten,fy (jr v3) y4,bX Q6 (kp (⟨J,M,V,v3,v4,cG⟩:bP)),bX p (et lv t5),bF lv l,bX wE (kp (⟨cG,cG,cG,cG,cG,cG⟩:bP))] w',?_,?_⟩
 .refine aY yN u (H':=λ_=>bX p (et lv (iB l I (j0 #[114,101,99,111,118,101,114])).1)) (Φ:=λv _=>v=.bool (iB l I (j0 #[114,101,99,111,118,101,114])).2) (λB G E=>?_) ?_
  .exact C131 p lv l I (j0 #[114,101,99,111,118,101,114]) B _ G (λw' hc=>(E w' hc).p5.dS) W Z
  rintro _ _ rfl u;refine aW (λN0=>?_) (λN0=>?_)
  .obtain⟨z4,hd4,hy5⟩:=NZ Y.h5 N0;obtain⟨azP,_,hlo68,hhi68⟩:=aay N0;have hat68:(iB l I (j0 #[114,101,99,111,118,101,114])).1.at_=I.at_+1:=by rw[azP]
   refine aA oI (have u:=u.drew;aB (v:=jr (cG:SV)) iq u.p5.hb rfl (aD (aA fw (aB bO u.hb rfl (fc bL ?_)))));obtain⟨aaK,aaL⟩:=gx l (i:=(((iB l I (j0 #[114,101,99,111,118,101,114])).1).at_-1).toNat) bL;refine dG u.p6 fI bL bL (λ_ NN=>mq lI NN λ_ asT=>nH aaK.at_ u.p6 bO asT aaL rfl (pop (Xk _) ?_));have hbk:z6 l (iB l I (j0 #[114,101,99,111,118,101,114])).1=aaK.at_:=gL bQ.at_ (Bw bL aaL);rw[hbk]at hd4;refine aY agj u (H':=λv=>oO λsh:cB=>fact (v=jr sh) (sep (bX p (et lv t5)) (eC λw=>n5 w sh z4))) (Φ:=λ_ _=>True) (λB G E=>?_) ?_
   .exact(C134 p lv l (iB l I (j0 #[114,101,99,111,118,101,114])).1 (j0 #[]) aaK.at_ t5 z4 B _ G (λw' hc=>(E w' hc).p5.dS) W (ky Z) hd4).mono λ_ _ r=>r.mono λ_ _ h=>⟨trivial,h⟩
   rintro v_x82 _ _ xE;obtain⟨alF,zh⟩:=xE.dK
   clear xE
   obtain⟨alG,D8⟩:=zh.j4
   clear zh
   subst alG;have u:=D8.split
   clear D8
   refine⟨aH iq (u.p6.hb.cell rfl),?_⟩;have u:=u.p1;refine ga (s:=alF) (x:=z4) u fu dy (λahv _ u=>?_);refine⟨aH iq (u.p6.hb.cell rfl),?_⟩;have u:=((u.EP (α:=cK)).p1).p1;refine fU u fu ee dy (λaq0 _ u=>aA oI ?_);obtain⟨aaM,rfl⟩:=u.oR;refine aR u.p6 iq (dQ rfl) (rfl) (λ_ u=>?_);have u:=(((((u.enc (cs':=kp (⟨J,M,V,v3,aaM,cG⟩:bP)) rfl).p8).p8).p4).p3).p5;have u:=u.p8.p8.p8.p8;rw[hy5];exact⟨aaM,u⟩
  rw[xR N0]at u;have u:=(((((((((u.EP (α:=cK)).p8).p8).p3).p8).p5).p8).p8).p8).p8;obtain⟨e5,e6⟩:=TT Y.h5 N0;rw[e5,e6];exact⟨cG,u⟩
 rintro _ ⟨v4,u⟩ _;have u:=((((((((((u.EP (α:=gP)).p9).p9).p9).p9).p5).p9).p9).p9).p9).p9;refine⟨λmm w'=>∃(U:fQ) (v5:SV) (xs5 a5:List gP),lE l U/\nf l Km (λs=>xQ l s (z6 l s)) mm U=some (t6,a5)/\y6=xs5++a5/\St w aX [fy (jr v5) xs5,fy (jr J) y1,bF (jr M) y2.flatten,bF (jr V) y3.flatten,fy (jr v3) y4,fy (jr v4) y5,bX Q6 (kp (⟨J,M,V,v3,v4,v5⟩:bP)),bX p (et lv U),bF lv l,bX wE (kp (⟨cG,cG,cG,cG,cG,cG⟩:bP))] w',⟨10000,t5,cG,[],y6,(afk Z Y.h5),Y.h6,rfl,u⟩,?_⟩;rintro mm _ ⟨U,v5,xs5,a5,hi5,hm5,hy5,u⟩ _
 obtain⟨m5,rfl⟩:=sU hm5;refine aY yN u.p7 (H':=λ_=>bX p (et lv (iB l U (j0 #[97,108,119,97,121,115])).1)) (Φ:=λv _=>v=.bool (iB l U (j0 #[97,108,119,97,121,115])).2) (λB G E=>?_) ?_
 .exact C131 p lv l U (j0 #[97,108,119,97,121,115]) B _ G (λw' hc=>(E w' hc).p7.dS) W hi5
 rintro _ _ rfl u;refine aW (λN1=>?_) (λN1=>?_)
 .obtain⟨q5,z5,b5,hd5,D1,rfl⟩:=xS hm5 N1;obtain⟨azS,_,hlo87,hhi87⟩:=aay N1;have hat87:(iB l U (j0 #[97,108,119,97,121,115])).1.at_=U.at_+1:=by rw[azS]
  refine aA jn (have u:=u.drew;aB (v:=jr (v5:SV)) qN u.p7.hb rfl (aD (aA fw (aB bO u.hb rfl (fc bL ?_)))));obtain⟨aaN,aaO⟩:=gx l (i:=(((iB l U (j0 #[97,108,119,97,121,115])).1).at_-1).toNat) bL;refine dG u.p8 fI bL bL (λ_ asV=>mq lI asV λ_ asW=>nH aaN.at_ u.p8 bO asW aaO rfl ?_);have hbk:z6 l (iB l U (j0 #[97,108,119,97,121,115])).1=aaN.at_:=gL bQ.at_ (Bw bL aaO);rw[hbk]at hd5;refine aY anS u (H':=λv=>oO λsh:jq=>fact (v=jr sh) (sep (bX p (et lv q5)) (eC λw=>n5 w sh z5))) (Φ:=λ_ _=>True) (λB G E=>?_) ?_
  .exact(C135 p lv l (iB l U (j0 #[97,108,119,97,121,115])).1 aaN.at_ q5 z5 B _ G (λw' hc=>(E w' hc).p7.dS) W (ky hi5) hd5).mono λ_ _ r=>r.mono λ_ _ h=>⟨trivial,h⟩
  rintro azT _ _ xE;obtain⟨afm,zh⟩:=xE.dK
  clear xE
  obtain⟨afn,D8⟩:=zh.j4
  clear zh
  subst afn;have u:=D8.split
  clear D8
  refine⟨aH qN (u.p8.hb.cell rfl),?_⟩;have u:=u.p1;refine ga (s:=afm) (x:=z5) u tf dy (λakM _ u=>?_);refine⟨aH qN (u.p8.hb.cell rfl),?_⟩;have u:=u.p2;refine fU u tf (by have h1:=gL List.length hy5;have h2:=Y.b6;simp at h1 |-;omega) dy (λakN _ u=>aA jn ?_);obtain⟨TV,rfl⟩:=u.oR;exact aR u.p7 qN (dQ rfl) (rfl) (λ_ u=>have u:=(((((u.enc (cs':=kp (⟨J,M,V,v3,v4,TV⟩:bP)) rfl).p9).p9).p4).p3).p9;have u:=u.p9.p9.p9.p9.p9;⟨_,bL,q5,TV,xs5++[z5],b5,Vt (ky hi5) hd5,D1,by rw[hy5,n4];rfl,u⟩)
 obtain⟨O,rfl⟩:=vh hm5 N1;replace O:=O.symm;subst O;rw[qb]at hy5;subst hy5;rw[xR N1]at u;obtain⟨hi50,hi51⟩:=id hi5;refine⟨λw'=>St w aX [fy (jr v5) y6,fy (jr J) y1,bF (jr M) y2.flatten,bF (jr V) y3.flatten,fy (jr v3) y4,fy (jr v4) y5,bX Q6 (kp (⟨J,M,V,v3,v4,v5⟩:bP)),bX p (et lv (G9 l U)),bF lv l,bX wE (kp (⟨cG,cG,cG,cG,cG,cG⟩:bP))] w',aD (aA fw (aB bO u.hb rfl (aI fI u.p8.dS (aN (aC (λQ8=>?_) λQ8=>?_))))),?_⟩
 .refine aY RQ u (H':=λ_=>bX p (et lv (js l U 5))) (Φ:=λ_ _=>True) (λB G E=>?_) ?_
  .exact(C136 p lv l U B _ G (λw' hc=>(E w' hc).p7.dS) W hi5).mono λ_ _ r=>r.mono λ_ _ h=>⟨trivial,h.2⟩
  rintro _ _ _ u;have u:=u.p9.p9.p2.p9.p9.p9.p9.p9.p9.p9;have he6:G9 l U=js l U 5:=ej Q8;rw[he6];exact u
 .have u:=u.p9.p9.p2.p9.p9.p9.p9.p9.p9.p9;have he6:G9 l U=U:=ei Q8;rw[he6];exact u
 intro _ u _;refine aD (aA ml (aB jE u.p7.hb rfl (bW (aC (λQ9=>?_) λQ9=>?_))))
 .refine pop (v:=jr (⟨cG,cG,cG,cG,cG,cG⟩:bP)) (by kernel_rfl) (aD (aA ml (have u:=u.drew;aB jE u.p7.hb rfl (aD (aA wZ (aB bO u.p7.hb rfl (aM (x:=(⟨cG,cG,cG,cG,cG,cG⟩:bP)) u.p9 fp rfl rfl λ_ u=>?_)))))));refine⟨aH jE (u.p8.hb.cell rfl),?_⟩;refine⟨aH bO (u.p8.hb.cell rfl),?_⟩;refine aE fp u.At ?_;have u:=u.gE (Φ:=(λw=>n5 w (⟨cG,cG,cG,cG,cG,cG⟩:bP) (⟨[],[],[],[],[],[]⟩:cR))) (λ_=>⟨_,_,_,_,_,_,rfl,DL.nil _,DL.nil _,DL.nil _,DL.nil _,DL.nil _,DL.nil _⟩);have u:=u.p1.drop.p1.drop.p1.drop.p1.drop.p1.drop.p1.drop.p1.drop.p1.drop.p1.drop
  have u:=u.p1.drop;rw[Y.bad Q9];exact⟨_,rfl,u.fresh⟩
 refine aE fp u.p6.At (aM (x:=(⟨J,M,V,v3,v4,v5⟩:bP)) u.p9 fp rfl rfl λ_ u=>aE fp u.At ?_);have u:=u.p2.oQ.p3.freeze.p1.fX.p3.freeze.p1.fX.p3.oQ.p1.fX.p3.oQ.p1.fX;have u:=u.p2.oQ.p1.fX.dH (Ψ:=(λw=>n5 w (⟨J,M,V,v3,v4,v5⟩:bP) (⟨y1,y2.flatten,y3.flatten,y4,y5,y6⟩:cR))) (λ_ h=>⟨_,_,_,_,_,_,rfl,h.1.1.1.1.1,DL.ki h.1.1.1.1.2,DL.ki h.1.1.1.2,h.1.1.2,h.1.2,h.2⟩);have u:=u.p1.drop.p1.drop.p1.drop.p1.drop;rw[Y.azI Q9];exact⟨_,rfl,u.fresh⟩
theorem N2{l:List Int}{k:Nat}(u:0<k)(h:k<=l.length):fP (l.take k)=l.getD (k-1) 0+1:=by
 grind[fP]
def D9{f:Int->List iw}{a k:Int}{xs:List iw}{x:iw}(h:x∈oX f a xs k):x∈xs\/x∈f k:=by
 unfold oX at h;grind
def IA{m:Mem}{c n:Int}(h:tO m):tO (fg m c n):=by
 unfold fg
 split
 .rename_i tA
  unfold G4 at tA;rw[decide_eq_true_eq]at tA
  refine⟨h.G5,h.fl,by show(m.l.set _ _).length=_;rw[Jc];exact h.ll,h.kl,h.ofr,h.lb,λk x u=>?_⟩
  dsimp only at u
  split at u
  .rename_i hc
   rcases D9 u with h1|h1
   .rw[pd]at h1
    rcases h1 with h1|h1
    .exact h.pc _ x h1
    grind
   exact h.pc _ x h1
  exact h.pc _ x u
 exact h
def afo{m:Mem}{c:Int}(h:tO m):tO (n7 m c):=by
 unfold n7
 split
 .refine⟨h.G5,h.fl,h.ll,by show(nN _ _).length=_;rw[xG];exact h.kl,h.ofr,h.lb,λk x u=>?_⟩
  rcases D9 u with h1|h1
  .cases h1
  exact h.pc _ x h1
 exact h
def Vz{m:Mem}{cut u:List Int}(h:fh m cut=some u):u.length=m.kept.length:=by
 unfold fh at h;split at h
 .cases h;exact lS _ _ _
 cases h
def VA{m:Mem}{cut u:List Int}(h:tO m)(hi:fh m cut=some u):tO (mF m u):=by
 have h1:=Vz hi
 have h2:=h.kl;have h3:=h.G5
 refine⟨h.G5,h.fl,?_,?_,h.ofr,h.lb,λk x B=>by cases B⟩
 .show(u++m.ef.drop u.length).length=m.ef.length
  rw[l0,List.length_drop];omega
 show u.length=m.of.length;omega
section
def IB{u:Mem}{x:bH}(h:tO u):tO (jM u x)/\(jM u x).of=u.of/\(jM u x).ef=u.ef:=by
 unfold jM
 split
 .exact⟨IA h,Ie _ _ _,ui _ _ _⟩
 split
 .grind
 exact⟨afo h,aeP _ _,Nj _ _⟩
end
def MB.mono{B:Mem}{a b:Nat}(h:MB B a)(u:a<=b):MB B b:=λk=>Nat.le_trans (h k) u
def MB.write{u:Mem}{c x:Int}{n:Nat}(h:MB u n):MB (fg u c x) (n+1):=by
 intro k
 unfold fg
 split
 .dsimp only
  split
  .unfold oX
   split
   .rw[l0,nh];have:=h (u.of.getD c.toNat 0);omega
   have:=h k;omega
  have:=h k;omega
 have:=h k;omega
theorem MB.out{u:Mem}{c:Int}{n:Nat}(h:MB u n):MB (n7 u c) n:=by
 intro k
 unfold n7
 split
 .dsimp only
  unfold oX
  split
  .simp
  exact h k
 exact h k
theorem MB.jM{u:Mem}{x:bH}{n:Nat}(h:MB u n):MB (jM u x) (n+1):=by
 unfold Go.Proofs.YtpdlpabnlkofmaaGreatDoor.jM
 split
 .exact h.write
 split
 .exact h.mono (Nx n)
 exact h.out.mono (Nx n)
theorem alH{α:Type}{g:α->Bool}{l:List α}(h:0<=sg g l):sg g l<l.length:=by
 unfold sg at h |-
 cases hf:l.findIdx? g with
 | none=>grind
 | some k=>
  have:=(List.findIdx?_eq_some_iff_getElem.1 hf).1
  grind
def aaP{ns:List ByteArray}{s:ByteArray}(h:0<=cU ns s):cU ns s<ns.length:=alH h
theorem Ex.asX(ns:List ByteArray)(t:Ex):t.wf->∀n h:Int,0<=n->∃O,(t.steps ns).foldl V7 (some (n,h))=some (n+1,O):=by
 induction t with
 | leaf x=>
  intro B n h G
  have u:kids x.op=0:=B
  have E:eA x.op=0:=by
   unfold kids at u
   unfold eA
   omega
  simp_all[V7,steps]
 | un x a J=>
  intro B n h G
  have u:kids x.op=1:=B.1
  have E:eA x.op=1:=by
   unfold kids at u
   unfold eA
   omega
  obtain⟨h1,M⟩:=J B.2 n h G
  simp_all[V7,steps]
 | bin x a b U I=>
  intro B n h G
  have u:kids x.op=2:=B.1
  have E:eA x.op=2:=by
   unfold kids at u
   unfold eA
   omega
  obtain⟨h1,M⟩:=U B.2.1 n h G
  obtain⟨h2,V⟩:=I B.2.2 (n+1) h1 bL
  refine⟨max h2 (n+1),?_⟩
  grind[V7,steps]
def Ko{k:Int}(h:kids k=0\/kids k=1\/kids k=2):1<=k/\k<=15:=by
 unfold kids at h
 omega
theorem Ex.VB(ns:List ByteArray)(t:Ex):t.wf->∀o∈t.steps ns,∃x∈t.flat,o=⟨x.op,numOf ns x⟩/\1<=x.op/\x.op<=15:=by
 induction t with
 | leaf x=>intro B o u;exact⟨x,by simp[Ex.flat],by simpa[Ex.steps]using u,Ko (.inl B)⟩
 | un x a G=>
  intro B o u
  have u:o∈a.steps ns++[⟨x.op,numOf ns x⟩]:=u
  rw[pd]at u
  rcases u with u|u
  .obtain⟨y,h1,h2⟩:=G B.2 o u;exact⟨y,by simp[Ex.flat,h1],h2⟩
  .exact⟨x,by simp[Ex.flat],cD,Ko (.inr (.inl B.1))⟩
 | bin x a b I E=>
  intro B o u
  have u:o∈a.steps ns++b.steps ns++[⟨x.op,numOf ns x⟩]:=u
  rw[pd,pd]at u
  rcases u with(u|u)|u
  .obtain⟨y,h1,h2⟩:=I B.2.1 o u;exact⟨y,by simp[Ex.flat,h1],h2⟩
  .obtain⟨y,h1,h2⟩:=E B.2.2 o u;exact⟨y,by simp[Ex.flat,h1],h2⟩
  .exact⟨x,by simp[Ex.flat],cD,Ko (.inr (.inr B.1))⟩
def N3{ns:List ByteArray}{l:List bU}{many:Int}(G:fz l=true)(E:oZ l ns=false)(hm:many=ns.length):mu (qz ns l) many=true/\(qz ns l).length<=40:=by
 have Dg:=G
 unfold fz at G
 simp only[oj,u1,decide_eq_true_eq,CP]at G
 obtain⟨⟨⟨h1,h2⟩,h3⟩,h4⟩:=G
 obtain⟨t,O⟩:=Option.isSome_iff_exists.1 h2
 obtain⟨U,M⟩:=vC O
 have hv0:=E
 unfold oZ at E
 have V:kQ ns l=0:=by grind[kQ]
 have W:qz ns l=t.steps ns:=by unfold qz;rw[ej V];unfold Cc;rw[O]
 rw[W]
 have hlen:(t.steps ns).length<=40:=by rw[Ex.pK,<- Ex.cX,<- M];exact h1
 obtain⟨Y,e'⟩:=t.asX ns U 0 0 (Ot _)
 have e2:ht (t.steps ns)=some (1,Y):=by unfold ht;grind
 refine⟨?_,hlen⟩
 unfold mu htN
 rw[e2]
 simp only[Option.isSome_some,decide_true,Bool.and_true,oj,decide_eq_true_eq,u1,CP]
 refine⟨hlen,λo Z=>?_⟩
 obtain⟨x,J,rfl,RK,uR⟩:=t.VB ns U o Z
 rw[<- M]at J
 have u:=h3 x J
 unfold kX at u
 simp only[Bool.or_eq_true,decide_eq_true_eq,not_or,oj,u1,not_and,Bool.not_eq_false]at u
 obtain⟨⟨⟨⟨g1,g2⟩,g3⟩,g4⟩,g5⟩:=u
 have hn:Ex.numOf ns x=if x.op=2 then cU ns x.name else x.n:=rfl
 unfold qU
 simp only[decide_eq_true_eq]
 rintro(⟨B,I⟩|⟨B,I⟩|⟨B,I,q3⟩)
 .omega
 .have B:x.op=2:=B
  rw[hn,ej B]at I
  rw[CP]at E
  have:=E x J
  simp only[oj,decide_eq_true_eq,not_and]at this
  have h5:=this B
  have h6:=aaP (ns:=ns) (s:=x.name) bL
  omega
 omega
theorem vV:∀(ls:List (List cC)) (i a:Int),0<=a->(∀l∈ls,l≠[])->i<=jl ls i a/\(∀b,a<=b->jl ls i a<=jl ls i b)/\(jl ls i (a+1)=jl ls i a\/jl ls i (a+1)=jl ls i a+1)
 | [],i,a,B,_=>⟨by unfold jl;omega,λb hb=>by unfold jl;omega,by unfold jl;omega⟩
 | l::r,i,a,B,hl=>by
  have U:0<l.length:=List.length_pos_iff.2 (hl l (List.mem_cons_self ..))
  have u:=λl E=>hl l (List.mem_cons_of_mem _ E)
  unfold jl
  by_cases h1:a<l.length
  .rw[ej h1]
   refine⟨Ot _,λb hb=>?_,?_⟩
   .split
    .omega
    .have:=(vV r (i+1) (b-l.length) bL u).1;omega
   .split
    .omega
    .have e:a+1-(l.length:Int)=0:=bL
     rw[e]
     cases r with
     | nil=>unfold jl;omega
     | cons O J=>
      simp_all[jl]
  .rw[ei h1]
   obtain⟨G,M,I⟩:=vV r (i+1) (a-l.length) bL u
   grind
section
variable {p:cR}
theorem vi(p:cR):0<=eL p/\eL p<=(iJ p).length:=by grind[eL,iJ]
theorem N4{c:Int}(h:0<=c/\c<(iJ p).length):pw p c=jl p.lines 0 c:=by unfold pw;omega
end
section
variable {m:gC}{t:jd}{i:Int}{x:bM}{p:cR}
theorem aaQ:(ea m t i x).1.l=m.l:=by
 unfold ea rB pA;grind
theorem CF:(ea m t i x).1.room=m.room:=by
 unfold ea rB pA;grind
theorem alI:(ea m t i x).1.p=m.p:=by
 unfold ea rB pA;grind
theorem CG:(ea m t i x).2.1.bV=t.bV:=by
 unfold ea o7 pW;grind
theorem vW:(ea m t i x).2.1.names=t.names:=by
 unfold ea o7 pW;grind
theorem VC{room:Int}{l:List bH}{y:bH}:(sI room l y).length<=l.length\/((sI room l y).length:Int)<=room:=by
 grind[sI]
theorem Kp{φ:bM->Prop}(h:sO φ t)(B:m.room<=16):sO φ (ea m t i x).2.1:=by
 have h1:=h.p;have h2:=h.rl;have h3:=h.nb;have h4:=h.bl;have h5:=h.cl
 have u:∀y,sO φ (pW m t y):=λy=>by
  have h6:=VC (room:=m.room) (l:=t.buf) (y:=y)
  exact⟨h1,h2,h3,by show(sI m.room t.buf y).length<=1000;omega,h5⟩
 unfold ea;repeat' split
 all_goals first
  | exact h
  | exact h.set _ _
  | exact u _
theorem aaR(h:tO m.mem):tO (ea m t i x).1.mem/\(ea m t i x).1.mem.of=m.mem.of/\(ea m t i x).1.mem.ef=m.mem.ef:=by
 unfold ea rB pA;repeat' split
 all_goals first
  | exact⟨h,rfl,rfl⟩
  | exact⟨IA h,Ie _ _ _,ui _ _ _⟩
theorem afp{n:Nat}(h:MB m.mem n):MB (ea m t i x).1.mem (n+1):=by
 unfold ea rB pA;repeat' split
 all_goals first
  | exact h.mono (Nx n)
  | exact h.write
theorem afq:(ea m t i x).1.eI.length=m.eI.length:=by
 unfold ea rB pA;grind
theorem Kq{φ:bM->Prop}(h:sO φ t):sO φ {t with bV:=gB t.bV}:=by
 refine h.bV h.p.pop ?_
 match hp:t.bV with
 | []=>exact sl _
 | (.nil,_)::q=>grind[gT,gB]
 | (.cons y a b r,e)::q=>have:=Qy (p:=(.cons y a b r,e)::q) rfl;omega
theorem N5{cs ls:List ByteArray}(h:yx cs ls t):aad (goD t):=λu=>Tj _ (qI h).1 h u
theorem VD(u:lX m)(ht:t∈m.l):yx (cT m.p) (cH m.p) (um m t i x)/\aad (um m t i x)/\(um m t i x).names=t.names:=by
 have h1:sO (Vc (cT m.p) (cH m.p) t.names) { (ea m t i x).2.1 with bV:=gB (ea m t i x).2.1.bV}:=Kq (Kp (u.th t ht) u.rm.2)
 have h2:yx (cT m.p) (cH m.p) { (ea m t i x).2.1 with bV:=gB (ea m t i x).2.1.bV}:=by
  show sO (Vc _ _ (ea m t i x).2.1.names) _
  rw[vW];exact h1
 exact⟨(qI h2).2.1,N5 h2,(qI h2).2.2.trans vW⟩
theorem vj{β:Type}{l:List β}{k:Nat}{a y:β}(h:y∈l.set k a):y=a\/y∈l:=(List.mem_or_eq_of_mem_set h).symm
theorem aaS(u:lX m):lX (im m i).1/\(im m i).1.p=m.p/\(∀n,MB m.mem n->MB (im m i).1.mem (n+1))/\(im m i).1.l.length=m.l.length:=by
 unfold im
 split
 .exact⟨u,rfl,λn h=>h.mono (Nx n),rfl⟩
 rename_i t ht
 have G:=kO ht
 split
 .exact⟨⟨u.mem,u.th,u.tl,u.ow,u.rm,u.st,u.pz⟩,rfl,λn h=>h.mono (Nx n),rfl⟩
 split
 .exact⟨u,rfl,λn h=>h.mono (Nx n),rfl⟩
 rename_i x _ _ _
 split
 .exact⟨⟨u.mem,u.th,u.tl,u.ow,u.rm,u.st,u.pz⟩,rfl,λn h=>h.mono (Nx n),rfl⟩
 obtain⟨J,I,_⟩:=VD (i:=i) (x:=x) u G
 have E:=alI (m:=m) (t:=t) (i:=i) (x:=x)
 refine⟨⟨(aaR u.mem).1,λy B=>?_,by show(m.l.set _ _).length<=_;rw[Jc];exact u.tl,?_,by show 1<=(ea m t i x).1.room/\_;rw[CF];exact u.rm,λy B=>?_,?_⟩,E,λn h=>afp h,Jc⟩
 .show yx (cT (ea m t i x).1.p) (cH (ea m t i x).1.p) y
  rw[E]
  rcases vj B with rfl|B
  .exact J
  exact u.th y B
 .show(ea m t i x).1.eI.length=(cH (ea m t i x).1.p).length
  rw[afq,E];exact u.ow
 .rcases vj B with rfl|B
  .exact I
  exact u.st y B
 show PZ (ea m t i x).1.p;rw[E];exact u.pz
theorem Ra{l:List bH}{i:Int}:(jL l i).length<=l.length:=by
 grind[jL]
theorem afr{q:cS}(u:lX m)(ht:m.l[q.t.toNat]?=some t):lX (tq m t q)/\(∀n,MB m.mem n->MB (tq m t q).mem (n+1)):=by
 have E:=kO ht
 have h1:=u.th t E
 refine⟨⟨(IB u.mem).1,λy B=>?_,by show(m.l.set _ _).length<=_;rw[Jc];exact u.tl,u.ow,u.rm,λy B=>?_,u.pz⟩,λn h=>h.jM⟩
 .rcases vj B with rfl|B
  .have:=Ra (l:=t.buf) (i:=q.i)
   exact⟨h1.p,h1.rl,h1.nb,by show(jL t.buf q.i).length<=1000;have:=h1.bl;omega,h1.cl⟩
  exact u.th y B
 rcases vj B with rfl|B
 .exact u.st t E
 exact u.st y B
structure IC(p:cR):Prop where
 f:PF p
 big:uW p=false
 w:∀t∈gl p,qY t.body=false
 tw:kr (fO p)=false
 u:∀t∈gl p,∀x∈t.body,nc p t.dO x=false
theorem Ea(h:fr p=0):IC p:=by
 unfold fr at h
 split at h
 .cases h
 rename_i h1
 split at h
 .cases h
 rename_i h2
 split at h
 .cases h
 rename_i h3
 split at h
 .cases h
 rename_i h4
 split at h
 .cases h
 rename_i h5
 split at h
 .cases h
 rename_i h6
 simp only[Bool.not_eq_true,CP]at h2 h3 h4 h6
 exact⟨qB cD,h2,λt ht=>cD,h4,λt ht x u=>cD⟩
theorem Ks:∀(b:Bk) (n:Int),b.ok n=true->∀x∈b.flat,x.ep<=0\/x.kind=11
 | .nil,_,_,_,h=>by cases h
 | .cons y a b r,n,h,x,u=>by
  unfold Bk.ok at h
  simp only[oj]at h
  obtain⟨⟨⟨h1,h2⟩,h3⟩,h4⟩:=h
  unfold Bk.flat at u
  rcases List.mem_cons.1 u with rfl|u
  .unfold Bk.ym at h1;grind
  .rcases pd.1 u with u|u
   .exact Ks a _ h2 x u
   .rcases pd.1 u with u|u
    .exact Ks b _ h3 x u
    .exact Ks r _ h4 x u
theorem Gm{l:List bU}(h:fz l=true):l.length<=40:=by
 unfold fz at h
 grind
theorem ID{l:List bU}(h:fz l=true):∀y∈l,y.name.size<=1000:=λy B=>by
 have u:kX y=false:=by
  unfold fz at h
  grind
 unfold kX gI at u
 by_cases h2:y.op=2
 .grind
 .have:y.name=⟨#[]⟩:=cD
  rw[this];decide
theorem alJ(hc:IC p){t:cK}(ht:t∈gl p){x:bM}(M:x∈t.body)(G:m9 x=true)(V:x.ep<=0\/x.kind=11):Vc (cT p) (cH p) t.dO x:=by
 have E:=hc.u t ht x M
 have Y:=JH G
 have u:=yp G
 unfold nc at E
 simp only[LR,Bool.and_eq_false_iff,decide_eq_false_iff_not,A0]at E
 obtain⟨⟨⟨⟨⟨B,U⟩,Z⟩,u4⟩,_⟩,_⟩:=E
 have O:x.e.length<=1000:=by
  rcases u.e with h|h
  .have:=Gm h.2;omega
  grind
 have I:x.f.length<=1000:=by
  rcases u.f with h|h
  .have:=Gm h.2;omega
  grind
 refine⟨u.kind,⟨O,I⟩,λh=>bL,λh=>bL,λh=>?_,λh=>bL,λh=>bL,?_,?_⟩
 rotate_left
 .rcases u.e with h|h
  .exact ID h.2
  grind
 .rcases u.f with h|h
  .exact ID h.2
  grind
 rcases B with B|B
 .exfalso
  have J:=u.ey
  rcases J with⟨_,h2⟩|⟨h1,_⟩
  .rw[B,MY]at h2;cases h2
  have W:=u.kind
  rcases h with h|h|h<;>rw[h]at h1<;>exact absurd h1 dy
 omega
theorem vk:∀(b:Bk) (n:Int),1<=n->n<=64->mC b n=false->(∀x∈b.flat,x.kind=12->1<=x.n)->n.toNat*lT b<=128*b.len
 | .nil,n,_,_,_,_=>by simp[lT]
 | .cons y a b r,n,h1,h2,hw,G=>by
  rw[vH]at hw
  simp only[LR,decide_eq_false_iff_not]at hw
  obtain⟨⟨I,u,M⟩,w4⟩:=hw
  have O:∀x∈a.flat,x.kind=12->1<=x.n:=λx E=>G x (by unfold Bk.flat;simp[E])
  have W:∀x∈b.flat,x.kind=12->1<=x.n:=λx E=>G x (by unfold Bk.flat;simp[E])
  have Y:∀x∈r.flat,x.kind=12->1<=x.n:=λx E=>G x (by unfold Bk.flat;simp[E])
  have Z:=vk r n h1 h2 w4 Y
  rw[sN]
  unfold Bk.len
  obtain⟨k,rfl⟩:=PX (show 0<=n by omega)
  rw[tx]at Z |-
  by_cases B:y.kind=12
  .rw[ej B]
   have U:=G y (by unfold Bk.flat;grind) B
   unfold qX at I u
   rw[ej B]at I u
   obtain⟨j,V⟩:=PX (show 0<=y.n by omega)
   rw[V]at I u U
   rw[V,tx]
   have J:(1:Int)<=(k:Int)*(j:Int):=by
    have:=Int.mul_le_mul (a:=1) (b:=1) (c:=(k:Int)) (d:=(j:Int)) h1 U bL bL
    omega
   have ia:=vk a _ J bL u O
   grind
  .rw[ei B]
   unfold qX at u M
   rw[ei B]at u M
   have ia:=vk a k h1 h2 u O
   have ib:=vk b k h1 h2 M W
   grind
theorem N6{b:Bk}(h:b.str):Im b.flat=b:=by unfold Im;rw[rE h];rfl
theorem Eb(hc:IC p){t:cK}(ht:t∈gl p):yx (cT p) (cH p) (wG t):=by
 obtain⟨_,h2,_⟩:=hc.f.rF ht
 obtain⟨h3,h4,b,h5,h6,I,_⟩:=lr h2
 have hb:Im t.body=b:=by rw[h5];exact N6 h6
 have O:Ds (Vc (cT p) (cH p) t.dO) b:=(Va b).2 λx u=>by
  rw[<- h5]at u
  exact alJ hc ht u (h4 x u) (Ks b 0 I x cD)
 have M:F8 (Vc (cT p) (cH p) t.dO) []:=⟨λ_ h=>(by cases h),λ_ h=>(by cases h),λ_ h=>(by cases h)⟩
 have E:=hc.w t ht
 rw[h5,vE h6]at E
 have U:=vk b 1 bL bL E λx u J=>(((JH (h4 x cD)).2 J).1)
 have V:b.len<=40:=by rw[<- Bk.cX,<- h5];exact h3
 have G:t.dO.length<=4:=by
  have B:=hc.big
  unfold uW at B
  grind
 refine⟨?_,by simp[wG],by show t.dO.length<=1000;omega,by simp[wG],?_⟩
 .show F8 _ (jm (Im t.body) false [])
  rw[hb];exact M.push h6 O
 show gT (jm (Im t.body) false [])<=10000
 rw[hb,sM]
 grind[lT,gT]
theorem aaT:yx (cT p) (cH p) (wG ⟨⟨#[]⟩,[],[],0⟩):=by
 refine⟨⟨λ_ h=>(by cases h),λ_ h=>(by cases h),λ_ h=>(by cases h)⟩,rfl,(by decide:(0:Nat)<=1000),(by decide:(0:Nat)<=1000),(by decide:(0:Nat)<=10000)⟩
theorem IE{l:List cK}(E:tO m.mem)(G:1<=m.room/\m.room<=16)(J:PZ m.p)(I:l.length<=1000)(h:∀t∈l,yx (cT m.p) (cH m.p) (wG t)):lX (qP m l):=by
 refine⟨E,λt ht=>?_,by show(l.map Vf).length<=1000;rw[List.length_map];exact I,by show(List.replicate _ _).length=_;rw[List.length_replicate];rfl,G,λt ht=>?_,J⟩
 .obtain⟨u,B,rfl⟩:=o1.1 ht
  exact(qI (h u B)).2.1
 obtain⟨u,B,rfl⟩:=o1.1 ht
 exact N5 (h u B)
theorem Ku(hc:IC m.p):(vf m).length<=1/\∀t∈vf m,yx (cT m.p) (cH m.p) (wG t):=by
 unfold vf
 split
 .exact⟨sl _,λt ht=>by rw[List.mem_singleton.1 ht];exact aaT⟩
 exact⟨hc.f.one,λt ht=>Eb hc (List.mem_append_right _ ht)⟩
theorem Bz{k:Nat}{x:cS}(h:x∈g8 m k):∃i t,i<k/\m.l[i]?=some t/\x∈rz m i t:=by
 unfold g8 at h
 grind
theorem Gn{i:Nat}{t:jd}{x:cS}(h:x∈rz m i t):x.t=i/\x.cut=[]/\((x.kind=1/\sQ m t=true/\x.i=0)\/(x.kind=2/\x.i∈py t.buf)):=by
 unfold rz at h
 grind
theorem alL{q:cS}(h:(eW m).any (nd q)=true):m.fault=0/\0<=q.t/\q.cut.length=0/\∃t,m.l[q.t.toNat]?=some t/\((q.kind=1/\sQ m t=true)\/(q.kind=2/\q.i∈py t.buf)):=by
 rw[xy]at h
 obtain⟨x,B,u⟩:=h
 unfold eW at B
 split at B
 .cases B
 rename_i hf
 obtain⟨i,t,_,ht,E⟩:=Bz B
 obtain⟨h1,_,h2⟩:=Gn E
 unfold nd at u
 simp only[oj,decide_eq_true_eq]at u
 have e:q.t=(i:Int):=bL
 refine⟨bL,bL,u.2,t,by rw[e];exact ht,?_⟩
 rcases h2 with⟨a,b,_⟩|⟨a,b⟩
 .exact .inl ⟨bL,b⟩
 exact .inr ⟨bL,by rw[<- u.1.2];exact b⟩
theorem N7(h:sQ m t=true):∃x a b,mG t.bV=some (x,a,b):=by
 unfold sQ at h
 grind
theorem alM{q:cS}(u:lX m)(hc:IC m.p):lX (kx m q).1/\(kx m q).1.p=m.p/\(∀n,MB m.mem n->MB (kx m q).1.mem (n+1)):=by
 unfold kx
 cases hi:iS m q with
 | some B=>
  have E:fh m.mem q.cut=some B:=by unfold iS at hi;grind
  obtain⟨I,G⟩:=Ku hc
  refine⟨IE (VA u.mem E) u.rm u.pz bL G,rfl,λn h k=>?_⟩
  show([]:List iw).length<=_
  grind
 | none=>
  dsimp only
  split
  .split
   .split
    .rename_i t ht
     obtain⟨h1,h2⟩:=afr u ht
     exact⟨h1,rfl,h2⟩
    .exact⟨u,rfl,λn h=>h.mono (Nx n)⟩
   .obtain⟨h1,h2,h3,_⟩:=aaS (i:=q.t) u
    grind
  .exact⟨u,rfl,λn h=>h.mono (Nx n)⟩
theorem Kv{i:Nat}(h:i<(cT p).length):(Bo p)[i]?=some (pw p i):=by grind[Bo,pw]
theorem BA(p:cR):(cT p).length=(iJ p).length:=by unfold cT;grind
theorem aaU(hc:IC p):(iJ p).length<=20:=by
 have hb:=hc.big
 unfold uW at hb
 simp only[LR,CP,decide_eq_false_iff_not,decide_eq_true_eq]at hb
 obtain⟨⟨h1,_⟩,⟨⟨⟨⟨h2,h3⟩,_⟩,_⟩,_⟩,_⟩:=hb
 have h4:∀ls:List (List cC),(∀l∈ls,¬ 4<(l.length:Int))->ls.flatten.length<=4*ls.length:=by
  intro ls
  induction ls with
  | nil=>grind
  | cons l r u=>
   grind
 grind[iJ]
theorem Rb(hc:IC p){k:Nat}{n:Int}(J:(k:Int)<eL p)(E:(Bo p)[k]?=some n):(n=tM (Bo p) k\/(0<k/\n=tM (Bo p) k-1))/\0<=n/\n<=k:=by
 have V:=vi p
 have M:=BA p
 have B:∀l∈p.lines,l≠[]:=λl G=>(hc.f.lines l G).1
 have I:∀j:Nat,(j:Int)<eL p->(Bo p)[j]?=some (jl p.lines 0 j):=λj W=>by rw[Kv bL,N4 bL]
 rw[I k J]at E;cases E
 have u:∀j:Nat,jl p.lines 0 j<=j:=by
  intro j
  induction j with
  | zero=>
   cases G:p.lines with
   | nil=>unfold jl;omega
   | cons l r=>
    grind[jl]
  | succ j O=>
   have:=(vV p.lines 0 (j:Int) bL B).2.2
   grind
 refine⟨?_,(vV p.lines 0 (k:Int) bL B).1,u k⟩
 cases k with
 | zero=>
  left
  have:=u 0
  have:=(vV p.lines 0 ((0:Nat):Int) bL B).1
  show _=0
  omega
 | succ k=>
  have h3:=(vV p.lines 0 (k:Int) bL B).2.2
  have e:((k+1:Nat):Int)=(k:Int)+1:=bL
  have U:tM (Bo p) (k+1)=jl p.lines 0 (k:Int)+1:=by
   unfold tM;grind
  grind
theorem aaV(hc:IC p):tO (J4 (Bo p) (eL p) (fB p)):=by
 have Z:=vi p
 have W:=BA p
 have V:=aaU hc
 have O:∀l∈p.lines,l≠[]:=λl E=>(hc.f.lines l E).1
 have Y:(Bo p).length=(iJ p).length:=by grind[Bo,iJ]
 have U:(fB p).length=(iJ p).length:=by unfold fB;grind
 have E:((Bo p).take (eL p).toNat).length=(eL p).toNat:=cD
 have B:∀j:Nat,(j:Int)<eL p->(Bo p)[j]?=some (jl p.lines 0 j):=λj hj=>by rw[Kv bL,N4 bL]
 have u:0<(eL p).toNat->fP ((Bo p).take (eL p).toNat)=jl p.lines 0 ((eL p).toNat-1:Nat)+1:=λG=>by
  rw[N2 G bL,oi,B _ bL];rfl
 refine⟨?_,?_,rfl,?_,λn J=>?_,?_,λk x M=>by cases M⟩
 .show((Bo p).take (eL p).toNat).length<=(fB p).length;omega
 .show(fB p).length<=20;omega
 .show((fB p).take (eL p).toNat).length=((Bo p).take (eL p).toNat).length;grind
 .obtain⟨i,hi⟩:=List.mem_iff_getElem?.1 (show n∈(Bo p).take (eL p).toNat from J)
  have I:=(kE.1 hi).1
  rw[E]at I
  rw[List.getElem?_take,ej I,B i bL]at hi
  cases hi
  show 0<=_/\_<fP ((Bo p).take (eL p).toNat)
  rw[u bL]
  have h3:=vV p.lines 0 (i:Int) bL O
  grind
 show fP ((Bo p).take (eL p).toNat)<=20
 by_cases G:(eL p).toNat=0
 .rw[G,List.take_zero];decide
 rw[u bL]
 have:=(Rb hc (k:=(eL p).toNat-1) bL (B _ bL)).2.2
 omega
theorem afs(u:PZ p)(hc:IC p){room:Int}(B:1<=room/\room<=16):lX (Bp p room):=by
 refine IE (m:=xM p room) (aaV hc) B u (by have:=u.threads;omega) λt ht=>Eb hc (List.mem_append_left _ ht)
end
def hdC(g:Int->Nat)(u B:Nat)(x:bM):Nat:=
 if x.kind=11 then g 12+max (u+(if 0<x.ep then g 11 else 0)) B
 else if x.kind=12 then g 13+x.n.toNat*(u+g 14)
 else if x.kind=13 then g 11 else g (if x.kind=14 then 15 else x.kind)
def tot(g:Int->Nat):Bk->Nat
 | .nil=>0
 | .cons x a b r=>hdC g (tot g a) (tot g b) x+tot g r
def asZ(x:bM)(a b r:Bk)(at_:Int):Int:=at_+(yX (.cons x a b r)-yX r)
def W(g:Int->Nat):Bk->Int->Int->List Int->Int->Nat->Nat->Option Nat
 | .nil,at_,_,_,pos,u,_=>if pos=at_ then some u else none
 | .cons x a b r,at_,lp,cs,pos,u,B=>
  if asZ x a b r at_<=pos then W g r (asZ x a b r at_) lp cs pos u B
  else if pos=at_ then(if x.kind=13 then some (g 11+B)else some (hdC g (tot g a) (tot g b) x+(tot g r+u)))
  else if x.kind=11 then(if pos<toT x a at_ then W g a (at_+1) lp cs pos ((if 0<x.ep then g 11 else 0)+(tot g r+u)) B else W g b (toT x a at_) lp cs pos (tot g r+u) B)
  else if x.kind=12 then(if 1<=cs.getD lp.toNat 0/\cs.getD lp.toNat 0<=8 then W g a (at_+1) (lp+1) cs pos (g 14+((cs.getD lp.toNat 0).toNat-1)*(tot g a+g 14)+(tot g r+u)) (tot g r+u)else none)
  else none
def N8:cS:=⟨0,0,0,[]⟩
def yK(a:GX)(l c:List cS)(dz:Int):cS:=
 if a.kind=2 then {a.p with cut:=a.p.cut.take 22}
 else if a.kind=1/\dz<2/\0<(c.length:Int)then c.getD (rP a.n 65535 % (c.length:Int)).toNat N8
 else if 0<(l.length:Int)then l.getD (rP a.n 65535 % (l.length:Int)).toNat N8 else N8
def afu(G:v9)(a:GX)(tl:List dC)(l:List cS)(I:List dC)(c:List cS)(dz:Int)(u:dC):Prop:=
 (a.kind=2/\yK a l c dz={a.p with cut:=a.p.cut.take 22}/\∃E:SV,u=⟨a.p.kind,a.p.t,a.p.i,E⟩/\∀B,cZ (λ_=>True) B (jr G.p.cut) a.p.cut->cZ (λ_=>True) B (jr E) (a.p.cut.take 22))\/
 (∃j:Nat,tl[j]?=some u/\l[j]?=some (yK a l c dz))\/(∃j:Nat,I[j]?=some u/\c[j]?=some (yK a l c dz))\/(u=⟨0,0,0,cG⟩/\yK a l c dz=N8)
theorem Ec{x y:cS}:x=y↔x.kind=y.kind/\x.t=y.t/\x.i=y.i/\x.cut=y.cut:=by
 cases x;cases y;simp
def BB{α:Type}{xs ys:List α}{k:Nat}{x y:α}(h:xs.take k=ys.take k)(B:xs[k]?=some x)(u:ys[k]?=some y)(e:x=y):xs.take (k+1)=ys.take (k+1):=by
 rw[<- gg B,<- gg u,h,e]
def ahW{α:Type}{xs ys:List α}{k:Nat}{x y:α}(B:xs[k]?=some x)(u:ys[k]?=some y)(e:x≠y):xs≠ys:=λh=>by
 grind
theorem getD_some{α:Type}{xs:List α}{k:Nat}{x d:α}(h:xs[k]?=some x):xs.getD k d=x:=cD
def C69(U W:Value)(xs ys:List Bool)(w:World)(I:cZ (λ_=>True) w U xs)(V:cZ (λ_=>True) w W ys)(hn:xs.length<=1073741824):CR 69 [U,W] w (λv w'=>v=.bool (decide (xs=ys))/\Ext w w'):=by
 have u:=St.start w;refine pj Tryz.func69 (pl:=P69) ?_;refine aI rR (I.ext u.aF) (aI rR (V.ext u.aF) (bW (aC (λM=>⟨vb (ez λh=>by rw[h]at M;exact absurd rfl M).symm,u.aF⟩) λM=>?_)));refine⟨λO i w'=>∃k:Nat,i=ir (k:Int)/\O=xs.length-k/\k<=xs.length/\xs.take k=ys.take k/\St w aX [] w',⟨_,0,rfl,rfl,l2 _,rfl,u⟩,?_⟩;rintro O _ _ ⟨k,rfl,rfl,hk,B,u⟩ _;refine aI rR (I.ext u.aF) (aN (aC (λja=>?_) λ_=>⟨vb (ew (by rw[la bL,la bL]at B;exact B)).symm,u.aF⟩))
 obtain⟨jS,G⟩:=gx xs (i:=(k:Int).toNat) bL;refine aK rR I bL G (λ_ Y=>have u:=u.drew;aE DH (Y.ext u.aF) ?_);obtain⟨po,J⟩:=gx ys (i:=(k:Int).toNat) bL;exact aK rR V bL J (λ_ Z=>aE DH (Z.ext u.aF) (mh EB (aW (λE=>⟨vb (ez (ahW G J (by simpa using E))).symm,u.aF⟩) λE=>aJ bL ⟨_,bL,k+1,rfl,rfl,bL,BB B G J (by simpa using E),u⟩)))
def C19(av bv:Value)(xs ys:List cS)(w:World)(hA:DL w av xs)(hB:DL w bv ys)(hn:xs.length<=1073741824)(hc:∀x∈xs,x.cut.length<=1000000):CR 19 [av,bv] w (λv w'=>v=.bool (decide (xs=ys))/\Ext w w'):=by
 have u:=St.start w;refine pj Tryz.func19 (pl:=P19) ?_;obtain⟨as0,J,Y⟩:=hA.open;have as1:=Y.1;refine aI kB (J.ext u.aF) ?_;obtain⟨as2,O,M⟩:=hB.open;have hn133:=M.1;refine aI kB (O.ext u.aF) (bW (aC (λ_=>⟨vb (ez λh=>by rw[h]at as1;omega).symm,u.aF⟩) λfZ=>?_));refine⟨λmm i w'=>∃k:Nat,i=ir (k:Int)/\mm=xs.length-k/\k<=xs.length/\xs.take k=ys.take k/\St w aX [] w',⟨_,0,rfl,rfl,l2 _,rfl,u⟩,?_⟩;rintro mm _ _ ⟨k,rfl,rfl,hk,E,u⟩ _;refine aI kB (J.ext u.aF) (aN (aC (λja=>?_) λ_=>⟨vb (ew (by rw[la bL,la bL]at E;exact E)).symm,u.aF⟩))
 obtain⟨ra,I⟩:=gx xs (i:=k) bL;obtain⟨rb,G⟩:=gx ys (i:=k) bL;refine⟨λjv w'=>jv=.bool (!decide (ra=rb))/\St w aX [] w',?_,?_⟩
 .obtain⟨jS,fL⟩:=gx as0 (i:=(k:Int).toNat) bL;obtain⟨V,lB⟩:=gx xs (i:=(k:Int).toNat) bL;obtain⟨VE,rfl,VF⟩:=Y.2 _ _ _ fL lB;refine aK kB J bL fL (λ_ j8=>bT V.kind qc j8 rfl rfl λ_ FL=>have u:=u.drew;aE bO (FL.ext u.aF) ?_);obtain⟨iF,Z⟩:=gx as2 (i:=(k:Int).toNat) bL;obtain⟨W,U⟩:=gx ys (i:=(k:Int).toNat) bL;obtain⟨VG,rfl,VH⟩:=M.2 _ _ _ Z U;refine aK kB O bL Z (λ_ xj=>bT (W).kind qc xj rfl rfl λ_ FM=>aE bO (FM.ext u.aF) ?_)
  have Wj:ra=V:=ob.inj (I.symm.trans lB);have B:rb=W:=ob.inj (G.symm.trans U);have hcx:=hc _ (kO lB);refine bW (aC (λ_=>⟨vb (by rw[Wj,B];rw[ez λh=>by rw[Ec]at h;omega];rfl),u⟩) λlh=>aK kB J bL fL λ_ qA=>bT V.t lz qA rfl rfl λ_ xz=>aE bO (xz.ext u.aF) (aK kB O bL Z λ_ AX=>bT (W).t lz AX rfl rfl λ_ xu=>aE bO (xu.ext u.aF) (bW (aC (λ_=>⟨vb (by rw[Wj,B];rw[ez λh=>by rw[Ec]at h;omega];rfl),u⟩) λAU=>aK kB J bL fL λ_ u7=>bT V.i qd u7 rfl rfl λ_ Fa=>aE bO (Fa.ext u.aF) (aK kB O bL Z λ_ Ft=>bT (W).i qd Ft rfl rfl λ_ YK=>aE bO (YK.ext u.aF) (bW (aC (λ_=>⟨vb (by rw[Wj,B];rw[ez λh=>by rw[Ec]at h;omega];rfl),u⟩) λuX=>aK kB J bL fL λ_ A7=>bT VE nP A7 rfl rfl λ_ A8=>aE dX (A8.ext u.aF) ?_)))))))
  have as3:=DL.flat VF;refine aK kB O bL Z (λ_ FN=>bT VG nP FN rfl rfl λ_ L7=>aE dX (L7.ext u.aF) ?_);have as4:=DL.flat VH;exact aV Uj u (C71 _ _ V.cut (W).cut _ (as3.ext u.aF) (as4.ext u.aF) bL) (λ_ _ u=>bN ⟨vb (by rw[Wj,B];exact gL (λb=>!b) (fN.2 (by rw[Ec];exact⟨λh=>⟨bL,bL,bL,h⟩,λh=>h.2.2.2⟩))),u⟩)
 rintro _ _ ⟨rfl,u⟩ _;exact aW (λxh=>⟨vb (ez (ahW I G (by simpa using xh))).symm,u.aF⟩) (λxh=>aJ bL ⟨_,bL,k+1,rfl,rfl,bL,BB E I G (by simpa using xh),u⟩)
def C21(a:GX)(av:v9)(lv cv:Value)(E:List dC)(l:List cS)(B:List dC)(c:List cS)(dz:Int)(w:World)(ha:n5 w av a)(I:cZ (λ_=>True) w lv E)(W:gd E l w)(UC:cZ (λ_=>True) w cv B)(O:gd B c w)(hl1:l.length<=1073741824)(te:c.length<=1073741824):CR 21 [jr av,lv,cv,ir dz] w (λv w'=>∃sh:dC,v=jr sh/\Ext w w'/\afu av a E l B c dz sh):=by
 obtain⟨g_p_a,rfl,as5⟩:=ha;obtain⟨V,rfl,VI⟩:=as5;have hn8:=W.1;have hn9:=O.1;have hAn:=zx a.n (b:=65535) bL bL;have u:=St.start w;refine fb Tryz.func21 ?_;have G:=DL.flat VI;refine cP (x:=(⟨a.kind,a.n,(⟨a.p.kind,a.p.t,a.p.i,V⟩:dC)⟩:v9)) u (λb_a4 _ u=>aQ u zy λPd w2 u=>have u:=u.enc (cs':=kp (⟨0,0,0,cG⟩:dC)) rfl;aA ac0 (aB (v:=ir a.n) bO u.p1.hb rfl (R4 dy dy (aA Jg (aB (v:=ir a.kind) bO u.p1.hb rfl (aG (aC (λJ=>?_) λJ=>⟨λjv w'=>jv=.bool (decide (a.kind=1/\dz<2/\0<(c.length:Int)))/\w2=w',aA Jg (aB (v:=ir a.kind) bO u.p1.hb rfl (aG (aC (λ_=>aN (aC (λ_=>aI kB (UC.ext u.aF) (cL ⟨yd bL,rfl⟩)) λ_=>⟨Uf bL,rfl⟩)) λ_=>⟨Uf bL,rfl⟩))),?_⟩)))))))
 .refine aA Jh (rk (⟨a.p.kind,a.p.t,a.p.i,V⟩:dC) oB u.p1.hb rfl (aQ u zy λb_p10 _ u=>have u:=u.enc (cs':=kp (⟨0,0,0,cG⟩:dC)) rfl;aM (x:=(⟨a.p.kind,a.p.t,a.p.i,V⟩:dC)) u oB rfl rfl λ_ u=>aA Jh (aA nP (aB (v:=jr (V:SV)) dX u.p2.hb rfl (aA Jh (aA nP (aB (v:=jr (V:SV)) dX u.p2.hb rfl (aI cQ (G.ext u.aF) (rj (kh cQ (G.ext u.aF) bL bL λagW U=>?_))))))))));have alP:=U _ G;refine aA nP ?_
  obtain⟨M,rfl⟩:=alP.fK;exact aR u dX (dQ rfl) (rfl) (λ_ u=>have u:=u.enc (cs':=kp (⟨a.p.kind,a.p.t,a.p.i,M⟩:dC)) rfl;aE oB u.At (aM (x:=(⟨a.p.kind,a.p.t,a.p.i,M⟩:dC)) u.p1 oB rfl rfl λ_ u=>aE oB u.At ⟨_,rfl,u.aF,.inl ⟨J,ej J,_,rfl,λw2 h=>by have h3:=U w2 h;have e:=U3 a.p.cut 22;rw[show((22:Nat):Int)=22 from rfl]at e;rwa [e]at h3⟩⟩))
 rintro _ _ ⟨rfl,hw⟩ _;subst hw;refine aC (λtJ=>?_) (λtJ=>aI kB (I.ext u.aF) (cL (aC (λwg=>?_) λ_=>pop (v:=jr (⟨0,0,0,cG⟩:dC)) (by kernel_rfl) (aM (x:=(⟨0,0,0,cG⟩:dC)) u oB rfl rfl λ_ u=>aE oB u.At ⟨⟨0,0,0,cG⟩,rfl,u.aF,.inr (.inr (.inr ⟨rfl,by unfold yK;rw[ei J,ei bL,ei bL]⟩))⟩))))
 .have azX:=abR (rP a.n 65535) (show(B.length:Int)≠0 by omega);have azY:=aaj (rP a.n 65535) (show(0:Int)<B.length by omega);refine aI kB (UC.ext u.aF) (R3 bL bL ?_);obtain⟨e_x47,Rc⟩:=gx B (i:=((rP a.n 65535) % (B.length:Int)).toNat) bL;obtain⟨Y,Rd⟩:=gx c (i:=((rP a.n 65535) % (B.length:Int)).toNat) bL;obtain⟨VJ,rfl,ana⟩:=O.2 _ _ _ Rc Rd;refine aK kB UC bL Rc (λ_ xo=>aE oB (xo.ext u.aF) (aM (x:=(⟨Y.kind,Y.t,Y.i,VJ⟩:dC)) u oB rfl rfl λ_ u=>aE oB u.At ?_))
  have hq:yK a l c dz=Y:=by unfold yK;rw[ei J,ej bL,getD_some (by rw[<- hn9];exact Rd)]
  exact⟨_,rfl,u.aF,.inr (.inr (.inl ⟨_,Rc,by rw[hq];exact Rd⟩))⟩
 have azX:=abR (rP a.n 65535) (show(E.length:Int)≠0 by omega);have azY:=aaj (rP a.n 65535) (show(0:Int)<E.length by omega);refine aI kB (I.ext u.aF) (R3 bL bL ?_);obtain⟨SS,ue⟩:=gx E (i:=((rP a.n 65535) % (E.length:Int)).toNat) bL;obtain⟨Z,Co⟩:=gx l (i:=((rP a.n 65535) % (E.length:Int)).toNat) bL;obtain⟨VK,rfl,anb⟩:=W.2 _ _ _ ue Co;refine aK kB I bL ue (λ_ A7=>aE oB (A7.ext u.aF) (aM (x:=(⟨Z.kind,Z.t,Z.i,VK⟩:dC)) u oB rfl rfl λ_ u=>aE oB u.At ?_))
 have hq:yK a l c dz=Z:=by unfold yK;rw[ei J,ei bL,ej bL,getD_some (by rw[<- hn8];exact Co)]
 exact⟨_,rfl,u.aF,.inr (.inl ⟨_,ue,by rw[hq];exact Co⟩)⟩
def Gp{w:World}{g:dC}{x:cS}(h:n5 w g x):cZ (λ_=>True) w (jr g.cut) x.cut:=by
 obtain⟨_,rfl,h⟩:=h;exact DL.flat h
def afu.rd{M:v9}{a:GX}{tl:List dC}{l:List cS}{J:List dC}{c:List cS}{cr:Int}{U:dC}(h:afu M a tl l J c cr U){O:World}(h1:gd tl l O)(h2:gd J c O) :
  ∃G:SV,U=⟨(yK a l c cr).kind,(yK a l c cr).t,(yK a l c cr).i,G⟩/\∀u,cZ (λ_=>True) u (jr M.p.cut) a.p.cut->gd tl l u->gd J c u->cZ (λ_=>True) u (jr G) (yK a l c cr).cut:=by
 rcases h with⟨_,E,G,B,V⟩|⟨j,I,E⟩|⟨j,I,E⟩|⟨B,E⟩
 .rw[E];exact⟨G,B,λu h _ _=>V u h⟩
 .obtain⟨G,B,_⟩:=h1.2 j _ _ I E
  refine⟨G,B,λu _ h3 _=>?_⟩
  have:=Gp (h3.2 j _ _ I E)
  rw[B]at this;exact this
 .obtain⟨G,B,_⟩:=h2.2 j _ _ I E
  refine⟨G,B,λu _ _ h3=>?_⟩
  have:=Gp (h3.2 j _ _ I E)
  rw[B]at this;exact this
 rw[E];exact⟨cG,B,λu _ _ _=>cZ.nil (λ_=>True) u⟩
theorem afv{a:GX}{l c:List cS}{cr:Int}(h1:∀x∈l,x.cut.length<=1000)(h2:∀x∈c,x.cut.length<=1000):(yK a l c cr).cut.length<=1000:=by
 have u:∀(xs:List cS) (k:Nat),(∀x∈xs,x.cut.length<=1000)->(xs.getD k N8).cut.length<=1000:=by
  intro xs k B
  rw[oi]
  cases hk:xs[k]? with
  | none=>decide
  | some y=>exact B y (kO hk)
 unfold yK
 split
 .show(a.p.cut.take 22).length<=1000;rw[List.length_take];omega
 split
 .exact u _ _ h2
 split
 .exact u _ _ h1
 decide
end Go.Proofs.YtpdlpabnlkofmaaGreatDoor

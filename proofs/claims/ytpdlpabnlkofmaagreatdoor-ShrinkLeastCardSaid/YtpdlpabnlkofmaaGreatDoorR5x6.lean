/-
  Part 6.
-/
import Derived.Test.YtpdlpabnlkofmaaGreatDoorR5x5
set_option maxHeartbeats 8000000
set_option linter.all false
set_option maxRecDepth 100000
open Go.Fw.Flat renaming val->j0,enc->kp,sz->m8
open ByteArray renaming mk->kE
open List renaming getElem?_eq_some_iff->kO,mem_of_getElem?->la,take_of_length_le->ld,length_append->l1,length_singleton->mv,getElem?_eq_none->n0,append_assoc->n5,getD_eq_getElem?_getD->oj,mem_map->oG,length_cons->o1,mem_cons_self->o6,append_nil->pd,mem_append->pX,mem_cons_of_mem->r6,mem_cons->s4,any_eq_false->Bu,length_set->IA,length_nil->L2,mem_or_eq_of_mem_set->R4
open Nat renaming zero_le->l6,le_refl->pb,le_succ->LB
open Go.Fw.Deep renaming dr->ml
open Go.Instr renaming build->mL,sliceAt->ob,box->By,indexAt->H3,makeSlice->N6
open Option renaming bind_some->nj,some->oq
open Go.Value renaming int->n3
open Bool renaming and_eq_true->oi,not_eq_true'->sQ,or_eq_false_iff->Ko
open Int renaming toNat_natCast->qb,le_refl->Oj,eq_ofNat_of_zero_le->Pr
open Decidable renaming not_not->uh
namespace Go.Proofs.YtpdlpabnlkofmaaGreatDoor
open Go.Fw
theorem ZN{l:List bT}{i:Int}{R:List cA×Int×Int×Int}(h:wo l i=some R)(hi:¬ i<0):∃x,H9 l 10000 i 0 0=some x/\
  (if x.e≠0 then some ([],0,x.e,x.at_)else match zJ x.l,l[i.toNat]? with
  | some t,some k=>if x.l.length<=10000 then(if 12<t.depth then some ([],0,7,k.at_)else if 40<x.l.length then some ([],0,2,k.at_)else some (x.l,x.to,0,0))else none
  | _,_=>none)=some R:=by
 unfold wo at h;rw[ei hi]at h
 cases hx:H9 l 10000 i 0 0 with
 | none=>grind
 | some x=>grind
theorem QC{x:fN}{o:Option bT}{R:List cA×Int×Int×Int}(h:(match zJ x.l,o with
  | some t,some k=>if x.l.length<=10000 then(if 12<t.depth then some ([],0,7,k.at_)else if 40<x.l.length then some ([],0,2,k.at_)else some (x.l,x.to,0,0))else none
  | _,_=>none)=some R):∃t k,zJ x.l=some t/\o=some k/\x.l.length<=10000/\(if 12<t.depth then some ([],0,7,k.at_)else if 40<x.l.length then some ([],0,2,k.at_)else some (x.l,x.to,0,0))=some R:=by
 grind
def C258(l:List bT)(j:Nat)(lv:Value)(i d n:Int)(r:fN)(w:World)(W:dA (λ_=>True) w lv l)(hk:jl l)(HR:ajS l (H9 l j))(h0:0<=i/\i<=l.length)(hd:0<=d/\d<=12)(hnn:0<=n/\n<=5)(hr:H9 l (j+1) i d n=some r):CR 258 [lv,hZ i,hZ d,hZ n] w (λv w'=>∃sh:dZ,v=j0 sh/\kV (eF λw=>ml w sh r) w w'):=by
 have DP:=hk.n;have hn:l.length<=1000000:=bO
 have sJ:=hk.at_;have u:=St.start w;refine acf _ _ _ _ _ _ ?_;unfold S258;refine aM u tL (λTW _ u=>have u:=u.enc (cs':=kp (⟨bW,0,0,0⟩:dZ)) rfl;aH (aC (λjs=>?_) λjs=>?_))
 .refine dM afT (C294 l (H9 l j) _ i d r _ (W.ext u.aG) hk HR h0 hd (ag8 (by rw[js]at hr;exact hr))) ?_;rintro _ _ ⟨ajV,rfl,G⟩;have u:=u.made G;obtain⟨Bs,Qz,_⟩:=u.eF;subst Qz;refine aJ (x:=(⟨Bs,r.to,r.e,r.at_⟩:dZ)) u.p1 fY rfl rfl (λ_ u=>aD fY u.At ?_);have B:r=(⟨r.l,r.to,r.e,r.at_⟩:fN):=rfl;rw[B];have u:=u.p1.dN (Ψ:=(λw=>ml w (⟨Bs,r.to,r.e,r.at_⟩:dZ) (⟨r.l,r.to,r.e,r.at_⟩:fN))) (λ_ h=>⟨_,rfl,lI h⟩);have u:=u.p1.drop;exact⟨_,rfl,u.fresh⟩
 obtain⟨J,hx1,ayd⟩:=ark hr js;refine aO bO (dM RC ((HR _ i d (n+1) J _ (W.ext u.aG) hx1 h0 hd bO).1) ?_);rintro _ _ ⟨aye,rfl,G⟩;have u:=u.made G;obtain⟨J1,akd,_⟩:=u.eF;subst akd;refine aM u tL (λB6 _ u=>have u:=u.enc (cs':=kp (⟨bW,0,0,0⟩:dZ)) rfl;aJ (x:=(⟨J1,J.to,J.e,J.at_⟩:dZ)) u fY rfl rfl λ_ u=>?_);have u:=u.p2.p2.p2.p1.dN (Ψ:=λw=>DL w (j0 J1) J.l) (λ_ h=>lI h);have u:=u.p2.p1.p2;refine⟨λU w'=>∃(x:fN) (g:SV),wm (H9 l j) l d n U x=some r/\St w aZ [bY B6 (kp (⟨g,x.to,x.e,x.at_⟩:dZ)),eF (λw=>DL w (j0 g) x.l),bY TW (kp (⟨bW,0,0,0⟩:dZ))] w',⟨j,J,J1,ayd,u⟩,?_⟩
 rintro U _ ⟨x,g,E,u⟩ _;obtain⟨j2,rfl⟩:=Qx E;refine aA uM (aB (v:=hZ x.e) jP u.hb rfl (aH (aC (λMC=>?_) λMC=>?_)))
 .have u:=u.p2.p2.p2;refine⟨λU o kk w'=>∃k:Nat,o=hZ (FX l x.to n k)/\kk=hZ (k:Int)/\U=(re n).length-k/\k<=(re n).length/\St w aZ [bY B6 (kp (⟨g,x.to,x.e,x.at_⟩:dZ)),eF (λw=>DL w (j0 g) x.l),bY TW (kp (⟨bW,0,0,0⟩:dZ))] w',⟨_,0,rfl,rfl,rfl,l6 _,u⟩,?_⟩;rintro U _ _ _ ⟨k,rfl,rfl,rfl,yX,u⟩ _;have hfl4:=Qy n;refine dU Wn u (C295 n _ bO) (λx31 _ G u=>aK cS u.dS (aR (aC (λze=>⟨λjv w'=>jv=hZ (FX l x.to n (k+1))/\St w aZ [bY B6 (kp (⟨g,x.to,x.e,x.at_⟩:dZ)),eF (λw=>DL w (j0 g) x.l),bY TW (kp (⟨bW,0,0,0⟩:dZ))] w',?_,?_⟩) λze=>?_)))
  .refine aA o0 (have u:=u.drew;aB (v:=hZ x.to) bL u.p1.hb rfl (dU Wn u (C295 n _ bO) λx40 _ G u=>?_));refine⟨aF bL (u.p2.hb.cell rfl),?_⟩;obtain⟨Ia,M⟩:=gx (re n) (i:=(k:Int).toNat) bO;refine dR u cS bO bO (λ_ ZO=>gP u bL ZO M ?_);have hfb:=ZK M;refine aV anq u (C296 Ia _ bO) (λ_ he u=>?_);refine⟨aF bL (u.p2.hb.cell rfl),?_⟩;exact aV vX u (C209 _ l x.to (No Ia) _ (W.ext u.aG) hn) (λ_ _ u=>aY (λMp=>dU Wn u (C295 n _ bO) λ_ _ _ u=>dR u cS bO bO λ_ Fb=>gP u bL Fb M (have u:=u.drop.drop.drop.p2.p2.p2;⟨by rw[H8 (k:=k) M,ej Mp]<;>rfl,u⟩)) λMp=>have u:=u.drop.drop.p2.p2.p2;⟨by rw[H8 (k:=k) M,ei (by simpa using Mp)]<;>rfl,u⟩)
  .rintro _ _ ⟨rfl,u⟩ _;exact aO bO ⟨_,bO,k+1,rfl,rfl,rfl,bO,u⟩
  have Y:FX l x.to n k=JZ l x.to n:=by unfold JZ;rw[show k=(re n).length from bO]
  refine aH (aC (λuZ=>?_) λuZ=>?_)
  .refine aD fY u.p1.At (aJ (x:=(⟨g,x.to,x.e,x.at_⟩:dZ)) u.p3 fY rfl rfl λ_ u=>aD fY u.At ?_);have B:r=(⟨x.l,x.to,x.e,x.at_⟩:fN):=ZL (x:=x) E bO (by rw[<- Y];exact uZ);rw[B];have u:=u.p3.dN (Ψ:=(λw=>ml w (⟨g,x.to,x.e,x.at_⟩:dZ) (⟨x.l,x.to,x.e,x.at_⟩:fN))) (λ_ h=>⟨_,rfl,id h⟩);have u:=u.p1.drop.p1.drop.p1.drop;exact⟨_,rfl,u.fresh⟩
  obtain⟨t,y,h0t,ht,hy,hye,I⟩:=ZM E bO (by rw[<- Y];exact uZ);have Ok:=(kO.1 ht).1;refine aA o0 (aB (v:=hZ x.to) bL u.p1.hb rfl (aO bO (aO bO (dM RC ((HR _ (x.to+1) d (n+1) y _ (W.ext u.aG) hy bO hd bO).1) ?_))));rintro _ _ ⟨ayg,rfl,G⟩;have u:=u.made G;obtain⟨Z,akf,_⟩:=u.eF;subst akf;refine aM u tL (λb_y12 _ u=>have u:=u.enc (cs':=kp (⟨bW,0,0,0⟩:dZ)) rfl;aJ (x:=(⟨Z,y.to,y.e,y.at_⟩:dZ)) u fY rfl rfl λ_ u=>aA uM (aB (v:=hZ y.e) jP u.hb rfl (bX (aC (λu0=>?_) λu0=>?_))))
  .refine aD fY u.At (aJ (x:=(⟨Z,y.to,y.e,y.at_⟩:dZ)) u.p5 fY rfl rfl λ_ u=>aD fY u.At ?_);have B:r=(⟨y.l,y.to,y.e,y.at_⟩:fN):=hye u0;rw[B];have u:=u.p2.dN (Ψ:=(λw=>ml w (⟨Z,y.to,y.e,y.at_⟩:dZ) (⟨y.l,y.to,y.e,y.at_⟩:fN))) (λ_ h=>⟨_,rfl,lI h⟩);have u:=u.p1.drop.p1.drop.p1.drop.p1.drop.p1.drop;exact⟨_,rfl,u.fresh⟩
  refine aA o0 (aB (v:=hZ x.to) bL u.p3.hb rfl (aQ fM (W.ext u.aG) bO ht λ_ Yj=>bV t.at_ lP Yj rfl rfl λ_ aro=>aD bL aro (pop (Eu _ _) (bD ([(⟨(FX l x.to n k),0,(kE #[]),t.at_⟩:cA)]) u gY rfl rfl (dL rfl) λarp _ u=>aA sq (aB (v:=j0 (g:SV)) jz u.p4.hb rfl ?_)))));have Ag:=(I bO).1;have akg:=(DL.flat (id u.p5.eF));refine bJ u gY akg (by simp;omega) dD (λapW _ u=>aA sq (aB (v:=j0 (Z:SV)) jz u.p1.hb rfl ?_));have akh:=(DL.flat (lI u.p2.eF))
  refine bJ u gY akh (by simp;omega) dD (λs_x82 _ u=>aA o0 (aB (v:=hZ y.to) bL u.p1.hb rfl ?_));obtain⟨O,rfl⟩:=u.fK;refine pop (zC _ _ _ _) (aJ (x:=(⟨O,y.to,0,0⟩:dZ)) u.p4 fY rfl rfl λ_ u=>aH (aC (λFk=>?_) λFk=>?_))
  .refine aD fY u.At (aJ (x:=(⟨O,y.to,0,0⟩:dZ)) u.p6 fY rfl rfl λ_ u=>aD fY u.At ?_);have B:r=(⟨(([(⟨(FX l x.to n k),0,(kE #[]),t.at_⟩:cA)]++x.l)++y.l),y.to,0,0⟩:fN):=((I bO).2.1 Fk).trans (by rw[<- Y]);rw[B];have u:=u.p2.freeze.dN (Ψ:=(λw=>ml w (⟨O,y.to,0,0⟩:dZ) (⟨(([(⟨(FX l x.to n k),0,(kE #[]),t.at_⟩:cA)]++x.l)++y.l),y.to,0,0⟩:fN))) (λ_ h=>⟨_,rfl,DL.j4 h⟩);have u:=u.p1.drop.p1.drop.p1.drop.p1.drop.p1.drop.p1.drop;exact⟨_,rfl,u.fresh⟩
  have u:=u.p1.freeze.dN (Ψ:=λw=>DL w (j0 O) ([(⟨FX l x.to n k,0,kE #[],t.at_⟩:cA)]++x.l++y.l)) (λ_ h=>DL.j4 h);have u:=u.p2.drop.p2.drop.p2.drop.p2.drop.p2.p1.p2;have V:=(I bO).2.2 Fk;rw[<- Y]at V;exact⟨_,bO,⟨_,_,_,_⟩,O,V,u⟩
 refine aD fY u.At (aJ (x:=(⟨g,x.to,x.e,x.at_⟩:dZ)) u.p2 fY rfl rfl λ_ u=>aD fY u.At ?_);have B:r=(⟨x.l,x.to,x.e,x.at_⟩:fN):=aev (x:=x) E bO;rw[B];have u:=u.p2.dN (Ψ:=(λw=>ml w (⟨g,x.to,x.e,x.at_⟩:dZ) (⟨x.l,x.to,x.e,x.at_⟩:fN))) (λ_ h=>⟨_,rfl,id h⟩);have u:=u.p1.drop.p1.drop;exact⟨_,rfl,u.fresh⟩
theorem aki{l:List bT}(u:jl l):∀j,ajS l (H9 l j)
 | 0=>λlv i d n r w E B=>by cases B
 | j+1=>λlv i d n r w E B G I J=>⟨C258 l j lv i d n r w E u (aki u j) G I J B,λh5=>by subst h5;exact C294 l (H9 l j) lv i d r w E u (aki u j) G I (ag8 B)⟩
def C213(l:List bT)(lv:Value)(i:Int)(R:List cA×Int×Int×Int)(w:World)(Z:dA (λ_=>True) w lv l)(hk:jl l)(hil:i<=l.length)(M:wo l i=some R):CR 213 [lv,hZ i] w (λv w'=>∃sv:SV,v=.tuple #[j0 sv,hZ R.2.1,hZ R.2.2.1,hZ R.2.2.2]/\kV (eF λw=>DL w (j0 sv) R.1) w w'):=by
 have DP:=hk.n;have hn:l.length<=1000000:=bO
 have sJ:=hk.at_;have u:=St.start w;refine oL Tryz.func213 (pl:=auR) ?_;refine aR (aC (λgL=>?_) λgL=>?_)
 .have B:R=([],0,1,0):=by
   unfold wo at M;rw[ej gL]at M;exact(oq.inj M).symm
  rw[B];exact⟨bW,rfl,(u.fr (Φ:=λw=>DL w (j0 (bW:SV)) ([]:List cA)) λw=>DL.nil w).fresh⟩
 obtain⟨x,hx,I⟩:=ZN M bO;refine dM RC ((aki hk 10000 _ i 0 0 x _ (Z.ext u.aG) hx bO bO bO).1) ?_;rintro _ _ ⟨ayh,rfl,cJ⟩;have u:=u.made cJ;obtain⟨E,akj,_⟩:=u.eF;subst akj;refine aM u tL (λTW _ u=>have u:=u.enc (cs':=kp (⟨bW,0,0,0⟩:dZ)) rfl;aJ (x:=(⟨E,x.to,x.e,x.at_⟩:dZ)) u fY rfl rfl λ_ u=>aA uM (aB (v:=hZ x.e) jP u.hb rfl (bX (aC (λY=>?_) λY=>?_))))
 .refine aA uM (have u:=u.drew;aB (v:=hZ x.e) jP u.hb rfl (aA WD (aB (v:=hZ x.at_) bL u.hb rfl ?_)))
  have B:R=([],0,x.e,x.at_):=by
   rw[ej Y]at I;exact(oq.inj I).symm
  rw[B];exact⟨bW,rfl,(u.fr (Φ:=λw=>DL w (j0 (bW:SV)) ([]:List cA)) λw=>DL.nil w).fresh⟩
 rw[ei Y]at I;obtain⟨W,J,U,V,hxl,G⟩:=QC I;have htki:=(kO.1 V).1;obtain⟨hwf,ud⟩:=vA U;have hAt:BO x.l 0 W:=⟨bO,hwf,[],by simpa using ud⟩;refine aA sq (aB (v:=j0 (E:SV)) jz u.hb rfl (aV Wi u (C252 _ x.l 0 W (W.size+1) _ (DL.flat (lI u.p1.eF)) bO hAt bO) λ_ he u=>cN (aC (λO=>?_) λO=>aA sq (aB (v:=j0 (E:SV)) jz u.hb rfl (aK gY (DL.flat (lI u.p1.eF)) (cN (aC (λze=>?_) λze=>?_)))))))
 .refine aQ fM (Z.ext u.aG) bO V (λ_ uT=>bV J.at_ lP uT rfl rfl λ_ EY=>have u:=u.drew;aD bL EY ?_)
  have B:R=([],0,7,J.at_):=by
   rw[ej O]at G;exact(oq.inj G).symm
  rw[B];exact⟨bW,rfl,(u.fr (Φ:=λw=>DL w (j0 (bW:SV)) ([]:List cA)) λw=>DL.nil w).fresh⟩
 .refine aQ fM (Z.ext u.aG) bO V (λ_ A1=>bV J.at_ lP A1 rfl rfl λ_ xp=>have u:=u.drew;aD bL xp ?_)
  have B:R=([],0,2,J.at_):=by
   rw[ei O,ej bO]at G;exact(oq.inj G).symm
  rw[B];exact⟨bW,rfl,(u.fr (Φ:=λw=>DL w (j0 (bW:SV)) ([]:List cA)) λw=>DL.nil w).fresh⟩
 refine aA sq (have u:=u.drew;aB (v:=j0 (E:SV)) jz u.hb rfl (aA o0 (aB (v:=hZ x.to) bL u.hb rfl ?_)));have u:=u.p1.dN (Ψ:=λw=>DL w (j0 E) x.l) (λ_ h=>lI h)
 have B:R=(x.l,x.to,0,0):=by
  rw[ei O,ei bO]at G;exact(oq.inj G).symm
 rw[B];exact⟨E,rfl,u.fresh⟩
structure fR where
 at_:Int
 e:Int
 pos:Int
deriving DecidableEq
def jD(l:List bT)(s:fR)(e:Int):fR:=if s.e=0 then {s with e:=if (l.length:Int)<=s.at_ then 6 else e,pos:=nu l s.at_}else s
def dV(l:List bT)(s:fR)(t:ByteArray):fR:=if (decide (s.e=0)&&tU l s.at_ t)=true then {s with at_:=s.at_+1}else jD l s 5
def l8(l:List bT)(i:Int):Option bT:=if 0<=i then l[i.toNat]? else none
def tV(l:List bT)(s:fR):Bool:=decide (s.e=0)&&(match l8 l s.at_ with|some t=>decide (t.kind=1)&&gN t.text|none=>false)
def pH(l:List bT)(i:Int):bT:=(l8 l i).getD ⟨0,⟨#[]⟩,0,0⟩
def dC(l:List bT)(s:fR):fR×ByteArray:=if tV l s=true then({s with at_:=s.at_+1},(pH l s.at_).text)else(jD l s 5,⟨#[]⟩)
def rD(l:List bT)(s:fR):Option (fR×List cA):=if s.e≠0 then some (s,[])else(wo l s.at_).bind λR=>
 if R.2.2.1≠0 then some ({s with e:=R.2.2.1,pos:=R.2.2.2},[])else if 0<=R.2.1/\R.2.1<=l.length then some ({s with at_:=R.2.1},R.1)else none
def QD(l:List bT)(s:fR):Bool:=decide (s.e=0)&&(match l8 l s.at_ with|some t=>decide (t.kind=2)|none=>false)
def lh(l:List bT)(s:fR):fR×Int:=if QD l s=true then(if 1<=(pH l s.at_).n/\(pH l s.at_).n<=8 then({s with at_:=s.at_+1},(pH l s.at_).n)else(jD l s 11,0))else(jD l s 5,0)
def D1:List ByteArray:=[⟨#[]⟩,⟨#[]⟩,⟨#[108,111,97,100]⟩,⟨#[115,116,111,114,101]⟩,⟨#[99,97,115]⟩,⟨#[102,108,117,115,104]⟩,⟨#[111,112,116]⟩,⟨#[115,102,101,110,99,101]⟩,⟨#[109,102,101,110,99,101]⟩,⟨#[116,97,107,101]⟩,⟨#[103,105,118,101]⟩,⟨#[105,102]⟩,⟨#[108,111,111,112]⟩,⟨#[98,114,101,97,107]⟩,⟨#[99,104,101,99,107]⟩]
def Ib(k:Int):ByteArray:=(D1[k.toNat]?).getD ⟨#[]⟩
def lJ(l:List bT)(s:fR):Prop:=0<=s.at_/\s.at_<=l.length
section
variable {l:List bT}{s:fR}{e:Int}{t:ByteArray}
theorem tW(h:lJ l s):lJ l (jD l s e):=by unfold jD;split<;>exact h
theorem fI(h:lJ l s):lJ l (dV l s t):=by
 unfold dV;split
 .rename_i h2
  rw[oi]at h2
  have:=sZ h2.2
  exact⟨cL,cL⟩
 exact tW h
theorem mS{i:Int}{k:bT}(h:l8 l i=some k):0<=i/\i<l.length/\l[i.toNat]?=some k:=by
 unfold l8 at h
 grind
theorem Bt(h:tV l s=true):s.e=0/\∃k,l8 l s.at_=some k/\k.kind=1/\gN k.text=true:=by
 unfold tV at h
 grind
theorem Tc(h:QD l s=true):s.e=0/\∃k,l8 l s.at_=some k/\k.kind=2:=by
 unfold QD at h
 grind
theorem gO(h:lJ l s):lJ l (dC l s).1:=by
 unfold dC;split
 .rename_i h2
  obtain⟨_,k,u,_⟩:=Bt h2
  have:=mS u
  exact⟨cL,cL⟩
 exact tW h
theorem UR(h:lJ l s):lJ l (lh l s).1:=by
 unfold lh;split
 .rename_i h2
  obtain⟨_,k,u,_⟩:=Tc h2
  have:=mS u
  split
  .exact⟨cL,cL⟩
  exact tW h
 exact tW h
theorem tc{s':fR}{x:List cA}(h:lJ l s)(u:rD l s=some (s',x)):lJ l s':=by
 unfold rD at u
 split at u
 .grind
 cases hx:wo l s.at_ with
 | none=>grind
 | some R=>
  grind[lJ]
end
@[reducible] def er(lv ov:Value)(s:fR):List Value:=[lv,.int .i64 s.at_,.int .i64 s.e,.int .i64 s.pos,ov]
@[reducible] def eC(lv:Value)(s:fR):List Value:=[lv,.int .i64 s.at_,.int .i64 s.e,.int .i64 s.pos]
def iG(l:List bT)(s:fR)(t:ByteArray):fR×Bool:=if (decide (s.e=0)&&tU l s.at_ t)=true then({s with at_:=s.at_+1},true)else(s,false)
def fc(l:List bT)(s:fR):fR×cK:=if tV l s=true then({s with at_:=s.at_+1},⟨(pH l s.at_).text,0,(pH l s.at_).at_⟩)else(jD l s 5,⟨⟨#[]⟩,0,0⟩)
def kD{l:List bT}{s:fR}{t:ByteArray}(h:lJ l s):lJ l (iG l s t).1:=by
 unfold iG;split
 .rename_i h2
  rw[oi]at h2
  have:=sZ h2.2
  exact⟨cL,cL⟩
 exact h
def ve{l:List bT}{s:fR}(h:lJ l s):lJ l (fc l s).1:=by
 unfold fc;split
 .rename_i h2
  obtain⟨_,k,u,_⟩:=Bt h2
  have:=mS u
  exact⟨cL,cL⟩
 exact tW h
theorem ZP{l:List bT}{s u:fR}{x:List cA}(h:rD l s=some (u,x))(B:¬ s.e≠0):∃R,wo l s.at_=some R/\
  (if R.2.2.1≠0 then some ({s with e:=R.2.2.1,pos:=R.2.2.2},[])else if 0<=R.2.1/\R.2.1<=l.length then some ({s with at_:=R.2.1},R.1)else none)=some (u,x):=by
 unfold rD at h;rw[ei B]at h
 cases hx:wo l s.at_ with
 | none=>grind
 | some R=>grind
def ZQ{l:List bT}{s u:fR}{x:List cA}{R:List cA×Int×Int×Int}(h:(if R.2.2.1≠0 then some ({s with e:=R.2.2.1,pos:=R.2.2.2},[])else if 0<=R.2.1/\R.2.1<=l.length then some ({s with at_:=R.2.1},R.1)else none)=some (u,x))(B:¬ R.2.2.1≠0):0<=R.2.1/\R.2.1<=l.length:=by
 grind
def C291(p:Nat)(lv ov:Value)(l:List bT)(s:fR)(e:Int)(F:Nat->Prop)(w:World)(Z:(bY p (er lv ov s)).p w F)(E:∀w',gz F w w'->dA (λ_=>True) w' lv l)(M:jl l)(Y:lJ l s):CR 291 [(.pointer (some ⟨p,0,none⟩)),hZ e] w (λv w'=>v=.tuple #[]/\mU F (bY p (er lv ov (jD l s e))) w w'):=by
 have u:=St.begin Z;have DP:=M.n;have I:l.length<=1000000:=bO
 have J:=M.at_;obtain⟨Td,Te⟩:=id Y;refine oL Tryz.func291 (pl:=au5) ?_;refine aE (aA kU (aB jP u.hb rfl (aH (aC (λB=>aE (aA kU (aT u jP (dL rfl) (rfl) λ_ u=>⟨_,aE (aA fb (have u:=u.drew;aB bL u.hb rfl (aE (aA iJ (aB jr u.hb rfl (aK fM (E _ u.aG) (cR (aC (λG=>?_) λG=>?_)))))))),λ_ h=>h⟩))) λB=>?_))))
 .refine aE (aA kU (aT u jP (dL rfl) (rfl) λ_ u=>?_));intro V;refine aE (aA iJ (have u:=u.drew;aB jr u.hb rfl (aE (aA fb (aB bL u.hb rfl (aV G7 u (C214 _ l s.at_ _ (E _ u.aG) I J) λU O u=>aE (aA AK (aT u bL (dL rfl) (rfl) λW u=>?_))))))));have hb:jD l s e=(⟨s.at_,6,(nu l s.at_)⟩:fR):=by unfold jD;rw[ej B,ej G]
  rw[hb];exact⟨rfl,u.mut⟩
 .intro V;refine aE (aA iJ (have u:=u.drew;aB jr u.hb rfl (aE (aA fb (aB bL u.hb rfl (aV G7 u (C214 _ l s.at_ _ (E _ u.aG) I J) λU O u=>aE (aA AK (aT u bL (dL rfl) (rfl) λW u=>?_))))))));have hb:jD l s e=(⟨s.at_,e,(nu l s.at_)⟩:fR):=by unfold jD;rw[ej B,ei G]
  rw[hb];exact⟨rfl,u.mut⟩
 have hb:jD l s e=s:=by unfold jD;rw[ei B]
 rw[hb];exact⟨rfl,u.mut⟩
def C136(p:Nat)(lv:Value)(l:List bT)(s:fR)(F:Nat->Prop)(w:World)(Z:(bY p (eC lv s)).p w F)(E:∀w',gz F w w'->dA (λ_=>True) w' lv l)(M:jl l)(Y:lJ l s):CR 136 [(.pointer (some ⟨p,0,none⟩))] w (λv w'=>v=.tuple #[]/\mU F (bY p (eC lv (jD l s 5))) w w'):=by
 have u:=St.begin Z;have DP:=M.n;have I:l.length<=1000000:=bO
 have J:=M.at_;obtain⟨Td,Te⟩:=id Y;refine oL Tryz.func136 (pl:=auH) ?_;refine aE (aA mA (aB jP u.hb rfl (aH (aC (λB=>aE (aA mA (aT u jP (dL rfl) (rfl) λ_ u=>⟨_,aE (aA fy (have u:=u.drew;aB bL u.hb rfl (aE (aA kc (aB jr u.hb rfl (aK fM (E _ u.aG) (cR (aC (λG=>?_) λG=>?_)))))))),λ_ h=>h⟩))) λB=>?_))))
 .refine aE (aA mA (aT u jP (dL rfl) (rfl) λ_ u=>?_));intro V;refine aE (aA kc (have u:=u.drew;aB jr u.hb rfl (aE (aA fy (aB bL u.hb rfl (aV G7 u (C214 _ l s.at_ _ (E _ u.aG) I J) λU O u=>aE (aA wX (aT u bL (dL rfl) (rfl) λW u=>?_))))))));have hb:jD l s 5=(⟨s.at_,6,(nu l s.at_)⟩:fR):=by unfold jD;rw[ej B,ej G]
  rw[hb];exact⟨rfl,u.mut⟩
 .intro V;refine aE (aA kc (have u:=u.drew;aB jr u.hb rfl (aE (aA fy (aB bL u.hb rfl (aV G7 u (C214 _ l s.at_ _ (E _ u.aG) I J) λU O u=>aE (aA wX (aT u bL (dL rfl) (rfl) λW u=>?_))))))));have hb:jD l s 5=(⟨s.at_,5,(nu l s.at_)⟩:fR):=by unfold jD;rw[ej B,ei G]
  rw[hb];exact⟨rfl,u.mut⟩
 have hb:jD l s 5=s:=by unfold jD;rw[ei B]
 rw[hb];exact⟨rfl,u.mut⟩
def C257(p:Nat)(lv ov:Value)(l:List bT)(s:fR)(t:ByteArray)(F:Nat->Prop)(w:World)(Y:(bY p (er lv ov s)).p w F)(I:∀w',gz F w w'->dA (λ_=>True) w' lv l)(G:jl l)(J:lJ l s):CR 257 [(.pointer (some ⟨p,0,none⟩)),.string t] w (λv w'=>v=.tuple #[]/\mU F (bY p (er lv ov (dV l s t))) w w'):=by
 have u:=St.begin Y;have DP:=G.n;have O:l.length<=1000000:=bO
 have sJ:=G.at_;obtain⟨Td,Te⟩:=id J;refine oL Tryz.func257 (pl:=auZ) ?_;refine⟨λZ w'=>Z=.bool (decide (s.e=0)&&tU l s.at_ t)/\St w F [bY p (er lv ov s)] w',aE (aA kU (have u:=u.drew;aB jP u.hb rfl (aH (aC (λE=>aE (aA iJ (aB jr u.hb rfl (aE (aA fb (aB bL u.hb rfl (aV vX u (C209 _ l s.at_ t _ (I _ u.aG) O) λ_ _ u=>⟨vb (by first|(rw[ew E];rfl)|(rw[fP E];rfl)),u⟩))))))) λE=>⟨vb (by first|(rw[ew E];rfl)|(rw[fP E];rfl)),u⟩)))),?_⟩;rintro _ _ ⟨rfl,u⟩ _;refine aY (λB=>?_) (λB=>?_)
 .have U:=sZ (by rw[oi]at B;exact B.2);refine aE (aA fb (aB bL u.hb rfl (aO bO (aE (aA fb (aT u bL (dL rfl) (rfl) λ_ u=>?_))))));have hb:dV l s t={s with at_:=s.at_+1}:=by unfold dV;rw[ej (by simpa using B)]
  rw[hb];exact⟨rfl,u.mut⟩
 refine bF G9 u (H':=λ_=>bY p (er lv ov (jD l s 5))) (Φ:=λ_ _=>True) (λW M V=>?_) ?_
 .exact(C291 p lv ov l s 5 W _ M (λw' hc=>I w' (V w' hc).aG) G J).mono λ_ _ r=>r.mono λ_ _ h=>⟨trivial,h.2⟩
 rintro _ _ _ u;have hb:dV l s t=jD l s 5:=by unfold dV;rw[ei (by simpa using B)]
 rw[hb];exact⟨rfl,u.mut⟩
def C131(p:Nat)(lv:Value)(l:List bT)(s:fR)(t:ByteArray)(F:Nat->Prop)(w:World)(U:(bY p (eC lv s)).p w F)(O:∀w',gz F w w'->dA (λ_=>True) w' lv l)(G:jl l)(M:lJ l s):CR 131 [(.pointer (some ⟨p,0,none⟩)),.string t] w (λv w'=>v=.bool (iG l s t).2/\mU F (bY p (eC lv (iG l s t).1)) w w'):=by
 have u:=St.begin U;have Y:=G.n;have I:l.length<=1000000:=bO
 have Z:=G.at_;obtain⟨W,Te⟩:=id M;refine oL Tryz.func131 (pl:=auy) ?_;refine⟨λV w'=>V=.bool (decide (s.e=0)&&tU l s.at_ t)/\St w F [bY p (eC lv s)] w',aE (aA mA (have u:=u.drew;aB jP u.hb rfl (aH (aC (λE=>aE (aA kc (aB jr u.hb rfl (aE (aA fy (aB bL u.hb rfl (aV vX u (C209 _ l s.at_ t _ (O _ u.aG) I) λ_ _ u=>⟨vb (by first|(rw[ew E];rfl)|(rw[fP E];rfl)),u⟩))))))) λE=>⟨vb (by first|(rw[ew E];rfl)|(rw[fP E];rfl)),u⟩)))),?_⟩;rintro _ _ ⟨rfl,u⟩ _;refine aY (λB=>?_) (λB=>?_)
 .have J:=sZ (by rw[oi]at B;exact B.2);refine aE (aA fy (aB bL u.hb rfl (aO bO (aE (aA fy (aT u bL (dL rfl) (rfl) λ_ u=>?_))))));have hb:iG l s t=({s with at_:=s.at_+1},true):=by unfold iG;rw[ej (by simpa using B)]
  rw[hb];exact⟨rfl,u.mut⟩
 have hb:iG l s t=(s,false):=by unfold iG;rw[ei (by simpa using B)]
 rw[hb];exact⟨rfl,u.mut⟩
def C210(p:Nat)(lv:Value)(l:List bT)(s:fR)(t:ByteArray)(F:Nat->Prop)(w:World)(W:(bY p (eC lv s)).p w F)(V:∀w',gz F w w'->dA (λ_=>True) w' lv l)(E:jl l)(M:lJ l s):CR 210 [(.pointer (some ⟨p,0,none⟩)),.string t] w (λv w'=>v=.tuple #[]/\mU F (bY p (eC lv (dV l s t))) w w'):=by
 have B:=St.begin W;have DP:=E.n;have Y:l.length<=1000000:=bO
 have sJ:=E.at_;obtain⟨Z,Te⟩:=id M;refine eZ Tryz.func210 ?_;refine bF yO B (H':=λ_=>bY p (eC lv (iG l s t).1)) (Φ:=λv _=>v=.bool (iG l s t).2) (λJ G I=>?_) ?_
 .exact C131 p lv l s t J _ G (λw' hc=>V w' (I w' hc).aG) E M
 rintro _ w1 rfl B;refine bR (aY (λO=>?_) λO=>?_)
 .refine bF Ru B (H':=λ_=>bY p (eC lv (jD l (iG l s t).1 5))) (Φ:=λ_ _=>True) (λJ G I=>?_) ?_
  .exact(C136 p lv l (iG l s t).1 J _ G (λw' hc=>V w' (I w' hc).aG) E (kD M)).mono λ_ _ r=>r.mono λ_ _ h=>⟨trivial,h.2⟩
  rintro _ w2 _ B
  have U:dV l s t=jD l (iG l s t).1 5:=by
   have u:(iG l s t).2=false:=by simpa using O
   unfold iG at u |-;unfold dV
   split at u
   .cases u
   .rename_i h8;rw[ei h8,ei h8]
  rw[U];exact⟨rfl,B.mut⟩
 have U:dV l s t=(iG l s t).1:=by
  have u:(iG l s t).2=true:=by simpa using O
  unfold iG at u |-;unfold dV
  split at u
  .rename_i h8;rw[ej h8,ej h8]
  .cases u
 rw[U];exact⟨rfl,B.mut⟩
def C317(p:Nat)(lv ov:Value)(l:List bT)(s:fR)(F:Nat->Prop)(w:World)(hF:(bY p (er lv ov s)).p w F)(I:∀w',gz F w w'->dA (λ_=>True) w' lv l)(O:jl l)(Y:lJ l s):CR 317 [(.pointer (some ⟨p,0,none⟩))] w (λv w'=>v=.string (dC l s).2/\mU F (bY p (er lv ov (dC l s).1)) w w'):=by
 have u:=St.begin hF;have DP:=O.n;have hn:l.length<=1000000:=bO
 have sJ:=O.at_;obtain⟨Td,Te⟩:=id Y;refine oL Tryz.func317 (pl:=avd) ?_;refine⟨λjv w'=>jv=.bool (tV l s)/\St w F [bY p (er lv ov s)] w',?_,?_⟩
 .refine aE (aA kU (have u:=u.drew;aB jP u.hb rfl (aH (aC (λB=>aE (aA fb (aB bL u.hb rfl (aE (aA iJ (aB jr u.hb rfl (aK fM (I _ u.aG) (aR (aC (λlS=>?_) λlS=>⟨vb (by unfold tV l8;first|(rw[fP B];rfl)|(rw[ej bO,n0 bO];simp;done)|(rw[ej bO,G,ew B];dsimp only;first|(rw[fP E];rfl)|(rw[ew E];rfl))),u⟩))))))))) λB=>⟨vb (by unfold tV l8;first|(rw[fP B];rfl)|(rw[ej bO,n0 bO];simp;done)|(rw[ej bO,G,ew B];dsimp only;first|(rw[fP E];rfl)|(rw[ew E];rfl))),u⟩))))
  refine aE (aA iJ (aB jr u.hb rfl (aE (aA fb (aB bL u.hb rfl ?_)))));obtain⟨V,G⟩:=gx l (i:=s.at_.toNat) bO;refine aQ fM (I _ u.aG) bO G (λ_ AZ=>bV V.kind lO AZ rfl rfl λ_ mF=>?_);exact aD bL mF (aH (aC (λE=>aE (aA iJ (aB jr u.hb rfl (aE (aA fb (aB bL u.hb rfl (aQ fM (I _ u.aG) bO G λ_ wi=>bV V.text nG wi rfl rfl λ_ u9=>aD gA u9 (aV uE u (C211 _ _ (by have:=sJ _ (la G);omega)) λ_ he u=>⟨vb (by unfold tV l8;first|(rw[fP B];rfl)|(rw[ej bO,n0 bO];simp;done)|(rw[ej bO,G,ew B];dsimp only;first|(rw[fP E];rfl)|(rw[ew E];rfl))),u⟩)))))))) λE=>⟨vb (by unfold tV l8;first|(rw[fP B];rfl)|(rw[ej bO,n0 bO];simp;done)|(rw[ej bO,G,ew B];dsimp only;first|(rw[fP E];rfl)|(rw[ew E];rfl))),u⟩))
 rintro _ _ ⟨rfl,u⟩ _;refine aY (λJ=>?_) (λJ=>?_)
 .obtain⟨_,M,W,_,_⟩:=Bt J;obtain⟨arq,ars,U⟩:=mS W;have HE:l[(s.at_+1-1).toNat]?=some M:=by rw[<- U];congr 2;omega
  refine aE (aA fb (aB bL u.hb rfl (aO bO (aE (aA fb (aT u bL (dL rfl) (rfl) λ_ u=>aE (aA iJ (have u:=u.drew;aB jr u.hb rfl (aE (aA fb (aB bL u.hb rfl ?_)))))))))));refine fh bO (aQ fM (I _ u.aG) bO HE λ_ Z=>bV M.text nG Z rfl rfl λ_ ZR=>aD gA ZR ?_);have hb:dC l s=({s with at_:=s.at_+1},M.text):=by unfold dC;rw[ej J];unfold pH;rw[W];rfl
  rw[hb];exact⟨rfl,u.mut⟩
 refine bF G9 u (H':=λ_=>bY p (er lv ov (jD l s 5))) (Φ:=λ_ _=>True) (λF2 ef dX=>?_) ?_
 .exact(C291 p lv ov l s 5 F2 _ ef (λw' hc=>I w' (dX w' hc).aG) O Y).mono λ_ _ r=>r.mono λ_ _ h=>⟨trivial,h.2⟩
 rintro _ _ _ u;have hb:dC l s=(jD l s 5,⟨#[]⟩):=by unfold dC;rw[ei (by simpa using J)]
 rw[hb];exact⟨rfl,u.mut⟩
def C133(p:Nat)(lv:Value)(l:List bT)(s:fR)(F:Nat->Prop)(w:World)(hF:(bY p (eC lv s)).p w F)(J:∀w',gz F w w'->dA (λ_=>True) w' lv l)(U:jl l)(h0:lJ l s):CR 133 [(.pointer (some ⟨p,0,none⟩))] w (λv w'=>v=j0 (fc l s).2/\mU F (bY p (eC lv (fc l s).1)) w w'):=by
 have u:=St.begin hF;have DP:=U.n;have hn:l.length<=1000000:=bO
 have sJ:=U.at_;obtain⟨Td,Te⟩:=id h0;refine oL Tryz.func133 (pl:=auE) ?_;refine aM u oX (λwC _ u=>⟨λjv w'=>jv=.bool (tV l s)/\St w F [bY p (eC lv s),bY wC (kp (⟨kE #[],0,0⟩:cK))] w',?_,?_⟩)
 .refine aE (aA mA (have u:=u.drew;aB jP u.p1.hb rfl (aH (aC (λB=>aE (aA fy (aB bL u.p1.hb rfl (aE (aA kc (aB jr u.p1.hb rfl (aK fM (J _ u.aG) (aR (aC (λlS=>?_) λlS=>have u:=u.p1;⟨vb (by unfold tV l8;first|(rw[fP B];rfl)|(rw[ej bO,n0 bO];simp;done)|(rw[ej bO,G,ew B];dsimp only;first|(rw[fP E];rfl)|(rw[ew E];rfl))),u⟩))))))))) λB=>have u:=u.p1;⟨vb (by unfold tV l8;first|(rw[fP B];rfl)|(rw[ej bO,n0 bO];simp;done)|(rw[ej bO,G,ew B];dsimp only;first|(rw[fP E];rfl)|(rw[ew E];rfl))),u⟩))))
  refine aE (aA kc (aB jr u.p1.hb rfl (aE (aA fy (aB bL u.p1.hb rfl ?_)))));obtain⟨Y,G⟩:=gx l (i:=s.at_.toNat) bO;refine aQ fM (J _ u.aG) bO G (λ_ AZ=>bV Y.kind lO AZ rfl rfl λ_ mF=>?_);exact aD bL mF (aH (aC (λE=>aE (aA kc (aB jr u.p1.hb rfl (aE (aA fy (aB bL u.p1.hb rfl (aQ fM (J _ u.aG) bO G λ_ wi=>bV Y.text nG wi rfl rfl λ_ u9=>aD gA u9 (aV uE u (C211 _ _ (by have:=sJ _ (la G);omega)) λ_ he u=>have u:=u.p1;⟨vb (by unfold tV l8;first|(rw[fP B];rfl)|(rw[ej bO,n0 bO];simp;done)|(rw[ej bO,G,ew B];dsimp only;first|(rw[fP E];rfl)|(rw[ew E];rfl))),u⟩)))))))) λE=>have u:=u.p1;⟨vb (by unfold tV l8;first|(rw[fP B];rfl)|(rw[ej bO,n0 bO];simp;done)|(rw[ej bO,G,ew B];dsimp only;first|(rw[fP E];rfl)|(rw[ew E];rfl))),u⟩))
 rintro _ _ ⟨rfl,u⟩ _;refine aY (λM=>?_) (λM=>?_)
 .obtain⟨_,I,Z,_,_⟩:=Bt M;obtain⟨arq,ars,V⟩:=mS Z;have W:l[(s.at_+1-1).toNat]?=some I:=by rw[<- V];congr 2;omega
  refine aE (aA fy (aB bL u.hb rfl (aO bO (aE (aA fy (aT u bL (dL rfl) (rfl) λ_ u=>aE (aA kc (have u:=u.drew;aB jr u.hb rfl (aE (aA fy (aB bL u.hb rfl ?_)))))))))));refine fh bO (aQ fM (J _ u.aG) bO W λ_ CV=>bV I.text nG CV rfl rfl λ_ ZR=>aD gA ZR (aE (aA kc (aB jr u.hb rfl (aE (aA fy (aB bL u.hb rfl (fh bO (aQ fM (J _ u.aG) bO W λ_ O=>bV I.at_ lP O rfl rfl λ_ Nv=>?_)))))))))
  refine aD bL Nv (pop (Et _ _) (aJ (x:=(⟨I.text,0,I.at_⟩:cK)) u.p1 mf rfl rfl λ_ u=>aD mf u.At ?_));have u:=u.drop;have hb:fc l s=({s with at_:=s.at_+1},⟨I.text,0,I.at_⟩):=by unfold fc;rw[ej M];unfold pH;rw[Z];rfl
  rw[hb];exact⟨rfl,u.mut⟩
 refine bF Ru u (H':=λ_=>bY p (eC lv (jD l s 5))) (Φ:=λ_ _=>True) (λF2 ef dX=>?_) ?_
 .exact(C136 p lv l s F2 _ ef (λw' hc=>J w' (dX w' hc).aG) U h0).mono λ_ _ r=>r.mono λ_ _ h=>⟨trivial,h.2⟩
 rintro _ _ _ u;refine pop acE (aJ (x:=(⟨(kE #[]),0,0⟩:cK)) u.p1 mf rfl rfl λ_ u=>aD mf u.At ?_);have u:=u.drop;have hb:fc l s=(jD l s 5,⟨⟨#[]⟩,0,0⟩):=by unfold fc;rw[ei (by simpa using M)]
 rw[hb];exact⟨rfl,u.mut⟩
def C290(k:Int)(w:World)(J:0<=k/\k<=14):CR 290 [hZ k] w (λv w'=>v=.string (Ib k)/\Ext w w'):=by
 have u:=St.start w;refine eZ Tryz.func290 ?_;refine bD D1 u iD rfl rfl (dL rfl) (λI _ u=>?_);have M:D1.length=15:=rfl;obtain⟨G,E⟩:=gx D1 (i:=k.toNat) bO;refine dR u iD bO bO (λ_ B=>gP u gA B E ?_);refine⟨?_,u.drop.aG⟩;unfold Ib;rw[E];rfl
def C319(p:Nat)(lv ov:Value)(l:List bT)(s:fR)(F:Nat->Prop)(w:World)(hF:(bY p (er lv ov s)).p w F)(E:∀w',gz F w w'->dA (λ_=>True) w' lv l)(J:jl l)(Z:lJ l s):CR 319 [(.pointer (some ⟨p,0,none⟩))] w (λv w'=>v=hZ (lh l s).2/\mU F (bY p (er lv ov (lh l s).1)) w w'):=by
 have u:=St.begin hF;have DP:=J.n;have hn:l.length<=1000000:=bO
 have sJ:=J.at_;obtain⟨Td,Te⟩:=id Z;refine oL Tryz.func319 (pl:=avf) ?_;refine⟨λjv w'=>jv=.bool (QD l s)/\St w F [bY p (er lv ov s)] w',?_,?_⟩
 .refine aE (aA kU (have u:=u.drew;aB jP u.hb rfl (aH (aC (λB=>aE (aA fb (aB bL u.hb rfl (aE (aA iJ (aB jr u.hb rfl (aK fM (E _ u.aG) (aR (aC (λft=>?_) λft=>⟨vb (by unfold QD l8;first|(rw[fP B];rfl)|(rw[ej bO,n0 bO];simp;done)|(rw[ej bO,M,ew B];rfl)),u⟩))))))))) λB=>⟨vb (by unfold QD l8;first|(rw[fP B];rfl)|(rw[ej bO,n0 bO];simp;done)|(rw[ej bO,M,ew B];rfl)),u⟩))))
  refine aE (aA iJ (aB jr u.hb rfl (aE (aA fb (aB bL u.hb rfl ?_)))));obtain⟨rk,M⟩:=gx l (i:=s.at_.toNat) bO;exact aQ fM (E _ u.aG) bO M (λ_ mF=>bV rk.kind lO mF rfl rfl λ_ sH=>aD bL sH (aH ⟨vb (by unfold QD l8;first|(rw[fP B];rfl)|(rw[ej bO,n0 bO];simp;done)|(rw[ej bO,M,ew B];rfl)),u⟩))
 rintro _ _ ⟨rfl,u⟩ _;refine aY (λG=>?_) (λG=>?_)
 .obtain⟨_,I,Y,_⟩:=Tc G;obtain⟨arq,ars,HE⟩:=mS Y;refine aE (aA iJ (have u:=u.drew;aB jr u.hb rfl (aE (aA fb (aB bL u.hb rfl (aQ fM (E _ u.aG) bO HE λ_ wi=>bV I.n so wi rfl rfl λ_ u9=>aD bL u9 ⟨λjv w'=>jv=.bool (decide (1<=I.n/\I.n<=8))/\St w F [bY p (er lv ov s)] w',cR (aC (λ_=>gZ ⟨vb (by first|exact(fP bO).symm|exact ga.2 bO),u⟩) λ_=>⟨vb (by first|exact(fP bO).symm|exact ga.2 bO),u⟩),?_⟩))))))
  rintro _ _ ⟨rfl,u⟩ _;refine aC (λU=>?_) (λU=>?_)
  .refine aE (aA fb (aB bL u.hb rfl (aO bO (aE (aA fb (aT u bL (dL rfl) (rfl) λ_ u=>?_))))));have hb:lh l s=({s with at_:=s.at_+1},I.n):=by unfold lh;rw[ej G];unfold pH;rw[Y];exact ej U
   rw[hb];exact⟨rfl,u.mut⟩
  refine bF G9 u (H':=λ_=>bY p (er lv ov (jD l s 11))) (Φ:=λ_ _=>True) (λW O V=>?_) ?_
  .exact(C291 p lv ov l s 11 W _ O (λw' hc=>E w' (V w' hc).aG) J Z).mono λ_ _ r=>r.mono λ_ _ h=>⟨trivial,h.2⟩
  rintro _ _ _ u;have hb:lh l s=(jD l s 11,0):=by unfold lh;rw[ej G];unfold pH;rw[Y];exact ei U
  rw[hb];exact⟨rfl,u.mut⟩
 refine bF G9 u (H':=λ_=>bY p (er lv ov (jD l s 5))) (Φ:=λ_ _=>True) (λW O V=>?_) ?_
 .exact(C291 p lv ov l s 5 W _ O (λw' hc=>E w' (V w' hc).aG) J Z).mono λ_ _ r=>r.mono λ_ _ h=>⟨trivial,h.2⟩
 rintro _ _ _ u;have hb:lh l s=(jD l s 5,0):=by unfold lh;rw[ei (by simpa using G)]
 rw[hb];exact⟨rfl,u.mut⟩
def C318(p:Nat)(lv ov:Value)(l:List bT)(s:fR)(G:fR)(x:List cA)(F:Nat->Prop)(w:World)(Z:(bY p (er lv ov s)).p w F)(Y:∀w',gz F w w'->dA (λ_=>True) w' lv l)(O:jl l)(W:lJ l s)(J:rD l s=some (G,x)):CR 318 [(.pointer (some ⟨p,0,none⟩))] w (λv w'=>mU F (pM λsv:SV=>fact (v=j0 sv) (sep (bY p (er lv ov G)) (eF λw=>DL w (j0 sv) x))) w w'):=by
 have u:=St.begin Z;have DP:=O.n;have hn:l.length<=1000000:=bO
 have sJ:=O.at_;obtain⟨Td,Te⟩:=id W;refine oL Tryz.func318 (pl:=ave) ?_;refine aE (aA kU (aB jP u.hb rfl (bX (aC (λV=>?_) λV=>?_))))
 .have E:((s,[]):fR×List cA)=(G,x):=by unfold rD at J;rw[ej V]at J;exact oq.inj J
  cases E;have u:=(u.fr (Φ:=λw=>DL w (j0 (bW:SV)) ([]:List cA)) λw=>DL.nil w).p1;exact(St.ep (bW:SV) (St.oA rfl (St.join u))).mut
 refine aE (aA iJ (have u:=u.drew;aB jr u.hb rfl (aE (aA fb (aB bL u.hb rfl ?_)))));obtain⟨R,M,B⟩:=ZP J bO;refine dM afK (C213 l _ s.at_ R _ (Y _ u.aG) O bO M) ?_;rintro _ _ ⟨U,rfl,cJ⟩;have u:=u.made cJ;refine aN rfl (aN rfl (aN rfl (aN rfl (bX (aC (λI=>?_) λI=>?_)))))
 .refine aE (aA kU (aT u.p1 jP (dL rfl) (rfl) λ_ u=>aE (aA AK (aT u bL (dL rfl) (rfl) λ_ u=>?_))));have E:(({s with e:=R.2.2.1,pos:=R.2.2.2},[]):fR×List cA)=(G,x):=by rw[ej I]at B;exact oq.inj B
  cases E;have u:=(u.p1.drop.fr (Φ:=λw=>DL w (j0 (bW:SV)) ([]:List cA)) λw=>DL.nil w).p1;exact(St.ep (bW:SV) (St.oA rfl (St.join u))).mut
 have Dm:=ZQ B I;refine aE (aA fb (aT u.p1 bL (dL rfl) (rfl) λ_ u=>?_));have E:(({s with at_:=R.2.1},R.1):fR×List cA)=(G,x):=by rw[ei I,ej Dm]at B;exact oq.inj B
 cases E;have u:=u.p1.p1;exact(St.ep U (St.oA rfl (St.join u))).mut
def Ow(k at_:Int):bQ:=⟨k,⟨#[]⟩,⟨#[]⟩,[],[],0,0,0,at_⟩
abbrev Kw:ByteArray:=⟨#[61]⟩
def VN(l:List bT)(s:fR):fR:=dV l (dC l s).1 (kE #[61])
def s2M(l:List bT)(s:fR):fR:=dV l (dC l (VN l s)).1 (kE #[44])
def lj(l:List bT)(s:fR)(k a:Int):Option (fR×bQ):=
 if k=1 then(rD l (VN l s)).bind λr=>some (r.1,{Ow k a with eG:=(dC l s).2,e:=r.2})
 else if k=2 then some ((dC l (VN l s)).1,{Ow k a with eG:=(dC l s).2,name:=(dC l (VN l s)).2})
 else if k=3 then(rD l (VN l s)).bind λr=>some (r.1,{Ow k a with name:=(dC l s).2,e:=r.2})
 else if k=4 then(rD l (s2M l s)).bind λr=>(rD l (dV l r.1 (kE #[44]))).bind λq=>some (q.1,{Ow k a with eG:=(dC l s).2,name:=(dC l (VN l s)).2,e:=r.2,f:=q.2})
 else if k=5\/k=6\/k=9\/k=10 then some ((dC l s).1,{Ow k a with name:=(dC l s).2})
 else if k=11\/k=14 then(rD l s).bind λr=>some (r.1,{Ow k a with e:=r.2})
 else if k=12 then some ((lh l s).1,{Ow k a with n:=(lh l s).2})
 else some (s,Ow k a)
section
variable {l:List bT}{s s':fR}{k a:Int}{x:bQ}
theorem eS{α β γ:Type}{o:Option (α×β)}{g:α×β->Option γ}{c:γ}(h:o.bind g=some c):∃p q,o=some (p,q)/\g (p,q)=some c:=by
 cases o with
 | none=>cases h
 | some r=>grind
theorem Tf(h:lj l s k a=some (s',x))(u:k=1):∃q e,rD l (VN l s)=some (q,e)/\s'=q/\x={Ow k a with eG:=(dC l s).2,e:=e}:=by
 unfold lj at h;rw[ej u]at h
 obtain⟨q,e,h1,h2⟩:=eS h
 grind
theorem Tg(h:lj l s k a=some (s',x))(u:k=2):s'=(dC l (VN l s)).1/\x={Ow k a with eG:=(dC l s).2,name:=(dC l (VN l s)).2}:=by
 unfold lj at h;grind
theorem Th(h:lj l s k a=some (s',x))(u:k=3):∃q e,rD l (VN l s)=some (q,e)/\s'=q/\x={Ow k a with name:=(dC l s).2,e:=e}:=by
 unfold lj at h;rw[ei bO,ei bO,ej u]at h
 obtain⟨q,e,h1,h2⟩:=eS h
 grind
theorem Ti(h:lj l s k a=some (s',x))(B:k=4):∃q e u f,rD l (s2M l s)=some (q,e)/\rD l (dV l q (kE #[44]))=some (u,f)/\s'=u/\x={Ow k a with eG:=(dC l s).2,name:=(dC l (VN l s)).2,e:=e,f:=f}:=by
 unfold lj at h;rw[ei bO,ei bO,ei bO,ej B]at h
 obtain⟨q,e,h1,h2⟩:=eS h
 obtain⟨u,f,h3,h4⟩:=eS h2
 grind
theorem Tj(h:lj l s k a=some (s',x))(u:k=5\/k=6\/k=9\/k=10):s'=(dC l s).1/\x={Ow k a with name:=(dC l s).2}:=by
 unfold lj at h;grind
theorem Nw(h:lj l s k a=some (s',x))(u:k=11\/k=14):∃q e,rD l s=some (q,e)/\s'=q/\x={Ow k a with e:=e}:=by
 unfold lj at h;rw[ei bO,ei bO,ei bO,ei bO,ei bO,ej u]at h
 obtain⟨q,e,h1,h2⟩:=eS h
 grind
theorem Nx(h:lj l s k a=some (s',x))(u:k=12):s'=(lh l s).1/\x={Ow k a with n:=(lh l s).2}:=by
 unfold lj at h;grind
theorem Ny(h:lj l s k a=some (s',x))(h1:¬ k=1)(h2:¬ k=2)(h3:¬ k=3)(h4:¬ k=4)(h5:¬ (k=5\/k=6\/k=9\/k=10))(h6:¬ (k=11\/k=14))(u:¬ k=12):s'=s/\x=Ow k a:=by
 unfold lj at h;grind
end
def Cx{l:List bT}{s s':fR}{k a:Int}{x:bQ}(B:lJ l s)(h:lj l s k a=some (s',x)):lJ l s':=by
 have E:lJ l (VN l s):=fI (gO B)
 have G:lJ l (s2M l s):=fI (gO E)
 by_cases h1:k=1
 .obtain⟨q,e,u,rfl,_⟩:=Tf h h1;exact tc E u
 by_cases h2:k=2
 .obtain⟨rfl,_⟩:=Tg h h2;exact gO E
 by_cases h3:k=3
 .obtain⟨q,e,u,rfl,_⟩:=Th h h3;exact tc E u
 by_cases h4:k=4
 .obtain⟨q,e,M,f,u,J,rfl,_⟩:=Ti h h4;exact tc (fI (tc G u)) J
 by_cases h5:k=5\/k=6\/k=9\/k=10
 .obtain⟨rfl,_⟩:=Tj h h5;exact gO B
 by_cases h6:k=11\/k=14
 .obtain⟨q,e,u,rfl,_⟩:=Nw h h6;exact tc B u
 by_cases I:k=12
 .obtain⟨rfl,_⟩:=Nx h I;exact UR B
 obtain⟨rfl,_⟩:=Ny h h1 h2 h3 h4 h5 h6 I;exact B
def xO{α σ:Type}[Flat σ][Deep α σ]{w w0:World}{A:Nat->Prop}{L:List HP}{B:HP}{u:σ}{x:α}(E:St w0 A (B::eF (λw=>ml w u x)::L) w) :
  St w0 A ((pM λs:σ=>fact (j0 u=j0 s) (sep B (eF λw=>ml w s x)))::L) w:=
 St.ep (H:=λs:σ=>fact (j0 u=j0 s) (sep B (eF λw=>ml w s x))) u (St.oA rfl (St.join E))
def C292(p:Nat)(lv ov:Value)(l:List bT)(s:fR)(B a:Int)(Y:fR)(x:bQ)(F:Nat->Prop)(w:World)(hF:(bY p (er lv ov s)).p w F)(U:∀w',gz F w w'->dA (λ_=>True) w' lv l)(J:jl l)(M:lJ l s)(hp:lj l s B a=some (Y,x)):CR 292 [(.pointer (some ⟨p,0,none⟩)),hZ B,hZ a] w (λv w'=>mU F (pM λsh:bE=>fact (v=j0 sh) (sep (bY p (er lv ov Y)) (eF λw=>ml w sh x))) w w'):=by
 have u:=St.begin hF;have DP:=J.n;have hn:l.length<=1000000:=bO
 have sJ:=J.at_;obtain⟨Td,Te⟩:=id M;refine eZ Tryz.func292 ?_;refine aM u jA (λQi _ u=>have u:=u.enc (cs':=kp (⟨0,(kE #[]),(kE #[]),bW,bW,0,0,0,0⟩:bE)) rfl;pop (OX _ _) (aM u jA λxn _ u=>have u:=u.enc (cs':=kp (⟨0,(kE #[]),(kE #[]),bW,bW,0,0,0,0⟩:bE)) rfl;aJ (x:=(⟨B,(kE #[]),(kE #[]),bW,bW,0,0,0,a⟩:bE)) u eN rfl rfl λw3 u=>?_));refine⟨_,?_,λ_ h=>h⟩;refine aH (aC (λxi=>?_) λxi=>aH (aC (λnd=>?_) λnd=>aH (aC (λze=>?_) λze=>aH (aC (λvY=>?_) λvY=>⟨λjv w'=>jv=.bool (decide (B=5\/B=6\/B=9\/B=10))/\w3=w',aH (aC (λ_=>⟨vb cL,rfl⟩) λ_=>aH (aC (λ_=>⟨vb cL,rfl⟩) λ_=>aH (aC (λ_=>⟨vb cL,rfl⟩) λ_=>aH ⟨vb cL,rfl⟩))),?_⟩))))
 .obtain⟨q,e,O,rfl,rfl⟩:=Tf hp xi;refine bF El u.p2 (H':=λ_=>bY p (er lv ov (dC l s).1)) (Φ:=λv _=>v=.string (dC l s).2) (λI E G=>?_) ?_
  .exact C317 p lv ov l s I _ E (λw' hc=>U w' (G w' hc).aG) J M
  rintro _ _ rfl u;refine aA iH (aT u.p1 gA (dL rfl) (rfl) λ_ u=>have u:=u.enc (cs':=kp (⟨B,(dC l s).2,(kE #[]),bW,bW,0,0,0,a⟩:bE)) rfl;bF yP u.p1 (H':=λ_=>bY p (er lv ov (dV l (dC l s).1 (kE #[61])))) (Φ:=λ_ _=>True) (λI E G=>?_) ?_)
  .exact(C257 p lv ov l (dC l s).1 (kE #[61]) I _ E (λw' hc=>U w' (G w' hc).aG) J (gO M)).mono λ_ _ r=>r.mono λ_ _ h=>⟨trivial,h.2⟩
  rintro _ _ _ u;refine bF KU u (H':=λv=>pM λsv:SV=>fact (v=j0 sv) (sep (bY p (er lv ov Y)) (eF λw=>DL w (j0 sv) e))) (Φ:=λ_ _=>True) (λI E G=>?_) ?_
  .exact(C318 p lv ov l (dV l (dC l s).1 (kE #[61])) Y e I _ E (λw' hc=>U w' (G w' hc).aG) J (fI (gO M)) O).mono λ_ _ r=>r.mono λ_ _ h=>⟨trivial,h⟩
  rintro v_x20 _ _ W;obtain⟨QE,V⟩:=W.eo
  clear W
  obtain⟨akl,Z⟩:=V.mC
  clear V
  subst akl;have u:=Z.split;refine aA iX (aT u.p2 jz (dL rfl) (rfl) λ_ u=>?_);have u:=u.enc (cs':=kp (⟨B,(dC l s).2,(kE #[]),QE,bW,0,0,0,a⟩:bE)) rfl;intro v8;exact aD eN u.At (aJ (x:=(⟨B,(dC l s).2,(kE #[]),QE,bW,0,0,0,a⟩:bE)) u.p3 eN rfl rfl λ_ u=>aD eN u.At (have u:=u.p3.dN (Ψ:=(λw=>ml w (⟨B,(dC l s).2,(kE #[]),QE,bW,0,0,0,a⟩:bE) (⟨B,(dC l s).2,(kE #[]),e,[],0,0,0,a⟩:bQ))) (λ_ h=>⟨_,_,rfl,id h,DL.nil _⟩);have u:=u.p1.drop.p1.drop.p1;(xO u).mut))
 .obtain⟨rfl,rfl⟩:=Tg hp nd;refine bF El u.p2 (H':=λ_=>bY p (er lv ov (dC l s).1)) (Φ:=λv _=>v=.string (dC l s).2) (λI E G=>?_) ?_
  .exact C317 p lv ov l s I _ E (λw' hc=>U w' (G w' hc).aG) J M
  rintro _ _ rfl u;refine aA iH (aT u.p1 gA (dL rfl) (rfl) λ_ u=>have u:=u.enc (cs':=kp (⟨B,(dC l s).2,(kE #[]),bW,bW,0,0,0,a⟩:bE)) rfl;bF yP u.p1 (H':=λ_=>bY p (er lv ov (dV l (dC l s).1 (kE #[61])))) (Φ:=λ_ _=>True) (λI E G=>?_) ?_)
  .exact(C257 p lv ov l (dC l s).1 (kE #[61]) I _ E (λw' hc=>U w' (G w' hc).aG) J (gO M)).mono λ_ _ r=>r.mono λ_ _ h=>⟨trivial,h.2⟩
  rintro _ _ _ u;refine bF El u (H':=λ_=>bY p (er lv ov (dC l (dV l (dC l s).1 (kE #[61]))).1)) (Φ:=λv _=>v=.string (dC l (dV l (dC l s).1 (kE #[61]))).2) (λI E G=>?_) ?_
  .exact C317 p lv ov l (dV l (dC l s).1 (kE #[61])) I _ E (λw' hc=>U w' (G w' hc).aG) J (fI (gO M))
  rintro _ _ rfl u;refine aA gh (aT u.p1 gA (dL rfl) (rfl) λ_ u=>?_);have u:=u.enc (cs':=kp (⟨B,(dC l s).2,(dC l (dV l (dC l s).1 (kE #[61]))).2,bW,bW,0,0,0,a⟩:bE)) rfl;intro v8;exact aD eN u.At (aJ (x:=(⟨B,(dC l s).2,(dC l (dV l (dC l s).1 (kE #[61]))).2,bW,bW,0,0,0,a⟩:bE)) u.p2 eN rfl rfl λ_ u=>aD eN u.At (have u:=u.fr (Φ:=(λw=>ml w (⟨B,(dC l s).2,(dC l (dV l (dC l s).1 (kE #[61]))).2,bW,bW,0,0,0,a⟩:bE) (⟨B,(dC l s).2,(dC l (dV l (dC l s).1 (kE #[61]))).2,[],[],0,0,0,a⟩:bQ))) (λ_=>⟨_,_,rfl,DL.nil _,DL.nil _⟩);have u:=u.p1.drop.p1.drop.p1;(xO u).mut))
 .obtain⟨q,e,O,rfl,rfl⟩:=Th hp ze;refine bF El u.p2 (H':=λ_=>bY p (er lv ov (dC l s).1)) (Φ:=λv _=>v=.string (dC l s).2) (λI E G=>?_) ?_
  .exact C317 p lv ov l s I _ E (λw' hc=>U w' (G w' hc).aG) J M
  rintro _ _ rfl u;refine aA gh (aT u.p1 gA (dL rfl) (rfl) λ_ u=>have u:=u.enc (cs':=kp (⟨B,(kE #[]),(dC l s).2,bW,bW,0,0,0,a⟩:bE)) rfl;bF yP u.p1 (H':=λ_=>bY p (er lv ov (dV l (dC l s).1 (kE #[61])))) (Φ:=λ_ _=>True) (λI E G=>?_) ?_)
  .exact(C257 p lv ov l (dC l s).1 (kE #[61]) I _ E (λw' hc=>U w' (G w' hc).aG) J (gO M)).mono λ_ _ r=>r.mono λ_ _ h=>⟨trivial,h.2⟩
  rintro _ _ _ u;refine bF KU u (H':=λv=>pM λsv:SV=>fact (v=j0 sv) (sep (bY p (er lv ov Y)) (eF λw=>DL w (j0 sv) e))) (Φ:=λ_ _=>True) (λI E G=>?_) ?_
  .exact(C318 p lv ov l (dV l (dC l s).1 (kE #[61])) Y e I _ E (λw' hc=>U w' (G w' hc).aG) J (fI (gO M)) O).mono λ_ _ r=>r.mono λ_ _ h=>⟨trivial,h⟩
  rintro v_x40 _ _ W;obtain⟨QF,V⟩:=W.eo
  clear W
  obtain⟨akm,Z⟩:=V.mC
  clear V
  subst akm;have u:=Z.split;refine aA iX (aT u.p2 jz (dL rfl) (rfl) λ_ u=>?_);have u:=u.enc (cs':=kp (⟨B,(kE #[]),(dC l s).2,QF,bW,0,0,0,a⟩:bE)) rfl;intro v8;exact aD eN u.At (aJ (x:=(⟨B,(kE #[]),(dC l s).2,QF,bW,0,0,0,a⟩:bE)) u.p3 eN rfl rfl λ_ u=>aD eN u.At (have u:=u.p3.dN (Ψ:=(λw=>ml w (⟨B,(kE #[]),(dC l s).2,QF,bW,0,0,0,a⟩:bE) (⟨B,(kE #[]),(dC l s).2,e,[],0,0,0,a⟩:bQ))) (λ_ h=>⟨_,_,rfl,id h,DL.nil _⟩);have u:=u.p1.drop.p1.drop.p1;(xO u).mut))
 .obtain⟨q,e,q2,f,O,hfx,rfl,rfl⟩:=Ti hp vY;refine bF El u.p2 (H':=λ_=>bY p (er lv ov (dC l s).1)) (Φ:=λv _=>v=.string (dC l s).2) (λI E G=>?_) ?_
  .exact C317 p lv ov l s I _ E (λw' hc=>U w' (G w' hc).aG) J M
  rintro _ _ rfl u;refine aA iH (aT u.p1 gA (dL rfl) (rfl) λ_ u=>have u:=u.enc (cs':=kp (⟨B,(dC l s).2,(kE #[]),bW,bW,0,0,0,a⟩:bE)) rfl;bF yP u.p1 (H':=λ_=>bY p (er lv ov (dV l (dC l s).1 (kE #[61])))) (Φ:=λ_ _=>True) (λI E G=>?_) ?_)
  .exact(C257 p lv ov l (dC l s).1 (kE #[61]) I _ E (λw' hc=>U w' (G w' hc).aG) J (gO M)).mono λ_ _ r=>r.mono λ_ _ h=>⟨trivial,h.2⟩
  rintro _ _ _ u;refine bF El u (H':=λ_=>bY p (er lv ov (dC l (dV l (dC l s).1 (kE #[61]))).1)) (Φ:=λv _=>v=.string (dC l (dV l (dC l s).1 (kE #[61]))).2) (λI E G=>?_) ?_
  .exact C317 p lv ov l (dV l (dC l s).1 (kE #[61])) I _ E (λw' hc=>U w' (G w' hc).aG) J (fI (gO M))
  rintro _ _ rfl u;refine aA gh (aT u.p1 gA (dL rfl) (rfl) λ_ u=>have u:=u.enc (cs':=kp (⟨B,(dC l s).2,(dC l (dV l (dC l s).1 (kE #[61]))).2,bW,bW,0,0,0,a⟩:bE)) rfl;bF yP u.p1 (H':=λ_=>bY p (er lv ov (dV l (dC l (dV l (dC l s).1 (kE #[61]))).1 (kE #[44])))) (Φ:=λ_ _=>True) (λI E G=>?_) ?_)
  .exact(C257 p lv ov l (dC l (dV l (dC l s).1 (kE #[61]))).1 (kE #[44]) I _ E (λw' hc=>U w' (G w' hc).aG) J (gO (fI (gO M)))).mono λ_ _ r=>r.mono λ_ _ h=>⟨trivial,h.2⟩
  rintro _ _ _ u;refine bF KU u (H':=λv=>pM λsv:SV=>fact (v=j0 sv) (sep (bY p (er lv ov q)) (eF λw=>DL w (j0 sv) e))) (Φ:=λ_ _=>True) (λI E G=>?_) ?_
  .exact(C318 p lv ov l (dV l (dC l (dV l (dC l s).1 (kE #[61]))).1 (kE #[44])) q e I _ E (λw' hc=>U w' (G w' hc).aG) J (fI (gO (fI (gO M)))) O).mono λ_ _ r=>r.mono λ_ _ h=>⟨trivial,h⟩
  rintro v_x55 _ _ W;obtain⟨FL,V⟩:=W.eo
  clear W
  obtain⟨akn,Z⟩:=V.mC
  clear V
  subst akn;have u:=Z.split;refine aA iX (aT u.p2 jz (dL rfl) (rfl) λ_ u=>have u:=u.enc (cs':=kp (⟨B,(dC l s).2,(dC l (dV l (dC l s).1 (kE #[61]))).2,FL,bW,0,0,0,a⟩:bE)) rfl;bF yP u.p1 (H':=λ_=>bY p (er lv ov (dV l q (kE #[44])))) (Φ:=λ_ _=>True) (λI E G=>?_) ?_)
  .exact(C257 p lv ov l q (kE #[44]) I _ E (λw' hc=>U w' (G w' hc).aG) J (tc (fI (gO (fI (gO M)))) O)).mono λ_ _ r=>r.mono λ_ _ h=>⟨trivial,h.2⟩
  rintro _ _ _ u;refine bF KU u (H':=λv=>pM λsv:SV=>fact (v=j0 sv) (sep (bY p (er lv ov Y)) (eF λw=>DL w (j0 sv) f))) (Φ:=λ_ _=>True) (λI E G=>?_) ?_
  .exact(C318 p lv ov l (dV l q (kE #[44])) Y f I _ E (λw' hc=>U w' (G w' hc).aG) J (fI (tc (fI (gO (fI (gO M)))) O)) hfx).mono λ_ _ r=>r.mono λ_ _ h=>⟨trivial,h⟩
  rintro v_x60 _ _ W;obtain⟨Cj,V⟩:=W.eo
  clear W
  obtain⟨ako,Z⟩:=V.mC
  clear V
  subst ako;have u:=Z.split;refine aA j9 (aT u.p2 jz (dL rfl) (rfl) λ_ u=>?_);have u:=u.enc (cs':=kp (⟨B,(dC l s).2,(dC l (dV l (dC l s).1 (kE #[61]))).2,FL,Cj,0,0,0,a⟩:bE)) rfl;intro v8;exact aD eN u.At (aJ (x:=(⟨B,(dC l s).2,(dC l (dV l (dC l s).1 (kE #[61]))).2,FL,Cj,0,0,0,a⟩:bE)) u.p4 eN rfl rfl λ_ u=>aD eN u.At (have u:=u.p4.p4.p1.hG.dN (Ψ:=(λw=>ml w (⟨B,(dC l s).2,(dC l (dV l (dC l s).1 (kE #[61]))).2,FL,Cj,0,0,0,a⟩:bE) (⟨B,(dC l s).2,(dC l (dV l (dC l s).1 (kE #[61]))).2,e,f,0,0,0,a⟩:bQ))) (λ_ h=>⟨_,_,rfl,id h.1,id h.2⟩);have u:=u.p1.drop.p1.drop.p1;(xO u).mut))
 rintro _ _ ⟨rfl,hw⟩ _;subst hw;refine aC (λR9=>?_) (λR9=>⟨λjv w'=>jv=.bool (decide (B=11\/B=14))/\w3=w',aH (aC (λ_=>⟨vb cL,rfl⟩) λ_=>aH ⟨vb cL,rfl⟩),?_⟩)
 .obtain⟨rfl,rfl⟩:=Tj hp R9;refine bF El u.p2 (H':=λ_=>bY p (er lv ov (dC l s).1)) (Φ:=λv _=>v=.string (dC l s).2) (λI E G=>?_) ?_
  .exact C317 p lv ov l s I _ E (λw' hc=>U w' (G w' hc).aG) J M
  rintro _ _ rfl u;refine aA gh (aT u.p1 gA (dL rfl) (rfl) λ_ u=>?_);have u:=u.enc (cs':=kp (⟨B,(kE #[]),(dC l s).2,bW,bW,0,0,0,a⟩:bE)) rfl;intro v8;exact aD eN u.At (aJ (x:=(⟨B,(kE #[]),(dC l s).2,bW,bW,0,0,0,a⟩:bE)) u.p2 eN rfl rfl λ_ u=>aD eN u.At (have u:=u.fr (Φ:=(λw=>ml w (⟨B,(kE #[]),(dC l s).2,bW,bW,0,0,0,a⟩:bE) (⟨B,(kE #[]),(dC l s).2,[],[],0,0,0,a⟩:bQ))) (λ_=>⟨_,_,rfl,DL.nil _,DL.nil _⟩);have u:=u.p1.drop.p1.drop.p1;(xO u).mut))
 rintro _ _ ⟨rfl,hw⟩ _;subst hw;refine aC (λE2=>?_) (λE2=>aH (aC (λZS=>?_) λZS=>?_))
 .obtain⟨q,e,O,rfl,rfl⟩:=Nw hp E2;refine bF KU u.p2 (H':=λv=>pM λsv:SV=>fact (v=j0 sv) (sep (bY p (er lv ov Y)) (eF λw=>DL w (j0 sv) e))) (Φ:=λ_ _=>True) (λI E G=>?_) ?_
  .exact(C318 p lv ov l s Y e I _ E (λw' hc=>U w' (G w' hc).aG) J M O).mono λ_ _ r=>r.mono λ_ _ h=>⟨trivial,h⟩
  rintro v_x74 _ _ W;obtain⟨QG,V⟩:=W.eo
  clear W
  obtain⟨akp,Z⟩:=V.mC
  clear V
  subst akp;have u:=Z.split;refine aA iX (aT u.p2 jz (dL rfl) (rfl) λ_ u=>?_);have u:=u.enc (cs':=kp (⟨B,(kE #[]),(kE #[]),QG,bW,0,0,0,a⟩:bE)) rfl;intro v8;exact aD eN u.At (aJ (x:=(⟨B,(kE #[]),(kE #[]),QG,bW,0,0,0,a⟩:bE)) u.p3 eN rfl rfl λ_ u=>aD eN u.At (have u:=u.p3.dN (Ψ:=(λw=>ml w (⟨B,(kE #[]),(kE #[]),QG,bW,0,0,0,a⟩:bE) (⟨B,(kE #[]),(kE #[]),e,[],0,0,0,a⟩:bQ))) (λ_ h=>⟨_,_,rfl,id h,DL.nil _⟩);have u:=u.p1.drop.p1.drop.p1;(xO u).mut))
 .obtain⟨rfl,rfl⟩:=Nx hp ZS;refine bF anA u.p2 (H':=λ_=>bY p (er lv ov (lh l s).1)) (Φ:=λv _=>v=hZ (lh l s).2) (λI E G=>?_) ?_
  .exact C319 p lv ov l s I _ E (λw' hc=>U w' (G w' hc).aG) J M
  rintro _ _ rfl u;refine aA jS (aT u.p1 bL (dL rfl) (rfl) λ_ u=>?_);have u:=u.enc (cs':=kp (⟨B,(kE #[]),(kE #[]),bW,bW,(lh l s).2,0,0,a⟩:bE)) rfl;intro v8;exact aD eN u.At (aJ (x:=(⟨B,(kE #[]),(kE #[]),bW,bW,(lh l s).2,0,0,a⟩:bE)) u.p2 eN rfl rfl λ_ u=>aD eN u.At (have u:=u.fr (Φ:=(λw=>ml w (⟨B,(kE #[]),(kE #[]),bW,bW,(lh l s).2,0,0,a⟩:bE) (⟨B,(kE #[]),(kE #[]),[],[],(lh l s).2,0,0,a⟩:bQ))) (λ_=>⟨_,_,rfl,DL.nil _,DL.nil _⟩);have u:=u.p1.drop.p1.drop.p1;(xO u).mut))
 obtain⟨rfl,rfl⟩:=Ny hp xi nd ze vY R9 E2 ZS;intro v8;exact aD eN u.At (aJ (x:=(⟨B,(kE #[]),(kE #[]),bW,bW,0,0,0,a⟩:bE)) u.p1 eN rfl rfl λ_ u=>aD eN u.At (have u:=u.fr (Φ:=(λw=>ml w (⟨B,(kE #[]),(kE #[]),bW,bW,0,0,0,a⟩:bE) (⟨B,(kE #[]),(kE #[]),[],[],0,0,0,a⟩:bQ))) (λ_=>⟨_,_,rfl,DL.nil _,DL.nil _⟩);have u:=u.p1.drop.p1.drop.p1;(xO u).mut))
def iM(l:List bT)(a:Int):Nat->Int
 | 0=>1
 | n+1=>if tU l a (Ib ((n:Int)+2))=true then(n:Int)+2 else iM l a n
theorem Tl{l:List bT}{a:Int}:∀n:Nat,1<=iM l a n/\iM l a n<=(n:Int)+1
 | 0=>by unfold iM;omega
 | n+1=>by
  have:=Tl (l:=l) (a:=a) n
  unfold iM
  omega
theorem Nz{l:List bT}{a:Int}:∀n:Nat,iM l a n=1\/∃t,tU l a t=true
 | 0=>.inl rfl
 | n+1=>by
  unfold iM
  split
  .grind
  .exact Nz n
def Ic{l:List bT}{a:Int}{n:Nat}(h:tU l a (Ib ((n:Int)+2))=true):iM l a (n+1)=(n:Int)+2:=ej h
def Ie{l:List bT}{a:Int}{n:Nat}(h:¬ tU l a (Ib ((n:Int)+2))=true):iM l a (n+1)=iM l a n:=ei h
def s1S(l:List bT)(s:fR):fR:=if iM l s.at_ 13≠1 then {s with at_:=s.at_+1}else s
def J2{l:List bT}{s:fR}(h:lJ l s):lJ l (s1S l s):=by
 unfold s1S
 split
 .rename_i h1
  rcases Nz (l:=l) (a:=s.at_) 13 with h2|⟨t,h2⟩
  .omega
  have:=sZ h2
  exact⟨cL,cL⟩
 exact h
abbrev aha:ByteArray:=⟨#[101,108,115,101]⟩
def kJ(l:List bT)(u:Int)(s:fR):Bool:=decide (u=11)&&decide (s.e=0)&&tU l s.at_ aha
def US(s:fR):fR:={s with at_:=s.at_+1}
abbrev aey:=fR->Int->Int->Option (fR×List bQ)
def Dr(l:List bT)(bY:aey)(s:fR)(d lp:Int):Option (fR×List bQ):=
 if iM l s.at_ 13=13/\lp=0 then some (jD l s 5,[])
 else(lj l (s1S l s) (iM l s.at_ 13) (nu l s.at_)).bind λr=>
  if iM l s.at_ 13≠11/\iM l s.at_ 13≠12 then some (dV l r.1 ⟨#[59]⟩,[r.2])
  else(bY r.1 (d+1) (if iM l s.at_ 13=12 then lp+1 else lp)).bind λq=>
   if kJ l (iM l s.at_ 13) q.1=true then(bY (US q.1) (d+1) lp).bind λt=>some (t.1,{r.2 with body:=(q.2.length:Int),ey:=(t.2.length:Int)}::(q.2++t.2))
   else some (q.1,{r.2 with body:=(q.2.length:Int)}::q.2)
section
variable {l:List bT}{bY:aey}{s s':fR}{d lp:Int}{add:List bQ}
theorem Tm(h:Dr l bY s d lp=some (s',add))(hb:iM l s.at_ 13=13/\lp=0):s'=jD l s 5/\add=[]:=by
 unfold Dr at h;grind
theorem ZT(h:Dr l bY s d lp=some (s',add))(hb:¬ (iM l s.at_ 13=13/\lp=0)):∃u x,lj l (s1S l s) (iM l s.at_ 13) (nu l s.at_)=some (u,x)/\
  (if iM l s.at_ 13≠11/\iM l s.at_ 13≠12 then some (dV l u ⟨#[59]⟩,[x])
  else(bY u (d+1) (if iM l s.at_ 13=12 then lp+1 else lp)).bind λq=>
   if kJ l (iM l s.at_ 13) q.1=true then(bY (US q.1) (d+1) lp).bind λt=>some (t.1,{x with body:=(q.2.length:Int),ey:=(t.2.length:Int)}::(q.2++t.2))
   else some (q.1,{x with body:=(q.2.length:Int)}::q.2))=some (s',add):=by
 unfold Dr at h;rw[ei hb]at h
 obtain⟨p,q,h1,h2⟩:=eS h
 grind
theorem Tn{u:Int}{J:fR}{x:bQ}(h:(if u≠11/\u≠12 then some (dV l J ⟨#[59]⟩,[x])
  else(bY J (d+1) (if u=12 then lp+1 else lp)).bind λq=>
   if kJ l u q.1=true then(bY (US q.1) (d+1) lp).bind λt=>some (t.1,{x with body:=(q.2.length:Int),ey:=(t.2.length:Int)}::(q.2++t.2))
   else some (q.1,{x with body:=(q.2.length:Int)}::q.2))=some (s',add)) (M:¬ (u≠11/\u≠12)) :
  ∃B E,bY J (d+1) (if u=12 then lp+1 else lp)=some (B,E)/\
   ((kJ l u B=true/\∃I G,bY (US B) (d+1) lp=some (I,G)/\s'=I/\add={x with body:=(E.length:Int),ey:=(G.length:Int)}::(E++G))\/
    (kJ l u B=false/\s'=B/\add={x with body:=(E.length:Int)}::E)):=by
 rw[ei M]at h
 obtain⟨B,E,h1,h2⟩:=eS h
 refine⟨B,E,h1,?_⟩
 dsimp only at h2
 cases he:kJ l u B with
 | true=>
  rw[he,ej rfl]at h2
  obtain⟨I,G,h3,h4⟩:=eS h2
  grind
 | false=>
  grind
theorem Ig{u:Int}{B:fR}{x:bQ}(h:(if u≠11/\u≠12 then some (dV l B ⟨#[59]⟩,[x])
  else(bY B (d+1) (if u=12 then lp+1 else lp)).bind λq=>
   if kJ l u q.1=true then(bY (US q.1) (d+1) lp).bind λt=>some (t.1,{x with body:=(q.2.length:Int),ey:=(t.2.length:Int)}::(q.2++t.2))
   else some (q.1,{x with body:=(q.2.length:Int)}::q.2))=some (s',add)) (E:u≠11/\u≠12):s'=dV l B ⟨#[59]⟩/\add=[x]:=by
 grind
end
abbrev C1:ByteArray:=⟨#[123]⟩
abbrev oH:ByteArray:=⟨#[125]⟩
def tX(l:List bT)(one:fR->Option (fR×List bQ)):Nat->fR->Option (fR×List bQ)
 | 0,_=>none
 | m+1,s=>if (decide (s.e=0)&&!tU l s.at_ oH)=true then(one s).bind λr=>(tX l one m r.1).bind λq=>some (q.1,r.2++q.2)else some (s,[])
def VO(l:List bT)(s:fR)(d:Int):fR:=if (decide (12<d)&&tU l s.at_ C1)=true then jD l s 7 else s
def QH{l:List bT}{s:fR}{d:Int}(h:lJ l s):lJ l (VO l s d):=by unfold VO;split;exact tW h;exact h
def VP(l:List bT):Nat->aey
 | 0=>λ_ _ _=>none
 | k+1=>λs d lp=>(tX l (λs=>Dr l (VP l k) s d lp) 10000 (dV l (VO l s d) C1)).bind λr=>some (dV l r.1 oH,r.2)
section
variable {l:List bT}{one:fR->Option (fR×List bQ)}{s s':fR}{d lp:Int}{add:List bQ}{m:Nat}
theorem Ih(h:tX l one m s=some (s',add)):∃k,m=k+1:=by
 cases m with
 | zero=>cases h
 | succ k=>grind
theorem FZ(h:tX l one (m+1) s=some (s',add))(hb:(decide (s.e=0)&&!tU l s.at_ oH)=false):s'=s/\add=[]:=by
 unfold tX at h;grind
theorem J3(h:tX l one (m+1) s=some (s',add))(hb:(decide (s.e=0)&&!tU l s.at_ oH)=true):∃u B E,one s=some (u,B)/\tX l one m u=some (s',E)/\add=B++E:=by
 unfold tX at h;rw[hb,ej rfl]at h
 obtain⟨u,B,h1,h2⟩:=eS h
 obtain⟨G,E,h3,h4⟩:=eS h2
 grind
theorem ZU{k:Nat}(h:VP l (k+1) s d lp=some (s',add)):∃u,tX l (λs=>Dr l (VP l k) s d lp) 10000 (dV l (VO l s d) C1)=some (u,add)/\s'=dV l u oH:=by
 unfold VP at h
 obtain⟨u,B,h1,h2⟩:=eS h
 grind
end
def QI{l:List bT}{bY:aey}{s s':fR}{d lp:Int}{add:List bQ}(hb:∀s d lp s' a,lJ l s->bY s d lp=some (s',a)->lJ l s')(E:lJ l s)(h:Dr l bY s d lp=some (s',add)):lJ l s':=by
 by_cases h1:iM l s.at_ 13=13/\lp=0
 .rw[(Tm h h1).1];exact tW E
 obtain⟨W,x,h2,h3⟩:=ZT h h1
 have u:=Cx (J2 E) h2
 by_cases h4:iM l s.at_ 13≠11/\iM l s.at_ 13≠12
 .rw[(Ig h3 h4).1];exact fI u
 obtain⟨V,O,h5,h6⟩:=Tn h3 h4
 have I:=hb _ _ _ _ _ u h5
 rcases h6 with⟨B,M,U,J,G,_⟩|⟨_,G,_⟩
 .rw[G]
  refine hb _ _ _ _ _ ?_ J
  unfold kJ at B
  rw[oi]at B
  have:=sZ B.2
  grind[lJ,US]
 grind
theorem To{l:List bT}{one:fR->Option (fR×List bQ)}(B:∀s s' a,lJ l s->one s=some (s',a)->lJ l s'):∀{m:Nat}{s s':fR}{add:List bQ},lJ l s->tX l one m s=some (s',add)->lJ l s'
 | 0,_,_,_,_,h=>by cases h
 | m+1,s,s',add,u,h=>by
  cases hb:(decide (s.e=0)&&!tU l s.at_ oH)with
  | false=>rw[(FZ h hb).1];exact u
  | true=>
   obtain⟨E,G,I,h1,h2,_⟩:=J3 h hb
   exact To B (B _ _ _ u h1) h2
theorem QJ{l:List bT}:∀{k:Nat}{s s':fR}{d lp:Int}{add:List bQ},lJ l s->VP l k s d lp=some (s',add)->lJ l s'
 | 0,_,_,_,_,_,_,h=>by cases h
 | k+1,s,s',d,lp,add,u,h=>by
  obtain⟨B,h1,h2⟩:=ZU h
  rw[h2]
  exact fI (To (λ_ _ _ a b=>QI (λ_ _ _ _ _ c e=>QJ c e) a b) (fI (QH u)) h1)
def pT(p:Nat)(lv:Value)(s:fR)(out:List bQ)(Q:hM):HP:=pM λov:Value=>pM λts:List bE=>sep (bY p (er lv ov s)) (sep (bH ov ts) (eF λw=>gy ts out w/\Q w))
section
variable {w0 w:World}{A:Nat->Prop}{L:List HP}{p:Nat}{lv:Value}{s:fR}{out:List bQ}{Q:hM}
theorem pT.open(u:St w0 A (pT p lv s out Q::L) w):∃(ov:Value) (ts:List bE),St w0 A (bY p (er lv ov s)::bH ov ts::eF (λw=>gy ts out w/\Q w)::L) w:=by
 obtain⟨ov,h1⟩:=u.eo
 obtain⟨ts,h2⟩:=h1.eo
 exact⟨ov,ts,h2.split.p1.split.p2⟩
theorem pT.shut{ov:Value}{ts:List bE}(u:St w0 A (bY p (er lv ov s)::bH ov ts::eF (λw=>gy ts out w/\Q w)::L) w):St w0 A (pT p lv s out Q::L) w:=
 St.ep (H:=λov:Value=>pM λts:List bE=>sep (bY p (er lv ov s)) (sep (bH ov ts) (eF λw=>gy ts out w/\Q w))) ov (St.ep (H:=λts:List bE=>sep (bY p (er lv ov s)) (sep (bH ov ts) (eF λw=>gy ts out w/\Q w))) ts (St.join u.p2.p2.join.p1))
end
def akq(l:List bT)(k:Nat):Prop:=∀(p:Nat) (lv:Value) (s:fR) (d lp:Int) (out:List bQ) (u:fR) (add:List bQ) (Q:hM) (F:Nat->Prop) (w:World),
 (pT p lv s out Q).p w F->(∀w',gz F w w'->dA (λ_=>True) w' lv l)->lJ l s->0<=d/\d+k<=1001->0<=lp/\lp+k<=1001->out.length+add.length<=1000000->VP l k s d lp=some (u,add)->
 Calls hH 293 [.pointer (some ⟨p,0,none⟩),hZ d,hZ lp].toArray w (ub λv w'=>v=hZ (add.length:Int)/\mU F (pT p lv u (out++add) Q) w w')
def aez{w:World}{u:bE}{x:bQ}(h:ml w u x):DL w (j0 u.e) x.e:=by obtain⟨_,_,rfl,h,_⟩:=h;exact h
def aeA{w:World}{u:bE}{x:bQ}(h:ml w u x):DL w (j0 u.f) x.f:=by obtain⟨_,_,rfl,_,h⟩:=h;exact h
def QK{l:List bT}{u:Int}{s:fR}(h:kJ l u s=true):lJ l (US s):=by
 unfold kJ at h
 rw[oi]at h
 have:=sZ h.2
 grind[lJ,US]
def aeB{α σ:Type}[Flat σ][Deep α σ]{w:World}{ts:List σ}{xs:List α}{i:Nat}{t:σ}{x:α}(h:gy ts xs w)(ht:ml w t x):gy (ts.set i t) (xs.set i x) w:=by
 grind[gy]
theorem ZV{α:Type}{a b:List α}{x y:α}:(a++x::b).set a.length y=a++y::b:=by
 grind
def C256(p:Nat)(lv:Value)(l:List bT)(s:fR)(k:Nat)(d lp:Int)(out:List bQ)(s2:fR)(add:List bQ)(Q:hM)(F:Nat->Prop)(w:World)(hF:(pT p lv s out Q).p w F)(V:∀w',gz F w w'->dA (λ_=>True) w' lv l)(hk:jl l)(h0:lJ l s)(HB:akq l k)(hd:0<=d/\d+k<=1000)(hlp:0<=lp/\lp+k<=1000)(GF:out.length+add.length<=1000000)(hr:Dr l (VP l k) s d lp=some (s2,add)):CR 256 [(.pointer (some ⟨p,0,none⟩)),hZ d,hZ lp] w (λv w'=>v=.tuple #[]/\mU F (pT p lv s2 (out++add) Q) w w'):=by
 have u:=St.begin hF;obtain⟨ov,ts,u⟩:=pT.open u;have Ok:ts.length=out.length:=u.p2.eF.1.1;have DP:=hk.n;have hn:l.length<=1000000:=bO
 have sJ:=hk.at_;obtain⟨Td,Te⟩:=id h0;refine ace _ _ _ _ _ ?_;unfold S256;refine aE (aA iJ (have u:=u.drew;aB jr u.hb rfl (aE (aA fb (aB bL u.hb rfl (aV G7 u (C214 _ l s.at_ _ (V _ u.aG) hn sJ) λ_ he u=>?_))))));have u:=u.p2.p2.p2;refine⟨λmm a b w'=>∃j:Nat,a=hZ (iM l s.at_ j)/\b=hZ ((j:Int)+2)/\mm=13-j/\j<=13/\St w F [bY p (er lv ov s),bH ov ts,eF λw=>gy ts out w/\Q w] w',⟨_,0,rfl,rfl,rfl,l6 _,u⟩,?_⟩;rintro mm _ _ w2 ⟨j,rfl,rfl,rfl,hj,u⟩ _;refine gZ (aC (λiP=>?_) λiP=>?_)
 .refine⟨_,?_,λ_ _ h=>h⟩;refine aE (aA iJ (have u:=u.drew;aB jr u.hb rfl (aE (aA fb (aB bL u.hb rfl (aV ano u (C290 ((j:Int)+2) _ bO) λ_ he u=>?_))))));refine⟨aF jr (u.hb.cell rfl),?_⟩;refine⟨aF bL (u.hb.cell rfl),?_⟩;refine aV vX u (C209 _ l s.at_ (Ib ((j:Int)+2)) _ (V _ u.aG) hn) (λ_ he u=>aY (λmj=>?_) λmj=>?_)
  .intro vZ;refine aO bO ?_;exact⟨_,bO,j+1,gQ (n3 .i64) (by first|exact(Ic mj).symm|exact(Ie (by rw[mj];simp)).symm),gQ (n3 .i64) bO,rfl,bO,u⟩
  .intro vZ;refine aO bO ?_;exact⟨_,bO,j+1,gQ (n3 .i64) (by first|exact(Ic mj).symm|exact(Ie (by rw[mj];simp)).symm),gQ (n3 .i64) bO,rfl,bO,u⟩
 .obtain rfl:j=13:=bO
  have Xh:=Tl (l:=l) (a:=s.at_) 13;refine⟨λY w'=>Y=.bool (decide ((iM l s.at_ 13)=13/\lp=0))/\w2=w',?_,?_⟩
  .refine aH (aC (λrz=>?_) λrz=>?_)
   .refine aH ?_;exact⟨yN bO,rfl⟩
   .exact⟨jvF bO,rfl⟩
  .rintro _ _ ⟨rfl,hw⟩ _;subst hw;refine aC (λqI=>?_) (λqI=>?_)
   .refine bF G9 u (H':=λ_=>bY p (er lv ov (jD l s 5))) (Φ:=λ_ _=>True) (λO M U=>?_) ?_
    .exact(C291 p lv ov l s 5 O _ M (λw' hc=>V w' (U w' hc).aG) hk h0).mono λ_ _ r=>r.mono λ_ _ h=>⟨trivial,h.2⟩
    rintro _ _ _ u;obtain⟨e1,e2⟩:=Tm hr qI;rw[e1,e2,pd];exact⟨rfl,(pT.shut u).mut⟩
   .refine⟨λw'=>St w F [bY p (er lv ov (s1S l s)),bH ov ts,eF λw=>gy ts out w/\Q w] w',?_,?_⟩
    .refine bX (aC (λxg=>?_) λxg=>?_)
     .refine aE (aA fb (aB bL u.hb rfl (aO bO (aE (aA fb (aT u bL (dL rfl) (rfl) λ_ u=>?_))))));have u:=u.p2.p2.p2;have Ut:(s1S l s)={s with at_:=s.at_+1}:=by unfold s1S;rw[ej bO]
      rw[Ut];exact u
     .have u:=u.p2.p2.p2;have Ut:(s1S l s)=s:=by unfold s1S;rw[ei bO]
      rw[Ut];exact u
    .intro _ u _;obtain⟨q,x,nz,Dz⟩:=ZT hr qI;refine bF anp u (H':=λv=>pM λsh:bE=>fact (v=j0 sh) (sep (bY p (er lv ov q)) (eF λw=>ml w sh x))) (Φ:=λ_ _=>True) (λO M U=>?_) ?_
     .exact(C292 p lv ov l (s1S l s) (iM l s.at_ 13) (nu l s.at_) q x O _ M (λw' hc=>V w' (U w' hc).aG) hk (J2 h0) nz).mono λ_ _ r=>r.mono λ_ _ h=>⟨trivial,h⟩
     rintro v_x58 _ _ xC;obtain⟨aym,zo⟩:=xC.eo
     clear xC
     obtain⟨akr,D2⟩:=zo.mC
     clear zo
     subst akr;have u:=D2.split
     clear D2
     obtain⟨B,E,aks,hde,hdf⟩:=u.p1.eF;subst aks;refine aM u jA (λB6 _ u=>have u:=u.enc (cs':=kp (⟨0,(kE #[]),(kE #[]),bW,bW,0,0,0,0⟩:bE)) rfl;aJ (x:=(⟨x.kind,x.eG,x.name,B,E,x.n,x.body,x.ey,x.at_⟩:bE)) u eN rfl rfl λ_ u=>aE (aA qz (aB jR u.p1.hb rfl (aK fq u.p3.dS (aE (aA qz (have u:=u.drew;aB jR u.p1.hb rfl (aD eN u.At (bD ([(⟨x.kind,x.eG,x.name,B,E,x.n,x.body,x.ey,x.at_⟩:bE)]) u fq rfl rfl (dL rfl) λagW _ u=>?_)))))))))
     refine⟨aF jR (u.p2.hb.cell rfl),?_⟩;have akt:=u.dS;refine bJ u.p4 fq akt (by simp;omega) dD (λTp _ u=>have u:=u.p1.drop;aE (aA qz (aT u.p2 jR (dL rfl) u.dS.one λ_ u=>?_)));refine⟨λY w'=>Y=.bool (decide ((iM l s.at_ 13)≠11/\(iM l s.at_ 13)≠12))/\St w F [bY p (er lv Tp q),bH Tp (ts++[(⟨x.kind,x.eG,x.name,B,E,x.n,x.body,x.ey,x.at_⟩:bE)]),eF (λw=>gy (ts++[(⟨x.kind,x.eG,x.name,B,E,x.n,x.body,x.ey,x.at_⟩:bE)]) (out++[x]) w/\(λw=>Q w/\ml w (⟨x.kind,x.eG,x.name,B,E,x.n,x.body,x.ey,x.at_⟩:bE) x) w),bY B6 (kp (⟨x.kind,x.eG,x.name,B,E,x.n,x.body,x.ey,x.at_⟩:bE))] w',?_,?_⟩
     .refine bX (aC (λaru=>?_) λaru=>?_)
      .refine bX ?_;have u:=u.p3.p4.hG.dN (Ψ:=λw=>gy (ts++[(⟨x.kind,x.eG,x.name,B,E,x.n,x.body,x.ey,x.at_⟩:bE)]) (out++[x]) w/\(λw=>Q w/\ml w (⟨x.kind,x.eG,x.name,B,E,x.n,x.body,x.ey,x.at_⟩:bE) x) w) (λ_ h=>⟨h.1.1.snoc h.2,h.1.2,h.2⟩);have u:=u.p3.p1.p3.p3;exact⟨vb cL,u⟩
      .have u:=u.p3.p4.hG.dN (Ψ:=λw=>gy (ts++[(⟨x.kind,x.eG,x.name,B,E,x.n,x.body,x.ey,x.at_⟩:bE)]) (out++[x]) w/\(λw=>Q w/\ml w (⟨x.kind,x.eG,x.name,B,E,x.n,x.body,x.ey,x.at_⟩:bE) x) w) (λ_ h=>⟨h.1.1.snoc h.2,h.1.2,h.2⟩);have u:=u.p3.p1.p3.p3;exact⟨vb cL,u⟩
     .rintro _ w16 ⟨rfl,u⟩ _;refine aC (λR8=>?_) (λR8=>?_)
      .refine bF yP u (H':=λ_=>bY p (er lv Tp (dV l q (kE #[59])))) (Φ:=λ_ _=>True) (λO M U=>?_) ?_
       .exact(C257 p lv Tp l q (kE #[59]) O _ M (λw' hc=>V w' (U w' hc).aG) hk (Cx (J2 h0) nz)).mono λ_ _ r=>r.mono λ_ _ h=>⟨trivial,h.2⟩
       rintro _ _ _ u;have u:=u.p3.drop.p1.p1.p2.dN (Ψ:=λw=>gy (ts++[(⟨x.kind,x.eG,x.name,B,E,x.n,x.body,x.ey,x.at_⟩:bE)]) (out++[x]) w/\Q w) (λ_ h=>⟨h.1,h.2.1⟩);have u:=u.p2.p2;obtain⟨e1,e2⟩:=Ig Dz R8;rw[e1,e2];exact⟨rfl,(pT.shut u).mut⟩
      .refine⟨λY w'=>Y=hZ (if (iM l s.at_ 13)=12 then lp+1 else lp)/\w16=w',?_,?_⟩
       .refine aH (aC (λarv=>?_) λarv=>?_)
        .refine aO bO ?_;exact⟨by rw[ej bO],rfl⟩
        .exact⟨by rw[ei bO],rfl⟩
       .rintro _ _ ⟨rfl,hw⟩ _;subst hw;refine aO bO ?_;have u:=pT.shut u.p2.p2.p2;obtain⟨W,I,Ks,VB⟩:=Tn Dz R8;have hm1:I.length<add.length:=by rcases VB with⟨_,s5,m2,_,_,e⟩|⟨_,_,e⟩<;>rw[e]<;>simp<;>omega
        refine bF afS u (H':=λ_=>pT p lv W ((out++[x])++I) λw=>Q w/\ml w (⟨x.kind,x.eG,x.name,B,E,x.n,x.body,x.ey,x.at_⟩:bE) x) (Φ:=λv _=>v=hZ (I.length:Int)) (λO M U=>?_) ?_
        .exact HB p lv q (d+1) (if (iM l s.at_ 13)=12 then lp+1 else lp) (out++[x]) W I (λw=>Q w/\ml w (⟨x.kind,x.eG,x.name,B,E,x.n,x.body,x.ey,x.at_⟩:bE) x) O _ M (λw' hc=>V w' (U w' hc).aG) (Cx (J2 h0) nz) bO (by split<;>omega) (by rw[l1,mv];omega) Ks
        rintro _ _ rfl u;obtain⟨ov3,vD,u⟩:=pT.open u;refine aA iY (aT u.p3 bL (dL rfl) (rfl) λ_ u=>?_);have u:=u.enc (cs':=kp (⟨x.kind,x.eG,x.name,B,E,x.n,(I.length:Int),x.ey,x.at_⟩:bE)) rfl;refine⟨λw'=>∃(bd el:Int) (rest:List bQ),add={x with body:=bd,ey:=el}::rest/\St w F [pT p lv s2 ((out++[x])++rest) (λw=>Q w/\ml w (⟨x.kind,x.eG,x.name,B,E,x.n,x.body,x.ey,x.at_⟩:bE) x),bY B6 (kp (⟨x.kind,x.eG,x.name,B,E,x.n,bd,el,x.at_⟩:bE))] w',?_,?_⟩
        .refine⟨λY w'=>Y=.bool (kJ l (iM l s.at_ 13) W)/\St w F [bY p (er lv ov3 W),bH ov3 vD,eF (λw=>gy vD ((out++[x])++I) w/\(λw=>Q w/\ml w (⟨x.kind,x.eG,x.name,B,E,x.n,x.body,x.ey,x.at_⟩:bE) x) w),bY B6 (kp (⟨x.kind,x.eG,x.name,B,E,x.n,(I.length:Int),x.ey,x.at_⟩:bE))] w',?_,?_⟩
         .refine aH (aC (λIi=>?_) λIi=>?_)
          .refine aE (aA kU (have u:=u.drew;aB jP u.p1.hb rfl (aH (aC (λCa=>?_) λCa=>?_))))
           .refine aE (aA iJ (aB jr u.p1.hb rfl (aE (aA fb (aB bL u.p1.hb rfl (aV vX u (C209 _ l W.at_ (kE #[101,108,115,101]) _ (V _ u.aG) hn) λ_ he u=>?_))))));have u:=u.p3.p3.p3;exact⟨vb (by unfold kJ;rw[ew Ii,ew Ca];rfl),u⟩
           .have u:=u.p3.p3.p3;exact⟨vb (by unfold kJ;first|(rw[fP Ii];rfl)|(rw[ew Ii,fP Ca];rfl)),u⟩
          .have u:=u.drew.p3.p3.p3;exact⟨vb (by unfold kJ;first|(rw[fP Ii];rfl)|(rw[ew Ii,fP Ca];rfl)),u⟩
         .rintro _ _ ⟨rfl,u⟩ _;refine aY (λG=>?_) (λG=>?_)
          .obtain⟨J,s5,m2,hb2,e5,Z⟩|⟨J,_⟩:=VB
           rotate_left
           .rw[J]at G;cases G
           subst e5;have hin3:=sZ (show tU l W.at_ aha=true by unfold kJ at G;rw[oi]at G;exact G.2);refine aE (aA fb (aB bL u.hb rfl (aO bO (aE (aA fb (aT u bL (dL rfl) (rfl) λ_ u=>aO bO ?_))))));have u:=pT.shut (s:=US W) u.p2.p2.p2;have hkd11:(iM l s.at_ 13)=11:=by unfold kJ at G;simp at G;exact G.1.1
           rw[ei (show ¬ (iM l s.at_ 13)=12 by omega)];refine bF afS u (H':=λ_=>pT p lv s2 (((out++[x])++I)++m2) λw=>Q w/\ml w (⟨x.kind,x.eG,x.name,B,E,x.n,x.body,x.ey,x.at_⟩:bE) x) (Φ:=λv _=>v=hZ (m2.length:Int)) (λO M U=>?_) ?_
           .exact HB p lv (US W) (d+1) lp ((out++[x])++I) s2 m2 (λw=>Q w/\ml w (⟨x.kind,x.eG,x.name,B,E,x.n,x.body,x.ey,x.at_⟩:bE) x) O _ M (λw' hc=>V w' (U w' hc).aG) (QK G) bO bO (by have:=gQ List.length Z;simp at this |-;omega) hb2
           rintro _ _ rfl u;rw[n5 (out++[x])]at u;refine aA iI (aT u.p1 bL (dL rfl) (rfl) λ_ u=>?_);have u:=u.enc (cs':=kp (⟨x.kind,x.eG,x.name,B,E,x.n,(I.length:Int),(m2.length:Int),x.at_⟩:bE)) rfl;have u:=u.p1;exact⟨_,_,_,Z,u⟩
          .obtain⟨J,_⟩|⟨J,e5,Z⟩:=VB
           .rw[J]at G;cases G
           subst e5;have u:=((pT.shut u.p2.p2.p2).p1).p1;exact⟨(I.length:Int),x.ey,I,Z,u⟩
        .rintro _ ⟨bd,el,rest,Z,u⟩ _;obtain⟨ov5,ts5,u⟩:=pT.open u;refine aE (aA qz (have u:=u.drew;aB jR u.hb rfl (aD eN u.p3.At ?_)));have h5l:ts5.length=(out++[x]++rest).length:=u.p2.eF.1.1;have h6l:=gQ List.length Z;simp only[l1,o1,L2]at h5l h6l;obtain⟨ayn,atA⟩:=gx ts5 (i:=(ts.length:Int).toNat) bO;refine dR u.p1 fq bO bO (λ_ aku=>jw _ u.p1 eN aku bO λ_ u=>?_);have u:=u.p3.drop.p1.p2.dN (Ψ:=λw=>gy (ts5.set (ts.length:Int).toNat (⟨x.kind,x.eG,x.name,B,E,x.n,bd,el,x.at_⟩:bE)) (out++add) w/\Q w) (λ_ h=>⟨by
  have hh:=aeB (i:=(ts.length:Int).toNat) (t:=(⟨x.kind,x.eG,x.name,B,E,x.n,bd,el,x.at_⟩:bE)) (x:={x with body:=bd,ey:=el}) h.1 ⟨B,E,rfl,aez (x:=x) h.2.2,aeA (x:=x) h.2.2⟩;rw[show(ts.length:Int).toNat=out.length from bO,n5,List.singleton_append,ZV]at hh
  rw[Z,show(ts.length:Int).toNat=out.length from bO];exact hh,h.2.1⟩)
         have u:=u.p2.p2;exact⟨rfl,(pT.shut u).mut⟩
def C293(p:Nat)(lv:Value)(l:List bT)(s:fR)(k:Nat)(d lp:Int)(out:List bQ)(s2:fR)(add:List bQ)(Q:hM)(F:Nat->Prop)(w:World)(hF:(pT p lv s out Q).p w F)(M:∀w',gz F w w'->dA (λ_=>True) w' lv l)(O:jl l)(Y:lJ l s)(HB:akq l k)(hd:0<=d/\d+k<=1000)(hlp:0<=lp/\lp+k<=1000)(GF:out.length+add.length<=1000000)(hr:VP l (k+1) s d lp=some (s2,add)):CR 293 [(.pointer (some ⟨p,0,none⟩)),hZ d,hZ lp] w (λv w'=>v=hZ (add.length:Int)/\mU F (pT p lv s2 (out++add) Q) w w'):=by
 have u:=St.begin hF;obtain⟨ov,ts,u⟩:=pT.open u;have Ok:ts.length=out.length:=u.p2.eF.1.1;obtain⟨s9,Za,e2⟩:=ZU hr;have DP:=O.n;have hn:l.length<=1000000:=bO
 have sJ:=O.at_;obtain⟨Td,Te⟩:=id Y;refine oL Tryz.func293 (pl:=au6) ?_;refine aE (aA qz (aB jR u.hb rfl (aK fq u.p1.dS ⟨λw'=>St w F [bY p (er lv ov (VO l s d)),bH ov ts,eF λw=>gy ts out w/\Q w] w',⟨λjv w'=>jv=.bool (decide (12<d)&&tU l s.at_ C1)/\St w F [bY p (er lv ov s),bH ov ts,eF λw=>gy ts out w/\Q w] w',cN (aC (λ_=>aE (aA iJ (have u:=u.drew;aB jr u.hb rfl (aE (aA fb (aB bL u.hb rfl (aV vX u (C209 _ l s.at_ (kE #[123]) _ (M _ u.aG) hn) λ_ _ u=>⟨vb (by first|(rw[ew (show 12<d by omega)];rfl)|(rw[fP (show ¬ 12<d by omega)];rfl)),u⟩))))))) λ_=>have u:=u.drew;⟨vb (by first|(rw[ew (show 12<d by omega)];rfl)|(rw[fP (show ¬ 12<d by omega)];rfl)),u⟩),?_⟩,?_⟩)))
 .rintro _ _ ⟨rfl,u⟩ _;refine aY (λjG=>?_) (λjG=>?_)
  .refine bF G9 u (H':=λ_=>bY p (er lv ov (jD l s 7))) (Φ:=λ_ _=>True) (λJ G I=>?_) ?_
   .exact(C291 p lv ov l s 7 J _ G (λw' hc=>M w' (I w' hc).aG) O Y).mono λ_ _ r=>r.mono λ_ _ h=>⟨trivial,h.2⟩
   rintro _ _ _ u;have u:=u.p2.p2.p2;have h7:VO l s d=jD l s 7:=by unfold VO;rw[ej jG]
   rw[h7];exact u
  have u:=u.p2.p2.p2;have h7:VO l s d=s:=by unfold VO;rw[ei (by rw[jG];simp)]
  rw[h7];exact u
 intro _ u _;refine bF yP u (H':=λ_=>bY p (er lv ov (dV l (VO l s d) (kE #[123])))) (Φ:=λ_ _=>True) (λJ G I=>?_) ?_
 .exact(C257 p lv ov l (VO l s d) (kE #[123]) J _ G (λw' hc=>M w' (I w' hc).aG) O (QH Y)).mono λ_ _ r=>r.mono λ_ _ h=>⟨trivial,h.2⟩
 rintro _ _ _ u;have u:=pT.shut (s:=dV l (VO l s d) C1) u.p2.p2.p2;refine⟨λmm w'=>∃(B:fR) (E a2:List bQ),lJ l B/\tX l (λs=>Dr l (VP l k) s d lp) mm B=some (s9,a2)/\add=E++a2/\St w F [pT p lv B (out++E) Q] w',⟨10000,_,[],add,fI (QH Y),Za,rfl,by rw[pd];exact u⟩,?_⟩;rintro mm _ ⟨B,E,a2,NA,Ks,V,u⟩ _;obtain⟨m,rfl⟩:=Ih Ks;obtain⟨W,Z,u⟩:=pT.open u;have aeC:Z.length=(out++E).length:=u.p2.eF.1.1;rw[l1]at aeC;refine⟨λjv w'=>jv=.bool (decide (B.e=0)&&!tU l B.at_ oH)/\St w F [bY p (er lv W B),bH W Z,eF λw=>gy Z (out++E) w/\Q w] w',aE (aA kU (have u:=u.drew;aB jP u.hb rfl (aH (aC (λU=>aE (aA iJ (aB jr u.hb rfl (aE (aA fb (aB bL u.hb rfl (aV vX u (C209 _ l B.at_ (kE #[125]) _ (M _ u.aG) hn) λ_ _ u=>bR (have u:=u.p2.p2.p2;⟨vb (by first|(rw[ew U];rfl)|(rw[fP U];rfl)),u⟩)))))))) λU=>have u:=u.p2.p2.p2;⟨vb (by first|(rw[ew U];rfl)|(rw[fP U];rfl)),u⟩)))),?_⟩
 rintro _ _ ⟨rfl,u⟩ _;refine aY (λxg=>?_) (λxg=>?_)
 .obtain⟨s3,a1,a3,ho,hb3,rfl⟩:=J3 Ks xg;have u:=pT.shut u.p2.p2.p2;refine bF afQ u (H':=λ_=>pT p lv s3 ((out++E)++a1) Q) (Φ:=λ_ _=>True) (λJ G I=>?_) ?_
  .exact(C256 p lv l B k d lp (out++E) s3 a1 Q J _ G (λw' hc=>M w' (I w' hc).aG) O NA HB bO bO (by have:=gQ List.length V;simp at this |-;omega) ho).mono λ_ _ r=>r.mono λ_ _ h=>⟨trivial,h.2⟩
  rintro _ _ _ u;exact⟨_,bO,s3,E++a1,a3,QI (λ_ _ _ _ _ c e=>QJ c e) NA ho,hb3,by rw[V,n5],by rw[<- n5];exact u⟩
 obtain⟨e9,rfl⟩:=FZ Ks xg;replace e9:=e9.symm;subst e9;rw[pd]at V;subst V;refine bF yP u (H':=λ_=>bY p (er lv W (dV l B (kE #[125])))) (Φ:=λ_ _=>True) (λJ G I=>?_) ?_
 .exact(C257 p lv W l B (kE #[125]) J _ G (λw' hc=>M w' (I w' hc).aG) O NA).mono λ_ _ r=>r.mono λ_ _ h=>⟨trivial,h.2⟩
 rintro _ _ _ u;refine aE (aA qz (aB jR u.hb rfl (aK fq u.p1.dS (fh bO ?_))));rw[e2];exact⟨gQ (n3 .i64) bO,(pT.shut u).mut⟩
theorem arx{l:List bT}(u:jl l):∀k,akq l k
 | 0=>λp lv s d lp out B add Q F w _ _ _ _ _ _ h=>by cases h
 | k+1=>λp lv s d lp out B add Q F w J G I O E M h=>C293 p lv l s k d lp out B add Q F w J G u I (arx u k) bO bO M h
def uy(i:Int):fR:=⟨i,0,0⟩
def F0(l:List bT)(i op:Int):Option (List bQ×Int×Int×Int):=
 (tX l (λs=>Dr l (VP l 20) s 0 0) 10000 (uy i)).bind λr=>
  if 1000000<r.2.length then none else if (dV l r.1 oH).e≠0 then some ([],0,(dV l r.1 oH).e,(dV l r.1 oH).pos)
  else if 40<r.2.length then some ([],0,2,(pH l op).at_)
  else some (r.2,(dV l r.1 oH).at_,0,0)
def J4(l:List bT)(s:fR):Bool:=match l8 l s.at_ with|some t=>decide (t.kind=2)|none=>false
def jN(l:List bT)(nb:Bool)(s:fR):fR×cK:=
 if (nb&&(iG l (fc l s).1 Kw).2)=true then
  (if J4 l (iG l (fc l s).1 Kw).1=true then(US (iG l (fc l s).1 Kw).1,{ (fc l s).2 with n:=(pH l (iG l (fc l s).1 Kw).1.at_).n})
  else(jD l (iG l (fc l s).1 Kw).1 5,(fc l s).2))
 else fc l s
abbrev Cy:ByteArray:=⟨#[44]⟩
abbrev Tq:ByteArray:=⟨#[59]⟩
def qe(l:List bT)(nb:Bool):Nat->Bool->fR->Option (fR×List cK)
 | 0,_,_=>none
 | m+1,more,s=>if (more&&decide (s.e=0))=true then(qe l nb m (iG l (jN l nb s).1 Cy).2 (iG l (jN l nb s).1 Cy).1).bind λr=>some (r.1,(jN l nb s).2::r.2)else some (s,[])
def nw(l:List bT)(nb:Bool)(s:fR):Option (fR×List cK):=(qe l nb 10000 true s).bind λr=>if 1000000<r.2.length then none else some (dV l r.1 Tq,r.2)
abbrev UT:ByteArray:=⟨#[114,101,103]⟩
def Bv(l:List bT)(s:fR):Option (fR×List ByteArray):=
 if (iG l s UT).2=true then(nw l false (iG l s UT).1).bind λr=>some (r.1,r.2.map cK.name)else some (s,[])
def tY(l:List bT)(s:fR)(nm:ByteArray)(a:Int):Option (fR×cO):=
 (Bv l (dV l s C1)).bind λr=>
  if r.1.e≠0 then some (r.1,⟨nm,r.2,[],a⟩)
  else(F0 l r.1.at_ s.at_).bind λR=>if 0<=R.2.1/\R.2.1<=l.length then some (⟨R.2.1,R.2.2.1,R.2.2.2⟩,⟨nm,r.2,R.1,a⟩)else none
def xP(l:List bT)(s:fR)(a:Int):Option (fR×gS):=
 (wo l s.at_).bind λR=>if R.2.2.1≠0 then some ({s with e:=R.2.2.1,pos:=R.2.2.2},⟨[],0⟩)
  else if 0<=R.2.1/\R.2.1<=l.length then some (dV l {s with at_:=R.2.1} Tq,⟨R.1,a⟩)else none
def ni{α:Type}(l:List bT)(t:ByteArray)(rd:fR->Option (fR×α)):Nat->fR->Option (fR×List α)
 | 0,_=>none
 | m+1,s=>if (iG l s t).2=true then(rd (iG l s t).1).bind λr=>(ni l t rd m r.1).bind λq=>some (q.1,r.2::q.2)else some (s,[])
def z9(l:List bT)(s:fR):Int:=(pH l (s.at_-1)).at_
def QL(l:List bT)(s:fR):Option (fR×List cO):=
 if (iG l s ⟨#[114,101,99,111,118,101,114]⟩).2=true then(tY l (iG l s ⟨#[114,101,99,111,118,101,114]⟩).1 ⟨#[]⟩ (z9 l (iG l s ⟨#[114,101,99,111,118,101,114]⟩).1)).bind λr=>some (r.1,[r.2])else some (s,[])
abbrev ZX:ByteArray:=⟨#[108,105,110,101]⟩
abbrev akv:ByteArray:=⟨#[118,111,108]⟩
abbrev ZY:ByteArray:=⟨#[108,111,99,107]⟩
abbrev J5:ByteArray:=⟨#[116,104,114,101,97,100]⟩
abbrev J6:ByteArray:=⟨#[97,108,119,97,121,115]⟩
def akw(l:List bT)(s:fR):Option (fR×cO):=tY l (fc l s).1 (fc l s).2.name (fc l s).2.at_
def GO(l:List bT)(s:fR):fR:=if s.at_<l.length then jD l s 5 else s
def NB:cB:=⟨[],[],[],[],[],[]⟩
def vN(t:ByteArray):Option (cB×Int×Int):=
 (wk t).bind λL=>if L.2.1≠0 then some (NB,L.2.1,L.2.2)else
 (ni L.1 ZX (nw L.1 true) 10000 (uy 0)).bind λE=>
 (ni L.1 akv (nw L.1 true) 10000 E.1).bind λB=>
 (ni L.1 ZY (nw L.1 false) 10000 B.1).bind λG=>
 (ni L.1 J5 (akw L.1) 10000 G.1).bind λI=>
 (QL L.1 I.1).bind λJ=>
 (ni L.1 J6 (λs=>xP L.1 s (z9 L.1 s)) 10000 J.1).bind λu=>
  if 1000000<E.2.length\/1000000<B.2.flatten.length\/1000000<G.2.flatten.length\/1000000<I.2.length\/1000000<u.2.length then none else if (GO L.1 u.1).e≠0 then some (NB,(GO L.1 u.1).e,(GO L.1 u.1).pos)else some (⟨E.2,B.2.flatten,G.2.flatten,I.2,J.2,u.2⟩,0,0)
section
variable {l:List bT}{s s':fR}
theorem ZZ{t:ByteArray}(h:(iG l s t).2=true):iG l s t=({s with at_:=s.at_+1},true)/\s.e=0/\0<=s.at_/\s.at_<l.length:=by
 unfold iG at h |-
 split at h
 .rename_i h2
  rw[ej h2]
  rw[oi,decide_eq_true_eq]at h2
  exact⟨rfl,h2.1,sZ h2.2⟩
 cases h
theorem xQ{t:ByteArray}(h:(iG l s t).2=false):iG l s t=(s,false):=by
 grind[iG]
theorem F3{nb:Bool}(h:lJ l s):lJ l (jN l nb s).1:=by
 have h1:=ve h
 have h2:=kD (t:=Kw) h1
 unfold jN
 split
 .split
  .rename_i h3
   unfold J4 at h3
   cases ht:l8 l (iG l (fc l s).1 Kw).1.at_ with
   | none=>grind
   | some t=>
    have:=mS ht
    exact⟨by show 0<=(iG l (fc l s).1 Kw).1.at_+1;omega,by show(iG l (fc l s).1 Kw).1.at_+1<=_;omega⟩
  exact tW h2
 exact h1
theorem Ij{nb:Bool}:∀{m:Nat}{more:Bool}{s s':fR}{x:List cK},lJ l s->qe l nb m more s=some (s',x)->lJ l s'
 | 0,_,_,_,_,_,h=>by cases h
 | m+1,more,s,s',x,u,h=>by
  unfold qe at h
  split at h
  .obtain⟨q,y,h1,h2⟩:=eS h
   cases h2
   exact Ij (kD (F3 u)) h1
  grind
theorem yz{nb:Bool}{x:List cK}(h:nw l nb s=some (s',x)):∃u,qe l nb 10000 true s=some (u,x)/\s'=dV l u Tq/\x.length<=1000000:=by
 unfold nw at h
 obtain⟨q,y,h1,h2⟩:=eS h
 grind
theorem yA{nb:Bool}{x:List cK}(u:lJ l s)(h:nw l nb s=some (s',x)):lJ l s':=by
 obtain⟨B,h1,h2,_⟩:=yz h
 rw[h2];exact fI (Ij u h1)
theorem NC{nb more:Bool}{m:Nat}{x:List cK}(h:qe l nb m more s=some (s',x)):∃k,m=k+1:=by
 cases m with
 | zero=>cases h
 | succ k=>grind
theorem F4{nb more:Bool}{m:Nat}{x:List cK}(h:qe l nb (m+1) more s=some (s',x))(hb:(more&&decide (s.e=0))=false):s'=s/\x=[]:=by
 unfold qe at h;grind
theorem UW{nb more:Bool}{m:Nat}{x:List cK}(h:qe l nb (m+1) more s=some (s',x))(hb:(more&&decide (s.e=0))=true):∃y,qe l nb m (iG l (jN l nb s).1 Cy).2 (iG l (jN l nb s).1 Cy).1=some (s',y)/\x=(jN l nb s).2::y:=by
 unfold qe at h;rw[hb,ej rfl]at h
 obtain⟨q,y,h1,h2⟩:=eS h
 grind
theorem ND{x:List ByteArray}(u:lJ l s)(h:Bv l s=some (s',x)):lJ l s':=by
 unfold Bv at h
 split at h
 .obtain⟨q,y,h1,h2⟩:=eS h
  cases h2
  exact yA (kD u) h1
 grind
theorem F5{nm:ByteArray}{a:Int}{x:cO}(u:lJ l s)(h:tY l s nm a=some (s',x)):lJ l s':=by
 unfold tY at h
 obtain⟨q,y,h1,h2⟩:=eS h
 have h3:=ND (fI u) h1
 dsimp only at h2
 split at h2
 .grind
 cases hr:F0 l q.at_ s.at_ with
 | none=>grind
 | some R=>
  grind[lJ]
theorem UX{a:Int}{x:gS}(u:lJ l s)(h:xP l s a=some (s',x)):lJ l s':=by
 unfold xP at h
 cases hr:wo l s.at_ with
 | none=>grind
 | some R=>
  rw[hr]at h
  simp only[nj]at h
  split at h
  .cases h;exact u
  .split at h
   .rename_i h4;cases h;exact fI h4
   .cases h
theorem td{α:Type}{t:ByteArray}{rd:fR->Option (fR×α)}{m:Nat}{x:List α}(h:ni l t rd m s=some (s',x)):∃k,m=k+1:=by
 cases m with
 | zero=>cases h
 | succ k=>grind
theorem vf{α:Type}{t:ByteArray}{rd:fR->Option (fR×α)}{m:Nat}{x:List α}(h:ni l t rd (m+1) s=some (s',x))(hb:(iG l s t).2=false):s'=s/\x=[]:=by
 unfold ni at h;grind
theorem xR{α:Type}{t:ByteArray}{rd:fR->Option (fR×α)}{m:Nat}{x:List α}(h:ni l t rd (m+1) s=some (s',x))(hb:(iG l s t).2=true):∃u y z,rd (iG l s t).1=some (u,y)/\ni l t rd m u=some (s',z)/\x=y::z:=by
 unfold ni at h;rw[hb,ej rfl]at h
 obtain⟨q,y,h1,h2⟩:=eS h
 obtain⟨B,E,h3,h4⟩:=eS h2
 grind
end
def noQ:hM:=λ_=>True
theorem Bw{l:List bT}{i:Int}{t:bT}(u:0<=i)(h:l[i.toNat]?=some t):pH l i=t:=by
 unfold pH l8;grind
def aeD{l:List bT}{i op:Int}{R:List bQ×Int×Int×Int}(h:F0 l i op=some R):∃u add,tX l (λs=>Dr l (VP l 20) s 0 0) 10000 (uy i)=some (u,add)/\add.length<=1000000/\
  ((dV l u oH).e≠0->R=([],0,(dV l u oH).e,(dV l u oH).pos))/\(¬ (dV l u oH).e≠0->40<(add.length:Int)->R=([],0,2,(pH l op).at_))/\
  (¬ (dV l u oH).e≠0->¬ 40<(add.length:Int)->R=(add,(dV l u oH).at_,0,0)):=by
 unfold F0 at h
 obtain⟨q,y,h1,h2⟩:=eS h
 grind
section
variable {l:List bT}{s s':fR}{nb:Bool}
theorem UY(u:nb=true)(h2:(iG l (fc l s).1 Kw).2=true)(h3:J4 l (iG l (fc l s).1 Kw).1=true) :
  jN l nb s=(US (iG l (fc l s).1 Kw).1,{ (fc l s).2 with n:=(pH l (iG l (fc l s).1 Kw).1.at_).n}):=by
 unfold jN;grind
theorem UZ(u:nb=true)(h2:(iG l (fc l s).1 Kw).2=true)(h3:J4 l (iG l (fc l s).1 Kw).1=false) :
  jN l nb s=(jD l (iG l (fc l s).1 Kw).1 5,(fc l s).2):=by
 unfold jN;grind
theorem Z0(h2:(iG l (fc l s).1 Kw).2=false):jN l nb s=((iG l (fc l s).1 Kw).1,(fc l s).2):=by
 unfold jN;rw[ei cL,xQ h2]
theorem Z1(u:nb=false):jN l nb s=((fc l s).1,(fc l s).2):=by
 grind[jN,fc]
theorem aeE{q:fR}(h:J4 l q=true):∃u,l8 l q.at_=some u/\l[q.at_.toNat]?=some u/\0<=q.at_/\q.at_<l.length:=by
 unfold J4 at h
 cases ht:l8 l q.at_ with
 | none=>grind
 | some u=>have:=mS ht;grind
theorem Ik{x:List ByteArray}(h:Bv l s=some (s',x))(h1:(iG l s UT).2=true):∃ys,nw l false (iG l s UT).1=some (s',ys)/\x=ys.map cK.name:=by
 unfold Bv at h;rw[ej h1]at h
 obtain⟨q,y,h2,h3⟩:=eS h
 grind
theorem NF{x:List ByteArray}(h:Bv l s=some (s',x))(h1:(iG l s UT).2=false):s'=s/\x=[]:=by
 unfold Bv at h;grind
theorem QM{nm:ByteArray}{a:Int}{x:cO}(h:tY l s nm a=some (s',x)):∃q rs,Bv l (dV l s C1)=some (q,rs)/\
  (q.e≠0->s'=q/\x=⟨nm,rs,[],a⟩)/\(¬ q.e≠0->∃R,F0 l q.at_ s.at_=some R/\0<=R.2.1/\R.2.1<=l.length/\s'=⟨R.2.1,R.2.2.1,R.2.2.2⟩/\x=⟨nm,rs,R.1,a⟩):=by
 unfold tY at h
 obtain⟨q,rs,h1,h2⟩:=eS h
 refine⟨q,rs,h1,λu=>?_,λu=>?_⟩
 .grind
 dsimp only at h2;rw[ei u]at h2
 cases hr:F0 l q.at_ s.at_ with
 | none=>grind
 | some R=>
  grind
theorem U1{a:Int}{x:gS}(h:xP l s a=some (s',x)):∃R,wo l s.at_=some R/\
  (R.2.2.1≠0->s'={s with e:=R.2.2.1,pos:=R.2.2.2}/\x=⟨[],0⟩)/\(¬ R.2.2.1≠0->(0<=R.2.1/\R.2.1<=l.length)/\s'=dV l {s with at_:=R.2.1} Tq/\x=⟨R.1,a⟩):=by
 unfold xP at h
 cases hr:wo l s.at_ with
 | none=>grind
 | some R=>
  grind
theorem akx{e:Int}(u:e≠0)(h:(jD l s e).e=0):False:=by
 unfold jD at h
 grind
theorem aeF{t:ByteArray}(h:(dV l s t).e=0):tU l s.at_ t=true:=by
 unfold dV at h
 split at h
 .grind
 exact(akx dD h).elim
theorem arz{t:ByteArray}:(iG l s t).1.e=s.e:=by unfold iG;grind
theorem U3{e:Int}(h:s.e≠0):(jD l s e).e≠0:=by unfold jD;grind
theorem QN{t:ByteArray}(h:s.e≠0):(dV l s t).e≠0:=by
 unfold dV;rw[ei cL];exact U3 h
theorem NG:∀{m:Nat}{more:Bool}{s s':fR}{x:List cK},s.e≠0->qe l nb m more s=some (s',x)->s'.e≠0
 | 0,_,_,_,_,_,h=>by cases h
 | m+1,more,s,s',x,u,h=>by
  have:=F4 h cL
  grind
theorem NH{x:List cK}(u:s.e≠0)(h:nw l nb s=some (s',x)):s'.e≠0:=by
 obtain⟨B,h1,h2,_⟩:=yz h
 rw[h2];exact QN (NG u h1)
theorem QO{x:List ByteArray}(u:s.e≠0)(h:Bv l s=some (s',x)):s'.e≠0:=by
 cases h1:(iG l s UT).2 with
 | true=>obtain⟨ys,h2,_⟩:=Ik h h1;exact NH (by rw[arz];exact u) h2
 | false=>rw[(NF h h1).1];exact u
end
theorem GP{α β:Type}{f:α->β}{l:List α}{k:Nat}{e:α}(h:l[k]?=some e):(l.take k).map f++[f e]=(l.take (k+1)).map f:=by
 rw[<- gM h,List.map_append];rfl
def NI{l:List bT}{s s':fR}{x:List cO}(h:QL l s=some (s',x))(h1:(iG l s ⟨#[114,101,99,111,118,101,114]⟩).2=true):∃y,tY l (iG l s ⟨#[114,101,99,111,118,101,114]⟩).1 ⟨#[]⟩ (z9 l (iG l s ⟨#[114,101,99,111,118,101,114]⟩).1)=some (s',y)/\x=[y]:=by
 unfold QL at h;rw[ej h1]at h
 obtain⟨q,y,h2,h3⟩:=eS h
 grind
theorem Tr{l:List bT}{s s':fR}{x:List cO}(h:QL l s=some (s',x))(h1:(iG l s ⟨#[114,101,99,111,118,101,114]⟩).2=false):s'=s/\x=[]:=by
 unfold QL at h;grind
theorem U4{t:ByteArray}{l:List bT}{e a:Int}{R:cB×Int×Int}(h:vN t=some R)(B:wk t=some (l,e,a))(u:e≠0):R=(NB,e,a):=by
 unfold vN at h;rw[B]at h
 simp only[nj]at h
 rw[ej u]at h;exact(oq.inj h).symm
theorem QP{t:ByteArray}{R:cB×Int×Int}(h:vN t=some R):∃l e a,wk t=some (l,e,a):=by
 unfold vN at h
 cases hs:wk t with
 | none=>rw[hs]at h;cases h
 | some L=>exact⟨L.1,L.2.1,L.2.2,rfl⟩
structure aky(l:List bT)(R:cB×Int×Int)(t1 t2 t3 t4 t5 t6:fR)(y1:List (List cK))(y2 y3:List (List cK))(y4 y5:List cO)(y6:List gS):Prop where
 h1:ni l ZX (nw l true) 10000 (uy 0)=some (t1,y1)
 h2:ni l akv (nw l true) 10000 t1=some (t2,y2)
 h3:ni l ZY (nw l false) 10000 t2=some (t3,y3)
 h4:ni l J5 (akw l) 10000 t3=some (t4,y4)
 h5:QL l t4=some (t5,y5)
 h6:ni l J6 (λs=>xP l s (z9 l s)) 10000 t5=some (t6,y6)
 b1:y1.length<=1000000
 b2:y2.flatten.length<=1000000
 b3:y3.flatten.length<=1000000
 b4:y4.length<=1000000
 b6:y6.length<=1000000
 bad:(GO l t6).e≠0->R=(NB,(GO l t6).e,(GO l t6).pos)
 ayo:¬ (GO l t6).e≠0->R=(⟨y1,y2.flatten,y3.flatten,y4,y5,y6⟩,0,0)
def Z2{t:ByteArray}{l:List bT}{e a:Int}{R:cB×Int×Int}(h:vN t=some R)(hs:wk t=some (l,e,a))(he:¬ e≠0):∃Y M W I E u B G O U Z V,aky l R Y M W I E u B G O U Z V:=by
 unfold vN at h;rw[hs]at h
 simp only[nj]at h
 rw[ei he]at h
 obtain⟨Y,B,h1,h⟩:=eS h
 obtain⟨M,G,h2,h⟩:=eS h
 obtain⟨W,O,h3,h⟩:=eS h
 obtain⟨I,U,h4,h⟩:=eS h
 obtain⟨E,Z,h5,h⟩:=eS h
 obtain⟨u,V,h6,h⟩:=eS h
 dsimp only at h
 split at h
 .cases h
 rename_i hb
 simp only[not_or,Nat.not_lt]at hb
 refine⟨Y,M,W,I,E,u,B,G,O,U,Z,V,h1,h2,h3,h4,h5,h6,hb.1,hb.2.1,hb.2.2.1,hb.2.2.2.1,hb.2.2.2.2,λJ=>?_,λJ=>?_⟩
 .rw[ej J]at h;exact(oq.inj h).symm
 rw[ei J]at h;exact(oq.inj h).symm
theorem aeG{l:List bT}{s s':fR}{x:List cO}(u:lJ l s)(h:QL l s=some (s',x)):lJ l s':=by
 cases h1:(iG l s ⟨#[114,101,99,111,118,101,114]⟩).2 with
 | true=>obtain⟨y,h2,_⟩:=NI h h1;exact F5 (kD u) h2
 | false=>rw[(Tr h h1).1];exact u
theorem Bx{α:Type}{a:List (List α)}{b:List α}:(a++[b]).flatten=a.flatten++b:=ee
def Ts{α:Type}{y a c:List (List α)}{b:List α}(h:y=a++b::c):a.flatten.length+b.length<=y.flatten.length:=cL
def C212(l:List bT)(lv:Value)(i op:Int)(R:List bQ×Int×Int×Int)(w:World)(hL:dA (λ_=>True) w lv l)(J:jl l)(h0:0<=i/\i<=l.length)(ko:0<=op/\op<l.length)(hr:F0 l i op=some R):CR 212 [lv,hZ i,hZ op] w (λv w'=>∃sv:SV,v=.tuple #[j0 sv,hZ R.2.1,hZ R.2.2.1,hZ R.2.2.2]/\kV (eF λw=>DL w (j0 sv) R.1) w w'):=by
 have DP:=J.n;have hn:l.length<=1000000:=bO
 have sJ:=J.at_;obtain⟨s9,add,Za,GF,hR⟩:=aeD hr;obtain⟨lsv,M⟩:=hL.fK;have u:=St.start w;refine oL Tryz.func212 (pl:=auQ) ?_;rw[M];refine pop (OZ _ _ _ _) (nB u λarA _ u=>?_);obtain⟨p,rfl⟩:∃p,p=arA:=⟨_,rfl⟩;have u:=u.enc (cs':=er (j0 lsv) (.slice none 0 0) (uy i)) rfl;rw[<- M]at u |-;have hT:∀w',gz aZ w w'->dA (λ_=>True) w' lv l:=λ_ hc=>hL.ext hc;have u:=((u.fr (Φ:=λw=>gy ([]:List bE) ([]:List bQ) w/\noQ w) λ_=>⟨gy.nil,trivial⟩).eM (α:=bE)).p2;have u:=pT.shut u;refine⟨λmm w'=>∃(B:fR) (E a2:List bQ),lJ l B/\tX l (λs=>Dr l (VP l 20) s 0 0) mm B=some (s9,a2)/\add=E++a2/\St w aZ [pT p lv B (([]:List bQ)++E) noQ] w',⟨10000,uy i,[],add,(show lJ l (uy i)from h0),Za,rfl,by rw[pd];exact u⟩,?_⟩
 rintro mm _ ⟨B,E,a2,W,Ks,U,u⟩ _;obtain⟨m,rfl⟩:=Ih Ks;obtain⟨Y,V,u⟩:=pT.open u;have I:V.length=(([]:List bQ)++E).length:=u.p2.eF.1.1;rw[l1]at I;refine⟨λjv w'=>jv=.bool (decide (B.e=0)&&!tU l B.at_ oH)/\St w aZ [bY p (er lv Y B),bH Y V,eF λw=>gy V (([]:List bQ)++E) w/\noQ w] w',aE (aA kU (have u:=u.drew;aB jP u.hb rfl (aH (aC (λO=>aE (aA iJ (aB jr u.hb rfl (aE (aA fb (aB bL u.hb rfl (aV vX u (C209 _ l B.at_ (kE #[125]) _ (hT _ u.aG) hn) λ_ _ u=>bR (have u:=u.p2.p2.p2;⟨vb (by first|(rw[ew O];rfl)|(rw[fP O];rfl)),u⟩)))))))) λO=>have u:=u.p2.p2.p2;⟨vb (by first|(rw[ew O];rfl)|(rw[fP O];rfl)),u⟩)))),?_⟩
 rintro _ _ ⟨rfl,u⟩ _;refine aY (λmi=>?_) (λmi=>?_)
 .obtain⟨s3,a1,a3,ho,hb3,rfl⟩:=J3 Ks mi;have u:=pT.shut u.p2.p2.p2;refine bF afQ u (H':=λ_=>pT p lv s3 ((([]:List bQ)++E)++a1) noQ) (Φ:=λ_ _=>True) (λF2 ef dX=>?_) ?_
  .exact(C256 p lv l B 20 0 0 (([]:List bQ)++E) s3 a1 noQ F2 _ ef (λw' hc=>hT w' (dX w' hc).aG) J W (arx J 20) bO bO (by have:=gQ List.length U;simp at this |-;omega) ho).mono λ_ _ r=>r.mono λ_ _ h=>⟨trivial,h.2⟩
  rintro _ _ _ u;exact⟨_,bO,s3,E++a1,a3,QI (λ_ _ _ _ _ c e=>QJ c e) W ho,hb3,by rw[U,n5],by rw[<- n5];exact u⟩
 obtain⟨e9,rfl⟩:=FZ Ks mi;replace e9:=e9.symm;subst e9;rw[pd]at U;subst U;obtain⟨ayq,ayr⟩:=id W;simp only[L2,Nat.zero_add]at I;refine bF yP u (H':=λ_=>bY p (er lv Y (dV l B (kE #[125])))) (Φ:=λ_ _=>True) (λF2 ef dX=>?_) ?_
 .exact(C257 p lv Y l B (kE #[125]) F2 _ ef (λw' hc=>hT w' (dX w' hc).aG) J W).mono λ_ _ r=>r.mono λ_ _ h=>⟨trivial,h.2⟩
 rintro _ _ _ u;refine aE (aA kU (aB jP u.hb rfl (bX (aC (λZ=>?_) λZ=>aE (aA qz (aB jR u.hb rfl (aK fq u.p1.dS (cN (aC (λBc=>?_) λBc=>?_)))))))))
 .refine aE (aA kU (have u:=u.drew;aB jP u.hb rfl (aE (aA AK (aB bL u.hb rfl ?_)))));have G:R=([],0,(dV l B oH).e,(dV l B oH).pos):=hR.1 Z;rw[G];exact⟨bW,rfl,(u.fr (Φ:=λw=>DL w (j0 (bW:SV)) ([]:List bQ)) λw=>DL.nil w).fresh⟩
 .obtain⟨Yx,Ci⟩:=gx l (i:=op.toNat) bO;refine aQ fM hL bO Ci (λ_ Fc=>bV Yx.at_ lP Fc rfl rfl λ_ Bd=>have u:=u.drew;aD bL (Bd.ext u.aG) ?_);have G:R=([],0,2,Yx.at_):=(hR.2.1 Z bO).trans (by rw[Bw ko.1 Ci]);rw[G];exact⟨bW,rfl,(u.fr (Φ:=λw=>DL w (j0 (bW:SV)) ([]:List bQ)) λw=>DL.nil w).fresh⟩
 refine aE (aA qz (have u:=u.drew;aB jR u.hb rfl (aE (aA fb (aB bL u.hb rfl ?_)))));have u:=(u.drop.p1.dN (Ψ:=gy V ([]++add)) λ_ h=>h.1).p1;have u:=St.Hn u;obtain⟨sv,hsv⟩:=u.o7;subst hsv;rw[hR.2.2 Z bO];exact⟨sv,rfl,u.m4.fresh⟩
def C132(p:Nat)(lv:Value)(l:List bT)(s:fR)(nb:Bool)(s2:fR)(x:List cK)(F:Nat->Prop)(w:World)(hF:(bY p (eC lv s)).p w F)(J:∀w',gz F w w'->dA (λ_=>True) w' lv l)(V:jl l)(h0:lJ l s)(hr:nw l nb s=some (s2,x)):CR 132 [(.pointer (some ⟨p,0,none⟩)),.bool nb] w (λv w'=>mU F (sep (bY p (eC lv s2)) (bH v x)) w w'):=by
 have u:=St.begin hF;obtain⟨s9,VG,e2,GF⟩:=yz hr;have DP:=V.n;have hn:l.length<=1000000:=bO
 have sJ:=V.at_;obtain⟨Td,Te⟩:=id h0;refine oL Tryz.func132 (pl:=auD) ?_;refine bD ([]:List cK) u iu rfl rfl (dL rfl) (λajT _ u=>?_);have u:=u.p1.p1;refine⟨λmm o mo w'=>∃(B:fR) (b:Bool) (W a2:List cK),mo=.bool b/\lJ l B/\qe l nb mm b B=some (s9,a2)/\x=W++a2/\St w F [bH o W,bY p (eC lv B)] w',⟨10000,s,true,[],x,rfl,h0,VG,rfl,u⟩,?_⟩;rintro mm zA _ w2 ⟨B,b,W,a2,rfl,M,Xe,hx,u⟩ _;obtain⟨m,rfl⟩:=NC Xe;obtain⟨ayq,ayr⟩:=id M;refine⟨λjv w'=>jv=.bool (b&&decide (B.e=0))/\w2=w',aY (λY=>aE (aA mA (aB jP u.p1.hb rfl (aH ⟨vb (by first|(rw[Y];rfl)|(rw[Y];rfl)),rfl⟩)))) (λY=>⟨vb (by first|(rw[Y];rfl)|(rw[Y];rfl)),rfl⟩),?_⟩
 rintro _ _ ⟨rfl,hw⟩ _;subst hw;refine aY (λeu=>?_) (λeu=>?_)
 .obtain⟨a3,hn3,rfl⟩:=UW Xe eu;refine bF afB u.p1 (H':=λ_=>bY p (eC lv (fc l B).1)) (Φ:=λv _=>v=j0 (fc l B).2) (λG E I=>?_) ?_
  .exact C133 p lv l B G _ E (λw' hc=>J w' (I w' hc).aG) V M
  rintro _ _ rfl u;refine aM u oX (λZ _ u=>aJ (x:=(fc l B).2) u mf rfl rfl λ_ u=>⟨λw'=>St w F [bY p (eC lv (jN l nb B).1),bY Z (kp (jN l nb B).2),bH zA W] w',⟨_,aY (λvO=>?_) (λvO=>?_),λ_ _ h=>h⟩,?_⟩)
  .refine bF yO u.p1 (H':=λ_=>bY p (eC lv (iG l (fc l B).1 (kE #[61])).1)) (Φ:=λv _=>v=.bool (iG l (fc l B).1 (kE #[61])).2) (λG E I=>?_) ?_
   .exact C131 p lv l (fc l B).1 (kE #[61]) G _ E (λw' hc=>J w' (I w' hc).aG) V (ve M)
   rintro _ _ rfl u;intro v8;refine aY (λjG=>?_) (λjG=>?_)
   .have hq:=kD (t:=kE #[61]) (ve M);obtain⟨U,hq1⟩:=id hq;refine⟨λjv w'=>jv=.bool (J4 l (iG l (fc l B).1 (kE #[61])).1)/\St w F [bY p (eC lv (iG l (fc l B).1 (kE #[61])).1),bY Z (kp (fc l B).2),bH zA W] w',aE (aA fy (have u:=u.drew;aB bL u.hb rfl (aE (aA kc (aB jr u.hb rfl (aK fM (J _ u.aG) (aR (aC (λmj=>?_) λmj=>have u:=u.p2.p2.p2;⟨vb (by unfold J4 l8;rw[ej U,n0 bO]),u⟩)))))))),?_⟩
    .refine aE (aA kc (aB jr u.hb rfl (aE (aA fy (aB bL u.hb rfl ?_)))));obtain⟨arC,Z3⟩:=gx l (i:=(((iG l (fc l B).1 (kE #[61])).1).at_).toNat) bO;exact aQ fM (J _ u.aG) bO Z3 (λ_ EZ=>bV arC.kind lO EZ rfl rfl λ_ LO=>aD bL LO (aH (have u:=u.p2.p2.p2;⟨vb (by unfold J4 l8;rw[ej U,Z3]),u⟩)))
    rintro _ _ ⟨rfl,u⟩ _;refine aY (λsy=>?_) (λsy=>?_)
    .obtain⟨tk,ZI,HE,_,hqlt⟩:=aeE sy;have On:pH l (iG l (fc l B).1 (kE #[61])).1.at_=tk:=Bw U HE;refine aE (aA kc (have u:=u.drew;aB jr u.hb rfl (aE (aA fy (aB bL u.hb rfl (aQ fM (J _ u.aG) bO HE λ_ Bd=>bV tk.n so Bd rfl rfl λ_ arD=>aD bL arD (aA sg (aT u.p1 bL (dL rfl) (rfl) λ_ u=>have u:=u.enc (cs':=kp ({ (fc l B).2 with n:=tk.n}:cK)) rfl;aE (aA fy ?_)))))))));refine aB bL u.p1.hb rfl (aO bO (aE (aA fy (aT u.p1 bL (dL rfl) (rfl) λ_ u=>?_))))
     have u:=u.p2.p2.p2;have O:(jN l nb B)=(US (iG l (fc l B).1 (kE #[61])).1,{ (fc l B).2 with n:=tk.n}):=(UY vO jG sy).trans (by rw[On]);rw[O];exact u
    refine bF Ru u (H':=λ_=>bY p (eC lv (jD l (iG l (fc l B).1 (kE #[61])).1 5))) (Φ:=λ_ _=>True) (λG E I=>?_) ?_
    .exact(C136 p lv l (iG l (fc l B).1 (kE #[61])).1 G _ E (λw' hc=>J w' (I w' hc).aG) V (kD (ve M))).mono λ_ _ r=>r.mono λ_ _ h=>⟨trivial,h.2⟩
    rintro _ _ _ u;have u:=u.p2.p2.p2;have O:=UZ vO jG sy;rw[O];exact u
   have u:=u.p2.p2.p2;have O:=Z0 (nb:=nb) jG;rw[O];exact u
  .intro v8;refine fw ?_;have u:=u.p2.p1.p2;have O:=Z1 (l:=l) (s:=B) vO;rw[O];exact u
  intro _ u _;refine aD mf u.p1.At (bD ([(jN l nb B).2]) u iu rfl rfl (dL rfl) λarp _ u=>?_);have akz:=u.dS;refine bJ u.p3 iu akz (by have:=gQ List.length hx;simp at this |-;omega) dD (λarE _ u=>have u:=u.p1.drop;bF yO u.p1 (H':=λ_=>bY p (eC lv (iG l (jN l nb B).1 (kE #[44])).1)) (Φ:=λv _=>v=.bool (iG l (jN l nb B).1 (kE #[44])).2) (λG E I=>?_) ?_)
  .exact C131 p lv l (jN l nb B).1 (kE #[44]) G _ E (λw' hc=>J w' (I w' hc).aG) V (F3 M)
  rintro _ _ rfl u;have u:=u.p2.drop.p1;exact⟨_,bO,(iG l (jN l nb B).1 Cy).1,(iG l (jN l nb B).1 Cy).2,W++[(jN l nb B).2],a3,rfl,kD (F3 M),hn3,by rw[hx,n5];rfl,u⟩
 obtain⟨e9,rfl⟩:=F4 Xe eu;replace e9:=e9.symm;subst e9;rw[pd]at hx;subst hx;refine bF Wh u.p1 (H':=λ_=>bY p (eC lv (dV l B (kE #[59])))) (Φ:=λ_ _=>True) (λG E I=>?_) ?_
 .exact(C210 p lv l B (kE #[59]) G _ E (λw' hc=>J w' (I w' hc).aG) V M).mono λ_ _ r=>r.mono λ_ _ h=>⟨trivial,h.2⟩
 rintro _ _ _ u;have u:=u.p1.p1;rw[e2];exact(St.join u).mut
def C134(p:Nat)(lv:Value)(l:List bT)(s:fR)(nm:ByteArray)(a:Int)(s2:fR)(x:cO)(F:Nat->Prop)(w:World)(hF:(bY p (eC lv s)).p w F)(Z:∀w',gz F w w'->dA (λ_=>True) w' lv l)(G:jl l)(V:lJ l s)(hr:tY l s nm a=some (s2,x)):CR 134 [(.pointer (some ⟨p,0,none⟩)),j0 (⟨nm,bW,bW,a⟩:cH)] w (λv w'=>mU F (pM λsh:cH=>fact (v=j0 sh) (sep (bY p (eC lv s2)) (eF λw=>ml w sh x))) w w'):=by
 have u:=St.begin hF;obtain⟨q,rs,Dm,BP,Gq⟩:=QM hr;have Y:=ND (fI V) Dm;obtain⟨hqi0,hqi1⟩:=id Y;have DP:=G.n;have hn:l.length<=1000000:=bO
 have sJ:=G.at_;obtain⟨Td,Te⟩:=id V;refine oL Tryz.func134 (pl:=auF) ?_;refine cG (x:=(⟨nm,bW,bW,a⟩:cH)) u (λE _ u=>aM u tJ λPb _ u=>have u:=u.enc (cs':=kp (⟨(kE #[]),bW,bW,0⟩:cH)) rfl;aE (aA fy (aB bL u.p2.hb rfl (bF Wh u.p2 (H':=λ_=>bY p (eC lv (dV l s (kE #[123])))) (Φ:=λ_ _=>True) (λJ I M=>?_) ?_))))
 .exact(C210 p lv l s (kE #[123]) J _ I (λw' hc=>Z w' (M w' hc).aG) G V).mono λ_ _ r=>r.mono λ_ _ h=>⟨trivial,h.2⟩
 rintro _ _ _ u;refine⟨λw'=>∃B:SV,St w F [bH (j0 B) rs,bY E (kp (⟨nm,B,bW,a⟩:cH)),bY Pb (kp (⟨(kE #[]),bW,bW,0⟩:cH)),bY p (eC lv q)] w',?_,?_⟩
 .refine bF yO u (H':=λ_=>bY p (eC lv (iG l (dV l s (kE #[123])) (kE #[114,101,103])).1)) (Φ:=λv _=>v=.bool (iG l (dV l s (kE #[123])) (kE #[114,101,103])).2) (λJ I M=>?_) ?_
  .exact C131 p lv l (dV l s (kE #[123])) (kE #[114,101,103]) J _ I (λw' hc=>Z w' (M w' hc).aG) G (fI V)
  rintro _ _ rfl u;refine aY (λft=>?_) (λft=>?_)
  .obtain⟨ys,O,hrs⟩:=Ik Dm ft;have hyl:ys.length<=1000000:=by obtain⟨_,_,_,h⟩:=yz O;exact h
   refine bF Rt u (H':=λv=>sep (bY p (eC lv q)) (bH v ys)) (Φ:=λ_ _=>True) (λJ I M=>?_) ?_
   .exact(C132 p lv l (iG l (dV l s (kE #[123])) (kE #[114,101,103])).1 false q ys J _ I (λw' hc=>Z w' (M w' hc).aG) G (kD (fI V)) O).mono λ_ _ r=>r.mono λ_ _ h=>⟨trivial,h⟩
   rintro x21 _ _ u;have u:=(((((u.split.eM (α:=ByteArray)).p1).p3).p3).p4).p4;refine⟨λmm i w'=>∃(j:Nat) (B:SV),i=hZ (j:Int)/\mm=ys.length-j/\j<=ys.length/\St w F [bH (j0 B) ((ys.take j).map cK.name),bY E (kp (⟨nm,B,bW,a⟩:cH)),bH x21 ys,bY Pb (kp (⟨(kE #[]),bW,bW,0⟩:cH)),bY p (eC lv q)] w',⟨_,0,bW,rfl,rfl,l6 _,u⟩,?_⟩;rintro mm _ _ ⟨j,B,rfl,rfl,hj,u⟩ _;refine aK iu u.p2.dS (aR (aC (λjG=>?_) λjG=>?_))
   .refine aA fT (have u:=u.drew;aB (v:=j0 (B:SV)) jj u.p1.hb rfl ?_);obtain⟨W,Z4⟩:=gx ys (i:=(j:Int).toNat) bO;refine dR u.p2 iu bO bO (λ_ xw=>mD kS xw λ_ rq=>nK (W).name u.p2 gA rq Z4 rfl (bD ([(W).name]) u iD rfl rfl (dL rfl) λapl _ u=>?_));refine⟨aF jj (u.p2.hb.cell rfl),?_⟩;have akB:=u.dS;refine bJ u.p1 iD akB (by simp;omega) dD (λapm _ u=>have u:=u.p1.drop;aA fT ?_);obtain⟨Z5,rfl⟩:=u.fK;exact aT u.p1 jj (dL rfl) (rfl) (λ_ u=>have u:=u.enc (cs':=kp (⟨nm,Z5,bW,a⟩:cH)) rfl;aO bO (have u:=u.p4.p4.p4.p3.p4;⟨_,bO,j+1,Z5,rfl,rfl,bO,by rw[<- GP (k:=j) Z4];exact u⟩))
   have u:=u.p2.drop.p3.p3.p3.p3;rw[ld bO]at u;rw[hrs];exact⟨B,u⟩
  have u:=((((u.eM (α:=ByteArray)).p1).p2).p3).p3;obtain⟨e1,e3⟩:=NF Dm ft;rw[xQ ft]at u;rw[e1,e3];exact⟨bW,u⟩
 rintro _ ⟨B,u⟩ _;refine⟨λw'=>∃(B U:SV) (body:List bQ),x=⟨nm,rs,body,a⟩/\St w F [bH (j0 B) rs,eF (λw=>DL w (j0 U) body),bY E (kp (⟨nm,B,U,a⟩:cH)),bY Pb (kp (⟨(kE #[]),bW,bW,0⟩:cH)),bY p (eC lv s2)] w',aE (aA mA (aB jP u.p3.hb rfl (aH (aC (λqI=>?_) λqI=>?_)))),?_⟩
 .obtain⟨R,hR,hR0,hR1,e2,hx⟩:=Gq bO;have MS:(dV l s C1).e=0:=uh.1 λhh=>QO hh Dm bO;have ko:=sZ (aeF MS);refine aE (aA kc (have u:=u.drew;aB jr u.p3.hb rfl (aE (aA fy (aB bL u.p3.hb rfl (dM am1 (C212 l _ q.at_ s.at_ R _ (Z _ u.aG) G Y ko hR) ?_))))));rintro _ _ ⟨Z6,rfl,cJ⟩;have u:=u.made cJ;refine aN rfl (aN rfl (aN rfl (aN rfl (aA lL (aT u.p2 jR (dL rfl) (rfl) λ_ u=>have u:=u.enc (cs':=kp (⟨nm,B,Z6,a⟩:cH)) rfl;aE (aA fy (aT u.p4 bL (dL rfl) (rfl) λ_ u=>aE (aA mA (aT u jP (dL rfl) (rfl) λ_ u=>aE ?_)))))))))
  refine aA wX (aT u bL (dL rfl) (rfl) λ_ u=>?_);have u:=u.p4.p2.p3.p4;rw[e2];exact⟨B,Z6,R.1,hx,u⟩
 .have u:=u.fr (Φ:=λw=>DL w (j0 (bW:SV)) ([]:List bQ)) λw=>DL.nil w;have u:=u.p4.p4.p4.p3.p4;obtain⟨e2,hx⟩:=BP qI;rw[e2];exact⟨B,bW,[],hx,u⟩
 rintro _ ⟨B,U,body,rfl,u⟩ _;exact aD nc u.p2.At (aJ (x:=(⟨nm,B,U,a⟩:cH)) u.p3 nc rfl rfl λ_ u=>aD nc u.At (have u:=u.p1.freeze.p2.p1.hG.dN (Ψ:=(λw=>ml w (⟨nm,B,U,a⟩:cH) (⟨nm,rs,body,a⟩:cO))) (λ_ h=>⟨_,_,rfl,DL.j4 h.1,id h.2⟩);have u:=u.p1.drop.p1.drop.p1;(xO u).mut))
def C135(p:Nat)(lv:Value)(l:List bT)(s:fR)(a:Int)(O:fR)(x:gS)(F:Nat->Prop)(w:World)(hF:(bY p (eC lv s)).p w F)(M:∀w',gz F w w'->dA (λ_=>True) w' lv l)(B:jl l)(Z:lJ l s)(hr:xP l s a=some (O,x)):CR 135 [(.pointer (some ⟨p,0,none⟩)),hZ a] w (λv w'=>mU F (pM λI:jC=>fact (v=j0 I) (sep (bY p (eC lv O)) (eF λw=>ml w I x))) w w'):=by
 have u:=St.begin hF;obtain⟨R,E,V,Gq⟩:=U1 hr;have DP:=B.n;have hn:l.length<=1000000:=bO
 have sJ:=B.at_;obtain⟨Td,Te⟩:=id Z;refine oL Tryz.func135 (pl:=auG) ?_;refine aM u OU (λPb _ u=>have u:=u.enc (cs':=kp (⟨bW,0⟩:jC)) rfl;aE (aA kc (have u:=u.drew;aB jr u.p1.hb rfl (aE (aA fy (aB bL u.p1.hb rfl (dM afK (C213 l _ s.at_ R _ (M _ u.aG) B bO E) ?_)))))));rintro _ _ ⟨J,rfl,cJ⟩;have u:=u.made cJ;refine aN rfl (aN rfl (aN rfl (aN rfl (bX (aC (λG=>?_) λG=>?_)))))
 .obtain⟨rfl,rfl⟩:=V G;exact aE (aA mA (aT u.p2 jP (dL rfl) (rfl) λ_ u=>aE (aA wX (aT u bL (dL rfl) (rfl) λ_ u=>pop (v:=j0 (⟨bW,0⟩:jC)) (by kernel_rfl) (aJ (x:=(⟨bW,0⟩:jC)) u.p2 I2 rfl rfl λ_ u=>aD I2 u.At (have u:=u.fr (Φ:=(λw=>ml w (⟨bW,0⟩:jC) (⟨[],0⟩:gS))) (λ_=>⟨_,rfl,DL.nil _⟩);have u:=u.p1.drop.p2.drop.p1;(xO u).mut))))))
 obtain⟨Dm,rfl,rfl⟩:=Gq G;refine aE (aA fy (aT u.p2 bL (dL rfl) (rfl) λ_ u=>have u:=u.enc (cs':=eC lv ({s with at_:=R.2.1}:fR)) rfl;bF Wh u (H':=λ_=>bY p (eC lv (dV l ({s with at_:=R.2.1}:fR) (kE #[59])))) (Φ:=λ_ _=>True) (λY U W=>?_) ?_))
 .exact(C210 p lv l ({s with at_:=R.2.1}:fR) (kE #[59]) Y _ U (λw' hc=>M w' (W w' hc).aG) B (show lJ l ({s with at_:=R.2.1}:fR)from Dm)).mono λ_ _ r=>r.mono λ_ _ h=>⟨trivial,h.2⟩
 rintro _ _ _ u;exact pop (Hk _ _ _ _) (aJ (x:=(⟨J,a⟩:jC)) u.p2 I2 rfl rfl λ_ u=>aD I2 u.At (have u:=u.p2.dN (Ψ:=(λw=>ml w (⟨J,a⟩:jC) (⟨R.1,a⟩:gS))) (λ_ h=>⟨_,rfl,id h⟩);have u:=u.p1.drop.p1;(xO u).mut))
def C65(s:ByteArray)(R:cB×Int×Int)(w:World)(T0:s.size<=1000000)(hr:vN s=some R)(hTk:∀l e a,wk s=some (l,e,a)->jl l):CR 65 [.string s] w (λv w'=>∃pv:bP,v=.tuple #[j0 pv,hZ R.2.1,hZ R.2.2]/\kV (eF λw=>ml w pv R.1) w w'):=by
 obtain⟨l,e,a,hsc⟩:=QP hr;have W:=hTk l e a hsc;have DP:=W.n;have hn:l.length<=1000000:=bO
 have sJ:=W.at_;have u:=St.start w;refine oL Tryz.func65 (pl:=P65) ?_;refine aM u vr (λwC _ u=>have u:=u.enc (cs':=kp (⟨bW,bW,bW,bW,bW,bW⟩:bP)) rfl;dM amP (C130 s (l,e,a) _ T0 hsc) ?_);rintro _ _ ⟨lv,rfl,cJ⟩;have u:=u.made cJ;refine aN rfl (aN rfl (aN rfl (bX (aC (λlS=>?_) λlS=>?_))))
 .refine pop (v:=j0 (⟨bW,bW,bW,bW,bW,bW⟩:bP)) (by kernel_rfl) (aJ (x:=(⟨bW,bW,bW,bW,bW,bW⟩:bP)) u.p1 eg rfl rfl λ_ u=>aD eg u.At ?_);have u:=u.fr (Φ:=(λw=>ml w (⟨bW,bW,bW,bW,bW,bW⟩:bP) (⟨[],[],[],[],[],[]⟩:cB))) (λ_=>⟨_,_,_,_,_,_,rfl,DL.nil _,DL.nil _,DL.nil _,DL.nil _,DL.nil _,DL.nil _⟩);have u:=u.p1.drop.p1.drop;rw[U4 hr hsc lS];exact⟨_,rfl,u.fresh⟩
 obtain⟨t1,t2,t3,t4,t5,t6,y1,y2,y3,y4,y5,y6,Z⟩:=Z2 hr hsc lS;obtain⟨lsv,hlv⟩:=u.fK;rw[hlv];refine pop (WJ _ _ _) (nB u λR0 _ u=>pop (v:=j0 (⟨bW,bW,bW,bW,bW,bW⟩:bP)) (by kernel_rfl) (aM u vr λQQ _ u=>have u:=u.enc (cs':=kp (⟨bW,bW,bW,bW,bW,bW⟩:bP)) rfl;aJ (x:=(⟨bW,bW,bW,bW,bW,bW⟩:bP)) u eg rfl rfl λ_ u=>?_));obtain⟨p,rfl⟩:∃p,p=R0:=⟨_,rfl⟩;have u:=u.p1.enc (cs':=eC (j0 lsv) (uy 0)) rfl;rw[<- hlv]at u |-;have ayt:lJ l (uy 0):=⟨Oj _,by show(0:Int)<=_;omega⟩;have u:=(((((u.Jd (α:=(List cK))).p4).p4).p3).p4).p4
 refine⟨λmm w'=>∃(s0:fR) (J:SV) (xs0 a0:List (List cK)),lJ l s0/\ni l ZX (nw l true) mm s0=some (t1,a0)/\y1=xs0++a0/\St w aZ [fV (j0 J) xs0,bY QQ (kp (⟨J,bW,bW,bW,bW,bW⟩:bP)),bY p (eC lv s0),bH lv l,bY wC (kp (⟨bW,bW,bW,bW,bW,bW⟩:bP))] w',⟨10000,uy 0,bW,[],y1,ayt,Z.h1,rfl,u⟩,?_⟩;rintro mm _ ⟨s0,J,xs0,a0,hi0,MS,hy0,u⟩ _;obtain⟨m0,rfl⟩:=td MS;refine bF yO u.p2 (H':=λ_=>bY p (eC lv (iG l s0 (kE #[108,105,110,101])).1)) (Φ:=λv _=>v=.bool (iG l s0 (kE #[108,105,110,101])).2) (λE B G=>?_) ?_
 .exact C131 p lv l s0 (kE #[108,105,110,101]) E _ B (λw' hc=>(G w' hc).p2.dS) W hi0
 rintro _ _ rfl u;refine aY (λlx=>?_) (λlx=>?_)
 .obtain⟨q0,z0,b0,zh,VG,rfl⟩:=xR MS lx;refine aA gB (have u:=u.drew;aB (v:=j0 (J:SV)) oS u.p2.hb rfl (bF Rt u (H':=λv=>sep (bY p (eC lv q0)) (bH v z0)) (Φ:=λ_ _=>True) (λE B G=>?_) ?_))
  .exact(C132 p lv l (iG l s0 (kE #[108,105,110,101])).1 true q0 z0 E _ B (λw' hc=>(G w' hc).p2.dS) W (kD hi0) zh).mono λ_ _ r=>r.mono λ_ _ h=>⟨trivial,h⟩
  rintro x31 _ _ u;have u:=u.split;refine⟨aF oS (u.p3.hb.cell rfl),?_⟩;obtain⟨Z8,rfl⟩:=u.p1.fK;have u:=u.p1.freeze.dN (Ψ:=λw=>ml w Z8 z0) (λ_ h=>DL.j4 h);refine gj (s:=Z8) (x:=z0) u pL dD (λaqJ _ u=>?_);refine⟨aF oS (u.p3.hb.cell rfl),?_⟩;have u:=u.p2;refine gk u pL (by have h1:=gQ List.length hy0;have h2:=Z.b1;simp at h1 |-;omega) dD (λs_x33 _ u=>aA gB ?_);obtain⟨Z9,rfl⟩:=u.o7;exact aT u.p2 oS (dL rfl) (rfl) (λ_ u=>have u:=((((u.enc (cs':=kp (⟨Z9,bW,bW,bW,bW,bW⟩:bP)) rfl).p4).p4).p4).p3;have u:=u.p4;⟨_,bO,q0,Z9,xs0++[z0],b0,yA (kD hi0) zh,VG,by rw[hy0,n5];rfl,u⟩)
 obtain⟨U,rfl⟩:=vf MS lx;replace U:=U.symm;subst U;rw[pd]at hy0;subst hy0;rw[xQ lx]at u;have u:=((((((u.eM (α:=cK)).p5).p5).p3).p5).p5).p5;refine⟨λmm w'=>∃(s1:fR) (M:SV) (xs1 a1:List (List cK)),lJ l s1/\ni l akv (nw l true) mm s1=some (t2,a1)/\y2=xs1++a1/\St w aZ [bH (j0 M) xs1.flatten,fV (j0 J) y1,bY QQ (kp (⟨J,M,bW,bW,bW,bW⟩:bP)),bY p (eC lv s1),bH lv l,bY wC (kp (⟨bW,bW,bW,bW,bW,bW⟩:bP))] w',⟨10000,s0,bW,[],y2,hi0,Z.h2,rfl,u⟩,?_⟩;rintro mm _ ⟨s1,M,xs1,a1,hi1,hm1,hy1,u⟩ _;obtain⟨m1,rfl⟩:=td hm1
 refine bF yO u.p3 (H':=λ_=>bY p (eC lv (iG l s1 (kE #[118,111,108])).1)) (Φ:=λv _=>v=.bool (iG l s1 (kE #[118,111,108])).2) (λE B G=>?_) ?_
 .exact C131 p lv l s1 (kE #[118,111,108]) E _ B (λw' hc=>(G w' hc).p3.dS) W hi1
 rintro _ _ rfl u;refine aY (λCP=>?_) (λCP=>?_)
 .obtain⟨q1,z1,b1,V7,Xe,rfl⟩:=xR hm1 CP;refine aA qi (have u:=u.drew;aB (v:=j0 (M:SV)) jO u.p3.hb rfl (bF Rt u (H':=λv=>sep (bY p (eC lv q1)) (bH v z1)) (Φ:=λ_ _=>True) (λE B G=>?_) ?_))
  .exact(C132 p lv l (iG l s1 (kE #[118,111,108])).1 true q1 z1 E _ B (λw' hc=>(G w' hc).p3.dS) W (kD hi1) V7).mono λ_ _ r=>r.mono λ_ _ h=>⟨trivial,h⟩
  rintro x40 _ _ u;have u:=u.split;refine⟨aF jO (u.p4.hb.cell rfl),?_⟩;have akC:=u.p1.dS;refine bJ u.p2 iu akC (by have:=Ts hy1;have:=Z.b2;omega) dD (λarF _ u=>have u:=u.p2.drop;aA qi ?_);obtain⟨Jw,rfl⟩:=u.fK;refine aT u.p3 jO (dL rfl) (rfl) (λ_ u=>?_);have u:=((((u.enc (cs':=kp (⟨J,Jw,bW,bW,bW,bW⟩:bP)) rfl).p5).p5).p4).p3;have u:=u.p5.p5;rw[<- Bx]at u;exact⟨_,bO,q1,Jw,xs1++[z1],b1,yA (kD hi1) V7,Xe,by rw[hy1,n5];rfl,u⟩
 obtain⟨U,rfl⟩:=vf hm1 CP;replace U:=U.symm;subst U;rw[pd]at hy1;subst hy1;rw[xQ CP]at u;have u:=(((((((u.eM (α:=cK)).p6).p6).p3).p6).p5).p6).p6;refine⟨λmm w'=>∃(s2:fR) (V:SV) (xs2 a2:List (List cK)),lJ l s2/\ni l ZY (nw l false) mm s2=some (t3,a2)/\y3=xs2++a2/\St w aZ [bH (j0 V) xs2.flatten,fV (j0 J) y1,bH (j0 M) y2.flatten,bY QQ (kp (⟨J,M,V,bW,bW,bW⟩:bP)),bY p (eC lv s2),bH lv l,bY wC (kp (⟨bW,bW,bW,bW,bW,bW⟩:bP))] w',⟨10000,s1,bW,[],y3,hi1,Z.h3,rfl,u⟩,?_⟩;rintro mm _ ⟨s2,V,xs2,a2,VI,hm2,hy2,u⟩ _
 obtain⟨m2,rfl⟩:=td hm2;refine bF yO u.p4 (H':=λ_=>bY p (eC lv (iG l s2 (kE #[108,111,99,107])).1)) (Φ:=λv _=>v=.bool (iG l s2 (kE #[108,111,99,107])).2) (λE B G=>?_) ?_
 .exact C131 p lv l s2 (kE #[108,111,99,107]) E _ B (λw' hc=>(G w' hc).p4.dS) W VI
 rintro _ _ rfl u;refine aY (λA5=>?_) (λA5=>?_)
 .obtain⟨q2,z2,b2,Tt,hn2,rfl⟩:=xR hm2 A5;refine aA nT (have u:=u.drew;aB (v:=j0 (V:SV)) jO u.p4.hb rfl (bF Rt u (H':=λv=>sep (bY p (eC lv q2)) (bH v z2)) (Φ:=λ_ _=>True) (λE B G=>?_) ?_))
  .exact(C132 p lv l (iG l s2 (kE #[108,111,99,107])).1 false q2 z2 E _ B (λw' hc=>(G w' hc).p4.dS) W (kD VI) Tt).mono λ_ _ r=>r.mono λ_ _ h=>⟨trivial,h⟩
  rintro x48 _ _ u;have u:=u.split;refine⟨aF jO (u.p5.hb.cell rfl),?_⟩;have QR:=u.p1.dS;refine bJ u.p2 iu QR (by have:=Ts hy2;have:=Z.b3;omega) dD (λs_x49 _ u=>have u:=u.p2.drop;aA nT ?_);obtain⟨aaa,rfl⟩:=u.fK;refine aT u.p4 jO (dL rfl) (rfl) (λ_ u=>?_);have u:=((((u.enc (cs':=kp (⟨J,M,aaa,bW,bW,bW⟩:bP)) rfl).p6).p6).p4).p3;have u:=u.p6.p6.p6;rw[<- Bx]at u;exact⟨_,bO,q2,aaa,xs2++[z2],b2,yA (kD VI) Tt,hn2,by rw[hy2,n5];rfl,u⟩
 obtain⟨U,rfl⟩:=vf hm2 A5;replace U:=U.symm;subst U;rw[pd]at hy2;subst hy2;rw[xQ A5]at u;have u:=((((((((u.Jd (α:=cO)).p7).p7).p3).p7).p5).p7).p7).p7;refine⟨λmm w'=>∃(I:fR) (v3:SV) (xs3 a3:List cO),lJ l I/\ni l J5 (akw l) mm I=some (t4,a3)/\y4=xs3++a3/\St w aZ [fV (j0 v3) xs3,fV (j0 J) y1,bH (j0 M) y2.flatten,bH (j0 V) y3.flatten,bY QQ (kp (⟨J,M,V,v3,bW,bW⟩:bP)),bY p (eC lv I),bH lv l,bY wC (kp (⟨bW,bW,bW,bW,bW,bW⟩:bP))] w',⟨10000,s2,bW,[],y4,VI,Z.h4,rfl,u⟩,?_⟩;rintro mm _ ⟨I,v3,xs3,a3,Y,hm3,hy3,u⟩ _
 obtain⟨m3,rfl⟩:=td hm3;refine bF yO u.p5 (H':=λ_=>bY p (eC lv (iG l I (kE #[116,104,114,101,97,100])).1)) (Φ:=λv _=>v=.bool (iG l I (kE #[116,104,114,101,97,100])).2) (λE B G=>?_) ?_
 .exact C131 p lv l I (kE #[116,104,114,101,97,100]) E _ B (λw' hc=>(G w' hc).p5.dS) W Y
 rintro _ _ rfl u;refine aY (λuZ=>?_) (λuZ=>?_)
 .obtain⟨q3,z3,b3,hd3,hn3,rfl⟩:=xR hm3 uZ;refine bF afB u (H':=λ_=>bY p (eC lv (fc l (iG l I (kE #[116,104,114,101,97,100])).1).1)) (Φ:=λv _=>v=j0 (fc l (iG l I (kE #[116,104,114,101,97,100])).1).2) (λE B G=>?_) ?_
  .exact C133 p lv l (iG l I (kE #[116,104,114,101,97,100])).1 E _ B (λw' hc=>(G w' hc).p5.dS) W (kD Y)
  rintro _ _ rfl u;refine aM u oX (λb_c10 _ u=>aJ (x:=(fc l (iG l I (kE #[116,104,114,101,97,100])).1).2) u mf rfl rfl λ_ u=>aA kI (have u:=u.drew;aB (v:=j0 (v3:SV)) iC u.p6.hb rfl (aA kS (aB (v:=.string (((fc l (iG l I (kE #[116,104,114,101,97,100])).1).2).name)) gA u.hb rfl (aA uL (aB (v:=hZ (((fc l (iG l I (kE #[116,104,114,101,97,100])).1).2).at_)) bL u.hb rfl (pop (OW _ _) (bF afC u.p1 (H':=λv=>pM λsh:cH=>fact (v=j0 sh) (sep (bY p (eC lv q3)) (eF λw=>ml w sh z3))) (Φ:=λ_ _=>True) (λE B G=>?_) ?_))))))))
  .exact(C134 p lv l (fc l (iG l I (kE #[116,104,114,101,97,100])).1).1 ((fc l (iG l I (kE #[116,104,114,101,97,100])).1).2).name ((fc l (iG l I (kE #[116,104,114,101,97,100])).1).2).at_ q3 z3 E _ B (λw' hc=>(G w' hc).p6.dS) W (ve (kD Y)) hd3).mono λ_ _ r=>r.mono λ_ _ h=>⟨trivial,h⟩
  rintro v_x63 _ _ xC;obtain⟨akE,zo⟩:=xC.eo
  clear xC
  obtain⟨akF,D2⟩:=zo.mC
  clear zo
  subst akF;have u:=D2.split
  clear D2
  refine⟨aF iC (u.p7.hb.cell rfl),?_⟩;have u:=u.p1;refine gj (s:=akE) (x:=z3) u fx dD (λarG _ u=>?_);refine⟨aF iC (u.p7.hb.cell rfl),?_⟩;have u:=u.p3;refine gk u fx (by have h1:=gQ List.length hy3;have h2:=Z.b4;simp at h1 |-;omega) dD (λarH _ u=>aA kI ?_);obtain⟨aab,rfl⟩:=u.o7;exact aT u.p6 iC (dL rfl) (rfl) (λ_ u=>have u:=((((u.enc (cs':=kp (⟨J,M,V,aab,bW,bW⟩:bP)) rfl).p3).drop).p7).p7;have u:=u.p4.p3.p7.p7.p7.p7;⟨_,bO,q3,aab,xs3++[z3],b3,F5 (ve (kD Y)) hd3,hn3,by rw[hy3,n5];rfl,u⟩)
 obtain⟨U,rfl⟩:=vf hm3 uZ;replace U:=U.symm;subst U;rw[pd]at hy3;subst hy3;rw[xQ uZ]at u;refine⟨λw'=>∃v4:SV,St w aZ [fV (j0 v4) y5,fV (j0 J) y1,bH (j0 M) y2.flatten,bH (j0 V) y3.flatten,fV (j0 v3) y4,bY QQ (kp (⟨J,M,V,v3,v4,bW⟩:bP)),bY p (eC lv t5),bH lv l,bY wC (kp (⟨bW,bW,bW,bW,bW,bW⟩:bP))] w',?_,?_⟩
 .refine bF yO u (H':=λ_=>bY p (eC lv (iG l I (kE #[114,101,99,111,118,101,114])).1)) (Φ:=λv _=>v=.bool (iG l I (kE #[114,101,99,111,118,101,114])).2) (λE B G=>?_) ?_
  .exact C131 p lv l I (kE #[114,101,99,111,118,101,114]) E _ B (λw' hc=>(G w' hc).p5.dS) W Y
  rintro _ _ rfl u;refine aY (λNJ=>?_) (λNJ=>?_)
  .obtain⟨z4,hd4,hy5⟩:=NI Z.h5 NJ;obtain⟨ayx,_,hlo68,hhi68⟩:=ZZ NJ;have hat68:(iG l I (kE #[114,101,99,111,118,101,114])).1.at_=I.at_+1:=by rw[ayx]
   refine aA oT (have u:=u.drew;aB (v:=j0 (bW:SV)) iC u.p5.hb rfl (aE (aA fy (aB bL u.hb rfl (fh bO ?_)))));obtain⟨aac,aad⟩:=gx l (i:=(((iG l I (kE #[114,101,99,111,118,101,114])).1).at_-1).toNat) bO;refine dR u.p6 fM bO bO (λ_ Nv=>mD lP Nv λ_ arI=>nK aac.at_ u.p6 bL arI aad rfl (pop (WG _) ?_));have hbk:z9 l (iG l I (kE #[114,101,99,111,118,101,114])).1=aac.at_:=gQ bT.at_ (Bw bO aad);rw[hbk]at hd4;refine bF afC u (H':=λv=>pM λsh:cH=>fact (v=j0 sh) (sep (bY p (eC lv t5)) (eF λw=>ml w sh z4))) (Φ:=λ_ _=>True) (λE B G=>?_) ?_
   .exact(C134 p lv l (iG l I (kE #[114,101,99,111,118,101,114])).1 (kE #[]) aac.at_ t5 z4 E _ B (λw' hc=>(G w' hc).p5.dS) W (kD Y) hd4).mono λ_ _ r=>r.mono λ_ _ h=>⟨trivial,h⟩
   rintro v_x82 _ _ xC;obtain⟨akG,zo⟩:=xC.eo
   clear xC
   obtain⟨akH,D2⟩:=zo.mC
   clear zo
   subst akH;have u:=D2.split
   clear D2
   refine⟨aF iC (u.p6.hb.cell rfl),?_⟩;have u:=u.p1;refine gj (s:=akG) (x:=z4) u fx dD (λagO _ u=>?_);refine⟨aF iC (u.p6.hb.cell rfl),?_⟩;have u:=((u.Jd (α:=cO)).p1).p1;refine gk u fx ee dD (λapY _ u=>aA oT ?_);obtain⟨aae,rfl⟩:=u.o7;refine aT u.p6 iC (dL rfl) (rfl) (λ_ u=>?_);have u:=(((((u.enc (cs':=kp (⟨J,M,V,v3,aae,bW⟩:bP)) rfl).p8).p8).p4).p3).p5;have u:=u.p8.p8.p8.p8;rw[hy5];exact⟨aae,u⟩
  rw[xQ NJ]at u;have u:=(((((((((u.Jd (α:=cO)).p8).p8).p3).p8).p5).p8).p8).p8).p8;obtain⟨e5,e6⟩:=Tr Z.h5 NJ;rw[e5,e6];exact⟨bW,u⟩
 rintro _ ⟨v4,u⟩ _;have u:=((((((((((u.Jd (α:=gS)).p9).p9).p9).p9).p5).p9).p9).p9).p9).p9;refine⟨λmm w'=>∃(O:fR) (v5:SV) (xs5 a5:List gS),lJ l O/\ni l J6 (λs=>xP l s (z9 l s)) mm O=some (t6,a5)/\y6=xs5++a5/\St w aZ [fV (j0 v5) xs5,fV (j0 J) y1,bH (j0 M) y2.flatten,bH (j0 V) y3.flatten,fV (j0 v3) y4,fV (j0 v4) y5,bY QQ (kp (⟨J,M,V,v3,v4,v5⟩:bP)),bY p (eC lv O),bH lv l,bY wC (kp (⟨bW,bW,bW,bW,bW,bW⟩:bP))] w',⟨10000,t5,bW,[],y6,(aeG Y Z.h5),Z.h6,rfl,u⟩,?_⟩;rintro mm _ ⟨O,v5,xs5,a5,hi5,hm5,hy5,u⟩ _
 obtain⟨m5,rfl⟩:=td hm5;refine bF yO u.p7 (H':=λ_=>bY p (eC lv (iG l O (kE #[97,108,119,97,121,115])).1)) (Φ:=λv _=>v=.bool (iG l O (kE #[97,108,119,97,121,115])).2) (λE B G=>?_) ?_
 .exact C131 p lv l O (kE #[97,108,119,97,121,115]) E _ B (λw' hc=>(G w' hc).p7.dS) W hi5
 rintro _ _ rfl u;refine aY (λNK=>?_) (λNK=>?_)
 .obtain⟨q5,z5,b5,hd5,DP,rfl⟩:=xR hm5 NK;obtain⟨ayA,_,hlo87,hhi87⟩:=ZZ NK;have hat87:(iG l O (kE #[97,108,119,97,121,115])).1.at_=O.at_+1:=by rw[ayA]
  refine aA jx (have u:=u.drew;aB (v:=j0 (v5:SV)) qX u.p7.hb rfl (aE (aA fy (aB bL u.hb rfl (fh bO ?_)))));obtain⟨aaf,aag⟩:=gx l (i:=(((iG l O (kE #[97,108,119,97,121,115])).1).at_-1).toNat) bO;refine dR u.p8 fM bO bO (λ_ arK=>mD lP arK λ_ arL=>nK aaf.at_ u.p8 bL arL aag rfl ?_);have hbk:z9 l (iG l O (kE #[97,108,119,97,121,115])).1=aaf.at_:=gQ bT.at_ (Bw bO aag);rw[hbk]at hd5;refine bF amQ u (H':=λv=>pM λsh:jC=>fact (v=j0 sh) (sep (bY p (eC lv q5)) (eF λw=>ml w sh z5))) (Φ:=λ_ _=>True) (λE B G=>?_) ?_
  .exact(C135 p lv l (iG l O (kE #[97,108,119,97,121,115])).1 aaf.at_ q5 z5 E _ B (λw' hc=>(G w' hc).p7.dS) W (kD hi5) hd5).mono λ_ _ r=>r.mono λ_ _ h=>⟨trivial,h⟩
  rintro ayB _ _ xC;obtain⟨aeH,zo⟩:=xC.eo
  clear xC
  obtain⟨aeI,D2⟩:=zo.mC
  clear zo
  subst aeI;have u:=D2.split
  clear D2
  refine⟨aF qX (u.p8.hb.cell rfl),?_⟩;have u:=u.p1;refine gj (s:=aeH) (x:=z5) u tn dD (λajQ _ u=>?_);refine⟨aF qX (u.p8.hb.cell rfl),?_⟩;have u:=u.p2;refine gk u tn (by have h1:=gQ List.length hy5;have h2:=Z.b6;simp at h1 |-;omega) dD (λajR _ u=>aA jx ?_);obtain⟨Tu,rfl⟩:=u.o7;exact aT u.p7 qX (dL rfl) (rfl) (λ_ u=>have u:=(((((u.enc (cs':=kp (⟨J,M,V,v3,v4,Tu⟩:bP)) rfl).p9).p9).p4).p3).p9;have u:=u.p9.p9.p9.p9.p9;⟨_,bO,q5,Tu,xs5++[z5],b5,UX (kD hi5) hd5,DP,by rw[hy5,n5];rfl,u⟩)
 obtain⟨U,rfl⟩:=vf hm5 NK;replace U:=U.symm;subst U;rw[pd]at hy5;subst hy5;rw[xQ NK]at u;obtain⟨hi50,hi51⟩:=id hi5;refine⟨λw'=>St w aZ [fV (j0 v5) y6,fV (j0 J) y1,bH (j0 M) y2.flatten,bH (j0 V) y3.flatten,fV (j0 v3) y4,fV (j0 v4) y5,bY QQ (kp (⟨J,M,V,v3,v4,v5⟩:bP)),bY p (eC lv (GO l O)),bH lv l,bY wC (kp (⟨bW,bW,bW,bW,bW,bW⟩:bP))] w',aE (aA fy (aB bL u.hb rfl (aK fM u.p8.dS (aR (aC (λQS=>?_) λQS=>?_))))),?_⟩
 .refine bF Ru u (H':=λ_=>bY p (eC lv (jD l O 5))) (Φ:=λ_ _=>True) (λE B G=>?_) ?_
  .exact(C136 p lv l O E _ B (λw' hc=>(G w' hc).p7.dS) W hi5).mono λ_ _ r=>r.mono λ_ _ h=>⟨trivial,h.2⟩
  rintro _ _ _ u;have u:=u.p9.p9.p2.p9.p9.p9.p9.p9.p9.p9;have he6:GO l O=jD l O 5:=ej QS;rw[he6];exact u
 .have u:=u.p9.p9.p2.p9.p9.p9.p9.p9.p9.p9;have he6:GO l O=O:=ei QS;rw[he6];exact u
 intro _ u _;refine aE (aA mA (aB jP u.p7.hb rfl (bX (aC (λQT=>?_) λQT=>?_))))
 .refine pop (v:=j0 (⟨bW,bW,bW,bW,bW,bW⟩:bP)) (by kernel_rfl) (aE (aA mA (have u:=u.drew;aB jP u.p7.hb rfl (aE (aA wX (aB bL u.p7.hb rfl (aJ (x:=(⟨bW,bW,bW,bW,bW,bW⟩:bP)) u.p9 eg rfl rfl λ_ u=>?_)))))));refine⟨aF jP (u.p8.hb.cell rfl),?_⟩;refine⟨aF bL (u.p8.hb.cell rfl),?_⟩;refine aD eg u.At ?_;have u:=u.fr (Φ:=(λw=>ml w (⟨bW,bW,bW,bW,bW,bW⟩:bP) (⟨[],[],[],[],[],[]⟩:cB))) (λ_=>⟨_,_,_,_,_,_,rfl,DL.nil _,DL.nil _,DL.nil _,DL.nil _,DL.nil _,DL.nil _⟩);have u:=u.p1.drop.p1.drop.p1.drop.p1.drop.p1.drop.p1.drop.p1.drop.p1.drop.p1.drop
  have u:=u.p1.drop;rw[Z.bad QT];exact⟨_,rfl,u.fresh⟩
 refine aD eg u.p6.At (aJ (x:=(⟨J,M,V,v3,v4,v5⟩:bP)) u.p9 eg rfl rfl λ_ u=>aD eg u.At ?_);have u:=u.p2.m4.p3.freeze.p1.hG.p3.freeze.p1.hG.p3.m4.p1.hG.p3.m4.p1.hG;have u:=u.p2.m4.p1.hG.dN (Ψ:=(λw=>ml w (⟨J,M,V,v3,v4,v5⟩:bP) (⟨y1,y2.flatten,y3.flatten,y4,y5,y6⟩:cB))) (λ_ h=>⟨_,_,_,_,_,_,rfl,h.1.1.1.1.1,DL.j4 h.1.1.1.1.2,DL.j4 h.1.1.1.2,h.1.1.2,h.1.2,h.2⟩);have u:=u.p1.drop.p1.drop.p1.drop.p1.drop;rw[Z.ayo QT];exact⟨_,rfl,u.fresh⟩
theorem NL{l:List Int}{k:Nat}(u:0<k)(h:k<=l.length):fW (l.take k)=l.getD (k-1) 0+1:=by
 grind[fW]
def D3{f:Int->List kr}{a k:Int}{xs:List kr}{x:kr}(h:x∈pR f a xs k):x∈xs\/x∈f k:=by
 unfold pR at h;grind
def Il{m:Mem}{c n:Int}(h:wI m):wI (fm m c n):=by
 unfold fm
 split
 .rename_i tm
  unfold GJ at tm;rw[decide_eq_true_eq]at tm
  refine⟨h.MR,h.fl,by show(m.l.set _ _).length=_;rw[IA];exact h.ll,h.kl,h.ofr,h.lb,λk x u=>?_⟩
  dsimp only at u
  split at u
  .rename_i hc
   rcases D3 u with h1|h1
   .rw[pX]at h1
    rcases h1 with h1|h1
    .exact h.pc _ x h1
    grind
   exact h.pc _ x h1
  exact h.pc _ x u
 exact h
def aeJ{m:Mem}{c:Int}(h:wI m):wI (oh m c):=by
 unfold oh
 split
 .refine⟨h.MR,h.fl,h.ll,by show(nR _ _).length=_;rw[xF];exact h.kl,h.ofr,h.lb,λk x u=>?_⟩
  rcases D3 u with h1|h1
  .cases h1
  exact h.pc _ x h1
 exact h
def U5{m:Mem}{cut u:List Int}(h:fC m cut=some u):u.length=m.kept.length:=by
 unfold fC at h;split at h
 .cases h;exact pg _ _ _
 cases h
def U6{m:Mem}{cut u:List Int}(h:wI m)(hi:fC m cut=some u):wI (mM m u):=by
 have h1:=U5 hi
 have h2:=h.kl;have h3:=h.MR
 refine⟨h.MR,h.fl,?_,?_,h.ofr,h.lb,λk x B=>by cases B⟩
 .show(u++m.dW.drop u.length).length=m.dW.length
  rw[l1,List.length_drop];omega
 show u.length=m.of.length;omega
section
def Im{u:Mem}{x:bI}(h:wI u):wI (jX u x)/\(jX u x).of=u.of/\(jX u x).dW=u.dW:=by
 unfold jX
 split
 .exact⟨Il h,HU _ _ _,uq _ _ _⟩
 split
 .grind
 exact⟨aeJ h,aef _ _,MW _ _⟩
end
def MB.mono{B:Mem}{a b:Nat}(h:MB B a)(u:a<=b):MB B b:=λk=>Nat.le_trans (h k) u
def MB.write{u:Mem}{c x:Int}{n:Nat}(h:MB u n):MB (fm u c x) (n+1):=by
 intro k
 unfold fm
 split
 .dsimp only
  split
  .unfold pR
   split
   .rw[l1,mv];have:=h (u.of.getD c.toNat 0);omega
   have:=h k;omega
  have:=h k;omega
 have:=h k;omega
theorem MB.out{u:Mem}{c:Int}{n:Nat}(h:MB u n):MB (oh u c) n:=by
 intro k
 unfold oh
 split
 .dsimp only
  unfold pR
  split
  .simp
  exact h k
 exact h k
theorem MB.jX{u:Mem}{x:bI}{n:Nat}(h:MB u n):MB (jX u x) (n+1):=by
 unfold Go.Proofs.YtpdlpabnlkofmaaGreatDoor.jX
 split
 .exact h.write
 split
 .exact h.mono (LB n)
 exact h.out.mono (LB n)
theorem akI{α:Type}{g:α->Bool}{l:List α}(h:0<=sC g l):sC g l<l.length:=by
 unfold sC at h |-
 cases hf:l.findIdx? g with
 | none=>grind
 | some k=>
  have:=(List.findIdx?_eq_some_iff_getElem.1 hf).1
  grind
def aah{ns:List ByteArray}{s:ByteArray}(h:0<=cU ns s):cU ns s<ns.length:=akI h
theorem Ex.arM(ns:List ByteArray)(t:Ex):t.wf->∀n h:Int,0<=n->∃U,(t.steps ns).foldl VC (some (n,h))=some (n+1,U):=by
 induction t with
 | leaf x=>
  intro B n h G
  have u:kids x.op=0:=B
  have E:eE x.op=0:=by
   unfold kids at u
   unfold eE
   omega
  simp_all[VC,steps]
 | un x a O=>
  intro B n h G
  have u:kids x.op=1:=B.1
  have E:eE x.op=1:=by
   unfold kids at u
   unfold eE
   omega
  obtain⟨h1,I⟩:=O B.2 n h G
  simp_all[VC,steps]
 | bin x a b J M=>
  intro B n h G
  have u:kids x.op=2:=B.1
  have E:eE x.op=2:=by
   unfold kids at u
   unfold eE
   omega
  obtain⟨h1,I⟩:=J B.2.1 n h G
  obtain⟨h2,V⟩:=M B.2.2 (n+1) h1 bO
  refine⟨max h2 (n+1),?_⟩
  grind[VC,steps]
def J7{k:Int}(h:kids k=0\/kids k=1\/kids k=2):1<=k/\k<=15:=by
 unfold kids at h
 omega
theorem Ex.U7(ns:List ByteArray)(t:Ex):t.wf->∀o∈t.steps ns,∃x∈t.flat,o=⟨x.op,numOf ns x⟩/\1<=x.op/\x.op<=15:=by
 induction t with
 | leaf x=>intro B o u;exact⟨x,by simp[Ex.flat],by simpa[Ex.steps]using u,J7 (.inl B)⟩
 | un x a G=>
  intro B o u
  have u:o∈a.steps ns++[⟨x.op,numOf ns x⟩]:=u
  rw[pX]at u
  rcases u with u|u
  .obtain⟨y,h1,h2⟩:=G B.2 o u;exact⟨y,by simp[Ex.flat,h1],h2⟩
  .exact⟨x,by simp[Ex.flat],cL,J7 (.inr (.inl B.1))⟩
 | bin x a b E I=>
  intro B o u
  have u:o∈a.steps ns++b.steps ns++[⟨x.op,numOf ns x⟩]:=u
  rw[pX,pX]at u
  rcases u with(u|u)|u
  .obtain⟨y,h1,h2⟩:=E B.2.1 o u;exact⟨y,by simp[Ex.flat,h1],h2⟩
  .obtain⟨y,h1,h2⟩:=I B.2.2 o u;exact⟨y,by simp[Ex.flat,h1],h2⟩
  .exact⟨x,by simp[Ex.flat],cL,J7 (.inr (.inr B.1))⟩
def NM{ns:List ByteArray}{l:List cA}{many:Int}(G:fB l=true)(E:pe l ns=false)(hm:many=ns.length):mE (qE ns l) many=true/\(qE ns l).length<=40:=by
 have C8:=G
 unfold fB at G
 simp only[oi,sQ,decide_eq_true_eq,Bu]at G
 obtain⟨⟨⟨h1,h2⟩,h3⟩,h4⟩:=G
 obtain⟨t,M⟩:=Option.isSome_iff_exists.1 h2
 obtain⟨O,U⟩:=vA M
 have Z:=E
 unfold pe at E
 have V:kZ ns l=0:=by grind[kZ]
 have hl:qE ns l=t.steps ns:=by unfold qE;rw[ej V];unfold B8;rw[M]
 rw[hl]
 have hlen:(t.steps ns).length<=40:=by rw[Ex.pP,<- Ex.cY,<- U];exact h1
 obtain⟨Y,e'⟩:=t.arM ns O 0 0 (Oj _)
 have e2:ht (t.steps ns)=some (1,Y):=by unfold ht;grind
 refine⟨?_,hlen⟩
 unfold mE htN
 rw[e2]
 simp only[Option.isSome_some,decide_true,Bool.and_true,oi,decide_eq_true_eq,sQ,Bu]
 refine⟨hlen,λo ho=>?_⟩
 obtain⟨x,J,rfl,Rp,xq⟩:=t.U7 ns O o ho
 rw[<- U]at J
 have u:=h3 x J
 unfold lr at u
 simp only[Bool.or_eq_true,decide_eq_true_eq,not_or,oi,sQ,not_and,Bool.not_eq_false]at u
 obtain⟨⟨⟨⟨g1,g2⟩,g3⟩,g4⟩,g5⟩:=u
 have W:Ex.numOf ns x=if x.op=2 then cU ns x.name else x.n:=rfl
 unfold rj
 simp only[decide_eq_true_eq]
 rintro(⟨B,I⟩|⟨B,I⟩|⟨B,I,q3⟩)
 .omega
 .have B:x.op=2:=B
  rw[W,ej B]at I
  rw[Bu]at E
  have:=E x J
  simp only[oi,decide_eq_true_eq,not_and]at this
  have h5:=this B
  have h6:=aah (ns:=ns) (s:=x.name) bO
  omega
 omega
theorem vP:∀(ls:List (List cK)) (i a:Int),0<=a->(∀l∈ls,l≠[])->i<=jt ls i a/\(∀b,a<=b->jt ls i a<=jt ls i b)/\(jt ls i (a+1)=jt ls i a\/jt ls i (a+1)=jt ls i a+1)
 | [],i,a,B,_=>⟨by unfold jt;omega,λb hb=>by unfold jt;omega,by unfold jt;omega⟩
 | l::r,i,a,B,hl=>by
  have O:0<l.length:=List.length_pos_iff.2 (hl l (o6 ..))
  have u:=λl E=>hl l (r6 _ E)
  unfold jt
  by_cases h1:a<l.length
  .rw[ej h1]
   refine⟨Oj _,λb hb=>?_,?_⟩
   .split
    .omega
    .have:=(vP r (i+1) (b-l.length) bO u).1;omega
   .split
    .omega
    .have e:a+1-(l.length:Int)=0:=bO
     rw[e]
     cases r with
     | nil=>unfold jt;omega
     | cons M G=>
      simp_all[jt]
  .rw[ei h1]
   obtain⟨J,I,U⟩:=vP r (i+1) (a-l.length) bO u
   grind
section
variable {p:cB}
theorem qS(p:cB):0<=eB p/\eB p<=(iv p).length:=by grind[eB,iv]
theorem NN{c:Int}(h:0<=c/\c<(iv p).length):pE p c=jt p.lines 0 c:=by unfold pE;omega
end
section
variable {m:gU}{t:j1}{i:Int}{x:bQ}{p:cB}
theorem aai:(eb m t i x).1.l=m.l:=by
 unfold eb rP pG;grind
theorem Cz:(eb m t i x).1.room=m.room:=by
 unfold eb rP pG;grind
theorem akJ:(eb m t i x).1.p=m.p:=by
 unfold eb rP pG;grind
theorem CA:(eb m t i x).2.1.cE=t.cE:=by
 unfold eb pk qd;grind
theorem vQ:(eb m t i x).2.1.names=t.names:=by
 unfold eb pk qd;grind
theorem U8{room:Int}{l:List bI}{y:bI}:(sP room l y).length<=l.length\/((sP room l y).length:Int)<=room:=by
 grind[sP]
theorem J8{φ:bQ->Prop}(h:sT φ t)(B:m.room<=16):sT φ (eb m t i x).2.1:=by
 have h1:=h.p;have h2:=h.rl;have h3:=h.nb;have h4:=h.bl;have h5:=h.cl
 have u:∀y,sT φ (qd m t y):=λy=>by
  have h6:=U8 (room:=m.room) (l:=t.buf) (y:=y)
  exact⟨h1,h2,h3,by show(sP m.room t.buf y).length<=1000;omega,h5⟩
 unfold eb;repeat' split
 all_goals first
  | exact h
  | exact h.set _ _
  | exact u _
theorem aaj(h:wI m.mem):wI (eb m t i x).1.mem/\(eb m t i x).1.mem.of=m.mem.of/\(eb m t i x).1.mem.dW=m.mem.dW:=by
 unfold eb rP pG;repeat' split
 all_goals first
  | exact⟨h,rfl,rfl⟩
  | exact⟨Il h,HU _ _ _,uq _ _ _⟩
theorem aeK{n:Nat}(h:MB m.mem n):MB (eb m t i x).1.mem (n+1):=by
 unfold eb rP pG;repeat' split
 all_goals first
  | exact h.mono (LB n)
  | exact h.write
theorem aeL:(eb m t i x).1.eV.length=m.eV.length:=by
 unfold eb rP pG;grind
theorem J9{φ:bQ->Prop}(h:sT φ t):sT φ {t with cE:=gE t.cE}:=by
 refine h.cE h.p.pop ?_
 match hp:t.cE with
 | []=>exact pb _
 | (.nil,_)::q=>grind[gX,gE]
 | (.cons y a b r,e)::q=>have:=Qn (p:=(.cons y a b r,e)::q) rfl;omega
theorem NP{cs ls:List ByteArray}(h:yv cs ls t):ZC (goD t):=λu=>SS _ (qP h).1 h u
theorem U9(u:oN m)(ht:t∈m.l):yv (cT m.p) (cM m.p) (uu m t i x)/\ZC (uu m t i x)/\(uu m t i x).names=t.names:=by
 have h1:sT (UC (cT m.p) (cM m.p) t.names) { (eb m t i x).2.1 with cE:=gE (eb m t i x).2.1.cE}:=J9 (J8 (u.th t ht) u.rm.2)
 have h2:yv (cT m.p) (cM m.p) { (eb m t i x).2.1 with cE:=gE (eb m t i x).2.1.cE}:=by
  show sT (UC _ _ (eb m t i x).2.1.names) _
  rw[vQ];exact h1
 exact⟨(qP h2).2.1,NP h2,(qP h2).2.2.trans vQ⟩
theorem vg{β:Type}{l:List β}{k:Nat}{a y:β}(h:y∈l.set k a):y=a\/y∈l:=(R4 h).symm
theorem aak(u:oN m):oN (iz m i).1/\(iz m i).1.p=m.p/\(∀n,MB m.mem n->MB (iz m i).1.mem (n+1))/\(iz m i).1.l.length=m.l.length:=by
 unfold iz
 split
 .exact⟨u,rfl,λn h=>h.mono (LB n),rfl⟩
 rename_i t ht
 have I:=la ht
 split
 .exact⟨⟨u.mem,u.th,u.tl,u.ow,u.rm,u.st,u.pz⟩,rfl,λn h=>h.mono (LB n),rfl⟩
 split
 .exact⟨u,rfl,λn h=>h.mono (LB n),rfl⟩
 rename_i x _ _ _
 split
 .exact⟨⟨u.mem,u.th,u.tl,u.ow,u.rm,u.st,u.pz⟩,rfl,λn h=>h.mono (LB n),rfl⟩
 obtain⟨G,J,_⟩:=U9 (i:=i) (x:=x) u I
 have E:=akJ (m:=m) (t:=t) (i:=i) (x:=x)
 refine⟨⟨(aaj u.mem).1,λy B=>?_,by show(m.l.set _ _).length<=_;rw[IA];exact u.tl,?_,by show 1<=(eb m t i x).1.room/\_;rw[Cz];exact u.rm,λy B=>?_,?_⟩,E,λn h=>aeK h,IA⟩
 .show yv (cT (eb m t i x).1.p) (cM (eb m t i x).1.p) y
  rw[E]
  rcases vg B with rfl|B
  .exact G
  exact u.th y B
 .show(eb m t i x).1.eV.length=(cM (eb m t i x).1.p).length
  rw[aeL,E];exact u.ow
 .rcases vg B with rfl|B
  .exact J
  exact u.st y B
 show PZ (eb m t i x).1.p;rw[E];exact u.pz
theorem QU{l:List bI}{i:Int}:(jW l i).length<=l.length:=by
 grind[jW]
theorem aeM{q:aS}(u:oN m)(ht:m.l[q.t.toNat]?=some t):oN (tD m t q)/\(∀n,MB m.mem n->MB (tD m t q).mem (n+1)):=by
 have E:=la ht
 have h1:=u.th t E
 refine⟨⟨(Im u.mem).1,λy B=>?_,by show(m.l.set _ _).length<=_;rw[IA];exact u.tl,u.ow,u.rm,λy B=>?_,u.pz⟩,λn h=>h.jX⟩
 .rcases vg B with rfl|B
  .have:=QU (l:=t.buf) (i:=q.i)
   exact⟨h1.p,h1.rl,h1.nb,by show(jW t.buf q.i).length<=1000;have:=h1.bl;omega,h1.cl⟩
  exact u.th y B
 rcases vg B with rfl|B
 .exact u.st t E
 exact u.st y B
structure GQ(p:cB):Prop where
 f:PF p
 big:uY p=false
 w:∀t∈gp p,ry t.body=false
 tw:kB (fQ p)=false
 u:∀t∈gp p,∀x∈t.body,ng p t.dQ x=false
theorem vR(h:fk p=0):GQ p:=by
 unfold fk at h
 split at h
 .cases h
 rename_i h1
 split at h
 .cases h
 rename_i h2
 split at h
 .cases h
 rename_i h3
 split at h
 .cases h
 rename_i h4
 split at h
 .cases h
 rename_i h5
 split at h
 .cases h
 rename_i h6
 simp only[Bool.not_eq_true,Bu]at h2 h3 h4 h6
 exact⟨qH cL,h2,λt ht=>cL,h4,λt ht x u=>cL⟩
theorem Ka:∀(b:Bk) (n:Int),b.ok n=true->∀x∈b.flat,x.ey<=0\/x.kind=11
 | .nil,_,_,_,h=>by cases h
 | .cons y a b r,n,h,x,u=>by
  unfold Bk.ok at h
  simp only[oi]at h
  obtain⟨⟨⟨h1,h2⟩,h3⟩,h4⟩:=h
  unfold Bk.flat at u
  rcases s4.1 u with rfl|u
  .unfold Bk.yo at h1;grind
  .rcases pX.1 u with u|u
   .exact Ka a _ h2 x u
   .rcases pX.1 u with u|u
    .exact Ka b _ h3 x u
    .exact Ka r _ h4 x u
theorem F6{l:List cA}(h:fB l=true):l.length<=40:=by
 unfold fB at h
 grind
theorem Io{l:List cA}(h:fB l=true):∀y∈l,y.name.size<=1000:=λy B=>by
 have u:lr y=false:=by
  unfold fB at h
  grind
 unfold lr gN at u
 by_cases h2:y.op=2
 .grind
 .have:y.name=⟨#[]⟩:=cL
  rw[this];decide
theorem akK(hc:GQ p){t:cO}(ht:t∈gp p){x:bQ}(I:x∈t.body)(G:nf x=true)(U:x.ey<=0\/x.kind=11):UC (cT p) (cM p) t.dQ x:=by
 have E:=hc.u t ht x I
 have V:=Js G
 have u:=yr G
 unfold ng at E
 simp only[Ko,Bool.and_eq_false_iff,decide_eq_false_iff_not,uh]at E
 obtain⟨⟨⟨⟨⟨B,W⟩,Z⟩,Y⟩,_⟩,_⟩:=E
 have J:x.e.length<=1000:=by
  rcases u.e with h|h
  .have:=F6 h.2;omega
  grind
 have O:x.f.length<=1000:=by
  rcases u.f with h|h
  .have:=F6 h.2;omega
  grind
 refine⟨u.kind,⟨J,O⟩,λh=>bO,λh=>bO,λh=>?_,λh=>bO,λh=>bO,?_,?_⟩
 rotate_left
 .rcases u.e with h|h
  .exact Io h.2
  grind
 .rcases u.f with h|h
  .exact Io h.2
  grind
 rcases B with B|B
 .exfalso
  have M:=u.eG
  rcases M with⟨_,h2⟩|⟨h1,_⟩
  .rw[B,MI]at h2;cases h2
  have hk:=u.kind
  rcases h with h|h|h<;>rw[h]at h1<;>exact absurd h1 dD
 omega
theorem vh:∀(b:Bk) (n:Int),1<=n->n<=64->mJ b n=false->(∀x∈b.flat,x.kind=12->1<=x.n)->n.toNat*l4 b<=128*b.len
 | .nil,n,_,_,_,_=>by simp[l4]
 | .cons y a b r,n,h1,h2,hw,G=>by
  rw[vF]at hw
  simp only[Ko,decide_eq_false_iff_not]at hw
  obtain⟨⟨M,u,I⟩,Y⟩:=hw
  have U:∀x∈a.flat,x.kind=12->1<=x.n:=λx B=>G x (by unfold Bk.flat;simp[B])
  have Z:∀x∈b.flat,x.kind=12->1<=x.n:=λx B=>G x (by unfold Bk.flat;simp[B])
  have W:∀x∈r.flat,x.kind=12->1<=x.n:=λx B=>G x (by unfold Bk.flat;simp[B])
  have ir:=vh r n h1 h2 Y W
  rw[sS]
  unfold Bk.len
  obtain⟨k,rfl⟩:=Pr (show 0<=n by omega)
  rw[qb]at ir |-
  by_cases E:y.kind=12
  .rw[ej E]
   have O:=G y (by unfold Bk.flat;grind) E
   unfold ru at M u
   rw[ej E]at M u
   obtain⟨j,V⟩:=Pr (show 0<=y.n by omega)
   rw[V]at M u O
   rw[V,qb]
   have J:(1:Int)<=(k:Int)*(j:Int):=by
    have:=Int.mul_le_mul (a:=1) (b:=1) (c:=(k:Int)) (d:=(j:Int)) h1 O bO bO
    omega
   have ia:=vh a _ J bO u U
   grind
  .rw[ei E]
   unfold ru at u I
   rw[ei E]at u I
   have ia:=vh a k h1 h2 u U
   have ib:=vh b k h1 h2 I Z
   grind
theorem NQ{b:Bk}(h:b.str):H6 b.flat=b:=by unfold H6;rw[rV h];rfl
theorem D4(hc:GQ p){t:cO}(ht:t∈gp p):yv (cT p) (cM p) (wE t):=by
 obtain⟨_,h2,_⟩:=hc.f.qZ ht
 obtain⟨h3,h4,b,h5,h6,O,_⟩:=lz h2
 have hb:H6 t.body=b:=by rw[h5];exact NQ h6
 have I:Dj (UC (cT p) (cM p) t.dQ) b:=(UA b).2 λx u=>by
  rw[<- h5]at u
  exact akK hc ht u (h4 x u) (Ka b 0 O x cL)
 have J:FP (UC (cT p) (cM p) t.dQ) []:=⟨λ_ h=>(by cases h),λ_ h=>(by cases h),λ_ h=>(by cases h)⟩
 have E:=hc.w t ht
 rw[h5,vC h6]at E
 have M:=vh b 1 bO bO E λx u U=>(((Js (h4 x cL)).2 U).1)
 have V:b.len<=40:=by rw[<- Bk.cY,<- h5];exact h3
 have G:t.dQ.length<=4:=by
  have B:=hc.big
  unfold uY at B
  grind
 refine⟨?_,by simp[wE],by show t.dQ.length<=1000;omega,by simp[wE],?_⟩
 .show FP _ (ju (H6 t.body) false [])
  rw[hb];exact J.push h6 I
 show gX (ju (H6 t.body) false [])<=10000
 rw[hb,sR]
 grind[l4,gX]
theorem aal:yv (cT p) (cM p) (wE ⟨⟨#[]⟩,[],[],0⟩):=by
 refine⟨⟨λ_ h=>(by cases h),λ_ h=>(by cases h),λ_ h=>(by cases h)⟩,rfl,(by decide:(0:Nat)<=1000),(by decide:(0:Nat)<=1000),(by decide:(0:Nat)<=10000)⟩
theorem Ip{l:List cO}(E:wI m.mem)(J:1<=m.room/\m.room<=16)(I:PZ m.p)(G:l.length<=1000)(h:∀t∈l,yv (cT m.p) (cM m.p) (wE t)):oN (q8 m l):=by
 refine⟨E,λt ht=>?_,by show(l.map UG).length<=1000;rw[List.length_map];exact G,by show(List.replicate _ _).length=_;rw[List.length_replicate];rfl,J,λt ht=>?_,I⟩
 .obtain⟨u,B,rfl⟩:=oG.1 ht
  exact(qP (h u B)).2.1
 obtain⟨u,B,rfl⟩:=oG.1 ht
 exact NP (h u B)
theorem Kb(hc:GQ m.p):(vd m).length<=1/\∀t∈vd m,yv (cT m.p) (cM m.p) (wE t):=by
 unfold vd
 split
 .exact⟨pb _,λt ht=>by rw[List.mem_singleton.1 ht];exact aal⟩
 exact⟨hc.f.one,λt ht=>D4 hc (List.mem_append_right _ ht)⟩
theorem Kc{k:Nat}{x:aS}(h:x∈il m k):∃i t,i<k/\m.l[i]?=some t/\x∈rN m i t:=by
 unfold il at h
 grind
theorem QV{i:Nat}{t:j1}{x:aS}(h:x∈rN m i t):x.t=i/\x.cut=[]/\((x.kind=1/\sX m t=true/\x.i=0)\/(x.kind=2/\x.i∈pF t.buf)):=by
 unfold rN at h
 grind
theorem akM{q:aS}(h:(gV m).any (nh q)=true):m.fault=0/\0<=q.t/\q.cut.length=0/\∃t,m.l[q.t.toNat]?=some t/\((q.kind=1/\sX m t=true)\/(q.kind=2/\q.i∈pF t.buf)):=by
 rw[List.any_eq_true]at h
 obtain⟨x,u,B⟩:=h
 unfold gV at u
 split at u
 .cases u
 rename_i hf
 obtain⟨i,t,_,ht,E⟩:=Kc u
 obtain⟨h1,_,h2⟩:=QV E
 unfold nh at B
 simp only[oi,decide_eq_true_eq]at B
 have e:q.t=(i:Int):=bO
 refine⟨bO,bO,B.2,t,by rw[e];exact ht,?_⟩
 rcases h2 with⟨a,b,_⟩|⟨a,b⟩
 .exact .inl ⟨bO,b⟩
 exact .inr ⟨bO,by rw[<- B.1.2];exact b⟩
theorem NR(h:sX m t=true):∃x a b,pj t.cE=some (x,a,b):=by
 unfold sX at h
 grind
theorem akN{q:aS}(u:oN m)(hc:GQ m.p):oN (oP m q).1/\(oP m q).1.p=m.p/\(∀n,MB m.mem n->MB (oP m q).1.mem (n+1)):=by
 unfold oP
 cases hi:iT m q with
 | some G=>
  have E:fC m.mem q.cut=some G:=by unfold iT at hi;grind
  obtain⟨I,B⟩:=Kb hc
  refine⟨Ip (U6 u.mem E) u.rm u.pz bO B,rfl,λn h k=>?_⟩
  show([]:List kr).length<=_
  grind
 | none=>
  dsimp only
  split
  .split
   .split
    .rename_i t ht
     obtain⟨h1,h2⟩:=aeM u ht
     exact⟨h1,rfl,h2⟩
    .exact⟨u,rfl,λn h=>h.mono (LB n)⟩
   .obtain⟨h1,h2,h3,_⟩:=aak (i:=q.t) u
    grind
  .exact⟨u,rfl,λn h=>h.mono (LB n)⟩
theorem Kd{i:Nat}(h:i<(cT p).length):(Bq p)[i]?=some (pE p i):=by grind[Bq,pE]
theorem Bz(p:cB):(cT p).length=(iv p).length:=by unfold cT;grind
theorem aam(hc:GQ p):(iv p).length<=20:=by
 have hb:=hc.big
 unfold uY at hb
 simp only[Ko,Bu,decide_eq_false_iff_not,decide_eq_true_eq]at hb
 obtain⟨⟨h1,_⟩,⟨⟨⟨⟨h2,h3⟩,_⟩,_⟩,_⟩,_⟩:=hb
 have h4:∀ls:List (List cK),(∀l∈ls,¬ 4<(l.length:Int))->ls.flatten.length<=4*ls.length:=by
  intro ls
  induction ls with
  | nil=>grind
  | cons l r u=>
   grind
 grind[iv]
theorem QW(hc:GQ p){k:Nat}{n:Int}(J:(k:Int)<eB p)(G:(Bq p)[k]?=some n):(n=tP (Bq p) k\/(0<k/\n=tP (Bq p) k-1))/\0<=n/\n<=k:=by
 have W:=qS p
 have V:=Bz p
 have B:∀l∈p.lines,l≠[]:=λl E=>(hc.f.lines l E).1
 have I:∀j:Nat,(j:Int)<eB p->(Bq p)[j]?=some (jt p.lines 0 j):=λj U=>by rw[Kd bO,NN bO]
 rw[I k J]at G;cases G
 have u:∀j:Nat,jt p.lines 0 j<=j:=by
  intro j
  induction j with
  | zero=>
   cases E:p.lines with
   | nil=>unfold jt;omega
   | cons l r=>
    grind[jt]
  | succ j M=>
   have:=(vP p.lines 0 (j:Int) bO B).2.2
   grind
 refine⟨?_,(vP p.lines 0 (k:Int) bO B).1,u k⟩
 cases k with
 | zero=>
  left
  have:=u 0
  have:=(vP p.lines 0 ((0:Nat):Int) bO B).1
  show _=0
  omega
 | succ k=>
  have h3:=(vP p.lines 0 (k:Int) bO B).2.2
  have e:((k+1:Nat):Int)=(k:Int)+1:=bO
  have O:tP (Bq p) (k+1)=jt p.lines 0 (k:Int)+1:=by
   unfold tP;grind
  grind
theorem aan(hc:GQ p):wI (JO (Bq p) (eB p) (eW p)):=by
 have Y:=qS p
 have W:=Bz p
 have U:=aam hc
 have O:∀l∈p.lines,l≠[]:=λl G=>(hc.f.lines l G).1
 have V:(Bq p).length=(iv p).length:=by grind[Bq,iv]
 have ud:(eW p).length=(iv p).length:=by unfold eW;grind
 have G:((Bq p).take (eB p).toNat).length=(eB p).toNat:=cL
 have B:∀j:Nat,(j:Int)<eB p->(Bq p)[j]?=some (jt p.lines 0 j):=λj Z=>by rw[Kd bO,NN bO]
 have u:0<(eB p).toNat->fW ((Bq p).take (eB p).toNat)=jt p.lines 0 ((eB p).toNat-1:Nat)+1:=λE=>by
  rw[NL E bO,oj,B _ bO];rfl
 refine⟨?_,?_,rfl,?_,λn J=>?_,?_,λk x M=>by cases M⟩
 .show((Bq p).take (eB p).toNat).length<=(eW p).length;omega
 .show(eW p).length<=20;omega
 .show((eW p).take (eB p).toNat).length=((Bq p).take (eB p).toNat).length;grind
 .obtain⟨i,hi⟩:=List.mem_iff_getElem?.1 (show n∈(Bq p).take (eB p).toNat from J)
  have I:=(kO.1 hi).1
  rw[G]at I
  rw[List.getElem?_take,ej I,B i bO]at hi
  cases hi
  show 0<=_/\_<fW ((Bq p).take (eB p).toNat)
  rw[u bO]
  have h3:=vP p.lines 0 (i:Int) bO O
  grind
 show fW ((Bq p).take (eB p).toNat)<=20
 by_cases E:(eB p).toNat=0
 .rw[E,List.take_zero];decide
 rw[u bO]
 have:=(QW hc (k:=(eB p).toNat-1) bO (B _ bO)).2.2
 omega
theorem aeN(u:PZ p)(hc:GQ p){room:Int}(B:1<=room/\room<=16):oN (iw p room):=by
 refine Ip (m:=xM p room) (aan hc) B u (by have:=u.threads;omega) λt ht=>D4 hc (List.mem_append_left _ ht)
end
def hdC(g:Int->Nat)(u B:Nat)(x:bQ):Nat:=
 if x.kind=11 then g 12+max (u+(if 0<x.ey then g 11 else 0)) B
 else if x.kind=12 then g 13+x.n.toNat*(u+g 14)
 else if x.kind=13 then g 11 else g (if x.kind=14 then 15 else x.kind)
def tot(g:Int->Nat):Bk->Nat
 | .nil=>0
 | .cons x a b r=>hdC g (tot g a) (tot g b) x+tot g r
def arO(x:bQ)(a b r:Bk)(at_:Int):Int:=at_+(za (.cons x a b r)-za r)
def W(g:Int->Nat):Bk->Int->Int->List Int->Int->Nat->Nat->Option Nat
 | .nil,at_,_,_,pos,u,_=>if pos=at_ then some u else none
 | .cons x a b r,at_,lp,cs,pos,u,B=>
  if arO x a b r at_<=pos then W g r (arO x a b r at_) lp cs pos u B
  else if pos=at_ then(if x.kind=13 then some (g 11+B)else some (hdC g (tot g a) (tot g b) x+(tot g r+u)))
  else if x.kind=11 then(if pos<toT x a at_ then W g a (at_+1) lp cs pos ((if 0<x.ey then g 11 else 0)+(tot g r+u)) B else W g b (toT x a at_) lp cs pos (tot g r+u) B)
  else if x.kind=12 then(if 1<=cs.getD lp.toNat 0/\cs.getD lp.toNat 0<=8 then W g a (at_+1) (lp+1) cs pos (g 14+((cs.getD lp.toNat 0).toNat-1)*(tot g a+g 14)+(tot g r+u)) (tot g r+u)else none)
  else none
theorem BA{x y:aS}:x=y↔x.kind=y.kind/\x.t=y.t/\x.i=y.i/\x.cut=y.cut:=by
 cases x;cases y;simp
def Ke{α:Type}{xs ys:List α}{k:Nat}{x y:α}(h:xs.take k=ys.take k)(B:xs[k]?=some x)(u:ys[k]?=some y)(e:x=y):xs.take (k+1)=ys.take (k+1):=by
 rw[<- gM B,<- gM u,h,e]
def arP{α:Type}{xs ys:List α}{k:Nat}{x y:α}(B:xs[k]?=some x)(u:ys[k]?=some y)(e:x≠y):xs≠ys:=λh=>by
 grind
def C19(av bv:Value)(xs ys:List aS)(w:World)(hA:DL w av xs)(hB:DL w bv ys)(hn:xs.length<=1073741824)(hc:∀x∈xs,x.cut.length<=1000000):CR 19 [av,bv] w (λv w'=>v=.bool (decide (xs=ys))/\Ext w w'):=by
 have u:=St.start w;refine oL Tryz.func19 (pl:=P19) ?_;obtain⟨arQ,M,ahc⟩:=hA.open;have arR:=ahc.1;refine aK fO (M.ext u.aG) ?_;obtain⟨arS,V,Y⟩:=hB.open;have hn133:=Y.1;refine aK fO (V.ext u.aG) (bX (aC (λ_=>⟨vb (fP λh=>by rw[h]at arR;omega).symm,u.aG⟩) λgL=>?_));refine⟨λmm i w'=>∃k:Nat,i=hZ (k:Int)/\mm=xs.length-k/\k<=xs.length/\xs.take k=ys.take k/\St w aZ [] w',⟨_,0,rfl,rfl,l6 _,rfl,u⟩,?_⟩;rintro mm _ _ ⟨k,rfl,rfl,hk,G,u⟩ _;refine aK fO (M.ext u.aG) (aR (aC (λjH=>?_) λ_=>⟨vb (ew (by rw[ld bO,ld bO]at G;exact G)).symm,u.aG⟩))
 obtain⟨ra,J⟩:=gx xs (i:=k) bO;obtain⟨rb,I⟩:=gx ys (i:=k) bO;refine⟨λjv w'=>jv=.bool (!decide (ra=rb))/\St w aZ [] w',?_,?_⟩
 .obtain⟨lX,O⟩:=gx arQ (i:=(k:Int).toNat) bO;obtain⟨Z,lH⟩:=gx xs (i:=(k:Int).toNat) bO;obtain⟨Va,rfl,Vb⟩:=ahc.2 _ _ _ O lH;refine aQ fO M bO O (λ_ lT=>bV Z.kind mZ lT rfl rfl λ_ Mt=>have u:=u.drew;aD bL (Mt.ext u.aG) ?_);obtain⟨iK,W⟩:=gx arS (i:=(k:Int).toNat) bO;obtain⟨U,aap⟩:=gx ys (i:=(k:Int).toNat) bO;obtain⟨Vc,rfl,Vd⟩:=Y.2 _ _ _ W aap;refine aQ fO V bO W (λ_ xf=>bV U.kind mZ xf rfl rfl λ_ Fv=>aD bL (Fv.ext u.aG) ?_)
  have E:ra=Z:=oq.inj (J.symm.trans lH);have B:rb=U:=oq.inj (I.symm.trans aap);have hcx:=hc _ (la lH);refine bX (aC (λ_=>⟨vb (by rw[E,B];rw[fP λh=>by rw[BA]at h;omega];rfl),u⟩) λlx=>aQ fO M bO O λ_ sH=>bV Z.t lG sH rfl rfl λ_ xw=>aD bL (xw.ext u.aG) (aQ fO V bO W λ_ A1=>bV U.t lG A1 rfl rfl λ_ xp=>aD bL (xp.ext u.aG) (bX (aC (λ_=>⟨vb (by rw[E,B];rw[fP λh=>by rw[BA]at h;omega];rfl),u⟩) λAY=>aQ fO M bO O λ_ u9=>bV Z.i qj u9 rfl rfl λ_ EZ=>aD bL (EZ.ext u.aG) (aQ fO V bO W λ_ Fb=>bV U.i qj Fb rfl rfl λ_ X7=>aD bL (X7.ext u.aG) (bX (aC (λ_=>⟨vb (by rw[E,B];rw[fP λh=>by rw[BA]at h;omega];rfl),u⟩) λuZ=>aQ fO M bO O λ_ Fc=>bV Va me Fc rfl rfl λ_ Bd=>aD eh (Bd.ext u.aG) ?_)))))))
  have arT:=DL.flat Vb;refine aQ fO V bO W (λ_ Fx=>bV Vc me Fx rfl rfl λ_ LP=>aD eh (LP.ext u.aG) ?_);have arU:=DL.flat Vd;exact aV amI u (C71 _ _ Z.cut U.cut _ (arT.ext u.aG) (arU.ext u.aG) bO) (λ_ _ u=>bR ⟨vb (by rw[E,B];exact gQ (λb=>!b) (ga.2 (by rw[BA];exact⟨λh=>⟨bO,bO,bO,h⟩,λh=>h.2.2.2⟩))),u⟩)
 rintro _ _ ⟨rfl,u⟩ _;exact aY (λxd=>⟨vb (fP (arP J I (by simpa using xd))).symm,u.aG⟩) (λxd=>aO bO ⟨_,bO,k+1,rfl,rfl,bO,Ke G J I (by simpa using xd),u⟩)
theorem NU{ns:List Int}{many:Int}(B:yF ns):∀{xs:List oC}{S:List Int},yF S->(∀x∈xs,rj many x=false)->eY (wD ns xs S).1
 | [],S,u,_=>LF u
 | x::r,S,u,h=>by
  unfold wD
  split
  .exact NU B (Xb B u (h x (o6 ..))) λy E=>h y (r6 _ E)
  .exact iF
def aeO{xs:List oC}{ns:List Int}(u:yF ns):eY (runM xs ns).1:=by
 unfold runM
 split
 .rename_i h
  exact NU u (λv B=>by cases B) (yW h).2.2
 exact iF
def yF.set{S:List Int}(h:yF S){i:Nat}{v:Int}(B:eY v):yF (S.set i v):=λe u=>by
 rcases R4 u with h1|rfl
 .exact h e h1
 .exact B
def Ex.val(ns:List ByteArray)(nums:List Int):Ex->Int×Int
 | .leaf x=>(if x.op=2 then nums.getD (cU ns x.name).toNat 0 else x.n,0)
 | .un x a=>if (a.val ns nums).2=0 then(yE x.op (a.val ns nums).1,0)else(0,(a.val ns nums).2)
 | .bin x a b=>if (a.val ns nums).2=0 then(if (b.val ns nums).2=0 then(gC x.op (a.val ns nums).1 (b.val ns nums).1,gG x.op (b.val ns nums).1)else(0,(b.val ns nums).2))else(0,(a.val ns nums).2)
theorem Ex.F7(ns:List ByteArray)(nums:List Int)(x:cA)(a:Ex):(Ex.un x a).val ns nums=if (a.val ns nums).2=0 then(yE x.op (a.val ns nums).1,0)else(0,(a.val ns nums).2):=rfl
theorem Ex.BB(ns:List ByteArray)(nums:List Int)(x:cA)(a b:Ex):(Ex.bin x a b).val ns nums=if (a.val ns nums).2=0 then(if (b.val ns nums).2=0 then(gC x.op (a.val ns nums).1 (b.val ns nums).1,gG x.op (b.val ns nums).1)else(0,(b.val ns nums).2))else(0,(a.val ns nums).2):=rfl
theorem Aa{k:Int}(h:0<=kids k):eE k=kids k:=by
 grind[eE,kids]
theorem te(S:List Int)(v:Int):kh (S++[v])=v:=by
 grind[kh]
theorem F8(S:List Int)(v:Int):(S++[v]).take ((S++[v]).length-1)=S:=by
 simp_all
theorem QX(S:List Int)(v u:Int):(S++[v]++[u]).take ((S++[v]++[u]).length-2)=S:=by
 simp_all
theorem Ve(ns:List ByteArray)(nums:List Int):∀(t:Ex),t.wf->∀(r:List oC) (S:List Int),wD nums (t.steps ns++r) S=if (t.val ns nums).2=0 then wD nums r (S++[(t.val ns nums).1])else(0,(t.val ns nums).2):=by
 intro t
 induction t with
 | leaf x=>
  intro E r S
  have G:kids x.op=0:=E
  have u:eE x.op=0:=by rw[Aa bO,G]
  show(if vy S ⟨x.op,Ex.numOf ns x⟩=0 then wD nums r (ly nums S ⟨x.op,Ex.numOf ns x⟩)else _)=_
  have h1:vy S ⟨x.op,Ex.numOf ns x⟩=0:=by unfold vy;rw[show eE (⟨x.op,Ex.numOf ns x⟩:oC).kind=0 from u];rfl
  have h2:ly nums S ⟨x.op,Ex.numOf ns x⟩=S++[((Ex.leaf x).val ns nums).1]:=by
   unfold ly;rw[ej (show eE (⟨x.op,Ex.numOf ns x⟩:oC).kind=0 from u)]
   show S++[if x.op=2 then nums.getD (Ex.numOf ns x).toNat 0 else Ex.numOf ns x]=S++[if x.op=2 then _ else _]
   unfold Ex.numOf
   split<;>simp[*]
  rw[ej h1,h2];rfl
 | un x a M=>
  intro E r S
  have G:kids x.op=1:=E.1
  have u:eE x.op=1:=by rw[Aa bO,G]
  show wD nums (a.steps ns++[⟨x.op,Ex.numOf ns x⟩]++r) S=_
  rw[n5,M E.2,Ex.F7]
  by_cases B:(a.val ns nums).2=0
  .rw[ej B,ej B]
   show(if vy _ ⟨x.op,Ex.numOf ns x⟩=0 then wD nums r (ly nums _ ⟨x.op,Ex.numOf ns x⟩)else _)=_
   have h1:∀J,vy J ⟨x.op,Ex.numOf ns x⟩=0:=λJ=>by unfold vy;rw[show eE (⟨x.op,Ex.numOf ns x⟩:oC).kind=1 from u];rfl
   rw[ej (h1 _)]
   unfold ly
   rw[ei (show ¬ eE (⟨x.op,Ex.numOf ns x⟩:oC).kind=0 by show ¬ eE x.op=0;omega),ej (show eE (⟨x.op,Ex.numOf ns x⟩:oC).kind=1 from u),te,F8]
   rfl
  .rw[ei B,ei B,ei B]
 | bin x a b O U=>
  intro E r S
  have G:kids x.op=2:=E.1
  have u:eE x.op=2:=by rw[Aa bO,G]
  show wD nums (a.steps ns++b.steps ns++[⟨x.op,Ex.numOf ns x⟩]++r) S=_
  rw[n5,n5,O E.2.1,Ex.BB]
  by_cases B:(a.val ns nums).2=0
  .rw[ej B,ej B,U E.2.2]
   by_cases hb:(b.val ns nums).2=0
   .rw[ej hb,ej hb]
    show(if vy _ ⟨x.op,Ex.numOf ns x⟩=0 then wD nums r (ly nums _ ⟨x.op,Ex.numOf ns x⟩)else _)=_
    have h1:vy (S++[(a.val ns nums).1]++[(b.val ns nums).1]) ⟨x.op,Ex.numOf ns x⟩=gG x.op (b.val ns nums).1:=by
     unfold vy;rw[ej (show eE (⟨x.op,Ex.numOf ns x⟩:oC).kind=2 from u),te]
    rw[h1]
    by_cases I:gG x.op (b.val ns nums).1=0
    .rw[ej I,ej I]
     unfold ly
     rw[ei (show ¬ eE (⟨x.op,Ex.numOf ns x⟩:oC).kind=0 by show ¬ eE x.op=0;omega),ei (show ¬ eE (⟨x.op,Ex.numOf ns x⟩:oC).kind=1 by show ¬ eE x.op=1;omega),te,F8,te,QX]
    .rw[ei I,ei I]
   .rw[ei hb,ei hb,ei hb]
  .rw[ei B,ei B,ei B]
theorem Vf{ns:List ByteArray}{nums:List Int}{xs:List cA}(h:kZ ns xs=0)(J:ns.length=nums.length):∃t,BO xs 0 t/\pU ns nums xs=t.val ns nums/\(∀y∈xs,y.op=2->0<=cU ns y.name)/\∀y∈xs,eY y.n:=by
 unfold kZ at h
 split at h
 .cases h
 rename_i u
 have u:fB xs=true:=cL
 split at h
 .cases h
 rename_i hv
 have M:=zK u
 obtain⟨t,ht⟩:=BO.of (xs:=xs) (i:=0) bO
 obtain⟨h1,h2⟩:=ht.zero M
 have I:kZ ns xs=0:=by grind[kZ]
 have B:=(NM (ns:=ns) (l:=xs) (many:=(nums.length:Int)) u (by simpa[pe]using hv) bO).1
 refine⟨t,ht,?_,λy G h2=>?_,λy G=>?_⟩
 .unfold pU runM
  rw[ej J,ej I,ej B]
  have U:qE ns xs=t.steps ns:=by unfold qE B8;grind
  have:=Ve ns nums t ht.2.1 [] []
  rw[pd]at this
  rw[U,this]
  split
  .rename_i h0
   show(kh ([]++_),0)=_
   rw[te,<- h0]
  rename_i h0
  have E:∀t:Ex,¬ (t.val ns nums).2=0->(t.val ns nums).1=0:=by
   intro t
   cases t with
   | leaf x=>intro h;exact absurd rfl h
   | un x a=>rw[Ex.F7];split<;>intro h<;>first|exact absurd rfl h|rfl
   | bin x a b=>
    rw[Ex.BB];repeat' split
    all_goals intro h
    .show gC _ _ _=0;unfold gC;rw[ei h]
    .rfl
    .rfl
  rw[<- E t h0]
 .grind
 have O:lr y=false:=by
  unfold fB at u
  grind
 unfold lr at O
 unfold eY
 grind
theorem Ex.QY{ns:List ByteArray}{nums:List Int}(u:yF nums):∀t:Ex,(∀y∈t.flat,eY y.n)->eY (t.val ns nums).1
 | .leaf x,h=>by
  unfold Ex.val;dsimp only
  split
  .rw[oj]
   cases hh:nums[(cU ns x.name).toNat]? with
   | none=>exact iF
   | some e=>exact u e (la hh)
  .exact h x (List.mem_singleton_self x)
 | .un x a,h=>by rw[Ex.F7];split;exact Xa;exact iF
 | .bin x a b,h=>by
  rw[Ex.BB];repeat' split
  .exact W9 (Ex.QY u a λy B=>h y (by simp[Ex.flat,B]))
  .exact iF
  .exact iF
abbrev Dq:=bQ×Bk×Bk×Bool
def D5:Bool->Bk->List Dq
 | _,.nil=>[]
 | e,.cons x a b r=>(x,a,b,e)::D5 false r
def wq:PD->List Dq
 | []=>[]
 | q::p=>D5 q.2 q.1++wq p
def F9(p:PD):Prop:=∀q∈p,q.2=true->∃x a,q.1=Bk.cons x a .nil .nil
def uz:List Dq->List Dq
 | []=>[]
 | q::l=>if q.2.2.2=true then l else uz l
section
variable {p:PD}{b:Bk}{x:bQ}{a:Bk}{t:j1}{l:List Dq}
theorem vi:wq (ju b false p)=D5 false b++wq p:=by cases b<;>rfl
theorem BC{c:Bk}(h:pj p=some (x,a,c)):∃e,wq p=(x,a,c,e)::wq (gE p):=by
 obtain⟨r,e,u,rfl⟩:=HV h
 exact⟨e,by show _::(D5 false r++wq u)=_::wq (ju r false u);rw[vi]⟩
theorem Ir:∀b:Bk,uz (D5 false b++l)=uz l
 | .nil=>rfl
 | .cons _ _ _ r=>Ir r
theorem Is:∀{p:PD},F9 p->wq (kC p)=uz (wq p)
 | [],_=>rfl
 | (b,true)::p,h=>by
  obtain⟨x,a,hb⟩:=h _ (o6 ..) rfl
  have hb:b=Bk.cons x a .nil .nil:=hb
  subst hb;rfl
 | (b,false)::p,h=>by
  show wq (kC p)=uz (D5 false b++wq p)
  rw[Ir,Is λq u=>h q (r6 _ u)]
theorem Vg(h:¬ x.n=0):wq (mN x a p)=D5 false a++({x with n:=x.n-1},a,.nil,true)::wq (gE p):=by
 unfold mN;rw[ei h,vi];rfl
theorem It:∀(l:List Dq) (k:Nat),(∀j q,j<k->l[j]?=some q->q.2.2.2=false)->(∀q,l[k]?=some q->q.2.2.2=true)->k<=l.length->uz l=l.drop (k+1)
 | [],k,_,_,_=>by simp[uz]
 | q::l,0,_,h,_=>by
  simp_all[Dq,uz]
 | q::l,k+1,h1,h2,h3=>by
  have:=h1 0 q bO rfl
  show(if q.2.2.2=true then l else uz l)=_
  rw[ei cL,It l k (λj B E u=>h1 (j+1) B bO u) (λB u=>h2 B u) cL]
  rfl
theorem F9.tail{q:Bk×Bool}(h:F9 (q::p)):F9 p:=λr u=>h r (r6 _ u)
theorem F9.push(h:F9 p):F9 (ju b false p):=by
 cases b with
 | nil=>exact h
 | cons x a c r=>
  grind[F9,ju]
theorem F9.pop(h:F9 p):F9 (gE p):=by
 match p,h with
 | [],h=>exact h
 | (.nil,_)::p,h=>exact h.tail
 | (.cons x a b r,_)::p,h=>exact h.tail.push
theorem F9.leave:∀{p:PD},F9 p->F9 (kC p)
 | [],h=>h
 | (_,e)::p,h=>by
  unfold kC;split
  .exact h.tail
  .exact h.tail.leave
theorem F9.round(h:F9 p):F9 (mN x a p):=by
 unfold mN;split
 .exact h.pop
 refine F9.push λq u B=>?_
 rcases s4.1 u with rfl|u
 .grind
 exact h.pop q u B
theorem aeP:p.length<=(wq p).length\/∃q∈p,q.1=.nil:=by
 induction p with
 | nil=>left;simp
 | cons q p u=>
  rcases u with u|⟨r,B,h⟩
  .cases hb:q.1 with
   | nil=>grind
   | cons x a c r=>left;show p.length+1<=(D5 q.2 q.1++wq p).length;rw[hb];simp only[D5,l1,o1];omega
  grind
theorem Tv:∀(e:Bool) (b:Bk),(D5 e b).length<=l4 b
 | _,.nil=>l6 _
 | _,.cons x a b r=>by have:=Tv false r;simp only[D5,o1];rw[sS];omega
theorem Ga:∀p:PD,(wq p).length<=gX p
 | []=>l6 _
 | q::p=>by have:=Ga p;have:=Tv q.2 q.1;rw[qc];show(D5 q.2 q.1++wq p).length<=_;grind
end
structure Mo(m:Mem):Prop where
 l:yF m.l
 k:yF m.kept
 f:yF m.dW
 p:∀k,∀x∈m.fL k,eY x.n
theorem Gb:∀{ws:List kr}{k:List Int},yF k->(∀x∈ws,eY x.n)->yF (nR k ws)
 | [],k,u,_=>u
 | w::ws,k,u,h=>by
  show yF (nR (k.set w.cell.toNat w.n) ws)
  exact Gb (u.set (h w (o6 ..))) λx B=>h x (r6 _ B)
section
variable {m:Mem}
theorem Mo.write(h:Mo m){c n:Int}(B:eY n):Mo (fm m c n):=by
 unfold fm
 split
 .refine⟨h.l.set B,h.k,h.f,λk x u=>?_⟩
  dsimp only at u
  split at u
  .rcases D3 u with h1|h1
   .rcases pX.1 h1 with h2|h2
    .exact h.p _ x h2
    grind
   exact h.p _ x h1
  exact h.p _ x u
 exact h
theorem Mo.out(h:Mo m){n:Int}:Mo (oh m n):=by
 unfold oh
 split
 .refine⟨h.l,Gb h.k (h.p _),h.f,λk x u=>?_⟩
  rcases D3 u with h1|h1
  .cases h1
  exact h.p _ x h1
 exact h
theorem NV(h:Mo m)(cut:List Int):∀k,yF (pZ m cut k)
 | 0=>h.k
 | k+1=>by
  have u:=NV h cut k
  unfold pZ at u |-
  rw[List.range_succ,List.foldl_append]
  exact Gb u λx B=>h.p _ x (List.mem_of_mem_take B)
theorem Mo.arV(h:Mo m){cut u:List Int}(hi:fC m cut=some u):Mo (mM m u):=by
 have B:yF u:=by
  unfold fC at hi
  split at hi
  .cases hi;exact NV h cut _
  .cases hi
 refine⟨λv E=>?_,B,h.f,λk x G=>by cases G⟩
 rcases pX.1 (show v∈u++m.dW.drop u.length from E)with h1|h1
 .exact B v h1
 exact h.f v (List.mem_of_mem_drop h1)
theorem aaq(h:Mo m)(c:Int):eY (jJ m c):=by
 unfold jJ
 split
 .rw[oj]
  cases hg:m.l[c.toNat]? with
  | none=>exact iF
  | some v=>exact h.l v (la hg)
 exact iF
end
theorem aar{l:List bI}{c:Int}(h:∀y∈l,eY y.n):eY ((lB l c).getD 0):=by
 unfold lB
 cases hf:l.reverse.find? (λx=>decide (x.kind=3/\x.cell=c))with
 | none=>exact iF
 | some y=>grind
theorem Vh{l:List bI}{i:Int}(h:∀y∈l,eY y.n):eY (dH l i).n:=by
 unfold dH
 split
 .cases hg:l[i.toNat]? with
  | none=>exact iF
  | some y=>grind
 exact iF
def Vi{l:List bI}{i:Int}{y:bI}(h:y∈jW l i):y∈l:=by
 unfold jW at h
 split at h
 .exact List.mem_of_mem_eraseIdx h
 exact h
def aas{room:Int}{l:List bI}{x y:bI}(h:y∈sP room l x):y∈l\/y=x:=by
 unfold sP at h
 grind
structure BQ(t:j1):Prop where
 r:yF t.dQ
 b:∀y∈t.buf,eY y.n
def aeQ{ns:List ByteArray}{nums:List Int}{xs:List cA}(h:yF nums):eY (pU ns nums xs).1:=by
 unfold pU
 repeat' split
 .exact aeO h
 .exact iF
 exact iF
def Kf{t:j1}{xs:List cA}(h:yF t.dQ):eY (eJ t xs).1:=by
 unfold eJ;split
 .exact iF
 exact aeQ h
def BQ.goS{t:j1}(h:BQ t):BQ (qO t).1:=by
 unfold qO
 split
 .exact h
 split
 .unfold qN
  repeat' split
  all_goals first|exact⟨h.r.set (Kf h.r),h.b⟩|exact⟨h.r,h.b⟩
 exact⟨h.r,h.b⟩
theorem BQ.goF:∀(n:Nat) {t tR:j1},BQ t->tC n t=some tR->BQ tR
 | 0,_,_,_,u=>by cases u
 | n+1,t,tR,h,u=>by
  unfold tC at u
  split at u
  .exact BQ.goF n h.goS u
  .cases u;exact h.goS
theorem BQ.go{t:j1}(h:BQ t):BQ (goD t):=by
 unfold goD
 cases hg:tC (gX t.cE+1) t with
 | none=>exact h
 | some tR=>exact BQ.goF _ h hg
def BQ.th(t:cO):BQ (UG t):=BQ.go ⟨λv B=>by rw[(List.mem_replicate.1 B).2];exact iF,λy u=>by cases u⟩
structure Kg(m:gU):Prop where
 th:∀t∈m.l,BQ t
 mem:Mo m.mem
section
variable {m:gU}{t:j1}
theorem aat{i:Int}{x:bQ}(h:Mo m.mem)(h2:BQ t):BQ (eb m t i x).2.1/\Mo (eb m t i x).1.mem:=by
 have I:=λc=>aaq h c
 have E:∀c,eY (im m t c):=λc=>by
  unfold im
  split
  .exact aar h2.b
  grind
 have u:∀y:bI,eY y.n->BQ (qd m t y):=λy M=>⟨h2.r,λz G=>by
  rcases aas G with h3|h3
  .exact h2.b z h3
  grind⟩
 have hc:Mo (rP m t x).mem:=by
  unfold rP;split
  .exact h.write (Kf h2.r)
  .exact h
 have B:∀n,eY n->BQ (pk t x.eG n):=λn J=>⟨h2.r.set J,h2.b⟩
 unfold eb
 repeat' split
 all_goals first
  | exact⟨B _ (E _),h⟩
  | exact⟨u _ (Kf h2.r),h⟩
  | exact⟨u _ iF,h⟩
  | exact⟨h2,h⟩
  | exact⟨B _ (I _),hc⟩
theorem Kg.step{i:Int}(h:Kg m):Kg (iz m i).1:=by
 unfold iz
 split
 .exact h
 rename_i t ht
 have B:=h.th t (la ht)
 split
 .exact⟨h.th,h.mem⟩
 split
 .exact h
 rename_i x _ _ _
 split
 .exact⟨h.th,h.mem⟩
 obtain⟨h1,h2⟩:=aat (i:=i) (x:=x) h.mem B
 refine⟨λt' u=>?_,h2⟩
 rcases vg u with rfl|h3
 .exact BQ.go ⟨h1.r,h1.b⟩
 exact h.th t' h3
theorem Kg.out{q:aS}(h:Kg m)(ht:m.l[q.t.toNat]?=some t):Kg (tD m t q):=by
 have h2:=h.th t (la ht)
 refine⟨λt' u=>?_,?_⟩
 .rcases vg u with rfl|h3
  .exact⟨h2.r,λy B=>h2.b y (Vi B)⟩
  exact h.th t' h3
 show Mo (jX m.mem (dH t.buf q.i))
 unfold jX
 split
 .exact h.mem.write (Vh h2.b)
 split
 .exact h.mem
 exact h.mem.out
theorem Kg.begin{l:List cO}(h:Mo m.mem):Kg (q8 m l):=⟨λt ht=>by
 obtain⟨u,_,rfl⟩:=oG.1 (show t∈l.map UG from ht);exact BQ.th u,h⟩
theorem Kg.do{q:aS}(h:Kg m):Kg (oP m q).1:=by
 unfold oP
 cases hi:iT m q with
 | some u=>
  have B:fC m.mem q.cut=some u:=by unfold iT at hi;grind
  exact Kg.begin (m:=pq m u) (h.mem.arV B)
 | none=>
  dsimp only
  split
  .split
   .split
    .rename_i t ht;exact h.out ht
    .exact h
   .exact h.step
  .exact h
end
def NW(B:Option Addr)(I M:Nat)(W:Option Addr)(Zv U:Nat)(G:Option Addr)(Z Zy:Nat)(u:Option Addr)(Nf E:Nat)(J:Option Addr)(Ni V:Nat)(Nk:Option Addr)(Zz ZA:Nat)(O:Int)(Y:Option Addr):pr hH (mL 44 [(0,.agg [.slice B I M,.slice W Zv U,.slice G Z Zy,.slice u Nf E,.slice J Ni V,.slice Nk Zz ZA].toArray),(1,hZ O),(3,.pointer Y)].toArray)=some (.agg [.slice B I M,.slice W Zv U,.slice G Z Zy,.slice u Nf E,.slice J Ni V,.slice Nk Zz ZA,hZ O,hZ 0,.pointer Y,.slice none 0 0,.slice none 0 0,hZ 0,hZ 0].toArray):=by kernel_rfl
def Gc(B:Int)(E:Int)(G:Int)(u:Bool):pr hH (mL 114 [(0,hZ B),(1,hZ E),(2,hZ G),(3,.bool u)].toArray)=some (.agg [hZ B,hZ E,hZ G,.bool u,.bool false].toArray):=by kernel_rfl
def xS(u:Option Addr)(J U:Nat)(I:Option Addr)(G M:Nat)(O:Option Addr)(B V:Nat)(E:Option Addr):pr hH (mL 132 [(0,.slice u J U),(1,.slice I G M),(2,.slice O B V),(3,.pointer E)].toArray)=some (.agg [.slice u J U,.slice I G M,.slice O B V,.pointer E,hZ 0].toArray):=by kernel_rfl
def Kh(G:Int)(Nb:ByteArray)(M:ByteArray)(I:Option Addr)(Nf J:Nat)(U:Option Addr)(Ni Z:Nat)(Nk:Int)(B:Int)(u:Int)(E:Int)(V:Option Addr)(n1 W:Nat)(a2:Option Addr)(O Y:Nat):pr hH (mL 218 [(0,.agg [hZ G,.string Nb,.string M,.slice I Nf J,.slice U Ni Z,hZ Nk,hZ B,hZ u,hZ E].toArray),(1,.slice V n1 W),(2,.slice a2 O Y)].toArray)=some (.agg [hZ G,.string Nb,.string M,.slice I Nf J,.slice U Ni Z,hZ Nk,hZ B,hZ u,hZ E,.slice V n1 W,.slice a2 O Y,.bool false].toArray):=by kernel_rfl
structure pC where
 x:bE
 body:SV
 ey:SV
 in_:Bool
instance:Flat pC where
 agg:=true
 sz:=12
 enc e:=[hZ e.x.kind,.string e.x.eG,.string e.x.name,.slice e.x.e.a e.x.e.n e.x.e.cap,.slice e.x.f.a e.x.f.n e.x.f.cap,hZ e.x.n,hZ e.x.body,hZ e.x.ey,hZ e.x.at_,.slice e.body.a e.body.n e.body.cap,.slice e.ey.a e.ey.n e.ey.cap,.bool e.in_]
 val e:=.agg [hZ e.x.kind,.string e.x.eG,.string e.x.name,.slice e.x.e.a e.x.e.n e.x.e.cap,.slice e.x.f.a e.x.f.n e.x.f.cap,hZ e.x.n,hZ e.x.body,hZ e.x.ey,hZ e.x.at_,.slice e.body.a e.body.n e.body.cap,.slice e.ey.a e.ey.n e.ey.cap,.bool e.in_].toArray
 pos:=dD
 len _:=rfl
 one a v h:=by simp at h;rcases h with rfl|rfl|rfl|rfl|rfl|rfl|rfl|rfl|rfl|rfl|rfl|rfl<;>rfl
 nD _ _:=rfl
 nX h:=by cases h
variable (w:World) (K:Value->hM)
def S128(E:Value):Prop:=
 bS 130 0 [] w λa b=>pD (λG I B c=>∀_:Env,
 lN 141 E λd=>bA .lss 3 B d λe=>cV e (iA 141 E B λf=>lA 193 f c λg=>aL 193 c λh j=>sA 193 h g j λk=>bB .add 3 B (i 1) λl=>fA 193 h 6 λn=>lA 3 n k λo=>
 bA .add 3 l o λp=>fA 193 h 7 λq=>lA 3 q k λr=>bA .add 3 p r λs=>lA 193 h (drew k) λt=>bB .add 3 B (i 1) λu=>eU hH (ob 141 E (some u) (some p) none) λv=>
 eU hH (ob 141 E (some p) (some s) none) λx=>eU hH (mL 218 [(0,t),(1,v),(2,x)].toArray) λy=>bS 130 1 [(0,y)] (drew k) λz M=>
 aP 130 I z M λJ O=>G J s O) (K I c)) (λG=>G a (i 0) b)
def ayH:dI:=λi=>match i with
 | 6=>.run 0 15
 | _=>.nil
theorem aeR(u:Value)(h:S128 w K u):CR 128 [u] w K:=
 qW 42 ayH 4 [.tmp 2] Tryz.func128 h
def S13(p0 U:Value):Prop:=
 rR hH (By 27 p0) w λp2 a=>lA 27 p2 a λb=>cF 57 [b] a λc d=>xT c 0 λe=>xT c 1 λ_=>bB .neq 31 e (i 0) λf=>cV f (K (.tuple #[(.pointer none),e]) d) (
 cF 58 [U] d λg h=>xT g 0 λ_=>xT g 1 λj=>bB .neq 31 j (i 0) λk=>cV k (K (.tuple #[(.pointer none),j]) h) (bS 41 0 [] h λl n=>pD (λG E B o=>∀_:Env,
 lA 27 p2 o λp=>cF 59 [p] o λq r=>lN 23 q λs=>bA .lss 3 B s λt=>cV t (lA 27 p2 r λu=>cF 60 [u,B] r λv x=>bS 41 1 [(0,v)] x λy z=>aP 41 E y z λZ Y=>
 bB .add 3 B (i 1) λac=>G Z ac Y) (lA 27 p2 (drew r) λad=>lA 27 p2 (drew r) λJ=>cF 62 [ad] (drew r) λaf V=>kA 27 p2 J V (cF 63 [J] V λah ai=>cF 61 [E,af,ah] ai λM O=>
 xT M 0 λal=>xT M 1 λ_=>lA 27 p2 O λam=>eU hH (mL 44 [(0,am),(1,U),(3,al)].toArray) λan=>rR hH (By 44 an) O λW I=>
 fA 27 p2 3 λaq=>lA 24 aq I λar=>cF 64 [W,ar] I λ_ asx=>K (.tuple #[W,(i 0)]) asx))) λG=>G l (i 0) n))
def P13:dI:=λi=>match i with
 | 12=>(.of [(0,[]),(1,[]),(3,[]),(2,[3]),(4,[]),(5,[]),(6,[]),(7,[]),(8,[]),(9,[]),(10,[])])
 | _=>.nil
theorem akR(p0 u:Value)(h:S13 w K p0 u):CR 13 [p0,u] w K:=
 qW 64 P13 48 [.tmp 4,.tmp 5] Tryz.func13 h
def ayI:dI:=λi=>match i with
 | 3=>.run 0 15
 | _=>.nil
def S129(B:Value):Prop:=
 Rq (λI a=>∀_:Env,
 nC B λb=>fA 132 b 0 λc=>lA 130 c a λd=>lN 130 d λe=>bB .gtr 3 e (i 0) λf=>cV f (nC B λg=>fA 132 g 0 λh=>lA 130 h a λj=>iA 130 j (i 0) λk=>lA 218 k a λl=>
 aL 218 a λG n=>sA 218 G l n λo=>fA 218 G 0 λp=>fA 193 p 3 λq=>lA 82 q o λr=>cF 203 [B,r] o λs t=>xT s 0 λu=>xT s 1 λv=>fA 218 G 0 λx=>fA 193 x 4 λy=>
 lA 82 y t λz=>cF 203 [B,z] t λaa ab=>xT aa 0 λ_=>xT aa 1 λac=>fg (λK2=>eU hH (Op.unary .not v) λad=>cV ad (K2 tt ab) (eU hH (Op.unary .not ac) λae=>
 K2 ae ab)) (λaf E=>∀_:Env,
 cV af (nC B λah=>fA 132 ah 4 λai=>sA 3 ai (i 2) E λaj=>K (.tuple #[]) aj) (fA 218 G 0 λak=>fA 193 ak 0 λal=>lA 3 al E λJ=>bB .eql 3 J (i 1) λan=>
 cV an (fA 218 G 0 λao=>fA 193 ao 1 λap=>lA 9 ap E λaq=>cF 204 [B,aq,u] E λ_ ar=>cF 171 [B,(.slice none 0 0)] ar λ_ asx=>I asx) (bB .eql 3 J (i 11) λau=>
 cV au (bB .neq 3 u (i 0) λav=>cV av (fA 218 G 1 λaw=>lA 141 aw E λax=>cF 128 [ax] E λay az=>cF 171 [B,ay] az λ_ a0=>I a0) (fA 218 G 2 λa1=>lA 141 a1 E λa2=>
 cF 128 [a2] E λa3 a4=>cF 171 [B,a3] a4 λ_ a5=>I a5)) (bB .eql 3 J (i 12) λa6=>cV a6 (bS 130 0 [] E λa7 V=>fg (λZ=>fA 218 G 0 λa9=>fA 193 a9 5 λba=>
 lA 3 ba V λbb=>bB .gtr 3 bb (i 0) λbc=>cV bc (lA 218 G V λbd=>aL 218 V λM be=>sA 218 M bd be λY=>fA 218 G 0 λbg=>fA 193 bg 5 λbh=>lA 3 bh Y λbi=>
 bB .sub 3 bi (i 1) λbj=>fA 218 M 0 λbk=>fA 193 bk 5 λbl=>sA 3 bl bj Y λbm=>fA 218 M 3 λbn=>sA 4 bn tt bm λbo=>fA 218 G 1 λbp=>lA 141 bp bo λbq=>
 cF 128 [bq] bo λbr bs=>aP 130 a7 br bs λbt bu=>lA 218 M bu λbv=>bS 130 1 [(0,bv)] bu λbw bx=>aP 130 bt bw bx λbz b0=>Z bz b0) (Z a7 V)) (λl7 b1=>∀_:Env,
 cF 171 [B,l7] b1 λ_ b2=>I b2)) (bB .eql 3 J (i 13) λb3=>cV b3 (kM (λW U b4=>∀_:Env,
 fg (λK5=>nC B λb5=>fA 132 b5 0 λb6=>lA 130 b6 b4 λb7=>lN 130 b7 λb8=>bA .lss 3 U b8 λb9=>cV b9 (nC B λca=>fA 132 ca 0 λcb=>lA 130 cb b4 λcc=>
 iA 130 cc U λcd=>fA 218 cd 3 λce=>lA 4 ce b4 λcf=>eU hH (Op.unary .not cf) λcg=>K5 cg b4) (K5 ff b4)) (λch O=>∀_:Env,
 cV ch (bB .add 3 U (i 1) λcj=>W cj O) (nC B λck=>fA 132 ck 0 λcl=>lA 130 cl (drew O) λcm=>bB .add 3 U (i 1) λcn=>nC B λco=>fA 132 co 0 λcp=>lA 130 cp (drew O) λcq=>
 lN 130 cq λcr=>eU hH (Builtin.min_ #[3,3] 3 [cn,cr].toArray) λcs=>eU hH (ob 130 cm (some cs) none none) λct=>nC B λcu=>fA 132 cu 0 λcv=>
 sA 130 cv ct (drew O) λcw=>I cw))) λW=>W (i 0) E) (bB .eql 3 J (i 14) λcx=>cV cx (bB .eql 3 u (i 0) λcy=>cV cy (nC B λcz=>fA 132 cz 4 λc0=>sA 3 c0 (i 1) E λc1=>
 K (.tuple #[]) c1) (cF 171 [B,(.slice none 0 0)] E λ_ c2=>I c2)) (K (.tuple #[]) E)))))))) (K (.tuple #[]) a)) (λI=>I w)
def ayJ:dI:=λi=>match i with
 | 27=>.run 0 17
 | _=>.nil
theorem aeS(u:Value)(h:S129 w K u):CR 129 [u] w K:=
 qW 148 ayJ 0 [] Tryz.func129 h
def P80:dI:=λi=>match i with
 | 7=>.run 0 14
 | 8=>(.of [(0,[]),(1,[]),(2,[]),(3,[]),(4,[]),(5,[]),(6,[]),(7,[]),(8,[]),(9,[]),(10,[]),(11,[]),(12,[]),(13,[]),(14,[]),(15,[]),(16,[]),(17,[]),(18,[]),(19,[]),(20,[]),(21,[]),(23,[]),(24,[]),(22,[17,24]),(25,[17]),(26,[]),(27,[]),(28,[]),(29,[]),(30,[]),(31,[])])
 | _=>.nil
def S169(U I a E:Value):Prop:=
 rR hH (By 193 a) w λb c=>aL 56 c λd e=>fA 193 b 3 λf=>lA 82 f e λg=>cF 203 [I,g] e λh j=>xT h 0 λk=>xT h 1 λ_=>fA 193 b 4 λl=>lA 82 l j λn=>
 cF 203 [I,n] j λo p=>xT o 0 λq=>xT o 1 λ_=>nC I λs=>fA 132 s 3 λt=>lA 103 t p λu=>cF 229 [u,E] p λv x=>xT v 0 λy=>xT v 1 λz=>fg (λY=>
 eU hH (Op.unary .not z) λaa=>cV aa (nC U λab=>fA 44 ab 3 λac=>lA 40 ac x λad=>nC ad λae=>fA 122 ae 2 λaf=>lA 41 af x λag=>iA 41 ag E λah=>
 lA 3 ah x λai=>Y ai x) (Y y x)) (λB V=>∀_:Env,
 fA 193 b 1 λak=>lA 9 ak V λal=>cF 204 [I,al,B] V λ_ G=>fA 193 b 0 λan=>lA 3 an G λao=>bB .eql 3 ao (i 2) λap=>cV ap (cV z (eU hH (mL 56 [(0,(i 2)),(2,E),(3,B)].toArray) λaq=>
 sA 56 d aq G λZ=>lA 56 d Z λr=>K r Z) (eU hH (mL 56 [(0,(i 1)),(2,E),(3,B)].toArray) λasx=>sA 56 d asx G λO=>lA 56 d O λIS=>K IS O)) (
 bA .neq 3 B k λav=>cV av (eU hH (mL 56 [(0,(i 9)),(2,E),(3,B)].toArray) λaw=>sA 56 d aw G λM=>lA 56 d M λOO=>K OO M) (nC U λay=>
 fA 44 ay 3 λaz=>lA 40 az G λa0=>cF 166 [a0,E,q] G λ_ a1=>eU hH (mL 56 [(0,(i 8)),(2,E),(3,B),(4,q)].toArray) λa2=>sA 56 d a2 a1 λW=>
 lA 56 d W λJ=>K J W)))
theorem aeT(E G u B:Value)(h:S169 w K E G u B):CR 169 [E,G,u,B] w K:=
 qW 82 (λ_=>.nil) 256 [.cell 8 56] Tryz.func169 h
def S96(E J:Value):Prop:=
 aL 56 w λa b=>nC E λc=>fA 44 c 5 λd=>lA 42 d b λe=>iA 42 e J λf=>lA 129 f b λg=>nC g λh=>fA 132 h 4 λj=>lA 3 j b λk=>bB .neq 3 k (i 0) λl=>
 cV l (nC g λn=>fA 132 n 4 λo=>lA 3 o b λp=>cF 168 [E,J,p] b λq s=>sA 56 a q s λt=>lA 56 a t λr=>K r t) (nC g λu=>fA 132 u 0 λv=>lA 130 v b λx=>
 iA 130 x (i 0) λy=>fA 218 y 0 λz=>lA 193 z b λaa=>eU hH (mL 56 [].toArray) λab=>aL 193 b λI ad=>aL 56 ad λG ae=>sA 193 I aa ae λaf=>
 sA 56 G ab af λO=>nC E λah=>fA 44 ah 0 λai=>lA 27 ai (drew O) λaj=>fA 193 I 2 λak=>lA 9 ak (drew O) λal=>nC E λam=>fA 44 am 0 λan=>lA 27 an (drew O) λao=>
 fA 193 I 2 λY=>lA 9 Y (drew O) λW=>cF 124 [aj] (drew O) λar asx=>kA 9 ak al asx (kA 27 an ao asx (kA 9 Y W asx (cF 123 [ar,al] asx λau Z=>kA 27 an ao Z (kA 9 Y W Z (
 cF 125 [ao] Z λaw ax=>kA 9 Y W ax (cF 123 [aw,W] ax λV az=>yM (λU=>fA 193 I 0 λa0=>lA 3 a0 az λM=>fg (λK2=>bB .eql 3 M (i 2) λa2=>cV a2 (
 K2 a2 az) (bB .eql 3 M (i 4) λa3=>K2 a3 az)) (λa4 B=>∀_:Env,
 cV a4 (lA 193 I B λa6=>cF 169 [E,g,a6,au] B λa7 a8=>sA 56 G a7 a8 λa9=>U a9) (bB .eql 3 M (i 8) λba=>cV ba (fA 56 G 0 λbb=>sA 3 bb (i 7) B λbc=>
 U bc) (bB .eql 3 M (i 9) λbd=>cV bd (nC E λbe=>fA 44 be 4 λbf=>lA 41 bf B λbg=>iA 41 bg V λbh=>sA 3 bh J B λbi=>eU hH (mL 56 [(0,(i 10)),(2,V)].toArray) λbj=>
 sA 56 G bj bi λbk=>U bk) (bB .eql 3 M (i 10) λbl=>cV bl (nC E λbm=>fA 44 bm 4 λbn=>lA 41 bn B λbo=>iA 41 bo V λbp=>lA 3 bp B λbq=>bA .neq 3 bq J λbr=>
 cV br (cF 168 [E,J,(i 3)] B λbs bt=>sA 56 a bs bt λbu=>lA 56 a bu λIS=>K IS bu) (nC E λbv=>fA 44 bv 4 λbw=>lA 41 bw B λbx=>iA 41 bx V λbz=>sA 3 bz (i (-1)) B λb0=>
 eU hH (mL 56 [(0,(i 11)),(2,V)].toArray) λb1=>sA 56 G b1 b0 λb2=>U b2)) (lA 193 I (drew B) λb3=>nC E λb4=>fA 44 b4 0 λb5=>lA 27 b5 (drew B) λb6=>
 cF 60 [b6,au] (drew B) λb7 b8=>kA 193 I b3 b8 (cF 170 [E,g,b3,au,b7] b8 λb9 ca=>sA 56 G b9 ca λcb=>U cb))))))) (λcc=>∀_:Env,
 fA 56 G 1 λcd=>sA 3 cd J cc λce=>cF 171 [g,(.slice none 0 0)] ce λ_ cf=>cF 129 [g] cf λ_ cg=>lA 56 G cg λch=>sA 56 a ch cg λci=>lA 56 a ci λOO=>K OO ci))))))))
def P96:dI:=λi=>match i with
 | 5=>(.of [(0,[]),(1,[]),(2,[]),(3,[]),(5,[]),(6,[]),(8,[]),(9,[]),(10,[]),(11,[]),(13,[]),(14,[]),(4,[6,11,14]),(7,[11,14]),(12,[14]),(15,[]),(16,[]),(17,[])])
 | 7=>(.of [(0,[]),(1,[]),(2,[]),(3,[]),(4,[]),(5,[]),(6,[]),(7,[]),(8,[]),(9,[2]),(10,[]),(11,[])])
 | _=>.nil
theorem akS(B u:Value)(h:S96 w K B u):CR 96 [B,u] w K:=
 qW 117 P96 16 [.cell 4 56] Tryz.func96 h
def P95:dI:=λi=>match i with
 | 3=>.run 0 9
 | 7=>.run 0 7
 | _=>.nil
def P25:dI:=λi=>match i with
 | 2=>.run 0 12
 | 5=>.run 0 7
 | 15=>.run 0 34
 | _=>.nil
def P74:dI:=λi=>match i with
 | 1=>(.of [(0,[]),(1,[]),(2,[]),(3,[]),(4,[]),(5,[]),(6,[]),(7,[]),(8,[]),(9,[]),(10,[]),(11,[]),(12,[]),(13,[]),(14,[]),(15,[]),(16,[]),(17,[]),(18,[3,7,11,15]),(19,[])])
 | _=>.nil
def S75(B:Value):Prop:=
 bS 117 0 [] w λa b=>nC B λc=>fA 44 c 0 λd=>lA 27 d b λe=>cF 62 [e] b λf g=>pD (λI J G h=>∀_:Env,
 nC B λj=>fA 44 j 0 λk=>fA 27 k 5 λl=>lA 25 l h λn=>lN 25 n λo=>bA .lss 3 G o λp=>cV p (fg (λK2=>nC B λq=>fA 44 q 0 λr=>fA 27 r 5 λs=>
 lA 25 s (drew h) λt=>iA 25 t G λu=>fA 85 u 0 λv=>lA 82 v (drew h) λx=>nC B λy=>fA 44 y 0 λz=>lA 27 z (drew h) λaa=>nC B λab=>fA 44 ab 3 λO=>
 lA 40 O (drew h) λM=>nC M λae=>fA 122 ae 2 λW=>lA 41 W (drew h) λU=>eU hH (ob 41 U none (some f) none) λah=>cF 124 [aa] (drew h) λai E=>
 kA 25 s t E (kA 82 v x E (kA 40 O M E (kA 41 W U E (eU hH (ob 91 ai none (some f) none) λak=>cF 146 [x,ak,ah] E λal V=>xT al 0 λan=>xT al 1 λao=>
 bB .eql 31 ao (i 0) λap=>cV ap (bB .neq 3 an (i 0) λaq=>bS 117 1 [(0,aq)] V λar asx=>aP 117 J ar asx λau av=>K2 au av) (bS 117 1 [(0,ff)] V λaw Y=>aP 117 J aw Y λay az=>
 K2 ay az)))))) (λE7 Z=>∀_:Env,
 bB .add 3 G (i 1) λa1=>I E7 a1 Z)) (K J h)) (λI=>I a (i 0) g)
def P75:dI:=λi=>match i with
 | 5=>(.of [(0,[]),(1,[]),(2,[]),(3,[]),(4,[]),(5,[]),(6,[]),(7,[]),(8,[]),(9,[]),(10,[]),(11,[]),(12,[]),(14,[]),(16,[]),(17,[]),(18,[]),(19,[]),(20,[]),(21,[]),(22,[]),(23,[]),(24,[]),(13,[4,8,19,22]),(15,[]),(25,[]),(26,[]),(27,[]),(28,[]),(29,[]),(30,[])])
 | _=>.nil
theorem akT(u:Value)(h:S75 w K u):CR 75 [u] w K:=
 qW 63 P75 4 [.tmp 2] Tryz.func75 h
def S64(B O:Value):Prop:=
 nC B λa=>fA 44 a 5 λb=>sA 42 b (.slice none 0 0) w λc=>nC B λd=>fA 44 d 4 λe=>sA 41 e (.slice none 0 0) c λf=>kM (λK1 i4 g=>∀_:Env,
 nC B λh=>fA 44 h 0 λj=>fA 27 j 2 λk=>lA 23 k g λl=>lN 23 l λn=>bA .lss 3 i4 n λo=>cV o (nC B λp=>fA 44 p 4 λq=>lA 41 q g λr=>bS 41 1 [(0,(i (-1)))] g λs t=>
 aP 41 r s t λu v=>nC B λx=>fA 44 x 4 λy=>sA 41 y u v λz=>bB .add 3 i4 (i 1) λaa=>K1 aa z) (kM (λK2 G Z=>∀_:Env,
 lN 24 O λac=>bA .lss 3 G ac λad=>cV ad (yM (λK3=>nC B λae=>fA 44 ae 1 λaf=>lA 3 af Z λag=>cF 58 [ag] Z λah I=>xT ah 0 λaj=>xT ah 1 λ_=>
 fg (λK4=>iA 24 O G λak=>fA 146 ak 2 λal=>lA 141 al (drew I) λM=>iA 24 O G λan=>fA 146 an 1 λJ=>lA 91 J (drew I) λE=>iA 24 O G λaq=>fA 146 aq 1 λY=>
 lA 91 Y (drew I) λasx=>lN 91 asx λU=>((cF 128 [M] (drew I) λav V=>kA 91 J E V (kA 91 Y asx V (rR hH (N6 41 U U) V λax ay=>kA 141 al M ay (
 kA 91 J E ay (eU hH (mL 132 [(0,av),(1,E),(2,ax),(3,aj)].toArray) λaz=>rR hH (By 132 az) ay λa0 a1=>K4 a0 a1)))))
 /\((rR hH (N6 41 U U) (drew I) λa2 W=>kA 141 al M W (kA 91 J E W (cF 128 [M] W λa4 a5=>kA 91 J E a5 (kA 91 Y asx a5 (eU hH (mL 132 [(0,a4),(1,E),(2,a2),(3,aj)].toArray) λa6=>
 rR hH (By 132 a6) a5 λa7 a8=>K4 a7 a8)))))
 /\
 True))) (λt8 a9=>∀_:Env,
 cF 129 [t8] a9 λ_ ba=>nC B λbb=>fA 44 bb 5 λbc=>lA 42 bc ba λbd=>bS 42 1 [(0,t8)] ba λbe bf=>aP 42 bd be bf λbg bh=>nC B λbi=>fA 44 bi 5 λbj=>sA 42 bj bg bh λbk=>
 K3 bk)) (λbl=>∀_:Env,
 bB .add 3 G (i 1) λbm=>K2 bm bl)) (K (.tuple #[]) Z)) λK2=>K2 (i 0) g)) (λK1=>K1 (i 0) f)
def P64:dI:=λi=>match i with
 | 10=>(.op 0 [] (.op 1 [] (.op 2 [] (.op 3 [] (.op 4 [] (.op 6 [] (.op 7 [] (.op 8 [] (.op 9 [] (.op 10 [] (.op 11 [] (.op 12 [] (.op 13 [] (.op 14 [] (.op 15 [] (.op 16 [] (.op 18 [] (.alt 5 [10,15] (.of [(17,[4,10]),(19,[]),(20,[]),(21,[])]) (.alt 17 [4,10] (.of [(5,[10,15]),(19,[]),(20,[]),(21,[])]) .stop)))))))))))))))))))
 | _=>.nil
theorem akU(B u:Value)(h:S64 w K B u):CR 64 [B,u] w K:=
 qW 81 P64 0 [] Tryz.func64 h
theorem NX:PL 128:=dJ Tryz.func128
theorem ayK:PL 13:=dJ Tryz.func13
theorem NY:PL 203:=dJ Tryz.func203
theorem ahf:PL 204:=dJ Tryz.func204
theorem Iu:PL 171:=dJ Tryz.func171
theorem ahg:PL 129:=dJ Tryz.func129
theorem ayL:PL 80:=dJ Tryz.func80
theorem ar1:PL 22:=dJ Tryz.func22
theorem ahh:PL 168:=dJ Tryz.func168
theorem ar2:PL 170:=dJ Tryz.func170
theorem ar3:PL 169:=dJ Tryz.func169
theorem ayM:PL 96:=dJ Tryz.func96
theorem ayN:PL 95:=dJ Tryz.func95
theorem ayO:PL 25:=dJ Tryz.func25
theorem ayP:PL 74:=dJ Tryz.func74
theorem ayQ:PL 75:=dJ Tryz.func75
theorem ar4:PL 64:=dJ Tryz.func64
end Go.Proofs.YtpdlpabnlkofmaaGreatDoor
namespace Go.Proofs.YtpdlpabnlkofmaaGreatDoor
open Go.Fw
def Gd{α:Type}[Flat α]{P:Program}{S:Nat->Prop}{Wd:hM}{w0:World}{xs:List α}{T E M:Nat}{z:Option Nat}{v:Value}{i:Int}{x:α}{K:Value->Prop}(ht:eQ P T=some (E,m8 α,M,z))(h:∀w,Wd w->dA S w v xs)(V:Wd w0)(W:0<=i)(u:xs[i.toNat]?=some x)
  (k:∀p,(∀w,Wd w->At S w p x)->K p):eU P (H3 T v (hZ i)) K:=by
 obtain⟨a,cap,rfl,Ax,h3⟩:=h w0 V
 have nS:i.toNat<xs.length:=(kO.1 u).1
 rcases h3 with⟨rfl,_⟩|⟨b,o,rfl,h4,_⟩
 .simp at u
 obtain⟨U,Y,hi,O,_⟩:=fp ht
 refine⟨.pointer (some ⟨b,o+i.toNat*m8 α,none⟩),?_,k _ λw' G=>⟨b,_,rfl,h4 cL,λj c Z=>?_⟩⟩
 .unfold H3
  rw[cX]
  show pr P _=_
  simp only[asIntOf]
  have J:pr P (underlying T)=some (.slice E):=cZ U
  have I:pr P (sizeOf E)=some (m8 α):=by rw[mX hi,O]
  simp only[cX,J,I,nj,fS]
  have tm:0<=i/\i<(xs.length:Int):=⟨W,bO⟩
  simp only[ej tm,cX,I,nj,fS,gI]
 obtain⟨a',Db,B,_,h6⟩:=h w' G
 cases B
 rcases h6 with⟨rfl,_⟩|⟨b',o',B,_,h5⟩
 .simp at u
 cases B
 have:=h5 (i.toNat*m8 α+j) c (r9 u Z)
 grind
def pI(ws:List m7)(m:Mem):Prop:=(∀n,m.fL n=(ws.filter λx=>decide (x.line=n)).map λx=>⟨x.cell,x.n⟩)/\∀x∈ws,0<=x.cell/\m.of[x.cell.toNat]?=some x.line
def gw(p:Nat)(m:Mem):HP:=pM λq:Value×Value×Value×Value×Value=>pM λws:List m7=>fact (pI ws m) (sep (bY p [q.1,q.2.1,q.2.2.1,q.2.2.2.1,q.2.2.2.2]) (sep (bH q.1 m.of) (sep (bH q.2.1 m.dW) (sep (bH q.2.2.1 m.l) (sep (bH q.2.2.2.1 m.kept) (bH q.2.2.2.2 ws))))))
structure BD(w:World)(p:Nat)(m:Mem):Prop where
 ex:∃ov fv lv kv wv ws,pI ws m/\mW w p [ov,fv,lv,kv,wv]/\dA (λ_=>True) w ov m.of/\dA (λ_=>True) w fv m.dW/\dA (λ_=>True) w lv m.l/\dA (λ_=>True) w kv m.kept/\dA (λ_=>True) w wv ws
section
variable {w w0:World}{A:Nat->Prop}{R:List HP}{p:Nat}{m:Mem}{ov fv lv kv wv:Value}{ws:List m7}
theorem gw.shut(h:pI ws m)(u:St w0 A (bY p [ov,fv,lv,kv,wv]::bH ov m.of::bH fv m.dW::bH lv m.l::bH kv m.kept::bH wv ws::R) w):St w0 A (gw p m::R) w:=by
 have h5:=St.join u.p5.p5
 have h4:=St.join h5.p4
 have h3:=St.join h4.p3
 have h2:=St.join h3.p2
 have h1:=St.join h2.p1
 exact St.ep (ov,fv,lv,kv,wv) (St.ep ws (St.oA h h1))
theorem gw.open(u:St w0 A (gw p m::R) w):∃ov fv lv kv wv ws,pI ws m/\St w0 A (bY p [ov,fv,lv,kv,wv]::bH ov m.of::bH fv m.dW::bH lv m.l::bH kv m.kept::bH wv ws::R) w:=by
 obtain⟨⟨ov,fv,lv,kv,wv⟩,u⟩:=u.eo;obtain⟨ws,u⟩:=u.eo;obtain⟨B,u⟩:=u.mC
 have h1:=u.split
 have h2:=h1.p1.split
 have h3:=h2.p1.split
 have h4:=h3.p1.split
 have h5:=h4.p1.split
 exact⟨ov,fv,lv,kv,wv,ws,B,h5.p2.p3.p4.p5⟩
end
def Ge{w:World}{p:Nat}{m:Mem}(h:Has (gw p m) w):BD w p m:=by
 obtain⟨F,u⟩:=h.st
 obtain⟨ov,fv,lv,kv,wv,ws,B,u⟩:=gw.open u
 exact⟨ov,fv,lv,kv,wv,ws,B,u.hb,u.p1.dS,u.p2.dS,u.p3.dS,u.p4.dS,u.p5.dS⟩
def Gf{α β:Type}[Flat α][Flat β]{P:Program}{S:Nat->Prop}{Wd:hM}{w0:World}{T f u:Nat}{p:Value}{x:α}(y:β){K:Value->Prop}(ht:wN P T f u)(h:∀w,Wd w->At S w p x)(B:Wd w0)(M:(kp x)[u]?=some (j0 y))(G:Flat.agg β=false)
  (k:∀q,(∀w,Wd w->At S w q y)->K q):eU P (Instr.fieldAt T p f) K:=by
 obtain⟨b,o,rfl,h2,_⟩:=h w0 B
 refine aA ht (k _ λw B=>?_)
 obtain⟨J,O,E,_,h3⟩:=h w B
 cases E
 refine⟨b,o+u,rfl,h2,λj c I=>?_⟩
 rw[Flat.nX G]at I
 grind
theorem aeU{l:List Int}{k:Nat}{e:Int}(u:0<k)(h:l[((k:Int)-1).toNat]?=some e):tP l k=e+1:=by
 unfold tP
 rw[ei bO,oj,show k-1=((k:Int)-1).toNat from bO,h];rfl
def aau{of fi:List Int}{st:Int}:pI [] (JO of st fi):=⟨λ_=>rfl,λx h=>by cases h⟩
def C61(of fi:List Int)(st:Int)(ov fv:Value)(w:World)(B:dA (λ_=>True) w ov of)(I:dA (λ_=>True) w fv fi)(hle:of.length=fi.length)(MT:of.length<=20)(iV:0<=st/\st<=of.length)(GF:∀(k:Nat) (n:Int),(k:Int)<st->of[k]?=some n->(n=tP of k\/(0<k/\n=tP of k-1))/\-10<=n/\n<=100):CR 61 [ov,hZ st,fv] w (λv w'=>∃b,v=.tuple #[.pointer (some ⟨b,0,none⟩),hZ 0]/\kV (gw b (JO of st fi)) w w'):=by
 have u:=St.start w;refine ahG _ _ _ _ _ ?_;unfold S61;refine⟨_,?_,λ_ _ h=>h⟩;refine aK cS (B.ext u.aG) (aK cS (I.ext u.aG) (bX (fJ (fP bO) (aK cS (B.ext u.aG) (cN (fJ (fP bO) (aR (fJ (fP bO) (aK cS (B.ext u.aG) (cN ?_))))))))));intro _;refine fJ (fP bO) ?_;refine⟨λmm x w1=>∃k:Nat,x=hZ (k:Int)/\mm=st.toNat-k/\(k:Int)<=st/\St w aZ [] w1,⟨_,0,rfl,rfl,bO,u⟩,?_⟩;rintro mm _ _ ⟨k,rfl,rfl,hk,u⟩ _;refine aR (aC (λkf=>⟨_,aH (aC (λCP=>?_) λCP=>?_),λ_ _ h=>h⟩) λkf=>?_)
 .obtain⟨xG,vI⟩:=gx of (i:=(0:Int).toNat) bO;refine aQ cS B bO vI (λ_ xo=>have u:=u.drew;aD bL (xo.ext u.aG) ?_);have E:=GF 0 xG bO (by simpa using vI);have hw1:tP of 0=0:=rfl;refine bX (fJ (fP bO) (cN (fJ (fP bO) ?_)));intro v8;exact fw (aO bO ⟨_,bO,k+1,rfl,rfl,bO,u⟩)
 .refine cN (ke (ew bO) ?_);obtain⟨aeV,Gg⟩:=gx of (i:=(k:Int).toNat) bO;refine aQ cS B bO Gg (λ_ aeW=>have u:=u.drew;aD bL (aeW.ext u.aG) (fh bO ?_));obtain⟨atM,Gh⟩:=gx of (i:=((k:Int)-1).toNat) bO;refine aQ cS B bO Gh (λ_ aeX=>aD bL (aeX.ext u.aG) ?_);have E:=GF k aeV bO (by simpa using Gg);rw[aeU bO Gh]at E;refine bX (aC (λW=>?_) λW=>?_)
  .refine aQ cS B bO Gg (λ_ aeZ=>aD bL (aeZ.ext u.aG) (fh bO (aQ cS B bO Gh λ_ ae0=>aD bL (ae0.ext u.aG) (aO bO (bX ?_)))));intro v8;exact fJ (fP bO) (aO bO ⟨_,bO,k+1,rfl,rfl,bO,u⟩)
  intro v8;exact fw (aO bO ⟨_,bO,k+1,rfl,rfl,bO,u⟩)
 refine bD ([]:List Int) u cS rfl rfl (dL rfl) (λs_x72 _ u=>jT cS (B.ext u.aG) bO bO λarE akV=>?_);have M:=akV _ B;have akX:=(M.ext u.aG);refine bJ u cS akX (by simp;omega) dD (λZ _ u=>bD ([]:List Int) u cS rfl rfl (dL rfl) λs_x77 _ u=>?_);have PJ:=(I.ext u.aG);refine bJ u cS PJ (by simp;omega) dD (λapX _ u=>?_);obtain⟨QZ,rfl⟩:=u.p1.fK;obtain⟨U,rfl⟩:=u.fK;refine pop (OV _ _ _ _ _ _) (cG (x:=(⟨QZ,U,bW,bW,bW⟩:RY)) u λb_x81 _ u=>bD ([]:List Int) u cS rfl rfl (dL rfl) λagO _ u=>?_)
 have akY:=(I.ext u.aG);refine bJ u cS akY (by simp;omega) dD (λV _ u=>aE (aA se ?_));obtain⟨G,rfl⟩:=u.fK;refine aT u.p1 eh (dL rfl) (rfl) (λ_ u=>have u:=u.enc (cs':=kp (⟨QZ,U,G,bW,bW⟩:RY)) rfl;bD ([]:List Int) u cS rfl rfl (dL rfl) λJ _ u=>jT cS (I.ext u.aG) bO bO λO akZ=>?_);have Y:=akZ _ I;have ak1:=(Y.ext u.aG);refine bJ u cS ak1 (by simp;omega) dD (λs_x93 _ u=>aE (aA AF ?_));obtain⟨ak2,rfl⟩:=u.fK;refine aT u.p1 eh (dL rfl) (rfl) (λ_ u=>?_)
 have u:=(((u.enc (cs':=kp (⟨QZ,U,G,ak2,bW⟩:RY)) rfl).p1).p2).p3;have u:=u.p4.p4;simp only[List.nil_append]at u;have u:=(u.eM (α:=m7)).p5.p5.p5.p5.p5;exact⟨_,rfl,(gw.shut (m:=JO of st fi) aau u).fresh⟩
end Go.Proofs.YtpdlpabnlkofmaaGreatDoor

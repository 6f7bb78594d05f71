/-
  Part 6.
-/
import Derived.Test.YtpdlpabnlkofmaaGreatDoorR7x5
set_option maxHeartbeats 8000000
set_option linter.all false
set_option maxRecDepth 100000
open Go.Fw.Flat renaming val->hM,enc->hZ,sz->l2
open ByteArray renaming mk->ia
open List renaming getElem?_eq_some_iff->j0,mem_of_getElem?->kp,take_of_length_le->kE,length_append->kU,length_singleton->l0,getElem?_eq_none->mW,append_assoc->nk,getD_eq_getElem?_getD->n0,mem_map->n5,length_cons->ob,mem_cons_self->oi,append_nil->oo,mem_append->oF,mem_cons_of_mem->pd,mem_cons->sk,mem_singleton->ua,any_eq_false->A3,length_set->G6,length_nil->Mh,mem_or_eq_of_mem_set->RM
open Nat renaming zero_le->la,le_refl->o1,le_succ->Mc
open Go.Instr renaming build->l1,sliceAt->nT,box->yB,indexAt->FP,makeSlice->NZ
open Option renaming bind_some->ma,some->n4
open Go.Fw.Deep renaming dr->mv
open Go.Value renaming int->ng
open Bool renaming and_eq_true->n3,not_eq_true'->sl,or_eq_false_iff->JW
open Int renaming toNat_natCast->qb,le_refl->MV,eq_ofNat_of_zero_le->OT
open Decidable renaming not_not->vy
namespace Go.Proofs.YtpdlpabnlkofmaaGreatDoor
open Go.Fw
theorem aaQ{l:List bR}{i:Int}{R:List bZ×Int×Int×Int}(h:v9 l i=some R)(hi:¬ i<0):∃x,It l 10000 i 0 0=some x/\
  (if x.e≠0 then some ([],0,x.e,x.at_)else match zK x.l,l[i.toNat]? with
  | some t,some k=>if x.l.length<=10000 then(if 12<t.depth then some ([],0,7,k.at_)else if 40<x.l.length then some ([],0,2,k.at_)else some (x.l,x.to,0,0))else none
  | _,_=>none)=some R:=by
 unfold v9 at h;rw[ei hi]at h
 cases hx:It l 10000 i 0 0 with
 | none=>grind
 | some x=>grind
theorem Re{x:fL}{o:Option bR}{R:List bZ×Int×Int×Int}(h:(match zK x.l,o with
  | some t,some k=>if x.l.length<=10000 then(if 12<t.depth then some ([],0,7,k.at_)else if 40<x.l.length then some ([],0,2,k.at_)else some (x.l,x.to,0,0))else none
  | _,_=>none)=some R):∃t k,zK x.l=some t/\o=some k/\x.l.length<=10000/\(if 12<t.depth then some ([],0,7,k.at_)else if 40<x.l.length then some ([],0,2,k.at_)else some (x.l,x.to,0,0))=some R:=by
 grind
def C258(l:List bR)(j:Nat)(lv:Value)(i d n:Int)(r:fL)(w:World)(O:cZ (λ_=>True) w lv l)(hk:jh l)(HR:akK l (It l j))(h0:0<=i/\i<=l.length)(hd:0<=d/\d<=12)(hnn:0<=n/\n<=5)(hr:It l (j+1) i d n=some r):CR 258 [lv,hH i,hH d,hH n] w (λv w'=>∃sh:dX,v=hM sh/\kP (eA λw=>mv w sh r) w w'):=by
 have D9:=hk.n;have hn:l.length<=1000000:=bM
 have sB:=hk.at_;have u:=St.start w;refine ac4 _ _ _ _ _ _ ?_;unfold S258;refine aR u tF (λUI _ u=>have u:=u.enc (cs':=hZ (⟨bW,0,0,0⟩:dX)) rfl;aG (aC (λjl=>?_) λjl=>?_))
 .refine dO agJ (C294 l (It l j) _ i d r _ (O.ext u.aF) hk HR h0 hd (ahX (by rw[jl]at hr;exact hr))) ?_;rintro _ _ ⟨akN,rfl,I⟩;have u:=u.made I;obtain⟨BD,Rb,_⟩:=u.eA;subst Rb;refine aJ (x:=(⟨BD,r.to,r.e,r.at_⟩:dX)) u.p1 fX rfl rfl (λ_ u=>aD fX u.At ?_);have E:r=(⟨r.l,r.to,r.e,r.at_⟩:fL):=rfl;rw[E];have u:=u.p1.dF (Ψ:=(λw=>mv w (⟨BD,r.to,r.e,r.at_⟩:dX) (⟨r.l,r.to,r.e,r.at_⟩:fL))) (λ_ h=>⟨_,rfl,lE h⟩);have u:=u.p1.drop;exact⟨_,rfl,u.fresh⟩
 obtain⟨J,hx1,azo⟩:=asn hr jl;refine aK bM (dO Sh ((HR _ i d (n+1) J _ (O.ext u.aF) hx1 h0 hd bM).1) ?_);rintro _ _ ⟨azp,rfl,I⟩;have u:=u.made I;obtain⟨Kp,ak5,_⟩:=u.eA;subst ak5;refine aR u tF (λCm _ u=>have u:=u.enc (cs':=hZ (⟨bW,0,0,0⟩:dX)) rfl;aJ (x:=(⟨Kp,J.to,J.e,J.at_⟩:dX)) u fX rfl rfl λ_ u=>?_);have u:=u.p2.p2.p2.p1.dF (Ψ:=λw=>DL w (hM Kp) J.l) (λ_ h=>lE h);have u:=u.p2.p1.p2;refine⟨λM w'=>∃(x:fL) (g:SV),v8 (It l j) l d n M x=some r/\St w aZ [bY Cm (hZ (⟨g,x.to,x.e,x.at_⟩:dX)),eA (λw=>DL w (hM g) x.l),bY UI (hZ (⟨bW,0,0,0⟩:dX))] w',⟨j,J,Kp,azo,u⟩,?_⟩
 rintro M _ ⟨x,g,B,u⟩ _;obtain⟨j2,rfl⟩:=Q9 B;refine aA uF (aB (v:=hH x.e) jG u.hb rfl (aG (aC (λNd=>?_) λNd=>?_)))
 .have u:=u.p2.p2.p2;refine⟨λM o kk w'=>∃k:Nat,o=hH (Gf l x.to n k)/\kk=hH (k:Int)/\M=(qT n).length-k/\k<=(qT n).length/\St w aZ [bY Cm (hZ (⟨g,x.to,x.e,x.at_⟩:dX)),eA (λw=>DL w (hM g) x.l),bY UI (hZ (⟨bW,0,0,0⟩:dX))] w',⟨_,0,rfl,rfl,rfl,la _,u⟩,?_⟩;rintro M _ _ _ ⟨k,rfl,rfl,rfl,B4,u⟩ _;have hfl4:=Ra n;refine dT Xp u (C295 n _ bM) (λx31 _ I u=>aH cR u.dS (aQ (aC (λzj=>⟨λjv w'=>jv=hH (Gf l x.to n (k+1))/\St w aZ [bY Cm (hZ (⟨g,x.to,x.e,x.at_⟩:dX)),eA (λw=>DL w (hM g) x.l),bY UI (hZ (⟨bW,0,0,0⟩:dX))] w',?_,?_⟩) λzj=>?_)))
  .refine aA oX (have u:=u.drew;aB (v:=hH x.to) bO u.p1.hb rfl (dT Xp u (C295 n _ bM) λx40 _ I u=>?_));refine⟨aI bO (u.p2.hb.cell rfl),?_⟩;obtain⟨Gg,V⟩:=gx (qT n) (i:=(k:Int).toNat) bM;refine dM u cR bM bM (λ_ N1=>fZ u bO N1 V ?_);have hfb:=aaN V;refine aV aok u (C296 Gg _ bM) (λ_ he u=>?_);refine⟨aI bO (u.p2.hb.cell rfl),?_⟩;exact aV vP u (C209 _ l x.to (NV Gg) _ (O.ext u.aF) hn) (λ_ _ u=>aY (λMY=>dT Xp u (C295 n _ bM) λ_ _ _ u=>dM u cR bM bM λ_ Fs=>fZ u bO Fs V (have u:=u.drop.drop.drop.p2.p2.p2;⟨by rw[Is (k:=k) V,ej MY]<;>rfl,u⟩)) λMY=>have u:=u.drop.drop.p2.p2.p2;⟨by rw[Is (k:=k) V,ei (by simpa using MY)]<;>rfl,u⟩)
  .rintro _ _ ⟨rfl,u⟩ _;exact aK bM ⟨_,bM,k+1,rfl,rfl,rfl,bM,u⟩
  have Z:Gf l x.to n k=Kn l x.to n:=by unfold Kn;rw[show k=(qT n).length from bM]
  refine aG (aC (λuQ=>?_) λuQ=>?_)
  .refine aD fX u.p1.At (aJ (x:=(⟨g,x.to,x.e,x.at_⟩:dX)) u.p3 fX rfl rfl λ_ u=>aD fX u.At ?_);have E:r=(⟨x.l,x.to,x.e,x.at_⟩:fL):=aaO (x:=x) B bM (by rw[<- Z];exact uQ);rw[E];have u:=u.p3.dF (Ψ:=(λw=>mv w (⟨g,x.to,x.e,x.at_⟩:dX) (⟨x.l,x.to,x.e,x.at_⟩:fL))) (λ_ h=>⟨_,rfl,id h⟩);have u:=u.p1.drop.p1.drop.p1.drop;exact⟨_,rfl,u.fresh⟩
  obtain⟨t,y,h0t,ht,hy,hye,G⟩:=aaP B bM (by rw[<- Z];exact uQ);have Pp:=(j0.1 ht).1;refine aA oX (aB (v:=hH x.to) bO u.p1.hb rfl (aK bM (aK bM (dO Sh ((HR _ (x.to+1) d (n+1) y _ (O.ext u.aF) hy bM hd bM).1) ?_))));rintro _ _ ⟨azr,rfl,I⟩;have u:=u.made I;obtain⟨Y,ak7,_⟩:=u.eA;subst ak7;refine aR u tF (λb_y12 _ u=>have u:=u.enc (cs':=hZ (⟨bW,0,0,0⟩:dX)) rfl;aJ (x:=(⟨Y,y.to,y.e,y.at_⟩:dX)) u fX rfl rfl λ_ u=>aA uF (aB (v:=hH y.e) jG u.hb rfl (bV (aC (λuR=>?_) λuR=>?_))))
  .refine aD fX u.At (aJ (x:=(⟨Y,y.to,y.e,y.at_⟩:dX)) u.p5 fX rfl rfl λ_ u=>aD fX u.At ?_);have E:r=(⟨y.l,y.to,y.e,y.at_⟩:fL):=hye uR;rw[E];have u:=u.p2.dF (Ψ:=(λw=>mv w (⟨Y,y.to,y.e,y.at_⟩:dX) (⟨y.l,y.to,y.e,y.at_⟩:fL))) (λ_ h=>⟨_,rfl,lE h⟩);have u:=u.p1.drop.p1.drop.p1.drop.p1.drop.p1.drop;exact⟨_,rfl,u.fresh⟩
  refine aA oX (aB (v:=hH x.to) bO u.p3.hb rfl (aN fK (O.ext u.aF) bM ht λ_ Zp=>bU t.at_ lL Zp rfl rfl λ_ asq=>aD bO asq (pop (EL _ _) (bD ([(⟨(Gf l x.to n k),0,(ia #[]),t.at_⟩:bZ)]) u g9 rfl rfl (dR rfl) λasr _ u=>aA sd (aB (v:=hM (g:SV)) jH u.p4.hb rfl ?_)))));have zI:=(G bM).1;have ak8:=(DL.flat (id u.p5.eA));refine bL u g9 ak8 (by simp;omega) dC (λaqU _ u=>aA sd (aB (v:=hM (Y:SV)) jH u.p1.hb rfl ?_));have ak9:=(DL.flat (lE u.p2.eA))
  refine bL u g9 ak9 (by simp;omega) dC (λs_x82 _ u=>aA oX (aB (v:=hH y.to) bO u.p1.hb rfl ?_));obtain⟨U,rfl⟩:=u.fV;refine pop (zD _ _ _ _) (aJ (x:=(⟨U,y.to,0,0⟩:dX)) u.p4 fX rfl rfl λ_ u=>aG (aC (λFB=>?_) λFB=>?_))
  .refine aD fX u.At (aJ (x:=(⟨U,y.to,0,0⟩:dX)) u.p6 fX rfl rfl λ_ u=>aD fX u.At ?_);have E:r=(⟨(([(⟨(Gf l x.to n k),0,(ia #[]),t.at_⟩:bZ)]++x.l)++y.l),y.to,0,0⟩:fL):=((G bM).2.1 FB).trans (by rw[<- Z]);rw[E];have u:=u.p2.freeze.dF (Ψ:=(λw=>mv w (⟨U,y.to,0,0⟩:dX) (⟨(([(⟨(Gf l x.to n k),0,(ia #[]),t.at_⟩:bZ)]++x.l)++y.l),y.to,0,0⟩:fL))) (λ_ h=>⟨_,rfl,DL.jV h⟩);have u:=u.p1.drop.p1.drop.p1.drop.p1.drop.p1.drop.p1.drop;exact⟨_,rfl,u.fresh⟩
  have u:=u.p1.freeze.dF (Ψ:=λw=>DL w (hM U) ([(⟨Gf l x.to n k,0,ia #[],t.at_⟩:bZ)]++x.l++y.l)) (λ_ h=>DL.jV h);have u:=u.p2.drop.p2.drop.p2.drop.p2.drop.p2.p1.p2;have W:=(G bM).2.2 FB;rw[<- Z]at W;exact⟨_,bM,⟨_,_,_,_⟩,U,W,u⟩
 refine aD fX u.At (aJ (x:=(⟨g,x.to,x.e,x.at_⟩:dX)) u.p2 fX rfl rfl λ_ u=>aD fX u.At ?_);have E:r=(⟨x.l,x.to,x.e,x.at_⟩:fL):=afi (x:=x) B bM;rw[E];have u:=u.p2.dF (Ψ:=(λw=>mv w (⟨g,x.to,x.e,x.at_⟩:dX) (⟨x.l,x.to,x.e,x.at_⟩:fL))) (λ_ h=>⟨_,rfl,id h⟩);have u:=u.p1.drop.p1.drop;exact⟨_,rfl,u.fresh⟩
theorem ala{l:List bR}(u:jh l):∀j,akK l (It l j)
 | 0=>λlv i d n r w E B=>by cases B
 | j+1=>λlv i d n r w E B G hd I=>⟨C258 l j lv i d n r w E u (ala u j) G hd I B,λh5=>by subst h5;exact C294 l (It l j) lv i d r w E u (ala u j) G hd (ahX B)⟩
def C213(l:List bR)(lv:Value)(i:Int)(R:List bZ×Int×Int×Int)(w:World)(hL:cZ (λ_=>True) w lv l)(Y:jh l)(hil:i<=l.length)(J:v9 l i=some R):CR 213 [lv,hH i] w (λv w'=>∃sv:SV,v=.tuple #[hM sv,hH R.2.1,hH R.2.2.1,hH R.2.2.2]/\kP (eA λw=>DL w (hM sv) R.1) w w'):=by
 have D9:=Y.n;have hn:l.length<=1000000:=bM
 have sB:=Y.at_;have u:=St.start w;refine py Tryz.func213 (pl:=av3) ?_;refine aQ (aC (λgN=>?_) λgN=>?_)
 .have B:R=([],0,1,0):=by
   unfold v9 at J;rw[ej gN]at J;exact(n4.inj J).symm
  rw[B];exact⟨bW,rfl,(u.fH (Φ:=λw=>DL w (hM (bW:SV)) ([]:List bZ)) λw=>DL.nil w).fresh⟩
 obtain⟨x,hx,O⟩:=aaQ J bM;refine dO Sh ((ala Y 10000 _ i 0 0 x _ (hL.ext u.aF) hx bM bM bM).1) ?_;rintro _ _ ⟨azs,rfl,cK⟩;have u:=u.made cK;obtain⟨E,V,_⟩:=u.eA;subst V;refine aR u tF (λUI _ u=>have u:=u.enc (cs':=hZ (⟨bW,0,0,0⟩:dX)) rfl;aJ (x:=(⟨E,x.to,x.e,x.at_⟩:dX)) u fX rfl rfl λ_ u=>aA uF (aB (v:=hH x.e) jG u.hb rfl (bV (aC (λW=>?_) λW=>?_))))
 .refine aA uF (have u:=u.drew;aB (v:=hH x.e) jG u.hb rfl (aA XJ (aB (v:=hH x.at_) bO u.hb rfl ?_)))
  have B:R=([],0,x.e,x.at_):=by
   rw[ej W]at O;exact(n4.inj O).symm
  rw[B];exact⟨bW,rfl,(u.fH (Φ:=λw=>DL w (hM (bW:SV)) ([]:List bZ)) λw=>DL.nil w).fresh⟩
 rw[ei W]at O;obtain⟨tr,M,U,HX,hxl,G⟩:=Re O;have htki:=(j0.1 HX).1;obtain⟨hwf,tW⟩:=vu U;have Z:B5 x.l 0 tr:=⟨bM,hwf,[],by simpa using tW⟩;refine aA sd (aB (v:=hM (E:SV)) jH u.hb rfl (aV Xk u (C252 _ x.l 0 tr (tr.size+1) _ (DL.flat (lE u.p1.eA)) bM Z bM) λ_ he u=>cP (aC (λI=>?_) λI=>aA sd (aB (v:=hM (E:SV)) jH u.hb rfl (aH g9 (DL.flat (lE u.p1.eA)) (cP (aC (λzj=>?_) λzj=>?_)))))))
 .refine aN fK (hL.ext u.aF) bM HX (λ_ sn=>bU M.at_ lL sn rfl rfl λ_ Fe=>have u:=u.drew;aD bO Fe ?_)
  have B:R=([],0,7,M.at_):=by
   rw[ej I]at G;exact(n4.inj G).symm
  rw[B];exact⟨bW,rfl,(u.fH (Φ:=λw=>DL w (hM (bW:SV)) ([]:List bZ)) λw=>DL.nil w).fresh⟩
 .refine aN fK (hL.ext u.aF) bM HX (λ_ Ba=>bU M.at_ lL Ba rfl rfl λ_ xn=>have u:=u.drew;aD bO xn ?_)
  have B:R=([],0,2,M.at_):=by
   rw[ei I,ej bM]at G;exact(n4.inj G).symm
  rw[B];exact⟨bW,rfl,(u.fH (Φ:=λw=>DL w (hM (bW:SV)) ([]:List bZ)) λw=>DL.nil w).fresh⟩
 refine aA sd (have u:=u.drew;aB (v:=hM (E:SV)) jH u.hb rfl (aA oX (aB (v:=hH x.to) bO u.hb rfl ?_)));have u:=u.p1.dF (Ψ:=λw=>DL w (hM E) x.l) (λ_ h=>lE h)
 have B:R=(x.l,x.to,0,0):=by
  rw[ei I,ei bM]at G;exact(n4.inj G).symm
 rw[B];exact⟨E,rfl,u.fresh⟩
structure fO where
 at_:Int
 e:Int
 pos:Int
deriving DecidableEq
def js(l:List bR)(s:fO)(e:Int):fO:=if s.e=0 then {s with e:=if (l.length:Int)<=s.at_ then 6 else e,pos:=nq l s.at_}else s
def dU(l:List bR)(s:fO)(t:ByteArray):fO:=if (decide (s.e=0)&&tM l s.at_ t)=true then {s with at_:=s.at_+1}else js l s 5
def lZ(l:List bR)(i:Int):Option bR:=if 0<=i then l[i.toNat]? else none
def tN(l:List bR)(s:fO):Bool:=decide (s.e=0)&&(match lZ l s.at_ with|some t=>decide (t.kind=1)&&gQ t.text|none=>false)
def pF(l:List bR)(i:Int):bR:=(lZ l i).getD ⟨0,⟨#[]⟩,0,0⟩
def dB(l:List bR)(s:fO):fO×ByteArray:=if tN l s=true then({s with at_:=s.at_+1},(pF l s.at_).text)else(js l s 5,⟨#[]⟩)
def rj(l:List bR)(s:fO):Option (fO×List bZ):=if s.e≠0 then some (s,[])else(v9 l s.at_).bind λR=>
 if R.2.2.1≠0 then some ({s with e:=R.2.2.1,pos:=R.2.2.2},[])else if 0<=R.2.1/\R.2.1<=l.length then some ({s with at_:=R.2.1},R.1)else none
def Rf(l:List bR)(s:fO):Bool:=decide (s.e=0)&&(match lZ l s.at_ with|some t=>decide (t.kind=2)|none=>false)
def kZ(l:List bR)(s:fO):fO×Int:=if Rf l s=true then(if 1<=(pF l s.at_).n/\(pF l s.at_).n<=8 then({s with at_:=s.at_+1},(pF l s.at_).n)else(js l s 11,0))else(js l s 5,0)
def Ej:List ByteArray:=[⟨#[]⟩,⟨#[]⟩,⟨#[108,111,97,100]⟩,⟨#[115,116,111,114,101]⟩,⟨#[99,97,115]⟩,⟨#[102,108,117,115,104]⟩,⟨#[111,112,116]⟩,⟨#[115,102,101,110,99,101]⟩,⟨#[109,102,101,110,99,101]⟩,⟨#[116,97,107,101]⟩,⟨#[103,105,118,101]⟩,⟨#[105,102]⟩,⟨#[108,111,111,112]⟩,⟨#[98,114,101,97,107]⟩,⟨#[99,104,101,99,107]⟩]
def Iu(k:Int):ByteArray:=(Ej[k.toNat]?).getD ⟨#[]⟩
def lF(l:List bR)(s:fO):Prop:=0<=s.at_/\s.at_<=l.length
section
variable {l:List bR}{s:fO}{e:Int}{t:ByteArray}
theorem tO(h:lF l s):lF l (js l s e):=by unfold js;split<;>exact h
theorem fI(h:lF l s):lF l (dU l s t):=by
 unfold dU;split
 .rename_i h2
  rw[n3]at h2
  have:=sT h2.2
  exact⟨cJ,cJ⟩
 exact tO h
theorem mL{i:Int}{k:bR}(h:lZ l i=some k):0<=i/\i<l.length/\l[i.toNat]?=some k:=by
 unfold lZ at h
 grind
theorem BE(h:tN l s=true):s.e=0/\∃k,lZ l s.at_=some k/\k.kind=1/\gQ k.text=true:=by
 unfold tN at h
 grind
theorem TU(h:Rf l s=true):s.e=0/\∃k,lZ l s.at_=some k/\k.kind=2:=by
 unfold Rf at h
 grind
theorem gR(h:lF l s):lF l (dB l s).1:=by
 unfold dB;split
 .rename_i h2
  obtain⟨_,k,u,_⟩:=BE h2
  have:=mL u
  exact⟨cJ,cJ⟩
 exact tO h
theorem VH(h:lF l s):lF l (kZ l s).1:=by
 unfold kZ;split
 .rename_i h2
  obtain⟨_,k,u,_⟩:=TU h2
  have:=mL u
  split
  .exact⟨cJ,cJ⟩
  exact tO h
 exact tO h
theorem sU{s':fO}{x:List bZ}(h:lF l s)(u:rj l s=some (s',x)):lF l s':=by
 unfold rj at u
 split at u
 .grind
 cases hx:v9 l s.at_ with
 | none=>grind
 | some R=>
  grind[lF]
end
@[reducible] def ek(lv ov:Value)(s:fO):List Value:=[lv,.int .i64 s.at_,.int .i64 s.e,.int .i64 s.pos,ov]
@[reducible] def ey(lv:Value)(s:fO):List Value:=[lv,.int .i64 s.at_,.int .i64 s.e,.int .i64 s.pos]
def iE(l:List bR)(s:fO)(t:ByteArray):fO×Bool:=if (decide (s.e=0)&&tM l s.at_ t)=true then({s with at_:=s.at_+1},true)else(s,false)
def fc(l:List bR)(s:fO):fO×cI:=if tN l s=true then({s with at_:=s.at_+1},⟨(pF l s.at_).text,0,(pF l s.at_).at_⟩)else(js l s 5,⟨⟨#[]⟩,0,0⟩)
def kx{l:List bR}{s:fO}{t:ByteArray}(h:lF l s):lF l (iE l s t).1:=by
 unfold iE;split
 .rename_i h2
  rw[n3]at h2
  have:=sT h2.2
  exact⟨cJ,cJ⟩
 exact h
def uZ{l:List bR}{s:fO}(h:lF l s):lF l (fc l s).1:=by
 unfold fc;split
 .rename_i h2
  obtain⟨_,k,u,_⟩:=BE h2
  have:=mL u
  exact⟨cJ,cJ⟩
 exact tO h
theorem aaR{l:List bR}{s u:fO}{x:List bZ}(h:rj l s=some (u,x))(B:¬ s.e≠0):∃R,v9 l s.at_=some R/\
  (if R.2.2.1≠0 then some ({s with e:=R.2.2.1,pos:=R.2.2.2},[])else if 0<=R.2.1/\R.2.1<=l.length then some ({s with at_:=R.2.1},R.1)else none)=some (u,x):=by
 unfold rj at h;rw[ei B]at h
 cases hx:v9 l s.at_ with
 | none=>grind
 | some R=>grind
def aaS{l:List bR}{s u:fO}{x:List bZ}{R:List bZ×Int×Int×Int}(h:(if R.2.2.1≠0 then some ({s with e:=R.2.2.1,pos:=R.2.2.2},[])else if 0<=R.2.1/\R.2.1<=l.length then some ({s with at_:=R.2.1},R.1)else none)=some (u,x))(B:¬ R.2.2.1≠0):0<=R.2.1/\R.2.1<=l.length:=by
 grind
def C291(p:Nat)(lv ov:Value)(l:List bR)(s:fO)(e:Int)(F:Nat->Prop)(w:World)(Y:(bY p (ek lv ov s)).p w F)(E:∀w',gz F w w'->cZ (λ_=>True) w' lv l)(J:jh l)(W:lF l s):CR 291 [(.pointer (some ⟨p,0,none⟩)),hH e] w (λv w'=>v=.tuple #[]/\mP F (bY p (ek lv ov (js l s e))) w w'):=by
 have u:=St.begin Y;have D9:=J.n;have I:l.length<=1000000:=bM
 have M:=J.at_;obtain⟨TV,TW⟩:=id W;refine py Tryz.func291 (pl:=awh) ?_;refine aE (aA kN (aB jG u.hb rfl (aG (aC (λB=>aE (aA kN (aW u jG (dR rfl) (rfl) λ_ u=>⟨_,aE (aA fb (have u:=u.drew;aB bO u.hb rfl (aE (aA iJ (aB jk u.hb rfl (aH fK (E _ u.aF) (cQ (aC (λG=>?_) λG=>?_)))))))),λ_ h=>h⟩))) λB=>?_))))
 .refine aE (aA kN (aW u jG (dR rfl) (rfl) λ_ u=>?_));intro Z;refine aE (aA iJ (have u:=u.drew;aB jk u.hb rfl (aE (aA fb (aB bO u.hb rfl (aV Hq u (C214 _ l s.at_ _ (E _ u.aF) I M) λV O u=>aE (aA AR (aW u bO (dR rfl) (rfl) λU u=>?_))))))));have hb:js l s e=(⟨s.at_,6,(nq l s.at_)⟩:fO):=by unfold js;rw[ej B,ej G]
  rw[hb];exact⟨rfl,u.mut⟩
 .intro Z;refine aE (aA iJ (have u:=u.drew;aB jk u.hb rfl (aE (aA fb (aB bO u.hb rfl (aV Hq u (C214 _ l s.at_ _ (E _ u.aF) I M) λV O u=>aE (aA AR (aW u bO (dR rfl) (rfl) λU u=>?_))))))));have hb:js l s e=(⟨s.at_,e,(nq l s.at_)⟩:fO):=by unfold js;rw[ej B,ei G]
  rw[hb];exact⟨rfl,u.mut⟩
 have hb:js l s e=s:=by unfold js;rw[ei B]
 rw[hb];exact⟨rfl,u.mut⟩
def C136(p:Nat)(lv:Value)(l:List bR)(s:fO)(F:Nat->Prop)(w:World)(Y:(bY p (ey lv s)).p w F)(E:∀w',gz F w w'->cZ (λ_=>True) w' lv l)(J:jh l)(W:lF l s):CR 136 [(.pointer (some ⟨p,0,none⟩))] w (λv w'=>v=.tuple #[]/\mP F (bY p (ey lv (js l s 5))) w w'):=by
 have u:=St.begin Y;have D9:=J.n;have I:l.length<=1000000:=bM
 have M:=J.at_;obtain⟨TV,TW⟩:=id W;refine py Tryz.func136 (pl:=avT) ?_;refine aE (aA ml (aB jG u.hb rfl (aG (aC (λB=>aE (aA ml (aW u jG (dR rfl) (rfl) λ_ u=>⟨_,aE (aA fx (have u:=u.drew;aB bO u.hb rfl (aE (aA j4 (aB jk u.hb rfl (aH fK (E _ u.aF) (cQ (aC (λG=>?_) λG=>?_)))))))),λ_ h=>h⟩))) λB=>?_))))
 .refine aE (aA ml (aW u jG (dR rfl) (rfl) λ_ u=>?_));intro Z;refine aE (aA j4 (have u:=u.drew;aB jk u.hb rfl (aE (aA fx (aB bO u.hb rfl (aV Hq u (C214 _ l s.at_ _ (E _ u.aF) I M) λV O u=>aE (aA wU (aW u bO (dR rfl) (rfl) λU u=>?_))))))));have hb:js l s 5=(⟨s.at_,6,(nq l s.at_)⟩:fO):=by unfold js;rw[ej B,ej G]
  rw[hb];exact⟨rfl,u.mut⟩
 .intro Z;refine aE (aA j4 (have u:=u.drew;aB jk u.hb rfl (aE (aA fx (aB bO u.hb rfl (aV Hq u (C214 _ l s.at_ _ (E _ u.aF) I M) λV O u=>aE (aA wU (aW u bO (dR rfl) (rfl) λU u=>?_))))))));have hb:js l s 5=(⟨s.at_,5,(nq l s.at_)⟩:fO):=by unfold js;rw[ej B,ei G]
  rw[hb];exact⟨rfl,u.mut⟩
 have hb:js l s 5=s:=by unfold js;rw[ei B]
 rw[hb];exact⟨rfl,u.mut⟩
def C257(p:Nat)(lv ov:Value)(l:List bR)(s:fO)(t:ByteArray)(F:Nat->Prop)(w:World)(W:(bY p (ek lv ov s)).p w F)(I:∀w',gz F w w'->cZ (λ_=>True) w' lv l)(G:jh l)(J:lF l s):CR 257 [(.pointer (some ⟨p,0,none⟩)),.string t] w (λv w'=>v=.tuple #[]/\mP F (bY p (ek lv ov (dU l s t))) w w'):=by
 have u:=St.begin W;have D9:=G.n;have O:l.length<=1000000:=bM
 have sB:=G.at_;obtain⟨TV,TW⟩:=id J;refine py Tryz.func257 (pl:=awb) ?_;refine⟨λM w'=>M=.bool (decide (s.e=0)&&tM l s.at_ t)/\St w F [bY p (ek lv ov s)] w',aE (aA kN (have u:=u.drew;aB jG u.hb rfl (aG (aC (λE=>aE (aA iJ (aB jk u.hb rfl (aE (aA fb (aB bO u.hb rfl (aV vP u (C209 _ l s.at_ t _ (I _ u.aF) O) λ_ _ u=>⟨vb (by first|(rw[ew E];rfl)|(rw[ez E];rfl)),u⟩))))))) λE=>⟨vb (by first|(rw[ew E];rfl)|(rw[ez E];rfl)),u⟩)))),?_⟩;rintro _ _ ⟨rfl,u⟩ _;refine aY (λB=>?_) (λB=>?_)
 .have Y:=sT (by rw[n3]at B;exact B.2);refine aE (aA fb (aB bO u.hb rfl (aK bM (aE (aA fb (aW u bO (dR rfl) (rfl) λ_ u=>?_))))));have hb:dU l s t={s with at_:=s.at_+1}:=by unfold dU;rw[ej (by simpa using B)]
  rw[hb];exact⟨rfl,u.mut⟩
 refine bF Hs u (H':=λ_=>bY p (ek lv ov (js l s 5))) (Φ:=λ_ _=>True) (λU V Z=>?_) ?_
 .exact(C291 p lv ov l s 5 U _ V (λw' hc=>I w' (Z w' hc).aF) G J).mono λ_ _ r=>r.mono λ_ _ h=>⟨trivial,h.2⟩
 rintro _ _ _ u;have hb:dU l s t=js l s 5:=by unfold dU;rw[ei (by simpa using B)]
 rw[hb];exact⟨rfl,u.mut⟩
def C131(p:Nat)(lv:Value)(l:List bR)(s:fO)(t:ByteArray)(F:Nat->Prop)(w:World)(O:(bY p (ey lv s)).p w F)(I:∀w',gz F w w'->cZ (λ_=>True) w' lv l)(G:jh l)(M:lF l s):CR 131 [(.pointer (some ⟨p,0,none⟩)),.string t] w (λv w'=>v=.bool (iE l s t).2/\mP F (bY p (ey lv (iE l s t).1)) w w'):=by
 have u:=St.begin O;have Z:=G.n;have J:l.length<=1000000:=bM
 have Y:=G.at_;obtain⟨W,TW⟩:=id M;refine py Tryz.func131 (pl:=avK) ?_;refine⟨λV w'=>V=.bool (decide (s.e=0)&&tM l s.at_ t)/\St w F [bY p (ey lv s)] w',aE (aA ml (have u:=u.drew;aB jG u.hb rfl (aG (aC (λB=>aE (aA j4 (aB jk u.hb rfl (aE (aA fx (aB bO u.hb rfl (aV vP u (C209 _ l s.at_ t _ (I _ u.aF) J) λ_ _ u=>⟨vb (by first|(rw[ew B];rfl)|(rw[ez B];rfl)),u⟩))))))) λB=>⟨vb (by first|(rw[ew B];rfl)|(rw[ez B];rfl)),u⟩)))),?_⟩;rintro _ _ ⟨rfl,u⟩ _;refine aY (λE=>?_) (λE=>?_)
 .have U:=sT (by rw[n3]at E;exact E.2);refine aE (aA fx (aB bO u.hb rfl (aK bM (aE (aA fx (aW u bO (dR rfl) (rfl) λ_ u=>?_))))));have hb:iE l s t=({s with at_:=s.at_+1},true):=by unfold iE;rw[ej (by simpa using E)]
  rw[hb];exact⟨rfl,u.mut⟩
 have hb:iE l s t=(s,false):=by unfold iE;rw[ei (by simpa using E)]
 rw[hb];exact⟨rfl,u.mut⟩
def C210(p:Nat)(lv:Value)(l:List bR)(s:fO)(t:ByteArray)(F:Nat->Prop)(w:World)(W:(bY p (ey lv s)).p w F)(V:∀w',gz F w w'->cZ (λ_=>True) w' lv l)(E:jh l)(M:lF l s):CR 210 [(.pointer (some ⟨p,0,none⟩)),.string t] w (λv w'=>v=.tuple #[]/\mP F (bY p (ey lv (dU l s t))) w w'):=by
 have B:=St.begin W;have D9:=E.n;have hn:l.length<=1000000:=bM
 have sB:=E.at_;obtain⟨Y,TW⟩:=id M;refine eZ Tryz.func210 ?_;refine bF yT B (H':=λ_=>bY p (ey lv (iE l s t).1)) (Φ:=λv _=>v=.bool (iE l s t).2) (λI J U=>?_) ?_
 .exact C131 p lv l s t I _ J (λw' hc=>V w' (U w' hc).aF) E M
 rintro _ w1 rfl B;refine bQ (aY (λG=>?_) λG=>?_)
 .refine bF Sa B (H':=λ_=>bY p (ey lv (js l (iE l s t).1 5))) (Φ:=λ_ _=>True) (λI J U=>?_) ?_
  .exact(C136 p lv l (iE l s t).1 I _ J (λw' hc=>V w' (U w' hc).aF) E (kx M)).mono λ_ _ r=>r.mono λ_ _ h=>⟨trivial,h.2⟩
  rintro _ Z _ B
  have O:dU l s t=js l (iE l s t).1 5:=by
   have u:(iE l s t).2=false:=by simpa using G
   unfold iE at u |-;unfold dU
   split at u
   .cases u
   .rename_i h8;rw[ei h8,ei h8]
  rw[O];exact⟨rfl,B.mut⟩
 have O:dU l s t=(iE l s t).1:=by
  have u:(iE l s t).2=true:=by simpa using G
  unfold iE at u |-;unfold dU
  split at u
  .rename_i h8;rw[ej h8,ej h8]
  .cases u
 rw[O];exact⟨rfl,B.mut⟩
def C317(p:Nat)(lv ov:Value)(l:List bR)(s:fO)(F:Nat->Prop)(w:World)(hF:(bY p (ek lv ov s)).p w F)(I:∀w',gz F w w'->cZ (λ_=>True) w' lv l)(O:jh l)(Y:lF l s):CR 317 [(.pointer (some ⟨p,0,none⟩))] w (λv w'=>v=.string (dB l s).2/\mP F (bY p (ek lv ov (dB l s).1)) w w'):=by
 have u:=St.begin hF;have D9:=O.n;have hn:l.length<=1000000:=bM
 have sB:=O.at_;obtain⟨TV,TW⟩:=id Y;refine py Tryz.func317 (pl:=awp) ?_;refine⟨λjv w'=>jv=.bool (tN l s)/\St w F [bY p (ek lv ov s)] w',?_,?_⟩
 .refine aE (aA kN (have u:=u.drew;aB jG u.hb rfl (aG (aC (λB=>aE (aA fb (aB bO u.hb rfl (aE (aA iJ (aB jk u.hb rfl (aH fK (I _ u.aF) (aQ (aC (λlP=>?_) λlP=>⟨vb (by unfold tN lZ;first|(rw[ez B];rfl)|(rw[ej bM,mW bM];simp;done)|(rw[ej bM,G,ew B];dsimp only;first|(rw[ez E];rfl)|(rw[ew E];rfl))),u⟩))))))))) λB=>⟨vb (by unfold tN lZ;first|(rw[ez B];rfl)|(rw[ej bM,mW bM];simp;done)|(rw[ej bM,G,ew B];dsimp only;first|(rw[ez E];rfl)|(rw[ew E];rfl))),u⟩))))
  refine aE (aA iJ (aB jk u.hb rfl (aE (aA fb (aB bO u.hb rfl ?_)))));obtain⟨W,G⟩:=gx l (i:=s.at_.toNat) bM;refine aN fK (I _ u.aF) bM G (λ_ A8=>bU (W).kind lK A8 rfl rfl λ_ my=>?_);exact aD bO my (aG (aC (λE=>aE (aA iJ (aB jk u.hb rfl (aE (aA fb (aB bO u.hb rfl (aN fK (I _ u.aF) bM G λ_ vX=>bU (W).text nz vX rfl rfl λ_ uU=>aD gB uU (aV uy u (C211 _ _ (by have:=sB _ (kp G);omega)) λ_ he u=>⟨vb (by unfold tN lZ;first|(rw[ez B];rfl)|(rw[ej bM,mW bM];simp;done)|(rw[ej bM,G,ew B];dsimp only;first|(rw[ez E];rfl)|(rw[ew E];rfl))),u⟩)))))))) λE=>⟨vb (by unfold tN lZ;first|(rw[ez B];rfl)|(rw[ej bM,mW bM];simp;done)|(rw[ej bM,G,ew B];dsimp only;first|(rw[ez E];rfl)|(rw[ew E];rfl))),u⟩))
 rintro _ _ ⟨rfl,u⟩ _;refine aY (λJ=>?_) (λJ=>?_)
 .obtain⟨_,V,Z,_,_⟩:=BE J;obtain⟨ass,ast,U⟩:=mL Z;have HX:l[(s.at_+1-1).toNat]?=some V:=by rw[<- U];congr 2;omega
  refine aE (aA fb (aB bO u.hb rfl (aK bM (aE (aA fb (aW u bO (dR rfl) (rfl) λ_ u=>aE (aA iJ (have u:=u.drew;aB jk u.hb rfl (aE (aA fb (aB bO u.hb rfl ?_)))))))))));refine fr bM (aN fK (I _ u.aF) bM HX λ_ Dd=>bU V.text nz Dd rfl rfl λ_ M=>aD gB M ?_);have hb:dB l s=({s with at_:=s.at_+1},V.text):=by unfold dB;rw[ej J];unfold pF;rw[Z];rfl
  rw[hb];exact⟨rfl,u.mut⟩
 refine bF Hs u (H':=λ_=>bY p (ek lv ov (js l s 5))) (Φ:=λ_ _=>True) (λF2 ef dV=>?_) ?_
 .exact(C291 p lv ov l s 5 F2 _ ef (λw' hc=>I w' (dV w' hc).aF) O Y).mono λ_ _ r=>r.mono λ_ _ h=>⟨trivial,h.2⟩
 rintro _ _ _ u;have hb:dB l s=(js l s 5,⟨#[]⟩):=by unfold dB;rw[ei (by simpa using J)]
 rw[hb];exact⟨rfl,u.mut⟩
def C133(p:Nat)(lv:Value)(l:List bR)(s:fO)(F:Nat->Prop)(w:World)(hF:(bY p (ey lv s)).p w F)(J:∀w',gz F w w'->cZ (λ_=>True) w' lv l)(V:jh l)(h0:lF l s):CR 133 [(.pointer (some ⟨p,0,none⟩))] w (λv w'=>v=hM (fc l s).2/\mP F (bY p (ey lv (fc l s).1)) w w'):=by
 have u:=St.begin hF;have D9:=V.n;have hn:l.length<=1000000:=bM
 have sB:=V.at_;obtain⟨TV,TW⟩:=id h0;refine py Tryz.func133 (pl:=avQ) ?_;refine aR u oU (λwj _ u=>⟨λjv w'=>jv=.bool (tN l s)/\St w F [bY p (ey lv s),bY wj (hZ (⟨ia #[],0,0⟩:cI))] w',?_,?_⟩)
 .refine aE (aA ml (have u:=u.drew;aB jG u.p1.hb rfl (aG (aC (λB=>aE (aA fx (aB bO u.p1.hb rfl (aE (aA j4 (aB jk u.p1.hb rfl (aH fK (J _ u.aF) (aQ (aC (λlP=>?_) λlP=>have u:=u.p1;⟨vb (by unfold tN lZ;first|(rw[ez B];rfl)|(rw[ej bM,mW bM];simp;done)|(rw[ej bM,I,ew B];dsimp only;first|(rw[ez E];rfl)|(rw[ew E];rfl))),u⟩))))))))) λB=>have u:=u.p1;⟨vb (by unfold tN lZ;first|(rw[ez B];rfl)|(rw[ej bM,mW bM];simp;done)|(rw[ej bM,I,ew B];dsimp only;first|(rw[ez E];rfl)|(rw[ew E];rfl))),u⟩))))
  refine aE (aA j4 (aB jk u.p1.hb rfl (aE (aA fx (aB bO u.p1.hb rfl ?_)))));obtain⟨Y,I⟩:=gx l (i:=s.at_.toNat) bM;refine aN fK (J _ u.aF) bM I (λ_ A8=>bU Y.kind lK A8 rfl rfl λ_ my=>?_);exact aD bO my (aG (aC (λE=>aE (aA j4 (aB jk u.p1.hb rfl (aE (aA fx (aB bO u.p1.hb rfl (aN fK (J _ u.aF) bM I λ_ vX=>bU Y.text nz vX rfl rfl λ_ uU=>aD gB uU (aV uy u (C211 _ _ (by have:=sB _ (kp I);omega)) λ_ he u=>have u:=u.p1;⟨vb (by unfold tN lZ;first|(rw[ez B];rfl)|(rw[ej bM,mW bM];simp;done)|(rw[ej bM,I,ew B];dsimp only;first|(rw[ez E];rfl)|(rw[ew E];rfl))),u⟩)))))))) λE=>have u:=u.p1;⟨vb (by unfold tN lZ;first|(rw[ez B];rfl)|(rw[ej bM,mW bM];simp;done)|(rw[ej bM,I,ew B];dsimp only;first|(rw[ez E];rfl)|(rw[ew E];rfl))),u⟩))
 rintro _ _ ⟨rfl,u⟩ _;refine aY (λM=>?_) (λM=>?_)
 .obtain⟨_,G,Z,_,_⟩:=BE M;obtain⟨ass,ast,W⟩:=mL Z;have HX:l[(s.at_+1-1).toNat]?=some G:=by rw[<- W];congr 2;omega
  refine aE (aA fx (aB bO u.hb rfl (aK bM (aE (aA fx (aW u bO (dR rfl) (rfl) λ_ u=>aE (aA j4 (have u:=u.drew;aB jk u.hb rfl (aE (aA fx (aB bO u.hb rfl ?_)))))))))));refine fr bM (aN fK (J _ u.aF) bM HX λ_ Dd=>bU G.text nz Dd rfl rfl λ_ O=>aD gB O (aE (aA j4 (aB jk u.hb rfl (aE (aA fx (aB bO u.hb rfl (fr bM (aN fK (J _ u.aF) bM HX λ_ U=>bU G.at_ lL U rfl rfl λ_ N3=>?_)))))))))
  refine aD bO N3 (pop (EK _ _) (aJ (x:=(⟨G.text,0,G.at_⟩:cI)) u.p1 l6 rfl rfl λ_ u=>aD l6 u.At ?_));have u:=u.drop;have hb:fc l s=({s with at_:=s.at_+1},⟨G.text,0,G.at_⟩):=by unfold fc;rw[ej M];unfold pF;rw[Z];rfl
  rw[hb];exact⟨rfl,u.mut⟩
 refine bF Sa u (H':=λ_=>bY p (ey lv (js l s 5))) (Φ:=λ_ _=>True) (λF2 ef dV=>?_) ?_
 .exact(C136 p lv l s F2 _ ef (λw' hc=>J w' (dV w' hc).aF) V h0).mono λ_ _ r=>r.mono λ_ _ h=>⟨trivial,h.2⟩
 rintro _ _ _ u;refine pop adu (aJ (x:=(⟨(ia #[]),0,0⟩:cI)) u.p1 l6 rfl rfl λ_ u=>aD l6 u.At ?_);have u:=u.drop;have hb:fc l s=(js l s 5,⟨⟨#[]⟩,0,0⟩):=by unfold fc;rw[ei (by simpa using M)]
 rw[hb];exact⟨rfl,u.mut⟩
def C290(k:Int)(w:World)(M:0<=k/\k<=14):CR 290 [hH k] w (λv w'=>v=.string (Iu k)/\Ext w w'):=by
 have u:=St.start w;refine eZ Tryz.func290 ?_;refine bD Ej u iF rfl rfl (dR rfl) (λI _ u=>?_);have J:Ej.length=15:=rfl;obtain⟨G,E⟩:=gx Ej (i:=k.toNat) bM;refine dM u iF bM bM (λ_ B=>fZ u gB B E ?_);refine⟨?_,u.drop.aF⟩;unfold Iu;rw[E];rfl
def C319(p:Nat)(lv ov:Value)(l:List bR)(s:fO)(F:Nat->Prop)(w:World)(hF:(bY p (ek lv ov s)).p w F)(E:∀w',gz F w w'->cZ (λ_=>True) w' lv l)(J:jh l)(Y:lF l s):CR 319 [(.pointer (some ⟨p,0,none⟩))] w (λv w'=>v=hH (kZ l s).2/\mP F (bY p (ek lv ov (kZ l s).1)) w w'):=by
 have u:=St.begin hF;have D9:=J.n;have hn:l.length<=1000000:=bM
 have sB:=J.at_;obtain⟨TV,TW⟩:=id Y;refine py Tryz.func319 (pl:=awr) ?_;refine⟨λjv w'=>jv=.bool (Rf l s)/\St w F [bY p (ek lv ov s)] w',?_,?_⟩
 .refine aE (aA kN (have u:=u.drew;aB jG u.hb rfl (aG (aC (λB=>aE (aA fb (aB bO u.hb rfl (aE (aA iJ (aB jk u.hb rfl (aH fK (E _ u.aF) (aQ (aC (λfu=>?_) λfu=>⟨vb (by unfold Rf lZ;first|(rw[ez B];rfl)|(rw[ej bM,mW bM];simp;done)|(rw[ej bM,I,ew B];rfl)),u⟩))))))))) λB=>⟨vb (by unfold Rf lZ;first|(rw[ez B];rfl)|(rw[ej bM,mW bM];simp;done)|(rw[ej bM,I,ew B];rfl)),u⟩))))
  refine aE (aA iJ (aB jk u.hb rfl (aE (aA fb (aB bO u.hb rfl ?_)))));obtain⟨qZ,I⟩:=gx l (i:=s.at_.toNat) bM;exact aN fK (E _ u.aF) bM I (λ_ my=>bU qZ.kind lK my rfl rfl λ_ sw=>aD bO sw (aG ⟨vb (by unfold Rf lZ;first|(rw[ez B];rfl)|(rw[ej bM,mW bM];simp;done)|(rw[ej bM,I,ew B];rfl)),u⟩))
 rintro _ _ ⟨rfl,u⟩ _;refine aY (λG=>?_) (λG=>?_)
 .obtain⟨_,M,Z,_⟩:=TU G;obtain⟨ass,ast,HX⟩:=mL Z;refine aE (aA iJ (have u:=u.drew;aB jk u.hb rfl (aE (aA fb (aB bO u.hb rfl (aN fK (E _ u.aF) bM HX λ_ vX=>bU M.n r9 vX rfl rfl λ_ uU=>aD bO uU ⟨λjv w'=>jv=.bool (decide (1<=M.n/\M.n<=8))/\St w F [bY p (ek lv ov s)] w',cQ (aC (λ_=>gA ⟨vb (by first|exact(ez bM).symm|exact e8.2 bM),u⟩) λ_=>⟨vb (by first|exact(ez bM).symm|exact e8.2 bM),u⟩),?_⟩))))))
  rintro _ _ ⟨rfl,u⟩ _;refine aC (λU=>?_) (λU=>?_)
  .refine aE (aA fb (aB bO u.hb rfl (aK bM (aE (aA fb (aW u bO (dR rfl) (rfl) λ_ u=>?_))))));have hb:kZ l s=({s with at_:=s.at_+1},M.n):=by unfold kZ;rw[ej G];unfold pF;rw[Z];exact ej U
   rw[hb];exact⟨rfl,u.mut⟩
  refine bF Hs u (H':=λ_=>bY p (ek lv ov (js l s 11))) (Φ:=λ_ _=>True) (λV W O=>?_) ?_
  .exact(C291 p lv ov l s 11 V _ W (λw' hc=>E w' (O w' hc).aF) J Y).mono λ_ _ r=>r.mono λ_ _ h=>⟨trivial,h.2⟩
  rintro _ _ _ u;have hb:kZ l s=(js l s 11,0):=by unfold kZ;rw[ej G];unfold pF;rw[Z];exact ei U
  rw[hb];exact⟨rfl,u.mut⟩
 refine bF Hs u (H':=λ_=>bY p (ek lv ov (js l s 5))) (Φ:=λ_ _=>True) (λV W O=>?_) ?_
 .exact(C291 p lv ov l s 5 V _ W (λw' hc=>E w' (O w' hc).aF) J Y).mono λ_ _ r=>r.mono λ_ _ h=>⟨trivial,h.2⟩
 rintro _ _ _ u;have hb:kZ l s=(js l s 5,0):=by unfold kZ;rw[ei (by simpa using G)]
 rw[hb];exact⟨rfl,u.mut⟩
def C318(p:Nat)(lv ov:Value)(l:List bR)(s:fO)(E:fO)(x:List bZ)(F:Nat->Prop)(w:World)(hF:(bY p (ek lv ov s)).p w F)(W:∀w',gz F w w'->cZ (λ_=>True) w' lv l)(O:jh l)(h0:lF l s)(I:rj l s=some (E,x)):CR 318 [(.pointer (some ⟨p,0,none⟩))] w (λv w'=>mP F (pK λsv:SV=>fact (v=hM sv) (sep (bY p (ek lv ov E)) (eA λw=>DL w (hM sv) x))) w w'):=by
 have u:=St.begin hF;have D9:=O.n;have hn:l.length<=1000000:=bM
 have sB:=O.at_;obtain⟨TV,TW⟩:=id h0;refine py Tryz.func318 (pl:=awq) ?_;refine aE (aA kN (aB jG u.hb rfl (bV (aC (λV=>?_) λV=>?_))))
 .have B:((s,[]):fO×List bZ)=(E,x):=by unfold rj at I;rw[ej V]at I;exact n4.inj I
  cases B;have u:=(u.fH (Φ:=λw=>DL w (hM (bW:SV)) ([]:List bZ)) λw=>DL.nil w).p1;exact(St.eh (bW:SV) (St.oz rfl (St.join u))).mut
 refine aE (aA iJ (have u:=u.drew;aB jk u.hb rfl (aE (aA fb (aB bO u.hb rfl ?_)))));obtain⟨R,U,G⟩:=aaR I bM;refine dO agA (C213 l _ s.at_ R _ (W _ u.aF) O bM U) ?_;rintro _ _ ⟨M,rfl,Z⟩;have u:=u.made Z;refine aO rfl (aO rfl (aO rfl (aO rfl (bV (aC (λJ=>?_) λJ=>?_)))))
 .refine aE (aA kN (aW u.p1 jG (dR rfl) (rfl) λ_ u=>aE (aA AR (aW u bO (dR rfl) (rfl) λ_ u=>?_))));have B:(({s with e:=R.2.2.1,pos:=R.2.2.2},[]):fO×List bZ)=(E,x):=by rw[ej J]at G;exact n4.inj G
  cases B;have u:=(u.p1.drop.fH (Φ:=λw=>DL w (hM (bW:SV)) ([]:List bZ)) λw=>DL.nil w).p1;exact(St.eh (bW:SV) (St.oz rfl (St.join u))).mut
 have Y:=aaS G J;refine aE (aA fb (aW u.p1 bO (dR rfl) (rfl) λ_ u=>?_));have B:(({s with at_:=R.2.1},R.1):fO×List bZ)=(E,x):=by rw[ei J,ej Y]at G;exact n4.inj G
 cases B;have u:=u.p1.p1;exact(St.eh M (St.oz rfl (St.join u))).mut
def O3(k at_:Int):bP:=⟨k,⟨#[]⟩,⟨#[]⟩,[],[],0,0,0,at_⟩
abbrev KY:ByteArray:=⟨#[61]⟩
def WK(l:List bR)(s:fO):fO:=dU l (dB l s).1 (ia #[61])
def s2M(l:List bR)(s:fO):fO:=dU l (dB l (WK l s)).1 (ia #[44])
def ld(l:List bR)(s:fO)(k a:Int):Option (fO×bP):=
 if k=1 then(rj l (WK l s)).bind λr=>some (r.1,{O3 k a with eD:=(dB l s).2,e:=r.2})
 else if k=2 then some ((dB l (WK l s)).1,{O3 k a with eD:=(dB l s).2,name:=(dB l (WK l s)).2})
 else if k=3 then(rj l (WK l s)).bind λr=>some (r.1,{O3 k a with name:=(dB l s).2,e:=r.2})
 else if k=4 then(rj l (s2M l s)).bind λr=>(rj l (dU l r.1 (ia #[44]))).bind λq=>some (q.1,{O3 k a with eD:=(dB l s).2,name:=(dB l (WK l s)).2,e:=r.2,f:=q.2})
 else if k=5\/k=6\/k=9\/k=10 then some ((dB l s).1,{O3 k a with name:=(dB l s).2})
 else if k=11\/k=14 then(rj l s).bind λr=>some (r.1,{O3 k a with e:=r.2})
 else if k=12 then some ((kZ l s).1,{O3 k a with n:=(kZ l s).2})
 else some (s,O3 k a)
section
variable {l:List bR}{s s':fO}{k a:Int}{x:bP}
theorem eR{α β γ:Type}{o:Option (α×β)}{g:α×β->Option γ}{c:γ}(h:o.bind g=some c):∃p q,o=some (p,q)/\g (p,q)=some c:=by
 cases o with
 | none=>cases h
 | some r=>grind
theorem TX(h:ld l s k a=some (s',x))(u:k=1):∃q e,rj l (WK l s)=some (q,e)/\s'=q/\x={O3 k a with eD:=(dB l s).2,e:=e}:=by
 unfold ld at h;rw[ej u]at h
 obtain⟨q,e,h1,h2⟩:=eR h
 grind
theorem TY(h:ld l s k a=some (s',x))(u:k=2):s'=(dB l (WK l s)).1/\x={O3 k a with eD:=(dB l s).2,name:=(dB l (WK l s)).2}:=by
 unfold ld at h;grind
theorem TZ(h:ld l s k a=some (s',x))(u:k=3):∃q e,rj l (WK l s)=some (q,e)/\s'=q/\x={O3 k a with name:=(dB l s).2,e:=e}:=by
 unfold ld at h;rw[ei bM,ei bM,ej u]at h
 obtain⟨q,e,h1,h2⟩:=eR h
 grind
theorem T0(h:ld l s k a=some (s',x))(B:k=4):∃q e u f,rj l (s2M l s)=some (q,e)/\rj l (dU l q (ia #[44]))=some (u,f)/\s'=u/\x={O3 k a with eD:=(dB l s).2,name:=(dB l (WK l s)).2,e:=e,f:=f}:=by
 unfold ld at h;rw[ei bM,ei bM,ei bM,ej B]at h
 obtain⟨q,e,h1,h2⟩:=eR h
 obtain⟨u,f,h3,h4⟩:=eR h2
 grind
theorem T1(h:ld l s k a=some (s',x))(u:k=5\/k=6\/k=9\/k=10):s'=(dB l s).1/\x={O3 k a with name:=(dB l s).2}:=by
 unfold ld at h;grind
theorem N4(h:ld l s k a=some (s',x))(u:k=11\/k=14):∃q e,rj l s=some (q,e)/\s'=q/\x={O3 k a with e:=e}:=by
 unfold ld at h;rw[ei bM,ei bM,ei bM,ei bM,ei bM,ej u]at h
 obtain⟨q,e,h1,h2⟩:=eR h
 grind
theorem N5(h:ld l s k a=some (s',x))(u:k=12):s'=(kZ l s).1/\x={O3 k a with n:=(kZ l s).2}:=by
 unfold ld at h;grind
theorem N6(h:ld l s k a=some (s',x))(h1:¬ k=1)(h2:¬ k=2)(h3:¬ k=3)(h4:¬ k=4)(h5:¬ (k=5\/k=6\/k=9\/k=10))(h6:¬ (k=11\/k=14))(u:¬ k=12):s'=s/\x=O3 k a:=by
 unfold ld at h;grind
end
def CO{l:List bR}{s s':fO}{k a:Int}{x:bP}(B:lF l s)(h:ld l s k a=some (s',x)):lF l s':=by
 have E:lF l (WK l s):=fI (gR B)
 have G:lF l (s2M l s):=fI (gR E)
 by_cases h1:k=1
 .obtain⟨q,e,u,rfl,_⟩:=TX h h1;exact sU E u
 by_cases h2:k=2
 .obtain⟨rfl,_⟩:=TY h h2;exact gR E
 by_cases h3:k=3
 .obtain⟨q,e,u,rfl,_⟩:=TZ h h3;exact sU E u
 by_cases h4:k=4
 .obtain⟨q,e,M,f,u,J,rfl,_⟩:=T0 h h4;exact sU (fI (sU G u)) J
 by_cases h5:k=5\/k=6\/k=9\/k=10
 .obtain⟨rfl,_⟩:=T1 h h5;exact gR B
 by_cases h6:k=11\/k=14
 .obtain⟨q,e,u,rfl,_⟩:=N4 h h6;exact sU B u
 by_cases I:k=12
 .obtain⟨rfl,_⟩:=N5 h I;exact VH B
 obtain⟨rfl,_⟩:=N6 h h1 h2 h3 h4 h5 h6 I;exact B
def xO{α σ:Type}[Flat σ][Deep α σ]{w w0:World}{A:Nat->Prop}{L:List HP}{B:HP}{u:σ}{x:α}(E:St w0 A (B::eA (λw=>mv w u x)::L) w) :
  St w0 A ((pK λs:σ=>fact (hM u=hM s) (sep B (eA λw=>mv w s x)))::L) w:=
 St.eh (H:=λs:σ=>fact (hM u=hM s) (sep B (eA λw=>mv w s x))) u (St.oz rfl (St.join E))
def C292(p:Nat)(lv ov:Value)(l:List bR)(s:fO)(B a:Int)(Y:fO)(x:bP)(F:Nat->Prop)(w:World)(hF:(bY p (ek lv ov s)).p w F)(U:∀w',gz F w w'->cZ (λ_=>True) w' lv l)(J:jh l)(M:lF l s)(hp:ld l s B a=some (Y,x)):CR 292 [(.pointer (some ⟨p,0,none⟩)),hH B,hH a] w (λv w'=>mP F (pK λsh:bE=>fact (v=hM sh) (sep (bY p (ek lv ov Y)) (eA λw=>mv w sh x))) w w'):=by
 have u:=St.begin hF;have D9:=J.n;have hn:l.length<=1000000:=bM
 have sB:=J.at_;obtain⟨TV,TW⟩:=id M;refine eZ Tryz.func292 ?_;refine aR u jq (λQS _ u=>have u:=u.enc (cs':=hZ (⟨0,(ia #[]),(ia #[]),bW,bW,0,0,0,0⟩:bE)) rfl;pop (Pv _ _) (aR u jq λxl _ u=>have u:=u.enc (cs':=hZ (⟨0,(ia #[]),(ia #[]),bW,bW,0,0,0,0⟩:bE)) rfl;aJ (x:=(⟨B,(ia #[]),(ia #[]),bW,bW,0,0,0,a⟩:bE)) u eK rfl rfl λw3 u=>?_));refine⟨_,?_,λ_ h=>h⟩;refine aG (aC (λxg=>?_) λxg=>aG (aC (λm8=>?_) λm8=>aG (aC (λzj=>?_) λzj=>aG (aC (λvR=>?_) λvR=>⟨λjv w'=>jv=.bool (decide (B=5\/B=6\/B=9\/B=10))/\w3=w',aG (aC (λ_=>⟨vb cJ,rfl⟩) λ_=>aG (aC (λ_=>⟨vb cJ,rfl⟩) λ_=>aG (aC (λ_=>⟨vb cJ,rfl⟩) λ_=>aG ⟨vb cJ,rfl⟩))),?_⟩))))
 .obtain⟨q,e,O,rfl,rfl⟩:=TX hp xg;refine bF EE u.p2 (H':=λ_=>bY p (ek lv ov (dB l s).1)) (Φ:=λv _=>v=.string (dB l s).2) (λI G E=>?_) ?_
  .exact C317 p lv ov l s I _ G (λw' hc=>U w' (E w' hc).aF) J M
  rintro _ _ rfl u;refine aA iG (aW u.p1 gB (dR rfl) (rfl) λ_ u=>have u:=u.enc (cs':=hZ (⟨B,(dB l s).2,(ia #[]),bW,bW,0,0,0,a⟩:bE)) rfl;bF yU u.p1 (H':=λ_=>bY p (ek lv ov (dU l (dB l s).1 (ia #[61])))) (Φ:=λ_ _=>True) (λI G E=>?_) ?_)
  .exact(C257 p lv ov l (dB l s).1 (ia #[61]) I _ G (λw' hc=>U w' (E w' hc).aF) J (gR M)).mono λ_ _ r=>r.mono λ_ _ h=>⟨trivial,h.2⟩
  rintro _ _ _ u;refine bF Lw u (H':=λv=>pK λsv:SV=>fact (v=hM sv) (sep (bY p (ek lv ov Y)) (eA λw=>DL w (hM sv) e))) (Φ:=λ_ _=>True) (λI G E=>?_) ?_
  .exact(C318 p lv ov l (dU l (dB l s).1 (ia #[61])) Y e I _ G (λw' hc=>U w' (E w' hc).aF) J (fI (gR M)) O).mono λ_ _ r=>r.mono λ_ _ h=>⟨trivial,h⟩
  rintro v_x20 _ _ W;obtain⟨Rg,V⟩:=W.eg
  clear W
  obtain⟨ald,Z⟩:=V.mq
  clear V
  subst ald;have u:=Z.split;refine aA iT (aW u.p2 jH (dR rfl) (rfl) λ_ u=>?_);have u:=u.enc (cs':=hZ (⟨B,(dB l s).2,(ia #[]),Rg,bW,0,0,0,a⟩:bE)) rfl;intro wA;exact aD eK u.At (aJ (x:=(⟨B,(dB l s).2,(ia #[]),Rg,bW,0,0,0,a⟩:bE)) u.p3 eK rfl rfl λ_ u=>aD eK u.At (have u:=u.p3.dF (Ψ:=(λw=>mv w (⟨B,(dB l s).2,(ia #[]),Rg,bW,0,0,0,a⟩:bE) (⟨B,(dB l s).2,(ia #[]),e,[],0,0,0,a⟩:bP))) (λ_ h=>⟨_,_,rfl,id h,DL.nil _⟩);have u:=u.p1.drop.p1.drop.p1;(xO u).mut))
 .obtain⟨rfl,rfl⟩:=TY hp m8;refine bF EE u.p2 (H':=λ_=>bY p (ek lv ov (dB l s).1)) (Φ:=λv _=>v=.string (dB l s).2) (λI G E=>?_) ?_
  .exact C317 p lv ov l s I _ G (λw' hc=>U w' (E w' hc).aF) J M
  rintro _ _ rfl u;refine aA iG (aW u.p1 gB (dR rfl) (rfl) λ_ u=>have u:=u.enc (cs':=hZ (⟨B,(dB l s).2,(ia #[]),bW,bW,0,0,0,a⟩:bE)) rfl;bF yU u.p1 (H':=λ_=>bY p (ek lv ov (dU l (dB l s).1 (ia #[61])))) (Φ:=λ_ _=>True) (λI G E=>?_) ?_)
  .exact(C257 p lv ov l (dB l s).1 (ia #[61]) I _ G (λw' hc=>U w' (E w' hc).aF) J (gR M)).mono λ_ _ r=>r.mono λ_ _ h=>⟨trivial,h.2⟩
  rintro _ _ _ u;refine bF EE u (H':=λ_=>bY p (ek lv ov (dB l (dU l (dB l s).1 (ia #[61]))).1)) (Φ:=λv _=>v=.string (dB l (dU l (dB l s).1 (ia #[61]))).2) (λI G E=>?_) ?_
  .exact C317 p lv ov l (dU l (dB l s).1 (ia #[61])) I _ G (λw' hc=>U w' (E w' hc).aF) J (fI (gR M))
  rintro _ _ rfl u;refine aA gh (aW u.p1 gB (dR rfl) (rfl) λ_ u=>?_);have u:=u.enc (cs':=hZ (⟨B,(dB l s).2,(dB l (dU l (dB l s).1 (ia #[61]))).2,bW,bW,0,0,0,a⟩:bE)) rfl;intro wA;exact aD eK u.At (aJ (x:=(⟨B,(dB l s).2,(dB l (dU l (dB l s).1 (ia #[61]))).2,bW,bW,0,0,0,a⟩:bE)) u.p2 eK rfl rfl λ_ u=>aD eK u.At (have u:=u.fH (Φ:=(λw=>mv w (⟨B,(dB l s).2,(dB l (dU l (dB l s).1 (ia #[61]))).2,bW,bW,0,0,0,a⟩:bE) (⟨B,(dB l s).2,(dB l (dU l (dB l s).1 (ia #[61]))).2,[],[],0,0,0,a⟩:bP))) (λ_=>⟨_,_,rfl,DL.nil _,DL.nil _⟩);have u:=u.p1.drop.p1.drop.p1;(xO u).mut))
 .obtain⟨q,e,O,rfl,rfl⟩:=TZ hp zj;refine bF EE u.p2 (H':=λ_=>bY p (ek lv ov (dB l s).1)) (Φ:=λv _=>v=.string (dB l s).2) (λI G E=>?_) ?_
  .exact C317 p lv ov l s I _ G (λw' hc=>U w' (E w' hc).aF) J M
  rintro _ _ rfl u;refine aA gh (aW u.p1 gB (dR rfl) (rfl) λ_ u=>have u:=u.enc (cs':=hZ (⟨B,(ia #[]),(dB l s).2,bW,bW,0,0,0,a⟩:bE)) rfl;bF yU u.p1 (H':=λ_=>bY p (ek lv ov (dU l (dB l s).1 (ia #[61])))) (Φ:=λ_ _=>True) (λI G E=>?_) ?_)
  .exact(C257 p lv ov l (dB l s).1 (ia #[61]) I _ G (λw' hc=>U w' (E w' hc).aF) J (gR M)).mono λ_ _ r=>r.mono λ_ _ h=>⟨trivial,h.2⟩
  rintro _ _ _ u;refine bF Lw u (H':=λv=>pK λsv:SV=>fact (v=hM sv) (sep (bY p (ek lv ov Y)) (eA λw=>DL w (hM sv) e))) (Φ:=λ_ _=>True) (λI G E=>?_) ?_
  .exact(C318 p lv ov l (dU l (dB l s).1 (ia #[61])) Y e I _ G (λw' hc=>U w' (E w' hc).aF) J (fI (gR M)) O).mono λ_ _ r=>r.mono λ_ _ h=>⟨trivial,h⟩
  rintro v_x40 _ _ W;obtain⟨Rh,V⟩:=W.eg
  clear W
  obtain⟨ale,Z⟩:=V.mq
  clear V
  subst ale;have u:=Z.split;refine aA iT (aW u.p2 jH (dR rfl) (rfl) λ_ u=>?_);have u:=u.enc (cs':=hZ (⟨B,(ia #[]),(dB l s).2,Rh,bW,0,0,0,a⟩:bE)) rfl;intro wA;exact aD eK u.At (aJ (x:=(⟨B,(ia #[]),(dB l s).2,Rh,bW,0,0,0,a⟩:bE)) u.p3 eK rfl rfl λ_ u=>aD eK u.At (have u:=u.p3.dF (Ψ:=(λw=>mv w (⟨B,(ia #[]),(dB l s).2,Rh,bW,0,0,0,a⟩:bE) (⟨B,(ia #[]),(dB l s).2,e,[],0,0,0,a⟩:bP))) (λ_ h=>⟨_,_,rfl,id h,DL.nil _⟩);have u:=u.p1.drop.p1.drop.p1;(xO u).mut))
 .obtain⟨q,e,q2,f,O,hfx,rfl,rfl⟩:=T0 hp vR;refine bF EE u.p2 (H':=λ_=>bY p (ek lv ov (dB l s).1)) (Φ:=λv _=>v=.string (dB l s).2) (λI G E=>?_) ?_
  .exact C317 p lv ov l s I _ G (λw' hc=>U w' (E w' hc).aF) J M
  rintro _ _ rfl u;refine aA iG (aW u.p1 gB (dR rfl) (rfl) λ_ u=>have u:=u.enc (cs':=hZ (⟨B,(dB l s).2,(ia #[]),bW,bW,0,0,0,a⟩:bE)) rfl;bF yU u.p1 (H':=λ_=>bY p (ek lv ov (dU l (dB l s).1 (ia #[61])))) (Φ:=λ_ _=>True) (λI G E=>?_) ?_)
  .exact(C257 p lv ov l (dB l s).1 (ia #[61]) I _ G (λw' hc=>U w' (E w' hc).aF) J (gR M)).mono λ_ _ r=>r.mono λ_ _ h=>⟨trivial,h.2⟩
  rintro _ _ _ u;refine bF EE u (H':=λ_=>bY p (ek lv ov (dB l (dU l (dB l s).1 (ia #[61]))).1)) (Φ:=λv _=>v=.string (dB l (dU l (dB l s).1 (ia #[61]))).2) (λI G E=>?_) ?_
  .exact C317 p lv ov l (dU l (dB l s).1 (ia #[61])) I _ G (λw' hc=>U w' (E w' hc).aF) J (fI (gR M))
  rintro _ _ rfl u;refine aA gh (aW u.p1 gB (dR rfl) (rfl) λ_ u=>have u:=u.enc (cs':=hZ (⟨B,(dB l s).2,(dB l (dU l (dB l s).1 (ia #[61]))).2,bW,bW,0,0,0,a⟩:bE)) rfl;bF yU u.p1 (H':=λ_=>bY p (ek lv ov (dU l (dB l (dU l (dB l s).1 (ia #[61]))).1 (ia #[44])))) (Φ:=λ_ _=>True) (λI G E=>?_) ?_)
  .exact(C257 p lv ov l (dB l (dU l (dB l s).1 (ia #[61]))).1 (ia #[44]) I _ G (λw' hc=>U w' (E w' hc).aF) J (gR (fI (gR M)))).mono λ_ _ r=>r.mono λ_ _ h=>⟨trivial,h.2⟩
  rintro _ _ _ u;refine bF Lw u (H':=λv=>pK λsv:SV=>fact (v=hM sv) (sep (bY p (ek lv ov q)) (eA λw=>DL w (hM sv) e))) (Φ:=λ_ _=>True) (λI G E=>?_) ?_
  .exact(C318 p lv ov l (dU l (dB l (dU l (dB l s).1 (ia #[61]))).1 (ia #[44])) q e I _ G (λw' hc=>U w' (E w' hc).aF) J (fI (gR (fI (gR M)))) O).mono λ_ _ r=>r.mono λ_ _ h=>⟨trivial,h⟩
  rintro v_x55 _ _ W;obtain⟨F7,V⟩:=W.eg
  clear W
  obtain⟨alf,Z⟩:=V.mq
  clear V
  subst alf;have u:=Z.split;refine aA iT (aW u.p2 jH (dR rfl) (rfl) λ_ u=>have u:=u.enc (cs':=hZ (⟨B,(dB l s).2,(dB l (dU l (dB l s).1 (ia #[61]))).2,F7,bW,0,0,0,a⟩:bE)) rfl;bF yU u.p1 (H':=λ_=>bY p (ek lv ov (dU l q (ia #[44])))) (Φ:=λ_ _=>True) (λI G E=>?_) ?_)
  .exact(C257 p lv ov l q (ia #[44]) I _ G (λw' hc=>U w' (E w' hc).aF) J (sU (fI (gR (fI (gR M)))) O)).mono λ_ _ r=>r.mono λ_ _ h=>⟨trivial,h.2⟩
  rintro _ _ _ u;refine bF Lw u (H':=λv=>pK λsv:SV=>fact (v=hM sv) (sep (bY p (ek lv ov Y)) (eA λw=>DL w (hM sv) f))) (Φ:=λ_ _=>True) (λI G E=>?_) ?_
  .exact(C318 p lv ov l (dU l q (ia #[44])) Y f I _ G (λw' hc=>U w' (E w' hc).aF) J (fI (sU (fI (gR (fI (gR M)))) O)) hfx).mono λ_ _ r=>r.mono λ_ _ h=>⟨trivial,h⟩
  rintro v_x60 _ _ W;obtain⟨Cz,V⟩:=W.eg
  clear W
  obtain⟨alg,Z⟩:=V.mq
  clear V
  subst alg;have u:=Z.split;refine aA j3 (aW u.p2 jH (dR rfl) (rfl) λ_ u=>?_);have u:=u.enc (cs':=hZ (⟨B,(dB l s).2,(dB l (dU l (dB l s).1 (ia #[61]))).2,F7,Cz,0,0,0,a⟩:bE)) rfl;intro wA;exact aD eK u.At (aJ (x:=(⟨B,(dB l s).2,(dB l (dU l (dB l s).1 (ia #[61]))).2,F7,Cz,0,0,0,a⟩:bE)) u.p4 eK rfl rfl λ_ u=>aD eK u.At (have u:=u.p4.p4.p1.gd.dF (Ψ:=(λw=>mv w (⟨B,(dB l s).2,(dB l (dU l (dB l s).1 (ia #[61]))).2,F7,Cz,0,0,0,a⟩:bE) (⟨B,(dB l s).2,(dB l (dU l (dB l s).1 (ia #[61]))).2,e,f,0,0,0,a⟩:bP))) (λ_ h=>⟨_,_,rfl,id h.1,id h.2⟩);have u:=u.p1.drop.p1.drop.p1;(xO u).mut))
 rintro _ _ ⟨rfl,hw⟩ _;subst hw;refine aC (λSS=>?_) (λSS=>⟨λjv w'=>jv=.bool (decide (B=11\/B=14))/\w3=w',aG (aC (λ_=>⟨vb cJ,rfl⟩) λ_=>aG ⟨vb cJ,rfl⟩),?_⟩)
 .obtain⟨rfl,rfl⟩:=T1 hp SS;refine bF EE u.p2 (H':=λ_=>bY p (ek lv ov (dB l s).1)) (Φ:=λv _=>v=.string (dB l s).2) (λI G E=>?_) ?_
  .exact C317 p lv ov l s I _ G (λw' hc=>U w' (E w' hc).aF) J M
  rintro _ _ rfl u;refine aA gh (aW u.p1 gB (dR rfl) (rfl) λ_ u=>?_);have u:=u.enc (cs':=hZ (⟨B,(ia #[]),(dB l s).2,bW,bW,0,0,0,a⟩:bE)) rfl;intro wA;exact aD eK u.At (aJ (x:=(⟨B,(ia #[]),(dB l s).2,bW,bW,0,0,0,a⟩:bE)) u.p2 eK rfl rfl λ_ u=>aD eK u.At (have u:=u.fH (Φ:=(λw=>mv w (⟨B,(ia #[]),(dB l s).2,bW,bW,0,0,0,a⟩:bE) (⟨B,(ia #[]),(dB l s).2,[],[],0,0,0,a⟩:bP))) (λ_=>⟨_,_,rfl,DL.nil _,DL.nil _⟩);have u:=u.p1.drop.p1.drop.p1;(xO u).mut))
 rintro _ _ ⟨rfl,hw⟩ _;subst hw;refine aC (λFi=>?_) (λFi=>aG (aC (λaaU=>?_) λaaU=>?_))
 .obtain⟨q,e,O,rfl,rfl⟩:=N4 hp Fi;refine bF Lw u.p2 (H':=λv=>pK λsv:SV=>fact (v=hM sv) (sep (bY p (ek lv ov Y)) (eA λw=>DL w (hM sv) e))) (Φ:=λ_ _=>True) (λI G E=>?_) ?_
  .exact(C318 p lv ov l s Y e I _ G (λw' hc=>U w' (E w' hc).aF) J M O).mono λ_ _ r=>r.mono λ_ _ h=>⟨trivial,h⟩
  rintro v_x74 _ _ W;obtain⟨Ri,V⟩:=W.eg
  clear W
  obtain⟨alh,Z⟩:=V.mq
  clear V
  subst alh;have u:=Z.split;refine aA iT (aW u.p2 jH (dR rfl) (rfl) λ_ u=>?_);have u:=u.enc (cs':=hZ (⟨B,(ia #[]),(ia #[]),Ri,bW,0,0,0,a⟩:bE)) rfl;intro wA;exact aD eK u.At (aJ (x:=(⟨B,(ia #[]),(ia #[]),Ri,bW,0,0,0,a⟩:bE)) u.p3 eK rfl rfl λ_ u=>aD eK u.At (have u:=u.p3.dF (Ψ:=(λw=>mv w (⟨B,(ia #[]),(ia #[]),Ri,bW,0,0,0,a⟩:bE) (⟨B,(ia #[]),(ia #[]),e,[],0,0,0,a⟩:bP))) (λ_ h=>⟨_,_,rfl,id h,DL.nil _⟩);have u:=u.p1.drop.p1.drop.p1;(xO u).mut))
 .obtain⟨rfl,rfl⟩:=N5 hp aaU;refine bF aot u.p2 (H':=λ_=>bY p (ek lv ov (kZ l s).1)) (Φ:=λv _=>v=hH (kZ l s).2) (λI G E=>?_) ?_
  .exact C319 p lv ov l s I _ G (λw' hc=>U w' (E w' hc).aF) J M
  rintro _ _ rfl u;refine aA jK (aW u.p1 bO (dR rfl) (rfl) λ_ u=>?_);have u:=u.enc (cs':=hZ (⟨B,(ia #[]),(ia #[]),bW,bW,(kZ l s).2,0,0,a⟩:bE)) rfl;intro wA;exact aD eK u.At (aJ (x:=(⟨B,(ia #[]),(ia #[]),bW,bW,(kZ l s).2,0,0,a⟩:bE)) u.p2 eK rfl rfl λ_ u=>aD eK u.At (have u:=u.fH (Φ:=(λw=>mv w (⟨B,(ia #[]),(ia #[]),bW,bW,(kZ l s).2,0,0,a⟩:bE) (⟨B,(ia #[]),(ia #[]),[],[],(kZ l s).2,0,0,a⟩:bP))) (λ_=>⟨_,_,rfl,DL.nil _,DL.nil _⟩);have u:=u.p1.drop.p1.drop.p1;(xO u).mut))
 obtain⟨rfl,rfl⟩:=N6 hp xg m8 zj vR SS Fi aaU;intro wA;exact aD eK u.At (aJ (x:=(⟨B,(ia #[]),(ia #[]),bW,bW,0,0,0,a⟩:bE)) u.p1 eK rfl rfl λ_ u=>aD eK u.At (have u:=u.fH (Φ:=(λw=>mv w (⟨B,(ia #[]),(ia #[]),bW,bW,0,0,0,a⟩:bE) (⟨B,(ia #[]),(ia #[]),[],[],0,0,0,a⟩:bP))) (λ_=>⟨_,_,rfl,DL.nil _,DL.nil _⟩);have u:=u.p1.drop.p1.drop.p1;(xO u).mut))
def iL(l:List bR)(a:Int):Nat->Int
 | 0=>1
 | n+1=>if tM l a (Iu ((n:Int)+2))=true then(n:Int)+2 else iL l a n
theorem T3{l:List bR}{a:Int}:∀n:Nat,1<=iL l a n/\iL l a n<=(n:Int)+1
 | 0=>by unfold iL;omega
 | n+1=>by
  have:=T3 (l:=l) (a:=a) n
  unfold iL
  omega
theorem N7{l:List bR}{a:Int}:∀n:Nat,iL l a n=1\/∃t,tM l a t=true
 | 0=>.inl rfl
 | n+1=>by
  unfold iL
  split
  .grind
  .exact N7 n
def Iv{l:List bR}{a:Int}{n:Nat}(h:tM l a (Iu ((n:Int)+2))=true):iL l a (n+1)=(n:Int)+2:=ej h
def Iw{l:List bR}{a:Int}{n:Nat}(h:¬ tM l a (Iu ((n:Int)+2))=true):iL l a (n+1)=iL l a n:=ei h
def s1S(l:List bR)(s:fO):fO:=if iL l s.at_ 13≠1 then {s with at_:=s.at_+1}else s
def Kq{l:List bR}{s:fO}(h:lF l s):lF l (s1S l s):=by
 unfold s1S
 split
 .rename_i h1
  rcases N7 (l:=l) (a:=s.at_) 13 with h2|⟨t,h2⟩
  .omega
  have:=sT h2
  exact⟨cJ,cJ⟩
 exact h
abbrev ahZ:ByteArray:=⟨#[101,108,115,101]⟩
def kC(l:List bR)(u:Int)(s:fO):Bool:=decide (u=11)&&decide (s.e=0)&&tM l s.at_ ahZ
def VI(s:fO):fO:={s with at_:=s.at_+1}
abbrev afl:=fO->Int->Int->Option (fO×List bP)
def DI(l:List bR)(bY:afl)(s:fO)(d lp:Int):Option (fO×List bP):=
 if iL l s.at_ 13=13/\lp=0 then some (js l s 5,[])
 else(ld l (s1S l s) (iL l s.at_ 13) (nq l s.at_)).bind λr=>
  if iL l s.at_ 13≠11/\iL l s.at_ 13≠12 then some (dU l r.1 ⟨#[59]⟩,[r.2])
  else(bY r.1 (d+1) (if iL l s.at_ 13=12 then lp+1 else lp)).bind λq=>
   if kC l (iL l s.at_ 13) q.1=true then(bY (VI q.1) (d+1) lp).bind λt=>some (t.1,{r.2 with body:=(q.2.length:Int),et:=(t.2.length:Int)}::(q.2++t.2))
   else some (q.1,{r.2 with body:=(q.2.length:Int)}::q.2)
section
variable {l:List bR}{bY:afl}{s s':fO}{d lp:Int}{add:List bP}
theorem T4(h:DI l bY s d lp=some (s',add))(hb:iL l s.at_ 13=13/\lp=0):s'=js l s 5/\add=[]:=by
 unfold DI at h;grind
theorem aaV(h:DI l bY s d lp=some (s',add))(hb:¬ (iL l s.at_ 13=13/\lp=0)):∃u x,ld l (s1S l s) (iL l s.at_ 13) (nq l s.at_)=some (u,x)/\
  (if iL l s.at_ 13≠11/\iL l s.at_ 13≠12 then some (dU l u ⟨#[59]⟩,[x])
  else(bY u (d+1) (if iL l s.at_ 13=12 then lp+1 else lp)).bind λq=>
   if kC l (iL l s.at_ 13) q.1=true then(bY (VI q.1) (d+1) lp).bind λt=>some (t.1,{x with body:=(q.2.length:Int),et:=(t.2.length:Int)}::(q.2++t.2))
   else some (q.1,{x with body:=(q.2.length:Int)}::q.2))=some (s',add):=by
 unfold DI at h;rw[ei hb]at h
 obtain⟨p,q,h1,h2⟩:=eR h
 grind
theorem T5{u:Int}{I:fO}{x:bP}(h:(if u≠11/\u≠12 then some (dU l I ⟨#[59]⟩,[x])
  else(bY I (d+1) (if u=12 then lp+1 else lp)).bind λq=>
   if kC l u q.1=true then(bY (VI q.1) (d+1) lp).bind λt=>some (t.1,{x with body:=(q.2.length:Int),et:=(t.2.length:Int)}::(q.2++t.2))
   else some (q.1,{x with body:=(q.2.length:Int)}::q.2))=some (s',add)) (M:¬ (u≠11/\u≠12)) :
  ∃B E,bY I (d+1) (if u=12 then lp+1 else lp)=some (B,E)/\
   ((kC l u B=true/\∃J G,bY (VI B) (d+1) lp=some (J,G)/\s'=J/\add={x with body:=(E.length:Int),et:=(G.length:Int)}::(E++G))\/
    (kC l u B=false/\s'=B/\add={x with body:=(E.length:Int)}::E)):=by
 rw[ei M]at h
 obtain⟨B,E,h1,h2⟩:=eR h
 refine⟨B,E,h1,?_⟩
 dsimp only at h2
 cases he:kC l u B with
 | true=>
  rw[he,ej rfl]at h2
  obtain⟨J,G,h3,h4⟩:=eR h2
  grind
 | false=>
  grind
theorem Iy{u:Int}{B:fO}{x:bP}(h:(if u≠11/\u≠12 then some (dU l B ⟨#[59]⟩,[x])
  else(bY B (d+1) (if u=12 then lp+1 else lp)).bind λq=>
   if kC l u q.1=true then(bY (VI q.1) (d+1) lp).bind λt=>some (t.1,{x with body:=(q.2.length:Int),et:=(t.2.length:Int)}::(q.2++t.2))
   else some (q.1,{x with body:=(q.2.length:Int)}::q.2))=some (s',add)) (E:u≠11/\u≠12):s'=dU l B ⟨#[59]⟩/\add=[x]:=by
 grind
end
abbrev Dj:ByteArray:=⟨#[123]⟩
abbrev oG:ByteArray:=⟨#[125]⟩
def tP(l:List bR)(one:fO->Option (fO×List bP)):Nat->fO->Option (fO×List bP)
 | 0,_=>none
 | m+1,s=>if (decide (s.e=0)&&!tM l s.at_ oG)=true then(one s).bind λr=>(tP l one m r.1).bind λq=>some (q.1,r.2++q.2)else some (s,[])
def WL(l:List bR)(s:fO)(d:Int):fO:=if (decide (12<d)&&tM l s.at_ Dj)=true then js l s 7 else s
def Rj{l:List bR}{s:fO}{d:Int}(h:lF l s):lF l (WL l s d):=by unfold WL;split;exact tO h;exact h
def WM(l:List bR):Nat->afl
 | 0=>λ_ _ _=>none
 | k+1=>λs d lp=>(tP l (λs=>DI l (WM l k) s d lp) 10000 (dU l (WL l s d) Dj)).bind λr=>some (dU l r.1 oG,r.2)
section
variable {l:List bR}{one:fO->Option (fO×List bP)}{s s':fO}{d lp:Int}{add:List bP}{m:Nat}
theorem Iz(h:tP l one m s=some (s',add)):∃k,m=k+1:=by
 cases m with
 | zero=>cases h
 | succ k=>grind
theorem Gi(h:tP l one (m+1) s=some (s',add))(hb:(decide (s.e=0)&&!tM l s.at_ oG)=false):s'=s/\add=[]:=by
 unfold tP at h;grind
theorem Ks(h:tP l one (m+1) s=some (s',add))(hb:(decide (s.e=0)&&!tM l s.at_ oG)=true):∃B u E,one s=some (B,u)/\tP l one m B=some (s',E)/\add=u++E:=by
 unfold tP at h;rw[hb,ej rfl]at h
 obtain⟨B,u,h1,h2⟩:=eR h
 obtain⟨G,E,h3,h4⟩:=eR h2
 grind
theorem aaW{k:Nat}(h:WM l (k+1) s d lp=some (s',add)):∃u,tP l (λs=>DI l (WM l k) s d lp) 10000 (dU l (WL l s d) Dj)=some (u,add)/\s'=dU l u oG:=by
 unfold WM at h
 obtain⟨u,B,h1,h2⟩:=eR h
 grind
end
def Rk{l:List bR}{bY:afl}{s s':fO}{d lp:Int}{add:List bP}(hb:∀s d lp s' a,lF l s->bY s d lp=some (s',a)->lF l s')(G:lF l s)(h:DI l bY s d lp=some (s',add)):lF l s':=by
 by_cases h1:iL l s.at_ 13=13/\lp=0
 .rw[(T4 h h1).1];exact tO G
 obtain⟨M,x,h2,h3⟩:=aaV h h1
 have u:=CO (Kq G) h2
 by_cases h4:iL l s.at_ 13≠11/\iL l s.at_ 13≠12
 .rw[(Iy h3 h4).1];exact fI u
 obtain⟨U,W,h5,h6⟩:=T5 h3 h4
 have J:=hb _ _ _ _ _ u h5
 rcases h6 with⟨B,V,O,I,E,_⟩|⟨_,E,_⟩
 .rw[E]
  refine hb _ _ _ _ _ ?_ I
  unfold kC at B
  rw[n3]at B
  have:=sT B.2
  grind[lF,VI]
 grind
theorem T6{l:List bR}{one:fO->Option (fO×List bP)}(u:∀s s' a,lF l s->one s=some (s',a)->lF l s'):∀{m:Nat}{s s':fO}{add:List bP},lF l s->tP l one m s=some (s',add)->lF l s'
 | 0,_,_,_,_,h=>by cases h
 | m+1,s,s',add,B,h=>by
  cases hb:(decide (s.e=0)&&!tM l s.at_ oG)with
  | false=>rw[(Gi h hb).1];exact B
  | true=>
   obtain⟨G,E,I,h1,h2,_⟩:=Ks h hb
   exact T6 u (u _ _ _ B h1) h2
theorem Rl{l:List bR}:∀{k:Nat}{s s':fO}{d lp:Int}{add:List bP},lF l s->WM l k s d lp=some (s',add)->lF l s'
 | 0,_,_,_,_,_,_,h=>by cases h
 | k+1,s,s',d,lp,add,u,h=>by
  obtain⟨B,h1,h2⟩:=aaW h
  rw[h2]
  exact fI (T6 (λ_ _ _ a b=>Rk (λ_ _ _ _ _ c e=>Rl c e) a b) (fI (Rj u)) h1)
def pT(p:Nat)(lv:Value)(s:fO)(out:List bP)(Q:g7):HP:=pK λov:Value=>pK λts:List bE=>sep (bY p (ek lv ov s)) (sep (bH ov ts) (eA λw=>fR ts out w/\Q w))
section
variable {w0 w:World}{A:Nat->Prop}{L:List HP}{p:Nat}{lv:Value}{s:fO}{out:List bP}{Q:g7}
theorem pT.open(u:St w0 A (pT p lv s out Q::L) w):∃(ov:Value) (ts:List bE),St w0 A (bY p (ek lv ov s)::bH ov ts::eA (λw=>fR ts out w/\Q w)::L) w:=by
 obtain⟨ov,h1⟩:=u.eg
 obtain⟨ts,h2⟩:=h1.eg
 exact⟨ov,ts,h2.split.p1.split.p2⟩
theorem pT.shut{ov:Value}{ts:List bE}(u:St w0 A (bY p (ek lv ov s)::bH ov ts::eA (λw=>fR ts out w/\Q w)::L) w):St w0 A (pT p lv s out Q::L) w:=
 St.eh (H:=λov:Value=>pK λts:List bE=>sep (bY p (ek lv ov s)) (sep (bH ov ts) (eA λw=>fR ts out w/\Q w))) ov (St.eh (H:=λts:List bE=>sep (bY p (ek lv ov s)) (sep (bH ov ts) (eA λw=>fR ts out w/\Q w))) ts (St.join u.p2.p2.join.p1))
end
def ali(l:List bR)(k:Nat):Prop:=∀(p:Nat) (lv:Value) (s:fO) (d lp:Int) (out:List bP) (u:fO) (add:List bP) (Q:g7) (F:Nat->Prop) (w:World),
 (pT p lv s out Q).p w F->(∀w',gz F w w'->cZ (λ_=>True) w' lv l)->lF l s->0<=d/\d+k<=1001->0<=lp/\lp+k<=1001->out.length+add.length<=1000000->WM l k s d lp=some (u,add)->
 Calls g6 293 [.pointer (some ⟨p,0,none⟩),hH d,hH lp].toArray w (tc λv w'=>v=hH (add.length:Int)/\mP F (pT p lv u (out++add) Q) w w')
def afm{w:World}{u:bE}{x:bP}(h:mv w u x):DL w (hM u.e) x.e:=by obtain⟨_,_,rfl,h,_⟩:=h;exact h
def afn{w:World}{u:bE}{x:bP}(h:mv w u x):DL w (hM u.f) x.f:=by obtain⟨_,_,rfl,_,h⟩:=h;exact h
def Rm{l:List bR}{u:Int}{s:fO}(h:kC l u s=true):lF l (VI s):=by
 unfold kC at h
 rw[n3]at h
 have:=sT h.2
 grind[lF,VI]
def afo{α σ:Type}[Flat σ][Deep α σ]{w:World}{ts:List σ}{xs:List α}{i:Nat}{t:σ}{x:α}(h:fR ts xs w)(ht:mv w t x):fR (ts.set i t) (xs.set i x) w:=by
 grind[fR]
theorem aaX{α:Type}{a b:List α}{x y:α}:(a++x::b).set a.length y=a++y::b:=by
 grind
def C256(p:Nat)(lv:Value)(l:List bR)(s:fO)(k:Nat)(d lp:Int)(out:List bP)(s2:fO)(add:List bP)(Q:g7)(F:Nat->Prop)(w:World)(hF:(pT p lv s out Q).p w F)(W:∀w',gz F w w'->cZ (λ_=>True) w' lv l)(hk:jh l)(h0:lF l s)(HB:ali l k)(hd:0<=d/\d+k<=1000)(hlp:0<=lp/\lp+k<=1000)(GL:out.length+add.length<=1000000)(hr:DI l (WM l k) s d lp=some (s2,add)):CR 256 [(.pointer (some ⟨p,0,none⟩)),hH d,hH lp] w (λv w'=>v=.tuple #[]/\mP F (pT p lv s2 (out++add) Q) w w'):=by
 have u:=St.begin hF;obtain⟨ov,ts,u⟩:=pT.open u;have Pp:ts.length=out.length:=u.p2.eA.1.1;have D9:=hk.n;have hn:l.length<=1000000:=bM
 have sB:=hk.at_;obtain⟨TV,TW⟩:=id h0;refine ac3 _ _ _ _ _ ?_;unfold S256;refine aE (aA iJ (have u:=u.drew;aB jk u.hb rfl (aE (aA fb (aB bO u.hb rfl (aV Hq u (C214 _ l s.at_ _ (W _ u.aF) hn sB) λ_ he u=>?_))))));have u:=u.p2.p2.p2;refine⟨λmm a b w'=>∃j:Nat,a=hH (iL l s.at_ j)/\b=hH ((j:Int)+2)/\mm=13-j/\j<=13/\St w F [bY p (ek lv ov s),bH ov ts,eA λw=>fR ts out w/\Q w] w',⟨_,0,rfl,rfl,rfl,la _,u⟩,?_⟩;rintro mm _ _ w2 ⟨j,rfl,rfl,rfl,hj,u⟩ _;refine gA (aC (λiw=>?_) λiw=>?_)
 .refine⟨_,?_,λ_ _ h=>h⟩;refine aE (aA iJ (have u:=u.drew;aB jk u.hb rfl (aE (aA fb (aB bO u.hb rfl (aV aoi u (C290 ((j:Int)+2) _ bM) λ_ he u=>?_))))));refine⟨aI jk (u.hb.cell rfl),?_⟩;refine⟨aI bO (u.hb.cell rfl),?_⟩;refine aV vP u (C209 _ l s.at_ (Iu ((j:Int)+2)) _ (W _ u.aF) hn) (λ_ he u=>aY (λlr=>?_) λlr=>?_)
  .intro wz;refine aK bM ?_;exact⟨_,bM,j+1,fM (ng .i64) (by first|exact(Iv lr).symm|exact(Iw (by rw[lr];simp)).symm),fM (ng .i64) bM,rfl,bM,u⟩
  .intro wz;refine aK bM ?_;exact⟨_,bM,j+1,fM (ng .i64) (by first|exact(Iv lr).symm|exact(Iw (by rw[lr];simp)).symm),fM (ng .i64) bM,rfl,bM,u⟩
 .obtain rfl:j=13:=bM
  have Yi:=T3 (l:=l) (a:=s.at_) 13;refine⟨λY w'=>Y=.bool (decide ((iL l s.at_ 13)=13/\lp=0))/\w2=w',?_,?_⟩
  .refine aG (aC (λrf=>?_) λrf=>?_)
   .refine aG ?_;exact⟨yJ bM,rfl⟩
   .exact⟨Xd bM,rfl⟩
  .rintro _ _ ⟨rfl,hw⟩ _;subst hw;refine aC (λqD=>?_) (λqD=>?_)
   .refine bF Hs u (H':=λ_=>bY p (ek lv ov (js l s 5))) (Φ:=λ_ _=>True) (λM O U=>?_) ?_
    .exact(C291 p lv ov l s 5 M _ O (λw' hc=>W w' (U w' hc).aF) hk h0).mono λ_ _ r=>r.mono λ_ _ h=>⟨trivial,h.2⟩
    rintro _ _ _ u;obtain⟨e1,e2⟩:=T4 hr qD;rw[e1,e2,oo];exact⟨rfl,(pT.shut u).mut⟩
   .refine⟨λw'=>St w F [bY p (ek lv ov (s1S l s)),bH ov ts,eA λw=>fR ts out w/\Q w] w',?_,?_⟩
    .refine bV (aC (λxe=>?_) λxe=>?_)
     .refine aE (aA fb (aB bO u.hb rfl (aK bM (aE (aA fb (aW u bO (dR rfl) (rfl) λ_ u=>?_))))));have u:=u.p2.p2.p2;have Vg:(s1S l s)={s with at_:=s.at_+1}:=by unfold s1S;rw[ej bM]
      rw[Vg];exact u
     .have u:=u.p2.p2.p2;have Vg:(s1S l s)=s:=by unfold s1S;rw[ei bM]
      rw[Vg];exact u
    .intro _ u _;obtain⟨q,x,nU,DU⟩:=aaV hr qD;refine bF aoj u (H':=λv=>pK λsh:bE=>fact (v=hM sh) (sep (bY p (ek lv ov q)) (eA λw=>mv w sh x))) (Φ:=λ_ _=>True) (λM O U=>?_) ?_
     .exact(C292 p lv ov l (s1S l s) (iL l s.at_ 13) (nq l s.at_) q x M _ O (λw' hc=>W w' (U w' hc).aF) hk (Kq h0) nU).mono λ_ _ r=>r.mono λ_ _ h=>⟨trivial,h⟩
     rintro v_x58 _ _ xB;obtain⟨azx,zq⟩:=xB.eg
     clear xB
     obtain⟨alj,Ek⟩:=zq.mq
     clear zq
     subst alj;have u:=Ek.split
     clear Ek
     obtain⟨E,B,alk,hde,hdf⟩:=u.p1.eA;subst alk;refine aR u jq (λCm _ u=>have u:=u.enc (cs':=hZ (⟨0,(ia #[]),(ia #[]),bW,bW,0,0,0,0⟩:bE)) rfl;aJ (x:=(⟨x.kind,x.eD,x.name,E,B,x.n,x.body,x.et,x.at_⟩:bE)) u eK rfl rfl λ_ u=>aE (aA qq (aB jJ u.p1.hb rfl (aH fq u.p3.dS (aE (aA qq (have u:=u.drew;aB jJ u.p1.hb rfl (aD eK u.At (bD ([(⟨x.kind,x.eD,x.name,E,B,x.n,x.body,x.et,x.at_⟩:bE)]) u fq rfl rfl (dR rfl) λahK _ u=>?_)))))))))
     refine⟨aI jJ (u.p2.hb.cell rfl),?_⟩;have alm:=u.dS;refine bL u.p4 fq alm (by simp;omega) dC (λT7 _ u=>have u:=u.p1.drop;aE (aA qq (aW u.p2 jJ (dR rfl) u.dS.one λ_ u=>?_)));refine⟨λY w'=>Y=.bool (decide ((iL l s.at_ 13)≠11/\(iL l s.at_ 13)≠12))/\St w F [bY p (ek lv T7 q),bH T7 (ts++[(⟨x.kind,x.eD,x.name,E,B,x.n,x.body,x.et,x.at_⟩:bE)]),eA (λw=>fR (ts++[(⟨x.kind,x.eD,x.name,E,B,x.n,x.body,x.et,x.at_⟩:bE)]) (out++[x]) w/\(λw=>Q w/\mv w (⟨x.kind,x.eD,x.name,E,B,x.n,x.body,x.et,x.at_⟩:bE) x) w),bY Cm (hZ (⟨x.kind,x.eD,x.name,E,B,x.n,x.body,x.et,x.at_⟩:bE))] w',?_,?_⟩
     .refine bV (aC (λasv=>?_) λasv=>?_)
      .refine bV ?_;have u:=u.p3.p4.gd.dF (Ψ:=λw=>fR (ts++[(⟨x.kind,x.eD,x.name,E,B,x.n,x.body,x.et,x.at_⟩:bE)]) (out++[x]) w/\(λw=>Q w/\mv w (⟨x.kind,x.eD,x.name,E,B,x.n,x.body,x.et,x.at_⟩:bE) x) w) (λ_ h=>⟨h.1.1.snoc h.2,h.1.2,h.2⟩);have u:=u.p3.p1.p3.p3;exact⟨vb cJ,u⟩
      .have u:=u.p3.p4.gd.dF (Ψ:=λw=>fR (ts++[(⟨x.kind,x.eD,x.name,E,B,x.n,x.body,x.et,x.at_⟩:bE)]) (out++[x]) w/\(λw=>Q w/\mv w (⟨x.kind,x.eD,x.name,E,B,x.n,x.body,x.et,x.at_⟩:bE) x) w) (λ_ h=>⟨h.1.1.snoc h.2,h.1.2,h.2⟩);have u:=u.p3.p1.p3.p3;exact⟨vb cJ,u⟩
     .rintro _ w16 ⟨rfl,u⟩ _;refine aC (λSR=>?_) (λSR=>?_)
      .refine bF yU u (H':=λ_=>bY p (ek lv T7 (dU l q (ia #[59])))) (Φ:=λ_ _=>True) (λM O U=>?_) ?_
       .exact(C257 p lv T7 l q (ia #[59]) M _ O (λw' hc=>W w' (U w' hc).aF) hk (CO (Kq h0) nU)).mono λ_ _ r=>r.mono λ_ _ h=>⟨trivial,h.2⟩
       rintro _ _ _ u;have u:=u.p3.drop.p1.p1.p2.dF (Ψ:=λw=>fR (ts++[(⟨x.kind,x.eD,x.name,E,B,x.n,x.body,x.et,x.at_⟩:bE)]) (out++[x]) w/\Q w) (λ_ h=>⟨h.1,h.2.1⟩);have u:=u.p2.p2;obtain⟨e1,e2⟩:=Iy DU SR;rw[e1,e2];exact⟨rfl,(pT.shut u).mut⟩
      .refine⟨λY w'=>Y=hH (if (iL l s.at_ 13)=12 then lp+1 else lp)/\w16=w',?_,?_⟩
       .refine aG (aC (λasw=>?_) λasw=>?_)
        .refine aK bM ?_;exact⟨by rw[ej bM],rfl⟩
        .exact⟨by rw[ei bM],rfl⟩
       .rintro _ _ ⟨rfl,hw⟩ _;subst hw;refine aK bM ?_;have u:=pT.shut u.p2.p2.p2;obtain⟨V,I,KU,Wz⟩:=T5 DU SR;have hm1:I.length<add.length:=by rcases Wz with⟨_,s5,m2,_,_,e⟩|⟨_,_,e⟩<;>rw[e]<;>simp<;>omega
        refine bF agI u (H':=λ_=>pT p lv V ((out++[x])++I) λw=>Q w/\mv w (⟨x.kind,x.eD,x.name,E,B,x.n,x.body,x.et,x.at_⟩:bE) x) (Φ:=λv _=>v=hH (I.length:Int)) (λM O U=>?_) ?_
        .exact HB p lv q (d+1) (if (iL l s.at_ 13)=12 then lp+1 else lp) (out++[x]) V I (λw=>Q w/\mv w (⟨x.kind,x.eD,x.name,E,B,x.n,x.body,x.et,x.at_⟩:bE) x) M _ O (λw' hc=>W w' (U w' hc).aF) (CO (Kq h0) nU) bM (by split<;>omega) (by rw[kU,l0];omega) KU
        rintro _ _ rfl u;obtain⟨ov3,vx,u⟩:=pT.open u;refine aA iU (aW u.p3 bO (dR rfl) (rfl) λ_ u=>?_);have u:=u.enc (cs':=hZ (⟨x.kind,x.eD,x.name,E,B,x.n,(I.length:Int),x.et,x.at_⟩:bE)) rfl;refine⟨λw'=>∃(bd el:Int) (rest:List bP),add={x with body:=bd,et:=el}::rest/\St w F [pT p lv s2 ((out++[x])++rest) (λw=>Q w/\mv w (⟨x.kind,x.eD,x.name,E,B,x.n,x.body,x.et,x.at_⟩:bE) x),bY Cm (hZ (⟨x.kind,x.eD,x.name,E,B,x.n,bd,el,x.at_⟩:bE))] w',?_,?_⟩
        .refine⟨λY w'=>Y=.bool (kC l (iL l s.at_ 13) V)/\St w F [bY p (ek lv ov3 V),bH ov3 vx,eA (λw=>fR vx ((out++[x])++I) w/\(λw=>Q w/\mv w (⟨x.kind,x.eD,x.name,E,B,x.n,x.body,x.et,x.at_⟩:bE) x) w),bY Cm (hZ (⟨x.kind,x.eD,x.name,E,B,x.n,(I.length:Int),x.et,x.at_⟩:bE))] w',?_,?_⟩
         .refine aG (aC (λIA=>?_) λIA=>?_)
          .refine aE (aA kN (have u:=u.drew;aB jG u.p1.hb rfl (aG (aC (λCq=>?_) λCq=>?_))))
           .refine aE (aA iJ (aB jk u.p1.hb rfl (aE (aA fb (aB bO u.p1.hb rfl (aV vP u (C209 _ l V.at_ (ia #[101,108,115,101]) _ (W _ u.aF) hn) λ_ he u=>?_))))));have u:=u.p3.p3.p3;exact⟨vb (by unfold kC;rw[ew IA,ew Cq];rfl),u⟩
           .have u:=u.p3.p3.p3;exact⟨vb (by unfold kC;first|(rw[ez IA];rfl)|(rw[ew IA,ez Cq];rfl)),u⟩
          .have u:=u.drew.p3.p3.p3;exact⟨vb (by unfold kC;first|(rw[ez IA];rfl)|(rw[ew IA,ez Cq];rfl)),u⟩
         .rintro _ _ ⟨rfl,u⟩ _;refine aY (λG=>?_) (λG=>?_)
          .obtain⟨J,s5,m2,hb2,e5,Z⟩|⟨J,_⟩:=Wz
           rotate_left
           .rw[J]at G;cases G
           subst e5;have hin3:=sT (show tM l V.at_ ahZ=true by unfold kC at G;rw[n3]at G;exact G.2);refine aE (aA fb (aB bO u.hb rfl (aK bM (aE (aA fb (aW u bO (dR rfl) (rfl) λ_ u=>aK bM ?_))))));have u:=pT.shut (s:=VI V) u.p2.p2.p2;have hkd11:(iL l s.at_ 13)=11:=by unfold kC at G;simp at G;exact G.1.1
           rw[ei (show ¬ (iL l s.at_ 13)=12 by omega)];refine bF agI u (H':=λ_=>pT p lv s2 (((out++[x])++I)++m2) λw=>Q w/\mv w (⟨x.kind,x.eD,x.name,E,B,x.n,x.body,x.et,x.at_⟩:bE) x) (Φ:=λv _=>v=hH (m2.length:Int)) (λM O U=>?_) ?_
           .exact HB p lv (VI V) (d+1) lp ((out++[x])++I) s2 m2 (λw=>Q w/\mv w (⟨x.kind,x.eD,x.name,E,B,x.n,x.body,x.et,x.at_⟩:bE) x) M _ O (λw' hc=>W w' (U w' hc).aF) (Rm G) bM bM (by have:=fM List.length Z;simp at this |-;omega) hb2
           rintro _ _ rfl u;rw[nk (out++[x])]at u;refine aA iH (aW u.p1 bO (dR rfl) (rfl) λ_ u=>?_);have u:=u.enc (cs':=hZ (⟨x.kind,x.eD,x.name,E,B,x.n,(I.length:Int),(m2.length:Int),x.at_⟩:bE)) rfl;have u:=u.p1;exact⟨_,_,_,Z,u⟩
          .obtain⟨J,_⟩|⟨J,e5,Z⟩:=Wz
           .rw[J]at G;cases G
           subst e5;have u:=((pT.shut u.p2.p2.p2).p1).p1;exact⟨(I.length:Int),x.et,I,Z,u⟩
        .rintro _ ⟨bd,el,rest,Z,u⟩ _;obtain⟨ov5,ts5,u⟩:=pT.open u;refine aE (aA qq (have u:=u.drew;aB jJ u.hb rfl (aD eK u.p3.At ?_)));have h5l:ts5.length=(out++[x]++rest).length:=u.p2.eA.1.1;have h6l:=fM List.length Z;simp only[kU,ob,Mh]at h5l h6l;obtain⟨azy,auM⟩:=gx ts5 (i:=(ts.length:Int).toNat) bM;refine dM u.p1 fq bM bM (λ_ aln=>jo _ u.p1 eK aln bM λ_ u=>?_);have u:=u.p3.drop.p1.p2.dF (Ψ:=λw=>fR (ts5.set (ts.length:Int).toNat (⟨x.kind,x.eD,x.name,E,B,x.n,bd,el,x.at_⟩:bE)) (out++add) w/\Q w) (λ_ h=>⟨by
  have hh:=afo (i:=(ts.length:Int).toNat) (t:=(⟨x.kind,x.eD,x.name,E,B,x.n,bd,el,x.at_⟩:bE)) (x:={x with body:=bd,et:=el}) h.1 ⟨E,B,rfl,afm (x:=x) h.2.2,afn (x:=x) h.2.2⟩;rw[show(ts.length:Int).toNat=out.length from bM,nk,List.singleton_append,aaX]at hh
  rw[Z,show(ts.length:Int).toNat=out.length from bM];exact hh,h.2.1⟩)
         have u:=u.p2.p2;exact⟨rfl,(pT.shut u).mut⟩
def C293(p:Nat)(lv:Value)(l:List bR)(s:fO)(k:Nat)(d lp:Int)(out:List bP)(s2:fO)(add:List bP)(Q:g7)(F:Nat->Prop)(w:World)(hF:(pT p lv s out Q).p w F)(M:∀w',gz F w w'->cZ (λ_=>True) w' lv l)(O:jh l)(Y:lF l s)(HB:ali l k)(hd:0<=d/\d+k<=1000)(hlp:0<=lp/\lp+k<=1000)(GL:out.length+add.length<=1000000)(hr:WM l (k+1) s d lp=some (s2,add)):CR 293 [(.pointer (some ⟨p,0,none⟩)),hH d,hH lp] w (λv w'=>v=hH (add.length:Int)/\mP F (pT p lv s2 (out++add) Q) w w'):=by
 have u:=St.begin hF;obtain⟨ov,ts,u⟩:=pT.open u;have Pp:ts.length=out.length:=u.p2.eA.1.1;obtain⟨s9,hb0,e2⟩:=aaW hr;have D9:=O.n;have hn:l.length<=1000000:=bM
 have sB:=O.at_;obtain⟨TV,TW⟩:=id Y;refine py Tryz.func293 (pl:=awi) ?_;refine aE (aA qq (aB jJ u.hb rfl (aH fq u.p1.dS ⟨λw'=>St w F [bY p (ek lv ov (WL l s d)),bH ov ts,eA λw=>fR ts out w/\Q w] w',⟨λjv w'=>jv=.bool (decide (12<d)&&tM l s.at_ Dj)/\St w F [bY p (ek lv ov s),bH ov ts,eA λw=>fR ts out w/\Q w] w',cP (aC (λ_=>aE (aA iJ (have u:=u.drew;aB jk u.hb rfl (aE (aA fb (aB bO u.hb rfl (aV vP u (C209 _ l s.at_ (ia #[123]) _ (M _ u.aF) hn) λ_ _ u=>⟨vb (by first|(rw[ew (show 12<d by omega)];rfl)|(rw[ez (show ¬ 12<d by omega)];rfl)),u⟩))))))) λ_=>have u:=u.drew;⟨vb (by first|(rw[ew (show 12<d by omega)];rfl)|(rw[ez (show ¬ 12<d by omega)];rfl)),u⟩),?_⟩,?_⟩)))
 .rintro _ _ ⟨rfl,u⟩ _;refine aY (λjx=>?_) (λjx=>?_)
  .refine bF Hs u (H':=λ_=>bY p (ek lv ov (js l s 7))) (Φ:=λ_ _=>True) (λJ I G=>?_) ?_
   .exact(C291 p lv ov l s 7 J _ I (λw' hc=>M w' (G w' hc).aF) O Y).mono λ_ _ r=>r.mono λ_ _ h=>⟨trivial,h.2⟩
   rintro _ _ _ u;have u:=u.p2.p2.p2;have h7:WL l s d=js l s 7:=by unfold WL;rw[ej jx]
   rw[h7];exact u
  have u:=u.p2.p2.p2;have h7:WL l s d=s:=by unfold WL;rw[ei (by rw[jx];simp)]
  rw[h7];exact u
 intro _ u _;refine bF yU u (H':=λ_=>bY p (ek lv ov (dU l (WL l s d) (ia #[123])))) (Φ:=λ_ _=>True) (λJ I G=>?_) ?_
 .exact(C257 p lv ov l (WL l s d) (ia #[123]) J _ I (λw' hc=>M w' (G w' hc).aF) O (Rj Y)).mono λ_ _ r=>r.mono λ_ _ h=>⟨trivial,h.2⟩
 rintro _ _ _ u;have u:=pT.shut (s:=dU l (WL l s d) Dj) u.p2.p2.p2;refine⟨λmm w'=>∃(B:fO) (E a2:List bP),lF l B/\tP l (λs=>DI l (WM l k) s d lp) mm B=some (s9,a2)/\add=E++a2/\St w F [pT p lv B (out++E) Q] w',⟨10000,_,[],add,fI (Rj Y),hb0,rfl,by rw[oo];exact u⟩,?_⟩;rintro mm _ ⟨B,E,a2,Z,KU,W,u⟩ _;obtain⟨m,rfl⟩:=Iz KU;obtain⟨V,Ye,u⟩:=pT.open u;have afp:Ye.length=(out++E).length:=u.p2.eA.1.1;rw[kU]at afp;refine⟨λjv w'=>jv=.bool (decide (B.e=0)&&!tM l B.at_ oG)/\St w F [bY p (ek lv V B),bH V Ye,eA λw=>fR Ye (out++E) w/\Q w] w',aE (aA kN (have u:=u.drew;aB jG u.hb rfl (aG (aC (λU=>aE (aA iJ (aB jk u.hb rfl (aE (aA fb (aB bO u.hb rfl (aV vP u (C209 _ l B.at_ (ia #[125]) _ (M _ u.aF) hn) λ_ _ u=>bQ (have u:=u.p2.p2.p2;⟨vb (by first|(rw[ew U];rfl)|(rw[ez U];rfl)),u⟩)))))))) λU=>have u:=u.p2.p2.p2;⟨vb (by first|(rw[ew U];rfl)|(rw[ez U];rfl)),u⟩)))),?_⟩
 rintro _ _ ⟨rfl,u⟩ _;refine aY (λxe=>?_) (λxe=>?_)
 .obtain⟨s3,a1,a3,ho,hb3,rfl⟩:=Ks KU xe;have u:=pT.shut u.p2.p2.p2;refine bF agG u (H':=λ_=>pT p lv s3 ((out++E)++a1) Q) (Φ:=λ_ _=>True) (λJ I G=>?_) ?_
  .exact(C256 p lv l B k d lp (out++E) s3 a1 Q J _ I (λw' hc=>M w' (G w' hc).aF) O Z HB bM bM (by have:=fM List.length W;simp at this |-;omega) ho).mono λ_ _ r=>r.mono λ_ _ h=>⟨trivial,h.2⟩
  rintro _ _ _ u;exact⟨_,bM,s3,E++a1,a3,Rk (λ_ _ _ _ _ c e=>Rl c e) Z ho,hb3,by rw[W,nk],by rw[<- nk];exact u⟩
 obtain⟨e9,rfl⟩:=Gi KU xe;replace e9:=e9.symm;subst e9;rw[oo]at W;subst W;refine bF yU u (H':=λ_=>bY p (ek lv V (dU l B (ia #[125])))) (Φ:=λ_ _=>True) (λJ I G=>?_) ?_
 .exact(C257 p lv V l B (ia #[125]) J _ I (λw' hc=>M w' (G w' hc).aF) O Z).mono λ_ _ r=>r.mono λ_ _ h=>⟨trivial,h.2⟩
 rintro _ _ _ u;refine aE (aA qq (aB jJ u.hb rfl (aH fq u.p1.dS (fr bM ?_))));rw[e2];exact⟨fM (ng .i64) bM,(pT.shut u).mut⟩
theorem asy{l:List bR}(B:jh l):∀k,ali l k
 | 0=>λp lv s d lp out u add Q F w _ _ _ _ _ _ h=>by cases h
 | k+1=>λp lv s d lp out u add Q F w I E J hd M G h=>C293 p lv l s k d lp out u add Q F w I E B J (asy B k) bM bM G h
def um(i:Int):fO:=⟨i,0,0⟩
def Gj(l:List bR)(i op:Int):Option (List bP×Int×Int×Int):=
 (tP l (λs=>DI l (WM l 20) s 0 0) 10000 (um i)).bind λr=>
  if 1000000<r.2.length then none else if (dU l r.1 oG).e≠0 then some ([],0,(dU l r.1 oG).e,(dU l r.1 oG).pos)
  else if 40<r.2.length then some ([],0,2,(pF l op).at_)
  else some (r.2,(dU l r.1 oG).at_,0,0)
def Ku(l:List bR)(s:fO):Bool:=match lZ l s.at_ with|some t=>decide (t.kind=2)|none=>false
def jE(l:List bR)(nb:Bool)(s:fO):fO×cI:=
 if (nb&&(iE l (fc l s).1 KY).2)=true then
  (if Ku l (iE l (fc l s).1 KY).1=true then(VI (iE l (fc l s).1 KY).1,{ (fc l s).2 with n:=(pF l (iE l (fc l s).1 KY).1.at_).n})
  else(js l (iE l (fc l s).1 KY).1 5,(fc l s).2))
 else fc l s
abbrev CP:ByteArray:=⟨#[44]⟩
abbrev T8:ByteArray:=⟨#[59]⟩
def pY(l:List bR)(nb:Bool):Nat->Bool->fO->Option (fO×List cI)
 | 0,_,_=>none
 | m+1,more,s=>if (more&&decide (s.e=0))=true then(pY l nb m (iE l (jE l nb s).1 CP).2 (iE l (jE l nb s).1 CP).1).bind λr=>some (r.1,(jE l nb s).2::r.2)else some (s,[])
def nt(l:List bR)(nb:Bool)(s:fO):Option (fO×List cI):=(pY l nb 10000 true s).bind λr=>if 1000000<r.2.length then none else some (dU l r.1 T8,r.2)
abbrev VK:ByteArray:=⟨#[114,101,103]⟩
def BG(l:List bR)(s:fO):Option (fO×List ByteArray):=
 if (iE l s VK).2=true then(nt l false (iE l s VK).1).bind λr=>some (r.1,r.2.map cI.name)else some (s,[])
def tQ(l:List bR)(s:fO)(nm:ByteArray)(a:Int):Option (fO×cM):=
 (BG l (dU l s Dj)).bind λr=>
  if r.1.e≠0 then some (r.1,⟨nm,r.2,[],a⟩)
  else(Gj l r.1.at_ s.at_).bind λR=>if 0<=R.2.1/\R.2.1<=l.length then some (⟨R.2.1,R.2.2.1,R.2.2.2⟩,⟨nm,r.2,R.1,a⟩)else none
def xP(l:List bR)(s:fO)(a:Int):Option (fO×gV):=
 (v9 l s.at_).bind λR=>if R.2.2.1≠0 then some ({s with e:=R.2.2.1,pos:=R.2.2.2},⟨[],0⟩)
  else if 0<=R.2.1/\R.2.1<=l.length then some (dU l {s with at_:=R.2.1} T8,⟨R.1,a⟩)else none
def nf{α:Type}(l:List bR)(t:ByteArray)(rd:fO->Option (fO×α)):Nat->fO->Option (fO×List α)
 | 0,_=>none
 | m+1,s=>if (iE l s t).2=true then(rd (iE l s t).1).bind λr=>(nf l t rd m r.1).bind λq=>some (q.1,r.2::q.2)else some (s,[])
def Ac(l:List bR)(s:fO):Int:=(pF l (s.at_-1)).at_
def Rn(l:List bR)(s:fO):Option (fO×List cM):=
 if (iE l s ⟨#[114,101,99,111,118,101,114]⟩).2=true then(tQ l (iE l s ⟨#[114,101,99,111,118,101,114]⟩).1 ⟨#[]⟩ (Ac l (iE l s ⟨#[114,101,99,111,118,101,114]⟩).1)).bind λr=>some (r.1,[r.2])else some (s,[])
abbrev aaY:ByteArray:=⟨#[108,105,110,101]⟩
abbrev alo:ByteArray:=⟨#[118,111,108]⟩
abbrev aaZ:ByteArray:=⟨#[108,111,99,107]⟩
abbrev Kv:ByteArray:=⟨#[116,104,114,101,97,100]⟩
abbrev Kw:ByteArray:=⟨#[97,108,119,97,121,115]⟩
def alp(l:List bR)(s:fO):Option (fO×cM):=tQ l (fc l s).1 (fc l s).2.name (fc l s).2.at_
def Hc(l:List bR)(s:fO):fO:=if s.at_<l.length then js l s 5 else s
def N9:cA:=⟨[],[],[],[],[],[]⟩
def vG(t:ByteArray):Option (cA×Int×Int):=
 (vZ t).bind λL=>if L.2.1≠0 then some (N9,L.2.1,L.2.2)else
 (nf L.1 aaY (nt L.1 true) 10000 (um 0)).bind λG=>
 (nf L.1 alo (nt L.1 true) 10000 G.1).bind λI=>
 (nf L.1 aaZ (nt L.1 false) 10000 I.1).bind λE=>
 (nf L.1 Kv (alp L.1) 10000 E.1).bind λB=>
 (Rn L.1 B.1).bind λJ=>
 (nf L.1 Kw (λs=>xP L.1 s (Ac L.1 s)) 10000 J.1).bind λu=>
  if 1000000<G.2.length\/1000000<I.2.flatten.length\/1000000<E.2.flatten.length\/1000000<B.2.length\/1000000<u.2.length then none else if (Hc L.1 u.1).e≠0 then some (N9,(Hc L.1 u.1).e,(Hc L.1 u.1).pos)else some (⟨G.2,I.2.flatten,E.2.flatten,B.2,J.2,u.2⟩,0,0)
section
variable {l:List bR}{s s':fO}
theorem aa0{t:ByteArray}(h:(iE l s t).2=true):iE l s t=({s with at_:=s.at_+1},true)/\s.e=0/\0<=s.at_/\s.at_<l.length:=by
 unfold iE at h |-
 split at h
 .rename_i h2
  rw[ej h2]
  rw[n3,decide_eq_true_eq]at h2
  exact⟨rfl,h2.1,sT h2.2⟩
 cases h
theorem xQ{t:ByteArray}(h:(iE l s t).2=false):iE l s t=(s,false):=by
 grind[iE]
theorem Gk{nb:Bool}(h:lF l s):lF l (jE l nb s).1:=by
 have h1:=uZ h
 have h2:=kx (t:=KY) h1
 unfold jE
 split
 .split
  .rename_i h3
   unfold Ku at h3
   cases ht:lZ l (iE l (fc l s).1 KY).1.at_ with
   | none=>grind
   | some t=>
    have:=mL ht
    exact⟨by show 0<=(iE l (fc l s).1 KY).1.at_+1;omega,by show(iE l (fc l s).1 KY).1.at_+1<=_;omega⟩
  exact tO h2
 exact h1
theorem IB{nb:Bool}:∀{m:Nat}{more:Bool}{s s':fO}{x:List cI},lF l s->pY l nb m more s=some (s',x)->lF l s'
 | 0,_,_,_,_,_,h=>by cases h
 | m+1,more,s,s',x,u,h=>by
  unfold pY at h
  split at h
  .obtain⟨q,y,h1,h2⟩:=eR h
   cases h2
   exact IB (kx (Gk u)) h1
  grind
theorem yC{nb:Bool}{x:List cI}(h:nt l nb s=some (s',x)):∃u,pY l nb 10000 true s=some (u,x)/\s'=dU l u T8/\x.length<=1000000:=by
 unfold nt at h
 obtain⟨q,y,h1,h2⟩:=eR h
 grind
theorem yD{nb:Bool}{x:List cI}(u:lF l s)(h:nt l nb s=some (s',x)):lF l s':=by
 obtain⟨B,h1,h2,_⟩:=yC h
 rw[h2];exact fI (IB u h1)
theorem Oa{nb more:Bool}{m:Nat}{x:List cI}(h:pY l nb m more s=some (s',x)):∃k,m=k+1:=by
 cases m with
 | zero=>cases h
 | succ k=>grind
theorem Gl{nb more:Bool}{m:Nat}{x:List cI}(h:pY l nb (m+1) more s=some (s',x))(hb:(more&&decide (s.e=0))=false):s'=s/\x=[]:=by
 unfold pY at h;grind
theorem VL{nb more:Bool}{m:Nat}{x:List cI}(h:pY l nb (m+1) more s=some (s',x))(hb:(more&&decide (s.e=0))=true):∃y,pY l nb m (iE l (jE l nb s).1 CP).2 (iE l (jE l nb s).1 CP).1=some (s',y)/\x=(jE l nb s).2::y:=by
 unfold pY at h;rw[hb,ej rfl]at h
 obtain⟨q,y,h1,h2⟩:=eR h
 grind
theorem Ob{x:List ByteArray}(u:lF l s)(h:BG l s=some (s',x)):lF l s':=by
 unfold BG at h
 split at h
 .obtain⟨q,y,h1,h2⟩:=eR h
  cases h2
  exact yD (kx u) h1
 grind
theorem Gm{nm:ByteArray}{a:Int}{x:cM}(u:lF l s)(h:tQ l s nm a=some (s',x)):lF l s':=by
 unfold tQ at h
 obtain⟨q,y,h1,h2⟩:=eR h
 have h3:=Ob (fI u) h1
 dsimp only at h2
 split at h2
 .grind
 cases hr:Gj l q.at_ s.at_ with
 | none=>grind
 | some R=>
  grind[lF]
theorem VM{a:Int}{x:gV}(u:lF l s)(h:xP l s a=some (s',x)):lF l s':=by
 unfold xP at h
 cases hr:v9 l s.at_ with
 | none=>grind
 | some R=>
  rw[hr]at h
  simp only[ma]at h
  split at h
  .cases h;exact u
  .split at h
   .rename_i h4;cases h;exact fI h4
   .cases h
theorem sV{α:Type}{t:ByteArray}{rd:fO->Option (fO×α)}{m:Nat}{x:List α}(h:nf l t rd m s=some (s',x)):∃k,m=k+1:=by
 cases m with
 | zero=>cases h
 | succ k=>grind
theorem u0{α:Type}{t:ByteArray}{rd:fO->Option (fO×α)}{m:Nat}{x:List α}(h:nf l t rd (m+1) s=some (s',x))(hb:(iE l s t).2=false):s'=s/\x=[]:=by
 unfold nf at h;grind
theorem xR{α:Type}{t:ByteArray}{rd:fO->Option (fO×α)}{m:Nat}{x:List α}(h:nf l t rd (m+1) s=some (s',x))(hb:(iE l s t).2=true):∃u y z,rd (iE l s t).1=some (u,y)/\nf l t rd m u=some (s',z)/\x=y::z:=by
 unfold nf at h;rw[hb,ej rfl]at h
 obtain⟨q,y,h1,h2⟩:=eR h
 obtain⟨B,E,h3,h4⟩:=eR h2
 grind
end
def noQ:g7:=λ_=>True
theorem BH{l:List bR}{i:Int}{t:bR}(u:0<=i)(h:l[i.toNat]?=some t):pF l i=t:=by
 unfold pF lZ;grind
def afq{l:List bR}{i op:Int}{R:List bP×Int×Int×Int}(h:Gj l i op=some R):∃u add,tP l (λs=>DI l (WM l 20) s 0 0) 10000 (um i)=some (u,add)/\add.length<=1000000/\
  ((dU l u oG).e≠0->R=([],0,(dU l u oG).e,(dU l u oG).pos))/\(¬ (dU l u oG).e≠0->40<(add.length:Int)->R=([],0,2,(pF l op).at_))/\
  (¬ (dU l u oG).e≠0->¬ 40<(add.length:Int)->R=(add,(dU l u oG).at_,0,0)):=by
 unfold Gj at h
 obtain⟨q,y,h1,h2⟩:=eR h
 grind
section
variable {l:List bR}{s s':fO}{nb:Bool}
theorem VN(u:nb=true)(h2:(iE l (fc l s).1 KY).2=true)(h3:Ku l (iE l (fc l s).1 KY).1=true) :
  jE l nb s=(VI (iE l (fc l s).1 KY).1,{ (fc l s).2 with n:=(pF l (iE l (fc l s).1 KY).1.at_).n}):=by
 unfold jE;grind
theorem VO(u:nb=true)(h2:(iE l (fc l s).1 KY).2=true)(h3:Ku l (iE l (fc l s).1 KY).1=false) :
  jE l nb s=(js l (iE l (fc l s).1 KY).1 5,(fc l s).2):=by
 unfold jE;grind
theorem aa1(h2:(iE l (fc l s).1 KY).2=false):jE l nb s=((iE l (fc l s).1 KY).1,(fc l s).2):=by
 unfold jE;rw[ei cJ,xQ h2]
theorem aa2(u:nb=false):jE l nb s=((fc l s).1,(fc l s).2):=by
 grind[jE,fc]
theorem afr{q:fO}(h:Ku l q=true):∃u,lZ l q.at_=some u/\l[q.at_.toNat]?=some u/\0<=q.at_/\q.at_<l.length:=by
 unfold Ku at h
 cases ht:lZ l q.at_ with
 | none=>grind
 | some u=>have:=mL ht;grind
theorem IC{x:List ByteArray}(h:BG l s=some (s',x))(h1:(iE l s VK).2=true):∃ys,nt l false (iE l s VK).1=some (s',ys)/\x=ys.map cI.name:=by
 unfold BG at h;rw[ej h1]at h
 obtain⟨q,y,h2,h3⟩:=eR h
 grind
theorem Oc{x:List ByteArray}(h:BG l s=some (s',x))(h1:(iE l s VK).2=false):s'=s/\x=[]:=by
 unfold BG at h;grind
theorem Ro{nm:ByteArray}{a:Int}{x:cM}(h:tQ l s nm a=some (s',x)):∃q rs,BG l (dU l s Dj)=some (q,rs)/\
  (q.e≠0->s'=q/\x=⟨nm,rs,[],a⟩)/\(¬ q.e≠0->∃R,Gj l q.at_ s.at_=some R/\0<=R.2.1/\R.2.1<=l.length/\s'=⟨R.2.1,R.2.2.1,R.2.2.2⟩/\x=⟨nm,rs,R.1,a⟩):=by
 unfold tQ at h
 obtain⟨q,rs,h1,h2⟩:=eR h
 refine⟨q,rs,h1,λu=>?_,λu=>?_⟩
 .grind
 dsimp only at h2;rw[ei u]at h2
 cases hr:Gj l q.at_ s.at_ with
 | none=>grind
 | some R=>
  grind
theorem VP{a:Int}{x:gV}(h:xP l s a=some (s',x)):∃R,v9 l s.at_=some R/\
  (R.2.2.1≠0->s'={s with e:=R.2.2.1,pos:=R.2.2.2}/\x=⟨[],0⟩)/\(¬ R.2.2.1≠0->(0<=R.2.1/\R.2.1<=l.length)/\s'=dU l {s with at_:=R.2.1} T8/\x=⟨R.1,a⟩):=by
 unfold xP at h
 cases hr:v9 l s.at_ with
 | none=>grind
 | some R=>
  grind
theorem alq{e:Int}(u:e≠0)(h:(js l s e).e=0):False:=by
 unfold js at h
 grind
theorem afs{t:ByteArray}(h:(dU l s t).e=0):tM l s.at_ t=true:=by
 unfold dU at h
 split at h
 .grind
 exact(alq dC h).elim
theorem asA{t:ByteArray}:(iE l s t).1.e=s.e:=by unfold iE;grind
theorem VQ{e:Int}(h:s.e≠0):(js l s e).e≠0:=by unfold js;grind
theorem Rp{t:ByteArray}(h:s.e≠0):(dU l s t).e≠0:=by
 unfold dU;rw[ei cJ];exact VQ h
theorem Od:∀{m:Nat}{more:Bool}{s s':fO}{x:List cI},s.e≠0->pY l nb m more s=some (s',x)->s'.e≠0
 | 0,_,_,_,_,_,h=>by cases h
 | m+1,more,s,s',x,u,h=>by
  have:=Gl h cJ
  grind
theorem Oe{x:List cI}(u:s.e≠0)(h:nt l nb s=some (s',x)):s'.e≠0:=by
 obtain⟨B,h1,h2,_⟩:=yC h
 rw[h2];exact Rp (Od u h1)
theorem Rq{x:List ByteArray}(u:s.e≠0)(h:BG l s=some (s',x)):s'.e≠0:=by
 cases h1:(iE l s VK).2 with
 | true=>obtain⟨ys,h2,_⟩:=IC h h1;exact Oe (by rw[asA];exact u) h2
 | false=>rw[(Oc h h1).1];exact u
end
theorem Hd{α β:Type}{f:α->β}{l:List α}{k:Nat}{e:α}(h:l[k]?=some e):(l.take k).map f++[f e]=(l.take (k+1)).map f:=by
 rw[<- gO h,List.map_append];rfl
def Of{l:List bR}{s s':fO}{x:List cM}(h:Rn l s=some (s',x))(h1:(iE l s ⟨#[114,101,99,111,118,101,114]⟩).2=true):∃y,tQ l (iE l s ⟨#[114,101,99,111,118,101,114]⟩).1 ⟨#[]⟩ (Ac l (iE l s ⟨#[114,101,99,111,118,101,114]⟩).1)=some (s',y)/\x=[y]:=by
 unfold Rn at h;rw[ej h1]at h
 obtain⟨q,y,h2,h3⟩:=eR h
 grind
theorem T9{l:List bR}{s s':fO}{x:List cM}(h:Rn l s=some (s',x))(h1:(iE l s ⟨#[114,101,99,111,118,101,114]⟩).2=false):s'=s/\x=[]:=by
 unfold Rn at h;grind
theorem VR{t:ByteArray}{l:List bR}{e a:Int}{R:cA×Int×Int}(h:vG t=some R)(u:vZ t=some (l,e,a))(B:e≠0):R=(N9,e,a):=by
 unfold vG at h;rw[u]at h
 simp only[ma]at h
 rw[ej B]at h;exact(n4.inj h).symm
theorem Rr{t:ByteArray}{R:cA×Int×Int}(h:vG t=some R):∃l e a,vZ t=some (l,e,a):=by
 unfold vG at h
 cases hs:vZ t with
 | none=>rw[hs]at h;cases h
 | some L=>exact⟨L.1,L.2.1,L.2.2,rfl⟩
structure alr(l:List bR)(R:cA×Int×Int)(t1 t2 t3 t4 t5 t6:fO)(y1:List (List cI))(y2 y3:List (List cI))(y4 y5:List cM)(y6:List gV):Prop where
 h1:nf l aaY (nt l true) 10000 (um 0)=some (t1,y1)
 h2:nf l alo (nt l true) 10000 t1=some (t2,y2)
 h3:nf l aaZ (nt l false) 10000 t2=some (t3,y3)
 h4:nf l Kv (alp l) 10000 t3=some (t4,y4)
 h5:Rn l t4=some (t5,y5)
 h6:nf l Kw (λs=>xP l s (Ac l s)) 10000 t5=some (t6,y6)
 b1:y1.length<=1000000
 b2:y2.flatten.length<=1000000
 b3:y3.flatten.length<=1000000
 b4:y4.length<=1000000
 b6:y6.length<=1000000
 bad:(Hc l t6).e≠0->R=(N9,(Hc l t6).e,(Hc l t6).pos)
 azz:¬ (Hc l t6).e≠0->R=(⟨y1,y2.flatten,y3.flatten,y4,y5,y6⟩,0,0)
def aa3{t:ByteArray}{l:List bR}{e a:Int}{R:cA×Int×Int}(h:vG t=some R)(hs:vZ t=some (l,e,a))(he:¬ e≠0):∃M W I Y Z B V E J G u U,alr l R M W I Y Z B V E J G u U:=by
 unfold vG at h;rw[hs]at h
 simp only[ma]at h
 rw[ei he]at h
 obtain⟨M,V,h1,h⟩:=eR h
 obtain⟨W,E,h2,h⟩:=eR h
 obtain⟨I,J,h3,h⟩:=eR h
 obtain⟨Y,G,h4,h⟩:=eR h
 obtain⟨Z,u,h5,h⟩:=eR h
 obtain⟨B,U,h6,h⟩:=eR h
 dsimp only at h
 split at h
 .cases h
 rename_i hb
 simp only[not_or,Nat.not_lt]at hb
 refine⟨M,W,I,Y,Z,B,V,E,J,G,u,U,h1,h2,h3,h4,h5,h6,hb.1,hb.2.1,hb.2.2.1,hb.2.2.2.1,hb.2.2.2.2,λO=>?_,λO=>?_⟩
 .rw[ej O]at h;exact(n4.inj h).symm
 rw[ei O]at h;exact(n4.inj h).symm
theorem afu{l:List bR}{s s':fO}{x:List cM}(u:lF l s)(h:Rn l s=some (s',x)):lF l s':=by
 cases h1:(iE l s ⟨#[114,101,99,111,118,101,114]⟩).2 with
 | true=>obtain⟨y,h2,_⟩:=Of h h1;exact Gm (kx u) h2
 | false=>rw[(T9 h h1).1];exact u
theorem BI{α:Type}{a:List (List α)}{b:List α}:(a++[b]).flatten=a.flatten++b:=ee
def Ua{α:Type}{y a c:List (List α)}{b:List α}(h:y=a++b::c):a.flatten.length+b.length<=y.flatten.length:=cJ
def C212(l:List bR)(lv:Value)(i op:Int)(R:List bP×Int×Int×Int)(w:World)(hL:cZ (λ_=>True) w lv l)(M:jh l)(h0:0<=i/\i<=l.length)(kf:0<=op/\op<l.length)(hr:Gj l i op=some R):CR 212 [lv,hH i,hH op] w (λv w'=>∃sv:SV,v=.tuple #[hM sv,hH R.2.1,hH R.2.2.1,hH R.2.2.2]/\kP (eA λw=>DL w (hM sv) R.1) w w'):=by
 have D9:=M.n;have hn:l.length<=1000000:=bM
 have sB:=M.at_;obtain⟨s9,add,hb0,GL,hR⟩:=afq hr;obtain⟨lsv,I⟩:=hL.fV;have u:=St.start w;refine py Tryz.func212 (pl:=av2) ?_;rw[I];refine pop (Px _ _ _ _) (ny u λasB _ u=>?_);obtain⟨p,rfl⟩:∃p,p=asB:=⟨_,rfl⟩;have u:=u.enc (cs':=ek (hM lsv) (.slice none 0 0) (um i)) rfl;rw[<- I]at u |-;have hT:∀w',gz aZ w w'->cZ (λ_=>True) w' lv l:=λ_ hc=>hL.ext hc;have u:=((u.fH (Φ:=λw=>fR ([]:List bE) ([]:List bP) w/\noQ w) λ_=>⟨fR.nil,trivial⟩).eV (α:=bE)).p2;have u:=pT.shut u;refine⟨λmm w'=>∃(B:fO) (E a2:List bP),lF l B/\tP l (λs=>DI l (WM l 20) s 0 0) mm B=some (s9,a2)/\add=E++a2/\St w aZ [pT p lv B (([]:List bP)++E) noQ] w',⟨10000,um i,[],add,(show lF l (um i)from h0),hb0,rfl,by rw[oo];exact u⟩,?_⟩
 rintro mm _ ⟨B,E,a2,V,KU,W,u⟩ _;obtain⟨m,rfl⟩:=Iz KU;obtain⟨U,Y,u⟩:=pT.open u;have J:Y.length=(([]:List bP)++E).length:=u.p2.eA.1.1;rw[kU]at J;refine⟨λjv w'=>jv=.bool (decide (B.e=0)&&!tM l B.at_ oG)/\St w aZ [bY p (ek lv U B),bH U Y,eA λw=>fR Y (([]:List bP)++E) w/\noQ w] w',aE (aA kN (have u:=u.drew;aB jG u.hb rfl (aG (aC (λO=>aE (aA iJ (aB jk u.hb rfl (aE (aA fb (aB bO u.hb rfl (aV vP u (C209 _ l B.at_ (ia #[125]) _ (hT _ u.aF) hn) λ_ _ u=>bQ (have u:=u.p2.p2.p2;⟨vb (by first|(rw[ew O];rfl)|(rw[ez O];rfl)),u⟩)))))))) λO=>have u:=u.p2.p2.p2;⟨vb (by first|(rw[ew O];rfl)|(rw[ez O];rfl)),u⟩)))),?_⟩
 rintro _ _ ⟨rfl,u⟩ _;refine aY (λl9=>?_) (λl9=>?_)
 .obtain⟨s3,a1,a3,ho,hb3,rfl⟩:=Ks KU l9;have u:=pT.shut u.p2.p2.p2;refine bF agG u (H':=λ_=>pT p lv s3 ((([]:List bP)++E)++a1) noQ) (Φ:=λ_ _=>True) (λF2 ef dV=>?_) ?_
  .exact(C256 p lv l B 20 0 0 (([]:List bP)++E) s3 a1 noQ F2 _ ef (λw' hc=>hT w' (dV w' hc).aF) M V (asy M 20) bM bM (by have:=fM List.length W;simp at this |-;omega) ho).mono λ_ _ r=>r.mono λ_ _ h=>⟨trivial,h.2⟩
  rintro _ _ _ u;exact⟨_,bM,s3,E++a1,a3,Rk (λ_ _ _ _ _ c e=>Rl c e) V ho,hb3,by rw[W,nk],by rw[<- nk];exact u⟩
 obtain⟨e9,rfl⟩:=Gi KU l9;replace e9:=e9.symm;subst e9;rw[oo]at W;subst W;obtain⟨azB,azC⟩:=id V;simp only[Mh,Nat.zero_add]at J;refine bF yU u (H':=λ_=>bY p (ek lv U (dU l B (ia #[125])))) (Φ:=λ_ _=>True) (λF2 ef dV=>?_) ?_
 .exact(C257 p lv U l B (ia #[125]) F2 _ ef (λw' hc=>hT w' (dV w' hc).aF) M V).mono λ_ _ r=>r.mono λ_ _ h=>⟨trivial,h.2⟩
 rintro _ _ _ u;refine aE (aA kN (aB jG u.hb rfl (bV (aC (λZ=>?_) λZ=>aE (aA qq (aB jJ u.hb rfl (aH fq u.p1.dS (cP (aC (λBl=>?_) λBl=>?_)))))))))
 .refine aE (aA kN (have u:=u.drew;aB jG u.hb rfl (aE (aA AR (aB bO u.hb rfl ?_)))));have G:R=([],0,(dU l B oG).e,(dU l B oG).pos):=hR.1 Z;rw[G];exact⟨bW,rfl,(u.fH (Φ:=λw=>DL w (hM (bW:SV)) ([]:List bP)) λw=>DL.nil w).fresh⟩
 .obtain⟨ZD,Cy⟩:=gx l (i:=op.toNat) bM;refine aN fK hL bM Cy (λ_ Ft=>bU ZD.at_ lL Ft rfl rfl λ_ Bm=>have u:=u.drew;aD bO (Bm.ext u.aF) ?_);have G:R=([],0,2,ZD.at_):=(hR.2.1 Z bM).trans (by rw[BH kf.1 Cy]);rw[G];exact⟨bW,rfl,(u.fH (Φ:=λw=>DL w (hM (bW:SV)) ([]:List bP)) λw=>DL.nil w).fresh⟩
 refine aE (aA qq (have u:=u.drew;aB jJ u.hb rfl (aE (aA fb (aB bO u.hb rfl ?_)))));have u:=(u.drop.p1.dF (Ψ:=fR Y ([]++add)) λ_ h=>h.1).p1;have u:=St.wY u;obtain⟨sv,hsv⟩:=u.oZ;subst hsv;rw[hR.2.2 Z bM];exact⟨sv,rfl,u.nP.fresh⟩
def C132(p:Nat)(lv:Value)(l:List bR)(s:fO)(nb:Bool)(s2:fO)(x:List cI)(F:Nat->Prop)(w:World)(hF:(bY p (ey lv s)).p w F)(M:∀w',gz F w w'->cZ (λ_=>True) w' lv l)(U:jh l)(h0:lF l s)(hr:nt l nb s=some (s2,x)):CR 132 [(.pointer (some ⟨p,0,none⟩)),.bool nb] w (λv w'=>mP F (sep (bY p (ey lv s2)) (bH v x)) w w'):=by
 have u:=St.begin hF;obtain⟨s9,Ys,e2,GL⟩:=yC hr;have D9:=U.n;have hn:l.length<=1000000:=bM
 have sB:=U.at_;obtain⟨TV,TW⟩:=id h0;refine py Tryz.func132 (pl:=avP) ?_;refine bD ([]:List cI) u iu rfl rfl (dR rfl) (λakL _ u=>?_);have u:=u.p1.p1;refine⟨λmm o mo w'=>∃(B:fO) (b:Bool) (W a2:List cI),mo=.bool b/\lF l B/\pY l nb mm b B=some (s9,a2)/\x=W++a2/\St w F [bH o W,bY p (ey lv B)] w',⟨10000,s,true,[],x,rfl,h0,Ys,rfl,u⟩,?_⟩;rintro mm yK _ w2 ⟨B,b,W,a2,rfl,J,Yf,hx,u⟩ _;obtain⟨m,rfl⟩:=Oa Yf;obtain⟨azB,azC⟩:=id J;refine⟨λjv w'=>jv=.bool (b&&decide (B.e=0))/\w2=w',aY (λZ=>aE (aA ml (aB jG u.p1.hb rfl (aG ⟨vb (by first|(rw[Z];rfl)|(rw[Z];rfl)),rfl⟩)))) (λZ=>⟨vb (by first|(rw[Z];rfl)|(rw[Z];rfl)),rfl⟩),?_⟩
 rintro _ _ ⟨rfl,hw⟩ _;subst hw;refine aY (λep=>?_) (λep=>?_)
 .obtain⟨a3,hn3,rfl⟩:=VL Yf ep;refine bF agq u.p1 (H':=λ_=>bY p (ey lv (fc l B).1)) (Φ:=λv _=>v=hM (fc l B).2) (λE G I=>?_) ?_
  .exact C133 p lv l B E _ G (λw' hc=>M w' (I w' hc).aF) U J
  rintro _ _ rfl u;refine aR u oU (λY _ u=>aJ (x:=(fc l B).2) u l6 rfl rfl λ_ u=>⟨λw'=>St w F [bY p (ey lv (jE l nb B).1),bY Y (hZ (jE l nb B).2),bH yK W] w',⟨_,aY (λvH=>?_) (λvH=>?_),λ_ _ h=>h⟩,?_⟩)
  .refine bF yT u.p1 (H':=λ_=>bY p (ey lv (iE l (fc l B).1 (ia #[61])).1)) (Φ:=λv _=>v=.bool (iE l (fc l B).1 (ia #[61])).2) (λE G I=>?_) ?_
   .exact C131 p lv l (fc l B).1 (ia #[61]) E _ G (λw' hc=>M w' (I w' hc).aF) U (uZ J)
   rintro _ _ rfl u;intro wA;refine aY (λjx=>?_) (λjx=>?_)
   .have hq:=kx (t:=ia #[61]) (uZ J);obtain⟨O,hq1⟩:=id hq;refine⟨λjv w'=>jv=.bool (Ku l (iE l (fc l B).1 (ia #[61])).1)/\St w F [bY p (ey lv (iE l (fc l B).1 (ia #[61])).1),bY Y (hZ (fc l B).2),bH yK W] w',aE (aA fx (have u:=u.drew;aB bO u.hb rfl (aE (aA j4 (aB jk u.hb rfl (aH fK (M _ u.aF) (aQ (aC (λlr=>?_) λlr=>have u:=u.p2.p2.p2;⟨vb (by unfold Ku lZ;rw[ej O,mW bM]),u⟩)))))))),?_⟩
    .refine aE (aA j4 (aB jk u.hb rfl (aE (aA fx (aB bO u.hb rfl ?_)))));obtain⟨asD,aa4⟩:=gx l (i:=(((iE l (fc l B).1 (ia #[61])).1).at_).toNat) bM;exact aN fK (M _ u.aF) bM aa4 (λ_ Ff=>bU asD.kind lK Ff rfl rfl λ_ Mr=>aD bO Mr (aG (have u:=u.p2.p2.p2;⟨vb (by unfold Ku lZ;rw[ej O,aa4]),u⟩)))
    rintro _ _ ⟨rfl,u⟩ _;refine aY (λsf=>?_) (λsf=>?_)
    .obtain⟨tk,hnt,HX,_,hqlt⟩:=afr sf;have OX:pF l (iE l (fc l B).1 (ia #[61])).1.at_=tk:=BH O HX;refine aE (aA j4 (have u:=u.drew;aB jk u.hb rfl (aE (aA fx (aB bO u.hb rfl (aN fK (M _ u.aF) bM HX λ_ Bm=>bU tk.n r9 Bm rfl rfl λ_ asE=>aD bO asE (aA rX (aW u.p1 bO (dR rfl) (rfl) λ_ u=>have u:=u.enc (cs':=hZ ({ (fc l B).2 with n:=tk.n}:cI)) rfl;aE (aA fx ?_)))))))));refine aB bO u.p1.hb rfl (aK bM (aE (aA fx (aW u.p1 bO (dR rfl) (rfl) λ_ u=>?_))))
     have u:=u.p2.p2.p2;have V:(jE l nb B)=(VI (iE l (fc l B).1 (ia #[61])).1,{ (fc l B).2 with n:=tk.n}):=(VN vH jx sf).trans (by rw[OX]);rw[V];exact u
    refine bF Sa u (H':=λ_=>bY p (ey lv (js l (iE l (fc l B).1 (ia #[61])).1 5))) (Φ:=λ_ _=>True) (λE G I=>?_) ?_
    .exact(C136 p lv l (iE l (fc l B).1 (ia #[61])).1 E _ G (λw' hc=>M w' (I w' hc).aF) U (kx (uZ J))).mono λ_ _ r=>r.mono λ_ _ h=>⟨trivial,h.2⟩
    rintro _ _ _ u;have u:=u.p2.p2.p2;have V:=VO vH jx sf;rw[V];exact u
   have u:=u.p2.p2.p2;have V:=aa1 (nb:=nb) jx;rw[V];exact u
  .intro wA;refine ft ?_;have u:=u.p2.p1.p2;have V:=aa2 (l:=l) (s:=B) vH;rw[V];exact u
  intro _ u _;refine aD l6 u.p1.At (bD ([(jE l nb B).2]) u iu rfl rfl (dR rfl) λasr _ u=>?_);have als:=u.dS;refine bL u.p3 iu als (by have:=fM List.length hx;simp at this |-;omega) dC (λasF _ u=>have u:=u.p1.drop;bF yT u.p1 (H':=λ_=>bY p (ey lv (iE l (jE l nb B).1 (ia #[44])).1)) (Φ:=λv _=>v=.bool (iE l (jE l nb B).1 (ia #[44])).2) (λE G I=>?_) ?_)
  .exact C131 p lv l (jE l nb B).1 (ia #[44]) E _ G (λw' hc=>M w' (I w' hc).aF) U (Gk J)
  rintro _ _ rfl u;have u:=u.p2.drop.p1;exact⟨_,bM,(iE l (jE l nb B).1 CP).1,(iE l (jE l nb B).1 CP).2,W++[(jE l nb B).2],a3,rfl,kx (Gk J),hn3,by rw[hx,nk];rfl,u⟩
 obtain⟨e9,rfl⟩:=Gl Yf ep;replace e9:=e9.symm;subst e9;rw[oo]at hx;subst hx;refine bF Xj u.p1 (H':=λ_=>bY p (ey lv (dU l B (ia #[59])))) (Φ:=λ_ _=>True) (λE G I=>?_) ?_
 .exact(C210 p lv l B (ia #[59]) E _ G (λw' hc=>M w' (I w' hc).aF) U J).mono λ_ _ r=>r.mono λ_ _ h=>⟨trivial,h.2⟩
 rintro _ _ _ u;have u:=u.p1.p1;rw[e2];exact(St.join u).mut
def C134(p:Nat)(lv:Value)(l:List bR)(s:fO)(nm:ByteArray)(a:Int)(s2:fO)(x:cM)(F:Nat->Prop)(w:World)(hF:(bY p (ey lv s)).p w F)(hT:∀w',gz F w w'->cZ (λ_=>True) w' lv l)(G:jh l)(O:lF l s)(hr:tQ l s nm a=some (s2,x)):CR 134 [(.pointer (some ⟨p,0,none⟩)),hM (⟨nm,bW,bW,a⟩:cE)] w (λv w'=>mP F (pK λsh:cE=>fact (v=hM sh) (sep (bY p (ey lv s2)) (eA λw=>mv w sh x))) w w'):=by
 have u:=St.begin hF;obtain⟨q,rs,Ef,B6,GK⟩:=Ro hr;have I:=Ob (fI O) Ef;obtain⟨hqi0,hqi1⟩:=id I;have D9:=G.n;have hn:l.length<=1000000:=bM
 have sB:=G.at_;obtain⟨TV,TW⟩:=id O;refine py Tryz.func134 (pl:=avR) ?_;refine cH (x:=(⟨nm,bW,bW,a⟩:cE)) u (λE _ u=>aR u tD λPO _ u=>have u:=u.enc (cs':=hZ (⟨(ia #[]),bW,bW,0⟩:cE)) rfl;aE (aA fx (aB bO u.p2.hb rfl (bF Xj u.p2 (H':=λ_=>bY p (ey lv (dU l s (ia #[123])))) (Φ:=λ_ _=>True) (λU Z dV=>?_) ?_))))
 .exact(C210 p lv l s (ia #[123]) U _ Z (λw' hc=>hT w' (dV w' hc).aF) G O).mono λ_ _ r=>r.mono λ_ _ h=>⟨trivial,h.2⟩
 rintro _ _ _ u;refine⟨λw'=>∃B:SV,St w F [bH (hM B) rs,bY E (hZ (⟨nm,B,bW,a⟩:cE)),bY PO (hZ (⟨(ia #[]),bW,bW,0⟩:cE)),bY p (ey lv q)] w',?_,?_⟩
 .refine bF yT u (H':=λ_=>bY p (ey lv (iE l (dU l s (ia #[123])) (ia #[114,101,103])).1)) (Φ:=λv _=>v=.bool (iE l (dU l s (ia #[123])) (ia #[114,101,103])).2) (λU Z dV=>?_) ?_
  .exact C131 p lv l (dU l s (ia #[123])) (ia #[114,101,103]) U _ Z (λw' hc=>hT w' (dV w' hc).aF) G (fI O)
  rintro _ _ rfl u;refine aY (λfu=>?_) (λfu=>?_)
  .obtain⟨ys,W,hrs⟩:=IC Ef fu;have hyl:ys.length<=1000000:=by obtain⟨_,_,_,h⟩:=yC W;exact h
   refine bF R9 u (H':=λv=>sep (bY p (ey lv q)) (bH v ys)) (Φ:=λ_ _=>True) (λU Z dV=>?_) ?_
   .exact(C132 p lv l (iE l (dU l s (ia #[123])) (ia #[114,101,103])).1 false q ys U _ Z (λw' hc=>hT w' (dV w' hc).aF) G (kx (fI O)) W).mono λ_ _ r=>r.mono λ_ _ h=>⟨trivial,h⟩
   rintro x21 _ _ u;have u:=(((((u.split.eV (α:=ByteArray)).p1).p3).p3).p4).p4;refine⟨λmm i w'=>∃(j:Nat) (B:SV),i=hH (j:Int)/\mm=ys.length-j/\j<=ys.length/\St w F [bH (hM B) ((ys.take j).map cI.name),bY E (hZ (⟨nm,B,bW,a⟩:cE)),bH x21 ys,bY PO (hZ (⟨(ia #[]),bW,bW,0⟩:cE)),bY p (ey lv q)] w',⟨_,0,bW,rfl,rfl,la _,u⟩,?_⟩;rintro mm _ _ ⟨j,B,rfl,rfl,hj,u⟩ _;refine aH iu u.p2.dS (aQ (aC (λjx=>?_) λjx=>?_))
   .refine aA fQ (have u:=u.drew;aB (v:=hM (B:SV)) je u.p1.hb rfl ?_);obtain⟨ah0,V⟩:=gx ys (i:=(j:Int).toNat) bM;refine dM u.p2 iu bM bM (λ_ xt=>mr kL xt λ_ q8=>nE ah0.name u.p2 gB q8 V rfl (bD ([ah0.name]) u iF rfl rfl (dR rfl) λaqj _ u=>?_));refine⟨aI je (u.p2.hb.cell rfl),?_⟩;have alv:=u.dS;refine bL u.p1 iF alv (by simp;omega) dC (λaqk _ u=>have u:=u.p1.drop;aA fQ ?_);obtain⟨Y,rfl⟩:=u.fV;exact aW u.p1 je (dR rfl) (rfl) (λ_ u=>have u:=u.enc (cs':=hZ (⟨nm,Y,bW,a⟩:cE)) rfl;aK bM (have u:=u.p4.p4.p4.p3.p4;⟨_,bM,j+1,Y,rfl,rfl,bM,by rw[<- Hd (k:=j) V];exact u⟩))
   have u:=u.p2.drop.p3.p3.p3.p3;rw[kE bM]at u;rw[hrs];exact⟨B,u⟩
  have u:=((((u.eV (α:=ByteArray)).p1).p2).p3).p3;obtain⟨e1,e3⟩:=Oc Ef fu;rw[xQ fu]at u;rw[e1,e3];exact⟨bW,u⟩
 rintro _ ⟨B,u⟩ _;refine⟨λw'=>∃(B J:SV) (body:List bP),x=⟨nm,rs,body,a⟩/\St w F [bH (hM B) rs,eA (λw=>DL w (hM J) body),bY E (hZ (⟨nm,B,J,a⟩:cE)),bY PO (hZ (⟨(ia #[]),bW,bW,0⟩:cE)),bY p (ey lv s2)] w',aE (aA ml (aB jG u.p3.hb rfl (aG (aC (λqD=>?_) λqD=>?_)))),?_⟩
 .obtain⟨R,hR,hR0,hR1,e2,hx⟩:=GK bM;have Ig:(dU l s Dj).e=0:=vy.1 λhh=>Rq hh Ef bM;have kf:=sT (afs Ig);refine aE (aA j4 (have u:=u.drew;aB jk u.p3.hb rfl (aE (aA fx (aB bO u.p3.hb rfl (dO anW (C212 l _ q.at_ s.at_ R _ (hT _ u.aF) G I kf hR) ?_))))));rintro _ _ ⟨M,rfl,cK⟩;have u:=u.made cK;refine aO rfl (aO rfl (aO rfl (aO rfl (aA lI (aW u.p2 jJ (dR rfl) (rfl) λ_ u=>have u:=u.enc (cs':=hZ (⟨nm,B,M,a⟩:cE)) rfl;aE (aA fx (aW u.p4 bO (dR rfl) (rfl) λ_ u=>aE (aA ml (aW u jG (dR rfl) (rfl) λ_ u=>aE ?_)))))))))
  refine aA wU (aW u bO (dR rfl) (rfl) λ_ u=>?_);have u:=u.p4.p2.p3.p4;rw[e2];exact⟨B,M,R.1,hx,u⟩
 .have u:=u.fH (Φ:=λw=>DL w (hM (bW:SV)) ([]:List bP)) λw=>DL.nil w;have u:=u.p4.p4.p4.p3.p4;obtain⟨e2,hx⟩:=B6 qD;rw[e2];exact⟨B,bW,[],hx,u⟩
 rintro _ ⟨B,J,body,rfl,u⟩ _;exact aD m6 u.p2.At (aJ (x:=(⟨nm,B,J,a⟩:cE)) u.p3 m6 rfl rfl λ_ u=>aD m6 u.At (have u:=u.p1.freeze.p2.p1.gd.dF (Ψ:=(λw=>mv w (⟨nm,B,J,a⟩:cE) (⟨nm,rs,body,a⟩:cM))) (λ_ h=>⟨_,_,rfl,DL.jV h.1,id h.2⟩);have u:=u.p1.drop.p1.drop.p1;(xO u).mut))
def C135(p:Nat)(lv:Value)(l:List bR)(s:fO)(a:Int)(J:fO)(x:gV)(F:Nat->Prop)(w:World)(hF:(bY p (ey lv s)).p w F)(M:∀w',gz F w w'->cZ (λ_=>True) w' lv l)(E:jh l)(h0:lF l s)(Y:xP l s a=some (J,x)):CR 135 [(.pointer (some ⟨p,0,none⟩)),hH a] w (λv w'=>mP F (pK λO:jr=>fact (v=hM O) (sep (bY p (ey lv J)) (eA λw=>mv w O x))) w w'):=by
 have u:=St.begin hF;obtain⟨R,I,U,GK⟩:=VP Y;have D9:=E.n;have hn:l.length<=1000000:=bM
 have sB:=E.at_;obtain⟨TV,TW⟩:=id h0;refine py Tryz.func135 (pl:=avS) ?_;refine aR u Ps (λPO _ u=>have u:=u.enc (cs':=hZ (⟨bW,0⟩:jr)) rfl;aE (aA j4 (have u:=u.drew;aB jk u.p1.hb rfl (aE (aA fx (aB bO u.p1.hb rfl (dO agA (C213 l _ s.at_ R _ (M _ u.aF) E bM I) ?_)))))));rintro _ _ ⟨B,rfl,cK⟩;have u:=u.made cK;refine aO rfl (aO rfl (aO rfl (aO rfl (bV (aC (λG=>?_) λG=>?_)))))
 .obtain⟨rfl,rfl⟩:=U G;exact aE (aA ml (aW u.p2 jG (dR rfl) (rfl) λ_ u=>aE (aA wU (aW u bO (dR rfl) (rfl) λ_ u=>pop (v:=hM (⟨bW,0⟩:jr)) (by kernel_rfl) (aJ (x:=(⟨bW,0⟩:jr)) u.p2 Jn rfl rfl λ_ u=>aD Jn u.At (have u:=u.fH (Φ:=(λw=>mv w (⟨bW,0⟩:jr) (⟨[],0⟩:gV))) (λ_=>⟨_,rfl,DL.nil _⟩);have u:=u.p1.drop.p2.drop.p1;(xO u).mut))))))
 obtain⟨W,rfl,rfl⟩:=GK G;refine aE (aA fx (aW u.p2 bO (dR rfl) (rfl) λ_ u=>have u:=u.enc (cs':=ey lv ({s with at_:=R.2.1}:fO)) rfl;bF Xj u (H':=λ_=>bY p (ey lv (dU l ({s with at_:=R.2.1}:fO) (ia #[59])))) (Φ:=λ_ _=>True) (λF2 Z V=>?_) ?_))
 .exact(C210 p lv l ({s with at_:=R.2.1}:fO) (ia #[59]) F2 _ Z (λw' hc=>M w' (V w' hc).aF) E (show lF l ({s with at_:=R.2.1}:fO)from W)).mono λ_ _ r=>r.mono λ_ _ h=>⟨trivial,h.2⟩
 rintro _ _ _ u;exact pop (HD _ _ _ _) (aJ (x:=(⟨B,a⟩:jr)) u.p2 Jn rfl rfl λ_ u=>aD Jn u.At (have u:=u.p2.dF (Ψ:=(λw=>mv w (⟨B,a⟩:jr) (⟨R.1,a⟩:gV))) (λ_ h=>⟨_,rfl,id h⟩);have u:=u.p1.drop.p1;(xO u).mut))
def C65(s:ByteArray)(R:cA×Int×Int)(w:World)(UM:s.size<=1000000)(hr:vG s=some R)(hTk:∀l e a,vZ s=some (l,e,a)->jh l):CR 65 [.string s] w (λv w'=>∃pv:bN,v=.tuple #[hM pv,hH R.2.1,hH R.2.2]/\kP (eA λw=>mv w pv R.1) w w'):=by
 obtain⟨l,e,a,Xs⟩:=Rr hr;have W:=hTk l e a Xs;have D9:=W.n;have hn:l.length<=1000000:=bM
 have sB:=W.at_;have u:=St.start w;refine py Tryz.func65 (pl:=P65) ?_;refine aR u vi (λwj _ u=>have u:=u.enc (cs':=hZ (⟨bW,bW,bW,bW,bW,bW⟩:bN)) rfl;dO anK (C130 s (l,e,a) _ UM Xs) ?_);rintro _ _ ⟨lv,rfl,cK⟩;have u:=u.made cK;refine aO rfl (aO rfl (aO rfl (bV (aC (λlP=>?_) λlP=>?_))))
 .refine pop (v:=hM (⟨bW,bW,bW,bW,bW,bW⟩:bN)) (by kernel_rfl) (aJ (x:=(⟨bW,bW,bW,bW,bW,bW⟩:bN)) u.p1 eL rfl rfl λ_ u=>aD eL u.At ?_);have u:=u.fH (Φ:=(λw=>mv w (⟨bW,bW,bW,bW,bW,bW⟩:bN) (⟨[],[],[],[],[],[]⟩:cA))) (λ_=>⟨_,_,_,_,_,_,rfl,DL.nil _,DL.nil _,DL.nil _,DL.nil _,DL.nil _,DL.nil _⟩);have u:=u.p1.drop.p1.drop;rw[VR hr Xs lP];exact⟨_,rfl,u.fresh⟩
 obtain⟨t1,t2,t3,t4,t5,t6,y1,y2,y3,y4,y5,y6,Z⟩:=aa3 hr Xs lP;obtain⟨lsv,hlv⟩:=u.fV;rw[hlv];refine pop (XO _ _ _) (ny u λSK _ u=>pop (v:=hM (⟨bW,bW,bW,bW,bW,bW⟩:bN)) (by kernel_rfl) (aR u vi λRs _ u=>have u:=u.enc (cs':=hZ (⟨bW,bW,bW,bW,bW,bW⟩:bN)) rfl;aJ (x:=(⟨bW,bW,bW,bW,bW,bW⟩:bN)) u eL rfl rfl λ_ u=>?_));obtain⟨p,rfl⟩:∃p,p=SK:=⟨_,rfl⟩;have u:=u.p1.enc (cs':=ey (hM lsv) (um 0)) rfl;rw[<- hlv]at u |-;have azE:lF l (um 0):=⟨MV _,by show(0:Int)<=_;omega⟩;have u:=(((((u.JA (α:=(List cI))).p4).p4).p3).p4).p4
 refine⟨λmm w'=>∃(s0:fO) (J:SV) (xs0 a0:List (List cI)),lF l s0/\nf l aaY (nt l true) mm s0=some (t1,a0)/\y1=xs0++a0/\St w aZ [fz (hM J) xs0,bY Rs (hZ (⟨J,bW,bW,bW,bW,bW⟩:bN)),bY p (ey lv s0),bH lv l,bY wj (hZ (⟨bW,bW,bW,bW,bW,bW⟩:bN))] w',⟨10000,um 0,bW,[],y1,azE,Z.h1,rfl,u⟩,?_⟩;rintro mm _ ⟨s0,J,xs0,a0,hi0,Ig,hy0,u⟩ _;obtain⟨m0,rfl⟩:=sV Ig;refine bF yT u.p2 (H':=λ_=>bY p (ey lv (iE l s0 (ia #[108,105,110,101])).1)) (Φ:=λv _=>v=.bool (iE l s0 (ia #[108,105,110,101])).2) (λB E G=>?_) ?_
 .exact C131 p lv l s0 (ia #[108,105,110,101]) B _ E (λw' hc=>(G w' hc).p2.dS) W hi0
 rintro _ _ rfl u;refine aY (λlq=>?_) (λlq=>?_)
 .obtain⟨q0,z0,b0,Bv,Ys,rfl⟩:=xR Ig lq;refine aA gC (have u:=u.drew;aB (v:=hM (J:SV)) oO u.p2.hb rfl (bF R9 u (H':=λv=>sep (bY p (ey lv q0)) (bH v z0)) (Φ:=λ_ _=>True) (λB E G=>?_) ?_))
  .exact(C132 p lv l (iE l s0 (ia #[108,105,110,101])).1 true q0 z0 B _ E (λw' hc=>(G w' hc).p2.dS) W (kx hi0) Bv).mono λ_ _ r=>r.mono λ_ _ h=>⟨trivial,h⟩
  rintro x31 _ _ u;have u:=u.split;refine⟨aI oO (u.p3.hb.cell rfl),?_⟩;obtain⟨Kx,rfl⟩:=u.p1.fV;have u:=u.p1.freeze.dF (Ψ:=λw=>mv w Kx z0) (λ_ h=>DL.jV h);refine gk (s:=Kx) (x:=z0) u pJ dC (λarK _ u=>?_);refine⟨aI oO (u.p3.hb.cell rfl),?_⟩;have u:=u.p2;refine fS u pJ (by have h1:=fM List.length hy0;have h2:=Z.b1;simp at h1 |-;omega) dC (λs_x33 _ u=>aA gC ?_);obtain⟨aa9,rfl⟩:=u.oZ;exact aW u.p2 oO (dR rfl) (rfl) (λ_ u=>have u:=((((u.enc (cs':=hZ (⟨aa9,bW,bW,bW,bW,bW⟩:bN)) rfl).p4).p4).p4).p3;have u:=u.p4;⟨_,bM,q0,aa9,xs0++[z0],b0,yD (kx hi0) Bv,Ys,by rw[hy0,nk];rfl,u⟩)
 obtain⟨O,rfl⟩:=u0 Ig lq;replace O:=O.symm;subst O;rw[oo]at hy0;subst hy0;rw[xQ lq]at u;have u:=((((((u.eV (α:=cI)).p5).p5).p3).p5).p5).p5;refine⟨λmm w'=>∃(s1:fO) (M:SV) (xs1 a1:List (List cI)),lF l s1/\nf l alo (nt l true) mm s1=some (t2,a1)/\y2=xs1++a1/\St w aZ [bH (hM M) xs1.flatten,fz (hM J) y1,bY Rs (hZ (⟨J,M,bW,bW,bW,bW⟩:bN)),bY p (ey lv s1),bH lv l,bY wj (hZ (⟨bW,bW,bW,bW,bW,bW⟩:bN))] w',⟨10000,s0,bW,[],y2,hi0,Z.h2,rfl,u⟩,?_⟩;rintro mm _ ⟨s1,M,xs1,a1,hi1,hm1,hy1,u⟩ _;obtain⟨m1,rfl⟩:=sV hm1
 refine bF yT u.p3 (H':=λ_=>bY p (ey lv (iE l s1 (ia #[118,111,108])).1)) (Φ:=λv _=>v=.bool (iE l s1 (ia #[118,111,108])).2) (λB E G=>?_) ?_
 .exact C131 p lv l s1 (ia #[118,111,108]) B _ E (λw' hc=>(G w' hc).p3.dS) W hi1
 rintro _ _ rfl u;refine aY (λC8=>?_) (λC8=>?_)
 .obtain⟨q1,z1,b1,W9,Yf,rfl⟩:=xR hm1 C8;refine aA qe (have u:=u.drew;aB (v:=hM (M:SV)) jF u.p3.hb rfl (bF R9 u (H':=λv=>sep (bY p (ey lv q1)) (bH v z1)) (Φ:=λ_ _=>True) (λB E G=>?_) ?_))
  .exact(C132 p lv l (iE l s1 (ia #[118,111,108])).1 true q1 z1 B _ E (λw' hc=>(G w' hc).p3.dS) W (kx hi1) W9).mono λ_ _ r=>r.mono λ_ _ h=>⟨trivial,h⟩
  rintro x40 _ _ u;have u:=u.split;refine⟨aI jF (u.p4.hb.cell rfl),?_⟩;have alw:=u.p1.dS;refine bL u.p2 iu alw (by have:=Ua hy1;have:=Z.b2;omega) dC (λasG _ u=>have u:=u.p2.drop;aA qe ?_);obtain⟨JU,rfl⟩:=u.fV;refine aW u.p3 jF (dR rfl) (rfl) (λ_ u=>?_);have u:=((((u.enc (cs':=hZ (⟨J,JU,bW,bW,bW,bW⟩:bN)) rfl).p5).p5).p4).p3;have u:=u.p5.p5;rw[<- BI]at u;exact⟨_,bM,q1,JU,xs1++[z1],b1,yD (kx hi1) W9,Yf,by rw[hy1,nk];rfl,u⟩
 obtain⟨O,rfl⟩:=u0 hm1 C8;replace O:=O.symm;subst O;rw[oo]at hy1;subst hy1;rw[xQ C8]at u;have u:=(((((((u.eV (α:=cI)).p6).p6).p3).p6).p5).p6).p6;refine⟨λmm w'=>∃(s2:fO) (V:SV) (xs2 a2:List (List cI)),lF l s2/\nf l aaZ (nt l false) mm s2=some (t3,a2)/\y3=xs2++a2/\St w aZ [bH (hM V) xs2.flatten,fz (hM J) y1,bH (hM M) y2.flatten,bY Rs (hZ (⟨J,M,V,bW,bW,bW⟩:bN)),bY p (ey lv s2),bH lv l,bY wj (hZ (⟨bW,bW,bW,bW,bW,bW⟩:bN))] w',⟨10000,s1,bW,[],y3,hi1,Z.h3,rfl,u⟩,?_⟩;rintro mm _ ⟨s2,V,xs2,a2,WE,hm2,hy2,u⟩ _
 obtain⟨m2,rfl⟩:=sV hm2;refine bF yT u.p4 (H':=λ_=>bY p (ey lv (iE l s2 (ia #[108,111,99,107])).1)) (Φ:=λv _=>v=.bool (iE l s2 (ia #[108,111,99,107])).2) (λB E G=>?_) ?_
 .exact C131 p lv l s2 (ia #[108,111,99,107]) B _ E (λw' hc=>(G w' hc).p4.dS) W WE
 rintro _ _ rfl u;refine aY (λBd=>?_) (λBd=>?_)
 .obtain⟨q2,z2,b2,WN,hn2,rfl⟩:=xR hm2 Bd;refine aA nN (have u:=u.drew;aB (v:=hM (V:SV)) jF u.p4.hb rfl (bF R9 u (H':=λv=>sep (bY p (ey lv q2)) (bH v z2)) (Φ:=λ_ _=>True) (λB E G=>?_) ?_))
  .exact(C132 p lv l (iE l s2 (ia #[108,111,99,107])).1 false q2 z2 B _ E (λw' hc=>(G w' hc).p4.dS) W (kx WE) WN).mono λ_ _ r=>r.mono λ_ _ h=>⟨trivial,h⟩
  rintro x48 _ _ u;have u:=u.split;refine⟨aI jF (u.p5.hb.cell rfl),?_⟩;have Rt:=u.p1.dS;refine bL u.p2 iu Rt (by have:=Ua hy2;have:=Z.b3;omega) dC (λs_x49 _ u=>have u:=u.p2.drop;aA nN ?_);obtain⟨aba,rfl⟩:=u.fV;refine aW u.p4 jF (dR rfl) (rfl) (λ_ u=>?_);have u:=((((u.enc (cs':=hZ (⟨J,M,aba,bW,bW,bW⟩:bN)) rfl).p6).p6).p4).p3;have u:=u.p6.p6.p6;rw[<- BI]at u;exact⟨_,bM,q2,aba,xs2++[z2],b2,yD (kx WE) WN,hn2,by rw[hy2,nk];rfl,u⟩
 obtain⟨O,rfl⟩:=u0 hm2 Bd;replace O:=O.symm;subst O;rw[oo]at hy2;subst hy2;rw[xQ Bd]at u;have u:=((((((((u.JA (α:=cM)).p7).p7).p3).p7).p5).p7).p7).p7;refine⟨λmm w'=>∃(I:fO) (v3:SV) (xs3 a3:List cM),lF l I/\nf l Kv (alp l) mm I=some (t4,a3)/\y4=xs3++a3/\St w aZ [fz (hM v3) xs3,fz (hM J) y1,bH (hM M) y2.flatten,bH (hM V) y3.flatten,bY Rs (hZ (⟨J,M,V,v3,bW,bW⟩:bN)),bY p (ey lv I),bH lv l,bY wj (hZ (⟨bW,bW,bW,bW,bW,bW⟩:bN))] w',⟨10000,s2,bW,[],y4,WE,Z.h4,rfl,u⟩,?_⟩;rintro mm _ ⟨I,v3,xs3,a3,Y,hm3,hy3,u⟩ _
 obtain⟨m3,rfl⟩:=sV hm3;refine bF yT u.p5 (H':=λ_=>bY p (ey lv (iE l I (ia #[116,104,114,101,97,100])).1)) (Φ:=λv _=>v=.bool (iE l I (ia #[116,104,114,101,97,100])).2) (λB E G=>?_) ?_
 .exact C131 p lv l I (ia #[116,104,114,101,97,100]) B _ E (λw' hc=>(G w' hc).p5.dS) W Y
 rintro _ _ rfl u;refine aY (λuQ=>?_) (λuQ=>?_)
 .obtain⟨q3,z3,b3,hd3,hn3,rfl⟩:=xR hm3 uQ;refine bF agq u (H':=λ_=>bY p (ey lv (fc l (iE l I (ia #[116,104,114,101,97,100])).1).1)) (Φ:=λv _=>v=hM (fc l (iE l I (ia #[116,104,114,101,97,100])).1).2) (λB E G=>?_) ?_
  .exact C133 p lv l (iE l I (ia #[116,104,114,101,97,100])).1 B _ E (λw' hc=>(G w' hc).p5.dS) W (kx Y)
  rintro _ _ rfl u;refine aR u oU (λb_c10 _ u=>aJ (x:=(fc l (iE l I (ia #[116,104,114,101,97,100])).1).2) u l6 rfl rfl λ_ u=>aA kB (have u:=u.drew;aB (v:=hM (v3:SV)) iz u.p6.hb rfl (aA kL (aB (v:=.string (((fc l (iE l I (ia #[116,104,114,101,97,100])).1).2).name)) gB u.hb rfl (aA uE (aB (v:=hH (((fc l (iE l I (ia #[116,104,114,101,97,100])).1).2).at_)) bO u.hb rfl (pop (Pu _ _) (bF agr u.p1 (H':=λv=>pK λsh:cE=>fact (v=hM sh) (sep (bY p (ey lv q3)) (eA λw=>mv w sh z3))) (Φ:=λ_ _=>True) (λB E G=>?_) ?_))))))))
  .exact(C134 p lv l (fc l (iE l I (ia #[116,104,114,101,97,100])).1).1 ((fc l (iE l I (ia #[116,104,114,101,97,100])).1).2).name ((fc l (iE l I (ia #[116,104,114,101,97,100])).1).2).at_ q3 z3 B _ E (λw' hc=>(G w' hc).p6.dS) W (uZ (kx Y)) hd3).mono λ_ _ r=>r.mono λ_ _ h=>⟨trivial,h⟩
  rintro v_x63 _ _ xB;obtain⟨aly,zq⟩:=xB.eg
  clear xB
  obtain⟨alz,Ek⟩:=zq.mq
  clear zq
  subst alz;have u:=Ek.split
  clear Ek
  refine⟨aI iz (u.p7.hb.cell rfl),?_⟩;have u:=u.p1;refine gk (s:=aly) (x:=z3) u fw dC (λasI _ u=>?_);refine⟨aI iz (u.p7.hb.cell rfl),?_⟩;have u:=u.p3;refine fS u fw (by have h1:=fM List.length hy3;have h2:=Z.b4;simp at h1 |-;omega) dC (λasJ _ u=>aA kB ?_);obtain⟨abb,rfl⟩:=u.oZ;exact aW u.p6 iz (dR rfl) (rfl) (λ_ u=>have u:=((((u.enc (cs':=hZ (⟨J,M,V,abb,bW,bW⟩:bN)) rfl).p3).drop).p7).p7;have u:=u.p4.p3.p7.p7.p7.p7;⟨_,bM,q3,abb,xs3++[z3],b3,Gm (uZ (kx Y)) hd3,hn3,by rw[hy3,nk];rfl,u⟩)
 obtain⟨O,rfl⟩:=u0 hm3 uQ;replace O:=O.symm;subst O;rw[oo]at hy3;subst hy3;rw[xQ uQ]at u;refine⟨λw'=>∃v4:SV,St w aZ [fz (hM v4) y5,fz (hM J) y1,bH (hM M) y2.flatten,bH (hM V) y3.flatten,fz (hM v3) y4,bY Rs (hZ (⟨J,M,V,v3,v4,bW⟩:bN)),bY p (ey lv t5),bH lv l,bY wj (hZ (⟨bW,bW,bW,bW,bW,bW⟩:bN))] w',?_,?_⟩
 .refine bF yT u (H':=λ_=>bY p (ey lv (iE l I (ia #[114,101,99,111,118,101,114])).1)) (Φ:=λv _=>v=.bool (iE l I (ia #[114,101,99,111,118,101,114])).2) (λB E G=>?_) ?_
  .exact C131 p lv l I (ia #[114,101,99,111,118,101,114]) B _ E (λw' hc=>(G w' hc).p5.dS) W Y
  rintro _ _ rfl u;refine aY (λOg=>?_) (λOg=>?_)
  .obtain⟨z4,hd4,hy5⟩:=Of Z.h5 Og;obtain⟨azH,_,hlo68,hhi68⟩:=aa0 Og;have hat68:(iE l I (ia #[114,101,99,111,118,101,114])).1.at_=I.at_+1:=by rw[azH]
   refine aA oP (have u:=u.drew;aB (v:=hM (bW:SV)) iz u.p5.hb rfl (aE (aA fx (aB bO u.hb rfl (fr bM ?_)))));obtain⟨abc,abd⟩:=gx l (i:=(((iE l I (ia #[114,101,99,111,118,101,114])).1).at_-1).toNat) bM;refine dM u.p6 fK bM bM (λ_ N3=>mr lL N3 λ_ asK=>nE abc.at_ u.p6 bO asK abd rfl (pop (XL _) ?_));have hbk:Ac l (iE l I (ia #[114,101,99,111,118,101,114])).1=abc.at_:=fM bR.at_ (BH bM abd);rw[hbk]at hd4;refine bF agr u (H':=λv=>pK λsh:cE=>fact (v=hM sh) (sep (bY p (ey lv t5)) (eA λw=>mv w sh z4))) (Φ:=λ_ _=>True) (λB E G=>?_) ?_
   .exact(C134 p lv l (iE l I (ia #[114,101,99,111,118,101,114])).1 (ia #[]) abc.at_ t5 z4 B _ E (λw' hc=>(G w' hc).p5.dS) W (kx Y) hd4).mono λ_ _ r=>r.mono λ_ _ h=>⟨trivial,h⟩
   rintro v_x82 _ _ xB;obtain⟨alA,zq⟩:=xB.eg
   clear xB
   obtain⟨alB,Ek⟩:=zq.mq
   clear zq
   subst alB;have u:=Ek.split
   clear Ek
   refine⟨aI iz (u.p6.hb.cell rfl),?_⟩;have u:=u.p1;refine gk (s:=alA) (x:=z4) u fw dC (λahA _ u=>?_);refine⟨aI iz (u.p6.hb.cell rfl),?_⟩;have u:=((u.JA (α:=cM)).p1).p1;refine fS u fw ee dC (λaqW _ u=>aA oP ?_);obtain⟨abe,rfl⟩:=u.oZ;refine aW u.p6 iz (dR rfl) (rfl) (λ_ u=>?_);have u:=(((((u.enc (cs':=hZ (⟨J,M,V,v3,abe,bW⟩:bN)) rfl).p8).p8).p4).p3).p5;have u:=u.p8.p8.p8.p8;rw[hy5];exact⟨abe,u⟩
  rw[xQ Og]at u;have u:=(((((((((u.JA (α:=cM)).p8).p8).p3).p8).p5).p8).p8).p8).p8;obtain⟨e5,e6⟩:=T9 Z.h5 Og;rw[e5,e6];exact⟨bW,u⟩
 rintro _ ⟨v4,u⟩ _;have u:=((((((((((u.JA (α:=gV)).p9).p9).p9).p9).p5).p9).p9).p9).p9).p9;refine⟨λmm w'=>∃(U:fO) (v5:SV) (xs5 a5:List gV),lF l U/\nf l Kw (λs=>xP l s (Ac l s)) mm U=some (t6,a5)/\y6=xs5++a5/\St w aZ [fz (hM v5) xs5,fz (hM J) y1,bH (hM M) y2.flatten,bH (hM V) y3.flatten,fz (hM v3) y4,fz (hM v4) y5,bY Rs (hZ (⟨J,M,V,v3,v4,v5⟩:bN)),bY p (ey lv U),bH lv l,bY wj (hZ (⟨bW,bW,bW,bW,bW,bW⟩:bN))] w',⟨10000,t5,bW,[],y6,(afu Y Z.h5),Z.h6,rfl,u⟩,?_⟩;rintro mm _ ⟨U,v5,xs5,a5,hi5,hm5,hy5,u⟩ _
 obtain⟨m5,rfl⟩:=sV hm5;refine bF yT u.p7 (H':=λ_=>bY p (ey lv (iE l U (ia #[97,108,119,97,121,115])).1)) (Φ:=λv _=>v=.bool (iE l U (ia #[97,108,119,97,121,115])).2) (λB E G=>?_) ?_
 .exact C131 p lv l U (ia #[97,108,119,97,121,115]) B _ E (λw' hc=>(G w' hc).p7.dS) W hi5
 rintro _ _ rfl u;refine aY (λOh=>?_) (λOh=>?_)
 .obtain⟨q5,z5,b5,hd5,D9,rfl⟩:=xR hm5 Oh;obtain⟨azK,_,hlo87,hhi87⟩:=aa0 Oh;have hat87:(iE l U (ia #[97,108,119,97,121,115])).1.at_=U.at_+1:=by rw[azK]
  refine aA j1 (have u:=u.drew;aB (v:=hM (v5:SV)) td u.p7.hb rfl (aE (aA fx (aB bO u.hb rfl (fr bM ?_)))));obtain⟨abf,abg⟩:=gx l (i:=(((iE l U (ia #[97,108,119,97,121,115])).1).at_-1).toNat) bM;refine dM u.p8 fK bM bM (λ_ asM=>mr lL asM λ_ asN=>nE abf.at_ u.p8 bO asN abg rfl ?_);have hbk:Ac l (iE l U (ia #[97,108,119,97,121,115])).1=abf.at_:=fM bR.at_ (BH bM abg);rw[hbk]at hd5;refine bF anL u (H':=λv=>pK λsh:jr=>fact (v=hM sh) (sep (bY p (ey lv q5)) (eA λw=>mv w sh z5))) (Φ:=λ_ _=>True) (λB E G=>?_) ?_
  .exact(C135 p lv l (iE l U (ia #[97,108,119,97,121,115])).1 abf.at_ q5 z5 B _ E (λw' hc=>(G w' hc).p7.dS) W (kx hi5) hd5).mono λ_ _ r=>r.mono λ_ _ h=>⟨trivial,h⟩
  rintro azL _ _ xB;obtain⟨afv,zq⟩:=xB.eg
  clear xB
  obtain⟨afw,Ek⟩:=zq.mq
  clear zq
  subst afw;have u:=Ek.split
  clear Ek
  refine⟨aI td (u.p8.hb.cell rfl),?_⟩;have u:=u.p1;refine gk (s:=afv) (x:=z5) u uB dC (λakI _ u=>?_);refine⟨aI td (u.p8.hb.cell rfl),?_⟩;have u:=u.p2;refine fS u uB (by have h1:=fM List.length hy5;have h2:=Z.b6;simp at h1 |-;omega) dC (λakJ _ u=>aA j1 ?_);obtain⟨Ub,rfl⟩:=u.oZ;exact aW u.p7 td (dR rfl) (rfl) (λ_ u=>have u:=(((((u.enc (cs':=hZ (⟨J,M,V,v3,v4,Ub⟩:bN)) rfl).p9).p9).p4).p3).p9;have u:=u.p9.p9.p9.p9.p9;⟨_,bM,q5,Ub,xs5++[z5],b5,VM (kx hi5) hd5,D9,by rw[hy5,nk];rfl,u⟩)
 obtain⟨O,rfl⟩:=u0 hm5 Oh;replace O:=O.symm;subst O;rw[oo]at hy5;subst hy5;rw[xQ Oh]at u;obtain⟨hi50,hi51⟩:=id hi5;refine⟨λw'=>St w aZ [fz (hM v5) y6,fz (hM J) y1,bH (hM M) y2.flatten,bH (hM V) y3.flatten,fz (hM v3) y4,fz (hM v4) y5,bY Rs (hZ (⟨J,M,V,v3,v4,v5⟩:bN)),bY p (ey lv (Hc l U)),bH lv l,bY wj (hZ (⟨bW,bW,bW,bW,bW,bW⟩:bN))] w',aE (aA fx (aB bO u.hb rfl (aH fK u.p8.dS (aQ (aC (λRu=>?_) λRu=>?_))))),?_⟩
 .refine bF Sa u (H':=λ_=>bY p (ey lv (js l U 5))) (Φ:=λ_ _=>True) (λB E G=>?_) ?_
  .exact(C136 p lv l U B _ E (λw' hc=>(G w' hc).p7.dS) W hi5).mono λ_ _ r=>r.mono λ_ _ h=>⟨trivial,h.2⟩
  rintro _ _ _ u;have u:=u.p9.p9.p2.p9.p9.p9.p9.p9.p9.p9;have he6:Hc l U=js l U 5:=ej Ru;rw[he6];exact u
 .have u:=u.p9.p9.p2.p9.p9.p9.p9.p9.p9.p9;have he6:Hc l U=U:=ei Ru;rw[he6];exact u
 intro _ u _;refine aE (aA ml (aB jG u.p7.hb rfl (bV (aC (λRv=>?_) λRv=>?_))))
 .refine pop (v:=hM (⟨bW,bW,bW,bW,bW,bW⟩:bN)) (by kernel_rfl) (aE (aA ml (have u:=u.drew;aB jG u.p7.hb rfl (aE (aA wU (aB bO u.p7.hb rfl (aJ (x:=(⟨bW,bW,bW,bW,bW,bW⟩:bN)) u.p9 eL rfl rfl λ_ u=>?_)))))));refine⟨aI jG (u.p8.hb.cell rfl),?_⟩;refine⟨aI bO (u.p8.hb.cell rfl),?_⟩;refine aD eL u.At ?_;have u:=u.fH (Φ:=(λw=>mv w (⟨bW,bW,bW,bW,bW,bW⟩:bN) (⟨[],[],[],[],[],[]⟩:cA))) (λ_=>⟨_,_,_,_,_,_,rfl,DL.nil _,DL.nil _,DL.nil _,DL.nil _,DL.nil _,DL.nil _⟩);have u:=u.p1.drop.p1.drop.p1.drop.p1.drop.p1.drop.p1.drop.p1.drop.p1.drop.p1.drop
  have u:=u.p1.drop;rw[Z.bad Rv];exact⟨_,rfl,u.fresh⟩
 refine aD eL u.p6.At (aJ (x:=(⟨J,M,V,v3,v4,v5⟩:bN)) u.p9 eL rfl rfl λ_ u=>aD eL u.At ?_);have u:=u.p2.nP.p3.freeze.p1.gd.p3.freeze.p1.gd.p3.nP.p1.gd.p3.nP.p1.gd;have u:=u.p2.nP.p1.gd.dF (Ψ:=(λw=>mv w (⟨J,M,V,v3,v4,v5⟩:bN) (⟨y1,y2.flatten,y3.flatten,y4,y5,y6⟩:cA))) (λ_ h=>⟨_,_,_,_,_,_,rfl,h.1.1.1.1.1,DL.jV h.1.1.1.1.2,DL.jV h.1.1.1.2,h.1.1.2,h.1.2,h.2⟩);have u:=u.p1.drop.p1.drop.p1.drop.p1.drop;rw[Z.azz Rv];exact⟨_,rfl,u.fresh⟩
theorem Oi{l:List Int}{k:Nat}(u:0<k)(h:k<=l.length):fT (l.take k)=l.getD (k-1) 0+1:=by
 grind[fT]
def El{f:Int->List kh}{a k:Int}{xs:List kh}{x:kh}(h:x∈pP f a xs k):x∈xs\/x∈f k:=by
 unfold pP at h;grind
def ID{m:Mem}{c n:Int}(h:ve m):ve (fh m c n):=by
 unfold fh
 split
 .rename_i rU
  unfold G7 at rU;rw[decide_eq_true_eq]at rU
  refine⟨h.KV,h.fl,by show(m.l.set _ _).length=_;rw[G6];exact h.ll,h.kl,h.ofr,h.lb,λk x u=>?_⟩
  dsimp only at u
  split at u
  .rename_i hc
   rcases El u with h1|h1
   .rw[oF]at h1
    rcases h1 with h1|h1
    .exact h.pc _ x h1
    grind
   exact h.pc _ x h1
  exact h.pc _ x u
 exact h
def afx{m:Mem}{c:Int}(h:ve m):ve (oe m c):=by
 unfold oe
 split
 .refine⟨h.KV,h.fl,h.ll,by show(nK _ _).length=_;rw[xD];exact h.kl,h.ofr,h.lb,λk x u=>?_⟩
  rcases El u with h1|h1
  .cases h1
  exact h.pc _ x h1
 exact h
def VS{m:Mem}{cut u:List Int}(h:fo m cut=some u):u.length=m.kept.length:=by
 unfold fo at h;split at h
 .cases h;exact mF _ _ _
 cases h
def VT{m:Mem}{cut u:List Int}(h:ve m)(hi:fo m cut=some u):ve (mG m u):=by
 have h1:=VS hi
 have h2:=h.kl;have h3:=h.KV
 refine⟨h.KV,h.fl,?_,?_,h.ofr,h.lb,λk x B=>by cases B⟩
 .show(u++m.dZ.drop u.length).length=m.dZ.length
  rw[kU,List.length_drop];omega
 show u.length=m.of.length;omega
section
def IE{u:Mem}{x:bI}(h:ve u):ve (jP u x)/\(jP u x).of=u.of/\(jP u x).dZ=u.dZ:=by
 unfold jP
 split
 .exact⟨ID h,Ii _ _ _,uf _ _ _⟩
 split
 .grind
 exact⟨afx h,ae2 _ _,Ny _ _⟩
end
def MB.mono{B:Mem}{a b:Nat}(h:MB B a)(u:a<=b):MB B b:=λk=>Nat.le_trans (h k) u
def MB.write{u:Mem}{c x:Int}{n:Nat}(h:MB u n):MB (fh u c x) (n+1):=by
 intro k
 unfold fh
 split
 .dsimp only
  split
  .unfold pP
   split
   .rw[kU,l0];have:=h (u.of.getD c.toNat 0);omega
   have:=h k;omega
  have:=h k;omega
 have:=h k;omega
theorem MB.out{u:Mem}{c:Int}{n:Nat}(h:MB u n):MB (oe u c) n:=by
 intro k
 unfold oe
 split
 .dsimp only
  unfold pP
  split
  .simp
  exact h k
 exact h k
theorem MB.jP{u:Mem}{x:bI}{n:Nat}(h:MB u n):MB (jP u x) (n+1):=by
 unfold Go.Proofs.YtpdlpabnlkofmaaGreatDoor.jP
 split
 .exact h.write
 split
 .exact h.mono (Mc n)
 exact h.out.mono (Mc n)
theorem alC{α:Type}{g:α->Bool}{l:List α}(h:0<=si g l):si g l<l.length:=by
 unfold si at h |-
 cases hf:l.findIdx? g with
 | none=>grind
 | some k=>
  have:=(List.findIdx?_eq_some_iff_getElem.1 hf).1
  grind
def abh{ns:List ByteArray}{s:ByteArray}(h:0<=cU ns s):cU ns s<ns.length:=alC h
theorem Ex.asO(ns:List ByteArray)(t:Ex):t.wf->∀n h:Int,0<=n->∃J,(t.steps ns).foldl WA (some (n,h))=some (n+1,J):=by
 induction t with
 | leaf x=>
  intro B n h G
  have u:kids x.op=0:=B
  have E:eC x.op=0:=by
   unfold kids at u
   unfold eC
   omega
  simp_all[WA,steps]
 | un x a O=>
  intro B n h G
  have u:kids x.op=1:=B.1
  have E:eC x.op=1:=by
   unfold kids at u
   unfold eC
   omega
  obtain⟨h1,U⟩:=O B.2 n h G
  simp_all[WA,steps]
 | bin x a b I M=>
  intro B n h G
  have u:kids x.op=2:=B.1
  have E:eC x.op=2:=by
   unfold kids at u
   unfold eC
   omega
  obtain⟨h1,U⟩:=I B.2.1 n h G
  obtain⟨h2,V⟩:=M B.2.2 (n+1) h1 bM
  refine⟨max h2 (n+1),?_⟩
  grind[WA,steps]
def Ky{k:Int}(h:kids k=0\/kids k=1\/kids k=2):1<=k/\k<=15:=by
 unfold kids at h
 omega
theorem Ex.VU(ns:List ByteArray)(t:Ex):t.wf->∀o∈t.steps ns,∃x∈t.flat,o=⟨x.op,numOf ns x⟩/\1<=x.op/\x.op<=15:=by
 induction t with
 | leaf x=>intro B o u;exact⟨x,by simp[Ex.flat],by simpa[Ex.steps]using u,Ky (.inl B)⟩
 | un x a I=>
  intro B o u
  have u:o∈a.steps ns++[⟨x.op,numOf ns x⟩]:=u
  rw[oF]at u
  rcases u with u|u
  .obtain⟨y,h1,h2⟩:=I B.2 o u;exact⟨y,by simp[Ex.flat,h1],h2⟩
  .exact⟨x,by simp[Ex.flat],cJ,Ky (.inr (.inl B.1))⟩
 | bin x a b E G=>
  intro B o u
  have u:o∈a.steps ns++b.steps ns++[⟨x.op,numOf ns x⟩]:=u
  rw[oF,oF]at u
  rcases u with(u|u)|u
  .obtain⟨y,h1,h2⟩:=E B.2.1 o u;exact⟨y,by simp[Ex.flat,h1],h2⟩
  .obtain⟨y,h1,h2⟩:=G B.2.2 o u;exact⟨y,by simp[Ex.flat,h1],h2⟩
  .exact⟨x,by simp[Ex.flat],cJ,Ky (.inr (.inr B.1))⟩
def Oj{ns:List ByteArray}{l:List bZ}{many:Int}(E:fB l=true)(G:pb l ns=false)(hm:many=ns.length):mw (qz ns l) many=true/\(qz ns l).length<=40:=by
 have GJ:=E
 unfold fB at E
 simp only[n3,sl,decide_eq_true_eq,A3]at E
 obtain⟨⟨⟨h1,h2⟩,h3⟩,h4⟩:=E
 obtain⟨t,U⟩:=Option.isSome_iff_exists.1 h2
 obtain⟨M,O⟩:=vu U
 have Z:=G
 unfold pb at G
 have he:kT ns l=0:=by grind[kT]
 have hl:qz ns l=t.steps ns:=by unfold qz;rw[ej he];unfold Co;rw[U]
 rw[hl]
 have hlen:(t.steps ns).length<=40:=by rw[Ex.pN,<- Ex.cY,<- O];exact h1
 obtain⟨W,e'⟩:=t.asO ns M 0 0 (MV _)
 have Y:ht (t.steps ns)=some (1,W):=by unfold ht;grind
 refine⟨?_,hlen⟩
 unfold mw htN
 rw[Y]
 simp only[Option.isSome_some,decide_true,Bool.and_true,n3,decide_eq_true_eq,sl,A3]
 refine⟨hlen,λo V=>?_⟩
 obtain⟨x,I,rfl,R4,xo⟩:=t.VU ns M o V
 rw[<- O]at I
 have u:=h3 x I
 unfold lg at u
 simp only[Bool.or_eq_true,decide_eq_true_eq,not_or,n3,sl,not_and,Bool.not_eq_false]at u
 obtain⟨⟨⟨⟨g1,g2⟩,g3⟩,g4⟩,g5⟩:=u
 have hn:Ex.numOf ns x=if x.op=2 then cU ns x.name else x.n:=rfl
 unfold qY
 simp only[decide_eq_true_eq]
 rintro(⟨B,J⟩|⟨B,J⟩|⟨B,J,q3⟩)
 .omega
 .have B:x.op=2:=B
  rw[hn,ej B]at J
  rw[A3]at G
  have:=G x I
  simp only[n3,decide_eq_true_eq,not_and]at this
  have h5:=this B
  have h6:=abh (ns:=ns) (s:=x.name) bM
  omega
 omega
theorem vI:∀(ls:List (List cI)) (i a:Int),0<=a->(∀l∈ls,l≠[])->i<=jm ls i a/\(∀b,a<=b->jm ls i a<=jm ls i b)/\(jm ls i (a+1)=jm ls i a\/jm ls i (a+1)=jm ls i a+1)
 | [],i,a,E,_=>⟨by unfold jm;omega,λb hb=>by unfold jm;omega,by unfold jm;omega⟩
 | l::r,i,a,E,hl=>by
  have I:0<l.length:=List.length_pos_iff.2 (hl l (oi ..))
  have u:=λl B=>hl l (pd _ B)
  unfold jm
  by_cases h1:a<l.length
  .rw[ej h1]
   refine⟨MV _,λb hb=>?_,?_⟩
   .split
    .omega
    .have:=(vI r (i+1) (b-l.length) bM u).1;omega
   .split
    .omega
    .have e:a+1-(l.length:Int)=0:=bM
     rw[e]
     cases r with
     | nil=>unfold jm;omega
     | cons U O=>
      simp_all[jm]
  .rw[ei h1]
   obtain⟨M,G,J⟩:=vI r (i+1) (a-l.length) bM u
   grind
section
variable {p:cA}
theorem u5(p:cA):0<=eN p/\eN p<=(iW p).length:=by grind[eN,iW]
theorem Ok{c:Int}(h:0<=c/\c<(iW p).length):pB p c=jm p.lines 0 c:=by unfold pB;omega
end
section
variable {m:gl}{t:jS}{i:Int}{x:bP}{p:cA}
theorem abi:(dY m t i x).1.l=m.l:=by
 unfold dY rG pD;grind
theorem CQ:(dY m t i x).1.room=m.room:=by
 unfold dY rG pD;grind
theorem alD:(dY m t i x).1.p=m.p:=by
 unfold dY rG pD;grind
theorem CS:(dY m t i x).2.1.cD=t.cD:=by
 unfold dY pg pX;grind
theorem vJ:(dY m t i x).2.1.names=t.names:=by
 unfold dY pg pX;grind
theorem VV{room:Int}{l:List bI}{y:bI}:(sJ room l y).length<=l.length\/((sJ room l y).length:Int)<=room:=by
 grind[sJ]
theorem Kz{φ:bP->Prop}(h:sN φ t)(B:m.room<=16):sN φ (dY m t i x).2.1:=by
 have h1:=h.p;have h2:=h.rl;have h3:=h.nb;have h4:=h.bl;have h5:=h.cl
 have u:∀y,sN φ (pX m t y):=λy=>by
  have h6:=VV (room:=m.room) (l:=t.buf) (y:=y)
  exact⟨h1,h2,h3,by show(sJ m.room t.buf y).length<=1000;omega,h5⟩
 unfold dY;repeat' split
 all_goals first
  | exact h
  | exact h.set _ _
  | exact u _
theorem abj(h:ve m.mem):ve (dY m t i x).1.mem/\(dY m t i x).1.mem.of=m.mem.of/\(dY m t i x).1.mem.dZ=m.mem.dZ:=by
 unfold dY rG pD;repeat' split
 all_goals first
  | exact⟨h,rfl,rfl⟩
  | exact⟨ID h,Ii _ _ _,uf _ _ _⟩
theorem afy{n:Nat}(h:MB m.mem n):MB (dY m t i x).1.mem (n+1):=by
 unfold dY rG pD;repeat' split
 all_goals first
  | exact h.mono (Mc n)
  | exact h.write
theorem afz:(dY m t i x).1.eW.length=m.eW.length:=by
 unfold dY rG pD;grind
theorem KA{φ:bP->Prop}(h:sN φ t):sN φ {t with cD:=gF t.cD}:=by
 refine h.cD h.p.pop ?_
 match hp:t.cD with
 | []=>exact o1 _
 | (.nil,_)::q=>grind[g8,gF]
 | (.cons y a b r,e)::q=>have:=QY (p:=(.cons y a b r,e)::q) rfl;omega
theorem Ol{cs ls:List ByteArray}(h:yx cs ls t):aaF (goD t):=λu=>TC _ (qJ h).1 h u
theorem VW(u:nL m)(ht:t∈m.l):yx (cX m.p) (cL m.p) (uh m t i x)/\aaF (uh m t i x)/\(uh m t i x).names=t.names:=by
 have h1:sN (Vq (cX m.p) (cL m.p) t.names) { (dY m t i x).2.1 with cD:=gF (dY m t i x).2.1.cD}:=KA (Kz (u.th t ht) u.rm.2)
 have h2:yx (cX m.p) (cL m.p) { (dY m t i x).2.1 with cD:=gF (dY m t i x).2.1.cD}:=by
  show sN (Vq _ _ (dY m t i x).2.1.names) _
  rw[vJ];exact h1
 exact⟨(qJ h2).2.1,Ol h2,(qJ h2).2.2.trans vJ⟩
theorem u6{β:Type}{l:List β}{k:Nat}{a y:β}(h:y∈l.set k a):y=a\/y∈l:=(RM h).symm
theorem abk(u:nL m):nL (iy m i).1/\(iy m i).1.p=m.p/\(∀n,MB m.mem n->MB (iy m i).1.mem (n+1))/\(iy m i).1.l.length=m.l.length:=by
 unfold iy
 split
 .exact⟨u,rfl,λn h=>h.mono (Mc n),rfl⟩
 rename_i t ht
 have J:=kp ht
 split
 .exact⟨⟨u.mem,u.th,u.tl,u.ow,u.rm,u.st,u.pz⟩,rfl,λn h=>h.mono (Mc n),rfl⟩
 split
 .exact⟨u,rfl,λn h=>h.mono (Mc n),rfl⟩
 rename_i x _ _ _
 split
 .exact⟨⟨u.mem,u.th,u.tl,u.ow,u.rm,u.st,u.pz⟩,rfl,λn h=>h.mono (Mc n),rfl⟩
 obtain⟨G,I,_⟩:=VW (i:=i) (x:=x) u J
 have E:=alD (m:=m) (t:=t) (i:=i) (x:=x)
 refine⟨⟨(abj u.mem).1,λy B=>?_,by show(m.l.set _ _).length<=_;rw[G6];exact u.tl,?_,by show 1<=(dY m t i x).1.room/\_;rw[CQ];exact u.rm,λy B=>?_,?_⟩,E,λn h=>afy h,G6⟩
 .show yx (cX (dY m t i x).1.p) (cL (dY m t i x).1.p) y
  rw[E]
  rcases u6 B with rfl|B
  .exact G
  exact u.th y B
 .show(dY m t i x).1.eW.length=(cL (dY m t i x).1.p).length
  rw[afz,E];exact u.ow
 .rcases u6 B with rfl|B
  .exact I
  exact u.st y B
 show PZ (dY m t i x).1.p;rw[E];exact u.pz
theorem Rw{l:List bI}{i:Int}:(jO l i).length<=l.length:=by
 grind[jO]
theorem afA{q:aS}(u:nL m)(ht:m.l[q.t.toNat]?=some t):nL (tj m t q)/\(∀n,MB m.mem n->MB (tj m t q).mem (n+1)):=by
 have E:=kp ht
 have h1:=u.th t E
 refine⟨⟨(IE u.mem).1,λy B=>?_,by show(m.l.set _ _).length<=_;rw[G6];exact u.tl,u.ow,u.rm,λy B=>?_,u.pz⟩,λn h=>h.jP⟩
 .rcases u6 B with rfl|B
  .have:=Rw (l:=t.buf) (i:=q.i)
   exact⟨h1.p,h1.rl,h1.nb,by show(jO t.buf q.i).length<=1000;have:=h1.bl;omega,h1.cl⟩
  exact u.th y B
 rcases u6 B with rfl|B
 .exact u.st t E
 exact u.st y B
structure GN(p:cA):Prop where
 f:PF p
 big:uP p=false
 w:∀t∈gu p,re t.body=false
 tw:kq (fN p)=false
 u:∀t∈gu p,∀x∈t.body,nc p t.dQ x=false
theorem rH(h:fe p=0):GN p:=by
 unfold fe at h
 split at h
 .cases h
 rename_i h1
 split at h
 .cases h
 rename_i h2
 split at h
 .cases h
 rename_i h3
 split at h
 .cases h
 rename_i h4
 split at h
 .cases h
 rename_i h5
 split at h
 .cases h
 rename_i h6
 simp only[Bool.not_eq_true,A3]at h2 h3 h4 h6
 exact⟨qC cJ,h2,λt ht=>cJ,h4,λt ht x u=>cJ⟩
theorem KB:∀(b:Bk) (n:Int),b.ok n=true->∀x∈b.flat,x.et<=0\/x.kind=11
 | .nil,_,_,_,h=>by cases h
 | .cons y a b r,n,h,x,u=>by
  unfold Bk.ok at h
  simp only[n3]at h
  obtain⟨⟨⟨h1,h2⟩,h3⟩,h4⟩:=h
  unfold Bk.flat at u
  rcases sk.1 u with rfl|u
  .unfold Bk.yp at h1;grind
  .rcases oF.1 u with u|u
   .exact KB a _ h2 x u
   .rcases oF.1 u with u|u
    .exact KB b _ h3 x u
    .exact KB r _ h4 x u
theorem Gn{l:List bZ}(h:fB l=true):l.length<=40:=by
 unfold fB at h
 grind
theorem IF{l:List bZ}(h:fB l=true):∀y∈l,y.name.size<=1000:=λy B=>by
 have u:lg y=false:=by
  unfold fB at h
  grind
 unfold lg gQ at u
 by_cases h2:y.op=2
 .grind
 .have:y.name=⟨#[]⟩:=cJ
  rw[this];decide
theorem alE(hc:GN p){t:cM}(ht:t∈gu p){x:bP}(J:x∈t.body)(G:m9 x=true)(W:x.et<=0\/x.kind=11):Vq (cX p) (cL p) t.dQ x:=by
 have E:=hc.u t ht x J
 have U:=JQ G
 have u:=yt G
 unfold nc at E
 simp only[JW,Bool.and_eq_false_iff,decide_eq_false_iff_not,vy]at E
 obtain⟨⟨⟨⟨⟨B,V⟩,Y⟩,u4⟩,_⟩,_⟩:=E
 have I:x.e.length<=1000:=by
  rcases u.e with h|h
  .have:=Gn h.2;omega
  grind
 have O:x.f.length<=1000:=by
  rcases u.f with h|h
  .have:=Gn h.2;omega
  grind
 refine⟨u.kind,⟨I,O⟩,λh=>bM,λh=>bM,λh=>?_,λh=>bM,λh=>bM,?_,?_⟩
 rotate_left
 .rcases u.e with h|h
  .exact IF h.2
  grind
 .rcases u.f with h|h
  .exact IF h.2
  grind
 rcases B with B|B
 .exfalso
  have M:=u.eD
  rcases M with⟨_,h2⟩|⟨h1,_⟩
  .rw[B,Nk]at h2;cases h2
  have Z:=u.kind
  rcases h with h|h|h<;>rw[h]at h1<;>exact absurd h1 dC
 omega
theorem u7:∀(b:Bk) (n:Int),1<=n->n<=64->mC b n=false->(∀x∈b.flat,x.kind=12->1<=x.n)->n.toNat*lX b<=128*b.len
 | .nil,n,_,_,_,_=>by simp[lX]
 | .cons y a b r,n,h1,h2,hw,G=>by
  rw[vz]at hw
  simp only[JW,decide_eq_false_iff_not]at hw
  obtain⟨⟨M,u,I⟩,w4⟩:=hw
  have U:∀x∈a.flat,x.kind=12->1<=x.n:=λx B=>G x (by unfold Bk.flat;simp[B])
  have Y:∀x∈b.flat,x.kind=12->1<=x.n:=λx B=>G x (by unfold Bk.flat;simp[B])
  have W:∀x∈r.flat,x.kind=12->1<=x.n:=λx B=>G x (by unfold Bk.flat;simp[B])
  have ir:=u7 r n h1 h2 w4 W
  rw[sM]
  unfold Bk.len
  obtain⟨k,rfl⟩:=OT (show 0<=n by omega)
  rw[qb]at ir |-
  by_cases E:y.kind=12
  .rw[ej E]
   have V:=G y (by unfold Bk.flat;grind) E
   unfold q9 at M u
   rw[ej E]at M u
   obtain⟨j,O⟩:=OT (show 0<=y.n by omega)
   rw[O]at M u V
   rw[O,qb]
   have J:(1:Int)<=(k:Int)*(j:Int):=by
    have:=Int.mul_le_mul (a:=1) (b:=1) (c:=(k:Int)) (d:=(j:Int)) h1 V bM bM
    omega
   have Z:=u7 a _ J bM u U
   grind
  .rw[ei E]
   unfold q9 at u I
   rw[ei E]at u I
   have Z:=u7 a k h1 h2 u U
   have ib:=u7 b k h1 h2 I Y
   grind
theorem Om{b:Bk}(h:b.str):Iq b.flat=b:=by unfold Iq;rw[rM h];rfl
theorem Em(hc:GN p){t:cM}(ht:t∈gu p):yx (cX p) (cL p) (wm t):=by
 obtain⟨_,h2,_⟩:=hc.f.qP ht
 obtain⟨h3,h4,b,h5,h6,J,_⟩:=lx h2
 have hb:Iq t.body=b:=by rw[h5];exact Om h6
 have M:DD (Vq (cX p) (cL p) t.dQ) b:=(Vo b).2 λx u=>by
  rw[<- h5]at u
  exact alE hc ht u (h4 x u) (KB b 0 J x cJ)
 have I:GM (Vq (cX p) (cL p) t.dQ) []:=⟨λ_ h=>(by cases h),λ_ h=>(by cases h),λ_ h=>(by cases h)⟩
 have G:=hc.w t ht
 rw[h5,vw h6]at G
 have U:=u7 b 1 bM bM G λx u O=>(((JQ (h4 x cJ)).2 O).1)
 have V:b.len<=40:=by rw[<- Bk.cY,<- h5];exact h3
 have E:t.dQ.length<=4:=by
  have B:=hc.big
  unfold uP at B
  grind
 refine⟨?_,by simp[wm],by show t.dQ.length<=1000;omega,by simp[wm],?_⟩
 .show GM _ (jn (Iq t.body) false [])
  rw[hb];exact I.push h6 M
 show g8 (jn (Iq t.body) false [])<=10000
 rw[hb,sL]
 grind[lX,g8]
theorem abl:yx (cX p) (cL p) (wm ⟨⟨#[]⟩,[],[],0⟩):=by
 refine⟨⟨λ_ h=>(by cases h),λ_ h=>(by cases h),λ_ h=>(by cases h)⟩,rfl,(by decide:(0:Nat)<=1000),(by decide:(0:Nat)<=1000),(by decide:(0:Nat)<=10000)⟩
theorem IG{l:List cM}(I:ve m.mem)(J:1<=m.room/\m.room<=16)(E:PZ m.p)(G:l.length<=1000)(h:∀t∈l,yx (cX m.p) (cL m.p) (wm t)):nL (qR m l):=by
 refine⟨I,λt ht=>?_,by show(l.map Vv).length<=1000;rw[List.length_map];exact G,by show(List.replicate _ _).length=_;rw[List.length_replicate];rfl,J,λt ht=>?_,E⟩
 .obtain⟨u,B,rfl⟩:=n5.1 ht
  exact(qJ (h u B)).2.1
 obtain⟨u,B,rfl⟩:=n5.1 ht
 exact Ol (h u B)
theorem KC(hc:GN m.p):(uY m).length<=1/\∀t∈uY m,yx (cX m.p) (cL m.p) (wm t):=by
 unfold uY
 split
 .exact⟨o1 _,λt ht=>by rw[ua.1 ht];exact abl⟩
 exact⟨hc.f.one,λt ht=>Em hc (List.mem_append_right _ ht)⟩
theorem BK{k:Nat}{x:aS}(h:x∈il m k):∃i t,i<k/\m.l[i]?=some t/\x∈rE m i t:=by
 unfold il at h
 grind
theorem Gp{i:Nat}{t:jS}{x:aS}(h:x∈rE m i t):x.t=i/\x.cut=[]/\((x.kind=1/\sQ m t=true/\x.i=0)\/(x.kind=2/\x.i∈pC t.buf)):=by
 unfold rE at h
 grind
theorem alG{q:aS}(h:(gj m).any (nd q)=true):m.fault=0/\0<=q.t/\q.cut.length=0/\∃t,m.l[q.t.toNat]?=some t/\((q.kind=1/\sQ m t=true)\/(q.kind=2/\q.i∈pC t.buf)):=by
 rw[List.any_eq_true]at h
 obtain⟨x,B,u⟩:=h
 unfold gj at B
 split at B
 .cases B
 rename_i hf
 obtain⟨i,t,_,ht,E⟩:=BK B
 obtain⟨h1,_,h2⟩:=Gp E
 unfold nd at u
 simp only[n3,decide_eq_true_eq]at u
 have e:q.t=(i:Int):=bM
 refine⟨bM,bM,u.2,t,by rw[e];exact ht,?_⟩
 rcases h2 with⟨a,b,_⟩|⟨a,b⟩
 .exact .inl ⟨bM,b⟩
 exact .inr ⟨bM,by rw[<- u.1.2];exact b⟩
theorem On(h:sQ m t=true):∃x a b,pf t.cD=some (x,a,b):=by
 unfold sQ at h
 grind
theorem alH{q:aS}(u:nL m)(hc:GN m.p):nL (pk m q).1/\(pk m q).1.p=m.p/\(∀n,MB m.mem n->MB (pk m q).1.mem (n+1)):=by
 unfold pk
 cases hi:iQ m q with
 | some E=>
  have B:fo m.mem q.cut=some E:=by unfold iQ at hi;grind
  obtain⟨I,G⟩:=KC hc
  refine⟨IG (VT u.mem B) u.rm u.pz bM G,rfl,λn h k=>?_⟩
  show([]:List kh).length<=_
  grind
 | none=>
  dsimp only
  split
  .split
   .split
    .rename_i t ht
     obtain⟨h1,h2⟩:=afA u ht
     exact⟨h1,rfl,h2⟩
    .exact⟨u,rfl,λn h=>h.mono (Mc n)⟩
   .obtain⟨h1,h2,h3,_⟩:=abk (i:=q.t) u
    grind
  .exact⟨u,rfl,λn h=>h.mono (Mc n)⟩
theorem KD{i:Nat}(h:i<(cX p).length):(BB p)[i]?=some (pB p i):=by grind[BB,pB]
theorem BL(p:cA):(cX p).length=(iW p).length:=by unfold cX;grind
theorem abm(hc:GN p):(iW p).length<=20:=by
 have hb:=hc.big
 unfold uP at hb
 simp only[JW,A3,decide_eq_false_iff_not,decide_eq_true_eq]at hb
 obtain⟨⟨h1,_⟩,⟨⟨⟨⟨h2,h3⟩,_⟩,_⟩,_⟩,_⟩:=hb
 have h4:∀ls:List (List cI),(∀l∈ls,¬ 4<(l.length:Int))->ls.flatten.length<=4*ls.length:=by
  intro ls
  induction ls with
  | nil=>grind
  | cons l r u=>
   grind
 grind[iW]
theorem Rx(hc:GN p){k:Nat}{n:Int}(J:(k:Int)<eN p)(E:(BB p)[k]?=some n):(n=tI (BB p) k\/(0<k/\n=tI (BB p) k-1))/\0<=n/\n<=k:=by
 have M:=u5 p
 have U:=BL p
 have B:∀l∈p.lines,l≠[]:=λl G=>(hc.f.lines l G).1
 have I:∀j:Nat,(j:Int)<eN p->(BB p)[j]?=some (jm p.lines 0 j):=λj O=>by rw[KD bM,Ok bM]
 rw[I k J]at E;cases E
 have u:∀j:Nat,jm p.lines 0 j<=j:=by
  intro j
  induction j with
  | zero=>
   cases G:p.lines with
   | nil=>unfold jm;omega
   | cons l r=>
    grind[jm]
  | succ j W=>
   have:=(vI p.lines 0 (j:Int) bM B).2.2
   grind
 refine⟨?_,(vI p.lines 0 (k:Int) bM B).1,u k⟩
 cases k with
 | zero=>
  left
  have:=u 0
  have:=(vI p.lines 0 ((0:Nat):Int) bM B).1
  show _=0
  omega
 | succ k=>
  have h3:=(vI p.lines 0 (k:Int) bM B).2.2
  have e:((k+1:Nat):Int)=(k:Int)+1:=bM
  have V:tI (BB p) (k+1)=jm p.lines 0 (k:Int)+1:=by
   unfold tI;grind
  grind
theorem abn(hc:GN p):ve (Kb (BB p) (eN p) (fm p)):=by
 have W:=u5 p
 have Z:=BL p
 have V:=abm hc
 have O:∀l∈p.lines,l≠[]:=λl E=>(hc.f.lines l E).1
 have JN:(BB p).length=(iW p).length:=by grind[BB,iW]
 have Y:(fm p).length=(iW p).length:=by unfold fm;grind
 have E:((BB p).take (eN p).toNat).length=(eN p).toNat:=cJ
 have B:∀j:Nat,(j:Int)<eN p->(BB p)[j]?=some (jm p.lines 0 j):=λj U=>by rw[KD bM,Ok bM]
 have u:0<(eN p).toNat->fT ((BB p).take (eN p).toNat)=jm p.lines 0 ((eN p).toNat-1:Nat)+1:=λG=>by
  rw[Oi G bM,n0,B _ bM];rfl
 refine⟨?_,?_,rfl,?_,λn M=>?_,?_,λk x J=>by cases J⟩
 .show((BB p).take (eN p).toNat).length<=(fm p).length;omega
 .show(fm p).length<=20;omega
 .show((fm p).take (eN p).toNat).length=((BB p).take (eN p).toNat).length;grind
 .obtain⟨i,hi⟩:=List.mem_iff_getElem?.1 (show n∈(BB p).take (eN p).toNat from M)
  have I:=(j0.1 hi).1
  rw[E]at I
  rw[List.getElem?_take,ej I,B i bM]at hi
  cases hi
  show 0<=_/\_<fT ((BB p).take (eN p).toNat)
  rw[u bM]
  have h3:=vI p.lines 0 (i:Int) bM O
  grind
 show fT ((BB p).take (eN p).toNat)<=20
 by_cases G:(eN p).toNat=0
 .rw[G,List.take_zero];decide
 rw[u bM]
 have:=(Rx hc (k:=(eN p).toNat-1) bM (B _ bM)).2.2
 omega
theorem afB(u:PZ p)(hc:GN p){room:Int}(B:1<=room/\room<=16):nL (gY p room):=by
 refine IG (m:=xM p room) (abn hc) B u (by have:=u.threads;omega) λt ht=>Em hc (List.mem_append_left _ ht)
end
def hdC(g:Int->Nat)(u B:Nat)(x:bP):Nat:=
 if x.kind=11 then g 12+max (u+(if 0<x.et then g 11 else 0)) B
 else if x.kind=12 then g 13+x.n.toNat*(u+g 14)
 else if x.kind=13 then g 11 else g (if x.kind=14 then 15 else x.kind)
def tot(g:Int->Nat):Bk->Nat
 | .nil=>0
 | .cons x a b r=>hdC g (tot g a) (tot g b) x+tot g r
def asQ(x:bP)(a b r:Bk)(at_:Int):Int:=at_+(ze (.cons x a b r)-ze r)
def W(g:Int->Nat):Bk->Int->Int->List Int->Int->Nat->Nat->Option Nat
 | .nil,at_,_,_,pos,u,_=>if pos=at_ then some u else none
 | .cons x a b r,at_,lp,cs,pos,u,B=>
  if asQ x a b r at_<=pos then W g r (asQ x a b r at_) lp cs pos u B
  else if pos=at_ then(if x.kind=13 then some (g 11+B)else some (hdC g (tot g a) (tot g b) x+(tot g r+u)))
  else if x.kind=11 then(if pos<toT x a at_ then W g a (at_+1) lp cs pos ((if 0<x.et then g 11 else 0)+(tot g r+u)) B else W g b (toT x a at_) lp cs pos (tot g r+u) B)
  else if x.kind=12 then(if 1<=cs.getD lp.toNat 0/\cs.getD lp.toNat 0<=8 then W g a (at_+1) (lp+1) cs pos (g 14+((cs.getD lp.toNat 0).toNat-1)*(tot g a+g 14)+(tot g r+u)) (tot g r+u)else none)
  else none
def asR:aS:=⟨0,0,0,[]⟩
theorem BM{x y:aS}:x=y↔x.kind=y.kind/\x.t=y.t/\x.i=y.i/\x.cut=y.cut:=by
 cases x;cases y;simp
def KE{α:Type}{xs ys:List α}{k:Nat}{x y:α}(h:xs.take k=ys.take k)(u:xs[k]?=some x)(B:ys[k]?=some y)(e:x=y):xs.take (k+1)=ys.take (k+1):=by
 rw[<- gO u,<- gO B,h,e]
def asS{α:Type}{xs ys:List α}{k:Nat}{x y:α}(u:xs[k]?=some x)(B:ys[k]?=some y)(e:x≠y):xs≠ys:=λh=>by
 grind
def C19(av bv:Value)(xs ys:List aS)(w:World)(hA:DL w av xs)(hB:DL w bv ys)(hn:xs.length<=1073741824)(hc:∀x∈xs,x.cut.length<=1000000):CR 19 [av,bv] w (λv w'=>v=.bool (decide (xs=ys))/\Ext w w'):=by
 have u:=St.start w;refine py Tryz.func19 (pl:=P19) ?_;obtain⟨asT,J,Z⟩:=hA.open;have asU:=Z.1;refine aH gH (J.ext u.aF) ?_;obtain⟨asV,Oo,U⟩:=hB.open;have hn133:=U.1;refine aH gH (Oo.ext u.aF) (bV (aC (λ_=>⟨vb (ez λh=>by rw[h]at asU;omega).symm,u.aF⟩) λgN=>?_));refine⟨λmm i w'=>∃k:Nat,i=hH (k:Int)/\mm=xs.length-k/\k<=xs.length/\xs.take k=ys.take k/\St w aZ [] w',⟨_,0,rfl,rfl,la _,rfl,u⟩,?_⟩;rintro mm _ _ ⟨k,rfl,rfl,hk,G,u⟩ _;refine aH gH (J.ext u.aF) (aQ (aC (λjy=>?_) λ_=>⟨vb (ew (by rw[kE bM,kE bM]at G;exact G)).symm,u.aF⟩))
 obtain⟨ra,I⟩:=gx xs (i:=k) bM;obtain⟨rb,E⟩:=gx ys (i:=k) bM;refine⟨λjv w'=>jv=.bool (!decide (ra=rb))/\St w aZ [] w',?_,?_⟩
 .obtain⟨lU,Y⟩:=gx asT (i:=(k:Int).toNat) bM;obtain⟨M,lD⟩:=gx xs (i:=(k:Int).toNat) bM;obtain⟨VX,rfl,VY⟩:=Z.2 _ _ _ Y lD;refine aN gH J bM Y (λ_ lQ=>bU M.kind nO lQ rfl rfl λ_ FL=>have u:=u.drew;aD bO (FL.ext u.aF) ?_);obtain⟨iK,V⟩:=gx asV (i:=(k:Int).toNat) bM;obtain⟨O,W⟩:=gx ys (i:=(k:Int).toNat) bM;obtain⟨VZ,rfl,V0⟩:=U.2 _ _ _ V W;refine aN gH Oo bM V (λ_ xd=>bU O.kind nO xd rfl rfl λ_ FM=>aD bO (FM.ext u.aF) ?_)
  have WJ:ra=M:=n4.inj (I.symm.trans lD);have B:rb=O:=n4.inj (E.symm.trans W);have hcx:=hc _ (kp lD);refine bV (aC (λ_=>⟨vb (by rw[WJ,B];rw[ez λh=>by rw[BM]at h;omega];rfl),u⟩) λlq=>aN gH J bM Y λ_ sw=>bU M.t lC sw rfl rfl λ_ xt=>aD bO (xt.ext u.aF) (aN gH Oo bM V λ_ Ba=>bU O.t lC Ba rfl rfl λ_ xn=>aD bO (xn.ext u.aF) (bV (aC (λ_=>⟨vb (by rw[WJ,B];rw[ez λh=>by rw[BM]at h;omega];rfl),u⟩) λA7=>aN gH J bM Y λ_ uU=>bU M.i qf uU rfl rfl λ_ Ff=>aD bO (Ff.ext u.aF) (aN gH Oo bM V λ_ Fs=>bU O.i qf Fs rfl rfl λ_ Zc=>aD bO (Zc.ext u.aF) (bV (aC (λ_=>⟨vb (by rw[WJ,B];rw[ez λh=>by rw[BM]at h;omega];rfl),u⟩) λuQ=>aN gH J bM Y λ_ Ft=>bU VX oQ Ft rfl rfl λ_ Bm=>aD eO (Bm.ext u.aF) ?_)))))))
  have asW:=DL.flat VY;refine aN gH Oo bM V (λ_ FN=>bU VZ oQ FN rfl rfl λ_ Ms=>aD eO (Ms.ext u.aF) ?_);have asX:=DL.flat V0;exact aV aiC u (C71 _ _ M.cut O.cut _ (asW.ext u.aF) (asX.ext u.aF) bM) (λ_ _ u=>bQ ⟨vb (by rw[WJ,B];exact fM (λb=>!b) (e8.2 (by rw[BM];exact⟨λh=>⟨bM,bM,bM,h⟩,λh=>h.2.2.2⟩))),u⟩)
 rintro _ _ ⟨rfl,u⟩ _;exact aY (λwZ=>⟨vb (ez (asS I E (by simpa using wZ))).symm,u.aF⟩) (λwZ=>aK bM ⟨_,bM,k+1,rfl,rfl,bM,KE G I E (by simpa using wZ),u⟩)
theorem Uc(f:List Int->List Int):∀(l:List (List Int)) (s:List (List Int)×List (List Int)),∀x∈(l.foldl (λs c=>if f c∈s.2 then s else(s.1++[c],s.2++[f c])) s).1,x∈s.1\/x∈l
 | [],s,x,h=>.inl h
 | c::l,s,x,h=>by
  rw[List.foldl_cons]at h
  rcases Uc f l _ x h with h1|h1
  .split at h1
   .exact .inl h1
   .rcases oF.1 h1 with h2|h2
    .exact .inl h2
    .exact .inr (by rw[ua.1 h2];exact oi ..)
  .exact .inr (pd _ h1)
def V1{m:Mem}{c:List Int}(h:c∈By m):c∈er (wB m):=by
 have:=Uc (Nx m) (er (wB m)) ([],[]) c h
 rcases this with h1|h1
 .cases h1
 exact h1
def Ry{m:Mem}(u:ve m){c:List Int}(h:c∈By m):fo m c=some (oI m c c.length)/\c.length<=20:=by
 have h1:=V1 h
 have h2:=xE h1
 have h3:=Eb m
 have h4:=mX u
 have h5:=u.lb
 refine⟨yw bM λk x G B=>?_,bM⟩
 have E:(wB m)[k]?=some (m.fF k).length:=F9 bM
 exact CI h1 E B
theorem Ot{ns:List Int}{many:Int}(B:yM ns):∀{xs:List oC}{S:List Int},yM S->(∀x∈xs,qY many x=false)->eX (wk ns xs S).1
 | [],S,u,_=>Mf u
 | x::r,S,u,h=>by
  unfold wk
  split
  .exact Ot B (Yc B u (h x (oi ..))) λy E=>h y (pd _ E)
  .exact iD
def afC{xs:List oC}{ns:List Int}(B:yM ns):eX (runM xs ns).1:=by
 unfold runM
 split
 .rename_i h
  exact Ot B (λv u=>by cases u) (y9 h).2.2
 exact iD
def yM.set{S:List Int}(h:yM S){i:Nat}{v:Int}(u:eX v):yM (S.set i v):=λe B=>by
 rcases RM B with h1|rfl
 .exact h e h1
 .exact u
def Ex.val(ns:List ByteArray)(nums:List Int):Ex->Int×Int
 | .leaf x=>(if x.op=2 then nums.getD (cU ns x.name).toNat 0 else x.n,0)
 | .un x a=>if (a.val ns nums).2=0 then(yL x.op (a.val ns nums).1,0)else(0,(a.val ns nums).2)
 | .bin x a b=>if (a.val ns nums).2=0 then(if (b.val ns nums).2=0 then(gD x.op (a.val ns nums).1 (b.val ns nums).1,gI x.op (b.val ns nums).1)else(0,(b.val ns nums).2))else(0,(a.val ns nums).2)
theorem Ex.Gq(ns:List ByteArray)(nums:List Int)(x:bZ)(a:Ex):(Ex.un x a).val ns nums=if (a.val ns nums).2=0 then(yL x.op (a.val ns nums).1,0)else(0,(a.val ns nums).2):=rfl
theorem Ex.BN(ns:List ByteArray)(nums:List Int)(x:bZ)(a b:Ex):(Ex.bin x a b).val ns nums=if (a.val ns nums).2=0 then(if (b.val ns nums).2=0 then(gD x.op (a.val ns nums).1 (b.val ns nums).1,gI x.op (b.val ns nums).1)else(0,(b.val ns nums).2))else(0,(a.val ns nums).2):=rfl
theorem Ad{k:Int}(h:0<=kids k):eC k=kids k:=by
 grind[eC,kids]
theorem sW(S:List Int)(v:Int):j7 (S++[v])=v:=by
 grind[j7]
theorem Gr(S:List Int)(v:Int):(S++[v]).take ((S++[v]).length-1)=S:=by
 simp_all
theorem Rz(S:List Int)(v u:Int):(S++[v]++[u]).take ((S++[v]++[u]).length-2)=S:=by
 simp_all
theorem V2(ns:List ByteArray)(nums:List Int):∀(t:Ex),t.wf->∀(r:List oC) (S:List Int),wk nums (t.steps ns++r) S=if (t.val ns nums).2=0 then wk nums r (S++[(t.val ns nums).1])else(0,(t.val ns nums).2):=by
 intro t
 induction t with
 | leaf x=>
  intro E r S
  have G:kids x.op=0:=E
  have u:eC x.op=0:=by rw[Ad bM,G]
  show(if vr S ⟨x.op,Ex.numOf ns x⟩=0 then wk nums r (lu nums S ⟨x.op,Ex.numOf ns x⟩)else _)=_
  have h1:vr S ⟨x.op,Ex.numOf ns x⟩=0:=by unfold vr;rw[show eC (⟨x.op,Ex.numOf ns x⟩:oC).kind=0 from u];rfl
  have h2:lu nums S ⟨x.op,Ex.numOf ns x⟩=S++[((Ex.leaf x).val ns nums).1]:=by
   unfold lu;rw[ej (show eC (⟨x.op,Ex.numOf ns x⟩:oC).kind=0 from u)]
   show S++[if x.op=2 then nums.getD (Ex.numOf ns x).toNat 0 else Ex.numOf ns x]=S++[if x.op=2 then _ else _]
   unfold Ex.numOf
   split<;>simp[*]
  rw[ej h1,h2];rfl
 | un x a U=>
  intro E r S
  have G:kids x.op=1:=E.1
  have u:eC x.op=1:=by rw[Ad bM,G]
  show wk nums (a.steps ns++[⟨x.op,Ex.numOf ns x⟩]++r) S=_
  rw[nk,U E.2,Ex.Gq]
  by_cases B:(a.val ns nums).2=0
  .rw[ej B,ej B]
   show(if vr _ ⟨x.op,Ex.numOf ns x⟩=0 then wk nums r (lu nums _ ⟨x.op,Ex.numOf ns x⟩)else _)=_
   have h1:∀J,vr J ⟨x.op,Ex.numOf ns x⟩=0:=λJ=>by unfold vr;rw[show eC (⟨x.op,Ex.numOf ns x⟩:oC).kind=1 from u];rfl
   rw[ej (h1 _)]
   unfold lu
   rw[ei (show ¬ eC (⟨x.op,Ex.numOf ns x⟩:oC).kind=0 by show ¬ eC x.op=0;omega),ej (show eC (⟨x.op,Ex.numOf ns x⟩:oC).kind=1 from u),sW,Gr]
   rfl
  .rw[ei B,ei B,ei B]
 | bin x a b M O=>
  intro E r S
  have G:kids x.op=2:=E.1
  have u:eC x.op=2:=by rw[Ad bM,G]
  show wk nums (a.steps ns++b.steps ns++[⟨x.op,Ex.numOf ns x⟩]++r) S=_
  rw[nk,nk,M E.2.1,Ex.BN]
  by_cases B:(a.val ns nums).2=0
  .rw[ej B,ej B,O E.2.2]
   by_cases hb:(b.val ns nums).2=0
   .rw[ej hb,ej hb]
    show(if vr _ ⟨x.op,Ex.numOf ns x⟩=0 then wk nums r (lu nums _ ⟨x.op,Ex.numOf ns x⟩)else _)=_
    have h1:vr (S++[(a.val ns nums).1]++[(b.val ns nums).1]) ⟨x.op,Ex.numOf ns x⟩=gI x.op (b.val ns nums).1:=by
     unfold vr;rw[ej (show eC (⟨x.op,Ex.numOf ns x⟩:oC).kind=2 from u),sW]
    rw[h1]
    by_cases I:gI x.op (b.val ns nums).1=0
    .rw[ej I,ej I]
     unfold lu
     rw[ei (show ¬ eC (⟨x.op,Ex.numOf ns x⟩:oC).kind=0 by show ¬ eC x.op=0;omega),ei (show ¬ eC (⟨x.op,Ex.numOf ns x⟩:oC).kind=1 by show ¬ eC x.op=1;omega),sW,Gr,sW,Rz]
    .rw[ei I,ei I]
   .rw[ei hb,ei hb,ei hb]
  .rw[ei B,ei B,ei B]
theorem V3{ns:List ByteArray}{nums:List Int}{xs:List bZ}(h:kT ns xs=0)(O:ns.length=nums.length):∃t,B5 xs 0 t/\qO ns nums xs=t.val ns nums/\(∀y∈xs,y.op=2->0<=cU ns y.name)/\∀y∈xs,eX y.n:=by
 unfold kT at h
 split at h
 .cases h
 rename_i u
 have u:fB xs=true:=cJ
 split at h
 .cases h
 rename_i hv
 have M:=zL u
 obtain⟨t,ht⟩:=B5.of (xs:=xs) (i:=0) bM
 obtain⟨h1,h2⟩:=ht.zero M
 have U:kT ns xs=0:=by grind[kT]
 have E:=(Oj (ns:=ns) (l:=xs) (many:=(nums.length:Int)) u (by simpa[pb]using hv) bM).1
 refine⟨t,ht,?_,λy J h2=>?_,λy J=>?_⟩
 .unfold qO runM
  rw[ej O,ej U,ej E]
  have G:qz ns xs=t.steps ns:=by unfold qz Co;grind
  have:=V2 ns nums t ht.2.1 [] []
  rw[oo]at this
  rw[G,this]
  split
  .rename_i h0
   show(j7 ([]++_),0)=_
   rw[sW,<- h0]
  rename_i h0
  have B:∀t:Ex,¬ (t.val ns nums).2=0->(t.val ns nums).1=0:=by
   intro t
   cases t with
   | leaf x=>intro h;exact absurd rfl h
   | un x a=>rw[Ex.Gq];split<;>intro h<;>first|exact absurd rfl h|rfl
   | bin x a b=>
    rw[Ex.BN];repeat' split
    all_goals intro h
    .show gD _ _ _=0;unfold gD;rw[ei h]
    .rfl
    .rfl
  rw[<- B t h0]
 .grind
 have I:lg y=false:=by
  unfold fB at u
  grind
 unfold lg at I
 unfold eX
 grind
theorem Ex.RB{ns:List ByteArray}{nums:List Int}(u:yM nums):∀t:Ex,(∀y∈t.flat,eX y.n)->eX (t.val ns nums).1
 | .leaf x,h=>by
  unfold Ex.val;dsimp only
  split
  .rw[n0]
   cases hh:nums[(cU ns x.name).toNat]? with
   | none=>exact iD
   | some e=>exact u e (kp hh)
  .exact h x (List.mem_singleton_self x)
 | .un x a,h=>by rw[Ex.Gq];split;exact Yb;exact iD
 | .bin x a b,h=>by
  rw[Ex.BN];repeat' split
  .exact Ya (Ex.RB u a λy B=>h y (by simp[Ex.flat,B]))
  .exact iD
  .exact iD
abbrev Dq:=bP×Bk×Bk×Bool
def GO:Bool->Bk->List Dq
 | _,.nil=>[]
 | e,.cons x a b r=>(x,a,b,e)::GO false r
def yE:PD->List Dq
 | []=>[]
 | q::p=>GO q.2 q.1++yE p
def Gs(p:PD):Prop:=∀q∈p,q.2=true->∃x a,q.1=Bk.cons x a .nil .nil
def uo:List Dq->List Dq
 | []=>[]
 | q::l=>if q.2.2.2=true then l else uo l
section
variable {p:PD}{b:Bk}{x:bP}{a:Bk}{t:jS}{l:List Dq}
theorem u9:yE (jn b false p)=GO false b++yE p:=by cases b<;>rfl
theorem BO{c:Bk}(h:pf p=some (x,a,c)):∃e,yE p=(x,a,c,e)::yE (gF p):=by
 obtain⟨r,e,u,rfl⟩:=Ij h
 exact⟨e,by show _::(GO false r++yE u)=_::yE (jn r false u);rw[u9]⟩
theorem II:∀b:Bk,uo (GO false b++l)=uo l
 | .nil=>rfl
 | .cons _ _ _ r=>II r
theorem IJ:∀{p:PD},Gs p->yE (kr p)=uo (yE p)
 | [],_=>rfl
 | (b,true)::p,h=>by
  obtain⟨x,a,hb⟩:=h _ (oi ..) rfl
  have hb:b=Bk.cons x a .nil .nil:=hb
  subst hb;rfl
 | (b,false)::p,h=>by
  show yE (kr p)=uo (GO false b++yE p)
  rw[II,IJ λq u=>h q (pd _ u)]
theorem V4(h:¬ x.n=0):yE (mH x a p)=GO false a++({x with n:=x.n-1},a,.nil,true)::yE (gF p):=by
 unfold mH;rw[ei h,u9];rfl
theorem IK:∀(l:List Dq) (k:Nat),(∀j q,j<k->l[j]?=some q->q.2.2.2=false)->(∀q,l[k]?=some q->q.2.2.2=true)->k<=l.length->uo l=l.drop (k+1)
 | [],k,_,_,_=>by simp[uo]
 | q::l,0,_,h,_=>by
  simp_all[Dq,uo]
 | q::l,k+1,h1,h2,h3=>by
  have:=h1 0 q bM rfl
  show(if q.2.2.2=true then l else uo l)=_
  rw[ei cJ,IK l k (λj u E B=>h1 (j+1) u bM B) (λu B=>h2 u B) cJ]
  rfl
theorem Gs.tail{q:Bk×Bool}(h:Gs (q::p)):Gs p:=λr u=>h r (pd _ u)
theorem Gs.push(h:Gs p):Gs (jn b false p):=by
 cases b with
 | nil=>exact h
 | cons x a c r=>
  grind[Gs,jn]
theorem Gs.pop(h:Gs p):Gs (gF p):=by
 match p,h with
 | [],h=>exact h
 | (.nil,_)::p,h=>exact h.tail
 | (.cons x a b r,_)::p,h=>exact h.tail.push
theorem Gs.leave:∀{p:PD},Gs p->Gs (kr p)
 | [],h=>h
 | (_,e)::p,h=>by
  unfold kr;split
  .exact h.tail
  .exact h.tail.leave
theorem Gs.round(h:Gs p):Gs (mH x a p):=by
 unfold mH;split
 .exact h.pop
 refine Gs.push λq u B=>?_
 rcases sk.1 u with rfl|u
 .grind
 exact h.pop q u B
theorem Ud:∀(e:Bool) (b:Bk),(GO e b).length<=lX b
 | _,.nil=>la _
 | _,.cons x a b r=>by have:=Ud false r;simp only[GO,ob];rw[sM];omega
theorem Gt:∀p:PD,(yE p).length<=g8 p
 | []=>la _
 | q::p=>by have:=Gt p;have:=Ud q.2 q.1;rw[pW];show(GO q.2 q.1++yE p).length<=_;grind
end
structure Mo(m:Mem):Prop where
 l:yM m.l
 k:yM m.kept
 f:yM m.dZ
 p:∀k,∀x∈m.fF k,eX x.n
theorem Gu:∀{ws:List kh}{k:List Int},yM k->(∀x∈ws,eX x.n)->yM (nK k ws)
 | [],k,u,_=>u
 | w::ws,k,u,h=>by
  show yM (nK (k.set w.cell.toNat w.n) ws)
  exact Gu (u.set (h w (oi ..))) λx B=>h x (pd _ B)
section
variable {m:Mem}
theorem Mo.write(h:Mo m){c n:Int}(B:eX n):Mo (fh m c n):=by
 unfold fh
 split
 .refine⟨h.l.set B,h.k,h.f,λk x u=>?_⟩
  dsimp only at u
  split at u
  .rcases El u with h1|h1
   .rcases oF.1 h1 with h2|h2
    .exact h.p _ x h2
    grind
   exact h.p _ x h1
  exact h.p _ x u
 exact h
theorem Mo.out(h:Mo m){n:Int}:Mo (oe m n):=by
 unfold oe
 split
 .refine⟨h.l,Gu h.k (h.p _),h.f,λk x u=>?_⟩
  rcases El u with h1|h1
  .cases h1
  exact h.p _ x h1
 exact h
theorem Ou(h:Mo m)(cut:List Int):∀k,yM (oI m cut k)
 | 0=>h.k
 | k+1=>by
  have u:=Ou h cut k
  unfold oI at u |-
  rw[List.range_succ,List.foldl_append]
  exact Gu u λx B=>h.p _ x (List.mem_of_mem_take B)
theorem Mo.asY(h:Mo m){cut u:List Int}(hi:fo m cut=some u):Mo (mG m u):=by
 have B:yM u:=by
  unfold fo at hi
  split at hi
  .cases hi;exact Ou h cut _
  .cases hi
 refine⟨λv E=>?_,B,h.f,λk x G=>by cases G⟩
 rcases oF.1 (show v∈u++m.dZ.drop u.length from E)with h1|h1
 .exact B v h1
 exact h.f v (List.mem_of_mem_drop h1)
theorem abq(h:Mo m)(c:Int):eX (jA m c):=by
 unfold jA
 split
 .rw[n0]
  cases hg:m.l[c.toNat]? with
  | none=>exact iD
  | some v=>exact h.l v (kp hg)
 exact iD
end
theorem abr{l:List bI}{c:Int}(h:∀y∈l,eX y.n):eX ((ly l c).getD 0):=by
 unfold ly
 cases hf:l.reverse.find? (λx=>decide (x.kind=3/\x.cell=c))with
 | none=>exact iD
 | some y=>grind
theorem V5{l:List bI}{i:Int}(h:∀y∈l,eX y.n):eX (dH l i).n:=by
 unfold dH
 split
 .cases hg:l[i.toNat]? with
  | none=>exact iD
  | some y=>grind
 exact iD
def V6{l:List bI}{i:Int}{y:bI}(h:y∈jO l i):y∈l:=by
 unfold jO at h
 split at h
 .exact List.mem_of_mem_eraseIdx h
 exact h
def abt{room:Int}{l:List bI}{x y:bI}(h:y∈sJ room l x):y∈l\/y=x:=by
 unfold sJ at h
 grind
structure B7(t:jS):Prop where
 r:yM t.dQ
 b:∀y∈t.buf,eX y.n
def afD{ns:List ByteArray}{nums:List Int}{xs:List bZ}(h:yM nums):eX (qO ns nums xs).1:=by
 unfold qO
 repeat' split
 .exact afC h
 .exact iD
 exact iD
def KF{t:jS}{xs:List bZ}(h:yM t.dQ):eX (eH t xs).1:=by
 unfold eH;split
 .exact iD
 exact afD h
def B7.goS{t:jS}(h:B7 t):B7 (qI t).1:=by
 unfold qI
 split
 .exact h
 split
 .unfold qH
  repeat' split
  all_goals first|exact⟨h.r.set (KF h.r),h.b⟩|exact⟨h.r,h.b⟩
 exact⟨h.r,h.b⟩
theorem B7.goF:∀(n:Nat) {t tR:jS},B7 t->ti n t=some tR->B7 tR
 | 0,_,_,_,u=>by cases u
 | n+1,t,tR,h,u=>by
  unfold ti at u
  split at u
  .exact B7.goF n h.goS u
  .cases u;exact h.goS
theorem B7.go{t:jS}(h:B7 t):B7 (goD t):=by
 unfold goD
 cases hg:ti (g8 t.cD+1) t with
 | none=>exact h
 | some tR=>exact B7.goF _ h hg
def B7.th(t:cM):B7 (Vv t):=B7.go ⟨λv u=>by rw[(List.mem_replicate.1 u).2];exact iD,λy B=>by cases B⟩
structure Ov(m:gl):Prop where
 th:∀t∈m.l,B7 t
 mem:Mo m.mem
section
variable {m:gl}{t:jS}
theorem abu{i:Int}{x:bP}(h:Mo m.mem)(h2:B7 t):B7 (dY m t i x).2.1/\Mo (dY m t i x).1.mem:=by
 have J:=λc=>abq h c
 have I:∀c,eX (im m t c):=λc=>by
  unfold im
  split
  .exact abr h2.b
  grind
 have B:∀y:bI,eX y.n->B7 (pX m t y):=λy M=>⟨h2.r,λz E=>by
  rcases abt E with h3|h3
  .exact h2.b z h3
  grind⟩
 have hc:Mo (rG m t x).mem:=by
  unfold rG;split
  .exact h.write (KF h2.r)
  .exact h
 have u:∀n,eX n->B7 (pg t x.eD n):=λn G=>⟨h2.r.set G,h2.b⟩
 unfold dY
 repeat' split
 all_goals first
  | exact⟨u _ (I _),h⟩
  | exact⟨B _ (KF h2.r),h⟩
  | exact⟨B _ iD,h⟩
  | exact⟨h2,h⟩
  | exact⟨u _ (J _),hc⟩
theorem Ov.step{i:Int}(h:Ov m):Ov (iy m i).1:=by
 unfold iy
 split
 .exact h
 rename_i t ht
 have B:=h.th t (kp ht)
 split
 .exact⟨h.th,h.mem⟩
 split
 .exact h
 rename_i x _ _ _
 split
 .exact⟨h.th,h.mem⟩
 obtain⟨h1,h2⟩:=abu (i:=i) (x:=x) h.mem B
 refine⟨λt' u=>?_,h2⟩
 rcases u6 u with rfl|h3
 .exact B7.go ⟨h1.r,h1.b⟩
 exact h.th t' h3
theorem Ov.out{q:aS}(h:Ov m)(ht:m.l[q.t.toNat]?=some t):Ov (tj m t q):=by
 have h2:=h.th t (kp ht)
 refine⟨λt' u=>?_,?_⟩
 .rcases u6 u with rfl|h3
  .exact⟨h2.r,λy B=>h2.b y (V6 B)⟩
  exact h.th t' h3
 show Mo (jP m.mem (dH t.buf q.i))
 unfold jP
 split
 .exact h.mem.write (V5 h2.b)
 split
 .exact h.mem
 exact h.mem.out
theorem Ov.begin{l:List cM}(h:Mo m.mem):Ov (qR m l):=⟨λt ht=>by
 obtain⟨u,_,rfl⟩:=n5.1 (show t∈l.map Vv from ht);exact B7.th u,h⟩
theorem Ov.do{q:aS}(h:Ov m):Ov (pk m q).1:=by
 unfold pk
 cases hi:iQ m q with
 | some u=>
  have B:fo m.mem q.cut=some u:=by unfold iQ at hi;grind
  exact Ov.begin (m:=pj m u) (h.mem.asY B)
 | none=>
  dsimp only
  split
  .split
   .split
    .rename_i t ht;exact h.out ht
    .exact h
   .exact h.step
  .exact h
end
def Ow(NI:Option Addr)(I B:Nat)(Y:Option Addr)(O G:Nat)(NK:Option Addr)(E u:Nat)(NL:Option Addr)(Z U:Nat)(V:Option Addr)(NQ NR:Nat)(W:Option Addr)(J M:Nat)(a1:Int)(a3:Option Addr):pr g6 (l1 44 [(0,.agg [.slice NI I B,.slice Y O G,.slice NK E u,.slice NL Z U,.slice V NQ NR,.slice W J M].toArray),(1,hH a1),(3,.pointer a3)].toArray)=some (.agg [.slice NI I B,.slice Y O G,.slice NK E u,.slice NL Z U,.slice V NQ NR,.slice W J M,hH a1,hH 0,.pointer a3,.slice none 0 0,.slice none 0 0,hH 0,hH 0].toArray):=by kernel_rfl
def xS(E:Option Addr)(I u:Nat)(J:Option Addr)(G B:Nat)(U:Option Addr)(O V:Nat)(M:Option Addr):pr g6 (l1 132 [(0,.slice E I u),(1,.slice J G B),(2,.slice U O V),(3,.pointer M)].toArray)=some (.agg [.slice E I u,.slice J G B,.slice U O V,.pointer M,hH 0].toArray):=by kernel_rfl
def KG(NI:Int)(O:ByteArray)(NK:ByteArray)(V:Option Addr)(U G:Nat)(J:Option Addr)(NQ W:Nat)(M:Int)(B:Int)(E:Int)(u:Int)(Y:Option Addr)(n1 c1:Nat)(a2:Option Addr)(Z I:Nat):pr g6 (l1 218 [(0,.agg [hH NI,.string O,.string NK,.slice V U G,.slice J NQ W,hH M,hH B,hH E,hH u].toArray),(1,.slice Y n1 c1),(2,.slice a2 Z I)].toArray)=some (.agg [hH NI,.string O,.string NK,.slice V U G,.slice J NQ W,hH M,hH B,hH E,hH u,.slice Y n1 c1,.slice a2 Z I,.bool false].toArray):=by kernel_rfl
structure pA where
 x:bE
 body:SV
 et:SV
 in_:Bool
instance:Flat pA where
 agg:=true
 sz:=12
 enc e:=[hH e.x.kind,.string e.x.eD,.string e.x.name,.slice e.x.e.a e.x.e.n e.x.e.cap,.slice e.x.f.a e.x.f.n e.x.f.cap,hH e.x.n,hH e.x.body,hH e.x.et,hH e.x.at_,.slice e.body.a e.body.n e.body.cap,.slice e.et.a e.et.n e.et.cap,.bool e.in_]
 val e:=.agg [hH e.x.kind,.string e.x.eD,.string e.x.name,.slice e.x.e.a e.x.e.n e.x.e.cap,.slice e.x.f.a e.x.f.n e.x.f.cap,hH e.x.n,hH e.x.body,hH e.x.et,hH e.x.at_,.slice e.body.a e.body.n e.body.cap,.slice e.et.a e.et.n e.et.cap,.bool e.in_].toArray
 pos:=dC
 len _:=rfl
 one a v h:=by simp at h;rcases h with rfl|rfl|rfl|rfl|rfl|rfl|rfl|rfl|rfl|rfl|rfl|rfl<;>rfl
 nV _ _:=rfl
 nW h:=by cases h
variable (w:World) (K:Value->g7)
def S128(B:Value):Prop:=
 bS 130 0 [] w λa b=>oN (λG I E c=>∀_:Env,
 lN 141 B λd=>bA .lss 3 E d λe=>cV e (iA 141 B E λf=>lA 193 f c λg=>aL 193 c λh j=>sA 193 h g j λk=>bB .add 3 E (i 1) λl=>fA 193 h 6 λn=>lA 3 n k λo=>
 bA .add 3 l o λp=>fA 193 h 7 λq=>lA 3 q k λr=>bA .add 3 p r λs=>lA 193 h (drew k) λt=>bB .add 3 E (i 1) λu=>eT g6 (nT 141 B (some u) (some p) none) λv=>
 eT g6 (nT 141 B (some p) (some s) none) λx=>eT g6 (l1 218 [(0,t),(1,v),(2,x)].toArray) λy=>bS 130 1 [(0,y)] (drew k) λz M=>
 aP 130 I z M λO J=>G O s J) (K I c)) (λG=>G a (i 0) b)
def azR:dJ:=λi=>match i with
 | 6=>.run 0 15
 | _=>.nil
theorem afE(u:Value)(h:S128 w K u):CR 128 [u] w K:=
 qm 42 azR 4 [.tmp 2] Tryz.func128 h
def S13(p0 U:Value):Prop:=
 qW g6 (yB 27 p0) w λp2 a=>lA 27 p2 a λb=>cF 57 [b] a λc d=>xT c 0 λe=>xT c 1 λ_=>bB .neq 31 e (i 0) λf=>cV f (K (.tuple #[(.pointer none),e]) d) (
 cF 58 [U] d λg h=>xT g 0 λ_=>xT g 1 λj=>bB .neq 31 j (i 0) λk=>cV k (K (.tuple #[(.pointer none),j]) h) (bS 41 0 [] h λl n=>oN (λI E B o=>∀_:Env,
 lA 27 p2 o λp=>cF 59 [p] o λq r=>lN 23 q λs=>bA .lss 3 B s λt=>cV t (lA 27 p2 r λu=>cF 60 [u,B] r λv x=>bS 41 1 [(0,v)] x λy z=>aP 41 E y z λaa ab=>
 bB .add 3 B (i 1) λZ=>I aa Z ab) (lA 27 p2 (drew r) λad=>lA 27 p2 (drew r) λM=>cF 62 [ad] (drew r) λaf W=>kA 27 p2 M W (cF 63 [M] W λah ai=>cF 61 [E,af,ah] ai λY J=>
 xT Y 0 λal=>xT Y 1 λ_=>lA 27 p2 J λam=>eT g6 (l1 44 [(0,am),(1,U),(3,al)].toArray) λan=>qW g6 (yB 44 an) J λO V=>
 fA 27 p2 3 λaq=>lA 24 aq V λar=>cF 64 [O,ar] V λ_ G=>K (.tuple #[O,(i 0)]) G))) λI=>I l (i 0) n))
def P13:dJ:=λi=>match i with
 | 12=>(.of [(0,[]),(1,[]),(3,[]),(2,[3]),(4,[]),(5,[]),(6,[]),(7,[]),(8,[]),(9,[]),(10,[])])
 | _=>.nil
theorem alL(p0 u:Value)(h:S13 w K p0 u):CR 13 [p0,u] w K:=
 qm 64 P13 48 [.tmp 4,.tmp 5] Tryz.func13 h
def azS:dJ:=λi=>match i with
 | 3=>.run 0 15
 | _=>.nil
def S129(B:Value):Prop:=
 R5 (λI a=>∀_:Env,
 nC B λb=>fA 132 b 0 λc=>lA 130 c a λd=>lN 130 d λe=>bB .gtr 3 e (i 0) λf=>cV f (nC B λg=>fA 132 g 0 λh=>lA 130 h a λj=>iA 130 j (i 0) λk=>lA 218 k a λl=>
 aL 218 a λG n=>sA 218 G l n λo=>fA 218 G 0 λp=>fA 193 p 3 λq=>lA 82 q o λr=>cF 203 [B,r] o λs t=>xT s 0 λu=>xT s 1 λv=>fA 218 G 0 λx=>fA 193 x 4 λy=>
 lA 82 y t λz=>cF 203 [B,z] t λaa ab=>xT aa 0 λ_=>xT aa 1 λac=>eS (λK2=>eT g6 (Op.unary .not v) λad=>cV ad (K2 tt ab) (eT g6 (Op.unary .not ac) λae=>
 K2 ae ab)) (λaf E=>∀_:Env,
 cV af (nC B λah=>fA 132 ah 4 λai=>sA 3 ai (i 2) E λaj=>K (.tuple #[]) aj) (fA 218 G 0 λak=>fA 193 ak 0 λal=>lA 3 al E λJ=>bB .eql 3 J (i 1) λan=>
 cV an (fA 218 G 0 λao=>fA 193 ao 1 λap=>lA 9 ap E λaq=>cF 204 [B,aq,u] E λ_ ar=>cF 171 [B,(.slice none 0 0)] ar λ_ W=>I W) (bB .eql 3 J (i 11) λau=>
 cV au (bB .neq 3 u (i 0) λav=>cV av (fA 218 G 1 λaw=>lA 141 aw E λax=>cF 128 [ax] E λay az=>cF 171 [B,ay] az λ_ a0=>I a0) (fA 218 G 2 λa1=>lA 141 a1 E λa2=>
 cF 128 [a2] E λa3 a4=>cF 171 [B,a3] a4 λ_ a5=>I a5)) (bB .eql 3 J (i 12) λa6=>cV a6 (bS 130 0 [] E λa7 V=>eS (λK3=>fA 218 G 0 λa9=>fA 193 a9 5 λba=>
 lA 3 ba V λbb=>bB .gtr 3 bb (i 0) λbc=>cV bc (lA 218 G V λbd=>aL 218 V λO be=>sA 218 O bd be λbf=>fA 218 G 0 λbg=>fA 193 bg 5 λbh=>lA 3 bh bf λbi=>
 bB .sub 3 bi (i 1) λbj=>fA 218 O 0 λbk=>fA 193 bk 5 λbl=>sA 3 bl bj bf λbm=>fA 218 O 3 λbn=>sA 4 bn tt bm λbo=>fA 218 G 1 λbp=>lA 141 bp bo λbq=>
 cF 128 [bq] bo λbr bs=>aP 130 a7 br bs λbt Z=>lA 218 O Z λbv=>bS 130 1 [(0,bv)] Z λbw bx=>aP 130 bt bw bx λbz b0=>K3 bz b0) (K3 a7 V)) (λl7 b1=>∀_:Env,
 cF 171 [B,l7] b1 λ_ b2=>I b2)) (bB .eql 3 J (i 13) λb3=>cV b3 (kG (λY U b4=>∀_:Env,
 eS (λK5=>nC B λb5=>fA 132 b5 0 λb6=>lA 130 b6 b4 λb7=>lN 130 b7 λb8=>bA .lss 3 U b8 λb9=>cV b9 (nC B λca=>fA 132 ca 0 λcb=>lA 130 cb b4 λcc=>
 iA 130 cc U λcd=>fA 218 cd 3 λce=>lA 4 ce b4 λcf=>eT g6 (Op.unary .not cf) λcg=>K5 cg b4) (K5 ff b4)) (λch M=>∀_:Env,
 cV ch (bB .add 3 U (i 1) λcj=>Y cj M) (nC B λck=>fA 132 ck 0 λcl=>lA 130 cl (drew M) λcm=>bB .add 3 U (i 1) λcn=>nC B λco=>fA 132 co 0 λcp=>lA 130 cp (drew M) λcq=>
 lN 130 cq λcr=>eT g6 (Builtin.min_ #[3,3] 3 [cn,cr].toArray) λcs=>eT g6 (nT 130 cm (some cs) none none) λct=>nC B λcu=>fA 132 cu 0 λcv=>
 sA 130 cv ct (drew M) λcw=>I cw))) λY=>Y (i 0) E) (bB .eql 3 J (i 14) λcx=>cV cx (bB .eql 3 u (i 0) λcy=>cV cy (nC B λcz=>fA 132 cz 4 λc0=>sA 3 c0 (i 1) E λc1=>
 K (.tuple #[]) c1) (cF 171 [B,(.slice none 0 0)] E λ_ c2=>I c2)) (K (.tuple #[]) E)))))))) (K (.tuple #[]) a)) (λI=>I w)
def azT:dJ:=λi=>match i with
 | 27=>.run 0 17
 | _=>.nil
theorem afF(u:Value)(h:S129 w K u):CR 129 [u] w K:=
 qm 148 azT 0 [] Tryz.func129 h
def P80:dJ:=λi=>match i with
 | 7=>.run 0 14
 | 8=>(.of [(0,[]),(1,[]),(2,[]),(3,[]),(4,[]),(5,[]),(6,[]),(7,[]),(8,[]),(9,[]),(10,[]),(11,[]),(12,[]),(13,[]),(14,[]),(15,[]),(16,[]),(17,[]),(18,[]),(19,[]),(20,[]),(21,[]),(23,[]),(24,[]),(22,[17,24]),(25,[17]),(26,[]),(27,[]),(28,[]),(29,[]),(30,[]),(31,[])])
 | _=>.nil
def S169(V I a E:Value):Prop:=
 qW g6 (yB 193 a) w λb c=>aL 56 c λd e=>fA 193 b 3 λf=>lA 82 f e λg=>cF 203 [I,g] e λh j=>xT h 0 λk=>xT h 1 λ_=>fA 193 b 4 λl=>lA 82 l j λn=>
 cF 203 [I,n] j λo p=>xT o 0 λq=>xT o 1 λ_=>nC I λs=>fA 132 s 3 λt=>lA 103 t p λu=>cF 229 [u,E] p λv x=>xT v 0 λy=>xT v 1 λz=>eS (λK1=>
 eT g6 (Op.unary .not z) λaa=>cV aa (nC V λab=>fA 44 ab 3 λac=>lA 40 ac x λad=>nC ad λae=>fA 122 ae 2 λaf=>lA 41 af x λag=>iA 41 ag E λah=>
 lA 3 ah x λai=>K1 ai x) (K1 y x)) (λB Z=>∀_:Env,
 fA 193 b 1 λak=>lA 9 ak Z λal=>cF 204 [I,al,B] Z λ_ G=>fA 193 b 0 λan=>lA 3 an G λao=>bB .eql 3 ao (i 2) λap=>cV ap (cV z (eT g6 (l1 56 [(0,(i 2)),(2,E),(3,B)].toArray) λaq=>
 sA 56 d aq G λY=>lA 56 d Y λr=>K r Y) (eT g6 (l1 56 [(0,(i 1)),(2,E),(3,B)].toArray) λJ=>sA 56 d J G λU=>lA 56 d U λJc=>K Jc U)) (
 bA .neq 3 B k λav=>cV av (eT g6 (l1 56 [(0,(i 9)),(2,E),(3,B)].toArray) λaw=>sA 56 d aw G λO=>lA 56 d O λPl=>K Pl O) (nC V λay=>
 fA 44 ay 3 λaz=>lA 40 az G λa0=>cF 166 [a0,E,q] G λ_ a1=>eT g6 (l1 56 [(0,(i 8)),(2,E),(3,B),(4,q)].toArray) λa2=>sA 56 d a2 a1 λW=>
 lA 56 d W λM=>K M W)))
theorem afG(G B E u:Value)(h:S169 w K G B E u):CR 169 [G,B,E,u] w K:=
 qm 82 (λ_=>.nil) 256 [.cell 8 56] Tryz.func169 h
def S96(E M:Value):Prop:=
 aL 56 w λa b=>nC E λc=>fA 44 c 5 λd=>lA 42 d b λe=>iA 42 e M λf=>lA 129 f b λg=>nC g λh=>fA 132 h 4 λj=>lA 3 j b λk=>bB .neq 3 k (i 0) λl=>
 cV l (nC g λn=>fA 132 n 4 λo=>lA 3 o b λp=>cF 168 [E,M,p] b λq s=>sA 56 a q s λt=>lA 56 a t λr=>K r t) (nC g λu=>fA 132 u 0 λv=>lA 130 v b λx=>
 iA 130 x (i 0) λy=>fA 218 y 0 λz=>lA 193 z b λaa=>eT g6 (l1 56 [].toArray) λab=>aL 193 b λJ ad=>aL 56 ad λI ae=>sA 193 J aa ae λaf=>
 sA 56 I ab af λO=>nC E λah=>fA 44 ah 0 λai=>lA 27 ai (drew O) λaj=>fA 193 J 2 λak=>lA 9 ak (drew O) λal=>nC E λam=>fA 44 am 0 λan=>lA 27 an (drew O) λao=>
 fA 193 J 2 λY=>lA 9 Y (drew O) λZ=>cF 124 [aj] (drew O) λar G=>kA 9 ak al G (kA 27 an ao G (kA 9 Y Z G (cF 123 [ar,al] G λau av=>kA 27 an ao av (kA 9 Y Z av (
 cF 125 [ao] av λaw ax=>kA 9 Y Z ax (cF 123 [aw,Z] ax λW az=>yS (λV=>fA 193 J 0 λa0=>lA 3 a0 az λU=>eS (λK2=>bB .eql 3 U (i 2) λa2=>cV a2 (
 K2 a2 az) (bB .eql 3 U (i 4) λa3=>K2 a3 az)) (λa4 B=>∀_:Env,
 cV a4 (lA 193 J B λa6=>cF 169 [E,g,a6,au] B λa7 a8=>sA 56 I a7 a8 λa9=>V a9) (bB .eql 3 U (i 8) λba=>cV ba (fA 56 I 0 λbb=>sA 3 bb (i 7) B λbc=>
 V bc) (bB .eql 3 U (i 9) λbd=>cV bd (nC E λbe=>fA 44 be 4 λbf=>lA 41 bf B λbg=>iA 41 bg W λbh=>sA 3 bh M B λbi=>eT g6 (l1 56 [(0,(i 10)),(2,W)].toArray) λbj=>
 sA 56 I bj bi λbk=>V bk) (bB .eql 3 U (i 10) λbl=>cV bl (nC E λbm=>fA 44 bm 4 λbn=>lA 41 bn B λbo=>iA 41 bo W λbp=>lA 3 bp B λbq=>bA .neq 3 bq M λbr=>
 cV br (cF 168 [E,M,(i 3)] B λbs bt=>sA 56 a bs bt λbu=>lA 56 a bu λJc=>K Jc bu) (nC E λbv=>fA 44 bv 4 λbw=>lA 41 bw B λbx=>iA 41 bx W λbz=>sA 3 bz (i (-1)) B λb0=>
 eT g6 (l1 56 [(0,(i 11)),(2,W)].toArray) λb1=>sA 56 I b1 b0 λb2=>V b2)) (lA 193 J (drew B) λb3=>nC E λb4=>fA 44 b4 0 λb5=>lA 27 b5 (drew B) λb6=>
 cF 60 [b6,au] (drew B) λb7 b8=>kA 193 J b3 b8 (cF 170 [E,g,b3,au,b7] b8 λb9 ca=>sA 56 I b9 ca λcb=>V cb))))))) (λcc=>∀_:Env,
 fA 56 I 1 λcd=>sA 3 cd M cc λce=>cF 171 [g,(.slice none 0 0)] ce λ_ cf=>cF 129 [g] cf λ_ cg=>lA 56 I cg λch=>sA 56 a ch cg λci=>lA 56 a ci λPl=>K Pl ci))))))))
def P96:dJ:=λi=>match i with
 | 5=>(.of [(0,[]),(1,[]),(2,[]),(3,[]),(5,[]),(6,[]),(8,[]),(9,[]),(10,[]),(11,[]),(13,[]),(14,[]),(4,[6,11,14]),(7,[11,14]),(12,[14]),(15,[]),(16,[]),(17,[])])
 | 7=>(.of [(0,[]),(1,[]),(2,[]),(3,[]),(4,[]),(5,[]),(6,[]),(7,[]),(8,[]),(9,[2]),(10,[]),(11,[])])
 | _=>.nil
theorem alM(B u:Value)(h:S96 w K B u):CR 96 [B,u] w K:=
 qm 117 P96 16 [.cell 4 56] Tryz.func96 h
def P95:dJ:=λi=>match i with
 | 3=>.run 0 9
 | 7=>.run 0 7
 | _=>.nil
def P25:dJ:=λi=>match i with
 | 2=>.run 0 12
 | 5=>.run 0 7
 | 15=>.run 0 34
 | _=>.nil
def S64(B U:Value):Prop:=
 nC B λa=>fA 44 a 5 λb=>sA 42 b (.slice none 0 0) w λc=>nC B λd=>fA 44 d 4 λe=>sA 41 e (.slice none 0 0) c λf=>kG (λK1 i4 g=>∀_:Env,
 nC B λh=>fA 44 h 0 λj=>fA 27 j 2 λk=>lA 23 k g λl=>lN 23 l λn=>bA .lss 3 i4 n λo=>cV o (nC B λp=>fA 44 p 4 λq=>lA 41 q g λr=>bS 41 1 [(0,(i (-1)))] g λs t=>
 aP 41 r s t λu v=>nC B λx=>fA 44 x 4 λy=>sA 41 y u v λz=>bB .add 3 i4 (i 1) λaa=>K1 aa z) (kG (λK2 M ab=>∀_:Env,
 lN 24 U λac=>bA .lss 3 M ac λad=>cV ad (yS (λK3=>nC B λae=>fA 44 ae 1 λaf=>lA 3 af ab λag=>cF 58 [ag] ab λah I=>xT ah 0 λaj=>xT ah 1 λ_=>
 eS (λK4=>iA 24 U M λak=>fA 146 ak 2 λal=>lA 141 al (drew I) λV=>iA 24 U M λan=>fA 146 an 1 λJ=>lA 91 J (drew I) λG=>iA 24 U M λaq=>fA 146 aq 1 λZ=>
 lA 91 Z (drew I) λE=>lN 91 E λO=>((cF 128 [V] (drew I) λav aw=>kA 91 J G aw (kA 91 Z E aw (qW g6 (NZ 41 O O) aw λax ay=>kA 141 al V ay (
 kA 91 J G ay (eT g6 (l1 132 [(0,av),(1,G),(2,ax),(3,aj)].toArray) λaz=>qW g6 (yB 132 az) ay λa0 a1=>K4 a0 a1)))))
 /\((qW g6 (NZ 41 O O) (drew I) λa2 Y=>kA 141 al V Y (kA 91 J G Y (cF 128 [V] Y λa4 W=>kA 91 J G W (kA 91 Z E W (eT g6 (l1 132 [(0,a4),(1,G),(2,a2),(3,aj)].toArray) λa6=>
 qW g6 (yB 132 a6) W λa7 a8=>K4 a7 a8)))))
 /\
 True))) (λt8 a9=>∀_:Env,
 cF 129 [t8] a9 λ_ ba=>nC B λbb=>fA 44 bb 5 λbc=>lA 42 bc ba λbd=>bS 42 1 [(0,t8)] ba λbe bf=>aP 42 bd be bf λbg bh=>nC B λbi=>fA 44 bi 5 λbj=>sA 42 bj bg bh λbk=>
 K3 bk)) (λbl=>∀_:Env,
 bB .add 3 M (i 1) λbm=>K2 bm bl)) (K (.tuple #[]) ab)) λK2=>K2 (i 0) g)) (λK1=>K1 (i 0) f)
def P64:dJ:=λi=>match i with
 | 10=>(.op 0 [] (.op 1 [] (.op 2 [] (.op 3 [] (.op 4 [] (.op 6 [] (.op 7 [] (.op 8 [] (.op 9 [] (.op 10 [] (.op 11 [] (.op 12 [] (.op 13 [] (.op 14 [] (.op 15 [] (.op 16 [] (.op 18 [] (.alt 5 [10,15] (.of [(17,[4,10]),(19,[]),(20,[]),(21,[])]) (.alt 17 [4,10] (.of [(5,[10,15]),(19,[]),(20,[]),(21,[])]) .stop)))))))))))))))))))
 | _=>.nil
theorem alN(B u:Value)(h:S64 w K B u):CR 64 [B,u] w K:=
 qm 81 P64 0 [] Tryz.func64 h
theorem Ox:PL 128:=dL Tryz.func128
theorem azU:PL 13:=dL Tryz.func13
theorem Oy:PL 203:=dL Tryz.func203
theorem ah4:PL 204:=dL Tryz.func204
theorem IL:PL 171:=dL Tryz.func171
theorem ah5:PL 129:=dL Tryz.func129
theorem azV:PL 80:=dL Tryz.func80
theorem as4:PL 22:=dL Tryz.func22
theorem azW:PL 18:=dL Tryz.func18
theorem ah6:PL 168:=dL Tryz.func168
theorem as5:PL 170:=dL Tryz.func170
theorem as6:PL 169:=dL Tryz.func169
theorem azX:PL 96:=dL Tryz.func96
theorem azY:PL 95:=dL Tryz.func95
theorem azZ:PL 25:=dL Tryz.func25
theorem as7:PL 64:=dL Tryz.func64
end Go.Proofs.YtpdlpabnlkofmaaGreatDoor
namespace Go.Proofs.YtpdlpabnlkofmaaGreatDoor
open Go.Fw
def Gv{α:Type}[Flat α]{P:Program}{S:Nat->Prop}{Wd:g7}{w0:World}{xs:List α}{T E V:Nat}{z:Option Nat}{v:Value}{i:Int}{x:α}{K:Value->Prop}(ht:eM P T=some (E,l2 α,V,z))(h:∀w,Wd w->cZ S w v xs)(Y:Wd w0)(Z:0<=i)(u:xs[i.toNat]?=some x)
  (k:∀p,(∀w,Wd w->At S w p x)->K p):eT P (FP T v (hH i)) K:=by
 obtain⟨a,cap,rfl,AF,h3⟩:=h w0 Y
 have nM:i.toNat<xs.length:=(j0.1 u).1
 rcases h3 with⟨rfl,_⟩|⟨b,o,rfl,h4,_⟩
 .simp at u
 obtain⟨U,O,hi,oK,_⟩:=fp ht
 refine⟨.pointer (some ⟨b,o+i.toNat*l2 α,none⟩),?_,k _ λw' G=>⟨b,_,rfl,h4 cJ,λj c J=>?_⟩⟩
 .unfold FP
  rw[cT]
  show pr P _=_
  simp only[asIntOf]
  have M:pr P (underlying T)=some (.slice E):=cS U
  have I:pr P (sizeOf E)=some (l2 α):=by rw[mR hi,oK]
  simp only[cT,M,I,ma,fP]
  have W:0<=i/\i<(xs.length:Int):=⟨Z,bM⟩
  simp only[ej W,cT,I,ma,fP,gK]
 obtain⟨a',Du,B,_,h6⟩:=h w' G
 cases B
 rcases h6 with⟨rfl,_⟩|⟨b',o',B,_,h5⟩
 .simp at u
 cases B
 have:=h5 (i.toNat*l2 α+j) c (rT u J)
 grind
def pG(ws:List mV)(m:Mem):Prop:=(∀n,m.fF n=(ws.filter λx=>decide (x.line=n)).map λx=>⟨x.cell,x.n⟩)/\∀x∈ws,0<=x.cell/\m.of[x.cell.toNat]?=some x.line
def gy(p:Nat)(m:Mem):HP:=pK λq:Value×Value×Value×Value×Value=>pK λws:List mV=>fact (pG ws m) (sep (bY p [q.1,q.2.1,q.2.2.1,q.2.2.2.1,q.2.2.2.2]) (sep (bH q.1 m.of) (sep (bH q.2.1 m.dZ) (sep (bH q.2.2.1 m.l) (sep (bH q.2.2.2.1 m.kept) (bH q.2.2.2.2 ws))))))
structure xU(w:World)(p:Nat)(m:Mem):Prop where
 ex:∃ov fv lv kv wv ws,pG ws m/\qd w p [ov,fv,lv,kv,wv]/\cZ (λ_=>True) w ov m.of/\cZ (λ_=>True) w fv m.dZ/\cZ (λ_=>True) w lv m.l/\cZ (λ_=>True) w kv m.kept/\cZ (λ_=>True) w wv ws
section
variable {w w0:World}{A:Nat->Prop}{R:List HP}{p:Nat}{m:Mem}{ov fv lv kv wv:Value}{ws:List mV}
theorem gy.shut(h:pG ws m)(u:St w0 A (bY p [ov,fv,lv,kv,wv]::bH ov m.of::bH fv m.dZ::bH lv m.l::bH kv m.kept::bH wv ws::R) w):St w0 A (gy p m::R) w:=by
 have h5:=St.join u.p5.p5
 have h4:=St.join h5.p4
 have h3:=St.join h4.p3
 have h2:=St.join h3.p2
 have h1:=St.join h2.p1
 exact St.eh (ov,fv,lv,kv,wv) (St.eh ws (St.oz h h1))
theorem gy.open(u:St w0 A (gy p m::R) w):∃ov fv lv kv wv ws,pG ws m/\St w0 A (bY p [ov,fv,lv,kv,wv]::bH ov m.of::bH fv m.dZ::bH lv m.l::bH kv m.kept::bH wv ws::R) w:=by
 obtain⟨⟨ov,fv,lv,kv,wv⟩,u⟩:=u.eg;obtain⟨ws,u⟩:=u.eg;obtain⟨B,u⟩:=u.mq
 have h1:=u.split
 have h2:=h1.p1.split
 have h3:=h2.p1.split
 have h4:=h3.p1.split
 have h5:=h4.p1.split
 exact⟨ov,fv,lv,kv,wv,ws,B,h5.p2.p3.p4.p5⟩
end
def Gw{w:World}{p:Nat}{m:Mem}(h:Has (gy p m) w):xU w p m:=by
 obtain⟨F,u⟩:=h.st
 obtain⟨ov,fv,lv,kv,wv,ws,B,u⟩:=gy.open u
 exact⟨ov,fv,lv,kv,wv,ws,B,u.hb,u.p1.dS,u.p2.dS,u.p3.dS,u.p4.dS,u.p5.dS⟩
def Gx{α β:Type}[Flat α][Flat β]{P:Program}{S:Nat->Prop}{Wd:g7}{w0:World}{T f u:Nat}{p:Value}{x:α}(y:β){K:Value->Prop}(ht:wG P T f u)(h:∀w,Wd w->At S w p x)(B:Wd w0)(M:(hZ x)[u]?=some (hM y))(I:Flat.agg β=false)
  (k:∀q,(∀w,Wd w->At S w q y)->K q):eT P (Instr.fieldAt T p f) K:=by
 obtain⟨b,o,rfl,h2,_⟩:=h w0 B
 refine aA ht (k _ λw B=>?_)
 obtain⟨O,J,G,_,h3⟩:=h w B
 cases G
 refine⟨b,o+u,rfl,h2,λj c E=>?_⟩
 rw[Flat.nW I]at E
 grind
theorem afH{l:List Int}{k:Nat}{e:Int}(u:0<k)(h:l[((k:Int)-1).toNat]?=some e):tI l k=e+1:=by
 unfold tI
 rw[ei bM,n0,show k-1=((k:Int)-1).toNat from bM,h];rfl
def abv{of fi:List Int}{st:Int}:pG [] (Kb of st fi):=⟨λ_=>rfl,λx h=>by cases h⟩
def C61(of fi:List Int)(st:Int)(ov fv:Value)(w:World)(B:cZ (λ_=>True) w ov of)(I:cZ (λ_=>True) w fv fi)(hle:of.length=fi.length)(KW:of.length<=20)(iY:0<=st/\st<=of.length)(GL:∀(k:Nat) (n:Int),(k:Int)<st->of[k]?=some n->(n=tI of k\/(0<k/\n=tI of k-1))/\-10<=n/\n<=100):CR 61 [ov,hH st,fv] w (λv w'=>∃b,v=.tuple #[.pointer (some ⟨b,0,none⟩),hH 0]/\kP (gy b (Kb of st fi)) w w'):=by
 have u:=St.start w;refine aiw _ _ _ _ _ ?_;unfold S61;refine⟨_,?_,λ_ _ h=>h⟩;refine aH cR (B.ext u.aF) (aH cR (I.ext u.aF) (bV (fJ (ez bM) (aH cR (B.ext u.aF) (cP (fJ (ez bM) (aQ (fJ (ez bM) (aH cR (B.ext u.aF) (cP ?_))))))))));intro _;refine fJ (ez bM) ?_;refine⟨λmm x w1=>∃k:Nat,x=hH (k:Int)/\mm=st.toNat-k/\(k:Int)<=st/\St w aZ [] w1,⟨_,0,rfl,rfl,bM,u⟩,?_⟩;rintro mm _ _ ⟨k,rfl,rfl,hk,u⟩ _;refine aQ (aC (λj6=>⟨_,aG (aC (λC8=>?_) λC8=>?_),λ_ _ h=>h⟩) λj6=>?_)
 .obtain⟨xG,vD⟩:=gx of (i:=(0:Int).toNat) bM;refine aN cR B bM vD (λ_ xm=>have u:=u.drew;aD bO (xm.ext u.aF) ?_);have E:=GL 0 xG bM (by simpa using vD);have hw1:tI of 0=0:=rfl;refine bV (fJ (ez bM) (cP (fJ (ez bM) ?_)));intro wA;exact ft (aK bM ⟨_,bM,k+1,rfl,rfl,bM,u⟩)
 .refine cP (j5 (ew bM) ?_);obtain⟨U,Gy⟩:=gx of (i:=(k:Int).toNat) bM;refine aN cR B bM Gy (λ_ afJ=>have u:=u.drew;aD bO (afJ.ext u.aF) (fr bM ?_));obtain⟨auY,O⟩:=gx of (i:=((k:Int)-1).toNat) bM;refine aN cR B bM O (λ_ afK=>aD bO (afK.ext u.aF) ?_);have E:=GL k U bM (by simpa using Gy);rw[afH bM O]at E;refine bV (aC (λafL=>?_) λafL=>?_)
  .refine aN cR B bM Gy (λ_ M=>aD bO (M.ext u.aF) (fr bM (aN cR B bM O λ_ Z=>aD bO (Z.ext u.aF) (aK bM (bV ?_)))));intro wA;exact fJ (ez bM) (aK bM ⟨_,bM,k+1,rfl,rfl,bM,u⟩)
  intro wA;exact ft (aK bM ⟨_,bM,k+1,rfl,rfl,bM,u⟩)
 refine bD ([]:List Int) u cR rfl rfl (dR rfl) (λs_x72 _ u=>jL cR (B.ext u.aF) bM bM λasF alO=>?_);have W:=alO _ B;have alQ:=(W.ext u.aF);refine bL u cR alQ (by simp;omega) dC (λs_x76 _ u=>bD ([]:List Int) u cR rfl rfl (dR rfl) λs_x77 _ u=>?_);have Qw:=(I.ext u.aF);refine bL u cR Qw (by simp;omega) dC (λaqV _ u=>?_);obtain⟨V,rfl⟩:=u.p1.fV;obtain⟨Cx,rfl⟩:=u.fV;refine pop (Pt _ _ _ _ _ _) (cH (x:=(⟨V,Cx,bW,bW,bW⟩:SH)) u λb_x81 _ u=>bD ([]:List Int) u cR rfl rfl (dR rfl) λahA _ u=>?_)
 have alR:=(I.ext u.aF);refine bL u cR alR (by simp;omega) dC (λJ _ u=>aE (aA wO ?_));obtain⟨G,rfl⟩:=u.fV;refine aW u.p1 eO (dR rfl) (rfl) (λ_ u=>have u:=u.enc (cs':=hZ (⟨V,Cx,G,bW,bW⟩:SH)) rfl;bD ([]:List Int) u cR rfl rfl (dR rfl) λs_x89 _ u=>jL cR (I.ext u.aF) bM bM λs_x92 alS=>?_);have alT:=alS _ I;have alU:=(alT.ext u.aF);refine bL u cR alU (by simp;omega) dC (λY _ u=>aE (aA AM ?_));obtain⟨alV,rfl⟩:=u.fV;refine aW u.p1 eO (dR rfl) (rfl) (λ_ u=>?_)
 have u:=(((u.enc (cs':=hZ (⟨V,Cx,G,alV,bW⟩:SH)) rfl).p1).p2).p3;have u:=u.p4.p4;simp only[List.nil_append]at u;have u:=(u.eV (α:=mV)).p5.p5.p5.p5.p5;exact⟨_,rfl,(gy.shut (m:=Kb of st fi) abv u).fresh⟩
end Go.Proofs.YtpdlpabnlkofmaaGreatDoor

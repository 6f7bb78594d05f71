/-
  Part 6.
-/
import Derived.Test.YtpdlpabnlkofmaaGreatDoorR6x5
set_option maxHeartbeats 8000000
set_option linter.all false
set_option maxRecDepth 100000
open Go.Fw.Flat renaming val->ir,enc->j0,sz->mA
open ByteArray renaming mk->kp
open List renaming getElem?_eq_some_iff->kB,mem_of_getElem?->kE,take_of_length_le->kO,length_append->lr,length_singleton->l2,getElem?_eq_none->nt,append_assoc->nK,getD_eq_getElem?_getD->n3,mem_map->ob,length_cons->oi,mem_cons_self->oj,append_nil->oO,mem_append->o8,mem_cons_of_mem->qo,mem_cons->sl,mem_singleton->v7,any_eq_false->B2,length_set->HC,length_nil->MV,mem_or_eq_of_mem_set->Tu
open Nat renaming zero_le->l0,le_refl->o6,le_succ->MI
open Go.Fw.Deep renaming dr->mi
open Go.Instr renaming build->mv,sliceAt->n0,box->Ae,indexAt->Gt,makeSlice->OS
open Option renaming bind_some->mU,some->n5
open Go.Value renaming int->nG
open Bool renaming and_eq_true->n4,not_eq_true'->ta,or_eq_false_iff->KG
open Int renaming toNat_natCast->pd,le_refl->Ns,eq_ofNat_of_zero_le->Pj
open Decidable renaming not_not->u1
namespace Go.Proofs.YtpdlpabnlkofmaaGreatDoor
open Go.Fw
theorem abd{l:List bU}{i:Int}{R:List cC×Int×Int×Int}(h:wT l i=some R)(hi:¬ i<0):∃x,I1 l 10000 i 0 0=some x/\
  (if x.e≠0 then some ([],0,x.e,x.at_)else match Ah x.l,l[i.toNat]? with
  | some t,some k=>if x.l.length<=10000 then(if 12<t.depth then some ([],0,7,k.at_)else if 40<x.l.length then some ([],0,2,k.at_)else some (x.l,x.to,0,0))else none
  | _,_=>none)=some R:=by
 unfold wT at h;rw[ej hi]at h
 cases hx:I1 l 10000 i 0 0 with
 | none=>grind
 | some x=>grind
theorem Ry{x:fU}{o:Option bU}{R:List cC×Int×Int×Int}(h:(match Ah x.l,o with
  | some t,some k=>if x.l.length<=10000 then(if 12<t.depth then some ([],0,7,k.at_)else if 40<x.l.length then some ([],0,2,k.at_)else some (x.l,x.to,0,0))else none
  | _,_=>none)=some R):∃t k,Ah x.l=some t/\o=some k/\x.l.length<=10000/\(if 12<t.depth then some ([],0,7,k.at_)else if 40<x.l.length then some ([],0,2,k.at_)else some (x.l,x.to,0,0))=some R:=by
 grind
def C258(l:List bU)(j:Nat)(lv:Value)(i d n:Int)(r:fU)(w:World)(O:dD (λ_=>True) w lv l)(hk:js l)(HR:alw l (I1 l j))(h0:0<=i/\i<=l.length)(hd:0<=d/\d<=12)(hnn:0<=n/\n<=5)(hr:I1 l (j+1) i d n=some r):CR 258 [lv,hZ i,hZ d,hZ n] w (λv w'=>∃sh:ek,v=ir sh/\kq (dZ λw=>mi w sh r) w w'):=by
 have EA:=hk.n;have hn:l.length<=1000000:=cO
 have te:=hk.at_;have u:=St.start w;refine adN _ _ _ _ _ _ ?_;unfold S258;refine aN u uf (λVc _ u=>have u:=u.enc (cs':=j0 (⟨bY,0,0,0⟩:ek)) rfl;aH (aC (λjx=>?_) λjx=>?_))
 .refine dO ahs (C294 l (I1 l j) _ i d r _ (O.ext u.aG) hk HR h0 hd (aiH (by rw[jx]at hr;exact hr))) ?_;rintro _ _ ⟨alz,rfl,I⟩;have u:=u.made I;obtain⟨BZ,Rv,_⟩:=u.dZ;subst Rv;refine aJ (x:=(⟨BZ,r.to,r.e,r.at_⟩:ek)) u.p1 gm rfl rfl (λ_ u=>aD gm u.At ?_);have B:r=(⟨r.l,r.to,r.e,r.at_⟩:fU):=rfl;rw[B];have u:=u.p1.dF (Ψ:=(λw=>mi w (⟨BZ,r.to,r.e,r.at_⟩:ek) (⟨r.l,r.to,r.e,r.at_⟩:fU))) (λ_ h=>⟨_,rfl,lS h⟩);have u:=u.p1.drop;exact⟨_,rfl,u.fresh⟩
 obtain⟨J,hx1,aAs⟩:=atg hr jx;refine aO cO (dO SF ((HR _ i d (n+1) J _ (O.ext u.aG) hx1 h0 hd cO).1) ?_);rintro _ _ ⟨aAt,rfl,I⟩;have u:=u.made I;obtain⟨KW,alR,_⟩:=u.dZ;subst alR;refine aN u uf (λCH _ u=>have u:=u.enc (cs':=j0 (⟨bY,0,0,0⟩:ek)) rfl;aJ (x:=(⟨KW,J.to,J.e,J.at_⟩:ek)) u gm rfl rfl λ_ u=>?_);have u:=u.p2.p2.p2.p1.dF (Ψ:=λw=>DL w (ir KW) J.l) (λ_ h=>lS h);have u:=u.p2.p1.p2;refine⟨λW w'=>∃(x:fU) (g:SV),wR (I1 l j) l d n W x=some r/\St w aX [bW CH (j0 (⟨g,x.to,x.e,x.at_⟩:ek)),dZ (λw=>DL w (ir g) x.l),bW Vc (j0 (⟨bY,0,0,0⟩:ek))] w',⟨j,J,KW,aAs,u⟩,?_⟩
 rintro W _ ⟨x,g,E,u⟩ _;obtain⟨j2,rfl⟩:=Rt E;refine aA vc (aB (v:=hZ x.e) jU u.hb rfl (aH (aC (λNG=>?_) λNG=>?_)))
 .have u:=u.p2.p2.p2;refine⟨λW o kk w'=>∃k:Nat,o=hZ (GH l x.to n k)/\kk=hZ (k:Int)/\W=(rF n).length-k/\k<=(rF n).length/\St w aX [bW CH (j0 (⟨g,x.to,x.e,x.at_⟩:ek)),dZ (λw=>DL w (ir g) x.l),bW Vc (j0 (⟨bY,0,0,0⟩:ek))] w',⟨_,0,rfl,rfl,rfl,l0 _,u⟩,?_⟩;rintro W _ _ _ ⟨k,rfl,rfl,rfl,Ag,u⟩ _;have hfl4:=Ru n;refine dV XQ u (C295 n _ cO) (λx31 _ I u=>aK cS u.dW (aR (aC (λzS=>⟨λjv w'=>jv=hZ (GH l x.to n (k+1))/\St w aX [bW CH (j0 (⟨g,x.to,x.e,x.at_⟩:ek)),dZ (λw=>DL w (ir g) x.l),bW Vc (j0 (⟨bY,0,0,0⟩:ek))] w',?_,?_⟩) λzS=>?_)))
  .refine aA pD (have u:=u.drew;aB (v:=hZ x.to) bL u.p1.hb rfl (dV XQ u (C295 n _ cO) λx40 _ I u=>?_));refine⟨aF bL (u.p2.hb.cell rfl),?_⟩;obtain⟨GI,V⟩:=gx (rF n) (i:=(k:Int).toNat) cO;refine dT u cS cO cO (λ_ Ov=>gq u bL Ov V ?_);have hfb:=aba V;refine aW apf u (C296 GI _ cO) (λ_ he u=>?_);refine⟨aF bL (u.p2.hb.cell rfl),?_⟩;exact aW wE u (C209 _ l x.to (Om GI) _ (O.ext u.aG) hn) (λ_ _ u=>bD (λNu=>dV XQ u (C295 n _ cO) λ_ _ _ u=>dT u cS cO cO λ_ FW=>gq u bL FW V (have u:=u.drop.drop.drop.p2.p2.p2;⟨by rw[I0 (k:=k) V,ew Nu]<;>rfl,u⟩)) λNu=>have u:=u.drop.drop.p2.p2.p2;⟨by rw[I0 (k:=k) V,ej (by simpa using Nu)]<;>rfl,u⟩)
  .rintro _ _ ⟨rfl,u⟩ _;exact aO cO ⟨_,cO,k+1,rfl,rfl,rfl,cO,u⟩
  have Y:GH l x.to n k=KU l x.to n:=by unfold KU;rw[show k=(rF n).length from cO]
  refine aH (aC (λvn=>?_) λvn=>?_)
  .refine aD gm u.p1.At (aJ (x:=(⟨g,x.to,x.e,x.at_⟩:ek)) u.p3 gm rfl rfl λ_ u=>aD gm u.At ?_);have B:r=(⟨x.l,x.to,x.e,x.at_⟩:fU):=abb (x:=x) E cO (by rw[<- Y];exact vn);rw[B];have u:=u.p3.dF (Ψ:=(λw=>mi w (⟨g,x.to,x.e,x.at_⟩:ek) (⟨x.l,x.to,x.e,x.at_⟩:fU))) (λ_ h=>⟨_,rfl,id h⟩);have u:=u.p1.drop.p1.drop.p1.drop;exact⟨_,rfl,u.fresh⟩
  obtain⟨t,y,h0t,ht,hy,hye,G⟩:=abc E cO (by rw[<- Y];exact vn);have Pk:=(kB.1 ht).1;refine aA pD (aB (v:=hZ x.to) bL u.p1.hb rfl (aO cO (aO cO (dO SF ((HR _ (x.to+1) d (n+1) y _ (O.ext u.aG) hy cO hd cO).1) ?_))));rintro _ _ ⟨aAv,rfl,I⟩;have u:=u.made I;obtain⟨Z,alT,_⟩:=u.dZ;subst alT;refine aN u uf (λb_y12 _ u=>have u:=u.enc (cs':=j0 (⟨bY,0,0,0⟩:ek)) rfl;aJ (x:=(⟨Z,y.to,y.e,y.at_⟩:ek)) u gm rfl rfl λ_ u=>aA vc (aB (v:=hZ y.e) jU u.hb rfl (bQ (aC (λvp=>?_) λvp=>?_))))
  .refine aD gm u.At (aJ (x:=(⟨Z,y.to,y.e,y.at_⟩:ek)) u.p5 gm rfl rfl λ_ u=>aD gm u.At ?_);have B:r=(⟨y.l,y.to,y.e,y.at_⟩:fU):=hye vp;rw[B];have u:=u.p2.dF (Ψ:=(λw=>mi w (⟨Z,y.to,y.e,y.at_⟩:ek) (⟨y.l,y.to,y.e,y.at_⟩:fU))) (λ_ h=>⟨_,rfl,lS h⟩);have u:=u.p1.drop.p1.drop.p1.drop.p1.drop.p1.drop;exact⟨_,rfl,u.fresh⟩
  refine aA pD (aB (v:=hZ x.to) bL u.p3.hb rfl (aQ fS (O.ext u.aG) cO ht λ_ ZN=>bX t.at_ lY ZN rfl rfl λ_ atj=>aD bL atj (pop (Fb _ _) (aV ([(⟨(GH l x.to n k),0,(kp #[]),t.at_⟩:cC)]) u il rfl rfl (dQ rfl) λatk _ u=>aA sP (aB (v:=ir (g:SV)) jC u.p4.hb rfl ?_)))));have zp:=(G cO).1;have alU:=(DL.flat (id u.p5.dZ));refine bI u il alU (by simp;omega) ee (λarR _ u=>aA sP (aB (v:=ir (Z:SV)) jC u.p1.hb rfl ?_));have alV:=(DL.flat (lS u.p2.dZ))
  refine bI u il alV (by simp;omega) ee (λs_x82 _ u=>aA pD (aB (v:=hZ y.to) bL u.p1.hb rfl ?_));obtain⟨M,rfl⟩:=u.fN;refine pop (Ab _ _ _ _) (aJ (x:=(⟨M,y.to,0,0⟩:ek)) u.p4 gm rfl rfl λ_ u=>aH (aC (λF7=>?_) λF7=>?_))
  .refine aD gm u.At (aJ (x:=(⟨M,y.to,0,0⟩:ek)) u.p6 gm rfl rfl λ_ u=>aD gm u.At ?_);have B:r=(⟨(([(⟨(GH l x.to n k),0,(kp #[]),t.at_⟩:cC)]++x.l)++y.l),y.to,0,0⟩:fU):=((G cO).2.1 F7).trans (by rw[<- Y]);rw[B];have u:=u.p2.freeze.dF (Ψ:=(λw=>mi w (⟨M,y.to,0,0⟩:ek) (⟨(([(⟨(GH l x.to n k),0,(kp #[]),t.at_⟩:cC)]++x.l)++y.l),y.to,0,0⟩:fU))) (λ_ h=>⟨_,rfl,DL.jZ h⟩);have u:=u.p1.drop.p1.drop.p1.drop.p1.drop.p1.drop.p1.drop;exact⟨_,rfl,u.fresh⟩
  have u:=u.p1.freeze.dF (Ψ:=λw=>DL w (ir M) ([(⟨GH l x.to n k,0,kp #[],t.at_⟩:cC)]++x.l++y.l)) (λ_ h=>DL.jZ h);have u:=u.p2.drop.p2.drop.p2.drop.p2.drop.p2.p1.p2;have U:=(G cO).2.2 F7;rw[<- Y]at U;exact⟨_,cO,⟨_,_,_,_⟩,M,U,u⟩
 refine aD gm u.At (aJ (x:=(⟨g,x.to,x.e,x.at_⟩:ek)) u.p2 gm rfl rfl λ_ u=>aD gm u.At ?_);have B:r=(⟨x.l,x.to,x.e,x.at_⟩:fU):=afY (x:=x) E cO;rw[B];have u:=u.p2.dF (Ψ:=(λw=>mi w (⟨g,x.to,x.e,x.at_⟩:ek) (⟨x.l,x.to,x.e,x.at_⟩:fU))) (λ_ h=>⟨_,rfl,id h⟩);have u:=u.p1.drop.p1.drop;exact⟨_,rfl,u.fresh⟩
theorem alW{l:List bU}(B:js l):∀j,alw l (I1 l j)
 | 0=>λlv i d n r w E u=>by cases u
 | j+1=>λlv i d n r w E u G hd I=>⟨C258 l j lv i d n r w E B (alW B j) G hd I u,λh5=>by subst h5;exact C294 l (I1 l j) lv i d r w E B (alW B j) G hd (aiH u)⟩
def C213(l:List bU)(lv:Value)(i:Int)(R:List cC×Int×Int×Int)(w:World)(Y:dD (λ_=>True) w lv l)(hk:js l)(hil:i<=l.length)(O:wT l i=some R):CR 213 [lv,hZ i] w (λv w'=>∃sv:SV,v=.tuple #[ir sv,hZ R.2.1,hZ R.2.2.1,hZ R.2.2.2]/\kq (dZ λw=>DL w (ir sv) R.1) w w'):=by
 have EA:=hk.n;have hn:l.length<=1000000:=cO
 have te:=hk.at_;have u:=St.start w;refine pj Tryz.func213 (pl:=aw7) ?_;refine aR (aC (λgW=>?_) λgW=>?_)
 .have B:R=([],0,1,0):=by
   unfold wT at O;rw[ew gW]at O;exact(n5.inj O).symm
  rw[B];exact⟨bY,rfl,(u.fk (Φ:=λw=>DL w (ir (bY:SV)) ([]:List cC)) λw=>DL.nil w).fresh⟩
 obtain⟨x,hx,M⟩:=abd O cO;refine dO SF ((alW hk 10000 _ i 0 0 x _ (Y.ext u.aG) hx cO cO cO).1) ?_;rintro _ _ ⟨aAw,rfl,cI⟩;have u:=u.made cI;obtain⟨E,V,_⟩:=u.dZ;subst V;refine aN u uf (λVc _ u=>have u:=u.enc (cs':=j0 (⟨bY,0,0,0⟩:ek)) rfl;aJ (x:=(⟨E,x.to,x.e,x.at_⟩:ek)) u gm rfl rfl λ_ u=>aA vc (aB (v:=hZ x.e) jU u.hb rfl (bQ (aC (λeE=>?_) λeE=>?_))))
 .refine aA vc (have u:=u.drew;aB (v:=hZ x.e) jU u.hb rfl (aA X9 (aB (v:=hZ x.at_) bL u.hb rfl ?_)))
  have B:R=([],0,x.e,x.at_):=by
   rw[ew eE]at M;exact(n5.inj M).symm
  rw[B];exact⟨bY,rfl,(u.fk (Φ:=λw=>DL w (ir (bY:SV)) ([]:List cC)) λw=>DL.nil w).fresh⟩
 rw[ej eE]at M;obtain⟨U,I,W,Z,hxl,G⟩:=Ry M;have htki:=(kB.1 Z).1;obtain⟨hwf,uD⟩:=vX W;have hAt:Cr x.l 0 U:=⟨cO,hwf,[],by simpa using uD⟩;refine aA sP (aB (v:=ir (E:SV)) jC u.hb rfl (aW XL u (C252 _ x.l 0 U (U.size+1) _ (DL.flat (lS u.p1.dZ)) cO hAt cO) λ_ he u=>cQ (aC (λJ=>?_) λJ=>aA sP (aB (v:=ir (E:SV)) jC u.hb rfl (aK il (DL.flat (lS u.p1.dZ)) (cQ (aC (λzS=>?_) λzS=>?_)))))))
 .refine aQ fS (Y.ext u.aG) cO Z (λ_ sW=>bX I.at_ lY sW rfl rfl λ_ FH=>have u:=u.drew;aD bL FH ?_)
  have B:R=([],0,7,I.at_):=by
   rw[ew J]at G;exact(n5.inj G).symm
  rw[B];exact⟨bY,rfl,(u.fk (Φ:=λw=>DL w (ir (bY:SV)) ([]:List cC)) λw=>DL.nil w).fresh⟩
 .refine aQ fS (Y.ext u.aG) cO Z (λ_ Bx=>bX I.at_ lY Bx rfl rfl λ_ xS=>have u:=u.drew;aD bL xS ?_)
  have B:R=([],0,2,I.at_):=by
   rw[ej J,ew cO]at G;exact(n5.inj G).symm
  rw[B];exact⟨bY,rfl,(u.fk (Φ:=λw=>DL w (ir (bY:SV)) ([]:List cC)) λw=>DL.nil w).fresh⟩
 refine aA sP (have u:=u.drew;aB (v:=ir (E:SV)) jC u.hb rfl (aA pD (aB (v:=hZ x.to) bL u.hb rfl ?_)));have u:=u.p1.dF (Ψ:=λw=>DL w (ir E) x.l) (λ_ h=>lS h)
 have B:R=(x.l,x.to,0,0):=by
  rw[ej J,ej cO]at G;exact(n5.inj G).symm
 rw[B];exact⟨E,rfl,u.fresh⟩
structure fX where
 at_:Int
 e:Int
 pos:Int
deriving DecidableEq
def jG(l:List bU)(s:fX)(e:Int):fX:=if s.e=0 then {s with e:=if (l.length:Int)<=s.at_ then 6 else e,pos:=nM l s.at_}else s
def ef(l:List bU)(s:fX)(t:ByteArray):fX:=if (decide (s.e=0)&&uq l s.at_ t)=true then {s with at_:=s.at_+1}else jG l s 5
def mj(l:List bU)(i:Int):Option bU:=if 0<=i then l[i.toNat]? else none
def ur(l:List bU)(s:fX):Bool:=decide (s.e=0)&&(match mj l s.at_ with|some t=>decide (t.kind=1)&&gY t.text|none=>false)
def qg(l:List bU)(i:Int):bU:=(mj l i).getD ⟨0,⟨#[]⟩,0,0⟩
def dH(l:List bU)(s:fX):fX×ByteArray:=if ur l s=true then({s with at_:=s.at_+1},(qg l s.at_).text)else(jG l s 5,⟨#[]⟩)
def rT(l:List bU)(s:fX):Option (fX×List cC):=if s.e≠0 then some (s,[])else(wT l s.at_).bind λR=>
 if R.2.2.1≠0 then some ({s with e:=R.2.2.1,pos:=R.2.2.2},[])else if 0<=R.2.1/\R.2.1<=l.length then some ({s with at_:=R.2.1},R.1)else none
def Rz(l:List bU)(s:fX):Bool:=decide (s.e=0)&&(match mj l s.at_ with|some t=>decide (t.kind=2)|none=>false)
def lz(l:List bU)(s:fX):fX×Int:=if Rz l s=true then(if 1<=(qg l s.at_).n/\(qg l s.at_).n<=8 then({s with at_:=s.at_+1},(qg l s.at_).n)else(jG l s 11,0))else(jG l s 5,0)
def EJ:List ByteArray:=[⟨#[]⟩,⟨#[]⟩,⟨#[108,111,97,100]⟩,⟨#[115,116,111,114,101]⟩,⟨#[99,97,115]⟩,⟨#[102,108,117,115,104]⟩,⟨#[111,112,116]⟩,⟨#[115,102,101,110,99,101]⟩,⟨#[109,102,101,110,99,101]⟩,⟨#[116,97,107,101]⟩,⟨#[103,105,118,101]⟩,⟨#[105,102]⟩,⟨#[108,111,111,112]⟩,⟨#[98,114,101,97,107]⟩,⟨#[99,104,101,99,107]⟩]
def I2(k:Int):ByteArray:=(EJ[k.toNat]?).getD ⟨#[]⟩
def lT(l:List bU)(s:fX):Prop:=0<=s.at_/\s.at_<=l.length
section
variable {l:List bU}{s:fX}{e:Int}{t:ByteArray}
theorem uu(h:lT l s):lT l (jG l s e):=by unfold jG;split<;>exact h
theorem fR(h:lT l s):lT l (ef l s t):=by
 unfold ef;split
 .rename_i h2
  rw[n4]at h2
  have:=tI h2.2
  exact⟨dI,dI⟩
 exact uu h
theorem m9{i:Int}{k:bU}(h:mj l i=some k):0<=i/\i<l.length/\l[i.toNat]?=some k:=by
 unfold mj at h
 grind
theorem B0(h:ur l s=true):s.e=0/\∃k,mj l s.at_=some k/\k.kind=1/\gY k.text=true:=by
 unfold ur at h
 grind
theorem Ui(h:Rz l s=true):s.e=0/\∃k,mj l s.at_=some k/\k.kind=2:=by
 unfold Rz at h
 grind
theorem gZ(h:lT l s):lT l (dH l s).1:=by
 unfold dH;split
 .rename_i h2
  obtain⟨_,k,u,_⟩:=B0 h2
  have:=m9 u
  exact⟨dI,dI⟩
 exact uu h
theorem V8(h:lT l s):lT l (lz l s).1:=by
 unfold lz;split
 .rename_i h2
  obtain⟨_,k,u,_⟩:=Ui h2
  have:=m9 u
  split
  .exact⟨dI,dI⟩
  exact uu h
 exact uu h
theorem tJ{s':fX}{x:List cC}(h:lT l s)(u:rT l s=some (s',x)):lT l s':=by
 unfold rT at u
 split at u
 .grind
 cases hx:wT l s.at_ with
 | none=>grind
 | some R=>
  grind[lT]
end
@[reducible] def eC(lv ov:Value)(s:fX):List Value:=[lv,.int .i64 s.at_,.int .i64 s.e,.int .i64 s.pos,ov]
@[reducible] def eI(lv:Value)(s:fX):List Value:=[lv,.int .i64 s.at_,.int .i64 s.e,.int .i64 s.pos]
def iO(l:List bU)(s:fX)(t:ByteArray):fX×Bool:=if (decide (s.e=0)&&uq l s.at_ t)=true then({s with at_:=s.at_+1},true)else(s,false)
def fp(l:List bU)(s:fX):fX×cN:=if ur l s=true then({s with at_:=s.at_+1},⟨(qg l s.at_).text,0,(qg l s.at_).at_⟩)else(jG l s 5,⟨⟨#[]⟩,0,0⟩)
def kM{l:List bU}{s:fX}{t:ByteArray}(h:lT l s):lT l (iO l s t).1:=by
 unfold iO;split
 .rename_i h2
  rw[n4]at h2
  have:=tI h2.2
  exact⟨dI,dI⟩
 exact h
def vy{l:List bU}{s:fX}(h:lT l s):lT l (fp l s).1:=by
 unfold fp;split
 .rename_i h2
  obtain⟨_,k,u,_⟩:=B0 h2
  have:=m9 u
  exact⟨dI,dI⟩
 exact uu h
theorem abe{l:List bU}{s u:fX}{x:List cC}(h:rT l s=some (u,x))(B:¬ s.e≠0):∃R,wT l s.at_=some R/\
  (if R.2.2.1≠0 then some ({s with e:=R.2.2.1,pos:=R.2.2.2},[])else if 0<=R.2.1/\R.2.1<=l.length then some ({s with at_:=R.2.1},R.1)else none)=some (u,x):=by
 unfold rT at h;rw[ej B]at h
 cases hx:wT l s.at_ with
 | none=>grind
 | some R=>grind
def abf{l:List bU}{s u:fX}{x:List cC}{R:List cC×Int×Int×Int}(h:(if R.2.2.1≠0 then some ({s with e:=R.2.2.1,pos:=R.2.2.2},[])else if 0<=R.2.1/\R.2.1<=l.length then some ({s with at_:=R.2.1},R.1)else none)=some (u,x))(B:¬ R.2.2.1≠0):0<=R.2.1/\R.2.1<=l.length:=by
 grind
def C291(p:Nat)(lv ov:Value)(l:List bU)(s:fX)(e:Int)(F:Nat->Prop)(w:World)(V:(bW p (eC lv ov s)).p w F)(E:∀w',gJ F w w'->dD (λ_=>True) w' lv l)(J:js l)(Y:lT l s):CR 291 [(.pointer (some ⟨p,0,none⟩)),hZ e] w (λv w'=>v=.tuple #[]/\nd F (bW p (eC lv ov (jG l s e))) w w'):=by
 have u:=St.begin V;have EA:=J.n;have I:l.length<=1000000:=cO
 have M:=J.at_;obtain⟨Uj,Uk⟩:=id Y;refine pj Tryz.func291 (pl:=axl) ?_;refine aE (aA lf (aB jU u.hb rfl (aH (aC (λB=>aE (aA lf (aT u jU (dQ rfl) (rfl) λ_ u=>⟨_,aE (aA fo (have u:=u.drew;aB bL u.hb rfl (aE (aA iR (aB jw u.hb rfl (aK fS (E _ u.aG) (cT (aC (λG=>?_) λG=>?_)))))))),λ_ h=>h⟩))) λB=>?_))))
 .refine aE (aA lf (aT u jU (dQ rfl) (rfl) λ_ u=>?_));intro O;refine aE (aA iR (have u:=u.drew;aB jw u.hb rfl (aE (aA fo (aB bL u.hb rfl (aW HY u (C214 _ l s.at_ _ (E _ u.aG) I M) λZ W u=>aE (aA Be (aT u bL (dQ rfl) (rfl) λU u=>?_))))))));have hb:jG l s e=(⟨s.at_,6,(nM l s.at_)⟩:fX):=by unfold jG;rw[ew B,ew G]
  rw[hb];exact⟨rfl,u.mut⟩
 .intro O;refine aE (aA iR (have u:=u.drew;aB jw u.hb rfl (aE (aA fo (aB bL u.hb rfl (aW HY u (C214 _ l s.at_ _ (E _ u.aG) I M) λZ W u=>aE (aA Be (aT u bL (dQ rfl) (rfl) λU u=>?_))))))));have hb:jG l s e=(⟨s.at_,e,(nM l s.at_)⟩:fX):=by unfold jG;rw[ew B,ej G]
  rw[hb];exact⟨rfl,u.mut⟩
 have hb:jG l s e=s:=by unfold jG;rw[ej B]
 rw[hb];exact⟨rfl,u.mut⟩
def C136(p:Nat)(lv:Value)(l:List bU)(s:fX)(F:Nat->Prop)(w:World)(V:(bW p (eI lv s)).p w F)(G:∀w',gJ F w w'->dD (λ_=>True) w' lv l)(J:js l)(Y:lT l s):CR 136 [(.pointer (some ⟨p,0,none⟩))] w (λv w'=>v=.tuple #[]/\nd F (bW p (eI lv (jG l s 5))) w w'):=by
 have u:=St.begin V;have EA:=J.n;have I:l.length<=1000000:=cO
 have M:=J.at_;obtain⟨Uj,Uk⟩:=id Y;refine pj Tryz.func136 (pl:=awX) ?_;refine aE (aA mI (aB jU u.hb rfl (aH (aC (λB=>aE (aA mI (aT u jU (dQ rfl) (rfl) λ_ u=>⟨_,aE (aA fG (have u:=u.drew;aB bL u.hb rfl (aE (aA ko (aB jw u.hb rfl (aK fS (G _ u.aG) (cT (aC (λE=>?_) λE=>?_)))))))),λ_ h=>h⟩))) λB=>?_))))
 .refine aE (aA mI (aT u jU (dQ rfl) (rfl) λ_ u=>?_));intro O;refine aE (aA ko (have u:=u.drew;aB jw u.hb rfl (aE (aA fG (aB bL u.hb rfl (aW HY u (C214 _ l s.at_ _ (G _ u.aG) I M) λZ W u=>aE (aA xB (aT u bL (dQ rfl) (rfl) λU u=>?_))))))));have hb:jG l s 5=(⟨s.at_,6,(nM l s.at_)⟩:fX):=by unfold jG;rw[ew B,ew E]
  rw[hb];exact⟨rfl,u.mut⟩
 .intro O;refine aE (aA ko (have u:=u.drew;aB jw u.hb rfl (aE (aA fG (aB bL u.hb rfl (aW HY u (C214 _ l s.at_ _ (G _ u.aG) I M) λZ W u=>aE (aA xB (aT u bL (dQ rfl) (rfl) λU u=>?_))))))));have hb:jG l s 5=(⟨s.at_,5,(nM l s.at_)⟩:fX):=by unfold jG;rw[ew B,ej E]
  rw[hb];exact⟨rfl,u.mut⟩
 have hb:jG l s 5=s:=by unfold jG;rw[ej B]
 rw[hb];exact⟨rfl,u.mut⟩
def C257(p:Nat)(lv ov:Value)(l:List bU)(s:fX)(t:ByteArray)(F:Nat->Prop)(w:World)(V:(bW p (eC lv ov s)).p w F)(I:∀w',gJ F w w'->dD (λ_=>True) w' lv l)(G:js l)(J:lT l s):CR 257 [(.pointer (some ⟨p,0,none⟩)),.string t] w (λv w'=>v=.tuple #[]/\nd F (bW p (eC lv ov (ef l s t))) w w'):=by
 have u:=St.begin V;have EA:=G.n;have W:l.length<=1000000:=cO
 have te:=G.at_;obtain⟨Uj,Uk⟩:=id J;refine pj Tryz.func257 (pl:=axf) ?_;refine⟨λY w'=>Y=.bool (decide (s.e=0)&&uq l s.at_ t)/\St w F [bW p (eC lv ov s)] w',aE (aA lf (have u:=u.drew;aB jU u.hb rfl (aH (aC (λB=>aE (aA iR (aB jw u.hb rfl (aE (aA fo (aB bL u.hb rfl (aW wE u (C209 _ l s.at_ t _ (I _ u.aG) W) λ_ _ u=>⟨vb (by first|(rw[ez B];rfl)|(rw[fV B];rfl)),u⟩))))))) λB=>⟨vb (by first|(rw[ez B];rfl)|(rw[fV B];rfl)),u⟩)))),?_⟩;rintro _ _ ⟨rfl,u⟩ _;refine bD (λE=>?_) (λE=>?_)
 .have Z:=tI (by rw[n4]at E;exact E.2);refine aE (aA fo (aB bL u.hb rfl (aO cO (aE (aA fo (aT u bL (dQ rfl) (rfl) λ_ u=>?_))))));have hb:ef l s t={s with at_:=s.at_+1}:=by unfold ef;rw[ew (by simpa using E)]
  rw[hb];exact⟨rfl,u.mut⟩
 refine bG H0 u (H':=λ_=>bW p (eC lv ov (jG l s 5))) (Φ:=λ_ _=>True) (λU O M=>?_) ?_
 .exact(C291 p lv ov l s 5 U _ O (λw' hc=>I w' (M w' hc).aG) G J).mono λ_ _ r=>r.mono λ_ _ h=>⟨trivial,h.2⟩
 rintro _ _ _ u;have hb:ef l s t=jG l s 5:=by unfold ef;rw[ej (by simpa using E)]
 rw[hb];exact⟨rfl,u.mut⟩
def C131(p:Nat)(lv:Value)(l:List bU)(s:fX)(t:ByteArray)(F:Nat->Prop)(w:World)(J:(bW p (eI lv s)).p w F)(I:∀w',gJ F w w'->dD (λ_=>True) w' lv l)(G:js l)(M:lT l s):CR 131 [(.pointer (some ⟨p,0,none⟩)),.string t] w (λv w'=>v=.bool (iO l s t).2/\nd F (bW p (eI lv (iO l s t).1)) w w'):=by
 have u:=St.begin J;have W:=G.n;have O:l.length<=1000000:=cO
 have te:=G.at_;obtain⟨Y,Z⟩:=id M;refine pj Tryz.func131 (pl:=awO) ?_;refine⟨λU w'=>U=.bool (decide (s.e=0)&&uq l s.at_ t)/\St w F [bW p (eI lv s)] w',aE (aA mI (have u:=u.drew;aB jU u.hb rfl (aH (aC (λB=>aE (aA ko (aB jw u.hb rfl (aE (aA fG (aB bL u.hb rfl (aW wE u (C209 _ l s.at_ t _ (I _ u.aG) O) λ_ _ u=>⟨vb (by first|(rw[ez B];rfl)|(rw[fV B];rfl)),u⟩))))))) λB=>⟨vb (by first|(rw[ez B];rfl)|(rw[fV B];rfl)),u⟩)))),?_⟩;rintro _ _ ⟨rfl,u⟩ _;refine bD (λE=>?_) (λE=>?_)
 .have V:=tI (by rw[n4]at E;exact E.2);refine aE (aA fG (aB bL u.hb rfl (aO cO (aE (aA fG (aT u bL (dQ rfl) (rfl) λ_ u=>?_))))));have hb:iO l s t=({s with at_:=s.at_+1},true):=by unfold iO;rw[ew (by simpa using E)]
  rw[hb];exact⟨rfl,u.mut⟩
 have hb:iO l s t=(s,false):=by unfold iO;rw[ej (by simpa using E)]
 rw[hb];exact⟨rfl,u.mut⟩
def C210(p:Nat)(lv:Value)(l:List bU)(s:fX)(t:ByteArray)(F:Nat->Prop)(w:World)(W:(bW p (eI lv s)).p w F)(V:∀w',gJ F w w'->dD (λ_=>True) w' lv l)(E:js l)(U:lT l s):CR 210 [(.pointer (some ⟨p,0,none⟩)),.string t] w (λv w'=>v=.tuple #[]/\nd F (bW p (eI lv (ef l s t))) w w'):=by
 have B:=St.begin W;have Y:=E.n;have hn:l.length<=1000000:=cO
 have te:=E.at_;obtain⟨Uj,Uk⟩:=id U;refine fj Tryz.func210 ?_;refine bG zB B (H':=λ_=>bW p (eI lv (iO l s t).1)) (Φ:=λv _=>v=.bool (iO l s t).2) (λM J G=>?_) ?_
 .exact C131 p lv l s t M _ J (λw' hc=>V w' (G w' hc).aG) E U
 rintro _ w1 rfl B;refine bT (bD (λI=>?_) λI=>?_)
 .refine bG Sy B (H':=λ_=>bW p (eI lv (jG l (iO l s t).1 5))) (Φ:=λ_ _=>True) (λM J G=>?_) ?_
  .exact(C136 p lv l (iO l s t).1 M _ J (λw' hc=>V w' (G w' hc).aG) E (kM U)).mono λ_ _ r=>r.mono λ_ _ h=>⟨trivial,h.2⟩
  rintro _ Z _ B
  have O:ef l s t=jG l (iO l s t).1 5:=by
   have u:(iO l s t).2=false:=by simpa using I
   unfold iO at u |-;unfold ef
   split at u
   .cases u
   .rename_i h8;rw[ej h8,ej h8]
  rw[O];exact⟨rfl,B.mut⟩
 have O:ef l s t=(iO l s t).1:=by
  have u:(iO l s t).2=true:=by simpa using I
  unfold iO at u |-;unfold ef
  split at u
  .rename_i h8;rw[ew h8,ew h8]
  .cases u
 rw[O];exact⟨rfl,B.mut⟩
def C317(p:Nat)(lv ov:Value)(l:List bU)(s:fX)(F:Nat->Prop)(w:World)(hF:(bW p (eC lv ov s)).p w F)(I:∀w',gJ F w w'->dD (λ_=>True) w' lv l)(V:js l)(Y:lT l s):CR 317 [(.pointer (some ⟨p,0,none⟩))] w (λv w'=>v=.string (dH l s).2/\nd F (bW p (eC lv ov (dH l s).1)) w w'):=by
 have u:=St.begin hF;have EA:=V.n;have hn:l.length<=1000000:=cO
 have te:=V.at_;obtain⟨Uj,Uk⟩:=id Y;refine pj Tryz.func317 (pl:=axt) ?_;refine⟨λjv w'=>jv=.bool (ur l s)/\St w F [bW p (eC lv ov s)] w',?_,?_⟩
 .refine aE (aA lf (have u:=u.drew;aB jU u.hb rfl (aH (aC (λB=>aE (aA fo (aB bL u.hb rfl (aE (aA iR (aB jw u.hb rfl (aK fS (I _ u.aG) (aR (aC (λl6=>?_) λl6=>⟨vb (by unfold ur mj;first|(rw[fV B];rfl)|(rw[ew cO,nt cO];simp;done)|(rw[ew cO,G,ez B];dsimp only;first|(rw[fV E];rfl)|(rw[ez E];rfl))),u⟩))))))))) λB=>⟨vb (by unfold ur mj;first|(rw[fV B];rfl)|(rw[ew cO,nt cO];simp;done)|(rw[ew cO,G,ez B];dsimp only;first|(rw[fV E];rfl)|(rw[ez E];rfl))),u⟩))))
  refine aE (aA iR (aB jw u.hb rfl (aE (aA fo (aB bL u.hb rfl ?_)))));obtain⟨W,G⟩:=gx l (i:=s.at_.toNat) cO;refine aQ fS (I _ u.aG) cO G (λ_ Bv=>bX (W).kind lX Bv rfl rfl λ_ mO=>?_);exact aD bL mO (aH (aC (λE=>aE (aA iR (aB jw u.hb rfl (aE (aA fo (aB bL u.hb rfl (aQ fS (I _ u.aG) cO G λ_ wO=>bX (W).text nU wO rfl rfl λ_ vu=>aD gK vu (aW uY u (C211 _ _ (by have:=te _ (kE G);omega)) λ_ he u=>⟨vb (by unfold ur mj;first|(rw[fV B];rfl)|(rw[ew cO,nt cO];simp;done)|(rw[ew cO,G,ez B];dsimp only;first|(rw[fV E];rfl)|(rw[ez E];rfl))),u⟩)))))))) λE=>⟨vb (by unfold ur mj;first|(rw[fV B];rfl)|(rw[ew cO,nt cO];simp;done)|(rw[ew cO,G,ez B];dsimp only;first|(rw[fV E];rfl)|(rw[ez E];rfl))),u⟩))
 rintro _ _ ⟨rfl,u⟩ _;refine bD (λJ=>?_) (λJ=>?_)
 .obtain⟨_,M,Z,_,_⟩:=B0 J;obtain⟨atl,atm,O⟩:=m9 Z;have Hk:l[(s.at_+1-1).toNat]?=some M:=by rw[<- O];congr 2;omega
  refine aE (aA fo (aB bL u.hb rfl (aO cO (aE (aA fo (aT u bL (dQ rfl) (rfl) λ_ u=>aE (aA iR (have u:=u.drew;aB jw u.hb rfl (aE (aA fo (aB bL u.hb rfl ?_)))))))))));refine ft cO (aQ fS (I _ u.aG) cO Hk λ_ DC=>bX M.text nU DC rfl rfl λ_ U=>aD gK U ?_);have hb:dH l s=({s with at_:=s.at_+1},M.text):=by unfold dH;rw[ew J];unfold qg;rw[Z];rfl
  rw[hb];exact⟨rfl,u.mut⟩
 refine bG H0 u (H':=λ_=>bW p (eC lv ov (jG l s 5))) (Φ:=λ_ _=>True) (λF2 et ea=>?_) ?_
 .exact(C291 p lv ov l s 5 F2 _ et (λw' hc=>I w' (ea w' hc).aG) V Y).mono λ_ _ r=>r.mono λ_ _ h=>⟨trivial,h.2⟩
 rintro _ _ _ u;have hb:dH l s=(jG l s 5,⟨#[]⟩):=by unfold dH;rw[ej (by simpa using J)]
 rw[hb];exact⟨rfl,u.mut⟩
def C133(p:Nat)(lv:Value)(l:List bU)(s:fX)(F:Nat->Prop)(w:World)(hF:(bW p (eI lv s)).p w F)(J:∀w',gJ F w w'->dD (λ_=>True) w' lv l)(W:js l)(h0:lT l s):CR 133 [(.pointer (some ⟨p,0,none⟩))] w (λv w'=>v=ir (fp l s).2/\nd F (bW p (eI lv (fp l s).1)) w w'):=by
 have u:=St.begin hF;have EA:=W.n;have hn:l.length<=1000000:=cO
 have te:=W.at_;obtain⟨Uj,Uk⟩:=id h0;refine pj Tryz.func133 (pl:=awU) ?_;refine aN u pA (λwZ _ u=>⟨λjv w'=>jv=.bool (ur l s)/\St w F [bW p (eI lv s),bW wZ (j0 (⟨kp #[],0,0⟩:cN))] w',?_,?_⟩)
 .refine aE (aA mI (have u:=u.drew;aB jU u.p1.hb rfl (aH (aC (λB=>aE (aA fG (aB bL u.p1.hb rfl (aE (aA ko (aB jw u.p1.hb rfl (aK fS (J _ u.aG) (aR (aC (λl6=>?_) λl6=>have u:=u.p1;⟨vb (by unfold ur mj;first|(rw[fV B];rfl)|(rw[ew cO,nt cO];simp;done)|(rw[ew cO,I,ez B];dsimp only;first|(rw[fV E];rfl)|(rw[ez E];rfl))),u⟩))))))))) λB=>have u:=u.p1;⟨vb (by unfold ur mj;first|(rw[fV B];rfl)|(rw[ew cO,nt cO];simp;done)|(rw[ew cO,I,ez B];dsimp only;first|(rw[fV E];rfl)|(rw[ez E];rfl))),u⟩))))
  refine aE (aA ko (aB jw u.p1.hb rfl (aE (aA fG (aB bL u.p1.hb rfl ?_)))));obtain⟨Y,I⟩:=gx l (i:=s.at_.toNat) cO;refine aQ fS (J _ u.aG) cO I (λ_ Bv=>bX Y.kind lX Bv rfl rfl λ_ mO=>?_);exact aD bL mO (aH (aC (λE=>aE (aA ko (aB jw u.p1.hb rfl (aE (aA fG (aB bL u.p1.hb rfl (aQ fS (J _ u.aG) cO I λ_ wO=>bX Y.text nU wO rfl rfl λ_ vu=>aD gK vu (aW uY u (C211 _ _ (by have:=te _ (kE I);omega)) λ_ he u=>have u:=u.p1;⟨vb (by unfold ur mj;first|(rw[fV B];rfl)|(rw[ew cO,nt cO];simp;done)|(rw[ew cO,I,ez B];dsimp only;first|(rw[fV E];rfl)|(rw[ez E];rfl))),u⟩)))))))) λE=>have u:=u.p1;⟨vb (by unfold ur mj;first|(rw[fV B];rfl)|(rw[ew cO,nt cO];simp;done)|(rw[ew cO,I,ez B];dsimp only;first|(rw[fV E];rfl)|(rw[ez E];rfl))),u⟩))
 rintro _ _ ⟨rfl,u⟩ _;refine bD (λM=>?_) (λM=>?_)
 .obtain⟨_,G,Pm,_,_⟩:=B0 M;obtain⟨atl,atm,O⟩:=m9 Pm;have Z:l[(s.at_+1-1).toNat]?=some G:=by rw[<- O];congr 2;omega
  refine aE (aA fG (aB bL u.hb rfl (aO cO (aE (aA fG (aT u bL (dQ rfl) (rfl) λ_ u=>aE (aA ko (have u:=u.drew;aB jw u.hb rfl (aE (aA fG (aB bL u.hb rfl ?_)))))))))));refine ft cO (aQ fS (J _ u.aG) cO Z λ_ DC=>bX G.text nU DC rfl rfl λ_ U=>aD gK U (aE (aA ko (aB jw u.hb rfl (aE (aA fG (aB bL u.hb rfl (ft cO (aQ fS (J _ u.aG) cO Z λ_ V=>bX G.at_ lY V rfl rfl λ_ Ox=>?_)))))))))
  refine aD bL Ox (pop (Fa _ _) (aJ (x:=(⟨G.text,0,G.at_⟩:cN)) u.p1 mw rfl rfl λ_ u=>aD mw u.At ?_));have u:=u.drop;have hb:fp l s=({s with at_:=s.at_+1},⟨G.text,0,G.at_⟩):=by unfold fp;rw[ew M];unfold qg;rw[Pm];rfl
  rw[hb];exact⟨rfl,u.mut⟩
 refine bG Sy u (H':=λ_=>bW p (eI lv (jG l s 5))) (Φ:=λ_ _=>True) (λF2 et ea=>?_) ?_
 .exact(C136 p lv l s F2 _ et (λw' hc=>J w' (ea w' hc).aG) W h0).mono λ_ _ r=>r.mono λ_ _ h=>⟨trivial,h.2⟩
 rintro _ _ _ u;refine pop ad9 (aJ (x:=(⟨(kp #[]),0,0⟩:cN)) u.p1 mw rfl rfl λ_ u=>aD mw u.At ?_);have u:=u.drop;have hb:fp l s=(jG l s 5,⟨⟨#[]⟩,0,0⟩):=by unfold fp;rw[ej (by simpa using M)]
 rw[hb];exact⟨rfl,u.mut⟩
def C290(k:Int)(w:World)(M:0<=k/\k<=14):CR 290 [hZ k] w (λv w'=>v=.string (I2 k)/\Ext w w'):=by
 have u:=St.start w;refine fj Tryz.func290 ?_;refine aV EJ u iK rfl rfl (dQ rfl) (λG _ u=>?_);have J:EJ.length=15:=rfl;obtain⟨I,E⟩:=gx EJ (i:=k.toNat) cO;refine dT u iK cO cO (λ_ B=>gq u gK B E ?_);refine⟨?_,u.drop.aG⟩;unfold I2;rw[E];rfl
def C319(p:Nat)(lv ov:Value)(l:List bU)(s:fX)(F:Nat->Prop)(w:World)(hF:(bW p (eC lv ov s)).p w F)(E:∀w',gJ F w w'->dD (λ_=>True) w' lv l)(M:js l)(Y:lT l s):CR 319 [(.pointer (some ⟨p,0,none⟩))] w (λv w'=>v=hZ (lz l s).2/\nd F (bW p (eC lv ov (lz l s).1)) w w'):=by
 have u:=St.begin hF;have EA:=M.n;have hn:l.length<=1000000:=cO
 have te:=M.at_;obtain⟨Uj,Uk⟩:=id Y;refine pj Tryz.func319 (pl:=axv) ?_;refine⟨λZ w'=>Z=.bool (Rz l s)/\St w F [bW p (eC lv ov s)] w',?_,?_⟩
 .refine aE (aA lf (have u:=u.drew;aB jU u.hb rfl (aH (aC (λB=>aE (aA fo (aB bL u.hb rfl (aE (aA iR (aB jw u.hb rfl (aK fS (E _ u.aG) (aR (aC (λfE=>?_) λfE=>⟨vb (by unfold Rz mj;first|(rw[fV B];rfl)|(rw[ew cO,nt cO];simp;done)|(rw[ew cO,J,ez B];rfl)),u⟩))))))))) λB=>⟨vb (by unfold Rz mj;first|(rw[fV B];rfl)|(rw[ew cO,nt cO];simp;done)|(rw[ew cO,J,ez B];rfl)),u⟩))))
  refine aE (aA iR (aB jw u.hb rfl (aE (aA fo (aB bL u.hb rfl ?_)))));obtain⟨rL,J⟩:=gx l (i:=s.at_.toNat) cO;exact aQ fS (E _ u.aG) cO J (λ_ mO=>bX rL.kind lX mO rfl rfl λ_ tc=>aD bL tc (aH ⟨vb (by unfold Rz mj;first|(rw[fV B];rfl)|(rw[ew cO,nt cO];simp;done)|(rw[ew cO,J,ez B];rfl)),u⟩))
 rintro _ _ ⟨rfl,u⟩ _;refine bD (λG=>?_) (λG=>?_)
 .obtain⟨_,I,Pm,_⟩:=Ui G;obtain⟨atl,atm,Hk⟩:=m9 Pm;refine aE (aA iR (have u:=u.drew;aB jw u.hb rfl (aE (aA fo (aB bL u.hb rfl (aQ fS (E _ u.aG) cO Hk λ_ wO=>bX I.n sO wO rfl rfl λ_ vu=>aD bL vu ⟨λZ w'=>Z=.bool (decide (1<=I.n/\I.n<=8))/\St w F [bW p (eC lv ov s)] w',cT (aC (λ_=>gz ⟨vb (by first|exact(fV cO).symm|exact ga.2 cO),u⟩) λ_=>⟨vb (by first|exact(fV cO).symm|exact ga.2 cO),u⟩),?_⟩))))))
  rintro _ _ ⟨rfl,u⟩ _;refine aC (λW=>?_) (λW=>?_)
  .refine aE (aA fo (aB bL u.hb rfl (aO cO (aE (aA fo (aT u bL (dQ rfl) (rfl) λ_ u=>?_))))));have hb:lz l s=({s with at_:=s.at_+1},I.n):=by unfold lz;rw[ew G];unfold qg;rw[Pm];exact ew W
   rw[hb];exact⟨rfl,u.mut⟩
  refine bG H0 u (H':=λ_=>bW p (eC lv ov (jG l s 11))) (Φ:=λ_ _=>True) (λV U O=>?_) ?_
  .exact(C291 p lv ov l s 11 V _ U (λw' hc=>E w' (O w' hc).aG) M Y).mono λ_ _ r=>r.mono λ_ _ h=>⟨trivial,h.2⟩
  rintro _ _ _ u;have hb:lz l s=(jG l s 11,0):=by unfold lz;rw[ew G];unfold qg;rw[Pm];exact ej W
  rw[hb];exact⟨rfl,u.mut⟩
 refine bG H0 u (H':=λ_=>bW p (eC lv ov (jG l s 5))) (Φ:=λ_ _=>True) (λV U O=>?_) ?_
 .exact(C291 p lv ov l s 5 V _ U (λw' hc=>E w' (O w' hc).aG) M Y).mono λ_ _ r=>r.mono λ_ _ h=>⟨trivial,h.2⟩
 rintro _ _ _ u;have hb:lz l s=(jG l s 5,0):=by unfold lz;rw[ej (by simpa using G)]
 rw[hb];exact⟨rfl,u.mut⟩
def C318(p:Nat)(lv ov:Value)(l:List bU)(s:fX)(G:fX)(x:List cC)(F:Nat->Prop)(w:World)(Z:(bW p (eC lv ov s)).p w F)(Y:∀w',gJ F w w'->dD (λ_=>True) w' lv l)(O:js l)(h0:lT l s)(J:rT l s=some (G,x)):CR 318 [(.pointer (some ⟨p,0,none⟩))] w (λv w'=>nd F (qm λsv:SV=>fact (v=ir sv) (sep (bW p (eC lv ov G)) (dZ λw=>DL w (ir sv) x))) w w'):=by
 have u:=St.begin Z;have EA:=O.n;have hn:l.length<=1000000:=cO
 have te:=O.at_;obtain⟨Uj,Uk⟩:=id h0;refine pj Tryz.func318 (pl:=axu) ?_;refine aE (aA lf (aB jU u.hb rfl (bQ (aC (λV=>?_) λV=>?_))))
 .have B:((s,[]):fX×List cC)=(G,x):=by unfold rT at J;rw[ew V]at J;exact n5.inj J
  cases B;have u:=(u.fk (Φ:=λw=>DL w (ir (bY:SV)) ([]:List cC)) λw=>DL.nil w).p1;exact(St.eB (bY:SV) (St.oW rfl (St.join u))).mut
 refine aE (aA iR (have u:=u.drew;aB jw u.hb rfl (aE (aA fo (aB bL u.hb rfl ?_)))));obtain⟨R,M,E⟩:=abe J cO;refine dO ahj (C213 l _ s.at_ R _ (Y _ u.aG) O cO M) ?_;rintro _ _ ⟨U,rfl,cI⟩;have u:=u.made cI;refine aM rfl (aM rfl (aM rfl (aM rfl (bQ (aC (λI=>?_) λI=>?_)))))
 .refine aE (aA lf (aT u.p1 jU (dQ rfl) (rfl) λ_ u=>aE (aA Be (aT u bL (dQ rfl) (rfl) λ_ u=>?_))));have B:(({s with e:=R.2.2.1,pos:=R.2.2.2},[]):fX×List cC)=(G,x):=by rw[ew I]at E;exact n5.inj E
  cases B;have u:=(u.p1.drop.fk (Φ:=λw=>DL w (ir (bY:SV)) ([]:List cC)) λw=>DL.nil w).p1;exact(St.eB (bY:SV) (St.oW rfl (St.join u))).mut
 have W:=abf E I;refine aE (aA fo (aT u.p1 bL (dQ rfl) (rfl) λ_ u=>?_));have B:(({s with at_:=R.2.1},R.1):fX×List cC)=(G,x):=by rw[ej I,ew W]at E;exact n5.inj E
 cases B;have u:=u.p1.p1;exact(St.eB U (St.oW rfl (St.join u))).mut
def Pt(k at_:Int):bR:=⟨k,⟨#[]⟩,⟨#[]⟩,[],[],0,0,0,at_⟩
abbrev LC:ByteArray:=⟨#[61]⟩
def Xf(l:List bU)(s:fX):fX:=ef l (dH l s).1 (kp #[61])
def s2M(l:List bU)(s:fX):fX:=ef l (dH l (Xf l s)).1 (kp #[44])
def lB(l:List bU)(s:fX)(k a:Int):Option (fX×bR):=
 if k=1 then(rT l (Xf l s)).bind λr=>some (r.1,{Pt k a with eN:=(dH l s).2,e:=r.2})
 else if k=2 then some ((dH l (Xf l s)).1,{Pt k a with eN:=(dH l s).2,name:=(dH l (Xf l s)).2})
 else if k=3 then(rT l (Xf l s)).bind λr=>some (r.1,{Pt k a with name:=(dH l s).2,e:=r.2})
 else if k=4 then(rT l (s2M l s)).bind λr=>(rT l (ef l r.1 (kp #[44]))).bind λq=>some (q.1,{Pt k a with eN:=(dH l s).2,name:=(dH l (Xf l s)).2,e:=r.2,f:=q.2})
 else if k=5\/k=6\/k=9\/k=10 then some ((dH l s).1,{Pt k a with name:=(dH l s).2})
 else if k=11\/k=14 then(rT l s).bind λr=>some (r.1,{Pt k a with e:=r.2})
 else if k=12 then some ((lz l s).1,{Pt k a with n:=(lz l s).2})
 else some (s,Pt k a)
section
variable {l:List bU}{s s':fX}{k a:Int}{x:bR}
theorem fa{α β γ:Type}{o:Option (α×β)}{g:α×β->Option γ}{c:γ}(h:o.bind g=some c):∃p q,o=some (p,q)/\g (p,q)=some c:=by
 cases o with
 | none=>cases h
 | some r=>grind
theorem Ul(h:lB l s k a=some (s',x))(u:k=1):∃q e,rT l (Xf l s)=some (q,e)/\s'=q/\x={Pt k a with eN:=(dH l s).2,e:=e}:=by
 unfold lB at h;rw[ew u]at h
 obtain⟨q,e,h1,h2⟩:=fa h
 grind
theorem Um(h:lB l s k a=some (s',x))(u:k=2):s'=(dH l (Xf l s)).1/\x={Pt k a with eN:=(dH l s).2,name:=(dH l (Xf l s)).2}:=by
 unfold lB at h;grind
theorem Un(h:lB l s k a=some (s',x))(u:k=3):∃q e,rT l (Xf l s)=some (q,e)/\s'=q/\x={Pt k a with name:=(dH l s).2,e:=e}:=by
 unfold lB at h;rw[ej cO,ej cO,ew u]at h
 obtain⟨q,e,h1,h2⟩:=fa h
 grind
theorem Uo(h:lB l s k a=some (s',x))(B:k=4):∃q e u f,rT l (s2M l s)=some (q,e)/\rT l (ef l q (kp #[44]))=some (u,f)/\s'=u/\x={Pt k a with eN:=(dH l s).2,name:=(dH l (Xf l s)).2,e:=e,f:=f}:=by
 unfold lB at h;rw[ej cO,ej cO,ej cO,ew B]at h
 obtain⟨q,e,h1,h2⟩:=fa h
 obtain⟨u,f,h3,h4⟩:=fa h2
 grind
theorem Up(h:lB l s k a=some (s',x))(u:k=5\/k=6\/k=9\/k=10):s'=(dH l s).1/\x={Pt k a with name:=(dH l s).2}:=by
 unfold lB at h;grind
theorem Oy(h:lB l s k a=some (s',x))(u:k=11\/k=14):∃q e,rT l s=some (q,e)/\s'=q/\x={Pt k a with e:=e}:=by
 unfold lB at h;rw[ej cO,ej cO,ej cO,ej cO,ej cO,ew u]at h
 obtain⟨q,e,h1,h2⟩:=fa h
 grind
theorem Oz(h:lB l s k a=some (s',x))(u:k=12):s'=(lz l s).1/\x={Pt k a with n:=(lz l s).2}:=by
 unfold lB at h;grind
theorem OA(h:lB l s k a=some (s',x))(h1:¬ k=1)(h2:¬ k=2)(h3:¬ k=3)(h4:¬ k=4)(h5:¬ (k=5\/k=6\/k=9\/k=10))(h6:¬ (k=11\/k=14))(u:¬ k=12):s'=s/\x=Pt k a:=by
 unfold lB at h;grind
end
def Dc{l:List bU}{s s':fX}{k a:Int}{x:bR}(B:lT l s)(h:lB l s k a=some (s',x)):lT l s':=by
 have E:lT l (Xf l s):=fR (gZ B)
 have G:lT l (s2M l s):=fR (gZ E)
 by_cases h1:k=1
 .obtain⟨q,e,u,rfl,_⟩:=Ul h h1;exact tJ E u
 by_cases h2:k=2
 .obtain⟨rfl,_⟩:=Um h h2;exact gZ E
 by_cases h3:k=3
 .obtain⟨q,e,u,rfl,_⟩:=Un h h3;exact tJ E u
 by_cases h4:k=4
 .obtain⟨q,e,M,f,u,J,rfl,_⟩:=Uo h h4;exact tJ (fR (tJ G u)) J
 by_cases h5:k=5\/k=6\/k=9\/k=10
 .obtain⟨rfl,_⟩:=Up h h5;exact gZ B
 by_cases h6:k=11\/k=14
 .obtain⟨q,e,u,rfl,_⟩:=Oy h h6;exact tJ B u
 by_cases I:k=12
 .obtain⟨rfl,_⟩:=Oz h I;exact V8 B
 obtain⟨rfl,_⟩:=OA h h1 h2 h3 h4 h5 h6 I;exact B
def yq{α σ:Type}[Flat σ][Deep α σ]{w w0:World}{A:Nat->Prop}{L:List HP}{B:HP}{u:σ}{x:α}(E:St w0 A (B::dZ (λw=>mi w u x)::L) w) :
  St w0 A ((qm λs:σ=>fact (ir u=ir s) (sep B (dZ λw=>mi w s x)))::L) w:=
 St.eB (H:=λs:σ=>fact (ir u=ir s) (sep B (dZ λw=>mi w s x))) u (St.oW rfl (St.join E))
def C292(p:Nat)(lv ov:Value)(l:List bU)(s:fX)(B a:Int)(Y:fX)(x:bR)(F:Nat->Prop)(w:World)(hF:(bW p (eC lv ov s)).p w F)(O:∀w',gJ F w w'->dD (λ_=>True) w' lv l)(J:js l)(M:lT l s)(hp:lB l s B a=some (Y,x)):CR 292 [(.pointer (some ⟨p,0,none⟩)),hZ B,hZ a] w (λv w'=>nd F (qm λsh:bF=>fact (v=ir sh) (sep (bW p (eC lv ov Y)) (dZ λw=>mi w sh x))) w w'):=by
 have u:=St.begin hF;have EA:=J.n;have hn:l.length<=1000000:=cO
 have te:=J.at_;obtain⟨Uj,Uk⟩:=id M;refine fj Tryz.func292 ?_;refine aN u jD (λRd _ u=>have u:=u.enc (cs':=j0 (⟨0,(kp #[]),(kp #[]),bY,bY,0,0,0,0⟩:bF)) rfl;pop (Qb _ _) (aN u jD λxQ _ u=>have u:=u.enc (cs':=j0 (⟨0,(kp #[]),(kp #[]),bY,bY,0,0,0,0⟩:bF)) rfl;aJ (x:=(⟨B,(kp #[]),(kp #[]),bY,bY,0,0,0,a⟩:bF)) u eU rfl rfl λw3 u=>?_));refine⟨_,?_,λ_ h=>h⟩;refine aH (aC (λxL=>?_) λxL=>aH (aC (λnA=>?_) λnA=>aH (aC (λzS=>?_) λzS=>aH (aC (λwF=>?_) λwF=>⟨λjv w'=>jv=.bool (decide (B=5\/B=6\/B=9\/B=10))/\w3=w',aH (aC (λ_=>⟨vb dI,rfl⟩) λ_=>aH (aC (λ_=>⟨vb dI,rfl⟩) λ_=>aH (aC (λ_=>⟨vb dI,rfl⟩) λ_=>aH ⟨vb dI,rfl⟩))),?_⟩))))
 .obtain⟨q,e,U,rfl,rfl⟩:=Ul hp xL;refine bG E3 u.p2 (H':=λ_=>bW p (eC lv ov (dH l s).1)) (Φ:=λv _=>v=.string (dH l s).2) (λI G E=>?_) ?_
  .exact C317 p lv ov l s I _ G (λw' hc=>O w' (E w' hc).aG) J M
  rintro _ _ rfl u;refine aA iP (aT u.p1 gK (dQ rfl) (rfl) λ_ u=>have u:=u.enc (cs':=j0 (⟨B,(dH l s).2,(kp #[]),bY,bY,0,0,0,a⟩:bF)) rfl;bG zC u.p1 (H':=λ_=>bW p (eC lv ov (ef l (dH l s).1 (kp #[61])))) (Φ:=λ_ _=>True) (λI G E=>?_) ?_)
  .exact(C257 p lv ov l (dH l s).1 (kp #[61]) I _ G (λw' hc=>O w' (E w' hc).aG) J (gZ M)).mono λ_ _ r=>r.mono λ_ _ h=>⟨trivial,h.2⟩
  rintro _ _ _ u;refine bG L8 u (H':=λv=>qm λsv:SV=>fact (v=ir sv) (sep (bW p (eC lv ov Y)) (dZ λw=>DL w (ir sv) e))) (Φ:=λ_ _=>True) (λI G E=>?_) ?_
  .exact(C318 p lv ov l (ef l (dH l s).1 (kp #[61])) Y e I _ G (λw' hc=>O w' (E w' hc).aG) J (fR (gZ M)) U).mono λ_ _ r=>r.mono λ_ _ h=>⟨trivial,h⟩
  rintro v_x20 _ _ W;obtain⟨RB,V⟩:=W.eA
  clear W
  obtain⟨alZ,Z⟩:=V.mK
  clear V
  subst alZ;have u:=Z.split;refine aA jg (aT u.p2 jC (dQ rfl) (rfl) λ_ u=>?_);have u:=u.enc (cs':=j0 (⟨B,(dH l s).2,(kp #[]),RB,bY,0,0,0,a⟩:bF)) rfl;intro wG;exact aD eU u.At (aJ (x:=(⟨B,(dH l s).2,(kp #[]),RB,bY,0,0,0,a⟩:bF)) u.p3 eU rfl rfl λ_ u=>aD eU u.At (have u:=u.p3.dF (Ψ:=(λw=>mi w (⟨B,(dH l s).2,(kp #[]),RB,bY,0,0,0,a⟩:bF) (⟨B,(dH l s).2,(kp #[]),e,[],0,0,0,a⟩:bR))) (λ_ h=>⟨_,_,rfl,id h,DL.nil _⟩);have u:=u.p1.drop.p1.drop.p1;(yq u).mut))
 .obtain⟨rfl,rfl⟩:=Um hp nA;refine bG E3 u.p2 (H':=λ_=>bW p (eC lv ov (dH l s).1)) (Φ:=λv _=>v=.string (dH l s).2) (λI G E=>?_) ?_
  .exact C317 p lv ov l s I _ G (λw' hc=>O w' (E w' hc).aG) J M
  rintro _ _ rfl u;refine aA iP (aT u.p1 gK (dQ rfl) (rfl) λ_ u=>have u:=u.enc (cs':=j0 (⟨B,(dH l s).2,(kp #[]),bY,bY,0,0,0,a⟩:bF)) rfl;bG zC u.p1 (H':=λ_=>bW p (eC lv ov (ef l (dH l s).1 (kp #[61])))) (Φ:=λ_ _=>True) (λI G E=>?_) ?_)
  .exact(C257 p lv ov l (dH l s).1 (kp #[61]) I _ G (λw' hc=>O w' (E w' hc).aG) J (gZ M)).mono λ_ _ r=>r.mono λ_ _ h=>⟨trivial,h.2⟩
  rintro _ _ _ u;refine bG E3 u (H':=λ_=>bW p (eC lv ov (dH l (ef l (dH l s).1 (kp #[61]))).1)) (Φ:=λv _=>v=.string (dH l (ef l (dH l s).1 (kp #[61]))).2) (λI G E=>?_) ?_
  .exact C317 p lv ov l (ef l (dH l s).1 (kp #[61])) I _ G (λw' hc=>O w' (E w' hc).aG) J (fR (gZ M))
  rintro _ _ rfl u;refine aA gw (aT u.p1 gK (dQ rfl) (rfl) λ_ u=>?_);have u:=u.enc (cs':=j0 (⟨B,(dH l s).2,(dH l (ef l (dH l s).1 (kp #[61]))).2,bY,bY,0,0,0,a⟩:bF)) rfl;intro wG;exact aD eU u.At (aJ (x:=(⟨B,(dH l s).2,(dH l (ef l (dH l s).1 (kp #[61]))).2,bY,bY,0,0,0,a⟩:bF)) u.p2 eU rfl rfl λ_ u=>aD eU u.At (have u:=u.fk (Φ:=(λw=>mi w (⟨B,(dH l s).2,(dH l (ef l (dH l s).1 (kp #[61]))).2,bY,bY,0,0,0,a⟩:bF) (⟨B,(dH l s).2,(dH l (ef l (dH l s).1 (kp #[61]))).2,[],[],0,0,0,a⟩:bR))) (λ_=>⟨_,_,rfl,DL.nil _,DL.nil _⟩);have u:=u.p1.drop.p1.drop.p1;(yq u).mut))
 .obtain⟨q,e,U,rfl,rfl⟩:=Un hp zS;refine bG E3 u.p2 (H':=λ_=>bW p (eC lv ov (dH l s).1)) (Φ:=λv _=>v=.string (dH l s).2) (λI G E=>?_) ?_
  .exact C317 p lv ov l s I _ G (λw' hc=>O w' (E w' hc).aG) J M
  rintro _ _ rfl u;refine aA gw (aT u.p1 gK (dQ rfl) (rfl) λ_ u=>have u:=u.enc (cs':=j0 (⟨B,(kp #[]),(dH l s).2,bY,bY,0,0,0,a⟩:bF)) rfl;bG zC u.p1 (H':=λ_=>bW p (eC lv ov (ef l (dH l s).1 (kp #[61])))) (Φ:=λ_ _=>True) (λI G E=>?_) ?_)
  .exact(C257 p lv ov l (dH l s).1 (kp #[61]) I _ G (λw' hc=>O w' (E w' hc).aG) J (gZ M)).mono λ_ _ r=>r.mono λ_ _ h=>⟨trivial,h.2⟩
  rintro _ _ _ u;refine bG L8 u (H':=λv=>qm λsv:SV=>fact (v=ir sv) (sep (bW p (eC lv ov Y)) (dZ λw=>DL w (ir sv) e))) (Φ:=λ_ _=>True) (λI G E=>?_) ?_
  .exact(C318 p lv ov l (ef l (dH l s).1 (kp #[61])) Y e I _ G (λw' hc=>O w' (E w' hc).aG) J (fR (gZ M)) U).mono λ_ _ r=>r.mono λ_ _ h=>⟨trivial,h⟩
  rintro v_x40 _ _ W;obtain⟨RC,V⟩:=W.eA
  clear W
  obtain⟨al0,Z⟩:=V.mK
  clear V
  subst al0;have u:=Z.split;refine aA jg (aT u.p2 jC (dQ rfl) (rfl) λ_ u=>?_);have u:=u.enc (cs':=j0 (⟨B,(kp #[]),(dH l s).2,RC,bY,0,0,0,a⟩:bF)) rfl;intro wG;exact aD eU u.At (aJ (x:=(⟨B,(kp #[]),(dH l s).2,RC,bY,0,0,0,a⟩:bF)) u.p3 eU rfl rfl λ_ u=>aD eU u.At (have u:=u.p3.dF (Ψ:=(λw=>mi w (⟨B,(kp #[]),(dH l s).2,RC,bY,0,0,0,a⟩:bF) (⟨B,(kp #[]),(dH l s).2,e,[],0,0,0,a⟩:bR))) (λ_ h=>⟨_,_,rfl,id h,DL.nil _⟩);have u:=u.p1.drop.p1.drop.p1;(yq u).mut))
 .obtain⟨q,e,q2,f,U,hfx,rfl,rfl⟩:=Uo hp wF;refine bG E3 u.p2 (H':=λ_=>bW p (eC lv ov (dH l s).1)) (Φ:=λv _=>v=.string (dH l s).2) (λI G E=>?_) ?_
  .exact C317 p lv ov l s I _ G (λw' hc=>O w' (E w' hc).aG) J M
  rintro _ _ rfl u;refine aA iP (aT u.p1 gK (dQ rfl) (rfl) λ_ u=>have u:=u.enc (cs':=j0 (⟨B,(dH l s).2,(kp #[]),bY,bY,0,0,0,a⟩:bF)) rfl;bG zC u.p1 (H':=λ_=>bW p (eC lv ov (ef l (dH l s).1 (kp #[61])))) (Φ:=λ_ _=>True) (λI G E=>?_) ?_)
  .exact(C257 p lv ov l (dH l s).1 (kp #[61]) I _ G (λw' hc=>O w' (E w' hc).aG) J (gZ M)).mono λ_ _ r=>r.mono λ_ _ h=>⟨trivial,h.2⟩
  rintro _ _ _ u;refine bG E3 u (H':=λ_=>bW p (eC lv ov (dH l (ef l (dH l s).1 (kp #[61]))).1)) (Φ:=λv _=>v=.string (dH l (ef l (dH l s).1 (kp #[61]))).2) (λI G E=>?_) ?_
  .exact C317 p lv ov l (ef l (dH l s).1 (kp #[61])) I _ G (λw' hc=>O w' (E w' hc).aG) J (fR (gZ M))
  rintro _ _ rfl u;refine aA gw (aT u.p1 gK (dQ rfl) (rfl) λ_ u=>have u:=u.enc (cs':=j0 (⟨B,(dH l s).2,(dH l (ef l (dH l s).1 (kp #[61]))).2,bY,bY,0,0,0,a⟩:bF)) rfl;bG zC u.p1 (H':=λ_=>bW p (eC lv ov (ef l (dH l (ef l (dH l s).1 (kp #[61]))).1 (kp #[44])))) (Φ:=λ_ _=>True) (λI G E=>?_) ?_)
  .exact(C257 p lv ov l (dH l (ef l (dH l s).1 (kp #[61]))).1 (kp #[44]) I _ G (λw' hc=>O w' (E w' hc).aG) J (gZ (fR (gZ M)))).mono λ_ _ r=>r.mono λ_ _ h=>⟨trivial,h.2⟩
  rintro _ _ _ u;refine bG L8 u (H':=λv=>qm λsv:SV=>fact (v=ir sv) (sep (bW p (eC lv ov q)) (dZ λw=>DL w (ir sv) e))) (Φ:=λ_ _=>True) (λI G E=>?_) ?_
  .exact(C318 p lv ov l (ef l (dH l (ef l (dH l s).1 (kp #[61]))).1 (kp #[44])) q e I _ G (λw' hc=>O w' (E w' hc).aG) J (fR (gZ (fR (gZ M)))) U).mono λ_ _ r=>r.mono λ_ _ h=>⟨trivial,h⟩
  rintro v_x55 _ _ W;obtain⟨Gx,V⟩:=W.eA
  clear W
  obtain⟨al1,Z⟩:=V.mK
  clear V
  subst al1;have u:=Z.split;refine aA jg (aT u.p2 jC (dQ rfl) (rfl) λ_ u=>have u:=u.enc (cs':=j0 (⟨B,(dH l s).2,(dH l (ef l (dH l s).1 (kp #[61]))).2,Gx,bY,0,0,0,a⟩:bF)) rfl;bG zC u.p1 (H':=λ_=>bW p (eC lv ov (ef l q (kp #[44])))) (Φ:=λ_ _=>True) (λI G E=>?_) ?_)
  .exact(C257 p lv ov l q (kp #[44]) I _ G (λw' hc=>O w' (E w' hc).aG) J (tJ (fR (gZ (fR (gZ M)))) U)).mono λ_ _ r=>r.mono λ_ _ h=>⟨trivial,h.2⟩
  rintro _ _ _ u;refine bG L8 u (H':=λv=>qm λsv:SV=>fact (v=ir sv) (sep (bW p (eC lv ov Y)) (dZ λw=>DL w (ir sv) f))) (Φ:=λ_ _=>True) (λI G E=>?_) ?_
  .exact(C318 p lv ov l (ef l q (kp #[44])) Y f I _ G (λw' hc=>O w' (E w' hc).aG) J (fR (tJ (fR (gZ (fR (gZ M)))) U)) hfx).mono λ_ _ r=>r.mono λ_ _ h=>⟨trivial,h⟩
  rintro v_x60 _ _ W;obtain⟨CV,V⟩:=W.eA
  clear W
  obtain⟨al2,Z⟩:=V.mK
  clear V
  subst al2;have u:=Z.split;refine aA km (aT u.p2 jC (dQ rfl) (rfl) λ_ u=>?_);have u:=u.enc (cs':=j0 (⟨B,(dH l s).2,(dH l (ef l (dH l s).1 (kp #[61]))).2,Gx,CV,0,0,0,a⟩:bF)) rfl;intro wG;exact aD eU u.At (aJ (x:=(⟨B,(dH l s).2,(dH l (ef l (dH l s).1 (kp #[61]))).2,Gx,CV,0,0,0,a⟩:bF)) u.p4 eU rfl rfl λ_ u=>aD eU u.At (have u:=u.p4.p4.p1.gv.dF (Ψ:=(λw=>mi w (⟨B,(dH l s).2,(dH l (ef l (dH l s).1 (kp #[61]))).2,Gx,CV,0,0,0,a⟩:bF) (⟨B,(dH l s).2,(dH l (ef l (dH l s).1 (kp #[61]))).2,e,f,0,0,0,a⟩:bR))) (λ_ h=>⟨_,_,rfl,id h.1,id h.2⟩);have u:=u.p1.drop.p1.drop.p1;(yq u).mut))
 rintro _ _ ⟨rfl,hw⟩ _;subst hw;refine aC (λTi=>?_) (λTi=>⟨λjv w'=>jv=.bool (decide (B=11\/B=14))/\w3=w',aH (aC (λ_=>⟨vb dI,rfl⟩) λ_=>aH ⟨vb dI,rfl⟩),?_⟩)
 .obtain⟨rfl,rfl⟩:=Up hp Ti;refine bG E3 u.p2 (H':=λ_=>bW p (eC lv ov (dH l s).1)) (Φ:=λv _=>v=.string (dH l s).2) (λI G E=>?_) ?_
  .exact C317 p lv ov l s I _ G (λw' hc=>O w' (E w' hc).aG) J M
  rintro _ _ rfl u;refine aA gw (aT u.p1 gK (dQ rfl) (rfl) λ_ u=>?_);have u:=u.enc (cs':=j0 (⟨B,(kp #[]),(dH l s).2,bY,bY,0,0,0,a⟩:bF)) rfl;intro wG;exact aD eU u.At (aJ (x:=(⟨B,(kp #[]),(dH l s).2,bY,bY,0,0,0,a⟩:bF)) u.p2 eU rfl rfl λ_ u=>aD eU u.At (have u:=u.fk (Φ:=(λw=>mi w (⟨B,(kp #[]),(dH l s).2,bY,bY,0,0,0,a⟩:bF) (⟨B,(kp #[]),(dH l s).2,[],[],0,0,0,a⟩:bR))) (λ_=>⟨_,_,rfl,DL.nil _,DL.nil _⟩);have u:=u.p1.drop.p1.drop.p1;(yq u).mut))
 rintro _ _ ⟨rfl,hw⟩ _;subst hw;refine aC (λFL=>?_) (λFL=>aH (aC (λabh=>?_) λabh=>?_))
 .obtain⟨q,e,U,rfl,rfl⟩:=Oy hp FL;refine bG L8 u.p2 (H':=λv=>qm λsv:SV=>fact (v=ir sv) (sep (bW p (eC lv ov Y)) (dZ λw=>DL w (ir sv) e))) (Φ:=λ_ _=>True) (λI G E=>?_) ?_
  .exact(C318 p lv ov l s Y e I _ G (λw' hc=>O w' (E w' hc).aG) J M U).mono λ_ _ r=>r.mono λ_ _ h=>⟨trivial,h⟩
  rintro v_x74 _ _ W;obtain⟨RD,V⟩:=W.eA
  clear W
  obtain⟨al3,Z⟩:=V.mK
  clear V
  subst al3;have u:=Z.split;refine aA jg (aT u.p2 jC (dQ rfl) (rfl) λ_ u=>?_);have u:=u.enc (cs':=j0 (⟨B,(kp #[]),(kp #[]),RD,bY,0,0,0,a⟩:bF)) rfl;intro wG;exact aD eU u.At (aJ (x:=(⟨B,(kp #[]),(kp #[]),RD,bY,0,0,0,a⟩:bF)) u.p3 eU rfl rfl λ_ u=>aD eU u.At (have u:=u.p3.dF (Ψ:=(λw=>mi w (⟨B,(kp #[]),(kp #[]),RD,bY,0,0,0,a⟩:bF) (⟨B,(kp #[]),(kp #[]),e,[],0,0,0,a⟩:bR))) (λ_ h=>⟨_,_,rfl,id h,DL.nil _⟩);have u:=u.p1.drop.p1.drop.p1;(yq u).mut))
 .obtain⟨rfl,rfl⟩:=Oz hp abh;refine bG apo u.p2 (H':=λ_=>bW p (eC lv ov (lz l s).1)) (Φ:=λv _=>v=hZ (lz l s).2) (λI G E=>?_) ?_
  .exact C319 p lv ov l s I _ G (λw' hc=>O w' (E w' hc).aG) J M
  rintro _ _ rfl u;refine aA jX (aT u.p1 bL (dQ rfl) (rfl) λ_ u=>?_);have u:=u.enc (cs':=j0 (⟨B,(kp #[]),(kp #[]),bY,bY,(lz l s).2,0,0,a⟩:bF)) rfl;intro wG;exact aD eU u.At (aJ (x:=(⟨B,(kp #[]),(kp #[]),bY,bY,(lz l s).2,0,0,a⟩:bF)) u.p2 eU rfl rfl λ_ u=>aD eU u.At (have u:=u.fk (Φ:=(λw=>mi w (⟨B,(kp #[]),(kp #[]),bY,bY,(lz l s).2,0,0,a⟩:bF) (⟨B,(kp #[]),(kp #[]),[],[],(lz l s).2,0,0,a⟩:bR))) (λ_=>⟨_,_,rfl,DL.nil _,DL.nil _⟩);have u:=u.p1.drop.p1.drop.p1;(yq u).mut))
 obtain⟨rfl,rfl⟩:=OA hp xL nA zS wF Ti FL abh;intro wG;exact aD eU u.At (aJ (x:=(⟨B,(kp #[]),(kp #[]),bY,bY,0,0,0,a⟩:bF)) u.p1 eU rfl rfl λ_ u=>aD eU u.At (have u:=u.fk (Φ:=(λw=>mi w (⟨B,(kp #[]),(kp #[]),bY,bY,0,0,0,a⟩:bF) (⟨B,(kp #[]),(kp #[]),[],[],0,0,0,a⟩:bR))) (λ_=>⟨_,_,rfl,DL.nil _,DL.nil _⟩);have u:=u.p1.drop.p1.drop.p1;(yq u).mut))
def iT(l:List bU)(a:Int):Nat->Int
 | 0=>1
 | n+1=>if uq l a (I2 ((n:Int)+2))=true then(n:Int)+2 else iT l a n
theorem Uq{l:List bU}{a:Int}:∀n:Nat,1<=iT l a n/\iT l a n<=(n:Int)+1
 | 0=>by unfold iT;omega
 | n+1=>by
  have:=Uq (l:=l) (a:=a) n
  unfold iT
  omega
theorem OB{l:List bU}{a:Int}:∀n:Nat,iT l a n=1\/∃t,uq l a t=true
 | 0=>.inl rfl
 | n+1=>by
  unfold iT
  split
  .grind
  .exact OB n
def I3{l:List bU}{a:Int}{n:Nat}(h:uq l a (I2 ((n:Int)+2))=true):iT l a (n+1)=(n:Int)+2:=ew h
def I4{l:List bU}{a:Int}{n:Nat}(h:¬ uq l a (I2 ((n:Int)+2))=true):iT l a (n+1)=iT l a n:=ej h
def s1S(l:List bU)(s:fX):fX:=if iT l s.at_ 13≠1 then {s with at_:=s.at_+1}else s
def KX{l:List bU}{s:fX}(h:lT l s):lT l (s1S l s):=by
 unfold s1S
 split
 .rename_i h1
  rcases OB (l:=l) (a:=s.at_) 13 with h2|⟨t,h2⟩
  .omega
  have:=tI h2
  exact⟨dI,dI⟩
 exact h
abbrev aiJ:ByteArray:=⟨#[101,108,115,101]⟩
def kS(l:List bU)(u:Int)(s:fX):Bool:=decide (u=11)&&decide (s.e=0)&&uq l s.at_ aiJ
def V9(s:fX):fX:={s with at_:=s.at_+1}
abbrev af1:=fX->Int->Int->Option (fX×List bR)
def Ee(l:List bU)(bW:af1)(s:fX)(d lp:Int):Option (fX×List bR):=
 if iT l s.at_ 13=13/\lp=0 then some (jG l s 5,[])
 else(lB l (s1S l s) (iT l s.at_ 13) (nM l s.at_)).bind λr=>
  if iT l s.at_ 13≠11/\iT l s.at_ 13≠12 then some (ef l r.1 ⟨#[59]⟩,[r.2])
  else(bW r.1 (d+1) (if iT l s.at_ 13=12 then lp+1 else lp)).bind λq=>
   if kS l (iT l s.at_ 13) q.1=true then(bW (V9 q.1) (d+1) lp).bind λt=>some (t.1,{r.2 with body:=(q.2.length:Int),eG:=(t.2.length:Int)}::(q.2++t.2))
   else some (q.1,{r.2 with body:=(q.2.length:Int)}::q.2)
section
variable {l:List bU}{bW:af1}{s s':fX}{d lp:Int}{add:List bR}
theorem Ur(h:Ee l bW s d lp=some (s',add))(hb:iT l s.at_ 13=13/\lp=0):s'=jG l s 5/\add=[]:=by
 unfold Ee at h;grind
theorem abi(h:Ee l bW s d lp=some (s',add))(hb:¬ (iT l s.at_ 13=13/\lp=0)):∃u x,lB l (s1S l s) (iT l s.at_ 13) (nM l s.at_)=some (u,x)/\
  (if iT l s.at_ 13≠11/\iT l s.at_ 13≠12 then some (ef l u ⟨#[59]⟩,[x])
  else(bW u (d+1) (if iT l s.at_ 13=12 then lp+1 else lp)).bind λq=>
   if kS l (iT l s.at_ 13) q.1=true then(bW (V9 q.1) (d+1) lp).bind λt=>some (t.1,{x with body:=(q.2.length:Int),eG:=(t.2.length:Int)}::(q.2++t.2))
   else some (q.1,{x with body:=(q.2.length:Int)}::q.2))=some (s',add):=by
 unfold Ee at h;rw[ej hb]at h
 obtain⟨p,q,h1,h2⟩:=fa h
 grind
theorem Us{u:Int}{J:fX}{x:bR}(h:(if u≠11/\u≠12 then some (ef l J ⟨#[59]⟩,[x])
  else(bW J (d+1) (if u=12 then lp+1 else lp)).bind λq=>
   if kS l u q.1=true then(bW (V9 q.1) (d+1) lp).bind λt=>some (t.1,{x with body:=(q.2.length:Int),eG:=(t.2.length:Int)}::(q.2++t.2))
   else some (q.1,{x with body:=(q.2.length:Int)}::q.2))=some (s',add)) (M:¬ (u≠11/\u≠12)) :
  ∃B E,bW J (d+1) (if u=12 then lp+1 else lp)=some (B,E)/\
   ((kS l u B=true/\∃I G,bW (V9 B) (d+1) lp=some (I,G)/\s'=I/\add={x with body:=(E.length:Int),eG:=(G.length:Int)}::(E++G))\/
    (kS l u B=false/\s'=B/\add={x with body:=(E.length:Int)}::E)):=by
 rw[ej M]at h
 obtain⟨B,E,h1,h2⟩:=fa h
 refine⟨B,E,h1,?_⟩
 dsimp only at h2
 cases he:kS l u B with
 | true=>
  rw[he,ew rfl]at h2
  obtain⟨I,G,h3,h4⟩:=fa h2
  grind
 | false=>
  grind
theorem I5{u:Int}{B:fX}{x:bR}(h:(if u≠11/\u≠12 then some (ef l B ⟨#[59]⟩,[x])
  else(bW B (d+1) (if u=12 then lp+1 else lp)).bind λq=>
   if kS l u q.1=true then(bW (V9 q.1) (d+1) lp).bind λt=>some (t.1,{x with body:=(q.2.length:Int),eG:=(t.2.length:Int)}::(q.2++t.2))
   else some (q.1,{x with body:=(q.2.length:Int)}::q.2))=some (s',add)) (E:u≠11/\u≠12):s'=ef l B ⟨#[59]⟩/\add=[x]:=by
 grind
end
abbrev DI:ByteArray:=⟨#[123]⟩
abbrev o9:ByteArray:=⟨#[125]⟩
def uw(l:List bU)(one:fX->Option (fX×List bR)):Nat->fX->Option (fX×List bR)
 | 0,_=>none
 | m+1,s=>if (decide (s.e=0)&&!uq l s.at_ o9)=true then(one s).bind λr=>(uw l one m r.1).bind λq=>some (q.1,r.2++q.2)else some (s,[])
def Xg(l:List bU)(s:fX)(d:Int):fX:=if (decide (12<d)&&uq l s.at_ DI)=true then jG l s 7 else s
def RE{l:List bU}{s:fX}{d:Int}(h:lT l s):lT l (Xg l s d):=by unfold Xg;split;exact uu h;exact h
def Xh(l:List bU):Nat->af1
 | 0=>λ_ _ _=>none
 | k+1=>λs d lp=>(uw l (λs=>Ee l (Xh l k) s d lp) 10000 (ef l (Xg l s d) DI)).bind λr=>some (ef l r.1 o9,r.2)
section
variable {l:List bU}{one:fX->Option (fX×List bR)}{s s':fX}{d lp:Int}{add:List bR}{m:Nat}
theorem I6(h:uw l one m s=some (s',add)):∃k,m=k+1:=by
 cases m with
 | zero=>cases h
 | succ k=>grind
theorem GK(h:uw l one (m+1) s=some (s',add))(hb:(decide (s.e=0)&&!uq l s.at_ o9)=false):s'=s/\add=[]:=by
 unfold uw at h;grind
theorem KY(h:uw l one (m+1) s=some (s',add))(hb:(decide (s.e=0)&&!uq l s.at_ o9)=true):∃B u E,one s=some (B,u)/\uw l one m B=some (s',E)/\add=u++E:=by
 unfold uw at h;rw[hb,ew rfl]at h
 obtain⟨B,u,h1,h2⟩:=fa h
 obtain⟨G,E,h3,h4⟩:=fa h2
 grind
theorem abj{k:Nat}(h:Xh l (k+1) s d lp=some (s',add)):∃u,uw l (λs=>Ee l (Xh l k) s d lp) 10000 (ef l (Xg l s d) DI)=some (u,add)/\s'=ef l u o9:=by
 unfold Xh at h
 obtain⟨u,B,h1,h2⟩:=fa h
 grind
end
def RF{l:List bU}{bW:af1}{s s':fX}{d lp:Int}{add:List bR}(hb:∀s d lp s' a,lT l s->bW s d lp=some (s',a)->lT l s')(E:lT l s)(h:Ee l bW s d lp=some (s',add)):lT l s':=by
 by_cases h1:iT l s.at_ 13=13/\lp=0
 .rw[(Ur h h1).1];exact uu E
 obtain⟨W,x,h2,h3⟩:=abi h h1
 have u:=Dc (KX E) h2
 by_cases h4:iT l s.at_ 13≠11/\iT l s.at_ 13≠12
 .rw[(I5 h3 h4).1];exact fR u
 obtain⟨V,O,h5,h6⟩:=Us h3 h4
 have I:=hb _ _ _ _ _ u h5
 rcases h6 with⟨B,U,M,J,G,_⟩|⟨_,G,_⟩
 .rw[G]
  refine hb _ _ _ _ _ ?_ J
  unfold kS at B
  rw[n4]at B
  have:=tI B.2
  grind[lT,V9]
 grind
theorem Ut{l:List bU}{one:fX->Option (fX×List bR)}(u:∀s s' a,lT l s->one s=some (s',a)->lT l s'):∀{m:Nat}{s s':fX}{add:List bR},lT l s->uw l one m s=some (s',add)->lT l s'
 | 0,_,_,_,_,h=>by cases h
 | m+1,s,s',add,B,h=>by
  cases hb:(decide (s.e=0)&&!uq l s.at_ o9)with
  | false=>rw[(GK h hb).1];exact B
  | true=>
   obtain⟨G,E,I,h1,h2,_⟩:=KY h hb
   exact Ut u (u _ _ _ B h1) h2
theorem RG{l:List bU}:∀{k:Nat}{s s':fX}{d lp:Int}{add:List bR},lT l s->Xh l k s d lp=some (s',add)->lT l s'
 | 0,_,_,_,_,_,_,h=>by cases h
 | k+1,s,s',d,lp,add,u,h=>by
  obtain⟨B,h1,h2⟩:=abj h
  rw[h2]
  exact fR (Ut (λ_ _ _ a b=>RF (λ_ _ _ _ _ c e=>RG c e) a b) (fR (RE u)) h1)
def pT(p:Nat)(lv:Value)(s:fX)(out:List bR)(Q:hM):HP:=qm λov:Value=>qm λts:List bF=>sep (bW p (eC lv ov s)) (sep (bE ov ts) (dZ λw=>fT ts out w/\Q w))
section
variable {w0 w:World}{A:Nat->Prop}{L:List HP}{p:Nat}{lv:Value}{s:fX}{out:List bR}{Q:hM}
theorem pT.open(u:St w0 A (pT p lv s out Q::L) w):∃(ov:Value) (ts:List bF),St w0 A (bW p (eC lv ov s)::bE ov ts::dZ (λw=>fT ts out w/\Q w)::L) w:=by
 obtain⟨ov,h1⟩:=u.eA
 obtain⟨ts,h2⟩:=h1.eA
 exact⟨ov,ts,h2.split.p1.split.p2⟩
theorem pT.shut{ov:Value}{ts:List bF}(u:St w0 A (bW p (eC lv ov s)::bE ov ts::dZ (λw=>fT ts out w/\Q w)::L) w):St w0 A (pT p lv s out Q::L) w:=
 St.eB (H:=λov:Value=>qm λts:List bF=>sep (bW p (eC lv ov s)) (sep (bE ov ts) (dZ λw=>fT ts out w/\Q w))) ov (St.eB (H:=λts:List bF=>sep (bW p (eC lv ov s)) (sep (bE ov ts) (dZ λw=>fT ts out w/\Q w))) ts (St.join u.p2.p2.join.p1))
end
def al4(l:List bU)(k:Nat):Prop:=∀(p:Nat) (lv:Value) (s:fX) (d lp:Int) (out:List bR) (u:fX) (add:List bR) (Q:hM) (F:Nat->Prop) (w:World),
 (pT p lv s out Q).p w F->(∀w',gJ F w w'->dD (λ_=>True) w' lv l)->lT l s->0<=d/\d+k<=1001->0<=lp/\lp+k<=1001->out.length+add.length<=1000000->Xh l k s d lp=some (u,add)->
 Calls hH 293 [.pointer (some ⟨p,0,none⟩),hZ d,hZ lp].toArray w (tQ λv w'=>v=hZ (add.length:Int)/\nd F (pT p lv u (out++add) Q) w w')
def af2{w:World}{u:bF}{x:bR}(h:mi w u x):DL w (ir u.e) x.e:=by obtain⟨_,_,rfl,h,_⟩:=h;exact h
def af3{w:World}{u:bF}{x:bR}(h:mi w u x):DL w (ir u.f) x.f:=by obtain⟨_,_,rfl,_,h⟩:=h;exact h
def RH{l:List bU}{u:Int}{s:fX}(h:kS l u s=true):lT l (V9 s):=by
 unfold kS at h
 rw[n4]at h
 have:=tI h.2
 grind[lT,V9]
def af4{α σ:Type}[Flat σ][Deep α σ]{w:World}{ts:List σ}{xs:List α}{i:Nat}{t:σ}{x:α}(h:fT ts xs w)(ht:mi w t x):fT (ts.set i t) (xs.set i x) w:=by
 grind[fT]
theorem abk{α:Type}{a b:List α}{x y:α}:(a++x::b).set a.length y=a++y::b:=by
 grind
def C256(p:Nat)(lv:Value)(l:List bU)(s:fX)(k:Nat)(d lp:Int)(out:List bR)(s2:fX)(add:List bR)(Q:hM)(F:Nat->Prop)(w:World)(hF:(pT p lv s out Q).p w F)(W:∀w',gJ F w w'->dD (λ_=>True) w' lv l)(hk:js l)(h0:lT l s)(HB:al4 l k)(hd:0<=d/\d+k<=1000)(hlp:0<=lp/\lp+k<=1000)(Hj:out.length+add.length<=1000000)(hr:Ee l (Xh l k) s d lp=some (s2,add)):CR 256 [(.pointer (some ⟨p,0,none⟩)),hZ d,hZ lp] w (λv w'=>v=.tuple #[]/\nd F (pT p lv s2 (out++add) Q) w w'):=by
 have u:=St.begin hF;obtain⟨ov,ts,u⟩:=pT.open u;have Pk:ts.length=out.length:=u.p2.dZ.1.1;have EA:=hk.n;have hn:l.length<=1000000:=cO
 have te:=hk.at_;obtain⟨Uj,Uk⟩:=id h0;refine adL _ _ _ _ _ ?_;unfold S256;refine aE (aA iR (have u:=u.drew;aB jw u.hb rfl (aE (aA fo (aB bL u.hb rfl (aW HY u (C214 _ l s.at_ _ (W _ u.aG) hn te) λ_ he u=>?_))))));have u:=u.p2.p2.p2;refine⟨λmm a b w'=>∃j:Nat,a=hZ (iT l s.at_ j)/\b=hZ ((j:Int)+2)/\mm=13-j/\j<=13/\St w F [bW p (eC lv ov s),bE ov ts,dZ λw=>fT ts out w/\Q w] w',⟨_,0,rfl,rfl,rfl,l0 _,u⟩,?_⟩;rintro mm _ _ w2 ⟨j,rfl,rfl,rfl,hj,u⟩ _;refine gz (aC (λiG=>?_) λiG=>?_)
 .refine⟨_,?_,λ_ _ h=>h⟩;refine aE (aA iR (have u:=u.drew;aB jw u.hb rfl (aE (aA fo (aB bL u.hb rfl (aW apd u (C290 ((j:Int)+2) _ cO) λ_ he u=>?_))))));refine⟨aF jw (u.hb.cell rfl),?_⟩;refine⟨aF bL (u.hb.cell rfl),?_⟩;refine aW wE u (C209 _ l s.at_ (I2 ((j:Int)+2)) _ (W _ u.aG) hn) (λ_ he u=>bD (λlI=>?_) λlI=>?_)
  .intro vH;refine aO cO ?_;exact⟨_,cO,j+1,g6 (nG .i64) (by first|exact(I3 lI).symm|exact(I4 (by rw[lI];simp)).symm),g6 (nG .i64) cO,rfl,cO,u⟩
  .intro vH;refine aO cO ?_;exact⟨_,cO,j+1,g6 (nG .i64) (by first|exact(I3 lI).symm|exact(I4 (by rw[lI];simp)).symm),g6 (nG .i64) cO,rfl,cO,u⟩
 .obtain rfl:j=13:=cO
  have YI:=Uq (l:=l) (a:=s.at_) 13;refine⟨λjv w'=>jv=.bool (decide ((iT l s.at_ 13)=13/\lp=0))/\w2=w',?_,?_⟩
  .refine aH (aC (λrQ=>?_) λrQ=>?_)
   .refine aH ?_;exact⟨zi cO,rfl⟩
   .exact⟨XE cO,rfl⟩
  .rintro _ _ ⟨rfl,hw⟩ _;subst hw;refine aC (λre=>?_) (λre=>?_)
   .refine bG H0 u (H':=λ_=>bW p (eC lv ov (jG l s 5))) (Φ:=λ_ _=>True) (λU O M=>?_) ?_
    .exact(C291 p lv ov l s 5 U _ O (λw' hc=>W w' (M w' hc).aG) hk h0).mono λ_ _ r=>r.mono λ_ _ h=>⟨trivial,h.2⟩
    rintro _ _ _ u;obtain⟨e1,e2⟩:=Ur hr re;rw[e1,e2,oO];exact⟨rfl,(pT.shut u).mut⟩
   .refine⟨λw'=>St w F [bW p (eC lv ov (s1S l s)),bE ov ts,dZ λw=>fT ts out w/\Q w] w',?_,?_⟩
    .refine bQ (aC (λxJ=>?_) λxJ=>?_)
     .refine aE (aA fo (aB bL u.hb rfl (aO cO (aE (aA fo (aT u bL (dQ rfl) (rfl) λ_ u=>?_))))));have u:=u.p2.p2.p2;have VI:(s1S l s)={s with at_:=s.at_+1}:=by unfold s1S;rw[ew cO]
      rw[VI];exact u
     .have u:=u.p2.p2.p2;have VI:(s1S l s)=s:=by unfold s1S;rw[ej cO]
      rw[VI];exact u
    .intro _ u _;obtain⟨q,x,oD,Ek⟩:=abi hr re;refine bG ape u (H':=λv=>qm λsh:bF=>fact (v=ir sh) (sep (bW p (eC lv ov q)) (dZ λw=>mi w sh x))) (Φ:=λ_ _=>True) (λU O M=>?_) ?_
     .exact(C292 p lv ov l (s1S l s) (iT l s.at_ 13) (nM l s.at_) q x U _ O (λw' hc=>W w' (M w' hc).aG) hk (KX h0) oD).mono λ_ _ r=>r.mono λ_ _ h=>⟨trivial,h⟩
     rintro v_x58 _ _ yd;obtain⟨aAB,zX⟩:=yd.eA
     clear yd
     obtain⟨al5,EK⟩:=zX.mK
     clear zX
     subst al5;have u:=EK.split
     clear EK
     obtain⟨B,E,al6,hde,hdf⟩:=u.p1.dZ;subst al6;refine aN u jD (λCH _ u=>have u:=u.enc (cs':=j0 (⟨0,(kp #[]),(kp #[]),bY,bY,0,0,0,0⟩:bF)) rfl;aJ (x:=(⟨x.kind,x.eN,x.name,B,E,x.n,x.body,x.eG,x.at_⟩:bF)) u eU rfl rfl λ_ u=>aE (aA qT (aB jW u.p1.hb rfl (aK fB u.p3.dW (aE (aA qT (have u:=u.drew;aB jW u.p1.hb rfl (aD eU u.At (aV ([(⟨x.kind,x.eN,x.name,B,E,x.n,x.body,x.eG,x.at_⟩:bF)]) u fB rfl rfl (dQ rfl) λaiv _ u=>?_)))))))))
     refine⟨aF jW (u.p2.hb.cell rfl),?_⟩;have al7:=u.dW;refine bI u.p4 fB al7 (by simp;omega) ee (λUu _ u=>have u:=u.p1.drop;aE (aA qT (aT u.p2 jW (dQ rfl) u.dW.one λ_ u=>?_)));refine⟨λjv w'=>jv=.bool (decide ((iT l s.at_ 13)≠11/\(iT l s.at_ 13)≠12))/\St w F [bW p (eC lv Uu q),bE Uu (ts++[(⟨x.kind,x.eN,x.name,B,E,x.n,x.body,x.eG,x.at_⟩:bF)]),dZ (λw=>fT (ts++[(⟨x.kind,x.eN,x.name,B,E,x.n,x.body,x.eG,x.at_⟩:bF)]) (out++[x]) w/\(λw=>Q w/\mi w (⟨x.kind,x.eN,x.name,B,E,x.n,x.body,x.eG,x.at_⟩:bF) x) w),bW CH (j0 (⟨x.kind,x.eN,x.name,B,E,x.n,x.body,x.eG,x.at_⟩:bF))] w',?_,?_⟩
     .refine bQ (aC (λato=>?_) λato=>?_)
      .refine bQ ?_;have u:=u.p3.p4.gv.dF (Ψ:=λw=>fT (ts++[(⟨x.kind,x.eN,x.name,B,E,x.n,x.body,x.eG,x.at_⟩:bF)]) (out++[x]) w/\(λw=>Q w/\mi w (⟨x.kind,x.eN,x.name,B,E,x.n,x.body,x.eG,x.at_⟩:bF) x) w) (λ_ h=>⟨h.1.1.snoc h.2,h.1.2,h.2⟩);have u:=u.p3.p1.p3.p3;exact⟨vb dI,u⟩
      .have u:=u.p3.p4.gv.dF (Ψ:=λw=>fT (ts++[(⟨x.kind,x.eN,x.name,B,E,x.n,x.body,x.eG,x.at_⟩:bF)]) (out++[x]) w/\(λw=>Q w/\mi w (⟨x.kind,x.eN,x.name,B,E,x.n,x.body,x.eG,x.at_⟩:bF) x) w) (λ_ h=>⟨h.1.1.snoc h.2,h.1.2,h.2⟩);have u:=u.p3.p1.p3.p3;exact⟨vb dI,u⟩
     .rintro _ w16 ⟨rfl,u⟩ _;refine aC (λTh=>?_) (λTh=>?_)
      .refine bG zC u (H':=λ_=>bW p (eC lv Uu (ef l q (kp #[59])))) (Φ:=λ_ _=>True) (λU O M=>?_) ?_
       .exact(C257 p lv Uu l q (kp #[59]) U _ O (λw' hc=>W w' (M w' hc).aG) hk (Dc (KX h0) oD)).mono λ_ _ r=>r.mono λ_ _ h=>⟨trivial,h.2⟩
       rintro _ _ _ u;have u:=u.p3.drop.p1.p1.p2.dF (Ψ:=λw=>fT (ts++[(⟨x.kind,x.eN,x.name,B,E,x.n,x.body,x.eG,x.at_⟩:bF)]) (out++[x]) w/\Q w) (λ_ h=>⟨h.1,h.2.1⟩);have u:=u.p2.p2;obtain⟨e1,e2⟩:=I5 Ek Th;rw[e1,e2];exact⟨rfl,(pT.shut u).mut⟩
      .refine⟨λjv w'=>jv=hZ (if (iT l s.at_ 13)=12 then lp+1 else lp)/\w16=w',?_,?_⟩
       .refine aH (aC (λatp=>?_) λatp=>?_)
        .refine aO cO ?_;exact⟨by rw[ew cO],rfl⟩
        .exact⟨by rw[ej cO],rfl⟩
       .rintro _ _ ⟨rfl,hw⟩ _;subst hw;refine aO cO ?_;have u:=pT.shut u.p2.p2.p2;obtain⟨V,G,Ly,W4⟩:=Us Ek Th;have hm1:G.length<add.length:=by rcases W4 with⟨_,s5,m2,_,_,e⟩|⟨_,_,e⟩<;>rw[e]<;>simp<;>omega
        refine bG ahr u (H':=λ_=>pT p lv V ((out++[x])++G) λw=>Q w/\mi w (⟨x.kind,x.eN,x.name,B,E,x.n,x.body,x.eG,x.at_⟩:bF) x) (Φ:=λv _=>v=hZ (G.length:Int)) (λU O M=>?_) ?_
        .exact HB p lv q (d+1) (if (iT l s.at_ 13)=12 then lp+1 else lp) (out++[x]) V G (λw=>Q w/\mi w (⟨x.kind,x.eN,x.name,B,E,x.n,x.body,x.eG,x.at_⟩:bF) x) U _ O (λw' hc=>W w' (M w' hc).aG) (Dc (KX h0) oD) cO (by split<;>omega) (by rw[lr,l2];omega) Ly
        rintro _ _ rfl u;obtain⟨ov3,v8,u⟩:=pT.open u;refine aA jh (aT u.p3 bL (dQ rfl) (rfl) λ_ u=>?_);have u:=u.enc (cs':=j0 (⟨x.kind,x.eN,x.name,B,E,x.n,(G.length:Int),x.eG,x.at_⟩:bF)) rfl;refine⟨λw'=>∃(bd el:Int) (rest:List bR),add={x with body:=bd,eG:=el}::rest/\St w F [pT p lv s2 ((out++[x])++rest) (λw=>Q w/\mi w (⟨x.kind,x.eN,x.name,B,E,x.n,x.body,x.eG,x.at_⟩:bF) x),bW CH (j0 (⟨x.kind,x.eN,x.name,B,E,x.n,bd,el,x.at_⟩:bF))] w',?_,?_⟩
        .refine⟨λjv w'=>jv=.bool (kS l (iT l s.at_ 13) V)/\St w F [bW p (eC lv ov3 V),bE ov3 v8,dZ (λw=>fT v8 ((out++[x])++G) w/\(λw=>Q w/\mi w (⟨x.kind,x.eN,x.name,B,E,x.n,x.body,x.eG,x.at_⟩:bF) x) w),bW CH (j0 (⟨x.kind,x.eN,x.name,B,E,x.n,(G.length:Int),x.eG,x.at_⟩:bF))] w',?_,?_⟩
         .refine aH (aC (λI7=>?_) λI7=>?_)
          .refine aE (aA lf (have u:=u.drew;aB jU u.p1.hb rfl (aH (aC (λCL=>?_) λCL=>?_))))
           .refine aE (aA iR (aB jw u.p1.hb rfl (aE (aA fo (aB bL u.p1.hb rfl (aW wE u (C209 _ l V.at_ (kp #[101,108,115,101]) _ (W _ u.aG) hn) λ_ he u=>?_))))));have u:=u.p3.p3.p3;exact⟨vb (by unfold kS;rw[ez I7,ez CL];rfl),u⟩
           .have u:=u.p3.p3.p3;exact⟨vb (by unfold kS;first|(rw[fV I7];rfl)|(rw[ez I7,fV CL];rfl)),u⟩
          .have u:=u.drew.p3.p3.p3;exact⟨vb (by unfold kS;first|(rw[fV I7];rfl)|(rw[ez I7,fV CL];rfl)),u⟩
         .rintro _ _ ⟨rfl,u⟩ _;refine bD (λI=>?_) (λI=>?_)
          .obtain⟨J,s5,m2,hb2,e5,Z⟩|⟨J,_⟩:=W4
           rotate_left
           .rw[J]at I;cases I
           subst e5;have hin3:=tI (show uq l V.at_ aiJ=true by unfold kS at I;rw[n4]at I;exact I.2);refine aE (aA fo (aB bL u.hb rfl (aO cO (aE (aA fo (aT u bL (dQ rfl) (rfl) λ_ u=>aO cO ?_))))));have u:=pT.shut (s:=V9 V) u.p2.p2.p2;have hkd11:(iT l s.at_ 13)=11:=by unfold kS at I;simp at I;exact I.1.1
           rw[ej (show ¬ (iT l s.at_ 13)=12 by omega)];refine bG ahr u (H':=λ_=>pT p lv s2 (((out++[x])++G)++m2) λw=>Q w/\mi w (⟨x.kind,x.eN,x.name,B,E,x.n,x.body,x.eG,x.at_⟩:bF) x) (Φ:=λv _=>v=hZ (m2.length:Int)) (λU O M=>?_) ?_
           .exact HB p lv (V9 V) (d+1) lp ((out++[x])++G) s2 m2 (λw=>Q w/\mi w (⟨x.kind,x.eN,x.name,B,E,x.n,x.body,x.eG,x.at_⟩:bF) x) U _ O (λw' hc=>W w' (M w' hc).aG) (RH I) cO cO (by have:=g6 List.length Z;simp at this |-;omega) hb2
           rintro _ _ rfl u;rw[nK (out++[x])]at u;refine aA iQ (aT u.p1 bL (dQ rfl) (rfl) λ_ u=>?_);have u:=u.enc (cs':=j0 (⟨x.kind,x.eN,x.name,B,E,x.n,(G.length:Int),(m2.length:Int),x.at_⟩:bF)) rfl;have u:=u.p1;exact⟨_,_,_,Z,u⟩
          .obtain⟨J,_⟩|⟨J,e5,Z⟩:=W4
           .rw[J]at I;cases I
           subst e5;have u:=((pT.shut u.p2.p2.p2).p1).p1;exact⟨(G.length:Int),x.eG,G,Z,u⟩
        .rintro _ ⟨bd,el,rest,Z,u⟩ _;obtain⟨ov5,Y,u⟩:=pT.open u;refine aE (aA qT (have u:=u.drew;aB jW u.hb rfl (aD eU u.p3.At ?_)));have h5l:Y.length=(out++[x]++rest).length:=u.p2.dZ.1.1;have h6l:=g6 List.length Z;simp only[lr,oi,MV]at h5l h6l;obtain⟨aAC,avK⟩:=gx Y (i:=(ts.length:Int).toNat) cO;refine dT u.p1 fB cO cO (λ_ al8=>jA _ u.p1 eU al8 cO λ_ u=>?_);have u:=u.p3.drop.p1.p2.dF (Ψ:=λw=>fT (Y.set (ts.length:Int).toNat (⟨x.kind,x.eN,x.name,B,E,x.n,bd,el,x.at_⟩:bF)) (out++add) w/\Q w) (λ_ h=>⟨by
  have hh:=af4 (i:=(ts.length:Int).toNat) (t:=(⟨x.kind,x.eN,x.name,B,E,x.n,bd,el,x.at_⟩:bF)) (x:={x with body:=bd,eG:=el}) h.1 ⟨B,E,rfl,af2 (x:=x) h.2.2,af3 (x:=x) h.2.2⟩;rw[show(ts.length:Int).toNat=out.length from cO,nK,List.singleton_append,abk]at hh
  rw[Z,show(ts.length:Int).toNat=out.length from cO];exact hh,h.2.1⟩)
         have u:=u.p2.p2;exact⟨rfl,(pT.shut u).mut⟩
def C293(p:Nat)(lv:Value)(l:List bU)(s:fX)(k:Nat)(d lp:Int)(out:List bR)(s2:fX)(add:List bR)(Q:hM)(F:Nat->Prop)(w:World)(hF:(pT p lv s out Q).p w F)(M:∀w',gJ F w w'->dD (λ_=>True) w' lv l)(O:js l)(Y:lT l s)(HB:al4 l k)(hd:0<=d/\d+k<=1000)(hlp:0<=lp/\lp+k<=1000)(Hj:out.length+add.length<=1000000)(hr:Xh l (k+1) s d lp=some (s2,add)):CR 293 [(.pointer (some ⟨p,0,none⟩)),hZ d,hZ lp] w (λv w'=>v=hZ (add.length:Int)/\nd F (pT p lv s2 (out++add) Q) w w'):=by
 have u:=St.begin hF;obtain⟨ov,ts,u⟩:=pT.open u;have Pk:ts.length=out.length:=u.p2.dZ.1.1;obtain⟨s9,hb0,e2⟩:=abj hr;have EA:=O.n;have hn:l.length<=1000000:=cO
 have te:=O.at_;obtain⟨Uj,Uk⟩:=id Y;refine pj Tryz.func293 (pl:=axm) ?_;refine aE (aA qT (aB jW u.hb rfl (aK fB u.p1.dW ⟨λw'=>St w F [bW p (eC lv ov (Xg l s d)),bE ov ts,dZ λw=>fT ts out w/\Q w] w',⟨λjv w'=>jv=.bool (decide (12<d)&&uq l s.at_ DI)/\St w F [bW p (eC lv ov s),bE ov ts,dZ λw=>fT ts out w/\Q w] w',cQ (aC (λ_=>aE (aA iR (have u:=u.drew;aB jw u.hb rfl (aE (aA fo (aB bL u.hb rfl (aW wE u (C209 _ l s.at_ (kp #[123]) _ (M _ u.aG) hn) λ_ _ u=>⟨vb (by first|(rw[ez (show 12<d by omega)];rfl)|(rw[fV (show ¬ 12<d by omega)];rfl)),u⟩))))))) λ_=>have u:=u.drew;⟨vb (by first|(rw[ez (show 12<d by omega)];rfl)|(rw[fV (show ¬ 12<d by omega)];rfl)),u⟩),?_⟩,?_⟩)))
 .rintro _ _ ⟨rfl,u⟩ _;refine bD (λjK=>?_) (λjK=>?_)
  .refine bG H0 u (H':=λ_=>bW p (eC lv ov (jG l s 7))) (Φ:=λ_ _=>True) (λJ I G=>?_) ?_
   .exact(C291 p lv ov l s 7 J _ I (λw' hc=>M w' (G w' hc).aG) O Y).mono λ_ _ r=>r.mono λ_ _ h=>⟨trivial,h.2⟩
   rintro _ _ _ u;have u:=u.p2.p2.p2;have h7:Xg l s d=jG l s 7:=by unfold Xg;rw[ew jK]
   rw[h7];exact u
  have u:=u.p2.p2.p2;have h7:Xg l s d=s:=by unfold Xg;rw[ej (by rw[jK];simp)]
  rw[h7];exact u
 intro _ u _;refine bG zC u (H':=λ_=>bW p (eC lv ov (ef l (Xg l s d) (kp #[123])))) (Φ:=λ_ _=>True) (λJ I G=>?_) ?_
 .exact(C257 p lv ov l (Xg l s d) (kp #[123]) J _ I (λw' hc=>M w' (G w' hc).aG) O (RE Y)).mono λ_ _ r=>r.mono λ_ _ h=>⟨trivial,h.2⟩
 rintro _ _ _ u;have u:=pT.shut (s:=ef l (Xg l s d) DI) u.p2.p2.p2;refine⟨λmm w'=>∃(B:fX) (E a2:List bR),lT l B/\uw l (λs=>Ee l (Xh l k) s d lp) mm B=some (s9,a2)/\add=E++a2/\St w F [pT p lv B (out++E) Q] w',⟨10000,_,[],add,fR (RE Y),hb0,rfl,by rw[oO];exact u⟩,?_⟩;rintro mm _ ⟨B,E,a2,OC,Ly,W,u⟩ _;obtain⟨m,rfl⟩:=I6 Ly;obtain⟨V,YE,u⟩:=pT.open u;have af5:YE.length=(out++E).length:=u.p2.dZ.1.1;rw[lr]at af5;refine⟨λjv w'=>jv=.bool (decide (B.e=0)&&!uq l B.at_ o9)/\St w F [bW p (eC lv V B),bE V YE,dZ λw=>fT YE (out++E) w/\Q w] w',aE (aA lf (have u:=u.drew;aB jU u.hb rfl (aH (aC (λU=>aE (aA iR (aB jw u.hb rfl (aE (aA fo (aB bL u.hb rfl (aW wE u (C209 _ l B.at_ (kp #[125]) _ (M _ u.aG) hn) λ_ _ u=>bT (have u:=u.p2.p2.p2;⟨vb (by first|(rw[ez U];rfl)|(rw[fV U];rfl)),u⟩)))))))) λU=>have u:=u.p2.p2.p2;⟨vb (by first|(rw[ez U];rfl)|(rw[fV U];rfl)),u⟩)))),?_⟩
 rintro _ _ ⟨rfl,u⟩ _;refine bD (λZ=>?_) (λZ=>?_)
 .obtain⟨s3,a1,a3,ho,hb3,rfl⟩:=KY Ly Z;have u:=pT.shut u.p2.p2.p2;refine bG ahp u (H':=λ_=>pT p lv s3 ((out++E)++a1) Q) (Φ:=λ_ _=>True) (λJ I G=>?_) ?_
  .exact(C256 p lv l B k d lp (out++E) s3 a1 Q J _ I (λw' hc=>M w' (G w' hc).aG) O OC HB cO cO (by have:=g6 List.length W;simp at this |-;omega) ho).mono λ_ _ r=>r.mono λ_ _ h=>⟨trivial,h.2⟩
  rintro _ _ _ u;exact⟨_,cO,s3,E++a1,a3,RF (λ_ _ _ _ _ c e=>RG c e) OC ho,hb3,by rw[W,nK],by rw[<- nK];exact u⟩
 obtain⟨e9,rfl⟩:=GK Ly Z;replace e9:=e9.symm;subst e9;rw[oO]at W;subst W;refine bG zC u (H':=λ_=>bW p (eC lv V (ef l B (kp #[125])))) (Φ:=λ_ _=>True) (λJ I G=>?_) ?_
 .exact(C257 p lv V l B (kp #[125]) J _ I (λw' hc=>M w' (G w' hc).aG) O OC).mono λ_ _ r=>r.mono λ_ _ h=>⟨trivial,h.2⟩
 rintro _ _ _ u;refine aE (aA qT (aB jW u.hb rfl (aK fB u.p1.dW (ft cO ?_))));rw[e2];exact⟨g6 (nG .i64) cO,(pT.shut u).mut⟩
theorem atr{l:List bU}(u:js l):∀k,al4 l k
 | 0=>λp lv s d lp out B add Q F w _ _ _ _ _ _ h=>by cases h
 | k+1=>λp lv s d lp out B add Q F w J G M hd I E h=>C293 p lv l s k d lp out B add Q F w J G u M (atr u k) cO cO E h
def uR(i:Int):fX:=⟨i,0,0⟩
def GL(l:List bU)(i op:Int):Option (List bR×Int×Int×Int):=
 (uw l (λs=>Ee l (Xh l 20) s 0 0) 10000 (uR i)).bind λr=>
  if 1000000<r.2.length then none else if (ef l r.1 o9).e≠0 then some ([],0,(ef l r.1 o9).e,(ef l r.1 o9).pos)
  else if 40<r.2.length then some ([],0,2,(qg l op).at_)
  else some (r.2,(ef l r.1 o9).at_,0,0)
def KZ(l:List bU)(s:fX):Bool:=match mj l s.at_ with|some t=>decide (t.kind=2)|none=>false
def jS(l:List bU)(nb:Bool)(s:fX):fX×cN:=
 if (nb&&(iO l (fp l s).1 LC).2)=true then
  (if KZ l (iO l (fp l s).1 LC).1=true then(V9 (iO l (fp l s).1 LC).1,{ (fp l s).2 with n:=(qg l (iO l (fp l s).1 LC).1.at_).n})
  else(jG l (iO l (fp l s).1 LC).1 5,(fp l s).2))
 else fp l s
abbrev Dd:ByteArray:=⟨#[44]⟩
abbrev Uv:ByteArray:=⟨#[59]⟩
def qC(l:List bU)(nb:Bool):Nat->Bool->fX->Option (fX×List cN)
 | 0,_,_=>none
 | m+1,more,s=>if (more&&decide (s.e=0))=true then(qC l nb m (iO l (jS l nb s).1 Dd).2 (iO l (jS l nb s).1 Dd).1).bind λr=>some (r.1,(jS l nb s).2::r.2)else some (s,[])
def nN(l:List bU)(nb:Bool)(s:fX):Option (fX×List cN):=(qC l nb 10000 true s).bind λr=>if 1000000<r.2.length then none else some (ef l r.1 Uv,r.2)
abbrev Wa:ByteArray:=⟨#[114,101,103]⟩
def B3(l:List bU)(s:fX):Option (fX×List ByteArray):=
 if (iO l s Wa).2=true then(nN l false (iO l s Wa).1).bind λr=>some (r.1,r.2.map cN.name)else some (s,[])
def ux(l:List bU)(s:fX)(nm:ByteArray)(a:Int):Option (fX×cR):=
 (B3 l (ef l s DI)).bind λr=>
  if r.1.e≠0 then some (r.1,⟨nm,r.2,[],a⟩)
  else(GL l r.1.at_ s.at_).bind λR=>if 0<=R.2.1/\R.2.1<=l.length then some (⟨R.2.1,R.2.2.1,R.2.2.2⟩,⟨nm,r.2,R.1,a⟩)else none
def yr(l:List bU)(s:fX)(a:Int):Option (fX×ic):=
 (wT l s.at_).bind λR=>if R.2.2.1≠0 then some ({s with e:=R.2.2.1,pos:=R.2.2.2},⟨[],0⟩)
  else if 0<=R.2.1/\R.2.1<=l.length then some (ef l {s with at_:=R.2.1} Uv,⟨R.1,a⟩)else none
def nF{α:Type}(l:List bU)(t:ByteArray)(rd:fX->Option (fX×α)):Nat->fX->Option (fX×List α)
 | 0,_=>none
 | m+1,s=>if (iO l s t).2=true then(rd (iO l s t).1).bind λr=>(nF l t rd m r.1).bind λq=>some (q.1,r.2::q.2)else some (s,[])
def AE(l:List bU)(s:fX):Int:=(qg l (s.at_-1)).at_
def RJ(l:List bU)(s:fX):Option (fX×List cR):=
 if (iO l s ⟨#[114,101,99,111,118,101,114]⟩).2=true then(ux l (iO l s ⟨#[114,101,99,111,118,101,114]⟩).1 ⟨#[]⟩ (AE l (iO l s ⟨#[114,101,99,111,118,101,114]⟩).1)).bind λr=>some (r.1,[r.2])else some (s,[])
abbrev abl:ByteArray:=⟨#[108,105,110,101]⟩
abbrev al9:ByteArray:=⟨#[118,111,108]⟩
abbrev abm:ByteArray:=⟨#[108,111,99,107]⟩
abbrev La:ByteArray:=⟨#[116,104,114,101,97,100]⟩
abbrev Lb:ByteArray:=⟨#[97,108,119,97,121,115]⟩
def ama(l:List bU)(s:fX):Option (fX×cR):=ux l (fp l s).1 (fp l s).2.name (fp l s).2.at_
def HJ(l:List bU)(s:fX):fX:=if s.at_<l.length then jG l s 5 else s
def OD:bZ:=⟨[],[],[],[],[],[]⟩
def wm(t:ByteArray):Option (bZ×Int×Int):=
 (wQ t).bind λL=>if L.2.1≠0 then some (OD,L.2.1,L.2.2)else
 (nF L.1 abl (nN L.1 true) 10000 (uR 0)).bind λG=>
 (nF L.1 al9 (nN L.1 true) 10000 G.1).bind λB=>
 (nF L.1 abm (nN L.1 false) 10000 B.1).bind λI=>
 (nF L.1 La (ama L.1) 10000 I.1).bind λE=>
 (RJ L.1 E.1).bind λJ=>
 (nF L.1 Lb (λs=>yr L.1 s (AE L.1 s)) 10000 J.1).bind λu=>
  if 1000000<G.2.length\/1000000<B.2.flatten.length\/1000000<I.2.flatten.length\/1000000<E.2.length\/1000000<u.2.length then none else if (HJ L.1 u.1).e≠0 then some (OD,(HJ L.1 u.1).e,(HJ L.1 u.1).pos)else some (⟨G.2,B.2.flatten,I.2.flatten,E.2,J.2,u.2⟩,0,0)
section
variable {l:List bU}{s s':fX}
theorem abn{t:ByteArray}(h:(iO l s t).2=true):iO l s t=({s with at_:=s.at_+1},true)/\s.e=0/\0<=s.at_/\s.at_<l.length:=by
 unfold iO at h |-
 split at h
 .rename_i h2
  rw[ew h2]
  rw[n4,decide_eq_true_eq]at h2
  exact⟨rfl,h2.1,tI h2.2⟩
 cases h
theorem yt{t:ByteArray}(h:(iO l s t).2=false):iO l s t=(s,false):=by
 grind[iO]
theorem GM{nb:Bool}(h:lT l s):lT l (jS l nb s).1:=by
 have h1:=vy h
 have h2:=kM (t:=LC) h1
 unfold jS
 split
 .split
  .rename_i h3
   unfold KZ at h3
   cases ht:mj l (iO l (fp l s).1 LC).1.at_ with
   | none=>grind
   | some t=>
    have:=m9 ht
    exact⟨by show 0<=(iO l (fp l s).1 LC).1.at_+1;omega,by show(iO l (fp l s).1 LC).1.at_+1<=_;omega⟩
  exact uu h2
 exact h1
theorem I8{nb:Bool}:∀{m:Nat}{more:Bool}{s s':fX}{x:List cN},lT l s->qC l nb m more s=some (s',x)->lT l s'
 | 0,_,_,_,_,_,h=>by cases h
 | m+1,more,s,s',x,u,h=>by
  unfold qC at h
  split at h
  .obtain⟨q,y,h1,h2⟩:=fa h
   cases h2
   exact I8 (kM (GM u)) h1
  grind
theorem y9{nb:Bool}{x:List cN}(h:nN l nb s=some (s',x)):∃u,qC l nb 10000 true s=some (u,x)/\s'=ef l u Uv/\x.length<=1000000:=by
 unfold nN at h
 obtain⟨q,y,h1,h2⟩:=fa h
 grind
theorem za{nb:Bool}{x:List cN}(u:lT l s)(h:nN l nb s=some (s',x)):lT l s':=by
 obtain⟨B,h1,h2,_⟩:=y9 h
 rw[h2];exact fR (I8 u h1)
theorem OE{nb more:Bool}{m:Nat}{x:List cN}(h:qC l nb m more s=some (s',x)):∃k,m=k+1:=by
 cases m with
 | zero=>cases h
 | succ k=>grind
theorem GN{nb more:Bool}{m:Nat}{x:List cN}(h:qC l nb (m+1) more s=some (s',x))(hb:(more&&decide (s.e=0))=false):s'=s/\x=[]:=by
 unfold qC at h;grind
theorem Wb{nb more:Bool}{m:Nat}{x:List cN}(h:qC l nb (m+1) more s=some (s',x))(hb:(more&&decide (s.e=0))=true):∃y,qC l nb m (iO l (jS l nb s).1 Dd).2 (iO l (jS l nb s).1 Dd).1=some (s',y)/\x=(jS l nb s).2::y:=by
 unfold qC at h;rw[hb,ew rfl]at h
 obtain⟨q,y,h1,h2⟩:=fa h
 grind
theorem OF{x:List ByteArray}(u:lT l s)(h:B3 l s=some (s',x)):lT l s':=by
 unfold B3 at h
 split at h
 .obtain⟨q,y,h1,h2⟩:=fa h
  cases h2
  exact za (kM u) h1
 grind
theorem GO{nm:ByteArray}{a:Int}{x:cR}(u:lT l s)(h:ux l s nm a=some (s',x)):lT l s':=by
 unfold ux at h
 obtain⟨q,y,h1,h2⟩:=fa h
 have h3:=OF (fR u) h1
 dsimp only at h2
 split at h2
 .grind
 cases hr:GL l q.at_ s.at_ with
 | none=>grind
 | some R=>
  grind[lT]
theorem Wc{a:Int}{x:ic}(u:lT l s)(h:yr l s a=some (s',x)):lT l s':=by
 unfold yr at h
 cases hr:wT l s.at_ with
 | none=>grind
 | some R=>
  rw[hr]at h
  simp only[mU]at h
  split at h
  .cases h;exact u
  .split at h
   .rename_i h4;cases h;exact fR h4
   .cases h
theorem tK{α:Type}{t:ByteArray}{rd:fX->Option (fX×α)}{m:Nat}{x:List α}(h:nF l t rd m s=some (s',x)):∃k,m=k+1:=by
 cases m with
 | zero=>cases h
 | succ k=>grind
theorem vz{α:Type}{t:ByteArray}{rd:fX->Option (fX×α)}{m:Nat}{x:List α}(h:nF l t rd (m+1) s=some (s',x))(hb:(iO l s t).2=false):s'=s/\x=[]:=by
 unfold nF at h;grind
theorem yu{α:Type}{t:ByteArray}{rd:fX->Option (fX×α)}{m:Nat}{x:List α}(h:nF l t rd (m+1) s=some (s',x))(hb:(iO l s t).2=true):∃u y z,rd (iO l s t).1=some (u,y)/\nF l t rd m u=some (s',z)/\x=y::z:=by
 unfold nF at h;rw[hb,ew rfl]at h
 obtain⟨q,y,h1,h2⟩:=fa h
 obtain⟨E,B,h3,h4⟩:=fa h2
 grind
end
def noQ:hM:=λ_=>True
theorem B4{l:List bU}{i:Int}{t:bU}(u:0<=i)(h:l[i.toNat]?=some t):qg l i=t:=by
 unfold qg mj;grind
def af6{l:List bU}{i op:Int}{R:List bR×Int×Int×Int}(h:GL l i op=some R):∃u add,uw l (λs=>Ee l (Xh l 20) s 0 0) 10000 (uR i)=some (u,add)/\add.length<=1000000/\
  ((ef l u o9).e≠0->R=([],0,(ef l u o9).e,(ef l u o9).pos))/\(¬ (ef l u o9).e≠0->40<(add.length:Int)->R=([],0,2,(qg l op).at_))/\
  (¬ (ef l u o9).e≠0->¬ 40<(add.length:Int)->R=(add,(ef l u o9).at_,0,0)):=by
 unfold GL at h
 obtain⟨q,y,h1,h2⟩:=fa h
 grind
section
variable {l:List bU}{s s':fX}{nb:Bool}
theorem We(u:nb=true)(h2:(iO l (fp l s).1 LC).2=true)(h3:KZ l (iO l (fp l s).1 LC).1=true) :
  jS l nb s=(V9 (iO l (fp l s).1 LC).1,{ (fp l s).2 with n:=(qg l (iO l (fp l s).1 LC).1.at_).n}):=by
 unfold jS;grind
theorem Wf(u:nb=true)(h2:(iO l (fp l s).1 LC).2=true)(h3:KZ l (iO l (fp l s).1 LC).1=false) :
  jS l nb s=(jG l (iO l (fp l s).1 LC).1 5,(fp l s).2):=by
 unfold jS;grind
theorem abo(h2:(iO l (fp l s).1 LC).2=false):jS l nb s=((iO l (fp l s).1 LC).1,(fp l s).2):=by
 unfold jS;rw[ej dI,yt h2]
theorem abp(u:nb=false):jS l nb s=((fp l s).1,(fp l s).2):=by
 grind[jS,fp]
theorem af7{q:fX}(h:KZ l q=true):∃u,mj l q.at_=some u/\l[q.at_.toNat]?=some u/\0<=q.at_/\q.at_<l.length:=by
 unfold KZ at h
 cases ht:mj l q.at_ with
 | none=>grind
 | some u=>have:=m9 ht;grind
theorem I9{x:List ByteArray}(h:B3 l s=some (s',x))(h1:(iO l s Wa).2=true):∃ys,nN l false (iO l s Wa).1=some (s',ys)/\x=ys.map cN.name:=by
 unfold B3 at h;rw[ew h1]at h
 obtain⟨q,y,h2,h3⟩:=fa h
 grind
theorem OG{x:List ByteArray}(h:B3 l s=some (s',x))(h1:(iO l s Wa).2=false):s'=s/\x=[]:=by
 unfold B3 at h;grind
theorem RK{nm:ByteArray}{a:Int}{x:cR}(h:ux l s nm a=some (s',x)):∃q rs,B3 l (ef l s DI)=some (q,rs)/\
  (q.e≠0->s'=q/\x=⟨nm,rs,[],a⟩)/\(¬ q.e≠0->∃R,GL l q.at_ s.at_=some R/\0<=R.2.1/\R.2.1<=l.length/\s'=⟨R.2.1,R.2.2.1,R.2.2.2⟩/\x=⟨nm,rs,R.1,a⟩):=by
 unfold ux at h
 obtain⟨q,rs,h1,h2⟩:=fa h
 refine⟨q,rs,h1,λu=>?_,λu=>?_⟩
 .grind
 dsimp only at h2;rw[ej u]at h2
 cases hr:GL l q.at_ s.at_ with
 | none=>grind
 | some R=>
  grind
theorem Wg{a:Int}{x:ic}(h:yr l s a=some (s',x)):∃R,wT l s.at_=some R/\
  (R.2.2.1≠0->s'={s with e:=R.2.2.1,pos:=R.2.2.2}/\x=⟨[],0⟩)/\(¬ R.2.2.1≠0->(0<=R.2.1/\R.2.1<=l.length)/\s'=ef l {s with at_:=R.2.1} Uv/\x=⟨R.1,a⟩):=by
 unfold yr at h
 cases hr:wT l s.at_ with
 | none=>grind
 | some R=>
  grind
theorem amb{e:Int}(u:e≠0)(h:(jG l s e).e=0):False:=by
 unfold jG at h
 grind
theorem af8{t:ByteArray}(h:(ef l s t).e=0):uq l s.at_ t=true:=by
 unfold ef at h
 split at h
 .grind
 exact(amb ee h).elim
theorem atu{t:ByteArray}:(iO l s t).1.e=s.e:=by unfold iO;grind
theorem Wh{e:Int}(h:s.e≠0):(jG l s e).e≠0:=by unfold jG;grind
theorem RL{t:ByteArray}(h:s.e≠0):(ef l s t).e≠0:=by
 unfold ef;rw[ej dI];exact Wh h
theorem OH:∀{m:Nat}{more:Bool}{s s':fX}{x:List cN},s.e≠0->qC l nb m more s=some (s',x)->s'.e≠0
 | 0,_,_,_,_,_,h=>by cases h
 | m+1,more,s,s',x,u,h=>by
  have:=GN h dI
  grind
theorem OI{x:List cN}(u:s.e≠0)(h:nN l nb s=some (s',x)):s'.e≠0:=by
 obtain⟨B,h1,h2,_⟩:=y9 h
 rw[h2];exact RL (OH u h1)
theorem RM{x:List ByteArray}(u:s.e≠0)(h:B3 l s=some (s',x)):s'.e≠0:=by
 cases h1:(iO l s Wa).2 with
 | true=>obtain⟨ys,h2,_⟩:=I9 h h1;exact OI (by rw[atu];exact u) h2
 | false=>rw[(OG h h1).1];exact u
end
theorem HK{α β:Type}{f:α->β}{l:List α}{k:Nat}{e:α}(h:l[k]?=some e):(l.take k).map f++[f e]=(l.take (k+1)).map f:=by
 rw[<- gX h,List.map_append];rfl
def OJ{l:List bU}{s s':fX}{x:List cR}(h:RJ l s=some (s',x))(h1:(iO l s ⟨#[114,101,99,111,118,101,114]⟩).2=true):∃y,ux l (iO l s ⟨#[114,101,99,111,118,101,114]⟩).1 ⟨#[]⟩ (AE l (iO l s ⟨#[114,101,99,111,118,101,114]⟩).1)=some (s',y)/\x=[y]:=by
 unfold RJ at h;rw[ew h1]at h
 obtain⟨q,y,h2,h3⟩:=fa h
 grind
theorem Uw{l:List bU}{s s':fX}{x:List cR}(h:RJ l s=some (s',x))(h1:(iO l s ⟨#[114,101,99,111,118,101,114]⟩).2=false):s'=s/\x=[]:=by
 unfold RJ at h;grind
theorem Wi{t:ByteArray}{l:List bU}{e a:Int}{R:bZ×Int×Int}(h:wm t=some R)(u:wQ t=some (l,e,a))(B:e≠0):R=(OD,e,a):=by
 unfold wm at h;rw[u]at h
 simp only[mU]at h
 rw[ew B]at h;exact(n5.inj h).symm
theorem RN{t:ByteArray}{R:bZ×Int×Int}(h:wm t=some R):∃l e a,wQ t=some (l,e,a):=by
 unfold wm at h
 cases hs:wQ t with
 | none=>rw[hs]at h;cases h
 | some L=>exact⟨L.1,L.2.1,L.2.2,rfl⟩
structure amc(l:List bU)(R:bZ×Int×Int)(t1 t2 t3 t4 t5 t6:fX)(y1:List (List cN))(y2 y3:List (List cN))(y4 y5:List cR)(y6:List ic):Prop where
 h1:nF l abl (nN l true) 10000 (uR 0)=some (t1,y1)
 h2:nF l al9 (nN l true) 10000 t1=some (t2,y2)
 h3:nF l abm (nN l false) 10000 t2=some (t3,y3)
 h4:nF l La (ama l) 10000 t3=some (t4,y4)
 h5:RJ l t4=some (t5,y5)
 h6:nF l Lb (λs=>yr l s (AE l s)) 10000 t5=some (t6,y6)
 b1:y1.length<=1000000
 b2:y2.flatten.length<=1000000
 b3:y3.flatten.length<=1000000
 b4:y4.length<=1000000
 b6:y6.length<=1000000
 bad:(HJ l t6).e≠0->R=(OD,(HJ l t6).e,(HJ l t6).pos)
 aAD:¬ (HJ l t6).e≠0->R=(⟨y1,y2.flatten,y3.flatten,y4,y5,y6⟩,0,0)
def abq{t:ByteArray}{l:List bU}{e a:Int}{R:bZ×Int×Int}(h:wm t=some R)(hs:wQ t=some (l,e,a))(he:¬ e≠0):∃J Y Z E u O V M G B I U,amc l R J Y Z E u O V M G B I U:=by
 unfold wm at h;rw[hs]at h
 simp only[mU]at h
 rw[ej he]at h
 obtain⟨J,V,h1,h⟩:=fa h
 obtain⟨Y,M,h2,h⟩:=fa h
 obtain⟨Z,G,h3,h⟩:=fa h
 obtain⟨E,B,h4,h⟩:=fa h
 obtain⟨u,I,h5,h⟩:=fa h
 obtain⟨O,U,h6,h⟩:=fa h
 dsimp only at h
 split at h
 .cases h
 rename_i hb
 simp only[not_or,Nat.not_lt]at hb
 refine⟨J,Y,Z,E,u,O,V,M,G,B,I,U,h1,h2,h3,h4,h5,h6,hb.1,hb.2.1,hb.2.2.1,hb.2.2.2.1,hb.2.2.2.2,λW=>?_,λW=>?_⟩
 .rw[ew W]at h;exact(n5.inj h).symm
 rw[ej W]at h;exact(n5.inj h).symm
theorem af9{l:List bU}{s s':fX}{x:List cR}(u:lT l s)(h:RJ l s=some (s',x)):lT l s':=by
 cases h1:(iO l s ⟨#[114,101,99,111,118,101,114]⟩).2 with
 | true=>obtain⟨y,h2,_⟩:=OJ h h1;exact GO (kM u) h2
 | false=>rw[(Uw h h1).1];exact u
theorem B5{α:Type}{a:List (List α)}{b:List α}:(a++[b]).flatten=a.flatten++b:=ei
def Ux{α:Type}{y a c:List (List α)}{b:List α}(h:y=a++b::c):a.flatten.length+b.length<=y.flatten.length:=dI
def C212(l:List bU)(lv:Value)(i op:Int)(R:List bR×Int×Int×Int)(w:World)(hL:dD (λ_=>True) w lv l)(O:js l)(h0:0<=i/\i<=l.length)(kC:0<=op/\op<l.length)(hr:GL l i op=some R):CR 212 [lv,hZ i,hZ op] w (λv w'=>∃sv:SV,v=.tuple #[ir sv,hZ R.2.1,hZ R.2.2.1,hZ R.2.2.2]/\kq (dZ λw=>DL w (ir sv) R.1) w w'):=by
 have EA:=O.n;have hn:l.length<=1000000:=cO
 have te:=O.at_;obtain⟨s9,add,hb0,Hj,hR⟩:=af6 hr;obtain⟨lsv,M⟩:=hL.fN;have u:=St.start w;refine pj Tryz.func212 (pl:=aw6) ?_;rw[M];refine pop (Qd _ _ _ _) (nR u λatv _ u=>?_);obtain⟨p,rfl⟩:∃p,p=atv:=⟨_,rfl⟩;have u:=u.enc (cs':=eC (ir lsv) (.slice none 0 0) (uR i)) rfl;rw[<- M]at u |-;have hT:∀w',gJ aX w w'->dD (λ_=>True) w' lv l:=λ_ hc=>hL.ext hc;have u:=((u.fk (Φ:=λw=>fT ([]:List bF) ([]:List bR) w/\noQ w) λ_=>⟨fT.nil,trivial⟩).eK (α:=bF)).p2;have u:=pT.shut u;refine⟨λmm w'=>∃(B:fX) (E a2:List bR),lT l B/\uw l (λs=>Ee l (Xh l 20) s 0 0) mm B=some (s9,a2)/\add=E++a2/\St w aX [pT p lv B (([]:List bR)++E) noQ] w',⟨10000,uR i,[],add,(show lT l (uR i)from h0),hb0,rfl,by rw[oO];exact u⟩,?_⟩
 rintro mm _ ⟨B,E,a2,Z,Ly,Y,u⟩ _;obtain⟨m,rfl⟩:=I6 Ly;obtain⟨V,W,u⟩:=pT.open u;have J:W.length=(([]:List bR)++E).length:=u.p2.dZ.1.1;rw[lr]at J;refine⟨λjv w'=>jv=.bool (decide (B.e=0)&&!uq l B.at_ o9)/\St w aX [bW p (eC lv V B),bE V W,dZ λw=>fT W (([]:List bR)++E) w/\noQ w] w',aE (aA lf (have u:=u.drew;aB jU u.hb rfl (aH (aC (λI=>aE (aA iR (aB jw u.hb rfl (aE (aA fo (aB bL u.hb rfl (aW wE u (C209 _ l B.at_ (kp #[125]) _ (hT _ u.aG) hn) λ_ _ u=>bT (have u:=u.p2.p2.p2;⟨vb (by first|(rw[ez I];rfl)|(rw[fV I];rfl)),u⟩)))))))) λI=>have u:=u.p2.p2.p2;⟨vb (by first|(rw[ez I];rfl)|(rw[fV I];rfl)),u⟩)))),?_⟩
 rintro _ _ ⟨rfl,u⟩ _;refine bD (λmz=>?_) (λmz=>?_)
 .obtain⟨s3,a1,a3,ho,hb3,rfl⟩:=KY Ly mz;have u:=pT.shut u.p2.p2.p2;refine bG ahp u (H':=λ_=>pT p lv s3 ((([]:List bR)++E)++a1) noQ) (Φ:=λ_ _=>True) (λF2 et ea=>?_) ?_
  .exact(C256 p lv l B 20 0 0 (([]:List bR)++E) s3 a1 noQ F2 _ et (λw' hc=>hT w' (ea w' hc).aG) O Z (atr O 20) cO cO (by have:=g6 List.length Y;simp at this |-;omega) ho).mono λ_ _ r=>r.mono λ_ _ h=>⟨trivial,h.2⟩
  rintro _ _ _ u;exact⟨_,cO,s3,E++a1,a3,RF (λ_ _ _ _ _ c e=>RG c e) Z ho,hb3,by rw[Y,nK],by rw[<- nK];exact u⟩
 obtain⟨e9,rfl⟩:=GK Ly mz;replace e9:=e9.symm;subst e9;rw[oO]at Y;subst Y;obtain⟨aAF,aAG⟩:=id Z;simp only[MV,Nat.zero_add]at J;refine bG zC u (H':=λ_=>bW p (eC lv V (ef l B (kp #[125])))) (Φ:=λ_ _=>True) (λF2 et ea=>?_) ?_
 .exact(C257 p lv V l B (kp #[125]) F2 _ et (λw' hc=>hT w' (ea w' hc).aG) O Z).mono λ_ _ r=>r.mono λ_ _ h=>⟨trivial,h.2⟩
 rintro _ _ _ u;refine aE (aA lf (aB jU u.hb rfl (bQ (aC (λU=>?_) λU=>aE (aA qT (aB jW u.hb rfl (aK fB u.p1.dW (cQ (aC (λBH=>?_) λBH=>?_)))))))))
 .refine aE (aA lf (have u:=u.drew;aB jU u.hb rfl (aE (aA Be (aB bL u.hb rfl ?_)))));have G:R=([],0,(ef l B o9).e,(ef l B o9).pos):=hR.1 U;rw[G];exact⟨bY,rfl,(u.fk (Φ:=λw=>DL w (ir (bY:SV)) ([]:List bR)) λw=>DL.nil w).fresh⟩
 .obtain⟨Z1,CU⟩:=gx l (i:=op.toNat) cO;refine aQ fS hL cO CU (λ_ FX=>bX Z1.at_ lY FX rfl rfl λ_ BI=>have u:=u.drew;aD bL (BI.ext u.aG) ?_);have G:R=([],0,2,Z1.at_):=(hR.2.1 U cO).trans (by rw[B4 kC.1 CU]);rw[G];exact⟨bY,rfl,(u.fk (Φ:=λw=>DL w (ir (bY:SV)) ([]:List bR)) λw=>DL.nil w).fresh⟩
 refine aE (aA qT (have u:=u.drew;aB jW u.hb rfl (aE (aA fo (aB bL u.hb rfl ?_)))));have u:=(u.drop.p1.dF (Ψ:=fT W ([]++add)) λ_ h=>h.1).p1;have u:=St.xF u;obtain⟨sv,hsv⟩:=u.pF;subst hsv;rw[hR.2.2 U cO];exact⟨sv,rfl,u.oy.fresh⟩
def C132(p:Nat)(lv:Value)(l:List bU)(s:fX)(nb:Bool)(s2:fX)(x:List cN)(F:Nat->Prop)(w:World)(hF:(bW p (eI lv s)).p w F)(M:∀w',gJ F w w'->dD (λ_=>True) w' lv l)(O:js l)(h0:lT l s)(hr:nN l nb s=some (s2,x)):CR 132 [(.pointer (some ⟨p,0,none⟩)),.bool nb] w (λv w'=>nd F (sep (bW p (eI lv s2)) (bE v x)) w w'):=by
 have u:=St.begin hF;obtain⟨s9,W9,e2,Hj⟩:=y9 hr;have EA:=O.n;have hn:l.length<=1000000:=cO
 have te:=O.at_;obtain⟨Uj,Uk⟩:=id h0;refine pj Tryz.func132 (pl:=awT) ?_;refine aV ([]:List cN) u iD rfl rfl (dQ rfl) (λalx _ u=>?_);have u:=u.p1.p1;refine⟨λmm o mo w'=>∃(B:fX) (b:Bool) (W a2:List cN),mo=.bool b/\lT l B/\qC l nb mm b B=some (s9,a2)/\x=W++a2/\St w F [bE o W,bW p (eI lv B)] w',⟨10000,s,true,[],x,rfl,h0,W9,rfl,u⟩,?_⟩;rintro mm zj _ w2 ⟨B,b,W,a2,rfl,J,YF,hx,u⟩ _;obtain⟨m,rfl⟩:=OE YF;obtain⟨aAF,aAG⟩:=id J;refine⟨λjv w'=>jv=.bool (b&&decide (B.e=0))/\w2=w',bD (λB6=>aE (aA mI (aB jU u.p1.hb rfl (aH ⟨vb (by first|(rw[B6];rfl)|(rw[B6];rfl)),rfl⟩)))) (λB6=>⟨vb (by first|(rw[B6];rfl)|(rw[B6];rfl)),rfl⟩),?_⟩
 rintro _ _ ⟨rfl,hw⟩ _;subst hw;refine bD (λeE=>?_) (λeE=>?_)
 .obtain⟨a3,hn3,rfl⟩:=Wb YF eE;refine bG ag9 u.p1 (H':=λ_=>bW p (eI lv (fp l B).1)) (Φ:=λv _=>v=ir (fp l B).2) (λI G E=>?_) ?_
  .exact C133 p lv l B I _ G (λw' hc=>M w' (E w' hc).aG) O J
  rintro _ _ rfl u;refine aN u pA (λY _ u=>aJ (x:=(fp l B).2) u mw rfl rfl λ_ u=>⟨λw'=>St w F [bW p (eI lv (jS l nb B).1),bW Y (j0 (jS l nb B).2),bE zj W] w',⟨_,bD (λwo=>?_) (λwo=>?_),λ_ _ h=>h⟩,?_⟩)
  .refine bG zB u.p1 (H':=λ_=>bW p (eI lv (iO l (fp l B).1 (kp #[61])).1)) (Φ:=λv _=>v=.bool (iO l (fp l B).1 (kp #[61])).2) (λI G E=>?_) ?_
   .exact C131 p lv l (fp l B).1 (kp #[61]) I _ G (λw' hc=>M w' (E w' hc).aG) O (vy J)
   rintro _ _ rfl u;intro wG;refine bD (λjK=>?_) (λjK=>?_)
   .have hq:=kM (t:=kp #[61]) (vy J);obtain⟨V,hq1⟩:=id hq;refine⟨λjv w'=>jv=.bool (KZ l (iO l (fp l B).1 (kp #[61])).1)/\St w F [bW p (eI lv (iO l (fp l B).1 (kp #[61])).1),bW Y (j0 (fp l B).2),bE zj W] w',aE (aA fG (have u:=u.drew;aB bL u.hb rfl (aE (aA ko (aB jw u.hb rfl (aK fS (M _ u.aG) (aR (aC (λlI=>?_) λlI=>have u:=u.p2.p2.p2;⟨vb (by unfold KZ mj;rw[ew V,nt cO]),u⟩)))))))),?_⟩
    .refine aE (aA ko (aB jw u.hb rfl (aE (aA fG (aB bL u.hb rfl ?_)))));obtain⟨atx,Z⟩:=gx l (i:=(((iO l (fp l B).1 (kp #[61])).1).at_).toNat) cO;exact aQ fS (M _ u.aG) cO Z (λ_ FI=>bX atx.kind lX FI rfl rfl λ_ MT=>aD bL MT (aH (have u:=u.p2.p2.p2;⟨vb (by unfold KZ mj;rw[ew V,Z]),u⟩)))
    rintro _ _ ⟨rfl,u⟩ _;refine bD (λsR=>?_) (λsR=>?_)
    .obtain⟨tk,hnt,Hk,_,hqlt⟩:=af7 sR;have Pm:qg l (iO l (fp l B).1 (kp #[61])).1.at_=tk:=B4 V Hk;refine aE (aA ko (have u:=u.drew;aB jw u.hb rfl (aE (aA fG (aB bL u.hb rfl (aQ fS (M _ u.aG) cO Hk λ_ BI=>bX tk.n sO BI rfl rfl λ_ aty=>aD bL aty (aA sJ (aT u.p1 bL (dQ rfl) (rfl) λ_ u=>have u:=u.enc (cs':=j0 ({ (fp l B).2 with n:=tk.n}:cN)) rfl;aE (aA fG ?_)))))))));refine aB bL u.p1.hb rfl (aO cO (aE (aA fG (aT u.p1 bL (dQ rfl) (rfl) λ_ u=>?_))))
     have u:=u.p2.p2.p2;have U:(jS l nb B)=(V9 (iO l (fp l B).1 (kp #[61])).1,{ (fp l B).2 with n:=tk.n}):=(We wo jK sR).trans (by rw[Pm]);rw[U];exact u
    refine bG Sy u (H':=λ_=>bW p (eI lv (jG l (iO l (fp l B).1 (kp #[61])).1 5))) (Φ:=λ_ _=>True) (λI G E=>?_) ?_
    .exact(C136 p lv l (iO l (fp l B).1 (kp #[61])).1 I _ G (λw' hc=>M w' (E w' hc).aG) O (kM (vy J))).mono λ_ _ r=>r.mono λ_ _ h=>⟨trivial,h.2⟩
    rintro _ _ _ u;have u:=u.p2.p2.p2;have U:=Wf wo jK sR;rw[U];exact u
   have u:=u.p2.p2.p2;have U:=abo (nb:=nb) jK;rw[U];exact u
  .intro wG;refine fx ?_;have u:=u.p2.p1.p2;have U:=abp (l:=l) (s:=B) wo;rw[U];exact u
  intro _ u _;refine aD mw u.p1.At (aV ([(jS l nb B).2]) u iD rfl rfl (dQ rfl) λatk _ u=>?_);have amd:=u.dW;refine bI u.p3 iD amd (by have:=g6 List.length hx;simp at this |-;omega) ee (λatz _ u=>have u:=u.p1.drop;bG zB u.p1 (H':=λ_=>bW p (eI lv (iO l (jS l nb B).1 (kp #[44])).1)) (Φ:=λv _=>v=.bool (iO l (jS l nb B).1 (kp #[44])).2) (λI G E=>?_) ?_)
  .exact C131 p lv l (jS l nb B).1 (kp #[44]) I _ G (λw' hc=>M w' (E w' hc).aG) O (GM J)
  rintro _ _ rfl u;have u:=u.p2.drop.p1;exact⟨_,cO,(iO l (jS l nb B).1 Dd).1,(iO l (jS l nb B).1 Dd).2,W++[(jS l nb B).2],a3,rfl,kM (GM J),hn3,by rw[hx,nK];rfl,u⟩
 obtain⟨e9,rfl⟩:=GN YF eE;replace e9:=e9.symm;subst e9;rw[oO]at hx;subst hx;refine bG XK u.p1 (H':=λ_=>bW p (eI lv (ef l B (kp #[59])))) (Φ:=λ_ _=>True) (λI G E=>?_) ?_
 .exact(C210 p lv l B (kp #[59]) I _ G (λw' hc=>M w' (E w' hc).aG) O J).mono λ_ _ r=>r.mono λ_ _ h=>⟨trivial,h.2⟩
 rintro _ _ _ u;have u:=u.p1.p1;rw[e2];exact(St.join u).mut
def C134(p:Nat)(lv:Value)(l:List bU)(s:fX)(nm:ByteArray)(a:Int)(s2:fX)(x:cR)(F:Nat->Prop)(w:World)(hF:(bW p (eI lv s)).p w F)(hT:∀w',gJ F w w'->dD (λ_=>True) w' lv l)(G:js l)(V:lT l s)(hr:ux l s nm a=some (s2,x)):CR 134 [(.pointer (some ⟨p,0,none⟩)),ir (⟨nm,bY,bY,a⟩:cL)] w (λv w'=>nd F (qm λsh:cL=>fact (v=ir sh) (sep (bW p (eI lv s2)) (dZ λw=>mi w sh x))) w w'):=by
 have u:=St.begin hF;obtain⟨q,rs,Eb,Cs,Hi⟩:=RK hr;have W:=OF (fR V) Eb;obtain⟨hqi0,hqi1⟩:=id W;have EA:=G.n;have hn:l.length<=1000000:=cO
 have te:=G.at_;obtain⟨Uj,Uk⟩:=id V;refine pj Tryz.func134 (pl:=awV) ?_;refine cM (x:=(⟨nm,bY,bY,a⟩:cL)) u (λE _ u=>aN u ud λQp _ u=>have u:=u.enc (cs':=j0 (⟨(kp #[]),bY,bY,0⟩:cL)) rfl;aE (aA fG (aB bL u.p2.hb rfl (bG XK u.p2 (H':=λ_=>bW p (eI lv (ef l s (kp #[123])))) (Φ:=λ_ _=>True) (λZ U M=>?_) ?_))))
 .exact(C210 p lv l s (kp #[123]) Z _ U (λw' hc=>hT w' (M w' hc).aG) G V).mono λ_ _ r=>r.mono λ_ _ h=>⟨trivial,h.2⟩
 rintro _ _ _ u;refine⟨λw'=>∃B:SV,St w F [bE (ir B) rs,bW E (j0 (⟨nm,B,bY,a⟩:cL)),bW Qp (j0 (⟨(kp #[]),bY,bY,0⟩:cL)),bW p (eI lv q)] w',?_,?_⟩
 .refine bG zB u (H':=λ_=>bW p (eI lv (iO l (ef l s (kp #[123])) (kp #[114,101,103])).1)) (Φ:=λv _=>v=.bool (iO l (ef l s (kp #[123])) (kp #[114,101,103])).2) (λZ U M=>?_) ?_
  .exact C131 p lv l (ef l s (kp #[123])) (kp #[114,101,103]) Z _ U (λw' hc=>hT w' (M w' hc).aG) G (fR V)
  rintro _ _ rfl u;refine bD (λfE=>?_) (λfE=>?_)
  .obtain⟨ys,Y,hrs⟩:=I9 Eb fE;have hyl:ys.length<=1000000:=by obtain⟨_,_,_,h⟩:=y9 Y;exact h
   refine bG Sx u (H':=λv=>sep (bW p (eI lv q)) (bE v ys)) (Φ:=λ_ _=>True) (λZ U M=>?_) ?_
   .exact(C132 p lv l (iO l (ef l s (kp #[123])) (kp #[114,101,103])).1 false q ys Z _ U (λw' hc=>hT w' (M w' hc).aG) G (kM (fR V)) Y).mono λ_ _ r=>r.mono λ_ _ h=>⟨trivial,h⟩
   rintro x21 _ _ u;have u:=(((((u.split.eK (α:=ByteArray)).p1).p3).p3).p4).p4;refine⟨λmm i w'=>∃(j:Nat) (B:SV),i=hZ (j:Int)/\mm=ys.length-j/\j<=ys.length/\St w F [bE (ir B) ((ys.take j).map cN.name),bW E (j0 (⟨nm,B,bY,a⟩:cL)),bE x21 ys,bW Qp (j0 (⟨(kp #[]),bY,bY,0⟩:cL)),bW p (eI lv q)] w',⟨_,0,bY,rfl,rfl,l0 _,u⟩,?_⟩;rintro mm _ _ ⟨j,B,rfl,rfl,hj,u⟩ _;refine aK iD u.p2.dW (aR (aC (λjK=>?_) λjK=>?_))
   .refine aA fZ (have u:=u.drew;aB (v:=ir (B:SV)) jq u.p1.hb rfl ?_);obtain⟨aiK,abt⟩:=gx ys (i:=(j:Int).toNat) cO;refine dT u.p2 iD cO cO (λ_ xX=>mL kZ xX λ_ rN=>nY aiK.name u.p2 gK rN abt rfl (aV ([aiK.name]) u iK rfl rfl (dQ rfl) λard _ u=>?_));refine⟨aF jq (u.p2.hb.cell rfl),?_⟩;have amf:=u.dW;refine bI u.p1 iK amf (by simp;omega) ee (λare _ u=>have u:=u.p1.drop;aA fZ ?_);obtain⟨J,rfl⟩:=u.fN;exact aT u.p1 jq (dQ rfl) (rfl) (λ_ u=>have u:=u.enc (cs':=j0 (⟨nm,J,bY,a⟩:cL)) rfl;aO cO (have u:=u.p4.p4.p4.p3.p4;⟨_,cO,j+1,J,rfl,rfl,cO,by rw[<- HK (k:=j) abt];exact u⟩))
   have u:=u.p2.drop.p3.p3.p3.p3;rw[kO cO]at u;rw[hrs];exact⟨B,u⟩
  have u:=((((u.eK (α:=ByteArray)).p1).p2).p3).p3;obtain⟨e1,e3⟩:=OG Eb fE;rw[yt fE]at u;rw[e1,e3];exact⟨bY,u⟩
 rintro _ ⟨B,u⟩ _;refine⟨λw'=>∃(B O:SV) (body:List bR),x=⟨nm,rs,body,a⟩/\St w F [bE (ir B) rs,dZ (λw=>DL w (ir O) body),bW E (j0 (⟨nm,B,O,a⟩:cL)),bW Qp (j0 (⟨(kp #[]),bY,bY,0⟩:cL)),bW p (eI lv s2)] w',aE (aA mI (aB jU u.p3.hb rfl (aH (aC (λre=>?_) λre=>?_)))),?_⟩
 .obtain⟨R,hR,hR0,hR1,e2,hx⟩:=Hi cO;have IN:(ef l s DI).e=0:=u1.1 λhh=>RM hh Eb cO;have kC:=tI (af8 IN);refine aE (aA ko (have u:=u.drew;aB jw u.p3.hb rfl (aE (aA fG (aB bL u.p3.hb rfl (dO aoS (C212 l _ q.at_ s.at_ R _ (hT _ u.aG) G W kC hR) ?_))))));rintro _ _ ⟨I,rfl,cI⟩;have u:=u.made cI;refine aM rfl (aM rfl (aM rfl (aM rfl (aA lV (aT u.p2 jW (dQ rfl) (rfl) λ_ u=>have u:=u.enc (cs':=j0 (⟨nm,B,I,a⟩:cL)) rfl;aE (aA fG (aT u.p4 bL (dQ rfl) (rfl) λ_ u=>aE (aA mI (aT u jU (dQ rfl) (rfl) λ_ u=>aE ?_)))))))))
  refine aA xB (aT u bL (dQ rfl) (rfl) λ_ u=>?_);have u:=u.p4.p2.p3.p4;rw[e2];exact⟨B,I,R.1,hx,u⟩
 .have u:=u.fk (Φ:=λw=>DL w (ir (bY:SV)) ([]:List bR)) λw=>DL.nil w;have u:=u.p4.p4.p4.p3.p4;obtain⟨e2,hx⟩:=Cs re;rw[e2];exact⟨B,bY,[],hx,u⟩
 rintro _ ⟨B,O,body,rfl,u⟩ _;exact aD ny u.p2.At (aJ (x:=(⟨nm,B,O,a⟩:cL)) u.p3 ny rfl rfl λ_ u=>aD ny u.At (have u:=u.p1.freeze.p2.p1.gv.dF (Ψ:=(λw=>mi w (⟨nm,B,O,a⟩:cL) (⟨nm,rs,body,a⟩:cR))) (λ_ h=>⟨_,_,rfl,DL.jZ h.1,id h.2⟩);have u:=u.p1.drop.p1.drop.p1;(yq u).mut))
def C135(p:Nat)(lv:Value)(l:List bU)(s:fX)(a:Int)(O:fX)(x:ic)(F:Nat->Prop)(w:World)(Z:(bW p (eI lv s)).p w F)(J:∀w',gJ F w w'->dD (λ_=>True) w' lv l)(E:js l)(h0:lT l s)(hr:yr l s a=some (O,x)):CR 135 [(.pointer (some ⟨p,0,none⟩)),hZ a] w (λv w'=>nd F (qm λM:jF=>fact (v=ir M) (sep (bW p (eI lv O)) (dZ λw=>mi w M x))) w w'):=by
 have u:=St.begin Z;obtain⟨R,G,Cs,Hi⟩:=Wg hr;have EA:=E.n;have hn:l.length<=1000000:=cO
 have te:=E.at_;obtain⟨Uj,Uk⟩:=id h0;refine pj Tryz.func135 (pl:=awW) ?_;refine aN u PX (λQp _ u=>have u:=u.enc (cs':=j0 (⟨bY,0⟩:jF)) rfl;aE (aA ko (have u:=u.drew;aB jw u.p1.hb rfl (aE (aA fG (aB bL u.p1.hb rfl (dO ahj (C213 l _ s.at_ R _ (J _ u.aG) E cO G) ?_)))))));rintro _ _ ⟨B,rfl,cI⟩;have u:=u.made cI;refine aM rfl (aM rfl (aM rfl (aM rfl (bQ (aC (λI=>?_) λI=>?_)))))
 .obtain⟨rfl,rfl⟩:=Cs I;exact aE (aA mI (aT u.p2 jU (dQ rfl) (rfl) λ_ u=>aE (aA xB (aT u bL (dQ rfl) (rfl) λ_ u=>pop (v:=ir (⟨bY,0⟩:jF)) (by kernel_rfl) (aJ (x:=(⟨bY,0⟩:jF)) u.p2 JT rfl rfl λ_ u=>aD JT u.At (have u:=u.fk (Φ:=(λw=>mi w (⟨bY,0⟩:jF) (⟨[],0⟩:ic))) (λ_=>⟨_,rfl,DL.nil _⟩);have u:=u.p1.drop.p2.drop.p1;(yq u).mut))))))
 obtain⟨U,rfl,rfl⟩:=Hi I;refine aE (aA fG (aT u.p2 bL (dQ rfl) (rfl) λ_ u=>have u:=u.enc (cs':=eI lv ({s with at_:=R.2.1}:fX)) rfl;bG XK u (H':=λ_=>bW p (eI lv (ef l ({s with at_:=R.2.1}:fX) (kp #[59])))) (Φ:=λ_ _=>True) (λY W V=>?_) ?_))
 .exact(C210 p lv l ({s with at_:=R.2.1}:fX) (kp #[59]) Y _ W (λw' hc=>J w' (V w' hc).aG) E (show lT l ({s with at_:=R.2.1}:fX)from U)).mono λ_ _ r=>r.mono λ_ _ h=>⟨trivial,h.2⟩
 rintro _ _ _ u;exact pop (Ih _ _ _ _) (aJ (x:=(⟨B,a⟩:jF)) u.p2 JT rfl rfl λ_ u=>aD JT u.At (have u:=u.p2.dF (Ψ:=(λw=>mi w (⟨B,a⟩:jF) (⟨R.1,a⟩:ic))) (λ_ h=>⟨_,rfl,id h⟩);have u:=u.p1.drop.p1;(yq u).mut))
def C65(s:ByteArray)(R:bZ×Int×Int)(w:World)(Vg:s.size<=1000000)(hr:wm s=some R)(hTk:∀l e a,wQ s=some (l,e,a)->js l):CR 65 [.string s] w (λv w'=>∃pv:bO,v=.tuple #[ir pv,hZ R.2.1,hZ R.2.2]/\kq (dZ λw=>mi w pv R.1) w w'):=by
 obtain⟨l,e,a,XT⟩:=RN hr;have W:=hTk l e a XT;have EA:=W.n;have hn:l.length<=1000000:=cO
 have te:=W.at_;have u:=St.start w;refine pj Tryz.func65 (pl:=P65) ?_;refine aN u vN (λwZ _ u=>have u:=u.enc (cs':=j0 (⟨bY,bY,bY,bY,bY,bY⟩:bO)) rfl;dO aoG (C130 s (l,e,a) _ Vg XT) ?_);rintro _ _ ⟨lv,rfl,cI⟩;have u:=u.made cI;refine aM rfl (aM rfl (aM rfl (bQ (aC (λl6=>?_) λl6=>?_))))
 .refine pop (v:=ir (⟨bY,bY,bY,bY,bY,bY⟩:bO)) (by kernel_rfl) (aJ (x:=(⟨bY,bY,bY,bY,bY,bY⟩:bO)) u.p1 er rfl rfl λ_ u=>aD er u.At ?_);have u:=u.fk (Φ:=(λw=>mi w (⟨bY,bY,bY,bY,bY,bY⟩:bO) (⟨[],[],[],[],[],[]⟩:bZ))) (λ_=>⟨_,_,_,_,_,_,rfl,DL.nil _,DL.nil _,DL.nil _,DL.nil _,DL.nil _,DL.nil _⟩);have u:=u.p1.drop.p1.drop;rw[Wi hr XT l6];exact⟨_,rfl,u.fresh⟩
 obtain⟨t1,t2,t3,t4,t5,t6,y1,y2,y3,y4,y5,y6,Z⟩:=abq hr XT l6;obtain⟨lsv,hlv⟩:=u.fN;rw[hlv];refine pop (Ye _ _ _) (nR u λTa _ u=>pop (v:=ir (⟨bY,bY,bY,bY,bY,bY⟩:bO)) (by kernel_rfl) (aN u vN λRO _ u=>have u:=u.enc (cs':=j0 (⟨bY,bY,bY,bY,bY,bY⟩:bO)) rfl;aJ (x:=(⟨bY,bY,bY,bY,bY,bY⟩:bO)) u er rfl rfl λ_ u=>?_));obtain⟨p,rfl⟩:∃p,p=Ta:=⟨_,rfl⟩;have u:=u.p1.enc (cs':=eI (ir lsv) (uR 0)) rfl;rw[<- hlv]at u |-;have aAI:lT l (uR 0):=⟨Ns _,by show(0:Int)<=_;omega⟩;have u:=(((((u.J4 (α:=(List cN))).p4).p4).p3).p4).p4
 refine⟨λmm w'=>∃(s0:fX) (J:SV) (xs0 a0:List (List cN)),lT l s0/\nF l abl (nN l true) mm s0=some (t1,a0)/\y1=xs0++a0/\St w aX [fJ (ir J) xs0,bW RO (j0 (⟨J,bY,bY,bY,bY,bY⟩:bO)),bW p (eI lv s0),bE lv l,bW wZ (j0 (⟨bY,bY,bY,bY,bY,bY⟩:bO))] w',⟨10000,uR 0,bY,[],y1,aAI,Z.h1,rfl,u⟩,?_⟩;rintro mm _ ⟨s0,J,xs0,a0,hi0,IN,hy0,u⟩ _;obtain⟨m0,rfl⟩:=tK IN;refine bG zB u.p2 (H':=λ_=>bW p (eI lv (iO l s0 (kp #[108,105,110,101])).1)) (Φ:=λv _=>v=.bool (iO l s0 (kp #[108,105,110,101])).2) (λG E B=>?_) ?_
 .exact C131 p lv l s0 (kp #[108,105,110,101]) G _ E (λw' hc=>(B w' hc).p2.dW) W hi0
 rintro _ _ rfl u;refine bD (λlH=>?_) (λlH=>?_)
 .obtain⟨q0,z0,b0,zT,W9,rfl⟩:=yu IN lH;refine aA gL (have u:=u.drew;aB (v:=ir (J:SV)) pk u.p2.hb rfl (bG Sx u (H':=λv=>sep (bW p (eI lv q0)) (bE v z0)) (Φ:=λ_ _=>True) (λG E B=>?_) ?_))
  .exact(C132 p lv l (iO l s0 (kp #[108,105,110,101])).1 true q0 z0 G _ E (λw' hc=>(B w' hc).p2.dW) W (kM hi0) zT).mono λ_ _ r=>r.mono λ_ _ h=>⟨trivial,h⟩
  rintro x31 _ _ u;have u:=u.split;refine⟨aF pk (u.p3.hb.cell rfl),?_⟩;obtain⟨Lc,rfl⟩:=u.p1.fN;have u:=u.p1.freeze.dF (Ψ:=λw=>mi w Lc z0) (λ_ h=>DL.jZ h);refine gA (s:=Lc) (x:=z0) u ql ee (λasF _ u=>?_);refine⟨aF pk (u.p3.hb.cell rfl),?_⟩;have u:=u.p2;refine gg u ql (by have h1:=g6 List.length hy0;have h2:=Z.b1;simp at h1 |-;omega) ee (λs_x33 _ u=>aA gL ?_);obtain⟨abx,rfl⟩:=u.pF;exact aT u.p2 pk (dQ rfl) (rfl) (λ_ u=>have u:=((((u.enc (cs':=j0 (⟨abx,bY,bY,bY,bY,bY⟩:bO)) rfl).p4).p4).p4).p3;have u:=u.p4;⟨_,cO,q0,abx,xs0++[z0],b0,za (kM hi0) zT,W9,by rw[hy0,nK];rfl,u⟩)
 obtain⟨U,rfl⟩:=vz IN lH;replace U:=U.symm;subst U;rw[oO]at hy0;subst hy0;rw[yt lH]at u;have u:=((((((u.eK (α:=cN)).p5).p5).p3).p5).p5).p5;refine⟨λmm w'=>∃(s1:fX) (M:SV) (xs1 a1:List (List cN)),lT l s1/\nF l al9 (nN l true) mm s1=some (t2,a1)/\y2=xs1++a1/\St w aX [bE (ir M) xs1.flatten,fJ (ir J) y1,bW RO (j0 (⟨J,M,bY,bY,bY,bY⟩:bO)),bW p (eI lv s1),bE lv l,bW wZ (j0 (⟨bY,bY,bY,bY,bY,bY⟩:bO))] w',⟨10000,s0,bY,[],y2,hi0,Z.h2,rfl,u⟩,?_⟩;rintro mm _ ⟨s1,M,xs1,a1,hi1,hm1,hy1,u⟩ _;obtain⟨m1,rfl⟩:=tK hm1
 refine bG zB u.p3 (H':=λ_=>bW p (eI lv (iO l s1 (kp #[118,111,108])).1)) (Φ:=λv _=>v=.bool (iO l s1 (kp #[118,111,108])).2) (λG E B=>?_) ?_
 .exact C131 p lv l s1 (kp #[118,111,108]) G _ E (λw' hc=>(B w' hc).p3.dW) W hi1
 rintro _ _ rfl u;refine bD (λDw=>?_) (λDw=>?_)
 .obtain⟨q1,z1,b1,XA,YF,rfl⟩:=yu hm1 Dw;refine aA qG (have u:=u.drew;aB (v:=ir (M:SV)) jT u.p3.hb rfl (bG Sx u (H':=λv=>sep (bW p (eI lv q1)) (bE v z1)) (Φ:=λ_ _=>True) (λG E B=>?_) ?_))
  .exact(C132 p lv l (iO l s1 (kp #[118,111,108])).1 true q1 z1 G _ E (λw' hc=>(B w' hc).p3.dW) W (kM hi1) XA).mono λ_ _ r=>r.mono λ_ _ h=>⟨trivial,h⟩
  rintro x40 _ _ u;have u:=u.split;refine⟨aF jT (u.p4.hb.cell rfl),?_⟩;have amg:=u.p1.dW;refine bI u.p2 iD amg (by have:=Ux hy1;have:=Z.b2;omega) ee (λatA _ u=>have u:=u.p2.drop;aA qG ?_);obtain⟨Ko,rfl⟩:=u.fN;refine aT u.p3 jT (dQ rfl) (rfl) (λ_ u=>?_);have u:=((((u.enc (cs':=j0 (⟨J,Ko,bY,bY,bY,bY⟩:bO)) rfl).p5).p5).p4).p3;have u:=u.p5.p5;rw[<- B5]at u;exact⟨_,cO,q1,Ko,xs1++[z1],b1,za (kM hi1) XA,YF,by rw[hy1,nK];rfl,u⟩
 obtain⟨U,rfl⟩:=vz hm1 Dw;replace U:=U.symm;subst U;rw[oO]at hy1;subst hy1;rw[yt Dw]at u;have u:=(((((((u.eK (α:=cN)).p6).p6).p3).p6).p5).p6).p6;refine⟨λmm w'=>∃(s2:fX) (V:SV) (xs2 a2:List (List cN)),lT l s2/\nF l abm (nN l false) mm s2=some (t3,a2)/\y3=xs2++a2/\St w aX [bE (ir V) xs2.flatten,fJ (ir J) y1,bE (ir M) y2.flatten,bW RO (j0 (⟨J,M,V,bY,bY,bY⟩:bO)),bW p (eI lv s2),bE lv l,bW wZ (j0 (⟨bY,bY,bY,bY,bY,bY⟩:bO))] w',⟨10000,s1,bY,[],y3,hi1,Z.h3,rfl,u⟩,?_⟩;rintro mm _ ⟨s2,V,xs2,a2,Xb,hm2,hy2,u⟩ _
 obtain⟨m2,rfl⟩:=tK hm2;refine bG zB u.p4 (H':=λ_=>bW p (eI lv (iO l s2 (kp #[108,111,99,107])).1)) (Φ:=λv _=>v=.bool (iO l s2 (kp #[108,111,99,107])).2) (λG E B=>?_) ?_
 .exact C131 p lv l s2 (kp #[108,111,99,107]) G _ E (λw' hc=>(B w' hc).p4.dW) W Xb
 rintro _ _ rfl u;refine bD (λBA=>?_) (λBA=>?_)
 .obtain⟨q2,z2,b2,Xi,hn2,rfl⟩:=yu hm2 BA;refine aA ou (have u:=u.drew;aB (v:=ir (V:SV)) jT u.p4.hb rfl (bG Sx u (H':=λv=>sep (bW p (eI lv q2)) (bE v z2)) (Φ:=λ_ _=>True) (λG E B=>?_) ?_))
  .exact(C132 p lv l (iO l s2 (kp #[108,111,99,107])).1 false q2 z2 G _ E (λw' hc=>(B w' hc).p4.dW) W (kM Xb) Xi).mono λ_ _ r=>r.mono λ_ _ h=>⟨trivial,h⟩
  rintro x48 _ _ u;have u:=u.split;refine⟨aF jT (u.p5.hb.cell rfl),?_⟩;have RP:=u.p1.dW;refine bI u.p2 iD RP (by have:=Ux hy2;have:=Z.b3;omega) ee (λs_x49 _ u=>have u:=u.p2.drop;aA ou ?_);obtain⟨aby,rfl⟩:=u.fN;refine aT u.p4 jT (dQ rfl) (rfl) (λ_ u=>?_);have u:=((((u.enc (cs':=j0 (⟨J,M,aby,bY,bY,bY⟩:bO)) rfl).p6).p6).p4).p3;have u:=u.p6.p6.p6;rw[<- B5]at u;exact⟨_,cO,q2,aby,xs2++[z2],b2,za (kM Xb) Xi,hn2,by rw[hy2,nK];rfl,u⟩
 obtain⟨U,rfl⟩:=vz hm2 BA;replace U:=U.symm;subst U;rw[oO]at hy2;subst hy2;rw[yt BA]at u;have u:=((((((((u.J4 (α:=cR)).p7).p7).p3).p7).p5).p7).p7).p7;refine⟨λmm w'=>∃(I:fX) (v3:SV) (xs3 a3:List cR),lT l I/\nF l La (ama l) mm I=some (t4,a3)/\y4=xs3++a3/\St w aX [fJ (ir v3) xs3,fJ (ir J) y1,bE (ir M) y2.flatten,bE (ir V) y3.flatten,bW RO (j0 (⟨J,M,V,v3,bY,bY⟩:bO)),bW p (eI lv I),bE lv l,bW wZ (j0 (⟨bY,bY,bY,bY,bY,bY⟩:bO))] w',⟨10000,s2,bY,[],y4,Xb,Z.h4,rfl,u⟩,?_⟩;rintro mm _ ⟨I,v3,xs3,a3,Y,hm3,hy3,u⟩ _
 obtain⟨m3,rfl⟩:=tK hm3;refine bG zB u.p5 (H':=λ_=>bW p (eI lv (iO l I (kp #[116,104,114,101,97,100])).1)) (Φ:=λv _=>v=.bool (iO l I (kp #[116,104,114,101,97,100])).2) (λG E B=>?_) ?_
 .exact C131 p lv l I (kp #[116,104,114,101,97,100]) G _ E (λw' hc=>(B w' hc).p5.dW) W Y
 rintro _ _ rfl u;refine bD (λvn=>?_) (λvn=>?_)
 .obtain⟨q3,z3,b3,hd3,hn3,rfl⟩:=yu hm3 vn;refine bG ag9 u (H':=λ_=>bW p (eI lv (fp l (iO l I (kp #[116,104,114,101,97,100])).1).1)) (Φ:=λv _=>v=ir (fp l (iO l I (kp #[116,104,114,101,97,100])).1).2) (λG E B=>?_) ?_
  .exact C133 p lv l (iO l I (kp #[116,104,114,101,97,100])).1 G _ E (λw' hc=>(B w' hc).p5.dW) W (kM Y)
  rintro _ _ rfl u;refine aN u pA (λb_c10 _ u=>aJ (x:=(fp l (iO l I (kp #[116,104,114,101,97,100])).1).2) u mw rfl rfl λ_ u=>aA kR (have u:=u.drew;aB (v:=ir (v3:SV)) iJ u.p6.hb rfl (aA kZ (aB (v:=.string (((fp l (iO l I (kp #[116,104,114,101,97,100])).1).2).name)) gK u.hb rfl (aA va (aB (v:=hZ (((fp l (iO l I (kp #[116,104,114,101,97,100])).1).2).at_)) bL u.hb rfl (pop (Qa _ _) (bG aha u.p1 (H':=λv=>qm λsh:cL=>fact (v=ir sh) (sep (bW p (eI lv q3)) (dZ λw=>mi w sh z3))) (Φ:=λ_ _=>True) (λG E B=>?_) ?_))))))))
  .exact(C134 p lv l (fp l (iO l I (kp #[116,104,114,101,97,100])).1).1 ((fp l (iO l I (kp #[116,104,114,101,97,100])).1).2).name ((fp l (iO l I (kp #[116,104,114,101,97,100])).1).2).at_ q3 z3 G _ E (λw' hc=>(B w' hc).p6.dW) W (vy (kM Y)) hd3).mono λ_ _ r=>r.mono λ_ _ h=>⟨trivial,h⟩
  rintro v_x63 _ _ yd;obtain⟨ami,zX⟩:=yd.eA
  clear yd
  obtain⟨amj,EK⟩:=zX.mK
  clear zX
  subst amj;have u:=EK.split
  clear EK
  refine⟨aF iJ (u.p7.hb.cell rfl),?_⟩;have u:=u.p1;refine gA (s:=ami) (x:=z3) u fF ee (λatC _ u=>?_);refine⟨aF iJ (u.p7.hb.cell rfl),?_⟩;have u:=u.p3;refine gg u fF (by have h1:=g6 List.length hy3;have h2:=Z.b4;simp at h1 |-;omega) ee (λatD _ u=>aA kR ?_);obtain⟨abz,rfl⟩:=u.pF;exact aT u.p6 iJ (dQ rfl) (rfl) (λ_ u=>have u:=((((u.enc (cs':=j0 (⟨J,M,V,abz,bY,bY⟩:bO)) rfl).p3).drop).p7).p7;have u:=u.p4.p3.p7.p7.p7.p7;⟨_,cO,q3,abz,xs3++[z3],b3,GO (vy (kM Y)) hd3,hn3,by rw[hy3,nK];rfl,u⟩)
 obtain⟨U,rfl⟩:=vz hm3 vn;replace U:=U.symm;subst U;rw[oO]at hy3;subst hy3;rw[yt vn]at u;refine⟨λw'=>∃v4:SV,St w aX [fJ (ir v4) y5,fJ (ir J) y1,bE (ir M) y2.flatten,bE (ir V) y3.flatten,fJ (ir v3) y4,bW RO (j0 (⟨J,M,V,v3,v4,bY⟩:bO)),bW p (eI lv t5),bE lv l,bW wZ (j0 (⟨bY,bY,bY,bY,bY,bY⟩:bO))] w',?_,?_⟩
 .refine bG zB u (H':=λ_=>bW p (eI lv (iO l I (kp #[114,101,99,111,118,101,114])).1)) (Φ:=λv _=>v=.bool (iO l I (kp #[114,101,99,111,118,101,114])).2) (λG E B=>?_) ?_
  .exact C131 p lv l I (kp #[114,101,99,111,118,101,114]) G _ E (λw' hc=>(B w' hc).p5.dW) W Y
  rintro _ _ rfl u;refine bD (λOK=>?_) (λOK=>?_)
  .obtain⟨z4,hd4,hy5⟩:=OJ Z.h5 OK;obtain⟨aAL,_,hlo68,hhi68⟩:=abn OK;have hat68:(iO l I (kp #[114,101,99,111,118,101,114])).1.at_=I.at_+1:=by rw[aAL]
   refine aA po (have u:=u.drew;aB (v:=ir (bY:SV)) iJ u.p5.hb rfl (aE (aA fG (aB bL u.hb rfl (ft cO ?_)))));obtain⟨abA,abB⟩:=gx l (i:=(((iO l I (kp #[114,101,99,111,118,101,114])).1).at_-1).toNat) cO;refine dT u.p6 fS cO cO (λ_ Ox=>mL lY Ox λ_ atE=>nY abA.at_ u.p6 bL atE abB rfl (pop (Yb _) ?_));have hbk:AE l (iO l I (kp #[114,101,99,111,118,101,114])).1=abA.at_:=g6 bU.at_ (B4 cO abB);rw[hbk]at hd4;refine bG aha u (H':=λv=>qm λsh:cL=>fact (v=ir sh) (sep (bW p (eI lv t5)) (dZ λw=>mi w sh z4))) (Φ:=λ_ _=>True) (λG E B=>?_) ?_
   .exact(C134 p lv l (iO l I (kp #[114,101,99,111,118,101,114])).1 (kp #[]) abA.at_ t5 z4 G _ E (λw' hc=>(B w' hc).p5.dW) W (kM Y) hd4).mono λ_ _ r=>r.mono λ_ _ h=>⟨trivial,h⟩
   rintro v_x82 _ _ yd;obtain⟨amk,zX⟩:=yd.eA
   clear yd
   obtain⟨aml,EK⟩:=zX.mK
   clear zX
   subst aml;have u:=EK.split
   clear EK
   refine⟨aF iJ (u.p6.hb.cell rfl),?_⟩;have u:=u.p1;refine gA (s:=amk) (x:=z4) u fF ee (λail _ u=>?_);refine⟨aF iJ (u.p6.hb.cell rfl),?_⟩;have u:=((u.J4 (α:=cR)).p1).p1;refine gg u fF ei ee (λarT _ u=>aA po ?_);obtain⟨abC,rfl⟩:=u.pF;refine aT u.p6 iJ (dQ rfl) (rfl) (λ_ u=>?_);have u:=(((((u.enc (cs':=j0 (⟨J,M,V,v3,abC,bY⟩:bO)) rfl).p8).p8).p4).p3).p5;have u:=u.p8.p8.p8.p8;rw[hy5];exact⟨abC,u⟩
  rw[yt OK]at u;have u:=(((((((((u.J4 (α:=cR)).p8).p8).p3).p8).p5).p8).p8).p8).p8;obtain⟨e5,e6⟩:=Uw Z.h5 OK;rw[e5,e6];exact⟨bY,u⟩
 rintro _ ⟨v4,u⟩ _;have u:=((((((((((u.J4 (α:=ic)).p9).p9).p9).p9).p5).p9).p9).p9).p9).p9;refine⟨λmm w'=>∃(O:fX) (v5:SV) (xs5 a5:List ic),lT l O/\nF l Lb (λs=>yr l s (AE l s)) mm O=some (t6,a5)/\y6=xs5++a5/\St w aX [fJ (ir v5) xs5,fJ (ir J) y1,bE (ir M) y2.flatten,bE (ir V) y3.flatten,fJ (ir v3) y4,fJ (ir v4) y5,bW RO (j0 (⟨J,M,V,v3,v4,v5⟩:bO)),bW p (eI lv O),bE lv l,bW wZ (j0 (⟨bY,bY,bY,bY,bY,bY⟩:bO))] w',⟨10000,t5,bY,[],y6,(af9 Y Z.h5),Z.h6,rfl,u⟩,?_⟩;rintro mm _ ⟨O,v5,xs5,a5,hi5,hm5,hy5,u⟩ _
 obtain⟨m5,rfl⟩:=tK hm5;refine bG zB u.p7 (H':=λ_=>bW p (eI lv (iO l O (kp #[97,108,119,97,121,115])).1)) (Φ:=λv _=>v=.bool (iO l O (kp #[97,108,119,97,121,115])).2) (λG E B=>?_) ?_
 .exact C131 p lv l O (kp #[97,108,119,97,121,115]) G _ E (λw' hc=>(B w' hc).p7.dW) W hi5
 rintro _ _ rfl u;refine bD (λOL=>?_) (λOL=>?_)
 .obtain⟨q5,z5,b5,hd5,EA,rfl⟩:=yu hm5 OL;obtain⟨aAO,_,hlo87,hhi87⟩:=abn OL;have hat87:(iO l O (kp #[97,108,119,97,121,115])).1.at_=O.at_+1:=by rw[aAO]
  refine aA jB (have u:=u.drew;aB (v:=ir (v5:SV)) rz u.p7.hb rfl (aE (aA fG (aB bL u.hb rfl (ft cO ?_)))));obtain⟨abD,abE⟩:=gx l (i:=(((iO l O (kp #[97,108,119,97,121,115])).1).at_-1).toNat) cO;refine dT u.p8 fS cO cO (λ_ atG=>mL lY atG λ_ atH=>nY abD.at_ u.p8 bL atH abE rfl ?_);have hbk:AE l (iO l O (kp #[97,108,119,97,121,115])).1=abD.at_:=g6 bU.at_ (B4 cO abE);rw[hbk]at hd5;refine bG aoH u (H':=λv=>qm λsh:jF=>fact (v=ir sh) (sep (bW p (eI lv q5)) (dZ λw=>mi w sh z5))) (Φ:=λ_ _=>True) (λG E B=>?_) ?_
  .exact(C135 p lv l (iO l O (kp #[97,108,119,97,121,115])).1 abD.at_ q5 z5 G _ E (λw' hc=>(B w' hc).p7.dW) W (kM hi5) hd5).mono λ_ _ r=>r.mono λ_ _ h=>⟨trivial,h⟩
  rintro aAP _ _ yd;obtain⟨aga,zX⟩:=yd.eA
  clear yd
  obtain⟨agb,EK⟩:=zX.mK
  clear zX
  subst agb;have u:=EK.split
  clear EK
  refine⟨aF rz (u.p8.hb.cell rfl),?_⟩;have u:=u.p1;refine gA (s:=aga) (x:=z5) u tT ee (λalu _ u=>?_);refine⟨aF rz (u.p8.hb.cell rfl),?_⟩;have u:=u.p2;refine gg u tT (by have h1:=g6 List.length hy5;have h2:=Z.b6;simp at h1 |-;omega) ee (λalv _ u=>aA jB ?_);obtain⟨Uy,rfl⟩:=u.pF;exact aT u.p7 rz (dQ rfl) (rfl) (λ_ u=>have u:=(((((u.enc (cs':=j0 (⟨J,M,V,v3,v4,Uy⟩:bO)) rfl).p9).p9).p4).p3).p9;have u:=u.p9.p9.p9.p9.p9;⟨_,cO,q5,Uy,xs5++[z5],b5,Wc (kM hi5) hd5,EA,by rw[hy5,nK];rfl,u⟩)
 obtain⟨U,rfl⟩:=vz hm5 OL;replace U:=U.symm;subst U;rw[oO]at hy5;subst hy5;rw[yt OL]at u;obtain⟨hi50,hi51⟩:=id hi5;refine⟨λw'=>St w aX [fJ (ir v5) y6,fJ (ir J) y1,bE (ir M) y2.flatten,bE (ir V) y3.flatten,fJ (ir v3) y4,fJ (ir v4) y5,bW RO (j0 (⟨J,M,V,v3,v4,v5⟩:bO)),bW p (eI lv (HJ l O)),bE lv l,bW wZ (j0 (⟨bY,bY,bY,bY,bY,bY⟩:bO))] w',aE (aA fG (aB bL u.hb rfl (aK fS u.p8.dW (aR (aC (λRQ=>?_) λRQ=>?_))))),?_⟩
 .refine bG Sy u (H':=λ_=>bW p (eI lv (jG l O 5))) (Φ:=λ_ _=>True) (λG E B=>?_) ?_
  .exact(C136 p lv l O G _ E (λw' hc=>(B w' hc).p7.dW) W hi5).mono λ_ _ r=>r.mono λ_ _ h=>⟨trivial,h.2⟩
  rintro _ _ _ u;have u:=u.p9.p9.p2.p9.p9.p9.p9.p9.p9.p9;have he6:HJ l O=jG l O 5:=ew RQ;rw[he6];exact u
 .have u:=u.p9.p9.p2.p9.p9.p9.p9.p9.p9.p9;have he6:HJ l O=O:=ej RQ;rw[he6];exact u
 intro _ u _;refine aE (aA mI (aB jU u.p7.hb rfl (bQ (aC (λRR=>?_) λRR=>?_))))
 .refine pop (v:=ir (⟨bY,bY,bY,bY,bY,bY⟩:bO)) (by kernel_rfl) (aE (aA mI (have u:=u.drew;aB jU u.p7.hb rfl (aE (aA xB (aB bL u.p7.hb rfl (aJ (x:=(⟨bY,bY,bY,bY,bY,bY⟩:bO)) u.p9 er rfl rfl λ_ u=>?_)))))));refine⟨aF jU (u.p8.hb.cell rfl),?_⟩;refine⟨aF bL (u.p8.hb.cell rfl),?_⟩;refine aD er u.At ?_;have u:=u.fk (Φ:=(λw=>mi w (⟨bY,bY,bY,bY,bY,bY⟩:bO) (⟨[],[],[],[],[],[]⟩:bZ))) (λ_=>⟨_,_,_,_,_,_,rfl,DL.nil _,DL.nil _,DL.nil _,DL.nil _,DL.nil _,DL.nil _⟩);have u:=u.p1.drop.p1.drop.p1.drop.p1.drop.p1.drop.p1.drop.p1.drop.p1.drop.p1.drop
  have u:=u.p1.drop;rw[Z.bad RR];exact⟨_,rfl,u.fresh⟩
 refine aD er u.p6.At (aJ (x:=(⟨J,M,V,v3,v4,v5⟩:bO)) u.p9 er rfl rfl λ_ u=>aD er u.At ?_);have u:=u.p2.oy.p3.freeze.p1.gv.p3.freeze.p1.gv.p3.oy.p1.gv.p3.oy.p1.gv;have u:=u.p2.oy.p1.gv.dF (Ψ:=(λw=>mi w (⟨J,M,V,v3,v4,v5⟩:bO) (⟨y1,y2.flatten,y3.flatten,y4,y5,y6⟩:bZ))) (λ_ h=>⟨_,_,_,_,_,_,rfl,h.1.1.1.1.1,DL.jZ h.1.1.1.1.2,DL.jZ h.1.1.1.2,h.1.1.2,h.1.2,h.2⟩);have u:=u.p1.drop.p1.drop.p1.drop.p1.drop;rw[Z.aAD RR];exact⟨_,rfl,u.fresh⟩
theorem OM{l:List Int}{k:Nat}(u:0<k)(h:k<=l.length):gh (l.take k)=l.getD (k-1) 0+1:=by
 grind[gh]
def EL{f:Int->List kD}{a k:Int}{xs:List kD}{x:kD}(h:x∈qt f a xs k):x∈xs\/x∈f k:=by
 unfold qt at h;grind
def Ja{m:Mem}{c n:Int}(h:vI m):vI (fw m c n):=by
 unfold fw
 split
 .rename_i tS
  unfold HD at tS;rw[decide_eq_true_eq]at tS
  refine⟨h.LA,h.fl,by show(m.l.set _ _).length=_;rw[HC];exact h.ll,h.kl,h.ofr,h.lb,λk x u=>?_⟩
  dsimp only at u
  split at u
  .rename_i hc
   rcases EL u with h1|h1
   .rw[o8]at h1
    rcases h1 with h1|h1
    .exact h.pc _ x h1
    grind
   exact h.pc _ x h1
  exact h.pc _ x u
 exact h
def agc{m:Mem}{c:Int}(h:vI m):vI (oM m c):=by
 unfold oM
 split
 .refine⟨h.LA,h.fl,h.ll,by show(og _ _).length=_;rw[yf];exact h.kl,h.ofr,h.lb,λk x u=>?_⟩
  rcases EL u with h1|h1
  .cases h1
  exact h.pc _ x h1
 exact h
def Wj{m:Mem}{cut u:List Int}(h:fy m cut=some u):u.length=m.kept.length:=by
 unfold fy at h;split at h
 .cases h;exact mV _ _ _
 cases h
def Wk{m:Mem}{cut u:List Int}(h:vI m)(hi:fy m cut=some u):vI (mW m u):=by
 have h1:=Wj hi
 have h2:=h.kl;have h3:=h.LA
 refine⟨h.LA,h.fl,?_,?_,h.ofr,h.lb,λk x B=>by cases B⟩
 .show(u++m.eg.drop u.length).length=m.eg.length
  rw[lr,List.length_drop];omega
 show u.length=m.of.length;omega
section
def Jb{u:Mem}{x:bJ}(h:vI u):vI (j5 u x)/\(j5 u x).of=u.of/\(j5 u x).eg=u.eg:=by
 unfold j5
 split
 .exact⟨Ja h,IQ _ _ _,uM _ _ _⟩
 split
 .grind
 exact⟨agc h,afH _ _,N1 _ _⟩
end
def MB.mono{B:Mem}{a b:Nat}(h:MB B a)(u:a<=b):MB B b:=λk=>Nat.le_trans (h k) u
def MB.write{u:Mem}{c x:Int}{n:Nat}(h:MB u n):MB (fw u c x) (n+1):=by
 intro k
 unfold fw
 split
 .dsimp only
  split
  .unfold qt
   split
   .rw[lr,l2];have:=h (u.of.getD c.toNat 0);omega
   have:=h k;omega
  have:=h k;omega
 have:=h k;omega
theorem MB.out{u:Mem}{c:Int}{n:Nat}(h:MB u n):MB (oM u c) n:=by
 intro k
 unfold oM
 split
 .dsimp only
  unfold qt
  split
  .simp
  exact h k
 exact h k
theorem MB.j5{u:Mem}{x:bJ}{n:Nat}(h:MB u n):MB (j5 u x) (n+1):=by
 unfold Go.Proofs.YtpdlpabnlkofmaaGreatDoor.j5
 split
 .exact h.write
 split
 .exact h.mono (MI n)
 exact h.out.mono (MI n)
theorem amm{α:Type}{g:α->Bool}{l:List α}(h:0<=sT g l):sT g l<l.length:=by
 unfold sT at h |-
 cases hf:l.findIdx? g with
 | none=>grind
 | some k=>
  have:=(List.findIdx?_eq_some_iff_getElem.1 hf).1
  grind
def abF{ns:List ByteArray}{s:ByteArray}(h:0<=dA ns s):dA ns s<ns.length:=amm h
theorem Ex.atI(ns:List ByteArray)(t:Ex):t.wf->∀n h:Int,0<=n->∃M,(t.steps ns).foldl W5 (some (n,h))=some (n+1,M):=by
 induction t with
 | leaf x=>
  intro B n h G
  have u:kids x.op=0:=B
  have E:eM x.op=0:=by
   unfold kids at u
   unfold eM
   omega
  simp_all[W5,steps]
 | un x a O=>
  intro B n h G
  have u:kids x.op=1:=B.1
  have E:eM x.op=1:=by
   unfold kids at u
   unfold eM
   omega
  obtain⟨h1,U⟩:=O B.2 n h G
  simp_all[W5,steps]
 | bin x a b I J=>
  intro B n h G
  have u:kids x.op=2:=B.1
  have E:eM x.op=2:=by
   unfold kids at u
   unfold eM
   omega
  obtain⟨h1,U⟩:=I B.2.1 n h G
  obtain⟨h2,V⟩:=J B.2.2 (n+1) h1 cO
  refine⟨max h2 (n+1),?_⟩
  grind[W5,steps]
def Ld{k:Int}(h:kids k=0\/kids k=1\/kids k=2):1<=k/\k<=15:=by
 unfold kids at h
 omega
theorem Ex.Wl(ns:List ByteArray)(t:Ex):t.wf->∀o∈t.steps ns,∃x∈t.flat,o=⟨x.op,numOf ns x⟩/\1<=x.op/\x.op<=15:=by
 induction t with
 | leaf x=>intro B o u;exact⟨x,by simp[Ex.flat],by simpa[Ex.steps]using u,Ld (.inl B)⟩
 | un x a I=>
  intro B o u
  have u:o∈a.steps ns++[⟨x.op,numOf ns x⟩]:=u
  rw[o8]at u
  rcases u with u|u
  .obtain⟨y,h1,h2⟩:=I B.2 o u;exact⟨y,by simp[Ex.flat,h1],h2⟩
  .exact⟨x,by simp[Ex.flat],dI,Ld (.inr (.inl B.1))⟩
 | bin x a b E G=>
  intro B o u
  have u:o∈a.steps ns++b.steps ns++[⟨x.op,numOf ns x⟩]:=u
  rw[o8,o8]at u
  rcases u with(u|u)|u
  .obtain⟨y,h1,h2⟩:=E B.2.1 o u;exact⟨y,by simp[Ex.flat,h1],h2⟩
  .obtain⟨y,h1,h2⟩:=G B.2.2 o u;exact⟨y,by simp[Ex.flat,h1],h2⟩
  .exact⟨x,by simp[Ex.flat],dI,Ld (.inr (.inr B.1))⟩
def ON{ns:List ByteArray}{l:List cC}{many:Int}(G:fK l=true)(E:pK l ns=false)(hm:many=ns.length):mN (qZ ns l) many=true/\(qZ ns l).length<=40:=by
 have DX:=G
 unfold fK at G
 simp only[n4,ta,decide_eq_true_eq,B2]at G
 obtain⟨⟨⟨h1,h2⟩,h3⟩,h4⟩:=G
 obtain⟨t,O⟩:=Option.isSome_iff_exists.1 h2
 obtain⟨M,U⟩:=vX O
 have W:=E
 unfold pK at E
 have he:lq ns l=0:=by grind[lq]
 have hl:qZ ns l=t.steps ns:=by unfold qZ;rw[ew he];unfold CJ;rw[O]
 rw[hl]
 have hlen:(t.steps ns).length<=40:=by rw[Ex.qp,<- Ex.dC,<- U];exact h1
 obtain⟨Z,e'⟩:=t.atI ns M 0 0 (Ns _)
 have V:ht (t.steps ns)=some (1,Z):=by unfold ht;grind
 refine⟨?_,hlen⟩
 unfold mN htN
 rw[V]
 simp only[Option.isSome_some,decide_true,Bool.and_true,n4,decide_eq_true_eq,ta,B2]
 refine⟨hlen,λo Y=>?_⟩
 obtain⟨x,J,rfl,Ss,xd⟩:=t.Wl ns M o Y
 rw[<- U]at J
 have u:=h3 x J
 unfold lE at u
 simp only[Bool.or_eq_true,decide_eq_true_eq,not_or,n4,ta,not_and,Bool.not_eq_false]at u
 obtain⟨⟨⟨⟨g1,g2⟩,g3⟩,g4⟩,g5⟩:=u
 have hn:Ex.numOf ns x=if x.op=2 then dA ns x.name else x.n:=rfl
 unfold rK
 simp only[decide_eq_true_eq]
 rintro(⟨B,I⟩|⟨B,I⟩|⟨B,I,q3⟩)
 .omega
 .have B:x.op=2:=B
  rw[hn,ew B]at I
  rw[B2]at E
  have:=E x J
  simp only[n4,decide_eq_true_eq,not_and]at this
  have h5:=this B
  have h6:=abF (ns:=ns) (s:=x.name) cO
  omega
 omega
theorem wq:∀(ls:List (List cN)) (i a:Int),0<=a->(∀l∈ls,l≠[])->i<=jy ls i a/\(∀b,a<=b->jy ls i a<=jy ls i b)/\(jy ls i (a+1)=jy ls i a\/jy ls i (a+1)=jy ls i a+1)
 | [],i,a,E,_=>⟨by unfold jy;omega,λb hb=>by unfold jy;omega,by unfold jy;omega⟩
 | l::r,i,a,E,hl=>by
  have J:0<l.length:=List.length_pos_iff.2 (hl l (oj ..))
  have u:=λl B=>hl l (qo _ B)
  unfold jy
  by_cases h1:a<l.length
  .rw[ew h1]
   refine⟨Ns _,λb hb=>?_,?_⟩
   .split
    .omega
    .have:=(wq r (i+1) (b-l.length) cO u).1;omega
   .split
    .omega
    .have e:a+1-(l.length:Int)=0:=cO
     rw[e]
     cases r with
     | nil=>unfold jy;omega
     | cons M G=>
      simp_all[jy]
  .rw[ej h1]
   obtain⟨O,I,U⟩:=wq r (i+1) (a-l.length) cO u
   grind
section
variable {p:bZ}
theorem rq(p:bZ):0<=eH p/\eH p<=(iE p).length:=by grind[eH,iE]
theorem OO{c:Int}(h:0<=c/\c<(iE p).length):qd p c=jy p.lines 0 c:=by unfold qd;omega
end
section
variable {m:gl}{t:kc}{i:Int}{x:bR}{p:bZ}
theorem abG:(eo m t i x).1.l=m.l:=by
 unfold eo sg qf;grind
theorem De:(eo m t i x).1.room=m.room:=by
 unfold eo sg qf;grind
theorem amn:(eo m t i x).1.p=m.p:=by
 unfold eo sg qf;grind
theorem Df:(eo m t i x).2.1.cJ=t.cJ:=by
 unfold eo pN qB;grind
theorem wy:(eo m t i x).2.1.names=t.names:=by
 unfold eo pN qB;grind
theorem Wm{room:Int}{l:List bJ}{y:bJ}:(tu room l y).length<=l.length\/((tu room l y).length:Int)<=room:=by
 grind[tu]
theorem Le{φ:bR->Prop}(h:tC φ t)(B:m.room<=16):tC φ (eo m t i x).2.1:=by
 have h1:=h.p;have h2:=h.rl;have h3:=h.nb;have h4:=h.bl;have h5:=h.cl
 have u:∀y,tC φ (qB m t y):=λy=>by
  have h6:=Wm (room:=m.room) (l:=t.buf) (y:=y)
  exact⟨h1,h2,h3,by show(tu m.room t.buf y).length<=1000;omega,h5⟩
 unfold eo;repeat' split
 all_goals first
  | exact h
  | exact h.set _ _
  | exact u _
theorem abH(h:vI m.mem):vI (eo m t i x).1.mem/\(eo m t i x).1.mem.of=m.mem.of/\(eo m t i x).1.mem.eg=m.mem.eg:=by
 unfold eo sg qf;repeat' split
 all_goals first
  | exact⟨h,rfl,rfl⟩
  | exact⟨Ja h,IQ _ _ _,uM _ _ _⟩
theorem agd{n:Nat}(h:MB m.mem n):MB (eo m t i x).1.mem (n+1):=by
 unfold eo sg qf;repeat' split
 all_goals first
  | exact h.mono (MI n)
  | exact h.write
theorem age:(eo m t i x).1.fc.length=m.fc.length:=by
 unfold eo sg qf;grind
theorem Lf{φ:bR->Prop}(h:tC φ t):tC φ {t with cJ:=gO t.cJ}:=by
 refine h.cJ h.p.pop ?_
 match hp:t.cJ with
 | []=>exact o6 _
 | (.nil,_)::q=>grind[ik,gO]
 | (.cons y a b r,e)::q=>have:=Rj (p:=(.cons y a b r,e)::q) rfl;omega
theorem OP{cs ls:List ByteArray}(h:yW cs ls t):aa2 (goD t):=λu=>TZ _ (rn h).1 h u
theorem Wn(u:m4 m)(ht:t∈m.l):yW (cX m.p) (cP m.p) (uO m t i x)/\aa2 (uO m t i x)/\(uO m t i x).names=t.names:=by
 have h1:tC (VS (cX m.p) (cP m.p) t.names) { (eo m t i x).2.1 with cJ:=gO (eo m t i x).2.1.cJ}:=Lf (Le (u.th t ht) u.rm.2)
 have h2:yW (cX m.p) (cP m.p) { (eo m t i x).2.1 with cJ:=gO (eo m t i x).2.1.cJ}:=by
  show tC (VS _ _ (eo m t i x).2.1.names) _
  rw[wy];exact h1
 exact⟨(rn h2).2.1,OP h2,(rn h2).2.2.trans wy⟩
theorem vA{β:Type}{l:List β}{k:Nat}{a y:β}(h:y∈l.set k a):y=a\/y∈l:=(Tu h).symm
theorem abI(u:m4 m):m4 (iI m i).1/\(iI m i).1.p=m.p/\(∀n,MB m.mem n->MB (iI m i).1.mem (n+1))/\(iI m i).1.l.length=m.l.length:=by
 unfold iI
 split
 .exact⟨u,rfl,λn h=>h.mono (MI n),rfl⟩
 rename_i t ht
 have G:=kE ht
 split
 .exact⟨⟨u.mem,u.th,u.tl,u.ow,u.rm,u.st,u.pz⟩,rfl,λn h=>h.mono (MI n),rfl⟩
 split
 .exact⟨u,rfl,λn h=>h.mono (MI n),rfl⟩
 rename_i x _ _ _
 split
 .exact⟨⟨u.mem,u.th,u.tl,u.ow,u.rm,u.st,u.pz⟩,rfl,λn h=>h.mono (MI n),rfl⟩
 obtain⟨I,J,_⟩:=Wn (i:=i) (x:=x) u G
 have E:=amn (m:=m) (t:=t) (i:=i) (x:=x)
 refine⟨⟨(abH u.mem).1,λy B=>?_,by show(m.l.set _ _).length<=_;rw[HC];exact u.tl,?_,by show 1<=(eo m t i x).1.room/\_;rw[De];exact u.rm,λy B=>?_,?_⟩,E,λn h=>agd h,HC⟩
 .show yW (cX (eo m t i x).1.p) (cP (eo m t i x).1.p) y
  rw[E]
  rcases vA B with rfl|B
  .exact I
  exact u.th y B
 .show(eo m t i x).1.fc.length=(cP (eo m t i x).1.p).length
  rw[age,E];exact u.ow
 .rcases vA B with rfl|B
  .exact J
  exact u.st y B
 show PZ (eo m t i x).1.p;rw[E];exact u.pz
theorem RS{l:List bJ}{i:Int}:(j4 l i).length<=l.length:=by
 grind[j4]
theorem agf{q:aS}(u:m4 m)(ht:m.l[q.t.toNat]?=some t):m4 (tY m t q)/\(∀n,MB m.mem n->MB (tY m t q).mem (n+1)):=by
 have E:=kE ht
 have h1:=u.th t E
 refine⟨⟨(Jb u.mem).1,λy B=>?_,by show(m.l.set _ _).length<=_;rw[HC];exact u.tl,u.ow,u.rm,λy B=>?_,u.pz⟩,λn h=>h.j5⟩
 .rcases vA B with rfl|B
  .have:=RS (l:=t.buf) (i:=q.i)
   exact⟨h1.p,h1.rl,h1.nb,by show(j4 t.buf q.i).length<=1000;have:=h1.bl;omega,h1.cl⟩
  exact u.th y B
 rcases vA B with rfl|B
 .exact u.st t E
 exact u.st y B
structure Hl(p:bZ):Prop where
 f:PF p
 big:vm p=false
 w:∀t∈gE p,rP t.body=false
 tw:kJ (fW p)=false
 u:∀t∈gE p,∀x∈t.body,nD p t.dY x=false
theorem pS(h:fg p=0):Hl p:=by
 unfold fg at h
 split at h
 .cases h
 rename_i h1
 split at h
 .cases h
 rename_i h2
 split at h
 .cases h
 rename_i h3
 split at h
 .cases h
 rename_i h4
 split at h
 .cases h
 rename_i h5
 split at h
 .cases h
 rename_i h6
 simp only[Bool.not_eq_true,B2]at h2 h3 h4 h6
 exact⟨q9 dI,h2,λt ht=>dI,h4,λt ht x u=>dI⟩
theorem Lg:∀(b:Bk) (n:Int),b.ok n=true->∀x∈b.flat,x.eG<=0\/x.kind=11
 | .nil,_,_,_,h=>by cases h
 | .cons y a b r,n,h,x,u=>by
  unfold Bk.ok at h
  simp only[n4]at h
  obtain⟨⟨⟨h1,h2⟩,h3⟩,h4⟩:=h
  unfold Bk.flat at u
  rcases sl.1 u with rfl|u
  .unfold Bk.yP at h1;grind
  .rcases o8.1 u with u|u
   .exact Lg a _ h2 x u
   .rcases o8.1 u with u|u
    .exact Lg b _ h3 x u
    .exact Lg r _ h4 x u
theorem GP{l:List cC}(h:fK l=true):l.length<=40:=by
 unfold fK at h
 grind
theorem Jc{l:List cC}(h:fK l=true):∀y∈l,y.name.size<=1000:=λy B=>by
 have u:lE y=false:=by
  unfold fK at h
  grind
 unfold lE gY at u
 by_cases h2:y.op=2
 .grind
 .have:y.name=⟨#[]⟩:=dI
  rw[this];decide
theorem amo(hc:Hl p){t:cR}(ht:t∈gE p){x:bR}(J:x∈t.body)(G:nB x=true)(he:x.eG<=0\/x.kind=11):VS (cX p) (cP p) t.dY x:=by
 have E:=hc.u t ht x J
 have W:=Kk G
 have u:=yS G
 unfold nD at E
 simp only[KG,Bool.and_eq_false_iff,decide_eq_false_iff_not,u1]at E
 obtain⟨⟨⟨⟨⟨B,U⟩,Z⟩,V⟩,_⟩,_⟩:=E
 have I:x.e.length<=1000:=by
  rcases u.e with h|h
  .have:=GP h.2;omega
  grind
 have O:x.f.length<=1000:=by
  rcases u.f with h|h
  .have:=GP h.2;omega
  grind
 refine⟨u.kind,⟨I,O⟩,λh=>cO,λh=>cO,λh=>?_,λh=>cO,λh=>cO,?_,?_⟩
 rotate_left
 .rcases u.e with h|h
  .exact Jc h.2
  grind
 .rcases u.f with h|h
  .exact Jc h.2
  grind
 rcases B with B|B
 .exfalso
  have M:=u.eN
  rcases M with⟨_,h2⟩|⟨h1,_⟩
  .rw[B,NM]at h2;cases h2
  have Y:=u.kind
  rcases h with h|h|h<;>rw[h]at h1<;>exact absurd h1 ee
 omega
theorem vB:∀(b:Bk) (n:Int),1<=n->n<=64->mS b n=false->(∀x∈b.flat,x.kind=12->1<=x.n)->n.toNat*mh b<=128*b.len
 | .nil,n,_,_,_,_=>by simp[mh]
 | .cons y a b r,n,h1,h2,hw,G=>by
  rw[wc]at hw
  simp only[KG,decide_eq_false_iff_not]at hw
  obtain⟨⟨J,u,M⟩,Z⟩:=hw
  have U:∀x∈a.flat,x.kind=12->1<=x.n:=λx B=>G x (by unfold Bk.flat;simp[B])
  have qb:∀x∈b.flat,x.kind=12->1<=x.n:=λx B=>G x (by unfold Bk.flat;simp[B])
  have Y:∀x∈r.flat,x.kind=12->1<=x.n:=λx B=>G x (by unfold Bk.flat;simp[B])
  have W:=vB r n h1 h2 Z Y
  rw[tB]
  unfold Bk.len
  obtain⟨k,rfl⟩:=Pj (show 0<=n by omega)
  rw[pd]at W |-
  by_cases E:y.kind=12
  .rw[ew E]
   have V:=G y (by unfold Bk.flat;grind) E
   unfold rO at J u
   rw[ew E]at J u
   obtain⟨j,O⟩:=Pj (show 0<=y.n by omega)
   rw[O]at J u V
   rw[O,pd]
   have I:(1:Int)<=(k:Int)*(j:Int):=by
    have:=Int.mul_le_mul (a:=1) (b:=1) (c:=(k:Int)) (d:=(j:Int)) h1 V cO cO
    omega
   have ia:=vB a _ I cO u U
   grind
  .rw[ej E]
   unfold rO at u M
   rw[ej E]at u M
   have ia:=vB a k h1 h2 u U
   have ib:=vB b k h1 h2 M qb
   grind
theorem OQ{b:Bk}(h:b.str):IY b.flat=b:=by unfold IY;rw[sq h];rfl
theorem EM(hc:Hl p){t:cR}(ht:t∈gE p):yW (cX p) (cP p) (xe t):=by
 obtain⟨_,h2,_⟩:=hc.f.rB ht
 obtain⟨h3,h4,b,h5,h6,M,_⟩:=lK h2
 have hb:IY t.body=b:=by rw[h5];exact OQ h6
 have I:D8 (VS (cX p) (cP p) t.dY) b:=(VQ b).2 λx u=>by
  rw[<- h5]at u
  exact amo hc ht u (h4 x u) (Lg b 0 M x dI)
 have O:GB (VS (cX p) (cP p) t.dY) []:=⟨λ_ h=>(by cases h),λ_ h=>(by cases h),λ_ h=>(by cases h)⟩
 have E:=hc.w t ht
 rw[h5,vZ h6]at E
 have J:=vB b 1 cO cO E λx u U=>(((Kk (h4 x dI)).2 U).1)
 have V:b.len<=40:=by rw[<- Bk.dC,<- h5];exact h3
 have G:t.dY.length<=4:=by
  have B:=hc.big
  unfold vm at B
  grind
 refine⟨?_,by simp[xe],by show t.dY.length<=1000;omega,by simp[xe],?_⟩
 .show GB _ (jz (IY t.body) false [])
  rw[hb];exact O.push h6 I
 show ik (jz (IY t.body) false [])<=10000
 rw[hb,tA]
 grind[mh,ik]
theorem abJ:yW (cX p) (cP p) (xe ⟨⟨#[]⟩,[],[],0⟩):=by
 refine⟨⟨λ_ h=>(by cases h),λ_ h=>(by cases h),λ_ h=>(by cases h)⟩,rfl,(by decide:(0:Nat)<=1000),(by decide:(0:Nat)<=1000),(by decide:(0:Nat)<=10000)⟩
theorem Jd{l:List cR}(G:vI m.mem)(E:1<=m.room/\m.room<=16)(I:PZ m.p)(J:l.length<=1000)(h:∀t∈l,yW (cX m.p) (cP m.p) (xe t)):m4 (rD m l):=by
 refine⟨G,λt ht=>?_,by show(l.map VX).length<=1000;rw[List.length_map];exact J,by show(List.replicate _ _).length=_;rw[List.length_replicate];rfl,E,λt ht=>?_,I⟩
 .obtain⟨u,B,rfl⟩:=ob.1 ht
  exact(rn (h u B)).2.1
 obtain⟨u,B,rfl⟩:=ob.1 ht
 exact OP (h u B)
theorem Lh(hc:Hl m.p):(vx m).length<=1/\∀t∈vx m,yW (cX m.p) (cP m.p) (xe t):=by
 unfold vx
 split
 .exact⟨o6 _,λt ht=>by rw[v7.1 ht];exact abJ⟩
 exact⟨hc.f.one,λt ht=>EM hc (List.mem_append_right _ ht)⟩
theorem B7{k:Nat}{x:aS}(h:x∈iz m k):∃i t,i<k/\m.l[i]?=some t/\x∈se m i t:=by
 unfold iz at h
 grind
theorem GQ{i:Nat}{t:kc}{x:aS}(h:x∈se m i t):x.t=i/\x.cut=[]/\((x.kind=1/\tG m t=true/\x.i=0)\/(x.kind=2/\x.i∈qe t.buf)):=by
 unfold se at h
 grind
theorem amq{q:aS}(h:(gi m).any (nE q)=true):m.fault=0/\0<=q.t/\q.cut.length=0/\∃t,m.l[q.t.toNat]?=some t/\((q.kind=1/\tG m t=true)\/(q.kind=2/\q.i∈qe t.buf)):=by
 rw[List.any_eq_true]at h
 obtain⟨x,u,B⟩:=h
 unfold gi at u
 split at u
 .cases u
 rename_i hf
 obtain⟨i,t,_,ht,E⟩:=B7 u
 obtain⟨h1,_,h2⟩:=GQ E
 unfold nE at B
 simp only[n4,decide_eq_true_eq]at B
 have e:q.t=(i:Int):=cO
 refine⟨cO,cO,B.2,t,by rw[e];exact ht,?_⟩
 rcases h2 with⟨a,b,_⟩|⟨a,b⟩
 .exact .inl ⟨cO,b⟩
 exact .inr ⟨cO,by rw[<- B.1.2];exact b⟩
theorem OR(h:tG m t=true):∃x a b,pM t.cJ=some (x,a,b):=by
 unfold tG at h
 grind
theorem amr{q:aS}(u:m4 m)(hc:Hl m.p):m4 (nf m q).1/\(nf m q).1.p=m.p/\(∀n,MB m.mem n->MB (nf m q).1.mem (n+1)):=by
 unfold nf
 cases hi:ja m q with
 | some G=>
  have E:fy m.mem q.cut=some G:=by unfold ja at hi;grind
  obtain⟨I,B⟩:=Lh hc
  refine⟨Jd (Wk u.mem E) u.rm u.pz cO B,rfl,λn h k=>?_⟩
  show([]:List kD).length<=_
  grind
 | none=>
  dsimp only
  split
  .split
   .split
    .rename_i t ht
     obtain⟨h1,h2⟩:=agf u ht
     exact⟨h1,rfl,h2⟩
    .exact⟨u,rfl,λn h=>h.mono (MI n)⟩
   .obtain⟨h1,h2,h3,_⟩:=abI (i:=q.t) u
    grind
  .exact⟨u,rfl,λn h=>h.mono (MI n)⟩
theorem Li{i:Nat}(h:i<(cX p).length):(BX p)[i]?=some (qd p i):=by grind[BX,qd]
theorem B8(p:bZ):(cX p).length=(iE p).length:=by unfold cX;grind
theorem abK(hc:Hl p):(iE p).length<=20:=by
 have hb:=hc.big
 unfold vm at hb
 simp only[KG,B2,decide_eq_false_iff_not,decide_eq_true_eq]at hb
 obtain⟨⟨h1,_⟩,⟨⟨⟨⟨h2,h3⟩,_⟩,_⟩,_⟩,_⟩:=hb
 have h4:∀ls:List (List cN),(∀l∈ls,¬ 4<(l.length:Int))->ls.flatten.length<=4*ls.length:=by
  intro ls
  induction ls with
  | nil=>grind
  | cons l r u=>
   grind
 grind[iE]
theorem RT(hc:Hl p){k:Nat}{n:Int}(I:(k:Int)<eH p)(G:(BX p)[k]?=some n):(n=ui (BX p) k\/(0<k/\n=ui (BX p) k-1))/\0<=n/\n<=k:=by
 have O:=rq p
 have V:=B8 p
 have B:∀l∈p.lines,l≠[]:=λl E=>(hc.f.lines l E).1
 have J:∀j:Nat,(j:Int)<eH p->(BX p)[j]?=some (jy p.lines 0 j):=λj M=>by rw[Li cO,OO cO]
 rw[J k I]at G;cases G
 have u:∀j:Nat,jy p.lines 0 j<=j:=by
  intro j
  induction j with
  | zero=>
   cases E:p.lines with
   | nil=>unfold jy;omega
   | cons l r=>
    grind[jy]
  | succ j W=>
   have:=(wq p.lines 0 (j:Int) cO B).2.2
   grind
 refine⟨?_,(wq p.lines 0 (k:Int) cO B).1,u k⟩
 cases k with
 | zero=>
  left
  have:=u 0
  have:=(wq p.lines 0 ((0:Nat):Int) cO B).1
  show _=0
  omega
 | succ k=>
  have h3:=(wq p.lines 0 (k:Int) cO B).2.2
  have e:((k+1:Nat):Int)=(k:Int)+1:=cO
  have U:ui (BX p) (k+1)=jy p.lines 0 (k:Int)+1:=by
   unfold ui;grind
  grind
theorem abL(hc:Hl p):vI (KH (BX p) (eH p) (eV p)):=by
 have V:=rq p
 have W:=B8 p
 have Z:=abK hc
 have J:∀l∈p.lines,l≠[]:=λl G=>(hc.f.lines l G).1
 have Y:(BX p).length=(iE p).length:=by grind[BX,iE]
 have uD:(eV p).length=(iE p).length:=by unfold eV;grind
 have G:((BX p).take (eH p).toNat).length=(eH p).toNat:=dI
 have B:∀j:Nat,(j:Int)<eH p->(BX p)[j]?=some (jy p.lines 0 j):=λj U=>by rw[Li cO,OO cO]
 have u:0<(eH p).toNat->gh ((BX p).take (eH p).toNat)=jy p.lines 0 ((eH p).toNat-1:Nat)+1:=λE=>by
  rw[OM E cO,n3,B _ cO];rfl
 refine⟨?_,?_,rfl,?_,λn O=>?_,?_,λk x M=>by cases M⟩
 .show((BX p).take (eH p).toNat).length<=(eV p).length;omega
 .show(eV p).length<=20;omega
 .show((eV p).take (eH p).toNat).length=((BX p).take (eH p).toNat).length;grind
 .obtain⟨i,hi⟩:=List.mem_iff_getElem?.1 (show n∈(BX p).take (eH p).toNat from O)
  have I:=(kB.1 hi).1
  rw[G]at I
  rw[List.getElem?_take,ew I,B i cO]at hi
  cases hi
  show 0<=_/\_<gh ((BX p).take (eH p).toNat)
  rw[u cO]
  have h3:=wq p.lines 0 (i:Int) cO J
  grind
 show gh ((BX p).take (eH p).toNat)<=20
 by_cases E:(eH p).toNat=0
 .rw[E,List.take_zero];decide
 rw[u cO]
 have:=(RT hc (k:=(eH p).toNat-1) cO (B _ cO)).2.2
 omega
theorem agh(u:PZ p)(hc:Hl p){room:Int}(B:1<=room/\room<=16):m4 (gj p room):=by
 refine Jd (m:=yo p room) (abL hc) B u (by have:=u.threads;omega) λt ht=>EM hc (List.mem_append_left _ ht)
end
def hdC(g:Int->Nat)(u B:Nat)(x:bR):Nat:=
 if x.kind=11 then g 12+max (u+(if 0<x.eG then g 11 else 0)) B
 else if x.kind=12 then g 13+x.n.toNat*(u+g 14)
 else if x.kind=13 then g 11 else g (if x.kind=14 then 15 else x.kind)
def tot(g:Int->Nat):Bk->Nat
 | .nil=>0
 | .cons x a b r=>hdC g (tot g a) (tot g b) x+tot g r
def atK(x:bR)(a b r:Bk)(at_:Int):Int:=at_+(zP (.cons x a b r)-zP r)
def W(g:Int->Nat):Bk->Int->Int->List Int->Int->Nat->Nat->Option Nat
 | .nil,at_,_,_,pos,u,_=>if pos=at_ then some u else none
 | .cons x a b r,at_,lp,cs,pos,u,B=>
  if atK x a b r at_<=pos then W g r (atK x a b r at_) lp cs pos u B
  else if pos=at_ then(if x.kind=13 then some (g 11+B)else some (hdC g (tot g a) (tot g b) x+(tot g r+u)))
  else if x.kind=11 then(if pos<toT x a at_ then W g a (at_+1) lp cs pos ((if 0<x.eG then g 11 else 0)+(tot g r+u)) B else W g b (toT x a at_) lp cs pos (tot g r+u) B)
  else if x.kind=12 then(if 1<=cs.getD lp.toNat 0/\cs.getD lp.toNat 0<=8 then W g a (at_+1) (lp+1) cs pos (g 14+((cs.getD lp.toNat 0).toNat-1)*(tot g a+g 14)+(tot g r+u)) (tot g r+u)else none)
  else none
def atL:aS:=⟨0,0,0,[]⟩
theorem B9{x y:aS}:x=y↔x.kind=y.kind/\x.t=y.t/\x.i=y.i/\x.cut=y.cut:=by
 cases x;cases y;simp
def Lj{α:Type}{xs ys:List α}{k:Nat}{x y:α}(h:xs.take k=ys.take k)(B:xs[k]?=some x)(u:ys[k]?=some y)(e:x=y):xs.take (k+1)=ys.take (k+1):=by
 rw[<- gX B,<- gX u,h,e]
def atM{α:Type}{xs ys:List α}{k:Nat}{x y:α}(B:xs[k]?=some x)(u:ys[k]?=some y)(e:x≠y):xs≠ys:=λh=>by
 grind
def C19(av bv:Value)(xs ys:List aS)(w:World)(hA:DL w av xs)(hB:DL w bv ys)(hn:xs.length<=1073741824)(hc:∀x∈xs,x.cut.length<=1000000):CR 19 [av,bv] w (λv w'=>v=.bool (decide (xs=ys))/\Ext w w'):=by
 have u:=St.start w;refine pj Tryz.func19 (pl:=P19) ?_;obtain⟨atO,J,Z⟩:=hA.open;have atQ:=Z.1;refine aK fD (J.ext u.aG) ?_;obtain⟨atS,U,Y⟩:=hB.open;have hn133:=Y.1;refine aK fD (U.ext u.aG) (bQ (aC (λ_=>⟨vb (fV λh=>by rw[h]at atQ;omega).symm,u.aG⟩) λgW=>?_));refine⟨λmm i w'=>∃k:Nat,i=hZ (k:Int)/\mm=xs.length-k/\k<=xs.length/\xs.take k=ys.take k/\St w aX [] w',⟨_,0,rfl,rfl,l0 _,rfl,u⟩,?_⟩;rintro mm _ _ ⟨k,rfl,rfl,hk,I,u⟩ _;refine aK fD (J.ext u.aG) (aR (aC (λjL=>?_) λ_=>⟨vb (ez (by rw[kO cO,kO cO]at I;exact I)).symm,u.aG⟩))
 obtain⟨ra,G⟩:=gx xs (i:=k) cO;obtain⟨rb,E⟩:=gx ys (i:=k) cO;refine⟨λjv w'=>jv=.bool (!decide (ra=rb))/\St w aX [] w',?_,?_⟩
 .obtain⟨me,W⟩:=gx atO (i:=(k:Int).toNat) cO;obtain⟨bP,lR⟩:=gx xs (i:=(k:Int).toNat) cO;obtain⟨Wo,rfl,Wp⟩:=Z.2 _ _ _ W lR;refine aQ fD J cO W (λ_ l8=>bX bP.kind mu l8 rfl rfl λ_ Gg=>have u:=u.drew;aD bL (Gg.ext u.aG) ?_);obtain⟨iS,V⟩:=gx atS (i:=(k:Int).toNat) cO;obtain⟨O,M⟩:=gx ys (i:=(k:Int).toNat) cO;obtain⟨Wq,rfl,Wr⟩:=Y.2 _ _ _ V M;refine aQ fD U cO V (λ_ xI=>bX O.kind mu xI rfl rfl λ_ Gh=>aD bL (Gh.ext u.aG) ?_)
  have Ps:ra=bP:=n5.inj (G.symm.trans lR);have B:rb=O:=n5.inj (E.symm.trans M);have hcx:=hc _ (kE lR);refine bQ (aC (λ_=>⟨vb (by rw[Ps,B];rw[fV λh=>by rw[B9]at h;omega];rfl),u⟩) λlH=>aQ fD J cO W λ_ tc=>bX bP.t lQ tc rfl rfl λ_ xX=>aD bL (xX.ext u.aG) (aQ fD U cO V λ_ Bx=>bX O.t lQ Bx rfl rfl λ_ xS=>aD bL (xS.ext u.aG) (bQ (aC (λ_=>⟨vb (by rw[Ps,B];rw[fV λh=>by rw[B9]at h;omega];rfl),u⟩) λBu=>aQ fD J cO W λ_ vu=>bX bP.i qI vu rfl rfl λ_ FI=>aD bL (FI.ext u.aG) (aQ fD U cO V λ_ FW=>bX O.i qI FW rfl rfl λ_ ZA=>aD bL (ZA.ext u.aG) (bQ (aC (λ_=>⟨vb (by rw[Ps,B];rw[fV λh=>by rw[B9]at h;omega];rfl),u⟩) λvn=>aQ fD J cO W λ_ FX=>bX Wo px FX rfl rfl λ_ BI=>aD ey (BI.ext u.aG) ?_)))))))
  have atT:=DL.flat Wp;refine aQ fD U cO V (λ_ Gi=>bX Wq px Gi rfl rfl λ_ MU=>aD ey (MU.ext u.aG) ?_);have atU:=DL.flat Wr;exact aW ajn u (C71 _ _ bP.cut O.cut _ (atT.ext u.aG) (atU.ext u.aG) cO) (λ_ _ u=>bT ⟨vb (by rw[Ps,B];exact g6 (λb=>!b) (ga.2 (by rw[B9];exact⟨λh=>⟨cO,cO,cO,h⟩,λh=>h.2.2.2⟩))),u⟩)
 rintro _ _ ⟨rfl,u⟩ _;exact bD (λxG=>⟨vb (fV (atM G E (by simpa using xG))).symm,u.aG⟩) (λxG=>aO cO ⟨_,cO,k+1,rfl,rfl,cO,Lj I G E (by simpa using xG),u⟩)
theorem Uz(f:List Int->List Int):∀(l:List (List Int)) (s:List (List Int)×List (List Int)),∀x∈(l.foldl (λs c=>if f c∈s.2 then s else(s.1++[c],s.2++[f c])) s).1,x∈s.1\/x∈l
 | [],s,x,h=>.inl h
 | c::l,s,x,h=>by
  rw[List.foldl_cons]at h
  rcases Uz f l _ x h with h1|h1
  .split at h1
   .exact .inl h1
   .rcases o8.1 h1 with h2|h2
    .exact .inl h2
    .exact .inr (by rw[v7.1 h2];exact oj ..)
  .exact .inr (qo _ h1)
def Ws{m:Mem}{c:List Int}(h:c∈BT m):c∈eF (xi m):=by
 have:=Uz (N0 m) (eF (xi m)) ([],[]) c h
 rcases this with h1|h1
 .cases h1
 exact h1
def RU{m:Mem}(u:vI m){c:List Int}(h:c∈BT m):fy m c=some (pb m c c.length)/\c.length<=20:=by
 have h1:=Ws h
 have h2:=yg h1
 have h3:=EC m
 have h4:=nu u
 have h5:=u.lb
 refine⟨yV cO λk x G E=>?_,cO⟩
 have B:(xi m)[k]?=some (m.fP k).length:=Gz cO
 exact C5 h1 B E
theorem OU{ns:List Int}{many:Int}(B:zo ns):∀{xs:List oZ}{S:List Int},zo S->(∀x∈xs,rK many x=false)->fe (xc ns xs S).1
 | [],S,u,_=>MK u
 | x::r,S,u,h=>by
  unfold xc
  split
  .exact OU B (YC B u (h x (oj ..))) λy E=>h y (qo _ E)
  .exact iN
def agi{xs:List oZ}{ns:List Int}(u:zo ns):fe (runM xs ns).1:=by
 unfold runM
 split
 .rename_i h
  exact OU u (λv B=>by cases B) (zL h).2.2
 exact iN
def zo.set{S:List Int}(h:zo S){i:Nat}{v:Int}(u:fe v):zo (S.set i v):=λe B=>by
 rcases Tu B with h1|rfl
 .exact h e h1
 .exact u
def Ex.val(ns:List ByteArray)(nums:List Int):Ex->Int×Int
 | .leaf x=>(if x.op=2 then nums.getD (dA ns x.name).toNat 0 else x.n,0)
 | .un x a=>if (a.val ns nums).2=0 then(zn x.op (a.val ns nums).1,0)else(0,(a.val ns nums).2)
 | .bin x a b=>if (a.val ns nums).2=0 then(if (b.val ns nums).2=0 then(gM x.op (a.val ns nums).1 (b.val ns nums).1,gQ x.op (b.val ns nums).1)else(0,(b.val ns nums).2))else(0,(a.val ns nums).2)
theorem Ex.GR(ns:List ByteArray)(nums:List Int)(x:cC)(a:Ex):(Ex.un x a).val ns nums=if (a.val ns nums).2=0 then(zn x.op (a.val ns nums).1,0)else(0,(a.val ns nums).2):=rfl
theorem Ex.Ca(ns:List ByteArray)(nums:List Int)(x:cC)(a b:Ex):(Ex.bin x a b).val ns nums=if (a.val ns nums).2=0 then(if (b.val ns nums).2=0 then(gM x.op (a.val ns nums).1 (b.val ns nums).1,gQ x.op (b.val ns nums).1)else(0,(b.val ns nums).2))else(0,(a.val ns nums).2):=rfl
theorem AF{k:Int}(h:0<=kids k):eM k=kids k:=by
 grind[eM,kids]
theorem tL(S:List Int)(v:Int):kx (S++[v])=v:=by
 grind[kx]
theorem GS(S:List Int)(v:Int):(S++[v]).take ((S++[v]).length-1)=S:=by
 simp_all
theorem RV(S:List Int)(v u:Int):(S++[v]++[u]).take ((S++[v]++[u]).length-2)=S:=by
 simp_all
theorem Wt(ns:List ByteArray)(nums:List Int):∀(t:Ex),t.wf->∀(r:List oZ) (S:List Int),xc nums (t.steps ns++r) S=if (t.val ns nums).2=0 then xc nums r (S++[(t.val ns nums).1])else(0,(t.val ns nums).2):=by
 intro t
 induction t with
 | leaf x=>
  intro E r S
  have G:kids x.op=0:=E
  have u:eM x.op=0:=by rw[AF cO,G]
  show(if vV S ⟨x.op,Ex.numOf ns x⟩=0 then xc nums r (lJ nums S ⟨x.op,Ex.numOf ns x⟩)else _)=_
  have h1:vV S ⟨x.op,Ex.numOf ns x⟩=0:=by unfold vV;rw[show eM (⟨x.op,Ex.numOf ns x⟩:oZ).kind=0 from u];rfl
  have h2:lJ nums S ⟨x.op,Ex.numOf ns x⟩=S++[((Ex.leaf x).val ns nums).1]:=by
   unfold lJ;rw[ew (show eM (⟨x.op,Ex.numOf ns x⟩:oZ).kind=0 from u)]
   show S++[if x.op=2 then nums.getD (Ex.numOf ns x).toNat 0 else Ex.numOf ns x]=S++[if x.op=2 then _ else _]
   unfold Ex.numOf
   split<;>simp[*]
  rw[ew h1,h2];rfl
 | un x a U=>
  intro E r S
  have G:kids x.op=1:=E.1
  have u:eM x.op=1:=by rw[AF cO,G]
  show xc nums (a.steps ns++[⟨x.op,Ex.numOf ns x⟩]++r) S=_
  rw[nK,U E.2,Ex.GR]
  by_cases B:(a.val ns nums).2=0
  .rw[ew B,ew B]
   show(if vV _ ⟨x.op,Ex.numOf ns x⟩=0 then xc nums r (lJ nums _ ⟨x.op,Ex.numOf ns x⟩)else _)=_
   have h1:∀J,vV J ⟨x.op,Ex.numOf ns x⟩=0:=λJ=>by unfold vV;rw[show eM (⟨x.op,Ex.numOf ns x⟩:oZ).kind=1 from u];rfl
   rw[ew (h1 _)]
   unfold lJ
   rw[ej (show ¬ eM (⟨x.op,Ex.numOf ns x⟩:oZ).kind=0 by show ¬ eM x.op=0;omega),ew (show eM (⟨x.op,Ex.numOf ns x⟩:oZ).kind=1 from u),tL,GS]
   rfl
  .rw[ej B,ej B,ej B]
 | bin x a b M O=>
  intro E r S
  have G:kids x.op=2:=E.1
  have u:eM x.op=2:=by rw[AF cO,G]
  show xc nums (a.steps ns++b.steps ns++[⟨x.op,Ex.numOf ns x⟩]++r) S=_
  rw[nK,nK,M E.2.1,Ex.Ca]
  by_cases B:(a.val ns nums).2=0
  .rw[ew B,ew B,O E.2.2]
   by_cases hb:(b.val ns nums).2=0
   .rw[ew hb,ew hb]
    show(if vV _ ⟨x.op,Ex.numOf ns x⟩=0 then xc nums r (lJ nums _ ⟨x.op,Ex.numOf ns x⟩)else _)=_
    have h1:vV (S++[(a.val ns nums).1]++[(b.val ns nums).1]) ⟨x.op,Ex.numOf ns x⟩=gQ x.op (b.val ns nums).1:=by
     unfold vV;rw[ew (show eM (⟨x.op,Ex.numOf ns x⟩:oZ).kind=2 from u),tL]
    rw[h1]
    by_cases I:gQ x.op (b.val ns nums).1=0
    .rw[ew I,ew I]
     unfold lJ
     rw[ej (show ¬ eM (⟨x.op,Ex.numOf ns x⟩:oZ).kind=0 by show ¬ eM x.op=0;omega),ej (show ¬ eM (⟨x.op,Ex.numOf ns x⟩:oZ).kind=1 by show ¬ eM x.op=1;omega),tL,GS,tL,RV]
    .rw[ej I,ej I]
   .rw[ej hb,ej hb,ej hb]
  .rw[ej B,ej B,ej B]
theorem Wu{ns:List ByteArray}{nums:List Int}{xs:List cC}(h:lq ns xs=0)(O:ns.length=nums.length):∃t,Cr xs 0 t/\qw ns nums xs=t.val ns nums/\(∀y∈xs,y.op=2->0<=dA ns y.name)/\∀y∈xs,fe y.n:=by
 unfold lq at h
 split at h
 .cases h
 rename_i u
 have u:fK xs=true:=dI
 split at h
 .cases h
 rename_i hv
 have U:=Ai u
 obtain⟨t,ht⟩:=Cr.of (xs:=xs) (i:=0) cO
 obtain⟨h1,h2⟩:=ht.zero U
 have I:lq ns xs=0:=by grind[lq]
 have B:=(ON (ns:=ns) (l:=xs) (many:=(nums.length:Int)) u (by simpa[pK]using hv) cO).1
 refine⟨t,ht,?_,λy J h2=>?_,λy J=>?_⟩
 .unfold qw runM
  rw[ew O,ew I,ew B]
  have M:qZ ns xs=t.steps ns:=by unfold qZ CJ;grind
  have:=Wt ns nums t ht.2.1 [] []
  rw[oO]at this
  rw[M,this]
  split
  .rename_i h0
   show(kx ([]++_),0)=_
   rw[tL,<- h0]
  rename_i h0
  have E:∀t:Ex,¬ (t.val ns nums).2=0->(t.val ns nums).1=0:=by
   intro t
   cases t with
   | leaf x=>intro h;exact absurd rfl h
   | un x a=>rw[Ex.GR];split<;>intro h<;>first|exact absurd rfl h|rfl
   | bin x a b=>
    rw[Ex.Ca];repeat' split
    all_goals intro h
    .show gM _ _ _=0;unfold gM;rw[ej h]
    .rfl
    .rfl
  rw[<- E t h0]
 .grind
 have G:lE y=false:=by
  unfold fK at u
  grind
 unfold lE at G
 unfold fe
 grind
theorem Ex.RW{ns:List ByteArray}{nums:List Int}(u:zo nums):∀t:Ex,(∀y∈t.flat,fe y.n)->fe (t.val ns nums).1
 | .leaf x,h=>by
  unfold Ex.val;dsimp only
  split
  .rw[n3]
   cases hh:nums[(dA ns x.name).toNat]? with
   | none=>exact iN
   | some e=>exact u e (kE hh)
  .exact h x (List.mem_singleton_self x)
 | .un x a,h=>by rw[Ex.GR];split;exact YB;exact iN
 | .bin x a b,h=>by
  rw[Ex.Ca];repeat' split
  .exact YA (Ex.RW u a λy B=>h y (by simp[Ex.flat,B]))
  .exact iN
  .exact iN
abbrev Dq:=bR×Bk×Bk×Bool
def EN:Bool->Bk->List Dq
 | _,.nil=>[]
 | e,.cons x a b r=>(x,a,b,e)::EN false r
def wU:PD->List Dq
 | []=>[]
 | q::p=>EN q.2 q.1++wU p
def GU(p:PD):Prop:=∀q∈p,q.2=true->∃x a,q.1=Bk.cons x a .nil .nil
def uS:List Dq->List Dq
 | []=>[]
 | q::l=>if q.2.2.2=true then l else uS l
section
variable {p:PD}{b:Bk}{x:bR}{a:Bk}{t:kc}{l:List Dq}
theorem vC:wU (jz b false p)=EN false b++wU p:=by cases b<;>rfl
theorem Cb{c:Bk}(h:pM p=some (x,a,c)):∃e,wU p=(x,a,c,e)::wU (gO p):=by
 obtain⟨r,e,u,rfl⟩:=IS h
 exact⟨e,by show _::(EN false r++wU u)=_::wU (jz r false u);rw[vC]⟩
theorem Jf:∀b:Bk,uS (EN false b++l)=uS l
 | .nil=>rfl
 | .cons _ _ _ r=>Jf r
theorem Jg:∀{p:PD},GU p->wU (kL p)=uS (wU p)
 | [],_=>rfl
 | (b,true)::p,h=>by
  obtain⟨x,a,hb⟩:=h _ (oj ..) rfl
  have hb:b=Bk.cons x a .nil .nil:=hb
  subst hb;rfl
 | (b,false)::p,h=>by
  show wU (kL p)=uS (EN false b++wU p)
  rw[Jf,Jg λq u=>h q (qo _ u)]
theorem Wv(h:¬ x.n=0):wU (mX x a p)=EN false a++({x with n:=x.n-1},a,.nil,true)::wU (gO p):=by
 unfold mX;rw[ej h,vC];rfl
theorem Jh:∀(l:List Dq) (k:Nat),(∀j q,j<k->l[j]?=some q->q.2.2.2=false)->(∀q,l[k]?=some q->q.2.2.2=true)->k<=l.length->uS l=l.drop (k+1)
 | [],k,_,_,_=>by simp[uS]
 | q::l,0,_,h,_=>by
  simp_all[Dq,uS]
 | q::l,k+1,h1,h2,h3=>by
  have:=h1 0 q cO rfl
  show(if q.2.2.2=true then l else uS l)=_
  rw[ej dI,Jh l k (λj u E B=>h1 (j+1) u cO B) (λu B=>h2 u B) dI]
  rfl
theorem GU.tail{q:Bk×Bool}(h:GU (q::p)):GU p:=λr u=>h r (qo _ u)
theorem GU.push(h:GU p):GU (jz b false p):=by
 cases b with
 | nil=>exact h
 | cons x a c r=>
  grind[GU,jz]
theorem GU.pop(h:GU p):GU (gO p):=by
 match p,h with
 | [],h=>exact h
 | (.nil,_)::p,h=>exact h.tail
 | (.cons x a b r,_)::p,h=>exact h.tail.push
theorem GU.leave:∀{p:PD},GU p->GU (kL p)
 | [],h=>h
 | (_,e)::p,h=>by
  unfold kL;split
  .exact h.tail
  .exact h.tail.leave
theorem GU.round(h:GU p):GU (mX x a p):=by
 unfold mX;split
 .exact h.pop
 refine GU.push λq u B=>?_
 rcases sl.1 u with rfl|u
 .grind
 exact h.pop q u B
theorem agj:p.length<=(wU p).length\/∃q∈p,q.1=.nil:=by
 induction p with
 | nil=>left;simp
 | cons q p u=>
  rcases u with u|⟨r,B,h⟩
  .cases hb:q.1 with
   | nil=>grind
   | cons x a c r=>left;show p.length+1<=(EN q.2 q.1++wU p).length;rw[hb];simp only[EN,lr,oi];omega
  grind
theorem UA:∀(e:Bool) (b:Bk),(EN e b).length<=mh b
 | _,.nil=>l0 _
 | _,.cons x a b r=>by have:=UA false r;simp only[EN,oi];rw[tB];omega
theorem GV:∀p:PD,(wU p).length<=ik p
 | []=>l0 _
 | q::p=>by have:=GV p;have:=UA q.2 q.1;rw[qA];show(EN q.2 q.1++wU p).length<=_;grind
end
structure Mo(m:Mem):Prop where
 l:zo m.l
 k:zo m.kept
 f:zo m.eg
 p:∀k,∀x∈m.fP k,fe x.n
theorem GW:∀{ws:List kD}{k:List Int},zo k->(∀x∈ws,fe x.n)->zo (og k ws)
 | [],k,u,_=>u
 | w::ws,k,u,h=>by
  show zo (og (k.set w.cell.toNat w.n) ws)
  exact GW (u.set (h w (oj ..))) λx B=>h x (qo _ B)
section
variable {m:Mem}
theorem Mo.write(h:Mo m){c n:Int}(B:fe n):Mo (fw m c n):=by
 unfold fw
 split
 .refine⟨h.l.set B,h.k,h.f,λk x u=>?_⟩
  dsimp only at u
  split at u
  .rcases EL u with h1|h1
   .rcases o8.1 h1 with h2|h2
    .exact h.p _ x h2
    grind
   exact h.p _ x h1
  exact h.p _ x u
 exact h
theorem Mo.out(h:Mo m){n:Int}:Mo (oM m n):=by
 unfold oM
 split
 .refine⟨h.l,GW h.k (h.p _),h.f,λk x u=>?_⟩
  rcases EL u with h1|h1
  .cases h1
  exact h.p _ x h1
 exact h
theorem OV(h:Mo m)(cut:List Int):∀k,zo (pb m cut k)
 | 0=>h.k
 | k+1=>by
  have u:=OV h cut k
  unfold pb at u |-
  rw[List.range_succ,List.foldl_append]
  exact GW u λx B=>h.p _ x (List.mem_of_mem_take B)
theorem Mo.atV(h:Mo m){cut u:List Int}(hi:fy m cut=some u):Mo (mW m u):=by
 have B:zo u:=by
  unfold fy at hi
  split at hi
  .cases hi;exact OV h cut _
  .cases hi
 refine⟨λv G=>?_,B,h.f,λk x E=>by cases E⟩
 rcases o8.1 (show v∈u++m.eg.drop u.length from G)with h1|h1
 .exact B v h1
 exact h.f v (List.mem_of_mem_drop h1)
theorem abO(h:Mo m)(c:Int):fe (jN m c):=by
 unfold jN
 split
 .rw[n3]
  cases hg:m.l[c.toNat]? with
  | none=>exact iN
  | some v=>exact h.l v (kE hg)
 exact iN
end
theorem abP{l:List bJ}{c:Int}(h:∀y∈l,fe y.n):fe ((lL l c).getD 0):=by
 unfold lL
 cases hf:l.reverse.find? (λx=>decide (x.kind=3/\x.cell=c))with
 | none=>exact iN
 | some y=>grind
theorem Ww{l:List bJ}{i:Int}(h:∀y∈l,fe y.n):fe (dL l i).n:=by
 unfold dL
 split
 .cases hg:l[i.toNat]? with
  | none=>exact iN
  | some y=>grind
 exact iN
def Wx{l:List bJ}{i:Int}{y:bJ}(h:y∈j4 l i):y∈l:=by
 unfold j4 at h
 split at h
 .exact List.mem_of_mem_eraseIdx h
 exact h
def abQ{room:Int}{l:List bJ}{x y:bJ}(h:y∈tu room l x):y∈l\/y=x:=by
 unfold tu at h
 grind
structure Ct(t:kc):Prop where
 r:zo t.dY
 b:∀y∈t.buf,fe y.n
def agk{ns:List ByteArray}{nums:List Int}{xs:List cC}(h:zo nums):fe (qw ns nums xs).1:=by
 unfold qw
 repeat' split
 .exact agi h
 .exact iN
 exact iN
def Lk{t:kc}{xs:List cC}(h:zo t.dY):fe (eR t xs).1:=by
 unfold eR;split
 .exact iN
 exact agk h
def Ct.goS{t:kc}(h:Ct t):Ct (rk t).1:=by
 unfold rk
 split
 .exact h
 split
 .unfold rj
  repeat' split
  all_goals first|exact⟨h.r.set (Lk h.r),h.b⟩|exact⟨h.r,h.b⟩
 exact⟨h.r,h.b⟩
theorem Ct.goF:∀(n:Nat) {t tR:kc},Ct t->tX n t=some tR->Ct tR
 | 0,_,_,_,u=>by cases u
 | n+1,t,tR,h,u=>by
  unfold tX at u
  split at u
  .exact Ct.goF n h.goS u
  .cases u;exact h.goS
theorem Ct.go{t:kc}(h:Ct t):Ct (goD t):=by
 unfold goD
 cases hg:tX (ik t.cJ+1) t with
 | none=>exact h
 | some tR=>exact Ct.goF _ h hg
def Ct.th(t:cR):Ct (VX t):=Ct.go ⟨λv B=>by rw[(List.mem_replicate.1 B).2];exact iN,λy u=>by cases u⟩
structure Ll(m:gl):Prop where
 th:∀t∈m.l,Ct t
 mem:Mo m.mem
section
variable {m:gl}{t:kc}
theorem abR{i:Int}{x:bR}(h:Mo m.mem)(h2:Ct t):Ct (eo m t i x).2.1/\Mo (eo m t i x).1.mem:=by
 have E:=λc=>abO h c
 have I:∀c,fe (iB m t c):=λc=>by
  unfold iB
  split
  .exact abP h2.b
  grind
 have u:∀y:bJ,fe y.n->Ct (qB m t y):=λy M=>⟨h2.r,λz G=>by
  rcases abQ G with h3|h3
  .exact h2.b z h3
  grind⟩
 have hc:Mo (sg m t x).mem:=by
  unfold sg;split
  .exact h.write (Lk h2.r)
  .exact h
 have B:∀n,fe n->Ct (pN t x.eN n):=λn J=>⟨h2.r.set J,h2.b⟩
 unfold eo
 repeat' split
 all_goals first
  | exact⟨B _ (I _),h⟩
  | exact⟨u _ (Lk h2.r),h⟩
  | exact⟨u _ iN,h⟩
  | exact⟨h2,h⟩
  | exact⟨B _ (E _),hc⟩
theorem Ll.step{i:Int}(h:Ll m):Ll (iI m i).1:=by
 unfold iI
 split
 .exact h
 rename_i t ht
 have B:=h.th t (kE ht)
 split
 .exact⟨h.th,h.mem⟩
 split
 .exact h
 rename_i x _ _ _
 split
 .exact⟨h.th,h.mem⟩
 obtain⟨h1,h2⟩:=abR (i:=i) (x:=x) h.mem B
 refine⟨λt' u=>?_,h2⟩
 rcases vA u with rfl|h3
 .exact Ct.go ⟨h1.r,h1.b⟩
 exact h.th t' h3
theorem Ll.out{q:aS}(h:Ll m)(ht:m.l[q.t.toNat]?=some t):Ll (tY m t q):=by
 have h2:=h.th t (kE ht)
 refine⟨λt' u=>?_,?_⟩
 .rcases vA u with rfl|h3
  .exact⟨h2.r,λy B=>h2.b y (Wx B)⟩
  exact h.th t' h3
 show Mo (j5 m.mem (dL t.buf q.i))
 unfold j5
 split
 .exact h.mem.write (Ww h2.b)
 split
 .exact h.mem
 exact h.mem.out
theorem Ll.begin{l:List cR}(h:Mo m.mem):Ll (rD m l):=⟨λt ht=>by
 obtain⟨u,_,rfl⟩:=ob.1 (show t∈l.map VX from ht);exact Ct.th u,h⟩
theorem Ll.do{q:aS}(h:Ll m):Ll (nf m q).1:=by
 unfold nf
 cases hi:ja m q with
 | some u=>
  have B:fy m.mem q.cut=some u:=by unfold ja at hi;grind
  exact Ll.begin (m:=pP m u) (h.mem.atV B)
 | none=>
  dsimp only
  split
  .split
   .split
    .rename_i t ht;exact h.out ht
    .exact h
   .exact h.step
  .exact h
end
def OW(Oa:Option Addr)(u G:Nat)(Z:Option Addr)(I M:Nat)(U:Option Addr)(O E:Nat)(V:Option Addr)(Y Of:Nat)(Og:Option Addr)(Oh Oi:Nat)(Oj:Option Addr)(J B:Nat)(a1:Int)(W:Option Addr):pr hH (mv 44 [(0,.agg [.slice Oa u G,.slice Z I M,.slice U O E,.slice V Y Of,.slice Og Oh Oi,.slice Oj J B].toArray),(1,hZ a1),(3,.pointer W)].toArray)=some (.agg [.slice Oa u G,.slice Z I M,.slice U O E,.slice V Y Of,.slice Og Oh Oi,.slice Oj J B,hZ a1,hZ 0,.pointer W,.slice none 0 0,.slice none 0 0,hZ 0,hZ 0].toArray):=by kernel_rfl
def GX(G:Int)(E:Int)(B:Int)(u:Bool):pr hH (mv 114 [(0,hZ G),(1,hZ E),(2,hZ B),(3,.bool u)].toArray)=some (.agg [hZ G,hZ E,hZ B,.bool u,.bool false].toArray):=by kernel_rfl
def yv(U:Option Addr)(B O:Nat)(E:Option Addr)(M J:Nat)(I:Option Addr)(G V:Nat)(u:Option Addr):pr hH (mv 132 [(0,.slice U B O),(1,.slice E M J),(2,.slice I G V),(3,.pointer u)].toArray)=some (.agg [.slice U B O,.slice E M J,.slice I G V,.pointer u,hZ 0].toArray):=by kernel_rfl
def Lm(Oa:Int)(O:ByteArray)(I:ByteArray)(J:Option Addr)(M Of:Nat)(W:Option Addr)(Oh Oi:Nat)(V:Int)(u:Int)(E:Int)(B:Int)(Y:Option Addr)(U c1:Nat)(Z:Option Addr)(G c2:Nat):pr hH (mv 218 [(0,.agg [hZ Oa,.string O,.string I,.slice J M Of,.slice W Oh Oi,hZ V,hZ u,hZ E,hZ B].toArray),(1,.slice Y U c1),(2,.slice Z G c2)].toArray)=some (.agg [hZ Oa,.string O,.string I,.slice J M Of,.slice W Oh Oi,hZ V,hZ u,hZ E,hZ B,.slice Y U c1,.slice Z G c2,.bool false].toArray):=by kernel_rfl
structure qc where
 x:bF
 body:SV
 eG:SV
 in_:Bool
instance:Flat qc where
 agg:=true
 sz:=12
 enc e:=[hZ e.x.kind,.string e.x.eN,.string e.x.name,.slice e.x.e.a e.x.e.n e.x.e.cap,.slice e.x.f.a e.x.f.n e.x.f.cap,hZ e.x.n,hZ e.x.body,hZ e.x.eG,hZ e.x.at_,.slice e.body.a e.body.n e.body.cap,.slice e.eG.a e.eG.n e.eG.cap,.bool e.in_]
 val e:=.agg [hZ e.x.kind,.string e.x.eN,.string e.x.name,.slice e.x.e.a e.x.e.n e.x.e.cap,.slice e.x.f.a e.x.f.n e.x.f.cap,hZ e.x.n,hZ e.x.body,hZ e.x.eG,hZ e.x.at_,.slice e.body.a e.body.n e.body.cap,.slice e.eG.a e.eG.n e.eG.cap,.bool e.in_].toArray
 pos:=ee
 len _:=rfl
 one a v h:=by simp at h;rcases h with rfl|rfl|rfl|rfl|rfl|rfl|rfl|rfl|rfl|rfl|rfl|rfl<;>rfl
 oE _ _:=rfl
 oF h:=by cases h
variable (w:World) (K:Value->hM)
def S128(E:Value):Prop:=
 bS 130 0 [] w λa b=>nP (λG I B c=>∀_:Env,
 lN 141 E λd=>bA .lss 3 B d λe=>cV e (iA 141 E B λf=>lA 193 f c λg=>aL 193 c λh j=>sA 193 h g j λk=>bB .add 3 B (i 1) λl=>fA 193 h 6 λn=>lA 3 n k λo=>
 bA .add 3 l o λp=>fA 193 h 7 λq=>lA 3 q k λr=>bA .add 3 p r λs=>lA 193 h (drew k) λt=>bB .add 3 B (i 1) λu=>eX hH (n0 141 E (some u) (some p) none) λv=>
 eX hH (n0 141 E (some p) (some s) none) λx=>eX hH (mv 218 [(0,t),(1,v),(2,x)].toArray) λy=>bS 130 1 [(0,y)] (drew k) λz O=>
 aP 130 I z O λJ M=>G J s M) (K I c)) (λG=>G a (i 0) b)
def aAV:dM:=λi=>match i with
 | 6=>.run 0 15
 | _=>.nil
theorem agl(u:Value)(h:S128 w K u):CR 128 [u] w K:=
 qj 42 aAV 4 [.tmp 2] Tryz.func128 h
def S13(p0 O:Value):Prop:=
 ry hH (Ae 27 p0) w λp2 a=>lA 27 p2 a λb=>cF 57 [b] a λc d=>xT c 0 λe=>xT c 1 λ_=>bB .neq 31 e (i 0) λf=>cV f (K (.tuple #[(.pointer none),e]) d) (
 cF 58 [O] d λg h=>xT g 0 λ_=>xT g 1 λj=>bB .neq 31 j (i 0) λk=>cV k (K (.tuple #[(.pointer none),j]) h) (bS 41 0 [] h λl n=>nP (λG E B o=>∀_:Env,
 lA 27 p2 o λp=>cF 59 [p] o λq r=>lN 23 q λs=>bA .lss 3 B s λt=>cV t (lA 27 p2 r λu=>cF 60 [u,B] r λv x=>bS 41 1 [(0,v)] x λy z=>aP 41 E y z λaa ab=>
 bB .add 3 B (i 1) λac=>G aa ac ab) (lA 27 p2 (drew r) λad=>lA 27 p2 (drew r) λV=>cF 62 [ad] (drew r) λaf J=>kA 27 p2 V J (cF 63 [V] J λah Y=>cF 61 [E,af,ah] Y λU W=>
 xT U 0 λal=>xT U 1 λ_=>lA 27 p2 W λam=>eX hH (mv 44 [(0,am),(1,O),(3,al)].toArray) λZ=>ry hH (Ae 44 Z) W λI M=>
 fA 27 p2 3 λaq=>lA 24 aq M λar=>cF 64 [I,ar] M λ_ asx=>K (.tuple #[I,(i 0)]) asx))) λG=>G l (i 0) n))
def P13:dM:=λi=>match i with
 | 12=>(.of [(0,[]),(1,[]),(3,[]),(2,[3]),(4,[]),(5,[]),(6,[]),(7,[]),(8,[]),(9,[]),(10,[])])
 | _=>.nil
theorem amv(p0 u:Value)(h:S13 w K p0 u):CR 13 [p0,u] w K:=
 qj 64 P13 48 [.tmp 4,.tmp 5] Tryz.func13 h
def aAW:dM:=λi=>match i with
 | 3=>.run 0 15
 | _=>.nil
def S129(B:Value):Prop:=
 Su (λI a=>∀_:Env,
 nC B λb=>fA 132 b 0 λc=>lA 130 c a λd=>lN 130 d λe=>bB .gtr 3 e (i 0) λf=>cV f (nC B λg=>fA 132 g 0 λh=>lA 130 h a λj=>iA 130 j (i 0) λk=>lA 218 k a λl=>
 aL 218 a λG n=>sA 218 G l n λo=>fA 218 G 0 λp=>fA 193 p 3 λq=>lA 82 q o λr=>cF 203 [B,r] o λs t=>xT s 0 λu=>xT s 1 λv=>fA 218 G 0 λx=>fA 193 x 4 λy=>
 lA 82 y t λz=>cF 203 [B,z] t λaa Y=>xT aa 0 λ_=>xT aa 1 λac=>eQ (λK2=>eX hH (Op.unary .not v) λad=>cV ad (K2 tt Y) (eX hH (Op.unary .not ac) λae=>
 K2 ae Y)) (λaf E=>∀_:Env,
 cV af (nC B λah=>fA 132 ah 4 λai=>sA 3 ai (i 2) E λaj=>K (.tuple #[]) aj) (fA 218 G 0 λak=>fA 193 ak 0 λal=>lA 3 al E λJ=>bB .eql 3 J (i 1) λan=>
 cV an (fA 218 G 0 λao=>fA 193 ao 1 λap=>lA 9 ap E λaq=>cF 204 [B,aq,u] E λ_ ar=>cF 171 [B,(.slice none 0 0)] ar λ_ asx=>I asx) (bB .eql 3 J (i 11) λau=>
 cV au (bB .neq 3 u (i 0) λav=>cV av (fA 218 G 1 λaw=>lA 141 aw E λax=>cF 128 [ax] E λay az=>cF 171 [B,ay] az λ_ a0=>I a0) (fA 218 G 2 λa1=>lA 141 a1 E λa2=>
 cF 128 [a2] E λa3 a4=>cF 171 [B,a3] a4 λ_ a5=>I a5)) (bB .eql 3 J (i 12) λa6=>cV a6 (bS 130 0 [] E λa7 O=>eQ (λK3=>fA 218 G 0 λa9=>fA 193 a9 5 λba=>
 lA 3 ba O λbb=>bB .gtr 3 bb (i 0) λbc=>cV bc (lA 218 G O λbd=>aL 218 O λV be=>sA 218 V bd be λbf=>fA 218 G 0 λbg=>fA 193 bg 5 λbh=>lA 3 bh bf λbi=>
 bB .sub 3 bi (i 1) λbj=>fA 218 V 0 λbk=>fA 193 bk 5 λbl=>sA 3 bl bj bf λbm=>fA 218 V 3 λbn=>sA 4 bn tt bm λZ=>fA 218 G 1 λbp=>lA 141 bp Z λbq=>
 cF 128 [bq] Z λbr bs=>aP 130 a7 br bs λbt bu=>lA 218 V bu λbv=>bS 130 1 [(0,bv)] bu λbw bx=>aP 130 bt bw bx λbz b0=>K3 bz b0) (K3 a7 O)) (λl7 b1=>∀_:Env,
 cF 171 [B,l7] b1 λ_ b2=>I b2)) (bB .eql 3 J (i 13) λb3=>cV b3 (kP (λW U b4=>∀_:Env,
 eQ (λK5=>nC B λb5=>fA 132 b5 0 λb6=>lA 130 b6 b4 λb7=>lN 130 b7 λb8=>bA .lss 3 U b8 λb9=>cV b9 (nC B λca=>fA 132 ca 0 λcb=>lA 130 cb b4 λcc=>
 iA 130 cc U λcd=>fA 218 cd 3 λce=>lA 4 ce b4 λcf=>eX hH (Op.unary .not cf) λcg=>K5 cg b4) (K5 ff b4)) (λch M=>∀_:Env,
 cV ch (bB .add 3 U (i 1) λcj=>W cj M) (nC B λck=>fA 132 ck 0 λcl=>lA 130 cl (drew M) λcm=>bB .add 3 U (i 1) λcn=>nC B λco=>fA 132 co 0 λcp=>lA 130 cp (drew M) λcq=>
 lN 130 cq λcr=>eX hH (Builtin.min_ #[3,3] 3 [cn,cr].toArray) λcs=>eX hH (n0 130 cm (some cs) none none) λct=>nC B λcu=>fA 132 cu 0 λcv=>
 sA 130 cv ct (drew M) λcw=>I cw))) λW=>W (i 0) E) (bB .eql 3 J (i 14) λcx=>cV cx (bB .eql 3 u (i 0) λcy=>cV cy (nC B λcz=>fA 132 cz 4 λc0=>sA 3 c0 (i 1) E λc1=>
 K (.tuple #[]) c1) (cF 171 [B,(.slice none 0 0)] E λ_ c2=>I c2)) (K (.tuple #[]) E)))))))) (K (.tuple #[]) a)) (λI=>I w)
def aAX:dM:=λi=>match i with
 | 27=>.run 0 17
 | _=>.nil
theorem agm(u:Value)(h:S129 w K u):CR 129 [u] w K:=
 qj 148 aAX 0 [] Tryz.func129 h
def P80:dM:=λi=>match i with
 | 7=>.run 0 14
 | 8=>(.of [(0,[]),(1,[]),(2,[]),(3,[]),(4,[]),(5,[]),(6,[]),(7,[]),(8,[]),(9,[]),(10,[]),(11,[]),(12,[]),(13,[]),(14,[]),(15,[]),(16,[]),(17,[]),(18,[]),(19,[]),(20,[]),(21,[]),(23,[]),(24,[]),(22,[17,24]),(25,[17]),(26,[]),(27,[]),(28,[]),(29,[]),(30,[]),(31,[])])
 | _=>.nil
def S169(Y I a E:Value):Prop:=
 ry hH (Ae 193 a) w λb c=>aL 56 c λd e=>fA 193 b 3 λf=>lA 82 f e λg=>cF 203 [I,g] e λh j=>xT h 0 λk=>xT h 1 λ_=>fA 193 b 4 λl=>lA 82 l j λn=>
 cF 203 [I,n] j λo p=>xT o 0 λq=>xT o 1 λ_=>nC I λs=>fA 132 s 3 λt=>lA 103 t p λu=>cF 229 [u,E] p λv x=>xT v 0 λy=>xT v 1 λz=>eQ (λO=>
 eX hH (Op.unary .not z) λaa=>cV aa (nC Y λab=>fA 44 ab 3 λac=>lA 40 ac x λad=>nC ad λae=>fA 122 ae 2 λaf=>lA 41 af x λag=>iA 41 ag E λah=>
 lA 3 ah x λai=>O ai x) (O y x)) (λB W=>∀_:Env,
 fA 193 b 1 λak=>lA 9 ak W λal=>cF 204 [I,al,B] W λ_ G=>fA 193 b 0 λan=>lA 3 an G λao=>bB .eql 3 ao (i 2) λap=>cV ap (cV z (eX hH (mv 56 [(0,(i 2)),(2,E),(3,B)].toArray) λaq=>
 sA 56 d aq G λU=>lA 56 d U λr=>K r U) (eX hH (mv 56 [(0,(i 1)),(2,E),(3,B)].toArray) λasx=>sA 56 d asx G λZ=>lA 56 d Z λHt=>K Ht Z)) (
 bA .neq 3 B k λav=>cV av (eX hH (mv 56 [(0,(i 9)),(2,E),(3,B)].toArray) λaw=>sA 56 d aw G λV=>lA 56 d V λLX=>K LX V) (nC Y λay=>
 fA 44 ay 3 λaz=>lA 40 az G λa0=>cF 166 [a0,E,q] G λ_ a1=>eX hH (mv 56 [(0,(i 8)),(2,E),(3,B),(4,q)].toArray) λa2=>sA 56 d a2 a1 λM=>
 lA 56 d M λJ=>K J M)))
theorem agn(G B u E:Value)(h:S169 w K G B u E):CR 169 [G,B,u,E] w K:=
 qj 82 (λ_=>.nil) 256 [.cell 8 56] Tryz.func169 h
def S96(E J:Value):Prop:=
 aL 56 w λa b=>nC E λc=>fA 44 c 5 λd=>lA 42 d b λe=>iA 42 e J λf=>lA 129 f b λg=>nC g λh=>fA 132 h 4 λj=>lA 3 j b λk=>bB .neq 3 k (i 0) λl=>
 cV l (nC g λn=>fA 132 n 4 λo=>lA 3 o b λp=>cF 168 [E,J,p] b λq s=>sA 56 a q s λt=>lA 56 a t λr=>K r t) (nC g λu=>fA 132 u 0 λv=>lA 130 v b λx=>
 iA 130 x (i 0) λy=>fA 218 y 0 λz=>lA 193 z b λaa=>eX hH (mv 56 [].toArray) λab=>aL 193 b λI ad=>aL 56 ad λG ae=>sA 193 I aa ae λaf=>
 sA 56 G ab af λU=>nC E λah=>fA 44 ah 0 λai=>lA 27 ai (drew U) λaj=>fA 193 I 2 λak=>lA 9 ak (drew U) λal=>nC E λam=>fA 44 am 0 λan=>lA 27 an (drew U) λZ=>
 fA 193 I 2 λY=>lA 9 Y (drew U) λW=>cF 124 [aj] (drew U) λar asx=>kA 9 ak al asx (kA 27 an Z asx (kA 9 Y W asx (cF 123 [ar,al] asx λau av=>kA 27 an Z av (kA 9 Y W av (
 cF 125 [Z] av λaw ax=>kA 9 Y W ax (cF 123 [aw,W] ax λO az=>xl (λM=>fA 193 I 0 λa0=>lA 3 a0 az λV=>eQ (λK2=>bB .eql 3 V (i 2) λa2=>cV a2 (
 K2 a2 az) (bB .eql 3 V (i 4) λa3=>K2 a3 az)) (λa4 B=>∀_:Env,
 cV a4 (lA 193 I B λa6=>cF 169 [E,g,a6,au] B λa7 a8=>sA 56 G a7 a8 λa9=>M a9) (bB .eql 3 V (i 8) λba=>cV ba (fA 56 G 0 λbb=>sA 3 bb (i 7) B λbc=>
 M bc) (bB .eql 3 V (i 9) λbd=>cV bd (nC E λbe=>fA 44 be 4 λbf=>lA 41 bf B λbg=>iA 41 bg O λbh=>sA 3 bh J B λbi=>eX hH (mv 56 [(0,(i 10)),(2,O)].toArray) λbj=>
 sA 56 G bj bi λbk=>M bk) (bB .eql 3 V (i 10) λbl=>cV bl (nC E λbm=>fA 44 bm 4 λbn=>lA 41 bn B λbo=>iA 41 bo O λbp=>lA 3 bp B λbq=>bA .neq 3 bq J λbr=>
 cV br (cF 168 [E,J,(i 3)] B λbs bt=>sA 56 a bs bt λbu=>lA 56 a bu λHt=>K Ht bu) (nC E λbv=>fA 44 bv 4 λbw=>lA 41 bw B λbx=>iA 41 bx O λbz=>sA 3 bz (i (-1)) B λb0=>
 eX hH (mv 56 [(0,(i 11)),(2,O)].toArray) λb1=>sA 56 G b1 b0 λb2=>M b2)) (lA 193 I (drew B) λb3=>nC E λb4=>fA 44 b4 0 λb5=>lA 27 b5 (drew B) λb6=>
 cF 60 [b6,au] (drew B) λb7 b8=>kA 193 I b3 b8 (cF 170 [E,g,b3,au,b7] b8 λb9 ca=>sA 56 G b9 ca λcb=>M cb))))))) (λcc=>∀_:Env,
 fA 56 G 1 λcd=>sA 3 cd J cc λce=>cF 171 [g,(.slice none 0 0)] ce λ_ cf=>cF 129 [g] cf λ_ cg=>lA 56 G cg λch=>sA 56 a ch cg λci=>lA 56 a ci λLX=>K LX ci))))))))
def P96:dM:=λi=>match i with
 | 5=>(.of [(0,[]),(1,[]),(2,[]),(3,[]),(5,[]),(6,[]),(8,[]),(9,[]),(10,[]),(11,[]),(13,[]),(14,[]),(4,[6,11,14]),(7,[11,14]),(12,[14]),(15,[]),(16,[]),(17,[])])
 | 7=>(.of [(0,[]),(1,[]),(2,[]),(3,[]),(4,[]),(5,[]),(6,[]),(7,[]),(8,[]),(9,[2]),(10,[]),(11,[])])
 | _=>.nil
theorem amw(u B:Value)(h:S96 w K u B):CR 96 [u,B] w K:=
 qj 117 P96 16 [.cell 4 56] Tryz.func96 h
def P95:dM:=λi=>match i with
 | 3=>.run 0 9
 | 7=>.run 0 7
 | _=>.nil
def P25:dM:=λi=>match i with
 | 2=>.run 0 12
 | 5=>.run 0 7
 | 15=>.run 0 34
 | _=>.nil
def P74:dM:=λi=>match i with
 | 1=>(.of [(0,[]),(1,[]),(2,[]),(3,[]),(4,[]),(5,[]),(6,[]),(7,[]),(8,[]),(9,[]),(10,[]),(11,[]),(12,[]),(13,[]),(14,[]),(15,[]),(16,[]),(17,[]),(18,[3,7,11,15]),(19,[])])
 | _=>.nil
def S75(E:Value):Prop:=
 bS 117 0 [] w λa b=>nC E λc=>fA 44 c 0 λd=>lA 27 d b λe=>cF 62 [e] b λf g=>nP (λG I J h=>∀_:Env,
 nC E λj=>fA 44 j 0 λk=>fA 27 k 5 λl=>lA 25 l h λn=>lN 25 n λo=>bA .lss 3 J o λp=>cV p (eQ (λK2=>nC E λq=>fA 44 q 0 λr=>fA 27 r 5 λs=>
 lA 25 s (drew h) λt=>iA 25 t J λu=>fA 85 u 0 λv=>lA 82 v (drew h) λx=>nC E λy=>fA 44 y 0 λz=>lA 27 z (drew h) λaa=>nC E λab=>fA 44 ab 3 λO=>
 lA 40 O (drew h) λW=>nC W λae=>fA 122 ae 2 λV=>lA 41 V (drew h) λM=>eX hH (n0 41 M none (some f) none) λah=>cF 124 [aa] (drew h) λY B=>
 kA 25 s t B (kA 82 v x B (kA 40 O W B (kA 41 V M B (eX hH (n0 91 Y none (some f) none) λak=>cF 146 [x,ak,ah] B λal U=>xT al 0 λZ=>xT al 1 λao=>
 bB .eql 31 ao (i 0) λap=>cV ap (bB .neq 3 Z (i 0) λaq=>bS 117 1 [(0,aq)] U λar asx=>aP 117 I ar asx λau av=>K2 au av) (bS 117 1 [(0,ff)] U λaw ax=>aP 117 I aw ax λay az=>
 K2 ay az)))))) (λFR a0=>∀_:Env,
 bB .add 3 J (i 1) λa1=>G FR a1 a0)) (K I h)) (λG=>G a (i 0) g)
def P75:dM:=λi=>match i with
 | 5=>(.of [(0,[]),(1,[]),(2,[]),(3,[]),(4,[]),(5,[]),(6,[]),(7,[]),(8,[]),(9,[]),(10,[]),(11,[]),(12,[]),(14,[]),(16,[]),(17,[]),(18,[]),(19,[]),(20,[]),(21,[]),(22,[]),(23,[]),(24,[]),(13,[4,8,19,22]),(15,[]),(25,[]),(26,[]),(27,[]),(28,[]),(29,[]),(30,[])])
 | _=>.nil
theorem amx(u:Value)(h:S75 w K u):CR 75 [u] w K:=
 qj 63 P75 4 [.tmp 2] Tryz.func75 h
def S64(B M:Value):Prop:=
 nC B λa=>fA 44 a 5 λb=>sA 42 b (.slice none 0 0) w λc=>nC B λd=>fA 44 d 4 λe=>sA 41 e (.slice none 0 0) c λf=>kP (λY i4 g=>∀_:Env,
 nC B λh=>fA 44 h 0 λj=>fA 27 j 2 λk=>lA 23 k g λl=>lN 23 l λn=>bA .lss 3 i4 n λo=>cV o (nC B λp=>fA 44 p 4 λq=>lA 41 q g λr=>bS 41 1 [(0,(i (-1)))] g λs t=>
 aP 41 r s t λu v=>nC B λx=>fA 44 x 4 λy=>sA 41 y u v λz=>bB .add 3 i4 (i 1) λaa=>Y aa z) (kP (λK2 I V=>∀_:Env,
 lN 24 M λac=>bA .lss 3 I ac λad=>cV ad (xl (λK3=>nC B λae=>fA 44 ae 1 λaf=>lA 3 af V λag=>cF 58 [ag] V λah J=>xT ah 0 λaj=>xT ah 1 λ_=>
 eQ (λK4=>iA 24 M I λak=>fA 146 ak 2 λal=>lA 141 al (drew J) λO=>iA 24 M I λan=>fA 146 an 1 λG=>lA 91 G (drew J) λE=>iA 24 M I λaq=>fA 146 aq 1 λZ=>
 lA 91 Z (drew J) λasx=>lN 91 asx λU=>((cF 128 [O] (drew J) λav aw=>kA 91 G E aw (kA 91 Z asx aw (ry hH (OS 41 U U) aw λax ay=>kA 141 al O ay (
 kA 91 G E ay (eX hH (mv 132 [(0,av),(1,E),(2,ax),(3,aj)].toArray) λaz=>ry hH (Ae 132 az) ay λa0 a1=>K4 a0 a1)))))
 /\((ry hH (OS 41 U U) (drew J) λa2 W=>kA 141 al O W (kA 91 G E W (cF 128 [O] W λa4 a5=>kA 91 G E a5 (kA 91 Z asx a5 (eX hH (mv 132 [(0,a4),(1,E),(2,a2),(3,aj)].toArray) λa6=>
 ry hH (Ae 132 a6) a5 λa7 a8=>K4 a7 a8)))))
 /\
 True))) (λt8 a9=>∀_:Env,
 cF 129 [t8] a9 λ_ ba=>nC B λbb=>fA 44 bb 5 λbc=>lA 42 bc ba λbd=>bS 42 1 [(0,t8)] ba λbe bf=>aP 42 bd be bf λbg bh=>nC B λbi=>fA 44 bi 5 λbj=>sA 42 bj bg bh λbk=>
 K3 bk)) (λbl=>∀_:Env,
 bB .add 3 I (i 1) λbm=>K2 bm bl)) (K (.tuple #[]) V)) λK2=>K2 (i 0) g)) (λY=>Y (i 0) f)
def P64:dM:=λi=>match i with
 | 10=>(.op 0 [] (.op 1 [] (.op 2 [] (.op 3 [] (.op 4 [] (.op 6 [] (.op 7 [] (.op 8 [] (.op 9 [] (.op 10 [] (.op 11 [] (.op 12 [] (.op 13 [] (.op 14 [] (.op 15 [] (.op 16 [] (.op 18 [] (.alt 5 [10,15] (.of [(17,[4,10]),(19,[]),(20,[]),(21,[])]) (.alt 17 [4,10] (.of [(5,[10,15]),(19,[]),(20,[]),(21,[])]) .stop)))))))))))))))))))
 | _=>.nil
theorem amy(B u:Value)(h:S64 w K B u):CR 64 [B,u] w K:=
 qj 81 P64 0 [] Tryz.func64 h
theorem OX:PL 128:=dR Tryz.func128
theorem amz:PL 13:=dR Tryz.func13
theorem OY:PL 203:=dR Tryz.func203
theorem aiO:PL 204:=dR Tryz.func204
theorem Ji:PL 171:=dR Tryz.func171
theorem aiP:PL 129:=dR Tryz.func129
theorem aAY:PL 80:=dR Tryz.func80
theorem amA:PL 22:=dR Tryz.func22
theorem aAZ:PL 18:=dR Tryz.func18
theorem aiQ:PL 168:=dR Tryz.func168
theorem at2:PL 170:=dR Tryz.func170
theorem at3:PL 169:=dR Tryz.func169
theorem aA0:PL 96:=dR Tryz.func96
theorem aA1:PL 95:=dR Tryz.func95
theorem amB:PL 25:=dR Tryz.func25
theorem aA2:PL 74:=dR Tryz.func74
theorem aA3:PL 75:=dR Tryz.func75
theorem at4:PL 64:=dR Tryz.func64
end Go.Proofs.YtpdlpabnlkofmaaGreatDoor
namespace Go.Proofs.YtpdlpabnlkofmaaGreatDoor
open Go.Fw
def GY{α:Type}[Flat α]{P:Program}{S:Nat->Prop}{Wd:hM}{w0:World}{xs:List α}{T E O:Nat}{z:Option Nat}{v:Value}{i:Int}{x:α}{K:Value->Prop}(ht:eY P T=some (E,mA α,O,z))(h:∀w,Wd w->dD S w v xs)(U:Wd w0)(Z:0<=i)(u:xs[i.toNat]?=some x)
  (k:∀p,(∀w,Wd w->At S w p x)->K p):eX P (Gt T v (hZ i)) K:=by
 obtain⟨a,cap,rfl,A1,h3⟩:=h w0 U
 have ot:i.toNat<xs.length:=(kB.1 u).1
 rcases h3 with⟨rfl,_⟩|⟨b,o,rfl,h4,_⟩
 .simp at u
 obtain⟨Y,M,hi,W,_⟩:=fz ht
 refine⟨.pointer (some ⟨b,o+i.toNat*mA α,none⟩),?_,k _ λw' G=>⟨b,_,rfl,h4 dI,λj c J=>?_⟩⟩
 .unfold Gt
  rw[cZ]
  show pr P _=_
  simp only[asIntOf]
  have V:pr P (underlying T)=some (.slice E):=cY Y
  have I:pr P (sizeOf E)=some (mA α):=by rw[ni hi,W]
  simp only[cZ,V,I,mU,fY]
  have tS:0<=i/\i<(xs.length:Int):=⟨Z,cO⟩
  simp only[ew tS,cZ,I,mU,fY,gT]
 obtain⟨a',D0,B,_,h6⟩:=h w' G
 cases B
 rcases h6 with⟨rfl,_⟩|⟨b',o',B,_,h5⟩
 .simp at u
 cases B
 have:=h5 (i.toNat*mA α+j) c (sF u J)
 grind
def qh(ws:List nq)(m:Mem):Prop:=(∀n,m.fP n=(ws.filter λx=>decide (x.line=n)).map λx=>⟨x.cell,x.n⟩)/\∀x∈ws,0<=x.cell/\m.of[x.cell.toNat]?=some x.line
def gI(p:Nat)(m:Mem):HP:=qm λq:Value×Value×Value×Value×Value=>qm λws:List nq=>fact (qh ws m) (sep (bW p [q.1,q.2.1,q.2.2.1,q.2.2.2.1,q.2.2.2.2]) (sep (bE q.1 m.of) (sep (bE q.2.1 m.eg) (sep (bE q.2.2.1 m.l) (sep (bE q.2.2.2.1 m.kept) (bE q.2.2.2.2 ws))))))
structure yw(w:World)(p:Nat)(m:Mem):Prop where
 ex:∃ov fv lv kv wv ws,qh ws m/\nh w p [ov,fv,lv,kv,wv]/\dD (λ_=>True) w ov m.of/\dD (λ_=>True) w fv m.eg/\dD (λ_=>True) w lv m.l/\dD (λ_=>True) w kv m.kept/\dD (λ_=>True) w wv ws
section
variable {w w0:World}{A:Nat->Prop}{R:List HP}{p:Nat}{m:Mem}{ov fv lv kv wv:Value}{ws:List nq}
theorem gI.shut(h:qh ws m)(u:St w0 A (bW p [ov,fv,lv,kv,wv]::bE ov m.of::bE fv m.eg::bE lv m.l::bE kv m.kept::bE wv ws::R) w):St w0 A (gI p m::R) w:=by
 have h5:=St.join u.p5.p5
 have h4:=St.join h5.p4
 have h3:=St.join h4.p3
 have h2:=St.join h3.p2
 have h1:=St.join h2.p1
 exact St.eB (ov,fv,lv,kv,wv) (St.eB ws (St.oW h h1))
theorem gI.open(u:St w0 A (gI p m::R) w):∃ov fv lv kv wv ws,qh ws m/\St w0 A (bW p [ov,fv,lv,kv,wv]::bE ov m.of::bE fv m.eg::bE lv m.l::bE kv m.kept::bE wv ws::R) w:=by
 obtain⟨⟨ov,fv,lv,kv,wv⟩,u⟩:=u.eA;obtain⟨ws,u⟩:=u.eA;obtain⟨B,u⟩:=u.mK
 have h1:=u.split
 have h2:=h1.p1.split
 have h3:=h2.p1.split
 have h4:=h3.p1.split
 have h5:=h4.p1.split
 exact⟨ov,fv,lv,kv,wv,ws,B,h5.p2.p3.p4.p5⟩
end
def GZ{w:World}{p:Nat}{m:Mem}(h:Has (gI p m) w):yw w p m:=by
 obtain⟨F,u⟩:=h.st
 obtain⟨ov,fv,lv,kv,wv,ws,B,u⟩:=gI.open u
 exact⟨ov,fv,lv,kv,wv,ws,B,u.hb,u.p1.dW,u.p2.dW,u.p3.dW,u.p4.dW,u.p5.dW⟩
def G0{α β:Type}[Flat α][Flat β]{P:Program}{S:Nat->Prop}{Wd:hM}{w0:World}{T f u:Nat}{p:Value}{x:α}(y:β){K:Value->Prop}(ht:xp P T f u)(h:∀w,Wd w->At S w p x)(B:Wd w0)(M:(j0 x)[u]?=some (ir y))(I:Flat.agg β=false)
  (k:∀q,(∀w,Wd w->At S w q y)->K q):eX P (Instr.fieldAt T p f) K:=by
 obtain⟨b,o,rfl,h2,_⟩:=h w0 B
 refine aA ht (k _ λw B=>?_)
 obtain⟨O,J,G,_,h3⟩:=h w B
 cases G
 refine⟨b,o+u,rfl,h2,λj c E=>?_⟩
 rw[Flat.oF I]at E
 grind
theorem ago{l:List Int}{k:Nat}{e:Int}(u:0<k)(h:l[((k:Int)-1).toNat]?=some e):ui l k=e+1:=by
 unfold ui
 rw[ej cO,n3,show k-1=((k:Int)-1).toNat from cO,h];rfl
def abS{of fi:List Int}{st:Int}:qh [] (KH of st fi):=⟨λ_=>rfl,λx h=>by cases h⟩
def C61(of fi:List Int)(st:Int)(ov fv:Value)(w:World)(B:dD (λ_=>True) w ov of)(E:dD (λ_=>True) w fv fi)(hle:of.length=fi.length)(LB:of.length<=20)(jd:0<=st/\st<=of.length)(Hj:∀(k:Nat) (n:Int),(k:Int)<st->of[k]?=some n->(n=ui of k\/(0<k/\n=ui of k-1))/\-10<=n/\n<=100):CR 61 [ov,hZ st,fv] w (λv w'=>∃b,v=.tuple #[.pointer (some ⟨b,0,none⟩),hZ 0]/\kq (gI b (KH of st fi)) w w'):=by
 have u:=St.start w;refine aji _ _ _ _ _ ?_;unfold S61;refine⟨_,?_,λ_ _ h=>h⟩;refine aK cS (B.ext u.aG) (aK cS (E.ext u.aG) (bQ (fI (fV cO) (aK cS (B.ext u.aG) (cQ (fI (fV cO) (aR (fI (fV cO) (aK cS (B.ext u.aG) (cQ ?_))))))))));intro _;refine fI (fV cO) ?_;refine⟨λmm x w1=>∃k:Nat,x=hZ (k:Int)/\mm=st.toNat-k/\(k:Int)<=st/\St w aX [] w1,⟨_,0,rfl,rfl,cO,u⟩,?_⟩;rintro mm _ _ ⟨k,rfl,rfl,hk,u⟩ _;refine aR (aC (λku=>⟨_,aH (aC (λDw=>?_) λDw=>?_),λ_ _ h=>h⟩) λku=>?_)
 .obtain⟨yi,wh⟩:=gx of (i:=(0:Int).toNat) cO;refine aQ cS B cO wh (λ_ xR=>have u:=u.drew;aD bL (xR.ext u.aG) ?_);have G:=Hj 0 yi cO (by simpa using wh);have hw1:ui of 0=0:=rfl;refine bQ (fI (fV cO) (cQ (fI (fV cO) ?_)));intro wG;exact fx (aO cO ⟨_,cO,k+1,rfl,rfl,cO,u⟩)
 .refine cQ (kr (ez cO) ?_);obtain⟨agp,Z⟩:=gx of (i:=(k:Int).toNat) cO;refine aQ cS B cO Z (λ_ agq=>have u:=u.drew;aD bL (agq.ext u.aG) (ft cO ?_));obtain⟨avW,G4⟩:=gx of (i:=((k:Int)-1).toNat) cO;refine aQ cS B cO G4 (λ_ U=>aD bL (U.ext u.aG) ?_);have G:=Hj k agp cO (by simpa using Z);rw[ago cO G4]at G;refine bQ (aC (λags=>?_) λags=>?_)
  .refine aQ cS B cO Z (λ_ agt=>aD bL (agt.ext u.aG) (ft cO (aQ cS B cO G4 λ_ agu=>aD bL (agu.ext u.aG) (aO cO (bQ ?_)))));intro wG;exact fI (fV cO) (aO cO ⟨_,cO,k+1,rfl,rfl,cO,u⟩)
  intro wG;exact fx (aO cO ⟨_,cO,k+1,rfl,rfl,cO,u⟩)
 refine aV ([]:List Int) u cS rfl rfl (dQ rfl) (λs_x72 _ u=>jY cS (B.ext u.aG) cO cO λatz amC=>?_);have amD:=amC _ B;have amE:=(amD.ext u.aG);refine bI u cS amE (by simp;omega) ee (λs_x76 _ u=>aV ([]:List Int) u cS rfl rfl (dQ rfl) λs_x77 _ u=>?_);have QS:=(E.ext u.aG);refine bI u cS QS (by simp;omega) ee (λarS _ u=>?_);obtain⟨M,rfl⟩:=u.p1.fN;obtain⟨Y,rfl⟩:=u.fN;refine pop (PY _ _ _ _ _ _) (cM (x:=(⟨M,Y,bY,bY,bY⟩:S8)) u λO _ u=>aV ([]:List Int) u cS rfl rfl (dQ rfl) λail _ u=>?_)
 have amF:=(E.ext u.aG);refine bI u cS amF (by simp;omega) ee (λs_x85 _ u=>aE (aA sH ?_));obtain⟨I,rfl⟩:=u.fN;refine aT u.p1 ey (dQ rfl) (rfl) (λ_ u=>have u:=u.enc (cs':=j0 (⟨M,Y,I,bY,bY⟩:S8)) rfl;aV ([]:List Int) u cS rfl rfl (dQ rfl) λs_x89 _ u=>jY cS (E.ext u.aG) cO cO λs_x92 amG=>?_);have W:=amG _ E;have J:=(W.ext u.aG);refine bI u cS J (by simp;omega) ee (λs_x93 _ u=>aE (aA A9 ?_));obtain⟨V,rfl⟩:=u.fN;refine aT u.p1 ey (dQ rfl) (rfl) (λ_ u=>?_)
 have u:=(((u.enc (cs':=j0 (⟨M,Y,I,V,bY⟩:S8)) rfl).p1).p2).p3;have u:=u.p4.p4;simp only[List.nil_append]at u;have u:=(u.eK (α:=nq)).p5.p5.p5.p5.p5;exact⟨_,rfl,(gI.shut (m:=KH of st fi) abS u).fresh⟩
end Go.Proofs.YtpdlpabnlkofmaaGreatDoor

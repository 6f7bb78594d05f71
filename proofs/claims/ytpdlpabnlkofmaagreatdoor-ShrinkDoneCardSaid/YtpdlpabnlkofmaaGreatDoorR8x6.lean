/-
  Part 6.
-/
import Derived.Test.YtpdlpabnlkofmaaGreatDoorR8x5
set_option maxHeartbeats 8000000
set_option linter.all false
set_option maxRecDepth 100000
open Go.Fw.Flat renaming val->ia,enc->j0,sz->mI
open ByteArray renaming mk->kh
open List renaming getElem?_eq_some_iff->kp,mem_of_getElem?->kE,take_of_length_le->kO,length_append->la,length_singleton->mv,getElem?_eq_none->m4,append_assoc->n3,getD_eq_getElem?_getD->og,mem_map->oj,length_cons->oE,mem_cons_self->o1,append_nil->pL,mem_append->pU,mem_cons_of_mem->qX,mem_cons->sl,any_eq_false->AK,length_set->GR,length_nil->IF,mem_or_eq_of_mem_set->QX
open Nat renaming zero_le->l1,le_refl->o6,le_succ->Kf
open Go.Instr renaming build->l4,sliceAt->n4,box->zx,indexAt->FI,makeSlice->M4
open Go.Fw.Deep renaming dr->mh
open Option renaming bind_some->mQ,some->oi
open Go.Value renaming int->ni
open Bool renaming and_eq_true->ob,not_eq_true'->sk,or_eq_false_iff->Jc
open Int renaming toNat_natCast->qa,le_refl->NI,eq_ofNat_of_zero_le->N2
open Decidable renaming not_not->vh
namespace Go.Proofs.YtpdlpabnlkofmaaGreatDoor
open Go.Fw
theorem ZF{l:List bT}{i:Int}{R:List cA×Int×Int×Int}(h:wc l i=some R)(hi:¬ i<0):∃x,HS l 10000 i 0 0=some x/\
  (if x.e≠0 then some ([],0,x.e,x.at_)else match zz x.l,l[i.toNat]? with
  | some t,some k=>if x.l.length<=10000 then(if 12<t.depth then some ([],0,7,k.at_)else if 40<x.l.length then some ([],0,2,k.at_)else some (x.l,x.to,0,0))else none
  | _,_=>none)=some R:=by
 unfold wc at h;rw[ej hi]at h
 cases hx:HS l 10000 i 0 0 with
 | none=>grind
 | some x=>grind
theorem Qr{x:fM}{o:Option bT}{R:List cA×Int×Int×Int}(h:(match zz x.l,o with
  | some t,some k=>if x.l.length<=10000 then(if 12<t.depth then some ([],0,7,k.at_)else if 40<x.l.length then some ([],0,2,k.at_)else some (x.l,x.to,0,0))else none
  | _,_=>none)=some R):∃t k,zz x.l=some t/\o=some k/\x.l.length<=10000/\(if 12<t.depth then some ([],0,7,k.at_)else if 40<x.l.length then some ([],0,2,k.at_)else some (x.l,x.to,0,0))=some R:=by
 grind
def C258(l:List bT)(j:Nat)(lv:Value)(i d n:Int)(r:fM)(w:World)(V:dC (λ_=>True) w lv l)(hk:jm l)(HR:ajO l (HS l j))(h0:0<=i/\i<=l.length)(hd:0<=d/\d<=12)(hnn:0<=n/\n<=5)(hr:HS l (j+1) i d n=some r):CR 258 [lv,hZ i,hZ d,hZ n] w (λv w'=>∃sh:ea,v=ia sh/\lh (eD λw=>mh w sh r) w w'):=by
 have DD:=hk.n;have hn:l.length<=1000000:=cK
 have sB:=hk.at_;have u:=St.start w;refine ab4 _ _ _ _ _ _ ?_;unfold S258;refine aM u tE (λTR _ u=>have u:=u.enc (cs':=j0 (⟨bX,0,0,0⟩:ea)) rfl;aH (aC (λjr=>?_) λjr=>?_))
 .refine dO afN (C294 l (HS l j) _ i d r _ (V.ext u.aG) hk HR h0 hd (ag1 (by rw[jr]at hr;exact hr))) ?_;rintro _ _ ⟨ajR,rfl,G⟩;have u:=u.made G;obtain⟨Bg,Qo,_⟩:=u.eD;subst Qo;refine aI (x:=(⟨Bg,r.to,r.e,r.at_⟩:ea)) u.p1 fX rfl rfl (λ_ u=>aD fX u.At ?_);have E:r=(⟨r.l,r.to,r.e,r.at_⟩:fM):=rfl;rw[E];have u:=u.p1.dN (Ψ:=(λw=>mh w (⟨Bg,r.to,r.e,r.at_⟩:ea) (⟨r.l,r.to,r.e,r.at_⟩:fM))) (λ_ h=>⟨_,rfl,lH h⟩);have u:=u.p1.drop;exact⟨_,rfl,u.fresh⟩
 obtain⟨J,hx1,ax8⟩:=arh hr jr;refine aN cK (dO Ru ((HR _ i d (n+1) J _ (V.ext u.aG) hx1 h0 hd cK).1) ?_);rintro _ _ ⟨ax9,rfl,G⟩;have u:=u.made G;obtain⟨JP,aj9,_⟩:=u.eD;subst aj9;refine aM u tE (λBU _ u=>have u:=u.enc (cs':=j0 (⟨bX,0,0,0⟩:ea)) rfl;aI (x:=(⟨JP,J.to,J.e,J.at_⟩:ea)) u fX rfl rfl λ_ u=>?_);have u:=u.p2.p2.p2.p1.dN (Ψ:=λw=>DL w (ia JP) J.l) (λ_ h=>lH h);have u:=u.p2.p1.p2;refine⟨λM w'=>∃(x:fM) (g:SV),v9 (HS l j) l d n M x=some r/\St w aZ [bY BU (j0 (⟨g,x.to,x.e,x.at_⟩:ea)),eD (λw=>DL w (ia g) x.l),bY TR (j0 (⟨bX,0,0,0⟩:ea))] w',⟨j,J,JP,ax8,u⟩,?_⟩
 rintro M _ ⟨x,g,B,u⟩ _;obtain⟨j2,rfl⟩:=Qm B;refine aA uG (aB (v:=hZ x.e) jN u.hb rfl (aH (aC (λMu=>?_) λMu=>?_)))
 .have u:=u.p2.p2.p2;refine⟨λM o kk w'=>∃k:Nat,o=hZ (FH l x.to n k)/\kk=hZ (k:Int)/\M=(qW n).length-k/\k<=(qW n).length/\St w aZ [bY BU (j0 (⟨g,x.to,x.e,x.at_⟩:ea)),eD (λw=>DL w (ia g) x.l),bY TR (j0 (⟨bX,0,0,0⟩:ea))] w',⟨_,0,rfl,rfl,rfl,l1 _,u⟩,?_⟩;rintro M _ _ _ ⟨k,rfl,rfl,rfl,BV,u⟩ _;have hfl4:=Qn n;refine dY Wf u (C295 n _ cK) (λx31 _ G u=>aK cS u.dX (aR (aC (λyV=>⟨λjv w'=>jv=hZ (FH l x.to n (k+1))/\St w aZ [bY BU (j0 (⟨g,x.to,x.e,x.at_⟩:ea)),eD (λw=>DL w (ia g) x.l),bY TR (j0 (⟨bX,0,0,0⟩:ea))] w',?_,?_⟩) λyV=>?_)))
  .refine aA oX (have u:=u.drew;aB (v:=hZ x.to) bM u.p1.hb rfl (dY Wf u (C295 n _ cK) λx40 _ G u=>?_));refine⟨aF bM (u.p2.hb.cell rfl),?_⟩;obtain⟨HT,O⟩:=gx (qW n) (i:=(k:Int).toNat) cK;refine dR u cS cK cK (λ_ ZG=>gM u bM ZG O ?_);have hfb:=ZC O;refine aV ann u (C296 HT _ cK) (λ_ he u=>?_);refine⟨aF bM (u.p2.hb.cell rfl),?_⟩;exact aV vQ u (C209 _ l x.to (Nf HT) _ (V.ext u.aG) hn) (λ_ _ u=>aY (λMh=>dY Wf u (C295 n _ cK) λ_ _ _ u=>dR u cS cK cK λ_ EX=>gM u bM EX O (have u:=u.drop.drop.drop.p2.p2.p2;⟨by rw[HQ (k:=k) O,ew Mh]<;>rfl,u⟩)) λMh=>have u:=u.drop.drop.p2.p2.p2;⟨by rw[HQ (k:=k) O,ej (by simpa using Mh)]<;>rfl,u⟩)
  .rintro _ _ ⟨rfl,u⟩ _;exact aN cK ⟨_,cK,k+1,rfl,rfl,rfl,cK,u⟩
  have Z:FH l x.to n k=JN l x.to n:=by unfold JN;rw[show k=(qW n).length from cK]
  refine aH (aC (λuT=>?_) λuT=>?_)
  .refine aD fX u.p1.At (aI (x:=(⟨g,x.to,x.e,x.at_⟩:ea)) u.p3 fX rfl rfl λ_ u=>aD fX u.At ?_);have E:r=(⟨x.l,x.to,x.e,x.at_⟩:fM):=ZD (x:=x) B cK (by rw[<- Z];exact uT);rw[E];have u:=u.p3.dN (Ψ:=(λw=>mh w (⟨g,x.to,x.e,x.at_⟩:ea) (⟨x.l,x.to,x.e,x.at_⟩:fM))) (λ_ h=>⟨_,rfl,id h⟩);have u:=u.p1.drop.p1.drop.p1.drop;exact⟨_,rfl,u.fresh⟩
  obtain⟨t,y,h0t,ht,hy,hye,I⟩:=ZE B cK (by rw[<- Z];exact uT);have N9:=(kp.1 ht).1;refine aA oX (aB (v:=hZ x.to) bM u.p1.hb rfl (aN cK (aN cK (dO Ru ((HR _ (x.to+1) d (n+1) y _ (V.ext u.aG) hy cK hd cK).1) ?_))));rintro _ _ ⟨ayb,rfl,G⟩;have u:=u.made G;obtain⟨Y,akb,_⟩:=u.eD;subst akb;refine aM u tE (λb_y12 _ u=>have u:=u.enc (cs':=j0 (⟨bX,0,0,0⟩:ea)) rfl;aI (x:=(⟨Y,y.to,y.e,y.at_⟩:ea)) u fX rfl rfl λ_ u=>aA uG (aB (v:=hZ y.e) jN u.hb rfl (bV (aC (λuU=>?_) λuU=>?_))))
  .refine aD fX u.At (aI (x:=(⟨Y,y.to,y.e,y.at_⟩:ea)) u.p5 fX rfl rfl λ_ u=>aD fX u.At ?_);have E:r=(⟨y.l,y.to,y.e,y.at_⟩:fM):=hye uU;rw[E];have u:=u.p2.dN (Ψ:=(λw=>mh w (⟨Y,y.to,y.e,y.at_⟩:ea) (⟨y.l,y.to,y.e,y.at_⟩:fM))) (λ_ h=>⟨_,rfl,lH h⟩);have u:=u.p1.drop.p1.drop.p1.drop.p1.drop.p1.drop;exact⟨_,rfl,u.fresh⟩
  refine aA oX (aB (v:=hZ x.to) bM u.p3.hb rfl (aQ fL (V.ext u.aG) cK ht λ_ Yb=>bW t.at_ lO Yb rfl rfl λ_ ark=>aD bM ark (pop (Eg _ _) (bD ([(⟨(FH l x.to n k),0,(kh #[]),t.at_⟩:cA)]) u gX rfl rfl (dL rfl) λarl _ u=>aA sf (aB (v:=ia (g:SV)) jx u.p4.hb rfl ?_)))));have BC:=(I cK).1;have akc:=(DL.flat (id u.p5.eD));refine bJ u gX akc (by simp;omega) ee (λapU _ u=>aA sf (aB (v:=ia (Y:SV)) jx u.p1.hb rfl ?_));have akd:=(DL.flat (lH u.p2.eD))
  refine bJ u gX akd (by simp;omega) ee (λs_x82 _ u=>aA oX (aB (v:=hZ y.to) bM u.p1.hb rfl ?_));obtain⟨W,rfl⟩:=u.fJ;refine pop (zo _ _ _ _) (aI (x:=(⟨W,y.to,0,0⟩:ea)) u.p4 fX rfl rfl λ_ u=>aH (aC (λE5=>?_) λE5=>?_))
  .refine aD fX u.At (aI (x:=(⟨W,y.to,0,0⟩:ea)) u.p6 fX rfl rfl λ_ u=>aD fX u.At ?_);have E:r=(⟨(([(⟨(FH l x.to n k),0,(kh #[]),t.at_⟩:cA)]++x.l)++y.l),y.to,0,0⟩:fM):=((I cK).2.1 E5).trans (by rw[<- Z]);rw[E];have u:=u.p2.freeze.dN (Ψ:=(λw=>mh w (⟨W,y.to,0,0⟩:ea) (⟨(([(⟨(FH l x.to n k),0,(kh #[]),t.at_⟩:cA)]++x.l)++y.l),y.to,0,0⟩:fM))) (λ_ h=>⟨_,rfl,DL.j1 h⟩);have u:=u.p1.drop.p1.drop.p1.drop.p1.drop.p1.drop.p1.drop;exact⟨_,rfl,u.fresh⟩
  have u:=u.p1.freeze.dN (Ψ:=λw=>DL w (ia W) ([(⟨FH l x.to n k,0,kh #[],t.at_⟩:cA)]++x.l++y.l)) (λ_ h=>DL.j1 h);have u:=u.p2.drop.p2.drop.p2.drop.p2.drop.p2.p1.p2;have U:=(I cK).2.2 E5;rw[<- Z]at U;exact⟨_,cK,⟨_,_,_,_⟩,W,U,u⟩
 refine aD fX u.At (aI (x:=(⟨g,x.to,x.e,x.at_⟩:ea)) u.p2 fX rfl rfl λ_ u=>aD fX u.At ?_);have E:r=(⟨x.l,x.to,x.e,x.at_⟩:fM):=ael (x:=x) B cK;rw[E];have u:=u.p2.dN (Ψ:=(λw=>mh w (⟨g,x.to,x.e,x.at_⟩:ea) (⟨x.l,x.to,x.e,x.at_⟩:fM))) (λ_ h=>⟨_,rfl,id h⟩);have u:=u.p1.drop.p1.drop;exact⟨_,rfl,u.fresh⟩
theorem ake{l:List bT}(u:jm l):∀j,ajO l (HS l j)
 | 0=>λlv i d n r w E B=>by cases B
 | j+1=>λlv i d n r w E B G I J=>⟨C258 l j lv i d n r w E u (ake u j) G I J B,λh5=>by subst h5;exact C294 l (HS l j) lv i d r w E u (ake u j) G I (ag1 B)⟩
def C213(l:List bT)(lv:Value)(i:Int)(R:List cA×Int×Int×Int)(w:World)(W:dC (λ_=>True) w lv l)(hk:jm l)(hil:i<=l.length)(M:wc l i=some R):CR 213 [lv,hZ i] w (λv w'=>∃sv:SV,v=.tuple #[ia sv,hZ R.2.1,hZ R.2.2.1,hZ R.2.2.2]/\lh (eD λw=>DL w (ia sv) R.1) w w'):=by
 have DD:=hk.n;have hn:l.length<=1000000:=cK
 have sB:=hk.at_;have u:=St.start w;refine oM Tryz.func213 (pl:=auM) ?_;refine aR (aC (λgI=>?_) λgI=>?_)
 .have B:R=([],0,1,0):=by
   unfold wc at M;rw[ew gI]at M;exact(oi.inj M).symm
  rw[B];exact⟨bX,rfl,(u.fu (Φ:=λw=>DL w (ia (bX:SV)) ([]:List cA)) λw=>DL.nil w).fresh⟩
 obtain⟨x,hx,J⟩:=ZF M cK;refine dO Ru ((ake hk 10000 _ i 0 0 x _ (W.ext u.aG) hx cK cK cK).1) ?_;rintro _ _ ⟨ayc,rfl,cL⟩;have u:=u.made cL;obtain⟨G,akf,_⟩:=u.eD;subst akf;refine aM u tE (λTR _ u=>have u:=u.enc (cs':=j0 (⟨bX,0,0,0⟩:ea)) rfl;aI (x:=(⟨G,x.to,x.e,x.at_⟩:ea)) u fX rfl rfl λ_ u=>aA uG (aB (v:=hZ x.e) jN u.hb rfl (bV (aC (λU=>?_) λU=>?_))))
 .refine aA uG (have u:=u.drew;aB (v:=hZ x.e) jN u.hb rfl (aA Wv (aB (v:=hZ x.at_) bM u.hb rfl ?_)))
  have B:R=([],0,x.e,x.at_):=by
   rw[ew U]at J;exact(oi.inj J).symm
  rw[B];exact⟨bX,rfl,(u.fu (Φ:=λw=>DL w (ia (bX:SV)) ([]:List cA)) λw=>DL.nil w).fresh⟩
 rw[ej U]at J;obtain⟨V,O,Z,Hq,hxl,E⟩:=Qr J;have htki:=(kp.1 Hq).1;obtain⟨Y,tX⟩:=vt Z;have hAt:BE x.l 0 V:=⟨cK,Y,[],by simpa using tX⟩;refine aA sf (aB (v:=ia (G:SV)) jx u.hb rfl (aV Wa u (C252 _ x.l 0 V (V.size+1) _ (DL.flat (lH u.p1.eD)) cK hAt cK) λ_ he u=>cO (aC (λI=>?_) λI=>aA sf (aB (v:=ia (G:SV)) jx u.hb rfl (aK gX (DL.flat (lH u.p1.eD)) (cO (aC (λyV=>?_) λyV=>?_)))))))
 .refine aQ fL (W.ext u.aG) cK Hq (λ_ uN=>bW O.at_ lO uN rfl rfl λ_ EJ=>have u:=u.drew;aD bM EJ ?_)
  have B:R=([],0,7,O.at_):=by
   rw[ew I]at E;exact(oi.inj E).symm
  rw[B];exact⟨bX,rfl,(u.fu (Φ:=λw=>DL w (ia (bX:SV)) ([]:List cA)) λw=>DL.nil w).fresh⟩
 .refine aQ fL (W.ext u.aG) cK Hq (λ_ AR=>bW O.at_ lO AR rfl rfl λ_ xk=>have u:=u.drew;aD bM xk ?_)
  have B:R=([],0,2,O.at_):=by
   rw[ej I,ew cK]at E;exact(oi.inj E).symm
  rw[B];exact⟨bX,rfl,(u.fu (Φ:=λw=>DL w (ia (bX:SV)) ([]:List cA)) λw=>DL.nil w).fresh⟩
 refine aA sf (have u:=u.drew;aB (v:=ia (G:SV)) jx u.hb rfl (aA oX (aB (v:=hZ x.to) bM u.hb rfl ?_)));have u:=u.p1.dN (Ψ:=λw=>DL w (ia G) x.l) (λ_ h=>lH h)
 have B:R=(x.l,x.to,0,0):=by
  rw[ej I,ej cK]at E;exact(oi.inj E).symm
 rw[B];exact⟨G,rfl,u.fresh⟩
structure fQ where
 at_:Int
 e:Int
 pos:Int
deriving DecidableEq
def jB(l:List bT)(s:fQ)(e:Int):fQ:=if s.e=0 then {s with e:=if (l.length:Int)<=s.at_ then 6 else e,pos:=nt l s.at_}else s
def dT(l:List bT)(s:fQ)(t:ByteArray):fQ:=if (decide (s.e=0)&&tM l s.at_ t)=true then {s with at_:=s.at_+1}else jB l s 5
def l6(l:List bT)(i:Int):Option bT:=if 0<=i then l[i.toNat]? else none
def tN(l:List bT)(s:fQ):Bool:=decide (s.e=0)&&(match l6 l s.at_ with|some t=>decide (t.kind=1)&&gK t.text|none=>false)
def pF(l:List bT)(i:Int):bT:=(l6 l i).getD ⟨0,⟨#[]⟩,0,0⟩
def dB(l:List bT)(s:fQ):fQ×ByteArray:=if tN l s=true then({s with at_:=s.at_+1},(pF l s.at_).text)else(jB l s 5,⟨#[]⟩)
def ru(l:List bT)(s:fQ):Option (fQ×List cA):=if s.e≠0 then some (s,[])else(wc l s.at_).bind λR=>
 if R.2.2.1≠0 then some ({s with e:=R.2.2.1,pos:=R.2.2.2},[])else if 0<=R.2.1/\R.2.1<=l.length then some ({s with at_:=R.2.1},R.1)else none
def Qs(l:List bT)(s:fQ):Bool:=decide (s.e=0)&&(match l6 l s.at_ with|some t=>decide (t.kind=2)|none=>false)
def ld(l:List bT)(s:fQ):fQ×Int:=if Qs l s=true then(if 1<=(pF l s.at_).n/\(pF l s.at_).n<=8 then({s with at_:=s.at_+1},(pF l s.at_).n)else(jB l s 11,0))else(jB l s 5,0)
def DM:List ByteArray:=[⟨#[]⟩,⟨#[]⟩,⟨#[108,111,97,100]⟩,⟨#[115,116,111,114,101]⟩,⟨#[99,97,115]⟩,⟨#[102,108,117,115,104]⟩,⟨#[111,112,116]⟩,⟨#[115,102,101,110,99,101]⟩,⟨#[109,102,101,110,99,101]⟩,⟨#[116,97,107,101]⟩,⟨#[103,105,118,101]⟩,⟨#[105,102]⟩,⟨#[108,111,111,112]⟩,⟨#[98,114,101,97,107]⟩,⟨#[99,104,101,99,107]⟩]
def HU(k:Int):ByteArray:=(DM[k.toNat]?).getD ⟨#[]⟩
def lI(l:List bT)(s:fQ):Prop:=0<=s.at_/\s.at_<=l.length
section
variable {l:List bT}{s:fQ}{e:Int}{t:ByteArray}
theorem tO(h:lI l s):lI l (jB l s e):=by unfold jB;split<;>exact h
theorem fI(h:lI l s):lI l (dT l s t):=by
 unfold dT;split
 .rename_i h2
  rw[ob]at h2
  have:=sR h2.2
  exact⟨dD,dD⟩
 exact tO h
theorem mP{i:Int}{k:bT}(h:l6 l i=some k):0<=i/\i<l.length/\l[i.toNat]?=some k:=by
 unfold l6 at h
 grind
theorem Bh(h:tN l s=true):s.e=0/\∃k,l6 l s.at_=some k/\k.kind=1/\gK k.text=true:=by
 unfold tN at h
 grind
theorem S4(h:Qs l s=true):s.e=0/\∃k,l6 l s.at_=some k/\k.kind=2:=by
 unfold Qs at h
 grind
theorem gL(h:lI l s):lI l (dB l s).1:=by
 unfold dB;split
 .rename_i h2
  obtain⟨_,k,u,_⟩:=Bh h2
  have:=mP u
  exact⟨dD,dD⟩
 exact tO h
theorem UL(h:lI l s):lI l (ld l s).1:=by
 unfold ld;split
 .rename_i h2
  obtain⟨_,k,u,_⟩:=S4 h2
  have:=mP u
  split
  .exact⟨dD,dD⟩
  exact tO h
 exact tO h
theorem sS{s':fQ}{x:List cA}(h:lI l s)(u:ru l s=some (s',x)):lI l s':=by
 unfold ru at u
 split at u
 .grind
 cases hx:wc l s.at_ with
 | none=>grind
 | some R=>
  grind[lI]
end
@[reducible] def eo(lv ov:Value)(s:fQ):List Value:=[lv,.int .i64 s.at_,.int .i64 s.e,.int .i64 s.pos,ov]
@[reducible] def eA(lv:Value)(s:fQ):List Value:=[lv,.int .i64 s.at_,.int .i64 s.e,.int .i64 s.pos]
def iG(l:List bT)(s:fQ)(t:ByteArray):fQ×Bool:=if (decide (s.e=0)&&tM l s.at_ t)=true then({s with at_:=s.at_+1},true)else(s,false)
def fc(l:List bT)(s:fQ):fQ×cJ:=if tN l s=true then({s with at_:=s.at_+1},⟨(pF l s.at_).text,0,(pF l s.at_).at_⟩)else(jB l s 5,⟨⟨#[]⟩,0,0⟩)
def kz{l:List bT}{s:fQ}{t:ByteArray}(h:lI l s):lI l (iG l s t).1:=by
 unfold iG;split
 .rename_i h2
  rw[ob]at h2
  have:=sR h2.2
  exact⟨dD,dD⟩
 exact h
def u6{l:List bT}{s:fQ}(h:lI l s):lI l (fc l s).1:=by
 unfold fc;split
 .rename_i h2
  obtain⟨_,k,u,_⟩:=Bh h2
  have:=mP u
  exact⟨dD,dD⟩
 exact tO h
theorem ZH{l:List bT}{s u:fQ}{x:List cA}(h:ru l s=some (u,x))(B:¬ s.e≠0):∃R,wc l s.at_=some R/\
  (if R.2.2.1≠0 then some ({s with e:=R.2.2.1,pos:=R.2.2.2},[])else if 0<=R.2.1/\R.2.1<=l.length then some ({s with at_:=R.2.1},R.1)else none)=some (u,x):=by
 unfold ru at h;rw[ej B]at h
 cases hx:wc l s.at_ with
 | none=>grind
 | some R=>grind
def ZI{l:List bT}{s u:fQ}{x:List cA}{R:List cA×Int×Int×Int}(h:(if R.2.2.1≠0 then some ({s with e:=R.2.2.1,pos:=R.2.2.2},[])else if 0<=R.2.1/\R.2.1<=l.length then some ({s with at_:=R.2.1},R.1)else none)=some (u,x))(B:¬ R.2.2.1≠0):0<=R.2.1/\R.2.1<=l.length:=by
 grind
def C291(p:Nat)(lv ov:Value)(l:List bT)(s:fQ)(e:Int)(F:Nat->Prop)(w:World)(Y:(bY p (eo lv ov s)).p w F)(E:∀w',gv F w w'->dC (λ_=>True) w' lv l)(J:jm l)(W:lI l s):CR 291 [(.pointer (some ⟨p,0,none⟩)),hZ e] w (λv w'=>v=.tuple #[]/\mR F (bY p (eo lv ov (jB l s e))) w w'):=by
 have u:=St.begin Y;have DD:=J.n;have I:l.length<=1000000:=cK
 have M:=J.at_;obtain⟨S5,S6⟩:=id W;refine oM Tryz.func291 (pl:=au0) ?_;refine aE (aA kS (aB jN u.hb rfl (aH (aC (λB=>aE (aA kS (aT u jN (dL rfl) (rfl) λ_ u=>⟨_,aE (aA fb (have u:=u.drew;aB bM u.hb rfl (aE (aA iJ (aB jq u.hb rfl (aK fL (E _ u.aG) (cR (aC (λG=>?_) λG=>?_)))))))),λ_ h=>h⟩))) λB=>?_))))
 .refine aE (aA kS (aT u jN (dL rfl) (rfl) λ_ u=>?_));intro U;refine aE (aA iJ (have u:=u.drew;aB jq u.hb rfl (aE (aA fb (aB bM u.hb rfl (aV GQ u (C214 _ l s.at_ _ (E _ u.aG) I M) λZ O u=>aE (aA Az (aT u bM (dL rfl) (rfl) λV u=>?_))))))));have hb:jB l s e=(⟨s.at_,6,(nt l s.at_)⟩:fQ):=by unfold jB;rw[ew B,ew G]
  rw[hb];exact⟨rfl,u.mut⟩
 .intro U;refine aE (aA iJ (have u:=u.drew;aB jq u.hb rfl (aE (aA fb (aB bM u.hb rfl (aV GQ u (C214 _ l s.at_ _ (E _ u.aG) I M) λZ O u=>aE (aA Az (aT u bM (dL rfl) (rfl) λV u=>?_))))))));have hb:jB l s e=(⟨s.at_,e,(nt l s.at_)⟩:fQ):=by unfold jB;rw[ew B,ej G]
  rw[hb];exact⟨rfl,u.mut⟩
 have hb:jB l s e=s:=by unfold jB;rw[ej B]
 rw[hb];exact⟨rfl,u.mut⟩
def C136(p:Nat)(lv:Value)(l:List bT)(s:fQ)(F:Nat->Prop)(w:World)(Y:(bY p (eA lv s)).p w F)(E:∀w',gv F w w'->dC (λ_=>True) w' lv l)(J:jm l)(W:lI l s):CR 136 [(.pointer (some ⟨p,0,none⟩))] w (λv w'=>v=.tuple #[]/\mR F (bY p (eA lv (jB l s 5))) w w'):=by
 have u:=St.begin Y;have DD:=J.n;have I:l.length<=1000000:=cK
 have M:=J.at_;obtain⟨S5,S6⟩:=id W;refine oM Tryz.func136 (pl:=auC) ?_;refine aE (aA mw (aB jN u.hb rfl (aH (aC (λB=>aE (aA mw (aT u jN (dL rfl) (rfl) λ_ u=>⟨_,aE (aA fz (have u:=u.drew;aB bM u.hb rfl (aE (aA j7 (aB jq u.hb rfl (aK fL (E _ u.aG) (cR (aC (λG=>?_) λG=>?_)))))))),λ_ h=>h⟩))) λB=>?_))))
 .refine aE (aA mw (aT u jN (dL rfl) (rfl) λ_ u=>?_));intro U;refine aE (aA j7 (have u:=u.drew;aB jq u.hb rfl (aE (aA fz (aB bM u.hb rfl (aV GQ u (C214 _ l s.at_ _ (E _ u.aG) I M) λZ O u=>aE (aA wR (aT u bM (dL rfl) (rfl) λV u=>?_))))))));have hb:jB l s 5=(⟨s.at_,6,(nt l s.at_)⟩:fQ):=by unfold jB;rw[ew B,ew G]
  rw[hb];exact⟨rfl,u.mut⟩
 .intro U;refine aE (aA j7 (have u:=u.drew;aB jq u.hb rfl (aE (aA fz (aB bM u.hb rfl (aV GQ u (C214 _ l s.at_ _ (E _ u.aG) I M) λZ O u=>aE (aA wR (aT u bM (dL rfl) (rfl) λV u=>?_))))))));have hb:jB l s 5=(⟨s.at_,5,(nt l s.at_)⟩:fQ):=by unfold jB;rw[ew B,ej G]
  rw[hb];exact⟨rfl,u.mut⟩
 have hb:jB l s 5=s:=by unfold jB;rw[ej B]
 rw[hb];exact⟨rfl,u.mut⟩
def C257(p:Nat)(lv ov:Value)(l:List bT)(s:fQ)(t:ByteArray)(F:Nat->Prop)(w:World)(Y:(bY p (eo lv ov s)).p w F)(I:∀w',gv F w w'->dC (λ_=>True) w' lv l)(G:jm l)(J:lI l s):CR 257 [(.pointer (some ⟨p,0,none⟩)),.string t] w (λv w'=>v=.tuple #[]/\mR F (bY p (eo lv ov (dT l s t))) w w'):=by
 have u:=St.begin Y;have DD:=G.n;have W:l.length<=1000000:=cK
 have sB:=G.at_;obtain⟨S5,S6⟩:=id J;refine oM Tryz.func257 (pl:=auU) ?_;refine⟨λM w'=>M=.bool (decide (s.e=0)&&tM l s.at_ t)/\St w F [bY p (eo lv ov s)] w',aE (aA kS (have u:=u.drew;aB jN u.hb rfl (aH (aC (λE=>aE (aA iJ (aB jq u.hb rfl (aE (aA fb (aB bM u.hb rfl (aV vQ u (C209 _ l s.at_ t _ (I _ u.aG) W) λ_ _ u=>⟨vb (by first|(rw[ez E];rfl)|(rw[fN E];rfl)),u⟩))))))) λE=>⟨vb (by first|(rw[ez E];rfl)|(rw[fN E];rfl)),u⟩)))),?_⟩;rintro _ _ ⟨rfl,u⟩ _;refine aY (λB=>?_) (λB=>?_)
 .have O:=sR (by rw[ob]at B;exact B.2);refine aE (aA fb (aB bM u.hb rfl (aN cK (aE (aA fb (aT u bM (dL rfl) (rfl) λ_ u=>?_))))));have hb:dT l s t={s with at_:=s.at_+1}:=by unfold dT;rw[ew (by simpa using B)]
  rw[hb];exact⟨rfl,u.mut⟩
 refine bF GS u (H':=λ_=>bY p (eo lv ov (jB l s 5))) (Φ:=λ_ _=>True) (λU Z V=>?_) ?_
 .exact(C291 p lv ov l s 5 U _ Z (λw' hc=>I w' (V w' hc).aG) G J).mono λ_ _ r=>r.mono λ_ _ h=>⟨trivial,h.2⟩
 rintro _ _ _ u;have hb:dT l s t=jB l s 5:=by unfold dT;rw[ej (by simpa using B)]
 rw[hb];exact⟨rfl,u.mut⟩
def C131(p:Nat)(lv:Value)(l:List bT)(s:fQ)(t:ByteArray)(F:Nat->Prop)(w:World)(V:(bY p (eA lv s)).p w F)(I:∀w',gv F w w'->dC (λ_=>True) w' lv l)(G:jm l)(O:lI l s):CR 131 [(.pointer (some ⟨p,0,none⟩)),.string t] w (λv w'=>v=.bool (iG l s t).2/\mR F (bY p (eA lv (iG l s t).1)) w w'):=by
 have u:=St.begin V;have W:=G.n;have U:l.length<=1000000:=cK
 have sB:=G.at_;obtain⟨Y,Z⟩:=id O;refine oM Tryz.func131 (pl:=aus) ?_;refine⟨λJ w'=>J=.bool (decide (s.e=0)&&tM l s.at_ t)/\St w F [bY p (eA lv s)] w',aE (aA mw (have u:=u.drew;aB jN u.hb rfl (aH (aC (λE=>aE (aA j7 (aB jq u.hb rfl (aE (aA fz (aB bM u.hb rfl (aV vQ u (C209 _ l s.at_ t _ (I _ u.aG) U) λ_ _ u=>⟨vb (by first|(rw[ez E];rfl)|(rw[fN E];rfl)),u⟩))))))) λE=>⟨vb (by first|(rw[ez E];rfl)|(rw[fN E];rfl)),u⟩)))),?_⟩;rintro _ _ ⟨rfl,u⟩ _;refine aY (λB=>?_) (λB=>?_)
 .have M:=sR (by rw[ob]at B;exact B.2);refine aE (aA fz (aB bM u.hb rfl (aN cK (aE (aA fz (aT u bM (dL rfl) (rfl) λ_ u=>?_))))));have hb:iG l s t=({s with at_:=s.at_+1},true):=by unfold iG;rw[ew (by simpa using B)]
  rw[hb];exact⟨rfl,u.mut⟩
 have hb:iG l s t=(s,false):=by unfold iG;rw[ej (by simpa using B)]
 rw[hb];exact⟨rfl,u.mut⟩
def C210(p:Nat)(lv:Value)(l:List bT)(s:fQ)(t:ByteArray)(F:Nat->Prop)(w:World)(W:(bY p (eA lv s)).p w F)(V:∀w',gv F w w'->dC (λ_=>True) w' lv l)(E:jm l)(M:lI l s):CR 210 [(.pointer (some ⟨p,0,none⟩)),.string t] w (λv w'=>v=.tuple #[]/\mR F (bY p (eA lv (dT l s t))) w w'):=by
 have B:=St.begin W;have Y:=E.n;have hn:l.length<=1000000:=cK
 have sB:=E.at_;obtain⟨S5,S6⟩:=id M;refine fg Tryz.func210 ?_;refine bF yG B (H':=λ_=>bY p (eA lv (iG l s t).1)) (Φ:=λv _=>v=.bool (iG l s t).2) (λI O J=>?_) ?_
 .exact C131 p lv l s t I _ O (λw' hc=>V w' (J w' hc).aG) E M
 rintro _ w1 rfl B;refine bR (aY (λG=>?_) λG=>?_)
 .refine bF Rm B (H':=λ_=>bY p (eA lv (jB l (iG l s t).1 5))) (Φ:=λ_ _=>True) (λI O J=>?_) ?_
  .exact(C136 p lv l (iG l s t).1 I _ O (λw' hc=>V w' (J w' hc).aG) E (kz M)).mono λ_ _ r=>r.mono λ_ _ h=>⟨trivial,h.2⟩
  rintro _ Z _ B
  have U:dT l s t=jB l (iG l s t).1 5:=by
   have u:(iG l s t).2=false:=by simpa using G
   unfold iG at u |-;unfold dT
   split at u
   .cases u
   .rename_i h8;rw[ej h8,ej h8]
  rw[U];exact⟨rfl,B.mut⟩
 have U:dT l s t=(iG l s t).1:=by
  have u:(iG l s t).2=true:=by simpa using G
  unfold iG at u |-;unfold dT
  split at u
  .rename_i h8;rw[ew h8,ew h8]
  .cases u
 rw[U];exact⟨rfl,B.mut⟩
def C317(p:Nat)(lv ov:Value)(l:List bT)(s:fQ)(F:Nat->Prop)(w:World)(hF:(bY p (eo lv ov s)).p w F)(I:∀w',gv F w w'->dC (λ_=>True) w' lv l)(U:jm l)(W:lI l s):CR 317 [(.pointer (some ⟨p,0,none⟩))] w (λv w'=>v=.string (dB l s).2/\mR F (bY p (eo lv ov (dB l s).1)) w w'):=by
 have u:=St.begin hF;have DD:=U.n;have hn:l.length<=1000000:=cK
 have sB:=U.at_;obtain⟨S5,S6⟩:=id W;refine oM Tryz.func317 (pl:=au8) ?_;refine⟨λZ w'=>Z=.bool (tN l s)/\St w F [bY p (eo lv ov s)] w',?_,?_⟩
 .refine aE (aA kS (have u:=u.drew;aB jN u.hb rfl (aH (aC (λB=>aE (aA fb (aB bM u.hb rfl (aE (aA iJ (aB jq u.hb rfl (aK fL (I _ u.aG) (aR (aC (λlR=>?_) λlR=>⟨vb (by unfold tN l6;first|(rw[fN B];rfl)|(rw[ew cK,m4 cK];simp;done)|(rw[ew cK,G,ez B];dsimp only;first|(rw[fN E];rfl)|(rw[ez E];rfl))),u⟩))))))))) λB=>⟨vb (by unfold tN l6;first|(rw[fN B];rfl)|(rw[ew cK,m4 cK];simp;done)|(rw[ew cK,G,ez B];dsimp only;first|(rw[fN E];rfl)|(rw[ez E];rfl))),u⟩))))
  refine aE (aA iJ (aB jq u.hb rfl (aE (aA fb (aB bM u.hb rfl ?_)))));obtain⟨V,G⟩:=gx l (i:=s.at_.toNat) cK;refine aQ fL (I _ u.aG) cK G (λ_ AP=>bW V.kind lM AP rfl rfl λ_ mC=>?_);exact aD bM mC (aH (aC (λE=>aE (aA iJ (aB jq u.hb rfl (aE (aA fb (aB bM u.hb rfl (aQ fL (I _ u.aG) cK G λ_ vY=>bW V.text nB vY rfl rfl λ_ uY=>aD gw uY (aV uy u (C211 _ _ (by have:=sB _ (kE G);omega)) λ_ he u=>⟨vb (by unfold tN l6;first|(rw[fN B];rfl)|(rw[ew cK,m4 cK];simp;done)|(rw[ew cK,G,ez B];dsimp only;first|(rw[fN E];rfl)|(rw[ez E];rfl))),u⟩)))))))) λE=>⟨vb (by unfold tN l6;first|(rw[fN B];rfl)|(rw[ew cK,m4 cK];simp;done)|(rw[ew cK,G,ez B];dsimp only;first|(rw[fN E];rfl)|(rw[ez E];rfl))),u⟩))
 rintro _ _ ⟨rfl,u⟩ _;refine aY (λJ=>?_) (λJ=>?_)
 .obtain⟨_,O,Y,_,_⟩:=Bh J;obtain⟨arn,aro,M⟩:=mP Y;have Hq:l[(s.at_+1-1).toNat]?=some O:=by rw[<- M];congr 2;omega
  refine aE (aA fb (aB bM u.hb rfl (aN cK (aE (aA fb (aT u bM (dL rfl) (rfl) λ_ u=>aE (aA iJ (have u:=u.drew;aB jq u.hb rfl (aE (aA fb (aB bM u.hb rfl ?_)))))))))));refine fh cK (aQ fL (I _ u.aG) cK Hq λ_ CJ=>bW O.text nB CJ rfl rfl λ_ ZJ=>aD gw ZJ ?_);have hb:dB l s=({s with at_:=s.at_+1},O.text):=by unfold dB;rw[ew J];unfold pF;rw[Y];rfl
  rw[hb];exact⟨rfl,u.mut⟩
 refine bF GS u (H':=λ_=>bY p (eo lv ov (jB l s 5))) (Φ:=λ_ _=>True) (λF2 ef dW=>?_) ?_
 .exact(C291 p lv ov l s 5 F2 _ ef (λw' hc=>I w' (dW w' hc).aG) U W).mono λ_ _ r=>r.mono λ_ _ h=>⟨trivial,h.2⟩
 rintro _ _ _ u;have hb:dB l s=(jB l s 5,⟨#[]⟩):=by unfold dB;rw[ej (by simpa using J)]
 rw[hb];exact⟨rfl,u.mut⟩
def C133(p:Nat)(lv:Value)(l:List bT)(s:fQ)(F:Nat->Prop)(w:World)(hF:(bY p (eA lv s)).p w F)(J:∀w',gv F w w'->dC (λ_=>True) w' lv l)(U:jm l)(Y:lI l s):CR 133 [(.pointer (some ⟨p,0,none⟩))] w (λv w'=>v=ia (fc l s).2/\mR F (bY p (eA lv (fc l s).1)) w w'):=by
 have u:=St.begin hF;have DD:=U.n;have hn:l.length<=1000000:=cK
 have sB:=U.at_;obtain⟨S5,S6⟩:=id Y;refine oM Tryz.func133 (pl:=auz) ?_;refine aM u oU (λwm _ u=>⟨λjv w'=>jv=.bool (tN l s)/\St w F [bY p (eA lv s),bY wm (j0 (⟨kh #[],0,0⟩:cJ))] w',?_,?_⟩)
 .refine aE (aA mw (have u:=u.drew;aB jN u.p1.hb rfl (aH (aC (λB=>aE (aA fz (aB bM u.p1.hb rfl (aE (aA j7 (aB jq u.p1.hb rfl (aK fL (J _ u.aG) (aR (aC (λlR=>?_) λlR=>have u:=u.p1;⟨vb (by unfold tN l6;first|(rw[fN B];rfl)|(rw[ew cK,m4 cK];simp;done)|(rw[ew cK,G,ez B];dsimp only;first|(rw[fN E];rfl)|(rw[ez E];rfl))),u⟩))))))))) λB=>have u:=u.p1;⟨vb (by unfold tN l6;first|(rw[fN B];rfl)|(rw[ew cK,m4 cK];simp;done)|(rw[ew cK,G,ez B];dsimp only;first|(rw[fN E];rfl)|(rw[ez E];rfl))),u⟩))))
  refine aE (aA j7 (aB jq u.p1.hb rfl (aE (aA fz (aB bM u.p1.hb rfl ?_)))));obtain⟨W,G⟩:=gx l (i:=s.at_.toNat) cK;refine aQ fL (J _ u.aG) cK G (λ_ AP=>bW (W).kind lM AP rfl rfl λ_ mC=>?_);exact aD bM mC (aH (aC (λE=>aE (aA j7 (aB jq u.p1.hb rfl (aE (aA fz (aB bM u.p1.hb rfl (aQ fL (J _ u.aG) cK G λ_ vY=>bW (W).text nB vY rfl rfl λ_ uY=>aD gw uY (aV uy u (C211 _ _ (by have:=sB _ (kE G);omega)) λ_ he u=>have u:=u.p1;⟨vb (by unfold tN l6;first|(rw[fN B];rfl)|(rw[ew cK,m4 cK];simp;done)|(rw[ew cK,G,ez B];dsimp only;first|(rw[fN E];rfl)|(rw[ez E];rfl))),u⟩)))))))) λE=>have u:=u.p1;⟨vb (by unfold tN l6;first|(rw[fN B];rfl)|(rw[ew cK,m4 cK];simp;done)|(rw[ew cK,G,ez B];dsimp only;first|(rw[fN E];rfl)|(rw[ez E];rfl))),u⟩))
 rintro _ _ ⟨rfl,u⟩ _;refine aY (λM=>?_) (λM=>?_)
 .obtain⟨_,I,Z,_,_⟩:=Bh M;obtain⟨arn,aro,O⟩:=mP Z;have Hq:l[(s.at_+1-1).toNat]?=some I:=by rw[<- O];congr 2;omega
  refine aE (aA fz (aB bM u.hb rfl (aN cK (aE (aA fz (aT u bM (dL rfl) (rfl) λ_ u=>aE (aA j7 (have u:=u.drew;aB jq u.hb rfl (aE (aA fz (aB bM u.hb rfl ?_)))))))))));refine fh cK (aQ fL (J _ u.aG) cK Hq λ_ CJ=>bW I.text nB CJ rfl rfl λ_ ZJ=>aD gw ZJ (aE (aA j7 (aB jq u.hb rfl (aE (aA fz (aB bM u.hb rfl (fh cK (aQ fL (J _ u.aG) cK Hq λ_ V=>bW I.at_ lO V rfl rfl λ_ Nm=>?_)))))))))
  refine aD bM Nm (pop (Ef _ _) (aI (x:=(⟨I.text,0,I.at_⟩:cJ)) u.p1 mc rfl rfl λ_ u=>aD mc u.At ?_));have u:=u.drop;have hb:fc l s=({s with at_:=s.at_+1},⟨I.text,0,I.at_⟩):=by unfold fc;rw[ew M];unfold pF;rw[Z];rfl
  rw[hb];exact⟨rfl,u.mut⟩
 refine bF Rm u (H':=λ_=>bY p (eA lv (jB l s 5))) (Φ:=λ_ _=>True) (λF2 ef dW=>?_) ?_
 .exact(C136 p lv l s F2 _ ef (λw' hc=>J w' (dW w' hc).aG) U Y).mono λ_ _ r=>r.mono λ_ _ h=>⟨trivial,h.2⟩
 rintro _ _ _ u;refine pop acs (aI (x:=(⟨(kh #[]),0,0⟩:cJ)) u.p1 mc rfl rfl λ_ u=>aD mc u.At ?_);have u:=u.drop;have hb:fc l s=(jB l s 5,⟨⟨#[]⟩,0,0⟩):=by unfold fc;rw[ej (by simpa using M)]
 rw[hb];exact⟨rfl,u.mut⟩
def C290(k:Int)(w:World)(M:0<=k/\k<=14):CR 290 [hZ k] w (λv w'=>v=.string (HU k)/\Ext w w'):=by
 have u:=St.start w;refine fg Tryz.func290 ?_;refine bD DM u iC rfl rfl (dL rfl) (λG _ u=>?_);have J:DM.length=15:=rfl;obtain⟨I,E⟩:=gx DM (i:=k.toNat) cK;refine dR u iC cK cK (λ_ B=>gM u gw B E ?_);refine⟨?_,u.drop.aG⟩;unfold HU;rw[E];rfl
def C319(p:Nat)(lv ov:Value)(l:List bT)(s:fQ)(F:Nat->Prop)(w:World)(hF:(bY p (eo lv ov s)).p w F)(E:∀w',gv F w w'->dC (λ_=>True) w' lv l)(J:jm l)(W:lI l s):CR 319 [(.pointer (some ⟨p,0,none⟩))] w (λv w'=>v=hZ (ld l s).2/\mR F (bY p (eo lv ov (ld l s).1)) w w'):=by
 have u:=St.begin hF;have DD:=J.n;have hn:l.length<=1000000:=cK
 have sB:=J.at_;obtain⟨S5,S6⟩:=id W;refine oM Tryz.func319 (pl:=ava) ?_;refine⟨λO w'=>O=.bool (Qs l s)/\St w F [bY p (eo lv ov s)] w',?_,?_⟩
 .refine aE (aA kS (have u:=u.drew;aB jN u.hb rfl (aH (aC (λB=>aE (aA fb (aB bM u.hb rfl (aE (aA iJ (aB jq u.hb rfl (aK fL (E _ u.aG) (aR (aC (λfw=>?_) λfw=>⟨vb (by unfold Qs l6;first|(rw[fN B];rfl)|(rw[ew cK,m4 cK];simp;done)|(rw[ew cK,M,ez B];rfl)),u⟩))))))))) λB=>⟨vb (by unfold Qs l6;first|(rw[fN B];rfl)|(rw[ew cK,m4 cK];simp;done)|(rw[ew cK,M,ez B];rfl)),u⟩))))
  refine aE (aA iJ (aB jq u.hb rfl (aE (aA fb (aB bM u.hb rfl ?_)))));obtain⟨q9,M⟩:=gx l (i:=s.at_.toNat) cK;exact aQ fL (E _ u.aG) cK M (λ_ mC=>bW q9.kind lM mC rfl rfl λ_ sw=>aD bM sw (aH ⟨vb (by unfold Qs l6;first|(rw[fN B];rfl)|(rw[ew cK,m4 cK];simp;done)|(rw[ew cK,M,ez B];rfl)),u⟩))
 rintro _ _ ⟨rfl,u⟩ _;refine aY (λG=>?_) (λG=>?_)
 .obtain⟨_,I,Y,_⟩:=S4 G;obtain⟨arn,aro,Hq⟩:=mP Y;refine aE (aA iJ (have u:=u.drew;aB jq u.hb rfl (aE (aA fb (aB bM u.hb rfl (aQ fL (E _ u.aG) cK Hq λ_ vY=>bW I.n se vY rfl rfl λ_ uY=>aD bM uY ⟨λO w'=>O=.bool (decide (1<=I.n/\I.n<=8))/\St w F [bY p (eo lv ov s)] w',cR (aC (λ_=>iE ⟨vb (by first|exact(fN cK).symm|exact ga.2 cK),u⟩) λ_=>⟨vb (by first|exact(fN cK).symm|exact ga.2 cK),u⟩),?_⟩))))))
  rintro _ _ ⟨rfl,u⟩ _;refine aC (λxc=>?_) (λxc=>?_)
  .refine aE (aA fb (aB bM u.hb rfl (aN cK (aE (aA fb (aT u bM (dL rfl) (rfl) λ_ u=>?_))))));have hb:ld l s=({s with at_:=s.at_+1},I.n):=by unfold ld;rw[ew G];unfold pF;rw[Y];exact ew xc
   rw[hb];exact⟨rfl,u.mut⟩
  refine bF GS u (H':=λ_=>bY p (eo lv ov (jB l s 11))) (Φ:=λ_ _=>True) (λU Z V=>?_) ?_
  .exact(C291 p lv ov l s 11 U _ Z (λw' hc=>E w' (V w' hc).aG) J W).mono λ_ _ r=>r.mono λ_ _ h=>⟨trivial,h.2⟩
  rintro _ _ _ u;have hb:ld l s=(jB l s 11,0):=by unfold ld;rw[ew G];unfold pF;rw[Y];exact ej xc
  rw[hb];exact⟨rfl,u.mut⟩
 refine bF GS u (H':=λ_=>bY p (eo lv ov (jB l s 5))) (Φ:=λ_ _=>True) (λU Z V=>?_) ?_
 .exact(C291 p lv ov l s 5 U _ Z (λw' hc=>E w' (V w' hc).aG) J W).mono λ_ _ r=>r.mono λ_ _ h=>⟨trivial,h.2⟩
 rintro _ _ _ u;have hb:ld l s=(jB l s 5,0):=by unfold ld;rw[ej (by simpa using G)]
 rw[hb];exact⟨rfl,u.mut⟩
def C318(p:Nat)(lv ov:Value)(l:List bT)(s:fQ)(G:fQ)(x:List cA)(F:Nat->Prop)(w:World)(hF:(bY p (eo lv ov s)).p w F)(W:∀w',gv F w w'->dC (λ_=>True) w' lv l)(U:jm l)(h0:lI l s)(I:ru l s=some (G,x)):CR 318 [(.pointer (some ⟨p,0,none⟩))] w (λv w'=>mR F (pK λsv:SV=>fact (v=ia sv) (sep (bY p (eo lv ov G)) (eD λw=>DL w (ia sv) x))) w w'):=by
 have u:=St.begin hF;have DD:=U.n;have hn:l.length<=1000000:=cK
 have sB:=U.at_;obtain⟨S5,S6⟩:=id h0;refine oM Tryz.func318 (pl:=au9) ?_;refine aE (aA kS (aB jN u.hb rfl (bV (aC (λV=>?_) λV=>?_))))
 .have B:((s,[]):fQ×List cA)=(G,x):=by unfold ru at I;rw[ew V]at I;exact oi.inj I
  cases B;have u:=(u.fu (Φ:=λw=>DL w (ia (bX:SV)) ([]:List cA)) λw=>DL.nil w).p1;exact(St.ek (bX:SV) (St.oy rfl (St.join u))).mut
 refine aE (aA iJ (have u:=u.drew;aB jq u.hb rfl (aE (aA fb (aB bM u.hb rfl ?_)))));obtain⟨R,O,E⟩:=ZH I cK;refine dO afE (C213 l _ s.at_ R _ (W _ u.aG) U cK O) ?_;rintro _ _ ⟨M,rfl,Z⟩;have u:=u.made Z;refine aO rfl (aO rfl (aO rfl (aO rfl (bV (aC (λJ=>?_) λJ=>?_)))))
 .refine aE (aA kS (aT u.p1 jN (dL rfl) (rfl) λ_ u=>aE (aA Az (aT u bM (dL rfl) (rfl) λ_ u=>?_))));have B:(({s with e:=R.2.2.1,pos:=R.2.2.2},[]):fQ×List cA)=(G,x):=by rw[ew J]at E;exact oi.inj E
  cases B;have u:=(u.p1.drop.fu (Φ:=λw=>DL w (ia (bX:SV)) ([]:List cA)) λw=>DL.nil w).p1;exact(St.ek (bX:SV) (St.oy rfl (St.join u))).mut
 have Y:=ZI E J;refine aE (aA fb (aT u.p1 bM (dL rfl) (rfl) λ_ u=>?_));have B:(({s with at_:=R.2.1},R.1):fQ×List cA)=(G,x):=by rw[ej J,ew Y]at E;exact oi.inj E
 cases B;have u:=u.p1.p1;exact(St.ek M (St.oy rfl (St.join u))).mut
def Oi(k at_:Int):bQ:=⟨k,⟨#[]⟩,⟨#[]⟩,[],[],0,0,0,at_⟩
abbrev Km:ByteArray:=⟨#[61]⟩
def VE(l:List bT)(s:fQ):fQ:=dT l (dB l s).1 (kh #[61])
def s2M(l:List bT)(s:fQ):fQ:=dT l (dB l (VE l s)).1 (kh #[44])
def lf(l:List bT)(s:fQ)(k a:Int):Option (fQ×bQ):=
 if k=1 then(ru l (VE l s)).bind λr=>some (r.1,{Oi k a with eF:=(dB l s).2,e:=r.2})
 else if k=2 then some ((dB l (VE l s)).1,{Oi k a with eF:=(dB l s).2,name:=(dB l (VE l s)).2})
 else if k=3 then(ru l (VE l s)).bind λr=>some (r.1,{Oi k a with name:=(dB l s).2,e:=r.2})
 else if k=4 then(ru l (s2M l s)).bind λr=>(ru l (dT l r.1 (kh #[44]))).bind λq=>some (q.1,{Oi k a with eF:=(dB l s).2,name:=(dB l (VE l s)).2,e:=r.2,f:=q.2})
 else if k=5\/k=6\/k=9\/k=10 then some ((dB l s).1,{Oi k a with name:=(dB l s).2})
 else if k=11\/k=14 then(ru l s).bind λr=>some (r.1,{Oi k a with e:=r.2})
 else if k=12 then some ((ld l s).1,{Oi k a with n:=(ld l s).2})
 else some (s,Oi k a)
section
variable {l:List bT}{s s':fQ}{k a:Int}{x:bQ}
theorem eS{α β γ:Type}{o:Option (α×β)}{g:α×β->Option γ}{c:γ}(h:o.bind g=some c):∃p q,o=some (p,q)/\g (p,q)=some c:=by
 cases o with
 | none=>cases h
 | some r=>grind
theorem S7(h:lf l s k a=some (s',x))(u:k=1):∃q e,ru l (VE l s)=some (q,e)/\s'=q/\x={Oi k a with eF:=(dB l s).2,e:=e}:=by
 unfold lf at h;rw[ew u]at h
 obtain⟨q,e,h1,h2⟩:=eS h
 grind
theorem S9(h:lf l s k a=some (s',x))(u:k=2):s'=(dB l (VE l s)).1/\x={Oi k a with eF:=(dB l s).2,name:=(dB l (VE l s)).2}:=by
 unfold lf at h;grind
theorem Ta(h:lf l s k a=some (s',x))(u:k=3):∃q e,ru l (VE l s)=some (q,e)/\s'=q/\x={Oi k a with name:=(dB l s).2,e:=e}:=by
 unfold lf at h;rw[ej cK,ej cK,ew u]at h
 obtain⟨q,e,h1,h2⟩:=eS h
 grind
theorem Tb(h:lf l s k a=some (s',x))(B:k=4):∃q e u f,ru l (s2M l s)=some (q,e)/\ru l (dT l q (kh #[44]))=some (u,f)/\s'=u/\x={Oi k a with eF:=(dB l s).2,name:=(dB l (VE l s)).2,e:=e,f:=f}:=by
 unfold lf at h;rw[ej cK,ej cK,ej cK,ew B]at h
 obtain⟨q,e,h1,h2⟩:=eS h
 obtain⟨u,f,h3,h4⟩:=eS h2
 grind
theorem Tc(h:lf l s k a=some (s',x))(u:k=5\/k=6\/k=9\/k=10):s'=(dB l s).1/\x={Oi k a with name:=(dB l s).2}:=by
 unfold lf at h;grind
theorem Nn(h:lf l s k a=some (s',x))(u:k=11\/k=14):∃q e,ru l s=some (q,e)/\s'=q/\x={Oi k a with e:=e}:=by
 unfold lf at h;rw[ej cK,ej cK,ej cK,ej cK,ej cK,ew u]at h
 obtain⟨q,e,h1,h2⟩:=eS h
 grind
theorem No(h:lf l s k a=some (s',x))(u:k=12):s'=(ld l s).1/\x={Oi k a with n:=(ld l s).2}:=by
 unfold lf at h;grind
theorem Np(h:lf l s k a=some (s',x))(h1:¬ k=1)(h2:¬ k=2)(h3:¬ k=3)(h4:¬ k=4)(h5:¬ (k=5\/k=6\/k=9\/k=10))(h6:¬ (k=11\/k=14))(u:¬ k=12):s'=s/\x=Oi k a:=by
 unfold lf at h;grind
end
def Co{l:List bT}{s s':fQ}{k a:Int}{x:bQ}(B:lI l s)(h:lf l s k a=some (s',x)):lI l s':=by
 have E:lI l (VE l s):=fI (gL B)
 have G:lI l (s2M l s):=fI (gL E)
 by_cases h1:k=1
 .obtain⟨q,e,u,rfl,_⟩:=S7 h h1;exact sS E u
 by_cases h2:k=2
 .obtain⟨rfl,_⟩:=S9 h h2;exact gL E
 by_cases h3:k=3
 .obtain⟨q,e,u,rfl,_⟩:=Ta h h3;exact sS E u
 by_cases h4:k=4
 .obtain⟨q,e,M,f,u,J,rfl,_⟩:=Tb h h4;exact sS (fI (sS G u)) J
 by_cases h5:k=5\/k=6\/k=9\/k=10
 .obtain⟨rfl,_⟩:=Tc h h5;exact gL B
 by_cases h6:k=11\/k=14
 .obtain⟨q,e,u,rfl,_⟩:=Nn h h6;exact sS B u
 by_cases I:k=12
 .obtain⟨rfl,_⟩:=No h I;exact UL B
 obtain⟨rfl,_⟩:=Np h h1 h2 h3 h4 h5 h6 I;exact B
def xJ{α σ:Type}[Flat σ][Deep α σ]{w w0:World}{A:Nat->Prop}{L:List HP}{B:HP}{u:σ}{x:α}(E:St w0 A (B::eD (λw=>mh w u x)::L) w) :
  St w0 A ((pK λs:σ=>fact (ia u=ia s) (sep B (eD λw=>mh w s x)))::L) w:=
 St.ek (H:=λs:σ=>fact (ia u=ia s) (sep B (eD λw=>mh w s x))) u (St.oy rfl (St.join E))
def C292(p:Nat)(lv ov:Value)(l:List bT)(s:fQ)(B a:Int)(Y:fQ)(x:bQ)(F:Nat->Prop)(w:World)(hF:(bY p (eo lv ov s)).p w F)(O:∀w',gv F w w'->dC (λ_=>True) w' lv l)(J:jm l)(M:lI l s)(hp:lf l s B a=some (Y,x)):CR 292 [(.pointer (some ⟨p,0,none⟩)),hZ B,hZ a] w (λv w'=>mR F (pK λsh:bE=>fact (v=ia sh) (sep (bY p (eo lv ov Y)) (eD λw=>mh w sh x))) w w'):=by
 have u:=St.begin hF;have DD:=J.n;have hn:l.length<=1000000:=cK
 have sB:=J.at_;obtain⟨S5,S6⟩:=id M;refine fg Tryz.func292 ?_;refine aM u jy (λPW _ u=>have u:=u.enc (cs':=j0 (⟨0,(kh #[]),(kh #[]),bX,bX,0,0,0,0⟩:bE)) rfl;pop (OL _ _) (aM u jy λxi _ u=>have u:=u.enc (cs':=j0 (⟨0,(kh #[]),(kh #[]),bX,bX,0,0,0,0⟩:bE)) rfl;aI (x:=(⟨B,(kh #[]),(kh #[]),bX,bX,0,0,0,a⟩:bE)) u eM rfl rfl λw3 u=>?_));refine⟨_,?_,λ_ h=>h⟩;refine aH (aC (λxd=>?_) λxd=>aH (aC (λm8=>?_) λm8=>aH (aC (λyV=>?_) λyV=>aH (aC (λvR=>?_) λvR=>⟨λjv w'=>jv=.bool (decide (B=5\/B=6\/B=9\/B=10))/\w3=w',aH (aC (λ_=>⟨vb dD,rfl⟩) λ_=>aH (aC (λ_=>⟨vb dD,rfl⟩) λ_=>aH (aC (λ_=>⟨vb dD,rfl⟩) λ_=>aH ⟨vb dD,rfl⟩))),?_⟩))))
 .obtain⟨q,e,U,rfl,rfl⟩:=S7 hp xd;refine bF D9 u.p2 (H':=λ_=>bY p (eo lv ov (dB l s).1)) (Φ:=λv _=>v=.string (dB l s).2) (λE I G=>?_) ?_
  .exact C317 p lv ov l s E _ I (λw' hc=>O w' (G w' hc).aG) J M
  rintro _ _ rfl u;refine aA iH (aT u.p1 gw (dL rfl) (rfl) λ_ u=>have u:=u.enc (cs':=j0 (⟨B,(dB l s).2,(kh #[]),bX,bX,0,0,0,a⟩:bE)) rfl;bF yH u.p1 (H':=λ_=>bY p (eo lv ov (dT l (dB l s).1 (kh #[61])))) (Φ:=λ_ _=>True) (λE I G=>?_) ?_)
  .exact(C257 p lv ov l (dB l s).1 (kh #[61]) E _ I (λw' hc=>O w' (G w' hc).aG) J (gL M)).mono λ_ _ r=>r.mono λ_ _ h=>⟨trivial,h.2⟩
  rintro _ _ _ u;refine bF KO u (H':=λv=>pK λsv:SV=>fact (v=ia sv) (sep (bY p (eo lv ov Y)) (eD λw=>DL w (ia sv) e))) (Φ:=λ_ _=>True) (λE I G=>?_) ?_
  .exact(C318 p lv ov l (dT l (dB l s).1 (kh #[61])) Y e E _ I (λw' hc=>O w' (G w' hc).aG) J (fI (gL M)) U).mono λ_ _ r=>r.mono λ_ _ h=>⟨trivial,h⟩
  rintro v_x20 _ _ V;obtain⟨Qt,W⟩:=V.eh
  clear V
  obtain⟨akh,Z⟩:=W.mz
  clear W
  subst akh;have u:=Z.split;refine aA iX (aT u.p2 jx (dL rfl) (rfl) λ_ u=>?_);have u:=u.enc (cs':=j0 (⟨B,(dB l s).2,(kh #[]),Qt,bX,0,0,0,a⟩:bE)) rfl;intro wA;exact aD eM u.At (aI (x:=(⟨B,(dB l s).2,(kh #[]),Qt,bX,0,0,0,a⟩:bE)) u.p3 eM rfl rfl λ_ u=>aD eM u.At (have u:=u.p3.dN (Ψ:=(λw=>mh w (⟨B,(dB l s).2,(kh #[]),Qt,bX,0,0,0,a⟩:bE) (⟨B,(dB l s).2,(kh #[]),e,[],0,0,0,a⟩:bQ))) (λ_ h=>⟨_,_,rfl,id h,DL.nil _⟩);have u:=u.p1.drop.p1.drop.p1;(xJ u).mut))
 .obtain⟨rfl,rfl⟩:=S9 hp m8;refine bF D9 u.p2 (H':=λ_=>bY p (eo lv ov (dB l s).1)) (Φ:=λv _=>v=.string (dB l s).2) (λE I G=>?_) ?_
  .exact C317 p lv ov l s E _ I (λw' hc=>O w' (G w' hc).aG) J M
  rintro _ _ rfl u;refine aA iH (aT u.p1 gw (dL rfl) (rfl) λ_ u=>have u:=u.enc (cs':=j0 (⟨B,(dB l s).2,(kh #[]),bX,bX,0,0,0,a⟩:bE)) rfl;bF yH u.p1 (H':=λ_=>bY p (eo lv ov (dT l (dB l s).1 (kh #[61])))) (Φ:=λ_ _=>True) (λE I G=>?_) ?_)
  .exact(C257 p lv ov l (dB l s).1 (kh #[61]) E _ I (λw' hc=>O w' (G w' hc).aG) J (gL M)).mono λ_ _ r=>r.mono λ_ _ h=>⟨trivial,h.2⟩
  rintro _ _ _ u;refine bF D9 u (H':=λ_=>bY p (eo lv ov (dB l (dT l (dB l s).1 (kh #[61]))).1)) (Φ:=λv _=>v=.string (dB l (dT l (dB l s).1 (kh #[61]))).2) (λE I G=>?_) ?_
  .exact C317 p lv ov l (dT l (dB l s).1 (kh #[61])) E _ I (λw' hc=>O w' (G w' hc).aG) J (fI (gL M))
  rintro _ _ rfl u;refine aA fZ (aT u.p1 gw (dL rfl) (rfl) λ_ u=>?_);have u:=u.enc (cs':=j0 (⟨B,(dB l s).2,(dB l (dT l (dB l s).1 (kh #[61]))).2,bX,bX,0,0,0,a⟩:bE)) rfl;intro wA;exact aD eM u.At (aI (x:=(⟨B,(dB l s).2,(dB l (dT l (dB l s).1 (kh #[61]))).2,bX,bX,0,0,0,a⟩:bE)) u.p2 eM rfl rfl λ_ u=>aD eM u.At (have u:=u.fu (Φ:=(λw=>mh w (⟨B,(dB l s).2,(dB l (dT l (dB l s).1 (kh #[61]))).2,bX,bX,0,0,0,a⟩:bE) (⟨B,(dB l s).2,(dB l (dT l (dB l s).1 (kh #[61]))).2,[],[],0,0,0,a⟩:bQ))) (λ_=>⟨_,_,rfl,DL.nil _,DL.nil _⟩);have u:=u.p1.drop.p1.drop.p1;(xJ u).mut))
 .obtain⟨q,e,U,rfl,rfl⟩:=Ta hp yV;refine bF D9 u.p2 (H':=λ_=>bY p (eo lv ov (dB l s).1)) (Φ:=λv _=>v=.string (dB l s).2) (λE I G=>?_) ?_
  .exact C317 p lv ov l s E _ I (λw' hc=>O w' (G w' hc).aG) J M
  rintro _ _ rfl u;refine aA fZ (aT u.p1 gw (dL rfl) (rfl) λ_ u=>have u:=u.enc (cs':=j0 (⟨B,(kh #[]),(dB l s).2,bX,bX,0,0,0,a⟩:bE)) rfl;bF yH u.p1 (H':=λ_=>bY p (eo lv ov (dT l (dB l s).1 (kh #[61])))) (Φ:=λ_ _=>True) (λE I G=>?_) ?_)
  .exact(C257 p lv ov l (dB l s).1 (kh #[61]) E _ I (λw' hc=>O w' (G w' hc).aG) J (gL M)).mono λ_ _ r=>r.mono λ_ _ h=>⟨trivial,h.2⟩
  rintro _ _ _ u;refine bF KO u (H':=λv=>pK λsv:SV=>fact (v=ia sv) (sep (bY p (eo lv ov Y)) (eD λw=>DL w (ia sv) e))) (Φ:=λ_ _=>True) (λE I G=>?_) ?_
  .exact(C318 p lv ov l (dT l (dB l s).1 (kh #[61])) Y e E _ I (λw' hc=>O w' (G w' hc).aG) J (fI (gL M)) U).mono λ_ _ r=>r.mono λ_ _ h=>⟨trivial,h⟩
  rintro v_x40 _ _ V;obtain⟨Qu,W⟩:=V.eh
  clear V
  obtain⟨aki,Z⟩:=W.mz
  clear W
  subst aki;have u:=Z.split;refine aA iX (aT u.p2 jx (dL rfl) (rfl) λ_ u=>?_);have u:=u.enc (cs':=j0 (⟨B,(kh #[]),(dB l s).2,Qu,bX,0,0,0,a⟩:bE)) rfl;intro wA;exact aD eM u.At (aI (x:=(⟨B,(kh #[]),(dB l s).2,Qu,bX,0,0,0,a⟩:bE)) u.p3 eM rfl rfl λ_ u=>aD eM u.At (have u:=u.p3.dN (Ψ:=(λw=>mh w (⟨B,(kh #[]),(dB l s).2,Qu,bX,0,0,0,a⟩:bE) (⟨B,(kh #[]),(dB l s).2,e,[],0,0,0,a⟩:bQ))) (λ_ h=>⟨_,_,rfl,id h,DL.nil _⟩);have u:=u.p1.drop.p1.drop.p1;(xJ u).mut))
 .obtain⟨q,e,q2,f,U,hfx,rfl,rfl⟩:=Tb hp vR;refine bF D9 u.p2 (H':=λ_=>bY p (eo lv ov (dB l s).1)) (Φ:=λv _=>v=.string (dB l s).2) (λE I G=>?_) ?_
  .exact C317 p lv ov l s E _ I (λw' hc=>O w' (G w' hc).aG) J M
  rintro _ _ rfl u;refine aA iH (aT u.p1 gw (dL rfl) (rfl) λ_ u=>have u:=u.enc (cs':=j0 (⟨B,(dB l s).2,(kh #[]),bX,bX,0,0,0,a⟩:bE)) rfl;bF yH u.p1 (H':=λ_=>bY p (eo lv ov (dT l (dB l s).1 (kh #[61])))) (Φ:=λ_ _=>True) (λE I G=>?_) ?_)
  .exact(C257 p lv ov l (dB l s).1 (kh #[61]) E _ I (λw' hc=>O w' (G w' hc).aG) J (gL M)).mono λ_ _ r=>r.mono λ_ _ h=>⟨trivial,h.2⟩
  rintro _ _ _ u;refine bF D9 u (H':=λ_=>bY p (eo lv ov (dB l (dT l (dB l s).1 (kh #[61]))).1)) (Φ:=λv _=>v=.string (dB l (dT l (dB l s).1 (kh #[61]))).2) (λE I G=>?_) ?_
  .exact C317 p lv ov l (dT l (dB l s).1 (kh #[61])) E _ I (λw' hc=>O w' (G w' hc).aG) J (fI (gL M))
  rintro _ _ rfl u;refine aA fZ (aT u.p1 gw (dL rfl) (rfl) λ_ u=>have u:=u.enc (cs':=j0 (⟨B,(dB l s).2,(dB l (dT l (dB l s).1 (kh #[61]))).2,bX,bX,0,0,0,a⟩:bE)) rfl;bF yH u.p1 (H':=λ_=>bY p (eo lv ov (dT l (dB l (dT l (dB l s).1 (kh #[61]))).1 (kh #[44])))) (Φ:=λ_ _=>True) (λE I G=>?_) ?_)
  .exact(C257 p lv ov l (dB l (dT l (dB l s).1 (kh #[61]))).1 (kh #[44]) E _ I (λw' hc=>O w' (G w' hc).aG) J (gL (fI (gL M)))).mono λ_ _ r=>r.mono λ_ _ h=>⟨trivial,h.2⟩
  rintro _ _ _ u;refine bF KO u (H':=λv=>pK λsv:SV=>fact (v=ia sv) (sep (bY p (eo lv ov q)) (eD λw=>DL w (ia sv) e))) (Φ:=λ_ _=>True) (λE I G=>?_) ?_
  .exact(C318 p lv ov l (dT l (dB l (dT l (dB l s).1 (kh #[61]))).1 (kh #[44])) q e E _ I (λw' hc=>O w' (G w' hc).aG) J (fI (gL (fI (gL M)))) U).mono λ_ _ r=>r.mono λ_ _ h=>⟨trivial,h⟩
  rintro v_x55 _ _ V;obtain⟨Fv,W⟩:=V.eh
  clear V
  obtain⟨akj,Z⟩:=W.mz
  clear W
  subst akj;have u:=Z.split;refine aA iX (aT u.p2 jx (dL rfl) (rfl) λ_ u=>have u:=u.enc (cs':=j0 (⟨B,(dB l s).2,(dB l (dT l (dB l s).1 (kh #[61]))).2,Fv,bX,0,0,0,a⟩:bE)) rfl;bF yH u.p1 (H':=λ_=>bY p (eo lv ov (dT l q (kh #[44])))) (Φ:=λ_ _=>True) (λE I G=>?_) ?_)
  .exact(C257 p lv ov l q (kh #[44]) E _ I (λw' hc=>O w' (G w' hc).aG) J (sS (fI (gL (fI (gL M)))) U)).mono λ_ _ r=>r.mono λ_ _ h=>⟨trivial,h.2⟩
  rintro _ _ _ u;refine bF KO u (H':=λv=>pK λsv:SV=>fact (v=ia sv) (sep (bY p (eo lv ov Y)) (eD λw=>DL w (ia sv) f))) (Φ:=λ_ _=>True) (λE I G=>?_) ?_
  .exact(C318 p lv ov l (dT l q (kh #[44])) Y f E _ I (λw' hc=>O w' (G w' hc).aG) J (fI (sS (fI (gL (fI (gL M)))) U)) hfx).mono λ_ _ r=>r.mono λ_ _ h=>⟨trivial,h⟩
  rintro v_x60 _ _ V;obtain⟨Ca,W⟩:=V.eh
  clear V
  obtain⟨akk,Z⟩:=W.mz
  clear W
  subst akk;have u:=Z.split;refine aA j6 (aT u.p2 jx (dL rfl) (rfl) λ_ u=>?_);have u:=u.enc (cs':=j0 (⟨B,(dB l s).2,(dB l (dT l (dB l s).1 (kh #[61]))).2,Fv,Ca,0,0,0,a⟩:bE)) rfl;intro wA;exact aD eM u.At (aI (x:=(⟨B,(dB l s).2,(dB l (dT l (dB l s).1 (kh #[61]))).2,Fv,Ca,0,0,0,a⟩:bE)) u.p4 eM rfl rfl λ_ u=>aD eM u.At (have u:=u.p4.p4.p1.gR.dN (Ψ:=(λw=>mh w (⟨B,(dB l s).2,(dB l (dT l (dB l s).1 (kh #[61]))).2,Fv,Ca,0,0,0,a⟩:bE) (⟨B,(dB l s).2,(dB l (dT l (dB l s).1 (kh #[61]))).2,e,f,0,0,0,a⟩:bQ))) (λ_ h=>⟨_,_,rfl,id h.1,id h.2⟩);have u:=u.p1.drop.p1.drop.p1;(xJ u).mut))
 rintro _ _ ⟨rfl,hw⟩ _;subst hw;refine aC (λR0=>?_) (λR0=>⟨λjv w'=>jv=.bool (decide (B=11\/B=14))/\w3=w',aH (aC (λ_=>⟨vb dD,rfl⟩) λ_=>aH ⟨vb dD,rfl⟩),?_⟩)
 .obtain⟨rfl,rfl⟩:=Tc hp R0;refine bF D9 u.p2 (H':=λ_=>bY p (eo lv ov (dB l s).1)) (Φ:=λv _=>v=.string (dB l s).2) (λE I G=>?_) ?_
  .exact C317 p lv ov l s E _ I (λw' hc=>O w' (G w' hc).aG) J M
  rintro _ _ rfl u;refine aA fZ (aT u.p1 gw (dL rfl) (rfl) λ_ u=>?_);have u:=u.enc (cs':=j0 (⟨B,(kh #[]),(dB l s).2,bX,bX,0,0,0,a⟩:bE)) rfl;intro wA;exact aD eM u.At (aI (x:=(⟨B,(kh #[]),(dB l s).2,bX,bX,0,0,0,a⟩:bE)) u.p2 eM rfl rfl λ_ u=>aD eM u.At (have u:=u.fu (Φ:=(λw=>mh w (⟨B,(kh #[]),(dB l s).2,bX,bX,0,0,0,a⟩:bE) (⟨B,(kh #[]),(dB l s).2,[],[],0,0,0,a⟩:bQ))) (λ_=>⟨_,_,rfl,DL.nil _,DL.nil _⟩);have u:=u.p1.drop.p1.drop.p1;(xJ u).mut))
 rintro _ _ ⟨rfl,hw⟩ _;subst hw;refine aC (λEN=>?_) (λEN=>aH (aC (λZK=>?_) λZK=>?_))
 .obtain⟨q,e,U,rfl,rfl⟩:=Nn hp EN;refine bF KO u.p2 (H':=λv=>pK λsv:SV=>fact (v=ia sv) (sep (bY p (eo lv ov Y)) (eD λw=>DL w (ia sv) e))) (Φ:=λ_ _=>True) (λE I G=>?_) ?_
  .exact(C318 p lv ov l s Y e E _ I (λw' hc=>O w' (G w' hc).aG) J M U).mono λ_ _ r=>r.mono λ_ _ h=>⟨trivial,h⟩
  rintro v_x74 _ _ V;obtain⟨Qv,W⟩:=V.eh
  clear V
  obtain⟨akl,Z⟩:=W.mz
  clear W
  subst akl;have u:=Z.split;refine aA iX (aT u.p2 jx (dL rfl) (rfl) λ_ u=>?_);have u:=u.enc (cs':=j0 (⟨B,(kh #[]),(kh #[]),Qv,bX,0,0,0,a⟩:bE)) rfl;intro wA;exact aD eM u.At (aI (x:=(⟨B,(kh #[]),(kh #[]),Qv,bX,0,0,0,a⟩:bE)) u.p3 eM rfl rfl λ_ u=>aD eM u.At (have u:=u.p3.dN (Ψ:=(λw=>mh w (⟨B,(kh #[]),(kh #[]),Qv,bX,0,0,0,a⟩:bE) (⟨B,(kh #[]),(kh #[]),e,[],0,0,0,a⟩:bQ))) (λ_ h=>⟨_,_,rfl,id h,DL.nil _⟩);have u:=u.p1.drop.p1.drop.p1;(xJ u).mut))
 .obtain⟨rfl,rfl⟩:=No hp ZK;refine bF anw u.p2 (H':=λ_=>bY p (eo lv ov (ld l s).1)) (Φ:=λv _=>v=hZ (ld l s).2) (λE I G=>?_) ?_
  .exact C319 p lv ov l s E _ I (λw' hc=>O w' (G w' hc).aG) J M
  rintro _ _ rfl u;refine aA jQ (aT u.p1 bM (dL rfl) (rfl) λ_ u=>?_);have u:=u.enc (cs':=j0 (⟨B,(kh #[]),(kh #[]),bX,bX,(ld l s).2,0,0,a⟩:bE)) rfl;intro wA;exact aD eM u.At (aI (x:=(⟨B,(kh #[]),(kh #[]),bX,bX,(ld l s).2,0,0,a⟩:bE)) u.p2 eM rfl rfl λ_ u=>aD eM u.At (have u:=u.fu (Φ:=(λw=>mh w (⟨B,(kh #[]),(kh #[]),bX,bX,(ld l s).2,0,0,a⟩:bE) (⟨B,(kh #[]),(kh #[]),[],[],(ld l s).2,0,0,a⟩:bQ))) (λ_=>⟨_,_,rfl,DL.nil _,DL.nil _⟩);have u:=u.p1.drop.p1.drop.p1;(xJ u).mut))
 obtain⟨rfl,rfl⟩:=Np hp xd m8 yV vR R0 EN ZK;intro wA;exact aD eM u.At (aI (x:=(⟨B,(kh #[]),(kh #[]),bX,bX,0,0,0,a⟩:bE)) u.p1 eM rfl rfl λ_ u=>aD eM u.At (have u:=u.fu (Φ:=(λw=>mh w (⟨B,(kh #[]),(kh #[]),bX,bX,0,0,0,a⟩:bE) (⟨B,(kh #[]),(kh #[]),[],[],0,0,0,a⟩:bQ))) (λ_=>⟨_,_,rfl,DL.nil _,DL.nil _⟩);have u:=u.p1.drop.p1.drop.p1;(xJ u).mut))
def iM(l:List bT)(a:Int):Nat->Int
 | 0=>1
 | n+1=>if tM l a (HU ((n:Int)+2))=true then(n:Int)+2 else iM l a n
theorem Td{l:List bT}{a:Int}:∀n:Nat,1<=iM l a n/\iM l a n<=(n:Int)+1
 | 0=>by unfold iM;omega
 | n+1=>by
  have:=Td (l:=l) (a:=a) n
  unfold iM
  omega
theorem Nq{l:List bT}{a:Int}:∀n:Nat,iM l a n=1\/∃t,tM l a t=true
 | 0=>.inl rfl
 | n+1=>by
  unfold iM
  split
  .grind
  .exact Nq n
def HV{l:List bT}{a:Int}{n:Nat}(h:tM l a (HU ((n:Int)+2))=true):iM l a (n+1)=(n:Int)+2:=ew h
def HW{l:List bT}{a:Int}{n:Nat}(h:¬ tM l a (HU ((n:Int)+2))=true):iM l a (n+1)=iM l a n:=ej h
def s1S(l:List bT)(s:fQ):fQ:=if iM l s.at_ 13≠1 then {s with at_:=s.at_+1}else s
def JQ{l:List bT}{s:fQ}(h:lI l s):lI l (s1S l s):=by
 unfold s1S
 split
 .rename_i h1
  rcases Nq (l:=l) (a:=s.at_) 13 with h2|⟨t,h2⟩
  .omega
  have:=sR h2
  exact⟨dD,dD⟩
 exact h
abbrev ag3:ByteArray:=⟨#[101,108,115,101]⟩
def kH(l:List bT)(u:Int)(s:fQ):Bool:=decide (u=11)&&decide (s.e=0)&&tM l s.at_ ag3
def UM(s:fQ):fQ:={s with at_:=s.at_+1}
abbrev aeo:=fQ->Int->Int->Option (fQ×List bQ)
def Dd(l:List bT)(bY:aeo)(s:fQ)(d lp:Int):Option (fQ×List bQ):=
 if iM l s.at_ 13=13/\lp=0 then some (jB l s 5,[])
 else(lf l (s1S l s) (iM l s.at_ 13) (nt l s.at_)).bind λr=>
  if iM l s.at_ 13≠11/\iM l s.at_ 13≠12 then some (dT l r.1 ⟨#[59]⟩,[r.2])
  else(bY r.1 (d+1) (if iM l s.at_ 13=12 then lp+1 else lp)).bind λq=>
   if kH l (iM l s.at_ 13) q.1=true then(bY (UM q.1) (d+1) lp).bind λt=>some (t.1,{r.2 with body:=(q.2.length:Int),eu:=(t.2.length:Int)}::(q.2++t.2))
   else some (q.1,{r.2 with body:=(q.2.length:Int)}::q.2)
section
variable {l:List bT}{bY:aeo}{s s':fQ}{d lp:Int}{add:List bQ}
theorem Te(h:Dd l bY s d lp=some (s',add))(hb:iM l s.at_ 13=13/\lp=0):s'=jB l s 5/\add=[]:=by
 unfold Dd at h;grind
theorem ZL(h:Dd l bY s d lp=some (s',add))(hb:¬ (iM l s.at_ 13=13/\lp=0)):∃u x,lf l (s1S l s) (iM l s.at_ 13) (nt l s.at_)=some (u,x)/\
  (if iM l s.at_ 13≠11/\iM l s.at_ 13≠12 then some (dT l u ⟨#[59]⟩,[x])
  else(bY u (d+1) (if iM l s.at_ 13=12 then lp+1 else lp)).bind λq=>
   if kH l (iM l s.at_ 13) q.1=true then(bY (UM q.1) (d+1) lp).bind λt=>some (t.1,{x with body:=(q.2.length:Int),eu:=(t.2.length:Int)}::(q.2++t.2))
   else some (q.1,{x with body:=(q.2.length:Int)}::q.2))=some (s',add):=by
 unfold Dd at h;rw[ej hb]at h
 obtain⟨p,q,h1,h2⟩:=eS h
 grind
theorem Tf{u:Int}{I:fQ}{x:bQ}(h:(if u≠11/\u≠12 then some (dT l I ⟨#[59]⟩,[x])
  else(bY I (d+1) (if u=12 then lp+1 else lp)).bind λq=>
   if kH l u q.1=true then(bY (UM q.1) (d+1) lp).bind λt=>some (t.1,{x with body:=(q.2.length:Int),eu:=(t.2.length:Int)}::(q.2++t.2))
   else some (q.1,{x with body:=(q.2.length:Int)}::q.2))=some (s',add)) (M:¬ (u≠11/\u≠12)) :
  ∃B E,bY I (d+1) (if u=12 then lp+1 else lp)=some (B,E)/\
   ((kH l u B=true/\∃J G,bY (UM B) (d+1) lp=some (J,G)/\s'=J/\add={x with body:=(E.length:Int),eu:=(G.length:Int)}::(E++G))\/
    (kH l u B=false/\s'=B/\add={x with body:=(E.length:Int)}::E)):=by
 rw[ej M]at h
 obtain⟨B,E,h1,h2⟩:=eS h
 refine⟨B,E,h1,?_⟩
 dsimp only at h2
 cases he:kH l u B with
 | true=>
  rw[he,ew rfl]at h2
  obtain⟨J,G,h3,h4⟩:=eS h2
  grind
 | false=>
  grind
theorem HX{u:Int}{B:fQ}{x:bQ}(h:(if u≠11/\u≠12 then some (dT l B ⟨#[59]⟩,[x])
  else(bY B (d+1) (if u=12 then lp+1 else lp)).bind λq=>
   if kH l u q.1=true then(bY (UM q.1) (d+1) lp).bind λt=>some (t.1,{x with body:=(q.2.length:Int),eu:=(t.2.length:Int)}::(q.2++t.2))
   else some (q.1,{x with body:=(q.2.length:Int)}::q.2))=some (s',add)) (E:u≠11/\u≠12):s'=dT l B ⟨#[59]⟩/\add=[x]:=by
 grind
end
abbrev CP:ByteArray:=⟨#[123]⟩
abbrev oF:ByteArray:=⟨#[125]⟩
def tP(l:List bT)(one:fQ->Option (fQ×List bQ)):Nat->fQ->Option (fQ×List bQ)
 | 0,_=>none
 | m+1,s=>if (decide (s.e=0)&&!tM l s.at_ oF)=true then(one s).bind λr=>(tP l one m r.1).bind λq=>some (q.1,r.2++q.2)else some (s,[])
def VF(l:List bT)(s:fQ)(d:Int):fQ:=if (decide (12<d)&&tM l s.at_ CP)=true then jB l s 7 else s
def Qw{l:List bT}{s:fQ}{d:Int}(h:lI l s):lI l (VF l s d):=by unfold VF;split;exact tO h;exact h
def VG(l:List bT):Nat->aeo
 | 0=>λ_ _ _=>none
 | k+1=>λs d lp=>(tP l (λs=>Dd l (VG l k) s d lp) 10000 (dT l (VF l s d) CP)).bind λr=>some (dT l r.1 oF,r.2)
section
variable {l:List bT}{one:fQ->Option (fQ×List bQ)}{s s':fQ}{d lp:Int}{add:List bQ}{m:Nat}
theorem HY(h:tP l one m s=some (s',add)):∃k,m=k+1:=by
 cases m with
 | zero=>cases h
 | succ k=>grind
theorem FJ(h:tP l one (m+1) s=some (s',add))(hb:(decide (s.e=0)&&!tM l s.at_ oF)=false):s'=s/\add=[]:=by
 unfold tP at h;grind
theorem JR(h:tP l one (m+1) s=some (s',add))(hb:(decide (s.e=0)&&!tM l s.at_ oF)=true):∃E B u,one s=some (E,B)/\tP l one m E=some (s',u)/\add=B++u:=by
 unfold tP at h;rw[hb,ew rfl]at h
 obtain⟨E,B,h1,h2⟩:=eS h
 obtain⟨G,u,h3,h4⟩:=eS h2
 grind
theorem ZM{k:Nat}(h:VG l (k+1) s d lp=some (s',add)):∃u,tP l (λs=>Dd l (VG l k) s d lp) 10000 (dT l (VF l s d) CP)=some (u,add)/\s'=dT l u oF:=by
 unfold VG at h
 obtain⟨u,B,h1,h2⟩:=eS h
 grind
end
def Qx{l:List bT}{bY:aeo}{s s':fQ}{d lp:Int}{add:List bQ}(hb:∀s d lp s' a,lI l s->bY s d lp=some (s',a)->lI l s')(G:lI l s)(h:Dd l bY s d lp=some (s',add)):lI l s':=by
 by_cases h1:iM l s.at_ 13=13/\lp=0
 .rw[(Te h h1).1];exact tO G
 obtain⟨O,x,h2,h3⟩:=ZL h h1
 have u:=Co (JQ G) h2
 by_cases h4:iM l s.at_ 13≠11/\iM l s.at_ 13≠12
 .rw[(HX h3 h4).1];exact fI u
 obtain⟨U,W,h5,h6⟩:=Tf h3 h4
 have I:=hb _ _ _ _ _ u h5
 rcases h6 with⟨B,V,M,J,E,_⟩|⟨_,E,_⟩
 .rw[E]
  refine hb _ _ _ _ _ ?_ J
  unfold kH at B
  rw[ob]at B
  have:=sR B.2
  grind[lI,UM]
 grind
theorem Tg{l:List bT}{one:fQ->Option (fQ×List bQ)}(B:∀s s' a,lI l s->one s=some (s',a)->lI l s'):∀{m:Nat}{s s':fQ}{add:List bQ},lI l s->tP l one m s=some (s',add)->lI l s'
 | 0,_,_,_,_,h=>by cases h
 | m+1,s,s',add,u,h=>by
  cases hb:(decide (s.e=0)&&!tM l s.at_ oF)with
  | false=>rw[(FJ h hb).1];exact u
  | true=>
   obtain⟨I,G,E,h1,h2,_⟩:=JR h hb
   exact Tg B (B _ _ _ u h1) h2
theorem Qy{l:List bT}:∀{k:Nat}{s s':fQ}{d lp:Int}{add:List bQ},lI l s->VG l k s d lp=some (s',add)->lI l s'
 | 0,_,_,_,_,_,_,h=>by cases h
 | k+1,s,s',d,lp,add,u,h=>by
  obtain⟨B,h1,h2⟩:=ZM h
  rw[h2]
  exact fI (Tg (λ_ _ _ a b=>Qx (λ_ _ _ _ _ c e=>Qy c e) a b) (fI (Qw u)) h1)
def pT(p:Nat)(lv:Value)(s:fQ)(out:List bQ)(Q:hM):HP:=pK λov:Value=>pK λts:List bE=>sep (bY p (eo lv ov s)) (sep (bH ov ts) (eD λw=>iq ts out w/\Q w))
section
variable {w0 w:World}{A:Nat->Prop}{L:List HP}{p:Nat}{lv:Value}{s:fQ}{out:List bQ}{Q:hM}
theorem pT.open(u:St w0 A (pT p lv s out Q::L) w):∃(ov:Value) (ts:List bE),St w0 A (bY p (eo lv ov s)::bH ov ts::eD (λw=>iq ts out w/\Q w)::L) w:=by
 obtain⟨ov,h1⟩:=u.eh
 obtain⟨ts,h2⟩:=h1.eh
 exact⟨ov,ts,h2.split.p1.split.p2⟩
theorem pT.shut{ov:Value}{ts:List bE}(u:St w0 A (bY p (eo lv ov s)::bH ov ts::eD (λw=>iq ts out w/\Q w)::L) w):St w0 A (pT p lv s out Q::L) w:=
 St.ek (H:=λov:Value=>pK λts:List bE=>sep (bY p (eo lv ov s)) (sep (bH ov ts) (eD λw=>iq ts out w/\Q w))) ov (St.ek (H:=λts:List bE=>sep (bY p (eo lv ov s)) (sep (bH ov ts) (eD λw=>iq ts out w/\Q w))) ts (St.join u.p2.p2.join.p1))
end
def akm(l:List bT)(k:Nat):Prop:=∀(p:Nat) (lv:Value) (s:fQ) (d lp:Int) (out:List bQ) (u:fQ) (add:List bQ) (Q:hM) (F:Nat->Prop) (w:World),
 (pT p lv s out Q).p w F->(∀w',gv F w w'->dC (λ_=>True) w' lv l)->lI l s->0<=d/\d+k<=1001->0<=lp/\lp+k<=1001->out.length+add.length<=1000000->VG l k s d lp=some (u,add)->
 Calls hH 293 [.pointer (some ⟨p,0,none⟩),hZ d,hZ lp].toArray w (tV λv w'=>v=hZ (add.length:Int)/\mR F (pT p lv u (out++add) Q) w w')
def aep{w:World}{u:bE}{x:bQ}(h:mh w u x):DL w (ia u.e) x.e:=by obtain⟨_,_,rfl,h,_⟩:=h;exact h
def aeq{w:World}{u:bE}{x:bQ}(h:mh w u x):DL w (ia u.f) x.f:=by obtain⟨_,_,rfl,_,h⟩:=h;exact h
def Qz{l:List bT}{u:Int}{s:fQ}(h:kH l u s=true):lI l (UM s):=by
 unfold kH at h
 rw[ob]at h
 have:=sR h.2
 grind[lI,UM]
def aer{α σ:Type}[Flat σ][Deep α σ]{w:World}{ts:List σ}{xs:List α}{i:Nat}{t:σ}{x:α}(h:iq ts xs w)(ht:mh w t x):iq (ts.set i t) (xs.set i x) w:=by
 grind[iq]
theorem ZN{α:Type}{a b:List α}{x y:α}:(a++x::b).set a.length y=a++y::b:=by
 grind
def C256(p:Nat)(lv:Value)(l:List bT)(s:fQ)(k:Nat)(d lp:Int)(out:List bQ)(s2:fQ)(add:List bQ)(Q:hM)(F:Nat->Prop)(w:World)(hF:(pT p lv s out Q).p w F)(W:∀w',gv F w w'->dC (λ_=>True) w' lv l)(hk:jm l)(h0:lI l s)(HB:akm l k)(hd:0<=d/\d+k<=1000)(hlp:0<=lp/\lp+k<=1000)(Gs:out.length+add.length<=1000000)(hr:Dd l (VG l k) s d lp=some (s2,add)):CR 256 [(.pointer (some ⟨p,0,none⟩)),hZ d,hZ lp] w (λv w'=>v=.tuple #[]/\mR F (pT p lv s2 (out++add) Q) w w'):=by
 have u:=St.begin hF;obtain⟨ov,ts,u⟩:=pT.open u;have N9:ts.length=out.length:=u.p2.eD.1.1;have DD:=hk.n;have hn:l.length<=1000000:=cK
 have sB:=hk.at_;obtain⟨S5,S6⟩:=id h0;refine ab2 _ _ _ _ _ ?_;unfold S256;refine aE (aA iJ (have u:=u.drew;aB jq u.hb rfl (aE (aA fb (aB bM u.hb rfl (aV GQ u (C214 _ l s.at_ _ (W _ u.aG) hn sB) λ_ he u=>?_))))));have u:=u.p2.p2.p2;refine⟨λmm a b w'=>∃j:Nat,a=hZ (iM l s.at_ j)/\b=hZ ((j:Int)+2)/\mm=13-j/\j<=13/\St w F [bY p (eo lv ov s),bH ov ts,eD λw=>iq ts out w/\Q w] w',⟨_,0,rfl,rfl,rfl,l1 _,u⟩,?_⟩;rintro mm _ _ w2 ⟨j,rfl,rfl,rfl,hj,u⟩ _;refine iE (aC (λiP=>?_) λiP=>?_)
 .refine⟨_,?_,λ_ _ h=>h⟩;refine aE (aA iJ (have u:=u.drew;aB jq u.hb rfl (aE (aA fb (aB bM u.hb rfl (aV anl u (C290 ((j:Int)+2) _ cK) λ_ he u=>?_))))));refine⟨aF jq (u.hb.cell rfl),?_⟩;refine⟨aF bM (u.hb.cell rfl),?_⟩;refine aV vQ u (C209 _ l s.at_ (HU ((j:Int)+2)) _ (W _ u.aG) hn) (λ_ he u=>aY (λmg=>?_) λmg=>?_)
  .intro vS;refine aN cK ?_;exact⟨_,cK,j+1,gO (ni .i64) (by first|exact(HV mg).symm|exact(HW (by rw[mg];simp)).symm),gO (ni .i64) cK,rfl,cK,u⟩
  .intro vS;refine aN cK ?_;exact⟨_,cK,j+1,gO (ni .i64) (by first|exact(HV mg).symm|exact(HW (by rw[mg];simp)).symm),gO (ni .i64) cK,rfl,cK,u⟩
 .obtain rfl:j=13:=cK
  have W9:=Td (l:=l) (a:=s.at_) 13;refine⟨λY w'=>Y=.bool (decide ((iM l s.at_ 13)=13/\lp=0))/\w2=w',?_,?_⟩
  .refine aH (aC (λrk=>?_) λrk=>?_)
   .refine aH ?_;exact⟨yF cK,rfl⟩
   .exact⟨jvF cK,rfl⟩
  .rintro _ _ ⟨rfl,hw⟩ _;subst hw;refine aC (λqE=>?_) (λqE=>?_)
   .refine bF GS u (H':=λ_=>bY p (eo lv ov (jB l s 5))) (Φ:=λ_ _=>True) (λM U O=>?_) ?_
    .exact(C291 p lv ov l s 5 M _ U (λw' hc=>W w' (O w' hc).aG) hk h0).mono λ_ _ r=>r.mono λ_ _ h=>⟨trivial,h.2⟩
    rintro _ _ _ u;obtain⟨e1,e2⟩:=Te hr qE;rw[e1,e2,pL];exact⟨rfl,(pT.shut u).mut⟩
   .refine⟨λw'=>St w F [bY p (eo lv ov (s1S l s)),bH ov ts,eD λw=>iq ts out w/\Q w] w',?_,?_⟩
    .refine bV (aC (λwZ=>?_) λwZ=>?_)
     .refine aE (aA fb (aB bM u.hb rfl (aN cK (aE (aA fb (aT u bM (dL rfl) (rfl) λ_ u=>?_))))));have u:=u.p2.p2.p2;have Un:(s1S l s)={s with at_:=s.at_+1}:=by unfold s1S;rw[ew cK]
      rw[Un];exact u
     .have u:=u.p2.p2.p2;have Un:(s1S l s)=s:=by unfold s1S;rw[ej cK]
      rw[Un];exact u
    .intro _ u _;obtain⟨q,x,oG,Dl⟩:=ZL hr qE;refine bF anm u (H':=λv=>pK λsh:bE=>fact (v=ia sh) (sep (bY p (eo lv ov q)) (eD λw=>mh w sh x))) (Φ:=λ_ _=>True) (λM U O=>?_) ?_
     .exact(C292 p lv ov l (s1S l s) (iM l s.at_ 13) (nt l s.at_) q x M _ U (λw' hc=>W w' (O w' hc).aG) hk (JQ h0) oG).mono λ_ _ r=>r.mono λ_ _ h=>⟨trivial,h⟩
     rintro v_x58 _ _ xw;obtain⟨ayh,y9⟩:=xw.eh
     clear xw
     obtain⟨akn,DN⟩:=y9.mz
     clear y9
     subst akn;have u:=DN.split
     clear DN
     obtain⟨E,B,ako,hde,hdf⟩:=u.p1.eD;subst ako;refine aM u jy (λBU _ u=>have u:=u.enc (cs':=j0 (⟨0,(kh #[]),(kh #[]),bX,bX,0,0,0,0⟩:bE)) rfl;aI (x:=(⟨x.kind,x.eF,x.name,E,B,x.n,x.body,x.eu,x.at_⟩:bE)) u eM rfl rfl λ_ u=>aE (aA qu (aB jP u.p1.hb rfl (aK fq u.p3.dX (aE (aA qu (have u:=u.drew;aB jP u.p1.hb rfl (aD eM u.At (bD ([(⟨x.kind,x.eF,x.name,E,B,x.n,x.body,x.eu,x.at_⟩:bE)]) u fq rfl rfl (dL rfl) λagO _ u=>?_)))))))))
     refine⟨aF jP (u.p2.hb.cell rfl),?_⟩;have akp:=u.dX;refine bJ u.p4 fq akp (by simp;omega) ee (λTh _ u=>have u:=u.p1.drop;aE (aA qu (aT u.p2 jP (dL rfl) u.dX.one λ_ u=>?_)));refine⟨λY w'=>Y=.bool (decide ((iM l s.at_ 13)≠11/\(iM l s.at_ 13)≠12))/\St w F [bY p (eo lv Th q),bH Th (ts++[(⟨x.kind,x.eF,x.name,E,B,x.n,x.body,x.eu,x.at_⟩:bE)]),eD (λw=>iq (ts++[(⟨x.kind,x.eF,x.name,E,B,x.n,x.body,x.eu,x.at_⟩:bE)]) (out++[x]) w/\(λw=>Q w/\mh w (⟨x.kind,x.eF,x.name,E,B,x.n,x.body,x.eu,x.at_⟩:bE) x) w),bY BU (j0 (⟨x.kind,x.eF,x.name,E,B,x.n,x.body,x.eu,x.at_⟩:bE))] w',?_,?_⟩
     .refine bV (aC (λarq=>?_) λarq=>?_)
      .refine bV ?_;have u:=u.p3.p4.gR.dN (Ψ:=λw=>iq (ts++[(⟨x.kind,x.eF,x.name,E,B,x.n,x.body,x.eu,x.at_⟩:bE)]) (out++[x]) w/\(λw=>Q w/\mh w (⟨x.kind,x.eF,x.name,E,B,x.n,x.body,x.eu,x.at_⟩:bE) x) w) (λ_ h=>⟨h.1.1.snoc h.2,h.1.2,h.2⟩);have u:=u.p3.p1.p3.p3;exact⟨vb dD,u⟩
      .have u:=u.p3.p4.gR.dN (Ψ:=λw=>iq (ts++[(⟨x.kind,x.eF,x.name,E,B,x.n,x.body,x.eu,x.at_⟩:bE)]) (out++[x]) w/\(λw=>Q w/\mh w (⟨x.kind,x.eF,x.name,E,B,x.n,x.body,x.eu,x.at_⟩:bE) x) w) (λ_ h=>⟨h.1.1.snoc h.2,h.1.2,h.2⟩);have u:=u.p3.p1.p3.p3;exact⟨vb dD,u⟩
     .rintro _ w16 ⟨rfl,u⟩ _;refine aC (λRZ=>?_) (λRZ=>?_)
      .refine bF yH u (H':=λ_=>bY p (eo lv Th (dT l q (kh #[59])))) (Φ:=λ_ _=>True) (λM U O=>?_) ?_
       .exact(C257 p lv Th l q (kh #[59]) M _ U (λw' hc=>W w' (O w' hc).aG) hk (Co (JQ h0) oG)).mono λ_ _ r=>r.mono λ_ _ h=>⟨trivial,h.2⟩
       rintro _ _ _ u;have u:=u.p3.drop.p1.p1.p2.dN (Ψ:=λw=>iq (ts++[(⟨x.kind,x.eF,x.name,E,B,x.n,x.body,x.eu,x.at_⟩:bE)]) (out++[x]) w/\Q w) (λ_ h=>⟨h.1,h.2.1⟩);have u:=u.p2.p2;obtain⟨e1,e2⟩:=HX Dl RZ;rw[e1,e2];exact⟨rfl,(pT.shut u).mut⟩
      .refine⟨λY w'=>Y=hZ (if (iM l s.at_ 13)=12 then lp+1 else lp)/\w16=w',?_,?_⟩
       .refine aH (aC (λars=>?_) λars=>?_)
        .refine aN cK ?_;exact⟨by rw[ew cK],rfl⟩
        .exact⟨by rw[ej cK],rfl⟩
       .rintro _ _ ⟨rfl,hw⟩ _;subst hw;refine aN cK ?_;have u:=pT.shut u.p2.p2.p2;obtain⟨V,I,Kj,Vs⟩:=Tf Dl RZ;have hm1:I.length<add.length:=by rcases Vs with⟨_,s5,m2,_,_,e⟩|⟨_,_,e⟩<;>rw[e]<;>simp<;>omega
        refine bF afM u (H':=λ_=>pT p lv V ((out++[x])++I) λw=>Q w/\mh w (⟨x.kind,x.eF,x.name,E,B,x.n,x.body,x.eu,x.at_⟩:bE) x) (Φ:=λv _=>v=hZ (I.length:Int)) (λM U O=>?_) ?_
        .exact HB p lv q (d+1) (if (iM l s.at_ 13)=12 then lp+1 else lp) (out++[x]) V I (λw=>Q w/\mh w (⟨x.kind,x.eF,x.name,E,B,x.n,x.body,x.eu,x.at_⟩:bE) x) M _ U (λw' hc=>W w' (O w' hc).aG) (Co (JQ h0) oG) cK (by split<;>omega) (by rw[la,mv];omega) Kj
        rintro _ _ rfl u;obtain⟨ov3,vw,u⟩:=pT.open u;refine aA iY (aT u.p3 bM (dL rfl) (rfl) λ_ u=>?_);have u:=u.enc (cs':=j0 (⟨x.kind,x.eF,x.name,E,B,x.n,(I.length:Int),x.eu,x.at_⟩:bE)) rfl;refine⟨λw'=>∃(bd el:Int) (rest:List bQ),add={x with body:=bd,eu:=el}::rest/\St w F [pT p lv s2 ((out++[x])++rest) (λw=>Q w/\mh w (⟨x.kind,x.eF,x.name,E,B,x.n,x.body,x.eu,x.at_⟩:bE) x),bY BU (j0 (⟨x.kind,x.eF,x.name,E,B,x.n,bd,el,x.at_⟩:bE))] w',?_,?_⟩
        .refine⟨λY w'=>Y=.bool (kH l (iM l s.at_ 13) V)/\St w F [bY p (eo lv ov3 V),bH ov3 vw,eD (λw=>iq vw ((out++[x])++I) w/\(λw=>Q w/\mh w (⟨x.kind,x.eF,x.name,E,B,x.n,x.body,x.eu,x.at_⟩:bE) x) w),bY BU (j0 (⟨x.kind,x.eF,x.name,E,B,x.n,(I.length:Int),x.eu,x.at_⟩:bE))] w',?_,?_⟩
         .refine aH (aC (λHZ=>?_) λHZ=>?_)
          .refine aE (aA kS (have u:=u.drew;aB jN u.p1.hb rfl (aH (aC (λBZ=>?_) λBZ=>?_))))
           .refine aE (aA iJ (aB jq u.p1.hb rfl (aE (aA fb (aB bM u.p1.hb rfl (aV vQ u (C209 _ l V.at_ (kh #[101,108,115,101]) _ (W _ u.aG) hn) λ_ he u=>?_))))));have u:=u.p3.p3.p3;exact⟨vb (by unfold kH;rw[ez HZ,ez BZ];rfl),u⟩
           .have u:=u.p3.p3.p3;exact⟨vb (by unfold kH;first|(rw[fN HZ];rfl)|(rw[ez HZ,fN BZ];rfl)),u⟩
          .have u:=u.drew.p3.p3.p3;exact⟨vb (by unfold kH;first|(rw[fN HZ];rfl)|(rw[ez HZ,fN BZ];rfl)),u⟩
         .rintro _ _ ⟨rfl,u⟩ _;refine aY (λG=>?_) (λG=>?_)
          .obtain⟨J,s5,m2,hb2,e5,tY⟩|⟨J,_⟩:=Vs
           rotate_left
           .rw[J]at G;cases G
           subst e5;have hin3:=sR (show tM l V.at_ ag3=true by unfold kH at G;rw[ob]at G;exact G.2);refine aE (aA fb (aB bM u.hb rfl (aN cK (aE (aA fb (aT u bM (dL rfl) (rfl) λ_ u=>aN cK ?_))))));have u:=pT.shut (s:=UM V) u.p2.p2.p2;have hkd11:(iM l s.at_ 13)=11:=by unfold kH at G;simp at G;exact G.1.1
           rw[ej (show ¬ (iM l s.at_ 13)=12 by omega)];refine bF afM u (H':=λ_=>pT p lv s2 (((out++[x])++I)++m2) λw=>Q w/\mh w (⟨x.kind,x.eF,x.name,E,B,x.n,x.body,x.eu,x.at_⟩:bE) x) (Φ:=λv _=>v=hZ (m2.length:Int)) (λM U O=>?_) ?_
           .exact HB p lv (UM V) (d+1) lp ((out++[x])++I) s2 m2 (λw=>Q w/\mh w (⟨x.kind,x.eF,x.name,E,B,x.n,x.body,x.eu,x.at_⟩:bE) x) M _ U (λw' hc=>W w' (O w' hc).aG) (Qz G) cK cK (by have:=gO List.length tY;simp at this |-;omega) hb2
           rintro _ _ rfl u;rw[n3 (out++[x])]at u;refine aA iI (aT u.p1 bM (dL rfl) (rfl) λ_ u=>?_);have u:=u.enc (cs':=j0 (⟨x.kind,x.eF,x.name,E,B,x.n,(I.length:Int),(m2.length:Int),x.at_⟩:bE)) rfl;have u:=u.p1;exact⟨_,_,_,tY,u⟩
          .obtain⟨J,_⟩|⟨J,e5,tY⟩:=Vs
           .rw[J]at G;cases G
           subst e5;have u:=((pT.shut u.p2.p2.p2).p1).p1;exact⟨(I.length:Int),x.eu,I,tY,u⟩
        .rintro _ ⟨bd,el,rest,tY,u⟩ _;obtain⟨ov5,Z,u⟩:=pT.open u;refine aE (aA qu (have u:=u.drew;aB jP u.hb rfl (aD eM u.p3.At ?_)));have h5l:Z.length=(out++[x]++rest).length:=u.p2.eD.1.1;have h6l:=gO List.length tY;simp only[la,oE,IF]at h5l h6l;obtain⟨ayi,atw⟩:=gx Z (i:=(ts.length:Int).toNat) cK;refine dR u.p1 fq cK cK (λ_ akq=>ju _ u.p1 eM akq cK λ_ u=>?_);have u:=u.p3.drop.p1.p2.dN (Ψ:=λw=>iq (Z.set (ts.length:Int).toNat (⟨x.kind,x.eF,x.name,E,B,x.n,bd,el,x.at_⟩:bE)) (out++add) w/\Q w) (λ_ h=>⟨by
  have hh:=aer (i:=(ts.length:Int).toNat) (t:=(⟨x.kind,x.eF,x.name,E,B,x.n,bd,el,x.at_⟩:bE)) (x:={x with body:=bd,eu:=el}) h.1 ⟨E,B,rfl,aep (x:=x) h.2.2,aeq (x:=x) h.2.2⟩;rw[show(ts.length:Int).toNat=out.length from cK,n3,List.singleton_append,ZN]at hh
  rw[tY,show(ts.length:Int).toNat=out.length from cK];exact hh,h.2.1⟩)
         have u:=u.p2.p2;exact⟨rfl,(pT.shut u).mut⟩
def C293(p:Nat)(lv:Value)(l:List bT)(s:fQ)(k:Nat)(d lp:Int)(out:List bQ)(s2:fQ)(add:List bQ)(Q:hM)(F:Nat->Prop)(w:World)(hF:(pT p lv s out Q).p w F)(M:∀w',gv F w w'->dC (λ_=>True) w' lv l)(O:jm l)(V:lI l s)(HB:akm l k)(hd:0<=d/\d+k<=1000)(hlp:0<=lp/\lp+k<=1000)(Gs:out.length+add.length<=1000000)(hr:VG l (k+1) s d lp=some (s2,add)):CR 293 [(.pointer (some ⟨p,0,none⟩)),hZ d,hZ lp] w (λv w'=>v=hZ (add.length:Int)/\mR F (pT p lv s2 (out++add) Q) w w'):=by
 have u:=St.begin hF;obtain⟨ov,ts,u⟩:=pT.open u;have N9:ts.length=out.length:=u.p2.eD.1.1;obtain⟨s9,Y0,e2⟩:=ZM hr;have DD:=O.n;have hn:l.length<=1000000:=cK
 have sB:=O.at_;obtain⟨S5,S6⟩:=id V;refine oM Tryz.func293 (pl:=au1) ?_;refine aE (aA qu (aB jP u.hb rfl (aK fq u.p1.dX ⟨λw'=>St w F [bY p (eo lv ov (VF l s d)),bH ov ts,eD λw=>iq ts out w/\Q w] w',⟨λZ w'=>Z=.bool (decide (12<d)&&tM l s.at_ CP)/\St w F [bY p (eo lv ov s),bH ov ts,eD λw=>iq ts out w/\Q w] w',cO (aC (λ_=>aE (aA iJ (have u:=u.drew;aB jq u.hb rfl (aE (aA fb (aB bM u.hb rfl (aV vQ u (C209 _ l s.at_ (kh #[123]) _ (M _ u.aG) hn) λ_ _ u=>⟨vb (by first|(rw[ez (show 12<d by omega)];rfl)|(rw[fN (show ¬ 12<d by omega)];rfl)),u⟩))))))) λ_=>have u:=u.drew;⟨vb (by first|(rw[ez (show 12<d by omega)];rfl)|(rw[fN (show ¬ 12<d by omega)];rfl)),u⟩),?_⟩,?_⟩)))
 .rintro _ _ ⟨rfl,u⟩ _;refine aY (λjE=>?_) (λjE=>?_)
  .refine bF GS u (H':=λ_=>bY p (eo lv ov (jB l s 7))) (Φ:=λ_ _=>True) (λG J I=>?_) ?_
   .exact(C291 p lv ov l s 7 G _ J (λw' hc=>M w' (I w' hc).aG) O V).mono λ_ _ r=>r.mono λ_ _ h=>⟨trivial,h.2⟩
   rintro _ _ _ u;have u:=u.p2.p2.p2;have h7:VF l s d=jB l s 7:=by unfold VF;rw[ew jE]
   rw[h7];exact u
  have u:=u.p2.p2.p2;have h7:VF l s d=s:=by unfold VF;rw[ej (by rw[jE];simp)]
  rw[h7];exact u
 intro _ u _;refine bF yH u (H':=λ_=>bY p (eo lv ov (dT l (VF l s d) (kh #[123])))) (Φ:=λ_ _=>True) (λG J I=>?_) ?_
 .exact(C257 p lv ov l (VF l s d) (kh #[123]) G _ J (λw' hc=>M w' (I w' hc).aG) O (Qw V)).mono λ_ _ r=>r.mono λ_ _ h=>⟨trivial,h.2⟩
 rintro _ _ _ u;have u:=pT.shut (s:=dT l (VF l s d) CP) u.p2.p2.p2;refine⟨λmm w'=>∃(B:fQ) (E a2:List bQ),lI l B/\tP l (λs=>Dd l (VG l k) s d lp) mm B=some (s9,a2)/\add=E++a2/\St w F [pT p lv B (out++E) Q] w',⟨10000,_,[],add,fI (Qw V),Y0,rfl,by rw[pL];exact u⟩,?_⟩;rintro mm _ ⟨B,E,a2,Nr,Kj,W,u⟩ _;obtain⟨m,rfl⟩:=HY Kj;obtain⟨Y,W5,u⟩:=pT.open u;have aes:W5.length=(out++E).length:=u.p2.eD.1.1;rw[la]at aes;refine⟨λZ w'=>Z=.bool (decide (B.e=0)&&!tM l B.at_ oF)/\St w F [bY p (eo lv Y B),bH Y W5,eD λw=>iq W5 (out++E) w/\Q w] w',aE (aA kS (have u:=u.drew;aB jN u.hb rfl (aH (aC (λU=>aE (aA iJ (aB jq u.hb rfl (aE (aA fb (aB bM u.hb rfl (aV vQ u (C209 _ l B.at_ (kh #[125]) _ (M _ u.aG) hn) λ_ _ u=>bR (have u:=u.p2.p2.p2;⟨vb (by first|(rw[ez U];rfl)|(rw[fN U];rfl)),u⟩)))))))) λU=>have u:=u.p2.p2.p2;⟨vb (by first|(rw[ez U];rfl)|(rw[fN U];rfl)),u⟩)))),?_⟩
 rintro _ _ ⟨rfl,u⟩ _;refine aY (λwZ=>?_) (λwZ=>?_)
 .obtain⟨s3,a1,a3,ho,hb3,rfl⟩:=JR Kj wZ;have u:=pT.shut u.p2.p2.p2;refine bF afK u (H':=λ_=>pT p lv s3 ((out++E)++a1) Q) (Φ:=λ_ _=>True) (λG J I=>?_) ?_
  .exact(C256 p lv l B k d lp (out++E) s3 a1 Q G _ J (λw' hc=>M w' (I w' hc).aG) O Nr HB cK cK (by have:=gO List.length W;simp at this |-;omega) ho).mono λ_ _ r=>r.mono λ_ _ h=>⟨trivial,h.2⟩
  rintro _ _ _ u;exact⟨_,cK,s3,E++a1,a3,Qx (λ_ _ _ _ _ c e=>Qy c e) Nr ho,hb3,by rw[W,n3],by rw[<- n3];exact u⟩
 obtain⟨e9,rfl⟩:=FJ Kj wZ;replace e9:=e9.symm;subst e9;rw[pL]at W;subst W;refine bF yH u (H':=λ_=>bY p (eo lv Y (dT l B (kh #[125])))) (Φ:=λ_ _=>True) (λG J I=>?_) ?_
 .exact(C257 p lv Y l B (kh #[125]) G _ J (λw' hc=>M w' (I w' hc).aG) O Nr).mono λ_ _ r=>r.mono λ_ _ h=>⟨trivial,h.2⟩
 rintro _ _ _ u;refine aE (aA qu (aB jP u.hb rfl (aK fq u.p1.dX (fh cK ?_))));rw[e2];exact⟨gO (ni .i64) cK,(pT.shut u).mut⟩
theorem aru{l:List bT}(B:jm l):∀k,akm l k
 | 0=>λp lv s d lp out u add Q F w _ _ _ _ _ _ h=>by cases h
 | k+1=>λp lv s d lp out u add Q F w M E J O G I h=>C293 p lv l s k d lp out u add Q F w M E B J (aru B k) cK cK I h
def uo(i:Int):fQ:=⟨i,0,0⟩
def FK(l:List bT)(i op:Int):Option (List bQ×Int×Int×Int):=
 (tP l (λs=>Dd l (VG l 20) s 0 0) 10000 (uo i)).bind λr=>
  if 1000000<r.2.length then none else if (dT l r.1 oF).e≠0 then some ([],0,(dT l r.1 oF).e,(dT l r.1 oF).pos)
  else if 40<r.2.length then some ([],0,2,(pF l op).at_)
  else some (r.2,(dT l r.1 oF).at_,0,0)
def JS(l:List bT)(s:fQ):Bool:=match l6 l s.at_ with|some t=>decide (t.kind=2)|none=>false
def jL(l:List bT)(nb:Bool)(s:fQ):fQ×cJ:=
 if (nb&&(iG l (fc l s).1 Km).2)=true then
  (if JS l (iG l (fc l s).1 Km).1=true then(UM (iG l (fc l s).1 Km).1,{ (fc l s).2 with n:=(pF l (iG l (fc l s).1 Km).1.at_).n})
  else(jB l (iG l (fc l s).1 Km).1 5,(fc l s).2))
 else fc l s
abbrev Cp:ByteArray:=⟨#[44]⟩
abbrev Tj:ByteArray:=⟨#[59]⟩
def qc(l:List bT)(nb:Bool):Nat->Bool->fQ->Option (fQ×List cJ)
 | 0,_,_=>none
 | m+1,more,s=>if (more&&decide (s.e=0))=true then(qc l nb m (iG l (jL l nb s).1 Cp).2 (iG l (jL l nb s).1 Cp).1).bind λr=>some (r.1,(jL l nb s).2::r.2)else some (s,[])
def nu(l:List bT)(nb:Bool)(s:fQ):Option (fQ×List cJ):=(qc l nb 10000 true s).bind λr=>if 1000000<r.2.length then none else some (dT l r.1 Tj,r.2)
abbrev UN:ByteArray:=⟨#[114,101,103]⟩
def Bj(l:List bT)(s:fQ):Option (fQ×List ByteArray):=
 if (iG l s UN).2=true then(nu l false (iG l s UN).1).bind λr=>some (r.1,r.2.map cJ.name)else some (s,[])
def tQ(l:List bT)(s:fQ)(nm:ByteArray)(a:Int):Option (fQ×cN):=
 (Bj l (dT l s CP)).bind λr=>
  if r.1.e≠0 then some (r.1,⟨nm,r.2,[],a⟩)
  else(FK l r.1.at_ s.at_).bind λR=>if 0<=R.2.1/\R.2.1<=l.length then some (⟨R.2.1,R.2.2.1,R.2.2.2⟩,⟨nm,r.2,R.1,a⟩)else none
def xK(l:List bT)(s:fQ)(a:Int):Option (fQ×gS):=
 (wc l s.at_).bind λR=>if R.2.2.1≠0 then some ({s with e:=R.2.2.1,pos:=R.2.2.2},⟨[],0⟩)
  else if 0<=R.2.1/\R.2.1<=l.length then some (dT l {s with at_:=R.2.1} Tj,⟨R.1,a⟩)else none
def ng{α:Type}(l:List bT)(t:ByteArray)(rd:fQ->Option (fQ×α)):Nat->fQ->Option (fQ×List α)
 | 0,_=>none
 | m+1,s=>if (iG l s t).2=true then(rd (iG l s t).1).bind λr=>(ng l t rd m r.1).bind λq=>some (q.1,r.2::q.2)else some (s,[])
def zT(l:List bT)(s:fQ):Int:=(pF l (s.at_-1)).at_
def QA(l:List bT)(s:fQ):Option (fQ×List cN):=
 if (iG l s ⟨#[114,101,99,111,118,101,114]⟩).2=true then(tQ l (iG l s ⟨#[114,101,99,111,118,101,114]⟩).1 ⟨#[]⟩ (zT l (iG l s ⟨#[114,101,99,111,118,101,114]⟩).1)).bind λr=>some (r.1,[r.2])else some (s,[])
abbrev ZO:ByteArray:=⟨#[108,105,110,101]⟩
abbrev akr:ByteArray:=⟨#[118,111,108]⟩
abbrev ZP:ByteArray:=⟨#[108,111,99,107]⟩
abbrev JT:ByteArray:=⟨#[116,104,114,101,97,100]⟩
abbrev JU:ByteArray:=⟨#[97,108,119,97,121,115]⟩
def aks(l:List bT)(s:fQ):Option (fQ×cN):=tQ l (fc l s).1 (fc l s).2.name (fc l s).2.at_
def GA(l:List bT)(s:fQ):fQ:=if s.at_<l.length then jB l s 5 else s
def Ns:cE:=⟨[],[],[],[],[],[]⟩
def vG(t:ByteArray):Option (cE×Int×Int):=
 (v8 t).bind λL=>if L.2.1≠0 then some (Ns,L.2.1,L.2.2)else
 (ng L.1 ZO (nu L.1 true) 10000 (uo 0)).bind λG=>
 (ng L.1 akr (nu L.1 true) 10000 G.1).bind λE=>
 (ng L.1 ZP (nu L.1 false) 10000 E.1).bind λB=>
 (ng L.1 JT (aks L.1) 10000 B.1).bind λI=>
 (QA L.1 I.1).bind λJ=>
 (ng L.1 JU (λs=>xK L.1 s (zT L.1 s)) 10000 J.1).bind λu=>
  if 1000000<G.2.length\/1000000<E.2.flatten.length\/1000000<B.2.flatten.length\/1000000<I.2.length\/1000000<u.2.length then none else if (GA L.1 u.1).e≠0 then some (Ns,(GA L.1 u.1).e,(GA L.1 u.1).pos)else some (⟨G.2,E.2.flatten,B.2.flatten,I.2,J.2,u.2⟩,0,0)
section
variable {l:List bT}{s s':fQ}
theorem ZQ{t:ByteArray}(h:(iG l s t).2=true):iG l s t=({s with at_:=s.at_+1},true)/\s.e=0/\0<=s.at_/\s.at_<l.length:=by
 unfold iG at h |-
 split at h
 .rename_i h2
  rw[ew h2]
  rw[ob,decide_eq_true_eq]at h2
  exact⟨rfl,h2.1,sR h2.2⟩
 cases h
theorem xL{t:ByteArray}(h:(iG l s t).2=false):iG l s t=(s,false):=by
 grind[iG]
theorem FL{nb:Bool}(h:lI l s):lI l (jL l nb s).1:=by
 have h1:=u6 h
 have h2:=kz (t:=Km) h1
 unfold jL
 split
 .split
  .rename_i h3
   unfold JS at h3
   cases ht:l6 l (iG l (fc l s).1 Km).1.at_ with
   | none=>grind
   | some t=>
    have:=mP ht
    exact⟨by show 0<=(iG l (fc l s).1 Km).1.at_+1;omega,by show(iG l (fc l s).1 Km).1.at_+1<=_;omega⟩
  exact tO h2
 exact h1
theorem H0{nb:Bool}:∀{m:Nat}{more:Bool}{s s':fQ}{x:List cJ},lI l s->qc l nb m more s=some (s',x)->lI l s'
 | 0,_,_,_,_,_,h=>by cases h
 | m+1,more,s,s',x,u,h=>by
  unfold qc at h
  split at h
  .obtain⟨q,y,h1,h2⟩:=eS h
   cases h2
   exact H0 (kz (FL u)) h1
  grind
theorem yq{nb:Bool}{x:List cJ}(h:nu l nb s=some (s',x)):∃u,qc l nb 10000 true s=some (u,x)/\s'=dT l u Tj/\x.length<=1000000:=by
 unfold nu at h
 obtain⟨q,y,h1,h2⟩:=eS h
 grind
theorem yr{nb:Bool}{x:List cJ}(u:lI l s)(h:nu l nb s=some (s',x)):lI l s':=by
 obtain⟨B,h1,h2,_⟩:=yq h
 rw[h2];exact fI (H0 u h1)
theorem Nt{nb more:Bool}{m:Nat}{x:List cJ}(h:qc l nb m more s=some (s',x)):∃k,m=k+1:=by
 cases m with
 | zero=>cases h
 | succ k=>grind
theorem FM{nb more:Bool}{m:Nat}{x:List cJ}(h:qc l nb (m+1) more s=some (s',x))(hb:(more&&decide (s.e=0))=false):s'=s/\x=[]:=by
 unfold qc at h;grind
theorem UO{nb more:Bool}{m:Nat}{x:List cJ}(h:qc l nb (m+1) more s=some (s',x))(hb:(more&&decide (s.e=0))=true):∃y,qc l nb m (iG l (jL l nb s).1 Cp).2 (iG l (jL l nb s).1 Cp).1=some (s',y)/\x=(jL l nb s).2::y:=by
 unfold qc at h;rw[hb,ew rfl]at h
 obtain⟨q,y,h1,h2⟩:=eS h
 grind
theorem Nu{x:List ByteArray}(u:lI l s)(h:Bj l s=some (s',x)):lI l s':=by
 unfold Bj at h
 split at h
 .obtain⟨q,y,h1,h2⟩:=eS h
  cases h2
  exact yr (kz u) h1
 grind
theorem FN{nm:ByteArray}{a:Int}{x:cN}(u:lI l s)(h:tQ l s nm a=some (s',x)):lI l s':=by
 unfold tQ at h
 obtain⟨q,y,h1,h2⟩:=eS h
 have h3:=Nu (fI u) h1
 dsimp only at h2
 split at h2
 .grind
 cases hr:FK l q.at_ s.at_ with
 | none=>grind
 | some R=>
  grind[lI]
theorem UP{a:Int}{x:gS}(u:lI l s)(h:xK l s a=some (s',x)):lI l s':=by
 unfold xK at h
 cases hr:wc l s.at_ with
 | none=>grind
 | some R=>
  rw[hr]at h
  simp only[mQ]at h
  split at h
  .cases h;exact u
  .split at h
   .rename_i h4;cases h;exact fI h4
   .cases h
theorem sT{α:Type}{t:ByteArray}{rd:fQ->Option (fQ×α)}{m:Nat}{x:List α}(h:ng l t rd m s=some (s',x)):∃k,m=k+1:=by
 cases m with
 | zero=>cases h
 | succ k=>grind
theorem u7{α:Type}{t:ByteArray}{rd:fQ->Option (fQ×α)}{m:Nat}{x:List α}(h:ng l t rd (m+1) s=some (s',x))(hb:(iG l s t).2=false):s'=s/\x=[]:=by
 unfold ng at h;grind
theorem xM{α:Type}{t:ByteArray}{rd:fQ->Option (fQ×α)}{m:Nat}{x:List α}(h:ng l t rd (m+1) s=some (s',x))(hb:(iG l s t).2=true):∃u y z,rd (iG l s t).1=some (u,y)/\ng l t rd m u=some (s',z)/\x=y::z:=by
 unfold ng at h;rw[hb,ew rfl]at h
 obtain⟨q,y,h1,h2⟩:=eS h
 obtain⟨E,B,h3,h4⟩:=eS h2
 grind
end
def noQ:hM:=λ_=>True
theorem Bl{l:List bT}{i:Int}{t:bT}(u:0<=i)(h:l[i.toNat]?=some t):pF l i=t:=by
 unfold pF l6;grind
def aet{l:List bT}{i op:Int}{R:List bQ×Int×Int×Int}(h:FK l i op=some R):∃u add,tP l (λs=>Dd l (VG l 20) s 0 0) 10000 (uo i)=some (u,add)/\add.length<=1000000/\
  ((dT l u oF).e≠0->R=([],0,(dT l u oF).e,(dT l u oF).pos))/\(¬ (dT l u oF).e≠0->40<(add.length:Int)->R=([],0,2,(pF l op).at_))/\
  (¬ (dT l u oF).e≠0->¬ 40<(add.length:Int)->R=(add,(dT l u oF).at_,0,0)):=by
 unfold FK at h
 obtain⟨q,y,h1,h2⟩:=eS h
 grind
section
variable {l:List bT}{s s':fQ}{nb:Bool}
theorem UQ(u:nb=true)(h2:(iG l (fc l s).1 Km).2=true)(h3:JS l (iG l (fc l s).1 Km).1=true) :
  jL l nb s=(UM (iG l (fc l s).1 Km).1,{ (fc l s).2 with n:=(pF l (iG l (fc l s).1 Km).1.at_).n}):=by
 unfold jL;grind
theorem UR(u:nb=true)(h2:(iG l (fc l s).1 Km).2=true)(h3:JS l (iG l (fc l s).1 Km).1=false) :
  jL l nb s=(jB l (iG l (fc l s).1 Km).1 5,(fc l s).2):=by
 unfold jL;grind
theorem ZR(h2:(iG l (fc l s).1 Km).2=false):jL l nb s=((iG l (fc l s).1 Km).1,(fc l s).2):=by
 unfold jL;rw[ej dD,xL h2]
theorem ZS(u:nb=false):jL l nb s=((fc l s).1,(fc l s).2):=by
 grind[jL,fc]
theorem aeu{q:fQ}(h:JS l q=true):∃u,l6 l q.at_=some u/\l[q.at_.toNat]?=some u/\0<=q.at_/\q.at_<l.length:=by
 unfold JS at h
 cases ht:l6 l q.at_ with
 | none=>grind
 | some u=>have:=mP ht;grind
theorem H6{x:List ByteArray}(h:Bj l s=some (s',x))(h1:(iG l s UN).2=true):∃ys,nu l false (iG l s UN).1=some (s',ys)/\x=ys.map cJ.name:=by
 unfold Bj at h;rw[ew h1]at h
 obtain⟨q,y,h2,h3⟩:=eS h
 grind
theorem Nv{x:List ByteArray}(h:Bj l s=some (s',x))(h1:(iG l s UN).2=false):s'=s/\x=[]:=by
 unfold Bj at h;grind
theorem QB{nm:ByteArray}{a:Int}{x:cN}(h:tQ l s nm a=some (s',x)):∃q rs,Bj l (dT l s CP)=some (q,rs)/\
  (q.e≠0->s'=q/\x=⟨nm,rs,[],a⟩)/\(¬ q.e≠0->∃R,FK l q.at_ s.at_=some R/\0<=R.2.1/\R.2.1<=l.length/\s'=⟨R.2.1,R.2.2.1,R.2.2.2⟩/\x=⟨nm,rs,R.1,a⟩):=by
 unfold tQ at h
 obtain⟨q,rs,h1,h2⟩:=eS h
 refine⟨q,rs,h1,λu=>?_,λu=>?_⟩
 .grind
 dsimp only at h2;rw[ej u]at h2
 cases hr:FK l q.at_ s.at_ with
 | none=>grind
 | some R=>
  grind
theorem US{a:Int}{x:gS}(h:xK l s a=some (s',x)):∃R,wc l s.at_=some R/\
  (R.2.2.1≠0->s'={s with e:=R.2.2.1,pos:=R.2.2.2}/\x=⟨[],0⟩)/\(¬ R.2.2.1≠0->(0<=R.2.1/\R.2.1<=l.length)/\s'=dT l {s with at_:=R.2.1} Tj/\x=⟨R.1,a⟩):=by
 unfold xK at h
 cases hr:wc l s.at_ with
 | none=>grind
 | some R=>
  grind
theorem akt{e:Int}(u:e≠0)(h:(jB l s e).e=0):False:=by
 unfold jB at h
 grind
theorem aev{t:ByteArray}(h:(dT l s t).e=0):tM l s.at_ t=true:=by
 unfold dT at h
 split at h
 .grind
 exact(akt ee h).elim
theorem arw{t:ByteArray}:(iG l s t).1.e=s.e:=by unfold iG;grind
theorem UT{e:Int}(h:s.e≠0):(jB l s e).e≠0:=by unfold jB;grind
theorem QC{t:ByteArray}(h:s.e≠0):(dT l s t).e≠0:=by
 unfold dT;rw[ej dD];exact UT h
theorem Nw:∀{m:Nat}{more:Bool}{s s':fQ}{x:List cJ},s.e≠0->qc l nb m more s=some (s',x)->s'.e≠0
 | 0,_,_,_,_,_,h=>by cases h
 | m+1,more,s,s',x,u,h=>by
  have:=FM h dD
  grind
theorem Nx{x:List cJ}(u:s.e≠0)(h:nu l nb s=some (s',x)):s'.e≠0:=by
 obtain⟨B,h1,h2,_⟩:=yq h
 rw[h2];exact QC (Nw u h1)
theorem QD{x:List ByteArray}(u:s.e≠0)(h:Bj l s=some (s',x)):s'.e≠0:=by
 cases h1:(iG l s UN).2 with
 | true=>obtain⟨ys,h2,_⟩:=H6 h h1;exact Nx (by rw[arw];exact u) h2
 | false=>rw[(Nv h h1).1];exact u
end
theorem GB{α β:Type}{f:α->β}{l:List α}{k:Nat}{e:α}(h:l[k]?=some e):(l.take k).map f++[f e]=(l.take (k+1)).map f:=by
 rw[<- gJ h,List.map_append];rfl
def Ny{l:List bT}{s s':fQ}{x:List cN}(h:QA l s=some (s',x))(h1:(iG l s ⟨#[114,101,99,111,118,101,114]⟩).2=true):∃y,tQ l (iG l s ⟨#[114,101,99,111,118,101,114]⟩).1 ⟨#[]⟩ (zT l (iG l s ⟨#[114,101,99,111,118,101,114]⟩).1)=some (s',y)/\x=[y]:=by
 unfold QA at h;rw[ew h1]at h
 obtain⟨q,y,h2,h3⟩:=eS h
 grind
theorem Tl{l:List bT}{s s':fQ}{x:List cN}(h:QA l s=some (s',x))(h1:(iG l s ⟨#[114,101,99,111,118,101,114]⟩).2=false):s'=s/\x=[]:=by
 unfold QA at h;grind
theorem UW{t:ByteArray}{l:List bT}{e a:Int}{R:cE×Int×Int}(h:vG t=some R)(B:v8 t=some (l,e,a))(u:e≠0):R=(Ns,e,a):=by
 unfold vG at h;rw[B]at h
 simp only[mQ]at h
 rw[ew u]at h;exact(oi.inj h).symm
theorem QE{t:ByteArray}{R:cE×Int×Int}(h:vG t=some R):∃l e a,v8 t=some (l,e,a):=by
 unfold vG at h
 cases hs:v8 t with
 | none=>rw[hs]at h;cases h
 | some L=>exact⟨L.1,L.2.1,L.2.2,rfl⟩
structure aku(l:List bT)(R:cE×Int×Int)(t1 t2 t3 t4 t5 t6:fQ)(y1:List (List cJ))(y2 y3:List (List cJ))(y4 y5:List cN)(y6:List gS):Prop where
 h1:ng l ZO (nu l true) 10000 (uo 0)=some (t1,y1)
 h2:ng l akr (nu l true) 10000 t1=some (t2,y2)
 h3:ng l ZP (nu l false) 10000 t2=some (t3,y3)
 h4:ng l JT (aks l) 10000 t3=some (t4,y4)
 h5:QA l t4=some (t5,y5)
 h6:ng l JU (λs=>xK l s (zT l s)) 10000 t5=some (t6,y6)
 b1:y1.length<=1000000
 b2:y2.flatten.length<=1000000
 b3:y3.flatten.length<=1000000
 b4:y4.length<=1000000
 b6:y6.length<=1000000
 bad:(GA l t6).e≠0->R=(Ns,(GA l t6).e,(GA l t6).pos)
 ayj:¬ (GA l t6).e≠0->R=(⟨y1,y2.flatten,y3.flatten,y4,y5,y6⟩,0,0)
def ZT{t:ByteArray}{l:List bT}{e a:Int}{R:cE×Int×Int}(h:vG t=some R)(hs:v8 t=some (l,e,a))(he:¬ e≠0):∃W G E u M J O B Y V Z U,aku l R W G E u M J O B Y V Z U:=by
 unfold vG at h;rw[hs]at h
 simp only[mQ]at h
 rw[ej he]at h
 obtain⟨W,O,h1,h⟩:=eS h
 obtain⟨G,B,h2,h⟩:=eS h
 obtain⟨E,Y,h3,h⟩:=eS h
 obtain⟨u,V,h4,h⟩:=eS h
 obtain⟨M,Z,h5,h⟩:=eS h
 obtain⟨J,U,h6,h⟩:=eS h
 dsimp only at h
 split at h
 .cases h
 rename_i hb
 simp only[not_or,Nat.not_lt]at hb
 refine⟨W,G,E,u,M,J,O,B,Y,V,Z,U,h1,h2,h3,h4,h5,h6,hb.1,hb.2.1,hb.2.2.1,hb.2.2.2.1,hb.2.2.2.2,λI=>?_,λI=>?_⟩
 .rw[ew I]at h;exact(oi.inj h).symm
 rw[ej I]at h;exact(oi.inj h).symm
theorem aew{l:List bT}{s s':fQ}{x:List cN}(u:lI l s)(h:QA l s=some (s',x)):lI l s':=by
 cases h1:(iG l s ⟨#[114,101,99,111,118,101,114]⟩).2 with
 | true=>obtain⟨y,h2,_⟩:=Ny h h1;exact FN (kz u) h2
 | false=>rw[(Tl h h1).1];exact u
theorem Bm{α:Type}{a:List (List α)}{b:List α}:(a++[b]).flatten=a.flatten++b:=ei
def Tm{α:Type}{y a c:List (List α)}{b:List α}(h:y=a++b::c):a.flatten.length+b.length<=y.flatten.length:=dD
def C212(l:List bT)(lv:Value)(i op:Int)(R:List bQ×Int×Int×Int)(w:World)(hL:dC (λ_=>True) w lv l)(M:jm l)(h0:0<=i/\i<=l.length)(ki:0<=op/\op<l.length)(hr:FK l i op=some R):CR 212 [lv,hZ i,hZ op] w (λv w'=>∃sv:SV,v=.tuple #[ia sv,hZ R.2.1,hZ R.2.2.1,hZ R.2.2.2]/\lh (eD λw=>DL w (ia sv) R.1) w w'):=by
 have DD:=M.n;have hn:l.length<=1000000:=cK
 have sB:=M.at_;obtain⟨s9,add,Y0,Gs,hR⟩:=aet hr;obtain⟨lsv,I⟩:=hL.fJ;have u:=St.start w;refine oM Tryz.func212 (pl:=auL) ?_;rw[I];refine pop (ON _ _ _ _) (ny u λarx _ u=>?_);obtain⟨p,rfl⟩:∃p,p=arx:=⟨_,rfl⟩;have u:=u.enc (cs':=eo (ia lsv) (.slice none 0 0) (uo i)) rfl;rw[<- I]at u |-;have hT:∀w',gv aZ w w'->dC (λ_=>True) w' lv l:=λ_ hc=>hL.ext hc;have u:=((u.fu (Φ:=λw=>iq ([]:List bE) ([]:List bQ) w/\noQ w) λ_=>⟨iq.nil,trivial⟩).eL (α:=bE)).p2;have u:=pT.shut u;refine⟨λmm w'=>∃(B:fQ) (E a2:List bQ),lI l B/\tP l (λs=>Dd l (VG l 20) s 0 0) mm B=some (s9,a2)/\add=E++a2/\St w aZ [pT p lv B (([]:List bQ)++E) noQ] w',⟨10000,uo i,[],add,(show lI l (uo i)from h0),Y0,rfl,by rw[pL];exact u⟩,?_⟩
 rintro mm _ ⟨B,E,a2,U,Kj,V,u⟩ _;obtain⟨m,rfl⟩:=HY Kj;obtain⟨Z,Y,u⟩:=pT.open u;have O:Y.length=(([]:List bQ)++E).length:=u.p2.eD.1.1;rw[la]at O;refine⟨λjv w'=>jv=.bool (decide (B.e=0)&&!tM l B.at_ oF)/\St w aZ [bY p (eo lv Z B),bH Z Y,eD λw=>iq Y (([]:List bQ)++E) w/\noQ w] w',aE (aA kS (have u:=u.drew;aB jN u.hb rfl (aH (aC (λJ=>aE (aA iJ (aB jq u.hb rfl (aE (aA fb (aB bM u.hb rfl (aV vQ u (C209 _ l B.at_ (kh #[125]) _ (hT _ u.aG) hn) λ_ _ u=>bR (have u:=u.p2.p2.p2;⟨vb (by first|(rw[ez J];rfl)|(rw[fN J];rfl)),u⟩)))))))) λJ=>have u:=u.p2.p2.p2;⟨vb (by first|(rw[ez J];rfl)|(rw[fN J];rfl)),u⟩)))),?_⟩
 rintro _ _ ⟨rfl,u⟩ _;refine aY (λmf=>?_) (λmf=>?_)
 .obtain⟨s3,a1,a3,ho,hb3,rfl⟩:=JR Kj mf;have u:=pT.shut u.p2.p2.p2;refine bF afK u (H':=λ_=>pT p lv s3 ((([]:List bQ)++E)++a1) noQ) (Φ:=λ_ _=>True) (λF2 ef dW=>?_) ?_
  .exact(C256 p lv l B 20 0 0 (([]:List bQ)++E) s3 a1 noQ F2 _ ef (λw' hc=>hT w' (dW w' hc).aG) M U (aru M 20) cK cK (by have:=gO List.length V;simp at this |-;omega) ho).mono λ_ _ r=>r.mono λ_ _ h=>⟨trivial,h.2⟩
  rintro _ _ _ u;exact⟨_,cK,s3,E++a1,a3,Qx (λ_ _ _ _ _ c e=>Qy c e) U ho,hb3,by rw[V,n3],by rw[<- n3];exact u⟩
 obtain⟨e9,rfl⟩:=FJ Kj mf;replace e9:=e9.symm;subst e9;rw[pL]at V;subst V;obtain⟨ayl,aym⟩:=id U;simp only[IF,Nat.zero_add]at O;refine bF yH u (H':=λ_=>bY p (eo lv Z (dT l B (kh #[125])))) (Φ:=λ_ _=>True) (λF2 ef dW=>?_) ?_
 .exact(C257 p lv Z l B (kh #[125]) F2 _ ef (λw' hc=>hT w' (dW w' hc).aG) M U).mono λ_ _ r=>r.mono λ_ _ h=>⟨trivial,h.2⟩
 rintro _ _ _ u;refine aE (aA kS (aB jN u.hb rfl (bV (aC (λW=>?_) λW=>aE (aA qu (aB jP u.hb rfl (aK fq u.p1.dX (cO (aC (λA1=>?_) λA1=>?_)))))))))
 .refine aE (aA kS (have u:=u.drew;aB jN u.hb rfl (aE (aA Az (aB bM u.hb rfl ?_)))));have G:R=([],0,(dT l B oF).e,(dT l B oF).pos):=hR.1 W;rw[G];exact⟨bX,rfl,(u.fu (Φ:=λw=>DL w (ia (bX:SV)) ([]:List bQ)) λw=>DL.nil w).fresh⟩
 .obtain⟨Yp,B9⟩:=gx l (i:=op.toNat) cK;refine aQ fL hL cK B9 (λ_ EY=>bW Yp.at_ lO EY rfl rfl λ_ A3=>have u:=u.drew;aD bM (A3.ext u.aG) ?_);have G:R=([],0,2,Yp.at_):=(hR.2.1 W cK).trans (by rw[Bl ki.1 B9]);rw[G];exact⟨bX,rfl,(u.fu (Φ:=λw=>DL w (ia (bX:SV)) ([]:List bQ)) λw=>DL.nil w).fresh⟩
 refine aE (aA qu (have u:=u.drew;aB jP u.hb rfl (aE (aA fb (aB bM u.hb rfl ?_)))));have u:=(u.drop.p1.dN (Ψ:=iq Y ([]++add)) λ_ h=>h.1).p1;have u:=St.G9 u;obtain⟨sv,hsv⟩:=u.oZ;subst hsv;rw[hR.2.2 W cK];exact⟨sv,rfl,u.mX.fresh⟩
def C132(p:Nat)(lv:Value)(l:List bT)(s:fQ)(nb:Bool)(s2:fQ)(x:List cJ)(F:Nat->Prop)(w:World)(hF:(bY p (eA lv s)).p w F)(M:∀w',gv F w w'->dC (λ_=>True) w' lv l)(V:jm l)(h0:lI l s)(hr:nu l nb s=some (s2,x)):CR 132 [(.pointer (some ⟨p,0,none⟩)),.bool nb] w (λv w'=>mR F (sep (bY p (eA lv s2)) (bH v x)) w w'):=by
 have u:=St.begin hF;obtain⟨s9,Vx,e2,Gs⟩:=yq hr;have DD:=V.n;have hn:l.length<=1000000:=cK
 have sB:=V.at_;obtain⟨S5,S6⟩:=id h0;refine oM Tryz.func132 (pl:=auy) ?_;refine bD ([]:List cJ) u im rfl rfl (dL rfl) (λajP _ u=>?_);have u:=u.p1.p1;refine⟨λmm o mo w'=>∃(B:fQ) (b:Bool) (W a2:List cJ),mo=.bool b/\lI l B/\qc l nb mm b B=some (s9,a2)/\x=W++a2/\St w F [bH o W,bY p (eA lv B)] w',⟨10000,s,true,[],x,rfl,h0,Vx,rfl,u⟩,?_⟩;rintro mm zj _ w2 ⟨B,b,W,a2,rfl,J,W6,hx,u⟩ _;obtain⟨m,rfl⟩:=Nt W6;obtain⟨ayl,aym⟩:=id J;refine⟨λjv w'=>jv=.bool (b&&decide (B.e=0))/\w2=w',aY (λY=>aE (aA mw (aB jN u.p1.hb rfl (aH ⟨vb (by first|(rw[Y];rfl)|(rw[Y];rfl)),rfl⟩)))) (λY=>⟨vb (by first|(rw[Y];rfl)|(rw[Y];rfl)),rfl⟩),?_⟩
 rintro _ _ ⟨rfl,hw⟩ _;subst hw;refine aY (λet=>?_) (λet=>?_)
 .obtain⟨a3,hn3,rfl⟩:=UO W6 et;refine bF afv u.p1 (H':=λ_=>bY p (eA lv (fc l B).1)) (Φ:=λv _=>v=ia (fc l B).2) (λE I G=>?_) ?_
  .exact C133 p lv l B E _ I (λw' hc=>M w' (G w' hc).aG) V J
  rintro _ _ rfl u;refine aM u oU (λZ _ u=>aI (x:=(fc l B).2) u mc rfl rfl λ_ u=>⟨λw'=>St w F [bY p (eA lv (jL l nb B).1),bY Z (j0 (jL l nb B).2),bH zj W] w',⟨_,aY (λvH=>?_) (λvH=>?_),λ_ _ h=>h⟩,?_⟩)
  .refine bF yG u.p1 (H':=λ_=>bY p (eA lv (iG l (fc l B).1 (kh #[61])).1)) (Φ:=λv _=>v=.bool (iG l (fc l B).1 (kh #[61])).2) (λE I G=>?_) ?_
   .exact C131 p lv l (fc l B).1 (kh #[61]) E _ I (λw' hc=>M w' (G w' hc).aG) V (u6 J)
   rintro _ _ rfl u;intro wA;refine aY (λjE=>?_) (λjE=>?_)
   .have hq:=kz (t:=kh #[61]) (u6 J);obtain⟨U,hq1⟩:=id hq;refine⟨λjv w'=>jv=.bool (JS l (iG l (fc l B).1 (kh #[61])).1)/\St w F [bY p (eA lv (iG l (fc l B).1 (kh #[61])).1),bY Z (j0 (fc l B).2),bH zj W] w',aE (aA fz (have u:=u.drew;aB bM u.hb rfl (aE (aA j7 (aB jq u.hb rfl (aK fL (M _ u.aG) (aR (aC (λmg=>?_) λmg=>have u:=u.p2.p2.p2;⟨vb (by unfold JS l6;rw[ew U,m4 cK]),u⟩)))))))),?_⟩
    .refine aE (aA j7 (aB jq u.hb rfl (aE (aA fz (aB bM u.hb rfl ?_)))));obtain⟨arA,ZU⟩:=gx l (i:=(((iG l (fc l B).1 (kh #[61])).1).at_).toNat) cK;exact aQ fL (M _ u.aG) cK ZU (λ_ EK=>bW arA.kind lM EK rfl rfl λ_ LH=>aD bM LH (aH (have u:=u.p2.p2.p2;⟨vb (by unfold JS l6;rw[ew U,ZU]),u⟩)))
    rintro _ _ ⟨rfl,u⟩ _;refine aY (λsi=>?_) (λsi=>?_)
    .obtain⟨tk,ZA,Hq,_,hqlt⟩:=aeu si;have Oc:pF l (iG l (fc l B).1 (kh #[61])).1.at_=tk:=Bl U Hq;refine aE (aA j7 (have u:=u.drew;aB jq u.hb rfl (aE (aA fz (aB bM u.hb rfl (aQ fL (M _ u.aG) cK Hq λ_ A3=>bW tk.n se A3 rfl rfl λ_ arB=>aD bM arB (aA rZ (aT u.p1 bM (dL rfl) (rfl) λ_ u=>have u:=u.enc (cs':=j0 ({ (fc l B).2 with n:=tk.n}:cJ)) rfl;aE (aA fz ?_)))))))));refine aB bM u.p1.hb rfl (aN cK (aE (aA fz (aT u.p1 bM (dL rfl) (rfl) λ_ u=>?_))))
     have u:=u.p2.p2.p2;have O:(jL l nb B)=(UM (iG l (fc l B).1 (kh #[61])).1,{ (fc l B).2 with n:=tk.n}):=(UQ vH jE si).trans (by rw[Oc]);rw[O];exact u
    refine bF Rm u (H':=λ_=>bY p (eA lv (jB l (iG l (fc l B).1 (kh #[61])).1 5))) (Φ:=λ_ _=>True) (λE I G=>?_) ?_
    .exact(C136 p lv l (iG l (fc l B).1 (kh #[61])).1 E _ I (λw' hc=>M w' (G w' hc).aG) V (kz (u6 J))).mono λ_ _ r=>r.mono λ_ _ h=>⟨trivial,h.2⟩
    rintro _ _ _ u;have u:=u.p2.p2.p2;have O:=UR vH jE si;rw[O];exact u
   have u:=u.p2.p2.p2;have O:=ZR (nb:=nb) jE;rw[O];exact u
  .intro wA;refine ft ?_;have u:=u.p2.p1.p2;have O:=ZS (l:=l) (s:=B) vH;rw[O];exact u
  intro _ u _;refine aD mc u.p1.At (bD ([(jL l nb B).2]) u im rfl rfl (dL rfl) λarl _ u=>?_);have akv:=u.dX;refine bJ u.p3 im akv (by have:=gO List.length hx;simp at this |-;omega) ee (λarC _ u=>have u:=u.p1.drop;bF yG u.p1 (H':=λ_=>bY p (eA lv (iG l (jL l nb B).1 (kh #[44])).1)) (Φ:=λv _=>v=.bool (iG l (jL l nb B).1 (kh #[44])).2) (λE I G=>?_) ?_)
  .exact C131 p lv l (jL l nb B).1 (kh #[44]) E _ I (λw' hc=>M w' (G w' hc).aG) V (FL J)
  rintro _ _ rfl u;have u:=u.p2.drop.p1;exact⟨_,cK,(iG l (jL l nb B).1 Cp).1,(iG l (jL l nb B).1 Cp).2,W++[(jL l nb B).2],a3,rfl,kz (FL J),hn3,by rw[hx,n3];rfl,u⟩
 obtain⟨e9,rfl⟩:=FM W6 et;replace e9:=e9.symm;subst e9;rw[pL]at hx;subst hx;refine bF V9 u.p1 (H':=λ_=>bY p (eA lv (dT l B (kh #[59])))) (Φ:=λ_ _=>True) (λE I G=>?_) ?_
 .exact(C210 p lv l B (kh #[59]) E _ I (λw' hc=>M w' (G w' hc).aG) V J).mono λ_ _ r=>r.mono λ_ _ h=>⟨trivial,h.2⟩
 rintro _ _ _ u;have u:=u.p1.p1;rw[e2];exact(St.join u).mut
def C134(p:Nat)(lv:Value)(l:List bT)(s:fQ)(nm:ByteArray)(a:Int)(s2:fQ)(x:cN)(F:Nat->Prop)(w:World)(hF:(bY p (eA lv s)).p w F)(Z:∀w',gv F w w'->dC (λ_=>True) w' lv l)(G:jm l)(M:lI l s)(hr:tQ l s nm a=some (s2,x)):CR 134 [(.pointer (some ⟨p,0,none⟩)),ia (⟨nm,bX,bX,a⟩:cH)] w (λv w'=>mR F (pK λsh:cH=>fact (v=ia sh) (sep (bY p (eA lv s2)) (eD λw=>mh w sh x))) w w'):=by
 have u:=St.begin hF;obtain⟨q,rs,Da,BF,Gb⟩:=QB hr;have W:=Nu (fI M) Da;obtain⟨hqi0,hqi1⟩:=id W;have DD:=G.n;have hn:l.length<=1000000:=cK
 have sB:=G.at_;obtain⟨S5,S6⟩:=id M;refine oM Tryz.func134 (pl:=auA) ?_;refine cI (x:=(⟨nm,bX,bX,a⟩:cH)) u (λE _ u=>aM u tC λOY _ u=>have u:=u.enc (cs':=j0 (⟨(kh #[]),bX,bX,0⟩:cH)) rfl;aE (aA fz (aB bM u.p2.hb rfl (bF V9 u.p2 (H':=λ_=>bY p (eA lv (dT l s (kh #[123])))) (Φ:=λ_ _=>True) (λI Y J=>?_) ?_))))
 .exact(C210 p lv l s (kh #[123]) I _ Y (λw' hc=>Z w' (J w' hc).aG) G M).mono λ_ _ r=>r.mono λ_ _ h=>⟨trivial,h.2⟩
 rintro _ _ _ u;refine⟨λw'=>∃B:SV,St w F [bH (ia B) rs,bY E (j0 (⟨nm,B,bX,a⟩:cH)),bY OY (j0 (⟨(kh #[]),bX,bX,0⟩:cH)),bY p (eA lv q)] w',?_,?_⟩
 .refine bF yG u (H':=λ_=>bY p (eA lv (iG l (dT l s (kh #[123])) (kh #[114,101,103])).1)) (Φ:=λv _=>v=.bool (iG l (dT l s (kh #[123])) (kh #[114,101,103])).2) (λI Y J=>?_) ?_
  .exact C131 p lv l (dT l s (kh #[123])) (kh #[114,101,103]) I _ Y (λw' hc=>Z w' (J w' hc).aG) G (fI M)
  rintro _ _ rfl u;refine aY (λfw=>?_) (λfw=>?_)
  .obtain⟨ys,O,hrs⟩:=H6 Da fw;have hyl:ys.length<=1000000:=by obtain⟨_,_,_,h⟩:=yq O;exact h
   refine bF Rl u (H':=λv=>sep (bY p (eA lv q)) (bH v ys)) (Φ:=λ_ _=>True) (λI Y J=>?_) ?_
   .exact(C132 p lv l (iG l (dT l s (kh #[123])) (kh #[114,101,103])).1 false q ys I _ Y (λw' hc=>Z w' (J w' hc).aG) G (kz (fI M)) O).mono λ_ _ r=>r.mono λ_ _ h=>⟨trivial,h⟩
   rintro x21 _ _ u;have u:=(((((u.split.eL (α:=ByteArray)).p1).p3).p3).p4).p4;refine⟨λmm i w'=>∃(j:Nat) (B:SV),i=hZ (j:Int)/\mm=ys.length-j/\j<=ys.length/\St w F [bH (ia B) ((ys.take j).map cJ.name),bY E (j0 (⟨nm,B,bX,a⟩:cH)),bH x21 ys,bY OY (j0 (⟨(kh #[]),bX,bX,0⟩:cH)),bY p (eA lv q)] w',⟨_,0,bX,rfl,rfl,l1 _,u⟩,?_⟩;rintro mm _ _ ⟨j,B,rfl,rfl,hj,u⟩ _;refine aK im u.p2.dX (aR (aC (λjE=>?_) λjE=>?_))
   .refine aA fS (have u:=u.drew;aB (v:=ia (B:SV)) jk u.p1.hb rfl ?_);obtain⟨U,ZV⟩:=gx ys (i:=(j:Int).toNat) cK;refine dR u.p2 im cK cK (λ_ xp=>mA kQ xp λ_ rh=>nG U.name u.p2 gw rh ZV rfl (bD ([U.name]) u iC rfl rfl (dL rfl) λapj _ u=>?_));refine⟨aF jk (u.p2.hb.cell rfl),?_⟩;have akx:=u.dX;refine bJ u.p1 iC akx (by simp;omega) ee (λapk _ u=>have u:=u.p1.drop;aA fS ?_);obtain⟨ZW,rfl⟩:=u.fJ;exact aT u.p1 jk (dL rfl) (rfl) (λ_ u=>have u:=u.enc (cs':=j0 (⟨nm,ZW,bX,a⟩:cH)) rfl;aN cK (have u:=u.p4.p4.p4.p3.p4;⟨_,cK,j+1,ZW,rfl,rfl,cK,by rw[<- GB (k:=j) ZV];exact u⟩))
   have u:=u.p2.drop.p3.p3.p3.p3;rw[kO cK]at u;rw[hrs];exact⟨B,u⟩
  have u:=((((u.eL (α:=ByteArray)).p1).p2).p3).p3;obtain⟨e1,e3⟩:=Nv Da fw;rw[xL fw]at u;rw[e1,e3];exact⟨bX,u⟩
 rintro _ ⟨B,u⟩ _;refine⟨λw'=>∃(B V:SV) (body:List bQ),x=⟨nm,rs,body,a⟩/\St w F [bH (ia B) rs,eD (λw=>DL w (ia V) body),bY E (j0 (⟨nm,B,V,a⟩:cH)),bY OY (j0 (⟨(kh #[]),bX,bX,0⟩:cH)),bY p (eA lv s2)] w',aE (aA mw (aB jN u.p3.hb rfl (aH (aC (λqE=>?_) λqE=>?_)))),?_⟩
 .obtain⟨R,hR,hR0,hR1,e2,hx⟩:=Gb cK;have ML:(dT l s CP).e=0:=vh.1 λhh=>QD hh Da cK;have ki:=sR (aev ML);refine aE (aA j7 (have u:=u.drew;aB jq u.p3.hb rfl (aE (aA fz (aB bM u.p3.hb rfl (dO amZ (C212 l _ q.at_ s.at_ R _ (Z _ u.aG) G W ki hR) ?_))))));rintro _ _ ⟨ZX,rfl,cL⟩;have u:=u.made cL;refine aO rfl (aO rfl (aO rfl (aO rfl (aA lK (aT u.p2 jP (dL rfl) (rfl) λ_ u=>have u:=u.enc (cs':=j0 (⟨nm,B,ZX,a⟩:cH)) rfl;aE (aA fz (aT u.p4 bM (dL rfl) (rfl) λ_ u=>aE (aA mw (aT u jN (dL rfl) (rfl) λ_ u=>aE ?_)))))))))
  refine aA wR (aT u bM (dL rfl) (rfl) λ_ u=>?_);have u:=u.p4.p2.p3.p4;rw[e2];exact⟨B,ZX,R.1,hx,u⟩
 .have u:=u.fu (Φ:=λw=>DL w (ia (bX:SV)) ([]:List bQ)) λw=>DL.nil w;have u:=u.p4.p4.p4.p3.p4;obtain⟨e2,hx⟩:=BF qE;rw[e2];exact⟨B,bX,[],hx,u⟩
 rintro _ ⟨B,V,body,rfl,u⟩ _;exact aD m7 u.p2.At (aI (x:=(⟨nm,B,V,a⟩:cH)) u.p3 m7 rfl rfl λ_ u=>aD m7 u.At (have u:=u.p1.freeze.p2.p1.gR.dN (Ψ:=(λw=>mh w (⟨nm,B,V,a⟩:cH) (⟨nm,rs,body,a⟩:cN))) (λ_ h=>⟨_,_,rfl,DL.j1 h.1,id h.2⟩);have u:=u.p1.drop.p1.drop.p1;(xJ u).mut))
def C135(p:Nat)(lv:Value)(l:List bT)(s:fQ)(a:Int)(O:fQ)(x:gS)(F:Nat->Prop)(w:World)(hF:(bY p (eA lv s)).p w F)(I:∀w',gv F w w'->dC (λ_=>True) w' lv l)(B:jm l)(h0:lI l s)(hr:xK l s a=some (O,x)):CR 135 [(.pointer (some ⟨p,0,none⟩)),hZ a] w (λv w'=>mR F (pK λM:jA=>fact (v=ia M) (sep (bY p (eA lv O)) (eD λw=>mh w M x))) w w'):=by
 have u:=St.begin hF;obtain⟨R,G,BF,W⟩:=US hr;have DD:=B.n;have hn:l.length<=1000000:=cK
 have sB:=B.at_;obtain⟨S5,S6⟩:=id h0;refine oM Tryz.func135 (pl:=auB) ?_;refine aM u OI (λOY _ u=>have u:=u.enc (cs':=j0 (⟨bX,0⟩:jA)) rfl;aE (aA j7 (have u:=u.drew;aB jq u.p1.hb rfl (aE (aA fz (aB bM u.p1.hb rfl (dO afE (C213 l _ s.at_ R _ (I _ u.aG) B cK G) ?_)))))));rintro _ _ ⟨J,rfl,Z⟩;have u:=u.made Z;refine aO rfl (aO rfl (aO rfl (aO rfl (bV (aC (λE=>?_) λE=>?_)))))
 .obtain⟨rfl,rfl⟩:=BF E;exact aE (aA mw (aT u.p2 jN (dL rfl) (rfl) λ_ u=>aE (aA wR (aT u bM (dL rfl) (rfl) λ_ u=>pop (v:=ia (⟨bX,0⟩:jA)) (by kernel_rfl) (aI (x:=(⟨bX,0⟩:jA)) u.p2 IP rfl rfl λ_ u=>aD IP u.At (have u:=u.fu (Φ:=(λw=>mh w (⟨bX,0⟩:jA) (⟨[],0⟩:gS))) (λ_=>⟨_,rfl,DL.nil _⟩);have u:=u.p1.drop.p2.drop.p1;(xJ u).mut))))))
 obtain⟨V,rfl,rfl⟩:=W E;refine aE (aA fz (aT u.p2 bM (dL rfl) (rfl) λ_ u=>have u:=u.enc (cs':=eA lv ({s with at_:=R.2.1}:fQ)) rfl;bF V9 u (H':=λ_=>bY p (eA lv (dT l ({s with at_:=R.2.1}:fQ) (kh #[59])))) (Φ:=λ_ _=>True) (λU ef Y=>?_) ?_))
 .exact(C210 p lv l ({s with at_:=R.2.1}:fQ) (kh #[59]) U _ ef (λw' hc=>I w' (Y w' hc).aG) B (show lI l ({s with at_:=R.2.1}:fQ)from V)).mono λ_ _ r=>r.mono λ_ _ h=>⟨trivial,h.2⟩
 rintro _ _ _ u;exact pop (G6 _ _ _ _) (aI (x:=(⟨J,a⟩:jA)) u.p2 IP rfl rfl λ_ u=>aD IP u.At (have u:=u.p2.dN (Ψ:=(λw=>mh w (⟨J,a⟩:jA) (⟨R.1,a⟩:gS))) (λ_ h=>⟨_,rfl,id h⟩);have u:=u.p1.drop.p1;(xJ u).mut))
def C65(s:ByteArray)(R:cE×Int×Int)(w:World)(TV:s.size<=1000000)(hr:vG s=some R)(hTk:∀l e a,v8 s=some (l,e,a)->jm l):CR 65 [.string s] w (λv w'=>∃pv:bP,v=.tuple #[ia pv,hZ R.2.1,hZ R.2.2]/\lh (eD λw=>mh w pv R.1) w w'):=by
 obtain⟨l,e,a,hsc⟩:=QE hr;have W:=hTk l e a hsc;have DD:=W.n;have hn:l.length<=1000000:=cK
 have sB:=W.at_;have u:=St.start w;refine oM Tryz.func65 (pl:=P65) ?_;refine aM u vj (λwm _ u=>have u:=u.enc (cs':=j0 (⟨bX,bX,bX,bX,bX,bX⟩:bP)) rfl;dO amN (C130 s (l,e,a) _ TV hsc) ?_);rintro _ _ ⟨lv,rfl,cL⟩;have u:=u.made cL;refine aO rfl (aO rfl (aO rfl (bV (aC (λlR=>?_) λlR=>?_))))
 .refine pop (v:=ia (⟨bX,bX,bX,bX,bX,bX⟩:bP)) (by kernel_rfl) (aI (x:=(⟨bX,bX,bX,bX,bX,bX⟩:bP)) u.p1 er rfl rfl λ_ u=>aD er u.At ?_);have u:=u.fu (Φ:=(λw=>mh w (⟨bX,bX,bX,bX,bX,bX⟩:bP) (⟨[],[],[],[],[],[]⟩:cE))) (λ_=>⟨_,_,_,_,_,_,rfl,DL.nil _,DL.nil _,DL.nil _,DL.nil _,DL.nil _,DL.nil _⟩);have u:=u.p1.drop.p1.drop;rw[UW hr hsc lR];exact⟨_,rfl,u.fresh⟩
 obtain⟨t1,t2,t3,t4,t5,t6,y1,y2,y3,y4,y5,y6,Z⟩:=ZT hr hsc lR;obtain⟨lsv,hlv⟩:=u.fJ;rw[hlv];refine pop (WA _ _ _) (ny u λRS _ u=>pop (v:=ia (⟨bX,bX,bX,bX,bX,bX⟩:bP)) (by kernel_rfl) (aM u vj λQF _ u=>have u:=u.enc (cs':=j0 (⟨bX,bX,bX,bX,bX,bX⟩:bP)) rfl;aI (x:=(⟨bX,bX,bX,bX,bX,bX⟩:bP)) u er rfl rfl λ_ u=>?_));obtain⟨p,rfl⟩:∃p,p=RS:=⟨_,rfl⟩;have u:=u.p1.enc (cs':=eA (ia lsv) (uo 0)) rfl;rw[<- hlv]at u |-;have ayo:lI l (uo 0):=⟨NI _,by show(0:Int)<=_;omega⟩;have u:=(((((u.I1 (α:=(List cJ))).p4).p4).p3).p4).p4
 refine⟨λmm w'=>∃(s0:fQ) (J:SV) (xs0 a0:List (List cJ)),lI l s0/\ng l ZO (nu l true) mm s0=some (t1,a0)/\y1=xs0++a0/\St w aZ [fU (ia J) xs0,bY QF (j0 (⟨J,bX,bX,bX,bX,bX⟩:bP)),bY p (eA lv s0),bH lv l,bY wm (j0 (⟨bX,bX,bX,bX,bX,bX⟩:bP))] w',⟨10000,uo 0,bX,[],y1,ayo,Z.h1,rfl,u⟩,?_⟩;rintro mm _ ⟨s0,J,xs0,a0,hi0,ML,hy0,u⟩ _;obtain⟨m0,rfl⟩:=sT ML;refine bF yG u.p2 (H':=λ_=>bY p (eA lv (iG l s0 (kh #[108,105,110,101])).1)) (Φ:=λv _=>v=.bool (iG l s0 (kh #[108,105,110,101])).2) (λB G E=>?_) ?_
 .exact C131 p lv l s0 (kh #[108,105,110,101]) B _ G (λw' hc=>(E w' hc).p2.dX) W hi0
 rintro _ _ rfl u;refine aY (λlr=>?_) (λlr=>?_)
 .obtain⟨q0,z0,b0,yW,Vx,rfl⟩:=xM ML lr;refine aA gy (have u:=u.drew;aB (v:=ia (J:SV)) oP u.p2.hb rfl (bF Rl u (H':=λv=>sep (bY p (eA lv q0)) (bH v z0)) (Φ:=λ_ _=>True) (λB G E=>?_) ?_))
  .exact(C132 p lv l (iG l s0 (kh #[108,105,110,101])).1 true q0 z0 B _ G (λw' hc=>(E w' hc).p2.dX) W (kz hi0) yW).mono λ_ _ r=>r.mono λ_ _ h=>⟨trivial,h⟩
  rintro x31 _ _ u;have u:=u.split;refine⟨aF oP (u.p3.hb.cell rfl),?_⟩;obtain⟨ZZ,rfl⟩:=u.p1.fJ;have u:=u.p1.freeze.dN (Ψ:=λw=>mh w ZZ z0) (λ_ h=>DL.j1 h);refine gh (s:=ZZ) (x:=z0) u pJ ee (λaqG _ u=>?_);refine⟨aF oP (u.p3.hb.cell rfl),?_⟩;have u:=u.p2;refine gi u pJ (by have h1:=gO List.length hy0;have h2:=Z.b1;simp at h1 |-;omega) ee (λs_x33 _ u=>aA gy ?_);obtain⟨Z0,rfl⟩:=u.oZ;exact aT u.p2 oP (dL rfl) (rfl) (λ_ u=>have u:=((((u.enc (cs':=j0 (⟨Z0,bX,bX,bX,bX,bX⟩:bP)) rfl).p4).p4).p4).p3;have u:=u.p4;⟨_,cK,q0,Z0,xs0++[z0],b0,yr (kz hi0) yW,Vx,by rw[hy0,n3];rfl,u⟩)
 obtain⟨O,rfl⟩:=u7 ML lr;replace O:=O.symm;subst O;rw[pL]at hy0;subst hy0;rw[xL lr]at u;have u:=((((((u.eL (α:=cJ)).p5).p5).p3).p5).p5).p5;refine⟨λmm w'=>∃(s1:fQ) (M:SV) (xs1 a1:List (List cJ)),lI l s1/\ng l akr (nu l true) mm s1=some (t2,a1)/\y2=xs1++a1/\St w aZ [bH (ia M) xs1.flatten,fU (ia J) y1,bY QF (j0 (⟨J,M,bX,bX,bX,bX⟩:bP)),bY p (eA lv s1),bH lv l,bY wm (j0 (⟨bX,bX,bX,bX,bX,bX⟩:bP))] w',⟨10000,s0,bX,[],y2,hi0,Z.h2,rfl,u⟩,?_⟩;rintro mm _ ⟨s1,M,xs1,a1,hi1,hm1,hy1,u⟩ _;obtain⟨m1,rfl⟩:=sT hm1
 refine bF yG u.p3 (H':=λ_=>bY p (eA lv (iG l s1 (kh #[118,111,108])).1)) (Φ:=λv _=>v=.bool (iG l s1 (kh #[118,111,108])).2) (λB G E=>?_) ?_
 .exact C131 p lv l s1 (kh #[118,111,108]) B _ G (λw' hc=>(E w' hc).p3.dX) W hi1
 rintro _ _ rfl u;refine aY (λCE=>?_) (λCE=>?_)
 .obtain⟨q1,z1,b1,V0,W6,rfl⟩:=xM hm1 CE;refine aA qf (have u:=u.drew;aB (v:=ia (M:SV)) jM u.p3.hb rfl (bF Rl u (H':=λv=>sep (bY p (eA lv q1)) (bH v z1)) (Φ:=λ_ _=>True) (λB G E=>?_) ?_))
  .exact(C132 p lv l (iG l s1 (kh #[118,111,108])).1 true q1 z1 B _ G (λw' hc=>(E w' hc).p3.dX) W (kz hi1) V0).mono λ_ _ r=>r.mono λ_ _ h=>⟨trivial,h⟩
  rintro x40 _ _ u;have u:=u.split;refine⟨aF jM (u.p4.hb.cell rfl),?_⟩;have aky:=u.p1.dX;refine bJ u.p2 im aky (by have:=Tm hy1;have:=Z.b2;omega) ee (λarD _ u=>have u:=u.p2.drop;aA qf ?_);obtain⟨Jk,rfl⟩:=u.fJ;refine aT u.p3 jM (dL rfl) (rfl) (λ_ u=>?_);have u:=((((u.enc (cs':=j0 (⟨J,Jk,bX,bX,bX,bX⟩:bP)) rfl).p5).p5).p4).p3;have u:=u.p5.p5;rw[<- Bm]at u;exact⟨_,cK,q1,Jk,xs1++[z1],b1,yr (kz hi1) V0,W6,by rw[hy1,n3];rfl,u⟩
 obtain⟨O,rfl⟩:=u7 hm1 CE;replace O:=O.symm;subst O;rw[pL]at hy1;subst hy1;rw[xL CE]at u;have u:=(((((((u.eL (α:=cJ)).p6).p6).p3).p6).p5).p6).p6;refine⟨λmm w'=>∃(s2:fQ) (V:SV) (xs2 a2:List (List cJ)),lI l s2/\ng l ZP (nu l false) mm s2=some (t3,a2)/\y3=xs2++a2/\St w aZ [bH (ia V) xs2.flatten,fU (ia J) y1,bH (ia M) y2.flatten,bY QF (j0 (⟨J,M,V,bX,bX,bX⟩:bP)),bY p (eA lv s2),bH lv l,bY wm (j0 (⟨bX,bX,bX,bX,bX,bX⟩:bP))] w',⟨10000,s1,bX,[],y3,hi1,Z.h3,rfl,u⟩,?_⟩;rintro mm _ ⟨s2,V,xs2,a2,Vz,hm2,hy2,u⟩ _
 obtain⟨m2,rfl⟩:=sT hm2;refine bF yG u.p4 (H':=λ_=>bY p (eA lv (iG l s2 (kh #[108,111,99,107])).1)) (Φ:=λv _=>v=.bool (iG l s2 (kh #[108,111,99,107])).2) (λB G E=>?_) ?_
 .exact C131 p lv l s2 (kh #[108,111,99,107]) B _ G (λw' hc=>(E w' hc).p4.dX) W Vz
 rintro _ _ rfl u;refine aY (λAU=>?_) (λAU=>?_)
 .obtain⟨q2,z2,b2,VH,hn2,rfl⟩:=xM hm2 AU;refine aA nQ (have u:=u.drew;aB (v:=ia (V:SV)) jM u.p4.hb rfl (bF Rl u (H':=λv=>sep (bY p (eA lv q2)) (bH v z2)) (Φ:=λ_ _=>True) (λB G E=>?_) ?_))
  .exact(C132 p lv l (iG l s2 (kh #[108,111,99,107])).1 false q2 z2 B _ G (λw' hc=>(E w' hc).p4.dX) W (kz Vz) VH).mono λ_ _ r=>r.mono λ_ _ h=>⟨trivial,h⟩
  rintro x48 _ _ u;have u:=u.split;refine⟨aF jM (u.p5.hb.cell rfl),?_⟩;have QG:=u.p1.dX;refine bJ u.p2 im QG (by have:=Tm hy2;have:=Z.b3;omega) ee (λs_x49 _ u=>have u:=u.p2.drop;aA nQ ?_);obtain⟨Z1,rfl⟩:=u.fJ;refine aT u.p4 jM (dL rfl) (rfl) (λ_ u=>?_);have u:=((((u.enc (cs':=j0 (⟨J,M,Z1,bX,bX,bX⟩:bP)) rfl).p6).p6).p4).p3;have u:=u.p6.p6.p6;rw[<- Bm]at u;exact⟨_,cK,q2,Z1,xs2++[z2],b2,yr (kz Vz) VH,hn2,by rw[hy2,n3];rfl,u⟩
 obtain⟨O,rfl⟩:=u7 hm2 AU;replace O:=O.symm;subst O;rw[pL]at hy2;subst hy2;rw[xL AU]at u;have u:=((((((((u.I1 (α:=cN)).p7).p7).p3).p7).p5).p7).p7).p7;refine⟨λmm w'=>∃(I:fQ) (v3:SV) (xs3 a3:List cN),lI l I/\ng l JT (aks l) mm I=some (t4,a3)/\y4=xs3++a3/\St w aZ [fU (ia v3) xs3,fU (ia J) y1,bH (ia M) y2.flatten,bH (ia V) y3.flatten,bY QF (j0 (⟨J,M,V,v3,bX,bX⟩:bP)),bY p (eA lv I),bH lv l,bY wm (j0 (⟨bX,bX,bX,bX,bX,bX⟩:bP))] w',⟨10000,s2,bX,[],y4,Vz,Z.h4,rfl,u⟩,?_⟩;rintro mm _ ⟨I,v3,xs3,a3,Y,hm3,hy3,u⟩ _
 obtain⟨m3,rfl⟩:=sT hm3;refine bF yG u.p5 (H':=λ_=>bY p (eA lv (iG l I (kh #[116,104,114,101,97,100])).1)) (Φ:=λv _=>v=.bool (iG l I (kh #[116,104,114,101,97,100])).2) (λB G E=>?_) ?_
 .exact C131 p lv l I (kh #[116,104,114,101,97,100]) B _ G (λw' hc=>(E w' hc).p5.dX) W Y
 rintro _ _ rfl u;refine aY (λuT=>?_) (λuT=>?_)
 .obtain⟨q3,z3,b3,hd3,hn3,rfl⟩:=xM hm3 uT;refine bF afv u (H':=λ_=>bY p (eA lv (fc l (iG l I (kh #[116,104,114,101,97,100])).1).1)) (Φ:=λv _=>v=ia (fc l (iG l I (kh #[116,104,114,101,97,100])).1).2) (λB G E=>?_) ?_
  .exact C133 p lv l (iG l I (kh #[116,104,114,101,97,100])).1 B _ G (λw' hc=>(E w' hc).p5.dX) W (kz Y)
  rintro _ _ rfl u;refine aM u oU (λb_c10 _ u=>aI (x:=(fc l (iG l I (kh #[116,104,114,101,97,100])).1).2) u mc rfl rfl λ_ u=>aA kG (have u:=u.drew;aB (v:=ia (v3:SV)) iB u.p6.hb rfl (aA kQ (aB (v:=.string (((fc l (iG l I (kh #[116,104,114,101,97,100])).1).2).name)) gw u.hb rfl (aA uF (aB (v:=hZ (((fc l (iG l I (kh #[116,104,114,101,97,100])).1).2).at_)) bM u.hb rfl (pop (OK _ _) (bF afw u.p1 (H':=λv=>pK λsh:cH=>fact (v=ia sh) (sep (bY p (eA lv q3)) (eD λw=>mh w sh z3))) (Φ:=λ_ _=>True) (λB G E=>?_) ?_))))))))
  .exact(C134 p lv l (fc l (iG l I (kh #[116,104,114,101,97,100])).1).1 ((fc l (iG l I (kh #[116,104,114,101,97,100])).1).2).name ((fc l (iG l I (kh #[116,104,114,101,97,100])).1).2).at_ q3 z3 B _ G (λw' hc=>(E w' hc).p6.dX) W (u6 (kz Y)) hd3).mono λ_ _ r=>r.mono λ_ _ h=>⟨trivial,h⟩
  rintro v_x63 _ _ xw;obtain⟨akA,y9⟩:=xw.eh
  clear xw
  obtain⟨akB,DN⟩:=y9.mz
  clear y9
  subst akB;have u:=DN.split
  clear DN
  refine⟨aF iB (u.p7.hb.cell rfl),?_⟩;have u:=u.p1;refine gh (s:=akA) (x:=z3) u fy ee (λarE _ u=>?_);refine⟨aF iB (u.p7.hb.cell rfl),?_⟩;have u:=u.p3;refine gi u fy (by have h1:=gO List.length hy3;have h2:=Z.b4;simp at h1 |-;omega) ee (λarF _ u=>aA kG ?_);obtain⟨Z2,rfl⟩:=u.oZ;exact aT u.p6 iB (dL rfl) (rfl) (λ_ u=>have u:=((((u.enc (cs':=j0 (⟨J,M,V,Z2,bX,bX⟩:bP)) rfl).p3).drop).p7).p7;have u:=u.p4.p3.p7.p7.p7.p7;⟨_,cK,q3,Z2,xs3++[z3],b3,FN (u6 (kz Y)) hd3,hn3,by rw[hy3,n3];rfl,u⟩)
 obtain⟨O,rfl⟩:=u7 hm3 uT;replace O:=O.symm;subst O;rw[pL]at hy3;subst hy3;rw[xL uT]at u;refine⟨λw'=>∃v4:SV,St w aZ [fU (ia v4) y5,fU (ia J) y1,bH (ia M) y2.flatten,bH (ia V) y3.flatten,fU (ia v3) y4,bY QF (j0 (⟨J,M,V,v3,v4,bX⟩:bP)),bY p (eA lv t5),bH lv l,bY wm (j0 (⟨bX,bX,bX,bX,bX,bX⟩:bP))] w',?_,?_⟩
 .refine bF yG u (H':=λ_=>bY p (eA lv (iG l I (kh #[114,101,99,111,118,101,114])).1)) (Φ:=λv _=>v=.bool (iG l I (kh #[114,101,99,111,118,101,114])).2) (λB G E=>?_) ?_
  .exact C131 p lv l I (kh #[114,101,99,111,118,101,114]) B _ G (λw' hc=>(E w' hc).p5.dX) W Y
  rintro _ _ rfl u;refine aY (λNz=>?_) (λNz=>?_)
  .obtain⟨z4,hd4,hy5⟩:=Ny Z.h5 Nz;obtain⟨ays,_,hlo68,hhi68⟩:=ZQ Nz;have hat68:(iG l I (kh #[114,101,99,111,118,101,114])).1.at_=I.at_+1:=by rw[ays]
   refine aA oQ (have u:=u.drew;aB (v:=ia (bX:SV)) iB u.p5.hb rfl (aE (aA fz (aB bM u.hb rfl (fh cK ?_)))));obtain⟨Z3,Z4⟩:=gx l (i:=(((iG l I (kh #[114,101,99,111,118,101,114])).1).at_-1).toNat) cK;refine dR u.p6 fL cK cK (λ_ Nm=>mA lO Nm λ_ arG=>nG Z3.at_ u.p6 bM arG Z4 rfl (pop (Wx _) ?_));have hbk:zT l (iG l I (kh #[114,101,99,111,118,101,114])).1=Z3.at_:=gO bT.at_ (Bl cK Z4);rw[hbk]at hd4;refine bF afw u (H':=λv=>pK λsh:cH=>fact (v=ia sh) (sep (bY p (eA lv t5)) (eD λw=>mh w sh z4))) (Φ:=λ_ _=>True) (λB G E=>?_) ?_
   .exact(C134 p lv l (iG l I (kh #[114,101,99,111,118,101,114])).1 (kh #[]) Z3.at_ t5 z4 B _ G (λw' hc=>(E w' hc).p5.dX) W (kz Y) hd4).mono λ_ _ r=>r.mono λ_ _ h=>⟨trivial,h⟩
   rintro v_x82 _ _ xw;obtain⟨akC,y9⟩:=xw.eh
   clear xw
   obtain⟨akD,DN⟩:=y9.mz
   clear y9
   subst akD;have u:=DN.split
   clear DN
   refine⟨aF iB (u.p6.hb.cell rfl),?_⟩;have u:=u.p1;refine gh (s:=akC) (x:=z4) u fy ee (λagG _ u=>?_);refine⟨aF iB (u.p6.hb.cell rfl),?_⟩;have u:=((u.I1 (α:=cN)).p1).p1;refine gi u fy ei ee (λapW _ u=>aA oQ ?_);obtain⟨Z5,rfl⟩:=u.oZ;refine aT u.p6 iB (dL rfl) (rfl) (λ_ u=>?_);have u:=(((((u.enc (cs':=j0 (⟨J,M,V,v3,Z5,bX⟩:bP)) rfl).p8).p8).p4).p3).p5;have u:=u.p8.p8.p8.p8;rw[hy5];exact⟨Z5,u⟩
  rw[xL Nz]at u;have u:=(((((((((u.I1 (α:=cN)).p8).p8).p3).p8).p5).p8).p8).p8).p8;obtain⟨e5,e6⟩:=Tl Z.h5 Nz;rw[e5,e6];exact⟨bX,u⟩
 rintro _ ⟨v4,u⟩ _;have u:=((((((((((u.I1 (α:=gS)).p9).p9).p9).p9).p5).p9).p9).p9).p9).p9;refine⟨λmm w'=>∃(U:fQ) (v5:SV) (xs5 a5:List gS),lI l U/\ng l JU (λs=>xK l s (zT l s)) mm U=some (t6,a5)/\y6=xs5++a5/\St w aZ [fU (ia v5) xs5,fU (ia J) y1,bH (ia M) y2.flatten,bH (ia V) y3.flatten,fU (ia v3) y4,fU (ia v4) y5,bY QF (j0 (⟨J,M,V,v3,v4,v5⟩:bP)),bY p (eA lv U),bH lv l,bY wm (j0 (⟨bX,bX,bX,bX,bX,bX⟩:bP))] w',⟨10000,t5,bX,[],y6,(aew Y Z.h5),Z.h6,rfl,u⟩,?_⟩;rintro mm _ ⟨U,v5,xs5,a5,hi5,hm5,hy5,u⟩ _
 obtain⟨m5,rfl⟩:=sT hm5;refine bF yG u.p7 (H':=λ_=>bY p (eA lv (iG l U (kh #[97,108,119,97,121,115])).1)) (Φ:=λv _=>v=.bool (iG l U (kh #[97,108,119,97,121,115])).2) (λB G E=>?_) ?_
 .exact C131 p lv l U (kh #[97,108,119,97,121,115]) B _ G (λw' hc=>(E w' hc).p7.dX) W hi5
 rintro _ _ rfl u;refine aY (λNA=>?_) (λNA=>?_)
 .obtain⟨q5,z5,b5,hd5,DD,rfl⟩:=xM hm5 NA;obtain⟨ayv,_,hlo87,hhi87⟩:=ZQ NA;have hat87:(iG l U (kh #[97,108,119,97,121,115])).1.at_=U.at_+1:=by rw[ayv]
  refine aA jw (have u:=u.drew;aB (v:=ia (v5:SV)) qQ u.p7.hb rfl (aE (aA fz (aB bM u.hb rfl (fh cK ?_)))));obtain⟨Z6,Z7⟩:=gx l (i:=(((iG l U (kh #[97,108,119,97,121,115])).1).at_-1).toNat) cK;refine dR u.p8 fL cK cK (λ_ arI=>mA lO arI λ_ arJ=>nG Z6.at_ u.p8 bM arJ Z7 rfl ?_);have hbk:zT l (iG l U (kh #[97,108,119,97,121,115])).1=Z6.at_:=gO bT.at_ (Bl cK Z7);rw[hbk]at hd5;refine bF amO u (H':=λv=>pK λsh:jA=>fact (v=ia sh) (sep (bY p (eA lv q5)) (eD λw=>mh w sh z5))) (Φ:=λ_ _=>True) (λB G E=>?_) ?_
  .exact(C135 p lv l (iG l U (kh #[97,108,119,97,121,115])).1 Z6.at_ q5 z5 B _ G (λw' hc=>(E w' hc).p7.dX) W (kz hi5) hd5).mono λ_ _ r=>r.mono λ_ _ h=>⟨trivial,h⟩
  rintro ayw _ _ xw;obtain⟨aex,y9⟩:=xw.eh
  clear xw
  obtain⟨aey,DN⟩:=y9.mz
  clear y9
  subst aey;have u:=DN.split
  clear DN
  refine⟨aF qQ (u.p8.hb.cell rfl),?_⟩;have u:=u.p1;refine gh (s:=aex) (x:=z5) u sX ee (λajM _ u=>?_);refine⟨aF qQ (u.p8.hb.cell rfl),?_⟩;have u:=u.p2;refine gi u sX (by have h1:=gO List.length hy5;have h2:=Z.b6;simp at h1 |-;omega) ee (λajN _ u=>aA jw ?_);obtain⟨Tn,rfl⟩:=u.oZ;exact aT u.p7 qQ (dL rfl) (rfl) (λ_ u=>have u:=(((((u.enc (cs':=j0 (⟨J,M,V,v3,v4,Tn⟩:bP)) rfl).p9).p9).p4).p3).p9;have u:=u.p9.p9.p9.p9.p9;⟨_,cK,q5,Tn,xs5++[z5],b5,UP (kz hi5) hd5,DD,by rw[hy5,n3];rfl,u⟩)
 obtain⟨O,rfl⟩:=u7 hm5 NA;replace O:=O.symm;subst O;rw[pL]at hy5;subst hy5;rw[xL NA]at u;obtain⟨hi50,hi51⟩:=id hi5;refine⟨λw'=>St w aZ [fU (ia v5) y6,fU (ia J) y1,bH (ia M) y2.flatten,bH (ia V) y3.flatten,fU (ia v3) y4,fU (ia v4) y5,bY QF (j0 (⟨J,M,V,v3,v4,v5⟩:bP)),bY p (eA lv (GA l U)),bH lv l,bY wm (j0 (⟨bX,bX,bX,bX,bX,bX⟩:bP))] w',aE (aA fz (aB bM u.hb rfl (aK fL u.p8.dX (aR (aC (λQH=>?_) λQH=>?_))))),?_⟩
 .refine bF Rm u (H':=λ_=>bY p (eA lv (jB l U 5))) (Φ:=λ_ _=>True) (λB G E=>?_) ?_
  .exact(C136 p lv l U B _ G (λw' hc=>(E w' hc).p7.dX) W hi5).mono λ_ _ r=>r.mono λ_ _ h=>⟨trivial,h.2⟩
  rintro _ _ _ u;have u:=u.p9.p9.p2.p9.p9.p9.p9.p9.p9.p9;have he6:GA l U=jB l U 5:=ew QH;rw[he6];exact u
 .have u:=u.p9.p9.p2.p9.p9.p9.p9.p9.p9.p9;have he6:GA l U=U:=ej QH;rw[he6];exact u
 intro _ u _;refine aE (aA mw (aB jN u.p7.hb rfl (bV (aC (λQI=>?_) λQI=>?_))))
 .refine pop (v:=ia (⟨bX,bX,bX,bX,bX,bX⟩:bP)) (by kernel_rfl) (aE (aA mw (have u:=u.drew;aB jN u.p7.hb rfl (aE (aA wR (aB bM u.p7.hb rfl (aI (x:=(⟨bX,bX,bX,bX,bX,bX⟩:bP)) u.p9 er rfl rfl λ_ u=>?_)))))));refine⟨aF jN (u.p8.hb.cell rfl),?_⟩;refine⟨aF bM (u.p8.hb.cell rfl),?_⟩;refine aD er u.At ?_;have u:=u.fu (Φ:=(λw=>mh w (⟨bX,bX,bX,bX,bX,bX⟩:bP) (⟨[],[],[],[],[],[]⟩:cE))) (λ_=>⟨_,_,_,_,_,_,rfl,DL.nil _,DL.nil _,DL.nil _,DL.nil _,DL.nil _,DL.nil _⟩);have u:=u.p1.drop.p1.drop.p1.drop.p1.drop.p1.drop.p1.drop.p1.drop.p1.drop.p1.drop
  have u:=u.p1.drop;rw[Z.bad QI];exact⟨_,rfl,u.fresh⟩
 refine aD er u.p6.At (aI (x:=(⟨J,M,V,v3,v4,v5⟩:bP)) u.p9 er rfl rfl λ_ u=>aD er u.At ?_);have u:=u.p2.mX.p3.freeze.p1.gR.p3.freeze.p1.gR.p3.mX.p1.gR.p3.mX.p1.gR;have u:=u.p2.mX.p1.gR.dN (Ψ:=(λw=>mh w (⟨J,M,V,v3,v4,v5⟩:bP) (⟨y1,y2.flatten,y3.flatten,y4,y5,y6⟩:cE))) (λ_ h=>⟨_,_,_,_,_,_,rfl,h.1.1.1.1.1,DL.j1 h.1.1.1.1.2,DL.j1 h.1.1.1.2,h.1.1.2,h.1.2,h.2⟩);have u:=u.p1.drop.p1.drop.p1.drop.p1.drop;rw[Z.ayj QI];exact⟨_,rfl,u.fresh⟩
theorem NB{l:List Int}{k:Nat}(u:0<k)(h:k<=l.length):fV (l.take k)=l.getD (k-1) 0+1:=by
 grind[fV]
def DO{f:Int->List km}{a k:Int}{xs:List km}{x:km}(h:x∈pP f a xs k):x∈xs\/x∈f k:=by
 unfold pP at h;grind
def H7{m:Mem}{c n:Int}(h:wB m):wB (fo m c n):=by
 unfold fo
 split
 .rename_i tj
  unfold Gv at tj;rw[decide_eq_true_eq]at tj
  refine⟨h.MK,h.fl,by show(m.l.set _ _).length=_;rw[GR];exact h.ll,h.kl,h.ofr,h.lb,λk x u=>?_⟩
  dsimp only at u
  split at u
  .rename_i hc
   rcases DO u with h1|h1
   .rw[pU]at h1
    rcases h1 with h1|h1
    .exact h.pc _ x h1
    grind
   exact h.pc _ x h1
  exact h.pc _ x u
 exact h
def aez{m:Mem}{c:Int}(h:wB m):wB (n7 m c):=by
 unfold n7
 split
 .refine⟨h.MK,h.fl,h.ll,by show(nN _ _).length=_;rw[xA];exact h.kl,h.ofr,h.lb,λk x u=>?_⟩
  rcases DO u with h1|h1
  .cases h1
  exact h.pc _ x h1
 exact h
def UX{m:Mem}{cut u:List Int}(h:fD m cut=some u):u.length=m.kept.length:=by
 unfold fD at h;split at h
 .cases h;exact pe _ _ _
 cases h
def UY{m:Mem}{cut u:List Int}(h:wB m)(hi:fD m cut=some u):wB (mJ m u):=by
 have h1:=UX hi
 have h2:=h.kl;have h3:=h.MK
 refine⟨h.MK,h.fl,?_,?_,h.ofr,h.lb,λk x B=>by cases B⟩
 .show(u++m.dU.drop u.length).length=m.dU.length
  rw[la,List.length_drop];omega
 show u.length=m.of.length;omega
section
def H8{u:Mem}{x:bI}(h:wB u):wB (jV u x)/\(jV u x).of=u.of/\(jV u x).dU=u.dU:=by
 unfold jV
 split
 .exact⟨H7 h,HF _ _ _,ug _ _ _⟩
 split
 .grind
 exact⟨aez h,ad4 _ _,MP _ _⟩
end
def MB.mono{B:Mem}{a b:Nat}(h:MB B a)(u:a<=b):MB B b:=λk=>Nat.le_trans (h k) u
def MB.write{u:Mem}{c x:Int}{n:Nat}(h:MB u n):MB (fo u c x) (n+1):=by
 intro k
 unfold fo
 split
 .dsimp only
  split
  .unfold pP
   split
   .rw[la,mv];have:=h (u.of.getD c.toNat 0);omega
   have:=h k;omega
  have:=h k;omega
 have:=h k;omega
theorem MB.out{u:Mem}{c:Int}{n:Nat}(h:MB u n):MB (n7 u c) n:=by
 intro k
 unfold n7
 split
 .dsimp only
  unfold pP
  split
  .simp
  exact h k
 exact h k
theorem MB.jV{u:Mem}{x:bI}{n:Nat}(h:MB u n):MB (jV u x) (n+1):=by
 unfold Go.Proofs.YtpdlpabnlkofmaaGreatDoor.jV
 split
 .exact h.write
 split
 .exact h.mono (Kf n)
 exact h.out.mono (Kf n)
theorem akE{α:Type}{g:α->Bool}{l:List α}(h:0<=sm g l):sm g l<l.length:=by
 unfold sm at h |-
 cases hf:l.findIdx? g with
 | none=>grind
 | some k=>
  have:=(List.findIdx?_eq_some_iff_getElem.1 hf).1
  grind
def Z8{ns:List ByteArray}{s:ByteArray}(h:0<=cU ns s):cU ns s<ns.length:=akE h
theorem Ex.arK(ns:List ByteArray)(t:Ex):t.wf->∀n h:Int,0<=n->∃O,(t.steps ns).foldl Vt (some (n,h))=some (n+1,O):=by
 induction t with
 | leaf x=>
  intro B n h G
  have u:kids x.op=0:=B
  have E:eE x.op=0:=by
   unfold kids at u
   unfold eE
   omega
  simp_all[Vt,steps]
 | un x a M=>
  intro B n h G
  have u:kids x.op=1:=B.1
  have E:eE x.op=1:=by
   unfold kids at u
   unfold eE
   omega
  obtain⟨h1,J⟩:=M B.2 n h G
  simp_all[Vt,steps]
 | bin x a b U I=>
  intro B n h G
  have u:kids x.op=2:=B.1
  have E:eE x.op=2:=by
   unfold kids at u
   unfold eE
   omega
  obtain⟨h1,J⟩:=U B.2.1 n h G
  obtain⟨h2,V⟩:=I B.2.2 (n+1) h1 cK
  refine⟨max h2 (n+1),?_⟩
  grind[Vt,steps]
def JV{k:Int}(h:kids k=0\/kids k=1\/kids k=2):1<=k/\k<=15:=by
 unfold kids at h
 omega
theorem Ex.UZ(ns:List ByteArray)(t:Ex):t.wf->∀o∈t.steps ns,∃x∈t.flat,o=⟨x.op,numOf ns x⟩/\1<=x.op/\x.op<=15:=by
 induction t with
 | leaf x=>intro B o u;exact⟨x,by simp[Ex.flat],by simpa[Ex.steps]using u,JV (.inl B)⟩
 | un x a G=>
  intro B o u
  have u:o∈a.steps ns++[⟨x.op,numOf ns x⟩]:=u
  rw[pU]at u
  rcases u with u|u
  .obtain⟨y,h1,h2⟩:=G B.2 o u;exact⟨y,by simp[Ex.flat,h1],h2⟩
  .exact⟨x,by simp[Ex.flat],dD,JV (.inr (.inl B.1))⟩
 | bin x a b I E=>
  intro B o u
  have u:o∈a.steps ns++b.steps ns++[⟨x.op,numOf ns x⟩]:=u
  rw[pU,pU]at u
  rcases u with(u|u)|u
  .obtain⟨y,h1,h2⟩:=I B.2.1 o u;exact⟨y,by simp[Ex.flat,h1],h2⟩
  .obtain⟨y,h1,h2⟩:=E B.2.2 o u;exact⟨y,by simp[Ex.flat,h1],h2⟩
  .exact⟨x,by simp[Ex.flat],dD,JV (.inr (.inr B.1))⟩
def NC{ns:List ByteArray}{l:List cA}{many:Int}(G:fC l=true)(E:pa l ns=false)(hm:many=ns.length):mB (qA ns l) many=true/\(qA ns l).length<=40:=by
 have CW:=G
 unfold fC at G
 simp only[ob,sk,decide_eq_true_eq,AK]at G
 obtain⟨⟨⟨h1,h2⟩,h3⟩,h4⟩:=G
 obtain⟨t,U⟩:=Option.isSome_iff_exists.1 h2
 obtain⟨M,O⟩:=vt U
 have hv0:=E
 unfold pa at E
 have Y:kW ns l=0:=by grind[kW]
 have V:qA ns l=t.steps ns:=by unfold qA;rw[ew Y];unfold BX;rw[U]
 rw[V]
 have hlen:(t.steps ns).length<=40:=by rw[Ex.pN,<- Ex.cY,<- O];exact h1
 obtain⟨Z,e'⟩:=t.arK ns M 0 0 (NI _)
 have W:ht (t.steps ns)=some (1,Z):=by unfold ht;grind
 refine⟨?_,hlen⟩
 unfold mB htN
 rw[W]
 simp only[Option.isSome_some,decide_true,Bool.and_true,ob,decide_eq_true_eq,sk,AK]
 refine⟨hlen,λo ho=>?_⟩
 obtain⟨x,I,rfl,Rh,xl⟩:=t.UZ ns M o ho
 rw[<- O]at I
 have u:=h3 x I
 unfold lj at u
 simp only[Bool.or_eq_true,decide_eq_true_eq,not_or,ob,sk,not_and,Bool.not_eq_false]at u
 obtain⟨⟨⟨⟨g1,g2⟩,g3⟩,g4⟩,g5⟩:=u
 have hn:Ex.numOf ns x=if x.op=2 then cU ns x.name else x.n:=rfl
 unfold q8
 simp only[decide_eq_true_eq]
 rintro(⟨B,J⟩|⟨B,J⟩|⟨B,J,q3⟩)
 .omega
 .have B:x.op=2:=B
  rw[hn,ew B]at J
  rw[AK]at E
  have:=E x I
  simp only[ob,decide_eq_true_eq,not_and]at this
  have h5:=this B
  have h6:=Z8 (ns:=ns) (s:=x.name) cK
  omega
 omega
theorem vI:∀(ls:List (List cJ)) (i a:Int),0<=a->(∀l∈ls,l≠[])->i<=js ls i a/\(∀b,a<=b->js ls i a<=js ls i b)/\(js ls i (a+1)=js ls i a\/js ls i (a+1)=js ls i a+1)
 | [],i,a,B,_=>⟨by unfold js;omega,λb hb=>by unfold js;omega,by unfold js;omega⟩
 | l::r,i,a,B,hl=>by
  have U:0<l.length:=List.length_pos_iff.2 (hl l (o1 ..))
  have u:=λl E=>hl l (qX _ E)
  unfold js
  by_cases h1:a<l.length
  .rw[ew h1]
   refine⟨NI _,λb hb=>?_,?_⟩
   .split
    .omega
    .have:=(vI r (i+1) (b-l.length) cK u).1;omega
   .split
    .omega
    .have e:a+1-(l.length:Int)=0:=cK
     rw[e]
     cases r with
     | nil=>unfold js;omega
     | cons O I=>
      simp_all[js]
  .rw[ej h1]
   obtain⟨M,J,G⟩:=vI r (i+1) (a-l.length) cK u
   grind
section
variable {p:cE}
theorem qN(p:cE):0<=ey p/\ey p<=(iu p).length:=by grind[ey,iu]
theorem ND{c:Int}(h:0<=c/\c<(iu p).length):pC p c=js p.lines 0 c:=by unfold pC;omega
end
section
variable {m:gN}{t:jY}{i:Int}{x:bQ}{p:cE}
theorem Z9:(eb m t i x).1.l=m.l:=by
 unfold eb rJ pE;grind
theorem Cq:(eb m t i x).1.room=m.room:=by
 unfold eb rJ pE;grind
theorem akF:(eb m t i x).1.p=m.p:=by
 unfold eb rJ pE;grind
theorem Cr:(eb m t i x).2.1.cG=t.cG:=by
 unfold eb pg pZ;grind
theorem vJ:(eb m t i x).2.1.names=t.names:=by
 unfold eb pg pZ;grind
theorem U1{room:Int}{l:List bI}{y:bI}:(sH room l y).length<=l.length\/((sH room l y).length:Int)<=room:=by
 grind[sH]
theorem JW{φ:bQ->Prop}(h:sL φ t)(B:m.room<=16):sL φ (eb m t i x).2.1:=by
 have h1:=h.p;have h2:=h.rl;have h3:=h.nb;have h4:=h.bl;have h5:=h.cl
 have u:∀y,sL φ (pZ m t y):=λy=>by
  have h6:=U1 (room:=m.room) (l:=t.buf) (y:=y)
  exact⟨h1,h2,h3,by show(sH m.room t.buf y).length<=1000;omega,h5⟩
 unfold eb;repeat' split
 all_goals first
  | exact h
  | exact h.set _ _
  | exact u _
theorem aaa(h:wB m.mem):wB (eb m t i x).1.mem/\(eb m t i x).1.mem.of=m.mem.of/\(eb m t i x).1.mem.dU=m.mem.dU:=by
 unfold eb rJ pE;repeat' split
 all_goals first
  | exact⟨h,rfl,rfl⟩
  | exact⟨H7 h,HF _ _ _,ug _ _ _⟩
theorem aeA{n:Nat}(h:MB m.mem n):MB (eb m t i x).1.mem (n+1):=by
 unfold eb rJ pE;repeat' split
 all_goals first
  | exact h.mono (Kf n)
  | exact h.write
theorem aeB:(eb m t i x).1.eV.length=m.eV.length:=by
 unfold eb rJ pE;grind
theorem JX{φ:bQ->Prop}(h:sL φ t):sL φ {t with cG:=gB t.cG}:=by
 refine h.cG h.p.pop ?_
 match hp:t.cG with
 | []=>exact o6 _
 | (.nil,_)::q=>grind[gW,gB]
 | (.cons y a b r,e)::q=>have:=Qc (p:=(.cons y a b r,e)::q) rfl;omega
theorem NF{cs ls:List ByteArray}(h:ym cs ls t):Zu (goD t):=λu=>SK _ (qL h).1 h u
theorem U3(u:oK m)(ht:t∈m.l):ym (cT m.p) (cM m.p) (ui m t i x)/\Zu (ui m t i x)/\(ui m t i x).names=t.names:=by
 have h1:sL (Uw (cT m.p) (cM m.p) t.names) { (eb m t i x).2.1 with cG:=gB (eb m t i x).2.1.cG}:=JX (JW (u.th t ht) u.rm.2)
 have h2:ym (cT m.p) (cM m.p) { (eb m t i x).2.1 with cG:=gB (eb m t i x).2.1.cG}:=by
  show sL (Uw _ _ (eb m t i x).2.1.names) _
  rw[vJ];exact h1
 exact⟨(qL h2).2.1,NF h2,(qL h2).2.2.trans vJ⟩
theorem u9{β:Type}{l:List β}{k:Nat}{a y:β}(h:y∈l.set k a):y=a\/y∈l:=(QX h).symm
theorem aab(u:oK m):oK (iy m i).1/\(iy m i).1.p=m.p/\(∀n,MB m.mem n->MB (iy m i).1.mem (n+1))/\(iy m i).1.l.length=m.l.length:=by
 unfold iy
 split
 .exact⟨u,rfl,λn h=>h.mono (Kf n),rfl⟩
 rename_i t ht
 have G:=kE ht
 split
 .exact⟨⟨u.mem,u.th,u.tl,u.ow,u.rm,u.st,u.pz⟩,rfl,λn h=>h.mono (Kf n),rfl⟩
 split
 .exact⟨u,rfl,λn h=>h.mono (Kf n),rfl⟩
 rename_i x _ _ _
 split
 .exact⟨⟨u.mem,u.th,u.tl,u.ow,u.rm,u.st,u.pz⟩,rfl,λn h=>h.mono (Kf n),rfl⟩
 obtain⟨I,J,_⟩:=U3 (i:=i) (x:=x) u G
 have E:=akF (m:=m) (t:=t) (i:=i) (x:=x)
 refine⟨⟨(aaa u.mem).1,λy B=>?_,by show(m.l.set _ _).length<=_;rw[GR];exact u.tl,?_,by show 1<=(eb m t i x).1.room/\_;rw[Cq];exact u.rm,λy B=>?_,?_⟩,E,λn h=>aeA h,GR⟩
 .show ym (cT (eb m t i x).1.p) (cM (eb m t i x).1.p) y
  rw[E]
  rcases u9 B with rfl|B
  .exact I
  exact u.th y B
 .show(eb m t i x).1.eV.length=(cM (eb m t i x).1.p).length
  rw[aeB,E];exact u.ow
 .rcases u9 B with rfl|B
  .exact J
  exact u.st y B
 show PZ (eb m t i x).1.p;rw[E];exact u.pz
theorem QJ{l:List bI}{i:Int}:(jU l i).length<=l.length:=by
 grind[jU]
theorem aeC{q:aS}(u:oK m)(ht:m.l[q.t.toNat]?=some t):oK (tf m t q)/\(∀n,MB m.mem n->MB (tf m t q).mem (n+1)):=by
 have E:=kE ht
 have h1:=u.th t E
 refine⟨⟨(H8 u.mem).1,λy B=>?_,by show(m.l.set _ _).length<=_;rw[GR];exact u.tl,u.ow,u.rm,λy B=>?_,u.pz⟩,λn h=>h.jV⟩
 .rcases u9 B with rfl|B
  .have:=QJ (l:=t.buf) (i:=q.i)
   exact⟨h1.p,h1.rl,h1.nb,by show(jU t.buf q.i).length<=1000;have:=h1.bl;omega,h1.cl⟩
  exact u.th y B
 rcases u9 B with rfl|B
 .exact u.st t E
 exact u.st y B
structure GC(p:cE):Prop where
 f:PF p
 big:uS p=false
 w:∀t∈gm p,rj t.body=false
 tw:kx (fP p)=false
 u:∀t∈gm p,∀x∈t.body,nc p t.dQ x=false
theorem vK(h:fm p=0):GC p:=by
 unfold fm at h
 split at h
 .cases h
 rename_i h1
 split at h
 .cases h
 rename_i h2
 split at h
 .cases h
 rename_i h3
 split at h
 .cases h
 rename_i h4
 split at h
 .cases h
 rename_i h5
 split at h
 .cases h
 rename_i h6
 simp only[Bool.not_eq_true,AK]at h2 h3 h4 h6
 exact⟨qD dD,h2,λt ht=>dD,h4,λt ht x u=>dD⟩
theorem JY:∀(b:Bk) (n:Int),b.ok n=true->∀x∈b.flat,x.eu<=0\/x.kind=11
 | .nil,_,_,_,h=>by cases h
 | .cons y a b r,n,h,x,u=>by
  unfold Bk.ok at h
  simp only[ob]at h
  obtain⟨⟨⟨h1,h2⟩,h3⟩,h4⟩:=h
  unfold Bk.flat at u
  rcases sl.1 u with rfl|u
  .unfold Bk.yg at h1;grind
  .rcases pU.1 u with u|u
   .exact JY a _ h2 x u
   .rcases pU.1 u with u|u
    .exact JY b _ h3 x u
    .exact JY r _ h4 x u
theorem FP{l:List cA}(h:fC l=true):l.length<=40:=by
 unfold fC at h
 grind
theorem H9{l:List cA}(h:fC l=true):∀y∈l,y.name.size<=1000:=λy B=>by
 have u:lj y=false:=by
  unfold fC at h
  grind
 unfold lj gK at u
 by_cases h2:y.op=2
 .grind
 .have:y.name=⟨#[]⟩:=dD
  rw[this];decide
theorem akG(hc:GC p){t:cN}(ht:t∈gm p){x:bQ}(I:x∈t.body)(G:m9 x=true)(U:x.eu<=0\/x.kind=11):Uw (cT p) (cM p) t.dQ x:=by
 have E:=hc.u t ht x I
 have Y:=Jg G
 have u:=yj G
 unfold nc at E
 simp only[Jc,Bool.and_eq_false_iff,decide_eq_false_iff_not,vh]at E
 obtain⟨⟨⟨⟨⟨B,Z⟩,V⟩,W⟩,_⟩,_⟩:=E
 have J:x.e.length<=1000:=by
  rcases u.e with h|h
  .have:=FP h.2;omega
  grind
 have M:x.f.length<=1000:=by
  rcases u.f with h|h
  .have:=FP h.2;omega
  grind
 refine⟨u.kind,⟨J,M⟩,λh=>cK,λh=>cK,λh=>?_,λh=>cK,λh=>cK,?_,?_⟩
 rotate_left
 .rcases u.e with h|h
  .exact H9 h.2
  grind
 .rcases u.f with h|h
  .exact H9 h.2
  grind
 rcases B with B|B
 .exfalso
  have O:=u.eF
  rcases O with⟨_,h2⟩|⟨h1,_⟩
  .rw[B,MA]at h2;cases h2
  have hk:=u.kind
  rcases h with h|h|h<;>rw[h]at h1<;>exact absurd h1 ee
 omega
theorem va:∀(b:Bk) (n:Int),1<=n->n<=64->mG b n=false->(∀x∈b.flat,x.kind=12->1<=x.n)->n.toNat*lZ b<=128*b.len
 | .nil,n,_,_,_,_=>by simp[lZ]
 | .cons y a b r,n,h1,h2,hw,G=>by
  rw[vy]at hw
  simp only[Jc,decide_eq_false_iff_not]at hw
  obtain⟨⟨J,u,I⟩,Y⟩:=hw
  have U:∀x∈a.flat,x.kind=12->1<=x.n:=λx B=>G x (by unfold Bk.flat;simp[B])
  have W:∀x∈b.flat,x.kind=12->1<=x.n:=λx B=>G x (by unfold Bk.flat;simp[B])
  have qr:∀x∈r.flat,x.kind=12->1<=x.n:=λx B=>G x (by unfold Bk.flat;simp[B])
  have ir:=va r n h1 h2 Y qr
  rw[sK]
  unfold Bk.len
  obtain⟨k,rfl⟩:=N2 (show 0<=n by omega)
  rw[qa]at ir |-
  by_cases E:y.kind=12
  .rw[ew E]
   have O:=G y (by unfold Bk.flat;grind) E
   unfold ri at J u
   rw[ew E]at J u
   obtain⟨j,V⟩:=N2 (show 0<=y.n by omega)
   rw[V]at J u O
   rw[V,qa]
   have M:(1:Int)<=(k:Int)*(j:Int):=by
    have:=Int.mul_le_mul (a:=1) (b:=1) (c:=(k:Int)) (d:=(j:Int)) h1 O cK cK
    omega
   have Z:=va a _ M cK u U
   grind
  .rw[ej E]
   unfold ri at u I
   rw[ej E]at u I
   have Z:=va a k h1 h2 u U
   have ib:=va b k h1 h2 I W
   grind
theorem NG{b:Bk}(h:b.str):HN b.flat=b:=by unfold HN;rw[rO h];rfl
theorem DP(hc:GC p){t:cN}(ht:t∈gm p):ym (cT p) (cM p) (wq t):=by
 obtain⟨_,h2,_⟩:=hc.f.qS ht
 obtain⟨h3,h4,b,h5,h6,J,_⟩:=lx h2
 have hb:HN t.body=b:=by rw[h5];exact NG h6
 have I:C6 (Uw (cT p) (cM p) t.dQ) b:=(Uu b).2 λx u=>by
  rw[<- h5]at u
  exact akG hc ht u (h4 x u) (JY b 0 J x dD)
 have U:Fz (Uw (cT p) (cM p) t.dQ) []:=⟨λ_ h=>(by cases h),λ_ h=>(by cases h),λ_ h=>(by cases h)⟩
 have E:=hc.w t ht
 rw[h5,vv h6]at E
 have O:=va b 1 cK cK E λx u M=>(((Jg (h4 x dD)).2 M).1)
 have V:b.len<=40:=by rw[<- Bk.cY,<- h5];exact h3
 have G:t.dQ.length<=4:=by
  have B:=hc.big
  unfold uS at B
  grind
 refine⟨?_,by simp[wq],by show t.dQ.length<=1000;omega,by simp[wq],?_⟩
 .show Fz _ (jt (HN t.body) false [])
  rw[hb];exact U.push h6 I
 show gW (jt (HN t.body) false [])<=10000
 rw[hb,sJ]
 grind[lZ,gW]
theorem aac:ym (cT p) (cM p) (wq ⟨⟨#[]⟩,[],[],0⟩):=by
 refine⟨⟨λ_ h=>(by cases h),λ_ h=>(by cases h),λ_ h=>(by cases h)⟩,rfl,(by decide:(0:Nat)<=1000),(by decide:(0:Nat)<=1000),(by decide:(0:Nat)<=10000)⟩
theorem Ia{l:List cN}(G:wB m.mem)(J:1<=m.room/\m.room<=16)(I:PZ m.p)(E:l.length<=1000)(h:∀t∈l,ym (cT m.p) (cM m.p) (wq t)):oK (qU m l):=by
 refine⟨G,λt ht=>?_,by show(l.map UA).length<=1000;rw[List.length_map];exact E,by show(List.replicate _ _).length=_;rw[List.length_replicate];rfl,J,λt ht=>?_,I⟩
 .obtain⟨u,B,rfl⟩:=oj.1 ht
  exact(qL (h u B)).2.1
 obtain⟨u,B,rfl⟩:=oj.1 ht
 exact NF (h u B)
theorem JZ(hc:GC m.p):(u5 m).length<=1/\∀t∈u5 m,ym (cT m.p) (cM m.p) (wq t):=by
 unfold u5
 split
 .exact⟨o6 _,λt ht=>by rw[List.mem_singleton.1 ht];exact aac⟩
 exact⟨hc.f.one,λt ht=>DP hc (List.mem_append_right _ ht)⟩
theorem J0{k:Nat}{x:aS}(h:x∈ij m k):∃i t,i<k/\m.l[i]?=some t/\x∈rH m i t:=by
 unfold ij at h
 grind
theorem QK{i:Nat}{t:jY}{x:aS}(h:x∈rH m i t):x.t=i/\x.cut=[]/\((x.kind=1/\sP m t=true/\x.i=0)\/(x.kind=2/\x.i∈pD t.buf)):=by
 unfold rH at h
 grind
theorem akI{q:aS}(h:(gU m).any (nd q)=true):m.fault=0/\0<=q.t/\q.cut.length=0/\∃t,m.l[q.t.toNat]?=some t/\((q.kind=1/\sP m t=true)\/(q.kind=2/\q.i∈pD t.buf)):=by
 rw[List.any_eq_true]at h
 obtain⟨x,u,B⟩:=h
 unfold gU at u
 split at u
 .cases u
 rename_i hf
 obtain⟨i,t,_,ht,E⟩:=J0 u
 obtain⟨h1,_,h2⟩:=QK E
 unfold nd at B
 simp only[ob,decide_eq_true_eq]at B
 have e:q.t=(i:Int):=cK
 refine⟨cK,cK,B.2,t,by rw[e];exact ht,?_⟩
 rcases h2 with⟨a,b,_⟩|⟨a,b⟩
 .exact .inl ⟨cK,b⟩
 exact .inr ⟨cK,by rw[<- B.1.2];exact b⟩
theorem NH(h:sP m t=true):∃x a b,pf t.cG=some (x,a,b):=by
 unfold sP at h
 grind
theorem akJ{q:aS}(u:oK m)(hc:GC m.p):oK (n8 m q).1/\(n8 m q).1.p=m.p/\(∀n,MB m.mem n->MB (n8 m q).1.mem (n+1)):=by
 unfold n8
 cases hi:iT m q with
 | some B=>
  have G:fD m.mem q.cut=some B:=by unfold iT at hi;grind
  obtain⟨I,E⟩:=JZ hc
  refine⟨Ia (UY u.mem G) u.rm u.pz cK E,rfl,λn h k=>?_⟩
  show([]:List km).length<=_
  grind
 | none=>
  dsimp only
  split
  .split
   .split
    .rename_i t ht
     obtain⟨h1,h2⟩:=aeC u ht
     exact⟨h1,rfl,h2⟩
    .exact⟨u,rfl,λn h=>h.mono (Kf n)⟩
   .obtain⟨h1,h2,h3,_⟩:=aab (i:=q.t) u
    grind
  .exact⟨u,rfl,λn h=>h.mono (Kf n)⟩
theorem J1{i:Nat}(h:i<(cT p).length):(Be p)[i]?=some (pC p i):=by grind[Be,pC]
theorem Bo(p:cE):(cT p).length=(iu p).length:=by unfold cT;grind
theorem aad(hc:GC p):(iu p).length<=20:=by
 have hb:=hc.big
 unfold uS at hb
 simp only[Jc,AK,decide_eq_false_iff_not,decide_eq_true_eq]at hb
 obtain⟨⟨h1,_⟩,⟨⟨⟨⟨h2,h3⟩,_⟩,_⟩,_⟩,_⟩:=hb
 have h4:∀ls:List (List cJ),(∀l∈ls,¬ 4<(l.length:Int))->ls.flatten.length<=4*ls.length:=by
  intro ls
  induction ls with
  | nil=>grind
  | cons l r u=>
   grind
 grind[iu]
theorem QL(hc:GC p){k:Nat}{n:Int}(I:(k:Int)<ey p)(G:(Be p)[k]?=some n):(n=tI (Be p) k\/(0<k/\n=tI (Be p) k-1))/\0<=n/\n<=k:=by
 have O:=qN p
 have M:=Bo p
 have B:∀l∈p.lines,l≠[]:=λl E=>(hc.f.lines l E).1
 have J:∀j:Nat,(j:Int)<ey p->(Be p)[j]?=some (js p.lines 0 j):=λj U=>by rw[J1 cK,ND cK]
 rw[J k I]at G;cases G
 have u:∀j:Nat,js p.lines 0 j<=j:=by
  intro j
  induction j with
  | zero=>
   cases E:p.lines with
   | nil=>unfold js;omega
   | cons l r=>
    grind[js]
  | succ j V=>
   have:=(vI p.lines 0 (j:Int) cK B).2.2
   grind
 refine⟨?_,(vI p.lines 0 (k:Int) cK B).1,u k⟩
 cases k with
 | zero=>
  left
  have:=u 0
  have:=(vI p.lines 0 ((0:Nat):Int) cK B).1
  show _=0
  omega
 | succ k=>
  have h3:=(vI p.lines 0 (k:Int) cK B).2.2
  have e:((k+1:Nat):Int)=(k:Int)+1:=cK
  have W:tI (Be p) (k+1)=js p.lines 0 (k:Int)+1:=by
   unfold tI;grind
  grind
theorem aae(hc:GC p):wB (JC (Be p) (ey p) (eW p)):=by
 have Z:=qN p
 have Y:=Bo p
 have U:=aad hc
 have O:∀l∈p.lines,l≠[]:=λl B=>(hc.f.lines l B).1
 have V:(Be p).length=(iu p).length:=by grind[Be,iu]
 have W:(eW p).length=(iu p).length:=by unfold eW;grind
 have B:((Be p).take (ey p).toNat).length=(ey p).toNat:=dD
 have E:∀j:Nat,(j:Int)<ey p->(Be p)[j]?=some (js p.lines 0 j):=λj hj=>by rw[J1 cK,ND cK]
 have u:0<(ey p).toNat->fV ((Be p).take (ey p).toNat)=js p.lines 0 ((ey p).toNat-1:Nat)+1:=λG=>by
  rw[NB G cK,og,E _ cK];rfl
 refine⟨?_,?_,rfl,?_,λn M=>?_,?_,λk x J=>by cases J⟩
 .show((Be p).take (ey p).toNat).length<=(eW p).length;omega
 .show(eW p).length<=20;omega
 .show((eW p).take (ey p).toNat).length=((Be p).take (ey p).toNat).length;grind
 .obtain⟨i,hi⟩:=List.mem_iff_getElem?.1 (show n∈(Be p).take (ey p).toNat from M)
  have I:=(kp.1 hi).1
  rw[B]at I
  rw[List.getElem?_take,ew I,E i cK]at hi
  cases hi
  show 0<=_/\_<fV ((Be p).take (ey p).toNat)
  rw[u cK]
  have h3:=vI p.lines 0 (i:Int) cK O
  grind
 show fV ((Be p).take (ey p).toNat)<=20
 by_cases G:(ey p).toNat=0
 .rw[G,List.take_zero];decide
 rw[u cK]
 have:=(QL hc (k:=(ey p).toNat-1) cK (E _ cK)).2.2
 omega
theorem aeD(u:PZ p)(hc:GC p){room:Int}(B:1<=room/\room<=16):oK (gY p room):=by
 refine Ia (m:=xH p room) (aae hc) B u (by have:=u.threads;omega) λt ht=>DP hc (List.mem_append_left _ ht)
end
def hdC(g:Int->Nat)(u B:Nat)(x:bQ):Nat:=
 if x.kind=11 then g 12+max (u+(if 0<x.eu then g 11 else 0)) B
 else if x.kind=12 then g 13+x.n.toNat*(u+g 14)
 else if x.kind=13 then g 11 else g (if x.kind=14 then 15 else x.kind)
def tot(g:Int->Nat):Bk->Nat
 | .nil=>0
 | .cons x a b r=>hdC g (tot g a) (tot g b) x+tot g r
def arM(x:bQ)(a b r:Bk)(at_:Int):Int:=at_+(yS (.cons x a b r)-yS r)
def W(g:Int->Nat):Bk->Int->Int->List Int->Int->Nat->Nat->Option Nat
 | .nil,at_,_,_,pos,u,_=>if pos=at_ then some u else none
 | .cons x a b r,at_,lp,cs,pos,u,B=>
  if arM x a b r at_<=pos then W g r (arM x a b r at_) lp cs pos u B
  else if pos=at_ then(if x.kind=13 then some (g 11+B)else some (hdC g (tot g a) (tot g b) x+(tot g r+u)))
  else if x.kind=11 then(if pos<toT x a at_ then W g a (at_+1) lp cs pos ((if 0<x.eu then g 11 else 0)+(tot g r+u)) B else W g b (toT x a at_) lp cs pos (tot g r+u) B)
  else if x.kind=12 then(if 1<=cs.getD lp.toNat 0/\cs.getD lp.toNat 0<=8 then W g a (at_+1) (lp+1) cs pos (g 14+((cs.getD lp.toNat 0).toNat-1)*(tot g a+g 14)+(tot g r+u)) (tot g r+u)else none)
  else none
theorem Bp{x y:aS}:x=y↔x.kind=y.kind/\x.t=y.t/\x.i=y.i/\x.cut=y.cut:=by
 cases x;cases y;simp
def J2{α:Type}{xs ys:List α}{k:Nat}{x y:α}(h:xs.take k=ys.take k)(B:xs[k]?=some x)(u:ys[k]?=some y)(e:x=y):xs.take (k+1)=ys.take (k+1):=by
 rw[<- gJ B,<- gJ u,h,e]
def arN{α:Type}{xs ys:List α}{k:Nat}{x y:α}(B:xs[k]?=some x)(u:ys[k]?=some y)(e:x≠y):xs≠ys:=λh=>by
 grind
def C19(av bv:Value)(xs ys:List aS)(w:World)(hA:DL w av xs)(hB:DL w bv ys)(hn:xs.length<=1073741824)(hc:∀x∈xs,x.cut.length<=1000000):CR 19 [av,bv] w (λv w'=>v=.bool (decide (xs=ys))/\Ext w w'):=by
 have u:=St.start w;refine oM Tryz.func19 (pl:=P19) ?_;obtain⟨arO,M,U⟩:=hA.open;have arP:=U.1;refine aK gg (M.ext u.aG) ?_;obtain⟨arQ,O,ag6⟩:=hB.open;have hn133:=ag6.1;refine aK gg (O.ext u.aG) (bV (aC (λ_=>⟨vb (fN λh=>by rw[h]at arP;omega).symm,u.aG⟩) λgI=>?_));refine⟨λmm i w'=>∃k:Nat,i=hZ (k:Int)/\mm=xs.length-k/\k<=xs.length/\xs.take k=ys.take k/\St w aZ [] w',⟨_,0,rfl,rfl,l1 _,rfl,u⟩,?_⟩;rintro mm _ _ ⟨k,rfl,rfl,hk,G,u⟩ _;refine aK gg (M.ext u.aG) (aR (aC (λjF=>?_) λ_=>⟨vb (ez (by rw[kO cK,kO cK]at G;exact G)).symm,u.aG⟩))
 obtain⟨ra,J⟩:=gx xs (i:=k) cK;obtain⟨rb,I⟩:=gx ys (i:=k) cK;refine⟨λjv w'=>jv=.bool (!decide (ra=rb))/\St w aZ [] w',?_,?_⟩
 .obtain⟨lW,Z⟩:=gx arO (i:=(k:Int).toNat) cK;obtain⟨bN,lG⟩:=gx xs (i:=(k:Int).toNat) cK;obtain⟨U4,rfl,U5⟩:=U.2 _ _ _ Z lG;refine aQ gg M cK Z (λ_ lS=>bW bN.kind mW lS rfl rfl λ_ Ml=>have u:=u.drew;aD bM (Ml.ext u.aG) ?_);obtain⟨iK,Y⟩:=gx arQ (i:=(k:Int).toNat) cK;obtain⟨V,W⟩:=gx ys (i:=(k:Int).toNat) cK;obtain⟨U6,rfl,U7⟩:=ag6.2 _ _ _ Y W;refine aQ gg O cK Y (λ_ wY=>bW V.kind mW wY rfl rfl λ_ Ff=>aD bM (Ff.ext u.aG) ?_)
  have E:ra=bN:=oi.inj (J.symm.trans lG);have B:rb=V:=oi.inj (I.symm.trans W);have hcx:=hc _ (kE lG);refine bV (aC (λ_=>⟨vb (by rw[E,B];rw[fN λh=>by rw[Bp]at h;omega];rfl),u⟩) λlr=>aQ gg M cK Z λ_ sw=>bW bN.t lE sw rfl rfl λ_ xp=>aD bM (xp.ext u.aG) (aQ gg O cK Y λ_ AR=>bW V.t lE AR rfl rfl λ_ xk=>aD bM (xk.ext u.aG) (bV (aC (λ_=>⟨vb (by rw[E,B];rw[fN λh=>by rw[Bp]at h;omega];rfl),u⟩) λAO=>aQ gg M cK Z λ_ uY=>bW bN.i qg uY rfl rfl λ_ EK=>aD bM (EK.ext u.aG) (aQ gg O cK Y λ_ EX=>bW V.i qg EX rfl rfl λ_ XZ=>aD bM (XZ.ext u.aG) (bV (aC (λ_=>⟨vb (by rw[E,B];rw[fN λh=>by rw[Bp]at h;omega];rfl),u⟩) λuT=>aQ gg M cK Z λ_ EY=>bW U4 ma EY rfl rfl λ_ A3=>aD eg (A3.ext u.aG) ?_)))))))
  have arR:=DL.flat U5;refine aQ gg O cK Y (λ_ Fg=>bW U6 ma Fg rfl rfl λ_ LI=>aD eg (LI.ext u.aG) ?_);have arS:=DL.flat U7;exact aV amG u (C71 _ _ bN.cut V.cut _ (arR.ext u.aG) (arS.ext u.aG) cK) (λ_ _ u=>bR ⟨vb (by rw[E,B];exact gO (λb=>!b) (ga.2 (by rw[Bp];exact⟨λh=>⟨cK,cK,cK,h⟩,λh=>h.2.2.2⟩))),u⟩)
 rintro _ _ ⟨rfl,u⟩ _;exact aY (λwW=>⟨vb (fN (arN J I (by simpa using wW))).symm,u.aG⟩) (λwW=>aN cK ⟨_,cK,k+1,rfl,rfl,cK,J2 G J I (by simpa using wW),u⟩)
theorem NK{ns:List Int}{many:Int}(B:yy ns):∀{xs:List oA}{S:List Int},yy S->(∀x∈xs,q8 many x=false)->eZ (wo ns xs S).1
 | [],S,u,_=>Ly u
 | x::r,S,u,h=>by
  unfold wo
  split
  .exact NK B (W3 B u (h x (o1 ..))) λy E=>h y (qX _ E)
  .exact iF
def aeE{xs:List oA}{ns:List Int}(B:yy ns):eZ (runM xs ns).1:=by
 unfold runM
 split
 .rename_i h
  exact NK B (λv u=>by cases u) (yO h).2.2
 exact iF
def yy.set{S:List Int}(h:yy S){i:Nat}{v:Int}(B:eZ v):yy (S.set i v):=λe u=>by
 rcases QX u with h1|rfl
 .exact h e h1
 .exact B
def Ex.val(ns:List ByteArray)(nums:List Int):Ex->Int×Int
 | .leaf x=>(if x.op=2 then nums.getD (cU ns x.name).toNat 0 else x.n,0)
 | .un x a=>if (a.val ns nums).2=0 then(yx x.op (a.val ns nums).1,0)else(0,(a.val ns nums).2)
 | .bin x a b=>if (a.val ns nums).2=0 then(if (b.val ns nums).2=0 then(gz x.op (a.val ns nums).1 (b.val ns nums).1,gD x.op (b.val ns nums).1)else(0,(b.val ns nums).2))else(0,(a.val ns nums).2)
theorem Ex.FQ(ns:List ByteArray)(nums:List Int)(x:cA)(a:Ex):(Ex.un x a).val ns nums=if (a.val ns nums).2=0 then(yx x.op (a.val ns nums).1,0)else(0,(a.val ns nums).2):=rfl
theorem Ex.Bq(ns:List ByteArray)(nums:List Int)(x:cA)(a b:Ex):(Ex.bin x a b).val ns nums=if (a.val ns nums).2=0 then(if (b.val ns nums).2=0 then(gz x.op (a.val ns nums).1 (b.val ns nums).1,gD x.op (b.val ns nums).1)else(0,(b.val ns nums).2))else(0,(a.val ns nums).2):=rfl
theorem zU{k:Int}(h:0<=kids k):eE k=kids k:=by
 grind[eE,kids]
theorem sU(S:List Int)(v:Int):kc (S++[v])=v:=by
 grind[kc]
theorem FR(S:List Int)(v:Int):(S++[v]).take ((S++[v]).length-1)=S:=by
 simp_all
theorem QM(S:List Int)(v u:Int):(S++[v]++[u]).take ((S++[v]++[u]).length-2)=S:=by
 simp_all
theorem U8(ns:List ByteArray)(nums:List Int):∀(t:Ex),t.wf->∀(r:List oA) (S:List Int),wo nums (t.steps ns++r) S=if (t.val ns nums).2=0 then wo nums r (S++[(t.val ns nums).1])else(0,(t.val ns nums).2):=by
 intro t
 induction t with
 | leaf x=>
  intro E r S
  have G:kids x.op=0:=E
  have u:eE x.op=0:=by rw[zU cK,G]
  show(if vq S ⟨x.op,Ex.numOf ns x⟩=0 then wo nums r (lu nums S ⟨x.op,Ex.numOf ns x⟩)else _)=_
  have h1:vq S ⟨x.op,Ex.numOf ns x⟩=0:=by unfold vq;rw[show eE (⟨x.op,Ex.numOf ns x⟩:oA).kind=0 from u];rfl
  have h2:lu nums S ⟨x.op,Ex.numOf ns x⟩=S++[((Ex.leaf x).val ns nums).1]:=by
   unfold lu;rw[ew (show eE (⟨x.op,Ex.numOf ns x⟩:oA).kind=0 from u)]
   show S++[if x.op=2 then nums.getD (Ex.numOf ns x).toNat 0 else Ex.numOf ns x]=S++[if x.op=2 then _ else _]
   unfold Ex.numOf
   split<;>simp[*]
  rw[ew h1,h2];rfl
 | un x a O=>
  intro E r S
  have G:kids x.op=1:=E.1
  have u:eE x.op=1:=by rw[zU cK,G]
  show wo nums (a.steps ns++[⟨x.op,Ex.numOf ns x⟩]++r) S=_
  rw[n3,O E.2,Ex.FQ]
  by_cases B:(a.val ns nums).2=0
  .rw[ew B,ew B]
   show(if vq _ ⟨x.op,Ex.numOf ns x⟩=0 then wo nums r (lu nums _ ⟨x.op,Ex.numOf ns x⟩)else _)=_
   have h1:∀J,vq J ⟨x.op,Ex.numOf ns x⟩=0:=λJ=>by unfold vq;rw[show eE (⟨x.op,Ex.numOf ns x⟩:oA).kind=1 from u];rfl
   rw[ew (h1 _)]
   unfold lu
   rw[ej (show ¬ eE (⟨x.op,Ex.numOf ns x⟩:oA).kind=0 by show ¬ eE x.op=0;omega),ew (show eE (⟨x.op,Ex.numOf ns x⟩:oA).kind=1 from u),sU,FR]
   rfl
  .rw[ej B,ej B,ej B]
 | bin x a b U M=>
  intro E r S
  have G:kids x.op=2:=E.1
  have u:eE x.op=2:=by rw[zU cK,G]
  show wo nums (a.steps ns++b.steps ns++[⟨x.op,Ex.numOf ns x⟩]++r) S=_
  rw[n3,n3,U E.2.1,Ex.Bq]
  by_cases B:(a.val ns nums).2=0
  .rw[ew B,ew B,M E.2.2]
   by_cases hb:(b.val ns nums).2=0
   .rw[ew hb,ew hb]
    show(if vq _ ⟨x.op,Ex.numOf ns x⟩=0 then wo nums r (lu nums _ ⟨x.op,Ex.numOf ns x⟩)else _)=_
    have h1:vq (S++[(a.val ns nums).1]++[(b.val ns nums).1]) ⟨x.op,Ex.numOf ns x⟩=gD x.op (b.val ns nums).1:=by
     unfold vq;rw[ew (show eE (⟨x.op,Ex.numOf ns x⟩:oA).kind=2 from u),sU]
    rw[h1]
    by_cases I:gD x.op (b.val ns nums).1=0
    .rw[ew I,ew I]
     unfold lu
     rw[ej (show ¬ eE (⟨x.op,Ex.numOf ns x⟩:oA).kind=0 by show ¬ eE x.op=0;omega),ej (show ¬ eE (⟨x.op,Ex.numOf ns x⟩:oA).kind=1 by show ¬ eE x.op=1;omega),sU,FR,sU,QM]
    .rw[ej I,ej I]
   .rw[ej hb,ej hb,ej hb]
  .rw[ej B,ej B,ej B]
theorem U9{ns:List ByteArray}{nums:List Int}{xs:List cA}(h:kW ns xs=0)(I:ns.length=nums.length):∃t,BE xs 0 t/\pR ns nums xs=t.val ns nums/\(∀y∈xs,y.op=2->0<=cU ns y.name)/\∀y∈xs,eZ y.n:=by
 unfold kW at h
 split at h
 .cases h
 rename_i u
 have u:fC xs=true:=dD
 split at h
 .cases h
 rename_i hv
 have U:=zA u
 obtain⟨t,ht⟩:=BE.of (xs:=xs) (i:=0) cK
 obtain⟨h1,h2⟩:=ht.zero U
 have J:kW ns xs=0:=by grind[kW]
 have B:=(NC (ns:=ns) (l:=xs) (many:=(nums.length:Int)) u (by simpa[pa]using hv) cK).1
 refine⟨t,ht,?_,λy G h2=>?_,λy G=>?_⟩
 .unfold pR runM
  rw[ew I,ew J,ew B]
  have M:qA ns xs=t.steps ns:=by unfold qA BX;grind
  have:=U8 ns nums t ht.2.1 [] []
  rw[pL]at this
  rw[M,this]
  split
  .rename_i h0
   show(kc ([]++_),0)=_
   rw[sU,<- h0]
  rename_i h0
  have E:∀t:Ex,¬ (t.val ns nums).2=0->(t.val ns nums).1=0:=by
   intro t
   cases t with
   | leaf x=>intro h;exact absurd rfl h
   | un x a=>rw[Ex.FQ];split<;>intro h<;>first|exact absurd rfl h|rfl
   | bin x a b=>
    rw[Ex.Bq];repeat' split
    all_goals intro h
    .show gz _ _ _=0;unfold gz;rw[ej h]
    .rfl
    .rfl
  rw[<- E t h0]
 .grind
 have O:lj y=false:=by
  unfold fC at u
  grind
 unfold lj at O
 unfold eZ
 grind
theorem Ex.QN{ns:List ByteArray}{nums:List Int}(u:yy nums):∀t:Ex,(∀y∈t.flat,eZ y.n)->eZ (t.val ns nums).1
 | .leaf x,h=>by
  unfold Ex.val;dsimp only
  split
  .rw[og]
   cases hh:nums[(cU ns x.name).toNat]? with
   | none=>exact iF
   | some e=>exact u e (kE hh)
  .exact h x (List.mem_singleton_self x)
 | .un x a,h=>by rw[Ex.FQ];split;exact W0;exact iF
 | .bin x a b,h=>by
  rw[Ex.Bq];repeat' split
  .exact WZ (Ex.QN u a λy B=>h y (by simp[Ex.flat,B]))
  .exact iF
  .exact iF
abbrev Dq:=bQ×Bk×Bk×Bool
def DU:Bool->Bk->List Dq
 | _,.nil=>[]
 | e,.cons x a b r=>(x,a,b,e)::DU false r
def we:PD->List Dq
 | []=>[]
 | q::p=>DU q.2 q.1++we p
def FT(p:PD):Prop:=∀q∈p,q.2=true->∃x a,q.1=Bk.cons x a .nil .nil
def uq:List Dq->List Dq
 | []=>[]
 | q::l=>if q.2.2.2=true then l else uq l
section
variable {p:PD}{b:Bk}{x:bQ}{a:Bk}{t:jY}{l:List Dq}
theorem vc:we (jt b false p)=DU false b++we p:=by cases b<;>rfl
theorem Br{c:Bk}(h:pf p=some (x,a,c)):∃e,we p=(x,a,c,e)::we (gB p):=by
 obtain⟨r,e,u,rfl⟩:=HH h
 exact⟨e,by show _::(DU false r++we u)=_::we (jt r false u);rw[vc]⟩
theorem Ic:∀b:Bk,uq (DU false b++l)=uq l
 | .nil=>rfl
 | .cons _ _ _ r=>Ic r
theorem Ie:∀{p:PD},FT p->we (ky p)=uq (we p)
 | [],_=>rfl
 | (b,true)::p,h=>by
  obtain⟨x,a,hb⟩:=h _ (o1 ..) rfl
  have hb:b=Bk.cons x a .nil .nil:=hb
  subst hb;rfl
 | (b,false)::p,h=>by
  show we (ky p)=uq (DU false b++we p)
  rw[Ic,Ie λq u=>h q (qX _ u)]
theorem Va(h:¬ x.n=0):we (mK x a p)=DU false a++({x with n:=x.n-1},a,.nil,true)::we (gB p):=by
 unfold mK;rw[ej h,vc];rfl
theorem Ig:∀(l:List Dq) (k:Nat),(∀j q,j<k->l[j]?=some q->q.2.2.2=false)->(∀q,l[k]?=some q->q.2.2.2=true)->k<=l.length->uq l=l.drop (k+1)
 | [],k,_,_,_=>by simp[uq]
 | q::l,0,_,h,_=>by
  simp_all[Dq,uq]
 | q::l,k+1,h1,h2,h3=>by
  have:=h1 0 q cK rfl
  show(if q.2.2.2=true then l else uq l)=_
  rw[ej dD,Ig l k (λj B E u=>h1 (j+1) B cK u) (λB u=>h2 B u) dD]
  rfl
theorem FT.tail{q:Bk×Bool}(h:FT (q::p)):FT p:=λr u=>h r (qX _ u)
theorem FT.push(h:FT p):FT (jt b false p):=by
 cases b with
 | nil=>exact h
 | cons x a c r=>
  grind[FT,jt]
theorem FT.pop(h:FT p):FT (gB p):=by
 match p,h with
 | [],h=>exact h
 | (.nil,_)::p,h=>exact h.tail
 | (.cons x a b r,_)::p,h=>exact h.tail.push
theorem FT.leave:∀{p:PD},FT p->FT (ky p)
 | [],h=>h
 | (_,e)::p,h=>by
  unfold ky;split
  .exact h.tail
  .exact h.tail.leave
theorem FT.round(h:FT p):FT (mK x a p):=by
 unfold mK;split
 .exact h.pop
 refine FT.push λq u B=>?_
 rcases sl.1 u with rfl|u
 .grind
 exact h.pop q u B
theorem aeF:p.length<=(we p).length\/∃q∈p,q.1=.nil:=by
 induction p with
 | nil=>left;simp
 | cons q p u=>
  rcases u with u|⟨r,B,h⟩
  .cases hb:q.1 with
   | nil=>grind
   | cons x a c r=>left;show p.length+1<=(DU q.2 q.1++we p).length;rw[hb];simp only[DU,la,oE];omega
  grind
theorem To:∀(e:Bool) (b:Bk),(DU e b).length<=lZ b
 | _,.nil=>l1 _
 | _,.cons x a b r=>by have:=To false r;simp only[DU,oE];rw[sK];omega
theorem FU:∀p:PD,(we p).length<=gW p
 | []=>l1 _
 | q::p=>by have:=FU p;have:=To q.2 q.1;rw[pY];show(DU q.2 q.1++we p).length<=_;grind
end
structure Mo(m:Mem):Prop where
 l:yy m.l
 k:yy m.kept
 f:yy m.dU
 p:∀k,∀x∈m.fK k,eZ x.n
theorem FV:∀{ws:List km}{k:List Int},yy k->(∀x∈ws,eZ x.n)->yy (nN k ws)
 | [],k,u,_=>u
 | w::ws,k,u,h=>by
  show yy (nN (k.set w.cell.toNat w.n) ws)
  exact FV (u.set (h w (o1 ..))) λx B=>h x (qX _ B)
section
variable {m:Mem}
theorem Mo.write(h:Mo m){c n:Int}(B:eZ n):Mo (fo m c n):=by
 unfold fo
 split
 .refine⟨h.l.set B,h.k,h.f,λk x u=>?_⟩
  dsimp only at u
  split at u
  .rcases DO u with h1|h1
   .rcases pU.1 h1 with h2|h2
    .exact h.p _ x h2
    grind
   exact h.p _ x h1
  exact h.p _ x u
 exact h
theorem Mo.out(h:Mo m){n:Int}:Mo (n7 m n):=by
 unfold n7
 split
 .refine⟨h.l,FV h.k (h.p _),h.f,λk x u=>?_⟩
  rcases DO u with h1|h1
  .cases h1
  exact h.p _ x h1
 exact h
theorem NL(h:Mo m)(cut:List Int):∀k,yy (pX m cut k)
 | 0=>h.k
 | k+1=>by
  have u:=NL h cut k
  unfold pX at u |-
  rw[List.range_succ,List.foldl_append]
  exact FV u λx B=>h.p _ x (List.mem_of_mem_take B)
theorem Mo.arT(h:Mo m){cut u:List Int}(hi:fD m cut=some u):Mo (mJ m u):=by
 have B:yy u:=by
  unfold fD at hi
  split at hi
  .cases hi;exact NL h cut _
  .cases hi
 refine⟨λv E=>?_,B,h.f,λk x G=>by cases G⟩
 rcases pU.1 (show v∈u++m.dU.drop u.length from E)with h1|h1
 .exact B v h1
 exact h.f v (List.mem_of_mem_drop h1)
theorem aah(h:Mo m)(c:Int):eZ (jH m c):=by
 unfold jH
 split
 .rw[og]
  cases hg:m.l[c.toNat]? with
  | none=>exact iF
  | some v=>exact h.l v (kE hg)
 exact iF
end
theorem aai{l:List bI}{c:Int}(h:∀y∈l,eZ y.n):eZ ((ly l c).getD 0):=by
 unfold ly
 cases hf:l.reverse.find? (λx=>decide (x.kind=3/\x.cell=c))with
 | none=>exact iF
 | some y=>grind
theorem Vb{l:List bI}{i:Int}(h:∀y∈l,eZ y.n):eZ (dH l i).n:=by
 unfold dH
 split
 .cases hg:l[i.toNat]? with
  | none=>exact iF
  | some y=>grind
 exact iF
def Vc{l:List bI}{i:Int}{y:bI}(h:y∈jU l i):y∈l:=by
 unfold jU at h
 split at h
 .exact List.mem_of_mem_eraseIdx h
 exact h
def aaj{room:Int}{l:List bI}{x y:bI}(h:y∈sH room l x):y∈l\/y=x:=by
 unfold sH at h
 grind
structure BG(t:jY):Prop where
 r:yy t.dQ
 b:∀y∈t.buf,eZ y.n
def aeG{ns:List ByteArray}{nums:List Int}{xs:List cA}(h:yy nums):eZ (pR ns nums xs).1:=by
 unfold pR
 repeat' split
 .exact aeE h
 .exact iF
 exact iF
def J3{t:jY}{xs:List cA}(h:yy t.dQ):eZ (eI t xs).1:=by
 unfold eI;split
 .exact iF
 exact aeG h
def BG.goS{t:jY}(h:BG t):BG (qK t).1:=by
 unfold qK
 split
 .exact h
 split
 .unfold qJ
  repeat' split
  all_goals first|exact⟨h.r.set (J3 h.r),h.b⟩|exact⟨h.r,h.b⟩
 exact⟨h.r,h.b⟩
theorem BG.goF:∀(n:Nat) {t tR:jY},BG t->te n t=some tR->BG tR
 | 0,_,_,_,u=>by cases u
 | n+1,t,tR,h,u=>by
  unfold te at u
  split at u
  .exact BG.goF n h.goS u
  .cases u;exact h.goS
theorem BG.go{t:jY}(h:BG t):BG (goD t):=by
 unfold goD
 cases hg:te (gW t.cG+1) t with
 | none=>exact h
 | some tR=>exact BG.goF _ h hg
def BG.th(t:cN):BG (UA t):=BG.go ⟨λv B=>by rw[(List.mem_replicate.1 B).2];exact iF,λy u=>by cases u⟩
structure J4(m:gN):Prop where
 th:∀t∈m.l,BG t
 mem:Mo m.mem
section
variable {m:gN}{t:jY}
theorem aak{i:Int}{x:bQ}(h:Mo m.mem)(h2:BG t):BG (eb m t i x).2.1/\Mo (eb m t i x).1.mem:=by
 have J:=λc=>aah h c
 have E:∀c,eZ (ik m t c):=λc=>by
  unfold ik
  split
  .exact aai h2.b
  grind
 have B:∀y:bI,eZ y.n->BG (pZ m t y):=λy M=>⟨h2.r,λz I=>by
  rcases aaj I with h3|h3
  .exact h2.b z h3
  grind⟩
 have hc:Mo (rJ m t x).mem:=by
  unfold rJ;split
  .exact h.write (J3 h2.r)
  .exact h
 have u:∀n,eZ n->BG (pg t x.eF n):=λn G=>⟨h2.r.set G,h2.b⟩
 unfold eb
 repeat' split
 all_goals first
  | exact⟨u _ (E _),h⟩
  | exact⟨B _ (J3 h2.r),h⟩
  | exact⟨B _ iF,h⟩
  | exact⟨h2,h⟩
  | exact⟨u _ (J _),hc⟩
theorem J4.step{i:Int}(h:J4 m):J4 (iy m i).1:=by
 unfold iy
 split
 .exact h
 rename_i t ht
 have B:=h.th t (kE ht)
 split
 .exact⟨h.th,h.mem⟩
 split
 .exact h
 rename_i x _ _ _
 split
 .exact⟨h.th,h.mem⟩
 obtain⟨h1,h2⟩:=aak (i:=i) (x:=x) h.mem B
 refine⟨λt' u=>?_,h2⟩
 rcases u9 u with rfl|h3
 .exact BG.go ⟨h1.r,h1.b⟩
 exact h.th t' h3
theorem J4.out{q:aS}(h:J4 m)(ht:m.l[q.t.toNat]?=some t):J4 (tf m t q):=by
 have h2:=h.th t (kE ht)
 refine⟨λt' u=>?_,?_⟩
 .rcases u9 u with rfl|h3
  .exact⟨h2.r,λy B=>h2.b y (Vc B)⟩
  exact h.th t' h3
 show Mo (jV m.mem (dH t.buf q.i))
 unfold jV
 split
 .exact h.mem.write (Vb h2.b)
 split
 .exact h.mem
 exact h.mem.out
theorem J4.begin{l:List cN}(h:Mo m.mem):J4 (qU m l):=⟨λt ht=>by
 obtain⟨u,_,rfl⟩:=oj.1 (show t∈l.map UA from ht);exact BG.th u,h⟩
theorem J4.do{q:aS}(h:J4 m):J4 (n8 m q).1:=by
 unfold n8
 cases hi:iT m q with
 | some u=>
  have B:fD m.mem q.cut=some u:=by unfold iT at hi;grind
  exact J4.begin (m:=pj m u) (h.mem.arT B)
 | none=>
  dsimp only
  split
  .split
   .split
    .rename_i t ht;exact h.out ht
    .exact h
   .exact h.step
  .exact h
end
def NM(V:Option Addr)(Zl Zm:Nat)(I:Option Addr)(Y Zo:Nat)(u:Option Addr)(O U:Nat)(M5:Option Addr)(Z M7:Nat)(E:Option Addr)(G Na:Nat)(B:Option Addr)(Zr J:Nat)(W:Int)(M:Option Addr):pr hH (l4 44 [(0,.agg [.slice V Zl Zm,.slice I Y Zo,.slice u O U,.slice M5 Z M7,.slice E G Na,.slice B Zr J].toArray),(1,hZ W),(3,.pointer M)].toArray)=some (.agg [.slice V Zl Zm,.slice I Y Zo,.slice u O U,.slice M5 Z M7,.slice E G Na,.slice B Zr J,hZ W,hZ 0,.pointer M,.slice none 0 0,.slice none 0 0,hZ 0,hZ 0].toArray):=by kernel_rfl
def FW(B:Int)(G:Int)(u:Int)(E:Bool):pr hH (l4 114 [(0,hZ B),(1,hZ G),(2,hZ u),(3,.bool E)].toArray)=some (.agg [hZ B,hZ G,hZ u,.bool E,.bool false].toArray):=by kernel_rfl
def xN(B:Option Addr)(J V:Nat)(M:Option Addr)(O U:Nat)(E:Option Addr)(G u:Nat)(I:Option Addr):pr hH (l4 132 [(0,.slice B J V),(1,.slice M O U),(2,.slice E G u),(3,.pointer I)].toArray)=some (.agg [.slice B J V,.slice M O U,.slice E G u,.pointer I,hZ 0].toArray):=by kernel_rfl
def J5(V:Int)(O:ByteArray)(G:ByteArray)(M5:Option Addr)(Z M7:Nat)(J:Option Addr)(M Na:Nat)(I:Int)(E:Int)(B:Int)(u:Int)(Y:Option Addr)(U c1:Nat)(a2:Option Addr)(W c2:Nat):pr hH (l4 218 [(0,.agg [hZ V,.string O,.string G,.slice M5 Z M7,.slice J M Na,hZ I,hZ E,hZ B,hZ u].toArray),(1,.slice Y U c1),(2,.slice a2 W c2)].toArray)=some (.agg [hZ V,.string O,.string G,.slice M5 Z M7,.slice J M Na,hZ I,hZ E,hZ B,hZ u,.slice Y U c1,.slice a2 W c2,.bool false].toArray):=by kernel_rfl
structure pB where
 x:bE
 body:SV
 eu:SV
 in_:Bool
instance:Flat pB where
 agg:=true
 sz:=12
 enc e:=[hZ e.x.kind,.string e.x.eF,.string e.x.name,.slice e.x.e.a e.x.e.n e.x.e.cap,.slice e.x.f.a e.x.f.n e.x.f.cap,hZ e.x.n,hZ e.x.body,hZ e.x.eu,hZ e.x.at_,.slice e.body.a e.body.n e.body.cap,.slice e.eu.a e.eu.n e.eu.cap,.bool e.in_]
 val e:=.agg [hZ e.x.kind,.string e.x.eF,.string e.x.name,.slice e.x.e.a e.x.e.n e.x.e.cap,.slice e.x.f.a e.x.f.n e.x.f.cap,hZ e.x.n,hZ e.x.body,hZ e.x.eu,hZ e.x.at_,.slice e.body.a e.body.n e.body.cap,.slice e.eu.a e.eu.n e.eu.cap,.bool e.in_].toArray
 pos:=ee
 len _:=rfl
 one a v h:=by simp at h;rcases h with rfl|rfl|rfl|rfl|rfl|rfl|rfl|rfl|rfl|rfl|rfl|rfl<;>rfl
 oH _ _:=rfl
 oI h:=by cases h
variable (w:World) (K:Value->hM)
def S128(B:Value):Prop:=
 bS 130 0 [] w λa b=>oq (λG I E c=>∀_:Env,
 lN 141 B λd=>bA .lss 3 E d λe=>cV e (iA 141 B E λf=>lA 193 f c λg=>aL 193 c λh j=>sA 193 h g j λk=>bB .add 3 E (i 1) λl=>fA 193 h 6 λn=>lA 3 n k λo=>
 bA .add 3 l o λp=>fA 193 h 7 λq=>lA 3 q k λr=>bA .add 3 p r λs=>lA 193 h (drew k) λt=>bB .add 3 E (i 1) λu=>eP hH (n4 141 B (some u) (some p) none) λv=>
 eP hH (n4 141 B (some p) (some s) none) λx=>eP hH (l4 218 [(0,t),(1,v),(2,x)].toArray) λy=>bS 130 1 [(0,y)] (drew k) λz O=>
 aP 130 I z O λJ M=>G J s M) (K I c)) (λG=>G a (i 0) b)
def ayC:dI:=λi=>match i with
 | 6=>.run 0 15
 | _=>.nil
theorem aeH(u:Value)(h:S128 w K u):CR 128 [u] w K:=
 qm 42 ayC 4 [.tmp 2] Tryz.func128 h
def S13(p0 U:Value):Prop:=
 qZ hH (zx 27 p0) w λp2 a=>lA 27 p2 a λb=>cF 57 [b] a λc d=>xT c 0 λe=>xT c 1 λ_=>bB .neq 31 e (i 0) λf=>cV f (K (.tuple #[(.pointer none),e]) d) (
 cF 58 [U] d λg h=>xT g 0 λ_=>xT g 1 λj=>bB .neq 31 j (i 0) λk=>cV k (K (.tuple #[(.pointer none),j]) h) (bS 41 0 [] h λl n=>oq (λI E B o=>∀_:Env,
 lA 27 p2 o λp=>cF 59 [p] o λq r=>lN 23 q λs=>bA .lss 3 B s λt=>cV t (lA 27 p2 r λu=>cF 60 [u,B] r λv x=>bS 41 1 [(0,v)] x λy z=>aP 41 E y z λaa Z=>
 bB .add 3 B (i 1) λac=>I aa ac Z) (lA 27 p2 (drew r) λad=>lA 27 p2 (drew r) λM=>cF 62 [ad] (drew r) λaf W=>kA 27 p2 M W (cF 63 [M] W λah ai=>cF 61 [E,af,ah] ai λV O=>
 xT V 0 λal=>xT V 1 λ_=>lA 27 p2 O λam=>eP hH (l4 44 [(0,am),(1,U),(3,al)].toArray) λan=>qZ hH (zx 44 an) O λJ Y=>
 fA 27 p2 3 λaq=>lA 24 aq Y λar=>cF 64 [J,ar] Y λ_ G=>K (.tuple #[J,(i 0)]) G))) λI=>I l (i 0) n))
def P13:dI:=λi=>match i with
 | 12=>(.of [(0,[]),(1,[]),(3,[]),(2,[3]),(4,[]),(5,[]),(6,[]),(7,[]),(8,[]),(9,[]),(10,[])])
 | _=>.nil
theorem akN(p0 u:Value)(h:S13 w K p0 u):CR 13 [p0,u] w K:=
 qm 64 P13 48 [.tmp 4,.tmp 5] Tryz.func13 h
def ayD:dI:=λi=>match i with
 | 3=>.run 0 15
 | _=>.nil
def S129(B:Value):Prop:=
 Ri (λI a=>∀_:Env,
 nC B λb=>fA 132 b 0 λc=>lA 130 c a λd=>lN 130 d λe=>bB .gtr 3 e (i 0) λf=>cV f (nC B λg=>fA 132 g 0 λh=>lA 130 h a λj=>iA 130 j (i 0) λk=>lA 218 k a λl=>
 aL 218 a λG n=>sA 218 G l n λo=>fA 218 G 0 λp=>fA 193 p 3 λq=>lA 82 q o λr=>cF 203 [B,r] o λs t=>xT s 0 λu=>xT s 1 λv=>fA 218 G 0 λx=>fA 193 x 4 λy=>
 lA 82 y t λz=>cF 203 [B,z] t λaa Z=>xT aa 0 λ_=>xT aa 1 λac=>eT (λK2=>eP hH (Op.unary .not v) λad=>cV ad (K2 tt Z) (eP hH (Op.unary .not ac) λae=>
 K2 ae Z)) (λaf E=>∀_:Env,
 cV af (nC B λah=>fA 132 ah 4 λai=>sA 3 ai (i 2) E λaj=>K (.tuple #[]) aj) (fA 218 G 0 λak=>fA 193 ak 0 λal=>lA 3 al E λJ=>bB .eql 3 J (i 1) λan=>
 cV an (fA 218 G 0 λao=>fA 193 ao 1 λap=>lA 9 ap E λaq=>cF 204 [B,aq,u] E λ_ ar=>cF 171 [B,(.slice none 0 0)] ar λ_ W=>I W) (bB .eql 3 J (i 11) λau=>
 cV au (bB .neq 3 u (i 0) λav=>cV av (fA 218 G 1 λaw=>lA 141 aw E λax=>cF 128 [ax] E λay az=>cF 171 [B,ay] az λ_ a0=>I a0) (fA 218 G 2 λa1=>lA 141 a1 E λa2=>
 cF 128 [a2] E λa3 a4=>cF 171 [B,a3] a4 λ_ a5=>I a5)) (bB .eql 3 J (i 12) λa6=>cV a6 (bS 130 0 [] E λa7 O=>eT (λK3=>fA 218 G 0 λa9=>fA 193 a9 5 λba=>
 lA 3 ba O λbb=>bB .gtr 3 bb (i 0) λbc=>cV bc (lA 218 G O λbd=>aL 218 O λM be=>sA 218 M bd be λbf=>fA 218 G 0 λbg=>fA 193 bg 5 λbh=>lA 3 bh bf λbi=>
 bB .sub 3 bi (i 1) λbj=>fA 218 M 0 λbk=>fA 193 bk 5 λbl=>sA 3 bl bj bf λbm=>fA 218 M 3 λbn=>sA 4 bn tt bm λbo=>fA 218 G 1 λbp=>lA 141 bp bo λbq=>
 cF 128 [bq] bo λbr bs=>aP 130 a7 br bs λbt bu=>lA 218 M bu λbv=>bS 130 1 [(0,bv)] bu λbw bx=>aP 130 bt bw bx λbz b0=>K3 bz b0) (K3 a7 O)) (λl7 b1=>∀_:Env,
 cF 171 [B,l7] b1 λ_ b2=>I b2)) (bB .eql 3 J (i 13) λb3=>cV b3 (kK (λY U b4=>∀_:Env,
 eT (λK5=>nC B λb5=>fA 132 b5 0 λb6=>lA 130 b6 b4 λb7=>lN 130 b7 λb8=>bA .lss 3 U b8 λb9=>cV b9 (nC B λca=>fA 132 ca 0 λcb=>lA 130 cb b4 λcc=>
 iA 130 cc U λcd=>fA 218 cd 3 λce=>lA 4 ce b4 λcf=>eP hH (Op.unary .not cf) λcg=>K5 cg b4) (K5 ff b4)) (λch V=>∀_:Env,
 cV ch (bB .add 3 U (i 1) λcj=>Y cj V) (nC B λck=>fA 132 ck 0 λcl=>lA 130 cl (drew V) λcm=>bB .add 3 U (i 1) λcn=>nC B λco=>fA 132 co 0 λcp=>lA 130 cp (drew V) λcq=>
 lN 130 cq λcr=>eP hH (Builtin.min_ #[3,3] 3 [cn,cr].toArray) λcs=>eP hH (n4 130 cm (some cs) none none) λct=>nC B λcu=>fA 132 cu 0 λcv=>
 sA 130 cv ct (drew V) λcw=>I cw))) λY=>Y (i 0) E) (bB .eql 3 J (i 14) λcx=>cV cx (bB .eql 3 u (i 0) λcy=>cV cy (nC B λcz=>fA 132 cz 4 λc0=>sA 3 c0 (i 1) E λc1=>
 K (.tuple #[]) c1) (cF 171 [B,(.slice none 0 0)] E λ_ c2=>I c2)) (K (.tuple #[]) E)))))))) (K (.tuple #[]) a)) (λI=>I w)
def ayE:dI:=λi=>match i with
 | 27=>.run 0 17
 | _=>.nil
theorem aeI(u:Value)(h:S129 w K u):CR 129 [u] w K:=
 qm 148 ayE 0 [] Tryz.func129 h
def P80:dI:=λi=>match i with
 | 7=>.run 0 14
 | 8=>(.of [(0,[]),(1,[]),(2,[]),(3,[]),(4,[]),(5,[]),(6,[]),(7,[]),(8,[]),(9,[]),(10,[]),(11,[]),(12,[]),(13,[]),(14,[]),(15,[]),(16,[]),(17,[]),(18,[]),(19,[]),(20,[]),(21,[]),(23,[]),(24,[]),(22,[17,24]),(25,[17]),(26,[]),(27,[]),(28,[]),(29,[]),(30,[]),(31,[])])
 | _=>.nil
def S169(W I a E:Value):Prop:=
 qZ hH (zx 193 a) w λb c=>aL 56 c λd e=>fA 193 b 3 λf=>lA 82 f e λg=>cF 203 [I,g] e λh j=>xT h 0 λk=>xT h 1 λ_=>fA 193 b 4 λl=>lA 82 l j λn=>
 cF 203 [I,n] j λo p=>xT o 0 λq=>xT o 1 λ_=>nC I λs=>fA 132 s 3 λt=>lA 103 t p λu=>cF 229 [u,E] p λv x=>xT v 0 λy=>xT v 1 λz=>eT (λZ=>
 eP hH (Op.unary .not z) λaa=>cV aa (nC W λab=>fA 44 ab 3 λac=>lA 40 ac x λad=>nC ad λae=>fA 122 ae 2 λaf=>lA 41 af x λag=>iA 41 ag E λah=>
 lA 3 ah x λai=>Z ai x) (Z y x)) (λB V=>∀_:Env,
 fA 193 b 1 λak=>lA 9 ak V λal=>cF 204 [I,al,B] V λ_ G=>fA 193 b 0 λan=>lA 3 an G λao=>bB .eql 3 ao (i 2) λap=>cV ap (cV z (eP hH (l4 56 [(0,(i 2)),(2,E),(3,B)].toArray) λaq=>
 sA 56 d aq G λU=>lA 56 d U λr=>K r U) (eP hH (l4 56 [(0,(i 1)),(2,E),(3,B)].toArray) λJ=>sA 56 d J G λau=>lA 56 d au λGj=>K Gj au)) (
 bA .neq 3 B k λav=>cV av (eP hH (l4 56 [(0,(i 9)),(2,E),(3,B)].toArray) λaw=>sA 56 d aw G λY=>lA 56 d Y λKG=>K KG Y) (nC W λay=>
 fA 44 ay 3 λaz=>lA 40 az G λa0=>cF 166 [a0,E,q] G λ_ a1=>eP hH (l4 56 [(0,(i 8)),(2,E),(3,B),(4,q)].toArray) λa2=>sA 56 d a2 a1 λO=>
 lA 56 d O λM=>K M O)))
theorem aeJ(E u B G:Value)(h:S169 w K E u B G):CR 169 [E,u,B,G] w K:=
 qm 82 (λ_=>.nil) 256 [.cell 8 56] Tryz.func169 h
def S96(E M:Value):Prop:=
 aL 56 w λa b=>nC E λc=>fA 44 c 5 λd=>lA 42 d b λe=>iA 42 e M λf=>lA 129 f b λg=>nC g λh=>fA 132 h 4 λj=>lA 3 j b λk=>bB .neq 3 k (i 0) λl=>
 cV l (nC g λn=>fA 132 n 4 λo=>lA 3 o b λp=>cF 168 [E,M,p] b λq s=>sA 56 a q s λt=>lA 56 a t λr=>K r t) (nC g λu=>fA 132 u 0 λv=>lA 130 v b λx=>
 iA 130 x (i 0) λy=>fA 218 y 0 λz=>lA 193 z b λaa=>eP hH (l4 56 [].toArray) λab=>aL 193 b λJ ad=>aL 56 ad λI ae=>sA 193 J aa ae λaf=>
 sA 56 I ab af λU=>nC E λah=>fA 44 ah 0 λai=>lA 27 ai (drew U) λaj=>fA 193 J 2 λak=>lA 9 ak (drew U) λal=>nC E λam=>fA 44 am 0 λan=>lA 27 an (drew U) λao=>
 fA 193 J 2 λZ=>lA 9 Z (drew U) λY=>cF 124 [aj] (drew U) λar G=>kA 9 ak al G (kA 27 an ao G (kA 9 Z Y G (cF 123 [ar,al] G λau av=>kA 27 an ao av (kA 9 Z Y av (
 cF 125 [ao] av λaw ax=>kA 9 Z Y ax (cF 123 [aw,Y] ax λO az=>yE (λV=>fA 193 J 0 λa0=>lA 3 a0 az λW=>eT (λK2=>bB .eql 3 W (i 2) λa2=>cV a2 (
 K2 a2 az) (bB .eql 3 W (i 4) λa3=>K2 a3 az)) (λa4 B=>∀_:Env,
 cV a4 (lA 193 J B λa6=>cF 169 [E,g,a6,au] B λa7 a8=>sA 56 I a7 a8 λa9=>V a9) (bB .eql 3 W (i 8) λba=>cV ba (fA 56 I 0 λbb=>sA 3 bb (i 7) B λbc=>
 V bc) (bB .eql 3 W (i 9) λbd=>cV bd (nC E λbe=>fA 44 be 4 λbf=>lA 41 bf B λbg=>iA 41 bg O λbh=>sA 3 bh M B λbi=>eP hH (l4 56 [(0,(i 10)),(2,O)].toArray) λbj=>
 sA 56 I bj bi λbk=>V bk) (bB .eql 3 W (i 10) λbl=>cV bl (nC E λbm=>fA 44 bm 4 λbn=>lA 41 bn B λbo=>iA 41 bo O λbp=>lA 3 bp B λbq=>bA .neq 3 bq M λbr=>
 cV br (cF 168 [E,M,(i 3)] B λbs bt=>sA 56 a bs bt λbu=>lA 56 a bu λGj=>K Gj bu) (nC E λbv=>fA 44 bv 4 λbw=>lA 41 bw B λbx=>iA 41 bx O λbz=>sA 3 bz (i (-1)) B λb0=>
 eP hH (l4 56 [(0,(i 11)),(2,O)].toArray) λb1=>sA 56 I b1 b0 λb2=>V b2)) (lA 193 J (drew B) λb3=>nC E λb4=>fA 44 b4 0 λb5=>lA 27 b5 (drew B) λb6=>
 cF 60 [b6,au] (drew B) λb7 b8=>kA 193 J b3 b8 (cF 170 [E,g,b3,au,b7] b8 λb9 ca=>sA 56 I b9 ca λcb=>V cb))))))) (λcc=>∀_:Env,
 fA 56 I 1 λcd=>sA 3 cd M cc λce=>cF 171 [g,(.slice none 0 0)] ce λ_ cf=>cF 129 [g] cf λ_ cg=>lA 56 I cg λch=>sA 56 a ch cg λci=>lA 56 a ci λKG=>K KG ci))))))))
def P96:dI:=λi=>match i with
 | 5=>(.of [(0,[]),(1,[]),(2,[]),(3,[]),(5,[]),(6,[]),(8,[]),(9,[]),(10,[]),(11,[]),(13,[]),(14,[]),(4,[6,11,14]),(7,[11,14]),(12,[14]),(15,[]),(16,[]),(17,[])])
 | 7=>(.of [(0,[]),(1,[]),(2,[]),(3,[]),(4,[]),(5,[]),(6,[]),(7,[]),(8,[]),(9,[2]),(10,[]),(11,[])])
 | _=>.nil
theorem akO(B u:Value)(h:S96 w K B u):CR 96 [B,u] w K:=
 qm 117 P96 16 [.cell 4 56] Tryz.func96 h
def P95:dI:=λi=>match i with
 | 3=>.run 0 9
 | 7=>.run 0 7
 | _=>.nil
def P25:dI:=λi=>match i with
 | 2=>.run 0 12
 | 5=>.run 0 7
 | 15=>.run 0 34
 | _=>.nil
def P74:dI:=λi=>match i with
 | 1=>(.of [(0,[]),(1,[]),(2,[]),(3,[]),(4,[]),(5,[]),(6,[]),(7,[]),(8,[]),(9,[]),(10,[]),(11,[]),(12,[]),(13,[]),(14,[]),(15,[]),(16,[]),(17,[]),(18,[3,7,11,15]),(19,[])])
 | _=>.nil
def S75(E:Value):Prop:=
 bS 117 0 [] w λa b=>nC E λc=>fA 44 c 0 λd=>lA 27 d b λe=>cF 62 [e] b λf g=>oq (λM J I h=>∀_:Env,
 nC E λj=>fA 44 j 0 λk=>fA 27 k 5 λl=>lA 25 l h λn=>lN 25 n λo=>bA .lss 3 I o λp=>cV p (eT (λK2=>nC E λq=>fA 44 q 0 λr=>fA 27 r 5 λs=>
 lA 25 s (drew h) λt=>iA 25 t I λu=>fA 85 u 0 λv=>lA 82 v (drew h) λx=>nC E λy=>fA 44 y 0 λz=>lA 27 z (drew h) λaa=>nC E λZ=>fA 44 Z 3 λO=>
 lA 40 O (drew h) λU=>nC U λae=>fA 122 ae 2 λW=>lA 41 W (drew h) λV=>eP hH (n4 41 V none (some f) none) λah=>cF 124 [aa] (drew h) λai B=>
 kA 25 s t B (kA 82 v x B (kA 40 O U B (kA 41 W V B (eP hH (n4 91 ai none (some f) none) λak=>cF 146 [x,ak,ah] B λal Y=>xT al 0 λan=>xT al 1 λao=>
 bB .eql 31 ao (i 0) λap=>cV ap (bB .neq 3 an (i 0) λaq=>bS 117 1 [(0,aq)] Y λar G=>aP 117 J ar G λau av=>K2 au av) (bS 117 1 [(0,ff)] Y λaw ax=>aP 117 J aw ax λay az=>
 K2 ay az)))))) (λET a0=>∀_:Env,
 bB .add 3 I (i 1) λa1=>M ET a1 a0)) (K J h)) (λM=>M a (i 0) g)
def P75:dI:=λi=>match i with
 | 5=>(.of [(0,[]),(1,[]),(2,[]),(3,[]),(4,[]),(5,[]),(6,[]),(7,[]),(8,[]),(9,[]),(10,[]),(11,[]),(12,[]),(14,[]),(16,[]),(17,[]),(18,[]),(19,[]),(20,[]),(21,[]),(22,[]),(23,[]),(24,[]),(13,[4,8,19,22]),(15,[]),(25,[]),(26,[]),(27,[]),(28,[]),(29,[]),(30,[])])
 | _=>.nil
theorem akP(u:Value)(h:S75 w K u):CR 75 [u] w K:=
 qm 63 P75 4 [.tmp 2] Tryz.func75 h
def S64(B O:Value):Prop:=
 nC B λa=>fA 44 a 5 λb=>sA 42 b (.slice none 0 0) w λc=>nC B λd=>fA 44 d 4 λe=>sA 41 e (.slice none 0 0) c λf=>kK (λK1 i4 g=>∀_:Env,
 nC B λh=>fA 44 h 0 λj=>fA 27 j 2 λk=>lA 23 k g λl=>lN 23 l λn=>bA .lss 3 i4 n λo=>cV o (nC B λp=>fA 44 p 4 λq=>lA 41 q g λr=>bS 41 1 [(0,(i (-1)))] g λs t=>
 aP 41 r s t λu v=>nC B λx=>fA 44 x 4 λy=>sA 41 y u v λz=>bB .add 3 i4 (i 1) λaa=>K1 aa z) (kK (λK2 M W=>∀_:Env,
 lN 24 O λac=>bA .lss 3 M ac λad=>cV ad (yE (λK3=>nC B λae=>fA 44 ae 1 λaf=>lA 3 af W λag=>cF 58 [ag] W λah J=>xT ah 0 λaj=>xT ah 1 λ_=>
 eT (λK4=>iA 24 O M λak=>fA 146 ak 2 λal=>lA 141 al (drew J) λU=>iA 24 O M λan=>fA 146 an 1 λI=>lA 91 I (drew J) λG=>iA 24 O M λaq=>fA 146 aq 1 λar=>
 lA 91 ar (drew J) λE=>lN 91 E λV=>((cF 128 [U] (drew J) λav Y=>kA 91 I G Y (kA 91 ar E Y (qZ hH (M4 41 V V) Y λax Z=>kA 141 al U Z (
 kA 91 I G Z (eP hH (l4 132 [(0,av),(1,G),(2,ax),(3,aj)].toArray) λaz=>qZ hH (zx 132 az) Z λa0 a1=>K4 a0 a1)))))
 /\((qZ hH (M4 41 V V) (drew J) λa2 a3=>kA 141 al U a3 (kA 91 I G a3 (cF 128 [U] a3 λa4 a5=>kA 91 I G a5 (kA 91 ar E a5 (eP hH (l4 132 [(0,a4),(1,G),(2,a2),(3,aj)].toArray) λa6=>
 qZ hH (zx 132 a6) a5 λa7 a8=>K4 a7 a8)))))
 /\
 True))) (λt8 a9=>∀_:Env,
 cF 129 [t8] a9 λ_ ba=>nC B λbb=>fA 44 bb 5 λbc=>lA 42 bc ba λbd=>bS 42 1 [(0,t8)] ba λbe bf=>aP 42 bd be bf λbg bh=>nC B λbi=>fA 44 bi 5 λbj=>sA 42 bj bg bh λbk=>
 K3 bk)) (λbl=>∀_:Env,
 bB .add 3 M (i 1) λbm=>K2 bm bl)) (K (.tuple #[]) W)) λK2=>K2 (i 0) g)) (λK1=>K1 (i 0) f)
def P64:dI:=λi=>match i with
 | 10=>(.op 0 [] (.op 1 [] (.op 2 [] (.op 3 [] (.op 4 [] (.op 6 [] (.op 7 [] (.op 8 [] (.op 9 [] (.op 10 [] (.op 11 [] (.op 12 [] (.op 13 [] (.op 14 [] (.op 15 [] (.op 16 [] (.op 18 [] (.alt 5 [10,15] (.of [(17,[4,10]),(19,[]),(20,[]),(21,[])]) (.alt 17 [4,10] (.of [(5,[10,15]),(19,[]),(20,[]),(21,[])]) .stop)))))))))))))))))))
 | _=>.nil
theorem akQ(u B:Value)(h:S64 w K u B):CR 64 [u,B] w K:=
 qm 81 P64 0 [] Tryz.func64 h
theorem NN:PL 128:=dK Tryz.func128
theorem ayF:PL 13:=dK Tryz.func13
theorem NP:PL 203:=dK Tryz.func203
theorem ag8:PL 204:=dK Tryz.func204
theorem Ih:PL 171:=dK Tryz.func171
theorem ag9:PL 129:=dK Tryz.func129
theorem ayG:PL 80:=dK Tryz.func80
theorem arZ:PL 22:=dK Tryz.func22
theorem aha:PL 168:=dK Tryz.func168
theorem ar0:PL 170:=dK Tryz.func170
theorem ar1:PL 169:=dK Tryz.func169
theorem ayH:PL 96:=dK Tryz.func96
theorem ayI:PL 95:=dK Tryz.func95
theorem ayJ:PL 25:=dK Tryz.func25
theorem ayK:PL 74:=dK Tryz.func74
theorem ayL:PL 75:=dK Tryz.func75
theorem ar2:PL 64:=dK Tryz.func64
end Go.Proofs.YtpdlpabnlkofmaaGreatDoor
namespace Go.Proofs.YtpdlpabnlkofmaaGreatDoor
open Go.Fw
def FX{α:Type}[Flat α]{P:Program}{S:Nat->Prop}{Wd:hM}{w0:World}{xs:List α}{T E Y:Nat}{z:Option Nat}{v:Value}{i:Int}{x:α}{K:Value->Prop}(ht:eQ P T=some (E,mI α,Y,z))(h:∀w,Wd w->dC S w v xs)(J:Wd w0)(U:0<=i)(u:xs[i.toNat]?=some x)
  (k:∀p,(∀w,Wd w->At S w p x)->K p):eP P (FI T v (hZ i)) K:=by
 obtain⟨a,cap,rfl,Al,h3⟩:=h w0 J
 have nP:i.toNat<xs.length:=(kp.1 u).1
 rcases h3 with⟨rfl,_⟩|⟨b,o,rfl,h4,_⟩
 .simp at u
 obtain⟨M,inf,hi,W,_⟩:=fp ht
 refine⟨.pointer (some ⟨b,o+i.toNat*mI α,none⟩),?_,k _ λw' G=>⟨b,_,rfl,h4 dD,λj c Z=>?_⟩⟩
 .unfold FI
  rw[cX]
  show pr P _=_
  simp only[asIntOf]
  have O:pr P (underlying T)=some (.slice E):=cZ M
  have I:pr P (sizeOf E)=some (mI α):=by rw[mU hi,W]
  simp only[cX,O,I,mQ,fR]
  have V:0<=i/\i<(xs.length:Int):=⟨U,cK⟩
  simp only[ew V,cX,I,mQ,fR,gF]
 obtain⟨a',CZ,B,_,h6⟩:=h w' G
 cases B
 rcases h6 with⟨rfl,_⟩|⟨b',o',B,_,h5⟩
 .simp at u
 cases B
 have:=h5 (i.toNat*mI α+j) c (rV u Z)
 grind
def pG(ws:List mZ)(m:Mem):Prop:=(∀n,m.fK n=(ws.filter λx=>decide (x.line=n)).map λx=>⟨x.cell,x.n⟩)/\∀x∈ws,0<=x.cell/\m.of[x.cell.toNat]?=some x.line
def gu(p:Nat)(m:Mem):HP:=pK λq:Value×Value×Value×Value×Value=>pK λws:List mZ=>fact (pG ws m) (sep (bY p [q.1,q.2.1,q.2.2.1,q.2.2.2.1,q.2.2.2.2]) (sep (bH q.1 m.of) (sep (bH q.2.1 m.dU) (sep (bH q.2.2.1 m.l) (sep (bH q.2.2.2.1 m.kept) (bH q.2.2.2.2 ws))))))
structure Bs(w:World)(p:Nat)(m:Mem):Prop where
 ex:∃ov fv lv kv wv ws,pG ws m/\mT w p [ov,fv,lv,kv,wv]/\dC (λ_=>True) w ov m.of/\dC (λ_=>True) w fv m.dU/\dC (λ_=>True) w lv m.l/\dC (λ_=>True) w kv m.kept/\dC (λ_=>True) w wv ws
section
variable {w w0:World}{A:Nat->Prop}{R:List HP}{p:Nat}{m:Mem}{ov fv lv kv wv:Value}{ws:List mZ}
theorem gu.shut(h:pG ws m)(u:St w0 A (bY p [ov,fv,lv,kv,wv]::bH ov m.of::bH fv m.dU::bH lv m.l::bH kv m.kept::bH wv ws::R) w):St w0 A (gu p m::R) w:=by
 have h5:=St.join u.p5.p5
 have h4:=St.join h5.p4
 have h3:=St.join h4.p3
 have h2:=St.join h3.p2
 have h1:=St.join h2.p1
 exact St.ek (ov,fv,lv,kv,wv) (St.ek ws (St.oy h h1))
theorem gu.open(u:St w0 A (gu p m::R) w):∃ov fv lv kv wv ws,pG ws m/\St w0 A (bY p [ov,fv,lv,kv,wv]::bH ov m.of::bH fv m.dU::bH lv m.l::bH kv m.kept::bH wv ws::R) w:=by
 obtain⟨⟨ov,fv,lv,kv,wv⟩,u⟩:=u.eh;obtain⟨ws,u⟩:=u.eh;obtain⟨B,u⟩:=u.mz
 have h1:=u.split
 have h2:=h1.p1.split
 have h3:=h2.p1.split
 have h4:=h3.p1.split
 have h5:=h4.p1.split
 exact⟨ov,fv,lv,kv,wv,ws,B,h5.p2.p3.p4.p5⟩
end
def FY{w:World}{p:Nat}{m:Mem}(h:Has (gu p m) w):Bs w p m:=by
 obtain⟨F,u⟩:=h.st
 obtain⟨ov,fv,lv,kv,wv,ws,B,u⟩:=gu.open u
 exact⟨ov,fv,lv,kv,wv,ws,B,u.hb,u.p1.dX,u.p2.dX,u.p3.dX,u.p4.dX,u.p5.dX⟩
def FZ{α β:Type}[Flat α][Flat β]{P:Program}{S:Nat->Prop}{Wd:hM}{w0:World}{T f u:Nat}{p:Value}{x:α}(y:β){K:Value->Prop}(ht:wH P T f u)(h:∀w,Wd w->At S w p x)(B:Wd w0)(J:(j0 x)[u]?=some (ia y))(G:Flat.agg β=false)
  (k:∀q,(∀w,Wd w->At S w q y)->K q):eP P (Instr.fieldAt T p f) K:=by
 obtain⟨b,o,rfl,h2,_⟩:=h w0 B
 refine aA ht (k _ λw B=>?_)
 obtain⟨O,M,E,_,h3⟩:=h w B
 cases E
 refine⟨b,o+u,rfl,h2,λj c I=>?_⟩
 rw[Flat.oI G]at I
 grind
theorem aeK{l:List Int}{k:Nat}{e:Int}(u:0<k)(h:l[((k:Int)-1).toNat]?=some e):tI l k=e+1:=by
 unfold tI
 rw[ej cK,og,show k-1=((k:Int)-1).toNat from cK,h];rfl
def aal{of fi:List Int}{st:Int}:pG [] (JC of st fi):=⟨λ_=>rfl,λx h=>by cases h⟩
def C61(of fi:List Int)(st:Int)(ov fv:Value)(w:World)(B:dC (λ_=>True) w ov of)(I:dC (λ_=>True) w fv fi)(hle:of.length=fi.length)(MM:of.length<=20)(iV:0<=st/\st<=of.length)(Gs:∀(k:Nat) (n:Int),(k:Int)<st->of[k]?=some n->(n=tI of k\/(0<k/\n=tI of k-1))/\-10<=n/\n<=100):CR 61 [ov,hZ st,fv] w (λv w'=>∃b,v=.tuple #[.pointer (some ⟨b,0,none⟩),hZ 0]/\lh (gu b (JC of st fi)) w w'):=by
 have u:=St.start w;refine ahC _ _ _ _ _ ?_;unfold S61;refine⟨_,?_,λ_ _ h=>h⟩;refine aK cS (B.ext u.aG) (aK cS (I.ext u.aG) (bV (fx (fN cK) (aK cS (B.ext u.aG) (cO (fx (fN cK) (aR (fx (fN cK) (aK cS (B.ext u.aG) (cO ?_))))))))));intro _;refine fx (fN cK) ?_;refine⟨λmm x w1=>∃k:Nat,x=hZ (k:Int)/\mm=st.toNat-k/\(k:Int)<=st/\St w aZ [] w1,⟨_,0,rfl,rfl,cK,u⟩,?_⟩;rintro mm _ _ ⟨k,rfl,rfl,hk,u⟩ _;refine aR (aC (λj9=>⟨_,aH (aC (λCE=>?_) λCE=>?_),λ_ _ h=>h⟩) λj9=>?_)
 .obtain⟨xB,vB⟩:=gx of (i:=(0:Int).toNat) cK;refine aQ cS B cK vB (λ_ xj=>have u:=u.drew;aD bM (xj.ext u.aG) ?_);have G:=Gs 0 xB cK (by simpa using vB);have hw1:tI of 0=0:=rfl;refine bV (fx (fN cK) (cO (fx (fN cK) ?_)));intro wA;exact ft (aN cK ⟨_,cK,k+1,rfl,rfl,cK,u⟩)
 .refine cO (j8 (ez cK) ?_);obtain⟨aeL,M⟩:=gx of (i:=(k:Int).toNat) cK;refine aQ cS B cK M (λ_ aeM=>have u:=u.drew;aD bM (aeM.ext u.aG) (fh cK ?_));obtain⟨atI,O⟩:=gx of (i:=((k:Int)-1).toNat) cK;refine aQ cS B cK O (λ_ aeN=>aD bM (aeN.ext u.aG) ?_);have G:=Gs k aeL cK (by simpa using M);rw[aeK cK O]at G;refine bV (aC (λaeO=>?_) λaeO=>?_)
  .refine aQ cS B cK M (λ_ aeP=>aD bM (aeP.ext u.aG) (fh cK (aQ cS B cK O λ_ aeQ=>aD bM (aeQ.ext u.aG) (aN cK (bV ?_)))));intro wA;exact fx (fN cK) (aN cK ⟨_,cK,k+1,rfl,rfl,cK,u⟩)
  intro wA;exact ft (aN cK ⟨_,cK,k+1,rfl,rfl,cK,u⟩)
 refine bD ([]:List Int) u cS rfl rfl (dL rfl) (λs_x72 _ u=>jR cS (B.ext u.aG) cK cK λarC akR=>?_);have Y:=akR _ B;have V:=(Y.ext u.aG);refine bJ u cS V (by simp;omega) ee (λs_x76 _ u=>bD ([]:List Int) u cS rfl rfl (dL rfl) λs_x77 _ u=>?_);have Pt:=(I.ext u.aG);refine bJ u cS Pt (by simp;omega) ee (λapV _ u=>?_);obtain⟨U,rfl⟩:=u.p1.fJ;obtain⟨W,rfl⟩:=u.fJ;refine pop (OJ _ _ _ _ _ _) (cI (x:=(⟨U,W,bX,bX,bX⟩:RQ)) u λb_x81 _ u=>bD ([]:List Int) u cS rfl rfl (dL rfl) λagG _ u=>?_)
 have akU:=(I.ext u.aG);refine bJ u cS akU (by simp;omega) ee (λs_x85 _ u=>aE (aA rX ?_));obtain⟨E,rfl⟩:=u.fJ;refine aT u.p1 eg (dL rfl) (rfl) (λ_ u=>have u:=u.enc (cs':=j0 (⟨U,W,E,bX,bX⟩:RQ)) rfl;bD ([]:List Int) u cS rfl rfl (dL rfl) λs_x89 _ u=>jR cS (I.ext u.aG) cK cK λs_x92 Z=>?_);have J:=Z _ I;have akX:=(J.ext u.aG);refine bJ u cS akX (by simp;omega) ee (λs_x93 _ u=>aE (aA Au ?_));obtain⟨akY,rfl⟩:=u.fJ;refine aT u.p1 eg (dL rfl) (rfl) (λ_ u=>?_)
 have u:=(((u.enc (cs':=j0 (⟨U,W,E,akY,bX⟩:RQ)) rfl).p1).p2).p3;have u:=u.p4.p4;simp only[List.nil_append]at u;have u:=(u.eL (α:=mZ)).p5.p5.p5.p5.p5;exact⟨_,rfl,(gu.shut (m:=JC of st fi) aal u).fresh⟩
end Go.Proofs.YtpdlpabnlkofmaaGreatDoor

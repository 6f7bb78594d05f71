/-
  Part 6.
-/
import Derived.Test.YtpdlpabnlkofmaaGreatDoorR4x5
set_option maxHeartbeats 8000000
set_option linter.all false
set_option maxRecDepth 100000
open Go.Fw.Flat renaming val->ia,enc->j0,sz->mv
open ByteArray renaming mk->kp
open List renaming getElem?_eq_some_iff->kE,mem_of_getElem?->kO,take_of_length_le->kW,length_append->lY,length_singleton->mf,getElem?_eq_none->mY,append_assoc->n3,getD_eq_getElem?_getD->ob,mem_map->oi,length_cons->oj,mem_cons_self->oD,append_nil->o6,mem_append->pI,mem_cons_of_mem->qb,mem_cons->sl,any_eq_false->zJ,length_set->FE,length_nil->J7,mem_or_eq_of_mem_set->P5
open Nat renaming zero_le->l1,le_refl->o1,le_succ->I7
open Go.Instr renaming build->l2,sliceAt->n4,box->zT,indexAt->ES,makeSlice->Mf
open Go.Fw.Deep renaming dr->mG
open Option renaming bind_some->mO,some->oe
open Go.Value renaming int->nf
open Bool renaming and_eq_true->n5,not_eq_true'->sk,or_eq_false_iff->Iz
open Int renaming toNat_natCast->pQ,le_refl->M5,eq_ofNat_of_zero_le->ND
open Decidable renaming not_not->u1
namespace Go.Proofs.YtpdlpabnlkofmaaGreatDoor
open Go.Fw
theorem Zu{l:List bT}{i:Int}{R:List cA×Int×Int×Int}(h:v8 l i=some R)(hi:¬ i<0):∃x,HJ l 10000 i 0 0=some x/\
  (if x.e≠0 then some ([],0,x.e,x.at_)else match zu x.l,l[i.toNat]? with
  | some t,some k=>if x.l.length<=10000 then(if 12<t.depth then some ([],0,7,k.at_)else if 40<x.l.length then some ([],0,2,k.at_)else some (x.l,x.to,0,0))else none
  | _,_=>none)=some R:=by
 unfold v8 at h;rw[ej hi]at h
 cases hx:HJ l 10000 i 0 0 with
 | none=>grind
 | some x=>grind
theorem Qk{x:fL}{o:Option bT}{R:List cA×Int×Int×Int}(h:(match zu x.l,o with
  | some t,some k=>if x.l.length<=10000 then(if 12<t.depth then some ([],0,7,k.at_)else if 40<x.l.length then some ([],0,2,k.at_)else some (x.l,x.to,0,0))else none
  | _,_=>none)=some R):∃t k,zu x.l=some t/\o=some k/\x.l.length<=10000/\(if 12<t.depth then some ([],0,7,k.at_)else if 40<x.l.length then some ([],0,2,k.at_)else some (x.l,x.to,0,0))=some R:=by
 grind
def C258(l:List bT)(j:Nat)(lv:Value)(i d n:Int)(r:fL)(w:World)(W:dA (λ_=>True) w lv l)(hk:jk l)(HR:ajD l (HJ l j))(h0:0<=i/\i<=l.length)(hd:0<=d/\d<=12)(hnn:0<=n/\n<=5)(hr:HJ l (j+1) i d n=some r):CR 258 [lv,hZ i,hZ d,hZ n] w (λv w'=>∃sh:dZ,v=ia sh/\lg (eG λw=>mG w sh r) w w'):=by
 have Dx:=hk.n;have hn:l.length<=1000000:=cK
 have sy:=hk.at_;have u:=St.start w;refine abV _ _ _ _ _ _ ?_;unfold S258;refine aM u tC (λTG _ u=>have u:=u.enc (cs':=j0 (⟨bX,0,0,0⟩:dZ)) rfl;aH (aC (λjo=>?_) λjo=>?_))
 .refine dQ afE (C294 l (HJ l j) _ i d r _ (W.ext u.aG) hk HR h0 hd (agT (by rw[jo]at hr;exact hr))) ?_;rintro _ _ ⟨ajG,rfl,G⟩;have u:=u.made G;obtain⟨Bb,Qh,_⟩:=u.eG;subst Qh;refine aJ (x:=(⟨Bb,r.to,r.e,r.at_⟩:dZ)) u.p1 fX rfl rfl (λ_ u=>aD fX u.At ?_);have B:r=(⟨r.l,r.to,r.e,r.at_⟩:fL):=rfl;rw[B];have u:=u.p1.dM (Ψ:=(λw=>mG w (⟨Bb,r.to,r.e,r.at_⟩:dZ) (⟨r.l,r.to,r.e,r.at_⟩:fL))) (λ_ h=>⟨_,rfl,lF h⟩);have u:=u.p1.drop;exact⟨_,rfl,u.fresh⟩
 obtain⟨J,hx1,axR⟩:=aq1 hr jo;refine aN cK (dQ Rk ((HR _ i d (n+1) J _ (W.ext u.aG) hx1 h0 hd cK).1) ?_);rintro _ _ ⟨axS,rfl,G⟩;have u:=u.made G;obtain⟨JK,ajY,_⟩:=u.eG;subst ajY;refine aM u tC (λBP _ u=>have u:=u.enc (cs':=j0 (⟨bX,0,0,0⟩:dZ)) rfl;aJ (x:=(⟨JK,J.to,J.e,J.at_⟩:dZ)) u fX rfl rfl λ_ u=>?_);have u:=u.p2.p2.p2.p1.dM (Ψ:=λw=>DL w (ia JK) J.l) (λ_ h=>lF h);have u:=u.p2.p1.p2;refine⟨λV w'=>∃(x:fL) (g:SV),vZ (HJ l j) l d n V x=some r/\St w bD [bY BP (j0 (⟨g,x.to,x.e,x.at_⟩:dZ)),eG (λw=>DL w (ia g) x.l),bY TG (j0 (⟨bX,0,0,0⟩:dZ))] w',⟨j,J,JK,axR,u⟩,?_⟩
 rintro V _ ⟨x,g,E,u⟩ _;obtain⟨j2,rfl⟩:=Qf E;refine aA uC (aB (v:=hZ x.e) jL u.hb rfl (aH (aC (λMm=>?_) λMm=>?_)))
 .have u:=u.p2.p2.p2;refine⟨λV o kk w'=>∃k:Nat,o=hZ (FD l x.to n k)/\kk=hZ (k:Int)/\V=(qV n).length-k/\k<=(qV n).length/\St w bD [bY BP (j0 (⟨g,x.to,x.e,x.at_⟩:dZ)),eG (λw=>DL w (ia g) x.l),bY TG (j0 (⟨bX,0,0,0⟩:dZ))] w',⟨_,0,rfl,rfl,rfl,l1 _,u⟩,?_⟩;rintro V _ _ _ ⟨k,rfl,rfl,rfl,BQ,u⟩ _;have hfl4:=Qg n;refine dT V4 u (C295 n _ cK) (λx31 _ G u=>aK cS u.dX (aR (aC (λyR=>⟨λjv w'=>jv=hZ (FD l x.to n (k+1))/\St w bD [bY BP (j0 (⟨g,x.to,x.e,x.at_⟩:dZ)),eG (λw=>DL w (ia g) x.l),bY TG (j0 (⟨bX,0,0,0⟩:dZ))] w',?_,?_⟩) λyR=>?_)))
  .refine aA oW (have u:=u.drew;aB (v:=hZ x.to) bL u.p1.hb rfl (dT V4 u (C295 n _ cK) λx40 _ G u=>?_));refine⟨aF bL (u.p2.hb.cell rfl),?_⟩;obtain⟨HK,O⟩:=gx (qV n) (i:=(k:Int).toNat) cK;refine dR u cS cK cK (λ_ Zv=>gL u bL Zv O ?_);have hfb:=Zr O;refine aV am8 u (C296 HK _ cK) (λ_ he u=>?_);refine⟨aF bL (u.p2.hb.cell rfl),?_⟩;exact aV vN u (C209 _ l x.to (M9 HK) _ (W.ext u.aG) hn) (λ_ _ u=>aY (λMa=>dT V4 u (C295 n _ cK) λ_ _ _ u=>dR u cS cK cK λ_ EU=>gL u bL EU O (have u:=u.drop.drop.drop.p2.p2.p2;⟨by rw[HI (k:=k) O,ew Ma]<;>rfl,u⟩)) λMa=>have u:=u.drop.drop.p2.p2.p2;⟨by rw[HI (k:=k) O,ej (by simpa using Ma)]<;>rfl,u⟩)
  .rintro _ _ ⟨rfl,u⟩ _;exact aN cK ⟨_,cK,k+1,rfl,rfl,rfl,cK,u⟩
  have Z:FD l x.to n k=JI l x.to n:=by unfold JI;rw[show k=(qV n).length from cK]
  refine aH (aC (λuP=>?_) λuP=>?_)
  .refine aD fX u.p1.At (aJ (x:=(⟨g,x.to,x.e,x.at_⟩:dZ)) u.p3 fX rfl rfl λ_ u=>aD fX u.At ?_);have B:r=(⟨x.l,x.to,x.e,x.at_⟩:fL):=Zs (x:=x) E cK (by rw[<- Z];exact uP);rw[B];have u:=u.p3.dM (Ψ:=(λw=>mG w (⟨g,x.to,x.e,x.at_⟩:dZ) (⟨x.l,x.to,x.e,x.at_⟩:fL))) (λ_ h=>⟨_,rfl,id h⟩);have u:=u.p1.drop.p1.drop.p1.drop;exact⟨_,rfl,u.fresh⟩
  obtain⟨t,y,h0t,ht,hy,hye,I⟩:=Zt E cK (by rw[<- Z];exact uP);have N3:=(kE.1 ht).1;refine aA oW (aB (v:=hZ x.to) bL u.p1.hb rfl (aN cK (aN cK (dQ Rk ((HR _ (x.to+1) d (n+1) y _ (W.ext u.aG) hy cK hd cK).1) ?_))));rintro _ _ ⟨axU,rfl,G⟩;have u:=u.made G;obtain⟨Y,aj0,_⟩:=u.eG;subst aj0;refine aM u tC (λb_y12 _ u=>have u:=u.enc (cs':=j0 (⟨bX,0,0,0⟩:dZ)) rfl;aJ (x:=(⟨Y,y.to,y.e,y.at_⟩:dZ)) u fX rfl rfl λ_ u=>aA uC (aB (v:=hZ y.e) jL u.hb rfl (bW (aC (λuQ=>?_) λuQ=>?_))))
  .refine aD fX u.At (aJ (x:=(⟨Y,y.to,y.e,y.at_⟩:dZ)) u.p5 fX rfl rfl λ_ u=>aD fX u.At ?_);have B:r=(⟨y.l,y.to,y.e,y.at_⟩:fL):=hye uQ;rw[B];have u:=u.p2.dM (Ψ:=(λw=>mG w (⟨Y,y.to,y.e,y.at_⟩:dZ) (⟨y.l,y.to,y.e,y.at_⟩:fL))) (λ_ h=>⟨_,rfl,lF h⟩);have u:=u.p1.drop.p1.drop.p1.drop.p1.drop.p1.drop;exact⟨_,rfl,u.fresh⟩
  refine aA oW (aB (v:=hZ x.to) bL u.p3.hb rfl (aO fK (W.ext u.aG) cK ht λ_ X0=>bV t.at_ lL X0 rfl rfl λ_ aq4=>aD bL aq4 (pop (Ed _ _) (aZ ([(⟨(FD l x.to n k),0,(kp #[]),t.at_⟩:cA)]) u gV rfl rfl (dL rfl) λaq5 _ u=>aA se (aB (v:=ia (g:SV)) ju u.p4.hb rfl ?_)))));have Bx:=(I cK).1;have aj1:=(DL.flat (id u.p5.eG));refine bJ u gV aj1 (by simp;omega) ee (λapF _ u=>aA se (aB (v:=ia (Y:SV)) ju u.p1.hb rfl ?_));have aj2:=(DL.flat (lF u.p2.eG))
  refine bJ u gV aj2 (by simp;omega) ee (λs_x82 _ u=>aA oW (aB (v:=hZ y.to) bL u.p1.hb rfl ?_));obtain⟨U,rfl⟩:=u.fI;refine pop (zi _ _ _ _) (aJ (x:=(⟨U,y.to,0,0⟩:dZ)) u.p4 fX rfl rfl λ_ u=>aH (aC (λE2=>?_) λE2=>?_))
  .refine aD fX u.At (aJ (x:=(⟨U,y.to,0,0⟩:dZ)) u.p6 fX rfl rfl λ_ u=>aD fX u.At ?_);have B:r=(⟨(([(⟨(FD l x.to n k),0,(kp #[]),t.at_⟩:cA)]++x.l)++y.l),y.to,0,0⟩:fL):=((I cK).2.1 E2).trans (by rw[<- Z]);rw[B];have u:=u.p2.freeze.dM (Ψ:=(λw=>mG w (⟨U,y.to,0,0⟩:dZ) (⟨(([(⟨(FD l x.to n k),0,(kp #[]),t.at_⟩:cA)]++x.l)++y.l),y.to,0,0⟩:fL))) (λ_ h=>⟨_,rfl,DL.j1 h⟩);have u:=u.p1.drop.p1.drop.p1.drop.p1.drop.p1.drop.p1.drop;exact⟨_,rfl,u.fresh⟩
  have u:=u.p1.freeze.dM (Ψ:=λw=>DL w (ia U) ([(⟨FD l x.to n k,0,kp #[],t.at_⟩:cA)]++x.l++y.l)) (λ_ h=>DL.j1 h);have u:=u.p2.drop.p2.drop.p2.drop.p2.drop.p2.p1.p2;have M:=(I cK).2.2 E2;rw[<- Z]at M;exact⟨_,cK,⟨_,_,_,_⟩,U,M,u⟩
 refine aD fX u.At (aJ (x:=(⟨g,x.to,x.e,x.at_⟩:dZ)) u.p2 fX rfl rfl λ_ u=>aD fX u.At ?_);have B:r=(⟨x.l,x.to,x.e,x.at_⟩:fL):=aec (x:=x) E cK;rw[B];have u:=u.p2.dM (Ψ:=(λw=>mG w (⟨g,x.to,x.e,x.at_⟩:dZ) (⟨x.l,x.to,x.e,x.at_⟩:fL))) (λ_ h=>⟨_,rfl,id h⟩);have u:=u.p1.drop.p1.drop;exact⟨_,rfl,u.fresh⟩
theorem aj3{l:List bT}(B:jk l):∀j,ajD l (HJ l j)
 | 0=>λlv i d n r w E u=>by cases u
 | j+1=>λlv i d n r w E u I G J=>⟨C258 l j lv i d n r w E B (aj3 B j) I G J u,λh5=>by subst h5;exact C294 l (HJ l j) lv i d r w E B (aj3 B j) I G (agT u)⟩
def C213(l:List bT)(lv:Value)(i:Int)(R:List cA×Int×Int×Int)(w:World)(hL:dA (λ_=>True) w lv l)(Z:jk l)(hil:i<=l.length)(I:v8 l i=some R):CR 213 [lv,hZ i] w (λv w'=>∃sv:SV,v=.tuple #[ia sv,hZ R.2.1,hZ R.2.2.1,hZ R.2.2.2]/\lg (eG λw=>DL w (ia sv) R.1) w w'):=by
 have Dx:=Z.n;have hn:l.length<=1000000:=cK
 have sy:=Z.at_;have u:=St.start w;refine oH Tryz.func213 (pl:=auv) ?_;refine aR (aC (λgH=>?_) λgH=>?_)
 .have B:R=([],0,1,0):=by
   unfold v8 at I;rw[ew gH]at I;exact(oe.inj I).symm
  rw[B];exact⟨bX,rfl,(u.fy (Φ:=λw=>DL w (ia (bX:SV)) ([]:List cA)) λw=>DL.nil w).fresh⟩
 obtain⟨x,hx,O⟩:=Zu I cK;refine dQ Rk ((aj3 Z 10000 _ i 0 0 x _ (hL.ext u.aG) hx cK cK cK).1) ?_;rintro _ _ ⟨axV,rfl,cL⟩;have u:=u.made cL;obtain⟨E,aj4,_⟩:=u.eG;subst aj4;refine aM u tC (λTG _ u=>have u:=u.enc (cs':=j0 (⟨bX,0,0,0⟩:dZ)) rfl;aJ (x:=(⟨E,x.to,x.e,x.at_⟩:dZ)) u fX rfl rfl λ_ u=>aA uC (aB (v:=hZ x.e) jL u.hb rfl (bW (aC (λV=>?_) λV=>?_))))
 .refine aA uC (have u:=u.drew;aB (v:=hZ x.e) jL u.hb rfl (aA Wk (aB (v:=hZ x.at_) bL u.hb rfl ?_)))
  have B:R=([],0,x.e,x.at_):=by
   rw[ew V]at O;exact(oe.inj O).symm
  rw[B];exact⟨bX,rfl,(u.fy (Φ:=λw=>DL w (ia (bX:SV)) ([]:List cA)) λw=>DL.nil w).fresh⟩
 rw[ej V]at O;obtain⟨tr,J,U,Hk,hxl,G⟩:=Qk O;have htki:=(kE.1 Hk).1;obtain⟨Y,tS⟩:=vn U;have W:By x.l 0 tr:=⟨cK,Y,[],by simpa using tS⟩;refine aA se (aB (v:=ia (E:SV)) ju u.hb rfl (aV VZ u (C252 _ x.l 0 tr (tr.size+1) _ (DL.flat (lF u.p1.eG)) cK W cK) λ_ he u=>cO (aC (λM=>?_) λM=>aA se (aB (v:=ia (E:SV)) ju u.hb rfl (aK gV (DL.flat (lF u.p1.eG)) (cO (aC (λyR=>?_) λyR=>?_)))))))
 .refine aO fK (hL.ext u.aG) cK Hk (λ_ uJ=>bV J.at_ lL uJ rfl rfl λ_ EG=>have u:=u.drew;aD bL EG ?_)
  have B:R=([],0,7,J.at_):=by
   rw[ew M]at G;exact(oe.inj G).symm
  rw[B];exact⟨bX,rfl,(u.fy (Φ:=λw=>DL w (ia (bX:SV)) ([]:List cA)) λw=>DL.nil w).fresh⟩
 .refine aO fK (hL.ext u.aG) cK Hk (λ_ AM=>bV J.at_ lL AM rfl rfl λ_ xe=>have u:=u.drew;aD bL xe ?_)
  have B:R=([],0,2,J.at_):=by
   rw[ej M,ew cK]at G;exact(oe.inj G).symm
  rw[B];exact⟨bX,rfl,(u.fy (Φ:=λw=>DL w (ia (bX:SV)) ([]:List cA)) λw=>DL.nil w).fresh⟩
 refine aA se (have u:=u.drew;aB (v:=ia (E:SV)) ju u.hb rfl (aA oW (aB (v:=hZ x.to) bL u.hb rfl ?_)));have u:=u.p1.dM (Ψ:=λw=>DL w (ia E) x.l) (λ_ h=>lF h)
 have B:R=(x.l,x.to,0,0):=by
  rw[ej M,ej cK]at G;exact(oe.inj G).symm
 rw[B];exact⟨E,rfl,u.fresh⟩
structure fP where
 at_:Int
 e:Int
 pos:Int
deriving DecidableEq
def jz(l:List bT)(s:fP)(e:Int):fP:=if s.e=0 then {s with e:=if (l.length:Int)<=s.at_ then 6 else e,pos:=nj l s.at_}else s
def dU(l:List bT)(s:fP)(t:ByteArray):fP:=if (decide (s.e=0)&&tK l s.at_ t)=true then {s with at_:=s.at_+1}else jz l s 5
def lZ(l:List bT)(i:Int):Option bT:=if 0<=i then l[i.toNat]? else none
def tL(l:List bT)(s:fP):Bool:=decide (s.e=0)&&(match lZ l s.at_ with|some t=>decide (t.kind=1)&&gJ t.text|none=>false)
def pC(l:List bT)(i:Int):bT:=(lZ l i).getD ⟨0,⟨#[]⟩,0,0⟩
def dC(l:List bT)(s:fP):fP×ByteArray:=if tL l s=true then({s with at_:=s.at_+1},(pC l s.at_).text)else(jz l s 5,⟨#[]⟩)
def rq(l:List bT)(s:fP):Option (fP×List cA):=if s.e≠0 then some (s,[])else(v8 l s.at_).bind λR=>
 if R.2.2.1≠0 then some ({s with e:=R.2.2.1,pos:=R.2.2.2},[])else if 0<=R.2.1/\R.2.1<=l.length then some ({s with at_:=R.2.1},R.1)else none
def Ql(l:List bT)(s:fP):Bool:=decide (s.e=0)&&(match lZ l s.at_ with|some t=>decide (t.kind=2)|none=>false)
def kZ(l:List bT)(s:fP):fP×Int:=if Ql l s=true then(if 1<=(pC l s.at_).n/\(pC l s.at_).n<=8 then({s with at_:=s.at_+1},(pC l s.at_).n)else(jz l s 11,0))else(jz l s 5,0)
def DG:List ByteArray:=[⟨#[]⟩,⟨#[]⟩,⟨#[108,111,97,100]⟩,⟨#[115,116,111,114,101]⟩,⟨#[99,97,115]⟩,⟨#[102,108,117,115,104]⟩,⟨#[111,112,116]⟩,⟨#[115,102,101,110,99,101]⟩,⟨#[109,102,101,110,99,101]⟩,⟨#[116,97,107,101]⟩,⟨#[103,105,118,101]⟩,⟨#[105,102]⟩,⟨#[108,111,111,112]⟩,⟨#[98,114,101,97,107]⟩,⟨#[99,104,101,99,107]⟩]
def HL(k:Int):ByteArray:=(DG[k.toNat]?).getD ⟨#[]⟩
def lG(l:List bT)(s:fP):Prop:=0<=s.at_/\s.at_<=l.length
section
variable {l:List bT}{s:fP}{e:Int}{t:ByteArray}
theorem tM(h:lG l s):lG l (jz l s e):=by unfold jz;split<;>exact h
theorem fG(h:lG l s):lG l (dU l s t):=by
 unfold dU;split
 .rename_i h2
  rw[n5]at h2
  have:=sQ h2.2
  exact⟨dD,dD⟩
 exact tM h
theorem mN{i:Int}{k:bT}(h:lZ l i=some k):0<=i/\i<l.length/\l[i.toNat]?=some k:=by
 unfold lZ at h
 grind
theorem Bc(h:tL l s=true):s.e=0/\∃k,lZ l s.at_=some k/\k.kind=1/\gJ k.text=true:=by
 unfold tL at h
 grind
theorem SW(h:Ql l s=true):s.e=0/\∃k,lZ l s.at_=some k/\k.kind=2:=by
 unfold Ql at h
 grind
theorem gK(h:lG l s):lG l (dC l s).1:=by
 unfold dC;split
 .rename_i h2
  obtain⟨_,k,u,_⟩:=Bc h2
  have:=mN u
  exact⟨dD,dD⟩
 exact tM h
theorem UA(h:lG l s):lG l (kZ l s).1:=by
 unfold kZ;split
 .rename_i h2
  obtain⟨_,k,u,_⟩:=SW h2
  have:=mN u
  split
  .exact⟨dD,dD⟩
  exact tM h
 exact tM h
theorem sR{s':fP}{x:List cA}(h:lG l s)(u:rq l s=some (s',x)):lG l s':=by
 unfold rq at u
 split at u
 .grind
 cases hx:v8 l s.at_ with
 | none=>grind
 | some R=>
  grind[lG]
end
@[reducible] def eo(lv ov:Value)(s:fP):List Value:=[lv,.int .i64 s.at_,.int .i64 s.e,.int .i64 s.pos,ov]
@[reducible] def eA(lv:Value)(s:fP):List Value:=[lv,.int .i64 s.at_,.int .i64 s.e,.int .i64 s.pos]
def iD(l:List bT)(s:fP)(t:ByteArray):fP×Bool:=if (decide (s.e=0)&&tK l s.at_ t)=true then({s with at_:=s.at_+1},true)else(s,false)
def fa(l:List bT)(s:fP):fP×cJ:=if tL l s=true then({s with at_:=s.at_+1},⟨(pC l s.at_).text,0,(pC l s.at_).at_⟩)else(jz l s 5,⟨⟨#[]⟩,0,0⟩)
def kz{l:List bT}{s:fP}{t:ByteArray}(h:lG l s):lG l (iD l s t).1:=by
 unfold iD;split
 .rename_i h2
  rw[n5]at h2
  have:=sQ h2.2
  exact⟨dD,dD⟩
 exact h
def uY{l:List bT}{s:fP}(h:lG l s):lG l (fa l s).1:=by
 unfold fa;split
 .rename_i h2
  obtain⟨_,k,u,_⟩:=Bc h2
  have:=mN u
  exact⟨dD,dD⟩
 exact tM h
theorem Zw{l:List bT}{s u:fP}{x:List cA}(h:rq l s=some (u,x))(B:¬ s.e≠0):∃R,v8 l s.at_=some R/\
  (if R.2.2.1≠0 then some ({s with e:=R.2.2.1,pos:=R.2.2.2},[])else if 0<=R.2.1/\R.2.1<=l.length then some ({s with at_:=R.2.1},R.1)else none)=some (u,x):=by
 unfold rq at h;rw[ej B]at h
 cases hx:v8 l s.at_ with
 | none=>grind
 | some R=>grind
def Zx{l:List bT}{s u:fP}{x:List cA}{R:List cA×Int×Int×Int}(h:(if R.2.2.1≠0 then some ({s with e:=R.2.2.1,pos:=R.2.2.2},[])else if 0<=R.2.1/\R.2.1<=l.length then some ({s with at_:=R.2.1},R.1)else none)=some (u,x))(B:¬ R.2.2.1≠0):0<=R.2.1/\R.2.1<=l.length:=by
 grind
def C291(p:Nat)(lv ov:Value)(l:List bT)(s:fP)(e:Int)(F:Nat->Prop)(w:World)(W:(bY p (eo lv ov s)).p w F)(E:∀w',gu F w w'->dA (λ_=>True) w' lv l)(J:jk l)(U:lG l s):CR 291 [(.pointer (some ⟨p,0,none⟩)),hZ e] w (λv w'=>v=.tuple #[]/\mP F (bY p (eo lv ov (jz l s e))) w w'):=by
 have u:=St.begin W;have Dx:=J.n;have M:l.length<=1000000:=cK
 have I:=J.at_;obtain⟨SX,SY⟩:=id U;refine oH Tryz.func291 (pl:=auK) ?_;refine aE (aA kR (aB jL u.hb rfl (aH (aC (λB=>aE (aA kR (aT u jL (dL rfl) (rfl) λ_ u=>⟨_,aE (aA eZ (have u:=u.drew;aB bL u.hb rfl (aE (aA iG (aB jn u.hb rfl (aK fK (E _ u.aG) (cR (aC (λG=>?_) λG=>?_)))))))),λ_ h=>h⟩))) λB=>?_))))
 .refine aE (aA kR (aT u jL (dL rfl) (rfl) λ_ u=>?_));intro V;refine aE (aA iG (have u:=u.drew;aB jn u.hb rfl (aE (aA eZ (aB bL u.hb rfl (aV GK u (C214 _ l s.at_ _ (E _ u.aG) M I) λZ Y u=>aE (aA Au (aT u bL (dL rfl) (rfl) λO u=>?_))))))));have hb:jz l s e=(⟨s.at_,6,(nj l s.at_)⟩:fP):=by unfold jz;rw[ew B,ew G]
  rw[hb];exact⟨rfl,u.mut⟩
 .intro V;refine aE (aA iG (have u:=u.drew;aB jn u.hb rfl (aE (aA eZ (aB bL u.hb rfl (aV GK u (C214 _ l s.at_ _ (E _ u.aG) M I) λZ Y u=>aE (aA Au (aT u bL (dL rfl) (rfl) λO u=>?_))))))));have hb:jz l s e=(⟨s.at_,e,(nj l s.at_)⟩:fP):=by unfold jz;rw[ew B,ej G]
  rw[hb];exact⟨rfl,u.mut⟩
 have hb:jz l s e=s:=by unfold jz;rw[ej B]
 rw[hb];exact⟨rfl,u.mut⟩
def C136(p:Nat)(lv:Value)(l:List bT)(s:fP)(F:Nat->Prop)(w:World)(W:(bY p (eA lv s)).p w F)(G:∀w',gu F w w'->dA (λ_=>True) w' lv l)(J:jk l)(U:lG l s):CR 136 [(.pointer (some ⟨p,0,none⟩))] w (λv w'=>v=.tuple #[]/\mP F (bY p (eA lv (jz l s 5))) w w'):=by
 have u:=St.begin W;have Dx:=J.n;have M:l.length<=1000000:=cK
 have I:=J.at_;obtain⟨SX,SY⟩:=id U;refine oH Tryz.func136 (pl:=aul) ?_;refine aE (aA mr (aB jL u.hb rfl (aH (aC (λB=>aE (aA mr (aT u jL (dL rfl) (rfl) λ_ u=>⟨_,aE (aA fw (have u:=u.drew;aB bL u.hb rfl (aE (aA j9 (aB jn u.hb rfl (aK fK (G _ u.aG) (cR (aC (λE=>?_) λE=>?_)))))))),λ_ h=>h⟩))) λB=>?_))))
 .refine aE (aA mr (aT u jL (dL rfl) (rfl) λ_ u=>?_));intro V;refine aE (aA j9 (have u:=u.drew;aB jn u.hb rfl (aE (aA fw (aB bL u.hb rfl (aV GK u (C214 _ l s.at_ _ (G _ u.aG) M I) λZ Y u=>aE (aA wL (aT u bL (dL rfl) (rfl) λO u=>?_))))))));have hb:jz l s 5=(⟨s.at_,6,(nj l s.at_)⟩:fP):=by unfold jz;rw[ew B,ew E]
  rw[hb];exact⟨rfl,u.mut⟩
 .intro V;refine aE (aA j9 (have u:=u.drew;aB jn u.hb rfl (aE (aA fw (aB bL u.hb rfl (aV GK u (C214 _ l s.at_ _ (G _ u.aG) M I) λZ Y u=>aE (aA wL (aT u bL (dL rfl) (rfl) λO u=>?_))))))));have hb:jz l s 5=(⟨s.at_,5,(nj l s.at_)⟩:fP):=by unfold jz;rw[ew B,ej E]
  rw[hb];exact⟨rfl,u.mut⟩
 have hb:jz l s 5=s:=by unfold jz;rw[ej B]
 rw[hb];exact⟨rfl,u.mut⟩
def C257(p:Nat)(lv ov:Value)(l:List bT)(s:fP)(t:ByteArray)(F:Nat->Prop)(w:World)(Y:(bY p (eo lv ov s)).p w F)(J:∀w',gu F w w'->dA (λ_=>True) w' lv l)(G:jk l)(I:lG l s):CR 257 [(.pointer (some ⟨p,0,none⟩)),.string t] w (λv w'=>v=.tuple #[]/\mP F (bY p (eo lv ov (dU l s t))) w w'):=by
 have u:=St.begin Y;have Dx:=G.n;have V:l.length<=1000000:=cK
 have sy:=G.at_;obtain⟨SX,SY⟩:=id I;refine oH Tryz.func257 (pl:=auE) ?_;refine⟨λW w'=>W=.bool (decide (s.e=0)&&tK l s.at_ t)/\St w F [bY p (eo lv ov s)] w',aE (aA kR (have u:=u.drew;aB jL u.hb rfl (aH (aC (λB=>aE (aA iG (aB jn u.hb rfl (aE (aA eZ (aB bL u.hb rfl (aV vN u (C209 _ l s.at_ t _ (J _ u.aG) V) λ_ _ u=>⟨vb (by first|(rw[ez B];rfl)|(rw[fN B];rfl)),u⟩))))))) λB=>⟨vb (by first|(rw[ez B];rfl)|(rw[fN B];rfl)),u⟩)))),?_⟩;rintro _ _ ⟨rfl,u⟩ _;refine aY (λE=>?_) (λE=>?_)
 .have M:=sQ (by rw[n5]at E;exact E.2);refine aE (aA eZ (aB bL u.hb rfl (aN cK (aE (aA eZ (aT u bL (dL rfl) (rfl) λ_ u=>?_))))));have hb:dU l s t={s with at_:=s.at_+1}:=by unfold dU;rw[ew (by simpa using E)]
  rw[hb];exact⟨rfl,u.mut⟩
 refine bF GM u (H':=λ_=>bY p (eo lv ov (jz l s 5))) (Φ:=λ_ _=>True) (λO Z U=>?_) ?_
 .exact(C291 p lv ov l s 5 O _ Z (λw' hc=>J w' (U w' hc).aG) G I).mono λ_ _ r=>r.mono λ_ _ h=>⟨trivial,h.2⟩
 rintro _ _ _ u;have hb:dU l s t=jz l s 5:=by unfold dU;rw[ej (by simpa using E)]
 rw[hb];exact⟨rfl,u.mut⟩
def C131(p:Nat)(lv:Value)(l:List bT)(s:fP)(t:ByteArray)(F:Nat->Prop)(w:World)(V:(bY p (eA lv s)).p w F)(O:∀w',gu F w w'->dA (λ_=>True) w' lv l)(G:jk l)(J:lG l s):CR 131 [(.pointer (some ⟨p,0,none⟩)),.string t] w (λv w'=>v=.bool (iD l s t).2/\mP F (bY p (eA lv (iD l s t).1)) w w'):=by
 have u:=St.begin V;have Y:=G.n;have M:l.length<=1000000:=cK
 have W:=G.at_;obtain⟨SX,Z⟩:=id J;refine oH Tryz.func131 (pl:=auc) ?_;refine⟨λU w'=>U=.bool (decide (s.e=0)&&tK l s.at_ t)/\St w F [bY p (eA lv s)] w',aE (aA mr (have u:=u.drew;aB jL u.hb rfl (aH (aC (λB=>aE (aA j9 (aB jn u.hb rfl (aE (aA fw (aB bL u.hb rfl (aV vN u (C209 _ l s.at_ t _ (O _ u.aG) M) λ_ _ u=>⟨vb (by first|(rw[ez B];rfl)|(rw[fN B];rfl)),u⟩))))))) λB=>⟨vb (by first|(rw[ez B];rfl)|(rw[fN B];rfl)),u⟩)))),?_⟩;rintro _ _ ⟨rfl,u⟩ _;refine aY (λE=>?_) (λE=>?_)
 .have I:=sQ (by rw[n5]at E;exact E.2);refine aE (aA fw (aB bL u.hb rfl (aN cK (aE (aA fw (aT u bL (dL rfl) (rfl) λ_ u=>?_))))));have hb:iD l s t=({s with at_:=s.at_+1},true):=by unfold iD;rw[ew (by simpa using E)]
  rw[hb];exact⟨rfl,u.mut⟩
 have hb:iD l s t=(s,false):=by unfold iD;rw[ej (by simpa using E)]
 rw[hb];exact⟨rfl,u.mut⟩
def C210(p:Nat)(lv:Value)(l:List bT)(s:fP)(t:ByteArray)(F:Nat->Prop)(w:World)(W:(bY p (eA lv s)).p w F)(V:∀w',gu F w w'->dA (λ_=>True) w' lv l)(E:jk l)(I:lG l s):CR 210 [(.pointer (some ⟨p,0,none⟩)),.string t] w (λv w'=>v=.tuple #[]/\mP F (bY p (eA lv (dU l s t))) w w'):=by
 have B:=St.begin W;have Dx:=E.n;have hn:l.length<=1000000:=cK
 have Y:=E.at_;obtain⟨SX,SY⟩:=id I;refine eX Tryz.func210 ?_;refine bF yC B (H':=λ_=>bY p (eA lv (iD l s t).1)) (Φ:=λv _=>v=.bool (iD l s t).2) (λM U O=>?_) ?_
 .exact C131 p lv l s t M _ U (λw' hc=>V w' (O w' hc).aG) E I
 rintro _ Z rfl B;refine bR (aY (λJ=>?_) λJ=>?_)
 .refine bF Rd B (H':=λ_=>bY p (eA lv (jz l (iD l s t).1 5))) (Φ:=λ_ _=>True) (λM U O=>?_) ?_
  .exact(C136 p lv l (iD l s t).1 M _ U (λw' hc=>V w' (O w' hc).aG) E (kz I)).mono λ_ _ r=>r.mono λ_ _ h=>⟨trivial,h.2⟩
  rintro _ w2 _ B
  have G:dU l s t=jz l (iD l s t).1 5:=by
   have u:(iD l s t).2=false:=by simpa using J
   unfold iD at u |-;unfold dU
   split at u
   .cases u
   .rename_i h8;rw[ej h8,ej h8]
  rw[G];exact⟨rfl,B.mut⟩
 have G:dU l s t=(iD l s t).1:=by
  have u:(iD l s t).2=true:=by simpa using J
  unfold iD at u |-;unfold dU
  split at u
  .rename_i h8;rw[ew h8,ew h8]
  .cases u
 rw[G];exact⟨rfl,B.mut⟩
def C317(p:Nat)(lv ov:Value)(l:List bT)(s:fP)(F:Nat->Prop)(w:World)(hF:(bY p (eo lv ov s)).p w F)(I:∀w',gu F w w'->dA (λ_=>True) w' lv l)(M:jk l)(Y:lG l s):CR 317 [(.pointer (some ⟨p,0,none⟩))] w (λv w'=>v=.string (dC l s).2/\mP F (bY p (eo lv ov (dC l s).1)) w w'):=by
 have u:=St.begin hF;have Dx:=M.n;have hn:l.length<=1000000:=cK
 have Z:=M.at_;obtain⟨SX,SY⟩:=id Y;refine oH Tryz.func317 (pl:=auS) ?_;refine⟨λjv w'=>jv=.bool (tL l s)/\St w F [bY p (eo lv ov s)] w',?_,?_⟩
 .refine aE (aA kR (have u:=u.drew;aB jL u.hb rfl (aH (aC (λE=>aE (aA eZ (aB bL u.hb rfl (aE (aA iG (aB jn u.hb rfl (aK fK (I _ u.aG) (aR (aC (λlP=>?_) λlP=>⟨vb (by unfold tL lZ;first|(rw[fN E];rfl)|(rw[ew cK,mY cK];simp;done)|(rw[ew cK,G,ez E];dsimp only;first|(rw[fN B];rfl)|(rw[ez B];rfl))),u⟩))))))))) λE=>⟨vb (by unfold tL lZ;first|(rw[fN E];rfl)|(rw[ew cK,mY cK];simp;done)|(rw[ew cK,G,ez E];dsimp only;first|(rw[fN B];rfl)|(rw[ez B];rfl))),u⟩))))
  refine aE (aA iG (aB jn u.hb rfl (aE (aA eZ (aB bL u.hb rfl ?_)))));obtain⟨W,G⟩:=gx l (i:=s.at_.toNat) cK;refine aO fK (I _ u.aG) cK G (λ_ AK=>bV (W).kind lK AK rfl rfl λ_ mA=>?_);exact aD bL mA (aH (aC (λB=>aE (aA iG (aB jn u.hb rfl (aE (aA eZ (aB bL u.hb rfl (aO fK (I _ u.aG) cK G λ_ vW=>bV (W).text nA vW rfl rfl λ_ uU=>aD gv uU (aV ur u (C211 _ _ (by have:=Z _ (kO G);omega)) λ_ he u=>⟨vb (by unfold tL lZ;first|(rw[fN E];rfl)|(rw[ew cK,mY cK];simp;done)|(rw[ew cK,G,ez E];dsimp only;first|(rw[fN B];rfl)|(rw[ez B];rfl))),u⟩)))))))) λB=>⟨vb (by unfold tL lZ;first|(rw[fN E];rfl)|(rw[ew cK,mY cK];simp;done)|(rw[ew cK,G,ez E];dsimp only;first|(rw[fN B];rfl)|(rw[ez B];rfl))),u⟩))
 rintro _ _ ⟨rfl,u⟩ _;refine aY (λJ=>?_) (λJ=>?_)
 .obtain⟨_,O,V,_,_⟩:=Bc J;obtain⟨aq6,aq7,U⟩:=mN V;have Hk:l[(s.at_+1-1).toNat]?=some O:=by rw[<- U];congr 2;omega
  refine aE (aA eZ (aB bL u.hb rfl (aN cK (aE (aA eZ (aT u bL (dL rfl) (rfl) λ_ u=>aE (aA iG (have u:=u.drew;aB jn u.hb rfl (aE (aA eZ (aB bL u.hb rfl ?_)))))))))));refine fg cK (aO fK (I _ u.aG) cK Hk λ_ CF=>bV O.text nA CF rfl rfl λ_ Zy=>aD gv Zy ?_);have hb:dC l s=({s with at_:=s.at_+1},O.text):=by unfold dC;rw[ew J];unfold pC;rw[V];rfl
  rw[hb];exact⟨rfl,u.mut⟩
 refine bF GM u (H':=λ_=>bY p (eo lv ov (jz l s 5))) (Φ:=λ_ _=>True) (λF2 eb dW=>?_) ?_
 .exact(C291 p lv ov l s 5 F2 _ eb (λw' hc=>I w' (dW w' hc).aG) M Y).mono λ_ _ r=>r.mono λ_ _ h=>⟨trivial,h.2⟩
 rintro _ _ _ u;have hb:dC l s=(jz l s 5,⟨#[]⟩):=by unfold dC;rw[ej (by simpa using J)]
 rw[hb];exact⟨rfl,u.mut⟩
def C133(p:Nat)(lv:Value)(l:List bT)(s:fP)(F:Nat->Prop)(w:World)(hF:(bY p (eA lv s)).p w F)(J:∀w',gu F w w'->dA (λ_=>True) w' lv l)(O:jk l)(Z:lG l s):CR 133 [(.pointer (some ⟨p,0,none⟩))] w (λv w'=>v=ia (fa l s).2/\mP F (bY p (eA lv (fa l s).1)) w w'):=by
 have u:=St.begin hF;have Dx:=O.n;have hn:l.length<=1000000:=cK
 have sy:=O.at_;obtain⟨SX,SY⟩:=id Z;refine oH Tryz.func133 (pl:=aui) ?_;refine aM u oT (λwh _ u=>⟨λjv w'=>jv=.bool (tL l s)/\St w F [bY p (eA lv s),bY wh (j0 (⟨kp #[],0,0⟩:cJ))] w',?_,?_⟩)
 .refine aE (aA mr (have u:=u.drew;aB jL u.p1.hb rfl (aH (aC (λE=>aE (aA fw (aB bL u.p1.hb rfl (aE (aA j9 (aB jn u.p1.hb rfl (aK fK (J _ u.aG) (aR (aC (λlP=>?_) λlP=>have u:=u.p1;⟨vb (by unfold tL lZ;first|(rw[fN E];rfl)|(rw[ew cK,mY cK];simp;done)|(rw[ew cK,G,ez E];dsimp only;first|(rw[fN B];rfl)|(rw[ez B];rfl))),u⟩))))))))) λE=>have u:=u.p1;⟨vb (by unfold tL lZ;first|(rw[fN E];rfl)|(rw[ew cK,mY cK];simp;done)|(rw[ew cK,G,ez E];dsimp only;first|(rw[fN B];rfl)|(rw[ez B];rfl))),u⟩))))
  refine aE (aA j9 (aB jn u.p1.hb rfl (aE (aA fw (aB bL u.p1.hb rfl ?_)))));obtain⟨Y,G⟩:=gx l (i:=s.at_.toNat) cK;refine aO fK (J _ u.aG) cK G (λ_ AK=>bV Y.kind lK AK rfl rfl λ_ mA=>?_);exact aD bL mA (aH (aC (λB=>aE (aA j9 (aB jn u.p1.hb rfl (aE (aA fw (aB bL u.p1.hb rfl (aO fK (J _ u.aG) cK G λ_ vW=>bV Y.text nA vW rfl rfl λ_ uU=>aD gv uU (aV ur u (C211 _ _ (by have:=sy _ (kO G);omega)) λ_ he u=>have u:=u.p1;⟨vb (by unfold tL lZ;first|(rw[fN E];rfl)|(rw[ew cK,mY cK];simp;done)|(rw[ew cK,G,ez E];dsimp only;first|(rw[fN B];rfl)|(rw[ez B];rfl))),u⟩)))))))) λB=>have u:=u.p1;⟨vb (by unfold tL lZ;first|(rw[fN E];rfl)|(rw[ew cK,mY cK];simp;done)|(rw[ew cK,G,ez E];dsimp only;first|(rw[fN B];rfl)|(rw[ez B];rfl))),u⟩))
 rintro _ _ ⟨rfl,u⟩ _;refine aY (λM=>?_) (λM=>?_)
 .obtain⟨_,I,W,_,_⟩:=Bc M;obtain⟨aq6,aq7,V⟩:=mN W;have Hk:l[(s.at_+1-1).toNat]?=some I:=by rw[<- V];congr 2;omega
  refine aE (aA fw (aB bL u.hb rfl (aN cK (aE (aA fw (aT u bL (dL rfl) (rfl) λ_ u=>aE (aA j9 (have u:=u.drew;aB jn u.hb rfl (aE (aA fw (aB bL u.hb rfl ?_)))))))))));refine fg cK (aO fK (J _ u.aG) cK Hk λ_ CF=>bV I.text nA CF rfl rfl λ_ Zy=>aD gv Zy (aE (aA j9 (aB jn u.hb rfl (aE (aA fw (aB bL u.hb rfl (fg cK (aO fK (J _ u.aG) cK Hk λ_ U=>bV I.at_ lL U rfl rfl λ_ Nh=>?_)))))))))
  refine aD bL Nh (pop (Ec _ _) (aJ (x:=(⟨I.text,0,I.at_⟩:cJ)) u.p1 l9 rfl rfl λ_ u=>aD l9 u.At ?_));have u:=u.drop;have hb:fa l s=({s with at_:=s.at_+1},⟨I.text,0,I.at_⟩):=by unfold fa;rw[ew M];unfold pC;rw[W];rfl
  rw[hb];exact⟨rfl,u.mut⟩
 refine bF Rd u (H':=λ_=>bY p (eA lv (jz l s 5))) (Φ:=λ_ _=>True) (λF2 eb dW=>?_) ?_
 .exact(C136 p lv l s F2 _ eb (λw' hc=>J w' (dW w' hc).aG) O Z).mono λ_ _ r=>r.mono λ_ _ h=>⟨trivial,h.2⟩
 rintro _ _ _ u;refine pop acj (aJ (x:=(⟨(kp #[]),0,0⟩:cJ)) u.p1 l9 rfl rfl λ_ u=>aD l9 u.At ?_);have u:=u.drop;have hb:fa l s=(jz l s 5,⟨⟨#[]⟩,0,0⟩):=by unfold fa;rw[ej (by simpa using M)]
 rw[hb];exact⟨rfl,u.mut⟩
def C290(k:Int)(w:World)(M:0<=k/\k<=14):CR 290 [hZ k] w (λv w'=>v=.string (HL k)/\Ext w w'):=by
 have u:=St.start w;refine eX Tryz.func290 ?_;refine aZ DG u iy rfl rfl (dL rfl) (λG _ u=>?_);have J:DG.length=15:=rfl;obtain⟨I,E⟩:=gx DG (i:=k.toNat) cK;refine dR u iy cK cK (λ_ B=>gL u gv B E ?_);refine⟨?_,u.drop.aG⟩;unfold HL;rw[E];rfl
def C319(p:Nat)(lv ov:Value)(l:List bT)(s:fP)(F:Nat->Prop)(w:World)(hF:(bY p (eo lv ov s)).p w F)(G:∀w',gu F w w'->dA (λ_=>True) w' lv l)(I:jk l)(U:lG l s):CR 319 [(.pointer (some ⟨p,0,none⟩))] w (λv w'=>v=hZ (kZ l s).2/\mP F (bY p (eo lv ov (kZ l s).1)) w w'):=by
 have u:=St.begin hF;have Dx:=I.n;have hn:l.length<=1000000:=cK
 have sy:=I.at_;obtain⟨SX,SY⟩:=id U;refine oH Tryz.func319 (pl:=auU) ?_;refine⟨λZ w'=>Z=.bool (Ql l s)/\St w F [bY p (eo lv ov s)] w',?_,?_⟩
 .refine aE (aA kR (have u:=u.drew;aB jL u.hb rfl (aH (aC (λB=>aE (aA eZ (aB bL u.hb rfl (aE (aA iG (aB jn u.hb rfl (aK fK (G _ u.aG) (aR (aC (λfr=>?_) λfr=>⟨vb (by unfold Ql lZ;first|(rw[fN B];rfl)|(rw[ew cK,mY cK];simp;done)|(rw[ew cK,M,ez B];rfl)),u⟩))))))))) λB=>⟨vb (by unfold Ql lZ;first|(rw[fN B];rfl)|(rw[ew cK,mY cK];simp;done)|(rw[ew cK,M,ez B];rfl)),u⟩))))
  refine aE (aA iG (aB jn u.hb rfl (aE (aA eZ (aB bL u.hb rfl ?_)))));obtain⟨q8,M⟩:=gx l (i:=s.at_.toNat) cK;exact aO fK (G _ u.aG) cK M (λ_ mA=>bV q8.kind lK mA rfl rfl λ_ su=>aD bL su (aH ⟨vb (by unfold Ql lZ;first|(rw[fN B];rfl)|(rw[ew cK,mY cK];simp;done)|(rw[ew cK,M,ez B];rfl)),u⟩))
 rintro _ _ ⟨rfl,u⟩ _;refine aY (λE=>?_) (λE=>?_)
 .obtain⟨_,J,O,_⟩:=SW E;obtain⟨aq6,aq7,Hk⟩:=mN O;refine aE (aA iG (have u:=u.drew;aB jn u.hb rfl (aE (aA eZ (aB bL u.hb rfl (aO fK (G _ u.aG) cK Hk λ_ vW=>bV J.n sd vW rfl rfl λ_ uU=>aD bL uU ⟨λZ w'=>Z=.bool (decide (1<=J.n/\J.n<=8))/\St w F [bY p (eo lv ov s)] w',cR (aC (λ_=>iB ⟨vb (by first|exact(fN cK).symm|exact ga.2 cK),u⟩) λ_=>⟨vb (by first|exact(fN cK).symm|exact ga.2 cK),u⟩),?_⟩))))))
  rintro _ _ ⟨rfl,u⟩ _;refine aC (λV=>?_) (λV=>?_)
  .refine aE (aA eZ (aB bL u.hb rfl (aN cK (aE (aA eZ (aT u bL (dL rfl) (rfl) λ_ u=>?_))))));have hb:kZ l s=({s with at_:=s.at_+1},J.n):=by unfold kZ;rw[ew E];unfold pC;rw[O];exact ew V
   rw[hb];exact⟨rfl,u.mut⟩
  refine bF GM u (H':=λ_=>bY p (eo lv ov (jz l s 11))) (Φ:=λ_ _=>True) (λW eb Y=>?_) ?_
  .exact(C291 p lv ov l s 11 W _ eb (λw' hc=>G w' (Y w' hc).aG) I U).mono λ_ _ r=>r.mono λ_ _ h=>⟨trivial,h.2⟩
  rintro _ _ _ u;have hb:kZ l s=(jz l s 11,0):=by unfold kZ;rw[ew E];unfold pC;rw[O];exact ej V
  rw[hb];exact⟨rfl,u.mut⟩
 refine bF GM u (H':=λ_=>bY p (eo lv ov (jz l s 5))) (Φ:=λ_ _=>True) (λW eb Y=>?_) ?_
 .exact(C291 p lv ov l s 5 W _ eb (λw' hc=>G w' (Y w' hc).aG) I U).mono λ_ _ r=>r.mono λ_ _ h=>⟨trivial,h.2⟩
 rintro _ _ _ u;have hb:kZ l s=(jz l s 5,0):=by unfold kZ;rw[ej (by simpa using E)]
 rw[hb];exact⟨rfl,u.mut⟩
def C318(p:Nat)(lv ov:Value)(l:List bT)(s:fP)(B:fP)(x:List cA)(F:Nat->Prop)(w:World)(hF:(bY p (eo lv ov s)).p w F)(Z:∀w',gu F w w'->dA (λ_=>True) w' lv l)(U:jk l)(W:lG l s)(I:rq l s=some (B,x)):CR 318 [(.pointer (some ⟨p,0,none⟩))] w (λv w'=>mP F (pH λsv:SV=>fact (v=ia sv) (sep (bY p (eo lv ov B)) (eG λw=>DL w (ia sv) x))) w w'):=by
 have u:=St.begin hF;have Dx:=U.n;have hn:l.length<=1000000:=cK
 have sy:=U.at_;obtain⟨SX,SY⟩:=id W;refine oH Tryz.func318 (pl:=auT) ?_;refine aE (aA kR (aB jL u.hb rfl (bW (aC (λV=>?_) λV=>?_))))
 .have E:((s,[]):fP×List cA)=(B,x):=by unfold rq at I;rw[ew V]at I;exact oe.inj I
  cases E;have u:=(u.fy (Φ:=λw=>DL w (ia (bX:SV)) ([]:List cA)) λw=>DL.nil w).p1;exact(St.ek (bX:SV) (St.ou rfl (St.join u))).mut
 refine aE (aA iG (have u:=u.drew;aB jn u.hb rfl (aE (aA eZ (aB bL u.hb rfl ?_)))));obtain⟨R,M,G⟩:=Zw I cK;refine dQ afv (C213 l _ s.at_ R _ (Z _ u.aG) U cK M) ?_;rintro _ _ ⟨O,rfl,cL⟩;have u:=u.made cL;refine aQ rfl (aQ rfl (aQ rfl (aQ rfl (bW (aC (λJ=>?_) λJ=>?_)))))
 .refine aE (aA kR (aT u.p1 jL (dL rfl) (rfl) λ_ u=>aE (aA Au (aT u bL (dL rfl) (rfl) λ_ u=>?_))));have E:(({s with e:=R.2.2.1,pos:=R.2.2.2},[]):fP×List cA)=(B,x):=by rw[ew J]at G;exact oe.inj G
  cases E;have u:=(u.p1.drop.fy (Φ:=λw=>DL w (ia (bX:SV)) ([]:List cA)) λw=>DL.nil w).p1;exact(St.ek (bX:SV) (St.ou rfl (St.join u))).mut
 have Y:=Zx G J;refine aE (aA eZ (aT u.p1 bL (dL rfl) (rfl) λ_ u=>?_));have E:(({s with at_:=R.2.1},R.1):fP×List cA)=(B,x):=by rw[ej J,ew Y]at G;exact oe.inj G
 cases E;have u:=u.p1.p1;exact(St.ek O (St.ou rfl (St.join u))).mut
def Ob(k at_:Int):bQ:=⟨k,⟨#[]⟩,⟨#[]⟩,[],[],0,0,0,at_⟩
abbrev Kf:ByteArray:=⟨#[61]⟩
def Vv(l:List bT)(s:fP):fP:=dU l (dC l s).1 (kp #[61])
def s2M(l:List bT)(s:fP):fP:=dU l (dC l (Vv l s)).1 (kp #[44])
def ld(l:List bT)(s:fP)(k a:Int):Option (fP×bQ):=
 if k=1 then(rq l (Vv l s)).bind λr=>some (r.1,{Ob k a with eD:=(dC l s).2,e:=r.2})
 else if k=2 then some ((dC l (Vv l s)).1,{Ob k a with eD:=(dC l s).2,name:=(dC l (Vv l s)).2})
 else if k=3 then(rq l (Vv l s)).bind λr=>some (r.1,{Ob k a with name:=(dC l s).2,e:=r.2})
 else if k=4 then(rq l (s2M l s)).bind λr=>(rq l (dU l r.1 (kp #[44]))).bind λq=>some (q.1,{Ob k a with eD:=(dC l s).2,name:=(dC l (Vv l s)).2,e:=r.2,f:=q.2})
 else if k=5\/k=6\/k=9\/k=10 then some ((dC l s).1,{Ob k a with name:=(dC l s).2})
 else if k=11\/k=14 then(rq l s).bind λr=>some (r.1,{Ob k a with e:=r.2})
 else if k=12 then some ((kZ l s).1,{Ob k a with n:=(kZ l s).2})
 else some (s,Ob k a)
section
variable {l:List bT}{s s':fP}{k a:Int}{x:bQ}
theorem eP{α β γ:Type}{o:Option (α×β)}{g:α×β->Option γ}{c:γ}(h:o.bind g=some c):∃p q,o=some (p,q)/\g (p,q)=some c:=by
 cases o with
 | none=>cases h
 | some r=>grind
theorem SZ(h:ld l s k a=some (s',x))(u:k=1):∃q e,rq l (Vv l s)=some (q,e)/\s'=q/\x={Ob k a with eD:=(dC l s).2,e:=e}:=by
 unfold ld at h;rw[ew u]at h
 obtain⟨q,e,h1,h2⟩:=eP h
 grind
theorem S0(h:ld l s k a=some (s',x))(u:k=2):s'=(dC l (Vv l s)).1/\x={Ob k a with eD:=(dC l s).2,name:=(dC l (Vv l s)).2}:=by
 unfold ld at h;grind
theorem S1(h:ld l s k a=some (s',x))(u:k=3):∃q e,rq l (Vv l s)=some (q,e)/\s'=q/\x={Ob k a with name:=(dC l s).2,e:=e}:=by
 unfold ld at h;rw[ej cK,ej cK,ew u]at h
 obtain⟨q,e,h1,h2⟩:=eP h
 grind
theorem S2(h:ld l s k a=some (s',x))(B:k=4):∃q e u f,rq l (s2M l s)=some (q,e)/\rq l (dU l q (kp #[44]))=some (u,f)/\s'=u/\x={Ob k a with eD:=(dC l s).2,name:=(dC l (Vv l s)).2,e:=e,f:=f}:=by
 unfold ld at h;rw[ej cK,ej cK,ej cK,ew B]at h
 obtain⟨q,e,h1,h2⟩:=eP h
 obtain⟨u,f,h3,h4⟩:=eP h2
 grind
theorem S3(h:ld l s k a=some (s',x))(u:k=5\/k=6\/k=9\/k=10):s'=(dC l s).1/\x={Ob k a with name:=(dC l s).2}:=by
 unfold ld at h;grind
theorem Ni(h:ld l s k a=some (s',x))(u:k=11\/k=14):∃q e,rq l s=some (q,e)/\s'=q/\x={Ob k a with e:=e}:=by
 unfold ld at h;rw[ej cK,ej cK,ej cK,ej cK,ej cK,ew u]at h
 obtain⟨q,e,h1,h2⟩:=eP h
 grind
theorem Nj(h:ld l s k a=some (s',x))(u:k=12):s'=(kZ l s).1/\x={Ob k a with n:=(kZ l s).2}:=by
 unfold ld at h;grind
theorem Nk(h:ld l s k a=some (s',x))(h1:¬ k=1)(h2:¬ k=2)(h3:¬ k=3)(h4:¬ k=4)(h5:¬ (k=5\/k=6\/k=9\/k=10))(h6:¬ (k=11\/k=14))(u:¬ k=12):s'=s/\x=Ob k a:=by
 unfold ld at h;grind
end
def Cj{l:List bT}{s s':fP}{k a:Int}{x:bQ}(B:lG l s)(h:ld l s k a=some (s',x)):lG l s':=by
 have E:lG l (Vv l s):=fG (gK B)
 have G:lG l (s2M l s):=fG (gK E)
 by_cases h1:k=1
 .obtain⟨q,e,u,rfl,_⟩:=SZ h h1;exact sR E u
 by_cases h2:k=2
 .obtain⟨rfl,_⟩:=S0 h h2;exact gK E
 by_cases h3:k=3
 .obtain⟨q,e,u,rfl,_⟩:=S1 h h3;exact sR E u
 by_cases h4:k=4
 .obtain⟨q,e,M,f,u,J,rfl,_⟩:=S2 h h4;exact sR (fG (sR G u)) J
 by_cases h5:k=5\/k=6\/k=9\/k=10
 .obtain⟨rfl,_⟩:=S3 h h5;exact gK B
 by_cases h6:k=11\/k=14
 .obtain⟨q,e,u,rfl,_⟩:=Ni h h6;exact sR B u
 by_cases I:k=12
 .obtain⟨rfl,_⟩:=Nj h I;exact UA B
 obtain⟨rfl,_⟩:=Nk h h1 h2 h3 h4 h5 h6 I;exact B
def xE{α σ:Type}[Flat σ][Deep α σ]{w w0:World}{A:Nat->Prop}{L:List HP}{B:HP}{u:σ}{x:α}(E:St w0 A (B::eG (λw=>mG w u x)::L) w) :
  St w0 A ((pH λs:σ=>fact (ia u=ia s) (sep B (eG λw=>mG w s x)))::L) w:=
 St.ek (H:=λs:σ=>fact (ia u=ia s) (sep B (eG λw=>mG w s x))) u (St.ou rfl (St.join E))
def C292(p:Nat)(lv ov:Value)(l:List bT)(s:fP)(B a:Int)(Y:fP)(x:bQ)(F:Nat->Prop)(w:World)(hF:(bY p (eo lv ov s)).p w F)(U:∀w',gu F w w'->dA (λ_=>True) w' lv l)(J:jk l)(M:lG l s)(hp:ld l s B a=some (Y,x)):CR 292 [(.pointer (some ⟨p,0,none⟩)),hZ B,hZ a] w (λv w'=>mP F (pH λsh:bE=>fact (v=ia sh) (sep (bY p (eo lv ov Y)) (eG λw=>mG w sh x))) w w'):=by
 have u:=St.begin hF;have Dx:=J.n;have hn:l.length<=1000000:=cK
 have sy:=J.at_;obtain⟨SX,SY⟩:=id M;refine eX Tryz.func292 ?_;refine aM u jw (λPM _ u=>have u:=u.enc (cs':=j0 (⟨0,(kp #[]),(kp #[]),bX,bX,0,0,0,0⟩:bE)) rfl;pop (OE _ _) (aM u jw λxc _ u=>have u:=u.enc (cs':=j0 (⟨0,(kp #[]),(kp #[]),bX,bX,0,0,0,0⟩:bE)) rfl;aJ (x:=(⟨B,(kp #[]),(kp #[]),bX,bX,0,0,0,a⟩:bE)) u eL rfl rfl λw3 u=>?_));refine⟨_,?_,λ_ h=>h⟩;refine aH (aC (λwV=>?_) λwV=>aH (aC (λm6=>?_) λm6=>aH (aC (λyR=>?_) λyR=>aH (aC (λvO=>?_) λvO=>⟨λjv w'=>jv=.bool (decide (B=5\/B=6\/B=9\/B=10))/\w3=w',aH (aC (λ_=>⟨vb dD,rfl⟩) λ_=>aH (aC (λ_=>⟨vb dD,rfl⟩) λ_=>aH (aC (λ_=>⟨vb dD,rfl⟩) λ_=>aH ⟨vb dD,rfl⟩))),?_⟩))))
 .obtain⟨q,e,O,rfl,rfl⟩:=SZ hp wV;refine bF D5 u.p2 (H':=λ_=>bY p (eo lv ov (dC l s).1)) (Φ:=λv _=>v=.string (dC l s).2) (λG E I=>?_) ?_
  .exact C317 p lv ov l s G _ E (λw' hc=>U w' (I w' hc).aG) J M
  rintro _ _ rfl u;refine aA iE (aT u.p1 gv (dL rfl) (rfl) λ_ u=>have u:=u.enc (cs':=j0 (⟨B,(dC l s).2,(kp #[]),bX,bX,0,0,0,a⟩:bE)) rfl;bF yD u.p1 (H':=λ_=>bY p (eo lv ov (dU l (dC l s).1 (kp #[61])))) (Φ:=λ_ _=>True) (λG E I=>?_) ?_)
  .exact(C257 p lv ov l (dC l s).1 (kp #[61]) G _ E (λw' hc=>U w' (I w' hc).aG) J (gK M)).mono λ_ _ r=>r.mono λ_ _ h=>⟨trivial,h.2⟩
  rintro _ _ _ u;refine bF KG u (H':=λv=>pH λsv:SV=>fact (v=ia sv) (sep (bY p (eo lv ov Y)) (eG λw=>DL w (ia sv) e))) (Φ:=λ_ _=>True) (λG E I=>?_) ?_
  .exact(C318 p lv ov l (dU l (dC l s).1 (kp #[61])) Y e G _ E (λw' hc=>U w' (I w' hc).aG) J (fG (gK M)) O).mono λ_ _ r=>r.mono λ_ _ h=>⟨trivial,h⟩
  rintro v_x20 _ _ W;obtain⟨Qm,V⟩:=W.eh
  clear W
  obtain⟨aj6,Z⟩:=V.mw
  clear V
  subst aj6;have u:=Z.split;refine aA iV (aT u.p2 ju (dL rfl) (rfl) λ_ u=>?_);have u:=u.enc (cs':=j0 (⟨B,(dC l s).2,(kp #[]),Qm,bX,0,0,0,a⟩:bE)) rfl;intro vQ;exact aD eL u.At (aJ (x:=(⟨B,(dC l s).2,(kp #[]),Qm,bX,0,0,0,a⟩:bE)) u.p3 eL rfl rfl λ_ u=>aD eL u.At (have u:=u.p3.dM (Ψ:=(λw=>mG w (⟨B,(dC l s).2,(kp #[]),Qm,bX,0,0,0,a⟩:bE) (⟨B,(dC l s).2,(kp #[]),e,[],0,0,0,a⟩:bQ))) (λ_ h=>⟨_,_,rfl,id h,DL.nil _⟩);have u:=u.p1.drop.p1.drop.p1;(xE u).mut))
 .obtain⟨rfl,rfl⟩:=S0 hp m6;refine bF D5 u.p2 (H':=λ_=>bY p (eo lv ov (dC l s).1)) (Φ:=λv _=>v=.string (dC l s).2) (λG E I=>?_) ?_
  .exact C317 p lv ov l s G _ E (λw' hc=>U w' (I w' hc).aG) J M
  rintro _ _ rfl u;refine aA iE (aT u.p1 gv (dL rfl) (rfl) λ_ u=>have u:=u.enc (cs':=j0 (⟨B,(dC l s).2,(kp #[]),bX,bX,0,0,0,a⟩:bE)) rfl;bF yD u.p1 (H':=λ_=>bY p (eo lv ov (dU l (dC l s).1 (kp #[61])))) (Φ:=λ_ _=>True) (λG E I=>?_) ?_)
  .exact(C257 p lv ov l (dC l s).1 (kp #[61]) G _ E (λw' hc=>U w' (I w' hc).aG) J (gK M)).mono λ_ _ r=>r.mono λ_ _ h=>⟨trivial,h.2⟩
  rintro _ _ _ u;refine bF D5 u (H':=λ_=>bY p (eo lv ov (dC l (dU l (dC l s).1 (kp #[61]))).1)) (Φ:=λv _=>v=.string (dC l (dU l (dC l s).1 (kp #[61]))).2) (λG E I=>?_) ?_
  .exact C317 p lv ov l (dU l (dC l s).1 (kp #[61])) G _ E (λw' hc=>U w' (I w' hc).aG) J (fG (gK M))
  rintro _ _ rfl u;refine aA fZ (aT u.p1 gv (dL rfl) (rfl) λ_ u=>?_);have u:=u.enc (cs':=j0 (⟨B,(dC l s).2,(dC l (dU l (dC l s).1 (kp #[61]))).2,bX,bX,0,0,0,a⟩:bE)) rfl;intro vQ;exact aD eL u.At (aJ (x:=(⟨B,(dC l s).2,(dC l (dU l (dC l s).1 (kp #[61]))).2,bX,bX,0,0,0,a⟩:bE)) u.p2 eL rfl rfl λ_ u=>aD eL u.At (have u:=u.fy (Φ:=(λw=>mG w (⟨B,(dC l s).2,(dC l (dU l (dC l s).1 (kp #[61]))).2,bX,bX,0,0,0,a⟩:bE) (⟨B,(dC l s).2,(dC l (dU l (dC l s).1 (kp #[61]))).2,[],[],0,0,0,a⟩:bQ))) (λ_=>⟨_,_,rfl,DL.nil _,DL.nil _⟩);have u:=u.p1.drop.p1.drop.p1;(xE u).mut))
 .obtain⟨q,e,O,rfl,rfl⟩:=S1 hp yR;refine bF D5 u.p2 (H':=λ_=>bY p (eo lv ov (dC l s).1)) (Φ:=λv _=>v=.string (dC l s).2) (λG E I=>?_) ?_
  .exact C317 p lv ov l s G _ E (λw' hc=>U w' (I w' hc).aG) J M
  rintro _ _ rfl u;refine aA fZ (aT u.p1 gv (dL rfl) (rfl) λ_ u=>have u:=u.enc (cs':=j0 (⟨B,(kp #[]),(dC l s).2,bX,bX,0,0,0,a⟩:bE)) rfl;bF yD u.p1 (H':=λ_=>bY p (eo lv ov (dU l (dC l s).1 (kp #[61])))) (Φ:=λ_ _=>True) (λG E I=>?_) ?_)
  .exact(C257 p lv ov l (dC l s).1 (kp #[61]) G _ E (λw' hc=>U w' (I w' hc).aG) J (gK M)).mono λ_ _ r=>r.mono λ_ _ h=>⟨trivial,h.2⟩
  rintro _ _ _ u;refine bF KG u (H':=λv=>pH λsv:SV=>fact (v=ia sv) (sep (bY p (eo lv ov Y)) (eG λw=>DL w (ia sv) e))) (Φ:=λ_ _=>True) (λG E I=>?_) ?_
  .exact(C318 p lv ov l (dU l (dC l s).1 (kp #[61])) Y e G _ E (λw' hc=>U w' (I w' hc).aG) J (fG (gK M)) O).mono λ_ _ r=>r.mono λ_ _ h=>⟨trivial,h⟩
  rintro v_x40 _ _ W;obtain⟨Qn,V⟩:=W.eh
  clear W
  obtain⟨aj7,Z⟩:=V.mw
  clear V
  subst aj7;have u:=Z.split;refine aA iV (aT u.p2 ju (dL rfl) (rfl) λ_ u=>?_);have u:=u.enc (cs':=j0 (⟨B,(kp #[]),(dC l s).2,Qn,bX,0,0,0,a⟩:bE)) rfl;intro vQ;exact aD eL u.At (aJ (x:=(⟨B,(kp #[]),(dC l s).2,Qn,bX,0,0,0,a⟩:bE)) u.p3 eL rfl rfl λ_ u=>aD eL u.At (have u:=u.p3.dM (Ψ:=(λw=>mG w (⟨B,(kp #[]),(dC l s).2,Qn,bX,0,0,0,a⟩:bE) (⟨B,(kp #[]),(dC l s).2,e,[],0,0,0,a⟩:bQ))) (λ_ h=>⟨_,_,rfl,id h,DL.nil _⟩);have u:=u.p1.drop.p1.drop.p1;(xE u).mut))
 .obtain⟨q,e,q2,f,O,hfx,rfl,rfl⟩:=S2 hp vO;refine bF D5 u.p2 (H':=λ_=>bY p (eo lv ov (dC l s).1)) (Φ:=λv _=>v=.string (dC l s).2) (λG E I=>?_) ?_
  .exact C317 p lv ov l s G _ E (λw' hc=>U w' (I w' hc).aG) J M
  rintro _ _ rfl u;refine aA iE (aT u.p1 gv (dL rfl) (rfl) λ_ u=>have u:=u.enc (cs':=j0 (⟨B,(dC l s).2,(kp #[]),bX,bX,0,0,0,a⟩:bE)) rfl;bF yD u.p1 (H':=λ_=>bY p (eo lv ov (dU l (dC l s).1 (kp #[61])))) (Φ:=λ_ _=>True) (λG E I=>?_) ?_)
  .exact(C257 p lv ov l (dC l s).1 (kp #[61]) G _ E (λw' hc=>U w' (I w' hc).aG) J (gK M)).mono λ_ _ r=>r.mono λ_ _ h=>⟨trivial,h.2⟩
  rintro _ _ _ u;refine bF D5 u (H':=λ_=>bY p (eo lv ov (dC l (dU l (dC l s).1 (kp #[61]))).1)) (Φ:=λv _=>v=.string (dC l (dU l (dC l s).1 (kp #[61]))).2) (λG E I=>?_) ?_
  .exact C317 p lv ov l (dU l (dC l s).1 (kp #[61])) G _ E (λw' hc=>U w' (I w' hc).aG) J (fG (gK M))
  rintro _ _ rfl u;refine aA fZ (aT u.p1 gv (dL rfl) (rfl) λ_ u=>have u:=u.enc (cs':=j0 (⟨B,(dC l s).2,(dC l (dU l (dC l s).1 (kp #[61]))).2,bX,bX,0,0,0,a⟩:bE)) rfl;bF yD u.p1 (H':=λ_=>bY p (eo lv ov (dU l (dC l (dU l (dC l s).1 (kp #[61]))).1 (kp #[44])))) (Φ:=λ_ _=>True) (λG E I=>?_) ?_)
  .exact(C257 p lv ov l (dC l (dU l (dC l s).1 (kp #[61]))).1 (kp #[44]) G _ E (λw' hc=>U w' (I w' hc).aG) J (gK (fG (gK M)))).mono λ_ _ r=>r.mono λ_ _ h=>⟨trivial,h.2⟩
  rintro _ _ _ u;refine bF KG u (H':=λv=>pH λsv:SV=>fact (v=ia sv) (sep (bY p (eo lv ov q)) (eG λw=>DL w (ia sv) e))) (Φ:=λ_ _=>True) (λG E I=>?_) ?_
  .exact(C318 p lv ov l (dU l (dC l (dU l (dC l s).1 (kp #[61]))).1 (kp #[44])) q e G _ E (λw' hc=>U w' (I w' hc).aG) J (fG (gK (fG (gK M)))) O).mono λ_ _ r=>r.mono λ_ _ h=>⟨trivial,h⟩
  rintro v_x55 _ _ W;obtain⟨Fs,V⟩:=W.eh
  clear W
  obtain⟨aj8,Z⟩:=V.mw
  clear V
  subst aj8;have u:=Z.split;refine aA iV (aT u.p2 ju (dL rfl) (rfl) λ_ u=>have u:=u.enc (cs':=j0 (⟨B,(dC l s).2,(dC l (dU l (dC l s).1 (kp #[61]))).2,Fs,bX,0,0,0,a⟩:bE)) rfl;bF yD u.p1 (H':=λ_=>bY p (eo lv ov (dU l q (kp #[44])))) (Φ:=λ_ _=>True) (λG E I=>?_) ?_)
  .exact(C257 p lv ov l q (kp #[44]) G _ E (λw' hc=>U w' (I w' hc).aG) J (sR (fG (gK (fG (gK M)))) O)).mono λ_ _ r=>r.mono λ_ _ h=>⟨trivial,h.2⟩
  rintro _ _ _ u;refine bF KG u (H':=λv=>pH λsv:SV=>fact (v=ia sv) (sep (bY p (eo lv ov Y)) (eG λw=>DL w (ia sv) f))) (Φ:=λ_ _=>True) (λG E I=>?_) ?_
  .exact(C318 p lv ov l (dU l q (kp #[44])) Y f G _ E (λw' hc=>U w' (I w' hc).aG) J (fG (sR (fG (gK (fG (gK M)))) O)) hfx).mono λ_ _ r=>r.mono λ_ _ h=>⟨trivial,h⟩
  rintro v_x60 _ _ W;obtain⟨B5,V⟩:=W.eh
  clear W
  obtain⟨aj9,Z⟩:=V.mw
  clear V
  subst aj9;have u:=Z.split;refine aA j8 (aT u.p2 ju (dL rfl) (rfl) λ_ u=>?_);have u:=u.enc (cs':=j0 (⟨B,(dC l s).2,(dC l (dU l (dC l s).1 (kp #[61]))).2,Fs,B5,0,0,0,a⟩:bE)) rfl;intro vQ;exact aD eL u.At (aJ (x:=(⟨B,(dC l s).2,(dC l (dU l (dC l s).1 (kp #[61]))).2,Fs,B5,0,0,0,a⟩:bE)) u.p4 eL rfl rfl λ_ u=>aD eL u.At (have u:=u.p4.p4.p1.gZ.dM (Ψ:=(λw=>mG w (⟨B,(dC l s).2,(dC l (dU l (dC l s).1 (kp #[61]))).2,Fs,B5,0,0,0,a⟩:bE) (⟨B,(dC l s).2,(dC l (dU l (dC l s).1 (kp #[61]))).2,e,f,0,0,0,a⟩:bQ))) (λ_ h=>⟨_,_,rfl,id h.1,id h.2⟩);have u:=u.p1.drop.p1.drop.p1;(xE u).mut))
 rintro _ _ ⟨rfl,hw⟩ _;subst hw;refine aC (λRS=>?_) (λRS=>⟨λjv w'=>jv=.bool (decide (B=11\/B=14))/\w3=w',aH (aC (λ_=>⟨vb dD,rfl⟩) λ_=>aH ⟨vb dD,rfl⟩),?_⟩)
 .obtain⟨rfl,rfl⟩:=S3 hp RS;refine bF D5 u.p2 (H':=λ_=>bY p (eo lv ov (dC l s).1)) (Φ:=λv _=>v=.string (dC l s).2) (λG E I=>?_) ?_
  .exact C317 p lv ov l s G _ E (λw' hc=>U w' (I w' hc).aG) J M
  rintro _ _ rfl u;refine aA fZ (aT u.p1 gv (dL rfl) (rfl) λ_ u=>?_);have u:=u.enc (cs':=j0 (⟨B,(kp #[]),(dC l s).2,bX,bX,0,0,0,a⟩:bE)) rfl;intro vQ;exact aD eL u.At (aJ (x:=(⟨B,(kp #[]),(dC l s).2,bX,bX,0,0,0,a⟩:bE)) u.p2 eL rfl rfl λ_ u=>aD eL u.At (have u:=u.fy (Φ:=(λw=>mG w (⟨B,(kp #[]),(dC l s).2,bX,bX,0,0,0,a⟩:bE) (⟨B,(kp #[]),(dC l s).2,[],[],0,0,0,a⟩:bQ))) (λ_=>⟨_,_,rfl,DL.nil _,DL.nil _⟩);have u:=u.p1.drop.p1.drop.p1;(xE u).mut))
 rintro _ _ ⟨rfl,hw⟩ _;subst hw;refine aC (λEK=>?_) (λEK=>aH (aC (λZz=>?_) λZz=>?_))
 .obtain⟨q,e,O,rfl,rfl⟩:=Ni hp EK;refine bF KG u.p2 (H':=λv=>pH λsv:SV=>fact (v=ia sv) (sep (bY p (eo lv ov Y)) (eG λw=>DL w (ia sv) e))) (Φ:=λ_ _=>True) (λG E I=>?_) ?_
  .exact(C318 p lv ov l s Y e G _ E (λw' hc=>U w' (I w' hc).aG) J M O).mono λ_ _ r=>r.mono λ_ _ h=>⟨trivial,h⟩
  rintro v_x74 _ _ W;obtain⟨Qo,V⟩:=W.eh
  clear W
  obtain⟨aka,Z⟩:=V.mw
  clear V
  subst aka;have u:=Z.split;refine aA iV (aT u.p2 ju (dL rfl) (rfl) λ_ u=>?_);have u:=u.enc (cs':=j0 (⟨B,(kp #[]),(kp #[]),Qo,bX,0,0,0,a⟩:bE)) rfl;intro vQ;exact aD eL u.At (aJ (x:=(⟨B,(kp #[]),(kp #[]),Qo,bX,0,0,0,a⟩:bE)) u.p3 eL rfl rfl λ_ u=>aD eL u.At (have u:=u.p3.dM (Ψ:=(λw=>mG w (⟨B,(kp #[]),(kp #[]),Qo,bX,0,0,0,a⟩:bE) (⟨B,(kp #[]),(kp #[]),e,[],0,0,0,a⟩:bQ))) (λ_ h=>⟨_,_,rfl,id h,DL.nil _⟩);have u:=u.p1.drop.p1.drop.p1;(xE u).mut))
 .obtain⟨rfl,rfl⟩:=Nj hp Zz;refine bF ani u.p2 (H':=λ_=>bY p (eo lv ov (kZ l s).1)) (Φ:=λv _=>v=hZ (kZ l s).2) (λG E I=>?_) ?_
  .exact C319 p lv ov l s G _ E (λw' hc=>U w' (I w' hc).aG) J M
  rintro _ _ rfl u;refine aA jO (aT u.p1 bL (dL rfl) (rfl) λ_ u=>?_);have u:=u.enc (cs':=j0 (⟨B,(kp #[]),(kp #[]),bX,bX,(kZ l s).2,0,0,a⟩:bE)) rfl;intro vQ;exact aD eL u.At (aJ (x:=(⟨B,(kp #[]),(kp #[]),bX,bX,(kZ l s).2,0,0,a⟩:bE)) u.p2 eL rfl rfl λ_ u=>aD eL u.At (have u:=u.fy (Φ:=(λw=>mG w (⟨B,(kp #[]),(kp #[]),bX,bX,(kZ l s).2,0,0,a⟩:bE) (⟨B,(kp #[]),(kp #[]),[],[],(kZ l s).2,0,0,a⟩:bQ))) (λ_=>⟨_,_,rfl,DL.nil _,DL.nil _⟩);have u:=u.p1.drop.p1.drop.p1;(xE u).mut))
 obtain⟨rfl,rfl⟩:=Nk hp wV m6 yR vO RS EK Zz;intro vQ;exact aD eL u.At (aJ (x:=(⟨B,(kp #[]),(kp #[]),bX,bX,0,0,0,a⟩:bE)) u.p1 eL rfl rfl λ_ u=>aD eL u.At (have u:=u.fy (Φ:=(λw=>mG w (⟨B,(kp #[]),(kp #[]),bX,bX,0,0,0,a⟩:bE) (⟨B,(kp #[]),(kp #[]),[],[],0,0,0,a⟩:bQ))) (λ_=>⟨_,_,rfl,DL.nil _,DL.nil _⟩);have u:=u.p1.drop.p1.drop.p1;(xE u).mut))
def iJ(l:List bT)(a:Int):Nat->Int
 | 0=>1
 | n+1=>if tK l a (HL ((n:Int)+2))=true then(n:Int)+2 else iJ l a n
theorem S4{l:List bT}{a:Int}:∀n:Nat,1<=iJ l a n/\iJ l a n<=(n:Int)+1
 | 0=>by unfold iJ;omega
 | n+1=>by
  have:=S4 (l:=l) (a:=a) n
  unfold iJ
  omega
theorem Nl{l:List bT}{a:Int}:∀n:Nat,iJ l a n=1\/∃t,tK l a t=true
 | 0=>.inl rfl
 | n+1=>by
  unfold iJ
  split
  .grind
  .exact Nl n
def HM{l:List bT}{a:Int}{n:Nat}(h:tK l a (HL ((n:Int)+2))=true):iJ l a (n+1)=(n:Int)+2:=ew h
def HN{l:List bT}{a:Int}{n:Nat}(h:¬ tK l a (HL ((n:Int)+2))=true):iJ l a (n+1)=iJ l a n:=ej h
def s1S(l:List bT)(s:fP):fP:=if iJ l s.at_ 13≠1 then {s with at_:=s.at_+1}else s
def JL{l:List bT}{s:fP}(h:lG l s):lG l (s1S l s):=by
 unfold s1S
 split
 .rename_i h1
  rcases Nl (l:=l) (a:=s.at_) 13 with h2|⟨t,h2⟩
  .omega
  have:=sQ h2
  exact⟨dD,dD⟩
 exact h
abbrev agV:ByteArray:=⟨#[101,108,115,101]⟩
def kG(l:List bT)(u:Int)(s:fP):Bool:=decide (u=11)&&decide (s.e=0)&&tK l s.at_ agV
def UB(s:fP):fP:={s with at_:=s.at_+1}
abbrev aef:=fP->Int->Int->Option (fP×List bQ)
def C9(l:List bT)(bY:aef)(s:fP)(d lp:Int):Option (fP×List bQ):=
 if iJ l s.at_ 13=13/\lp=0 then some (jz l s 5,[])
 else(ld l (s1S l s) (iJ l s.at_ 13) (nj l s.at_)).bind λr=>
  if iJ l s.at_ 13≠11/\iJ l s.at_ 13≠12 then some (dU l r.1 ⟨#[59]⟩,[r.2])
  else(bY r.1 (d+1) (if iJ l s.at_ 13=12 then lp+1 else lp)).bind λq=>
   if kG l (iJ l s.at_ 13) q.1=true then(bY (UB q.1) (d+1) lp).bind λt=>some (t.1,{r.2 with body:=(q.2.length:Int),eu:=(t.2.length:Int)}::(q.2++t.2))
   else some (q.1,{r.2 with body:=(q.2.length:Int)}::q.2)
section
variable {l:List bT}{bY:aef}{s s':fP}{d lp:Int}{add:List bQ}
theorem S5(h:C9 l bY s d lp=some (s',add))(hb:iJ l s.at_ 13=13/\lp=0):s'=jz l s 5/\add=[]:=by
 unfold C9 at h;grind
theorem ZA(h:C9 l bY s d lp=some (s',add))(hb:¬ (iJ l s.at_ 13=13/\lp=0)):∃u x,ld l (s1S l s) (iJ l s.at_ 13) (nj l s.at_)=some (u,x)/\
  (if iJ l s.at_ 13≠11/\iJ l s.at_ 13≠12 then some (dU l u ⟨#[59]⟩,[x])
  else(bY u (d+1) (if iJ l s.at_ 13=12 then lp+1 else lp)).bind λq=>
   if kG l (iJ l s.at_ 13) q.1=true then(bY (UB q.1) (d+1) lp).bind λt=>some (t.1,{x with body:=(q.2.length:Int),eu:=(t.2.length:Int)}::(q.2++t.2))
   else some (q.1,{x with body:=(q.2.length:Int)}::q.2))=some (s',add):=by
 unfold C9 at h;rw[ej hb]at h
 obtain⟨p,q,h1,h2⟩:=eP h
 grind
theorem S6{u:Int}{I:fP}{x:bQ}(h:(if u≠11/\u≠12 then some (dU l I ⟨#[59]⟩,[x])
  else(bY I (d+1) (if u=12 then lp+1 else lp)).bind λq=>
   if kG l u q.1=true then(bY (UB q.1) (d+1) lp).bind λt=>some (t.1,{x with body:=(q.2.length:Int),eu:=(t.2.length:Int)}::(q.2++t.2))
   else some (q.1,{x with body:=(q.2.length:Int)}::q.2))=some (s',add)) (M:¬ (u≠11/\u≠12)) :
  ∃B E,bY I (d+1) (if u=12 then lp+1 else lp)=some (B,E)/\
   ((kG l u B=true/\∃J G,bY (UB B) (d+1) lp=some (J,G)/\s'=J/\add={x with body:=(E.length:Int),eu:=(G.length:Int)}::(E++G))\/
    (kG l u B=false/\s'=B/\add={x with body:=(E.length:Int)}::E)):=by
 rw[ej M]at h
 obtain⟨B,E,h1,h2⟩:=eP h
 refine⟨B,E,h1,?_⟩
 dsimp only at h2
 cases he:kG l u B with
 | true=>
  rw[he,ew rfl]at h2
  obtain⟨J,G,h3,h4⟩:=eP h2
  grind
 | false=>
  grind
theorem HO{u:Int}{B:fP}{x:bQ}(h:(if u≠11/\u≠12 then some (dU l B ⟨#[59]⟩,[x])
  else(bY B (d+1) (if u=12 then lp+1 else lp)).bind λq=>
   if kG l u q.1=true then(bY (UB q.1) (d+1) lp).bind λt=>some (t.1,{x with body:=(q.2.length:Int),eu:=(t.2.length:Int)}::(q.2++t.2))
   else some (q.1,{x with body:=(q.2.length:Int)}::q.2))=some (s',add)) (E:u≠11/\u≠12):s'=dU l B ⟨#[59]⟩/\add=[x]:=by
 grind
end
abbrev CL:ByteArray:=⟨#[123]⟩
abbrev oE:ByteArray:=⟨#[125]⟩
def tN(l:List bT)(one:fP->Option (fP×List bQ)):Nat->fP->Option (fP×List bQ)
 | 0,_=>none
 | m+1,s=>if (decide (s.e=0)&&!tK l s.at_ oE)=true then(one s).bind λr=>(tN l one m r.1).bind λq=>some (q.1,r.2++q.2)else some (s,[])
def Vw(l:List bT)(s:fP)(d:Int):fP:=if (decide (12<d)&&tK l s.at_ CL)=true then jz l s 7 else s
def Qp{l:List bT}{s:fP}{d:Int}(h:lG l s):lG l (Vw l s d):=by unfold Vw;split;exact tM h;exact h
def Vx(l:List bT):Nat->aef
 | 0=>λ_ _ _=>none
 | k+1=>λs d lp=>(tN l (λs=>C9 l (Vx l k) s d lp) 10000 (dU l (Vw l s d) CL)).bind λr=>some (dU l r.1 oE,r.2)
section
variable {l:List bT}{one:fP->Option (fP×List bQ)}{s s':fP}{d lp:Int}{add:List bQ}{m:Nat}
theorem HQ(h:tN l one m s=some (s',add)):∃k,m=k+1:=by
 cases m with
 | zero=>cases h
 | succ k=>grind
theorem FG(h:tN l one (m+1) s=some (s',add))(hb:(decide (s.e=0)&&!tK l s.at_ oE)=false):s'=s/\add=[]:=by
 unfold tN at h;grind
theorem JM(h:tN l one (m+1) s=some (s',add))(hb:(decide (s.e=0)&&!tK l s.at_ oE)=true):∃B E u,one s=some (B,E)/\tN l one m B=some (s',u)/\add=E++u:=by
 unfold tN at h;rw[hb,ew rfl]at h
 obtain⟨B,E,h1,h2⟩:=eP h
 obtain⟨G,u,h3,h4⟩:=eP h2
 grind
theorem ZB{k:Nat}(h:Vx l (k+1) s d lp=some (s',add)):∃u,tN l (λs=>C9 l (Vx l k) s d lp) 10000 (dU l (Vw l s d) CL)=some (u,add)/\s'=dU l u oE:=by
 unfold Vx at h
 obtain⟨u,B,h1,h2⟩:=eP h
 grind
end
def Qq{l:List bT}{bY:aef}{s s':fP}{d lp:Int}{add:List bQ}(hb:∀s d lp s' a,lG l s->bY s d lp=some (s',a)->lG l s')(E:lG l s)(h:C9 l bY s d lp=some (s',add)):lG l s':=by
 by_cases h1:iJ l s.at_ 13=13/\lp=0
 .rw[(S5 h h1).1];exact tM E
 obtain⟨M,x,h2,h3⟩:=ZA h h1
 have u:=Cj (JL E) h2
 by_cases h4:iJ l s.at_ 13≠11/\iJ l s.at_ 13≠12
 .rw[(HO h3 h4).1];exact fG u
 obtain⟨W,V,h5,h6⟩:=S6 h3 h4
 have J:=hb _ _ _ _ _ u h5
 rcases h6 with⟨B,O,U,I,G,_⟩|⟨_,G,_⟩
 .rw[G]
  refine hb _ _ _ _ _ ?_ I
  unfold kG at B
  rw[n5]at B
  have:=sQ B.2
  grind[lG,UB]
 grind
theorem S7{l:List bT}{one:fP->Option (fP×List bQ)}(u:∀s s' a,lG l s->one s=some (s',a)->lG l s'):∀{m:Nat}{s s':fP}{add:List bQ},lG l s->tN l one m s=some (s',add)->lG l s'
 | 0,_,_,_,_,h=>by cases h
 | m+1,s,s',add,B,h=>by
  cases hb:(decide (s.e=0)&&!tK l s.at_ oE)with
  | false=>rw[(FG h hb).1];exact B
  | true=>
   obtain⟨G,I,E,h1,h2,_⟩:=JM h hb
   exact S7 u (u _ _ _ B h1) h2
theorem Qr{l:List bT}:∀{k:Nat}{s s':fP}{d lp:Int}{add:List bQ},lG l s->Vx l k s d lp=some (s',add)->lG l s'
 | 0,_,_,_,_,_,_,h=>by cases h
 | k+1,s,s',d,lp,add,u,h=>by
  obtain⟨B,h1,h2⟩:=ZB h
  rw[h2]
  exact fG (S7 (λ_ _ _ a b=>Qq (λ_ _ _ _ _ c e=>Qr c e) a b) (fG (Qp u)) h1)
def pT(p:Nat)(lv:Value)(s:fP)(out:List bQ)(Q:hM):HP:=pH λov:Value=>pH λts:List bE=>sep (bY p (eo lv ov s)) (sep (bH ov ts) (eG λw=>gM ts out w/\Q w))
section
variable {w0 w:World}{A:Nat->Prop}{L:List HP}{p:Nat}{lv:Value}{s:fP}{out:List bQ}{Q:hM}
theorem pT.open(u:St w0 A (pT p lv s out Q::L) w):∃(ov:Value) (ts:List bE),St w0 A (bY p (eo lv ov s)::bH ov ts::eG (λw=>gM ts out w/\Q w)::L) w:=by
 obtain⟨ov,h1⟩:=u.eh
 obtain⟨ts,h2⟩:=h1.eh
 exact⟨ov,ts,h2.split.p1.split.p2⟩
theorem pT.shut{ov:Value}{ts:List bE}(u:St w0 A (bY p (eo lv ov s)::bH ov ts::eG (λw=>gM ts out w/\Q w)::L) w):St w0 A (pT p lv s out Q::L) w:=
 St.ek (H:=λov:Value=>pH λts:List bE=>sep (bY p (eo lv ov s)) (sep (bH ov ts) (eG λw=>gM ts out w/\Q w))) ov (St.ek (H:=λts:List bE=>sep (bY p (eo lv ov s)) (sep (bH ov ts) (eG λw=>gM ts out w/\Q w))) ts (St.join u.p2.p2.join.p1))
end
def akb(l:List bT)(k:Nat):Prop:=∀(p:Nat) (lv:Value) (s:fP) (d lp:Int) (out:List bQ) (u:fP) (add:List bQ) (Q:hM) (F:Nat->Prop) (w:World),
 (pT p lv s out Q).p w F->(∀w',gu F w w'->dA (λ_=>True) w' lv l)->lG l s->0<=d/\d+k<=1001->0<=lp/\lp+k<=1001->out.length+add.length<=1000000->Vx l k s d lp=some (u,add)->
 Calls hH 293 [.pointer (some ⟨p,0,none⟩),hZ d,hZ lp].toArray w (tP λv w'=>v=hZ (add.length:Int)/\mP F (pT p lv u (out++add) Q) w w')
def aeg{w:World}{u:bE}{x:bQ}(h:mG w u x):DL w (ia u.e) x.e:=by obtain⟨_,_,rfl,h,_⟩:=h;exact h
def aeh{w:World}{u:bE}{x:bQ}(h:mG w u x):DL w (ia u.f) x.f:=by obtain⟨_,_,rfl,_,h⟩:=h;exact h
def Qs{l:List bT}{u:Int}{s:fP}(h:kG l u s=true):lG l (UB s):=by
 unfold kG at h
 rw[n5]at h
 have:=sQ h.2
 grind[lG,UB]
def aei{α σ:Type}[Flat σ][Deep α σ]{w:World}{ts:List σ}{xs:List α}{i:Nat}{t:σ}{x:α}(h:gM ts xs w)(ht:mG w t x):gM (ts.set i t) (xs.set i x) w:=by
 grind[gM]
theorem ZC{α:Type}{a b:List α}{x y:α}:(a++x::b).set a.length y=a++y::b:=by
 grind
def C256(p:Nat)(lv:Value)(l:List bT)(s:fP)(k:Nat)(d lp:Int)(out:List bQ)(s2:fP)(add:List bQ)(Q:hM)(F:Nat->Prop)(w:World)(hF:(pT p lv s out Q).p w F)(W:∀w',gu F w w'->dA (λ_=>True) w' lv l)(hk:jk l)(h0:lG l s)(HB:akb l k)(hd:0<=d/\d+k<=1000)(hlp:0<=lp/\lp+k<=1000)(Gl:out.length+add.length<=1000000)(hr:C9 l (Vx l k) s d lp=some (s2,add)):CR 256 [(.pointer (some ⟨p,0,none⟩)),hZ d,hZ lp] w (λv w'=>v=.tuple #[]/\mP F (pT p lv s2 (out++add) Q) w w'):=by
 have u:=St.begin hF;obtain⟨ov,ts,u⟩:=pT.open u;have N3:ts.length=out.length:=u.p2.eG.1.1;have Dx:=hk.n;have hn:l.length<=1000000:=cK
 have sy:=hk.at_;obtain⟨SX,SY⟩:=id h0;refine abU _ _ _ _ _ ?_;unfold S256;refine aE (aA iG (have u:=u.drew;aB jn u.hb rfl (aE (aA eZ (aB bL u.hb rfl (aV GK u (C214 _ l s.at_ _ (W _ u.aG) hn sy) λ_ he u=>?_))))));have u:=u.p2.p2.p2;refine⟨λmm a b w'=>∃j:Nat,a=hZ (iJ l s.at_ j)/\b=hZ ((j:Int)+2)/\mm=13-j/\j<=13/\St w F [bY p (eo lv ov s),bH ov ts,eG λw=>gM ts out w/\Q w] w',⟨_,0,rfl,rfl,rfl,l1 _,u⟩,?_⟩;rintro mm _ _ w2 ⟨j,rfl,rfl,rfl,hj,u⟩ _;refine iB (aC (λiM=>?_) λiM=>?_)
 .refine⟨_,?_,λ_ _ h=>h⟩;refine aE (aA iG (have u:=u.drew;aB jn u.hb rfl (aE (aA eZ (aB bL u.hb rfl (aV am6 u (C290 ((j:Int)+2) _ cK) λ_ he u=>?_))))));refine⟨aF jn (u.hb.cell rfl),?_⟩;refine⟨aF bL (u.hb.cell rfl),?_⟩;refine aV vN u (C209 _ l s.at_ (HL ((j:Int)+2)) _ (W _ u.aG) hn) (λ_ he u=>aY (λme=>?_) λme=>?_)
  .intro vP;refine aN cK ?_;exact⟨_,cK,j+1,gN (nf .i64) (by first|exact(HM me).symm|exact(HN (by rw[me];simp)).symm),gN (nf .i64) cK,rfl,cK,u⟩
  .intro vP;refine aN cK ?_;exact⟨_,cK,j+1,gN (nf .i64) (by first|exact(HM me).symm|exact(HN (by rw[me];simp)).symm),gN (nf .i64) cK,rfl,cK,u⟩
 .obtain rfl:j=13:=cK
  have WW:=S4 (l:=l) (a:=s.at_) 13;refine⟨λjv w'=>jv=.bool (decide ((iJ l s.at_ 13)=13/\lp=0))/\w2=w',?_,?_⟩
  .refine aH (aC (λrj=>?_) λrj=>?_)
   .refine aH ?_;exact⟨yB cK,rfl⟩
   .exact⟨jvF cK,rfl⟩
  .rintro _ _ ⟨rfl,hw⟩ _;subst hw;refine aC (λqB=>?_) (λqB=>?_)
   .refine bF GM u (H':=λ_=>bY p (eo lv ov (jz l s 5))) (Φ:=λ_ _=>True) (λU O M=>?_) ?_
    .exact(C291 p lv ov l s 5 U _ O (λw' hc=>W w' (M w' hc).aG) hk h0).mono λ_ _ r=>r.mono λ_ _ h=>⟨trivial,h.2⟩
    rintro _ _ _ u;obtain⟨e1,e2⟩:=S5 hr qB;rw[e1,e2,o6];exact⟨rfl,(pT.shut u).mut⟩
   .refine⟨λw'=>St w F [bY p (eo lv ov (s1S l s)),bH ov ts,eG λw=>gM ts out w/\Q w] w',?_,?_⟩
    .refine bW (aC (λwT=>?_) λwT=>?_)
     .refine aE (aA eZ (aB bL u.hb rfl (aN cK (aE (aA eZ (aT u bL (dL rfl) (rfl) λ_ u=>?_))))));have u:=u.p2.p2.p2;have Uc:(s1S l s)={s with at_:=s.at_+1}:=by unfold s1S;rw[ew cK]
      rw[Uc];exact u
     .have u:=u.p2.p2.p2;have Uc:(s1S l s)=s:=by unfold s1S;rw[ej cK]
      rw[Uc];exact u
    .intro _ u _;obtain⟨q,x,oG,Dh⟩:=ZA hr qB;refine bF am7 u (H':=λv=>pH λsh:bE=>fact (v=ia sh) (sep (bY p (eo lv ov q)) (eG λw=>mG w sh x))) (Φ:=λ_ _=>True) (λU O M=>?_) ?_
     .exact(C292 p lv ov l (s1S l s) (iJ l s.at_ 13) (nj l s.at_) q x U _ O (λw' hc=>W w' (M w' hc).aG) hk (JL h0) oG).mono λ_ _ r=>r.mono λ_ _ h=>⟨trivial,h⟩
     rintro v_x58 _ _ xp;obtain⟨ax0,yW⟩:=xp.eh
     clear xp
     obtain⟨akc,DH⟩:=yW.mw
     clear yW
     subst akc;have u:=DH.split
     clear DH
     obtain⟨E,B,akd,hde,hdf⟩:=u.p1.eG;subst akd;refine aM u jw (λBP _ u=>have u:=u.enc (cs':=j0 (⟨0,(kp #[]),(kp #[]),bX,bX,0,0,0,0⟩:bE)) rfl;aJ (x:=(⟨x.kind,x.eD,x.name,E,B,x.n,x.body,x.eu,x.at_⟩:bE)) u eL rfl rfl λ_ u=>aE (aA qp (aB jN u.p1.hb rfl (aK fq u.p3.dX (aE (aA qp (have u:=u.drew;aB jN u.p1.hb rfl (aD eL u.At (aZ ([(⟨x.kind,x.eD,x.name,E,B,x.n,x.body,x.eu,x.at_⟩:bE)]) u fq rfl rfl (dL rfl) λagG _ u=>?_)))))))))
     refine⟨aF jN (u.p2.hb.cell rfl),?_⟩;have ake:=u.dX;refine bJ u.p4 fq ake (by simp;omega) ee (λS8 _ u=>have u:=u.p1.drop;aE (aA qp (aT u.p2 jN (dL rfl) u.dX.one λ_ u=>?_)));refine⟨λjv w'=>jv=.bool (decide ((iJ l s.at_ 13)≠11/\(iJ l s.at_ 13)≠12))/\St w F [bY p (eo lv S8 q),bH S8 (ts++[(⟨x.kind,x.eD,x.name,E,B,x.n,x.body,x.eu,x.at_⟩:bE)]),eG (λw=>gM (ts++[(⟨x.kind,x.eD,x.name,E,B,x.n,x.body,x.eu,x.at_⟩:bE)]) (out++[x]) w/\(λw=>Q w/\mG w (⟨x.kind,x.eD,x.name,E,B,x.n,x.body,x.eu,x.at_⟩:bE) x) w),bY BP (j0 (⟨x.kind,x.eD,x.name,E,B,x.n,x.body,x.eu,x.at_⟩:bE))] w',?_,?_⟩
     .refine bW (aC (λaq9=>?_) λaq9=>?_)
      .refine bW ?_;have u:=u.p3.p4.gZ.dM (Ψ:=λw=>gM (ts++[(⟨x.kind,x.eD,x.name,E,B,x.n,x.body,x.eu,x.at_⟩:bE)]) (out++[x]) w/\(λw=>Q w/\mG w (⟨x.kind,x.eD,x.name,E,B,x.n,x.body,x.eu,x.at_⟩:bE) x) w) (λ_ h=>⟨h.1.1.snoc h.2,h.1.2,h.2⟩);have u:=u.p3.p1.p3.p3;exact⟨vb dD,u⟩
      .have u:=u.p3.p4.gZ.dM (Ψ:=λw=>gM (ts++[(⟨x.kind,x.eD,x.name,E,B,x.n,x.body,x.eu,x.at_⟩:bE)]) (out++[x]) w/\(λw=>Q w/\mG w (⟨x.kind,x.eD,x.name,E,B,x.n,x.body,x.eu,x.at_⟩:bE) x) w) (λ_ h=>⟨h.1.1.snoc h.2,h.1.2,h.2⟩);have u:=u.p3.p1.p3.p3;exact⟨vb dD,u⟩
     .rintro _ w16 ⟨rfl,u⟩ _;refine aC (λRR=>?_) (λRR=>?_)
      .refine bF yD u (H':=λ_=>bY p (eo lv S8 (dU l q (kp #[59])))) (Φ:=λ_ _=>True) (λU O M=>?_) ?_
       .exact(C257 p lv S8 l q (kp #[59]) U _ O (λw' hc=>W w' (M w' hc).aG) hk (Cj (JL h0) oG)).mono λ_ _ r=>r.mono λ_ _ h=>⟨trivial,h.2⟩
       rintro _ _ _ u;have u:=u.p3.drop.p1.p1.p2.dM (Ψ:=λw=>gM (ts++[(⟨x.kind,x.eD,x.name,E,B,x.n,x.body,x.eu,x.at_⟩:bE)]) (out++[x]) w/\Q w) (λ_ h=>⟨h.1,h.2.1⟩);have u:=u.p2.p2;obtain⟨e1,e2⟩:=HO Dh RR;rw[e1,e2];exact⟨rfl,(pT.shut u).mut⟩
      .refine⟨λjv w'=>jv=hZ (if (iJ l s.at_ 13)=12 then lp+1 else lp)/\w16=w',?_,?_⟩
       .refine aH (aC (λara=>?_) λara=>?_)
        .refine aN cK ?_;exact⟨by rw[ew cK],rfl⟩
        .exact⟨by rw[ej cK],rfl⟩
       .rintro _ _ ⟨rfl,hw⟩ _;subst hw;refine aN cK ?_;have u:=pT.shut u.p2.p2.p2;obtain⟨V,G,Kc,Vj⟩:=S6 Dh RR;have hm1:G.length<add.length:=by rcases Vj with⟨_,s5,m2,_,_,e⟩|⟨_,_,e⟩<;>rw[e]<;>simp<;>omega
        refine bF afD u (H':=λ_=>pT p lv V ((out++[x])++G) λw=>Q w/\mG w (⟨x.kind,x.eD,x.name,E,B,x.n,x.body,x.eu,x.at_⟩:bE) x) (Φ:=λv _=>v=hZ (G.length:Int)) (λU O M=>?_) ?_
        .exact HB p lv q (d+1) (if (iJ l s.at_ 13)=12 then lp+1 else lp) (out++[x]) V G (λw=>Q w/\mG w (⟨x.kind,x.eD,x.name,E,B,x.n,x.body,x.eu,x.at_⟩:bE) x) U _ O (λw' hc=>W w' (M w' hc).aG) (Cj (JL h0) oG) cK (by split<;>omega) (by rw[lY,mf];omega) Kc
        rintro _ _ rfl u;obtain⟨ov3,vr,u⟩:=pT.open u;refine aA iW (aT u.p3 bL (dL rfl) (rfl) λ_ u=>?_);have u:=u.enc (cs':=j0 (⟨x.kind,x.eD,x.name,E,B,x.n,(G.length:Int),x.eu,x.at_⟩:bE)) rfl;refine⟨λw'=>∃(bd el:Int) (rest:List bQ),add={x with body:=bd,eu:=el}::rest/\St w F [pT p lv s2 ((out++[x])++rest) (λw=>Q w/\mG w (⟨x.kind,x.eD,x.name,E,B,x.n,x.body,x.eu,x.at_⟩:bE) x),bY BP (j0 (⟨x.kind,x.eD,x.name,E,B,x.n,bd,el,x.at_⟩:bE))] w',?_,?_⟩
        .refine⟨λjv w'=>jv=.bool (kG l (iJ l s.at_ 13) V)/\St w F [bY p (eo lv ov3 V),bH ov3 vr,eG (λw=>gM vr ((out++[x])++G) w/\(λw=>Q w/\mG w (⟨x.kind,x.eD,x.name,E,B,x.n,x.body,x.eu,x.at_⟩:bE) x) w),bY BP (j0 (⟨x.kind,x.eD,x.name,E,B,x.n,(G.length:Int),x.eu,x.at_⟩:bE))] w',?_,?_⟩
         .refine aH (aC (λHS=>?_) λHS=>?_)
          .refine aE (aA kR (have u:=u.drew;aB jL u.p1.hb rfl (aH (aC (λBU=>?_) λBU=>?_))))
           .refine aE (aA iG (aB jn u.p1.hb rfl (aE (aA eZ (aB bL u.p1.hb rfl (aV vN u (C209 _ l V.at_ (kp #[101,108,115,101]) _ (W _ u.aG) hn) λ_ he u=>?_))))));have u:=u.p3.p3.p3;exact⟨vb (by unfold kG;rw[ez HS,ez BU];rfl),u⟩
           .have u:=u.p3.p3.p3;exact⟨vb (by unfold kG;first|(rw[fN HS];rfl)|(rw[ez HS,fN BU];rfl)),u⟩
          .have u:=u.drew.p3.p3.p3;exact⟨vb (by unfold kG;first|(rw[fN HS];rfl)|(rw[ez HS,fN BU];rfl)),u⟩
         .rintro _ _ ⟨rfl,u⟩ _;refine aY (λI=>?_) (λI=>?_)
          .obtain⟨J,s5,m2,hb2,e5,Z⟩|⟨J,_⟩:=Vj
           rotate_left
           .rw[J]at I;cases I
           subst e5;have hin3:=sQ (show tK l V.at_ agV=true by unfold kG at I;rw[n5]at I;exact I.2);refine aE (aA eZ (aB bL u.hb rfl (aN cK (aE (aA eZ (aT u bL (dL rfl) (rfl) λ_ u=>aN cK ?_))))));have u:=pT.shut (s:=UB V) u.p2.p2.p2;have hkd11:(iJ l s.at_ 13)=11:=by unfold kG at I;simp at I;exact I.1.1
           rw[ej (show ¬ (iJ l s.at_ 13)=12 by omega)];refine bF afD u (H':=λ_=>pT p lv s2 (((out++[x])++G)++m2) λw=>Q w/\mG w (⟨x.kind,x.eD,x.name,E,B,x.n,x.body,x.eu,x.at_⟩:bE) x) (Φ:=λv _=>v=hZ (m2.length:Int)) (λU O M=>?_) ?_
           .exact HB p lv (UB V) (d+1) lp ((out++[x])++G) s2 m2 (λw=>Q w/\mG w (⟨x.kind,x.eD,x.name,E,B,x.n,x.body,x.eu,x.at_⟩:bE) x) U _ O (λw' hc=>W w' (M w' hc).aG) (Qs I) cK cK (by have:=gN List.length Z;simp at this |-;omega) hb2
           rintro _ _ rfl u;rw[n3 (out++[x])]at u;refine aA iF (aT u.p1 bL (dL rfl) (rfl) λ_ u=>?_);have u:=u.enc (cs':=j0 (⟨x.kind,x.eD,x.name,E,B,x.n,(G.length:Int),(m2.length:Int),x.at_⟩:bE)) rfl;have u:=u.p1;exact⟨_,_,_,Z,u⟩
          .obtain⟨J,_⟩|⟨J,e5,Z⟩:=Vj
           .rw[J]at I;cases I
           subst e5;have u:=((pT.shut u.p2.p2.p2).p1).p1;exact⟨(G.length:Int),x.eu,G,Z,u⟩
        .rintro _ ⟨bd,el,rest,Z,u⟩ _;obtain⟨ov5,Y,u⟩:=pT.open u;refine aE (aA qp (have u:=u.drew;aB jN u.hb rfl (aD eL u.p3.At ?_)));have h5l:Y.length=(out++[x]++rest).length:=u.p2.eG.1.1;have h6l:=gN List.length Z;simp only[lY,oj,J7]at h5l h6l;obtain⟨ax1,atf⟩:=gx Y (i:=(ts.length:Int).toNat) cK;refine dR u.p1 fq cK cK (λ_ akf=>js _ u.p1 eL akf cK λ_ u=>?_);have u:=u.p3.drop.p1.p2.dM (Ψ:=λw=>gM (Y.set (ts.length:Int).toNat (⟨x.kind,x.eD,x.name,E,B,x.n,bd,el,x.at_⟩:bE)) (out++add) w/\Q w) (λ_ h=>⟨by
  have hh:=aei (i:=(ts.length:Int).toNat) (t:=(⟨x.kind,x.eD,x.name,E,B,x.n,bd,el,x.at_⟩:bE)) (x:={x with body:=bd,eu:=el}) h.1 ⟨E,B,rfl,aeg (x:=x) h.2.2,aeh (x:=x) h.2.2⟩;rw[show(ts.length:Int).toNat=out.length from cK,n3,List.singleton_append,ZC]at hh
  rw[Z,show(ts.length:Int).toNat=out.length from cK];exact hh,h.2.1⟩)
         have u:=u.p2.p2;exact⟨rfl,(pT.shut u).mut⟩
def C293(p:Nat)(lv:Value)(l:List bT)(s:fP)(k:Nat)(d lp:Int)(out:List bQ)(s2:fP)(add:List bQ)(Q:hM)(F:Nat->Prop)(w:World)(hF:(pT p lv s out Q).p w F)(O:∀w',gu F w w'->dA (λ_=>True) w' lv l)(M:jk l)(W:lG l s)(HB:akb l k)(hd:0<=d/\d+k<=1000)(hlp:0<=lp/\lp+k<=1000)(Gl:out.length+add.length<=1000000)(hr:Vx l (k+1) s d lp=some (s2,add)):CR 293 [(.pointer (some ⟨p,0,none⟩)),hZ d,hZ lp] w (λv w'=>v=hZ (add.length:Int)/\mP F (pT p lv s2 (out++add) Q) w w'):=by
 have u:=St.begin hF;obtain⟨ov,ts,u⟩:=pT.open u;have N3:ts.length=out.length:=u.p2.eG.1.1;obtain⟨s9,YP,e2⟩:=ZB hr;have Dx:=M.n;have hn:l.length<=1000000:=cK
 have sy:=M.at_;obtain⟨SX,SY⟩:=id W;refine oH Tryz.func293 (pl:=auL) ?_;refine aE (aA qp (aB jN u.hb rfl (aK fq u.p1.dX ⟨λw'=>St w F [bY p (eo lv ov (Vw l s d)),bH ov ts,eG λw=>gM ts out w/\Q w] w',⟨λjv w'=>jv=.bool (decide (12<d)&&tK l s.at_ CL)/\St w F [bY p (eo lv ov s),bH ov ts,eG λw=>gM ts out w/\Q w] w',cO (aC (λ_=>aE (aA iG (have u:=u.drew;aB jn u.hb rfl (aE (aA eZ (aB bL u.hb rfl (aV vN u (C209 _ l s.at_ (kp #[123]) _ (O _ u.aG) hn) λ_ _ u=>⟨vb (by first|(rw[ez (show 12<d by omega)];rfl)|(rw[fN (show ¬ 12<d by omega)];rfl)),u⟩))))))) λ_=>have u:=u.drew;⟨vb (by first|(rw[ez (show 12<d by omega)];rfl)|(rw[fN (show ¬ 12<d by omega)];rfl)),u⟩),?_⟩,?_⟩)))
 .rintro _ _ ⟨rfl,u⟩ _;refine aY (λjC=>?_) (λjC=>?_)
  .refine bF GM u (H':=λ_=>bY p (eo lv ov (jz l s 7))) (Φ:=λ_ _=>True) (λG J I=>?_) ?_
   .exact(C291 p lv ov l s 7 G _ J (λw' hc=>O w' (I w' hc).aG) M W).mono λ_ _ r=>r.mono λ_ _ h=>⟨trivial,h.2⟩
   rintro _ _ _ u;have u:=u.p2.p2.p2;have h7:Vw l s d=jz l s 7:=by unfold Vw;rw[ew jC]
   rw[h7];exact u
  have u:=u.p2.p2.p2;have h7:Vw l s d=s:=by unfold Vw;rw[ej (by rw[jC];simp)]
  rw[h7];exact u
 intro _ u _;refine bF yD u (H':=λ_=>bY p (eo lv ov (dU l (Vw l s d) (kp #[123])))) (Φ:=λ_ _=>True) (λG J I=>?_) ?_
 .exact(C257 p lv ov l (Vw l s d) (kp #[123]) G _ J (λw' hc=>O w' (I w' hc).aG) M (Qp W)).mono λ_ _ r=>r.mono λ_ _ h=>⟨trivial,h.2⟩
 rintro _ _ _ u;have u:=pT.shut (s:=dU l (Vw l s d) CL) u.p2.p2.p2;refine⟨λmm w'=>∃(B:fP) (E a2:List bQ),lG l B/\tN l (λs=>C9 l (Vx l k) s d lp) mm B=some (s9,a2)/\add=E++a2/\St w F [pT p lv B (out++E) Q] w',⟨10000,_,[],add,fG (Qp W),YP,rfl,by rw[o6];exact u⟩,?_⟩;rintro mm _ ⟨B,E,a2,Nm,Z,V,u⟩ _;obtain⟨m,rfl⟩:=HQ Z;obtain⟨Y,WR,u⟩:=pT.open u;have aej:WR.length=(out++E).length:=u.p2.eG.1.1;rw[lY]at aej;refine⟨λjv w'=>jv=.bool (decide (B.e=0)&&!tK l B.at_ oE)/\St w F [bY p (eo lv Y B),bH Y WR,eG λw=>gM WR (out++E) w/\Q w] w',aE (aA kR (have u:=u.drew;aB jL u.hb rfl (aH (aC (λU=>aE (aA iG (aB jn u.hb rfl (aE (aA eZ (aB bL u.hb rfl (aV vN u (C209 _ l B.at_ (kp #[125]) _ (O _ u.aG) hn) λ_ _ u=>bR (have u:=u.p2.p2.p2;⟨vb (by first|(rw[ez U];rfl)|(rw[fN U];rfl)),u⟩)))))))) λU=>have u:=u.p2.p2.p2;⟨vb (by first|(rw[ez U];rfl)|(rw[fN U];rfl)),u⟩)))),?_⟩
 rintro _ _ ⟨rfl,u⟩ _;refine aY (λwT=>?_) (λwT=>?_)
 .obtain⟨s3,a1,a3,ho,hb3,rfl⟩:=JM Z wT;have u:=pT.shut u.p2.p2.p2;refine bF afB u (H':=λ_=>pT p lv s3 ((out++E)++a1) Q) (Φ:=λ_ _=>True) (λG J I=>?_) ?_
  .exact(C256 p lv l B k d lp (out++E) s3 a1 Q G _ J (λw' hc=>O w' (I w' hc).aG) M Nm HB cK cK (by have:=gN List.length V;simp at this |-;omega) ho).mono λ_ _ r=>r.mono λ_ _ h=>⟨trivial,h.2⟩
  rintro _ _ _ u;exact⟨_,cK,s3,E++a1,a3,Qq (λ_ _ _ _ _ c e=>Qr c e) Nm ho,hb3,by rw[V,n3],by rw[<- n3];exact u⟩
 obtain⟨e9,rfl⟩:=FG Z wT;replace e9:=e9.symm;subst e9;rw[o6]at V;subst V;refine bF yD u (H':=λ_=>bY p (eo lv Y (dU l B (kp #[125])))) (Φ:=λ_ _=>True) (λG J I=>?_) ?_
 .exact(C257 p lv Y l B (kp #[125]) G _ J (λw' hc=>O w' (I w' hc).aG) M Nm).mono λ_ _ r=>r.mono λ_ _ h=>⟨trivial,h.2⟩
 rintro _ _ _ u;refine aE (aA qp (aB jN u.hb rfl (aK fq u.p1.dX (fg cK ?_))));rw[e2];exact⟨gN (nf .i64) cK,(pT.shut u).mut⟩
theorem arc{l:List bT}(B:jk l):∀k,akb l k
 | 0=>λp lv s d lp out u add Q F w _ _ _ _ _ _ h=>by cases h
 | k+1=>λp lv s d lp out u add Q F w M J E O G I h=>C293 p lv l s k d lp out u add Q F w M J B E (arc B k) cK cK I h
def ug(i:Int):fP:=⟨i,0,0⟩
def FH(l:List bT)(i op:Int):Option (List bQ×Int×Int×Int):=
 (tN l (λs=>C9 l (Vx l 20) s 0 0) 10000 (ug i)).bind λr=>
  if 1000000<r.2.length then none else if (dU l r.1 oE).e≠0 then some ([],0,(dU l r.1 oE).e,(dU l r.1 oE).pos)
  else if 40<r.2.length then some ([],0,2,(pC l op).at_)
  else some (r.2,(dU l r.1 oE).at_,0,0)
def JN(l:List bT)(s:fP):Bool:=match lZ l s.at_ with|some t=>decide (t.kind=2)|none=>false
def jJ(l:List bT)(nb:Bool)(s:fP):fP×cJ:=
 if (nb&&(iD l (fa l s).1 Kf).2)=true then
  (if JN l (iD l (fa l s).1 Kf).1=true then(UB (iD l (fa l s).1 Kf).1,{ (fa l s).2 with n:=(pC l (iD l (fa l s).1 Kf).1.at_).n})
  else(jz l (iD l (fa l s).1 Kf).1 5,(fa l s).2))
 else fa l s
abbrev Ck:ByteArray:=⟨#[44]⟩
abbrev S9:ByteArray:=⟨#[59]⟩
def pX(l:List bT)(nb:Bool):Nat->Bool->fP->Option (fP×List cJ)
 | 0,_,_=>none
 | m+1,more,s=>if (more&&decide (s.e=0))=true then(pX l nb m (iD l (jJ l nb s).1 Ck).2 (iD l (jJ l nb s).1 Ck).1).bind λr=>some (r.1,(jJ l nb s).2::r.2)else some (s,[])
def nk(l:List bT)(nb:Bool)(s:fP):Option (fP×List cJ):=(pX l nb 10000 true s).bind λr=>if 1000000<r.2.length then none else some (dU l r.1 S9,r.2)
abbrev UC:ByteArray:=⟨#[114,101,103]⟩
def Be(l:List bT)(s:fP):Option (fP×List ByteArray):=
 if (iD l s UC).2=true then(nk l false (iD l s UC).1).bind λr=>some (r.1,r.2.map cJ.name)else some (s,[])
def tO(l:List bT)(s:fP)(nm:ByteArray)(a:Int):Option (fP×cN):=
 (Be l (dU l s CL)).bind λr=>
  if r.1.e≠0 then some (r.1,⟨nm,r.2,[],a⟩)
  else(FH l r.1.at_ s.at_).bind λR=>if 0<=R.2.1/\R.2.1<=l.length then some (⟨R.2.1,R.2.2.1,R.2.2.2⟩,⟨nm,r.2,R.1,a⟩)else none
def xF(l:List bT)(s:fP)(a:Int):Option (fP×gP):=
 (v8 l s.at_).bind λR=>if R.2.2.1≠0 then some ({s with e:=R.2.2.1,pos:=R.2.2.2},⟨[],0⟩)
  else if 0<=R.2.1/\R.2.1<=l.length then some (dU l {s with at_:=R.2.1} S9,⟨R.1,a⟩)else none
def nc{α:Type}(l:List bT)(t:ByteArray)(rd:fP->Option (fP×α)):Nat->fP->Option (fP×List α)
 | 0,_=>none
 | m+1,s=>if (iD l s t).2=true then(rd (iD l s t).1).bind λr=>(nc l t rd m r.1).bind λq=>some (q.1,r.2::q.2)else some (s,[])
def zQ(l:List bT)(s:fP):Int:=(pC l (s.at_-1)).at_
def Qt(l:List bT)(s:fP):Option (fP×List cN):=
 if (iD l s ⟨#[114,101,99,111,118,101,114]⟩).2=true then(tO l (iD l s ⟨#[114,101,99,111,118,101,114]⟩).1 ⟨#[]⟩ (zQ l (iD l s ⟨#[114,101,99,111,118,101,114]⟩).1)).bind λr=>some (r.1,[r.2])else some (s,[])
abbrev ZE:ByteArray:=⟨#[108,105,110,101]⟩
abbrev akg:ByteArray:=⟨#[118,111,108]⟩
abbrev ZF:ByteArray:=⟨#[108,111,99,107]⟩
abbrev JO:ByteArray:=⟨#[116,104,114,101,97,100]⟩
abbrev JP:ByteArray:=⟨#[97,108,119,97,121,115]⟩
def akh(l:List bT)(s:fP):Option (fP×cN):=tO l (fa l s).1 (fa l s).2.name (fa l s).2.at_
def Gu(l:List bT)(s:fP):fP:=if s.at_<l.length then jz l s 5 else s
def Nn:cE:=⟨[],[],[],[],[],[]⟩
def vC(t:ByteArray):Option (cE×Int×Int):=
 (vY t).bind λL=>if L.2.1≠0 then some (Nn,L.2.1,L.2.2)else
 (nc L.1 ZE (nk L.1 true) 10000 (ug 0)).bind λE=>
 (nc L.1 akg (nk L.1 true) 10000 E.1).bind λI=>
 (nc L.1 ZF (nk L.1 false) 10000 I.1).bind λB=>
 (nc L.1 JO (akh L.1) 10000 B.1).bind λG=>
 (Qt L.1 G.1).bind λJ=>
 (nc L.1 JP (λs=>xF L.1 s (zQ L.1 s)) 10000 J.1).bind λu=>
  if 1000000<E.2.length\/1000000<I.2.flatten.length\/1000000<B.2.flatten.length\/1000000<G.2.length\/1000000<u.2.length then none else if (Gu L.1 u.1).e≠0 then some (Nn,(Gu L.1 u.1).e,(Gu L.1 u.1).pos)else some (⟨E.2,I.2.flatten,B.2.flatten,G.2,J.2,u.2⟩,0,0)
section
variable {l:List bT}{s s':fP}
theorem ZG{t:ByteArray}(h:(iD l s t).2=true):iD l s t=({s with at_:=s.at_+1},true)/\s.e=0/\0<=s.at_/\s.at_<l.length:=by
 unfold iD at h |-
 split at h
 .rename_i h2
  rw[ew h2]
  rw[n5,decide_eq_true_eq]at h2
  exact⟨rfl,h2.1,sQ h2.2⟩
 cases h
theorem xG{t:ByteArray}(h:(iD l s t).2=false):iD l s t=(s,false):=by
 grind[iD]
theorem FI{nb:Bool}(h:lG l s):lG l (jJ l nb s).1:=by
 have h1:=uY h
 have h2:=kz (t:=Kf) h1
 unfold jJ
 split
 .split
  .rename_i h3
   unfold JN at h3
   cases ht:lZ l (iD l (fa l s).1 Kf).1.at_ with
   | none=>grind
   | some t=>
    have:=mN ht
    exact⟨by show 0<=(iD l (fa l s).1 Kf).1.at_+1;omega,by show(iD l (fa l s).1 Kf).1.at_+1<=_;omega⟩
  exact tM h2
 exact h1
theorem HT{nb:Bool}:∀{m:Nat}{more:Bool}{s s':fP}{x:List cJ},lG l s->pX l nb m more s=some (s',x)->lG l s'
 | 0,_,_,_,_,_,h=>by cases h
 | m+1,more,s,s',x,u,h=>by
  unfold pX at h
  split at h
  .obtain⟨q,y,h1,h2⟩:=eP h
   cases h2
   exact HT (kz (FI u)) h1
  grind
theorem yl{nb:Bool}{x:List cJ}(h:nk l nb s=some (s',x)):∃u,pX l nb 10000 true s=some (u,x)/\s'=dU l u S9/\x.length<=1000000:=by
 unfold nk at h
 obtain⟨q,y,h1,h2⟩:=eP h
 grind
theorem ym{nb:Bool}{x:List cJ}(u:lG l s)(h:nk l nb s=some (s',x)):lG l s':=by
 obtain⟨B,h1,h2,_⟩:=yl h
 rw[h2];exact fG (HT u h1)
theorem No{nb more:Bool}{m:Nat}{x:List cJ}(h:pX l nb m more s=some (s',x)):∃k,m=k+1:=by
 cases m with
 | zero=>cases h
 | succ k=>grind
theorem FJ{nb more:Bool}{m:Nat}{x:List cJ}(h:pX l nb (m+1) more s=some (s',x))(hb:(more&&decide (s.e=0))=false):s'=s/\x=[]:=by
 unfold pX at h;grind
theorem UD{nb more:Bool}{m:Nat}{x:List cJ}(h:pX l nb (m+1) more s=some (s',x))(hb:(more&&decide (s.e=0))=true):∃y,pX l nb m (iD l (jJ l nb s).1 Ck).2 (iD l (jJ l nb s).1 Ck).1=some (s',y)/\x=(jJ l nb s).2::y:=by
 unfold pX at h;rw[hb,ew rfl]at h
 obtain⟨q,y,h1,h2⟩:=eP h
 grind
theorem Np{x:List ByteArray}(u:lG l s)(h:Be l s=some (s',x)):lG l s':=by
 unfold Be at h
 split at h
 .obtain⟨q,y,h1,h2⟩:=eP h
  cases h2
  exact ym (kz u) h1
 grind
theorem FK{nm:ByteArray}{a:Int}{x:cN}(u:lG l s)(h:tO l s nm a=some (s',x)):lG l s':=by
 unfold tO at h
 obtain⟨q,y,h1,h2⟩:=eP h
 have h3:=Np (fG u) h1
 dsimp only at h2
 split at h2
 .grind
 cases hr:FH l q.at_ s.at_ with
 | none=>grind
 | some R=>
  grind[lG]
theorem UE{a:Int}{x:gP}(u:lG l s)(h:xF l s a=some (s',x)):lG l s':=by
 unfold xF at h
 cases hr:v8 l s.at_ with
 | none=>grind
 | some R=>
  rw[hr]at h
  simp only[mO]at h
  split at h
  .cases h;exact u
  .split at h
   .rename_i h4;cases h;exact fG h4
   .cases h
theorem sS{α:Type}{t:ByteArray}{rd:fP->Option (fP×α)}{m:Nat}{x:List α}(h:nc l t rd m s=some (s',x)):∃k,m=k+1:=by
 cases m with
 | zero=>cases h
 | succ k=>grind
theorem uZ{α:Type}{t:ByteArray}{rd:fP->Option (fP×α)}{m:Nat}{x:List α}(h:nc l t rd (m+1) s=some (s',x))(hb:(iD l s t).2=false):s'=s/\x=[]:=by
 unfold nc at h;grind
theorem xH{α:Type}{t:ByteArray}{rd:fP->Option (fP×α)}{m:Nat}{x:List α}(h:nc l t rd (m+1) s=some (s',x))(hb:(iD l s t).2=true):∃u y z,rd (iD l s t).1=some (u,y)/\nc l t rd m u=some (s',z)/\x=y::z:=by
 unfold nc at h;rw[hb,ew rfl]at h
 obtain⟨q,y,h1,h2⟩:=eP h
 obtain⟨E,B,h3,h4⟩:=eP h2
 grind
end
def noQ:hM:=λ_=>True
theorem Bf{l:List bT}{i:Int}{t:bT}(u:0<=i)(h:l[i.toNat]?=some t):pC l i=t:=by
 unfold pC lZ;grind
def aek{l:List bT}{i op:Int}{R:List bQ×Int×Int×Int}(h:FH l i op=some R):∃u add,tN l (λs=>C9 l (Vx l 20) s 0 0) 10000 (ug i)=some (u,add)/\add.length<=1000000/\
  ((dU l u oE).e≠0->R=([],0,(dU l u oE).e,(dU l u oE).pos))/\(¬ (dU l u oE).e≠0->40<(add.length:Int)->R=([],0,2,(pC l op).at_))/\
  (¬ (dU l u oE).e≠0->¬ 40<(add.length:Int)->R=(add,(dU l u oE).at_,0,0)):=by
 unfold FH at h
 obtain⟨q,y,h1,h2⟩:=eP h
 grind
section
variable {l:List bT}{s s':fP}{nb:Bool}
theorem UF(u:nb=true)(h2:(iD l (fa l s).1 Kf).2=true)(h3:JN l (iD l (fa l s).1 Kf).1=true) :
  jJ l nb s=(UB (iD l (fa l s).1 Kf).1,{ (fa l s).2 with n:=(pC l (iD l (fa l s).1 Kf).1.at_).n}):=by
 unfold jJ;grind
theorem UG(u:nb=true)(h2:(iD l (fa l s).1 Kf).2=true)(h3:JN l (iD l (fa l s).1 Kf).1=false) :
  jJ l nb s=(jz l (iD l (fa l s).1 Kf).1 5,(fa l s).2):=by
 unfold jJ;grind
theorem ZH(h2:(iD l (fa l s).1 Kf).2=false):jJ l nb s=((iD l (fa l s).1 Kf).1,(fa l s).2):=by
 unfold jJ;rw[ej dD,xG h2]
theorem ZI(u:nb=false):jJ l nb s=((fa l s).1,(fa l s).2):=by
 grind[jJ,fa]
theorem ael{q:fP}(h:JN l q=true):∃u,lZ l q.at_=some u/\l[q.at_.toNat]?=some u/\0<=q.at_/\q.at_<l.length:=by
 unfold JN at h
 cases ht:lZ l q.at_ with
 | none=>grind
 | some u=>have:=mN ht;grind
theorem HU{x:List ByteArray}(h:Be l s=some (s',x))(h1:(iD l s UC).2=true):∃ys,nk l false (iD l s UC).1=some (s',ys)/\x=ys.map cJ.name:=by
 unfold Be at h;rw[ew h1]at h
 obtain⟨q,y,h2,h3⟩:=eP h
 grind
theorem Nq{x:List ByteArray}(h:Be l s=some (s',x))(h1:(iD l s UC).2=false):s'=s/\x=[]:=by
 unfold Be at h;grind
theorem Qu{nm:ByteArray}{a:Int}{x:cN}(h:tO l s nm a=some (s',x)):∃q rs,Be l (dU l s CL)=some (q,rs)/\
  (q.e≠0->s'=q/\x=⟨nm,rs,[],a⟩)/\(¬ q.e≠0->∃R,FH l q.at_ s.at_=some R/\0<=R.2.1/\R.2.1<=l.length/\s'=⟨R.2.1,R.2.2.1,R.2.2.2⟩/\x=⟨nm,rs,R.1,a⟩):=by
 unfold tO at h
 obtain⟨q,rs,h1,h2⟩:=eP h
 refine⟨q,rs,h1,λu=>?_,λu=>?_⟩
 .grind
 dsimp only at h2;rw[ej u]at h2
 cases hr:FH l q.at_ s.at_ with
 | none=>grind
 | some R=>
  grind
theorem UH{a:Int}{x:gP}(h:xF l s a=some (s',x)):∃R,v8 l s.at_=some R/\
  (R.2.2.1≠0->s'={s with e:=R.2.2.1,pos:=R.2.2.2}/\x=⟨[],0⟩)/\(¬ R.2.2.1≠0->(0<=R.2.1/\R.2.1<=l.length)/\s'=dU l {s with at_:=R.2.1} S9/\x=⟨R.1,a⟩):=by
 unfold xF at h
 cases hr:v8 l s.at_ with
 | none=>grind
 | some R=>
  grind
theorem aki{e:Int}(u:e≠0)(h:(jz l s e).e=0):False:=by
 unfold jz at h
 grind
theorem aem{t:ByteArray}(h:(dU l s t).e=0):tK l s.at_ t=true:=by
 unfold dU at h
 split at h
 .grind
 exact(aki ee h).elim
theorem are{t:ByteArray}:(iD l s t).1.e=s.e:=by unfold iD;grind
theorem UI{e:Int}(h:s.e≠0):(jz l s e).e≠0:=by unfold jz;grind
theorem Qv{t:ByteArray}(h:s.e≠0):(dU l s t).e≠0:=by
 unfold dU;rw[ej dD];exact UI h
theorem Nr:∀{m:Nat}{more:Bool}{s s':fP}{x:List cJ},s.e≠0->pX l nb m more s=some (s',x)->s'.e≠0
 | 0,_,_,_,_,_,h=>by cases h
 | m+1,more,s,s',x,u,h=>by
  have:=FJ h dD
  grind
theorem Ns{x:List cJ}(u:s.e≠0)(h:nk l nb s=some (s',x)):s'.e≠0:=by
 obtain⟨B,h1,h2,_⟩:=yl h
 rw[h2];exact Qv (Nr u h1)
theorem Qw{x:List ByteArray}(u:s.e≠0)(h:Be l s=some (s',x)):s'.e≠0:=by
 cases h1:(iD l s UC).2 with
 | true=>obtain⟨ys,h2,_⟩:=HU h h1;exact Ns (by rw[are];exact u) h2
 | false=>rw[(Nq h h1).1];exact u
end
theorem Gv{α β:Type}{f:α->β}{l:List α}{k:Nat}{e:α}(h:l[k]?=some e):(l.take k).map f++[f e]=(l.take (k+1)).map f:=by
 rw[<- gI h,List.map_append];rfl
def Nt{l:List bT}{s s':fP}{x:List cN}(h:Qt l s=some (s',x))(h1:(iD l s ⟨#[114,101,99,111,118,101,114]⟩).2=true):∃y,tO l (iD l s ⟨#[114,101,99,111,118,101,114]⟩).1 ⟨#[]⟩ (zQ l (iD l s ⟨#[114,101,99,111,118,101,114]⟩).1)=some (s',y)/\x=[y]:=by
 unfold Qt at h;rw[ew h1]at h
 obtain⟨q,y,h2,h3⟩:=eP h
 grind
theorem Ta{l:List bT}{s s':fP}{x:List cN}(h:Qt l s=some (s',x))(h1:(iD l s ⟨#[114,101,99,111,118,101,114]⟩).2=false):s'=s/\x=[]:=by
 unfold Qt at h;grind
theorem UJ{t:ByteArray}{l:List bT}{e a:Int}{R:cE×Int×Int}(h:vC t=some R)(B:vY t=some (l,e,a))(u:e≠0):R=(Nn,e,a):=by
 unfold vC at h;rw[B]at h
 simp only[mO]at h
 rw[ew u]at h;exact(oe.inj h).symm
theorem Qx{t:ByteArray}{R:cE×Int×Int}(h:vC t=some R):∃l e a,vY t=some (l,e,a):=by
 unfold vC at h
 cases hs:vY t with
 | none=>rw[hs]at h;cases h
 | some L=>exact⟨L.1,L.2.1,L.2.2,rfl⟩
structure akj(l:List bT)(R:cE×Int×Int)(t1 t2 t3 t4 t5 t6:fP)(y1:List (List cJ))(y2 y3:List (List cJ))(y4 y5:List cN)(y6:List gP):Prop where
 h1:nc l ZE (nk l true) 10000 (ug 0)=some (t1,y1)
 h2:nc l akg (nk l true) 10000 t1=some (t2,y2)
 h3:nc l ZF (nk l false) 10000 t2=some (t3,y3)
 h4:nc l JO (akh l) 10000 t3=some (t4,y4)
 h5:Qt l t4=some (t5,y5)
 h6:nc l JP (λs=>xF l s (zQ l s)) 10000 t5=some (t6,y6)
 b1:y1.length<=1000000
 b2:y2.flatten.length<=1000000
 b3:y3.flatten.length<=1000000
 b4:y4.length<=1000000
 b6:y6.length<=1000000
 bad:(Gu l t6).e≠0->R=(Nn,(Gu l t6).e,(Gu l t6).pos)
 ax2:¬ (Gu l t6).e≠0->R=(⟨y1,y2.flatten,y3.flatten,y4,y5,y6⟩,0,0)
def ZJ{t:ByteArray}{l:List bT}{e a:Int}{R:cE×Int×Int}(h:vC t=some R)(hs:vY t=some (l,e,a))(he:¬ e≠0):∃U V G W E Y M Z O B I u,akj l R U V G W E Y M Z O B I u:=by
 unfold vC at h;rw[hs]at h
 simp only[mO]at h
 rw[ej he]at h
 obtain⟨U,M,h1,h⟩:=eP h
 obtain⟨V,Z,h2,h⟩:=eP h
 obtain⟨G,O,h3,h⟩:=eP h
 obtain⟨W,B,h4,h⟩:=eP h
 obtain⟨E,I,h5,h⟩:=eP h
 obtain⟨Y,u,h6,h⟩:=eP h
 dsimp only at h
 split at h
 .cases h
 rename_i hb
 simp only[not_or,Nat.not_lt]at hb
 refine⟨U,V,G,W,E,Y,M,Z,O,B,I,u,h1,h2,h3,h4,h5,h6,hb.1,hb.2.1,hb.2.2.1,hb.2.2.2.1,hb.2.2.2.2,λJ=>?_,λJ=>?_⟩
 .rw[ew J]at h;exact(oe.inj h).symm
 rw[ej J]at h;exact(oe.inj h).symm
theorem aen{l:List bT}{s s':fP}{x:List cN}(u:lG l s)(h:Qt l s=some (s',x)):lG l s':=by
 cases h1:(iD l s ⟨#[114,101,99,111,118,101,114]⟩).2 with
 | true=>obtain⟨y,h2,_⟩:=Nt h h1;exact FK (kz u) h2
 | false=>rw[(Ta h h1).1];exact u
theorem Bg{α:Type}{a:List (List α)}{b:List α}:(a++[b]).flatten=a.flatten++b:=ei
def Tb{α:Type}{y a c:List (List α)}{b:List α}(h:y=a++b::c):a.flatten.length+b.length<=y.flatten.length:=dD
def C212(l:List bT)(lv:Value)(i op:Int)(R:List bQ×Int×Int×Int)(w:World)(hL:dA (λ_=>True) w lv l)(M:jk l)(h0:0<=i/\i<=l.length)(ki:0<=op/\op<l.length)(hr:FH l i op=some R):CR 212 [lv,hZ i,hZ op] w (λv w'=>∃sv:SV,v=.tuple #[ia sv,hZ R.2.1,hZ R.2.2.1,hZ R.2.2.2]/\lg (eG λw=>DL w (ia sv) R.1) w w'):=by
 have Dx:=M.n;have hn:l.length<=1000000:=cK
 have sy:=M.at_;obtain⟨s9,add,YP,Gl,hR⟩:=aek hr;obtain⟨lsv,I⟩:=hL.fI;have u:=St.start w;refine oH Tryz.func212 (pl:=auu) ?_;rw[I];refine pop (OG _ _ _ _) (nw u λarf _ u=>?_);obtain⟨p,rfl⟩:∃p,p=arf:=⟨_,rfl⟩;have u:=u.enc (cs':=eo (ia lsv) (.slice none 0 0) (ug i)) rfl;rw[<- I]at u |-;have hT:∀w',gu bD w w'->dA (λ_=>True) w' lv l:=λ_ hc=>hL.ext hc;have u:=((u.fy (Φ:=λw=>gM ([]:List bE) ([]:List bQ) w/\noQ w) λ_=>⟨gM.nil,trivial⟩).eM (α:=bE)).p2;have u:=pT.shut u;refine⟨λmm w'=>∃(B:fP) (E a2:List bQ),lG l B/\tN l (λs=>C9 l (Vx l 20) s 0 0) mm B=some (s9,a2)/\add=E++a2/\St w bD [pT p lv B (([]:List bQ)++E) noQ] w',⟨10000,ug i,[],add,(show lG l (ug i)from h0),YP,rfl,by rw[o6];exact u⟩,?_⟩
 rintro mm _ ⟨B,E,a2,U,Kc,V,u⟩ _;obtain⟨m,rfl⟩:=HQ Kc;obtain⟨Y,W,u⟩:=pT.open u;have J:W.length=(([]:List bQ)++E).length:=u.p2.eG.1.1;rw[lY]at J;refine⟨λjv w'=>jv=.bool (decide (B.e=0)&&!tK l B.at_ oE)/\St w bD [bY p (eo lv Y B),bH Y W,eG λw=>gM W (([]:List bQ)++E) w/\noQ w] w',aE (aA kR (have u:=u.drew;aB jL u.hb rfl (aH (aC (λO=>aE (aA iG (aB jn u.hb rfl (aE (aA eZ (aB bL u.hb rfl (aV vN u (C209 _ l B.at_ (kp #[125]) _ (hT _ u.aG) hn) λ_ _ u=>bR (have u:=u.p2.p2.p2;⟨vb (by first|(rw[ez O];rfl)|(rw[fN O];rfl)),u⟩)))))))) λO=>have u:=u.p2.p2.p2;⟨vb (by first|(rw[ez O];rfl)|(rw[fN O];rfl)),u⟩)))),?_⟩
 rintro _ _ ⟨rfl,u⟩ _;refine aY (λmc=>?_) (λmc=>?_)
 .obtain⟨s3,a1,a3,ho,hb3,rfl⟩:=JM Kc mc;have u:=pT.shut u.p2.p2.p2;refine bF afB u (H':=λ_=>pT p lv s3 ((([]:List bQ)++E)++a1) noQ) (Φ:=λ_ _=>True) (λF2 eb dW=>?_) ?_
  .exact(C256 p lv l B 20 0 0 (([]:List bQ)++E) s3 a1 noQ F2 _ eb (λw' hc=>hT w' (dW w' hc).aG) M U (arc M 20) cK cK (by have:=gN List.length V;simp at this |-;omega) ho).mono λ_ _ r=>r.mono λ_ _ h=>⟨trivial,h.2⟩
  rintro _ _ _ u;exact⟨_,cK,s3,E++a1,a3,Qq (λ_ _ _ _ _ c e=>Qr c e) U ho,hb3,by rw[V,n3],by rw[<- n3];exact u⟩
 obtain⟨e9,rfl⟩:=FG Kc mc;replace e9:=e9.symm;subst e9;rw[o6]at V;subst V;obtain⟨ax4,ax5⟩:=id U;simp only[J7,Nat.zero_add]at J;refine bF yD u (H':=λ_=>bY p (eo lv Y (dU l B (kp #[125])))) (Φ:=λ_ _=>True) (λF2 eb dW=>?_) ?_
 .exact(C257 p lv Y l B (kp #[125]) F2 _ eb (λw' hc=>hT w' (dW w' hc).aG) M U).mono λ_ _ r=>r.mono λ_ _ h=>⟨trivial,h.2⟩
 rintro _ _ _ u;refine aE (aA kR (aB jL u.hb rfl (bW (aC (λZ=>?_) λZ=>aE (aA qp (aB jN u.hb rfl (aK fq u.p1.dX (cO (aC (λAW=>?_) λAW=>?_)))))))))
 .refine aE (aA kR (have u:=u.drew;aB jL u.hb rfl (aE (aA Au (aB bL u.hb rfl ?_)))));have G:R=([],0,(dU l B oE).e,(dU l B oE).pos):=hR.1 Z;rw[G];exact⟨bX,rfl,(u.fy (Φ:=λw=>DL w (ia (bX:SV)) ([]:List bQ)) λw=>DL.nil w).fresh⟩
 .obtain⟨Ye,B4⟩:=gx l (i:=op.toNat) cK;refine aO fK hL cK B4 (λ_ EV=>bV Ye.at_ lL EV rfl rfl λ_ AX=>have u:=u.drew;aD bL (AX.ext u.aG) ?_);have G:R=([],0,2,Ye.at_):=(hR.2.1 Z cK).trans (by rw[Bf ki.1 B4]);rw[G];exact⟨bX,rfl,(u.fy (Φ:=λw=>DL w (ia (bX:SV)) ([]:List bQ)) λw=>DL.nil w).fresh⟩
 refine aE (aA qp (have u:=u.drew;aB jN u.hb rfl (aE (aA eZ (aB bL u.hb rfl ?_)))));have u:=(u.drop.p1.dM (Ψ:=gM W ([]++add)) λ_ h=>h.1).p1;have u:=St.G3 u;obtain⟨sv,hsv⟩:=u.oX;subst hsv;rw[hR.2.2 Z cK];exact⟨sv,rfl,u.mV.fresh⟩
def C132(p:Nat)(lv:Value)(l:List bT)(s:fP)(nb:Bool)(s2:fP)(x:List cJ)(F:Nat->Prop)(w:World)(hF:(bY p (eA lv s)).p w F)(M:∀w',gu F w w'->dA (λ_=>True) w' lv l)(V:jk l)(h0:lG l s)(hr:nk l nb s=some (s2,x)):CR 132 [(.pointer (some ⟨p,0,none⟩)),.bool nb] w (λv w'=>mP F (sep (bY p (eA lv s2)) (bH v x)) w w'):=by
 have u:=St.begin hF;obtain⟨s9,Vo,e2,Gl⟩:=yl hr;have Dx:=V.n;have hn:l.length<=1000000:=cK
 have sy:=V.at_;obtain⟨SX,SY⟩:=id h0;refine oH Tryz.func132 (pl:=auh) ?_;refine aZ ([]:List cJ) u il rfl rfl (dL rfl) (λajE _ u=>?_);have u:=u.p1.p1;refine⟨λmm o mo w'=>∃(B:fP) (b:Bool) (W a2:List cJ),mo=.bool b/\lG l B/\pX l nb mm b B=some (s9,a2)/\x=W++a2/\St w F [bH o W,bY p (eA lv B)] w',⟨10000,s,true,[],x,rfl,h0,Vo,rfl,u⟩,?_⟩;rintro mm ze _ w2 ⟨B,b,W,a2,rfl,J,WT,hx,u⟩ _;obtain⟨m,rfl⟩:=No WT;obtain⟨ax4,ax5⟩:=id J;refine⟨λjv w'=>jv=.bool (b&&decide (B.e=0))/\w2=w',aY (λY=>aE (aA mr (aB jL u.p1.hb rfl (aH ⟨vb (by first|(rw[Y];rfl)|(rw[Y];rfl)),rfl⟩)))) (λY=>⟨vb (by first|(rw[Y];rfl)|(rw[Y];rfl)),rfl⟩),?_⟩
 rintro _ _ ⟨rfl,hw⟩ _;subst hw;refine aY (λer=>?_) (λer=>?_)
 .obtain⟨a3,hn3,rfl⟩:=UD WT er;refine bF afl u.p1 (H':=λ_=>bY p (eA lv (fa l B).1)) (Φ:=λv _=>v=ia (fa l B).2) (λI G E=>?_) ?_
  .exact C133 p lv l B I _ G (λw' hc=>M w' (E w' hc).aG) V J
  rintro _ _ rfl u;refine aM u oT (λZ _ u=>aJ (x:=(fa l B).2) u l9 rfl rfl λ_ u=>⟨λw'=>St w F [bY p (eA lv (jJ l nb B).1),bY Z (j0 (jJ l nb B).2),bH ze W] w',⟨_,aY (λvD=>?_) (λvD=>?_),λ_ _ h=>h⟩,?_⟩)
  .refine bF yC u.p1 (H':=λ_=>bY p (eA lv (iD l (fa l B).1 (kp #[61])).1)) (Φ:=λv _=>v=.bool (iD l (fa l B).1 (kp #[61])).2) (λI G E=>?_) ?_
   .exact C131 p lv l (fa l B).1 (kp #[61]) I _ G (λw' hc=>M w' (E w' hc).aG) V (uY J)
   rintro _ _ rfl u;intro vQ;refine aY (λjC=>?_) (λjC=>?_)
   .have hq:=kz (t:=kp #[61]) (uY J);obtain⟨O,hq1⟩:=id hq;refine⟨λjv w'=>jv=.bool (JN l (iD l (fa l B).1 (kp #[61])).1)/\St w F [bY p (eA lv (iD l (fa l B).1 (kp #[61])).1),bY Z (j0 (fa l B).2),bH ze W] w',aE (aA fw (have u:=u.drew;aB bL u.hb rfl (aE (aA j9 (aB jn u.hb rfl (aK fK (M _ u.aG) (aR (aC (λme=>?_) λme=>have u:=u.p2.p2.p2;⟨vb (by unfold JN lZ;rw[ew O,mY cK]),u⟩)))))))),?_⟩
    .refine aE (aA j9 (aB jn u.hb rfl (aE (aA fw (aB bL u.hb rfl ?_)))));obtain⟨ari,ZK⟩:=gx l (i:=(((iD l (fa l B).1 (kp #[61])).1).at_).toNat) cK;exact aO fK (M _ u.aG) cK ZK (λ_ EH=>bV ari.kind lK EH rfl rfl λ_ Lz=>aD bL Lz (aH (have u:=u.p2.p2.p2;⟨vb (by unfold JN lZ;rw[ew O,ZK]),u⟩)))
    rintro _ _ ⟨rfl,u⟩ _;refine aY (λsg=>?_) (λsg=>?_)
    .obtain⟨tk,Zp,Hk,_,hqlt⟩:=ael sg;have N5:pC l (iD l (fa l B).1 (kp #[61])).1.at_=tk:=Bf O Hk;refine aE (aA j9 (have u:=u.drew;aB jn u.hb rfl (aE (aA fw (aB bL u.hb rfl (aO fK (M _ u.aG) cK Hk λ_ AX=>bV tk.n sd AX rfl rfl λ_ arj=>aD bL arj (aA rY (aT u.p1 bL (dL rfl) (rfl) λ_ u=>have u:=u.enc (cs':=j0 ({ (fa l B).2 with n:=tk.n}:cJ)) rfl;aE (aA fw ?_)))))))));refine aB bL u.p1.hb rfl (aN cK (aE (aA fw (aT u.p1 bL (dL rfl) (rfl) λ_ u=>?_))))
     have u:=u.p2.p2.p2;have U:(jJ l nb B)=(UB (iD l (fa l B).1 (kp #[61])).1,{ (fa l B).2 with n:=tk.n}):=(UF vD jC sg).trans (by rw[N5]);rw[U];exact u
    refine bF Rd u (H':=λ_=>bY p (eA lv (jz l (iD l (fa l B).1 (kp #[61])).1 5))) (Φ:=λ_ _=>True) (λI G E=>?_) ?_
    .exact(C136 p lv l (iD l (fa l B).1 (kp #[61])).1 I _ G (λw' hc=>M w' (E w' hc).aG) V (kz (uY J))).mono λ_ _ r=>r.mono λ_ _ h=>⟨trivial,h.2⟩
    rintro _ _ _ u;have u:=u.p2.p2.p2;have U:=UG vD jC sg;rw[U];exact u
   have u:=u.p2.p2.p2;have U:=ZH (nb:=nb) jC;rw[U];exact u
  .intro vQ;refine ft ?_;have u:=u.p2.p1.p2;have U:=ZI (l:=l) (s:=B) vD;rw[U];exact u
  intro _ u _;refine aD l9 u.p1.At (aZ ([(jJ l nb B).2]) u il rfl rfl (dL rfl) λaq5 _ u=>?_);have akk:=u.dX;refine bJ u.p3 il akk (by have:=gN List.length hx;simp at this |-;omega) ee (λark _ u=>have u:=u.p1.drop;bF yC u.p1 (H':=λ_=>bY p (eA lv (iD l (jJ l nb B).1 (kp #[44])).1)) (Φ:=λv _=>v=.bool (iD l (jJ l nb B).1 (kp #[44])).2) (λI G E=>?_) ?_)
  .exact C131 p lv l (jJ l nb B).1 (kp #[44]) I _ G (λw' hc=>M w' (E w' hc).aG) V (FI J)
  rintro _ _ rfl u;have u:=u.p2.drop.p1;exact⟨_,cK,(iD l (jJ l nb B).1 Ck).1,(iD l (jJ l nb B).1 Ck).2,W++[(jJ l nb B).2],a3,rfl,kz (FI J),hn3,by rw[hx,n3];rfl,u⟩
 obtain⟨e9,rfl⟩:=FJ WT er;replace e9:=e9.symm;subst e9;rw[o6]at hx;subst hx;refine bF VY u.p1 (H':=λ_=>bY p (eA lv (dU l B (kp #[59])))) (Φ:=λ_ _=>True) (λI G E=>?_) ?_
 .exact(C210 p lv l B (kp #[59]) I _ G (λw' hc=>M w' (E w' hc).aG) V J).mono λ_ _ r=>r.mono λ_ _ h=>⟨trivial,h.2⟩
 rintro _ _ _ u;have u:=u.p1.p1;rw[e2];exact(St.join u).mut
def C134(p:Nat)(lv:Value)(l:List bT)(s:fP)(nm:ByteArray)(a:Int)(s2:fP)(x:cN)(F:Nat->Prop)(w:World)(hF:(bY p (eA lv s)).p w F)(Z:∀w',gu F w w'->dA (λ_=>True) w' lv l)(G:jk l)(I:lG l s)(hr:tO l s nm a=some (s2,x)):CR 134 [(.pointer (some ⟨p,0,none⟩)),ia (⟨nm,bX,bX,a⟩:cG)] w (λv w'=>mP F (pH λsh:cG=>fact (v=ia sh) (sep (bY p (eA lv s2)) (eG λw=>mG w sh x))) w w'):=by
 have u:=St.begin hF;obtain⟨q,rs,C6,Bz,F7⟩:=Qu hr;have V:=Np (fG I) C6;obtain⟨hqi0,hqi1⟩:=id V;have Dx:=G.n;have hn:l.length<=1000000:=cK
 have sy:=G.at_;obtain⟨SX,SY⟩:=id I;refine oH Tryz.func134 (pl:=auj) ?_;refine cI (x:=(⟨nm,bX,bX,a⟩:cG)) u (λE _ u=>aM u tA λOS _ u=>have u:=u.enc (cs':=j0 (⟨(kp #[]),bX,bX,0⟩:cG)) rfl;aE (aA fw (aB bL u.p2.hb rfl (bF VY u.p2 (H':=λ_=>bY p (eA lv (dU l s (kp #[123])))) (Φ:=λ_ _=>True) (λO M J=>?_) ?_))))
 .exact(C210 p lv l s (kp #[123]) O _ M (λw' hc=>Z w' (J w' hc).aG) G I).mono λ_ _ r=>r.mono λ_ _ h=>⟨trivial,h.2⟩
 rintro _ _ _ u;refine⟨λw'=>∃B:SV,St w F [bH (ia B) rs,bY E (j0 (⟨nm,B,bX,a⟩:cG)),bY OS (j0 (⟨(kp #[]),bX,bX,0⟩:cG)),bY p (eA lv q)] w',?_,?_⟩
 .refine bF yC u (H':=λ_=>bY p (eA lv (iD l (dU l s (kp #[123])) (kp #[114,101,103])).1)) (Φ:=λv _=>v=.bool (iD l (dU l s (kp #[123])) (kp #[114,101,103])).2) (λO M J=>?_) ?_
  .exact C131 p lv l (dU l s (kp #[123])) (kp #[114,101,103]) O _ M (λw' hc=>Z w' (J w' hc).aG) G (fG I)
  rintro _ _ rfl u;refine aY (λfr=>?_) (λfr=>?_)
  .obtain⟨ys,W,hrs⟩:=HU C6 fr;have hyl:ys.length<=1000000:=by obtain⟨_,_,_,h⟩:=yl W;exact h
   refine bF Rc u (H':=λv=>sep (bY p (eA lv q)) (bH v ys)) (Φ:=λ_ _=>True) (λO M J=>?_) ?_
   .exact(C132 p lv l (iD l (dU l s (kp #[123])) (kp #[114,101,103])).1 false q ys O _ M (λw' hc=>Z w' (J w' hc).aG) G (kz (fG I)) W).mono λ_ _ r=>r.mono λ_ _ h=>⟨trivial,h⟩
   rintro x21 _ _ u;have u:=(((((u.split.eM (α:=ByteArray)).p1).p3).p3).p4).p4;refine⟨λmm i w'=>∃(j:Nat) (B:SV),i=hZ (j:Int)/\mm=ys.length-j/\j<=ys.length/\St w F [bH (ia B) ((ys.take j).map cJ.name),bY E (j0 (⟨nm,B,bX,a⟩:cG)),bH x21 ys,bY OS (j0 (⟨(kp #[]),bX,bX,0⟩:cG)),bY p (eA lv q)] w',⟨_,0,bX,rfl,rfl,l1 _,u⟩,?_⟩;rintro mm _ _ ⟨j,B,rfl,rfl,hj,u⟩ _;refine aK il u.p2.dX (aR (aC (λjC=>?_) λjC=>?_))
   .refine aA fR (have u:=u.drew;aB (v:=ia (B:SV)) ji u.p1.hb rfl ?_);obtain⟨Y,ZL⟩:=gx ys (i:=(j:Int).toNat) cK;refine dR u.p2 il cK cK (λ_ xj=>my kP xj λ_ rf=>nF Y.name u.p2 gv rf ZL rfl (aZ ([Y.name]) u iy rfl rfl (dL rfl) λao4 _ u=>?_));refine⟨aF ji (u.p2.hb.cell rfl),?_⟩;have akm:=u.dX;refine bJ u.p1 iy akm (by simp;omega) ee (λao5 _ u=>have u:=u.p1.drop;aA fR ?_);obtain⟨ZM,rfl⟩:=u.fI;exact aT u.p1 ji (dL rfl) (rfl) (λ_ u=>have u:=u.enc (cs':=j0 (⟨nm,ZM,bX,a⟩:cG)) rfl;aN cK (have u:=u.p4.p4.p4.p3.p4;⟨_,cK,j+1,ZM,rfl,rfl,cK,by rw[<- Gv (k:=j) ZL];exact u⟩))
   have u:=u.p2.drop.p3.p3.p3.p3;rw[kW cK]at u;rw[hrs];exact⟨B,u⟩
  have u:=((((u.eM (α:=ByteArray)).p1).p2).p3).p3;obtain⟨e1,e3⟩:=Nq C6 fr;rw[xG fr]at u;rw[e1,e3];exact⟨bX,u⟩
 rintro _ ⟨B,u⟩ _;refine⟨λw'=>∃(B U:SV) (body:List bQ),x=⟨nm,rs,body,a⟩/\St w F [bH (ia B) rs,eG (λw=>DL w (ia U) body),bY E (j0 (⟨nm,B,U,a⟩:cG)),bY OS (j0 (⟨(kp #[]),bX,bX,0⟩:cG)),bY p (eA lv s2)] w',aE (aA mr (aB jL u.p3.hb rfl (aH (aC (λqB=>?_) λqB=>?_)))),?_⟩
 .obtain⟨R,hR,hR0,hR1,e2,hx⟩:=F7 cK;have ME:(dU l s CL).e=0:=u1.1 λhh=>Qw hh C6 cK;have ki:=sQ (aem ME);refine aE (aA j9 (have u:=u.drew;aB jn u.p3.hb rfl (aE (aA fw (aB bL u.p3.hb rfl (dQ amK (C212 l _ q.at_ s.at_ R _ (Z _ u.aG) G V ki hR) ?_))))));rintro _ _ ⟨ZN,rfl,cL⟩;have u:=u.made cL;refine aQ rfl (aQ rfl (aQ rfl (aQ rfl (aA lI (aT u.p2 jN (dL rfl) (rfl) λ_ u=>have u:=u.enc (cs':=j0 (⟨nm,B,ZN,a⟩:cG)) rfl;aE (aA fw (aT u.p4 bL (dL rfl) (rfl) λ_ u=>aE (aA mr (aT u jL (dL rfl) (rfl) λ_ u=>aE ?_)))))))))
  refine aA wL (aT u bL (dL rfl) (rfl) λ_ u=>?_);have u:=u.p4.p2.p3.p4;rw[e2];exact⟨B,ZN,R.1,hx,u⟩
 .have u:=u.fy (Φ:=λw=>DL w (ia (bX:SV)) ([]:List bQ)) λw=>DL.nil w;have u:=u.p4.p4.p4.p3.p4;obtain⟨e2,hx⟩:=Bz qB;rw[e2];exact⟨B,bX,[],hx,u⟩
 rintro _ ⟨B,U,body,rfl,u⟩ _;exact aD m4 u.p2.At (aJ (x:=(⟨nm,B,U,a⟩:cG)) u.p3 m4 rfl rfl λ_ u=>aD m4 u.At (have u:=u.p1.freeze.p2.p1.gZ.dM (Ψ:=(λw=>mG w (⟨nm,B,U,a⟩:cG) (⟨nm,rs,body,a⟩:cN))) (λ_ h=>⟨_,_,rfl,DL.j1 h.1,id h.2⟩);have u:=u.p1.drop.p1.drop.p1;(xE u).mut))
def C135(p:Nat)(lv:Value)(l:List bT)(s:fP)(a:Int)(I:fP)(x:gP)(F:Nat->Prop)(w:World)(hF:(bY p (eA lv s)).p w F)(M:∀w',gu F w w'->dA (λ_=>True) w' lv l)(B:jk l)(Z:lG l s)(Y:xF l s a=some (I,x)):CR 135 [(.pointer (some ⟨p,0,none⟩)),hZ a] w (λv w'=>mP F (pH λO:jy=>fact (v=ia O) (sep (bY p (eA lv I)) (eG λw=>mG w O x))) w w'):=by
 have u:=St.begin hF;obtain⟨R,E,V,W⟩:=UH Y;have Dx:=B.n;have hn:l.length<=1000000:=cK
 have sy:=B.at_;obtain⟨SX,SY⟩:=id Z;refine oH Tryz.func135 (pl:=auk) ?_;refine aM u OB (λOS _ u=>have u:=u.enc (cs':=j0 (⟨bX,0⟩:jy)) rfl;aE (aA j9 (have u:=u.drew;aB jn u.p1.hb rfl (aE (aA fw (aB bL u.p1.hb rfl (dQ afv (C213 l _ s.at_ R _ (M _ u.aG) B cK E) ?_)))))));rintro _ _ ⟨J,rfl,cL⟩;have u:=u.made cL;refine aQ rfl (aQ rfl (aQ rfl (aQ rfl (bW (aC (λG=>?_) λG=>?_)))))
 .obtain⟨rfl,rfl⟩:=V G;exact aE (aA mr (aT u.p2 jL (dL rfl) (rfl) λ_ u=>aE (aA wL (aT u bL (dL rfl) (rfl) λ_ u=>pop (v:=ia (⟨bX,0⟩:jy)) (by kernel_rfl) (aJ (x:=(⟨bX,0⟩:jy)) u.p2 IJ rfl rfl λ_ u=>aD IJ u.At (have u:=u.fy (Φ:=(λw=>mG w (⟨bX,0⟩:jy) (⟨[],0⟩:gP))) (λ_=>⟨_,rfl,DL.nil _⟩);have u:=u.p1.drop.p2.drop.p1;(xE u).mut))))))
 obtain⟨C6,rfl,rfl⟩:=W G;refine aE (aA fw (aT u.p2 bL (dL rfl) (rfl) λ_ u=>have u:=u.enc (cs':=eA lv ({s with at_:=R.2.1}:fP)) rfl;bF VY u (H':=λ_=>bY p (eA lv (dU l ({s with at_:=R.2.1}:fP) (kp #[59])))) (Φ:=λ_ _=>True) (λF2 U dW=>?_) ?_))
 .exact(C210 p lv l ({s with at_:=R.2.1}:fP) (kp #[59]) F2 _ U (λw' hc=>M w' (dW w' hc).aG) B (show lG l ({s with at_:=R.2.1}:fP)from C6)).mono λ_ _ r=>r.mono λ_ _ h=>⟨trivial,h.2⟩
 rintro _ _ _ u;exact pop (GY _ _ _ _) (aJ (x:=(⟨J,a⟩:jy)) u.p2 IJ rfl rfl λ_ u=>aD IJ u.At (have u:=u.p2.dM (Ψ:=(λw=>mG w (⟨J,a⟩:jy) (⟨R.1,a⟩:gP))) (λ_ h=>⟨_,rfl,id h⟩);have u:=u.p1.drop.p1;(xE u).mut))
def C65(s:ByteArray)(R:cE×Int×Int)(w:World)(TK:s.size<=1000000)(hr:vC s=some R)(hTk:∀l e a,vY s=some (l,e,a)->jk l):CR 65 [.string s] w (λv w'=>∃pv:bP,v=.tuple #[ia pv,hZ R.2.1,hZ R.2.2]/\lg (eG λw=>mG w pv R.1) w w'):=by
 obtain⟨l,e,a,hsc⟩:=Qx hr;have W:=hTk l e a hsc;have Dx:=W.n;have hn:l.length<=1000000:=cK
 have sy:=W.at_;have u:=St.start w;refine oH Tryz.func65 (pl:=P65) ?_;refine aM u vf (λwh _ u=>have u:=u.enc (cs':=j0 (⟨bX,bX,bX,bX,bX,bX⟩:bP)) rfl;dQ amy (C130 s (l,e,a) _ TK hsc) ?_);rintro _ _ ⟨lv,rfl,cL⟩;have u:=u.made cL;refine aQ rfl (aQ rfl (aQ rfl (bW (aC (λlP=>?_) λlP=>?_))))
 .refine pop (v:=ia (⟨bX,bX,bX,bX,bX,bX⟩:bP)) (by kernel_rfl) (aJ (x:=(⟨bX,bX,bX,bX,bX,bX⟩:bP)) u.p1 et rfl rfl λ_ u=>aD et u.At ?_);have u:=u.fy (Φ:=(λw=>mG w (⟨bX,bX,bX,bX,bX,bX⟩:bP) (⟨[],[],[],[],[],[]⟩:cE))) (λ_=>⟨_,_,_,_,_,_,rfl,DL.nil _,DL.nil _,DL.nil _,DL.nil _,DL.nil _,DL.nil _⟩);have u:=u.p1.drop.p1.drop;rw[UJ hr hsc lP];exact⟨_,rfl,u.fresh⟩
 obtain⟨t1,t2,t3,t4,t5,t6,y1,y2,y3,y4,y5,y6,Z⟩:=ZJ hr hsc lP;obtain⟨lsv,hlv⟩:=u.fI;rw[hlv];refine pop (Wp _ _ _) (nw u λRJ _ u=>pop (v:=ia (⟨bX,bX,bX,bX,bX,bX⟩:bP)) (by kernel_rfl) (aM u vf λQy _ u=>have u:=u.enc (cs':=j0 (⟨bX,bX,bX,bX,bX,bX⟩:bP)) rfl;aJ (x:=(⟨bX,bX,bX,bX,bX,bX⟩:bP)) u et rfl rfl λ_ u=>?_));obtain⟨p,rfl⟩:∃p,p=RJ:=⟨_,rfl⟩;have u:=u.p1.enc (cs':=eA (ia lsv) (ug 0)) rfl;rw[<- hlv]at u |-;have ax7:lG l (ug 0):=⟨M5 _,by show(0:Int)<=_;omega⟩;have u:=(((((u.IW (α:=(List cJ))).p4).p4).p3).p4).p4
 refine⟨λmm w'=>∃(s0:fP) (J:SV) (xs0 a0:List (List cJ)),lG l s0/\nc l ZE (nk l true) mm s0=some (t1,a0)/\y1=xs0++a0/\St w bD [fT (ia J) xs0,bY Qy (j0 (⟨J,bX,bX,bX,bX,bX⟩:bP)),bY p (eA lv s0),bH lv l,bY wh (j0 (⟨bX,bX,bX,bX,bX,bX⟩:bP))] w',⟨10000,ug 0,bX,[],y1,ax7,Z.h1,rfl,u⟩,?_⟩;rintro mm _ ⟨s0,J,xs0,a0,hi0,ME,hy0,u⟩ _;obtain⟨m0,rfl⟩:=sS ME;refine bF yC u.p2 (H':=λ_=>bY p (eA lv (iD l s0 (kp #[108,105,110,101])).1)) (Φ:=λv _=>v=.bool (iD l s0 (kp #[108,105,110,101])).2) (λG E B=>?_) ?_
 .exact C131 p lv l s0 (kp #[108,105,110,101]) G _ E (λw' hc=>(B w' hc).p2.dX) W hi0
 rintro _ _ rfl u;refine aY (λlq=>?_) (λlq=>?_)
 .obtain⟨q0,z0,b0,yS,Vo,rfl⟩:=xH ME lq;refine aA gw (have u:=u.drew;aB (v:=ia (J:SV)) oO u.p2.hb rfl (bF Rc u (H':=λv=>sep (bY p (eA lv q0)) (bH v z0)) (Φ:=λ_ _=>True) (λG E B=>?_) ?_))
  .exact(C132 p lv l (iD l s0 (kp #[108,105,110,101])).1 true q0 z0 G _ E (λw' hc=>(B w' hc).p2.dX) W (kz hi0) yS).mono λ_ _ r=>r.mono λ_ _ h=>⟨trivial,h⟩
  rintro x31 _ _ u;have u:=u.split;refine⟨aF oO (u.p3.hb.cell rfl),?_⟩;obtain⟨ZP,rfl⟩:=u.p1.fI;have u:=u.p1.freeze.dM (Ψ:=λw=>mG w ZP z0) (λ_ h=>DL.j1 h);refine gg (s:=ZP) (x:=z0) u pG ee (λaqr _ u=>?_);refine⟨aF oO (u.p3.hb.cell rfl),?_⟩;have u:=u.p2;refine gh u pG (by have h1:=gN List.length hy0;have h2:=Z.b1;simp at h1 |-;omega) ee (λs_x33 _ u=>aA gw ?_);obtain⟨ZQ,rfl⟩:=u.oX;exact aT u.p2 oO (dL rfl) (rfl) (λ_ u=>have u:=((((u.enc (cs':=j0 (⟨ZQ,bX,bX,bX,bX,bX⟩:bP)) rfl).p4).p4).p4).p3;have u:=u.p4;⟨_,cK,q0,ZQ,xs0++[z0],b0,ym (kz hi0) yS,Vo,by rw[hy0,n3];rfl,u⟩)
 obtain⟨O,rfl⟩:=uZ ME lq;replace O:=O.symm;subst O;rw[o6]at hy0;subst hy0;rw[xG lq]at u;have u:=((((((u.eM (α:=cJ)).p5).p5).p3).p5).p5).p5;refine⟨λmm w'=>∃(s1:fP) (M:SV) (xs1 a1:List (List cJ)),lG l s1/\nc l akg (nk l true) mm s1=some (t2,a1)/\y2=xs1++a1/\St w bD [bH (ia M) xs1.flatten,fT (ia J) y1,bY Qy (j0 (⟨J,M,bX,bX,bX,bX⟩:bP)),bY p (eA lv s1),bH lv l,bY wh (j0 (⟨bX,bX,bX,bX,bX,bX⟩:bP))] w',⟨10000,s0,bX,[],y2,hi0,Z.h2,rfl,u⟩,?_⟩;rintro mm _ ⟨s1,M,xs1,a1,hi1,hm1,hy1,u⟩ _;obtain⟨m1,rfl⟩:=sS hm1
 refine bF yC u.p3 (H':=λ_=>bY p (eA lv (iD l s1 (kp #[118,111,108])).1)) (Φ:=λv _=>v=.bool (iD l s1 (kp #[118,111,108])).2) (λG E B=>?_) ?_
 .exact C131 p lv l s1 (kp #[118,111,108]) G _ E (λw' hc=>(B w' hc).p3.dX) W hi1
 rintro _ _ rfl u;refine aY (λCA=>?_) (λCA=>?_)
 .obtain⟨q1,z1,b1,VP,WT,rfl⟩:=xH hm1 CA;refine aA qc (have u:=u.drew;aB (v:=ia (M:SV)) jK u.p3.hb rfl (bF Rc u (H':=λv=>sep (bY p (eA lv q1)) (bH v z1)) (Φ:=λ_ _=>True) (λG E B=>?_) ?_))
  .exact(C132 p lv l (iD l s1 (kp #[118,111,108])).1 true q1 z1 G _ E (λw' hc=>(B w' hc).p3.dX) W (kz hi1) VP).mono λ_ _ r=>r.mono λ_ _ h=>⟨trivial,h⟩
  rintro x40 _ _ u;have u:=u.split;refine⟨aF jK (u.p4.hb.cell rfl),?_⟩;have akn:=u.p1.dX;refine bJ u.p2 il akn (by have:=Tb hy1;have:=Z.b2;omega) ee (λarl _ u=>have u:=u.p2.drop;aA qc ?_);obtain⟨Jf,rfl⟩:=u.fI;refine aT u.p3 jK (dL rfl) (rfl) (λ_ u=>?_);have u:=((((u.enc (cs':=j0 (⟨J,Jf,bX,bX,bX,bX⟩:bP)) rfl).p5).p5).p4).p3;have u:=u.p5.p5;rw[<- Bg]at u;exact⟨_,cK,q1,Jf,xs1++[z1],b1,ym (kz hi1) VP,WT,by rw[hy1,n3];rfl,u⟩
 obtain⟨O,rfl⟩:=uZ hm1 CA;replace O:=O.symm;subst O;rw[o6]at hy1;subst hy1;rw[xG CA]at u;have u:=(((((((u.eM (α:=cJ)).p6).p6).p3).p6).p5).p6).p6;refine⟨λmm w'=>∃(s2:fP) (V:SV) (xs2 a2:List (List cJ)),lG l s2/\nc l ZF (nk l false) mm s2=some (t3,a2)/\y3=xs2++a2/\St w bD [bH (ia V) xs2.flatten,fT (ia J) y1,bH (ia M) y2.flatten,bY Qy (j0 (⟨J,M,V,bX,bX,bX⟩:bP)),bY p (eA lv s2),bH lv l,bY wh (j0 (⟨bX,bX,bX,bX,bX,bX⟩:bP))] w',⟨10000,s1,bX,[],y3,hi1,Z.h3,rfl,u⟩,?_⟩;rintro mm _ ⟨s2,V,xs2,a2,Vq,hm2,hy2,u⟩ _
 obtain⟨m2,rfl⟩:=sS hm2;refine bF yC u.p4 (H':=λ_=>bY p (eA lv (iD l s2 (kp #[108,111,99,107])).1)) (Φ:=λv _=>v=.bool (iD l s2 (kp #[108,111,99,107])).2) (λG E B=>?_) ?_
 .exact C131 p lv l s2 (kp #[108,111,99,107]) G _ E (λw' hc=>(B w' hc).p4.dX) W Vq
 rintro _ _ rfl u;refine aY (λAP=>?_) (λAP=>?_)
 .obtain⟨q2,z2,b2,Vy,hn2,rfl⟩:=xH hm2 AP;refine aA nP (have u:=u.drew;aB (v:=ia (V:SV)) jK u.p4.hb rfl (bF Rc u (H':=λv=>sep (bY p (eA lv q2)) (bH v z2)) (Φ:=λ_ _=>True) (λG E B=>?_) ?_))
  .exact(C132 p lv l (iD l s2 (kp #[108,111,99,107])).1 false q2 z2 G _ E (λw' hc=>(B w' hc).p4.dX) W (kz Vq) Vy).mono λ_ _ r=>r.mono λ_ _ h=>⟨trivial,h⟩
  rintro x48 _ _ u;have u:=u.split;refine⟨aF jK (u.p5.hb.cell rfl),?_⟩;have Qz:=u.p1.dX;refine bJ u.p2 il Qz (by have:=Tb hy2;have:=Z.b3;omega) ee (λs_x49 _ u=>have u:=u.p2.drop;aA nP ?_);obtain⟨ZR,rfl⟩:=u.fI;refine aT u.p4 jK (dL rfl) (rfl) (λ_ u=>?_);have u:=((((u.enc (cs':=j0 (⟨J,M,ZR,bX,bX,bX⟩:bP)) rfl).p6).p6).p4).p3;have u:=u.p6.p6.p6;rw[<- Bg]at u;exact⟨_,cK,q2,ZR,xs2++[z2],b2,ym (kz Vq) Vy,hn2,by rw[hy2,n3];rfl,u⟩
 obtain⟨O,rfl⟩:=uZ hm2 AP;replace O:=O.symm;subst O;rw[o6]at hy2;subst hy2;rw[xG AP]at u;have u:=((((((((u.IW (α:=cN)).p7).p7).p3).p7).p5).p7).p7).p7;refine⟨λmm w'=>∃(I:fP) (v3:SV) (xs3 a3:List cN),lG l I/\nc l JO (akh l) mm I=some (t4,a3)/\y4=xs3++a3/\St w bD [fT (ia v3) xs3,fT (ia J) y1,bH (ia M) y2.flatten,bH (ia V) y3.flatten,bY Qy (j0 (⟨J,M,V,v3,bX,bX⟩:bP)),bY p (eA lv I),bH lv l,bY wh (j0 (⟨bX,bX,bX,bX,bX,bX⟩:bP))] w',⟨10000,s2,bX,[],y4,Vq,Z.h4,rfl,u⟩,?_⟩;rintro mm _ ⟨I,v3,xs3,a3,Y,hm3,hy3,u⟩ _
 obtain⟨m3,rfl⟩:=sS hm3;refine bF yC u.p5 (H':=λ_=>bY p (eA lv (iD l I (kp #[116,104,114,101,97,100])).1)) (Φ:=λv _=>v=.bool (iD l I (kp #[116,104,114,101,97,100])).2) (λG E B=>?_) ?_
 .exact C131 p lv l I (kp #[116,104,114,101,97,100]) G _ E (λw' hc=>(B w' hc).p5.dX) W Y
 rintro _ _ rfl u;refine aY (λuP=>?_) (λuP=>?_)
 .obtain⟨q3,z3,b3,hd3,hn3,rfl⟩:=xH hm3 uP;refine bF afl u (H':=λ_=>bY p (eA lv (fa l (iD l I (kp #[116,104,114,101,97,100])).1).1)) (Φ:=λv _=>v=ia (fa l (iD l I (kp #[116,104,114,101,97,100])).1).2) (λG E B=>?_) ?_
  .exact C133 p lv l (iD l I (kp #[116,104,114,101,97,100])).1 G _ E (λw' hc=>(B w' hc).p5.dX) W (kz Y)
  rintro _ _ rfl u;refine aM u oT (λb_c10 _ u=>aJ (x:=(fa l (iD l I (kp #[116,104,114,101,97,100])).1).2) u l9 rfl rfl λ_ u=>aA kF (have u:=u.drew;aB (v:=ia (v3:SV)) ix u.p6.hb rfl (aA kP (aB (v:=.string (((fa l (iD l I (kp #[116,104,114,101,97,100])).1).2).name)) gv u.hb rfl (aA uB (aB (v:=hZ (((fa l (iD l I (kp #[116,104,114,101,97,100])).1).2).at_)) bL u.hb rfl (pop (OD _ _) (bF afm u.p1 (H':=λv=>pH λsh:cG=>fact (v=ia sh) (sep (bY p (eA lv q3)) (eG λw=>mG w sh z3))) (Φ:=λ_ _=>True) (λG E B=>?_) ?_))))))))
  .exact(C134 p lv l (fa l (iD l I (kp #[116,104,114,101,97,100])).1).1 ((fa l (iD l I (kp #[116,104,114,101,97,100])).1).2).name ((fa l (iD l I (kp #[116,104,114,101,97,100])).1).2).at_ q3 z3 G _ E (λw' hc=>(B w' hc).p6.dX) W (uY (kz Y)) hd3).mono λ_ _ r=>r.mono λ_ _ h=>⟨trivial,h⟩
  rintro v_x63 _ _ xp;obtain⟨akp,yW⟩:=xp.eh
  clear xp
  obtain⟨akq,DH⟩:=yW.mw
  clear yW
  subst akq;have u:=DH.split
  clear DH
  refine⟨aF ix (u.p7.hb.cell rfl),?_⟩;have u:=u.p1;refine gg (s:=akp) (x:=z3) u fu ee (λarn _ u=>?_);refine⟨aF ix (u.p7.hb.cell rfl),?_⟩;have u:=u.p3;refine gh u fu (by have h1:=gN List.length hy3;have h2:=Z.b4;simp at h1 |-;omega) ee (λaro _ u=>aA kF ?_);obtain⟨ZS,rfl⟩:=u.oX;exact aT u.p6 ix (dL rfl) (rfl) (λ_ u=>have u:=((((u.enc (cs':=j0 (⟨J,M,V,ZS,bX,bX⟩:bP)) rfl).p3).drop).p7).p7;have u:=u.p4.p3.p7.p7.p7.p7;⟨_,cK,q3,ZS,xs3++[z3],b3,FK (uY (kz Y)) hd3,hn3,by rw[hy3,n3];rfl,u⟩)
 obtain⟨O,rfl⟩:=uZ hm3 uP;replace O:=O.symm;subst O;rw[o6]at hy3;subst hy3;rw[xG uP]at u;refine⟨λw'=>∃v4:SV,St w bD [fT (ia v4) y5,fT (ia J) y1,bH (ia M) y2.flatten,bH (ia V) y3.flatten,fT (ia v3) y4,bY Qy (j0 (⟨J,M,V,v3,v4,bX⟩:bP)),bY p (eA lv t5),bH lv l,bY wh (j0 (⟨bX,bX,bX,bX,bX,bX⟩:bP))] w',?_,?_⟩
 .refine bF yC u (H':=λ_=>bY p (eA lv (iD l I (kp #[114,101,99,111,118,101,114])).1)) (Φ:=λv _=>v=.bool (iD l I (kp #[114,101,99,111,118,101,114])).2) (λG E B=>?_) ?_
  .exact C131 p lv l I (kp #[114,101,99,111,118,101,114]) G _ E (λw' hc=>(B w' hc).p5.dX) W Y
  rintro _ _ rfl u;refine aY (λNu=>?_) (λNu=>?_)
  .obtain⟨z4,hd4,hy5⟩:=Nt Z.h5 Nu;obtain⟨ayb,_,hlo68,hhi68⟩:=ZG Nu;have hat68:(iD l I (kp #[114,101,99,111,118,101,114])).1.at_=I.at_+1:=by rw[ayb]
   refine aA oP (have u:=u.drew;aB (v:=ia (bX:SV)) ix u.p5.hb rfl (aE (aA fw (aB bL u.hb rfl (fg cK ?_)))));obtain⟨ZT,ZU⟩:=gx l (i:=(((iD l I (kp #[114,101,99,111,118,101,114])).1).at_-1).toNat) cK;refine dR u.p6 fK cK cK (λ_ Nh=>my lL Nh λ_ arp=>nF ZT.at_ u.p6 bL arp ZU rfl (pop (Wm _) ?_));have hbk:zQ l (iD l I (kp #[114,101,99,111,118,101,114])).1=ZT.at_:=gN bT.at_ (Bf cK ZU);rw[hbk]at hd4;refine bF afm u (H':=λv=>pH λsh:cG=>fact (v=ia sh) (sep (bY p (eA lv t5)) (eG λw=>mG w sh z4))) (Φ:=λ_ _=>True) (λG E B=>?_) ?_
   .exact(C134 p lv l (iD l I (kp #[114,101,99,111,118,101,114])).1 (kp #[]) ZT.at_ t5 z4 G _ E (λw' hc=>(B w' hc).p5.dX) W (kz Y) hd4).mono λ_ _ r=>r.mono λ_ _ h=>⟨trivial,h⟩
   rintro v_x82 _ _ xp;obtain⟨akr,yW⟩:=xp.eh
   clear xp
   obtain⟨aks,DH⟩:=yW.mw
   clear yW
   subst aks;have u:=DH.split
   clear DH
   refine⟨aF ix (u.p6.hb.cell rfl),?_⟩;have u:=u.p1;refine gg (s:=akr) (x:=z4) u fu ee (λagy _ u=>?_);refine⟨aF ix (u.p6.hb.cell rfl),?_⟩;have u:=((u.IW (α:=cN)).p1).p1;refine gh u fu ei ee (λapH _ u=>aA oP ?_);obtain⟨ZV,rfl⟩:=u.oX;refine aT u.p6 ix (dL rfl) (rfl) (λ_ u=>?_);have u:=(((((u.enc (cs':=j0 (⟨J,M,V,v3,ZV,bX⟩:bP)) rfl).p8).p8).p4).p3).p5;have u:=u.p8.p8.p8.p8;rw[hy5];exact⟨ZV,u⟩
  rw[xG Nu]at u;have u:=(((((((((u.IW (α:=cN)).p8).p8).p3).p8).p5).p8).p8).p8).p8;obtain⟨e5,e6⟩:=Ta Z.h5 Nu;rw[e5,e6];exact⟨bX,u⟩
 rintro _ ⟨v4,u⟩ _;have u:=((((((((((u.IW (α:=gP)).p9).p9).p9).p9).p5).p9).p9).p9).p9).p9;refine⟨λmm w'=>∃(U:fP) (v5:SV) (xs5 a5:List gP),lG l U/\nc l JP (λs=>xF l s (zQ l s)) mm U=some (t6,a5)/\y6=xs5++a5/\St w bD [fT (ia v5) xs5,fT (ia J) y1,bH (ia M) y2.flatten,bH (ia V) y3.flatten,fT (ia v3) y4,fT (ia v4) y5,bY Qy (j0 (⟨J,M,V,v3,v4,v5⟩:bP)),bY p (eA lv U),bH lv l,bY wh (j0 (⟨bX,bX,bX,bX,bX,bX⟩:bP))] w',⟨10000,t5,bX,[],y6,(aen Y Z.h5),Z.h6,rfl,u⟩,?_⟩;rintro mm _ ⟨U,v5,xs5,a5,hi5,hm5,hy5,u⟩ _
 obtain⟨m5,rfl⟩:=sS hm5;refine bF yC u.p7 (H':=λ_=>bY p (eA lv (iD l U (kp #[97,108,119,97,121,115])).1)) (Φ:=λv _=>v=.bool (iD l U (kp #[97,108,119,97,121,115])).2) (λG E B=>?_) ?_
 .exact C131 p lv l U (kp #[97,108,119,97,121,115]) G _ E (λw' hc=>(B w' hc).p7.dX) W hi5
 rintro _ _ rfl u;refine aY (λNv=>?_) (λNv=>?_)
 .obtain⟨q5,z5,b5,hd5,Dx,rfl⟩:=xH hm5 Nv;obtain⟨aye,_,hlo87,hhi87⟩:=ZG Nv;have hat87:(iD l U (kp #[97,108,119,97,121,115])).1.at_=U.at_+1:=by rw[aye]
  refine aA jt (have u:=u.drew;aB (v:=ia (v5:SV)) qP u.p7.hb rfl (aE (aA fw (aB bL u.hb rfl (fg cK ?_)))));obtain⟨ZW,ZX⟩:=gx l (i:=(((iD l U (kp #[97,108,119,97,121,115])).1).at_-1).toNat) cK;refine dR u.p8 fK cK cK (λ_ ars=>my lL ars λ_ art=>nF ZW.at_ u.p8 bL art ZX rfl ?_);have hbk:zQ l (iD l U (kp #[97,108,119,97,121,115])).1=ZW.at_:=gN bT.at_ (Bf cK ZX);rw[hbk]at hd5;refine bF amz u (H':=λv=>pH λsh:jy=>fact (v=ia sh) (sep (bY p (eA lv q5)) (eG λw=>mG w sh z5))) (Φ:=λ_ _=>True) (λG E B=>?_) ?_
  .exact(C135 p lv l (iD l U (kp #[97,108,119,97,121,115])).1 ZW.at_ q5 z5 G _ E (λw' hc=>(B w' hc).p7.dX) W (kz hi5) hd5).mono λ_ _ r=>r.mono λ_ _ h=>⟨trivial,h⟩
  rintro ayf _ _ xp;obtain⟨aeo,yW⟩:=xp.eh
  clear xp
  obtain⟨aep,DH⟩:=yW.mw
  clear yW
  subst aep;have u:=DH.split
  clear DH
  refine⟨aF qP (u.p8.hb.cell rfl),?_⟩;have u:=u.p1;refine gg (s:=aeo) (x:=z5) u sY ee (λajB _ u=>?_);refine⟨aF qP (u.p8.hb.cell rfl),?_⟩;have u:=u.p2;refine gh u sY (by have h1:=gN List.length hy5;have h2:=Z.b6;simp at h1 |-;omega) ee (λajC _ u=>aA jt ?_);obtain⟨Tc,rfl⟩:=u.oX;exact aT u.p7 qP (dL rfl) (rfl) (λ_ u=>have u:=(((((u.enc (cs':=j0 (⟨J,M,V,v3,v4,Tc⟩:bP)) rfl).p9).p9).p4).p3).p9;have u:=u.p9.p9.p9.p9.p9;⟨_,cK,q5,Tc,xs5++[z5],b5,UE (kz hi5) hd5,Dx,by rw[hy5,n3];rfl,u⟩)
 obtain⟨O,rfl⟩:=uZ hm5 Nv;replace O:=O.symm;subst O;rw[o6]at hy5;subst hy5;rw[xG Nv]at u;obtain⟨hi50,hi51⟩:=id hi5;refine⟨λw'=>St w bD [fT (ia v5) y6,fT (ia J) y1,bH (ia M) y2.flatten,bH (ia V) y3.flatten,fT (ia v3) y4,fT (ia v4) y5,bY Qy (j0 (⟨J,M,V,v3,v4,v5⟩:bP)),bY p (eA lv (Gu l U)),bH lv l,bY wh (j0 (⟨bX,bX,bX,bX,bX,bX⟩:bP))] w',aE (aA fw (aB bL u.hb rfl (aK fK u.p8.dX (aR (aC (λQA=>?_) λQA=>?_))))),?_⟩
 .refine bF Rd u (H':=λ_=>bY p (eA lv (jz l U 5))) (Φ:=λ_ _=>True) (λG E B=>?_) ?_
  .exact(C136 p lv l U G _ E (λw' hc=>(B w' hc).p7.dX) W hi5).mono λ_ _ r=>r.mono λ_ _ h=>⟨trivial,h.2⟩
  rintro _ _ _ u;have u:=u.p9.p9.p2.p9.p9.p9.p9.p9.p9.p9;have he6:Gu l U=jz l U 5:=ew QA;rw[he6];exact u
 .have u:=u.p9.p9.p2.p9.p9.p9.p9.p9.p9.p9;have he6:Gu l U=U:=ej QA;rw[he6];exact u
 intro _ u _;refine aE (aA mr (aB jL u.p7.hb rfl (bW (aC (λQB=>?_) λQB=>?_))))
 .refine pop (v:=ia (⟨bX,bX,bX,bX,bX,bX⟩:bP)) (by kernel_rfl) (aE (aA mr (have u:=u.drew;aB jL u.p7.hb rfl (aE (aA wL (aB bL u.p7.hb rfl (aJ (x:=(⟨bX,bX,bX,bX,bX,bX⟩:bP)) u.p9 et rfl rfl λ_ u=>?_)))))));refine⟨aF jL (u.p8.hb.cell rfl),?_⟩;refine⟨aF bL (u.p8.hb.cell rfl),?_⟩;refine aD et u.At ?_;have u:=u.fy (Φ:=(λw=>mG w (⟨bX,bX,bX,bX,bX,bX⟩:bP) (⟨[],[],[],[],[],[]⟩:cE))) (λ_=>⟨_,_,_,_,_,_,rfl,DL.nil _,DL.nil _,DL.nil _,DL.nil _,DL.nil _,DL.nil _⟩);have u:=u.p1.drop.p1.drop.p1.drop.p1.drop.p1.drop.p1.drop.p1.drop.p1.drop.p1.drop
  have u:=u.p1.drop;rw[Z.bad QB];exact⟨_,rfl,u.fresh⟩
 refine aD et u.p6.At (aJ (x:=(⟨J,M,V,v3,v4,v5⟩:bP)) u.p9 et rfl rfl λ_ u=>aD et u.At ?_);have u:=u.p2.mV.p3.freeze.p1.gZ.p3.freeze.p1.gZ.p3.mV.p1.gZ.p3.mV.p1.gZ;have u:=u.p2.mV.p1.gZ.dM (Ψ:=(λw=>mG w (⟨J,M,V,v3,v4,v5⟩:bP) (⟨y1,y2.flatten,y3.flatten,y4,y5,y6⟩:cE))) (λ_ h=>⟨_,_,_,_,_,_,rfl,h.1.1.1.1.1,DL.j1 h.1.1.1.1.2,DL.j1 h.1.1.1.2,h.1.1.2,h.1.2,h.2⟩);have u:=u.p1.drop.p1.drop.p1.drop.p1.drop;rw[Z.ax2 QB];exact⟨_,rfl,u.fresh⟩
theorem Nw{l:List Int}{k:Nat}(u:0<k)(h:k<=l.length):fU (l.take k)=l.getD (k-1) 0+1:=by
 grind[fU]
def DI{f:Int->List km}{a k:Int}{xs:List km}{x:km}(h:x∈pM f a xs k):x∈xs\/x∈f k:=by
 unfold pM at h;grind
def HV{m:Mem}{c n:Int}(h:wq m):wq (fk m c n):=by
 unfold fk
 split
 .rename_i tj
  unfold Gp at tj;rw[decide_eq_true_eq]at tj
  refine⟨h.MD,h.fl,by show(m.l.set _ _).length=_;rw[FE];exact h.ll,h.kl,h.ofr,h.lb,λk x u=>?_⟩
  dsimp only at u
  split at u
  .rename_i hc
   rcases DI u with h1|h1
   .rw[pI]at h1
    rcases h1 with h1|h1
    .exact h.pc _ x h1
    grind
   exact h.pc _ x h1
  exact h.pc _ x u
 exact h
def aeq{m:Mem}{c:Int}(h:wq m):wq (n7 m c):=by
 unfold n7
 split
 .refine⟨h.MD,h.fl,h.ll,by show(nM _ _).length=_;rw[xt];exact h.kl,h.ofr,h.lb,λk x u=>?_⟩
  rcases DI u with h1|h1
  .cases h1
  exact h.pc _ x h1
 exact h
def UK{m:Mem}{cut u:List Int}(h:fB m cut=some u):u.length=m.kept.length:=by
 unfold fB at h;split at h
 .cases h;exact pa _ _ _
 cases h
def UL{m:Mem}{cut u:List Int}(h:wq m)(hi:fB m cut=some u):wq (mH m u):=by
 have h1:=UK hi
 have h2:=h.kl;have h3:=h.MD
 refine⟨h.MD,h.fl,?_,?_,h.ofr,h.lb,λk x B=>by cases B⟩
 .show(u++m.dV.drop u.length).length=m.dV.length
  rw[lY,List.length_drop];omega
 show u.length=m.of.length;omega
section
def HW{u:Mem}{x:bI}(h:wq u):wq (jT u x)/\(jT u x).of=u.of/\(jT u x).dV=u.dV:=by
 unfold jT
 split
 .exact⟨HV h,Hy _ _ _,ub _ _ _⟩
 split
 .grind
 exact⟨aeq h,adW _ _,MI _ _⟩
end
def MB.mono{B:Mem}{a b:Nat}(h:MB B a)(u:a<=b):MB B b:=λk=>Nat.le_trans (h k) u
def MB.write{u:Mem}{c x:Int}{n:Nat}(h:MB u n):MB (fk u c x) (n+1):=by
 intro k
 unfold fk
 split
 .dsimp only
  split
  .unfold pM
   split
   .rw[lY,mf];have:=h (u.of.getD c.toNat 0);omega
   have:=h k;omega
  have:=h k;omega
 have:=h k;omega
theorem MB.out{u:Mem}{c:Int}{n:Nat}(h:MB u n):MB (n7 u c) n:=by
 intro k
 unfold n7
 split
 .dsimp only
  unfold pM
  split
  .simp
  exact h k
 exact h k
theorem MB.jT{u:Mem}{x:bI}{n:Nat}(h:MB u n):MB (jT u x) (n+1):=by
 unfold Go.Proofs.YtpdlpabnlkofmaaGreatDoor.jT
 split
 .exact h.write
 split
 .exact h.mono (I7 n)
 exact h.out.mono (I7 n)
theorem akt{α:Type}{g:α->Bool}{l:List α}(h:0<=sj g l):sj g l<l.length:=by
 unfold sj at h |-
 cases hf:l.findIdx? g with
 | none=>grind
 | some k=>
  have:=(List.findIdx?_eq_some_iff_getElem.1 hf).1
  grind
def ZY{ns:List ByteArray}{s:ByteArray}(h:0<=cU ns s):cU ns s<ns.length:=akt h
theorem Ex.aru(ns:List ByteArray)(t:Ex):t.wf->∀n h:Int,0<=n->∃M,(t.steps ns).foldl Vk (some (n,h))=some (n+1,M):=by
 induction t with
 | leaf x=>
  intro B n h G
  have u:kids x.op=0:=B
  have E:eC x.op=0:=by
   unfold kids at u
   unfold eC
   omega
  simp_all[Vk,steps]
 | un x a U=>
  intro B n h G
  have u:kids x.op=1:=B.1
  have E:eC x.op=1:=by
   unfold kids at u
   unfold eC
   omega
  obtain⟨h1,O⟩:=U B.2 n h G
  simp_all[Vk,steps]
 | bin x a b J I=>
  intro B n h G
  have u:kids x.op=2:=B.1
  have E:eC x.op=2:=by
   unfold kids at u
   unfold eC
   omega
  obtain⟨h1,O⟩:=J B.2.1 n h G
  obtain⟨h2,V⟩:=I B.2.2 (n+1) h1 cK
  refine⟨max h2 (n+1),?_⟩
  grind[Vk,steps]
def JQ{k:Int}(h:kids k=0\/kids k=1\/kids k=2):1<=k/\k<=15:=by
 unfold kids at h
 omega
theorem Ex.UM(ns:List ByteArray)(t:Ex):t.wf->∀o∈t.steps ns,∃x∈t.flat,o=⟨x.op,numOf ns x⟩/\1<=x.op/\x.op<=15:=by
 induction t with
 | leaf x=>intro B o u;exact⟨x,by simp[Ex.flat],by simpa[Ex.steps]using u,JQ (.inl B)⟩
 | un x a I=>
  intro B o u
  have u:o∈a.steps ns++[⟨x.op,numOf ns x⟩]:=u
  rw[pI]at u
  rcases u with u|u
  .obtain⟨y,h1,h2⟩:=I B.2 o u;exact⟨y,by simp[Ex.flat,h1],h2⟩
  .exact⟨x,by simp[Ex.flat],dD,JQ (.inr (.inl B.1))⟩
 | bin x a b G E=>
  intro B o u
  have u:o∈a.steps ns++b.steps ns++[⟨x.op,numOf ns x⟩]:=u
  rw[pI,pI]at u
  rcases u with(u|u)|u
  .obtain⟨y,h1,h2⟩:=G B.2.1 o u;exact⟨y,by simp[Ex.flat,h1],h2⟩
  .obtain⟨y,h1,h2⟩:=E B.2.2 o u;exact⟨y,by simp[Ex.flat,h1],h2⟩
  .exact⟨x,by simp[Ex.flat],dD,JQ (.inr (.inr B.1))⟩
def Nx{ns:List ByteArray}{l:List cA}{many:Int}(E:fz l=true)(G:o8 l ns=false)(hm:many=ns.length):mz (qx ns l) many=true/\(qx ns l).length<=40:=by
 have CS:=E
 unfold fz at E
 simp only[n5,sk,decide_eq_true_eq,zJ]at E
 obtain⟨⟨⟨h1,h2⟩,h3⟩,h4⟩:=E
 obtain⟨t,U⟩:=Option.isSome_iff_exists.1 h2
 obtain⟨M,O⟩:=vn U
 have W:=G
 unfold o8 at G
 have he:kV ns l=0:=by grind[kV]
 have V:qx ns l=t.steps ns:=by unfold qx;rw[ew he];unfold BS;rw[U]
 rw[V]
 have hlen:(t.steps ns).length<=40:=by rw[Ex.pK,<- Ex.cY,<- O];exact h1
 obtain⟨h',e'⟩:=t.aru ns M 0 0 (M5 _)
 have Y:ht (t.steps ns)=some (1,h'):=by unfold ht;grind
 refine⟨?_,hlen⟩
 unfold mz htN
 rw[Y]
 simp only[Option.isSome_some,decide_true,Bool.and_true,n5,decide_eq_true_eq,sk,zJ]
 refine⟨hlen,λo Z=>?_⟩
 obtain⟨x,I,rfl,Q8,xf⟩:=t.UM ns M o Z
 rw[<- O]at I
 have u:=h3 x I
 unfold lh at u
 simp only[Bool.or_eq_true,decide_eq_true_eq,not_or,n5,sk,not_and,Bool.not_eq_false]at u
 obtain⟨⟨⟨⟨g1,g2⟩,g3⟩,g4⟩,g5⟩:=u
 have hn:Ex.numOf ns x=if x.op=2 then cU ns x.name else x.n:=rfl
 unfold q7
 simp only[decide_eq_true_eq]
 rintro(⟨B,J⟩|⟨B,J⟩|⟨B,J,q3⟩)
 .omega
 .have B:x.op=2:=B
  rw[hn,ew B]at J
  rw[zJ]at G
  have:=G x I
  simp only[n5,decide_eq_true_eq,not_and]at this
  have h5:=this B
  have h6:=ZY (ns:=ns) (s:=x.name) cK
  omega
 omega
theorem vE:∀(ls:List (List cJ)) (i a:Int),0<=a->(∀l∈ls,l≠[])->i<=jq ls i a/\(∀b,a<=b->jq ls i a<=jq ls i b)/\(jq ls i (a+1)=jq ls i a\/jq ls i (a+1)=jq ls i a+1)
 | [],i,a,B,_=>⟨by unfold jq;omega,λb hb=>by unfold jq;omega,by unfold jq;omega⟩
 | l::r,i,a,B,hl=>by
  have G:0<l.length:=List.length_pos_iff.2 (hl l (oD ..))
  have u:=λl E=>hl l (qb _ E)
  unfold jq
  by_cases h1:a<l.length
  .rw[ew h1]
   refine⟨M5 _,λb hb=>?_,?_⟩
   .split
    .omega
    .have:=(vE r (i+1) (b-l.length) cK u).1;omega
   .split
    .omega
    .have e:a+1-(l.length:Int)=0:=cK
     rw[e]
     cases r with
     | nil=>unfold jq;omega
     | cons M O=>
      simp_all[jq]
  .rw[ej h1]
   obtain⟨J,U,I⟩:=vE r (i+1) (a-l.length) cK u
   grind
section
variable {p:cE}
theorem qL(p:cE):0<=ey p/\ey p<=(im p).length:=by grind[ey,im]
theorem Ny{c:Int}(h:0<=c/\c<(im p).length):py p c=jq p.lines 0 c:=by unfold py;omega
end
section
variable {m:gR}{t:jY}{i:Int}{x:bQ}{p:cE}
theorem ZZ:(ea m t i x).1.l=m.l:=by
 unfold ea rI pB;grind
theorem Cl:(ea m t i x).1.room=m.room:=by
 unfold ea rI pB;grind
theorem aku:(ea m t i x).1.p=m.p:=by
 unfold ea rI pB;grind
theorem Cm:(ea m t i x).2.1.cD=t.cD:=by
 unfold ea pe pW;grind
theorem vF:(ea m t i x).2.1.names=t.names:=by
 unfold ea pe pW;grind
theorem UN{room:Int}{l:List bI}{y:bI}:(sG room l y).length<=l.length\/((sG room l y).length:Int)<=room:=by
 grind[sG]
theorem JR{φ:bQ->Prop}(h:sK φ t)(B:m.room<=16):sK φ (ea m t i x).2.1:=by
 have h1:=h.p;have h2:=h.rl;have h3:=h.nb;have h4:=h.bl;have h5:=h.cl
 have u:∀y,sK φ (pW m t y):=λy=>by
  have h6:=UN (room:=m.room) (l:=t.buf) (y:=y)
  exact⟨h1,h2,h3,by show(sG m.room t.buf y).length<=1000;omega,h5⟩
 unfold ea;repeat' split
 all_goals first
  | exact h
  | exact h.set _ _
  | exact u _
theorem Z0(h:wq m.mem):wq (ea m t i x).1.mem/\(ea m t i x).1.mem.of=m.mem.of/\(ea m t i x).1.mem.dV=m.mem.dV:=by
 unfold ea rI pB;repeat' split
 all_goals first
  | exact⟨h,rfl,rfl⟩
  | exact⟨HV h,Hy _ _ _,ub _ _ _⟩
theorem aer{n:Nat}(h:MB m.mem n):MB (ea m t i x).1.mem (n+1):=by
 unfold ea rI pB;repeat' split
 all_goals first
  | exact h.mono (I7 n)
  | exact h.write
theorem aes:(ea m t i x).1.eS.length=m.eS.length:=by
 unfold ea rI pB;grind
theorem JS{φ:bQ->Prop}(h:sK φ t):sK φ {t with cD:=gA t.cD}:=by
 refine h.cD h.p.pop ?_
 match hp:t.cD with
 | []=>exact o1 _
 | (.nil,_)::q=>grind[gU,gA]
 | (.cons y a b r,e)::q=>have:=PU (p:=(.cons y a b r,e)::q) rfl;omega
theorem Nz{cs ls:List ByteArray}(h:yh cs ls t):Zj (goD t):=λu=>SB _ (qI h).1 h u
theorem UO(u:oJ m)(ht:t∈m.l):yh (cT m.p) (cM m.p) (ud m t i x)/\Zj (ud m t i x)/\(ud m t i x).names=t.names:=by
 have h1:sK (Ul (cT m.p) (cM m.p) t.names) { (ea m t i x).2.1 with cD:=gA (ea m t i x).2.1.cD}:=JS (JR (u.th t ht) u.rm.2)
 have h2:yh (cT m.p) (cM m.p) { (ea m t i x).2.1 with cD:=gA (ea m t i x).2.1.cD}:=by
  show sK (Ul _ _ (ea m t i x).2.1.names) _
  rw[vF];exact h1
 exact⟨(qI h2).2.1,Nz h2,(qI h2).2.2.trans vF⟩
theorem u0{β:Type}{l:List β}{k:Nat}{a y:β}(h:y∈l.set k a):y=a\/y∈l:=(P5 h).symm
theorem Z1(u:oJ m):oJ (iv m i).1/\(iv m i).1.p=m.p/\(∀n,MB m.mem n->MB (iv m i).1.mem (n+1))/\(iv m i).1.l.length=m.l.length:=by
 unfold iv
 split
 .exact⟨u,rfl,λn h=>h.mono (I7 n),rfl⟩
 rename_i t ht
 have I:=kO ht
 split
 .exact⟨⟨u.mem,u.th,u.tl,u.ow,u.rm,u.st,u.pz⟩,rfl,λn h=>h.mono (I7 n),rfl⟩
 split
 .exact⟨u,rfl,λn h=>h.mono (I7 n),rfl⟩
 rename_i x _ _ _
 split
 .exact⟨⟨u.mem,u.th,u.tl,u.ow,u.rm,u.st,u.pz⟩,rfl,λn h=>h.mono (I7 n),rfl⟩
 obtain⟨G,J,_⟩:=UO (i:=i) (x:=x) u I
 have E:=aku (m:=m) (t:=t) (i:=i) (x:=x)
 refine⟨⟨(Z0 u.mem).1,λy B=>?_,by show(m.l.set _ _).length<=_;rw[FE];exact u.tl,?_,by show 1<=(ea m t i x).1.room/\_;rw[Cl];exact u.rm,λy B=>?_,?_⟩,E,λn h=>aer h,FE⟩
 .show yh (cT (ea m t i x).1.p) (cM (ea m t i x).1.p) y
  rw[E]
  rcases u0 B with rfl|B
  .exact G
  exact u.th y B
 .show(ea m t i x).1.eS.length=(cM (ea m t i x).1.p).length
  rw[aes,E];exact u.ow
 .rcases u0 B with rfl|B
  .exact J
  exact u.st y B
 show PZ (ea m t i x).1.p;rw[E];exact u.pz
theorem QC{l:List bI}{i:Int}:(jS l i).length<=l.length:=by
 grind[jS]
theorem aet{q:aS}(u:oJ m)(ht:m.l[q.t.toNat]?=some t):oJ (tg m t q)/\(∀n,MB m.mem n->MB (tg m t q).mem (n+1)):=by
 have E:=kO ht
 have h1:=u.th t E
 refine⟨⟨(HW u.mem).1,λy B=>?_,by show(m.l.set _ _).length<=_;rw[FE];exact u.tl,u.ow,u.rm,λy B=>?_,u.pz⟩,λn h=>h.jT⟩
 .rcases u0 B with rfl|B
  .have:=QC (l:=t.buf) (i:=q.i)
   exact⟨h1.p,h1.rl,h1.nb,by show(jS t.buf q.i).length<=1000;have:=h1.bl;omega,h1.cl⟩
  exact u.th y B
 rcases u0 B with rfl|B
 .exact u.st t E
 exact u.st y B
structure Gw(p:cE):Prop where
 f:PF p
 big:uO p=false
 w:∀t∈gl p,ri t.body=false
 tw:kx (fO p)=false
 u:∀t∈gl p,∀x∈t.body,m8 p t.dP x=false
theorem vG(h:fj p=0):Gw p:=by
 unfold fj at h
 split at h
 .cases h
 rename_i h1
 split at h
 .cases h
 rename_i h2
 split at h
 .cases h
 rename_i h3
 split at h
 .cases h
 rename_i h4
 split at h
 .cases h
 rename_i h5
 split at h
 .cases h
 rename_i h6
 simp only[Bool.not_eq_true,zJ]at h2 h3 h4 h6
 exact⟨qA dD,h2,λt ht=>dD,h4,λt ht x u=>dD⟩
theorem JT:∀(b:Bk) (n:Int),b.ok n=true->∀x∈b.flat,x.eu<=0\/x.kind=11
 | .nil,_,_,_,h=>by cases h
 | .cons y a b r,n,h,x,u=>by
  unfold Bk.ok at h
  simp only[n5]at h
  obtain⟨⟨⟨h1,h2⟩,h3⟩,h4⟩:=h
  unfold Bk.flat at u
  rcases sl.1 u with rfl|u
  .unfold Bk.yb at h1;grind
  .rcases pI.1 u with u|u
   .exact JT a _ h2 x u
   .rcases pI.1 u with u|u
    .exact JT b _ h3 x u
    .exact JT r _ h4 x u
theorem FL{l:List cA}(h:fz l=true):l.length<=40:=by
 unfold fz at h
 grind
theorem HX{l:List cA}(h:fz l=true):∀y∈l,y.name.size<=1000:=λy B=>by
 have u:lh y=false:=by
  unfold fz at h
  grind
 unfold lh gJ at u
 by_cases h2:y.op=2
 .grind
 .have:y.name=⟨#[]⟩:=dD
  rw[this];decide
theorem akv(hc:Gw p){t:cN}(ht:t∈gl p){x:bQ}(O:x∈t.body)(G:m7 x=true)(he:x.eu<=0\/x.kind=11):Ul (cT p) (cM p) t.dP x:=by
 have E:=hc.u t ht x O
 have Y:=Jb G
 have u:=ye G
 unfold m8 at E
 simp only[Iz,Bool.and_eq_false_iff,decide_eq_false_iff_not,u1]at E
 obtain⟨⟨⟨⟨⟨B,V⟩,Z⟩,W⟩,_⟩,_⟩:=E
 have M:x.e.length<=1000:=by
  rcases u.e with h|h
  .have:=FL h.2;omega
  grind
 have J:x.f.length<=1000:=by
  rcases u.f with h|h
  .have:=FL h.2;omega
  grind
 refine⟨u.kind,⟨M,J⟩,λh=>cK,λh=>cK,λh=>?_,λh=>cK,λh=>cK,?_,?_⟩
 rotate_left
 .rcases u.e with h|h
  .exact HX h.2
  grind
 .rcases u.f with h|h
  .exact HX h.2
  grind
 rcases B with B|B
 .exfalso
  have I:=u.eD
  rcases I with⟨_,h2⟩|⟨h1,_⟩
  .rw[B,Mt]at h2;cases h2
  have U:=u.kind
  rcases h with h|h|h<;>rw[h]at h1<;>exact absurd h1 ee
 omega
theorem u5:∀(b:Bk) (n:Int),1<=n->n<=64->mE b n=false->(∀x∈b.flat,x.kind=12->1<=x.n)->n.toNat*lX b<=128*b.len
 | .nil,n,_,_,_,_=>by simp[lX]
 | .cons y a b r,n,h1,h2,hw,G=>by
  rw[vu]at hw
  simp only[Iz,decide_eq_false_iff_not]at hw
  obtain⟨⟨M,u,I⟩,w4⟩:=hw
  have O:∀x∈a.flat,x.kind=12->1<=x.n:=λx E=>G x (by unfold Bk.flat;simp[E])
  have W:∀x∈b.flat,x.kind=12->1<=x.n:=λx E=>G x (by unfold Bk.flat;simp[E])
  have Y:∀x∈r.flat,x.kind=12->1<=x.n:=λx E=>G x (by unfold Bk.flat;simp[E])
  have ir:=u5 r n h1 h2 w4 Y
  rw[sJ]
  unfold Bk.len
  obtain⟨k,rfl⟩:=ND (show 0<=n by omega)
  rw[pQ]at ir |-
  by_cases B:y.kind=12
  .rw[ew B]
   have U:=G y (by unfold Bk.flat;grind) B
   unfold rh at M u
   rw[ew B]at M u
   obtain⟨j,V⟩:=ND (show 0<=y.n by omega)
   rw[V]at M u U
   rw[V,pQ]
   have J:(1:Int)<=(k:Int)*(j:Int):=by
    have:=Int.mul_le_mul (a:=1) (b:=1) (c:=(k:Int)) (d:=(j:Int)) h1 U cK cK
    omega
   have Z:=u5 a _ J cK u O
   grind
  .rw[ej B]
   unfold rh at u I
   rw[ej B]at u I
   have Z:=u5 a k h1 h2 u O
   have ib:=u5 b k h1 h2 I W
   grind
theorem NA{b:Bk}(h:b.str):HG b.flat=b:=by unfold HG;rw[rN h];rfl
theorem DJ(hc:Gw p){t:cN}(ht:t∈gl p):yh (cT p) (cM p) (wj t):=by
 obtain⟨_,h2,_⟩:=hc.f.qR ht
 obtain⟨h3,h4,b,h5,h6,M,_⟩:=lu h2
 have hb:HG t.body=b:=by rw[h5];exact NA h6
 have U:C2 (Ul (cT p) (cM p) t.dP) b:=(Uj b).2 λx u=>by
  rw[<- h5]at u
  exact akv hc ht u (h4 x u) (JT b 0 M x dD)
 have I:Fv (Ul (cT p) (cM p) t.dP) []:=⟨λ_ h=>(by cases h),λ_ h=>(by cases h),λ_ h=>(by cases h)⟩
 have E:=hc.w t ht
 rw[h5,vq h6]at E
 have J:=u5 b 1 cK cK E λx u O=>(((Jb (h4 x dD)).2 O).1)
 have V:b.len<=40:=by rw[<- Bk.cY,<- h5];exact h3
 have G:t.dP.length<=4:=by
  have B:=hc.big
  unfold uO at B
  grind
 refine⟨?_,by simp[wj],by show t.dP.length<=1000;omega,by simp[wj],?_⟩
 .show Fv _ (jr (HG t.body) false [])
  rw[hb];exact I.push h6 U
 show gU (jr (HG t.body) false [])<=10000
 rw[hb,sI]
 grind[lX,gU]
theorem Z2:yh (cT p) (cM p) (wj ⟨⟨#[]⟩,[],[],0⟩):=by
 refine⟨⟨λ_ h=>(by cases h),λ_ h=>(by cases h),λ_ h=>(by cases h)⟩,rfl,(by decide:(0:Nat)<=1000),(by decide:(0:Nat)<=1000),(by decide:(0:Nat)<=10000)⟩
theorem HY{l:List cN}(J:wq m.mem)(E:1<=m.room/\m.room<=16)(I:PZ m.p)(G:l.length<=1000)(h:∀t∈l,yh (cT m.p) (cM m.p) (wj t)):oJ (qT m l):=by
 refine⟨J,λt ht=>?_,by show(l.map Up).length<=1000;rw[List.length_map];exact G,by show(List.replicate _ _).length=_;rw[List.length_replicate];rfl,E,λt ht=>?_,I⟩
 .obtain⟨u,B,rfl⟩:=oi.1 ht
  exact(qI (h u B)).2.1
 obtain⟨u,B,rfl⟩:=oi.1 ht
 exact Nz (h u B)
theorem JU(hc:Gw m.p):(uX m).length<=1/\∀t∈uX m,yh (cT m.p) (cM m.p) (wj t):=by
 unfold uX
 split
 .exact⟨o1 _,λt ht=>by rw[List.mem_singleton.1 ht];exact Z2⟩
 exact⟨hc.f.one,λt ht=>DJ hc (List.mem_append_right _ ht)⟩
theorem JV{k:Nat}{x:aS}(h:x∈ig m k):∃i t,i<k/\m.l[i]?=some t/\x∈rG m i t:=by
 unfold ig at h
 grind
theorem QD{i:Nat}{t:jY}{x:aS}(h:x∈rG m i t):x.t=i/\x.cut=[]/\((x.kind=1/\sO m t=true/\x.i=0)\/(x.kind=2/\x.i∈pA t.buf)):=by
 unfold rG at h
 grind
theorem akx{q:aS}(h:(gS m).any (m9 q)=true):m.fault=0/\0<=q.t/\q.cut.length=0/\∃t,m.l[q.t.toNat]?=some t/\((q.kind=1/\sO m t=true)\/(q.kind=2/\q.i∈pA t.buf)):=by
 rw[List.any_eq_true]at h
 obtain⟨x,u,B⟩:=h
 unfold gS at u
 split at u
 .cases u
 rename_i hf
 obtain⟨i,t,_,ht,E⟩:=JV u
 obtain⟨h1,_,h2⟩:=QD E
 unfold m9 at B
 simp only[n5,decide_eq_true_eq]at B
 have e:q.t=(i:Int):=cK
 refine⟨cK,cK,B.2,t,by rw[e];exact ht,?_⟩
 rcases h2 with⟨a,b,_⟩|⟨a,b⟩
 .exact .inl ⟨cK,b⟩
 exact .inr ⟨cK,by rw[<- B.1.2];exact b⟩
theorem NB(h:sO m t=true):∃x a b,pb t.cD=some (x,a,b):=by
 unfold sO at h
 grind
theorem aky{q:aS}(u:oJ m)(hc:Gw m.p):oJ (oL m q).1/\(oL m q).1.p=m.p/\(∀n,MB m.mem n->MB (oL m q).1.mem (n+1)):=by
 unfold oL
 cases hi:iQ m q with
 | some E=>
  have B:fB m.mem q.cut=some E:=by unfold iQ at hi;grind
  obtain⟨I,G⟩:=JU hc
  refine⟨HY (UL u.mem B) u.rm u.pz cK G,rfl,λn h k=>?_⟩
  show([]:List km).length<=_
  grind
 | none=>
  dsimp only
  split
  .split
   .split
    .rename_i t ht
     obtain⟨h1,h2⟩:=aet u ht
     exact⟨h1,rfl,h2⟩
    .exact⟨u,rfl,λn h=>h.mono (I7 n)⟩
   .obtain⟨h1,h2,h3,_⟩:=Z1 (i:=q.t) u
    grind
  .exact⟨u,rfl,λn h=>h.mono (I7 n)⟩
theorem JW{i:Nat}(h:i<(cT p).length):(A9 p)[i]?=some (py p i):=by grind[A9,py]
theorem Bi(p:cE):(cT p).length=(im p).length:=by unfold cT;grind
theorem Z3(hc:Gw p):(im p).length<=20:=by
 have hb:=hc.big
 unfold uO at hb
 simp only[Iz,zJ,decide_eq_false_iff_not,decide_eq_true_eq]at hb
 obtain⟨⟨h1,_⟩,⟨⟨⟨⟨h2,h3⟩,_⟩,_⟩,_⟩,_⟩:=hb
 have h4:∀ls:List (List cJ),(∀l∈ls,¬ 4<(l.length:Int))->ls.flatten.length<=4*ls.length:=by
  intro ls
  induction ls with
  | nil=>grind
  | cons l r u=>
   grind
 grind[im]
theorem QE(hc:Gw p){k:Nat}{n:Int}(J:(k:Int)<ey p)(G:(A9 p)[k]?=some n):(n=tG (A9 p) k\/(0<k/\n=tG (A9 p) k-1))/\0<=n/\n<=k:=by
 have O:=qL p
 have U:=Bi p
 have B:∀l∈p.lines,l≠[]:=λl E=>(hc.f.lines l E).1
 have I:∀j:Nat,(j:Int)<ey p->(A9 p)[j]?=some (jq p.lines 0 j):=λj M=>by rw[JW cK,Ny cK]
 rw[I k J]at G;cases G
 have u:∀j:Nat,jq p.lines 0 j<=j:=by
  intro j
  induction j with
  | zero=>
   cases E:p.lines with
   | nil=>unfold jq;omega
   | cons l r=>
    grind[jq]
  | succ j V=>
   have:=(vE p.lines 0 (j:Int) cK B).2.2
   grind
 refine⟨?_,(vE p.lines 0 (k:Int) cK B).1,u k⟩
 cases k with
 | zero=>
  left
  have:=u 0
  have:=(vE p.lines 0 ((0:Nat):Int) cK B).1
  show _=0
  omega
 | succ k=>
  have h3:=(vE p.lines 0 (k:Int) cK B).2.2
  have e:((k+1:Nat):Int)=(k:Int)+1:=cK
  have W:tG (A9 p) (k+1)=jq p.lines 0 (k:Int)+1:=by
   unfold tG;grind
  grind
theorem Z4(hc:Gw p):wq (Jw (A9 p) (ey p) (eT p)):=by
 have V:=qL p
 have W:=Bi p
 have U:=Z3 hc
 have J:∀l∈p.lines,l≠[]:=λl B=>(hc.f.lines l B).1
 have Kd:(A9 p).length=(im p).length:=by grind[A9,im]
 have Y:(eT p).length=(im p).length:=by unfold eT;grind
 have B:((A9 p).take (ey p).toNat).length=(ey p).toNat:=dD
 have G:∀j:Nat,(j:Int)<ey p->(A9 p)[j]?=some (jq p.lines 0 j):=λj Z=>by rw[JW cK,Ny cK]
 have u:0<(ey p).toNat->fU ((A9 p).take (ey p).toNat)=jq p.lines 0 ((ey p).toNat-1:Nat)+1:=λE=>by
  rw[Nw E cK,ob,G _ cK];rfl
 refine⟨?_,?_,rfl,?_,λn O=>?_,?_,λk x M=>by cases M⟩
 .show((A9 p).take (ey p).toNat).length<=(eT p).length;omega
 .show(eT p).length<=20;omega
 .show((eT p).take (ey p).toNat).length=((A9 p).take (ey p).toNat).length;grind
 .obtain⟨i,hi⟩:=List.mem_iff_getElem?.1 (show n∈(A9 p).take (ey p).toNat from O)
  have I:=(kE.1 hi).1
  rw[B]at I
  rw[List.getElem?_take,ew I,G i cK]at hi
  cases hi
  show 0<=_/\_<fU ((A9 p).take (ey p).toNat)
  rw[u cK]
  have h3:=vE p.lines 0 (i:Int) cK J
  grind
 show fU ((A9 p).take (ey p).toNat)<=20
 by_cases E:(ey p).toNat=0
 .rw[E,List.take_zero];decide
 rw[u cK]
 have:=(QE hc (k:=(ey p).toNat-1) cK (G _ cK)).2.2
 omega
theorem aeu(u:PZ p)(hc:Gw p){room:Int}(B:1<=room/\room<=16):oJ (iS p room):=by
 refine HY (m:=xC p room) (Z4 hc) B u (by have:=u.threads;omega) λt ht=>DJ hc (List.mem_append_left _ ht)
end
def hdC(g:Int->Nat)(u B:Nat)(x:bQ):Nat:=
 if x.kind=11 then g 12+max (u+(if 0<x.eu then g 11 else 0)) B
 else if x.kind=12 then g 13+x.n.toNat*(u+g 14)
 else if x.kind=13 then g 11 else g (if x.kind=14 then 15 else x.kind)
def Z5(g:Int->Nat):Bk->Nat
 | .nil=>0
 | .cons x a b r=>hdC g (Z5 g a) (Z5 g b) x+Z5 g r
def arw(x:bQ)(a b r:Bk)(at_:Int):Int:=at_+(yO (.cons x a b r)-yO r)
def W(g:Int->Nat):Bk->Int->Int->List Int->Int->Nat->Nat->Option Nat
 | .nil,at_,_,_,pos,u,_=>if pos=at_ then some u else none
 | .cons x a b r,at_,lp,cs,pos,u,B=>
  if arw x a b r at_<=pos then W g r (arw x a b r at_) lp cs pos u B
  else if pos=at_ then(if x.kind=13 then some (g 11+B)else some (hdC g (Z5 g a) (Z5 g b) x+(Z5 g r+u)))
  else if x.kind=11 then(if pos<toT x a at_ then W g a (at_+1) lp cs pos ((if 0<x.eu then g 11 else 0)+(Z5 g r+u)) B else W g b (toT x a at_) lp cs pos (Z5 g r+u) B)
  else if x.kind=12 then(if 1<=cs.getD lp.toNat 0/\cs.getD lp.toNat 0<=8 then W g a (at_+1) (lp+1) cs pos (g 14+((cs.getD lp.toNat 0).toNat-1)*(Z5 g a+g 14)+(Z5 g r+u)) (Z5 g r+u)else none)
  else none
theorem Bj{x y:aS}:x=y↔x.kind=y.kind/\x.t=y.t/\x.i=y.i/\x.cut=y.cut:=by
 cases x;cases y;simp
def JX{α:Type}{xs ys:List α}{k:Nat}{x y:α}(h:xs.take k=ys.take k)(u:xs[k]?=some x)(B:ys[k]?=some y)(e:x=y):xs.take (k+1)=ys.take (k+1):=by
 rw[<- gI u,<- gI B,h,e]
def arx{α:Type}{xs ys:List α}{k:Nat}{x y:α}(u:xs[k]?=some x)(B:ys[k]?=some y)(e:x≠y):xs≠ys:=λh=>by
 grind
def C19(av bv:Value)(xs ys:List aS)(w:World)(hA:DL w av xs)(hB:DL w bv ys)(hn:xs.length<=1073741824)(hc:∀x∈xs,x.cut.length<=1000000):CR 19 [av,bv] w (λv w'=>v=.bool (decide (xs=ys))/\Ext w w'):=by
 have u:=St.start w;refine oH Tryz.func19 (pl:=P19) ?_;obtain⟨ary,M,W⟩:=hA.open;have arz:=W.1;refine aK fW (M.ext u.aG) ?_;obtain⟨arA,Y,V⟩:=hB.open;have hn133:=V.1;refine aK fW (Y.ext u.aG) (bW (aC (λ_=>⟨vb (fN λh=>by rw[h]at arz;omega).symm,u.aG⟩) λgH=>?_));refine⟨λmm i w'=>∃k:Nat,i=hZ (k:Int)/\mm=xs.length-k/\k<=xs.length/\xs.take k=ys.take k/\St w bD [] w',⟨_,0,rfl,rfl,l1 _,rfl,u⟩,?_⟩;rintro mm _ _ ⟨k,rfl,rfl,hk,G,u⟩ _;refine aK fW (M.ext u.aG) (aR (aC (λjD=>?_) λ_=>⟨vb (ez (by rw[kW cK,kW cK]at G;exact G)).symm,u.aG⟩))
 obtain⟨ra,I⟩:=gx xs (i:=k) cK;obtain⟨rb,J⟩:=gx ys (i:=k) cK;refine⟨λjv w'=>jv=.bool (!decide (ra=rb))/\St w bD [] w',?_,?_⟩
 .obtain⟨lU,Z⟩:=gx ary (i:=(k:Int).toNat) cK;obtain⟨bO,lE⟩:=gx xs (i:=(k:Int).toNat) cK;obtain⟨UP,rfl,UQ⟩:=W.2 _ _ _ Z lE;refine aO fW M cK Z (λ_ lQ=>bV bO.kind mU lQ rfl rfl λ_ Me=>have u:=u.drew;aD bL (Me.ext u.aG) ?_);obtain⟨iH,O⟩:=gx arA (i:=(k:Int).toNat) cK;obtain⟨U,Z6⟩:=gx ys (i:=(k:Int).toNat) cK;obtain⟨UR,rfl,US⟩:=V.2 _ _ _ O Z6;refine aO fW Y cK O (λ_ wR=>bV U.kind mU wR rfl rfl λ_ Fb=>aD bL (Fb.ext u.aG) ?_)
  have B:ra=bO:=oe.inj (I.symm.trans lE);have E:rb=U:=oe.inj (J.symm.trans Z6);have hcx:=hc _ (kO lE);refine bW (aC (λ_=>⟨vb (by rw[B,E];rw[fN λh=>by rw[Bj]at h;omega];rfl),u⟩) λlq=>aO fW M cK Z λ_ su=>bV bO.t lD su rfl rfl λ_ xj=>aD bL (xj.ext u.aG) (aO fW Y cK O λ_ AM=>bV U.t lD AM rfl rfl λ_ xe=>aD bL (xe.ext u.aG) (bW (aC (λ_=>⟨vb (by rw[B,E];rw[fN λh=>by rw[Bj]at h;omega];rfl),u⟩) λAJ=>aO fW M cK Z λ_ uU=>bV bO.i qd uU rfl rfl λ_ EH=>aD bL (EH.ext u.aG) (aO fW Y cK O λ_ EU=>bV U.i qd EU rfl rfl λ_ XO=>aD bL (XO.ext u.aG) (bW (aC (λ_=>⟨vb (by rw[B,E];rw[fN λh=>by rw[Bj]at h;omega];rfl),u⟩) λuP=>aO fW M cK Z λ_ EV=>bV UP l8 EV rfl rfl λ_ AX=>aD eg (AX.ext u.aG) ?_)))))))
  have arB:=DL.flat UQ;refine aO fW Y cK O (λ_ Fc=>bV UR l8 Fc rfl rfl λ_ LA=>aD eg (LA.ext u.aG) ?_);have arC:=DL.flat US;exact aV amr u (C71 _ _ bO.cut U.cut _ (arB.ext u.aG) (arC.ext u.aG) cK) (λ_ _ u=>bR ⟨vb (by rw[B,E];exact gN (λb=>!b) (ga.2 (by rw[Bj];exact⟨λh=>⟨cK,cK,cK,h⟩,λh=>h.2.2.2⟩))),u⟩)
 rintro _ _ ⟨rfl,u⟩ _;exact aY (λwP=>⟨vb (fN (arx I J (by simpa using wP))).symm,u.aG⟩) (λwP=>aN cK ⟨_,cK,k+1,rfl,rfl,cK,JX G I J (by simpa using wP),u⟩)
theorem NF{ns:List Int}{many:Int}(B:yu ns):∀{xs:List oy}{S:List Int},yu S->(∀x∈xs,q7 many x=false)->eU (wi ns xs S).1
 | [],S,u,_=>Lq u
 | x::r,S,u,h=>by
  unfold wi
  split
  .exact NF B (WO B u (h x (oD ..))) λy E=>h y (qb _ E)
  .exact iC
def aev{xs:List oy}{ns:List Int}(u:yu ns):eU (runM xs ns).1:=by
 unfold runM
 split
 .rename_i h
  exact NF u (λv B=>by cases B) (yK h).2.2
 exact iC
def yu.set{S:List Int}(h:yu S){i:Nat}{v:Int}(u:eU v):yu (S.set i v):=λe B=>by
 rcases P5 B with h1|rfl
 .exact h e h1
 .exact u
def Ex.val(ns:List ByteArray)(nums:List Int):Ex->Int×Int
 | .leaf x=>(if x.op=2 then nums.getD (cU ns x.name).toNat 0 else x.n,0)
 | .un x a=>if (a.val ns nums).2=0 then(yt x.op (a.val ns nums).1,0)else(0,(a.val ns nums).2)
 | .bin x a b=>if (a.val ns nums).2=0 then(if (b.val ns nums).2=0 then(gy x.op (a.val ns nums).1 (b.val ns nums).1,gC x.op (b.val ns nums).1)else(0,(b.val ns nums).2))else(0,(a.val ns nums).2)
theorem Ex.FM(ns:List ByteArray)(nums:List Int)(x:cA)(a:Ex):(Ex.un x a).val ns nums=if (a.val ns nums).2=0 then(yt x.op (a.val ns nums).1,0)else(0,(a.val ns nums).2):=rfl
theorem Ex.Bl(ns:List ByteArray)(nums:List Int)(x:cA)(a b:Ex):(Ex.bin x a b).val ns nums=if (a.val ns nums).2=0 then(if (b.val ns nums).2=0 then(gy x.op (a.val ns nums).1 (b.val ns nums).1,gC x.op (b.val ns nums).1)else(0,(b.val ns nums).2))else(0,(a.val ns nums).2):=rfl
theorem zR{k:Int}(h:0<=kids k):eC k=kids k:=by
 grind[eC,kids]
theorem sT(S:List Int)(v:Int):ke (S++[v])=v:=by
 grind[ke]
theorem FN(S:List Int)(v:Int):(S++[v]).take ((S++[v]).length-1)=S:=by
 simp_all
theorem QF(S:List Int)(v u:Int):(S++[v]++[u]).take ((S++[v]++[u]).length-2)=S:=by
 simp_all
theorem UT(ns:List ByteArray)(nums:List Int):∀(t:Ex),t.wf->∀(r:List oy) (S:List Int),wi nums (t.steps ns++r) S=if (t.val ns nums).2=0 then wi nums r (S++[(t.val ns nums).1])else(0,(t.val ns nums).2):=by
 intro t
 induction t with
 | leaf x=>
  intro E r S
  have G:kids x.op=0:=E
  have u:eC x.op=0:=by rw[zR cK,G]
  show(if vl S ⟨x.op,Ex.numOf ns x⟩=0 then wi nums r (lr nums S ⟨x.op,Ex.numOf ns x⟩)else _)=_
  have h1:vl S ⟨x.op,Ex.numOf ns x⟩=0:=by unfold vl;rw[show eC (⟨x.op,Ex.numOf ns x⟩:oy).kind=0 from u];rfl
  have h2:lr nums S ⟨x.op,Ex.numOf ns x⟩=S++[((Ex.leaf x).val ns nums).1]:=by
   unfold lr;rw[ew (show eC (⟨x.op,Ex.numOf ns x⟩:oy).kind=0 from u)]
   show S++[if x.op=2 then nums.getD (Ex.numOf ns x).toNat 0 else Ex.numOf ns x]=S++[if x.op=2 then _ else _]
   unfold Ex.numOf
   split<;>simp[*]
  rw[ew h1,h2];rfl
 | un x a U=>
  intro E r S
  have G:kids x.op=1:=E.1
  have u:eC x.op=1:=by rw[zR cK,G]
  show wi nums (a.steps ns++[⟨x.op,Ex.numOf ns x⟩]++r) S=_
  rw[n3,U E.2,Ex.FM]
  by_cases B:(a.val ns nums).2=0
  .rw[ew B,ew B]
   show(if vl _ ⟨x.op,Ex.numOf ns x⟩=0 then wi nums r (lr nums _ ⟨x.op,Ex.numOf ns x⟩)else _)=_
   have h1:∀J,vl J ⟨x.op,Ex.numOf ns x⟩=0:=λJ=>by unfold vl;rw[show eC (⟨x.op,Ex.numOf ns x⟩:oy).kind=1 from u];rfl
   rw[ew (h1 _)]
   unfold lr
   rw[ej (show ¬ eC (⟨x.op,Ex.numOf ns x⟩:oy).kind=0 by show ¬ eC x.op=0;omega),ew (show eC (⟨x.op,Ex.numOf ns x⟩:oy).kind=1 from u),sT,FN]
   rfl
  .rw[ej B,ej B,ej B]
 | bin x a b O M=>
  intro E r S
  have G:kids x.op=2:=E.1
  have u:eC x.op=2:=by rw[zR cK,G]
  show wi nums (a.steps ns++b.steps ns++[⟨x.op,Ex.numOf ns x⟩]++r) S=_
  rw[n3,n3,O E.2.1,Ex.Bl]
  by_cases B:(a.val ns nums).2=0
  .rw[ew B,ew B,M E.2.2]
   by_cases hb:(b.val ns nums).2=0
   .rw[ew hb,ew hb]
    show(if vl _ ⟨x.op,Ex.numOf ns x⟩=0 then wi nums r (lr nums _ ⟨x.op,Ex.numOf ns x⟩)else _)=_
    have h1:vl (S++[(a.val ns nums).1]++[(b.val ns nums).1]) ⟨x.op,Ex.numOf ns x⟩=gC x.op (b.val ns nums).1:=by
     unfold vl;rw[ew (show eC (⟨x.op,Ex.numOf ns x⟩:oy).kind=2 from u),sT]
    rw[h1]
    by_cases I:gC x.op (b.val ns nums).1=0
    .rw[ew I,ew I]
     unfold lr
     rw[ej (show ¬ eC (⟨x.op,Ex.numOf ns x⟩:oy).kind=0 by show ¬ eC x.op=0;omega),ej (show ¬ eC (⟨x.op,Ex.numOf ns x⟩:oy).kind=1 by show ¬ eC x.op=1;omega),sT,FN,sT,QF]
    .rw[ej I,ej I]
   .rw[ej hb,ej hb,ej hb]
  .rw[ej B,ej B,ej B]
theorem UW{ns:List ByteArray}{nums:List Int}{xs:List cA}(h:kV ns xs=0)(G:ns.length=nums.length):∃t,By xs 0 t/\pO ns nums xs=t.val ns nums/\(∀y∈xs,y.op=2->0<=cU ns y.name)/\∀y∈xs,eU y.n:=by
 unfold kV at h
 split at h
 .cases h
 rename_i u
 have u:fz xs=true:=dD
 split at h
 .cases h
 rename_i hv
 have O:=zx u
 obtain⟨t,ht⟩:=By.of (xs:=xs) (i:=0) cK
 obtain⟨h1,h2⟩:=ht.zero O
 have M:kV ns xs=0:=by grind[kV]
 have B:=(Nx (ns:=ns) (l:=xs) (many:=(nums.length:Int)) u (by simpa[o8]using hv) cK).1
 refine⟨t,ht,?_,λy J h2=>?_,λy J=>?_⟩
 .unfold pO runM
  rw[ew G,ew M,ew B]
  have U:qx ns xs=t.steps ns:=by unfold qx BS;grind
  have:=UT ns nums t ht.2.1 [] []
  rw[o6]at this
  rw[U,this]
  split
  .rename_i h0
   show(ke ([]++_),0)=_
   rw[sT,<- h0]
  rename_i h0
  have E:∀t:Ex,¬ (t.val ns nums).2=0->(t.val ns nums).1=0:=by
   intro t
   cases t with
   | leaf x=>intro h;exact absurd rfl h
   | un x a=>rw[Ex.FM];split<;>intro h<;>first|exact absurd rfl h|rfl
   | bin x a b=>
    rw[Ex.Bl];repeat' split
    all_goals intro h
    .show gy _ _ _=0;unfold gy;rw[ej h]
    .rfl
    .rfl
  rw[<- E t h0]
 .grind
 have I:lh y=false:=by
  unfold fz at u
  grind
 unfold lh at I
 unfold eU
 grind
theorem Ex.QG{ns:List ByteArray}{nums:List Int}(u:yu nums):∀t:Ex,(∀y∈t.flat,eU y.n)->eU (t.val ns nums).1
 | .leaf x,h=>by
  unfold Ex.val;dsimp only
  split
  .rw[ob]
   cases hh:nums[(cU ns x.name).toNat]? with
   | none=>exact iC
   | some e=>exact u e (kO hh)
  .exact h x (List.mem_singleton_self x)
 | .un x a,h=>by rw[Ex.FM];split;exact WN;exact iC
 | .bin x a b,h=>by
  rw[Ex.Bl];repeat' split
  .exact WM (Ex.QG u a λy B=>h y (by simp[Ex.flat,B]))
  .exact iC
  .exact iC
abbrev Dq:=bQ×Bk×Bk×Bool
def DK:Bool->Bk->List Dq
 | _,.nil=>[]
 | e,.cons x a b r=>(x,a,b,e)::DK false r
def v9:PD->List Dq
 | []=>[]
 | q::p=>DK q.2 q.1++v9 p
def FP(p:PD):Prop:=∀q∈p,q.2=true->∃x a,q.1=Bk.cons x a .nil .nil
def uh:List Dq->List Dq
 | []=>[]
 | q::l=>if q.2.2.2=true then l else uh l
section
variable {p:PD}{b:Bk}{x:bQ}{a:Bk}{t:jY}{l:List Dq}
theorem u6:v9 (jr b false p)=DK false b++v9 p:=by cases b<;>rfl
theorem Bm{c:Bk}(h:pb p=some (x,a,c)):∃e,v9 p=(x,a,c,e)::v9 (gA p):=by
 obtain⟨r,e,u,rfl⟩:=Hz h
 exact⟨e,by show _::(DK false r++v9 u)=_::v9 (jr r false u);rw[u6]⟩
theorem H0:∀b:Bk,uh (DK false b++l)=uh l
 | .nil=>rfl
 | .cons _ _ _ r=>H0 r
theorem H6:∀{p:PD},FP p->v9 (ky p)=uh (v9 p)
 | [],_=>rfl
 | (b,true)::p,h=>by
  obtain⟨x,a,hb⟩:=h _ (oD ..) rfl
  have hb:b=Bk.cons x a .nil .nil:=hb
  subst hb;rfl
 | (b,false)::p,h=>by
  show v9 (ky p)=uh (DK false b++v9 p)
  rw[H0,H6 λq u=>h q (qb _ u)]
theorem UX(h:¬ x.n=0):v9 (mI x a p)=DK false a++({x with n:=x.n-1},a,.nil,true)::v9 (gA p):=by
 unfold mI;rw[ej h,u6];rfl
theorem H7:∀(l:List Dq) (k:Nat),(∀j q,j<k->l[j]?=some q->q.2.2.2=false)->(∀q,l[k]?=some q->q.2.2.2=true)->k<=l.length->uh l=l.drop (k+1)
 | [],k,_,_,_=>by simp[uh]
 | q::l,0,_,h,_=>by
  simp_all[Dq,uh]
 | q::l,k+1,h1,h2,h3=>by
  have:=h1 0 q cK rfl
  show(if q.2.2.2=true then l else uh l)=_
  rw[ej dD,H7 l k (λj B E u=>h1 (j+1) B cK u) (λB u=>h2 B u) dD]
  rfl
theorem FP.tail{q:Bk×Bool}(h:FP (q::p)):FP p:=λr u=>h r (qb _ u)
theorem FP.push(h:FP p):FP (jr b false p):=by
 cases b with
 | nil=>exact h
 | cons x a c r=>
  grind[FP,jr]
theorem FP.pop(h:FP p):FP (gA p):=by
 match p,h with
 | [],h=>exact h
 | (.nil,_)::p,h=>exact h.tail
 | (.cons x a b r,_)::p,h=>exact h.tail.push
theorem FP.leave:∀{p:PD},FP p->FP (ky p)
 | [],h=>h
 | (_,e)::p,h=>by
  unfold ky;split
  .exact h.tail
  .exact h.tail.leave
theorem FP.round(h:FP p):FP (mI x a p):=by
 unfold mI;split
 .exact h.pop
 refine FP.push λq u B=>?_
 rcases sl.1 u with rfl|u
 .grind
 exact h.pop q u B
theorem aew:p.length<=(v9 p).length\/∃q∈p,q.1=.nil:=by
 induction p with
 | nil=>left;simp
 | cons q p u=>
  rcases u with u|⟨r,B,h⟩
  .cases hb:q.1 with
   | nil=>grind
   | cons x a c r=>left;show p.length+1<=(DK q.2 q.1++v9 p).length;rw[hb];simp only[DK,lY,oj];omega
  grind
theorem Td:∀(e:Bool) (b:Bk),(DK e b).length<=lX b
 | _,.nil=>l1 _
 | _,.cons x a b r=>by have:=Td false r;simp only[DK,oj];rw[sJ];omega
theorem FQ:∀p:PD,(v9 p).length<=gU p
 | []=>l1 _
 | q::p=>by have:=FQ p;have:=Td q.2 q.1;rw[pU];show(DK q.2 q.1++v9 p).length<=_;grind
end
structure Mo(m:Mem):Prop where
 l:yu m.l
 k:yu m.kept
 f:yu m.dV
 p:∀k,∀x∈m.fJ k,eU x.n
theorem FR:∀{ws:List km}{k:List Int},yu k->(∀x∈ws,eU x.n)->yu (nM k ws)
 | [],k,u,_=>u
 | w::ws,k,u,h=>by
  show yu (nM (k.set w.cell.toNat w.n) ws)
  exact FR (u.set (h w (oD ..))) λx B=>h x (qb _ B)
section
variable {m:Mem}
theorem Mo.write(h:Mo m){c n:Int}(B:eU n):Mo (fk m c n):=by
 unfold fk
 split
 .refine⟨h.l.set B,h.k,h.f,λk x u=>?_⟩
  dsimp only at u
  split at u
  .rcases DI u with h1|h1
   .rcases pI.1 h1 with h2|h2
    .exact h.p _ x h2
    grind
   exact h.p _ x h1
  exact h.p _ x u
 exact h
theorem Mo.out(h:Mo m){n:Int}:Mo (n7 m n):=by
 unfold n7
 split
 .refine⟨h.l,FR h.k (h.p _),h.f,λk x u=>?_⟩
  rcases DI u with h1|h1
  .cases h1
  exact h.p _ x h1
 exact h
theorem NG(h:Mo m)(cut:List Int):∀k,yu (pS m cut k)
 | 0=>h.k
 | k+1=>by
  have u:=NG h cut k
  unfold pS at u |-
  rw[List.range_succ,List.foldl_append]
  exact FR u λx B=>h.p _ x (List.mem_of_mem_take B)
theorem Mo.arD(h:Mo m){cut u:List Int}(hi:fB m cut=some u):Mo (mH m u):=by
 have B:yu u:=by
  unfold fB at hi
  split at hi
  .cases hi;exact NG h cut _
  .cases hi
 refine⟨λv E=>?_,B,h.f,λk x G=>by cases G⟩
 rcases pI.1 (show v∈u++m.dV.drop u.length from E)with h1|h1
 .exact B v h1
 exact h.f v (List.mem_of_mem_drop h1)
theorem Z7(h:Mo m)(c:Int):eU (jF m c):=by
 unfold jF
 split
 .rw[ob]
  cases hg:m.l[c.toNat]? with
  | none=>exact iC
  | some v=>exact h.l v (kO hg)
 exact iC
end
theorem Z8{l:List bI}{c:Int}(h:∀y∈l,eU y.n):eU ((lx l c).getD 0):=by
 unfold lx
 cases hf:l.reverse.find? (λx=>decide (x.kind=3/\x.cell=c))with
 | none=>exact iC
 | some y=>grind
theorem UY{l:List bI}{i:Int}(h:∀y∈l,eU y.n):eU (dH l i).n:=by
 unfold dH
 split
 .cases hg:l[i.toNat]? with
  | none=>exact iC
  | some y=>grind
 exact iC
def UZ{l:List bI}{i:Int}{y:bI}(h:y∈jS l i):y∈l:=by
 unfold jS at h
 split at h
 .exact List.mem_of_mem_eraseIdx h
 exact h
def Z9{room:Int}{l:List bI}{x y:bI}(h:y∈sG room l x):y∈l\/y=x:=by
 unfold sG at h
 grind
structure BA(t:jY):Prop where
 r:yu t.dP
 b:∀y∈t.buf,eU y.n
def aex{ns:List ByteArray}{nums:List Int}{xs:List cA}(h:yu nums):eU (pO ns nums xs).1:=by
 unfold pO
 repeat' split
 .exact aev h
 .exact iC
 exact iC
def JY{t:jY}{xs:List cA}(h:yu t.dP):eU (eI t xs).1:=by
 unfold eI;split
 .exact iC
 exact aex h
def BA.goS{t:jY}(h:BA t):BA (qH t).1:=by
 unfold qH
 split
 .exact h
 split
 .unfold qG
  repeat' split
  all_goals first|exact⟨h.r.set (JY h.r),h.b⟩|exact⟨h.r,h.b⟩
 exact⟨h.r,h.b⟩
theorem BA.goF:∀(n:Nat) {t tR:jY},BA t->tf n t=some tR->BA tR
 | 0,_,_,_,u=>by cases u
 | n+1,t,tR,h,u=>by
  unfold tf at u
  split at u
  .exact BA.goF n h.goS u
  .cases u;exact h.goS
theorem BA.go{t:jY}(h:BA t):BA (goD t):=by
 unfold goD
 cases hg:tf (gU t.cD+1) t with
 | none=>exact h
 | some tR=>exact BA.goF _ h hg
def BA.th(t:cN):BA (Up t):=BA.go ⟨λv u=>by rw[(List.mem_replicate.1 u).2];exact iC,λy B=>by cases B⟩
structure JZ(m:gR):Prop where
 th:∀t∈m.l,BA t
 mem:Mo m.mem
section
variable {m:gR}{t:jY}
theorem aaa{i:Int}{x:bQ}(h:Mo m.mem)(h2:BA t):BA (ea m t i x).2.1/\Mo (ea m t i x).1.mem:=by
 have E:=λc=>Z7 h c
 have G:∀c,eU (ij m t c):=λc=>by
  unfold ij
  split
  .exact Z8 h2.b
  grind
 have u:∀y:bI,eU y.n->BA (pW m t y):=λy M=>⟨h2.r,λz J=>by
  rcases Z9 J with h3|h3
  .exact h2.b z h3
  grind⟩
 have hc:Mo (rI m t x).mem:=by
  unfold rI;split
  .exact h.write (JY h2.r)
  .exact h
 have B:∀n,eU n->BA (pe t x.eD n):=λn I=>⟨h2.r.set I,h2.b⟩
 unfold ea
 repeat' split
 all_goals first
  | exact⟨B _ (G _),h⟩
  | exact⟨u _ (JY h2.r),h⟩
  | exact⟨u _ iC,h⟩
  | exact⟨h2,h⟩
  | exact⟨B _ (E _),hc⟩
theorem JZ.step{i:Int}(h:JZ m):JZ (iv m i).1:=by
 unfold iv
 split
 .exact h
 rename_i t ht
 have B:=h.th t (kO ht)
 split
 .exact⟨h.th,h.mem⟩
 split
 .exact h
 rename_i x _ _ _
 split
 .exact⟨h.th,h.mem⟩
 obtain⟨h1,h2⟩:=aaa (i:=i) (x:=x) h.mem B
 refine⟨λt' u=>?_,h2⟩
 rcases u0 u with rfl|h3
 .exact BA.go ⟨h1.r,h1.b⟩
 exact h.th t' h3
theorem JZ.out{q:aS}(h:JZ m)(ht:m.l[q.t.toNat]?=some t):JZ (tg m t q):=by
 have h2:=h.th t (kO ht)
 refine⟨λt' u=>?_,?_⟩
 .rcases u0 u with rfl|h3
  .exact⟨h2.r,λy B=>h2.b y (UZ B)⟩
  exact h.th t' h3
 show Mo (jT m.mem (dH t.buf q.i))
 unfold jT
 split
 .exact h.mem.write (UY h2.b)
 split
 .exact h.mem
 exact h.mem.out
theorem JZ.begin{l:List cN}(h:Mo m.mem):JZ (qT m l):=⟨λt ht=>by
 obtain⟨u,_,rfl⟩:=oi.1 (show t∈l.map Up from ht);exact BA.th u,h⟩
theorem JZ.do{q:aS}(h:JZ m):JZ (oL m q).1:=by
 unfold oL
 cases hi:iQ m q with
 | some u=>
  have B:fB m.mem q.cut=some u:=by unfold iQ at hi;grind
  exact JZ.begin (m:=pg m u) (h.mem.arD B)
 | none=>
  dsimp only
  split
  .split
   .split
    .rename_i t ht;exact h.out ht
    .exact h
   .exact h.step
  .exact h
end
def NH(Z:Option Addr)(B J:Nat)(MT:Option Addr)(Zc Zd:Nat)(MU:Option Addr)(U O:Nat)(V:Option Addr)(M u:Nat)(I:Option Addr)(MZ W:Nat)(E:Option Addr)(G Zh:Nat)(a1:Int)(Y:Option Addr):pr hH (l2 44 [(0,.agg [.slice Z B J,.slice MT Zc Zd,.slice MU U O,.slice V M u,.slice I MZ W,.slice E G Zh].toArray),(1,hZ a1),(3,.pointer Y)].toArray)=some (.agg [.slice Z B J,.slice MT Zc Zd,.slice MU U O,.slice V M u,.slice I MZ W,.slice E G Zh,hZ a1,hZ 0,.pointer Y,.slice none 0 0,.slice none 0 0,hZ 0,hZ 0].toArray):=by kernel_rfl
def FT(E:Int)(G:Int)(u:Int)(B:Bool):pr hH (l2 114 [(0,hZ E),(1,hZ G),(2,hZ u),(3,.bool B)].toArray)=some (.agg [hZ E,hZ G,hZ u,.bool B,.bool false].toArray):=by kernel_rfl
def xI(G:Option Addr)(I J:Nat)(V:Option Addr)(E O:Nat)(B:Option Addr)(M u:Nat)(U:Option Addr):pr hH (l2 132 [(0,.slice G I J),(1,.slice V E O),(2,.slice B M u),(3,.pointer U)].toArray)=some (.agg [.slice G I J,.slice V E O,.slice B M u,.pointer U,hZ 0].toArray):=by kernel_rfl
def J0(Y:Int)(MT:ByteArray)(Z:ByteArray)(V:Option Addr)(U G:Nat)(O:Option Addr)(MZ W:Nat)(M:Int)(u:Int)(E:Int)(B:Int)(a1:Option Addr)(J c1:Nat)(I:Option Addr)(n2 c2:Nat):pr hH (l2 218 [(0,.agg [hZ Y,.string MT,.string Z,.slice V U G,.slice O MZ W,hZ M,hZ u,hZ E,hZ B].toArray),(1,.slice a1 J c1),(2,.slice I n2 c2)].toArray)=some (.agg [hZ Y,.string MT,.string Z,.slice V U G,.slice O MZ W,hZ M,hZ u,hZ E,hZ B,.slice a1 J c1,.slice I n2 c2,.bool false].toArray):=by kernel_rfl
structure pw where
 x:bE
 body:SV
 eu:SV
 in_:Bool
instance:Flat pw where
 agg:=true
 sz:=12
 enc e:=[hZ e.x.kind,.string e.x.eD,.string e.x.name,.slice e.x.e.a e.x.e.n e.x.e.cap,.slice e.x.f.a e.x.f.n e.x.f.cap,hZ e.x.n,hZ e.x.body,hZ e.x.eu,hZ e.x.at_,.slice e.body.a e.body.n e.body.cap,.slice e.eu.a e.eu.n e.eu.cap,.bool e.in_]
 val e:=.agg [hZ e.x.kind,.string e.x.eD,.string e.x.name,.slice e.x.e.a e.x.e.n e.x.e.cap,.slice e.x.f.a e.x.f.n e.x.f.cap,hZ e.x.n,hZ e.x.body,hZ e.x.eu,hZ e.x.at_,.slice e.body.a e.body.n e.body.cap,.slice e.eu.a e.eu.n e.eu.cap,.bool e.in_].toArray
 pos:=ee
 len _:=rfl
 one a v h:=by simp at h;rcases h with rfl|rfl|rfl|rfl|rfl|rfl|rfl|rfl|rfl|rfl|rfl|rfl<;>rfl
 nx _ _:=rfl
 nT h:=by cases h
variable (w:World) (K:Value->hM)
def S128(E:Value):Prop:=
 bS 130 0 [] w λa b=>px (λG I B c=>∀_:Env,
 lN 141 E λd=>bA .lss 3 B d λe=>cV e (iA 141 E B λf=>lA 193 f c λg=>aL 193 c λh j=>sA 193 h g j λk=>bB .add 3 B (i 1) λl=>fA 193 h 6 λn=>lA 3 n k λo=>
 bA .add 3 l o λp=>fA 193 h 7 λq=>lA 3 q k λr=>bA .add 3 p r λs=>lA 193 h (drew k) λt=>bB .add 3 B (i 1) λu=>eR hH (n4 141 E (some u) (some p) none) λv=>
 eR hH (n4 141 E (some p) (some s) none) λx=>eR hH (l2 218 [(0,t),(1,v),(2,x)].toArray) λy=>bS 130 1 [(0,y)] (drew k) λz M=>
 aP 130 I z M λJ O=>G J s O) (K I c)) (λG=>G a (i 0) b)
def ayl:dI:=λi=>match i with
 | 6=>.run 0 15
 | _=>.nil
theorem aey(u:Value)(h:S128 w K u):CR 128 [u] w K:=
 qO 42 ayl 4 [.tmp 2] Tryz.func128 h
def S13(p0 V:Value):Prop:=
 rJ hH (zT 27 p0) w λp2 a=>lA 27 p2 a λb=>cF 57 [b] a λc d=>xT c 0 λe=>xT c 1 λ_=>bB .neq 31 e (i 0) λf=>cV f (K (.tuple #[(.pointer none),e]) d) (
 cF 58 [V] d λg h=>xT g 0 λ_=>xT g 1 λj=>bB .neq 31 j (i 0) λk=>cV k (K (.tuple #[(.pointer none),j]) h) (bS 41 0 [] h λl n=>px (λG E B o=>∀_:Env,
 lA 27 p2 o λp=>cF 59 [p] o λq r=>lN 23 q λs=>bA .lss 3 B s λt=>cV t (lA 27 p2 r λu=>cF 60 [u,B] r λv x=>bS 41 1 [(0,v)] x λy z=>aP 41 E y z λaa ab=>
 bB .add 3 B (i 1) λac=>G aa ac ab) (lA 27 p2 (drew r) λad=>lA 27 p2 (drew r) λY=>cF 62 [ad] (drew r) λaf M=>kA 27 p2 Y M (cF 63 [Y] M λZ ai=>cF 61 [E,af,Z] ai λO U=>
 xT O 0 λal=>xT O 1 λ_=>lA 27 p2 U λam=>eR hH (l2 44 [(0,am),(1,V),(3,al)].toArray) λan=>rJ hH (zT 44 an) U λW J=>
 fA 27 p2 3 λaq=>lA 24 aq J λar=>cF 64 [W,ar] J λ_ I=>K (.tuple #[W,(i 0)]) I))) λG=>G l (i 0) n))
def P13:dI:=λi=>match i with
 | 12=>(.of [(0,[]),(1,[]),(3,[]),(2,[3]),(4,[]),(5,[]),(6,[]),(7,[]),(8,[]),(9,[]),(10,[])])
 | _=>.nil
theorem akC(p0 u:Value)(h:S13 w K p0 u):CR 13 [p0,u] w K:=
 qO 64 P13 48 [.tmp 4,.tmp 5] Tryz.func13 h
def aym:dI:=λi=>match i with
 | 3=>.run 0 15
 | _=>.nil
def S129(B:Value):Prop:=
 Q9 (λI a=>∀_:Env,
 nC B λb=>fA 132 b 0 λc=>lA 130 c a λd=>lN 130 d λe=>bB .gtr 3 e (i 0) λf=>cV f (nC B λg=>fA 132 g 0 λh=>lA 130 h a λj=>iA 130 j (i 0) λk=>lA 218 k a λl=>
 aL 218 a λG n=>sA 218 G l n λo=>fA 218 G 0 λp=>fA 193 p 3 λq=>lA 82 q o λr=>cF 203 [B,r] o λs t=>xT s 0 λu=>xT s 1 λv=>fA 218 G 0 λx=>fA 193 x 4 λy=>
 lA 82 y t λz=>cF 203 [B,z] t λaa Z=>xT aa 0 λ_=>xT aa 1 λac=>fe (λK2=>eR hH (Op.unary .not v) λad=>cV ad (K2 tt Z) (eR hH (Op.unary .not ac) λae=>
 K2 ae Z)) (λaf E=>∀_:Env,
 cV af (nC B λah=>fA 132 ah 4 λai=>sA 3 ai (i 2) E λaj=>K (.tuple #[]) aj) (fA 218 G 0 λak=>fA 193 ak 0 λal=>lA 3 al E λJ=>bB .eql 3 J (i 1) λan=>
 cV an (fA 218 G 0 λao=>fA 193 ao 1 λap=>lA 9 ap E λaq=>cF 204 [B,aq,u] E λ_ ar=>cF 171 [B,(.slice none 0 0)] ar λ_ W=>I W) (bB .eql 3 J (i 11) λau=>
 cV au (bB .neq 3 u (i 0) λav=>cV av (fA 218 G 1 λaw=>lA 141 aw E λax=>cF 128 [ax] E λay az=>cF 171 [B,ay] az λ_ a0=>I a0) (fA 218 G 2 λa1=>lA 141 a1 E λa2=>
 cF 128 [a2] E λa3 a4=>cF 171 [B,a3] a4 λ_ a5=>I a5)) (bB .eql 3 J (i 12) λa6=>cV a6 (bS 130 0 [] E λa7 O=>fe (λK3=>fA 218 G 0 λa9=>fA 193 a9 5 λba=>
 lA 3 ba O λbb=>bB .gtr 3 bb (i 0) λbc=>cV bc (lA 218 G O λbd=>aL 218 O λV be=>sA 218 V bd be λbf=>fA 218 G 0 λbg=>fA 193 bg 5 λbh=>lA 3 bh bf λbi=>
 bB .sub 3 bi (i 1) λbj=>fA 218 V 0 λbk=>fA 193 bk 5 λbl=>sA 3 bl bj bf λbm=>fA 218 V 3 λbn=>sA 4 bn tt bm λbo=>fA 218 G 1 λbp=>lA 141 bp bo λbq=>
 cF 128 [bq] bo λbr bs=>aP 130 a7 br bs λbt bu=>lA 218 V bu λbv=>bS 130 1 [(0,bv)] bu λbw bx=>aP 130 bt bw bx λbz b0=>K3 bz b0) (K3 a7 O)) (λl7 b1=>∀_:Env,
 cF 171 [B,l7] b1 λ_ b2=>I b2)) (bB .eql 3 J (i 13) λb3=>cV b3 (kJ (λY M b4=>∀_:Env,
 fe (λK5=>nC B λb5=>fA 132 b5 0 λb6=>lA 130 b6 b4 λb7=>lN 130 b7 λb8=>bA .lss 3 M b8 λb9=>cV b9 (nC B λca=>fA 132 ca 0 λcb=>lA 130 cb b4 λcc=>
 iA 130 cc M λcd=>fA 218 cd 3 λce=>lA 4 ce b4 λcf=>eR hH (Op.unary .not cf) λcg=>K5 cg b4) (K5 ff b4)) (λch U=>∀_:Env,
 cV ch (bB .add 3 M (i 1) λcj=>Y cj U) (nC B λck=>fA 132 ck 0 λcl=>lA 130 cl (drew U) λcm=>bB .add 3 M (i 1) λcn=>nC B λco=>fA 132 co 0 λcp=>lA 130 cp (drew U) λcq=>
 lN 130 cq λcr=>eR hH (Builtin.min_ #[3,3] 3 [cn,cr].toArray) λcs=>eR hH (n4 130 cm (some cs) none none) λct=>nC B λcu=>fA 132 cu 0 λcv=>
 sA 130 cv ct (drew U) λcw=>I cw))) λY=>Y (i 0) E) (bB .eql 3 J (i 14) λcx=>cV cx (bB .eql 3 u (i 0) λcy=>cV cy (nC B λcz=>fA 132 cz 4 λc0=>sA 3 c0 (i 1) E λc1=>
 K (.tuple #[]) c1) (cF 171 [B,(.slice none 0 0)] E λ_ c2=>I c2)) (K (.tuple #[]) E)))))))) (K (.tuple #[]) a)) (λI=>I w)
def ayn:dI:=λi=>match i with
 | 27=>.run 0 17
 | _=>.nil
theorem aez(u:Value)(h:S129 w K u):CR 129 [u] w K:=
 qO 148 ayn 0 [] Tryz.func129 h
def P80:dI:=λi=>match i with
 | 7=>.run 0 14
 | 8=>(.of [(0,[]),(1,[]),(2,[]),(3,[]),(4,[]),(5,[]),(6,[]),(7,[]),(8,[]),(9,[]),(10,[]),(11,[]),(12,[]),(13,[]),(14,[]),(15,[]),(16,[]),(17,[]),(18,[]),(19,[]),(20,[]),(21,[]),(23,[]),(24,[]),(22,[17,24]),(25,[17]),(26,[]),(27,[]),(28,[]),(29,[]),(30,[]),(31,[])])
 | _=>.nil
def S169(Y I a E:Value):Prop:=
 rJ hH (zT 193 a) w λb c=>aL 56 c λd e=>fA 193 b 3 λf=>lA 82 f e λg=>cF 203 [I,g] e λh j=>xT h 0 λk=>xT h 1 λ_=>fA 193 b 4 λl=>lA 82 l j λn=>
 cF 203 [I,n] j λo p=>xT o 0 λq=>xT o 1 λ_=>nC I λs=>fA 132 s 3 λt=>lA 103 t p λu=>cF 229 [u,E] p λv x=>xT v 0 λy=>xT v 1 λz=>fe (λU=>
 eR hH (Op.unary .not z) λaa=>cV aa (nC Y λab=>fA 44 ab 3 λac=>lA 40 ac x λad=>nC ad λae=>fA 122 ae 2 λaf=>lA 41 af x λag=>iA 41 ag E λah=>
 lA 3 ah x λai=>U ai x) (U y x)) (λB W=>∀_:Env,
 fA 193 b 1 λak=>lA 9 ak W λal=>cF 204 [I,al,B] W λ_ G=>fA 193 b 0 λan=>lA 3 an G λao=>bB .eql 3 ao (i 2) λap=>cV ap (cV z (eR hH (l2 56 [(0,(i 2)),(2,E),(3,B)].toArray) λaq=>
 sA 56 d aq G λar=>lA 56 d ar λr=>K r ar) (eR hH (l2 56 [(0,(i 1)),(2,E),(3,B)].toArray) λJ=>sA 56 d J G λO=>lA 56 d O λIy=>K Iy O)) (
 bA .neq 3 B k λav=>cV av (eR hH (l2 56 [(0,(i 9)),(2,E),(3,B)].toArray) λaw=>sA 56 d aw G λV=>lA 56 d V λOv=>K Ov V) (nC Y λay=>
 fA 44 ay 3 λaz=>lA 40 az G λa0=>cF 166 [a0,E,q] G λ_ a1=>eR hH (l2 56 [(0,(i 8)),(2,E),(3,B),(4,q)].toArray) λa2=>sA 56 d a2 a1 λZ=>
 lA 56 d Z λM=>K M Z)))
theorem aeA(G B u E:Value)(h:S169 w K G B u E):CR 169 [G,B,u,E] w K:=
 qO 82 (λ_=>.nil) 256 [.cell 8 56] Tryz.func169 h
def S96(E M:Value):Prop:=
 aL 56 w λa b=>nC E λc=>fA 44 c 5 λd=>lA 42 d b λe=>iA 42 e M λf=>lA 129 f b λg=>nC g λh=>fA 132 h 4 λj=>lA 3 j b λk=>bB .neq 3 k (i 0) λl=>
 cV l (nC g λn=>fA 132 n 4 λo=>lA 3 o b λp=>cF 168 [E,M,p] b λq s=>sA 56 a q s λt=>lA 56 a t λr=>K r t) (nC g λu=>fA 132 u 0 λv=>lA 130 v b λx=>
 iA 130 x (i 0) λy=>fA 218 y 0 λz=>lA 193 z b λaa=>eR hH (l2 56 [].toArray) λab=>aL 193 b λJ ad=>aL 56 ad λI ae=>sA 193 J aa ae λaf=>
 sA 56 I ab af λV=>nC E λah=>fA 44 ah 0 λai=>lA 27 ai (drew V) λaj=>fA 193 J 2 λak=>lA 9 ak (drew V) λal=>nC E λam=>fA 44 am 0 λan=>lA 27 an (drew V) λao=>
 fA 193 J 2 λY=>lA 9 Y (drew V) λZ=>cF 124 [aj] (drew V) λar G=>kA 9 ak al G (kA 27 an ao G (kA 9 Y Z G (cF 123 [ar,al] G λau av=>kA 27 an ao av (kA 9 Y Z av (
 cF 125 [ao] av λaw ax=>kA 9 Y Z ax (cF 123 [aw,Z] ax λU az=>yA (λW=>fA 193 J 0 λa0=>lA 3 a0 az λO=>fe (λK2=>bB .eql 3 O (i 2) λa2=>cV a2 (
 K2 a2 az) (bB .eql 3 O (i 4) λa3=>K2 a3 az)) (λa4 B=>∀_:Env,
 cV a4 (lA 193 J B λa6=>cF 169 [E,g,a6,au] B λa7 a8=>sA 56 I a7 a8 λa9=>W a9) (bB .eql 3 O (i 8) λba=>cV ba (fA 56 I 0 λbb=>sA 3 bb (i 7) B λbc=>
 W bc) (bB .eql 3 O (i 9) λbd=>cV bd (nC E λbe=>fA 44 be 4 λbf=>lA 41 bf B λbg=>iA 41 bg U λbh=>sA 3 bh M B λbi=>eR hH (l2 56 [(0,(i 10)),(2,U)].toArray) λbj=>
 sA 56 I bj bi λbk=>W bk) (bB .eql 3 O (i 10) λbl=>cV bl (nC E λbm=>fA 44 bm 4 λbn=>lA 41 bn B λbo=>iA 41 bo U λbp=>lA 3 bp B λbq=>bA .neq 3 bq M λbr=>
 cV br (cF 168 [E,M,(i 3)] B λbs bt=>sA 56 a bs bt λbu=>lA 56 a bu λIy=>K Iy bu) (nC E λbv=>fA 44 bv 4 λbw=>lA 41 bw B λbx=>iA 41 bx U λbz=>sA 3 bz (i (-1)) B λb0=>
 eR hH (l2 56 [(0,(i 11)),(2,U)].toArray) λb1=>sA 56 I b1 b0 λb2=>W b2)) (lA 193 J (drew B) λb3=>nC E λb4=>fA 44 b4 0 λb5=>lA 27 b5 (drew B) λb6=>
 cF 60 [b6,au] (drew B) λb7 b8=>kA 193 J b3 b8 (cF 170 [E,g,b3,au,b7] b8 λb9 ca=>sA 56 I b9 ca λcb=>W cb))))))) (λcc=>∀_:Env,
 fA 56 I 1 λcd=>sA 3 cd M cc λce=>cF 171 [g,(.slice none 0 0)] ce λ_ cf=>cF 129 [g] cf λ_ cg=>lA 56 I cg λch=>sA 56 a ch cg λci=>lA 56 a ci λOv=>K Ov ci))))))))
def P96:dI:=λi=>match i with
 | 5=>(.of [(0,[]),(1,[]),(2,[]),(3,[]),(5,[]),(6,[]),(8,[]),(9,[]),(10,[]),(11,[]),(13,[]),(14,[]),(4,[6,11,14]),(7,[11,14]),(12,[14]),(15,[]),(16,[]),(17,[])])
 | 7=>(.of [(0,[]),(1,[]),(2,[]),(3,[]),(4,[]),(5,[]),(6,[]),(7,[]),(8,[]),(9,[2]),(10,[]),(11,[])])
 | _=>.nil
theorem akD(u B:Value)(h:S96 w K u B):CR 96 [u,B] w K:=
 qO 117 P96 16 [.cell 4 56] Tryz.func96 h
def P95:dI:=λi=>match i with
 | 3=>.run 0 9
 | 7=>.run 0 7
 | _=>.nil
def P25:dI:=λi=>match i with
 | 2=>.run 0 12
 | 5=>.run 0 7
 | 15=>.run 0 34
 | _=>.nil
def P74:dI:=λi=>match i with
 | 1=>(.of [(0,[]),(1,[]),(2,[]),(3,[]),(4,[]),(5,[]),(6,[]),(7,[]),(8,[]),(9,[]),(10,[]),(11,[]),(12,[]),(13,[]),(14,[]),(15,[]),(16,[]),(17,[]),(18,[3,7,11,15]),(19,[])])
 | _=>.nil
def S75(E:Value):Prop:=
 bS 117 0 [] w λa b=>nC E λc=>fA 44 c 0 λd=>lA 27 d b λe=>cF 62 [e] b λf g=>px (λI G M h=>∀_:Env,
 nC E λj=>fA 44 j 0 λk=>fA 27 k 5 λl=>lA 25 l h λn=>lN 25 n λo=>bA .lss 3 M o λp=>cV p (fe (λK2=>nC E λq=>fA 44 q 0 λr=>fA 27 r 5 λs=>
 lA 25 s (drew h) λt=>iA 25 t M λu=>fA 85 u 0 λv=>lA 82 v (drew h) λx=>nC E λy=>fA 44 y 0 λz=>lA 27 z (drew h) λaa=>nC E λab=>fA 44 ab 3 λV=>
 lA 40 V (drew h) λO=>nC O λae=>fA 122 ae 2 λY=>lA 41 Y (drew h) λU=>eR hH (n4 41 U none (some f) none) λZ=>cF 124 [aa] (drew h) λai B=>
 kA 25 s t B (kA 82 v x B (kA 40 V O B (kA 41 Y U B (eR hH (n4 91 ai none (some f) none) λak=>cF 146 [x,ak,Z] B λal W=>xT al 0 λan=>xT al 1 λao=>
 bB .eql 31 ao (i 0) λap=>cV ap (bB .neq 3 an (i 0) λaq=>bS 117 1 [(0,aq)] W λar J=>aP 117 G ar J λau av=>K2 au av) (bS 117 1 [(0,ff)] W λaw ax=>aP 117 G aw ax λay az=>
 K2 ay az)))))) (λEP a0=>∀_:Env,
 bB .add 3 M (i 1) λa1=>I EP a1 a0)) (K G h)) (λI=>I a (i 0) g)
def P75:dI:=λi=>match i with
 | 5=>(.of [(0,[]),(1,[]),(2,[]),(3,[]),(4,[]),(5,[]),(6,[]),(7,[]),(8,[]),(9,[]),(10,[]),(11,[]),(12,[]),(14,[]),(16,[]),(17,[]),(18,[]),(19,[]),(20,[]),(21,[]),(22,[]),(23,[]),(24,[]),(13,[4,8,19,22]),(15,[]),(25,[]),(26,[]),(27,[]),(28,[]),(29,[]),(30,[])])
 | _=>.nil
theorem akE(u:Value)(h:S75 w K u):CR 75 [u] w K:=
 qO 63 P75 4 [.tmp 2] Tryz.func75 h
def S64(B O:Value):Prop:=
 nC B λa=>fA 44 a 5 λb=>sA 42 b (.slice none 0 0) w λc=>nC B λd=>fA 44 d 4 λe=>sA 41 e (.slice none 0 0) c λf=>kJ (λK1 i4 g=>∀_:Env,
 nC B λh=>fA 44 h 0 λj=>fA 27 j 2 λk=>lA 23 k g λl=>lN 23 l λn=>bA .lss 3 i4 n λo=>cV o (nC B λp=>fA 44 p 4 λq=>lA 41 q g λr=>bS 41 1 [(0,(i (-1)))] g λs t=>
 aP 41 r s t λu v=>nC B λx=>fA 44 x 4 λy=>sA 41 y u v λz=>bB .add 3 i4 (i 1) λaa=>K1 aa z) (kJ (λK2 I W=>∀_:Env,
 lN 24 O λac=>bA .lss 3 I ac λad=>cV ad (yA (λK3=>nC B λae=>fA 44 ae 1 λaf=>lA 3 af W λag=>cF 58 [ag] W λah J=>xT ah 0 λaj=>xT ah 1 λ_=>
 fe (λK4=>iA 24 O I λak=>fA 146 ak 2 λal=>lA 141 al (drew J) λV=>iA 24 O I λan=>fA 146 an 1 λM=>lA 91 M (drew J) λG=>iA 24 O I λaq=>fA 146 aq 1 λar=>
 lA 91 ar (drew J) λE=>lN 91 E λU=>((cF 128 [V] (drew J) λav aw=>kA 91 M G aw (kA 91 ar E aw (rJ hH (Mf 41 U U) aw λax Y=>kA 141 al V Y (
 kA 91 M G Y (eR hH (l2 132 [(0,av),(1,G),(2,ax),(3,aj)].toArray) λaz=>rJ hH (zT 132 az) Y λa0 a1=>K4 a0 a1)))))
 /\((rJ hH (Mf 41 U U) (drew J) λa2 a3=>kA 141 al V a3 (kA 91 M G a3 (cF 128 [V] a3 λa4 Z=>kA 91 M G Z (kA 91 ar E Z (eR hH (l2 132 [(0,a4),(1,G),(2,a2),(3,aj)].toArray) λa6=>
 rJ hH (zT 132 a6) Z λa7 a8=>K4 a7 a8)))))
 /\
 True))) (λt8 a9=>∀_:Env,
 cF 129 [t8] a9 λ_ ba=>nC B λbb=>fA 44 bb 5 λbc=>lA 42 bc ba λbd=>bS 42 1 [(0,t8)] ba λbe bf=>aP 42 bd be bf λbg bh=>nC B λbi=>fA 44 bi 5 λbj=>sA 42 bj bg bh λbk=>
 K3 bk)) (λbl=>∀_:Env,
 bB .add 3 I (i 1) λbm=>K2 bm bl)) (K (.tuple #[]) W)) λK2=>K2 (i 0) g)) (λK1=>K1 (i 0) f)
def P64:dI:=λi=>match i with
 | 10=>(.op 0 [] (.op 1 [] (.op 2 [] (.op 3 [] (.op 4 [] (.op 6 [] (.op 7 [] (.op 8 [] (.op 9 [] (.op 10 [] (.op 11 [] (.op 12 [] (.op 13 [] (.op 14 [] (.op 15 [] (.op 16 [] (.op 18 [] (.alt 5 [10,15] (.of [(17,[4,10]),(19,[]),(20,[]),(21,[])]) (.alt 17 [4,10] (.of [(5,[10,15]),(19,[]),(20,[]),(21,[])]) .stop)))))))))))))))))))
 | _=>.nil
theorem akF(u B:Value)(h:S64 w K u B):CR 64 [u,B] w K:=
 qO 81 P64 0 [] Tryz.func64 h
theorem NI:PL 128:=dJ Tryz.func128
theorem ayo:PL 13:=dJ Tryz.func13
theorem NJ:PL 203:=dJ Tryz.func203
theorem ag0:PL 204:=dJ Tryz.func204
theorem H8:PL 171:=dJ Tryz.func171
theorem ag1:PL 129:=dJ Tryz.func129
theorem ayp:PL 80:=dJ Tryz.func80
theorem arJ:PL 22:=dJ Tryz.func22
theorem ag2:PL 168:=dJ Tryz.func168
theorem arK:PL 170:=dJ Tryz.func170
theorem arL:PL 169:=dJ Tryz.func169
theorem ayq:PL 96:=dJ Tryz.func96
theorem ayr:PL 95:=dJ Tryz.func95
theorem ays:PL 25:=dJ Tryz.func25
theorem ayt:PL 74:=dJ Tryz.func74
theorem ayu:PL 75:=dJ Tryz.func75
theorem arM:PL 64:=dJ Tryz.func64
end Go.Proofs.YtpdlpabnlkofmaaGreatDoor
namespace Go.Proofs.YtpdlpabnlkofmaaGreatDoor
open Go.Fw
def FU{α:Type}[Flat α]{P:Program}{S:Nat->Prop}{Wd:hM}{w0:World}{xs:List α}{T E O:Nat}{z:Option Nat}{v:Value}{i:Int}{x:α}{K:Value->Prop}(ht:eN P T=some (E,mv α,O,z))(h:∀w,Wd w->dA S w v xs)(J:Wd w0)(U:0<=i)(u:xs[i.toNat]?=some x)
  (k:∀p,(∀w,Wd w->At S w p x)->K p):eR P (ES T v (hZ i)) K:=by
 obtain⟨a,cap,rfl,Af,h3⟩:=h w0 J
 have nO:i.toNat<xs.length:=(kE.1 u).1
 rcases h3 with⟨rfl,_⟩|⟨b,o,rfl,h4,_⟩
 .simp at u
 obtain⟨M,inf,hi,Y,_⟩:=fp ht
 refine⟨.pointer (some ⟨b,o+i.toNat*mv α,none⟩),?_,k _ λw' B=>⟨b,_,rfl,h4 dD,λj c W=>?_⟩⟩
 .unfold ES
  rw[cX]
  show pr P _=_
  simp only[asIntOf]
  have V:pr P (underlying T)=some (.slice E):=cZ M
  have I:pr P (sizeOf E)=some (mv α):=by rw[mS hi,Y]
  simp only[cX,V,I,mO,fQ]
  have Z:0<=i/\i<(xs.length:Int):=⟨U,cK⟩
  simp only[ew Z,cX,I,mO,fQ,gE]
 obtain⟨a',CV,G,_,h6⟩:=h w' B
 cases G
 rcases h6 with⟨rfl,_⟩|⟨b',o',G,_,h5⟩
 .simp at u
 cases G
 have:=h5 (i.toNat*mv α+j) c (rU u W)
 grind
def pD(ws:List mX)(m:Mem):Prop:=(∀n,m.fJ n=(ws.filter λx=>decide (x.line=n)).map λx=>⟨x.cell,x.n⟩)/\∀x∈ws,0<=x.cell/\m.of[x.cell.toNat]?=some x.line
def gq(p:Nat)(m:Mem):HP:=pH λq:Value×Value×Value×Value×Value=>pH λws:List mX=>fact (pD ws m) (sep (bY p [q.1,q.2.1,q.2.2.1,q.2.2.2.1,q.2.2.2.2]) (sep (bH q.1 m.of) (sep (bH q.2.1 m.dV) (sep (bH q.2.2.1 m.l) (sep (bH q.2.2.2.1 m.kept) (bH q.2.2.2.2 ws))))))
structure Bn(w:World)(p:Nat)(m:Mem):Prop where
 ex:∃ov fv lv kv wv ws,pD ws m/\mR w p [ov,fv,lv,kv,wv]/\dA (λ_=>True) w ov m.of/\dA (λ_=>True) w fv m.dV/\dA (λ_=>True) w lv m.l/\dA (λ_=>True) w kv m.kept/\dA (λ_=>True) w wv ws
section
variable {w w0:World}{A:Nat->Prop}{R:List HP}{p:Nat}{m:Mem}{ov fv lv kv wv:Value}{ws:List mX}
theorem gq.shut(h:pD ws m)(u:St w0 A (bY p [ov,fv,lv,kv,wv]::bH ov m.of::bH fv m.dV::bH lv m.l::bH kv m.kept::bH wv ws::R) w):St w0 A (gq p m::R) w:=by
 have h5:=St.join u.p5.p5
 have h4:=St.join h5.p4
 have h3:=St.join h4.p3
 have h2:=St.join h3.p2
 have h1:=St.join h2.p1
 exact St.ek (ov,fv,lv,kv,wv) (St.ek ws (St.ou h h1))
theorem gq.open(u:St w0 A (gq p m::R) w):∃ov fv lv kv wv ws,pD ws m/\St w0 A (bY p [ov,fv,lv,kv,wv]::bH ov m.of::bH fv m.dV::bH lv m.l::bH kv m.kept::bH wv ws::R) w:=by
 obtain⟨⟨ov,fv,lv,kv,wv⟩,u⟩:=u.eh;obtain⟨ws,u⟩:=u.eh;obtain⟨B,u⟩:=u.mw
 have h1:=u.split
 have h2:=h1.p1.split
 have h3:=h2.p1.split
 have h4:=h3.p1.split
 have h5:=h4.p1.split
 exact⟨ov,fv,lv,kv,wv,ws,B,h5.p2.p3.p4.p5⟩
end
def FV{w:World}{p:Nat}{m:Mem}(h:Has (gq p m) w):Bn w p m:=by
 obtain⟨F,u⟩:=h.st
 obtain⟨ov,fv,lv,kv,wv,ws,B,u⟩:=gq.open u
 exact⟨ov,fv,lv,kv,wv,ws,B,u.hb,u.p1.dX,u.p2.dX,u.p3.dX,u.p4.dX,u.p5.dX⟩
def FW{α β:Type}[Flat α][Flat β]{P:Program}{S:Nat->Prop}{Wd:hM}{w0:World}{T f u:Nat}{p:Value}{x:α}(y:β){K:Value->Prop}(ht:wC P T f u)(h:∀w,Wd w->At S w p x)(B:Wd w0)(J:(j0 x)[u]?=some (ia y))(E:Flat.agg β=false)
  (k:∀q,(∀w,Wd w->At S w q y)->K q):eR P (Instr.fieldAt T p f) K:=by
 obtain⟨b,o,rfl,h2,_⟩:=h w0 B
 refine aA ht (k _ λw B=>?_)
 obtain⟨O,M,I,_,h3⟩:=h w B
 cases I
 refine⟨b,o+u,rfl,h2,λj c G=>?_⟩
 rw[Flat.nT E]at G
 grind
theorem aeB{l:List Int}{k:Nat}{e:Int}(u:0<k)(h:l[((k:Int)-1).toNat]?=some e):tG l k=e+1:=by
 unfold tG
 rw[ej cK,ob,show k-1=((k:Int)-1).toNat from cK,h];rfl
def aab{of fi:List Int}{st:Int}:pD [] (Jw of st fi):=⟨λ_=>rfl,λx h=>by cases h⟩
def C61(of fi:List Int)(st:Int)(ov fv:Value)(w:World)(B:dA (λ_=>True) w ov of)(G:dA (λ_=>True) w fv fi)(hle:of.length=fi.length)(MF:of.length<=20)(iT:0<=st/\st<=of.length)(Gl:∀(k:Nat) (n:Int),(k:Int)<st->of[k]?=some n->(n=tG of k\/(0<k/\n=tG of k-1))/\-10<=n/\n<=100):CR 61 [ov,hZ st,fv] w (λv w'=>∃b,v=.tuple #[.pointer (some ⟨b,0,none⟩),hZ 0]/\lg (gq b (Jw of st fi)) w w'):=by
 have u:=St.start w;refine ahr _ _ _ _ _ ?_;unfold S61;refine⟨_,?_,λ_ _ h=>h⟩;refine aK cS (B.ext u.aG) (aK cS (G.ext u.aG) (bW (fH (fN cK) (aK cS (B.ext u.aG) (cO (fH (fN cK) (aR (fH (fN cK) (aK cS (B.ext u.aG) (cO ?_))))))))));intro _;refine fH (fN cK) ?_;refine⟨λmm x w1=>∃k:Nat,x=hZ (k:Int)/\mm=st.toNat-k/\(k:Int)<=st/\St w bD [] w1,⟨_,0,rfl,rfl,cK,u⟩,?_⟩;rintro mm _ _ ⟨k,rfl,rfl,hk,u⟩ _;refine aR (aC (λkc=>⟨_,aH (aC (λCA=>?_) λCA=>?_),λ_ _ h=>h⟩) λkc=>?_)
 .obtain⟨xu,vx⟩:=gx of (i:=(0:Int).toNat) cK;refine aO cS B cK vx (λ_ xd=>have u:=u.drew;aD bL (xd.ext u.aG) ?_);have E:=Gl 0 xu cK (by simpa using vx);have hw1:tG of 0=0:=rfl;refine bW (fH (fN cK) (cO (fH (fN cK) ?_)));intro vQ;exact ft (aN cK ⟨_,cK,k+1,rfl,rfl,cK,u⟩)
 .refine cO (jU (ez cK) ?_);obtain⟨O,FX⟩:=gx of (i:=(k:Int).toNat) cK;refine aO cS B cK FX (λ_ aeD=>have u:=u.drew;aD bL (aeD.ext u.aG) (fg cK ?_));obtain⟨atr,Z⟩:=gx of (i:=((k:Int)-1).toNat) cK;refine aO cS B cK Z (λ_ aeE=>aD bL (aeE.ext u.aG) ?_);have E:=Gl k O cK (by simpa using FX);rw[aeB cK Z]at E;refine bW (aC (λaeF=>?_) λaeF=>?_)
  .refine aO cS B cK FX (λ_ aeG=>aD bL (aeG.ext u.aG) (fg cK (aO cS B cK Z λ_ aeH=>aD bL (aeH.ext u.aG) (aN cK (bW ?_)))));intro vQ;exact fH (fN cK) (aN cK ⟨_,cK,k+1,rfl,rfl,cK,u⟩)
  intro vQ;exact ft (aN cK ⟨_,cK,k+1,rfl,rfl,cK,u⟩)
 refine aZ ([]:List Int) u cS rfl rfl (dL rfl) (λs_x72 _ u=>jP cS (B.ext u.aG) cK cK λark J=>?_);have akH:=J _ B;have U:=(akH.ext u.aG);refine bJ u cS U (by simp;omega) ee (λY _ u=>aZ ([]:List Int) u cS rfl rfl (dL rfl) λs_x77 _ u=>?_);have Pm:=(G.ext u.aG);refine bJ u cS Pm (by simp;omega) ee (λapG _ u=>?_);obtain⟨W,rfl⟩:=u.p1.fI;obtain⟨B3,rfl⟩:=u.fI;refine pop (OC _ _ _ _ _ _) (cI (x:=(⟨W,B3,bX,bX,bX⟩:RH)) u λb_x81 _ u=>aZ ([]:List Int) u cS rfl rfl (dL rfl) λagy _ u=>?_)
 have V:=(G.ext u.aG);refine bJ u cS V (by simp;omega) ee (λM _ u=>aE (aA rW ?_));obtain⟨I,rfl⟩:=u.fI;refine aT u.p1 eg (dL rfl) (rfl) (λ_ u=>have u:=u.enc (cs':=j0 (⟨W,B3,I,bX,bX⟩:RH)) rfl;aZ ([]:List Int) u cS rfl rfl (dL rfl) λs_x89 _ u=>jP cS (G.ext u.aG) cK cK λs_x92 akK=>?_);have akL:=akK _ G;have akM:=(akL.ext u.aG);refine bJ u cS akM (by simp;omega) ee (λs_x93 _ u=>aE (aA An ?_));obtain⟨akN,rfl⟩:=u.fI;refine aT u.p1 eg (dL rfl) (rfl) (λ_ u=>?_)
 have u:=(((u.enc (cs':=j0 (⟨W,B3,I,akN,bX⟩:RH)) rfl).p1).p2).p3;have u:=u.p4.p4;simp only[List.nil_append]at u;have u:=(u.eM (α:=mX)).p5.p5.p5.p5.p5;exact⟨_,rfl,(gq.shut (m:=Jw of st fi) aab u).fresh⟩
end Go.Proofs.YtpdlpabnlkofmaaGreatDoor

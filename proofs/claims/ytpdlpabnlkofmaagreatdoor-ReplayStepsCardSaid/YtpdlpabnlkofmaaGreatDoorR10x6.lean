/-
  Part 6.
-/
import Derived.Test.YtpdlpabnlkofmaaGreatDoorR10x5
set_option maxHeartbeats 8000000
set_option linter.all false
set_option maxRecDepth 100000
open Go.Fw.Flat renaming val->hM,enc->ia,sz->l1
open ByteArray renaming mk->hZ
open List renaming getElem?_eq_some_iff->ir,mem_of_getElem?->j0,length_append->kH,length_singleton->lH,getElem?_eq_none->mC,append_assoc->mX,getD_eq_getElem?_getD->n0,mem_map->n4,length_cons->n5,mem_cons_self->ob,mem_append->oi,append_nil->oj,mem_cons_of_mem->o4,mem_cons->sk,mem_singleton->sM,any_eq_false->x7,length_nil->Ei,length_set->FX,mem_or_eq_of_mem_set->SZ
open Nat renaming zero_le->kO,le_refl->o5,le_succ->K9
open Go.Instr renaming build->l0,sliceAt->nn,box->yg,indexAt->E4,makeSlice->MX
open Option renaming bind_some->l2,some->n3
open Go.Value renaming int->mn
open Go.Fw.Deep renaming dr->mL
open Bool renaming and_eq_true->nS,not_eq_true'->qm,or_eq_false_iff->Js
open Int renaming toNat_natCast->o6,le_refl->LB,eq_ofNat_of_zero_le->Nh
open Decidable renaming not_not->u3
namespace Go.Proofs.YtpdlpabnlkofmaaGreatDoor
open Go.Fw
theorem ZX{l:List bQ}{i:Int}{R:List bY×Int×Int×Int}(h:vI l i=some R)(hi:¬ i<0):∃x,HC l 10000 i 0 0=some x/\
  (if x.e≠0 then some ([],0,x.e,x.at_)else match yZ x.l,l[i.toNat]? with
  | some t,some k=>if x.l.length<=10000 then(if 12<t.depth then some ([],0,7,k.at_)else if 40<x.l.length then some ([],0,2,k.at_)else some (x.l,x.to,0,0))else none
  | _,_=>none)=some R:=by
 unfold vI at h;rw[eb hi]at h
 cases hx:HC l 10000 i 0 0 with
 | none=>grind
 | some x=>grind
theorem Qv{x:fI}{o:Option bQ}{R:List bY×Int×Int×Int}(h:(match yZ x.l,o with
  | some t,some k=>if x.l.length<=10000 then(if 12<t.depth then some ([],0,7,k.at_)else if 40<x.l.length then some ([],0,2,k.at_)else some (x.l,x.to,0,0))else none
  | _,_=>none)=some R):∃t k,yZ x.l=some t/\o=some k/\x.l.length<=10000/\(if 12<t.depth then some ([],0,7,k.at_)else if 40<x.l.length then some ([],0,2,k.at_)else some (x.l,x.to,0,0))=some R:=by
 grind
def C258(l:List bQ)(j:Nat)(lv:Value)(i d n:Int)(r:fI)(w:World)(M:dz (λ_=>True) w lv l)(hk:iY l)(HR:aj7 l (HC l j))(h0:0<=i/\i<=l.length)(hd:0<=d/\d<=12)(hnn:0<=n/\n<=5)(hr:HC l (j+1) i d n=some r):CR 258 [lv,hH i,hH d,hH n] w (λv w'=>∃sh:dT,v=hM sh/\kZ (eH λw=>mL w sh r) w w'):=by
 have Dr:=hk.n;have hn:l.length<=1000000:=bL
 have r8:=hk.at_;have u:=St.start w;refine ach _ _ _ _ _ _ ?_;unfold S258;refine aQ u te (λT6 _ u=>have u:=u.enc (cs':=ia (⟨cI,0,0,0⟩:dT)) rfl;aG (aC (λjd=>?_) λjd=>?_))
 .refine dO af8 (C294 l (HC l j) _ i d r _ (M.ext u.aF) hk HR h0 hd (ahm (by rw[jd]at hr;exact hr))) ?_;rintro _ _ ⟨aka,rfl,I⟩;have u:=u.made I;obtain⟨A1,Qs,_⟩:=u.eH;subst Qs;refine aK (x:=(⟨A1,r.to,r.e,r.at_⟩:dT)) u.p1 fT rfl rfl (λ_ u=>aE fT u.At ?_);have E:r=(⟨r.l,r.to,r.e,r.at_⟩:fI):=rfl;rw[E];have u:=u.p1.dD (Ψ:=(λw=>mL w (⟨A1,r.to,r.e,r.at_⟩:dT) (⟨r.l,r.to,r.e,r.at_⟩:fI))) (λ_ h=>⟨_,rfl,kY h⟩);have u:=u.p1.drop;exact⟨_,rfl,u.fresh⟩
 obtain⟨J,hx1,ayz⟩:=arG hr jd;refine aJ bL (dO Rx ((HR _ i d (n+1) J _ (M.ext u.aF) hx1 h0 hd bL).1) ?_);rintro _ _ ⟨ayA,rfl,I⟩;have u:=u.made I;obtain⟨JH,aks,_⟩:=u.eH;subst aks;refine aQ u te (λBF _ u=>have u:=u.enc (cs':=ia (⟨cI,0,0,0⟩:dT)) rfl;aK (x:=(⟨JH,J.to,J.e,J.at_⟩:dT)) u fT rfl rfl λ_ u=>?_);have u:=u.p2.p2.p2.p1.dD (Ψ:=λw=>DL w (hM JH) J.l) (λ_ h=>kY h);have u:=u.p2.p1.p2;refine⟨λV w'=>∃(x:fI) (g:SV),vH (HC l j) l d n V x=some r/\St w aY [bZ BF (ia (⟨g,x.to,x.e,x.at_⟩:dT)),eH (λw=>DL w (hM g) x.l),bZ T6 (ia (⟨cI,0,0,0⟩:dT))] w',⟨j,J,JH,ayz,u⟩,?_⟩
 rintro V _ ⟨x,g,B,u⟩ _;obtain⟨j2,rfl⟩:=Qq B;refine aA uj (aB (v:=hH x.e) jx u.hb rfl (aG (aC (λMr=>?_) λMr=>?_)))
 .have u:=u.p2.p2.p2;refine⟨λV o kk w'=>∃k:Nat,o=hH (Fq l x.to n k)/\kk=hH (k:Int)/\V=(qF n).length-k/\k<=(qF n).length/\St w aY [bZ BF (ia (⟨g,x.to,x.e,x.at_⟩:dT)),eH (λw=>DL w (hM g) x.l),bZ T6 (ia (⟨cI,0,0,0⟩:dT))] w',⟨_,0,rfl,rfl,rfl,kO _,u⟩,?_⟩;rintro V _ _ _ ⟨k,rfl,rfl,rfl,Ep,u⟩ _;have hfl4:=Qr n;refine ef Wq u (C295 n _ bL) (λx31 _ I u=>aH cQ u.dQ (aO (aC (λyE=>⟨λjv w'=>jv=hH (Fq l x.to n (k+1))/\St w aY [bZ BF (ia (⟨g,x.to,x.e,x.at_⟩:dT)),eH (λw=>DL w (hM g) x.l),bZ T6 (ia (⟨cI,0,0,0⟩:dT))] w',?_,?_⟩) λyE=>?_)))
  .refine aA oG (have u:=u.drew;aB (v:=hH x.to) bO u.p1.hb rfl (ef Wq u (C295 n _ bL) λx40 _ I u=>?_));refine⟨aI bO (u.p2.hb.cell rfl),?_⟩;obtain⟨Fs,W⟩:=gx (qF n) (i:=(k:Int).toNat) bL;refine dJ u cQ bL bL (λ_ Nj=>fV u bO Nj W ?_);have hfb:=ZU W;refine aS anG u (C296 Fs _ bL) (λ_ he u=>?_);refine⟨aI bO (u.p2.hb.cell rfl),?_⟩;exact aS vu u (C209 _ l x.to (Nc Fs) _ (M.ext u.aF) hn) (λ_ _ u=>aX (λMc=>ef Wq u (C295 n _ bL) λ_ _ _ u=>dJ u cQ bL bL λ_ L9=>fV u bO L9 W (have u:=u.drop.drop.drop.p2.p2.p2;⟨by rw[HA (k:=k) W,ee Mc]<;>rfl,u⟩)) λMc=>have u:=u.drop.drop.p2.p2.p2;⟨by rw[HA (k:=k) W,eb (by simpa using Mc)]<;>rfl,u⟩)
  .rintro _ _ ⟨rfl,u⟩ _;exact aJ bL ⟨_,bL,k+1,rfl,rfl,rfl,bL,u⟩
  have Y:Fq l x.to n k=JF l x.to n:=by unfold JF;rw[show k=(qF n).length from bL]
  refine aG (aC (λvC=>?_) λvC=>?_)
  .refine aE fT u.p1.At (aK (x:=(⟨g,x.to,x.e,x.at_⟩:dT)) u.p3 fT rfl rfl λ_ u=>aE fT u.At ?_);have E:r=(⟨x.l,x.to,x.e,x.at_⟩:fI):=ZV (x:=x) B bL (by rw[<- Y];exact vC);rw[E];have u:=u.p3.dD (Ψ:=(λw=>mL w (⟨g,x.to,x.e,x.at_⟩:dT) (⟨x.l,x.to,x.e,x.at_⟩:fI))) (λ_ h=>⟨_,rfl,id h⟩);have u:=u.p1.drop.p1.drop.p1.drop;exact⟨_,rfl,u.fresh⟩
  obtain⟨t,y,h0t,ht,hy,hye,G⟩:=ZW B bL (by rw[<- Y];exact vC);have OD:=(ir.1 ht).1;refine aA oG (aB (v:=hH x.to) bO u.p1.hb rfl (aJ bL (aJ bL (dO Rx ((HR _ (x.to+1) d (n+1) y _ (M.ext u.aF) hy bL hd bL).1) ?_))));rintro _ _ ⟨ayC,rfl,I⟩;have u:=u.made I;obtain⟨Z,aku,_⟩:=u.eH;subst aku;refine aQ u te (λb_y12 _ u=>have u:=u.enc (cs':=ia (⟨cI,0,0,0⟩:dT)) rfl;aK (x:=(⟨Z,y.to,y.e,y.at_⟩:dT)) u fT rfl rfl λ_ u=>aA uj (aB (v:=hH y.e) jx u.hb rfl (bT (aC (λuC=>?_) λuC=>?_))))
  .refine aE fT u.At (aK (x:=(⟨Z,y.to,y.e,y.at_⟩:dT)) u.p5 fT rfl rfl λ_ u=>aE fT u.At ?_);have E:r=(⟨y.l,y.to,y.e,y.at_⟩:fI):=hye uC;rw[E];have u:=u.p2.dD (Ψ:=(λw=>mL w (⟨Z,y.to,y.e,y.at_⟩:dT) (⟨y.l,y.to,y.e,y.at_⟩:fI))) (λ_ h=>⟨_,rfl,kY h⟩);have u:=u.p1.drop.p1.drop.p1.drop.p1.drop.p1.drop;exact⟨_,rfl,u.fresh⟩
  refine aA oG (aB (v:=hH x.to) bO u.p3.hb rfl (aM fH (M.ext u.aF) bL ht λ_ Yx=>bW t.at_ lr Yx rfl rfl λ_ arJ=>aE bO arJ (pop (D5 _ _) (aW ([(⟨(Fq l x.to n k),0,(hZ #[]),t.at_⟩:bY)]) u gV rfl rfl (dM rfl) λarK _ u=>aA rN (aB (v:=hM (g:SV)) jy u.p4.hb rfl ?_)))));have BG:=(G bL).1;have akv:=(DL.flat (id u.p5.eH));refine bJ u gV akv (by simp;omega) cZ (λaqh _ u=>aA rN (aB (v:=hM (Z:SV)) jy u.p1.hb rfl ?_));have akw:=(DL.flat (kY u.p2.eH))
  refine bJ u gV akw (by simp;omega) cZ (λs_x82 _ u=>aA oG (aB (v:=hH y.to) bO u.p1.hb rfl ?_));obtain⟨O,rfl⟩:=u.fQ;refine pop (yU _ _ _ _) (aK (x:=(⟨O,y.to,0,0⟩:dT)) u.p4 fT rfl rfl λ_ u=>aG (aC (λEV=>?_) λEV=>?_))
  .refine aE fT u.At (aK (x:=(⟨O,y.to,0,0⟩:dT)) u.p6 fT rfl rfl λ_ u=>aE fT u.At ?_);have E:r=(⟨(([(⟨(Fq l x.to n k),0,(hZ #[]),t.at_⟩:bY)]++x.l)++y.l),y.to,0,0⟩:fI):=((G bL).2.1 EV).trans (by rw[<- Y]);rw[E];have u:=u.p2.freeze.dD (Ψ:=(λw=>mL w (⟨O,y.to,0,0⟩:dT) (⟨(([(⟨(Fq l x.to n k),0,(hZ #[]),t.at_⟩:bY)]++x.l)++y.l),y.to,0,0⟩:fI))) (λ_ h=>⟨_,rfl,DL.j3 h⟩);have u:=u.p1.drop.p1.drop.p1.drop.p1.drop.p1.drop.p1.drop;exact⟨_,rfl,u.fresh⟩
  have u:=u.p1.freeze.dD (Ψ:=λw=>DL w (hM O) ([(⟨Fq l x.to n k,0,hZ #[],t.at_⟩:bY)]++x.l++y.l)) (λ_ h=>DL.j3 h);have u:=u.p2.drop.p2.drop.p2.drop.p2.drop.p2.p1.p2;have U:=(G bL).2.2 EV;rw[<- Y]at U;exact⟨_,bL,⟨_,_,_,_⟩,O,U,u⟩
 refine aE fT u.At (aK (x:=(⟨g,x.to,x.e,x.at_⟩:dT)) u.p2 fT rfl rfl λ_ u=>aE fT u.At ?_);have E:r=(⟨x.l,x.to,x.e,x.at_⟩:fI):=aex (x:=x) B bL;rw[E];have u:=u.p2.dD (Ψ:=(λw=>mL w (⟨g,x.to,x.e,x.at_⟩:dT) (⟨x.l,x.to,x.e,x.at_⟩:fI))) (λ_ h=>⟨_,rfl,id h⟩);have u:=u.p1.drop.p1.drop;exact⟨_,rfl,u.fresh⟩
theorem akx{l:List bQ}(u:iY l):∀j,aj7 l (HC l j)
 | 0=>λlv i d n r w E B=>by cases B
 | j+1=>λlv i d n r w E B G hd I=>⟨C258 l j lv i d n r w E u (akx u j) G hd I B,λh5=>by subst h5;exact C294 l (HC l j) lv i d r w E u (akx u j) G hd (ahm B)⟩
def C213(l:List bQ)(lv:Value)(i:Int)(R:List bY×Int×Int×Int)(w:World)(hL:dz (λ_=>True) w lv l)(V:iY l)(hil:i<=l.length)(I:vI l i=some R):CR 213 [lv,hH i] w (λv w'=>∃sv:SV,v=.tuple #[hM sv,hH R.2.1,hH R.2.2.1,hH R.2.2.2]/\kZ (eH λw=>DL w (hM sv) R.1) w w'):=by
 have Dr:=V.n;have hn:l.length<=1000000:=bL
 have r8:=V.at_;have u:=St.start w;refine pJ Tryz.func213 (pl:=avg) ?_;refine aO (aC (λgT=>?_) λgT=>?_)
 .have B:R=([],0,1,0):=by
   unfold vI at I;rw[ee gT]at I;exact(n3.inj I).symm
  rw[B];exact⟨cI,rfl,(u.gz (Φ:=λw=>DL w (hM (cI:SV)) ([]:List bY)) λw=>DL.nil w).fresh⟩
 obtain⟨x,hx,O⟩:=ZX I bL;refine dO Rx ((akx V 10000 _ i 0 0 x _ (hL.ext u.aF) hx bL bL bL).1) ?_;rintro _ _ ⟨ayD,rfl,cM⟩;have u:=u.made cM;obtain⟨E,aky,_⟩:=u.eH;subst aky;refine aQ u te (λT6 _ u=>have u:=u.enc (cs':=ia (⟨cI,0,0,0⟩:dT)) rfl;aK (x:=(⟨E,x.to,x.e,x.at_⟩:dT)) u fT rfl rfl λ_ u=>aA uj (aB (v:=hH x.e) jx u.hb rfl (bT (aC (λdP=>?_) λdP=>?_))))
 .refine aA uj (have u:=u.drew;aB (v:=hH x.e) jx u.hb rfl (aA WQ (aB (v:=hH x.at_) bO u.hb rfl ?_)))
  have B:R=([],0,x.e,x.at_):=by
   rw[ee dP]at O;exact(n3.inj O).symm
  rw[B];exact⟨cI,rfl,(u.gz (Φ:=λw=>DL w (hM (cI:SV)) ([]:List bY)) λw=>DL.nil w).fresh⟩
 rw[eb dP]at O;obtain⟨Z,M,U,Hb,hxl,G⟩:=Qv O;have htki:=(ir.1 Hb).1;obtain⟨W,tG⟩:=u6 U;have Y:Bn x.l 0 Z:=⟨bL,W,[],by simpa using tG⟩;refine aA rN (aB (v:=hM (E:SV)) jy u.hb rfl (aS Wm u (C252 _ x.l 0 Z (Z.size+1) _ (DL.flat (kY u.p1.eH)) bL Y bL) λ_ he u=>cP (aC (λJ=>?_) λJ=>aA rN (aB (v:=hM (E:SV)) jy u.hb rfl (aH gV (DL.flat (kY u.p1.eH)) (cP (aC (λyE=>?_) λyE=>?_)))))))
 .refine aM fH (hL.ext u.aF) bL Hb (λ_ rV=>bW M.at_ lr rV rfl rfl λ_ EB=>have u:=u.drew;aE bO EB ?_)
  have B:R=([],0,7,M.at_):=by
   rw[ee J]at G;exact(n3.inj G).symm
  rw[B];exact⟨cI,rfl,(u.gz (Φ:=λw=>DL w (hM (cI:SV)) ([]:List bY)) λw=>DL.nil w).fresh⟩
 .refine aM fH (hL.ext u.aF) bL Hb (λ_ Es=>bW M.at_ lr Es rfl rfl λ_ AG=>have u:=u.drew;aE bO AG ?_)
  have B:R=([],0,2,M.at_):=by
   rw[eb J,ee bL]at G;exact(n3.inj G).symm
  rw[B];exact⟨cI,rfl,(u.gz (Φ:=λw=>DL w (hM (cI:SV)) ([]:List bY)) λw=>DL.nil w).fresh⟩
 refine aA rN (have u:=u.drew;aB (v:=hM (E:SV)) jy u.hb rfl (aA oG (aB (v:=hH x.to) bO u.hb rfl ?_)));have u:=u.p1.dD (Ψ:=λw=>DL w (hM E) x.l) (λ_ h=>kY h)
 have B:R=(x.l,x.to,0,0):=by
  rw[eb J,eb bL]at G;exact(n3.inj G).symm
 rw[B];exact⟨E,rfl,u.fresh⟩
structure fM where
 at_:Int
 e:Int
 pos:Int
deriving DecidableEq
def jm(l:List bQ)(s:fM)(e:Int):fM:=if s.e=0 then {s with e:=if (l.length:Int)<=s.at_ then 6 else e,pos:=m6 l s.at_}else s
def dR(l:List bQ)(s:fM)(t:ByteArray):fM:=if (decide (s.e=0)&&tz l s.at_ t)=true then {s with at_:=s.at_+1}else jm l s 5
def lI(l:List bQ)(i:Int):Option bQ:=if 0<=i then l[i.toNat]? else none
def tA(l:List bQ)(s:fM):Bool:=decide (s.e=0)&&(match lI l s.at_ with|some t=>decide (t.kind=1)&&gJ t.text|none=>false)
def pa(l:List bQ)(i:Int):bQ:=(lI l i).getD ⟨0,⟨#[]⟩,0,0⟩
def dw(l:List bQ)(s:fM):fM×ByteArray:=if tA l s=true then({s with at_:=s.at_+1},(pa l s.at_).text)else(jm l s 5,⟨#[]⟩)
def qT(l:List bQ)(s:fM):Option (fM×List bY):=if s.e≠0 then some (s,[])else(vI l s.at_).bind λR=>
 if R.2.2.1≠0 then some ({s with e:=R.2.2.1,pos:=R.2.2.2},[])else if 0<=R.2.1/\R.2.1<=l.length then some ({s with at_:=R.2.1},R.1)else none
def Qx(l:List bQ)(s:fM):Bool:=decide (s.e=0)&&(match lI l s.at_ with|some t=>decide (t.kind=2)|none=>false)
def kM(l:List bQ)(s:fM):fM×Int:=if Qx l s=true then(if 1<=(pa l s.at_).n/\(pa l s.at_).n<=8 then({s with at_:=s.at_+1},(pa l s.at_).n)else(jm l s 11,0))else(jm l s 5,0)
def DC:List ByteArray:=[⟨#[]⟩,⟨#[]⟩,⟨#[108,111,97,100]⟩,⟨#[115,116,111,114,101]⟩,⟨#[99,97,115]⟩,⟨#[102,108,117,115,104]⟩,⟨#[111,112,116]⟩,⟨#[115,102,101,110,99,101]⟩,⟨#[109,102,101,110,99,101]⟩,⟨#[116,97,107,101]⟩,⟨#[103,105,118,101]⟩,⟨#[105,102]⟩,⟨#[108,111,111,112]⟩,⟨#[98,114,101,97,107]⟩,⟨#[99,104,101,99,107]⟩]
def HD(k:Int):ByteArray:=(DC[k.toNat]?).getD ⟨#[]⟩
def ld(l:List bQ)(s:fM):Prop:=0<=s.at_/\s.at_<=l.length
section
variable {l:List bQ}{s:fM}{e:Int}{t:ByteArray}
theorem tB(h:ld l s):ld l (jm l s e):=by unfold jm;split<;>exact h
theorem fE(h:ld l s):ld l (dR l s t):=by
 unfold dR;split
 .rename_i h2
  rw[nS]at h2
  have:=sC h2.2
  exact⟨cH,cH⟩
 exact tB h
theorem mA{i:Int}{k:bQ}(h:lI l i=some k):0<=i/\i<l.length/\l[i.toNat]?=some k:=by
 unfold lI at h
 grind
theorem A3(h:tA l s=true):s.e=0/\∃k,lI l s.at_=some k/\k.kind=1/\gJ k.text=true:=by
 unfold tA at h
 grind
theorem Tc(h:Qx l s=true):s.e=0/\∃k,lI l s.at_=some k/\k.kind=2:=by
 unfold Qx at h
 grind
theorem gK(h:ld l s):ld l (dw l s).1:=by
 unfold dw;split
 .rename_i h2
  obtain⟨_,k,u,_⟩:=A3 h2
  have:=mA u
  exact⟨cH,cH⟩
 exact tB h
theorem U3(h:ld l s):ld l (kM l s).1:=by
 unfold kM;split
 .rename_i h2
  obtain⟨_,k,u,_⟩:=Tc h2
  have:=mA u
  split
  .exact⟨cH,cH⟩
  exact tB h
 exact tB h
theorem sD{s':fM}{x:List bY}(h:ld l s)(u:qT l s=some (s',x)):ld l s':=by
 unfold qT at u
 split at u
 .grind
 cases hx:vI l s.at_ with
 | none=>grind
 | some R=>
  grind[ld]
end
@[reducible] def eg(lv ov:Value)(s:fM):List Value:=[lv,.int .i64 s.at_,.int .i64 s.e,.int .i64 s.pos,ov]
@[reducible] def et(lv:Value)(s:fM):List Value:=[lv,.int .i64 s.at_,.int .i64 s.e,.int .i64 s.pos]
def iw(l:List bQ)(s:fM)(t:ByteArray):fM×Bool:=if (decide (s.e=0)&&tz l s.at_ t)=true then({s with at_:=s.at_+1},true)else(s,false)
def eZ(l:List bQ)(s:fM):fM×cG:=if tA l s=true then({s with at_:=s.at_+1},⟨(pa l s.at_).text,0,(pa l s.at_).at_⟩)else(jm l s 5,⟨⟨#[]⟩,0,0⟩)
def kf{l:List bQ}{s:fM}{t:ByteArray}(h:ld l s):ld l (iw l s t).1:=by
 unfold iw;split
 .rename_i h2
  rw[nS]at h2
  have:=sC h2.2
  exact⟨cH,cH⟩
 exact h
def uI{l:List bQ}{s:fM}(h:ld l s):ld l (eZ l s).1:=by
 unfold eZ;split
 .rename_i h2
  obtain⟨_,k,u,_⟩:=A3 h2
  have:=mA u
  exact⟨cH,cH⟩
 exact tB h
theorem ZY{l:List bQ}{s u:fM}{x:List bY}(h:qT l s=some (u,x))(B:¬ s.e≠0):∃R,vI l s.at_=some R/\
  (if R.2.2.1≠0 then some ({s with e:=R.2.2.1,pos:=R.2.2.2},[])else if 0<=R.2.1/\R.2.1<=l.length then some ({s with at_:=R.2.1},R.1)else none)=some (u,x):=by
 unfold qT at h;rw[eb B]at h
 cases hx:vI l s.at_ with
 | none=>grind
 | some R=>grind
def ZZ{l:List bQ}{s u:fM}{x:List bY}{R:List bY×Int×Int×Int}(h:(if R.2.2.1≠0 then some ({s with e:=R.2.2.1,pos:=R.2.2.2},[])else if 0<=R.2.1/\R.2.1<=l.length then some ({s with at_:=R.2.1},R.1)else none)=some (u,x))(B:¬ R.2.2.1≠0):0<=R.2.1/\R.2.1<=l.length:=by
 grind
def C291(p:Nat)(lv ov:Value)(l:List bQ)(s:fM)(e:Int)(F:Nat->Prop)(w:World)(U:(bZ p (eg lv ov s)).p w F)(E:∀w',gC F w w'->dz (λ_=>True) w' lv l)(I:iY l)(V:ld l s):CR 291 [(.pointer (some ⟨p,0,none⟩)),hH e] w (λv w'=>v=.tuple #[]/\mH F (bZ p (eg lv ov (jm l s e))) w w'):=by
 have u:=St.begin U;have Dr:=I.n;have J:l.length<=1000000:=bL
 have M:=I.at_;obtain⟨Td,Te⟩:=id V;refine pJ Tryz.func291 (pl:=avu) ?_;refine aD (aA kz (aB jx u.hb rfl (aG (aC (λB=>aD (aA kz (aV u jx (dM rfl) (rfl) λ_ u=>⟨_,aD (aA eY (have u:=u.drew;aB bO u.hb rfl (aD (aA iC (aB jb u.hb rfl (aH fH (E _ u.aF) (cR (aC (λG=>?_) λG=>?_)))))))),λ_ h=>h⟩))) λB=>?_))))
 .refine aD (aA kz (aV u jx (dM rfl) (rfl) λ_ u=>?_));intro Y;refine aD (aA iC (have u:=u.drew;aB jb u.hb rfl (aD (aA eY (aB bO u.hb rfl (aS GF u (C214 _ l s.at_ _ (E _ u.aF) J M) λZ W u=>aD (aA Ah (aV u bO (dM rfl) (rfl) λO u=>?_))))))));have hb:jm l s e=(⟨s.at_,6,(m6 l s.at_)⟩:fM):=by unfold jm;rw[ee B,ee G]
  rw[hb];exact⟨rfl,u.mut⟩
 .intro Y;refine aD (aA iC (have u:=u.drew;aB jb u.hb rfl (aD (aA eY (aB bO u.hb rfl (aS GF u (C214 _ l s.at_ _ (E _ u.aF) J M) λZ W u=>aD (aA Ah (aV u bO (dM rfl) (rfl) λO u=>?_))))))));have hb:jm l s e=(⟨s.at_,e,(m6 l s.at_)⟩:fM):=by unfold jm;rw[ee B,eb G]
  rw[hb];exact⟨rfl,u.mut⟩
 have hb:jm l s e=s:=by unfold jm;rw[eb B]
 rw[hb];exact⟨rfl,u.mut⟩
def C136(p:Nat)(lv:Value)(l:List bQ)(s:fM)(F:Nat->Prop)(w:World)(U:(bZ p (et lv s)).p w F)(G:∀w',gC F w w'->dz (λ_=>True) w' lv l)(I:iY l)(V:ld l s):CR 136 [(.pointer (some ⟨p,0,none⟩))] w (λv w'=>v=.tuple #[]/\mH F (bZ p (et lv (jm l s 5))) w w'):=by
 have u:=St.begin U;have Dr:=I.n;have J:l.length<=1000000:=bL
 have M:=I.at_;obtain⟨Td,Te⟩:=id V;refine pJ Tryz.func136 (pl:=au6) ?_;refine aD (aA lZ (aB jx u.hb rfl (aG (aC (λB=>aD (aA lZ (aV u jx (dM rfl) (rfl) λ_ u=>⟨_,aD (aA ft (have u:=u.drew;aB bO u.hb rfl (aD (aA jT (aB jb u.hb rfl (aH fH (G _ u.aF) (cR (aC (λE=>?_) λE=>?_)))))))),λ_ h=>h⟩))) λB=>?_))))
 .refine aD (aA lZ (aV u jx (dM rfl) (rfl) λ_ u=>?_));intro Y;refine aD (aA jT (have u:=u.drew;aB jb u.hb rfl (aD (aA ft (aB bO u.hb rfl (aS GF u (C214 _ l s.at_ _ (G _ u.aF) J M) λZ W u=>aD (aA wo (aV u bO (dM rfl) (rfl) λO u=>?_))))))));have hb:jm l s 5=(⟨s.at_,6,(m6 l s.at_)⟩:fM):=by unfold jm;rw[ee B,ee E]
  rw[hb];exact⟨rfl,u.mut⟩
 .intro Y;refine aD (aA jT (have u:=u.drew;aB jb u.hb rfl (aD (aA ft (aB bO u.hb rfl (aS GF u (C214 _ l s.at_ _ (G _ u.aF) J M) λZ W u=>aD (aA wo (aV u bO (dM rfl) (rfl) λO u=>?_))))))));have hb:jm l s 5=(⟨s.at_,5,(m6 l s.at_)⟩:fM):=by unfold jm;rw[ee B,eb E]
  rw[hb];exact⟨rfl,u.mut⟩
 have hb:jm l s 5=s:=by unfold jm;rw[eb B]
 rw[hb];exact⟨rfl,u.mut⟩
def C257(p:Nat)(lv ov:Value)(l:List bQ)(s:fM)(t:ByteArray)(F:Nat->Prop)(w:World)(U:(bZ p (eg lv ov s)).p w F)(I:∀w',gC F w w'->dz (λ_=>True) w' lv l)(G:iY l)(J:ld l s):CR 257 [(.pointer (some ⟨p,0,none⟩)),.string t] w (λv w'=>v=.tuple #[]/\mH F (bZ p (eg lv ov (dR l s t))) w w'):=by
 have u:=St.begin U;have Dr:=G.n;have V:l.length<=1000000:=bL
 have r8:=G.at_;obtain⟨Td,Te⟩:=id J;refine pJ Tryz.func257 (pl:=avo) ?_;refine⟨λO w'=>O=.bool (decide (s.e=0)&&tz l s.at_ t)/\St w F [bZ p (eg lv ov s)] w',aD (aA kz (have u:=u.drew;aB jx u.hb rfl (aG (aC (λB=>aD (aA iC (aB jb u.hb rfl (aD (aA eY (aB bO u.hb rfl (aS vu u (C209 _ l s.at_ t _ (I _ u.aF) V) λ_ _ u=>⟨vb (by first|(rw[ei B];rfl)|(rw[ej B];rfl)),u⟩))))))) λB=>⟨vb (by first|(rw[ei B];rfl)|(rw[ej B];rfl)),u⟩)))),?_⟩;rintro _ _ ⟨rfl,u⟩ _;refine aX (λE=>?_) (λE=>?_)
 .have Z:=sC (by rw[nS]at E;exact E.2);refine aD (aA eY (aB bO u.hb rfl (aJ bL (aD (aA eY (aV u bO (dM rfl) (rfl) λ_ u=>?_))))));have hb:dR l s t={s with at_:=s.at_+1}:=by unfold dR;rw[ee (by simpa using E)]
  rw[hb];exact⟨rfl,u.mut⟩
 refine bD GH u (H':=λ_=>bZ p (eg lv ov (jm l s 5))) (Φ:=λ_ _=>True) (λM Y W=>?_) ?_
 .exact(C291 p lv ov l s 5 M _ Y (λw' hc=>I w' (W w' hc).aF) G J).mono λ_ _ r=>r.mono λ_ _ h=>⟨trivial,h.2⟩
 rintro _ _ _ u;have hb:dR l s t=jm l s 5:=by unfold dR;rw[eb (by simpa using E)]
 rw[hb];exact⟨rfl,u.mut⟩
def C131(p:Nat)(lv:Value)(l:List bQ)(s:fM)(t:ByteArray)(F:Nat->Prop)(w:World)(M:(bZ p (et lv s)).p w F)(I:∀w',gC F w w'->dz (λ_=>True) w' lv l)(G:iY l)(U:ld l s):CR 131 [(.pointer (some ⟨p,0,none⟩)),.string t] w (λv w'=>v=.bool (iw l s t).2/\mH F (bZ p (et lv (iw l s t).1)) w w'):=by
 have u:=St.begin M;have Z:=G.n;have O:l.length<=1000000:=bL
 have Y:=G.at_;obtain⟨Td,W⟩:=id U;refine pJ Tryz.func131 (pl:=auX) ?_;refine⟨λJ w'=>J=.bool (decide (s.e=0)&&tz l s.at_ t)/\St w F [bZ p (et lv s)] w',aD (aA lZ (have u:=u.drew;aB jx u.hb rfl (aG (aC (λE=>aD (aA jT (aB jb u.hb rfl (aD (aA ft (aB bO u.hb rfl (aS vu u (C209 _ l s.at_ t _ (I _ u.aF) O) λ_ _ u=>⟨vb (by first|(rw[ei E];rfl)|(rw[ej E];rfl)),u⟩))))))) λE=>⟨vb (by first|(rw[ei E];rfl)|(rw[ej E];rfl)),u⟩)))),?_⟩;rintro _ _ ⟨rfl,u⟩ _;refine aX (λB=>?_) (λB=>?_)
 .have V:=sC (by rw[nS]at B;exact B.2);refine aD (aA ft (aB bO u.hb rfl (aJ bL (aD (aA ft (aV u bO (dM rfl) (rfl) λ_ u=>?_))))));have hb:iw l s t=({s with at_:=s.at_+1},true):=by unfold iw;rw[ee (by simpa using B)]
  rw[hb];exact⟨rfl,u.mut⟩
 have hb:iw l s t=(s,false):=by unfold iw;rw[eb (by simpa using B)]
 rw[hb];exact⟨rfl,u.mut⟩
def C210(p:Nat)(lv:Value)(l:List bQ)(s:fM)(t:ByteArray)(F:Nat->Prop)(w:World)(W:(bZ p (et lv s)).p w F)(V:∀w',gC F w w'->dz (λ_=>True) w' lv l)(E:iY l)(J:ld l s):CR 210 [(.pointer (some ⟨p,0,none⟩)),.string t] w (λv w'=>v=.tuple #[]/\mH F (bZ p (et lv (dR l s t))) w w'):=by
 have B:=St.begin W;have Dr:=E.n;have Z:l.length<=1000000:=bL
 have r8:=E.at_;obtain⟨Td,Te⟩:=id J;refine eU Tryz.func210 ?_;refine bD yo B (H':=λ_=>bZ p (et lv (iw l s t).1)) (Φ:=λv _=>v=.bool (iw l s t).2) (λG O I=>?_) ?_
 .exact C131 p lv l s t G _ O (λw' hc=>V w' (I w' hc).aF) E J
 rintro _ Y rfl B;refine bP (aX (λU=>?_) λU=>?_)
 .refine bD Rq B (H':=λ_=>bZ p (et lv (jm l (iw l s t).1 5))) (Φ:=λ_ _=>True) (λG O I=>?_) ?_
  .exact(C136 p lv l (iw l s t).1 G _ O (λw' hc=>V w' (I w' hc).aF) E (kf J)).mono λ_ _ r=>r.mono λ_ _ h=>⟨trivial,h.2⟩
  rintro _ w2 _ B
  have M:dR l s t=jm l (iw l s t).1 5:=by
   have u:(iw l s t).2=false:=by simpa using U
   unfold iw at u |-;unfold dR
   split at u
   .cases u
   .rename_i h8;rw[eb h8,eb h8]
  rw[M];exact⟨rfl,B.mut⟩
 have M:dR l s t=(iw l s t).1:=by
  have u:(iw l s t).2=true:=by simpa using U
  unfold iw at u |-;unfold dR
  split at u
  .rename_i h8;rw[ee h8,ee h8]
  .cases u
 rw[M];exact⟨rfl,B.mut⟩
def C317(p:Nat)(lv ov:Value)(l:List bQ)(s:fM)(F:Nat->Prop)(w:World)(hF:(bZ p (eg lv ov s)).p w F)(I:∀w',gC F w w'->dz (λ_=>True) w' lv l)(O:iY l)(W:ld l s):CR 317 [(.pointer (some ⟨p,0,none⟩))] w (λv w'=>v=.string (dw l s).2/\mH F (bZ p (eg lv ov (dw l s).1)) w w'):=by
 have u:=St.begin hF;have Dr:=O.n;have hn:l.length<=1000000:=bL
 have r8:=O.at_;obtain⟨Td,Te⟩:=id W;refine pJ Tryz.func317 (pl:=avC) ?_;refine⟨λjv w'=>jv=.bool (tA l s)/\St w F [bZ p (eg lv ov s)] w',?_,?_⟩
 .refine aD (aA kz (have u:=u.drew;aB jx u.hb rfl (aG (aC (λE=>aD (aA eY (aB bO u.hb rfl (aD (aA iC (aB jb u.hb rfl (aH fH (I _ u.aF) (aO (aC (λlz=>?_) λlz=>⟨vb (by unfold tA lI;first|(rw[ej E];rfl)|(rw[ee bL,mC bL];simp;done)|(rw[ee bL,G,ei E];dsimp only;first|(rw[ej B];rfl)|(rw[ei B];rfl))),u⟩))))))))) λE=>⟨vb (by unfold tA lI;first|(rw[ej E];rfl)|(rw[ee bL,mC bL];simp;done)|(rw[ee bL,G,ei E];dsimp only;first|(rw[ej B];rfl)|(rw[ei B];rfl))),u⟩))))
  refine aD (aA iC (aB jb u.hb rfl (aD (aA eY (aB bO u.hb rfl ?_)))));obtain⟨Y,G⟩:=gx l (i:=s.at_.toNat) bL;refine aM fH (I _ u.aF) bL G (λ_ AA=>bW Y.kind lq AA rfl rfl λ_ mf=>?_);exact aE bO mf (aG (aC (λB=>aD (aA iC (aB jb u.hb rfl (aD (aA eY (aB bO u.hb rfl (aM fH (I _ u.aF) bL G λ_ vD=>bW Y.text ni vD rfl rfl λ_ wW=>aE gn wW (aS uc u (C211 _ _ (by have:=r8 _ (j0 G);omega)) λ_ he u=>⟨vb (by unfold tA lI;first|(rw[ej E];rfl)|(rw[ee bL,mC bL];simp;done)|(rw[ee bL,G,ei E];dsimp only;first|(rw[ej B];rfl)|(rw[ei B];rfl))),u⟩)))))))) λB=>⟨vb (by unfold tA lI;first|(rw[ej E];rfl)|(rw[ee bL,mC bL];simp;done)|(rw[ee bL,G,ei E];dsimp only;first|(rw[ej B];rfl)|(rw[ei B];rfl))),u⟩))
 rintro _ _ ⟨rfl,u⟩ _;refine aX (λJ=>?_) (λJ=>?_)
 .obtain⟨_,U,V,_,_⟩:=A3 J;obtain⟨arL,arM,M⟩:=mA V;have Hb:l[(s.at_+1-1).toNat]?=some U:=by rw[<- M];congr 2;omega
  refine aD (aA eY (aB bO u.hb rfl (aJ bL (aD (aA eY (aV u bO (dM rfl) (rfl) λ_ u=>aD (aA iC (have u:=u.drew;aB jb u.hb rfl (aD (aA eY (aB bO u.hb rfl ?_)))))))))));refine fk bL (aM fH (I _ u.aF) bL Hb λ_ CB=>bW U.text ni CB rfl rfl λ_ Z0=>aE gn Z0 ?_);have hb:dw l s=({s with at_:=s.at_+1},U.text):=by unfold dw;rw[ee J];unfold pa;rw[V];rfl
  rw[hb];exact⟨rfl,u.mut⟩
 refine bD GH u (H':=λ_=>bZ p (eg lv ov (jm l s 5))) (Φ:=λ_ _=>True) (λZ dZ dV=>?_) ?_
 .exact(C291 p lv ov l s 5 Z _ dZ (λw' hc=>I w' (dV w' hc).aF) O W).mono λ_ _ r=>r.mono λ_ _ h=>⟨trivial,h.2⟩
 rintro _ _ _ u;have hb:dw l s=(jm l s 5,⟨#[]⟩):=by unfold dw;rw[eb (by simpa using J)]
 rw[hb];exact⟨rfl,u.mut⟩
def C133(p:Nat)(lv:Value)(l:List bQ)(s:fM)(F:Nat->Prop)(w:World)(hF:(bZ p (et lv s)).p w F)(J:∀w',gC F w w'->dz (λ_=>True) w' lv l)(V:iY l)(Y:ld l s):CR 133 [(.pointer (some ⟨p,0,none⟩))] w (λv w'=>v=hM (eZ l s).2/\mH F (bZ p (et lv (eZ l s).1)) w w'):=by
 have u:=St.begin hF;have Dr:=V.n;have hn:l.length<=1000000:=bL
 have r8:=V.at_;obtain⟨Td,Te⟩:=id Y;refine pJ Tryz.func133 (pl:=au3) ?_;refine aQ u oD (λvN _ u=>⟨λjv w'=>jv=.bool (tA l s)/\St w F [bZ p (et lv s),bZ vN (ia (⟨hZ #[],0,0⟩:cG))] w',?_,?_⟩)
 .refine aD (aA lZ (have u:=u.drew;aB jx u.p1.hb rfl (aG (aC (λE=>aD (aA ft (aB bO u.p1.hb rfl (aD (aA jT (aB jb u.p1.hb rfl (aH fH (J _ u.aF) (aO (aC (λlz=>?_) λlz=>have u:=u.p1;⟨vb (by unfold tA lI;first|(rw[ej E];rfl)|(rw[ee bL,mC bL];simp;done)|(rw[ee bL,G,ei E];dsimp only;first|(rw[ej B];rfl)|(rw[ei B];rfl))),u⟩))))))))) λE=>have u:=u.p1;⟨vb (by unfold tA lI;first|(rw[ej E];rfl)|(rw[ee bL,mC bL];simp;done)|(rw[ee bL,G,ei E];dsimp only;first|(rw[ej B];rfl)|(rw[ei B];rfl))),u⟩))))
  refine aD (aA jT (aB jb u.p1.hb rfl (aD (aA ft (aB bO u.p1.hb rfl ?_)))));obtain⟨Z,G⟩:=gx l (i:=s.at_.toNat) bL;refine aM fH (J _ u.aF) bL G (λ_ AA=>bW Z.kind lq AA rfl rfl λ_ mf=>?_);exact aE bO mf (aG (aC (λB=>aD (aA jT (aB jb u.p1.hb rfl (aD (aA ft (aB bO u.p1.hb rfl (aM fH (J _ u.aF) bL G λ_ vD=>bW Z.text ni vD rfl rfl λ_ wW=>aE gn wW (aS uc u (C211 _ _ (by have:=r8 _ (j0 G);omega)) λ_ he u=>have u:=u.p1;⟨vb (by unfold tA lI;first|(rw[ej E];rfl)|(rw[ee bL,mC bL];simp;done)|(rw[ee bL,G,ei E];dsimp only;first|(rw[ej B];rfl)|(rw[ei B];rfl))),u⟩)))))))) λB=>have u:=u.p1;⟨vb (by unfold tA lI;first|(rw[ej E];rfl)|(rw[ee bL,mC bL];simp;done)|(rw[ee bL,G,ei E];dsimp only;first|(rw[ej B];rfl)|(rw[ei B];rfl))),u⟩))
 rintro _ _ ⟨rfl,u⟩ _;refine aX (λM=>?_) (λM=>?_)
 .obtain⟨_,I,W,_,_⟩:=A3 M;obtain⟨arL,arM,U⟩:=mA W;have Hb:l[(s.at_+1-1).toNat]?=some I:=by rw[<- U];congr 2;omega
  refine aD (aA ft (aB bO u.hb rfl (aJ bL (aD (aA ft (aV u bO (dM rfl) (rfl) λ_ u=>aD (aA jT (have u:=u.drew;aB jb u.hb rfl (aD (aA ft (aB bO u.hb rfl ?_)))))))))));refine fk bL (aM fH (J _ u.aF) bL Hb λ_ CB=>bW I.text ni CB rfl rfl λ_ Z0=>aE gn Z0 (aD (aA jT (aB jb u.hb rfl (aD (aA ft (aB bO u.hb rfl (fk bL (aM fH (J _ u.aF) bL Hb λ_ O=>bW I.at_ lr O rfl rfl λ_ Nk=>?_)))))))))
  refine aE bO Nk (pop (D4 _ _) (aK (x:=(⟨I.text,0,I.at_⟩:cG)) u.p1 lK rfl rfl λ_ u=>aE lK u.At ?_));have u:=u.drop;have hb:eZ l s=({s with at_:=s.at_+1},⟨I.text,0,I.at_⟩):=by unfold eZ;rw[ee M];unfold pa;rw[W];rfl
  rw[hb];exact⟨rfl,u.mut⟩
 refine bD Rq u (H':=λ_=>bZ p (et lv (jm l s 5))) (Φ:=λ_ _=>True) (λF2 dZ dV=>?_) ?_
 .exact(C136 p lv l s F2 _ dZ (λw' hc=>J w' (dV w' hc).aF) V Y).mono λ_ _ r=>r.mono λ_ _ h=>⟨trivial,h.2⟩
 rintro _ _ _ u;refine pop acH (aK (x:=(⟨(hZ #[]),0,0⟩:cG)) u.p1 lK rfl rfl λ_ u=>aE lK u.At ?_);have u:=u.drop;have hb:eZ l s=(jm l s 5,⟨⟨#[]⟩,0,0⟩):=by unfold eZ;rw[eb (by simpa using M)]
 rw[hb];exact⟨rfl,u.mut⟩
def C290(k:Int)(w:World)(J:0<=k/\k<=14):CR 290 [hH k] w (λv w'=>v=.string (HD k)/\Ext w w'):=by
 have u:=St.start w;refine eU Tryz.func290 ?_;refine aW DC u ix rfl rfl (dM rfl) (λI _ u=>?_);have M:DC.length=15:=rfl;obtain⟨G,E⟩:=gx DC (i:=k.toNat) bL;refine dJ u ix bL bL (λ_ B=>fV u gn B E ?_);refine⟨?_,u.drop.aF⟩;unfold HD;rw[E];rfl
def C319(p:Nat)(lv ov:Value)(l:List bQ)(s:fM)(F:Nat->Prop)(w:World)(hF:(bZ p (eg lv ov s)).p w F)(G:∀w',gC F w w'->dz (λ_=>True) w' lv l)(I:iY l)(Y:ld l s):CR 319 [(.pointer (some ⟨p,0,none⟩))] w (λv w'=>v=hH (kM l s).2/\mH F (bZ p (eg lv ov (kM l s).1)) w w'):=by
 have u:=St.begin hF;have Dr:=I.n;have hn:l.length<=1000000:=bL
 have r8:=I.at_;obtain⟨Td,Te⟩:=id Y;refine pJ Tryz.func319 (pl:=avE) ?_;refine⟨λV w'=>V=.bool (Qx l s)/\St w F [bZ p (eg lv ov s)] w',?_,?_⟩
 .refine aD (aA kz (have u:=u.drew;aB jx u.hb rfl (aG (aC (λB=>aD (aA eY (aB bO u.hb rfl (aD (aA iC (aB jb u.hb rfl (aH fH (G _ u.aF) (aO (aC (λeT=>?_) λeT=>⟨vb (by unfold Qx lI;first|(rw[ej B];rfl)|(rw[ee bL,mC bL];simp;done)|(rw[ee bL,M,ei B];rfl)),u⟩))))))))) λB=>⟨vb (by unfold Qx lI;first|(rw[ej B];rfl)|(rw[ee bL,mC bL];simp;done)|(rw[ee bL,M,ei B];rfl)),u⟩))))
  refine aD (aA iC (aB jb u.hb rfl (aD (aA eY (aB bO u.hb rfl ?_)))));obtain⟨qK,M⟩:=gx l (i:=s.at_.toNat) bL;exact aM fH (G _ u.aF) bL M (λ_ mf=>bW qK.kind lq mf rfl rfl λ_ ux=>aE bO ux (aG ⟨vb (by unfold Qx lI;first|(rw[ej B];rfl)|(rw[ee bL,mC bL];simp;done)|(rw[ee bL,M,ei B];rfl)),u⟩))
 rintro _ _ ⟨rfl,u⟩ _;refine aX (λE=>?_) (λE=>?_)
 .obtain⟨_,J,O,_⟩:=Tc E;obtain⟨arL,arM,Hb⟩:=mA O;refine aD (aA iC (have u:=u.drew;aB jb u.hb rfl (aD (aA eY (aB bO u.hb rfl (aM fH (G _ u.aF) bL Hb λ_ vD=>bW J.n rM vD rfl rfl λ_ wW=>aE bO wW ⟨λV w'=>V=.bool (decide (1<=J.n/\J.n<=8))/\St w F [bZ p (eg lv ov s)] w',cR (aC (λ_=>ga ⟨vb (by first|exact(ej bL).symm|exact ew.2 bL),u⟩) λ_=>⟨vb (by first|exact(ej bL).symm|exact ew.2 bL),u⟩),?_⟩))))))
  rintro _ _ ⟨rfl,u⟩ _;refine aC (λwC=>?_) (λwC=>?_)
  .refine aD (aA eY (aB bO u.hb rfl (aJ bL (aD (aA eY (aV u bO (dM rfl) (rfl) λ_ u=>?_))))));have hb:kM l s=({s with at_:=s.at_+1},J.n):=by unfold kM;rw[ee E];unfold pa;rw[O];exact ee wC
   rw[hb];exact⟨rfl,u.mut⟩
  refine bD GH u (H':=λ_=>bZ p (eg lv ov (jm l s 11))) (Φ:=λ_ _=>True) (λU Z W=>?_) ?_
  .exact(C291 p lv ov l s 11 U _ Z (λw' hc=>G w' (W w' hc).aF) I Y).mono λ_ _ r=>r.mono λ_ _ h=>⟨trivial,h.2⟩
  rintro _ _ _ u;have hb:kM l s=(jm l s 11,0):=by unfold kM;rw[ee E];unfold pa;rw[O];exact eb wC
  rw[hb];exact⟨rfl,u.mut⟩
 refine bD GH u (H':=λ_=>bZ p (eg lv ov (jm l s 5))) (Φ:=λ_ _=>True) (λU Z W=>?_) ?_
 .exact(C291 p lv ov l s 5 U _ Z (λw' hc=>G w' (W w' hc).aF) I Y).mono λ_ _ r=>r.mono λ_ _ h=>⟨trivial,h.2⟩
 rintro _ _ _ u;have hb:kM l s=(jm l s 5,0):=by unfold kM;rw[eb (by simpa using E)]
 rw[hb];exact⟨rfl,u.mut⟩
def C318(p:Nat)(lv ov:Value)(l:List bQ)(s:fM)(B:fM)(x:List bY)(F:Nat->Prop)(w:World)(hF:(bZ p (eg lv ov s)).p w F)(Y:∀w',gC F w w'->dz (λ_=>True) w' lv l)(M:iY l)(h0:ld l s)(J:qT l s=some (B,x)):CR 318 [(.pointer (some ⟨p,0,none⟩))] w (λv w'=>mH F (pZ λW:SV=>fact (v=hM W) (sep (bZ p (eg lv ov B)) (eH λw=>DL w (hM W) x))) w w'):=by
 have u:=St.begin hF;have Dr:=M.n;have hn:l.length<=1000000:=bL
 have r8:=M.at_;obtain⟨Td,Te⟩:=id h0;refine pJ Tryz.func318 (pl:=avD) ?_;refine aD (aA kz (aB jx u.hb rfl (bT (aC (λV=>?_) λV=>?_))))
 .have E:((s,[]):fM×List bY)=(B,x):=by unfold qT at J;rw[ee V]at J;exact n3.inj J
  cases E;have u:=(u.gz (Φ:=λw=>DL w (hM (cI:SV)) ([]:List bY)) λw=>DL.nil w).p1;exact(St.er (cI:SV) (St.nZ rfl (St.join u))).mut
 refine aD (aA iC (have u:=u.drew;aB jb u.hb rfl (aD (aA eY (aB bO u.hb rfl ?_)))));obtain⟨R,O,G⟩:=ZY J bL;refine dO afZ (C213 l _ s.at_ R _ (Y _ u.aF) M bL O) ?_;rintro _ _ ⟨U,rfl,Z⟩;have u:=u.made Z;refine aN rfl (aN rfl (aN rfl (aN rfl (bT (aC (λI=>?_) λI=>?_)))))
 .refine aD (aA kz (aV u.p1 jx (dM rfl) (rfl) λ_ u=>aD (aA Ah (aV u bO (dM rfl) (rfl) λ_ u=>?_))));have E:(({s with e:=R.2.2.1,pos:=R.2.2.2},[]):fM×List bY)=(B,x):=by rw[ee I]at G;exact n3.inj G
  cases E;have u:=(u.p1.drop.gz (Φ:=λw=>DL w (hM (cI:SV)) ([]:List bY)) λw=>DL.nil w).p1;exact(St.er (cI:SV) (St.nZ rfl (St.join u))).mut
 have Dx:=ZZ G I;refine aD (aA eY (aV u.p1 bO (dM rfl) (rfl) λ_ u=>?_));have E:(({s with at_:=R.2.1},R.1):fM×List bY)=(B,x):=by rw[eb I,ee Dx]at G;exact n3.inj G
 cases E;have u:=u.p1.p1;exact(St.er U (St.nZ rfl (St.join u))).mut
def Oh(k at_:Int):bK:=⟨k,⟨#[]⟩,⟨#[]⟩,[],[],0,0,0,at_⟩
abbrev J8:ByteArray:=⟨#[61]⟩
def VR(l:List bQ)(s:fM):fM:=dR l (dw l s).1 (hZ #[61])
def s2M(l:List bQ)(s:fM):fM:=dR l (dw l (VR l s)).1 (hZ #[44])
def kN(l:List bQ)(s:fM)(k a:Int):Option (fM×bK):=
 if k=1 then(qT l (VR l s)).bind λr=>some (r.1,{Oh k a with eB:=(dw l s).2,e:=r.2})
 else if k=2 then some ((dw l (VR l s)).1,{Oh k a with eB:=(dw l s).2,name:=(dw l (VR l s)).2})
 else if k=3 then(qT l (VR l s)).bind λr=>some (r.1,{Oh k a with name:=(dw l s).2,e:=r.2})
 else if k=4 then(qT l (s2M l s)).bind λr=>(qT l (dR l r.1 (hZ #[44]))).bind λq=>some (q.1,{Oh k a with eB:=(dw l s).2,name:=(dw l (VR l s)).2,e:=r.2,f:=q.2})
 else if k=5\/k=6\/k=9\/k=10 then some ((dw l s).1,{Oh k a with name:=(dw l s).2})
 else if k=11\/k=14 then(qT l s).bind λr=>some (r.1,{Oh k a with e:=r.2})
 else if k=12 then some ((kM l s).1,{Oh k a with n:=(kM l s).2})
 else some (s,Oh k a)
section
variable {l:List bQ}{s s':fM}{k a:Int}{x:bK}
theorem eL{α β γ:Type}{o:Option (α×β)}{g:α×β->Option γ}{c:γ}(h:o.bind g=some c):∃p q,o=some (p,q)/\g (p,q)=some c:=by
 cases o with
 | none=>cases h
 | some r=>grind
theorem Tf(h:kN l s k a=some (s',x))(u:k=1):∃q e,qT l (VR l s)=some (q,e)/\s'=q/\x={Oh k a with eB:=(dw l s).2,e:=e}:=by
 unfold kN at h;rw[ee u]at h
 obtain⟨q,e,h1,h2⟩:=eL h
 grind
theorem Tg(h:kN l s k a=some (s',x))(u:k=2):s'=(dw l (VR l s)).1/\x={Oh k a with eB:=(dw l s).2,name:=(dw l (VR l s)).2}:=by
 unfold kN at h;grind
theorem Th(h:kN l s k a=some (s',x))(u:k=3):∃q e,qT l (VR l s)=some (q,e)/\s'=q/\x={Oh k a with name:=(dw l s).2,e:=e}:=by
 unfold kN at h;rw[eb bL,eb bL,ee u]at h
 obtain⟨q,e,h1,h2⟩:=eL h
 grind
theorem Ti(h:kN l s k a=some (s',x))(B:k=4):∃q e u f,qT l (s2M l s)=some (q,e)/\qT l (dR l q (hZ #[44]))=some (u,f)/\s'=u/\x={Oh k a with eB:=(dw l s).2,name:=(dw l (VR l s)).2,e:=e,f:=f}:=by
 unfold kN at h;rw[eb bL,eb bL,eb bL,ee B]at h
 obtain⟨q,e,h1,h2⟩:=eL h
 obtain⟨u,f,h3,h4⟩:=eL h2
 grind
theorem Tj(h:kN l s k a=some (s',x))(u:k=5\/k=6\/k=9\/k=10):s'=(dw l s).1/\x={Oh k a with name:=(dw l s).2}:=by
 unfold kN at h;grind
theorem Nl(h:kN l s k a=some (s',x))(u:k=11\/k=14):∃q e,qT l s=some (q,e)/\s'=q/\x={Oh k a with e:=e}:=by
 unfold kN at h;rw[eb bL,eb bL,eb bL,eb bL,eb bL,ee u]at h
 obtain⟨q,e,h1,h2⟩:=eL h
 grind
theorem Nm(h:kN l s k a=some (s',x))(u:k=12):s'=(kM l s).1/\x={Oh k a with n:=(kM l s).2}:=by
 unfold kN at h;grind
theorem Nn(h:kN l s k a=some (s',x))(h1:¬ k=1)(h2:¬ k=2)(h3:¬ k=3)(h4:¬ k=4)(h5:¬ (k=5\/k=6\/k=9\/k=10))(h6:¬ (k=11\/k=14))(u:¬ k=12):s'=s/\x=Oh k a:=by
 unfold kN at h;grind
end
def B9{l:List bQ}{s s':fM}{k a:Int}{x:bK}(B:ld l s)(h:kN l s k a=some (s',x)):ld l s':=by
 have E:ld l (VR l s):=fE (gK B)
 have G:ld l (s2M l s):=fE (gK E)
 by_cases h1:k=1
 .obtain⟨q,e,u,rfl,_⟩:=Tf h h1;exact sD E u
 by_cases h2:k=2
 .obtain⟨rfl,_⟩:=Tg h h2;exact gK E
 by_cases h3:k=3
 .obtain⟨q,e,u,rfl,_⟩:=Th h h3;exact sD E u
 by_cases h4:k=4
 .obtain⟨q,e,M,f,u,J,rfl,_⟩:=Ti h h4;exact sD (fE (sD G u)) J
 by_cases h5:k=5\/k=6\/k=9\/k=10
 .obtain⟨rfl,_⟩:=Tj h h5;exact gK B
 by_cases h6:k=11\/k=14
 .obtain⟨q,e,u,rfl,_⟩:=Nl h h6;exact sD B u
 by_cases I:k=12
 .obtain⟨rfl,_⟩:=Nm h I;exact U3 B
 obtain⟨rfl,_⟩:=Nn h h1 h2 h3 h4 h5 h6 I;exact B
def xk{α σ:Type}[Flat σ][Deep α σ]{w w0:World}{A:Nat->Prop}{L:List HP}{B:HP}{u:σ}{x:α}(E:St w0 A (B::eH (λw=>mL w u x)::L) w) :
  St w0 A ((pZ λs:σ=>fact (hM u=hM s) (sep B (eH λw=>mL w s x)))::L) w:=
 St.er (H:=λs:σ=>fact (hM u=hM s) (sep B (eH λw=>mL w s x))) u (St.nZ rfl (St.join E))
def C292(p:Nat)(lv ov:Value)(l:List bQ)(s:fM)(B a:Int)(Z:fM)(x:bK)(F:Nat->Prop)(w:World)(hF:(bZ p (eg lv ov s)).p w F)(O:∀w',gC F w w'->dz (λ_=>True) w' lv l)(J:iY l)(M:ld l s)(hp:kN l s B a=some (Z,x)):CR 292 [(.pointer (some ⟨p,0,none⟩)),hH B,hH a] w (λv w'=>mH F (pZ λsh:aZ=>fact (v=hM sh) (sep (bZ p (eg lv ov Z)) (eH λw=>mL w sh x))) w w'):=by
 have u:=St.begin hF;have Dr:=J.n;have hn:l.length<=1000000:=bL
 have r8:=J.at_;obtain⟨Td,Te⟩:=id M;refine eU Tryz.func292 ?_;refine aQ u jk (λPX _ u=>have u:=u.enc (cs':=ia (⟨0,(hZ #[]),(hZ #[]),cI,cI,0,0,0,0⟩:aZ)) rfl;pop (OJ _ _) (aQ u jk λwI _ u=>have u:=u.enc (cs':=ia (⟨0,(hZ #[]),(hZ #[]),cI,cI,0,0,0,0⟩:aZ)) rfl;aK (x:=(⟨B,(hZ #[]),(hZ #[]),cI,cI,0,0,0,a⟩:aZ)) u eG rfl rfl λw3 u=>?_));refine⟨_,?_,λ_ h=>h⟩;refine aG (aC (λwD=>?_) λwD=>aG (aC (λmR=>?_) λmR=>aG (aC (λyE=>?_) λyE=>aG (aC (λvw=>?_) λvw=>⟨λjv w'=>jv=.bool (decide (B=5\/B=6\/B=9\/B=10))/\w3=w',aG (aC (λ_=>⟨vb cH,rfl⟩) λ_=>aG (aC (λ_=>⟨vb cH,rfl⟩) λ_=>aG (aC (λ_=>⟨vb cH,rfl⟩) λ_=>aG ⟨vb cH,rfl⟩))),?_⟩))))
 .obtain⟨q,e,U,rfl,rfl⟩:=Tf hp wD;refine bD DZ u.p2 (H':=λ_=>bZ p (eg lv ov (dw l s).1)) (Φ:=λv _=>v=.string (dw l s).2) (λE I G=>?_) ?_
  .exact C317 p lv ov l s E _ I (λw' hc=>O w' (G w' hc).aF) J M
  rintro _ _ rfl u;refine aA iy (aV u.p1 gn (dM rfl) (rfl) λ_ u=>have u:=u.enc (cs':=ia (⟨B,(dw l s).2,(hZ #[]),cI,cI,0,0,0,a⟩:aZ)) rfl;bD yp u.p1 (H':=λ_=>bZ p (eg lv ov (dR l (dw l s).1 (hZ #[61])))) (Φ:=λ_ _=>True) (λE I G=>?_) ?_)
  .exact(C257 p lv ov l (dw l s).1 (hZ #[61]) E _ I (λw' hc=>O w' (G w' hc).aF) J (gK M)).mono λ_ _ r=>r.mono λ_ _ h=>⟨trivial,h.2⟩
  rintro _ _ _ u;refine bD KB u (H':=λv=>pZ λY:SV=>fact (v=hM Y) (sep (bZ p (eg lv ov Z)) (eH λw=>DL w (hM Y) e))) (Φ:=λ_ _=>True) (λE I G=>?_) ?_
  .exact(C318 p lv ov l (dR l (dw l s).1 (hZ #[61])) Z e E _ I (λw' hc=>O w' (G w' hc).aF) J (fE (gK M)) U).mono λ_ _ r=>r.mono λ_ _ h=>⟨trivial,h⟩
  rintro v_x20 _ _ W;obtain⟨Qy,V⟩:=W.ep
  clear W
  obtain⟨akA,DD⟩:=V.l6
  clear V
  subst akA;have u:=DD.split;refine aA iN (aV u.p2 jy (dM rfl) (rfl) λ_ u=>?_);have u:=u.enc (cs':=ia (⟨B,(dw l s).2,(hZ #[]),Qy,cI,0,0,0,a⟩:aZ)) rfl;intro xM;exact aE eG u.At (aK (x:=(⟨B,(dw l s).2,(hZ #[]),Qy,cI,0,0,0,a⟩:aZ)) u.p3 eG rfl rfl λ_ u=>aE eG u.At (have u:=u.p3.dD (Ψ:=(λw=>mL w (⟨B,(dw l s).2,(hZ #[]),Qy,cI,0,0,0,a⟩:aZ) (⟨B,(dw l s).2,(hZ #[]),e,[],0,0,0,a⟩:bK))) (λ_ h=>⟨_,_,rfl,id h,DL.nil _⟩);have u:=u.p1.drop.p1.drop.p1;(xk u).mut))
 .obtain⟨rfl,rfl⟩:=Tg hp mR;refine bD DZ u.p2 (H':=λ_=>bZ p (eg lv ov (dw l s).1)) (Φ:=λv _=>v=.string (dw l s).2) (λE I G=>?_) ?_
  .exact C317 p lv ov l s E _ I (λw' hc=>O w' (G w' hc).aF) J M
  rintro _ _ rfl u;refine aA iy (aV u.p1 gn (dM rfl) (rfl) λ_ u=>have u:=u.enc (cs':=ia (⟨B,(dw l s).2,(hZ #[]),cI,cI,0,0,0,a⟩:aZ)) rfl;bD yp u.p1 (H':=λ_=>bZ p (eg lv ov (dR l (dw l s).1 (hZ #[61])))) (Φ:=λ_ _=>True) (λE I G=>?_) ?_)
  .exact(C257 p lv ov l (dw l s).1 (hZ #[61]) E _ I (λw' hc=>O w' (G w' hc).aF) J (gK M)).mono λ_ _ r=>r.mono λ_ _ h=>⟨trivial,h.2⟩
  rintro _ _ _ u;refine bD DZ u (H':=λ_=>bZ p (eg lv ov (dw l (dR l (dw l s).1 (hZ #[61]))).1)) (Φ:=λv _=>v=.string (dw l (dR l (dw l s).1 (hZ #[61]))).2) (λE I G=>?_) ?_
  .exact C317 p lv ov l (dR l (dw l s).1 (hZ #[61])) E _ I (λw' hc=>O w' (G w' hc).aF) J (fE (gK M))
  rintro _ _ rfl u;refine aA fX (aV u.p1 gn (dM rfl) (rfl) λ_ u=>?_);have u:=u.enc (cs':=ia (⟨B,(dw l s).2,(dw l (dR l (dw l s).1 (hZ #[61]))).2,cI,cI,0,0,0,a⟩:aZ)) rfl;intro xM;exact aE eG u.At (aK (x:=(⟨B,(dw l s).2,(dw l (dR l (dw l s).1 (hZ #[61]))).2,cI,cI,0,0,0,a⟩:aZ)) u.p2 eG rfl rfl λ_ u=>aE eG u.At (have u:=u.gz (Φ:=(λw=>mL w (⟨B,(dw l s).2,(dw l (dR l (dw l s).1 (hZ #[61]))).2,cI,cI,0,0,0,a⟩:aZ) (⟨B,(dw l s).2,(dw l (dR l (dw l s).1 (hZ #[61]))).2,[],[],0,0,0,a⟩:bK))) (λ_=>⟨_,_,rfl,DL.nil _,DL.nil _⟩);have u:=u.p1.drop.p1.drop.p1;(xk u).mut))
 .obtain⟨q,e,U,rfl,rfl⟩:=Th hp yE;refine bD DZ u.p2 (H':=λ_=>bZ p (eg lv ov (dw l s).1)) (Φ:=λv _=>v=.string (dw l s).2) (λE I G=>?_) ?_
  .exact C317 p lv ov l s E _ I (λw' hc=>O w' (G w' hc).aF) J M
  rintro _ _ rfl u;refine aA fX (aV u.p1 gn (dM rfl) (rfl) λ_ u=>have u:=u.enc (cs':=ia (⟨B,(hZ #[]),(dw l s).2,cI,cI,0,0,0,a⟩:aZ)) rfl;bD yp u.p1 (H':=λ_=>bZ p (eg lv ov (dR l (dw l s).1 (hZ #[61])))) (Φ:=λ_ _=>True) (λE I G=>?_) ?_)
  .exact(C257 p lv ov l (dw l s).1 (hZ #[61]) E _ I (λw' hc=>O w' (G w' hc).aF) J (gK M)).mono λ_ _ r=>r.mono λ_ _ h=>⟨trivial,h.2⟩
  rintro _ _ _ u;refine bD KB u (H':=λv=>pZ λY:SV=>fact (v=hM Y) (sep (bZ p (eg lv ov Z)) (eH λw=>DL w (hM Y) e))) (Φ:=λ_ _=>True) (λE I G=>?_) ?_
  .exact(C318 p lv ov l (dR l (dw l s).1 (hZ #[61])) Z e E _ I (λw' hc=>O w' (G w' hc).aF) J (fE (gK M)) U).mono λ_ _ r=>r.mono λ_ _ h=>⟨trivial,h⟩
  rintro v_x40 _ _ W;obtain⟨Qz,V⟩:=W.ep
  clear W
  obtain⟨akB,DD⟩:=V.l6
  clear V
  subst akB;have u:=DD.split;refine aA iN (aV u.p2 jy (dM rfl) (rfl) λ_ u=>?_);have u:=u.enc (cs':=ia (⟨B,(hZ #[]),(dw l s).2,Qz,cI,0,0,0,a⟩:aZ)) rfl;intro xM;exact aE eG u.At (aK (x:=(⟨B,(hZ #[]),(dw l s).2,Qz,cI,0,0,0,a⟩:aZ)) u.p3 eG rfl rfl λ_ u=>aE eG u.At (have u:=u.p3.dD (Ψ:=(λw=>mL w (⟨B,(hZ #[]),(dw l s).2,Qz,cI,0,0,0,a⟩:aZ) (⟨B,(hZ #[]),(dw l s).2,e,[],0,0,0,a⟩:bK))) (λ_ h=>⟨_,_,rfl,id h,DL.nil _⟩);have u:=u.p1.drop.p1.drop.p1;(xk u).mut))
 .obtain⟨q,e,q2,f,U,hfx,rfl,rfl⟩:=Ti hp vw;refine bD DZ u.p2 (H':=λ_=>bZ p (eg lv ov (dw l s).1)) (Φ:=λv _=>v=.string (dw l s).2) (λE I G=>?_) ?_
  .exact C317 p lv ov l s E _ I (λw' hc=>O w' (G w' hc).aF) J M
  rintro _ _ rfl u;refine aA iy (aV u.p1 gn (dM rfl) (rfl) λ_ u=>have u:=u.enc (cs':=ia (⟨B,(dw l s).2,(hZ #[]),cI,cI,0,0,0,a⟩:aZ)) rfl;bD yp u.p1 (H':=λ_=>bZ p (eg lv ov (dR l (dw l s).1 (hZ #[61])))) (Φ:=λ_ _=>True) (λE I G=>?_) ?_)
  .exact(C257 p lv ov l (dw l s).1 (hZ #[61]) E _ I (λw' hc=>O w' (G w' hc).aF) J (gK M)).mono λ_ _ r=>r.mono λ_ _ h=>⟨trivial,h.2⟩
  rintro _ _ _ u;refine bD DZ u (H':=λ_=>bZ p (eg lv ov (dw l (dR l (dw l s).1 (hZ #[61]))).1)) (Φ:=λv _=>v=.string (dw l (dR l (dw l s).1 (hZ #[61]))).2) (λE I G=>?_) ?_
  .exact C317 p lv ov l (dR l (dw l s).1 (hZ #[61])) E _ I (λw' hc=>O w' (G w' hc).aF) J (fE (gK M))
  rintro _ _ rfl u;refine aA fX (aV u.p1 gn (dM rfl) (rfl) λ_ u=>have u:=u.enc (cs':=ia (⟨B,(dw l s).2,(dw l (dR l (dw l s).1 (hZ #[61]))).2,cI,cI,0,0,0,a⟩:aZ)) rfl;bD yp u.p1 (H':=λ_=>bZ p (eg lv ov (dR l (dw l (dR l (dw l s).1 (hZ #[61]))).1 (hZ #[44])))) (Φ:=λ_ _=>True) (λE I G=>?_) ?_)
  .exact(C257 p lv ov l (dw l (dR l (dw l s).1 (hZ #[61]))).1 (hZ #[44]) E _ I (λw' hc=>O w' (G w' hc).aF) J (gK (fE (gK M)))).mono λ_ _ r=>r.mono λ_ _ h=>⟨trivial,h.2⟩
  rintro _ _ _ u;refine bD KB u (H':=λv=>pZ λY:SV=>fact (v=hM Y) (sep (bZ p (eg lv ov q)) (eH λw=>DL w (hM Y) e))) (Φ:=λ_ _=>True) (λE I G=>?_) ?_
  .exact(C318 p lv ov l (dR l (dw l (dR l (dw l s).1 (hZ #[61]))).1 (hZ #[44])) q e E _ I (λw' hc=>O w' (G w' hc).aF) J (fE (gK (fE (gK M)))) U).mono λ_ _ r=>r.mono λ_ _ h=>⟨trivial,h⟩
  rintro v_x55 _ _ W;obtain⟨Fh,V⟩:=W.ep
  clear W
  obtain⟨akC,DD⟩:=V.l6
  clear V
  subst akC;have u:=DD.split;refine aA iN (aV u.p2 jy (dM rfl) (rfl) λ_ u=>have u:=u.enc (cs':=ia (⟨B,(dw l s).2,(dw l (dR l (dw l s).1 (hZ #[61]))).2,Fh,cI,0,0,0,a⟩:aZ)) rfl;bD yp u.p1 (H':=λ_=>bZ p (eg lv ov (dR l q (hZ #[44])))) (Φ:=λ_ _=>True) (λE I G=>?_) ?_)
  .exact(C257 p lv ov l q (hZ #[44]) E _ I (λw' hc=>O w' (G w' hc).aF) J (sD (fE (gK (fE (gK M)))) U)).mono λ_ _ r=>r.mono λ_ _ h=>⟨trivial,h.2⟩
  rintro _ _ _ u;refine bD KB u (H':=λv=>pZ λY:SV=>fact (v=hM Y) (sep (bZ p (eg lv ov Z)) (eH λw=>DL w (hM Y) f))) (Φ:=λ_ _=>True) (λE I G=>?_) ?_
  .exact(C318 p lv ov l (dR l q (hZ #[44])) Z f E _ I (λw' hc=>O w' (G w' hc).aF) J (fE (sD (fE (gK (fE (gK M)))) U)) hfx).mono λ_ _ r=>r.mono λ_ _ h=>⟨trivial,h⟩
  rintro v_x60 _ _ W;obtain⟨BU,V⟩:=W.ep
  clear W
  obtain⟨akD,DD⟩:=V.l6
  clear V
  subst akD;have u:=DD.split;refine aA jS (aV u.p2 jy (dM rfl) (rfl) λ_ u=>?_);have u:=u.enc (cs':=ia (⟨B,(dw l s).2,(dw l (dR l (dw l s).1 (hZ #[61]))).2,Fh,BU,0,0,0,a⟩:aZ)) rfl;intro xM;exact aE eG u.At (aK (x:=(⟨B,(dw l s).2,(dw l (dR l (dw l s).1 (hZ #[61]))).2,Fh,BU,0,0,0,a⟩:aZ)) u.p4 eG rfl rfl λ_ u=>aE eG u.At (have u:=u.p4.p4.p1.fZ.dD (Ψ:=(λw=>mL w (⟨B,(dw l s).2,(dw l (dR l (dw l s).1 (hZ #[61]))).2,Fh,BU,0,0,0,a⟩:aZ) (⟨B,(dw l s).2,(dw l (dR l (dw l s).1 (hZ #[61]))).2,e,f,0,0,0,a⟩:bK))) (λ_ h=>⟨_,_,rfl,id h.1,id h.2⟩);have u:=u.p1.drop.p1.drop.p1;(xk u).mut))
 rintro _ _ ⟨rfl,hw⟩ _;subst hw;refine aC (λR9=>?_) (λR9=>⟨λjv w'=>jv=.bool (decide (B=11\/B=14))/\w3=w',aG (aC (λ_=>⟨vb cH,rfl⟩) λ_=>aG ⟨vb cH,rfl⟩),?_⟩)
 .obtain⟨rfl,rfl⟩:=Tj hp R9;refine bD DZ u.p2 (H':=λ_=>bZ p (eg lv ov (dw l s).1)) (Φ:=λv _=>v=.string (dw l s).2) (λE I G=>?_) ?_
  .exact C317 p lv ov l s E _ I (λw' hc=>O w' (G w' hc).aF) J M
  rintro _ _ rfl u;refine aA fX (aV u.p1 gn (dM rfl) (rfl) λ_ u=>?_);have u:=u.enc (cs':=ia (⟨B,(hZ #[]),(dw l s).2,cI,cI,0,0,0,a⟩:aZ)) rfl;intro xM;exact aE eG u.At (aK (x:=(⟨B,(hZ #[]),(dw l s).2,cI,cI,0,0,0,a⟩:aZ)) u.p2 eG rfl rfl λ_ u=>aE eG u.At (have u:=u.gz (Φ:=(λw=>mL w (⟨B,(hZ #[]),(dw l s).2,cI,cI,0,0,0,a⟩:aZ) (⟨B,(hZ #[]),(dw l s).2,[],[],0,0,0,a⟩:bK))) (λ_=>⟨_,_,rfl,DL.nil _,DL.nil _⟩);have u:=u.p1.drop.p1.drop.p1;(xk u).mut))
 rintro _ _ ⟨rfl,hw⟩ _;subst hw;refine aC (λEE=>?_) (λEE=>aG (aC (λZ1=>?_) λZ1=>?_))
 .obtain⟨q,e,U,rfl,rfl⟩:=Nl hp EE;refine bD KB u.p2 (H':=λv=>pZ λY:SV=>fact (v=hM Y) (sep (bZ p (eg lv ov Z)) (eH λw=>DL w (hM Y) e))) (Φ:=λ_ _=>True) (λE I G=>?_) ?_
  .exact(C318 p lv ov l s Z e E _ I (λw' hc=>O w' (G w' hc).aF) J M U).mono λ_ _ r=>r.mono λ_ _ h=>⟨trivial,h⟩
  rintro v_x74 _ _ W;obtain⟨QA,V⟩:=W.ep
  clear W
  obtain⟨akE,DD⟩:=V.l6
  clear V
  subst akE;have u:=DD.split;refine aA iN (aV u.p2 jy (dM rfl) (rfl) λ_ u=>?_);have u:=u.enc (cs':=ia (⟨B,(hZ #[]),(hZ #[]),QA,cI,0,0,0,a⟩:aZ)) rfl;intro xM;exact aE eG u.At (aK (x:=(⟨B,(hZ #[]),(hZ #[]),QA,cI,0,0,0,a⟩:aZ)) u.p3 eG rfl rfl λ_ u=>aE eG u.At (have u:=u.p3.dD (Ψ:=(λw=>mL w (⟨B,(hZ #[]),(hZ #[]),QA,cI,0,0,0,a⟩:aZ) (⟨B,(hZ #[]),(hZ #[]),e,[],0,0,0,a⟩:bK))) (λ_ h=>⟨_,_,rfl,id h,DL.nil _⟩);have u:=u.p1.drop.p1.drop.p1;(xk u).mut))
 .obtain⟨rfl,rfl⟩:=Nm hp Z1;refine bD anP u.p2 (H':=λ_=>bZ p (eg lv ov (kM l s).1)) (Φ:=λv _=>v=hH (kM l s).2) (λE I G=>?_) ?_
  .exact C319 p lv ov l s E _ I (λw' hc=>O w' (G w' hc).aF) J M
  rintro _ _ rfl u;refine aA jB (aV u.p1 bO (dM rfl) (rfl) λ_ u=>?_);have u:=u.enc (cs':=ia (⟨B,(hZ #[]),(hZ #[]),cI,cI,(kM l s).2,0,0,a⟩:aZ)) rfl;intro xM;exact aE eG u.At (aK (x:=(⟨B,(hZ #[]),(hZ #[]),cI,cI,(kM l s).2,0,0,a⟩:aZ)) u.p2 eG rfl rfl λ_ u=>aE eG u.At (have u:=u.gz (Φ:=(λw=>mL w (⟨B,(hZ #[]),(hZ #[]),cI,cI,(kM l s).2,0,0,a⟩:aZ) (⟨B,(hZ #[]),(hZ #[]),[],[],(kM l s).2,0,0,a⟩:bK))) (λ_=>⟨_,_,rfl,DL.nil _,DL.nil _⟩);have u:=u.p1.drop.p1.drop.p1;(xk u).mut))
 obtain⟨rfl,rfl⟩:=Nn hp wD mR yE vw R9 EE Z1;intro xM;exact aE eG u.At (aK (x:=(⟨B,(hZ #[]),(hZ #[]),cI,cI,0,0,0,a⟩:aZ)) u.p1 eG rfl rfl λ_ u=>aE eG u.At (have u:=u.gz (Φ:=(λw=>mL w (⟨B,(hZ #[]),(hZ #[]),cI,cI,0,0,0,a⟩:aZ) (⟨B,(hZ #[]),(hZ #[]),[],[],0,0,0,a⟩:bK))) (λ_=>⟨_,_,rfl,DL.nil _,DL.nil _⟩);have u:=u.p1.drop.p1.drop.p1;(xk u).mut))
def iD(l:List bQ)(a:Int):Nat->Int
 | 0=>1
 | n+1=>if tz l a (HD ((n:Int)+2))=true then(n:Int)+2 else iD l a n
theorem Tl{l:List bQ}{a:Int}:∀n:Nat,1<=iD l a n/\iD l a n<=(n:Int)+1
 | 0=>by unfold iD;omega
 | n+1=>by
  have:=Tl (l:=l) (a:=a) n
  unfold iD
  omega
theorem No{l:List bQ}{a:Int}:∀n:Nat,iD l a n=1\/∃t,tz l a t=true
 | 0=>.inl rfl
 | n+1=>by
  unfold iD
  split
  .grind
  .exact No n
def HE{l:List bQ}{a:Int}{n:Nat}(h:tz l a (HD ((n:Int)+2))=true):iD l a (n+1)=(n:Int)+2:=ee h
def HF{l:List bQ}{a:Int}{n:Nat}(h:¬ tz l a (HD ((n:Int)+2))=true):iD l a (n+1)=iD l a n:=eb h
def s1S(l:List bQ)(s:fM):fM:=if iD l s.at_ 13≠1 then {s with at_:=s.at_+1}else s
def JI{l:List bQ}{s:fM}(h:ld l s):ld l (s1S l s):=by
 unfold s1S
 split
 .rename_i h1
  rcases No (l:=l) (a:=s.at_) 13 with h2|⟨t,h2⟩
  .omega
  have:=sC h2
  exact⟨cH,cH⟩
 exact h
abbrev aho:ByteArray:=⟨#[101,108,115,101]⟩
def km(l:List bQ)(u:Int)(s:fM):Bool:=decide (u=11)&&decide (s.e=0)&&tz l s.at_ aho
def U4(s:fM):fM:={s with at_:=s.at_+1}
abbrev aeA:=fM->Int->Int->Option (fM×List bK)
def C3(l:List bQ)(bZ:aeA)(s:fM)(d lp:Int):Option (fM×List bK):=
 if iD l s.at_ 13=13/\lp=0 then some (jm l s 5,[])
 else(kN l (s1S l s) (iD l s.at_ 13) (m6 l s.at_)).bind λr=>
  if iD l s.at_ 13≠11/\iD l s.at_ 13≠12 then some (dR l r.1 ⟨#[59]⟩,[r.2])
  else(bZ r.1 (d+1) (if iD l s.at_ 13=12 then lp+1 else lp)).bind λq=>
   if km l (iD l s.at_ 13) q.1=true then(bZ (U4 q.1) (d+1) lp).bind λt=>some (t.1,{r.2 with body:=(q.2.length:Int),eo:=(t.2.length:Int)}::(q.2++t.2))
   else some (q.1,{r.2 with body:=(q.2.length:Int)}::q.2)
section
variable {l:List bQ}{bZ:aeA}{s s':fM}{d lp:Int}{add:List bK}
theorem Tm(h:C3 l bZ s d lp=some (s',add))(hb:iD l s.at_ 13=13/\lp=0):s'=jm l s 5/\add=[]:=by
 unfold C3 at h;grind
theorem Z2(h:C3 l bZ s d lp=some (s',add))(hb:¬ (iD l s.at_ 13=13/\lp=0)):∃u x,kN l (s1S l s) (iD l s.at_ 13) (m6 l s.at_)=some (u,x)/\
  (if iD l s.at_ 13≠11/\iD l s.at_ 13≠12 then some (dR l u ⟨#[59]⟩,[x])
  else(bZ u (d+1) (if iD l s.at_ 13=12 then lp+1 else lp)).bind λq=>
   if km l (iD l s.at_ 13) q.1=true then(bZ (U4 q.1) (d+1) lp).bind λt=>some (t.1,{x with body:=(q.2.length:Int),eo:=(t.2.length:Int)}::(q.2++t.2))
   else some (q.1,{x with body:=(q.2.length:Int)}::q.2))=some (s',add):=by
 unfold C3 at h;rw[eb hb]at h
 obtain⟨p,q,h1,h2⟩:=eL h
 grind
theorem Tn{u:Int}{J:fM}{x:bK}(h:(if u≠11/\u≠12 then some (dR l J ⟨#[59]⟩,[x])
  else(bZ J (d+1) (if u=12 then lp+1 else lp)).bind λq=>
   if km l u q.1=true then(bZ (U4 q.1) (d+1) lp).bind λt=>some (t.1,{x with body:=(q.2.length:Int),eo:=(t.2.length:Int)}::(q.2++t.2))
   else some (q.1,{x with body:=(q.2.length:Int)}::q.2))=some (s',add)) (M:¬ (u≠11/\u≠12)) :
  ∃B E,bZ J (d+1) (if u=12 then lp+1 else lp)=some (B,E)/\
   ((km l u B=true/\∃I G,bZ (U4 B) (d+1) lp=some (I,G)/\s'=I/\add={x with body:=(E.length:Int),eo:=(G.length:Int)}::(E++G))\/
    (km l u B=false/\s'=B/\add={x with body:=(E.length:Int)}::E)):=by
 rw[eb M]at h
 obtain⟨B,E,h1,h2⟩:=eL h
 refine⟨B,E,h1,?_⟩
 dsimp only at h2
 cases he:km l u B with
 | true=>
  rw[he,ee rfl]at h2
  obtain⟨I,G,h3,h4⟩:=eL h2
  grind
 | false=>
  grind
theorem HG{u:Int}{B:fM}{x:bK}(h:(if u≠11/\u≠12 then some (dR l B ⟨#[59]⟩,[x])
  else(bZ B (d+1) (if u=12 then lp+1 else lp)).bind λq=>
   if km l u q.1=true then(bZ (U4 q.1) (d+1) lp).bind λt=>some (t.1,{x with body:=(q.2.length:Int),eo:=(t.2.length:Int)}::(q.2++t.2))
   else some (q.1,{x with body:=(q.2.length:Int)}::q.2))=some (s',add)) (E:u≠11/\u≠12):s'=dR l B ⟨#[59]⟩/\add=[x]:=by
 grind
end
abbrev CI:ByteArray:=⟨#[123]⟩
abbrev oh:ByteArray:=⟨#[125]⟩
def tC(l:List bQ)(one:fM->Option (fM×List bK)):Nat->fM->Option (fM×List bK)
 | 0,_=>none
 | m+1,s=>if (decide (s.e=0)&&!tz l s.at_ oh)=true then(one s).bind λr=>(tC l one m r.1).bind λq=>some (q.1,r.2++q.2)else some (s,[])
def VS(l:List bQ)(s:fM)(d:Int):fM:=if (decide (12<d)&&tz l s.at_ CI)=true then jm l s 7 else s
def QB{l:List bQ}{s:fM}{d:Int}(h:ld l s):ld l (VS l s d):=by unfold VS;split;exact tB h;exact h
def VT(l:List bQ):Nat->aeA
 | 0=>λ_ _ _=>none
 | k+1=>λs d lp=>(tC l (λs=>C3 l (VT l k) s d lp) 10000 (dR l (VS l s d) CI)).bind λr=>some (dR l r.1 oh,r.2)
section
variable {l:List bQ}{one:fM->Option (fM×List bK)}{s s':fM}{d lp:Int}{add:List bK}{m:Nat}
theorem HH(h:tC l one m s=some (s',add)):∃k,m=k+1:=by
 cases m with
 | zero=>cases h
 | succ k=>grind
theorem Fu(h:tC l one (m+1) s=some (s',add))(hb:(decide (s.e=0)&&!tz l s.at_ oh)=false):s'=s/\add=[]:=by
 unfold tC at h;grind
theorem JJ(h:tC l one (m+1) s=some (s',add))(hb:(decide (s.e=0)&&!tz l s.at_ oh)=true):∃u E B,one s=some (u,E)/\tC l one m u=some (s',B)/\add=E++B:=by
 unfold tC at h;rw[hb,ee rfl]at h
 obtain⟨u,E,h1,h2⟩:=eL h
 obtain⟨G,B,h3,h4⟩:=eL h2
 grind
theorem Z3{k:Nat}(h:VT l (k+1) s d lp=some (s',add)):∃u,tC l (λs=>C3 l (VT l k) s d lp) 10000 (dR l (VS l s d) CI)=some (u,add)/\s'=dR l u oh:=by
 unfold VT at h
 obtain⟨u,B,h1,h2⟩:=eL h
 grind
end
def QC{l:List bQ}{bZ:aeA}{s s':fM}{d lp:Int}{add:List bK}(hb:∀s d lp s' a,ld l s->bZ s d lp=some (s',a)->ld l s')(E:ld l s)(h:C3 l bZ s d lp=some (s',add)):ld l s':=by
 by_cases h1:iD l s.at_ 13=13/\lp=0
 .rw[(Tm h h1).1];exact tB E
 obtain⟨V,x,h2,h3⟩:=Z2 h h1
 have u:=B9 (JI E) h2
 by_cases h4:iD l s.at_ 13≠11/\iD l s.at_ 13≠12
 .rw[(HG h3 h4).1];exact fE u
 obtain⟨U,M,h5,h6⟩:=Tn h3 h4
 have J:=hb _ _ _ _ _ u h5
 rcases h6 with⟨B,O,W,I,G,_⟩|⟨_,G,_⟩
 .rw[G]
  refine hb _ _ _ _ _ ?_ I
  unfold km at B
  rw[nS]at B
  have:=sC B.2
  grind[ld,U4]
 grind
theorem To{l:List bQ}{one:fM->Option (fM×List bK)}(B:∀s s' a,ld l s->one s=some (s',a)->ld l s'):∀{m:Nat}{s s':fM}{add:List bK},ld l s->tC l one m s=some (s',add)->ld l s'
 | 0,_,_,_,_,h=>by cases h
 | m+1,s,s',add,u,h=>by
  cases hb:(decide (s.e=0)&&!tz l s.at_ oh)with
  | false=>rw[(Fu h hb).1];exact u
  | true=>
   obtain⟨E,I,G,h1,h2,_⟩:=JJ h hb
   exact To B (B _ _ _ u h1) h2
theorem QD{l:List bQ}:∀{k:Nat}{s s':fM}{d lp:Int}{add:List bK},ld l s->VT l k s d lp=some (s',add)->ld l s'
 | 0,_,_,_,_,_,_,h=>by cases h
 | k+1,s,s',d,lp,add,u,h=>by
  obtain⟨B,h1,h2⟩:=Z3 h
  rw[h2]
  exact fE (To (λ_ _ _ a b=>QC (λ_ _ _ _ _ c e=>QD c e) a b) (fE (QB u)) h1)
def pT(p:Nat)(lv:Value)(s:fM)(out:List bK)(Q:g7):HP:=pZ λov:Value=>pZ λts:List aZ=>sep (bZ p (eg lv ov s)) (sep (bF ov ts) (eH λw=>gu ts out w/\Q w))
section
variable {w0 w:World}{A:Nat->Prop}{L:List HP}{p:Nat}{lv:Value}{s:fM}{out:List bK}{Q:g7}
theorem pT.open(u:St w0 A (pT p lv s out Q::L) w):∃(ov:Value) (ts:List aZ),St w0 A (bZ p (eg lv ov s)::bF ov ts::eH (λw=>gu ts out w/\Q w)::L) w:=by
 obtain⟨ov,h1⟩:=u.ep
 obtain⟨ts,h2⟩:=h1.ep
 exact⟨ov,ts,h2.split.p1.split.p2⟩
theorem pT.shut{ov:Value}{ts:List aZ}(u:St w0 A (bZ p (eg lv ov s)::bF ov ts::eH (λw=>gu ts out w/\Q w)::L) w):St w0 A (pT p lv s out Q::L) w:=
 St.er (H:=λov:Value=>pZ λts:List aZ=>sep (bZ p (eg lv ov s)) (sep (bF ov ts) (eH λw=>gu ts out w/\Q w))) ov (St.er (H:=λts:List aZ=>sep (bZ p (eg lv ov s)) (sep (bF ov ts) (eH λw=>gu ts out w/\Q w))) ts (St.join u.p2.p2.join.p1))
end
def akF(l:List bQ)(k:Nat):Prop:=∀(p:Nat) (lv:Value) (s:fM) (d lp:Int) (out:List bK) (u:fM) (add:List bK) (Q:g7) (F:Nat->Prop) (w:World),
 (pT p lv s out Q).p w F->(∀w',gC F w w'->dz (λ_=>True) w' lv l)->ld l s->0<=d/\d+k<=1001->0<=lp/\lp+k<=1001->out.length+add.length<=1000000->VT l k s d lp=some (u,add)->
 Calls g6 293 [.pointer (some ⟨p,0,none⟩),hH d,hH lp].toArray w (sK λv w'=>v=hH (add.length:Int)/\mH F (pT p lv u (out++add) Q) w w')
def aeB{w:World}{u:aZ}{x:bK}(h:mL w u x):DL w (hM u.e) x.e:=by obtain⟨_,_,rfl,h,_⟩:=h;exact h
def aeC{w:World}{u:aZ}{x:bK}(h:mL w u x):DL w (hM u.f) x.f:=by obtain⟨_,_,rfl,_,h⟩:=h;exact h
def QE{l:List bQ}{u:Int}{s:fM}(h:km l u s=true):ld l (U4 s):=by
 unfold km at h
 rw[nS]at h
 have:=sC h.2
 grind[ld,U4]
def aeD{α σ:Type}[Flat σ][Deep α σ]{w:World}{ts:List σ}{xs:List α}{i:Nat}{t:σ}{x:α}(h:gu ts xs w)(ht:mL w t x):gu (ts.set i t) (xs.set i x) w:=by
 grind[gu]
theorem Z4{α:Type}{a b:List α}{x y:α}:(a++x::b).set a.length y=a++y::b:=by
 grind
def C256(p:Nat)(lv:Value)(l:List bQ)(s:fM)(k:Nat)(d lp:Int)(out:List bK)(s2:fM)(add:List bK)(Q:g7)(F:Nat->Prop)(w:World)(hF:(pT p lv s out Q).p w F)(V:∀w',gC F w w'->dz (λ_=>True) w' lv l)(hk:iY l)(h0:ld l s)(HB:akF l k)(hd:0<=d/\d+k<=1000)(hlp:0<=lp/\lp+k<=1000)(F3:out.length+add.length<=1000000)(hr:C3 l (VT l k) s d lp=some (s2,add)):CR 256 [(.pointer (some ⟨p,0,none⟩)),hH d,hH lp] w (λv w'=>v=.tuple #[]/\mH F (pT p lv s2 (out++add) Q) w w'):=by
 have u:=St.begin hF;obtain⟨ov,ts,u⟩:=pT.open u;have OD:ts.length=out.length:=u.p2.eH.1.1;have Dr:=hk.n;have hn:l.length<=1000000:=bL
 have r8:=hk.at_;obtain⟨Td,Te⟩:=id h0;refine acg _ _ _ _ _ ?_;unfold S256;refine aD (aA iC (have u:=u.drew;aB jb u.hb rfl (aD (aA eY (aB bO u.hb rfl (aS GF u (C214 _ l s.at_ _ (V _ u.aF) hn r8) λ_ he u=>?_))))));have u:=u.p2.p2.p2;refine⟨λmm a b w'=>∃j:Nat,a=hH (iD l s.at_ j)/\b=hH ((j:Int)+2)/\mm=13-j/\j<=13/\St w F [bZ p (eg lv ov s),bF ov ts,eH λw=>gu ts out w/\Q w] w',⟨_,0,rfl,rfl,rfl,kO _,u⟩,?_⟩;rintro mm _ _ w2 ⟨j,rfl,rfl,rfl,hj,u⟩ _;refine ga (aC (λik=>?_) λik=>?_)
 .refine⟨_,?_,λ_ _ h=>h⟩;refine aD (aA iC (have u:=u.drew;aB jb u.hb rfl (aD (aA eY (aB bO u.hb rfl (aS anE u (C290 ((j:Int)+2) _ bL) λ_ he u=>?_))))));refine⟨aI jb (u.hb.cell rfl),?_⟩;refine⟨aI bO (u.hb.cell rfl),?_⟩;refine aS vu u (C209 _ l s.at_ (HD ((j:Int)+2)) _ (V _ u.aF) hn) (λ_ he u=>aX (λkS=>?_) λkS=>?_)
  .intro vS;refine aJ bL ?_;exact⟨_,bL,j+1,ez (mn .i64) (by first|exact(HE kS).symm|exact(HF (by rw[kS];simp)).symm),ez (mn .i64) bL,rfl,bL,u⟩
  .intro vS;refine aJ bL ?_;exact⟨_,bL,j+1,ez (mn .i64) (by first|exact(HE kS).symm|exact(HF (by rw[kS];simp)).symm),ez (mn .i64) bL,rfl,bL,u⟩
 .obtain rfl:j=13:=bL
  have Xs:=Tl (l:=l) (a:=s.at_) 13;refine⟨λjv w'=>jv=.bool (decide ((iD l s.at_ 13)=13/\lp=0))/\w2=w',?_,?_⟩
  .refine aG (aC (λqP=>?_) λqP=>?_)
   .refine aG ?_;exact⟨xB bL,rfl⟩
   .exact⟨Wf bL,rfl⟩
  .rintro _ _ ⟨rfl,hw⟩ _;subst hw;refine aC (λqj=>?_) (λqj=>?_)
   .refine bD GH u (H':=λ_=>bZ p (eg lv ov (jm l s 5))) (Φ:=λ_ _=>True) (λM U O=>?_) ?_
    .exact(C291 p lv ov l s 5 M _ U (λw' hc=>V w' (O w' hc).aF) hk h0).mono λ_ _ r=>r.mono λ_ _ h=>⟨trivial,h.2⟩
    rintro _ _ _ u;obtain⟨e1,e2⟩:=Tm hr qj;rw[e1,e2,oj];exact⟨rfl,(pT.shut u).mut⟩
   .refine⟨λw'=>St w F [bZ p (eg lv ov (s1S l s)),bF ov ts,eH λw=>gu ts out w/\Q w] w',?_,?_⟩
    .refine bT (aC (λwB=>?_) λwB=>?_)
     .refine aD (aA eY (aB bO u.hb rfl (aJ bL (aD (aA eY (aV u bO (dM rfl) (rfl) λ_ u=>?_))))));have u:=u.p2.p2.p2;have Uz:(s1S l s)={s with at_:=s.at_+1}:=by unfold s1S;rw[ee bL]
      rw[Uz];exact u
     .have u:=u.p2.p2.p2;have Uz:(s1S l s)=s:=by unfold s1S;rw[eb bL]
      rw[Uz];exact u
    .intro _ u _;obtain⟨q,x,oy,FY⟩:=Z2 hr qj;refine bD anF u (H':=λv=>pZ λsh:aZ=>fact (v=hM sh) (sep (bZ p (eg lv ov q)) (eH λw=>mL w sh x))) (Φ:=λ_ _=>True) (λM U O=>?_) ?_
     .exact(C292 p lv ov l (s1S l s) (iD l s.at_ 13) (m6 l s.at_) q x M _ U (λw' hc=>V w' (O w' hc).aF) hk (JI h0) oy).mono λ_ _ r=>r.mono λ_ _ h=>⟨trivial,h⟩
     rintro v_x58 _ _ wU;obtain⟨ayI,yI⟩:=wU.ep
     clear wU
     obtain⟨akG,DD⟩:=yI.l6
     clear yI
     subst akG;have u:=DD.split
     clear DD
     obtain⟨E,B,akH,hde,hdf⟩:=u.p1.eH;subst akH;refine aQ u jk (λBF _ u=>have u:=u.enc (cs':=ia (⟨0,(hZ #[]),(hZ #[]),cI,cI,0,0,0,0⟩:aZ)) rfl;aK (x:=(⟨x.kind,x.eB,x.name,E,B,x.n,x.body,x.eo,x.at_⟩:aZ)) u eG rfl rfl λ_ u=>aD (aA pW (aB jA u.p1.hb rfl (aH fj u.p3.dQ (aD (aA pW (have u:=u.drew;aB jA u.p1.hb rfl (aE eG u.At (aW ([(⟨x.kind,x.eB,x.name,E,B,x.n,x.body,x.eo,x.at_⟩:aZ)]) u fj rfl rfl (dM rfl) λag9 _ u=>?_)))))))))
     refine⟨aI jA (u.p2.hb.cell rfl),?_⟩;have akI:=u.dQ;refine bJ u.p4 fj akI (by simp;omega) cZ (λTp _ u=>have u:=u.p1.drop;aD (aA pW (aV u.p2 jA (dM rfl) u.dQ.one λ_ u=>?_)));refine⟨λjv w'=>jv=.bool (decide ((iD l s.at_ 13)≠11/\(iD l s.at_ 13)≠12))/\St w F [bZ p (eg lv Tp q),bF Tp (ts++[(⟨x.kind,x.eB,x.name,E,B,x.n,x.body,x.eo,x.at_⟩:aZ)]),eH (λw=>gu (ts++[(⟨x.kind,x.eB,x.name,E,B,x.n,x.body,x.eo,x.at_⟩:aZ)]) (out++[x]) w/\(λw=>Q w/\mL w (⟨x.kind,x.eB,x.name,E,B,x.n,x.body,x.eo,x.at_⟩:aZ) x) w),bZ BF (ia (⟨x.kind,x.eB,x.name,E,B,x.n,x.body,x.eo,x.at_⟩:aZ))] w',?_,?_⟩
     .refine bT (aC (λarO=>?_) λarO=>?_)
      .refine bT ?_;have u:=u.p3.p4.fZ.dD (Ψ:=λw=>gu (ts++[(⟨x.kind,x.eB,x.name,E,B,x.n,x.body,x.eo,x.at_⟩:aZ)]) (out++[x]) w/\(λw=>Q w/\mL w (⟨x.kind,x.eB,x.name,E,B,x.n,x.body,x.eo,x.at_⟩:aZ) x) w) (λ_ h=>⟨h.1.1.snoc h.2,h.1.2,h.2⟩);have u:=u.p3.p1.p3.p3;exact⟨vb cH,u⟩
      .have u:=u.p3.p4.fZ.dD (Ψ:=λw=>gu (ts++[(⟨x.kind,x.eB,x.name,E,B,x.n,x.body,x.eo,x.at_⟩:aZ)]) (out++[x]) w/\(λw=>Q w/\mL w (⟨x.kind,x.eB,x.name,E,B,x.n,x.body,x.eo,x.at_⟩:aZ) x) w) (λ_ h=>⟨h.1.1.snoc h.2,h.1.2,h.2⟩);have u:=u.p3.p1.p3.p3;exact⟨vb cH,u⟩
     .rintro _ w16 ⟨rfl,u⟩ _;refine aC (λR8=>?_) (λR8=>?_)
      .refine bD yp u (H':=λ_=>bZ p (eg lv Tp (dR l q (hZ #[59])))) (Φ:=λ_ _=>True) (λM U O=>?_) ?_
       .exact(C257 p lv Tp l q (hZ #[59]) M _ U (λw' hc=>V w' (O w' hc).aF) hk (B9 (JI h0) oy)).mono λ_ _ r=>r.mono λ_ _ h=>⟨trivial,h.2⟩
       rintro _ _ _ u;have u:=u.p3.drop.p1.p1.p2.dD (Ψ:=λw=>gu (ts++[(⟨x.kind,x.eB,x.name,E,B,x.n,x.body,x.eo,x.at_⟩:aZ)]) (out++[x]) w/\Q w) (λ_ h=>⟨h.1,h.2.1⟩);have u:=u.p2.p2;obtain⟨e1,e2⟩:=HG FY R8;rw[e1,e2];exact⟨rfl,(pT.shut u).mut⟩
      .refine⟨λjv w'=>jv=hH (if (iD l s.at_ 13)=12 then lp+1 else lp)/\w16=w',?_,?_⟩
       .refine aG (aC (λarP=>?_) λarP=>?_)
        .refine aJ bL ?_;exact⟨by rw[ee bL],rfl⟩
        .exact⟨by rw[eb bL],rfl⟩
       .rintro _ _ ⟨rfl,hw⟩ _;subst hw;refine aJ bL ?_;have u:=pT.shut u.p2.p2.p2;obtain⟨W,G,J5,Z⟩:=Tn FY R8;have hm1:G.length<add.length:=by rcases Z with⟨_,s5,m2,_,_,e⟩|⟨_,_,e⟩<;>rw[e]<;>simp<;>omega
        refine bD af7 u (H':=λ_=>pT p lv W ((out++[x])++G) λw=>Q w/\mL w (⟨x.kind,x.eB,x.name,E,B,x.n,x.body,x.eo,x.at_⟩:aZ) x) (Φ:=λv _=>v=hH (G.length:Int)) (λM U O=>?_) ?_
        .exact HB p lv q (d+1) (if (iD l s.at_ 13)=12 then lp+1 else lp) (out++[x]) W G (λw=>Q w/\mL w (⟨x.kind,x.eB,x.name,E,B,x.n,x.body,x.eo,x.at_⟩:aZ) x) M _ U (λw' hc=>V w' (O w' hc).aF) (B9 (JI h0) oy) bL (by split<;>omega) (by rw[kH,lH];omega) J5
        rintro _ _ rfl u;obtain⟨ov3,vc,u⟩:=pT.open u;refine aA iO (aV u.p3 bO (dM rfl) (rfl) λ_ u=>?_);have u:=u.enc (cs':=ia (⟨x.kind,x.eB,x.name,E,B,x.n,(G.length:Int),x.eo,x.at_⟩:aZ)) rfl;refine⟨λw'=>∃(bd el:Int) (rest:List bK),add={x with body:=bd,eo:=el}::rest/\St w F [pT p lv s2 ((out++[x])++rest) (λw=>Q w/\mL w (⟨x.kind,x.eB,x.name,E,B,x.n,x.body,x.eo,x.at_⟩:aZ) x),bZ BF (ia (⟨x.kind,x.eB,x.name,E,B,x.n,bd,el,x.at_⟩:aZ))] w',?_,?_⟩
        .refine⟨λjv w'=>jv=.bool (km l (iD l s.at_ 13) W)/\St w F [bZ p (eg lv ov3 W),bF ov3 vc,eH (λw=>gu vc ((out++[x])++G) w/\(λw=>Q w/\mL w (⟨x.kind,x.eB,x.name,E,B,x.n,x.body,x.eo,x.at_⟩:aZ) x) w),bZ BF (ia (⟨x.kind,x.eB,x.name,E,B,x.n,(G.length:Int),x.eo,x.at_⟩:aZ))] w',?_,?_⟩
         .refine aG (aC (λHI=>?_) λHI=>?_)
          .refine aD (aA kz (have u:=u.drew;aB jx u.p1.hb rfl (aG (aC (λBK=>?_) λBK=>?_))))
           .refine aD (aA iC (aB jb u.p1.hb rfl (aD (aA eY (aB bO u.p1.hb rfl (aS vu u (C209 _ l W.at_ (hZ #[101,108,115,101]) _ (V _ u.aF) hn) λ_ he u=>?_))))));have u:=u.p3.p3.p3;exact⟨vb (by unfold km;rw[ei HI,ei BK];rfl),u⟩
           .have u:=u.p3.p3.p3;exact⟨vb (by unfold km;first|(rw[ej HI];rfl)|(rw[ei HI,ej BK];rfl)),u⟩
          .have u:=u.drew.p3.p3.p3;exact⟨vb (by unfold km;first|(rw[ej HI];rfl)|(rw[ei HI,ej BK];rfl)),u⟩
         .rintro _ _ ⟨rfl,u⟩ _;refine aX (λI=>?_) (λI=>?_)
          .obtain⟨J,s5,m2,hb2,e5,tH⟩|⟨J,_⟩:=Z
           rotate_left
           .rw[J]at I;cases I
           subst e5;have hin3:=sC (show tz l W.at_ aho=true by unfold km at I;rw[nS]at I;exact I.2);refine aD (aA eY (aB bO u.hb rfl (aJ bL (aD (aA eY (aV u bO (dM rfl) (rfl) λ_ u=>aJ bL ?_))))));have u:=pT.shut (s:=U4 W) u.p2.p2.p2;have hkd11:(iD l s.at_ 13)=11:=by unfold km at I;simp at I;exact I.1.1
           rw[eb (show ¬ (iD l s.at_ 13)=12 by omega)];refine bD af7 u (H':=λ_=>pT p lv s2 (((out++[x])++G)++m2) λw=>Q w/\mL w (⟨x.kind,x.eB,x.name,E,B,x.n,x.body,x.eo,x.at_⟩:aZ) x) (Φ:=λv _=>v=hH (m2.length:Int)) (λM U O=>?_) ?_
           .exact HB p lv (U4 W) (d+1) lp ((out++[x])++G) s2 m2 (λw=>Q w/\mL w (⟨x.kind,x.eB,x.name,E,B,x.n,x.body,x.eo,x.at_⟩:aZ) x) M _ U (λw' hc=>V w' (O w' hc).aF) (QE I) bL bL (by have:=ez List.length tH;simp at this |-;omega) hb2
           rintro _ _ rfl u;rw[mX (out++[x])]at u;refine aA iz (aV u.p1 bO (dM rfl) (rfl) λ_ u=>?_);have u:=u.enc (cs':=ia (⟨x.kind,x.eB,x.name,E,B,x.n,(G.length:Int),(m2.length:Int),x.at_⟩:aZ)) rfl;have u:=u.p1;exact⟨_,_,_,tH,u⟩
          .obtain⟨J,_⟩|⟨J,e5,tH⟩:=Z
           .rw[J]at I;cases I
           subst e5;have u:=((pT.shut u.p2.p2.p2).p1).p1;exact⟨(G.length:Int),x.eo,G,tH,u⟩
        .rintro _ ⟨bd,el,rest,tH,u⟩ _;obtain⟨ov5,Y,u⟩:=pT.open u;refine aD (aA pW (have u:=u.drew;aB jA u.hb rfl (aE eG u.p3.At ?_)));have h5l:Y.length=(out++[x]++rest).length:=u.p2.eH.1.1;have h6l:=ez List.length tH;simp only[kH,n5,Ei]at h5l h6l;obtain⟨ayK,atW⟩:=gx Y (i:=(ts.length:Int).toNat) bL;refine dJ u.p1 fj bL bL (λ_ akK=>jj _ u.p1 eG akK bL λ_ u=>?_);have u:=u.p3.drop.p1.p2.dD (Ψ:=λw=>gu (Y.set (ts.length:Int).toNat (⟨x.kind,x.eB,x.name,E,B,x.n,bd,el,x.at_⟩:aZ)) (out++add) w/\Q w) (λ_ h=>⟨by
  have hh:=aeD (i:=(ts.length:Int).toNat) (t:=(⟨x.kind,x.eB,x.name,E,B,x.n,bd,el,x.at_⟩:aZ)) (x:={x with body:=bd,eo:=el}) h.1 ⟨E,B,rfl,aeB (x:=x) h.2.2,aeC (x:=x) h.2.2⟩;rw[show(ts.length:Int).toNat=out.length from bL,mX,List.singleton_append,Z4]at hh
  rw[tH,show(ts.length:Int).toNat=out.length from bL];exact hh,h.2.1⟩)
         have u:=u.p2.p2;exact⟨rfl,(pT.shut u).mut⟩
def C293(p:Nat)(lv:Value)(l:List bQ)(s:fM)(k:Nat)(d lp:Int)(out:List bK)(s2:fM)(add:List bK)(Q:g7)(F:Nat->Prop)(w:World)(hF:(pT p lv s out Q).p w F)(M:∀w',gC F w w'->dz (λ_=>True) w' lv l)(O:iY l)(W:ld l s)(HB:akF l k)(hd:0<=d/\d+k<=1000)(hlp:0<=lp/\lp+k<=1000)(F3:out.length+add.length<=1000000)(hr:VT l (k+1) s d lp=some (s2,add)):CR 293 [(.pointer (some ⟨p,0,none⟩)),hH d,hH lp] w (λv w'=>v=hH (add.length:Int)/\mH F (pT p lv s2 (out++add) Q) w w'):=by
 have u:=St.begin hF;obtain⟨ov,ts,u⟩:=pT.open u;have OD:ts.length=out.length:=u.p2.eH.1.1;obtain⟨s9,Zn,e2⟩:=Z3 hr;have Dr:=O.n;have hn:l.length<=1000000:=bL
 have r8:=O.at_;obtain⟨Td,Te⟩:=id W;refine pJ Tryz.func293 (pl:=avv) ?_;refine aD (aA pW (aB jA u.hb rfl (aH fj u.p1.dQ ⟨λw'=>St w F [bZ p (eg lv ov (VS l s d)),bF ov ts,eH λw=>gu ts out w/\Q w] w',⟨λjv w'=>jv=.bool (decide (12<d)&&tz l s.at_ CI)/\St w F [bZ p (eg lv ov s),bF ov ts,eH λw=>gu ts out w/\Q w] w',cP (aC (λ_=>aD (aA iC (have u:=u.drew;aB jb u.hb rfl (aD (aA eY (aB bO u.hb rfl (aS vu u (C209 _ l s.at_ (hZ #[123]) _ (M _ u.aF) hn) λ_ _ u=>⟨vb (by first|(rw[ei (show 12<d by omega)];rfl)|(rw[ej (show ¬ 12<d by omega)];rfl)),u⟩))))))) λ_=>have u:=u.drew;⟨vb (by first|(rw[ei (show 12<d by omega)];rfl)|(rw[ej (show ¬ 12<d by omega)];rfl)),u⟩),?_⟩,?_⟩)))
 .rintro _ _ ⟨rfl,u⟩ _;refine aX (λjq=>?_) (λjq=>?_)
  .refine bD GH u (H':=λ_=>bZ p (eg lv ov (jm l s 7))) (Φ:=λ_ _=>True) (λG J I=>?_) ?_
   .exact(C291 p lv ov l s 7 G _ J (λw' hc=>M w' (I w' hc).aF) O W).mono λ_ _ r=>r.mono λ_ _ h=>⟨trivial,h.2⟩
   rintro _ _ _ u;have u:=u.p2.p2.p2;have h7:VS l s d=jm l s 7:=by unfold VS;rw[ee jq]
   rw[h7];exact u
  have u:=u.p2.p2.p2;have h7:VS l s d=s:=by unfold VS;rw[eb (by rw[jq];simp)]
  rw[h7];exact u
 intro _ u _;refine bD yp u (H':=λ_=>bZ p (eg lv ov (dR l (VS l s d) (hZ #[123])))) (Φ:=λ_ _=>True) (λG J I=>?_) ?_
 .exact(C257 p lv ov l (VS l s d) (hZ #[123]) G _ J (λw' hc=>M w' (I w' hc).aF) O (QB W)).mono λ_ _ r=>r.mono λ_ _ h=>⟨trivial,h.2⟩
 rintro _ _ _ u;have u:=pT.shut (s:=dR l (VS l s d) CI) u.p2.p2.p2;refine⟨λmm w'=>∃(B:fM) (E Z:List bK),ld l B/\tC l (λs=>C3 l (VT l k) s d lp) mm B=some (s9,Z)/\add=E++Z/\St w F [pT p lv B (out++E) Q] w',⟨10000,_,[],add,fE (QB W),Zn,rfl,by rw[oj];exact u⟩,?_⟩;rintro mm _ ⟨B,E,Z,Np,J5,V,u⟩ _;obtain⟨m,rfl⟩:=HH J5;obtain⟨Y,Xo,u⟩:=pT.open u;have aeE:Xo.length=(out++E).length:=u.p2.eH.1.1;rw[kH]at aeE;refine⟨λjv w'=>jv=.bool (decide (B.e=0)&&!tz l B.at_ oh)/\St w F [bZ p (eg lv Y B),bF Y Xo,eH λw=>gu Xo (out++E) w/\Q w] w',aD (aA kz (have u:=u.drew;aB jx u.hb rfl (aG (aC (λU=>aD (aA iC (aB jb u.hb rfl (aD (aA eY (aB bO u.hb rfl (aS vu u (C209 _ l B.at_ (hZ #[125]) _ (M _ u.aF) hn) λ_ _ u=>bP (have u:=u.p2.p2.p2;⟨vb (by first|(rw[ei U];rfl)|(rw[ej U];rfl)),u⟩)))))))) λU=>have u:=u.p2.p2.p2;⟨vb (by first|(rw[ei U];rfl)|(rw[ej U];rfl)),u⟩)))),?_⟩
 rintro _ _ ⟨rfl,u⟩ _;refine aX (λwB=>?_) (λwB=>?_)
 .obtain⟨s3,a1,a3,ho,hb3,rfl⟩:=JJ J5 wB;have u:=pT.shut u.p2.p2.p2;refine bD af5 u (H':=λ_=>pT p lv s3 ((out++E)++a1) Q) (Φ:=λ_ _=>True) (λG J I=>?_) ?_
  .exact(C256 p lv l B k d lp (out++E) s3 a1 Q G _ J (λw' hc=>M w' (I w' hc).aF) O Np HB bL bL (by have:=ez List.length V;simp at this |-;omega) ho).mono λ_ _ r=>r.mono λ_ _ h=>⟨trivial,h.2⟩
  rintro _ _ _ u;exact⟨_,bL,s3,E++a1,a3,QC (λ_ _ _ _ _ c e=>QD c e) Np ho,hb3,by rw[V,mX],by rw[<- mX];exact u⟩
 obtain⟨e9,rfl⟩:=Fu J5 wB;replace e9:=e9.symm;subst e9;rw[oj]at V;subst V;refine bD yp u (H':=λ_=>bZ p (eg lv Y (dR l B (hZ #[125])))) (Φ:=λ_ _=>True) (λG J I=>?_) ?_
 .exact(C257 p lv Y l B (hZ #[125]) G _ J (λw' hc=>M w' (I w' hc).aF) O Np).mono λ_ _ r=>r.mono λ_ _ h=>⟨trivial,h.2⟩
 rintro _ _ _ u;refine aD (aA pW (aB jA u.hb rfl (aH fj u.p1.dQ (fk bL ?_))));rw[e2];exact⟨ez (mn .i64) bL,(pT.shut u).mut⟩
theorem arR{l:List bQ}(u:iY l):∀k,akF l k
 | 0=>λp lv s d lp out B add Q F w _ _ _ _ _ _ h=>by cases h
 | k+1=>λp lv s d lp out B add Q F w I E J hd M G h=>C293 p lv l s k d lp out B add Q F w I E u J (arR u k) bL bL G h
def tW(i:Int):fM:=⟨i,0,0⟩
def Fv(l:List bQ)(i op:Int):Option (List bK×Int×Int×Int):=
 (tC l (λs=>C3 l (VT l 20) s 0 0) 10000 (tW i)).bind λr=>
  if 1000000<r.2.length then none else if (dR l r.1 oh).e≠0 then some ([],0,(dR l r.1 oh).e,(dR l r.1 oh).pos)
  else if 40<r.2.length then some ([],0,2,(pa l op).at_)
  else some (r.2,(dR l r.1 oh).at_,0,0)
def JK(l:List bQ)(s:fM):Bool:=match lI l s.at_ with|some t=>decide (t.kind=2)|none=>false
def ju(l:List bQ)(nb:Bool)(s:fM):fM×cG:=
 if (nb&&(iw l (eZ l s).1 J8).2)=true then
  (if JK l (iw l (eZ l s).1 J8).1=true then(U4 (iw l (eZ l s).1 J8).1,{ (eZ l s).2 with n:=(pa l (iw l (eZ l s).1 J8).1.at_).n})
  else(jm l (iw l (eZ l s).1 J8).1 5,(eZ l s).2))
 else eZ l s
abbrev Ca:ByteArray:=⟨#[44]⟩
abbrev Tq:ByteArray:=⟨#[59]⟩
def pH(l:List bQ)(nb:Bool):Nat->Bool->fM->Option (fM×List cG)
 | 0,_,_=>none
 | m+1,more,s=>if (more&&decide (s.e=0))=true then(pH l nb m (iw l (ju l nb s).1 Ca).2 (iw l (ju l nb s).1 Ca).1).bind λr=>some (r.1,(ju l nb s).2::r.2)else some (s,[])
def m7(l:List bQ)(nb:Bool)(s:fM):Option (fM×List cG):=(pH l nb 10000 true s).bind λr=>if 1000000<r.2.length then none else some (dR l r.1 Tq,r.2)
abbrev U5:ByteArray:=⟨#[114,101,103]⟩
def A5(l:List bQ)(s:fM):Option (fM×List ByteArray):=
 if (iw l s U5).2=true then(m7 l false (iw l s U5).1).bind λr=>some (r.1,r.2.map cG.name)else some (s,[])
def tD(l:List bQ)(s:fM)(nm:ByteArray)(a:Int):Option (fM×cL):=
 (A5 l (dR l s CI)).bind λr=>
  if r.1.e≠0 then some (r.1,⟨nm,r.2,[],a⟩)
  else(Fv l r.1.at_ s.at_).bind λR=>if 0<=R.2.1/\R.2.1<=l.length then some (⟨R.2.1,R.2.2.1,R.2.2.2⟩,⟨nm,r.2,R.1,a⟩)else none
def xl(l:List bQ)(s:fM)(a:Int):Option (fM×gO):=
 (vI l s.at_).bind λR=>if R.2.2.1≠0 then some ({s with e:=R.2.2.1,pos:=R.2.2.2},⟨[],0⟩)
  else if 0<=R.2.1/\R.2.1<=l.length then some (dR l {s with at_:=R.2.1} Tq,⟨R.1,a⟩)else none
def mU{α:Type}(l:List bQ)(t:ByteArray)(rd:fM->Option (fM×α)):Nat->fM->Option (fM×List α)
 | 0,_=>none
 | m+1,s=>if (iw l s t).2=true then(rd (iw l s t).1).bind λr=>(mU l t rd m r.1).bind λq=>some (q.1,r.2::q.2)else some (s,[])
def zD(l:List bQ)(s:fM):Int:=(pa l (s.at_-1)).at_
def QF(l:List bQ)(s:fM):Option (fM×List cL):=
 if (iw l s ⟨#[114,101,99,111,118,101,114]⟩).2=true then(tD l (iw l s ⟨#[114,101,99,111,118,101,114]⟩).1 ⟨#[]⟩ (zD l (iw l s ⟨#[114,101,99,111,118,101,114]⟩).1)).bind λr=>some (r.1,[r.2])else some (s,[])
abbrev Z5:ByteArray:=⟨#[108,105,110,101]⟩
abbrev akL:ByteArray:=⟨#[118,111,108]⟩
abbrev Z6:ByteArray:=⟨#[108,111,99,107]⟩
abbrev JL:ByteArray:=⟨#[116,104,114,101,97,100]⟩
abbrev JM:ByteArray:=⟨#[97,108,119,97,121,115]⟩
def akM(l:List bQ)(s:fM):Option (fM×cL):=tD l (eZ l s).1 (eZ l s).2.name (eZ l s).2.at_
def Gq(l:List bQ)(s:fM):fM:=if s.at_<l.length then jm l s 5 else s
def Nq:cE:=⟨[],[],[],[],[],[]⟩
def vl(t:ByteArray):Option (cE×Int×Int):=
 (vG t).bind λL=>if L.2.1≠0 then some (Nq,L.2.1,L.2.2)else
 (mU L.1 Z5 (m7 L.1 true) 10000 (tW 0)).bind λI=>
 (mU L.1 akL (m7 L.1 true) 10000 I.1).bind λG=>
 (mU L.1 Z6 (m7 L.1 false) 10000 G.1).bind λE=>
 (mU L.1 JL (akM L.1) 10000 E.1).bind λB=>
 (QF L.1 B.1).bind λJ=>
 (mU L.1 JM (λs=>xl L.1 s (zD L.1 s)) 10000 J.1).bind λu=>
  if 1000000<I.2.length\/1000000<G.2.flatten.length\/1000000<E.2.flatten.length\/1000000<B.2.length\/1000000<u.2.length then none else if (Gq L.1 u.1).e≠0 then some (Nq,(Gq L.1 u.1).e,(Gq L.1 u.1).pos)else some (⟨I.2,G.2.flatten,E.2.flatten,B.2,J.2,u.2⟩,0,0)
section
variable {l:List bQ}{s s':fM}
theorem Z7{t:ByteArray}(h:(iw l s t).2=true):iw l s t=({s with at_:=s.at_+1},true)/\s.e=0/\0<=s.at_/\s.at_<l.length:=by
 unfold iw at h |-
 split at h
 .rename_i h2
  rw[ee h2]
  rw[nS,decide_eq_true_eq]at h2
  exact⟨rfl,h2.1,sC h2.2⟩
 cases h
theorem xm{t:ByteArray}(h:(iw l s t).2=false):iw l s t=(s,false):=by
 grind[iw]
theorem Fx{nb:Bool}(h:ld l s):ld l (ju l nb s).1:=by
 have h1:=uI h
 have h2:=kf (t:=J8) h1
 unfold ju
 split
 .split
  .rename_i h3
   unfold JK at h3
   cases ht:lI l (iw l (eZ l s).1 J8).1.at_ with
   | none=>grind
   | some t=>
    have:=mA ht
    exact⟨by show 0<=(iw l (eZ l s).1 J8).1.at_+1;omega,by show(iw l (eZ l s).1 J8).1.at_+1<=_;omega⟩
  exact tB h2
 exact h1
theorem HJ{nb:Bool}:∀{m:Nat}{more:Bool}{s s':fM}{x:List cG},ld l s->pH l nb m more s=some (s',x)->ld l s'
 | 0,_,_,_,_,_,h=>by cases h
 | m+1,more,s,s',x,u,h=>by
  unfold pH at h
  split at h
  .obtain⟨q,y,h1,h2⟩:=eL h
   cases h2
   exact HJ (kf (Fx u)) h1
  grind
theorem ya{nb:Bool}{x:List cG}(h:m7 l nb s=some (s',x)):∃u,pH l nb 10000 true s=some (u,x)/\s'=dR l u Tq/\x.length<=1000000:=by
 unfold m7 at h
 obtain⟨q,y,h1,h2⟩:=eL h
 grind
theorem yb{nb:Bool}{x:List cG}(u:ld l s)(h:m7 l nb s=some (s',x)):ld l s':=by
 obtain⟨B,h1,h2,_⟩:=ya h
 rw[h2];exact fE (HJ u h1)
theorem Nr{nb more:Bool}{m:Nat}{x:List cG}(h:pH l nb m more s=some (s',x)):∃k,m=k+1:=by
 cases m with
 | zero=>cases h
 | succ k=>grind
theorem Fy{nb more:Bool}{m:Nat}{x:List cG}(h:pH l nb (m+1) more s=some (s',x))(hb:(more&&decide (s.e=0))=false):s'=s/\x=[]:=by
 unfold pH at h;grind
theorem U6{nb more:Bool}{m:Nat}{x:List cG}(h:pH l nb (m+1) more s=some (s',x))(hb:(more&&decide (s.e=0))=true):∃y,pH l nb m (iw l (ju l nb s).1 Ca).2 (iw l (ju l nb s).1 Ca).1=some (s',y)/\x=(ju l nb s).2::y:=by
 unfold pH at h;rw[hb,ee rfl]at h
 obtain⟨q,y,h1,h2⟩:=eL h
 grind
theorem Ns{x:List ByteArray}(u:ld l s)(h:A5 l s=some (s',x)):ld l s':=by
 unfold A5 at h
 split at h
 .obtain⟨q,y,h1,h2⟩:=eL h
  cases h2
  exact yb (kf u) h1
 grind
theorem Fz{nm:ByteArray}{a:Int}{x:cL}(u:ld l s)(h:tD l s nm a=some (s',x)):ld l s':=by
 unfold tD at h
 obtain⟨q,y,h1,h2⟩:=eL h
 have h3:=Ns (fE u) h1
 dsimp only at h2
 split at h2
 .grind
 cases hr:Fv l q.at_ s.at_ with
 | none=>grind
 | some R=>
  grind[ld]
theorem U7{a:Int}{x:gO}(u:ld l s)(h:xl l s a=some (s',x)):ld l s':=by
 unfold xl at h
 cases hr:vI l s.at_ with
 | none=>grind
 | some R=>
  rw[hr]at h
  simp only[l2]at h
  split at h
  .cases h;exact u
  .split at h
   .rename_i h4;cases h;exact fE h4
   .cases h
theorem sE{α:Type}{t:ByteArray}{rd:fM->Option (fM×α)}{m:Nat}{x:List α}(h:mU l t rd m s=some (s',x)):∃k,m=k+1:=by
 cases m with
 | zero=>cases h
 | succ k=>grind
theorem uJ{α:Type}{t:ByteArray}{rd:fM->Option (fM×α)}{m:Nat}{x:List α}(h:mU l t rd (m+1) s=some (s',x))(hb:(iw l s t).2=false):s'=s/\x=[]:=by
 unfold mU at h;grind
theorem xn{α:Type}{t:ByteArray}{rd:fM->Option (fM×α)}{m:Nat}{x:List α}(h:mU l t rd (m+1) s=some (s',x))(hb:(iw l s t).2=true):∃u y z,rd (iw l s t).1=some (u,y)/\mU l t rd m u=some (s',z)/\x=y::z:=by
 unfold mU at h;rw[hb,ee rfl]at h
 obtain⟨q,y,h1,h2⟩:=eL h
 obtain⟨B,E,h3,h4⟩:=eL h2
 grind
end
def noQ:g7:=λ_=>True
theorem A6{l:List bQ}{i:Int}{t:bQ}(u:0<=i)(h:l[i.toNat]?=some t):pa l i=t:=by
 unfold pa lI;grind
def aeF{l:List bQ}{i op:Int}{R:List bK×Int×Int×Int}(h:Fv l i op=some R):∃u add,tC l (λs=>C3 l (VT l 20) s 0 0) 10000 (tW i)=some (u,add)/\add.length<=1000000/\
  ((dR l u oh).e≠0->R=([],0,(dR l u oh).e,(dR l u oh).pos))/\(¬ (dR l u oh).e≠0->40<(add.length:Int)->R=([],0,2,(pa l op).at_))/\
  (¬ (dR l u oh).e≠0->¬ 40<(add.length:Int)->R=(add,(dR l u oh).at_,0,0)):=by
 unfold Fv at h
 obtain⟨q,y,h1,h2⟩:=eL h
 grind
section
variable {l:List bQ}{s s':fM}{nb:Bool}
theorem U8(u:nb=true)(h2:(iw l (eZ l s).1 J8).2=true)(h3:JK l (iw l (eZ l s).1 J8).1=true) :
  ju l nb s=(U4 (iw l (eZ l s).1 J8).1,{ (eZ l s).2 with n:=(pa l (iw l (eZ l s).1 J8).1.at_).n}):=by
 unfold ju;grind
theorem U9(u:nb=true)(h2:(iw l (eZ l s).1 J8).2=true)(h3:JK l (iw l (eZ l s).1 J8).1=false) :
  ju l nb s=(jm l (iw l (eZ l s).1 J8).1 5,(eZ l s).2):=by
 unfold ju;grind
theorem Z8(h2:(iw l (eZ l s).1 J8).2=false):ju l nb s=((iw l (eZ l s).1 J8).1,(eZ l s).2):=by
 unfold ju;rw[eb cH,xm h2]
theorem Z9(u:nb=false):ju l nb s=((eZ l s).1,(eZ l s).2):=by
 grind[ju,eZ]
theorem aeG{q:fM}(h:JK l q=true):∃u,lI l q.at_=some u/\l[q.at_.toNat]?=some u/\0<=q.at_/\q.at_<l.length:=by
 unfold JK at h
 cases ht:lI l q.at_ with
 | none=>grind
 | some u=>have:=mA ht;grind
theorem HK{x:List ByteArray}(h:A5 l s=some (s',x))(h1:(iw l s U5).2=true):∃ys,m7 l false (iw l s U5).1=some (s',ys)/\x=ys.map cG.name:=by
 unfold A5 at h;rw[ee h1]at h
 obtain⟨q,y,h2,h3⟩:=eL h
 grind
theorem Nt{x:List ByteArray}(h:A5 l s=some (s',x))(h1:(iw l s U5).2=false):s'=s/\x=[]:=by
 unfold A5 at h;grind
theorem QG{nm:ByteArray}{a:Int}{x:cL}(h:tD l s nm a=some (s',x)):∃q rs,A5 l (dR l s CI)=some (q,rs)/\
  (q.e≠0->s'=q/\x=⟨nm,rs,[],a⟩)/\(¬ q.e≠0->∃R,Fv l q.at_ s.at_=some R/\0<=R.2.1/\R.2.1<=l.length/\s'=⟨R.2.1,R.2.2.1,R.2.2.2⟩/\x=⟨nm,rs,R.1,a⟩):=by
 unfold tD at h
 obtain⟨q,rs,h1,h2⟩:=eL h
 refine⟨q,rs,h1,λu=>?_,λu=>?_⟩
 .grind
 dsimp only at h2;rw[eb u]at h2
 cases hr:Fv l q.at_ s.at_ with
 | none=>grind
 | some R=>
  grind
theorem Va{a:Int}{x:gO}(h:xl l s a=some (s',x)):∃R,vI l s.at_=some R/\
  (R.2.2.1≠0->s'={s with e:=R.2.2.1,pos:=R.2.2.2}/\x=⟨[],0⟩)/\(¬ R.2.2.1≠0->(0<=R.2.1/\R.2.1<=l.length)/\s'=dR l {s with at_:=R.2.1} Tq/\x=⟨R.1,a⟩):=by
 unfold xl at h
 cases hr:vI l s.at_ with
 | none=>grind
 | some R=>
  grind
theorem akN{e:Int}(u:e≠0)(h:(jm l s e).e=0):False:=by
 unfold jm at h
 grind
theorem aeH{t:ByteArray}(h:(dR l s t).e=0):tz l s.at_ t=true:=by
 unfold dR at h
 split at h
 .grind
 exact(akN cZ h).elim
theorem arT{t:ByteArray}:(iw l s t).1.e=s.e:=by unfold iw;grind
theorem Vb{e:Int}(h:s.e≠0):(jm l s e).e≠0:=by unfold jm;grind
theorem QH{t:ByteArray}(h:s.e≠0):(dR l s t).e≠0:=by
 unfold dR;rw[eb cH];exact Vb h
theorem Nu:∀{m:Nat}{more:Bool}{s s':fM}{x:List cG},s.e≠0->pH l nb m more s=some (s',x)->s'.e≠0
 | 0,_,_,_,_,_,h=>by cases h
 | m+1,more,s,s',x,u,h=>by
  have:=Fy h cH
  grind
theorem Nv{x:List cG}(u:s.e≠0)(h:m7 l nb s=some (s',x)):s'.e≠0:=by
 obtain⟨B,h1,h2,_⟩:=ya h
 rw[h2];exact QH (Nu u h1)
theorem QI{x:List ByteArray}(u:s.e≠0)(h:A5 l s=some (s',x)):s'.e≠0:=by
 cases h1:(iw l s U5).2 with
 | true=>obtain⟨ys,h2,_⟩:=HK h h1;exact Nv (by rw[arT];exact u) h2
 | false=>rw[(Nt h h1).1];exact u
end
theorem Gr{α β:Type}{f:α->β}{l:List α}{k:Nat}{e:α}(h:l[k]?=some e):(l.take k).map f++[f e]=(l.take (k+1)).map f:=by
 rw[<- gG h,List.map_append];rfl
def Nw{l:List bQ}{s s':fM}{x:List cL}(h:QF l s=some (s',x))(h1:(iw l s ⟨#[114,101,99,111,118,101,114]⟩).2=true):∃y,tD l (iw l s ⟨#[114,101,99,111,118,101,114]⟩).1 ⟨#[]⟩ (zD l (iw l s ⟨#[114,101,99,111,118,101,114]⟩).1)=some (s',y)/\x=[y]:=by
 unfold QF at h;rw[ee h1]at h
 obtain⟨q,y,h2,h3⟩:=eL h
 grind
theorem Tr{l:List bQ}{s s':fM}{x:List cL}(h:QF l s=some (s',x))(h1:(iw l s ⟨#[114,101,99,111,118,101,114]⟩).2=false):s'=s/\x=[]:=by
 unfold QF at h;grind
theorem Vc{t:ByteArray}{l:List bQ}{e a:Int}{R:cE×Int×Int}(h:vl t=some R)(B:vG t=some (l,e,a))(u:e≠0):R=(Nq,e,a):=by
 unfold vl at h;rw[B]at h
 simp only[l2]at h
 rw[ee u]at h;exact(n3.inj h).symm
theorem QJ{t:ByteArray}{R:cE×Int×Int}(h:vl t=some R):∃l e a,vG t=some (l,e,a):=by
 unfold vl at h
 cases hs:vG t with
 | none=>rw[hs]at h;cases h
 | some L=>exact⟨L.1,L.2.1,L.2.2,rfl⟩
structure akO(l:List bQ)(R:cE×Int×Int)(t1 t2 t3 t4 t5 t6:fM)(y1:List (List cG))(y2 y3:List (List cG))(y4 y5:List cL)(y6:List gO):Prop where
 h1:mU l Z5 (m7 l true) 10000 (tW 0)=some (t1,y1)
 h2:mU l akL (m7 l true) 10000 t1=some (t2,y2)
 h3:mU l Z6 (m7 l false) 10000 t2=some (t3,y3)
 h4:mU l JL (akM l) 10000 t3=some (t4,y4)
 h5:QF l t4=some (t5,y5)
 h6:mU l JM (λs=>xl l s (zD l s)) 10000 t5=some (t6,y6)
 b1:y1.length<=1000000
 b2:y2.flatten.length<=1000000
 b3:y3.flatten.length<=1000000
 b4:y4.length<=1000000
 b6:y6.length<=1000000
 bad:(Gq l t6).e≠0->R=(Nq,(Gq l t6).e,(Gq l t6).pos)
 ayL:¬ (Gq l t6).e≠0->R=(⟨y1,y2.flatten,y3.flatten,y4,y5,y6⟩,0,0)
def aaa{t:ByteArray}{l:List bQ}{e a:Int}{R:cE×Int×Int}(h:vl t=some R)(hs:vG t=some (l,e,a))(he:¬ e≠0):∃O I Z B E W J U G M V Y,akO l R O I Z B E W J U G M V Y:=by
 unfold vl at h;rw[hs]at h
 simp only[l2]at h
 rw[eb he]at h
 obtain⟨O,J,h1,h⟩:=eL h
 obtain⟨I,U,h2,h⟩:=eL h
 obtain⟨Z,G,h3,h⟩:=eL h
 obtain⟨B,M,h4,h⟩:=eL h
 obtain⟨E,V,h5,h⟩:=eL h
 obtain⟨W,Y,h6,h⟩:=eL h
 dsimp only at h
 split at h
 .cases h
 rename_i hb
 simp only[not_or,Nat.not_lt]at hb
 refine⟨O,I,Z,B,E,W,J,U,G,M,V,Y,h1,h2,h3,h4,h5,h6,hb.1,hb.2.1,hb.2.2.1,hb.2.2.2.1,hb.2.2.2.2,λu=>?_,λu=>?_⟩
 .rw[ee u]at h;exact(n3.inj h).symm
 rw[eb u]at h;exact(n3.inj h).symm
theorem aeI{l:List bQ}{s s':fM}{x:List cL}(u:ld l s)(h:QF l s=some (s',x)):ld l s':=by
 cases h1:(iw l s ⟨#[114,101,99,111,118,101,114]⟩).2 with
 | true=>obtain⟨y,h2,_⟩:=Nw h h1;exact Fz (kf u) h2
 | false=>rw[(Tr h h1).1];exact u
theorem A7{α:Type}{a:List (List α)}{b:List α}:(a++[b]).flatten=a.flatten++b:=ea
def Ts{α:Type}{y a c:List (List α)}{b:List α}(h:y=a++b::c):a.flatten.length+b.length<=y.flatten.length:=cH
def C212(l:List bQ)(lv:Value)(i op:Int)(R:List bK×Int×Int×Int)(w:World)(hL:dz (λ_=>True) w lv l)(M:iY l)(h0:0<=i/\i<=l.length)(jZ:0<=op/\op<l.length)(hr:Fv l i op=some R):CR 212 [lv,hH i,hH op] w (λv w'=>∃Z:SV,v=.tuple #[hM Z,hH R.2.1,hH R.2.2.1,hH R.2.2.2]/\kZ (eH λw=>DL w (hM Z) R.1) w w'):=by
 have Dr:=M.n;have hn:l.length<=1000000:=bL
 have r8:=M.at_;obtain⟨s9,add,Zn,F3,hR⟩:=aeF hr;obtain⟨lsv,J⟩:=hL.fQ;have u:=St.start w;refine pJ Tryz.func212 (pl:=avf) ?_;rw[J];refine pop (OL _ _ _ _) (nf u λarU _ u=>?_);obtain⟨p,rfl⟩:∃p,p=arU:=⟨_,rfl⟩;have u:=u.enc (cs':=eg (hM lsv) (.slice none 0 0) (tW i)) rfl;rw[<- J]at u |-;have hT:∀w',gC aY w w'->dz (λ_=>True) w' lv l:=λ_ hc=>hL.ext hc;have u:=((u.gz (Φ:=λw=>gu ([]:List aZ) ([]:List bK) w/\noQ w) λ_=>⟨gu.nil,trivial⟩).eW (α:=aZ)).p2;have u:=pT.shut u;refine⟨λmm w'=>∃(B:fM) (E a2:List bK),ld l B/\tC l (λs=>C3 l (VT l 20) s 0 0) mm B=some (s9,a2)/\add=E++a2/\St w aY [pT p lv B (([]:List bK)++E) noQ] w',⟨10000,tW i,[],add,(show ld l (tW i)from h0),Zn,rfl,by rw[oj];exact u⟩,?_⟩
 rintro mm _ ⟨B,E,a2,Np,J5,V,u⟩ _;obtain⟨m,rfl⟩:=HH J5;obtain⟨W,Y,u⟩:=pT.open u;have O:Y.length=(([]:List bK)++E).length:=u.p2.eH.1.1;rw[kH]at O;refine⟨λjv w'=>jv=.bool (decide (B.e=0)&&!tz l B.at_ oh)/\St w aY [bZ p (eg lv W B),bF W Y,eH λw=>gu Y (([]:List bK)++E) w/\noQ w] w',aD (aA kz (have u:=u.drew;aB jx u.hb rfl (aG (aC (λI=>aD (aA iC (aB jb u.hb rfl (aD (aA eY (aB bO u.hb rfl (aS vu u (C209 _ l B.at_ (hZ #[125]) _ (hT _ u.aF) hn) λ_ _ u=>bP (have u:=u.p2.p2.p2;⟨vb (by first|(rw[ei I];rfl)|(rw[ej I];rfl)),u⟩)))))))) λI=>have u:=u.p2.p2.p2;⟨vb (by first|(rw[ei I];rfl)|(rw[ej I];rfl)),u⟩)))),?_⟩
 rintro _ _ ⟨rfl,u⟩ _;refine aX (λlO=>?_) (λlO=>?_)
 .obtain⟨s3,a1,a3,ho,hb3,rfl⟩:=JJ J5 lO;have u:=pT.shut u.p2.p2.p2;refine bD af5 u (H':=λ_=>pT p lv s3 ((([]:List bK)++E)++a1) noQ) (Φ:=λ_ _=>True) (λF2 dZ dV=>?_) ?_
  .exact(C256 p lv l B 20 0 0 (([]:List bK)++E) s3 a1 noQ F2 _ dZ (λw' hc=>hT w' (dV w' hc).aF) M Np (arR M 20) bL bL (by have:=ez List.length V;simp at this |-;omega) ho).mono λ_ _ r=>r.mono λ_ _ h=>⟨trivial,h.2⟩
  rintro _ _ _ u;exact⟨_,bL,s3,E++a1,a3,QC (λ_ _ _ _ _ c e=>QD c e) Np ho,hb3,by rw[V,mX],by rw[<- mX];exact u⟩
 obtain⟨e9,rfl⟩:=Fu J5 lO;replace e9:=e9.symm;subst e9;rw[oj]at V;subst V;obtain⟨ayN,ayO⟩:=id Np;simp only[Ei,Nat.zero_add]at O;refine bD yp u (H':=λ_=>bZ p (eg lv W (dR l B (hZ #[125])))) (Φ:=λ_ _=>True) (λF2 dZ dV=>?_) ?_
 .exact(C257 p lv W l B (hZ #[125]) F2 _ dZ (λw' hc=>hT w' (dV w' hc).aF) M Np).mono λ_ _ r=>r.mono λ_ _ h=>⟨trivial,h.2⟩
 rintro _ _ _ u;refine aD (aA kz (aB jx u.hb rfl (bT (aC (λU=>?_) λU=>aD (aA pW (aB jA u.hb rfl (aH fj u.p1.dQ (cP (aC (λAM=>?_) λAM=>?_)))))))))
 .refine aD (aA kz (have u:=u.drew;aB jx u.hb rfl (aD (aA Ah (aB bO u.hb rfl ?_)))));have G:R=([],0,(dR l B oh).e,(dR l B oh).pos):=hR.1 U;rw[G];exact⟨cI,rfl,(u.gz (Φ:=λw=>DL w (hM (cI:SV)) ([]:List bK)) λw=>DL.nil w).fresh⟩
 .obtain⟨YL,BT⟩:=gx l (i:=op.toNat) bL;refine aM fH hL bL BT (λ_ Ma=>bW YL.at_ lr Ma rfl rfl λ_ EN=>have u:=u.drew;aE bO (EN.ext u.aF) ?_);have G:R=([],0,2,YL.at_):=(hR.2.1 U bL).trans (by rw[A6 jZ.1 BT]);rw[G];exact⟨cI,rfl,(u.gz (Φ:=λw=>DL w (hM (cI:SV)) ([]:List bK)) λw=>DL.nil w).fresh⟩
 refine aD (aA pW (have u:=u.drew;aB jA u.hb rfl (aD (aA eY (aB bO u.hb rfl ?_)))));have u:=(u.drop.p1.dD (Ψ:=gu Y ([]++add)) λ_ h=>h.1).p1;have u:=St.yw u;obtain⟨Z,hsv⟩:=u.oJ;subst hsv;rw[hR.2.2 U bL];exact⟨Z,rfl,u.oI.fresh⟩
def C132(p:Nat)(lv:Value)(l:List bQ)(s:fM)(nb:Bool)(s2:fM)(x:List cG)(F:Nat->Prop)(w:World)(hF:(bZ p (et lv s)).p w F)(J:∀w',gC F w w'->dz (λ_=>True) w' lv l)(O:iY l)(h0:ld l s)(hr:m7 l nb s=some (s2,x)):CR 132 [(.pointer (some ⟨p,0,none⟩)),.bool nb] w (λv w'=>mH F (sep (bZ p (et lv s2)) (bF v x)) w w'):=by
 have u:=St.begin hF;obtain⟨s9,XC,e2,F3⟩:=ya hr;have Dr:=O.n;have hn:l.length<=1000000:=bL
 have r8:=O.at_;obtain⟨Td,Te⟩:=id h0;refine pJ Tryz.func132 (pl:=au2) ?_;refine aW ([]:List cG) u ie rfl rfl (dM rfl) (λaj8 _ u=>?_);have u:=u.p1.p1;refine⟨λmm o mo w'=>∃(B:fM) (b:Bool) (W a2:List cG),mo=.bool b/\ld l B/\pH l nb mm b B=some (s9,a2)/\x=W++a2/\St w F [bF o W,bZ p (et lv B)] w',⟨10000,s,true,[],x,rfl,h0,XC,rfl,u⟩,?_⟩;rintro mm ub _ w2 ⟨B,b,W,a2,rfl,M,Xp,hx,u⟩ _;obtain⟨m,rfl⟩:=Nr Xp;obtain⟨ayN,ayO⟩:=id M;refine⟨λjv w'=>jv=.bool (b&&decide (B.e=0))/\w2=w',aX (λZ=>aD (aA lZ (aB jx u.p1.hb rfl (aG ⟨vb (by first|(rw[Z];rfl)|(rw[Z];rfl)),rfl⟩)))) (λZ=>⟨vb (by first|(rw[Z];rfl)|(rw[Z];rfl)),rfl⟩),?_⟩
 rintro _ _ ⟨rfl,hw⟩ _;subst hw;refine aX (λdP=>?_) (λdP=>?_)
 .obtain⟨a3,hn3,rfl⟩:=U6 Xp dP;refine bD afP u.p1 (H':=λ_=>bZ p (et lv (eZ l B).1)) (Φ:=λv _=>v=hM (eZ l B).2) (λE I G=>?_) ?_
  .exact C133 p lv l B E _ I (λw' hc=>J w' (G w' hc).aF) O M
  rintro _ _ rfl u;refine aQ u oD (λarV _ u=>aK (x:=(eZ l B).2) u lK rfl rfl λ_ u=>⟨λw'=>St w F [bZ p (et lv (ju l nb B).1),bZ arV (ia (ju l nb B).2),bF ub W] w',⟨_,aX (λvm=>?_) (λvm=>?_),λ_ _ h=>h⟩,?_⟩)
  .refine bD yo u.p1 (H':=λ_=>bZ p (et lv (iw l (eZ l B).1 (hZ #[61])).1)) (Φ:=λv _=>v=.bool (iw l (eZ l B).1 (hZ #[61])).2) (λE I G=>?_) ?_
   .exact C131 p lv l (eZ l B).1 (hZ #[61]) E _ I (λw' hc=>J w' (G w' hc).aF) O (uI M)
   rintro _ _ rfl u;intro xM;refine aX (λjq=>?_) (λjq=>?_)
   .have hq:=kf (t:=hZ #[61]) (uI M);obtain⟨U,hq1⟩:=id hq;refine⟨λjv w'=>jv=.bool (JK l (iw l (eZ l B).1 (hZ #[61])).1)/\St w F [bZ p (et lv (iw l (eZ l B).1 (hZ #[61])).1),bZ arV (ia (eZ l B).2),bF ub W] w',aD (aA ft (have u:=u.drew;aB bO u.hb rfl (aD (aA jT (aB jb u.hb rfl (aH fH (J _ u.aF) (aO (aC (λkS=>?_) λkS=>have u:=u.p2.p2.p2;⟨vb (by unfold JK lI;rw[ee U,mC bL]),u⟩)))))))),?_⟩
    .refine aD (aA jT (aB jb u.hb rfl (aD (aA ft (aB bO u.hb rfl ?_)))));obtain⟨arW,Y⟩:=gx l (i:=(((iw l (eZ l B).1 (hZ #[61])).1).at_).toNat) bL;exact aM fH (J _ u.aF) bL Y (λ_ Lz=>bW arW.kind lq Lz rfl rfl λ_ LA=>aE bO LA (aG (have u:=u.p2.p2.p2;⟨vb (by unfold JK lI;rw[ee U,Y]),u⟩)))
    rintro _ _ ⟨rfl,u⟩ _;refine aX (λrQ=>?_) (λrQ=>?_)
    .obtain⟨tk,ZS,Hb,_,hqlt⟩:=aeG rQ;have Ob:pa l (iw l (eZ l B).1 (hZ #[61])).1.at_=tk:=A6 U Hb;refine aD (aA jT (have u:=u.drew;aB jb u.hb rfl (aD (aA ft (aB bO u.hb rfl (aM fH (J _ u.aF) bL Hb λ_ EN=>bW tk.n rM EN rfl rfl λ_ arX=>aE bO arX (aA rH (aV u.p1 bO (dM rfl) (rfl) λ_ u=>have u:=u.enc (cs':=ia ({ (eZ l B).2 with n:=tk.n}:cG)) rfl;aD (aA ft ?_)))))))));refine aB bO u.p1.hb rfl (aJ bL (aD (aA ft (aV u.p1 bO (dM rfl) (rfl) λ_ u=>?_))))
     have u:=u.p2.p2.p2;have V:(ju l nb B)=(U4 (iw l (eZ l B).1 (hZ #[61])).1,{ (eZ l B).2 with n:=tk.n}):=(U8 vm jq rQ).trans (by rw[Ob]);rw[V];exact u
    refine bD Rq u (H':=λ_=>bZ p (et lv (jm l (iw l (eZ l B).1 (hZ #[61])).1 5))) (Φ:=λ_ _=>True) (λE I G=>?_) ?_
    .exact(C136 p lv l (iw l (eZ l B).1 (hZ #[61])).1 E _ I (λw' hc=>J w' (G w' hc).aF) O (kf (uI M))).mono λ_ _ r=>r.mono λ_ _ h=>⟨trivial,h.2⟩
    rintro _ _ _ u;have u:=u.p2.p2.p2;have V:=U9 vm jq rQ;rw[V];exact u
   have u:=u.p2.p2.p2;have V:=Z8 (nb:=nb) jq;rw[V];exact u
  .intro xM;refine fa ?_;have u:=u.p2.p1.p2;have V:=Z9 (l:=l) (s:=B) vm;rw[V];exact u
  intro _ u _;refine aE lK u.p1.At (aW ([(ju l nb B).2]) u ie rfl rfl (dM rfl) λarK _ u=>?_);have akP:=u.dQ;refine bJ u.p3 ie akP (by have:=ez List.length hx;simp at this |-;omega) cZ (λarY _ u=>have u:=u.p1.drop;bD yo u.p1 (H':=λ_=>bZ p (et lv (iw l (ju l nb B).1 (hZ #[44])).1)) (Φ:=λv _=>v=.bool (iw l (ju l nb B).1 (hZ #[44])).2) (λE I G=>?_) ?_)
  .exact C131 p lv l (ju l nb B).1 (hZ #[44]) E _ I (λw' hc=>J w' (G w' hc).aF) O (Fx M)
  rintro _ _ rfl u;have u:=u.p2.drop.p1;exact⟨_,bL,(iw l (ju l nb B).1 Ca).1,(iw l (ju l nb B).1 Ca).2,W++[(ju l nb B).2],a3,rfl,kf (Fx M),hn3,by rw[hx,mX];rfl,u⟩
 obtain⟨e9,rfl⟩:=Fy Xp dP;replace e9:=e9.symm;subst e9;rw[oj]at hx;subst hx;refine bD Wl u.p1 (H':=λ_=>bZ p (et lv (dR l B (hZ #[59])))) (Φ:=λ_ _=>True) (λE I G=>?_) ?_
 .exact(C210 p lv l B (hZ #[59]) E _ I (λw' hc=>J w' (G w' hc).aF) O M).mono λ_ _ r=>r.mono λ_ _ h=>⟨trivial,h.2⟩
 rintro _ _ _ u;have u:=u.p1.p1;rw[e2];exact(St.join u).mut
def C134(p:Nat)(lv:Value)(l:List bQ)(s:fM)(nm:ByteArray)(a:Int)(s2:fM)(x:cL)(F:Nat->Prop)(w:World)(hF:(bZ p (et lv s)).p w F)(hT:∀w',gC F w w'->dz (λ_=>True) w' lv l)(G:iY l)(Z:ld l s)(hr:tD l s nm a=some (s2,x)):CR 134 [(.pointer (some ⟨p,0,none⟩)),hM (⟨nm,cI,cI,a⟩:cD)] w (λv w'=>mH F (pZ λsh:cD=>fact (v=hM sh) (sep (bZ p (et lv s2)) (eH λw=>mL w sh x))) w w'):=by
 have u:=St.begin hF;obtain⟨q,rs,Dx,Bo,I8⟩:=QG hr;have U:=Ns (fE Z) Dx;obtain⟨hqi0,hqi1⟩:=id U;have Dr:=G.n;have hn:l.length<=1000000:=bL
 have r8:=G.at_;obtain⟨Td,Te⟩:=id Z;refine pJ Tryz.func134 (pl:=au4) ?_;refine cJ (x:=(⟨nm,cI,cI,a⟩:cD)) u (λE _ u=>aQ u tc λOX _ u=>have u:=u.enc (cs':=ia (⟨(hZ #[]),cI,cI,0⟩:cD)) rfl;aD (aA ft (aB bO u.p2.hb rfl (bD Wl u.p2 (H':=λ_=>bZ p (et lv (dR l s (hZ #[123])))) (Φ:=λ_ _=>True) (λI dZ J=>?_) ?_))))
 .exact(C210 p lv l s (hZ #[123]) I _ dZ (λw' hc=>hT w' (J w' hc).aF) G Z).mono λ_ _ r=>r.mono λ_ _ h=>⟨trivial,h.2⟩
 rintro _ _ _ u;refine⟨λw'=>∃B:SV,St w F [bF (hM B) rs,bZ E (ia (⟨nm,B,cI,a⟩:cD)),bZ OX (ia (⟨(hZ #[]),cI,cI,0⟩:cD)),bZ p (et lv q)] w',?_,?_⟩
 .refine bD yo u (H':=λ_=>bZ p (et lv (iw l (dR l s (hZ #[123])) (hZ #[114,101,103])).1)) (Φ:=λv _=>v=.bool (iw l (dR l s (hZ #[123])) (hZ #[114,101,103])).2) (λI dZ J=>?_) ?_
  .exact C131 p lv l (dR l s (hZ #[123])) (hZ #[114,101,103]) I _ dZ (λw' hc=>hT w' (J w' hc).aF) G (fE Z)
  rintro _ _ rfl u;refine aX (λeT=>?_) (λeT=>?_)
  .obtain⟨ys,Y,hrs⟩:=HK Dx eT;have hyl:ys.length<=1000000:=by obtain⟨_,_,_,h⟩:=ya Y;exact h
   refine bD Rp u (H':=λv=>sep (bZ p (et lv q)) (bF v ys)) (Φ:=λ_ _=>True) (λI dZ J=>?_) ?_
   .exact(C132 p lv l (iw l (dR l s (hZ #[123])) (hZ #[114,101,103])).1 false q ys I _ dZ (λw' hc=>hT w' (J w' hc).aF) G (kf (fE Z)) Y).mono λ_ _ r=>r.mono λ_ _ h=>⟨trivial,h⟩
   rintro x21 _ _ u;have u:=(((((u.split.eW (α:=ByteArray)).p1).p3).p3).p4).p4;refine⟨λmm i w'=>∃(j:Nat) (B:SV),i=hH (j:Int)/\mm=ys.length-j/\j<=ys.length/\St w F [bF (hM B) ((ys.take j).map cG.name),bZ E (ia (⟨nm,B,cI,a⟩:cD)),bF x21 ys,bZ OX (ia (⟨(hZ #[]),cI,cI,0⟩:cD)),bZ p (et lv q)] w',⟨_,0,cI,rfl,rfl,kO _,u⟩,?_⟩;rintro mm _ _ ⟨j,B,rfl,rfl,hj,u⟩ _;refine aH ie u.p2.dQ (aO (aC (λjq=>?_) λjq=>?_))
   .refine aA fP (have u:=u.drew;aB (v:=hM (B:SV)) iW u.p1.hb rfl ?_);obtain⟨V,M⟩:=gx ys (i:=(j:Int).toNat) bL;refine dJ u.p2 ie bL bL (λ_ AJ=>l8 kx AJ λ_ qM=>nt V.name u.p2 gn qM M rfl (aW ([V.name]) u ix rfl rfl (dM rfl) λapG _ u=>?_));refine⟨aI iW (u.p2.hb.cell rfl),?_⟩;have akR:=u.dQ;refine bJ u.p1 ix akR (by simp;omega) cZ (λapH _ u=>have u:=u.p1.drop;aA fP ?_);obtain⟨W,rfl⟩:=u.fQ;exact aV u.p1 iW (dM rfl) (rfl) (λ_ u=>have u:=u.enc (cs':=ia (⟨nm,W,cI,a⟩:cD)) rfl;aJ bL (have u:=u.p4.p4.p4.p3.p4;⟨_,bL,j+1,W,rfl,rfl,bL,by rw[<- Gr (k:=j) M];exact u⟩))
   have u:=u.p2.drop.p3.p3.p3.p3;rw[List.take_of_length_le bL]at u;rw[hrs];exact⟨B,u⟩
  have u:=((((u.eW (α:=ByteArray)).p1).p2).p3).p3;obtain⟨e1,e3⟩:=Nt Dx eT;rw[xm eT]at u;rw[e1,e3];exact⟨cI,u⟩
 rintro _ ⟨B,u⟩ _;refine⟨λw'=>∃(B O:SV) (body:List bK),x=⟨nm,rs,body,a⟩/\St w F [bF (hM B) rs,eH (λw=>DL w (hM O) body),bZ E (ia (⟨nm,B,O,a⟩:cD)),bZ OX (ia (⟨(hZ #[]),cI,cI,0⟩:cD)),bZ p (et lv s2)] w',aD (aA lZ (aB jx u.p3.hb rfl (aG (aC (λqj=>?_) λqj=>?_)))),?_⟩
 .obtain⟨R,hR,hR0,hR1,e2,hx⟩:=I8 bL;have Hn:(dR l s CI).e=0:=u3.1 λhh=>QI hh Dx bL;have jZ:=sC (aeH Hn);refine aD (aA jT (have u:=u.drew;aB jb u.p3.hb rfl (aD (aA ft (aB bO u.p3.hb rfl (dO ang (C212 l _ q.at_ s.at_ R _ (hT _ u.aF) G U jZ hR) ?_))))));rintro _ _ ⟨aae,rfl,cM⟩;have u:=u.made cM;refine aN rfl (aN rfl (aN rfl (aN rfl (aA lh (aV u.p2 jA (dM rfl) (rfl) λ_ u=>have u:=u.enc (cs':=ia (⟨nm,B,aae,a⟩:cD)) rfl;aD (aA ft (aV u.p4 bO (dM rfl) (rfl) λ_ u=>aD (aA lZ (aV u jx (dM rfl) (rfl) λ_ u=>aD ?_)))))))))
  refine aA wo (aV u bO (dM rfl) (rfl) λ_ u=>?_);have u:=u.p4.p2.p3.p4;rw[e2];exact⟨B,aae,R.1,hx,u⟩
 .have u:=u.gz (Φ:=λw=>DL w (hM (cI:SV)) ([]:List bK)) λw=>DL.nil w;have u:=u.p4.p4.p4.p3.p4;obtain⟨e2,hx⟩:=Bo qj;rw[e2];exact⟨B,cI,[],hx,u⟩
 rintro _ ⟨B,O,body,rfl,u⟩ _;exact aE mP u.p2.At (aK (x:=(⟨nm,B,O,a⟩:cD)) u.p3 mP rfl rfl λ_ u=>aE mP u.At (have u:=u.p1.freeze.p2.p1.fZ.dD (Ψ:=(λw=>mL w (⟨nm,B,O,a⟩:cD) (⟨nm,rs,body,a⟩:cL))) (λ_ h=>⟨_,_,rfl,DL.j3 h.1,id h.2⟩);have u:=u.p1.drop.p1.drop.p1;(xk u).mut))
def C135(p:Nat)(lv:Value)(l:List bQ)(s:fM)(a:Int)(O:fM)(x:gO)(F:Nat->Prop)(w:World)(hF:(bZ p (et lv s)).p w F)(J:∀w',gC F w w'->dz (λ_=>True) w' lv l)(E:iY l)(h0:ld l s)(hr:xl l s a=some (O,x)):CR 135 [(.pointer (some ⟨p,0,none⟩)),hH a] w (λv w'=>mH F (pZ λM:jl=>fact (v=hM M) (sep (bZ p (et lv O)) (eH λw=>mL w M x))) w w'):=by
 have u:=St.begin hF;obtain⟨R,I,Y,Z⟩:=Va hr;have Dr:=E.n;have hn:l.length<=1000000:=bL
 have r8:=E.at_;obtain⟨Td,Te⟩:=id h0;refine pJ Tryz.func135 (pl:=au5) ?_;refine aQ u OG (λOX _ u=>have u:=u.enc (cs':=ia (⟨cI,0⟩:jl)) rfl;aD (aA jT (have u:=u.drew;aB jb u.p1.hb rfl (aD (aA ft (aB bO u.p1.hb rfl (dO afZ (C213 l _ s.at_ R _ (J _ u.aF) E bL I) ?_)))))));rintro _ _ ⟨B,rfl,V⟩;have u:=u.made V;refine aN rfl (aN rfl (aN rfl (aN rfl (bT (aC (λG=>?_) λG=>?_)))))
 .obtain⟨rfl,rfl⟩:=Y G;exact aD (aA lZ (aV u.p2 jx (dM rfl) (rfl) λ_ u=>aD (aA wo (aV u bO (dM rfl) (rfl) λ_ u=>pop (v:=hM (⟨cI,0⟩:jl)) (by kernel_rfl) (aK (x:=(⟨cI,0⟩:jl)) u.p2 ID rfl rfl λ_ u=>aE ID u.At (have u:=u.gz (Φ:=(λw=>mL w (⟨cI,0⟩:jl) (⟨[],0⟩:gO))) (λ_=>⟨_,rfl,DL.nil _⟩);have u:=u.p1.drop.p2.drop.p1;(xk u).mut))))))
 obtain⟨W,rfl,rfl⟩:=Z G;refine aD (aA ft (aV u.p2 bO (dM rfl) (rfl) λ_ u=>have u:=u.enc (cs':=et lv ({s with at_:=R.2.1}:fM)) rfl;bD Wl u (H':=λ_=>bZ p (et lv (dR l ({s with at_:=R.2.1}:fM) (hZ #[59])))) (Φ:=λ_ _=>True) (λU dZ dV=>?_) ?_))
 .exact(C210 p lv l ({s with at_:=R.2.1}:fM) (hZ #[59]) U _ dZ (λw' hc=>J w' (dV w' hc).aF) E (show ld l ({s with at_:=R.2.1}:fM)from W)).mono λ_ _ r=>r.mono λ_ _ h=>⟨trivial,h.2⟩
 rintro _ _ _ u;exact pop (GR _ _ _ _) (aK (x:=(⟨B,a⟩:jl)) u.p2 ID rfl rfl λ_ u=>aE ID u.At (have u:=u.p2.dD (Ψ:=(λw=>mL w (⟨B,a⟩:jl) (⟨R.1,a⟩:gO))) (λ_ h=>⟨_,rfl,id h⟩);have u:=u.p1.drop.p1;(xk u).mut))
def C65(s:ByteArray)(R:cE×Int×Int)(w:World)(Ua:s.size<=1000000)(hr:vl s=some R)(hTk:∀l e a,vG s=some (l,e,a)->iY l):CR 65 [.string s] w (λv w'=>∃pv:bM,v=.tuple #[hM pv,hH R.2.1,hH R.2.2]/\kZ (eH λw=>mL w pv R.1) w w'):=by
 obtain⟨l,e,a,hsc⟩:=QJ hr;have W:=hTk l e a hsc;have Dr:=W.n;have hn:l.length<=1000000:=bL
 have r8:=W.at_;have u:=St.start w;refine pJ Tryz.func65 (pl:=P65) ?_;refine aQ u uU (λvN _ u=>have u:=u.enc (cs':=ia (⟨cI,cI,cI,cI,cI,cI⟩:bM)) rfl;dO am3 (C130 s (l,e,a) _ Ua hsc) ?_);rintro _ _ ⟨lv,rfl,cM⟩;have u:=u.made cM;refine aN rfl (aN rfl (aN rfl (bT (aC (λlz=>?_) λlz=>?_))))
 .refine pop (v:=hM (⟨cI,cI,cI,cI,cI,cI⟩:bM)) (by kernel_rfl) (aK (x:=(⟨cI,cI,cI,cI,cI,cI⟩:bM)) u.p1 eN rfl rfl λ_ u=>aE eN u.At ?_);have u:=u.gz (Φ:=(λw=>mL w (⟨cI,cI,cI,cI,cI,cI⟩:bM) (⟨[],[],[],[],[],[]⟩:cE))) (λ_=>⟨_,_,_,_,_,_,rfl,DL.nil _,DL.nil _,DL.nil _,DL.nil _,DL.nil _,DL.nil _⟩);have u:=u.p1.drop.p1.drop;rw[Vc hr hsc lz];exact⟨_,rfl,u.fresh⟩
 obtain⟨t1,t2,t3,t4,t5,t6,y1,y2,y3,y4,y5,y6,Z⟩:=aaa hr hsc lz;obtain⟨lsv,hlv⟩:=u.fQ;rw[hlv];refine pop (WW _ _ _) (nf u λRZ _ u=>pop (v:=hM (⟨cI,cI,cI,cI,cI,cI⟩:bM)) (by kernel_rfl) (aQ u uU λQK _ u=>have u:=u.enc (cs':=ia (⟨cI,cI,cI,cI,cI,cI⟩:bM)) rfl;aK (x:=(⟨cI,cI,cI,cI,cI,cI⟩:bM)) u eN rfl rfl λ_ u=>?_));obtain⟨p,rfl⟩:∃p,p=RZ:=⟨_,rfl⟩;have u:=u.p1.enc (cs':=et (hM lsv) (tW 0)) rfl;rw[<- hlv]at u |-;have ayQ:ld l (tW 0):=⟨LB _,by show(0:Int)<=_;omega⟩;have u:=(((((u.IQ (α:=(List cG))).p4).p4).p3).p4).p4
 refine⟨λmm w'=>∃(s0:fM) (J:SV) (xs0 a0:List (List cG)),ld l s0/\mU l Z5 (m7 l true) mm s0=some (t1,a0)/\y1=xs0++a0/\St w aY [fG (hM J) xs0,bZ QK (ia (⟨J,cI,cI,cI,cI,cI⟩:bM)),bZ p (et lv s0),bF lv l,bZ vN (ia (⟨cI,cI,cI,cI,cI,cI⟩:bM))] w',⟨10000,tW 0,cI,[],y1,ayQ,Z.h1,rfl,u⟩,?_⟩;rintro mm _ ⟨s0,J,xs0,a0,hi0,Hn,hy0,u⟩ _;obtain⟨m0,rfl⟩:=sE Hn;refine bD yo u.p2 (H':=λ_=>bZ p (et lv (iw l s0 (hZ #[108,105,110,101])).1)) (Φ:=λv _=>v=.bool (iw l s0 (hZ #[108,105,110,101])).2) (λB G E=>?_) ?_
 .exact C131 p lv l s0 (hZ #[108,105,110,101]) B _ G (λw' hc=>(E w' hc).p2.dQ) W hi0
 rintro _ _ rfl u;refine aX (λlx=>?_) (λlx=>?_)
 .obtain⟨q0,z0,b0,AU,XC,rfl⟩:=xn Hn lx;refine aA gq (have u:=u.drew;aB (v:=hM (J:SV)) oz u.p2.hb rfl (bD Rp u (H':=λv=>sep (bZ p (et lv q0)) (bF v z0)) (Φ:=λ_ _=>True) (λB G E=>?_) ?_))
  .exact(C132 p lv l (iw l s0 (hZ #[108,105,110,101])).1 true q0 z0 B _ G (λw' hc=>(E w' hc).p2.dQ) W (kf hi0) AU).mono λ_ _ r=>r.mono λ_ _ h=>⟨trivial,h⟩
  rintro x31 _ _ u;have u:=u.split;refine⟨aI oz (u.p3.hb.cell rfl),?_⟩;obtain⟨JN,rfl⟩:=u.p1.fQ;have u:=u.p1.freeze.dD (Ψ:=λw=>mL w JN z0) (λ_ h=>DL.j3 h);refine gF (s:=JN) (x:=z0) u pj cZ (λaq5 _ u=>?_);refine⟨aI oz (u.p3.hb.cell rfl),?_⟩;have u:=u.p2;refine gd u pj (by have h1:=ez List.length hy0;have h2:=Z.b1;simp at h1 |-;omega) cZ (λs_x33 _ u=>aA gq ?_);obtain⟨aag,rfl⟩:=u.oJ;exact aV u.p2 oz (dM rfl) (rfl) (λ_ u=>have u:=((((u.enc (cs':=ia (⟨aag,cI,cI,cI,cI,cI⟩:bM)) rfl).p4).p4).p4).p3;have u:=u.p4;⟨_,bL,q0,aag,xs0++[z0],b0,yb (kf hi0) AU,XC,by rw[hy0,mX];rfl,u⟩)
 obtain⟨U,rfl⟩:=uJ Hn lx;replace U:=U.symm;subst U;rw[oj]at hy0;subst hy0;rw[xm lx]at u;have u:=((((((u.eW (α:=cG)).p5).p5).p3).p5).p5).p5;refine⟨λmm w'=>∃(s1:fM) (M:SV) (xs1 a1:List (List cG)),ld l s1/\mU l akL (m7 l true) mm s1=some (t2,a1)/\y2=xs1++a1/\St w aY [bF (hM M) xs1.flatten,fG (hM J) y1,bZ QK (ia (⟨J,M,cI,cI,cI,cI⟩:bM)),bZ p (et lv s1),bF lv l,bZ vN (ia (⟨cI,cI,cI,cI,cI,cI⟩:bM))] w',⟨10000,s0,cI,[],y2,hi0,Z.h2,rfl,u⟩,?_⟩;rintro mm _ ⟨s1,M,xs1,a1,hi1,hm1,hy1,u⟩ _;obtain⟨m1,rfl⟩:=sE hm1
 refine bD yo u.p3 (H':=λ_=>bZ p (et lv (iw l s1 (hZ #[118,111,108])).1)) (Φ:=λv _=>v=.bool (iw l s1 (hZ #[118,111,108])).2) (λB G E=>?_) ?_
 .exact C131 p lv l s1 (hZ #[118,111,108]) B _ G (λw' hc=>(E w' hc).p3.dQ) W hi1
 rintro _ _ rfl u;refine aX (λCw=>?_) (λCw=>?_)
 .obtain⟨q1,z1,b1,hd1,Xp,rfl⟩:=xn hm1 Cw;refine aA pK (have u:=u.drew;aB (v:=hM (M:SV)) jw u.p3.hb rfl (bD Rp u (H':=λv=>sep (bZ p (et lv q1)) (bF v z1)) (Φ:=λ_ _=>True) (λB G E=>?_) ?_))
  .exact(C132 p lv l (iw l s1 (hZ #[118,111,108])).1 true q1 z1 B _ G (λw' hc=>(E w' hc).p3.dQ) W (kf hi1) hd1).mono λ_ _ r=>r.mono λ_ _ h=>⟨trivial,h⟩
  rintro x40 _ _ u;have u:=u.split;refine⟨aI jw (u.p4.hb.cell rfl),?_⟩;have akS:=u.p1.dQ;refine bJ u.p2 ie akS (by have:=Ts hy1;have:=Z.b2;omega) cZ (λarZ _ u=>have u:=u.p2.drop;aA pK ?_);obtain⟨Jc,rfl⟩:=u.fQ;refine aV u.p3 jw (dM rfl) (rfl) (λ_ u=>?_);have u:=((((u.enc (cs':=ia (⟨J,Jc,cI,cI,cI,cI⟩:bM)) rfl).p5).p5).p4).p3;have u:=u.p5.p5;rw[<- A7]at u;exact⟨_,bL,q1,Jc,xs1++[z1],b1,yb (kf hi1) hd1,Xp,by rw[hy1,mX];rfl,u⟩
 obtain⟨U,rfl⟩:=uJ hm1 Cw;replace U:=U.symm;subst U;rw[oj]at hy1;subst hy1;rw[xm Cw]at u;have u:=(((((((u.eW (α:=cG)).p6).p6).p3).p6).p5).p6).p6;refine⟨λmm w'=>∃(s2:fM) (V:SV) (xs2 a2:List (List cG)),ld l s2/\mU l Z6 (m7 l false) mm s2=some (t3,a2)/\y3=xs2++a2/\St w aY [bF (hM V) xs2.flatten,fG (hM J) y1,bF (hM M) y2.flatten,bZ QK (ia (⟨J,M,V,cI,cI,cI⟩:bM)),bZ p (et lv s2),bF lv l,bZ vN (ia (⟨cI,cI,cI,cI,cI,cI⟩:bM))] w',⟨10000,s1,cI,[],y3,hi1,Z.h3,rfl,u⟩,?_⟩;rintro mm _ ⟨s2,V,xs2,a2,VN,hm2,hy2,u⟩ _
 obtain⟨m2,rfl⟩:=sE hm2;refine bD yo u.p4 (H':=λ_=>bZ p (et lv (iw l s2 (hZ #[108,111,99,107])).1)) (Φ:=λv _=>v=.bool (iw l s2 (hZ #[108,111,99,107])).2) (λB G E=>?_) ?_
 .exact C131 p lv l s2 (hZ #[108,111,99,107]) B _ G (λw' hc=>(E w' hc).p4.dQ) W VN
 rintro _ _ rfl u;refine aX (λAF=>?_) (λAF=>?_)
 .obtain⟨q2,z2,b2,hd2,hn2,rfl⟩:=xn hm2 AF;refine aA nD (have u:=u.drew;aB (v:=hM (V:SV)) jw u.p4.hb rfl (bD Rp u (H':=λv=>sep (bZ p (et lv q2)) (bF v z2)) (Φ:=λ_ _=>True) (λB G E=>?_) ?_))
  .exact(C132 p lv l (iw l s2 (hZ #[108,111,99,107])).1 false q2 z2 B _ G (λw' hc=>(E w' hc).p4.dQ) W (kf VN) hd2).mono λ_ _ r=>r.mono λ_ _ h=>⟨trivial,h⟩
  rintro x48 _ _ u;have u:=u.split;refine⟨aI jw (u.p5.hb.cell rfl),?_⟩;have QL:=u.p1.dQ;refine bJ u.p2 ie QL (by have:=Ts hy2;have:=Z.b3;omega) cZ (λs_x49 _ u=>have u:=u.p2.drop;aA nD ?_);obtain⟨aah,rfl⟩:=u.fQ;refine aV u.p4 jw (dM rfl) (rfl) (λ_ u=>?_);have u:=((((u.enc (cs':=ia (⟨J,M,aah,cI,cI,cI⟩:bM)) rfl).p6).p6).p4).p3;have u:=u.p6.p6.p6;rw[<- A7]at u;exact⟨_,bL,q2,aah,xs2++[z2],b2,yb (kf VN) hd2,hn2,by rw[hy2,mX];rfl,u⟩
 obtain⟨U,rfl⟩:=uJ hm2 AF;replace U:=U.symm;subst U;rw[oj]at hy2;subst hy2;rw[xm AF]at u;have u:=((((((((u.IQ (α:=cL)).p7).p7).p3).p7).p5).p7).p7).p7;refine⟨λmm w'=>∃(I:fM) (v3:SV) (xs3 a3:List cL),ld l I/\mU l JL (akM l) mm I=some (t4,a3)/\y4=xs3++a3/\St w aY [fG (hM v3) xs3,fG (hM J) y1,bF (hM M) y2.flatten,bF (hM V) y3.flatten,bZ QK (ia (⟨J,M,V,v3,cI,cI⟩:bM)),bZ p (et lv I),bF lv l,bZ vN (ia (⟨cI,cI,cI,cI,cI,cI⟩:bM))] w',⟨10000,s2,cI,[],y4,VN,Z.h4,rfl,u⟩,?_⟩;rintro mm _ ⟨I,v3,xs3,a3,Y,hm3,hy3,u⟩ _
 obtain⟨m3,rfl⟩:=sE hm3;refine bD yo u.p5 (H':=λ_=>bZ p (et lv (iw l I (hZ #[116,104,114,101,97,100])).1)) (Φ:=λv _=>v=.bool (iw l I (hZ #[116,104,114,101,97,100])).2) (λB G E=>?_) ?_
 .exact C131 p lv l I (hZ #[116,104,114,101,97,100]) B _ G (λw' hc=>(E w' hc).p5.dQ) W Y
 rintro _ _ rfl u;refine aX (λvC=>?_) (λvC=>?_)
 .obtain⟨q3,z3,b3,hd3,hn3,rfl⟩:=xn hm3 vC;refine bD afP u (H':=λ_=>bZ p (et lv (eZ l (iw l I (hZ #[116,104,114,101,97,100])).1).1)) (Φ:=λv _=>v=hM (eZ l (iw l I (hZ #[116,104,114,101,97,100])).1).2) (λB G E=>?_) ?_
  .exact C133 p lv l (iw l I (hZ #[116,104,114,101,97,100])).1 B _ G (λw' hc=>(E w' hc).p5.dQ) W (kf Y)
  rintro _ _ rfl u;refine aQ u oD (λb_c10 _ u=>aK (x:=(eZ l (iw l I (hZ #[116,104,114,101,97,100])).1).2) u lK rfl rfl λ_ u=>aA kj (have u:=u.drew;aB (v:=hM (v3:SV)) im u.p6.hb rfl (aA kx (aB (v:=.string (((eZ l (iw l I (hZ #[116,104,114,101,97,100])).1).2).name)) gn u.hb rfl (aA ui (aB (v:=hH (((eZ l (iw l I (hZ #[116,104,114,101,97,100])).1).2).at_)) bO u.hb rfl (pop (OI _ _) (bD afQ u.p1 (H':=λv=>pZ λsh:cD=>fact (v=hM sh) (sep (bZ p (et lv q3)) (eH λw=>mL w sh z3))) (Φ:=λ_ _=>True) (λB G E=>?_) ?_))))))))
  .exact(C134 p lv l (eZ l (iw l I (hZ #[116,104,114,101,97,100])).1).1 ((eZ l (iw l I (hZ #[116,104,114,101,97,100])).1).2).name ((eZ l (iw l I (hZ #[116,104,114,101,97,100])).1).2).at_ q3 z3 B _ G (λw' hc=>(E w' hc).p6.dQ) W (uI (kf Y)) hd3).mono λ_ _ r=>r.mono λ_ _ h=>⟨trivial,h⟩
  rintro v_x63 _ _ wU;obtain⟨akV,yI⟩:=wU.ep
  clear wU
  obtain⟨akW,DD⟩:=yI.l6
  clear yI
  subst akW;have u:=DD.split
  clear DD
  refine⟨aI im (u.p7.hb.cell rfl),?_⟩;have u:=u.p1;refine gF (s:=akV) (x:=z3) u fr cZ (λar0 _ u=>?_);refine⟨aI im (u.p7.hb.cell rfl),?_⟩;have u:=u.p3;refine gd u fr (by have h1:=ez List.length hy3;have h2:=Z.b4;simp at h1 |-;omega) cZ (λar1 _ u=>aA kj ?_);obtain⟨aai,rfl⟩:=u.oJ;exact aV u.p6 im (dM rfl) (rfl) (λ_ u=>have u:=((((u.enc (cs':=ia (⟨J,M,V,aai,cI,cI⟩:bM)) rfl).p3).drop).p7).p7;have u:=u.p4.p3.p7.p7.p7.p7;⟨_,bL,q3,aai,xs3++[z3],b3,Fz (uI (kf Y)) hd3,hn3,by rw[hy3,mX];rfl,u⟩)
 obtain⟨U,rfl⟩:=uJ hm3 vC;replace U:=U.symm;subst U;rw[oj]at hy3;subst hy3;rw[xm vC]at u;refine⟨λw'=>∃v4:SV,St w aY [fG (hM v4) y5,fG (hM J) y1,bF (hM M) y2.flatten,bF (hM V) y3.flatten,fG (hM v3) y4,bZ QK (ia (⟨J,M,V,v3,v4,cI⟩:bM)),bZ p (et lv t5),bF lv l,bZ vN (ia (⟨cI,cI,cI,cI,cI,cI⟩:bM))] w',?_,?_⟩
 .refine bD yo u (H':=λ_=>bZ p (et lv (iw l I (hZ #[114,101,99,111,118,101,114])).1)) (Φ:=λv _=>v=.bool (iw l I (hZ #[114,101,99,111,118,101,114])).2) (λB G E=>?_) ?_
  .exact C131 p lv l I (hZ #[114,101,99,111,118,101,114]) B _ G (λw' hc=>(E w' hc).p5.dQ) W Y
  rintro _ _ rfl u;refine aX (λNx=>?_) (λNx=>?_)
  .obtain⟨z4,hd4,hy5⟩:=Nw Z.h5 Nx;obtain⟨ayS,_,hlo68,hhi68⟩:=Z7 Nx;have hat68:(iw l I (hZ #[114,101,99,111,118,101,114])).1.at_=I.at_+1:=by rw[ayS]
   refine aA oA (have u:=u.drew;aB (v:=hM (cI:SV)) im u.p5.hb rfl (aD (aA ft (aB bO u.hb rfl (fk bL ?_)))));obtain⟨aaj,aak⟩:=gx l (i:=(((iw l I (hZ #[114,101,99,111,118,101,114])).1).at_-1).toNat) bL;refine dJ u.p6 fH bL bL (λ_ Nk=>l8 lr Nk λ_ ar2=>nt aaj.at_ u.p6 bO ar2 aak rfl (pop (WT _) ?_));have hbk:zD l (iw l I (hZ #[114,101,99,111,118,101,114])).1=aaj.at_:=ez bQ.at_ (A6 bL aak);rw[hbk]at hd4;refine bD afQ u (H':=λv=>pZ λsh:cD=>fact (v=hM sh) (sep (bZ p (et lv t5)) (eH λw=>mL w sh z4))) (Φ:=λ_ _=>True) (λB G E=>?_) ?_
   .exact(C134 p lv l (iw l I (hZ #[114,101,99,111,118,101,114])).1 (hZ #[]) aaj.at_ t5 z4 B _ G (λw' hc=>(E w' hc).p5.dQ) W (kf Y) hd4).mono λ_ _ r=>r.mono λ_ _ h=>⟨trivial,h⟩
   rintro v_x82 _ _ wU;obtain⟨akX,yI⟩:=wU.ep
   clear wU
   obtain⟨akY,DD⟩:=yI.l6
   clear yI
   subst akY;have u:=DD.split
   clear DD
   refine⟨aI im (u.p6.hb.cell rfl),?_⟩;have u:=u.p1;refine gF (s:=akX) (x:=z4) u fr cZ (λag0 _ u=>?_);refine⟨aI im (u.p6.hb.cell rfl),?_⟩;have u:=((u.IQ (α:=cL)).p1).p1;refine gd u fr ea cZ (λaqj _ u=>aA oA ?_);obtain⟨aal,rfl⟩:=u.oJ;refine aV u.p6 im (dM rfl) (rfl) (λ_ u=>?_);have u:=(((((u.enc (cs':=ia (⟨J,M,V,v3,aal,cI⟩:bM)) rfl).p8).p8).p4).p3).p5;have u:=u.p8.p8.p8.p8;rw[hy5];exact⟨aal,u⟩
  rw[xm Nx]at u;have u:=(((((((((u.IQ (α:=cL)).p8).p8).p3).p8).p5).p8).p8).p8).p8;obtain⟨e5,e6⟩:=Tr Z.h5 Nx;rw[e5,e6];exact⟨cI,u⟩
 rintro _ ⟨v4,u⟩ _;have u:=((((((((((u.IQ (α:=gO)).p9).p9).p9).p9).p5).p9).p9).p9).p9).p9;refine⟨λmm w'=>∃(O:fM) (v5:SV) (xs5 a5:List gO),ld l O/\mU l JM (λs=>xl l s (zD l s)) mm O=some (t6,a5)/\y6=xs5++a5/\St w aY [fG (hM v5) xs5,fG (hM J) y1,bF (hM M) y2.flatten,bF (hM V) y3.flatten,fG (hM v3) y4,fG (hM v4) y5,bZ QK (ia (⟨J,M,V,v3,v4,v5⟩:bM)),bZ p (et lv O),bF lv l,bZ vN (ia (⟨cI,cI,cI,cI,cI,cI⟩:bM))] w',⟨10000,t5,cI,[],y6,(aeI Y Z.h5),Z.h6,rfl,u⟩,?_⟩;rintro mm _ ⟨O,v5,xs5,a5,hi5,hm5,hy5,u⟩ _
 obtain⟨m5,rfl⟩:=sE hm5;refine bD yo u.p7 (H':=λ_=>bZ p (et lv (iw l O (hZ #[97,108,119,97,121,115])).1)) (Φ:=λv _=>v=.bool (iw l O (hZ #[97,108,119,97,121,115])).2) (λB G E=>?_) ?_
 .exact C131 p lv l O (hZ #[97,108,119,97,121,115]) B _ G (λw' hc=>(E w' hc).p7.dQ) W hi5
 rintro _ _ rfl u;refine aX (λNy=>?_) (λNy=>?_)
 .obtain⟨q5,z5,b5,hd5,Dr,rfl⟩:=xn hm5 Ny;obtain⟨ayV,_,hlo87,hhi87⟩:=Z7 Ny;have hat87:(iw l O (hZ #[97,108,119,97,121,115])).1.at_=O.at_+1:=by rw[ayV]
  refine aA jR (have u:=u.drew;aB (v:=hM (v5:SV)) sL u.p7.hb rfl (aD (aA ft (aB bO u.hb rfl (fk bL ?_)))));obtain⟨aam,aan⟩:=gx l (i:=(((iw l O (hZ #[97,108,119,97,121,115])).1).at_-1).toNat) bL;refine dJ u.p8 fH bL bL (λ_ ar4=>l8 lr ar4 λ_ ar5=>nt aam.at_ u.p8 bO ar5 aan rfl ?_);have hbk:zD l (iw l O (hZ #[97,108,119,97,121,115])).1=aam.at_:=ez bQ.at_ (A6 bL aan);rw[hbk]at hd5;refine bD am4 u (H':=λv=>pZ λsh:jl=>fact (v=hM sh) (sep (bZ p (et lv q5)) (eH λw=>mL w sh z5))) (Φ:=λ_ _=>True) (λB G E=>?_) ?_
  .exact(C135 p lv l (iw l O (hZ #[97,108,119,97,121,115])).1 aam.at_ q5 z5 B _ G (λw' hc=>(E w' hc).p7.dQ) W (kf hi5) hd5).mono λ_ _ r=>r.mono λ_ _ h=>⟨trivial,h⟩
  rintro ayW _ _ wU;obtain⟨aeJ,yI⟩:=wU.ep
  clear wU
  obtain⟨aeK,DD⟩:=yI.l6
  clear yI
  subst aeK;have u:=DD.split
  clear DD
  refine⟨aI sL (u.p8.hb.cell rfl),?_⟩;have u:=u.p1;refine gF (s:=aeJ) (x:=z5) u uf cZ (λaj5 _ u=>?_);refine⟨aI sL (u.p8.hb.cell rfl),?_⟩;have u:=u.p2;refine gd u uf (by have h1:=ez List.length hy5;have h2:=Z.b6;simp at h1 |-;omega) cZ (λaj6 _ u=>aA jR ?_);obtain⟨Tt,rfl⟩:=u.oJ;exact aV u.p7 sL (dM rfl) (rfl) (λ_ u=>have u:=(((((u.enc (cs':=ia (⟨J,M,V,v3,v4,Tt⟩:bM)) rfl).p9).p9).p4).p3).p9;have u:=u.p9.p9.p9.p9.p9;⟨_,bL,q5,Tt,xs5++[z5],b5,U7 (kf hi5) hd5,Dr,by rw[hy5,mX];rfl,u⟩)
 obtain⟨U,rfl⟩:=uJ hm5 Ny;replace U:=U.symm;subst U;rw[oj]at hy5;subst hy5;rw[xm Ny]at u;obtain⟨hi50,hi51⟩:=id hi5;refine⟨λw'=>St w aY [fG (hM v5) y6,fG (hM J) y1,bF (hM M) y2.flatten,bF (hM V) y3.flatten,fG (hM v3) y4,fG (hM v4) y5,bZ QK (ia (⟨J,M,V,v3,v4,v5⟩:bM)),bZ p (et lv (Gq l O)),bF lv l,bZ vN (ia (⟨cI,cI,cI,cI,cI,cI⟩:bM))] w',aD (aA ft (aB bO u.hb rfl (aH fH u.p8.dQ (aO (aC (λQM=>?_) λQM=>?_))))),?_⟩
 .refine bD Rq u (H':=λ_=>bZ p (et lv (jm l O 5))) (Φ:=λ_ _=>True) (λB G E=>?_) ?_
  .exact(C136 p lv l O B _ G (λw' hc=>(E w' hc).p7.dQ) W hi5).mono λ_ _ r=>r.mono λ_ _ h=>⟨trivial,h.2⟩
  rintro _ _ _ u;have u:=u.p9.p9.p2.p9.p9.p9.p9.p9.p9.p9;have he6:Gq l O=jm l O 5:=ee QM;rw[he6];exact u
 .have u:=u.p9.p9.p2.p9.p9.p9.p9.p9.p9.p9;have he6:Gq l O=O:=eb QM;rw[he6];exact u
 intro _ u _;refine aD (aA lZ (aB jx u.p7.hb rfl (bT (aC (λQN=>?_) λQN=>?_))))
 .refine pop (v:=hM (⟨cI,cI,cI,cI,cI,cI⟩:bM)) (by kernel_rfl) (aD (aA lZ (have u:=u.drew;aB jx u.p7.hb rfl (aD (aA wo (aB bO u.p7.hb rfl (aK (x:=(⟨cI,cI,cI,cI,cI,cI⟩:bM)) u.p9 eN rfl rfl λ_ u=>?_)))))));refine⟨aI jx (u.p8.hb.cell rfl),?_⟩;refine⟨aI bO (u.p8.hb.cell rfl),?_⟩;refine aE eN u.At ?_;have u:=u.gz (Φ:=(λw=>mL w (⟨cI,cI,cI,cI,cI,cI⟩:bM) (⟨[],[],[],[],[],[]⟩:cE))) (λ_=>⟨_,_,_,_,_,_,rfl,DL.nil _,DL.nil _,DL.nil _,DL.nil _,DL.nil _,DL.nil _⟩);have u:=u.p1.drop.p1.drop.p1.drop.p1.drop.p1.drop.p1.drop.p1.drop.p1.drop.p1.drop
  have u:=u.p1.drop;rw[Z.bad QN];exact⟨_,rfl,u.fresh⟩
 refine aE eN u.p6.At (aK (x:=(⟨J,M,V,v3,v4,v5⟩:bM)) u.p9 eN rfl rfl λ_ u=>aE eN u.At ?_);have u:=u.p2.oI.p3.freeze.p1.fZ.p3.freeze.p1.fZ.p3.oI.p1.fZ.p3.oI.p1.fZ;have u:=u.p2.oI.p1.fZ.dD (Ψ:=(λw=>mL w (⟨J,M,V,v3,v4,v5⟩:bM) (⟨y1,y2.flatten,y3.flatten,y4,y5,y6⟩:cE))) (λ_ h=>⟨_,_,_,_,_,_,rfl,h.1.1.1.1.1,DL.j3 h.1.1.1.1.2,DL.j3 h.1.1.1.2,h.1.1.2,h.1.2,h.2⟩);have u:=u.p1.drop.p1.drop.p1.drop.p1.drop;rw[Z.ayL QN];exact⟨_,rfl,u.fresh⟩
theorem Nz{l:List Int}{k:Nat}(u:0<k)(h:k<=l.length):fR (l.take k)=l.getD (k-1) 0+1:=by
 grind[fR]
def DE{f:Int->List j4}{a k:Int}{xs:List j4}{x:j4}(h:x∈px f a xs k):x∈xs\/x∈f k:=by
 unfold px at h;grind
def HL{m:Mem}{c n:Int}(h:uR m):uR (fe m c n):=by
 unfold fe
 split
 .rename_i sT
  unfold Gk at sT;rw[decide_eq_true_eq]at sT
  refine⟨h.J6,h.fl,by show(m.l.set _ _).length=_;rw[FX];exact h.ll,h.kl,h.ofr,h.lb,λk x u=>?_⟩
  dsimp only at u
  split at u
  .rename_i hc
   rcases DE u with h1|h1
   .rw[oi]at h1
    rcases h1 with h1|h1
    .exact h.pc _ x h1
    grind
   exact h.pc _ x h1
  exact h.pc _ x u
 exact h
def aeL{m:Mem}{c:Int}(h:uR m):uR (nQ m c):=by
 unfold nQ
 split
 .refine⟨h.J6,h.fl,h.ll,by show(nA _ _).length=_;rw[wX];exact h.kl,h.ofr,h.lb,λk x u=>?_⟩
  rcases DE u with h1|h1
  .cases h1
  exact h.pc _ x h1
 exact h
def Vd{m:Mem}{cut u:List Int}(h:fh m cut=some u):u.length=m.kept.length:=by
 unfold fh at h;split at h
 .cases h;exact mq _ _ _
 cases h
def Ve{m:Mem}{cut u:List Int}(h:uR m)(hi:fh m cut=some u):uR (mr m u):=by
 have h1:=Vd hi
 have h2:=h.kl;have h3:=h.J6
 refine⟨h.J6,h.fl,?_,?_,h.ofr,h.lb,λk x B=>by cases B⟩
 .show(u++m.dY.drop u.length).length=m.dY.length
  rw[kH,List.length_drop];omega
 show u.length=m.of.length;omega
section
def HM{u:Mem}{x:bG}(h:uR u):uR (jG u x)/\(jG u x).of=u.of/\(jG u x).dY=u.dY:=by
 unfold jG
 split
 .exact⟨HL h,Hp _ _ _,tP _ _ _⟩
 split
 .grind
 exact⟨aeL h,aeh _ _,MM _ _⟩
end
def MB.mono{B:Mem}{a b:Nat}(h:MB B a)(u:a<=b):MB B b:=λk=>Nat.le_trans (h k) u
def MB.write{u:Mem}{c x:Int}{n:Nat}(h:MB u n):MB (fe u c x) (n+1):=by
 intro k
 unfold fe
 split
 .dsimp only
  split
  .unfold px
   split
   .rw[kH,lH];have:=h (u.of.getD c.toNat 0);omega
   have:=h k;omega
  have:=h k;omega
 have:=h k;omega
theorem MB.out{u:Mem}{c:Int}{n:Nat}(h:MB u n):MB (nQ u c) n:=by
 intro k
 unfold nQ
 split
 .dsimp only
  unfold px
  split
  .simp
  exact h k
 exact h k
theorem MB.jG{u:Mem}{x:bG}{n:Nat}(h:MB u n):MB (jG u x) (n+1):=by
 unfold Go.Proofs.YtpdlpabnlkofmaaGreatDoor.jG
 split
 .exact h.write
 split
 .exact h.mono (K9 n)
 exact h.out.mono (K9 n)
theorem akZ{α:Type}{g:α->Bool}{l:List α}(h:0<=rS g l):rS g l<l.length:=by
 unfold rS at h |-
 cases hf:l.findIdx? g with
 | none=>grind
 | some k=>
  have:=(List.findIdx?_eq_some_iff_getElem.1 hf).1
  grind
def aao{ns:List ByteArray}{s:ByteArray}(h:0<=cU ns s):cU ns s<ns.length:=akZ h
theorem Ex.ar6(ns:List ByteArray)(t:Ex):t.wf->∀n h:Int,0<=n->∃O,(t.steps ns).foldl VJ (some (n,h))=some (n+1,O):=by
 induction t with
 | leaf x=>
  intro B n h G
  have u:kids x.op=0:=B
  have E:eA x.op=0:=by
   unfold kids at u
   unfold eA
   omega
  simp_all[VJ,steps]
 | un x a I=>
  intro B n h G
  have u:kids x.op=1:=B.1
  have E:eA x.op=1:=by
   unfold kids at u
   unfold eA
   omega
  obtain⟨h1,U⟩:=I B.2 n h G
  simp_all[VJ,steps]
 | bin x a b J M=>
  intro B n h G
  have u:kids x.op=2:=B.1
  have E:eA x.op=2:=by
   unfold kids at u
   unfold eA
   omega
  obtain⟨h1,U⟩:=J B.2.1 n h G
  obtain⟨h2,V⟩:=M B.2.2 (n+1) h1 bL
  refine⟨max h2 (n+1),?_⟩
  grind[VJ,steps]
def JO{k:Int}(h:kids k=0\/kids k=1\/kids k=2):1<=k/\k<=15:=by
 unfold kids at h
 omega
theorem Ex.Vf(ns:List ByteArray)(t:Ex):t.wf->∀o∈t.steps ns,∃x∈t.flat,o=⟨x.op,numOf ns x⟩/\1<=x.op/\x.op<=15:=by
 induction t with
 | leaf x=>intro B o u;exact⟨x,by simp[Ex.flat],by simpa[Ex.steps]using u,JO (.inl B)⟩
 | un x a E=>
  intro B o u
  have u:o∈a.steps ns++[⟨x.op,numOf ns x⟩]:=u
  rw[oi]at u
  rcases u with u|u
  .obtain⟨y,h1,h2⟩:=E B.2 o u;exact⟨y,by simp[Ex.flat,h1],h2⟩
  .exact⟨x,by simp[Ex.flat],cH,JO (.inr (.inl B.1))⟩
 | bin x a b G I=>
  intro B o u
  have u:o∈a.steps ns++b.steps ns++[⟨x.op,numOf ns x⟩]:=u
  rw[oi,oi]at u
  rcases u with(u|u)|u
  .obtain⟨y,h1,h2⟩:=G B.2.1 o u;exact⟨y,by simp[Ex.flat,h1],h2⟩
  .obtain⟨y,h1,h2⟩:=I B.2.2 o u;exact⟨y,by simp[Ex.flat,h1],h2⟩
  .exact⟨x,by simp[Ex.flat],cH,JO (.inr (.inr B.1))⟩
def NA{ns:List ByteArray}{l:List bY}{many:Int}(E:fw l=true)(G:oP l ns=false)(hm:many=ns.length):ma (qf ns l) many=true/\(qf ns l).length<=40:=by
 have FZ:=E
 unfold fw at E
 simp only[nS,qm,decide_eq_true_eq,x7]at E
 obtain⟨⟨⟨h1,h2⟩,h3⟩,h4⟩:=E
 obtain⟨t,O⟩:=Option.isSome_iff_exists.1 h2
 obtain⟨M,U⟩:=u6 O
 have hv0:=G
 unfold oP at G
 have he:kG ns l=0:=by grind[kG]
 have Z:qf ns l=t.steps ns:=by unfold qf;rw[ee he];unfold BI;rw[O]
 rw[Z]
 have hlen:(t.steps ns).length<=40:=by rw[Ex.pq,<- Ex.cY,<- U];exact h1
 obtain⟨Y,e'⟩:=t.ar6 ns M 0 0 (LB _)
 have V:ht (t.steps ns)=some (1,Y):=by unfold ht;grind
 refine⟨?_,hlen⟩
 unfold ma htN
 rw[V]
 simp only[Option.isSome_some,decide_true,Bool.and_true,nS,decide_eq_true_eq,qm,x7]
 refine⟨hlen,λo ho=>?_⟩
 obtain⟨x,I,rfl,Oq,u9⟩:=t.Vf ns M o ho
 rw[<- U]at I
 have u:=h3 x I
 unfold kP at u
 simp only[Bool.or_eq_true,decide_eq_true_eq,not_or,nS,qm,not_and,Bool.not_eq_false]at u
 obtain⟨⟨⟨⟨g1,g2⟩,g3⟩,g4⟩,g5⟩:=u
 have W:Ex.numOf ns x=if x.op=2 then cU ns x.name else x.n:=rfl
 unfold qJ
 simp only[decide_eq_true_eq]
 rintro(⟨B,J⟩|⟨B,J⟩|⟨B,J,q3⟩)
 .omega
 .have B:x.op=2:=B
  rw[W,ee B]at J
  rw[x7]at G
  have:=G x I
  simp only[nS,decide_eq_true_eq,not_and]at this
  have h5:=this B
  have h6:=aao (ns:=ns) (s:=x.name) bL
  omega
 omega
theorem vn:∀(ls:List (List cG)) (i a:Int),0<=a->(∀l∈ls,l≠[])->i<=jg ls i a/\(∀b,a<=b->jg ls i a<=jg ls i b)/\(jg ls i (a+1)=jg ls i a\/jg ls i (a+1)=jg ls i a+1)
 | [],i,a,B,_=>⟨by unfold jg;omega,λb hb=>by unfold jg;omega,by unfold jg;omega⟩
 | l::r,i,a,B,hl=>by
  have I:0<l.length:=List.length_pos_iff.2 (hl l (ob ..))
  have u:=λl E=>hl l (o4 _ E)
  unfold jg
  by_cases h1:a<l.length
  .rw[ee h1]
   refine⟨LB _,λb hb=>?_,?_⟩
   .split
    .omega
    .have:=(vn r (i+1) (b-l.length) bL u).1;omega
   .split
    .omega
    .have e:a+1-(l.length:Int)=0:=bL
     rw[e]
     cases r with
     | nil=>unfold jg;omega
     | cons G J=>
      simp_all[jg]
  .rw[eb h1]
   obtain⟨U,M,O⟩:=vn r (i+1) (a-l.length) bL u
   grind
section
variable {p:cE}
theorem uK(p:cE):0<=eJ p/\eJ p<=(iQ p).length:=by grind[eJ,iQ]
theorem NB{c:Int}(h:0<=c/\c<(iQ p).length):o7 p c=jg p.lines 0 c:=by unfold o7;omega
end
section
variable {m:fY}{t:jJ}{i:Int}{x:bK}{p:cE}
theorem aap:(dU m t i x).1.l=m.l:=by
 unfold dU ri o9;grind
theorem Cb:(dU m t i x).1.room=m.room:=by
 unfold dU ri o9;grind
theorem ak0:(dU m t i x).1.p=m.p:=by
 unfold dU ri o9;grind
theorem Cc:(dU m t i x).2.1.cC=t.cC:=by
 unfold dU oS pF;grind
theorem vp:(dU m t i x).2.1.names=t.names:=by
 unfold dU oS pF;grind
theorem Vg{room:Int}{l:List bG}{y:bG}:(sj room l y).length<=l.length\/((sj room l y).length:Int)<=room:=by
 grind[sj]
theorem JP{φ:bK->Prop}(h:sq φ t)(B:m.room<=16):sq φ (dU m t i x).2.1:=by
 have h1:=h.p;have h2:=h.rl;have h3:=h.nb;have h4:=h.bl;have h5:=h.cl
 have u:∀y,sq φ (pF m t y):=λy=>by
  have h6:=Vg (room:=m.room) (l:=t.buf) (y:=y)
  exact⟨h1,h2,h3,by show(sj m.room t.buf y).length<=1000;omega,h5⟩
 unfold dU;repeat' split
 all_goals first
  | exact h
  | exact h.set _ _
  | exact u _
theorem aaq(h:uR m.mem):uR (dU m t i x).1.mem/\(dU m t i x).1.mem.of=m.mem.of/\(dU m t i x).1.mem.dY=m.mem.dY:=by
 unfold dU ri o9;repeat' split
 all_goals first
  | exact⟨h,rfl,rfl⟩
  | exact⟨HL h,Hp _ _ _,tP _ _ _⟩
theorem aeM{n:Nat}(h:MB m.mem n):MB (dU m t i x).1.mem (n+1):=by
 unfold dU ri o9;repeat' split
 all_goals first
  | exact h.mono (K9 n)
  | exact h.write
theorem aeN:(dU m t i x).1.eQ.length=m.eQ.length:=by
 unfold dU ri o9;grind
theorem JQ{φ:bK->Prop}(h:sq φ t):sq φ {t with cC:=gy t.cC}:=by
 refine h.cC h.p.pop ?_
 match hp:t.cC with
 | []=>exact o5 _
 | (.nil,_)::q=>grind[gU,gy]
 | (.cons y a b r,e)::q=>have:=Qe (p:=(.cons y a b r,e)::q) rfl;omega
theorem NC{cs ls:List ByteArray}(h:xV cs ls t):ZN (goD t):=λu=>SR _ (qq h).1 h u
theorem Vh(u:my m)(ht:t∈m.l):xV (cX m.p) (cK m.p) (tS m t i x)/\ZN (tS m t i x)/\(tS m t i x).names=t.names:=by
 have h1:sq (UJ (cX m.p) (cK m.p) t.names) { (dU m t i x).2.1 with cC:=gy (dU m t i x).2.1.cC}:=JQ (JP (u.th t ht) u.rm.2)
 have h2:xV (cX m.p) (cK m.p) { (dU m t i x).2.1 with cC:=gy (dU m t i x).2.1.cC}:=by
  show sq (UJ _ _ (dU m t i x).2.1.names) _
  rw[vp];exact h1
 exact⟨(qq h2).2.1,NC h2,(qq h2).2.2.trans vp⟩
theorem uL{β:Type}{l:List β}{k:Nat}{a y:β}(h:y∈l.set k a):y=a\/y∈l:=(SZ h).symm
theorem aar(u:my m):my (il m i).1/\(il m i).1.p=m.p/\(∀n,MB m.mem n->MB (il m i).1.mem (n+1))/\(il m i).1.l.length=m.l.length:=by
 unfold il
 split
 .exact⟨u,rfl,λn h=>h.mono (K9 n),rfl⟩
 rename_i t ht
 have G:=j0 ht
 split
 .exact⟨⟨u.mem,u.th,u.tl,u.ow,u.rm,u.st,u.pz⟩,rfl,λn h=>h.mono (K9 n),rfl⟩
 split
 .exact⟨u,rfl,λn h=>h.mono (K9 n),rfl⟩
 rename_i x _ _ _
 split
 .exact⟨⟨u.mem,u.th,u.tl,u.ow,u.rm,u.st,u.pz⟩,rfl,λn h=>h.mono (K9 n),rfl⟩
 obtain⟨I,J,_⟩:=Vh (i:=i) (x:=x) u G
 have E:=ak0 (m:=m) (t:=t) (i:=i) (x:=x)
 refine⟨⟨(aaq u.mem).1,λy B=>?_,by show(m.l.set _ _).length<=_;rw[FX];exact u.tl,?_,by show 1<=(dU m t i x).1.room/\_;rw[Cb];exact u.rm,λy B=>?_,?_⟩,E,λn h=>aeM h,FX⟩
 .show xV (cX (dU m t i x).1.p) (cK (dU m t i x).1.p) y
  rw[E]
  rcases uL B with rfl|B
  .exact I
  exact u.th y B
 .show(dU m t i x).1.eQ.length=(cK (dU m t i x).1.p).length
  rw[aeN,E];exact u.ow
 .rcases uL B with rfl|B
  .exact J
  exact u.st y B
 show PZ (dU m t i x).1.p;rw[E];exact u.pz
theorem QO{l:List bG}{i:Int}:(jF l i).length<=l.length:=by
 grind[jF]
theorem aeO{q:bV}(u:my m)(ht:m.l[q.t.toNat]?=some t):my (sQ m t q)/\(∀n,MB m.mem n->MB (sQ m t q).mem (n+1)):=by
 have E:=j0 ht
 have h1:=u.th t E
 refine⟨⟨(HM u.mem).1,λy B=>?_,by show(m.l.set _ _).length<=_;rw[FX];exact u.tl,u.ow,u.rm,λy B=>?_,u.pz⟩,λn h=>h.jG⟩
 .rcases uL B with rfl|B
  .have:=QO (l:=t.buf) (i:=q.i)
   exact⟨h1.p,h1.rl,h1.nb,by show(jF t.buf q.i).length<=1000;have:=h1.bl;omega,h1.cl⟩
  exact u.th y B
 rcases uL B with rfl|B
 .exact u.st t E
 exact u.st y B
structure FA(p:cE):Prop where
 f:PF p
 big:uB p=false
 w:∀t∈gj p,qO t.body=false
 tw:j9 (fL p)=false
 u:∀t∈gj p,∀x∈t.body,mT p t.dN x=false
theorem pR(h:fc p=0):FA p:=by
 unfold fc at h
 split at h
 .cases h
 rename_i h1
 split at h
 .cases h
 rename_i h2
 split at h
 .cases h
 rename_i h3
 split at h
 .cases h
 rename_i h4
 split at h
 .cases h
 rename_i h5
 split at h
 .cases h
 rename_i h6
 simp only[Bool.not_eq_true,x7]at h2 h3 h4 h6
 exact⟨qi cH,h2,λt ht=>cH,h4,λt ht x u=>cH⟩
theorem JR:∀(b:Bk) (n:Int),b.ok n=true->∀x∈b.flat,x.eo<=0\/x.kind=11
 | .nil,_,_,_,h=>by cases h
 | .cons y a b r,n,h,x,u=>by
  unfold Bk.ok at h
  simp only[nS]at h
  obtain⟨⟨⟨h1,h2⟩,h3⟩,h4⟩:=h
  unfold Bk.flat at u
  rcases sk.1 u with rfl|u
  .unfold Bk.xN at h1;grind
  .rcases oi.1 u with u|u
   .exact JR a _ h2 x u
   .rcases oi.1 u with u|u
    .exact JR b _ h3 x u
    .exact JR r _ h4 x u
theorem FB{l:List bY}(h:fw l=true):l.length<=40:=by
 unfold fw at h
 grind
theorem HN{l:List bY}(h:fw l=true):∀y∈l,y.name.size<=1000:=λy B=>by
 have u:kP y=false:=by
  unfold fw at h
  grind
 unfold kP gJ at u
 by_cases h2:y.op=2
 .grind
 .have:y.name=⟨#[]⟩:=cH
  rw[this];decide
theorem ak1(hc:FA p){t:cL}(ht:t∈gj p){x:bK}(J:x∈t.body)(G:mS x=true)(Z:x.eo<=0\/x.kind=11):UJ (cX p) (cK p) t.dN x:=by
 have E:=hc.u t ht x J
 have Y:=I7 G
 have u:=xQ G
 unfold mT at E
 simp only[Js,Bool.and_eq_false_iff,decide_eq_false_iff_not,u3]at E
 obtain⟨⟨⟨⟨⟨B,u2⟩,V⟩,U⟩,_⟩,_⟩:=E
 have I:x.e.length<=1000:=by
  rcases u.e with h|h
  .have:=FB h.2;omega
  grind
 have O:x.f.length<=1000:=by
  rcases u.f with h|h
  .have:=FB h.2;omega
  grind
 refine⟨u.kind,⟨I,O⟩,λh=>bL,λh=>bL,λh=>?_,λh=>bL,λh=>bL,?_,?_⟩
 rotate_left
 .rcases u.e with h|h
  .exact HN h.2
  grind
 .rcases u.f with h|h
  .exact HN h.2
  grind
 rcases B with B|B
 .exfalso
  have M:=u.eB
  rcases M with⟨_,h2⟩|⟨h1,_⟩
  .rw[B,Mx]at h2;cases h2
  have W:=u.kind
  rcases h with h|h|h<;>rw[h]at h1<;>exact absurd h1 cZ
 omega
theorem uM:∀(b:Bk) (n:Int),1<=n->n<=64->mj b n=false->(∀x∈b.flat,x.kind=12->1<=x.n)->n.toNat*lG b<=128*b.len
 | .nil,n,_,_,_,_=>by simp[lG]
 | .cons y a b r,n,h1,h2,hw,G=>by
  rw[ve]at hw
  simp only[Js,decide_eq_false_iff_not]at hw
  obtain⟨⟨I,u,J⟩,w4⟩:=hw
  have O:∀x∈a.flat,x.kind=12->1<=x.n:=λx E=>G x (by unfold Bk.flat;simp[E])
  have qb:∀x∈b.flat,x.kind=12->1<=x.n:=λx E=>G x (by unfold Bk.flat;simp[E])
  have Z:∀x∈r.flat,x.kind=12->1<=x.n:=λx E=>G x (by unfold Bk.flat;simp[E])
  have W:=uM r n h1 h2 w4 Z
  rw[so]
  unfold Bk.len
  obtain⟨k,rfl⟩:=Nh (show 0<=n by omega)
  rw[o6]at W |-
  by_cases B:y.kind=12
  .rw[ee B]
   have V:=G y (by unfold Bk.flat;grind) B
   unfold qN at I u
   rw[ee B]at I u
   obtain⟨j,U⟩:=Nh (show 0<=y.n by omega)
   rw[U]at I u V
   rw[U,o6]
   have M:(1:Int)<=(k:Int)*(j:Int):=by
    have:=Int.mul_le_mul (a:=1) (b:=1) (c:=(k:Int)) (d:=(j:Int)) h1 V bL bL
    omega
   have Y:=uM a _ M bL u O
   grind
  .rw[eb B]
   unfold qN at u J
   rw[eb B]at u J
   have Y:=uM a k h1 h2 u O
   have ib:=uM b k h1 h2 J qb
   grind
theorem ND{b:Bk}(h:b.str):Hy b.flat=b:=by unfold Hy;rw[rq h];rfl
theorem DF(hc:FA p){t:cL}(ht:t∈gj p):xV (cX p) (cK p) (vP t):=by
 obtain⟨_,h2,_⟩:=hc.f.qB ht
 obtain⟨h3,h4,b,h5,h6,J,_⟩:=kU h2
 have hb:Hy t.body=b:=by rw[h5];exact ND h6
 have I:CY (UJ (cX p) (cK p) t.dN) b:=(UH b).2 λx u=>by
  rw[<- h5]at u
  exact ak1 hc ht u (h4 x u) (JR b 0 J x cH)
 have U:F4 (UJ (cX p) (cK p) t.dN) []:=⟨λ_ h=>(by cases h),λ_ h=>(by cases h),λ_ h=>(by cases h)⟩
 have E:=hc.w t ht
 rw[h5,va h6]at E
 have O:=uM b 1 bL bL E λx u M=>(((I7 (h4 x cH)).2 M).1)
 have V:b.len<=40:=by rw[<- Bk.cY,<- h5];exact h3
 have G:t.dN.length<=4:=by
  have B:=hc.big
  unfold uB at B
  grind
 refine⟨?_,by simp[vP],by show t.dN.length<=1000;omega,by simp[vP],?_⟩
 .show F4 _ (jh (Hy t.body) false [])
  rw[hb];exact U.push h6 I
 show gU (jh (Hy t.body) false [])<=10000
 rw[hb,sn]
 grind[lG,gU]
theorem aas:xV (cX p) (cK p) (vP ⟨⟨#[]⟩,[],[],0⟩):=by
 refine⟨⟨λ_ h=>(by cases h),λ_ h=>(by cases h),λ_ h=>(by cases h)⟩,rfl,(by decide:(0:Nat)<=1000),(by decide:(0:Nat)<=1000),(by decide:(0:Nat)<=10000)⟩
theorem HO{l:List cL}(G:uR m.mem)(E:1<=m.room/\m.room<=16)(I:PZ m.p)(J:l.length<=1000)(h:∀t∈l,xV (cX m.p) (cK m.p) (vP t)):my (qD m l):=by
 refine⟨G,λt ht=>?_,by show(l.map UN).length<=1000;rw[List.length_map];exact J,by show(List.replicate _ _).length=_;rw[List.length_replicate];rfl,E,λt ht=>?_,I⟩
 .obtain⟨u,B,rfl⟩:=n4.1 ht
  exact(qq (h u B)).2.1
 obtain⟨u,B,rfl⟩:=n4.1 ht
 exact NC (h u B)
theorem JS(hc:FA m.p):(uH m).length<=1/\∀t∈uH m,xV (cX m.p) (cK m.p) (vP t):=by
 unfold uH
 split
 .exact⟨o5 _,λt ht=>by rw[sM.1 ht];exact aas⟩
 exact⟨hc.f.one,λt ht=>DF hc (List.mem_append_right _ ht)⟩
theorem rk{k:Nat}{x:bV}(h:x∈g9 m k):∃i t,i<k/\m.l[i]?=some t/\x∈rf m i t:=by
 unfold g9 at h
 grind
theorem vq{i:Nat}{t:jJ}{x:bV}(h:x∈rf m i t):x.t=i/\x.cut=[]/\((x.kind=1/\sy m t=true/\x.i=0)\/(x.kind=2/\x.i∈o8 t.buf)):=by
 unfold rf at h
 grind
theorem aeP{q:bV}(h:(fx m).any (lR q)=true):m.fault=0/\0<=q.t/\q.cut.length=0/\∃t,m.l[q.t.toNat]?=some t/\((q.kind=1/\sy m t=true)\/(q.kind=2/\q.i∈o8 t.buf)):=by
 rw[List.any_eq_true]at h
 obtain⟨x,u,B⟩:=h
 unfold fx at u
 split at u
 .cases u
 rename_i hf
 obtain⟨i,t,_,ht,E⟩:=rk u
 obtain⟨h1,_,h2⟩:=vq E
 unfold lR at B
 simp only[nS,decide_eq_true_eq]at B
 have e:q.t=(i:Int):=bL
 refine⟨bL,bL,B.2,t,by rw[e];exact ht,?_⟩
 rcases h2 with⟨a,b,_⟩|⟨a,b⟩
 .exact .inl ⟨bL,b⟩
 exact .inr ⟨bL,by rw[<- B.1.2];exact b⟩
theorem FC(h:sy m t=true):∃x a b,oR t.cC=some (x,a,b):=by
 unfold sy at h
 grind
theorem ak3{q:bV}(u:my m)(hc:FA m.p):my (od m q).1/\(od m q).1.p=m.p/\(∀n,MB m.mem n->MB (od m q).1.mem (n+1)):=by
 unfold od
 cases hi:fW m q with
 | some G=>
  have B:fh m.mem q.cut=some G:=by unfold fW at hi;grind
  obtain⟨I,E⟩:=JS hc
  refine⟨HO (Ve u.mem B) u.rm u.pz bL E,rfl,λn h k=>?_⟩
  show([]:List j4).length<=_
  grind
 | none=>
  dsimp only
  split
  .split
   .split
    .rename_i t ht
     obtain⟨h1,h2⟩:=aeO u ht
     exact⟨h1,rfl,h2⟩
    .exact⟨u,rfl,λn h=>h.mono (K9 n)⟩
   .obtain⟨h1,h2,h3,_⟩:=aar (i:=q.t) u
    grind
  .exact⟨u,rfl,λn h=>h.mono (K9 n)⟩
theorem JT{i:Nat}(h:i<(cX p).length):(AZ p)[i]?=some (o7 p i):=by grind[AZ,o7]
theorem A9(p:cE):(cX p).length=(iQ p).length:=by unfold cX;grind
theorem aat(hc:FA p):(iQ p).length<=20:=by
 have hb:=hc.big
 unfold uB at hb
 simp only[Js,x7,decide_eq_false_iff_not,decide_eq_true_eq]at hb
 obtain⟨⟨h1,_⟩,⟨⟨⟨⟨h2,h3⟩,_⟩,_⟩,_⟩,_⟩:=hb
 have h4:∀ls:List (List cG),(∀l∈ls,¬ 4<(l.length:Int))->ls.flatten.length<=4*ls.length:=by
  intro ls
  induction ls with
  | nil=>grind
  | cons l r u=>
   grind
 grind[iQ]
theorem QP(hc:FA p){k:Nat}{n:Int}(J:(k:Int)<eJ p)(G:(AZ p)[k]?=some n):(n=tj (AZ p) k\/(0<k/\n=tj (AZ p) k-1))/\0<=n/\n<=k:=by
 have M:=uK p
 have U:=A9 p
 have B:∀l∈p.lines,l≠[]:=λl E=>(hc.f.lines l E).1
 have I:∀j:Nat,(j:Int)<eJ p->(AZ p)[j]?=some (jg p.lines 0 j):=λj V=>by rw[JT bL,NB bL]
 rw[I k J]at G;cases G
 have u:∀j:Nat,jg p.lines 0 j<=j:=by
  intro j
  induction j with
  | zero=>
   cases E:p.lines with
   | nil=>unfold jg;omega
   | cons l r=>
    grind[jg]
  | succ j W=>
   have:=(vn p.lines 0 (j:Int) bL B).2.2
   grind
 refine⟨?_,(vn p.lines 0 (k:Int) bL B).1,u k⟩
 cases k with
 | zero=>
  left
  have:=u 0
  have:=(vn p.lines 0 ((0:Nat):Int) bL B).1
  show _=0
  omega
 | succ k=>
  have h3:=(vn p.lines 0 (k:Int) bL B).2.2
  have e:((k+1:Nat):Int)=(k:Int)+1:=bL
  have O:tj (AZ p) (k+1)=jg p.lines 0 (k:Int)+1:=by
   unfold tj;grind
  grind
theorem aau(hc:FA p):uR (Jt (AZ p) (eJ p) (fo p)):=by
 have Y:=uK p
 have Z:=A9 p
 have V:=aat hc
 have O:∀l∈p.lines,l≠[]:=λl G=>(hc.f.lines l G).1
 have U:(AZ p).length=(iQ p).length:=by grind[AZ,iQ]
 have W:(fo p).length=(iQ p).length:=by unfold fo;grind
 have G:((AZ p).take (eJ p).toNat).length=(eJ p).toNat:=cH
 have B:∀j:Nat,(j:Int)<eJ p->(AZ p)[j]?=some (jg p.lines 0 j):=λj hj=>by rw[JT bL,NB bL]
 have u:0<(eJ p).toNat->fR ((AZ p).take (eJ p).toNat)=jg p.lines 0 ((eJ p).toNat-1:Nat)+1:=λE=>by
  rw[Nz E bL,n0,B _ bL];rfl
 refine⟨?_,?_,rfl,?_,λn J=>?_,?_,λk x M=>by cases M⟩
 .show((AZ p).take (eJ p).toNat).length<=(fo p).length;omega
 .show(fo p).length<=20;omega
 .show((fo p).take (eJ p).toNat).length=((AZ p).take (eJ p).toNat).length;grind
 .obtain⟨i,hi⟩:=List.mem_iff_getElem?.1 (show n∈(AZ p).take (eJ p).toNat from J)
  have I:=(ir.1 hi).1
  rw[G]at I
  rw[List.getElem?_take,ee I,B i bL]at hi
  cases hi
  show 0<=_/\_<fR ((AZ p).take (eJ p).toNat)
  rw[u bL]
  have h3:=vn p.lines 0 (i:Int) bL O
  grind
 show fR ((AZ p).take (eJ p).toNat)<=20
 by_cases E:(eJ p).toNat=0
 .rw[E,List.take_zero];decide
 rw[u bL]
 have:=(QP hc (k:=(eJ p).toNat-1) bL (B _ bL)).2.2
 omega
theorem aeQ(u:PZ p)(hc:FA p){room:Int}(B:1<=room/\room<=16):my (gB p room):=by
 refine HO (m:=xi p room) (aau hc) B u (by have:=u.threads;omega) λt ht=>DF hc (List.mem_append_left _ ht)
end
def hdC(g:Int->Nat)(u B:Nat)(x:bK):Nat:=
 if x.kind=11 then g 12+max (u+(if 0<x.eo then g 11 else 0)) B
 else if x.kind=12 then g 13+x.n.toNat*(u+g 14)
 else if x.kind=13 then g 11 else g (if x.kind=14 then 15 else x.kind)
def tot(g:Int->Nat):Bk->Nat
 | .nil=>0
 | .cons x a b r=>hdC g (tot g a) (tot g b) x+tot g r
def ar8(x:bK)(a b r:Bk)(at_:Int):Int:=at_+(yB (.cons x a b r)-yB r)
def W(g:Int->Nat):Bk->Int->Int->List Int->Int->Nat->Nat->Option Nat
 | .nil,at_,_,_,pos,u,_=>if pos=at_ then some u else none
 | .cons x a b r,at_,lp,cs,pos,u,B=>
  if ar8 x a b r at_<=pos then W g r (ar8 x a b r at_) lp cs pos u B
  else if pos=at_ then(if x.kind=13 then some (g 11+B)else some (hdC g (tot g a) (tot g b) x+(tot g r+u)))
  else if x.kind=11 then(if pos<toT x a at_ then W g a (at_+1) lp cs pos ((if 0<x.eo then g 11 else 0)+(tot g r+u)) B else W g b (toT x a at_) lp cs pos (tot g r+u) B)
  else if x.kind=12 then(if 1<=cs.getD lp.toNat 0/\cs.getD lp.toNat 0<=8 then W g a (at_+1) (lp+1) cs pos (g 14+((cs.getD lp.toNat 0).toNat-1)*(tot g a+g 14)+(tot g r+u)) (tot g r+u)else none)
  else none
def ar9:bV:=⟨0,0,0,[]⟩
def JU{α:Type}{xs ys:List α}{k:Nat}{x y:α}(h:xs.take k=ys.take k)(u:xs[k]?=some x)(B:ys[k]?=some y)(e:x=y):xs.take (k+1)=ys.take (k+1):=by
 rw[<- gG u,<- gG B,h,e]
def asa{α:Type}{xs ys:List α}{k:Nat}{x y:α}(u:xs[k]?=some x)(B:ys[k]?=some y)(e:x≠y):xs≠ys:=λh=>by
 grind
theorem Tu(f:List Int->List Int):∀(l:List (List Int)) (s:List (List Int)×List (List Int)),∀x∈(l.foldl (λs c=>if f c∈s.2 then s else(s.1++[c],s.2++[f c])) s).1,x∈s.1\/x∈l
 | [],s,x,h=>.inl h
 | c::l,s,x,h=>by
  rw[List.foldl_cons]at h
  rcases Tu f l _ x h with h1|h1
  .split at h1
   .exact .inl h1
   .rcases oi.1 h1 with h2|h2
    .exact .inl h2
    .exact .inr (by rw[sM.1 h2];exact ob ..)
  .exact .inr (o4 _ h1)
def Vi{m:Mem}{c:List Int}(h:c∈AX m):c∈ek (vT m):=by
 have:=Tu (ML m) (ek (vT m)) ([],[]) c h
 rcases this with h1|h1
 .cases h1
 exact h1
def FD{m:Mem}(u:uR m){c:List Int}(h:c∈AX m):fh m c=some (oo m c c.length)/\c.length<=20:=by
 have h1:=Vi h
 have h2:=wY h1
 have h3:=Dt m
 have h4:=mM u
 have h5:=u.lb
 refine⟨xU bL λk x G B=>?_,bL⟩
 have E:(vT m)[k]?=some (m.fC k).length:=Fj bL
 exact B4 h1 E B
theorem NF{ns:List Int}{many:Int}(B:yi ns):∀{xs:List n8}{S:List Int},yi S->(∀x∈xs,qJ many x=false)->eS (vO ns xs S).1
 | [],S,u,_=>Lp u
 | x::r,S,u,h=>by
  unfold vO
  split
  .exact NF B (Xm B u (h x (ob ..))) λy E=>h y (o4 _ E)
  .exact iv
def aeR{xs:List n8}{ns:List Int}(B:yi ns):eS (runM xs ns).1:=by
 unfold runM
 split
 .rename_i h
  exact NF B (λv u=>by cases u) (yx h).2.2
 exact iv
def yi.set{S:List Int}(h:yi S){i:Nat}{v:Int}(B:eS v):yi (S.set i v):=λe u=>by
 rcases SZ u with h1|rfl
 .exact h e h1
 .exact B
def Ex.val(ns:List ByteArray)(nums:List Int):Ex->Int×Int
 | .leaf x=>(if x.op=2 then nums.getD (cU ns x.name).toNat 0 else x.n,0)
 | .un x a=>if (a.val ns nums).2=0 then(yh x.op (a.val ns nums).1,0)else(0,(a.val ns nums).2)
 | .bin x a b=>if (a.val ns nums).2=0 then(if (b.val ns nums).2=0 then(gv x.op (a.val ns nums).1 (b.val ns nums).1,gA x.op (b.val ns nums).1)else(0,(b.val ns nums).2))else(0,(a.val ns nums).2)
theorem Ex.FE(ns:List ByteArray)(nums:List Int)(x:bY)(a:Ex):(Ex.un x a).val ns nums=if (a.val ns nums).2=0 then(yh x.op (a.val ns nums).1,0)else(0,(a.val ns nums).2):=rfl
theorem Ex.Ba(ns:List ByteArray)(nums:List Int)(x:bY)(a b:Ex):(Ex.bin x a b).val ns nums=if (a.val ns nums).2=0 then(if (b.val ns nums).2=0 then(gv x.op (a.val ns nums).1 (b.val ns nums).1,gA x.op (b.val ns nums).1)else(0,(b.val ns nums).2))else(0,(a.val ns nums).2):=rfl
theorem zF{k:Int}(h:0<=kids k):eA k=kids k:=by
 grind[eA,kids]
theorem sF(S:List Int)(v:Int):jV (S++[v])=v:=by
 grind[jV]
theorem FG(S:List Int)(v:Int):(S++[v]).take ((S++[v]).length-1)=S:=by
 simp_all
theorem QQ(S:List Int)(v u:Int):(S++[v]++[u]).take ((S++[v]++[u]).length-2)=S:=by
 simp_all
theorem Vj(ns:List ByteArray)(nums:List Int):∀(t:Ex),t.wf->∀(r:List n8) (S:List Int),vO nums (t.steps ns++r) S=if (t.val ns nums).2=0 then vO nums r (S++[(t.val ns nums).1])else(0,(t.val ns nums).2):=by
 intro t
 induction t with
 | leaf x=>
  intro E r S
  have G:kids x.op=0:=E
  have u:eA x.op=0:=by rw[zF bL,G]
  show(if u0 S ⟨x.op,Ex.numOf ns x⟩=0 then vO nums r (kT nums S ⟨x.op,Ex.numOf ns x⟩)else _)=_
  have h1:u0 S ⟨x.op,Ex.numOf ns x⟩=0:=by unfold u0;rw[show eA (⟨x.op,Ex.numOf ns x⟩:n8).kind=0 from u];rfl
  have h2:kT nums S ⟨x.op,Ex.numOf ns x⟩=S++[((Ex.leaf x).val ns nums).1]:=by
   unfold kT;rw[ee (show eA (⟨x.op,Ex.numOf ns x⟩:n8).kind=0 from u)]
   show S++[if x.op=2 then nums.getD (Ex.numOf ns x).toNat 0 else Ex.numOf ns x]=S++[if x.op=2 then _ else _]
   unfold Ex.numOf
   split<;>simp[*]
  rw[ee h1,h2];rfl
 | un x a M=>
  intro E r S
  have G:kids x.op=1:=E.1
  have u:eA x.op=1:=by rw[zF bL,G]
  show vO nums (a.steps ns++[⟨x.op,Ex.numOf ns x⟩]++r) S=_
  rw[mX,M E.2,Ex.FE]
  by_cases B:(a.val ns nums).2=0
  .rw[ee B,ee B]
   show(if u0 _ ⟨x.op,Ex.numOf ns x⟩=0 then vO nums r (kT nums _ ⟨x.op,Ex.numOf ns x⟩)else _)=_
   have h1:∀J,u0 J ⟨x.op,Ex.numOf ns x⟩=0:=λJ=>by unfold u0;rw[show eA (⟨x.op,Ex.numOf ns x⟩:n8).kind=1 from u];rfl
   rw[ee (h1 _)]
   unfold kT
   rw[eb (show ¬ eA (⟨x.op,Ex.numOf ns x⟩:n8).kind=0 by show ¬ eA x.op=0;omega),ee (show eA (⟨x.op,Ex.numOf ns x⟩:n8).kind=1 from u),sF,FG]
   rfl
  .rw[eb B,eb B,eb B]
 | bin x a b O U=>
  intro E r S
  have G:kids x.op=2:=E.1
  have u:eA x.op=2:=by rw[zF bL,G]
  show vO nums (a.steps ns++b.steps ns++[⟨x.op,Ex.numOf ns x⟩]++r) S=_
  rw[mX,mX,O E.2.1,Ex.Ba]
  by_cases B:(a.val ns nums).2=0
  .rw[ee B,ee B,U E.2.2]
   by_cases hb:(b.val ns nums).2=0
   .rw[ee hb,ee hb]
    show(if u0 _ ⟨x.op,Ex.numOf ns x⟩=0 then vO nums r (kT nums _ ⟨x.op,Ex.numOf ns x⟩)else _)=_
    have h1:u0 (S++[(a.val ns nums).1]++[(b.val ns nums).1]) ⟨x.op,Ex.numOf ns x⟩=gA x.op (b.val ns nums).1:=by
     unfold u0;rw[ee (show eA (⟨x.op,Ex.numOf ns x⟩:n8).kind=2 from u),sF]
    rw[h1]
    by_cases I:gA x.op (b.val ns nums).1=0
    .rw[ee I,ee I]
     unfold kT
     rw[eb (show ¬ eA (⟨x.op,Ex.numOf ns x⟩:n8).kind=0 by show ¬ eA x.op=0;omega),eb (show ¬ eA (⟨x.op,Ex.numOf ns x⟩:n8).kind=1 by show ¬ eA x.op=1;omega),sF,FG,sF,QQ]
    .rw[eb I,eb I]
   .rw[eb hb,eb hb,eb hb]
  .rw[eb B,eb B,eb B]
theorem Vk{ns:List ByteArray}{nums:List Int}{xs:List bY}(h:kG ns xs=0)(O:ns.length=nums.length):∃t,Bn xs 0 t/\qA ns nums xs=t.val ns nums/\(∀y∈xs,y.op=2->0<=cU ns y.name)/\∀y∈xs,eS y.n:=by
 unfold kG at h
 split at h
 .cases h
 rename_i u
 have u:fw xs=true:=cH
 split at h
 .cases h
 rename_i hv
 have G:=y9 u
 obtain⟨t,ht⟩:=Bn.of (xs:=xs) (i:=0) bL
 obtain⟨h1,h2⟩:=ht.zero G
 have M:kG ns xs=0:=by grind[kG]
 have E:=(NA (ns:=ns) (l:=xs) (many:=(nums.length:Int)) u (by simpa[oP]using hv) bL).1
 refine⟨t,ht,?_,λy I h2=>?_,λy I=>?_⟩
 .unfold qA runM
  rw[ee O,ee M,ee E]
  have J:qf ns xs=t.steps ns:=by unfold qf BI;grind
  have:=Vj ns nums t ht.2.1 [] []
  rw[oj]at this
  rw[J,this]
  split
  .rename_i h0
   show(jV ([]++_),0)=_
   rw[sF,<- h0]
  rename_i h0
  have B:∀t:Ex,¬ (t.val ns nums).2=0->(t.val ns nums).1=0:=by
   intro t
   cases t with
   | leaf x=>intro h;exact absurd rfl h
   | un x a=>rw[Ex.FE];split<;>intro h<;>first|exact absurd rfl h|rfl
   | bin x a b=>
    rw[Ex.Ba];repeat' split
    all_goals intro h
    .show gv _ _ _=0;unfold gv;rw[eb h]
    .rfl
    .rfl
  rw[<- B t h0]
 .grind
 have U:kP y=false:=by
  unfold fw at u
  grind
 unfold kP at U
 unfold eS
 grind
theorem Ex.QR{ns:List ByteArray}{nums:List Int}(u:yi nums):∀t:Ex,(∀y∈t.flat,eS y.n)->eS (t.val ns nums).1
 | .leaf x,h=>by
  unfold Ex.val;dsimp only
  split
  .rw[n0]
   cases hh:nums[(cU ns x.name).toNat]? with
   | none=>exact iv
   | some e=>exact u e (j0 hh)
  .exact h x (List.mem_singleton_self x)
 | .un x a,h=>by rw[Ex.FE];split;exact Xl;exact iv
 | .bin x a b,h=>by
  rw[Ex.Ba];repeat' split
  .exact Xk (Ex.QR u a λy B=>h y (by simp[Ex.flat,B]))
  .exact iv
  .exact iv
abbrev Dq:=bK×Bk×Bk×Bool
def F5:Bool->Bk->List Dq
 | _,.nil=>[]
 | e,.cons x a b r=>(x,a,b,e)::F5 false r
def yc:PD->List Dq
 | []=>[]
 | q::p=>F5 q.2 q.1++yc p
def FH(p:PD):Prop:=∀q∈p,q.2=true->∃x a,q.1=Bk.cons x a .nil .nil
def tX:List Dq->List Dq
 | []=>[]
 | q::l=>if q.2.2.2=true then l else tX l
section
variable {p:PD}{b:Bk}{x:bK}{a:Bk}{t:jJ}{l:List Dq}
theorem uN:yc (jh b false p)=F5 false b++yc p:=by cases b<;>rfl
theorem Bb{c:Bk}(h:oR p=some (x,a,c)):∃e,yc p=(x,a,c,e)::yc (gy p):=by
 obtain⟨r,e,u,rfl⟩:=Hr h
 exact⟨e,by show _::(F5 false r++yc u)=_::yc (jh r false u);rw[uN]⟩
theorem HQ:∀b:Bk,tX (F5 false b++l)=tX l
 | .nil=>rfl
 | .cons _ _ _ r=>HQ r
theorem HS:∀{p:PD},FH p->yc (kc p)=tX (yc p)
 | [],_=>rfl
 | (b,true)::p,h=>by
  obtain⟨x,a,hb⟩:=h _ (ob ..) rfl
  have hb:b=Bk.cons x a .nil .nil:=hb
  subst hb;rfl
 | (b,false)::p,h=>by
  show yc (kc p)=tX (F5 false b++yc p)
  rw[HQ,HS λq u=>h q (o4 _ u)]
theorem Vl(h:¬ x.n=0):yc (mu x a p)=F5 false a++({x with n:=x.n-1},a,.nil,true)::yc (gy p):=by
 unfold mu;rw[eb h,uN];rfl
theorem HT:∀(l:List Dq) (k:Nat),(∀j q,j<k->l[j]?=some q->q.2.2.2=false)->(∀q,l[k]?=some q->q.2.2.2=true)->k<=l.length->tX l=l.drop (k+1)
 | [],k,_,_,_=>by simp[tX]
 | q::l,0,_,h,_=>by
  simp_all[Dq,tX]
 | q::l,k+1,h1,h2,h3=>by
  have:=h1 0 q bL rfl
  show(if q.2.2.2=true then l else tX l)=_
  rw[eb cH,HT l k (λj u E B=>h1 (j+1) u bL B) (λu B=>h2 u B) cH]
  rfl
theorem FH.tail{q:Bk×Bool}(h:FH (q::p)):FH p:=λr u=>h r (o4 _ u)
theorem FH.push(h:FH p):FH (jh b false p):=by
 cases b with
 | nil=>exact h
 | cons x a c r=>
  grind[FH,jh]
theorem FH.pop(h:FH p):FH (gy p):=by
 match p,h with
 | [],h=>exact h
 | (.nil,_)::p,h=>exact h.tail
 | (.cons x a b r,_)::p,h=>exact h.tail.push
theorem FH.leave:∀{p:PD},FH p->FH (kc p)
 | [],h=>h
 | (_,e)::p,h=>by
  unfold kc;split
  .exact h.tail
  .exact h.tail.leave
theorem FH.round(h:FH p):FH (mu x a p):=by
 unfold mu;split
 .exact h.pop
 refine FH.push λq u B=>?_
 rcases sk.1 u with rfl|u
 .grind
 exact h.pop q u B
theorem Tv:∀(e:Bool) (b:Bk),(F5 e b).length<=lG b
 | _,.nil=>kO _
 | _,.cons x a b r=>by have:=Tv false r;simp only[F5,n5];rw[so];omega
theorem FI:∀p:PD,(yc p).length<=gU p
 | []=>kO _
 | q::p=>by have:=FI p;have:=Tv q.2 q.1;rw[pE];show(F5 q.2 q.1++yc p).length<=_;grind
end
structure Mo(m:Mem):Prop where
 l:yi m.l
 k:yi m.kept
 f:yi m.dY
 p:∀k,∀x∈m.fC k,eS x.n
theorem FJ:∀{ws:List j4}{k:List Int},yi k->(∀x∈ws,eS x.n)->yi (nA k ws)
 | [],k,u,_=>u
 | w::ws,k,u,h=>by
  show yi (nA (k.set w.cell.toNat w.n) ws)
  exact FJ (u.set (h w (ob ..))) λx B=>h x (o4 _ B)
section
variable {m:Mem}
theorem Mo.write(h:Mo m){c n:Int}(B:eS n):Mo (fe m c n):=by
 unfold fe
 split
 .refine⟨h.l.set B,h.k,h.f,λk x u=>?_⟩
  dsimp only at u
  split at u
  .rcases DE u with h1|h1
   .rcases oi.1 h1 with h2|h2
    .exact h.p _ x h2
    grind
   exact h.p _ x h1
  exact h.p _ x u
 exact h
theorem Mo.out(h:Mo m){n:Int}:Mo (nQ m n):=by
 unfold nQ
 split
 .refine⟨h.l,FJ h.k (h.p _),h.f,λk x u=>?_⟩
  rcases DE u with h1|h1
  .cases h1
  exact h.p _ x h1
 exact h
theorem NG(h:Mo m)(cut:List Int):∀k,yi (oo m cut k)
 | 0=>h.k
 | k+1=>by
  have u:=NG h cut k
  unfold oo at u |-
  rw[List.range_succ,List.foldl_append]
  exact FJ u λx B=>h.p _ x (List.mem_of_mem_take B)
theorem Mo.asb(h:Mo m){cut u:List Int}(hi:fh m cut=some u):Mo (mr m u):=by
 have B:yi u:=by
  unfold fh at hi
  split at hi
  .cases hi;exact NG h cut _
  .cases hi
 refine⟨λv G=>?_,B,h.f,λk x E=>by cases E⟩
 rcases oi.1 (show v∈u++m.dY.drop u.length from G)with h1|h1
 .exact B v h1
 exact h.f v (List.mem_of_mem_drop h1)
theorem aaw(h:Mo m)(c:Int):eS (js m c):=by
 unfold js
 split
 .rw[n0]
  cases hg:m.l[c.toNat]? with
  | none=>exact iv
  | some v=>exact h.l v (j0 hg)
 exact iv
end
theorem aax{l:List bG}{c:Int}(h:∀y∈l,eS y.n):eS ((kV l c).getD 0):=by
 unfold kV
 cases hf:l.reverse.find? (λx=>decide (x.kind=3/\x.cell=c))with
 | none=>exact iv
 | some y=>grind
theorem Vm{l:List bG}{i:Int}(h:∀y∈l,eS y.n):eS (dB l i).n:=by
 unfold dB
 split
 .cases hg:l[i.toNat]? with
  | none=>exact iv
  | some y=>grind
 exact iv
def Vn{l:List bG}{i:Int}{y:bG}(h:y∈jF l i):y∈l:=by
 unfold jF at h
 split at h
 .exact List.mem_of_mem_eraseIdx h
 exact h
def aay{room:Int}{l:List bG}{x y:bG}(h:y∈sj room l x):y∈l\/y=x:=by
 unfold sj at h
 grind
structure Bp(t:jJ):Prop where
 r:yi t.dN
 b:∀y∈t.buf,eS y.n
def aeS{ns:List ByteArray}{nums:List Int}{xs:List bY}(h:yi nums):eS (qA ns nums xs).1:=by
 unfold qA
 repeat' split
 .exact aeR h
 .exact iv
 exact iv
def JV{t:jJ}{xs:List bY}(h:yi t.dN):eS (eD t xs).1:=by
 unfold eD;split
 .exact iv
 exact aeS h
def Bp.goS{t:jJ}(h:Bp t):Bp (qp t).1:=by
 unfold qp
 split
 .exact h
 split
 .unfold qo
  repeat' split
  all_goals first|exact⟨h.r.set (JV h.r),h.b⟩|exact⟨h.r,h.b⟩
 exact⟨h.r,h.b⟩
theorem Bp.goF:∀(n:Nat) {t tR:jJ},Bp t->sP n t=some tR->Bp tR
 | 0,_,_,_,u=>by cases u
 | n+1,t,tR,h,u=>by
  unfold sP at u
  split at u
  .exact Bp.goF n h.goS u
  .cases u;exact h.goS
theorem Bp.go{t:jJ}(h:Bp t):Bp (goD t):=by
 unfold goD
 cases hg:sP (gU t.cC+1) t with
 | none=>exact h
 | some tR=>exact Bp.goF _ h hg
def Bp.th(t:cL):Bp (UN t):=Bp.go ⟨λv B=>by rw[(List.mem_replicate.1 B).2];exact iv,λy u=>by cases u⟩
structure NH(m:fY):Prop where
 th:∀t∈m.l,Bp t
 mem:Mo m.mem
section
variable {m:fY}{t:jJ}
theorem aaz{i:Int}{x:bK}(h:Mo m.mem)(h2:Bp t):Bp (dU m t i x).2.1/\Mo (dU m t i x).1.mem:=by
 have E:=λc=>aaw h c
 have I:∀c,eS (hG m t c):=λc=>by
  unfold hG
  split
  .exact aax h2.b
  grind
 have B:∀y:bG,eS y.n->Bp (pF m t y):=λy M=>⟨h2.r,λz G=>by
  rcases aay G with h3|h3
  .exact h2.b z h3
  grind⟩
 have hc:Mo (ri m t x).mem:=by
  unfold ri;split
  .exact h.write (JV h2.r)
  .exact h
 have u:∀n,eS n->Bp (oS t x.eB n):=λn J=>⟨h2.r.set J,h2.b⟩
 unfold dU
 repeat' split
 all_goals first
  | exact⟨u _ (I _),h⟩
  | exact⟨B _ (JV h2.r),h⟩
  | exact⟨B _ iv,h⟩
  | exact⟨h2,h⟩
  | exact⟨u _ (E _),hc⟩
theorem NH.step{i:Int}(h:NH m):NH (il m i).1:=by
 unfold il
 split
 .exact h
 rename_i t ht
 have B:=h.th t (j0 ht)
 split
 .exact⟨h.th,h.mem⟩
 split
 .exact h
 rename_i x _ _ _
 split
 .exact⟨h.th,h.mem⟩
 obtain⟨h1,h2⟩:=aaz (i:=i) (x:=x) h.mem B
 refine⟨λt' u=>?_,h2⟩
 rcases uL u with rfl|h3
 .exact Bp.go ⟨h1.r,h1.b⟩
 exact h.th t' h3
theorem NH.out{q:bV}(h:NH m)(ht:m.l[q.t.toNat]?=some t):NH (sQ m t q):=by
 have h2:=h.th t (j0 ht)
 refine⟨λt' u=>?_,?_⟩
 .rcases uL u with rfl|h3
  .exact⟨h2.r,λy B=>h2.b y (Vn B)⟩
  exact h.th t' h3
 show Mo (jG m.mem (dB t.buf q.i))
 unfold jG
 split
 .exact h.mem.write (Vm h2.b)
 split
 .exact h.mem
 exact h.mem.out
theorem NH.begin{l:List cL}(h:Mo m.mem):NH (qD m l):=⟨λt ht=>by
 obtain⟨u,_,rfl⟩:=n4.1 (show t∈l.map UN from ht);exact Bp.th u,h⟩
theorem NH.do{q:bV}(h:NH m):NH (od m q).1:=by
 unfold od
 cases hi:fW m q with
 | some u=>
  have B:fh m.mem q.cut=some u:=by unfold fW at hi;grind
  exact NH.begin (m:=oU m u) (h.mem.asb B)
 | none=>
  dsimp only
  split
  .split
   .split
    .rename_i t ht;exact h.out ht
    .exact h
   .exact h.step
  .exact h
end
def NI(U:Option Addr)(ZE Y:Nat)(Z:Option Addr)(ZG ZH:Nat)(u:Option Addr)(ZI M:Nat)(W:Option Addr)(B M4:Nat)(M5:Option Addr)(M6 J:Nat)(G:Option Addr)(I E:Nat)(V:Int)(O:Option Addr):pr g6 (l0 44 [(0,.agg [.slice U ZE Y,.slice Z ZG ZH,.slice u ZI M,.slice W B M4,.slice M5 M6 J,.slice G I E].toArray),(1,hH V),(3,.pointer O)].toArray)=some (.agg [.slice U ZE Y,.slice Z ZG ZH,.slice u ZI M,.slice W B M4,.slice M5 M6 J,.slice G I E,hH V,hH 0,.pointer O,.slice none 0 0,.slice none 0 0,hH 0,hH 0].toArray):=by kernel_rfl
def xo(O:Option Addr)(J u:Nat)(U:Option Addr)(I G:Nat)(E:Option Addr)(M V:Nat)(B:Option Addr):pr g6 (l0 132 [(0,.slice O J u),(1,.slice U I G),(2,.slice E M V),(3,.pointer B)].toArray)=some (.agg [.slice O J u,.slice U I G,.slice E M V,.pointer B,hH 0].toArray):=by kernel_rfl
def JW(W:Int)(MW:ByteArray)(G:ByteArray)(Z:Option Addr)(I M4:Nat)(M5:Option Addr)(M6 V:Nat)(O:Int)(B:Int)(u:Int)(E:Int)(Y:Option Addr)(U M:Nat)(J:Option Addr)(n2 c2:Nat):pr g6 (l0 218 [(0,.agg [hH W,.string MW,.string G,.slice Z I M4,.slice M5 M6 V,hH O,hH B,hH u,hH E].toArray),(1,.slice Y U M),(2,.slice J n2 c2)].toArray)=some (.agg [hH W,.string MW,.string G,.slice Z I M4,.slice M5 M6 V,hH O,hH B,hH u,hH E,.slice Y U M,.slice J n2 c2,.bool false].toArray):=by kernel_rfl
structure oY where
 x:aZ
 body:SV
 eo:SV
 in_:Bool
instance:Flat oY where
 agg:=true
 sz:=12
 enc e:=[hH e.x.kind,.string e.x.eB,.string e.x.name,.slice e.x.e.a e.x.e.n e.x.e.cap,.slice e.x.f.a e.x.f.n e.x.f.cap,hH e.x.n,hH e.x.body,hH e.x.eo,hH e.x.at_,.slice e.body.a e.body.n e.body.cap,.slice e.eo.a e.eo.n e.eo.cap,.bool e.in_]
 val e:=.agg [hH e.x.kind,.string e.x.eB,.string e.x.name,.slice e.x.e.a e.x.e.n e.x.e.cap,.slice e.x.f.a e.x.f.n e.x.f.cap,hH e.x.n,hH e.x.body,hH e.x.eo,hH e.x.at_,.slice e.body.a e.body.n e.body.cap,.slice e.eo.a e.eo.n e.eo.cap,.bool e.in_].toArray
 pos:=cZ
 len _:=rfl
 one a v h:=by simp at h;rcases h with rfl|rfl|rfl|rfl|rfl|rfl|rfl|rfl|rfl|rfl|rfl|rfl<;>rfl
 ng _ _:=rfl
 nh h:=by cases h
variable (w:World) (K:Value->g7)
def S128(B:Value):Prop:=
 bS 130 0 [] w λa b=>o0 (λG I E c=>∀_:Env,
 lN 141 B λd=>bA .lss 3 E d λe=>cV e (iA 141 B E λf=>lA 193 f c λg=>aL 193 c λh j=>sA 193 h g j λk=>bB .add 3 E (i 1) λl=>fA 193 h 6 λn=>lA 3 n k λo=>
 bA .add 3 l o λp=>fA 193 h 7 λq=>lA 3 q k λr=>bA .add 3 p r λs=>lA 193 h (drew k) λt=>bB .add 3 E (i 1) λu=>eM g6 (nn 141 B (some u) (some p) none) λv=>
 eM g6 (nn 141 B (some p) (some s) none) λx=>eM g6 (l0 218 [(0,t),(1,v),(2,x)].toArray) λy=>bS 130 1 [(0,y)] (drew k) λz M=>
 aP 130 I z M λO J=>G O s J) (K I c)) (λG=>G a (i 0) b)
def ay2:dH:=λi=>match i with
 | 6=>.run 0 15
 | _=>.nil
theorem aeT(u:Value)(h:S128 w K u):CR 128 [u] w K:=
 qu 42 ay2 4 [.tmp 2] Tryz.func128 h
def S13(p0 M:Value):Prop:=
 rA g6 (yg 27 p0) w λp2 a=>lA 27 p2 a λb=>cF 57 [b] a λc d=>xT c 0 λe=>xT c 1 λ_=>bB .neq 31 e (i 0) λf=>cV f (K (.tuple #[(.pointer none),e]) d) (
 cF 58 [M] d λg h=>xT g 0 λ_=>xT g 1 λj=>bB .neq 31 j (i 0) λk=>cV k (K (.tuple #[(.pointer none),j]) h) (bS 41 0 [] h λl n=>o0 (λI E B o=>∀_:Env,
 lA 27 p2 o λp=>cF 59 [p] o λq r=>lN 23 q λs=>bA .lss 3 B s λt=>cV t (lA 27 p2 r λu=>cF 60 [u,B] r λv x=>bS 41 1 [(0,v)] x λy z=>aP 41 E y z λaa ab=>
 bB .add 3 B (i 1) λac=>I aa ac ab) (lA 27 p2 (drew r) λad=>lA 27 p2 (drew r) λJ=>cF 62 [ad] (drew r) λaf U=>kA 27 p2 J U (cF 63 [J] U λah Z=>cF 61 [E,af,ah] Z λV W=>
 xT V 0 λal=>xT V 1 λ_=>lA 27 p2 W λam=>eM g6 (l0 44 [(0,am),(1,M),(3,al)].toArray) λan=>rA g6 (yg 44 an) W λO Y=>
 fA 27 p2 3 λaq=>lA 24 aq Y λar=>cF 64 [O,ar] Y λ_ G=>K (.tuple #[O,(i 0)]) G))) λI=>I l (i 0) n))
def P13:dH:=λi=>match i with
 | 12=>(.of [(0,[]),(1,[]),(3,[]),(2,[3]),(4,[]),(5,[]),(6,[]),(7,[]),(8,[]),(9,[]),(10,[])])
 | _=>.nil
theorem ak5(p0 u:Value)(h:S13 w K p0 u):CR 13 [p0,u] w K:=
 qu 64 P13 48 [.tmp 4,.tmp 5] Tryz.func13 h
def ay3:dH:=λi=>match i with
 | 3=>.run 0 15
 | _=>.nil
def S129(B:Value):Prop:=
 Rl (λI a=>∀_:Env,
 nC B λb=>fA 132 b 0 λc=>lA 130 c a λd=>lN 130 d λe=>bB .gtr 3 e (i 0) λf=>cV f (nC B λg=>fA 132 g 0 λh=>lA 130 h a λj=>iA 130 j (i 0) λk=>lA 218 k a λl=>
 aL 218 a λG n=>sA 218 G l n λo=>fA 218 G 0 λp=>fA 193 p 3 λq=>lA 82 q o λr=>cF 203 [B,r] o λs t=>xT s 0 λu=>xT s 1 λv=>fA 218 G 0 λx=>fA 193 x 4 λy=>
 lA 82 y t λz=>cF 203 [B,z] t λZ ab=>xT Z 0 λ_=>xT Z 1 λac=>eR (λK2=>eM g6 (Op.unary .not v) λad=>cV ad (K2 tt ab) (eM g6 (Op.unary .not ac) λae=>
 K2 ae ab)) (λaf E=>∀_:Env,
 cV af (nC B λah=>fA 132 ah 4 λai=>sA 3 ai (i 2) E λaj=>K (.tuple #[]) aj) (fA 218 G 0 λak=>fA 193 ak 0 λal=>lA 3 al E λJ=>bB .eql 3 J (i 1) λan=>
 cV an (fA 218 G 0 λao=>fA 193 ao 1 λap=>lA 9 ap E λaq=>cF 204 [B,aq,u] E λ_ ar=>cF 171 [B,(.slice none 0 0)] ar λ_ Y=>I Y) (bB .eql 3 J (i 11) λau=>
 cV au (bB .neq 3 u (i 0) λav=>cV av (fA 218 G 1 λaw=>lA 141 aw E λax=>cF 128 [ax] E λay az=>cF 171 [B,ay] az λ_ a0=>I a0) (fA 218 G 2 λa1=>lA 141 a1 E λa2=>
 cF 128 [a2] E λa3 a4=>cF 171 [B,a3] a4 λ_ a5=>I a5)) (bB .eql 3 J (i 12) λa6=>cV a6 (bS 130 0 [] E λa7 O=>eR (λK3=>fA 218 G 0 λa9=>fA 193 a9 5 λba=>
 lA 3 ba O λbb=>bB .gtr 3 bb (i 0) λbc=>cV bc (lA 218 G O λbd=>aL 218 O λM be=>sA 218 M bd be λbf=>fA 218 G 0 λbg=>fA 193 bg 5 λbh=>lA 3 bh bf λbi=>
 bB .sub 3 bi (i 1) λbj=>fA 218 M 0 λbk=>fA 193 bk 5 λbl=>sA 3 bl bj bf λbm=>fA 218 M 3 λbn=>sA 4 bn tt bm λbo=>fA 218 G 1 λbp=>lA 141 bp bo λbq=>
 cF 128 [bq] bo λbr bs=>aP 130 a7 br bs λbt bu=>lA 218 M bu λbv=>bS 130 1 [(0,bv)] bu λbw bx=>aP 130 bt bw bx λbz b0=>K3 bz b0) (K3 a7 O)) (λl7 b1=>∀_:Env,
 cF 171 [B,l7] b1 λ_ b2=>I b2)) (bB .eql 3 J (i 13) λb3=>cV b3 (jQ (λW V b4=>∀_:Env,
 eR (λK5=>nC B λb5=>fA 132 b5 0 λb6=>lA 130 b6 b4 λb7=>lN 130 b7 λb8=>bA .lss 3 V b8 λb9=>cV b9 (nC B λca=>fA 132 ca 0 λcb=>lA 130 cb b4 λcc=>
 iA 130 cc V λcd=>fA 218 cd 3 λce=>lA 4 ce b4 λcf=>eM g6 (Op.unary .not cf) λcg=>K5 cg b4) (K5 ff b4)) (λch U=>∀_:Env,
 cV ch (bB .add 3 V (i 1) λcj=>W cj U) (nC B λck=>fA 132 ck 0 λcl=>lA 130 cl (drew U) λcm=>bB .add 3 V (i 1) λcn=>nC B λco=>fA 132 co 0 λcp=>lA 130 cp (drew U) λcq=>
 lN 130 cq λcr=>eM g6 (Builtin.min_ #[3,3] 3 [cn,cr].toArray) λcs=>eM g6 (nn 130 cm (some cs) none none) λct=>nC B λcu=>fA 132 cu 0 λcv=>
 sA 130 cv ct (drew U) λcw=>I cw))) λW=>W (i 0) E) (bB .eql 3 J (i 14) λcx=>cV cx (bB .eql 3 u (i 0) λcy=>cV cy (nC B λcz=>fA 132 cz 4 λc0=>sA 3 c0 (i 1) E λc1=>
 K (.tuple #[]) c1) (cF 171 [B,(.slice none 0 0)] E λ_ c2=>I c2)) (K (.tuple #[]) E)))))))) (K (.tuple #[]) a)) (λI=>I w)
def ay4:dH:=λi=>match i with
 | 27=>.run 0 17
 | _=>.nil
theorem aeU(u:Value)(h:S129 w K u):CR 129 [u] w K:=
 qu 148 ay4 0 [] Tryz.func129 h
def P80:dH:=λi=>match i with
 | 7=>.run 0 14
 | 8=>(.of [(0,[]),(1,[]),(2,[]),(3,[]),(4,[]),(5,[]),(6,[]),(7,[]),(8,[]),(9,[]),(10,[]),(11,[]),(12,[]),(13,[]),(14,[]),(15,[]),(16,[]),(17,[]),(18,[]),(19,[]),(20,[]),(21,[]),(23,[]),(24,[]),(22,[17,24]),(25,[17]),(26,[]),(27,[]),(28,[]),(29,[]),(30,[]),(31,[])])
 | _=>.nil
def S169(V I a E:Value):Prop:=
 rA g6 (yg 193 a) w λb c=>aL 56 c λd e=>fA 193 b 3 λf=>lA 82 f e λg=>cF 203 [I,g] e λh j=>xT h 0 λk=>xT h 1 λ_=>fA 193 b 4 λl=>lA 82 l j λn=>
 cF 203 [I,n] j λo p=>xT o 0 λq=>xT o 1 λ_=>nC I λs=>fA 132 s 3 λt=>lA 103 t p λu=>cF 229 [u,E] p λv x=>xT v 0 λy=>xT v 1 λz=>eR (λZ=>
 eM g6 (Op.unary .not z) λaa=>cV aa (nC V λab=>fA 44 ab 3 λac=>lA 40 ac x λad=>nC ad λae=>fA 122 ae 2 λaf=>lA 41 af x λag=>iA 41 ag E λah=>
 lA 3 ah x λai=>Z ai x) (Z y x)) (λB W=>∀_:Env,
 fA 193 b 1 λak=>lA 9 ak W λal=>cF 204 [I,al,B] W λ_ G=>fA 193 b 0 λan=>lA 3 an G λao=>bB .eql 3 ao (i 2) λap=>cV ap (cV z (eM g6 (l0 56 [(0,(i 2)),(2,E),(3,B)].toArray) λaq=>
 sA 56 d aq G λY=>lA 56 d Y λr=>K r Y) (eM g6 (l0 56 [(0,(i 1)),(2,E),(3,B)].toArray) λM=>sA 56 d M G λO=>lA 56 d O λKs=>K Ks O)) (
 bA .neq 3 B k λav=>cV av (eM g6 (l0 56 [(0,(i 9)),(2,E),(3,B)].toArray) λaw=>sA 56 d aw G λax=>lA 56 d ax λTU=>K TU ax) (nC V λay=>
 fA 44 ay 3 λaz=>lA 40 az G λa0=>cF 166 [a0,E,q] G λ_ a1=>eM g6 (l0 56 [(0,(i 8)),(2,E),(3,B),(4,q)].toArray) λa2=>sA 56 d a2 a1 λU=>
 lA 56 d U λJ=>K J U)))
theorem aeV(G E u B:Value)(h:S169 w K G E u B):CR 169 [G,E,u,B] w K:=
 qu 82 (λ_=>.nil) 256 [.cell 8 56] Tryz.func169 h
def S96(E M:Value):Prop:=
 aL 56 w λa b=>nC E λc=>fA 44 c 5 λd=>lA 42 d b λe=>iA 42 e M λf=>lA 129 f b λg=>nC g λh=>fA 132 h 4 λj=>lA 3 j b λk=>bB .neq 3 k (i 0) λl=>
 cV l (nC g λn=>fA 132 n 4 λo=>lA 3 o b λp=>cF 168 [E,M,p] b λq s=>sA 56 a q s λt=>lA 56 a t λr=>K r t) (nC g λu=>fA 132 u 0 λv=>lA 130 v b λx=>
 iA 130 x (i 0) λy=>fA 218 y 0 λz=>lA 193 z b λaa=>eM g6 (l0 56 [].toArray) λab=>aL 193 b λJ ad=>aL 56 ad λI ae=>sA 193 J aa ae λaf=>
 sA 56 I ab af λO=>nC E λah=>fA 44 ah 0 λai=>lA 27 ai (drew O) λaj=>fA 193 J 2 λak=>lA 9 ak (drew O) λal=>nC E λam=>fA 44 am 0 λan=>lA 27 an (drew O) λao=>
 fA 193 J 2 λZ=>lA 9 Z (drew O) λY=>cF 124 [aj] (drew O) λar G=>kA 9 ak al G (kA 27 an ao G (kA 9 Z Y G (cF 123 [ar,al] G λau av=>kA 27 an ao av (kA 9 Z Y av (
 cF 125 [ao] av λaw ax=>kA 9 Z Y ax (cF 123 [aw,Y] ax λW az=>yn (λU=>fA 193 J 0 λa0=>lA 3 a0 az λV=>eR (λK2=>bB .eql 3 V (i 2) λa2=>cV a2 (
 K2 a2 az) (bB .eql 3 V (i 4) λa3=>K2 a3 az)) (λa4 B=>∀_:Env,
 cV a4 (lA 193 J B λa6=>cF 169 [E,g,a6,au] B λa7 a8=>sA 56 I a7 a8 λa9=>U a9) (bB .eql 3 V (i 8) λba=>cV ba (fA 56 I 0 λbb=>sA 3 bb (i 7) B λbc=>
 U bc) (bB .eql 3 V (i 9) λbd=>cV bd (nC E λbe=>fA 44 be 4 λbf=>lA 41 bf B λbg=>iA 41 bg W λbh=>sA 3 bh M B λbi=>eM g6 (l0 56 [(0,(i 10)),(2,W)].toArray) λbj=>
 sA 56 I bj bi λbk=>U bk) (bB .eql 3 V (i 10) λbl=>cV bl (nC E λbm=>fA 44 bm 4 λbn=>lA 41 bn B λbo=>iA 41 bo W λbp=>lA 3 bp B λbq=>bA .neq 3 bq M λbr=>
 cV br (cF 168 [E,M,(i 3)] B λbs bt=>sA 56 a bs bt λbu=>lA 56 a bu λKs=>K Ks bu) (nC E λbv=>fA 44 bv 4 λbw=>lA 41 bw B λbx=>iA 41 bx W λbz=>sA 3 bz (i (-1)) B λb0=>
 eM g6 (l0 56 [(0,(i 11)),(2,W)].toArray) λb1=>sA 56 I b1 b0 λb2=>U b2)) (lA 193 J (drew B) λb3=>nC E λb4=>fA 44 b4 0 λb5=>lA 27 b5 (drew B) λb6=>
 cF 60 [b6,au] (drew B) λb7 b8=>kA 193 J b3 b8 (cF 170 [E,g,b3,au,b7] b8 λb9 ca=>sA 56 I b9 ca λcb=>U cb))))))) (λcc=>∀_:Env,
 fA 56 I 1 λcd=>sA 3 cd M cc λce=>cF 171 [g,(.slice none 0 0)] ce λ_ cf=>cF 129 [g] cf λ_ cg=>lA 56 I cg λch=>sA 56 a ch cg λci=>lA 56 a ci λTU=>K TU ci))))))))
def P96:dH:=λi=>match i with
 | 5=>(.of [(0,[]),(1,[]),(2,[]),(3,[]),(5,[]),(6,[]),(8,[]),(9,[]),(10,[]),(11,[]),(13,[]),(14,[]),(4,[6,11,14]),(7,[11,14]),(12,[14]),(15,[]),(16,[]),(17,[])])
 | 7=>(.of [(0,[]),(1,[]),(2,[]),(3,[]),(4,[]),(5,[]),(6,[]),(7,[]),(8,[]),(9,[2]),(10,[]),(11,[])])
 | _=>.nil
theorem ak6(B u:Value)(h:S96 w K B u):CR 96 [B,u] w K:=
 qu 117 P96 16 [.cell 4 56] Tryz.func96 h
def P95:dH:=λi=>match i with
 | 3=>.run 0 9
 | 7=>.run 0 7
 | _=>.nil
def P25:dH:=λi=>match i with
 | 2=>.run 0 12
 | 5=>.run 0 7
 | 15=>.run 0 34
 | _=>.nil
def S64(B V:Value):Prop:=
 nC B λa=>fA 44 a 5 λb=>sA 42 b (.slice none 0 0) w λc=>nC B λd=>fA 44 d 4 λe=>sA 41 e (.slice none 0 0) c λf=>jQ (λK1 i4 g=>∀_:Env,
 nC B λh=>fA 44 h 0 λj=>fA 27 j 2 λk=>lA 23 k g λl=>lN 23 l λn=>bA .lss 3 i4 n λo=>cV o (nC B λp=>fA 44 p 4 λq=>lA 41 q g λr=>bS 41 1 [(0,(i (-1)))] g λs t=>
 aP 41 r s t λu v=>nC B λx=>fA 44 x 4 λy=>sA 41 y u v λz=>bB .add 3 i4 (i 1) λaa=>K1 aa z) (jQ (λK2 M ab=>∀_:Env,
 lN 24 V λac=>bA .lss 3 M ac λad=>cV ad (yn (λK3=>nC B λae=>fA 44 ae 1 λaf=>lA 3 af ab λag=>cF 58 [ag] ab λah J=>xT ah 0 λaj=>xT ah 1 λ_=>
 eR (λK4=>iA 24 V M λak=>fA 146 ak 2 λal=>lA 141 al (drew J) λU=>iA 24 V M λan=>fA 146 an 1 λI=>lA 91 I (drew J) λG=>iA 24 V M λaq=>fA 146 aq 1 λY=>
 lA 91 Y (drew J) λE=>lN 91 E λO=>((cF 128 [U] (drew J) λav W=>kA 91 I G W (kA 91 Y E W (rA g6 (MX 41 O O) W λax ay=>kA 141 al U ay (
 kA 91 I G ay (eM g6 (l0 132 [(0,av),(1,G),(2,ax),(3,aj)].toArray) λaz=>rA g6 (yg 132 az) ay λa0 a1=>K4 a0 a1)))))
 /\((rA g6 (MX 41 O O) (drew J) λa2 a3=>kA 141 al U a3 (kA 91 I G a3 (cF 128 [U] a3 λa4 Z=>kA 91 I G Z (kA 91 Y E Z (eM g6 (l0 132 [(0,a4),(1,G),(2,a2),(3,aj)].toArray) λa6=>
 rA g6 (yg 132 a6) Z λa7 a8=>K4 a7 a8)))))
 /\
 True))) (λt8 a9=>∀_:Env,
 cF 129 [t8] a9 λ_ ba=>nC B λbb=>fA 44 bb 5 λbc=>lA 42 bc ba λbd=>bS 42 1 [(0,t8)] ba λbe bf=>aP 42 bd be bf λbg bh=>nC B λbi=>fA 44 bi 5 λbj=>sA 42 bj bg bh λbk=>
 K3 bk)) (λbl=>∀_:Env,
 bB .add 3 M (i 1) λbm=>K2 bm bl)) (K (.tuple #[]) ab)) λK2=>K2 (i 0) g)) (λK1=>K1 (i 0) f)
def P64:dH:=λi=>match i with
 | 10=>(.op 0 [] (.op 1 [] (.op 2 [] (.op 3 [] (.op 4 [] (.op 6 [] (.op 7 [] (.op 8 [] (.op 9 [] (.op 10 [] (.op 11 [] (.op 12 [] (.op 13 [] (.op 14 [] (.op 15 [] (.op 16 [] (.op 18 [] (.alt 5 [10,15] (.of [(17,[4,10]),(19,[]),(20,[]),(21,[])]) (.alt 17 [4,10] (.of [(5,[10,15]),(19,[]),(20,[]),(21,[])]) .stop)))))))))))))))))))
 | _=>.nil
theorem ak7(B u:Value)(h:S64 w K B u):CR 64 [B,u] w K:=
 qu 81 P64 0 [] Tryz.func64 h
theorem NJ:PL 128:=dG Tryz.func128
theorem ay5:PL 13:=dG Tryz.func13
theorem NK:PL 203:=dG Tryz.func203
theorem ahq:PL 204:=dG Tryz.func204
theorem HU:PL 171:=dG Tryz.func171
theorem ahr:PL 129:=dG Tryz.func129
theorem ay6:PL 80:=dG Tryz.func80
theorem ash:PL 22:=dG Tryz.func22
theorem ay7:PL 18:=dG Tryz.func18
theorem ahs:PL 168:=dG Tryz.func168
theorem asi:PL 170:=dG Tryz.func170
theorem asj:PL 169:=dG Tryz.func169
theorem ay8:PL 96:=dG Tryz.func96
theorem ay9:PL 95:=dG Tryz.func95
theorem aza:PL 25:=dG Tryz.func25
theorem asl:PL 64:=dG Tryz.func64
end Go.Proofs.YtpdlpabnlkofmaaGreatDoor
namespace Go.Proofs.YtpdlpabnlkofmaaGreatDoor
open Go.Fw
def FK{α:Type}[Flat α]{P:Program}{S:Nat->Prop}{Wd:g7}{w0:World}{xs:List α}{T E U:Nat}{z:Option Nat}{v:Value}{i:Int}{x:α}{K:Value->Prop}(ht:eI P T=some (E,l1 α,U,z))(h:∀w,Wd w->dz S w v xs)(M:Wd w0)(Z:0<=i)(u:xs[i.toNat]?=some x)
  (k:∀p,(∀w,Wd w->At S w p x)->K p):eM P (E4 T v (hH i)) K:=by
 obtain⟨a,cap,rfl,By,h3⟩:=h w0 M
 have nB:i.toNat<xs.length:=(ir.1 u).1
 rcases h3 with⟨rfl,_⟩|⟨b,o,rfl,h4,_⟩
 .simp at u
 obtain⟨J,Y,hi,W,_⟩:=fq ht
 refine⟨.pointer (some ⟨b,o+i.toNat*l1 α,none⟩),?_,k _ λw' G=>⟨b,_,rfl,h4 cH,λj c hj=>?_⟩⟩
 .unfold E4
  rw[cT]
  show pr P _=_
  simp only[asIntOf]
  have V:pr P (underlying T)=some (.slice E):=cS J
  have I:pr P (sizeOf E)=some (l1 α):=by rw[mE hi,W]
  simp only[cT,V,I,l2,fO]
  have O:0<=i/\i<(xs.length:Int):=⟨Z,bL⟩
  simp only[ee O,cT,I,l2,fO,gD]
 obtain⟨a',D2,B,_,h6⟩:=h w' G
 cases B
 rcases h6 with⟨rfl,_⟩|⟨b',o',B,_,h5⟩
 .simp at u
 cases B
 have:=h5 (i.toNat*l1 α+j) c (rD u hj)
 grind
def pb(ws:List mK)(m:Mem):Prop:=(∀n,m.fC n=(ws.filter λx=>decide (x.line=n)).map λx=>⟨x.cell,x.n⟩)/\∀x∈ws,0<=x.cell/\m.of[x.cell.toNat]?=some x.line
def gm(p:Nat)(m:Mem):HP:=pZ λq:Value×Value×Value×Value×Value=>pZ λws:List mK=>fact (pb ws m) (sep (bZ p [q.1,q.2.1,q.2.2.1,q.2.2.2.1,q.2.2.2.2]) (sep (bF q.1 m.of) (sep (bF q.2.1 m.dY) (sep (bF q.2.2.1 m.l) (sep (bF q.2.2.2.1 m.kept) (bF q.2.2.2.2 ws))))))
structure xp(w:World)(p:Nat)(m:Mem):Prop where
 ex:∃ov fv lv kv wv ws,pb ws m/\qx w p [ov,fv,lv,kv,wv]/\dz (λ_=>True) w ov m.of/\dz (λ_=>True) w fv m.dY/\dz (λ_=>True) w lv m.l/\dz (λ_=>True) w kv m.kept/\dz (λ_=>True) w wv ws
section
variable {w w0:World}{A:Nat->Prop}{R:List HP}{p:Nat}{m:Mem}{ov fv lv kv wv:Value}{ws:List mK}
theorem gm.shut(h:pb ws m)(u:St w0 A (bZ p [ov,fv,lv,kv,wv]::bF ov m.of::bF fv m.dY::bF lv m.l::bF kv m.kept::bF wv ws::R) w):St w0 A (gm p m::R) w:=by
 have h5:=St.join u.p5.p5
 have h4:=St.join h5.p4
 have h3:=St.join h4.p3
 have h2:=St.join h3.p2
 have h1:=St.join h2.p1
 exact St.er (ov,fv,lv,kv,wv) (St.er ws (St.nZ h h1))
theorem gm.open(u:St w0 A (gm p m::R) w):∃ov fv lv kv wv ws,pb ws m/\St w0 A (bZ p [ov,fv,lv,kv,wv]::bF ov m.of::bF fv m.dY::bF lv m.l::bF kv m.kept::bF wv ws::R) w:=by
 obtain⟨⟨ov,fv,lv,kv,wv⟩,u⟩:=u.ep;obtain⟨ws,u⟩:=u.ep;obtain⟨B,u⟩:=u.l6
 have h1:=u.split
 have h2:=h1.p1.split
 have h3:=h2.p1.split
 have h4:=h3.p1.split
 have h5:=h4.p1.split
 exact⟨ov,fv,lv,kv,wv,ws,B,h5.p2.p3.p4.p5⟩
end
def FL{w:World}{p:Nat}{m:Mem}(h:Has (gm p m) w):xp w p m:=by
 obtain⟨F,u⟩:=h.st
 obtain⟨ov,fv,lv,kv,wv,ws,B,u⟩:=gm.open u
 exact⟨ov,fv,lv,kv,wv,ws,B,u.hb,u.p1.dQ,u.p2.dQ,u.p3.dQ,u.p4.dQ,u.p5.dQ⟩
def FM{α β:Type}[Flat α][Flat β]{P:Program}{S:Nat->Prop}{Wd:g7}{w0:World}{T f u:Nat}{p:Value}{x:α}(y:β){K:Value->Prop}(ht:vY P T f u)(h:∀w,Wd w->At S w p x)(B:Wd w0)(O:(ia x)[u]?=some (hM y))(E:Flat.agg β=false)
  (k:∀q,(∀w,Wd w->At S w q y)->K q):eM P (Instr.fieldAt T p f) K:=by
 obtain⟨b,o,rfl,h2,_⟩:=h w0 B
 refine aA ht (k _ λw B=>?_)
 obtain⟨M,J,G,_,h3⟩:=h w B
 cases G
 refine⟨b,o+u,rfl,h2,λj c I=>?_⟩
 rw[Flat.nh E]at I
 grind
theorem aeW{l:List Int}{k:Nat}{e:Int}(u:0<k)(h:l[((k:Int)-1).toNat]?=some e):tj l k=e+1:=by
 unfold tj
 rw[eb bL,n0,show k-1=((k:Int)-1).toNat from bL,h];rfl
def aaA{of fi:List Int}{st:Int}:pb [] (Jt of st fi):=⟨λ_=>rfl,λx h=>by cases h⟩
def C61(of fi:List Int)(st:Int)(ov fv:Value)(w:World)(B:dz (λ_=>True) w ov of)(G:dz (λ_=>True) w fv fi)(hle:of.length=fi.length)(J7:of.length<=20)(iS:0<=st/\st<=of.length)(F3:∀(k:Nat) (n:Int),(k:Int)<st->of[k]?=some n->(n=tj of k\/(0<k/\n=tj of k-1))/\-10<=n/\n<=100):CR 61 [ov,hH st,fv] w (λv w'=>∃b,v=.tuple #[.pointer (some ⟨b,0,none⟩),hH 0]/\kZ (gm b (Jt of st fi)) w w'):=by
 have u:=St.start w;refine ahQ _ _ _ _ _ ?_;unfold S61;refine⟨_,?_,λ_ _ h=>h⟩;refine aH cQ (B.ext u.aF) (aH cQ (G.ext u.aF) (bT (fF (ej bL) (aH cQ (B.ext u.aF) (cP (fF (ej bL) (aO (fF (ej bL) (aH cQ (B.ext u.aF) (cP ?_))))))))));intro _;refine fF (ej bL) ?_;refine⟨λmm x w1=>∃k:Nat,x=hH (k:Int)/\mm=st.toNat-k/\(k:Int)<=st/\St w aY [] w1,⟨_,0,rfl,rfl,bL,u⟩,?_⟩;rintro mm _ _ ⟨k,rfl,rfl,hk,u⟩ _;refine aO (aC (λjU=>⟨_,aG (aC (λCw=>?_) λCw=>?_),λ_ _ h=>h⟩) λjU=>?_)
 .obtain⟨xc,vh⟩:=gx of (i:=(0:Int).toNat) bL;refine aM cQ B bL vh (λ_ wL=>have u:=u.drew;aE bO (wL.ext u.aF) ?_);have E:=F3 0 xc bL (by simpa using vh);have hw1:tj of 0=0:=rfl;refine bT (fF (ej bL) (cP (fF (ej bL) ?_)));intro xM;exact fa (aJ bL ⟨_,bL,k+1,rfl,rfl,bL,u⟩)
 .refine cP (lL (ei bL) ?_);obtain⟨aeX,FN⟩:=gx of (i:=(k:Int).toNat) bL;refine aM cQ B bL FN (λ_ aeY=>have u:=u.drew;aE bO (aeY.ext u.aF) (fk bL ?_));obtain⟨aub,FP⟩:=gx of (i:=((k:Int)-1).toNat) bL;refine aM cQ B bL FP (λ_ V=>aE bO (V.ext u.aF) ?_);have E:=F3 k aeX bL (by simpa using FN);rw[aeW bL FP]at E;refine bT (aC (λae0=>?_) λae0=>?_)
  .refine aM cQ B bL FN (λ_ U=>aE bO (U.ext u.aF) (fk bL (aM cQ B bL FP λ_ J=>aE bO (J.ext u.aF) (aJ bL (bT ?_)))));intro xM;exact fF (ej bL) (aJ bL ⟨_,bL,k+1,rfl,rfl,bL,u⟩)
  intro xM;exact fa (aJ bL ⟨_,bL,k+1,rfl,rfl,bL,u⟩)
 refine aW ([]:List Int) u cQ rfl rfl (dM rfl) (λs_x72 _ u=>j1 cQ (B.ext u.aF) bL bL λarY ak8=>?_);have ak9:=ak8 _ B;have ala:=(ak9.ext u.aF);refine bJ u cQ ala (by simp;omega) cZ (λs_x76 _ u=>aW ([]:List Int) u cQ rfl rfl (dM rfl) λO _ u=>?_);have Pt:=(G.ext u.aF);refine bJ u cQ Pt (by simp;omega) cZ (λaqi _ u=>?_);obtain⟨QS,rfl⟩:=u.p1.fQ;obtain⟨M,rfl⟩:=u.fQ;refine pop (OH _ _ _ _ _ _) (cJ (x:=(⟨QS,M,cI,cI,cI⟩:RX)) u λb_x81 _ u=>aW ([]:List Int) u cQ rfl rfl (dM rfl) λag0 _ u=>?_)
 have W:=(G.ext u.aF);refine bJ u cQ W (by simp;omega) cZ (λs_x85 _ u=>aD (aA wh ?_));obtain⟨I,rfl⟩:=u.fQ;refine aV u.p1 eP (dM rfl) (rfl) (λ_ u=>have u:=u.enc (cs':=ia (⟨QS,M,I,cI,cI⟩:RX)) rfl;aW ([]:List Int) u cQ rfl rfl (dM rfl) λs_x89 _ u=>j1 cQ (G.ext u.aF) bL bL λs_x92 Z=>?_);have Y:=Z _ G;have ale:=(Y.ext u.aF);refine bJ u cQ ale (by simp;omega) cZ (λs_x93 _ u=>aD (aA Ac ?_));obtain⟨alf,rfl⟩:=u.fQ;refine aV u.p1 eP (dM rfl) (rfl) (λ_ u=>?_)
 have u:=(((u.enc (cs':=ia (⟨QS,M,I,alf,cI⟩:RX)) rfl).p1).p2).p3;have u:=u.p4.p4;simp only[List.nil_append]at u;have u:=(u.eW (α:=mK)).p5.p5.p5.p5.p5;exact⟨_,rfl,(gm.shut (m:=Jt of st fi) aaA u).fresh⟩
end Go.Proofs.YtpdlpabnlkofmaaGreatDoor

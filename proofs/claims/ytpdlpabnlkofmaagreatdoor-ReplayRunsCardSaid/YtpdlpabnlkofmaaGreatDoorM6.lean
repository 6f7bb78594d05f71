/-
  Part 6.
-/
import Derived.Test.YtpdlpabnlkofmaaGreatDoorM5
set_option maxHeartbeats 8000000
set_option linter.all false
set_option maxRecDepth 100000
namespace Go.Proofs.YtpdlpabnlkofmaaGreatDoor
open Go.Fw
theorem YV{l:List bR}{i:Int}{R:List bX×Int×Int×Int}(h:vL l i=some R)(hi:¬ i<0):∃x,Hm l 10000 i 0 0=some x/\
  (if x.e≠0 then some ([],0,x.e,x.at_)else match yP x.l,l[i.toNat]? with
  | some t,some k=>if x.l.length<=10000 then(if 12<t.depth then some ([],0,7,k.at_)else if 40<x.l.length then some ([],0,2,k.at_)else some (x.l,x.to,0,0))else none
  | _,_=>none)=some R:=by
 unfold vL at h;rw[if_neg hi]at h
 cases hx:Hm l 10000 i 0 0 with
 | none=>grind
 | some x=>grind
theorem Pv{x:fH}{o:Option bR}{R:List bX×Int×Int×Int}(h:(match yP x.l,o with
  | some t,some k=>if x.l.length<=10000 then(if 12<t.depth then some ([],0,7,k.at_)else if 40<x.l.length then some ([],0,2,k.at_)else some (x.l,x.to,0,0))else none
  | _,_=>none)=some R):∃t k,yP x.l=some t/\o=some k/\x.l.length<=10000/\(if 12<t.depth then some ([],0,7,k.at_)else if 40<x.l.length then some ([],0,2,k.at_)else some (x.l,x.to,0,0))=some R:=by
 grind
theorem C258(l:List bR)(j:Nat)(lv:Value)(i d n:Int)(r:fH)(w:World)(hL:dC (λ _=>True) w lv l)(hk:jb l)(HR:ai9 l (Hm l j))(h0:0<=i/\i<=l.length)(hd:0<=d/\d<=12)(hnn:0<=n/\n<=5)(hr:Hm l (j+1) i d n=some r):CR 258 [lv,.int .i64 i,.int .i64 d,.int .i64 n] w (λ v w'=>∃sh:dS,v=Flat.val sh/\lL (fk (λ w=>Deep.dr w sh r)) w w'):=by
 have C5:=hk.n;have hn:l.length<=1000000:=by omega
 have rZ:=hk.at_;have hs:=St.start w;refine abm _ _ _ _ _ _ ?_;unfold S258;refine aM hs td (λ S7 _ hs=>have hs:=hs.enc (cs':=Flat.enc (⟨cH,0,0,0⟩:dS)) rfl;aH (aC (λ ji=>?_) (λ ji=>?_)))
 ·refine dN ae9 (C294 l (Hm l j) _ i d r _ (hL.ext hs.aF) hk HR h0 hd (agq (by rw[ji]at hr;exact hr))) ?_;rintro _ _ ⟨ajc,rfl,cO⟩;have hs:=hs.made cO;obtain⟨AL,Ps,_⟩:=(hs).fk;subst Ps;refine aJ (x:=(⟨AL,(r).to,(r).e,(r).at_⟩:dS)) hs.p1 fR rfl rfl (λ _ hs=>aE fR hs.At ?_);have hR:r=(⟨(r).l,(r).to,(r).e,(r).at_⟩:fH):=rfl;rw[hR];have hs:=hs.p1.dU (Ψ:=(λ w=>Deep.dr w (⟨AL,(r).to,(r).e,(r).at_⟩:dS) (⟨(r).l,(r).to,(r).e,(r).at_⟩:fH))) (λ _ h=>⟨_,rfl,lf (h)⟩);have hs:=(hs.p1).drop;exact⟨_,rfl,hs.fresh⟩
 obtain⟨x1,hx1,axg⟩:=aqq hr ji;refine aK (by omega) (dN QL ((HR _ i d (n+1) x1 _ (hL.ext hs.aF) hx1 h0 hd (by omega)).1) ?_);rintro _ _ ⟨axh,rfl,cO⟩;have hs:=hs.made cO;obtain⟨Jf,aju,_⟩:=(hs).fk;subst aju;refine aM hs td (λ Bp _ hs=>have hs:=hs.enc (cs':=Flat.enc (⟨cH,0,0,0⟩:dS)) rfl;aJ (x:=(⟨Jf,(x1).to,(x1).e,(x1).at_⟩:dS)) hs fR rfl rfl (λ _ hs=>?_));have hs:=hs.p2.p2.p2.p1.dU (Ψ:=λ w=>DL w (Flat.val Jf) (x1).l) (λ _ h=>lf h);have hs:=hs.p2.p1.p2;refine⟨λ mm w'=>∃(x:fH) (g:SV),vK (Hm l j) l d n mm x=some r/\St w aY [bY Bp (Flat.enc (⟨g,(x).to,(x).e,(x).at_⟩:dS)),fk (λ w=>DL w (Flat.val g) (x).l),bY S7 (Flat.enc (⟨cH,0,0,0⟩:dS))] w',⟨j,x1,Jf,axg,hs⟩,?_⟩
 rintro mm _ ⟨x,g,hlp,hs⟩ _;obtain⟨j2,rfl⟩:=Pq hlp;refine aA uj (aB (v:=.int .i64 (x).e) jD hs.hb rfl (aH (aC (λ LP=>?_) (λ LP=>?_))))
 ·have hs:=hs.p2.p2.p2;refine⟨λ mm o kk w'=>∃k:Nat,o=.int .i64 (E8 l x.to n k)/\kk=.int .i64 (k:Int)/\mm=(qI n).length-k/\k<=(qI n).length/\St w aY [bY Bp (Flat.enc (⟨g,(x).to,(x).e,(x).at_⟩:dS)),fk (λ w=>DL w (Flat.val g) (x).l),bY S7 (Flat.enc (⟨cH,0,0,0⟩:dS))] w',⟨_,0,rfl,rfl,rfl,Nat.zero_le _,hs⟩,?_⟩;rintro mm _ _ _ ⟨k,rfl,rfl,rfl,FJ,hs⟩ _;have hfl4:=Pr n;refine ek Vq hs (C295 n _ (by omega)) (λ x31 _ cO hs=>aI cM (hs).dX (aQ (aC (λ yt=>⟨λ jv w'=>jv=.int .i64 (E8 l x.to n (k+1))/\St w aY [bY Bp (Flat.enc (⟨g,(x).to,(x).e,(x).at_⟩:dS)),fk (λ w=>DL w (Flat.val g) (x).l),bY S7 (Flat.enc (⟨cH,0,0,0⟩:dS))] w',?_,?_⟩) (λ yt=>?_))))
  ·refine aA oH (have hs:=hs.drew;aB (v:=.int .i64 (x).to) bL hs.p1.hb rfl (ek Vq hs (C295 n _ (by omega)) (λ x40 _ cO hs=>?_)));refine⟨aG bL (hs.p2.hb.cell rfl),?_⟩;obtain⟨Hn,vn⟩:=gx ((qI n)) (i:=((k:Int)).toNat) (by omega);refine dM hs cM (by omega) (by omega) (λ _ YW=>gD hs bL YW vn ?_);have hfb:=YS vn;refine aT amy hs (C296 Hn _ (by omega)) (λ _ he hs=>?_);refine⟨aG bL (hs.p2.hb.cell rfl),?_⟩;exact aT vx hs (C209 _ l (x).to (MA Hn) _ (hL.ext hs.aF) hn) (λ _ _ hs=>aW (λ LB=>ek Vq hs (C295 n _ (by omega)) (λ _ _ _ hs=>dM hs cM (by omega) (by omega) (λ _ Ly=>gD hs bL Ly vn (have hs:=(((((((hs.drop)).drop)).drop).p2).p2).p2;⟨by rw[Hl (k:=k) vn,if_pos LB]<;>rfl,hs⟩)))) (λ LB=>have hs:=(((((hs.drop)).drop).p2).p2).p2;⟨by rw[Hl (k:=k) vn,if_neg (by simpa using LB)]<;>rfl,hs⟩))
  ·rintro _ _ ⟨rfl,hs⟩ _;exact aK (by omega) ⟨_,by omega,k+1,rfl,rfl,rfl,by omega,hs⟩
  have j1:E8 l x.to n k=Jd l x.to n:=by unfold Jd;rw[show k=(qI n).length from by omega]
  refine aH (aC (λ vG=>?_) (λ vG=>?_))
  ·refine aE fR hs.p1.At (aJ (x:=(⟨g,(x).to,(x).e,(x).at_⟩:dS)) hs.p3 fR rfl rfl (λ _ hs=>aE fR hs.At ?_));have hR:r=(⟨(x).l,(x).to,(x).e,(x).at_⟩:fH):=YT (x:=x) hlp (by omega) (by rw[<- j1];exact vG);rw[hR];have hs:=hs.p3.dU (Ψ:=(λ w=>Deep.dr w (⟨g,(x).to,(x).e,(x).at_⟩:dS) (⟨(x).l,(x).to,(x).e,(x).at_⟩:fH))) (λ _ h=>⟨_,rfl,id (h)⟩);have hs:=(((hs.p1.drop.p1).drop).p1).drop;exact⟨_,rfl,hs.fresh⟩
  obtain⟨t,y,h0t,ht,hy,hye,hyn⟩:=YU hlp (by omega) (by rw[<- j1];exact vG);have Nv:=(List.getElem?_eq_some_iff.1 ht).1;refine aA oH (aB (v:=.int .i64 (x).to) bL hs.p1.hb rfl (aK (by omega) (aK (by omega) (dN QL ((HR _ (x.to+1) d (n+1) y _ (hL.ext hs.aF) hy (by omega) hd (by omega)).1) ?_))));rintro _ _ ⟨axj,rfl,cO⟩;have hs:=hs.made cO;obtain⟨Dd,ajw,_⟩:=(hs).fk;subst ajw;refine aM hs td (λ b_y12 _ hs=>have hs:=hs.enc (cs':=Flat.enc (⟨cH,0,0,0⟩:dS)) rfl;aJ (x:=(⟨Dd,(y).to,(y).e,(y).at_⟩:dS)) hs fR rfl rfl (λ _ hs=>aA uj (aB (v:=.int .i64 (y).e) jD hs.hb rfl (bV (aC (λ uE=>?_) (λ uE=>?_))))))
  ·refine aE fR hs.At (aJ (x:=(⟨Dd,(y).to,(y).e,(y).at_⟩:dS)) hs.p5 fR rfl rfl (λ _ hs=>aE fR hs.At ?_));have hR:r=(⟨(y).l,(y).to,(y).e,(y).at_⟩:fH):=hye uE;rw[hR];have hs:=hs.p2.dU (Ψ:=(λ w=>Deep.dr w (⟨Dd,(y).to,(y).e,(y).at_⟩:dS) (⟨(y).l,(y).to,(y).e,(y).at_⟩:fH))) (λ _ h=>⟨_,rfl,lf (h)⟩);have hs:=(((((hs.p1.drop.p1.drop.p1).drop).p1).drop).p1).drop;exact⟨_,rfl,hs.fresh⟩
  refine aA oH (aB (v:=.int .i64 (x).to) bL hs.p3.hb rfl (aO fG (hL.ext hs.aF) (by omega) ht (λ _ Xu=>bW (t).at_ lu Xu rfl rfl (λ _ aqt=>aE bL (aqt) (pop (DJ _ _) (aX ([(⟨(E8 l x.to n k),0,(ByteArray.mk #[]),(t).at_⟩:bX)]) hs gN rfl rfl (dI rfl) (λ aqu _ hs=>aA rP (aB (v:=Flat.val (g:SV)) jo hs.p4.hb rfl ?_))))))));have Cy:=(hyn (by omega)).1;have ajx:=(DL.flat (id (hs.p5).fk));refine bI hs gN ajx (by simp;omega) (by decide) (λ ao3 _ hs=>aA rP (aB (v:=Flat.val (Dd:SV)) jo hs.p1.hb rfl ?_));have ajy:=(DL.flat (lf (hs.p2).fk))
  refine bI hs gN ajy (by simp;omega) (by decide) (λ s_x82 _ hs=>aA oH (aB (v:=.int .i64 (y).to) bL hs.p1.hb rfl ?_));obtain⟨E9,rfl⟩:=(hs).fC;refine pop (yJ _ _ _ _) (aJ (x:=(⟨E9,(y).to,0,0⟩:dS)) hs.p4 fR rfl rfl (λ _ hs=>aH (aC (λ ED=>?_) (λ ED=>?_))))
  ·refine aE fR hs.At (aJ (x:=(⟨E9,(y).to,0,0⟩:dS)) hs.p6 fR rfl rfl (λ _ hs=>aE fR hs.At ?_));have hR:r=(⟨(([(⟨(E8 l x.to n k),0,(ByteArray.mk #[]),(t).at_⟩:bX)]++(x).l)++(y).l),(y).to,0,0⟩:fH):=((hyn (by omega)).2.1 ED).trans (by rw[<- j1]);rw[hR];have hs:=hs.p2.freeze.dU (Ψ:=(λ w=>Deep.dr w (⟨E9,(y).to,0,0⟩:dS) (⟨(([(⟨(E8 l x.to n k),0,(ByteArray.mk #[]),(t).at_⟩:bX)]++(x).l)++(y).l),(y).to,0,0⟩:fH))) (λ _ h=>⟨_,rfl,DL.j3 h⟩);have hs:=((((((hs.p1.drop.p1.drop.p1.drop).p1).drop).p1).drop).p1).drop;exact⟨_,rfl,hs.fresh⟩
  have hs:=hs.p1.freeze.dU (Ψ:=λ w=>DL w (Flat.val E9) ([(⟨E8 l x.to n k,0,ByteArray.mk #[],t.at_⟩:bX)]++x.l++y.l)) (λ _ h=>DL.j3 h);have hs:=((((hs.p2.drop.p2.drop.p2.drop.p2).drop).p2).p1).p2;have hnx:=(hyn (by omega)).2.2 ED;rw[<- j1]at hnx;exact⟨_,by omega,⟨_,_,_,_⟩,E9,hnx,hs⟩
 refine aE fR hs.At (aJ (x:=(⟨g,(x).to,(x).e,(x).at_⟩:dS)) hs.p2 fR rfl rfl (λ _ hs=>aE fR hs.At ?_));have hR:r=(⟨(x).l,(x).to,(x).e,(x).at_⟩:fH):=adD (x:=x) hlp (by omega);rw[hR];have hs:=hs.p2.dU (Ψ:=(λ w=>Deep.dr w (⟨g,(x).to,(x).e,(x).at_⟩:dS) (⟨(x).l,(x).to,(x).e,(x).at_⟩:fH))) (λ _ h=>⟨_,rfl,id (h)⟩);have hs:=((hs.p1.drop).p1).drop;exact⟨_,rfl,hs.fresh⟩
theorem ajz{l:List bR}(hk:jb l):∀j,ai9 l (Hm l j)
 | 0=>λ lv i d n r w hL hr=>by cases hr
 | j+1=>λ lv i d n r w hL hr h0 hd hn=>⟨C258 l j lv i d n r w hL hk (ajz hk j) h0 hd hn hr,λ h5=>by subst h5;exact C294 l (Hm l j) lv i d r w hL hk (ajz hk j) h0 hd (agq hr)⟩
theorem C213(l:List bR)(lv:Value)(i:Int)(R:List bX×Int×Int×Int)(w:World)(hL:dC (λ _=>True) w lv l)(hk:jb l)(hil:i<=l.length)(hr:vL l i=some R):CR 213 [lv,.int .i64 i] w (λ v w'=>∃sv:SV,v=.tuple #[Flat.val sv,.int .i64 R.2.1,.int .i64 R.2.2.1,.int .i64 R.2.2.2]/\lL (fk (λ w=>DL w (Flat.val sv) R.1)) w w'):=by
 have C5:=hk.n;have hn:l.length<=1000000:=by omega
 have rZ:=hk.at_;have hs:=St.start w;refine oY Tryz.func213 (pl:=atO) ?_;refine aQ (aC (λ gL=>?_) (λ gL=>?_))
 ·have hR:R=([],0,1,0):=by
   unfold vL at hr;rw[if_pos gL]at hr;exact(Option.some.inj hr).symm
  rw[hR];exact⟨cH,rfl,(hs.fT (Φ:=λ w=>DL w (Flat.val (cH:SV)) ([]:List bX)) λ w=>DL.nil w).fresh⟩
 obtain⟨x,hx,FI⟩:=YV hr (by omega);refine dN QL ((ajz hk 10000 _ i 0 0 x _ (hL.ext hs.aF) hx (by omega) (by omega) (by omega)).1) ?_;rintro _ _ ⟨axk,rfl,cO⟩;have hs:=hs.made cO;obtain⟨xL,ajA,_⟩:=(hs).fk;subst ajA;refine aM hs td (λ S7 _ hs=>have hs:=hs.enc (cs':=Flat.enc (⟨cH,0,0,0⟩:dS)) rfl;aJ (x:=(⟨xL,(x).to,(x).e,(x).at_⟩:dS)) hs fR rfl rfl (λ _ hs=>aA uj (aB (v:=.int .i64 (x).e) jD hs.hb rfl (bV (aC (λ dO=>?_) (λ dO=>?_))))))
 ·refine aA uj (have hs:=hs.drew;aB (v:=.int .i64 (x).e) jD hs.hb rfl (aA VL (aB (v:=.int .i64 (x).at_) bL hs.hb rfl ?_)))
  have hR:R=([],0,x.e,x.at_):=by
   rw[if_pos dO]at FI;exact(Option.some.inj FI).symm
  rw[hR];exact⟨cH,rfl,(hs.fT (Φ:=λ w=>DL w (Flat.val (cH:SV)) ([]:List bX)) λ w=>DL.nil w).fresh⟩
 rw[if_neg dO]at FI;obtain⟨tr,tk,htr,GV,hxl,Pw⟩:=Pv FI;have htki:=(List.getElem?_eq_some_iff.1 GV).1;obtain⟨hwf,sS⟩:=vc htr;have hAt:A5 x.l 0 tr:=⟨by omega,hwf,[],by simpa using sS⟩;refine aA rP (aB (v:=Flat.val (xL:SV)) jo hs.hb rfl (aT Vm hs (C252 _ x.l 0 tr (tr.size+1) _ (DL.flat (lf (hs.p1).fk)) (by omega) hAt (by omega)) (λ _ he hs=>cP (aC (λ nD=>?_) (λ nD=>aA rP (aB (v:=Flat.val (xL:SV)) jo hs.hb rfl (aI gN (DL.flat (lf (hs.p1).fk)) (cP (aC (λ yt=>?_) (λ yt=>?_))))))))))
 ·refine aO fG (hL.ext hs.aF) (by omega) GV (λ _ ux=>bW (tk).at_ lu ux rfl rfl (λ _ Eh=>have hs:=hs.drew;aE bL (Eh) ?_))
  have hR:R=([],0,7,tk.at_):=by
   rw[if_pos nD]at Pw;exact(Option.some.inj Pw).symm
  rw[hR];exact⟨cH,rfl,(hs.fT (Φ:=λ w=>DL w (Flat.val (cH:SV)) ([]:List bX)) λ w=>DL.nil w).fresh⟩
 ·refine aO fG (hL.ext hs.aF) (by omega) GV (λ _ D9=>bW (tk).at_ lu D9 rfl rfl (λ _ Ap=>have hs:=hs.drew;aE bL (Ap) ?_))
  have hR:R=([],0,2,tk.at_):=by
   rw[if_neg nD,if_pos (by omega)]at Pw;exact(Option.some.inj Pw).symm
  rw[hR];exact⟨cH,rfl,(hs.fT (Φ:=λ w=>DL w (Flat.val (cH:SV)) ([]:List bX)) λ w=>DL.nil w).fresh⟩
 refine aA rP (have hs:=hs.drew;aB (v:=Flat.val (xL:SV)) jo hs.hb rfl (aA oH (aB (v:=.int .i64 (x).to) bL hs.hb rfl ?_)));have hs:=hs.p1.dU (Ψ:=λ w=>DL w (Flat.val xL) x.l) (λ _ h=>lf h)
 have hR:R=(x.l,x.to,0,0):=by
  rw[if_neg nD,if_neg (by omega)]at Pw;exact(Option.some.inj Pw).symm
 rw[hR];exact⟨xL,rfl,hs.fresh⟩
structure fK where
 at_:Int
 e:Int
 pos:Int
deriving DecidableEq
def js(l:List bR)(s:fK)(e:Int):fK:=if s.e=0 then {s with e:=if (l.length:Int)<=s.at_ then 6 else e,pos:=nd l s.at_}else s
def dQ(l:List bR)(s:fK)(t:ByteArray):fK:=if (decide (s.e=0)&&tz l s.at_ t)=true then {s with at_:=s.at_+1}else js l s 5
def lJ(l:List bR)(i:Int):Option bR:=if 0<=i then l[i.toNat]? else none
def tA(l:List bR)(s:fK):Bool:=decide (s.e=0)&&(match lJ l s.at_ with|some t=>decide (t.kind=1)&&gB t.text|none=>false)
def pe(l:List bR)(i:Int):bR:=(lJ l i).getD ⟨0,⟨#[]⟩,0,0⟩
def dy(l:List bR)(s:fK):fK×ByteArray:=if tA l s=true then({s with at_:=s.at_+1},(pe l s.at_).text)else(js l s 5,⟨#[]⟩)
def qT(l:List bR)(s:fK):Option (fK×List bX):=if s.e≠0 then some (s,[])else(vL l s.at_).bind λ R=>
 if R.2.2.1≠0 then some ({s with e:=R.2.2.1,pos:=R.2.2.2},[])else if 0<=R.2.1/\R.2.1<=l.length then some ({s with at_:=R.2.1},R.1)else none
def Px(l:List bR)(s:fK):Bool:=decide (s.e=0)&&(match lJ l s.at_ with|some t=>decide (t.kind=2)|none=>false)
def kL(l:List bR)(s:fK):fK×Int:=if Px l s=true then(if 1<=(pe l s.at_).n/\(pe l s.at_).n<=8 then({s with at_:=s.at_+1},(pe l s.at_).n)else(js l s 11,0))else(js l s 5,0)
def De:List ByteArray:=[⟨#[]⟩,⟨#[]⟩,⟨#[108,111,97,100]⟩,⟨#[115,116,111,114,101]⟩,⟨#[99,97,115]⟩,⟨#[102,108,117,115,104]⟩,⟨#[111,112,116]⟩,⟨#[115,102,101,110,99,101]⟩,⟨#[109,102,101,110,99,101]⟩,⟨#[116,97,107,101]⟩,⟨#[103,105,118,101]⟩,⟨#[105,102]⟩,⟨#[108,111,111,112]⟩,⟨#[98,114,101,97,107]⟩,⟨#[99,104,101,99,107]⟩]
def Ho(k:Int):ByteArray:=(De[k.toNat]?).getD ⟨#[]⟩
def lg(l:List bR)(s:fK):Prop:=0<=s.at_/\s.at_<=l.length
section
variable {l:List bR}{s:fK}{e:Int}{t:ByteArray}
theorem tB(h:lg l s):lg l (js l s e):=by unfold js;split<;>exact h
theorem fD(h:lg l s):lg l (dQ l s t):=by
 unfold dQ;split
 ·rename_i h2
  rw[Bool.and_eq_true]at h2
  have:=sB h2.2
  exact⟨by grind,by grind⟩
 exact tB h
theorem mF{i:Int}{k:bR}(h:lJ l i=some k):0<=i/\i<l.length/\l[i.toNat]?=some k:=by
 unfold lJ at h
 grind
theorem AM(h:tA l s=true):s.e=0/\∃k,lJ l s.at_=some k/\k.kind=1/\gB k.text=true:=by
 unfold tA at h
 grind
theorem Sh(h:Px l s=true):s.e=0/\∃k,lJ l s.at_=some k/\k.kind=2:=by
 unfold Px at h
 grind
theorem gC(h:lg l s):lg l (dy l s).1:=by
 unfold dy;split
 ·rename_i h2
  obtain⟨_,k,hk,_⟩:=AM h2
  have:=mF hk
  exact⟨by grind,by grind⟩
 exact tB h
theorem T1(h:lg l s):lg l (kL l s).1:=by
 unfold kL;split
 ·rename_i h2
  obtain⟨_,k,hk,_⟩:=Sh h2
  have:=mF hk
  split
  ·exact⟨by grind,by grind⟩
  exact tB h
 exact tB h
theorem sC{s':fK}{x:List bX}(h:lg l s)(he:qT l s=some (s',x)):lg l s':=by
 unfold qT at he
 split at he
 ·grind
 cases hx:vL l s.at_ with
 | none=>grind
 | some R=>
  grind[lg]
end
@[reducible] def ef(lv ov:Value)(s:fK):List Value:=[lv,.int .i64 s.at_,.int .i64 s.e,.int .i64 s.pos,ov]
@[reducible] def ey(lv:Value)(s:fK):List Value:=[lv,.int .i64 s.at_,.int .i64 s.e,.int .i64 s.pos]
def iu(l:List bR)(s:fK)(t:ByteArray):fK×Bool:=if (decide (s.e=0)&&tz l s.at_ t)=true then({s with at_:=s.at_+1},true)else(s,false)
def eW(l:List bR)(s:fK):fK×cJ:=if tA l s=true then({s with at_:=s.at_+1},⟨(pe l s.at_).text,0,(pe l s.at_).at_⟩)else(js l s 5,⟨⟨#[]⟩,0,0⟩)
theorem ke{l:List bR}{s:fK}{t:ByteArray}(h:lg l s):lg l (iu l s t).1:=by
 unfold iu;split
 ·rename_i h2
  rw[Bool.and_eq_true]at h2
  have:=sB h2.2
  exact⟨by grind,by grind⟩
 exact h
theorem uK{l:List bR}{s:fK}(h:lg l s):lg l (eW l s).1:=by
 unfold eW;split
 ·rename_i h2
  obtain⟨_,k,hk,_⟩:=AM h2
  have:=mF hk
  exact⟨by grind,by grind⟩
 exact tB h
theorem YX{l:List bR}{s s2:fK}{x:List bX}(h:qT l s=some (s2,x))(he:¬ s.e≠0):∃R,vL l s.at_=some R/\
  (if R.2.2.1≠0 then some ({s with e:=R.2.2.1,pos:=R.2.2.2},[])else if 0<=R.2.1/\R.2.1<=l.length then some ({s with at_:=R.2.1},R.1)else none)=some (s2,x):=by
 unfold qT at h;rw[if_neg he]at h
 cases hx:vL l s.at_ with
 | none=>grind
 | some R=>grind
theorem YY{l:List bR}{s s2:fK}{x:List bX}{R:List bX×Int×Int×Int}(h:(if R.2.2.1≠0 then some ({s with e:=R.2.2.1,pos:=R.2.2.2},[])else if 0<=R.2.1/\R.2.1<=l.length then some ({s with at_:=R.2.1},R.1)else none)=some (s2,x))(he:¬ R.2.2.1≠0):0<=R.2.1/\R.2.1<=l.length:=by
 grind
theorem C291(p:Nat)(lv ov:Value)(l:List bR)(s:fK)(e:Int)(F:Nat->Prop)(w:World)(hF:(bY p (ef lv ov s)).p w F)(hT:∀w',gq F w w'->dC (λ _=>True) w' lv l)(hk:jb l)(h0:lg l s):CR 291 [(.pointer (some ⟨p,0,none⟩)),.int .i64 e] w (λ v w'=>v=.tuple #[]/\mL F (bY p (ef lv ov (js l s e))) w w'):=by
 have hs:=St.begin hF;have C5:=hk.n;have hn:l.length<=1000000:=by omega
 have rZ:=hk.at_;obtain⟨Si,Sj⟩:=id h0;refine oY Tryz.func291 (pl:=at4) ?_;refine aD (aA kC (aB jD hs.hb rfl (aH (aC (λ fL=>aD (aA kC (aS hs jD (dI rfl) (rfl) (λ _ hs=>⟨_,aD (aA eV (have hs:=hs.drew;aB bL hs.hb rfl (aD (aA ix (aB jg hs.hb rfl (aI fG (hT _ hs.aF) (cS (aC (λ iF=>?_) (λ iF=>?_))))))))),λ _ h=>h⟩)))) (λ fL=>?_)))))
 ·refine aD (aA kC (aS hs jD (dI rfl) (rfl) (λ _ hs=>?_)));intro sK;refine aD (aA ix (have hs:=hs.drew;aB jg hs.hb rfl (aD (aA eV (aB bL hs.hb rfl (aT Gp hs (C214 _ l s.at_ _ (hT _ hs.aF) hn rZ) (λ w4 he hs=>aD (aA zY (aS hs bL (dI rfl) (rfl) (λ w5 hs=>?_))))))))));have hb:js l s e=(⟨s.at_,6,(nd l s.at_)⟩:fK):=by unfold js;rw[if_pos fL,if_pos iF]
  rw[hb];exact⟨rfl,hs.mut⟩
 ·intro sK;refine aD (aA ix (have hs:=hs.drew;aB jg hs.hb rfl (aD (aA eV (aB bL hs.hb rfl (aT Gp hs (C214 _ l s.at_ _ (hT _ hs.aF) hn rZ) (λ w4 he hs=>aD (aA zY (aS hs bL (dI rfl) (rfl) (λ w5 hs=>?_))))))))));have hb:js l s e=(⟨s.at_,e,(nd l s.at_)⟩:fK):=by unfold js;rw[if_pos fL,if_neg iF]
  rw[hb];exact⟨rfl,hs.mut⟩
 have hb:js l s e=s:=by unfold js;rw[if_neg fL]
 rw[hb];exact⟨rfl,hs.mut⟩
theorem C136(p:Nat)(lv:Value)(l:List bR)(s:fK)(F:Nat->Prop)(w:World)(hF:(bY p (ey lv s)).p w F)(hT:∀w',gq F w w'->dC (λ _=>True) w' lv l)(hk:jb l)(h0:lg l s):CR 136 [(.pointer (some ⟨p,0,none⟩))] w (λ v w'=>v=.tuple #[]/\mL F (bY p (ey lv (js l s 5))) w w'):=by
 have hs:=St.begin hF;have C5:=hk.n;have hn:l.length<=1000000:=by omega
 have rZ:=hk.at_;obtain⟨Si,Sj⟩:=id h0;refine oY Tryz.func136 (pl:=atD) ?_;refine aD (aA ma (aB jD hs.hb rfl (aH (aC (λ pk=>aD (aA ma (aS hs jD (dI rfl) (rfl) (λ _ hs=>⟨_,aD (aA fr (have hs:=hs.drew;aB bL hs.hb rfl (aD (aA jV (aB jg hs.hb rfl (aI fG (hT _ hs.aF) (cS (aC (λ eQ=>?_) (λ eQ=>?_))))))))),λ _ h=>h⟩)))) (λ pk=>?_)))))
 ·refine aD (aA ma (aS hs jD (dI rfl) (rfl) (λ _ hs=>?_)));intro sK;refine aD (aA jV (have hs:=hs.drew;aB jg hs.hb rfl (aD (aA fr (aB bL hs.hb rfl (aT Gp hs (C214 _ l s.at_ _ (hT _ hs.aF) hn rZ) (λ w4 he hs=>aD (aA wm (aS hs bL (dI rfl) (rfl) (λ w5 hs=>?_))))))))));have hb:js l s 5=(⟨s.at_,6,(nd l s.at_)⟩:fK):=by unfold js;rw[if_pos pk,if_pos eQ]
  rw[hb];exact⟨rfl,hs.mut⟩
 ·intro sK;refine aD (aA jV (have hs:=hs.drew;aB jg hs.hb rfl (aD (aA fr (aB bL hs.hb rfl (aT Gp hs (C214 _ l s.at_ _ (hT _ hs.aF) hn rZ) (λ w4 he hs=>aD (aA wm (aS hs bL (dI rfl) (rfl) (λ w5 hs=>?_))))))))));have hb:js l s 5=(⟨s.at_,5,(nd l s.at_)⟩:fK):=by unfold js;rw[if_pos pk,if_neg eQ]
  rw[hb];exact⟨rfl,hs.mut⟩
 have hb:js l s 5=s:=by unfold js;rw[if_neg pk]
 rw[hb];exact⟨rfl,hs.mut⟩
theorem C257(p:Nat)(lv ov:Value)(l:List bR)(s:fK)(t:ByteArray)(F:Nat->Prop)(w:World)(hF:(bY p (ef lv ov s)).p w F)(hT:∀w',gq F w w'->dC (λ _=>True) w' lv l)(hk:jb l)(h0:lg l s):CR 257 [(.pointer (some ⟨p,0,none⟩)),.string t] w (λ v w'=>v=.tuple #[]/\mL F (bY p (ef lv ov (dQ l s t))) w w'):=by
 have hs:=St.begin hF;have C5:=hk.n;have hn:l.length<=1000000:=by omega
 have rZ:=hk.at_;obtain⟨Si,Sj⟩:=id h0;refine oY Tryz.func257 (pl:=atX) ?_;refine⟨λ jv w'=>jv=.bool (decide (s.e=0)&&tz l s.at_ t)/\St w F [bY p (ef lv ov s)] w',aD (aA kC (have hs:=hs.drew;aB jD hs.hb rfl (aH (aC (λ fL=>aD (aA ix (aB jg hs.hb rfl (aD (aA eV (aB bL hs.hb rfl (aT vx hs (C209 _ l s.at_ t _ (hT _ hs.aF) hn) (λ _ _ hs=>⟨vb (by first|(rw[decide_eq_true fL];rfl)|(rw[decide_eq_false fL];rfl)),hs⟩)))))))) (λ fL=>⟨vb (by first|(rw[decide_eq_true fL];rfl)|(rw[decide_eq_false fL];rfl)),hs⟩))))),?_⟩;rintro _ _ ⟨rfl,hs⟩ _;refine aW (λ og=>?_) (λ og=>?_)
 ·have axl:=sB (by rw[Bool.and_eq_true]at og;exact og.2);refine aD (aA eV (aB bL hs.hb rfl (aK (by omega) (aD (aA eV (aS hs bL (dI rfl) (rfl) (λ _ hs=>?_)))))));have hb:dQ l s t={s with at_:=s.at_+1}:=by unfold dQ;rw[if_pos (by simpa using og)]
  rw[hb];exact⟨rfl,hs.mut⟩
 refine bD Gr hs (H':=λ _=>bY p (ef lv ov (js l s 5))) (Φ:=λ _ _=>True) (λ F2 dY dW=>?_) ?_
 ·exact(C291 p lv ov l s 5 F2 _ dY (λ w' hc=>hT w' (dW w' hc).aF) hk h0).mono λ _ _ r=>r.mono λ _ _ h=>⟨trivial,h.2⟩
 rintro _ _ _ hs;have hb:dQ l s t=js l s 5:=by unfold dQ;rw[if_neg (by simpa using og)]
 rw[hb];exact⟨rfl,hs.mut⟩
theorem C131(p:Nat)(lv:Value)(l:List bR)(s:fK)(t:ByteArray)(F:Nat->Prop)(w:World)(hF:(bY p (ey lv s)).p w F)(hT:∀w',gq F w w'->dC (λ _=>True) w' lv l)(hk:jb l)(h0:lg l s):CR 131 [(.pointer (some ⟨p,0,none⟩)),.string t] w (λ v w'=>v=.bool (iu l s t).2/\mL F (bY p (ey lv (iu l s t).1)) w w'):=by
 have hs:=St.begin hF;have C5:=hk.n;have hn:l.length<=1000000:=by omega
 have rZ:=hk.at_;obtain⟨Si,Sj⟩:=id h0;refine oY Tryz.func131 (pl:=atu) ?_;refine⟨λ jv w'=>jv=.bool (decide (s.e=0)&&tz l s.at_ t)/\St w F [bY p (ey lv s)] w',aD (aA ma (have hs:=hs.drew;aB jD hs.hb rfl (aH (aC (λ jj=>aD (aA jV (aB jg hs.hb rfl (aD (aA fr (aB bL hs.hb rfl (aT vx hs (C209 _ l s.at_ t _ (hT _ hs.aF) hn) (λ _ _ hs=>⟨vb (by first|(rw[decide_eq_true jj];rfl)|(rw[decide_eq_false jj];rfl)),hs⟩)))))))) (λ jj=>⟨vb (by first|(rw[decide_eq_true jj];rfl)|(rw[decide_eq_false jj];rfl)),hs⟩))))),?_⟩;rintro _ _ ⟨rfl,hs⟩ _;refine aW (λ kD=>?_) (λ kD=>?_)
 ·have axl:=sB (by rw[Bool.and_eq_true]at kD;exact kD.2);refine aD (aA fr (aB bL hs.hb rfl (aK (by omega) (aD (aA fr (aS hs bL (dI rfl) (rfl) (λ _ hs=>?_)))))));have hb:iu l s t=({s with at_:=s.at_+1},true):=by unfold iu;rw[if_pos (by simpa using kD)]
  rw[hb];exact⟨rfl,hs.mut⟩
 have hb:iu l s t=(s,false):=by unfold iu;rw[if_neg (by simpa using kD)]
 rw[hb];exact⟨rfl,hs.mut⟩
theorem C210(p:Nat)(lv:Value)(l:List bR)(s:fK)(t:ByteArray)(F:Nat->Prop)(w:World)(hF:(bY p (ey lv s)).p w F)(hT:∀w',gq F w w'->dC (λ _=>True) w' lv l)(hk:jb l)(h0:lg l s):CR 210 [(.pointer (some ⟨p,0,none⟩)),.string t] w (λ v w'=>v=.tuple #[]/\mL F (bY p (ey lv (dQ l s t))) w w'):=by
 have hs:=St.begin hF;have C5:=hk.n;have hn:l.length<=1000000:=by omega
 have rZ:=hk.at_;obtain⟨Si,Sj⟩:=id h0;refine eS Tryz.func210 ?_;refine bD yd hs (H':=λ _=>bY p (ey lv (iu l s t).1)) (Φ:=λ v _=>v=.bool (iu l s t).2) (λ F2 dY dW=>?_) ?_
 ·exact C131 p lv l s t F2 _ dY (λ w' hc=>hT w' (dW w' hc).aF) hk h0
 rintro _ w1 rfl hs;refine bQ (aW (λ gH=>?_) (λ gH=>?_))
 ·refine bD QE hs (H':=λ _=>bY p (ey lv (js l (iu l s t).1 5))) (Φ:=λ _ _=>True) (λ F2 dY dW=>?_) ?_
  ·exact(C136 p lv l (iu l s t).1 F2 _ dY (λ w' hc=>hT w' (dW w' hc).aF) hk (ke h0)).mono λ _ _ r=>r.mono λ _ _ h=>⟨trivial,h.2⟩
  rintro _ w2 _ hs
  have rA:dQ l s t=js l (iu l s t).1 5:=by
   have h7:(iu l s t).2=false:=by simpa using gH
   unfold iu at h7 |-;unfold dQ
   split at h7
   ·cases h7
   ·rename_i h8;rw[if_neg h8,if_neg h8]
  rw[rA];exact⟨rfl,hs.mut⟩
 have rA:dQ l s t=(iu l s t).1:=by
  have h7:(iu l s t).2=true:=by simpa using gH
  unfold iu at h7 |-;unfold dQ
  split at h7
  ·rename_i h8;rw[if_pos h8,if_pos h8]
  ·cases h7
 rw[rA];exact⟨rfl,hs.mut⟩
theorem C317(p:Nat)(lv ov:Value)(l:List bR)(s:fK)(F:Nat->Prop)(w:World)(hF:(bY p (ef lv ov s)).p w F)(hT:∀w',gq F w w'->dC (λ _=>True) w' lv l)(hk:jb l)(h0:lg l s):CR 317 [(.pointer (some ⟨p,0,none⟩))] w (λ v w'=>v=.string (dy l s).2/\mL F (bY p (ef lv ov (dy l s).1)) w w'):=by
 have hs:=St.begin hF;have C5:=hk.n;have hn:l.length<=1000000:=by omega
 have rZ:=hk.at_;obtain⟨Si,Sj⟩:=id h0;refine oY Tryz.func317 (pl:=auf) ?_;refine⟨λ jv w'=>jv=.bool (tA l s)/\St w F [bY p (ef lv ov s)] w',?_,?_⟩
 ·refine aD (aA kC (have hs:=hs.drew;aB jD hs.hb rfl (aH (aC (λ gH=>aD (aA eV (aB bL hs.hb rfl (aD (aA ix (aB jg hs.hb rfl (aI fG (hT _ hs.aF) (aQ (aC (λ lB=>?_) (λ lB=>⟨vb (by unfold tA lJ;first|(rw[decide_eq_false gH];rfl)|(rw[if_pos (by omega),List.getElem?_eq_none (by omega)];simp;done)|(rw[if_pos (by omega),jR,decide_eq_true gH];dsimp only;first|(rw[decide_eq_false jW];rfl)|(rw[decide_eq_true jW];rfl))),hs⟩)))))))))) (λ gH=>⟨vb (by unfold tA lJ;first|(rw[decide_eq_false gH];rfl)|(rw[if_pos (by omega),List.getElem?_eq_none (by omega)];simp;done)|(rw[if_pos (by omega),jR,decide_eq_true gH];dsimp only;first|(rw[decide_eq_false jW];rfl)|(rw[decide_eq_true jW];rfl))),hs⟩)))))
  refine aD (aA ix (aB jg hs.hb rfl (aD (aA eV (aB bL hs.hb rfl ?_)))));obtain⟨yv,jR⟩:=gx (l) (i:=(s.at_).toNat) (by omega);refine aO fG (hT _ hs.aF) (by omega) jR (λ _ Ak=>bW (yv).kind lr Ak rfl rfl (λ _ mj=>?_));exact aE bL (mj) (aH (aC (λ jW=>aD (aA ix (aB jg hs.hb rfl (aD (aA eV (aB bL hs.hb rfl (aO fG (hT _ hs.aF) (by omega) jR (λ _ vH=>bW (yv).text nu vH rfl rfl (λ _ wS=>aE gj (wS) (aT ub hs (C211 _ _ (by have:=rZ _ (List.mem_of_getElem? jR);omega)) (λ _ he hs=>⟨vb (by unfold tA lJ;first|(rw[decide_eq_false gH];rfl)|(rw[if_pos (by omega),List.getElem?_eq_none (by omega)];simp;done)|(rw[if_pos (by omega),jR,decide_eq_true gH];dsimp only;first|(rw[decide_eq_false jW];rfl)|(rw[decide_eq_true jW];rfl))),hs⟩))))))))))) (λ jW=>⟨vb (by unfold tA lJ;first|(rw[decide_eq_false gH];rfl)|(rw[if_pos (by omega),List.getElem?_eq_none (by omega)];simp;done)|(rw[if_pos (by omega),jR,decide_eq_true gH];dsimp only;first|(rw[decide_eq_false jW];rfl)|(rw[decide_eq_true jW];rfl))),hs⟩)))
 rintro _ _ ⟨rfl,hs⟩ _;refine aW (λ AN=>?_) (λ AN=>?_)
 ·obtain⟨_,tk,Nx,_,_⟩:=AM AN;obtain⟨aqv,aqw,ajB⟩:=mF Nx;have GV:l[(s.at_+1-1).toNat]?=some tk:=by rw[<- ajB];congr 2;omega
  refine aD (aA eV (aB bL hs.hb rfl (aK (by omega) (aD (aA eV (aS hs bL (dI rfl) (rfl) (λ _ hs=>aD (aA ix (have hs:=hs.drew;aB jg hs.hb rfl (aD (aA eV (aB bL hs.hb rfl ?_))))))))))));refine fe (by omega) (aO fG (hT _ hs.aF) (by omega) GV (λ _ Ch=>bW (tk).text nu Ch rfl rfl (λ _ YZ=>aE gj (YZ) ?_)));have hb:dy l s=({s with at_:=s.at_+1},tk.text):=by unfold dy;rw[if_pos AN];unfold pe;rw[Nx];rfl
  rw[hb];exact⟨rfl,hs.mut⟩
 refine bD Gr hs (H':=λ _=>bY p (ef lv ov (js l s 5))) (Φ:=λ _ _=>True) (λ F2 dY dW=>?_) ?_
 ·exact(C291 p lv ov l s 5 F2 _ dY (λ w' hc=>hT w' (dW w' hc).aF) hk h0).mono λ _ _ r=>r.mono λ _ _ h=>⟨trivial,h.2⟩
 rintro _ _ _ hs;have hb:dy l s=(js l s 5,⟨#[]⟩):=by unfold dy;rw[if_neg (by simpa using AN)]
 rw[hb];exact⟨rfl,hs.mut⟩
theorem C133(p:Nat)(lv:Value)(l:List bR)(s:fK)(F:Nat->Prop)(w:World)(hF:(bY p (ey lv s)).p w F)(hT:∀w',gq F w w'->dC (λ _=>True) w' lv l)(hk:jb l)(h0:lg l s):CR 133 [(.pointer (some ⟨p,0,none⟩))] w (λ v w'=>v=Flat.val (eW l s).2/\mL F (bY p (ey lv (eW l s).1)) w w'):=by
 have hs:=St.begin hF;have C5:=hk.n;have hn:l.length<=1000000:=by omega
 have rZ:=hk.at_;obtain⟨Si,Sj⟩:=id h0;refine oY Tryz.func133 (pl:=atA) ?_;refine aM hs oE (λ vQ _ hs=>⟨λ jv w'=>jv=.bool (tA l s)/\St w F [bY p (ey lv s),bY vQ (Flat.enc (⟨ByteArray.mk #[],0,0⟩:cJ))] w',?_,?_⟩)
 ·refine aD (aA ma (have hs:=hs.drew;aB jD hs.p1.hb rfl (aH (aC (λ gH=>aD (aA fr (aB bL hs.p1.hb rfl (aD (aA jV (aB jg hs.p1.hb rfl (aI fG (hT _ hs.aF) (aQ (aC (λ lB=>?_) (λ lB=>have hs:=hs.p1;⟨vb (by unfold tA lJ;first|(rw[decide_eq_false gH];rfl)|(rw[if_pos (by omega),List.getElem?_eq_none (by omega)];simp;done)|(rw[if_pos (by omega),jR,decide_eq_true gH];dsimp only;first|(rw[decide_eq_false jW];rfl)|(rw[decide_eq_true jW];rfl))),hs⟩)))))))))) (λ gH=>have hs:=hs.p1;⟨vb (by unfold tA lJ;first|(rw[decide_eq_false gH];rfl)|(rw[if_pos (by omega),List.getElem?_eq_none (by omega)];simp;done)|(rw[if_pos (by omega),jR,decide_eq_true gH];dsimp only;first|(rw[decide_eq_false jW];rfl)|(rw[decide_eq_true jW];rfl))),hs⟩)))))
  refine aD (aA jV (aB jg hs.p1.hb rfl (aD (aA fr (aB bL hs.p1.hb rfl ?_)))));obtain⟨yv,jR⟩:=gx (l) (i:=(s.at_).toNat) (by omega);refine aO fG (hT _ hs.aF) (by omega) jR (λ _ Ak=>bW (yv).kind lr Ak rfl rfl (λ _ mj=>?_));exact aE bL (mj) (aH (aC (λ jW=>aD (aA jV (aB jg hs.p1.hb rfl (aD (aA fr (aB bL hs.p1.hb rfl (aO fG (hT _ hs.aF) (by omega) jR (λ _ vH=>bW (yv).text nu vH rfl rfl (λ _ wS=>aE gj (wS) (aT ub hs (C211 _ _ (by have:=rZ _ (List.mem_of_getElem? jR);omega)) (λ _ he hs=>have hs:=hs.p1;⟨vb (by unfold tA lJ;first|(rw[decide_eq_false gH];rfl)|(rw[if_pos (by omega),List.getElem?_eq_none (by omega)];simp;done)|(rw[if_pos (by omega),jR,decide_eq_true gH];dsimp only;first|(rw[decide_eq_false jW];rfl)|(rw[decide_eq_true jW];rfl))),hs⟩))))))))))) (λ jW=>have hs:=hs.p1;⟨vb (by unfold tA lJ;first|(rw[decide_eq_false gH];rfl)|(rw[if_pos (by omega),List.getElem?_eq_none (by omega)];simp;done)|(rw[if_pos (by omega),jR,decide_eq_true gH];dsimp only;first|(rw[decide_eq_false jW];rfl)|(rw[decide_eq_true jW];rfl))),hs⟩)))
 rintro _ _ ⟨rfl,hs⟩ _;refine aW (λ AN=>?_) (λ AN=>?_)
 ·obtain⟨_,tk,Nx,_,_⟩:=AM AN;obtain⟨aqv,aqw,ajB⟩:=mF Nx;have GV:l[(s.at_+1-1).toNat]?=some tk:=by rw[<- ajB];congr 2;omega
  refine aD (aA fr (aB bL hs.hb rfl (aK (by omega) (aD (aA fr (aS hs bL (dI rfl) (rfl) (λ _ hs=>aD (aA jV (have hs:=hs.drew;aB jg hs.hb rfl (aD (aA fr (aB bL hs.hb rfl ?_))))))))))));refine fe (by omega) (aO fG (hT _ hs.aF) (by omega) GV (λ _ Ch=>bW (tk).text nu Ch rfl rfl (λ _ YZ=>aE gj (YZ) (aD (aA jV (aB jg hs.hb rfl (aD (aA fr (aB bL hs.hb rfl (fe (by omega) (aO fG (hT _ hs.aF) (by omega) GV (λ _ aqx=>bW (tk).at_ lu aqx rfl rfl (λ _ MH=>?_)))))))))))))
  refine aE bL (MH) (pop (DI _ _) (aJ (x:=(⟨(tk).text,0,(tk).at_⟩:cJ)) hs.p1 lP rfl rfl (λ _ hs=>aE lP hs.At ?_)));have hs:=(hs).drop;have hb:eW l s=({s with at_:=s.at_+1},⟨tk.text,0,tk.at_⟩):=by unfold eW;rw[if_pos AN];unfold pe;rw[Nx];rfl
  rw[hb];exact⟨rfl,hs.mut⟩
 refine bD QE hs (H':=λ _=>bY p (ey lv (js l s 5))) (Φ:=λ _ _=>True) (λ F2 dY dW=>?_) ?_
 ·exact(C136 p lv l s F2 _ dY (λ w' hc=>hT w' (dW w' hc).aF) hk h0).mono λ _ _ r=>r.mono λ _ _ h=>⟨trivial,h.2⟩
 rintro _ _ _ hs;refine pop (abI) (aJ (x:=(⟨(ByteArray.mk #[]),0,0⟩:cJ)) hs.p1 lP rfl rfl (λ _ hs=>aE lP hs.At ?_));have hs:=(hs).drop;have hb:eW l s=(js l s 5,⟨⟨#[]⟩,0,0⟩):=by unfold eW;rw[if_neg (by simpa using AN)]
 rw[hb];exact⟨rfl,hs.mut⟩
theorem C290(k:Int)(w:World)(hk:0<=k/\k<=14):CR 290 [.int .i64 k] w (λ v w'=>v=.string (Ho k)/\Ext w w'):=by
 have hs:=St.start w;refine eS Tryz.func290 ?_;refine aX (De) hs ik rfl rfl (dI rfl) (λ aqr _ hs=>?_);have UF:De.length=15:=rfl;obtain⟨aw8,MF⟩:=gx (De) (i:=(k).toNat) (by omega);refine dM hs ik (by omega) (by omega) (λ _ ajb=>gD hs gj ajb MF ?_);refine⟨?_,hs.drop.aF⟩;unfold Ho;rw[MF];rfl
theorem C319(p:Nat)(lv ov:Value)(l:List bR)(s:fK)(F:Nat->Prop)(w:World)(hF:(bY p (ef lv ov s)).p w F)(hT:∀w',gq F w w'->dC (λ _=>True) w' lv l)(hk:jb l)(h0:lg l s):CR 319 [(.pointer (some ⟨p,0,none⟩))] w (λ v w'=>v=.int .i64 (kL l s).2/\mL F (bY p (ef lv ov (kL l s).1)) w w'):=by
 have hs:=St.begin hF;have C5:=hk.n;have hn:l.length<=1000000:=by omega
 have rZ:=hk.at_;obtain⟨Si,Sj⟩:=id h0;refine oY Tryz.func319 (pl:=auh) ?_;refine⟨λ jv w'=>jv=.bool (Px l s)/\St w F [bY p (ef lv ov s)] w',?_,?_⟩
 ·refine aD (aA kC (have hs:=hs.drew;aB jD hs.hb rfl (aH (aC (λ fL=>aD (aA eV (aB bL hs.hb rfl (aD (aA ix (aB jg hs.hb rfl (aI fG (hT _ hs.aF) (aQ (aC (λ eQ=>?_) (λ eQ=>⟨vb (by unfold Px lJ;first|(rw[decide_eq_false fL];rfl)|(rw[if_pos (by omega),List.getElem?_eq_none (by omega)];simp;done)|(rw[if_pos (by omega),fZ,decide_eq_true fL];rfl)),hs⟩)))))))))) (λ fL=>⟨vb (by unfold Px lJ;first|(rw[decide_eq_false fL];rfl)|(rw[if_pos (by omega),List.getElem?_eq_none (by omega)];simp;done)|(rw[if_pos (by omega),fZ,decide_eq_true fL];rfl)),hs⟩)))))
  refine aD (aA ix (aB jg hs.hb rfl (aD (aA eV (aB bL hs.hb rfl ?_)))));obtain⟨qL,fZ⟩:=gx (l) (i:=(s.at_).toNat) (by omega);exact aO fG (hT _ hs.aF) (by omega) fZ (λ _ mj=>bW (qL).kind lr mj rfl rfl (λ _ uz=>aE bL (uz) (aH ⟨vb (by unfold Px lJ;first|(rw[decide_eq_false fL];rfl)|(rw[if_pos (by omega),List.getElem?_eq_none (by omega)];simp;done)|(rw[if_pos (by omega),fZ,decide_eq_true fL];rfl)),hs⟩)))
 rintro _ _ ⟨rfl,hs⟩ _;refine aW (λ lz=>?_) (λ lz=>?_)
 ·obtain⟨_,tk,Nx,_⟩:=Sh lz;obtain⟨aqv,aqw,GV⟩:=mF Nx;refine aD (aA ix (have hs:=hs.drew;aB jg hs.hb rfl (aD (aA eV (aB bL hs.hb rfl (aO fG (hT _ hs.aF) (by omega) GV (λ _ vH=>bW (tk).n rO vH rfl rfl (λ _ wS=>aE bL (wS) ⟨λ jv w'=>jv=.bool (decide (1<=tk.n/\tk.n<=8))/\St w F [bY p (ef lv ov s)] w',cS (aC (λ _=>im ⟨vb (by first|exact(decide_eq_false (by omega)).symm|exact decide_eq_decide.2 (by omega)),hs⟩) (λ _=>⟨vb (by first|exact(decide_eq_false (by omega)).symm|exact decide_eq_decide.2 (by omega)),hs⟩)),?_⟩))))))))
  rintro _ _ ⟨rfl,hs⟩ _;refine aC (λ wA=>?_) (λ wA=>?_)
  ·refine aD (aA eV (aB bL hs.hb rfl (aK (by omega) (aD (aA eV (aS hs bL (dI rfl) (rfl) (λ _ hs=>?_)))))));have hb:kL l s=({s with at_:=s.at_+1},tk.n):=by unfold kL;rw[if_pos lz];unfold pe;rw[Nx];exact if_pos wA
   rw[hb];exact⟨rfl,hs.mut⟩
  refine bD Gr hs (H':=λ _=>bY p (ef lv ov (js l s 11))) (Φ:=λ _ _=>True) (λ F2 dY dW=>?_) ?_
  ·exact(C291 p lv ov l s 11 F2 _ dY (λ w' hc=>hT w' (dW w' hc).aF) hk h0).mono λ _ _ r=>r.mono λ _ _ h=>⟨trivial,h.2⟩
  rintro _ _ _ hs;have hb:kL l s=(js l s 11,0):=by unfold kL;rw[if_pos lz];unfold pe;rw[Nx];exact if_neg wA
  rw[hb];exact⟨rfl,hs.mut⟩
 refine bD Gr hs (H':=λ _=>bY p (ef lv ov (js l s 5))) (Φ:=λ _ _=>True) (λ F2 dY dW=>?_) ?_
 ·exact(C291 p lv ov l s 5 F2 _ dY (λ w' hc=>hT w' (dW w' hc).aF) hk h0).mono λ _ _ r=>r.mono λ _ _ h=>⟨trivial,h.2⟩
 rintro _ _ _ hs;have hb:kL l s=(js l s 5,0):=by unfold kL;rw[if_neg (by simpa using lz)]
 rw[hb];exact⟨rfl,hs.mut⟩
theorem C318(p:Nat)(lv ov:Value)(l:List bR)(s:fK)(s2:fK)(x:List bX)(F:Nat->Prop)(w:World)(hF:(bY p (ef lv ov s)).p w F)(hT:∀w',gq F w w'->dC (λ _=>True) w' lv l)(hk:jb l)(h0:lg l s)(hr:qT l s=some (s2,x)):CR 318 [(.pointer (some ⟨p,0,none⟩))] w (λ v w'=>mL F (qd λ sv:SV=>fact (v=Flat.val sv) (sep (bY p (ef lv ov s2)) (fk (λ w=>DL w (Flat.val sv) x)))) w w'):=by
 have hs:=St.begin hF;have C5:=hk.n;have hn:l.length<=1000000:=by omega
 have rZ:=hk.at_;obtain⟨Si,Sj⟩:=id h0;refine oY Tryz.func318 (pl:=aug) ?_;refine aD (aA kC (aB jD hs.hb rfl (bV (aC (λ ju=>?_) (λ ju=>?_)))))
 ·have hR:((s,[]):fK×List bX)=(s2,x):=by unfold qT at hr;rw[if_pos ju]at hr;exact Option.some.inj hr
  cases hR;have hs:=(hs.fT (Φ:=λ w=>DL w (Flat.val (cH:SV)) ([]:List bX)) λ w=>DL.nil w).p1;exact(St.et (cH:SV) (St.oc rfl (St.join hs))).mut
 refine aD (aA ix (have hs:=hs.drew;aB jg hs.hb rfl (aD (aA eV (aB bL hs.hb rfl ?_)))));obtain⟨R,hxr,FI⟩:=YX hr (by omega);refine dN ae0 (C213 l _ s.at_ R _ (hT _ hs.aF) hk (by omega) hxr) ?_;rintro _ _ ⟨axn,rfl,cO⟩;have hs:=hs.made cO;refine aN rfl (aN rfl (aN rfl (aN rfl (bV (aC (λ ly=>?_) (λ ly=>?_))))))
 ·refine aD (aA kC (aS hs.p1 jD (dI rfl) (rfl) (λ _ hs=>aD (aA zY (aS hs bL (dI rfl) (rfl) (λ _ hs=>?_))))));have hR:(({s with e:=R.2.2.1,pos:=R.2.2.2},[]):fK×List bX)=(s2,x):=by rw[if_pos ly]at FI;exact Option.some.inj FI
  cases hR;have hs:=((hs.p1.drop).fT (Φ:=λ w=>DL w (Flat.val (cH:SV)) ([]:List bX)) λ w=>DL.nil w).p1;exact(St.et (cH:SV) (St.oc rfl (St.join hs))).mut
 have CG:=YY FI ly;refine aD (aA eV (aS hs.p1 bL (dI rfl) (rfl) (λ _ hs=>?_)));have hR:(({s with at_:=R.2.1},R.1):fK×List bX)=(s2,x):=by rw[if_neg ly,if_pos CG]at FI;exact Option.some.inj FI
 cases hR;have hs:=hs.p1.p1;exact(St.et axn (St.oc rfl (St.join hs))).mut
def ND(k at_:Int):bN:=⟨k,⟨#[]⟩,⟨#[]⟩,[],[],0,0,0,at_⟩
abbrev JI:ByteArray:=⟨#[61]⟩
def UN(l:List bR)(s:fK):fK:=dQ l (dy l s).1 (ByteArray.mk #[61])
def s2M(l:List bR)(s:fK):fK:=dQ l (dy l (UN l s)).1 (ByteArray.mk #[44])
def kM(l:List bR)(s:fK)(k a:Int):Option (fK×bN):=
 if k=1 then(qT l (UN l s)).bind λ r=>some (r.1,{ND k a with eC:=(dy l s).2,e:=r.2})
 else if k=2 then some ((dy l (UN l s)).1,{ND k a with eC:=(dy l s).2,name:=(dy l (UN l s)).2})
 else if k=3 then(qT l (UN l s)).bind λ r=>some (r.1,{ND k a with name:=(dy l s).2,e:=r.2})
 else if k=4 then(qT l (s2M l s)).bind λ r=>(qT l (dQ l r.1 (ByteArray.mk #[44]))).bind λ q=>some (q.1,{ND k a with eC:=(dy l s).2,name:=(dy l (UN l s)).2,e:=r.2,f:=q.2})
 else if k=5\/k=6\/k=9\/k=10 then some ((dy l s).1,{ND k a with name:=(dy l s).2})
 else if k=11\/k=14 then(qT l s).bind λ r=>some (r.1,{ND k a with e:=r.2})
 else if k=12 then some ((kL l s).1,{ND k a with n:=(kL l s).2})
 else some (s,ND k a)
section
variable {l:List bR}{s s':fK}{k a:Int}{x:bN}
theorem eM{α β γ:Type}{o:Option (α×β)}{g:α×β->Option γ}{c:γ}(h:o.bind g=some c):∃p q,o=some (p,q)/\g (p,q)=some c:=by
 cases o with
 | none=>cases h
 | some r=>grind
theorem Sk(h:kM l s k a=some (s',x))(hk:k=1):∃q e,qT l (UN l s)=some (q,e)/\s'=q/\x={ND k a with eC:=(dy l s).2,e:=e}:=by
 unfold kM at h;rw[if_pos hk]at h
 obtain⟨q,e,h1,h2⟩:=eM h
 grind
theorem Sl(h:kM l s k a=some (s',x))(hk:k=2):s'=(dy l (UN l s)).1/\x={ND k a with eC:=(dy l s).2,name:=(dy l (UN l s)).2}:=by
 unfold kM at h;grind
theorem Sm(h:kM l s k a=some (s',x))(hk:k=3):∃q e,qT l (UN l s)=some (q,e)/\s'=q/\x={ND k a with name:=(dy l s).2,e:=e}:=by
 unfold kM at h;rw[if_neg (by omega),if_neg (by omega),if_pos hk]at h
 obtain⟨q,e,h1,h2⟩:=eM h
 grind
theorem Sn(h:kM l s k a=some (s',x))(hk:k=4):∃q e q2 f,qT l (s2M l s)=some (q,e)/\qT l (dQ l q (ByteArray.mk #[44]))=some (q2,f)/\s'=q2/\x={ND k a with eC:=(dy l s).2,name:=(dy l (UN l s)).2,e:=e,f:=f}:=by
 unfold kM at h;rw[if_neg (by omega),if_neg (by omega),if_neg (by omega),if_pos hk]at h
 obtain⟨q,e,h1,h2⟩:=eM h
 obtain⟨q2,f,h3,h4⟩:=eM h2
 grind
theorem So(h:kM l s k a=some (s',x))(hk:k=5\/k=6\/k=9\/k=10):s'=(dy l s).1/\x={ND k a with name:=(dy l s).2}:=by
 unfold kM at h;grind
theorem MI(h:kM l s k a=some (s',x))(hk:k=11\/k=14):∃q e,qT l s=some (q,e)/\s'=q/\x={ND k a with e:=e}:=by
 unfold kM at h;rw[if_neg (by omega),if_neg (by omega),if_neg (by omega),if_neg (by omega),if_neg (by omega),if_pos hk]at h
 obtain⟨q,e,h1,h2⟩:=eM h
 grind
theorem MJ(h:kM l s k a=some (s',x))(hk:k=12):s'=(kL l s).1/\x={ND k a with n:=(kL l s).2}:=by
 unfold kM at h;grind
theorem MK(h:kM l s k a=some (s',x))(h1:¬ k=1)(h2:¬ k=2)(h3:¬ k=3)(h4:¬ k=4)(h5:¬ (k=5\/k=6\/k=9\/k=10))(h6:¬ (k=11\/k=14))(h7:¬ k=12):s'=s/\x=ND k a:=by
 unfold kM at h;grind
end
theorem BQ{l:List bR}{s s':fK}{k a:Int}{x:bN}(h0:lg l s)(h:kM l s k a=some (s',x)):lg l s':=by
 have TC:lg l (UN l s):=fD (gC h0)
 have hs2:lg l (s2M l s):=fD (gC TC)
 by_cases h1:k=1
 ·obtain⟨q,e,he,rfl,_⟩:=Sk h h1;exact sC TC he
 by_cases h2:k=2
 ·obtain⟨rfl,_⟩:=Sl h h2;exact gC TC
 by_cases h3:k=3
 ·obtain⟨q,e,he,rfl,_⟩:=Sm h h3;exact sC TC he
 by_cases h4:k=4
 ·obtain⟨q,e,q2,f,he,hf,rfl,_⟩:=Sn h h4;exact sC (fD (sC hs2 he)) hf
 by_cases h5:k=5\/k=6\/k=9\/k=10
 ·obtain⟨rfl,_⟩:=So h h5;exact gC h0
 by_cases h6:k=11\/k=14
 ·obtain⟨q,e,he,rfl,_⟩:=MI h h6;exact sC h0 he
 by_cases h7:k=12
 ·obtain⟨rfl,_⟩:=MJ h h7;exact T1 h0
 obtain⟨rfl,_⟩:=MK h h1 h2 h3 h4 h5 h6 h7;exact h0
theorem xf{α σ:Type}[Flat σ][Deep α σ]{w w0:World}{A:Nat->Prop}{L:List HP}{B:HP}{sh:σ}{x:α}(hs:St w0 A (B::fk (λ w=>Deep.dr w sh x)::L) w) :
  St w0 A ((qd λ s:σ=>fact (Flat.val sh=Flat.val s) (sep B (fk (λ w=>Deep.dr w s x))))::L) w:=
 St.et (H:=λ s:σ=>fact (Flat.val sh=Flat.val s) (sep B (fk (λ w=>Deep.dr w s x)))) sh (St.oc rfl (St.join hs))
theorem C292(p:Nat)(lv ov:Value)(l:List bR)(s:fK)(kd a:Int)(s2:fK)(x:bN)(F:Nat->Prop)(w:World)(hF:(bY p (ef lv ov s)).p w F)(hT:∀w',gq F w w'->dC (λ _=>True) w' lv l)(hk:jb l)(h0:lg l s)(hp:kM l s kd a=some (s2,x)):CR 292 [(.pointer (some ⟨p,0,none⟩)),.int .i64 kd,.int .i64 a] w (λ v w'=>mL F (qd λ sh:aZ=>fact (v=Flat.val sh) (sep (bY p (ef lv ov s2)) (fk (λ w=>Deep.dr w sh x)))) w w'):=by
 have hs:=St.begin hF;have C5:=hk.n;have hn:l.length<=1000000:=by omega
 have rZ:=hk.at_;obtain⟨Si,Sj⟩:=id h0;refine eS Tryz.func292 ?_;refine aM hs jq (λ O9 _ hs=>have hs:=hs.enc (cs':=Flat.enc (⟨0,(ByteArray.mk #[]),(ByteArray.mk #[]),cH,cH,0,0,0,0⟩:aZ)) rfl;pop (N3 _ _) (aM hs jq (λ wG _ hs=>have hs:=hs.enc (cs':=Flat.enc (⟨0,(ByteArray.mk #[]),(ByteArray.mk #[]),cH,cH,0,0,0,0⟩:aZ)) rfl;aJ (x:=(⟨kd,(ByteArray.mk #[]),(ByteArray.mk #[]),cH,cH,0,0,0,a⟩:aZ)) hs eI rfl rfl (λ w3 hs=>?_))));refine⟨_,?_,λ _ h=>h⟩;refine aH (aC (λ wB=>?_) (λ wB=>aH (aC (λ mS=>?_) (λ mS=>aH (aC (λ yt=>?_) (λ yt=>aH (aC (λ vy=>?_) (λ vy=>⟨λ jv w'=>jv=.bool (decide (kd=5\/kd=6\/kd=9\/kd=10))/\w3=w',aH (aC (λ _=>⟨vb (by grind),rfl⟩) (λ _=>aH (aC (λ _=>⟨vb (by grind),rfl⟩) (λ _=>aH (aC (λ _=>⟨vb (by grind),rfl⟩) (λ _=>aH ⟨vb (by grind),rfl⟩)))))),?_⟩))))))))
 ·obtain⟨q,e,hex,rfl,rfl⟩:=Sk hp wB;refine bD Dz hs.p2 (H':=λ _=>bY p (ef lv ov (dy l s).1)) (Φ:=λ v _=>v=.string (dy l s).2) (λ F2 dY dW=>?_) ?_
  ·exact C317 p lv ov l s F2 _ dY (λ w' hc=>hT w' (dW w' hc).aF) hk h0
  rintro _ _ rfl hs;refine aA iv (aS hs.p1 gj (dI rfl) (rfl) (λ _ hs=>have hs:=hs.enc (cs':=Flat.enc (⟨kd,(dy l s).2,(ByteArray.mk #[]),cH,cH,0,0,0,a⟩:aZ)) rfl;bD ye hs.p1 (H':=λ _=>bY p (ef lv ov (dQ l (dy l s).1 (ByteArray.mk #[61])))) (Φ:=λ _ _=>True) (λ F2 dY dW=>?_) ?_))
  ·exact(C257 p lv ov l (dy l s).1 (ByteArray.mk #[61]) F2 _ dY (λ w' hc=>hT w' (dW w' hc).aF) hk (gC h0)).mono λ _ _ r=>r.mono λ _ _ h=>⟨trivial,h.2⟩
  rintro _ _ _ hs;refine bD J8 hs (H':=λ v=>qd λ sv:SV=>fact (v=Flat.val sv) (sep (bY p (ef lv ov s2)) (fk (λ w=>DL w (Flat.val sv) e)))) (Φ:=λ _ _=>True) (λ F2 dY dW=>?_) ?_
  ·exact(C318 p lv ov l (dQ l (dy l s).1 (ByteArray.mk #[61])) s2 e F2 _ dY (λ w' hc=>hT w' (dW w' hc).aF) hk (fD (gC h0)) hex).mono λ _ _ r=>r.mono λ _ _ h=>⟨trivial,h⟩
  rintro v_x20 _ _ wQ;obtain⟨Py,yy⟩:=wQ.er
  clear wQ
  obtain⟨ajC,Df⟩:=yy.me
  clear yy
  subst ajC;have hs:=Df.split;refine aA iN (aS hs.p2 jo (dI rfl) (rfl) (λ _ hs=>?_));have hs:=hs.enc (cs':=Flat.enc (⟨kd,(dy l s).2,(ByteArray.mk #[]),Py,cH,0,0,0,a⟩:aZ)) rfl;intro xB;exact aE eI hs.At (aJ (x:=(⟨kd,(dy l s).2,(ByteArray.mk #[]),Py,cH,0,0,0,a⟩:aZ)) hs.p3 eI rfl rfl (λ _ hs=>aE eI hs.At (have hs:=hs.p3.dU (Ψ:=(λ w=>Deep.dr w (⟨kd,(dy l s).2,(ByteArray.mk #[]),Py,cH,0,0,0,a⟩:aZ) (⟨kd,(dy l s).2,(ByteArray.mk #[]),e,[],0,0,0,a⟩:bN))) (λ _ h=>⟨_,_,rfl,id (h),DL.nil _⟩);have hs:=((hs.p1.drop.p1).drop).p1;(xf hs).mut)))
 ·obtain⟨rfl,rfl⟩:=Sl hp mS;refine bD Dz hs.p2 (H':=λ _=>bY p (ef lv ov (dy l s).1)) (Φ:=λ v _=>v=.string (dy l s).2) (λ F2 dY dW=>?_) ?_
  ·exact C317 p lv ov l s F2 _ dY (λ w' hc=>hT w' (dW w' hc).aF) hk h0
  rintro _ _ rfl hs;refine aA iv (aS hs.p1 gj (dI rfl) (rfl) (λ _ hs=>have hs:=hs.enc (cs':=Flat.enc (⟨kd,(dy l s).2,(ByteArray.mk #[]),cH,cH,0,0,0,a⟩:aZ)) rfl;bD ye hs.p1 (H':=λ _=>bY p (ef lv ov (dQ l (dy l s).1 (ByteArray.mk #[61])))) (Φ:=λ _ _=>True) (λ F2 dY dW=>?_) ?_))
  ·exact(C257 p lv ov l (dy l s).1 (ByteArray.mk #[61]) F2 _ dY (λ w' hc=>hT w' (dW w' hc).aF) hk (gC h0)).mono λ _ _ r=>r.mono λ _ _ h=>⟨trivial,h.2⟩
  rintro _ _ _ hs;refine bD Dz hs (H':=λ _=>bY p (ef lv ov (dy l (dQ l (dy l s).1 (ByteArray.mk #[61]))).1)) (Φ:=λ v _=>v=.string (dy l (dQ l (dy l s).1 (ByteArray.mk #[61]))).2) (λ F2 dY dW=>?_) ?_
  ·exact C317 p lv ov l (dQ l (dy l s).1 (ByteArray.mk #[61])) F2 _ dY (λ w' hc=>hT w' (dW w' hc).aF) hk (fD (gC h0))
  rintro _ _ rfl hs;refine aA fU (aS hs.p1 gj (dI rfl) (rfl) (λ _ hs=>?_));have hs:=hs.enc (cs':=Flat.enc (⟨kd,(dy l s).2,(dy l (dQ l (dy l s).1 (ByteArray.mk #[61]))).2,cH,cH,0,0,0,a⟩:aZ)) rfl;intro xB;exact aE eI hs.At (aJ (x:=(⟨kd,(dy l s).2,(dy l (dQ l (dy l s).1 (ByteArray.mk #[61]))).2,cH,cH,0,0,0,a⟩:aZ)) hs.p2 eI rfl rfl (λ _ hs=>aE eI hs.At (have hs:=hs.fT (Φ:=(λ w=>Deep.dr w (⟨kd,(dy l s).2,(dy l (dQ l (dy l s).1 (ByteArray.mk #[61]))).2,cH,cH,0,0,0,a⟩:aZ) (⟨kd,(dy l s).2,(dy l (dQ l (dy l s).1 (ByteArray.mk #[61]))).2,[],[],0,0,0,a⟩:bN))) (λ _=>⟨_,_,rfl,DL.nil _,DL.nil _⟩);have hs:=((hs.p1.drop.p1).drop).p1;(xf hs).mut)))
 ·obtain⟨q,e,hex,rfl,rfl⟩:=Sm hp yt;refine bD Dz hs.p2 (H':=λ _=>bY p (ef lv ov (dy l s).1)) (Φ:=λ v _=>v=.string (dy l s).2) (λ F2 dY dW=>?_) ?_
  ·exact C317 p lv ov l s F2 _ dY (λ w' hc=>hT w' (dW w' hc).aF) hk h0
  rintro _ _ rfl hs;refine aA fU (aS hs.p1 gj (dI rfl) (rfl) (λ _ hs=>have hs:=hs.enc (cs':=Flat.enc (⟨kd,(ByteArray.mk #[]),(dy l s).2,cH,cH,0,0,0,a⟩:aZ)) rfl;bD ye hs.p1 (H':=λ _=>bY p (ef lv ov (dQ l (dy l s).1 (ByteArray.mk #[61])))) (Φ:=λ _ _=>True) (λ F2 dY dW=>?_) ?_))
  ·exact(C257 p lv ov l (dy l s).1 (ByteArray.mk #[61]) F2 _ dY (λ w' hc=>hT w' (dW w' hc).aF) hk (gC h0)).mono λ _ _ r=>r.mono λ _ _ h=>⟨trivial,h.2⟩
  rintro _ _ _ hs;refine bD J8 hs (H':=λ v=>qd λ sv:SV=>fact (v=Flat.val sv) (sep (bY p (ef lv ov s2)) (fk (λ w=>DL w (Flat.val sv) e)))) (Φ:=λ _ _=>True) (λ F2 dY dW=>?_) ?_
  ·exact(C318 p lv ov l (dQ l (dy l s).1 (ByteArray.mk #[61])) s2 e F2 _ dY (λ w' hc=>hT w' (dW w' hc).aF) hk (fD (gC h0)) hex).mono λ _ _ r=>r.mono λ _ _ h=>⟨trivial,h⟩
  rintro v_x40 _ _ wQ;obtain⟨Pz,yy⟩:=wQ.er
  clear wQ
  obtain⟨ajD,Df⟩:=yy.me
  clear yy
  subst ajD;have hs:=Df.split;refine aA iN (aS hs.p2 jo (dI rfl) (rfl) (λ _ hs=>?_));have hs:=hs.enc (cs':=Flat.enc (⟨kd,(ByteArray.mk #[]),(dy l s).2,Pz,cH,0,0,0,a⟩:aZ)) rfl;intro xB;exact aE eI hs.At (aJ (x:=(⟨kd,(ByteArray.mk #[]),(dy l s).2,Pz,cH,0,0,0,a⟩:aZ)) hs.p3 eI rfl rfl (λ _ hs=>aE eI hs.At (have hs:=hs.p3.dU (Ψ:=(λ w=>Deep.dr w (⟨kd,(ByteArray.mk #[]),(dy l s).2,Pz,cH,0,0,0,a⟩:aZ) (⟨kd,(ByteArray.mk #[]),(dy l s).2,e,[],0,0,0,a⟩:bN))) (λ _ h=>⟨_,_,rfl,id (h),DL.nil _⟩);have hs:=((hs.p1.drop.p1).drop).p1;(xf hs).mut)))
 ·obtain⟨q,e,q2,f,hex,hfx,rfl,rfl⟩:=Sn hp vy;refine bD Dz hs.p2 (H':=λ _=>bY p (ef lv ov (dy l s).1)) (Φ:=λ v _=>v=.string (dy l s).2) (λ F2 dY dW=>?_) ?_
  ·exact C317 p lv ov l s F2 _ dY (λ w' hc=>hT w' (dW w' hc).aF) hk h0
  rintro _ _ rfl hs;refine aA iv (aS hs.p1 gj (dI rfl) (rfl) (λ _ hs=>have hs:=hs.enc (cs':=Flat.enc (⟨kd,(dy l s).2,(ByteArray.mk #[]),cH,cH,0,0,0,a⟩:aZ)) rfl;bD ye hs.p1 (H':=λ _=>bY p (ef lv ov (dQ l (dy l s).1 (ByteArray.mk #[61])))) (Φ:=λ _ _=>True) (λ F2 dY dW=>?_) ?_))
  ·exact(C257 p lv ov l (dy l s).1 (ByteArray.mk #[61]) F2 _ dY (λ w' hc=>hT w' (dW w' hc).aF) hk (gC h0)).mono λ _ _ r=>r.mono λ _ _ h=>⟨trivial,h.2⟩
  rintro _ _ _ hs;refine bD Dz hs (H':=λ _=>bY p (ef lv ov (dy l (dQ l (dy l s).1 (ByteArray.mk #[61]))).1)) (Φ:=λ v _=>v=.string (dy l (dQ l (dy l s).1 (ByteArray.mk #[61]))).2) (λ F2 dY dW=>?_) ?_
  ·exact C317 p lv ov l (dQ l (dy l s).1 (ByteArray.mk #[61])) F2 _ dY (λ w' hc=>hT w' (dW w' hc).aF) hk (fD (gC h0))
  rintro _ _ rfl hs;refine aA fU (aS hs.p1 gj (dI rfl) (rfl) (λ _ hs=>have hs:=hs.enc (cs':=Flat.enc (⟨kd,(dy l s).2,(dy l (dQ l (dy l s).1 (ByteArray.mk #[61]))).2,cH,cH,0,0,0,a⟩:aZ)) rfl;bD ye hs.p1 (H':=λ _=>bY p (ef lv ov (dQ l (dy l (dQ l (dy l s).1 (ByteArray.mk #[61]))).1 (ByteArray.mk #[44])))) (Φ:=λ _ _=>True) (λ F2 dY dW=>?_) ?_))
  ·exact(C257 p lv ov l (dy l (dQ l (dy l s).1 (ByteArray.mk #[61]))).1 (ByteArray.mk #[44]) F2 _ dY (λ w' hc=>hT w' (dW w' hc).aF) hk (gC (fD (gC h0)))).mono λ _ _ r=>r.mono λ _ _ h=>⟨trivial,h.2⟩
  rintro _ _ _ hs;refine bD J8 hs (H':=λ v=>qd λ sv:SV=>fact (v=Flat.val sv) (sep (bY p (ef lv ov q)) (fk (λ w=>DL w (Flat.val sv) e)))) (Φ:=λ _ _=>True) (λ F2 dY dW=>?_) ?_
  ·exact(C318 p lv ov l (dQ l (dy l (dQ l (dy l s).1 (ByteArray.mk #[61]))).1 (ByteArray.mk #[44])) q e F2 _ dY (λ w' hc=>hT w' (dW w' hc).aF) hk (fD (gC (fD (gC h0)))) hex).mono λ _ _ r=>r.mono λ _ _ h=>⟨trivial,h⟩
  rintro v_x55 _ _ wQ;obtain⟨EY,yy⟩:=wQ.er
  clear wQ
  obtain⟨ajE,Df⟩:=yy.me
  clear yy
  subst ajE;have hs:=Df.split;refine aA iN (aS hs.p2 jo (dI rfl) (rfl) (λ _ hs=>have hs:=hs.enc (cs':=Flat.enc (⟨kd,(dy l s).2,(dy l (dQ l (dy l s).1 (ByteArray.mk #[61]))).2,EY,cH,0,0,0,a⟩:aZ)) rfl;bD ye hs.p1 (H':=λ _=>bY p (ef lv ov (dQ l q (ByteArray.mk #[44])))) (Φ:=λ _ _=>True) (λ F2 dY dW=>?_) ?_))
  ·exact(C257 p lv ov l q (ByteArray.mk #[44]) F2 _ dY (λ w' hc=>hT w' (dW w' hc).aF) hk (sC (fD (gC (fD (gC h0)))) hex)).mono λ _ _ r=>r.mono λ _ _ h=>⟨trivial,h.2⟩
  rintro _ _ _ hs;refine bD J8 hs (H':=λ v=>qd λ sv:SV=>fact (v=Flat.val sv) (sep (bY p (ef lv ov s2)) (fk (λ w=>DL w (Flat.val sv) f)))) (Φ:=λ _ _=>True) (λ F2 dY dW=>?_) ?_
  ·exact(C318 p lv ov l (dQ l q (ByteArray.mk #[44])) s2 f F2 _ dY (λ w' hc=>hT w' (dW w' hc).aF) hk (fD (sC (fD (gC (fD (gC h0)))) hex)) hfx).mono λ _ _ r=>r.mono λ _ _ h=>⟨trivial,h⟩
  rintro v_x60 _ _ wQ;obtain⟨BD,yy⟩:=wQ.er
  clear wQ
  obtain⟨ajF,Df⟩:=yy.me
  clear yy
  subst ajF;have hs:=Df.split;refine aA jU (aS hs.p2 jo (dI rfl) (rfl) (λ _ hs=>?_));have hs:=hs.enc (cs':=Flat.enc (⟨kd,(dy l s).2,(dy l (dQ l (dy l s).1 (ByteArray.mk #[61]))).2,EY,BD,0,0,0,a⟩:aZ)) rfl;intro xB;exact aE eI hs.At (aJ (x:=(⟨kd,(dy l s).2,(dy l (dQ l (dy l s).1 (ByteArray.mk #[61]))).2,EY,BD,0,0,0,a⟩:aZ)) hs.p4 eI rfl rfl (λ _ hs=>aE eI hs.At (have hs:=hs.p4.p4.p1.gR.dU (Ψ:=(λ w=>Deep.dr w (⟨kd,(dy l s).2,(dy l (dQ l (dy l s).1 (ByteArray.mk #[61]))).2,EY,BD,0,0,0,a⟩:aZ) (⟨kd,(dy l s).2,(dy l (dQ l (dy l s).1 (ByteArray.mk #[61]))).2,e,f,0,0,0,a⟩:bN))) (λ _ h=>⟨_,_,rfl,id (h.1),id (h.2)⟩);have hs:=((hs.p1.drop.p1).drop).p1;(xf hs).mut)))
 rintro _ _ ⟨rfl,hw⟩ _;subst hw;refine aC (λ Rf=>?_) (λ Rf=>⟨λ jv w'=>jv=.bool (decide (kd=11\/kd=14))/\w3=w',aH (aC (λ _=>⟨vb (by grind),rfl⟩) (λ _=>aH ⟨vb (by grind),rfl⟩)),?_⟩)
 ·obtain⟨rfl,rfl⟩:=So hp Rf;refine bD Dz hs.p2 (H':=λ _=>bY p (ef lv ov (dy l s).1)) (Φ:=λ v _=>v=.string (dy l s).2) (λ F2 dY dW=>?_) ?_
  ·exact C317 p lv ov l s F2 _ dY (λ w' hc=>hT w' (dW w' hc).aF) hk h0
  rintro _ _ rfl hs;refine aA fU (aS hs.p1 gj (dI rfl) (rfl) (λ _ hs=>?_));have hs:=hs.enc (cs':=Flat.enc (⟨kd,(ByteArray.mk #[]),(dy l s).2,cH,cH,0,0,0,a⟩:aZ)) rfl;intro xB;exact aE eI hs.At (aJ (x:=(⟨kd,(ByteArray.mk #[]),(dy l s).2,cH,cH,0,0,0,a⟩:aZ)) hs.p2 eI rfl rfl (λ _ hs=>aE eI hs.At (have hs:=hs.fT (Φ:=(λ w=>Deep.dr w (⟨kd,(ByteArray.mk #[]),(dy l s).2,cH,cH,0,0,0,a⟩:aZ) (⟨kd,(ByteArray.mk #[]),(dy l s).2,[],[],0,0,0,a⟩:bN))) (λ _=>⟨_,_,rfl,DL.nil _,DL.nil _⟩);have hs:=((hs.p1.drop.p1).drop).p1;(xf hs).mut)))
 rintro _ _ ⟨rfl,hw⟩ _;subst hw;refine aC (λ Ek=>?_) (λ Ek=>aH (aC (λ Y0=>?_) (λ Y0=>?_)))
 ·obtain⟨q,e,hex,rfl,rfl⟩:=MI hp Ek;refine bD J8 hs.p2 (H':=λ v=>qd λ sv:SV=>fact (v=Flat.val sv) (sep (bY p (ef lv ov s2)) (fk (λ w=>DL w (Flat.val sv) e)))) (Φ:=λ _ _=>True) (λ F2 dY dW=>?_) ?_
  ·exact(C318 p lv ov l s s2 e F2 _ dY (λ w' hc=>hT w' (dW w' hc).aF) hk h0 hex).mono λ _ _ r=>r.mono λ _ _ h=>⟨trivial,h⟩
  rintro v_x74 _ _ wQ;obtain⟨PA,yy⟩:=wQ.er
  clear wQ
  obtain⟨ajG,Df⟩:=yy.me
  clear yy
  subst ajG;have hs:=Df.split;refine aA iN (aS hs.p2 jo (dI rfl) (rfl) (λ _ hs=>?_));have hs:=hs.enc (cs':=Flat.enc (⟨kd,(ByteArray.mk #[]),(ByteArray.mk #[]),PA,cH,0,0,0,a⟩:aZ)) rfl;intro xB;exact aE eI hs.At (aJ (x:=(⟨kd,(ByteArray.mk #[]),(ByteArray.mk #[]),PA,cH,0,0,0,a⟩:aZ)) hs.p3 eI rfl rfl (λ _ hs=>aE eI hs.At (have hs:=hs.p3.dU (Ψ:=(λ w=>Deep.dr w (⟨kd,(ByteArray.mk #[]),(ByteArray.mk #[]),PA,cH,0,0,0,a⟩:aZ) (⟨kd,(ByteArray.mk #[]),(ByteArray.mk #[]),e,[],0,0,0,a⟩:bN))) (λ _ h=>⟨_,_,rfl,id (h),DL.nil _⟩);have hs:=((hs.p1.drop.p1).drop).p1;(xf hs).mut)))
 ·obtain⟨rfl,rfl⟩:=MJ hp Y0;refine bD amH hs.p2 (H':=λ _=>bY p (ef lv ov (kL l s).1)) (Φ:=λ v _=>v=.int .i64 (kL l s).2) (λ F2 dY dW=>?_) ?_
  ·exact C319 p lv ov l s F2 _ dY (λ w' hc=>hT w' (dW w' hc).aF) hk h0
  rintro _ _ rfl hs;refine aA jG (aS hs.p1 bL (dI rfl) (rfl) (λ _ hs=>?_));have hs:=hs.enc (cs':=Flat.enc (⟨kd,(ByteArray.mk #[]),(ByteArray.mk #[]),cH,cH,(kL l s).2,0,0,a⟩:aZ)) rfl;intro xB;exact aE eI hs.At (aJ (x:=(⟨kd,(ByteArray.mk #[]),(ByteArray.mk #[]),cH,cH,(kL l s).2,0,0,a⟩:aZ)) hs.p2 eI rfl rfl (λ _ hs=>aE eI hs.At (have hs:=hs.fT (Φ:=(λ w=>Deep.dr w (⟨kd,(ByteArray.mk #[]),(ByteArray.mk #[]),cH,cH,(kL l s).2,0,0,a⟩:aZ) (⟨kd,(ByteArray.mk #[]),(ByteArray.mk #[]),[],[],(kL l s).2,0,0,a⟩:bN))) (λ _=>⟨_,_,rfl,DL.nil _,DL.nil _⟩);have hs:=((hs.p1.drop.p1).drop).p1;(xf hs).mut)))
 obtain⟨rfl,rfl⟩:=MK hp wB mS yt vy Rf Ek Y0;intro xB;exact aE eI hs.At (aJ (x:=(⟨kd,(ByteArray.mk #[]),(ByteArray.mk #[]),cH,cH,0,0,0,a⟩:aZ)) hs.p1 eI rfl rfl (λ _ hs=>aE eI hs.At (have hs:=hs.fT (Φ:=(λ w=>Deep.dr w (⟨kd,(ByteArray.mk #[]),(ByteArray.mk #[]),cH,cH,0,0,0,a⟩:aZ) (⟨kd,(ByteArray.mk #[]),(ByteArray.mk #[]),[],[],0,0,0,a⟩:bN))) (λ _=>⟨_,_,rfl,DL.nil _,DL.nil _⟩);have hs:=((hs.p1.drop.p1).drop).p1;(xf hs).mut)))
def iz(l:List bR)(a:Int):Nat->Int
 | 0=>1
 | n+1=>if tz l a (Ho ((n:Int)+2))=true then(n:Int)+2 else iz l a n
theorem Sp{l:List bR}{a:Int}:∀n:Nat,1<=iz l a n/\iz l a n<=(n:Int)+1
 | 0=>by unfold iz;omega
 | n+1=>by
  have:=Sp (l:=l) (a:=a) n
  unfold iz
  omega
theorem ML{l:List bR}{a:Int}:∀n:Nat,iz l a n=1\/∃t,tz l a t=true
 | 0=>.inl rfl
 | n+1=>by
  unfold iz
  split
  ·grind
  ·exact ML n
theorem Hp{l:List bR}{a:Int}{n:Nat}(h:tz l a (Ho ((n:Int)+2))=true):iz l a (n+1)=(n:Int)+2:=if_pos h
theorem Hq{l:List bR}{a:Int}{n:Nat}(h:¬ tz l a (Ho ((n:Int)+2))=true):iz l a (n+1)=iz l a n:=if_neg h
def s1S(l:List bR)(s:fK):fK:=if iz l s.at_ 13≠1 then {s with at_:=s.at_+1}else s
theorem Jg{l:List bR}{s:fK}(h:lg l s):lg l (s1S l s):=by
 unfold s1S
 split
 ·rename_i h1
  rcases ML (l:=l) (a:=s.at_) 13 with h2|⟨t,h2⟩
  ·omega
  have:=sB h2
  exact⟨by grind,by grind⟩
 exact h
abbrev ags:ByteArray:=⟨#[101,108,115,101]⟩
def ko(l:List bR)(kd:Int)(s:fK):Bool:=decide (kd=11)&&decide (s.e=0)&&tz l s.at_ ags
def T3(s:fK):fK:={s with at_:=s.at_+1}
abbrev adG:=fK->Int->Int->Option (fK×List bN)
def CJ(l:List bR)(bY:adG)(s:fK)(d lp:Int):Option (fK×List bN):=
 if iz l s.at_ 13=13/\lp=0 then some (js l s 5,[])
 else(kM l (s1S l s) (iz l s.at_ 13) (nd l s.at_)).bind λ r=>
  if iz l s.at_ 13≠11/\iz l s.at_ 13≠12 then some (dQ l r.1 ⟨#[59]⟩,[r.2])
  else(bY r.1 (d+1) (if iz l s.at_ 13=12 then lp+1 else lp)).bind λ q=>
   if ko l (iz l s.at_ 13) q.1=true then(bY (T3 q.1) (d+1) lp).bind λ t=>some (t.1,{r.2 with body:=(q.2.length:Int),eo:=(t.2.length:Int)}::(q.2++t.2))
   else some (q.1,{r.2 with body:=(q.2.length:Int)}::q.2)
section
variable {l:List bR}{bY:adG}{s s':fK}{d lp:Int}{add:List bN}
theorem Sq(h:CJ l bY s d lp=some (s',add))(hb:iz l s.at_ 13=13/\lp=0):s'=js l s 5/\add=[]:=by
 unfold CJ at h;grind
theorem Y3(h:CJ l bY s d lp=some (s',add))(hb:¬ (iz l s.at_ 13=13/\lp=0)):∃s2 x,kM l (s1S l s) (iz l s.at_ 13) (nd l s.at_)=some (s2,x)/\
  (if iz l s.at_ 13≠11/\iz l s.at_ 13≠12 then some (dQ l s2 ⟨#[59]⟩,[x])
  else(bY s2 (d+1) (if iz l s.at_ 13=12 then lp+1 else lp)).bind λ q=>
   if ko l (iz l s.at_ 13) q.1=true then(bY (T3 q.1) (d+1) lp).bind λ t=>some (t.1,{x with body:=(q.2.length:Int),eo:=(t.2.length:Int)}::(q.2++t.2))
   else some (q.1,{x with body:=(q.2.length:Int)}::q.2))=some (s',add):=by
 unfold CJ at h;rw[if_neg hb]at h
 obtain⟨p,q,h1,h2⟩:=eM h
 grind
theorem Sr{kd:Int}{s2:fK}{x:bN}(h:(if kd≠11/\kd≠12 then some (dQ l s2 ⟨#[59]⟩,[x])
  else(bY s2 (d+1) (if kd=12 then lp+1 else lp)).bind λ q=>
   if ko l kd q.1=true then(bY (T3 q.1) (d+1) lp).bind λ t=>some (t.1,{x with body:=(q.2.length:Int),eo:=(t.2.length:Int)}::(q.2++t.2))
   else some (q.1,{x with body:=(q.2.length:Int)}::q.2))=some (s',add)) (hk:¬ (kd≠11/\kd≠12)) :
  ∃s3 m1,bY s2 (d+1) (if kd=12 then lp+1 else lp)=some (s3,m1)/\
   ((ko l kd s3=true/\∃s5 m2,bY (T3 s3) (d+1) lp=some (s5,m2)/\s'=s5/\add={x with body:=(m1.length:Int),eo:=(m2.length:Int)}::(m1++m2))\/
    (ko l kd s3=false/\s'=s3/\add={x with body:=(m1.length:Int)}::m1)):=by
 rw[if_neg hk]at h
 obtain⟨s3,m1,h1,h2⟩:=eM h
 refine⟨s3,m1,h1,?_⟩
 dsimp only at h2
 cases he:ko l kd s3 with
 | true=>
  rw[he,if_pos rfl]at h2
  obtain⟨s5,m2,h3,h4⟩:=eM h2
  grind
 | false=>
  grind
theorem Hr{kd:Int}{s2:fK}{x:bN}(h:(if kd≠11/\kd≠12 then some (dQ l s2 ⟨#[59]⟩,[x])
  else(bY s2 (d+1) (if kd=12 then lp+1 else lp)).bind λ q=>
   if ko l kd q.1=true then(bY (T3 q.1) (d+1) lp).bind λ t=>some (t.1,{x with body:=(q.2.length:Int),eo:=(t.2.length:Int)}::(q.2++t.2))
   else some (q.1,{x with body:=(q.2.length:Int)}::q.2))=some (s',add)) (hk:kd≠11/\kd≠12):s'=dQ l s2 ⟨#[59]⟩/\add=[x]:=by
 grind
end
abbrev Co:ByteArray:=⟨#[123]⟩
abbrev oq:ByteArray:=⟨#[125]⟩
def tC(l:List bR)(one:fK->Option (fK×List bN)):Nat->fK->Option (fK×List bN)
 | 0,_=>none
 | m+1,s=>if (decide (s.e=0)&&!tz l s.at_ oq)=true then(one s).bind λ r=>(tC l one m r.1).bind λ q=>some (q.1,r.2++q.2)else some (s,[])
def UO(l:List bR)(s:fK)(d:Int):fK:=if (decide (12<d)&&tz l s.at_ Co)=true then js l s 7 else s
theorem PB{l:List bR}{s:fK}{d:Int}(h:lg l s):lg l (UO l s d):=by unfold UO;split;exact tB h;exact h
def UP(l:List bR):Nat->adG
 | 0=>λ _ _ _=>none
 | k+1=>λ s d lp=>(tC l (λ s=>CJ l (UP l k) s d lp) 10000 (dQ l (UO l s d) Co)).bind λ r=>some (dQ l r.1 oq,r.2)
section
variable {l:List bR}{one:fK->Option (fK×List bN)}{s s':fK}{d lp:Int}{add:List bN}{m:Nat}
theorem Hs(h:tC l one m s=some (s',add)):∃k,m=k+1:=by
 cases m with
 | zero=>cases h
 | succ k=>grind
theorem Fa(h:tC l one (m+1) s=some (s',add))(hb:(decide (s.e=0)&&!tz l s.at_ oq)=false):s'=s/\add=[]:=by
 unfold tC at h;grind
theorem Jh(h:tC l one (m+1) s=some (s',add))(hb:(decide (s.e=0)&&!tz l s.at_ oq)=true):∃s1 a1 a2,one s=some (s1,a1)/\tC l one m s1=some (s',a2)/\add=a1++a2:=by
 unfold tC at h;rw[hb,if_pos rfl]at h
 obtain⟨s1,a1,h1,h2⟩:=eM h
 obtain⟨s2,a2,h3,h4⟩:=eM h2
 grind
theorem Y4{k:Nat}(h:UP l (k+1) s d lp=some (s',add)):∃s1,tC l (λ s=>CJ l (UP l k) s d lp) 10000 (dQ l (UO l s d) Co)=some (s1,add)/\s'=dQ l s1 oq:=by
 unfold UP at h
 obtain⟨s1,a1,h1,h2⟩:=eM h
 grind
end
theorem PC{l:List bR}{bY:adG}{s s':fK}{d lp:Int}{add:List bN}(hb:∀s d lp s' a,lg l s->bY s d lp=some (s',a)->lg l s')(h0:lg l s)(h:CJ l bY s d lp=some (s',add)):lg l s':=by
 by_cases h1:iz l s.at_ 13=13/\lp=0
 ·rw[(Sq h h1).1];exact tB h0
 obtain⟨s2,x,h2,h3⟩:=Y3 h h1
 have h2i:=BQ (Jg h0) h2
 by_cases h4:iz l s.at_ 13≠11/\iz l s.at_ 13≠12
 ·rw[(Hr h3 h4).1];exact fD h2i
 obtain⟨s3,m1,h5,h6⟩:=Sr h3 h4
 have h3i:=hb _ _ _ _ _ h2i h5
 rcases h6 with⟨h7,s5,m2,h8,h9,_⟩|⟨_,h9,_⟩
 ·rw[h9]
  refine hb _ _ _ _ _ ?_ h8
  unfold ko at h7
  rw[Bool.and_eq_true]at h7
  have:=sB h7.2
  grind[lg,T3]
 grind
theorem Ss{l:List bR}{one:fK->Option (fK×List bN)}(ho:∀s s' a,lg l s->one s=some (s',a)->lg l s'):∀{m:Nat}{s s':fK}{add:List bN},lg l s->tC l one m s=some (s',add)->lg l s'
 | 0,_,_,_,_,h=>by cases h
 | m+1,s,s',add,h0,h=>by
  cases hb:(decide (s.e=0)&&!tz l s.at_ oq)with
  | false=>rw[(Fa h hb).1];exact h0
  | true=>
   obtain⟨s1,a1,a2,h1,h2,_⟩:=Jh h hb
   exact Ss ho (ho _ _ _ h0 h1) h2
theorem PH{l:List bR}:∀{k:Nat}{s s':fK}{d lp:Int}{add:List bN},lg l s->UP l k s d lp=some (s',add)->lg l s'
 | 0,_,_,_,_,_,_,h=>by cases h
 | k+1,s,s',d,lp,add,h0,h=>by
  obtain⟨s1,h1,h2⟩:=Y4 h
  rw[h2]
  exact fD (Ss (λ _ _ _ a b=>PC (λ _ _ _ _ _ c e=>PH c e) a b) (fD (PB h0)) h1)
def pT(p:Nat)(lv:Value)(s:fK)(out:List bN)(Q:World->Prop):HP:=qd λ ov:Value=>qd λ ts:List aZ=>sep (bY p (ef lv ov s)) (sep (bG ov ts) (fk (λ w=>jh ts out w/\Q w)))
section
variable {w0 w:World}{A:Nat->Prop}{L:List HP}{p:Nat}{lv:Value}{s:fK}{out:List bN}{Q:World->Prop}
theorem pT.open(hs:St w0 A (pT p lv s out Q::L) w):∃(ov:Value) (ts:List aZ),St w0 A (bY p (ef lv ov s)::bG ov ts::fk (λ w=>jh ts out w/\Q w)::L) w:=by
 obtain⟨ov,h1⟩:=hs.er
 obtain⟨ts,h2⟩:=h1.er
 exact⟨ov,ts,h2.split.p1.split.p2⟩
theorem pT.shut{ov:Value}{ts:List aZ}(hs:St w0 A (bY p (ef lv ov s)::bG ov ts::fk (λ w=>jh ts out w/\Q w)::L) w):St w0 A (pT p lv s out Q::L) w:=
 St.et (H:=λ ov:Value=>qd λ ts:List aZ=>sep (bY p (ef lv ov s)) (sep (bG ov ts) (fk (λ w=>jh ts out w/\Q w)))) ov (St.et (H:=λ ts:List aZ=>sep (bY p (ef lv ov s)) (sep (bG ov ts) (fk (λ w=>jh ts out w/\Q w)))) ts (St.join (hs.p2.p2.join).p1))
end
def ajH(l:List bR)(k:Nat):Prop:=∀(p:Nat) (lv:Value) (s:fK) (d lp:Int) (out:List bN) (s2:fK) (add:List bN) (Q:World->Prop) (F:Nat->Prop) (w:World),
 (pT p lv s out Q).p w F->(∀w',gq F w w'->dC (λ _=>True) w' lv l)->lg l s->0<=d/\d+k<=1001->0<=lp/\lp+k<=1001->out.length+add.length<=1000000->UP l k s d lp=some (s2,add)->
 Calls Tryz.prog 293 [.pointer (some ⟨p,0,none⟩),.int .i64 d,.int .i64 lp].toArray w (tX λ v w'=>v=.int .i64 (add.length:Int)/\mL F (pT p lv s2 (out++add) Q) w w')
theorem adH{w:World}{sh:aZ}{x:bN}(h:Deep.dr w sh x):DL w (Flat.val sh.e) x.e:=by obtain⟨_,_,rfl,h,_⟩:=h;exact h
theorem adI{w:World}{sh:aZ}{x:bN}(h:Deep.dr w sh x):DL w (Flat.val sh.f) x.f:=by obtain⟨_,_,rfl,_,h⟩:=h;exact h
theorem PI{l:List bR}{kd:Int}{s:fK}(h:ko l kd s=true):lg l (T3 s):=by
 unfold ko at h
 rw[Bool.and_eq_true]at h
 have:=sB h.2
 grind[lg,T3]
theorem adJ{α σ:Type}[Flat σ][Deep α σ]{w:World}{ts:List σ}{xs:List α}{i:Nat}{t:σ}{x:α}(h:jh ts xs w)(ht:Deep.dr w t x):jh (ts.set i t) (xs.set i x) w:=by
 grind[jh]
theorem Y5{α:Type}{a b:List α}{x y:α}:(a++x::b).set a.length y=a++y::b:=by
 grind
theorem C256(p:Nat)(lv:Value)(l:List bR)(s:fK)(k:Nat)(d lp:Int)(out:List bN)(s2:fK)(add:List bN)(Q:World->Prop)(F:Nat->Prop)(w:World)(hF:(pT p lv s out Q).p w F)(hT:∀w',gq F w w'->dC (λ _=>True) w' lv l)(hk:jb l)(h0:lg l s)(HB:ajH l k)(hd:0<=d/\d+k<=1000)(hlp:0<=lp/\lp+k<=1000)(FY:out.length+add.length<=1000000)(hr:CJ l (UP l k) s d lp=some (s2,add)):CR 256 [(.pointer (some ⟨p,0,none⟩)),.int .i64 d,.int .i64 lp] w (λ v w'=>v=.tuple #[]/\mL F (pT p lv s2 (out++add) Q) w w'):=by
 have hs:=St.begin hF;obtain⟨ov,ts,hs⟩:=pT.open hs;have Nv:ts.length=out.length:=(hs.p2.fk).1.1;have C5:=hk.n;have hn:l.length<=1000000:=by omega
 have rZ:=hk.at_;obtain⟨Si,Sj⟩:=id h0;refine abk _ _ _ _ _ ?_;unfold S256;refine aD (aA ix (have hs:=hs.drew;aB jg hs.hb rfl (aD (aA eV (aB bL hs.hb rfl (aT Gp hs (C214 _ l s.at_ _ (hT _ hs.aF) hn rZ) (λ _ he hs=>?_)))))));have hs:=hs.p2.p2.p2;refine⟨λ mm a b w'=>∃j:Nat,a=.int .i64 (iz l s.at_ j)/\b=.int .i64 ((j:Int)+2)/\mm=13-j/\j<=13/\St w F [bY p (ef lv ov s),bG ov ts,fk (λ w=>jh ts out w/\Q w)] w',⟨_,0,rfl,rfl,rfl,Nat.zero_le _,hs⟩,?_⟩;rintro mm _ _ w2 ⟨j,rfl,rfl,rfl,hj,hs⟩ _;refine im (aC (λ iF=>?_) (λ iF=>?_))
 ·refine⟨_,?_,λ _ _ h=>h⟩;refine aD (aA ix (have hs:=hs.drew;aB jg hs.hb rfl (aD (aA eV (aB bL hs.hb rfl (aT amw hs (C290 ((j:Int)+2) _ (by omega)) (λ _ he hs=>?_)))))));refine⟨aG jg (hs.hb.cell rfl),?_⟩;refine⟨aG bL (hs.hb.cell rfl),?_⟩;refine aT vx hs (C209 _ l s.at_ (Ho ((j:Int)+2)) _ (hT _ hs.aF) hn) (λ _ he hs=>aW (λ lU=>?_) (λ lU=>?_))
  ·intro vz;refine aK (by omega) ?_;exact⟨_,by omega,j+1,congrArg (Value.int .i64) (by first|exact(Hp lU).symm|exact(Hq (by rw[lU];simp)).symm),congrArg (Value.int .i64) (by omega),rfl,by omega,hs⟩
  ·intro vz;refine aK (by omega) ?_;exact⟨_,by omega,j+1,congrArg (Value.int .i64) (by first|exact(Hp lU).symm|exact(Hq (by rw[lU];simp)).symm),congrArg (Value.int .i64) (by omega),rfl,by omega,hs⟩
 ·obtain rfl:j=13:=by omega
  have Wm:=Sp (l:=l) (a:=s.at_) 13;refine⟨λ jv w'=>jv=.bool (decide ((iz l s.at_ 13)=13/\lp=0))/\w2=w',?_,?_⟩
  ·refine aH (aC (λ ti=>?_) (λ ti=>?_))
   ·refine aH ?_;exact⟨xS (by omega),rfl⟩
   ·exact⟨jvF (by omega),rfl⟩
  ·rintro _ _ ⟨rfl,hw⟩ _;subst hw;refine aC (λ qk=>?_) (λ qk=>?_)
   ·refine bD Gr hs (H':=λ _=>bY p (ef lv ov (js l s 5))) (Φ:=λ _ _=>True) (λ F2 dY dW=>?_) ?_
    ·exact(C291 p lv ov l s 5 F2 _ dY (λ w' hc=>hT w' (dW w' hc).aF) hk h0).mono λ _ _ r=>r.mono λ _ _ h=>⟨trivial,h.2⟩
    rintro _ _ _ hs;obtain⟨e1,e2⟩:=Sq hr qk;rw[e1,e2,List.append_nil];exact⟨rfl,(pT.shut hs).mut⟩
   ·refine⟨λ w'=>St w F [bY p (ef lv ov (s1S l s)),bG ov ts,fk (λ w=>jh ts out w/\Q w)] w',?_,?_⟩
    ·refine bV (aC (λ wz=>?_) (λ wz=>?_))
     ·refine aD (aA eV (aB bL hs.hb rfl (aK (by omega) (aD (aA eV (aS hs bL (dI rfl) (rfl) (λ _ hs=>?_)))))));have hs:=hs.p2.p2.p2;have TC:(s1S l s)={s with at_:=s.at_+1}:=by unfold s1S;rw[if_pos (by omega)]
      rw[TC];exact hs
     ·have hs:=hs.p2.p2.p2;have TC:(s1S l s)=s:=by unfold s1S;rw[if_neg (by omega)]
      rw[TC];exact hs
    ·intro _ hs _;obtain⟨q,x,oZ,FI⟩:=Y3 hr qk;refine bD amx hs (H':=λ v=>qd λ sh:aZ=>fact (v=Flat.val sh) (sep (bY p (ef lv ov q)) (fk (λ w=>Deep.dr w sh x)))) (Φ:=λ _ _=>True) (λ F2 dY dW=>?_) ?_
     ·exact(C292 p lv ov l (s1S l s) (iz l s.at_ 13) (nd l s.at_) q x F2 _ dY (λ w' hc=>hT w' (dW w' hc).aF) hk (Jg h0) oZ).mono λ _ _ r=>r.mono λ _ _ h=>⟨trivial,h⟩
     rintro v_x58 _ _ wQ;obtain⟨axp,yy⟩:=wQ.er
     clear wQ
     obtain⟨ajI,Df⟩:=yy.me
     clear yy
     subst ajI;have hs:=Df.split
     clear Df
     obtain⟨gE,gF,ajJ,hde,hdf⟩:=hs.p1.fk;subst ajJ;refine aM hs jq (λ Bp _ hs=>have hs:=hs.enc (cs':=Flat.enc (⟨0,(ByteArray.mk #[]),(ByteArray.mk #[]),cH,cH,0,0,0,0⟩:aZ)) rfl;aJ (x:=(⟨(x).kind,(x).eC,(x).name,gE,gF,(x).n,(x).body,(x).eo,(x).at_⟩:aZ)) hs eI rfl rfl (λ _ hs=>aD (aA pY (aB jF hs.p1.hb rfl (aI fo (hs.p3).dX (aD (aA pY (have hs:=hs.drew;aB jF hs.p1.hb rfl (aE eI hs.At (aX ([(⟨(x).kind,(x).eC,(x).name,gE,gF,(x).n,(x).body,(x).eo,(x).at_⟩:aZ)]) hs fo rfl rfl (dI rfl) (λ agc _ hs=>?_)))))))))))
     refine⟨aG jF (hs.p2.hb.cell rfl),?_⟩;have ajK:=(hs).dX;refine bI hs.p4 fo ajK (by simp;omega) (by decide) (λ Su _ hs=>have hs:=hs.p1.drop;aD (aA pY (aS hs.p2 jF (dI rfl) ((hs).dX.one) (λ _ hs=>?_))));refine⟨λ jv w'=>jv=.bool (decide ((iz l s.at_ 13)≠11/\(iz l s.at_ 13)≠12))/\St w F [bY p (ef lv Su q),bG Su (ts++[(⟨(x).kind,(x).eC,(x).name,gE,gF,(x).n,(x).body,(x).eo,(x).at_⟩:aZ)]),fk (λ w=>jh (ts++[(⟨(x).kind,(x).eC,(x).name,gE,gF,(x).n,(x).body,(x).eo,(x).at_⟩:aZ)]) (out++[x]) w/\(λ w=>Q w/\Deep.dr w (⟨(x).kind,(x).eC,(x).name,gE,gF,(x).n,(x).body,(x).eo,(x).at_⟩:aZ) x) w),bY Bp (Flat.enc (⟨(x).kind,(x).eC,(x).name,gE,gF,(x).n,(x).body,(x).eo,(x).at_⟩:aZ))] w',?_,?_⟩
     ·refine bV (aC (λ c_x75=>?_) (λ c_x75=>?_))
      ·refine bV ?_;have hs:=hs.p3.p4.gR.dU (Ψ:=λ w=>jh (ts++[(⟨(x).kind,(x).eC,(x).name,gE,gF,(x).n,(x).body,(x).eo,(x).at_⟩:aZ)]) (out++[x]) w/\(λ w=>Q w/\Deep.dr w (⟨(x).kind,(x).eC,(x).name,gE,gF,(x).n,(x).body,(x).eo,(x).at_⟩:aZ) x) w) (λ _ h=>⟨h.1.1.snoc h.2,h.1.2,h.2⟩);have hs:=hs.p3.p1.p3.p3;exact⟨vb (by grind),hs⟩
      ·have hs:=hs.p3.p4.gR.dU (Ψ:=λ w=>jh (ts++[(⟨(x).kind,(x).eC,(x).name,gE,gF,(x).n,(x).body,(x).eo,(x).at_⟩:aZ)]) (out++[x]) w/\(λ w=>Q w/\Deep.dr w (⟨(x).kind,(x).eC,(x).name,gE,gF,(x).n,(x).body,(x).eo,(x).at_⟩:aZ) x) w) (λ _ h=>⟨h.1.1.snoc h.2,h.1.2,h.2⟩);have hs:=hs.p3.p1.p3.p3;exact⟨vb (by grind),hs⟩
     ·rintro _ w16 ⟨rfl,hs⟩ _;refine aC (λ Re=>?_) (λ Re=>?_)
      ·refine bD ye hs (H':=λ _=>bY p (ef lv Su (dQ l q (ByteArray.mk #[59])))) (Φ:=λ _ _=>True) (λ F2 dY dW=>?_) ?_
       ·exact(C257 p lv Su l q (ByteArray.mk #[59]) F2 _ dY (λ w' hc=>hT w' (dW w' hc).aF) hk (BQ (Jg h0) oZ)).mono λ _ _ r=>r.mono λ _ _ h=>⟨trivial,h.2⟩
       rintro _ _ _ hs;have hs:=(hs.p3.drop.p1.p1.p2).dU (Ψ:=λ w=>jh (ts++[(⟨(x).kind,(x).eC,(x).name,gE,gF,(x).n,(x).body,(x).eo,(x).at_⟩:aZ)]) (out++[x]) w/\Q w) (λ _ h=>⟨h.1,h.2.1⟩);have hs:=hs.p2.p2;obtain⟨e1,e2⟩:=Hr FI Re;rw[e1,e2];exact⟨rfl,(pT.shut hs).mut⟩
      ·refine⟨λ jv w'=>jv=.int .i64 (if (iz l s.at_ 13)=12 then lp+1 else lp)/\w16=w',?_,?_⟩
       ·refine aH (aC (λ c_x84=>?_) (λ c_x84=>?_))
        ·refine aK (by omega) ?_;exact⟨by rw[if_pos (by omega)],rfl⟩
        ·exact⟨by rw[if_neg (by omega)],rfl⟩
       ·rintro _ _ ⟨rfl,hw⟩ _;subst hw;refine aK (by omega) ?_;have hs:=pT.shut hs.p2.p2.p2;obtain⟨s3,m1,JE,hcs⟩:=Sr FI Re;have hm1:m1.length<add.length:=by rcases hcs with⟨_,s5,m2,_,_,e⟩|⟨_,_,e⟩<;>rw[e]<;>simp<;>omega
        refine bD ae8 hs (H':=λ _=>pT p lv s3 ((out++[x])++m1) (λ w=>Q w/\Deep.dr w (⟨(x).kind,(x).eC,(x).name,gE,gF,(x).n,(x).body,(x).eo,(x).at_⟩:aZ) x)) (Φ:=λ v _=>v=.int .i64 (m1.length:Int)) (λ F2 dY dW=>?_) ?_
        ·exact HB p lv q (d+1) (if (iz l s.at_ 13)=12 then lp+1 else lp) (out++[x]) s3 m1 (λ w=>Q w/\Deep.dr w (⟨(x).kind,(x).eC,(x).name,gE,gF,(x).n,(x).body,(x).eo,(x).at_⟩:aZ) x) F2 _ dY (λ w' hc=>hT w' (dW w' hc).aF) (BQ (Jg h0) oZ) (by omega) (by split<;>omega) (by rw[List.length_append,List.length_singleton];omega) JE
        rintro _ _ rfl hs;obtain⟨ov3,vf,hs⟩:=pT.open hs;refine aA iO (aS hs.p3 bL (dI rfl) (rfl) (λ _ hs=>?_));have hs:=hs.enc (cs':=Flat.enc (⟨(x).kind,(x).eC,(x).name,gE,gF,(x).n,(m1.length:Int),(x).eo,(x).at_⟩:aZ)) rfl;refine⟨λ w'=>∃(bd el:Int) (rest:List bN),add={x with body:=bd,eo:=el}::rest/\St w F [pT p lv s2 ((out++[x])++rest) (λ w=>Q w/\Deep.dr w (⟨(x).kind,(x).eC,(x).name,gE,gF,(x).n,(x).body,(x).eo,(x).at_⟩:aZ) x),bY Bp (Flat.enc (⟨(x).kind,(x).eC,(x).name,gE,gF,(x).n,bd,el,(x).at_⟩:aZ))] w',?_,?_⟩
        ·refine⟨λ jv w'=>jv=.bool (ko l (iz l s.at_ 13) s3)/\St w F [bY p (ef lv ov3 s3),bG ov3 vf,fk (λ w=>jh vf ((out++[x])++m1) w/\(λ w=>Q w/\Deep.dr w (⟨(x).kind,(x).eC,(x).name,gE,gF,(x).n,(x).body,(x).eo,(x).at_⟩:aZ) x) w),bY Bp (Flat.enc (⟨(x).kind,(x).eC,(x).name,gE,gF,(x).n,(m1.length:Int),(x).eo,(x).at_⟩:aZ))] w',?_,?_⟩
         ·refine aH (aC (λ Ht=>?_) (λ Ht=>?_))
          ·refine aD (aA kC (have hs:=hs.drew;aB jD hs.p1.hb rfl (aH (aC (λ Bt=>?_) (λ Bt=>?_)))))
           ·refine aD (aA ix (aB jg hs.p1.hb rfl (aD (aA eV (aB bL hs.p1.hb rfl (aT vx hs (C209 _ l s3.at_ (ByteArray.mk #[101,108,115,101]) _ (hT _ hs.aF) hn) (λ _ he hs=>?_)))))));have hs:=hs.p3.p3.p3;exact⟨vb (by unfold ko;rw[decide_eq_true Ht,decide_eq_true Bt];rfl),hs⟩
           ·have hs:=hs.p3.p3.p3;exact⟨vb (by unfold ko;first|(rw[decide_eq_false Ht];rfl)|(rw[decide_eq_true Ht,decide_eq_false Bt];rfl)),hs⟩
          ·have hs:=hs.drew.p3.p3.p3;exact⟨vb (by unfold ko;first|(rw[decide_eq_false Ht];rfl)|(rw[decide_eq_true Ht,decide_eq_false Bt];rfl)),hs⟩
         ·rintro _ _ ⟨rfl,hs⟩ _;refine aW (λ qJ=>?_) (λ qJ=>?_)
          ·obtain⟨hhe,s5,m2,hb2,e5,tG⟩|⟨hhe,_⟩:=hcs
           rotate_left
           ·rw[hhe]at qJ;cases qJ
           subst e5;have hin3:=sB (show tz l s3.at_ ags=true by unfold ko at qJ;rw[Bool.and_eq_true]at qJ;exact qJ.2);refine aD (aA eV (aB bL hs.hb rfl (aK (by omega) (aD (aA eV (aS hs bL (dI rfl) (rfl) (λ _ hs=>aK (by omega) ?_)))))));have hs:=pT.shut (s:=T3 s3) hs.p2.p2.p2;have hkd11:(iz l s.at_ 13)=11:=by unfold ko at qJ;simp at qJ;exact qJ.1.1
           rw[if_neg (show ¬ (iz l s.at_ 13)=12 by omega)];refine bD ae8 hs (H':=λ _=>pT p lv s2 (((out++[x])++m1)++m2) (λ w=>Q w/\Deep.dr w (⟨(x).kind,(x).eC,(x).name,gE,gF,(x).n,(x).body,(x).eo,(x).at_⟩:aZ) x)) (Φ:=λ v _=>v=.int .i64 (m2.length:Int)) (λ F2 dY dW=>?_) ?_
           ·exact HB p lv (T3 s3) (d+1) lp ((out++[x])++m1) s2 m2 (λ w=>Q w/\Deep.dr w (⟨(x).kind,(x).eC,(x).name,gE,gF,(x).n,(x).body,(x).eo,(x).at_⟩:aZ) x) F2 _ dY (λ w' hc=>hT w' (dW w' hc).aF) (PI qJ) (by omega) (by omega) (by have:=congrArg List.length tG;simp at this |-;omega) hb2
           rintro _ _ rfl hs;rw[List.append_assoc (out++[x])]at hs;refine aA iw (aS hs.p1 bL (dI rfl) (rfl) (λ _ hs=>?_));have hs:=hs.enc (cs':=Flat.enc (⟨(x).kind,(x).eC,(x).name,gE,gF,(x).n,(m1.length:Int),(m2.length:Int),(x).at_⟩:aZ)) rfl;have hs:=hs.p1;exact⟨_,_,_,tG,hs⟩
          ·obtain⟨hhe,_⟩|⟨hhe,e5,tG⟩:=hcs
           ·rw[hhe]at qJ;cases qJ
           subst e5;have hs:=((pT.shut hs.p2.p2.p2).p1).p1;exact⟨(m1.length:Int),x.eo,m1,tG,hs⟩
        ·rintro _ ⟨bd,el,rest,tG,hs⟩ _;obtain⟨ov5,ts5,hs⟩:=pT.open hs;refine aD (aA pY (have hs:=hs.drew;aB jF hs.hb rfl (aE eI hs.p3.At ?_)));have h5l:ts5.length=(out++[x]++rest).length:=(hs.p2.fk).1.1;have h6l:=congrArg List.length tG;simp only[List.length_append,List.length_cons,List.length_nil]at h5l h6l;obtain⟨axr,asE⟩:=gx (ts5) (i:=(((ts).length:Int)).toNat) (by omega);refine dM hs.p1 fo (by omega) (by omega) (λ _ ajL=>jm _ hs.p1 eI ajL (by omega) (λ _ hs=>?_));have hs:=(hs.p3.drop.p1.p2).dU (Ψ:=λ w=>jh (ts5.set (ts.length:Int).toNat (⟨(x).kind,(x).eC,(x).name,gE,gF,(x).n,bd,el,(x).at_⟩:aZ)) (out++add) w/\Q w) (λ _ h=>⟨by
  have hh:=adJ (i:=(ts.length:Int).toNat) (t:=(⟨(x).kind,(x).eC,(x).name,gE,gF,(x).n,bd,el,(x).at_⟩:aZ)) (x:={x with body:=bd,eo:=el}) h.1 ⟨gE,gF,rfl,adH (x:=x) h.2.2,adI (x:=x) h.2.2⟩;rw[show(ts.length:Int).toNat=out.length from by omega,List.append_assoc,List.singleton_append,Y5]at hh
  rw[tG,show(ts.length:Int).toNat=out.length from by omega];exact hh,h.2.1⟩)
         have hs:=hs.p2.p2;exact⟨rfl,(pT.shut hs).mut⟩
theorem C293(p:Nat)(lv:Value)(l:List bR)(s:fK)(k:Nat)(d lp:Int)(out:List bN)(s2:fK)(add:List bN)(Q:World->Prop)(F:Nat->Prop)(w:World)(hF:(pT p lv s out Q).p w F)(hT:∀w',gq F w w'->dC (λ _=>True) w' lv l)(hk:jb l)(h0:lg l s)(HB:ajH l k)(hd:0<=d/\d+k<=1000)(hlp:0<=lp/\lp+k<=1000)(FY:out.length+add.length<=1000000)(hr:UP l (k+1) s d lp=some (s2,add)):CR 293 [(.pointer (some ⟨p,0,none⟩)),.int .i64 d,.int .i64 lp] w (λ v w'=>v=.int .i64 (add.length:Int)/\mL F (pT p lv s2 (out++add) Q) w w'):=by
 have hs:=St.begin hF;obtain⟨ov,ts,hs⟩:=pT.open hs;have Nv:ts.length=out.length:=(hs.p2.fk).1.1;obtain⟨s9,Yi,e2⟩:=Y4 hr;have C5:=hk.n;have hn:l.length<=1000000:=by omega
 have rZ:=hk.at_;obtain⟨Si,Sj⟩:=id h0;refine oY Tryz.func293 (pl:=at5) ?_;refine aD (aA pY (aB jF hs.hb rfl (aI fo (hs.p1).dX ⟨λ w'=>St w F [bY p (ef lv ov (UO l s d)),bG ov ts,fk (λ w=>jh ts out w/\Q w)] w',⟨λ jv w'=>jv=.bool (decide (12<d)&&tz l s.at_ Co)/\St w F [bY p (ef lv ov s),bG ov ts,fk (λ w=>jh ts out w/\Q w)] w',cP (aC (λ _=>aD (aA ix (have hs:=hs.drew;aB jg hs.hb rfl (aD (aA eV (aB bL hs.hb rfl (aT vx hs (C209 _ l s.at_ (ByteArray.mk #[123]) _ (hT _ hs.aF) hn) (λ _ _ hs=>⟨vb (by first|(rw[decide_eq_true (show 12<d by omega)];rfl)|(rw[decide_eq_false (show ¬ 12<d by omega)];rfl)),hs⟩)))))))) (λ _=>have hs:=hs.drew;⟨vb (by first|(rw[decide_eq_true (show 12<d by omega)];rfl)|(rw[decide_eq_false (show ¬ 12<d by omega)];rfl)),hs⟩)),?_⟩,?_⟩)))
 ·rintro _ _ ⟨rfl,hs⟩ _;refine aW (λ jw=>?_) (λ jw=>?_)
  ·refine bD Gr hs (H':=λ _=>bY p (ef lv ov (js l s 7))) (Φ:=λ _ _=>True) (λ F2 dY dW=>?_) ?_
   ·exact(C291 p lv ov l s 7 F2 _ dY (λ w' hc=>hT w' (dW w' hc).aF) hk h0).mono λ _ _ r=>r.mono λ _ _ h=>⟨trivial,h.2⟩
   rintro _ _ _ hs;have hs:=hs.p2.p2.p2;have h7:UO l s d=js l s 7:=by unfold UO;rw[if_pos jw]
   rw[h7];exact hs
  have hs:=hs.p2.p2.p2;have h7:UO l s d=s:=by unfold UO;rw[if_neg (by rw[jw];simp)]
  rw[h7];exact hs
 intro _ hs _;refine bD ye hs (H':=λ _=>bY p (ef lv ov (dQ l (UO l s d) (ByteArray.mk #[123])))) (Φ:=λ _ _=>True) (λ F2 dY dW=>?_) ?_
 ·exact(C257 p lv ov l (UO l s d) (ByteArray.mk #[123]) F2 _ dY (λ w' hc=>hT w' (dW w' hc).aF) hk (PB h0)).mono λ _ _ r=>r.mono λ _ _ h=>⟨trivial,h.2⟩
 rintro _ _ _ hs;have hs:=pT.shut (s:=dQ l (UO l s d) Co) hs.p2.p2.p2;refine⟨λ mm w'=>∃(s1:fK) (o1 a2:List bN),lg l s1/\tC l (λ s=>CJ l (UP l k) s d lp) mm s1=some (s9,a2)/\add=o1++a2/\St w F [pT p lv s1 (out++o1) Q] w',⟨10000,_,[],add,fD (PB h0),Yi,rfl,by rw[List.append_nil];exact hs⟩,?_⟩;rintro mm _ ⟨s1,o1,a2,MM,JE,tG,hs⟩ _;obtain⟨m,rfl⟩:=Hs JE;obtain⟨ov1,Wi,hs⟩:=pT.open hs;have adK:Wi.length=(out++o1).length:=(hs.p2.fk).1.1;rw[List.length_append]at adK;refine⟨λ jv w'=>jv=.bool (decide (s1.e=0)&&!tz l s1.at_ oq)/\St w F [bY p (ef lv ov1 s1),bG ov1 Wi,fk (λ w=>jh Wi (out++o1) w/\Q w)] w',aD (aA kC (have hs:=hs.drew;aB jD hs.hb rfl (aH (aC (λ lz=>aD (aA ix (aB jg hs.hb rfl (aD (aA eV (aB bL hs.hb rfl (aT vx hs (C209 _ l s1.at_ (ByteArray.mk #[125]) _ (hT _ hs.aF) hn) (λ _ _ hs=>bQ (have hs:=hs.p2.p2.p2;⟨vb (by first|(rw[decide_eq_true lz];rfl)|(rw[decide_eq_false lz];rfl)),hs⟩))))))))) (λ lz=>have hs:=hs.p2.p2.p2;⟨vb (by first|(rw[decide_eq_true lz];rfl)|(rw[decide_eq_false lz];rfl)),hs⟩))))),?_⟩
 rintro _ _ ⟨rfl,hs⟩ _;refine aW (λ wz=>?_) (λ wz=>?_)
 ·obtain⟨s3,a1,a3,ho,hb3,rfl⟩:=Jh JE wz;have hs:=pT.shut hs.p2.p2.p2;refine bD ae6 hs (H':=λ _=>pT p lv s3 ((out++o1)++a1) Q) (Φ:=λ _ _=>True) (λ F2 dY dW=>?_) ?_
  ·exact(C256 p lv l s1 k d lp (out++o1) s3 a1 Q F2 _ dY (λ w' hc=>hT w' (dW w' hc).aF) hk MM HB (by omega) (by omega) (by have:=congrArg List.length tG;simp at this |-;omega) ho).mono λ _ _ r=>r.mono λ _ _ h=>⟨trivial,h.2⟩
  rintro _ _ _ hs;exact⟨_,by omega,s3,o1++a1,a3,PC (λ _ _ _ _ _ c e=>PH c e) MM ho,hb3,by rw[tG,List.append_assoc],by rw[<- List.append_assoc];exact hs⟩
 obtain⟨e9,rfl⟩:=Fa JE wz;replace e9:=e9.symm;subst e9;rw[List.append_nil]at tG;subst tG;refine bD ye hs (H':=λ _=>bY p (ef lv ov1 (dQ l s1 (ByteArray.mk #[125])))) (Φ:=λ _ _=>True) (λ F2 dY dW=>?_) ?_
 ·exact(C257 p lv ov1 l s1 (ByteArray.mk #[125]) F2 _ dY (λ w' hc=>hT w' (dW w' hc).aF) hk MM).mono λ _ _ r=>r.mono λ _ _ h=>⟨trivial,h.2⟩
 rintro _ _ _ hs;refine aD (aA pY (aB jF hs.hb rfl (aI fo (hs.p1).dX (fe (by omega) ?_))));rw[e2];exact⟨congrArg (Value.int .i64) (by omega),(pT.shut hs).mut⟩
theorem aqz{l:List bR}(hk:jb l):∀k,ajH l k
 | 0=>λ p lv s d lp out s2 add Q F w _ _ _ _ _ _ h=>by cases h
 | k+1=>λ p lv s d lp out s2 add Q F w hF hT h0 hd hlp FY h=>C293 p lv l s k d lp out s2 add Q F w hF hT hk h0 (aqz hk k) (by omega) (by omega) FY h
def tV(i:Int):fK:=⟨i,0,0⟩
def Fb(l:List bR)(i op:Int):Option (List bN×Int×Int×Int):=
 (tC l (λ s=>CJ l (UP l 20) s 0 0) 10000 (tV i)).bind λ r=>
  if 1000000<r.2.length then none else if (dQ l r.1 oq).e≠0 then some ([],0,(dQ l r.1 oq).e,(dQ l r.1 oq).pos)
  else if 40<r.2.length then some ([],0,2,(pe l op).at_)
  else some (r.2,(dQ l r.1 oq).at_,0,0)
def Ji(l:List bR)(s:fK):Bool:=match lJ l s.at_ with|some t=>decide (t.kind=2)|none=>false
def jB(l:List bR)(nb:Bool)(s:fK):fK×cJ:=
 if (nb&&(iu l (eW l s).1 JI).2)=true then
  (if Ji l (iu l (eW l s).1 JI).1=true then(T3 (iu l (eW l s).1 JI).1,{ (eW l s).2 with n:=(pe l (iu l (eW l s).1 JI).1.at_).n})
  else(js l (iu l (eW l s).1 JI).1 5,(eW l s).2))
 else eW l s
abbrev BR:ByteArray:=⟨#[44]⟩
abbrev Sv:ByteArray:=⟨#[59]⟩
def pI(l:List bR)(nb:Bool):Nat->Bool->fK->Option (fK×List cJ)
 | 0,_,_=>none
 | m+1,more,s=>if (more&&decide (s.e=0))=true then(pI l nb m (iu l (jB l nb s).1 BR).2 (iu l (jB l nb s).1 BR).1).bind λ r=>some (r.1,(jB l nb s).2::r.2)else some (s,[])
def nf(l:List bR)(nb:Bool)(s:fK):Option (fK×List cJ):=(pI l nb 10000 true s).bind λ r=>if 1000000<r.2.length then none else some (dQ l r.1 Sv,r.2)
abbrev T4:ByteArray:=⟨#[114,101,103]⟩
def AO(l:List bR)(s:fK):Option (fK×List ByteArray):=
 if (iu l s T4).2=true then(nf l false (iu l s T4).1).bind λ r=>some (r.1,r.2.map cJ.name)else some (s,[])
def tD(l:List bR)(s:fK)(nm:ByteArray)(a:Int):Option (fK×cN):=
 (AO l (dQ l s Co)).bind λ r=>
  if r.1.e≠0 then some (r.1,⟨nm,r.2,[],a⟩)
  else(Fb l r.1.at_ s.at_).bind λ R=>if 0<=R.2.1/\R.2.1<=l.length then some (⟨R.2.1,R.2.2.1,R.2.2.2⟩,⟨nm,r.2,R.1,a⟩)else none
def xg(l:List bR)(s:fK)(a:Int):Option (fK×gG):=
 (vL l s.at_).bind λ R=>if R.2.2.1≠0 then some ({s with e:=R.2.2.1,pos:=R.2.2.2},⟨[],0⟩)
  else if 0<=R.2.1/\R.2.1<=l.length then some (dQ l {s with at_:=R.2.1} Sv,⟨R.1,a⟩)else none
def mW{α:Type}(l:List bR)(t:ByteArray)(rd:fK->Option (fK×α)):Nat->fK->Option (fK×List α)
 | 0,_=>none
 | m+1,s=>if (iu l s t).2=true then(rd (iu l s t).1).bind λ r=>(mW l t rd m r.1).bind λ q=>some (q.1,r.2::q.2)else some (s,[])
def zj(l:List bR)(s:fK):Int:=(pe l (s.at_-1)).at_
def PJ(l:List bR)(s:fK):Option (fK×List cN):=
 if (iu l s ⟨#[114,101,99,111,118,101,114]⟩).2=true then(tD l (iu l s ⟨#[114,101,99,111,118,101,114]⟩).1 ⟨#[]⟩ (zj l (iu l s ⟨#[114,101,99,111,118,101,114]⟩).1)).bind λ r=>some (r.1,[r.2])else some (s,[])
abbrev Y6:ByteArray:=⟨#[108,105,110,101]⟩
abbrev ajM:ByteArray:=⟨#[118,111,108]⟩
abbrev Y7:ByteArray:=⟨#[108,111,99,107]⟩
abbrev Jj:ByteArray:=⟨#[116,104,114,101,97,100]⟩
abbrev Jk:ByteArray:=⟨#[97,108,119,97,121,115]⟩
def ajN(l:List bR)(s:fK):Option (fK×cN):=tD l (eW l s).1 (eW l s).2.name (eW l s).2.at_
def F8(l:List bR)(s:fK):fK:=if s.at_<l.length then js l s 5 else s
def MN:cG:=⟨[],[],[],[],[],[]⟩
def vp(t:ByteArray):Option (cG×Int×Int):=
 (vJ t).bind λ L=>if L.2.1≠0 then some (MN,L.2.1,L.2.2)else
 (mW L.1 Y6 (nf L.1 true) 10000 (tV 0)).bind λ r1=>
 (mW L.1 ajM (nf L.1 true) 10000 r1.1).bind λ r2=>
 (mW L.1 Y7 (nf L.1 false) 10000 r2.1).bind λ r3=>
 (mW L.1 Jj (ajN L.1) 10000 r3.1).bind λ r4=>
 (PJ L.1 r4.1).bind λ r5=>
 (mW L.1 Jk (λ s=>xg L.1 s (zj L.1 s)) 10000 r5.1).bind λ r6=>
  if 1000000<r1.2.length\/1000000<r2.2.flatten.length\/1000000<r3.2.flatten.length\/1000000<r4.2.length\/1000000<r6.2.length then none else if (F8 L.1 r6.1).e≠0 then some (MN,(F8 L.1 r6.1).e,(F8 L.1 r6.1).pos)else some (⟨r1.2,r2.2.flatten,r3.2.flatten,r4.2,r5.2,r6.2⟩,0,0)
section
variable {l:List bR}{s s':fK}
theorem Y8{t:ByteArray}(h:(iu l s t).2=true):iu l s t=({s with at_:=s.at_+1},true)/\s.e=0/\0<=s.at_/\s.at_<l.length:=by
 unfold iu at h |-
 split at h
 ·rename_i h2
  rw[if_pos h2]
  rw[Bool.and_eq_true,decide_eq_true_eq]at h2
  exact⟨rfl,h2.1,sB h2.2⟩
 cases h
theorem xh{t:ByteArray}(h:(iu l s t).2=false):iu l s t=(s,false):=by
 grind[iu]
theorem Fc{nb:Bool}(h:lg l s):lg l (jB l nb s).1:=by
 have h1:=uK h
 have h2:=ke (t:=JI) h1
 unfold jB
 split
 ·split
  ·rename_i h3
   unfold Ji at h3
   cases ht:lJ l (iu l (eW l s).1 JI).1.at_ with
   | none=>grind
   | some t=>
    have:=mF ht
    exact⟨by show 0<=(iu l (eW l s).1 JI).1.at_+1;omega,by show(iu l (eW l s).1 JI).1.at_+1<=_;omega⟩
  exact tB h2
 exact h1
theorem Hu{nb:Bool}:∀{m:Nat}{more:Bool}{s s':fK}{x:List cJ},lg l s->pI l nb m more s=some (s',x)->lg l s'
 | 0,_,_,_,_,_,h=>by cases h
 | m+1,more,s,s',x,h0,h=>by
  unfold pI at h
  split at h
  ·obtain⟨q,y,h1,h2⟩:=eM h
   cases h2
   exact Hu (ke (Fc h0)) h1
  grind
theorem xM{nb:Bool}{x:List cJ}(h:nf l nb s=some (s',x)):∃s1,pI l nb 10000 true s=some (s1,x)/\s'=dQ l s1 Sv/\x.length<=1000000:=by
 unfold nf at h
 obtain⟨q,y,h1,h2⟩:=eM h
 grind
theorem xN{nb:Bool}{x:List cJ}(h0:lg l s)(h:nf l nb s=some (s',x)):lg l s':=by
 obtain⟨s1,h1,h2,_⟩:=xM h
 rw[h2];exact fD (Hu h0 h1)
theorem MO{nb more:Bool}{m:Nat}{x:List cJ}(h:pI l nb m more s=some (s',x)):∃k,m=k+1:=by
 cases m with
 | zero=>cases h
 | succ k=>grind
theorem Fe{nb more:Bool}{m:Nat}{x:List cJ}(h:pI l nb (m+1) more s=some (s',x))(hb:(more&&decide (s.e=0))=false):s'=s/\x=[]:=by
 unfold pI at h;grind
theorem T5{nb more:Bool}{m:Nat}{x:List cJ}(h:pI l nb (m+1) more s=some (s',x))(hb:(more&&decide (s.e=0))=true):∃y,pI l nb m (iu l (jB l nb s).1 BR).2 (iu l (jB l nb s).1 BR).1=some (s',y)/\x=(jB l nb s).2::y:=by
 unfold pI at h;rw[hb,if_pos rfl]at h
 obtain⟨q,y,h1,h2⟩:=eM h
 grind
theorem MP{x:List ByteArray}(h0:lg l s)(h:AO l s=some (s',x)):lg l s':=by
 unfold AO at h
 split at h
 ·obtain⟨q,y,h1,h2⟩:=eM h
  cases h2
  exact xN (ke h0) h1
 grind
theorem Ff{nm:ByteArray}{a:Int}{x:cN}(h0:lg l s)(h:tD l s nm a=some (s',x)):lg l s':=by
 unfold tD at h
 obtain⟨q,y,h1,h2⟩:=eM h
 have h3:=MP (fD h0) h1
 dsimp only at h2
 split at h2
 ·grind
 cases hr:Fb l q.at_ s.at_ with
 | none=>grind
 | some R=>
  grind[lg]
theorem T6{a:Int}{x:gG}(h0:lg l s)(h:xg l s a=some (s',x)):lg l s':=by
 unfold xg at h
 cases hr:vL l s.at_ with
 | none=>grind
 | some R=>
  rw[hr]at h
  simp only[Option.bind_some]at h
  split at h
  ·cases h;exact h0
  ·split at h
   ·rename_i h4;cases h;exact fD h4
   ·cases h
theorem sD{α:Type}{t:ByteArray}{rd:fK->Option (fK×α)}{m:Nat}{x:List α}(h:mW l t rd m s=some (s',x)):∃k,m=k+1:=by
 cases m with
 | zero=>cases h
 | succ k=>grind
theorem uL{α:Type}{t:ByteArray}{rd:fK->Option (fK×α)}{m:Nat}{x:List α}(h:mW l t rd (m+1) s=some (s',x))(hb:(iu l s t).2=false):s'=s/\x=[]:=by
 unfold mW at h;grind
theorem xi{α:Type}{t:ByteArray}{rd:fK->Option (fK×α)}{m:Nat}{x:List α}(h:mW l t rd (m+1) s=some (s',x))(hb:(iu l s t).2=true):∃s1 y z,rd (iu l s t).1=some (s1,y)/\mW l t rd m s1=some (s',z)/\x=y::z:=by
 unfold mW at h;rw[hb,if_pos rfl]at h
 obtain⟨q,y,h1,h2⟩:=eM h
 obtain⟨q2,y2,h3,h4⟩:=eM h2
 grind
end
def noQ:World->Prop:=λ _=>True
theorem AP{l:List bR}{i:Int}{t:bR}(h0:0<=i)(h:l[i.toNat]?=some t):pe l i=t:=by
 unfold pe lJ;grind
theorem adL{l:List bR}{i op:Int}{R:List bN×Int×Int×Int}(h:Fb l i op=some R):∃s9 add,tC l (λ s=>CJ l (UP l 20) s 0 0) 10000 (tV i)=some (s9,add)/\add.length<=1000000/\
  ((dQ l s9 oq).e≠0->R=([],0,(dQ l s9 oq).e,(dQ l s9 oq).pos))/\(¬ (dQ l s9 oq).e≠0->40<(add.length:Int)->R=([],0,2,(pe l op).at_))/\
  (¬ (dQ l s9 oq).e≠0->¬ 40<(add.length:Int)->R=(add,(dQ l s9 oq).at_,0,0)):=by
 unfold Fb at h
 obtain⟨q,y,h1,h2⟩:=eM h
 grind
section
variable {l:List bR}{s s':fK}{nb:Bool}
theorem T7(hn:nb=true)(h2:(iu l (eW l s).1 JI).2=true)(h3:Ji l (iu l (eW l s).1 JI).1=true) :
  jB l nb s=(T3 (iu l (eW l s).1 JI).1,{ (eW l s).2 with n:=(pe l (iu l (eW l s).1 JI).1.at_).n}):=by
 unfold jB;grind
theorem T8(hn:nb=true)(h2:(iu l (eW l s).1 JI).2=true)(h3:Ji l (iu l (eW l s).1 JI).1=false) :
  jB l nb s=(js l (iu l (eW l s).1 JI).1 5,(eW l s).2):=by
 unfold jB;grind
theorem Y9(h2:(iu l (eW l s).1 JI).2=false):jB l nb s=((iu l (eW l s).1 JI).1,(eW l s).2):=by
 unfold jB;rw[if_neg (by grind),xh h2]
theorem Za(hn:nb=false):jB l nb s=((eW l s).1,(eW l s).2):=by
 grind[jB,eW]
theorem adM{q:fK}(h:Ji l q=true):∃tk,lJ l q.at_=some tk/\l[q.at_.toNat]?=some tk/\0<=q.at_/\q.at_<l.length:=by
 unfold Ji at h
 cases ht:lJ l q.at_ with
 | none=>grind
 | some tk=>have:=mF ht;grind
theorem Hv{x:List ByteArray}(h:AO l s=some (s',x))(h1:(iu l s T4).2=true):∃ys,nf l false (iu l s T4).1=some (s',ys)/\x=ys.map cJ.name:=by
 unfold AO at h;rw[if_pos h1]at h
 obtain⟨q,y,h2,h3⟩:=eM h
 grind
theorem MQ{x:List ByteArray}(h:AO l s=some (s',x))(h1:(iu l s T4).2=false):s'=s/\x=[]:=by
 unfold AO at h;grind
theorem PK{nm:ByteArray}{a:Int}{x:cN}(h:tD l s nm a=some (s',x)):∃q rs,AO l (dQ l s Co)=some (q,rs)/\
  (q.e≠0->s'=q/\x=⟨nm,rs,[],a⟩)/\(¬ q.e≠0->∃R,Fb l q.at_ s.at_=some R/\0<=R.2.1/\R.2.1<=l.length/\s'=⟨R.2.1,R.2.2.1,R.2.2.2⟩/\x=⟨nm,rs,R.1,a⟩):=by
 unfold tD at h
 obtain⟨q,rs,h1,h2⟩:=eM h
 refine⟨q,rs,h1,λ he=>?_,λ he=>?_⟩
 ·grind
 dsimp only at h2;rw[if_neg he]at h2
 cases hr:Fb l q.at_ s.at_ with
 | none=>grind
 | some R=>
  grind
theorem T9{a:Int}{x:gG}(h:xg l s a=some (s',x)):∃R,vL l s.at_=some R/\
  (R.2.2.1≠0->s'={s with e:=R.2.2.1,pos:=R.2.2.2}/\x=⟨[],0⟩)/\(¬ R.2.2.1≠0->(0<=R.2.1/\R.2.1<=l.length)/\s'=dQ l {s with at_:=R.2.1} Sv/\x=⟨R.1,a⟩):=by
 unfold xg at h
 cases hr:vL l s.at_ with
 | none=>grind
 | some R=>
  grind
theorem ajO{e:Int}(he:e≠0)(h:(js l s e).e=0):False:=by
 unfold js at h
 grind
theorem adN{t:ByteArray}(h:(dQ l s t).e=0):tz l s.at_ t=true:=by
 unfold dQ at h
 split at h
 ·grind
 exact(ajO (by decide) h).elim
theorem aqB{t:ByteArray}:(iu l s t).1.e=s.e:=by unfold iu;grind
theorem Ua{e:Int}(h:s.e≠0):(js l s e).e≠0:=by unfold js;grind
theorem PM{t:ByteArray}(h:s.e≠0):(dQ l s t).e≠0:=by
 unfold dQ;rw[if_neg (by grind)];exact Ua h
theorem MR:∀{m:Nat}{more:Bool}{s s':fK}{x:List cJ},s.e≠0->pI l nb m more s=some (s',x)->s'.e≠0
 | 0,_,_,_,_,_,h=>by cases h
 | m+1,more,s,s',x,h0,h=>by
  have:=Fe h (by grind)
  grind
theorem MS{x:List cJ}(h0:s.e≠0)(h:nf l nb s=some (s',x)):s'.e≠0:=by
 obtain⟨s1,h1,h2,_⟩:=xM h
 rw[h2];exact PM (MR h0 h1)
theorem PN{x:List ByteArray}(h0:s.e≠0)(h:AO l s=some (s',x)):s'.e≠0:=by
 cases h1:(iu l s T4).2 with
 | true=>obtain⟨ys,h2,_⟩:=Hv h h1;exact MS (by rw[aqB];exact h0) h2
 | false=>rw[(MQ h h1).1];exact h0
end
theorem F9{α β:Type}{f:α->β}{l:List α}{k:Nat}{e:α}(h:l[k]?=some e):(l.take k).map f++[f e]=(l.take (k+1)).map f:=by
 rw[<- gz h,List.map_append];rfl
theorem MT{l:List bR}{s s':fK}{x:List cN}(h:PJ l s=some (s',x))(h1:(iu l s ⟨#[114,101,99,111,118,101,114]⟩).2=true):∃y,tD l (iu l s ⟨#[114,101,99,111,118,101,114]⟩).1 ⟨#[]⟩ (zj l (iu l s ⟨#[114,101,99,111,118,101,114]⟩).1)=some (s',y)/\x=[y]:=by
 unfold PJ at h;rw[if_pos h1]at h
 obtain⟨q,y,h2,h3⟩:=eM h
 grind
theorem Sw{l:List bR}{s s':fK}{x:List cN}(h:PJ l s=some (s',x))(h1:(iu l s ⟨#[114,101,99,111,118,101,114]⟩).2=false):s'=s/\x=[]:=by
 unfold PJ at h;grind
theorem Ub{t:ByteArray}{l:List bR}{e a:Int}{R:cG×Int×Int}(h:vp t=some R)(hs:vJ t=some (l,e,a))(he:e≠0):R=(MN,e,a):=by
 unfold vp at h;rw[hs]at h
 simp only[Option.bind_some]at h
 rw[if_pos he]at h;exact(Option.some.inj h).symm
theorem PO{t:ByteArray}{R:cG×Int×Int}(h:vp t=some R):∃l e a,vJ t=some (l,e,a):=by
 unfold vp at h
 cases hs:vJ t with
 | none=>rw[hs]at h;cases h
 | some L=>exact⟨L.1,L.2.1,L.2.2,rfl⟩
structure ajP(l:List bR)(R:cG×Int×Int)(t1 t2 t3 t4 t5 t6:fK)(y1:List (List cJ))(y2 y3:List (List cJ))(y4 y5:List cN)(y6:List gG):Prop where
 h1:mW l Y6 (nf l true) 10000 (tV 0)=some (t1,y1)
 h2:mW l ajM (nf l true) 10000 t1=some (t2,y2)
 h3:mW l Y7 (nf l false) 10000 t2=some (t3,y3)
 h4:mW l Jj (ajN l) 10000 t3=some (t4,y4)
 h5:PJ l t4=some (t5,y5)
 h6:mW l Jk (λ s=>xg l s (zj l s)) 10000 t5=some (t6,y6)
 b1:y1.length<=1000000
 b2:y2.flatten.length<=1000000
 b3:y3.flatten.length<=1000000
 b4:y4.length<=1000000
 b6:y6.length<=1000000
 bad:(F8 l t6).e≠0->R=(MN,(F8 l t6).e,(F8 l t6).pos)
 axs:¬ (F8 l t6).e≠0->R=(⟨y1,y2.flatten,y3.flatten,y4,y5,y6⟩,0,0)
theorem Zb{t:ByteArray}{l:List bR}{e a:Int}{R:cG×Int×Int}(h:vp t=some R)(hs:vJ t=some (l,e,a))(he:¬ e≠0):∃t1 t2 t3 t4 t5 t6 y1 y2 y3 y4 y5 y6,ajP l R t1 t2 t3 t4 t5 t6 y1 y2 y3 y4 y5 y6:=by
 unfold vp at h;rw[hs]at h
 simp only[Option.bind_some]at h
 rw[if_neg he]at h
 obtain⟨t1,y1,h1,h⟩:=eM h
 obtain⟨t2,y2,h2,h⟩:=eM h
 obtain⟨t3,y3,h3,h⟩:=eM h
 obtain⟨t4,y4,h4,h⟩:=eM h
 obtain⟨t5,y5,h5,h⟩:=eM h
 obtain⟨t6,y6,h6,h⟩:=eM h
 dsimp only at h
 split at h
 ·cases h
 rename_i hb
 simp only[not_or,Nat.not_lt]at hb
 refine⟨t1,t2,t3,t4,t5,t6,y1,y2,y3,y4,y5,y6,h1,h2,h3,h4,h5,h6,hb.1,hb.2.1,hb.2.2.1,hb.2.2.2.1,hb.2.2.2.2,λ hh=>?_,λ hh=>?_⟩
 ·rw[if_pos hh]at h;exact(Option.some.inj h).symm
 rw[if_neg hh]at h;exact(Option.some.inj h).symm
theorem adO{l:List bR}{s s':fK}{x:List cN}(h0:lg l s)(h:PJ l s=some (s',x)):lg l s':=by
 cases h1:(iu l s ⟨#[114,101,99,111,118,101,114]⟩).2 with
 | true=>obtain⟨y,h2,_⟩:=MT h h1;exact Ff (ke h0) h2
 | false=>rw[(Sw h h1).1];exact h0
theorem AQ{α:Type}{a:List (List α)}{b:List α}:(a++[b]).flatten=a.flatten++b:=by simp
theorem Sx{α:Type}{y a c:List (List α)}{b:List α}(h:y=a++b::c):a.flatten.length+b.length<=y.flatten.length:=by grind
theorem C212(l:List bR)(lv:Value)(i op:Int)(R:List bN×Int×Int×Int)(w:World)(hL:dC (λ _=>True) w lv l)(hk:jb l)(h0:0<=i/\i<=l.length)(j1:0<=op/\op<l.length)(hr:Fb l i op=some R):CR 212 [lv,.int .i64 i,.int .i64 op] w (λ v w'=>∃sv:SV,v=.tuple #[Flat.val sv,.int .i64 R.2.1,.int .i64 R.2.2.1,.int .i64 R.2.2.2]/\lL (fk (λ w=>DL w (Flat.val sv) R.1)) w w'):=by
 have C5:=hk.n;have hn:l.length<=1000000:=by omega
 have rZ:=hk.at_;obtain⟨s9,add,Yi,FY,hR⟩:=adL hr;obtain⟨lsv,hlv⟩:=hL.fC;have hs:=St.start w;refine oY Tryz.func212 (pl:=atM) ?_;rw[hlv];refine pop (N5 _ _ _ _) (nk hs (λ aqC _ hs=>?_));obtain⟨p,rfl⟩:∃p,p=aqC:=⟨_,rfl⟩;have hs:=hs.enc (cs':=ef (Flat.val lsv) (.slice none 0 0) (tV i)) rfl;rw[<- hlv]at hs |-;have hT:∀w',gq aY w w'->dC (λ _=>True) w' lv l:=λ _ hc=>hL.ext hc;have hs:=((hs.fT (Φ:=λ w=>jh ([]:List aZ) ([]:List bN) w/\noQ w) λ _=>⟨jh.nil,trivial⟩).eJ (α:=aZ)).p2;have hs:=pT.shut hs;refine⟨λ mm w'=>∃(s1:fK) (o1 a2:List bN),lg l s1/\tC l (λ s=>CJ l (UP l 20) s 0 0) mm s1=some (s9,a2)/\add=o1++a2/\St w aY [pT p lv s1 (([]:List bN)++o1) noQ] w',⟨10000,tV i,[],add,(show lg l (tV i)from h0),Yi,rfl,by rw[List.append_nil];exact hs⟩,?_⟩
 rintro mm _ ⟨s1,o1,a2,MM,JE,tG,hs⟩ _;obtain⟨m,rfl⟩:=Hs JE;obtain⟨ov1,Wi,hs⟩:=pT.open hs;have adK:Wi.length=(([]:List bN)++o1).length:=(hs.p2.fk).1.1;rw[List.length_append]at adK;refine⟨λ jv w'=>jv=.bool (decide (s1.e=0)&&!tz l s1.at_ oq)/\St w aY [bY p (ef lv ov1 s1),bG ov1 Wi,fk (λ w=>jh Wi (([]:List bN)++o1) w/\noQ w)] w',aD (aA kC (have hs:=hs.drew;aB jD hs.hb rfl (aH (aC (λ eQ=>aD (aA ix (aB jg hs.hb rfl (aD (aA eV (aB bL hs.hb rfl (aT vx hs (C209 _ l s1.at_ (ByteArray.mk #[125]) _ (hT _ hs.aF) hn) (λ _ _ hs=>bQ (have hs:=hs.p2.p2.p2;⟨vb (by first|(rw[decide_eq_true eQ];rfl)|(rw[decide_eq_false eQ];rfl)),hs⟩))))))))) (λ eQ=>have hs:=hs.p2.p2.p2;⟨vb (by first|(rw[decide_eq_true eQ];rfl)|(rw[decide_eq_false eQ];rfl)),hs⟩))))),?_⟩
 rintro _ _ ⟨rfl,hs⟩ _;refine aW (λ lT=>?_) (λ lT=>?_)
 ·obtain⟨s3,a1,a3,ho,hb3,rfl⟩:=Jh JE lT;have hs:=pT.shut hs.p2.p2.p2;refine bD ae6 hs (H':=λ _=>pT p lv s3 ((([]:List bN)++o1)++a1) noQ) (Φ:=λ _ _=>True) (λ F2 dY dW=>?_) ?_
  ·exact(C256 p lv l s1 20 0 0 (([]:List bN)++o1) s3 a1 noQ F2 _ dY (λ w' hc=>hT w' (dW w' hc).aF) hk MM (aqz hk 20) (by omega) (by omega) (by have:=congrArg List.length tG;simp at this |-;omega) ho).mono λ _ _ r=>r.mono λ _ _ h=>⟨trivial,h.2⟩
  rintro _ _ _ hs;exact⟨_,by omega,s3,o1++a1,a3,PC (λ _ _ _ _ _ c e=>PH c e) MM ho,hb3,by rw[tG,List.append_assoc],by rw[<- List.append_assoc];exact hs⟩
 obtain⟨e9,rfl⟩:=Fa JE lT;replace e9:=e9.symm;subst e9;rw[List.append_nil]at tG;subst tG;obtain⟨axu,axv⟩:=id MM;simp only[List.length_nil,Nat.zero_add]at adK;refine bD ye hs (H':=λ _=>bY p (ef lv ov1 (dQ l s1 (ByteArray.mk #[125])))) (Φ:=λ _ _=>True) (λ F2 dY dW=>?_) ?_
 ·exact(C257 p lv ov1 l s1 (ByteArray.mk #[125]) F2 _ dY (λ w' hc=>hT w' (dW w' hc).aF) hk MM).mono λ _ _ r=>r.mono λ _ _ h=>⟨trivial,h.2⟩
 rintro _ _ _ hs;refine aD (aA kC (aB jD hs.hb rfl (bV (aC (λ wC=>?_) (λ wC=>aD (aA pY (aB jF hs.hb rfl (aI fo (hs.p1).dX (cP (aC (λ Ax=>?_) (λ Ax=>?_)))))))))))
 ·refine aD (aA kC (have hs:=hs.drew;aB jD hs.hb rfl (aD (aA zY (aB bL hs.hb rfl ?_)))));have hRR:R=([],0,(dQ l s1 oq).e,(dQ l s1 oq).pos):=hR.1 wC;rw[hRR];exact⟨cH,rfl,(hs.fT (Φ:=λ w=>DL w (Flat.val (cH:SV)) ([]:List bN)) λ w=>DL.nil w).fresh⟩
 ·obtain⟨XI,BC⟩:=gx (l) (i:=(op).toNat) (by omega);refine aO fG hL (by omega) BC (λ _ Lz=>bW (XI).at_ lu Lz rfl rfl (λ _ Ev=>have hs:=hs.drew;aE bL (Ev.ext hs.aF) ?_));have hRR:R=([],0,2,XI.at_):=(hR.2.1 wC (by omega)).trans (by rw[AP j1.1 BC]);rw[hRR];exact⟨cH,rfl,(hs.fT (Φ:=λ w=>DL w (Flat.val (cH:SV)) ([]:List bN)) λ w=>DL.nil w).fresh⟩
 refine aD (aA pY (have hs:=hs.drew;aB jF hs.hb rfl (aD (aA eV (aB bL hs.hb rfl ?_)))));have hs:=((hs.drop.p1).dU (Ψ:=jh Wi ([]++add)) (λ _ h=>h.1)).p1;have hs:=St.KH hs;obtain⟨sv,hsv⟩:=hs.oI;subst hsv;rw[hR.2.2 wC (by omega)];exact⟨sv,rfl,hs.nJ.fresh⟩
theorem C132(p:Nat)(lv:Value)(l:List bR)(s:fK)(nb:Bool)(s2:fK)(x:List cJ)(F:Nat->Prop)(w:World)(hF:(bY p (ey lv s)).p w F)(hT:∀w',gq F w w'->dC (λ _=>True) w' lv l)(hk:jb l)(h0:lg l s)(hr:nf l nb s=some (s2,x)):CR 132 [(.pointer (some ⟨p,0,none⟩)),.bool nb] w (λ v w'=>mL F (sep (bY p (ey lv s2)) (bG v x)) w w'):=by
 have hs:=St.begin hF;obtain⟨s9,UH,e2,FY⟩:=xM hr;have C5:=hk.n;have hn:l.length<=1000000:=by omega
 have rZ:=hk.at_;obtain⟨Si,Sj⟩:=id h0;refine oY Tryz.func132 (pl:=atz) ?_;refine aX (([]:List cJ)) hs g8 rfl rfl (dI rfl) (λ aja _ hs=>?_);have hs:=hs.p1.p1;refine⟨λ mm o mo w'=>∃(s1:fK) (b:Bool) (o1 a2:List cJ),mo=.bool b/\lg l s1/\pI l nb mm b s1=some (s9,a2)/\x=o1++a2/\St w F [bG o o1,bY p (ey lv s1)] w',⟨10000,s,true,[],x,rfl,h0,UH,rfl,hs⟩,?_⟩;rintro mm uT _ w2 ⟨s1,b,o1,a2,rfl,MM,Wj,hx,hs⟩ _;obtain⟨m,rfl⟩:=MO Wj;obtain⟨axu,axv⟩:=id MM;refine⟨λ jv w'=>jv=.bool (b&&decide (s1.e=0))/\w2=w',aW (λ AR=>aD (aA ma (aB jD hs.p1.hb rfl (aH ⟨vb (by first|(rw[AR];rfl)|(rw[AR];rfl)),rfl⟩)))) (λ AR=>⟨vb (by first|(rw[AR];rfl)|(rw[AR];rfl)),rfl⟩),?_⟩
 rintro _ _ ⟨rfl,hw⟩ _;subst hw;refine aW (λ dO=>?_) (λ dO=>?_)
 ·obtain⟨a3,hn3,rfl⟩:=T5 Wj dO;refine bD aeR hs.p1 (H':=λ _=>bY p (ey lv (eW l s1).1)) (Φ:=λ v _=>v=Flat.val (eW l s1).2) (λ F2 dY dW=>?_) ?_
  ·exact C133 p lv l s1 F2 _ dY (λ w' hc=>hT w' (dW w' hc).aF) hk MM
  rintro _ _ rfl hs;refine aM hs oE (λ aqD _ hs=>aJ (x:=(eW l s1).2) hs lP rfl rfl (λ _ hs=>⟨λ w'=>St w F [bY p (ey lv (jB l nb s1).1),bY aqD (Flat.enc (jB l nb s1).2),bG uT o1] w',⟨_,aW (λ vq=>?_) (λ vq=>?_),λ _ _ h=>h⟩,?_⟩))
  ·refine bD yd hs.p1 (H':=λ _=>bY p (ey lv (iu l (eW l s1).1 (ByteArray.mk #[61])).1)) (Φ:=λ v _=>v=.bool (iu l (eW l s1).1 (ByteArray.mk #[61])).2) (λ F2 dY dW=>?_) ?_
   ·exact C131 p lv l (eW l s1).1 (ByteArray.mk #[61]) F2 _ dY (λ w' hc=>hT w' (dW w' hc).aF) hk (uK MM)
   rintro _ _ rfl hs;intro xB;refine aW (λ jw=>?_) (λ jw=>?_)
   ·have hq:=ke (t:=ByteArray.mk #[61]) (uK MM);obtain⟨hq0,hq1⟩:=id hq;refine⟨λ jv w'=>jv=.bool (Ji l (iu l (eW l s1).1 (ByteArray.mk #[61])).1)/\St w F [bY p (ey lv (iu l (eW l s1).1 (ByteArray.mk #[61])).1),bY aqD (Flat.enc (eW l s1).2),bG uT o1] w',aD (aA fr (have hs:=hs.drew;aB bL hs.hb rfl (aD (aA jV (aB jg hs.hb rfl (aI fG (hT _ hs.aF) (aQ (aC (λ lU=>?_) (λ lU=>have hs:=hs.p2.p2.p2;⟨vb (by unfold Ji lJ;rw[if_pos hq0,List.getElem?_eq_none (by omega)]),hs⟩))))))))),?_⟩
    ·refine aD (aA jV (aB jg hs.hb rfl (aD (aA fr (aB bL hs.hb rfl ?_)))));obtain⟨aqE,Zc⟩:=gx (l) (i:=(((iu l (eW l s1).1 (ByteArray.mk #[61])).1).at_).toNat) (by omega);exact aO fG (hT _ hs.aF) (by omega) Zc (λ _ KT=>bW (aqE).kind lr KT rfl rfl (λ _ KU=>aE bL (KU) (aH (have hs:=hs.p2.p2.p2;⟨vb (by unfold Ji lJ;rw[if_pos hq0,Zc]),hs⟩))))
    rintro _ _ ⟨rfl,hs⟩ _;refine aW (λ rR=>?_) (λ rR=>?_)
    ·obtain⟨tk,YQ,GV,_,hqlt⟩:=adM rR;have Nx:pe l (iu l (eW l s1).1 (ByteArray.mk #[61])).1.at_=tk:=AP hq0 GV;refine aD (aA jV (have hs:=hs.drew;aB jg hs.hb rfl (aD (aA fr (aB bL hs.hb rfl (aO fG (hT _ hs.aF) (by omega) GV (λ _ Ev=>bW (tk).n rO Ev rfl rfl (λ _ aqF=>aE bL (aqF) (aA rJ (aS hs.p1 bL (dI rfl) (rfl) (λ _ hs=>have hs:=hs.enc (cs':=Flat.enc ({ (eW l s1).2 with n:=(tk).n}:cJ)) rfl;aD (aA fr ?_))))))))))));refine aB bL hs.p1.hb rfl (aK (by omega) (aD (aA fr (aS hs.p1 bL (dI rfl) (rfl) (λ _ hs=>?_)))))
     have hs:=hs.p2.p2.p2;have uG:(jB l nb s1)=(T3 (iu l (eW l s1).1 (ByteArray.mk #[61])).1,{ (eW l s1).2 with n:=tk.n}):=(T7 vq jw rR).trans (by rw[Nx]);rw[uG];exact hs
    refine bD QE hs (H':=λ _=>bY p (ey lv (js l (iu l (eW l s1).1 (ByteArray.mk #[61])).1 5))) (Φ:=λ _ _=>True) (λ F2 dY dW=>?_) ?_
    ·exact(C136 p lv l (iu l (eW l s1).1 (ByteArray.mk #[61])).1 F2 _ dY (λ w' hc=>hT w' (dW w' hc).aF) hk (ke (uK MM))).mono λ _ _ r=>r.mono λ _ _ h=>⟨trivial,h.2⟩
    rintro _ _ _ hs;have hs:=hs.p2.p2.p2;have uG:=T8 vq jw rR;rw[uG];exact hs
   have hs:=hs.p2.p2.p2;have uG:=Y9 (nb:=nb) jw;rw[uG];exact hs
  ·intro xB;refine fm ?_;have hs:=hs.p2.p1.p2;have uG:=Za (l:=l) (s:=s1) vq;rw[uG];exact hs
  intro _ hs _;refine aE lP hs.p1.At (aX ([(jB l nb s1).2]) hs g8 rfl rfl (dI rfl) (λ aqu _ hs=>?_));have ajQ:=(hs).dX;refine bI hs.p3 g8 ajQ (by have:=congrArg List.length hx;simp at this |-;omega) (by decide) (λ aqG _ hs=>have hs:=hs.p1.drop;bD yd hs.p1 (H':=λ _=>bY p (ey lv (iu l (jB l nb s1).1 (ByteArray.mk #[44])).1)) (Φ:=λ v _=>v=.bool (iu l (jB l nb s1).1 (ByteArray.mk #[44])).2) (λ F2 dY dW=>?_) ?_)
  ·exact C131 p lv l (jB l nb s1).1 (ByteArray.mk #[44]) F2 _ dY (λ w' hc=>hT w' (dW w' hc).aF) hk (Fc MM)
  rintro _ _ rfl hs;have hs:=(hs.p2.drop).p1;exact⟨_,by omega,(iu l (jB l nb s1).1 BR).1,(iu l (jB l nb s1).1 BR).2,o1++[(jB l nb s1).2],a3,rfl,ke (Fc MM),hn3,by rw[hx,List.append_assoc];rfl,hs⟩
 obtain⟨e9,rfl⟩:=Fe Wj dO;replace e9:=e9.symm;subst e9;rw[List.append_nil]at hx;subst hx;refine bD Vl hs.p1 (H':=λ _=>bY p (ey lv (dQ l s1 (ByteArray.mk #[59])))) (Φ:=λ _ _=>True) (λ F2 dY dW=>?_) ?_
 ·exact(C210 p lv l s1 (ByteArray.mk #[59]) F2 _ dY (λ w' hc=>hT w' (dW w' hc).aF) hk MM).mono λ _ _ r=>r.mono λ _ _ h=>⟨trivial,h.2⟩
 rintro _ _ _ hs;have hs:=hs.p1.p1;rw[e2];exact(St.join hs).mut
theorem C134(p:Nat)(lv:Value)(l:List bR)(s:fK)(nm:ByteArray)(a:Int)(s2:fK)(x:cN)(F:Nat->Prop)(w:World)(hF:(bY p (ey lv s)).p w F)(hT:∀w',gq F w w'->dC (λ _=>True) w' lv l)(hk:jb l)(h0:lg l s)(hr:tD l s nm a=some (s2,x)):CR 134 [(.pointer (some ⟨p,0,none⟩)),Flat.val (⟨nm,cH,cH,a⟩:cE)] w (λ v w'=>mL F (qd λ sh:cE=>fact (v=Flat.val sh) (sep (bY p (ey lv s2)) (fk (λ w=>Deep.dr w sh x)))) w w'):=by
 have hs:=St.begin hF;obtain⟨q,rs,CG,A6,IG⟩:=PK hr;have hqi:=MP (fD h0) CG;obtain⟨hqi0,hqi1⟩:=id hqi;have C5:=hk.n;have hn:l.length<=1000000:=by omega
 have rZ:=hk.at_;obtain⟨Si,Sj⟩:=id h0;refine oY Tryz.func134 (pl:=atB) ?_;refine cI (x:=(⟨nm,cH,cH,a⟩:cE)) hs (λ ajR _ hs=>aM hs sZ (λ Oh _ hs=>have hs:=hs.enc (cs':=Flat.enc (⟨(ByteArray.mk #[]),cH,cH,0⟩:cE)) rfl;aD (aA fr (aB bL hs.p2.hb rfl (bD Vl hs.p2 (H':=λ _=>bY p (ey lv (dQ l s (ByteArray.mk #[123])))) (Φ:=λ _ _=>True) (λ F2 dY dW=>?_) ?_)))))
 ·exact(C210 p lv l s (ByteArray.mk #[123]) F2 _ dY (λ w' hc=>hT w' (dW w' hc).aF) hk h0).mono λ _ _ r=>r.mono λ _ _ h=>⟨trivial,h.2⟩
 rintro _ _ _ hs;refine⟨λ w'=>∃rv:SV,St w F [bG (Flat.val rv) rs,bY ajR (Flat.enc (⟨nm,rv,cH,a⟩:cE)),bY Oh (Flat.enc (⟨(ByteArray.mk #[]),cH,cH,0⟩:cE)),bY p (ey lv q)] w',?_,?_⟩
 ·refine bD yd hs (H':=λ _=>bY p (ey lv (iu l (dQ l s (ByteArray.mk #[123])) (ByteArray.mk #[114,101,103])).1)) (Φ:=λ v _=>v=.bool (iu l (dQ l s (ByteArray.mk #[123])) (ByteArray.mk #[114,101,103])).2) (λ F2 dY dW=>?_) ?_
  ·exact C131 p lv l (dQ l s (ByteArray.mk #[123])) (ByteArray.mk #[114,101,103]) F2 _ dY (λ w' hc=>hT w' (dW w' hc).aF) hk (fD h0)
  rintro _ _ rfl hs;refine aW (λ eQ=>?_) (λ eQ=>?_)
  ·obtain⟨ys,hys,hrs⟩:=Hv CG eQ;have hyl:ys.length<=1000000:=by obtain⟨_,_,_,h⟩:=xM hys;exact h
   refine bD QD hs (H':=λ v=>sep (bY p (ey lv q)) (bG v ys)) (Φ:=λ _ _=>True) (λ F2 dY dW=>?_) ?_
   ·exact(C132 p lv l (iu l (dQ l s (ByteArray.mk #[123])) (ByteArray.mk #[114,101,103])).1 false q ys F2 _ dY (λ w' hc=>hT w' (dW w' hc).aF) hk (ke (fD h0)) hys).mono λ _ _ r=>r.mono λ _ _ h=>⟨trivial,h⟩
   rintro x21 _ _ hs;have hs:=(((((hs.split.eJ (α:=ByteArray)).p1).p3).p3).p4).p4;refine⟨λ mm i w'=>∃(j:Nat) (rv:SV),i=.int .i64 (j:Int)/\mm=ys.length-j/\j<=ys.length/\St w F [bG (Flat.val rv) ((ys.take j).map cJ.name),bY ajR (Flat.enc (⟨nm,rv,cH,a⟩:cE)),bG x21 ys,bY Oh (Flat.enc (⟨(ByteArray.mk #[]),cH,cH,0⟩:cE)),bY p (ey lv q)] w',⟨_,0,cH,rfl,rfl,Nat.zero_le _,hs⟩,?_⟩;rintro mm _ _ ⟨j,rv,rfl,rfl,hj,hs⟩ _;refine aI g8 (hs.p2).dX (aQ (aC (λ jw=>?_) (λ jw=>?_)))
   ·refine aA fN (have hs:=hs.drew;aB (v:=Flat.val (rv:SV)) iZ hs.p1.hb rfl ?_);obtain⟨agt,Zd⟩:=gx (ys) (i:=((j:Int)).toNat) (by omega);refine dM hs.p2 g8 (by omega) (by omega) (λ _ Au=>mf kz Au (λ _ qO=>nz (agt).name hs.p2 gj qO Zd rfl (aX ([(agt).name]) hs ik rfl rfl (dI rfl) (λ aot _ hs=>?_))));refine⟨aG iZ (hs.p2.hb.cell rfl),?_⟩;have ajS:=(hs).dX;refine bI hs.p1 ik ajS (by simp;omega) (by decide) (λ aou _ hs=>have hs:=hs.p1.drop;aA fN ?_);obtain⟨Ze,rfl⟩:=(hs).fC;exact aS hs.p1 iZ (dI rfl) (rfl) (λ _ hs=>have hs:=hs.enc (cs':=Flat.enc (⟨nm,Ze,cH,a⟩:cE)) rfl;aK (by omega) (have hs:=hs.p4.p4.p4.p3.p4;⟨_,by omega,j+1,Ze,rfl,rfl,by omega,by rw[<- F9 (k:=j) Zd];exact hs⟩))
   have hs:=(hs.p2.drop.p3.p3.p3).p3;rw[List.take_of_length_le (by omega)]at hs;rw[hrs];exact⟨rv,hs⟩
  have hs:=((((hs.eJ (α:=ByteArray)).p1).p2).p3).p3;obtain⟨e1,e3⟩:=MQ CG eQ;rw[xh eQ]at hs;rw[e1,e3];exact⟨cH,hs⟩
 rintro _ ⟨rv,hs⟩ _;refine⟨λ w'=>∃(rv bv:SV) (body:List bN),x=⟨nm,rs,body,a⟩/\St w F [bG (Flat.val rv) rs,fk (λ w=>DL w (Flat.val bv) body),bY ajR (Flat.enc (⟨nm,rv,bv,a⟩:cE)),bY Oh (Flat.enc (⟨(ByteArray.mk #[]),cH,cH,0⟩:cE)),bY p (ey lv s2)] w',aD (aA ma (aB jD hs.p3.hb rfl (aH (aC (λ qk=>?_) (λ qk=>?_))))),?_⟩
 ·obtain⟨R,hR,hR0,hR1,e2,hx⟩:=IG (by omega);have L9:(dQ l s Co).e=0:=Decidable.not_not.1 λ hh=>PN hh CG (by omega);have j1:=sB (adN L9);refine aD (aA jV (have hs:=hs.drew;aB jg hs.p3.hb rfl (aD (aA fr (aB bL hs.p3.hb rfl (dN ama (C212 l _ q.at_ s.at_ R _ (hT _ hs.aF) hk hqi j1 hR) ?_))))));rintro _ _ ⟨Zf,rfl,cO⟩;have hs:=hs.made cO;refine aN rfl (aN rfl (aN rfl (aN rfl (aA lj (aS hs.p2 jF (dI rfl) (rfl) (λ _ hs=>have hs:=hs.enc (cs':=Flat.enc (⟨nm,rv,Zf,a⟩:cE)) rfl;aD (aA fr (aS hs.p4 bL (dI rfl) (rfl) (λ _ hs=>aD (aA ma (aS hs jD (dI rfl) (rfl) (λ _ hs=>aD ?_))))))))))))
  refine aA wm (aS hs bL (dI rfl) (rfl) (λ _ hs=>?_));have hs:=hs.p4.p2.p3.p4;rw[e2];exact⟨rv,Zf,R.1,hx,hs⟩
 ·have hs:=hs.fT (Φ:=λ w=>DL w (Flat.val (cH:SV)) ([]:List bN)) λ w=>DL.nil w;have hs:=hs.p4.p4.p4.p3.p4;obtain⟨e2,hx⟩:=A6 qk;rw[e2];exact⟨rv,cH,[],hx,hs⟩
 rintro _ ⟨rv,bv,body,rfl,hs⟩ _;exact aE mQ hs.p2.At (aJ (x:=(⟨nm,rv,bv,a⟩:cE)) hs.p3 mQ rfl rfl (λ _ hs=>aE mQ hs.At (have hs:=hs.p1.freeze.p2.p1.gR.dU (Ψ:=(λ w=>Deep.dr w (⟨nm,rv,bv,a⟩:cE) (⟨nm,rs,body,a⟩:cN))) (λ _ h=>⟨_,_,rfl,DL.j3 h.1,id (h.2)⟩);have hs:=((hs.p1.drop.p1).drop).p1;(xf hs).mut)))
theorem C135(p:Nat)(lv:Value)(l:List bR)(s:fK)(a:Int)(s2:fK)(x:gG)(F:Nat->Prop)(w:World)(hF:(bY p (ey lv s)).p w F)(hT:∀w',gq F w w'->dC (λ _=>True) w' lv l)(hk:jb l)(h0:lg l s)(hr:xg l s a=some (s2,x)):CR 135 [(.pointer (some ⟨p,0,none⟩)),.int .i64 a] w (λ v w'=>mL F (qd λ sh:jr=>fact (v=Flat.val sh) (sep (bY p (ey lv s2)) (fk (λ w=>Deep.dr w sh x)))) w w'):=by
 have hs:=St.begin hF;obtain⟨R,hxr,A6,IG⟩:=T9 hr;have C5:=hk.n;have hn:l.length<=1000000:=by omega
 have rZ:=hk.at_;obtain⟨Si,Sj⟩:=id h0;refine oY Tryz.func135 (pl:=atC) ?_;refine aM hs N0 (λ Oh _ hs=>have hs:=hs.enc (cs':=Flat.enc (⟨cH,0⟩:jr)) rfl;aD (aA jV (have hs:=hs.drew;aB jg hs.p1.hb rfl (aD (aA fr (aB bL hs.p1.hb rfl (dN ae0 (C213 l _ s.at_ R _ (hT _ hs.aF) hk (by omega) hxr) ?_)))))));rintro _ _ ⟨Zg,rfl,cO⟩;have hs:=hs.made cO;refine aN rfl (aN rfl (aN rfl (aN rfl (bV (aC (λ nD=>?_) (λ nD=>?_))))))
 ·obtain⟨rfl,rfl⟩:=A6 nD;exact aD (aA ma (aS hs.p2 jD (dI rfl) (rfl) (λ _ hs=>aD (aA wm (aS hs bL (dI rfl) (rfl) (λ _ hs=>pop (v:=Flat.val (⟨cH,0⟩:jr)) (by kernel_rfl) (aJ (x:=(⟨cH,0⟩:jr)) hs.p2 Ib rfl rfl (λ _ hs=>aE Ib hs.At (have hs:=hs.fT (Φ:=(λ w=>Deep.dr w (⟨cH,0⟩:jr) (⟨[],0⟩:gG))) (λ _=>⟨_,rfl,DL.nil _⟩);have hs:=((hs.p1.drop.p2).drop).p1;(xf hs).mut)))))))))
 obtain⟨CG,rfl,rfl⟩:=IG nD;refine aD (aA fr (aS hs.p2 bL (dI rfl) (rfl) (λ _ hs=>have hs:=hs.enc (cs':=ey lv ({s with at_:=R.2.1}:fK)) rfl;bD Vl hs (H':=λ _=>bY p (ey lv (dQ l ({s with at_:=R.2.1}:fK) (ByteArray.mk #[59])))) (Φ:=λ _ _=>True) (λ F2 dY dW=>?_) ?_)))
 ·exact(C210 p lv l ({s with at_:=R.2.1}:fK) (ByteArray.mk #[59]) F2 _ dY (λ w' hc=>hT w' (dW w' hc).aF) hk (show lg l ({s with at_:=R.2.1}:fK)from CG)).mono λ _ _ r=>r.mono λ _ _ h=>⟨trivial,h.2⟩
 rintro _ _ _ hs;exact pop (GC _ _ _ _) (aJ (x:=(⟨Zg,a⟩:jr)) hs.p2 Ib rfl rfl (λ _ hs=>aE Ib hs.At (have hs:=hs.p2.dU (Ψ:=(λ w=>Deep.dr w (⟨Zg,a⟩:jr) (⟨R.1,a⟩:gG))) (λ _ h=>⟨_,rfl,id (h)⟩);have hs:=(hs.p1.drop).p1;(xf hs).mut)))
theorem C65(s:ByteArray)(R:cG×Int×Int)(w:World)(Tb:s.size<=1000000)(hr:vp s=some R)(hTk:∀l e a,vJ s=some (l,e,a)->jb l):CR 65 [.string s] w (λ v w'=>∃pv:bO,v=.tuple #[Flat.val pv,.int .i64 R.2.1,.int .i64 R.2.2]/\lL (fk (λ w=>Deep.dr w pv R.1)) w w'):=by
 obtain⟨l,e,a,hsc⟩:=PO hr;have hk:=hTk l e a hsc;have C5:=hk.n;have hn:l.length<=1000000:=by omega
 have rZ:=hk.at_;have hs:=St.start w;refine oY Tryz.func65 (pl:=P65) ?_;refine aM hs uX (λ vQ _ hs=>have hs:=hs.enc (cs':=Flat.enc (⟨cH,cH,cH,cH,cH,cH⟩:bO)) rfl;dN alY (C130 s (l,e,a) _ Tb hsc) ?_);rintro _ _ ⟨lv,rfl,cO⟩;have hs:=hs.made cO;refine aN rfl (aN rfl (aN rfl (bV (aC (λ lB=>?_) (λ lB=>?_)))))
 ·refine pop (v:=Flat.val (⟨cH,cH,cH,cH,cH,cH⟩:bO)) (by kernel_rfl) (aJ (x:=(⟨cH,cH,cH,cH,cH,cH⟩:bO)) hs.p1 ep rfl rfl (λ _ hs=>aE ep hs.At ?_));have hs:=hs.fT (Φ:=(λ w=>Deep.dr w (⟨cH,cH,cH,cH,cH,cH⟩:bO) (⟨[],[],[],[],[],[]⟩:cG))) (λ _=>⟨_,_,_,_,_,_,rfl,DL.nil _,DL.nil _,DL.nil _,DL.nil _,DL.nil _,DL.nil _⟩);have hs:=((hs.p1.drop).p1).drop;rw[Ub hr hsc lB];exact⟨_,rfl,hs.fresh⟩
 obtain⟨t1,t2,t3,t4,t5,t6,y1,y2,y3,y4,y5,y6,hp⟩:=Zb hr hsc lB;obtain⟨lsv,hlv⟩:=(hs).fC;rw[hlv];refine pop (VQ _ _ _) (nk hs (λ Q7 _ hs=>pop (v:=Flat.val (⟨cH,cH,cH,cH,cH,cH⟩:bO)) (by kernel_rfl) (aM hs uX (λ PQ _ hs=>have hs:=hs.enc (cs':=Flat.enc (⟨cH,cH,cH,cH,cH,cH⟩:bO)) rfl;aJ (x:=(⟨cH,cH,cH,cH,cH,cH⟩:bO)) hs ep rfl rfl (λ _ hs=>?_)))));obtain⟨p,rfl⟩:∃p,p=Q7:=⟨_,rfl⟩;have hs:=hs.p1.enc (cs':=ey (Flat.val lsv) (tV 0)) rfl;rw[<- hlv]at hs |-;have axx:lg l (tV 0):=⟨Int.le_refl _,by show(0:Int)<=_;omega⟩;have hs:=(((((hs.Ip (α:=(List cJ))).p4).p4).p3).p4).p4
 refine⟨λ mm w'=>∃(s0:fK) (v0:SV) (xs0 a0:List (List cJ)),lg l s0/\mW l Y6 (nf l true) mm s0=some (t1,a0)/\y1=xs0++a0/\St w aY [fV (Flat.val v0) xs0,bY PQ (Flat.enc (⟨v0,cH,cH,cH,cH,cH⟩:bO)),bY p (ey lv s0),bG lv l,bY vQ (Flat.enc (⟨cH,cH,cH,cH,cH,cH⟩:bO))] w',⟨10000,tV 0,cH,[],y1,axx,hp.h1,rfl,hs⟩,?_⟩;rintro mm _ ⟨s0,v0,xs0,a0,hi0,L9,hy0,hs⟩ _;obtain⟨m0,rfl⟩:=sD L9;refine bD yd hs.p2 (H':=λ _=>bY p (ey lv (iu l s0 (ByteArray.mk #[108,105,110,101])).1)) (Φ:=λ v _=>v=.bool (iu l s0 (ByteArray.mk #[108,105,110,101])).2) (λ F2 dY dW=>?_) ?_
 ·exact C131 p lv l s0 (ByteArray.mk #[108,105,110,101]) F2 _ dY (λ w' hc=>(dW w' hc).p2.dX) hk hi0
 rintro _ _ rfl hs;refine aW (λ ly=>?_) (λ ly=>?_)
 ·obtain⟨q0,z0,b0,yu,UH,rfl⟩:=xi L9 ly;refine aA gk (have hs:=hs.drew;aB (v:=Flat.val (v0:SV)) oz hs.p2.hb rfl (bD QD hs (H':=λ v=>sep (bY p (ey lv q0)) (bG v z0)) (Φ:=λ _ _=>True) (λ F2 dY dW=>?_) ?_))
  ·exact(C132 p lv l (iu l s0 (ByteArray.mk #[108,105,110,101])).1 true q0 z0 F2 _ dY (λ w' hc=>(dW w' hc).p2.dX) hk (ke hi0) yu).mono λ _ _ r=>r.mono λ _ _ h=>⟨trivial,h⟩
  rintro x31 _ _ hs;have hs:=hs.split;refine⟨aG oz (hs.p3.hb.cell rfl),?_⟩;obtain⟨Zh,rfl⟩:=(hs.p1).fC;have hs:=hs.p1.freeze.dU (Ψ:=λ w=>Deep.dr w Zh (z0)) (λ _ h=>DL.j3 h);refine gw (s:=Zh) (x:=z0) hs pj (by decide) (λ apR _ hs=>?_);refine⟨aG oz (hs.p3.hb.cell rfl),?_⟩;have hs:=hs.p2;refine gy hs pj (by have h1:=congrArg List.length hy0;have h2:=hp.b1;simp at h1 |-;omega) (by decide) (λ s_x33 _ hs=>aA gk ?_);obtain⟨Zi,rfl⟩:=(hs).oI;exact aS hs.p2 oz (dI rfl) (rfl) (λ _ hs=>have hs:=((((hs.enc (cs':=Flat.enc (⟨Zi,cH,cH,cH,cH,cH⟩:bO)) rfl).p4).p4).p4).p3;have hs:=hs.p4;⟨_,by omega,q0,Zi,xs0++[z0],b0,xN (ke hi0) yu,UH,by rw[hy0,List.append_assoc];rfl,hs⟩)
 obtain⟨e9,rfl⟩:=uL L9 ly;replace e9:=e9.symm;subst e9;rw[List.append_nil]at hy0;subst hy0;rw[xh ly]at hs;have hs:=((((((hs.eJ (α:=cJ)).p5).p5).p3).p5).p5).p5;refine⟨λ mm w'=>∃(s1:fK) (v1:SV) (xs1 a1:List (List cJ)),lg l s1/\mW l ajM (nf l true) mm s1=some (t2,a1)/\y2=xs1++a1/\St w aY [bG (Flat.val v1) (xs1.flatten),fV (Flat.val v0) y1,bY PQ (Flat.enc (⟨v0,v1,cH,cH,cH,cH⟩:bO)),bY p (ey lv s1),bG lv l,bY vQ (Flat.enc (⟨cH,cH,cH,cH,cH,cH⟩:bO))] w',⟨10000,s0,cH,[],y2,hi0,hp.h2,rfl,hs⟩,?_⟩;rintro mm _ ⟨s1,v1,xs1,a1,hi1,hm1,hy1,hs⟩ _;obtain⟨m1,rfl⟩:=sD hm1
 refine bD yd hs.p3 (H':=λ _=>bY p (ey lv (iu l s1 (ByteArray.mk #[118,111,108])).1)) (Φ:=λ v _=>v=.bool (iu l s1 (ByteArray.mk #[118,111,108])).2) (λ F2 dY dW=>?_) ?_
 ·exact C131 p lv l s1 (ByteArray.mk #[118,111,108]) F2 _ dY (λ w' hc=>(dW w' hc).p3.dX) hk hi1
 rintro _ _ rfl hs;refine aW (λ Cc=>?_) (λ Cc=>?_)
 ·obtain⟨q1,z1,b1,hd1,Wj,rfl⟩:=xi hm1 Cc;refine aA pK (have hs:=hs.drew;aB (v:=Flat.val (v1:SV)) jC hs.p3.hb rfl (bD QD hs (H':=λ v=>sep (bY p (ey lv q1)) (bG v z1)) (Φ:=λ _ _=>True) (λ F2 dY dW=>?_) ?_))
  ·exact(C132 p lv l (iu l s1 (ByteArray.mk #[118,111,108])).1 true q1 z1 F2 _ dY (λ w' hc=>(dW w' hc).p3.dX) hk (ke hi1) hd1).mono λ _ _ r=>r.mono λ _ _ h=>⟨trivial,h⟩
  rintro x40 _ _ hs;have hs:=hs.split;refine⟨aG jC (hs.p4.hb.cell rfl),?_⟩;have ajT:=(hs.p1).dX;refine bI hs.p2 g8 ajT (by have:=Sx hy1;have:=hp.b2;omega) (by decide) (λ aqH _ hs=>have hs:=hs.p2.drop;aA pK ?_);obtain⟨IK,rfl⟩:=(hs).fC;refine aS hs.p3 jC (dI rfl) (rfl) (λ _ hs=>?_);have hs:=((((hs.enc (cs':=Flat.enc (⟨v0,IK,cH,cH,cH,cH⟩:bO)) rfl).p5).p5).p4).p3;have hs:=hs.p5.p5;rw[<- AQ]at hs;exact⟨_,by omega,q1,IK,xs1++[z1],b1,xN (ke hi1) hd1,Wj,by rw[hy1,List.append_assoc];rfl,hs⟩
 obtain⟨e9,rfl⟩:=uL hm1 Cc;replace e9:=e9.symm;subst e9;rw[List.append_nil]at hy1;subst hy1;rw[xh Cc]at hs;have hs:=(((((((hs.eJ (α:=cJ)).p6).p6).p3).p6).p5).p6).p6;refine⟨λ mm w'=>∃(s2:fK) (v2:SV) (xs2 a2:List (List cJ)),lg l s2/\mW l Y7 (nf l false) mm s2=some (t3,a2)/\y3=xs2++a2/\St w aY [bG (Flat.val v2) (xs2.flatten),fV (Flat.val v0) y1,bG (Flat.val v1) (y2.flatten),bY PQ (Flat.enc (⟨v0,v1,v2,cH,cH,cH⟩:bO)),bY p (ey lv s2),bG lv l,bY vQ (Flat.enc (⟨cH,cH,cH,cH,cH,cH⟩:bO))] w',⟨10000,s1,cH,[],y3,hi1,hp.h3,rfl,hs⟩,?_⟩;rintro mm _ ⟨s2,v2,xs2,a2,UJ,hm2,hy2,hs⟩ _
 obtain⟨m2,rfl⟩:=sD hm2;refine bD yd hs.p4 (H':=λ _=>bY p (ey lv (iu l s2 (ByteArray.mk #[108,111,99,107])).1)) (Φ:=λ v _=>v=.bool (iu l s2 (ByteArray.mk #[108,111,99,107])).2) (λ F2 dY dW=>?_) ?_
 ·exact C131 p lv l s2 (ByteArray.mk #[108,111,99,107]) F2 _ dY (λ w' hc=>(dW w' hc).p4.dX) hk UJ
 rintro _ _ rfl hs;refine aW (λ Ao=>?_) (λ Ao=>?_)
 ·obtain⟨q2,z2,b2,hd2,hn2,rfl⟩:=xi hm2 Ao;refine aA nI (have hs:=hs.drew;aB (v:=Flat.val (v2:SV)) jC hs.p4.hb rfl (bD QD hs (H':=λ v=>sep (bY p (ey lv q2)) (bG v z2)) (Φ:=λ _ _=>True) (λ F2 dY dW=>?_) ?_))
  ·exact(C132 p lv l (iu l s2 (ByteArray.mk #[108,111,99,107])).1 false q2 z2 F2 _ dY (λ w' hc=>(dW w' hc).p4.dX) hk (ke UJ) hd2).mono λ _ _ r=>r.mono λ _ _ h=>⟨trivial,h⟩
  rintro x48 _ _ hs;have hs:=hs.split;refine⟨aG jC (hs.p5.hb.cell rfl),?_⟩;have PR:=(hs.p1).dX;refine bI hs.p2 g8 PR (by have:=Sx hy2;have:=hp.b3;omega) (by decide) (λ s_x49 _ hs=>have hs:=hs.p2.drop;aA nI ?_);obtain⟨Zj,rfl⟩:=(hs).fC;refine aS hs.p4 jC (dI rfl) (rfl) (λ _ hs=>?_);have hs:=((((hs.enc (cs':=Flat.enc (⟨v0,v1,Zj,cH,cH,cH⟩:bO)) rfl).p6).p6).p4).p3;have hs:=hs.p6.p6.p6;rw[<- AQ]at hs;exact⟨_,by omega,q2,Zj,xs2++[z2],b2,xN (ke UJ) hd2,hn2,by rw[hy2,List.append_assoc];rfl,hs⟩
 obtain⟨e9,rfl⟩:=uL hm2 Ao;replace e9:=e9.symm;subst e9;rw[List.append_nil]at hy2;subst hy2;rw[xh Ao]at hs;have hs:=((((((((hs.Ip (α:=cN)).p7).p7).p3).p7).p5).p7).p7).p7;refine⟨λ mm w'=>∃(s3:fK) (v3:SV) (xs3 a3:List cN),lg l s3/\mW l Jj (ajN l) mm s3=some (t4,a3)/\y4=xs3++a3/\St w aY [fV (Flat.val v3) xs3,fV (Flat.val v0) y1,bG (Flat.val v1) (y2.flatten),bG (Flat.val v2) (y3.flatten),bY PQ (Flat.enc (⟨v0,v1,v2,v3,cH,cH⟩:bO)),bY p (ey lv s3),bG lv l,bY vQ (Flat.enc (⟨cH,cH,cH,cH,cH,cH⟩:bO))] w',⟨10000,s2,cH,[],y4,UJ,hp.h4,rfl,hs⟩,?_⟩;rintro mm _ ⟨s3,v3,xs3,a3,hi3,hm3,hy3,hs⟩ _
 obtain⟨m3,rfl⟩:=sD hm3;refine bD yd hs.p5 (H':=λ _=>bY p (ey lv (iu l s3 (ByteArray.mk #[116,104,114,101,97,100])).1)) (Φ:=λ v _=>v=.bool (iu l s3 (ByteArray.mk #[116,104,114,101,97,100])).2) (λ F2 dY dW=>?_) ?_
 ·exact C131 p lv l s3 (ByteArray.mk #[116,104,114,101,97,100]) F2 _ dY (λ w' hc=>(dW w' hc).p5.dX) hk hi3
 rintro _ _ rfl hs;refine aW (λ vG=>?_) (λ vG=>?_)
 ·obtain⟨q3,z3,b3,hd3,hn3,rfl⟩:=xi hm3 vG;refine bD aeR hs (H':=λ _=>bY p (ey lv (eW l (iu l s3 (ByteArray.mk #[116,104,114,101,97,100])).1).1)) (Φ:=λ v _=>v=Flat.val (eW l (iu l s3 (ByteArray.mk #[116,104,114,101,97,100])).1).2) (λ F2 dY dW=>?_) ?_
  ·exact C133 p lv l (iu l s3 (ByteArray.mk #[116,104,114,101,97,100])).1 F2 _ dY (λ w' hc=>(dW w' hc).p5.dX) hk (ke hi3)
  rintro _ _ rfl hs;refine aM hs oE (λ b_c10 _ hs=>aJ (x:=(eW l (iu l s3 (ByteArray.mk #[116,104,114,101,97,100])).1).2) hs lP rfl rfl (λ _ hs=>aA kj (have hs:=hs.drew;aB (v:=Flat.val (v3:SV)) ij hs.p6.hb rfl (aA kz (aB (v:=.string (((eW l (iu l s3 (ByteArray.mk #[116,104,114,101,97,100])).1).2).name)) gj hs.hb rfl (aA ui (aB (v:=.int .i64 (((eW l (iu l s3 (ByteArray.mk #[116,104,114,101,97,100])).1).2).at_)) bL hs.hb rfl (pop (N2 _ _) (bD aeS hs.p1 (H':=λ v=>qd λ sh:cE=>fact (v=Flat.val sh) (sep (bY p (ey lv q3)) (fk (λ w=>Deep.dr w sh z3)))) (Φ:=λ _ _=>True) (λ F2 dY dW=>?_) ?_)))))))))
  ·exact(C134 p lv l (eW l (iu l s3 (ByteArray.mk #[116,104,114,101,97,100])).1).1 ((eW l (iu l s3 (ByteArray.mk #[116,104,114,101,97,100])).1).2).name ((eW l (iu l s3 (ByteArray.mk #[116,104,114,101,97,100])).1).2).at_ q3 z3 F2 _ dY (λ w' hc=>(dW w' hc).p6.dX) hk (uK (ke hi3)) hd3).mono λ _ _ r=>r.mono λ _ _ h=>⟨trivial,h⟩
  rintro v_x63 _ _ wQ;obtain⟨ajW,yy⟩:=wQ.er
  clear wQ
  obtain⟨ajX,Df⟩:=yy.me
  clear yy
  subst ajX;have hs:=Df.split
  clear Df
  refine⟨aG ij (hs.p7.hb.cell rfl),?_⟩;have hs:=hs.p1;refine gw (s:=ajW) (x:=z3) hs fq (by decide) (λ aqI _ hs=>?_);refine⟨aG ij (hs.p7.hb.cell rfl),?_⟩;have hs:=hs.p3;refine gy hs fq (by have h1:=congrArg List.length hy3;have h2:=hp.b4;simp at h1 |-;omega) (by decide) (λ aqJ _ hs=>aA kj ?_);obtain⟨Zk,rfl⟩:=(hs).oI;exact aS hs.p6 ij (dI rfl) (rfl) (λ _ hs=>have hs:=((((hs.enc (cs':=Flat.enc (⟨v0,v1,v2,Zk,cH,cH⟩:bO)) rfl).p3).drop).p7).p7;have hs:=hs.p4.p3.p7.p7.p7.p7;⟨_,by omega,q3,Zk,xs3++[z3],b3,Ff (uK (ke hi3)) hd3,hn3,by rw[hy3,List.append_assoc];rfl,hs⟩)
 obtain⟨e9,rfl⟩:=uL hm3 vG;replace e9:=e9.symm;subst e9;rw[List.append_nil]at hy3;subst hy3;rw[xh vG]at hs;refine⟨λ w'=>∃v4:SV,St w aY [fV (Flat.val v4) y5,fV (Flat.val v0) y1,bG (Flat.val v1) (y2.flatten),bG (Flat.val v2) (y3.flatten),fV (Flat.val v3) y4,bY PQ (Flat.enc (⟨v0,v1,v2,v3,v4,cH⟩:bO)),bY p (ey lv t5),bG lv l,bY vQ (Flat.enc (⟨cH,cH,cH,cH,cH,cH⟩:bO))] w',?_,?_⟩
 ·refine bD yd hs (H':=λ _=>bY p (ey lv (iu l s3 (ByteArray.mk #[114,101,99,111,118,101,114])).1)) (Φ:=λ v _=>v=.bool (iu l s3 (ByteArray.mk #[114,101,99,111,118,101,114])).2) (λ F2 dY dW=>?_) ?_
  ·exact C131 p lv l s3 (ByteArray.mk #[114,101,99,111,118,101,114]) F2 _ dY (λ w' hc=>(dW w' hc).p5.dX) hk hi3
  rintro _ _ rfl hs;refine aW (λ MU=>?_) (λ MU=>?_)
  ·obtain⟨z4,hd4,hy5⟩:=MT hp.h5 MU;obtain⟨axA,_,hlo68,hhi68⟩:=Y8 MU;have hat68:(iu l s3 (ByteArray.mk #[114,101,99,111,118,101,114])).1.at_=s3.at_+1:=by rw[axA]
   refine aA oA (have hs:=hs.drew;aB (v:=Flat.val (cH:SV)) ij hs.p5.hb rfl (aD (aA fr (aB bL hs.hb rfl (fe (by omega) ?_)))));obtain⟨Zl,Zm⟩:=gx (l) (i:=((((iu l s3 (ByteArray.mk #[114,101,99,111,118,101,114])).1).at_-1)).toNat) (by omega);refine dM hs.p6 fG (by omega) (by omega) (λ _ MH=>mf lu MH (λ _ aqK=>nz (Zl).at_ hs.p6 bL aqK Zm rfl (pop (VN _) ?_)));have hbk:zj l (iu l s3 (ByteArray.mk #[114,101,99,111,118,101,114])).1=(Zl).at_:=congrArg bR.at_ (AP (by omega) Zm);rw[hbk]at hd4;refine bD aeS hs (H':=λ v=>qd λ sh:cE=>fact (v=Flat.val sh) (sep (bY p (ey lv t5)) (fk (λ w=>Deep.dr w sh z4)))) (Φ:=λ _ _=>True) (λ F2 dY dW=>?_) ?_
   ·exact(C134 p lv l (iu l s3 (ByteArray.mk #[114,101,99,111,118,101,114])).1 (ByteArray.mk #[]) (Zl).at_ t5 z4 F2 _ dY (λ w' hc=>(dW w' hc).p5.dX) hk (ke hi3) hd4).mono λ _ _ r=>r.mono λ _ _ h=>⟨trivial,h⟩
   rintro v_x82 _ _ wQ;obtain⟨ajY,yy⟩:=wQ.er
   clear wQ
   obtain⟨ajZ,Df⟩:=yy.me
   clear yy
   subst ajZ;have hs:=Df.split
   clear Df
   refine⟨aG ij (hs.p6.hb.cell rfl),?_⟩;have hs:=hs.p1;refine gw (s:=ajY) (x:=z4) hs fq (by decide) (λ af4 _ hs=>?_);refine⟨aG ij (hs.p6.hb.cell rfl),?_⟩;have hs:=((hs.Ip (α:=cN)).p1).p1;refine gy hs fq (by simp) (by decide) (λ ao5 _ hs=>aA oA ?_);obtain⟨Zn,rfl⟩:=(hs).oI;refine aS hs.p6 ij (dI rfl) (rfl) (λ _ hs=>?_);have hs:=(((((hs.enc (cs':=Flat.enc (⟨v0,v1,v2,v3,Zn,cH⟩:bO)) rfl).p8).p8).p4).p3).p5;have hs:=hs.p8.p8.p8.p8;rw[hy5];exact⟨Zn,hs⟩
  rw[xh MU]at hs;have hs:=(((((((((hs.Ip (α:=cN)).p8).p8).p3).p8).p5).p8).p8).p8).p8;obtain⟨e5,e6⟩:=Sw hp.h5 MU;rw[e5,e6];exact⟨cH,hs⟩
 rintro _ ⟨v4,hs⟩ _;have hs:=((((((((((hs.Ip (α:=gG)).p9).p9).p9).p9).p5).p9).p9).p9).p9).p9;refine⟨λ mm w'=>∃(s5:fK) (v5:SV) (xs5 a5:List gG),lg l s5/\mW l Jk (λ s=>xg l s (zj l s)) mm s5=some (t6,a5)/\y6=xs5++a5/\St w aY [fV (Flat.val v5) xs5,fV (Flat.val v0) y1,bG (Flat.val v1) (y2.flatten),bG (Flat.val v2) (y3.flatten),fV (Flat.val v3) y4,fV (Flat.val v4) y5,bY PQ (Flat.enc (⟨v0,v1,v2,v3,v4,v5⟩:bO)),bY p (ey lv s5),bG lv l,bY vQ (Flat.enc (⟨cH,cH,cH,cH,cH,cH⟩:bO))] w',⟨10000,t5,cH,[],y6,(adO hi3 hp.h5),hp.h6,rfl,hs⟩,?_⟩;rintro mm _ ⟨s5,v5,xs5,a5,hi5,hm5,hy5,hs⟩ _
 obtain⟨m5,rfl⟩:=sD hm5;refine bD yd hs.p7 (H':=λ _=>bY p (ey lv (iu l s5 (ByteArray.mk #[97,108,119,97,121,115])).1)) (Φ:=λ v _=>v=.bool (iu l s5 (ByteArray.mk #[97,108,119,97,121,115])).2) (λ F2 dY dW=>?_) ?_
 ·exact C131 p lv l s5 (ByteArray.mk #[97,108,119,97,121,115]) F2 _ dY (λ w' hc=>(dW w' hc).p7.dX) hk hi5
 rintro _ _ rfl hs;refine aW (λ MV=>?_) (λ MV=>?_)
 ·obtain⟨q5,z5,b5,hd5,C5,rfl⟩:=xi hm5 MV;obtain⟨axD,_,hlo87,hhi87⟩:=Y8 MV;have hat87:(iu l s5 (ByteArray.mk #[97,108,119,97,121,115])).1.at_=s5.at_+1:=by rw[axD]
  refine aA jn (have hs:=hs.drew;aB (v:=Flat.val (v5:SV)) qB hs.p7.hb rfl (aD (aA fr (aB bL hs.hb rfl (fe (by omega) ?_)))));obtain⟨Zo,Zp⟩:=gx (l) (i:=((((iu l s5 (ByteArray.mk #[97,108,119,97,121,115])).1).at_-1)).toNat) (by omega);refine dM hs.p8 fG (by omega) (by omega) (λ _ aqM=>mf lu aqM (λ _ aqN=>nz (Zo).at_ hs.p8 bL aqN Zp rfl ?_));have hbk:zj l (iu l s5 (ByteArray.mk #[97,108,119,97,121,115])).1=(Zo).at_:=congrArg bR.at_ (AP (by omega) Zp);rw[hbk]at hd5;refine bD alZ hs (H':=λ v=>qd λ sh:jr=>fact (v=Flat.val sh) (sep (bY p (ey lv q5)) (fk (λ w=>Deep.dr w sh z5)))) (Φ:=λ _ _=>True) (λ F2 dY dW=>?_) ?_
  ·exact(C135 p lv l (iu l s5 (ByteArray.mk #[97,108,119,97,121,115])).1 (Zo).at_ q5 z5 F2 _ dY (λ w' hc=>(dW w' hc).p7.dX) hk (ke hi5) hd5).mono λ _ _ r=>r.mono λ _ _ h=>⟨trivial,h⟩
  rintro axE _ _ wQ;obtain⟨adP,yy⟩:=wQ.er
  clear wQ
  obtain⟨adQ,Df⟩:=yy.me
  clear yy
  subst adQ;have hs:=Df.split
  clear Df
  refine⟨aG qB (hs.p8.hb.cell rfl),?_⟩;have hs:=hs.p1;refine gw (s:=adP) (x:=z5) hs sJ (by decide) (λ ai7 _ hs=>?_);refine⟨aG qB (hs.p8.hb.cell rfl),?_⟩;have hs:=hs.p2;refine gy hs sJ (by have h1:=congrArg List.length hy5;have h2:=hp.b6;simp at h1 |-;omega) (by decide) (λ ai8 _ hs=>aA jn ?_);obtain⟨Sy,rfl⟩:=(hs).oI;exact aS hs.p7 qB (dI rfl) (rfl) (λ _ hs=>have hs:=(((((hs.enc (cs':=Flat.enc (⟨v0,v1,v2,v3,v4,Sy⟩:bO)) rfl).p9).p9).p4).p3).p9;have hs:=hs.p9.p9.p9.p9.p9;⟨_,by omega,q5,Sy,xs5++[z5],b5,T6 (ke hi5) hd5,C5,by rw[hy5,List.append_assoc];rfl,hs⟩)
 obtain⟨e9,rfl⟩:=uL hm5 MV;replace e9:=e9.symm;subst e9;rw[List.append_nil]at hy5;subst hy5;rw[xh MV]at hs;obtain⟨hi50,hi51⟩:=id hi5;refine⟨λ w'=>St w aY [fV (Flat.val v5) y6,fV (Flat.val v0) y1,bG (Flat.val v1) (y2.flatten),bG (Flat.val v2) (y3.flatten),fV (Flat.val v3) y4,fV (Flat.val v4) y5,bY PQ (Flat.enc (⟨v0,v1,v2,v3,v4,v5⟩:bO)),bY p (ey lv (F8 l s5)),bG lv l,bY vQ (Flat.enc (⟨cH,cH,cH,cH,cH,cH⟩:bO))] w',aD (aA fr (aB bL hs.hb rfl (aI fG (hs.p8).dX (aQ (aC (λ PU=>?_) (λ PU=>?_)))))),?_⟩
 ·refine bD QE hs (H':=λ _=>bY p (ey lv (js l s5 5))) (Φ:=λ _ _=>True) (λ F2 dY dW=>?_) ?_
  ·exact(C136 p lv l s5 F2 _ dY (λ w' hc=>(dW w' hc).p7.dX) hk hi5).mono λ _ _ r=>r.mono λ _ _ h=>⟨trivial,h.2⟩
  rintro _ _ _ hs;have hs:=hs.p9.p9.p2.p9.p9.p9.p9.p9.p9.p9;have he6:F8 l s5=js l s5 5:=if_pos PU;rw[he6];exact hs
 ·have hs:=hs.p9.p9.p2.p9.p9.p9.p9.p9.p9.p9;have he6:F8 l s5=s5:=if_neg PU;rw[he6];exact hs
 intro _ hs _;refine aD (aA ma (aB jD hs.p7.hb rfl (bV (aC (λ PV=>?_) (λ PV=>?_)))))
 ·refine pop (v:=Flat.val (⟨cH,cH,cH,cH,cH,cH⟩:bO)) (by kernel_rfl) (aD (aA ma (have hs:=hs.drew;aB jD hs.p7.hb rfl (aD (aA wm (aB bL hs.p7.hb rfl (aJ (x:=(⟨cH,cH,cH,cH,cH,cH⟩:bO)) hs.p9 ep rfl rfl (λ _ hs=>?_))))))));refine⟨aG jD (hs.p8.hb.cell rfl),?_⟩;refine⟨aG bL (hs.p8.hb.cell rfl),?_⟩;refine aE ep hs.At ?_;have hs:=hs.fT (Φ:=(λ w=>Deep.dr w (⟨cH,cH,cH,cH,cH,cH⟩:bO) (⟨[],[],[],[],[],[]⟩:cG))) (λ _=>⟨_,_,_,_,_,_,rfl,DL.nil _,DL.nil _,DL.nil _,DL.nil _,DL.nil _,DL.nil _⟩);have hs:=(((((((((hs.p1.drop.p1.drop.p1.drop.p1.drop.p1).drop).p1).drop).p1).drop).p1).drop).p1).drop
  have hs:=(hs.p1).drop;rw[hp.bad PV];exact⟨_,rfl,hs.fresh⟩
 refine aE ep hs.p6.At (aJ (x:=(⟨v0,v1,v2,v3,v4,v5⟩:bO)) hs.p9 ep rfl rfl (λ _ hs=>aE ep hs.At ?_));have hs:=hs.p2.nJ.p3.freeze.p1.gR.p3.freeze.p1.gR.p3.nJ.p1.gR.p3.nJ.p1.gR;have hs:=hs.p2.nJ.p1.gR.dU (Ψ:=(λ w=>Deep.dr w (⟨v0,v1,v2,v3,v4,v5⟩:bO) (⟨y1,y2.flatten,y3.flatten,y4,y5,y6⟩:cG))) (λ _ h=>⟨_,_,_,_,_,_,rfl,h.1.1.1.1.1,DL.j3 h.1.1.1.1.2,DL.j3 h.1.1.1.2,h.1.1.2,h.1.2,h.2⟩);have hs:=((((hs.p1.drop.p1.drop).p1).drop).p1).drop;rw[hp.axs PV];exact⟨_,rfl,hs.fresh⟩
theorem MW{l:List Int}{k:Nat}(hk:0<k)(h:k<=l.length):fP (l.take k)=l.getD (k-1) 0+1:=by
 grind[fP]
theorem Dg{f:Int->List j4}{a k:Int}{xs:List j4}{x:j4}(h:x∈px f a xs k):x∈xs\/x∈f k:=by
 unfold px at h;grind
theorem Hw{m:Mem}{c n:Int}(h:vV m):vV (fh m c n):=by
 unfold fh
 split
 ·rename_i sR
  unfold F3 at sR;rw[decide_eq_true_eq]at sR
  refine⟨h.L8,h.fl,by show(m.l.set _ _).length=_;rw[List.length_set];exact h.ll,h.kl,h.ofr,h.lb,λ k x hx=>?_⟩
  dsimp only at hx
  split at hx
  ·rename_i hc
   rcases Dg hx with h1|h1
   ·rw[List.mem_append]at h1
    rcases h1 with h1|h1
    ·exact h.pc _ x h1
    grind
   exact h.pc _ x h1
  exact h.pc _ x hx
 exact h
theorem adR{m:Mem}{c:Int}(h:vV m):vV (nV m c):=by
 unfold nV
 split
 ·refine⟨h.L8,h.fl,h.ll,by show(nG _ _).length=_;rw[wU];exact h.kl,h.ofr,h.lb,λ k x hx=>?_⟩
  rcases Dg hx with h1|h1
  ·cases h1
  exact h.pc _ x h1
 exact h
theorem Uc{m:Mem}{cut kW:List Int}(h:fw m cut=some kW):kW.length=m.kept.length:=by
 unfold fw at h;split at h
 ·cases h;exact oP _ _ _
 cases h
theorem Ud{m:Mem}{cut kW:List Int}(h:vV m)(hi:fw m cut=some kW):vV (my m kW):=by
 have h1:=Uc hi
 have h2:=h.kl;have h3:=h.L8
 refine⟨h.L8,h.fl,?_,?_,h.ofr,h.lb,λ k x hx=>by cases hx⟩
 ·show(kW++m.dV.drop kW.length).length=m.dV.length
  rw[List.length_append,List.length_drop];omega
 show kW.length=m.of.length;omega
section
theorem Hx{mm:Mem}{x:bH}(h:vV mm):vV (jM mm x)/\(jM mm x).of=mm.of/\(jM mm x).dV=mm.dV:=by
 unfold jM
 split
 ·exact⟨Hw h,Hb _ _ _,tO _ _ _⟩
 split
 ·grind
 exact⟨adR h,adn _ _,Md _ _⟩
end
theorem MB.mono{mm:Mem}{a b:Nat}(h:MB mm a)(hab:a<=b):MB mm b:=λ k=>Nat.le_trans (h k) hab
theorem MB.write{mm:Mem}{c x:Int}{n:Nat}(h:MB mm n):MB (fh mm c x) (n+1):=by
 intro k
 unfold fh
 split
 ·dsimp only
  split
  ·unfold px
   split
   ·rw[List.length_append,List.length_singleton];have:=h (mm.of.getD c.toNat 0);omega
   have:=h k;omega
  have:=h k;omega
 have:=h k;omega
theorem MB.out{mm:Mem}{c:Int}{n:Nat}(h:MB mm n):MB (nV mm c) n:=by
 intro k
 unfold nV
 split
 ·dsimp only
  unfold px
  split
  ·simp
  exact h k
 exact h k
theorem MB.jM{mm:Mem}{x:bH}{n:Nat}(h:MB mm n):MB (jM mm x) (n+1):=by
 unfold Go.Proofs.YtpdlpabnlkofmaaGreatDoor.jM
 split
 ·exact h.write
 split
 ·exact h.mono (Nat.le_succ n)
 exact h.out.mono (Nat.le_succ n)
theorem aj0{α:Type}{g:α->Bool}{l:List α}(h:0<=rT g l):rT g l<l.length:=by
 unfold rT at h |-
 cases hf:l.findIdx? g with
 | none=>grind
 | some k=>
  have:=(List.findIdx?_eq_some_iff_getElem.1 hf).1
  grind
theorem Zq{ns:List ByteArray}{s:ByteArray}(h:0<=cU ns s):cU ns s<ns.length:=aj0 h
theorem Ex.aqO(ns:List ByteArray)(t:Ex):t.wf->∀n h:Int,0<=n->∃h',(t.steps ns).foldl UC (some (n,h))=some (n+1,h'):=by
 induction t with
 | leaf x=>
  intro hw n h hn
  have hw0:kids x.op=0:=hw
  have hw1:eB x.op=0:=by
   unfold kids at hw0
   unfold eB
   omega
  simp_all[UC,steps]
 | un x a ih=>
  intro hw n h hn
  have hw0:kids x.op=1:=hw.1
  have hw1:eB x.op=1:=by
   unfold kids at hw0
   unfold eB
   omega
  obtain⟨h1,e1⟩:=ih hw.2 n h hn
  simp_all[UC,steps]
 | bin x a b Is It=>
  intro hw n h hn
  have hw0:kids x.op=2:=hw.1
  have hw1:eB x.op=2:=by
   unfold kids at hw0
   unfold eB
   omega
  obtain⟨h1,e1⟩:=Is hw.2.1 n h hn
  obtain⟨h2,e2⟩:=It hw.2.2 (n+1) h1 (by omega)
  refine⟨max h2 (n+1),?_⟩
  grind[UC,steps]
theorem Jl{k:Int}(h:kids k=0\/kids k=1\/kids k=2):1<=k/\k<=15:=by
 unfold kids at h
 omega
theorem Ex.Ue(ns:List ByteArray)(t:Ex):t.wf->∀o∈t.steps ns,∃x∈t.flat,o=⟨x.op,numOf ns x⟩/\1<=x.op/\x.op<=15:=by
 induction t with
 | leaf x=>intro hw o ho;exact⟨x,by simp[Ex.flat],by simpa[Ex.steps]using ho,Jl (.inl hw)⟩
 | un x a ih=>
  intro hw o ho
  have ho:o∈a.steps ns++[⟨x.op,numOf ns x⟩]:=ho
  rw[List.mem_append]at ho
  rcases ho with ho|ho
  ·obtain⟨y,h1,h2⟩:=ih hw.2 o ho;exact⟨y,by simp[Ex.flat,h1],h2⟩
  ·exact⟨x,by simp[Ex.flat],by grind,Jl (.inr (.inl hw.1))⟩
 | bin x a b Is It=>
  intro hw o ho
  have ho:o∈a.steps ns++b.steps ns++[⟨x.op,numOf ns x⟩]:=ho
  rw[List.mem_append,List.mem_append]at ho
  rcases ho with(ho|ho)|ho
  ·obtain⟨y,h1,h2⟩:=Is hw.2.1 o ho;exact⟨y,by simp[Ex.flat,h1],h2⟩
  ·obtain⟨y,h1,h2⟩:=It hw.2.2 o ho;exact⟨y,by simp[Ex.flat,h1],h2⟩
  ·exact⟨x,by simp[Ex.flat],by grind,Jl (.inr (.inr hw.1))⟩
theorem MX{ns:List ByteArray}{l:List bX}{many:Int}(hr:fu l=true)(hv:oN l ns=false)(hm:many=ns.length):mg (qg ns l) many=true/\(qg ns l).length<=40:=by
 have Ct:=hr
 unfold fu at hr
 simp only[Bool.and_eq_true,Bool.not_eq_true',decide_eq_true_eq,List.any_eq_false]at hr
 obtain⟨⟨⟨h1,h2⟩,h3⟩,h4⟩:=hr
 obtain⟨t,TN⟩:=Option.isSome_iff_exists.1 h2
 obtain⟨hw,sS⟩:=vc TN
 have hv0:=hv
 unfold oN at hv
 have he:kH ns l=0:=by grind[kH]
 have hl:qg ns l=t.steps ns:=by unfold qg;rw[if_pos he];unfold Br;rw[TN]
 rw[hl]
 have hlen:(t.steps ns).length<=40:=by rw[Ex.pq,<- Ex.cY,<- sS];exact h1
 obtain⟨h',e'⟩:=t.aqO ns hw 0 0 (Int.le_refl _)
 have e2:ht (t.steps ns)=some (1,h'):=by unfold ht;grind
 refine⟨?_,hlen⟩
 unfold mg htN
 rw[e2]
 simp only[Option.isSome_some,decide_true,Bool.and_true,Bool.and_eq_true,decide_eq_true_eq,Bool.not_eq_true',List.any_eq_false]
 refine⟨hlen,λ o ho=>?_⟩
 obtain⟨x,hx,rfl,Qz,vD⟩:=t.Ue ns hw o ho
 rw[<- sS]at hx
 have ho3:=h3 x hx
 unfold kQ at ho3
 simp only[Bool.or_eq_true,decide_eq_true_eq,not_or,Bool.and_eq_true,Bool.not_eq_true',not_and,Bool.not_eq_false]at ho3
 obtain⟨⟨⟨⟨g1,g2⟩,g3⟩,g4⟩,g5⟩:=ho3
 have hn:Ex.numOf ns x=if x.op=2 then cU ns x.name else x.n:=rfl
 unfold qK
 simp only[decide_eq_true_eq]
 rintro(⟨q1,q2⟩|⟨q1,q2⟩|⟨q1,q2,q3⟩)
 ·omega
 ·have q1:x.op=2:=q1
  rw[hn,if_pos q1]at q2
  rw[List.any_eq_false]at hv
  have:=hv x hx
  simp only[Bool.and_eq_true,decide_eq_true_eq,not_and]at this
  have h5:=this q1
  have h6:=Zq (ns:=ns) (s:=x.name) (by omega)
  omega
 omega
theorem vr:∀(ls:List (List cJ)) (i a:Int),0<=a->(∀l∈ls,l≠[])->i<=jk ls i a/\(∀b,a<=b->jk ls i a<=jk ls i b)/\(jk ls i (a+1)=jk ls i a\/jk ls i (a+1)=jk ls i a+1)
 | [],i,a,ha,_=>⟨by unfold jk;omega,λ b hb=>by unfold jk;omega,by unfold jk;omega⟩
 | l::r,i,a,ha,hl=>by
  have FL:0<l.length:=List.length_pos_iff.2 (hl l (List.mem_cons_self ..))
  have hr:=λ l FH=>hl l (List.mem_cons_of_mem _ FH)
  unfold jk
  by_cases h1:a<l.length
  ·rw[if_pos h1]
   refine⟨Int.le_refl _,λ b hb=>?_,?_⟩
   ·split
    ·omega
    ·have:=(vr r (i+1) (b-l.length) (by omega) hr).1;omega
   ·split
    ·omega
    ·have e:a+1-(l.length:Int)=0:=by omega
     rw[e]
     cases r with
     | nil=>unfold jk;omega
     | cons l2 r2=>
      simp_all[jk]
  ·rw[if_neg h1]
   obtain⟨g1,g2,g3⟩:=vr r (i+1) (a-l.length) (by omega) hr
   grind
section
variable {p:cG}
theorem qy(p:cG):0<=eu p/\eu p<=(g9 p).length:=by grind[eu,g9]
theorem MY{c:Int}(h:0<=c/\c<(g9 p).length):o9 p c=jk p.lines 0 c:=by unfold o9;omega
end
section
variable {m:gW}{t:jP}{i:Int}{x:bN}{p:cG}
theorem Zr:(dT m t i x).1.l=m.l:=by
 unfold dT rk pb;grind
theorem BS:(dT m t i x).1.room=m.room:=by
 unfold dT rk pb;grind
theorem aj1:(dT m t i x).1.p=m.p:=by
 unfold dT rk pb;grind
theorem BT:(dT m t i x).2.1.cD=t.cD:=by
 unfold dT oR pH;grind
theorem vt:(dT m t i x).2.1.names=t.names:=by
 unfold dT oR pH;grind
theorem Uf{room:Int}{l:List bH}{y:bH}:(sg room l y).length<=l.length\/((sg room l y).length:Int)<=room:=by
 grind[sg]
theorem Jm{φ:bN->Prop}(h:sn φ t)(hr:m.room<=16):sn φ (dT m t i x).2.1:=by
 have h1:=h.p;have h2:=h.rl;have h3:=h.nb;have h4:=h.bl;have h5:=h.cl
 have key:∀y,sn φ (pH m t y):=λ y=>by
  have h6:=Uf (room:=m.room) (l:=t.buf) (y:=y)
  exact⟨h1,h2,h3,by show(sg m.room t.buf y).length<=1000;omega,h5⟩
 unfold dT;repeat' split
 all_goals first
  | exact h
  | exact h.set _ _
  | exact key _
theorem Zs(h:vV m.mem):vV (dT m t i x).1.mem/\(dT m t i x).1.mem.of=m.mem.of/\(dT m t i x).1.mem.dV=m.mem.dV:=by
 unfold dT rk pb;repeat' split
 all_goals first
  | exact⟨h,rfl,rfl⟩
  | exact⟨Hw h,Hb _ _ _,tO _ _ _⟩
theorem adS{n:Nat}(h:MB m.mem n):MB (dT m t i x).1.mem (n+1):=by
 unfold dT rk pb;repeat' split
 all_goals first
  | exact h.mono (Nat.le_succ n)
  | exact h.write
theorem adT:(dT m t i x).1.eP.length=m.eP.length:=by
 unfold dT rk pb;grind
theorem Jn{φ:bN->Prop}(h:sn φ t):sn φ {t with cD:=gn t.cD}:=by
 refine h.cD h.p.pop ?_
 match hp:t.cD with
 | []=>exact Nat.le_refl _
 | (.nil,_)::q=>grind[gM,gn]
 | (.cons y a b r,e)::q=>have:=Pe (p:=(.cons y a b r,e)::q) rfl;omega
theorem MZ{cs ls:List ByteArray}(h:xI cs ls t):YL (goD t):=λ hf=>RX _ (qu h).1 h hf
theorem Ug(hm:ou m)(ht:t∈m.l):xI (cT m.p) (cL m.p) (tQ m t i x)/\YL (tQ m t i x)/\(tQ m t i x).names=t.names:=by
 have h1:sn (TL (cT m.p) (cL m.p) t.names) { (dT m t i x).2.1 with cD:=gn (dT m t i x).2.1.cD}:=Jn (Jm (hm.th t ht) hm.rm.2)
 have h2:xI (cT m.p) (cL m.p) { (dT m t i x).2.1 with cD:=gn (dT m t i x).2.1.cD}:=by
  show sn (TL _ _ (dT m t i x).2.1.names) _
  rw[vt];exact h1
 exact⟨(qu h2).2.1,MZ h2,(qu h2).2.2.trans vt⟩
theorem uM{β:Type}{l:List β}{k:Nat}{a y:β}(h:y∈l.set k a):y=a\/y∈l:=(List.mem_or_eq_of_mem_set h).symm
theorem Zt(hm:ou m):ou (ie m i).1/\(ie m i).1.p=m.p/\(∀n,MB m.mem n->MB (ie m i).1.mem (n+1))/\(ie m i).1.l.length=m.l.length:=by
 unfold ie
 split
 ·exact⟨hm,rfl,λ n h=>h.mono (Nat.le_succ n),rfl⟩
 rename_i t ht
 have BN:=List.mem_of_getElem? ht
 split
 ·exact⟨⟨hm.mem,hm.th,hm.tl,hm.ow,hm.rm,hm.st,hm.pz⟩,rfl,λ n h=>h.mono (Nat.le_succ n),rfl⟩
 split
 ·exact⟨hm,rfl,λ n h=>h.mono (Nat.le_succ n),rfl⟩
 rename_i x _ _ _
 split
 ·exact⟨⟨hm.mem,hm.th,hm.tl,hm.ow,hm.rm,hm.st,hm.pz⟩,rfl,λ n h=>h.mono (Nat.le_succ n),rfl⟩
 obtain⟨d1,d2,_⟩:=Ug (i:=i) (x:=x) hm BN
 have hp:=aj1 (m:=m) (t:=t) (i:=i) (x:=x)
 refine⟨⟨(Zs hm.mem).1,λ y hy=>?_,by show(m.l.set _ _).length<=_;rw[List.length_set];exact hm.tl,?_,by show 1<=(dT m t i x).1.room/\_;rw[BS];exact hm.rm,λ y hy=>?_,?_⟩,hp,λ n h=>adS h,List.length_set⟩
 ·show xI (cT (dT m t i x).1.p) (cL (dT m t i x).1.p) y
  rw[hp]
  rcases uM hy with rfl|hy
  ·exact d1
  exact hm.th y hy
 ·show(dT m t i x).1.eP.length=(cL (dT m t i x).1.p).length
  rw[adT,hp];exact hm.ow
 ·rcases uM hy with rfl|hy
  ·exact d2
  exact hm.st y hy
 show PZ (dT m t i x).1.p;rw[hp];exact hm.pz
theorem PW{l:List bH}{i:Int}:(jL l i).length<=l.length:=by
 grind[jL]
theorem adU{q:cA}(hm:ou m)(ht:m.l[q.t.toNat]?=some t):ou (sP m t q)/\(∀n,MB m.mem n->MB (sP m t q).mem (n+1)):=by
 have BN:=List.mem_of_getElem? ht
 have h1:=hm.th t BN
 refine⟨⟨(Hx hm.mem).1,λ y hy=>?_,by show(m.l.set _ _).length<=_;rw[List.length_set];exact hm.tl,hm.ow,hm.rm,λ y hy=>?_,hm.pz⟩,λ n h=>h.jM⟩
 ·rcases uM hy with rfl|hy
  ·have:=PW (l:=t.buf) (i:=q.i)
   exact⟨h1.p,h1.rl,h1.nb,by show(jL t.buf q.i).length<=1000;have:=h1.bl;omega,h1.cl⟩
  exact hm.th y hy
 rcases uM hy with rfl|hy
 ·exact hm.st t BN
 exact hm.st y hy
structure Ga(p:cG):Prop where
 f:PF p
 big:uD p=false
 w:∀t∈gd p,qQ t.body=false
 tw:j9 (fJ p)=false
 u:∀t∈gd p,∀x∈t.body,mU p t.dL x=false
theorem xO(h:fj p=0):Ga p:=by
 unfold fj at h
 split at h
 ·cases h
 rename_i h1
 split at h
 ·cases h
 rename_i h2
 split at h
 ·cases h
 rename_i h3
 split at h
 ·cases h
 rename_i h4
 split at h
 ·cases h
 rename_i h5
 split at h
 ·cases h
 rename_i h6
 simp only[Bool.not_eq_true,List.any_eq_false]at h2 h3 h4 h6
 exact⟨qj (by grind),h2,λ t ht=>by grind,h4,λ t ht x hx=>by grind⟩
theorem Jo:∀(b:Bk) (n:Int),b.ok n=true->∀x∈b.flat,x.eo<=0\/x.kind=11
 | .nil,_,_,_,h=>by cases h
 | .cons y a b r,n,h,x,hx=>by
  unfold Bk.ok at h
  simp only[Bool.and_eq_true]at h
  obtain⟨⟨⟨h1,h2⟩,h3⟩,h4⟩:=h
  unfold Bk.flat at hx
  rcases List.mem_cons.1 hx with rfl|hx
  ·unfold Bk.xC at h1;grind
  ·rcases List.mem_append.1 hx with hx|hx
   ·exact Jo a _ h2 x hx
   ·rcases List.mem_append.1 hx with hx|hx
    ·exact Jo b _ h3 x hx
    ·exact Jo r _ h4 x hx
theorem Fg{l:List bX}(h:fu l=true):l.length<=40:=by
 unfold fu at h
 grind
theorem Hy{l:List bX}(h:fu l=true):∀y∈l,y.name.size<=1000:=λ y hy=>by
 have ho:kQ y=false:=by
  unfold fu at h
  grind
 unfold kQ gB at ho
 by_cases h2:y.op=2
 ·grind
 ·have:y.name=⟨#[]⟩:=by grind
  rw[this];decide
theorem aj2(hc:Ga p){t:cN}(ht:t∈gd p){x:bN}(hx:x∈t.body)(hf:mT x=true)(he:x.eo<=0\/x.kind=11):TL (cT p) (cL p) t.dL x:=by
 have hu:=hc.u t ht x hx
 have hq:=IF hf
 have hff:=xF hf
 unfold mU at hu
 simp only[Bool.or_eq_false_iff,Bool.and_eq_false_iff,decide_eq_false_iff_not,Decidable.not_not]at hu
 obtain⟨⟨⟨⟨⟨u1,u2⟩,u3⟩,u4⟩,_⟩,_⟩:=hu
 have KB:x.e.length<=1000:=by
  rcases hff.e with h|h
  ·have:=Fg h.2;omega
  grind
 have sS:x.f.length<=1000:=by
  rcases hff.f with h|h
  ·have:=Fg h.2;omega
  grind
 refine⟨hff.kind,⟨KB,sS⟩,λ h=>by omega,λ h=>by omega,λ h=>?_,λ h=>by omega,λ h=>by omega,?_,?_⟩
 rotate_left
 ·rcases hff.e with h|h
  ·exact Hy h.2
  grind
 ·rcases hff.f with h|h
  ·exact Hy h.2
  grind
 rcases u1 with u1|u1
 ·exfalso
  have hr:=hff.eC
  rcases hr with⟨_,h2⟩|⟨h1,_⟩
  ·rw[u1,LW]at h2;cases h2
  have hk:=hff.kind
  rcases h with h|h|h<;>rw[h]at h1<;>exact absurd h1 (by decide)
 omega
theorem uN:∀(b:Bk) (n:Int),1<=n->n<=64->mr b n=false->(∀x∈b.flat,x.kind=12->1<=x.n)->n.toNat*lH b<=128*b.len
 | .nil,n,_,_,_,_=>by simp[lH]
 | .cons y a b r,n,h1,h2,hw,hq=>by
  rw[vh]at hw
  simp only[Bool.or_eq_false_iff,decide_eq_false_iff_not]at hw
  obtain⟨⟨w1,w2,w3⟩,w4⟩:=hw
  have qa:∀x∈a.flat,x.kind=12->1<=x.n:=λ x hx=>hq x (by unfold Bk.flat;simp[hx])
  have qb:∀x∈b.flat,x.kind=12->1<=x.n:=λ x hx=>hq x (by unfold Bk.flat;simp[hx])
  have qr:∀x∈r.flat,x.kind=12->1<=x.n:=λ x hx=>hq x (by unfold Bk.flat;simp[hx])
  have ir:=uN r n h1 h2 w4 qr
  rw[sm]
  unfold Bk.len
  obtain⟨k,rfl⟩:=Int.eq_ofNat_of_zero_le (show 0<=n by omega)
  rw[Int.toNat_natCast]at ir |-
  by_cases hk:y.kind=12
  ·rw[if_pos hk]
   have hy:=hq y (by unfold Bk.flat;grind) hk
   unfold qP at w1 w2
   rw[if_pos hk]at w1 w2
   obtain⟨j,hj⟩:=Int.eq_ofNat_of_zero_le (show 0<=y.n by omega)
   rw[hj]at w1 w2 hy
   rw[hj,Int.toNat_natCast]
   have hkj:(1:Int)<=(k:Int)*(j:Int):=by
    have:=Int.mul_le_mul (a:=1) (b:=1) (c:=(k:Int)) (d:=(j:Int)) h1 hy (by omega) (by omega)
    omega
   have ia:=uN a _ hkj (by omega) w2 qa
   grind
  ·rw[if_neg hk]
   unfold qP at w2 w3
   rw[if_neg hk]at w2 w3
   have ia:=uN a k h1 h2 w2 qa
   have ib:=uN b k h1 h2 w3 qb
   grind
theorem M4{b:Bk}(h:b.str):Hj b.flat=b:=by unfold Hj;rw[rq h];rfl
theorem Dh(hc:Ga p){t:cN}(ht:t∈gd p):xI (cT p) (cL p) (vS t):=by
 obtain⟨_,h2,_⟩:=hc.f.qE ht
 obtain⟨h3,h4,b,h5,h6,h7,_⟩:=kU h2
 have hb:Hj t.body=b:=by rw[h5];exact M4 h6
 have vX:CD (TL (cT p) (cL p) t.dL) b:=(TJ b).2 λ x hx=>by
  rw[<- h5]at hx
  exact aj2 hc ht hx (h4 x hx) (Jo b 0 h7 x (by grind))
 have NA:E1 (TL (cT p) (cL p) t.dL) []:=⟨λ _ h=>(by cases h),λ _ h=>(by cases h),λ _ h=>(by cases h)⟩
 have hw:=hc.w t ht
 rw[h5,ve h6]at hw
 have aqP:=uN b 1 (by omega) (by omega) hw λ x hx hk=>(((IF (h4 x (by grind))).2 hk).1)
 have GH:b.len<=40:=by rw[<- Bk.cY,<- h5];exact h3
 have hreg:t.dL.length<=4:=by
  have hbg:=hc.big
  unfold uD at hbg
  grind
 refine⟨?_,by simp[vS],by show t.dL.length<=1000;omega,by simp[vS],?_⟩
 ·show E1 _ (jl (Hj t.body) false [])
  rw[hb];exact NA.push h6 vX
 show gM (jl (Hj t.body) false [])<=10000
 rw[hb,sj]
 grind[lH,gM]
theorem Zu:xI (cT p) (cL p) (vS ⟨⟨#[]⟩,[],[],0⟩):=by
 refine⟨⟨λ _ h=>(by cases h),λ _ h=>(by cases h),λ _ h=>(by cases h)⟩,rfl,(by decide:(0:Nat)<=1000),(by decide:(0:Nat)<=1000),(by decide:(0:Nat)<=10000)⟩
theorem Hz{l:List cN}(hm:vV m.mem)(hr:1<=m.room/\m.room<=16)(hz:PZ m.p)(hl:l.length<=1000)(h:∀t∈l,xI (cT m.p) (cL m.p) (vS t)):ou (qG m l):=by
 refine⟨hm,λ t ht=>?_,by show(l.map TQ).length<=1000;rw[List.length_map];exact hl,by show(List.replicate _ _).length=_;rw[List.length_replicate];rfl,hr,λ t ht=>?_,hz⟩
 ·obtain⟨u,hu,rfl⟩:=List.mem_map.1 ht
  exact(qu (h u hu)).2.1
 obtain⟨u,hu,rfl⟩:=List.mem_map.1 ht
 exact MZ (h u hu)
theorem Jp(hc:Ga m.p):(uJ m).length<=1/\∀t∈uJ m,xI (cT m.p) (cL m.p) (vS t):=by
 unfold uJ
 split
 ·exact⟨Nat.le_refl _,λ t ht=>by rw[List.mem_singleton.1 ht];exact Zu⟩
 exact⟨hc.f.one,λ t ht=>Dh hc (List.mem_append_right _ ht)⟩
theorem Jq{k:Nat}{x:cA}(h:x∈gX m k):∃i t,i<k/\m.l[i]?=some t/\x∈ri m i t:=by
 unfold gX at h
 grind
theorem PX{i:Nat}{t:jP}{x:cA}(h:x∈ri m i t):x.t=i/\x.cut=[]/\((x.kind=1/\sw m t=true/\x.i=0)\/(x.kind=2/\x.i∈pa t.buf)):=by
 unfold ri at h
 grind
theorem aj4{q:cA}(h:(gJ m).any (mV q)=true):m.fault=0/\0<=q.t/\q.cut.length=0/\∃t,m.l[q.t.toNat]?=some t/\((q.kind=1/\sw m t=true)\/(q.kind=2/\q.i∈pa t.buf)):=by
 rw[List.any_eq_true]at h
 obtain⟨x,hx,hs⟩:=h
 unfold gJ at hx
 split at hx
 ·cases hx
 rename_i hf
 obtain⟨i,t,_,ht,GW⟩:=Jq hx
 obtain⟨h1,_,h2⟩:=PX GW
 unfold mV at hs
 simp only[Bool.and_eq_true,decide_eq_true_eq]at hs
 have e:q.t=(i:Int):=by omega
 refine⟨by omega,by omega,hs.2,t,by rw[e];exact ht,?_⟩
 rcases h2 with⟨a,b,_⟩|⟨a,b⟩
 ·exact .inl ⟨by omega,b⟩
 exact .inr ⟨by omega,by rw[<- hs.1.2];exact b⟩
theorem M5(h:sw m t=true):∃x a b,oQ t.cD=some (x,a,b):=by
 unfold sw at h
 grind
theorem aj5{q:cA}(hm:ou m)(hc:Ga m.p):ou (qw m q).1/\(qw m q).1.p=m.p/\(∀n,MB m.mem n->MB (qw m q).1.mem (n+1)):=by
 unfold qw
 cases hi:iK m q with
 | some kW=>
  have UJ:fw m.mem q.cut=some kW:=by unfold iK at hi;grind
  obtain⟨r1,r2⟩:=Jp hc
  refine⟨Hz (Ud hm.mem UJ) hm.rm hm.pz (by omega) r2,rfl,λ n h k=>?_⟩
  show([]:List j4).length<=_
  grind
 | none=>
  dsimp only
  split
  ·split
   ·split
    ·rename_i t ht
     obtain⟨h1,h2⟩:=adU hm ht
     exact⟨h1,rfl,h2⟩
    ·exact⟨hm,rfl,λ n h=>h.mono (Nat.le_succ n)⟩
   ·obtain⟨h1,h2,h3,_⟩:=Zt (i:=q.t) hm
    grind
  ·exact⟨hm,rfl,λ n h=>h.mono (Nat.le_succ n)⟩
theorem Jr{i:Nat}(h:i<(cT p).length):(AJ p)[i]?=some (o9 p i):=by grind[AJ,o9]
theorem AS(p:cG):(cT p).length=(g9 p).length:=by unfold cT;grind
theorem Zv(hc:Ga p):(g9 p).length<=20:=by
 have hb:=hc.big
 unfold uD at hb
 simp only[Bool.or_eq_false_iff,List.any_eq_false,decide_eq_false_iff_not,decide_eq_true_eq]at hb
 obtain⟨⟨h1,_⟩,⟨⟨⟨⟨h2,h3⟩,_⟩,_⟩,_⟩,_⟩:=hb
 have h4:∀ls:List (List cJ),(∀l∈ls,¬ 4<(l.length:Int))->ls.flatten.length<=4*ls.length:=by
  intro ls
  induction ls with
  | nil=>grind
  | cons l r ih=>
   grind
 grind[g9]
theorem PY(hc:Ga p){k:Nat}{n:Int}(hk:(k:Int)<eu p)(hn:(AJ p)[k]?=some n):(n=tj (AJ p) k\/(0<k/\n=tj (AJ p) k-1))/\0<=n/\n<=k:=by
 have iL:=qy p
 have Ew:=AS p
 have FL:∀l∈p.lines,l≠[]:=λ l hl=>(hc.f.lines l hl).1
 have e1:∀j:Nat,(j:Int)<eu p->(AJ p)[j]?=some (jk p.lines 0 j):=λ j hj=>by rw[Jr (by omega),MY (by omega)]
 rw[e1 k hk]at hn;cases hn
 have hle:∀j:Nat,jk p.lines 0 j<=j:=by
  intro j
  induction j with
  | zero=>
   cases hl:p.lines with
   | nil=>unfold jk;omega
   | cons l r=>
    grind[jk]
  | succ j ih=>
   have:=(vr p.lines 0 (j:Int) (by omega) FL).2.2
   grind
 refine⟨?_,(vr p.lines 0 (k:Int) (by omega) FL).1,hle k⟩
 cases k with
 | zero=>
  left
  have:=hle 0
  have:=(vr p.lines 0 ((0:Nat):Int) (by omega) FL).1
  show _=0
  omega
 | succ k=>
  have h3:=(vr p.lines 0 (k:Int) (by omega) FL).2.2
  have e:((k+1:Nat):Int)=(k:Int)+1:=by omega
  have ew:tj (AJ p) (k+1)=jk p.lines 0 (k:Int)+1:=by
   unfold tj;grind
  grind
theorem Zw(hc:Ga p):vV (I3 (AJ p) (eu p) (eX p)):=by
 have iL:=qy p
 have Ew:=AS p
 have Ma:=Zv hc
 have FL:∀l∈p.lines,l≠[]:=λ l hl=>(hc.f.lines l hl).1
 have JG:(AJ p).length=(g9 p).length:=by grind[AJ,g9]
 have sS:(eX p).length=(g9 p).length:=by unfold eX;grind
 have hl:((AJ p).take (eu p).toNat).length=(eu p).toNat:=by grind
 have e1:∀j:Nat,(j:Int)<eu p->(AJ p)[j]?=some (jk p.lines 0 j):=λ j hj=>by rw[Jr (by omega),MY (by omega)]
 have hlm:0<(eu p).toNat->fP ((AJ p).take (eu p).toNat)=jk p.lines 0 ((eu p).toNat-1:Nat)+1:=λ h0=>by
  rw[MW h0 (by omega),List.getD_eq_getElem?_getD,e1 _ (by omega)];rfl
 refine⟨?_,?_,rfl,?_,λ n hn=>?_,?_,λ k x hx=>by cases hx⟩
 ·show((AJ p).take (eu p).toNat).length<=(eX p).length;omega
 ·show(eX p).length<=20;omega
 ·show((eX p).take (eu p).toNat).length=((AJ p).take (eu p).toNat).length;grind
 ·obtain⟨i,hi⟩:=List.mem_iff_getElem?.1 (show n∈(AJ p).take (eu p).toNat from hn)
  have nH:=(List.getElem?_eq_some_iff.1 hi).1
  rw[hl]at nH
  rw[List.getElem?_take,if_pos nH,e1 i (by omega)]at hi
  cases hi
  show 0<=_/\_<fP ((AJ p).take (eu p).toNat)
  rw[hlm (by omega)]
  have h3:=vr p.lines 0 (i:Int) (by omega) FL
  grind
 show fP ((AJ p).take (eu p).toNat)<=20
 by_cases h0:(eu p).toNat=0
 ·rw[h0,List.take_zero];decide
 rw[hlm (by omega)]
 have:=(PY hc (k:=(eu p).toNat-1) (by omega) (e1 _ (by omega))).2.2
 omega
theorem adV(hz:PZ p)(hc:Ga p){room:Int}(hr:1<=room/\room<=16):ou (iT p room):=by
 refine Hz (m:=xd p room) (Zw hc) hr hz (by have:=hz.threads;omega) λ t ht=>Dh hc (List.mem_append_left _ ht)
end
def hdC(g:Int->Nat)(ta tb:Nat)(x:bN):Nat:=
 if x.kind=11 then g 12+max (ta+(if 0<x.eo then g 11 else 0)) tb
 else if x.kind=12 then g 13+x.n.toNat*(ta+g 14)
 else if x.kind=13 then g 11 else g (if x.kind=14 then 15 else x.kind)
def Zx(g:Int->Nat):Bk->Nat
 | .nil=>0
 | .cons x a b r=>hdC g (Zx g a) (Zx g b) x+Zx g r
def aqQ(x:bN)(a b r:Bk)(at_:Int):Int:=at_+(yp (.cons x a b r)-yp r)
def W(g:Int->Nat):Bk->Int->Int->List Int->Int->Nat->Nat->Option Nat
 | .nil,at_,_,_,pos,kE,_=>if pos=at_ then some kE else none
 | .cons x a b r,at_,lp,cs,pos,kE,kO=>
  if aqQ x a b r at_<=pos then W g r (aqQ x a b r at_) lp cs pos kE kO
  else if pos=at_ then(if x.kind=13 then some (g 11+kO)else some (hdC g (Zx g a) (Zx g b) x+(Zx g r+kE)))
  else if x.kind=11 then(if pos<toT x a at_ then W g a (at_+1) lp cs pos ((if 0<x.eo then g 11 else 0)+(Zx g r+kE)) kO else W g b (toT x a at_) lp cs pos (Zx g r+kE) kO)
  else if x.kind=12 then(if 1<=cs.getD lp.toNat 0/\cs.getD lp.toNat 0<=8 then W g a (at_+1) (lp+1) cs pos (g 14+((cs.getD lp.toNat 0).toNat-1)*(Zx g a+g 14)+(Zx g r+kE)) (Zx g r+kE)else none)
  else none
theorem adW{x y:cA}:x=y↔x.kind=y.kind/\x.t=y.t/\x.i=y.i/\x.cut=y.cut:=by
 cases x;cases y;simp
theorem Js{α:Type}{xs ys:List α}{k:Nat}{x y:α}(h:xs.take k=ys.take k)(hx:xs[k]?=some x)(hy:ys[k]?=some y)(e:x=y):xs.take (k+1)=ys.take (k+1):=by
 rw[<- gz hx,<- gz hy,h,e]
theorem aqR{α:Type}{xs ys:List α}{k:Nat}{x y:α}(hx:xs[k]?=some x)(hy:ys[k]?=some y)(e:x≠y):xs≠ys:=λ h=>by
 grind
theorem M6{ns:List Int}{many:Int}(A3:xV ns):∀{xs:List oe}{S:List Int},xV S->(∀x∈xs,qK many x=false)->eR (vR ns xs S).1
 | [],S,hS,_=>KL hS
 | x::r,S,hS,h=>by
  unfold vR
  split
  ·exact M6 A3 (Wg A3 hS (h x (List.mem_cons_self ..))) λ y hy=>h y (List.mem_cons_of_mem _ hy)
  ·exact iq
theorem adX{xs:List oe}{ns:List Int}(A3:xV ns):eR (runM xs ns).1:=by
 unfold runM
 split
 ·rename_i h
  exact M6 A3 (λ v hv=>by cases hv) (yl h).2.2
 exact iq
theorem xV.set{S:List Int}(h:xV S){i:Nat}{v:Int}(hv:eR v):xV (S.set i v):=λ e he=>by
 rcases List.mem_or_eq_of_mem_set he with h1|rfl
 ·exact h e h1
 ·exact hv
def Ex.val(ns:List ByteArray)(nums:List Int):Ex->Int×Int
 | .leaf x=>(if x.op=2 then nums.getD (cU ns x.name).toNat 0 else x.n,0)
 | .un x a=>if (a.val ns nums).2=0 then(xU x.op (a.val ns nums).1,0)else(0,(a.val ns nums).2)
 | .bin x a b=>if (a.val ns nums).2=0 then(if (b.val ns nums).2=0 then(gl x.op (a.val ns nums).1 (b.val ns nums).1,gp x.op (b.val ns nums).1)else(0,(b.val ns nums).2))else(0,(a.val ns nums).2)
theorem Ex.Fh(ns:List ByteArray)(nums:List Int)(x:bX)(a:Ex):(Ex.un x a).val ns nums=if (a.val ns nums).2=0 then(xU x.op (a.val ns nums).1,0)else(0,(a.val ns nums).2):=rfl
theorem Ex.AT(ns:List ByteArray)(nums:List Int)(x:bX)(a b:Ex):(Ex.bin x a b).val ns nums=if (a.val ns nums).2=0 then(if (b.val ns nums).2=0 then(gl x.op (a.val ns nums).1 (b.val ns nums).1,gp x.op (b.val ns nums).1)else(0,(b.val ns nums).2))else(0,(a.val ns nums).2):=rfl
theorem zn{k:Int}(h:0<=kids k):eB k=kids k:=by
 grind[eB,kids]
theorem sE(S:List Int)(v:Int):jX (S++[v])=v:=by
 grind[jX]
theorem Fi(S:List Int)(v:Int):(S++[v]).take ((S++[v]).length-1)=S:=by
 simp_all
theorem Qa(S:List Int)(v u:Int):(S++[v]++[u]).take ((S++[v]++[u]).length-2)=S:=by
 simp_all
theorem Uh(ns:List ByteArray)(nums:List Int):∀(t:Ex),t.wf->∀(r:List oe) (S:List Int),vR nums (t.steps ns++r) S=if (t.val ns nums).2=0 then vR nums r (S++[(t.val ns nums).1])else(0,(t.val ns nums).2):=by
 intro t
 induction t with
 | leaf x=>
  intro hw r S
  have hk:kids x.op=0:=hw
  have hwt:eB x.op=0:=by rw[zn (by omega),hk]
  show(if u7 S ⟨x.op,Ex.numOf ns x⟩=0 then vR nums r (kT nums S ⟨x.op,Ex.numOf ns x⟩)else _)=_
  have h1:u7 S ⟨x.op,Ex.numOf ns x⟩=0:=by unfold u7;rw[show eB (⟨x.op,Ex.numOf ns x⟩:oe).kind=0 from hwt];rfl
  have h2:kT nums S ⟨x.op,Ex.numOf ns x⟩=S++[((Ex.leaf x).val ns nums).1]:=by
   unfold kT;rw[if_pos (show eB (⟨x.op,Ex.numOf ns x⟩:oe).kind=0 from hwt)]
   show S++[if x.op=2 then nums.getD (Ex.numOf ns x).toNat 0 else Ex.numOf ns x]=S++[if x.op=2 then _ else _]
   unfold Ex.numOf
   split<;>simp[*]
  rw[if_pos h1,h2];rfl
 | un x a ih=>
  intro hw r S
  have hk:kids x.op=1:=hw.1
  have hwt:eB x.op=1:=by rw[zn (by omega),hk]
  show vR nums (a.steps ns++[⟨x.op,Ex.numOf ns x⟩]++r) S=_
  rw[List.append_assoc,ih hw.2,Ex.Fh]
  by_cases ha:(a.val ns nums).2=0
  ·rw[if_pos ha,if_pos ha]
   show(if u7 _ ⟨x.op,Ex.numOf ns x⟩=0 then vR nums r (kT nums _ ⟨x.op,Ex.numOf ns x⟩)else _)=_
   have h1:∀S',u7 S' ⟨x.op,Ex.numOf ns x⟩=0:=λ S'=>by unfold u7;rw[show eB (⟨x.op,Ex.numOf ns x⟩:oe).kind=1 from hwt];rfl
   rw[if_pos (h1 _)]
   unfold kT
   rw[if_neg (show ¬ eB (⟨x.op,Ex.numOf ns x⟩:oe).kind=0 by show ¬ eB x.op=0;omega),if_pos (show eB (⟨x.op,Ex.numOf ns x⟩:oe).kind=1 from hwt),sE,Fi]
   rfl
  ·rw[if_neg ha,if_neg ha,if_neg ha]
 | bin x a b Is It=>
  intro hw r S
  have hk:kids x.op=2:=hw.1
  have hwt:eB x.op=2:=by rw[zn (by omega),hk]
  show vR nums (a.steps ns++b.steps ns++[⟨x.op,Ex.numOf ns x⟩]++r) S=_
  rw[List.append_assoc,List.append_assoc,Is hw.2.1,Ex.AT]
  by_cases ha:(a.val ns nums).2=0
  ·rw[if_pos ha,if_pos ha,It hw.2.2]
   by_cases hb:(b.val ns nums).2=0
   ·rw[if_pos hb,if_pos hb]
    show(if u7 _ ⟨x.op,Ex.numOf ns x⟩=0 then vR nums r (kT nums _ ⟨x.op,Ex.numOf ns x⟩)else _)=_
    have h1:u7 (S++[(a.val ns nums).1]++[(b.val ns nums).1]) ⟨x.op,Ex.numOf ns x⟩=gp x.op (b.val ns nums).1:=by
     unfold u7;rw[if_pos (show eB (⟨x.op,Ex.numOf ns x⟩:oe).kind=2 from hwt),sE]
    rw[h1]
    by_cases he:gp x.op (b.val ns nums).1=0
    ·rw[if_pos he,if_pos he]
     unfold kT
     rw[if_neg (show ¬ eB (⟨x.op,Ex.numOf ns x⟩:oe).kind=0 by show ¬ eB x.op=0;omega),if_neg (show ¬ eB (⟨x.op,Ex.numOf ns x⟩:oe).kind=1 by show ¬ eB x.op=1;omega),sE,Fi,sE,Qa]
    ·rw[if_neg he,if_neg he]
   ·rw[if_neg hb,if_neg hb,if_neg hb]
  ·rw[if_neg ha,if_neg ha,if_neg ha]
theorem Ui{ns:List ByteArray}{nums:List Int}{xs:List bX}(h:kH ns xs=0)(hl:ns.length=nums.length):∃t,A5 xs 0 t/\pA ns nums xs=t.val ns nums/\(∀y∈xs,y.op=2->0<=cU ns y.name)/\∀y∈xs,eR y.n:=by
 unfold kH at h
 split at h
 ·cases h
 rename_i hr
 have hr:fu xs=true:=by grind
 split at h
 ·cases h
 rename_i hv
 have vm:=yQ hr
 obtain⟨t,ht⟩:=A5.of (xs:=xs) (i:=0) (by omega)
 obtain⟨h1,h2⟩:=ht.zero vm
 have hm:kH ns xs=0:=by grind[kH]
 have hro:=(MX (ns:=ns) (l:=xs) (many:=(nums.length:Int)) hr (by simpa[oN]using hv) (by omega)).1
 refine⟨t,ht,?_,λ y hy h2=>?_,λ y hy=>?_⟩
 ·unfold pA runM
  rw[if_pos hl,if_pos hm,if_pos hro]
  have hs:qg ns xs=t.steps ns:=by unfold qg Br;grind
  have:=Uh ns nums t ht.2.1 [] []
  rw[List.append_nil]at this
  rw[hs,this]
  split
  ·rename_i h0
   show(jX ([]++_),0)=_
   rw[sE,<- h0]
  rename_i h0
  have key:∀t:Ex,¬ (t.val ns nums).2=0->(t.val ns nums).1=0:=by
   intro t
   cases t with
   | leaf x=>intro h;exact absurd rfl h
   | un x a=>rw[Ex.Fh];split<;>intro h<;>first|exact absurd rfl h|rfl
   | bin x a b=>
    rw[Ex.AT];repeat' split
    all_goals intro h
    ·show gl _ _ _=0;unfold gl;rw[if_neg h]
    ·rfl
    ·rfl
  rw[<- key t h0]
 ·grind
 have ho:kQ y=false:=by
  unfold fu at hr
  grind
 unfold kQ at ho
 unfold eR
 grind
theorem Ex.Qb{ns:List ByteArray}{nums:List Int}(hn:xV nums):∀t:Ex,(∀y∈t.flat,eR y.n)->eR (t.val ns nums).1
 | .leaf x,h=>by
  unfold Ex.val;dsimp only
  split
  ·rw[List.getD_eq_getElem?_getD]
   cases hh:nums[(cU ns x.name).toNat]? with
   | none=>exact iq
   | some e=>exact hn e (List.mem_of_getElem? hh)
  ·exact h x (List.mem_singleton_self x)
 | .un x a,h=>by rw[Ex.Fh];split;exact Wf;exact iq
 | .bin x a b,h=>by
  rw[Ex.AT];repeat' split
  ·exact We (Ex.Qb hn a λ y hy=>h y (by simp[Ex.flat,hy]))
  ·exact iq
  ·exact iq
abbrev Dq:=bN×Bk×Bk×Bool
def Di:Bool->Bk->List Dq
 | _,.nil=>[]
 | e,.cons x a b r=>(x,a,b,e)::Di false r
def vM:PD->List Dq
 | []=>[]
 | q::p=>Di q.2 q.1++vM p
def Fj(p:PD):Prop:=∀q∈p,q.2=true->∃x a,q.1=Bk.cons x a .nil .nil
def tW:List Dq->List Dq
 | []=>[]
 | q::l=>if q.2.2.2=true then l else tW l
section
variable {p:PD}{b:Bk}{x:bN}{a:Bk}{t:jP}{l:List Dq}
theorem uO:vM (jl b false p)=Di false b++vM p:=by cases b<;>rfl
theorem AU{c:Bk}(h:oQ p=some (x,a,c)):∃e,vM p=(x,a,c,e)::vM (gn p):=by
 obtain⟨r,e,p',rfl⟩:=Hc h
 exact⟨e,by show _::(Di false r++vM p')=_::vM (jl r false p');rw[uO]⟩
theorem HA:∀b:Bk,tW (Di false b++l)=tW l
 | .nil=>rfl
 | .cons _ _ _ r=>HA r
theorem HC:∀{p:PD},Fj p->vM (kc p)=tW (vM p)
 | [],_=>rfl
 | (b,true)::p,h=>by
  obtain⟨x,a,hb⟩:=h _ (List.mem_cons_self ..) rfl
  have hb:b=Bk.cons x a .nil .nil:=hb
  subst hb;rfl
 | (b,false)::p,h=>by
  show vM (kc p)=tW (Di false b++vM p)
  rw[HA,HC λ q hq=>h q (List.mem_cons_of_mem _ hq)]
theorem Uj(h:¬ x.n=0):vM (mz x a p)=Di false a++({x with n:=x.n-1},a,.nil,true)::vM (gn p):=by
 unfold mz;rw[if_neg h,uO];rfl
theorem HD:∀(l:List Dq) (k:Nat),(∀j q,j<k->l[j]?=some q->q.2.2.2=false)->(∀q,l[k]?=some q->q.2.2.2=true)->k<=l.length->tW l=l.drop (k+1)
 | [],k,_,_,_=>by simp[tW]
 | q::l,0,_,h,_=>by
  simp_all[Dq,tW]
 | q::l,k+1,h1,h2,h3=>by
  have:=h1 0 q (by omega) rfl
  show(if q.2.2.2=true then l else tW l)=_
  rw[if_neg (by grind),HD l k (λ j q' hj hq=>h1 (j+1) q' (by omega) hq) (λ q' hq=>h2 q' hq) (by grind)]
  rfl
theorem Fj.tail{q:Bk×Bool}(h:Fj (q::p)):Fj p:=λ r hr=>h r (List.mem_cons_of_mem _ hr)
theorem Fj.push(h:Fj p):Fj (jl b false p):=by
 cases b with
 | nil=>exact h
 | cons x a c r=>
  grind[Fj,jl]
theorem Fj.pop(h:Fj p):Fj (gn p):=by
 match p,h with
 | [],h=>exact h
 | (.nil,_)::p,h=>exact h.tail
 | (.cons x a b r,_)::p,h=>exact h.tail.push
theorem Fj.leave:∀{p:PD},Fj p->Fj (kc p)
 | [],h=>h
 | (_,e)::p,h=>by
  unfold kc;split
  ·exact h.tail
  ·exact h.tail.leave
theorem Fj.round(h:Fj p):Fj (mz x a p):=by
 unfold mz;split
 ·exact h.pop
 refine Fj.push λ q hq he=>?_
 rcases List.mem_cons.1 hq with rfl|hq
 ·grind
 exact h.pop q hq he
theorem adY:p.length<=(vM p).length\/∃q∈p,q.1=.nil:=by
 induction p with
 | nil=>left;simp
 | cons q p ih=>
  rcases ih with ih|⟨r,hr,h⟩
  ·cases hb:q.1 with
   | nil=>grind
   | cons x a c r=>left;show p.length+1<=(Di q.2 q.1++vM p).length;rw[hb];simp only[Di,List.length_append,List.length_cons];omega
  grind
theorem Sz:∀(e:Bool) (b:Bk),(Di e b).length<=lH b
 | _,.nil=>Nat.zero_le _
 | _,.cons x a b r=>by have:=Sz false r;simp only[Di,List.length_cons];rw[sm];omega
theorem Fk:∀p:PD,(vM p).length<=gM p
 | []=>Nat.zero_le _
 | q::p=>by have:=Fk p;have:=Sz q.2 q.1;rw[pG];show(Di q.2 q.1++vM p).length<=_;grind
end
structure Mo(m:Mem):Prop where
 l:xV m.l
 k:xV m.kept
 f:xV m.dV
 p:∀k,∀x∈m.fF k,eR x.n
theorem Fl:∀{ws:List j4}{k:List Int},xV k->(∀x∈ws,eR x.n)->xV (nG k ws)
 | [],k,hk,_=>hk
 | w::ws,k,hk,h=>by
  show xV (nG (k.set w.cell.toNat w.n) ws)
  exact Fl (hk.set (h w (List.mem_cons_self ..))) λ x hx=>h x (List.mem_cons_of_mem _ hx)
section
variable {m:Mem}
theorem Mo.write(h:Mo m){c n:Int}(hn:eR n):Mo (fh m c n):=by
 unfold fh
 split
 ·refine⟨h.l.set hn,h.k,h.f,λ k x hx=>?_⟩
  dsimp only at hx
  split at hx
  ·rcases Dg hx with h1|h1
   ·rcases List.mem_append.1 h1 with h2|h2
    ·exact h.p _ x h2
    grind
   exact h.p _ x h1
  exact h.p _ x hx
 exact h
theorem Mo.out(h:Mo m){n:Int}:Mo (nV m n):=by
 unfold nV
 split
 ·refine⟨h.l,Fl h.k (h.p _),h.f,λ k x hx=>?_⟩
  rcases Dg hx with h1|h1
  ·cases h1
  exact h.p _ x h1
 exact h
theorem M7(h:Mo m)(cut:List Int):∀k,xV (pF m cut k)
 | 0=>h.k
 | k+1=>by
  have ih:=M7 h cut k
  unfold pF at ih |-
  rw[List.range_succ,List.foldl_append]
  exact Fl ih λ x hx=>h.p _ x (List.mem_of_mem_take hx)
theorem Mo.aqS(h:Mo m){cut kW:List Int}(hi:fw m cut=some kW):Mo (my m kW):=by
 have hm:xV kW:=by
  unfold fw at hi
  split at hi
  ·cases hi;exact M7 h cut _
  ·cases hi
 refine⟨λ v hv=>?_,hm,h.f,λ k x hx=>by cases hx⟩
 rcases List.mem_append.1 (show v∈kW++m.dV.drop kW.length from hv)with h1|h1
 ·exact hm v h1
 exact h.f v (List.mem_of_mem_drop h1)
theorem Zy(h:Mo m)(c:Int):eR (jy m c):=by
 unfold jy
 split
 ·rw[List.getD_eq_getElem?_getD]
  cases hg:m.l[c.toNat]? with
  | none=>exact iq
  | some v=>exact h.l v (List.mem_of_getElem? hg)
 exact iq
end
theorem Zz{l:List bH}{c:Int}(h:∀y∈l,eR y.n):eR ((kV l c).getD 0):=by
 unfold kV
 cases hf:l.reverse.find? (λ x=>decide (x.kind=3/\x.cell=c))with
 | none=>exact iq
 | some y=>grind
theorem Uk{l:List bH}{i:Int}(h:∀y∈l,eR y.n):eR (dB l i).n:=by
 unfold dB
 split
 ·cases hg:l[i.toNat]? with
  | none=>exact iq
  | some y=>grind
 exact iq
theorem Ul{l:List bH}{i:Int}{y:bH}(h:y∈jL l i):y∈l:=by
 unfold jL at h
 split at h
 ·exact List.mem_of_mem_eraseIdx h
 exact h
theorem ZA{room:Int}{l:List bH}{x y:bH}(h:y∈sg room l x):y∈l\/y=x:=by
 unfold sg at h
 grind
structure A7(t:jP):Prop where
 r:xV t.dL
 b:∀y∈t.buf,eR y.n
theorem adZ{ns:List ByteArray}{nums:List Int}{xs:List bX}(h:xV nums):eR (pA ns nums xs).1:=by
 unfold pA
 repeat' split
 ·exact adX h
 ·exact iq
 exact iq
theorem Jt{t:jP}{xs:List bX}(h:xV t.dL):eR (eF t xs).1:=by
 unfold eF;split
 ·exact iq
 exact adZ h
theorem A7.goS{t:jP}(h:A7 t):A7 (qt t).1:=by
 unfold qt
 split
 ·exact h
 split
 ·unfold qq
  repeat' split
  all_goals first|exact⟨h.r.set (Jt h.r),h.b⟩|exact⟨h.r,h.b⟩
 exact⟨h.r,h.b⟩
theorem A7.goF:∀(n:Nat) {t tR:jP},A7 t->sO n t=some tR->A7 tR
 | 0,_,_,_,hg=>by cases hg
 | n+1,t,tR,h,hg=>by
  unfold sO at hg
  split at hg
  ·exact A7.goF n h.goS hg
  ·cases hg;exact h.goS
theorem A7.go{t:jP}(h:A7 t):A7 (goD t):=by
 unfold goD
 cases hg:sO (gM t.cD+1) t with
 | none=>exact h
 | some tR=>exact A7.goF _ h hg
theorem A7.th(t:cN):A7 (TQ t):=A7.go ⟨λ v hv=>by rw[(List.mem_replicate.1 hv).2];exact iq,λ y hy=>by cases hy⟩
structure Ju(m:gW):Prop where
 th:∀t∈m.l,A7 t
 mem:Mo m.mem
section
variable {m:gW}{t:jP}
theorem ZB{i:Int}{x:bN}(h:Mo m.mem)(h2:A7 t):A7 (dT m t i x).2.1/\Mo (dT m t i x).1.mem:=by
 have hr:=λ c=>Zy h c
 have hl:∀c,eR (gY m t c):=λ c=>by
  unfold gY
  split
  ·exact Zz h2.b
  grind
 have hp:∀y:bH,eR y.n->A7 (pH m t y):=λ y hy=>⟨h2.r,λ z hz=>by
  rcases ZA hz with h3|h3
  ·exact h2.b z h3
  grind⟩
 have hc:Mo (rk m t x).mem:=by
  unfold rk;split
  ·exact h.write (Jt h2.r)
  ·exact h
 have hs:∀n,eR n->A7 (oR t x.eC n):=λ n hn=>⟨h2.r.set hn,h2.b⟩
 unfold dT
 repeat' split
 all_goals first
  | exact⟨hs _ (hl _),h⟩
  | exact⟨hp _ (Jt h2.r),h⟩
  | exact⟨hp _ iq,h⟩
  | exact⟨h2,h⟩
  | exact⟨hs _ (hr _),hc⟩
theorem Ju.step{i:Int}(h:Ju m):Ju (ie m i).1:=by
 unfold ie
 split
 ·exact h
 rename_i t ht
 have BN:=h.th t (List.mem_of_getElem? ht)
 split
 ·exact⟨h.th,h.mem⟩
 split
 ·exact h
 rename_i x _ _ _
 split
 ·exact⟨h.th,h.mem⟩
 obtain⟨h1,h2⟩:=ZB (i:=i) (x:=x) h.mem BN
 refine⟨λ t' ht'=>?_,h2⟩
 rcases uM ht' with rfl|h3
 ·exact A7.go ⟨h1.r,h1.b⟩
 exact h.th t' h3
theorem Ju.out{q:cA}(h:Ju m)(ht:m.l[q.t.toNat]?=some t):Ju (sP m t q):=by
 have h2:=h.th t (List.mem_of_getElem? ht)
 refine⟨λ t' ht'=>?_,?_⟩
 ·rcases uM ht' with rfl|h3
  ·exact⟨h2.r,λ y hy=>h2.b y (Ul hy)⟩
  exact h.th t' h3
 show Mo (jM m.mem (dB t.buf q.i))
 unfold jM
 split
 ·exact h.mem.write (Uk h2.b)
 split
 ·exact h.mem
 exact h.mem.out
theorem Ju.begin{l:List cN}(h:Mo m.mem):Ju (qG m l):=⟨λ t ht=>by
 obtain⟨u,_,rfl⟩:=List.mem_map.1 (show t∈l.map TQ from ht);exact A7.th u,h⟩
theorem Ju.do{q:cA}(h:Ju m):Ju (qw m q).1:=by
 unfold qw
 cases hi:iK m q with
 | some kW=>
  have UJ:fw m.mem q.cut=some kW:=by unfold iK at hi;grind
  exact Ju.begin (m:=oT m kW) (h.mem.aqS UJ)
 | none=>
  dsimp only
  split
  ·split
   ·split
    ·rename_i t ht;exact h.out ht
    ·exact h
   ·exact h.step
  ·exact h
end
theorem M8(Mm:Option Addr)(YC YD:Nat)(Mn:Option Addr)(YE YF:Nat)(Mp:Option Addr)(YG YH:Nat)(Mq:Option Addr)(Mr Ms:Nat)(Mt:Option Addr)(Mu Mv:Nat)(Mw:Option Addr)(YI YJ:Nat)(a1:Int)(a3:Option Addr):pr Tryz.prog (Instr.build 44 [(0,.agg [.slice Mm YC YD,.slice Mn YE YF,.slice Mp YG YH,.slice Mq Mr Ms,.slice Mt Mu Mv,.slice Mw YI YJ].toArray),(1,.int .i64 a1),(3,.pointer a3)].toArray)=some (.agg [.slice Mm YC YD,.slice Mn YE YF,.slice Mp YG YH,.slice Mq Mr Ms,.slice Mt Mu Mv,.slice Mw YI YJ,.int .i64 a1,.int .i64 0,.pointer a3,.slice none 0 0,.slice none 0 0,.int .i64 0,.int .i64 0].toArray):=by kernel_rfl
theorem Fm(a0:Int)(a1:Int)(a2:Int)(a3:Bool):pr Tryz.prog (Instr.build 114 [(0,.int .i64 a0),(1,.int .i64 a1),(2,.int .i64 a2),(3,.bool a3)].toArray)=some (.agg [.int .i64 a0,.int .i64 a1,.int .i64 a2,.bool a3,.bool false].toArray):=by kernel_rfl
theorem xj(a0:Option Addr)(n0 c0:Nat)(a1:Option Addr)(n1 c1:Nat)(a2:Option Addr)(n2 c2:Nat)(a3:Option Addr):pr Tryz.prog (Instr.build 132 [(0,.slice a0 n0 c0),(1,.slice a1 n1 c1),(2,.slice a2 n2 c2),(3,.pointer a3)].toArray)=some (.agg [.slice a0 n0 c0,.slice a1 n1 c1,.slice a2 n2 c2,.pointer a3,.int .i64 0].toArray):=by kernel_rfl
theorem Jv(Mm:Int)(Mn:ByteArray)(Mp:ByteArray)(Mq:Option Addr)(Mr Ms:Nat)(Mt:Option Addr)(Mu Mv:Nat)(Mw:Int)(aqT:Int)(aqU:Int)(aqV:Int)(a1:Option Addr)(n1 c1:Nat)(a2:Option Addr)(n2 c2:Nat):pr Tryz.prog (Instr.build 218 [(0,.agg [.int .i64 Mm,.string Mn,.string Mp,.slice Mq Mr Ms,.slice Mt Mu Mv,.int .i64 Mw,.int .i64 aqT,.int .i64 aqU,.int .i64 aqV].toArray),(1,.slice a1 n1 c1),(2,.slice a2 n2 c2)].toArray)=some (.agg [.int .i64 Mm,.string Mn,.string Mp,.slice Mq Mr Ms,.slice Mt Mu Mv,.int .i64 Mw,.int .i64 aqT,.int .i64 aqU,.int .i64 aqV,.slice a1 n1 c1,.slice a2 n2 c2,.bool false].toArray):=by kernel_rfl
structure o0 where
 x:aZ
 body:SV
 eo:SV
 in_:Bool
instance:Flat o0 where
 agg:=true
 sz:=12
 enc e:=[.int .i64 e.x.kind,.string e.x.eC,.string e.x.name,.slice e.x.e.a e.x.e.n e.x.e.cap,.slice e.x.f.a e.x.f.n e.x.f.cap,.int .i64 e.x.n,.int .i64 e.x.body,.int .i64 e.x.eo,.int .i64 e.x.at_,.slice e.body.a e.body.n e.body.cap,.slice e.eo.a e.eo.n e.eo.cap,.bool e.in_]
 val e:=.agg [.int .i64 e.x.kind,.string e.x.eC,.string e.x.name,.slice e.x.e.a e.x.e.n e.x.e.cap,.slice e.x.f.a e.x.f.n e.x.f.cap,.int .i64 e.x.n,.int .i64 e.x.body,.int .i64 e.x.eo,.int .i64 e.x.at_,.slice e.body.a e.body.n e.body.cap,.slice e.eo.a e.eo.n e.eo.cap,.bool e.in_].toArray
 pos:=by decide
 len _:=rfl
 one a v h:=by simp at h;rcases h with rfl|rfl|rfl|rfl|rfl|rfl|rfl|rfl|rfl|rfl|rfl|rfl<;>rfl
 m6 _ _:=rfl
 nn h:=by cases h
variable (w:World) (K:Value->World->Prop)
def S128(l0:Value):Prop:=
 bS 130 0 [] w λ a b=>o8 (λ K1 m9 i4 c=>∀_:Env,
 lN 141 l0 λ d=>bA .lss 3 i4 d λ e=>cV e (iA 141 l0 i4 λ f=>lA 193 f c λ g=>aL 193 c λ h j=>sA 193 h g j λ k=>bB .add 3 i4 (i 1) λ l=>fA 193 h 6 λ n=>lA 3 n k λ o=>
 bA .add 3 l o λ p=>fA 193 h 7 λ q=>lA 3 q k λ r=>bA .add 3 p r λ s=>lA 193 h (drew k) λ t=>bB .add 3 i4 (i 1) λ u=>eN Tryz.prog (Instr.sliceAt 141 l0 (some u) (some p) none) λ v=>
 eN Tryz.prog (Instr.sliceAt 141 l0 (some p) (some s) none) λ x=>eN Tryz.prog (Instr.build 218 [(0,t),(1,v),(2,x)].toArray) λ y=>bS 130 1 [(0,y)] (drew k) λ z aa=>
 aP 130 m9 z aa λ ab ac=>K1 ab s ac) (K m9 c)) (λ K1=>K1 a (i 0) b)
def axK:dD:=λ i=>match i with
 | 6=>.run 0 15
 | _=>.nil
theorem ad0(l0:Value)(h:S128 w K l0):CR 128 [l0] w K:=
 qz 42 axK 4 [.tmp 2] Tryz.func128 h
def S13(p0 mA:Value):Prop:=
 rC Tryz.prog (Instr.box 27 p0) w λ p2 a=>lA 27 p2 a λ b=>cF 57 [b] a λ c d=>xT c 0 λ e=>xT c 1 λ _=>bB .neq 31 e (i 0) λ f=>cV f (K (.tuple #[(.pointer none),e]) d) (
 cF 58 [mA] d λ g h=>xT g 0 λ _=>xT g 1 λ j=>bB .neq 31 j (i 0) λ k=>cV k (K (.tuple #[(.pointer none),j]) h) (bS 41 0 [] h λ l n=>o8 (λ K1 aqX i11 o=>∀_:Env,
 lA 27 p2 o λ p=>cF 59 [p] o λ q r=>lN 23 q λ s=>bA .lss 3 i11 s λ t=>cV t (lA 27 p2 r λ u=>cF 60 [u,i11] r λ v x=>bS 41 1 [(0,v)] x λ y z=>aP 41 aqX y z λ aa ab=>
 bB .add 3 i11 (i 1) λ ac=>K1 aa ac ab) (lA 27 p2 (drew r) λ ad=>lA 27 p2 (drew r) λ ae=>cF 62 [ad] (drew r) λ af ag=>kA 27 p2 ae ag (cF 63 [ae] ag λ ah ai=>cF 61 [aqX,af,ah] ai λ aj ak=>
 xT aj 0 λ al=>xT aj 1 λ _=>lA 27 p2 ak λ am=>eN Tryz.prog (Instr.build 44 [(0,am),(1,mA),(3,al)].toArray) λ an=>rC Tryz.prog (Instr.box 44 an) ak λ ao ap=>
 fA 27 p2 3 λ aq=>lA 24 aq ap λ ar=>cF 64 [ao,ar] ap λ _ asx=>K (.tuple #[ao,(i 0)]) asx))) (λ K1=>K1 l (i 0) n)))
def P13:dD:=λ i=>match i with
 | 12=>(.of [(0,[]),(1,[]),(3,[]),(2,[3]),(4,[]),(5,[]),(6,[]),(7,[]),(8,[]),(9,[]),(10,[])])
 | _=>.nil
theorem aj7(p0 mA:Value)(h:S13 w K p0 mA):CR 13 [p0,mA] w K:=
 qz 64 P13 48 [.tmp 4,.tmp 5] Tryz.func13 h
def axL:dD:=λ i=>match i with
 | 3=>.run 0 15
 | _=>.nil
def S129(t0:Value):Prop:=
 QA (λ K1 a=>∀_:Env,
 nC t0 λ b=>fA 132 b 0 λ c=>lA 130 c a λ d=>lN 130 d λ e=>bB .gtr 3 e (i 0) λ f=>cV f (nC t0 λ g=>fA 132 g 0 λ h=>lA 130 h a λ j=>iA 130 j (i 0) λ k=>lA 218 k a λ l=>
 aL 218 a λ d2 n=>sA 218 d2 l n λ o=>fA 218 d2 0 λ p=>fA 193 p 3 λ q=>lA 82 q o λ r=>cF 203 [t0,r] o λ s t=>xT s 0 λ u=>xT s 1 λ v=>fA 218 d2 0 λ x=>fA 193 x 4 λ y=>
 lA 82 y t λ z=>cF 203 [t0,z] t λ aa ab=>xT aa 0 λ _=>xT aa 1 λ ac=>fc (λ K2=>eN Tryz.prog (Op.unary .not v) λ ad=>cV ad (K2 tt ab) (eN Tryz.prog (Op.unary .not ac) λ ae=>
 K2 ae ab)) (λ af ag=>∀_:Env,
 cV af (nC t0 λ ah=>fA 132 ah 4 λ ai=>sA 3 ai (i 2) ag λ aj=>K (.tuple #[]) aj) (fA 218 d2 0 λ ak=>fA 193 ak 0 λ al=>lA 3 al ag λ am=>bB .eql 3 am (i 1) λ an=>
 cV an (fA 218 d2 0 λ ao=>fA 193 ao 1 λ ap=>lA 9 ap ag λ aq=>cF 204 [t0,aq,u] ag λ _ ar=>cF 171 [t0,(.slice none 0 0)] ar λ _ asx=>K1 asx) (bB .eql 3 am (i 11) λ au=>
 cV au (bB .neq 3 u (i 0) λ av=>cV av (fA 218 d2 1 λ aw=>lA 141 aw ag λ ax=>cF 128 [ax] ag λ ay az=>cF 171 [t0,ay] az λ _ a0=>K1 a0) (fA 218 d2 2 λ a1=>lA 141 a1 ag λ a2=>
 cF 128 [a2] ag λ a3 a4=>cF 171 [t0,a3] a4 λ _ a5=>K1 a5)) (bB .eql 3 am (i 12) λ a6=>cV a6 (bS 130 0 [] ag λ a7 a8=>fc (λ K3=>fA 218 d2 0 λ a9=>fA 193 a9 5 λ ba=>
 lA 3 ba a8 λ bb=>bB .gtr 3 bb (i 0) λ bc=>cV bc (lA 218 d2 a8 λ bd=>aL 218 a8 λ Jw be=>sA 218 Jw bd be λ bf=>fA 218 d2 0 λ bg=>fA 193 bg 5 λ bh=>lA 3 bh bf λ bi=>
 bB .sub 3 bi (i 1) λ bj=>fA 218 Jw 0 λ bk=>fA 193 bk 5 λ bl=>sA 3 bl bj bf λ bm=>fA 218 Jw 3 λ bn=>sA 4 bn tt bm λ bo=>fA 218 d2 1 λ bp=>lA 141 bp bo λ bq=>
 cF 128 [bq] bo λ br bs=>aP 130 a7 br bs λ bt bu=>lA 218 Jw bu λ bv=>bS 130 1 [(0,bv)] bu λ bw bx=>aP 130 bt bw bx λ bz b0=>K3 bz b0) (K3 a7 a8)) (λ l7 b1=>∀_:Env,
 cF 171 [t0,l7] b1 λ _ b2=>K1 b2)) (bB .eql 3 am (i 13) λ b3=>cV b3 (kh (λ K4 k9 b4=>∀_:Env,
 fc (λ K5=>nC t0 λ b5=>fA 132 b5 0 λ b6=>lA 130 b6 b4 λ b7=>lN 130 b7 λ b8=>bA .lss 3 k9 b8 λ b9=>cV b9 (nC t0 λ ca=>fA 132 ca 0 λ cb=>lA 130 cb b4 λ cc=>
 iA 130 cc k9 λ cd=>fA 218 cd 3 λ ce=>lA 4 ce b4 λ cf=>eN Tryz.prog (Op.unary .not cf) λ cg=>K5 cg b4) (K5 ff b4)) (λ ch ci=>∀_:Env,
 cV ch (bB .add 3 k9 (i 1) λ cj=>K4 cj ci) (nC t0 λ ck=>fA 132 ck 0 λ cl=>lA 130 cl (drew ci) λ cm=>bB .add 3 k9 (i 1) λ cn=>nC t0 λ co=>fA 132 co 0 λ cp=>lA 130 cp (drew ci) λ cq=>
 lN 130 cq λ cr=>eN Tryz.prog (Builtin.min_ #[3,3] 3 [cn,cr].toArray) λ cs=>eN Tryz.prog (Instr.sliceAt 130 cm (some cs) none none) λ ct=>nC t0 λ cu=>fA 132 cu 0 λ cv=>
 sA 130 cv ct (drew ci) λ cw=>K1 cw))) (λ K4=>K4 (i 0) ag)) (bB .eql 3 am (i 14) λ cx=>cV cx (bB .eql 3 u (i 0) λ cy=>cV cy (nC t0 λ cz=>fA 132 cz 4 λ c0=>sA 3 c0 (i 1) ag λ c1=>
 K (.tuple #[]) c1) (cF 171 [t0,(.slice none 0 0)] ag λ _ c2=>K1 c2)) (K (.tuple #[]) ag)))))))) (K (.tuple #[]) a)) (λ K1=>K1 w)
def axM:dD:=λ i=>match i with
 | 27=>.run 0 17
 | _=>.nil
theorem ad1(t0:Value)(h:S129 w K t0):CR 129 [t0] w K:=
 qz 148 axM 0 [] Tryz.func129 h
def P80:dD:=λ i=>match i with
 | 7=>.run 0 14
 | 8=>(.of [(0,[]),(1,[]),(2,[]),(3,[]),(4,[]),(5,[]),(6,[]),(7,[]),(8,[]),(9,[]),(10,[]),(11,[]),(12,[]),(13,[]),(14,[]),(15,[]),(16,[]),(17,[]),(18,[]),(19,[]),(20,[]),(21,[]),(23,[]),(24,[]),(22,[17,24]),(25,[17]),(26,[]),(27,[]),(28,[]),(29,[]),(30,[]),(31,[])])
 | _=>.nil
def S169(s0 t1 a lI:Value):Prop:=
 rC Tryz.prog (Instr.box 193 a) w λ b c=>aL 56 c λ d e=>fA 193 b 3 λ f=>lA 82 f e λ g=>cF 203 [t1,g] e λ h j=>xT h 0 λ k=>xT h 1 λ _=>fA 193 b 4 λ l=>lA 82 l j λ n=>
 cF 203 [t1,n] j λ o p=>xT o 0 λ q=>xT o 1 λ _=>nC t1 λ s=>fA 132 s 3 λ t=>lA 103 t p λ u=>cF 229 [u,lI] p λ v x=>xT v 0 λ y=>xT v 1 λ z=>fc (λ K1=>
 eN Tryz.prog (Op.unary .not z) λ aa=>cV aa (nC s0 λ ab=>fA 44 ab 3 λ ac=>lA 40 ac x λ ad=>nC ad λ ae=>fA 122 ae 2 λ af=>lA 41 af x λ ag=>iA 41 ag lI λ ah=>
 lA 3 ah x λ ai=>K1 ai x) (K1 y x)) (λ UQ aj=>∀_:Env,
 fA 193 b 1 λ ak=>lA 9 ak aj λ al=>cF 204 [t1,al,UQ] aj λ _ am=>fA 193 b 0 λ an=>lA 3 an am λ ao=>bB .eql 3 ao (i 2) λ ap=>cV ap (cV z (eN Tryz.prog (Instr.build 56 [(0,(i 2)),(2,lI),(3,UQ)].toArray) λ aq=>
 sA 56 d aq am λ ar=>lA 56 d ar λ r=>K r ar) (eN Tryz.prog (Instr.build 56 [(0,(i 1)),(2,lI),(3,UQ)].toArray) λ asx=>sA 56 d asx am λ au=>lA 56 d au λ HY=>K HY au)) (
 bA .neq 3 UQ k λ av=>cV av (eN Tryz.prog (Instr.build 56 [(0,(i 9)),(2,lI),(3,UQ)].toArray) λ aw=>sA 56 d aw am λ ax=>lA 56 d ax λ NV=>K NV ax) (nC s0 λ ay=>
 fA 44 ay 3 λ az=>lA 40 az am λ a0=>cF 166 [a0,lI,q] am λ _ a1=>eN Tryz.prog (Instr.build 56 [(0,(i 8)),(2,lI),(3,UQ),(4,q)].toArray) λ a2=>sA 56 d a2 a1 λ a3=>
 lA 56 d a3 λ r_3=>K r_3 a3)))
theorem ad2(s0 t1 x2 lI:Value)(h:S169 w K s0 t1 x2 lI):CR 169 [s0,t1,x2,lI] w K:=
 qz 82 (λ _=>.nil) 256 [.cell 8 56] Tryz.func169 h
def S96(s0 i1:Value):Prop:=
 aL 56 w λ a b=>nC s0 λ c=>fA 44 c 5 λ d=>lA 42 d b λ e=>iA 42 e i1 λ f=>lA 129 f b λ g=>nC g λ h=>fA 132 h 4 λ j=>lA 3 j b λ k=>bB .neq 3 k (i 0) λ l=>
 cV l (nC g λ n=>fA 132 n 4 λ o=>lA 3 o b λ p=>cF 168 [s0,i1,p] b λ q s=>sA 56 a q s λ t=>lA 56 a t λ r=>K r t) (nC g λ u=>fA 132 u 0 λ v=>lA 130 v b λ x=>
 iA 130 x (i 0) λ y=>fA 218 y 0 λ z=>lA 193 z b λ aa=>eN Tryz.prog (Instr.build 56 [].toArray) λ ab=>aL 193 b λ ac ad=>aL 56 ad λ v7 ae=>sA 193 ac aa ae λ af=>
 sA 56 v7 ab af λ ag=>nC s0 λ ah=>fA 44 ah 0 λ ai=>lA 27 ai (drew ag) λ aj=>fA 193 ac 2 λ ak=>lA 9 ak (drew ag) λ al=>nC s0 λ am=>fA 44 am 0 λ an=>lA 27 an (drew ag) λ ao=>
 fA 193 ac 2 λ ap=>lA 9 ap (drew ag) λ aq=>cF 124 [aj] (drew ag) λ ar asx=>kA 9 ak al asx (kA 27 an ao asx (kA 9 ap aq asx (cF 123 [ar,al] asx λ au av=>kA 27 an ao av (kA 9 ap aq av (
 cF 125 [ao] av λ aw ax=>kA 9 ap aq ax (cF 123 [aw,aq] ax λ ay az=>yc (λ K1=>fA 193 ac 0 λ a0=>lA 3 a0 az λ a1=>fc (λ K2=>bB .eql 3 a1 (i 2) λ a2=>cV a2 (
 K2 a2 az) (bB .eql 3 a1 (i 4) λ a3=>K2 a3 az)) (λ a4 a5=>∀_:Env,
 cV a4 (lA 193 ac a5 λ a6=>cF 169 [s0,g,a6,au] a5 λ a7 a8=>sA 56 v7 a7 a8 λ a9=>K1 a9) (bB .eql 3 a1 (i 8) λ ba=>cV ba (fA 56 v7 0 λ bb=>sA 3 bb (i 7) a5 λ bc=>
 K1 bc) (bB .eql 3 a1 (i 9) λ bd=>cV bd (nC s0 λ be=>fA 44 be 4 λ bf=>lA 41 bf a5 λ bg=>iA 41 bg ay λ bh=>sA 3 bh i1 a5 λ bi=>eN Tryz.prog (Instr.build 56 [(0,(i 10)),(2,ay)].toArray) λ bj=>
 sA 56 v7 bj bi λ bk=>K1 bk) (bB .eql 3 a1 (i 10) λ bl=>cV bl (nC s0 λ bm=>fA 44 bm 4 λ bn=>lA 41 bn a5 λ bo=>iA 41 bo ay λ bp=>lA 3 bp a5 λ bq=>bA .neq 3 bq i1 λ br=>
 cV br (cF 168 [s0,i1,(i 3)] a5 λ bs bt=>sA 56 a bs bt λ bu=>lA 56 a bu λ HY=>K HY bu) (nC s0 λ bv=>fA 44 bv 4 λ bw=>lA 41 bw a5 λ bx=>iA 41 bx ay λ bz=>sA 3 bz (i (-1)) a5 λ b0=>
 eN Tryz.prog (Instr.build 56 [(0,(i 11)),(2,ay)].toArray) λ b1=>sA 56 v7 b1 b0 λ b2=>K1 b2)) (lA 193 ac (drew a5) λ b3=>nC s0 λ b4=>fA 44 b4 0 λ b5=>lA 27 b5 (drew a5) λ b6=>
 cF 60 [b6,au] (drew a5) λ b7 b8=>kA 193 ac b3 b8 (cF 170 [s0,g,b3,au,b7] b8 λ b9 ca=>sA 56 v7 b9 ca λ cb=>K1 cb))))))) (λ cc=>∀_:Env,
 fA 56 v7 1 λ cd=>sA 3 cd i1 cc λ ce=>cF 171 [g,(.slice none 0 0)] ce λ _ cf=>cF 129 [g] cf λ _ cg=>lA 56 v7 cg λ ch=>sA 56 a ch cg λ ci=>lA 56 a ci λ NV=>K NV ci))))))))
def P96:dD:=λ i=>match i with
 | 5=>(.of [(0,[]),(1,[]),(2,[]),(3,[]),(5,[]),(6,[]),(8,[]),(9,[]),(10,[]),(11,[]),(13,[]),(14,[]),(4,[6,11,14]),(7,[11,14]),(12,[14]),(15,[]),(16,[]),(17,[])])
 | 7=>(.of [(0,[]),(1,[]),(2,[]),(3,[]),(4,[]),(5,[]),(6,[]),(7,[]),(8,[]),(9,[2]),(10,[]),(11,[])])
 | _=>.nil
theorem aj8(s0 i1:Value)(h:S96 w K s0 i1):CR 96 [s0,i1] w K:=
 qz 117 P96 16 [.cell 4 56] Tryz.func96 h
def P95:dD:=λ i=>match i with
 | 3=>.run 0 9
 | 7=>.run 0 7
 | _=>.nil
def P25:dD:=λ i=>match i with
 | 2=>.run 0 12
 | 5=>.run 0 7
 | 15=>.run 0 34
 | _=>.nil
def P74:dD:=λ i=>match i with
 | 1=>(.of [(0,[]),(1,[]),(2,[]),(3,[]),(4,[]),(5,[]),(6,[]),(7,[]),(8,[]),(9,[]),(10,[]),(11,[]),(12,[]),(13,[]),(14,[]),(15,[]),(16,[]),(17,[]),(18,[3,7,11,15]),(19,[])])
 | _=>.nil
def S75(s0:Value):Prop:=
 bS 117 0 [] w λ a b=>nC s0 λ c=>fA 44 c 0 λ d=>lA 27 d b λ e=>cF 62 [e] b λ f g=>o8 (λ K1 m9 i5 h=>∀_:Env,
 nC s0 λ j=>fA 44 j 0 λ k=>fA 27 k 5 λ l=>lA 25 l h λ n=>lN 25 n λ o=>bA .lss 3 i5 o λ p=>cV p (fc (λ K2=>nC s0 λ q=>fA 44 q 0 λ r=>fA 27 r 5 λ s=>
 lA 25 s (drew h) λ t=>iA 25 t i5 λ u=>fA 85 u 0 λ v=>lA 82 v (drew h) λ x=>nC s0 λ y=>fA 44 y 0 λ z=>lA 27 z (drew h) λ aa=>nC s0 λ ab=>fA 44 ab 3 λ ac=>
 lA 40 ac (drew h) λ ad=>nC ad λ ae=>fA 122 ae 2 λ af=>lA 41 af (drew h) λ ag=>eN Tryz.prog (Instr.sliceAt 41 ag none (some f) none) λ ah=>cF 124 [aa] (drew h) λ ai aj=>
 kA 25 s t aj (kA 82 v x aj (kA 40 ac ad aj (kA 41 af ag aj (eN Tryz.prog (Instr.sliceAt 91 ai none (some f) none) λ ak=>cF 146 [x,ak,ah] aj λ al am=>xT al 0 λ an=>xT al 1 λ ao=>
 bB .eql 31 ao (i 0) λ ap=>cV ap (bB .neq 3 an (i 0) λ aq=>bS 117 1 [(0,aq)] am λ ar asx=>aP 117 m9 ar asx λ au av=>K2 au av) (bS 117 1 [(0,ff)] am λ aw ax=>aP 117 m9 aw ax λ ay az=>
 K2 ay az)))))) (λ Er a0=>∀_:Env,
 bB .add 3 i5 (i 1) λ a1=>K1 Er a1 a0)) (K m9 h)) (λ K1=>K1 a (i 0) g)
def P75:dD:=λ i=>match i with
 | 5=>(.of [(0,[]),(1,[]),(2,[]),(3,[]),(4,[]),(5,[]),(6,[]),(7,[]),(8,[]),(9,[]),(10,[]),(11,[]),(12,[]),(14,[]),(16,[]),(17,[]),(18,[]),(19,[]),(20,[]),(21,[]),(22,[]),(23,[]),(24,[]),(13,[4,8,19,22]),(15,[]),(25,[]),(26,[]),(27,[]),(28,[]),(29,[]),(30,[])])
 | _=>.nil
theorem aj9(s0:Value)(h:S75 w K s0):CR 75 [s0] w K:=
 qz 63 P75 4 [.tmp 2] Tryz.func75 h
def S64(s0 l1:Value):Prop:=
 nC s0 λ a=>fA 44 a 5 λ b=>sA 42 b (.slice none 0 0) w λ c=>nC s0 λ d=>fA 44 d 4 λ e=>sA 41 e (.slice none 0 0) c λ f=>kh (λ K1 i4 g=>∀_:Env,
 nC s0 λ h=>fA 44 h 0 λ j=>fA 27 j 2 λ k=>lA 23 k g λ l=>lN 23 l λ n=>bA .lss 3 i4 n λ o=>cV o (nC s0 λ p=>fA 44 p 4 λ q=>lA 41 q g λ r=>bS 41 1 [(0,(i (-1)))] g λ s t=>
 aP 41 r s t λ u v=>nC s0 λ x=>fA 44 x 4 λ y=>sA 41 y u v λ z=>bB .add 3 i4 (i 1) λ aa=>K1 aa z) (kh (λ K2 i5 ab=>∀_:Env,
 lN 24 l1 λ ac=>bA .lss 3 i5 ac λ ad=>cV ad (yc (λ K3=>nC s0 λ ae=>fA 44 ae 1 λ af=>lA 3 af ab λ ag=>cF 58 [ag] ab λ ah ai=>xT ah 0 λ aj=>xT ah 1 λ _=>
 fc (λ K4=>iA 24 l1 i5 λ ak=>fA 146 ak 2 λ al=>lA 141 al (drew ai) λ am=>iA 24 l1 i5 λ an=>fA 146 an 1 λ ao=>lA 91 ao (drew ai) λ ap=>iA 24 l1 i5 λ aq=>fA 146 aq 1 λ ar=>
 lA 91 ar (drew ai) λ asx=>lN 91 asx λ au=>((cF 128 [am] (drew ai) λ av aw=>kA 91 ao ap aw (kA 91 ar asx aw (rC Tryz.prog (Instr.makeSlice 41 au au) aw λ ax ay=>kA 141 al am ay (
 kA 91 ao ap ay (eN Tryz.prog (Instr.build 132 [(0,av),(1,ap),(2,ax),(3,aj)].toArray) λ az=>rC Tryz.prog (Instr.box 132 az) ay λ a0 a1=>K4 a0 a1)))))
 /\((rC Tryz.prog (Instr.makeSlice 41 au au) (drew ai) λ a2 a3=>kA 141 al am a3 (kA 91 ao ap a3 (cF 128 [am] a3 λ a4 a5=>kA 91 ao ap a5 (kA 91 ar asx a5 (eN Tryz.prog (Instr.build 132 [(0,a4),(1,ap),(2,a2),(3,aj)].toArray) λ a6=>
 rC Tryz.prog (Instr.box 132 a6) a5 λ a7 a8=>K4 a7 a8)))))
 /\
 True))) (λ t8 a9=>∀_:Env,
 cF 129 [t8] a9 λ _ ba=>nC s0 λ bb=>fA 44 bb 5 λ bc=>lA 42 bc ba λ bd=>bS 42 1 [(0,t8)] ba λ be bf=>aP 42 bd be bf λ bg bh=>nC s0 λ bi=>fA 44 bi 5 λ bj=>sA 42 bj bg bh λ bk=>
 K3 bk)) (λ bl=>∀_:Env,
 bB .add 3 i5 (i 1) λ bm=>K2 bm bl)) (K (.tuple #[]) ab)) (λ K2=>K2 (i 0) g))) (λ K1=>K1 (i 0) f)
def P64:dD:=λ i=>match i with
 | 10=>(.op 0 [] (.op 1 [] (.op 2 [] (.op 3 [] (.op 4 [] (.op 6 [] (.op 7 [] (.op 8 [] (.op 9 [] (.op 10 [] (.op 11 [] (.op 12 [] (.op 13 [] (.op 14 [] (.op 15 [] (.op 16 [] (.op 18 [] (.alt 5 [10,15] (.of [(17,[4,10]),(19,[]),(20,[]),(21,[])]) (.alt 17 [4,10] (.of [(5,[10,15]),(19,[]),(20,[]),(21,[])]) .stop)))))))))))))))))))
 | _=>.nil
theorem aka(s0 l1:Value)(h:S64 w K s0 l1):CR 64 [s0,l1] w K:=
 qz 81 P64 0 [] Tryz.func64 h
theorem M9:PL 128:=dF Tryz.func128
theorem axN:PL 13:=dF Tryz.func13
theorem Na:PL 203:=dF Tryz.func203
theorem agu:PL 204:=dF Tryz.func204
theorem HE:PL 171:=dF Tryz.func171
theorem agv:PL 129:=dF Tryz.func129
theorem axO:PL 80:=dF Tryz.func80
theorem aqY:PL 22:=dF Tryz.func22
theorem agw:PL 168:=dF Tryz.func168
theorem aqZ:PL 170:=dF Tryz.func170
theorem aq0:PL 169:=dF Tryz.func169
theorem axP:PL 96:=dF Tryz.func96
theorem axQ:PL 95:=dF Tryz.func95
theorem axR:PL 25:=dF Tryz.func25
theorem axS:PL 74:=dF Tryz.func74
theorem axT:PL 75:=dF Tryz.func75
theorem aq1:PL 64:=dF Tryz.func64
end Go.Proofs.YtpdlpabnlkofmaaGreatDoor
namespace Go.Proofs.YtpdlpabnlkofmaaGreatDoor
open Go.Fw
theorem Fo{α:Type}[Flat α]{P:Program}{S:Nat->Prop}{Wd:World->Prop}{w0:World}{xs:List α}{T E kS:Nat}{z:Option Nat}{v:Value}{i:Int}{x:α}{K:Value->Prop}(ht:eK P T=some (E,Flat.sz α,kS,z))(h:∀w,Wd w->dC S w v xs)(hw:Wd w0)(h0:0<=i)(hx:xs[i.toNat]?=some x)
  (k:∀p,(∀w,Wd w->At S w p x)->K p):eN P (Instr.indexAt T v (.int .i64 i)) K:=by
 obtain⟨a,cap,rfl,Bg,h3⟩:=h w0 hw
 have nH:i.toNat<xs.length:=(List.getElem?_eq_some_iff.1 hx).1
 rcases h3 with⟨rfl,_⟩|⟨b,o,rfl,h4,_⟩
 ·simp at hx
 obtain⟨hu,inf,hi,o7,_⟩:=fp ht
 refine⟨.pointer (some ⟨b,o+i.toNat*Flat.sz α,none⟩),?_,k _ λ w' hw'=>⟨b,_,rfl,h4 (by grind),λ j c hj=>?_⟩⟩
 ·unfold Instr.indexAt
  rw[cX]
  show pr P _=_
  simp only[asIntOf]
  have e1:pr P (underlying T)=some (.slice E):=cZ hu
  have e2:pr P (sizeOf E)=some (Flat.sz α):=by rw[mI hi,o7]
  simp only[cX,e1,e2,Option.bind_some,fM]
  have sR:0<=i/\i<(xs.length:Int):=⟨h0,by omega⟩
  simp only[if_pos sR,cX,e2,Option.bind_some,fM,gu]
 obtain⟨a',DD,he,_,h6⟩:=h w' hw'
 cases he
 rcases h6 with⟨rfl,_⟩|⟨b',o',he,_,h5⟩
 ·simp at hx
 cases he
 have:=h5 (i.toNat*Flat.sz α+j) c (rF hx hj)
 grind
def pf(ws:List mN)(m:Mem):Prop:=(∀n,m.fF n=(ws.filter λ x=>decide (x.line=n)).map λ x=>⟨x.cell,x.n⟩)/\∀x∈ws,0<=x.cell/\m.of[x.cell.toNat]?=some x.line
def gi(p:Nat)(m:Mem):HP:=qd λ q:Value×Value×Value×Value×Value=>qd λ ws:List mN=>fact (pf ws m) (sep (bY p [q.1,q.2.1,q.2.2.1,q.2.2.2.1,q.2.2.2.2]) (sep (bG q.1 m.of) (sep (bG q.2.1 m.dV) (sep (bG q.2.2.1 m.l) (sep (bG q.2.2.2.1 m.kept) (bG q.2.2.2.2 ws))))))
structure AV(w:World)(p:Nat)(m:Mem):Prop where
 ex:∃ov fv lv kv wv ws,pf ws m/\ng w p [ov,fv,lv,kv,wv]/\dC (λ _=>True) w ov m.of/\dC (λ _=>True) w fv m.dV/\dC (λ _=>True) w lv m.l/\dC (λ _=>True) w kv m.kept/\dC (λ _=>True) w wv ws
section
variable {w w0:World}{A:Nat->Prop}{R:List HP}{p:Nat}{m:Mem}{ov fv lv kv wv:Value}{ws:List mN}
theorem gi.shut(h:pf ws m)(hs:St w0 A (bY p [ov,fv,lv,kv,wv]::bG ov m.of::bG fv m.dV::bG lv m.l::bG kv m.kept::bG wv ws::R) w):St w0 A (gi p m::R) w:=by
 have h5:=St.join hs.p5.p5
 have h4:=St.join h5.p4
 have h3:=St.join h4.p3
 have h2:=St.join h3.p2
 have h1:=St.join h2.p1
 exact St.et (ov,fv,lv,kv,wv) (St.et ws (St.oc h h1))
theorem gi.open(hs:St w0 A (gi p m::R) w):∃ov fv lv kv wv ws,pf ws m/\St w0 A (bY p [ov,fv,lv,kv,wv]::bG ov m.of::bG fv m.dV::bG lv m.l::bG kv m.kept::bG wv ws::R) w:=by
 obtain⟨⟨ov,fv,lv,kv,wv⟩,hs⟩:=hs.er;obtain⟨ws,hs⟩:=hs.er;obtain⟨hk,hs⟩:=hs.me
 have h1:=hs.split
 have h2:=h1.p1.split
 have h3:=h2.p1.split
 have h4:=h3.p1.split
 have h5:=h4.p1.split
 exact⟨ov,fv,lv,kv,wv,ws,hk,h5.p2.p3.p4.p5⟩
end
theorem Fp{w:World}{p:Nat}{m:Mem}(h:Has (gi p m) w):AV w p m:=by
 obtain⟨F,hs⟩:=h.st
 obtain⟨ov,fv,lv,kv,wv,ws,hk,hs⟩:=gi.open hs
 exact⟨ov,fv,lv,kv,wv,ws,hk,hs.hb,hs.p1.dX,hs.p2.dX,hs.p3.dX,hs.p4.dX,hs.p5.dX⟩
theorem Fq{α β:Type}[Flat α][Flat β]{P:Program}{S:Nat->Prop}{Wd:World->Prop}{w0:World}{T f off:Nat}{p:Value}{x:α}(y:β){K:Value->Prop}(ht:v8 P T f off)(h:∀w,Wd w->At S w p x)(hw:Wd w0)(hy:(Flat.enc x)[off]?=some (Flat.val y))(ha:Flat.agg β=false)
  (k:∀q,(∀w,Wd w->At S w q y)->K q):eN P (Instr.fieldAt T p f) K:=by
 obtain⟨b,o,rfl,h2,_⟩:=h w0 hw
 refine aA ht (k _ λ w hw=>?_)
 obtain⟨b',o',he,_,h3⟩:=h w hw
 cases he
 refine⟨b,o+off,rfl,h2,λ j c hj=>?_⟩
 rw[Flat.nn ha]at hj
 grind
theorem ad3{l:List Int}{k:Nat}{e:Int}(h0:0<k)(h:l[((k:Int)-1).toNat]?=some e):tj l k=e+1:=by
 unfold tj
 rw[if_neg (by omega),List.getD_eq_getElem?_getD,show k-1=((k:Int)-1).toNat from by omega,h];rfl
theorem ZC{of fi:List Int}{st:Int}:pf [] (I3 of st fi):=⟨λ _=>rfl,λ x h=>by cases h⟩
theorem C61(of fi:List Int)(st:Int)(ov fv:Value)(w:World)(hO:dC (λ _=>True) w ov of)(NB:dC (λ _=>True) w fv fi)(hle:of.length=fi.length)(Ma:of.length<=20)(iL:0<=st/\st<=of.length)(FY:∀(k:Nat) (n:Int),(k:Int)<st->of[k]?=some n->(n=tj of k\/(0<k/\n=tj of k-1))/\-10<=n/\n<=100):CR 61 [ov,.int .i64 st,fv] w (λ v w'=>∃b,v=.tuple #[.pointer (some ⟨b,0,none⟩),.int .i64 0]/\lL (gi b (I3 of st fi)) w w'):=by
 have hs:=St.start w;refine agW _ _ _ _ _ ?_;unfold S61;refine⟨_,?_,λ _ _ h=>h⟩;refine aI cM (hO.ext hs.aF) (aI cM (NB.ext hs.aF) (bV (fE (decide_eq_false (by omega)) (aI cM (hO.ext hs.aF) (cP (fE (decide_eq_false (by omega)) (aQ (fE (decide_eq_false (by omega)) (aI cM (hO.ext hs.aF) (cP ?_))))))))));intro _;refine fE (decide_eq_false (by omega)) ?_;refine⟨λ mm x w1=>∃k:Nat,x=.int .i64 (k:Int)/\mm=st.toNat-k/\(k:Int)<=st/\St w aY [] w1,⟨_,0,rfl,rfl,by omega,hs⟩,?_⟩;rintro mm _ _ ⟨k,rfl,rfl,hk,hs⟩ _;refine aQ (aC (λ jW=>⟨_,aH (aC (λ Cc=>?_) (λ Cc=>?_)),λ _ _ h=>h⟩) (λ jW=>?_))
 ·obtain⟨wV,vj⟩:=gx (of) (i:=((0:Int)).toNat) (by omega);refine aO cM hO (by omega) vj (λ _ wI=>have hs:=hs.drew;aE bL (wI.ext hs.aF) ?_);have hw0:=FY 0 wV (by omega) (by simpa using vj);have hw1:tj of 0=0:=rfl;refine bV (fE (decide_eq_false (by omega)) (cP (fE (decide_eq_false (by omega)) ?_)));intro xB;exact fm (aK (by omega) ⟨_,by omega,k+1,rfl,rfl,by omega,hs⟩)
 ·refine cP (lQ (decide_eq_true (by omega)) ?_);obtain⟨ad4,Fs⟩:=gx (of) (i:=((k:Int)).toNat) (by omega);refine aO cM hO (by omega) Fs (λ _ ad5=>have hs:=hs.drew;aE bL (ad5.ext hs.aF) (fe (by omega) ?_));obtain⟨asP,Ft⟩:=gx (of) (i:=(((k:Int)-1)).toNat) (by omega);refine aO cM hO (by omega) Ft (λ _ ad6=>aE bL (ad6.ext hs.aF) ?_);have hw0:=FY k ad4 (by omega) (by simpa using Fs);rw[ad3 (by omega) Ft]at hw0;refine bV (aC (λ ad7=>?_) (λ ad7=>?_))
  ·refine aO cM hO (by omega) Fs (λ _ ad8=>aE bL (ad8.ext hs.aF) (fe (by omega) (aO cM hO (by omega) Ft (λ _ ad9=>aE bL (ad9.ext hs.aF) (aK (by omega) (bV ?_))))));intro xB;exact fE (decide_eq_false (by omega)) (aK (by omega) ⟨_,by omega,k+1,rfl,rfl,by omega,hs⟩)
  intro xB;exact fm (aK (by omega) ⟨_,by omega,k+1,rfl,rfl,by omega,hs⟩)
 refine aX (([]:List Int)) hs cM rfl rfl (dI rfl) (λ s_x72 _ hs=>jH cM (hO.ext hs.aF) (by omega) (by omega) (λ aqG akb=>?_));have akc:=akb _ hO;have akd:=(akc.ext hs.aF);refine bI hs cM akd (by simp;omega) (by decide) (λ s_x76 _ hs=>aX (([]:List Int)) hs cM rfl rfl (dI rfl) (λ s_x77 _ hs=>?_));have ON:=(NB.ext hs.aF);refine bI hs cM ON (by simp;omega) (by decide) (λ ao4 _ hs=>?_);obtain⟨Qc,rfl⟩:=(hs.p1).fC;obtain⟨BB,rfl⟩:=(hs).fC;refine pop (N1 _ _ _ _ _ _) (cI (x:=(⟨Qc,BB,cH,cH,cH⟩:Q5)) hs (λ b_x81 _ hs=>aX (([]:List Int)) hs cM rfl rfl (dI rfl) (λ af4 _ hs=>?_)))
 have ake:=(NB.ext hs.aF);refine bI hs cM ake (by simp;omega) (by decide) (λ s_x85 _ hs=>aD (aA rH ?_));obtain⟨ZD,rfl⟩:=(hs).fC;refine aS hs.p1 eg (dI rfl) (rfl) (λ _ hs=>have hs:=hs.enc (cs':=Flat.enc (⟨Qc,BB,ZD,cH,cH⟩:Q5)) rfl;aX (([]:List Int)) hs cM rfl rfl (dI rfl) (λ s_x89 _ hs=>jH cM (NB.ext hs.aF) (by omega) (by omega) (λ s_x92 akf=>?_)));have akg:=akf _ NB;have akh:=(akg.ext hs.aF);refine bI hs cM akh (by simp;omega) (by decide) (λ s_x93 _ hs=>aD (aA zT ?_));obtain⟨aki,rfl⟩:=(hs).fC;refine aS hs.p1 eg (dI rfl) (rfl) (λ _ hs=>?_)
 have hs:=(((hs.enc (cs':=Flat.enc (⟨Qc,BB,ZD,aki,cH⟩:Q5)) rfl).p1).p2).p3;have hs:=hs.p4.p4;simp only[List.nil_append]at hs;have hs:=(hs.eJ (α:=mN)).p5.p5.p5.p5.p5;exact⟨_,rfl,(gi.shut (m:=I3 of st fi) ZC hs).fresh⟩
end Go.Proofs.YtpdlpabnlkofmaaGreatDoor

/-
  Part 4.
-/
import Derived.Test.YtpdlpabnlkofmaaGreatDoorM3
set_option maxHeartbeats 8000000
set_option linter.all false
set_option maxRecDepth 100000
namespace Go.Proofs.YtpdlpabnlkofmaaGreatDoor
open Go.Fw
def oh(s:ByteArray):ByteArray:=s.extract 0 (min (s.size:Int) 40).toNat
theorem pB(s:ByteArray):(oh s).size<=40:=by
 unfold oh
 rw[ByteArray.size_extract];omega
def acM(x:bX):bX:={x with name:=oh x.name}
def xW(l:List bX):List bX:=(l.take 60).map acM
def Rw(x:bN):bN:=⟨x.kind,oh x.eC,oh x.name,xW x.e,xW x.f,x.n,x.body,x.eo,x.at_⟩
def EE(l:List bN):List bN:=(l.take 50).map Rw
def acN(c:cJ):cJ:={c with name:=oh c.name}
def jx(l:List cJ):List cJ:=(l.take 8).map acN
def yq(t:cN):cN:=⟨oh t.name,(t.dL.take 6).map oh,EE t.body,t.at_⟩
def kK(l:List cN):List cN:=(l.take 4).map yq
def EF(c:gG):gG:=⟨xW c.e,c.at_⟩
def xX(p:cG):cG:=⟨(p.lines.take 6).map jx,jx p.iI,jx p.eG,kK p.threads,kK p.recover,(p.dP.take 6).map EF⟩
theorem ql{α:Type}{xs:List α}{k m:Nat}(h:k<=m)(h2:k<=xs.length)(h3:¬ (k<xs.length/\k<m)):xs.take k=xs.take m:=by
 grind
theorem EG(l:List bX):(xW l).length<=60:=by grind[xW]
theorem II(l:List bX):∀y∈xW l,y.name.size<=1048576:=by
 intro y hy
 obtain⟨x,_,rfl⟩:=List.mem_map.1 hy
 have:=pB x.name
 show(oh x.name).size<=_
 omega
theorem EH(l:List cJ):∀y∈jx l,y.name.size<=1048576:=by
 intro y hy
 obtain⟨x,_,rfl⟩:=List.mem_map.1 hy
 have:=pB x.name
 show(oh x.name).size<=_
 omega
theorem Bz(l:List cJ):(jx l).length<=8:=by grind[jx]
theorem Xr(l:List bN):(EE l).length<=50:=by grind[EE]
theorem EI(l:List cN):(kK l).length<=4:=by grind[kK]
theorem acO(l:List bN):∀y∈EE l,SzS y:=by
 intro y hy
 obtain⟨x,_,rfl⟩:=List.mem_map.1 hy
 have h1:=pB x.eC
 have h2:=pB x.name
 have h3:=EG x.e
 have h4:=EG x.f
 exact⟨by show(oh x.eC).size<=_;omega,by show(oh x.name).size<=_;omega,by show(xW x.e).length<=_;omega,by show(xW x.f).length<=_;omega,II _,II _⟩
theorem OH(t:cN):(yq t).dL.length<=6:=by show((t.dL.take 6).map oh).length<=6;grind
theorem GS(l:List cN):∀y∈kK l,Wu y/\y.dL.length<=500/\y.body.length<=500:=by
 intro y hy
 obtain⟨x,_,rfl⟩:=List.mem_map.1 hy
 have h1:=pB x.name
 have h2:=OH x
 have h3:=Xr x.body
 refine⟨⟨by show(oh x.name).size<=_;omega,λ s hs=>?_,acO _⟩,by omega,by show(EE x.body).length<=_;omega⟩
 obtain⟨z,_,rfl⟩:=List.mem_map.1 (show s∈(x.dL.take 6).map oh from hs)
 have:=pB z
 omega
theorem Rx(p:cG):PZ (xX p):=by
 have hl:(xX p).lines.length<=6:=by show((p.lines.take 6).map jx).length<=6;grind
 have hc:(xX p).dP.length<=6:=by show((p.dP.take 6).map EF).length<=6;grind
 have h1:=Bz p.iI
 have h2:=Bz p.eG
 have h3:=EI p.threads
 have h4:=EI p.recover
 have UI:∀t∈(xX p).threads++(xX p).recover,Wu t/\t.dL.length<=500/\t.body.length<=500:=by
  intro t ht
  rcases List.mem_append.1 ht with h|h
  ·exact GS _ t h
  ·exact GS _ t h
 refine {lines:=by omega,line:=λ l h=>?_,iI:=by show(jx p.iI).length<=500;omega,eG:=by show(jx p.eG).length<=500;omega,threads:=by show(kK p.threads).length<=500;omega,recover:=by show(kK p.recover).length<=500;omega,dP:=by omega,dL:=λ t ht=>(UI t ht).2.1,body:=λ t ht=>(UI t ht).2.2,zl:=λ l h c hc=>?_,zv:=EH _,zk:=EH _,zt:=λ t ht=>(UI t (List.mem_append_left _ ht)).1,zr:=λ t ht=>(UI t (List.mem_append_right _ ht)).1,zc:=λ c h=>?_}
 ·obtain⟨x,_,rfl⟩:=List.mem_map.1 (show l∈(p.lines.take 6).map jx from h)
  have:=Bz x;omega
 ·obtain⟨x,_,rfl⟩:=List.mem_map.1 (show l∈(p.lines.take 6).map jx from h)
  exact EH x c hc
 obtain⟨x,_,rfl⟩:=List.mem_map.1 (show c∈(p.dP.take 6).map EF from h)
 have:=EG x.e
 exact⟨by show(xW x.e).length<=_;omega,II _⟩
theorem C47(lv:Value)(xs:List bX)(w:World)(hL:dC (λ _=>True) w lv xs):CR 47 [lv] w (λ v w'=>lL (bG v (xW xs)) w w'):=by
 have hs:=St.start w;refine eS Tryz.func47 ?_;refine aX (([]:List bX)) hs gN rfl rfl (dI rfl) (λ acE w1 hs=>?_);refine⟨λ m m9 x w1=>∃k:Nat,x=.int .i64 (k:Int)/\m=60-k/\k<=60/\k<=xs.length/\St w aY [bG m9 ((xs.take k).map acM)] w1,⟨_,0,rfl,rfl,by omega,by omega,hs⟩,?_⟩;rintro m m9 _ _ ⟨k,rfl,rfl,hk,vD,hs⟩ _;have IJ:((xs.take k).map acM).length=k:=by rw[List.length_map,List.length_take];omega
 refine⟨λ jv w'=>jv=.bool (decide (k<xs.length/\k<60))/\St w aY [bG m9 ((xs.take k).map acM)] w',aI gN (hL.ext hs.aF) (aQ (aC (λ _=>aQ ⟨vb (by grind),hs⟩) (λ _=>⟨vb (by grind),hs⟩))),?_⟩;rintro _ _ ⟨rfl,hs⟩ _;refine aW (λ jI=>?_) (λ jI=>?_)
 ·have aoY:k<xs.length/\k<60:=by simpa using jI
  obtain⟨lV,jK⟩:=gx (xs) (i:=((k:Int)).toNat) (by omega);refine aO gN hL (by omega) jK (λ _ mi=>aE rK (mi.ext hs.aF) (aM hs xw (λ ID _ hs=>aJ (x:=lV) hs rK rfl rfl (λ _ hs=>aA fY (aB (v:=.string ((lV).name)) gj hs.hb rfl (aA fY (aB (v:=.string ((lV).name)) gj hs.hb rfl (fg gZ (qY (nP gZ (by omega) (by omega) (aA fY (aS hs gj (dI rfl) (rfl) (λ _ hs=>?_)))))))))))));have hs:=hs.enc (cs':=Flat.enc ({lV with name:=(((lV).name).extract 0 ((min (((lV).name).size:Int) 40)).toNat)}:bX)) rfl;refine aE rK hs.At (aX ([({lV with name:=(((lV).name).extract 0 ((min (((lV).name).size:Int) 40)).toNat)}:bX)]) hs gN rfl rfl (dI rfl) (λ af1 _ hs=>?_))
  have OI:=(hs).dX;exact bI hs.p2 gN OI (by rw[IJ,List.length_singleton];omega) (by decide) (λ _ _ hs=>have hs:=hs.p1.drop;aK (by omega) (have hs:=(hs.p1).drop;⟨_,by omega,k+1,rfl,rfl,by omega,by omega,by rw[<- fW (k:=k) jK];exact hs⟩))
 rw[ql (xs:=xs) (k:=k) (m:=60) (by omega) (by omega) (of_decide_eq_false jI)]at hs;exact hs.fresh
theorem C45(lv:Value)(xs:List cJ)(w:World)(hL:dC (λ _=>True) w lv xs):CR 45 [lv] w (λ v w'=>lL (bG v (jx xs)) w w'):=by
 have hs:=St.start w;refine eS Tryz.func45 ?_;refine aX (([]:List cJ)) hs g8 rfl rfl (dI rfl) (λ acE w1 hs=>?_);refine⟨λ m m9 x w1=>∃k:Nat,x=.int .i64 (k:Int)/\m=8-k/\k<=8/\k<=xs.length/\St w aY [bG m9 ((xs.take k).map acN)] w1,⟨_,0,rfl,rfl,by omega,by omega,hs⟩,?_⟩;rintro m m9 _ _ ⟨k,rfl,rfl,hk,vD,hs⟩ _;have IJ:((xs.take k).map acN).length=k:=by rw[List.length_map,List.length_take];omega
 refine⟨λ jv w'=>jv=.bool (decide (k<xs.length/\k<8))/\St w aY [bG m9 ((xs.take k).map acN)] w',aI g8 (hL.ext hs.aF) (aQ (aC (λ _=>aQ ⟨vb (by grind),hs⟩) (λ _=>⟨vb (by grind),hs⟩))),?_⟩;rintro _ _ ⟨rfl,hs⟩ _;refine aW (λ jI=>?_) (λ jI=>?_)
 ·have aoY:k<xs.length/\k<8:=by simpa using jI
  obtain⟨lV,jK⟩:=gx (xs) (i:=((k:Int)).toNat) (by omega);refine aO g8 hL (by omega) jK (λ _ mi=>aE lP (mi.ext hs.aF) (aM hs oE (λ avr _ hs=>aJ (x:=lV) hs lP rfl rfl (λ _ hs=>aA kz (aB (v:=.string ((lV).name)) gj hs.hb rfl (aA kz (aB (v:=.string ((lV).name)) gj hs.hb rfl (fg gZ (qY (nP gZ (by omega) (by omega) (aA kz (aS hs gj (dI rfl) (rfl) (λ _ hs=>?_)))))))))))));have hs:=hs.enc (cs':=Flat.enc ({lV with name:=(((lV).name).extract 0 ((min (((lV).name).size:Int) 40)).toNat)}:cJ)) rfl;refine aE lP hs.At (aX ([({lV with name:=(((lV).name).extract 0 ((min (((lV).name).size:Int) 40)).toNat)}:cJ)]) hs g8 rfl rfl (dI rfl) (λ af1 _ hs=>?_))
  have OI:=(hs).dX;exact bI hs.p2 g8 OI (by rw[IJ,List.length_singleton];omega) (by decide) (λ _ _ hs=>have hs:=hs.p1.drop;aK (by omega) (have hs:=(hs.p1).drop;⟨_,by omega,k+1,rfl,rfl,by omega,by omega,by rw[<- fW (k:=k) jK];exact hs⟩))
 rw[ql (xs:=xs) (k:=k) (m:=8) (by omega) (by omega) (of_decide_eq_false jI)]at hs;exact hs.fresh
theorem C106(lv:Value)(xs:List bN)(w:World)(hL:DL w lv xs):CR 106 [lv] w (λ v w'=>lL (fV v (EE xs)) w w'):=by
 have hs:=St.start w;refine eS Tryz.func106 ?_;refine te (α:=bN) hs fo (λ acE w1 hs=>?_);refine⟨λ m m9 x w1=>∃k:Nat,x=.int .i64 (k:Int)/\m=50-k/\k<=50/\k<=xs.length/\St w aY [fV m9 ((xs.take k).map Rw)] w1,⟨_,0,rfl,rfl,by omega,by omega,hs⟩,?_⟩;rintro m m9 _ _ ⟨k,rfl,rfl,hk,vD,hs⟩ _;have IJ:((xs.take k).map Rw).length=k:=by rw[List.length_map,List.length_take];omega
 refine⟨λ jv w'=>jv=.bool (decide (k<xs.length/\k<50))/\St w aY [fV m9 ((xs.take k).map Rw)] w',?_,?_⟩
 ·obtain⟨ts60,avs,avt⟩:=(hL).open;have hn60:=avt.1;exact aI fo (avs.ext hs.aF) (aQ (aC (λ _=>aQ ⟨vb (by grind),hs⟩) (λ _=>⟨vb (by grind),hs⟩)))
 rintro _ _ ⟨rfl,hs⟩ _;refine aW (λ jI=>?_) (λ jI=>?_)
 ·have aoY:k<xs.length/\k<50:=by simpa using jI
  obtain⟨avu,avv,aoZ⟩:=(hL).open;have hn61:=aoZ.1;obtain⟨lV,jK⟩:=gx avu (i:=((k:Int)).toNat) (by omega);obtain⟨bP,nQ⟩:=gx (xs) (i:=((k:Int)).toNat) (by omega);obtain⟨mO,lW,rfl,Ry,Rz⟩:=aoZ.2 _ _ _ jK nQ;refine aO fo avv (by omega) jK (λ _ mi=>aE eI (mi.ext hs.aF) (aM hs jq (λ ID _ hs=>have hs:=hs.enc (cs':=Flat.enc (⟨0,(ByteArray.mk #[]),(ByteArray.mk #[]),cH,cH,0,0,0,0⟩:aZ)) rfl;aJ (x:=(⟨(bP).kind,(bP).eC,(bP).name,mO,lW,(bP).n,(bP).body,(bP).eo,(bP).at_⟩:aZ)) hs eI rfl rfl (λ _ hs=>aA iv (aB (v:=.string ((bP).eC)) gj hs.hb rfl (aA iv (aB (v:=.string ((bP).eC)) gj hs.hb rfl (fg gZ (qY (nP gZ (by omega) (by omega) (aA iv ?_)))))))))))
  have avw:=DL.flat (Ry);have avx:=DL.flat (Rz);refine aS hs gj (dI rfl) (rfl) (λ _ hs=>have hs:=hs.enc (cs':=Flat.enc (⟨(bP).kind,(((bP).eC).extract 0 ((min (((bP).eC).size:Int) 40)).toNat),(bP).name,mO,lW,(bP).n,(bP).body,(bP).eo,(bP).at_⟩:aZ)) rfl;aA fU (aB (v:=.string (bP).name) gj hs.hb rfl (aA fU (aB (v:=.string (bP).name) gj hs.hb rfl (fg gZ (qY (nP gZ (by omega) (by omega) (aA fU (aS hs gj (dI rfl) (rfl) (λ _ hs=>have hs:=hs.enc (cs':=Flat.enc (⟨(bP).kind,(((bP).eC).extract 0 ((min (((bP).eC).size:Int) 40)).toNat),(((bP).name).extract 0 ((min (((bP).name).size:Int) 40)).toNat),mO,lW,(bP).n,(bP).body,(bP).eo,(bP).at_⟩:aZ)) rfl;aA iN (aB (v:=Flat.val (mO:SV)) jo hs.hb rfl (ek agX hs (C47 _ _ _ (avw.ext hs.aF)) (λ x39 _ cO hs=>?_)))))))))))))
  refine aA iN ?_;obtain⟨yZ,rfl⟩:=(hs).fC;refine aS hs.p1 jo (dI rfl) (rfl) (λ _ hs=>have hs:=hs.enc (cs':=Flat.enc (⟨(bP).kind,(((bP).eC).extract 0 ((min (((bP).eC).size:Int) 40)).toNat),(((bP).name).extract 0 ((min (((bP).name).size:Int) 40)).toNat),yZ,lW,(bP).n,(bP).body,(bP).eo,(bP).at_⟩:aZ)) rfl;aA jU (aB (v:=Flat.val (lW:SV)) jo hs.hb rfl (ek agX hs (C47 _ _ _ (avx.ext hs.aF)) (λ x43 _ cO hs=>aA jU ?_))));obtain⟨OJ,rfl⟩:=(hs).fC;exact aS hs.p1 jo (dI rfl) (rfl) (λ _ hs=>have hs:=hs.enc (cs':=Flat.enc (⟨(bP).kind,(((bP).eC).extract 0 ((min (((bP).eC).size:Int) 40)).toNat),(((bP).name).extract 0 ((min (((bP).name).size:Int) 40)).toNat),yZ,OJ,(bP).n,(bP).body,(bP).eo,(bP).at_⟩:aZ)) rfl;aE eI hs.At (have hs:=hs.p2.freeze.p2.freeze.p1.gR.dU (Ψ:=(λ w=>Deep.dr w (⟨(bP).kind,(((bP).eC).extract 0 ((min (((bP).eC).size:Int) 40)).toNat),(((bP).name).extract 0 ((min (((bP).name).size:Int) 40)).toNat),yZ,OJ,(bP).n,(bP).body,(bP).eo,(bP).at_⟩:aZ) (⟨(bP).kind,(((bP).eC).extract 0 ((min (((bP).eC).size:Int) 40)).toNat),(((bP).name).extract 0 ((min (((bP).name).size:Int) 40)).toNat),(xW (bP).e),(xW (bP).f),(bP).n,(bP).body,(bP).eo,(bP).at_⟩:bN))) (λ _ h=>⟨_,_,rfl,DL.j3 h.1,DL.j3 h.2⟩);gw (s:=(⟨(bP).kind,(((bP).eC).extract 0 ((min (((bP).eC).size:Int) 40)).toNat),(((bP).name).extract 0 ((min (((bP).name).size:Int) 40)).toNat),yZ,OJ,(bP).n,(bP).body,(bP).eo,(bP).at_⟩:aZ)) (x:=(⟨(bP).kind,(((bP).eC).extract 0 ((min (((bP).eC).size:Int) 40)).toNat),(((bP).name).extract 0 ((min (((bP).name).size:Int) 40)).toNat),(xW (bP).e),(xW (bP).f),(bP).n,(bP).body,(bP).eo,(bP).at_⟩:bN)) hs fo (by decide) (λ _ _ hs=>have hs:=hs.p2;gy hs fo (by rw[IJ,List.length_singleton];omega) (by decide) (λ _ _ hs=>aK (by omega) (have hs:=(hs.p1).drop;⟨_,by omega,k+1,rfl,rfl,by omega,by omega,by rw[<- fW (k:=k) nQ];exact hs⟩)))))
 rw[ql (xs:=xs) (k:=k) (m:=50) (by omega) (by omega) (of_decide_eq_false jI)]at hs;exact hs.fresh
theorem C46(lv:Value)(xs:List cN)(w:World)(hL:DL w lv xs):CR 46 [lv] w (λ v w'=>lL (fV v (kK xs)) w w'):=by
 have hs:=St.start w;refine oY Tryz.func46 (pl:=P46) ?_;refine te (α:=cN) hs fq (λ acJ w1 hs=>?_);refine⟨λ m m9 x w1=>∃k:Nat,x=.int .i64 (k:Int)/\m=4-k/\k<=4/\k<=xs.length/\St w aY [fV m9 ((xs.take k).map yq)] w1,⟨_,0,rfl,rfl,by omega,by omega,hs⟩,?_⟩;rintro m m9 _ _ ⟨k,rfl,rfl,hk,vD,hs⟩ _;have IJ:((xs.take k).map yq).length=k:=by rw[List.length_map,List.length_take];omega
 refine⟨λ jv w'=>jv=.bool (decide (k<xs.length/\k<4))/\St w aY [fV m9 ((xs.take k).map yq)] w',?_,?_⟩
 ·obtain⟨ts64,avy,avz⟩:=(hL).open;have hn64:=avz.1;exact aI fq (avy.ext hs.aF) (aQ (aC (λ _=>aQ ⟨vb (by grind),hs⟩) (λ _=>⟨vb (by grind),hs⟩)))
 rintro _ _ ⟨rfl,hs⟩ _;refine aW (λ ji=>?_) (λ ji=>?_)
 ·have hc15:k<xs.length/\k<4:=by simpa using ji
  obtain⟨avA,OK,ao0⟩:=(hL).open;have hn65:=ao0.1;obtain⟨af2,pC⟩:=gx avA (i:=((k:Int)).toNat) (by omega);obtain⟨fI,IC⟩:=gx (xs) (i:=((k:Int)).toNat) (by omega);obtain⟨y9,OL,rfl,EJ,EK⟩:=ao0.2 _ _ _ pC IC;refine⟨λ Er w'=>St w aY [fV Er ((xs.take k).map yq++[yq fI])] w',⟨λ jv w'=>∃(EL:Nat) (FZ:SV),jv=.pointer (some ⟨EL,0,none⟩)/\St w aY [bY EL (Flat.enc (⟨((fI).name.extract 0 (min (((fI).name).size:Int) 40).toNat),cH,FZ,(fI).at_⟩:cE)),fV (Flat.val FZ) (EE (fI).body),fV m9 ((xs.take k).map yq)] w',?_,?_⟩,?_⟩
  ·refine aO fq OK (by omega) pC (λ _ Xs=>bW (fI).name pW Xs rfl rfl (λ _ Ep=>have hs:=hs.drew;aE gj (Ep.ext hs.aF) (aO fq OK (by omega) pC (λ _ LG=>bW (fI).name pW LG rfl rfl (λ _ wD=>aE gj (wD.ext hs.aF) (fg gZ (qY (nP gZ (by omega) (by omega) (aO fq OK (by omega) pC (λ _ qO=>bW (fI).at_ pX qO rfl rfl (λ _ wO=>aE bL (wO.ext hs.aF) (aO fq OK (by omega) pC (λ _ yn=>bW OL lj yn rfl rfl (λ _ wI=>aE jF (wI.ext hs.aF) ⟨?_,⟨?_,?_⟩⟩))))))))))))))
   ·refine ek aeP hs (C106 _ _ _ (EK.ext hs.aF)) (λ x41 _ cO hs=>?_);refine⟨eZ gj (Ep.ext hs.aF),?_⟩;refine⟨eZ gj (wD.ext hs.aF),?_⟩;refine⟨eZ bL (wO.ext hs.aF),?_⟩;obtain⟨IK,rfl⟩:=(hs).oI;refine pop (zZ _ _ _ _ _) (aM hs sZ (λ b_t5 _ hs=>?_));have hs:=hs.enc (cs':=Flat.enc (⟨(ByteArray.mk #[]),cH,cH,0⟩:cE)) rfl;refine⟨eZ gj (Ep.ext hs.aF),?_⟩;refine⟨eZ gj (wD.ext hs.aF),?_⟩;refine⟨eZ bL (wO.ext hs.aF),?_⟩;refine⟨eZ jF (wI.ext hs.aF),?_⟩;exact aJ (x:=(⟨(((fI).name).extract 0 ((min (((fI).name).size:Int) 40)).toNat),cH,IK,(fI).at_⟩:cE)) hs mQ rfl rfl (λ _ hs=>have hs:=hs.p2.p2.p2;⟨_,_,rfl,hs⟩)
   ·refine aM hs sZ (λ avB _ hs=>?_);have hs:=hs.enc (cs':=Flat.enc (⟨(ByteArray.mk #[]),cH,cH,0⟩:cE)) rfl;refine⟨eZ gj (Ep.ext hs.aF),?_⟩;refine⟨eZ gj (wD.ext hs.aF),?_⟩;refine⟨eZ bL (wO.ext hs.aF),?_⟩;refine⟨eZ jF (wI.ext hs.aF),?_⟩;refine ek aeP hs (C106 _ _ _ (EK.ext hs.aF)) (λ x41_1 _ cO hs=>?_);refine⟨eZ gj (Ep.ext hs.aF),?_⟩;refine⟨eZ gj (wD.ext hs.aF),?_⟩;refine⟨eZ bL (wO.ext hs.aF),?_⟩;obtain⟨Xt,rfl⟩:=(hs).oI;exact pop (zZ _ _ _ _ _) (aJ (x:=(⟨(((fI).name).extract 0 ((min (((fI).name).size:Int) 40)).toNat),cH,Xt,(fI).at_⟩:cE)) hs.p1 mQ rfl rfl (λ _ hs=>have hs:=hs.p2.p2.p2;⟨_,_,rfl,hs⟩))
   trivial
  ·rintro _ _ ⟨EL,FZ,rfl,hs⟩ _;have hs:=((((hs.eJ (α:=ByteArray)).p3).p3).p2).p3;refine⟨λ m x w1=>∃(j:Nat) (LH:SV),x=.int .i64 (j:Int)/\m=6-j/\j<=6/\j<=(fI).dL.length/\St w aY [bY EL (Flat.enc (⟨((fI).name.extract 0 (min (((fI).name).size:Int) 40).toNat),LH,FZ,(fI).at_⟩:cE)),bG (Flat.val LH) (((fI).dL.take j).map oh),fV (Flat.val FZ) (EE (fI).body),fV m9 ((xs.take k).map yq)] w1,⟨_,0,cH,rfl,rfl,by omega,by omega,hs⟩,?_⟩;rintro m _ _ ⟨j,LH,rfl,rfl,hj,BA,hs⟩ _;have aio:(((fI).dL.take j).map oh).length=j:=by rw[List.length_map,List.length_take];omega
   refine⟨λ jv w'=>jv=.bool (decide (j<(fI).dL.length/\j<6))/\St w aY [bY EL (Flat.enc (⟨((fI).name.extract 0 (min (((fI).name).size:Int) 40).toNat),LH,FZ,(fI).at_⟩:cE)),bG (Flat.val LH) (((fI).dL.take j).map oh),fV (Flat.val FZ) (EE (fI).body),fV m9 ((xs.take k).map yq)] w',?_,?_⟩
   ·refine aO fq OK (by omega) pC (λ _ KU=>bW y9 fN KU rfl rfl (λ _ Am=>aE iZ (Am.ext hs.aF) ?_));have avC:=DL.flat (EJ);exact aI ik (avC.ext hs.aF) (aQ (aC (λ _=>aQ ⟨vb (by grind),hs⟩) (λ _=>⟨vb (by grind),hs⟩)))
   rintro _ _ ⟨rfl,hs⟩ _;refine aW (λ Ax=>?_) (λ Ax=>?_)
   ·have hc54:j<(fI).dL.length/\j<6:=by simpa using Ax
    refine aA fN (have hs:=hs.drew;aB (v:=Flat.val (LH:SV)) iZ hs.hb rfl (aO fq OK (by omega) pC (λ _ Xk=>bW y9 fN Xk rfl rfl (λ _ LI=>aE iZ (LI.ext hs.aF) ?_))));have ao1:=DL.flat (EJ);obtain⟨af3,OM⟩:=gx ((fI).dL) (i:=((j:Int)).toNat) (by omega);refine aO ik ao1 (by omega) OM (λ _ Ch=>aE gj (Ch.ext hs.aF) (aO fq OK (by omega) pC (λ _ LC=>bW y9 fN LC rfl rfl (λ _ Xu=>aE iZ (Xu.ext hs.aF) (aO ik ao1 (by omega) OM (λ _ ao2=>aE gj (ao2.ext hs.aF) (fg gZ (qY (nP gZ (by omega) (by omega) (aX ([((af3).extract 0 ((min ((af3).size:Int) 40)).toNat)]) hs ik rfl rfl (dI rfl) (λ ao3 _ hs=>?_)))))))))))
    refine⟨aG iZ (hs.p1.hb.cell rfl),?_⟩;have ON:=(hs).dX;refine bI hs.p2 ik ON (by rw[aio,List.length_singleton];omega) (by decide) (λ ao4 _ hs=>have hs:=hs.p1.drop;aA fN ?_);obtain⟨BB,rfl⟩:=(hs).fC;exact aS hs.p1 iZ (dI rfl) (rfl) (λ _ hs=>have hs:=hs.enc (cs':=Flat.enc (⟨((fI).name.extract 0 (min (((fI).name).size:Int) 40).toNat),BB,FZ,(fI).at_⟩:cE)) rfl;aK (by omega) (have hs:=hs.p3.p3.p3.p3;⟨_,by omega,j+1,BB,rfl,rfl,by omega,by omega,by rw[<- fW (k:=j) OM];exact hs⟩))
   refine aE mQ hs.At (have hs:=hs.p1.freeze.p2.nJ.p1.gR.dU (Ψ:=(λ w=>Deep.dr w (⟨((fI).name.extract 0 (min (((fI).name).size:Int) 40).toNat),LH,FZ,(fI).at_⟩:cE) (⟨((fI).name.extract 0 (min (((fI).name).size:Int) 40).toNat),(((fI).dL.take j).map oh),(EE (fI).body),(fI).at_⟩:cN))) (λ _ h=>⟨_,_,rfl,DL.j3 h.1,h.2⟩);gw (s:=(⟨((fI).name.extract 0 (min (((fI).name).size:Int) 40).toNat),LH,FZ,(fI).at_⟩:cE)) (x:=(⟨((fI).name.extract 0 (min (((fI).name).size:Int) 40).toNat),(((fI).dL.take j).map oh),(EE (fI).body),(fI).at_⟩:cN)) hs fq (by decide) (λ af4 _ hs=>have hs:=hs.p2;gy hs fq (by rw[IJ,List.length_singleton];omega) (by decide) (λ ao5 _ hs=>?_)))
   have hs:=(hs.p1).drop;rw[ql (xs:=(fI).dL) (k:=j) (m:=6) (by omega) (by omega) (of_decide_eq_false Ax)]at hs;exact hs
  rintro Er _ hs _;exact aK (by omega) ⟨_,by omega,k+1,rfl,rfl,by omega,by omega,by rw[<- fW (k:=k) IC];exact hs⟩
 rw[ql (xs:=xs) (k:=k) (m:=4) (by omega) (by omega) (of_decide_eq_false ji)]at hs;exact hs.fresh
theorem C11(p:cG)(pv:bO)(w:World)(hp:Deep.dr w pv p):CR 11 [Flat.val pv] w (λ v w'=>∃qv:bO,v=Flat.val qv/\lL (fk (λ w=>Deep.dr w qv (xX p))) w w'):=by
 obtain⟨bJ,bT,bK,aU,aV,bE,rfl,cR,dA,cW,cB,cC,cQ⟩:=hp;have hs:=St.start w;refine oY Tryz.func11 (pl:=P11) ?_;refine cI hs (λ j5 w1 hs=>aM hs uX (λ vQ _ hs=>have hs:=hs.enc (cs':=Flat.enc (⟨cH,cH,cH,cH,cH,cH⟩:bO)) rfl;⟨λ jv w'=>∃(za:Nat) (OO OP OQ OR:SV),jv=.pointer (some ⟨za,0,none⟩)/\St w aY [bY za (Flat.enc (⟨cH,OO,OP,OQ,OR,cH⟩:bO)),bG (Flat.val OO) (jx p.iI),bG (Flat.val OP) (jx p.eG),fV (Flat.val OQ) (kK p.threads),fV (Flat.val OR) (kK p.recover),bY j5 (Flat.enc (⟨bJ,bT,bK,aU,aV,bE⟩:bO)),bY vQ (Flat.enc (⟨cH,cH,cH,cH,cH,cH⟩:bO))] w',?_,?_⟩))
 ·refine aA pK (have hs:=hs.drew;aB jC hs.p1.hb rfl ?_);have ao6:=DL.flat (dA);refine aA nI (aB jC hs.p1.hb rfl ?_);have aip:=DL.flat (cW);refine aA kj (aB ij hs.p1.hb rfl (aA oA (aB ij hs.p1.hb rfl ⟨ek SS hs (C45 _ _ _ (ao6.ext hs.aF)) (λ x8 _ cO hs=>⟨aG jC (hs.p2.hb.cell rfl),⟨aG ij (hs.p2.hb.cell rfl),⟨aG ij (hs.p2.hb.cell rfl),⟨ek SS hs (C45 _ _ _ (aip.ext hs.aF)) (λ x11 _ cO hs=>⟨aG ij (hs.p3.hb.cell rfl),⟨aG ij (hs.p3.hb.cell rfl),⟨ek HW hs (C46 _ _ _ (cB.ext hs.aF)) (λ x14 _ cO hs=>⟨aG ij (hs.p4.hb.cell rfl),⟨?_,⟨?_,?_⟩⟩⟩),⟨?_,?_⟩⟩⟩⟩),⟨?_,?_⟩⟩⟩⟩⟩),⟨?_,?_⟩⟩)))
  ·refine ek HW hs (C46 _ _ _ (cC.ext hs.aF)) (λ x17 _ cO hs=>?_);obtain⟨EM,rfl⟩:=(hs.p3).fC;obtain⟨EN,rfl⟩:=(hs.p2).fC;obtain⟨OS,rfl⟩:=(hs.p1).oI;obtain⟨aiq,rfl⟩:=(hs).oI;refine pop (nx _ _ _ _ _ _ _ _ _ _ _ _) (aM hs uX (λ b_q3 _ hs=>?_));have hs:=hs.enc (cs':=Flat.enc (⟨cH,cH,cH,cH,cH,cH⟩:bO)) rfl;refine⟨aG jC (hs.p6.hb.cell rfl),?_⟩;refine⟨aG jC (hs.p6.hb.cell rfl),?_⟩;refine⟨aG ij (hs.p6.hb.cell rfl),?_⟩;refine⟨aG ij (hs.p6.hb.cell rfl),?_⟩;exact aJ (x:=(⟨cH,EM,EN,OS,aiq,cH⟩:bO)) hs ep rfl rfl (λ _ hs=>have hs:=hs.p5.p6.p3.p4.p5.p6.p6;⟨_,_,_,_,_,rfl,hs⟩)
  ·refine aM hs uX (λ avD _ hs=>?_);have hs:=hs.enc (cs':=Flat.enc (⟨cH,cH,cH,cH,cH,cH⟩:bO)) rfl;refine⟨aG jC (hs.p5.hb.cell rfl),?_⟩;refine⟨aG jC (hs.p5.hb.cell rfl),?_⟩;refine⟨aG ij (hs.p5.hb.cell rfl),?_⟩;refine⟨aG ij (hs.p5.hb.cell rfl),?_⟩;refine ek HW hs (C46 _ _ _ (cC.ext hs.aF)) (λ x17_1 _ cO hs=>?_);obtain⟨EM,rfl⟩:=(hs.p4).fC;obtain⟨EN,rfl⟩:=(hs.p3).fC;obtain⟨OS,rfl⟩:=(hs.p2).oI;obtain⟨Xv,rfl⟩:=(hs).oI;exact pop (nx _ _ _ _ _ _ _ _ _ _ _ _) (aJ (x:=(⟨cH,EM,EN,OS,Xv,cH⟩:bO)) hs.p1 ep rfl rfl (λ _ hs=>have hs:=hs.p5.p6.p3.p4.p5.p6.p6;⟨_,_,_,_,_,rfl,hs⟩))
  ·trivial
  ·refine aM hs uX (λ avE _ hs=>?_);have hs:=hs.enc (cs':=Flat.enc (⟨cH,cH,cH,cH,cH,cH⟩:bO)) rfl;refine⟨aG jC (hs.p4.hb.cell rfl),?_⟩;refine⟨aG jC (hs.p4.hb.cell rfl),?_⟩;refine⟨aG ij (hs.p4.hb.cell rfl),?_⟩;refine⟨aG ij (hs.p4.hb.cell rfl),?_⟩;refine ek HW hs (C46 _ _ _ (cB.ext hs.aF)) (λ x14_1 _ cO hs=>?_);refine⟨aG ij (hs.p5.hb.cell rfl),?_⟩;refine ek HW hs (C46 _ _ _ (cC.ext hs.aF)) (λ x17_2 _ cO hs=>?_);obtain⟨EM,rfl⟩:=(hs.p4).fC;obtain⟨EN,rfl⟩:=(hs.p3).fC;obtain⟨Xw,rfl⟩:=(hs.p1).oI;obtain⟨Xx,rfl⟩:=(hs).oI
   exact pop (nx _ _ _ _ _ _ _ _ _ _ _ _) (aJ (x:=(⟨cH,EM,EN,Xw,Xx,cH⟩:bO)) hs.p2 ep rfl rfl (λ _ hs=>have hs:=hs.p5.p6.p3.p4.p5.p6.p6;⟨_,_,_,_,_,rfl,hs⟩))
  ·trivial
  ·refine aM hs uX (λ avF _ hs=>?_);have hs:=hs.enc (cs':=Flat.enc (⟨cH,cH,cH,cH,cH,cH⟩:bO)) rfl;refine⟨aG jC (hs.p3.hb.cell rfl),?_⟩;refine⟨aG jC (hs.p3.hb.cell rfl),?_⟩;refine⟨aG ij (hs.p3.hb.cell rfl),?_⟩;refine⟨aG ij (hs.p3.hb.cell rfl),?_⟩;refine ek SS hs (C45 _ _ _ (aip.ext hs.aF)) (λ x11_1 _ cO hs=>?_);refine⟨aG ij (hs.p4.hb.cell rfl),?_⟩;refine⟨aG ij (hs.p4.hb.cell rfl),?_⟩;refine ek HW hs (C46 _ _ _ (cB.ext hs.aF)) (λ x14_2 _ cO hs=>?_);refine⟨aG ij (hs.p5.hb.cell rfl),?_⟩;refine ek HW hs (C46 _ _ _ (cC.ext hs.aF)) (λ x17_3 _ cO hs=>?_)
   obtain⟨EM,rfl⟩:=(hs.p4).fC;obtain⟨Xy,rfl⟩:=(hs.p2).fC;obtain⟨Xz,rfl⟩:=(hs.p1).oI;obtain⟨XA,rfl⟩:=(hs).oI;exact pop (nx _ _ _ _ _ _ _ _ _ _ _ _) (aJ (x:=(⟨cH,EM,Xy,Xz,XA,cH⟩:bO)) hs.p3 ep rfl rfl (λ _ hs=>have hs:=hs.p5.p6.p3.p4.p5.p6.p6;⟨_,_,_,_,_,rfl,hs⟩))
  ·trivial
  ·refine aM hs uX (λ avG _ hs=>?_);have hs:=hs.enc (cs':=Flat.enc (⟨cH,cH,cH,cH,cH,cH⟩:bO)) rfl;refine⟨aG jC (hs.p2.hb.cell rfl),?_⟩;refine⟨aG jC (hs.p2.hb.cell rfl),?_⟩;refine⟨aG ij (hs.p2.hb.cell rfl),?_⟩;refine⟨aG ij (hs.p2.hb.cell rfl),?_⟩;refine ek SS hs (C45 _ _ _ (ao6.ext hs.aF)) (λ x8_1 _ cO hs=>?_);refine⟨aG jC (hs.p3.hb.cell rfl),?_⟩;refine⟨aG ij (hs.p3.hb.cell rfl),?_⟩;refine⟨aG ij (hs.p3.hb.cell rfl),?_⟩;refine ek SS hs (C45 _ _ _ (aip.ext hs.aF)) (λ x11_2 _ cO hs=>?_);refine⟨aG ij (hs.p4.hb.cell rfl),?_⟩;refine⟨aG ij (hs.p4.hb.cell rfl),?_⟩
   refine ek HW hs (C46 _ _ _ (cB.ext hs.aF)) (λ x14_3 _ cO hs=>?_);refine⟨aG ij (hs.p5.hb.cell rfl),?_⟩;refine ek HW hs (C46 _ _ _ (cC.ext hs.aF)) (λ x17_4 _ cO hs=>?_);obtain⟨C4,rfl⟩:=(hs.p3).fC;obtain⟨XB,rfl⟩:=(hs.p2).fC;obtain⟨XC,rfl⟩:=(hs.p1).oI;obtain⟨XD,rfl⟩:=(hs).oI;exact pop (nx _ _ _ _ _ _ _ _ _ _ _ _) (aJ (x:=(⟨cH,C4,XB,XC,XD,cH⟩:bO)) hs.p4 ep rfl rfl (λ _ hs=>have hs:=hs.p5.p6.p3.p4.p5.p6.p6;⟨_,_,_,_,_,rfl,hs⟩))
  trivial
 rintro _ _ ⟨za,OO,OP,OQ,OR,rfl,hs⟩ _;have hs:=((((((((hs.Ip (α:=(List cJ))).p7).p7).p7).p7).p7).p7).p6).p7;refine⟨λ m x w1=>∃(k:Nat) (sl:SV),x=.int .i64 (k:Int)/\m=6-k/\k<=6/\k<=p.lines.length/\St w aY [bY za (Flat.enc (⟨sl,OO,OP,OQ,OR,cH⟩:bO)),fV (Flat.val sl) ((p.lines.take k).map jx),bG (Flat.val OO) (jx p.iI),bG (Flat.val OP) (jx p.eG),fV (Flat.val OQ) (kK p.threads),fV (Flat.val OR) (kK p.recover),bY j5 (Flat.enc (⟨bJ,bT,bK,aU,aV,bE⟩:bO)),bY vQ (Flat.enc (⟨cH,cH,cH,cH,cH,cH⟩:bO))] w1,⟨_,0,cH,rfl,rfl,by omega,by omega,hs⟩,?_⟩
 rintro m _ _ ⟨k,sl,rfl,rfl,hk,vD,hs⟩ _;have IJ:((p.lines.take k).map jx).length=k:=by rw[List.length_map,List.length_take];omega
 refine⟨λ jv w'=>jv=.bool (decide (k<p.lines.length/\k<6))/\St w aY [bY za (Flat.enc (⟨sl,OO,OP,OQ,OR,cH⟩:bO)),fV (Flat.val sl) ((p.lines.take k).map jx),bG (Flat.val OO) (jx p.iI),bG (Flat.val OP) (jx p.eG),fV (Flat.val OQ) (kK p.threads),fV (Flat.val OR) (kK p.recover),bY j5 (Flat.enc (⟨bJ,bT,bK,aU,aV,bE⟩:bO)),bY vQ (Flat.enc (⟨cH,cH,cH,cH,cH,cH⟩:bO))] w',?_,?_⟩
 ·refine aA gk (aB oz hs.p6.hb rfl ?_);obtain⟨ts70,avH,avI⟩:=(cR).open;have hn70:=avI.1;exact aI pj (avH.ext hs.aF) (aQ (aC (λ _=>aQ ⟨vb (by grind),hs⟩) (λ _=>⟨vb (by grind),hs⟩)))
 rintro _ _ ⟨rfl,hs⟩ _;refine aW (λ ly=>?_) (λ ly=>?_)
 ·have hc27:k<p.lines.length/\k<6:=by simpa using ly
  refine aA gk (have hs:=hs.drew;aB (v:=Flat.val (sl:SV)) oz hs.hb rfl (aA gk (aB oz hs.p6.hb rfl ?_)));obtain⟨avJ,avK,ao7⟩:=(cR).open;have hn71:=ao7.1;obtain⟨ao8,XE⟩:=gx avJ (i:=((k:Int)).toNat) (by omega);obtain⟨XF,XG⟩:=gx ((p).lines) (i:=((k:Int)).toNat) (by omega);have ao9:DL w (Flat.val ao8) XF:=ao7.2 _ _ _ XE XG;refine aO pj avK (by omega) XE (λ _ KQ=>aE jC (KQ.ext hs.aF) ?_);have avL:=DL.flat (ao9);refine ek SS hs (C45 _ _ _ (avL.ext hs.aF)) (λ x37 _ cO hs=>?_);refine⟨aG oz (hs.p1.hb.cell rfl),?_⟩;obtain⟨XH,rfl⟩:=(hs).fC
  have hs:=hs.freeze.dU (Ψ:=λ w=>Deep.dr w XH ((jx XF))) (λ _ h=>DL.j3 h);refine gw (s:=XH) (x:=(jx XF)) hs pj (by decide) (λ apa _ hs=>?_);refine⟨aG oz (hs.p1.hb.cell rfl),?_⟩;have hs:=hs.p2;refine gy hs pj (by rw[IJ,List.length_singleton];omega) (by decide) (λ apb _ hs=>aA gk ?_);obtain⟨yZ,rfl⟩:=(hs).oI;exact aS hs.p1 oz (dI rfl) (rfl) (λ _ hs=>have hs:=hs.enc (cs':=Flat.enc (⟨yZ,OO,OP,OQ,OR,cH⟩:bO)) rfl;aK (by omega) (have hs:=hs.p7.p7.p7.p7.p7.p7.p7.p7;⟨_,by omega,k+1,yZ,rfl,rfl,by omega,by omega,by rw[<- fW (k:=k) XG];exact hs⟩))
 rw[ql (xs:=p.lines) (k:=k) (m:=6) (by omega) (by omega) (of_decide_eq_false ly)]at hs;have hs:=(((((((((hs.Ip (α:=gG)).p8).p8).p8).p8).p8).p8).p8).p7).p8;refine⟨λ m x w1=>∃(j:Nat) (sc:SV),x=.int .i64 (j:Int)/\m=6-j/\j<=6/\j<=p.dP.length/\St w aY [bY za (Flat.enc (⟨sl,OO,OP,OQ,OR,sc⟩:bO)),fV (Flat.val sc) ((p.dP.take j).map EF),fV (Flat.val sl) ((p.lines.take 6).map jx),bG (Flat.val OO) (jx p.iI),bG (Flat.val OP) (jx p.eG),fV (Flat.val OQ) (kK p.threads),fV (Flat.val OR) (kK p.recover),bY j5 (Flat.enc (⟨bJ,bT,bK,aU,aV,bE⟩:bO)),bY vQ (Flat.enc (⟨cH,cH,cH,cH,cH,cH⟩:bO))] w1,⟨_,0,cH,rfl,rfl,by omega,by omega,hs⟩,?_⟩
 rintro m _ _ ⟨j,sc,rfl,rfl,hj,BA,hs⟩ _;have aio:((p.dP.take j).map EF).length=j:=by rw[List.length_map,List.length_take];omega
 refine⟨λ jv w'=>jv=.bool (decide (j<p.dP.length/\j<6))/\St w aY [bY za (Flat.enc (⟨sl,OO,OP,OQ,OR,sc⟩:bO)),fV (Flat.val sc) ((p.dP.take j).map EF),fV (Flat.val sl) ((p.lines.take 6).map jx),bG (Flat.val OO) (jx p.iI),bG (Flat.val OP) (jx p.eG),fV (Flat.val OQ) (kK p.threads),fV (Flat.val OR) (kK p.recover),bY j5 (Flat.enc (⟨bJ,bT,bK,aU,aV,bE⟩:bO)),bY vQ (Flat.enc (⟨cH,cH,cH,cH,cH,cH⟩:bO))] w',?_,?_⟩
 ·refine aA jn (aB qB hs.p7.hb rfl ?_);obtain⟨ts73,avM,avN⟩:=(cQ).open;have hn73:=avN.1;exact aI sJ (avM.ext hs.aF) (aQ (aC (λ _=>aQ ⟨vb (by grind),hs⟩) (λ _=>⟨vb (by grind),hs⟩)))
 rintro _ _ ⟨rfl,hs⟩ _;refine aW (λ rR=>?_) (λ rR=>?_)
 ·have hc49:j<p.dP.length/\j<6:=by simpa using rR
  refine aA jn (have hs:=hs.drew;aB (v:=Flat.val (sc:SV)) qB hs.hb rfl (aA jn (aB qB hs.p7.hb rfl ?_)));obtain⟨avO,apc,apd⟩:=(cQ).open;have hn74:=apd.1;obtain⟨XI,BC⟩:=gx avO (i:=((j:Int)).toNat) (by omega);obtain⟨EO,XJ⟩:=gx ((p).dP) (i:=((j:Int)).toNat) (by omega);obtain⟨acP,rfl,acQ⟩:=apd.2 _ _ _ BC XJ;refine aO sJ apc (by omega) BC (λ _ Lz=>bW acP uZ Lz rfl rfl (λ _ Ev=>aE jo (Ev.ext hs.aF) ?_));have avP:=DL.flat (acQ);refine aA jn (aB qB hs.p7.hb rfl (aO sJ apc (by omega) BC (λ _ Ej=>bW (EO).at_ Ic Ej rfl rfl (λ _ Ch=>aE bL (Ch.ext hs.aF) (ek agX hs (C47 _ _ _ (avP.ext hs.aF)) (λ x60 _ cO hs=>?_))))))
  refine⟨aG qB (hs.p1.hb.cell rfl),?_⟩;refine⟨aG qB (hs.p8.hb.cell rfl),?_⟩;refine⟨eZ bL (Ch.ext hs.aF),?_⟩;obtain⟨BD,rfl⟩:=(hs).fC;refine pop (GC _ _ _ _) (have hs:=hs.freeze.dU (Ψ:=(λ w=>Deep.dr w (⟨BD,(EO).at_⟩:jr) (⟨(xW (EO).e),(EO).at_⟩:gG))) (λ _ h=>⟨_,rfl,DL.j3 h⟩);gw (s:=(⟨BD,(EO).at_⟩:jr)) (x:=(⟨(xW (EO).e),(EO).at_⟩:gG)) hs sJ (by decide) (λ s_x68 _ hs=>?_));refine⟨aG qB (hs.p1.hb.cell rfl),?_⟩;have hs:=hs.p2;refine gy hs sJ (by rw[aio,List.length_singleton];omega) (by decide) (λ s_x69 _ hs=>aA jn ?_)
  obtain⟨XK,rfl⟩:=(hs).oI;exact aS hs.p1 qB (dI rfl) (rfl) (λ _ hs=>have hs:=hs.enc (cs':=Flat.enc (⟨sl,OO,OP,OQ,OR,XK⟩:bO)) rfl;aK (by omega) (have hs:=hs.p8.p8.p8.p8.p8.p8.p8.p8.p8;⟨_,by omega,j+1,XK,rfl,rfl,by omega,by omega,by rw[<- fW (k:=j) XJ];exact hs⟩))
 refine aE ep hs.At (aJ (x:=(⟨sl,OO,OP,OQ,OR,sc⟩:bO)) hs.p8 ep rfl rfl (λ _ hs=>aE ep hs.At ?_));rw[ql (xs:=p.dP) (k:=j) (m:=6) (by omega) (by omega) (of_decide_eq_false rR)]at hs;have hs:=hs.p3.nJ.p4.freeze.p1.gR.p4.freeze.p1.gR.p4.nJ.p1.gR.p4.nJ.p1.gR;have hs:=hs.p3.nJ.p1.gR.dU (Ψ:=(λ w=>Deep.dr w (⟨sl,OO,OP,OQ,OR,sc⟩:bO) (⟨((p.lines.take 6).map jx),(jx p.iI),(jx p.eG),(kK p.threads),(kK p.recover),((p.dP.take 6).map EF)⟩:cG))) (λ _ h=>⟨_,_,_,_,_,_,rfl,h.1.1.1.1.1,DL.j3 h.1.1.1.1.2,DL.j3 h.1.1.1.2,h.1.1.2,h.1.2,h.2⟩)
 have hs:=(((hs.p1.drop.p1).drop).p1).drop;exact⟨_,rfl,hs.fresh⟩
def tj(l:List Int)(i:Nat):Int:=if i=0 then 0 else l.getD (i-1) 0+1
theorem XL(x:bN)(loops:Int):loops+Ir (decide (x.kind=12))=Bk.CY x loops:=by
 unfold Bk.CY Ir
 grind
theorem ape(b:Bool):0<=Ir b/\Ir b<=1:=by cases b<;>decide
theorem C309(sv fv:Value)(xs:List bN)(φ:bN->Prop)(g:bN->Bool)(w:World)(hL:DL w sv xs)(hf:tf Tryz.prog w fv φ g)(hφ:∀x∈xs,φ x)(hn:xs.length<=1073741824):CR 309 [sv,fv] w (λ v w'=>v=.int .i64 (rT g xs)/\Ext w w'):=by
 obtain⟨g0,first,cap,rfl,oZ,jT⟩:=hf;have hs:=St.start w;refine eS Tryz.func309 ?_;obtain⟨vf,XM,XN⟩:=(hL).open;have hn3:=XN.1;refine aI fo (XM.ext hs.aF) ?_;refine⟨λ m x w1=>∃k:Nat,x=.int .i64 (k:Int)/\m=xs.length-k/\k<=xs.length/\(∀y∈xs.take k,g y=false)/\St w aY [] w1,⟨_,0,rfl,rfl,Nat.zero_le _,by simp,hs⟩,?_⟩;rintro m _ w1 ⟨k,rfl,rfl,hk,eD,hs⟩ _;refine aQ (aC (λ jj=>?_) (λ _=>⟨congrArg (Value.int .i64) (iU (by rw[List.take_of_length_le (by omega)]at eD;exact eD)).symm,hs.aF⟩));obtain⟨gV,dw⟩:=gx vf (i:=((k:Int)).toNat) (by omega);obtain⟨yr,iR⟩:=gx (xs) (i:=((k:Int)).toNat) (by omega)
 obtain⟨IL,acS,rfl,IM,acT⟩:=XN.2 _ _ _ dw iR;refine aO fo XM (by omega) dw (λ _ gA=>aE eI (gA.ext hs.aF) (gK oZ (jT _ yr w1 hs.aF ⟨IL,acS,rfl,(IM.ext hs.aF),(acT.ext hs.aF)⟩ (hφ _ (List.mem_of_getElem? iR))) ?_));rintro _ _ ⟨rfl,he⟩;have hs:=hs.ext he;exact aW (λ dO=>⟨congrArg (Value.int .i64) (lS eD iR dO).symm,hs.aF⟩) (λ dO=>aK (by omega) ⟨_,by omega,k+1,rfl,rfl,by omega,dR eD iR dO,hs⟩)
theorem C282(sv fv:Value)(xs:List bN)(φ:bN->Prop)(g:bN->Bool)(w:World)(hL:DL w sv xs)(hf:tf Tryz.prog w fv φ g)(hφ:∀x∈xs,φ x)(hn:xs.length<=1073741824):CR 282 [sv,fv] w (λ v w'=>v=.bool (xs.any g)/\Ext w w'):=by
 have hs:=St.start w;refine eS Tryz.func282 ?_;exact aT an7 hs (C309 _ _ _ _ _ _ (hL.ext hs.aF) (hf.ext hs.aF) hφ (by omega)) (λ _ _ hs=>cS ⟨vb (kF _ _),hs.aF⟩)
theorem C284(lv:Value)(xs:List bN)(loops:Int)(N:Nat)(w:World)(hL:DL w lv xs)(hn:xs.length<=40)(hlo:0<=loops)(Nw:loops+N<=4194304)(hN:xs.length<N):CR 284 [lv,.int .i64 loops] w (λ v w'=>v=.int .i64 (fx xs loops)/\Ext w w'):=by
 have hs:=St.start w;refine acy _ _ _ _ ?_;unfold S284;refine⟨λ m y x w1=>∃(k:Nat) (n:Int),y=.int .i64 n/\x=.int .i64 (k:Int)/\m=xs.length-k/\k<=xs.length/\0<=n/\n<=41/\fx xs loops=rV n (fx (xs.drop k) loops)/\St w aY [] w1,⟨_,0,0,rfl,rfl,rfl,by omega,by omega,by omega,by have:=tg xs loops;rw[List.drop_zero];unfold rV;split<;>omega,hs⟩,?_⟩;rintro m _ _ w1 ⟨k,n,rfl,rfl,rfl,hk,UH,Wj,hinv,hs⟩ _;obtain⟨yo,OT,hD4⟩:=(hL).open;have hn4:=hD4.1;refine aI fo (OT.ext hs.aF) (aQ (aC (λ dO=>?_) (λ dO=>?_)))
 ·obtain⟨lV,jK⟩:=gx yo (i:=((k:Int)).toNat) (by omega);obtain⟨bP,nQ⟩:=gx (xs) (i:=((k:Int)).toNat) (by omega);obtain⟨mO,lW,rfl,Ry,Rz⟩:=hD4.2 _ _ _ jK nQ;refine aO fo OT (by omega) jK (λ _ mi=>?_);have hdk:=drop_cons (xs:=xs) (k:=k) nQ;rw[hdk]at hinv;have JF:(xs.drop (k+1)).length=xs.length-(k+1):=List.length_drop;refine aE eI (mi.ext hs.aF) (aM hs jq (λ wG _ hs=>have hs:=hs.enc (cs':=Flat.enc (⟨0,(ByteArray.mk #[]),(ByteArray.mk #[]),cH,cH,0,0,0,0⟩:aZ)) rfl;aJ (x:=(⟨(bP).kind,(bP).eC,(bP).name,mO,lW,(bP).n,(bP).body,(bP).eo,(bP).at_⟩:aZ)) hs eI rfl rfl (λ _ hs=>aK (by omega) (aA iO (aB (v:=.int .i64 ((bP).body)) bL hs.hb rfl (uo ?_))))))
  obtain⟨W1,hW1⟩:∃W,W=A1 (((k:Int)+1)+(bP).body):=⟨_,rfl⟩;rw[<- hW1];refine aA iw (aB (v:=.int .i64 ((bP).eo)) bL hs.hb rfl (uo ?_));obtain⟨W2,hW2⟩:∃W,W=A1 (W1+(bP).eo):=⟨_,rfl⟩;rw[<- hW2];refine⟨λ jv w'=>jv=.bool (Bk.yR bP)/\St w aY [bY wG (Flat.enc (⟨(bP).kind,(bP).eC,(bP).name,mO,lW,(bP).n,(bP).body,(bP).eo,(bP).at_⟩:aZ))] w',aA dJ (aB (v:=.int .i64 ((bP).kind)) bL hs.hb rfl (aH (aC (λ _=>⟨vb (by unfold Bk.yR;grind),hs⟩) (λ _=>aA dJ (aB (v:=.int .i64 ((bP).kind)) bL hs.hb rfl (aH ⟨vb (by unfold Bk.yR;grind),hs⟩)))))),?_⟩
  rintro _ _ ⟨rfl,hs⟩ _;refine⟨λ jv w'=>jv=.bool (decide (bP.body<0\/bP.eo<0\/(xs.length:Int)<bP.body\/(xs.length:Int)<bP.eo\/(xs.length:Int)<W2))/\St w aY [bY wG (Flat.enc (⟨(bP).kind,(bP).eC,(bP).name,mO,lW,(bP).n,(bP).body,(bP).eo,(bP).at_⟩:aZ))] w',aA iO (aB (v:=.int .i64 ((bP).body)) bL hs.hb rfl (aQ (aC (λ _=>⟨vb (by grind),hs⟩) (λ wC=>?_)))),?_⟩
  ·refine aA iw (aB (v:=.int .i64 ((bP).eo)) bL hs.hb rfl (aQ ?_));exact aC (λ _=>⟨vb (by grind),hs⟩) (λ _=>aA iO (aB (v:=.int .i64 ((bP).body)) bL hs.hb rfl (aI fo (OT.ext hs.aF) (cP (aC (λ _=>⟨vb (by grind),hs⟩) (λ _=>aA iw (aB (v:=.int .i64 ((bP).eo)) bL hs.hb rfl (aI fo (OT.ext hs.aF) (cP (aC (λ _=>⟨vb (by grind),hs⟩) (λ _=>aI fo (OT.ext hs.aF) (cP ⟨vb (by grind),hs⟩))))))))))))
  rintro _ _ ⟨rfl,hs⟩ _;refine aW (λ oK=>?_) (λ oK=>?_)
  ·have hW:0<=bP.body/\bP.body<=40/\0<=bP.eo/\bP.eo<=40->W2=(k:Int)+1+bP.body+bP.eo:=λ h=>by
    have h1:W1=(k:Int)+1+bP.body:=by rw[hW1];exact yL (by omega)
    rw[hW2,yL (by omega)];omega
   exact⟨congrArg (Value.int .i64) (Iu hinv (by unfold uy;grind)).symm,hs.drop.aF⟩
  have hq:=of_decide_eq_false oK
  have hW:W2=(k:Int)+1+bP.body+bP.eo:=by
   have h1:W1=(k:Int)+1+bP.body:=by rw[hW1];exact yL (by omega)
   rw[hW2,yL (by omega)];omega
  have o7:uy bP (xs.drop (k+1)):=by unfold uy;omega
  refine⟨λ jv w'=>jv=.bool (!Bk.xC bP loops)/\St w aY [bY wG (Flat.enc (⟨(bP).kind,(bP).eC,(bP).name,mO,lW,(bP).n,(bP).body,(bP).eo,(bP).at_⟩:aZ))] w',⟨λ jv w'=>jv=.bool (!Bk.yR bP&&decide (0<bP.body))/\St w aY [bY wG (Flat.enc (⟨(bP).kind,(bP).eC,(bP).name,mO,lW,(bP).n,(bP).body,(bP).eo,(bP).at_⟩:aZ))] w',bQ (aW (λ _=>aA iO (aB (v:=.int .i64 ((bP).body)) bL hs.hb rfl (cP ⟨vb (by grind),hs⟩))) (λ _=>⟨vb (by grind),hs⟩)),?_⟩,?_⟩
  ·rintro _ _ ⟨rfl,hs⟩ _;refine aW (λ _=>⟨vb (by unfold Bk.xC;unfold Bk.yR at *;grind),hs⟩) (λ afz=>⟨λ jv w'=>jv=.bool (decide (¬ bP.kind=11/\0<bP.eo))/\St w aY [bY wG (Flat.enc (⟨(bP).kind,(bP).eC,(bP).name,mO,lW,(bP).n,(bP).body,(bP).eo,(bP).at_⟩:aZ))] w',aA dJ (aB (v:=.int .i64 ((bP).kind)) bL hs.hb rfl (bV (aC (λ _=>aA iw (aB (v:=.int .i64 ((bP).eo)) bL hs.hb rfl (cP ⟨vb (by grind),hs⟩))) (λ _=>⟨vb (by grind),hs⟩)))),?_⟩);rintro _ _ ⟨rfl,hs⟩ _;exact aW (λ _=>⟨vb (by unfold Bk.xC;unfold Bk.yR at *;grind),hs⟩) (λ _=>aA dJ (aB (v:=.int .i64 ((bP).kind)) bL hs.hb rfl (aH (aC (λ _=>aH ⟨vb (by unfold Bk.xC;unfold Bk.yR at *;grind),hs⟩) (λ _=>⟨vb (by unfold Bk.xC;unfold Bk.yR at *;grind),hs⟩)))))
  rintro _ _ ⟨rfl,hs⟩ _;refine aW (λ _=>⟨congrArg (Value.int .i64) (Iu hinv (by grind)).symm,hs.drop.aF⟩) (λ asg=>?_);have ki:Bk.xC bP loops=true:=by grind
  have ahv:=o7;unfold uy at ahv;refine⟨λ jv w'=>∃n':Int,jv=.int .i64 n'/\0<=n'/\n'<=41/\fx xs loops=rV n' (fx (xs.drop (k+1+(bP.body.toNat+bP.eo.toNat))) loops)/\St w aY [bY wG (Flat.enc (⟨(bP).kind,(bP).eC,(bP).name,mO,lW,(bP).n,(bP).body,(bP).eo,(bP).at_⟩:aZ))] w',aW (λ BE=>?_) (λ BE=>?_),?_⟩
  ·have hb01:=XL bP loops;have hbb:=ape (decide (bP.kind=12));have hcA:(((xs).take (((k:Int)+1)+(bP).body).toNat).drop ((k:Int)+1).toNat)=(xs.drop (k+1)).take (bP).body.toNat:=vd xs (by omega) (by omega);have hcB:(((xs).take (W2).toNat).drop (((k:Int)+1)+(bP).body).toNat)=((xs.drop (k+1)).drop (bP).body.toNat).take (bP).eo.toNat:=by rw[List.drop_drop];exact vd xs (by omega) (by omega)
   have hlA:(((xs).take (((k:Int)+1)+(bP).body).toNat).drop ((k:Int)+1).toNat).length<=xs.length-1/\(((xs).take (((k:Int)+1)+(bP).body).toNat).drop ((k:Int)+1).toNat).length<=40:=by rw[hcA,List.length_take];omega
   have hlB:(((xs).take (W2).toNat).drop (((k:Int)+1)+(bP).body).toNat).length<=xs.length-1/\(((xs).take (W2).toNat).drop (((k:Int)+1)+(bP).body).toNat).length<=40:=by rw[hcB,List.length_take,List.length_drop];omega
   refine aA dJ (aB (v:=.int .i64 ((bP).kind)) bL hs.hb rfl (aH (aT Vr hs (C302 _ _) (λ _ he hs=>aK (by omega) (aK (by omega) (aK (by omega) (aA iO (have hs:=hs.drew;aB (v:=.int .i64 ((bP).body)) bL hs.hb rfl (aK (by omega) (od fo (OT.ext hs.aF) (by omega) (by omega) (by omega) (λ avS acU=>?_)))))))))));have acV:=DL.cut acU OT hD4;refine aK (by omega) (aA iO (aB (v:=.int .i64 ((bP).body)) bL hs.hb rfl (aK (by omega) (od fo (OT.ext hs.aF) (by omega) (by omega) (by omega) (λ avT acW=>?_)))));have acX:=DL.cut acW OT hD4
   refine aT W6 hs (C284 _ _ _ (N-1) _ (acV.ext hs.aF) (by omega) (by omega) (by omega) (by omega)) (λ _ he hs=>?_);refine⟨aG bL (hs.hb.cell rfl),?_⟩;refine dN W6 (C284 _ _ _ (N-1) _ (acX.ext hs.aF) (by omega) (by omega) (by omega) (by omega)) ?_;rintro _ _ ⟨rfl,he⟩;have hs:=hs.ext he;obtain⟨A,hA⟩:∃A,A=fx (((xs).take (((k:Int)+1)+(bP).body).toNat).drop ((k:Int)+1).toNat) (Bk.CY bP loops):=⟨_,rfl⟩;obtain⟨B,hB⟩:∃B,B=fx (((xs).take (W2).toNat).drop (((k:Int)+1)+(bP).body).toNat) (Bk.CY bP loops):=⟨_,rfl⟩;have hAb:=tg (((xs).take (((k:Int)+1)+(bP).body).toNat).drop ((k:Int)+1).toNat) (Bk.CY bP loops)
   have hBb:=tg (((xs).take (W2).toNat).drop (((k:Int)+1)+(bP).body).toNat) (Bk.CY bP loops);rw[<- hA]at hAb;rw[<- hB]at hBb;rw[XL,<- hA,<- hB];have Tf:=Wt hinv o7 ki BE A B (by rw[hA,hcA]) (by rw[hB,hcB]);refine⟨λ jv w'=>jv=.bool (decide (A<0\/B<0))/\St w aY [bY wG (Flat.enc (⟨(bP).kind,(bP).eC,(bP).name,mO,lW,(bP).n,(bP).body,(bP).eo,(bP).at_⟩:aZ))] w',aH (aC (λ _=>⟨vb (by grind),hs⟩) (λ _=>aH ⟨vb (by grind),hs⟩)),?_⟩;rintro _ _ ⟨rfl,hs⟩ _;refine aW (λ OU=>⟨congrArg (Value.int .i64) (Tf.1 (of_decide_eq_true OU)).symm,hs.drop.aF⟩) (λ OU=>aK (by omega) (aK (by omega) (KG ?_)))
   have Wv:=Tf.2 (of_decide_eq_false OU);rw[List.drop_drop,Int.add_comm 1 A,Int.add_comm 1 B]at Wv;exact⟨_,rfl,by omega,by omega,Wv,hs⟩
  ·have hdn:=afx hinv o7 ki BE;rw[List.drop_drop]at hdn;exact⟨_,rfl,UH,Wj,hdn,hs⟩
  rintro _ _ ⟨n',rfl,ahy,ahz,Ww,hs⟩ _;exact⟨_,by omega,k+1+((bP).body.toNat+(bP).eo.toNat),n',rfl,congrArg (Value.int .i64) (by omega),rfl,by omega,ahy,ahz,Ww,hs.drop⟩
 rw[List.drop_eq_nil_of_le (by omega),Bs]at hinv;exact⟨congrArg (Value.int .i64) (by rw[hinv];unfold rV;omega),hs.aF⟩
termination_by N
decreasing_by all_goals omega
theorem LJ(xs:List bN):pw xs=(!(decide (40<xs.length)||xs.any (λ y=>!mT y))&&decide (¬ fx xs 0 = -1/\fx xs 0<=12)):=by
 have:=tg xs 0
 grind[pw,mT,fx]
theorem C241(lv:Value)(xs:List bN)(w:World)(hL:DL w lv xs)(hn:xs.length<=1048576)(hz:∀x∈xs,x.e.length<=1048576/\x.f.length<=1048576):CR 241 [lv] w (λ v w'=>v=.bool (pw xs)/\Ext w w'):=by
 have hs:=St.start w;refine eS Tryz.func241 ?_;refine⟨λ jv w'=>jv=.bool (decide (40<xs.length)||xs.any (λ y=>!mT y))/\St w aY [] w',?_,?_⟩
 ·obtain⟨ts5,hR5,hD5⟩:=(hL).open;have C5:=hD5.1;exact aI fo (hR5.ext hs.aF) (cP (aC (λ _=>⟨vb (by grind),hs⟩) (λ _=>aT an6 hs (C282 _ _ _ (λ x=>x.e.length<=1048576/\x.f.length<=1048576) _ _ (hL.ext hs.aF) ⟨283,[],[],rfl,anX,λ sv y w1 _ hd hp=>C283 y sv w1 hd hp.1 hp.2⟩ hz (by omega)) (λ _ _ hs=>⟨vb (by grind),hs⟩))))
 rintro _ _ ⟨rfl,hs⟩ _;refine aW (λ gL=>?_) (λ gL=>?_)
 ·refine⟨vb ?_,hs.aF⟩;rw[LJ,gL];rfl
 have h40:xs.length<=40:=by grind
 refine aT W6 hs (C284 _ _ _ (xs.length+1) _ (hL.ext hs.aF) (by omega) (by omega) (by omega) (by omega)) (λ _ he hs=>⟨λ jv w'=>jv=.bool (decide (¬ fx xs 0 = -1/\fx xs 0<=12))/\St w aY [] w',bV (aC (λ _=>im ⟨vb (by grind),hs⟩) (λ _=>⟨vb (by grind),hs⟩)),?_⟩);rintro _ _ ⟨rfl,hs⟩ _;refine⟨vb ?_,hs.aF⟩;rw[LJ,gL];rfl
def IN(t:cN):Bool:=q8 t.at_&&!t.dL.any (λ s=>!gB s)&&pw t.body
theorem RB(t:cN):(!gB t.name||!IN t)=ml true t:=by
 unfold ml rW IN
 grind
theorem RC(t:cN):(decide (¬ t.name=⟨#[]⟩)||!IN t)=ml false t:=by
 unfold ml rW IN
 by_cases h:t.name=⟨#[]⟩
 ·rw[h,show gB (⟨#[]⟩:ByteArray)=false from by decide]
  grind
 grind
theorem LK(p:cG):(!(p.lines.any nK||!nS 4294967296 p.iI||!nS 0 p.eG||decide (1<p.recover.length))&&(!p.threads.any (ml true)&&!p.recover.any (ml false)&&!p.dP.any lC))=j7 p:=by
 unfold j7 nE
 grind
theorem SzS.ok{xs:List bN}(h:∀x∈xs,SzS x):∀x∈xs,x.e.length<=1048576/\x.f.length<=1048576:=λ x hx=>⟨(h x hx).2.2.1,(h x hx).2.2.2.1⟩
theorem C184(n:Int)(w:World):CR 184 [.int .i64 n] w (λ v w'=>v=.bool (q8 n)/\Ext w w'):=by
 have hs:=St.start w;refine eS Tryz.func184 ?_;refine⟨λ jv w'=>jv=.bool (decide (0<=n/\n<=4000))/\w=w',cS (aC (λ _=>im ⟨xS (by omega),rfl⟩) (λ _=>⟨jvF (by omega),rfl⟩)),?_⟩;rintro _ _ ⟨rfl,hw⟩ _;subst hw;exact⟨rfl,hs.aF⟩
theorem C233(c:cJ)(b2:Nat)(wE:Int)(w:World)(hc:Cell w b2 0 (.int .i64 wE)):CR 233 [Flat.val c,.pointer (some ⟨b2,0,none⟩)] w (λ v w'=>v=.bool (iJ wE c)/\Ext w w'):=by
 have hs:=St.start w;refine eS Tryz.func233 ?_;refine cI hs (λ avU _ hs=>⟨λ jv w'=>jv=.bool (iJ wE c)/\St w aY [bY avU (Flat.enc c)] w',aA kz (aB (v:=.string ((c).name)) gj hs.hb rfl (aT KW hs (C180 _ _) (λ _ he hs=>bQ (aW (λ _=>⟨vb (by unfold iJ;grind),hs⟩) (λ gH=>?_))))),?_⟩)
 ·exact aA rJ (aB (v:=.int .i64 ((c).n)) bL hs.hb rfl (aQ (aC (λ _=>⟨vb (by unfold iJ;grind),hs⟩) (λ _=>aA rJ (aB (v:=.int .i64 ((c).n)) bL hs.hb rfl (bM bL (hc.ext hs.aF) (cP (aC (λ _=>⟨vb (by unfold iJ;grind),hs⟩) (λ _=>aA ui (aB (v:=.int .i64 ((c).at_)) bL hs.hb rfl (aT W8 hs (C184 _ _) (λ _ _ hs=>bQ ⟨vb (by unfold iJ;grind),hs⟩))))))))))))
 rintro _ _ ⟨rfl,hs⟩ _;exact⟨rfl,hs.drop.aF⟩
theorem C279(sv fv:Value)(xs:List cJ)(g:cJ->Bool)(w:World)(hL:dC (λ _=>True) w sv xs)(hf:vP w fv g)(hn:xs.length<=1073741824):CR 279 [sv,fv] w (λ v w'=>v=.int .i64 (rT g xs)/\Ext w w'):=by
 obtain⟨g0,first,cap,rfl,oZ,jT⟩:=hf;have hs:=St.start w;refine eS Tryz.func279 ?_;refine aI g8 (hL.ext hs.aF) ?_;refine⟨λ m x w1=>∃k:Nat,x=.int .i64 (k:Int)/\m=xs.length-k/\k<=xs.length/\(∀y∈xs.take k,g y=false)/\St w aY [] w1,⟨_,0,rfl,rfl,Nat.zero_le _,by simp,hs⟩,?_⟩;rintro m _ w1 ⟨k,rfl,rfl,hk,eD,hs⟩ _;refine aQ (aC (λ jj=>?_) (λ _=>⟨congrArg (Value.int .i64) (iU (by rw[List.take_of_length_le (by omega)]at eD;exact eD)).symm,hs.aF⟩));obtain⟨gV,dw⟩:=gx (xs) (i:=((k:Int)).toNat) (by omega);refine aO g8 hL (by omega) dw (λ _ gA=>aE lP (gA.ext hs.aF) (gK oZ (jT gV w1 hs.aF) ?_))
 rintro _ _ ⟨rfl,he⟩;have hs:=hs.ext he;exact aW (λ dO=>⟨congrArg (Value.int .i64) (lS eD dw dO).symm,hs.aF⟩) (λ dO=>aK (by omega) ⟨xs.length-(k+1),by omega,k+1,rfl,rfl,by omega,dR eD dw dO,hs⟩)
theorem C232(sv fv:Value)(xs:List cJ)(g:cJ->Bool)(w:World)(hL:dC (λ _=>True) w sv xs)(hf:vP w fv g)(hn:xs.length<=1073741824):CR 232 [sv,fv] w (λ v w'=>v=.bool (xs.any g)/\Ext w w'):=by
 have hs:=St.start w;refine eS Tryz.func232 ?_;exact aT an9 hs (C279 _ _ _ _ _ (hL.ext hs.aF) (hf.ext hs.aF) (by omega)) (λ _ _ hs=>cS ⟨vb (kF _ _),hs.aF⟩)
theorem C178(lv:Value)(xs:List cJ)(wE:Int)(w:World)(hL:dC (λ _=>True) w lv xs)(hn:xs.length<=1048576):CR 178 [lv,.int .i64 wE] w (λ v w'=>v=.bool (nS wE xs)/\Ext w w'):=by
 have hs:=St.start w;refine eS Tryz.func178 ?_;refine nj hs rfl (λ RD w1 hs=>?_)
 have hfn:vP _ (.func (.func 233) [].toArray [.pointer (some ⟨RD,0,none⟩)].toArray) (iJ wE):=
  ⟨233,[],_,rfl,an4,λ y w1 e1=>C233 y RD wE w1 ((hs.hb.cell rfl).ext e1)⟩
 exact aT an8 hs (C232 _ _ _ _ _ (hL.ext hs.aF) hfn (by omega)) (λ _ _ hs=>bQ ⟨rfl,hs.drop.aF⟩)
theorem C239(s:ByteArray)(w:World):CR 239 [.string s] w (λ v w'=>v=.bool (!gB s)/\Ext w w'):=by
 have hs:=St.start w;refine eS Tryz.func239 ?_;exact aT KW hs (C180 _ _) (λ _ _ hs=>bQ ⟨rfl,hs.aF⟩)
theorem C181(t:cN)(tv:cE)(w:World)(ht:Deep.dr w tv t)(hz:Wu t/\t.dL.length<=500/\t.body.length<=500):CR 181 [Flat.val tv] w (λ v w'=>v=.bool (IN t)/\Ext w w'):=by
 obtain⟨lD,lE,rfl,nF,r8⟩:=ht;have hs:=St.start w;refine eS Tryz.func181 ?_;refine cI hs (λ Tz w1 hs=>⟨λ jv w'=>jv=.bool (IN t)/\St w aY [bY Tz (Flat.enc (⟨(t).name,lD,lE,(t).at_⟩:cE))] w',aA pX (aB (v:=.int .i64 ((t).at_)) bL hs.hb rfl (aT W8 hs (C184 _ _) (λ _ he hs=>aW (λ pk=>?_) (λ _=>⟨vb (by unfold IN;grind),hs⟩)))),?_⟩)
 ·refine aA fN (aB iZ hs.hb rfl ?_);have hf6:=DL.flat (nF);exact aT afG hs (C240 _ _ _ (λ s=>!gB s) _ (hf6.ext hs.aF) ⟨239,[],[],rfl,an5,λ y w1 _=>C239 y w1⟩ (by omega)) (λ _ _ hs=>bQ (aW (λ _=>aA lj (aB jF hs.hb rfl (aT anY hs (C241 _ _ _ (r8.ext hs.aF) (by omega) (SzS.ok hz.1.2.2)) (λ _ _ hs=>⟨vb (by unfold IN;grind),hs⟩)))) (λ _=>⟨vb (by unfold IN;grind),hs⟩)))
 rintro _ _ ⟨rfl,hs⟩ _;exact⟨rfl,hs.drop.aF⟩
theorem C179(t:cN)(tv:cE)(w:World)(ht:Deep.dr w tv t)(hz:Wu t/\t.dL.length<=500/\t.body.length<=500):CR 179 [Flat.val tv] w (λ v w'=>v=.bool (ml true t)/\Ext w w'):=by
 obtain⟨lD,lE,rfl,nF,r8⟩:=ht;have hs:=St.start w;refine eS Tryz.func179 ?_;refine cI hs (λ Tz _ hs=>⟨λ jv w'=>jv=.bool (ml true t)/\St w aY [bY Tz (Flat.enc (⟨(t).name,lD,lE,(t).at_⟩:cE))] w',aA pW (aB (v:=.string ((t).name)) gj hs.hb rfl (aT KW hs (C180 _ _) (λ _ _ hs=>bQ (aW (λ _=>⟨vb (by rw[<- RB];grind),hs⟩) (λ _=>aE mQ hs.At (aT afQ hs (C181 t _ _ ⟨lD,lE,rfl,(nF.ext hs.aF),(r8.ext hs.aF)⟩ hz) (λ _ _ hs=>bQ ⟨vb (by rw[<- RB];grind),hs⟩))))))),?_⟩);rintro _ _ ⟨rfl,hs⟩ _;exact⟨rfl,hs.drop.aF⟩
theorem C182(t:cN)(tv:cE)(w:World)(ht:Deep.dr w tv t)(hz:Wu t/\t.dL.length<=500/\t.body.length<=500):CR 182 [Flat.val tv] w (λ v w'=>v=.bool (ml false t)/\Ext w w'):=by
 obtain⟨lD,lE,rfl,nF,r8⟩:=ht;have hs:=St.start w;refine eS Tryz.func182 ?_;refine cI hs (λ Tz _ hs=>⟨λ jv w'=>jv=.bool (ml false t)/\St w aY [bY Tz (Flat.enc (⟨(t).name,lD,lE,(t).at_⟩:cE))] w',aA pW (aB (v:=.string ((t).name)) gj hs.hb rfl (lM (aC (λ _=>⟨vb (by rw[<- RC];grind),hs⟩) (λ _=>aE mQ hs.At (aT afQ hs (C181 t _ _ ⟨lD,lE,rfl,(nF.ext hs.aF),(r8.ext hs.aF)⟩ hz) (λ _ _ hs=>bQ ⟨vb (by rw[<- RC];grind),hs⟩)))))),?_⟩);rintro _ _ ⟨rfl,hs⟩ _;exact⟨rfl,hs.drop.aF⟩
theorem C177(lv:Value)(xs:List cJ)(w:World)(hL:dC (λ _=>True) w lv xs)(hn:xs.length<=1048576):CR 177 [lv] w (λ v w'=>v=.bool (nK xs)/\Ext w w'):=by
 have hs:=St.start w;refine eS Tryz.func177 ?_;refine⟨λ jv w'=>jv=.bool (nK xs)/\St w aY [] w',aI g8 (hL.ext hs.aF) (aH (aC (λ _=>⟨vb (by unfold nK;grind),hs⟩) (λ _=>aT W7 hs (C178 _ _ _ _ (hL.ext hs.aF) (by omega)) (λ _ _ hs=>bQ ⟨vb (by unfold nK;grind),hs⟩)))),?_⟩;rintro _ _ ⟨rfl,hs⟩ _;exact⟨rfl,hs.aF⟩
theorem C183(c:gG)(cv:jr)(w:World)(hc:Deep.dr w cv c)(hz:c.e.length<=1048576):CR 183 [Flat.val cv] w (λ v w'=>v=.bool (lC c)/\Ext w w'):=by
 obtain⟨apf,rfl,apg⟩:=hc;have hs:=St.start w;refine eS Tryz.func183 ?_;refine cI hs (λ avV _ hs=>⟨λ jv w'=>jv=.bool (lC c)/\St w aY [bY avV (Flat.enc (⟨apf,(c).at_⟩:jr))] w',aA Ic (aB (v:=.int .i64 ((c).at_)) bL hs.hb rfl (aT W8 hs (C184 _ _) (λ _ he hs=>bQ (aW (λ _=>⟨vb (by unfold lC;grind),hs⟩) (λ pk=>?_))))),?_⟩)
 ·refine aA uZ (aB jo hs.hb rfl ?_);have hf7:=DL.flat (apg);exact aT Rg hs (C185 _ _ _ (hf7.ext hs.aF) (by omega)) (λ _ _ hs=>bQ ⟨vb (by unfold lC;grind),hs⟩)
 rintro _ _ ⟨rfl,hs⟩ _;exact⟨rfl,hs.drop.aF⟩
theorem C247(sv fv:Value)(xs:List (List cJ))(φ:(List cJ)->Prop)(g:(List cJ)->Bool)(w:World)(hL:DL w sv xs)(hf:tf Tryz.prog w fv φ g)(hφ:∀x∈xs,φ x)(hn:xs.length<=1073741824):CR 247 [sv,fv] w (λ v w'=>v=.int .i64 (rT g xs)/\Ext w w'):=by
 obtain⟨g0,first,cap,rfl,oZ,jT⟩:=hf;have hs:=St.start w;refine eS Tryz.func247 ?_;obtain⟨ts8,hR8,hD8⟩:=(hL).open;have hn8:=hD8.1;refine aI pj (hR8.ext hs.aF) ?_;refine⟨λ m x w1=>∃k:Nat,x=.int .i64 (k:Int)/\m=xs.length-k/\k<=xs.length/\(∀y∈xs.take k,g y=false)/\St w aY [] w1,⟨_,0,rfl,rfl,Nat.zero_le _,by simp,hs⟩,?_⟩;rintro m _ w1 ⟨k,rfl,rfl,hk,eD,hs⟩ _;refine aQ (aC (λ jj=>?_) (λ _=>⟨congrArg (Value.int .i64) (iU (by rw[List.take_of_length_le (by omega)]at eD;exact eD)).symm,hs.aF⟩));obtain⟨gV,dw⟩:=gx ts8 (i:=((k:Int)).toNat) (by omega);obtain⟨yr,iR⟩:=gx (xs) (i:=((k:Int)).toNat) (by omega)
 have af6:DL w (Flat.val gV) yr:=hD8.2 _ _ _ dw iR;refine aO pj hR8 (by omega) dw (λ _ gA=>aE jC (gA.ext hs.aF) ?_);have hf9:=DL.flat (af6);refine gK oZ (jT _ yr w1 hs.aF (af6.ext hs.aF) (hφ _ (List.mem_of_getElem? iR))) ?_;rintro _ _ ⟨rfl,he⟩;have hs:=hs.ext he;exact aW (λ dO=>⟨congrArg (Value.int .i64) (lS eD iR dO).symm,hs.aF⟩) (λ dO=>aK (by omega) ⟨_,by omega,k+1,rfl,rfl,by omega,dR eD iR dO,hs⟩)
theorem C186(sv fv:Value)(xs:List (List cJ))(φ:(List cJ)->Prop)(g:(List cJ)->Bool)(w:World)(hL:DL w sv xs)(hf:tf Tryz.prog w fv φ g)(hφ:∀x∈xs,φ x)(hn:xs.length<=1073741824):CR 186 [sv,fv] w (λ v w'=>v=.bool (xs.any g)/\Ext w w'):=by
 have hs:=St.start w;refine eS Tryz.func186 ?_;exact aT aoa hs (C247 _ _ _ _ _ _ (hL.ext hs.aF) (hf.ext hs.aF) hφ (by omega)) (λ _ _ hs=>cS ⟨vb (kF _ _),hs.aF⟩)
theorem C248(sv fv:Value)(xs:List cN)(φ:cN->Prop)(g:cN->Bool)(w:World)(hL:DL w sv xs)(hf:tf Tryz.prog w fv φ g)(hφ:∀x∈xs,φ x)(hn:xs.length<=1073741824):CR 248 [sv,fv] w (λ v w'=>v=.int .i64 (rT g xs)/\Ext w w'):=by
 obtain⟨g0,first,cap,rfl,oZ,jT⟩:=hf;have hs:=St.start w;refine eS Tryz.func248 ?_;obtain⟨avW,aph,api⟩:=(hL).open;have hn10:=api.1;refine aI fq (aph.ext hs.aF) ?_;refine⟨λ m x w1=>∃k:Nat,x=.int .i64 (k:Int)/\m=xs.length-k/\k<=xs.length/\(∀y∈xs.take k,g y=false)/\St w aY [] w1,⟨_,0,rfl,rfl,Nat.zero_le _,by simp,hs⟩,?_⟩;rintro m _ w1 ⟨k,rfl,rfl,hk,eD,hs⟩ _;refine aQ (aC (λ jj=>?_) (λ _=>⟨congrArg (Value.int .i64) (iU (by rw[List.take_of_length_le (by omega)]at eD;exact eD)).symm,hs.aF⟩));obtain⟨gV,dw⟩:=gx avW (i:=((k:Int)).toNat) (by omega);obtain⟨yr,iR⟩:=gx (xs) (i:=((k:Int)).toNat) (by omega)
 obtain⟨OV,OW,rfl,OX,OY⟩:=api.2 _ _ _ dw iR;refine aO fq aph (by omega) dw (λ _ gA=>aE mQ (gA.ext hs.aF) (gK oZ (jT _ yr w1 hs.aF ⟨OV,OW,rfl,(OX.ext hs.aF),(OY.ext hs.aF)⟩ (hφ _ (List.mem_of_getElem? iR))) ?_));rintro _ _ ⟨rfl,he⟩;have hs:=hs.ext he;exact aW (λ dO=>⟨congrArg (Value.int .i64) (lS eD iR dO).symm,hs.aF⟩) (λ dO=>aK (by omega) ⟨_,by omega,k+1,rfl,rfl,by omega,dR eD iR dO,hs⟩)
theorem C187(sv fv:Value)(xs:List cN)(φ:cN->Prop)(g:cN->Bool)(w:World)(hL:DL w sv xs)(hf:tf Tryz.prog w fv φ g)(hφ:∀x∈xs,φ x)(hn:xs.length<=1073741824):CR 187 [sv,fv] w (λ v w'=>v=.bool (xs.any g)/\Ext w w'):=by
 have hs:=St.start w;refine eS Tryz.func187 ?_;exact aT aob hs (C248 _ _ _ _ _ _ (hL.ext hs.aF) (hf.ext hs.aF) hφ (by omega)) (λ _ _ hs=>cS ⟨vb (kF _ _),hs.aF⟩)
theorem C249(sv fv:Value)(xs:List gG)(φ:gG->Prop)(g:gG->Bool)(w:World)(hL:DL w sv xs)(hf:tf Tryz.prog w fv φ g)(hφ:∀x∈xs,φ x)(hn:xs.length<=1073741824):CR 249 [sv,fv] w (λ v w'=>v=.int .i64 (rT g xs)/\Ext w w'):=by
 obtain⟨g0,first,cap,rfl,oZ,jT⟩:=hf;have hs:=St.start w;refine eS Tryz.func249 ?_;obtain⟨ahI,Tt,Xb⟩:=(hL).open;have auK:=Xb.1;refine aI sJ (Tt.ext hs.aF) ?_;refine⟨λ m x w1=>∃k:Nat,x=.int .i64 (k:Int)/\m=xs.length-k/\k<=xs.length/\(∀y∈xs.take k,g y=false)/\St w aY [] w1,⟨_,0,rfl,rfl,Nat.zero_le _,by simp,hs⟩,?_⟩;rintro m _ w1 ⟨k,rfl,rfl,hk,eD,hs⟩ _;refine aQ (aC (λ jj=>?_) (λ _=>⟨congrArg (Value.int .i64) (iU (by rw[List.take_of_length_le (by omega)]at eD;exact eD)).symm,hs.aF⟩));obtain⟨gV,dw⟩:=gx ahI (i:=((k:Int)).toNat) (by omega);obtain⟨yr,iR⟩:=gx (xs) (i:=((k:Int)).toNat) (by omega)
 obtain⟨IL,rfl,IM⟩:=Xb.2 _ _ _ dw iR;refine aO sJ Tt (by omega) dw (λ _ gA=>aE Ib (gA.ext hs.aF) (gK oZ (jT _ yr w1 hs.aF ⟨IL,rfl,(IM.ext hs.aF)⟩ (hφ _ (List.mem_of_getElem? iR))) ?_));rintro _ _ ⟨rfl,he⟩;have hs:=hs.ext he;exact aW (λ dO=>⟨congrArg (Value.int .i64) (lS eD iR dO).symm,hs.aF⟩) (λ dO=>aK (by omega) ⟨_,by omega,k+1,rfl,rfl,by omega,dR eD iR dO,hs⟩)
theorem C188(sv fv:Value)(xs:List gG)(φ:gG->Prop)(g:gG->Bool)(w:World)(hL:DL w sv xs)(hf:tf Tryz.prog w fv φ g)(hφ:∀x∈xs,φ x)(hn:xs.length<=1073741824):CR 188 [sv,fv] w (λ v w'=>v=.bool (xs.any g)/\Ext w w'):=by
 have hs:=St.start w;refine eS Tryz.func188 ?_;exact aT aod hs (C249 _ _ _ _ _ _ (hL.ext hs.aF) (hf.ext hs.aF) hφ (by omega)) (λ _ _ hs=>cS ⟨vb (kF _ _),hs.aF⟩)
theorem C108(p:cG)(pv:bO)(w:World)(hp:Deep.dr w pv p)(hz:PZ p):CR 108 [Flat.val pv] w (λ v w'=>v=.bool (j7 p)/\Ext w w'):=by
 obtain⟨bJ,bT,bK,aU,aV,bE,rfl,cR,dA,cW,cB,cC,cQ⟩:=hp;have hs:=St.start w;refine eS Tryz.func108 ?_;refine cI hs (λ j5 w1 hs=>⟨λ jv w'=>jv=.bool (p.lines.any nK||!nS 4294967296 p.iI||!nS 0 p.eG||decide (1<p.recover.length))/\St w aY [bY j5 (Flat.enc (⟨bJ,bT,bK,aU,aV,bE⟩:bO))] w',aA gk (aB oz hs.hb rfl (aT afR hs (C186 _ _ _ (λ l=>l.length<=1048576) _ _ (cR.ext hs.aF) ⟨177,[],[],rfl,an0,λ _ y w1 _ hd hp=>C177 _ y w1 (DL.flat hd) hp⟩ (λ l hl=>by have:=hz.line l hl;omega) (by have:=hz.lines;omega)) (λ _ he hs=>aW (λ _=>⟨vb (by grind),hs⟩) (λ ju=>?_)))),?_⟩)
 ·refine aA pK (aB jC hs.hb rfl ?_);have acB:=DL.flat (dA);refine aT W7 hs (C178 _ _ _ _ (acB.ext hs.aF) (by have:=hz.iI;omega)) (λ _ he hs=>bQ (aW (λ _=>⟨vb (by grind),hs⟩) (λ ji=>aA nI (aB jC hs.hb rfl ?_))));have avX:=DL.flat (cW);refine aT W7 hs (C178 _ _ _ _ (avX.ext hs.aF) (by have:=hz.eG;omega)) (λ _ he hs=>bQ (aW (λ _=>⟨vb (by grind),hs⟩) (λ eQ=>aA oA (aB ij hs.hb rfl ?_))));have hzr:=hz.recover;obtain⟨ts14,avY,avZ⟩:=(cC).open;have hn14:=avZ.1;exact aI fq (avY.ext hs.aF) (cP ⟨vb (by grind),hs⟩)
 rintro _ _ ⟨rfl,hs⟩ _;refine aW (λ gH=>?_) (λ gH=>⟨λ jv w'=>jv=.bool (!p.threads.any (ml true)&&!p.recover.any (ml false)&&!p.dP.any lC)/\St w aY [bY j5 (Flat.enc (⟨bJ,bT,bK,aU,aV,bE⟩:bO))] w',?_,?_⟩)
 ·refine⟨vb ?_,hs.drop.aF⟩;rw[<- LK,gH];simp
 ·refine aA kj ?_;exact aB ij hs.hb rfl (aT W9 hs (C187 _ _ _ (λ t=>Wu t/\t.dL.length<=500/\t.body.length<=500) _ _ (cB.ext hs.aF) ⟨179,[],[],rfl,an1,λ sv y w1 _ hd hp=>C179 y sv w1 hd hp⟩ (λ _ ht=>hz.qE (List.mem_append_left _ ht)) (by have:=hz.threads;omega)) (λ _ _ hs=>bQ (aW (λ _=>aA oA (aB ij hs.hb rfl (aT W9 hs (C187 _ _ _ (λ t=>Wu t/\t.dL.length<=500/\t.body.length<=500) _ _ (cC.ext hs.aF) ⟨182,[],[],rfl,an2,λ sv y w1 _ hd hp=>C182 y sv w1 hd hp⟩ (λ _ ht=>hz.qE (List.mem_append_right _ ht)) (by have:=hz.recover;omega)) (λ _ _ hs=>bQ (aW (λ _=>aA jn (aB qB hs.hb rfl (aT aoc hs (C188 _ _ _ (λ c=>c.e.length<=1048576) _ _ (cQ.ext hs.aF) ⟨183,[],[],rfl,an3,λ sv y w1 _ hd hp=>C183 y sv w1 hd hp⟩ (λ c hc=>(hz.zc c hc).1) (by have:=hz.dP;omega)) (λ _ _ hs=>bQ ⟨vb (by grind),hs⟩)))) (λ _=>⟨vb (by grind),hs⟩)))))) (λ _=>⟨vb (by grind),hs⟩))))
 rintro _ _ ⟨rfl,hs⟩ _;refine⟨vb ?_,hs.drop.aF⟩;rw[<- LK,gH];simp
variable (w:World) (K:Value->World->Prop)
def S109(p0:Value):Prop:=
 rC Tryz.prog (Instr.box 27 p0) w λ p1 a=>fA 27 p1 3 λ b=>lA 24 b a λ c=>lN 24 c λ d=>fc (λ K1=>fA 27 p1 0 λ e=>lA 22 e a λ f=>lN 22 f λ g=>bB .gtr 3 g (i 4) λ h=>
 cV h (K1 tt a) (fA 27 p1 0 λ j=>lA 22 j a λ k=>cF 186 [k,(.func (.func 189) #[] #[])] a λ l n=>cV l (K1 tt n) (fA 27 p1 1 λ o=>lA 23 o n λ p=>lN 23 p λ q=>bB .gtr 3 q (i 4) λ r=>
 cV r (K1 tt n) (fA 27 p1 2 λ s=>lA 23 s n λ t=>lN 23 t λ u=>bB .gtr 3 u (i 2) λ v=>cV v (K1 tt n) (bB .eql 3 d (i 0) λ x=>cV x (K1 tt n) (bB .gtr 3 d (i 3) λ y=>
 cV y (K1 tt n) (lA 27 p1 n λ z=>cF 110 [z] n λ aa ab=>cF 187 [aa,(.func (.func 190) #[] #[])] ab λ ac ad=>cV ac (K1 tt ad) (fA 27 p1 5 λ ae=>lA 25 ae ad λ af=>lN 25 af λ ag=>
 bB .gtr 3 ag (i 4) λ ah=>K1 ah ad)))))))) (λ ai aj=>∀_:Env,
 K ai aj)
theorem acY(p0:Value)(h:S109 w K p0):CR 109 [p0] w K:=
 qz 51 (λ _=>.nil) 4 [.tmp 2] Tryz.func109 h
def S111(l0 AE:Value):Prop:=
 kh (λ K1 i6 a=>∀_:Env,
 lN 141 l0 λ b=>bA .lss 3 i6 b λ c=>cV c (iA 141 l0 i6 λ d=>lA 193 d a λ e=>aL 193 a λ f g=>sA 193 f e g λ h=>bB .add 3 i6 (i 1) λ j=>fA 193 f 6 λ k=>lA 3 k h λ l=>
 bA .add 3 j l λ n=>fA 193 f 7 λ o=>lA 3 o h λ p=>bA .add 3 n p λ q=>fc (λ K2=>fA 193 f 0 λ r=>lA 3 r h λ s=>bB .eql 3 s (i 12) λ t=>cV t (fA 193 f 5 λ u=>
 lA 3 u h λ v=>bA .mul 3 AE v λ x=>K2 x h) (K2 AE h)) (λ n9 y=>∀_:Env,
 bB .gtr 3 n9 (i 64) λ z=>cV z (fA 193 f 8 λ aa=>lA 3 aa y λ ab=>K (.tuple #[ab,tt]) y) (bB .add 3 i6 (i 1) λ ac=>eN Tryz.prog (Instr.sliceAt 141 l0 (some ac) (some q) none) λ ad=>
 cF 111 [ad,n9] y λ ae af=>xT ae 0 λ ag=>xT ae 1 λ ah=>cV ah (K (.tuple #[ag,tt]) af) (K1 q af)))) (K (.tuple #[(i 0),ff]) a)) (λ K1=>K1 (i 0) w)
theorem acZ(l0 AE:Value)(h:S111 w K l0 AE):CR 111 [l0,AE] w K:=
 qz 53 (λ _=>.nil) 48 [.tmp 4,.tmp 5] Tryz.func111 h
theorem RE:PL 115:=dF Tryz.func115
theorem RF:PL 195:=dF Tryz.func195
theorem av0:PL 50:=dF Tryz.func50
theorem XO:PL 54:=dF Tryz.func54
theorem apj:PL 52:=dF Tryz.func52
theorem av1:PL 51:=dF Tryz.func51
theorem av2:PL 55:=dF Tryz.func55
theorem GU:PL 159:=dF Tryz.func159
theorem RG:PL 110:=dF Tryz.func110
theorem apk:PL 109:=dF Tryz.func109
theorem apl:PL 189:=dF Tryz.func189
theorem apm:PL 190:=dF Tryz.func190
theorem af7:PL 111:=dF Tryz.func111
theorem apn:PL 191:=dF Tryz.func191
theorem apo:PL 250:=dF Tryz.func250
end Go.Proofs.YtpdlpabnlkofmaaGreatDoor
namespace Go.Fw
section
variable {α:Type}[Flat α] {P:Program}{w w0:World}{A:Nat->Prop}{L:List HP}
theorem LL{T E kS tx R:Nat}{kn k0:IntKind}{K:Value->World->Prop}(hs:St w0 A L w)(ht:Vt P T E (Flat.sz α) kS)(hk:P.underlying tx=some (.int kn))(h1:1<=Flat.sz α)(n:Nat)(hn:0<n)(hn2:n<=1048576)(hby:kS<=8192)
  (k:∀b cap w',n<=cap->St w0 A (bG (.slice (some ⟨b,0,none⟩) 0 cap) ([]:List α)::L) w'->K (.slice (some ⟨b,0,none⟩) n cap) w'):rC P (Builtin.append_ #[T,tx] R [.slice none 0 0,.int k0 (n:Int)].toArray) w K:=by
 obtain⟨hu,inf,hi,o7,yG,hzz⟩:=fp ht
 obtain⟨z,hz,hzc⟩:∃z,inf.zero=some z/\z.cells.size=Flat.sz α:=by
  cases h:inf.zero with
  | none=>rw[h]at hzz;cases hzz
  | some z=>rw[h]at hzz;exact⟨z,rfl,by simpa using hzz⟩
 have h48:n*inf.bytes<=281474976710656:=by
  have:=Nat.mul_le_mul hn2 (show inf.bytes<=8192 by omega)
  omega
 have hr:=Lib.run_append_nil_zeros (P:=P) w T tx R E inf z k0 kn hu hk hi hz n hn (by omega) (by omega) h48
 have SX:=grownCap_ge w n 0 E
 refine⟨_,_,hr,k _ _ _ (by omega) ?_⟩
 refine hs.drew.new (F:=(· = w.heap.size)) (Ext.alloc _ _) (.inr ⟨_,_,(Builtin.zeroCells z.cells n++Builtin.zeroCells z.cells (grownCap w n 0 E-n)).toList,rfl,?_,?_,λ _=>Iff.rfl⟩) λ b hb=>Nat.le_of_eq hb.symm
 ·exact⟨E,by rw[show flat ([]:List α)=[]from rfl,List.nil_append,Array.toArray_toList];exact ni _ _⟩
 refine⟨Nat.zero_le _,Nat.le_of_eq (Eq.symm ?_)⟩
 show([]++_).length=_
 rw[List.nil_append,Array.length_toList,Array.size_append,size_zeroCells,size_zeroCells,hzc,<- Nat.add_mul]
 congr 1;omega
theorem LM{T E sz kS R n c:Nat}{z:Option Nat}{a:Option Addr}{K:Value->Prop}(ht:eK P T=some (E,sz,kS,z))(k:K (.int .i64 (c:Int))):eN P (Builtin.cap_ #[T] R [Value.slice a n c].toArray) K:=by
 obtain⟨hu,_⟩:=fp ht
 refine⟨_,?_,k⟩
 unfold Builtin.cap_
 simp[cX,cZ hu]
 rfl
theorem LN{T E sz kS n c:Nat}{z:Option Nat}{a:Option Addr}{K:Value->Prop}(ht:eK P T=some (E,sz,kS,z))(ha:a.map (·.add (0*sz))=a)(k:K (.slice a 0 c)):eN P (Instr.sliceAt T (.slice a n c) none (some (.int .i64 0)) none) K:=by
 refine⟨_,v9 ht (n7 (.inl ⟨rfl,rfl⟩) (.inr ⟨0,rfl,Int.le_refl _,rfl⟩) (Nat.le_refl _) (Nat.zero_le _)),?_⟩
 grind
end
end Go.Fw
namespace Go.Proofs.YtpdlpabnlkofmaaGreatDoor
open Go.Fw
theorem wP{α:Type}{ls:List (List α)}{k:Nat}{l:List α}(h:ls[k]?=some l):(ls.take (k+1)).flatten=(ls.take k).flatten++l:=by
 rw[<- gz h];simp
theorem IP{α:Type}(ls:List (List α))(k:Nat):(ls.take k).flatten.length<=ls.flatten.length:=by
 conv=>rhs;rw[<- List.take_append_drop k ls,List.flatten_append,List.length_append]
 omega
theorem af8{α:Type}[Flat α](w:World):dC (λ _=>True) w (.slice none 0 0) ([]:List α):=⟨none,0,rfl,Nat.zero_le _,.inl ⟨rfl,rfl⟩⟩
theorem C250(n:Nat)(w:World)(hn:n<=1048576):CR 250 [.slice none 0 0,.int .i64 (n:Int)] w (λ v w'=>lL (bG v ([]:List cE)) w w'):=by
 have hs:=St.start w;refine eS Tryz.func250 ?_;refine⟨λ w'=>w'=w,aQ (aC (λ c=>absurd c (by omega)) (λ _=>rfl)),?_⟩;rintro w1 hw _;subst hw;refine⟨λ jv w'=>St w1 aY [bG jv ([]:List cE)] w',?_,?_⟩
 ·refine LM fq (aI fq (af8 (α:=cE) w1) (fe (by simp) (fe (by simp;omega) (cP (aC (λ c=>?_) (λ _=>hs.eJ))))));refine LM fq (LN fq rfl ?_);have e:(n:Int)-(((0:Nat):Int)-(([]:List cE).length:Int))=(n:Int):=by simp
  rw[e]at c |-;exact LL (α:=cE) (kn:=.i64) hs fq (by kernel_rfl) (by decide) n (by omega) hn (by decide) (λ _ _ _ _ hs=>aI fq (af8 (α:=cE) w1) (LN fq (by simp[Addr.add]) hs))
 rintro v _ hs _;exact hs.fresh
theorem C191(lv:Value)(OZ:List (List cE))(w:World)(hL:aup w lv OZ)(hn:OZ.length<=1000)(hf:OZ.flatten.length<=100000):CR 191 [lv] w (λ v w'=>lL (bG v OZ.flatten) w w'):=by
 obtain⟨ss,hR,hl,hx⟩:=hL;have hs:=St.start w;refine eS Tryz.func191 ?_;refine aI Ky (hR.ext hs.aF) ?_;refine⟨λ m y x w1=>∃k:Nat,y=.int .i64 ((OZ.take k).flatten.length:Int)/\x=.int .i64 (k:Int)/\m=ss.length-k/\k<=ss.length/\St w aY [] w1,⟨_,0,rfl,rfl,rfl,Nat.zero_le _,hs⟩,?_⟩;rintro m _ _ w1 ⟨k,rfl,rfl,rfl,hk,hs⟩ _;refine aQ (aC (λ c=>?_) (λ c=>?_))
 ·obtain⟨s,XP⟩:=gx ss (i:=((k:Int)).toNat) (by omega);obtain⟨t,GV⟩:=gx OZ (i:=k) (by omega);have iL:=hx k s t XP GV;have hfk:=IP OZ (k+1);have hsu:=wP GV;rw[hsu,List.length_append]at hfk;refine⟨λ jv w'=>jv=.int .i64 ((OZ.take (k+1)).flatten.length:Int)/\St w aY [] w',aO Ky hR (by omega) XP (λ _ hq=>aE ij (hq.ext hs.aF) (aI fq (iL.ext hs.aF) (aK (by omega) (aQ (aC (λ c=>absurd c (by omega)) (λ _=>⟨congrArg (Value.int .i64) (by rw[hsu,List.length_append];omega),hs⟩)))))),?_⟩;rintro _ _ ⟨rfl,hs⟩ _;exact aK (by omega) ⟨_,by omega,k+1,rfl,rfl,rfl,by omega,hs⟩
 have vF:OZ.take k=OZ:=List.take_of_length_le (by omega);rw[vF];refine ek apo hs (C250 _ _ (by omega)) (λ x24 _ cO hs=>aI Ky (hR.ext hs.aF) ?_);refine⟨λ m v x w1=>∃k:Nat,x=.int .i64 (k:Int)/\m=ss.length-k/\k<=ss.length/\St w aY [bG v ((OZ.take k).flatten)] w1,⟨_,0,rfl,rfl,Nat.zero_le _,hs⟩,?_⟩;rintro m v _ _ ⟨k,rfl,rfl,hk,hs⟩ _;refine aQ (aC (λ c=>?_) (λ c=>?_))
 ·obtain⟨s,XP⟩:=gx ss (i:=((k:Int)).toNat) (by omega);obtain⟨t,GV⟩:=gx OZ (i:=k) (by omega);have iL:=hx k s t XP GV;have hfk:=IP OZ (k+1);have hsu:=wP GV;rw[hsu,List.length_append]at hfk;exact aO Ky hR (by omega) XP (λ _ hq=>aE ij (hq.ext hs.aF) (bI hs fq (iL.ext hs.aF) (by omega) (by decide) (λ _ _ hs=>aK (by omega) ⟨_,by omega,k+1,rfl,rfl,by omega,by rw[hsu];exact hs⟩)))
 rw[show OZ.take k=OZ from List.take_of_length_le (by omega)]at hs;exact hs.fresh
theorem ais{w:World}{a b:SV}{x y:List cE}(h1:dC (λ _=>True) w (Flat.val a) x)(h2:dC (λ _=>True) w (Flat.val b) y):∀(i:Nat) (s:SV) (t:List cE),[a,b][i]?=some s->[x,y][i]?=some t->dC (λ _=>True) w (Flat.val s) t:=by
 grind
theorem C110(p:cG)(pv:bO)(vf yo:List cE)(w:World)(hp:Deep.dr w pv p)(h3:dC (λ _=>True) w (Flat.val pv.threads) vf)(h4:dC (λ _=>True) w (Flat.val pv.recover) yo)(hz3:vf.length<=500)(hz4:yo.length<=500):CR 110 [Flat.val pv] w (λ v w'=>lL (bG v (vf++yo)) w w'):=by
 obtain⟨bJ,bT,bK,aU,aV,bE,rfl,cR,dA,cW,cB,cC,cQ⟩:=hp;have hs:=St.start w;refine eS Tryz.func110 ?_;refine cI hs (λ j5 _ hs=>aA kj (aB ij hs.hb rfl (aA oA (aB ij hs.hb rfl (aX ([aU,aV]) hs Ky rfl rfl (dI rfl) (λ acJ _ hs=>ek apn hs (C191 _ [vf,yo] _ ⟨_,(hs).dX,rfl,ais (h3.ext hs.aF) (h4.ext hs.aF)⟩ (by simp) (by simp;omega)) (λ x8 _ cO hs=>?_)))))));have wQ:=hs.p1.drop.p1.drop;rw[show [vf,yo].flatten=vf++yo from by simp]at wQ;exact wQ.fresh
theorem ait(p:cG):(decide (4<(p.lines.length:Int))||p.lines.any (λ l=>decide (4<(l.length:Int)))||decide (4<(p.iI.length:Int))||decide (2<(p.eG.length:Int))||decide ((p.threads.length:Int)=0)||decide (3<(p.threads.length:Int))||(gd p).any (λ t=>decide (4<(t.dL.length:Int)))||decide (4<(p.dP.length:Int)))=uD p:=by
 unfold uD
 grind
theorem RH{p:cG}(h:∀l∈p.lines,l.length<=500)(hl:p.lines.length<=500)(k:Nat):(p.lines.take k).flatten.length<=250000:=by
 have h1:=IP p.lines k
 have h2:=cY h
 omega
theorem C159(sv:Value)(ns:List ByteArray)(s:ByteArray)(w:World)(hL:dC (λ _=>True) w sv ns)(hn:ns.length<=1048576):CR 159 [sv,.string s] w (λ v w'=>v=.int .i64 (cU ns s)/\Ext w w'):=by
 have hs:=St.start w;refine eS Tryz.func159 ?_;exact aT WC hs (C225 _ _ _ _ (hL.ext hs.aF) (by omega)) (λ _ _ hs=>⟨rfl,hs.aF⟩)
theorem C54(p:cG)(pv:bO)(w:World)(hp:Deep.dr w pv p)(hz:PZ p):CR 54 [Flat.val pv] w (λ v w'=>v=.int .i64 (eu p)/\Ext w w'):=by
 obtain⟨bJ,bT,bK,aU,aV,bE,rfl,cR,dA,cW,cB,cC,cQ⟩:=hp;have hs:=St.start w;refine eS Tryz.func54 ?_;refine cI hs (λ j5 w1 hs=>aA gk (aB oz hs.hb rfl ?_));obtain⟨av4,apq,apr⟩:=(cR).open;have hn15:=apr.1;refine aI pj (apq.ext hs.aF) ?_;refine⟨λ m y x w1=>∃k:Nat,y=.int .i64 (((p.lines.take k).flatten.length:Nat):Int)/\x=.int .i64 (k:Int)/\m=p.lines.length-k/\k<=p.lines.length/\St w aY [bY j5 (Flat.enc (⟨bJ,bT,bK,aU,aV,bE⟩:bO))] w1,⟨_,0,rfl,rfl,rfl,by omega,hs⟩,?_⟩
 rintro m _ _ _ ⟨k,rfl,rfl,rfl,hk,hs⟩ _;have XP:=RH hz.line hz.lines k;have av5:=RH hz.line hz.lines (k+1);have hzl:=hz.lines;refine aQ (aC (λ gL=>?_) (λ gL=>?_))
 ·obtain⟨GJ,wF⟩:=gx av4 (i:=((k:Int)).toNat) (by omega);obtain⟨aps,yN⟩:=gx ((p).lines) (i:=((k:Int)).toNat) (by omega);have apt:DL w (Flat.val GJ) aps:=apr.2 _ _ _ wF yN;refine aO pj apq (by omega) wF (λ _ Ec=>?_);have hfs:=wP (k:=k) yN;rw[hfs,List.length_append]at av5;refine aE jC (Ec.ext hs.aF) ?_;have ahK:=DL.flat (apt);exact aI g8 (ahK.ext hs.aF) (aK (by omega) (aK (by omega) ⟨_,by omega,k+1,congrArg (Value.int .i64) (by rw[wP (k:=k) yN,List.length_append];omega),rfl,rfl,by omega,hs⟩))
 rw[List.take_of_length_le (by omega)];exact⟨rfl,hs.drop.aF⟩
theorem C51(p:cG)(pv:bO)(w:World)(hp:Deep.dr w pv p)(hz:PZ p):CR 51 [Flat.val pv] w (λ v w'=>lL (bG v (cL p)) w w'):=by
 obtain⟨bJ,bT,bK,aU,aV,bE,rfl,cR,dA,cW,cB,cC,cQ⟩:=hp;have hs:=St.start w;refine eS Tryz.func51 ?_;refine cI hs (λ j5 w1 hs=>aA nI (aB jC hs.hb rfl ?_));have apu:=DL.flat (cW);refine aI g8 (apu.ext hs.aF) ?_;refine⟨λ m y x w1=>∃k:Nat,x=.int .i64 (k:Int)/\m=p.eG.length-k/\k<=p.eG.length/\St w aY [bG y ((p.eG.take k).map cJ.name),bY j5 (Flat.enc (⟨bJ,bT,bK,aU,aV,bE⟩:bO))] w1,⟨_,0,rfl,rfl,by omega,hs.eJ (α:=ByteArray)⟩,?_⟩;rintro m m9 _ _ ⟨k,rfl,rfl,hk,hs⟩ _
 have B8:((p.eG.take k).map cJ.name).length=k:=by rw[List.length_map,List.length_take];omega
 have hzk:=hz.eG;refine aQ (aC (λ gL=>?_) (λ gL=>?_))
 ·obtain⟨GJ,wF⟩:=gx ((p).eG) (i:=((k:Int)).toNat) (by omega);refine aO g8 apu (by omega) wF (λ _ Ec=>aE lP (Ec.ext hs.aF) (aM hs oE (λ avr _ hs=>aJ (x:=GJ) hs lP rfl rfl (λ _ hs=>aA kz (aB (v:=.string ((GJ).name)) gj hs.hb rfl (aX ([GJ.name]) hs ik rfl rfl (dI rfl) (λ s_x16 _ hs=>?_)))))));have D5:=(hs).dX;exact bI hs.p2 ik D5 (by simp<;>omega) (by decide) (λ _ _ hs=>have hs:=hs.p1.drop;aK (by omega) (have hs:=(hs.p1.drop.p1).p1;⟨_,by omega,k+1,rfl,rfl,by omega,by rw[<- fW (k:=k) wF];exact hs⟩))
 have hs:=hs.p1.drop;rw[List.take_of_length_le (by omega)]at hs;exact hs.fresh
theorem C189(lv:Value)(xs:List cJ)(w:World)(hL:dC (λ _=>True) w lv xs)(hn:xs.length<=1048576):CR 189 [lv] w (λ v w'=>v=.bool (decide (4<(xs.length:Int)))/\Ext w w'):=by
 have hs:=St.start w;refine eS Tryz.func189 ?_;exact aI g8 (hL.ext hs.aF) (cP ⟨rfl,hs.aF⟩)
theorem C190(t:cN)(tv:cE)(w:World)(ht:Deep.dr w tv t)(hz:t.dL.length<=500):CR 190 [Flat.val tv] w (λ v w'=>v=.bool (decide (4<(t.dL.length:Int)))/\Ext w w'):=by
 obtain⟨lD,lE,rfl,nF,r8⟩:=ht;have hs:=St.start w;refine eS Tryz.func190 ?_;refine cI hs (λ Tz _ hs=>aA fN (aB iZ hs.hb rfl ?_));have ahM:=DL.flat (nF);exact aI ik (ahM.ext hs.aF) (cP ⟨rfl,hs.drop.aF⟩)
theorem C109(p:cG)(pv:bO)(w:World)(hp:Deep.dr w pv p)(hz:PZ p):CR 109 [Flat.val pv] w (λ v w'=>v=.bool (uD p)/\Ext w w'):=by
 obtain⟨bJ,bT,bK,aU,aV,bE,rfl,cR,dA,cW,cB,cC,cQ⟩:=hp;have hs:=St.start w;refine acY _ _ _ ?_;unfold S109;refine cI hs (λ j5 w1 hs=>?_);have Tb:=hz.lines;have hz2:=hz.iI;have hz3:=hz.eG;have hz4:=hz.threads;have hz5:=hz.dP;obtain⟨vf,XM,XN⟩:=(cB).open;obtain⟨yo,OT,hD4⟩:=(cC).open;have hn3:=XN.1;have hn4:=hD4.1;have ah5:=C0 hz.toPS;refine aA kj (aB ij hs.hb rfl ?_);obtain⟨ts19,av6,av7⟩:=(cB).open;have hn19:=av7.1;refine aI fq (av6.ext hs.aF) ⟨λ jv w'=>jv=.bool (decide (4<(p.lines.length:Int))||p.lines.any (λ l=>decide (4<(l.length:Int)))||decide (4<(p.iI.length:Int))||decide (2<(p.eG.length:Int))||decide ((p.threads.length:Int)=0)||decide (3<(p.threads.length:Int))||(gd p).any (λ t=>decide (4<(t.dL.length:Int)))||decide (4<(p.dP.length:Int)))/\St w aY [bY j5 (Flat.enc (⟨bJ,bT,bK,aU,aV,bE⟩:bO))] w',?_,?_⟩
 ·refine aA gk (aB oz hs.hb rfl ?_);obtain⟨aop,Tu,acF⟩:=(cR).open;have auS:=acF.1;refine aI pj (Tu.ext hs.aF) (cP (aC (λ _=>⟨vb (by grind),hs⟩) (λ mR=>aA gk (aB oz hs.hb rfl (aT afR hs (C186 _ _ _ (λ l=>l.length<=1048576) _ _ (cR.ext hs.aF) ⟨189,[],[],rfl,apl,λ _ y w1 _ hd hp=>C189 _ y w1 (DL.flat hd) hp⟩ (λ l hl=>by have:=hz.line l hl;omega) (by have:=hz.lines;omega)) (λ _ he hs=>aW (λ _=>⟨vb (by grind),hs⟩) (λ jY=>aA pK (aB jC hs.hb rfl ?_))))))));have acG:=DL.flat (dA);refine aI g8 (acG.ext hs.aF) (cP (aC (λ _=>⟨vb (by grind),hs⟩) (λ mS=>aA nI (aB jC hs.hb rfl ?_))))
  have av8:=DL.flat (cW);refine aI g8 (av8.ext hs.aF) (cP (aC (λ _=>⟨vb (by grind),hs⟩) (λ afZ=>aH (aC (λ _=>⟨vb (by grind),hs⟩) (λ yt=>cP (aC (λ _=>⟨vb (by grind),hs⟩) (λ oK=>aE ep hs.At (dN RG (C110 p _ vf yo _ ⟨bJ,bT,bK,aU,aV,bE,rfl,(cR.ext hs.aF),(dA.ext hs.aF),(cW.ext hs.aF),(cB.ext hs.aF),(cC.ext hs.aF),(cQ.ext hs.aF)⟩ (XM.ext hs.aF) (OT.ext hs.aF) (by have:=hz.threads;omega) (by have:=hz.recover;omega)) ?_))))))));rintro x41 _ cO;have hs:=hs.made cO;have aiu:DL _ _ (gd p):=DL.of (hs).dX ((XN.append hD4).ext hs.aF)
  refine aT W9 hs (C187 _ _ _ (λ t=>t.dL.length<=500) _ _ aiu ⟨190,[],[],rfl,apm,λ sv y w1 _ hd hp=>C190 y sv w1 hd hp⟩ (λ _ ht=>(hz.qE ht).2.1) (by omega)) (λ _ he hs=>aW (λ _=>have hs:=(hs).drop;⟨vb (by grind),hs⟩) (λ vy=>aA jn (aB qB hs.p1.hb rfl ?_)));obtain⟨ts23,av9,awa⟩:=(cQ).open;have hn23:=awa.1;exact aI sJ (av9.ext hs.aF) (cP (have hs:=(hs).drop;⟨vb (by grind),hs⟩))
 rintro _ _ ⟨rfl,hs⟩ _;exact⟨vb (ait p),hs.drop.aF⟩
theorem vh(x:bN)(a b r:Bk)(n:Int):mr (.cons x a b r) n=(decide (64<qP x n)||(mr a (qP x n)||mr b (qP x n))||mr r n):=rfl
theorem ac1{xs:List bN}{k:Nat}{x:bN}{a b r:Bk}(h:xs.drop k=(Bk.cons x a b r).flat)(iL:(Bk.cons x a b r).str){hi lo:Int}(h1:hi=k+1+x.body+x.eo)(h2:lo=k+1):(xs.take hi.toNat).drop lo.toNat=(a.app b).flat:=by
 have Xg:=iL
 obtain⟨g1,g2,_⟩:=Xg
 have e:=Bk.Cv iL (hi:=1+x.body+x.eo) (lo:=1) rfl rfl
 rw[<- e,<- h,List.take_drop,List.drop_drop]
 grind
theorem XQ{xs:List bN}{k:Nat}{x:bN}{a b r:Bk}(h:xs.drop k=(Bk.cons x a b r).flat)(iL:(Bk.cons x a b r).str):xs.drop (k+1+a.len+b.len)=r.flat:=by
 have Xg:=iL
 obtain⟨g1,g2,_⟩:=Xg
 rw[<- Bk.ahN iL (hi:=1+x.body+x.eo) rfl,<- h,List.drop_drop]
 grind
theorem XR{α:Type}{xs l:List α}{k:Nat}{x:α}(h:xs.drop k=x::l):xs[k]?=some x:=by
 have:=congrArg (λ l=>l[0]?) h
 grind
theorem C111(lv:Value)(t:Bk)(n:Int)(N:Nat)(w:World)(hL:DL w lv t.flat)(iL:t.str)(hq:∀x∈t.flat,0<=x.at_/\(x.kind=12->1<=x.n/\x.n<=8))(hn:1<=n/\n<=64)(hl:t.len<=1048576)(hN:t.len<N):CR 111 [lv,.int .i64 n] w (λ v w'=>∃a:Int,v=.tuple #[.int .i64 a,.bool (mr t n)]/\Ext w w'):=by
 have sS:=t.cY;have hs:=St.start w;refine acZ _ _ _ _ ?_;unfold S111;refine⟨λ m y w1=>∃(k:Nat) (u:Bk),y=.int .i64 (k:Int)/\m=t.len-k/\t.flat.drop k=u.flat/\k+u.len=t.len/\u.str/\(∀x∈u.flat,0<=x.at_/\(x.kind=12->1<=x.n/\x.n<=8))/\mr t n=mr u n/\St w aY [] w1,⟨_,0,t,rfl,rfl,rfl,by omega,iL,hq,rfl,hs⟩,?_⟩;rintro m _ w1 ⟨k,u,rfl,rfl,O0,hku,hsu,hqu,hwb,hs⟩ _;obtain⟨ahT,Lx,Ty⟩:=(hL).open;have auX:=Ty.1;refine aI fo (Lx.ext hs.aF) (aQ (aC (λ ji=>?_) (λ ji=>?_)))
 ·obtain⟨x,a,b,r,rfl⟩:=Bk.C1 (t:=u) (by rw[Bk.cY];omega);obtain⟨qM,iQ⟩:=gx ahT (i:=((k:Int)).toNat) (by omega);obtain⟨cK,Ed⟩:=gx (t.flat) (i:=((k:Int)).toNat) (by omega);obtain⟨pO,pP,rfl,ab0,ab1⟩:=Ty.2 _ _ _ iQ Ed;refine aO fo Lx (by omega) iQ (λ _ uu=>?_);obtain rfl:cK=x:=Option.some.inj (Ed.symm.trans (XR O0));have hqx:=hqu cK (by simp[Bk.flat]);have awc:=hsu;obtain⟨A6,IG,Tw,hg4,hga,hgb,hgr⟩:=awc;have FY:k+(a.len+b.len+r.len+1)=t.len:=hku;have hla:=a.cY;have Nw:=b.cY;have hlr:=r.cY;have sR:=ac1 O0 hsu (hi:=(k:Int)+1+cK.body+cK.eo) (lo:=(k:Int)+1) rfl rfl
  have F0:=XQ O0 hsu;refine aE eI (uu.ext hs.aF) (aM hs jq (λ wG _ hs=>have hs:=hs.enc (cs':=Flat.enc (⟨0,(ByteArray.mk #[]),(ByteArray.mk #[]),cH,cH,0,0,0,0⟩:aZ)) rfl;aJ (x:=(⟨(cK).kind,(cK).eC,(cK).name,pO,pP,(cK).n,(cK).body,(cK).eo,(cK).at_⟩:aZ)) hs eI rfl rfl (λ _ hs=>aK (by omega) (aA iO (aB (v:=.int .i64 ((cK).body)) bL hs.hb rfl (aK (by omega) (aA iw (aB (v:=.int .i64 ((cK).eo)) bL hs.hb rfl (aK (by omega) ⟨λ jv w'=>∃m:Int,jv=.int .i64 m/\m=qP cK n/\St w aY [bY wG (Flat.enc (⟨(cK).kind,(cK).eC,(cK).name,pO,pP,(cK).n,(cK).body,(cK).eo,(cK).at_⟩:aZ))] w',aA dJ (aB (v:=.int .i64 ((cK).kind)) bL hs.hb rfl (aH (aC (λ lT=>aA jG (aB (v:=.int .i64 ((cK).n)) bL hs.hb rfl (H6 (by have Tx:=hqx.2 lT;have h1:=Int.mul_le_mul (a:=1) (b:=1) hn.1 Tx.1 (by omega) (by omega);have h2:=Int.mul_le_mul (c:=64) (d:=8) hn.2 Tx.2 (by omega) (by omega);omega) ⟨_,rfl,by grind[qP],hs⟩))) (λ _=>⟨_,rfl,by grind[qP],hs⟩)))),?_⟩)))))))))
  rintro _ _ ⟨m,rfl,hm,hs⟩ _;have hm8:=Xd hn hqx.2 hm;refine cP (aC (λ oK=>?_) (λ oK=>?_))
  ·refine aA lq (aB (v:=.int .i64 ((cK).at_)) bL hs.hb rfl ?_);refine⟨cK.at_,?_,hs.drop.aF⟩;rw[hwb,vh,<- hm,decide_eq_true (show(64:Int)<m by omega)];rfl
  refine aK (by omega) (od fo (Lx.ext hs.aF) (by omega) (by omega) (by omega) (λ apv O1=>?_));have IQ:=DL.cut O1 Lx Ty;refine dN af7 (C111 _ (a.app b) m (N-1) _ (by have h:=(IQ.ext hs.aF);rw[sR]at h;exact h) (Bk.Rm hga hgb) (λ y hy=>hqu y (by rw[Bk.Av]at hy;simp only[Bk.flat,List.mem_cons,List.mem_append];rcases List.mem_append.1 hy with h|h<;>simp[h])) (by omega) (by rw[C2];omega) (by rw[C2];omega)) ?_;rintro _ _ ⟨a1,rfl,he⟩;have hs:=hs.ext he;rw[GR];refine aN rfl (aN rfl (aW (λ rR=>?_) (λ rR=>⟨_,by omega,k+1+a.len+b.len,r,congrArg (Value.int .i64) (by omega),rfl,F0,by omega,hgr,(λ y hy=>hqu y (by simp[Bk.flat,hy])),by rw[hwb,vh,<- hm,decide_eq_false (show ¬ (64:Int)<m by omega),rR];rfl,hs.drop⟩)))
  refine⟨a1,?_,hs.drop.aF⟩;rw[hwb,vh,<- hm,rR];simp
 cases u with
 | nil=>exact⟨_,by rw[hwb];rfl,hs.aF⟩
 | cons x a b r=>exact absurd hku (by show ¬ k+(a.len+b.len+r.len+1)=_;omega)
termination_by N
decreasing_by all_goals omega
def O2:Int->List (List cJ)->List (cJ×Int)
 | _,[]=>[]
 | k,l::r=>l.map (λ c=>(c,k))++O2 (k+1) r
def Ny:Int->List cJ->List (cJ×Int)
 | _,[]=>[]
 | k,c::r=>(c,k)::Ny (k+1) r
def tL(p:cG):List (cJ×Int):=O2 0 p.lines++Ny p.lines.length p.iI
theorem IS:∀(ls:List (List cJ)) (k:Int),(O2 k ls).length=ls.flatten.length
 | [],_=>rfl
 | l::r,k=>by simp[O2,IS r]
theorem ac2:∀(vs:List cJ) (k:Int),(Ny k vs).length=vs.length
 | [],_=>rfl
 | c::r,k=>by simp[Ny,ac2 r]
theorem IT:∀(ls:List (List cJ)) (k:Int),(O2 k ls).map Prod.fst=ls.flatten
 | [],_=>rfl
 | l::r,k=>by simp[O2,IT r,Function.comp_def]
theorem IU:∀(vs:List cJ) (k:Int),(Ny k vs).map Prod.fst=vs
 | [],_=>rfl
 | c::r,k=>by simp[Ny,IU r]
theorem XS{l:List cJ}{c:cJ}{j:Nat}(hj:l[j]?=some c):∀(ls:List (List cJ)) (k:Int) (i:Nat),ls[i]?=some l->(O2 k ls)[(ls.take i).flatten.length+j]?=some (c,k+i)
 | [],_,_,h=>by simp at h
 | a::r,k,0,h=>by
  grind[O2]
 | a::r,k,i+1,h=>by
  have ih:=XS hj r (k+1) i (by grind)
  grind[O2]
theorem XT:∀(vs:List cJ) (k:Int) (j:Nat) (c:cJ),vs[j]?=some c->(Ny k vs)[j]?=some (c,k+j)
 | [],_,_,_,h=>by simp at h
 | a::r,k,0,c,h=>by simp at h;subst h;simp[Ny]
 | a::r,k,j+1,c,h=>by
  have ih:=XT r (k+1) j c (by grind)
  grind[Ny]
theorem AF(p:cG):(tL p).map Prod.fst=g9 p:=by unfold tL g9;rw[List.map_append,IT,IU]
theorem uF(p:cG):(tL p).length=(g9 p).length:=by rw[<- AF,List.length_map]
theorem TA{p:cG}{l:List cJ}{c:cJ}{i j:Nat}(hl:p.lines[i]?=some l)(hj:l[j]?=some c):(tL p)[(p.lines.take i).flatten.length+j]?=some (c,(i:Int)):=by
 have h:=XS hj p.lines 0 i hl
 unfold tL
 grind
theorem XU{p:cG}{c:cJ}{j:Nat}(hj:p.iI[j]?=some c):(tL p)[p.lines.flatten.length+j]?=some (c,(p.lines.length:Int)+j):=by
 unfold tL
 rw[List.getElem?_append_right (by rw[IS];omega),IS,Nat.add_sub_cancel_left,XT _ _ _ _ hj]
theorem C195(y:Value)(b:Nat)(g0 g1:SV)(p:cG)(J:Nat->World->Prop)(Jx:World->Prop)(w0 w:World)(hz:PS p)(hL:DL w0 (Flat.val g0) p.lines)(hV:dC (λ _=>True) w0 (Flat.val g1) p.iI)
  (hJ:∀k W,J k W->Cell W b 0 (Flat.val g0)/\Cell W b 1 (Flat.val g1)/\Ext w0 W) (XV:∀k W W',J k W->Ext W W'->J k W') (h0:J 0 w)
  (hy:∀k c i W,(tL p)[k]?=some (c,i)->J k W->kq Tryz.prog y [Flat.val c,.int .i64 i] W (λ v W'=>(v=.bool true/\J (k+1) W')\/(v=.bool false/\Jx W'))) :
  CR 195 [y,.pointer (some ⟨b,0,none⟩)] w (λ _ W=>J (tL p).length W\/Jx W):=by
 obtain⟨ts,hR,hD⟩:=hL.open;have hn:=hD.1;have hzl:=hz.lines;have hzv:=hz.iI;refine eS Tryz.func195 ?_;obtain⟨B6,uG,he0⟩:=hJ 0 w h0;refine aA gk (bM oz B6 (aI pj (hR.ext he0) ?_));refine⟨λ m x w1=>∃i:Nat,x=.int .i64 (i:Int)/\m=p.lines.length-i/\i<=p.lines.length/\J ((p.lines.take i).flatten.length) w1,⟨_,0,rfl,rfl,Nat.zero_le _,h0⟩,?_⟩;rintro m _ w1 ⟨i,rfl,rfl,hi,hj⟩ _;refine aQ (aC (λ c=>?_) (λ c=>?_))
 ·obtain⟨l,hl⟩:=gx p.lines (i:=i) (by omega);obtain⟨t,ht⟩:=gx ts (i:=((i:Nat):Int).toNat) (by omega);have hdt:DL w0 (Flat.val t) l:=hD.2 _ _ _ ht hl;have hrt:=DL.flat hdt;have Cy:=hz.line l (List.mem_of_getElem? hl);have e1:=(hJ _ _ hj).2.2;refine aO pj hR (by omega) ht (λ q hq=>aE jC (hq.ext e1) (aI g8 (hrt.ext e1) ?_));refine⟨λ m x w1=>∃j:Nat,x=.int .i64 (j:Int)/\m=l.length-j/\j<=l.length/\J ((p.lines.take i).flatten.length+j) w1,⟨_,0,rfl,rfl,Nat.zero_le _,hj⟩,?_⟩;rintro m _ w2 ⟨j,rfl,rfl,Dt,hj⟩ _;refine aQ (aC (λ c=>?_) (λ _=>aK (by omega) ⟨_,by omega,i+1,rfl,rfl,by omega,by rw[wP hl,List.length_append,show l.length=j from by omega];exact hj⟩))
  obtain⟨x,hx⟩:=gx l (i:=((j:Nat):Int).toNat) (by omega);have e2:=(hJ _ _ hj).2.2;have hs:=St.start w2;refine aO g8 hrt (by omega) hx (λ q hq=>aE lP (hq.ext e2) (aM hs oE (λ b6 _ hs=>aJ (x:=x) hs lP rfl rfl (λ w4 hs=>aE lP hs.At ?_))));refine kq.mono (hy _ x i w4 (TA hl hx) (XV _ _ _ hj hs.aF)) ?_;rintro v w5 (⟨rfl,BA⟩|⟨rfl,GW⟩)
  ·exact bQ (fm (aK (by omega) ⟨_,by omega,j+1,rfl,rfl,by omega,BA⟩))
  exact bQ (ig (.inr GW))
 rw[show p.lines.take i=p.lines from List.take_of_length_le (by omega)]at hj;obtain⟨B6,uG,e1⟩:=hJ _ _ hj;refine aA pK (bM jC uG (aI g8 (hV.ext e1) ?_));refine⟨λ m x w1=>∃j:Nat,x=.int .i64 (j:Int)/\m=p.iI.length-j/\j<=p.iI.length/\J (p.lines.flatten.length+j) w1,⟨_,0,rfl,rfl,Nat.zero_le _,hj⟩,?_⟩;rintro m _ w6 ⟨j,rfl,rfl,Dt,hj⟩ _;refine aQ (aC (λ c=>?_) (λ c=>?_))
 ·obtain⟨x,hx⟩:=gx p.iI (i:=((j:Nat):Int).toNat) (by omega);obtain⟨B6,uG,e2⟩:=hJ _ _ hj;have hs:=St.start w6;refine aO g8 hV (by omega) hx (λ q hq=>aE lP (hq.ext e2) (aM hs oE (λ b8 _ hs=>aJ (x:=x) hs lP rfl rfl (λ w8 hs=>aE lP hs.At (aA gk (bM oz (B6.ext hs.aF) (aI pj (hR.ext (e2.trans hs.aF)) (aK (by omega) ?_))))))));rw[hn];refine kq.mono (hy _ x _ w8 (XU hx) (XV _ _ _ hj hs.aF)) ?_;rintro v w9 (⟨rfl,BA⟩|⟨rfl,GW⟩)
  ·exact bQ (fm (aK (by omega) ⟨_,by omega,j+1,rfl,rfl,by omega,BA⟩))
  exact bQ (ig (.inr GW))
 refine .inl ?_;rw[uF]
 grind[g9]
theorem C115(pv:bO)(w:World):CR 115 [Flat.val pv] w (λ v w'=>∃b,v=.func (.func 195) [].toArray [.pointer (some ⟨b,0,none⟩)].toArray/\lL (bY b (Flat.enc pv)) w w'):=by
 have hs:=St.start w;refine eS Tryz.func115 ?_;exact cI hs (λ b _ hs=>⟨b,rfl,hs.fresh⟩)
theorem C50(p:cG)(pv:bO)(w:World)(hp:Deep.dr w pv p)(hz:PZ p):CR 50 [Flat.val pv] w (λ v w'=>lL (bG v (cT p)) w w'):=by
 have hac:=kG hz.toPS;have o7:(tL p).length=(g9 p).length:=uF p;obtain⟨bJ,bT,bK,aU,aV,bE,rfl,cR,dA,cW,cB,cC,cQ⟩:=hp;have hs:=St.start w;refine eS Tryz.func50 ?_;refine cI hs (λ bp _ hs=>gO hs aha rfl (λ b3 _ hs=>aE ep hs.p1.At (dN RE (C115 _ _) ?_)));rintro _ _ ⟨b,rfl,cO⟩;have hs:=(hs.made cO).eJ (α:=ByteArray)
 refine wq (cap:=[.pointer (some ⟨b,0,none⟩)]) (xs:=(tL p).map λ q=>[Flat.val q.1,.int .i64 q.2]) RF hs
  (λ k M=>∃sv,M=[bG sv (((g9 p).take k).map cJ.name),bY b (Flat.enc (⟨bJ,bT,bK,aU,aV,bE⟩:bO)),bY b3 [sv],bY bp (Flat.enc (⟨bJ,bT,bK,aU,aV,bE⟩:bO))]) (λ _ _=>False) ⟨_,rfl⟩ (by intro x hx;obtain⟨q,_,rfl⟩:=List.mem_map.1 hx;rfl) ?_ ?_ ?_ ?_ ?_ ?_
 ·intro y J Jx W hJ XV S4 hy;refine(C195 y b bJ bT p J Jx w W hz.toPS cR (DL.flat dA) (λ k W hk=>?_) XV S4 (λ k c i W hx hk=>hy k [Flat.val c,.int .i64 i] W (by rw[List.getElem?_map,hx];rfl) hk)).mono λ _ _ r=>r.mono λ v W' h=>?_
  ·obtain⟨Y,M,⟨sv,rfl⟩,hS⟩:=hJ k W hk;exact⟨hS.p2.hb.cell rfl,hS.p2.hb.cell rfl,hS.aF⟩
  simpa using h
 ·rintro k args Y1 Y2 B Kr M W hk ⟨sv,rfl⟩ hB hN hR hs;rw[List.getElem?_map]at hk;obtain⟨q,hq,rfl⟩:=Option.map_eq_some_iff.1 hk;have nH:=(List.getElem?_eq_some_iff.1 hq).1;have hc:(g9 p)[k]?=some q.1:=by rw[<- AF,List.getElem?_map,hq];rfl
  have B8:(((g9 p).take k).map cJ.name).length=k:=by rw[List.length_map,List.length_take];omega
  dsimp only[Du];refine aM hs oE (λ b4 _ hs=>aJ (x:=q.1) hs lP rfl rfl (λ _ hs=>?_));refine hB _ _ _ hs.p1 (λ _ hs=>?_);refine aB iZ hs.p4.hb rfl (aA kz (aB (v:=.string q.1.name) gj hs.p1.hb rfl (aX ([cJ.name q.1]) hs ik rfl rfl (dI rfl) (λ s8 _ hs=>?_))));have hr:=(hs).dX;refine bI hs.p3 ik hr (by rw[B8,List.length_singleton];omega) (by decide) (λ s9 _ hs=>aS hs.p5 iZ (dI rfl) (IE (hs).dX) (λ _ hs=>?_));refine hN _ _ ?_ ⟨s9,rfl⟩;rw[<- fW (k:=k) hc];exact(((hs.p2.drop.p3.drop).p3).p2).p3
 ·rintro D M W ⟨sv,rfl⟩ hs;refine aB iZ hs.p3.hb rfl ?_;refine DN hs (λ _ hs=>?_);rw[List.length_map,o7,List.take_length]at hs;exact(hs.p1.drop.p1.drop.p1.drop).fresh
 ·rintro D M W h;exact h.elim
 ·rintro id D M W h;exact h.elim
 rintro c M h;exact h.elim
theorem C55(p:cG)(pv:bO)(w:World)(hp:Deep.dr w pv p)(hz:PZ p):CR 55 [Flat.val pv] w (λ v w'=>lL (bG v (eX p)) w w'):=by
 have hac:=kG hz.toPS;have o7:(tL p).length=(g9 p).length:=uF p;obtain⟨bJ,bT,bK,aU,aV,bE,rfl,cR,dA,cW,cB,cC,cQ⟩:=hp;have hs:=St.start w;refine eS Tryz.func55 ?_;refine cI hs (λ bp _ hs=>gO hs ag9 rfl (λ b3 _ hs=>aE ep hs.p1.At (dN RE (C115 _ _) ?_)));rintro _ _ ⟨b,rfl,cO⟩;have hs:=(hs.made cO).eJ (α:=Int)
 refine wq (cap:=[.pointer (some ⟨b,0,none⟩)]) (xs:=(tL p).map λ q=>[Flat.val q.1,.int .i64 q.2]) RF hs
  (λ k M=>∃sv,M=[bG sv (((g9 p).take k).map cJ.n),bY b (Flat.enc (⟨bJ,bT,bK,aU,aV,bE⟩:bO)),bY b3 [sv],bY bp (Flat.enc (⟨bJ,bT,bK,aU,aV,bE⟩:bO))]) (λ _ _=>False) ⟨_,rfl⟩ (by intro x hx;obtain⟨q,_,rfl⟩:=List.mem_map.1 hx;rfl) ?_ ?_ ?_ ?_ ?_ ?_
 ·intro y J Jx W hJ XV S4 hy;refine(C195 y b bJ bT p J Jx w W hz.toPS cR (DL.flat dA) (λ k W hk=>?_) XV S4 (λ k c i W hx hk=>hy k [Flat.val c,.int .i64 i] W (by rw[List.getElem?_map,hx];rfl) hk)).mono λ _ _ r=>r.mono λ v W' h=>?_
  ·obtain⟨Y,M,⟨sv,rfl⟩,hS⟩:=hJ k W hk;exact⟨hS.p2.hb.cell rfl,hS.p2.hb.cell rfl,hS.aF⟩
  simpa using h
 ·rintro k args Y1 Y2 B Kr M W hk ⟨sv,rfl⟩ hB hN hR hs;rw[List.getElem?_map]at hk;obtain⟨q,hq,rfl⟩:=Option.map_eq_some_iff.1 hk;have nH:=(List.getElem?_eq_some_iff.1 hq).1;have hc:(g9 p)[k]?=some q.1:=by rw[<- AF,List.getElem?_map,hq];rfl
  have B8:(((g9 p).take k).map cJ.n).length=k:=by rw[List.length_map,List.length_take];omega
  dsimp only[Du];refine aM hs oE (λ b4 _ hs=>aJ (x:=q.1) hs lP rfl rfl (λ _ hs=>?_));refine hB _ _ _ hs.p1 (λ _ hs=>?_);refine aB eg hs.p4.hb rfl (aA rJ (aB (v:=.int .i64 q.1.n) bL hs.p1.hb rfl (aX ([cJ.n q.1]) hs cM rfl rfl (dI rfl) (λ s8 _ hs=>?_))));have hr:=(hs).dX;refine bI hs.p3 cM hr (by rw[B8,List.length_singleton];omega) (by decide) (λ s9 _ hs=>aS hs.p5 eg (dI rfl) (IE (hs).dX) (λ _ hs=>?_));refine hN _ _ ?_ ⟨s9,rfl⟩;rw[<- fW (k:=k) hc];exact(((hs.p2.drop.p3.drop).p3).p2).p3
 ·rintro D M W ⟨sv,rfl⟩ hs;refine aB eg hs.p3.hb rfl ?_;refine DN hs (λ _ hs=>?_);rw[List.length_map,o7,List.take_length]at hs;exact(hs.p1.drop.p1.drop.p1.drop).fresh
 ·rintro D M W h;exact h.elim
 ·rintro id D M W h;exact h.elim
 rintro c M h;exact h.elim
theorem RI:∀(vs:List cJ) (k:Int) (j:Nat) (q:cJ×Int),(Ny k vs)[j]?=some q->q.2=k+j
 | [],_,_,_,h=>by simp[Ny]at h
 | c::r,k,0,q,h=>by simp[Ny]at h;grind
 | c::r,k,j+1,q,h=>by
  have:=RI r (k+1) j q (by simpa[Ny]using h)
  omega
theorem LO(vs:List cJ):∀(ls:List (List cJ)) (i:Int) (a:Nat) (q:cJ×Int),(O2 i ls++Ny (i+ls.length) vs)[a]?=some q->jk ls i a=q.2
 | [],i,a,q,h=>by
  have:=RI vs (i+0) a q (by simpa[O2]using h)
  unfold jk;omega
 | l::r,i,a,q,h=>by
  unfold jk
  by_cases nH:a<l.length
  ·rw[if_pos (by omega)]
   rw[O2,List.append_assoc,List.getElem?_append_left (by grind),List.getElem?_map]at h
   grind
  ·rw[if_neg (by omega)]
   rw[O2,List.append_assoc,List.getElem?_append_right (by simp;omega),List.length_map]at h
   have e:(i+((l::r).length:Nat):Int)=i+1+(r.length:Nat):=by grind
   rw[e]at h
   have:=LO vs r (i+1) (a-l.length) q h
   grind
theorem XW{p:cG}{k:Nat}{q:cJ×Int}(h:(tL p)[k]?=some q):o9 p k=q.2:=by
 have nH:=(List.getElem?_eq_some_iff.1 h).1
 rw[uF]at nH
 unfold o9
 rw[if_neg (by omega)]
 exact LO p.iI p.lines 0 k q (by unfold tL at h;grind)
theorem C52(p:cG)(pv:bO)(c:Int)(w:World)(hp:Deep.dr w pv p)(hz:PZ p):CR 52 [Flat.val pv,.int .i64 c] w (λ v w'=>v=.int .i64 (o9 p c)/\Ext w w'):=by
 have hac:=kG hz.toPS;have o7:(tL p).length=(g9 p).length:=uF p;obtain⟨bJ,bT,bK,aU,aV,bE,rfl,cR,dA,cW,cB,cC,cQ⟩:=hp;have hs:=St.start w;refine eS Tryz.func52 ?_;refine cI hs (λ bp _ hs=>nj hs rfl (λ b3 _ hs=>gO hs ud rfl (λ b4 _ hs=>gO hs ud rfl (λ b5 _ hs=>aS hs bL (dI rfl) rfl (λ _ hs=>aE ep hs.p3.At (dN RE (C115 _ _) ?_))))));rintro _ _ ⟨b,rfl,cO⟩;have hs:=hs.made cO
 refine wq (cap:=[.pointer (some ⟨b,0,none⟩)]) (xs:=(tL p).map λ q=>[Flat.val q.1,.int .i64 q.2]) RF hs
  (λ k M=>(∀j:Nat,j<k->¬ (j:Int)=c)/\M=[bY b (Flat.enc (⟨bJ,bT,bK,aU,aV,bE⟩:bO)),bY b5 [.int .i64 (k:Int)],bY b4 [.int .i64 0],bY b3 [.int .i64 c],bY bp (Flat.enc (⟨bJ,bT,bK,aU,aV,bE⟩:bO))])
  (λ cd M=>cd=.ret/\M=[bY b4 [.int .i64 (o9 p c)]]) ⟨by omega,rfl⟩ (by intro x hx;obtain⟨q,_,rfl⟩:=List.mem_map.1 hx;rfl) ?_ ?_ ?_ ?_ ?_ ?_
 ·intro y J Jx W hJ XV S4 hy;refine(C195 y b bJ bT p J Jx w W hz.toPS cR (DL.flat dA) (λ k W hk=>?_) XV S4 (λ k c i W hx hk=>hy k [Flat.val c,.int .i64 i] W (by rw[List.getElem?_map,hx];rfl) hk)).mono λ _ _ r=>r.mono λ v W' h=>?_
  ·obtain⟨Y,M,⟨_,rfl⟩,hS⟩:=hJ k W hk;exact⟨hS.p1.hb.cell rfl,hS.p1.hb.cell rfl,hS.aF⟩
  simpa using h
 ·rintro k args Y1 Y2 B Kr M W hk ⟨eD,rfl⟩ hB hN hR hs;rw[List.getElem?_map]at hk;obtain⟨q,hq,rfl⟩:=Option.map_eq_some_iff.1 hk;have nH:=(List.getElem?_eq_some_iff.1 hq).1;dsimp only[Du];refine hB _ _ _ hs (λ _ hs=>?_);refine aB bL hs.p2.hb rfl (aB bL hs.p4.hb rfl (aH (aC (λ c1=>?_) (λ c1=>aB bL hs.p2.hb rfl (aK (by omega) (aS hs.p2 bL (dI rfl) rfl (λ _ hs=>hN _ _ ((hs.p2).p2.p0) ⟨λ j hj=>?_,rfl⟩)))))))
  ·refine aS hs.p3 bL (dI rfl) rfl (λ _ hs=>?_);refine hR _ [bY b4 [.int .i64 (o9 p c)]] _ ?_ ⟨rfl,rfl⟩;rw[<- c1,XW hq];exact(hs.p2.drop.p2.drop.p2.drop.p2.drop).p1
  rcases Nat.lt_or_ge j k with h|h
  ·exact eD j h
  rw[show j=k from by omega];exact c1
 ·rintro D M W ⟨eD,rfl⟩ hs;refine aS hs.p3 bL (dI rfl) rfl (λ _ hs=>?_);refine DN hs.p1 (λ _ hs=>?_);refine aB bL hs.hb rfl ?_;refine⟨congrArg (Value.int .i64) ?_,hs.aF⟩;unfold o9;rw[List.length_map]at eD
  rw[if_pos (by
   rcases Int.lt_or_le c 0 with h|h
   ·exact .inl h
   ·refine .inr ?_;have:=eD c.toNat;omega)]
 ·rintro D M W ⟨_,rfl⟩ hs;refine DN hs (λ _ hs=>?_);exact aB bL hs.hb rfl ⟨rfl,hs.aF⟩
 ·rintro id D M W ⟨h,_⟩;cases h
 rintro c M ⟨h,_⟩;exact .inr h
variable (w:World) (K:Value->World->Prop)
def awd:dD:=λ i=>match i with
 | 22=>.run 0 6
 | _=>.nil
theorem apw:PL 107:=dF Tryz.func107
theorem XX:PL 176:=dF Tryz.func176
end Go.Proofs.YtpdlpabnlkofmaaGreatDoor
namespace Go.Fw
open Go.MapKept (Stamped IsKey)
open Go.ChangeMaps (setBlock)
def zb(l:List SI)(k:ByteArray)(v:Int):List SI:=if l.any (λ p=>decide (p.1=k))then l.map (λ p=>if p.1=k then(k,v)else p)else l++[(k,v)]
theorem GX:∀(l:List SI) (k k':ByteArray) (v:Int),(∀p∈l,p.1≠k)->eE (l++[(k,v)]) k'=if k=k' then v else eE l k'
 | [],k,k',v,_=>rfl
 | p::r,k,k',v,h=>by
  have ih:=GX r k k' v (λ q hq=>h q (List.mem_cons_of_mem _ hq))
  have hp:=h p (List.mem_cons_self ..)
  show(if p.1=k' then p.2 else eE (r++[(k,v)]) k')=_
  rw[ih]
  show _=if k=k' then v else(if p.1=k' then p.2 else eE r k')
  grind
theorem BF:∀(l:List SI) (k k':ByteArray) (v:Int),l.any (λ p=>decide (p.1=k))=true->eE (l.map (λ p=>if p.1=k then(k,v)else p)) k'=if k=k' then v else eE l k'
 | [],_,_,_,h=>by simp at h
 | p::r,k,k',v,h=>by
  rw[List.map_cons]
  by_cases h1:p.1=k
  ·rw[if_pos h1]
   show(if k=k' then v else eE (r.map _) k')=if k=k' then v else(if p.1=k' then p.2 else eE r k')
   by_cases h2:k=k'
   ·grind
   ·rw[if_neg h2,if_neg h2,if_neg (λ e=>h2 (h1.symm.trans e))]
    by_cases h3:r.any (λ p=>decide (p.1=k))=true
    ·rw[BF r k k' v h3,if_neg h2]
    ·congr 1
     have:∀q∈r,q.1≠k:=λ q hq e=>h3 (List.any_eq_true.2 ⟨q,hq,decide_eq_true e⟩)
     conv=>rhs;rw[<- List.map_id r]
     exact List.map_congr_left λ q hq=>if_neg (this q hq)
  ·rw[if_neg h1]
   have h3:r.any (λ p=>decide (p.1=k))=true:=by
    grind
   show(if p.1=k' then p.2 else eE (r.map _) k')=if k=k' then v else(if p.1=k' then p.2 else eE r k')
   rw[BF r k k' v h3]
   grind
theorem BG(l:List SI)(k k':ByteArray)(v:Int):eE (zb l k v) k'=if k=k' then v else eE l k':=by
 unfold zb
 by_cases h:l.any (λ p=>decide (p.1=k))=true
 ·rw[if_pos h,BF l k k' v h]
 rw[if_neg h,GX l k k' v λ p hp e=>h (List.any_eq_true.2 ⟨p,hp,decide_eq_true e⟩)]
theorem ac3{l:List SI}{k:ByteArray}{v:Int}(h:∀p∈l,p.2≠0)(hv:v≠0):∀p∈zb l k v,p.2≠0:=by
 intro p hp
 unfold zb at hp
 grind
section
variable {P:Program}{w w0 w':World}{A:Nat->Prop}{L:List HP}{b:Nat}{l:List SI}
theorem XY{T Kt E:TypeId}{v:Int}{k:ByteArray}(h:uA w b l)(ht:P.underlying T=some (.map Kt E))(hk:P.underlying Kt=some .string) :
  ∃w',(Instr.mapUpdate T (.map (some b)) (.string k) (.int .i64 v)).run P w=.ok () w'/\gq (· = b) w w'/\uA w' b (zb l k v):=by
 by_cases eD:∀p∈l,p.1≠k
 ·have:l.any (λ p=>decide (p.1=k))=false:=by
   grind
  unfold zb
  rw[if_neg (by grind)]
  exact Lg h ht hk eD
 have vW:l.any (λ p=>decide (p.1=k))=true:=by
  grind
 unfold zb
 rw[if_pos vW]
 have nH:=h.lt
 obtain⟨es,c,h1,h2,h3⟩:=h
 have hc:=MapKept.run_checkKey (P:=P) (w:=w) (kt:=Kt) (k:=.string k) hk (by simp[IsKey]) false 9999
 rcases MapKept.findNow_spec (d:=.string) (k:=.string k) (by simp[IsKey]) es.toList 0 (λ x hx=>by obtain⟨p,_,e,_⟩:=WI h3 hx;rw[e];simp[IsKey])with⟨g1,g2⟩|⟨j,e,g1,g2,g4⟩
 ·obtain⟨p,hp,he⟩:=List.any_eq_true.1 vW
  obtain⟨x,hx,e1,_⟩:=WJ h3 hp
  grind
 have h8:=MapKept.run_findKey (P:=P) (w:=w) hk g1
 rw[Nat.zero_add]at h8
 have UD:es[j]?=some e:=by grind
 have iL:(Instr.keyThatStays e.key (.string k)).run P w=.ok (.string k) w:=by
  have vF:(k == k)=true:=by cases k with|mk d=>exact beq_self_eq_true d
  rw[g4];unfold Instr.keyThatStays;simp[Instr.sameBits,vF]
 refine⟨_,?_,gq.setBlock w b (.map (es.modify j λ e=>{e with key:=.string k,val:=.int .i64 v}) c),?_⟩
 ·simp[Instr.mapUpdate,run_underlying ht,MapKept.run_getObj_map h1,hc,h8,nU h1,Result.andThen,UD,iL]
 have JD:∀e',es[j]?=some e'->({e' with key:=.string k,val:=.int .i64 v}:MapEntry).key=e'.key:=λ e' he'=>by
  grind
 refine⟨_,_,jZ _ nH,MapKept.stamped_modify h2 j _ (λ _ _=>rfl) (λ e' _ he'=>JD e' he'),?_⟩
 let g:Value×Value->Value×Value:=λ q=>match q.1 with|.string s=>if s=k then(.string k,.int .i64 v)else q|_=>q
 have hg:(es.modify j λ e=>{e with key:=.string k,val:=.int .i64 v}).toList.map (λ e=>(e.key,e.val))=(es.toList.map λ e=>(e.key,e.val)).map g:=by
  apply List.ext_getElem?
  intro i
  simp only[List.getElem?_map,Array.getElem?_toList,Array.getElem?_modify]
  by_cases hij:j=i
  ·grind
  ·rw[if_neg hij]
   cases hx:es[i]? with
   | none=>rfl
   | some x=>
    have FL:x.key≠.string k:=λ hxk=>by
     have hi:=(Array.getElem?_eq_some_iff.1 hx)
     have hj:=(Array.getElem?_eq_some_iff.1 UD)
     obtain⟨hi1,UJ⟩:=hi
     obtain⟨hj1,BA⟩:=hj
     have hp:=List.pairwise_iff_getElem.1 h2.2.2
     grind
    grind
 have hl:(l.map (λ p=>if p.1=k then(k,v)else p)).map Rh=(l.map Rh).map g:=by
  rw[List.map_map,List.map_map]
  refine List.map_congr_left λ p _=>?_
  show Rh (if p.1=k then(k,v)else p)=g (Rh p)
  by_cases O3:p.1=k
  ·rw[if_pos O3];simp[g,Rh,O3]
  ·rw[if_neg O3];simp[g,Rh,O3]
 grind
theorem XZ{T Kt E:TypeId}{v:Int}{k:ByteArray}{K:World->Prop}(hs:St w0 A (Fw.nc b l::L) w)(ht:P.underlying T=some (.map Kt E))(hk:P.underlying Kt=some .string)
  (kk:∀w',St w0 A (Fw.nc b (zb l k v)::L) w'->K w'):Uz P (Instr.mapUpdate T (.map (some b)) (.string k) (.int .i64 v)) w K:=by
 obtain⟨w',h1,h2,h3⟩:=XY (P:=P) (v:=v) (k:=k) hs.nc ht hk
 exact⟨w',h1,kk w' (hs.qW λ F hF=>⟨F,⟨h3,hF.2⟩,λ b hb=>.inl hb,h2.mono λ k hk=>(hF.2 k).2 hk⟩)⟩
end
end Go.Fw
namespace Go.Proofs.YtpdlpabnlkofmaaGreatDoor
open Go.Fw
def sd(b3 b4 b5 bm:Nat)(l:List SI)(tw:Bool)(a:Int):HP:=sep (bY b3 [.map (some bm)]) (sep (bY b4 [.bool tw]) (sep (bY b5 [.int .i64 a]) (nc bm l)))
theorem sd.shut{w0 w:World}{A:Nat->Prop}{L:List HP}{b3 b4 b5 bm:Nat}{l:List SI}{tw:Bool}{a:Int}(hs:St w0 A (nc bm l::bY b5 [.int .i64 a]::bY b4 [.bool tw]::bY b3 [.map (some bm)]::L) w):St w0 A (sd b3 b4 b5 bm l tw a::L) w:=
 St.join (St.join (St.join hs.p1).p1).p1
theorem sd.open{w0 w:World}{A:Nat->Prop}{L:List HP}{b3 b4 b5 bm:Nat}{l:List SI}{tw:Bool}{a:Int}(hs:St w0 A (sd b3 b4 b5 bm l tw a::L) w):St w0 A (nc bm l::bY b5 [.int .i64 a]::bY b4 [.bool tw]::bY b3 [.map (some bm)]::L) w:=
 (hs.split.p1.split.p1.split).p1
def atN(l:List SI)(name:ByteArray)(tw:Bool)(place a:Int):Int:=if eE l name≠0/\tw=false then place else a
def twN(l:List SI)(name:ByteArray)(tw:Bool):Bool:=tw||decide (eE l name≠0)
theorem C176(name:ByteArray)(what place:Int)(b3 b4 b5 bm:Nat)(l:List SI)(tw:Bool)(a:Int)(F:Nat->Prop)(w:World)(hF:(sd b3 b4 b5 bm l tw a).p w F) :
  CR 176 [.string name,.int .i64 what,.int .i64 place,.pointer (some ⟨b3,0,none⟩),.pointer (some ⟨b4,0,none⟩),.pointer (some ⟨b5,0,none⟩)] w (λ v w'=>v=.tuple #[]/\mL F (sd b3 b4 b5 bm (zb l name what) (twN l name tw) (atN l name tw place a)) w w'):=by
 have hs:=sd.open (St.begin hF);refine eS Tryz.func176 ?_;refine⟨λ w'=>St w F [nc bm l,bY b5 [.int .i64 (atN l name tw place a)],bY b4 [.bool (twN l name tw)],bY b3 [.map (some bm)]] w',⟨λ jv w'=>jv=.bool (decide (eE l name≠0)&&!tw)/\w'=w,aB GB hs.p3.hb rfl (xE hs.nc Tryz.underlying165 Tryz.underlying9 ud (bV (aC (λ c=>aB zQ hs.p2.hb rfl (bQ ⟨vb (by rw[decide_eq_true c,Bool.true_and]),rfl⟩)) (λ c=>⟨vb (by rw[decide_eq_false c,Bool.false_and]),rfl⟩)))),?_⟩,?_⟩
 ·rintro _ _ ⟨rfl,rfl⟩ _;refine aW (λ c=>?_) (λ c=>?_)
  ·have hc:eE l name≠0/\tw=false:=by simpa using c
   refine aS hs.p1 bL (dI rfl) rfl (λ _ hs=>aS hs.p2 zQ (dI rfl) rfl (λ _ hs=>?_));have e1:atN l name tw place a=place:=if_pos hc;have e2:twN l name tw=true:=by unfold twN;rw[decide_eq_true hc.1,Bool.or_true]
   rw[e1,e2];exact(hs.p1).p2
  have hc:¬ (eE l name≠0/\tw=false):=by simpa using c
  have e1:atN l name tw place a=a:=if_neg hc
  have e2:twN l name tw=tw:=by
   unfold twN;cases tw with
   | true=>rfl
   | false=>rw[Bool.false_or];exact decide_eq_false λ h=>hc ⟨h,rfl⟩
  rw[e1,e2];exact hs
 rintro _ hs _;exact aB GB hs.p3.hb rfl (XZ hs Tryz.underlying165 Tryz.underlying9 (λ _ hs=>⟨rfl,(sd.shut hs).mut⟩))
def X0(st:List SI×Bool×Int)(q:ByteArray×Int×Int):List SI×Bool×Int:=(zb st.1 q.1 q.2.1,twN st.1 q.1 st.2.1,atN st.1 q.1 st.2.1 q.2.2 st.2.2)
def Ci(p:cG)(i:Int):Int:=if (p.lines.length:Int)<=i then 2 else 1
def UK(p:cG):List (ByteArray×Int×Int):=(tL p).map λ q=>(q.1.name,Ci p q.2,q.1.at_)
def TB(p:cG):List (ByteArray×Int×Int):=p.eG.map λ c=>(c.name,3,c.at_)
def UL(p:cG):List (ByteArray×Int×Int):=p.threads.map λ t=>(t.name,4,t.at_)
def zA(l:List (ByteArray×Int×Int))(st:List SI×Bool×Int):List SI×Bool×Int:=l.foldl X0 st
def Cj(p:cG):List SI×Bool×Int:=zA (UL p) (zA (TB p) (zA (UK p) ([],false,0)))
theorem EP{l:List (ByteArray×Int×Int)}{st:List SI×Bool×Int}{k:Nat}{q:ByteArray×Int×Int}(h:l[k]?=some q):zA (l.take (k+1)) st=X0 (zA (l.take k) st) q:=by
 unfold zA;rw[<- gz h,List.foldl_append];rfl
abbrev NO(b3 b4 b5 bm:Nat)(st:List SI×Bool×Int):HP:=sd b3 b4 b5 bm st.1 st.2.1 st.2.2
theorem C107(p:cG)(pv:bO)(w:World)(hp:Deep.dr w pv p)(hz:PZ p):CR 107 [Flat.val pv] w (λ v w'=>∃bm,v=.tuple #[.map (some bm),.int .i64 (Cj p).2.2,.bool (Cj p).2.1]/\lL (nc bm (Cj p).1) w w'):=by
 have hac:=kG hz.toPS;have o7:(tL p).length=(g9 p).length:=uF p;have hzl:=hz.lines;have hzk:=hz.eG;have hzt:=hz.threads;obtain⟨bJ,bT,bK,aU,aV,bE,rfl,cR,dA,cW,cB,cC,cQ⟩:=hp;obtain⟨Wi,hR1,hD1⟩:=(cR).open;have Wj:=hD1.1;obtain⟨vf,XM,XN⟩:=(cB).open;have hn3:=XN.1;have hKr:=DL.flat (cW);have hs:=St.start w;refine oY Tryz.func107 (pl:=awd) ?_;refine cI hs (λ bp w1 hs=>Lh hs (λ bm _ hs=>gO hs QV rfl (λ b3 _ hs=>aS hs GB (dI rfl) rfl (λ _ hs=>gO hs ud rfl (λ b5 _ hs=>gO hs Vx rfl (λ b4 _ hs=>aS hs zQ (dI rfl) rfl (λ _ hs=>gO hs abF rfl (λ b8 _ hs=>aS hs QZ (dI rfl) rfl (λ _ hs=>aE ep hs.p5.At (have hs:=sd.shut (a:=0) (tw:=false) (((hs.p3).p2).p3).p4;dN RE (C115 _ _) ?_))))))))))
 rintro _ _ ⟨b,rfl,cO⟩;have hs:=hs.made cO
 refine wq (cap:=[.pointer (some ⟨b,0,none⟩)]) (xs:=(tL p).map λ q=>[Flat.val q.1,.int .i64 q.2]) RF hs
  (λ k M=>M=[bY b (Flat.enc (⟨bJ,bT,bK,aU,aV,bE⟩:bO)),NO b3 b4 b5 bm (zA ((UK p).take k) ([],false,0)),bY b8 [(.func (.func 176) [].toArray [.pointer (some ⟨b3,0,none⟩),.pointer (some ⟨b4,0,none⟩),.pointer (some ⟨b5,0,none⟩)].toArray)],bY bp (Flat.enc (⟨bJ,bT,bK,aU,aV,bE⟩:bO))]) (λ _ _=>False) rfl (by intro x hx;obtain⟨q,_,rfl⟩:=List.mem_map.1 hx;rfl) ?_ ?_ ?_ ?_ ?_ ?_
 ·intro y J Jx W hJ XV S4 hy;refine(C195 y b bJ bT p J Jx w W hz.toPS cR (DL.flat dA) (λ k W hk=>?_) XV S4 (λ k c i W hx hk=>hy k [Flat.val c,.int .i64 i] W (by rw[List.getElem?_map,hx];rfl) hk)).mono λ _ _ r=>r.mono λ v W' h=>?_
  ·obtain⟨Y,M,rfl,hS⟩:=hJ k W hk;exact⟨hS.p1.hb.cell rfl,hS.p1.hb.cell rfl,hS.aF⟩
  simpa using h
 ·rintro k args Y1 Y2 B Kr M W hk rfl hB hN hR hs;rw[List.getElem?_map]at hk;obtain⟨q,hq,rfl⟩:=Option.map_eq_some_iff.1 hk;have hc:(UK p)[k]?=some (q.1.name,Ci p q.2,q.1.at_):=by unfold UK;rw[List.getElem?_map,hq];rfl
  dsimp only[Du];refine aM hs oE (λ b9 _ hs=>aJ (x:=q.1) hs lP rfl rfl (λ _ hs=>?_));refine hB _ _ _ hs.p1 (λ RJ hs=>?_);refine⟨λ jv w'=>jv=.int .i64 (Ci p q.2)/\w'=RJ,aA gk (aB (v:=Flat.val bJ) oz hs.p5.hb rfl (aI pj (hR1.ext hs.aF) (cS (aC (λ _=>⟨congrArg (Value.int .i64) (if_pos (by omega)).symm,rfl⟩) (λ _=>⟨congrArg (Value.int .i64) (if_neg (by omega)).symm,rfl⟩))))),?_⟩;rintro _ _ ⟨rfl,rfl⟩ _;refine aB QZ hs.p4.hb rfl (aA kz (aB (v:=.string q.1.name) gj hs.p1.hb rfl (aA ui (aB (v:=.int .i64 q.1.at_) bL hs.p1.hb rfl (En (first:=[]) (cap:=[.pointer (some ⟨b3,0,none⟩),.pointer (some ⟨b4,0,none⟩),.pointer (some ⟨b5,0,none⟩)]) (H':=λ _=>NO b3 b4 b5 bm (X0 (zA ((UK p).take k) ([],false,0)) (q.1.name,(Ci p q.2),q.1.at_))) (Φ:=λ v _=>v=.tuple #[]) XX hs.p3 (λ F hF _=>C176 q.1.name (Ci p q.2) q.1.at_ b3 b4 b5 bm _ _ _ F _ hF) (λ v _ _ hs=>?_))))))
  refine hN _ _ ?_ rfl;rw[EP hc];exact((hs.p2.drop).p2).p2
 ·rintro D M W rfl hs;rw[List.length_map,show(UK p).take (tL p).length=UK p from List.take_of_length_le (by unfold UK;rw[List.length_map];exact Nat.le_refl _)]at hs;obtain⟨s0,hs0⟩:∃s,s=zA (UK p) ([],false,0):=⟨_,rfl⟩;rw[<- hs0]at hs;refine aA nI (aB (v:=Flat.val bK) jC hs.p4.hb rfl (aI g8 (hKr.ext hs.aF) ?_));refine⟨λ m x w1=>∃k:Nat,x=.int .i64 (k:Int)/\m=p.eG.length-k/\k<=p.eG.length/\St w aY [ny D (.deferred (some [])),bY b (Flat.enc (⟨bJ,bT,bK,aU,aV,bE⟩:bO)),NO b3 b4 b5 bm (zA ((TB p).take k) s0),bY b8 [(.func (.func 176) [].toArray [.pointer (some ⟨b3,0,none⟩),.pointer (some ⟨b4,0,none⟩),.pointer (some ⟨b5,0,none⟩)].toArray)],bY bp (Flat.enc (⟨bJ,bT,bK,aU,aV,bE⟩:bO))] w1,⟨_,0,rfl,rfl,Nat.zero_le _,(by rw[show zA ((TB p).take 0) s0=s0 from rfl];exact hs)⟩,?_⟩
  rintro m _ _ ⟨k,rfl,rfl,hk,hs⟩ _;refine aQ (aC (λ c=>?_) (λ c=>?_))
  ·obtain⟨x,hx⟩:=gx p.eG (i:=((k:Nat):Int).toNat) (by omega);have hx':p.eG[k]?=some x:=hx;have hc:(TB p)[k]?=some (x.name,3,x.at_):=by unfold TB;rw[List.getElem?_map,hx'];rfl
   refine aO g8 hKr (by omega) hx (λ q hq=>aE lP (hq.ext hs.aF) (aM hs oE (λ b9 _ hs=>aJ (x:=x) hs lP rfl rfl (λ _ hs=>aB QZ hs.p4.hb rfl (aA kz (aB (v:=.string x.name) gj hs.hb rfl (aA ui (aB (v:=.int .i64 x.at_) bL hs.hb rfl (En (first:=[]) (cap:=[.pointer (some ⟨b3,0,none⟩),.pointer (some ⟨b4,0,none⟩),.pointer (some ⟨b5,0,none⟩)]) (H':=λ _=>NO b3 b4 b5 bm (X0 (zA ((TB p).take k) s0) (x.name,3,x.at_))) (Φ:=λ v _=>v=.tuple #[]) XX hs.p3 (λ F hF _=>C176 x.name 3 x.at_ b3 b4 b5 bm _ _ _ F _ hF) (λ v _ _ hs=>aK (by omega) ?_))))))))));refine⟨_,by omega,k+1,rfl,rfl,by omega,?_⟩
   rw[EP hc];exact((hs.p1.drop).p2).p2
  rw[show(TB p).take k=TB p from List.take_of_length_le (by unfold TB;rw[List.length_map];omega)]at hs;obtain⟨s1,TC⟩:∃s,s=zA (TB p) s0:=⟨_,rfl⟩;rw[<- TC]at hs;refine aA kj (aB (v:=Flat.val aU) ij hs.p4.hb rfl (aI fq (XM.ext hs.aF) ?_));refine⟨λ m x w1=>∃k:Nat,x=.int .i64 (k:Int)/\m=vf.length-k/\k<=vf.length/\St w aY [ny D (.deferred (some [])),bY b (Flat.enc (⟨bJ,bT,bK,aU,aV,bE⟩:bO)),NO b3 b4 b5 bm (zA ((UL p).take k) s1),bY b8 [(.func (.func 176) [].toArray [.pointer (some ⟨b3,0,none⟩),.pointer (some ⟨b4,0,none⟩),.pointer (some ⟨b5,0,none⟩)].toArray)],bY bp (Flat.enc (⟨bJ,bT,bK,aU,aV,bE⟩:bO))] w1,⟨_,0,rfl,rfl,Nat.zero_le _,(by rw[show zA ((UL p).take 0) s1=s1 from rfl];exact hs)⟩,?_⟩
  rintro m _ _ ⟨k,rfl,rfl,hk,hs⟩ _;refine aQ (aC (λ c=>?_) (λ c=>?_))
  ·obtain⟨t,ht⟩:=gx vf (i:=((k:Nat):Int).toNat) (by omega);obtain⟨r,hr⟩:=gx p.threads (i:=k) (by omega);obtain⟨gr,gb,rfl,_,_⟩:=XN.2 _ _ _ ht hr;have hc:(UL p)[k]?=some (r.name,4,r.at_):=by unfold UL;rw[List.getElem?_map,hr];rfl
   refine aO fq XM (by omega) ht (λ q hq=>aE mQ (hq.ext hs.aF) (aM hs sZ (λ b9 _ hs=>aJ hs mQ rfl rfl (λ _ hs=>aB QZ hs.p4.hb rfl (aA pW (aB (v:=.string r.name) gj hs.hb rfl (aA pX (aB (v:=.int .i64 r.at_) bL hs.hb rfl (En (first:=[]) (cap:=[.pointer (some ⟨b3,0,none⟩),.pointer (some ⟨b4,0,none⟩),.pointer (some ⟨b5,0,none⟩)]) (H':=λ _=>NO b3 b4 b5 bm (X0 (zA ((UL p).take k) s1) (r.name,4,r.at_))) (Φ:=λ v _=>v=.tuple #[]) XX hs.p3 (λ F hF _=>C176 r.name 4 r.at_ b3 b4 b5 bm _ _ _ F _ hF) (λ v _ _ hs=>aK (by omega) ?_))))))))));refine⟨_,by omega,k+1,rfl,rfl,by omega,?_⟩
   rw[EP hc];exact((hs.p1.drop).p2).p2
  rw[show(UL p).take k=UL p from List.take_of_length_le (by unfold UL;rw[List.length_map];omega),TC,hs0]at hs;have hs:=sd.open hs.drew.p2;refine aB GB hs.p3.hb rfl (aB bL hs.p1.hb rfl (aB zQ hs.p2.hb rfl ?_));refine DN hs.p4 (λ _ hs=>?_);exact⟨bm,rfl,(hs.p1.drop.p1.drop.p1.drop.p1.drop.p1.drop.p1.drop).fresh⟩
 ·rintro D M W h;exact h.elim
 ·rintro id D M W h;exact h.elim
 rintro c M h;exact h.elim
theorem vi(a0:ByteArray)(a1:Int)(a2:Option Addr)(n2 c2:Nat):pr Tryz.prog (Instr.build 177 [(0,.string a0),(1,.int .i64 a1),(2,.slice a2 n2 c2)].toArray)=some (.agg [.string a0,.int .i64 a1,.slice a2 n2 c2].toArray):=by kernel_rfl
structure IV where
 name:ByteArray
 at_:Int
 may:SV
instance:Flat IV where
 agg:=true
 sz:=3
 enc e:=[.string e.name,.int .i64 e.at_,.slice e.may.a e.may.n e.may.cap]
 val e:=.agg [.string e.name,.int .i64 e.at_,.slice e.may.a e.may.n e.may.cap].toArray
 pos:=by decide
 len _:=rfl
 one a v h:=by simp at h;rcases h with rfl|rfl|rfl<;>rfl
 m6 _ _:=rfl
 nn h:=by cases h
variable (w:World) (K:Value->World->Prop)
theorem af9:PL 193:=dF Tryz.func193
theorem apz:PL 113:=dF Tryz.func113
theorem apA:PL 192:=dF Tryz.func192
end Go.Proofs.YtpdlpabnlkofmaaGreatDoor
namespace Go.Fw
def O4:List Nat->HP
 | []=>fk λ _=>True
 | D::r=>sep (ny D (.deferred (some []))) (O4 r)
def ac5(P:Program)(w0:World)(A:Nat->Prop)(I:Nat->List HP->Prop)(Jx:World->Prop)(y:Value)(Ar:Nat->List Value->(World->Prop)->Prop):Prop:=
 ∀k args Φ W (R:HP) L,Ar k args Φ->(∀F W',R.p W' F->Φ W')->I k L->St w0 A (R::L) W->kq P y args W (λ v W'=>(v=.bool true/\∃L',I (k+1) L'/\St w0 A (R::L') W')\/(v=.bool false/\Jx W'))
section
variable {P:Program}{w w0 w':World}{A:Nat->Prop}{L:List HP}
theorem O4.nil(hs:St w0 A L w):St w0 A (O4 []::L) w:=hs.fT λ _=>trivial
theorem O4.take{K:World->Prop}:∀(ds:List Nat) {w:World},St w0 A (O4 ds::L) w->(∀w',St w0 A L w'->K w')->mH ds w K
 | [],_,hs,k=>k _ hs.drop
 | D::r,_,hs,k=>by
  have h1:=hs.split
  exact⟨h1.obj,O4.take r (h1.putObj _).drop k⟩
theorem X1{gf np:Nat}{cap:List Value}(n:Nat)(Ar:Nat->List Value->(World->Prop)->Prop){round:List Value->World->(World->(World->Prop)->Prop)->(Option Code->World->Prop)->Prop}
  {N R:Nat->World->Prop}{X:Nat->Nat->World->Prop}(pl:Plain P gf) (hs:St w0 A L w) (I:Nat->List HP->Prop) (Ix:Code->List HP->Prop) (h0:I 0 L) (hnp:∀k a Φ,Ar k a Φ->a.length=np)
  (hgf:∀(y:Value) (Y:HP) (Jx:World->Prop) (W:World),(∃M,I 0 M/\St w0 A (Y::M) W)->ac5 P w0 A (λ k L=>∃M,I k M/\L=Y::M) Jx y Ar->
   Calls P gf ([y]++cap).toArray W (tX λ _ W'=>(∃M,I n M/\St w0 A (Y::M) W')\/Jx W'))
  (Dv:∀k args Φ (Y1 Y2:HP) (B:World->(World->Prop)->Prop) (Kr:Option Code->World->Prop) M W,Ar k args Φ->I k M->(∀F W',Y2.p W' F->Φ W')->
   (∀M w1 (kk:World->Prop),St w0 A (Y1::M) w1->(∀w2,St w0 A (Y2::M) w2->kk w2)->B w1 kk)->
   (∀M w1,St w0 A (Y2::M) w1->I (k+1) M->Kr none w1)->(∀c M w1,St w0 A (Y2::M) w1->Ix c M->Kr (some c) w1)->
   St w0 A (Y1::M) W->round args W B Kr)
  (VV:∀D M W,I n M->St w0 A (ny D (.deferred (some []))::M) W->N D W)
  (ahb:∀D M W,Ix .ret M->St w0 A (ny D (.deferred (some []))::M) W->R D W)
  (VW:∀id D M W,Ix (.exit id) M->St w0 A (ny D (.deferred (some []))::M) W->X id D W)
  (N7:∀c M,Ix c M->(∃id,c=.exit id)\/c=.ret) :
  zL P (.func (.func gf) #[] cap.toArray) np w round (aft N R X):=by
 refine⟨gf,cap.toArray,rfl,pl,λ L0 iL A0 hy=>?_⟩
 obtain⟨l,hl⟩:∃l,l=w.heap.size+1:=⟨_,rfl⟩
 obtain⟨D,hD⟩:∃D,D=w.heap.size:=⟨_,rfl⟩
 rw[<- hl]at hy |-
 rw[<- hD]
 let Y:HP:=sep (ny l (.loop L0)) (ny D (.deferred (some [])))
 let Jx:World->Prop:=λ W=>∃c M,Ix c M/\St w0 A (ny l (.loop {L0 with state:=.done,pending:=some c})::ny D (.deferred (some []))::M) W
 have S4:∃M,I 0 M/\St w0 A (Y::M) ((w.alloc (.deferred (some []))).alloc (.loop L0)):=by
  refine⟨L,h0,?_⟩
  have h1:=(hs.alloc (o:=.deferred (some []))).alloc (o:=.loop L0)
  rw[show(w.alloc (.deferred (some []))).heap.size=l from by rw[hl];exact Bf w _,<- hD]at h1
  exact St.join h1
 have:=hgf (.func (.yield l) #[] #[]) Y Jx _ S4 ?_
 ·have e:([Value.func (.yield l) #[] #[]]++cap).toArray = #[.func (.yield l) #[] #[]]++cap.toArray:=by simp
  rw[e]at this
  refine this.mono λ x W' ⟨v,hx,hv⟩=>⟨v,hx,?_⟩
  rcases hv with⟨M,hI,hS⟩|⟨c,M,hI,hS⟩
  ·have hS:=hS.split
   refine⟨.ready,none,by simp,?_,?_⟩
   ·rw[<- iL,<- A0];exact hS.obj
   exact VV D M _ hI (hS.putObj _).drop
  refine⟨.done,some c,by simp,hS.obj,?_⟩
  rcases N7 c M hI with⟨id,rfl⟩|rfl
  ·exact VW id D M _ hI (hS.putObj _).drop
  exact ahb D M _ hI (hS.putObj _).drop
 rintro k args Φ W R _ hk hR ⟨M,hI,rfl⟩ hS
 have hS1:=(hS.p1).split
 refine⟨.inr ⟨l,rfl,?_⟩⟩
 refine hy args W _ (hnp k args Φ hk) hS1.obj ?_
 refine Dv k args Φ (sep (sep (ny l (.loop L0)) (ny D (.deferred (some [])))) R) (sep (sep (ny l (.loop {L0 with state:=.busy})) (ny D (.deferred (some [])))) R) _ _ M W hk hI (λ F W2 ⟨_,F2,_,h2,_⟩=>hR F2 W2 h2)
  (λ M w1 kk h1 h2=>?_) (λ M w1 h1 h2=>?_) (λ c M w1 h1 h2=>?_) (St.join (St.join hS1))
 ·have h1:=h1.split.split
  exact⟨h1.obj,h2 _ (h1.putObj _).join.join⟩
 ·have h1:=h1.split.split
  refine⟨h1.obj,.inl ⟨rfl,_,⟨M,h2,rfl⟩,?_⟩⟩
  have:=h1.putObj (.loop {L0 with state:=if (none:Option Code).isNone=true then LoopState.ready else LoopState.done,pending:=none})
  rw[DO L0 iL A0]at this |-
  exact(St.join this).p1
 have h1:=h1.split.split
 refine⟨h1.obj,.inr ⟨rfl,c,M,h2,?_⟩⟩
 exact(h1.putObj _).p2.drop
end
end Go.Fw
namespace Go.Proofs.YtpdlpabnlkofmaaGreatDoor
open Go.Fw
abbrev UU:=ByteArray×Int×List Int
def qm(xs:List bX):List bX:=xs.filter λ x=>decide (x.op=2)
theorem GY{xs:List bX}{k:Nat}{x:bX}(h:xs[k]?=some x):qm (xs.take (k+1))=qm (xs.take k)++(if x.op=2 then [x]else []):=by
 unfold qm;rw[<- gz h,List.filter_append];grind
theorem ac6{xs:List bX}{k:Nat}{x:bX}(h:xs[k]?=some x)(hx:x.op=2):(qm xs)[(qm (xs.take k)).length]?=some x:=by
 have h1:=drop_cons h
 have e:qm xs=qm (xs.take k)++qm (xs.drop k):=by unfold qm;rw[<- List.filter_append,List.take_append_drop]
 grind[qm]
def RK(l:List UU)(k:Nat)(args:List Value)(Φ:World->Prop):Prop:=∃u s,l[k]?=some u/\args=[Flat.val (⟨u.1,u.2.1,s⟩:IV)]/\∀W,Φ W->dC (λ _=>True) W (Flat.val s) u.2.2
theorem awe{H H':HP}{Φ:World->Prop}(h:∀F W,H.p W F->Φ W):∀F W,(sep H H').p W F->Φ W:=λ _ _ ⟨_,_,h1,_⟩=>h _ _ h1
theorem IW{α:Type}[Flat α]{v:Value}{xs:List α}:∀F W,(bG v xs).p W F->dC (λ _=>True) W v xs:=λ _ _ h=>(bG.rd h).mono λ _ _=>trivial
theorem C193(lv y:Value)(xs:List bX)(may:Int)(ul:List UU)(j0:Nat)(w0:World)(A:Nat->Prop)(I:Nat->List HP->Prop)(Jx:World->Prop)(w:World)(hn:xs.length<=1048576)
  (hE:∀k L W,I k L->St w0 A L W->dC (λ _=>True) W lv xs) (h0:∃L,I j0 L/\St w0 A L w) (hu:∀(j:Nat) (x:bX),(qm xs)[j]?=some x->ul[j0+j]?=some (x.name,x.at_,[may])) (hy:ac5 Tryz.prog w0 A I Jx y (RK ul)) :
  CR 193 [lv,.int .i64 may,y] w (λ v W=>(v=.bool true/\∃L,I (j0+(qm xs).length) L/\St w0 A L W)\/(v=.bool false/\Jx W)):=by
 refine eS Tryz.func193 ?_;obtain⟨L0,hI0,hS0⟩:=h0;refine aI gN (hE _ _ _ hI0 hS0) ?_;refine⟨λ m x w1=>∃k:Nat,x=.int .i64 (k:Int)/\m=xs.length-k/\k<=xs.length/\∃L,I (j0+(qm (xs.take k)).length) L/\St w0 A L w1,⟨_,0,rfl,rfl,Nat.zero_le _,L0,hI0,hS0⟩,?_⟩;rintro m _ w1 ⟨k,rfl,rfl,hk,L1,hI,hs⟩ _;refine aQ (aC (λ c=>?_) (λ c=>?_))
 ·obtain⟨x,hx⟩:=gx xs (i:=((k:Nat):Int).toNat) (by omega);refine aO gN (hE _ _ _ hI hs) (by omega) hx (λ q hq=>aE rK hq (aM hs xw (λ b8 _ hs=>aJ (x:=x) hs rK rfl rfl (λ _ hs=>⟨λ jv w'=>(jv=.bool false/\∃L,I (j0+(qm (xs.take (k+1))).length) L/\St w0 A L w')\/(jv=.bool true/\Jx w'),aA eU (aB (v:=.int .i64 x.op) bL hs.hb rfl (aH (aC (λ c2=>?_) (λ c2=>?_)))),?_⟩))))
  ·refine aA fY (aB (v:=.string x.name) gj hs.hb rfl (aA rL (aB (v:=.int .i64 x.at_) bL hs.hb rfl (aX (([may]:List Int)) hs.drop cM rfl rfl (dI rfl) (λ s25 w4 hs=>?_)))));obtain⟨sv,rfl⟩:=(hs).dX.fC;refine pop (vi x.name x.at_ sv.a sv.n sv.cap) ?_;refine kq.mono (hy _ _ _ w4 _ _ ⟨_,sv,hu _ x (ac6 hx c2),rfl,λ _ h=>h⟩ IW hI hs) ?_;rintro v w5 (⟨rfl,L2,Nz,hs2⟩|⟨rfl,GW⟩)
   ·exact bQ (.inl ⟨rfl,L2,by rw[GY (k:=k) hx,if_pos c2,List.length_append];exact Nz,hs2.drop⟩)
   exact bQ (.inr ⟨rfl,GW⟩)
  ·refine .inl ⟨rfl,L1,?_,hs.drop⟩;rw[GY (k:=k) hx,if_neg c2,List.append_nil];exact hI
  rintro _ w6 (⟨rfl,L2,Nz,hs⟩|⟨rfl,GW⟩) _
  ·exact fm (aK (by omega) ⟨_,by omega,k+1,rfl,rfl,by omega,L2,Nz,hs⟩)
  exact ig (.inr ⟨rfl,GW⟩)
 rw[List.take_of_length_le (by omega)]at hI;exact .inl ⟨rfl,L1,hI,hs⟩
def IX(k:Int):List Int:=if k=5\/k=6 then [1]else if k=9\/k=10 then [3]else [1,2]
def BH(l:List bX):List UU:=(qm l).map λ y=>(y.name,y.at_,[5])
def BI(x:bN):List UU:=(if x.eC=⟨#[]⟩then []else [(x.eC,x.at_,[5])])++((if x.name=⟨#[]⟩then []else [(x.name,x.at_,IX x.kind)])++(BH x.e++BH x.f))
def ot(xs:List bN):List UU:=xs.flatMap BI
theorem GZ{xs:List bN}{k:Nat}{x:bN}(h:xs[k]?=some x):ot (xs.take (k+1))=ot (xs.take k)++BI x:=by
 unfold ot;rw[<- gz h,List.flatMap_append];simp
theorem ac8{xs:List bN}{k i:Nat}{x:bN}{u:UU}(h:xs[k]?=some x)(hi:(BI x)[i]?=some u):(ot xs)[(ot (xs.take k)).length+i]?=some u:=by
 have e:ot xs=ot (xs.take k)++(BI x++ot (xs.drop (k+1))):=by
  rw[<- List.append_assoc,<- GZ h];unfold ot;rw[<- List.flatMap_append,List.take_append_drop]
 grind
theorem RL{l:List bX}{j:Nat}{y:bX}(h:(qm l)[j]?=some y):(BH l)[j]?=some (y.name,y.at_,[5]):=by unfold BH;rw[List.getElem?_map,h];rfl
def se(x:bN):List UU:=if x.eC=⟨#[]⟩then []else [(x.eC,x.at_,[5])]
def tM(x:bN):List UU:=if x.name=⟨#[]⟩then []else [(x.name,x.at_,IX x.kind)]
theorem BJ(x:bN):BI x=se x++(tM x++(BH x.e++BH x.f)):=rfl
theorem aiv{x:bN}(h:¬ x.eC=⟨#[]⟩):(se x).length=1:=by unfold se;grind
theorem aiw{x:bN}(h:x.eC=⟨#[]⟩):(se x).length=0:=by unfold se;grind
theorem aix{x:bN}{n:Nat}(h:¬ x.name=⟨#[]⟩):(n+(tM x).length)=n+1:=by unfold tM;grind
theorem aiy{x:bN}{n:Nat}(h:x.name=⟨#[]⟩):(n+(tM x).length)=n:=by unfold tM;grind
theorem X2{x:bN}(h:¬ x.eC=⟨#[]⟩):(BI x)[0]?=some (x.eC,x.at_,[5]):=by unfold BI;grind
theorem X3{x:bN}(h:¬ x.name=⟨#[]⟩):(BI x)[(se x).length]?=some (x.name,x.at_,IX x.kind):=by
 rw[BJ,List.getElem?_append_right (Nat.le_refl _),Nat.sub_self];unfold tM;grind
theorem X4{x:bN}{j:Nat}{y:bX}(h:(qm x.e)[j]?=some y):(BI x)[(se x).length+(tM x).length+j]?=some (y.name,y.at_,[5]):=by
 have h1:=RL h
 rw[BJ,List.getElem?_append_right (by omega),show(se x).length+(tM x).length+j-(se x).length=(tM x).length+j from by omega,List.getElem?_append_right (by omega),Nat.add_sub_cancel_left,List.getElem?_append_left (List.getElem?_eq_some_iff.1 h1).1,h1]
theorem X5{x:bN}{j:Nat}{y:bX}(h:(qm x.f)[j]?=some y):(BI x)[(se x).length+(tM x).length+(qm x.e).length+j]?=some (y.name,y.at_,[5]):=by
 have h1:=RL h
 have h2:(BH x.e).length=(qm x.e).length:=by unfold BH;grind
 rw[BJ,List.getElem?_append_right (by omega),show(se x).length+(tM x).length+(qm x.e).length+j-(se x).length=(tM x).length+((BH x.e).length+j)from by omega,List.getElem?_append_right (by omega),Nat.add_sub_cancel_left,List.getElem?_append_right (by omega),Nat.add_sub_cancel_left,h1]
theorem X6(x:bN):(BI x).length=(se x).length+(tM x).length+(qm x.e).length+(qm x.f).length:=by
 rw[BJ];unfold BH;grind
theorem C192(y:Value)(b:Nat)(lv:Value)(ts:List aZ)(xs:List bN)(w0:World)(A:Nat->Prop)(I:Nat->List HP->Prop)(Jx:World->Prop)(w:World)(hn:xs.length<=1048576)(hz:∀x∈xs,x.e.length<=1048576/\x.f.length<=1048576)
  (hE:∀k L W,I k L->St w0 A L W->Cell W b 0 lv/\dC (λ _=>True) W lv ts/\jh ts xs W) (h0:∃L,I 0 L/\St w0 A L w) (hy:ac5 Tryz.prog w0 A I Jx y (RK (ot xs))) :
  CR 192 [y,.pointer (some ⟨b,0,none⟩)] w (λ _ W=>(∃L,I (ot xs).length L/\St w0 A L W)\/Jx W):=by
 have hyF:∀b4 (cs:List Value),ac5 Tryz.prog w0 A (λ j L=>∃M,I j M/\L=bY b4 cs::M) Jx y (RK (ot xs)):=by
  rintro b4 cs k args Φ W R _ h1 h2 ⟨M,h3,rfl⟩ h4;refine kq.mono (hy k args Φ W _ M h1 (awe h2) h3 (St.join h4)) ?_;rintro v W' (⟨rfl,L',h5,h6⟩|h5)
  ·exact .inl ⟨rfl,_,⟨L',h5,rfl⟩,h6.split⟩
  grind
 refine eS Tryz.func192 ?_;obtain⟨M0,hI0,hS0⟩:=h0;obtain⟨B6,Ct,yu⟩:=hE _ _ _ hI0 hS0;have U5:=yu.1;refine bM jF B6 (aI fo Ct ?_);refine⟨λ m x w1=>∃k:Nat,x=.int .i64 (k:Int)/\m=ts.length-k/\k<=ts.length/\∃L,I (ot (xs.take k)).length L/\St w0 A L w1,⟨_,0,rfl,rfl,Nat.zero_le _,M0,hI0,hS0⟩,?_⟩;rintro m _ w1 ⟨k,rfl,rfl,hk,M1,hI,hs⟩ _;refine aQ (aC (λ c=>?_) (λ c=>?_))
 ·obtain⟨t,ht⟩:=gx ts (i:=((k:Nat):Int).toNat) (by omega);obtain⟨x,hx⟩:=gx xs (i:=k) (by omega);have hxz:=hz x (List.mem_of_getElem? hx);obtain⟨uG,FQ,hd1⟩:=hE _ _ _ hI hs;obtain⟨ge,gf,rfl,_,_⟩:=hd1.2 _ _ _ ht hx
  have hE1:∀k' M W,I k' M->St w0 A M W->dC (λ _=>True) W (Flat.val ge) x.e/\dC (λ _=>True) W (Flat.val gf) x.f:=λ k' M W h1 h2=>by
   obtain⟨_,_,h3⟩:=hE k' M W h1 h2;obtain⟨_,_,h4,h5,h6⟩:=h3.2 _ _ _ ht hx;cases h4
   exact⟨DL.flat h5,DL.flat h6⟩
  have rZ:∀{i:Nat}{u:UU},(BI x)[i]?=some u->(ot xs)[(ot (xs.take k)).length+i]?=some u:=ac8 hx;refine aO fo FQ (by omega) ht (λ q hq=>aE eI hq (aM hs jq (λ b4 _ hs=>aJ (x:=(⟨x.kind,x.eC,x.name,ge,gf,x.n,x.body,x.eo,x.at_⟩:aZ)) hs eI rfl rfl (λ _ hs=>?_))));refine⟨λ jv w'=>(jv=.bool false/\∃L,I ((ot (xs.take k)).length+(se x).length) L/\St w0 A ((bY b4 (Flat.enc (⟨x.kind,x.eC,x.name,ge,gf,x.n,x.body,x.eo,x.at_⟩:aZ)))::L) w')\/(jv=.bool true/\Jx w'),?_,?_⟩
  ·refine aA iv (aB (v:=.string x.eC) gj hs.hb rfl (lM (aC (λ c2=>?_) (λ c2=>.inl ⟨rfl,M1,by rw[aiw (by simpa using c2)];exact hI,hs⟩))));refine aA iv (aB (v:=.string x.eC) gj hs.hb rfl (aA lq (aB (v:=.int .i64 x.at_) bL hs.hb rfl (aX (([5]:List Int)) hs cM rfl rfl (dI rfl) (λ s25 _ hs=>?_)))));obtain⟨sv,rfl⟩:=(hs).dX.fC;refine pop (vi x.eC x.at_ sv.a sv.n sv.cap) ?_;refine kq.mono (hyF b4 _ _ _ _ _ _ _ ⟨_,sv,rZ (i:=0) (X2 c2),rfl,λ _ h=>h⟩ IW ⟨_,hI,rfl⟩ hs) ?_;rintro v w5 (⟨rfl,_,⟨M2,Nz,rfl⟩,hs2⟩|⟨rfl,GW⟩)
   ·exact bQ (.inl ⟨rfl,M2,by rw[aiv c2];exact Nz,hs2.drop⟩)
   exact bQ (.inr ⟨rfl,GW⟩)
  rintro _ w6 (⟨rfl,M2,Nz,hs⟩|⟨rfl,GW⟩) _;rotate_left
  ·exact ig (.inr GW)
  refine fm (aX (([1,2]:List Int)) hs cM rfl rfl (dI rfl) (λ s26 w7 hs=>?_));refine⟨λ jv w'=>∃sv:SV,jv=Flat.val sv/\St w0 A (bG (Flat.val sv) (IX x.kind)::(bY b4 (Flat.enc (⟨x.kind,x.eC,x.name,ge,gf,x.n,x.body,x.eo,x.at_⟩:aZ)))::M2) w',?_,?_⟩
  ·refine aA dJ (aB (v:=.int .i64 x.kind) bL hs.p1.hb rfl ⟨λ jv w'=>jv=.bool (decide (x.kind=5\/x.kind=6))/\w'=w7,aH (aC (λ c3=>⟨vb (by simp[c3]),rfl⟩) (λ c3=>aH ⟨vb (by simp[c3]),rfl⟩)),?_⟩);rintro _ w8 ⟨rfl,rfl⟩ _;refine aC (λ c3=>?_) (λ c3=>⟨λ jv w'=>jv=.bool (decide (x.kind=9\/x.kind=10))/\w'=w8,aH (aC (λ c4=>⟨vb (by simp[c4]),rfl⟩) (λ c4=>aH ⟨vb (by simp[c4]),rfl⟩)),?_⟩)
   ·refine aX (([1]:List Int)) hs cM rfl rfl (dI rfl) (λ s32 _ hs=>?_);obtain⟨sv,rfl⟩:=(hs).dX.fC;exact⟨sv,rfl,by rw[IX,if_pos c3];exact(hs.p1).drop⟩
   rintro _ _ ⟨rfl,rfl⟩ _;refine aC (λ c4=>?_) (λ c4=>?_)
   ·refine aX (([3]:List Int)) hs cM rfl rfl (dI rfl) (λ s36 _ hs=>?_);obtain⟨sv,rfl⟩:=(hs).dX.fC;exact⟨sv,rfl,by rw[IX,if_neg c3,if_pos c4];exact(hs.p1).drop⟩
   obtain⟨sv,rfl⟩:=(hs).dX.fC;exact⟨sv,rfl,by rw[IX,if_neg c3,if_neg c4];exact hs⟩
  rintro _ _ ⟨sv,rfl,hs⟩ _;refine⟨λ jv w'=>(jv=.bool false/\∃L,I ((ot (xs.take k)).length+((se x).length+(tM x).length)) L/\St w0 A ((bY b4 (Flat.enc (⟨x.kind,x.eC,x.name,ge,gf,x.n,x.body,x.eo,x.at_⟩:aZ)))::L) w')\/(jv=.bool true/\Jx w'),?_,?_⟩
  ·refine aA fU (aB (v:=.string x.name) gj hs.p1.hb rfl (lM (aC (λ c2=>?_) (λ c2=>.inl ⟨rfl,M2,by rw[aiy (by simpa using c2)];exact Nz,hs.drop⟩))));refine aA fU (aB (v:=.string x.name) gj hs.p1.hb rfl (aA lq (aB (v:=.int .i64 x.at_) bL hs.p1.hb rfl (pop (vi x.name x.at_ sv.a sv.n sv.cap) ?_))));refine kq.mono (hyF b4 _ _ _ _ _ _ _ ⟨_,sv,rZ (i:=(se x).length) (X3 c2),rfl,λ _ h=>h⟩ IW ⟨_,Nz,rfl⟩ hs) ?_;rintro v w13 (⟨rfl,_,⟨M3,hI3,rfl⟩,hs3⟩|⟨rfl,GW⟩)
   ·exact bQ (.inl ⟨rfl,M3,by rw[aix c2];exact hI3,hs3.drop⟩)
   exact bQ (.inr ⟨rfl,GW⟩)
  rintro _ RJ (⟨rfl,M2,Nz,hs⟩|⟨rfl,GW⟩) _;rotate_left
  ·exact ig (.inr GW)
  refine fm ?_;refine⟨λ jv w'=>(jv=.bool false/\∃L,I ((ot (xs.take (k+1))).length) L/\St w0 A ((bY b4 (Flat.enc (⟨x.kind,x.eC,x.name,ge,gf,x.n,x.body,x.eo,x.at_⟩:aZ)))::L) w')\/(jv=.bool true/\Jx w'),?_,?_⟩
  ·refine aA iN (aB (v:=Flat.val ge) jo hs.hb rfl (dN af9 (C193 _ y x.e 5 (ot xs) ((ot (xs.take k)).length+(((se x).length+(tM x).length))) w0 A (λ j L=>∃M,I j M/\L=(bY b4 (Flat.enc (⟨x.kind,x.eC,x.name,ge,gf,x.n,x.body,x.eo,x.at_⟩:aZ)))::M) Jx _ (by have:=hxz.1;omega) (λ j L W ⟨M,h1,h2⟩ h3=>(hE1 _ _ _ h1 (h2▸h3).drop).1) ⟨_,⟨_,Nz,rfl⟩,hs⟩ (λ j _ Tb=>by rw[Nat.add_assoc];exact rZ (i:=((se x).length+(tM x).length)+j) (X4 Tb)) (hyF b4 _)) ?_));rintro v _ hv;rw[Nat.add_assoc]at hv
   rcases hv with⟨rfl,_,⟨M2,Nz,rfl⟩,hs⟩|⟨rfl,hv⟩
   ·refine bQ (fm (aA jU (aB (v:=Flat.val gf) jo hs.hb rfl (dN af9 (C193 _ y x.f 5 (ot xs) ((ot (xs.take k)).length+(((se x).length+(tM x).length+(qm x.e).length))) w0 A (λ j L=>∃M,I j M/\L=(bY b4 (Flat.enc (⟨x.kind,x.eC,x.name,ge,gf,x.n,x.body,x.eo,x.at_⟩:aZ)))::M) Jx _ (by have:=hxz.2;omega) (λ j L W ⟨M,h1,h2⟩ h3=>(hE1 _ _ _ h1 (h2▸h3).drop).2) ⟨_,⟨_,Nz,rfl⟩,hs⟩ (λ j _ Tb=>by rw[Nat.add_assoc];exact rZ (i:=((se x).length+(tM x).length+(qm x.e).length)+j) (X5 Tb)) (hyF b4 _)) ?_))));rintro v _ hv;rw[Nat.add_assoc]at hv
    rcases hv with⟨rfl,_,⟨M2,Nz,rfl⟩,hs⟩|⟨rfl,hv⟩
    ·exact bQ (.inl ⟨rfl,M2,by rw[GZ hx,List.length_append,X6];exact Nz,hs⟩)
    exact bQ (.inr ⟨rfl,hv⟩)
   exact bQ (ig (.inr ⟨rfl,hv⟩))
  rintro _ w17 (⟨rfl,M2,Nz,hs⟩|⟨rfl,GW⟩) _;rotate_left
  ·exact ig (.inr GW)
  exact fm (aK (by omega) ⟨_,by omega,k+1,rfl,rfl,by omega,M2,Nz,hs.drop⟩)
 rw[List.take_of_length_le (by omega)]at hI;exact .inl ⟨M1,hI,hs⟩
theorem C113(lv:SV)(w:World):CR 113 [Flat.val lv] w (λ v w'=>∃b,v=.func (.func 192) [].toArray [.pointer (some ⟨b,0,none⟩)].toArray/\lL (bY b [Flat.val lv]) w w'):=by
 have hs:=St.start w;refine eS Tryz.func113 ?_;refine nj hs rfl (λ b _ hs=>?_);exact⟨b,rfl,hs.fresh⟩
variable (w:World) (K:Value->World->Prop)
theorem aga:PL 112:=dF Tryz.func112
end Go.Proofs.YtpdlpabnlkofmaaGreatDoor
namespace Go.Proofs.YtpdlpabnlkofmaaGreatDoor
open Go.Fw
def ER:List SI->List ByteArray->Option (List SI)
 | g,[]=>some g
 | g,n::r=>if eE g n=0 then ER (g++[(n,5)]) r else none
def TD(l:List SI)(names:List ByteArray):Option (List SI):=ER (l.filter λ p=>decide (¬ p.2=4)) names
theorem ac9{g:List SI}{ns:List ByteArray}{k:Nat}{n:ByteArray}(h:ns[k]?=some n)(hz:eE g n=0):ER g (ns.drop k)=ER (g++[(n,5)]) (ns.drop (k+1)):=by
 rw[drop_cons h,ER,if_pos hz]
theorem ada{g:List SI}{ns:List ByteArray}{k:Nat}{n:ByteArray}(h:ns[k]?=some n)(hz:¬ eE g n=0):ER g (ns.drop k)=none:=by
 rw[drop_cons h,ER,if_neg hz]
def apD(r:Option (List SI))(v:Value)(w w':World):Prop:=
 (r=none/\v=.tuple #[.map none,.bool true]/\Ext w w')\/∃g b,r=some g/\v=.tuple #[.map (some b),.bool false]/\lL (nc b g) w w'
theorem C112(tv:cE)(names:List ByteArray)(bm:Nat)(l:List SI)(w:World)(hf:dC (λ _=>True) w (Flat.val tv.dL) names)(hm:uA w bm l)(hz:∀p∈l,p.2≠0)(hn:names.length<=1073741824) :
  CR 112 [Flat.val tv,.map (some bm)] w (λ v w'=>apD (TD l names) v w w'):=by
 have hs:=St.start w;have U5:=hm.nodup;obtain⟨es,clock,UD,iL,agb⟩:=hm;refine eS Tryz.func112 ?_;refine cI hs (λ aiz w1 hs=>Lh hs (λ b_x _ hs=>Tm hs Tryz.underlying165 (Em UD hs.aF) (λ r13 _ hs=>?_)));refine⟨λ mm w1=>∃(seen:Array Nat) (l1:List SI),mm=(leftOf es seen).size/\(∀p,p∈l1↔(p∈l/\¬ p.2=4/\∃e∈es.toList,seen.contains e.born=true/\e.key=.string p.1))/\St w aY [GO r13 bm clock seen,nc b_x l1,bY aiz (Flat.enc tv)] w1,⟨_,#[],[],rfl,λ _=>⟨λ h=>(by cases h),λ ⟨_,_,e,_,h,_⟩=>(by simp at h)⟩,hs⟩,?_⟩;rintro mm w4 ⟨seen,l1,rfl,hl1,hs⟩ _;refine WH hs (Em UD hs.aF) iL.1 (λ h0=>?_) (λ e _ he hs=>?_)
 ·refine aN rfl (fm ?_);have hs:=hs.drop
  have hg:l1.Perm (l.filter λ p=>decide (¬ p.2=4)):=by
   have n1:l1.Nodup:=(List.pairwise_map.1 hs.nc.nodup).imp λ h e=>h (by rw[e]);have n2:l.Nodup:=(List.pairwise_map.1 U5).imp λ h e=>h (by rw[e]);refine(List.perm_ext_iff_of_nodup n1 (n2.filter _)).2 λ p=>?_;rw[hl1,List.mem_filter];refine⟨λ ⟨h1,h2,_⟩=>⟨h1,decide_eq_true h2⟩,λ ⟨h1,h2⟩=>⟨h1,of_decide_eq_true h2,?_⟩⟩;obtain⟨e,he,h3,_⟩:=WJ agb h1;exact⟨e,he,all_seen es seen h0 e he,h3⟩
  have hs:St w aY [nc b_x (l.filter λ p=>decide (¬ p.2=4)),bY aiz (Flat.enc tv)] w4:=hs.qW λ F hF=>⟨F,⟨hF.1.perm hg,hF.2⟩,λ _ hb=>.inl hb,gq.refl _ _⟩;refine aA fN (aB iZ hs.p1.hb rfl (aI ik (hf.ext hs.aF) ?_));refine⟨λ mm i w'=>∃(k:Nat) (g:List SI),i=.int .i64 (k:Int)/\mm=names.length-k/\k<=names.length/\TD l names=ER g (names.drop k)/\(∀p∈g,p.2≠0)/\St w aY [nc b_x g,bY aiz (Flat.enc tv)] w',⟨_,0,_,rfl,rfl,Nat.zero_le _,rfl,λ p hp=>hz p (List.mem_filter.1 hp).1,hs⟩,?_⟩;rintro mm _ _ ⟨k,g,rfl,rfl,hk,IG,hzg,hs⟩ _;refine aQ (aC (λ LP=>?_) (λ LP=>?_))
  ·obtain⟨yv,jR⟩:=gx (names) (i:=((k:Int)).toNat) (by omega);refine aO ik (hf.ext hs.aF) (by omega) jR (λ _ Ak=>aE gj Ak (xE hs.nc Tryz.underlying165 Tryz.underlying9 ud (bV (aC (λ lz=>.inl ⟨IG.trans (ada jR lz),rfl,hs.drop.drop.aF⟩) (λ lz=>?_)))));have hz0:eE g yv=0:=by omega
   refine Li hs Tryz.underlying165 Tryz.underlying9 (On hs.nc.nodup hzg hz0) (λ _ hs=>aK (by omega) ?_)
   exact⟨_,by omega,k+1,_,rfl,rfl,by omega,IG.trans (ac9 jR hz0),λ p hp=>by
    rcases List.mem_append.1 hp with h|h
    ·exact hzg p h
    ·rw[List.mem_singleton.1 h];exact(by decide:(5:Int)≠0),hs⟩
  refine .inr ⟨g,b_x,?_,rfl,hs.p1.drop.fresh⟩;rw[IG,List.drop_eq_nil_of_le (by omega)];rfl
 refine aN rfl (ig ?_);have hm:=mem_left he;refine Tn hs (Em UD hs.aF) hm.1 iL.2.1 ?_;obtain⟨p0,NA,hek,hev⟩:=WI agb hm.1;rw[hek,hev];refine aN rfl (aN rfl (bV ?_))
 have old:∀q∈l1,q.1≠p0.1:=λ q hq e=>by
  obtain⟨_,_,e2,LQ,h1,h2⟩:=(hl1 q).1 hq;rw[e,<- hek]at h2;obtain rfl:=key_inj iL.2.2 LQ hm.1 h2;exact absurd h1 (by simpa using hm.2)
 refine aC (λ og=>?_) (λ og=>?_)
 ·have hs:=hs.p1;refine Li hs Tryz.underlying165 Tryz.underlying9 old (λ _ hs=>?_);have hs:=hs.p1;refine⟨_,left_shrinks es seen e he,seen.push e.born,_,rfl,λ p=>?_,hs⟩;rw[List.mem_append,List.mem_singleton,hl1]
  constructor
  ·rintro(⟨h1,h2,e2,h3,h4,h5⟩|rfl)
   ·exact⟨h1,h2,e2,h3,by simp at h4 |-;exact .inl h4,h5⟩
   exact⟨NA,og,e,hm.1,by simp,hek⟩
  rintro⟨h1,h2,e2,h3,h4,h5⟩
  rcases wJ h4 with h|h
  ·exact .inl ⟨h1,h2,e2,h3,h,h5⟩
  obtain rfl:=born_inj iL.2.1 h3 hm.1 h;rw[hek]at h5;injection h5 with h5;exact .inr (WK U5 h1 NA h5.symm)
 refine⟨_,left_shrinks es seen e he,seen.push e.born,l1,rfl,λ p=>?_,hs⟩;rw[hl1]
 constructor
 ·rintro⟨h1,h2,e2,h3,h4,h5⟩;exact⟨h1,h2,e2,h3,by simp at h4 |-;exact .inl h4,h5⟩
 rintro⟨h1,h2,e2,h3,h4,h5⟩
 rcases wJ h4 with h|h
 ·exact⟨h1,h2,e2,h3,h,h5⟩
 obtain rfl:=born_inj iL.2.1 h3 hm.1 h;rw[hek]at h5;injection h5 with h5;obtain rfl:=WK U5 h1 NA h5.symm;exact absurd h2 og
theorem dH{ns:List ByteArray}{s:ByteArray}:0<=cU ns s↔s∈ns:=by
 have h:=Bv ns s
 grind
theorem AG{ns:List ByteArray}{s:ByteArray}:cU ns s<0↔s ∉ ns:=by rw[<- dH];omega
theorem lF{ns:List ByteArray}{s:ByteArray}(h:s∈ns):∃k:Nat,cU ns s=k/\ns[k]?=some s/\∀j,j<k->ns[j]?≠some s:=by
 unfold cU rT
 cases hf:ns.findIdx? (λ y=>decide (y=s))with
 | none=>grind
 | some k=>
  obtain⟨h1,h2,h3⟩:=List.findIdx?_eq_some_iff_getElem.1 hf
  grind
theorem pD{ns:List ByteArray}{s:ByteArray}{k:Nat}(h:s∈ns):cU ns s<k↔s∈ns.take k:=by
 obtain⟨j,h1,h2,h3⟩:=lF h
 rw[h1]
 constructor
 ·intro hj;exact List.mem_iff_getElem?.2 ⟨j,by grind⟩
 intro hm
 obtain⟨i,hi⟩:=List.mem_iff_getElem?.1 hm
 grind
theorem nodup_iff(ns:List ByteArray):ns.Nodup↔∀(k:Nat) (s:ByteArray),ns[k]?=some s->s ∉ ns.take k:=by
 unfold List.Nodup
 rw[List.pairwise_iff_getElem]
 constructor
 ·intro h k s hk hm
  obtain⟨i,hi⟩:=List.mem_iff_getElem?.1 hm
  grind
 intro h i j hi hj hij he
 exact h j _ (List.getElem?_eq_getElem hj) (List.mem_iff_getElem?.2 ⟨i,by grind⟩)
theorem zd(l:List cJ):j9 l=true↔¬ (l.map cJ.name).Nodup:=by
 rw[nodup_iff]
 unfold j9
 rw[List.any_eq_true]
 constructor
 ·rintro⟨j,hj,h⟩ hn
  have hj:=List.mem_range.1 hj
  have hl:l[j]?=some l[j]:=List.getElem?_eq_getElem hj
  rw[xG hl,decide_eq_true_iff]at h
  have hm:(l[j]).name∈l.map cJ.name:=List.mem_map.2 ⟨_,List.getElem_mem hj,rfl⟩
  exact hn j _ (by grind) ((pD hm).1 h)
 intro hn
 apply Classical.byContradiction
 intro hc
 refine hn λ k s hk hm=>hc ⟨k,?_,?_⟩
 ·grind
 rw[List.getElem?_map]at hk
 obtain⟨c,hc2,rfl⟩:=Option.map_eq_some_iff.1 hk
 rw[xG hc2,decide_eq_true_iff]
 exact(pD (List.mem_of_mem_take hm)).2 hm
theorem LR(p:cG)(rs:List ByteArray):uC p rs=true↔¬ rs.Nodup\/∃s∈rs,s∈cT p\/s∈cL p:=by
 rw[nodup_iff]
 unfold uC
 rw[List.any_eq_true]
 constructor
 ·rintro⟨j,hj,h⟩
  have hj:=List.mem_range.1 hj
  have hl:rs[j]?=some rs[j]:=List.getElem?_eq_getElem hj
  have hm:=List.getElem_mem hj
  rw[Aw hl]at h
  simp only[Bool.or_eq_true,decide_eq_true_eq,dH]at h
  rcases h with(h|h)|h
  ·exact .inl λ hn=>hn j _ hl ((pD hm).1 h)
  ·grind
  grind
 intro hn
 rcases hn with hn|⟨s,hs,hc⟩
 ·apply Classical.byContradiction
  intro hc
  refine hn λ k s hk hm=>hc ⟨k,List.mem_range.2 (List.getElem?_eq_some_iff.1 hk).1,?_⟩
  rw[Aw hk]
  simp only[Bool.or_eq_true,decide_eq_true_eq]
  exact .inl (.inl ((pD (List.mem_of_mem_take hm)).2 hm))
 obtain⟨j,hj⟩:=List.mem_iff_getElem?.1 hs
 refine⟨j,List.mem_range.2 (List.getElem?_eq_some_iff.1 hj).1,?_⟩
 rw[Aw hj]
 simp only[Bool.or_eq_true,decide_eq_true_eq,dH]
 rcases hc with hc|hc
 ·exact .inl (.inr hc)
 exact .inr hc
def nmQ(p:cG):List (ByteArray×Int×Int):=UK p++(TB p++UL p)
theorem RM(p:cG):Cj p=zA (nmQ p) ([],false,0):=by simp_all[SI,Cj,zA,nmQ]
theorem BK(p:cG):(nmQ p).map (·.1)=(fJ p).map cJ.name:=by
 unfold nmQ UK TB UL fJ
 rw[<- AF]
 simp only[List.map_append,List.map_map,List.append_assoc]
 rfl
theorem X7(p:cG):∀q∈nmQ p,q.2.1≠0:=by
 intro q hq
 unfold nmQ UK TB UL Ci at hq
 grind
theorem X8:∀(l:List (ByteArray×Int×Int)) (st:List SI×Bool×Int),(∀q∈l,q.2.1≠0)->
  ((zA l st).2.1=true↔st.2.1=true\/¬ (l.map (·.1)).Nodup\/∃q∈l,eE st.1 q.1≠0)
 | [],st,_=>by simp[zA]
 | q::r,st,hz=>by
  have ih:=X8 r (X0 st q) λ q hq=>hz q (List.mem_cons_of_mem _ hq)
  have hq0:=hz q (List.mem_cons_self ..)
  have e:zA (q::r) st=zA r (X0 st q):=rfl
  rw[e,ih]
  show twN st.1 q.1 st.2.1=true\/_\/(∃x∈r,eE (zb st.1 q.1 q.2.1) x.1≠0)↔_
  unfold twN
  rw[List.map_cons,List.nodup_cons]
  simp only[Bool.or_eq_true,decide_eq_true_eq,BG,List.mem_map,List.mem_cons]
  grind
theorem X9(p:cG):(Cj p).2.1=j9 (fJ p):=by
 rw[Bool.eq_iff_iff,RM,X8 _ _ (X7 p),zd,BK]
 simp[eE]
theorem O5:∀(l:List (ByteArray×Int×Int)) (st:List SI×Bool×Int) (n:ByteArray),n ∉ l.map (·.1)->eE (zA l st).1 n=eE st.1 n
 | [],_,_,_=>rfl
 | q::r,st,n,h=>by
  rw[List.map_cons,List.mem_cons,not_or]at h
  have e:zA (q::r) st=zA r (X0 st q):=rfl
  rw[e,O5 r _ n h.2]
  show eE (zb st.1 q.1 q.2.1) n=_
  rw[BG,if_neg λ hh=>h.1 hh.symm]
theorem ES:∀(l:List (ByteArray×Int×Int)) (st:List SI×Bool×Int) (q:ByteArray×Int×Int),(l.map (·.1)).Nodup->q∈l->eE (zA l st).1 q.1=q.2.1
 | x::r,st,q,hn,h=>by
  rw[List.map_cons,List.nodup_cons]at hn
  have e:zA (x::r) st=zA r (X0 st x):=rfl
  rw[e]
  rcases List.mem_cons.1 h with rfl|h
  ·rw[O5 r _ _ hn.1]
   show eE (zb st.1 q.1 q.2.1) q.1=_
   rw[BG,if_pos rfl]
  ·exact ES r _ q hn.2 h
theorem Ya:∀(l:List (ByteArray×Int×Int)) (st:List SI×Bool×Int),(∀q∈l,q.2.1≠0)->(∀e∈st.1,e.2≠0)->∀e∈(zA l st).1,e.2≠0
 | [],_,_,h=>h
 | q::r,st,hz,h=>Ya r (X0 st q) (λ q hq=>hz q (List.mem_cons_of_mem _ hq)) (ac3 h (hz q (List.mem_cons_self ..)))
theorem O6(p:cG):∀e∈(Cj p).1,e.2≠0:=by
 rw[RM];exact Ya _ _ (X7 p) λ e he=>by cases he
theorem Yb:∀(ls:List (List cJ)) (k:Int) (q:cJ×Int),q∈O2 k ls->k<=q.2/\q.2<k+ls.length
 | [],_,_,h=>by cases h
 | l::r,k,q,h=>by
  unfold O2 at h
  rcases List.mem_append.1 h with h|h
  ·grind
  ·have:=Yb r (k+1) q h;simp;omega
theorem Yc:∀(vs:List cJ) (k:Int) (q:cJ×Int),q∈Ny k vs->k<=q.2
 | [],_,_,h=>by cases h
 | v::r,k,q,h=>by
  unfold Ny at h
  rcases List.mem_cons.1 h with rfl|h
  ·omega
  ·have:=Yc r (k+1) q h;omega
def tm(p:cG):List ByteArray:=p.iI.map cJ.name
def ade(p:cG):List ByteArray:=p.threads.map cN.name
theorem LS(p:cG):gg p=p.lines.flatten.map cJ.name:=by
 unfold gg cT g9 eu
 rw[List.map_append,Int.toNat_natCast,List.take_left' (by grind)]
theorem qn(p:cG):cT p=gg p++tm p:=by
 rw[LS];unfold cT g9 tm;grind
theorem RN(p:cG):(fJ p).map cJ.name=gg p++tm p++(cL p++ade p):=by
 rw[<- qn];unfold fJ cT cL ade
 simp_all
theorem RO{p:cG}(hn:j9 (fJ p)=false)(s:ByteArray) :
  eE (Cj p).1 s=if 0<=cU (gg p) s then 1 else if 0<=cU (tm p) s then 2 else if 0<=cU (cL p) s then 3 else if 0<=cU (ade p) s then 4 else 0:=by
 have hd:((fJ p).map cJ.name).Nodup:=Classical.byContradiction λ h=>by rw[(zd _).2 h]at hn;cases hn
 have hq:((nmQ p).map (·.1)).Nodup:=by rw[BK];exact hd
 rw[RM]
 by_cases h1:s∈gg p
 ·rw[if_pos (dH.2 h1)]
  rw[LS,<- IT p.lines 0]at h1
  obtain⟨c,hc,rfl⟩:=List.mem_map.1 h1
  obtain⟨q,JH,rfl⟩:=List.mem_map.1 hc
  have hm:(q.1.name,Ci p q.2,q.1.at_)∈nmQ p:=List.mem_append_left _ (List.mem_map.2 ⟨q,List.mem_append_left _ JH,rfl⟩)
  have nH:=Yb _ _ _ JH
  exact(ES _ _ _ hq hm).trans (if_neg (by omega))
 rw[if_neg λ h=>h1 (dH.1 h)]
 by_cases h2:s∈tm p
 ·rw[if_pos (dH.2 h2)]
  unfold tm at h2
  rw[<- IU p.iI p.lines.length]at h2
  obtain⟨c,hc,rfl⟩:=List.mem_map.1 h2
  obtain⟨q,JH,rfl⟩:=List.mem_map.1 hc
  have hm:(q.1.name,Ci p q.2,q.1.at_)∈nmQ p:=List.mem_append_left _ (List.mem_map.2 ⟨q,List.mem_append_right _ JH,rfl⟩)
  have SX:=Yc _ _ _ JH
  exact(ES _ _ _ hq hm).trans (if_pos SX)
 rw[if_neg λ h=>h2 (dH.1 h)]
 by_cases h3:s∈cL p
 ·rw[if_pos (dH.2 h3)]
  obtain⟨c,hc,rfl⟩:=List.mem_map.1 h3
  exact ES _ _ (c.name,3,c.at_) hq (List.mem_append_right _ (List.mem_append_left _ (List.mem_map.2 ⟨c,hc,rfl⟩)))
 rw[if_neg λ h=>h3 (dH.1 h)]
 by_cases h4:s∈ade p
 ·rw[if_pos (dH.2 h4)]
  obtain⟨t,ht,rfl⟩:=List.mem_map.1 h4
  exact ES _ _ (t.name,4,t.at_) hq (List.mem_append_right _ (List.mem_append_right _ (List.mem_map.2 ⟨t,ht,rfl⟩)))
 rw[if_neg λ h=>h4 (dH.1 h),O5 _ _ _ (by rw[BK,RN];grind)]
 rfl
theorem ET{α:Type}{l:List α}{f g:α->Bool}(h:∀x∈l,f x=g x):l.any f=l.any g:=by
 grind
theorem TE{g:List SI}{n k:ByteArray}{v:Int}(hz:∀e∈g,e.2≠0)(h:eE g n=0):eE (g++[(n,v)]) k=if n=k then v else eE g k:=by
 induction g with
 | nil=>simp_all[eE,SI]
 | cons e r ih=>
  have hez:=hz e (List.mem_cons_self ..)
  have hn:¬ e.1=n:=λ hh=>by
   have:eE (e::r) n=e.2:=by simp_all[eE,SI]
   omega
  have hr:eE r n=0:=by
   grind[eE]
  show(if e.1=k then e.2 else eE (r++[(n,v)]) k)=if n=k then v else(if e.1=k then e.2 else eE r k)
  grind
theorem G0:∀(ns:List ByteArray) (g:List SI),(∀e∈g,e.2≠0)->
  (ER g ns=none/\(¬ ns.Nodup\/∃s∈ns,eE g s≠0))\/∃g',ER g ns=some g'/\ns.Nodup/\(∀s∈ns,eE g s=0)/\∀s,eE g' s=if 0<=cU ns s then 5 else eE g s
 | [],g,_=>.inr ⟨g,rfl,List.nodup_nil,λ s h=>(by cases h),λ s=>by rw[if_neg];exactλ h=>by cases dH.1 h⟩
 | n::r,g,hz=>by
  unfold ER
  split
  ·rename_i hl
   have hz2:∀e∈g++[(n,(5:Int))],e.2≠0:=by
    grind
   have hsn:=λ k=>TE (k:=k) (v:=5) hz hl
   rcases G0 r _ hz2 with⟨h1,h2⟩|⟨g',h1,h2,h3,h4⟩
   ·grind
   ·have hnr:n ∉ r:=λ hm=>by grind
    refine .inr ⟨g',h1,List.nodup_cons.2 ⟨hnr,h2⟩,λ s hs=>?_,λ s=>?_⟩
    ·rcases List.mem_cons.1 hs with rfl|hs
     ·exact hl
     ·have:=h3 s hs;rw[hsn,if_neg λ e:n=s=>hnr (e▸hs)]at this;exact this
    ·rw[h4,hsn]
     by_cases hs:s∈r
     ·rw[if_pos (dH.2 hs),if_pos (dH.2 (List.mem_cons_of_mem _ hs))]
     ·rw[if_neg λ h=>hs (dH.1 h)]
      by_cases hn:n=s
      ·rw[if_pos hn,if_pos (dH.2 (by rw[hn];exact List.mem_cons_self ..))]
      ·rw[if_neg hn,if_neg λ h=>(List.mem_cons.1 (dH.1 h)).elim (λ e=>hn e.symm) hs]
  grind
theorem LU{l:List SI}(hn:(l.map (·.1)).Nodup)(s:ByteArray):eE (l.filter λ p=>decide (¬ p.2=4)) s=if eE l s=4 then 0 else eE l s:=by
 induction l with
 | nil=>rfl
 | cons e r ih=>
  rw[List.map_cons,List.nodup_cons]at hn
  have ih:=ih hn.2
  have hr:e.1=s->eE r s=0:=λ h=>yU λ q hq he=>hn.1 (List.mem_map.2 ⟨q,hq,by grind⟩)
  have e1:eE (e::r) s=if e.1=s then e.2 else eE r s:=rfl
  rw[List.filter_cons,e1]
  by_cases h4:e.2=4
  ·grind
  ·rw[if_pos (by simp[h4])]
   show(if e.1=s then e.2 else eE _ s)=_
   grind
theorem Yd{l:List SI}{k:ByteArray}{v:Int}(h:(l.map (·.1)).Nodup):((zb l k v).map (·.1)).Nodup:=by
 unfold zb
 grind
theorem Ye(p:cG):((Cj p).1.map (·.1)).Nodup:=by
 rw[RM]
 have:∀(l:List (ByteArray×Int×Int)) (st:List SI×Bool×Int),(st.1.map (·.1)).Nodup->((zA l st).1.map (·.1)).Nodup:=by
  intro l
  induction l with
  | nil=>intro st h;exact h
  | cons q r ih=>intro st h;exact ih (X0 st q) (Yd h)
 grind
theorem IY{p:cG}(hn:j9 (fJ p)=false)(rs:List ByteArray) :
  (TD (Cj p).1 rs=none/\uC p rs=true)\/∃g,TD (Cj p).1 rs=some g/\uC p rs=false/\(∀s∈rs,s ∉ cT p/\s ∉ cL p)/\
   ∀s,eE g s=if 0<=cU rs s then 5 else if 0<=cU (gg p) s then 1 else if 0<=cU (tm p) s then 2 else if 0<=cU (cL p) s then 3 else 0:=by
 have hf:∀s,eE ((Cj p).1.filter λ p=>decide (¬ p.2=4)) s=if 0<=cU (gg p) s then 1 else if 0<=cU (tm p) s then 2 else if 0<=cU (cL p) s then 3 else 0:=by
  intro s
  rw[LU (Ye p),RO hn]
  omega
 have hc:∀s,eE ((Cj p).1.filter λ p=>decide (¬ p.2=4)) s≠0↔(s∈cT p\/s∈cL p):=by
  intro s
  rw[hf,qn,List.mem_append,<- dH (ns:=gg p),<- dH (ns:=tm p),<- dH (ns:=cL p)]
  omega
 unfold TD
 rcases G0 rs ((Cj p).1.filter λ p=>decide (¬ p.2=4)) (λ e he=>O6 p e (List.mem_filter.1 he).1)with⟨h1,h2⟩|⟨g,h1,h2,h3,h4⟩
 ·refine .inl ⟨h1,(LR p rs).2 ?_⟩
  grind
 have eD:∀s∈rs,s ∉ cT p/\s ∉ cL p:=λ s hs=>by
  have h:=h3 s hs
  exact⟨λ hm=>(hc s).2 (.inl hm) h,λ hm=>(hc s).2 (.inr hm) h⟩
 refine .inr ⟨g,h1,?_,eD,λ s=>by rw[h4,hf]⟩
 cases hr:uC p rs with
 | false=>rfl
 | true=>
  rcases(LR p rs).1 hr with h|⟨s,hs,h⟩
  ·grind
  ·rcases h with h|h
   ·exact absurd h (eD s hs).1
   ·exact absurd h (eD s hs).2
def CC(g:List SI)(u:UU):Bool:=!u.2.2.any λ m=>decide (m=eE g u.1)
theorem LV{g:List SI}{rs:List ByteArray}(l:List bX)(h:∀s,eE g s=5↔s∈rs):(BH l).any (CC g)=oN l rs:=by
 rw[Bool.eq_iff_iff]
 unfold BH qm oN CC
 simp only[List.any_map,List.any_eq_true,List.mem_filter,Function.comp_apply,List.any_cons,List.any_nil,Bool.or_false,Bool.not_eq_true',decide_eq_false_iff_not,Bool.and_eq_true,decide_eq_true_eq,AG]
 grind
theorem O7(p:cG)(s:ByteArray):s∈gg p↔0<=cU (cT p) s/\cU (cT p) s<eu p:=by
 rw[dH,show gg p=(cT p).take (eu p).toNat from rfl]
 have hs:0<=eu p:=by unfold eu;omega
 constructor
 ·intro h
  have hm:=List.mem_of_mem_take h
  have:=(pD hm).2 h
  exact⟨hm,by omega⟩
 rintro⟨h1,h2⟩;exact(pD h1).1 (by omega)
theorem apF(k:Int):eO (fz k) 110=decide (k=2\/k=3\/k=4\/k=5\/k=6\/k=9\/k=10):=by
 unfold fz
 split
 ·rw[decide_eq_false (by omega)];decide
 rename_i h
 obtain rfl|rfl|rfl|rfl|rfl|rfl|rfl|rfl|rfl|rfl|rfl|rfl|rfl|rfl:k=1\/k=2\/k=3\/k=4\/k=5\/k=6\/k=7\/k=8\/k=9\/k=10\/k=11\/k=12\/k=13\/k=14:=by omega
 all_goals decide
theorem LW:gB ⟨#[]⟩=false:=by decide
theorem adf{p:cG}{rs:List ByteArray}{g:List SI}(eD:∀s∈rs,s ∉ cT p/\s ∉ cL p)(Ew:∀s∈cT p,s ∉ cL p)(hsv:∀s∈gg p,s ∉ tm p)
  (hg:∀s,eE g s=if 0<=cU rs s then 5 else if 0<=cU (gg p) s then 1 else if 0<=cU (tm p) s then 2 else if 0<=cU (cL p) s then 3 else 0) {x:bN}(hx:aoh x) :
  (BI x).any (CC g)=mU p rs x:=by
 have g5:∀s,eE g s=5↔s∈rs:=λ s=>by
  rw[hg,<- dH];omega
 have g1:∀s,eE g s=1↔s∈gg p:=λ s=>by
  rw[hg,<- dH]
  split
  ·rename_i h
   have:=eD s (dH.1 h)
   rw[qn,List.mem_append]at this
   refine⟨λ h=>(by cases h),λ h=>absurd (dH.1 h) λ hh=>this.1 (.inl hh)⟩
  omega
 have g2:∀s,eE g s=2↔s∈tm p:=λ s=>by
  rw[hg]
  split
  ·rename_i h
   have:=eD s (dH.1 h)
   rw[qn,List.mem_append]at this
   grind
  ·split
   ·grind
   ·rw[<- dH];omega
 have g3:∀s,eE g s=3↔s∈cL p:=λ s=>by
  rw[hg]
  split
  ·grind
  ·split
   ·rename_i h;exact⟨λ h=>(by cases h),λ hh=>absurd hh (Ew s (by rw[qn];grind))⟩
   ·split
    ·rename_i h;exact⟨λ h=>(by cases h),λ hh=>absurd hh (Ew s (by rw[qn];grind))⟩
    ·rw[<- dH];omega
 have hn:=hx.name
 rw[apF]at hn
 rw[BJ,List.any_append,List.any_append,List.any_append,LV x.e g5,LV x.f g5]
 have hA:(se x).any (CC g)=(decide (¬ x.eC=⟨#[]⟩)&&decide (cU rs x.eC<0)):=by
  unfold se
  split
  ·grind
  ·rename_i h
   rw[decide_eq_true h,Bool.true_and,Bool.eq_iff_iff]
   simp only[List.any_cons,List.any_nil,Bool.or_false,CC,Bool.not_eq_true',decide_eq_false_iff_not,decide_eq_true_eq,AG]
   grind
 have hB:(tM x).any (CC g)=(((decide (x.kind=2)||decide (x.kind=3)||decide (x.kind=4))&&decide (cU (cT p) x.name<0)) ||
   ((decide (x.kind=5)||decide (x.kind=6))&&(decide (cU (cT p) x.name<0)||decide (eu p<=cU (cT p) x.name))) ||
   ((decide (x.kind=9)||decide (x.kind=10))&&decide (cU (cL p) x.name<0))):=by
  have hk:=hx.kind
  unfold tM
  split
  ·rename_i h
   have vD:¬ (x.kind=2\/x.kind=3\/x.kind=4\/x.kind=5\/x.kind=6\/x.kind=9\/x.kind=10):=by
    intro hh
    rcases hn with⟨_,h2⟩|⟨h1,_⟩
    ·rw[h,LW]at h2;cases h2
    grind
   grind
  ·rename_i h
   have vD:x.kind=2\/x.kind=3\/x.kind=4\/x.kind=5\/x.kind=6\/x.kind=9\/x.kind=10:=by
    grind
   have hc:=O7 p x.name
   rw[Bool.eq_iff_iff]
   unfold IX
   simp only[List.any_cons,List.any_nil,Bool.or_false,CC,Bool.not_eq_true',Bool.or_eq_true,Bool.and_eq_true,decide_eq_true_eq,AG]
   have e1:=g1 x.name;have e2:=g2 x.name;have e3:=g3 x.name
   have ec:x.name∈cT p↔x.name∈gg p\/x.name∈tm p:=by rw[qn,List.mem_append]
   have pn:=dH (ns:=cT p) (s:=x.name)
   grind
 rw[hA,hB]
 unfold mU
 grind
theorem LX{p:cG}(hn:j9 (fJ p)=false):(∀s∈cT p,s ∉ cL p)/\∀s∈gg p,s ∉ tm p:=by
 have hd:((fJ p).map cJ.name).Nodup:=Classical.byContradiction λ h=>by rw[(zd _).2 h]at hn;cases hn
 rw[RN,List.nodup_append]at hd
 obtain⟨h1,h2,h3⟩:=hd
 rw[List.nodup_append]at h1
 exact⟨λ s hs hl=>h3 s (by rw[<- qn];exact hs) s (List.mem_append_left _ hl) rfl,λ s hs hv=>h1.2.2 s hs s hv rfl⟩
theorem Yf{p:cG}{t:cN}{g:List SI}(hn:j9 (fJ p)=false)(hg:TD (Cj p).1 t.dL=some g)(hx:∀x∈t.body,mT x=true):(ot t.body).any (CC g)=t.body.any (mU p t.dL):=by
 rcases IY hn t.dL with⟨h1,_⟩|⟨g',h1,h2,h3,h4⟩
 ·grind
 rw[hg]at h1;cases h1
 obtain⟨a1,a2⟩:=LX hn
 unfold ot
 rw[List.any_flatMap]
 refine ET λ x hm=>adf h3 a1 a2 h4 (xF (hx x hm))
theorem O8{p:cG}(hn:j9 (fJ p)=false)(l:List bX):(l.any λ x=>decide (x.op=2)&&decide (¬ eE (Cj p).1 x.name=1))=oN l (gg p):=by
 unfold oN
 refine ET λ x _=>?_
 congr 1
 refine decide_eq_decide.2 ?_
 rw[AG,RO hn,<- dH]
 omega
variable (w:World) (K:Value->World->Prop)
def S48(p0:Value):Prop:=
 rC Tryz.prog (Instr.box 27 p0) w λ p1 a=>aL 31 a λ b c=>aL 3 c λ d e=>lA 27 p1 e λ f=>cF 107 [f] e λ g h=>xT g 0 λ j=>xT g 1 λ k=>xT g 2 λ l=>lA 27 p1 h λ n=>
 cF 108 [n] h λ o p=>eN Tryz.prog (Op.unary .not o) λ q=>cV q (sA 31 b (i 8) p λ s=>sA 3 d (i 0) s λ t=>lA 31 b t λ r=>lA 3 d t λ HY=>K (.tuple #[r,HY]) t) (lA 27 p1 p λ u=>
 cF 109 [u] p λ v x=>cV v (sA 31 b (i 2) x λ y=>sA 3 d (i 0) y λ z=>lA 31 b z λ NV=>lA 3 d z λ r_3=>K (.tuple #[NV,r_3]) z) (lA 27 p1 x λ aa=>cF 110 [aa] x λ ab ac=>
 lN 24 ab λ ad=>kh (λ K1 ae af=>∀_:Env,
 bA .lss 3 ae ad λ ag=>cV ag (iA 24 ab ae λ ah=>lA 146 ah af λ ai=>aL 146 af λ t8 aj=>sA 146 t8 ai aj λ ak=>fA 146 t8 2 λ al=>lA 141 al ak λ am=>cF 111 [am,(i 1)] ak λ an ao=>
 xT an 0 λ ap=>xT an 1 λ aq=>cV aq (sA 31 b (i 11) ao λ ar=>sA 3 d ap ar λ asx=>lA 31 b asx λ r_4=>lA 3 d asx λ r_5=>K (.tuple #[r_4,r_5]) asx) (bB .add 3 ae (i 1) λ au=>
 K1 au ao)) (cV l (sA 31 b (i 10) af λ av=>sA 3 d k av λ aw=>lA 31 b aw λ r_6=>lA 3 d aw λ r_7=>K (.tuple #[r_6,r_7]) aw) (lA 27 p1 af λ ax=>cF 110 [ax] af λ ay az=>
 lN 24 ay λ a0=>kh (λ K2 a2 a3=>∀_:Env,
 bA .lss 3 a2 a0 λ a4=>cV a4 (iA 24 ay a2 λ a5=>lA 146 a5 a3 λ a6=>aL 146 a3 λ t12 a7=>sA 146 t12 a6 a7 λ a8=>lA 146 t12 a8 λ a9=>cF 112 [a9,j] a8 λ ba bb=>xT ba 0 λ _=>
 xT ba 1 λ bc=>cV bc (fA 146 t12 3 λ bd=>lA 3 bd (drew bb) λ be=>sA 31 b (i 10) (drew bb) λ bf=>kA 3 bd be bf (sA 3 d be bf λ bg=>lA 31 b bg λ r_8=>lA 3 d bg λ r_9=>
 K (.tuple #[r_8,r_9]) bg)) (bB .add 3 a2 (i 1) λ bh=>K2 bh bb)) (lA 27 p1 a3 λ bi=>cF 110 [bi] a3 λ bj bk=>lN 24 bj λ bl=>o8 (λ K3 ds bm bn=>∀_:Env,
 bA .lss 3 bm bl λ bo=>cV bo (iA 24 bj bm λ bp=>lA 146 bp bn λ bq=>aL 146 bn λ t16 br=>sA 146 t16 bq br λ bs=>lA 146 t16 bs λ bt=>cF 112 [bt,j] bs λ bu bv=>xT bu 0 λ bw=>
 xT bu 1 λ _=>aL 165 bv λ apG bx=>sA 165 apG bw bx λ bz=>fA 146 t16 2 λ b0=>lA 141 b0 bz λ b1=>cF 113 [b1] bz λ b2 b3=>zL Tryz.prog b2 1 b3 (λ a1 b4 B1 R1=>
 aL 177 b4 λ u19 b5=>sA 177 u19 (Du a1 0) b5 λ b6=>B1 b6 λ b7=>fA 177 u19 2 λ b8=>lA 41 b8 b7 λ b9=>lA 165 apG b7 λ ca=>fA 177 u19 0 λ cb=>lA 9 cb b7 λ cc=>
 JB Tryz.prog (Instr.lookup 165 ca cc false) b7 λ cd=>cF 114 [b9,cd] b7 λ ce cf=>eN Tryz.prog (Op.unary .not ce) λ cg=>cV cg (fA 177 u19 1 λ ch=>lA 3 ch (drew cf) λ ci=>
 sA 31 b (i 9) (drew cf) λ cj=>kA 3 ch ci cj (sA 3 d ci cj λ ck=>R1 (some .ret) ck)) (R1 none cf)) (aft (λ D cl=>bB .add 3 bm (i 1) λ cm=>K3 (lh (D::(zK ds))) cm cl)
 (λ D cn=>mH (D::(zK ds)) cn λ co=>lA 31 b co λ awg=>lA 3 d co λ awh=>K (.tuple #[awg,awh]) co) (λ _ _ _=>False))) (fA 27 p1 5 λ cp=>lA 25 cp bn λ cq=>
 lN 25 cq λ cr=>kh (λ K4 cs ct=>∀_:Env,
 bA .lss 3 cs cr λ cu=>cV cu (iA 25 cq cs λ cv=>lA 85 cv ct λ cw=>aL 85 ct λ c21 cx=>sA 85 c21 cw cx λ cy=>fA 85 c21 0 λ cz=>lA 82 cz cy λ c0=>lN 82 c0 λ c1=>
 kh (λ K5 c2 c3=>∀_:Env,
 bA .lss 3 c2 c1 λ c4=>cV c4 (iA 82 c0 c2 λ c5=>lA 164 c5 c3 λ c6=>aL 164 c3 λ c7 c8=>sA 164 c7 c6 c8 λ c9=>fc (λ K6=>fA 164 c7 0 λ da=>lA 3 da c9 λ db=>
 bB .eql 3 db (i 2) λ dc=>cV dc (fA 164 c7 2 λ dd=>lA 9 dd c9 λ de=>JB Tryz.prog (Instr.lookup 165 j de false) c9 λ df=>bB .neq 3 df (i 1) λ dg=>K6 dg c9) (K6 ff c9))
 (λ dh di=>∀_:Env,
 cV dh (fA 164 c7 3 λ dj=>lA 3 dj (drew di) λ dk=>sA 31 b (i 9) (drew di) λ dl=>kA 3 dj dk dl (sA 3 d dk dl λ dm=>mH (zK ds) dm λ dn=>lA 31 b dn λ awi=>lA 3 d dn λ awj=>
 K (.tuple #[awi,awj]) dn)) (bB .add 3 c2 (i 1) λ dp=>K5 dp di))) (bB .add 3 cs (i 1) λ dq=>K4 dq c3)) (λ K5=>K5 (i 0) cy)) (sA 31 b (i 0) ct λ dr=>sA 3 d (i 0) dr λ dt=>
 mH (zK ds) dt λ du=>lA 31 b du λ awk=>lA 3 d du λ awl=>K (.tuple #[awk,awl]) du)) (λ K4=>K4 (i 0) bn))) (λ K3=>K3 (lh []) (i 0) bk))) (λ K2=>K2 (i 0) az))))
 (λ K1=>K1 (i 0) ac)))
def P48:dD:=λ i=>match i with
 | 20=>(.of [(0,[]),(1,[]),(2,[1]),(3,[])])
 | 29=>(.of [(0,[]),(1,[]),(2,[1]),(3,[])])
 | 38=>(.of [(0,[]),(1,[]),(2,[1]),(3,[])])
 | _=>.nil
theorem aiA(p0:Value)(h:S48 w K p0):CR 48 [p0] w K:=
 qz 128 P48 12 [.cell 2 31,.cell 3 3] Tryz.func48 h
theorem awm:PL 48:=dF Tryz.func48
theorem apH:PL 114:=dF Tryz.func114
theorem apI:PL 194:=dF Tryz.func194
end Go.Proofs.YtpdlpabnlkofmaaGreatDoor
namespace Go.Proofs.YtpdlpabnlkofmaaGreatDoor
open Go.Fw
theorem C194(sv:Value)(ns:List Int)(s:Int)(w:World)(hL:dC (λ _=>True) w sv ns)(hn:ns.length<=1048576):CR 194 [sv,.int .i64 s] w (λ v w'=>v=.int .i64 (rT (λ y=>decide (y=s)) ns)/\Ext w w'):=by
 have hs:=St.start w;refine eS Tryz.func194 ?_;refine aI cM (hL.ext hs.aF) ?_;refine⟨λ m x w1=>∃k:Nat,x=.int .i64 (k:Int)/\m=ns.length-k/\k<=ns.length/\(∀y∈ns.take k,decide (y=s)=false)/\St w aY [] w1,⟨_,0,rfl,rfl,Nat.zero_le _,by simp,hs⟩,?_⟩;rintro m _ w1 ⟨k,rfl,rfl,hk,eD,hs⟩ _;refine aQ (aC (λ jj=>?_) (λ _=>⟨congrArg (Value.int .i64) (iU (by rw[List.take_of_length_le (by omega)]at eD;exact eD)).symm,hs.aF⟩));obtain⟨gV,dw⟩:=gx (ns) (i:=((k:Int)).toNat) (by omega);exact aO cM hL (by omega) dw (λ _ gA=>aE bL (gA.ext hs.aF) (aH (aC (λ dO=>⟨congrArg (Value.int .i64) (lS eD dw (decide_eq_true dO.symm)).symm,hs.aF⟩) (λ dO=>aK (by omega) ⟨_,by omega,k+1,rfl,rfl,by omega,dR eD dw (decide_eq_false (λ h=>dO h.symm)),hs⟩))))
theorem C114(sv:Value)(ns:List Int)(s:Int)(w:World)(hL:dC (λ _=>True) w sv ns)(hn:ns.length<=1048576):CR 114 [sv,.int .i64 s] w (λ v w'=>v=.bool (ns.any λ y=>decide (y=s))/\Ext w w'):=by
 have hs:=St.start w;refine eS Tryz.func114 ?_;exact aT apI hs (C194 _ _ _ _ (hL.ext hs.aF) (by omega)) (λ _ _ hs=>cS ⟨vb (kF _ _),hs.aF⟩)
theorem Yg{u:UU}{l:List bN}(h:u∈ot l):u.2.2.length<=1048576:=by
 have:u.2.2.length<=2:=by
  unfold ot at h
  obtain⟨x,_,h⟩:=List.mem_flatMap.1 h
  rw[BJ]at h
  unfold se tM BH IX at h
  simp only[List.mem_append]at h
  grind
 omega
theorem C48(p:cG)(pv:bO)(w:World)(hp:Deep.dr w pv p)(hz:PZ p):CR 48 [Flat.val pv] w (λ v w'=>∃a:Int,v=.tuple #[.int .i64 (fj p),.int .i64 a]/\Ext w w'):=by
 have NA:=hp;have ah5:=C0 hz.toPS;obtain⟨bJ,bT,bK,aU,aV,bE,rfl,cR,dA,cW,cB,cC,cQ⟩:=hp;obtain⟨vf,XM,XN⟩:=(cB).open;obtain⟨yo,OT,hD4⟩:=(cC).open;have hn3:=XN.1;have hn4:=hD4.1;have hD:=XN.append hD4;have awn:=hD.1
 change (vf++yo).length=(gd p).length at awn
 have hs:=St.start w;refine aiA _ _ _ ?_;unfold S48;refine cI hs (λ bp w1 hs=>gO hs ag8 rfl (λ b2 _ hs=>gO hs ud rfl (λ b3 _ hs=>aE ep hs.p2.At (dN apw (C107 p _ _ (Deep.ext NA hs.aF) hz) ?_))));rintro _ _ ⟨bm,rfl,cO⟩;have hs:=hs.made cO;refine aN rfl (aN rfl (aN rfl (aE ep hs.p3.At (aT anZ hs (C108 p _ _ (Deep.ext NA hs.aF) hz) (λ _ he hs=>bQ (aW (λ c=>?_) (λ c=>?_)))))))
 ·have h1:j7 p=false:=by simpa using c
  have ze:fj p=8:=ce8 h1;exact aS hs.p2 jD (dI rfl) rfl (λ _ hs=>aS hs.p2 bL (dI rfl) rfl (λ _ hs=>aB jD hs.p1.hb rfl (aB bL hs.hb rfl ⟨_,by rw[ze],hs.aF⟩)))
 have h1:j7 p=true:=by simpa using c
 refine aE ep hs.p3.At (aT apk hs (C109 p _ _ (Deep.ext NA hs.aF) hz) (λ _ he hs=>aW (λ c=>?_) (λ c=>?_)))
 ·have h2:uD p=true:=c;have ze:fj p=2:=ce2 h1 h2;exact aS hs.p2 jD (dI rfl) rfl (λ _ hs=>aS hs.p2 bL (dI rfl) rfl (λ _ hs=>aB jD hs.p1.hb rfl (aB bL hs.hb rfl ⟨_,by rw[ze],hs.aF⟩)))
 have h2:uD p=false:=c;refine aE ep hs.p3.At (ek RG hs (C110 p _ vf yo _ (Deep.ext NA hs.aF) (XM.ext hs.aF) (OT.ext hs.aF) (by have:=hz.threads;omega) (by have:=hz.recover;omega)) (λ x38 w38 cO hs=>aI fq (hs).dX ?_));refine⟨λ m x w1=>∃k:Nat,x=.int .i64 (k:Int)/\m=(vf++yo).length-k/\k<=(vf++yo).length/\(∀y∈(gd p).take k,qQ y.body=false)/\St w aY [bG x38 (vf++yo),nc bm (Cj p).1,bY b3 [.int .i64 0],bY b2 [.int .i64 0],bY bp (Flat.enc (⟨bJ,bT,bK,aU,aV,bE⟩:bO))] w1,⟨_,0,rfl,rfl,Nat.zero_le _,by simp,hs⟩,?_⟩;rintro m _ _ ⟨k,rfl,rfl,hk,eD,hs⟩ _
 refine aQ (aC (λ c=>?_) (λ c=>?_))
 ·obtain⟨t,ht⟩:=gx (vf++yo) (i:=((k:Nat):Int).toNat) (by omega);obtain⟨r,hr⟩:=gx (gd p) (i:=k) (by omega);have hrm:=List.mem_of_getElem? hr;have hrz:=hz.qE hrm;have hrr:=(qj h1).qE hrm;obtain⟨gr,gb,rfl,dr,db⟩:=hD.2 _ _ _ ht hr;have hrs:=kU hrr.2.1;refine aO fq (hs).dX (by omega) ht (λ q hq=>aE mQ hq (aM hs sZ (λ bt wt hs=>aJ (x:=(⟨r.name,gr,gb,r.at_⟩:cE)) hs mQ rfl rfl (λ wu hs=>?_))));obtain⟨aoH,hbf,tb,hbt,iL,_,_⟩:=hrs;have Nv:tb.len<=40:=by rw[<- Bk.cY,<- hbt];exact aoH
  have hwl:qQ r.body=mr tb 1:=by rw[hbt];exact ve iL
  refine aA lj (aB (v:=Flat.val gb) jF hs.hb rfl (dN af7 (C111 _ tb 1 (tb.len+1) _ (by rw[<- hbt];exact DL.ext db hs.aF) iL (by rw[<- hbt];exactλ x hx=>IF (hbf x hx)) (by omega) (by omega) (Nat.lt_succ_self _)) ?_));rintro _ _ ⟨aa,rfl,he⟩;have hs:=hs.ext he;refine aN rfl (aN rfl (aW (λ c9=>?_) (λ c9=>?_)))
  ·have h3:(gd p).any (λ t=>qQ t.body)=true:=gU hr (by rw[hwl];exact c9);have ze:fj p=11:=aoi h1 h2 h3;exact aS hs.p4 jD (dI rfl) rfl (λ _ hs=>aS hs.p4 bL (dI rfl) rfl (λ _ hs=>aB jD hs.p1.hb rfl (aB bL hs.hb rfl ⟨_,by rw[ze],hs.aF⟩)))
  exact aK (by omega) (have hs:=hs.drop;⟨_,by omega,k+1,rfl,rfl,by omega,dR eD hr (by rw[hwl];exact c9),hs⟩)
 have h3:(gd p).any (λ t=>qQ t.body)=false:=il (by rw[List.take_of_length_le (by omega)]at eD;exact eD);have hs:=hs.drop;refine aW (λ c10=>?_) (λ c10=>?_)
 ·have h4:j9 (fJ p)=true:=by rw[<- X9];exact c10
  have ze:fj p=10:=aoj h1 h2 h3 h4;exact aS hs.p2 jD (dI rfl) rfl (λ _ hs=>aS hs.p2 bL (dI rfl) rfl (λ _ hs=>aB jD hs.p1.hb rfl (aB bL hs.hb rfl ⟨_,by rw[ze],hs.aF⟩)))
 have h4:j9 (fJ p)=false:=by rw[<- X9];exact c10
 refine aE ep hs.p3.At (ek RG hs (C110 p _ vf yo _ (Deep.ext NA hs.aF) (XM.ext hs.aF) (OT.ext hs.aF) (by have:=hz.threads;omega) (by have:=hz.recover;omega)) (λ x56 _ cO hs=>aI fq (hs).dX ?_))
 clear eD
 refine⟨λ m x w1=>∃k:Nat,x=.int .i64 (k:Int)/\m=(vf++yo).length-k/\k<=(vf++yo).length/\(∀y∈(gd p).take k,uC p y.dL=false)/\St w aY [bG x56 (vf++yo),nc bm (Cj p).1,bY b3 [.int .i64 0],bY b2 [.int .i64 0],bY bp (Flat.enc (⟨bJ,bT,bK,aU,aV,bE⟩:bO))] w1,⟨_,0,rfl,rfl,Nat.zero_le _,by simp,hs⟩,?_⟩;rintro m _ _ ⟨k,rfl,rfl,hk,eD,hs⟩ _;refine aQ (aC (λ c=>?_) (λ c=>?_))
 ·obtain⟨t,ht⟩:=gx (vf++yo) (i:=((k:Nat):Int).toNat) (by omega);obtain⟨r,hr⟩:=gx (gd p) (i:=k) (by omega);have hrm:=List.mem_of_getElem? hr;have hrz:=hz.qE hrm;have hrr:=(qj h1).qE hrm;obtain⟨gr,gb,rfl,dr,db⟩:=hD.2 _ _ _ ht hr;have hrs:=kU hrr.2.1;refine aO fq (hs).dX (by omega) ht (λ q hq=>aE mQ hq (aM hs sZ (λ bt wt hs=>aJ (x:=(⟨r.name,gr,gb,r.at_⟩:cE)) hs mQ rfl rfl (λ wu hs=>aE mQ hs.At (dN aga (C112 (⟨r.name,gr,gb,r.at_⟩:cE) r.dL bm (Cj p).1 _ (DL.flat (DL.ext dr hs.aF)) hs.p2.nc (O6 p) (by omega)) ?_)))))
  rcases IY h4 r.dL with⟨A6,IG⟩|⟨g,A6,IG,_⟩
  ·rintro _ w24 (⟨_,rfl,he⟩|⟨g,bg,Tw,_⟩);rotate_left
   ·rw[A6]at Tw;cases Tw
   have hs:=hs.ext he;have h5:(gd p).any (λ t=>uC p t.dL)=true:=gU hr IG;refine aN rfl (aN rfl (ig (aA pX (have hs:=hs.drew;aB (v:=.int .i64 r.at_) bL hs.hb rfl ?_))));have ze:fj p=10:=afT h1 h2 h3 h4 h5;refine aS hs.p4 jD (dI rfl) rfl (λ wa hs=>?_);refine⟨aG bL (hs.p1.hb.cell rfl),?_⟩;exact aS hs.p4 bL (dI rfl) rfl (λ _ hs=>aB jD hs.p1.hb rfl (aB bL hs.hb rfl ⟨_,by rw[ze],hs.aF⟩))
  rintro _ w24 (⟨Tw,_⟩|⟨g2,bg,Tw,rfl,cO⟩)
  ·rw[A6]at Tw;cases Tw
  have hs:=(hs.made cO).drop.drop;exact aN rfl (aN rfl (fm (aK (by omega) ⟨_,by omega,k+1,rfl,rfl,by omega,dR eD hr IG,hs⟩)))
 have h5:(gd p).any (λ t=>uC p t.dL)=false:=il (by rw[List.take_of_length_le (by omega)]at eD;exact eD);have hs:=hs.drop;refine aE ep hs.p3.At (ek RG hs (C110 p _ vf yo _ (Deep.ext NA hs.aF) (XM.ext hs.aF) (OT.ext hs.aF) (by have:=hz.threads;omega) (by have:=hz.recover;omega)) (λ x73 _ cO hs=>aI fq (hs).dX ?_))
 clear eD
 have hs:=O4.nil hs;refine⟨λ m dv x w1=>∃(k:Nat) (ds:List Nat),dv=lh ds/\x=.int .i64 (k:Int)/\m=(vf++yo).length-k/\k<=(vf++yo).length/\(∀y∈(gd p).take k,y.body.any (mU p y.dL)=false)/\St w aY [O4 ds,bG x73 (vf++yo),nc bm (Cj p).1,bY b3 [.int .i64 0],bY b2 [.int .i64 0],bY bp (Flat.enc (⟨bJ,bT,bK,aU,aV,bE⟩:bO))] w1,⟨_,0,[],rfl,rfl,rfl,Nat.zero_le _,by simp,hs⟩,?_⟩;rintro m _ _ _ ⟨k,ds,rfl,rfl,rfl,hk,eD,hs⟩ _;rw[Bc];refine aQ (aC (λ c=>?_) (λ c=>?_))
 ·obtain⟨t,ht⟩:=gx (vf++yo) (i:=((k:Nat):Int).toNat) (by omega);obtain⟨r,hr⟩:=gx (gd p) (i:=k) (by omega);have hrm:=List.mem_of_getElem? hr;have hrz:=hz.qE hrm;have hrr:=(qj h1).qE hrm;obtain⟨gr,gb,rfl,dr,db⟩:=hD.2 _ _ _ ht hr;have hrs:=kU hrr.2.1;refine aO fq (hs.p1).dX (by omega) ht (λ q hq=>aE mQ hq (aM hs sZ (λ bt wt hs=>aJ (x:=(⟨r.name,gr,gb,r.at_⟩:cE)) hs mQ rfl rfl (λ wu hs=>?_))))
  have h5r:uC p r.dL=false:=by
   cases hh:uC p r.dL with
   | false=>rfl
   | true=>exact absurd (gU (g:=λ t:cN=>uC p t.dL) hr hh) (by rw[h5];decide)
  refine aE mQ hs.At (dN aga (C112 (⟨r.name,gr,gb,r.at_⟩:cE) r.dL bm (Cj p).1 _ (DL.flat (DL.ext dr hs.aF)) hs.p3.nc (O6 p) (by omega)) ?_)
  rcases IY h4 r.dL with⟨_,IG⟩|⟨g,A6,IG,_⟩
  ·rw[IG]at h5r;cases h5r
  rintro _ w31 (⟨Tw,_⟩|⟨g2,bg,Tw,rfl,cO⟩)
  ·rw[A6]at Tw;cases Tw
  obtain rfl:g=g2:=Option.some.inj (A6.symm.trans Tw);have hs:=hs.made cO;refine aN rfl (aN rfl (gO hs QV rfl (λ b17 _ hs=>aS hs GB (dI rfl) rfl (λ _ hs=>aA lj (aB (v:=Flat.val gb) jF hs.p2.hb rfl (dN apz (C113 gb _) ?_))))));rintro _ _ ⟨bu,rfl,apK⟩;have hs:=hs.made apK;have hbz:=hrz.1.2.2;have apL:=Yf h4 A6 hrs.2.1;obtain⟨tsb,hRb,hDb⟩:=db.open
  refine X1 (cap:=[.pointer (some ⟨bu,0,none⟩)]) (ot r.body).length (RK (ot r.body)) apA hs
   (λ j M=>(∀i,i<j->∀u,(ot r.body)[i]?=some u->CC g u=false)/\M=[bY bu [Flat.val gb],bY b17 [.map (some bg)],nc bg g,bY bt (Flat.enc (⟨r.name,gr,gb,r.at_⟩:cE)),O4 ds,bG x73 (vf++yo),nc bm (Cj p).1,bY b3 [.int .i64 0],bY b2 [.int .i64 0],bY bp (Flat.enc (⟨bJ,bT,bK,aU,aV,bE⟩:bO))])
   (λ cx M=>cx=.ret/\(ot r.body).any (CC g)=true/\∃a L,M=bY b3 [.int .i64 a]::bY b2 [.int .i64 9]::O4 ds::L) ⟨λ _ hi=>absurd hi (Nat.not_lt_zero _),rfl⟩ (by rintro j a Φ ⟨u,s,_,rfl,_⟩;rfl) ?_ ?_ ?_ ?_ ?_ ?_
  ·intro y Y Jx W h0 hy;refine(C192 y bu (Flat.val gb) tsb r.body w aY _ Jx W (by omega) (λ x hx=>⟨(hbz x hx).2.2.1,(hbz x hx).2.2.2.1⟩) ?_ ?_ hy).mono λ _ _ rr=>rr.mono λ v W' h=>?_
   ·rintro j _ W2 ⟨M,⟨_,rfl⟩,rfl⟩ hs2;exact⟨hs2.p1.hb.cell rfl,hRb.ext hs2.aF,hDb.ext hs2.aF⟩
   ·obtain⟨M,h1,h2⟩:=h0;exact⟨_,⟨M,h1,rfl⟩,h2⟩
   rcases h with⟨_,⟨M,h1,rfl⟩,h2⟩|h
   ·exact .inl ⟨M,h1,h2⟩
   exact .inr h
  ·rintro j args Φ Y1 Y2 B Kr M W ⟨u,s,hu,rfl,TC⟩ ⟨hjn,rfl⟩ hΦ hB hN hR hs;dsimp only[Du];refine aM hs abC (λ b9 _ hs=>aJ (x:=(⟨u.1,u.2.1,s⟩:IV)) hs amY rfl rfl (λ _ hs=>?_));refine hB _ _ _ hs.p1 (λ w38 hs=>?_);refine aA VD (aB (v:=Flat.val s) eg hs.p1.hb rfl (aB GB hs.p3.hb rfl (aA VB (aB (v:=.string u.1) gj hs.p1.hb rfl (xE hs.p4.nc Tryz.underlying165 Tryz.underlying9 ud ?_)))))
   have UB:dC (λ _=>True) w38 (Flat.val s) u.2.2:=by
    obtain⟨F,h1,_⟩:=hs.head;exact TC _ (hΦ _ _ h1)
   have hul:u.2.2.length<=1048576:=Yg (List.mem_of_getElem? hu);refine aT apH hs (C114 _ u.2.2 (eE g u.1) _ UB hul) (λ _ he hs=>bQ (aW (λ c11=>aA VC (have hs:=hs.drew;aB (v:=.int .i64 u.2.1) bL hs.p1.hb rfl (have hs:=(hs.p2).drop;aS hs.p9 jD (dI rfl) rfl (λ _ hs=>⟨aG bL (hs.p2.hb.cell rfl),aS hs.p9 bL (dI rfl) rfl (λ _ hs=>hR .ret _ _ ((((hs.p7).p2).p2).p3) ⟨rfl,gU hu (by unfold CC;exact c11),_,_,rfl⟩)⟩)))) (λ c11=>?_)));refine hN _ _ (hs.p1).drop ⟨λ i hi u2 hu2=>?_,rfl⟩
   rcases Nat.lt_or_ge i j with h|h
   ·exact hjn i h u2 hu2
   obtain rfl:i=j:=by omega
   rw[hu]at hu2;cases hu2
   unfold CC;exact c11
  ·rintro D M W ⟨hjn,rfl⟩ hs;refine aK (by omega) ?_;have hs:=St.join (H1:=ny D (.deferred (some []))) hs.p1.drop.p1.drop.p1.drop.p1.drop;refine⟨_,by omega,k+1,D::ds,rfl,rfl,rfl,by omega,dR eD hr ?_,hs⟩;rw[<- apL];refine il λ u hu=>?_;obtain⟨i,hi⟩:=List.mem_iff_getElem?.1 hu;exact hjn i (List.getElem?_eq_some_iff.1 hi).1 u hi
  ·rintro D M W ⟨_,aws,a,L,rfl⟩ hs;have h6:(gd p).any (λ t=>t.body.any (mU p t.dL))=true:=gU hr (by rw[<- apL];exact aws);have ze:fj p=9:=ce9 h1 h2 h3 h4 h5 h6;have hs:=St.join (H1:=ny D (.deferred (some []))) (hs.p3.p1);refine O4.take (D::ds) hs (λ _ hs=>?_);exact aB jD hs.p1.hb rfl (aB bL hs.hb rfl ⟨_,by rw[ze],hs.aF⟩)
  ·rintro id D M W ⟨h,_⟩;cases h
  rintro cx M ⟨h,_⟩;exact .inr h
 have h6:(gd p).any (λ t=>t.body.any (mU p t.dL))=false:=il (by rw[List.take_of_length_le (by omega)]at eD;exact eD);have hs:=hs.p1.drop;have hzc:=hz.dP;obtain⟨ts5,hR5,hD5⟩:=(cQ).open;have C5:=hD5.1;refine aA jn (aB (v:=Flat.val bE) qB hs.p4.hb rfl (aI sJ (hR5.ext hs.aF) ?_))
 clear eD
 refine⟨λ m x w1=>∃k:Nat,x=.int .i64 (k:Int)/\m=ts5.length-k/\k<=ts5.length/\(∀y∈p.dP.take k,oN y.e (gg p)=false)/\St w aY [O4 ds,nc bm (Cj p).1,bY b3 [.int .i64 0],bY b2 [.int .i64 0],bY bp (Flat.enc (⟨bJ,bT,bK,aU,aV,bE⟩:bO))] w1,⟨_,0,rfl,rfl,Nat.zero_le _,by simp,hs⟩,?_⟩;rintro m _ _ ⟨k2,rfl,rfl,vD,eD,hs⟩ _;refine aQ (aC (λ c12=>?_) (λ c12=>?_))
 ·obtain⟨t,ht⟩:=gx ts5 (i:=((k2:Nat):Int).toNat) (by omega);obtain⟨r,hr⟩:=gx p.dP (i:=k2) (by omega);have hrz:=hz.zc r (List.mem_of_getElem? hr);obtain⟨ge,rfl,de⟩:=hD5.2 _ _ _ ht hr;have dE:=DL.flat de;refine aO sJ (hR5.ext hs.aF) (by omega) ht (λ q hq=>aE Ib hq (aM hs N0 (λ bc _ hs=>aJ (x:=(⟨ge,r.at_⟩:jr)) hs Ib rfl rfl (λ _ hs=>aA uZ (aB (v:=Flat.val ge) jo hs.hb rfl (aI gN (dE.ext hs.aF) ?_))))));have hvc:=O8 h4 r.e;refine⟨λ m x w1=>∃j:Nat,x=.int .i64 (j:Int)/\m=r.e.length-j/\j<=r.e.length/\(∀y∈r.e.take j,(decide (y.op=2)&&decide (¬ eE (Cj p).1 y.name=1))=false)/\St w aY [bY bc (Flat.enc (⟨ge,r.at_⟩:jr)),O4 ds,nc bm (Cj p).1,bY b3 [.int .i64 0],bY b2 [.int .i64 0],bY bp (Flat.enc (⟨bJ,bT,bK,aU,aV,bE⟩:bO))] w1,⟨_,0,rfl,rfl,Nat.zero_le _,by simp,hs⟩,?_⟩
  rintro m _ _ ⟨j,rfl,rfl,hj,hnj,hs⟩ _;refine aQ (aC (λ c13=>?_) (λ c13=>?_))
  ·obtain⟨y,hy⟩:=gx r.e (i:=((j:Nat):Int).toNat) (by omega);refine aO gN (dE.ext hs.aF) (by omega) hy (λ q hq=>aE rK hq (aM hs xw (λ by_ _ hs=>aJ (x:=y) hs rK rfl rfl (λ w50 hs=>?_))));refine⟨λ jv w'=>jv=.bool (decide (y.op=2)&&decide (¬ eE (Cj p).1 y.name=1))/\w'=w50,?_,?_⟩
   ·exact aA eU (aB (v:=.int .i64 y.op) bL hs.hb rfl (aH (aC (λ c14=>aA fY (aB (v:=.string y.name) gj hs.hb rfl (xE hs.p3.nc Tryz.underlying165 Tryz.underlying9 ud (bV ⟨vb (by rw[decide_eq_true c14,Bool.true_and]),rfl⟩)))) (λ c14=>⟨vb (by rw[decide_eq_false c14,Bool.false_and]),rfl⟩))))
   rintro _ _ ⟨rfl,rfl⟩ _;refine aW (λ c15=>?_) (λ c15=>aK (by omega) ⟨_,by omega,j+1,rfl,rfl,by omega,dR hnj hy c15,hs.drop⟩);have h7:p.dP.any (λ c=>oN c.e (gg p))=true:=gU hr (by rw[<- hvc];exact gU hy c15);have ze:fj p=9:=aok h1 h2 h3 h4 h5 h6 h7;refine aA rL (have hs:=hs.drew;aB (v:=.int .i64 y.at_) bL hs.hb rfl (aS hs.p5 jD (dI rfl) rfl (λ wa hs=>?_)));refine⟨aG bL (hs.p1.hb.cell rfl),?_⟩;refine aS hs.p5 bL (dI rfl) rfl (λ wb hs=>?_);refine O4.take ds hs.p4 (λ w54 hs=>?_);exact aB jD hs.p1.hb rfl (aB bL hs.hb rfl ⟨_,by rw[ze],hs.aF⟩)
  refine aK (by omega) ?_;refine⟨_,by omega,k2+1,rfl,rfl,by omega,dR eD hr ?_,hs.drop⟩;rw[<- hvc];exact il (by rw[List.take_of_length_le (by omega)]at hnj;exact hnj)
 have h7:p.dP.any (λ c=>oN c.e (gg p))=false:=il (by rw[List.take_of_length_le (by omega)]at eD;exact eD);have ze:fj p=0:=ce0 h1 h2 h3 h4 h5 h6 h7;refine aS hs.p3 jD (dI rfl) rfl (λ wa hs=>aS hs.p3 bL (dI rfl) rfl (λ wb hs=>?_));refine O4.take ds hs.p2 (λ w54 hs=>?_);exact aB jD hs.p1.hb rfl (aB bL hs.hb rfl ⟨_,by rw[ze],hs.aF⟩)
theorem C83(sv:Value)(xs:List Int)(w:World)(hL:dC (λ _=>True) w sv xs)(hn:xs.length<=1000000):CR 83 [sv] w (λ v w'=>lL (bG v xs) w w'):=by
 have hs:=St.start w;refine eS Tryz.func83 ?_;refine S5 Tryz.underlying41 (hL.ext hs.aF) (λ p hp=>aW (λ IB=>?_) (λ IB=>?_))
 ·have hx:=hp IB;subst hx;exact(hs.eJ (α:=Int)).fresh
 refine aX (([]:List Int)) hs cM rfl rfl (dI rfl) (λ Oe _ hs=>?_);have Lw:=(hL.ext hs.aF);exact bI hs cM Lw (by simp;omega) (by decide) (λ _ _ hs=>hs.fresh)
def jS(x y:bH):Bool:=decide (x.kind≠7/\y.kind≠7/\(x.kind=6\/y.kind=6)/\x.line≠y.line)
def right(x:bH):Bool:=decide ((x.kind=3/\0<=x.line/\0<=x.cell)\/((x.kind=5\/x.kind=6)/\0<=x.line/\x.cell=0/\x.n=0)\/(x.kind=7/\x.line=0/\x.cell=0/\x.n=0))
theorem C260(x y:bH)(w:World):CR 260 [Flat.val x,Flat.val y] w (λ v w'=>v=.bool (jS x y)/\Ext w w'):=by
 have hs:=St.start w;refine eS Tryz.func260 ?_;refine cI hs (λ vQ _ hs=>cI hs (λ apN _ hs=>?_));refine⟨_,?_,λ _ _ h=>h⟩;refine aA gv (aB bL hs.p1.hb rfl (aH (aC (λ fL=>?_) (λ fL=>?_))))
 ·intro sK;refine⟨_,?_,λ _ _ h=>h⟩;refine bQ (fm ?_);intro vz;refine⟨vb ?_,hs.aF⟩;unfold jS
  first|exact(decide_eq_true (by omega)).symm|exact(decide_eq_false (by omega)).symm|exact decide_eq_decide.2 (by omega)|exact decide_eq_decide.2 (bH.ext_iff.trans (by dsimp only;omega))
 refine aA gv (aB bL hs.hb rfl (aH ?_));intro sK;refine⟨_,?_,λ _ _ h=>h⟩
 first|refine J9 ?_|refine bQ ?_
 refine aC (λ ji=>aA gv (aB bL hs.p1.hb rfl (aH (aC (λ eQ=>?_) (λ eQ=>aA gv (aB bL hs.hb rfl (aH (aC (λ mS=>?_) (λ mS=>?_))))))))) (λ ji=>?_)
 ·refine aA gQ (aB bL hs.p1.hb rfl (aA gQ (aB bL hs.hb rfl (bV ?_))));intro vz;refine⟨vb ?_,hs.aF⟩;unfold jS
  first|exact(decide_eq_true (by omega)).symm|exact(decide_eq_false (by omega)).symm|exact decide_eq_decide.2 (by omega)|exact decide_eq_decide.2 (bH.ext_iff.trans (by dsimp only;omega))
 ·refine aA gQ (aB bL hs.p1.hb rfl (aA gQ (aB bL hs.hb rfl (bV ?_))));intro vz;refine⟨vb ?_,hs.aF⟩;unfold jS
  first|exact(decide_eq_true (by omega)).symm|exact(decide_eq_false (by omega)).symm|exact decide_eq_decide.2 (by omega)|exact decide_eq_decide.2 (bH.ext_iff.trans (by dsimp only;omega))
 ·intro vz;refine⟨vb ?_,hs.aF⟩;unfold jS
  first|exact(decide_eq_true (by omega)).symm|exact(decide_eq_false (by omega)).symm|exact decide_eq_decide.2 (by omega)|exact decide_eq_decide.2 (bH.ext_iff.trans (by dsimp only;omega))
 intro vz;refine⟨vb ?_,hs.aF⟩;unfold jS
 first|exact(decide_eq_true (by omega)).symm|exact(decide_eq_false (by omega)).symm|exact decide_eq_decide.2 (by omega)|exact decide_eq_decide.2 (bH.ext_iff.trans (by dsimp only;omega))
theorem C222(x y:bH)(w:World):CR 222 [Flat.val x,Flat.val y] w (λ v w'=>v=.bool (jS x y)/\Ext w w'):=by
 have hs:=St.start w;refine eS Tryz.func222 ?_;refine cI hs (λ vQ _ hs=>cI hs (λ b_y3 _ hs=>?_));refine⟨_,?_,λ _ _ h=>h⟩;refine aA gv (aB bL hs.p1.hb rfl (aH (aC (λ gH=>?_) (λ gH=>aA gv (aB bL hs.hb rfl (aH (aC (λ ju=>?_) (λ ju=>?_))))))))
 ·intro sK;refine ig ?_;refine⟨vb ?_,hs.aF⟩;unfold jS
  first|exact(decide_eq_true (by omega)).symm|exact(decide_eq_false (by omega)).symm|exact decide_eq_decide.2 (by omega)|exact decide_eq_decide.2 (bH.ext_iff.trans (by dsimp only;omega))
 ·intro sK;refine ig ?_;refine⟨vb ?_,hs.aF⟩;unfold jS
  first|exact(decide_eq_true (by omega)).symm|exact(decide_eq_false (by omega)).symm|exact decide_eq_decide.2 (by omega)|exact decide_eq_decide.2 (bH.ext_iff.trans (by dsimp only;omega))
 refine aA gQ (aB bL hs.p1.hb rfl (aA gQ (aB bL hs.hb rfl (aH ?_))));intro sK;refine aC (λ eQ=>?_) (λ eQ=>⟨_,aA gv (aB bL hs.p1.hb rfl (aH (aC (λ iF=>?_) (λ iF=>?_)))),λ _ _ h=>h⟩)
 ·refine⟨vb ?_,hs.aF⟩;unfold jS
  first|exact(decide_eq_true (by omega)).symm|exact(decide_eq_false (by omega)).symm|exact decide_eq_decide.2 (by omega)|exact decide_eq_decide.2 (bH.ext_iff.trans (by dsimp only;omega))
 ·intro vz;refine⟨vb ?_,hs.aF⟩;unfold jS
  first|exact(decide_eq_true (by omega)).symm|exact(decide_eq_false (by omega)).symm|exact decide_eq_decide.2 (by omega)|exact decide_eq_decide.2 (bH.ext_iff.trans (by dsimp only;omega))
 refine aA gv (aB bL hs.hb rfl (aH ?_));intro vz;refine⟨vb ?_,hs.aF⟩;unfold jS
 first|exact(decide_eq_true (by omega)).symm|exact(decide_eq_false (by omega)).symm|exact decide_eq_decide.2 (by omega)|exact decide_eq_decide.2 (bH.ext_iff.trans (by dsimp only;omega))
theorem eqE(x y:bH):uc (Flat.enc x) (Flat.enc y)=decide (x=y):=by
 obtain⟨a,b,c,d⟩:=x
 obtain⟨a2,b2,c2,d2⟩:=y
 simp[Flat.enc,uc,eqV,Bool.eq_iff_iff]
theorem C228(x:bH)(w:World):CR 228 [Flat.val x] w (λ v w'=>v=.bool (right x)/\Ext w w'):=by
 have hs:=St.start w;refine eS Tryz.func228 ?_;refine cI hs (λ yS _ hs=>aA gv (aB bL hs.hb rfl (aH (aC (λ pk=>⟨_,aA gQ (aB bL hs.hb rfl (cS (aC (λ jj=>?_) (λ jj=>?_)))),λ _ _ h=>h⟩) (λ pk=>⟨_,aH (aC (λ dO=>?_) (λ dO=>?_)),λ _ _ h=>h⟩)))))
 ·refine aA mc (aB bL hs.hb rfl (cS ?_));intro sK;refine⟨vb ?_,hs.aF⟩;unfold right
  first|exact(decide_eq_true (by omega)).symm|exact(decide_eq_false (by omega)).symm|exact decide_eq_decide.2 (by omega)|exact decide_eq_decide.2 (bH.ext_iff.trans (by dsimp only;omega))
 ·intro sK;refine⟨vb ?_,hs.aF⟩;unfold right
  first|exact(decide_eq_true (by omega)).symm|exact(decide_eq_false (by omega)).symm|exact decide_eq_decide.2 (by omega)|exact decide_eq_decide.2 (bH.ext_iff.trans (by dsimp only;omega))
 ·intro vz;refine aC (λ ji=>⟨_,aA gQ (aB bL hs.hb rfl (cS (aC (λ og=>aA mc (aB bL hs.hb rfl (aH (aC (λ nD=>?_) (λ nD=>?_))))) (λ og=>?_)))),λ _ _ h=>h⟩) (λ ji=>?_)
  ·refine aA oG (aB bL hs.hb rfl (aH ?_));intro xB;refine⟨vb ?_,hs.aF⟩;unfold right
   first|exact(decide_eq_true (by omega)).symm|exact(decide_eq_false (by omega)).symm|exact decide_eq_decide.2 (by omega)|exact decide_eq_decide.2 (bH.ext_iff.trans (by dsimp only;omega))
  ·intro xB;refine⟨vb ?_,hs.aF⟩;unfold right
   first|exact(decide_eq_true (by omega)).symm|exact(decide_eq_false (by omega)).symm|exact decide_eq_decide.2 (by omega)|exact decide_eq_decide.2 (bH.ext_iff.trans (by dsimp only;omega))
  ·intro xB;refine⟨vb ?_,hs.aF⟩;unfold right
   first|exact(decide_eq_true (by omega)).symm|exact(decide_eq_false (by omega)).symm|exact decide_eq_decide.2 (by omega)|exact decide_eq_decide.2 (bH.ext_iff.trans (by dsimp only;omega))
  refine aE ic hs.At (pop (z6 _) (Gx VS rfl rfl (eqE x ⟨7,0,0,0⟩) ?_));refine⟨vb ?_,hs.aF⟩;unfold right
  first|exact(decide_eq_true (by omega)).symm|exact(decide_eq_false (by omega)).symm|exact decide_eq_decide.2 (by omega)|exact decide_eq_decide.2 (bH.ext_iff.trans (by dsimp only;omega))
 refine aH ?_;intro vz;refine aC (λ ji=>⟨_,aA gQ (aB bL hs.hb rfl (cS (aC (λ og=>aA mc (aB bL hs.hb rfl (aH (aC (λ nD=>?_) (λ nD=>?_))))) (λ og=>?_)))),λ _ _ h=>h⟩) (λ ji=>?_)
 ·refine aA oG (aB bL hs.hb rfl (aH ?_));intro xB;refine⟨vb ?_,hs.aF⟩;unfold right
  first|exact(decide_eq_true (by omega)).symm|exact(decide_eq_false (by omega)).symm|exact decide_eq_decide.2 (by omega)|exact decide_eq_decide.2 (bH.ext_iff.trans (by dsimp only;omega))
 ·intro xB;refine⟨vb ?_,hs.aF⟩;unfold right
  first|exact(decide_eq_true (by omega)).symm|exact(decide_eq_false (by omega)).symm|exact decide_eq_decide.2 (by omega)|exact decide_eq_decide.2 (bH.ext_iff.trans (by dsimp only;omega))
 ·intro xB;refine⟨vb ?_,hs.aF⟩;unfold right
  first|exact(decide_eq_true (by omega)).symm|exact(decide_eq_false (by omega)).symm|exact decide_eq_decide.2 (by omega)|exact decide_eq_decide.2 (bH.ext_iff.trans (by dsimp only;omega))
 refine aE ic hs.At (pop (z6 _) (Gx VS rfl rfl (eqE x ⟨7,0,0,0⟩) ?_));refine⟨vb ?_,hs.aF⟩;unfold right
 first|exact(decide_eq_true (by omega)).symm|exact(decide_eq_false (by omega)).symm|exact decide_eq_decide.2 (by omega)|exact decide_eq_decide.2 (bH.ext_iff.trans (by dsimp only;omega))
theorem C277(x:bH)(w:World):CR 277 [Flat.val x] w (λ v w'=>v=.bool (right x)/\Ext w w'):=by
 have hs:=St.start w;refine eS Tryz.func277 ?_;refine cI hs (λ yS _ hs=>aA gv (aB bL hs.hb rfl (aH (aC (λ Yh=>⟨_,aA gQ (aB bL hs.hb rfl (cS (aC (λ fL=>?_) (λ fL=>?_)))),λ _ _ h=>h⟩) (λ Yh=>⟨_,aA mc (aB bL hs.hb rfl (bV (aC (λ dO=>?_) (λ dO=>?_)))),λ _ _ h=>h⟩)))))
 ·refine aA mc (aB bL hs.hb rfl (cS ?_));intro sK;refine⟨vb ?_,hs.aF⟩;unfold right
  first|exact(decide_eq_true (by omega)).symm|exact(decide_eq_false (by omega)).symm|exact decide_eq_decide.2 (by omega)|exact decide_eq_decide.2 (bH.ext_iff.trans (by dsimp only;omega))
 ·intro sK;refine⟨vb ?_,hs.aF⟩;unfold right
  first|exact(decide_eq_true (by omega)).symm|exact(decide_eq_false (by omega)).symm|exact decide_eq_decide.2 (by omega)|exact decide_eq_decide.2 (bH.ext_iff.trans (by dsimp only;omega))
 ·intro vz;refine ig ?_;refine⟨vb ?_,hs.aF⟩;unfold right
  first|exact(decide_eq_true (by omega)).symm|exact(decide_eq_false (by omega)).symm|exact decide_eq_decide.2 (by omega)|exact decide_eq_decide.2 (bH.ext_iff.trans (by dsimp only;omega))
 refine aA oG (aB bL hs.hb rfl (bV ?_));intro vz;refine aC (λ kD=>?_) (λ kD=>⟨_,aA gv (aB bL hs.hb rfl (aH (aC (λ nD=>aA gQ (aB bL hs.hb rfl (cS (aC (λ yt=>?_) (λ yt=>aA gv (aB bL hs.hb rfl (aH (aC (λ ti=>?_) (λ ti=>?_))))))))) (λ nD=>?_)))),λ _ _ h=>h⟩)
 ·refine⟨vb ?_,hs.aF⟩;unfold right
  first|exact(decide_eq_true (by omega)).symm|exact(decide_eq_false (by omega)).symm|exact decide_eq_decide.2 (by omega)|exact decide_eq_decide.2 (bH.ext_iff.trans (by dsimp only;omega))
 ·intro xB;refine⟨vb ?_,hs.aF⟩;unfold right
  first|exact(decide_eq_true (by omega)).symm|exact(decide_eq_false (by omega)).symm|exact decide_eq_decide.2 (by omega)|exact decide_eq_decide.2 (bH.ext_iff.trans (by dsimp only;omega))
 ·refine aA gQ (aB bL hs.hb rfl (aH ?_));intro xB;refine⟨vb ?_,hs.aF⟩;unfold right
  first|exact(decide_eq_true (by omega)).symm|exact(decide_eq_false (by omega)).symm|exact decide_eq_decide.2 (by omega)|exact decide_eq_decide.2 (bH.ext_iff.trans (by dsimp only;omega))
 ·intro xB;refine⟨vb ?_,hs.aF⟩;unfold right
  first|exact(decide_eq_true (by omega)).symm|exact(decide_eq_false (by omega)).symm|exact decide_eq_decide.2 (by omega)|exact decide_eq_decide.2 (bH.ext_iff.trans (by dsimp only;omega))
 refine aA gv (aB bL hs.hb rfl (aH (aC (λ LP=>aA gQ (aB bL hs.hb rfl (cS (aC (λ adg=>?_) (λ adg=>aA gv (aB bL hs.hb rfl (aH (aC (λ adh=>?_) (λ adh=>?_))))))))) (λ LP=>aA gv (aB bL hs.hb rfl (aH (aC (λ adi=>?_) (λ adi=>?_))))))))
 ·intro xB;refine⟨vb ?_,hs.aF⟩;unfold right
  first|exact(decide_eq_true (by omega)).symm|exact(decide_eq_false (by omega)).symm|exact decide_eq_decide.2 (by omega)|exact decide_eq_decide.2 (bH.ext_iff.trans (by dsimp only;omega))
 ·refine aA gQ (aB bL hs.hb rfl (aH ?_));intro xB;refine⟨vb ?_,hs.aF⟩;unfold right
  first|exact(decide_eq_true (by omega)).symm|exact(decide_eq_false (by omega)).symm|exact decide_eq_decide.2 (by omega)|exact decide_eq_decide.2 (bH.ext_iff.trans (by dsimp only;omega))
 ·intro xB;refine⟨vb ?_,hs.aF⟩;unfold right
  first|exact(decide_eq_true (by omega)).symm|exact(decide_eq_false (by omega)).symm|exact decide_eq_decide.2 (by omega)|exact decide_eq_decide.2 (bH.ext_iff.trans (by dsimp only;omega))
 ·refine aA gQ (aB bL hs.hb rfl (aH ?_));intro xB;refine⟨vb ?_,hs.aF⟩;unfold right
  first|exact(decide_eq_true (by omega)).symm|exact(decide_eq_false (by omega)).symm|exact decide_eq_decide.2 (by omega)|exact decide_eq_decide.2 (bH.ext_iff.trans (by dsimp only;omega))
 intro xB;refine⟨vb ?_,hs.aF⟩;unfold right
 first|exact(decide_eq_true (by omega)).symm|exact(decide_eq_false (by omega)).symm|exact decide_eq_decide.2 (by omega)|exact decide_eq_decide.2 (bH.ext_iff.trans (by dsimp only;omega))
def q9(l:List bH)(i:Int):Bool:=decide (0<=i/\i<l.length)&&(match l[i.toNat]? with|some x=>(l.take i.toNat).all (jS x)|none=>false)
def pa(l:List bH):List Int:=((List.range l.length).map fun (k:Nat)=>(k:Int)).filter (q9 l)
theorem lG{l:List bH}{i:Int}(h:i<0\/(l.length:Int)<=i):q9 l i=false:=by
 grind[q9]
theorem RP{l:List bH}{i:Int}{x:bH}(h0:0<=i)(h1:i<l.length)(hx:l[i.toNat]?=some x):q9 l i = !(l.take i.toNat).any λ y=>!jS x y:=by
 grind[q9,jS]
def sf(l:List bH)(k:Nat):List Int:=((List.range k).map fun (k:Nat)=>(k:Int)).filter (q9 l)
theorem G3(l:List bH)(k:Nat):(sf l k).length<=k:=by
 grind[sf]
theorem EU{l:List bH}{k:Nat}(h:q9 l k=true):sf l (k+1)=sf l k++[(k:Int)]:=by
 unfold sf;rw[List.range_succ,List.map_append,List.filter_append];simp[h]
theorem G4{l:List bH}{k:Nat}(h:q9 l k=false):sf l (k+1)=sf l k:=by
 unfold sf;rw[List.range_succ,List.map_append,List.filter_append];simp[h]
theorem EV(l:List bH){k:Nat}(h:k=l.length):sf l k=pa l:=by subst h;rfl
def tN(w:World)(p:Nat)(room:Int)(l:List bH):Prop:=∃sv,Cell w p 0 (.int .i64 room)/\Cell w p 1 sv/\dC (λ _=>True) w sv l
def ja(p:Nat)(room:Int)(l:List bH):HP:=qd λ sv=>sep (bY p [.int .i64 room,sv]) (bG sv l)
theorem tN.ext{w w':World}{p:Nat}{room:Int}{l:List bH}(h:tN w p room l)(e:Ext w w'):tN w' p room l:=by
 obtain⟨sv,h1,h2,h3⟩:=h;exact⟨sv,h1.ext e,h2.ext e,h3.ext e⟩
theorem ja.rd{w:World}{F:Nat->Prop}{p:Nat}{room:Int}{l:List bH}(h:(ja p room l).p w F):tN w p room l:=by
 obtain⟨sv,F1,F2,h1,h2,_⟩:=h
 exact⟨sv,h1.1.cell rfl,h1.1.cell rfl,(bG.rd h2).mono λ _ _=>trivial⟩
theorem C297(sv fv:Value)(xs:List bH)(g:bH->Bool)(w:World)(hL:dC (λ _=>True) w sv xs)(hf:vP w fv g)(hn:xs.length<=1073741824):CR 297 [sv,fv] w (λ v w'=>v=.int .i64 (rT g xs)/\Ext w w'):=by
 obtain⟨g0,first,cap,rfl,oZ,jT⟩:=hf;have hs:=St.start w;refine eS Tryz.func297 ?_;refine aI fO (hL.ext hs.aF) ?_;refine⟨λ m x w1=>∃k:Nat,x=.int .i64 (k:Int)/\m=xs.length-k/\k<=xs.length/\(∀y∈xs.take k,g y=false)/\St w aY [] w1,⟨_,0,rfl,rfl,Nat.zero_le _,by simp,hs⟩,?_⟩;rintro m _ w1 ⟨k,rfl,rfl,hk,eD,hs⟩ _;refine aQ (aC (λ jj=>?_) (λ _=>⟨congrArg (Value.int .i64) (iU (by rw[List.take_of_length_le (by omega)]at eD;exact eD)).symm,hs.aF⟩));obtain⟨gV,dw⟩:=gx (xs) (i:=((k:Int)).toNat) (by omega);refine aO fO (hL.ext hs.aF) (by omega) dw (λ _ gA=>aE ic (gA) (gK oZ (jT gV w1 hs.aF) ?_))
 rintro _ _ ⟨rfl,he⟩;have hs:=hs.ext he;exact aW (λ dO=>⟨congrArg (Value.int .i64) (lS eD dw dO).symm,hs.aF⟩) (λ dO=>aK (by omega) ⟨xs.length-(k+1),by omega,k+1,rfl,rfl,by omega,dR eD dw dO,hs⟩)
theorem C261(sv fv:Value)(xs:List bH)(g:bH->Bool)(w:World)(hL:dC (λ _=>True) w sv xs)(hf:vP w fv g)(hn:xs.length<=1073741824):CR 261 [sv,fv] w (λ v w'=>v=.bool (xs.any g)/\Ext w w'):=by
 have hs:=St.start w;refine eS Tryz.func261 ?_;exact aT amz hs (C297 _ _ _ _ _ (hL.ext hs.aF) (hf.ext hs.aF) (by omega)) (λ _ _ hs=>cS ⟨vb (kF _ _),hs.aF⟩)
theorem C259(x y:bH)(p b2 b3:Nat)(i:Int)(room:Int)(l:List bH)(w:World)(h2:Cell w b2 0 (.pointer (some ⟨p,0,none⟩)))(h3:Cell w b3 0 (.int .i64 i))(hb:tN w p room l)(h0:0<=i)(hx:l[i.toNat]?=some x):CR 259 [Flat.val y,.pointer (some ⟨b2,0,none⟩),.pointer (some ⟨b3,0,none⟩)] w (λ v w'=>v=.bool (!jS x y)/\Ext w w'):=by
 obtain⟨sv,B6,uG,hL⟩:=hb;have nH:=(List.getElem?_eq_some_iff.1 hx).1;have hs:=St.start w;refine oY Tryz.func259 (pl:=atZ) ?_;exact cI hs (λ _ _ hs=>have hs:=hs.drew;bM zR (h2.ext hs.aF) (aD (aA kB (bM iE (uG.ext hs.aF) (bM bL (h3.ext hs.aF) (aO fO (hL.ext hs.aF) h0 hx (λ _ qo=>aE ic (qo) (aE ic hs.At (aT amm hs (C260 x y _) (λ _ _ hs=>bQ ⟨rfl,hs.aF⟩))))))))))
theorem C216(p:Nat)(i:Int)(room:Int)(l:List bH)(w:World)(hb:tN w p room l)(hn:l.length<=1073741824):CR 216 [.pointer (some ⟨p,0,none⟩),.int .i64 i] w (λ v w'=>v=.bool (q9 l i)/\Ext w w'):=by
 have Yi:=hb;obtain⟨sv,B6,uG,hL⟩:=hb;have hs:=St.start w;refine oY Tryz.func216 (pl:=atS) ?_;refine nj hs rfl (λ apO w1 hs=>nj hs rfl (λ apP _ hs=>?_));refine⟨_,?_,λ _ _ h=>h⟩;have hs:=hs.drew;refine aB bL hs.hb rfl (aQ (aC (λ gH=>?_) (λ gH=>?_)))
 ·intro sK;exact ig ⟨vb (lG (by omega)).symm,hs.aF⟩
 refine aB bL hs.hb rfl (aB zR hs.p1.hb rfl (aD (aA kB (bM iE (uG.ext hs.aF) (aI fO (hL.ext hs.aF) (cS ?_))))));intro sK;refine aC (λ _=>⟨vb (lG (by omega)).symm,hs.aF⟩) (λ dO=>have hs:=hs.drew;aB zR hs.p1.hb rfl (aD (aA kB (bM iE (uG.ext hs.aF) (aB bL hs.hb rfl (lK fO (hL.ext hs.aF) (by omega) (by omega) (λ anc qi=>?_)))))));obtain⟨x,hx⟩:=gx l (i:=i.toNat) (by omega)
 have hfn:vP _ (.func (.func 259) [].toArray [.pointer (some ⟨apO,0,none⟩),.pointer (some ⟨apP,0,none⟩)].toArray) (λ y=>!jS x y):=
  ⟨259,[],_,rfl,aml,λ y w1 e1=>C259 x y p apO apP i room l w1 ((hs.p1.hb.cell rfl).ext e1) ((hs.hb.cell rfl).ext e1) ((Yi.ext hs.aF).ext e1) (by omega) hx⟩
 exact aT amn hs (C261 _ _ _ _ _ qi hfn (by rw[List.length_take];omega)) (λ _ _ hs=>bQ ⟨vb (RP (by omega) (by omega) hx).symm,hs.aF⟩)
theorem C215(p:Nat)(room:Int)(l:List bH)(w:World)(hb:tN w p room l):CR 215 [.pointer (some ⟨p,0,none⟩)] w (λ v w'=>v=.bool (decide (room<=l.length))/\Ext w w'):=by
 obtain⟨sv,B6,uG,hL⟩:=hb;have hs:=St.start w;refine oY Tryz.func215 (pl:=atQ) ?_;exact aD (aA kB (have hs:=hs.drew;bM iE (uG.ext hs.aF) (aI fO (hL.ext hs.aF) (aD (aA VE (bM bL (B6.ext hs.aF) (cS ⟨rfl,hs.aF⟩)))))))
theorem C139(p:Nat)(room:Int)(l:List bH)(w:World)(hb:tN w p room l)(hn:l.length<=1048576):CR 139 [.pointer (some ⟨p,0,none⟩)] w (λ v w'=>lL (bG v (pa l)) w w'):=by
 have Yi:=hb;obtain⟨sv,B6,uG,hL⟩:=hb;have hs:=St.start w;refine eS Tryz.func139 ?_;refine aD (aA kB (bM iE (uG.ext hs.aF) (aI fO (hL.ext hs.aF) ?_)));refine⟨λ m o x w1=>∃k:Nat,x=.int .i64 (k:Int)/\m=l.length-k/\k<=l.length/\St w aY [bG o (sf l k)] w1,⟨_,0,rfl,rfl,Nat.zero_le _,hs.eJ⟩,?_⟩;rintro m o _ w1 ⟨k,rfl,rfl,hk,hs⟩ _;have Ew:=G3 l k;refine aQ (aC (λ ju=>⟨_,aT ae2 hs (C216 _ _ _ _ _ (Yi.ext hs.aF) (by omega)) (λ _ he hs=>aW (λ ji=>?_) (λ ji=>?_)),λ _ _ h=>h⟩) (λ ju=>?_))
 ·refine aX (([(k:Int)]:List Int)) hs cM rfl rfl (dI rfl) (λ Wh _ hs=>?_);have nQ:=(hs).dX;refine bI hs.p1 cM nQ (by simp<;>omega) (by decide) (λ W3 _ hs=>?_);have hs:=hs.p1.drop;intro vz;exact aK (by omega) ⟨l.length-(k+1),by omega,k+1,rfl,rfl,by omega,by rw[EU ji];exact hs⟩
 ·intro vz;exact aK (by omega) ⟨l.length-(k+1),by omega,k+1,rfl,rfl,by omega,by rw[G4 ji];exact hs⟩
 rw[EV l (by omega)]at hs;exact hs.fresh
def LY(room:Int)(l:List bH)(x:bH):Int:=if right x=true then(if room<=l.length then 2 else 0)else 1
def sg(room:Int)(l:List bH)(x:bH):List bH:=if right x=true/\¬ room<=l.length then l++[x]else l
def dB(l:List bH)(i:Int):bH:=if q9 l i=true then(l[i.toNat]?).getD ⟨0,0,0,0⟩else⟨0,0,0,0⟩
def wR(l:List bH)(i:Int):Int:=if 0<=i/\i<l.length then(if q9 l i=true then 0 else 13)else 1
def jL(l:List bH)(i:Int):List bH:=if q9 l i=true then l.eraseIdx i.toNat else l
theorem adj{l:List bH}{i:Int}(h:q9 l i=true):0<=i/\i<l.length:=by
 unfold q9 at h;grind
theorem tN.mk'{w:World}{p:Nat}{room:Int}{sv:Value}{l:List bH}(h1:ng w p [.int .i64 room,sv])(h2:dC (λ _=>True) w sv l):tN w p room l:=
 ⟨sv,h1.cell rfl,h1.cell rfl,h2⟩
theorem ja.shut{w0 w:World}{A:Nat->Prop}{R:List HP}{p:Nat}{room:Int}{sv:Value}{l:List bH}(hs:St w0 A (bY p [.int .i64 room,sv]::bG sv l::R) w):St w0 A (ja p room l::R) w:=
 St.et (H:=λ sv=>sep (bY p [.int .i64 room,sv]) (bG sv l)) sv (St.join hs)
theorem C6{w0 w:World}{A:Nat->Prop}{R:List HP}{p:Nat}{room:Int}{l:List bH}(hs:St w0 A (ja p room l::R) w):tN w p room l:=by
 obtain⟨F,h,_⟩:=hs.head;exact ja.rd h
theorem C224(v:Value)(i:Int)(xs:List bH)(F:Nat->Prop)(w:World)(hv:(bG v xs).p w F)(h0:0<=i)(hi:i<xs.length)(hn:xs.length<=1073741824) :
  CR 224 [v,.int .i64 i,.int .i64 (i+1)] w (λ v' w'=>True/\mL F (bG v' (xs.eraseIdx i.toNat)) w w'):=by
 obtain⟨i,rfl⟩:=Int.eq_ofNat_of_zero_le h0;replace hi:i<xs.length:=by omega
 rw[Int.toNat_natCast];have UB:=bG.rd hv;obtain⟨b,cap,rest,rfl,hb,hl,hF⟩:=rn hv hi;have hlen:(flat xs).length=xs.length*4:=dG xs;have Bg:xs.length<=cap:=hl.1;replace hl:=hl.2
 change cap*4<=_ at hl
 refine abg _ _ _ _ _ ?_;unfold S224;refine pop (H8 fO) (VU fO (by omega) (by omega) (by omega) (by omega) (λ _=>aH (aC (λ c=>absurd c (by omega)) (λ _=>pop (H8 fO) ?_))))
 have e22:pr Tryz.prog (Instr.sliceAt 179 (.slice (some ⟨b,0,none⟩) xs.length cap) none (some (.int .i64 (i:Int))) none)=some (.slice (some ⟨b,0,none⟩) i cap):=by
  rw[v9 fO (l:=0) (h:=i) (n7 (.inl ⟨rfl,rfl⟩) (.inr ⟨_,rfl,by omega,by omega⟩) (by omega) (by omega))];simp[gu]
 refine pop e22 (Bi fO UB (by omega) (by omega) (λ s25 h25=>?_));rw[show((i:Int)+1).toNat=i+1 from by omega]at h25;have JF:(xs.drop (i+1)).length=xs.length-(i+1):=by simp
 obtain⟨w1,r1,b1,g1⟩:=FV (P:=Tryz.prog) (R:=179) (n:=i) (cap:=cap) fO (hb.of_eq (w':=drew w) rfl) (h25.ext (Ext.drew w)) (by omega) (by rw[List.length_append,hlen,JF];change i*4+(xs.length-(i+1))*4<=_;omega);rw[JF,show i+(xs.length-(i+1))=xs.length-1 from by omega]at r1;refine⟨_,w1,r1,?_⟩;refine pop (H8 fO) ?_
 have e31:pr Tryz.prog (Instr.sliceAt 179 (.slice (some ⟨b,0,none⟩) (xs.length-1) cap) (some (.int .i64 ((xs.length-1:Nat):Int))) (some (.int .i64 (xs.length:Int))) none)=some (.slice (some ⟨b,(xs.length-1)*4,none⟩) 1 (cap-(xs.length-1))):=by
  rw[v9 fO (l:=xs.length-1) (h:=xs.length) (n7 (.inr ⟨_,rfl,by omega,by omega⟩) (.inr ⟨_,rfl,by omega,by omega⟩) (by omega) (by omega)),if_neg (by omega)];simp[gu];omega
 refine pop e31 ?_;have hx:xs[i]?=some xs[i]:=by simp[hi]
 have FR:=yH hx;have hT:(flat (xs.take i)).length=i*4:=by rw[dG,List.length_take,Nat.min_eq_left (by omega)];rfl
 have hD:(flat (xs.drop (i+1))).length=(xs.length-(i+1))*4:=by rw[dG,JF];rfl
 have hX:(Flat.enc xs[i]).length=4:=rfl;have hZ:(flat (List.replicate 1 (⟨0,0,0,0⟩:bH))).length=4:=rfl
 have s1:iX (flat xs++rest) (i*Flat.sz bH) (flat (xs.drop (i+1))) =
   flat (xs.take i)++flat (xs.drop (i+1))++((Flat.enc xs[i]++flat (xs.drop (i+1))).drop (flat (xs.drop (i+1))).length++rest):=by
  have:=l9 (flat (xs.take i)) ((Flat.enc xs[i]++flat (xs.drop (i+1))).take (flat (xs.drop (i+1))).length)
   ((Flat.enc xs[i]++flat (xs.drop (i+1))).drop (flat (xs.drop (i+1))).length++rest) (flat (xs.drop (i+1))) (by rw[List.length_take,List.length_append];omega)
  rw[hT]at this
  change iX (flat xs++rest) (i*4) _=_
  rw[<- this,FR]
  have e0:∀(a b c d:List Value) (n:Nat),a++(b++c)++d=a++(b++c).take n++((b++c).drop n++d):=λ a b c d n=>by
   rw[List.append_assoc a ((b++c).take n),<- List.append_assoc ((b++c).take n),List.take_append_drop,List.append_assoc a]
  exact congrArg (λ z=>iX z (i*4) (flat (xs.drop (i+1)))) (by first|exact e0 _ _ _ _ _|(rw[<- e0];simp only[List.append_assoc])|(simp only[List.append_assoc];rw[<- List.append_assoc (List.take _ _),List.take_append_drop,List.append_assoc]))
 rw[s1]at b1
 obtain⟨w2,r2,b2,g2⟩:=S3 (P:=Tryz.prog) (R:=0) (o:=(xs.length-1)*4) (n:=1) (c:=cap-(xs.length-1)) (z:=(⟨0,0,0,0⟩:bH)) fO qX b1
  (by simp only[List.length_append,List.length_drop,hT,hD,hX];change _+1*4<=_;omega)
 refine⟨_,w2,r2,?_⟩
 have s2:=l9 (flat (xs.take i)++flat (xs.drop (i+1))) ((Flat.enc xs[i]++flat (xs.drop (i+1))).drop (flat (xs.drop (i+1))).length) rest (flat (List.replicate 1 (⟨0,0,0,0⟩:bH)))
  (by rw[List.length_drop,List.length_append,hX,hZ];omega)
 rw[show(flat (xs.take i)++flat (xs.drop (i+1))).length=(xs.length-1)*4 from by rw[List.length_append,hT,hD];omega,List.append_assoc _ _ rest]at s2;rw[s2]at b2;refine⟨trivial,F,.inr ⟨b,cap,flat (List.replicate 1 (⟨0,0,0,0⟩:bH))++rest,?_,?_,?_,hF⟩,λ _ hb=>.inl hb,((Ext.drew w).aF (A:=F)).trans (g1.trans (C:=F) g2 (λ k hk=>(hF k).2 hk) λ k _ hk=>(hF k).2 hk) (λ _ h=>h) λ _ _ h=>h⟩
 ·rw[List.length_eraseIdx_of_lt hi]
 ·rw[List.eraseIdx_eq_take_drop_succ,hG,<- List.append_assoc];exact b2
 refine⟨by rw[List.length_eraseIdx_of_lt hi];omega,?_⟩;rw[List.eraseIdx_eq_take_drop_succ,hG]
 change cap*4<=_
 rw[List.length_append,hlen]at hl;simp only[List.length_append,hT,hD,hZ];omega
theorem C223(sv:Value)(xs:List bH)(w:World)(hL:dC (λ _=>True) w sv xs)(hn:xs.length<=1073741824):CR 223 [sv] w (λ v w'=>lL (bG v xs) w w'):=by
 have hL0:=hL;obtain⟨a,cap,rfl,Bg,h3⟩:=hL;have hs:=St.start w;refine eS Tryz.func223 ?_;refine Vw (fp fO).1 (λ h0=>?_) ?_
 ·rcases h3 with⟨h,hc⟩|⟨b,o,h,_⟩
  ·exact⟨by rw[h];rfl,hc⟩
  rw[h0]at h;cases h
 refine aW (λ IB=>?_) (λ IB=>?_)
 ·have ha:a=none:=by cases a with|none=>rfl|some _=>cases IB
  have hx:xs=[]:=by
   rcases h3 with⟨h,_⟩|⟨b,o,h,_⟩
   ·exact h
   ·rw[ha]at h;cases h
  subst hx;exact hs.eJ.fresh
 refine aX (([]:List bH)) hs fO rfl rfl (dI rfl) (λ Oe _ hs=>?_);have Lw:=(hL0.ext hs.aF);exact bI hs fO Lw (by simp<;>omega) (by decide) (λ _ _ hs=>hs.fresh)
theorem C153(p:Nat)(room:Int)(l:List bH)(w:World)(hb:tN w p room l)(hn:l.length<=1073741824):CR 153 [.pointer (some ⟨p,0,none⟩)] w (λ v w'=>lL (bG v l) w w'):=by
 obtain⟨sv,B6,uG,hL⟩:=hb;have hs:=St.start w;refine eS Tryz.func153 ?_;refine aD (aA kB (bM iE (uG.ext hs.aF) (dN ae3 (C223 _ _ _ (hL.ext hs.aF) (by omega)) ?_)));rintro _ _ cO;have hs:=hs.made cO;exact hs.fresh
theorem LZ{room:Int}{l:List bH}{x:bH}(h:right x=false):LY room l x=1:=by unfold LY;rw[h];rfl
theorem L3{room:Int}{l:List bH}{x:bH}(h:right x=false):sg room l x=l:=by unfold sg;rw[h];rfl
theorem G5{room:Int}{l:List bH}{x:bH}(h:right x=true)(hf:room<=l.length):LY room l x=2:=by grind[LY]
theorem G6{room:Int}{l:List bH}{x:bH}(hf:room<=l.length):sg room l x=l:=by grind[sg]
theorem RQ{room:Int}{l:List bH}{x:bH}(h:right x=true)(hf:¬ room<=l.length):LY room l x=0:=by grind[LY]
theorem RR{room:Int}{l:List bH}{x:bH}(h:right x=true)(hf:¬ room<=l.length):sg room l x=l++[x]:=by unfold sg;grind
theorem C162(p:Nat)(room:Int)(l:List bH)(x:bH)(F:Nat->Prop)(w:World)(hF:(ja p room l).p w F)(hn:l.length<=1048576):CR 162 [.pointer (some ⟨p,0,none⟩),Flat.val x] w (λ v w'=>v=.int .i64 (LY room l x)/\mL F (ja p room (sg room l x)) w w'):=by
 have hs:=St.begin hF;obtain⟨sv,hs⟩:=hs.er;have hs:=hs.split;refine oY Tryz.func162 (pl:=atI) ?_;refine cI hs (λ aww _ hs=>aE ic hs.At (aT amg hs (C228 _ _) (λ _ he hs=>bQ (aW (λ fL=>?_) (λ fL=>aT ae1 hs (C215 _ _ _ _ (tN.mk' hs.p1.hb hs.p2.dX)) (λ _ he hs=>aC (λ ju=>?_) (λ ju=>?_)))))))
 ·have hs:=hs.p2.p2;rw[LZ (by simpa using fL),L3 (by simpa using fL)];exact⟨rfl,(ja.shut hs).mut⟩
 ·have hs:=hs.p2.p2;rw[G5 (by simpa using fL) ju,G6 ju];exact⟨rfl,(ja.shut hs).mut⟩
 refine aD (aA kB (have hs:=hs.drew;aB iE hs.p1.hb rfl (aE ic hs.At (aX ([x]) hs fO rfl rfl (dI rfl) (λ Wh _ hs=>?_)))));refine⟨aG iE (hs.p2.hb.cell rfl),?_⟩;have nQ:=(hs).dX;refine bI hs.p3 fO nQ (by simp<;>omega) (by decide) (λ W3 _ hs=>have hs:=hs.p1.drop;aD (aA kB (aS hs.p2 iE (dI rfl) ((hs).dX.one) (λ _ hs=>?_))));have hs:=hs.p1.p1;rw[RQ (by simpa using fL) ju,RR (by simpa using fL) ju];exact⟨rfl,(ja.shut hs).mut⟩
theorem ru{l:List bH}{i:Int}(h:q9 l i=false):dB l i=⟨0,0,0,0⟩:=by unfold dB;rw[h];rfl
theorem ry{l:List bH}{i:Int}(h:q9 l i=false):jL l i=l:=by unfold jL;rw[h];rfl
theorem xH{l:List bH}{i:Int}(h:i<0\/(l.length:Int)<=i):wR l i=1:=by unfold wR;omega
theorem L4{l:List bH}{i:Int}(h0:0<=i/\i<l.length)(h:q9 l i=false):wR l i=13:=by unfold wR;grind
theorem L5{l:List bH}{i:Int}(h:q9 l i=true):wR l i=0:=by unfold wR;rw[if_pos (adj h),h];rfl
theorem L6{l:List bH}{i:Int}{x:bH}(h:q9 l i=true)(hx:l[i.toNat]?=some x):dB l i=x:=by unfold dB;grind
theorem L7{l:List bH}{i:Int}(h:q9 l i=true):jL l i=l.eraseIdx i.toNat:=by unfold jL;rw[h];rfl
theorem C155(p:Nat)(room:Int)(l:List bH)(i:Int)(F:Nat->Prop)(w:World)(hF:(ja p room l).p w F)(hn:l.length<=1048576):CR 155 [.pointer (some ⟨p,0,none⟩),.int .i64 i] w (λ v w'=>v=.tuple #[Flat.val (dB l i),.int .i64 (wR l i)]/\mL F (ja p room (jL l i)) w w'):=by
 have hs:=St.begin hF;obtain⟨sv,hs⟩:=hs.er;have hs:=hs.split;refine eS Tryz.func155 ?_;refine aM hs qX (λ Oh _ hs=>?_);refine⟨_,?_,λ _ _ h=>h⟩;refine aQ (aC (λ fL=>?_) (λ fL=>?_))
 ·intro sK;refine ig (pop (xy) (aJ (x:=(⟨0,0,0,0⟩:bH)) hs ic rfl rfl (λ w3 hs=>aE ic hs.At ?_)));have hs:=hs.p2.p2;rw[ru (lG (by omega)),xH (by omega),ry (lG (by omega))];exact⟨rfl,(ja.shut hs).mut⟩
 refine aD (aA kB (aB iE hs.p1.hb rfl (aI fO (hs.p2).dX (cS ?_))));intro sK;refine aC (λ jY=>?_) (λ jY=>aT ae2 hs (C216 _ _ _ _ _ (tN.mk' hs.p1.hb hs.p2.dX) (by omega)) (λ _ he hs=>bQ (aW (λ iF=>?_) (λ iF=>?_))))
 ·refine pop (xy) (aJ (x:=(⟨0,0,0,0⟩:bH)) hs ic rfl rfl (λ w3 hs=>aE ic hs.At ?_));have hs:=hs.p2.p2;rw[ru (lG (by omega)),xH (by omega),ry (lG (by omega))];exact⟨rfl,(ja.shut hs).mut⟩
 ·refine pop (xy) (aJ (x:=(⟨0,0,0,0⟩:bH)) hs ic rfl rfl (λ _ hs=>aE ic hs.At ?_));have hs:=hs.p2.p2;rw[ru (by simpa using iF),L4 (by omega) (by simpa using iF),ry (by simpa using iF)];exact⟨rfl,(ja.shut hs).mut⟩
 refine aD (aA kB (aB iE hs.p1.hb rfl ?_));obtain⟨yv,jR⟩:=gx (l) (i:=(i).toNat) (by omega);refine dM hs.p2 fO (by omega) (by omega) (λ _ Ak=>gD hs.p2 ic Ak jR (aM hs qX (λ O9 _ hs=>aJ (x:=yv) hs ic rfl rfl (λ _ hs=>aD (aA kB (aB iE hs.p2.hb rfl (dN ae3 (C223 _ _ _ (hs.p3).dX (by omega)) ?_)))))));rintro _ _ cO;have hs:=hs.made cO;refine aK (by omega) (pN ame hs (H':=λ v=>bG v (l.eraseIdx i.toNat)) (Φ:=λ _ _=>True) (λ F hF=>?_) ?_)
 ·exact C224 _ i _ F _ hF (by omega) (by omega) (by omega)
 rintro x40 _ _ hs;refine aD (aA kB (aS hs.p3 iE (dI rfl) ((hs).dX.one) (λ _ hs=>aE ic hs.p2.At (aJ (x:=yv) hs.p3 ic rfl rfl (λ _ hs=>aE ic hs.At ?_)))));have hs:=hs.p2.p2;rw[L6 (by simpa using iF) jR,L5 (by simpa using iF),L7 (by simpa using iF)];exact⟨rfl,(ja.shut hs).mut⟩
end Go.Proofs.YtpdlpabnlkofmaaGreatDoor

/-
  Part 4.
-/
import Derived.Test.YtpdlpabnlkofmaaGreatDoorR10x3
set_option maxHeartbeats 8000000
set_option linter.all false
set_option maxRecDepth 100000
open Go.Fw.Flat renaming val->hM,enc->ia,sz->l1
open ByteArray renaming mk->hZ,size_extract->abJ
open List renaming getElem?_eq_some_iff->ir,mem_of_getElem?->j0,take_of_length_le->kp,getElem?_eq_getElem->kE,length_append->kH,length_singleton->lH,length_take->lQ,length_map->mv,append_assoc->mX,mem_map->n4,mem_cons_self->ob,getElem?_map->og,mem_append->oi,take_append_drop->o1,mem_cons_of_mem->o4,length_drop->pd,replicate->po,drop_eq_nil_of_le->pC,mem_cons->sk,getElem?_append_right->sl,drop_drop->sm,mem_singleton->sM,getElem?_append_left->s4,mem_of_mem_take->uS,map_append->u1,any_eq_true->u4,range->v7,mem_iff_getElem?->wA,nil_append->x6,filter_append->yf,map_congr_left->yX,eraseIdx_eq_take_drop_succ->EJ,range_succ->F1,map_map->GG,mem_range->Iw,nodup_cons->IX,map_cons->Kp,flatMap_append->Kq,mem_filter->MZ,take_length->Pw,any_append->Qb,length_eraseIdx_of_lt->RU,pairwise_iff_getElem->Sx,any_cons->Uw,getElem_mem->UF,pairwise_map->aaB,any_nil->aaJ,nodup_append->aaS
open Nat renaming zero_le->kO,le_refl->o5,le_of_eq->zq,add_sub_cancel_left->Ft,add_assoc->Mi,lt_or_ge->O7
open Go.Value renaming int->mn
open Go.Fw.Deep renaming dr->mL,ext->Lo
open Go.Instr renaming sliceAt->nn,mapUpdate->wG,lookup->xY,box->yg,keyThatStays->M8
open Bool renaming and_eq_true->nS,not_eq_true'->qm,or_eq_true->wH,true_and->Av,eq_iff_iff->IV,false_and->Zm,or_false->Zy
open Option renaming some->n3,map_eq_some_iff->H0
open Int renaming toNat_natCast->o6,mul_le_mul->Ix,add_comm->abK
open Array renaming getElem?_eq_some_iff->Cq
open Prod renaming fst->aad
namespace Go.Proofs.YtpdlpabnlkofmaaGreatDoor
open Go.Fw
def oa(s:ByteArray):ByteArray:=s.extract 0 (min (s.size:Int) 40).toNat
def pA(s:ByteArray):(oa s).size<=40:=by
 unfold oa
 rw[abJ];omega
def adH(x:bY):bY:={x with name:=oa x.name}
def yj(l:List bY):List bY:=(l.take 60).map adH
def Sp(x:bK):bK:=⟨x.kind,oa x.eB,oa x.name,yj x.e,yj x.f,x.n,x.body,x.eo,x.at_⟩
def EW(l:List bK):List bK:=(l.take 50).map Sp
def adI(c:cG):cG:={c with name:=oa c.name}
def jr(l:List cG):List cG:=(l.take 8).map adI
def yC(t:cL):cL:=⟨oa t.name,(t.dN.take 6).map oa,EW t.body,t.at_⟩
def kJ(l:List cL):List cL:=(l.take 4).map yC
def EX(c:gO):gO:=⟨yj c.e,c.at_⟩
def gk(p:cE):cE:=⟨(p.lines.take 6).map jr,jr p.iJ,jr p.eE,kJ p.threads,kJ p.recover,(p.dX.take 6).map EX⟩
theorem se{α:Type}{xs:List α}{k m:Nat}(h:k<=m)(h2:k<=xs.length)(h3:¬ (k<xs.length/\k<m)):xs.take k=xs.take m:=by
 grind
def EY(l:List bY):(yj l).length<=60:=by grind[yj]
def Ja(l:List bY):∀y∈yj l,y.name.size<=1048576:=by
 intro y u
 obtain⟨x,_,rfl⟩:=n4.1 u
 have:=pA x.name
 show(oa x.name).size<=_
 omega
def EZ(l:List cG):∀y∈jr l,y.name.size<=1048576:=by
 intro y u
 obtain⟨x,_,rfl⟩:=n4.1 u
 have:=pA x.name
 show(oa x.name).size<=_
 omega
def BQ(l:List cG):(jr l).length<=8:=by grind[jr]
def Yu(l:List bK):(EW l).length<=50:=by grind[EW]
def E0(l:List cL):(kJ l).length<=4:=by grind[kJ]
def adJ(l:List bK):∀y∈EW l,SzS y:=by
 intro y u
 obtain⟨x,_,rfl⟩:=n4.1 u
 have h1:=pA x.eB
 have h2:=pA x.name
 have h3:=EY x.e
 have h4:=EY x.f
 exact⟨by show(oa x.eB).size<=_;omega,by show(oa x.name).size<=_;omega,by show(yj x.e).length<=_;omega,by show(yj x.f).length<=_;omega,Ja _,Ja _⟩
def Pn(t:cL):(yC t).dN.length<=6:=by show((t.dN.take 6).map oa).length<=6;grind
def G9(l:List cL):∀y∈kJ l,XB y/\y.dN.length<=500/\y.body.length<=500:=by
 intro y u
 obtain⟨x,_,rfl⟩:=n4.1 u
 have h1:=pA x.name
 have h2:=Pn x
 have h3:=Yu x.body
 refine⟨⟨by show(oa x.name).size<=_;omega,λs B=>?_,adJ _⟩,bL,by show(EW x.body).length<=_;omega⟩
 obtain⟨z,_,rfl⟩:=n4.1 (show s∈(x.dN.take 6).map oa from B)
 have:=pA z
 omega
def Sq(p:cE):PZ (gk p):=by
 have u:(gk p).lines.length<=6:=by show((p.lines.take 6).map jr).length<=6;grind
 have hc:(gk p).dX.length<=6:=by show((p.dX.take 6).map EX).length<=6;grind
 have h1:=BQ p.iJ
 have h2:=BQ p.eE
 have h3:=E0 p.threads
 have h4:=E0 p.recover
 have hth:∀t∈(gk p).threads++(gk p).recover,XB t/\t.dN.length<=500/\t.body.length<=500:=by
  intro t ht
  rcases oi.1 ht with h|h
  .exact G9 _ t h
  .exact G9 _ t h
 refine {lines:=by omega,line:=λl h=>?_,iJ:=by show(jr p.iJ).length<=500;omega,eE:=by show(jr p.eE).length<=500;omega,threads:=by show(kJ p.threads).length<=500;omega,recover:=by show(kJ p.recover).length<=500;omega,dX:=by omega,dN:=λt ht=>(hth t ht).2.1,body:=λt ht=>(hth t ht).2.2,zl:=λl h c hc=>?_,zv:=EZ _,zk:=EZ _,zt:=λt ht=>(hth t (List.mem_append_left _ ht)).1,zr:=λt ht=>(hth t (List.mem_append_right _ ht)).1,zc:=λc h=>?_}
 .obtain⟨x,_,rfl⟩:=n4.1 (show l∈(p.lines.take 6).map jr from h)
  have:=BQ x;omega
 .obtain⟨x,_,rfl⟩:=n4.1 (show l∈(p.lines.take 6).map jr from h)
  exact EZ x c hc
 obtain⟨x,_,rfl⟩:=n4.1 (show c∈(p.dX.take 6).map EX from h)
 have:=EY x.e
 exact⟨by show(yj x.e).length<=_;omega,Ja _⟩
def C47(lv:Value)(xs:List bY)(w:World)(M:dz (λ_=>True) w lv xs):CR 47 [lv] w (λv w'=>kZ (bF v (yj xs)) w w'):=by
 have u:=St.start w;refine eU Tryz.func47 ?_;refine aW ([]:List bY) u gV rfl rfl (dM rfl) (λO I u=>?_);refine⟨λm E x I=>∃k:Nat,x=hH (k:Int)/\m=60-k/\k<=60/\k<=xs.length/\St w aY [bF E ((xs.take k).map adH)] I,⟨_,0,rfl,rfl,bL,bL,u⟩,?_⟩;rintro m E _ _ ⟨k,rfl,rfl,hk,u9,u⟩ _;have U:((xs.take k).map adH).length=k:=by rw[mv,lQ];omega
 refine⟨λW w'=>W=.bool (decide (k<xs.length/\k<60))/\St w aY [bF E ((xs.take k).map adH)] w',aH gV (M.ext u.aF) (aO (aC (λ_=>aO ⟨vb cH,u⟩) λ_=>⟨vb cH,u⟩)),?_⟩;rintro _ _ ⟨rfl,u⟩ _;refine aX (λG=>?_) (λG=>?_)
 .have Z:k<xs.length/\k<60:=by simpa using G
  obtain⟨B,J⟩:=gx xs (i:=(k:Int).toNat) bL;refine aM gV M bL J (λ_ Y=>aE rI (Y.ext u.aF) (aQ u xH λI5 _ u=>aK (x:=B) u rI rfl rfl λ_ u=>aA gh (aB (v:=.string B.name) gn u.hb rfl (aA gh (aB (v:=.string B.name) gn u.hb rfl (fb ic (tf (nK ic bL bL (aA gh (aV u gn (dM rfl) (rfl) λ_ u=>?_))))))))));have u:=u.enc (cs':=ia ({B with name:=(B.name.extract 0 (min (B.name.size:Int) 40).toNat)}:bY)) rfl;refine aE rI u.At (aW ([({B with name:=(B.name.extract 0 (min (B.name.size:Int) 40).toNat)}:bY)]) u gV rfl rfl (dM rfl) λYv _ u=>?_)
  have V:=u.dQ;exact bJ u.p2 gV V (by rw[U,lH];omega) cZ (λ_ _ u=>have u:=u.p1.drop;aJ bL (have u:=u.p1.drop;⟨_,bL,k+1,rfl,rfl,bL,bL,by rw[<- gI (k:=k) J];exact u⟩))
 rw[se (xs:=xs) (k:=k) (m:=60) bL bL (gL G)]at u;exact u.fresh
def C45(lv:Value)(xs:List cG)(w:World)(M:dz (λ_=>True) w lv xs):CR 45 [lv] w (λv w'=>kZ (bF v (jr xs)) w w'):=by
 have u:=St.start w;refine eU Tryz.func45 ?_;refine aW ([]:List cG) u ie rfl rfl (dM rfl) (λO I u=>?_);refine⟨λm E x I=>∃k:Nat,x=hH (k:Int)/\m=8-k/\k<=8/\k<=xs.length/\St w aY [bF E ((xs.take k).map adI)] I,⟨_,0,rfl,rfl,bL,bL,u⟩,?_⟩;rintro m E _ _ ⟨k,rfl,rfl,hk,u9,u⟩ _;have U:((xs.take k).map adI).length=k:=by rw[mv,lQ];omega
 refine⟨λW w'=>W=.bool (decide (k<xs.length/\k<8))/\St w aY [bF E ((xs.take k).map adI)] w',aH ie (M.ext u.aF) (aO (aC (λ_=>aO ⟨vb cH,u⟩) λ_=>⟨vb cH,u⟩)),?_⟩;rintro _ _ ⟨rfl,u⟩ _;refine aX (λG=>?_) (λG=>?_)
 .have Z:k<xs.length/\k<8:=by simpa using G
  obtain⟨B,J⟩:=gx xs (i:=(k:Int).toNat) bL;refine aM ie M bL J (λ_ Y=>aE lK (Y.ext u.aF) (aQ u oD λawM _ u=>aK (x:=B) u lK rfl rfl λ_ u=>aA kx (aB (v:=.string B.name) gn u.hb rfl (aA kx (aB (v:=.string B.name) gn u.hb rfl (fb ic (tf (nK ic bL bL (aA kx (aV u gn (dM rfl) (rfl) λ_ u=>?_))))))))));have u:=u.enc (cs':=ia ({B with name:=(B.name.extract 0 (min (B.name.size:Int) 40).toNat)}:cG)) rfl;refine aE lK u.At (aW ([({B with name:=(B.name.extract 0 (min (B.name.size:Int) 40).toNat)}:cG)]) u ie rfl rfl (dM rfl) λYv _ u=>?_)
  have V:=u.dQ;exact bJ u.p2 ie V (by rw[U,lH];omega) cZ (λ_ _ u=>have u:=u.p1.drop;aJ bL (have u:=u.p1.drop;⟨_,bL,k+1,rfl,rfl,bL,bL,by rw[<- gI (k:=k) J];exact u⟩))
 rw[se (xs:=xs) (k:=k) (m:=8) bL bL (gL G)]at u;exact u.fresh
def C106(lv:Value)(xs:List bK)(w:World)(hL:DL w lv xs):CR 106 [lv] w (λv w'=>kZ (fG v (EW xs)) w w'):=by
 have B:=St.start w;refine eU Tryz.func106 ?_;refine n7 (α:=bK) B fj (λadA w1 B=>?_);refine⟨λm oL x w1=>∃k:Nat,x=hH (k:Int)/\m=50-k/\k<=50/\k<=xs.length/\St w aY [fG oL ((xs.take k).map Sp)] w1,⟨_,0,rfl,rfl,bL,bL,B⟩,?_⟩;rintro m oL _ _ ⟨k,rfl,rfl,hk,u9,B⟩ _;have Jb:((xs.take k).map Sp).length=k:=by rw[mv,lQ];omega
 refine⟨λjv w'=>jv=.bool (decide (k<xs.length/\k<50))/\St w aY [fG oL ((xs.take k).map Sp)] w',?_,?_⟩
 .obtain⟨ts60,O,V⟩:=hL.open;have hn60:=V.1;exact aH fj (O.ext B.aF) (aO (aC (λ_=>aO ⟨vb cH,B⟩) λ_=>⟨vb cH,B⟩))
 rintro _ _ ⟨rfl,B⟩ _;refine aX (λjC=>?_) (λjC=>?_)
 .have aqb:k<xs.length/\k<50:=by simpa using jC
  obtain⟨U,Y,G⟩:=hL.open;have hn61:=G.1;obtain⟨lP,jE⟩:=gx U (i:=(k:Int).toNat) bL;obtain⟨u,nL⟩:=gx xs (i:=(k:Int).toNat) bL;obtain⟨I,E,rfl,Sr,Ss⟩:=G.2 _ _ _ jE nL;refine aM fj Y bL jE (λ_ me=>aE eG (me.ext B.aF) (aQ B jk λI5 _ B=>have B:=B.enc (cs':=ia (⟨0,(hZ #[]),(hZ #[]),cI,cI,0,0,0,0⟩:aZ)) rfl;aK (x:=(⟨u.kind,u.eB,u.name,I,E,u.n,u.body,u.eo,u.at_⟩:aZ)) B eG rfl rfl λ_ B=>aA iy (aB (v:=.string u.eB) gn B.hb rfl (aA iy (aB (v:=.string u.eB) gn B.hb rfl (fb ic (tf (nK ic bL bL (aA iy ?_)))))))))
  have M:=DL.flat Sr;have Z:=DL.flat Ss;refine aV B gn (dM rfl) (rfl) (λ_ B=>have B:=B.enc (cs':=ia (⟨u.kind,(u.eB.extract 0 (min (u.eB.size:Int) 40).toNat),u.name,I,E,u.n,u.body,u.eo,u.at_⟩:aZ)) rfl;aA fX (aB (v:=.string u.name) gn B.hb rfl (aA fX (aB (v:=.string u.name) gn B.hb rfl (fb ic (tf (nK ic bL bL (aA fX (aV B gn (dM rfl) (rfl) λ_ B=>have B:=B.enc (cs':=ia (⟨u.kind,(u.eB.extract 0 (min (u.eB.size:Int) 40).toNat),(u.name.extract 0 (min (u.name.size:Int) 40).toNat),I,E,u.n,u.body,u.eo,u.at_⟩:aZ)) rfl;aA iN (aB (v:=hM (I:SV)) jy B.hb rfl (ef ahU B (C47 _ _ _ (M.ext B.aF)) λx39 _ cM B=>?_)))))))))))
  refine aA iN ?_;obtain⟨J,rfl⟩:=B.fQ;refine aV B.p1 jy (dM rfl) (rfl) (λ_ B=>have B:=B.enc (cs':=ia (⟨u.kind,(u.eB.extract 0 (min (u.eB.size:Int) 40).toNat),(u.name.extract 0 (min (u.name.size:Int) 40).toNat),J,E,u.n,u.body,u.eo,u.at_⟩:aZ)) rfl;aA jS (aB (v:=hM (E:SV)) jy B.hb rfl (ef ahU B (C47 _ _ _ (Z.ext B.aF)) λx43 _ cM B=>aA jS ?_)));obtain⟨W,rfl⟩:=B.fQ;exact aV B.p1 jy (dM rfl) (rfl) (λ_ B=>have B:=B.enc (cs':=ia (⟨u.kind,(u.eB.extract 0 (min (u.eB.size:Int) 40).toNat),(u.name.extract 0 (min (u.name.size:Int) 40).toNat),J,W,u.n,u.body,u.eo,u.at_⟩:aZ)) rfl;aE eG B.At (have B:=B.p2.freeze.p2.freeze.p1.fZ.dD (Ψ:=(λw=>mL w (⟨u.kind,(u.eB.extract 0 (min (u.eB.size:Int) 40).toNat),(u.name.extract 0 (min (u.name.size:Int) 40).toNat),J,W,u.n,u.body,u.eo,u.at_⟩:aZ) (⟨u.kind,(u.eB.extract 0 (min (u.eB.size:Int) 40).toNat),(u.name.extract 0 (min (u.name.size:Int) 40).toNat),(yj u.e),(yj u.f),u.n,u.body,u.eo,u.at_⟩:bK))) (λ_ h=>⟨_,_,rfl,DL.j3 h.1,DL.j3 h.2⟩);gF (s:=(⟨u.kind,(u.eB.extract 0 (min (u.eB.size:Int) 40).toNat),(u.name.extract 0 (min (u.name.size:Int) 40).toNat),J,W,u.n,u.body,u.eo,u.at_⟩:aZ)) (x:=(⟨u.kind,(u.eB.extract 0 (min (u.eB.size:Int) 40).toNat),(u.name.extract 0 (min (u.name.size:Int) 40).toNat),(yj u.e),(yj u.f),u.n,u.body,u.eo,u.at_⟩:bK)) B fj cZ λ_ _ B=>have B:=B.p2;gd B fj (by rw[Jb,lH];omega) cZ λ_ _ B=>aJ bL (have B:=B.p1.drop;⟨_,bL,k+1,rfl,rfl,bL,bL,by rw[<- gI (k:=k) nL];exact B⟩)))
 rw[se (xs:=xs) (k:=k) (m:=50) bL bL (gL jC)]at B;exact B.fresh
def C46(lv:Value)(xs:List cL)(w:World)(hL:DL w lv xs):CR 46 [lv] w (λv w'=>kZ (fG v (kJ xs)) w w'):=by
 have u:=St.start w;refine pJ Tryz.func46 (pl:=P46) ?_;refine n7 (α:=cL) u fr (λadE w1 u=>?_);refine⟨λm M x w1=>∃k:Nat,x=hH (k:Int)/\m=4-k/\k<=4/\k<=xs.length/\St w aY [fG M ((xs.take k).map yC)] w1,⟨_,0,rfl,rfl,bL,bL,u⟩,?_⟩;rintro m M _ _ ⟨k,rfl,rfl,hk,u9,u⟩ _;have Jb:((xs.take k).map yC).length=k:=by rw[mv,lQ];omega
 refine⟨λjv w'=>jv=.bool (decide (k<xs.length/\k<4))/\St w aY [fG M ((xs.take k).map yC)] w',?_,?_⟩
 .obtain⟨ts64,awT,awU⟩:=hL.open;have hn64:=awU.1;exact aH fr (awT.ext u.aF) (aO (aC (λ_=>aO ⟨vb cH,u⟩) λ_=>⟨vb cH,u⟩))
 rintro _ _ ⟨rfl,u⟩ _;refine aX (λjd=>?_) (λjd=>?_)
 .have hc15:k<xs.length/\k<4:=by simpa using jd
  obtain⟨awV,J,O⟩:=hL.open;have hn65:=O.1;obtain⟨Su,I⟩:=gx awV (i:=(k:Int).toNat) bL;obtain⟨B,I3⟩:=gx xs (i:=(k:Int).toNat) bL;obtain⟨zp,Pr,rfl,E1,E2⟩:=O.2 _ _ _ I I3;refine⟨λPa w'=>St w aY [fG Pa ((xs.take k).map yC++[yC B])] w',⟨λjv w'=>∃(Y:Nat) (E:SV),jv=.pointer (some ⟨Y,0,none⟩)/\St w aY [bZ Y (ia (⟨(B.name.extract 0 (min (B.name.size:Int) 40).toNat),cI,E,B.at_⟩:cD)),fG (hM E) (EW B.body),fG M ((xs.take k).map yC)] w',?_,?_⟩,?_⟩
  .refine aM fr J bL I (λ_ Mg=>bW B.name pS Mg rfl rfl λ_ Z=>have u:=u.drew;aE gn (Z.ext u.aF) (aM fr J bL I λ_ Mh=>bW B.name pS Mh rfl rfl λ_ W=>aE gn (W.ext u.aF) (fb ic (tf (nK ic bL bL (aM fr J bL I λ_ qM=>bW B.at_ pU qM rfl rfl λ_ V=>aE bO (V.ext u.aF) (aM fr J bL I λ_ yz=>bW Pr lh yz rfl rfl λ_ wL=>aE jA (wL.ext u.aF) ⟨?_,⟨?_,?_⟩⟩)))))))
   .refine ef afN u (C106 _ _ _ (E2.ext u.aF)) (λx41 _ cM u=>?_);refine⟨fm gn (Z.ext u.aF),?_⟩;refine⟨fm gn (W.ext u.aF),?_⟩;refine⟨fm bO (V.ext u.aF),?_⟩;obtain⟨Jc,rfl⟩:=u.oJ;refine pop (Ai _ _ _ _ _) (aQ u tc λb_t5 _ u=>?_);have u:=u.enc (cs':=ia (⟨(hZ #[]),cI,cI,0⟩:cD)) rfl;refine⟨fm gn (Z.ext u.aF),?_⟩;refine⟨fm gn (W.ext u.aF),?_⟩;refine⟨fm bO (V.ext u.aF),?_⟩;refine⟨fm jA (wL.ext u.aF),?_⟩;exact aK (x:=(⟨(B.name.extract 0 (min (B.name.size:Int) 40).toNat),cI,Jc,B.at_⟩:cD)) u mP rfl rfl (λ_ u=>have u:=u.p2.p2.p2;⟨_,_,rfl,u⟩)
   .refine aQ u tc (λawW _ u=>?_);have u:=u.enc (cs':=ia (⟨(hZ #[]),cI,cI,0⟩:cD)) rfl;refine⟨fm gn (Z.ext u.aF),?_⟩;refine⟨fm gn (W.ext u.aF),?_⟩;refine⟨fm bO (V.ext u.aF),?_⟩;refine⟨fm jA (wL.ext u.aF),?_⟩;refine ef afN u (C106 _ _ _ (E2.ext u.aF)) (λx41_1 _ cM u=>?_);refine⟨fm gn (Z.ext u.aF),?_⟩;refine⟨fm gn (W.ext u.aF),?_⟩;refine⟨fm bO (V.ext u.aF),?_⟩;obtain⟨Yw,rfl⟩:=u.oJ;exact pop (Ai _ _ _ _ _) (aK (x:=(⟨(B.name.extract 0 (min (B.name.size:Int) 40).toNat),cI,Yw,B.at_⟩:cD)) u.p1 mP rfl rfl λ_ u=>have u:=u.p2.p2.p2;⟨_,_,rfl,u⟩)
   trivial
  .rintro _ _ ⟨Y,E,rfl,u⟩ _;have u:=((((u.eW (α:=ByteArray)).p3).p3).p2).p3;refine⟨λm x w1=>∃(j:Nat) (G:SV),x=hH (j:Int)/\m=6-j/\j<=6/\j<=B.dN.length/\St w aY [bZ Y (ia (⟨(B.name.extract 0 (min (B.name.size:Int) 40).toNat),G,E,B.at_⟩:cD)),bF (hM G) ((B.dN.take j).map oa),fG (hM E) (EW B.body),fG M ((xs.take k).map yC)] w1,⟨_,0,cI,rfl,rfl,bL,bL,u⟩,?_⟩;rintro m _ _ ⟨j,G,rfl,rfl,hj,BR,u⟩ _;have ajo:((B.dN.take j).map oa).length=j:=by rw[mv,lQ];omega
   refine⟨λjv w'=>jv=.bool (decide (j<B.dN.length/\j<6))/\St w aY [bZ Y (ia (⟨(B.name.extract 0 (min (B.name.size:Int) 40).toNat),G,E,B.at_⟩:cD)),bF (hM G) ((B.dN.take j).map oa),fG (hM E) (EW B.body),fG M ((xs.take k).map yC)] w',?_,?_⟩
   .refine aM fr J bL I (λ_ LA=>bW zp fP LA rfl rfl λ_ AD=>aE iW (AD.ext u.aF) ?_);have awX:=DL.flat E1;exact aH ix (awX.ext u.aF) (aO (aC (λ_=>aO ⟨vb cH,u⟩) λ_=>⟨vb cH,u⟩))
   rintro _ _ ⟨rfl,u⟩ _;refine aX (λAM=>?_) (λAM=>?_)
   .have hc54:j<B.dN.length/\j<6:=by simpa using AM
    refine aA fP (have u:=u.drew;aB (v:=hM (G:SV)) iW u.hb rfl (aM fr J bL I λ_ Yn=>bW zp fP Yn rfl rfl λ_ Mj=>aE iW (Mj.ext u.aF) ?_));have aqf:=DL.flat E1;obtain⟨U,Ps⟩:=gx B.dN (i:=(j:Int).toNat) bL;refine aM ix aqf bL Ps (λ_ CB=>aE gn (CB.ext u.aF) (aM fr J bL I λ_ Md=>bW zp fP Md rfl rfl λ_ Yx=>aE iW (Yx.ext u.aF) (aM ix aqf bL Ps λ_ aqg=>aE gn (aqg.ext u.aF) (fb ic (tf (nK ic bL bL (aW ([(U.extract 0 (min (U.size:Int) 40).toNat)]) u ix rfl rfl (dM rfl) λaqh _ u=>?_)))))))
    refine⟨aI iW (u.p1.hb.cell rfl),?_⟩;have Pt:=u.dQ;refine bJ u.p2 ix Pt (by rw[ajo,lH];omega) cZ (λaqi _ u=>have u:=u.p1.drop;aA fP ?_);obtain⟨BS,rfl⟩:=u.fQ;exact aV u.p1 iW (dM rfl) (rfl) (λ_ u=>have u:=u.enc (cs':=ia (⟨(B.name.extract 0 (min (B.name.size:Int) 40).toNat),BS,E,B.at_⟩:cD)) rfl;aJ bL (have u:=u.p3.p3.p3.p3;⟨_,bL,j+1,BS,rfl,rfl,bL,bL,by rw[<- gI (k:=j) Ps];exact u⟩))
   refine aE mP u.At (have u:=u.p1.freeze.p2.oI.p1.fZ.dD (Ψ:=(λw=>mL w (⟨(B.name.extract 0 (min (B.name.size:Int) 40).toNat),G,E,B.at_⟩:cD) (⟨(B.name.extract 0 (min (B.name.size:Int) 40).toNat),((B.dN.take j).map oa),(EW B.body),B.at_⟩:cL))) (λ_ h=>⟨_,_,rfl,DL.j3 h.1,h.2⟩);gF (s:=(⟨(B.name.extract 0 (min (B.name.size:Int) 40).toNat),G,E,B.at_⟩:cD)) (x:=(⟨(B.name.extract 0 (min (B.name.size:Int) 40).toNat),((B.dN.take j).map oa),(EW B.body),B.at_⟩:cL)) u fr cZ λag0 _ u=>have u:=u.p2;gd u fr (by rw[Jb,lH];omega) cZ λaqj _ u=>?_)
   have u:=u.p1.drop;rw[se (xs:=B.dN) (k:=j) (m:=6) bL bL (gL AM)]at u;exact u
  rintro Pa _ u _;exact aJ bL ⟨_,bL,k+1,rfl,rfl,bL,bL,by rw[<- gI (k:=k) I3];exact u⟩
 rw[se (xs:=xs) (k:=k) (m:=4) bL bL (gL jd)]at u;exact u.fresh
def C11(p:cE)(pv:bM)(w:World)(hp:mL w pv p):CR 11 [hM pv] w (λv w'=>∃qv:bM,v=hM qv/\kZ (eH λw=>mL w qv (gk p)) w w'):=by
 obtain⟨bH,bR,bI,aT,aU,bE,rfl,cO,dA,cW,cA,cB,cN⟩:=hp;have u:=St.start w;refine pJ Tryz.func11 (pl:=P11) ?_;refine cJ u (λj5 w1 u=>aQ u uU λvN _ u=>have u:=u.enc (cs':=ia (⟨cI,cI,cI,cI,cI,cI⟩:bM)) rfl;⟨λjv w'=>∃(U:Nat) (J I G E:SV),jv=.pointer (some ⟨U,0,none⟩)/\St w aY [bZ U (ia (⟨cI,J,I,G,E,cI⟩:bM)),bF (hM J) (jr p.iJ),bF (hM I) (jr p.eE),fG (hM G) (kJ p.threads),fG (hM E) (kJ p.recover),bZ j5 (ia (⟨bH,bR,bI,aT,aU,bE⟩:bM)),bZ vN (ia (⟨cI,cI,cI,cI,cI,cI⟩:bM))] w',?_,?_⟩)
 .refine aA pK (have u:=u.drew;aB jw u.p1.hb rfl ?_);have Z:=DL.flat dA;refine aA nD (aB jw u.p1.hb rfl ?_);have V:=DL.flat cW;refine aA kj (aB im u.p1.hb rfl (aA oA (aB im u.p1.hb rfl ⟨ef TR u (C45 _ _ _ (Z.ext u.aF)) (λx8 _ B u=>⟨aI jw (u.p2.hb.cell rfl),⟨aI im (u.p2.hb.cell rfl),⟨aI im (u.p2.hb.cell rfl),⟨ef TR u (C45 _ _ _ (V.ext u.aF)) (λx11 _ B u=>⟨aI im (u.p3.hb.cell rfl),⟨aI im (u.p3.hb.cell rfl),⟨ef Iq u (C46 _ _ _ (cA.ext u.aF)) (λx14 _ B u=>⟨aI im (u.p4.hb.cell rfl),⟨?_,⟨?_,?_⟩⟩⟩),⟨?_,?_⟩⟩⟩⟩),⟨?_,?_⟩⟩⟩⟩⟩),⟨?_,?_⟩⟩)))
  .refine ef Iq u (C46 _ _ _ (cB.ext u.aF)) (λx17 _ B u=>?_);obtain⟨Y,rfl⟩:=u.p3.fQ;obtain⟨E5,rfl⟩:=u.p2.fQ;obtain⟨Py,rfl⟩:=u.p1.oJ;obtain⟨ajq,rfl⟩:=u.oJ;refine pop (nk _ _ _ _ _ _ _ _ _ _ _ _) (aQ u uU λb_q3 _ u=>?_);have u:=u.enc (cs':=ia (⟨cI,cI,cI,cI,cI,cI⟩:bM)) rfl;refine⟨aI jw (u.p6.hb.cell rfl),?_⟩;refine⟨aI jw (u.p6.hb.cell rfl),?_⟩;refine⟨aI im (u.p6.hb.cell rfl),?_⟩;refine⟨aI im (u.p6.hb.cell rfl),?_⟩;exact aK (x:=(⟨cI,Y,E5,Py,ajq,cI⟩:bM)) u eN rfl rfl (λ_ u=>have u:=u.p5.p6.p3.p4.p5.p6.p6;⟨_,_,_,_,_,rfl,u⟩)
  .refine aQ u uU (λawY _ u=>?_);have u:=u.enc (cs':=ia (⟨cI,cI,cI,cI,cI,cI⟩:bM)) rfl;refine⟨aI jw (u.p5.hb.cell rfl),?_⟩;refine⟨aI jw (u.p5.hb.cell rfl),?_⟩;refine⟨aI im (u.p5.hb.cell rfl),?_⟩;refine⟨aI im (u.p5.hb.cell rfl),?_⟩;refine ef Iq u (C46 _ _ _ (cB.ext u.aF)) (λx17_1 _ B u=>?_);obtain⟨Y,rfl⟩:=u.p4.fQ;obtain⟨E5,rfl⟩:=u.p3.fQ;obtain⟨Py,rfl⟩:=u.p2.oJ;obtain⟨Yy,rfl⟩:=u.oJ;exact pop (nk _ _ _ _ _ _ _ _ _ _ _ _) (aK (x:=(⟨cI,Y,E5,Py,Yy,cI⟩:bM)) u.p1 eN rfl rfl λ_ u=>have u:=u.p5.p6.p3.p4.p5.p6.p6;⟨_,_,_,_,_,rfl,u⟩)
  .trivial
  .refine aQ u uU (λawZ _ u=>?_);have u:=u.enc (cs':=ia (⟨cI,cI,cI,cI,cI,cI⟩:bM)) rfl;refine⟨aI jw (u.p4.hb.cell rfl),?_⟩;refine⟨aI jw (u.p4.hb.cell rfl),?_⟩;refine⟨aI im (u.p4.hb.cell rfl),?_⟩;refine⟨aI im (u.p4.hb.cell rfl),?_⟩;refine ef Iq u (C46 _ _ _ (cA.ext u.aF)) (λx14_1 _ B u=>?_);refine⟨aI im (u.p5.hb.cell rfl),?_⟩;refine ef Iq u (C46 _ _ _ (cB.ext u.aF)) (λx17_2 _ B u=>?_);obtain⟨Y,rfl⟩:=u.p4.fQ;obtain⟨E5,rfl⟩:=u.p3.fQ;obtain⟨Yz,rfl⟩:=u.p1.oJ;obtain⟨YA,rfl⟩:=u.oJ
   exact pop (nk _ _ _ _ _ _ _ _ _ _ _ _) (aK (x:=(⟨cI,Y,E5,Yz,YA,cI⟩:bM)) u.p2 eN rfl rfl λ_ u=>have u:=u.p5.p6.p3.p4.p5.p6.p6;⟨_,_,_,_,_,rfl,u⟩)
  .trivial
  .refine aQ u uU (λaw0 _ u=>?_);have u:=u.enc (cs':=ia (⟨cI,cI,cI,cI,cI,cI⟩:bM)) rfl;refine⟨aI jw (u.p3.hb.cell rfl),?_⟩;refine⟨aI jw (u.p3.hb.cell rfl),?_⟩;refine⟨aI im (u.p3.hb.cell rfl),?_⟩;refine⟨aI im (u.p3.hb.cell rfl),?_⟩;refine ef TR u (C45 _ _ _ (V.ext u.aF)) (λx11_1 _ B u=>?_);refine⟨aI im (u.p4.hb.cell rfl),?_⟩;refine⟨aI im (u.p4.hb.cell rfl),?_⟩;refine ef Iq u (C46 _ _ _ (cA.ext u.aF)) (λx14_2 _ B u=>?_);refine⟨aI im (u.p5.hb.cell rfl),?_⟩;refine ef Iq u (C46 _ _ _ (cB.ext u.aF)) (λx17_3 _ B u=>?_)
   obtain⟨Y,rfl⟩:=u.p4.fQ;obtain⟨YB,rfl⟩:=u.p2.fQ;obtain⟨YC,rfl⟩:=u.p1.oJ;obtain⟨YD,rfl⟩:=u.oJ;exact pop (nk _ _ _ _ _ _ _ _ _ _ _ _) (aK (x:=(⟨cI,Y,YB,YC,YD,cI⟩:bM)) u.p3 eN rfl rfl λ_ u=>have u:=u.p5.p6.p3.p4.p5.p6.p6;⟨_,_,_,_,_,rfl,u⟩)
  .trivial
  .refine aQ u uU (λaw1 _ u=>?_);have u:=u.enc (cs':=ia (⟨cI,cI,cI,cI,cI,cI⟩:bM)) rfl;refine⟨aI jw (u.p2.hb.cell rfl),?_⟩;refine⟨aI jw (u.p2.hb.cell rfl),?_⟩;refine⟨aI im (u.p2.hb.cell rfl),?_⟩;refine⟨aI im (u.p2.hb.cell rfl),?_⟩;refine ef TR u (C45 _ _ _ (Z.ext u.aF)) (λx8_1 _ B u=>?_);refine⟨aI jw (u.p3.hb.cell rfl),?_⟩;refine⟨aI im (u.p3.hb.cell rfl),?_⟩;refine⟨aI im (u.p3.hb.cell rfl),?_⟩;refine ef TR u (C45 _ _ _ (V.ext u.aF)) (λx11_2 _ B u=>?_);refine⟨aI im (u.p4.hb.cell rfl),?_⟩;refine⟨aI im (u.p4.hb.cell rfl),?_⟩
   refine ef Iq u (C46 _ _ _ (cA.ext u.aF)) (λx14_3 _ B u=>?_);refine⟨aI im (u.p5.hb.cell rfl),?_⟩;refine ef Iq u (C46 _ _ _ (cB.ext u.aF)) (λx17_4 _ B u=>?_);obtain⟨Dp,rfl⟩:=u.p3.fQ;obtain⟨YE,rfl⟩:=u.p2.fQ;obtain⟨YF,rfl⟩:=u.p1.oJ;obtain⟨YG,rfl⟩:=u.oJ;exact pop (nk _ _ _ _ _ _ _ _ _ _ _ _) (aK (x:=(⟨cI,Dp,YE,YF,YG,cI⟩:bM)) u.p4 eN rfl rfl λ_ u=>have u:=u.p5.p6.p3.p4.p5.p6.p6;⟨_,_,_,_,_,rfl,u⟩)
  trivial
 rintro _ _ ⟨U,J,I,G,E,rfl,u⟩ _;have u:=((((((((u.IQ (α:=(List cG))).p7).p7).p7).p7).p7).p7).p6).p7;refine⟨λm x w1=>∃(k:Nat) (M:SV),x=hH (k:Int)/\m=6-k/\k<=6/\k<=p.lines.length/\St w aY [bZ U (ia (⟨M,J,I,G,E,cI⟩:bM)),fG (hM M) ((p.lines.take k).map jr),bF (hM J) (jr p.iJ),bF (hM I) (jr p.eE),fG (hM G) (kJ p.threads),fG (hM E) (kJ p.recover),bZ j5 (ia (⟨bH,bR,bI,aT,aU,bE⟩:bM)),bZ vN (ia (⟨cI,cI,cI,cI,cI,cI⟩:bM))] w1,⟨_,0,cI,rfl,rfl,bL,bL,u⟩,?_⟩
 rintro m _ _ ⟨k,M,rfl,rfl,hk,u9,u⟩ _;have Jb:((p.lines.take k).map jr).length=k:=by rw[mv,lQ];omega
 refine⟨λjv w'=>jv=.bool (decide (k<p.lines.length/\k<6))/\St w aY [bZ U (ia (⟨M,J,I,G,E,cI⟩:bM)),fG (hM M) ((p.lines.take k).map jr),bF (hM J) (jr p.iJ),bF (hM I) (jr p.eE),fG (hM G) (kJ p.threads),fG (hM E) (kJ p.recover),bZ j5 (ia (⟨bH,bR,bI,aT,aU,bE⟩:bM)),bZ vN (ia (⟨cI,cI,cI,cI,cI,cI⟩:bM))] w',?_,?_⟩
 .refine aA gq (aB oz u.p6.hb rfl ?_);obtain⟨ts70,aw2,aw3⟩:=cO.open;have hn70:=aw3.1;exact aH pj (aw2.ext u.aF) (aO (aC (λ_=>aO ⟨vb cH,u⟩) λ_=>⟨vb cH,u⟩))
 rintro _ _ ⟨rfl,u⟩ _;refine aX (λlx=>?_) (λlx=>?_)
 .have hc27:k<p.lines.length/\k<6:=by simpa using lx
  refine aA gq (have u:=u.drew;aB (v:=hM (M:SV)) oz u.hb rfl (aA gq (aB oz u.p6.hb rfl ?_)));obtain⟨aw4,aw5,aql⟩:=cO.open;have hn71:=aql.1;obtain⟨aqm,YH⟩:=gx aw4 (i:=(k:Int).toNat) bL;obtain⟨YI,YJ⟩:=gx p.lines (i:=(k:Int).toNat) bL;have aqn:DL w (hM aqm) YI:=aql.2 _ _ _ YH YJ;refine aM pj aw5 bL YH (λ_ Lv=>aE jw (Lv.ext u.aF) ?_);have aw6:=DL.flat aqn;refine ef TR u (C45 _ _ _ (aw6.ext u.aF)) (λx37 _ B u=>?_);refine⟨aI oz (u.p1.hb.cell rfl),?_⟩;obtain⟨YK,rfl⟩:=u.fQ
  have u:=u.freeze.dD (Ψ:=λw=>mL w YK (jr YI)) (λ_ h=>DL.j3 h);refine gF (s:=YK) (x:=(jr YI)) u pj cZ (λaqo _ u=>?_);refine⟨aI oz (u.p1.hb.cell rfl),?_⟩;have u:=u.p2;refine gd u pj (by rw[Jb,lH];omega) cZ (λaqp _ u=>aA gq ?_);obtain⟨zo,rfl⟩:=u.oJ;exact aV u.p1 oz (dM rfl) (rfl) (λ_ u=>have u:=u.enc (cs':=ia (⟨zo,J,I,G,E,cI⟩:bM)) rfl;aJ bL (have u:=u.p7.p7.p7.p7.p7.p7.p7.p7;⟨_,bL,k+1,zo,rfl,rfl,bL,bL,by rw[<- gI (k:=k) YJ];exact u⟩))
 rw[se (xs:=p.lines) (k:=k) (m:=6) bL bL (gL lx)]at u;have u:=(((((((((u.IQ (α:=gO)).p8).p8).p8).p8).p8).p8).p8).p7).p8;refine⟨λm x w1=>∃(j:Nat) (O:SV),x=hH (j:Int)/\m=6-j/\j<=6/\j<=p.dX.length/\St w aY [bZ U (ia (⟨M,J,I,G,E,O⟩:bM)),fG (hM O) ((p.dX.take j).map EX),fG (hM M) ((p.lines.take 6).map jr),bF (hM J) (jr p.iJ),bF (hM I) (jr p.eE),fG (hM G) (kJ p.threads),fG (hM E) (kJ p.recover),bZ j5 (ia (⟨bH,bR,bI,aT,aU,bE⟩:bM)),bZ vN (ia (⟨cI,cI,cI,cI,cI,cI⟩:bM))] w1,⟨_,0,cI,rfl,rfl,bL,bL,u⟩,?_⟩
 rintro m _ _ ⟨j,O,rfl,rfl,hj,BR,u⟩ _;have ajo:((p.dX.take j).map EX).length=j:=by rw[mv,lQ];omega
 refine⟨λjv w'=>jv=.bool (decide (j<p.dX.length/\j<6))/\St w aY [bZ U (ia (⟨M,J,I,G,E,O⟩:bM)),fG (hM O) ((p.dX.take j).map EX),fG (hM M) ((p.lines.take 6).map jr),bF (hM J) (jr p.iJ),bF (hM I) (jr p.eE),fG (hM G) (kJ p.threads),fG (hM E) (kJ p.recover),bZ j5 (ia (⟨bH,bR,bI,aT,aU,bE⟩:bM)),bZ vN (ia (⟨cI,cI,cI,cI,cI,cI⟩:bM))] w',?_,?_⟩
 .refine aA jR (aB sL u.p7.hb rfl ?_);obtain⟨ts73,aw7,aw8⟩:=cN.open;have hn73:=aw8.1;exact aH uf (aw7.ext u.aF) (aO (aC (λ_=>aO ⟨vb cH,u⟩) λ_=>⟨vb cH,u⟩))
 rintro _ _ ⟨rfl,u⟩ _;refine aX (λrQ=>?_) (λrQ=>?_)
 .have hc49:j<p.dX.length/\j<6:=by simpa using rQ
  refine aA jR (have u:=u.drew;aB (v:=hM (O:SV)) sL u.hb rfl (aA jR (aB sL u.p7.hb rfl ?_)));obtain⟨aw9,aqq,aqr⟩:=cN.open;have hn74:=aqr.1;obtain⟨YL,BT⟩:=gx aw9 (i:=(j:Int).toNat) bL;obtain⟨W,YM⟩:=gx p.dX (i:=(j:Int).toNat) bL;obtain⟨adK,rfl,adL⟩:=aqr.2 _ _ _ BT YM;refine aM uf aqq bL BT (λ_ Ma=>bW adK xF Ma rfl rfl λ_ EN=>aE jy (EN.ext u.aF) ?_);have axa:=DL.flat adL;refine aA jR (aB sL u.p7.hb rfl (aM uf aqq bL BT λ_ ED=>bW (W).at_ IE ED rfl rfl λ_ CB=>aE bO (CB.ext u.aF) (ef ahU u (C47 _ _ _ (axa.ext u.aF)) λx60 _ B u=>?_)))
  refine⟨aI sL (u.p1.hb.cell rfl),?_⟩;refine⟨aI sL (u.p8.hb.cell rfl),?_⟩;refine⟨fm bO (CB.ext u.aF),?_⟩;obtain⟨BU,rfl⟩:=u.fQ;refine pop (GR _ _ _ _) (have u:=u.freeze.dD (Ψ:=(λw=>mL w (⟨BU,(W).at_⟩:jl) (⟨(yj (W).e),(W).at_⟩:gO))) (λ_ h=>⟨_,rfl,DL.j3 h⟩);gF (s:=(⟨BU,(W).at_⟩:jl)) (x:=(⟨(yj (W).e),(W).at_⟩:gO)) u uf cZ λs_x68 _ u=>?_);refine⟨aI sL (u.p1.hb.cell rfl),?_⟩;have u:=u.p2;refine gd u uf (by rw[ajo,lH];omega) cZ (λs_x69 _ u=>aA jR ?_)
  obtain⟨YN,rfl⟩:=u.oJ;exact aV u.p1 sL (dM rfl) (rfl) (λ_ u=>have u:=u.enc (cs':=ia (⟨M,J,I,G,E,YN⟩:bM)) rfl;aJ bL (have u:=u.p8.p8.p8.p8.p8.p8.p8.p8.p8;⟨_,bL,j+1,YN,rfl,rfl,bL,bL,by rw[<- gI (k:=j) YM];exact u⟩))
 refine aE eN u.At (aK (x:=(⟨M,J,I,G,E,O⟩:bM)) u.p8 eN rfl rfl λ_ u=>aE eN u.At ?_);rw[se (xs:=p.dX) (k:=j) (m:=6) bL bL (gL rQ)]at u;have u:=u.p3.oI.p4.freeze.p1.fZ.p4.freeze.p1.fZ.p4.oI.p1.fZ.p4.oI.p1.fZ;have u:=u.p3.oI.p1.fZ.dD (Ψ:=(λw=>mL w (⟨M,J,I,G,E,O⟩:bM) (⟨((p.lines.take 6).map jr),(jr p.iJ),(jr p.eE),(kJ p.threads),(kJ p.recover),((p.dX.take 6).map EX)⟩:cE))) (λ_ h=>⟨_,_,_,_,_,_,rfl,h.1.1.1.1.1,DL.j3 h.1.1.1.1.2,DL.j3 h.1.1.1.2,h.1.1.2,h.1.2,h.2⟩)
 have u:=u.p1.drop.p1.drop.p1.drop;exact⟨_,rfl,u.fresh⟩
def tj(l:List Int)(i:Nat):Int:=if i=0 then 0 else l.getD (i-1) 0+1
theorem YO(x:bK)(loops:Int):loops+IT (decide (x.kind=12))=Bk.Di x loops:=by
 unfold Bk.Di IT
 grind
def aqs(b:Bool):0<=IT b/\IT b<=1:=by cases b<;>decide
def C309(W fv:Value)(xs:List bK)(φ:bK->Prop)(g:bK->Bool)(w:World)(hL:DL w W xs)(hf:tg g6 w fv φ g)(hφ:∀x∈xs,φ x)(hn:xs.length<=1073741824):CR 309 [W,fv] w (λv w'=>v=hH (rS g xs)/\Ext w w'):=by
 obtain⟨g0,first,cap,rfl,oy,jP⟩:=hf;have u:=St.start w;refine eU Tryz.func309 ?_;obtain⟨Z,U,V⟩:=hL.open;have hn3:=V.1;refine aH fj (U.ext u.aF) ?_;refine⟨λm x G=>∃k:Nat,x=hH (k:Int)/\m=xs.length-k/\k<=xs.length/\(∀y∈xs.take k,g y=false)/\St w aY [] G,⟨_,0,rfl,rfl,kO _,ea,u⟩,?_⟩;rintro m _ G ⟨k,rfl,rfl,hk,E,u⟩ _;refine aO (aC (λje=>?_) λ_=>⟨ez (mn .i64) (iT (by rw[kp bL]at E;exact E)).symm,u.aF⟩);obtain⟨g8,O⟩:=gx Z (i:=(k:Int).toNat) bL;obtain⟨yD,B⟩:=gx xs (i:=(k:Int).toNat) bL
 obtain⟨Jd,I,rfl,Je,J⟩:=V.2 _ _ _ O B;refine aM fj U bL O (λ_ Y=>aE eG (Y.ext u.aF) (gS oy (jP _ yD G u.aF ⟨Jd,I,rfl,(Je.ext u.aF),(J.ext u.aF)⟩ (hφ _ (j0 B))) ?_));rintro _ _ ⟨rfl,he⟩;have u:=u.ext he;exact aX (λM=>⟨ez (mn .i64) (lM E B M).symm,u.aF⟩) (λM=>aJ bL ⟨_,bL,k+1,rfl,rfl,bL,dS E B M,u⟩)
def C282(B fv:Value)(xs:List bK)(φ:bK->Prop)(g:bK->Bool)(w:World)(G:DL w B xs)(E:tg g6 w fv φ g)(I:∀x∈xs,φ x)(J:xs.length<=1073741824):CR 282 [B,fv] w (λv w'=>v=.bool (xs.any g)/\Ext w w'):=by
 have u:=St.start w;refine eU Tryz.func282 ?_;exact aS apj u (C309 _ _ _ _ _ _ (G.ext u.aF) (E.ext u.aF) I bL) (λ_ _ u=>cR ⟨vb (kD _ _),u.aF⟩)
theorem C284(lv:Value)(xs:List bK)(loops:Int)(N:Nat)(w:World)(hL:DL w lv xs)(hn:xs.length<=40)(hlo:0<=loops)(Ly:loops+N<=4194304)(hN:xs.length<N):CR 284 [lv,hH loops] w (λv w'=>v=hH (fy xs loops)/\Ext w w'):=by
 have E:=St.start w;refine adu _ _ _ _ ?_;unfold S284;refine⟨λm y x w1=>∃(k:Nat) (n:Int),y=hH n/\x=hH (k:Int)/\m=xs.length-k/\k<=xs.length/\0<=n/\n<=41/\fy xs loops=rW n (fy (xs.drop k) loops)/\St w aY [] w1,⟨_,0,0,rfl,rfl,rfl,bL,bL,bL,by have:=ti xs loops;rw[List.drop_zero];unfold rW;split<;>omega,E⟩,?_⟩;rintro m _ _ w1 ⟨k,n,rfl,rfl,rfl,hk,XC,Xp,hinv,E⟩ _;obtain⟨yA,J,I⟩:=hL.open;have hn4:=I.1;refine aH fj (J.ext E.aF) (aO (aC (λdP=>?_) λdP=>?_))
 .obtain⟨lP,jE⟩:=gx yA (i:=(k:Int).toNat) bL;obtain⟨u,nL⟩:=gx xs (i:=(k:Int).toNat) bL;obtain⟨M,O,rfl,Sr,Ss⟩:=I.2 _ _ _ jE nL;refine aM fj J bL jE (λ_ me=>?_);have hdk:=drop_cons (xs:=xs) (k:=k) nL;rw[hdk]at hinv;have O0:(xs.drop (k+1)).length=xs.length-(k+1):=pd;refine aE eG (me.ext E.aF) (aQ E jk λY _ E=>have E:=E.enc (cs':=ia (⟨0,(hZ #[]),(hZ #[]),cI,cI,0,0,0,0⟩:aZ)) rfl;aK (x:=(⟨u.kind,u.eB,u.name,M,O,u.n,u.body,u.eo,u.at_⟩:aZ)) E eG rfl rfl λ_ E=>aJ bL (aA iO (aB (v:=hH u.body) bO E.hb rfl (uo ?_))))
  obtain⟨W1,V⟩:∃W,W=Bl (((k:Int)+1)+u.body):=⟨_,rfl⟩;rw[<- V];refine aA iz (aB (v:=hH u.eo) bO E.hb rfl (uo ?_));obtain⟨U,Z⟩:∃W,W=Bl (W1+u.eo):=⟨_,rfl⟩;rw[<- Z];refine⟨λG w'=>G=.bool (Bk.za u)/\St w aY [bZ Y (ia (⟨u.kind,u.eB,u.name,M,O,u.n,u.body,u.eo,u.at_⟩:aZ))] w',aA dK (aB (v:=hH u.kind) bO E.hb rfl (aG (aC (λ_=>⟨vb (by unfold Bk.za;grind),E⟩) λ_=>aA dK (aB (v:=hH u.kind) bO E.hb rfl (aG ⟨vb (by unfold Bk.za;grind),E⟩))))),?_⟩
  rintro _ _ ⟨rfl,E⟩ _;refine⟨λG w'=>G=.bool (decide (u.body<0\/u.eo<0\/(xs.length:Int)<u.body\/(xs.length:Int)<u.eo\/(xs.length:Int)<U))/\St w aY [bZ Y (ia (⟨u.kind,u.eB,u.name,M,O,u.n,u.body,u.eo,u.at_⟩:aZ))] w',aA iO (aB (v:=hH u.body) bO E.hb rfl (aO (aC (λ_=>⟨vb cH,E⟩) λwE=>?_))),?_⟩
  .refine aA iz (aB (v:=hH u.eo) bO E.hb rfl (aO ?_));exact aC (λ_=>⟨vb cH,E⟩) (λ_=>aA iO (aB (v:=hH u.body) bO E.hb rfl (aH fj (J.ext E.aF) (cP (aC (λ_=>⟨vb cH,E⟩) λ_=>aA iz (aB (v:=hH u.eo) bO E.hb rfl (aH fj (J.ext E.aF) (cP (aC (λ_=>⟨vb cH,E⟩) λ_=>aH fj (J.ext E.aF) (cP ⟨vb cH,E⟩))))))))))
  rintro _ _ ⟨rfl,E⟩ _;refine aX (λoM=>?_) (λoM=>?_)
  .have hW:0<=u.body/\u.body<=40/\0<=u.eo/\u.eo<=40->U=(k:Int)+1+u.body+u.eo:=λh=>by
    have h1:W1=(k:Int)+1+u.body:=by rw[V];exact yV bL
    rw[Z,yV bL];omega
   exact⟨ez (mn .i64) (IW hinv (by unfold uw;grind)).symm,E.drop.aF⟩
  have hq:=gL oM
  have hW:U=(k:Int)+1+u.body+u.eo:=by
   have h1:W1=(k:Int)+1+u.body:=by rw[V];exact yV bL
   rw[Z,yV bL];omega
  have oZ:uw u (xs.drop (k+1)):=by unfold uw;omega
  refine⟨λG w'=>G=.bool (!Bk.xN u loops)/\St w aY [bZ Y (ia (⟨u.kind,u.eB,u.name,M,O,u.n,u.body,u.eo,u.at_⟩:aZ))] w',⟨λG w'=>G=.bool (!Bk.za u&&decide (0<u.body))/\St w aY [bZ Y (ia (⟨u.kind,u.eB,u.name,M,O,u.n,u.body,u.eo,u.at_⟩:aZ))] w',bP (aX (λ_=>aA iO (aB (v:=hH u.body) bO E.hb rfl (cP ⟨vb cH,E⟩))) λ_=>⟨vb cH,E⟩),?_⟩,?_⟩
  .rintro _ _ ⟨rfl,E⟩ _;refine aX (λ_=>⟨vb (by unfold Bk.xN;unfold Bk.za at *;grind),E⟩) (λagx=>⟨λG w'=>G=.bool (decide (¬ u.kind=11/\0<u.eo))/\St w aY [bZ Y (ia (⟨u.kind,u.eB,u.name,M,O,u.n,u.body,u.eo,u.at_⟩:aZ))] w',aA dK (aB (v:=hH u.kind) bO E.hb rfl (bT (aC (λ_=>aA iz (aB (v:=hH u.eo) bO E.hb rfl (cP ⟨vb cH,E⟩))) λ_=>⟨vb cH,E⟩))),?_⟩);rintro _ _ ⟨rfl,E⟩ _;exact aX (λ_=>⟨vb (by unfold Bk.xN;unfold Bk.za at *;grind),E⟩) (λ_=>aA dK (aB (v:=hH u.kind) bO E.hb rfl (aG (aC (λ_=>aG ⟨vb (by unfold Bk.xN;unfold Bk.za at *;grind),E⟩) λ_=>⟨vb (by unfold Bk.xN;unfold Bk.za at *;grind),E⟩))))
  rintro _ _ ⟨rfl,E⟩ _;refine aX (λ_=>⟨ez (mn .i64) (IW hinv cH).symm,E.drop.aF⟩) (λaty=>?_);have jK:Bk.xN u loops=true:=cH
  have aiv:=oZ;unfold uw at aiv;refine⟨λG w'=>∃n':Int,G=hH n'/\0<=n'/\n'<=41/\fy xs loops=rW n' (fy (xs.drop (k+1+(u.body.toNat+u.eo.toNat))) loops)/\St w aY [bZ Y (ia (⟨u.kind,u.eB,u.name,M,O,u.n,u.body,u.eo,u.at_⟩:aZ))] w',aX (λBV=>?_) (λBV=>?_),?_⟩
  .have hb01:=YO u loops;have hbb:=aqs (decide (u.kind=12));have hcA:((xs.take (((k:Int)+1)+u.body).toNat).drop ((k:Int)+1).toNat)=(xs.drop (k+1)).take u.body.toNat:=u7 xs bL bL;have hcB:((xs.take U.toNat).drop (((k:Int)+1)+u.body).toNat)=((xs.drop (k+1)).drop u.body.toNat).take u.eo.toNat:=by rw[sm];exact u7 xs bL bL
   have hlA:((xs.take (((k:Int)+1)+u.body).toNat).drop ((k:Int)+1).toNat).length<=xs.length-1/\((xs.take (((k:Int)+1)+u.body).toNat).drop ((k:Int)+1).toNat).length<=40:=by rw[hcA,lQ];omega
   have hlB:((xs.take U.toNat).drop (((k:Int)+1)+u.body).toNat).length<=xs.length-1/\((xs.take U.toNat).drop (((k:Int)+1)+u.body).toNat).length<=40:=by rw[hcB,lQ,pd];omega
   refine aA dK (aB (v:=hH u.kind) bO E.hb rfl (aG (aS Wr E (C302 _ _) λ_ he E=>aJ bL (aJ bL (aJ bL (aA iO (have E:=E.drew;aB (v:=hH u.body) bO E.hb rfl (aJ bL (n6 fj (J.ext E.aF) bL bL bL λaxd adP=>?_)))))))));have adQ:=DL.cut adP J I;refine aJ bL (aA iO (aB (v:=hH u.body) bO E.hb rfl (aJ bL (n6 fj (J.ext E.aF) bL bL bL λaxe adR=>?_))));have adS:=DL.cut adR J I
   refine aS X9 E (C284 _ _ _ (N-1) _ (adQ.ext E.aF) bL bL bL bL) (λ_ he E=>?_);refine⟨aI bO (E.hb.cell rfl),?_⟩;refine dO X9 (C284 _ _ _ (N-1) _ (adS.ext E.aF) bL bL bL bL) ?_;rintro _ _ ⟨rfl,he⟩;have E:=E.ext he;obtain⟨A,hA⟩:∃A,A=fy ((xs.take (((k:Int)+1)+u.body).toNat).drop ((k:Int)+1).toNat) (Bk.Di u loops):=⟨_,rfl⟩;obtain⟨B,hB⟩:∃B,B=fy ((xs.take U.toNat).drop (((k:Int)+1)+u.body).toNat) (Bk.Di u loops):=⟨_,rfl⟩;have hAb:=ti ((xs.take (((k:Int)+1)+u.body).toNat).drop ((k:Int)+1).toNat) (Bk.Di u loops)
   have hBb:=ti ((xs.take U.toNat).drop (((k:Int)+1)+u.body).toNat) (Bk.Di u loops);rw[<- hA]at hAb;rw[<- hB]at hBb;rw[YO,<- hA,<- hB];have Ue:=XA hinv oZ jK BV A B (by rw[hA,hcA]) (by rw[hB,hcB]);refine⟨λG w'=>G=.bool (decide (A<0\/B<0))/\St w aY [bZ Y (ia (⟨u.kind,u.eB,u.name,M,O,u.n,u.body,u.eo,u.at_⟩:aZ))] w',aG (aC (λ_=>⟨vb cH,E⟩) λ_=>aG ⟨vb cH,E⟩),?_⟩;rintro _ _ ⟨rfl,E⟩ _;refine aX (λPA=>⟨ez (mn .i64) (Ue.1 (fK PA)).symm,E.drop.aF⟩) (λPA=>aJ bL (aJ bL (Ll ?_)))
   have XD:=Ue.2 (gL PA);rw[sm,abK 1 A,abK 1 B]at XD;exact⟨_,rfl,bL,bL,XD,E⟩
  .have hdn:=agv hinv oZ jK BV;rw[sm]at hdn;exact⟨_,rfl,XC,Xp,hdn,E⟩
  rintro _ _ ⟨n',rfl,aiy,aiz,XE,E⟩ _;exact⟨_,bL,k+1+(u.body.toNat+u.eo.toNat),n',rfl,ez (mn .i64) bL,rfl,bL,aiy,aiz,XE,E.drop⟩
 rw[pC bL,BJ]at hinv;exact⟨ez (mn .i64) (by rw[hinv];unfold rW;omega),E.aF⟩
termination_by N
decreasing_by all_goals omega
theorem Mk(xs:List bK):pw xs=(!(decide (40<xs.length)||xs.any λy=>!mS y)&&decide (¬ fy xs 0 = -1/\fy xs 0<=12)):=by
 have:=ti xs 0
 grind[pw,mS,fy]
def C241(lv:Value)(xs:List bK)(w:World)(G:DL w lv xs)(Z:xs.length<=1048576)(Y:∀x∈xs,x.e.length<=1048576/\x.f.length<=1048576):CR 241 [lv] w (λv w'=>v=.bool (pw xs)/\Ext w w'):=by
 have u:=St.start w;refine eU Tryz.func241 ?_;refine⟨λB w'=>B=.bool (decide (40<xs.length)||xs.any λy=>!mS y)/\St w aY [] w',?_,?_⟩
 .obtain⟨V,E,J⟩:=G.open;have Dr:=J.1;exact aH fj (E.ext u.aF) (cP (aC (λ_=>⟨vb cH,u⟩) λ_=>aS api u (C282 _ _ _ (λx=>x.e.length<=1048576/\x.f.length<=1048576) _ _ (G.ext u.aF) ⟨283,[],[],rfl,ao9,λW y O _ hd M=>C283 y W O hd M.1 M.2⟩ Y bL) λ_ _ u=>⟨vb cH,u⟩))
 rintro _ _ ⟨rfl,u⟩ _;refine aX (λI=>?_) (λI=>?_)
 .refine⟨vb ?_,u.aF⟩;rw[Mk,I];rfl
 have U:xs.length<=40:=cH
 refine aS X9 u (C284 _ _ _ (xs.length+1) _ (G.ext u.aF) bL bL bL bL) (λ_ he u=>⟨λB w'=>B=.bool (decide (¬ fy xs 0 = -1/\fy xs 0<=12))/\St w aY [] w',bT (aC (λ_=>ga ⟨vb cH,u⟩) λ_=>⟨vb cH,u⟩),?_⟩);rintro _ _ ⟨rfl,u⟩ _;refine⟨vb ?_,u.aF⟩;rw[Mk,I];rfl
def Jf(t:cL):Bool:=q7 t.at_&&!t.dN.any (λs=>!gJ s)&&pw t.body
theorem Sv(t:cL):(!gJ t.name||!Jf t)=mg true t:=by
 unfold mg rX Jf
 grind
theorem Sw(t:cL):(decide (¬ t.name=⟨#[]⟩)||!Jf t)=mg false t:=by
 unfold mg rX Jf
 by_cases h:t.name=⟨#[]⟩
 .rw[h,show gJ (⟨#[]⟩:ByteArray)=false from cZ]
  grind
 grind
theorem Ml(p:cE):(!(p.lines.any nE||!nN 4294967296 p.iJ||!nN 0 p.eE||decide (1<p.recover.length))&&(!p.threads.any (mg true)&&!p.recover.any (mg false)&&!p.dX.any lB))=j7 p:=by
 unfold j7 ny
 grind
def SzS.ok{xs:List bK}(h:∀x∈xs,SzS x):∀x∈xs,x.e.length<=1048576/\x.f.length<=1048576:=λx u=>⟨(h x u).2.2.1,(h x u).2.2.2.1⟩
def C184(n:Int)(w:World):CR 184 [hH n] w (λv w'=>v=.bool (q7 n)/\Ext w w'):=by
 have u:=St.start w;refine eU Tryz.func184 ?_;refine⟨λE w'=>E=.bool (decide (0<=n/\n<=4000))/\w=w',cR (aC (λ_=>ga ⟨xB bL,rfl⟩) λ_=>⟨Wf bL,rfl⟩),?_⟩;rintro _ _ ⟨rfl,B⟩ _;subst B;exact⟨rfl,u.aF⟩
def C233(c:cG)(b2:Nat)(E:Int)(w:World)(hc:Cell w b2 0 (hH E)):CR 233 [hM c,.pointer (some ⟨b2,0,none⟩)] w (λv w'=>v=.bool (iK E c)/\Ext w w'):=by
 have u:=St.start w;refine eU Tryz.func233 ?_;refine cJ u (λB _ u=>⟨λG w'=>G=.bool (iK E c)/\St w aY [bZ B (ia c)] w',aA kx (aB (v:=.string c.name) gn u.hb rfl (aS LC u (C180 _ _) λ_ I u=>bP (aX (λ_=>⟨vb (by unfold iK;grind),u⟩) λJ=>?_))),?_⟩)
 .exact aA rH (aB (v:=hH c.n) bO u.hb rfl (aO (aC (λ_=>⟨vb (by unfold iK;grind),u⟩) λ_=>aA rH (aB (v:=hH c.n) bO u.hb rfl (bU bO (hc.ext u.aF) (cP (aC (λ_=>⟨vb (by unfold iK;grind),u⟩) λ_=>aA ui (aB (v:=hH c.at_) bO u.hb rfl (aS Yb u (C184 _ _) λ_ _ u=>bP ⟨vb (by unfold iK;grind),u⟩)))))))))
 rintro _ _ ⟨rfl,u⟩ _;exact⟨rfl,u.drop.aF⟩
def C279(M fv:Value)(xs:List cG)(g:cG->Bool)(w:World)(J:dz (λ_=>True) w M xs)(Y:vM w fv g)(hn:xs.length<=1073741824):CR 279 [M,fv] w (λv w'=>v=hH (rS g xs)/\Ext w w'):=by
 obtain⟨g0,first,cap,rfl,W,V⟩:=Y;have u:=St.start w;refine eU Tryz.func279 ?_;refine aH ie (J.ext u.aF) ?_;refine⟨λm x E=>∃k:Nat,x=hH (k:Int)/\m=xs.length-k/\k<=xs.length/\(∀y∈xs.take k,g y=false)/\St w aY [] E,⟨_,0,rfl,rfl,kO _,ea,u⟩,?_⟩;rintro m _ E ⟨k,rfl,rfl,hk,B,u⟩ _;refine aO (aC (λje=>?_) λ_=>⟨ez (mn .i64) (iT (by rw[kp bL]at B;exact B)).symm,u.aF⟩);obtain⟨O,G⟩:=gx xs (i:=(k:Int).toNat) bL;refine aM ie J bL G (λ_ U=>aE lK (U.ext u.aF) (gS W (V O E u.aF) ?_))
 rintro _ _ ⟨rfl,Z⟩;have u:=u.ext Z;exact aX (λI=>⟨ez (mn .i64) (lM B G I).symm,u.aF⟩) (λI=>aJ bL ⟨xs.length-(k+1),bL,k+1,rfl,rfl,bL,dS B G I,u⟩)
def C232(B fv:Value)(xs:List cG)(g:cG->Bool)(w:World)(G:dz (λ_=>True) w B xs)(E:vM w fv g)(I:xs.length<=1073741824):CR 232 [B,fv] w (λv w'=>v=.bool (xs.any g)/\Ext w w'):=by
 have u:=St.start w;refine eU Tryz.func232 ?_;exact aS apl u (C279 _ _ _ _ _ (G.ext u.aF) (E.ext u.aF) bL) (λ_ _ u=>cR ⟨vb (kD _ _),u.aF⟩)
def C178(lv:Value)(xs:List cG)(B:Int)(w:World)(M:dz (λ_=>True) w lv xs)(O:xs.length<=1048576):CR 178 [lv,hH B] w (λv w'=>v=.bool (nN B xs)/\Ext w w'):=by
 have u:=St.start w;refine eU Tryz.func178 ?_;refine nd u rfl (λI G u=>?_)
 have E:vM _ (.func (.func 233) [].toArray [.pointer (some ⟨I,0,none⟩)].toArray) (iK B):=
  ⟨233,[],_,rfl,apg,λy G J=>C233 y I B G ((u.hb.cell rfl).ext J)⟩
 exact aS apk u (C232 _ _ _ _ _ (M.ext u.aF) E bL) (λ_ _ u=>bP ⟨rfl,u.drop.aF⟩)
def C239(s:ByteArray)(w:World):CR 239 [.string s] w (λv w'=>v=.bool (!gJ s)/\Ext w w'):=by
 have u:=St.start w;refine eU Tryz.func239 ?_;exact aS LC u (C180 _ _) (λ_ _ u=>bP ⟨rfl,u.aF⟩)
def C181(t:cL)(G:cD)(w:World)(ht:mL w G t)(W:XB t/\t.dN.length<=500/\t.body.length<=500):CR 181 [hM G] w (λv w'=>v=.bool (Jf t)/\Ext w w'):=by
 obtain⟨O,M,rfl,U,I⟩:=ht;have u:=St.start w;refine eU Tryz.func181 ?_;refine cJ u (λV E u=>⟨λJ w'=>J=.bool (Jf t)/\St w aY [bZ V (ia (⟨t.name,O,M,t.at_⟩:cD))] w',aA pU (aB (v:=hH t.at_) bO u.hb rfl (aS Yb u (C184 _ _) λ_ Z u=>aX (λY=>?_) λ_=>⟨vb (by unfold Jf;grind),u⟩)),?_⟩)
 .refine aA fP (aB iW u.hb rfl ?_);have B:=DL.flat U;exact aS agE u (C240 _ _ _ (λs=>!gJ s) _ (B.ext u.aF) ⟨239,[],[],rfl,aph,λy E _=>C239 y E⟩ bL) (λ_ _ u=>bP (aX (λ_=>aA lh (aB jA u.hb rfl (aS apa u (C241 _ _ _ (I.ext u.aF) bL (SzS.ok W.1.2.2)) λ_ _ u=>⟨vb (by unfold Jf;grind),u⟩))) λ_=>⟨vb (by unfold Jf;grind),u⟩))
 rintro _ _ ⟨rfl,u⟩ _;exact⟨rfl,u.drop.aF⟩
def C179(t:cL)(B:cD)(w:World)(ht:mL w B t)(M:XB t/\t.dN.length<=500/\t.body.length<=500):CR 179 [hM B] w (λv w'=>v=.bool (mg true t)/\Ext w w'):=by
 obtain⟨G,E,rfl,O,I⟩:=ht;have u:=St.start w;refine eU Tryz.func179 ?_;refine cJ u (λJ _ u=>⟨λU w'=>U=.bool (mg true t)/\St w aY [bZ J (ia (⟨t.name,G,E,t.at_⟩:cD))] w',aA pS (aB (v:=.string t.name) gn u.hb rfl (aS LC u (C180 _ _) λ_ _ u=>bP (aX (λ_=>⟨vb (by rw[<- Sv];grind),u⟩) λ_=>aE mP u.At (aS agO u (C181 t _ _ ⟨G,E,rfl,(O.ext u.aF),(I.ext u.aF)⟩ M) λ_ _ u=>bP ⟨vb (by rw[<- Sv];grind),u⟩)))),?_⟩);rintro _ _ ⟨rfl,u⟩ _;exact⟨rfl,u.drop.aF⟩
def C182(t:cL)(B:cD)(w:World)(ht:mL w B t)(M:XB t/\t.dN.length<=500/\t.body.length<=500):CR 182 [hM B] w (λv w'=>v=.bool (mg false t)/\Ext w w'):=by
 obtain⟨G,E,rfl,O,I⟩:=ht;have u:=St.start w;refine eU Tryz.func182 ?_;refine cJ u (λJ _ u=>⟨λU w'=>U=.bool (mg false t)/\St w aY [bZ J (ia (⟨t.name,G,E,t.at_⟩:cD))] w',aA pS (aB (v:=.string t.name) gn u.hb rfl (lJ (aC (λ_=>⟨vb (by rw[<- Sw];grind),u⟩) λ_=>aE mP u.At (aS agO u (C181 t _ _ ⟨G,E,rfl,(O.ext u.aF),(I.ext u.aF)⟩ M) λ_ _ u=>bP ⟨vb (by rw[<- Sw];grind),u⟩)))),?_⟩);rintro _ _ ⟨rfl,u⟩ _;exact⟨rfl,u.drop.aF⟩
def C177(lv:Value)(xs:List cG)(w:World)(B:dz (λ_=>True) w lv xs)(G:xs.length<=1048576):CR 177 [lv] w (λv w'=>v=.bool (nE xs)/\Ext w w'):=by
 have u:=St.start w;refine eU Tryz.func177 ?_;refine⟨λE w'=>E=.bool (nE xs)/\St w aY [] w',aH ie (B.ext u.aF) (aG (aC (λ_=>⟨vb (by unfold nE;grind),u⟩) λ_=>aS Ya u (C178 _ _ _ _ (B.ext u.aF) bL) λ_ _ u=>bP ⟨vb (by unfold nE;grind),u⟩)),?_⟩;rintro _ _ ⟨rfl,u⟩ _;exact⟨rfl,u.aF⟩
def C183(c:gO)(cv:jl)(w:World)(hc:mL w cv c)(O:c.e.length<=1048576):CR 183 [hM cv] w (λv w'=>v=.bool (lB c)/\Ext w w'):=by
 obtain⟨E,rfl,I⟩:=hc;have u:=St.start w;refine eU Tryz.func183 ?_;refine cJ u (λG _ u=>⟨λJ w'=>J=.bool (lB c)/\St w aY [bZ G (ia (⟨E,c.at_⟩:jl))] w',aA IE (aB (v:=hH c.at_) bO u.hb rfl (aS Yb u (C184 _ _) λ_ M u=>bP (aX (λ_=>⟨vb (by unfold lB;grind),u⟩) λU=>?_))),?_⟩)
 .refine aA xF (aB jy u.hb rfl ?_);have B:=DL.flat I;exact aS Sa u (C185 _ _ _ (B.ext u.aF) bL) (λ_ _ u=>bP ⟨vb (by unfold lB;grind),u⟩)
 rintro _ _ ⟨rfl,u⟩ _;exact⟨rfl,u.drop.aF⟩
def C247(Y fv:Value)(xs:List (List cG))(φ:(List cG)->Prop)(g:(List cG)->Bool)(w:World)(hL:DL w Y xs)(hf:tg g6 w fv φ g)(hφ:∀x∈xs,φ x)(hn:xs.length<=1073741824):CR 247 [Y,fv] w (λv w'=>v=hH (rS g xs)/\Ext w w'):=by
 obtain⟨g0,first,cap,rfl,oy,jP⟩:=hf;have u:=St.start w;refine eU Tryz.func247 ?_;obtain⟨O,B,G⟩:=hL.open;have hn8:=G.1;refine aH pj (B.ext u.aF) ?_;refine⟨λm x M=>∃k:Nat,x=hH (k:Int)/\m=xs.length-k/\k<=xs.length/\(∀y∈xs.take k,g y=false)/\St w aY [] M,⟨_,0,rfl,rfl,kO _,ea,u⟩,?_⟩;rintro m _ M ⟨k,rfl,rfl,hk,J,u⟩ _;refine aO (aC (λje=>?_) λ_=>⟨ez (mn .i64) (iT (by rw[kp bL]at J;exact J)).symm,u.aF⟩);obtain⟨Z,V⟩:=gx O (i:=(k:Int).toNat) bL;obtain⟨W,I⟩:=gx xs (i:=(k:Int).toNat) bL
 have E:DL w (hM Z) W:=G.2 _ _ _ V I;refine aM pj B bL V (λ_ gH=>aE jw (gH.ext u.aF) ?_);have hf9:=DL.flat E;refine gS oy (jP _ W M u.aF (E.ext u.aF) (hφ _ (j0 I))) ?_;rintro _ _ ⟨rfl,he⟩;have u:=u.ext he;exact aX (λU=>⟨ez (mn .i64) (lM J I U).symm,u.aF⟩) (λU=>aJ bL ⟨_,bL,k+1,rfl,rfl,bL,dS J I U,u⟩)
def C186(B fv:Value)(xs:List (List cG))(φ:(List cG)->Prop)(g:(List cG)->Bool)(w:World)(G:DL w B xs)(E:tg g6 w fv φ g)(I:∀x∈xs,φ x)(J:xs.length<=1073741824):CR 186 [B,fv] w (λv w'=>v=.bool (xs.any g)/\Ext w w'):=by
 have u:=St.start w;refine eU Tryz.func186 ?_;exact aS apm u (C247 _ _ _ _ _ _ (G.ext u.aF) (E.ext u.aF) I bL) (λ_ _ u=>cR ⟨vb (kD _ _),u.aF⟩)
def C248(V fv:Value)(xs:List cL)(φ:cL->Prop)(g:cL->Bool)(w:World)(hL:DL w V xs)(hf:tg g6 w fv φ g)(hφ:∀x∈xs,φ x)(hn:xs.length<=1073741824):CR 248 [V,fv] w (λv w'=>v=hH (rS g xs)/\Ext w w'):=by
 obtain⟨g0,first,cap,rfl,oy,Z⟩:=hf;have u:=St.start w;refine eU Tryz.func248 ?_;obtain⟨M,B,E⟩:=hL.open;have W:=E.1;refine aH fr (B.ext u.aF) ?_;refine⟨λm x J=>∃k:Nat,x=hH (k:Int)/\m=xs.length-k/\k<=xs.length/\(∀y∈xs.take k,g y=false)/\St w aY [] J,⟨_,0,rfl,rfl,kO _,ea,u⟩,?_⟩;rintro m _ J ⟨k,rfl,rfl,hk,I,u⟩ _;refine aO (aC (λje=>?_) λ_=>⟨ez (mn .i64) (iT (by rw[kp bL]at I;exact I)).symm,u.aF⟩);obtain⟨g8,U⟩:=gx M (i:=(k:Int).toNat) bL;obtain⟨yD,G⟩:=gx xs (i:=(k:Int).toNat) bL
 obtain⟨PB,PC,rfl,PH,PI⟩:=E.2 _ _ _ U G;refine aM fr B bL U (λ_ Y=>aE mP (Y.ext u.aF) (gS oy (Z _ yD J u.aF ⟨PB,PC,rfl,(PH.ext u.aF),(PI.ext u.aF)⟩ (hφ _ (j0 G))) ?_));rintro _ _ ⟨rfl,he⟩;have u:=u.ext he;exact aX (λO=>⟨ez (mn .i64) (lM I G O).symm,u.aF⟩) (λO=>aJ bL ⟨_,bL,k+1,rfl,rfl,bL,dS I G O,u⟩)
def C187(B fv:Value)(xs:List cL)(φ:cL->Prop)(g:cL->Bool)(w:World)(G:DL w B xs)(E:tg g6 w fv φ g)(I:∀x∈xs,φ x)(J:xs.length<=1073741824):CR 187 [B,fv] w (λv w'=>v=.bool (xs.any g)/\Ext w w'):=by
 have u:=St.start w;refine eU Tryz.func187 ?_;exact aS apn u (C248 _ _ _ _ _ _ (G.ext u.aF) (E.ext u.aF) I bL) (λ_ _ u=>cR ⟨vb (kD _ _),u.aF⟩)
def C249(V fv:Value)(xs:List gO)(φ:gO->Prop)(g:gO->Bool)(w:World)(hL:DL w V xs)(hf:tg g6 w fv φ g)(hφ:∀x∈xs,φ x)(hn:xs.length<=1073741824):CR 249 [V,fv] w (λv w'=>v=hH (rS g xs)/\Ext w w'):=by
 obtain⟨g0,first,cap,rfl,Z,Y⟩:=hf;have u:=St.start w;refine eU Tryz.func249 ?_;obtain⟨I,O,U⟩:=hL.open;have av5:=U.1;refine aH uf (O.ext u.aF) ?_;refine⟨λm x G=>∃k:Nat,x=hH (k:Int)/\m=xs.length-k/\k<=xs.length/\(∀y∈xs.take k,g y=false)/\St w aY [] G,⟨_,0,rfl,rfl,kO _,ea,u⟩,?_⟩;rintro m _ G ⟨k,rfl,rfl,hk,E,u⟩ _;refine aO (aC (λje=>?_) λ_=>⟨ez (mn .i64) (iT (by rw[kp bL]at E;exact E)).symm,u.aF⟩);obtain⟨g8,M⟩:=gx I (i:=(k:Int).toNat) bL;obtain⟨yD,B⟩:=gx xs (i:=(k:Int).toNat) bL
 obtain⟨Jd,rfl,Je⟩:=U.2 _ _ _ M B;refine aM uf O bL M (λ_ W=>aE ID (W.ext u.aF) (gS Z (Y _ yD G u.aF ⟨Jd,rfl,(Je.ext u.aF)⟩ (hφ _ (j0 B))) ?_));rintro _ _ ⟨rfl,he⟩;have u:=u.ext he;exact aX (λJ=>⟨ez (mn .i64) (lM E B J).symm,u.aF⟩) (λJ=>aJ bL ⟨_,bL,k+1,rfl,rfl,bL,dS E B J,u⟩)
def C188(B fv:Value)(xs:List gO)(φ:gO->Prop)(g:gO->Bool)(w:World)(G:DL w B xs)(E:tg g6 w fv φ g)(I:∀x∈xs,φ x)(J:xs.length<=1073741824):CR 188 [B,fv] w (λv w'=>v=.bool (xs.any g)/\Ext w w'):=by
 have u:=St.start w;refine eU Tryz.func188 ?_;exact aS apq u (C249 _ _ _ _ _ _ (G.ext u.aF) (E.ext u.aF) I bL) (λ_ _ u=>cR ⟨vb (kD _ _),u.aF⟩)
def C108(p:cE)(pv:bM)(w:World)(E:mL w pv p)(B:PZ p):CR 108 [hM pv] w (λv w'=>v=.bool (j7 p)/\Ext w w'):=by
 obtain⟨Z,bR,bI,Y,aU,bE,rfl,cO,dA,cW,cA,cB,cN⟩:=E;have u:=St.start w;refine eU Tryz.func108 ?_;refine cJ u (λj5 G u=>⟨λJ w'=>J=.bool (p.lines.any nE||!nN 4294967296 p.iJ||!nN 0 p.eE||decide (1<p.recover.length))/\St w aY [bZ j5 (ia (⟨Z,bR,bI,Y,aU,bE⟩:bM))] w',aA gq (aB oz u.hb rfl (aS agP u (C186 _ _ _ (λl=>l.length<=1048576) _ _ (cO.ext u.aF) ⟨177,[],[],rfl,apc,λ_ y G _ hd E=>C177 _ y G (DL.flat hd) E⟩ (λl hl=>by have:=B.line l hl;omega) (by have:=B.lines;omega)) λ_ he u=>aX (λ_=>⟨vb cH,u⟩) λjo=>?_)),?_⟩)
 .refine aA pK (aB jw u.hb rfl ?_);have W:=DL.flat dA;refine aS Ya u (C178 _ _ _ _ (W.ext u.aF) (by have:=B.iJ;omega)) (λ_ he u=>bP (aX (λ_=>⟨vb cH,u⟩) λjd=>aA nD (aB jw u.hb rfl ?_)));have M:=DL.flat cW;refine aS Ya u (C178 _ _ _ _ (M.ext u.aF) (by have:=B.eE;omega)) (λ_ he u=>bP (aX (λ_=>⟨vb cH,u⟩) λeT=>aA oA (aB im u.hb rfl ?_)));have hzr:=B.recover;obtain⟨ts14,U,V⟩:=cB.open;have hn14:=V.1;exact aH fr (U.ext u.aF) (cP ⟨vb cH,u⟩)
 rintro _ _ ⟨rfl,u⟩ _;refine aX (λO=>?_) (λO=>⟨λJ w'=>J=.bool (!p.threads.any (mg true)&&!p.recover.any (mg false)&&!p.dX.any lB)/\St w aY [bZ j5 (ia (⟨Z,bR,bI,Y,aU,bE⟩:bM))] w',?_,?_⟩)
 .refine⟨vb ?_,u.drop.aF⟩;rw[<- Ml,O];simp
 .refine aA kj ?_;exact aB im u.hb rfl (aS Yc u (C187 _ _ _ (λt=>XB t/\t.dN.length<=500/\t.body.length<=500) _ _ (cA.ext u.aF) ⟨179,[],[],rfl,apd,λI y G _ hd E=>C179 y I G hd E⟩ (λ_ ht=>B.qB (List.mem_append_left _ ht)) (by have:=B.threads;omega)) λ_ _ u=>bP (aX (λ_=>aA oA (aB im u.hb rfl (aS Yc u (C187 _ _ _ (λt=>XB t/\t.dN.length<=500/\t.body.length<=500) _ _ (cB.ext u.aF) ⟨182,[],[],rfl,ape,λI y G _ hd E=>C182 y I G hd E⟩ (λ_ ht=>B.qB (List.mem_append_right _ ht)) (by have:=B.recover;omega)) λ_ _ u=>bP (aX (λ_=>aA jR (aB sL u.hb rfl (aS apo u (C188 _ _ _ (λc=>c.e.length<=1048576) _ _ (cN.ext u.aF) ⟨183,[],[],rfl,apf,λI y G _ hd E=>C183 y I G hd E⟩ (λc hc=>(B.zc c hc).1) (by have:=B.dX;omega)) λ_ _ u=>bP ⟨vb cH,u⟩))) λ_=>⟨vb cH,u⟩)))) λ_=>⟨vb cH,u⟩))
 rintro _ _ ⟨rfl,u⟩ _;refine⟨vb ?_,u.drop.aF⟩;rw[<- Ml,O];simp
variable (w:World) (K:Value->g7)
def S109(p0:Value):Prop:=
 rA g6 (yg 27 p0) w λp1 a=>fA 27 p1 3 λb=>lA 24 b a λc=>lN 24 c λd=>eR (λB=>fA 27 p1 0 λe=>lA 22 e a λf=>lN 22 f λg=>bB .gtr 3 g (i 4) λh=>
 cV h (B tt a) (fA 27 p1 0 λj=>lA 22 j a λk=>cF 186 [k,(.func (.func 189) #[] #[])] a λl n=>cV l (B tt n) (fA 27 p1 1 λo=>lA 23 o n λp=>lN 23 p λq=>bB .gtr 3 q (i 4) λr=>
 cV r (B tt n) (fA 27 p1 2 λs=>lA 23 s n λt=>lN 23 t λu=>bB .gtr 3 u (i 2) λv=>cV v (B tt n) (bB .eql 3 d (i 0) λx=>cV x (B tt n) (bB .gtr 3 d (i 3) λy=>
 cV y (B tt n) (lA 27 p1 n λz=>cF 110 [z] n λV W=>cF 187 [V,(.func (.func 190) #[] #[])] W λU E=>cV U (B tt E) (fA 27 p1 5 λI=>lA 25 I E λY=>lN 25 Y λJ=>
 bB .gtr 3 J (i 4) λO=>B O E)))))))) (λG M=>∀_:Env,
 K G M)
theorem adT(p0:Value)(h:S109 w K p0):CR 109 [p0] w K:=
 qu 51 (λ_=>.nil) 4 [.tmp 2] Tryz.func109 h
def S111(E M:Value):Prop:=
 jQ (λG B a=>∀_:Env,
 lN 141 E λb=>bA .lss 3 B b λc=>cV c (iA 141 E B λd=>lA 193 d a λe=>aL 193 a λf g=>sA 193 f e g λh=>bB .add 3 B (i 1) λj=>fA 193 f 6 λk=>lA 3 k h λl=>
 bA .add 3 j l λn=>fA 193 f 7 λo=>lA 3 o h λp=>bA .add 3 n p λq=>eR (λK2=>fA 193 f 0 λr=>lA 3 r h λs=>bB .eql 3 s (i 12) λt=>cV t (fA 193 f 5 λu=>
 lA 3 u h λv=>bA .mul 3 M v λx=>K2 x h) (K2 M h)) (λI y=>∀_:Env,
 bB .gtr 3 I (i 64) λz=>cV z (fA 193 f 8 λZ=>lA 3 Z y λab=>K (.tuple #[ab,tt]) y) (bB .add 3 B (i 1) λY=>eM g6 (nn 141 E (some Y) (some q) none) λV=>
 cF 111 [V,I] y λJ O=>xT J 0 λU=>xT J 1 λW=>cV W (K (.tuple #[U,tt]) O) (G q O)))) (K (.tuple #[(i 0),ff]) a)) (λG=>G (i 0) w)
theorem adU(B u:Value)(h:S111 w K B u):CR 111 [B,u] w K:=
 qu 53 (λ_=>.nil) 48 [.tmp 4,.tmp 5] Tryz.func111 h
theorem Sy:PL 115:=dG Tryz.func115
theorem Sz:PL 195:=dG Tryz.func195
theorem axl:PL 50:=dG Tryz.func50
theorem YR:PL 54:=dG Tryz.func54
theorem aqx:PL 52:=dG Tryz.func52
theorem axm:PL 51:=dG Tryz.func51
theorem axn:PL 55:=dG Tryz.func55
theorem Ha:PL 159:=dG Tryz.func159
theorem SA:PL 110:=dG Tryz.func110
theorem aqy:PL 109:=dG Tryz.func109
theorem aqz:PL 189:=dG Tryz.func189
theorem aqA:PL 190:=dG Tryz.func190
theorem ag3:PL 111:=dG Tryz.func111
theorem aqB:PL 191:=dG Tryz.func191
theorem aqC:PL 250:=dG Tryz.func250
end Go.Proofs.YtpdlpabnlkofmaaGreatDoor
namespace Go.Fw
section
variable {α:Type}[Flat α] {P:Program}{w w0:World}{A:Nat->Prop}{L:List HP}
theorem Mm{T E O J R:Nat}{kn U:IntKind}{K:Value->g7}(W:St w0 A L w)(ht:Wt P T E (l1 α) O)(Y:P.underlying J=some (.int kn))(h1:1<=l1 α)(n:Nat)(Z:0<n)(I:n<=1048576)(hby:O<=8192)
  (k:∀b cap w',n<=cap->St w0 A (bF (.slice (some ⟨b,0,none⟩) 0 cap) ([]:List α)::L) w'->K (.slice (some ⟨b,0,none⟩) n cap) w'):rA P (Builtin.append_ #[T,J] R [.slice none 0 0,.int U (n:Int)].toArray) w K:=by
 obtain⟨V,u,hi,oZ,yR,B⟩:=fq ht
 obtain⟨z,hz,M⟩:∃z,u.zero=some z/\z.cells.size=l1 α:=by
  cases h:u.zero with
  | none=>rw[h]at B;cases B
  | some z=>rw[h]at B;exact⟨z,rfl,by simpa using B⟩
 have G:n*u.bytes<=281474976710656:=by
  have:=Nat.mul_le_mul I (show u.bytes<=8192 by omega)
  omega
 have hr:=Lib.run_append_nil_zeros (P:=P) w T J R E u z U kn V Y hi hz n Z bL bL G
 have Wu:=grownCap_ge w n 0 E
 refine⟨_,_,hr,k _ _ _ bL ?_⟩
 refine W.drew.new (F:=(· = w.heap.size)) (Ext.alloc _ _) (.inr ⟨_,_,(Builtin.zeroCells z.cells n++Builtin.zeroCells z.cells (grownCap w n 0 E-n)).toList,rfl,?_,?_,λ_=>Iff.rfl⟩) λb hb=>zq hb.symm
 .exact⟨E,by rw[show flat ([]:List α)=[]from rfl,x6,Array.toArray_toList];exact nc _ _⟩
 refine⟨kO _,zq (Eq.symm ?_)⟩
 show([]++_).length=_
 rw[x6,Array.length_toList,Array.size_append,size_zeroCells,size_zeroCells,M,<- Nat.add_mul]
 congr 1;omega
theorem Mn{T E sz B R n c:Nat}{z:Option Nat}{a:Option Addr}{K:Value->Prop}(ht:eI P T=some (E,sz,B,z))(k:K (hH (c:Int))):eM P (Builtin.cap_ #[T] R [Value.slice a n c].toArray) K:=by
 obtain⟨u,_⟩:=fq ht
 refine⟨_,?_,k⟩
 unfold Builtin.cap_
 simp[cT,cS u]
 rfl
theorem Mp{T E sz u n c:Nat}{z:Option Nat}{a:Option Addr}{K:Value->Prop}(ht:eI P T=some (E,sz,u,z))(B:a.map (·.add (0*sz))=a)(k:K (.slice a 0 c)):eM P (nn T (.slice a n c) none (some (hH 0)) none) K:=by
 refine⟨_,vZ ht (nV (.inl ⟨rfl,rfl⟩) (.inr ⟨0,rfl,Int.le_refl _,rfl⟩) (o5 _) (kO _)),?_⟩
 grind
end
end Go.Fw
namespace Go.Proofs.YtpdlpabnlkofmaaGreatDoor
open Go.Fw
theorem wT{α:Type}{ls:List (List α)}{k:Nat}{l:List α}(h:ls[k]?=some l):(ls.take (k+1)).flatten=(ls.take k).flatten++l:=by
 rw[<- gG h];simp
def Jg{α:Type}(ls:List (List α))(k:Nat):(ls.take k).flatten.length<=ls.flatten.length:=by
 conv=>rhs;rw[<- o1 k ls,List.flatten_append,kH]
 omega
def ag4{α:Type}[Flat α](w:World):dz (λ_=>True) w (.slice none 0 0) ([]:List α):=⟨none,0,rfl,kO _,.inl ⟨rfl,rfl⟩⟩
def C250(n:Nat)(w:World)(I:n<=1048576):CR 250 [.slice none 0 0,hH (n:Int)] w (λv w'=>kZ (bF v ([]:List cD)) w w'):=by
 have u:=St.start w;refine eU Tryz.func250 ?_;refine⟨λw'=>w'=w,aO (aC (λc=>absurd c bL) λ_=>rfl),?_⟩;rintro B E _;subst E;refine⟨λG w'=>St B aY [bF G ([]:List cD)] w',?_,?_⟩
 .refine Mn fr (aH fr (ag4 (α:=cD) B) (fk ea (fk (by simp;omega) (cP (aC (λc=>?_) λ_=>u.eW)))));refine Mn fr (Mp fr rfl ?_);have e:(n:Int)-(((0:Nat):Int)-(([]:List cD).length:Int))=(n:Int):=ea
  rw[e]at c |-;exact Mm (α:=cD) (kn:=.i64) u fr (by kernel_rfl) cZ n bL I cZ (λ_ _ _ _ u=>aH fr (ag4 (α:=cD) B) (Mp fr (by simp[Addr.add]) u))
 rintro v _ u _;exact u.fresh
def C191(lv:Value)(B:List (List cD))(w:World)(hL:avL w lv B)(hn:B.length<=1000)(hf:B.flatten.length<=100000):CR 191 [lv] w (λv w'=>kZ (bF v B.flatten) w w'):=by
 obtain⟨I,U,hl,Y⟩:=hL;have u:=St.start w;refine eU Tryz.func191 ?_;refine aH Ld (U.ext u.aF) ?_;refine⟨λm y x O=>∃k:Nat,y=hH ((B.take k).flatten.length:Int)/\x=hH (k:Int)/\m=I.length-k/\k<=I.length/\St w aY [] O,⟨_,0,rfl,rfl,rfl,kO _,u⟩,?_⟩;rintro m _ _ O ⟨k,rfl,rfl,rfl,hk,u⟩ _;refine aO (aC (λc=>?_) λc=>?_)
 .obtain⟨s,M⟩:=gx I (i:=(k:Int).toNat) bL;obtain⟨t,J⟩:=gx B (i:=k) bL;have V:=Y k s t M J;have G:=Jg B (k+1);have E:=wT J;rw[E,kH]at G;refine⟨λjv w'=>jv=hH ((B.take (k+1)).flatten.length:Int)/\St w aY [] w',aM Ld U bL M (λ_ W=>aE im (W.ext u.aF) (aH fr (V.ext u.aF) (aJ bL (aO (aC (λc=>absurd c bL) λ_=>⟨ez (mn .i64) (by rw[E,kH];omega),u⟩))))),?_⟩;rintro _ _ ⟨rfl,u⟩ _;exact aJ bL ⟨_,bL,k+1,rfl,rfl,rfl,bL,u⟩
 have vB:B.take k=B:=kp bL;rw[vB];refine ef aqC u (C250 _ _ bL) (λZ _ cM u=>aH Ld (U.ext u.aF) ?_);refine⟨λm v x O=>∃k:Nat,x=hH (k:Int)/\m=I.length-k/\k<=I.length/\St w aY [bF v ((B.take k).flatten)] O,⟨_,0,rfl,rfl,kO _,u⟩,?_⟩;rintro m v _ _ ⟨k,rfl,rfl,hk,u⟩ _;refine aO (aC (λc=>?_) λc=>?_)
 .obtain⟨s,M⟩:=gx I (i:=(k:Int).toNat) bL;obtain⟨t,J⟩:=gx B (i:=k) bL;have V:=Y k s t M J;have G:=Jg B (k+1);have E:=wT J;rw[E,kH]at G;exact aM Ld U bL M (λ_ W=>aE im (W.ext u.aF) (bJ u fr (V.ext u.aF) bL cZ λ_ _ u=>aJ bL ⟨_,bL,k+1,rfl,rfl,bL,by rw[E];exact u⟩))
 rw[show B.take k=B from kp bL]at u;exact u.fresh
def ajs{w:World}{a b:SV}{x y:List cD}(h1:dz (λ_=>True) w (hM a) x)(h2:dz (λ_=>True) w (hM b) y):∀(i:Nat) (s:SV) (t:List cD),[a,b][i]?=some s->[x,y][i]?=some t->dz (λ_=>True) w (hM s) t:=by
 grind
def C110(p:cE)(pv:bM)(B E:List cD)(w:World)(V:mL w pv p)(h3:dz (λ_=>True) w (hM pv.threads) B)(h4:dz (λ_=>True) w (hM pv.recover) E)(O:B.length<=500)(M:E.length<=500):CR 110 [hM pv] w (λv w'=>kZ (bF v (B++E)) w w'):=by
 obtain⟨W,bR,bI,I,J,bE,rfl,Z,dA,cW,cA,cB,cN⟩:=V;have u:=St.start w;refine eU Tryz.func110 ?_;refine cJ u (λj5 _ u=>aA kj (aB im u.hb rfl (aA oA (aB im u.hb rfl (aW ([I,J]) u Ld rfl rfl (dM rfl) λU _ u=>ef aqB u (C191 _ [B,E] _ ⟨_,u.dQ,rfl,ajs (h3.ext u.aF) (h4.ext u.aF)⟩ ea (by simp;omega)) λx8 _ Y u=>?_)))));have G:=u.p1.drop.p1.drop;rw[show [B,E].flatten=B++E from ea]at G;exact G.fresh
def ajt(p:cE):(decide (4<(p.lines.length:Int))||p.lines.any (λl=>decide (4<(l.length:Int)))||decide (4<(p.iJ.length:Int))||decide (2<(p.eE.length:Int))||decide ((p.threads.length:Int)=0)||decide (3<(p.threads.length:Int))||(gj p).any (λt=>decide (4<(t.dN.length:Int)))||decide (4<(p.dX.length:Int)))=uB p:=by
 unfold uB
 grind
def SB{p:cE}(h:∀l∈p.lines,l.length<=500)(u:p.lines.length<=500)(k:Nat):(p.lines.take k).flatten.length<=250000:=by
 have h1:=Jg p.lines k
 have h2:=cY h
 omega
def C159(B:Value)(ns:List ByteArray)(s:ByteArray)(w:World)(E:dz (λ_=>True) w B ns)(G:ns.length<=1048576):CR 159 [B,.string s] w (λv w'=>v=hH (cU ns s)/\Ext w w'):=by
 have u:=St.start w;refine eU Tryz.func159 ?_;exact aS XK u (C225 _ _ _ _ (E.ext u.aF) bL) (λ_ _ u=>⟨rfl,u.aF⟩)
def C54(p:cE)(pv:bM)(w:World)(hp:mL w pv p)(G:PZ p):CR 54 [hM pv] w (λv w'=>v=hH (eJ p)/\Ext w w'):=by
 obtain⟨bH,bR,bI,aT,aU,bE,rfl,cO,dA,cW,cA,cB,cN⟩:=hp;have u:=St.start w;refine eU Tryz.func54 ?_;refine cJ u (λj5 Y u=>aA gq (aB oz u.hb rfl ?_));obtain⟨M,B,E⟩:=cO.open;have hn15:=E.1;refine aH pj (B.ext u.aF) ?_;refine⟨λm y x Y=>∃k:Nat,y=hH (((p.lines.take k).flatten.length:Nat):Int)/\x=hH (k:Int)/\m=p.lines.length-k/\k<=p.lines.length/\St w aY [bZ j5 (ia (⟨bH,bR,bI,aT,aU,bE⟩:bM))] Y,⟨_,0,rfl,rfl,rfl,bL,u⟩,?_⟩
 rintro m _ _ _ ⟨k,rfl,rfl,rfl,hk,u⟩ _;have YS:=SB G.line G.lines k;have V:=SB G.line G.lines (k+1);have hzl:=G.lines;refine aO (aC (λgT=>?_) λgT=>?_)
 .obtain⟨GY,Z⟩:=gx M (i:=(k:Int).toNat) bL;obtain⟨O,W⟩:=gx p.lines (i:=(k:Int).toNat) bL;have I:DL w (hM GY) O:=E.2 _ _ _ Z W;refine aM pj B bL Z (λ_ Ev=>?_);have J:=wT (k:=k) W;rw[J,kH]at V;refine aE jw (Ev.ext u.aF) ?_;have U:=DL.flat I;exact aH ie (U.ext u.aF) (aJ bL (aJ bL ⟨_,bL,k+1,ez (mn .i64) (by rw[wT (k:=k) W,kH];omega),rfl,rfl,bL,u⟩))
 rw[kp bL];exact⟨rfl,u.drop.aF⟩
def C51(p:cE)(pv:bM)(w:World)(hp:mL w pv p)(hz:PZ p):CR 51 [hM pv] w (λv w'=>kZ (bF v (cK p)) w w'):=by
 obtain⟨M,bR,bI,J,O,bE,rfl,cO,dA,cW,cA,cB,cN⟩:=hp;have u:=St.start w;refine eU Tryz.func51 ?_;refine cJ u (λU G u=>aA nD (aB jw u.hb rfl ?_));have B:=DL.flat cW;refine aH ie (B.ext u.aF) ?_;refine⟨λm y x G=>∃k:Nat,x=hH (k:Int)/\m=p.eE.length-k/\k<=p.eE.length/\St w aY [bF y ((p.eE.take k).map cG.name),bZ U (ia (⟨M,bR,bI,J,O,bE⟩:bM))] G,⟨_,0,rfl,rfl,bL,u.eW (α:=ByteArray)⟩,?_⟩;rintro m oL _ _ ⟨k,rfl,rfl,hk,u⟩ _
 have KH:((p.eE.take k).map cG.name).length=k:=by rw[mv,lQ];omega
 have Y:=hz.eE;refine aO (aC (λgT=>?_) λgT=>?_)
 .obtain⟨E,I⟩:=gx p.eE (i:=(k:Int).toNat) bL;refine aM ie B bL I (λ_ Ev=>aE lK (Ev.ext u.aF) (aQ u oD λW _ u=>aK (x:=E) u lK rfl rfl λ_ u=>aA kx (aB (v:=.string E.name) gn u.hb rfl (aW ([E.name]) u ix rfl rfl (dM rfl) λZ _ u=>?_))));have V:=u.dQ;exact bJ u.p2 ix V (by simp<;>omega) cZ (λ_ _ u=>have u:=u.p1.drop;aJ bL (have u:=u.p1.drop.p1.p1;⟨_,bL,k+1,rfl,rfl,bL,by rw[<- gI (k:=k) I];exact u⟩))
 have u:=u.p1.drop;rw[kp bL]at u;exact u.fresh
def C189(lv:Value)(xs:List cG)(w:World)(B:dz (λ_=>True) w lv xs)(E:xs.length<=1048576):CR 189 [lv] w (λv w'=>v=.bool (decide (4<(xs.length:Int)))/\Ext w w'):=by
 have u:=St.start w;refine eU Tryz.func189 ?_;exact aH ie (B.ext u.aF) (cP ⟨rfl,u.aF⟩)
def C190(t:cL)(E:cD)(w:World)(ht:mL w E t)(O:t.dN.length<=500):CR 190 [hM E] w (λv w'=>v=.bool (decide (4<(t.dN.length:Int)))/\Ext w w'):=by
 obtain⟨M,J,rfl,G,I⟩:=ht;have u:=St.start w;refine eU Tryz.func190 ?_;refine cJ u (λU _ u=>aA fP (aB iW u.hb rfl ?_));have B:=DL.flat G;exact aH ix (B.ext u.aF) (cP ⟨rfl,u.drop.aF⟩)
def C109(p:cE)(pv:bM)(w:World)(G:mL w pv p)(B:PZ p):CR 109 [hM pv] w (λv w'=>v=.bool (uB p)/\Ext w w'):=by
 obtain⟨bH,bR,bI,aT,aU,bE,rfl,O,dA,cW,Y,cB,cN⟩:=G;have u:=St.start w;refine adT _ _ _ ?_;unfold S109;refine cJ u (λj5 I u=>?_);have Ua:=B.lines;have hz2:=B.iJ;have hz3:=B.eE;have hz4:=B.threads;have hz5:=B.dX;obtain⟨vc,YP,YQ⟩:=Y.open;obtain⟨yA,Pz,E⟩:=cB.open;have hn3:=YQ.1;have hn4:=E.1;have ai6:=Dk B.toPS;refine aA kj (aB im u.hb rfl ?_);obtain⟨ts19,axr,V⟩:=Y.open;have hn19:=V.1;refine aH fr (axr.ext u.aF) ⟨λjv w'=>jv=.bool (decide (4<(p.lines.length:Int))||p.lines.any (λl=>decide (4<(l.length:Int)))||decide (4<(p.iJ.length:Int))||decide (2<(p.eE.length:Int))||decide ((p.threads.length:Int)=0)||decide (3<(p.threads.length:Int))||(gj p).any (λt=>decide (4<(t.dN.length:Int)))||decide (4<(p.dX.length:Int)))/\St w aY [bZ j5 (ia (⟨bH,bR,bI,aT,aU,bE⟩:bM))] w',?_,?_⟩
 .refine aA gq (aB oz u.hb rfl ?_);obtain⟨apC,Ur,W⟩:=O.open;have awd:=W.1;refine aH pj (Ur.ext u.aF) (cP (aC (λ_=>⟨vb cH,u⟩) λkB=>aA gq (aB oz u.hb rfl (aS agP u (C186 _ _ _ (λl=>l.length<=1048576) _ _ (O.ext u.aF) ⟨189,[],[],rfl,aqz,λ_ y I _ hd G=>C189 _ y I (DL.flat hd) G⟩ (λl hl=>by have:=B.line l hl;omega) (by have:=B.lines;omega)) λ_ he u=>aX (λ_=>⟨vb cH,u⟩) λjW=>aA pK (aB jw u.hb rfl ?_)))));have adC:=DL.flat dA;refine aH ie (adC.ext u.aF) (cP (aC (λ_=>⟨vb cH,u⟩) λmR=>aA nD (aB jw u.hb rfl ?_)))
  have Z:=DL.flat cW;refine aH ie (Z.ext u.aF) (cP (aC (λ_=>⟨vb cH,u⟩) λagX=>aG (aC (λ_=>⟨vb cH,u⟩) λyE=>cP (aC (λ_=>⟨vb cH,u⟩) λoM=>aE eN u.At (dO SA (C110 p _ vc yA _ ⟨bH,bR,bI,aT,aU,bE,rfl,(O.ext u.aF),(dA.ext u.aF),(cW.ext u.aF),(Y.ext u.aF),(cB.ext u.aF),(cN.ext u.aF)⟩ (YP.ext u.aF) (Pz.ext u.aF) (by have:=B.threads;omega) (by have:=B.recover;omega)) ?_)))));rintro x41 _ cM;have u:=u.made cM;have M:DL _ _ (gj p):=DL.of u.dQ ((YQ.append E).ext u.aF)
  refine aS Yc u (C187 _ _ _ (λt=>t.dN.length<=500) _ _ M ⟨190,[],[],rfl,aqA,λsv y I _ hd G=>C190 y sv I hd G⟩ (λ_ ht=>(B.qB ht).2.1) bL) (λ_ he u=>aX (λ_=>have u:=u.drop;⟨vb cH,u⟩) λvw=>aA jR (aB sL u.p1.hb rfl ?_));obtain⟨ts23,U,J⟩:=cN.open;have hn23:=J.1;exact aH uf (U.ext u.aF) (cP (have u:=u.drop;⟨vb cH,u⟩))
 rintro _ _ ⟨rfl,u⟩ _;exact⟨vb (ajt p),u.drop.aF⟩
theorem ve(x:bK)(a b r:Bk)(n:Int):mj (.cons x a b r) n=(decide (64<qN x n)||(mj a (qN x n)||mj b (qN x n))||mj r n):=rfl
def adW{xs:List bK}{k:Nat}{x:bK}{a b r:Bk}(h:xs.drop k=(Bk.cons x a b r).flat)(u:(Bk.cons x a b r).str){hi lo:Int}(h1:hi=k+1+x.body+x.eo)(h2:lo=k+1):(xs.take hi.toNat).drop lo.toNat=(a.app b).flat:=by
 have B:=u
 obtain⟨G,E,_⟩:=B
 have e:=Bk.CP u (hi:=1+x.body+x.eo) (lo:=1) rfl rfl
 rw[<- e,<- h,List.take_drop,sm]
 grind
def YT{xs:List bK}{k:Nat}{x:bK}{a b r:Bk}(h:xs.drop k=(Bk.cons x a b r).flat)(u:(Bk.cons x a b r).str):xs.drop (k+1+a.len+b.len)=r.flat:=by
 have B:=u
 obtain⟨G,E,_⟩:=B
 rw[<- Bk.aiN u (hi:=1+x.body+x.eo) rfl,<- h,sm]
 grind
def YU{α:Type}{xs l:List α}{k:Nat}{x:α}(h:xs.drop k=x::l):xs[k]?=some x:=by
 have:=ez (λl=>l[0]?) h
 grind
theorem C111(lv:Value)(t:Bk)(n:Int)(N:Nat)(w:World)(hL:DL w lv t.flat)(iS:t.str)(hq:∀x∈t.flat,0<=x.at_/\(x.kind=12->1<=x.n/\x.n<=8))(hn:1<=n/\n<=64)(hl:t.len<=1048576)(hN:t.len<N):CR 111 [lv,hH n] w (λv w'=>∃a:Int,v=.tuple #[hH a,.bool (mj t n)]/\Ext w w'):=by
 have tG:=t.cY;have B:=St.start w;refine adU _ _ _ _ ?_;unfold S111;refine⟨λm y w1=>∃(k:Nat) (u:Bk),y=hH (k:Int)/\m=t.len-k/\t.flat.drop k=u.flat/\k+u.len=t.len/\u.str/\(∀x∈u.flat,0<=x.at_/\(x.kind=12->1<=x.n/\x.n<=8))/\mj t n=mj u n/\St w aY [] w1,⟨_,0,t,rfl,rfl,rfl,bL,iS,hq,rfl,B⟩,?_⟩;rintro m _ w1 ⟨k,u,rfl,rfl,PK,O,I,J,G,B⟩ _;obtain⟨aiU,V,Uv⟩:=hL.open;have awi:=Uv.1;refine aH fj (V.ext B.aF) (aO (aC (λjd=>?_) λjd=>?_))
 .obtain⟨x,a,b,r,rfl⟩:=Bk.Dl (t:=u) (by rw[Bk.cY];omega);obtain⟨qd,gQ⟩:=gx aiU (i:=(k:Int).toNat) bL;obtain⟨E,Ew⟩:=gx t.flat (i:=(k:Int).toNat) bL;obtain⟨pN,pO,rfl,acX,acY⟩:=Uv.2 _ _ _ gQ Ew;refine aM fj V bL gQ (λ_ rT=>?_);obtain rfl:E=x:=n3.inj (Ew.symm.trans (YU PK));have M:=J E (by simp[Bk.flat]);have axx:=I;obtain⟨Bo,I8,Ut,hg4,Y,hgb,Z⟩:=axx;have F3:k+(a.len+b.len+r.len+1)=t.len:=O;have hla:=a.cY;have Ly:=b.cY;have hlr:=r.cY;have sT:=adW PK I (hi:=(k:Int)+1+E.body+E.eo) (lo:=(k:Int)+1) rfl rfl
  have adX:=YT PK I;refine aE eG (rT.ext B.aF) (aQ B jk λwI _ B=>have B:=B.enc (cs':=ia (⟨0,(hZ #[]),(hZ #[]),cI,cI,0,0,0,0⟩:aZ)) rfl;aK (x:=(⟨E.kind,E.eB,E.name,pN,pO,E.n,E.body,E.eo,E.at_⟩:aZ)) B eG rfl rfl λ_ B=>aJ bL (aA iO (aB (v:=hH E.body) bO B.hb rfl (aJ bL (aA iz (aB (v:=hH E.eo) bO B.hb rfl (aJ bL ⟨λjv w'=>∃m:Int,jv=hH m/\m=qN E n/\St w aY [bZ wI (ia (⟨E.kind,E.eB,E.name,pN,pO,E.n,E.body,E.eo,E.at_⟩:aZ))] w',aA dK (aB (v:=hH E.kind) bO B.hb rfl (aG (aC (λlO=>aA jB (aB (v:=hH E.n) bO B.hb rfl (Da (by have Uu:=M.2 lO;have h1:=Ix (a:=1) (b:=1) hn.1 Uu.1 bL bL;have h2:=Ix (c:=64) (d:=8) hn.2 Uu.2 bL bL;omega) ⟨_,rfl,by grind[qN],B⟩))) λ_=>⟨_,rfl,by grind[qN],B⟩))),?_⟩)))))))
  rintro _ _ ⟨m,rfl,U,B⟩ _;have hm8:=Yg hn M.2 U;refine cP (aC (λoM=>?_) λoM=>?_)
  .refine aA lj (aB (v:=hH E.at_) bO B.hb rfl ?_);refine⟨E.at_,?_,B.drop.aF⟩;rw[G,ve,<- U,ei (show(64:Int)<m by omega)];rfl
  refine aJ bL (n6 fj (V.ext B.aF) bL bL bL λaqJ PM=>?_);have Jh:=DL.cut PM V Uv;refine dO ag3 (C111 _ (a.app b) m (N-1) _ (by have h:=(Jh.ext B.aF);rw[sT]at h;exact h) (Bk.Sf Y hgb) (λy W=>J y (by rw[Bk.AK]at W;simp only[Bk.flat,sk,oi];rcases oi.1 W with h|h<;>simp[h])) bL (by rw[Dm];omega) (by rw[Dm];omega)) ?_;rintro _ _ ⟨a1,rfl,he⟩;have B:=B.ext he;rw[G8];refine aN rfl (aN rfl (aX (λrQ=>?_) λrQ=>⟨_,bL,k+1+a.len+b.len,r,ez (mn .i64) bL,rfl,adX,bL,Z,(λy W=>J y (by simp[Bk.flat,W])),by rw[G,ve,<- U,ej (show ¬ (64:Int)<m by omega),rQ];rfl,B.drop⟩))
  refine⟨a1,?_,B.drop.aF⟩;rw[G,ve,<- U,rQ];simp
 cases u with
 | nil=>exact⟨_,by rw[G];rfl,B.aF⟩
 | cons x a b r=>exact absurd O (by show ¬ k+(a.len+b.len+r.len+1)=_;omega)
termination_by N
decreasing_by all_goals omega
def PN:Int->List (List cG)->List (cG×Int)
 | _,[]=>[]
 | k,l::r=>l.map (λc=>(c,k))++PN (k+1) r
def Oc:Int->List cG->List (cG×Int)
 | _,[]=>[]
 | k,c::r=>(c,k)::Oc (k+1) r
def tM(p:cE):List (cG×Int):=PN 0 p.lines++Oc p.lines.length p.iJ
theorem Ji:∀(ls:List (List cG)) (k:Int),(PN k ls).length=ls.flatten.length
 | [],_=>rfl
 | l::r,k=>by simp[PN,Ji r]
theorem adY:∀(vs:List cG) (k:Int),(Oc k vs).length=vs.length
 | [],_=>rfl
 | c::r,k=>by simp[Oc,adY r]
theorem Jj:∀(ls:List (List cG)) (k:Int),(PN k ls).map aad=ls.flatten
 | [],_=>rfl
 | l::r,k=>by simp[PN,Jj r,Function.comp_def]
theorem Jk:∀(vs:List cG) (k:Int),(Oc k vs).map aad=vs
 | [],_=>rfl
 | c::r,k=>by simp[Oc,Jk r]
theorem YV{l:List cG}{c:cG}{j:Nat}(u:l[j]?=some c):∀(ls:List (List cG)) (k:Int) (i:Nat),ls[i]?=some l->(PN k ls)[(ls.take i).flatten.length+j]?=some (c,k+i)
 | [],_,_,h=>by simp at h
 | a::r,k,0,h=>by
  grind[PN]
 | a::r,k,i+1,h=>by
  have B:=YV u r (k+1) i cH
  grind[PN]
theorem YW:∀(vs:List cG) (k:Int) (j:Nat) (c:cG),vs[j]?=some c->(Oc k vs)[j]?=some (c,k+j)
 | [],_,_,_,h=>by simp at h
 | a::r,k,0,c,h=>by simp at h;subst h;simp[Oc]
 | a::r,k,j+1,c,h=>by
  have u:=YW r (k+1) j c cH
  grind[Oc]
theorem AT(p:cE):(tM p).map aad=iQ p:=by unfold tM iQ;rw[u1,Jj,Jk]
theorem uD(p:cE):(tM p).length=(iQ p).length:=by rw[<- AT,mv]
def Ux{p:cE}{l:List cG}{c:cG}{i j:Nat}(B:p.lines[i]?=some l)(u:l[j]?=some c):(tM p)[(p.lines.take i).flatten.length+j]?=some (c,(i:Int)):=by
 have h:=YV u p.lines 0 i B
 unfold tM
 grind
def YX{p:cE}{c:cG}{j:Nat}(u:p.iJ[j]?=some c):(tM p)[p.lines.flatten.length+j]?=some (c,(p.lines.length:Int)+j):=by
 unfold tM
 rw[sl (by rw[Ji];omega),Ji,Ft,YW _ _ _ _ u]
def C195(y:Value)(b:Nat)(g0 g1:SV)(p:cE)(J:Nat->g7)(Jx:g7)(w0 w:World)(hz:PS p)(hL:DL w0 (hM g0) p.lines)(hV:dz (λ_=>True) w0 (hM g1) p.iJ)
  (G:∀k W,J k W->Cell W b 0 (hM g0)/\Cell W b 1 (hM g1)/\Ext w0 W) (YY:∀k W M,J k W->Ext W M->J k M) (h0:J 0 w)
  (hy:∀k c i W,(tM p)[k]?=some (c,i)->J k W->ko g6 y [hM c,hH i] W λv M=>(v=.bool true/\J (k+1) M)\/(v=.bool false/\Jx M)) :
  CR 195 [y,.pointer (some ⟨b,0,none⟩)] w (λ_ W=>J (tM p).length W\/Jx W):=by
 obtain⟨ts,hR,hD⟩:=hL.open;have hn:=hD.1;have hzl:=hz.lines;have hzv:=hz.iJ;refine eU Tryz.func195 ?_;obtain⟨Z,vf,he0⟩:=G 0 w h0;refine aA gq (bU oz Z (aH pj (hR.ext he0) ?_));refine⟨λm x E=>∃i:Nat,x=hH (i:Int)/\m=p.lines.length-i/\i<=p.lines.length/\J ((p.lines.take i).flatten.length) E,⟨_,0,rfl,rfl,kO _,h0⟩,?_⟩;rintro m _ E ⟨i,rfl,rfl,hi,B⟩ _;refine aO (aC (λc=>?_) λc=>?_)
 .obtain⟨l,hl⟩:=gx p.lines (i:=i) bL;obtain⟨t,ht⟩:=gx ts (i:=((i:Nat):Int).toNat) bL;have hdt:DL w0 (hM t) l:=hD.2 _ _ _ ht hl;have U:=DL.flat hdt;have BG:=hz.line l (j0 hl);have Y:=(G _ _ B).2.2;refine aM pj hR bL ht (λq O=>aE jw (O.ext Y) (aH ie (U.ext Y) ?_));refine⟨λm x E=>∃j:Nat,x=hH (j:Int)/\m=l.length-j/\j<=l.length/\J ((p.lines.take i).flatten.length+j) E,⟨_,0,rfl,rfl,kO _,B⟩,?_⟩;rintro m _ w2 ⟨j,rfl,rfl,Co,B⟩ _;refine aO (aC (λc=>?_) λ_=>aJ bL ⟨_,bL,i+1,rfl,rfl,bL,by rw[wT hl,kH,show l.length=j from bL];exact B⟩)
  obtain⟨x,I⟩:=gx l (i:=((j:Nat):Int).toNat) bL;have V:=(G _ _ B).2.2;have u:=St.start w2;refine aM ie U bL I (λq O=>aE lK (O.ext V) (aQ u oD λb6 _ u=>aK (x:=x) u lK rfl rfl λw4 u=>aE lK u.At ?_));refine ko.mono (hy _ x i w4 (Ux hl I) (YY _ _ _ B u.aF)) ?_;rintro v w5 (⟨rfl,BR⟩|⟨rfl,Hc⟩)
  .exact bP (fa (aJ bL ⟨_,bL,j+1,rfl,rfl,bL,BR⟩))
  exact bP (gN (.inr Hc))
 rw[show p.lines.take i=p.lines from kp bL]at B;obtain⟨Z,vf,Y⟩:=G _ _ B;refine aA pK (bU jw vf (aH ie (hV.ext Y) ?_));refine⟨λm x E=>∃j:Nat,x=hH (j:Int)/\m=p.iJ.length-j/\j<=p.iJ.length/\J (p.lines.flatten.length+j) E,⟨_,0,rfl,rfl,kO _,B⟩,?_⟩;rintro m _ w6 ⟨j,rfl,rfl,Co,B⟩ _;refine aO (aC (λc=>?_) λc=>?_)
 .obtain⟨x,I⟩:=gx p.iJ (i:=((j:Nat):Int).toNat) bL;obtain⟨Z,vf,V⟩:=G _ _ B;have u:=St.start w6;refine aM ie hV bL I (λq O=>aE lK (O.ext V) (aQ u oD λb8 _ u=>aK (x:=x) u lK rfl rfl λw8 u=>aE lK u.At (aA gq (bU oz (Z.ext u.aF) (aH pj (hR.ext (V.trans u.aF)) (aJ bL ?_))))));rw[hn];refine ko.mono (hy _ x _ w8 (YX I) (YY _ _ _ B u.aF)) ?_;rintro v w9 (⟨rfl,BR⟩|⟨rfl,Hc⟩)
  .exact bP (fa (aJ bL ⟨_,bL,j+1,rfl,rfl,bL,BR⟩))
  exact bP (gN (.inr Hc))
 refine .inl ?_;rw[uD]
 grind[iQ]
def C115(pv:bM)(w:World):CR 115 [hM pv] w (λv w'=>∃b,v=.func (.func 195) [].toArray [.pointer (some ⟨b,0,none⟩)].toArray/\kZ (bZ b (ia pv)) w w'):=by
 have u:=St.start w;refine eU Tryz.func115 ?_;exact cJ u (λb _ u=>⟨b,rfl,u.fresh⟩)
def C50(p:cE)(pv:bM)(w:World)(hp:mL w pv p)(hz:PZ p):CR 50 [hM pv] w (λv w'=>kZ (bF v (cX p)) w w'):=by
 have hac:=kF hz.toPS;have oZ:(tM p).length=(iQ p).length:=uD p;obtain⟨I,V,bI,Z,aU,bE,rfl,cO,dA,cW,cA,cB,cN⟩:=hp;have u:=St.start w;refine eU Tryz.func50 ?_;refine cJ u (λbp _ u=>gW u ah9 rfl λb3 _ u=>aE eN u.p1.At (dO Sy (C115 _ _) ?_));rintro _ _ ⟨b,rfl,cM⟩;have u:=(u.made cM).eW (α:=ByteArray)
 refine wy (cap:=[.pointer (some ⟨b,0,none⟩)]) (xs:=(tM p).map λq=>[hM q.1,hH q.2]) Sz u
  (λk M=>∃G,M=[bF G (((iQ p).take k).map cG.name),bZ b (ia (⟨I,V,bI,Z,aU,bE⟩:bM)),bZ b3 [G],bZ bp (ia (⟨I,V,bI,Z,aU,bE⟩:bM))]) (λ_ _=>False) ⟨_,rfl⟩ (by intro x U;obtain⟨q,_,rfl⟩:=n4.1 U;rfl) ?_ ?_ ?_ ?_ ?_ ?_
 .intro y J Jx W hJ YY T1 hy;refine(C195 y b I V p J Jx w W hz.toPS cO (DL.flat dA) (λk W E=>?_) YY T1 λk c i W U E=>hy k [hM c,hH i] W (by rw[og,U];rfl) E).mono λ_ _ r=>r.mono λv W' h=>?_
  .obtain⟨Y,M,⟨G,rfl⟩,O⟩:=hJ k W E;exact⟨O.p2.hb.cell rfl,O.p2.hb.cell rfl,O.aF⟩
  simpa using h
 .rintro k args Y1 Y2 B Kr M W E ⟨G,rfl⟩ hB hN hR u;rw[og]at E;obtain⟨q,hq,rfl⟩:=H0.1 E;have nB:=(ir.1 hq).1;have hc:(iQ p)[k]?=some q.1:=by rw[<- AT,og,hq];rfl
  have KH:(((iQ p).take k).map cG.name).length=k:=by rw[mv,lQ];omega
  dsimp only[DU];refine aQ u oD (λb4 _ u=>aK (x:=q.1) u lK rfl rfl λ_ u=>?_);refine hB _ _ _ u.p1 (λ_ u=>?_);refine aB iW u.p4.hb rfl (aA kx (aB (v:=.string q.1.name) gn u.p1.hb rfl (aW ([cG.name q.1]) u ix rfl rfl (dM rfl) λs8 _ u=>?_)));have hr:=u.dQ;refine bJ u.p3 ix hr (by rw[KH,lH];omega) cZ (λs9 _ u=>aV u.p5 iW (dM rfl) (I6 u.dQ) λ_ u=>?_);refine hN _ _ ?_ ⟨s9,rfl⟩;rw[<- gI (k:=k) hc];exact u.p2.drop.p3.drop.p3.p2.p3
 .rintro D M W ⟨G,rfl⟩ u;refine aB iW u.p3.hb rfl ?_;refine D8 u (λ_ u=>?_);rw[mv,oZ,Pw]at u;exact u.p1.drop.p1.drop.p1.drop.fresh
 .rintro D M W h;exact h.elim
 .rintro id D M W h;exact h.elim
 rintro c M h;exact h.elim
def C55(p:cE)(pv:bM)(w:World)(hp:mL w pv p)(hz:PZ p):CR 55 [hM pv] w (λv w'=>kZ (bF v (fo p)) w w'):=by
 have hac:=kF hz.toPS;have oZ:(tM p).length=(iQ p).length:=uD p;obtain⟨I,V,bI,Z,aU,bE,rfl,cO,dA,cW,cA,cB,cN⟩:=hp;have u:=St.start w;refine eU Tryz.func55 ?_;refine cJ u (λbp _ u=>gW u ah8 rfl λb3 _ u=>aE eN u.p1.At (dO Sy (C115 _ _) ?_));rintro _ _ ⟨b,rfl,cM⟩;have u:=(u.made cM).eW (α:=Int)
 refine wy (cap:=[.pointer (some ⟨b,0,none⟩)]) (xs:=(tM p).map λq=>[hM q.1,hH q.2]) Sz u
  (λk M=>∃G,M=[bF G (((iQ p).take k).map cG.n),bZ b (ia (⟨I,V,bI,Z,aU,bE⟩:bM)),bZ b3 [G],bZ bp (ia (⟨I,V,bI,Z,aU,bE⟩:bM))]) (λ_ _=>False) ⟨_,rfl⟩ (by intro x U;obtain⟨q,_,rfl⟩:=n4.1 U;rfl) ?_ ?_ ?_ ?_ ?_ ?_
 .intro y J Jx W hJ YY T1 hy;refine(C195 y b I V p J Jx w W hz.toPS cO (DL.flat dA) (λk W E=>?_) YY T1 λk c i W U E=>hy k [hM c,hH i] W (by rw[og,U];rfl) E).mono λ_ _ r=>r.mono λv W' h=>?_
  .obtain⟨Y,M,⟨G,rfl⟩,O⟩:=hJ k W E;exact⟨O.p2.hb.cell rfl,O.p2.hb.cell rfl,O.aF⟩
  simpa using h
 .rintro k args Y1 Y2 B Kr M W E ⟨G,rfl⟩ hB hN hR u;rw[og]at E;obtain⟨q,hq,rfl⟩:=H0.1 E;have nB:=(ir.1 hq).1;have hc:(iQ p)[k]?=some q.1:=by rw[<- AT,og,hq];rfl
  have KH:(((iQ p).take k).map cG.n).length=k:=by rw[mv,lQ];omega
  dsimp only[DU];refine aQ u oD (λb4 _ u=>aK (x:=q.1) u lK rfl rfl λ_ u=>?_);refine hB _ _ _ u.p1 (λ_ u=>?_);refine aB eP u.p4.hb rfl (aA rH (aB (v:=hH q.1.n) bO u.p1.hb rfl (aW ([cG.n q.1]) u cQ rfl rfl (dM rfl) λs8 _ u=>?_)));have hr:=u.dQ;refine bJ u.p3 cQ hr (by rw[KH,lH];omega) cZ (λs9 _ u=>aV u.p5 eP (dM rfl) (I6 u.dQ) λ_ u=>?_);refine hN _ _ ?_ ⟨s9,rfl⟩;rw[<- gI (k:=k) hc];exact u.p2.drop.p3.drop.p3.p2.p3
 .rintro D M W ⟨G,rfl⟩ u;refine aB eP u.p3.hb rfl ?_;refine D8 u (λ_ u=>?_);rw[mv,oZ,Pw]at u;exact u.p1.drop.p1.drop.p1.drop.fresh
 .rintro D M W h;exact h.elim
 .rintro id D M W h;exact h.elim
 rintro c M h;exact h.elim
theorem SC:∀(vs:List cG) (k:Int) (j:Nat) (q:cG×Int),(Oc k vs)[j]?=some q->q.2=k+j
 | [],_,_,_,h=>by simp[Oc]at h
 | c::r,k,0,q,h=>by simp[Oc]at h;grind
 | c::r,k,j+1,q,h=>by
  have:=SC r (k+1) j q (by simpa[Oc]using h)
  omega
theorem Mq(vs:List cG):∀(ls:List (List cG)) (i:Int) (a:Nat) (q:cG×Int),(PN i ls++Oc (i+ls.length) vs)[a]?=some q->jg ls i a=q.2
 | [],i,a,q,h=>by
  have:=SC vs (i+0) a q (by simpa[PN]using h)
  unfold jg;omega
 | l::r,i,a,q,h=>by
  unfold jg
  by_cases u:a<l.length
  .rw[ee bL]
   rw[PN,mX,s4 cH,og]at h
   grind
  .rw[eb bL]
   rw[PN,mX,sl (by simp;omega),mv]at h
   have e:(i+((l::r).length:Nat):Int)=i+1+(r.length:Nat):=cH
   rw[e]at h
   have:=Mq vs r (i+1) (a-l.length) q h
   grind
theorem YZ{p:cE}{k:Nat}{q:cG×Int}(h:(tM p)[k]?=some q):o7 p k=q.2:=by
 have u:=(ir.1 h).1
 rw[uD]at u
 unfold o7
 rw[eb bL]
 exact Mq p.iJ p.lines 0 k q (by unfold tM at h;grind)
def C52(p:cE)(pv:bM)(c:Int)(w:World)(hp:mL w pv p)(hz:PZ p):CR 52 [hM pv,hH c] w (λv w'=>v=hH (o7 p c)/\Ext w w'):=by
 have hac:=kF hz.toPS;have oZ:(tM p).length=(iQ p).length:=uD p;obtain⟨O,Z,bI,aT,aU,bE,rfl,cO,dA,cW,cA,cB,cN⟩:=hp;have u:=St.start w;refine eU Tryz.func52 ?_;refine cJ u (λbp _ u=>nd u rfl λb3 _ u=>gW u ue rfl λb4 _ u=>gW u ue rfl λb5 _ u=>aV u bO (dM rfl) rfl λ_ u=>aE eN u.p3.At (dO Sy (C115 _ _) ?_));rintro _ _ ⟨b,rfl,cM⟩;have u:=u.made cM
 refine wy (cap:=[.pointer (some ⟨b,0,none⟩)]) (xs:=(tM p).map λq=>[hM q.1,hH q.2]) Sz u
  (λk M=>(∀j:Nat,j<k->¬ (j:Int)=c)/\M=[bZ b (ia (⟨O,Z,bI,aT,aU,bE⟩:bM)),bZ b5 [hH (k:Int)],bZ b4 [hH 0],bZ b3 [hH c],bZ bp (ia (⟨O,Z,bI,aT,aU,bE⟩:bM))])
  (λcd M=>cd=.ret/\M=[bZ b4 [hH (o7 p c)]]) ⟨bL,rfl⟩ (by intro x V;obtain⟨q,_,rfl⟩:=n4.1 V;rfl) ?_ ?_ ?_ ?_ ?_ ?_
 .intro y J Jx W hJ YY T1 hy;refine(C195 y b O Z p J Jx w W hz.toPS cO (DL.flat dA) (λk W E=>?_) YY T1 λk c i W V E=>hy k [hM c,hH i] W (by rw[og,V];rfl) E).mono λ_ _ r=>r.mono λv W' h=>?_
  .obtain⟨Y,M,⟨_,rfl⟩,U⟩:=hJ k W E;exact⟨U.p1.hb.cell rfl,U.p1.hb.cell rfl,U.aF⟩
  simpa using h
 .rintro k args Y1 Y2 B Kr M W E ⟨G,rfl⟩ hB hN hR u;rw[og]at E;obtain⟨q,hq,rfl⟩:=H0.1 E;have nB:=(ir.1 hq).1;dsimp only[DU];refine hB _ _ _ u (λ_ u=>?_);refine aB bO u.p2.hb rfl (aB bO u.p4.hb rfl (aG (aC (λI=>?_) λI=>aB bO u.p2.hb rfl (aJ bL (aV u.p2 bO (dM rfl) rfl λ_ u=>hN _ _ u.p2.p2.p0 ⟨λj hj=>?_,rfl⟩)))))
  .refine aV u.p3 bO (dM rfl) rfl (λ_ u=>?_);refine hR _ [bZ b4 [hH (o7 p c)]] _ ?_ ⟨rfl,rfl⟩;rw[<- I,YZ hq];exact u.p2.drop.p2.drop.p2.drop.p2.drop.p1
  rcases O7 j k with h|h
  .exact G j h
  rw[show j=k from bL];exact I
 .rintro D M W ⟨G,rfl⟩ u;refine aV u.p3 bO (dM rfl) rfl (λ_ u=>?_);refine D8 u.p1 (λ_ u=>?_);refine aB bO u.hb rfl ?_;refine⟨ez (mn .i64) ?_,u.aF⟩;unfold o7;rw[mv]at G
  rw[ee (by
   rcases Int.lt_or_le c 0 with h|h
   .exact .inl h
   .refine .inr ?_;have:=G c.toNat;omega)]
 .rintro D M W ⟨_,rfl⟩ u;refine D8 u (λ_ u=>?_);exact aB bO u.hb rfl ⟨rfl,u.aF⟩
 .rintro id D M W ⟨h,_⟩;cases h
 rintro c M ⟨h,_⟩;exact .inr h
variable (w:World) (K:Value->g7)
def axy:dH:=λi=>match i with
 | 22=>.run 0 6
 | _=>.nil
theorem aqK:PL 107:=dG Tryz.func107
theorem Y0:PL 176:=dG Tryz.func176
end Go.Proofs.YtpdlpabnlkofmaaGreatDoor
namespace Go.Fw
open Go.MapKept (Stamped IsKey)
open Go.ChangeMaps (setBlock)
def zu(l:List SI)(k:ByteArray)(v:Int):List SI:=if l.any (λp=>decide (p.1=k))then l.map (λp=>if p.1=k then(k,v)else p)else l++[(k,v)]
theorem Hd:∀(l:List SI) (k u:ByteArray) (v:Int),(∀p∈l,p.1≠k)->eC (l++[(k,v)]) u=if k=u then v else eC l u
 | [],k,u,v,_=>rfl
 | p::r,k,u,v,h=>by
  have B:=Hd r k u v (λq E=>h q (o4 _ E))
  have G:=h p (ob ..)
  show(if p.1=u then p.2 else eC (r++[(k,v)]) u)=_
  rw[B]
  show _=if k=u then v else(if p.1=u then p.2 else eC r u)
  grind
theorem BW:∀(l:List SI) (k u:ByteArray) (v:Int),l.any (λp=>decide (p.1=k))=true->eC (l.map λp=>if p.1=k then(k,v)else p) u=if k=u then v else eC l u
 | [],_,_,_,h=>by simp at h
 | p::r,k,u,v,h=>by
  rw[Kp]
  by_cases h1:p.1=k
  .rw[ee h1]
   show(if k=u then v else eC (r.map _) u)=if k=u then v else(if p.1=u then p.2 else eC r u)
   by_cases h2:k=u
   .grind
   .rw[eb h2,eb h2,eb λe=>h2 (h1.symm.trans e)]
    by_cases h3:r.any (λp=>decide (p.1=k))=true
    .rw[BW r k u v h3,eb h2]
    .congr 1
     have:∀q∈r,q.1≠k:=λq B e=>h3 (u4.2 ⟨q,B,ei e⟩)
     conv=>rhs;rw[<- List.map_id r]
     exact yX λq B=>eb (this q B)
  .rw[eb h1]
   have h3:r.any (λp=>decide (p.1=k))=true:=by
    grind
   show(if p.1=u then p.2 else eC (r.map _) u)=if k=u then v else(if p.1=u then p.2 else eC r u)
   rw[BW r k u v h3]
   grind
theorem BX(l:List SI)(k u:ByteArray)(v:Int):eC (zu l k v) u=if k=u then v else eC l u:=by
 unfold zu
 by_cases h:l.any (λp=>decide (p.1=k))=true
 .rw[ee h,BW l k u v h]
 rw[eb h,Hd l k u v λp B e=>h (u4.2 ⟨p,B,ei e⟩)]
def adZ{l:List SI}{k:ByteArray}{v:Int}(h:∀p∈l,p.2≠0)(B:v≠0):∀p∈zu l k v,p.2≠0:=by
 intro p u
 unfold zu at u
 grind
section
variable {P:Program}{w w0 w':World}{A:Nat->Prop}{L:List HP}{b:Nat}{l:List SI}
theorem Y3{T O E:TypeId}{v:Int}{k:ByteArray}(h:uy w b l)(ht:P.underlying T=some (.map O E))(M:P.underlying O=some .string) :
  ∃w',(wG T (.map (some b)) (.string k) (hH v)).run P w=.ok () w'/\gC (· = b) w w'/\uy w' b (zu l k v):=by
 by_cases ey:∀p∈l,p.1≠k
 .have:l.any (λp=>decide (p.1=k))=false:=by
   grind
  unfold zu
  rw[eb cH]
  exact LN h ht M ey
 have Z:l.any (λp=>decide (p.1=k))=true:=by
  grind
 unfold zu
 rw[ee Z]
 have nB:=h.lt
 obtain⟨es,c,h1,h2,h3⟩:=h
 have hc:=MapKept.run_checkKey (P:=P) (w:=w) (kt:=O) (k:=.string k) M (by simp[IsKey]) false 9999
 rcases MapKept.findNow_spec (d:=.string) (k:=.string k) (by simp[IsKey]) es.toList 0 (λx I=>by obtain⟨p,_,e,_⟩:=XP h3 I;rw[e];simp[IsKey])with⟨V,g2⟩|⟨j,e,V,g2,g4⟩
 .obtain⟨p,Y,he⟩:=u4.1 Z
  obtain⟨x,I,e1,_⟩:=XQ h3 Y
  grind
 have U:=MapKept.run_findKey (P:=P) (w:=w) M V
 rw[Nat.zero_add]at U
 have W:es[j]?=some e:=cH
 have iS:(M8 e.key (.string k)).run P w=.ok (.string k) w:=by
  have vB:(k == k)=true:=by cases k with|mk d=>exact beq_self_eq_true d
  rw[g4];unfold M8;simp[Instr.sameBits,vB]
 refine⟨_,?_,gC.setBlock w b (.map (es.modify j λe=>{e with key:=.string k,val:=hH v}) c),?_⟩
 .simp[wG,run_underlying ht,MapKept.run_getObj_map h1,hc,U,nP h1,Result.andThen,W,iS]
 have J4:∀B,es[j]?=some B->({B with key:=.string k,val:=hH v}:MapEntry).key=B.key:=λB G=>by
  grind
 refine⟨_,_,jX _ nB,MapKept.stamped_modify h2 j _ (λ_ _=>rfl) (λB _ G=>J4 B G),?_⟩
 let g:Value×Value->Value×Value:=λq=>match q.1 with|.string s=>if s=k then(.string k,hH v)else q|_=>q
 have hg:(es.modify j λe=>{e with key:=.string k,val:=hH v}).toList.map (λe=>(e.key,e.val))=(es.toList.map λe=>(e.key,e.val)).map g:=by
  apply List.ext_getElem?
  intro i
  simp only[og,Array.getElem?_toList,Array.getElem?_modify]
  by_cases J:j=i
  .grind
  .rw[eb J]
   cases I:es[i]? with
   | none=>rfl
   | some x=>
    have Gv:x.key≠.string k:=λhxk=>by
     have hi:=(Cq.1 I)
     have hj:=(Cq.1 W)
     obtain⟨hi1,VN⟩:=hi
     obtain⟨hj1,BR⟩:=hj
     have Y:=Sx.1 h2.2.2
     grind
    grind
 have hl:(l.map λp=>if p.1=k then(k,v)else p).map Sb=(l.map Sb).map g:=by
  rw[GG,GG]
  refine yX λp _=>?_
  show Sb (if p.1=k then(k,v)else p)=g (Sb p)
  by_cases u:p.1=k
  .rw[ee u];simp[g,Sb,u]
  .rw[eb u];simp[g,Sb,u]
 grind
theorem Y4{T I E:TypeId}{v:Int}{k:ByteArray}{K:g7}(B:St w0 A (Fw.mZ b l::L) w)(ht:P.underlying T=some (.map I E))(u:P.underlying I=some .string)
  (J:∀w',St w0 A (Fw.mZ b (zu l k v)::L) w'->K w'):VG P (wG T (.map (some b)) (.string k) (hH v)) w K:=by
 obtain⟨w',h1,h2,h3⟩:=Y3 (P:=P) (v:=v) (k:=k) B.mZ ht u
 exact⟨w',h1,J w' (B.qW λF G=>⟨F,⟨h3,G.2⟩,λb hb=>.inl hb,h2.mono λk u=>(G.2 k).2 u⟩)⟩
end
end Go.Fw
namespace Go.Proofs.YtpdlpabnlkofmaaGreatDoor
open Go.Fw
def sf(b3 b4 B u:Nat)(l:List SI)(tw:Bool)(a:Int):HP:=sep (bZ b3 [.map (some u)]) (sep (bZ b4 [.bool tw]) (sep (bZ B [hH a]) (mZ u l)))
def sf.shut{w0 w:World}{A:Nat->Prop}{L:List HP}{b3 b4 B u:Nat}{l:List SI}{tw:Bool}{a:Int}(E:St w0 A (mZ u l::bZ B [hH a]::bZ b4 [.bool tw]::bZ b3 [.map (some u)]::L) w):St w0 A (sf b3 b4 B u l tw a::L) w:=
 St.join (St.join (St.join E.p1).p1).p1
def sf.open{w0 w:World}{A:Nat->Prop}{L:List HP}{b3 b4 B u:Nat}{l:List SI}{tw:Bool}{a:Int}(E:St w0 A (sf b3 b4 B u l tw a::L) w):St w0 A (mZ u l::bZ B [hH a]::bZ b4 [.bool tw]::bZ b3 [.map (some u)]::L) w:=
 E.split.p1.split.p1.split.p1
def atN(l:List SI)(name:ByteArray)(tw:Bool)(place a:Int):Int:=if eC l name≠0/\tw=false then place else a
def twN(l:List SI)(name:ByteArray)(tw:Bool):Bool:=tw||decide (eC l name≠0)
theorem C176(name:ByteArray)(B place:Int)(b3 b4 G E:Nat)(l:List SI)(tw:Bool)(a:Int)(F:Nat->Prop)(w:World)(O:(sf b3 b4 G E l tw a).p w F) :
  CR 176 [.string name,hH B,hH place,.pointer (some ⟨b3,0,none⟩),.pointer (some ⟨b4,0,none⟩),.pointer (some ⟨G,0,none⟩)] w (λv w'=>v=.tuple #[]/\mH F (sf b3 b4 G E (zu l name B) (twN l name tw) (atN l name tw place a)) w w'):=by
 have u:=sf.open (St.begin O);refine eU Tryz.func176 ?_;refine⟨λw'=>St w F [mZ E l,bZ G [hH (atN l name tw place a)],bZ b4 [.bool (twN l name tw)],bZ b3 [.map (some E)]] w',⟨λM w'=>M=.bool (decide (eC l name≠0)&&!tw)/\w'=w,aB GQ u.p3.hb rfl (xP u.mZ Tryz.underlying165 Tryz.underlying9 ue (bT (aC (λc=>aB Gf u.p2.hb rfl (bP ⟨vb (by rw[ei c,Av]),rfl⟩)) λc=>⟨vb (by rw[ej c,Zm]),rfl⟩))),?_⟩,?_⟩
 .rintro _ _ ⟨rfl,rfl⟩ _;refine aX (λc=>?_) (λc=>?_)
  .have hc:eC l name≠0/\tw=false:=by simpa using c
   refine aV u.p1 bO (dM rfl) rfl (λ_ u=>aV u.p2 Gf (dM rfl) rfl λ_ u=>?_);have J:atN l name tw place a=place:=ee hc;have I:twN l name tw=true:=by unfold twN;rw[ei hc.1,Bool.or_true]
   rw[J,I];exact u.p1.p2
  have hc:¬ (eC l name≠0/\tw=false):=by simpa using c
  have J:atN l name tw place a=a:=eb hc
  have I:twN l name tw=tw:=by
   unfold twN;cases tw with
   | true=>rfl
   | false=>rw[Bool.false_or];exact ej λh=>hc ⟨h,rfl⟩
  rw[J,I];exact u
 rintro _ u _;exact aB GQ u.p3.hb rfl (Y4 u Tryz.underlying165 Tryz.underlying9 λ_ u=>⟨rfl,(sf.shut u).mut⟩)
def Y5(st:List SI×Bool×Int)(q:ByteArray×Int×Int):List SI×Bool×Int:=(zu st.1 q.1 q.2.1,twN st.1 q.1 st.2.1,atN st.1 q.1 st.2.1 q.2.2 st.2.2)
def CC(p:cE)(i:Int):Int:=if (p.lines.length:Int)<=i then 2 else 1
def VO(p:cE):List (ByteArray×Int×Int):=(tM p).map λq=>(q.1.name,CC p q.2,q.1.at_)
def Uy(p:cE):List (ByteArray×Int×Int):=p.eE.map λc=>(c.name,3,c.at_)
def VP(p:cE):List (ByteArray×Int×Int):=p.threads.map λt=>(t.name,4,t.at_)
def zN(l:List (ByteArray×Int×Int))(st:List SI×Bool×Int):List SI×Bool×Int:=l.foldl Y5 st
def CD(p:cE):List SI×Bool×Int:=zN (VP p) (zN (Uy p) (zN (VO p) ([],false,0)))
theorem E7{l:List (ByteArray×Int×Int)}{st:List SI×Bool×Int}{k:Nat}{q:ByteArray×Int×Int}(h:l[k]?=some q):zN (l.take (k+1)) st=Y5 (zN (l.take k) st) q:=by
 unfold zN;rw[<- gG h,List.foldl_append];rfl
abbrev NO(b3 b4 B u:Nat)(st:List SI×Bool×Int):HP:=sf b3 b4 B u st.1 st.2.1 st.2.2
def C107(p:cE)(pv:bM)(w:World)(hp:mL w pv p)(hz:PZ p):CR 107 [hM pv] w (λv w'=>∃G,v=.tuple #[.map (some G),hH (CD p).2.2,.bool (CD p).2.1]/\kZ (mZ G (CD p).1) w w'):=by
 have hac:=kF hz.toPS;have oZ:(tM p).length=(iQ p).length:=uD p;have hzl:=hz.lines;have hzk:=hz.eE;have hzt:=hz.threads;obtain⟨I,Z,V,U,aU,bE,rfl,cO,dA,cW,cA,cB,cN⟩:=hp;obtain⟨Xo,hR1,hD1⟩:=cO.open;have Xp:=hD1.1;obtain⟨vc,YP,YQ⟩:=cA.open;have hn3:=YQ.1;have hKr:=DL.flat cW;have u:=St.start w;refine pJ Tryz.func107 (pl:=axy) ?_;refine cJ u (λbp w1 u=>LO u λG _ u=>gW u RL rfl λb3 _ u=>aV u GQ (dM rfl) rfl λ_ u=>gW u ue rfl λE _ u=>gW u Wz rfl λb4 _ u=>aV u Gf (dM rfl) rfl λ_ u=>gW u acE rfl λb8 _ u=>aV u RP (dM rfl) rfl λ_ u=>aE eN u.p5.At (have u:=sf.shut (a:=0) (tw:=false) u.p3.p2.p3.p4;dO Sy (C115 _ _) ?_))
 rintro _ _ ⟨b,rfl,cM⟩;have u:=u.made cM
 refine wy (cap:=[.pointer (some ⟨b,0,none⟩)]) (xs:=(tM p).map λq=>[hM q.1,hH q.2]) Sz u
  (λk M=>M=[bZ b (ia (⟨I,Z,V,U,aU,bE⟩:bM)),NO b3 b4 E G (zN ((VO p).take k) ([],false,0)),bZ b8 [(.func (.func 176) [].toArray [.pointer (some ⟨b3,0,none⟩),.pointer (some ⟨b4,0,none⟩),.pointer (some ⟨E,0,none⟩)].toArray)],bZ bp (ia (⟨I,Z,V,U,aU,bE⟩:bM))]) (λ_ _=>False) rfl (by intro x hx;obtain⟨q,_,rfl⟩:=n4.1 hx;rfl) ?_ ?_ ?_ ?_ ?_ ?_
 .intro y J Jx W hJ YY T1 hy;refine(C195 y b I Z p J Jx w W hz.toPS cO (DL.flat dA) (λk W O=>?_) YY T1 λk c i W hx O=>hy k [hM c,hH i] W (by rw[og,hx];rfl) O).mono λ_ _ r=>r.mono λv W' h=>?_
  .obtain⟨Y,M,rfl,hS⟩:=hJ k W O;exact⟨hS.p1.hb.cell rfl,hS.p1.hb.cell rfl,hS.aF⟩
  simpa using h
 .rintro k args Y1 Y2 B Kr M W O rfl hB hN hR u;rw[og]at O;obtain⟨q,hq,rfl⟩:=H0.1 O;have hc:(VO p)[k]?=some (q.1.name,CC p q.2,q.1.at_):=by unfold VO;rw[og,hq];rfl
  dsimp only[DU];refine aQ u oD (λb9 _ u=>aK (x:=q.1) u lK rfl rfl λ_ u=>?_);refine hB _ _ _ u.p1 (λSD u=>?_);refine⟨λjv w'=>jv=hH (CC p q.2)/\w'=SD,aA gq (aB (v:=hM I) oz u.p5.hb rfl (aH pj (hR1.ext u.aF) (cR (aC (λ_=>⟨ez (mn .i64) (ee bL).symm,rfl⟩) λ_=>⟨ez (mn .i64) (eb bL).symm,rfl⟩)))),?_⟩;rintro _ _ ⟨rfl,rfl⟩ _;refine aB RP u.p4.hb rfl (aA kx (aB (v:=.string q.1.name) gn u.p1.hb rfl (aA ui (aB (v:=hH q.1.at_) bO u.p1.hb rfl (EH (first:=[]) (cap:=[.pointer (some ⟨b3,0,none⟩),.pointer (some ⟨b4,0,none⟩),.pointer (some ⟨E,0,none⟩)]) (H':=λ_=>NO b3 b4 E G (Y5 (zN ((VO p).take k) ([],false,0)) (q.1.name,(CC p q.2),q.1.at_))) (Φ:=λv _=>v=.tuple #[]) Y0 u.p3 (λF hF _=>C176 q.1.name (CC p q.2) q.1.at_ b3 b4 E G _ _ _ F _ hF) λv _ _ u=>?_)))))
  refine hN _ _ ?_ rfl;rw[E7 hc];exact u.p2.drop.p2.p2
 .rintro D M W rfl u;rw[mv,show(VO p).take (tM p).length=VO p from kp (by unfold VO;rw[mv];exact o5 _)]at u;obtain⟨s0,hs0⟩:∃s,s=zN (VO p) ([],false,0):=⟨_,rfl⟩;rw[<- hs0]at u;refine aA nD (aB (v:=hM V) jw u.p4.hb rfl (aH ie (hKr.ext u.aF) ?_));refine⟨λm x w1=>∃k:Nat,x=hH (k:Int)/\m=p.eE.length-k/\k<=p.eE.length/\St w aY [nq D (.deferred (some [])),bZ b (ia (⟨I,Z,V,U,aU,bE⟩:bM)),NO b3 b4 E G (zN ((Uy p).take k) s0),bZ b8 [(.func (.func 176) [].toArray [.pointer (some ⟨b3,0,none⟩),.pointer (some ⟨b4,0,none⟩),.pointer (some ⟨E,0,none⟩)].toArray)],bZ bp (ia (⟨I,Z,V,U,aU,bE⟩:bM))] w1,⟨_,0,rfl,rfl,kO _,(by rw[show zN ((Uy p).take 0) s0=s0 from rfl];exact u)⟩,?_⟩
  rintro m _ _ ⟨k,rfl,rfl,O,u⟩ _;refine aO (aC (λc=>?_) λc=>?_)
  .obtain⟨x,hx⟩:=gx p.eE (i:=((k:Nat):Int).toNat) bL;have hx':p.eE[k]?=some x:=hx;have hc:(Uy p)[k]?=some (x.name,3,x.at_):=by unfold Uy;rw[og,hx'];rfl
   refine aM ie hKr bL hx (λq hq=>aE lK (hq.ext u.aF) (aQ u oD λb9 _ u=>aK (x:=x) u lK rfl rfl λ_ u=>aB RP u.p4.hb rfl (aA kx (aB (v:=.string x.name) gn u.hb rfl (aA ui (aB (v:=hH x.at_) bO u.hb rfl (EH (first:=[]) (cap:=[.pointer (some ⟨b3,0,none⟩),.pointer (some ⟨b4,0,none⟩),.pointer (some ⟨E,0,none⟩)]) (H':=λ_=>NO b3 b4 E G (Y5 (zN ((Uy p).take k) s0) (x.name,3,x.at_))) (Φ:=λv _=>v=.tuple #[]) Y0 u.p3 (λF hF _=>C176 x.name 3 x.at_ b3 b4 E G _ _ _ F _ hF) λv _ _ u=>aJ bL ?_)))))));refine⟨_,bL,k+1,rfl,rfl,bL,?_⟩
   rw[E7 hc];exact u.p1.drop.p2.p2
  rw[show(Uy p).take k=Uy p from kp (by unfold Uy;rw[mv];omega)]at u;obtain⟨s1,Uz⟩:∃s,s=zN (Uy p) s0:=⟨_,rfl⟩;rw[<- Uz]at u;refine aA kj (aB (v:=hM U) im u.p4.hb rfl (aH fr (YP.ext u.aF) ?_));refine⟨λm x w1=>∃k:Nat,x=hH (k:Int)/\m=vc.length-k/\k<=vc.length/\St w aY [nq D (.deferred (some [])),bZ b (ia (⟨I,Z,V,U,aU,bE⟩:bM)),NO b3 b4 E G (zN ((VP p).take k) s1),bZ b8 [(.func (.func 176) [].toArray [.pointer (some ⟨b3,0,none⟩),.pointer (some ⟨b4,0,none⟩),.pointer (some ⟨E,0,none⟩)].toArray)],bZ bp (ia (⟨I,Z,V,U,aU,bE⟩:bM))] w1,⟨_,0,rfl,rfl,kO _,(by rw[show zN ((VP p).take 0) s1=s1 from rfl];exact u)⟩,?_⟩
  rintro m _ _ ⟨k,rfl,rfl,O,u⟩ _;refine aO (aC (λc=>?_) λc=>?_)
  .obtain⟨t,ht⟩:=gx vc (i:=((k:Nat):Int).toNat) bL;obtain⟨r,hr⟩:=gx p.threads (i:=k) bL;obtain⟨gr,gb,rfl,_,_⟩:=YQ.2 _ _ _ ht hr;have hc:(VP p)[k]?=some (r.name,4,r.at_):=by unfold VP;rw[og,hr];rfl
   refine aM fr YP bL ht (λq hq=>aE mP (hq.ext u.aF) (aQ u tc λb9 _ u=>aK u mP rfl rfl λ_ u=>aB RP u.p4.hb rfl (aA pS (aB (v:=.string r.name) gn u.hb rfl (aA pU (aB (v:=hH r.at_) bO u.hb rfl (EH (first:=[]) (cap:=[.pointer (some ⟨b3,0,none⟩),.pointer (some ⟨b4,0,none⟩),.pointer (some ⟨E,0,none⟩)]) (H':=λ_=>NO b3 b4 E G (Y5 (zN ((VP p).take k) s1) (r.name,4,r.at_))) (Φ:=λv _=>v=.tuple #[]) Y0 u.p3 (λF hF _=>C176 r.name 4 r.at_ b3 b4 E G _ _ _ F _ hF) λv _ _ u=>aJ bL ?_)))))));refine⟨_,bL,k+1,rfl,rfl,bL,?_⟩
   rw[E7 hc];exact u.p1.drop.p2.p2
  rw[show(VP p).take k=VP p from kp (by unfold VP;rw[mv];omega),Uz,hs0]at u;have u:=sf.open u.drew.p2;refine aB GQ u.p3.hb rfl (aB bO u.p1.hb rfl (aB Gf u.p2.hb rfl ?_));refine D8 u.p4 (λ_ u=>?_);exact⟨G,rfl,u.p1.drop.p1.drop.p1.drop.p1.drop.p1.drop.p1.drop.fresh⟩
 .rintro D M W h;exact h.elim
 .rintro id D M W h;exact h.elim
 rintro c M h;exact h.elim
def vg(B:ByteArray)(G:Int)(u:Option Addr)(E I:Nat):pr g6 (Instr.build 177 [(0,.string B),(1,hH G),(2,.slice u E I)].toArray)=some (.agg [.string B,hH G,.slice u E I].toArray):=by kernel_rfl
structure Jl where
 name:ByteArray
 at_:Int
 may:SV
instance:Flat Jl where
 agg:=true
 sz:=3
 enc e:=[.string e.name,hH e.at_,.slice e.may.a e.may.n e.may.cap]
 val e:=.agg [.string e.name,hH e.at_,.slice e.may.a e.may.n e.may.cap].toArray
 pos:=cZ
 len _:=rfl
 one a v h:=by simp at h;rcases h with rfl|rfl|rfl<;>rfl
 ng _ _:=rfl
 nh h:=by cases h
variable (w:World) (K:Value->g7)
theorem ag5:PL 193:=dG Tryz.func193
theorem aqN:PL 113:=dG Tryz.func113
theorem aqO:PL 192:=dG Tryz.func192
end Go.Proofs.YtpdlpabnlkofmaaGreatDoor
namespace Go.Fw
def PO:List Nat->HP
 | []=>eH λ_=>True
 | D::r=>sep (nq D (.deferred (some []))) (PO r)
def ad1(P:Program)(w0:World)(A:Nat->Prop)(I:Nat->List HP->Prop)(E:g7)(y:Value)(B:Nat->List Value->(g7)->Prop):Prop:=
 ∀k args Φ W (R:HP) L,B k args Φ->(∀F u,R.p u F->Φ u)->I k L->St w0 A (R::L) W->ko P y args W (λv u=>(v=.bool true/\∃L',I (k+1) L'/\St w0 A (R::L') u)\/(v=.bool false/\E u))
section
variable {P:Program}{w w0 w':World}{A:Nat->Prop}{L:List HP}
theorem PO.nil(u:St w0 A L w):St w0 A (PO []::L) w:=u.gz λ_=>trivial
theorem PO.take{K:g7}:∀(ds:List Nat) {w:World},St w0 A (PO ds::L) w->(∀w',St w0 A L w'->K w')->mD ds w K
 | [],_,u,k=>k _ u.drop
 | D::r,_,u,k=>by
  have h1:=u.split
  exact⟨h1.obj,PO.take r (h1.putObj _).drop k⟩
theorem Y6{gf np:Nat}{cap:List Value}(n:Nat)(Ar:Nat->List Value->(g7)->Prop){round:List Value->World->(World->(g7)->Prop)->(Option Code->g7)->Prop}
  {N R:Nat->g7}{X:Nat->Nat->g7}(pl:Plain P gf) (hs:St w0 A L w) (I:Nat->List HP->Prop) (V:Code->List HP->Prop) (h0:I 0 L) (hnp:∀k a Φ,Ar k a Φ->a.length=np)
  (hgf:∀(y:Value) (Y:HP) (Jx:g7) (W:World),(∃M,I 0 M/\St w0 A (Y::M) W)->ad1 P w0 A (λk L=>∃M,I k M/\L=Y::M) Jx y Ar->
   Calls P gf ([y]++cap).toArray W (sK λ_ O=>(∃M,I n M/\St w0 A (Y::M) O)\/Jx O))
  (DV:∀k args Φ (Y1 Z:HP) (B:World->(g7)->Prop) (Kr:Option Code->g7) M W,Ar k args Φ->I k M->(∀F O,Z.p O F->Φ O)->
   (∀M u (kk:g7),St w0 A (Y1::M) u->(∀w2,St w0 A (Z::M) w2->kk w2)->B u kk)->
   (∀M u,St w0 A (Z::M) u->I (k+1) M->Kr none u)->(∀c M u,St w0 A (Z::M) u->V c M->Kr (some c) u)->
   St w0 A (Y1::M) W->round args W B Kr)
  (W3:∀D M W,I n M->St w0 A (nq D (.deferred (some []))::M) W->N D W)
  (aia:∀D M W,V .ret M->St w0 A (nq D (.deferred (some []))::M) W->R D W)
  (W4:∀id D M W,V (.exit id) M->St w0 A (nq D (.deferred (some []))::M) W->X id D W)
  (ON:∀c M,V c M->(∃id,c=.exit id)\/c=.ret) :
  zX P (.func (.func gf) #[] cap.toArray) np w round (aft N R X):=by
 refine⟨gf,cap.toArray,rfl,pl,λG iS Bj hy=>?_⟩
 obtain⟨l,hl⟩:∃l,l=w.heap.size+1:=⟨_,rfl⟩
 obtain⟨D,hD⟩:∃D,D=w.heap.size:=⟨_,rfl⟩
 rw[<- hl]at hy |-
 rw[<- hD]
 let Y:HP:=sep (nq l (.loop G)) (nq D (.deferred (some [])))
 let Jx:g7:=λW=>∃c M,V c M/\St w0 A (nq l (.loop {G with state:=.done,pending:=some c})::nq D (.deferred (some []))::M) W
 have T1:∃M,I 0 M/\St w0 A (Y::M) ((w.alloc (.deferred (some []))).alloc (.loop G)):=by
  refine⟨L,h0,?_⟩
  have h1:=(hs.alloc (o:=.deferred (some []))).alloc (o:=.loop G)
  rw[show(w.alloc (.deferred (some []))).heap.size=l from by rw[hl];exact Bx w _,<- hD]at h1
  exact St.join h1
 have:=hgf (.func (.yield l) #[] #[]) Y Jx _ T1 ?_
 .have e:([Value.func (.yield l) #[] #[]]++cap).toArray = #[.func (.yield l) #[] #[]]++cap.toArray:=ea
  rw[e]at this
  refine this.mono λx O ⟨v,hx,hv⟩=>⟨v,hx,?_⟩
  rcases hv with⟨M,J,E⟩|⟨c,M,J,E⟩
  .have E:=E.split
   refine⟨.ready,none,ea,?_,?_⟩
   .rw[<- iS,<- Bj];exact E.obj
   exact W3 D M _ J (E.putObj _).drop
  refine⟨.done,some c,ea,E.obj,?_⟩
  rcases ON c M J with⟨id,rfl⟩|rfl
  .exact W4 id D M _ J (E.putObj _).drop
  exact aia D M _ J (E.putObj _).drop
 rintro k args Φ W R _ hk hR ⟨M,J,rfl⟩ E
 have U:=E.p1.split
 refine⟨.inr ⟨l,rfl,?_⟩⟩
 refine hy args W _ (hnp k args Φ hk) U.obj ?_
 refine DV k args Φ (sep (sep (nq l (.loop G)) (nq D (.deferred (some [])))) R) (sep (sep (nq l (.loop {G with state:=.busy})) (nq D (.deferred (some [])))) R) _ _ M W hk J (λF W2 ⟨_,F2,_,h2,_⟩=>hR F2 W2 h2)
  (λM u kk h1 h2=>?_) (λM u h1 h2=>?_) (λc M u h1 h2=>?_) (St.join (St.join U))
 .have h1:=h1.split.split
  exact⟨h1.obj,h2 _ (h1.putObj _).join.join⟩
 .have h1:=h1.split.split
  refine⟨h1.obj,.inl ⟨rfl,_,⟨M,h2,rfl⟩,?_⟩⟩
  have:=h1.putObj (.loop {G with state:=if (none:Option Code).isNone=true then LoopState.ready else LoopState.done,pending:=none})
  rw[D9 G iS Bj]at this |-
  exact(St.join this).p1
 have h1:=h1.split.split
 refine⟨h1.obj,.inr ⟨rfl,c,M,h2,?_⟩⟩
 exact(h1.putObj _).p2.drop
end
end Go.Fw
namespace Go.Proofs.YtpdlpabnlkofmaaGreatDoor
open Go.Fw
abbrev UU:=ByteArray×Int×List Int
def qk(xs:List bY):List bY:=xs.filter λx=>decide (x.op=2)
theorem He{xs:List bY}{k:Nat}{x:bY}(h:xs[k]?=some x):qk (xs.take (k+1))=qk (xs.take k)++(if x.op=2 then [x]else []):=by
 unfold qk;rw[<- gG h,yf];grind
def ad2{xs:List bY}{k:Nat}{x:bY}(h:xs[k]?=some x)(u:x.op=2):(qk xs)[(qk (xs.take k)).length]?=some x:=by
 have h1:=drop_cons h
 have e:qk xs=qk (xs.take k)++qk (xs.drop k):=by unfold qk;rw[<- yf,o1]
 grind[qk]
def SE(l:List UU)(k:Nat)(args:List Value)(Φ:g7):Prop:=∃u s,l[k]?=some u/\args=[hM (⟨u.1,u.2.1,s⟩:Jl)]/\∀W,Φ W->dz (λ_=>True) W (hM s) u.2.2
def axz{H H':HP}{Φ:g7}(h:∀F W,H.p W F->Φ W):∀F W,(sep H H').p W F->Φ W:=λ_ _ ⟨_,_,h1,_⟩=>h _ _ h1
def Jm{α:Type}[Flat α]{v:Value}{xs:List α}:∀F W,(bF v xs).p W F->dz (λ_=>True) W v xs:=λ_ _ h=>(bF.rd h).mono λ_ _=>trivial
def C193(lv y:Value)(xs:List bY)(may:Int)(ul:List UU)(B:Nat)(w0:World)(A:Nat->Prop)(I:Nat->List HP->Prop)(Jx:g7)(w:World)(hn:xs.length<=1048576)
  (hE:∀k L W,I k L->St w0 A L W->dz (λ_=>True) W lv xs) (h0:∃L,I B L/\St w0 A L w) (hu:∀(j:Nat) (x:bY),(qk xs)[j]?=some x->ul[B+j]?=some (x.name,x.at_,[may])) (hy:ad1 g6 w0 A I Jx y (SE ul)) :
  CR 193 [lv,hH may,y] w (λv W=>(v=.bool true/\∃L,I (B+(qk xs).length) L/\St w0 A L W)\/(v=.bool false/\Jx W)):=by
 refine eU Tryz.func193 ?_;obtain⟨L0,J,G⟩:=h0;refine aH gV (hE _ _ _ J G) ?_;refine⟨λm x w1=>∃k:Nat,x=hH (k:Int)/\m=xs.length-k/\k<=xs.length/\∃L,I (B+(qk (xs.take k)).length) L/\St w0 A L w1,⟨_,0,rfl,rfl,kO _,L0,J,G⟩,?_⟩;rintro m _ w1 ⟨k,rfl,rfl,hk,L1,E,u⟩ _;refine aO (aC (λc=>?_) λc=>?_)
 .obtain⟨x,M⟩:=gx xs (i:=((k:Nat):Int).toNat) bL;refine aM gV (hE _ _ _ E u) bL M (λq hq=>aE rI hq (aQ u xH λb8 _ u=>aK (x:=x) u rI rfl rfl λ_ u=>⟨λjv w'=>(jv=.bool false/\∃L,I (B+(qk (xs.take (k+1))).length) L/\St w0 A L w')\/(jv=.bool true/\Jx w'),aA eX (aB (v:=hH x.op) bO u.hb rfl (aG (aC (λU=>?_) λU=>?_))),?_⟩))
  .refine aA gh (aB (v:=.string x.name) gn u.hb rfl (aA rJ (aB (v:=hH x.at_) bO u.hb rfl (aW ([may]:List Int) u.drop cQ rfl rfl (dM rfl) λs25 w4 u=>?_))));obtain⟨O,rfl⟩:=u.dQ.fQ;refine pop (vg x.name x.at_ O.a O.n O.cap) ?_;refine ko.mono (hy _ _ _ w4 _ _ ⟨_,O,hu _ x (ad2 M U),rfl,λ_ h=>h⟩ Jm E u) ?_;rintro v w5 (⟨rfl,L2,V,Y⟩|⟨rfl,Z⟩)
   .exact bP (.inl ⟨rfl,L2,by rw[He (k:=k) M,ee U,kH];exact V,Y.drop⟩)
   exact bP (.inr ⟨rfl,Z⟩)
  .refine .inl ⟨rfl,L1,?_,u.drop⟩;rw[He (k:=k) M,eb U,List.append_nil];exact E
  rintro _ w6 (⟨rfl,L2,V,u⟩|⟨rfl,Z⟩) _
  .exact fa (aJ bL ⟨_,bL,k+1,rfl,rfl,bL,L2,V,u⟩)
  exact gN (.inr ⟨rfl,Z⟩)
 rw[kp bL]at E;exact .inl ⟨rfl,L1,E,u⟩
def Jn(k:Int):List Int:=if k=5\/k=6 then [1]else if k=9\/k=10 then [3]else [1,2]
def BY(l:List bY):List UU:=(qk l).map λy=>(y.name,y.at_,[5])
def BZ(x:bK):List UU:=(if x.eB=⟨#[]⟩then []else [(x.eB,x.at_,[5])])++((if x.name=⟨#[]⟩then []else [(x.name,x.at_,Jn x.kind)])++(BY x.e++BY x.f))
def om(xs:List bK):List UU:=xs.flatMap BZ
theorem Hf{xs:List bK}{k:Nat}{x:bK}(h:xs[k]?=some x):om (xs.take (k+1))=om (xs.take k)++BZ x:=by
 unfold om;rw[<- gG h,Kq];simp
def ad4{xs:List bK}{k i:Nat}{x:bK}{u:UU}(h:xs[k]?=some x)(hi:(BZ x)[i]?=some u):(om xs)[(om (xs.take k)).length+i]?=some u:=by
 have e:om xs=om (xs.take k)++(BZ x++om (xs.drop (k+1))):=by
  rw[<- mX,<- Hf h];unfold om;rw[<- Kq,o1]
 grind
def SF{l:List bY}{j:Nat}{y:bY}(h:(qk l)[j]?=some y):(BY l)[j]?=some (y.name,y.at_,[5]):=by unfold BY;rw[og,h];rfl
def sg(x:bK):List UU:=if x.eB=⟨#[]⟩then []else [(x.eB,x.at_,[5])]
def tN(x:bK):List UU:=if x.name=⟨#[]⟩then []else [(x.name,x.at_,Jn x.kind)]
theorem B0(x:bK):BZ x=sg x++(tN x++(BY x.e++BY x.f)):=rfl
theorem ajv{x:bK}(h:¬ x.eB=⟨#[]⟩):(sg x).length=1:=by unfold sg;grind
theorem ajw{x:bK}(h:x.eB=⟨#[]⟩):(sg x).length=0:=by unfold sg;grind
theorem ajx{x:bK}{n:Nat}(h:¬ x.name=⟨#[]⟩):(n+(tN x).length)=n+1:=by unfold tN;grind
theorem ajy{x:bK}{n:Nat}(h:x.name=⟨#[]⟩):(n+(tN x).length)=n:=by unfold tN;grind
def Y7{x:bK}(h:¬ x.eB=⟨#[]⟩):(BZ x)[0]?=some (x.eB,x.at_,[5]):=by unfold BZ;grind
def Y8{x:bK}(h:¬ x.name=⟨#[]⟩):(BZ x)[(sg x).length]?=some (x.name,x.at_,Jn x.kind):=by
 rw[B0,sl (o5 _),Nat.sub_self];unfold tN;grind
def Y9{x:bK}{j:Nat}{y:bY}(h:(qk x.e)[j]?=some y):(BZ x)[(sg x).length+(tN x).length+j]?=some (y.name,y.at_,[5]):=by
 have h1:=SF h
 rw[B0,sl bL,show(sg x).length+(tN x).length+j-(sg x).length=(tN x).length+j from bL,sl bL,Ft,s4 (ir.1 h1).1,h1]
def Za{x:bK}{j:Nat}{y:bY}(h:(qk x.f)[j]?=some y):(BZ x)[(sg x).length+(tN x).length+(qk x.e).length+j]?=some (y.name,y.at_,[5]):=by
 have h1:=SF h
 have h2:(BY x.e).length=(qk x.e).length:=by unfold BY;grind
 rw[B0,sl bL,show(sg x).length+(tN x).length+(qk x.e).length+j-(sg x).length=(tN x).length+((BY x.e).length+j)from bL,sl bL,Ft,sl bL,Ft,h1]
theorem Zb(x:bK):(BZ x).length=(sg x).length+(tN x).length+(qk x.e).length+(qk x.f).length:=by
 rw[B0];unfold BY;grind
def C192(y:Value)(b:Nat)(lv:Value)(ts:List aZ)(xs:List bK)(w0:World)(A:Nat->Prop)(I:Nat->List HP->Prop)(Jx:g7)(w:World)(hn:xs.length<=1048576)(hz:∀x∈xs,x.e.length<=1048576/\x.f.length<=1048576)
  (hE:∀k L W,I k L->St w0 A L W->Cell W b 0 lv/\dz (λ_=>True) W lv ts/\gu ts xs W) (h0:∃L,I 0 L/\St w0 A L w) (hy:ad1 g6 w0 A I Jx y (SE (om xs))) :
  CR 192 [y,.pointer (some ⟨b,0,none⟩)] w (λ_ W=>(∃L,I (om xs).length L/\St w0 A L W)\/Jx W):=by
 have U:∀b4 (cs:List Value),ad1 g6 w0 A (λj L=>∃M,I j M/\L=bZ b4 cs::M) Jx y (SE (om xs)):=by
  rintro b4 cs k args Φ W R _ h1 h2 ⟨M,h3,rfl⟩ h4;refine ko.mono (hy k args Φ W _ M h1 (axz h2) h3 (St.join h4)) ?_;rintro v W' (⟨rfl,L',h5,h6⟩|h5)
  .exact .inl ⟨rfl,_,⟨L',h5,rfl⟩,h6.split⟩
  grind
 refine eU Tryz.func192 ?_;obtain⟨M0,hI0,hS0⟩:=h0;obtain⟨CQ,FZ,AU⟩:=hE _ _ _ hI0 hS0;have TO:=AU.1;refine bU jA CQ (aH fj FZ ?_);refine⟨λm x w1=>∃k:Nat,x=hH (k:Int)/\m=ts.length-k/\k<=ts.length/\∃L,I (om (xs.take k)).length L/\St w0 A L w1,⟨_,0,rfl,rfl,kO _,M0,hI0,hS0⟩,?_⟩;rintro m _ w1 ⟨k,rfl,rfl,hk,M1,hI,B⟩ _;refine aO (aC (λc=>?_) λc=>?_)
 .obtain⟨t,ht⟩:=gx ts (i:=((k:Nat):Int).toNat) bL;obtain⟨x,hx⟩:=gx xs (i:=k) bL;have hxz:=hz x (j0 hx);obtain⟨vf,Gb,hd1⟩:=hE _ _ _ hI B;obtain⟨V,Z,rfl,_,_⟩:=hd1.2 _ _ _ ht hx
  have hE1:∀k' M W,I k' M->St w0 A M W->dz (λ_=>True) W (hM V) x.e/\dz (λ_=>True) W (hM Z) x.f:=λk' M W h1 h2=>by
   obtain⟨_,_,h3⟩:=hE k' M W h1 h2;obtain⟨_,_,h4,h5,h6⟩:=h3.2 _ _ _ ht hx;cases h4
   exact⟨DL.flat h5,DL.flat h6⟩
  have r8:∀{i:Nat}{u:UU},(BZ x)[i]?=some u->(om xs)[(om (xs.take k)).length+i]?=some u:=ad4 hx;refine aM fj Gb bL ht (λq hq=>aE eG hq (aQ B jk λb4 _ B=>aK (x:=(⟨x.kind,x.eB,x.name,V,Z,x.n,x.body,x.eo,x.at_⟩:aZ)) B eG rfl rfl λ_ B=>?_));refine⟨λG w'=>(G=.bool false/\∃L,I ((om (xs.take k)).length+(sg x).length) L/\St w0 A ((bZ b4 (ia (⟨x.kind,x.eB,x.name,V,Z,x.n,x.body,x.eo,x.at_⟩:aZ)))::L) w')\/(G=.bool true/\Jx w'),?_,?_⟩
  .refine aA iy (aB (v:=.string x.eB) gn B.hb rfl (lJ (aC (λc2=>?_) λc2=>.inl ⟨rfl,M1,by rw[ajw (by simpa using c2)];exact hI,B⟩)));refine aA iy (aB (v:=.string x.eB) gn B.hb rfl (aA lj (aB (v:=hH x.at_) bO B.hb rfl (aW ([5]:List Int) B cQ rfl rfl (dM rfl) λs25 _ B=>?_))));obtain⟨E,rfl⟩:=B.dQ.fQ;refine pop (vg x.eB x.at_ E.a E.n E.cap) ?_;refine ko.mono (U b4 _ _ _ _ _ _ _ ⟨_,E,r8 (i:=0) (Y7 c2),rfl,λ_ h=>h⟩ Jm ⟨_,hI,rfl⟩ B) ?_;rintro v w5 (⟨rfl,_,⟨O,J,rfl⟩,hs2⟩|⟨rfl,Hc⟩)
   .exact bP (.inl ⟨rfl,O,by rw[ajv c2];exact J,hs2.drop⟩)
   exact bP (.inr ⟨rfl,Hc⟩)
  rintro _ w6 (⟨rfl,O,J,B⟩|⟨rfl,Hc⟩) _;rotate_left
  .exact gN (.inr Hc)
  refine fa (aW ([1,2]:List Int) B cQ rfl rfl (dM rfl) λs26 w7 B=>?_);refine⟨λG w'=>∃E:SV,G=hM E/\St w0 A (bF (hM E) (Jn x.kind)::(bZ b4 (ia (⟨x.kind,x.eB,x.name,V,Z,x.n,x.body,x.eo,x.at_⟩:aZ)))::O) w',?_,?_⟩
  .refine aA dK (aB (v:=hH x.kind) bO B.p1.hb rfl ⟨λG w'=>G=.bool (decide (x.kind=5\/x.kind=6))/\w'=w7,aG (aC (λc3=>⟨vb (by simp[c3]),rfl⟩) λc3=>aG ⟨vb (by simp[c3]),rfl⟩),?_⟩);rintro _ w8 ⟨rfl,rfl⟩ _;refine aC (λc3=>?_) (λc3=>⟨λG w'=>G=.bool (decide (x.kind=9\/x.kind=10))/\w'=w8,aG (aC (λc4=>⟨vb (by simp[c4]),rfl⟩) λc4=>aG ⟨vb (by simp[c4]),rfl⟩),?_⟩)
   .refine aW ([1]:List Int) B cQ rfl rfl (dM rfl) (λs32 _ B=>?_);obtain⟨E,rfl⟩:=B.dQ.fQ;exact⟨E,rfl,by rw[Jn,ee c3];exact B.p1.drop⟩
   rintro _ _ ⟨rfl,rfl⟩ _;refine aC (λc4=>?_) (λc4=>?_)
   .refine aW ([3]:List Int) B cQ rfl rfl (dM rfl) (λs36 _ B=>?_);obtain⟨E,rfl⟩:=B.dQ.fQ;exact⟨E,rfl,by rw[Jn,eb c3,ee c4];exact B.p1.drop⟩
   obtain⟨E,rfl⟩:=B.dQ.fQ;exact⟨E,rfl,by rw[Jn,eb c3,eb c4];exact B⟩
  rintro _ _ ⟨E,rfl,B⟩ _;refine⟨λG w'=>(G=.bool false/\∃L,I ((om (xs.take k)).length+((sg x).length+(tN x).length)) L/\St w0 A ((bZ b4 (ia (⟨x.kind,x.eB,x.name,V,Z,x.n,x.body,x.eo,x.at_⟩:aZ)))::L) w')\/(G=.bool true/\Jx w'),?_,?_⟩
  .refine aA fX (aB (v:=.string x.name) gn B.p1.hb rfl (lJ (aC (λc2=>?_) λc2=>.inl ⟨rfl,O,by rw[ajy (by simpa using c2)];exact J,B.drop⟩)));refine aA fX (aB (v:=.string x.name) gn B.p1.hb rfl (aA lj (aB (v:=hH x.at_) bO B.p1.hb rfl (pop (vg x.name x.at_ E.a E.n E.cap) ?_))));refine ko.mono (U b4 _ _ _ _ _ _ _ ⟨_,E,r8 (i:=(sg x).length) (Y8 c2),rfl,λ_ h=>h⟩ Jm ⟨_,J,rfl⟩ B) ?_;rintro v w13 (⟨rfl,_,⟨M3,hI3,rfl⟩,hs3⟩|⟨rfl,Hc⟩)
   .exact bP (.inl ⟨rfl,M3,by rw[ajx c2];exact hI3,hs3.drop⟩)
   exact bP (.inr ⟨rfl,Hc⟩)
  rintro _ SD (⟨rfl,O,J,B⟩|⟨rfl,Hc⟩) _;rotate_left
  .exact gN (.inr Hc)
  refine fa ?_;refine⟨λG w'=>(G=.bool false/\∃L,I ((om (xs.take (k+1))).length) L/\St w0 A ((bZ b4 (ia (⟨x.kind,x.eB,x.name,V,Z,x.n,x.body,x.eo,x.at_⟩:aZ)))::L) w')\/(G=.bool true/\Jx w'),?_,?_⟩
  .refine aA iN (aB (v:=hM V) jy B.hb rfl (dO ag5 (C193 _ y x.e 5 (om xs) ((om (xs.take k)).length+((sg x).length+(tN x).length)) w0 A (λj L=>∃M,I j M/\L=(bZ b4 (ia (⟨x.kind,x.eB,x.name,V,Z,x.n,x.body,x.eo,x.at_⟩:aZ)))::M) Jx _ (by have:=hxz.1;omega) (λj L W ⟨M,h1,h2⟩ h3=>(hE1 _ _ _ h1 (h2▸h3).drop).1) ⟨_,⟨_,J,rfl⟩,B⟩ (λj _ Ua=>by rw[Mi];exact r8 (i:=((sg x).length+(tN x).length)+j) (Y9 Ua)) (U b4 _)) ?_));rintro v _ Y;rw[Mi]at Y
   rcases Y with⟨rfl,_,⟨O,J,rfl⟩,B⟩|⟨rfl,Y⟩
   .refine bP (fa (aA jS (aB (v:=hM Z) jy B.hb rfl (dO ag5 (C193 _ y x.f 5 (om xs) ((om (xs.take k)).length+((sg x).length+(tN x).length+(qk x.e).length)) w0 A (λj L=>∃M,I j M/\L=(bZ b4 (ia (⟨x.kind,x.eB,x.name,V,Z,x.n,x.body,x.eo,x.at_⟩:aZ)))::M) Jx _ (by have:=hxz.2;omega) (λj L W ⟨M,h1,h2⟩ h3=>(hE1 _ _ _ h1 (h2▸h3).drop).2) ⟨_,⟨_,J,rfl⟩,B⟩ (λj _ Ua=>by rw[Mi];exact r8 (i:=((sg x).length+(tN x).length+(qk x.e).length)+j) (Za Ua)) (U b4 _)) ?_))));rintro v _ Y;rw[Mi]at Y
    rcases Y with⟨rfl,_,⟨O,J,rfl⟩,B⟩|⟨rfl,Y⟩
    .exact bP (.inl ⟨rfl,O,by rw[Hf hx,kH,Zb];exact J,B⟩)
    exact bP (.inr ⟨rfl,Y⟩)
   exact bP (gN (.inr ⟨rfl,Y⟩))
  rintro _ w17 (⟨rfl,O,J,B⟩|⟨rfl,Hc⟩) _;rotate_left
  .exact gN (.inr Hc)
  exact fa (aJ bL ⟨_,bL,k+1,rfl,rfl,bL,O,J,B.drop⟩)
 rw[kp bL]at hI;exact .inl ⟨M1,hI,B⟩
def C113(lv:SV)(w:World):CR 113 [hM lv] w (λv w'=>∃b,v=.func (.func 192) [].toArray [.pointer (some ⟨b,0,none⟩)].toArray/\kZ (bZ b [hM lv]) w w'):=by
 have u:=St.start w;refine eU Tryz.func113 ?_;refine nd u rfl (λb _ u=>?_);exact⟨b,rfl,u.fresh⟩
variable (w:World) (K:Value->g7)
theorem ag6:PL 112:=dG Tryz.func112
end Go.Proofs.YtpdlpabnlkofmaaGreatDoor
namespace Go.Proofs.YtpdlpabnlkofmaaGreatDoor
open Go.Fw
def E8:List SI->List ByteArray->Option (List SI)
 | g,[]=>some g
 | g,n::r=>if eC g n=0 then E8 (g++[(n,5)]) r else none
def UA(l:List SI)(names:List ByteArray):Option (List SI):=E8 (l.filter λp=>decide (¬ p.2=4)) names
def ad5{g:List SI}{ns:List ByteArray}{k:Nat}{n:ByteArray}(h:ns[k]?=some n)(u:eC g n=0):E8 g (ns.drop k)=E8 (g++[(n,5)]) (ns.drop (k+1)):=by
 rw[drop_cons h,E8,ee u]
def ad6{g:List SI}{ns:List ByteArray}{k:Nat}{n:ByteArray}(h:ns[k]?=some n)(u:¬ eC g n=0):E8 g (ns.drop k)=none:=by
 rw[drop_cons h,E8,eb u]
def aqR(r:Option (List SI))(v:Value)(w w':World):Prop:=
 (r=none/\v=.tuple #[.map none,.bool true]/\Ext w w')\/∃g b,r=some g/\v=.tuple #[.map (some b),.bool false]/\kZ (mZ b g) w w'
def C112(tv:cD)(names:List ByteArray)(bm:Nat)(l:List SI)(w:World)(hf:dz (λ_=>True) w (hM tv.dN) names)(E:uy w bm l)(hz:∀p∈l,p.2≠0)(hn:names.length<=1073741824) :
  CR 112 [hM tv,.map (some bm)] w (λv w'=>aqR (UA l names) v w w'):=by
 have u:=St.start w;have TO:=E.nodup;obtain⟨es,clock,VK,iS,Y⟩:=E;refine eU Tryz.func112 ?_;refine cJ u (λM w1 u=>LO u λI _ u=>Uj u Tryz.underlying165 (EG VK u.aF) λr13 _ u=>?_);refine⟨λV w1=>∃(seen:Array Nat) (O:List SI),V=(leftOf es seen).size/\(∀p,p∈O↔(p∈l/\¬ p.2=4/\∃e∈es.toList,seen.contains e.born=true/\e.key=.string p.1))/\St w aY [G5 r13 bm clock seen,mZ I O,bZ M (ia tv)] w1,⟨_,#[],[],rfl,λ_=>⟨λh=>(by cases h),λ⟨_,_,e,_,h,_⟩=>(by simp at h)⟩,u⟩,?_⟩;rintro V w4 ⟨seen,O,rfl,G,u⟩ _;refine XO u (EG VK u.aF) iS.1 (λh0=>?_) (λe _ U u=>?_)
 .refine aN rfl (fa ?_);have u:=u.drop
  have hg:O.Perm (l.filter λp=>decide (¬ p.2=4)):=by
   have n1:O.Nodup:=(aaB.1 u.mZ.nodup).imp λh e=>h (by rw[e]);have n2:l.Nodup:=(aaB.1 TO).imp λh e=>h (by rw[e]);refine(List.perm_ext_iff_of_nodup n1 (n2.filter _)).2 λp=>?_;rw[G,MZ];refine⟨λ⟨h1,h2,_⟩=>⟨h1,ei h2⟩,λ⟨h1,h2⟩=>⟨h1,fK h2,?_⟩⟩;obtain⟨e,U,h3,_⟩:=XQ Y h1;exact⟨e,U,all_seen es seen h0 e U,h3⟩
  have u:St w aY [mZ I (l.filter λp=>decide (¬ p.2=4)),bZ M (ia tv)] w4:=u.qW λF hF=>⟨F,⟨hF.1.perm hg,hF.2⟩,λ_ hb=>.inl hb,gC.refl _ _⟩;refine aA fP (aB iW u.p1.hb rfl (aH ix (hf.ext u.aF) ?_));refine⟨λV i w'=>∃(k:Nat) (g:List SI),i=hH (k:Int)/\V=names.length-k/\k<=names.length/\UA l names=E8 g (names.drop k)/\(∀p∈g,p.2≠0)/\St w aY [mZ I g,bZ M (ia tv)] w',⟨_,0,_,rfl,rfl,kO _,rfl,λp hp=>hz p (MZ.1 hp).1,u⟩,?_⟩;rintro V _ _ ⟨k,g,rfl,rfl,hk,I8,Z,u⟩ _;refine aO (aC (λMr=>?_) λMr=>?_)
  .obtain⟨yF,jM⟩:=gx names (i:=(k:Int).toNat) bL;refine aM ix (hf.ext u.aF) bL jM (λ_ AA=>aE gn AA (xP u.mZ Tryz.underlying165 Tryz.underlying9 ue (bT (aC (λly=>.inl ⟨I8.trans (ad6 jM ly),rfl,u.drop.drop.aF⟩) λly=>?_))));have W:eC g yF=0:=bL
   refine LP u Tryz.underlying165 Tryz.underlying9 (O4 u.mZ.nodup Z W) (λ_ u=>aJ bL ?_)
   exact⟨_,bL,k+1,_,rfl,rfl,bL,I8.trans (ad5 jM W),λp hp=>by
    rcases oi.1 hp with h|h
    .exact Z p h
    .rw[sM.1 h];exact(by decide:(5:Int)≠0),u⟩
  refine .inr ⟨g,I,?_,rfl,u.p1.drop.fresh⟩;rw[I8,pC bL];rfl
 refine aN rfl (gN ?_);have E:=mem_left U;refine Uk u (EG VK u.aF) E.1 iS.2.1 ?_;obtain⟨p0,Oe,B,hev⟩:=XP Y E.1;rw[B,hev];refine aN rfl (aN rfl (bT ?_))
 have old:∀q∈O,q.1≠p0.1:=λq hq e=>by
  obtain⟨_,_,J,Ms,h1,h2⟩:=(G q).1 hq;rw[e,<- B]at h2;obtain rfl:=key_inj iS.2.2 Ms E.1 h2;exact absurd h1 (by simpa using E.2)
 refine aC (λmQ=>?_) (λmQ=>?_)
 .have u:=u.p1;refine LP u Tryz.underlying165 Tryz.underlying9 old (λ_ u=>?_);have u:=u.p1;refine⟨_,left_shrinks es seen e U,seen.push e.born,_,rfl,λp=>?_,u⟩;rw[oi,sM,G]
  constructor
  .rintro(⟨h1,h2,J,h3,h4,h5⟩|rfl)
   .exact⟨h1,h2,J,h3,by simp at h4 |-;exact .inl h4,h5⟩
   exact⟨Oe,mQ,e,E.1,ea,B⟩
  rintro⟨h1,h2,J,h3,h4,h5⟩
  rcases wM h4 with h|h
  .exact .inl ⟨h1,h2,J,h3,h,h5⟩
  obtain rfl:=born_inj iS.2.1 h3 E.1 h;rw[B]at h5;injection h5 with h5;exact .inr (XR TO h1 Oe h5.symm)
 refine⟨_,left_shrinks es seen e U,seen.push e.born,O,rfl,λp=>?_,u⟩;rw[G]
 constructor
 .rintro⟨h1,h2,J,h3,h4,h5⟩;exact⟨h1,h2,J,h3,by simp at h4 |-;exact .inl h4,h5⟩
 rintro⟨h1,h2,J,h3,h4,h5⟩
 rcases wM h4 with h|h
 .exact⟨h1,h2,J,h3,h,h5⟩
 obtain rfl:=born_inj iS.2.1 h3 E.1 h;rw[B]at h5;injection h5 with h5;obtain rfl:=XR TO h1 Oe h5.symm;exact absurd h2 mQ
theorem dI{ns:List ByteArray}{s:ByteArray}:0<=cU ns s↔s∈ns:=by
 have h:=BM ns s
 grind
theorem AV{ns:List ByteArray}{s:ByteArray}:cU ns s<0↔s ∉ ns:=by rw[<- dI];omega
theorem lE{ns:List ByteArray}{s:ByteArray}(h:s∈ns):∃k:Nat,cU ns s=k/\ns[k]?=some s/\∀j,j<k->ns[j]?≠some s:=by
 unfold cU rS
 cases hf:ns.findIdx? (λy=>decide (y=s))with
 | none=>grind
 | some k=>
  obtain⟨h1,h2,h3⟩:=List.findIdx?_eq_some_iff_getElem.1 hf
  grind
def pB{ns:List ByteArray}{s:ByteArray}{k:Nat}(h:s∈ns):cU ns s<k↔s∈ns.take k:=by
 obtain⟨j,h1,h2,h3⟩:=lE h
 rw[h1]
 constructor
 .intro B;exact wA.2 ⟨j,cH⟩
 intro u
 obtain⟨i,hi⟩:=wA.1 u
 grind
theorem nodup_iff(ns:List ByteArray):ns.Nodup↔∀(k:Nat) (s:ByteArray),ns[k]?=some s->s ∉ ns.take k:=by
 unfold List.Nodup
 rw[Sx]
 constructor
 .intro h k s G E
  obtain⟨i,hi⟩:=wA.1 E
  grind
 intro h i j hi u B I
 exact h j _ (kE u) (wA.2 ⟨i,cH⟩)
theorem zx(l:List cG):j9 l=true↔¬ (l.map cG.name).Nodup:=by
 rw[nodup_iff]
 unfold j9
 rw[u4]
 constructor
 .rintro⟨j,u,h⟩ E
  have u:=Iw.1 u
  have J:l[j]?=some l[j]:=kE u
  rw[xR J,decide_eq_true_iff]at h
  have B:(l[j]).name∈l.map cG.name:=n4.2 ⟨_,UF u,rfl⟩
  exact E j _ cH ((pB B).1 h)
 intro E
 apply gM
 intro hc
 refine E λk s I B=>hc ⟨k,?_,?_⟩
 .grind
 rw[og]at I
 obtain⟨c,G,rfl⟩:=H0.1 I
 rw[xR G,decide_eq_true_iff]
 exact(pB (uS B)).2 B
def Mt(p:cE)(rs:List ByteArray):uA p rs=true↔¬ rs.Nodup\/∃s∈rs,s∈cX p\/s∈cK p:=by
 rw[nodup_iff]
 unfold uA
 rw[u4]
 constructor
 .rintro⟨j,u,h⟩
  have u:=Iw.1 u
  have I:rs[j]?=some rs[j]:=kE u
  have E:=UF u
  rw[AL I]at h
  simp only[wH,decide_eq_true_eq,dI]at h
  rcases h with(h|h)|h
  .exact .inl λB=>B j _ I ((pB E).1 h)
  .grind
  grind
 intro B
 rcases B with B|⟨s,J,hc⟩
 .apply gM
  intro hc
  refine B λk s G E=>hc ⟨k,Iw.2 (ir.1 G).1,?_⟩
  rw[AL G]
  simp only[wH,decide_eq_true_eq]
  exact .inl (.inl ((pB (uS E)).2 E))
 obtain⟨j,u⟩:=wA.1 J
 refine⟨j,Iw.2 (ir.1 u).1,?_⟩
 rw[AL u]
 simp only[wH,decide_eq_true_eq,dI]
 rcases hc with hc|hc
 .exact .inl (.inr hc)
 exact .inr hc
def nmQ(p:cE):List (ByteArray×Int×Int):=VO p++(Uy p++VP p)
theorem SG(p:cE):CD p=zN (nmQ p) ([],false,0):=by simp_all[SI,CD,zN,nmQ]
theorem B2(p:cE):(nmQ p).map (·.1)=(fL p).map cG.name:=by
 unfold nmQ VO Uy VP fL
 rw[<- AT]
 simp only[u1,GG,mX]
 rfl
theorem Zc(p:cE):∀q∈nmQ p,q.2.1≠0:=by
 intro q u
 unfold nmQ VO Uy VP CC at u
 grind
theorem Zd:∀(l:List (ByteArray×Int×Int)) (st:List SI×Bool×Int),(∀q∈l,q.2.1≠0)->
  ((zN l st).2.1=true↔st.2.1=true\/¬ (l.map (·.1)).Nodup\/∃q∈l,eC st.1 q.1≠0)
 | [],st,_=>by simp[zN]
 | q::r,st,hz=>by
  have u:=Zd r (Y5 st q) λq B=>hz q (o4 _ B)
  have E:=hz q (ob ..)
  have e:zN (q::r) st=zN r (Y5 st q):=rfl
  rw[e,u]
  show twN st.1 q.1 st.2.1=true\/_\/(∃x∈r,eC (zu st.1 q.1 q.2.1) x.1≠0)↔_
  unfold twN
  rw[Kp,IX]
  simp only[wH,decide_eq_true_eq,BX,n4,sk]
  grind
theorem Ze(p:cE):(CD p).2.1=j9 (fL p):=by
 rw[IV,SG,Zd _ _ (Zc p),zx,B2]
 simp[eC]
theorem PQ:∀(l:List (ByteArray×Int×Int)) (st:List SI×Bool×Int) (n:ByteArray),n ∉ l.map (·.1)->eC (zN l st).1 n=eC st.1 n
 | [],_,_,_=>rfl
 | q::r,st,n,h=>by
  rw[Kp,sk,not_or]at h
  have e:zN (q::r) st=zN r (Y5 st q):=rfl
  rw[e,PQ r _ n h.2]
  show eC (zu st.1 q.1 q.2.1) n=_
  rw[BX,eb λu=>h.1 u.symm]
theorem E9:∀(l:List (ByteArray×Int×Int)) (st:List SI×Bool×Int) (q:ByteArray×Int×Int),(l.map (·.1)).Nodup->q∈l->eC (zN l st).1 q.1=q.2.1
 | x::r,st,q,hn,h=>by
  rw[Kp,IX]at hn
  have e:zN (x::r) st=zN r (Y5 st x):=rfl
  rw[e]
  rcases sk.1 h with rfl|h
  .rw[PQ r _ _ hn.1]
   show eC (zu st.1 q.1 q.2.1) q.1=_
   rw[BX,ee rfl]
  .exact E9 r _ q hn.2 h
theorem Zf:∀(l:List (ByteArray×Int×Int)) (st:List SI×Bool×Int),(∀q∈l,q.2.1≠0)->(∀e∈st.1,e.2≠0)->∀e∈(zN l st).1,e.2≠0
 | [],_,_,h=>h
 | q::r,st,hz,h=>Zf r (Y5 st q) (λq u=>hz q (o4 _ u)) (adZ h (hz q (ob ..)))
def PR(p:cE):∀e∈(CD p).1,e.2≠0:=by
 rw[SG];exact Zf _ _ (Zc p) λe u=>by cases u
theorem Zg:∀(ls:List (List cG)) (k:Int) (q:cG×Int),q∈PN k ls->k<=q.2/\q.2<k+ls.length
 | [],_,_,h=>by cases h
 | l::r,k,q,h=>by
  unfold PN at h
  rcases oi.1 h with h|h
  .grind
  .have:=Zg r (k+1) q h;simp;omega
theorem Zh:∀(vs:List cG) (k:Int) (q:cG×Int),q∈Oc k vs->k<=q.2
 | [],_,_,h=>by cases h
 | v::r,k,q,h=>by
  unfold Oc at h
  rcases sk.1 h with rfl|h
  .omega
  .have:=Zh r (k+1) q h;omega
def tm(p:cE):List ByteArray:=p.iJ.map cG.name
def ad8(p:cE):List ByteArray:=p.threads.map cL.name
theorem Mu(p:cE):iu p=p.lines.flatten.map cG.name:=by
 unfold iu cX iQ eJ
 rw[u1,o6,List.take_left' cH]
theorem ql(p:cE):cX p=iu p++tm p:=by
 rw[Mu];unfold cX iQ tm;grind
theorem SH(p:cE):(fL p).map cG.name=iu p++tm p++(cK p++ad8 p):=by
 rw[<- ql];unfold fL cX cK ad8
 simp_all
theorem SJ{p:cE}(G:j9 (fL p)=false)(s:ByteArray) :
  eC (CD p).1 s=if 0<=cU (iu p) s then 1 else if 0<=cU (tm p) s then 2 else if 0<=cU (cK p) s then 3 else if 0<=cU (ad8 p) s then 4 else 0:=by
 have hd:((fL p).map cG.name).Nodup:=gM λh=>by rw[(zx _).2 h]at G;cases G
 have B:((nmQ p).map (·.1)).Nodup:=by rw[B2];exact hd
 rw[SG]
 by_cases h1:s∈iu p
 .rw[ee (dI.2 h1)]
  rw[Mu,<- Jj p.lines 0]at h1
  obtain⟨c,hc,rfl⟩:=n4.1 h1
  obtain⟨q,u,rfl⟩:=n4.1 hc
  have E:(q.1.name,CC p q.2,q.1.at_)∈nmQ p:=List.mem_append_left _ (n4.2 ⟨q,List.mem_append_left _ u,rfl⟩)
  have J:=Zg _ _ _ u
  exact(E9 _ _ _ B E).trans (eb bL)
 rw[eb λh=>h1 (dI.1 h)]
 by_cases h2:s∈tm p
 .rw[ee (dI.2 h2)]
  unfold tm at h2
  rw[<- Jk p.iJ p.lines.length]at h2
  obtain⟨c,hc,rfl⟩:=n4.1 h2
  obtain⟨q,u,rfl⟩:=n4.1 hc
  have E:(q.1.name,CC p q.2,q.1.at_)∈nmQ p:=List.mem_append_left _ (n4.2 ⟨q,List.mem_append_right _ u,rfl⟩)
  have I:=Zh _ _ _ u
  exact(E9 _ _ _ B E).trans (ee I)
 rw[eb λh=>h2 (dI.1 h)]
 by_cases h3:s∈cK p
 .rw[ee (dI.2 h3)]
  obtain⟨c,hc,rfl⟩:=n4.1 h3
  exact E9 _ _ (c.name,3,c.at_) B (List.mem_append_right _ (List.mem_append_left _ (n4.2 ⟨c,hc,rfl⟩)))
 rw[eb λh=>h3 (dI.1 h)]
 by_cases h4:s∈ad8 p
 .rw[ee (dI.2 h4)]
  obtain⟨t,ht,rfl⟩:=n4.1 h4
  exact E9 _ _ (t.name,4,t.at_) B (List.mem_append_right _ (List.mem_append_right _ (n4.2 ⟨t,ht,rfl⟩)))
 rw[eb λh=>h4 (dI.1 h),PQ _ _ _ (by rw[B2,SH];grind)]
 rfl
def Fa{α:Type}{l:List α}{f g:α->Bool}(h:∀x∈l,f x=g x):l.any f=l.any g:=by
 grind
theorem UB{g:List SI}{n k:ByteArray}{v:Int}(B:∀e∈g,e.2≠0)(h:eC g n=0):eC (g++[(n,v)]) k=if n=k then v else eC g k:=by
 induction g with
 | nil=>simp_all[eC,SI]
 | cons e r I=>
  have u:=B e (ob ..)
  have J:¬ e.1=n:=λE=>by
   have:eC (e::r) n=e.2:=by simp_all[eC,SI]
   omega
  have G:eC r n=0:=by
   grind[eC]
  show(if e.1=k then e.2 else eC (r++[(n,v)]) k)=if n=k then v else(if e.1=k then e.2 else eC r k)
  grind
theorem Hg:∀(ns:List ByteArray) (g:List SI),(∀e∈g,e.2≠0)->
  (E8 g ns=none/\(¬ ns.Nodup\/∃s∈ns,eC g s≠0))\/∃I,E8 g ns=some I/\ns.Nodup/\(∀s∈ns,eC g s=0)/\∀s,eC I s=if 0<=cU ns s then 5 else eC g s
 | [],g,_=>.inr ⟨g,rfl,List.nodup_nil,λs h=>(by cases h),λs=>by rw[eb];exactλh=>by cases dI.1 h⟩
 | n::r,g,hz=>by
  unfold E8
  split
  .rename_i hl
   have J:∀e∈g++[(n,(5:Int))],e.2≠0:=by
    grind
   have E:=λk=>UB (k:=k) (v:=5) hz hl
   rcases Hg r _ J with⟨h1,h2⟩|⟨I,h1,h2,h3,h4⟩
   .grind
   .have B:n ∉ r:=λM=>cH
    refine .inr ⟨I,h1,IX.2 ⟨B,h2⟩,λs u=>?_,λs=>?_⟩
    .rcases sk.1 u with rfl|u
     .exact hl
     .have:=h3 s u;rw[E,eb λe:n=s=>B (e▸u)]at this;exact this
    .rw[h4,E]
     by_cases u:s∈r
     .rw[ee (dI.2 u),ee (dI.2 (o4 _ u))]
     .rw[eb λh=>u (dI.1 h)]
      by_cases G:n=s
      .rw[ee G,ee (dI.2 (by rw[G];exact ob ..))]
      .rw[eb G,eb λh=>(sk.1 (dI.1 h)).elim (λe=>G e.symm) u]
  grind
theorem Mv{l:List SI}(u:(l.map (·.1)).Nodup)(s:ByteArray):eC (l.filter λp=>decide (¬ p.2=4)) s=if eC l s=4 then 0 else eC l s:=by
 induction l with
 | nil=>rfl
 | cons e r B=>
  rw[Kp,IX]at u
  have B:=B u.2
  have J:e.1=s->eC r s=0:=λh=>ze λq E I=>u.1 (n4.2 ⟨q,E,cH⟩)
  have G:eC (e::r) s=if e.1=s then e.2 else eC r s:=rfl
  rw[List.filter_cons,G]
  by_cases h4:e.2=4
  .grind
  .rw[ee (by simp[h4])]
   show(if e.1=s then e.2 else eC _ s)=_
   grind
def Zi{l:List SI}{k:ByteArray}{v:Int}(h:(l.map (·.1)).Nodup):((zu l k v).map (·.1)).Nodup:=by
 unfold zu
 grind
theorem Zj(p:cE):((CD p).1.map (·.1)).Nodup:=by
 rw[SG]
 have:∀(l:List (ByteArray×Int×Int)) (st:List SI×Bool×Int),(st.1.map (·.1)).Nodup->((zN l st).1.map (·.1)).Nodup:=by
  intro l
  induction l with
  | nil=>intro st h;exact h
  | cons q r u=>intro st h;exact u (Y5 st q) (Zi h)
 grind
theorem Jo{p:cE}(J:j9 (fL p)=false)(rs:List ByteArray) :
  (UA (CD p).1 rs=none/\uA p rs=true)\/∃g,UA (CD p).1 rs=some g/\uA p rs=false/\(∀s∈rs,s ∉ cX p/\s ∉ cK p)/\
   ∀s,eC g s=if 0<=cU rs s then 5 else if 0<=cU (iu p) s then 1 else if 0<=cU (tm p) s then 2 else if 0<=cU (cK p) s then 3 else 0:=by
 have G:∀s,eC ((CD p).1.filter λp=>decide (¬ p.2=4)) s=if 0<=cU (iu p) s then 1 else if 0<=cU (tm p) s then 2 else if 0<=cU (cK p) s then 3 else 0:=by
  intro s
  rw[Mv (Zj p),SJ J]
  omega
 have hc:∀s,eC ((CD p).1.filter λp=>decide (¬ p.2=4)) s≠0↔(s∈cX p\/s∈cK p):=by
  intro s
  rw[G,ql,oi,<- dI (ns:=iu p),<- dI (ns:=tm p),<- dI (ns:=cK p)]
  omega
 unfold UA
 rcases Hg rs ((CD p).1.filter λp=>decide (¬ p.2=4)) (λe I=>PR p e (MZ.1 I).1)with⟨h1,h2⟩|⟨g,h1,h2,h3,h4⟩
 .refine .inl ⟨h1,(Mt p rs).2 ?_⟩
  grind
 have E:∀s∈rs,s ∉ cX p/\s ∉ cK p:=λs u=>by
  have h:=h3 s u
  exact⟨λB=>(hc s).2 (.inl B) h,λB=>(hc s).2 (.inr B) h⟩
 refine .inr ⟨g,h1,?_,E,λs=>by rw[h4,G]⟩
 cases hr:uA p rs with
 | false=>rfl
 | true=>
  rcases(Mt p rs).1 hr with h|⟨s,u,h⟩
  .grind
  .rcases h with h|h
   .exact absurd h (E s u).1
   .exact absurd h (E s u).2
def CX(g:List SI)(u:UU):Bool:=!u.2.2.any λm=>decide (m=eC g u.1)
theorem Mw{g:List SI}{rs:List ByteArray}(l:List bY)(h:∀s,eC g s=5↔s∈rs):(BY l).any (CX g)=oP l rs:=by
 rw[IV]
 unfold BY qk oP CX
 simp only[List.any_map,u4,MZ,Function.comp_apply,Uw,aaJ,Zy,qm,decide_eq_false_iff_not,nS,decide_eq_true_eq,AV]
 grind
def PV(p:cE)(s:ByteArray):s∈iu p↔0<=cU (cX p) s/\cU (cX p) s<eJ p:=by
 rw[dI,show iu p=(cX p).take (eJ p).toNat from rfl]
 have B:0<=eJ p:=by unfold eJ;omega
 constructor
 .intro h
  have u:=uS h
  have:=(pB u).2 h
  exact⟨u,bL⟩
 rintro⟨h1,h2⟩;exact(pB h1).1 bL
theorem aqT(k:Int):eO (fB k) 110=decide (k=2\/k=3\/k=4\/k=5\/k=6\/k=9\/k=10):=by
 unfold fB
 split
 .rw[ej bL];decide
 rename_i h
 obtain rfl|rfl|rfl|rfl|rfl|rfl|rfl|rfl|rfl|rfl|rfl|rfl|rfl|rfl:k=1\/k=2\/k=3\/k=4\/k=5\/k=6\/k=7\/k=8\/k=9\/k=10\/k=11\/k=12\/k=13\/k=14:=bL
 all_goals decide
theorem Mx:gJ ⟨#[]⟩=false:=cZ
def ad9{p:cE}{rs:List ByteArray}{g:List SI}(M:∀s∈rs,s ∉ cX p/\s ∉ cK p)(I:∀s∈cX p,s ∉ cK p)(Y:∀s∈iu p,s ∉ tm p)
  (B:∀s,eC g s=if 0<=cU rs s then 5 else if 0<=cU (iu p) s then 1 else if 0<=cU (tm p) s then 2 else if 0<=cU (cK p) s then 3 else 0) {x:bK}(G:apu x) :
  (BZ x).any (CX g)=mT p rs x:=by
 have J:∀s,eC g s=5↔s∈rs:=λs=>by
  rw[B,<- dI];omega
 have U:∀s,eC g s=1↔s∈iu p:=λs=>by
  rw[B,<- dI]
  split
  .rename_i h
   have:=M s (dI.1 h)
   rw[ql,oi]at this
   refine⟨λh=>(by cases h),λh=>absurd (dI.1 h) λu=>this.1 (.inl u)⟩
  omega
 have W:∀s,eC g s=2↔s∈tm p:=λs=>by
  rw[B]
  split
  .rename_i h
   have:=M s (dI.1 h)
   rw[ql,oi]at this
   grind
  .split
   .grind
   .rw[<- dI];omega
 have g3:∀s,eC g s=3↔s∈cK p:=λs=>by
  rw[B]
  split
  .grind
  .split
   .rename_i h;exact⟨λh=>(by cases h),λu=>absurd u (I s (by rw[ql];grind))⟩
   .split
    .rename_i h;exact⟨λh=>(by cases h),λu=>absurd u (I s (by rw[ql];grind))⟩
    .rw[<- dI];omega
 have E:=G.name
 rw[aqT]at E
 rw[B0,Qb,Qb,Qb,Mw x.e J,Mw x.f J]
 have V:(sg x).any (CX g)=(decide (¬ x.eB=⟨#[]⟩)&&decide (cU rs x.eB<0)):=by
  unfold sg
  split
  .grind
  .rename_i h
   rw[ei h,Av,IV]
   simp only[Uw,aaJ,Zy,CX,qm,decide_eq_false_iff_not,decide_eq_true_eq,AV]
   grind
 have Z:(tN x).any (CX g)=(((decide (x.kind=2)||decide (x.kind=3)||decide (x.kind=4))&&decide (cU (cX p) x.name<0)) ||
   ((decide (x.kind=5)||decide (x.kind=6))&&(decide (cU (cX p) x.name<0)||decide (eJ p<=cU (cX p) x.name))) ||
   ((decide (x.kind=9)||decide (x.kind=10))&&decide (cU (cK p) x.name<0))):=by
  have hk:=G.kind
  unfold tN
  split
  .rename_i h
   have O:¬ (x.kind=2\/x.kind=3\/x.kind=4\/x.kind=5\/x.kind=6\/x.kind=9\/x.kind=10):=by
    intro u
    rcases E with⟨_,h2⟩|⟨h1,_⟩
    .rw[h,Mx]at h2;cases h2
    grind
   grind
  .rename_i h
   have O:x.kind=2\/x.kind=3\/x.kind=4\/x.kind=5\/x.kind=6\/x.kind=9\/x.kind=10:=by
    grind
   have hc:=PV p x.name
   rw[IV]
   unfold Jn
   simp only[Uw,aaJ,Zy,CX,qm,wH,nS,decide_eq_true_eq,AV]
   have e1:=U x.name;have e2:=W x.name;have e3:=g3 x.name
   have ec:x.name∈cX p↔x.name∈iu p\/x.name∈tm p:=by rw[ql,oi]
   have pn:=dI (ns:=cX p) (s:=x.name)
   grind
 rw[V,Z]
 unfold mT
 grind
def My{p:cE}(B:j9 (fL p)=false):(∀s∈cX p,s ∉ cK p)/\∀s∈iu p,s ∉ tm p:=by
 have hd:((fL p).map cG.name).Nodup:=gM λh=>by rw[(zx _).2 h]at B;cases B
 rw[SH,aaS]at hd
 obtain⟨h1,h2,h3⟩:=hd
 rw[aaS]at h1
 exact⟨λs u G=>h3 s (by rw[<- ql];exact u) s (List.mem_append_left _ G) rfl,λs u E=>h1.2.2 s u s E rfl⟩
def Zk{p:cE}{t:cL}{g:List SI}(u:j9 (fL p)=false)(I:UA (CD p).1 t.dN=some g)(B:∀x∈t.body,mS x=true):(om t.body).any (CX g)=t.body.any (mT p t.dN):=by
 rcases Jo u t.dN with⟨h1,_⟩|⟨M,h1,h2,h3,h4⟩
 .grind
 rw[I]at h1;cases h1
 obtain⟨J,G⟩:=My u
 unfold om
 rw[List.any_flatMap]
 refine Fa λx E=>ad9 h3 J G h4 (xQ (B x E))
def PW{p:cE}(u:j9 (fL p)=false)(l:List bY):(l.any λx=>decide (x.op=2)&&decide (¬ eC (CD p).1 x.name=1))=oP l (iu p):=by
 unfold oP
 refine Fa λx _=>?_
 congr 1
 refine ew.2 ?_
 rw[AV,SJ u,<- dI]
 omega
variable (w:World) (K:Value->g7)
def S48(p0:Value):Prop:=
 rA g6 (yg 27 p0) w λp1 a=>aL 31 a λb c=>aL 3 c λd e=>lA 27 p1 e λf=>cF 107 [f] e λg h=>xT g 0 λj=>xT g 1 λk=>xT g 2 λl=>lA 27 p1 h λn=>
 cF 108 [n] h λo p=>eM g6 (Op.unary .not o) λq=>cV q (sA 31 b (i 8) p λs=>sA 3 d (i 0) s λt=>lA 31 b t λr=>lA 3 d t λKs=>K (.tuple #[r,Ks]) t) (lA 27 p1 p λu=>
 cF 109 [u] p λv x=>cV v (sA 31 b (i 2) x λy=>sA 3 d (i 0) y λz=>lA 31 b z λTU=>lA 3 d z λr_3=>K (.tuple #[TU,r_3]) z) (lA 27 p1 x λaa=>cF 110 [aa] x λab ac=>
 lN 24 ab λad=>jQ (λK1 ae V=>∀_:Env,
 bA .lss 3 ae ad λag=>cV ag (iA 24 ab ae λah=>lA 146 ah V λai=>aL 146 V λt8 aj=>sA 146 t8 ai aj λak=>fA 146 t8 2 λal=>lA 141 al ak λam=>cF 111 [am,(i 1)] ak λan ao=>
 xT an 0 λap=>xT an 1 λaq=>cV aq (sA 31 b (i 11) ao λar=>sA 3 d ap ar λI=>lA 31 b I λr_4=>lA 3 d I λr_5=>K (.tuple #[r_4,r_5]) I) (bB .add 3 ae (i 1) λau=>
 K1 au ao)) (cV l (sA 31 b (i 10) V λav=>sA 3 d k av λaw=>lA 31 b aw λr_6=>lA 3 d aw λr_7=>K (.tuple #[r_6,r_7]) aw) (lA 27 p1 V λax=>cF 110 [ax] V λay az=>
 lN 24 ay λa0=>jQ (λK2 a2 W=>∀_:Env,
 bA .lss 3 a2 a0 λa4=>cV a4 (iA 24 ay a2 λa5=>lA 146 a5 W λa6=>aL 146 W λE a7=>sA 146 E a6 a7 λa8=>lA 146 E a8 λa9=>cF 112 [a9,j] a8 λba bb=>xT ba 0 λ_=>
 xT ba 1 λbc=>cV bc (fA 146 E 3 λbd=>lA 3 bd (drew bb) λbe=>sA 31 b (i 10) (drew bb) λbf=>kA 3 bd be bf (sA 3 d be bf λbg=>lA 31 b bg λr_8=>lA 3 d bg λr_9=>
 K (.tuple #[r_8,r_9]) bg)) (bB .add 3 a2 (i 1) λbh=>K2 bh bb)) (lA 27 p1 W λbi=>cF 110 [bi] W λbj bk=>lN 24 bj λbl=>o0 (λK3 ds bm Y=>∀_:Env,
 bA .lss 3 bm bl λbo=>cV bo (iA 24 bj bm λbp=>lA 146 bp Y λbq=>aL 146 Y λG br=>sA 146 G bq br λbs=>lA 146 G bs λbt=>cF 112 [bt,j] bs λbu bv=>xT bu 0 λbw=>
 xT bu 1 λ_=>aL 165 bv λO bx=>sA 165 O bw bx λbz=>fA 146 G 2 λb0=>lA 141 b0 bz λb1=>cF 113 [b1] bz λb2 b3=>zX g6 b2 1 b3 (λa1 b4 B1 R1=>
 aL 177 b4 λB b5=>sA 177 B (DU a1 0) b5 λb6=>B1 b6 λJ=>fA 177 B 2 λb8=>lA 41 b8 J λb9=>lA 165 O J λca=>fA 177 B 0 λcb=>lA 9 cb J λcc=>
 J2 g6 (xY 165 ca cc false) J λcd=>cF 114 [b9,cd] J λce cf=>eM g6 (Op.unary .not ce) λcg=>cV cg (fA 177 B 1 λch=>lA 3 ch (drew cf) λci=>
 sA 31 b (i 9) (drew cf) λcj=>kA 3 ch ci cj (sA 3 d ci cj λck=>R1 (some .ret) ck)) (R1 none cf)) (aft (λD cl=>bB .add 3 bm (i 1) λcm=>K3 (lf (D::(zW ds))) cm cl)
 (λD cn=>mD (D::(zW ds)) cn λco=>lA 31 b co λaxC=>lA 3 d co λaxD=>K (.tuple #[axC,axD]) co) λ_ _ _=>False)) (fA 27 p1 5 λcp=>lA 25 cp Y λcq=>
 lN 25 cq λcr=>jQ (λK4 cs ct=>∀_:Env,
 bA .lss 3 cs cr λcu=>cV cu (iA 25 cq cs λcv=>lA 85 cv ct λcw=>aL 85 ct λM cx=>sA 85 M cw cx λcy=>fA 85 M 0 λcz=>lA 82 cz cy λc0=>lN 82 c0 λc1=>
 jQ (λK5 c2 c3=>∀_:Env,
 bA .lss 3 c2 c1 λc4=>cV c4 (iA 82 c0 c2 λc5=>lA 164 c5 c3 λc6=>aL 164 c3 λZ c8=>sA 164 Z c6 c8 λU=>eR (λK6=>fA 164 Z 0 λda=>lA 3 da U λdb=>
 bB .eql 3 db (i 2) λdc=>cV dc (fA 164 Z 2 λdd=>lA 9 dd U λde=>J2 g6 (xY 165 j de false) U λdf=>bB .neq 3 df (i 1) λdg=>K6 dg U) (K6 ff U))
 (λdh di=>∀_:Env,
 cV dh (fA 164 Z 3 λdj=>lA 3 dj (drew di) λdk=>sA 31 b (i 9) (drew di) λdl=>kA 3 dj dk dl (sA 3 d dk dl λdm=>mD (zW ds) dm λdn=>lA 31 b dn λaxE=>lA 3 d dn λaxF=>
 K (.tuple #[axE,axF]) dn)) (bB .add 3 c2 (i 1) λdp=>K5 dp di))) (bB .add 3 cs (i 1) λdq=>K4 dq c3)) λK5=>K5 (i 0) cy) (sA 31 b (i 0) ct λdr=>sA 3 d (i 0) dr λdt=>
 mD (zW ds) dt λdu=>lA 31 b du λaxG=>lA 3 d du λaxH=>K (.tuple #[axG,axH]) du)) λK4=>K4 (i 0) Y)) λK3=>K3 (lf []) (i 0) bk)) λK2=>K2 (i 0) az)))
 λK1=>K1 (i 0) ac))
def P48:dH:=λi=>match i with
 | 20=>(.of [(0,[]),(1,[]),(2,[1]),(3,[])])
 | 29=>(.of [(0,[]),(1,[]),(2,[1]),(3,[])])
 | 38=>(.of [(0,[]),(1,[]),(2,[1]),(3,[])])
 | _=>.nil
theorem ajA(p0:Value)(h:S48 w K p0):CR 48 [p0] w K:=
 qu 128 P48 12 [.cell 2 31,.cell 3 3] Tryz.func48 h
theorem axI:PL 48:=dG Tryz.func48
theorem aqV:PL 114:=dG Tryz.func114
theorem aqW:PL 194:=dG Tryz.func194
end Go.Proofs.YtpdlpabnlkofmaaGreatDoor
namespace Go.Proofs.YtpdlpabnlkofmaaGreatDoor
open Go.Fw
def C194(M:Value)(ns:List Int)(s:Int)(w:World)(J:dz (λ_=>True) w M ns)(W:ns.length<=1048576):CR 194 [M,hH s] w (λv w'=>v=hH (rS (λy=>decide (y=s)) ns)/\Ext w w'):=by
 have u:=St.start w;refine eU Tryz.func194 ?_;refine aH cQ (J.ext u.aF) ?_;refine⟨λm x I=>∃k:Nat,x=hH (k:Int)/\m=ns.length-k/\k<=ns.length/\(∀y∈ns.take k,decide (y=s)=false)/\St w aY [] I,⟨_,0,rfl,rfl,kO _,ea,u⟩,?_⟩;rintro m _ I ⟨k,rfl,rfl,V,B,u⟩ _;refine aO (aC (λY=>?_) λ_=>⟨ez (mn .i64) (iT (by rw[kp bL]at B;exact B)).symm,u.aF⟩);obtain⟨U,E⟩:=gx ns (i:=(k:Int).toNat) bL;exact aM cQ J bL E (λ_ O=>aE bO (O.ext u.aF) (aG (aC (λG=>⟨ez (mn .i64) (lM B E (ei G.symm)).symm,u.aF⟩) λG=>aJ bL ⟨_,bL,k+1,rfl,rfl,bL,dS B E (ej λh=>G h.symm),u⟩)))
def C114(B:Value)(ns:List Int)(s:Int)(w:World)(E:dz (λ_=>True) w B ns)(G:ns.length<=1048576):CR 114 [B,hH s] w (λv w'=>v=.bool (ns.any λy=>decide (y=s))/\Ext w w'):=by
 have u:=St.start w;refine eU Tryz.func114 ?_;exact aS aqW u (C194 _ _ _ _ (E.ext u.aF) bL) (λ_ _ u=>cR ⟨vb (kD _ _),u.aF⟩)
def Zl{u:UU}{l:List bK}(h:u∈om l):u.2.2.length<=1048576:=by
 have:u.2.2.length<=2:=by
  unfold om at h
  obtain⟨x,_,h⟩:=List.mem_flatMap.1 h
  rw[B0]at h
  unfold sg tN BY Jn at h
  simp only[oi]at h
  grind
 omega
theorem C48(p:cE)(pv:bM)(w:World)(hp:mL w pv p)(V:PZ p):CR 48 [hM pv] w (λv w'=>∃a:Int,v=.tuple #[hH (fc p),hH a]/\Ext w w'):=by
 have Oe:=hp;have ai6:=Dk V.toPS;obtain⟨bH,bR,bI,aT,aU,bE,rfl,cO,dA,cW,cA,cB,cN⟩:=hp;obtain⟨O,YP,YQ⟩:=cA.open;obtain⟨U,Pz,hD4⟩:=cB.open;have hn3:=YQ.1;have hn4:=hD4.1;have hD:=YQ.append hD4;have axJ:=hD.1
 change (O++U).length=(gj p).length at axJ
 have E:=St.start w;refine ajA _ _ _ ?_;unfold S48;refine cJ E (λbp w1 E=>gW E ah7 rfl λb2 _ E=>gW E ue rfl λb3 _ E=>aE eN E.p2.At (dO aqK (C107 p _ _ (Lo Oe E.aF) V) ?_));rintro _ _ ⟨bm,rfl,cM⟩;have E:=E.made cM;refine aN rfl (aN rfl (aN rfl (aE eN E.p3.At (aS apb E (C108 p _ _ (Lo Oe E.aF) V) λ_ he E=>bP (aX (λc=>?_) λc=>?_)))))
 .have h1:j7 p=false:=by simpa using c
  have Z:fc p=8:=ce8 h1;exact aV E.p2 jx (dM rfl) rfl (λ_ E=>aV E.p2 bO (dM rfl) rfl λ_ E=>aB jx E.p1.hb rfl (aB bO E.hb rfl ⟨_,by rw[Z],E.aF⟩))
 have h1:j7 p=true:=by simpa using c
 refine aE eN E.p3.At (aS aqy E (C109 p _ _ (Lo Oe E.aF) V) λ_ he E=>aX (λc=>?_) λc=>?_)
 .have h2:uB p=true:=c;have Z:fc p=2:=ce2 h1 h2;exact aV E.p2 jx (dM rfl) rfl (λ_ E=>aV E.p2 bO (dM rfl) rfl λ_ E=>aB jx E.p1.hb rfl (aB bO E.hb rfl ⟨_,by rw[Z],E.aF⟩))
 have h2:uB p=false:=c;refine aE eN E.p3.At (ef SA E (C110 p _ O U _ (Lo Oe E.aF) (YP.ext E.aF) (Pz.ext E.aF) (by have:=V.threads;omega) (by have:=V.recover;omega)) λx38 w38 cM E=>aH fr E.dQ ?_);refine⟨λm x w1=>∃k:Nat,x=hH (k:Int)/\m=(O++U).length-k/\k<=(O++U).length/\(∀y∈(gj p).take k,qO y.body=false)/\St w aY [bF x38 (O++U),mZ bm (CD p).1,bZ b3 [hH 0],bZ b2 [hH 0],bZ bp (ia (⟨bH,bR,bI,aT,aU,bE⟩:bM))] w1,⟨_,0,rfl,rfl,kO _,ea,E⟩,?_⟩;rintro m _ _ ⟨k,rfl,rfl,hk,I,E⟩ _
 refine aO (aC (λc=>?_) λc=>?_)
 .obtain⟨t,ht⟩:=gx (O++U) (i:=((k:Nat):Int).toNat) bL;obtain⟨r,G⟩:=gx (gj p) (i:=k) bL;have J:=j0 G;have hrz:=V.qB J;have hrr:=(qi h1).qB J;obtain⟨gr,gb,rfl,dr,db⟩:=hD.2 _ _ _ ht G;have hrs:=kU hrr.2.1;refine aM fr E.dQ bL ht (λq hq=>aE mP hq (aQ E tc λbt wt E=>aK (x:=(⟨r.name,gr,gb,r.at_⟩:cD)) E mP rfl rfl λwu E=>?_));obtain⟨apU,hbf,tb,hbt,iS,_,_⟩:=hrs;have OD:tb.len<=40:=by rw[<- Bk.cY,<- hbt];exact apU
  have hwl:qO r.body=mj tb 1:=by rw[hbt];exact va iS
  refine aA lh (aB (v:=hM gb) jA E.hb rfl (dO ag3 (C111 _ tb 1 (tb.len+1) _ (by rw[<- hbt];exact DL.ext db E.aF) iS (by rw[<- hbt];exactλx hx=>I7 (hbf x hx)) bL bL (Nat.lt_succ_self _)) ?_));rintro _ _ ⟨aa,rfl,he⟩;have E:=E.ext he;refine aN rfl (aN rfl (aX (λc9=>?_) λc9=>?_))
  .have h3:(gj p).any (λt=>qO t.body)=true:=gZ G (by rw[hwl];exact c9);have Z:fc p=11:=apv h1 h2 h3;exact aV E.p4 jx (dM rfl) rfl (λ_ E=>aV E.p4 bO (dM rfl) rfl λ_ E=>aB jx E.p1.hb rfl (aB bO E.hb rfl ⟨_,by rw[Z],E.aF⟩))
  exact aJ bL (have E:=E.drop;⟨_,bL,k+1,rfl,rfl,bL,dS I G (by rw[hwl];exact c9),E⟩)
 have h3:(gj p).any (λt=>qO t.body)=false:=iq (by rw[kp bL]at I;exact I);have E:=E.drop;refine aX (λc10=>?_) (λc10=>?_)
 .have h4:j9 (fL p)=true:=by rw[<- Ze];exact c10
  have Z:fc p=10:=apw h1 h2 h3 h4;exact aV E.p2 jx (dM rfl) rfl (λ_ E=>aV E.p2 bO (dM rfl) rfl λ_ E=>aB jx E.p1.hb rfl (aB bO E.hb rfl ⟨_,by rw[Z],E.aF⟩))
 have h4:j9 (fL p)=false:=by rw[<- Ze];exact c10
 refine aE eN E.p3.At (ef SA E (C110 p _ O U _ (Lo Oe E.aF) (YP.ext E.aF) (Pz.ext E.aF) (by have:=V.threads;omega) (by have:=V.recover;omega)) λx56 _ cM E=>aH fr E.dQ ?_)
 clear I
 refine⟨λm x w1=>∃k:Nat,x=hH (k:Int)/\m=(O++U).length-k/\k<=(O++U).length/\(∀y∈(gj p).take k,uA p y.dN=false)/\St w aY [bF x56 (O++U),mZ bm (CD p).1,bZ b3 [hH 0],bZ b2 [hH 0],bZ bp (ia (⟨bH,bR,bI,aT,aU,bE⟩:bM))] w1,⟨_,0,rfl,rfl,kO _,ea,E⟩,?_⟩;rintro m _ _ ⟨k,rfl,rfl,hk,I,E⟩ _;refine aO (aC (λc=>?_) λc=>?_)
 .obtain⟨t,ht⟩:=gx (O++U) (i:=((k:Nat):Int).toNat) bL;obtain⟨r,G⟩:=gx (gj p) (i:=k) bL;have J:=j0 G;have hrz:=V.qB J;have hrr:=(qi h1).qB J;obtain⟨gr,gb,rfl,dr,db⟩:=hD.2 _ _ _ ht G;have hrs:=kU hrr.2.1;refine aM fr E.dQ bL ht (λq hq=>aE mP hq (aQ E tc λbt wt E=>aK (x:=(⟨r.name,gr,gb,r.at_⟩:cD)) E mP rfl rfl λwu E=>aE mP E.At (dO ag6 (C112 (⟨r.name,gr,gb,r.at_⟩:cD) r.dN bm (CD p).1 _ (DL.flat (DL.ext dr E.aF)) E.p2.mZ (PR p) bL) ?_)))
  rcases Jo h4 r.dN with⟨Bo,I8⟩|⟨g,Bo,I8,_⟩
  .rintro _ w24 (⟨_,rfl,he⟩|⟨g,bg,Ut,_⟩);rotate_left
   .rw[Bo]at Ut;cases Ut
   have E:=E.ext he;have h5:(gj p).any (λt=>uA p t.dN)=true:=gZ G I8;refine aN rfl (aN rfl (gN (aA pU (have E:=E.drew;aB (v:=hH r.at_) bO E.hb rfl ?_))));have Z:fc p=10:=agR h1 h2 h3 h4 h5;refine aV E.p4 jx (dM rfl) rfl (λwa E=>?_);refine⟨aI bO (E.p1.hb.cell rfl),?_⟩;exact aV E.p4 bO (dM rfl) rfl (λ_ E=>aB jx E.p1.hb rfl (aB bO E.hb rfl ⟨_,by rw[Z],E.aF⟩))
  rintro _ w24 (⟨Ut,_⟩|⟨g2,bg,Ut,rfl,cM⟩)
  .rw[Bo]at Ut;cases Ut
  have E:=(E.made cM).drop.drop;exact aN rfl (aN rfl (fa (aJ bL ⟨_,bL,k+1,rfl,rfl,bL,dS I G I8,E⟩)))
 have h5:(gj p).any (λt=>uA p t.dN)=false:=iq (by rw[kp bL]at I;exact I);have E:=E.drop;refine aE eN E.p3.At (ef SA E (C110 p _ O U _ (Lo Oe E.aF) (YP.ext E.aF) (Pz.ext E.aF) (by have:=V.threads;omega) (by have:=V.recover;omega)) λx73 _ cM E=>aH fr E.dQ ?_)
 clear I
 have E:=PO.nil E;refine⟨λm dv x w1=>∃(k:Nat) (ds:List Nat),dv=lf ds/\x=hH (k:Int)/\m=(O++U).length-k/\k<=(O++U).length/\(∀y∈(gj p).take k,y.body.any (mT p y.dN)=false)/\St w aY [PO ds,bF x73 (O++U),mZ bm (CD p).1,bZ b3 [hH 0],bZ b2 [hH 0],bZ bp (ia (⟨bH,bR,bI,aT,aU,bE⟩:bM))] w1,⟨_,0,[],rfl,rfl,rfl,kO _,ea,E⟩,?_⟩;rintro m _ _ _ ⟨k,ds,rfl,rfl,rfl,hk,I,E⟩ _;rw[Bu];refine aO (aC (λc=>?_) λc=>?_)
 .obtain⟨t,ht⟩:=gx (O++U) (i:=((k:Nat):Int).toNat) bL;obtain⟨r,G⟩:=gx (gj p) (i:=k) bL;have J:=j0 G;have hrz:=V.qB J;have hrr:=(qi h1).qB J;obtain⟨gr,gb,rfl,dr,db⟩:=hD.2 _ _ _ ht G;have hrs:=kU hrr.2.1;refine aM fr E.p1.dQ bL ht (λq hq=>aE mP hq (aQ E tc λbt wt E=>aK (x:=(⟨r.name,gr,gb,r.at_⟩:cD)) E mP rfl rfl λwu E=>?_))
  have h5r:uA p r.dN=false:=by
   cases hh:uA p r.dN with
   | false=>rfl
   | true=>exact absurd (gZ (g:=λt:cL=>uA p t.dN) G hh) (by rw[h5];decide)
  refine aE mP E.At (dO ag6 (C112 (⟨r.name,gr,gb,r.at_⟩:cD) r.dN bm (CD p).1 _ (DL.flat (DL.ext dr E.aF)) E.p3.mZ (PR p) bL) ?_)
  rcases Jo h4 r.dN with⟨_,I8⟩|⟨g,Bo,I8,_⟩
  .rw[I8]at h5r;cases h5r
  rintro _ w31 (⟨Ut,_⟩|⟨g2,bg,Ut,rfl,cM⟩)
  .rw[Bo]at Ut;cases Ut
  obtain rfl:g=g2:=n3.inj (Bo.symm.trans Ut);have E:=E.made cM;refine aN rfl (aN rfl (gW E RL rfl λb17 _ E=>aV E GQ (dM rfl) rfl λ_ E=>aA lh (aB (v:=hM gb) jA E.p2.hb rfl (dO aqN (C113 gb _) ?_))));rintro _ _ ⟨bu,rfl,aqY⟩;have E:=E.made aqY;have hbz:=hrz.1.2.2;have aqZ:=Zk h4 Bo hrs.2.1;obtain⟨tsb,hRb,hDb⟩:=db.open
  refine Y6 (cap:=[.pointer (some ⟨bu,0,none⟩)]) (om r.body).length (SE (om r.body)) aqO E
   (λj M=>(∀i,i<j->∀u,(om r.body)[i]?=some u->CX g u=false)/\M=[bZ bu [hM gb],bZ b17 [.map (some bg)],mZ bg g,bZ bt (ia (⟨r.name,gr,gb,r.at_⟩:cD)),PO ds,bF x73 (O++U),mZ bm (CD p).1,bZ b3 [hH 0],bZ b2 [hH 0],bZ bp (ia (⟨bH,bR,bI,aT,aU,bE⟩:bM))])
   (λcx M=>cx=.ret/\(om r.body).any (CX g)=true/\∃a L,M=bZ b3 [hH a]::bZ b2 [hH 9]::PO ds::L) ⟨λ_ hi=>absurd hi (Nat.not_lt_zero _),rfl⟩ (by rintro j a Φ ⟨u,s,_,rfl,_⟩;rfl) ?_ ?_ ?_ ?_ ?_ ?_
  .intro y Y Jx W h0 hy;refine(C192 y bu (hM gb) tsb r.body w aY _ Jx W bL (λx hx=>⟨(hbz x hx).2.2.1,(hbz x hx).2.2.2.1⟩) ?_ ?_ hy).mono λ_ _ rr=>rr.mono λv W' h=>?_
   .rintro j _ W2 ⟨M,⟨_,rfl⟩,rfl⟩ hs2;exact⟨hs2.p1.hb.cell rfl,hRb.ext hs2.aF,hDb.ext hs2.aF⟩
   .obtain⟨M,h1,h2⟩:=h0;exact⟨_,⟨M,h1,rfl⟩,h2⟩
   rcases h with⟨_,⟨M,h1,rfl⟩,h2⟩|h
   .exact .inl ⟨M,h1,h2⟩
   exact .inr h
  .rintro j args Φ Y1 Y2 B Kr M W ⟨u,s,hu,rfl,Uz⟩ ⟨hjn,rfl⟩ hΦ hB hN hR E;dsimp only[DU];refine aQ E acB (λb9 _ E=>aK (x:=(⟨u.1,u.2.1,s⟩:Jl)) E an8 rfl rfl λ_ E=>?_);refine hB _ _ _ E.p1 (λw38 E=>?_);refine aA WH (aB (v:=hM s) eP E.p1.hb rfl (aB GQ E.p3.hb rfl (aA WE (aB (v:=.string u.1) gn E.p1.hb rfl (xP E.p4.mZ Tryz.underlying165 Tryz.underlying9 ue ?_)))))
   have VI:dz (λ_=>True) w38 (hM s) u.2.2:=by
    obtain⟨F,h1,_⟩:=E.head;exact Uz _ (hΦ _ _ h1)
   have hul:u.2.2.length<=1048576:=Zl (j0 hu);refine aS aqV E (C114 _ u.2.2 (eC g u.1) _ VI hul) (λ_ he E=>bP (aX (λc11=>aA WG (have E:=E.drew;aB (v:=hH u.2.1) bO E.p1.hb rfl (have E:=E.p2.drop;aV E.p9 jx (dM rfl) rfl λ_ E=>⟨aI bO (E.p2.hb.cell rfl),aV E.p9 bO (dM rfl) rfl λ_ E=>hR .ret _ _ E.p7.p2.p2.p3 ⟨rfl,gZ hu (by unfold CX;exact c11),_,_,rfl⟩⟩))) λc11=>?_));refine hN _ _ E.p1.drop ⟨λi hi u2 hu2=>?_,rfl⟩
   rcases O7 i j with h|h
   .exact hjn i h u2 hu2
   obtain rfl:i=j:=bL
   rw[hu]at hu2;cases hu2
   unfold CX;exact c11
  .rintro D M W ⟨hjn,rfl⟩ E;refine aJ bL ?_;have E:=St.join (H1:=nq D (.deferred (some []))) E.p1.drop.p1.drop.p1.drop.p1.drop;refine⟨_,bL,k+1,D::ds,rfl,rfl,rfl,bL,dS I G ?_,E⟩;rw[<- aqZ];refine iq λu hu=>?_;obtain⟨i,hi⟩:=wA.1 hu;exact hjn i (ir.1 hi).1 u hi
  .rintro D M W ⟨_,axM,a,L,rfl⟩ E;have h6:(gj p).any (λt=>t.body.any (mT p t.dN))=true:=gZ G (by rw[<- aqZ];exact axM);have Z:fc p=9:=ce9 h1 h2 h3 h4 h5 h6;have E:=St.join (H1:=nq D (.deferred (some []))) E.p3.p1;refine PO.take (D::ds) E (λ_ E=>?_);exact aB jx E.p1.hb rfl (aB bO E.hb rfl ⟨_,by rw[Z],E.aF⟩)
  .rintro id D M W ⟨h,_⟩;cases h
  rintro cx M ⟨h,_⟩;exact .inr h
 have h6:(gj p).any (λt=>t.body.any (mT p t.dN))=false:=iq (by rw[kp bL]at I;exact I);have E:=E.p1.drop;have hzc:=V.dX;obtain⟨ts5,hR5,hD5⟩:=cN.open;have Dr:=hD5.1;refine aA jR (aB (v:=hM bE) sL E.p4.hb rfl (aH uf (hR5.ext E.aF) ?_))
 clear I
 refine⟨λm x w1=>∃k:Nat,x=hH (k:Int)/\m=ts5.length-k/\k<=ts5.length/\(∀y∈p.dX.take k,oP y.e (iu p)=false)/\St w aY [PO ds,mZ bm (CD p).1,bZ b3 [hH 0],bZ b2 [hH 0],bZ bp (ia (⟨bH,bR,bI,aT,aU,bE⟩:bM))] w1,⟨_,0,rfl,rfl,kO _,ea,E⟩,?_⟩;rintro m _ _ ⟨k2,rfl,rfl,u9,I,E⟩ _;refine aO (aC (λc12=>?_) λc12=>?_)
 .obtain⟨t,ht⟩:=gx ts5 (i:=((k2:Nat):Int).toNat) bL;obtain⟨r,G⟩:=gx p.dX (i:=k2) bL;have hrz:=V.zc r (j0 G);obtain⟨ge,rfl,de⟩:=hD5.2 _ _ _ ht G;have dE:=DL.flat de;refine aM uf (hR5.ext E.aF) bL ht (λq hq=>aE ID hq (aQ E OG λbc _ E=>aK (x:=(⟨ge,r.at_⟩:jl)) E ID rfl rfl λ_ E=>aA xF (aB (v:=hM ge) jy E.hb rfl (aH gV (dE.ext E.aF) ?_))));have hvc:=PW h4 r.e;refine⟨λm x w1=>∃j:Nat,x=hH (j:Int)/\m=r.e.length-j/\j<=r.e.length/\(∀y∈r.e.take j,(decide (y.op=2)&&decide (¬ eC (CD p).1 y.name=1))=false)/\St w aY [bZ bc (ia (⟨ge,r.at_⟩:jl)),PO ds,mZ bm (CD p).1,bZ b3 [hH 0],bZ b2 [hH 0],bZ bp (ia (⟨bH,bR,bI,aT,aU,bE⟩:bM))] w1,⟨_,0,rfl,rfl,kO _,ea,E⟩,?_⟩
  rintro m _ _ ⟨j,rfl,rfl,hj,hnj,E⟩ _;refine aO (aC (λc13=>?_) λc13=>?_)
  .obtain⟨y,hy⟩:=gx r.e (i:=((j:Nat):Int).toNat) bL;refine aM gV (dE.ext E.aF) bL hy (λq hq=>aE rI hq (aQ E xH λby_ _ E=>aK (x:=y) E rI rfl rfl λw50 E=>?_));refine⟨λjv w'=>jv=.bool (decide (y.op=2)&&decide (¬ eC (CD p).1 y.name=1))/\w'=w50,?_,?_⟩
   .exact aA eX (aB (v:=hH y.op) bO E.hb rfl (aG (aC (λc14=>aA gh (aB (v:=.string y.name) gn E.hb rfl (xP E.p3.mZ Tryz.underlying165 Tryz.underlying9 ue (bT ⟨vb (by rw[ei c14,Av]),rfl⟩)))) λc14=>⟨vb (by rw[ej c14,Zm]),rfl⟩)))
   rintro _ _ ⟨rfl,rfl⟩ _;refine aX (λc15=>?_) (λc15=>aJ bL ⟨_,bL,j+1,rfl,rfl,bL,dS hnj hy c15,E.drop⟩);have h7:p.dX.any (λc=>oP c.e (iu p))=true:=gZ G (by rw[<- hvc];exact gZ hy c15);have Z:fc p=9:=apx h1 h2 h3 h4 h5 h6 h7;refine aA rJ (have E:=E.drew;aB (v:=hH y.at_) bO E.hb rfl (aV E.p5 jx (dM rfl) rfl λwa E=>?_));refine⟨aI bO (E.p1.hb.cell rfl),?_⟩;refine aV E.p5 bO (dM rfl) rfl (λwb E=>?_);refine PO.take ds E.p4 (λw54 E=>?_);exact aB jx E.p1.hb rfl (aB bO E.hb rfl ⟨_,by rw[Z],E.aF⟩)
  refine aJ bL ?_;refine⟨_,bL,k2+1,rfl,rfl,bL,dS I G ?_,E.drop⟩;rw[<- hvc];exact iq (by rw[kp bL]at hnj;exact hnj)
 have h7:p.dX.any (λc=>oP c.e (iu p))=false:=iq (by rw[kp bL]at I;exact I);have Z:fc p=0:=ce0 h1 h2 h3 h4 h5 h6 h7;refine aV E.p3 jx (dM rfl) rfl (λwa E=>aV E.p3 bO (dM rfl) rfl λwb E=>?_);refine PO.take ds E.p2 (λw54 E=>?_);exact aB jx E.p1.hb rfl (aB bO E.hb rfl ⟨_,by rw[Z],E.aF⟩)
def C83(B:Value)(xs:List Int)(w:World)(G:dz (λ_=>True) w B xs)(U:xs.length<=1000000):CR 83 [B] w (λv w'=>kZ (bF v xs) w w'):=by
 have u:=St.start w;refine eU Tryz.func83 ?_;refine T4 Tryz.underlying41 (G.ext u.aF) (λp J=>aX (λE=>?_) λE=>?_)
 .have I:=J E;subst I;exact(u.eW (α:=Int)).fresh
 refine aW ([]:List Int) u cQ rfl rfl (dM rfl) (λO _ u=>?_);have M:=(G.ext u.aF);exact bJ u cQ M (by simp;omega) cZ (λ_ _ u=>u.fresh)
def jN(x y:bG):Bool:=decide (x.kind≠7/\y.kind≠7/\(x.kind=6\/y.kind=6)/\x.line≠y.line)
def right(x:bG):Bool:=decide ((x.kind=3/\0<=x.line/\0<=x.cell)\/((x.kind=5\/x.kind=6)/\0<=x.line/\x.cell=0/\x.n=0)\/(x.kind=7/\x.line=0/\x.cell=0/\x.n=0))
def C260(x y:bG)(w:World):CR 260 [hM x,hM y] w (λv w'=>v=.bool (jN x y)/\Ext w w'):=by
 have u:=St.start w;refine eU Tryz.func260 ?_;refine cJ u (λU _ u=>cJ u λM _ u=>?_);refine⟨_,?_,λ_ _ h=>h⟩;refine aA gE (aB bO u.p1.hb rfl (aG (aC (λJ=>?_) λJ=>?_)))
 .intro E;refine⟨_,?_,λ_ _ h=>h⟩;refine bP (fa ?_);intro B;refine⟨vb ?_,u.aF⟩;unfold jN
  first|exact(ei bL).symm|exact(ej bL).symm|exact ew.2 bL|exact ew.2 (bG.ext_iff.trans (by dsimp only;omega))
 refine aA gE (aB bO u.hb rfl (aG ?_));intro E;refine⟨_,?_,λ_ _ h=>h⟩
 first|refine KC ?_|refine bP ?_
 refine aC (λO=>aA gE (aB bO u.p1.hb rfl (aG (aC (λG=>?_) λG=>aA gE (aB bO u.hb rfl (aG (aC (λI=>?_) λI=>?_))))))) (λO=>?_)
 .refine aA gX (aB bO u.p1.hb rfl (aA gX (aB bO u.hb rfl (bT ?_))));intro B;refine⟨vb ?_,u.aF⟩;unfold jN
  first|exact(ei bL).symm|exact(ej bL).symm|exact ew.2 bL|exact ew.2 (bG.ext_iff.trans (by dsimp only;omega))
 .refine aA gX (aB bO u.p1.hb rfl (aA gX (aB bO u.hb rfl (bT ?_))));intro B;refine⟨vb ?_,u.aF⟩;unfold jN
  first|exact(ei bL).symm|exact(ej bL).symm|exact ew.2 bL|exact ew.2 (bG.ext_iff.trans (by dsimp only;omega))
 .intro B;refine⟨vb ?_,u.aF⟩;unfold jN
  first|exact(ei bL).symm|exact(ej bL).symm|exact ew.2 bL|exact ew.2 (bG.ext_iff.trans (by dsimp only;omega))
 intro B;refine⟨vb ?_,u.aF⟩;unfold jN
 first|exact(ei bL).symm|exact(ej bL).symm|exact ew.2 bL|exact ew.2 (bG.ext_iff.trans (by dsimp only;omega))
def C222(x y:bG)(w:World):CR 222 [hM x,hM y] w (λv w'=>v=.bool (jN x y)/\Ext w w'):=by
 have u:=St.start w;refine eU Tryz.func222 ?_;refine cJ u (λU _ u=>cJ u λE _ u=>?_);refine⟨_,?_,λ_ _ h=>h⟩;refine aA gE (aB bO u.p1.hb rfl (aG (aC (λJ=>?_) λJ=>aA gE (aB bO u.hb rfl (aG (aC (λI=>?_) λI=>?_))))))
 .intro B;refine gN ?_;refine⟨vb ?_,u.aF⟩;unfold jN
  first|exact(ei bL).symm|exact(ej bL).symm|exact ew.2 bL|exact ew.2 (bG.ext_iff.trans (by dsimp only;omega))
 .intro B;refine gN ?_;refine⟨vb ?_,u.aF⟩;unfold jN
  first|exact(ei bL).symm|exact(ej bL).symm|exact ew.2 bL|exact ew.2 (bG.ext_iff.trans (by dsimp only;omega))
 refine aA gX (aB bO u.p1.hb rfl (aA gX (aB bO u.hb rfl (aG ?_))));intro B;refine aC (λG=>?_) (λG=>⟨_,aA gE (aB bO u.p1.hb rfl (aG (aC (λO=>?_) λO=>?_))),λ_ _ h=>h⟩)
 .refine⟨vb ?_,u.aF⟩;unfold jN
  first|exact(ei bL).symm|exact(ej bL).symm|exact ew.2 bL|exact ew.2 (bG.ext_iff.trans (by dsimp only;omega))
 .intro M;refine⟨vb ?_,u.aF⟩;unfold jN
  first|exact(ei bL).symm|exact(ej bL).symm|exact ew.2 bL|exact ew.2 (bG.ext_iff.trans (by dsimp only;omega))
 refine aA gE (aB bO u.hb rfl (aG ?_));intro M;refine⟨vb ?_,u.aF⟩;unfold jN
 first|exact(ei bL).symm|exact(ej bL).symm|exact ew.2 bL|exact ew.2 (bG.ext_iff.trans (by dsimp only;omega))
def eqE(x y:bG):ud (ia x) (ia y)=decide (x=y):=by
 obtain⟨a,b,c,d⟩:=x
 obtain⟨u,b2,E,B⟩:=y
 simp[ia,ud,eqV,IV]
def C228(x:bG)(w:World):CR 228 [hM x] w (λv w'=>v=.bool (right x)/\Ext w w'):=by
 have u:=St.start w;refine eU Tryz.func228 ?_;refine cJ u (λW _ u=>aA gE (aB bO u.hb rfl (aG (aC (λV=>⟨_,aA gX (aB bO u.hb rfl (cR (aC (λM=>?_) λM=>?_))),λ_ _ h=>h⟩) λV=>⟨_,aG (aC (λU=>?_) λU=>?_),λ_ _ h=>h⟩))))
 .refine aA l4 (aB bO u.hb rfl (cR ?_));intro J;refine⟨vb ?_,u.aF⟩;unfold right
  first|exact(ei bL).symm|exact(ej bL).symm|exact ew.2 bL|exact ew.2 (bG.ext_iff.trans (by dsimp only;omega))
 .intro J;refine⟨vb ?_,u.aF⟩;unfold right
  first|exact(ei bL).symm|exact(ej bL).symm|exact ew.2 bL|exact ew.2 (bG.ext_iff.trans (by dsimp only;omega))
 .intro O;refine aC (λI=>⟨_,aA gX (aB bO u.hb rfl (cR (aC (λG=>aA l4 (aB bO u.hb rfl (aG (aC (λE=>?_) λE=>?_)))) λG=>?_))),λ_ _ h=>h⟩) (λI=>?_)
  .refine aA oF (aB bO u.hb rfl (aG ?_));intro B;refine⟨vb ?_,u.aF⟩;unfold right
   first|exact(ei bL).symm|exact(ej bL).symm|exact ew.2 bL|exact ew.2 (bG.ext_iff.trans (by dsimp only;omega))
  .intro B;refine⟨vb ?_,u.aF⟩;unfold right
   first|exact(ei bL).symm|exact(ej bL).symm|exact ew.2 bL|exact ew.2 (bG.ext_iff.trans (by dsimp only;omega))
  .intro B;refine⟨vb ?_,u.aF⟩;unfold right
   first|exact(ei bL).symm|exact(ej bL).symm|exact ew.2 bL|exact ew.2 (bG.ext_iff.trans (by dsimp only;omega))
  refine aE ij u.At (pop (Aj _) (GN WY rfl rfl (eqE x ⟨7,0,0,0⟩) ?_));refine⟨vb ?_,u.aF⟩;unfold right
  first|exact(ei bL).symm|exact(ej bL).symm|exact ew.2 bL|exact ew.2 (bG.ext_iff.trans (by dsimp only;omega))
 refine aG ?_;intro O;refine aC (λI=>⟨_,aA gX (aB bO u.hb rfl (cR (aC (λG=>aA l4 (aB bO u.hb rfl (aG (aC (λE=>?_) λE=>?_)))) λG=>?_))),λ_ _ h=>h⟩) (λI=>?_)
 .refine aA oF (aB bO u.hb rfl (aG ?_));intro B;refine⟨vb ?_,u.aF⟩;unfold right
  first|exact(ei bL).symm|exact(ej bL).symm|exact ew.2 bL|exact ew.2 (bG.ext_iff.trans (by dsimp only;omega))
 .intro B;refine⟨vb ?_,u.aF⟩;unfold right
  first|exact(ei bL).symm|exact(ej bL).symm|exact ew.2 bL|exact ew.2 (bG.ext_iff.trans (by dsimp only;omega))
 .intro B;refine⟨vb ?_,u.aF⟩;unfold right
  first|exact(ei bL).symm|exact(ej bL).symm|exact ew.2 bL|exact ew.2 (bG.ext_iff.trans (by dsimp only;omega))
 refine aE ij u.At (pop (Aj _) (GN WY rfl rfl (eqE x ⟨7,0,0,0⟩) ?_));refine⟨vb ?_,u.aF⟩;unfold right
 first|exact(ei bL).symm|exact(ej bL).symm|exact ew.2 bL|exact ew.2 (bG.ext_iff.trans (by dsimp only;omega))
def C277(x:bG)(w:World):CR 277 [hM x] w (λv w'=>v=.bool (right x)/\Ext w w'):=by
 have u:=St.start w;refine eU Tryz.func277 ?_;refine cJ u (λzb _ u=>aA gE (aB bO u.hb rfl (aG (aC (λJ=>⟨_,aA gX (aB bO u.hb rfl (cR (aC (λY=>?_) λY=>?_))),λ_ _ h=>h⟩) λJ=>⟨_,aA l4 (aB bO u.hb rfl (bT (aC (λdP=>?_) λdP=>?_))),λ_ _ h=>h⟩))))
 .refine aA l4 (aB bO u.hb rfl (cR ?_));intro qy;refine⟨vb ?_,u.aF⟩;unfold right
  first|exact(ei bL).symm|exact(ej bL).symm|exact ew.2 bL|exact ew.2 (bG.ext_iff.trans (by dsimp only;omega))
 .intro qy;refine⟨vb ?_,u.aF⟩;unfold right
  first|exact(ei bL).symm|exact(ej bL).symm|exact ew.2 bL|exact ew.2 (bG.ext_iff.trans (by dsimp only;omega))
 .intro O;refine gN ?_;refine⟨vb ?_,u.aF⟩;unfold right
  first|exact(ei bL).symm|exact(ej bL).symm|exact ew.2 bL|exact ew.2 (bG.ext_iff.trans (by dsimp only;omega))
 refine aA oF (aB bO u.hb rfl (bT ?_));intro O;refine aC (λV=>?_) (λV=>⟨_,aA gE (aB bO u.hb rfl (aG (aC (λW=>aA gX (aB bO u.hb rfl (cR (aC (λZ=>?_) λZ=>aA gE (aB bO u.hb rfl (aG (aC (λU=>?_) λU=>?_))))))) λW=>?_))),λ_ _ h=>h⟩)
 .refine⟨vb ?_,u.aF⟩;unfold right
  first|exact(ei bL).symm|exact(ej bL).symm|exact ew.2 bL|exact ew.2 (bG.ext_iff.trans (by dsimp only;omega))
 .intro B;refine⟨vb ?_,u.aF⟩;unfold right
  first|exact(ei bL).symm|exact(ej bL).symm|exact ew.2 bL|exact ew.2 (bG.ext_iff.trans (by dsimp only;omega))
 .refine aA gX (aB bO u.hb rfl (aG ?_));intro B;refine⟨vb ?_,u.aF⟩;unfold right
  first|exact(ei bL).symm|exact(ej bL).symm|exact ew.2 bL|exact ew.2 (bG.ext_iff.trans (by dsimp only;omega))
 .intro B;refine⟨vb ?_,u.aF⟩;unfold right
  first|exact(ei bL).symm|exact(ej bL).symm|exact ew.2 bL|exact ew.2 (bG.ext_iff.trans (by dsimp only;omega))
 refine aA gE (aB bO u.hb rfl (aG (aC (λM=>aA gX (aB bO u.hb rfl (cR (aC (λE=>?_) λE=>aA gE (aB bO u.hb rfl (aG (aC (λI=>?_) λI=>?_))))))) λM=>aA gE (aB bO u.hb rfl (aG (aC (λG=>?_) λG=>?_))))))
 .intro B;refine⟨vb ?_,u.aF⟩;unfold right
  first|exact(ei bL).symm|exact(ej bL).symm|exact ew.2 bL|exact ew.2 (bG.ext_iff.trans (by dsimp only;omega))
 .refine aA gX (aB bO u.hb rfl (aG ?_));intro B;refine⟨vb ?_,u.aF⟩;unfold right
  first|exact(ei bL).symm|exact(ej bL).symm|exact ew.2 bL|exact ew.2 (bG.ext_iff.trans (by dsimp only;omega))
 .intro B;refine⟨vb ?_,u.aF⟩;unfold right
  first|exact(ei bL).symm|exact(ej bL).symm|exact ew.2 bL|exact ew.2 (bG.ext_iff.trans (by dsimp only;omega))
 .refine aA gX (aB bO u.hb rfl (aG ?_));intro B;refine⟨vb ?_,u.aF⟩;unfold right
  first|exact(ei bL).symm|exact(ej bL).symm|exact ew.2 bL|exact ew.2 (bG.ext_iff.trans (by dsimp only;omega))
 intro B;refine⟨vb ?_,u.aF⟩;unfold right
 first|exact(ei bL).symm|exact(ej bL).symm|exact ew.2 bL|exact ew.2 (bG.ext_iff.trans (by dsimp only;omega))
def q8(l:List bG)(i:Int):Bool:=decide (0<=i/\i<l.length)&&(match l[i.toNat]? with|some x=>(l.take i.toNat).all (jN x)|none=>false)
def o8(l:List bG):List Int:=((v7 l.length).map fun (k:Nat)=>(k:Int)).filter (q8 l)
theorem lF{l:List bG}{i:Int}(h:i<0\/(l.length:Int)<=i):q8 l i=false:=by
 grind[q8]
theorem SK{l:List bG}{i:Int}{x:bG}(B:0<=i)(h1:i<l.length)(u:l[i.toNat]?=some x):q8 l i = !(l.take i.toNat).any λy=>!jN x y:=by
 grind[q8,jN]
def si(l:List bG)(k:Nat):List Int:=((v7 k).map fun (k:Nat)=>(k:Int)).filter (q8 l)
def Hh(l:List bG)(k:Nat):(si l k).length<=k:=by
 grind[si]
theorem Fb{l:List bG}{k:Nat}(h:q8 l k=true):si l (k+1)=si l k++[(k:Int)]:=by
 unfold si;rw[F1,u1,yf];simp[h]
theorem Hi{l:List bG}{k:Nat}(h:q8 l k=false):si l (k+1)=si l k:=by
 unfold si;rw[F1,u1,yf];simp[h]
theorem Fc(l:List bG){k:Nat}(h:k=l.length):si l k=o8 l:=by subst h;rfl
def tO(w:World)(p:Nat)(room:Int)(l:List bG):Prop:=∃u,Cell w p 0 (hH room)/\Cell w p 1 u/\dz (λ_=>True) w u l
def iX(p:Nat)(room:Int)(l:List bG):HP:=pZ λu=>sep (bZ p [hH room,u]) (bF u l)
theorem tO.ext{w w':World}{p:Nat}{room:Int}{l:List bG}(h:tO w p room l)(e:Ext w w'):tO w' p room l:=by
 obtain⟨u,h1,h2,h3⟩:=h;exact⟨u,h1.ext e,h2.ext e,h3.ext e⟩
def iX.rd{w:World}{F:Nat->Prop}{p:Nat}{room:Int}{l:List bG}(h:(iX p room l).p w F):tO w p room l:=by
 obtain⟨u,E,B,h1,h2,_⟩:=h
 exact⟨u,h1.1.cell rfl,h1.1.cell rfl,(bF.rd h2).mono λ_ _=>trivial⟩
def C297(M fv:Value)(xs:List bG)(g:bG->Bool)(w:World)(J:dz (λ_=>True) w M xs)(Y:vM w fv g)(hn:xs.length<=1073741824):CR 297 [M,fv] w (λv w'=>v=hH (rS g xs)/\Ext w w'):=by
 obtain⟨g0,first,cap,rfl,W,V⟩:=Y;have u:=St.start w;refine eU Tryz.func297 ?_;refine aH fS (J.ext u.aF) ?_;refine⟨λm x E=>∃k:Nat,x=hH (k:Int)/\m=xs.length-k/\k<=xs.length/\(∀y∈xs.take k,g y=false)/\St w aY [] E,⟨_,0,rfl,rfl,kO _,ea,u⟩,?_⟩;rintro m _ E ⟨k,rfl,rfl,hk,B,u⟩ _;refine aO (aC (λje=>?_) λ_=>⟨ez (mn .i64) (iT (by rw[kp bL]at B;exact B)).symm,u.aF⟩);obtain⟨O,G⟩:=gx xs (i:=(k:Int).toNat) bL;refine aM fS (J.ext u.aF) bL G (λ_ U=>aE ij U (gS W (V O E u.aF) ?_))
 rintro _ _ ⟨rfl,Z⟩;have u:=u.ext Z;exact aX (λI=>⟨ez (mn .i64) (lM B G I).symm,u.aF⟩) (λI=>aJ bL ⟨xs.length-(k+1),bL,k+1,rfl,rfl,bL,dS B G I,u⟩)
def C261(B fv:Value)(xs:List bG)(g:bG->Bool)(w:World)(G:dz (λ_=>True) w B xs)(E:vM w fv g)(I:xs.length<=1073741824):CR 261 [B,fv] w (λv w'=>v=.bool (xs.any g)/\Ext w w'):=by
 have u:=St.start w;refine eU Tryz.func261 ?_;exact aS anH u (C297 _ _ _ _ _ (G.ext u.aF) (E.ext u.aF) bL) (λ_ _ u=>cR ⟨vb (kD _ _),u.aF⟩)
def C259(x y:bG)(p b2 b3:Nat)(i:Int)(room:Int)(l:List bG)(w:World)(h2:Cell w b2 0 (.pointer (some ⟨p,0,none⟩)))(h3:Cell w b3 0 (hH i))(hb:tO w p room l)(E:0<=i)(B:l[i.toNat]?=some x):CR 259 [hM y,.pointer (some ⟨b2,0,none⟩),.pointer (some ⟨b3,0,none⟩)] w (λv w'=>v=.bool (!jN x y)/\Ext w w'):=by
 obtain⟨U,O,G,I⟩:=hb;have M:=(ir.1 B).1;have u:=St.start w;refine pJ Tryz.func259 (pl:=avq) ?_;exact cJ u (λ_ _ u=>have u:=u.drew;bU z9 (h2.ext u.aF) (aD (aA ky (bU iM (G.ext u.aF) (bU bO (h3.ext u.aF) (aM fS (I.ext u.aF) E B λ_ J=>aE ij J (aE ij u.At (aS ant u (C260 x y _) λ_ _ u=>bP ⟨rfl,u.aF⟩))))))))
def C216(p:Nat)(i:Int)(room:Int)(l:List bG)(w:World)(hb:tO w p room l)(hn:l.length<=1073741824):CR 216 [.pointer (some ⟨p,0,none⟩),hH i] w (λv w'=>v=.bool (q8 l i)/\Ext w w'):=by
 have W:=hb;obtain⟨sv,CQ,O,U⟩:=hb;have u:=St.start w;refine pJ Tryz.func216 (pl:=avj) ?_;refine nd u rfl (λE J u=>nd u rfl λB _ u=>?_);refine⟨_,?_,λ_ _ h=>h⟩;have u:=u.drew;refine aB bO u.hb rfl (aO (aC (λgP=>?_) λgP=>?_))
 .intro Y;exact gN ⟨vb (lF bL).symm,u.aF⟩
 refine aB bO u.hb rfl (aB z9 u.p1.hb rfl (aD (aA ky (bU iM (O.ext u.aF) (aH fS (U.ext u.aF) (cR ?_))))));intro Y;refine aC (λ_=>⟨vb (lF bL).symm,u.aF⟩) (λdP=>have u:=u.drew;aB z9 u.p1.hb rfl (aD (aA ky (bU iM (O.ext u.aF) (aB bO u.hb rfl (xC fS (U.ext u.aF) bL bL λV Z=>?_))))));obtain⟨x,M⟩:=gx l (i:=i.toNat) bL
 have I:vM _ (.func (.func 259) [].toArray [.pointer (some ⟨E,0,none⟩),.pointer (some ⟨B,0,none⟩)].toArray) (λy=>!jN x y):=
  ⟨259,[],_,rfl,ans,λy J G=>C259 x y p E B i room l J ((u.p1.hb.cell rfl).ext G) ((u.hb.cell rfl).ext G) ((W.ext u.aF).ext G) bL M⟩
 exact aS anu u (C261 _ _ _ _ _ Z I (by rw[lQ];omega)) (λ_ _ u=>bP ⟨vb (SK bL bL M).symm,u.aF⟩)
def C215(p:Nat)(room:Int)(l:List bG)(w:World)(hb:tO w p room l):CR 215 [.pointer (some ⟨p,0,none⟩)] w (λv w'=>v=.bool (decide (room<=l.length))/\Ext w w'):=by
 obtain⟨I,B,E,G⟩:=hb;have u:=St.start w;refine pJ Tryz.func215 (pl:=avi) ?_;exact aD (aA ky (have u:=u.drew;bU iM (E.ext u.aF) (aH fS (G.ext u.aF) (aD (aA WI (bU bO (B.ext u.aF) (cR ⟨rfl,u.aF⟩)))))))
def C139(p:Nat)(room:Int)(l:List bG)(w:World)(hb:tO w p room l)(Y:l.length<=1048576):CR 139 [.pointer (some ⟨p,0,none⟩)] w (λv w'=>kZ (bF v (o8 l)) w w'):=by
 have U:=hb;obtain⟨sv,Z,M,O⟩:=hb;have u:=St.start w;refine eU Tryz.func139 ?_;refine aD (aA ky (bU iM (M.ext u.aF) (aH fS (O.ext u.aF) ?_)));refine⟨λm o x E=>∃k:Nat,x=hH (k:Int)/\m=l.length-k/\k<=l.length/\St w aY [bF o (si l k)] E,⟨_,0,rfl,rfl,kO _,u.eW⟩,?_⟩;rintro m o _ E ⟨k,rfl,rfl,W,u⟩ _;have EO:=Hh l k;refine aO (aC (λJ=>⟨_,aS af1 u (C216 _ _ _ _ _ (U.ext u.aF) bL) (λ_ he u=>aX (λB=>?_) λB=>?_),λ_ _ h=>h⟩) λJ=>?_)
 .refine aW ([(k:Int)]:List Int) u cQ rfl rfl (dM rfl) (λXn _ u=>?_);have G:=u.dQ;refine bJ u.p1 cQ G (by simp<;>omega) cZ (λV _ u=>?_);have u:=u.p1.drop;intro I;exact aJ bL ⟨l.length-(k+1),bL,k+1,rfl,rfl,bL,by rw[Fb B];exact u⟩
 .intro I;exact aJ bL ⟨l.length-(k+1),bL,k+1,rfl,rfl,bL,by rw[Hi B];exact u⟩
 rw[Fc l bL]at u;exact u.fresh
def Mz(room:Int)(l:List bG)(x:bG):Int:=if right x=true then(if room<=l.length then 2 else 0)else 1
def sj(room:Int)(l:List bG)(x:bG):List bG:=if right x=true/\¬ room<=l.length then l++[x]else l
def dB(l:List bG)(i:Int):bG:=if q8 l i=true then(l[i.toNat]?).getD ⟨0,0,0,0⟩else⟨0,0,0,0⟩
def wV(l:List bG)(i:Int):Int:=if 0<=i/\i<l.length then(if q8 l i=true then 0 else 13)else 1
def jF(l:List bG)(i:Int):List bG:=if q8 l i=true then l.eraseIdx i.toNat else l
theorem aed{l:List bG}{i:Int}(h:q8 l i=true):0<=i/\i<l.length:=by
 unfold q8 at h;grind
def tO.mk'{w:World}{p:Nat}{room:Int}{u:Value}{l:List bG}(h1:qx w p [hH room,u])(h2:dz (λ_=>True) w u l):tO w p room l:=
 ⟨u,h1.cell rfl,h1.cell rfl,h2⟩
def iX.shut{w0 w:World}{A:Nat->Prop}{R:List HP}{p:Nat}{room:Int}{u:Value}{l:List bG}(B:St w0 A (bZ p [hH room,u]::bF u l::R) w):St w0 A (iX p room l::R) w:=
 St.er (H:=λu=>sep (bZ p [hH room,u]) (bF u l)) u (St.join B)
def Ds{w0 w:World}{A:Nat->Prop}{R:List HP}{p:Nat}{room:Int}{l:List bG}(u:St w0 A (iX p room l::R) w):tO w p room l:=by
 obtain⟨F,h,_⟩:=u.head;exact iX.rd h
def C224(v:Value)(i:Int)(xs:List bG)(F:Nat->Prop)(w:World)(hv:(bF v xs).p w F)(h0:0<=i)(hi:i<xs.length)(hn:xs.length<=1073741824) :
  CR 224 [v,hH i,hH (i+1)] w (λv' w'=>True/\mH F (bF v' (xs.eraseIdx i.toNat)) w w'):=by
 obtain⟨i,rfl⟩:=Int.eq_ofNat_of_zero_le h0;replace hi:i<xs.length:=bL
 rw[o6];have VI:=bF.rd hv;obtain⟨b,cap,rest,rfl,hb,B,J⟩:=rn hv hi;have hlen:(flat xs).length=xs.length*4:=dF xs;have By:xs.length<=cap:=B.1;replace B:=B.2
 change cap*4<=_ at B
 refine acb _ _ _ _ _ ?_;unfold S224;refine pop (Iv fS) (W0 fS bL bL bL bL λ_=>aG (aC (λc=>absurd c bL) λ_=>pop (Iv fS) ?_))
 have I:pr g6 (nn 179 (.slice (some ⟨b,0,none⟩) xs.length cap) none (some (hH (i:Int))) none)=some (.slice (some ⟨b,0,none⟩) i cap):=by
  rw[vZ fS (l:=0) (h:=i) (nV (.inl ⟨rfl,rfl⟩) (.inr ⟨_,rfl,bL,bL⟩) bL bL)];simp[gD]
 refine pop I (BA fS VI bL bL λs25 u=>?_);rw[show((i:Int)+1).toNat=i+1 from bL]at u;have O:(xs.drop (i+1)).length=xs.length-(i+1):=ea
 obtain⟨w1,W,b1,g1⟩:=Gg (P:=g6) (R:=179) (n:=i) (cap:=cap) fS (hb.of_eq (w':=drew w) rfl) (u.ext (Ext.drew w)) bL (by rw[kH,hlen,O];change i*4+(xs.length-(i+1))*4<=_;omega);rw[O,show i+(xs.length-(i+1))=xs.length-1 from bL]at W;refine⟨_,w1,W,?_⟩;refine pop (Iv fS) ?_
 have M:pr g6 (nn 179 (.slice (some ⟨b,0,none⟩) (xs.length-1) cap) (some (hH ((xs.length-1:Nat):Int))) (some (hH (xs.length:Int))) none)=some (.slice (some ⟨b,(xs.length-1)*4,none⟩) 1 (cap-(xs.length-1))):=by
  rw[vZ fS (l:=xs.length-1) (h:=xs.length) (nV (.inr ⟨_,rfl,bL,bL⟩) (.inr ⟨_,rfl,bL,bL⟩) bL bL),eb bL];simp[gD];omega
 refine pop M ?_;have hx:xs[i]?=some xs[i]:=by simp[hi]
 have Gd:=yS hx;have E:(flat (xs.take i)).length=i*4:=by rw[dF,lQ,Nat.min_eq_left bL];rfl
 have U:(flat (xs.drop (i+1))).length=(xs.length-(i+1))*4:=by rw[dF,O];rfl
 have V:(ia xs[i]).length=4:=rfl;have Z:(flat (po 1 (⟨0,0,0,0⟩:bG))).length=4:=rfl
 have s1:iV (flat xs++rest) (i*l1 bG) (flat (xs.drop (i+1))) =
   flat (xs.take i)++flat (xs.drop (i+1))++((ia xs[i]++flat (xs.drop (i+1))).drop (flat (xs.drop (i+1))).length++rest):=by
  have:=lX (flat (xs.take i)) ((ia xs[i]++flat (xs.drop (i+1))).take (flat (xs.drop (i+1))).length)
   ((ia xs[i]++flat (xs.drop (i+1))).drop (flat (xs.drop (i+1))).length++rest) (flat (xs.drop (i+1))) (by rw[lQ,kH];omega)
  rw[E]at this
  change iV (flat xs++rest) (i*4) _=_
  rw[<- this,Gd]
  have e0:∀(a b c d:List Value) (n:Nat),a++(b++c)++d=a++(b++c).take n++((b++c).drop n++d):=λa b c d n=>by
   rw[mX a ((b++c).take n),<- mX ((b++c).take n),o1,mX a]
  exact ez (λz=>iV z (i*4) (flat (xs.drop (i+1)))) (by first|exact e0 _ _ _ _ _|(rw[<- e0];simp only[mX])|(simp only[mX];rw[<- mX (List.take _ _),o1,mX]))
 rw[s1]at b1
 obtain⟨w2,r2,b2,g2⟩:=T0 (P:=g6) (R:=0) (o:=(xs.length-1)*4) (n:=1) (c:=cap-(xs.length-1)) (z:=(⟨0,0,0,0⟩:bG)) fS qY b1
  (by simp only[kH,pd,E,U,V];change _+1*4<=_;omega)
 refine⟨_,w2,r2,?_⟩
 have Y:=lX (flat (xs.take i)++flat (xs.drop (i+1))) ((ia xs[i]++flat (xs.drop (i+1))).drop (flat (xs.drop (i+1))).length) rest (flat (po 1 (⟨0,0,0,0⟩:bG)))
  (by rw[pd,kH,V,Z];omega)
 rw[show(flat (xs.take i)++flat (xs.drop (i+1))).length=(xs.length-1)*4 from by rw[kH,E,U];omega,mX _ _ rest]at Y;rw[Y]at b2;refine⟨trivial,F,.inr ⟨b,cap,flat (po 1 (⟨0,0,0,0⟩:bG))++rest,?_,?_,?_,J⟩,λ_ hb=>.inl hb,((Ext.drew w).aF (A:=F)).trans (g1.trans (C:=F) g2 (λk G=>(J k).2 G) λk _ G=>(J k).2 G) (λ_ h=>h) λ_ _ h=>h⟩
 .rw[RU hi]
 .rw[EJ,ig,<- mX];exact b2
 refine⟨by rw[RU hi];omega,?_⟩;rw[EJ,ig]
 change cap*4<=_
 rw[kH,hlen]at B;simp only[kH,E,U,Z];omega
def C223(I:Value)(xs:List bG)(w:World)(G:dz (λ_=>True) w I xs)(W:xs.length<=1073741824):CR 223 [I] w (λv w'=>kZ (bF v xs) w w'):=by
 have B:=G;obtain⟨a,cap,rfl,V,h3⟩:=G;have u:=St.start w;refine eU Tryz.func223 ?_;refine Wy (fq fS).1 (λO=>?_) ?_
 .rcases h3 with⟨h,hc⟩|⟨b,o,h,_⟩
  .exact⟨by rw[h];rfl,hc⟩
  rw[O]at h;cases h
 refine aX (λE=>?_) (λE=>?_)
 .have J:a=none:=by cases a with|none=>rfl|some _=>cases E
  have M:xs=[]:=by
   rcases h3 with⟨h,_⟩|⟨b,o,h,_⟩
   .exact h
   .rw[J]at h;cases h
  subst M;exact u.eW.fresh
 refine aW ([]:List bG) u fS rfl rfl (dM rfl) (λY _ u=>?_);have U:=(B.ext u.aF);exact bJ u fS U (by simp<;>omega) cZ (λ_ _ u=>u.fresh)
def C153(p:Nat)(room:Int)(l:List bG)(w:World)(hb:tO w p room l)(M:l.length<=1073741824):CR 153 [.pointer (some ⟨p,0,none⟩)] w (λv w'=>kZ (bF v l) w w'):=by
 obtain⟨I,J,B,G⟩:=hb;have u:=St.start w;refine eU Tryz.func153 ?_;refine aD (aA ky (bU iM (B.ext u.aF) (dO af2 (C223 _ _ _ (G.ext u.aF) bL) ?_)));rintro _ _ E;have u:=u.made E;exact u.fresh
theorem MA{room:Int}{l:List bG}{x:bG}(h:right x=false):Mz room l x=1:=by unfold Mz;rw[h];rfl
theorem MC{room:Int}{l:List bG}{x:bG}(h:right x=false):sj room l x=l:=by unfold sj;rw[h];rfl
theorem Hj{room:Int}{l:List bG}{x:bG}(h:right x=true)(u:room<=l.length):Mz room l x=2:=by grind[Mz]
theorem Hk{room:Int}{l:List bG}{x:bG}(u:room<=l.length):sj room l x=l:=by grind[sj]
theorem SL{room:Int}{l:List bG}{x:bG}(h:right x=true)(u:¬ room<=l.length):Mz room l x=0:=by grind[Mz]
theorem SM{room:Int}{l:List bG}{x:bG}(h:right x=true)(u:¬ room<=l.length):sj room l x=l++[x]:=by unfold sj;grind
def C162(p:Nat)(room:Int)(l:List bG)(x:bG)(F:Nat->Prop)(w:World)(I:(iX p room l).p w F)(U:l.length<=1048576):CR 162 [.pointer (some ⟨p,0,none⟩),hM x] w (λv w'=>v=hH (Mz room l x)/\mH F (iX p room (sj room l x)) w w'):=by
 have u:=St.begin I;obtain⟨W,u⟩:=u.ep;have u:=u.split;refine pJ Tryz.func162 (pl:=avb) ?_;refine cJ u (λM _ u=>aE ij u.At (aS anm u (C228 _ _) λ_ J u=>bP (aX (λB=>?_) λB=>aS af0 u (C215 _ _ _ _ (tO.mk' u.p1.hb u.p2.dQ)) λ_ J u=>aC (λE=>?_) λE=>?_)))
 .have u:=u.p2.p2;rw[MA (by simpa using B),MC (by simpa using B)];exact⟨rfl,(iX.shut u).mut⟩
 .have u:=u.p2.p2;rw[Hj (by simpa using B) E,Hk E];exact⟨rfl,(iX.shut u).mut⟩
 refine aD (aA ky (have u:=u.drew;aB iM u.p1.hb rfl (aE ij u.At (aW ([x]) u fS rfl rfl (dM rfl) λV _ u=>?_))));refine⟨aI iM (u.p2.hb.cell rfl),?_⟩;have G:=u.dQ;refine bJ u.p3 fS G (by simp<;>omega) cZ (λO _ u=>have u:=u.p1.drop;aD (aA ky (aV u.p2 iM (dM rfl) u.dQ.one λ_ u=>?_)));have u:=u.p1.p1;rw[SL (by simpa using B) E,SM (by simpa using B) E];exact⟨rfl,(iX.shut u).mut⟩
theorem ru{l:List bG}{i:Int}(h:q8 l i=false):dB l i=⟨0,0,0,0⟩:=by unfold dB;rw[h];rfl
theorem ry{l:List bG}{i:Int}(h:q8 l i=false):jF l i=l:=by unfold jF;rw[h];rfl
theorem xS{l:List bG}{i:Int}(h:i<0\/(l.length:Int)<=i):wV l i=1:=by unfold wV;omega
theorem MD{l:List bG}{i:Int}(u:0<=i/\i<l.length)(h:q8 l i=false):wV l i=13:=by unfold wV;grind
theorem ME{l:List bG}{i:Int}(h:q8 l i=true):wV l i=0:=by unfold wV;rw[ee (aed h),h];rfl
theorem MF{l:List bG}{i:Int}{x:bG}(h:q8 l i=true)(u:l[i.toNat]?=some x):dB l i=x:=by unfold dB;grind
theorem MG{l:List bG}{i:Int}(h:q8 l i=true):jF l i=l.eraseIdx i.toNat:=by unfold jF;rw[h];rfl
def C155(p:Nat)(room:Int)(l:List bG)(i:Int)(F:Nat->Prop)(w:World)(E:(iX p room l).p w F)(hn:l.length<=1048576):CR 155 [.pointer (some ⟨p,0,none⟩),hH i] w (λv w'=>v=.tuple #[hM (dB l i),hH (wV l i)]/\mH F (iX p room (jF l i)) w w'):=by
 have u:=St.begin E;obtain⟨sv,u⟩:=u.ep;have u:=u.split;refine eU Tryz.func155 ?_;refine aQ u qY (λOX _ u=>?_);refine⟨_,?_,λ_ _ h=>h⟩;refine aO (aC (λU=>?_) λU=>?_)
 .intro Y;refine gN (pop xI (aK (x:=(⟨0,0,0,0⟩:bG)) u ij rfl rfl λM u=>aE ij u.At ?_));have u:=u.p2.p2;rw[ru (lF bL),xS bL,ry (lF bL)];exact⟨rfl,(iX.shut u).mut⟩
 refine aD (aA ky (aB iM u.p1.hb rfl (aH fS u.p2.dQ (cR ?_))));intro Y;refine aC (λO=>?_) (λO=>aS af1 u (C216 _ _ _ _ _ (tO.mk' u.p1.hb u.p2.dQ) bL) λ_ he u=>bP (aX (λB=>?_) λB=>?_))
 .refine pop xI (aK (x:=(⟨0,0,0,0⟩:bG)) u ij rfl rfl λM u=>aE ij u.At ?_);have u:=u.p2.p2;rw[ru (lF bL),xS bL,ry (lF bL)];exact⟨rfl,(iX.shut u).mut⟩
 .refine pop xI (aK (x:=(⟨0,0,0,0⟩:bG)) u ij rfl rfl λ_ u=>aE ij u.At ?_);have u:=u.p2.p2;rw[ru (by simpa using B),MD bL (by simpa using B),ry (by simpa using B)];exact⟨rfl,(iX.shut u).mut⟩
 refine aD (aA ky (aB iM u.p1.hb rfl ?_));obtain⟨I,G⟩:=gx l (i:=(i).toNat) bL;refine dJ u.p2 fS bL bL (λ_ W=>fV u.p2 ij W G (aQ u qY λZ _ u=>aK (x:=I) u ij rfl rfl λ_ u=>aD (aA ky (aB iM u.p2.hb rfl (dO af2 (C223 _ _ _ u.p3.dQ bL) ?_)))));rintro _ _ J;have u:=u.made J;refine aJ bL (pM ank u (H':=λv=>bF v (l.eraseIdx i.toNat)) (Φ:=λ_ _=>True) (λF E=>?_) ?_)
 .exact C224 _ i _ F _ E bL bL bL
 rintro V _ _ u;refine aD (aA ky (aV u.p3 iM (dM rfl) u.dQ.one λ_ u=>aE ij u.p2.At (aK (x:=I) u.p3 ij rfl rfl λ_ u=>aE ij u.At ?_)));have u:=u.p2.p2;rw[MF (by simpa using B) G,ME (by simpa using B),MG (by simpa using B)];exact⟨rfl,(iX.shut u).mut⟩
end Go.Proofs.YtpdlpabnlkofmaaGreatDoor

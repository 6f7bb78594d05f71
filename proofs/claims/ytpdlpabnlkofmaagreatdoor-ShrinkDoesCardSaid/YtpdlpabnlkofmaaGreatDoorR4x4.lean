/-
  Part 4.
-/
import Derived.Test.YtpdlpabnlkofmaaGreatDoorR4x3
set_option maxHeartbeats 8000000
set_option linter.all false
set_option maxRecDepth 100000
open Go.Fw.Flat renaming val->ia,enc->j0,sz->mv
open ByteArray renaming mk->kp,size_extract->aa0
open List renaming getElem?_eq_some_iff->kE,mem_of_getElem?->kO,take_of_length_le->kW,getElem?_eq_getElem->la,length_append->lY,length_take->l0,length_singleton->mf,length_map->n0,append_assoc->n3,mem_map->oi,mem_cons_self->oD,getElem?_map->pd,mem_append->pI,take_append_drop->pJ,length_drop->qa,mem_cons_of_mem->qb,replicate->qW,mem_cons->sl,getElem?_append_right->sH,drop_drop->sW,nil_append->s4,getElem?_append_left->tx,range->uT,eraseIdx_eq_take_drop_succ->u4,map_append->vd,drop_eq_nil_of_le->vt,mem_singleton->vA,mem_of_mem_take->vB,any_eq_true->wY,mem_iff_getElem?->yj,filter_append->zp,map_congr_left->A4,nodup_cons->H5,range_succ->Ie,map_map->Ix,map_cons->J9,mem_range->K0,length_eraseIdx_of_lt->K9,flatMap_append->LB,mem_filter->MV,pairwise_iff_getElem->P3,any_cons->Rj,any_append->R5,pairwise_map->YO,any_nil->YR,nodup_append->Y5,take_length->Ze,getElem_mem->Zf
open Nat renaming zero_le->l1,le_refl->o1,le_of_eq->yQ,add_sub_cancel_left->Fg,add_assoc->L2,lt_or_ge->N7
open Go.Fw.Deep renaming dr->mG,ext->Kx
open Go.Value renaming int->nf
open Go.Instr renaming sliceAt->n4,mapUpdate->wQ,lookup->xi,box->zT,keyThatStays->MY
open Bool renaming and_eq_true->n5,not_eq_true'->sk,or_eq_true->wS,true_and->yk,eq_iff_iff->H4,false_and->P1,or_false->RG
open Option renaming some->oe,map_eq_some_iff->Gm
open Int renaming toNat_natCast->pQ,mul_le_mul->I2,add_comm->aa7
open Array renaming getElem?_eq_some_iff->Ct
open Prod renaming fst->WY
namespace Go.Proofs.YtpdlpabnlkofmaaGreatDoor
open Go.Fw
def oA(s:ByteArray):ByteArray:=s.extract 0 (min (s.size:Int) 40).toNat
def pP(s:ByteArray):(oA s).size<=40:=by
 unfold oA
 rw[aa0];omega
def adm(x:cA):cA:={x with name:=oA x.name}
def yv(l:List cA):List cA:=(l.take 60).map adm
def Sa(x:bQ):bQ:=⟨x.kind,oA x.eD,oA x.name,yv x.e,yv x.f,x.n,x.body,x.eu,x.at_⟩
def E3(l:List bQ):List bQ:=(l.take 50).map Sa
def adn(c:cJ):cJ:={c with name:=oA c.name}
def jE(l:List cJ):List cJ:=(l.take 8).map adn
def yP(t:cN):cN:=⟨oA t.name,(t.dP.take 6).map oA,E3 t.body,t.at_⟩
def kY(l:List cN):List cN:=(l.take 4).map yP
def E4(c:gP):gP:=⟨yv c.e,c.at_⟩
def xm(p:cE):cE:=⟨(p.lines.take 6).map jE,jE p.iO,jE p.eJ,kY p.threads,kY p.recover,(p.dS.take 6).map E4⟩
theorem qC{α:Type}{xs:List α}{k m:Nat}(h:k<=m)(h2:k<=xs.length)(h3:¬ (k<xs.length/\k<m)):xs.take k=xs.take m:=by
 grind
def E5(l:List cA):(yv l).length<=60:=by grind[yv]
def Jd(l:List cA):∀y∈yv l,y.name.size<=1048576:=by
 intro y u
 obtain⟨x,_,rfl⟩:=oi.1 u
 have:=pP x.name
 show(oA x.name).size<=_
 omega
def E6(l:List cJ):∀y∈jE l,y.name.size<=1048576:=by
 intro y u
 obtain⟨x,_,rfl⟩:=oi.1 u
 have:=pP x.name
 show(oA x.name).size<=_
 omega
def B0(l:List cJ):(jE l).length<=8:=by grind[jE]
def XY(l:List bQ):(E3 l).length<=50:=by grind[E3]
def E7(l:List cN):(kY l).length<=4:=by grind[kY]
def ado(l:List bQ):∀y∈E3 l,SzS y:=by
 intro y u
 obtain⟨x,_,rfl⟩:=oi.1 u
 have h1:=pP x.eD
 have h2:=pP x.name
 have h3:=E5 x.e
 have h4:=E5 x.f
 exact⟨by show(oA x.eD).size<=_;omega,by show(oA x.name).size<=_;omega,by show(yv x.e).length<=_;omega,by show(yv x.f).length<=_;omega,Jd _,Jd _⟩
def Pf(t:cN):(yP t).dP.length<=6:=by show((t.dP.take 6).map oA).length<=6;grind
def Hi(l:List cN):∀y∈kY l,W6 y/\y.dP.length<=500/\y.body.length<=500:=by
 intro y u
 obtain⟨x,_,rfl⟩:=oi.1 u
 have h1:=pP x.name
 have h2:=Pf x
 have h3:=XY x.body
 refine⟨⟨by show(oA x.name).size<=_;omega,λs B=>?_,ado _⟩,cK,by show(E3 x.body).length<=_;omega⟩
 obtain⟨z,_,rfl⟩:=oi.1 (show s∈(x.dP.take 6).map oA from B)
 have:=pP z
 omega
def Sb(p:cE):PZ (xm p):=by
 have u:(xm p).lines.length<=6:=by show((p.lines.take 6).map jE).length<=6;grind
 have hc:(xm p).dS.length<=6:=by show((p.dS.take 6).map E4).length<=6;grind
 have h1:=B0 p.iO
 have h2:=B0 p.eJ
 have h3:=E7 p.threads
 have h4:=E7 p.recover
 have Vp:∀t∈(xm p).threads++(xm p).recover,W6 t/\t.dP.length<=500/\t.body.length<=500:=by
  intro t ht
  rcases pI.1 ht with h|h
  .exact Hi _ t h
  .exact Hi _ t h
 refine {lines:=by omega,line:=λl h=>?_,iO:=by show(jE p.iO).length<=500;omega,eJ:=by show(jE p.eJ).length<=500;omega,threads:=by show(kY p.threads).length<=500;omega,recover:=by show(kY p.recover).length<=500;omega,dS:=by omega,dP:=λt ht=>(Vp t ht).2.1,body:=λt ht=>(Vp t ht).2.2,zl:=λl h c hc=>?_,zv:=E6 _,zk:=E6 _,zt:=λt ht=>(Vp t (List.mem_append_left _ ht)).1,zr:=λt ht=>(Vp t (List.mem_append_right _ ht)).1,zc:=λc h=>?_}
 .obtain⟨x,_,rfl⟩:=oi.1 (show l∈(p.lines.take 6).map jE from h)
  have:=B0 x;omega
 .obtain⟨x,_,rfl⟩:=oi.1 (show l∈(p.lines.take 6).map jE from h)
  exact E6 x c hc
 obtain⟨x,_,rfl⟩:=oi.1 (show c∈(p.dS.take 6).map E4 from h)
 have:=E5 x.e
 exact⟨by show(yv x.e).length<=_;omega,Jd _⟩
def C47(lv:Value)(xs:List cA)(w:World)(J:dA (λ_=>True) w lv xs):CR 47 [lv] w (λv w'=>lg (bH v (yv xs)) w w'):=by
 have u:=St.start w;refine eX Tryz.func47 ?_;refine aZ ([]:List cA) u gV rfl rfl (dL rfl) (λO I u=>?_);refine⟨λm E x I=>∃k:Nat,x=hZ (k:Int)/\m=60-k/\k<=60/\k<=xs.length/\St w bD [bH E ((xs.take k).map adm)] I,⟨_,0,rfl,rfl,cK,cK,u⟩,?_⟩;rintro m E _ _ ⟨k,rfl,rfl,hk,xf,u⟩ _;have W:((xs.take k).map adm).length=k:=by rw[n0,l0];omega
 refine⟨λjv w'=>jv=.bool (decide (k<xs.length/\k<60))/\St w bD [bH E ((xs.take k).map adm)] w',aK gV (J.ext u.aG) (aR (aC (λ_=>aR ⟨vb dD,u⟩) λ_=>⟨vb dD,u⟩)),?_⟩;rintro _ _ ⟨rfl,u⟩ _;refine aY (λG=>?_) (λG=>?_)
 .have V:k<xs.length/\k<60:=by simpa using G
  obtain⟨B,M⟩:=gx xs (i:=(k:Int).toNat) cK;refine aO gV J cK M (λ_ Z=>aD rZ (Z.ext u.aG) (aM u xX λI9 _ u=>aJ (x:=B) u rZ rfl rfl λ_ u=>aA gj (aB (v:=.string B.name) gv u.hb rfl (aA gj (aB (v:=.string B.name) gv u.hb rfl (fh ik (rA (nW ik cK cK (aA gj (aT u gv (dL rfl) (rfl) λ_ u=>?_))))))))));have u:=u.enc (cs':=j0 ({B with name:=(B.name.extract 0 (min (B.name.size:Int) 40).toNat)}:cA)) rfl;refine aD rZ u.At (aZ ([({B with name:=(B.name.extract 0 (min (B.name.size:Int) 40).toNat)}:cA)]) u gV rfl rfl (dL rfl) λU _ u=>?_)
  have Y:=u.dX;exact bJ u.p2 gV Y (by rw[W,mf];omega) ee (λ_ _ u=>have u:=u.p1.drop;aN cK (have u:=u.p1.drop;⟨_,cK,k+1,rfl,rfl,cK,cK,by rw[<- gd (k:=k) M];exact u⟩))
 rw[qC (xs:=xs) (k:=k) (m:=60) cK cK (g6 G)]at u;exact u.fresh
def C45(lv:Value)(xs:List cJ)(w:World)(J:dA (λ_=>True) w lv xs):CR 45 [lv] w (λv w'=>lg (bH v (jE xs)) w w'):=by
 have u:=St.start w;refine eX Tryz.func45 ?_;refine aZ ([]:List cJ) u il rfl rfl (dL rfl) (λO I u=>?_);refine⟨λm E x I=>∃k:Nat,x=hZ (k:Int)/\m=8-k/\k<=8/\k<=xs.length/\St w bD [bH E ((xs.take k).map adn)] I,⟨_,0,rfl,rfl,cK,cK,u⟩,?_⟩;rintro m E _ _ ⟨k,rfl,rfl,hk,xf,u⟩ _;have W:((xs.take k).map adn).length=k:=by rw[n0,l0];omega
 refine⟨λjv w'=>jv=.bool (decide (k<xs.length/\k<8))/\St w bD [bH E ((xs.take k).map adn)] w',aK il (J.ext u.aG) (aR (aC (λ_=>aR ⟨vb dD,u⟩) λ_=>⟨vb dD,u⟩)),?_⟩;rintro _ _ ⟨rfl,u⟩ _;refine aY (λG=>?_) (λG=>?_)
 .have V:k<xs.length/\k<8:=by simpa using G
  obtain⟨B,M⟩:=gx xs (i:=(k:Int).toNat) cK;refine aO il J cK M (λ_ lQ=>aD l9 (lQ.ext u.aG) (aM u oT λY _ u=>aJ (x:=B) u l9 rfl rfl λ_ u=>aA kP (aB (v:=.string B.name) gv u.hb rfl (aA kP (aB (v:=.string B.name) gv u.hb rfl (fh ik (rA (nW ik cK cK (aA kP (aT u gv (dL rfl) (rfl) λ_ u=>?_))))))))));have u:=u.enc (cs':=j0 ({B with name:=(B.name.extract 0 (min (B.name.size:Int) 40).toNat)}:cJ)) rfl;refine aD l9 u.At (aZ ([({B with name:=(B.name.extract 0 (min (B.name.size:Int) 40).toNat)}:cJ)]) u il rfl rfl (dL rfl) λU _ u=>?_)
  have Z:=u.dX;exact bJ u.p2 il Z (by rw[W,mf];omega) ee (λ_ _ u=>have u:=u.p1.drop;aN cK (have u:=u.p1.drop;⟨_,cK,k+1,rfl,rfl,cK,cK,by rw[<- gd (k:=k) M];exact u⟩))
 rw[qC (xs:=xs) (k:=k) (m:=8) cK cK (g6 G)]at u;exact u.fresh
def C106(lv:Value)(xs:List bQ)(w:World)(hL:DL w lv xs):CR 106 [lv] w (λv w'=>lg (fT v (E3 xs)) w w'):=by
 have B:=St.start w;refine eX Tryz.func106 ?_;refine tD (α:=bQ) B fq (λadf w1 B=>?_);refine⟨λm M x w1=>∃k:Nat,x=hZ (k:Int)/\m=50-k/\k<=50/\k<=xs.length/\St w bD [fT M ((xs.take k).map Sa)] w1,⟨_,0,rfl,rfl,cK,cK,B⟩,?_⟩;rintro m M _ _ ⟨k,rfl,rfl,hk,xf,B⟩ _;have Je:((xs.take k).map Sa).length=k:=by rw[n0,l0];omega
 refine⟨λjv w'=>jv=.bool (decide (k<xs.length/\k<50))/\St w bD [fT M ((xs.take k).map Sa)] w',?_,?_⟩
 .obtain⟨ts60,Y,W⟩:=hL.open;have hn60:=W.1;exact aK fq (Y.ext B.aG) (aR (aC (λ_=>aR ⟨vb dD,B⟩) λ_=>⟨vb dD,B⟩))
 rintro _ _ ⟨rfl,B⟩ _;refine aY (λjD=>?_) (λjD=>?_)
 .have apA:k<xs.length/\k<50:=by simpa using jD
  obtain⟨V,av7,E⟩:=hL.open;have hn61:=E.1;obtain⟨lU,ie⟩:=gx V (i:=(k:Int).toNat) cK;obtain⟨u,lE⟩:=gx xs (i:=(k:Int).toNat) cK;obtain⟨J,G,rfl,Sc,Sd⟩:=E.2 _ _ _ ie lE;refine aO fq av7 cK ie (λ_ lQ=>aD eL (lQ.ext B.aG) (aM B jw λI9 _ B=>have B:=B.enc (cs':=j0 (⟨0,(kp #[]),(kp #[]),bX,bX,0,0,0,0⟩:bE)) rfl;aJ (x:=(⟨u.kind,u.eD,u.name,J,G,u.n,u.body,u.eu,u.at_⟩:bE)) B eL rfl rfl λ_ B=>aA iE (aB (v:=.string u.eD) gv B.hb rfl (aA iE (aB (v:=.string u.eD) gv B.hb rfl (fh ik (rA (nW ik cK cK (aA iE ?_)))))))))
  have Z:=DL.flat Sc;have O:=DL.flat Sd;refine aT B gv (dL rfl) (rfl) (λ_ B=>have B:=B.enc (cs':=j0 (⟨u.kind,(u.eD.extract 0 (min (u.eD.size:Int) 40).toNat),u.name,J,G,u.n,u.body,u.eu,u.at_⟩:bE)) rfl;aA fZ (aB (v:=.string u.name) gv B.hb rfl (aA fZ (aB (v:=.string u.name) gv B.hb rfl (fh ik (rA (nW ik cK cK (aA fZ (aT B gv (dL rfl) (rfl) λ_ B=>have B:=B.enc (cs':=j0 (⟨u.kind,(u.eD.extract 0 (min (u.eD.size:Int) 40).toNat),(u.name.extract 0 (min (u.name.size:Int) 40).toNat),J,G,u.n,u.body,u.eu,u.at_⟩:bE)) rfl;aA iV (aB (v:=ia (J:SV)) ju B.hb rfl (dT ahs B (C47 _ _ _ (Z.ext B.aG)) λx39 _ cL B=>?_)))))))))))
  refine aA iV ?_;obtain⟨I,rfl⟩:=B.fI;refine aT B.p1 ju (dL rfl) (rfl) (λ_ B=>have B:=B.enc (cs':=j0 (⟨u.kind,(u.eD.extract 0 (min (u.eD.size:Int) 40).toNat),(u.name.extract 0 (min (u.name.size:Int) 40).toNat),I,G,u.n,u.body,u.eu,u.at_⟩:bE)) rfl;aA j8 (aB (v:=ia (G:SV)) ju B.hb rfl (dT ahs B (C47 _ _ _ (O.ext B.aG)) λx43 _ cL B=>aA j8 ?_)));obtain⟨U,rfl⟩:=B.fI;exact aT B.p1 ju (dL rfl) (rfl) (λ_ B=>have B:=B.enc (cs':=j0 (⟨u.kind,(u.eD.extract 0 (min (u.eD.size:Int) 40).toNat),(u.name.extract 0 (min (u.name.size:Int) 40).toNat),I,U,u.n,u.body,u.eu,u.at_⟩:bE)) rfl;aD eL B.At (have B:=B.p2.freeze.p2.freeze.p1.gZ.dM (Ψ:=(λw=>mG w (⟨u.kind,(u.eD.extract 0 (min (u.eD.size:Int) 40).toNat),(u.name.extract 0 (min (u.name.size:Int) 40).toNat),I,U,u.n,u.body,u.eu,u.at_⟩:bE) (⟨u.kind,(u.eD.extract 0 (min (u.eD.size:Int) 40).toNat),(u.name.extract 0 (min (u.name.size:Int) 40).toNat),(yv u.e),(yv u.f),u.n,u.body,u.eu,u.at_⟩:bQ))) (λ_ h=>⟨_,_,rfl,DL.j1 h.1,DL.j1 h.2⟩);gg (s:=(⟨u.kind,(u.eD.extract 0 (min (u.eD.size:Int) 40).toNat),(u.name.extract 0 (min (u.name.size:Int) 40).toNat),I,U,u.n,u.body,u.eu,u.at_⟩:bE)) (x:=(⟨u.kind,(u.eD.extract 0 (min (u.eD.size:Int) 40).toNat),(u.name.extract 0 (min (u.name.size:Int) 40).toNat),(yv u.e),(yv u.f),u.n,u.body,u.eu,u.at_⟩:bQ)) B fq ee λ_ _ B=>have B:=B.p2;gh B fq (by rw[Je,mf];omega) ee λ_ _ B=>aN cK (have B:=B.p1.drop;⟨_,cK,k+1,rfl,rfl,cK,cK,by rw[<- gd (k:=k) lE];exact B⟩)))
 rw[qC (xs:=xs) (k:=k) (m:=50) cK cK (g6 jD)]at B;exact B.fresh
def C46(lv:Value)(xs:List cN)(w:World)(hL:DL w lv xs):CR 46 [lv] w (λv w'=>lg (fT v (kY xs)) w w'):=by
 have u:=St.start w;refine oH Tryz.func46 (pl:=P46) ?_;refine tD (α:=cN) u fu (λadk w1 u=>?_);refine⟨λm M x w1=>∃k:Nat,x=hZ (k:Int)/\m=4-k/\k<=4/\k<=xs.length/\St w bD [fT M ((xs.take k).map yP)] w1,⟨_,0,rfl,rfl,cK,cK,u⟩,?_⟩;rintro m M _ _ ⟨k,rfl,rfl,hk,xf,u⟩ _;have Je:((xs.take k).map yP).length=k:=by rw[n0,l0];omega
 refine⟨λW w'=>W=.bool (decide (k<xs.length/\k<4))/\St w bD [fT M ((xs.take k).map yP)] w',?_,?_⟩
 .obtain⟨ts64,awa,awb⟩:=hL.open;have hn64:=awb.1;exact aK fu (awa.ext u.aG) (aR (aC (λ_=>aR ⟨vb dD,u⟩) λ_=>⟨vb dD,u⟩))
 rintro _ _ ⟨rfl,u⟩ _;refine aY (λjo=>?_) (λjo=>?_)
 .have hc15:k<xs.length/\k<4:=by simpa using jo
  obtain⟨awc,J,apC⟩:=hL.open;have hn65:=apC.1;obtain⟨agw,G⟩:=gx awc (i:=(k:Int).toNat) cK;obtain⟨B,I8⟩:=gx xs (i:=(k:Int).toNat) cK;obtain⟨zI,Pk,rfl,E8,E9⟩:=apC.2 _ _ _ G I8;refine⟨λEP w'=>St w bD [fT EP ((xs.take k).map yP++[yP B])] w',⟨λW w'=>∃(U:Nat) (E:SV),W=.pointer (some ⟨U,0,none⟩)/\St w bD [bY U (j0 (⟨(B.name.extract 0 (min (B.name.size:Int) 40).toNat),bX,E,B.at_⟩:cG)),fT (ia E) (E3 B.body),fT M ((xs.take k).map yP)] w',?_,?_⟩,?_⟩
  .refine aO fu J cK G (λ_ Me=>bV B.name qn Me rfl rfl λ_ Y=>have u:=u.drew;aD gv (Y.ext u.aG) (aO fu J cK G λ_ Fb=>bV B.name qn Fb rfl rfl λ_ V=>aD gv (V.ext u.aG) (fh ik (rA (nW ik cK cK (aO fu J cK G λ_ rf=>bV B.at_ qo rf rfl rfl λ_ O=>aD bL (O.ext u.aG) (aO fu J cK G λ_ yM=>bV Pk lI yM rfl rfl λ_ xd=>aD jN (xd.ext u.aG) ⟨?_,⟨?_,?_⟩⟩)))))))
   .refine dT afj u (C106 _ _ _ (E9.ext u.aG)) (λx41 _ cL u=>?_);refine⟨eH gv (Y.ext u.aG),?_⟩;refine⟨eH gv (V.ext u.aG),?_⟩;refine⟨eH bL (O.ext u.aG),?_⟩;obtain⟨Jf,rfl⟩:=u.oX;refine pop (Av _ _ _ _ _) (aM u tA λb_t5 _ u=>?_);have u:=u.enc (cs':=j0 (⟨(kp #[]),bX,bX,0⟩:cG)) rfl;refine⟨eH gv (Y.ext u.aG),?_⟩;refine⟨eH gv (V.ext u.aG),?_⟩;refine⟨eH bL (O.ext u.aG),?_⟩;refine⟨eH jN (xd.ext u.aG),?_⟩;exact aJ (x:=(⟨(B.name.extract 0 (min (B.name.size:Int) 40).toNat),bX,Jf,B.at_⟩:cG)) u m4 rfl rfl (λ_ u=>have u:=u.p2.p2.p2;⟨_,_,rfl,u⟩)
   .refine aM u tA (λawd _ u=>?_);have u:=u.enc (cs':=j0 (⟨(kp #[]),bX,bX,0⟩:cG)) rfl;refine⟨eH gv (Y.ext u.aG),?_⟩;refine⟨eH gv (V.ext u.aG),?_⟩;refine⟨eH bL (O.ext u.aG),?_⟩;refine⟨eH jN (xd.ext u.aG),?_⟩;refine dT afj u (C106 _ _ _ (E9.ext u.aG)) (λx41_1 _ cL u=>?_);refine⟨eH gv (Y.ext u.aG),?_⟩;refine⟨eH gv (V.ext u.aG),?_⟩;refine⟨eH bL (O.ext u.aG),?_⟩;obtain⟨XZ,rfl⟩:=u.oX;exact pop (Av _ _ _ _ _) (aJ (x:=(⟨(B.name.extract 0 (min (B.name.size:Int) 40).toNat),bX,XZ,B.at_⟩:cG)) u.p1 m4 rfl rfl λ_ u=>have u:=u.p2.p2.p2;⟨_,_,rfl,u⟩)
   trivial
  .rintro _ _ ⟨U,E,rfl,u⟩ _;have u:=((((u.eM (α:=ByteArray)).p3).p3).p2).p3;refine⟨λm x w1=>∃(j:Nat) (I:SV),x=hZ (j:Int)/\m=6-j/\j<=6/\j<=B.dP.length/\St w bD [bY U (j0 (⟨(B.name.extract 0 (min (B.name.size:Int) 40).toNat),I,E,B.at_⟩:cG)),bH (ia I) ((B.dP.take j).map oA),fT (ia E) (E3 B.body),fT M ((xs.take k).map yP)] w1,⟨_,0,bX,rfl,rfl,cK,cK,u⟩,?_⟩;rintro m _ _ ⟨j,I,rfl,rfl,hj,B2,u⟩ _;have aiR:((B.dP.take j).map oA).length=j:=by rw[n0,l0];omega
   refine⟨λW w'=>W=.bool (decide (j<B.dP.length/\j<6))/\St w bD [bY U (j0 (⟨(B.name.extract 0 (min (B.name.size:Int) 40).toNat),I,E,B.at_⟩:cG)),bH (ia I) ((B.dP.take j).map oA),fT (ia E) (E3 B.body),fT M ((xs.take k).map yP)] w',?_,?_⟩
   .refine aO fu J cK G (λ_ Lz=>bV zI fR Lz rfl rfl λ_ AN=>aD ji (AN.ext u.aG) ?_);have awe:=DL.flat E8;exact aK iy (awe.ext u.aG) (aR (aC (λ_=>aR ⟨vb dD,u⟩) λ_=>⟨vb dD,u⟩))
   rintro _ _ ⟨rfl,u⟩ _;refine aY (λAW=>?_) (λAW=>?_)
   .have hc54:j<B.dP.length/\j<6:=by simpa using AW
    refine aA fR (have u:=u.drew;aB (v:=ia (I:SV)) ji u.hb rfl (aO fu J cK G λ_ XR=>bV zI fR XR rfl rfl λ_ Fc=>aD ji (Fc.ext u.aG) ?_));have Z:=DL.flat E8;obtain⟨agx,Pl⟩:=gx B.dP (i:=(j:Int).toNat) cK;refine aO iy Z cK Pl (λ_ CF=>aD gv (CF.ext u.aG) (aO fu J cK G λ_ Mb=>bV zI fR Mb rfl rfl λ_ X0=>aD ji (X0.ext u.aG) (aO iy Z cK Pl λ_ apE=>aD gv (apE.ext u.aG) (fh ik (rA (nW ik cK cK (aZ ([(agx.extract 0 (min (agx.size:Int) 40).toNat)]) u iy rfl rfl (dL rfl) λapF _ u=>?_)))))))
    refine⟨aF ji (u.p1.hb.cell rfl),?_⟩;have Pm:=u.dX;refine bJ u.p2 iy Pm (by rw[aiR,mf];omega) ee (λapG _ u=>have u:=u.p1.drop;aA fR ?_);obtain⟨B3,rfl⟩:=u.fI;exact aT u.p1 ji (dL rfl) (rfl) (λ_ u=>have u:=u.enc (cs':=j0 (⟨(B.name.extract 0 (min (B.name.size:Int) 40).toNat),B3,E,B.at_⟩:cG)) rfl;aN cK (have u:=u.p3.p3.p3.p3;⟨_,cK,j+1,B3,rfl,rfl,cK,cK,by rw[<- gd (k:=j) Pl];exact u⟩))
   refine aD m4 u.At (have u:=u.p1.freeze.p2.mV.p1.gZ.dM (Ψ:=(λw=>mG w (⟨(B.name.extract 0 (min (B.name.size:Int) 40).toNat),I,E,B.at_⟩:cG) (⟨(B.name.extract 0 (min (B.name.size:Int) 40).toNat),((B.dP.take j).map oA),(E3 B.body),B.at_⟩:cN))) (λ_ h=>⟨_,_,rfl,DL.j1 h.1,h.2⟩);gg (s:=(⟨(B.name.extract 0 (min (B.name.size:Int) 40).toNat),I,E,B.at_⟩:cG)) (x:=(⟨(B.name.extract 0 (min (B.name.size:Int) 40).toNat),((B.dP.take j).map oA),(E3 B.body),B.at_⟩:cN)) u fu ee λagy _ u=>have u:=u.p2;gh u fu (by rw[Je,mf];omega) ee λapH _ u=>?_)
   have u:=u.p1.drop;rw[qC (xs:=B.dP) (k:=j) (m:=6) cK cK (g6 AW)]at u;exact u
  rintro EP _ u _;exact aN cK ⟨_,cK,k+1,rfl,rfl,cK,cK,by rw[<- gd (k:=k) I8];exact u⟩
 rw[qC (xs:=xs) (k:=k) (m:=4) cK cK (g6 jo)]at u;exact u.fresh
def C11(p:cE)(pv:bP)(w:World)(hp:mG w pv p):CR 11 [ia pv] w (λv w'=>∃qv:bP,v=ia qv/\lg (eG λw=>mG w qv (xm p)) w w'):=by
 obtain⟨bK,bU,Z,aW,aX,bG,rfl,cQ,dG,cW,cB,cC,cP⟩:=hp;have u:=St.start w;refine oH Tryz.func11 (pl:=P11) ?_;refine cI u (λko w1 u=>aM u vf λwh _ u=>have u:=u.enc (cs':=j0 (⟨bX,bX,bX,bX,bX,bX⟩:bP)) rfl;⟨λjv w'=>∃(U:Nat) (E B J I:SV),jv=.pointer (some ⟨U,0,none⟩)/\St w bD [bY U (j0 (⟨bX,E,B,J,I,bX⟩:bP)),bH (ia E) (jE p.iO),bH (ia B) (jE p.eJ),fT (ia J) (kY p.threads),fT (ia I) (kY p.recover),bY ko (j0 (⟨bK,bU,Z,aW,aX,bG⟩:bP)),bY wh (j0 (⟨bX,bX,bX,bX,bX,bX⟩:bP))] w',?_,?_⟩)
 .refine aA qc (have u:=u.drew;aB jK u.p1.hb rfl ?_);have apI:=DL.flat dG;refine aA nP (aB jK u.p1.hb rfl ?_);have Y:=DL.flat cW;refine aA kF (aB ix u.p1.hb rfl (aA oP (aB ix u.p1.hb rfl ⟨dT Tx u (C45 _ _ _ (apI.ext u.aG)) (λx8 _ G u=>⟨aF jK (u.p2.hb.cell rfl),⟨aF ix (u.p2.hb.cell rfl),⟨aF ix (u.p2.hb.cell rfl),⟨dT Tx u (C45 _ _ _ (Y.ext u.aG)) (λx11 _ G u=>⟨aF ix (u.p3.hb.cell rfl),⟨aF ix (u.p3.hb.cell rfl),⟨dT Iv u (C46 _ _ _ (cB.ext u.aG)) (λx14 _ G u=>⟨aF ix (u.p4.hb.cell rfl),⟨?_,⟨?_,?_⟩⟩⟩),⟨?_,?_⟩⟩⟩⟩),⟨?_,?_⟩⟩⟩⟩⟩),⟨?_,?_⟩⟩)))
  .refine dT Iv u (C46 _ _ _ (cC.ext u.aG)) (λT0 _ G u=>?_);obtain⟨W,rfl⟩:=u.p3.fI;obtain⟨Ff,rfl⟩:=u.p2.fI;obtain⟨Pr,rfl⟩:=u.p1.oX;obtain⟨aiT,rfl⟩:=u.oX;refine pop (nD _ _ _ _ _ _ _ _ _ _ _ _) (aM u vf λb_q3 _ u=>?_);have u:=u.enc (cs':=j0 (⟨bX,bX,bX,bX,bX,bX⟩:bP)) rfl;refine⟨aF jK (u.p6.hb.cell rfl),?_⟩;refine⟨aF jK (u.p6.hb.cell rfl),?_⟩;refine⟨aF ix (u.p6.hb.cell rfl),?_⟩;refine⟨aF ix (u.p6.hb.cell rfl),?_⟩;exact aJ (x:=(⟨bX,W,Ff,Pr,aiT,bX⟩:bP)) u et rfl rfl (λ_ u=>have u:=u.p5.p6.p3.p4.p5.p6.p6;⟨_,_,_,_,_,rfl,u⟩)
  .refine aM u vf (λawf _ u=>?_);have u:=u.enc (cs':=j0 (⟨bX,bX,bX,bX,bX,bX⟩:bP)) rfl;refine⟨aF jK (u.p5.hb.cell rfl),?_⟩;refine⟨aF jK (u.p5.hb.cell rfl),?_⟩;refine⟨aF ix (u.p5.hb.cell rfl),?_⟩;refine⟨aF ix (u.p5.hb.cell rfl),?_⟩;refine dT Iv u (C46 _ _ _ (cC.ext u.aG)) (λx17_1 _ G u=>?_);obtain⟨W,rfl⟩:=u.p4.fI;obtain⟨Ff,rfl⟩:=u.p3.fI;obtain⟨Pr,rfl⟩:=u.p2.oX;obtain⟨X1,rfl⟩:=u.oX;exact pop (nD _ _ _ _ _ _ _ _ _ _ _ _) (aJ (x:=(⟨bX,W,Ff,Pr,X1,bX⟩:bP)) u.p1 et rfl rfl λ_ u=>have u:=u.p5.p6.p3.p4.p5.p6.p6;⟨_,_,_,_,_,rfl,u⟩)
  .trivial
  .refine aM u vf (λawg _ u=>?_);have u:=u.enc (cs':=j0 (⟨bX,bX,bX,bX,bX,bX⟩:bP)) rfl;refine⟨aF jK (u.p4.hb.cell rfl),?_⟩;refine⟨aF jK (u.p4.hb.cell rfl),?_⟩;refine⟨aF ix (u.p4.hb.cell rfl),?_⟩;refine⟨aF ix (u.p4.hb.cell rfl),?_⟩;refine dT Iv u (C46 _ _ _ (cB.ext u.aG)) (λx14_1 _ G u=>?_);refine⟨aF ix (u.p5.hb.cell rfl),?_⟩;refine dT Iv u (C46 _ _ _ (cC.ext u.aG)) (λx17_2 _ G u=>?_);obtain⟨W,rfl⟩:=u.p4.fI;obtain⟨Ff,rfl⟩:=u.p3.fI;obtain⟨X2,rfl⟩:=u.p1.oX;obtain⟨X3,rfl⟩:=u.oX
   exact pop (nD _ _ _ _ _ _ _ _ _ _ _ _) (aJ (x:=(⟨bX,W,Ff,X2,X3,bX⟩:bP)) u.p2 et rfl rfl λ_ u=>have u:=u.p5.p6.p3.p4.p5.p6.p6;⟨_,_,_,_,_,rfl,u⟩)
  .trivial
  .refine aM u vf (λawh _ u=>?_);have u:=u.enc (cs':=j0 (⟨bX,bX,bX,bX,bX,bX⟩:bP)) rfl;refine⟨aF jK (u.p3.hb.cell rfl),?_⟩;refine⟨aF jK (u.p3.hb.cell rfl),?_⟩;refine⟨aF ix (u.p3.hb.cell rfl),?_⟩;refine⟨aF ix (u.p3.hb.cell rfl),?_⟩;refine dT Tx u (C45 _ _ _ (Y.ext u.aG)) (λx11_1 _ G u=>?_);refine⟨aF ix (u.p4.hb.cell rfl),?_⟩;refine⟨aF ix (u.p4.hb.cell rfl),?_⟩;refine dT Iv u (C46 _ _ _ (cB.ext u.aG)) (λx14_2 _ G u=>?_);refine⟨aF ix (u.p5.hb.cell rfl),?_⟩;refine dT Iv u (C46 _ _ _ (cC.ext u.aG)) (λx17_3 _ G u=>?_)
   obtain⟨W,rfl⟩:=u.p4.fI;obtain⟨X4,rfl⟩:=u.p2.fI;obtain⟨X5,rfl⟩:=u.p1.oX;obtain⟨X6,rfl⟩:=u.oX;exact pop (nD _ _ _ _ _ _ _ _ _ _ _ _) (aJ (x:=(⟨bX,W,X4,X5,X6,bX⟩:bP)) u.p3 et rfl rfl λ_ u=>have u:=u.p5.p6.p3.p4.p5.p6.p6;⟨_,_,_,_,_,rfl,u⟩)
  .trivial
  .refine aM u vf (λawi _ u=>?_);have u:=u.enc (cs':=j0 (⟨bX,bX,bX,bX,bX,bX⟩:bP)) rfl;refine⟨aF jK (u.p2.hb.cell rfl),?_⟩;refine⟨aF jK (u.p2.hb.cell rfl),?_⟩;refine⟨aF ix (u.p2.hb.cell rfl),?_⟩;refine⟨aF ix (u.p2.hb.cell rfl),?_⟩;refine dT Tx u (C45 _ _ _ (apI.ext u.aG)) (λx8_1 _ G u=>?_);refine⟨aF jK (u.p3.hb.cell rfl),?_⟩;refine⟨aF ix (u.p3.hb.cell rfl),?_⟩;refine⟨aF ix (u.p3.hb.cell rfl),?_⟩;refine dT Tx u (C45 _ _ _ (Y.ext u.aG)) (λx11_2 _ G u=>?_);refine⟨aF ix (u.p4.hb.cell rfl),?_⟩;refine⟨aF ix (u.p4.hb.cell rfl),?_⟩
   refine dT Iv u (C46 _ _ _ (cB.ext u.aG)) (λx14_3 _ G u=>?_);refine⟨aF ix (u.p5.hb.cell rfl),?_⟩;refine dT Iv u (C46 _ _ _ (cC.ext u.aG)) (λx17_4 _ G u=>?_);obtain⟨Dw,rfl⟩:=u.p3.fI;obtain⟨X7,rfl⟩:=u.p2.fI;obtain⟨X8,rfl⟩:=u.p1.oX;obtain⟨X9,rfl⟩:=u.oX;exact pop (nD _ _ _ _ _ _ _ _ _ _ _ _) (aJ (x:=(⟨bX,Dw,X7,X8,X9,bX⟩:bP)) u.p4 et rfl rfl λ_ u=>have u:=u.p5.p6.p3.p4.p5.p6.p6;⟨_,_,_,_,_,rfl,u⟩)
  trivial
 rintro _ _ ⟨U,E,B,J,I,rfl,u⟩ _;have u:=((((((((u.IW (α:=(List cJ))).p7).p7).p7).p7).p7).p7).p6).p7;refine⟨λm x w1=>∃(k:Nat) (M:SV),x=hZ (k:Int)/\m=6-k/\k<=6/\k<=p.lines.length/\St w bD [bY U (j0 (⟨M,E,B,J,I,bX⟩:bP)),fT (ia M) ((p.lines.take k).map jE),bH (ia E) (jE p.iO),bH (ia B) (jE p.eJ),fT (ia J) (kY p.threads),fT (ia I) (kY p.recover),bY ko (j0 (⟨bK,bU,Z,aW,aX,bG⟩:bP)),bY wh (j0 (⟨bX,bX,bX,bX,bX,bX⟩:bP))] w1,⟨_,0,bX,rfl,rfl,cK,cK,u⟩,?_⟩
 rintro m _ _ ⟨k,M,rfl,rfl,hk,xf,u⟩ _;have Je:((p.lines.take k).map jE).length=k:=by rw[n0,l0];omega
 refine⟨λjv w'=>jv=.bool (decide (k<p.lines.length/\k<6))/\St w bD [bY U (j0 (⟨M,E,B,J,I,bX⟩:bP)),fT (ia M) ((p.lines.take k).map jE),bH (ia E) (jE p.iO),bH (ia B) (jE p.eJ),fT (ia J) (kY p.threads),fT (ia I) (kY p.recover),bY ko (j0 (⟨bK,bU,Z,aW,aX,bG⟩:bP)),bY wh (j0 (⟨bX,bX,bX,bX,bX,bX⟩:bP))] w',?_,?_⟩
 .refine aA gw (aB oO u.p6.hb rfl ?_);obtain⟨ts70,awj,awk⟩:=cQ.open;have hn70:=awk.1;exact aK pG (awj.ext u.aG) (aR (aC (λ_=>aR ⟨vb dD,u⟩) λ_=>⟨vb dD,u⟩))
 rintro _ _ ⟨rfl,u⟩ _;refine aY (λlq=>?_) (λlq=>?_)
 .have hc27:k<p.lines.length/\k<6:=by simpa using lq
  refine aA gw (have u:=u.drew;aB (v:=ia (M:SV)) oO u.hb rfl (aA gw (aB oO u.p6.hb rfl ?_)));obtain⟨awl,awm,apJ⟩:=cQ.open;have hn71:=apJ.1;obtain⟨apK,Ya⟩:=gx awl (i:=(k:Int).toNat) cK;obtain⟨Yb,Yc⟩:=gx p.lines (i:=(k:Int).toNat) cK;have apL:DL w (ia apK) Yb:=apJ.2 _ _ _ Ya Yc;refine aO pG awm cK Ya (λ_ Lw=>aD jK (Lw.ext u.aG) ?_);have awn:=DL.flat apL;refine dT Tx u (C45 _ _ _ (awn.ext u.aG)) (λx37 _ G u=>?_);refine⟨aF oO (u.p1.hb.cell rfl),?_⟩;obtain⟨Yd,rfl⟩:=u.fI
  have u:=u.freeze.dM (Ψ:=λw=>mG w Yd (jE Yb)) (λ_ h=>DL.j1 h);refine gg (s:=Yd) (x:=(jE Yb)) u pG ee (λapM _ u=>?_);refine⟨aF oO (u.p1.hb.cell rfl),?_⟩;have u:=u.p2;refine gh u pG (by rw[Je,mf];omega) ee (λapN _ u=>aA gw ?_);obtain⟨zH,rfl⟩:=u.oX;exact aT u.p1 oO (dL rfl) (rfl) (λ_ u=>have u:=u.enc (cs':=j0 (⟨zH,E,B,J,I,bX⟩:bP)) rfl;aN cK (have u:=u.p7.p7.p7.p7.p7.p7.p7.p7;⟨_,cK,k+1,zH,rfl,rfl,cK,cK,by rw[<- gd (k:=k) Yc];exact u⟩))
 rw[qC (xs:=p.lines) (k:=k) (m:=6) cK cK (g6 lq)]at u;have u:=(((((((((u.IW (α:=gP)).p8).p8).p8).p8).p8).p8).p8).p7).p8;refine⟨λm x w1=>∃(j:Nat) (O:SV),x=hZ (j:Int)/\m=6-j/\j<=6/\j<=p.dS.length/\St w bD [bY U (j0 (⟨M,E,B,J,I,O⟩:bP)),fT (ia O) ((p.dS.take j).map E4),fT (ia M) ((p.lines.take 6).map jE),bH (ia E) (jE p.iO),bH (ia B) (jE p.eJ),fT (ia J) (kY p.threads),fT (ia I) (kY p.recover),bY ko (j0 (⟨bK,bU,Z,aW,aX,bG⟩:bP)),bY wh (j0 (⟨bX,bX,bX,bX,bX,bX⟩:bP))] w1,⟨_,0,bX,rfl,rfl,cK,cK,u⟩,?_⟩
 rintro m _ _ ⟨j,O,rfl,rfl,hj,B2,u⟩ _;have aiR:((p.dS.take j).map E4).length=j:=by rw[n0,l0];omega
 refine⟨λjv w'=>jv=.bool (decide (j<p.dS.length/\j<6))/\St w bD [bY U (j0 (⟨M,E,B,J,I,O⟩:bP)),fT (ia O) ((p.dS.take j).map E4),fT (ia M) ((p.lines.take 6).map jE),bH (ia E) (jE p.iO),bH (ia B) (jE p.eJ),fT (ia J) (kY p.threads),fT (ia I) (kY p.recover),bY ko (j0 (⟨bK,bU,Z,aW,aX,bG⟩:bP)),bY wh (j0 (⟨bX,bX,bX,bX,bX,bX⟩:bP))] w',?_,?_⟩
 .refine aA jt (aB qP u.p7.hb rfl ?_);obtain⟨ts73,awo,awp⟩:=cP.open;have hn73:=awp.1;exact aK sY (awo.ext u.aG) (aR (aC (λ_=>aR ⟨vb dD,u⟩) λ_=>⟨vb dD,u⟩))
 rintro _ _ ⟨rfl,u⟩ _;refine aY (λsg=>?_) (λsg=>?_)
 .have hc49:j<p.dS.length/\j<6:=by simpa using sg
  refine aA jt (have u:=u.drew;aB (v:=ia (O:SV)) qP u.hb rfl (aA jt (aB qP u.p7.hb rfl ?_)));obtain⟨awq,apO,apP⟩:=cP.open;have hn74:=apP.1;obtain⟨Ye,B4⟩:=gx awq (i:=(j:Int).toNat) cK;obtain⟨V,Yf⟩:=gx p.dS (i:=(j:Int).toNat) cK;obtain⟨adp,rfl,adq⟩:=apP.2 _ _ _ B4 Yf;refine aO sY apO cK B4 (λ_ EV=>bV adp vh EV rfl rfl λ_ AX=>aD ju (AX.ext u.aG) ?_);have awr:=DL.flat adq;refine aA jt (aB qP u.p7.hb rfl (aO sY apO cK B4 λ_ EJ=>bV V.at_ IK EJ rfl rfl λ_ CF=>aD bL (CF.ext u.aG) (dT ahs u (C47 _ _ _ (awr.ext u.aG)) λx60 _ G u=>?_)))
  refine⟨aF qP (u.p1.hb.cell rfl),?_⟩;refine⟨aF qP (u.p8.hb.cell rfl),?_⟩;refine⟨eH bL (CF.ext u.aG),?_⟩;obtain⟨B5,rfl⟩:=u.fI;refine pop (GY _ _ _ _) (have u:=u.freeze.dM (Ψ:=(λw=>mG w (⟨B5,V.at_⟩:jy) (⟨(yv V.e),V.at_⟩:gP))) (λ_ h=>⟨_,rfl,DL.j1 h⟩);gg (s:=(⟨B5,V.at_⟩:jy)) (x:=(⟨(yv V.e),V.at_⟩:gP)) u sY ee λs_x68 _ u=>?_);refine⟨aF qP (u.p1.hb.cell rfl),?_⟩;have u:=u.p2;refine gh u sY (by rw[aiR,mf];omega) ee (λs_x69 _ u=>aA jt ?_)
  obtain⟨Yg,rfl⟩:=u.oX;exact aT u.p1 qP (dL rfl) (rfl) (λ_ u=>have u:=u.enc (cs':=j0 (⟨M,E,B,J,I,Yg⟩:bP)) rfl;aN cK (have u:=u.p8.p8.p8.p8.p8.p8.p8.p8.p8;⟨_,cK,j+1,Yg,rfl,rfl,cK,cK,by rw[<- gd (k:=j) Yf];exact u⟩))
 refine aD et u.At (aJ (x:=(⟨M,E,B,J,I,O⟩:bP)) u.p8 et rfl rfl λ_ u=>aD et u.At ?_);rw[qC (xs:=p.dS) (k:=j) (m:=6) cK cK (g6 sg)]at u;have u:=u.p3.mV.p4.freeze.p1.gZ.p4.freeze.p1.gZ.p4.mV.p1.gZ.p4.mV.p1.gZ;have u:=u.p3.mV.p1.gZ.dM (Ψ:=(λw=>mG w (⟨M,E,B,J,I,O⟩:bP) (⟨((p.lines.take 6).map jE),(jE p.iO),(jE p.eJ),(kY p.threads),(kY p.recover),((p.dS.take 6).map E4)⟩:cE))) (λ_ h=>⟨_,_,_,_,_,_,rfl,h.1.1.1.1.1,DL.j1 h.1.1.1.1.2,DL.j1 h.1.1.1.2,h.1.1.2,h.1.2,h.2⟩)
 have u:=u.p1.drop.p1.drop.p1.drop;exact⟨_,rfl,u.fresh⟩
def tG(l:List Int)(i:Nat):Int:=if i=0 then 0 else l.getD (i-1) 0+1
theorem Yh(x:bQ)(loops:Int):loops+IY (decide (x.kind=12))=Bk.Dp x loops:=by
 unfold Bk.Dp IY
 grind
def apQ(b:Bool):0<=IY b/\IY b<=1:=by cases b<;>decide
def C309(sv fv:Value)(xs:List bQ)(φ:bQ->Prop)(g:bQ->Bool)(w:World)(hL:DL w sv xs)(Z:tE hH w fv φ g)(hφ:∀x∈xs,φ x)(hn:xs.length<=1073741824):CR 309 [sv,fv] w (λv w'=>v=hZ (sj g xs)/\Ext w w'):=by
 obtain⟨g0,first,cap,rfl,oG,j5⟩:=Z;have u:=St.start w;refine eX Tryz.func309 ?_;obtain⟨vr,O,V⟩:=hL.open;have W:=V.1;refine aK fq (O.ext u.aG) ?_;refine⟨λm x J=>∃k:Nat,x=hZ (k:Int)/\m=xs.length-k/\k<=xs.length/\(∀y∈xs.take k,g y=false)/\St w bD [] J,⟨_,0,rfl,rfl,l1 _,ei,u⟩,?_⟩;rintro m _ J ⟨k,rfl,rfl,hk,E,u⟩ _;refine aR (aC (λjH=>?_) λ_=>⟨gN (nf .i64) (je (by rw[kW cK]at E;exact E)).symm,u.aG⟩);obtain⟨iu,U⟩:=gx vr (i:=(k:Int).toNat) cK;obtain⟨Y,B⟩:=gx xs (i:=(k:Int).toNat) cK
 obtain⟨Jg,M,rfl,Jh,I⟩:=V.2 _ _ _ U B;refine aO fq O cK U (λ_ ic=>aD eL (ic.ext u.aG) (gT oG (j5 _ Y J u.aG ⟨Jg,M,rfl,(Jh.ext u.aG),(I.ext u.aG)⟩ (hφ _ (kO B))) ?_));rintro _ _ ⟨rfl,he⟩;have u:=u.ext he;exact aY (λG=>⟨gN (nf .i64) (ma E B G).symm,u.aG⟩) (λG=>aN cK ⟨_,cK,k+1,rfl,rfl,cK,dY E B G,u⟩)
def C282(sv fv:Value)(xs:List bQ)(φ:bQ->Prop)(g:bQ->Bool)(w:World)(G:DL w sv xs)(E:tE hH w fv φ g)(B:∀x∈xs,φ x)(I:xs.length<=1073741824):CR 282 [sv,fv] w (λv w'=>v=.bool (xs.any g)/\Ext w w'):=by
 have u:=St.start w;refine eX Tryz.func282 ?_;exact aV aoH u (C309 _ _ _ _ _ _ (G.ext u.aG) (E.ext u.aG) B cK) (λ_ _ u=>cR ⟨vb (kT _ _),u.aG⟩)
theorem C284(lv:Value)(xs:List bQ)(loops:Int)(N:Nat)(w:World)(hL:DL w lv xs)(hn:xs.length<=40)(hlo:0<=loops)(N4:loops+N<=4194304)(hN:xs.length<N):CR 284 [lv,hZ loops] w (λv w'=>v=hZ (fC xs loops)/\Ext w w'):=by
 have E:=St.start w;refine ac7 _ _ _ _ ?_;unfold S284;refine⟨λm y x w1=>∃(k:Nat) (n:Int),y=hZ n/\x=hZ (k:Int)/\m=xs.length-k/\k<=xs.length/\0<=n/\n<=41/\fC xs loops=sn n (fC (xs.drop k) loops)/\St w bD [] w1,⟨_,0,0,rfl,rfl,rfl,cK,cK,cK,by have:=tF xs loops;rw[List.drop_zero];unfold sn;split<;>omega,E⟩,?_⟩;rintro m _ _ w1 ⟨k,n,rfl,rfl,rfl,hk,Vo,WT,hinv,E⟩ _;obtain⟨yN,J,I⟩:=hL.open;have hn4:=I.1;refine aK fq (J.ext E.aG) (aR (aC (λer=>?_) λer=>?_))
 .obtain⟨lU,ie⟩:=gx yN (i:=(k:Int).toNat) cK;obtain⟨u,lE⟩:=gx xs (i:=(k:Int).toNat) cK;obtain⟨M,O,rfl,Sc,Sd⟩:=I.2 _ _ _ ie lE;refine aO fq J cK ie (λ_ lQ=>?_);have hdk:=drop_cons (xs:=xs) (k:=k) lE;rw[hdk]at hinv;have Hb:(xs.drop (k+1)).length=xs.length-(k+1):=qa;refine aD eL (lQ.ext E.aG) (aM E jw λZ _ E=>have E:=E.enc (cs':=j0 (⟨0,(kp #[]),(kp #[]),bX,bX,0,0,0,0⟩:bE)) rfl;aJ (x:=(⟨u.kind,u.eD,u.name,M,O,u.n,u.body,u.eu,u.at_⟩:bE)) E eL rfl rfl λ_ E=>aN cK (aA iW (aB (v:=hZ u.body) bL E.hb rfl (uE ?_))))
  obtain⟨W1,V⟩:∃W,W=Bv (((k:Int)+1)+u.body):=⟨_,rfl⟩;rw[<- V];refine aA iF (aB (v:=hZ u.eu) bL E.hb rfl (uE ?_));obtain⟨U,Y⟩:∃W,W=Bv (W1+u.eu):=⟨_,rfl⟩;rw[<- Y];refine⟨λG w'=>G=.bool (Bk.zy u)/\St w bD [bY Z (j0 (⟨u.kind,u.eD,u.name,M,O,u.n,u.body,u.eu,u.at_⟩:bE))] w',aA dN (aB (v:=hZ u.kind) bL E.hb rfl (aH (aC (λ_=>⟨vb (by unfold Bk.zy;grind),E⟩) λ_=>aA dN (aB (v:=hZ u.kind) bL E.hb rfl (aH ⟨vb (by unfold Bk.zy;grind),E⟩))))),?_⟩
  rintro _ _ ⟨rfl,E⟩ _;refine⟨λG w'=>G=.bool (decide (u.body<0\/u.eu<0\/(xs.length:Int)<u.body\/(xs.length:Int)<u.eu\/(xs.length:Int)<U))/\St w bD [bY Z (j0 (⟨u.kind,u.eD,u.name,M,O,u.n,u.body,u.eu,u.at_⟩:bE))] w',aA iW (aB (v:=hZ u.body) bL E.hb rfl (aR (aC (λ_=>⟨vb dD,E⟩) λwW=>?_))),?_⟩
  .refine aA iF (aB (v:=hZ u.eu) bL E.hb rfl (aR ?_));exact aC (λ_=>⟨vb dD,E⟩) (λ_=>aA iW (aB (v:=hZ u.body) bL E.hb rfl (aK fq (J.ext E.aG) (cO (aC (λ_=>⟨vb dD,E⟩) λ_=>aA iF (aB (v:=hZ u.eu) bL E.hb rfl (aK fq (J.ext E.aG) (cO (aC (λ_=>⟨vb dD,E⟩) λ_=>aK fq (J.ext E.aG) (cO ⟨vb dD,E⟩))))))))))
  rintro _ _ ⟨rfl,E⟩ _;refine aY (λoZ=>?_) (λoZ=>?_)
  .have hW:0<=u.body/\u.body<=40/\0<=u.eu/\u.eu<=40->U=(k:Int)+1+u.body+u.eu:=λh=>by
    have h1:W1=(k:Int)+1+u.body:=by rw[V];exact zn cK
    rw[Y,zn cK];omega
   exact⟨gN (nf .i64) (I1 hinv (by unfold uK;grind)).symm,E.drop.aG⟩
  have hq:=g6 oZ
  have hW:U=(k:Int)+1+u.body+u.eu:=by
   have h1:W1=(k:Int)+1+u.body:=by rw[V];exact zn cK
   rw[Y,zn cK];omega
  have oK:uK u (xs.drop (k+1)):=by unfold uK;omega
  refine⟨λG w'=>G=.bool (!Bk.yb u loops)/\St w bD [bY Z (j0 (⟨u.kind,u.eD,u.name,M,O,u.n,u.body,u.eu,u.at_⟩:bE))] w',⟨λG w'=>G=.bool (!Bk.zy u&&decide (0<u.body))/\St w bD [bY Z (j0 (⟨u.kind,u.eD,u.name,M,O,u.n,u.body,u.eu,u.at_⟩:bE))] w',bR (aY (λ_=>aA iW (aB (v:=hZ u.body) bL E.hb rfl (cO ⟨vb dD,E⟩))) λ_=>⟨vb dD,E⟩),?_⟩,?_⟩
  .rintro _ _ ⟨rfl,E⟩ _;refine aY (λ_=>⟨vb (by unfold Bk.yb;unfold Bk.zy at *;grind),E⟩) (λaf3=>⟨λG w'=>G=.bool (decide (¬ u.kind=11/\0<u.eu))/\St w bD [bY Z (j0 (⟨u.kind,u.eD,u.name,M,O,u.n,u.body,u.eu,u.at_⟩:bE))] w',aA dN (aB (v:=hZ u.kind) bL E.hb rfl (bW (aC (λ_=>aA iF (aB (v:=hZ u.eu) bL E.hb rfl (cO ⟨vb dD,E⟩))) λ_=>⟨vb dD,E⟩))),?_⟩);rintro _ _ ⟨rfl,E⟩ _;exact aY (λ_=>⟨vb (by unfold Bk.yb;unfold Bk.zy at *;grind),E⟩) (λ_=>aA dN (aB (v:=hZ u.kind) bL E.hb rfl (aH (aC (λ_=>aH ⟨vb (by unfold Bk.yb;unfold Bk.zy at *;grind),E⟩) λ_=>⟨vb (by unfold Bk.yb;unfold Bk.zy at *;grind),E⟩))))
  rintro _ _ ⟨rfl,E⟩ _;refine aY (λ_=>⟨gN (nf .i64) (I1 hinv dD).symm,E.drop.aG⟩) (λasT=>?_);have kC:Bk.yb u loops=true:=dD
  have ahZ:=oK;unfold uK at ahZ;refine⟨λG w'=>∃n':Int,G=hZ n'/\0<=n'/\n'<=41/\fC xs loops=sn n' (fC (xs.drop (k+1+(u.body.toNat+u.eu.toNat))) loops)/\St w bD [bY Z (j0 (⟨u.kind,u.eD,u.name,M,O,u.n,u.body,u.eu,u.at_⟩:bE))] w',aY (λB6=>?_) (λB6=>?_),?_⟩
  .have hb01:=Yh u loops;have hbb:=apQ (decide (u.kind=12));have hcA:((xs.take (((k:Int)+1)+u.body).toNat).drop ((k:Int)+1).toNat)=(xs.drop (k+1)).take u.body.toNat:=vp xs cK cK;have hcB:((xs.take U.toNat).drop (((k:Int)+1)+u.body).toNat)=((xs.drop (k+1)).drop u.body.toNat).take u.eu.toNat:=by rw[sW];exact vp xs cK cK
   have hlA:((xs.take (((k:Int)+1)+u.body).toNat).drop ((k:Int)+1).toNat).length<=xs.length-1/\((xs.take (((k:Int)+1)+u.body).toNat).drop ((k:Int)+1).toNat).length<=40:=by rw[hcA,l0];omega
   have hlB:((xs.take U.toNat).drop (((k:Int)+1)+u.body).toNat).length<=xs.length-1/\((xs.take U.toNat).drop (((k:Int)+1)+u.body).toNat).length<=40:=by rw[hcB,l0,qa];omega
   refine aA dN (aB (v:=hZ u.kind) bL E.hb rfl (aH (aV V5 E (C302 _ _) λ_ he E=>aN cK (aN cK (aN cK (aA iW (have E:=E.drew;aB (v:=hZ u.body) bL E.hb rfl (aN cK (ox fq (J.ext E.aG) cK cK cK λawu adu=>?_)))))))));have adv:=DL.cut adu J I;refine aN cK (aA iW (aB (v:=hZ u.body) bL E.hb rfl (aN cK (ox fq (J.ext E.aG) cK cK cK λawv adw=>?_))));have adx:=DL.cut adw J I
   refine aV XC E (C284 _ _ _ (N-1) _ (adv.ext E.aG) cK cK cK cK) (λ_ he E=>?_);refine⟨aF bL (E.hb.cell rfl),?_⟩;refine dQ XC (C284 _ _ _ (N-1) _ (adx.ext E.aG) cK cK cK cK) ?_;rintro _ _ ⟨rfl,he⟩;have E:=E.ext he;obtain⟨A,hA⟩:∃A,A=fC ((xs.take (((k:Int)+1)+u.body).toNat).drop ((k:Int)+1).toNat) (Bk.Dp u loops):=⟨_,rfl⟩;obtain⟨B,hB⟩:∃B,B=fC ((xs.take U.toNat).drop (((k:Int)+1)+u.body).toNat) (Bk.Dp u loops):=⟨_,rfl⟩;have hAb:=tF ((xs.take (((k:Int)+1)+u.body).toNat).drop ((k:Int)+1).toNat) (Bk.Dp u loops)
   have hBb:=tF ((xs.take U.toNat).drop (((k:Int)+1)+u.body).toNat) (Bk.Dp u loops);rw[<- hA]at hAb;rw[<- hB]at hBb;rw[Yh,<- hA,<- hB];have TO:=W5 hinv oK kC B6 A B (by rw[hA,hcA]) (by rw[hB,hcB]);refine⟨λG w'=>G=.bool (decide (A<0\/B<0))/\St w bD [bY Z (j0 (⟨u.kind,u.eD,u.name,M,O,u.n,u.body,u.eu,u.at_⟩:bE))] w',aH (aC (λ_=>⟨vb dD,E⟩) λ_=>aH ⟨vb dD,E⟩),?_⟩;rintro _ _ ⟨rfl,E⟩ _;refine aY (λPt=>⟨gN (nf .i64) (TO.1 (gO Pt)).symm,E.drop.aG⟩) (λPt=>aN cK (aN cK (Lm ?_)))
   have W7:=TO.2 (g6 Pt);rw[sW,aa7 1 A,aa7 1 B]at W7;exact⟨_,rfl,cK,cK,W7,E⟩
  .have hdn:=af1 hinv oK kC B6;rw[sW]at hdn;exact⟨_,rfl,Vo,WT,hdn,E⟩
  rintro _ _ ⟨n',rfl,ah2,ah3,W8,E⟩ _;exact⟨_,cK,k+1+(u.body.toNat+u.eu.toNat),n',rfl,gN (nf .i64) cK,rfl,cK,ah2,ah3,W8,E.drop⟩
 rw[vt cK,BT]at hinv;exact⟨gN (nf .i64) (by rw[hinv];unfold sn;omega),E.aG⟩
termination_by N
decreasing_by all_goals omega
theorem Mg(xs:List bQ):pL xs=(!(decide (40<xs.length)||xs.any λy=>!m7 y)&&decide (¬ fC xs 0 = -1/\fC xs 0<=12)):=by
 have:=tF xs 0
 grind[pL,m7,fC]
def C241(lv:Value)(xs:List bQ)(w:World)(G:DL w lv xs)(hn:xs.length<=1048576)(V:∀x∈xs,x.e.length<=1048576/\x.f.length<=1048576):CR 241 [lv] w (λv w'=>v=.bool (pL xs)/\Ext w w'):=by
 have u:=St.start w;refine eX Tryz.func241 ?_;refine⟨λJ w'=>J=.bool (decide (40<xs.length)||xs.any λy=>!m7 y)/\St w bD [] w',?_,?_⟩
 .obtain⟨O,B,E⟩:=G.open;have Z:=E.1;exact aK fq (B.ext u.aG) (cO (aC (λ_=>⟨vb dD,u⟩) λ_=>aV aoG u (C282 _ _ _ (λx=>x.e.length<=1048576/\x.f.length<=1048576) _ _ (G.ext u.aG) ⟨283,[],[],rfl,aox,λsv y U _ W M=>C283 y sv U W M.1 M.2⟩ V cK) λ_ _ u=>⟨vb dD,u⟩))
 rintro _ _ ⟨rfl,u⟩ _;refine aY (λI=>?_) (λI=>?_)
 .refine⟨vb ?_,u.aG⟩;rw[Mg,I];rfl
 have Y:xs.length<=40:=dD
 refine aV XC u (C284 _ _ _ (xs.length+1) _ (G.ext u.aG) cK cK cK cK) (λ_ he u=>⟨λJ w'=>J=.bool (decide (¬ fC xs 0 = -1/\fC xs 0<=12))/\St w bD [] w',bW (aC (λ_=>iB ⟨vb dD,u⟩) λ_=>⟨vb dD,u⟩),?_⟩);rintro _ _ ⟨rfl,u⟩ _;refine⟨vb ?_,u.aG⟩;rw[Mg,I];rfl
def Ji(t:cN):Bool:=rC t.at_&&!t.dP.any (λs=>!gJ s)&&pL t.body
theorem Se(t:cN):(!gJ t.name||!Ji t)=mB true t:=by
 unfold mB so Ji
 grind
theorem Sf(t:cN):(decide (¬ t.name=⟨#[]⟩)||!Ji t)=mB false t:=by
 unfold mB so Ji
 by_cases h:t.name=⟨#[]⟩
 .rw[h,show gJ (⟨#[]⟩:ByteArray)=false from ee]
  grind
 grind
theorem Mh(p:cE):(!(p.lines.any nQ||!nY 4294967296 p.iO||!nY 0 p.eJ||decide (1<p.recover.length))&&(!p.threads.any (mB true)&&!p.recover.any (mB false)&&!p.dS.any lR))=kr p:=by
 unfold kr nK
 grind
def SzS.ok{xs:List bQ}(h:∀x∈xs,SzS x):∀x∈xs,x.e.length<=1048576/\x.f.length<=1048576:=λx u=>⟨(h x u).2.2.1,(h x u).2.2.2.1⟩
def C184(n:Int)(w:World):CR 184 [hZ n] w (λv w'=>v=.bool (rC n)/\Ext w w'):=by
 have B:=St.start w;refine eX Tryz.func184 ?_;refine⟨λE w'=>E=.bool (decide (0<=n/\n<=4000))/\w=w',cR (aC (λ_=>iB ⟨yB cK,rfl⟩) λ_=>⟨jvF cK,rfl⟩),?_⟩;rintro _ _ ⟨rfl,u⟩ _;subst u;exact⟨rfl,B.aG⟩
def C233(c:cJ)(b2:Nat)(B:Int)(w:World)(hc:Cell w b2 0 (hZ B)):CR 233 [ia c,.pointer (some ⟨b2,0,none⟩)] w (λv w'=>v=.bool (iP B c)/\Ext w w'):=by
 have u:=St.start w;refine eX Tryz.func233 ?_;refine cI u (λE _ u=>⟨λG w'=>G=.bool (iP B c)/\St w bD [bY E (j0 c)] w',aA kP (aB (v:=.string c.name) gv u.hb rfl (aV LC u (C180 _ _) λ_ J u=>bR (aY (λ_=>⟨vb (by unfold iP;grind),u⟩) λI=>?_))),?_⟩)
 .exact aA rY (aB (v:=hZ c.n) bL u.hb rfl (aR (aC (λ_=>⟨vb (by unfold iP;grind),u⟩) λ_=>aA rY (aB (v:=hZ c.n) bL u.hb rfl (bM bL (hc.ext u.aG) (cO (aC (λ_=>⟨vb (by unfold iP;grind),u⟩) λ_=>aA uB (aB (v:=hZ c.at_) bL u.hb rfl (aV XE u (C184 _ _) λ_ _ u=>bR ⟨vb (by unfold iP;grind),u⟩)))))))))
 rintro _ _ ⟨rfl,u⟩ _;exact⟨rfl,u.drop.aG⟩
def C279(sv fv:Value)(xs:List cJ)(g:cJ->Bool)(w:World)(J:dA (λ_=>True) w sv xs)(M:wg w fv g)(hn:xs.length<=1073741824):CR 279 [sv,fv] w (λv w'=>v=hZ (sj g xs)/\Ext w w'):=by
 obtain⟨g0,first,cap,rfl,W,O⟩:=M;have u:=St.start w;refine eX Tryz.func279 ?_;refine aK il (J.ext u.aG) ?_;refine⟨λm x G=>∃k:Nat,x=hZ (k:Int)/\m=xs.length-k/\k<=xs.length/\(∀y∈xs.take k,g y=false)/\St w bD [] G,⟨_,0,rfl,rfl,l1 _,ei,u⟩,?_⟩;rintro m _ G ⟨k,rfl,rfl,Z,B,u⟩ _;refine aR (aC (λjH=>?_) λ_=>⟨gN (nf .i64) (je (by rw[kW cK]at B;exact B)).symm,u.aG⟩);obtain⟨V,I⟩:=gx xs (i:=(k:Int).toNat) cK;refine aO il J cK I (λ_ U=>aD l9 (U.ext u.aG) (gT W (O V G u.aG) ?_))
 rintro _ _ ⟨rfl,Y⟩;have u:=u.ext Y;exact aY (λE=>⟨gN (nf .i64) (ma B I E).symm,u.aG⟩) (λE=>aN cK ⟨xs.length-(k+1),cK,k+1,rfl,rfl,cK,dY B I E,u⟩)
def C232(sv fv:Value)(xs:List cJ)(g:cJ->Bool)(w:World)(E:dA (λ_=>True) w sv xs)(B:wg w fv g)(G:xs.length<=1073741824):CR 232 [sv,fv] w (λv w'=>v=.bool (xs.any g)/\Ext w w'):=by
 have u:=St.start w;refine eX Tryz.func232 ?_;exact aV aoJ u (C279 _ _ _ _ _ (E.ext u.aG) (B.ext u.aG) cK) (λ_ _ u=>cR ⟨vb (kT _ _),u.aG⟩)
def C178(lv:Value)(xs:List cJ)(B:Int)(w:World)(M:dA (λ_=>True) w lv xs)(O:xs.length<=1048576):CR 178 [lv,hZ B] w (λv w'=>v=.bool (nY B xs)/\Ext w w'):=by
 have u:=St.start w;refine eX Tryz.func178 ?_;refine nu u rfl (λI G u=>?_)
 have E:wg _ (.func (.func 233) [].toArray [.pointer (some ⟨I,0,none⟩)].toArray) (iP B):=
  ⟨233,[],_,rfl,aoE,λy G J=>C233 y I B G ((u.hb.cell rfl).ext J)⟩
 exact aV aoI u (C232 _ _ _ _ _ (M.ext u.aG) E cK) (λ_ _ u=>bR ⟨rfl,u.drop.aG⟩)
def C239(s:ByteArray)(w:World):CR 239 [.string s] w (λv w'=>v=.bool (!gJ s)/\Ext w w'):=by
 have u:=St.start w;refine eX Tryz.func239 ?_;exact aV LC u (C180 _ _) (λ_ _ u=>bR ⟨rfl,u.aG⟩)
def C181(t:cN)(E:cG)(w:World)(ht:mG w E t)(J:W6 t/\t.dP.length<=500/\t.body.length<=500):CR 181 [ia E] w (λv w'=>v=.bool (Ji t)/\Ext w w'):=by
 obtain⟨U,O,rfl,I,V⟩:=ht;have u:=St.start w;refine eX Tryz.func181 ?_;refine cI u (λM G u=>⟨λW w'=>W=.bool (Ji t)/\St w bD [bY M (j0 (⟨t.name,U,O,t.at_⟩:cG))] w',aA qo (aB (v:=hZ t.at_) bL u.hb rfl (aV XE u (C184 _ _) λ_ Z u=>aY (λY=>?_) λ_=>⟨vb (by unfold Ji;grind),u⟩)),?_⟩)
 .refine aA fR (aB ji u.hb rfl ?_);have B:=DL.flat I;exact aV aga u (C240 _ _ _ (λs=>!gJ s) _ (B.ext u.aG) ⟨239,[],[],rfl,aoF,λy G _=>C239 y G⟩ cK) (λ_ _ u=>bR (aY (λ_=>aA lI (aB jN u.hb rfl (aV aoy u (C241 _ _ _ (V.ext u.aG) cK (SzS.ok J.1.2.2)) λ_ _ u=>⟨vb (by unfold Ji;grind),u⟩))) λ_=>⟨vb (by unfold Ji;grind),u⟩))
 rintro _ _ ⟨rfl,u⟩ _;exact⟨rfl,u.drop.aG⟩
def C179(t:cN)(G:cG)(w:World)(ht:mG w G t)(O:W6 t/\t.dP.length<=500/\t.body.length<=500):CR 179 [ia G] w (λv w'=>v=.bool (mB true t)/\Ext w w'):=by
 obtain⟨E,B,rfl,J,I⟩:=ht;have u:=St.start w;refine eX Tryz.func179 ?_;refine cI u (λU _ u=>⟨λM w'=>M=.bool (mB true t)/\St w bD [bY U (j0 (⟨t.name,E,B,t.at_⟩:cG))] w',aA qn (aB (v:=.string t.name) gv u.hb rfl (aV LC u (C180 _ _) λ_ _ u=>bR (aY (λ_=>⟨vb (by rw[<- Se];grind),u⟩) λ_=>aD m4 u.At (aV agl u (C181 t _ _ ⟨E,B,rfl,(J.ext u.aG),(I.ext u.aG)⟩ O) λ_ _ u=>bR ⟨vb (by rw[<- Se];grind),u⟩)))),?_⟩);rintro _ _ ⟨rfl,u⟩ _;exact⟨rfl,u.drop.aG⟩
def C182(t:cN)(G:cG)(w:World)(ht:mG w G t)(O:W6 t/\t.dP.length<=500/\t.body.length<=500):CR 182 [ia G] w (λv w'=>v=.bool (mB false t)/\Ext w w'):=by
 obtain⟨E,B,rfl,J,I⟩:=ht;have u:=St.start w;refine eX Tryz.func182 ?_;refine cI u (λU _ u=>⟨λM w'=>M=.bool (mB false t)/\St w bD [bY U (j0 (⟨t.name,E,B,t.at_⟩:cG))] w',aA qn (aB (v:=.string t.name) gv u.hb rfl (l6 (aC (λ_=>⟨vb (by rw[<- Sf];grind),u⟩) λ_=>aD m4 u.At (aV agl u (C181 t _ _ ⟨E,B,rfl,(J.ext u.aG),(I.ext u.aG)⟩ O) λ_ _ u=>bR ⟨vb (by rw[<- Sf];grind),u⟩)))),?_⟩);rintro _ _ ⟨rfl,u⟩ _;exact⟨rfl,u.drop.aG⟩
def C177(lv:Value)(xs:List cJ)(w:World)(B:dA (λ_=>True) w lv xs)(G:xs.length<=1048576):CR 177 [lv] w (λv w'=>v=.bool (nQ xs)/\Ext w w'):=by
 have u:=St.start w;refine eX Tryz.func177 ?_;refine⟨λE w'=>E=.bool (nQ xs)/\St w bD [] w',aK il (B.ext u.aG) (aH (aC (λ_=>⟨vb (by unfold nQ;grind),u⟩) λ_=>aV XD u (C178 _ _ _ _ (B.ext u.aG) cK) λ_ _ u=>bR ⟨vb (by unfold nQ;grind),u⟩)),?_⟩;rintro _ _ ⟨rfl,u⟩ _;exact⟨rfl,u.aG⟩
def C183(c:gP)(cv:jy)(w:World)(hc:mG w cv c)(U:c.e.length<=1048576):CR 183 [ia cv] w (λv w'=>v=.bool (lR c)/\Ext w w'):=by
 obtain⟨G,rfl,E⟩:=hc;have u:=St.start w;refine eX Tryz.func183 ?_;refine cI u (λB _ u=>⟨λJ w'=>J=.bool (lR c)/\St w bD [bY B (j0 (⟨G,c.at_⟩:jy))] w',aA IK (aB (v:=hZ c.at_) bL u.hb rfl (aV XE u (C184 _ _) λ_ M u=>bR (aY (λ_=>⟨vb (by unfold lR;grind),u⟩) λO=>?_))),?_⟩)
 .refine aA vh (aB ju u.hb rfl ?_);have I:=DL.flat E;exact aV RT u (C185 _ _ _ (I.ext u.aG) cK) (λ_ _ u=>bR ⟨vb (by unfold lR;grind),u⟩)
 rintro _ _ ⟨rfl,u⟩ _;exact⟨rfl,u.drop.aG⟩
def C247(sv fv:Value)(xs:List (List cJ))(φ:(List cJ)->Prop)(g:(List cJ)->Bool)(w:World)(hL:DL w sv xs)(Y:tE hH w fv φ g)(hφ:∀x∈xs,φ x)(hn:xs.length<=1073741824):CR 247 [sv,fv] w (λv w'=>v=hZ (sj g xs)/\Ext w w'):=by
 obtain⟨g0,first,cap,rfl,oG,Z⟩:=Y;have u:=St.start w;refine eX Tryz.func247 ?_;obtain⟨O,E,B⟩:=hL.open;have hn8:=B.1;refine aK pG (E.ext u.aG) ?_;refine⟨λm x U=>∃k:Nat,x=hZ (k:Int)/\m=xs.length-k/\k<=xs.length/\(∀y∈xs.take k,g y=false)/\St w bD [] U,⟨_,0,rfl,rfl,l1 _,ei,u⟩,?_⟩;rintro m _ U ⟨k,rfl,rfl,hk,J,u⟩ _;refine aR (aC (λjH=>?_) λ_=>⟨gN (nf .i64) (je (by rw[kW cK]at J;exact J)).symm,u.aG⟩);obtain⟨iu,W⟩:=gx O (i:=(k:Int).toNat) cK;obtain⟨V,I⟩:=gx xs (i:=(k:Int).toNat) cK
 have G:DL w (ia iu) V:=B.2 _ _ _ W I;refine aO pG E cK W (λ_ ic=>aD jK (ic.ext u.aG) ?_);have hf9:=DL.flat G;refine gT oG (Z _ V U u.aG (G.ext u.aG) (hφ _ (kO I))) ?_;rintro _ _ ⟨rfl,he⟩;have u:=u.ext he;exact aY (λM=>⟨gN (nf .i64) (ma J I M).symm,u.aG⟩) (λM=>aN cK ⟨_,cK,k+1,rfl,rfl,cK,dY J I M,u⟩)
def C186(sv fv:Value)(xs:List (List cJ))(φ:(List cJ)->Prop)(g:(List cJ)->Bool)(w:World)(G:DL w sv xs)(E:tE hH w fv φ g)(B:∀x∈xs,φ x)(I:xs.length<=1073741824):CR 186 [sv,fv] w (λv w'=>v=.bool (xs.any g)/\Ext w w'):=by
 have u:=St.start w;refine eX Tryz.func186 ?_;exact aV aoK u (C247 _ _ _ _ _ _ (G.ext u.aG) (E.ext u.aG) B cK) (λ_ _ u=>cR ⟨vb (kT _ _),u.aG⟩)
def C248(sv fv:Value)(xs:List cN)(φ:cN->Prop)(g:cN->Bool)(w:World)(hL:DL w sv xs)(hf:tE hH w fv φ g)(hφ:∀x∈xs,φ x)(hn:xs.length<=1073741824):CR 248 [sv,fv] w (λv w'=>v=hZ (sj g xs)/\Ext w w'):=by
 obtain⟨g0,first,cap,rfl,oG,j5⟩:=hf;have u:=St.start w;refine eX Tryz.func248 ?_;obtain⟨O,E,B⟩:=hL.open;have U:=B.1;refine aK fu (E.ext u.aG) ?_;refine⟨λm x M=>∃k:Nat,x=hZ (k:Int)/\m=xs.length-k/\k<=xs.length/\(∀y∈xs.take k,g y=false)/\St w bD [] M,⟨_,0,rfl,rfl,l1 _,ei,u⟩,?_⟩;rintro m _ M ⟨k,rfl,rfl,hk,I,u⟩ _;refine aR (aC (λjH=>?_) λ_=>⟨gN (nf .i64) (je (by rw[kW cK]at I;exact I)).symm,u.aG⟩);obtain⟨iu,V⟩:=gx O (i:=(k:Int).toNat) cK;obtain⟨Y,G⟩:=gx xs (i:=(k:Int).toNat) cK
 obtain⟨Pu,W,rfl,Z,Px⟩:=B.2 _ _ _ V G;refine aO fu E cK V (λ_ ic=>aD m4 (ic.ext u.aG) (gT oG (j5 _ Y M u.aG ⟨Pu,W,rfl,(Z.ext u.aG),(Px.ext u.aG)⟩ (hφ _ (kO G))) ?_));rintro _ _ ⟨rfl,he⟩;have u:=u.ext he;exact aY (λJ=>⟨gN (nf .i64) (ma I G J).symm,u.aG⟩) (λJ=>aN cK ⟨_,cK,k+1,rfl,rfl,cK,dY I G J,u⟩)
def C187(sv fv:Value)(xs:List cN)(φ:cN->Prop)(g:cN->Bool)(w:World)(G:DL w sv xs)(E:tE hH w fv φ g)(B:∀x∈xs,φ x)(I:xs.length<=1073741824):CR 187 [sv,fv] w (λv w'=>v=.bool (xs.any g)/\Ext w w'):=by
 have u:=St.start w;refine eX Tryz.func187 ?_;exact aV aoL u (C248 _ _ _ _ _ _ (G.ext u.aG) (E.ext u.aG) B cK) (λ_ _ u=>cR ⟨vb (kT _ _),u.aG⟩)
def C249(sv fv:Value)(xs:List gP)(φ:gP->Prop)(g:gP->Bool)(w:World)(hL:DL w sv xs)(W:tE hH w fv φ g)(hφ:∀x∈xs,φ x)(hn:xs.length<=1073741824):CR 249 [sv,fv] w (λv w'=>v=hZ (sj g xs)/\Ext w w'):=by
 obtain⟨g0,first,cap,rfl,oG,Z⟩:=W;have u:=St.start w;refine eX Tryz.func249 ?_;obtain⟨I,M,O⟩:=hL.open;have avl:=O.1;refine aK sY (M.ext u.aG) ?_;refine⟨λm x J=>∃k:Nat,x=hZ (k:Int)/\m=xs.length-k/\k<=xs.length/\(∀y∈xs.take k,g y=false)/\St w bD [] J,⟨_,0,rfl,rfl,l1 _,ei,u⟩,?_⟩;rintro m _ J ⟨k,rfl,rfl,hk,E,u⟩ _;refine aR (aC (λjH=>?_) λ_=>⟨gN (nf .i64) (je (by rw[kW cK]at E;exact E)).symm,u.aG⟩);obtain⟨iu,U⟩:=gx I (i:=(k:Int).toNat) cK;obtain⟨V,B⟩:=gx xs (i:=(k:Int).toNat) cK
 obtain⟨Y,rfl,Jh⟩:=O.2 _ _ _ U B;refine aO sY M cK U (λ_ ic=>aD IJ (ic.ext u.aG) (gT oG (Z _ V J u.aG ⟨Y,rfl,(Jh.ext u.aG)⟩ (hφ _ (kO B))) ?_));rintro _ _ ⟨rfl,he⟩;have u:=u.ext he;exact aY (λG=>⟨gN (nf .i64) (ma E B G).symm,u.aG⟩) (λG=>aN cK ⟨_,cK,k+1,rfl,rfl,cK,dY E B G,u⟩)
def C188(sv fv:Value)(xs:List gP)(φ:gP->Prop)(g:gP->Bool)(w:World)(G:DL w sv xs)(E:tE hH w fv φ g)(B:∀x∈xs,φ x)(I:xs.length<=1073741824):CR 188 [sv,fv] w (λv w'=>v=.bool (xs.any g)/\Ext w w'):=by
 have u:=St.start w;refine eX Tryz.func188 ?_;exact aV aoN u (C249 _ _ _ _ _ _ (G.ext u.aG) (E.ext u.aG) B cK) (λ_ _ u=>cR ⟨vb (kT _ _),u.aG⟩)
def C108(p:cE)(pv:bP)(w:World)(E:mG w pv p)(B:PZ p):CR 108 [ia pv] w (λv w'=>v=.bool (kr p)/\Ext w w'):=by
 obtain⟨bK,bU,Y,aW,Z,bG,rfl,cQ,dG,cW,cB,cC,cP⟩:=E;have u:=St.start w;refine eX Tryz.func108 ?_;refine cI u (λko G u=>⟨λW w'=>W=.bool (p.lines.any nQ||!nY 4294967296 p.iO||!nY 0 p.eJ||decide (1<p.recover.length))/\St w bD [bY ko (j0 (⟨bK,bU,Y,aW,Z,bG⟩:bP))] w',aA gw (aB oO u.hb rfl (aV agm u (C186 _ _ _ (λl=>l.length<=1048576) _ _ (cQ.ext u.aG) ⟨177,[],[],rfl,aoA,λ_ y G _ I E=>C177 _ y G (DL.flat I) E⟩ (λl hl=>by have:=B.line l hl;omega) (by have:=B.lines;omega)) λ_ he u=>aY (λ_=>⟨vb dD,u⟩) λjB=>?_)),?_⟩)
 .refine aA qc (aB jK u.hb rfl ?_);have U:=DL.flat dG;refine aV XD u (C178 _ _ _ _ (U.ext u.aG) (by have:=B.iO;omega)) (λ_ he u=>bR (aY (λ_=>⟨vb dD,u⟩) λjo=>aA nP (aB jK u.hb rfl ?_)));have V:=DL.flat cW;refine aV XD u (C178 _ _ _ _ (V.ext u.aG) (by have:=B.eJ;omega)) (λ_ he u=>bR (aY (λ_=>⟨vb dD,u⟩) λfr=>aA oP (aB ix u.hb rfl ?_)));have hzr:=B.recover;obtain⟨ts14,J,M⟩:=cC.open;have hn14:=M.1;exact aK fu (J.ext u.aG) (cO ⟨vb dD,u⟩)
 rintro _ _ ⟨rfl,u⟩ _;refine aY (λO=>?_) (λO=>⟨λW w'=>W=.bool (!p.threads.any (mB true)&&!p.recover.any (mB false)&&!p.dS.any lR)/\St w bD [bY ko (j0 (⟨bK,bU,Y,aW,Z,bG⟩:bP))] w',?_,?_⟩)
 .refine⟨vb ?_,u.drop.aG⟩;rw[<- Mh,O];simp
 .refine aA kF ?_;exact aB ix u.hb rfl (aV XF u (C187 _ _ _ (λt=>W6 t/\t.dP.length<=500/\t.body.length<=500) _ _ (cB.ext u.aG) ⟨179,[],[],rfl,aoB,λsv y G _ I E=>C179 y sv G I E⟩ (λ_ ht=>B.qR (List.mem_append_left _ ht)) (by have:=B.threads;omega)) λ_ _ u=>bR (aY (λ_=>aA oP (aB ix u.hb rfl (aV XF u (C187 _ _ _ (λt=>W6 t/\t.dP.length<=500/\t.body.length<=500) _ _ (cC.ext u.aG) ⟨182,[],[],rfl,aoC,λsv y G _ I E=>C182 y sv G I E⟩ (λ_ ht=>B.qR (List.mem_append_right _ ht)) (by have:=B.recover;omega)) λ_ _ u=>bR (aY (λ_=>aA jt (aB qP u.hb rfl (aV aoM u (C188 _ _ _ (λc=>c.e.length<=1048576) _ _ (cP.ext u.aG) ⟨183,[],[],rfl,aoD,λsv y G _ I E=>C183 y sv G I E⟩ (λc hc=>(B.zc c hc).1) (by have:=B.dS;omega)) λ_ _ u=>bR ⟨vb dD,u⟩))) λ_=>⟨vb dD,u⟩)))) λ_=>⟨vb dD,u⟩))
 rintro _ _ ⟨rfl,u⟩ _;refine⟨vb ?_,u.drop.aG⟩;rw[<- Mh,O];simp
variable (w:World) (K:Value->hM)
def S109(p0:Value):Prop:=
 rJ hH (zT 27 p0) w λp1 a=>fA 27 p1 3 λb=>lA 24 b a λc=>lN 24 c λd=>fe (λB=>fA 27 p1 0 λe=>lA 22 e a λf=>lN 22 f λg=>bB .gtr 3 g (i 4) λh=>
 cV h (B tt a) (fA 27 p1 0 λj=>lA 22 j a λk=>cF 186 [k,(.func (.func 189) #[] #[])] a λl n=>cV l (B tt n) (fA 27 p1 1 λo=>lA 23 o n λp=>lN 23 p λq=>bB .gtr 3 q (i 4) λr=>
 cV r (B tt n) (fA 27 p1 2 λs=>lA 23 s n λt=>lN 23 t λu=>bB .gtr 3 u (i 2) λv=>cV v (B tt n) (bB .eql 3 d (i 0) λx=>cV x (B tt n) (bB .gtr 3 d (i 3) λy=>
 cV y (B tt n) (lA 27 p1 n λz=>cF 110 [z] n λV I=>cF 187 [V,(.func (.func 190) #[] #[])] I λW E=>cV W (B tt E) (fA 27 p1 5 λU=>lA 25 U E λY=>lN 25 Y λJ=>
 bB .gtr 3 J (i 4) λG=>B G E)))))))) (λO M=>∀_:Env,
 K O M)
theorem ady(p0:Value)(h:S109 w K p0):CR 109 [p0] w K:=
 qO 51 (λ_=>.nil) 4 [.tmp 2] Tryz.func109 h
def S111(G I:Value):Prop:=
 kJ (λE B a=>∀_:Env,
 lN 141 G λb=>bA .lss 3 B b λc=>cV c (iA 141 G B λd=>lA 193 d a λe=>aL 193 a λf g=>sA 193 f e g λh=>bB .add 3 B (i 1) λj=>fA 193 f 6 λk=>lA 3 k h λl=>
 bA .add 3 j l λn=>fA 193 f 7 λo=>lA 3 o h λp=>bA .add 3 n p λq=>fe (λK2=>fA 193 f 0 λr=>lA 3 r h λs=>bB .eql 3 s (i 12) λt=>cV t (fA 193 f 5 λu=>
 lA 3 u h λv=>bA .mul 3 I v λx=>K2 x h) (K2 I h)) (λM y=>∀_:Env,
 bB .gtr 3 M (i 64) λz=>cV z (fA 193 f 8 λZ=>lA 3 Z y λV=>K (.tuple #[V,tt]) y) (bB .add 3 B (i 1) λac=>eR hH (n4 141 G (some ac) (some q) none) λW=>
 cF 111 [W,M] y λJ O=>xT J 0 λY=>xT J 1 λU=>cV U (K (.tuple #[Y,tt]) O) (E q O)))) (K (.tuple #[(i 0),ff]) a)) (λE=>E (i 0) w)
theorem adz(B u:Value)(h:S111 w K B u):CR 111 [B,u] w K:=
 qO 53 (λ_=>.nil) 48 [.tmp 4,.tmp 5] Tryz.func111 h
theorem Sh:PL 115:=dJ Tryz.func115
theorem Si:PL 195:=dJ Tryz.func195
theorem awC:PL 50:=dJ Tryz.func50
theorem Yk:PL 54:=dJ Tryz.func54
theorem apV:PL 52:=dJ Tryz.func52
theorem awD:PL 51:=dJ Tryz.func51
theorem awE:PL 55:=dJ Tryz.func55
theorem Hj:PL 159:=dJ Tryz.func159
theorem Sj:PL 110:=dJ Tryz.func110
theorem apW:PL 109:=dJ Tryz.func109
theorem apX:PL 189:=dJ Tryz.func189
theorem apY:PL 190:=dJ Tryz.func190
theorem agB:PL 111:=dJ Tryz.func111
theorem apZ:PL 191:=dJ Tryz.func191
theorem ap0:PL 250:=dJ Tryz.func250
end Go.Proofs.YtpdlpabnlkofmaaGreatDoor
namespace Go.Fw
section
variable {α:Type}[Flat α] {P:Program}{w w0:World}{A:Nat->Prop}{L:List HP}
theorem Mi{T E U J R:Nat}{kn O:IntKind}{K:Value->hM}(hs:St w0 A L w)(ht:Vi P T E (mv α) U)(Y:P.underlying J=some (.int kn))(h1:1<=mv α)(n:Nat)(hn:0<n)(I:n<=1048576)(hby:U<=8192)
  (k:∀b cap w',n<=cap->St w0 A (bH (.slice (some ⟨b,0,none⟩) 0 cap) ([]:List α)::L) w'->K (.slice (some ⟨b,0,none⟩) n cap) w'):rJ P (Builtin.append_ #[T,J] R [.slice none 0 0,.int O (n:Int)].toArray) w K:=by
 obtain⟨V,u,hi,oK,wE,B⟩:=fp ht
 obtain⟨z,Z,G⟩:∃z,u.zero=some z/\z.cells.size=mv α:=by
  cases h:u.zero with
  | none=>rw[h]at B;cases B
  | some z=>rw[h]at B;exact⟨z,rfl,by simpa using B⟩
 have M:n*u.bytes<=281474976710656:=by
  have:=Nat.mul_le_mul I (show u.bytes<=8192 by omega)
  omega
 have W:=Lib.run_append_nil_zeros (P:=P) w T J R E u z O kn V Y hi Z n hn cK cK M
 have Ox:=grownCap_ge w n 0 E
 refine⟨_,_,W,k _ _ _ cK ?_⟩
 refine hs.drew.new (F:=(· = w.heap.size)) (Ext.alloc _ _) (.inr ⟨_,_,(Builtin.zeroCells z.cells n++Builtin.zeroCells z.cells (grownCap w n 0 E-n)).toList,rfl,?_,?_,λ_=>Iff.rfl⟩) λb hb=>yQ hb.symm
 .exact⟨E,by rw[show flat ([]:List α)=[]from rfl,s4,Array.toArray_toList];exact mj _ _⟩
 refine⟨l1 _,yQ (Eq.symm ?_)⟩
 show([]++_).length=_
 rw[s4,Array.length_toList,Array.size_append,size_zeroCells,size_zeroCells,G,<- Nat.add_mul]
 congr 1;omega
theorem Mj{T E sz B R n c:Nat}{z:Option Nat}{a:Option Addr}{K:Value->Prop}(ht:eN P T=some (E,sz,B,z))(k:K (hZ (c:Int))):eR P (Builtin.cap_ #[T] R [Value.slice a n c].toArray) K:=by
 obtain⟨u,_⟩:=fp ht
 refine⟨_,?_,k⟩
 unfold Builtin.cap_
 simp[cX,cZ u]
 rfl
theorem Mk{T E sz u n c:Nat}{z:Option Nat}{a:Option Addr}{K:Value->Prop}(ht:eN P T=some (E,sz,u,z))(B:a.map (·.add (0*sz))=a)(k:K (.slice a 0 c)):eR P (n4 T (.slice a n c) none (some (hZ 0)) none) K:=by
 refine⟨_,wD ht (oq (.inl ⟨rfl,rfl⟩) (.inr ⟨0,rfl,Int.le_refl _,rfl⟩) (o1 _) (l1 _)),?_⟩
 grind
end
end Go.Fw
namespace Go.Proofs.YtpdlpabnlkofmaaGreatDoor
open Go.Fw
theorem xo{α:Type}{ls:List (List α)}{k:Nat}{l:List α}(h:ls[k]?=some l):(ls.take (k+1)).flatten=(ls.take k).flatten++l:=by
 rw[<- gI h];simp
def Jj{α:Type}(ls:List (List α))(k:Nat):(ls.take k).flatten.length<=ls.flatten.length:=by
 conv=>rhs;rw[<- pJ k ls,List.flatten_append,lY]
 omega
def agC{α:Type}[Flat α](w:World):dA (λ_=>True) w (.slice none 0 0) ([]:List α):=⟨none,0,rfl,l1 _,.inl ⟨rfl,rfl⟩⟩
def C250(n:Nat)(w:World)(G:n<=1048576):CR 250 [.slice none 0 0,hZ (n:Int)] w (λv w'=>lg (bH v ([]:List cG)) w w'):=by
 have u:=St.start w;refine eX Tryz.func250 ?_;refine⟨λw'=>w'=w,aR (aC (λc=>absurd c cK) λ_=>rfl),?_⟩;rintro B E _;subst E;refine⟨λI w'=>St B bD [bH I ([]:List cG)] w',?_,?_⟩
 .refine Mj fu (aK fu (agC (α:=cG) B) (fg ei (fg (by simp;omega) (cO (aC (λc=>?_) λ_=>u.eM)))));refine Mj fu (Mk fu rfl ?_);have e:(n:Int)-(((0:Nat):Int)-(([]:List cG).length:Int))=(n:Int):=ei
  rw[e]at c |-;exact Mi (α:=cG) (kn:=.i64) u fu (by kernel_rfl) ee n cK G ee (λ_ _ _ _ u=>aK fu (agC (α:=cG) B) (Mk fu (by simp[Addr.add]) u))
 rintro v _ u _;exact u.fresh
def C191(lv:Value)(B:List (List cG))(w:World)(hL:au2 w lv B)(hn:B.length<=1000)(hf:B.flatten.length<=100000):CR 191 [lv] w (λv w'=>lg (bH v B.flatten) w w'):=by
 obtain⟨I,U,hl,Y⟩:=hL;have u:=St.start w;refine eX Tryz.func191 ?_;refine aK Le (U.ext u.aG) ?_;refine⟨λm y x O=>∃k:Nat,y=hZ ((B.take k).flatten.length:Int)/\x=hZ (k:Int)/\m=I.length-k/\k<=I.length/\St w bD [] O,⟨_,0,rfl,rfl,rfl,l1 _,u⟩,?_⟩;rintro m _ _ O ⟨k,rfl,rfl,rfl,hk,u⟩ _;refine aR (aC (λc=>?_) λc=>?_)
 .obtain⟨s,J⟩:=gx I (i:=(k:Int).toNat) cK;obtain⟨t,M⟩:=gx B (i:=k) cK;have V:=Y k s t J M;have G:=Jj B (k+1);have E:=xo M;rw[E,lY]at G;refine⟨λjv w'=>jv=hZ ((B.take (k+1)).flatten.length:Int)/\St w bD [] w',aO Le U cK J (λ_ W=>aD ix (W.ext u.aG) (aK fu (V.ext u.aG) (aN cK (aR (aC (λc=>absurd c cK) λ_=>⟨gN (nf .i64) (by rw[E,lY];omega),u⟩))))),?_⟩;rintro _ _ ⟨rfl,u⟩ _;exact aN cK ⟨_,cK,k+1,rfl,rfl,rfl,cK,u⟩
 have Z:B.take k=B:=kW cK;rw[Z];refine dT ap0 u (C250 _ _ cK) (λx24 _ cL u=>aK Le (U.ext u.aG) ?_);refine⟨λm v x O=>∃k:Nat,x=hZ (k:Int)/\m=I.length-k/\k<=I.length/\St w bD [bH v ((B.take k).flatten)] O,⟨_,0,rfl,rfl,l1 _,u⟩,?_⟩;rintro m v _ _ ⟨k,rfl,rfl,hk,u⟩ _;refine aR (aC (λc=>?_) λc=>?_)
 .obtain⟨s,J⟩:=gx I (i:=(k:Int).toNat) cK;obtain⟨t,M⟩:=gx B (i:=k) cK;have V:=Y k s t J M;have G:=Jj B (k+1);have E:=xo M;rw[E,lY]at G;exact aO Le U cK J (λ_ W=>aD ix (W.ext u.aG) (bJ u fu (V.ext u.aG) cK ee λ_ _ u=>aN cK ⟨_,cK,k+1,rfl,rfl,cK,by rw[E];exact u⟩))
 rw[show B.take k=B from kW cK]at u;exact u.fresh
def aiV{w:World}{a b:SV}{x y:List cG}(h1:dA (λ_=>True) w (ia a) x)(h2:dA (λ_=>True) w (ia b) y):∀(i:Nat) (s:SV) (t:List cG),[a,b][i]?=some s->[x,y][i]?=some t->dA (λ_=>True) w (ia s) t:=by
 grind
def C110(p:cE)(pv:bP)(B E:List cG)(w:World)(M:mG w pv p)(h3:dA (λ_=>True) w (ia pv.threads) B)(h4:dA (λ_=>True) w (ia pv.recover) E)(J:B.length<=500)(V:E.length<=500):CR 110 [ia pv] w (λv w'=>lg (bH v (B++E)) w w'):=by
 obtain⟨bK,bU,Y,U,I,bG,rfl,W,dG,cW,cB,cC,Z⟩:=M;have u:=St.start w;refine eX Tryz.func110 ?_;refine cI u (λko _ u=>aA kF (aB ix u.hb rfl (aA oP (aB ix u.hb rfl (aZ ([U,I]) u Le rfl rfl (dL rfl) λO _ u=>dT apZ u (C191 _ [B,E] _ ⟨_,u.dX,rfl,aiV (h3.ext u.aG) (h4.ext u.aG)⟩ ei (by simp;omega)) λx8 _ cL u=>?_)))));have G:=u.p1.drop.p1.drop;rw[show [B,E].flatten=B++E from ei]at G;exact G.fresh
def aiW(p:cE):(decide (4<(p.lines.length:Int))||p.lines.any (λl=>decide (4<(l.length:Int)))||decide (4<(p.iO.length:Int))||decide (2<(p.eJ.length:Int))||decide ((p.threads.length:Int)=0)||decide (3<(p.threads.length:Int))||(gl p).any (λt=>decide (4<(t.dP.length:Int)))||decide (4<(p.dS.length:Int)))=uO p:=by
 unfold uO
 grind
def Sk{p:cE}(h:∀l∈p.lines,l.length<=500)(u:p.lines.length<=500)(k:Nat):(p.lines.take k).flatten.length<=250000:=by
 have h1:=Jj p.lines k
 have h2:=cY h
 omega
def C159(sv:Value)(ns:List ByteArray)(s:ByteArray)(w:World)(B:dA (λ_=>True) w sv ns)(E:ns.length<=1048576):CR 159 [sv,.string s] w (λv w'=>v=hZ (cU ns s)/\Ext w w'):=by
 have u:=St.start w;refine eX Tryz.func159 ?_;exact aV Xd u (C225 _ _ _ _ (B.ext u.aG) cK) (λ_ _ u=>⟨rfl,u.aG⟩)
def C54(p:cE)(pv:bP)(w:World)(hp:mG w pv p)(E:PZ p):CR 54 [ia pv] w (λv w'=>v=hZ (ey p)/\Ext w w'):=by
 obtain⟨bK,bU,bN,aW,aX,bG,rfl,cQ,dG,cW,cB,cC,cP⟩:=hp;have u:=St.start w;refine eX Tryz.func54 ?_;refine cI u (λko Y u=>aA gw (aB oO u.hb rfl ?_));obtain⟨V,G,B⟩:=cQ.open;have hn15:=B.1;refine aK pG (G.ext u.aG) ?_;refine⟨λm y x Y=>∃k:Nat,y=hZ (((p.lines.take k).flatten.length:Nat):Int)/\x=hZ (k:Int)/\m=p.lines.length-k/\k<=p.lines.length/\St w bD [bY ko (j0 (⟨bK,bU,bN,aW,aX,bG⟩:bP))] Y,⟨_,0,rfl,rfl,rfl,cK,u⟩,?_⟩
 rintro m _ _ _ ⟨k,rfl,rfl,rfl,hk,u⟩ _;have Yl:=Sk E.line E.lines k;have M:=Sk E.line E.lines (k+1);have hzl:=E.lines;refine aR (aC (λgH=>?_) λgH=>?_)
 .obtain⟨G8,Z⟩:=gx V (i:=(k:Int).toNat) cK;obtain⟨J,U⟩:=gx p.lines (i:=(k:Int).toNat) cK;have I:DL w (ia G8) J:=B.2 _ _ _ Z U;refine aO pG G cK Z (λ_ EB=>?_);have O:=xo (k:=k) U;rw[O,lY]at M;refine aD jK (EB.ext u.aG) ?_;have W:=DL.flat I;exact aK il (W.ext u.aG) (aN cK (aN cK ⟨_,cK,k+1,gN (nf .i64) (by rw[xo (k:=k) U,lY];omega),rfl,rfl,cK,u⟩))
 rw[kW cK];exact⟨rfl,u.drop.aG⟩
def C51(p:cE)(pv:bP)(w:World)(V:mG w pv p)(hz:PZ p):CR 51 [ia pv] w (λv w'=>lg (bH v (cM p)) w w'):=by
 obtain⟨bK,bU,M,aW,O,bG,rfl,cQ,dG,W,cB,cC,cP⟩:=V;have u:=St.start w;refine eX Tryz.func51 ?_;refine cI u (λko I u=>aA nP (aB jK u.hb rfl ?_));have B:=DL.flat W;refine aK il (B.ext u.aG) ?_;refine⟨λm y x I=>∃k:Nat,x=hZ (k:Int)/\m=p.eJ.length-k/\k<=p.eJ.length/\St w bD [bH y ((p.eJ.take k).map cJ.name),bY ko (j0 (⟨bK,bU,M,aW,O,bG⟩:bP))] I,⟨_,0,rfl,rfl,cK,u.eM (α:=ByteArray)⟩,?_⟩;rintro m nh _ _ ⟨k,rfl,rfl,hk,u⟩ _
 have Cx:((p.eJ.take k).map cJ.name).length=k:=by rw[n0,l0];omega
 have hzk:=hz.eJ;refine aR (aC (λgH=>?_) λgH=>?_)
 .obtain⟨G,J⟩:=gx p.eJ (i:=(k:Int).toNat) cK;refine aO il B cK J (λ_ U=>aD l9 (U.ext u.aG) (aM u oT λZ _ u=>aJ (x:=G) u l9 rfl rfl λ_ u=>aA kP (aB (v:=.string G.name) gv u.hb rfl (aZ ([G.name]) u iy rfl rfl (dL rfl) λE _ u=>?_))));have Y:=u.dX;exact bJ u.p2 iy Y (by simp<;>omega) ee (λ_ _ u=>have u:=u.p1.drop;aN cK (have u:=u.p1.drop.p1.p1;⟨_,cK,k+1,rfl,rfl,cK,by rw[<- gd (k:=k) J];exact u⟩))
 have u:=u.p1.drop;rw[kW cK]at u;exact u.fresh
def C189(lv:Value)(xs:List cJ)(w:World)(B:dA (λ_=>True) w lv xs)(E:xs.length<=1048576):CR 189 [lv] w (λv w'=>v=.bool (decide (4<(xs.length:Int)))/\Ext w w'):=by
 have u:=St.start w;refine eX Tryz.func189 ?_;exact aK il (B.ext u.aG) (cO ⟨rfl,u.aG⟩)
def C190(t:cN)(E:cG)(w:World)(ht:mG w E t)(O:t.dP.length<=500):CR 190 [ia E] w (λv w'=>v=.bool (decide (4<(t.dP.length:Int)))/\Ext w w'):=by
 obtain⟨M,J,rfl,G,I⟩:=ht;have u:=St.start w;refine eX Tryz.func190 ?_;refine cI u (λU _ u=>aA fR (aB ji u.hb rfl ?_));have B:=DL.flat G;exact aK iy (B.ext u.aG) (cO ⟨rfl,u.drop.aG⟩)
def C109(p:cE)(pv:bP)(w:World)(E:mG w pv p)(B:PZ p):CR 109 [ia pv] w (λv w'=>v=.bool (uO p)/\Ext w w'):=by
 obtain⟨bK,bU,bN,aW,aX,bG,rfl,J,dG,cW,M,cC,cP⟩:=E;have u:=St.start w;refine ady _ _ _ ?_;unfold S109;refine cI u (λko I u=>?_);have TK:=B.lines;have hz2:=B.iO;have hz3:=B.eJ;have hz4:=B.threads;have hz5:=B.dS;obtain⟨vr,Yi,Yj⟩:=M.open;obtain⟨yN,Ps,G⟩:=cC.open;have hn3:=Yj.1;have hn4:=G.1;have aiz:=Ds B.toPS;refine aA kF (aB ix u.hb rfl ?_);obtain⟨ts19,awI,Y⟩:=M.open;have hn19:=Y.1;refine aK fu (awI.ext u.aG) ⟨λjv w'=>jv=.bool (decide (4<(p.lines.length:Int))||p.lines.any (λl=>decide (4<(l.length:Int)))||decide (4<(p.iO.length:Int))||decide (2<(p.eJ.length:Int))||decide ((p.threads.length:Int)=0)||decide (3<(p.threads.length:Int))||(gl p).any (λt=>decide (4<(t.dP.length:Int)))||decide (4<(p.dS.length:Int)))/\St w bD [bY ko (j0 (⟨bK,bU,bN,aW,aX,bG⟩:bP))] w',?_,?_⟩
 .refine aA gw (aB oO u.hb rfl ?_);obtain⟨ao0,T4,V⟩:=J.open;have avt:=V.1;refine aK pG (T4.ext u.aG) (cO (aC (λ_=>⟨vb dD,u⟩) λnI=>aA gw (aB oO u.hb rfl (aV agm u (C186 _ _ _ (λl=>l.length<=1048576) _ _ (J.ext u.aG) ⟨189,[],[],rfl,apX,λ_ y I _ W E=>C189 _ y I (DL.flat W) E⟩ (λl hl=>by have:=B.line l hl;omega) (by have:=B.lines;omega)) λ_ he u=>aY (λ_=>⟨vb dD,u⟩) λkf=>aA qc (aB jK u.hb rfl ?_)))));have O:=DL.flat dG;refine aK il (O.ext u.aG) (cO (aC (λ_=>⟨vb dD,u⟩) λm6=>aA nP (aB jK u.hb rfl ?_)))
  have Z:=DL.flat cW;refine aK il (Z.ext u.aG) (cO (aC (λ_=>⟨vb dD,u⟩) λagt=>aH (aC (λ_=>⟨vb dD,u⟩) λyR=>cO (aC (λ_=>⟨vb dD,u⟩) λoZ=>aD et u.At (dQ Sj (C110 p _ vr yN _ ⟨bK,bU,bN,aW,aX,bG,rfl,(J.ext u.aG),(dG.ext u.aG),(cW.ext u.aG),(M.ext u.aG),(cC.ext u.aG),(cP.ext u.aG)⟩ (Yi.ext u.aG) (Ps.ext u.aG) (by have:=B.threads;omega) (by have:=B.recover;omega)) ?_)))));rintro x41 _ cL;have u:=u.made cL;have aiX:DL _ _ (gl p):=DL.of u.dX ((Yj.append G).ext u.aG)
  refine aV XF u (C187 _ _ _ (λt=>t.dP.length<=500) _ _ aiX ⟨190,[],[],rfl,apY,λsv y I _ W E=>C190 y sv I W E⟩ (λ_ ht=>(B.qR ht).2.1) cK) (λ_ he u=>aY (λ_=>have u:=u.drop;⟨vb dD,u⟩) λvO=>aA jt (aB qP u.p1.hb rfl ?_));obtain⟨ts23,awL,U⟩:=cP.open;have hn23:=U.1;exact aK sY (awL.ext u.aG) (cO (have u:=u.drop;⟨vb dD,u⟩))
 rintro _ _ ⟨rfl,u⟩ _;exact⟨vb (aiW p),u.drop.aG⟩
theorem vu(x:bQ)(a b r:Bk)(n:Int):mE (.cons x a b r) n=(decide (64<rh x n)||(mE a (rh x n)||mE b (rh x n))||mE r n):=rfl
def adB{xs:List bQ}{k:Nat}{x:bQ}{a b r:Bk}(h:xs.drop k=(Bk.cons x a b r).flat)(u:(Bk.cons x a b r).str){hi lo:Int}(h1:hi=k+1+x.body+x.eu)(h2:lo=k+1):(xs.take hi.toNat).drop lo.toNat=(a.app b).flat:=by
 have B:=u
 obtain⟨E,G,_⟩:=B
 have e:=Bk.CU u (hi:=1+x.body+x.eu) (lo:=1) rfl rfl
 rw[<- e,<- h,List.take_drop,sW]
 grind
def Ym{xs:List bQ}{k:Nat}{x:bQ}{a b r:Bk}(h:xs.drop k=(Bk.cons x a b r).flat)(u:(Bk.cons x a b r).str):xs.drop (k+1+a.len+b.len)=r.flat:=by
 have B:=u
 obtain⟨E,G,_⟩:=B
 rw[<- Bk.aii u (hi:=1+x.body+x.eu) rfl,<- h,sW]
 grind
def Yn{α:Type}{xs l:List α}{k:Nat}{x:α}(h:xs.drop k=x::l):xs[k]?=some x:=by
 have:=gN (λl=>l[0]?) h
 grind
theorem C111(lv:Value)(t:Bk)(n:Int)(N:Nat)(w:World)(hL:DL w lv t.flat)(iT:t.str)(hq:∀x∈t.flat,0<=x.at_/\(x.kind=12->1<=x.n/\x.n<=8))(hn:1<=n/\n<=64)(hl:t.len<=1048576)(hN:t.len<N):CR 111 [lv,hZ n] w (λv w'=>∃a:Int,v=.tuple #[hZ a,.bool (mE t n)]/\Ext w w'):=by
 have tS:=t.cY;have B:=St.start w;refine adz _ _ _ _ ?_;unfold S111;refine⟨λm y w1=>∃(k:Nat) (u:Bk),y=hZ (k:Int)/\m=t.len-k/\t.flat.drop k=u.flat/\k+u.len=t.len/\u.str/\(∀x∈u.flat,0<=x.at_/\(x.kind=12->1<=x.n/\x.n<=8))/\mE t n=mE u n/\St w bD [] w1,⟨_,0,t,rfl,rfl,rfl,cK,iT,hq,rfl,B⟩,?_⟩;rintro m _ w1 ⟨k,u,rfl,rfl,Pz,M,J,I,G,B⟩ _;obtain⟨aio,W,Z⟩:=hL.open;have avy:=Z.1;refine aK fq (W.ext B.aG) (aR (aC (λjo=>?_) λjo=>?_))
 .obtain⟨x,a,b,r,rfl⟩:=Bk.Dt (t:=u) (by rw[Bk.cY];omega);obtain⟨q9,iY⟩:=gx aio (i:=(k:Int).toNat) cK;obtain⟨E,EC⟩:=gx t.flat (i:=(k:Int).toNat) cK;obtain⟨qh,qi,rfl,acC,acD⟩:=Z.2 _ _ _ iY EC;refine aO fq W cK iY (λ_ uH=>?_);obtain rfl:E=x:=oe.inj (EC.symm.trans (Yn Pz));have O:=I E (by simp[Bk.flat]);have awO:=J;obtain⟨Bz,F7,T6,hg4,hga,Y,hgr⟩:=awO;have Gl:k+(a.len+b.len+r.len+1)=t.len:=M;have hla:=a.cY;have N4:=b.cY;have hlr:=r.cY;have tj:=adB Pz J (hi:=(k:Int)+1+E.body+E.eu) (lo:=(k:Int)+1) rfl rfl
  have Gn:=Ym Pz J;refine aD eL (uH.ext B.aG) (aM B jw λxc _ B=>have B:=B.enc (cs':=j0 (⟨0,(kp #[]),(kp #[]),bX,bX,0,0,0,0⟩:bE)) rfl;aJ (x:=(⟨E.kind,E.eD,E.name,qh,qi,E.n,E.body,E.eu,E.at_⟩:bE)) B eL rfl rfl λ_ B=>aN cK (aA iW (aB (v:=hZ E.body) bL B.hb rfl (aN cK (aA iF (aB (v:=hZ E.eu) bL B.hb rfl (aN cK ⟨λjv w'=>∃m:Int,jv=hZ m/\m=rh E n/\St w bD [bY xc (j0 (⟨E.kind,E.eD,E.name,qh,qi,E.n,E.body,E.eu,E.at_⟩:bE))] w',aA dN (aB (v:=hZ E.kind) bL B.hb rfl (aH (aC (λmc=>aA jO (aB (v:=hZ E.n) bL B.hb rfl (IB (by have T7:=O.2 mc;have h1:=I2 (a:=1) (b:=1) hn.1 T7.1 cK cK;have h2:=I2 (c:=64) (d:=8) hn.2 T7.2 cK cK;omega) ⟨_,rfl,by grind[rh],B⟩))) λ_=>⟨_,rfl,by grind[rh],B⟩))),?_⟩)))))))
  rintro _ _ ⟨m,rfl,V,B⟩ _;have hm8:=XJ hn O.2 V;refine cO (aC (λoZ=>?_) λoZ=>?_)
  .refine aA lJ (aB (v:=hZ E.at_) bL B.hb rfl ?_);refine⟨E.at_,?_,B.drop.aG⟩;rw[G,vu,<- V,ez (show(64:Int)<m by omega)];rfl
  refine aN cK (ox fq (W.ext B.aG) cK cK cK λap6 PA=>?_);have Jk:=DL.cut PA W Z;refine dQ agB (C111 _ (a.app b) m (N-1) _ (by have h:=(Jk.ext B.aG);rw[tj]at h;exact h) (Bk.RZ hga Y) (λy U=>I y (by rw[Bk.AU]at U;simp only[Bk.flat,sl,pI];rcases pI.1 U with h|h<;>simp[h])) cK (by rw[Du];omega) (by rw[Du];omega)) ?_;rintro _ _ ⟨a1,rfl,he⟩;have B:=B.ext he;rw[Hh];refine aQ rfl (aQ rfl (aY (λsg=>?_) λsg=>⟨_,cK,k+1+a.len+b.len,r,gN (nf .i64) cK,rfl,Gn,cK,hgr,(λy U=>I y (by simp[Bk.flat,U])),by rw[G,vu,<- V,fN (show ¬ (64:Int)<m by omega),sg];rfl,B.drop⟩))
  refine⟨a1,?_,B.drop.aG⟩;rw[G,vu,<- V,sg];simp
 cases u with
 | nil=>exact⟨_,by rw[G];rfl,B.aG⟩
 | cons x a b r=>exact absurd M (by show ¬ k+(a.len+b.len+r.len+1)=_;omega)
termination_by N
decreasing_by all_goals omega
def PB:Int->List (List cJ)->List (cJ×Int)
 | _,[]=>[]
 | k,l::r=>l.map (λc=>(c,k))++PB (k+1) r
def N6:Int->List cJ->List (cJ×Int)
 | _,[]=>[]
 | k,c::r=>(c,k)::N6 (k+1) r
def tY(p:cE):List (cJ×Int):=PB 0 p.lines++N6 p.lines.length p.iO
theorem Jl:∀(ls:List (List cJ)) (k:Int),(PB k ls).length=ls.flatten.length
 | [],_=>rfl
 | l::r,k=>by simp[PB,Jl r]
theorem adC:∀(vs:List cJ) (k:Int),(N6 k vs).length=vs.length
 | [],_=>rfl
 | c::r,k=>by simp[N6,adC r]
theorem Jm:∀(ls:List (List cJ)) (k:Int),(PB k ls).map WY=ls.flatten
 | [],_=>rfl
 | l::r,k=>by simp[PB,Jm r,Function.comp_def]
theorem Jn:∀(vs:List cJ) (k:Int),(N6 k vs).map WY=vs
 | [],_=>rfl
 | c::r,k=>by simp[N6,Jn r]
theorem Yo{l:List cJ}{c:cJ}{j:Nat}(u:l[j]?=some c):∀(ls:List (List cJ)) (k:Int) (i:Nat),ls[i]?=some l->(PB k ls)[(ls.take i).flatten.length+j]?=some (c,k+i)
 | [],_,_,h=>by simp at h
 | a::r,k,0,h=>by
  grind[PB]
 | a::r,k,i+1,h=>by
  have B:=Yo u r (k+1) i dD
  grind[PB]
theorem Yp:∀(vs:List cJ) (k:Int) (j:Nat) (c:cJ),vs[j]?=some c->(N6 k vs)[j]?=some (c,k+j)
 | [],_,_,_,h=>by simp at h
 | a::r,k,0,c,h=>by simp at h;subst h;simp[N6]
 | a::r,k,j+1,c,h=>by
  have u:=Yp r (k+1) j c dD
  grind[N6]
theorem A5(p:cE):(tY p).map WY=im p:=by unfold tY im;rw[vd,Jm,Jn]
theorem uR(p:cE):(tY p).length=(im p).length:=by rw[<- A5,n0]
def Ua{p:cE}{l:List cJ}{c:cJ}{i j:Nat}(u:p.lines[i]?=some l)(B:l[j]?=some c):(tY p)[(p.lines.take i).flatten.length+j]?=some (c,(i:Int)):=by
 have h:=Yo B p.lines 0 i u
 unfold tY
 grind
def Yq{p:cE}{c:cJ}{j:Nat}(u:p.iO[j]?=some c):(tY p)[p.lines.flatten.length+j]?=some (c,(p.lines.length:Int)+j):=by
 unfold tY
 rw[sH (by rw[Jl];omega),Jl,Fg,Yp _ _ _ _ u]
def C195(y:Value)(b:Nat)(g0 g1:SV)(p:cE)(J:Nat->hM)(Jx:hM)(w0 w:World)(hz:PS p)(hL:DL w0 (ia g0) p.lines)(hV:dA (λ_=>True) w0 (ia g1) p.iO)
  (G:∀k W,J k W->Cell W b 0 (ia g0)/\Cell W b 1 (ia g1)/\Ext w0 W) (Yr:∀k W U,J k W->Ext W U->J k U) (h0:J 0 w)
  (hy:∀k c i W,(tY p)[k]?=some (c,i)->J k W->kH hH y [ia c,hZ i] W λv U=>(v=.bool true/\J (k+1) U)\/(v=.bool false/\Jx U)) :
  CR 195 [y,.pointer (some ⟨b,0,none⟩)] w (λ_ W=>J (tY p).length W\/Jx W):=by
 obtain⟨ts,hR,hD⟩:=hL.open;have hn:=hD.1;have hzl:=hz.lines;have hzv:=hz.iO;refine eX Tryz.func195 ?_;obtain⟨Cv,uS,he0⟩:=G 0 w h0;refine aA gw (bM oO Cv (aK pG (hR.ext he0) ?_));refine⟨λm x E=>∃i:Nat,x=hZ (i:Int)/\m=p.lines.length-i/\i<=p.lines.length/\J ((p.lines.take i).flatten.length) E,⟨_,0,rfl,rfl,l1 _,h0⟩,?_⟩;rintro m _ E ⟨i,rfl,rfl,hi,B⟩ _;refine aR (aC (λc=>?_) λc=>?_)
 .obtain⟨l,V⟩:=gx p.lines (i:=i) cK;obtain⟨t,ht⟩:=gx ts (i:=((i:Nat):Int).toNat) cK;have hdt:DL w0 (ia t) l:=hD.2 _ _ _ ht V;have O:=DL.flat hdt;have Bx:=hz.line l (kO V);have Z:=(G _ _ B).2.2;refine aO pG hR cK ht (λq M=>aD jK (M.ext Z) (aK il (O.ext Z) ?_));refine⟨λm x E=>∃j:Nat,x=hZ (j:Int)/\m=l.length-j/\j<=l.length/\J ((p.lines.take i).flatten.length+j) E,⟨_,0,rfl,rfl,l1 _,B⟩,?_⟩;rintro m _ w2 ⟨j,rfl,rfl,DZ,B⟩ _;refine aR (aC (λc=>?_) λ_=>aN cK ⟨_,cK,i+1,rfl,rfl,cK,by rw[xo V,lY,show l.length=j from cK];exact B⟩)
  obtain⟨x,I⟩:=gx l (i:=((j:Nat):Int).toNat) cK;have Y:=(G _ _ B).2.2;have u:=St.start w2;refine aO il O cK I (λq M=>aD l9 (M.ext Y) (aM u oT λb6 _ u=>aJ (x:=x) u l9 rfl rfl λw4 u=>aD l9 u.At ?_));refine kH.mono (hy _ x i w4 (Ua V I) (Yr _ _ _ B u.aG)) ?_;rintro v w5 (⟨rfl,B2⟩|⟨rfl,Hl⟩)
  .exact bR (ft (aN cK ⟨_,cK,j+1,rfl,rfl,cK,B2⟩))
  exact bR (iw (.inr Hl))
 rw[show p.lines.take i=p.lines from kW cK]at B;obtain⟨Cv,uS,Z⟩:=G _ _ B;refine aA qc (bM jK uS (aK il (hV.ext Z) ?_));refine⟨λm x E=>∃j:Nat,x=hZ (j:Int)/\m=p.iO.length-j/\j<=p.iO.length/\J (p.lines.flatten.length+j) E,⟨_,0,rfl,rfl,l1 _,B⟩,?_⟩;rintro m _ w6 ⟨j,rfl,rfl,DZ,B⟩ _;refine aR (aC (λc=>?_) λc=>?_)
 .obtain⟨x,I⟩:=gx p.iO (i:=((j:Nat):Int).toNat) cK;obtain⟨Cv,uS,Y⟩:=G _ _ B;have u:=St.start w6;refine aO il hV cK I (λq M=>aD l9 (M.ext Y) (aM u oT λb8 _ u=>aJ (x:=x) u l9 rfl rfl λw8 u=>aD l9 u.At (aA gw (bM oO (Cv.ext u.aG) (aK pG (hR.ext (Y.trans u.aG)) (aN cK ?_))))));rw[hn];refine kH.mono (hy _ x _ w8 (Yq I) (Yr _ _ _ B u.aG)) ?_;rintro v w9 (⟨rfl,B2⟩|⟨rfl,Hl⟩)
  .exact bR (ft (aN cK ⟨_,cK,j+1,rfl,rfl,cK,B2⟩))
  exact bR (iw (.inr Hl))
 refine .inl ?_;rw[uR]
 grind[im]
def C115(pv:bP)(w:World):CR 115 [ia pv] w (λv w'=>∃b,v=.func (.func 195) [].toArray [.pointer (some ⟨b,0,none⟩)].toArray/\lg (bY b (j0 pv)) w w'):=by
 have u:=St.start w;refine eX Tryz.func115 ?_;exact cI u (λb _ u=>⟨b,rfl,u.fresh⟩)
def C50(p:cE)(pv:bP)(w:World)(hp:mG w pv p)(hz:PZ p):CR 50 [ia pv] w (λv w'=>lg (bH v (cT p)) w w'):=by
 have hac:=kU hz.toPS;have oK:(tY p).length=(im p).length:=uR p;obtain⟨I,O,V,aW,Z,bG,rfl,cQ,dG,cW,cB,cC,cP⟩:=hp;have u:=St.start w;refine eX Tryz.func50 ?_;refine cI u (λbp _ u=>gB u ahE rfl λb3 _ u=>aD et u.p1.At (dQ Sh (C115 _ _) ?_));rintro _ _ ⟨b,rfl,cL⟩;have u:=(u.made cL).eM (α:=ByteArray)
 refine wN (cap:=[.pointer (some ⟨b,0,none⟩)]) (xs:=(tY p).map λq=>[ia q.1,hZ q.2]) Si u
  (λk M=>∃sv,M=[bH sv (((im p).take k).map cJ.name),bY b (j0 (⟨I,O,V,aW,Z,bG⟩:bP)),bY b3 [sv],bY bp (j0 (⟨I,O,V,aW,Z,bG⟩:bP))]) (λ_ _=>False) ⟨_,rfl⟩ (by intro x G;obtain⟨q,_,rfl⟩:=oi.1 G;rfl) ?_ ?_ ?_ ?_ ?_ ?_
 .intro y J Jx W hJ Yr TE hy;refine(C195 y b I O p J Jx w W hz.toPS cQ (DL.flat dG) (λk W E=>?_) Yr TE λk c i W G E=>hy k [ia c,hZ i] W (by rw[pd,G];rfl) E).mono λ_ _ r=>r.mono λv W' h=>?_
  .obtain⟨Y,M,⟨sv,rfl⟩,U⟩:=hJ k W E;exact⟨U.p2.hb.cell rfl,U.p2.hb.cell rfl,U.aG⟩
  simpa using h
 .rintro k args Y1 Y2 B Kr M W E ⟨sv,rfl⟩ hB hN hR u;rw[pd]at E;obtain⟨q,hq,rfl⟩:=Gm.1 E;have nO:=(kE.1 hq).1;have hc:(im p)[k]?=some q.1:=by rw[<- A5,pd,hq];rfl
  have Cx:(((im p).take k).map cJ.name).length=k:=by rw[n0,l0];omega
  dsimp only[D0];refine aM u oT (λb4 _ u=>aJ (x:=q.1) u l9 rfl rfl λ_ u=>?_);refine hB _ _ _ u.p1 (λ_ u=>?_);refine aB ji u.p4.hb rfl (aA kP (aB (v:=.string q.1.name) gv u.p1.hb rfl (aZ ([cJ.name q.1]) u iy rfl rfl (dL rfl) λs8 _ u=>?_)));have hr:=u.dX;refine bJ u.p3 iy hr (by rw[Cx,mf];omega) ee (λs9 _ u=>aT u.p5 ji (dL rfl) (Ja u.dX) λ_ u=>?_);refine hN _ _ ?_ ⟨s9,rfl⟩;rw[<- gd (k:=k) hc];exact u.p2.drop.p3.drop.p3.p2.p3
 .rintro D M W ⟨sv,rfl⟩ u;refine aB ji u.p3.hb rfl ?_;refine Eg u (λ_ u=>?_);rw[n0,oK,Ze]at u;exact u.p1.drop.p1.drop.p1.drop.fresh
 .rintro D M W h;exact h.elim
 .rintro id D M W h;exact h.elim
 rintro c M h;exact h.elim
def C55(p:cE)(pv:bP)(w:World)(hp:mG w pv p)(hz:PZ p):CR 55 [ia pv] w (λv w'=>lg (bH v (eT p)) w w'):=by
 have hac:=kU hz.toPS;have oK:(tY p).length=(im p).length:=uR p;obtain⟨I,O,V,aW,Z,bG,rfl,cQ,dG,cW,cB,cC,cP⟩:=hp;have u:=St.start w;refine eX Tryz.func55 ?_;refine cI u (λbp _ u=>gB u ahD rfl λb3 _ u=>aD et u.p1.At (dQ Sh (C115 _ _) ?_));rintro _ _ ⟨b,rfl,cL⟩;have u:=(u.made cL).eM (α:=Int)
 refine wN (cap:=[.pointer (some ⟨b,0,none⟩)]) (xs:=(tY p).map λq=>[ia q.1,hZ q.2]) Si u
  (λk M=>∃sv,M=[bH sv (((im p).take k).map cJ.n),bY b (j0 (⟨I,O,V,aW,Z,bG⟩:bP)),bY b3 [sv],bY bp (j0 (⟨I,O,V,aW,Z,bG⟩:bP))]) (λ_ _=>False) ⟨_,rfl⟩ (by intro x G;obtain⟨q,_,rfl⟩:=oi.1 G;rfl) ?_ ?_ ?_ ?_ ?_ ?_
 .intro y J Jx W hJ Yr TE hy;refine(C195 y b I O p J Jx w W hz.toPS cQ (DL.flat dG) (λk W E=>?_) Yr TE λk c i W G E=>hy k [ia c,hZ i] W (by rw[pd,G];rfl) E).mono λ_ _ r=>r.mono λv W' h=>?_
  .obtain⟨Y,M,⟨sv,rfl⟩,U⟩:=hJ k W E;exact⟨U.p2.hb.cell rfl,U.p2.hb.cell rfl,U.aG⟩
  simpa using h
 .rintro k args Y1 Y2 B Kr M W E ⟨sv,rfl⟩ hB hN hR u;rw[pd]at E;obtain⟨q,hq,rfl⟩:=Gm.1 E;have nO:=(kE.1 hq).1;have hc:(im p)[k]?=some q.1:=by rw[<- A5,pd,hq];rfl
  have Cx:(((im p).take k).map cJ.n).length=k:=by rw[n0,l0];omega
  dsimp only[D0];refine aM u oT (λb4 _ u=>aJ (x:=q.1) u l9 rfl rfl λ_ u=>?_);refine hB _ _ _ u.p1 (λ_ u=>?_);refine aB eg u.p4.hb rfl (aA rY (aB (v:=hZ q.1.n) bL u.p1.hb rfl (aZ ([cJ.n q.1]) u cS rfl rfl (dL rfl) λs8 _ u=>?_)));have hr:=u.dX;refine bJ u.p3 cS hr (by rw[Cx,mf];omega) ee (λs9 _ u=>aT u.p5 eg (dL rfl) (Ja u.dX) λ_ u=>?_);refine hN _ _ ?_ ⟨s9,rfl⟩;rw[<- gd (k:=k) hc];exact u.p2.drop.p3.drop.p3.p2.p3
 .rintro D M W ⟨sv,rfl⟩ u;refine aB eg u.p3.hb rfl ?_;refine Eg u (λ_ u=>?_);rw[n0,oK,Ze]at u;exact u.p1.drop.p1.drop.p1.drop.fresh
 .rintro D M W h;exact h.elim
 .rintro id D M W h;exact h.elim
 rintro c M h;exact h.elim
theorem Sl:∀(vs:List cJ) (k:Int) (j:Nat) (q:cJ×Int),(N6 k vs)[j]?=some q->q.2=k+j
 | [],_,_,_,h=>by simp[N6]at h
 | c::r,k,0,q,h=>by simp[N6]at h;grind
 | c::r,k,j+1,q,h=>by
  have:=Sl r (k+1) j q (by simpa[N6]using h)
  omega
theorem Ml(vs:List cJ):∀(ls:List (List cJ)) (i:Int) (a:Nat) (q:cJ×Int),(PB i ls++N6 (i+ls.length) vs)[a]?=some q->jq ls i a=q.2
 | [],i,a,q,h=>by
  have:=Sl vs (i+0) a q (by simpa[PB]using h)
  unfold jq;omega
 | l::r,i,a,q,h=>by
  unfold jq
  by_cases u:a<l.length
  .rw[ew cK]
   rw[PB,n3,tx dD,pd]at h
   grind
  .rw[ej cK]
   rw[PB,n3,sH (by simp;omega),n0]at h
   have e:(i+((l::r).length:Nat):Int)=i+1+(r.length:Nat):=dD
   rw[e]at h
   have:=Ml vs r (i+1) (a-l.length) q h
   grind
theorem Ys{p:cE}{k:Nat}{q:cJ×Int}(h:(tY p)[k]?=some q):py p k=q.2:=by
 have u:=(kE.1 h).1
 rw[uR]at u
 unfold py
 rw[ej cK]
 exact Ml p.iO p.lines 0 k q (by unfold tY at h;grind)
def C52(p:cE)(pv:bP)(c:Int)(w:World)(hp:mG w pv p)(hz:PZ p):CR 52 [ia pv,hZ c] w (λv w'=>v=hZ (py p c)/\Ext w w'):=by
 have hac:=kU hz.toPS;have oK:(tY p).length=(im p).length:=uR p;obtain⟨O,U,bN,aW,aX,bG,rfl,cQ,dG,cW,cB,cC,cP⟩:=hp;have u:=St.start w;refine eX Tryz.func52 ?_;refine cI u (λbp _ u=>nu u rfl λb3 _ u=>gB u uw rfl λb4 _ u=>gB u uw rfl λb5 _ u=>aT u bL (dL rfl) rfl λ_ u=>aD et u.p3.At (dQ Sh (C115 _ _) ?_));rintro _ _ ⟨b,rfl,cL⟩;have u:=u.made cL
 refine wN (cap:=[.pointer (some ⟨b,0,none⟩)]) (xs:=(tY p).map λq=>[ia q.1,hZ q.2]) Si u
  (λk M=>(∀j:Nat,j<k->¬ (j:Int)=c)/\M=[bY b (j0 (⟨O,U,bN,aW,aX,bG⟩:bP)),bY b5 [hZ (k:Int)],bY b4 [hZ 0],bY b3 [hZ c],bY bp (j0 (⟨O,U,bN,aW,aX,bG⟩:bP))])
  (λcd M=>cd=.ret/\M=[bY b4 [hZ (py p c)]]) ⟨cK,rfl⟩ (by intro x I;obtain⟨q,_,rfl⟩:=oi.1 I;rfl) ?_ ?_ ?_ ?_ ?_ ?_
 .intro y J Jx W hJ Yr TE hy;refine(C195 y b O U p J Jx w W hz.toPS cQ (DL.flat dG) (λk W E=>?_) Yr TE λk c i W I E=>hy k [ia c,hZ i] W (by rw[pd,I];rfl) E).mono λ_ _ r=>r.mono λv W' h=>?_
  .obtain⟨Y,M,⟨_,rfl⟩,Z⟩:=hJ k W E;exact⟨Z.p1.hb.cell rfl,Z.p1.hb.cell rfl,Z.aG⟩
  simpa using h
 .rintro k args Y1 Y2 B Kr M W E ⟨G,rfl⟩ hB hN hR u;rw[pd]at E;obtain⟨q,hq,rfl⟩:=Gm.1 E;have nO:=(kE.1 hq).1;dsimp only[D0];refine hB _ _ _ u (λ_ u=>?_);refine aB bL u.p2.hb rfl (aB bL u.p4.hb rfl (aH (aC (λV=>?_) λV=>aB bL u.p2.hb rfl (aN cK (aT u.p2 bL (dL rfl) rfl λ_ u=>hN _ _ u.p2.p2.p0 ⟨λj hj=>?_,rfl⟩)))))
  .refine aT u.p3 bL (dL rfl) rfl (λ_ u=>?_);refine hR _ [bY b4 [hZ (py p c)]] _ ?_ ⟨rfl,rfl⟩;rw[<- V,Ys hq];exact u.p2.drop.p2.drop.p2.drop.p2.drop.p1
  rcases N7 j k with h|h
  .exact G j h
  rw[show j=k from cK];exact V
 .rintro D M W ⟨G,rfl⟩ u;refine aT u.p3 bL (dL rfl) rfl (λ_ u=>?_);refine Eg u.p1 (λ_ u=>?_);refine aB bL u.hb rfl ?_;refine⟨gN (nf .i64) ?_,u.aG⟩;unfold py;rw[n0]at G
  rw[ew (by
   rcases Int.lt_or_le c 0 with h|h
   .exact .inl h
   .refine .inr ?_;have:=G c.toNat;omega)]
 .rintro D M W ⟨_,rfl⟩ u;refine Eg u (λ_ u=>?_);exact aB bL u.hb rfl ⟨rfl,u.aG⟩
 .rintro id D M W ⟨h,_⟩;cases h
 rintro c M ⟨h,_⟩;exact .inr h
variable (w:World) (K:Value->hM)
def awP:dI:=λi=>match i with
 | 22=>.run 0 6
 | _=>.nil
theorem ap7:PL 107:=dJ Tryz.func107
theorem Yt:PL 176:=dJ Tryz.func176
end Go.Proofs.YtpdlpabnlkofmaaGreatDoor
namespace Go.Fw
open Go.MapKept (Stamped IsKey)
open Go.ChangeMaps (setBlock)
def zK(l:List SI)(k:ByteArray)(v:Int):List SI:=if l.any (λp=>decide (p.1=k))then l.map (λp=>if p.1=k then(k,v)else p)else l++[(k,v)]
theorem Hm:∀(l:List SI) (k u:ByteArray) (v:Int),(∀p∈l,p.1≠k)->eF (l++[(k,v)]) u=if k=u then v else eF l u
 | [],k,u,v,_=>rfl
 | p::r,k,u,v,h=>by
  have E:=Hm r k u v (λq B=>h q (qb _ B))
  have G:=h p (oD ..)
  show(if p.1=u then p.2 else eF (r++[(k,v)]) u)=_
  rw[E]
  show _=if k=u then v else(if p.1=u then p.2 else eF r u)
  grind
theorem B7:∀(l:List SI) (k u:ByteArray) (v:Int),l.any (λp=>decide (p.1=k))=true->eF (l.map λp=>if p.1=k then(k,v)else p) u=if k=u then v else eF l u
 | [],_,_,_,h=>by simp at h
 | p::r,k,u,v,h=>by
  rw[J9]
  by_cases h1:p.1=k
  .rw[ew h1]
   show(if k=u then v else eF (r.map _) u)=if k=u then v else(if p.1=u then p.2 else eF r u)
   by_cases h2:k=u
   .grind
   .rw[ej h2,ej h2,ej λe=>h2 (h1.symm.trans e)]
    by_cases h3:r.any (λp=>decide (p.1=k))=true
    .rw[B7 r k u v h3,ej h2]
    .congr 1
     have:∀q∈r,q.1≠k:=λq B e=>h3 (wY.2 ⟨q,B,ez e⟩)
     conv=>rhs;rw[<- List.map_id r]
     exact A4 λq B=>ej (this q B)
  .rw[ej h1]
   have h3:r.any (λp=>decide (p.1=k))=true:=by
    grind
   show(if p.1=u then p.2 else eF (r.map _) u)=if k=u then v else(if p.1=u then p.2 else eF r u)
   rw[B7 r k u v h3]
   grind
theorem B8(l:List SI)(k u:ByteArray)(v:Int):eF (zK l k v) u=if k=u then v else eF l u:=by
 unfold zK
 by_cases h:l.any (λp=>decide (p.1=k))=true
 .rw[ew h,B7 l k u v h]
 rw[ej h,Hm l k u v λp B e=>h (wY.2 ⟨p,B,ez e⟩)]
def adD{l:List SI}{k:ByteArray}{v:Int}(h:∀p∈l,p.2≠0)(B:v≠0):∀p∈zK l k v,p.2≠0:=by
 intro p u
 unfold zK at u
 grind
section
variable {P:Program}{w w0 w':World}{A:Nat->Prop}{L:List HP}{b:Nat}{l:List SI}
theorem Yu{T M E:TypeId}{v:Int}{k:ByteArray}(h:uL w b l)(ht:P.underlying T=some (.map M E))(J:P.underlying M=some .string) :
  ∃w',(wQ T (.map (some b)) (.string k) (hZ v)).run P w=.ok () w'/\gu (· = b) w w'/\uL w' b (zK l k v):=by
 by_cases eE:∀p∈l,p.1≠k
 .have:l.any (λp=>decide (p.1=k))=false:=by
   grind
  unfold zK
  rw[ej dD]
  exact LN h ht J eE
 have V:l.any (λp=>decide (p.1=k))=true:=by
  grind
 unfold zK
 rw[ew V]
 have nO:=h.lt
 obtain⟨es,c,h1,h2,h3⟩:=h
 have hc:=MapKept.run_checkKey (P:=P) (w:=w) (kt:=M) (k:=.string k) J (by simp[IsKey]) false 9999
 rcases MapKept.findNow_spec (d:=.string) (k:=.string k) (by simp[IsKey]) es.toList 0 (λx G=>by obtain⟨p,_,e,_⟩:=Xi h3 G;rw[e];simp[IsKey])with⟨Y,g2⟩|⟨j,e,Y,g2,g4⟩
 .obtain⟨p,U,he⟩:=wY.1 V
  obtain⟨x,G,e1,_⟩:=Xj h3 U
  grind
 have W:=MapKept.run_findKey (P:=P) (w:=w) J Y
 rw[Nat.zero_add]at W
 have Z:es[j]?=some e:=dD
 have iT:(MY e.key (.string k)).run P w=.ok (.string k) w:=by
  have vV:(k == k)=true:=by cases k with|mk d=>exact beq_self_eq_true d
  rw[g4];unfold MY;simp[Instr.sameBits,vV]
 refine⟨_,?_,gu.setBlock w b (.map (es.modify j λe=>{e with key:=.string k,val:=hZ v}) c),?_⟩
 .simp[wQ,run_underlying ht,MapKept.run_getObj_map h1,hc,W,n6 h1,Result.andThen,Z,iT]
 have Ka:∀u,es[j]?=some u->({u with key:=.string k,val:=hZ v}:MapEntry).key=u.key:=λu B=>by
  grind
 refine⟨_,_,kh _ nO,MapKept.stamped_modify h2 j _ (λ_ _=>rfl) (λu _ B=>Ka u B),?_⟩
 let g:Value×Value->Value×Value:=λq=>match q.1 with|.string s=>if s=k then(.string k,hZ v)else q|_=>q
 have hg:(es.modify j λe=>{e with key:=.string k,val:=hZ v}).toList.map (λe=>(e.key,e.val))=(es.toList.map λe=>(e.key,e.val)).map g:=by
  apply List.ext_getElem?
  intro i
  simp only[pd,Array.getElem?_toList,Array.getElem?_modify]
  by_cases O:j=i
  .grind
  .rw[ej O]
   cases G:es[i]? with
   | none=>rfl
   | some x=>
    have F9:x.key≠.string k:=λhxk=>by
     have hi:=(Ct.1 G)
     have hj:=(Ct.1 Z)
     obtain⟨hi1,Vq⟩:=hi
     obtain⟨hj1,B2⟩:=hj
     have U:=P3.1 h2.2.2
     grind
    grind
 have hl:(l.map λp=>if p.1=k then(k,v)else p).map RU=(l.map RU).map g:=by
  rw[Ix,Ix]
  refine A4 λp _=>?_
  show RU (if p.1=k then(k,v)else p)=g (RU p)
  by_cases I:p.1=k
  .rw[ew I];simp[g,RU,I]
  .rw[ej I];simp[g,RU,I]
 grind
theorem Yv{T G E:TypeId}{v:Int}{k:ByteArray}{K:hM}(I:St w0 A (Fw.ni b l::L) w)(ht:P.underlying T=some (.map G E))(u:P.underlying G=some .string)
  (J:∀w',St w0 A (Fw.ni b (zK l k v)::L) w'->K w'):Vf P (wQ T (.map (some b)) (.string k) (hZ v)) w K:=by
 obtain⟨w',h1,h2,h3⟩:=Yu (P:=P) (v:=v) (k:=k) I.ni ht u
 exact⟨w',h1,J w' (I.ry λF B=>⟨F,⟨h3,B.2⟩,λb hb=>.inl hb,h2.mono λk u=>(B.2 k).2 u⟩)⟩
end
end Go.Fw
namespace Go.Proofs.YtpdlpabnlkofmaaGreatDoor
open Go.Fw
def sD(b3 b4 B u:Nat)(l:List SI)(tw:Bool)(a:Int):HP:=sep (bY b3 [.map (some u)]) (sep (bY b4 [.bool tw]) (sep (bY B [hZ a]) (ni u l)))
def sD.shut{w0 w:World}{A:Nat->Prop}{L:List HP}{b3 b4 B u:Nat}{l:List SI}{tw:Bool}{a:Int}(E:St w0 A (ni u l::bY B [hZ a]::bY b4 [.bool tw]::bY b3 [.map (some u)]::L) w):St w0 A (sD b3 b4 B u l tw a::L) w:=
 St.join (St.join (St.join E.p1).p1).p1
def sD.open{w0 w:World}{A:Nat->Prop}{L:List HP}{b3 b4 B u:Nat}{l:List SI}{tw:Bool}{a:Int}(E:St w0 A (sD b3 b4 B u l tw a::L) w):St w0 A (ni u l::bY B [hZ a]::bY b4 [.bool tw]::bY b3 [.map (some u)]::L) w:=
 E.split.p1.split.p1.split.p1
def atN(l:List SI)(name:ByteArray)(tw:Bool)(place a:Int):Int:=if eF l name≠0/\tw=false then place else a
def twN(l:List SI)(name:ByteArray)(tw:Bool):Bool:=tw||decide (eF l name≠0)
theorem C176(name:ByteArray)(B place:Int)(b3 b4 E G:Nat)(l:List SI)(tw:Bool)(a:Int)(F:Nat->Prop)(w:World)(O:(sD b3 b4 E G l tw a).p w F) :
  CR 176 [.string name,hZ B,hZ place,.pointer (some ⟨b3,0,none⟩),.pointer (some ⟨b4,0,none⟩),.pointer (some ⟨E,0,none⟩)] w (λv w'=>v=.tuple #[]/\mP F (sD b3 b4 E G (zK l name B) (twN l name tw) (atN l name tw place a)) w w'):=by
 have u:=sD.open (St.begin O);refine eX Tryz.func176 ?_;refine⟨λw'=>St w F [ni G l,bY E [hZ (atN l name tw place a)],bY b4 [.bool (twN l name tw)],bY b3 [.map (some G)]] w',⟨λM w'=>M=.bool (decide (eF l name≠0)&&!tw)/\w'=w,aB GX u.p3.hb rfl (yd u.ni Tryz.underlying165 Tryz.underlying9 uw (bW (aC (λc=>aB Ak u.p2.hb rfl (bR ⟨vb (by rw[ez c,yk]),rfl⟩)) λc=>⟨vb (by rw[fN c,P1]),rfl⟩))),?_⟩,?_⟩
 .rintro _ _ ⟨rfl,rfl⟩ _;refine aY (λc=>?_) (λc=>?_)
  .have hc:eF l name≠0/\tw=false:=by simpa using c
   refine aT u.p1 bL (dL rfl) rfl (λ_ u=>aT u.p2 Ak (dL rfl) rfl λ_ u=>?_);have J:atN l name tw place a=place:=ew hc;have I:twN l name tw=true:=by unfold twN;rw[ez hc.1,Bool.or_true]
   rw[J,I];exact u.p1.p2
  have hc:¬ (eF l name≠0/\tw=false):=by simpa using c
  have J:atN l name tw place a=a:=ej hc
  have I:twN l name tw=tw:=by
   unfold twN;cases tw with
   | true=>rfl
   | false=>rw[Bool.false_or];exact fN λh=>hc ⟨h,rfl⟩
  rw[J,I];exact u
 rintro _ u _;exact aB GX u.p3.hb rfl (Yv u Tryz.underlying165 Tryz.underlying9 λ_ u=>⟨rfl,(sD.shut u).mut⟩)
def Yw(st:List SI×Bool×Int)(q:ByteArray×Int×Int):List SI×Bool×Int:=(zK st.1 q.1 q.2.1,twN st.1 q.1 st.2.1,atN st.1 q.1 st.2.1 q.2.2 st.2.2)
def CG(p:cE)(i:Int):Int:=if (p.lines.length:Int)<=i then 2 else 1
def Vs(p:cE):List (ByteArray×Int×Int):=(tY p).map λq=>(q.1.name,CG p q.2,q.1.at_)
def Ub(p:cE):List (ByteArray×Int×Int):=p.eJ.map λc=>(c.name,3,c.at_)
def Vt(p:cE):List (ByteArray×Int×Int):=p.threads.map λt=>(t.name,4,t.at_)
def zW(l:List (ByteArray×Int×Int))(st:List SI×Bool×Int):List SI×Bool×Int:=l.foldl Yw st
def CH(p:cE):List SI×Bool×Int:=zW (Vt p) (zW (Ub p) (zW (Vs p) ([],false,0)))
theorem Fh{l:List (ByteArray×Int×Int)}{st:List SI×Bool×Int}{k:Nat}{q:ByteArray×Int×Int}(h:l[k]?=some q):zW (l.take (k+1)) st=Yw (zW (l.take k) st) q:=by
 unfold zW;rw[<- gI h,List.foldl_append];rfl
abbrev NO(b3 b4 u B:Nat)(st:List SI×Bool×Int):HP:=sD b3 b4 u B st.1 st.2.1 st.2.2
def C107(p:cE)(pv:bP)(w:World)(hp:mG w pv p)(hz:PZ p):CR 107 [ia pv] w (λv w'=>∃G,v=.tuple #[.map (some G),hZ (CH p).2.2,.bool (CH p).2.1]/\lg (ni G (CH p).1) w w'):=by
 have hac:=kU hz.toPS;have oK:(tY p).length=(im p).length:=uR p;have hzl:=hz.lines;have hzk:=hz.eJ;have hzt:=hz.threads;obtain⟨I,V,U,Z,aX,bG,rfl,cQ,dG,cW,cB,cC,cP⟩:=hp;obtain⟨WR,hR1,hD1⟩:=cQ.open;have WT:=hD1.1;obtain⟨vr,Yi,Yj⟩:=cB.open;have hn3:=Yj.1;have hKr:=DL.flat cW;have u:=St.start w;refine oH Tryz.func107 (pl:=awP) ?_;refine cI u (λbp w1 u=>LO u λG _ u=>gB u Rw rfl λb3 _ u=>aT u GX (dL rfl) rfl λ_ u=>gB u uw rfl λE _ u=>gB u V8 rfl λb4 _ u=>aT u Ak (dL rfl) rfl λ_ u=>gB u acg rfl λb8 _ u=>aT u RB (dL rfl) rfl λ_ u=>aD et u.p5.At (have u:=sD.shut (a:=0) (tw:=false) u.p3.p2.p3.p4;dQ Sh (C115 _ _) ?_))
 rintro _ _ ⟨b,rfl,cL⟩;have u:=u.made cL
 refine wN (cap:=[.pointer (some ⟨b,0,none⟩)]) (xs:=(tY p).map λq=>[ia q.1,hZ q.2]) Si u
  (λk M=>M=[bY b (j0 (⟨I,V,U,Z,aX,bG⟩:bP)),NO b3 b4 E G (zW ((Vs p).take k) ([],false,0)),bY b8 [(.func (.func 176) [].toArray [.pointer (some ⟨b3,0,none⟩),.pointer (some ⟨b4,0,none⟩),.pointer (some ⟨E,0,none⟩)].toArray)],bY bp (j0 (⟨I,V,U,Z,aX,bG⟩:bP))]) (λ_ _=>False) rfl (by intro x hx;obtain⟨q,_,rfl⟩:=oi.1 hx;rfl) ?_ ?_ ?_ ?_ ?_ ?_
 .intro y J Jx W hJ Yr TE hy;refine(C195 y b I V p J Jx w W hz.toPS cQ (DL.flat dG) (λk W O=>?_) Yr TE λk c i W hx O=>hy k [ia c,hZ i] W (by rw[pd,hx];rfl) O).mono λ_ _ r=>r.mono λv W' h=>?_
  .obtain⟨Y,M,rfl,hS⟩:=hJ k W O;exact⟨hS.p1.hb.cell rfl,hS.p1.hb.cell rfl,hS.aG⟩
  simpa using h
 .rintro k args Y1 Y2 B Kr M W O rfl hB hN hR u;rw[pd]at O;obtain⟨q,hq,rfl⟩:=Gm.1 O;have hc:(Vs p)[k]?=some (q.1.name,CG p q.2,q.1.at_):=by unfold Vs;rw[pd,hq];rfl
  dsimp only[D0];refine aM u oT (λb9 _ u=>aJ (x:=q.1) u l9 rfl rfl λ_ u=>?_);refine hB _ _ _ u.p1 (λSm u=>?_);refine⟨λjv w'=>jv=hZ (CG p q.2)/\w'=Sm,aA gw (aB (v:=ia I) oO u.p5.hb rfl (aK pG (hR1.ext u.aG) (cR (aC (λ_=>⟨gN (nf .i64) (ew cK).symm,rfl⟩) λ_=>⟨gN (nf .i64) (ej cK).symm,rfl⟩)))),?_⟩;rintro _ _ ⟨rfl,rfl⟩ _;refine aB RB u.p4.hb rfl (aA kP (aB (v:=.string q.1.name) gv u.p1.hb rfl (aA uB (aB (v:=hZ q.1.at_) bL u.p1.hb rfl (AS (first:=[]) (cap:=[.pointer (some ⟨b3,0,none⟩),.pointer (some ⟨b4,0,none⟩),.pointer (some ⟨E,0,none⟩)]) (H':=λ_=>NO b3 b4 E G (Yw (zW ((Vs p).take k) ([],false,0)) (q.1.name,(CG p q.2),q.1.at_))) (Φ:=λv _=>v=.tuple #[]) Yt u.p3 (λF hF _=>C176 q.1.name (CG p q.2) q.1.at_ b3 b4 E G _ _ _ F _ hF) λv _ _ u=>?_)))))
  refine hN _ _ ?_ rfl;rw[Fh hc];exact u.p2.drop.p2.p2
 .rintro D M W rfl u;rw[n0,show(Vs p).take (tY p).length=Vs p from kW (by unfold Vs;rw[n0];exact o1 _)]at u;obtain⟨s0,hs0⟩:∃s,s=zW (Vs p) ([],false,0):=⟨_,rfl⟩;rw[<- hs0]at u;refine aA nP (aB (v:=ia U) jK u.p4.hb rfl (aK il (hKr.ext u.aG) ?_));refine⟨λm x w1=>∃k:Nat,x=hZ (k:Int)/\m=p.eJ.length-k/\k<=p.eJ.length/\St w bD [nE D (.deferred (some [])),bY b (j0 (⟨I,V,U,Z,aX,bG⟩:bP)),NO b3 b4 E G (zW ((Ub p).take k) s0),bY b8 [(.func (.func 176) [].toArray [.pointer (some ⟨b3,0,none⟩),.pointer (some ⟨b4,0,none⟩),.pointer (some ⟨E,0,none⟩)].toArray)],bY bp (j0 (⟨I,V,U,Z,aX,bG⟩:bP))] w1,⟨_,0,rfl,rfl,l1 _,(by rw[show zW ((Ub p).take 0) s0=s0 from rfl];exact u)⟩,?_⟩
  rintro m _ _ ⟨k,rfl,rfl,O,u⟩ _;refine aR (aC (λc=>?_) λc=>?_)
  .obtain⟨x,hx⟩:=gx p.eJ (i:=((k:Nat):Int).toNat) cK;have hx':p.eJ[k]?=some x:=hx;have hc:(Ub p)[k]?=some (x.name,3,x.at_):=by unfold Ub;rw[pd,hx'];rfl
   refine aO il hKr cK hx (λq hq=>aD l9 (hq.ext u.aG) (aM u oT λb9 _ u=>aJ (x:=x) u l9 rfl rfl λ_ u=>aB RB u.p4.hb rfl (aA kP (aB (v:=.string x.name) gv u.hb rfl (aA uB (aB (v:=hZ x.at_) bL u.hb rfl (AS (first:=[]) (cap:=[.pointer (some ⟨b3,0,none⟩),.pointer (some ⟨b4,0,none⟩),.pointer (some ⟨E,0,none⟩)]) (H':=λ_=>NO b3 b4 E G (Yw (zW ((Ub p).take k) s0) (x.name,3,x.at_))) (Φ:=λv _=>v=.tuple #[]) Yt u.p3 (λF hF _=>C176 x.name 3 x.at_ b3 b4 E G _ _ _ F _ hF) λv _ _ u=>aN cK ?_)))))));refine⟨_,cK,k+1,rfl,rfl,cK,?_⟩
   rw[Fh hc];exact u.p1.drop.p2.p2
  rw[show(Ub p).take k=Ub p from kW (by unfold Ub;rw[n0];omega)]at u;obtain⟨s1,Uc⟩:∃s,s=zW (Ub p) s0:=⟨_,rfl⟩;rw[<- Uc]at u;refine aA kF (aB (v:=ia Z) ix u.p4.hb rfl (aK fu (Yi.ext u.aG) ?_));refine⟨λm x w1=>∃k:Nat,x=hZ (k:Int)/\m=vr.length-k/\k<=vr.length/\St w bD [nE D (.deferred (some [])),bY b (j0 (⟨I,V,U,Z,aX,bG⟩:bP)),NO b3 b4 E G (zW ((Vt p).take k) s1),bY b8 [(.func (.func 176) [].toArray [.pointer (some ⟨b3,0,none⟩),.pointer (some ⟨b4,0,none⟩),.pointer (some ⟨E,0,none⟩)].toArray)],bY bp (j0 (⟨I,V,U,Z,aX,bG⟩:bP))] w1,⟨_,0,rfl,rfl,l1 _,(by rw[show zW ((Vt p).take 0) s1=s1 from rfl];exact u)⟩,?_⟩
  rintro m _ _ ⟨k,rfl,rfl,O,u⟩ _;refine aR (aC (λc=>?_) λc=>?_)
  .obtain⟨t,ht⟩:=gx vr (i:=((k:Nat):Int).toNat) cK;obtain⟨r,hr⟩:=gx p.threads (i:=k) cK;obtain⟨gr,gb,rfl,_,_⟩:=Yj.2 _ _ _ ht hr;have hc:(Vt p)[k]?=some (r.name,4,r.at_):=by unfold Vt;rw[pd,hr];rfl
   refine aO fu Yi cK ht (λq hq=>aD m4 (hq.ext u.aG) (aM u tA λb9 _ u=>aJ u m4 rfl rfl λ_ u=>aB RB u.p4.hb rfl (aA qn (aB (v:=.string r.name) gv u.hb rfl (aA qo (aB (v:=hZ r.at_) bL u.hb rfl (AS (first:=[]) (cap:=[.pointer (some ⟨b3,0,none⟩),.pointer (some ⟨b4,0,none⟩),.pointer (some ⟨E,0,none⟩)]) (H':=λ_=>NO b3 b4 E G (Yw (zW ((Vt p).take k) s1) (r.name,4,r.at_))) (Φ:=λv _=>v=.tuple #[]) Yt u.p3 (λF hF _=>C176 r.name 4 r.at_ b3 b4 E G _ _ _ F _ hF) λv _ _ u=>aN cK ?_)))))));refine⟨_,cK,k+1,rfl,rfl,cK,?_⟩
   rw[Fh hc];exact u.p1.drop.p2.p2
  rw[show(Vt p).take k=Vt p from kW (by unfold Vt;rw[n0];omega),Uc,hs0]at u;have u:=sD.open u.drew.p2;refine aB GX u.p3.hb rfl (aB bL u.p1.hb rfl (aB Ak u.p2.hb rfl ?_));refine Eg u.p4 (λ_ u=>?_);exact⟨G,rfl,u.p1.drop.p1.drop.p1.drop.p1.drop.p1.drop.p1.drop.fresh⟩
 .rintro D M W h;exact h.elim
 .rintro id D M W h;exact h.elim
 rintro c M h;exact h.elim
def vv(E:ByteArray)(I:Int)(B:Option Addr)(G u:Nat):pr hH (Instr.build 177 [(0,.string E),(1,hZ I),(2,.slice B G u)].toArray)=some (.agg [.string E,hZ I,.slice B G u].toArray):=by kernel_rfl
structure Jo where
 name:ByteArray
 at_:Int
 may:SV
instance:Flat Jo where
 agg:=true
 sz:=3
 enc e:=[.string e.name,hZ e.at_,.slice e.may.a e.may.n e.may.cap]
 val e:=.agg [.string e.name,hZ e.at_,.slice e.may.a e.may.n e.may.cap].toArray
 pos:=ee
 len _:=rfl
 one a v h:=by simp at h;rcases h with rfl|rfl|rfl<;>rfl
 nx _ _:=rfl
 nT h:=by cases h
variable (w:World) (K:Value->hM)
theorem agD:PL 193:=dJ Tryz.func193
theorem aqa:PL 113:=dJ Tryz.func113
theorem aqb:PL 192:=dJ Tryz.func192
end Go.Proofs.YtpdlpabnlkofmaaGreatDoor
namespace Go.Fw
def PC:List Nat->HP
 | []=>eG λ_=>True
 | D::r=>sep (nE D (.deferred (some []))) (PC r)
def adF(P:Program)(w0:World)(A:Nat->Prop)(I:Nat->List HP->Prop)(B:hM)(y:Value)(E:Nat->List Value->(hM)->Prop):Prop:=
 ∀k args Φ W (R:HP) L,E k args Φ->(∀F u,R.p u F->Φ u)->I k L->St w0 A (R::L) W->kH P y args W (λv u=>(v=.bool true/\∃L',I (k+1) L'/\St w0 A (R::L') u)\/(v=.bool false/\B u))
section
variable {P:Program}{w w0 w':World}{A:Nat->Prop}{L:List HP}
theorem PC.nil(u:St w0 A L w):St w0 A (PC []::L) w:=u.fy λ_=>trivial
theorem PC.take{K:hM}:∀(ds:List Nat) {w:World},St w0 A (PC ds::L) w->(∀w',St w0 A L w'->K w')->mQ ds w K
 | [],_,u,k=>k _ u.drop
 | D::r,_,u,k=>by
  have h1:=u.split
  exact⟨h1.obj,PC.take r (h1.putObj _).drop k⟩
theorem Yx{gf np:Nat}{cap:List Value}(n:Nat)(Ar:Nat->List Value->(hM)->Prop){round:List Value->World->(World->(hM)->Prop)->(Option Code->hM)->Prop}
  {N R:Nat->hM}{X:Nat->Nat->hM}(pl:Plain P gf) (hs:St w0 A L w) (I:Nat->List HP->Prop) (U:Code->List HP->Prop) (h0:I 0 L) (hnp:∀k a Φ,Ar k a Φ->a.length=np)
  (hgf:∀(y:Value) (Y:HP) (Z:hM) (W:World),(∃M,I 0 M/\St w0 A (Y::M) W)->adF P w0 A (λk L=>∃M,I k M/\L=Y::M) Z y Ar->
   Calls P gf ([y]++cap).toArray W (tP λ_ O=>(∃M,I n M/\St w0 A (Y::M) O)\/Z O))
  (D1:∀k args Φ (Y1 Y2:HP) (B:World->(hM)->Prop) (Kr:Option Code->hM) M W,Ar k args Φ->I k M->(∀F O,Y2.p O F->Φ O)->
   (∀M u (kk:hM),St w0 A (Y1::M) u->(∀w2,St w0 A (Y2::M) w2->kk w2)->B u kk)->
   (∀M u,St w0 A (Y2::M) u->I (k+1) M->Kr none u)->(∀c M u,St w0 A (Y2::M) u->U c M->Kr (some c) u)->
   St w0 A (Y1::M) W->round args W B Kr)
  (Wu:∀D M W,I n M->St w0 A (nE D (.deferred (some []))::M) W->N D W)
  (ahF:∀D M W,U .ret M->St w0 A (nE D (.deferred (some []))::M) W->R D W)
  (Wv:∀id D M W,U (.exit id) M->St w0 A (nE D (.deferred (some []))::M) W->X id D W)
  (OI:∀c M,U c M->(∃id,c=.exit id)\/c=.ret) :
  Ac P (.func (.func gf) #[] cap.toArray) np w round (aft N R X):=by
 refine⟨gf,cap.toArray,rfl,pl,λG iT Bu hy=>?_⟩
 obtain⟨l,hl⟩:∃l,l=w.heap.size+1:=⟨_,rfl⟩
 obtain⟨D,hD⟩:∃D,D=w.heap.size:=⟨_,rfl⟩
 rw[<- hl]at hy |-
 rw[<- hD]
 let Y:HP:=sep (nE l (.loop G)) (nE D (.deferred (some [])))
 let Z:hM:=λW=>∃c M,U c M/\St w0 A (nE l (.loop {G with state:=.done,pending:=some c})::nE D (.deferred (some []))::M) W
 have TE:∃M,I 0 M/\St w0 A (Y::M) ((w.alloc (.deferred (some []))).alloc (.loop G)):=by
  refine⟨L,h0,?_⟩
  have h1:=(hs.alloc (o:=.deferred (some []))).alloc (o:=.loop G)
  rw[show(w.alloc (.deferred (some []))).heap.size=l from by rw[hl];exact BI w _,<- hD]at h1
  exact St.join h1
 have:=hgf (.func (.yield l) #[] #[]) Y Z _ TE ?_
 .have e:([Value.func (.yield l) #[] #[]]++cap).toArray = #[.func (.yield l) #[] #[]]++cap.toArray:=ei
  rw[e]at this
  refine this.mono λx O ⟨v,hx,hv⟩=>⟨v,hx,?_⟩
  rcases hv with⟨M,J,E⟩|⟨c,M,J,E⟩
  .have E:=E.split
   refine⟨.ready,none,ei,?_,?_⟩
   .rw[<- iT,<- Bu];exact E.obj
   exact Wu D M _ J (E.putObj _).drop
  refine⟨.done,some c,ei,E.obj,?_⟩
  rcases OI c M J with⟨id,rfl⟩|rfl
  .exact Wv id D M _ J (E.putObj _).drop
  exact ahF D M _ J (E.putObj _).drop
 rintro k args Φ W R _ hk hR ⟨M,J,rfl⟩ E
 have V:=E.p1.split
 refine⟨.inr ⟨l,rfl,?_⟩⟩
 refine hy args W _ (hnp k args Φ hk) V.obj ?_
 refine D1 k args Φ (sep (sep (nE l (.loop G)) (nE D (.deferred (some [])))) R) (sep (sep (nE l (.loop {G with state:=.busy})) (nE D (.deferred (some [])))) R) _ _ M W hk J (λF W2 ⟨_,F2,_,h2,_⟩=>hR F2 W2 h2)
  (λM u kk h1 h2=>?_) (λM u h1 h2=>?_) (λc M u h1 h2=>?_) (St.join (St.join V))
 .have h1:=h1.split.split
  exact⟨h1.obj,h2 _ (h1.putObj _).join.join⟩
 .have h1:=h1.split.split
  refine⟨h1.obj,.inl ⟨rfl,_,⟨M,h2,rfl⟩,?_⟩⟩
  have:=h1.putObj (.loop {G with state:=if (none:Option Code).isNone=true then LoopState.ready else LoopState.done,pending:=none})
  rw[Eh G iT Bu]at this |-
  exact(St.join this).p1
 have h1:=h1.split.split
 refine⟨h1.obj,.inr ⟨rfl,c,M,h2,?_⟩⟩
 exact(h1.putObj _).p2.drop
end
end Go.Fw
namespace Go.Proofs.YtpdlpabnlkofmaaGreatDoor
open Go.Fw
abbrev UU:=ByteArray×Int×List Int
def qD(xs:List cA):List cA:=xs.filter λx=>decide (x.op=2)
theorem Hn{xs:List cA}{k:Nat}{x:cA}(h:xs[k]?=some x):qD (xs.take (k+1))=qD (xs.take k)++(if x.op=2 then [x]else []):=by
 unfold qD;rw[<- gI h,zp];grind
def adG{xs:List cA}{k:Nat}{x:cA}(h:xs[k]?=some x)(u:x.op=2):(qD xs)[(qD (xs.take k)).length]?=some x:=by
 have h1:=drop_cons h
 have e:qD xs=qD (xs.take k)++qD (xs.drop k):=by unfold qD;rw[<- zp,pJ]
 grind[qD]
def Sn(l:List UU)(k:Nat)(args:List Value)(Φ:hM):Prop:=∃u s,l[k]?=some u/\args=[ia (⟨u.1,u.2.1,s⟩:Jo)]/\∀W,Φ W->dA (λ_=>True) W (ia s) u.2.2
def awQ{H H':HP}{Φ:hM}(h:∀F W,H.p W F->Φ W):∀F W,(sep H H').p W F->Φ W:=λ_ _ ⟨_,_,h1,_⟩=>h _ _ h1
def Jp{α:Type}[Flat α]{v:Value}{xs:List α}:∀F W,(bH v xs).p W F->dA (λ_=>True) W v xs:=λ_ _ h=>(bH.rd h).mono λ_ _=>trivial
def C193(lv y:Value)(xs:List cA)(may:Int)(ul:List UU)(J:Nat)(w0:World)(A:Nat->Prop)(I:Nat->List HP->Prop)(Y:hM)(w:World)(hn:xs.length<=1048576)
  (hE:∀k L W,I k L->St w0 A L W->dA (λ_=>True) W lv xs) (h0:∃L,I J L/\St w0 A L w) (hu:∀(j:Nat) (x:cA),(qD xs)[j]?=some x->ul[J+j]?=some (x.name,x.at_,[may])) (hy:adF hH w0 A I Y y (Sn ul)) :
  CR 193 [lv,hZ may,y] w (λv W=>(v=.bool true/\∃L,I (J+(qD xs).length) L/\St w0 A L W)\/(v=.bool false/\Y W)):=by
 refine eX Tryz.func193 ?_;obtain⟨L0,B,E⟩:=h0;refine aK gV (hE _ _ _ B E) ?_;refine⟨λm x w1=>∃k:Nat,x=hZ (k:Int)/\m=xs.length-k/\k<=xs.length/\∃L,I (J+(qD (xs.take k)).length) L/\St w0 A L w1,⟨_,0,rfl,rfl,l1 _,L0,B,E⟩,?_⟩;rintro m _ w1 ⟨k,rfl,rfl,hk,L1,G,u⟩ _;refine aR (aC (λc=>?_) λc=>?_)
 .obtain⟨x,M⟩:=gx xs (i:=((k:Nat):Int).toNat) cK;refine aO gV (hE _ _ _ G u) cK M (λq hq=>aD rZ hq (aM u xX λb8 _ u=>aJ (x:=x) u rZ rfl rfl λ_ u=>⟨λjv w'=>(jv=.bool false/\∃L,I (J+(qD (xs.take (k+1))).length) L/\St w0 A L w')\/(jv=.bool true/\Y w'),aA eY (aB (v:=hZ x.op) bL u.hb rfl (aH (aC (λO=>?_) λO=>?_))),?_⟩))
  .refine aA gj (aB (v:=.string x.name) gv u.hb rfl (aA r7 (aB (v:=hZ x.at_) bL u.hb rfl (aZ ([may]:List Int) u.drop cS rfl rfl (dL rfl) λs25 w4 u=>?_))));obtain⟨sv,rfl⟩:=u.dX.fI;refine pop (vv x.name x.at_ sv.a sv.n sv.cap) ?_;refine kH.mono (hy _ _ _ w4 _ _ ⟨_,sv,hu _ x (adG M O),rfl,λ_ h=>h⟩ Jp G u) ?_;rintro v w5 (⟨rfl,U,V,hs2⟩|⟨rfl,Z⟩)
   .exact bR (.inl ⟨rfl,U,by rw[Hn (k:=k) M,ew O,lY];exact V,hs2.drop⟩)
   exact bR (.inr ⟨rfl,Z⟩)
  .refine .inl ⟨rfl,L1,?_,u.drop⟩;rw[Hn (k:=k) M,ej O,List.append_nil];exact G
  rintro _ w6 (⟨rfl,U,V,u⟩|⟨rfl,Z⟩) _
  .exact ft (aN cK ⟨_,cK,k+1,rfl,rfl,cK,U,V,u⟩)
  exact iw (.inr ⟨rfl,Z⟩)
 rw[kW cK]at G;exact .inl ⟨rfl,L1,G,u⟩
def Jq(k:Int):List Int:=if k=5\/k=6 then [1]else if k=9\/k=10 then [3]else [1,2]
def B9(l:List cA):List UU:=(qD l).map λy=>(y.name,y.at_,[5])
def Ca(x:bQ):List UU:=(if x.eD=⟨#[]⟩then []else [(x.eD,x.at_,[5])])++((if x.name=⟨#[]⟩then []else [(x.name,x.at_,Jq x.kind)])++(B9 x.e++B9 x.f))
def oI(xs:List bQ):List UU:=xs.flatMap Ca
theorem Ho{xs:List bQ}{k:Nat}{x:bQ}(h:xs[k]?=some x):oI (xs.take (k+1))=oI (xs.take k)++Ca x:=by
 unfold oI;rw[<- gI h,LB];simp
def adI{xs:List bQ}{k i:Nat}{x:bQ}{u:UU}(h:xs[k]?=some x)(hi:(Ca x)[i]?=some u):(oI xs)[(oI (xs.take k)).length+i]?=some u:=by
 have e:oI xs=oI (xs.take k)++(Ca x++oI (xs.drop (k+1))):=by
  rw[<- n3,<- Ho h];unfold oI;rw[<- LB,pJ]
 grind
def So{l:List cA}{j:Nat}{y:cA}(h:(qD l)[j]?=some y):(B9 l)[j]?=some (y.name,y.at_,[5]):=by unfold B9;rw[pd,h];rfl
def sE(x:bQ):List UU:=if x.eD=⟨#[]⟩then []else [(x.eD,x.at_,[5])]
def tZ(x:bQ):List UU:=if x.name=⟨#[]⟩then []else [(x.name,x.at_,Jq x.kind)]
theorem Cb(x:bQ):Ca x=sE x++(tZ x++(B9 x.e++B9 x.f)):=rfl
theorem aiY{x:bQ}(h:¬ x.eD=⟨#[]⟩):(sE x).length=1:=by unfold sE;grind
theorem aiZ{x:bQ}(h:x.eD=⟨#[]⟩):(sE x).length=0:=by unfold sE;grind
theorem ai0{x:bQ}{n:Nat}(h:¬ x.name=⟨#[]⟩):(n+(tZ x).length)=n+1:=by unfold tZ;grind
theorem ai1{x:bQ}{n:Nat}(h:x.name=⟨#[]⟩):(n+(tZ x).length)=n:=by unfold tZ;grind
def Yy{x:bQ}(h:¬ x.eD=⟨#[]⟩):(Ca x)[0]?=some (x.eD,x.at_,[5]):=by unfold Ca;grind
def Yz{x:bQ}(h:¬ x.name=⟨#[]⟩):(Ca x)[(sE x).length]?=some (x.name,x.at_,Jq x.kind):=by
 rw[Cb,sH (o1 _),Nat.sub_self];unfold tZ;grind
def YA{x:bQ}{j:Nat}{y:cA}(h:(qD x.e)[j]?=some y):(Ca x)[(sE x).length+(tZ x).length+j]?=some (y.name,y.at_,[5]):=by
 have h1:=So h
 rw[Cb,sH cK,show(sE x).length+(tZ x).length+j-(sE x).length=(tZ x).length+j from cK,sH cK,Fg,tx (kE.1 h1).1,h1]
def YB{x:bQ}{j:Nat}{y:cA}(h:(qD x.f)[j]?=some y):(Ca x)[(sE x).length+(tZ x).length+(qD x.e).length+j]?=some (y.name,y.at_,[5]):=by
 have h1:=So h
 have h2:(B9 x.e).length=(qD x.e).length:=by unfold B9;grind
 rw[Cb,sH cK,show(sE x).length+(tZ x).length+(qD x.e).length+j-(sE x).length=(tZ x).length+((B9 x.e).length+j)from cK,sH cK,Fg,sH cK,Fg,h1]
theorem YC(x:bQ):(Ca x).length=(sE x).length+(tZ x).length+(qD x.e).length+(qD x.f).length:=by
 rw[Cb];unfold B9;grind
def C192(y:Value)(b:Nat)(lv:Value)(ts:List bE)(xs:List bQ)(w0:World)(A:Nat->Prop)(I:Nat->List HP->Prop)(Jx:hM)(w:World)(hn:xs.length<=1048576)(hz:∀x∈xs,x.e.length<=1048576/\x.f.length<=1048576)
  (hE:∀k L W,I k L->St w0 A L W->Cell W b 0 lv/\dA (λ_=>True) W lv ts/\gM ts xs W) (h0:∃L,I 0 L/\St w0 A L w) (hy:adF hH w0 A I Jx y (Sn (oI xs))) :
  CR 192 [y,.pointer (some ⟨b,0,none⟩)] w (λ_ W=>(∃L,I (oI xs).length L/\St w0 A L W)\/Jx W):=by
 have O:∀b4 (cs:List Value),adF hH w0 A (λj L=>∃M,I j M/\L=bY b4 cs::M) Jx y (Sn (oI xs)):=by
  rintro b4 cs k args Φ W R _ h1 h2 ⟨M,h3,rfl⟩ h4;refine kH.mono (hy k args Φ W _ M h1 (awQ h2) h3 (St.join h4)) ?_;rintro v W' (⟨rfl,L',h5,h6⟩|h5)
  .exact .inl ⟨rfl,_,⟨L',h5,rfl⟩,h6.split⟩
  grind
 refine eX Tryz.func192 ?_;obtain⟨M0,hI0,hS0⟩:=h0;obtain⟨Cv,CS,yS⟩:=hE _ _ _ hI0 hS0;have Kb:=yS.1;refine bM jN Cv (aK fq CS ?_);refine⟨λm x w1=>∃k:Nat,x=hZ (k:Int)/\m=ts.length-k/\k<=ts.length/\∃L,I (oI (xs.take k)).length L/\St w0 A L w1,⟨_,0,rfl,rfl,l1 _,M0,hI0,hS0⟩,?_⟩;rintro m _ w1 ⟨k,rfl,rfl,hk,M1,hI,B⟩ _;refine aR (aC (λc=>?_) λc=>?_)
 .obtain⟨t,ht⟩:=gx ts (i:=((k:Nat):Int).toNat) cK;obtain⟨x,hx⟩:=gx xs (i:=k) cK;have hxz:=hz x (kO hx);obtain⟨uS,BG,VP⟩:=hE _ _ _ hI B;obtain⟨Z,gf,rfl,_,_⟩:=VP.2 _ _ _ ht hx
  have hE1:∀k' M W,I k' M->St w0 A M W->dA (λ_=>True) W (ia Z) x.e/\dA (λ_=>True) W (ia gf) x.f:=λk' M W h1 h2=>by
   obtain⟨_,_,h3⟩:=hE k' M W h1 h2;obtain⟨_,_,h4,h5,h6⟩:=h3.2 _ _ _ ht hx;cases h4
   exact⟨DL.flat h5,DL.flat h6⟩
  have sy:∀{i:Nat}{u:UU},(Ca x)[i]?=some u->(oI xs)[(oI (xs.take k)).length+i]?=some u:=adI hx;refine aO fq BG cK ht (λq hq=>aD eL hq (aM B jw λb4 _ B=>aJ (x:=(⟨x.kind,x.eD,x.name,Z,gf,x.n,x.body,x.eu,x.at_⟩:bE)) B eL rfl rfl λ_ B=>?_));refine⟨λE w'=>(E=.bool false/\∃L,I ((oI (xs.take k)).length+(sE x).length) L/\St w0 A ((bY b4 (j0 (⟨x.kind,x.eD,x.name,Z,gf,x.n,x.body,x.eu,x.at_⟩:bE)))::L) w')\/(E=.bool true/\Jx w'),?_,?_⟩
  .refine aA iE (aB (v:=.string x.eD) gv B.hb rfl (l6 (aC (λU=>?_) λU=>.inl ⟨rfl,M1,by rw[aiZ (by simpa using U)];exact hI,B⟩)));refine aA iE (aB (v:=.string x.eD) gv B.hb rfl (aA lJ (aB (v:=hZ x.at_) bL B.hb rfl (aZ ([5]:List Int) B cS rfl rfl (dL rfl) λs25 _ B=>?_))));obtain⟨sv,rfl⟩:=B.dX.fI;refine pop (vv x.eD x.at_ sv.a sv.n sv.cap) ?_;refine kH.mono (O b4 _ _ _ _ _ _ _ ⟨_,sv,sy (i:=0) (Yy U),rfl,λ_ h=>h⟩ Jp ⟨_,hI,rfl⟩ B) ?_;rintro v w5 (⟨rfl,_,⟨J,G,rfl⟩,hs2⟩|⟨rfl,Y⟩)
   .exact bR (.inl ⟨rfl,J,by rw[aiY U];exact G,hs2.drop⟩)
   exact bR (.inr ⟨rfl,Y⟩)
  rintro _ w6 (⟨rfl,J,G,B⟩|⟨rfl,Y⟩) _;rotate_left
  .exact iw (.inr Y)
  refine ft (aZ ([1,2]:List Int) B cS rfl rfl (dL rfl) λs26 w7 B=>?_);refine⟨λE w'=>∃sv:SV,E=ia sv/\St w0 A (bH (ia sv) (Jq x.kind)::(bY b4 (j0 (⟨x.kind,x.eD,x.name,Z,gf,x.n,x.body,x.eu,x.at_⟩:bE)))::J) w',?_,?_⟩
  .refine aA dN (aB (v:=hZ x.kind) bL B.p1.hb rfl ⟨λE w'=>E=.bool (decide (x.kind=5\/x.kind=6))/\w'=w7,aH (aC (λc3=>⟨vb (by simp[c3]),rfl⟩) λc3=>aH ⟨vb (by simp[c3]),rfl⟩),?_⟩);rintro _ w8 ⟨rfl,rfl⟩ _;refine aC (λc3=>?_) (λc3=>⟨λE w'=>E=.bool (decide (x.kind=9\/x.kind=10))/\w'=w8,aH (aC (λc4=>⟨vb (by simp[c4]),rfl⟩) λc4=>aH ⟨vb (by simp[c4]),rfl⟩),?_⟩)
   .refine aZ ([1]:List Int) B cS rfl rfl (dL rfl) (λs32 _ B=>?_);obtain⟨sv,rfl⟩:=B.dX.fI;exact⟨sv,rfl,by rw[Jq,ew c3];exact B.p1.drop⟩
   rintro _ _ ⟨rfl,rfl⟩ _;refine aC (λc4=>?_) (λc4=>?_)
   .refine aZ ([3]:List Int) B cS rfl rfl (dL rfl) (λs36 _ B=>?_);obtain⟨sv,rfl⟩:=B.dX.fI;exact⟨sv,rfl,by rw[Jq,ej c3,ew c4];exact B.p1.drop⟩
   obtain⟨sv,rfl⟩:=B.dX.fI;exact⟨sv,rfl,by rw[Jq,ej c3,ej c4];exact B⟩
  rintro _ _ ⟨sv,rfl,B⟩ _;refine⟨λE w'=>(E=.bool false/\∃L,I ((oI (xs.take k)).length+((sE x).length+(tZ x).length)) L/\St w0 A ((bY b4 (j0 (⟨x.kind,x.eD,x.name,Z,gf,x.n,x.body,x.eu,x.at_⟩:bE)))::L) w')\/(E=.bool true/\Jx w'),?_,?_⟩
  .refine aA fZ (aB (v:=.string x.name) gv B.p1.hb rfl (l6 (aC (λU=>?_) λU=>.inl ⟨rfl,J,by rw[ai1 (by simpa using U)];exact G,B.drop⟩)));refine aA fZ (aB (v:=.string x.name) gv B.p1.hb rfl (aA lJ (aB (v:=hZ x.at_) bL B.p1.hb rfl (pop (vv x.name x.at_ sv.a sv.n sv.cap) ?_))));refine kH.mono (O b4 _ _ _ _ _ _ _ ⟨_,sv,sy (i:=(sE x).length) (Yz U),rfl,λ_ h=>h⟩ Jp ⟨_,G,rfl⟩ B) ?_;rintro v w13 (⟨rfl,_,⟨M3,hI3,rfl⟩,hs3⟩|⟨rfl,Y⟩)
   .exact bR (.inl ⟨rfl,M3,by rw[ai0 U];exact hI3,hs3.drop⟩)
   exact bR (.inr ⟨rfl,Y⟩)
  rintro _ Sm (⟨rfl,J,G,B⟩|⟨rfl,Y⟩) _;rotate_left
  .exact iw (.inr Y)
  refine ft ?_;refine⟨λE w'=>(E=.bool false/\∃L,I ((oI (xs.take (k+1))).length) L/\St w0 A ((bY b4 (j0 (⟨x.kind,x.eD,x.name,Z,gf,x.n,x.body,x.eu,x.at_⟩:bE)))::L) w')\/(E=.bool true/\Jx w'),?_,?_⟩
  .refine aA iV (aB (v:=ia Z) ju B.hb rfl (dQ agD (C193 _ y x.e 5 (oI xs) ((oI (xs.take k)).length+((sE x).length+(tZ x).length)) w0 A (λj L=>∃M,I j M/\L=(bY b4 (j0 (⟨x.kind,x.eD,x.name,Z,gf,x.n,x.body,x.eu,x.at_⟩:bE)))::M) Jx _ (by have:=hxz.1;omega) (λj L W ⟨M,h1,h2⟩ h3=>(hE1 _ _ _ h1 (h2▸h3).drop).1) ⟨_,⟨_,G,rfl⟩,B⟩ (λj _ TK=>by rw[L2];exact sy (i:=((sE x).length+(tZ x).length)+j) (YA TK)) (O b4 _)) ?_));rintro v _ V;rw[L2]at V
   rcases V with⟨rfl,_,⟨J,G,rfl⟩,B⟩|⟨rfl,V⟩
   .refine bR (ft (aA j8 (aB (v:=ia gf) ju B.hb rfl (dQ agD (C193 _ y x.f 5 (oI xs) ((oI (xs.take k)).length+((sE x).length+(tZ x).length+(qD x.e).length)) w0 A (λj L=>∃M,I j M/\L=(bY b4 (j0 (⟨x.kind,x.eD,x.name,Z,gf,x.n,x.body,x.eu,x.at_⟩:bE)))::M) Jx _ (by have:=hxz.2;omega) (λj L W ⟨M,h1,h2⟩ h3=>(hE1 _ _ _ h1 (h2▸h3).drop).2) ⟨_,⟨_,G,rfl⟩,B⟩ (λj _ TK=>by rw[L2];exact sy (i:=((sE x).length+(tZ x).length+(qD x.e).length)+j) (YB TK)) (O b4 _)) ?_))));rintro v _ V;rw[L2]at V
    rcases V with⟨rfl,_,⟨J,G,rfl⟩,B⟩|⟨rfl,V⟩
    .exact bR (.inl ⟨rfl,J,by rw[Ho hx,lY,YC];exact G,B⟩)
    exact bR (.inr ⟨rfl,V⟩)
   exact bR (iw (.inr ⟨rfl,V⟩))
  rintro _ w17 (⟨rfl,J,G,B⟩|⟨rfl,Y⟩) _;rotate_left
  .exact iw (.inr Y)
  exact ft (aN cK ⟨_,cK,k+1,rfl,rfl,cK,J,G,B.drop⟩)
 rw[kW cK]at hI;exact .inl ⟨M1,hI,B⟩
def C113(lv:SV)(w:World):CR 113 [ia lv] w (λv w'=>∃b,v=.func (.func 192) [].toArray [.pointer (some ⟨b,0,none⟩)].toArray/\lg (bY b [ia lv]) w w'):=by
 have u:=St.start w;refine eX Tryz.func113 ?_;refine nu u rfl (λb _ u=>?_);exact⟨b,rfl,u.fresh⟩
variable (w:World) (K:Value->hM)
theorem agE:PL 112:=dJ Tryz.func112
end Go.Proofs.YtpdlpabnlkofmaaGreatDoor
namespace Go.Proofs.YtpdlpabnlkofmaaGreatDoor
open Go.Fw
def Fi:List SI->List ByteArray->Option (List SI)
 | g,[]=>some g
 | g,n::r=>if eF g n=0 then Fi (g++[(n,5)]) r else none
def Ud(l:List SI)(names:List ByteArray):Option (List SI):=Fi (l.filter λp=>decide (¬ p.2=4)) names
def adJ{g:List SI}{ns:List ByteArray}{k:Nat}{n:ByteArray}(h:ns[k]?=some n)(u:eF g n=0):Fi g (ns.drop k)=Fi (g++[(n,5)]) (ns.drop (k+1)):=by
 rw[drop_cons h,Fi,ew u]
def adK{g:List SI}{ns:List ByteArray}{k:Nat}{n:ByteArray}(h:ns[k]?=some n)(u:¬ eF g n=0):Fi g (ns.drop k)=none:=by
 rw[drop_cons h,Fi,ej u]
def aqe(r:Option (List SI))(v:Value)(w w':World):Prop:=
 (r=none/\v=.tuple #[.map none,.bool true]/\Ext w w')\/∃g b,r=some g/\v=.tuple #[.map (some b),.bool false]/\lg (ni b g) w w'
def C112(W:cG)(names:List ByteArray)(bm:Nat)(l:List SI)(w:World)(hf:dA (λ_=>True) w (ia W.dP) names)(E:uL w bm l)(hz:∀p∈l,p.2≠0)(hn:names.length<=1073741824) :
  CR 112 [ia W,.map (some bm)] w (λv w'=>aqe (Ud l names) v w w'):=by
 have u:=St.start w;have Kb:=E.nodup;obtain⟨es,clock,Vl,V,agF⟩:=E;refine eX Tryz.func112 ?_;refine cI u (λM w1 u=>LO u λG _ u=>TU u Tryz.underlying165 (EM Vl u.aG) λr13 _ u=>?_);refine⟨λY w1=>∃(seen:Array Nat) (O:List SI),Y=(leftOf es seen).size/\(∀p,p∈O↔(p∈l/\¬ p.2=4/\∃e∈es.toList,seen.contains e.born=true/\e.key=.string p.1))/\St w bD [He r13 bm clock seen,ni G O,bY M (j0 W)] w1,⟨_,#[],[],rfl,λ_=>⟨λh=>(by cases h),λ⟨_,_,e,_,h,_⟩=>(by simp at h)⟩,u⟩,?_⟩;rintro Y w4 ⟨seen,O,rfl,I,u⟩ _;refine Xh u (EM Vl u.aG) V.1 (λh0=>?_) (λe _ U u=>?_)
 .refine aQ rfl (ft ?_);have u:=u.drop
  have hg:O.Perm (l.filter λp=>decide (¬ p.2=4)):=by
   have n1:O.Nodup:=(YO.1 u.ni.nodup).imp λh e=>h (by rw[e]);have n2:l.Nodup:=(YO.1 Kb).imp λh e=>h (by rw[e]);refine(List.perm_ext_iff_of_nodup n1 (n2.filter _)).2 λp=>?_;rw[I,MV];refine⟨λ⟨h1,h2,_⟩=>⟨h1,ez h2⟩,λ⟨h1,h2⟩=>⟨h1,gO h2,?_⟩⟩;obtain⟨e,U,h3,_⟩:=Xj agF h1;exact⟨e,U,all_seen es seen h0 e U,h3⟩
  have u:St w bD [ni G (l.filter λp=>decide (¬ p.2=4)),bY M (j0 W)] w4:=u.ry λF hF=>⟨F,⟨hF.1.perm hg,hF.2⟩,λ_ hb=>.inl hb,gu.refl _ _⟩;refine aA fR (aB ji u.p1.hb rfl (aK iy (hf.ext u.aG) ?_));refine⟨λY i w'=>∃(k:Nat) (g:List SI),i=hZ (k:Int)/\Y=names.length-k/\k<=names.length/\Ud l names=Fi g (names.drop k)/\(∀p∈g,p.2≠0)/\St w bD [ni G g,bY M (j0 W)] w',⟨_,0,_,rfl,rfl,l1 _,rfl,λp hp=>hz p (MV.1 hp).1,u⟩,?_⟩;rintro Y _ _ ⟨k,g,rfl,rfl,hk,F7,hzg,u⟩ _;refine aR (aC (λMm=>?_) λMm=>?_)
  .obtain⟨yT,j3⟩:=gx names (i:=(k:Int).toNat) cK;refine aO iy (hf.ext u.aG) cK j3 (λ_ AK=>aD gv AK (yd u.ni Tryz.underlying165 Tryz.underlying9 uw (bW (aC (λlO=>.inl ⟨F7.trans (adK j3 lO),rfl,u.drop.drop.aG⟩) λlO=>?_))));have Z:eF g yT=0:=cK
   refine LP u Tryz.underlying165 Tryz.underlying9 (OY u.ni.nodup hzg Z) (λ_ u=>aN cK ?_)
   exact⟨_,cK,k+1,_,rfl,rfl,cK,F7.trans (adJ j3 Z),λp hp=>by
    rcases pI.1 hp with h|h
    .exact hzg p h
    .rw[vA.1 h];exact(by decide:(5:Int)≠0),u⟩
  refine .inr ⟨g,G,?_,rfl,u.p1.drop.fresh⟩;rw[F7,vt cK];rfl
 refine aQ rfl (iw ?_);have E:=mem_left U;refine TV u (EM Vl u.aG) E.1 V.2.1 ?_;obtain⟨p0,N8,B,hev⟩:=Xi agF E.1;rw[B,hev];refine aQ rfl (aQ rfl (bW ?_))
 have old:∀q∈O,q.1≠p0.1:=λq hq e=>by
  obtain⟨_,_,J,Mn,h1,h2⟩:=(I q).1 hq;rw[e,<- B]at h2;obtain rfl:=key_inj V.2.2 Mn E.1 h2;exact absurd h1 (by simpa using E.2)
 refine aC (λoz=>?_) (λoz=>?_)
 .have u:=u.p1;refine LP u Tryz.underlying165 Tryz.underlying9 old (λ_ u=>?_);have u:=u.p1;refine⟨_,left_shrinks es seen e U,seen.push e.born,_,rfl,λp=>?_,u⟩;rw[pI,vA,I]
  constructor
  .rintro(⟨h1,h2,J,h3,h4,h5⟩|rfl)
   .exact⟨h1,h2,J,h3,by simp at h4 |-;exact .inl h4,h5⟩
   exact⟨N8,oz,e,E.1,ei,B⟩
  rintro⟨h1,h2,J,h3,h4,h5⟩
  rcases xg h4 with h|h
  .exact .inl ⟨h1,h2,J,h3,h,h5⟩
  obtain rfl:=born_inj V.2.1 h3 E.1 h;rw[B]at h5;injection h5 with h5;exact .inr (Xk Kb h1 N8 h5.symm)
 refine⟨_,left_shrinks es seen e U,seen.push e.born,O,rfl,λp=>?_,u⟩;rw[I]
 constructor
 .rintro⟨h1,h2,J,h3,h4,h5⟩;exact⟨h1,h2,J,h3,by simp at h4 |-;exact .inl h4,h5⟩
 rintro⟨h1,h2,J,h3,h4,h5⟩
 rcases xg h4 with h|h
 .exact⟨h1,h2,J,h3,h,h5⟩
 obtain rfl:=born_inj V.2.1 h3 E.1 h;rw[B]at h5;injection h5 with h5;obtain rfl:=Xk Kb h1 N8 h5.symm;exact absurd h2 oz
theorem dK{ns:List ByteArray}{s:ByteArray}:0<=cU ns s↔s∈ns:=by
 have h:=BW ns s
 grind
theorem A6{ns:List ByteArray}{s:ByteArray}:cU ns s<0↔s ∉ ns:=by rw[<- dK];omega
theorem lV{ns:List ByteArray}{s:ByteArray}(h:s∈ns):∃k:Nat,cU ns s=k/\ns[k]?=some s/\∀j,j<k->ns[j]?≠some s:=by
 unfold cU sj
 cases hf:ns.findIdx? (λy=>decide (y=s))with
 | none=>grind
 | some k=>
  obtain⟨h1,h2,h3⟩:=List.findIdx?_eq_some_iff_getElem.1 hf
  grind
def pR{ns:List ByteArray}{s:ByteArray}{k:Nat}(h:s∈ns):cU ns s<k↔s∈ns.take k:=by
 obtain⟨j,h1,h2,h3⟩:=lV h
 rw[h1]
 constructor
 .intro B;exact yj.2 ⟨j,dD⟩
 intro u
 obtain⟨i,hi⟩:=yj.1 u
 grind
theorem nodup_iff(ns:List ByteArray):ns.Nodup↔∀(k:Nat) (s:ByteArray),ns[k]?=some s->s ∉ ns.take k:=by
 unfold List.Nodup
 rw[P3]
 constructor
 .intro h k s G B
  obtain⟨i,hi⟩:=yj.1 B
  grind
 intro h i j hi u E I
 exact h j _ (la u) (yj.2 ⟨i,dD⟩)
theorem zL(l:List cJ):kx l=true↔¬ (l.map cJ.name).Nodup:=by
 rw[nodup_iff]
 unfold kx
 rw[wY]
 constructor
 .rintro⟨j,u,h⟩ E
  have u:=K0.1 u
  have J:l[j]?=some l[j]:=la u
  rw[yf J,decide_eq_true_iff]at h
  have B:(l[j]).name∈l.map cJ.name:=oi.2 ⟨_,Zf u,rfl⟩
  exact E j _ dD ((pR B).1 h)
 intro E
 apply g7
 intro hc
 refine E λk s I B=>hc ⟨k,?_,?_⟩
 .grind
 rw[pd]at I
 obtain⟨c,G,rfl⟩:=Gm.1 I
 rw[yf G,decide_eq_true_iff]
 exact(pR (vB B)).2 B
def Mp(p:cE)(rs:List ByteArray):uN p rs=true↔¬ rs.Nodup\/∃s∈rs,s∈cT p\/s∈cM p:=by
 rw[nodup_iff]
 unfold uN
 rw[wY]
 constructor
 .rintro⟨j,u,h⟩
  have u:=K0.1 u
  have G:rs[j]?=some rs[j]:=la u
  have E:=Zf u
  rw[AV G]at h
  simp only[wS,decide_eq_true_eq,dK]at h
  rcases h with(h|h)|h
  .exact .inl λB=>B j _ G ((pR E).1 h)
  .grind
  grind
 intro B
 rcases B with B|⟨s,J,hc⟩
 .apply g7
  intro hc
  refine B λk s I E=>hc ⟨k,K0.2 (kE.1 I).1,?_⟩
  rw[AV I]
  simp only[wS,decide_eq_true_eq]
  exact .inl (.inl ((pR (vB E)).2 E))
 obtain⟨j,u⟩:=yj.1 J
 refine⟨j,K0.2 (kE.1 u).1,?_⟩
 rw[AV u]
 simp only[wS,decide_eq_true_eq,dK]
 rcases hc with hc|hc
 .exact .inl (.inr hc)
 exact .inr hc
def nmQ(p:cE):List (ByteArray×Int×Int):=Vs p++(Ub p++Vt p)
theorem Sp(p:cE):CH p=zW (nmQ p) ([],false,0):=by simp_all[SI,CH,zW,nmQ]
theorem Cc(p:cE):(nmQ p).map (·.1)=(fO p).map cJ.name:=by
 unfold nmQ Vs Ub Vt fO
 rw[<- A5]
 simp only[vd,Ix,n3]
 rfl
theorem YD(p:cE):∀q∈nmQ p,q.2.1≠0:=by
 intro q u
 unfold nmQ Vs Ub Vt CG at u
 grind
theorem YE:∀(l:List (ByteArray×Int×Int)) (st:List SI×Bool×Int),(∀q∈l,q.2.1≠0)->
  ((zW l st).2.1=true↔st.2.1=true\/¬ (l.map (·.1)).Nodup\/∃q∈l,eF st.1 q.1≠0)
 | [],st,_=>by simp[zW]
 | q::r,st,hz=>by
  have E:=YE r (Yw st q) λq u=>hz q (qb _ u)
  have B:=hz q (oD ..)
  have e:zW (q::r) st=zW r (Yw st q):=rfl
  rw[e,E]
  show twN st.1 q.1 st.2.1=true\/_\/(∃x∈r,eF (zK st.1 q.1 q.2.1) x.1≠0)↔_
  unfold twN
  rw[J9,H5]
  simp only[wS,decide_eq_true_eq,B8,oi,sl]
  grind
theorem YF(p:cE):(CH p).2.1=kx (fO p):=by
 rw[H4,Sp,YE _ _ (YD p),zL,Cc]
 simp[eF]
theorem PH:∀(l:List (ByteArray×Int×Int)) (st:List SI×Bool×Int) (n:ByteArray),n ∉ l.map (·.1)->eF (zW l st).1 n=eF st.1 n
 | [],_,_,_=>rfl
 | q::r,st,n,h=>by
  rw[J9,sl,not_or]at h
  have e:zW (q::r) st=zW r (Yw st q):=rfl
  rw[e,PH r _ n h.2]
  show eF (zK st.1 q.1 q.2.1) n=_
  rw[B8,ej λu=>h.1 u.symm]
theorem Fj:∀(l:List (ByteArray×Int×Int)) (st:List SI×Bool×Int) (q:ByteArray×Int×Int),(l.map (·.1)).Nodup->q∈l->eF (zW l st).1 q.1=q.2.1
 | x::r,st,q,hn,h=>by
  rw[J9,H5]at hn
  have e:zW (x::r) st=zW r (Yw st x):=rfl
  rw[e]
  rcases sl.1 h with rfl|h
  .rw[PH r _ _ hn.1]
   show eF (zK st.1 q.1 q.2.1) q.1=_
   rw[B8,ew rfl]
  .exact Fj r _ q hn.2 h
theorem YG:∀(l:List (ByteArray×Int×Int)) (st:List SI×Bool×Int),(∀q∈l,q.2.1≠0)->(∀e∈st.1,e.2≠0)->∀e∈(zW l st).1,e.2≠0
 | [],_,_,h=>h
 | q::r,st,hz,h=>YG r (Yw st q) (λq u=>hz q (qb _ u)) (adD h (hz q (oD ..)))
def PI(p:cE):∀e∈(CH p).1,e.2≠0:=by
 rw[Sp];exact YG _ _ (YD p) λe u=>by cases u
theorem YH:∀(ls:List (List cJ)) (k:Int) (q:cJ×Int),q∈PB k ls->k<=q.2/\q.2<k+ls.length
 | [],_,_,h=>by cases h
 | l::r,k,q,h=>by
  unfold PB at h
  rcases pI.1 h with h|h
  .grind
  .have:=YH r (k+1) q h;simp;omega
theorem YI:∀(vs:List cJ) (k:Int) (q:cJ×Int),q∈N6 k vs->k<=q.2
 | [],_,_,h=>by cases h
 | v::r,k,q,h=>by
  unfold N6 at h
  rcases sl.1 h with rfl|h
  .omega
  .have:=YI r (k+1) q h;omega
def tH(p:cE):List ByteArray:=p.iO.map cJ.name
def adM(p:cE):List ByteArray:=p.threads.map cN.name
theorem Mq(p:cE):gm p=p.lines.flatten.map cJ.name:=by
 unfold gm cT im ey
 rw[vd,pQ,List.take_left' dD]
theorem qE(p:cE):cT p=gm p++tH p:=by
 rw[Mq];unfold cT im tH;grind
theorem Sq(p:cE):(fO p).map cJ.name=gm p++tH p++(cM p++adM p):=by
 rw[<- qE];unfold fO cT cM adM
 simp_all
theorem Sr{p:cE}(G:kx (fO p)=false)(s:ByteArray) :
  eF (CH p).1 s=if 0<=cU (gm p) s then 1 else if 0<=cU (tH p) s then 2 else if 0<=cU (cM p) s then 3 else if 0<=cU (adM p) s then 4 else 0:=by
 have J:((fO p).map cJ.name).Nodup:=g7 λh=>by rw[(zL _).2 h]at G;cases G
 have B:((nmQ p).map (·.1)).Nodup:=by rw[Cc];exact J
 rw[Sp]
 by_cases h1:s∈gm p
 .rw[ew (dK.2 h1)]
  rw[Mq,<- Jm p.lines 0]at h1
  obtain⟨c,hc,rfl⟩:=oi.1 h1
  obtain⟨q,u,rfl⟩:=oi.1 hc
  have E:(q.1.name,CG p q.2,q.1.at_)∈nmQ p:=List.mem_append_left _ (oi.2 ⟨q,List.mem_append_left _ u,rfl⟩)
  have M:=YH _ _ _ u
  exact(Fj _ _ _ B E).trans (ej cK)
 rw[ej λh=>h1 (dK.1 h)]
 by_cases h2:s∈tH p
 .rw[ew (dK.2 h2)]
  unfold tH at h2
  rw[<- Jn p.iO p.lines.length]at h2
  obtain⟨c,hc,rfl⟩:=oi.1 h2
  obtain⟨q,u,rfl⟩:=oi.1 hc
  have E:(q.1.name,CG p q.2,q.1.at_)∈nmQ p:=List.mem_append_left _ (oi.2 ⟨q,List.mem_append_right _ u,rfl⟩)
  have I:=YI _ _ _ u
  exact(Fj _ _ _ B E).trans (ew I)
 rw[ej λh=>h2 (dK.1 h)]
 by_cases h3:s∈cM p
 .rw[ew (dK.2 h3)]
  obtain⟨c,hc,rfl⟩:=oi.1 h3
  exact Fj _ _ (c.name,3,c.at_) B (List.mem_append_right _ (List.mem_append_left _ (oi.2 ⟨c,hc,rfl⟩)))
 rw[ej λh=>h3 (dK.1 h)]
 by_cases h4:s∈adM p
 .rw[ew (dK.2 h4)]
  obtain⟨t,ht,rfl⟩:=oi.1 h4
  exact Fj _ _ (t.name,4,t.at_) B (List.mem_append_right _ (List.mem_append_right _ (oi.2 ⟨t,ht,rfl⟩)))
 rw[ej λh=>h4 (dK.1 h),PH _ _ _ (by rw[Cc,Sq];grind)]
 rfl
def Fk{α:Type}{l:List α}{f g:α->Bool}(h:∀x∈l,f x=g x):l.any f=l.any g:=by
 grind
theorem Ue{g:List SI}{n k:ByteArray}{v:Int}(B:∀e∈g,e.2≠0)(h:eF g n=0):eF (g++[(n,v)]) k=if n=k then v else eF g k:=by
 induction g with
 | nil=>simp_all[eF,SI]
 | cons e r J=>
  have u:=B e (oD ..)
  have I:¬ e.1=n:=λG=>by
   have:eF (e::r) n=e.2:=by simp_all[eF,SI]
   omega
  have E:eF r n=0:=by
   grind[eF]
  show(if e.1=k then e.2 else eF (r++[(n,v)]) k)=if n=k then v else(if e.1=k then e.2 else eF r k)
  grind
theorem Hp:∀(ns:List ByteArray) (g:List SI),(∀e∈g,e.2≠0)->
  (Fi g ns=none/\(¬ ns.Nodup\/∃s∈ns,eF g s≠0))\/∃G,Fi g ns=some G/\ns.Nodup/\(∀s∈ns,eF g s=0)/\∀s,eF G s=if 0<=cU ns s then 5 else eF g s
 | [],g,_=>.inr ⟨g,rfl,List.nodup_nil,λs h=>(by cases h),λs=>by rw[ej];exactλh=>by cases dK.1 h⟩
 | n::r,g,hz=>by
  unfold Fi
  split
  .rename_i hl
   have J:∀e∈g++[(n,(5:Int))],e.2≠0:=by
    grind
   have E:=λk=>Ue (k:=k) (v:=5) hz hl
   rcases Hp r _ J with⟨h1,h2⟩|⟨G,h1,h2,h3,h4⟩
   .grind
   .have B:n ∉ r:=λM=>dD
    refine .inr ⟨G,h1,H5.2 ⟨B,h2⟩,λs u=>?_,λs=>?_⟩
    .rcases sl.1 u with rfl|u
     .exact hl
     .have:=h3 s u;rw[E,ej λe:n=s=>B (e▸u)]at this;exact this
    .rw[h4,E]
     by_cases u:s∈r
     .rw[ew (dK.2 u),ew (dK.2 (qb _ u))]
     .rw[ej λh=>u (dK.1 h)]
      by_cases I:n=s
      .rw[ew I,ew (dK.2 (by rw[I];exact oD ..))]
      .rw[ej I,ej λh=>(sl.1 (dK.1 h)).elim (λe=>I e.symm) u]
  grind
theorem Mr{l:List SI}(u:(l.map (·.1)).Nodup)(s:ByteArray):eF (l.filter λp=>decide (¬ p.2=4)) s=if eF l s=4 then 0 else eF l s:=by
 induction l with
 | nil=>rfl
 | cons e r B=>
  rw[J9,H5]at u
  have B:=B u.2
  have I:e.1=s->eF r s=0:=λh=>zB λq E J=>u.1 (oi.2 ⟨q,E,dD⟩)
  have G:eF (e::r) s=if e.1=s then e.2 else eF r s:=rfl
  rw[List.filter_cons,G]
  by_cases h4:e.2=4
  .grind
  .rw[ew (by simp[h4])]
   show(if e.1=s then e.2 else eF _ s)=_
   grind
def YJ{l:List SI}{k:ByteArray}{v:Int}(h:(l.map (·.1)).Nodup):((zK l k v).map (·.1)).Nodup:=by
 unfold zK
 grind
theorem YK(p:cE):((CH p).1.map (·.1)).Nodup:=by
 rw[Sp]
 have:∀(l:List (ByteArray×Int×Int)) (st:List SI×Bool×Int),(st.1.map (·.1)).Nodup->((zW l st).1.map (·.1)).Nodup:=by
  intro l
  induction l with
  | nil=>intro st h;exact h
  | cons q r u=>intro st h;exact u (Yw st q) (YJ h)
 grind
theorem Jr{p:cE}(I:kx (fO p)=false)(rs:List ByteArray) :
  (Ud (CH p).1 rs=none/\uN p rs=true)\/∃g,Ud (CH p).1 rs=some g/\uN p rs=false/\(∀s∈rs,s ∉ cT p/\s ∉ cM p)/\
   ∀s,eF g s=if 0<=cU rs s then 5 else if 0<=cU (gm p) s then 1 else if 0<=cU (tH p) s then 2 else if 0<=cU (cM p) s then 3 else 0:=by
 have G:∀s,eF ((CH p).1.filter λp=>decide (¬ p.2=4)) s=if 0<=cU (gm p) s then 1 else if 0<=cU (tH p) s then 2 else if 0<=cU (cM p) s then 3 else 0:=by
  intro s
  rw[Mr (YK p),Sr I]
  omega
 have hc:∀s,eF ((CH p).1.filter λp=>decide (¬ p.2=4)) s≠0↔(s∈cT p\/s∈cM p):=by
  intro s
  rw[G,qE,pI,<- dK (ns:=gm p),<- dK (ns:=tH p),<- dK (ns:=cM p)]
  omega
 unfold Ud
 rcases Hp rs ((CH p).1.filter λp=>decide (¬ p.2=4)) (λe J=>PI p e (MV.1 J).1)with⟨h1,h2⟩|⟨g,h1,h2,h3,h4⟩
 .refine .inl ⟨h1,(Mp p rs).2 ?_⟩
  grind
 have B:∀s∈rs,s ∉ cT p/\s ∉ cM p:=λs u=>by
  have h:=h3 s u
  exact⟨λE=>(hc s).2 (.inl E) h,λE=>(hc s).2 (.inr E) h⟩
 refine .inr ⟨g,h1,?_,B,λs=>by rw[h4,G]⟩
 cases hr:uN p rs with
 | false=>rfl
 | true=>
  rcases(Mp p rs).1 hr with h|⟨s,u,h⟩
  .grind
  .rcases h with h|h
   .exact absurd h (B s u).1
   .exact absurd h (B s u).2
def C1(g:List SI)(u:UU):Bool:=!u.2.2.any λm=>decide (m=eF g u.1)
theorem Ms{g:List SI}{rs:List ByteArray}(l:List cA)(h:∀s,eF g s=5↔s∈rs):(B9 l).any (C1 g)=o8 l rs:=by
 rw[H4]
 unfold B9 qD o8 C1
 simp only[List.any_map,wY,MV,Function.comp_apply,Rj,YR,RG,sk,decide_eq_false_iff_not,n5,decide_eq_true_eq,A6]
 grind
def PJ(p:cE)(s:ByteArray):s∈gm p↔0<=cU (cT p) s/\cU (cT p) s<ey p:=by
 rw[dK,show gm p=(cT p).take (ey p).toNat from rfl]
 have B:0<=ey p:=by unfold ey;omega
 constructor
 .intro h
  have u:=vB h
  have:=(pR u).2 h
  exact⟨u,cK⟩
 rintro⟨h1,h2⟩;exact(pR h1).1 cK
theorem aqg(k:Int):eQ (fE k) 110=decide (k=2\/k=3\/k=4\/k=5\/k=6\/k=9\/k=10):=by
 unfold fE
 split
 .rw[fN cK];decide
 rename_i h
 obtain rfl|rfl|rfl|rfl|rfl|rfl|rfl|rfl|rfl|rfl|rfl|rfl|rfl|rfl:k=1\/k=2\/k=3\/k=4\/k=5\/k=6\/k=7\/k=8\/k=9\/k=10\/k=11\/k=12\/k=13\/k=14:=cK
 all_goals decide
theorem Mt:gJ ⟨#[]⟩=false:=ee
def adN{p:cE}{rs:List ByteArray}{g:List SI}(M:∀s∈rs,s ∉ cT p/\s ∉ cM p)(G:∀s∈cT p,s ∉ cM p)(V:∀s∈gm p,s ∉ tH p)
  (B:∀s,eF g s=if 0<=cU rs s then 5 else if 0<=cU (gm p) s then 1 else if 0<=cU (tH p) s then 2 else if 0<=cU (cM p) s then 3 else 0) {x:bQ}(I:aoR x) :
  (Ca x).any (C1 g)=m8 p rs x:=by
 have E:∀s,eF g s=5↔s∈rs:=λs=>by
  rw[B,<- dK];omega
 have Z:∀s,eF g s=1↔s∈gm p:=λs=>by
  rw[B,<- dK]
  split
  .rename_i h
   have:=M s (dK.1 h)
   rw[qE,pI]at this
   refine⟨λh=>(by cases h),λh=>absurd (dK.1 h) λu=>this.1 (.inl u)⟩
  omega
 have g2:∀s,eF g s=2↔s∈tH p:=λs=>by
  rw[B]
  split
  .rename_i h
   have:=M s (dK.1 h)
   rw[qE,pI]at this
   grind
  .split
   .grind
   .rw[<- dK];omega
 have U:∀s,eF g s=3↔s∈cM p:=λs=>by
  rw[B]
  split
  .grind
  .split
   .rename_i h;exact⟨λh=>(by cases h),λu=>absurd u (G s (by rw[qE];grind))⟩
   .split
    .rename_i h;exact⟨λh=>(by cases h),λu=>absurd u (G s (by rw[qE];grind))⟩
    .rw[<- dK];omega
 have J:=I.name
 rw[aqg]at J
 rw[Cb,R5,R5,R5,Ms x.e E,Ms x.f E]
 have Y:(sE x).any (C1 g)=(decide (¬ x.eD=⟨#[]⟩)&&decide (cU rs x.eD<0)):=by
  unfold sE
  split
  .grind
  .rename_i h
   rw[ez h,yk,H4]
   simp only[Rj,YR,RG,C1,sk,decide_eq_false_iff_not,decide_eq_true_eq,A6]
   grind
 have O:(tZ x).any (C1 g)=(((decide (x.kind=2)||decide (x.kind=3)||decide (x.kind=4))&&decide (cU (cT p) x.name<0)) ||
   ((decide (x.kind=5)||decide (x.kind=6))&&(decide (cU (cT p) x.name<0)||decide (ey p<=cU (cT p) x.name))) ||
   ((decide (x.kind=9)||decide (x.kind=10))&&decide (cU (cM p) x.name<0))):=by
  have hk:=I.kind
  unfold tZ
  split
  .rename_i h
   have W:¬ (x.kind=2\/x.kind=3\/x.kind=4\/x.kind=5\/x.kind=6\/x.kind=9\/x.kind=10):=by
    intro u
    rcases J with⟨_,h2⟩|⟨h1,_⟩
    .rw[h,Mt]at h2;cases h2
    grind
   grind
  .rename_i h
   have W:x.kind=2\/x.kind=3\/x.kind=4\/x.kind=5\/x.kind=6\/x.kind=9\/x.kind=10:=by
    grind
   have hc:=PJ p x.name
   rw[H4]
   unfold Jq
   simp only[Rj,YR,RG,C1,sk,wS,n5,decide_eq_true_eq,A6]
   have e1:=Z x.name;have e2:=g2 x.name;have e3:=U x.name
   have ec:x.name∈cT p↔x.name∈gm p\/x.name∈tH p:=by rw[qE,pI]
   have pn:=dK (ns:=cT p) (s:=x.name)
   grind
 rw[Y,O]
 unfold m8
 grind
def Mu{p:cE}(B:kx (fO p)=false):(∀s∈cT p,s ∉ cM p)/\∀s∈gm p,s ∉ tH p:=by
 have E:((fO p).map cJ.name).Nodup:=g7 λh=>by rw[(zL _).2 h]at B;cases B
 rw[Sq,Y5]at E
 obtain⟨h1,h2,h3⟩:=E
 rw[Y5]at h1
 exact⟨λs u G=>h3 s (by rw[<- qE];exact u) s (List.mem_append_left _ G) rfl,λs u I=>h1.2.2 s u s I rfl⟩
def YL{p:cE}{t:cN}{g:List SI}(u:kx (fO p)=false)(I:Ud (CH p).1 t.dP=some g)(E:∀x∈t.body,m7 x=true):(oI t.body).any (C1 g)=t.body.any (m8 p t.dP):=by
 rcases Jr u t.dP with⟨h1,_⟩|⟨M,h1,h2,h3,h4⟩
 .grind
 rw[I]at h1;cases h1
 obtain⟨J,B⟩:=Mu u
 unfold oI
 rw[List.any_flatMap]
 refine Fk λx G=>adN h3 J B h4 (ye (E x G))
def PK{p:cE}(u:kx (fO p)=false)(l:List cA):(l.any λx=>decide (x.op=2)&&decide (¬ eF (CH p).1 x.name=1))=o8 l (gm p):=by
 unfold o8
 refine Fk λx _=>?_
 congr 1
 refine ga.2 ?_
 rw[A6,Sr u,<- dK]
 omega
variable (w:World) (K:Value->hM)
def S48(p0:Value):Prop:=
 rJ hH (zT 27 p0) w λp1 a=>aL 31 a λb c=>aL 3 c λd e=>lA 27 p1 e λf=>cF 107 [f] e λg h=>xT g 0 λj=>xT g 1 λk=>xT g 2 λl=>lA 27 p1 h λn=>
 cF 108 [n] h λo p=>eR hH (Op.unary .not o) λq=>cV q (sA 31 b (i 8) p λs=>sA 3 d (i 0) s λt=>lA 31 b t λr=>lA 3 d t λIy=>K (.tuple #[r,Iy]) t) (lA 27 p1 p λu=>
 cF 109 [u] p λv x=>cV v (sA 31 b (i 2) x λy=>sA 3 d (i 0) y λz=>lA 31 b z λOv=>lA 3 d z λr_3=>K (.tuple #[Ov,r_3]) z) (lA 27 p1 x λaa=>cF 110 [aa] x λab ac=>
 lN 24 ab λad=>kJ (λK1 ae M=>∀_:Env,
 bA .lss 3 ae ad λag=>cV ag (iA 24 ab ae λah=>lA 146 ah M λai=>aL 146 M λt8 aj=>sA 146 t8 ai aj λak=>fA 146 t8 2 λal=>lA 141 al ak λam=>cF 111 [am,(i 1)] ak λan ao=>
 xT an 0 λap=>xT an 1 λaq=>cV aq (sA 31 b (i 11) ao λar=>sA 3 d ap ar λE=>lA 31 b E λr_4=>lA 3 d E λr_5=>K (.tuple #[r_4,r_5]) E) (bB .add 3 ae (i 1) λau=>
 K1 au ao)) (cV l (sA 31 b (i 10) M λav=>sA 3 d k av λaw=>lA 31 b aw λr_6=>lA 3 d aw λr_7=>K (.tuple #[r_6,r_7]) aw) (lA 27 p1 M λax=>cF 110 [ax] M λay az=>
 lN 24 ay λa0=>kJ (λK2 a2 Z=>∀_:Env,
 bA .lss 3 a2 a0 λa4=>cV a4 (iA 24 ay a2 λa5=>lA 146 a5 Z λa6=>aL 146 Z λG a7=>sA 146 G a6 a7 λa8=>lA 146 G a8 λa9=>cF 112 [a9,j] a8 λba bb=>xT ba 0 λ_=>
 xT ba 1 λbc=>cV bc (fA 146 G 3 λbd=>lA 3 bd (drew bb) λbe=>sA 31 b (i 10) (drew bb) λbf=>kA 3 bd be bf (sA 3 d be bf λbg=>lA 31 b bg λr_8=>lA 3 d bg λr_9=>
 K (.tuple #[r_8,r_9]) bg)) (bB .add 3 a2 (i 1) λbh=>K2 bh bb)) (lA 27 p1 Z λbi=>cF 110 [bi] Z λbj bk=>lN 24 bj λbl=>px (λK3 ds bm Y=>∀_:Env,
 bA .lss 3 bm bl λbo=>cV bo (iA 24 bj bm λbp=>lA 146 bp Y λbq=>aL 146 Y λI br=>sA 146 I bq br λbs=>lA 146 I bs λbt=>cF 112 [bt,j] bs λbu bv=>xT bu 0 λbw=>
 xT bu 1 λ_=>aL 165 bv λJ bx=>sA 165 J bw bx λbz=>fA 146 I 2 λb0=>lA 141 b0 bz λb1=>cF 113 [b1] bz λb2 b3=>Ac hH b2 1 b3 (λa1 b4 B1 R1=>
 aL 177 b4 λB b5=>sA 177 B (D0 a1 0) b5 λb6=>B1 b6 λU=>fA 177 B 2 λb8=>lA 41 b8 U λb9=>lA 165 J U λca=>fA 177 B 0 λcb=>lA 9 cb U λcc=>
 J8 hH (xi 165 ca cc false) U λcd=>cF 114 [b9,cd] U λce cf=>eR hH (Op.unary .not ce) λcg=>cV cg (fA 177 B 1 λch=>lA 3 ch (drew cf) λci=>
 sA 31 b (i 9) (drew cf) λcj=>kA 3 ch ci cj (sA 3 d ci cj λck=>R1 (some .ret) ck)) (R1 none cf)) (aft (λD cl=>bB .add 3 bm (i 1) λcm=>K3 (lH (D::(Ab ds))) cm cl)
 (λD cn=>mQ (D::(Ab ds)) cn λco=>lA 31 b co λawU=>lA 3 d co λawV=>K (.tuple #[awU,awV]) co) λ_ _ _=>False)) (fA 27 p1 5 λcp=>lA 25 cp Y λcq=>
 lN 25 cq λcr=>kJ (λK4 cs ct=>∀_:Env,
 bA .lss 3 cs cr λcu=>cV cu (iA 25 cq cs λcv=>lA 85 cv ct λcw=>aL 85 ct λO cx=>sA 85 O cw cx λcy=>fA 85 O 0 λcz=>lA 82 cz cy λc0=>lN 82 c0 λc1=>
 kJ (λK5 c2 c3=>∀_:Env,
 bA .lss 3 c2 c1 λc4=>cV c4 (iA 82 c0 c2 λc5=>lA 164 c5 c3 λc6=>aL 164 c3 λW c8=>sA 164 W c6 c8 λV=>fe (λK6=>fA 164 W 0 λda=>lA 3 da V λdb=>
 bB .eql 3 db (i 2) λdc=>cV dc (fA 164 W 2 λdd=>lA 9 dd V λde=>J8 hH (xi 165 j de false) V λdf=>bB .neq 3 df (i 1) λdg=>K6 dg V) (K6 ff V))
 (λdh di=>∀_:Env,
 cV dh (fA 164 W 3 λdj=>lA 3 dj (drew di) λdk=>sA 31 b (i 9) (drew di) λdl=>kA 3 dj dk dl (sA 3 d dk dl λdm=>mQ (Ab ds) dm λdn=>lA 31 b dn λawW=>lA 3 d dn λawX=>
 K (.tuple #[awW,awX]) dn)) (bB .add 3 c2 (i 1) λdp=>K5 dp di))) (bB .add 3 cs (i 1) λdq=>K4 dq c3)) λK5=>K5 (i 0) cy) (sA 31 b (i 0) ct λdr=>sA 3 d (i 0) dr λdt=>
 mQ (Ab ds) dt λdu=>lA 31 b du λawY=>lA 3 d du λawZ=>K (.tuple #[awY,awZ]) du)) λK4=>K4 (i 0) Y)) λK3=>K3 (lH []) (i 0) bk)) λK2=>K2 (i 0) az)))
 λK1=>K1 (i 0) ac))
def P48:dI:=λi=>match i with
 | 20=>(.of [(0,[]),(1,[]),(2,[1]),(3,[])])
 | 29=>(.of [(0,[]),(1,[]),(2,[1]),(3,[])])
 | 38=>(.of [(0,[]),(1,[]),(2,[1]),(3,[])])
 | _=>.nil
theorem ai3(p0:Value)(h:S48 w K p0):CR 48 [p0] w K:=
 qO 128 P48 12 [.cell 2 31,.cell 3 3] Tryz.func48 h
theorem aw0:PL 48:=dJ Tryz.func48
theorem aqi:PL 114:=dJ Tryz.func114
theorem aqj:PL 194:=dJ Tryz.func194
end Go.Proofs.YtpdlpabnlkofmaaGreatDoor
namespace Go.Proofs.YtpdlpabnlkofmaaGreatDoor
open Go.Fw
def C194(sv:Value)(ns:List Int)(s:Int)(w:World)(J:dA (λ_=>True) w sv ns)(U:ns.length<=1048576):CR 194 [sv,hZ s] w (λv w'=>v=hZ (sj (λy=>decide (y=s)) ns)/\Ext w w'):=by
 have u:=St.start w;refine eX Tryz.func194 ?_;refine aK cS (J.ext u.aG) ?_;refine⟨λm x I=>∃k:Nat,x=hZ (k:Int)/\m=ns.length-k/\k<=ns.length/\(∀y∈ns.take k,decide (y=s)=false)/\St w bD [] I,⟨_,0,rfl,rfl,l1 _,ei,u⟩,?_⟩;rintro m _ I ⟨k,rfl,rfl,O,B,u⟩ _;refine aR (aC (λW=>?_) λ_=>⟨gN (nf .i64) (je (by rw[kW cK]at B;exact B)).symm,u.aG⟩);obtain⟨V,G⟩:=gx ns (i:=(k:Int).toNat) cK;exact aO cS J cK G (λ_ M=>aD bL (M.ext u.aG) (aH (aC (λE=>⟨gN (nf .i64) (ma B G (ez E.symm)).symm,u.aG⟩) λE=>aN cK ⟨_,cK,k+1,rfl,rfl,cK,dY B G (fN λh=>E h.symm),u⟩)))
def C114(sv:Value)(ns:List Int)(s:Int)(w:World)(B:dA (λ_=>True) w sv ns)(E:ns.length<=1048576):CR 114 [sv,hZ s] w (λv w'=>v=.bool (ns.any λy=>decide (y=s))/\Ext w w'):=by
 have u:=St.start w;refine eX Tryz.func114 ?_;exact aV aqj u (C194 _ _ _ _ (B.ext u.aG) cK) (λ_ _ u=>cR ⟨vb (kT _ _),u.aG⟩)
def YM{u:UU}{l:List bQ}(h:u∈oI l):u.2.2.length<=1048576:=by
 have:u.2.2.length<=2:=by
  unfold oI at h
  obtain⟨x,_,h⟩:=List.mem_flatMap.1 h
  rw[Cb]at h
  unfold sE tZ B9 Jq at h
  simp only[pI]at h
  grind
 omega
theorem C48(p:cE)(pv:bP)(w:World)(hp:mG w pv p)(V:PZ p):CR 48 [ia pv] w (λv w'=>∃a:Int,v=.tuple #[hZ (fj p),hZ a]/\Ext w w'):=by
 have N8:=hp;have aiz:=Ds V.toPS;obtain⟨bK,bU,bN,aW,aX,bG,rfl,cQ,dG,cW,cB,cC,cP⟩:=hp;obtain⟨O,Yi,Yj⟩:=cB.open;obtain⟨U,Ps,hD4⟩:=cC.open;have hn3:=Yj.1;have hn4:=hD4.1;have hD:=Yj.append hD4;have aw1:=hD.1
 change (O++U).length=(gl p).length at aw1
 have E:=St.start w;refine ai3 _ _ _ ?_;unfold S48;refine cI E (λbp w1 E=>gB E ahB rfl λb2 _ E=>gB E uw rfl λb3 _ E=>aD et E.p2.At (dQ ap7 (C107 p _ _ (Kx N8 E.aG) V) ?_));rintro _ _ ⟨bm,rfl,cL⟩;have E:=E.made cL;refine aQ rfl (aQ rfl (aQ rfl (aD et E.p3.At (aV aoz E (C108 p _ _ (Kx N8 E.aG) V) λ_ he E=>bR (aY (λc=>?_) λc=>?_)))))
 .have h1:kr p=false:=by simpa using c
  have Z:fj p=8:=ce8 h1;exact aT E.p2 jL (dL rfl) rfl (λ_ E=>aT E.p2 bL (dL rfl) rfl λ_ E=>aB jL E.p1.hb rfl (aB bL E.hb rfl ⟨_,by rw[Z],E.aG⟩))
 have h1:kr p=true:=by simpa using c
 refine aD et E.p3.At (aV apW E (C109 p _ _ (Kx N8 E.aG) V) λ_ he E=>aY (λc=>?_) λc=>?_)
 .have h2:uO p=true:=c;have Z:fj p=2:=ce2 h1 h2;exact aT E.p2 jL (dL rfl) rfl (λ_ E=>aT E.p2 bL (dL rfl) rfl λ_ E=>aB jL E.p1.hb rfl (aB bL E.hb rfl ⟨_,by rw[Z],E.aG⟩))
 have h2:uO p=false:=c;refine aD et E.p3.At (dT Sj E (C110 p _ O U _ (Kx N8 E.aG) (Yi.ext E.aG) (Ps.ext E.aG) (by have:=V.threads;omega) (by have:=V.recover;omega)) λx38 w38 cL E=>aK fu E.dX ?_);refine⟨λm x w1=>∃k:Nat,x=hZ (k:Int)/\m=(O++U).length-k/\k<=(O++U).length/\(∀y∈(gl p).take k,ri y.body=false)/\St w bD [bH x38 (O++U),ni bm (CH p).1,bY b3 [hZ 0],bY b2 [hZ 0],bY bp (j0 (⟨bK,bU,bN,aW,aX,bG⟩:bP))] w1,⟨_,0,rfl,rfl,l1 _,ei,E⟩,?_⟩;rintro m _ _ ⟨k,rfl,rfl,hk,I,E⟩ _
 refine aR (aC (λc=>?_) λc=>?_)
 .obtain⟨t,ht⟩:=gx (O++U) (i:=((k:Nat):Int).toNat) cK;obtain⟨r,G⟩:=gx (gl p) (i:=k) cK;have J:=kO G;have hrz:=V.qR J;have hrr:=(qA h1).qR J;obtain⟨gr,gb,rfl,dr,db⟩:=hD.2 _ _ _ ht G;have hrs:=lu hrr.2.1;refine aO fu E.dX cK ht (λq hq=>aD m4 hq (aM E tA λbt wt E=>aJ (x:=(⟨r.name,gr,gb,r.at_⟩:cG)) E m4 rfl rfl λwu E=>?_));obtain⟨api,hbf,tb,hbt,iT,_,_⟩:=hrs;have N3:tb.len<=40:=by rw[<- Bk.cY,<- hbt];exact api
  have YN:ri r.body=mE tb 1:=by rw[hbt];exact vq iT
  refine aA lI (aB (v:=ia gb) jN E.hb rfl (dQ agB (C111 _ tb 1 (tb.len+1) _ (by rw[<- hbt];exact DL.ext db E.aG) iT (by rw[<- hbt];exactλx hx=>Jb (hbf x hx)) cK cK (Nat.lt_succ_self _)) ?_));rintro _ _ ⟨aa,rfl,he⟩;have E:=E.ext he;refine aQ rfl (aQ rfl (aY (λc9=>?_) λc9=>?_))
  .have h3:(gl p).any (λt=>ri t.body)=true:=hG G (by rw[YN];exact c9);have Z:fj p=11:=aoS h1 h2 h3;exact aT E.p4 jL (dL rfl) rfl (λ_ E=>aT E.p4 bL (dL rfl) rfl λ_ E=>aB jL E.p1.hb rfl (aB bL E.hb rfl ⟨_,by rw[Z],E.aG⟩))
  exact aN cK (have E:=E.drop;⟨_,cK,k+1,rfl,rfl,cK,dY I G (by rw[YN];exact c9),E⟩)
 have h3:(gl p).any (λt=>ri t.body)=false:=iz (by rw[kW cK]at I;exact I);have E:=E.drop;refine aY (λc10=>?_) (λc10=>?_)
 .have h4:kx (fO p)=true:=by rw[<- YF];exact c10
  have Z:fj p=10:=aoT h1 h2 h3 h4;exact aT E.p2 jL (dL rfl) rfl (λ_ E=>aT E.p2 bL (dL rfl) rfl λ_ E=>aB jL E.p1.hb rfl (aB bL E.hb rfl ⟨_,by rw[Z],E.aG⟩))
 have h4:kx (fO p)=false:=by rw[<- YF];exact c10
 refine aD et E.p3.At (dT Sj E (C110 p _ O U _ (Kx N8 E.aG) (Yi.ext E.aG) (Ps.ext E.aG) (by have:=V.threads;omega) (by have:=V.recover;omega)) λx56 _ cL E=>aK fu E.dX ?_)
 clear I
 refine⟨λm x w1=>∃k:Nat,x=hZ (k:Int)/\m=(O++U).length-k/\k<=(O++U).length/\(∀y∈(gl p).take k,uN p y.dP=false)/\St w bD [bH x56 (O++U),ni bm (CH p).1,bY b3 [hZ 0],bY b2 [hZ 0],bY bp (j0 (⟨bK,bU,bN,aW,aX,bG⟩:bP))] w1,⟨_,0,rfl,rfl,l1 _,ei,E⟩,?_⟩;rintro m _ _ ⟨k,rfl,rfl,hk,I,E⟩ _;refine aR (aC (λc=>?_) λc=>?_)
 .obtain⟨t,ht⟩:=gx (O++U) (i:=((k:Nat):Int).toNat) cK;obtain⟨r,G⟩:=gx (gl p) (i:=k) cK;have J:=kO G;have hrz:=V.qR J;have hrr:=(qA h1).qR J;obtain⟨gr,gb,rfl,dr,db⟩:=hD.2 _ _ _ ht G;have hrs:=lu hrr.2.1;refine aO fu E.dX cK ht (λq hq=>aD m4 hq (aM E tA λbt wt E=>aJ (x:=(⟨r.name,gr,gb,r.at_⟩:cG)) E m4 rfl rfl λwu E=>aD m4 E.At (dQ agE (C112 (⟨r.name,gr,gb,r.at_⟩:cG) r.dP bm (CH p).1 _ (DL.flat (DL.ext dr E.aG)) E.p2.ni (PI p) cK) ?_)))
  rcases Jr h4 r.dP with⟨Bz,F7⟩|⟨g,Bz,F7,_⟩
  .rintro _ w24 (⟨_,rfl,he⟩|⟨g,bg,T6,_⟩);rotate_left
   .rw[Bz]at T6;cases T6
   have E:=E.ext he;have h5:(gl p).any (λt=>uN p t.dP)=true:=hG G F7;refine aQ rfl (aQ rfl (iw (aA qo (have E:=E.drew;aB (v:=hZ r.at_) bL E.hb rfl ?_))));have Z:fj p=10:=ago h1 h2 h3 h4 h5;refine aT E.p4 jL (dL rfl) rfl (λwa E=>?_);refine⟨aF bL (E.p1.hb.cell rfl),?_⟩;exact aT E.p4 bL (dL rfl) rfl (λ_ E=>aB jL E.p1.hb rfl (aB bL E.hb rfl ⟨_,by rw[Z],E.aG⟩))
  rintro _ w24 (⟨T6,_⟩|⟨g2,bg,T6,rfl,cL⟩)
  .rw[Bz]at T6;cases T6
  have E:=(E.made cL).drop.drop;exact aQ rfl (aQ rfl (ft (aN cK ⟨_,cK,k+1,rfl,rfl,cK,dY I G F7,E⟩)))
 have h5:(gl p).any (λt=>uN p t.dP)=false:=iz (by rw[kW cK]at I;exact I);have E:=E.drop;refine aD et E.p3.At (dT Sj E (C110 p _ O U _ (Kx N8 E.aG) (Yi.ext E.aG) (Ps.ext E.aG) (by have:=V.threads;omega) (by have:=V.recover;omega)) λx73 _ cL E=>aK fu E.dX ?_)
 clear I
 have E:=PC.nil E;refine⟨λm dv x w1=>∃(k:Nat) (ds:List Nat),dv=lH ds/\x=hZ (k:Int)/\m=(O++U).length-k/\k<=(O++U).length/\(∀y∈(gl p).take k,y.body.any (m8 p y.dP)=false)/\St w bD [PC ds,bH x73 (O++U),ni bm (CH p).1,bY b3 [hZ 0],bY b2 [hZ 0],bY bp (j0 (⟨bK,bU,bN,aW,aX,bG⟩:bP))] w1,⟨_,0,[],rfl,rfl,rfl,l1 _,ei,E⟩,?_⟩;rintro m _ _ _ ⟨k,ds,rfl,rfl,rfl,hk,I,E⟩ _;rw[BF];refine aR (aC (λc=>?_) λc=>?_)
 .obtain⟨t,ht⟩:=gx (O++U) (i:=((k:Nat):Int).toNat) cK;obtain⟨r,G⟩:=gx (gl p) (i:=k) cK;have J:=kO G;have hrz:=V.qR J;have hrr:=(qA h1).qR J;obtain⟨gr,gb,rfl,dr,db⟩:=hD.2 _ _ _ ht G;have hrs:=lu hrr.2.1;refine aO fu E.p1.dX cK ht (λq hq=>aD m4 hq (aM E tA λbt wt E=>aJ (x:=(⟨r.name,gr,gb,r.at_⟩:cG)) E m4 rfl rfl λwu E=>?_))
  have h5r:uN p r.dP=false:=by
   cases hh:uN p r.dP with
   | false=>rfl
   | true=>exact absurd (hG (g:=λt:cN=>uN p t.dP) G hh) (by rw[h5];decide)
  refine aD m4 E.At (dQ agE (C112 (⟨r.name,gr,gb,r.at_⟩:cG) r.dP bm (CH p).1 _ (DL.flat (DL.ext dr E.aG)) E.p3.ni (PI p) cK) ?_)
  rcases Jr h4 r.dP with⟨_,F7⟩|⟨g,Bz,F7,_⟩
  .rw[F7]at h5r;cases h5r
  rintro _ w31 (⟨T6,_⟩|⟨g2,bg,T6,rfl,cL⟩)
  .rw[Bz]at T6;cases T6
  obtain rfl:g=g2:=oe.inj (Bz.symm.trans T6);have E:=E.made cL;refine aQ rfl (aQ rfl (gB E Rw rfl λb17 _ E=>aT E GX (dL rfl) rfl λ_ E=>aA lI (aB (v:=ia gb) jN E.p2.hb rfl (dQ aqa (C113 gb _) ?_))));rintro _ _ ⟨bu,rfl,aqk⟩;have E:=E.made aqk;have hbz:=hrz.1.2.2;have aql:=YL h4 Bz hrs.2.1;obtain⟨tsb,hRb,hDb⟩:=db.open
  refine Yx (cap:=[.pointer (some ⟨bu,0,none⟩)]) (oI r.body).length (Sn (oI r.body)) aqb E
   (λj M=>(∀i,i<j->∀u,(oI r.body)[i]?=some u->C1 g u=false)/\M=[bY bu [ia gb],bY b17 [.map (some bg)],ni bg g,bY bt (j0 (⟨r.name,gr,gb,r.at_⟩:cG)),PC ds,bH x73 (O++U),ni bm (CH p).1,bY b3 [hZ 0],bY b2 [hZ 0],bY bp (j0 (⟨bK,bU,bN,aW,aX,bG⟩:bP))])
   (λcx M=>cx=.ret/\(oI r.body).any (C1 g)=true/\∃a L,M=bY b3 [hZ a]::bY b2 [hZ 9]::PC ds::L) ⟨λ_ hi=>absurd hi (Nat.not_lt_zero _),rfl⟩ (by rintro j a Φ ⟨u,s,_,rfl,_⟩;rfl) ?_ ?_ ?_ ?_ ?_ ?_
  .intro y Y Jx W h0 hy;refine(C192 y bu (ia gb) tsb r.body w bD _ Jx W cK (λx hx=>⟨(hbz x hx).2.2.1,(hbz x hx).2.2.2.1⟩) ?_ ?_ hy).mono λ_ _ rr=>rr.mono λv W' h=>?_
   .rintro j _ W2 ⟨M,⟨_,rfl⟩,rfl⟩ hs2;exact⟨hs2.p1.hb.cell rfl,hRb.ext hs2.aG,hDb.ext hs2.aG⟩
   .obtain⟨M,h1,h2⟩:=h0;exact⟨_,⟨M,h1,rfl⟩,h2⟩
   rcases h with⟨_,⟨M,h1,rfl⟩,h2⟩|h
   .exact .inl ⟨M,h1,h2⟩
   exact .inr h
  .rintro j args Φ Y1 Y2 B Kr M W ⟨u,s,hu,rfl,Uc⟩ ⟨hjn,rfl⟩ hΦ hB hN hR E;dsimp only[D0];refine aM E ace (λb9 _ E=>aJ (x:=(⟨u.1,u.2.1,s⟩:Jo)) E anA rfl rfl λ_ E=>?_);refine hB _ _ _ E.p1 (λw38 E=>?_);refine aA Wf (aB (v:=ia s) eg E.p1.hb rfl (aB GX E.p3.hb rfl (aA Wc (aB (v:=.string u.1) gv E.p1.hb rfl (yd E.p4.ni Tryz.underlying165 Tryz.underlying9 uw ?_)))))
   have Vh:dA (λ_=>True) w38 (ia s) u.2.2:=by
    obtain⟨F,h1,_⟩:=E.head;exact Uc _ (hΦ _ _ h1)
   have hul:u.2.2.length<=1048576:=YM (kO hu);refine aV aqi E (C114 _ u.2.2 (eF g u.1) _ Vh hul) (λ_ he E=>bR (aY (λc11=>aA We (have E:=E.drew;aB (v:=hZ u.2.1) bL E.p1.hb rfl (have E:=E.p2.drop;aT E.p9 jL (dL rfl) rfl λ_ E=>⟨aF bL (E.p2.hb.cell rfl),aT E.p9 bL (dL rfl) rfl λ_ E=>hR .ret _ _ E.p7.p2.p2.p3 ⟨rfl,hG hu (by unfold C1;exact c11),_,_,rfl⟩⟩))) λc11=>?_));refine hN _ _ E.p1.drop ⟨λi hi u2 hu2=>?_,rfl⟩
   rcases N7 i j with h|h
   .exact hjn i h u2 hu2
   obtain rfl:i=j:=cK
   rw[hu]at hu2;cases hu2
   unfold C1;exact c11
  .rintro D M W ⟨hjn,rfl⟩ E;refine aN cK ?_;have E:=St.join (H1:=nE D (.deferred (some []))) E.p1.drop.p1.drop.p1.drop.p1.drop;refine⟨_,cK,k+1,D::ds,rfl,rfl,rfl,cK,dY I G ?_,E⟩;rw[<- aql];refine iz λu hu=>?_;obtain⟨i,hi⟩:=yj.1 hu;exact hjn i (kE.1 hi).1 u hi
  .rintro D M W ⟨_,aw5,a,L,rfl⟩ E;have h6:(gl p).any (λt=>t.body.any (m8 p t.dP))=true:=hG G (by rw[<- aql];exact aw5);have Z:fj p=9:=ce9 h1 h2 h3 h4 h5 h6;have E:=St.join (H1:=nE D (.deferred (some []))) E.p3.p1;refine PC.take (D::ds) E (λ_ E=>?_);exact aB jL E.p1.hb rfl (aB bL E.hb rfl ⟨_,by rw[Z],E.aG⟩)
  .rintro id D M W ⟨h,_⟩;cases h
  rintro cx M ⟨h,_⟩;exact .inr h
 have h6:(gl p).any (λt=>t.body.any (m8 p t.dP))=false:=iz (by rw[kW cK]at I;exact I);have E:=E.p1.drop;have hzc:=V.dS;obtain⟨ts5,hR5,hD5⟩:=cP.open;have Dx:=hD5.1;refine aA jt (aB (v:=ia bG) qP E.p4.hb rfl (aK sY (hR5.ext E.aG) ?_))
 clear I
 refine⟨λm x w1=>∃k:Nat,x=hZ (k:Int)/\m=ts5.length-k/\k<=ts5.length/\(∀y∈p.dS.take k,o8 y.e (gm p)=false)/\St w bD [PC ds,ni bm (CH p).1,bY b3 [hZ 0],bY b2 [hZ 0],bY bp (j0 (⟨bK,bU,bN,aW,aX,bG⟩:bP))] w1,⟨_,0,rfl,rfl,l1 _,ei,E⟩,?_⟩;rintro m _ _ ⟨k2,rfl,rfl,xf,I,E⟩ _;refine aR (aC (λc12=>?_) λc12=>?_)
 .obtain⟨t,ht⟩:=gx ts5 (i:=((k2:Nat):Int).toNat) cK;obtain⟨r,G⟩:=gx p.dS (i:=k2) cK;have hrz:=V.zc r (kO G);obtain⟨ge,rfl,de⟩:=hD5.2 _ _ _ ht G;have dE:=DL.flat de;refine aO sY (hR5.ext E.aG) cK ht (λq hq=>aD IJ hq (aM E OB λbc _ E=>aJ (x:=(⟨ge,r.at_⟩:jy)) E IJ rfl rfl λ_ E=>aA vh (aB (v:=ia ge) ju E.hb rfl (aK gV (dE.ext E.aG) ?_))));have hvc:=PK h4 r.e;refine⟨λm x w1=>∃j:Nat,x=hZ (j:Int)/\m=r.e.length-j/\j<=r.e.length/\(∀y∈r.e.take j,(decide (y.op=2)&&decide (¬ eF (CH p).1 y.name=1))=false)/\St w bD [bY bc (j0 (⟨ge,r.at_⟩:jy)),PC ds,ni bm (CH p).1,bY b3 [hZ 0],bY b2 [hZ 0],bY bp (j0 (⟨bK,bU,bN,aW,aX,bG⟩:bP))] w1,⟨_,0,rfl,rfl,l1 _,ei,E⟩,?_⟩
  rintro m _ _ ⟨j,rfl,rfl,hj,hnj,E⟩ _;refine aR (aC (λc13=>?_) λc13=>?_)
  .obtain⟨y,hy⟩:=gx r.e (i:=((j:Nat):Int).toNat) cK;refine aO gV (dE.ext E.aG) cK hy (λq hq=>aD rZ hq (aM E xX λby_ _ E=>aJ (x:=y) E rZ rfl rfl λw50 E=>?_));refine⟨λjv w'=>jv=.bool (decide (y.op=2)&&decide (¬ eF (CH p).1 y.name=1))/\w'=w50,?_,?_⟩
   .exact aA eY (aB (v:=hZ y.op) bL E.hb rfl (aH (aC (λc14=>aA gj (aB (v:=.string y.name) gv E.hb rfl (yd E.p3.ni Tryz.underlying165 Tryz.underlying9 uw (bW ⟨vb (by rw[ez c14,yk]),rfl⟩)))) λc14=>⟨vb (by rw[fN c14,P1]),rfl⟩)))
   rintro _ _ ⟨rfl,rfl⟩ _;refine aY (λc15=>?_) (λc15=>aN cK ⟨_,cK,j+1,rfl,rfl,cK,dY hnj hy c15,E.drop⟩);have h7:p.dS.any (λc=>o8 c.e (gm p))=true:=hG G (by rw[<- hvc];exact hG hy c15);have Z:fj p=9:=aoU h1 h2 h3 h4 h5 h6 h7;refine aA r7 (have E:=E.drew;aB (v:=hZ y.at_) bL E.hb rfl (aT E.p5 jL (dL rfl) rfl λwa E=>?_));refine⟨aF bL (E.p1.hb.cell rfl),?_⟩;refine aT E.p5 bL (dL rfl) rfl (λwb E=>?_);refine PC.take ds E.p4 (λw54 E=>?_);exact aB jL E.p1.hb rfl (aB bL E.hb rfl ⟨_,by rw[Z],E.aG⟩)
  refine aN cK ?_;refine⟨_,cK,k2+1,rfl,rfl,cK,dY I G ?_,E.drop⟩;rw[<- hvc];exact iz (by rw[kW cK]at hnj;exact hnj)
 have h7:p.dS.any (λc=>o8 c.e (gm p))=false:=iz (by rw[kW cK]at I;exact I);have Z:fj p=0:=ce0 h1 h2 h3 h4 h5 h6 h7;refine aT E.p3 jL (dL rfl) rfl (λwa E=>aT E.p3 bL (dL rfl) rfl λwb E=>?_);refine PC.take ds E.p2 (λw54 E=>?_);exact aB jL E.p1.hb rfl (aB bL E.hb rfl ⟨_,by rw[Z],E.aG⟩)
def C83(sv:Value)(xs:List Int)(w:World)(E:dA (λ_=>True) w sv xs)(M:xs.length<=1000000):CR 83 [sv] w (λv w'=>lg (bH v xs) w w'):=by
 have u:=St.start w;refine eX Tryz.func83 ?_;refine G4 Tryz.underlying41 (E.ext u.aG) (λp G=>aY (λB=>?_) λB=>?_)
 .have I:=G B;subst I;exact(u.eM (α:=Int)).fresh
 refine aZ ([]:List Int) u cS rfl rfl (dL rfl) (λO _ u=>?_);have J:=(E.ext u.aG);exact bJ u cS J (by simp;omega) ee (λ_ _ u=>u.fresh)
def j4(x y:bI):Bool:=decide (x.kind≠7/\y.kind≠7/\(x.kind=6\/y.kind=6)/\x.line≠y.line)
def right(x:bI):Bool:=decide ((x.kind=3/\0<=x.line/\0<=x.cell)\/((x.kind=5\/x.kind=6)/\0<=x.line/\x.cell=0/\x.n=0)\/(x.kind=7/\x.line=0/\x.cell=0/\x.n=0))
def C260(x y:bI)(w:World):CR 260 [ia x,ia y] w (λv w'=>v=.bool (j4 x y)/\Ext w w'):=by
 have u:=St.start w;refine eX Tryz.func260 ?_;refine cI u (λU _ u=>cI u λO _ u=>?_);refine⟨_,?_,λ_ _ h=>h⟩;refine aA gG (aB bL u.p1.hb rfl (aH (aC (λJ=>?_) λJ=>?_)))
 .intro G;refine⟨_,?_,λ_ _ h=>h⟩;refine bR (ft ?_);intro B;refine⟨vb ?_,u.aG⟩;unfold j4
  first|exact(ez cK).symm|exact(fN cK).symm|exact ga.2 cK|exact ga.2 (bI.ext_iff.trans (by dsimp only;omega))
 refine aA gG (aB bL u.hb rfl (aH ?_));intro G;refine⟨_,?_,λ_ _ h=>h⟩
 first|refine KH ?_|refine bR ?_
 refine aC (λI=>aA gG (aB bL u.p1.hb rfl (aH (aC (λE=>?_) λE=>aA gG (aB bL u.hb rfl (aH (aC (λM=>?_) λM=>?_))))))) (λI=>?_)
 .refine aA gY (aB bL u.p1.hb rfl (aA gY (aB bL u.hb rfl (bW ?_))));intro B;refine⟨vb ?_,u.aG⟩;unfold j4
  first|exact(ez cK).symm|exact(fN cK).symm|exact ga.2 cK|exact ga.2 (bI.ext_iff.trans (by dsimp only;omega))
 .refine aA gY (aB bL u.p1.hb rfl (aA gY (aB bL u.hb rfl (bW ?_))));intro B;refine⟨vb ?_,u.aG⟩;unfold j4
  first|exact(ez cK).symm|exact(fN cK).symm|exact ga.2 cK|exact ga.2 (bI.ext_iff.trans (by dsimp only;omega))
 .intro B;refine⟨vb ?_,u.aG⟩;unfold j4
  first|exact(ez cK).symm|exact(fN cK).symm|exact ga.2 cK|exact ga.2 (bI.ext_iff.trans (by dsimp only;omega))
 intro B;refine⟨vb ?_,u.aG⟩;unfold j4
 first|exact(ez cK).symm|exact(fN cK).symm|exact ga.2 cK|exact ga.2 (bI.ext_iff.trans (by dsimp only;omega))
def C222(x y:bI)(w:World):CR 222 [ia x,ia y] w (λv w'=>v=.bool (j4 x y)/\Ext w w'):=by
 have u:=St.start w;refine eX Tryz.func222 ?_;refine cI u (λU _ u=>cI u λE _ u=>?_);refine⟨_,?_,λ_ _ h=>h⟩;refine aA gG (aB bL u.p1.hb rfl (aH (aC (λJ=>?_) λJ=>aA gG (aB bL u.hb rfl (aH (aC (λM=>?_) λM=>?_))))))
 .intro B;refine iw ?_;refine⟨vb ?_,u.aG⟩;unfold j4
  first|exact(ez cK).symm|exact(fN cK).symm|exact ga.2 cK|exact ga.2 (bI.ext_iff.trans (by dsimp only;omega))
 .intro B;refine iw ?_;refine⟨vb ?_,u.aG⟩;unfold j4
  first|exact(ez cK).symm|exact(fN cK).symm|exact ga.2 cK|exact ga.2 (bI.ext_iff.trans (by dsimp only;omega))
 refine aA gY (aB bL u.p1.hb rfl (aA gY (aB bL u.hb rfl (aH ?_))));intro B;refine aC (λI=>?_) (λI=>⟨_,aA gG (aB bL u.p1.hb rfl (aH (aC (λO=>?_) λO=>?_))),λ_ _ h=>h⟩)
 .refine⟨vb ?_,u.aG⟩;unfold j4
  first|exact(ez cK).symm|exact(fN cK).symm|exact ga.2 cK|exact ga.2 (bI.ext_iff.trans (by dsimp only;omega))
 .intro G;refine⟨vb ?_,u.aG⟩;unfold j4
  first|exact(ez cK).symm|exact(fN cK).symm|exact ga.2 cK|exact ga.2 (bI.ext_iff.trans (by dsimp only;omega))
 refine aA gG (aB bL u.hb rfl (aH ?_));intro G;refine⟨vb ?_,u.aG⟩;unfold j4
 first|exact(ez cK).symm|exact(fN cK).symm|exact ga.2 cK|exact ga.2 (bI.ext_iff.trans (by dsimp only;omega))
def eqE(x y:bI):Ai (j0 x) (j0 y)=decide (x=y):=by
 obtain⟨a,b,c,d⟩:=x
 obtain⟨B,b2,u,E⟩:=y
 simp[j0,Ai,eqV,H4]
def C228(x:bI)(w:World):CR 228 [ia x] w (λv w'=>v=.bool (right x)/\Ext w w'):=by
 have u:=St.start w;refine eX Tryz.func228 ?_;refine cI u (λW _ u=>aA gG (aB bL u.hb rfl (aH (aC (λV=>⟨_,aA gY (aB bL u.hb rfl (cR (aC (λO=>?_) λO=>?_))),λ_ _ h=>h⟩) λV=>⟨_,aH (aC (λM=>?_) λM=>?_),λ_ _ h=>h⟩))))
 .refine aA mu (aB bL u.hb rfl (cR ?_));intro U;refine⟨vb ?_,u.aG⟩;unfold right
  first|exact(ez cK).symm|exact(fN cK).symm|exact ga.2 cK|exact ga.2 (bI.ext_iff.trans (by dsimp only;omega))
 .intro U;refine⟨vb ?_,u.aG⟩;unfold right
  first|exact(ez cK).symm|exact(fN cK).symm|exact ga.2 cK|exact ga.2 (bI.ext_iff.trans (by dsimp only;omega))
 .intro J;refine aC (λE=>⟨_,aA gY (aB bL u.hb rfl (cR (aC (λG=>aA mu (aB bL u.hb rfl (aH (aC (λI=>?_) λI=>?_)))) λG=>?_))),λ_ _ h=>h⟩) (λE=>?_)
  .refine aA oV (aB bL u.hb rfl (aH ?_));intro B;refine⟨vb ?_,u.aG⟩;unfold right
   first|exact(ez cK).symm|exact(fN cK).symm|exact ga.2 cK|exact ga.2 (bI.ext_iff.trans (by dsimp only;omega))
  .intro B;refine⟨vb ?_,u.aG⟩;unfold right
   first|exact(ez cK).symm|exact(fN cK).symm|exact ga.2 cK|exact ga.2 (bI.ext_iff.trans (by dsimp only;omega))
  .intro B;refine⟨vb ?_,u.aG⟩;unfold right
   first|exact(ez cK).symm|exact(fN cK).symm|exact ga.2 cK|exact ga.2 (bI.ext_iff.trans (by dsimp only;omega))
  refine aD iq u.At (pop (Aw _) (GS Wr rfl rfl (eqE x ⟨7,0,0,0⟩) ?_));refine⟨vb ?_,u.aG⟩;unfold right
  first|exact(ez cK).symm|exact(fN cK).symm|exact ga.2 cK|exact ga.2 (bI.ext_iff.trans (by dsimp only;omega))
 refine aH ?_;intro J;refine aC (λE=>⟨_,aA gY (aB bL u.hb rfl (cR (aC (λG=>aA mu (aB bL u.hb rfl (aH (aC (λI=>?_) λI=>?_)))) λG=>?_))),λ_ _ h=>h⟩) (λE=>?_)
 .refine aA oV (aB bL u.hb rfl (aH ?_));intro B;refine⟨vb ?_,u.aG⟩;unfold right
  first|exact(ez cK).symm|exact(fN cK).symm|exact ga.2 cK|exact ga.2 (bI.ext_iff.trans (by dsimp only;omega))
 .intro B;refine⟨vb ?_,u.aG⟩;unfold right
  first|exact(ez cK).symm|exact(fN cK).symm|exact ga.2 cK|exact ga.2 (bI.ext_iff.trans (by dsimp only;omega))
 .intro B;refine⟨vb ?_,u.aG⟩;unfold right
  first|exact(ez cK).symm|exact(fN cK).symm|exact ga.2 cK|exact ga.2 (bI.ext_iff.trans (by dsimp only;omega))
 refine aD iq u.At (pop (Aw _) (GS Wr rfl rfl (eqE x ⟨7,0,0,0⟩) ?_));refine⟨vb ?_,u.aG⟩;unfold right
 first|exact(ez cK).symm|exact(fN cK).symm|exact ga.2 cK|exact ga.2 (bI.ext_iff.trans (by dsimp only;omega))
def C277(x:bI)(w:World):CR 277 [ia x] w (λv w'=>v=.bool (right x)/\Ext w w'):=by
 have u:=St.start w;refine eX Tryz.func277 ?_;refine cI u (λzz _ u=>aA gG (aB bL u.hb rfl (aH (aC (λY=>⟨_,aA gY (aB bL u.hb rfl (cR (aC (λO=>?_) λO=>?_))),λ_ _ h=>h⟩) λY=>⟨_,aA mu (aB bL u.hb rfl (bW (aC (λM=>?_) λM=>?_))),λ_ _ h=>h⟩))))
 .refine aA mu (aB bL u.hb rfl (cR ?_));intro W;refine⟨vb ?_,u.aG⟩;unfold right
  first|exact(ez cK).symm|exact(fN cK).symm|exact ga.2 cK|exact ga.2 (bI.ext_iff.trans (by dsimp only;omega))
 .intro W;refine⟨vb ?_,u.aG⟩;unfold right
  first|exact(ez cK).symm|exact(fN cK).symm|exact ga.2 cK|exact ga.2 (bI.ext_iff.trans (by dsimp only;omega))
 .intro J;refine iw ?_;refine⟨vb ?_,u.aG⟩;unfold right
  first|exact(ez cK).symm|exact(fN cK).symm|exact ga.2 cK|exact ga.2 (bI.ext_iff.trans (by dsimp only;omega))
 refine aA oV (aB bL u.hb rfl (bW ?_));intro J;refine aC (λkS=>?_) (λkS=>⟨_,aA gG (aB bL u.hb rfl (aH (aC (λZ=>aA gY (aB bL u.hb rfl (cR (aC (λV=>?_) λV=>aA gG (aB bL u.hb rfl (aH (aC (λrj=>?_) λrj=>?_))))))) λZ=>?_))),λ_ _ h=>h⟩)
 .refine⟨vb ?_,u.aG⟩;unfold right
  first|exact(ez cK).symm|exact(fN cK).symm|exact ga.2 cK|exact ga.2 (bI.ext_iff.trans (by dsimp only;omega))
 .intro B;refine⟨vb ?_,u.aG⟩;unfold right
  first|exact(ez cK).symm|exact(fN cK).symm|exact ga.2 cK|exact ga.2 (bI.ext_iff.trans (by dsimp only;omega))
 .refine aA gY (aB bL u.hb rfl (aH ?_));intro B;refine⟨vb ?_,u.aG⟩;unfold right
  first|exact(ez cK).symm|exact(fN cK).symm|exact ga.2 cK|exact ga.2 (bI.ext_iff.trans (by dsimp only;omega))
 .intro B;refine⟨vb ?_,u.aG⟩;unfold right
  first|exact(ez cK).symm|exact(fN cK).symm|exact ga.2 cK|exact ga.2 (bI.ext_iff.trans (by dsimp only;omega))
 refine aA gG (aB bL u.hb rfl (aH (aC (λU=>aA gY (aB bL u.hb rfl (cR (aC (λE=>?_) λE=>aA gG (aB bL u.hb rfl (aH (aC (λI=>?_) λI=>?_))))))) λU=>aA gG (aB bL u.hb rfl (aH (aC (λG=>?_) λG=>?_))))))
 .intro B;refine⟨vb ?_,u.aG⟩;unfold right
  first|exact(ez cK).symm|exact(fN cK).symm|exact ga.2 cK|exact ga.2 (bI.ext_iff.trans (by dsimp only;omega))
 .refine aA gY (aB bL u.hb rfl (aH ?_));intro B;refine⟨vb ?_,u.aG⟩;unfold right
  first|exact(ez cK).symm|exact(fN cK).symm|exact ga.2 cK|exact ga.2 (bI.ext_iff.trans (by dsimp only;omega))
 .intro B;refine⟨vb ?_,u.aG⟩;unfold right
  first|exact(ez cK).symm|exact(fN cK).symm|exact ga.2 cK|exact ga.2 (bI.ext_iff.trans (by dsimp only;omega))
 .refine aA gY (aB bL u.hb rfl (aH ?_));intro B;refine⟨vb ?_,u.aG⟩;unfold right
  first|exact(ez cK).symm|exact(fN cK).symm|exact ga.2 cK|exact ga.2 (bI.ext_iff.trans (by dsimp only;omega))
 intro B;refine⟨vb ?_,u.aG⟩;unfold right
 first|exact(ez cK).symm|exact(fN cK).symm|exact ga.2 cK|exact ga.2 (bI.ext_iff.trans (by dsimp only;omega))
def rD(l:List bI)(i:Int):Bool:=decide (0<=i/\i<l.length)&&(match l[i.toNat]? with|some x=>(l.take i.toNat).all (j4 x)|none=>false)
def pA(l:List bI):List Int:=((uT l.length).map fun (k:Nat)=>(k:Int)).filter (rD l)
theorem lW{l:List bI}{i:Int}(h:i<0\/(l.length:Int)<=i):rD l i=false:=by
 grind[rD]
theorem Ss{l:List bI}{i:Int}{x:bI}(B:0<=i)(h1:i<l.length)(u:l[i.toNat]?=some x):rD l i = !(l.take i.toNat).any λy=>!j4 x y:=by
 grind[rD,j4]
def sF(l:List bI)(k:Nat):List Int:=((uT k).map fun (k:Nat)=>(k:Int)).filter (rD l)
def Hq(l:List bI)(k:Nat):(sF l k).length<=k:=by
 grind[sF]
theorem Fl{l:List bI}{k:Nat}(h:rD l k=true):sF l (k+1)=sF l k++[(k:Int)]:=by
 unfold sF;rw[Ie,vd,zp];simp[h]
theorem Hr{l:List bI}{k:Nat}(h:rD l k=false):sF l (k+1)=sF l k:=by
 unfold sF;rw[Ie,vd,zp];simp[h]
theorem Fm(l:List bI){k:Nat}(h:k=l.length):sF l k=pA l:=by subst h;rfl
def ua(w:World)(p:Nat)(room:Int)(l:List bI):Prop:=∃sv,Cell w p 0 (hZ room)/\Cell w p 1 sv/\dA (λ_=>True) w sv l
def jj(p:Nat)(room:Int)(l:List bI):HP:=pH λsv=>sep (bY p [hZ room,sv]) (bH sv l)
theorem ua.ext{w w':World}{p:Nat}{room:Int}{l:List bI}(h:ua w p room l)(e:Ext w w'):ua w' p room l:=by
 obtain⟨sv,h1,h2,h3⟩:=h;exact⟨sv,h1.ext e,h2.ext e,h3.ext e⟩
def jj.rd{w:World}{F:Nat->Prop}{p:Nat}{room:Int}{l:List bI}(h:(jj p room l).p w F):ua w p room l:=by
 obtain⟨sv,u,B,h1,h2,_⟩:=h
 exact⟨sv,h1.1.cell rfl,h1.1.cell rfl,(bH.rd h2).mono λ_ _=>trivial⟩
def C297(sv fv:Value)(xs:List bI)(g:bI->Bool)(w:World)(J:dA (λ_=>True) w sv xs)(M:wg w fv g)(hn:xs.length<=1073741824):CR 297 [sv,fv] w (λv w'=>v=hZ (sj g xs)/\Ext w w'):=by
 obtain⟨g0,first,cap,rfl,W,O⟩:=M;have u:=St.start w;refine eX Tryz.func297 ?_;refine aK fS (J.ext u.aG) ?_;refine⟨λm x G=>∃k:Nat,x=hZ (k:Int)/\m=xs.length-k/\k<=xs.length/\(∀y∈xs.take k,g y=false)/\St w bD [] G,⟨_,0,rfl,rfl,l1 _,ei,u⟩,?_⟩;rintro m _ G ⟨k,rfl,rfl,Z,B,u⟩ _;refine aR (aC (λjH=>?_) λ_=>⟨gN (nf .i64) (je (by rw[kW cK]at B;exact B)).symm,u.aG⟩);obtain⟨V,I⟩:=gx xs (i:=(k:Int).toNat) cK;refine aO fS (J.ext u.aG) cK I (λ_ U=>aD iq U (gT W (O V G u.aG) ?_))
 rintro _ _ ⟨rfl,Y⟩;have u:=u.ext Y;exact aY (λE=>⟨gN (nf .i64) (ma B I E).symm,u.aG⟩) (λE=>aN cK ⟨xs.length-(k+1),cK,k+1,rfl,rfl,cK,dY B I E,u⟩)
def C261(sv fv:Value)(xs:List bI)(g:bI->Bool)(w:World)(E:dA (λ_=>True) w sv xs)(B:wg w fv g)(G:xs.length<=1073741824):CR 261 [sv,fv] w (λv w'=>v=.bool (xs.any g)/\Ext w w'):=by
 have u:=St.start w;refine eX Tryz.func261 ?_;exact aV am9 u (C297 _ _ _ _ _ (E.ext u.aG) (B.ext u.aG) cK) (λ_ _ u=>cR ⟨vb (kT _ _),u.aG⟩)
def C259(x y:bI)(p b2 b3:Nat)(i:Int)(room:Int)(l:List bI)(w:World)(h2:Cell w b2 0 (.pointer (some ⟨p,0,none⟩)))(h3:Cell w b3 0 (hZ i))(hb:ua w p room l)(G:0<=i)(B:l[i.toNat]?=some x):CR 259 [ia y,.pointer (some ⟨b2,0,none⟩),.pointer (some ⟨b3,0,none⟩)] w (λv w'=>v=.bool (!j4 x y)/\Ext w w'):=by
 obtain⟨sv,M,E,J⟩:=hb;have O:=(kE.1 B).1;have u:=St.start w;refine oH Tryz.func259 (pl:=auG) ?_;exact cI u (λ_ _ u=>have u:=u.drew;bM Al (h2.ext u.aG) (aE (aA kQ (bM iL (E.ext u.aG) (bM bL (h3.ext u.aG) (aO fS (J.ext u.aG) G B λ_ I=>aD iq I (aD iq u.At (aV amW u (C260 x y _) λ_ _ u=>bR ⟨rfl,u.aG⟩))))))))
def C216(p:Nat)(i:Int)(room:Int)(l:List bI)(w:World)(hb:ua w p room l)(hn:l.length<=1073741824):CR 216 [.pointer (some ⟨p,0,none⟩),hZ i] w (λv w'=>v=.bool (rD l i)/\Ext w w'):=by
 have Z:=hb;obtain⟨sv,Cv,J,U⟩:=hb;have u:=St.start w;refine oH Tryz.func216 (pl:=auz) ?_;refine nu u rfl (λB M u=>nu u rfl λE _ u=>?_);refine⟨_,?_,λ_ _ h=>h⟩;have u:=u.drew;refine aB bL u.hb rfl (aR (aC (λY=>?_) λY=>?_))
 .intro W;exact iw ⟨vb (lW cK).symm,u.aG⟩
 refine aB bL u.hb rfl (aB Al u.p1.hb rfl (aE (aA kQ (bM iL (J.ext u.aG) (aK fS (U.ext u.aG) (cR ?_))))));intro W;refine aC (λ_=>⟨vb (lW cK).symm,u.aG⟩) (λer=>have u:=u.drew;aB Al u.p1.hb rfl (aE (aA kQ (bM iL (J.ext u.aG) (aB bL u.hb rfl (l4 fS (U.ext u.aG) cK cK λanP V=>?_))))));obtain⟨x,O⟩:=gx l (i:=i.toNat) cK
 have I:wg _ (.func (.func 259) [].toArray [.pointer (some ⟨B,0,none⟩),.pointer (some ⟨E,0,none⟩)].toArray) (λy=>!j4 x y):=
  ⟨259,[],_,rfl,amV,λy M G=>C259 x y p B E i room l M ((u.p1.hb.cell rfl).ext G) ((u.hb.cell rfl).ext G) ((Z.ext u.aG).ext G) cK O⟩
 exact aV amX u (C261 _ _ _ _ _ V I (by rw[l0];omega)) (λ_ _ u=>bR ⟨vb (Ss cK cK O).symm,u.aG⟩)
def C215(p:Nat)(room:Int)(l:List bI)(w:World)(hb:ua w p room l):CR 215 [.pointer (some ⟨p,0,none⟩)] w (λv w'=>v=.bool (decide (room<=l.length))/\Ext w w'):=by
 obtain⟨sv,B,E,G⟩:=hb;have u:=St.start w;refine oH Tryz.func215 (pl:=auy) ?_;exact aE (aA kQ (have u:=u.drew;bM iL (E.ext u.aG) (aK fS (G.ext u.aG) (aE (aA Wg (bM bL (B.ext u.aG) (cR ⟨rfl,u.aG⟩)))))))
def C139(p:Nat)(room:Int)(l:List bI)(w:World)(hb:ua w p room l)(hn:l.length<=1048576):CR 139 [.pointer (some ⟨p,0,none⟩)] w (λv w'=>lg (bH v (pA l)) w w'):=by
 have U:=hb;obtain⟨sv,Cv,I,O⟩:=hb;have u:=St.start w;refine eX Tryz.func139 ?_;refine aE (aA kQ (bM iL (I.ext u.aG) (aK fS (O.ext u.aG) ?_)));refine⟨λm o x E=>∃k:Nat,x=hZ (k:Int)/\m=l.length-k/\k<=l.length/\St w bD [bH o (sF l k)] E,⟨_,0,rfl,rfl,l1 _,u.eM⟩,?_⟩;rintro m o _ E ⟨k,rfl,rfl,Y,u⟩ _;have V:=Hq l k;refine aR (aC (λJ=>⟨_,aV afx u (C216 _ _ _ _ _ (U.ext u.aG) cK) (λ_ Z u=>aY (λB=>?_) λB=>?_),λ_ _ h=>h⟩) λJ=>?_)
 .refine aZ ([(k:Int)]:List Int) u cS rfl rfl (dL rfl) (λWQ _ u=>?_);have M:=u.dX;refine bJ u.p1 cS M (by simp<;>omega) ee (λW _ u=>?_);have u:=u.p1.drop;intro G;exact aN cK ⟨l.length-(k+1),cK,k+1,rfl,rfl,cK,by rw[Fl B];exact u⟩
 .intro G;exact aN cK ⟨l.length-(k+1),cK,k+1,rfl,rfl,cK,by rw[Hr B];exact u⟩
 rw[Fm l cK]at u;exact u.fresh
def Mv(room:Int)(l:List bI)(x:bI):Int:=if right x=true then(if room<=l.length then 2 else 0)else 1
def sG(room:Int)(l:List bI)(x:bI):List bI:=if right x=true/\¬ room<=l.length then l++[x]else l
def dH(l:List bI)(i:Int):bI:=if rD l i=true then(l[i.toNat]?).getD ⟨0,0,0,0⟩else⟨0,0,0,0⟩
def xq(l:List bI)(i:Int):Int:=if 0<=i/\i<l.length then(if rD l i=true then 0 else 13)else 1
def jS(l:List bI)(i:Int):List bI:=if rD l i=true then l.eraseIdx i.toNat else l
theorem adS{l:List bI}{i:Int}(h:rD l i=true):0<=i/\i<l.length:=by
 unfold rD at h;grind
def ua.mk'{w:World}{p:Nat}{room:Int}{sv:Value}{l:List bI}(h1:mR w p [hZ room,sv])(h2:dA (λ_=>True) w sv l):ua w p room l:=
 ⟨sv,h1.cell rfl,h1.cell rfl,h2⟩
def jj.shut{w0 w:World}{A:Nat->Prop}{R:List HP}{p:Nat}{room:Int}{sv:Value}{l:List bI}(u:St w0 A (bY p [hZ room,sv]::bH sv l::R) w):St w0 A (jj p room l::R) w:=
 St.ek (H:=λsv=>sep (bY p [hZ room,sv]) (bH sv l)) sv (St.join u)
def Dy{w0 w:World}{A:Nat->Prop}{R:List HP}{p:Nat}{room:Int}{l:List bI}(u:St w0 A (jj p room l::R) w):ua w p room l:=by
 obtain⟨F,h,_⟩:=u.head;exact jj.rd h
def C224(v:Value)(i:Int)(xs:List bI)(F:Nat->Prop)(w:World)(Z:(bH v xs).p w F)(h0:0<=i)(hi:i<xs.length)(hn:xs.length<=1073741824) :
  CR 224 [v,hZ i,hZ (i+1)] w (λv' w'=>True/\mP F (bH v' (xs.eraseIdx i.toNat)) w w'):=by
 obtain⟨i,rfl⟩:=Int.eq_ofNat_of_zero_le h0;replace hi:i<xs.length:=cK
 rw[pQ];have Vh:=bH.rd Z;obtain⟨b,cap,rest,rfl,hb,u,O⟩:=rL Z hi;have hlen:(flat xs).length=xs.length*4:=dB xs;have Af:xs.length<=cap:=u.1;replace u:=u.2
 change cap*4<=_ at u
 refine abQ _ _ _ _ _ ?_;unfold S224;refine pop (ID fS) (Wt fS cK cK cK cK λ_=>aH (aC (λc=>absurd c cK) λ_=>pop (ID fS) ?_))
 have I:pr hH (n4 179 (.slice (some ⟨b,0,none⟩) xs.length cap) none (some (hZ (i:Int))) none)=some (.slice (some ⟨b,0,none⟩) i cap):=by
  rw[wD fS (l:=0) (h:=i) (oq (.inl ⟨rfl,rfl⟩) (.inr ⟨_,rfl,cK,cK⟩) cK cK)];simp[gE]
 refine pop I (BK fS Vh cK cK λs25 B=>?_);rw[show((i:Int)+1).toNat=i+1 from cK]at B;have G:(xs.drop (i+1)).length=xs.length-(i+1):=ei
 obtain⟨w1,W,b1,g1⟩:=Gi (P:=hH) (R:=179) (n:=i) (cap:=cap) fS (hb.of_eq (w':=drew w) rfl) (B.ext (Ext.drew w)) cK (by rw[lY,hlen,G];change i*4+(xs.length-(i+1))*4<=_;omega);rw[G,show i+(xs.length-(i+1))=xs.length-1 from cK]at W;refine⟨_,w1,W,?_⟩;refine pop (ID fS) ?_
 have M:pr hH (n4 179 (.slice (some ⟨b,0,none⟩) (xs.length-1) cap) (some (hZ ((xs.length-1:Nat):Int))) (some (hZ (xs.length:Int))) none)=some (.slice (some ⟨b,(xs.length-1)*4,none⟩) 1 (cap-(xs.length-1))):=by
  rw[wD fS (l:=xs.length-1) (h:=xs.length) (oq (.inr ⟨_,rfl,cK,cK⟩) (.inr ⟨_,rfl,cK,cK⟩) cK cK),ej cK];simp[gE];omega
 refine pop M ?_;have hx:xs[i]?=some xs[i]:=by simp[hi]
 have Gf:=zh hx;have E:(flat (xs.take i)).length=i*4:=by rw[dB,l0,Nat.min_eq_left cK];rfl
 have hD:(flat (xs.drop (i+1))).length=(xs.length-(i+1))*4:=by rw[dB,G];rfl
 have Y:(j0 xs[i]).length=4:=rfl;have V:(flat (qW 1 (⟨0,0,0,0⟩:bI))).length=4:=rfl
 have s1:jh (flat xs++rest) (i*mv bI) (flat (xs.drop (i+1))) =
   flat (xs.take i)++flat (xs.drop (i+1))++((j0 xs[i]++flat (xs.drop (i+1))).drop (flat (xs.drop (i+1))).length++rest):=by
  have:=mn (flat (xs.take i)) ((j0 xs[i]++flat (xs.drop (i+1))).take (flat (xs.drop (i+1))).length)
   ((j0 xs[i]++flat (xs.drop (i+1))).drop (flat (xs.drop (i+1))).length++rest) (flat (xs.drop (i+1))) (by rw[l0,lY];omega)
  rw[E]at this
  change jh (flat xs++rest) (i*4) _=_
  rw[<- this,Gf]
  have e0:∀(a b c d:List Value) (n:Nat),a++(b++c)++d=a++(b++c).take n++((b++c).drop n++d):=λa b c d n=>by
   rw[n3 a ((b++c).take n),<- n3 ((b++c).take n),pJ,n3 a]
  exact gN (λz=>jh z (i*4) (flat (xs.drop (i+1)))) (by first|exact e0 _ _ _ _ _|(rw[<- e0];simp only[n3])|(simp only[n3];rw[<- n3 (List.take _ _),pJ,n3]))
 rw[s1]at b1
 obtain⟨w2,r2,b2,g2⟩:=TD (P:=hH) (R:=0) (o:=(xs.length-1)*4) (n:=1) (c:=cap-(xs.length-1)) (z:=(⟨0,0,0,0⟩:bI)) fS rz b1
  (by simp only[lY,qa,E,hD,Y];change _+1*4<=_;omega)
 refine⟨_,w2,r2,?_⟩
 have U:=mn (flat (xs.take i)++flat (xs.drop (i+1))) ((j0 xs[i]++flat (xs.drop (i+1))).drop (flat (xs.drop (i+1))).length) rest (flat (qW 1 (⟨0,0,0,0⟩:bI)))
  (by rw[qa,lY,Y,V];omega)
 rw[show(flat (xs.take i)++flat (xs.drop (i+1))).length=(xs.length-1)*4 from by rw[lY,E,hD];omega,n3 _ _ rest]at U;rw[U]at b2;refine⟨trivial,F,.inr ⟨b,cap,flat (qW 1 (⟨0,0,0,0⟩:bI))++rest,?_,?_,?_,O⟩,λ_ hb=>.inl hb,((Ext.drew w).aG (A:=F)).trans (g1.trans (C:=F) g2 (λk J=>(O k).2 J) λk _ J=>(O k).2 J) (λ_ h=>h) λ_ _ h=>h⟩
 .rw[K9 hi]
 .rw[u4,gF,<- n3];exact b2
 refine⟨by rw[K9 hi];omega,?_⟩;rw[u4,gF]
 change cap*4<=_
 rw[lY,hlen]at u;simp only[lY,E,hD,V];omega
def C223(sv:Value)(xs:List bI)(w:World)(E:dA (λ_=>True) w sv xs)(V:xs.length<=1073741824):CR 223 [sv] w (λv w'=>lg (bH v xs) w w'):=by
 have B:=E;obtain⟨a,cap,rfl,U,h3⟩:=E;have u:=St.start w;refine eX Tryz.func223 ?_;refine V7 (fp fS).1 (λI=>?_) ?_
 .rcases h3 with⟨h,hc⟩|⟨b,o,h,_⟩
  .exact⟨by rw[h];rfl,hc⟩
  rw[I]at h;cases h
 refine aY (λG=>?_) (λG=>?_)
 .have J:a=none:=by cases a with|none=>rfl|some _=>cases G
  have M:xs=[]:=by
   rcases h3 with⟨h,_⟩|⟨b,o,h,_⟩
   .exact h
   .rw[J]at h;cases h
  subst M;exact u.eM.fresh
 refine aZ ([]:List bI) u fS rfl rfl (dL rfl) (λW _ u=>?_);have O:=(B.ext u.aG);exact bJ u fS O (by simp<;>omega) ee (λ_ _ u=>u.fresh)
def C153(p:Nat)(room:Int)(l:List bI)(w:World)(hb:ua w p room l)(J:l.length<=1073741824):CR 153 [.pointer (some ⟨p,0,none⟩)] w (λv w'=>lg (bH v l) w w'):=by
 obtain⟨sv,I,E,G⟩:=hb;have u:=St.start w;refine eX Tryz.func153 ?_;refine aE (aA kQ (bM iL (E.ext u.aG) (dQ afy (C223 _ _ _ (G.ext u.aG) cK) ?_)));rintro _ _ B;have u:=u.made B;exact u.fresh
theorem Mw{room:Int}{l:List bI}{x:bI}(h:right x=false):Mv room l x=1:=by unfold Mv;rw[h];rfl
theorem Mx{room:Int}{l:List bI}{x:bI}(h:right x=false):sG room l x=l:=by unfold sG;rw[h];rfl
theorem Hs{room:Int}{l:List bI}{x:bI}(h:right x=true)(u:room<=l.length):Mv room l x=2:=by grind[Mv]
theorem Ht{room:Int}{l:List bI}{x:bI}(u:room<=l.length):sG room l x=l:=by grind[sG]
theorem Su{room:Int}{l:List bI}{x:bI}(h:right x=true)(u:¬ room<=l.length):Mv room l x=0:=by grind[Mv]
theorem Sv{room:Int}{l:List bI}{x:bI}(h:right x=true)(u:¬ room<=l.length):sG room l x=l++[x]:=by unfold sG;grind
def C162(p:Nat)(room:Int)(l:List bI)(x:bI)(F:Nat->Prop)(w:World)(J:(jj p room l).p w F)(U:l.length<=1048576):CR 162 [.pointer (some ⟨p,0,none⟩),ia x] w (λv w'=>v=hZ (Mv room l x)/\mP F (jj p room (sG room l x)) w w'):=by
 have u:=St.begin J;obtain⟨sv,u⟩:=u.eh;have u:=u.split;refine oH Tryz.func162 (pl:=auq) ?_;refine cI u (λI _ u=>aD iq u.At (aV amQ u (C228 _ _) λ_ M u=>bR (aY (λB=>?_) λB=>aV afw u (C215 _ _ _ _ (ua.mk' u.p1.hb u.p2.dX)) λ_ M u=>aC (λE=>?_) λE=>?_)))
 .have u:=u.p2.p2;rw[Mw (by simpa using B),Mx (by simpa using B)];exact⟨rfl,(jj.shut u).mut⟩
 .have u:=u.p2.p2;rw[Hs (by simpa using B) E,Ht E];exact⟨rfl,(jj.shut u).mut⟩
 refine aE (aA kQ (have u:=u.drew;aB iL u.p1.hb rfl (aD iq u.At (aZ ([x]) u fS rfl rfl (dL rfl) λV _ u=>?_))));refine⟨aF iL (u.p2.hb.cell rfl),?_⟩;have G:=u.dX;refine bJ u.p3 fS G (by simp<;>omega) ee (λO _ u=>have u:=u.p1.drop;aE (aA kQ (aT u.p2 iL (dL rfl) u.dX.one λ_ u=>?_)));have u:=u.p1.p1;rw[Su (by simpa using B) E,Sv (by simpa using B) E];exact⟨rfl,(jj.shut u).mut⟩
theorem rO{l:List bI}{i:Int}(h:rD l i=false):dH l i=⟨0,0,0,0⟩:=by unfold dH;rw[h];rfl
theorem rP{l:List bI}{i:Int}(h:rD l i=false):jS l i=l:=by unfold jS;rw[h];rfl
theorem yg{l:List bI}{i:Int}(h:i<0\/(l.length:Int)<=i):xq l i=1:=by unfold xq;omega
theorem My{l:List bI}{i:Int}(u:0<=i/\i<l.length)(h:rD l i=false):xq l i=13:=by unfold xq;grind
theorem Mz{l:List bI}{i:Int}(h:rD l i=true):xq l i=0:=by unfold xq;rw[ew (adS h),h];rfl
theorem MA{l:List bI}{i:Int}{x:bI}(h:rD l i=true)(u:l[i.toNat]?=some x):dH l i=x:=by unfold dH;grind
theorem MC{l:List bI}{i:Int}(h:rD l i=true):jS l i=l.eraseIdx i.toNat:=by unfold jS;rw[h];rfl
def C155(p:Nat)(room:Int)(l:List bI)(i:Int)(F:Nat->Prop)(w:World)(E:(jj p room l).p w F)(hn:l.length<=1048576):CR 155 [.pointer (some ⟨p,0,none⟩),hZ i] w (λv w'=>v=.tuple #[ia (dH l i),hZ (xq l i)]/\mP F (jj p room (jS l i)) w w'):=by
 have u:=St.begin E;obtain⟨sv,u⟩:=u.eh;have u:=u.split;refine eX Tryz.func155 ?_;refine aM u rz (λOS _ u=>?_);refine⟨_,?_,λ_ _ h=>h⟩;refine aR (aC (λJ=>?_) λJ=>?_)
 .intro W;refine iw (pop xY (aJ (x:=(⟨0,0,0,0⟩:bI)) u iq rfl rfl λU u=>aD iq u.At ?_));have u:=u.p2.p2;rw[rO (lW cK),yg cK,rP (lW cK)];exact⟨rfl,(jj.shut u).mut⟩
 refine aE (aA kQ (aB iL u.p1.hb rfl (aK fS u.p2.dX (cR ?_))));intro W;refine aC (λM=>?_) (λM=>aV afx u (C216 _ _ _ _ _ (ua.mk' u.p1.hb u.p2.dX) cK) λ_ he u=>bR (aY (λB=>?_) λB=>?_))
 .refine pop xY (aJ (x:=(⟨0,0,0,0⟩:bI)) u iq rfl rfl λU u=>aD iq u.At ?_);have u:=u.p2.p2;rw[rO (lW cK),yg cK,rP (lW cK)];exact⟨rfl,(jj.shut u).mut⟩
 .refine pop xY (aJ (x:=(⟨0,0,0,0⟩:bI)) u iq rfl rfl λ_ u=>aD iq u.At ?_);have u:=u.p2.p2;rw[rO (by simpa using B),My cK (by simpa using B),rP (by simpa using B)];exact⟨rfl,(jj.shut u).mut⟩
 refine aE (aA kQ (aB iL u.p1.hb rfl ?_));obtain⟨I,G⟩:=gx l (i:=(i).toNat) cK;refine dR u.p2 fS cK cK (λ_ V=>gL u.p2 iq V G (aM u rz λZ _ u=>aJ (x:=I) u iq rfl rfl λ_ u=>aE (aA kQ (aB iL u.p2.hb rfl (dQ afy (C223 _ _ _ u.p3.dX cK) ?_)))));rintro _ _ Y;have u:=u.made Y;refine aN cK (qf amO u (H':=λv=>bH v (l.eraseIdx i.toNat)) (Φ:=λ_ _=>True) (λF E=>?_) ?_)
 .exact C224 _ i _ F _ E cK cK cK
 rintro O _ _ u;refine aE (aA kQ (aT u.p3 iL (dL rfl) u.dX.one λ_ u=>aD iq u.p2.At (aJ (x:=I) u.p3 iq rfl rfl λ_ u=>aD iq u.At ?_)));have u:=u.p2.p2;rw[MA (by simpa using B) G,Mz (by simpa using B),MC (by simpa using B)];exact⟨rfl,(jj.shut u).mut⟩
end Go.Proofs.YtpdlpabnlkofmaaGreatDoor

/-
  Part 4.
-/
import Derived.Test.YtpdlpabnlkofmaaGreatDoorR3x3
set_option maxHeartbeats 8000000
set_option linter.all false
set_option maxRecDepth 100000
open Go.Fw.Flat renaming val->jr,enc->kp,sz->nk
open ByteArray renaming mk->j0,size_extract->ab3
open List renaming getElem?_eq_some_iff->kE,mem_of_getElem?->kO,take_of_length_le->la,getElem?_eq_getElem->lU,length_append->l0,length_take->l9,length_map->mW,length_singleton->nh,append_assoc->n4,mem_map->o1,mem_cons_self->o4,getElem?_map->o6,mem_append->pd,mem_cons_of_mem->qa,take_append_drop->qT,length_drop->sJ,mem_cons->s4,getElem?_append_right->ta,getElem?_append_left->uc,drop_drop->u3,drop_eq_nil_of_le->u6,map_append->vG,mem_singleton->vS,any_eq_true->xy,mem_of_mem_take->x7,mem_iff_getElem?->yA,nil_append->zS,filter_append->Bt,map_congr_left->B0,map_cons->Ix,map_map->Jz,nodup_cons->Li,flatMap_append->MA,mem_range->Ns,mem_filter->PA,any_append->Sj,pairwise_iff_getElem->Ty,any_cons->U2,pairwise_map->aaY,any_nil->aaZ,nodup_append->aa0,take_length->abt,getElem_mem->abu
open Nat renaming zero_le->l2,le_refl->sl,le_of_eq->CL,add_sub_cancel_left->I8,lt_or_ge->Pk,add_assoc->Pt
open Go.Value renaming int->n3,tuple->G3
open Go.Fw.Deep renaming dr->n5,ext->NB
open Go.Instr renaming sliceAt->oa,lookup->wo,mapUpdate->xi,box->BF,keyThatStays->PQ
open Option renaming some->ob,map_eq_some_iff->J3
open Bool renaming and_eq_true->oj,not_eq_true'->u1,or_eq_true->zD,true_and->Et,eq_iff_iff->Le,false_and->Tv,or_false->Wo
open Array renaming getElem?_eq_some_iff->F1
open Int renaming mul_le_mul->KH,add_comm->ab4
open Prod renaming fst->XC
namespace Go.Proofs.YtpdlpabnlkofmaaGreatDoor
open Go.Fw
def C57(p:cR)(pv:bP)(w:World)(hp:n5 w pv p)(B:PZ p):CR 57 [jr pv] w (λv w'=>∃a:Int,v=.tuple #[ir (fr p),ir a]/\Ext w w'):=by
 obtain⟨J,U,G,M,O,I,rfl,cN,dD,cW,bY,bZ,cM⟩:=hp;have u:=St.start w;refine ais _ _ _ ?_;unfold S57;refine cP u (λkj W u=>aE fp u.At (aV anN u (C118 p _ _ ⟨J,U,G,M,O,I,rfl,cN.ext u.aF,dD.ext u.aF,cW.ext u.aF,bY.ext u.aF,bZ.ext u.aF,cM.ext u.aF⟩ B) λ_ he u=>bN (aW (λj7=>have u:=u.drop;⟨_,gL (λq=>G3 #[ir q,_]) (ce8 (by simpa using j7)).symm,u.aF⟩) λj7=>?_)))
 have E:ko p=true:=by simpa using j7
 have hPF:=qB E;refine aE fp u.At (aV anO u (C119 p _ _ ⟨J,U,G,M,O,I,rfl,cN.ext u.aF,dD.ext u.aF,cW.ext u.aF,bY.ext u.aF,bZ.ext u.aF,cM.ext u.aF⟩ B) λ_ he u=>aW (λfo=>have u:=u.drop;⟨_,gL (λq=>G3 #[ir q,_]) (ce2 E fo).symm,u.aF⟩) λfo=>aE fp u.At ?_);obtain⟨aqy,axs,aqz⟩:=bY.open;have hn37:=aqz.1;obtain⟨aqA,axt,aqB⟩:=bZ.open;have hn38:=aqB.1;refine dR agh (C120 p _ aqy aqA _ ⟨J,U,G,M,O,I,rfl,cN.ext u.aF,dD.ext u.aF,cW.ext u.aF,bY.ext u.aF,bZ.ext u.aF,cM.ext u.aF⟩ (axs.ext u.aF) (axt.ext u.aF) (by have:=B.threads;omega) (by have:=B.recover;omega)) ?_
 rintro V _ cE;have u:=u.made cE;obtain⟨A9,MG⟩:∃t,t=aqy++aqA:=⟨_,rfl⟩;rw[<- MG]at u;have PC:gd A9 (gl p) w:=by rw[MG];exact gd.append aqz aqB
 have axm:=PC.1;have ajJ:=DV B.toPS;have u:=u.p1.p1;refine⟨λm x W=>∃k1:Nat,x=ir (k1:Int)/\m=(gl p).length-k1/\k1<=(gl p).length/\(∀y∈(gl p).take k1,qY y.body=false)/\St w aX [bF V A9,bX kj (kp (⟨J,U,G,M,O,I⟩:bP))] W,⟨_,0,rfl,rfl,l2 _,ee,u⟩,?_⟩;rintro m _ _ ⟨k1,rfl,rfl,RK,ajK,u⟩ _;refine aI fu u.dS (aN (aC (λiL=>?_) λiL=>?_))
 .obtain⟨qV,gk⟩:=gx A9 (i:=(k1:Int).toNat) bL;obtain⟨aqx,xB⟩:=gx (gl p) (i:=(k1:Int).toNat) bL;obtain⟨Fu,Fv,rfl,Fx,Fy⟩:=PC.2 _ _ _ gk xB;refine aK fu u.dS bL gk (λ_ mw=>bT Fv lG mw rfl rfl λ_ qA=>aE jG qA ?_);obtain⟨aqC,OW,tr,Y,ajM,iv,_⟩:=lr (hPF.rF (kO xB)).2.1;have td:=gL List.length Y;rw[Bk.cX]at td;refine dR WO (C121 _ tr 1 (tr.len+1) _ (by rw[<- Y];exact(Fy.ext u.aF)) ajM (λy hy=>JH (OW y (by rw[Y];exact hy))) bL bL bL) ?_
  rintro _ _ ⟨wa,rfl,hwa,he⟩;have u:=u.ext he;exact cO (aC (λlj=>have u:=u.drop.drop;⟨_,gL (λq=>G3 #[ir q,_]) (aqc E fo (gY xB (by rw[Y,vE ajM,<- hwa];exact ew lj))).symm,u.aF⟩) λlj=>aJ bL (have u:=u.p1.p1;⟨_,bL,k1+1,rfl,rfl,bL,dY ajK xB (by rw[Y,vE ajM,<- hwa];exact ez lj),u⟩))
 rw[la bL]at ajK;have h11:(gl p).any (λt=>qY t.body)=false:=ix ajK;refine aE fp u.p1.At (dR anP (C122 p _ _ ⟨J,U,G,M,O,I,rfl,cN.ext u.aF,dD.ext u.aF,cW.ext u.aF,bY.ext u.aF,bZ.ext u.aF,cM.ext u.aF⟩ B hPF.decl) ?_);rintro _ _ ⟨a_x38,rfl,YL,he⟩;have u:=u.ext he;refine cO (aC (λxn=>have u:=u.drop.drop;⟨_,gL (λq=>G3 #[ir q,_]) (aqd E fo h11 (by rw[<- YL];exact ew xn)).symm,u.aF⟩) λxn=>?_);have h10:kr (fO p)=false:=by rw[<- YL];exact ez xn
 have u:=u.p1.p1;refine⟨λm x W=>∃k2:Nat,x=ir (k2:Int)/\m=(gl p).length-k2/\k2<=(gl p).length/\(∀y∈(gl p).take k2,uV p y.dO=false)/\St w aX [bF V A9,bX kj (kp (⟨J,U,G,M,O,I⟩:bP))] W,⟨_,0,rfl,rfl,l2 _,ee,u⟩,?_⟩;rintro m _ _ ⟨k2,rfl,rfl,uR,Fb,u⟩ _;refine aI fu u.dS (aN (aC (λMH=>?_) λMH=>?_))
 .obtain⟨e_x51,Fz⟩:=gx A9 (i:=(k2:Int).toNat) bL;obtain⟨Ba,JJ⟩:=gx (gl p) (i:=(k2:Int).toNat) bL;obtain⟨zO,ajN,rfl,PH,ajO⟩:=PC.2 _ _ _ Fz JJ;have hzt2:=B.rF (kO JJ);refine⟨λm x W=>∃Z:Nat,x=ir (Z:Int)/\m=Ba.dO.length-Z/\Z<=Ba.dO.length/\(∀j,j<Z->SE p Ba.dO j=false)/\St w aX [bF V A9,bX kj (kp (⟨J,U,G,M,O,I⟩:bP))] W,⟨_,0,rfl,rfl,l2 _,ee,u⟩,?_⟩;rintro m _ _ ⟨Z,rfl,rfl,hk3,aqE,u⟩ _;refine aK fu u.dS bL Fz (λ_ aqF=>bT zO fS aqF rfl rfl λ_ YM=>aE je YM ?_)
  have ajP:=DL.flat PH;refine aI iu (ajP.ext u.aF) (aN (aC (λSm=>?_) λ_=>aJ bL (have u:=u.p1.p1;⟨_,bL,k2+1,rfl,rfl,bL,dY Fb JJ (show uV p Ba.dO=false from MC λj _=>aqE j bL),u⟩)));refine aK fu u.dS bL Fz (λ_ aqG=>bT zO fS aqG rfl rfl λ_ YN=>aE je YN ?_);obtain⟨sB,ud⟩:=gx Ba.dO (i:=(Z:Int).toNat) bL;refine aK iu (ajP.ext u.aF) bL ud (λ_ Fc=>aE gv Fc ⟨λjv w'=>jv=.bool (decide (cU Ba.dO sB<Z)||decide (0<=cU (cT p) sB)||decide (0<=cU (cH p) sB))/\St w aX [bF V A9,bX kj (kp (⟨J,U,G,M,O,I⟩:bP))] w',?_,?_⟩)
  .refine aK fu u.dS bL Fz (λ_ aqH=>bT zO fS aqH rfl rfl λ_ MI=>?_);exact aE je MI (aV rK u (C123 _ Ba.dO _ _ (ajP.ext u.aF) (by have:=mD B.toPS;have hk:(cH p).length<=500:=(by unfold cH;rw[mW];exact B.eE);omega)) λ_ _ u=>aN (aC (λ_=>have u:=u.p1.p1;⟨vb cD,u⟩) λ_=>aE fp u.p1.At (dB Lf u (C124 p _ _ ⟨J,U,G,M,O,I,rfl,cN.ext u.aF,dD.ext u.aF,cW.ext u.aF,bY.ext u.aF,bZ.ext u.aF,cM.ext u.aF⟩ B) λ_ _ _ u=>aV rK u (C123 _ (cT p) _ _ u.dS (by have:=mD B.toPS;have hk:(cH p).length<=500:=(by unfold cH;rw[mW];exact B.eE);omega)) λ_ _ u=>cO (aC (λ_=>have u:=u.drop.p1.p1;⟨vb cD,u⟩) λ_=>aE fp u.p2.At (dB RO u (C125 p _ _ ⟨J,U,G,M,O,I,rfl,cN.ext u.aF,dD.ext u.aF,cW.ext u.aF,bY.ext u.aF,bZ.ext u.aF,cM.ext u.aF⟩ B) λ_ _ _ u=>aV rK u (C123 _ (cH p) _ _ u.dS (by have:=mD B.toPS;have hk:(cH p).length<=500:=(by unfold cH;rw[mW];exact B.eE);omega)) λ_ _ u=>cO (have u:=u.drop.drop.p1.p1;⟨vb cD,u⟩))))))
  rintro _ _ ⟨rfl,u⟩ _;exact aW (λFA=>aK fu u.dS bL Fz λ_ aqI=>bT Ba.at_ qo aqI rfl rfl λ_ aqJ=>have u:=u.drew;aE bO aqJ (have u:=u.drop.drop;⟨_,gL (λq=>G3 #[ir q,_]) (ahn E fo h11 h10 (gY JJ (show uV p Ba.dO=true from MD (j:=Z) bL (by rw[A5 (k:=Z) ud];exact FA)))).symm,u.aF⟩)) (λFA=>aJ bL ⟨_,bL,Z+1,rfl,rfl,bL,SF aqE (by rw[A5 (k:=Z) ud];exact FA),u⟩)
 rw[la bL]at Fb;have ajQ:(gl p).any (λt=>uV p t.dO)=false:=ix Fb;have u:=u.p1.p1;refine⟨λm x W=>∃k5:Nat,x=ir (k5:Int)/\m=(gl p).length-k5/\k5<=(gl p).length/\(∀y∈(gl p).take k5,y.body.any (nc p y.dO)=false)/\St w aX [bF V A9,bX kj (kp (⟨J,U,G,M,O,I⟩:bP))] W,⟨_,0,rfl,rfl,l2 _,ee,u⟩,?_⟩;rintro m _ _ ⟨k5,rfl,rfl,hk5,ajR,u⟩ _;refine aI fu u.dS (aN (aC (λaqK=>?_) λaqK=>?_))
 .obtain⟨axu,DZ⟩:=gx A9 (i:=(k5:Int).toNat) bL;obtain⟨Ck,Bb⟩:=gx (gl p) (i:=(k5:Int).toNat) bL;obtain⟨MJ,xC,rfl,MK,C4⟩:=PC.2 _ _ _ DZ Bb;have aqL:=B.rF (kO Bb);have axv:=hPF.rF (kO Bb);obtain⟨hb45,aqM,_⟩:=lr axv.2.1;refine⟨λm x W=>∃k6:Nat,x=ir (k6:Int)/\m=Ck.body.length-k6/\k6<=Ck.body.length/\(∀y∈Ck.body.take k6,nc p Ck.dO y=false)/\St w aX [bF V A9,bX kj (kp (⟨J,U,G,M,O,I⟩:bP))] W,⟨_,0,rfl,rfl,l2 _,ee,u⟩,?_⟩
  rintro m _ _ ⟨k6,rfl,rfl,hk6,ajS,u⟩ _;refine aK fu u.dS bL DZ (λ_ ajT=>bT xC lG ajT rfl rfl λ_ ajU=>aE jG ajU ?_);obtain⟨axw,aqN,aqO⟩:=C4.open;have hn40:=aqO.1;refine aI fk (aqN.ext u.aF) (aN (aC (λaxx=>?_) λ_=>aJ bL (have u:=u.p1.p1;⟨_,bL,k5+1,rfl,rfl,bL,dY ajR Bb (ix (by rw[la bL]at ajS;exact ajS)),u⟩)));have u:=u.drew;refine aE fp u.p1.At (aK fu u.dS bL DZ λ_ PI=>aE m6 PI (aK fu u.dS bL DZ λ_ ajV=>bT xC lG ajV rfl rfl λ_ ajW=>aE jG ajW ?_))
  obtain⟨axy,SK⟩:=gx axw (i:=(k6:Int).toNat) bL;obtain⟨ajX,Bc⟩:=gx Ck.body (i:=(k6:Int).toNat) bL;obtain⟨YO,YP,rfl,YQ,YR⟩:=aqO.2 _ _ _ SK Bc;refine aK fk (aqN.ext u.aF) bL SK (λ_ ajY=>aE eD ajY ?_);have hf5:=ad2 (aqM _ (kO Bc));refine dR anQ (C126 p _ Ck _ ajX _ _ ⟨J,U,G,M,O,I,rfl,cN.ext u.aF,dD.ext u.aF,cW.ext u.aF,bY.ext u.aF,bZ.ext u.aF,cM.ext u.aF⟩ ⟨MJ,xC,rfl,MK.ext u.aF,C4.ext u.aF⟩ ⟨YO,YP,rfl,YQ.ext u.aF,YR.ext u.aF⟩ B aqL.2.1 (aqL.1.2.2 _ (kO Bc)) hf5) ?_
  rintro _ _ ⟨axz,rfl,SL,he⟩;have u:=u.ext he;exact cO (aC (λzP=>have u:=u.drop.drop;⟨_,gL (λq=>G3 #[ir q,_]) (ce9 E fo h11 h10 ajQ (gY Bb (gY Bc (by rw[<- SL];exact ew zP)))).symm,u.aF⟩) λzP=>aJ bL ⟨_,bL,k6+1,rfl,rfl,bL,dY ajS Bc (by rw[<- SL];exact ez zP),u⟩)
 rw[la bL]at ajR;have h9:(gl p).any (λt=>t.body.any (nc p t.dO))=false:=ix ajR;have u:=u.drew;refine aE fp u.p1.At (aE fp u.p1.At (dB Lf u (C124 p _ _ ⟨J,U,G,M,O,I,rfl,cN.ext u.aF,dD.ext u.aF,cW.ext u.aF,bY.ext u.aF,bZ.ext u.aF,cM.ext u.aF⟩ B) λaxA _ cE u=>?_));refine⟨fq fp u.p2.At,?_⟩;refine aV acD u (C62 p _ _ ⟨J,U,G,M,O,I,rfl,cN.ext u.aF,dD.ext u.aF,cW.ext u.aF,bY.ext u.aF,bZ.ext u.aF,cM.ext u.aF⟩ B) (λ_ he u=>?_)
 have Ag:=mD B.toPS;have Pl:0<=eL p/\eL p<=(cT p).length:=by unfold eL cT iJ;rw[mW,l0];omega
 refine kh iu u.dS bL bL (λaxB aec=>?_);have u:=u.p1.drop.p1.p1;refine⟨λm x W=>∃k7:Nat,x=ir (k7:Int)/\m=p.dV.length-k7/\k7<=p.dV.length/\(∀y∈p.dV.take k7,oZ y.e (gm p)=false)/\St w aX [bF axA (cT p),bX kj (kp (⟨J,U,G,M,O,I⟩:bP))] W,⟨_,0,rfl,rfl,l2 _,ee,u⟩,?_⟩;rintro m _ _ ⟨k7,rfl,rfl,hk7,ajZ,u⟩ _;have hzc:=B.dV;refine aA jn (aB qN u.p1.hb rfl ?_);obtain⟨axC,aqP,aqQ⟩:=cM.open;have hn41:=aqQ.1;refine aI tf (aqP.ext u.aF) (aN (aC (λaxD=>?_) λ_=>have u:=u.drop.drop;⟨_,gL (λq=>G3 #[ir q,_]) (ce0 E fo h11 h10 ajQ h9 (ix (by rw[la bL]at ajZ;exact ajZ))).symm,u.aF⟩))
 refine aA jn (aB qN u.p1.hb rfl ?_);obtain⟨axE,SM⟩:=gx axC (i:=(k7:Int).toNat) bL;obtain⟨axF,Bd⟩:=gx p.dV (i:=(k7:Int).toNat) bL;obtain⟨YS,rfl,YT⟩:=aqQ.2 _ _ _ SM Bd;refine aK tf (aqP.ext u.aF) bL SM (λ_ PJ=>bT YS vx PJ rfl rfl λ_ aj0=>aE jo aj0 ?_);have axG:=DL.flat YT;refine dR WQ (C127 _ _ _ _ _ (axG.ext u.aF) (aec _ u.dS) (B.zc _ (kO Bd)).1 (by have:=mD B.toPS;simp;omega) (Ci (hPF.cl _ (kO Bd)).2)) ?_;rintro _ _ ⟨axH,rfl,SN,he⟩
 have u:=u.ext he;exact cO (aC (λPK=>have u:=u.drop.drop;⟨_,gL (λq=>G3 #[ir q,_]) (aqe E fo h11 h10 ajQ h9 (gY Bd (by unfold gm;rw[<- SN];exact ew PK))).symm,u.aF⟩) λPK=>aJ bL ⟨_,bL,k7+1,rfl,rfl,bL,dY ajZ Bd (by unfold gm;rw[<- SN];exact ez PK),u⟩)
theorem Bk.aqR{x:bM}{a b r:Bk}(h:(Bk.cons x a b r).str){hi lo:Int}(h1:hi=1+x.body)(h2:lo=1):((Bk.cons x a b r).flat.take hi.toNat).drop lo.toNat=a.flat:=by
 obtain⟨u,E,_⟩:=h
 have B:=a.cX
 rw[vD _ (a:=1) (n:=a.flat.length) bL bL]
 grind[flat]
theorem Bk.aqS{x:bM}{a b r:Bk}(h:(Bk.cons x a b r).str){hi lo:Int}(h1:hi=1+x.body+x.ep)(h2:lo=1+x.body):((Bk.cons x a b r).flat.take hi.toNat).drop lo.toNat=b.flat:=by
 obtain⟨u,E,_⟩:=h
 have B:=a.cX
 have lb:=b.cX
 rw[vD _ (a:=1+a.flat.length) (n:=b.flat.length) bL bL]
 grind[flat]
def yX:Bk->Int
 | .nil=>0
 | .cons x a b r=>(if x.kind=12 then 2+yX a else if x.kind=11 then(if 0<x.ep then 1+yX a+yX b+1 else 1+yX a+yX b)else 1)+yX r
def toT(x:bM)(a:Bk)(at_:Int):Int:=if 0<x.ep then at_+1+yX a+1 else at_+1+yX a
def ox(s:ByteArray):ByteArray:=s.extract 0 (min (s.size:Int) 40).toNat
def pO(s:ByteArray):(ox s).size<=40:=by
 unfold ox
 rw[ab3];omega
def aed(x:bU):bU:={x with name:=ox x.name}
def yJ(l:List bU):List bU:=(l.take 60).map aed
def SO(x:bM):bM:=⟨x.kind,ox x.ey,ox x.name,yJ x.e,yJ x.f,x.n,x.body,x.ep,x.at_⟩
def FB(l:List bM):List bM:=(l.take 50).map SO
def aee(c:cC):cC:={c with name:=ox c.name}
def jx(l:List cC):List cC:=(l.take 8).map aee
def yY(t:cK):cK:=⟨ox t.name,(t.dO.take 6).map ox,FB t.body,t.at_⟩
def kS(l:List cK):List cK:=(l.take 4).map yY
def FD(c:gP):gP:=⟨yJ c.e,c.at_⟩
def oG(p:cR):cR:=⟨(p.lines.take 6).map jx,jx p.iP,jx p.eE,kS p.threads,kS p.recover,(p.dV.take 6).map FD⟩
theorem sC{α:Type}{xs:List α}{k m:Nat}(h:k<=m)(h2:k<=xs.length)(h3:¬ (k<xs.length/\k<m)):xs.take k=xs.take m:=by
 grind
def FE(l:List bU):(yJ l).length<=60:=by grind[yJ]
def JK(l:List bU):∀y∈yJ l,y.name.size<=1048576:=by
 intro y u
 obtain⟨x,_,rfl⟩:=o1.1 u
 have:=pO x.name
 show(ox x.name).size<=_
 omega
def FG(l:List cC):∀y∈jx l,y.name.size<=1048576:=by
 intro y u
 obtain⟨x,_,rfl⟩:=o1.1 u
 have:=pO x.name
 show(ox x.name).size<=_
 omega
def Cl(l:List cC):(jx l).length<=8:=by grind[jx]
def YU(l:List bM):(FB l).length<=50:=by grind[FB]
def FH(l:List cK):(kS l).length<=4:=by grind[kS]
def aef(l:List bM):∀y∈FB l,SzS y:=by
 intro y u
 obtain⟨x,_,rfl⟩:=o1.1 u
 have h1:=pO x.ey
 have h2:=pO x.name
 have h3:=FE x.e
 have h4:=FE x.f
 exact⟨by show(ox x.ey).size<=_;omega,by show(ox x.name).size<=_;omega,by show(yJ x.e).length<=_;omega,by show(yJ x.f).length<=_;omega,JK _,JK _⟩
def PM(t:cK):(yY t).dO.length<=6:=by show((t.dO.take 6).map ox).length<=6;grind
def HO(l:List cK):∀y∈kS l,X2 y/\y.dO.length<=500/\y.body.length<=500:=by
 intro y u
 obtain⟨x,_,rfl⟩:=o1.1 u
 have h1:=pO x.name
 have h2:=PM x
 have h3:=YU x.body
 refine⟨⟨by show(ox x.name).size<=_;omega,λs B=>?_,aef _⟩,bL,by show(FB x.body).length<=_;omega⟩
 obtain⟨z,_,rfl⟩:=o1.1 (show s∈(x.dO.take 6).map ox from B)
 have:=pO z
 omega
def JL(p:cR):PZ (oG p):=by
 have u:(oG p).lines.length<=6:=by show((p.lines.take 6).map jx).length<=6;grind
 have hc:(oG p).dV.length<=6:=by show((p.dV.take 6).map FD).length<=6;grind
 have h1:=Cl p.iP
 have h2:=Cl p.eE
 have h3:=FH p.threads
 have h4:=FH p.recover
 have We:∀t∈(oG p).threads++(oG p).recover,X2 t/\t.dO.length<=500/\t.body.length<=500:=by
  intro t ht
  rcases pd.1 ht with h|h
  .exact HO _ t h
  .exact HO _ t h
 refine {lines:=by omega,line:=λl h=>?_,iP:=by show(jx p.iP).length<=500;omega,eE:=by show(jx p.eE).length<=500;omega,threads:=by show(kS p.threads).length<=500;omega,recover:=by show(kS p.recover).length<=500;omega,dV:=by omega,dO:=λt ht=>(We t ht).2.1,body:=λt ht=>(We t ht).2.2,zl:=λl h c hc=>?_,zv:=FG _,zk:=FG _,zt:=λt ht=>(We t (List.mem_append_left _ ht)).1,zr:=λt ht=>(We t (List.mem_append_right _ ht)).1,zc:=λc h=>?_}
 .obtain⟨x,_,rfl⟩:=o1.1 (show l∈(p.lines.take 6).map jx from h)
  have:=Cl x;omega
 .obtain⟨x,_,rfl⟩:=o1.1 (show l∈(p.lines.take 6).map jx from h)
  exact FG x c hc
 obtain⟨x,_,rfl⟩:=o1.1 (show c∈(p.dV.take 6).map FD from h)
 have:=FE x.e
 exact⟨by show(yJ x.e).length<=_;omega,JK _⟩
def C47(lv:Value)(xs:List bU)(w:World)(J:cZ (λ_=>True) w lv xs):CR 47 [lv] w (λv w'=>lf (bF v (yJ xs)) w w'):=by
 have u:=St.start w;refine fb Tryz.func47 ?_;refine bD ([]:List bU) u gU rfl rfl (dQ rfl) (λY M u=>?_);refine⟨λm E x M=>∃k:Nat,x=ir (k:Int)/\m=60-k/\k<=60/\k<=xs.length/\St w aX [bF E ((xs.take k).map aed)] M,⟨_,0,rfl,rfl,bL,bL,u⟩,?_⟩;rintro m E _ _ ⟨k,rfl,rfl,hk,uR,u⟩ _;have O:((xs.take k).map aed).length=k:=by rw[mW,l9];omega
 refine⟨λU w'=>U=.bool (decide (k<xs.length/\k<60))/\St w aX [bF E ((xs.take k).map aed)] w',aI gU (J.ext u.aF) (aN (aC (λ_=>aN ⟨vb cD,u⟩) λ_=>⟨vb cD,u⟩)),?_⟩;rintro _ _ ⟨rfl,u⟩ _;refine aW (λG=>?_) (λG=>?_)
 .have W:k<xs.length/\k<60:=by simpa using G
  obtain⟨B,I⟩:=gx xs (i:=(k:Int).toNat) bL;refine aK gU J bL I (λ_ V=>aE rW (V.ext u.aF) (aQ u yg λJF _ u=>aM (x:=B) u rW rfl rfl λ_ u=>aA gj (aB (v:=.string B.name) gv u.hb rfl (aA gj (aB (v:=.string B.name) gv u.hb rfl (fe hG (rj (nX hG bL bL (aA gj (aR u gv (dQ rfl) (rfl) λ_ u=>?_))))))))));have u:=u.enc (cs':=kp ({B with name:=(B.name.extract 0 (min (B.name.size:Int) 40).toNat)}:bU)) rfl;refine aE rW u.At (bD ([({B with name:=(B.name.extract 0 (min (B.name.size:Int) 40).toNat)}:bU)]) u gU rfl rfl (dQ rfl) λYV _ u=>?_)
  have Z:=u.dS;exact bJ u.p2 gU Z (by rw[O,nh];omega) dy (λ_ _ u=>have u:=u.p1.drop;aJ bL (have u:=u.p1.drop;⟨_,bL,k+1,rfl,rfl,bL,bL,by rw[<- fV (k:=k) I];exact u⟩))
 rw[sC (xs:=xs) (k:=k) (m:=60) bL bL (g6 G)]at u;exact u.fresh
def C45(lv:Value)(xs:List cC)(w:World)(J:cZ (λ_=>True) w lv xs):CR 45 [lv] w (λv w'=>lf (bF v (jx xs)) w w'):=by
 have u:=St.start w;refine fb Tryz.func45 ?_;refine bD ([]:List cC) u ic rfl rfl (dQ rfl) (λZ M u=>?_);refine⟨λm E x M=>∃k:Nat,x=ir (k:Int)/\m=8-k/\k<=8/\k<=xs.length/\St w aX [bF E ((xs.take k).map aee)] M,⟨_,0,rfl,rfl,bL,bL,u⟩,?_⟩;rintro m E _ _ ⟨k,rfl,rfl,hk,uR,u⟩ _;have U:((xs.take k).map aee).length=k:=by rw[mW,l9];omega
 refine⟨λV w'=>V=.bool (decide (k<xs.length/\k<8))/\St w aX [bF E ((xs.take k).map aee)] w',aI ic (J.ext u.aF) (aN (aC (λ_=>aN ⟨vb cD,u⟩) λ_=>⟨vb cD,u⟩)),?_⟩;rintro _ _ ⟨rfl,u⟩ _;refine aW (λG=>?_) (λG=>?_)
 .have Y:k<xs.length/\k<8:=by simpa using G
  obtain⟨B,I⟩:=gx xs (i:=(k:Int).toNat) bL;refine aK ic J bL I (λ_ W=>aE lZ (W.ext u.aF) (aQ u oL λO _ u=>aM (x:=B) u lZ rfl rfl λ_ u=>aA kJ (aB (v:=.string B.name) gv u.hb rfl (aA kJ (aB (v:=.string B.name) gv u.hb rfl (fe hG (rj (nX hG bL bL (aA kJ (aR u gv (dQ rfl) (rfl) λ_ u=>?_))))))))));have u:=u.enc (cs':=kp ({B with name:=(B.name.extract 0 (min (B.name.size:Int) 40).toNat)}:cC)) rfl;refine aE lZ u.At (bD ([({B with name:=(B.name.extract 0 (min (B.name.size:Int) 40).toNat)}:cC)]) u ic rfl rfl (dQ rfl) λYV _ u=>?_)
  have PN:=u.dS;exact bJ u.p2 ic PN (by rw[U,nh];omega) dy (λ_ _ u=>have u:=u.p1.drop;aJ bL (have u:=u.p1.drop;⟨_,bL,k+1,rfl,rfl,bL,bL,by rw[<- fV (k:=k) I];exact u⟩))
 rw[sC (xs:=xs) (k:=k) (m:=8) bL bL (g6 G)]at u;exact u.fresh
def C106(lv:Value)(xs:List bM)(w:World)(hL:DL w lv xs):CR 106 [lv] w (λv w'=>lf (fy v (FB xs)) w w'):=by
 have B:=St.start w;refine fb Tryz.func106 ?_;refine ot (α:=bM) B fk (λad6 w1 B=>?_);refine⟨λm U x w1=>∃k:Nat,x=ir (k:Int)/\m=50-k/\k<=50/\k<=xs.length/\St w aX [fy U ((xs.take k).map SO)] w1,⟨_,0,rfl,rfl,bL,bL,B⟩,?_⟩;rintro m U _ _ ⟨k,rfl,rfl,hk,uR,B⟩ _;have JM:((xs.take k).map SO).length=k:=by rw[mW,l9];omega
 refine⟨λjv w'=>jv=.bool (decide (k<xs.length/\k<50))/\St w aX [fy U ((xs.take k).map SO)] w',?_,?_⟩
 .obtain⟨ts60,V,axK⟩:=hL.open;have hn60:=axK.1;exact aI fk (V.ext B.aF) (aN (aC (λ_=>aN ⟨vb cD,B⟩) λ_=>⟨vb cD,B⟩))
 rintro _ _ ⟨rfl,B⟩ _;refine aW (λja=>?_) (λja=>?_)
 .have aqT:k<xs.length/\k<50:=by simpa using ja
  obtain⟨Z,M,G⟩:=hL.open;have hn61:=G.1;obtain⟨jS,fL⟩:=gx Z (i:=(k:Int).toNat) bL;obtain⟨u,lB⟩:=gx xs (i:=(k:Int).toNat) bL;obtain⟨I,E,rfl,SP,SQ⟩:=G.2 _ _ _ fL lB;refine aK fk M bL fL (λ_ j8=>aE eD (j8.ext B.aF) (aQ B iN λJF _ B=>have B:=B.enc (cs':=kp (⟨0,(j0 #[]),(j0 #[]),cG,cG,0,0,0,0⟩:aZ)) rfl;aM (x:=(⟨u.kind,u.ey,u.name,I,E,u.n,u.body,u.ep,u.at_⟩:aZ)) B eD rfl rfl λ_ B=>aA iC (aB (v:=.string u.ey) gv B.hb rfl (aA iC (aB (v:=.string u.ey) gv B.hb rfl (fe hG (rj (nX hG bL bL (aA iC ?_)))))))))
  have W:=DL.flat SP;have Y:=DL.flat SQ;refine aR B gv (dQ rfl) (rfl) (λ_ B=>have B:=B.enc (cs':=kp (⟨u.kind,(u.ey.extract 0 (min (u.ey.size:Int) 40).toNat),u.name,I,E,u.n,u.body,u.ep,u.at_⟩:aZ)) rfl;aA fY (aB (v:=.string u.name) gv B.hb rfl (aA fY (aB (v:=.string u.name) gv B.hb rfl (fe hG (rj (nX hG bL bL (aA fY (aR B gv (dQ rfl) (rfl) λ_ B=>have B:=B.enc (cs':=kp (⟨u.kind,(u.ey.extract 0 (min (u.ey.size:Int) 40).toNat),(u.name.extract 0 (min (u.name.size:Int) 40).toNat),I,E,u.n,u.body,u.ep,u.at_⟩:aZ)) rfl;aA iV (aB (v:=jr (I:SV)) jo B.hb rfl (dB aiy B (C47 _ _ _ (W.ext B.aF)) λx39 _ cE B=>?_)))))))))))
  refine aA iV ?_;obtain⟨J,rfl⟩:=B.fK;refine aR B.p1 jo (dQ rfl) (rfl) (λ_ B=>have B:=B.enc (cs':=kp (⟨u.kind,(u.ey.extract 0 (min (u.ey.size:Int) 40).toNat),(u.name.extract 0 (min (u.name.size:Int) 40).toNat),J,E,u.n,u.body,u.ep,u.at_⟩:aZ)) rfl;aA j1 (aB (v:=jr (E:SV)) jo B.hb rfl (dB aiy B (C47 _ _ _ (Y.ext B.aF)) λx43 _ cE B=>aA j1 ?_)));obtain⟨O,rfl⟩:=B.fK;exact aR B.p1 jo (dQ rfl) (rfl) (λ_ B=>have B:=B.enc (cs':=kp (⟨u.kind,(u.ey.extract 0 (min (u.ey.size:Int) 40).toNat),(u.name.extract 0 (min (u.name.size:Int) 40).toNat),J,O,u.n,u.body,u.ep,u.at_⟩:aZ)) rfl;aE eD B.At (have B:=B.p2.freeze.p2.freeze.p1.fX.dH (Ψ:=(λw=>n5 w (⟨u.kind,(u.ey.extract 0 (min (u.ey.size:Int) 40).toNat),(u.name.extract 0 (min (u.name.size:Int) 40).toNat),J,O,u.n,u.body,u.ep,u.at_⟩:aZ) (⟨u.kind,(u.ey.extract 0 (min (u.ey.size:Int) 40).toNat),(u.name.extract 0 (min (u.name.size:Int) 40).toNat),(yJ u.e),(yJ u.f),u.n,u.body,u.ep,u.at_⟩:bM))) (λ_ h=>⟨_,_,rfl,DL.ki h.1,DL.ki h.2⟩);ga (s:=(⟨u.kind,(u.ey.extract 0 (min (u.ey.size:Int) 40).toNat),(u.name.extract 0 (min (u.name.size:Int) 40).toNat),J,O,u.n,u.body,u.ep,u.at_⟩:aZ)) (x:=(⟨u.kind,(u.ey.extract 0 (min (u.ey.size:Int) 40).toNat),(u.name.extract 0 (min (u.name.size:Int) 40).toNat),(yJ u.e),(yJ u.f),u.n,u.body,u.ep,u.at_⟩:bM)) B fk dy λ_ _ B=>have B:=B.p2;fU B fk (by rw[JM,nh];omega) dy λ_ _ B=>aJ bL (have B:=B.p1.drop;⟨_,bL,k+1,rfl,rfl,bL,bL,by rw[<- fV (k:=k) lB];exact B⟩)))
 rw[sC (xs:=xs) (k:=k) (m:=50) bL bL (g6 ja)]at B;exact B.fresh
def C46(lv:Value)(xs:List cK)(w:World)(hL:DL w lv xs):CR 46 [lv] w (λv w'=>lf (fy v (kS xs)) w w'):=by
 have u:=St.start w;refine pj Tryz.func46 (pl:=P46) ?_;refine ot (α:=cK) u fu (λaeb w1 u=>?_);refine⟨λm M x w1=>∃k:Nat,x=ir (k:Int)/\m=4-k/\k<=4/\k<=xs.length/\St w aX [fy M ((xs.take k).map yY)] w1,⟨_,0,rfl,rfl,bL,bL,u⟩,?_⟩;rintro m M _ _ ⟨k,rfl,rfl,hk,uR,u⟩ _;have JM:((xs.take k).map yY).length=k:=by rw[mW,l9];omega
 refine⟨λjv w'=>jv=.bool (decide (k<xs.length/\k<4))/\St w aX [fy M ((xs.take k).map yY)] w',?_,?_⟩
 .obtain⟨ts64,axP,axQ⟩:=hL.open;have hn64:=axQ.1;exact aI fu (axP.ext u.aF) (aN (aC (λ_=>aN ⟨vb cD,u⟩) λ_=>⟨vb cD,u⟩))
 rintro _ _ ⟨rfl,u⟩ _;refine aW (λjk=>?_) (λjk=>?_)
 .have hc15:k<xs.length/\k<4:=by simpa using jk
  obtain⟨axR,J,U⟩:=hL.open;have hn65:=U.1;obtain⟨SR,G⟩:=gx axR (i:=(k:Int).toNat) bL;obtain⟨B,JE⟩:=gx xs (i:=(k:Int).toNat) bL;obtain⟨zR,PR,rfl,FI,FJ⟩:=U.2 _ _ _ G JE;refine⟨λwO w'=>St w aX [fy wO ((xs.take k).map yY++[yY B])] w',⟨λjv w'=>∃(Z:Nat) (E:SV),jv=.pointer (some ⟨Z,0,none⟩)/\St w aX [bX Z (kp (⟨(B.name.extract 0 (min (B.name.size:Int) 40).toNat),cG,E,B.at_⟩:cB)),fy (jr E) (FB B.body),fy M ((xs.take k).map yY)] w',?_,?_⟩,?_⟩
  .refine aK fu J bL G (λ_ FL=>bT B.name qn FL rfl rfl λ_ Y=>have u:=u.drew;aE gv (Y.ext u.aF) (aK fu J bL G λ_ FM=>bT B.name qn FM rfl rfl λ_ W=>aE gv (W.ext u.aF) (fe hG (rj (nX hG bL bL (aK fu J bL G λ_ qW=>bT B.at_ qo qW rfl rfl λ_ V=>aE bO (V.ext u.aF) (aK fu J bL G λ_ wm=>bT PR lG wm rfl rfl λ_ xt=>aE jG (xt.ext u.aF) ⟨?_,⟨?_,?_⟩⟩)))))))
   .refine dB agf u (C106 _ _ _ (FJ.ext u.aF)) (λx41 _ cE u=>?_);refine⟨fq gv (Y.ext u.aF),?_⟩;refine⟨fq gv (W.ext u.aF),?_⟩;refine⟨fq bO (V.ext u.aF),?_⟩;obtain⟨JN,rfl⟩:=u.oR;refine pop (AG _ _ _ _ _) (aQ u tE λb_t5 _ u=>?_);have u:=u.enc (cs':=kp (⟨(j0 #[]),cG,cG,0⟩:cB)) rfl;refine⟨fq gv (Y.ext u.aF),?_⟩;refine⟨fq gv (W.ext u.aF),?_⟩;refine⟨fq bO (V.ext u.aF),?_⟩;refine⟨fq jG (xt.ext u.aF),?_⟩;exact aM (x:=(⟨(B.name.extract 0 (min (B.name.size:Int) 40).toNat),cG,JN,B.at_⟩:cB)) u m6 rfl rfl (λ_ u=>have u:=u.p2.p2.p2;⟨_,_,rfl,u⟩)
   .refine aQ u tE (λaxS _ u=>?_);have u:=u.enc (cs':=kp (⟨(j0 #[]),cG,cG,0⟩:cB)) rfl;refine⟨fq gv (Y.ext u.aF),?_⟩;refine⟨fq gv (W.ext u.aF),?_⟩;refine⟨fq bO (V.ext u.aF),?_⟩;refine⟨fq jG (xt.ext u.aF),?_⟩;refine dB agf u (C106 _ _ _ (FJ.ext u.aF)) (λx41_1 _ cE u=>?_);refine⟨fq gv (Y.ext u.aF),?_⟩;refine⟨fq gv (W.ext u.aF),?_⟩;refine⟨fq bO (V.ext u.aF),?_⟩;obtain⟨YW,rfl⟩:=u.oR;exact pop (AG _ _ _ _ _) (aM (x:=(⟨(B.name.extract 0 (min (B.name.size:Int) 40).toNat),cG,YW,B.at_⟩:cB)) u.p1 m6 rfl rfl λ_ u=>have u:=u.p2.p2.p2;⟨_,_,rfl,u⟩)
   trivial
  .rintro _ _ ⟨Z,E,rfl,u⟩ _;have u:=((((u.eU (α:=ByteArray)).p3).p3).p2).p3;refine⟨λm x w1=>∃(j:Nat) (I:SV),x=ir (j:Int)/\m=6-j/\j<=6/\j<=B.dO.length/\St w aX [bX Z (kp (⟨(B.name.extract 0 (min (B.name.size:Int) 40).toNat),I,E,B.at_⟩:cB)),bF (jr I) ((B.dO.take j).map ox),fy (jr E) (FB B.body),fy M ((xs.take k).map yY)] w1,⟨_,0,cG,rfl,rfl,bL,bL,u⟩,?_⟩;rintro m _ _ ⟨j,I,rfl,rfl,hj,Cm,u⟩ _;have aj1:((B.dO.take j).map ox).length=j:=by rw[mW,l9];omega
   refine⟨λjv w'=>jv=.bool (decide (j<B.dO.length/\j<6))/\St w aX [bX Z (kp (⟨(B.name.extract 0 (min (B.name.size:Int) 40).toNat),I,E,B.at_⟩:cB)),bF (jr I) ((B.dO.take j).map ox),fy (jr E) (FB B.body),fy M ((xs.take k).map yY)] w',?_,?_⟩
   .refine aK fu J bL G (λ_ L6=>bT zR fS L6 rfl rfl λ_ xo=>aE je (xo.ext u.aF) ?_);have axT:=DL.flat FI;exact aI iu (axT.ext u.aF) (aN (aC (λ_=>aN ⟨vb cD,u⟩) λ_=>⟨vb cD,u⟩))
   rintro _ _ ⟨rfl,u⟩ _;refine aW (λA6=>?_) (λA6=>?_)
   .have hc54:j<B.dO.length/\j<6:=by simpa using A6
    refine aA fS (have u:=u.drew;aB (v:=jr (I:SV)) je u.hb rfl (aK fu J bL G λ_ YN=>bT zR fS YN rfl rfl λ_ FN=>aE je (FN.ext u.aF) ?_));have O:=DL.flat FI;obtain⟨ahu,PU⟩:=gx B.dO (i:=(j:Int).toNat) bL;refine aK iu O bL PU (λ_ C5=>aE gv (C5.ext u.aF) (aK fu J bL G λ_ MI=>bT zR fS MI rfl rfl λ_ YX=>aE je (YX.ext u.aF) (aK iu O bL PU λ_ aqX=>aE gv (aqX.ext u.aF) (fe hG (rj (nX hG bL bL (bD ([(ahu.extract 0 (min (ahu.size:Int) 40).toNat)]) u iu rfl rfl (dQ rfl) λaqY _ u=>?_)))))))
    refine⟨aH je (u.p1.hb.cell rfl),?_⟩;have PV:=u.dS;refine bJ u.p2 iu PV (by rw[aj1,nh];omega) dy (λaqZ _ u=>have u:=u.p1.drop;aA fS ?_);obtain⟨Cn,rfl⟩:=u.fK;exact aR u.p1 je (dQ rfl) (rfl) (λ_ u=>have u:=u.enc (cs':=kp (⟨(B.name.extract 0 (min (B.name.size:Int) 40).toNat),Cn,E,B.at_⟩:cB)) rfl;aJ bL (have u:=u.p3.p3.p3.p3;⟨_,bL,j+1,Cn,rfl,rfl,bL,bL,by rw[<- fV (k:=j) PU];exact u⟩))
   refine aE m6 u.At (have u:=u.p1.freeze.p2.oQ.p1.fX.dH (Ψ:=(λw=>n5 w (⟨(B.name.extract 0 (min (B.name.size:Int) 40).toNat),I,E,B.at_⟩:cB) (⟨(B.name.extract 0 (min (B.name.size:Int) 40).toNat),((B.dO.take j).map ox),(FB B.body),B.at_⟩:cK))) (λ_ h=>⟨_,_,rfl,DL.ki h.1,h.2⟩);ga (s:=(⟨(B.name.extract 0 (min (B.name.size:Int) 40).toNat),I,E,B.at_⟩:cB)) (x:=(⟨(B.name.extract 0 (min (B.name.size:Int) 40).toNat),((B.dO.take j).map ox),(FB B.body),B.at_⟩:cK)) u fu dy λahv _ u=>have u:=u.p2;fU u fu (by rw[JM,nh];omega) dy λaq0 _ u=>?_)
   have u:=u.p1.drop;rw[sC (xs:=B.dO) (k:=j) (m:=6) bL bL (g6 A6)]at u;exact u
  rintro wO _ u _;exact aJ bL ⟨_,bL,k+1,rfl,rfl,bL,bL,by rw[<- fV (k:=k) JE];exact u⟩
 rw[sC (xs:=xs) (k:=k) (m:=4) bL bL (g6 jk)]at u;exact u.fresh
def C11(p:cR)(pv:bP)(w:World)(hp:n5 w pv p):CR 11 [jr pv] w (λv w'=>∃qv:bP,v=jr qv/\lf (eC λw=>n5 w qv (oG p)) w w'):=by
 obtain⟨bI,bR,Z,aT,aU,bG,rfl,cN,dD,cW,bY,bZ,cM⟩:=hp;have u:=St.start w;refine pj Tryz.func11 (pl:=P11) ?_;refine cP u (λkj w1 u=>aQ u vu λwE _ u=>have u:=u.enc (cs':=kp (⟨cG,cG,cG,cG,cG,cG⟩:bP)) rfl;⟨λjv w'=>∃(W:Nat) (J B E I:SV),jv=.pointer (some ⟨W,0,none⟩)/\St w aX [bX W (kp (⟨cG,J,B,E,I,cG⟩:bP)),bF (jr J) (jx p.iP),bF (jr B) (jx p.eE),fy (jr E) (kS p.threads),fy (jr I) (kS p.recover),bX kj (kp (⟨bI,bR,Z,aT,aU,bG⟩:bP)),bX wE (kp (⟨cG,cG,cG,cG,cG,cG⟩:bP))] w',?_,?_⟩)
 .refine aA pY (have u:=u.drew;aB jD u.p1.hb rfl ?_);have aq1:=DL.flat dD;refine aA nO (aB jD u.p1.hb rfl ?_);have Y:=DL.flat cW;refine aA kD (aB iq u.p1.hb rfl (aA oI (aB iq u.p1.hb rfl ⟨dB Uh u (C45 _ _ _ (aq1.ext u.aF)) (λx8 _ G u=>⟨aH jD (u.p2.hb.cell rfl),⟨aH iq (u.p2.hb.cell rfl),⟨aH iq (u.p2.hb.cell rfl),⟨dB Uh u (C45 _ _ _ (Y.ext u.aF)) (λx11 _ G u=>⟨aH iq (u.p3.hb.cell rfl),⟨aH iq (u.p3.hb.cell rfl),⟨dB I7 u (C46 _ _ _ (bY.ext u.aF)) (λx14 _ G u=>⟨aH iq (u.p4.hb.cell rfl),⟨?_,⟨?_,?_⟩⟩⟩),⟨?_,?_⟩⟩⟩⟩),⟨?_,?_⟩⟩⟩⟩⟩),⟨?_,?_⟩⟩)))
  .refine dB I7 u (C46 _ _ _ (bZ.ext u.aF)) (λx17 _ G u=>?_);obtain⟨V,rfl⟩:=u.p3.fK;obtain⟨FR,rfl⟩:=u.p2.fK;obtain⟨Qb,rfl⟩:=u.p1.oR;obtain⟨YY,rfl⟩:=u.oR;refine pop (nF _ _ _ _ _ _ _ _ _ _ _ _) (aQ u vu λb_q3 _ u=>?_);have u:=u.enc (cs':=kp (⟨cG,cG,cG,cG,cG,cG⟩:bP)) rfl;refine⟨aH jD (u.p6.hb.cell rfl),?_⟩;refine⟨aH jD (u.p6.hb.cell rfl),?_⟩;refine⟨aH iq (u.p6.hb.cell rfl),?_⟩;refine⟨aH iq (u.p6.hb.cell rfl),?_⟩;exact aM (x:=(⟨cG,V,FR,Qb,YY,cG⟩:bP)) u fp rfl rfl (λ_ u=>have u:=u.p5.p6.p3.p4.p5.p6.p6;⟨_,_,_,_,_,rfl,u⟩)
  .refine aQ u vu (λaxU _ u=>?_);have u:=u.enc (cs':=kp (⟨cG,cG,cG,cG,cG,cG⟩:bP)) rfl;refine⟨aH jD (u.p5.hb.cell rfl),?_⟩;refine⟨aH jD (u.p5.hb.cell rfl),?_⟩;refine⟨aH iq (u.p5.hb.cell rfl),?_⟩;refine⟨aH iq (u.p5.hb.cell rfl),?_⟩;refine dB I7 u (C46 _ _ _ (bZ.ext u.aF)) (λaq3 _ G u=>?_);obtain⟨V,rfl⟩:=u.p4.fK;obtain⟨FR,rfl⟩:=u.p3.fK;obtain⟨Qb,rfl⟩:=u.p2.oR;obtain⟨MM,rfl⟩:=u.oR;exact pop (nF _ _ _ _ _ _ _ _ _ _ _ _) (aM (x:=(⟨cG,V,FR,Qb,MM,cG⟩:bP)) u.p1 fp rfl rfl λ_ u=>have u:=u.p5.p6.p3.p4.p5.p6.p6;⟨_,_,_,_,_,rfl,u⟩)
  .trivial
  .refine aQ u vu (λaxV _ u=>?_);have u:=u.enc (cs':=kp (⟨cG,cG,cG,cG,cG,cG⟩:bP)) rfl;refine⟨aH jD (u.p4.hb.cell rfl),?_⟩;refine⟨aH jD (u.p4.hb.cell rfl),?_⟩;refine⟨aH iq (u.p4.hb.cell rfl),?_⟩;refine⟨aH iq (u.p4.hb.cell rfl),?_⟩;refine dB I7 u (C46 _ _ _ (bY.ext u.aF)) (λx14_1 _ G u=>?_);refine⟨aH iq (u.p5.hb.cell rfl),?_⟩;refine dB I7 u (C46 _ _ _ (bZ.ext u.aF)) (λaq4 _ G u=>?_);obtain⟨V,rfl⟩:=u.p4.fK;obtain⟨FR,rfl⟩:=u.p3.fK;obtain⟨YZ,rfl⟩:=u.p1.oR;obtain⟨MN,rfl⟩:=u.oR
   exact pop (nF _ _ _ _ _ _ _ _ _ _ _ _) (aM (x:=(⟨cG,V,FR,YZ,MN,cG⟩:bP)) u.p2 fp rfl rfl λ_ u=>have u:=u.p5.p6.p3.p4.p5.p6.p6;⟨_,_,_,_,_,rfl,u⟩)
  .trivial
  .refine aQ u vu (λaxW _ u=>?_);have u:=u.enc (cs':=kp (⟨cG,cG,cG,cG,cG,cG⟩:bP)) rfl;refine⟨aH jD (u.p3.hb.cell rfl),?_⟩;refine⟨aH jD (u.p3.hb.cell rfl),?_⟩;refine⟨aH iq (u.p3.hb.cell rfl),?_⟩;refine⟨aH iq (u.p3.hb.cell rfl),?_⟩;refine dB Uh u (C45 _ _ _ (Y.ext u.aF)) (λx11_1 _ G u=>?_);refine⟨aH iq (u.p4.hb.cell rfl),?_⟩;refine⟨aH iq (u.p4.hb.cell rfl),?_⟩;refine dB I7 u (C46 _ _ _ (bY.ext u.aF)) (λx14_2 _ G u=>?_);refine⟨aH iq (u.p5.hb.cell rfl),?_⟩;refine dB I7 u (C46 _ _ _ (bZ.ext u.aF)) (λx17_3 _ G u=>?_)
   obtain⟨V,rfl⟩:=u.p4.fK;obtain⟨Y0,rfl⟩:=u.p2.fK;obtain⟨Y3,rfl⟩:=u.p1.oR;obtain⟨Y4,rfl⟩:=u.oR;exact pop (nF _ _ _ _ _ _ _ _ _ _ _ _) (aM (x:=(⟨cG,V,Y0,Y3,Y4,cG⟩:bP)) u.p3 fp rfl rfl λ_ u=>have u:=u.p5.p6.p3.p4.p5.p6.p6;⟨_,_,_,_,_,rfl,u⟩)
  .trivial
  .refine aQ u vu (λaxX _ u=>?_);have u:=u.enc (cs':=kp (⟨cG,cG,cG,cG,cG,cG⟩:bP)) rfl;refine⟨aH jD (u.p2.hb.cell rfl),?_⟩;refine⟨aH jD (u.p2.hb.cell rfl),?_⟩;refine⟨aH iq (u.p2.hb.cell rfl),?_⟩;refine⟨aH iq (u.p2.hb.cell rfl),?_⟩;refine dB Uh u (C45 _ _ _ (aq1.ext u.aF)) (λx8_1 _ G u=>?_);refine⟨aH jD (u.p3.hb.cell rfl),?_⟩;refine⟨aH iq (u.p3.hb.cell rfl),?_⟩;refine⟨aH iq (u.p3.hb.cell rfl),?_⟩;refine dB Uh u (C45 _ _ _ (Y.ext u.aF)) (λx11_2 _ G u=>?_);refine⟨aH iq (u.p4.hb.cell rfl),?_⟩;refine⟨aH iq (u.p4.hb.cell rfl),?_⟩
   refine dB I7 u (C46 _ _ _ (bY.ext u.aF)) (λx14_3 _ G u=>?_);refine⟨aH iq (u.p5.hb.cell rfl),?_⟩;refine dB I7 u (C46 _ _ _ (bZ.ext u.aF)) (λx17_4 _ G u=>?_);obtain⟨D0,rfl⟩:=u.p3.fK;obtain⟨Y5,rfl⟩:=u.p2.fK;obtain⟨Y6,rfl⟩:=u.p1.oR;obtain⟨Y7,rfl⟩:=u.oR;exact pop (nF _ _ _ _ _ _ _ _ _ _ _ _) (aM (x:=(⟨cG,D0,Y5,Y6,Y7,cG⟩:bP)) u.p4 fp rfl rfl λ_ u=>have u:=u.p5.p6.p3.p4.p5.p6.p6;⟨_,_,_,_,_,rfl,u⟩)
  trivial
 rintro _ _ ⟨W,J,B,E,I,rfl,u⟩ _;have u:=((((((((u.EP (α:=(List cC))).p7).p7).p7).p7).p7).p7).p6).p7;refine⟨λm x w1=>∃(k:Nat) (M:SV),x=ir (k:Int)/\m=6-k/\k<=6/\k<=p.lines.length/\St w aX [bX W (kp (⟨M,J,B,E,I,cG⟩:bP)),fy (jr M) ((p.lines.take k).map jx),bF (jr J) (jx p.iP),bF (jr B) (jx p.eE),fy (jr E) (kS p.threads),fy (jr I) (kS p.recover),bX kj (kp (⟨bI,bR,Z,aT,aU,bG⟩:bP)),bX wE (kp (⟨cG,cG,cG,cG,cG,cG⟩:bP))] w1,⟨_,0,cG,rfl,rfl,bL,bL,u⟩,?_⟩
 rintro m _ _ ⟨k,M,rfl,rfl,hk,uR,u⟩ _;have JM:((p.lines.take k).map jx).length=k:=by rw[mW,l9];omega
 refine⟨λjv w'=>jv=.bool (decide (k<p.lines.length/\k<6))/\St w aX [bX W (kp (⟨M,J,B,E,I,cG⟩:bP)),fy (jr M) ((p.lines.take k).map jx),bF (jr J) (jx p.iP),bF (jr B) (jx p.eE),fy (jr E) (kS p.threads),fy (jr I) (kS p.recover),bX kj (kp (⟨bI,bR,Z,aT,aU,bG⟩:bP)),bX wE (kp (⟨cG,cG,cG,cG,cG,cG⟩:bP))] w',?_,?_⟩
 .refine aA gw (aB oH u.p6.hb rfl ?_);obtain⟨ts70,axY,axZ⟩:=cN.open;have hn70:=axZ.1;exact aI pG (axY.ext u.aF) (aN (aC (λ_=>aN ⟨vb cD,u⟩) λ_=>⟨vb cD,u⟩))
 rintro _ _ ⟨rfl,u⟩ _;refine aW (λlh=>?_) (λlh=>?_)
 .have hc27:k<p.lines.length/\k<6:=by simpa using lh
  refine aA gw (have u:=u.drew;aB (v:=jr (M:SV)) oH u.hb rfl (aA gw (aB oH u.p6.hb rfl ?_)));obtain⟨ax0,ax1,aq5⟩:=cN.open;have hn71:=aq5.1;obtain⟨aq6,Y8⟩:=gx ax0 (i:=(k:Int).toNat) bL;obtain⟨Y9,Za⟩:=gx p.lines (i:=(k:Int).toNat) bL;have aq7:DL w (jr aq6) Y9:=aq5.2 _ _ _ Y8 Za;refine aK pG ax1 bL Y8 (λ_ L3=>aE jD (L3.ext u.aF) ?_);have ax2:=DL.flat aq7;refine dB Uh u (C45 _ _ _ (ax2.ext u.aF)) (λx37 _ G u=>?_);refine⟨aH oH (u.p1.hb.cell rfl),?_⟩;obtain⟨Qc,rfl⟩:=u.fK
  have u:=u.freeze.dH (Ψ:=λw=>n5 w Qc (jx Y9)) (λ_ h=>DL.ki h);refine ga (s:=Qc) (x:=(jx Y9)) u pG dy (λaq8 _ u=>?_);refine⟨aH oH (u.p1.hb.cell rfl),?_⟩;have u:=u.p2;refine fU u pG (by rw[JM,nh];omega) dy (λahw _ u=>aA gw ?_);obtain⟨zQ,rfl⟩:=u.oR;exact aR u.p1 oH (dQ rfl) (rfl) (λ_ u=>have u:=u.enc (cs':=kp (⟨zQ,J,B,E,I,cG⟩:bP)) rfl;aJ bL (have u:=u.p7.p7.p7.p7.p7.p7.p7.p7;⟨_,bL,k+1,zQ,rfl,rfl,bL,bL,by rw[<- fV (k:=k) Za];exact u⟩))
 rw[sC (xs:=p.lines) (k:=k) (m:=6) bL bL (g6 lh)]at u;have u:=(((((((((u.EP (α:=gP)).p8).p8).p8).p8).p8).p8).p8).p7).p8;refine⟨λm x w1=>∃(j:Nat) (O:SV),x=ir (j:Int)/\m=6-j/\j<=6/\j<=p.dV.length/\St w aX [bX W (kp (⟨M,J,B,E,I,O⟩:bP)),fy (jr O) ((p.dV.take j).map FD),fy (jr M) ((p.lines.take 6).map jx),bF (jr J) (jx p.iP),bF (jr B) (jx p.eE),fy (jr E) (kS p.threads),fy (jr I) (kS p.recover),bX kj (kp (⟨bI,bR,Z,aT,aU,bG⟩:bP)),bX wE (kp (⟨cG,cG,cG,cG,cG,cG⟩:bP))] w1,⟨_,0,cG,rfl,rfl,bL,bL,u⟩,?_⟩
 rintro m _ _ ⟨j,O,rfl,rfl,hj,Cm,u⟩ _;have aj1:((p.dV.take j).map FD).length=j:=by rw[mW,l9];omega
 refine⟨λjv w'=>jv=.bool (decide (j<p.dV.length/\j<6))/\St w aX [bX W (kp (⟨M,J,B,E,I,O⟩:bP)),fy (jr O) ((p.dV.take j).map FD),fy (jr M) ((p.lines.take 6).map jx),bF (jr J) (jx p.iP),bF (jr B) (jx p.eE),fy (jr E) (kS p.threads),fy (jr I) (kS p.recover),bX kj (kp (⟨bI,bR,Z,aT,aU,bG⟩:bP)),bX wE (kp (⟨cG,cG,cG,cG,cG,cG⟩:bP))] w',?_,?_⟩
 .refine aA jn (aB qN u.p7.hb rfl ?_);obtain⟨ts73,ax3,ax4⟩:=cM.open;have hn73:=ax4.1;exact aI tf (ax3.ext u.aF) (aN (aC (λ_=>aN ⟨vb cD,u⟩) λ_=>⟨vb cD,u⟩))
 rintro _ _ ⟨rfl,u⟩ _;refine aW (λse=>?_) (λse=>?_)
 .have hc49:j<p.dV.length/\j<6:=by simpa using se
  refine aA jn (have u:=u.drew;aB (v:=jr (O:SV)) qN u.hb rfl (aA jn (aB qN u.p7.hb rfl ?_)));obtain⟨ax5,aq9,ara⟩:=cM.open;have hn74:=ara.1;obtain⟨SS,ue⟩:=gx ax5 (i:=(j:Int).toNat) bL;obtain⟨U,Co⟩:=gx p.dV (i:=(j:Int).toNat) bL;obtain⟨aeg,rfl,aeh⟩:=ara.2 _ _ _ ue Co;refine aK tf aq9 bL ue (λ_ A7=>bT aeg vx A7 rfl rfl λ_ A8=>aE jo (A8.ext u.aF) ?_);have ax6:=DL.flat aeh;refine aA jn (aB qN u.p7.hb rfl (aK tf aq9 bL ue λ_ Fc=>bT U.at_ Jj Fc rfl rfl λ_ C5=>aE bO (C5.ext u.aF) (dB aiy u (C47 _ _ _ (ax6.ext u.aF)) λx60 _ G u=>?_)))
  refine⟨aH qN (u.p1.hb.cell rfl),?_⟩;refine⟨aH qN (u.p8.hb.cell rfl),?_⟩;refine⟨fq bO (C5.ext u.aF),?_⟩;obtain⟨Cp,rfl⟩:=u.fK;refine pop (Hx _ _ _ _) (have u:=u.freeze.dH (Ψ:=(λw=>n5 w (⟨Cp,U.at_⟩:jq) (⟨(yJ U.e),U.at_⟩:gP))) (λ_ h=>⟨_,rfl,DL.ki h⟩);ga (s:=(⟨Cp,U.at_⟩:jq)) (x:=(⟨(yJ U.e),U.at_⟩:gP)) u tf dy λs_x68 _ u=>?_);refine⟨aH qN (u.p1.hb.cell rfl),?_⟩;have u:=u.p2;refine fU u tf (by rw[aj1,nh];omega) dy (λs_x69 _ u=>aA jn ?_)
  obtain⟨Zb,rfl⟩:=u.oR;exact aR u.p1 qN (dQ rfl) (rfl) (λ_ u=>have u:=u.enc (cs':=kp (⟨M,J,B,E,I,Zb⟩:bP)) rfl;aJ bL (have u:=u.p8.p8.p8.p8.p8.p8.p8.p8.p8;⟨_,bL,j+1,Zb,rfl,rfl,bL,bL,by rw[<- fV (k:=j) Co];exact u⟩))
 refine aE fp u.At (aM (x:=(⟨M,J,B,E,I,O⟩:bP)) u.p8 fp rfl rfl λ_ u=>aE fp u.At ?_);rw[sC (xs:=p.dV) (k:=j) (m:=6) bL bL (g6 se)]at u;have u:=u.p3.oQ.p4.freeze.p1.fX.p4.freeze.p1.fX.p4.oQ.p1.fX.p4.oQ.p1.fX;have u:=u.p3.oQ.p1.fX.dH (Ψ:=(λw=>n5 w (⟨M,J,B,E,I,O⟩:bP) (⟨((p.lines.take 6).map jx),(jx p.iP),(jx p.eE),(kS p.threads),(kS p.recover),((p.dV.take 6).map FD)⟩:cR))) (λ_ h=>⟨_,_,_,_,_,_,rfl,h.1.1.1.1.1,DL.ki h.1.1.1.1.2,DL.ki h.1.1.1.2,h.1.1.2,h.1.2,h.2⟩)
 have u:=u.p1.drop.p1.drop.p1.drop;exact⟨_,rfl,u.fresh⟩
def tM(l:List Int)(i:Nat):Int:=if i=0 then 0 else l.getD (i-1) 0+1
theorem Zc(x:bM)(loops:Int):loops+Jt (decide (x.kind=12))=Bk.DO x loops:=by
 unfold Bk.DO Jt
 grind
def arb(b:Bool):0<=Jt b/\Jt b<=1:=by cases b<;>decide
def C309(W fv:Value)(xs:List bM)(φ:bM->Prop)(g:bM->Bool)(w:World)(hL:DL w W xs)(Z:tI hH w fv φ g)(hφ:∀x∈xs,φ x)(hn:xs.length<=1073741824):CR 309 [W,fv] w (λv w'=>v=ir (sg g xs)/\Ext w w'):=by
 obtain⟨g0,first,cap,rfl,ng,jW⟩:=Z;have u:=St.start w;refine fb Tryz.func309 ?_;obtain⟨Y,V,U⟩:=hL.open;have hn3:=U.1;refine aI fk (V.ext u.aF) ?_;refine⟨λm x M=>∃k:Nat,x=ir (k:Int)/\m=xs.length-k/\k<=xs.length/\(∀y∈xs.take k,g y=false)/\St w aX [] M,⟨_,0,rfl,rfl,l2 _,ee,u⟩,?_⟩;rintro m _ M ⟨k,rfl,rfl,hk,B,u⟩ _;refine aN (aC (λjA=>?_) λ_=>⟨gL (n3 .i64) (jb (by rw[la bL]at B;exact B)).symm,u.aF⟩);obtain⟨il,O⟩:=gx Y (i:=(k:Int).toNat) bL;obtain⟨yZ,E⟩:=gx xs (i:=(k:Int).toNat) bL
 obtain⟨JO,G,rfl,JP,J⟩:=U.2 _ _ _ O E;refine aK fk V bL O (λ_ gZ=>aE eD (gZ.ext u.aF) (gS ng (jW _ yZ M u.aF ⟨JO,G,rfl,(JP.ext u.aF),(J.ext u.aF)⟩ (hφ _ (kO E))) ?_));rintro _ _ ⟨rfl,he⟩;have u:=u.ext he;exact aW (λI=>⟨gL (n3 .i64) (l6 B E I).symm,u.aF⟩) (λI=>aJ bL ⟨_,bL,k+1,rfl,rfl,bL,dY B E I,u⟩)
def C282(B fv:Value)(xs:List bM)(φ:bM->Prop)(g:bM->Bool)(w:World)(E:DL w B xs)(G:tI hH w fv φ g)(I:∀x∈xs,φ x)(J:xs.length<=1073741824):CR 282 [B,fv] w (λv w'=>v=.bool (xs.any g)/\Ext w w'):=by
 have u:=St.start w;refine fb Tryz.func282 ?_;exact aV ap1 u (C309 _ _ _ _ _ _ (E.ext u.aF) (G.ext u.aF) I bL) (λ_ _ u=>cO ⟨vb (kN _ _),u.aF⟩)
theorem C284(lv:Value)(xs:List bM)(loops:Int)(N:Nat)(w:World)(hL:DL w lv xs)(hn:xs.length<=40)(hlo:0<=loops)(Jy:loops+N<=4194304)(hN:xs.length<N):CR 284 [lv,ir loops] w (λv w'=>v=ir (fC xs loops)/\Ext w w'):=by
 have E:=St.start w;refine ad0 _ _ _ _ ?_;unfold S284;refine⟨λm y x w1=>∃(k:Nat) (n:Int),y=ir n/\x=ir (k:Int)/\m=xs.length-k/\k<=xs.length/\0<=n/\n<=41/\fC xs loops=sn n (fC (xs.drop k) loops)/\St w aX [] w1,⟨_,0,0,rfl,rfl,rfl,bL,bL,bL,by have:=tK xs loops;rw[List.drop_zero];unfold sn;split<;>omega,E⟩,?_⟩;rintro m _ _ w1 ⟨k,n,rfl,rfl,rfl,hk,Wb,XR,hinv,E⟩ _;obtain⟨yW,I,J⟩:=hL.open;have hn4:=J.1;refine aI fk (I.ext E.aF) (aN (aC (λeb=>?_) λeb=>?_))
 .obtain⟨jS,fL⟩:=gx yW (i:=(k:Int).toNat) bL;obtain⟨u,lB⟩:=gx xs (i:=(k:Int).toNat) bL;obtain⟨U,O,rfl,SP,SQ⟩:=J.2 _ _ _ fL lB;refine aK fk I bL fL (λ_ j8=>?_);have hdk:=drop_cons (xs:=xs) (k:=k) lB;rw[hdk]at hinv;have DP:(xs.drop (k+1)).length=xs.length-(k+1):=sJ;refine aE eD (j8.ext E.aF) (aQ E iN λZ _ E=>have E:=E.enc (cs':=kp (⟨0,(j0 #[]),(j0 #[]),cG,cG,0,0,0,0⟩:aZ)) rfl;aM (x:=(⟨u.kind,u.ey,u.name,U,O,u.n,u.body,u.ep,u.at_⟩:aZ)) E eD rfl rfl λ_ E=>aJ bL (aA iW (aB (v:=ir u.body) bO E.hb rfl (uL ?_))))
  obtain⟨W1,V⟩:∃W,W=BM (((k:Int)+1)+u.body):=⟨_,rfl⟩;rw[<- V];refine aA iD (aB (v:=ir u.ep) bO E.hb rfl (uL ?_));obtain⟨M,Y⟩:∃W,W=BM (W1+u.ep):=⟨_,rfl⟩;rw[<- Y];refine⟨λG w'=>G=.bool (Bk.zH u)/\St w aX [bX Z (kp (⟨u.kind,u.ey,u.name,U,O,u.n,u.body,u.ep,u.at_⟩:aZ))] w',aA dN (aB (v:=ir u.kind) bO E.hb rfl (aG (aC (λ_=>⟨vb (by unfold Bk.zH;grind),E⟩) λ_=>aA dN (aB (v:=ir u.kind) bO E.hb rfl (aG ⟨vb (by unfold Bk.zH;grind),E⟩))))),?_⟩
  rintro _ _ ⟨rfl,E⟩ _;refine⟨λG w'=>G=.bool (decide (u.body<0\/u.ep<0\/(xs.length:Int)<u.body\/(xs.length:Int)<u.ep\/(xs.length:Int)<M))/\St w aX [bX Z (kp (⟨u.kind,u.ey,u.name,U,O,u.n,u.body,u.ep,u.at_⟩:aZ))] w',aA iW (aB (v:=ir u.body) bO E.hb rfl (aN (aC (λ_=>⟨vb cD,E⟩) λxn=>?_))),?_⟩
  .refine aA iD (aB (v:=ir u.ep) bO E.hb rfl (aN ?_));exact aC (λ_=>⟨vb cD,E⟩) (λ_=>aA iW (aB (v:=ir u.body) bO E.hb rfl (aI fk (I.ext E.aF) (cL (aC (λ_=>⟨vb cD,E⟩) λ_=>aA iD (aB (v:=ir u.ep) bO E.hb rfl (aI fk (I.ext E.aF) (cL (aC (λ_=>⟨vb cD,E⟩) λ_=>aI fk (I.ext E.aF) (cL ⟨vb cD,E⟩))))))))))
  rintro _ _ ⟨rfl,E⟩ _;refine aW (λoT=>?_) (λoT=>?_)
  .have hW:0<=u.body/\u.body<=40/\0<=u.ep/\u.ep<=40->M=(k:Int)+1+u.body+u.ep:=λh=>by
    have h1:W1=(k:Int)+1+u.body:=by rw[V];exact zB bL
    rw[Y,zB bL];omega
   exact⟨gL (n3 .i64) (Jw hinv (by unfold uQ;grind)).symm,E.drop.aF⟩
  have hq:=g6 oT
  have hW:M=(k:Int)+1+u.body+u.ep:=by
   have h1:W1=(k:Int)+1+u.body:=by rw[V];exact zB bL
   rw[Y,zB bL];omega
  have ph:uQ u (xs.drop (k+1)):=by unfold uQ;omega
  refine⟨λG w'=>G=.bool (!Bk.ym u loops)/\St w aX [bX Z (kp (⟨u.kind,u.ey,u.name,U,O,u.n,u.body,u.ep,u.at_⟩:aZ))] w',⟨λG w'=>G=.bool (!Bk.zH u&&decide (0<u.body))/\St w aX [bX Z (kp (⟨u.kind,u.ey,u.name,U,O,u.n,u.body,u.ep,u.at_⟩:aZ))] w',bN (aW (λ_=>aA iW (aB (v:=ir u.body) bO E.hb rfl (cL ⟨vb cD,E⟩))) λ_=>⟨vb cD,E⟩),?_⟩,?_⟩
  .rintro _ _ ⟨rfl,E⟩ _;refine aW (λ_=>⟨vb (by unfold Bk.ym;unfold Bk.zH at *;grind),E⟩) (λag2=>⟨λG w'=>G=.bool (decide (¬ u.kind=11/\0<u.ep))/\St w aX [bX Z (kp (⟨u.kind,u.ey,u.name,U,O,u.n,u.body,u.ep,u.at_⟩:aZ))] w',aA dN (aB (v:=ir u.kind) bO E.hb rfl (bW (aC (λ_=>aA iD (aB (v:=ir u.ep) bO E.hb rfl (cL ⟨vb cD,E⟩))) λ_=>⟨vb cD,E⟩))),?_⟩);rintro _ _ ⟨rfl,E⟩ _;exact aW (λ_=>⟨vb (by unfold Bk.ym;unfold Bk.zH at *;grind),E⟩) (λ_=>aA dN (aB (v:=ir u.kind) bO E.hb rfl (aG (aC (λ_=>aG ⟨vb (by unfold Bk.ym;unfold Bk.zH at *;grind),E⟩) λ_=>⟨vb (by unfold Bk.ym;unfold Bk.zH at *;grind),E⟩))))
  rintro _ _ ⟨rfl,E⟩ _;refine aW (λ_=>⟨gL (n3 .i64) (Jw hinv cD).symm,E.drop.aF⟩) (λauq=>?_);have iv:Bk.ym u loops=true:=cD
  have ai9:=ph;unfold uQ at ai9;refine⟨λG w'=>∃n':Int,G=ir n'/\0<=n'/\n'<=41/\fC xs loops=sn n' (fC (xs.drop (k+1+(u.body.toNat+u.ep.toNat))) loops)/\St w aX [bX Z (kp (⟨u.kind,u.ey,u.name,U,O,u.n,u.body,u.ep,u.at_⟩:aZ))] w',aW (λCq=>?_) (λCq=>?_),?_⟩
  .have hb01:=Zc u loops;have hbb:=arb (decide (u.kind=12));have hcA:((xs.take (((k:Int)+1)+u.body).toNat).drop ((k:Int)+1).toNat)=(xs.drop (k+1)).take u.body.toNat:=vD xs bL bL;have hcB:((xs.take M.toNat).drop (((k:Int)+1)+u.body).toNat)=((xs.drop (k+1)).drop u.body.toNat).take u.ep.toNat:=by rw[u3];exact vD xs bL bL
   have hlA:((xs.take (((k:Int)+1)+u.body).toNat).drop ((k:Int)+1).toNat).length<=xs.length-1/\((xs.take (((k:Int)+1)+u.body).toNat).drop ((k:Int)+1).toNat).length<=40:=by rw[hcA,l9];omega
   have hlB:((xs.take M.toNat).drop (((k:Int)+1)+u.body).toNat).length<=xs.length-1/\((xs.take M.toNat).drop (((k:Int)+1)+u.body).toNat).length<=40:=by rw[hcB,l9,sJ];omega
   refine aA dN (aB (v:=ir u.kind) bO E.hb rfl (aG (aV W4 E (C302 _ _) λ_ he E=>aJ bL (aJ bL (aJ bL (aA iW (have E:=E.drew;aB (v:=ir u.body) bO E.hb rfl (aJ bL (oq fk (I.ext E.aF) bL bL bL λax9 ael=>?_)))))))));have aem:=DL.cut ael I J;refine aJ bL (aA iW (aB (v:=ir u.body) bO E.hb rfl (aJ bL (oq fk (I.ext E.aF) bL bL bL λaya aen=>?_))));have aeo:=DL.cut aen I J
   refine aV Yy E (C284 _ _ _ (N-1) _ (aem.ext E.aF) bL bL bL bL) (λ_ he E=>?_);refine⟨aH bO (E.hb.cell rfl),?_⟩;refine dR Yy (C284 _ _ _ (N-1) _ (aeo.ext E.aF) bL bL bL bL) ?_;rintro _ _ ⟨rfl,he⟩;have E:=E.ext he;obtain⟨A,hA⟩:∃A,A=fC ((xs.take (((k:Int)+1)+u.body).toNat).drop ((k:Int)+1).toNat) (Bk.DO u loops):=⟨_,rfl⟩;obtain⟨B,hB⟩:∃B,B=fC ((xs.take M.toNat).drop (((k:Int)+1)+u.body).toNat) (Bk.DO u loops):=⟨_,rfl⟩;have hAb:=tK ((xs.take (((k:Int)+1)+u.body).toNat).drop ((k:Int)+1).toNat) (Bk.DO u loops)
   have hBb:=tK ((xs.take M.toNat).drop (((k:Int)+1)+u.body).toNat) (Bk.DO u loops);rw[<- hA]at hAb;rw[<- hB]at hBb;rw[Zc,<- hA,<- hB];have Uz:=X1 hinv ph iv Cq A B (by rw[hA,hcA]) (by rw[hB,hcB]);refine⟨λG w'=>G=.bool (decide (A<0\/B<0))/\St w aX [bX Z (kp (⟨u.kind,u.ey,u.name,U,O,u.n,u.body,u.ep,u.at_⟩:aZ))] w',aG (aC (λ_=>⟨vb cD,E⟩) λ_=>aG ⟨vb cD,E⟩),?_⟩;rintro _ _ ⟨rfl,E⟩ _;refine aW (λQe=>⟨gL (n3 .i64) (Uz.1 (gM Qe)).symm,E.drop.aF⟩) (λQe=>aJ bL (aJ bL (LP ?_)))
   have X3:=Uz.2 (g6 Qe);rw[u3,ab4 1 A,ab4 1 B]at X3;exact⟨_,rfl,bL,bL,X3,E⟩
  .have hdn:=ag0 hinv ph iv Cq;rw[u3]at hdn;exact⟨_,rfl,Wb,XR,hdn,E⟩
  rintro _ _ ⟨n',rfl,ajc,ajd,X4,E⟩ _;exact⟨_,bL,k+1+(u.body.toNat+u.ep.toNat),n',rfl,gL (n3 .i64) bL,rfl,bL,ajc,ajd,X4,E.drop⟩
 rw[u6 bL,Cd]at hinv;exact⟨gL (n3 .i64) (by rw[hinv];unfold sn;omega),E.aF⟩
termination_by N
decreasing_by all_goals omega
theorem MO(xs:List bM):pL xs=(!(decide (40<xs.length)||xs.any λy=>!m9 y)&&decide (¬ fC xs 0 = -1/\fC xs 0<=12)):=by
 have:=tK xs 0
 grind[pL,m9,fC]
def C241(lv:Value)(xs:List bM)(w:World)(G:DL w lv xs)(hn:xs.length<=1048576)(Y:∀x∈xs,x.e.length<=1048576/\x.f.length<=1048576):CR 241 [lv] w (λv w'=>v=.bool (pL xs)/\Ext w w'):=by
 have u:=St.start w;refine fb Tryz.func241 ?_;refine⟨λE w'=>E=.bool (decide (40<xs.length)||xs.any λy=>!m9 y)/\St w aX [] w',?_,?_⟩
 .obtain⟨U,J,B⟩:=G.open;have D1:=B.1;exact aI fk (J.ext u.aF) (cL (aC (λ_=>⟨vb cD,u⟩) λ_=>aV ap0 u (C282 _ _ _ (λx=>x.e.length<=1048576/\x.f.length<=1048576) _ _ (G.ext u.aF) ⟨283,[],[],rfl,apR,λW y O _ hd M=>C283 y W O hd M.1 M.2⟩ Y bL) λ_ _ u=>⟨vb cD,u⟩))
 rintro _ _ ⟨rfl,u⟩ _;refine aW (λI=>?_) (λI=>?_)
 .refine⟨vb ?_,u.aF⟩;rw[MO,I];rfl
 have V:xs.length<=40:=cD
 refine aV Yy u (C284 _ _ _ (xs.length+1) _ (G.ext u.aF) bL bL bL bL) (λ_ Z u=>⟨λE w'=>E=.bool (decide (¬ fC xs 0 = -1/\fC xs 0<=12))/\St w aX [] w',bW (aC (λ_=>gu ⟨vb cD,u⟩) λ_=>⟨vb cD,u⟩),?_⟩);rintro _ _ ⟨rfl,u⟩ _;refine⟨vb ?_,u.aF⟩;rw[MO,I];rfl
def JQ(t:cK):Bool:=rq t.at_&&!t.dO.any (λs=>!gI s)&&pL t.body
theorem SU(t:cK):(!gI t.name||!JQ t)=my true t:=by
 unfold my so JQ
 grind
theorem SW(t:cK):(decide (¬ t.name=⟨#[]⟩)||!JQ t)=my false t:=by
 unfold my so JQ
 by_cases h:t.name=⟨#[]⟩
 .rw[h,show gI (⟨#[]⟩:ByteArray)=false from dy]
  grind
 grind
theorem MP(p:cR):(!(p.lines.any nR||!nZ 4294967296 p.iP||!nZ 0 p.eE||decide (1<p.recover.length))&&(!p.threads.any (my true)&&!p.recover.any (my false)&&!p.dV.any lM))=ko p:=by
 unfold ko nL
 grind
def SzS.ok{xs:List bM}(h:∀x∈xs,SzS x):∀x∈xs,x.e.length<=1048576/\x.f.length<=1048576:=λx u=>⟨(h x u).2.2.1,(h x u).2.2.2.1⟩
def C184(n:Int)(w:World):CR 184 [ir n] w (λv w'=>v=.bool (rq n)/\Ext w w'):=by
 have E:=St.start w;refine fb Tryz.func184 ?_;refine⟨λB w'=>B=.bool (decide (0<=n/\n<=4000))/\w=w',cO (aC (λ_=>gu ⟨yd bL,rfl⟩) λ_=>⟨Uf bL,rfl⟩),?_⟩;rintro _ _ ⟨rfl,u⟩ _;subst u;exact⟨rfl,E.aF⟩
def C233(c:cC)(b2:Nat)(E:Int)(w:World)(hc:Cell w b2 0 (ir E)):CR 233 [jr c,.pointer (some ⟨b2,0,none⟩)] w (λv w'=>v=.bool (iQ E c)/\Ext w w'):=by
 have u:=St.start w;refine fb Tryz.func233 ?_;refine cP u (λB _ u=>⟨λG w'=>G=.bool (iQ E c)/\St w aX [bX B (kp c)] w',aA kJ (aB (v:=.string c.name) gv u.hb rfl (aV L9 u (C180 _ _) λ_ J u=>bN (aW (λ_=>⟨vb (by unfold iQ;grind),u⟩) λI=>?_))),?_⟩)
 .exact aA rV (aB (v:=ir c.n) bO u.hb rfl (aN (aC (λ_=>⟨vb (by unfold iQ;grind),u⟩) λ_=>aA rV (aB (v:=ir c.n) bO u.hb rfl (bE bO (hc.ext u.aF) (cL (aC (λ_=>⟨vb (by unfold iQ;grind),u⟩) λ_=>aA uH (aB (v:=ir c.at_) bO u.hb rfl (aV YA u (C184 _ _) λ_ _ u=>bN ⟨vb (by unfold iQ;grind),u⟩)))))))))
 rintro _ _ ⟨rfl,u⟩ _;exact⟨rfl,u.drop.aF⟩
def C279(M fv:Value)(xs:List cC)(g:cC->Bool)(w:World)(J:cZ (λ_=>True) w M xs)(O:wD w fv g)(hn:xs.length<=1073741824):CR 279 [M,fv] w (λv w'=>v=ir (sg g xs)/\Ext w w'):=by
 obtain⟨g0,first,cap,rfl,Z,Y⟩:=O;have u:=St.start w;refine fb Tryz.func279 ?_;refine aI ic (J.ext u.aF) ?_;refine⟨λm x I=>∃k:Nat,x=ir (k:Int)/\m=xs.length-k/\k<=xs.length/\(∀y∈xs.take k,g y=false)/\St w aX [] I,⟨_,0,rfl,rfl,l2 _,ee,u⟩,?_⟩;rintro m _ I ⟨k,rfl,rfl,hk,B,u⟩ _;refine aN (aC (λjA=>?_) λ_=>⟨gL (n3 .i64) (jb (by rw[la bL]at B;exact B)).symm,u.aF⟩);obtain⟨W,E⟩:=gx xs (i:=(k:Int).toNat) bL;refine aK ic J bL E (λ_ U=>aE lZ (U.ext u.aF) (gS Z (Y W I u.aF) ?_))
 rintro _ _ ⟨rfl,V⟩;have u:=u.ext V;exact aW (λG=>⟨gL (n3 .i64) (l6 B E G).symm,u.aF⟩) (λG=>aJ bL ⟨xs.length-(k+1),bL,k+1,rfl,rfl,bL,dY B E G,u⟩)
def C232(B fv:Value)(xs:List cC)(g:cC->Bool)(w:World)(E:cZ (λ_=>True) w B xs)(G:wD w fv g)(I:xs.length<=1073741824):CR 232 [B,fv] w (λv w'=>v=.bool (xs.any g)/\Ext w w'):=by
 have u:=St.start w;refine fb Tryz.func232 ?_;exact aV ap3 u (C279 _ _ _ _ _ (E.ext u.aF) (G.ext u.aF) bL) (λ_ _ u=>cO ⟨vb (kN _ _),u.aF⟩)
def C178(lv:Value)(xs:List cC)(B:Int)(w:World)(M:cZ (λ_=>True) w lv xs)(O:xs.length<=1048576):CR 178 [lv,ir B] w (λv w'=>v=.bool (nZ B xs)/\Ext w w'):=by
 have u:=St.start w;refine fb Tryz.func178 ?_;refine nx u rfl (λG I u=>?_)
 have E:wD _ (.func (.func 233) [].toArray [.pointer (some ⟨G,0,none⟩)].toArray) (iQ B):=
  ⟨233,[],_,rfl,apY,λy I J=>C233 y G B I ((u.hb.cell rfl).ext J)⟩
 exact aV ap2 u (C232 _ _ _ _ _ (M.ext u.aF) E bL) (λ_ _ u=>bN ⟨rfl,u.drop.aF⟩)
def C239(s:ByteArray)(w:World):CR 239 [.string s] w (λv w'=>v=.bool (!gI s)/\Ext w w'):=by
 have u:=St.start w;refine fb Tryz.func239 ?_;exact aV L9 u (C180 _ _) (λ_ _ u=>bN ⟨rfl,u.aF⟩)
def C181(t:cK)(G:cB)(w:World)(ht:n5 w G t)(W:X2 t/\t.dO.length<=500/\t.body.length<=500):CR 181 [jr G] w (λv w'=>v=.bool (JQ t)/\Ext w w'):=by
 obtain⟨O,J,rfl,U,V⟩:=ht;have u:=St.start w;refine fb Tryz.func181 ?_;refine cP u (λI E u=>⟨λM w'=>M=.bool (JQ t)/\St w aX [bX I (kp (⟨t.name,O,J,t.at_⟩:cB))] w',aA qo (aB (v:=ir t.at_) bO u.hb rfl (aV YA u (C184 _ _) λ_ Y u=>aW (λZ=>?_) λ_=>⟨vb (by unfold JQ;grind),u⟩)),?_⟩)
 .refine aA fS (aB je u.hb rfl ?_);have B:=DL.flat U;exact aV aha u (C240 _ _ _ (λs=>!gI s) _ (B.ext u.aF) ⟨239,[],[],rfl,apZ,λy E _=>C239 y E⟩ bL) (λ_ _ u=>bN (aW (λ_=>aA lG (aB jG u.hb rfl (aV apS u (C241 _ _ _ (V.ext u.aF) bL (SzS.ok W.1.2.2)) λ_ _ u=>⟨vb (by unfold JQ;grind),u⟩))) λ_=>⟨vb (by unfold JQ;grind),u⟩))
 rintro _ _ ⟨rfl,u⟩ _;exact⟨rfl,u.drop.aF⟩
def C179(t:cK)(E:cB)(w:World)(ht:n5 w E t)(J:X2 t/\t.dO.length<=500/\t.body.length<=500):CR 179 [jr E] w (λv w'=>v=.bool (my true t)/\Ext w w'):=by
 obtain⟨G,B,rfl,M,O⟩:=ht;have u:=St.start w;refine fb Tryz.func179 ?_;refine cP u (λU _ u=>⟨λI w'=>I=.bool (my true t)/\St w aX [bX U (kp (⟨t.name,G,B,t.at_⟩:cB))] w',aA qn (aB (v:=.string t.name) gv u.hb rfl (aV L9 u (C180 _ _) λ_ _ u=>bN (aW (λ_=>⟨vb (by rw[<- SU];grind),u⟩) λ_=>aE m6 u.At (aV ahk u (C181 t _ _ ⟨G,B,rfl,(M.ext u.aF),(O.ext u.aF)⟩ J) λ_ _ u=>bN ⟨vb (by rw[<- SU];grind),u⟩)))),?_⟩);rintro _ _ ⟨rfl,u⟩ _;exact⟨rfl,u.drop.aF⟩
def C182(t:cK)(E:cB)(w:World)(ht:n5 w E t)(J:X2 t/\t.dO.length<=500/\t.body.length<=500):CR 182 [jr E] w (λv w'=>v=.bool (my false t)/\Ext w w'):=by
 obtain⟨G,B,rfl,M,O⟩:=ht;have u:=St.start w;refine fb Tryz.func182 ?_;refine cP u (λU _ u=>⟨λI w'=>I=.bool (my false t)/\St w aX [bX U (kp (⟨t.name,G,B,t.at_⟩:cB))] w',aA qn (aB (v:=.string t.name) gv u.hb rfl (lW (aC (λ_=>⟨vb (by rw[<- SW];grind),u⟩) λ_=>aE m6 u.At (aV ahk u (C181 t _ _ ⟨G,B,rfl,(M.ext u.aF),(O.ext u.aF)⟩ J) λ_ _ u=>bN ⟨vb (by rw[<- SW];grind),u⟩)))),?_⟩);rintro _ _ ⟨rfl,u⟩ _;exact⟨rfl,u.drop.aF⟩
def C177(lv:Value)(xs:List cC)(w:World)(B:cZ (λ_=>True) w lv xs)(G:xs.length<=1048576):CR 177 [lv] w (λv w'=>v=.bool (nR xs)/\Ext w w'):=by
 have u:=St.start w;refine fb Tryz.func177 ?_;refine⟨λE w'=>E=.bool (nR xs)/\St w aX [] w',aI ic (B.ext u.aF) (aG (aC (λ_=>⟨vb (by unfold nR;grind),u⟩) λ_=>aV Yz u (C178 _ _ _ _ (B.ext u.aF) bL) λ_ _ u=>bN ⟨vb (by unfold nR;grind),u⟩)),?_⟩;rintro _ _ ⟨rfl,u⟩ _;exact⟨rfl,u.aF⟩
def C183(c:gP)(cv:jq)(w:World)(hc:n5 w cv c)(O:c.e.length<=1048576):CR 183 [jr cv] w (λv w'=>v=.bool (lM c)/\Ext w w'):=by
 obtain⟨E,rfl,B⟩:=hc;have u:=St.start w;refine fb Tryz.func183 ?_;refine cP u (λG _ u=>⟨λJ w'=>J=.bool (lM c)/\St w aX [bX G (kp (⟨E,c.at_⟩:jq))] w',aA Jj (aB (v:=ir c.at_) bO u.hb rfl (aV YA u (C184 _ _) λ_ U u=>bN (aW (λ_=>⟨vb (by unfold lM;grind),u⟩) λM=>?_))),?_⟩)
 .refine aA vx (aB jo u.hb rfl ?_);have I:=DL.flat B;exact aV Sx u (C185 _ _ _ (I.ext u.aF) bL) (λ_ _ u=>bN ⟨vb (by unfold lM;grind),u⟩)
 rintro _ _ ⟨rfl,u⟩ _;exact⟨rfl,u.drop.aF⟩
def C247(W fv:Value)(xs:List (List cC))(φ:(List cC)->Prop)(g:(List cC)->Bool)(w:World)(hL:DL w W xs)(Z:tI hH w fv φ g)(hφ:∀x∈xs,φ x)(hn:xs.length<=1073741824):CR 247 [W,fv] w (λv w'=>v=ir (sg g xs)/\Ext w w'):=by
 obtain⟨g0,first,cap,rfl,ng,jW⟩:=Z;have u:=St.start w;refine fb Tryz.func247 ?_;obtain⟨Wc,E,G⟩:=hL.open;have hn8:=G.1;refine aI pG (E.ext u.aF) ?_;refine⟨λm x O=>∃k:Nat,x=ir (k:Int)/\m=xs.length-k/\k<=xs.length/\(∀y∈xs.take k,g y=false)/\St w aX [] O,⟨_,0,rfl,rfl,l2 _,ee,u⟩,?_⟩;rintro m _ O ⟨k,rfl,rfl,hk,I,u⟩ _;refine aN (aC (λjA=>?_) λ_=>⟨gL (n3 .i64) (jb (by rw[la bL]at I;exact I)).symm,u.aF⟩);obtain⟨il,U⟩:=gx Wc (i:=(k:Int).toNat) bL;obtain⟨V,J⟩:=gx xs (i:=(k:Int).toNat) bL
 have B:DL w (jr il) V:=G.2 _ _ _ U J;refine aK pG E bL U (λ_ gZ=>aE jD (gZ.ext u.aF) ?_);have Y:=DL.flat B;refine gS ng (jW _ V O u.aF (B.ext u.aF) (hφ _ (kO J))) ?_;rintro _ _ ⟨rfl,he⟩;have u:=u.ext he;exact aW (λM=>⟨gL (n3 .i64) (l6 I J M).symm,u.aF⟩) (λM=>aJ bL ⟨_,bL,k+1,rfl,rfl,bL,dY I J M,u⟩)
def C186(B fv:Value)(xs:List (List cC))(φ:(List cC)->Prop)(g:(List cC)->Bool)(w:World)(E:DL w B xs)(G:tI hH w fv φ g)(I:∀x∈xs,φ x)(J:xs.length<=1073741824):CR 186 [B,fv] w (λv w'=>v=.bool (xs.any g)/\Ext w w'):=by
 have u:=St.start w;refine fb Tryz.func186 ?_;exact aV ap4 u (C247 _ _ _ _ _ _ (E.ext u.aF) (G.ext u.aF) I bL) (λ_ _ u=>cO ⟨vb (kN _ _),u.aF⟩)
def C248(V fv:Value)(xs:List cK)(φ:cK->Prop)(g:cK->Bool)(w:World)(hL:DL w V xs)(Y:tI hH w fv φ g)(hφ:∀x∈xs,φ x)(hn:xs.length<=1073741824):CR 248 [V,fv] w (λv w'=>v=ir (sg g xs)/\Ext w w'):=by
 obtain⟨g0,first,cap,rfl,ng,jW⟩:=Y;have u:=St.start w;refine fb Tryz.func248 ?_;obtain⟨M,B,E⟩:=hL.open;have W:=E.1;refine aI fu (B.ext u.aF) ?_;refine⟨λm x O=>∃k:Nat,x=ir (k:Int)/\m=xs.length-k/\k<=xs.length/\(∀y∈xs.take k,g y=false)/\St w aX [] O,⟨_,0,rfl,rfl,l2 _,ee,u⟩,?_⟩;rintro m _ O ⟨k,rfl,rfl,hk,G,u⟩ _;refine aN (aC (λjA=>?_) λ_=>⟨gL (n3 .i64) (jb (by rw[la bL]at G;exact G)).symm,u.aF⟩);obtain⟨il,U⟩:=gx M (i:=(k:Int).toNat) bL;obtain⟨yZ,I⟩:=gx xs (i:=(k:Int).toNat) bL
 obtain⟨Qf,Z,rfl,Qh,Qi⟩:=E.2 _ _ _ U I;refine aK fu B bL U (λ_ gZ=>aE m6 (gZ.ext u.aF) (gS ng (jW _ yZ O u.aF ⟨Qf,Z,rfl,(Qh.ext u.aF),(Qi.ext u.aF)⟩ (hφ _ (kO I))) ?_));rintro _ _ ⟨rfl,he⟩;have u:=u.ext he;exact aW (λJ=>⟨gL (n3 .i64) (l6 G I J).symm,u.aF⟩) (λJ=>aJ bL ⟨_,bL,k+1,rfl,rfl,bL,dY G I J,u⟩)
def C187(B fv:Value)(xs:List cK)(φ:cK->Prop)(g:cK->Bool)(w:World)(E:DL w B xs)(G:tI hH w fv φ g)(I:∀x∈xs,φ x)(J:xs.length<=1073741824):CR 187 [B,fv] w (λv w'=>v=.bool (xs.any g)/\Ext w w'):=by
 have u:=St.start w;refine fb Tryz.func187 ?_;exact aV ap5 u (C248 _ _ _ _ _ _ (E.ext u.aF) (G.ext u.aF) I bL) (λ_ _ u=>cO ⟨vb (kN _ _),u.aF⟩)
def C249(U fv:Value)(xs:List gP)(φ:gP->Prop)(g:gP->Bool)(w:World)(hL:DL w U xs)(Y:tI hH w fv φ g)(Z:∀x∈xs,φ x)(hn:xs.length<=1073741824):CR 249 [U,fv] w (λv w'=>v=ir (sg g xs)/\Ext w w'):=by
 obtain⟨g0,first,cap,rfl,ng,jW⟩:=Y;have u:=St.start w;refine fb Tryz.func249 ?_;obtain⟨I,V,O⟩:=hL.open;have W:=O.1;refine aI tf (V.ext u.aF) ?_;refine⟨λm x J=>∃k:Nat,x=ir (k:Int)/\m=xs.length-k/\k<=xs.length/\(∀y∈xs.take k,g y=false)/\St w aX [] J,⟨_,0,rfl,rfl,l2 _,ee,u⟩,?_⟩;rintro m _ J ⟨k,rfl,rfl,hk,B,u⟩ _;refine aN (aC (λjA=>?_) λ_=>⟨gL (n3 .i64) (jb (by rw[la bL]at B;exact B)).symm,u.aF⟩);obtain⟨il,M⟩:=gx I (i:=(k:Int).toNat) bL;obtain⟨yZ,E⟩:=gx xs (i:=(k:Int).toNat) bL
 obtain⟨JO,rfl,JP⟩:=O.2 _ _ _ M E;refine aK tf V bL M (λ_ gZ=>aE Ji (gZ.ext u.aF) (gS ng (jW _ yZ J u.aF ⟨JO,rfl,(JP.ext u.aF)⟩ (Z _ (kO E))) ?_));rintro _ _ ⟨rfl,he⟩;have u:=u.ext he;exact aW (λG=>⟨gL (n3 .i64) (l6 B E G).symm,u.aF⟩) (λG=>aJ bL ⟨_,bL,k+1,rfl,rfl,bL,dY B E G,u⟩)
def C188(B fv:Value)(xs:List gP)(φ:gP->Prop)(g:gP->Bool)(w:World)(E:DL w B xs)(G:tI hH w fv φ g)(I:∀x∈xs,φ x)(J:xs.length<=1073741824):CR 188 [B,fv] w (λv w'=>v=.bool (xs.any g)/\Ext w w'):=by
 have u:=St.start w;refine fb Tryz.func188 ?_;exact aV ap7 u (C249 _ _ _ _ _ _ (E.ext u.aF) (G.ext u.aF) I bL) (λ_ _ u=>cO ⟨vb (kN _ _),u.aF⟩)
def C108(p:cR)(pv:bP)(w:World)(E:n5 w pv p)(B:PZ p):CR 108 [jr pv] w (λv w'=>v=.bool (ko p)/\Ext w w'):=by
 obtain⟨bI,bR,bK,aT,aU,Y,rfl,cN,dD,cW,bY,bZ,cM⟩:=E;have u:=St.start w;refine fb Tryz.func108 ?_;refine cP u (λkj G u=>⟨λM w'=>M=.bool (p.lines.any nR||!nZ 4294967296 p.iP||!nZ 0 p.eE||decide (1<p.recover.length))/\St w aX [bX kj (kp (⟨bI,bR,bK,aT,aU,Y⟩:bP))] w',aA gw (aB oH u.hb rfl (aV ahl u (C186 _ _ _ (λl=>l.length<=1048576) _ _ (cN.ext u.aF) ⟨177,[],[],rfl,apU,λ_ y G _ hd E=>C177 _ y G (DL.flat hd) E⟩ (λl hl=>by have:=B.line l hl;omega) (by have:=B.lines;omega)) λ_ he u=>aW (λ_=>⟨vb cD,u⟩) λju=>?_)),?_⟩)
 .refine aA pY (aB jD u.hb rfl ?_);have O:=DL.flat dD;refine aV Yz u (C178 _ _ _ _ (O.ext u.aF) (by have:=B.iP;omega)) (λ_ he u=>bN (aW (λ_=>⟨vb cD,u⟩) λjk=>aA nO (aB jD u.hb rfl ?_)));have V:=DL.flat cW;refine aV Yz u (C178 _ _ _ _ (V.ext u.aF) (by have:=B.eE;omega)) (λ_ he u=>bN (aW (λ_=>⟨vb cD,u⟩) λfo=>aA oI (aB iq u.hb rfl ?_)));have hzr:=B.recover;obtain⟨ts14,J,W⟩:=bZ.open;have Z:=W.1;exact aI fu (J.ext u.aF) (cL ⟨vb cD,u⟩)
 rintro _ _ ⟨rfl,u⟩ _;refine aW (λU=>?_) (λU=>⟨λM w'=>M=.bool (!p.threads.any (my true)&&!p.recover.any (my false)&&!p.dV.any lM)/\St w aX [bX kj (kp (⟨bI,bR,bK,aT,aU,Y⟩:bP))] w',?_,?_⟩)
 .refine⟨vb ?_,u.drop.aF⟩;rw[<- MP,U];simp
 .refine aA kD ?_;exact aB iq u.hb rfl (aV YB u (C187 _ _ _ (λt=>X2 t/\t.dO.length<=500/\t.body.length<=500) _ _ (bY.ext u.aF) ⟨179,[],[],rfl,apV,λI y G _ hd E=>C179 y I G hd E⟩ (λ_ ht=>B.rF (List.mem_append_left _ ht)) (by have:=B.threads;omega)) λ_ _ u=>bN (aW (λ_=>aA oI (aB iq u.hb rfl (aV YB u (C187 _ _ _ (λt=>X2 t/\t.dO.length<=500/\t.body.length<=500) _ _ (bZ.ext u.aF) ⟨182,[],[],rfl,apW,λI y G _ hd E=>C182 y I G hd E⟩ (λ_ ht=>B.rF (List.mem_append_right _ ht)) (by have:=B.recover;omega)) λ_ _ u=>bN (aW (λ_=>aA jn (aB qN u.hb rfl (aV ap6 u (C188 _ _ _ (λc=>c.e.length<=1048576) _ _ (cM.ext u.aF) ⟨183,[],[],rfl,apX,λI y G _ hd E=>C183 y I G hd E⟩ (λc hc=>(B.zc c hc).1) (by have:=B.dV;omega)) λ_ _ u=>bN ⟨vb cD,u⟩))) λ_=>⟨vb cD,u⟩)))) λ_=>⟨vb cD,u⟩))
 rintro _ _ ⟨rfl,u⟩ _;refine⟨vb ?_,u.drop.aF⟩;rw[<- MP,U];simp
variable (w:World) (K:Value->hM)
def S109(p0:Value):Prop:=
 qM hH (BF 27 p0) w λp1 a=>fA 27 p1 3 λb=>lA 24 b a λc=>lN 24 c λd=>eH (λB=>fA 27 p1 0 λe=>lA 22 e a λf=>lN 22 f λg=>bB .gtr 3 g (i 4) λh=>
 cV h (B tt a) (fA 27 p1 0 λj=>lA 22 j a λk=>cF 186 [k,(.func (.func 189) #[] #[])] a λl n=>cV l (B tt n) (fA 27 p1 1 λo=>lA 23 o n λp=>lN 23 p λq=>bB .gtr 3 q (i 4) λr=>
 cV r (B tt n) (fA 27 p1 2 λs=>lA 23 s n λt=>lN 23 t λu=>bB .gtr 3 u (i 2) λv=>cV v (B tt n) (bB .eql 3 d (i 0) λx=>cV x (B tt n) (bB .gtr 3 d (i 3) λy=>
 cV y (B tt n) (lA 27 p1 n λz=>cF 110 [z] n λM Y=>cF 187 [M,(.func (.func 190) #[] #[])] Y λV E=>cV V (B tt E) (fA 27 p1 5 λI=>lA 25 I E λJ=>lN 25 J λO=>
 bB .gtr 3 O (i 4) λG=>B G E)))))))) (λW U=>∀_:Env,
 K W U)
theorem aep(p0:Value)(h:S109 w K p0):CR 109 [p0] w K:=
 oe 51 (λ_=>.nil) 4 [.tmp 2] Tryz.func109 h
def S111(E O:Value):Prop:=
 jR (λG B a=>∀_:Env,
 lN 141 E λb=>bA .lss 3 B b λc=>cV c (iA 141 E B λd=>lA 193 d a λe=>aL 193 a λf g=>sA 193 f e g λh=>bB .add 3 B (i 1) λj=>fA 193 f 6 λk=>lA 3 k h λl=>
 bA .add 3 j l λn=>fA 193 f 7 λo=>lA 3 o h λp=>bA .add 3 n p λq=>eH (λK2=>fA 193 f 0 λr=>lA 3 r h λs=>bB .eql 3 s (i 12) λt=>cV t (fA 193 f 5 λu=>
 lA 3 u h λv=>bA .mul 3 O v λx=>K2 x h) (K2 O h)) (λM y=>∀_:Env,
 bB .gtr 3 M (i 64) λz=>cV z (fA 193 f 8 λW=>lA 3 W y λab=>K (.tuple #[ab,tt]) y) (bB .add 3 B (i 1) λZ=>eK hH (oa 141 E (some Z) (some q) none) λV=>
 cF 111 [V,M] y λI J=>xT I 0 λY=>xT I 1 λU=>cV U (K (.tuple #[Y,tt]) J) (G q J)))) (K (.tuple #[(i 0),ff]) a)) (λG=>G (i 0) w)
theorem aeq(B u:Value)(h:S111 w K B u):CR 111 [B,u] w K:=
 oe 53 (λ_=>.nil) 48 [.tmp 4,.tmp 5] Tryz.func111 h
theorem SY:PL 115:=dJ Tryz.func115
theorem SZ:PL 195:=dJ Tryz.func195
theorem ayh:PL 50:=dJ Tryz.func50
theorem arh:PL 54:=dJ Tryz.func54
theorem ari:PL 52:=dJ Tryz.func52
theorem ayi:PL 51:=dJ Tryz.func51
theorem ayj:PL 55:=dJ Tryz.func55
theorem HQ:PL 159:=dJ Tryz.func159
theorem S0:PL 110:=dJ Tryz.func110
theorem arj:PL 109:=dJ Tryz.func109
theorem ark:PL 189:=dJ Tryz.func189
theorem arl:PL 190:=dJ Tryz.func190
theorem ahz:PL 111:=dJ Tryz.func111
theorem arn:PL 191:=dJ Tryz.func191
theorem aro:PL 250:=dJ Tryz.func250
end Go.Proofs.YtpdlpabnlkofmaaGreatDoor
namespace Go.Fw
section
variable {α:Type}[Flat α] {P:Program}{w w0:World}{A:Nat->Prop}{L:List HP}
theorem MQ{T E O M R:Nat}{kn U:IntKind}{K:Value->hM}(Y:St w0 A L w)(ht:W6 P T E (nk α) O)(Z:P.underlying M=some (.int kn))(h1:1<=nk α)(n:Nat)(hn:0<n)(I:n<=1048576)(V:O<=8192)
  (k:∀b cap w',n<=cap->St w0 A (bF (.slice (some ⟨b,0,none⟩) 0 cap) ([]:List α)::L) w'->K (.slice (some ⟨b,0,none⟩) n cap) w'):qM P (Builtin.append_ #[T,M] R [.slice none 0 0,.int U (n:Int)].toArray) w K:=by
 obtain⟨hu,u,hi,ph,zq,B⟩:=ft ht
 obtain⟨z,hz,G⟩:∃z,u.zero=some z/\z.cells.size=nk α:=by
  cases h:u.zero with
  | none=>rw[h]at B;cases B
  | some z=>rw[h]at B;exact⟨z,rfl,by simpa using B⟩
 have J:n*u.bytes<=281474976710656:=by
  have:=Nat.mul_le_mul I (show u.bytes<=8192 by omega)
  omega
 have W:=Lib.run_append_nil_zeros (P:=P) w T M R E u z U kn hu Z hi hz n hn bL bL J
 have Ul:=grownCap_ge w n 0 E
 refine⟨_,_,W,k _ _ _ bL ?_⟩
 refine Y.drew.new (F:=(· = w.heap.size)) (Ext.alloc _ _) (.inr ⟨_,_,(Builtin.zeroCells z.cells n++Builtin.zeroCells z.cells (grownCap w n 0 E-n)).toList,rfl,?_,?_,λ_=>Iff.rfl⟩) λb hb=>CL hb.symm
 .exact⟨E,by rw[show flat ([]:List α)=[]from rfl,zS,Array.toArray_toList];exact mf _ _⟩
 refine⟨l2 _,CL (Eq.symm ?_)⟩
 show([]++_).length=_
 rw[zS,Array.length_toList,Array.size_append,size_zeroCells,size_zeroCells,G,<- Nat.add_mul]
 congr 1;omega
theorem MR{T E sz B R n c:Nat}{z:Option Nat}{a:Option Addr}{K:Value->Prop}(ht:eM P T=some (E,sz,B,z))(k:K (ir (c:Int))):eK P (Builtin.cap_ #[T] R [Value.slice a n c].toArray) K:=by
 obtain⟨u,_⟩:=ft ht
 refine⟨_,?_,k⟩
 unfold Builtin.cap_
 simp[cI,cJ u]
 rfl
theorem MS{T E sz u n c:Nat}{z:Option Nat}{a:Option Addr}{K:Value->Prop}(ht:eM P T=some (E,sz,u,z))(B:a.map (·.add (0*sz))=a)(k:K (.slice a 0 c)):eK P (oa T (.slice a n c) none (some (ir 0)) none) K:=by
 refine⟨_,wS ht (og (.inl ⟨rfl,rfl⟩) (.inr ⟨0,rfl,Int.le_refl _,rfl⟩) (sl _) (l2 _)),?_⟩
 grind
end
end Go.Fw
namespace Go.Proofs.YtpdlpabnlkofmaaGreatDoor
open Go.Fw
theorem xD{α:Type}{ls:List (List α)}{k:Nat}{l:List α}(h:ls[k]?=some l):(ls.take (k+1)).flatten=(ls.take k).flatten++l:=by
 rw[<- gg h];simp
def JR{α:Type}(ls:List (List α))(k:Nat):(ls.take k).flatten.length<=ls.flatten.length:=by
 conv=>rhs;rw[<- qT k ls,List.flatten_append,l0]
 omega
def ahA{α:Type}[Flat α](w:World):cZ (λ_=>True) w (.slice none 0 0) ([]:List α):=⟨none,0,rfl,l2 _,.inl ⟨rfl,rfl⟩⟩
def C250(n:Nat)(w:World)(I:n<=1048576):CR 250 [.slice none 0 0,ir (n:Int)] w (λv w'=>lf (bF v ([]:List cB)) w w'):=by
 have u:=St.start w;refine fb Tryz.func250 ?_;refine⟨λw'=>w'=w,aN (aC (λc=>absurd c bL) λ_=>rfl),?_⟩;rintro B E _;subst E;refine⟨λG w'=>St B aX [bF G ([]:List cB)] w',?_,?_⟩
 .refine MR fu (aI fu (ahA (α:=cB) B) (fc ee (fc (by simp;omega) (cL (aC (λc=>?_) λ_=>u.eU)))));refine MR fu (MS fu rfl ?_);have e:(n:Int)-(((0:Nat):Int)-(([]:List cB).length:Int))=(n:Int):=ee
  rw[e]at c |-;exact MQ (α:=cB) (kn:=.i64) u fu (by kernel_rfl) dy n bL I dy (λ_ _ _ _ u=>aI fu (ahA (α:=cB) B) (MS fu (by simp[Addr.add]) u))
 rintro v _ u _;exact u.fresh
def C191(lv:Value)(B:List (List cB))(w:World)(hL:awG w lv B)(hn:B.length<=1000)(hf:B.flatten.length<=100000):CR 191 [lv] w (λv w'=>lf (bF v B.flatten) w w'):=by
 obtain⟨I,U,hl,Y⟩:=hL;have u:=St.start w;refine fb Tryz.func191 ?_;refine aI LI (U.ext u.aF) ?_;refine⟨λm y x O=>∃k:Nat,y=ir ((B.take k).flatten.length:Int)/\x=ir (k:Int)/\m=I.length-k/\k<=I.length/\St w aX [] O,⟨_,0,rfl,rfl,rfl,l2 _,u⟩,?_⟩;rintro m _ _ O ⟨k,rfl,rfl,rfl,hk,u⟩ _;refine aN (aC (λc=>?_) λc=>?_)
 .obtain⟨s,J⟩:=gx I (i:=(k:Int).toNat) bL;obtain⟨t,M⟩:=gx B (i:=k) bL;have W:=Y k s t J M;have G:=JR B (k+1);have E:=xD M;rw[E,l0]at G;refine⟨λZ w'=>Z=ir ((B.take (k+1)).flatten.length:Int)/\St w aX [] w',aK LI U bL J (λ_ V=>aE iq (V.ext u.aF) (aI fu (W.ext u.aF) (aJ bL (aN (aC (λc=>absurd c bL) λ_=>⟨gL (n3 .i64) (by rw[E,l0];omega),u⟩))))),?_⟩;rintro _ _ ⟨rfl,u⟩ _;exact aJ bL ⟨_,bL,k+1,rfl,rfl,rfl,bL,u⟩
 have wj:B.take k=B:=la bL;rw[wj];refine dB aro u (C250 _ _ bL) (λx24 _ cE u=>aI LI (U.ext u.aF) ?_);refine⟨λm v x O=>∃k:Nat,x=ir (k:Int)/\m=I.length-k/\k<=I.length/\St w aX [bF v ((B.take k).flatten)] O,⟨_,0,rfl,rfl,l2 _,u⟩,?_⟩;rintro m v _ _ ⟨k,rfl,rfl,hk,u⟩ _;refine aN (aC (λc=>?_) λc=>?_)
 .obtain⟨s,J⟩:=gx I (i:=(k:Int).toNat) bL;obtain⟨t,M⟩:=gx B (i:=k) bL;have W:=Y k s t J M;have G:=JR B (k+1);have E:=xD M;rw[E,l0]at G;exact aK LI U bL J (λ_ V=>aE iq (V.ext u.aF) (bJ u fu (W.ext u.aF) bL dy λ_ _ u=>aJ bL ⟨_,bL,k+1,rfl,rfl,bL,by rw[E];exact u⟩))
 rw[show B.take k=B from la bL]at u;exact u.fresh
def aj4{w:World}{a b:SV}{x y:List cB}(h1:cZ (λ_=>True) w (jr a) x)(h2:cZ (λ_=>True) w (jr b) y):∀(i:Nat) (s:SV) (t:List cB),[a,b][i]?=some s->[x,y][i]?=some t->cZ (λ_=>True) w (jr s) t:=by
 grind
def C110(p:cR)(pv:bP)(B E:List cB)(w:World)(M:n5 w pv p)(h3:cZ (λ_=>True) w (jr pv.threads) B)(h4:cZ (λ_=>True) w (jr pv.recover) E)(V:B.length<=500)(U:E.length<=500):CR 110 [jr pv] w (λv w'=>lf (bF v (B++E)) w w'):=by
 obtain⟨bI,bR,bK,J,O,W,rfl,cN,dD,Z,bY,bZ,Y⟩:=M;have u:=St.start w;refine fb Tryz.func110 ?_;refine cP u (λkj _ u=>aA kD (aB iq u.hb rfl (aA oI (aB iq u.hb rfl (bD ([J,O]) u LI rfl rfl (dQ rfl) λI _ u=>dB arn u (C191 _ [B,E] _ ⟨_,u.dS,rfl,aj4 (h3.ext u.aF) (h4.ext u.aF)⟩ ee (by simp;omega)) λx8 _ cE u=>?_)))));have G:=u.p1.drop.p1.drop;rw[show [B,E].flatten=B++E from ee]at G;exact G.fresh
def aj5(p:cR):(decide (4<(p.lines.length:Int))||p.lines.any (λl=>decide (4<(l.length:Int)))||decide (4<(p.iP.length:Int))||decide (2<(p.eE.length:Int))||decide ((p.threads.length:Int)=0)||decide (3<(p.threads.length:Int))||(gl p).any (λt=>decide (4<(t.dO.length:Int)))||decide (4<(p.dV.length:Int)))=uW p:=by
 unfold uW
 grind
def S1{p:cR}(h:∀l∈p.lines,l.length<=500)(u:p.lines.length<=500)(k:Nat):(p.lines.take k).flatten.length<=250000:=by
 have h1:=JR p.lines k
 have h2:=cX h
 omega
def C159(B:Value)(ns:List ByteArray)(s:ByteArray)(w:World)(E:cZ (λ_=>True) w B ns)(G:ns.length<=1048576):CR 159 [B,.string s] w (λv w'=>v=ir (cU ns s)/\Ext w w'):=by
 have u:=St.start w;refine fb Tryz.func159 ?_;exact aV X9 u (C225 _ _ _ _ (E.ext u.aF) bL) (λ_ _ u=>⟨rfl,u.aF⟩)
def C54(p:cR)(pv:bP)(w:World)(hp:n5 w pv p)(G:PZ p):CR 54 [jr pv] w (λv w'=>v=ir (eL p)/\Ext w w'):=by
 obtain⟨bI,bR,bK,aT,aU,bG,rfl,cN,dD,cW,bY,bZ,cM⟩:=hp;have u:=St.start w;refine fb Tryz.func54 ?_;refine cP u (λkj w1 u=>aA gw (aB oH u.hb rfl ?_));obtain⟨O,E,B⟩:=cN.open;have Z:=B.1;refine aI pG (E.ext u.aF) ?_;refine⟨λm y x w1=>∃k:Nat,y=ir (((p.lines.take k).flatten.length:Nat):Int)/\x=ir (k:Int)/\m=p.lines.length-k/\k<=p.lines.length/\St w aX [bX kj (kp (⟨bI,bR,bK,aT,aU,bG⟩:bP))] w1,⟨_,0,rfl,rfl,rfl,bL,u⟩,?_⟩
 rintro m _ _ _ ⟨k,rfl,rfl,rfl,hk,u⟩ _;have Zf:=S1 G.line G.lines k;have U:=S1 G.line G.lines (k+1);have hzl:=G.lines;refine aN (aC (λfZ=>?_) λfZ=>?_)
 .obtain⟨HF,Y⟩:=gx O (i:=(k:Int).toNat) bL;obtain⟨W,V⟩:=gx p.lines (i:=(k:Int).toNat) bL;have M:DL w (jr HF) W:=B.2 _ _ _ Y V;refine aK pG E bL Y (λ_ E4=>?_);have I:=xD (k:=k) V;rw[I,l0]at U;refine aE jD (E4.ext u.aF) ?_;have J:=DL.flat M;exact aI ic (J.ext u.aF) (aJ bL (aJ bL ⟨_,bL,k+1,gL (n3 .i64) (by rw[xD (k:=k) V,l0];omega),rfl,rfl,bL,u⟩))
 rw[la bL];exact⟨rfl,u.drop.aF⟩
def C51(p:cR)(pv:bP)(w:World)(hp:n5 w pv p)(hz:PZ p):CR 51 [jr pv] w (λv w'=>lf (bF v (cH p)) w w'):=by
 obtain⟨Z,bR,V,Y,aU,O,rfl,cN,dD,U,bY,bZ,cM⟩:=hp;have u:=St.start w;refine fb Tryz.func51 ?_;refine cP u (λkj I u=>aA nO (aB jD u.hb rfl ?_));have B:=DL.flat U;refine aI ic (B.ext u.aF) ?_;refine⟨λm y x I=>∃k:Nat,x=ir (k:Int)/\m=p.eE.length-k/\k<=p.eE.length/\St w aX [bF y ((p.eE.take k).map cC.name),bX kj (kp (⟨Z,bR,V,Y,aU,O⟩:bP))] I,⟨_,0,rfl,rfl,bL,u.eU (α:=ByteArray)⟩,?_⟩;rintro m jX _ _ ⟨k,rfl,rfl,hk,u⟩ _
 have Hs:((p.eE.take k).map cC.name).length=k:=by rw[mW,l9];omega
 have W:=hz.eE;refine aN (aC (λfZ=>?_) λfZ=>?_)
 .obtain⟨E,G⟩:=gx p.eE (i:=(k:Int).toNat) bL;refine aK ic B bL G (λ_ E4=>aE lZ (E4.ext u.aF) (aQ u oL λM _ u=>aM (x:=E) u lZ rfl rfl λ_ u=>aA kJ (aB (v:=.string E.name) gv u.hb rfl (bD ([E.name]) u iu rfl rfl (dQ rfl) λJ _ u=>?_))));have EY:=u.dS;exact bJ u.p2 iu EY (by simp<;>omega) dy (λ_ _ u=>have u:=u.p1.drop;aJ bL (have u:=u.p1.drop.p1.p1;⟨_,bL,k+1,rfl,rfl,bL,by rw[<- fV (k:=k) G];exact u⟩))
 have u:=u.p1.drop;rw[la bL]at u;exact u.fresh
def C189(lv:Value)(xs:List cC)(w:World)(B:cZ (λ_=>True) w lv xs)(E:xs.length<=1048576):CR 189 [lv] w (λv w'=>v=.bool (decide (4<(xs.length:Int)))/\Ext w w'):=by
 have u:=St.start w;refine fb Tryz.func189 ?_;exact aI ic (B.ext u.aF) (cL ⟨rfl,u.aF⟩)
def C190(t:cK)(E:cB)(w:World)(ht:n5 w E t)(J:t.dO.length<=500):CR 190 [jr E] w (λv w'=>v=.bool (decide (4<(t.dO.length:Int)))/\Ext w w'):=by
 obtain⟨M,I,rfl,G,O⟩:=ht;have u:=St.start w;refine fb Tryz.func190 ?_;refine cP u (λU _ u=>aA fS (aB je u.hb rfl ?_));have B:=DL.flat G;exact aI iu (B.ext u.aF) (cL ⟨rfl,u.drop.aF⟩)
def C109(p:cR)(pv:bP)(w:World)(E:n5 w pv p)(B:PZ p):CR 109 [jr pv] w (λv w'=>v=.bool (uW p)/\Ext w w'):=by
 obtain⟨bI,bR,bK,aT,aU,bG,rfl,M,dD,cW,O,bZ,cM⟩:=E;have u:=St.start w;refine aep _ _ _ ?_;unfold S109;refine cP u (λkj I u=>?_);have XP:=B.lines;have hz2:=B.iP;have hz3:=B.eE;have hz4:=B.threads;have hz5:=B.dV;obtain⟨vF,Zd,Ze⟩:=O.open;obtain⟨yW,Qd,G⟩:=bZ.open;have hn3:=Ze.1;have hn4:=G.1;have ajJ:=DV B.toPS;refine aA kD (aB iq u.hb rfl ?_);obtain⟨ts19,U,ayo⟩:=O.open;have hn19:=ayo.1;refine aI fu (U.ext u.aF) ⟨λjv w'=>jv=.bool (decide (4<(p.lines.length:Int))||p.lines.any (λl=>decide (4<(l.length:Int)))||decide (4<(p.iP.length:Int))||decide (2<(p.eE.length:Int))||decide ((p.threads.length:Int)=0)||decide (3<(p.threads.length:Int))||(gl p).any (λt=>decide (4<(t.dO.length:Int)))||decide (4<(p.dV.length:Int)))/\St w aX [bX kj (kp (⟨bI,bR,bK,aT,aU,bG⟩:bP))] w',?_,?_⟩
 .refine aA gw (aB oH u.hb rfl ?_);obtain⟨aqk,UM,Y⟩:=M.open;have aw9:=Y.1;refine aI pG (UM.ext u.aF) (cL (aC (λ_=>⟨vb cD,u⟩) λlg=>aA gw (aB oH u.hb rfl (aV ahl u (C186 _ _ _ (λl=>l.length<=1048576) _ _ (M.ext u.aF) ⟨189,[],[],rfl,ark,λ_ y I _ hd E=>C189 _ y I (DL.flat hd) E⟩ (λl hl=>by have:=B.line l hl;omega) (by have:=B.lines;omega)) λ_ he u=>aW (λ_=>⟨vb cD,u⟩) λj7=>aA pY (aB jD u.hb rfl ?_)))));have V:=DL.flat dD;refine aI ic (V.ext u.aF) (cL (aC (λ_=>⟨vb cD,u⟩) λm8=>aA nO (aB jD u.hb rfl ?_)))
  have W:=DL.flat cW;refine aI ic (W.ext u.aF) (cL (aC (λ_=>⟨vb cD,u⟩) λahs=>aG (aC (λ_=>⟨vb cD,u⟩) λsD=>cL (aC (λ_=>⟨vb cD,u⟩) λoT=>aE fp u.At (dR S0 (C110 p _ vF yW _ ⟨bI,bR,bK,aT,aU,bG,rfl,(M.ext u.aF),(dD.ext u.aF),(cW.ext u.aF),(O.ext u.aF),(bZ.ext u.aF),(cM.ext u.aF)⟩ (Zd.ext u.aF) (Qd.ext u.aF) (by have:=B.threads;omega) (by have:=B.recover;omega)) ?_)))));rintro x41 _ cE;have u:=u.made cE;have J:DL _ _ (gl p):=DL.of u.dS ((Ze.append G).ext u.aF)
  refine aV YB u (C187 _ _ _ (λt=>t.dO.length<=500) _ _ J ⟨190,[],[],rfl,arl,λsv y I _ hd E=>C190 y sv I hd E⟩ (λ_ ht=>(B.rF ht).2.1) bL) (λ_ he u=>aW (λ_=>have u:=u.drop;⟨vb cD,u⟩) λwe=>aA jn (aB qN u.p1.hb rfl ?_));obtain⟨ts23,ayq,Z⟩:=cM.open;have hn23:=Z.1;exact aI tf (ayq.ext u.aF) (cL (have u:=u.drop;⟨vb cD,u⟩))
 rintro _ _ ⟨rfl,u⟩ _;exact⟨vb (aj5 p),u.drop.aF⟩
theorem vH(x:bM)(a b r:Bk)(n:Int):mC (.cons x a b r) n=(decide (64<qX x n)||(mC a (qX x n)||mC b (qX x n))||mC r n):=rfl
def aes{xs:List bM}{k:Nat}{x:bM}{a b r:Bk}(h:xs.drop k=(Bk.cons x a b r).flat)(u:(Bk.cons x a b r).str){hi lo:Int}(h1:hi=k+1+x.body+x.ep)(h2:lo=k+1):(xs.take hi.toNat).drop lo.toNat=(a.app b).flat:=by
 have B:=u
 obtain⟨E,G,_⟩:=B
 have e:=Bk.wP u (hi:=1+x.body+x.ep) (lo:=1) rfl rfl
 rw[<- e,<- h,List.take_drop,u3]
 grind
def Zg{xs:List bM}{k:Nat}{x:bM}{a b r:Bk}(h:xs.drop k=(Bk.cons x a b r).flat)(u:(Bk.cons x a b r).str):xs.drop (k+1+a.len+b.len)=r.flat:=by
 have B:=u
 obtain⟨E,G,_⟩:=B
 rw[<- Bk.ajs u (hi:=1+x.body+x.ep) rfl,<- h,u3]
 grind
def Zh{α:Type}{xs l:List α}{k:Nat}{x:α}(h:xs.drop k=x::l):xs[k]?=some x:=by
 have:=gL (λl=>l[0]?) h
 grind
theorem C111(lv:Value)(t:Bk)(n:Int)(N:Nat)(w:World)(hL:DL w lv t.flat)(ie:t.str)(hq:∀x∈t.flat,0<=x.at_/\(x.kind=12->1<=x.n/\x.n<=8))(hn:1<=n/\n<=64)(hl:t.len<=1048576)(hN:t.len<N):CR 111 [lv,ir n] w (λv w'=>∃a:Int,v=.tuple #[ir a,.bool (mC t n)]/\Ext w w'):=by
 have td:=t.cX;have B:=St.start w;refine aeq _ _ _ _ ?_;unfold S111;refine⟨λm y w1=>∃(k:Nat) (u:Bk),y=ir (k:Int)/\m=t.len-k/\t.flat.drop k=u.flat/\k+u.len=t.len/\u.str/\(∀x∈u.flat,0<=x.at_/\(x.kind=12->1<=x.n/\x.n<=8))/\mC t n=mC u n/\St w aX [] w1,⟨_,0,t,rfl,rfl,rfl,bL,ie,hq,rfl,B⟩,?_⟩;rintro m _ w1 ⟨k,u,rfl,rfl,US,M,J,I,G,B⟩ _;obtain⟨ajy,W,UQ⟩:=hL.open;have axe:=UQ.1;refine aI fk (W.ext B.aF) (aN (aC (λjk=>?_) λjk=>?_))
 .obtain⟨x,a,b,r,rfl⟩:=Bk.DW (t:=u) (by rw[Bk.cX];omega);obtain⟨qx,gR⟩:=gx ajy (i:=(k:Int).toNat) bL;obtain⟨E,E5⟩:=gx t.flat (i:=(k:Int).toNat) bL;obtain⟨qg,qh,rfl,adt,adu⟩:=UQ.2 _ _ _ gR E5;refine aK fk W bL gR (λ_ si=>?_);obtain rfl:E=x:=ob.inj (E5.symm.trans (Zh US));have O:=I E (by simp[Bk.flat]);have ayt:=J;obtain⟨uZ,DY,JI,hg4,Z,Y,hgr⟩:=ayt;have GJ:k+(a.len+b.len+r.len+1)=t.len:=M;have hla:=a.cX;have Jy:=b.cX;have UO:=r.cX;have tA:=aes US J (hi:=(k:Int)+1+E.body+E.ep) (lo:=(k:Int)+1) rfl rfl
  have ayu:=Zg US J;refine aE eD (si.ext B.aF) (aQ B iN λxr _ B=>have B:=B.enc (cs':=kp (⟨0,(j0 #[]),(j0 #[]),cG,cG,0,0,0,0⟩:aZ)) rfl;aM (x:=(⟨E.kind,E.ey,E.name,qg,qh,E.n,E.body,E.ep,E.at_⟩:aZ)) B eD rfl rfl λ_ B=>aJ bL (aA iW (aB (v:=ir E.body) bO B.hb rfl (aJ bL (aA iD (aB (v:=ir E.ep) bO B.hb rfl (aJ bL ⟨λjv w'=>∃m:Int,jv=ir m/\m=qX E n/\St w aX [bX xr (kp (⟨E.kind,E.ey,E.name,qg,qh,E.n,E.body,E.ep,E.at_⟩:aZ))] w',aA dN (aB (v:=ir E.kind) bO B.hb rfl (aG (aC (λl8=>aA jH (aB (v:=ir E.n) bO B.hb rfl (DG (by have UP:=O.2 l8;have h1:=KH (a:=1) (b:=1) hn.1 UP.1 bL bL;have h2:=KH (c:=64) (d:=8) hn.2 UP.2 bL bL;omega) ⟨_,rfl,by grind[qX],B⟩))) λ_=>⟨_,rfl,by grind[qX],B⟩))),?_⟩)))))))
  rintro _ _ ⟨m,rfl,U,B⟩ _;have hm8:=YF hn O.2 U;refine cL (aC (λoT=>?_) λoT=>?_)
  .refine aA jI (aB (v:=ir E.at_) bO B.hb rfl ?_);refine⟨E.at_,?_,B.drop.aF⟩;rw[G,vH,<- U,ew (show(64:Int)<m by omega)];rfl
  refine aJ bL (oq fk (W.ext B.aF) bL bL bL λarw Qk=>?_);have JS:=DL.cut Qk W UQ;refine dR ahz (C111 _ (a.app b) m (N-1) _ (by have h:=(JS.ext B.aF);rw[tA]at h;exact h) (Bk.SD Z Y) (λy V=>I y (by rw[Bk.A4]at V;simp only[Bk.flat,s4,pd];rcases pd.1 V with h|h<;>simp[h])) bL (by rw[DX];omega) (by rw[DX];omega)) ?_;rintro _ _ ⟨a1,rfl,he⟩;have B:=B.ext he;rw[HN];refine aO rfl (aO rfl (aW (λse=>?_) λse=>⟨_,bL,k+1+a.len+b.len,r,gL (n3 .i64) bL,rfl,ayu,bL,hgr,(λy V=>I y (by simp[Bk.flat,V])),by rw[G,vH,<- U,ez (show ¬ (64:Int)<m by omega),se];rfl,B.drop⟩))
  refine⟨a1,?_,B.drop.aF⟩;rw[G,vH,<- U,se];simp
 cases u with
 | nil=>exact⟨_,by rw[G];rfl,B.aF⟩
 | cons x a b r=>exact absurd M (by show ¬ k+(a.len+b.len+r.len+1)=_;omega)
termination_by N
decreasing_by all_goals omega
def Ql:Int->List (List cC)->List (cC×Int)
 | _,[]=>[]
 | k,l::r=>l.map (λc=>(c,k))++Ql (k+1) r
def OB:Int->List cC->List (cC×Int)
 | _,[]=>[]
 | k,c::r=>(c,k)::OB (k+1) r
def uf(p:cR):List (cC×Int):=Ql 0 p.lines++OB p.lines.length p.iP
theorem JT:∀(ls:List (List cC)) (k:Int),(Ql k ls).length=ls.flatten.length
 | [],_=>rfl
 | l::r,k=>by simp[Ql,JT r]
theorem aet:∀(vs:List cC) (k:Int),(OB k vs).length=vs.length
 | [],_=>rfl
 | c::r,k=>by simp[OB,aet r]
theorem JU:∀(ls:List (List cC)) (k:Int),(Ql k ls).map XC=ls.flatten
 | [],_=>rfl
 | l::r,k=>by simp[Ql,JU r,Function.comp_def]
theorem JV:∀(vs:List cC) (k:Int),(OB k vs).map XC=vs
 | [],_=>rfl
 | c::r,k=>by simp[OB,JV r]
theorem Zi{l:List cC}{c:cC}{j:Nat}(u:l[j]?=some c):∀(ls:List (List cC)) (k:Int) (i:Nat),ls[i]?=some l->(Ql k ls)[(ls.take i).flatten.length+j]?=some (c,k+i)
 | [],_,_,h=>by simp at h
 | a::r,k,0,h=>by
  grind[Ql]
 | a::r,k,i+1,h=>by
  have B:=Zi u r (k+1) i cD
  grind[Ql]
theorem Zj:∀(vs:List cC) (k:Int) (j:Nat) (c:cC),vs[j]?=some c->(OB k vs)[j]?=some (c,k+j)
 | [],_,_,_,h=>by simp at h
 | a::r,k,0,c,h=>by simp at h;subst h;simp[OB]
 | a::r,k,j+1,c,h=>by
  have u:=Zj r (k+1) j c cD
  grind[OB]
theorem Bf(p:cR):(uf p).map XC=iJ p:=by unfold uf iJ;rw[vG,JU,JV]
theorem u5(p:cR):(uf p).length=(iJ p).length:=by rw[<- Bf,mW]
def UT{p:cR}{l:List cC}{c:cC}{i j:Nat}(u:p.lines[i]?=some l)(B:l[j]?=some c):(uf p)[(p.lines.take i).flatten.length+j]?=some (c,(i:Int)):=by
 have h:=Zi B p.lines 0 i u
 unfold uf
 grind
def Zk{p:cR}{c:cC}{j:Nat}(u:p.iP[j]?=some c):(uf p)[p.lines.flatten.length+j]?=some (c,(p.lines.length:Int)+j):=by
 unfold uf
 rw[ta (by rw[JT];omega),JT,I8,Zj _ _ _ _ u]
def C195(y:Value)(b:Nat)(g0 g1:SV)(p:cR)(J:Nat->hM)(Jx:hM)(w0 w:World)(hz:PS p)(hL:DL w0 (jr g0) p.lines)(hV:cZ (λ_=>True) w0 (jr g1) p.iP)
  (M:∀k W,J k W->Cell W b 0 (jr g0)/\Cell W b 1 (jr g1)/\Ext w0 W) (Zl:∀k W G,J k W->Ext W G->J k G) (h0:J 0 w)
  (hy:∀k c i W,(uf p)[k]?=some (c,i)->J k W->kG hH y [jr c,ir i] W λv G=>(v=.bool true/\J (k+1) G)\/(v=.bool false/\Jx G)) :
  CR 195 [y,.pointer (some ⟨b,0,none⟩)] w (λ_ W=>J (uf p).length W\/Jx W):=by
 obtain⟨ts,hR,hD⟩:=hL.open;have hn:=hD.1;have hzl:=hz.lines;have hzv:=hz.iP;refine fb Tryz.func195 ?_;obtain⟨Z,te,he0⟩:=M 0 w h0;refine aA gw (bE oH Z (aI pG (hR.ext he0) ?_));refine⟨λm x E=>∃i:Nat,x=ir (i:Int)/\m=p.lines.length-i/\i<=p.lines.length/\J ((p.lines.take i).flatten.length) E,⟨_,0,rfl,rfl,l2 _,h0⟩,?_⟩;rintro m _ E ⟨i,rfl,rfl,hi,B⟩ _;refine aN (aC (λc=>?_) λc=>?_)
 .obtain⟨l,Y⟩:=gx p.lines (i:=i) bL;obtain⟨t,ht⟩:=gx ts (i:=((i:Nat):Int).toNat) bL;have hdt:DL w0 (jr t) l:=hD.2 _ _ _ ht Y;have I:=DL.flat hdt;have HC:=hz.line l (kO Y);have V:=(M _ _ B).2.2;refine aK pG hR bL ht (λq O=>aE jD (O.ext V) (aI ic (I.ext V) ?_));refine⟨λm x E=>∃j:Nat,x=ir (j:Int)/\m=l.length-j/\j<=l.length/\J ((p.lines.take i).flatten.length+j) E,⟨_,0,rfl,rfl,l2 _,B⟩,?_⟩;rintro m _ w2 ⟨j,rfl,rfl,CO,B⟩ _;refine aN (aC (λc=>?_) λ_=>aJ bL ⟨_,bL,i+1,rfl,rfl,bL,by rw[xD Y,l0,show l.length=j from bL];exact B⟩)
  obtain⟨x,U⟩:=gx l (i:=((j:Nat):Int).toNat) bL;have e2:=(M _ _ B).2.2;have u:=St.start w2;refine aK ic I bL U (λq O=>aE lZ (O.ext e2) (aQ u oL λb6 _ u=>aM (x:=x) u lZ rfl rfl λw4 u=>aE lZ u.At ?_));refine kG.mono (hy _ x i w4 (UT Y U) (Zl _ _ _ B u.aF)) ?_;rintro v w5 (⟨rfl,Cm⟩|⟨rfl,HT⟩)
  .exact bN (eR (aJ bL ⟨_,bL,j+1,rfl,rfl,bL,Cm⟩))
  exact bN (gO (.inr HT))
 rw[show p.lines.take i=p.lines from la bL]at B;obtain⟨Z,te,V⟩:=M _ _ B;refine aA pY (bE jD te (aI ic (hV.ext V) ?_));refine⟨λm x E=>∃j:Nat,x=ir (j:Int)/\m=p.iP.length-j/\j<=p.iP.length/\J (p.lines.flatten.length+j) E,⟨_,0,rfl,rfl,l2 _,B⟩,?_⟩;rintro m _ w6 ⟨j,rfl,rfl,CO,B⟩ _;refine aN (aC (λc=>?_) λc=>?_)
 .obtain⟨x,U⟩:=gx p.iP (i:=((j:Nat):Int).toNat) bL;obtain⟨Z,te,e2⟩:=M _ _ B;have u:=St.start w6;refine aK ic hV bL U (λq O=>aE lZ (O.ext e2) (aQ u oL λb8 _ u=>aM (x:=x) u lZ rfl rfl λw8 u=>aE lZ u.At (aA gw (bE oH (Z.ext u.aF) (aI pG (hR.ext (e2.trans u.aF)) (aJ bL ?_))))));rw[hn];refine kG.mono (hy _ x _ w8 (Zk U) (Zl _ _ _ B u.aF)) ?_;rintro v w9 (⟨rfl,Cm⟩|⟨rfl,HT⟩)
  .exact bN (eR (aJ bL ⟨_,bL,j+1,rfl,rfl,bL,Cm⟩))
  exact bN (gO (.inr HT))
 refine .inl ?_;rw[u5]
 grind[iJ]
def C115(pv:bP)(w:World):CR 115 [jr pv] w (λv w'=>∃b,v=.func (.func 195) [].toArray [.pointer (some ⟨b,0,none⟩)].toArray/\lf (bX b (kp pv)) w w'):=by
 have u:=St.start w;refine fb Tryz.func115 ?_;exact cP u (λb _ u=>⟨b,rfl,u.fresh⟩)
def C50(p:cR)(pv:bP)(w:World)(hp:n5 w pv p)(hz:PZ p):CR 50 [jr pv] w (λv w'=>lf (bF v (cT p)) w w'):=by
 have hac:=kP hz.toPS;have ph:(uf p).length=(iJ p).length:=u5 p;obtain⟨I,V,bK,aT,aU,Z,rfl,cN,dD,cW,bY,bZ,cM⟩:=hp;have u:=St.start w;refine fb Tryz.func50 ?_;refine cP u (λbp _ u=>gV u aiP rfl λb3 _ u=>aE fp u.p1.At (dR SY (C115 _ _) ?_));rintro _ _ ⟨b,rfl,cE⟩;have u:=(u.made cE).eU (α:=ByteArray)
 refine xe (cap:=[.pointer (some ⟨b,0,none⟩)]) (xs:=(uf p).map λq=>[jr q.1,ir q.2]) SZ u
  (λk M=>∃G,M=[bF G (((iJ p).take k).map cC.name),bX b (kp (⟨I,V,bK,aT,aU,Z⟩:bP)),bX b3 [G],bX bp (kp (⟨I,V,bK,aT,aU,Z⟩:bP))]) (λ_ _=>False) ⟨_,rfl⟩ (by intro x U;obtain⟨q,_,rfl⟩:=o1.1 U;rfl) ?_ ?_ ?_ ?_ ?_ ?_
 .intro y J Jx W hJ Zl Ur hy;refine(C195 y b I V p J Jx w W hz.toPS cN (DL.flat dD) (λk W E=>?_) Zl Ur λk c i W U E=>hy k [jr c,ir i] W (by rw[o6,U];rfl) E).mono λ_ _ r=>r.mono λv W' h=>?_
  .obtain⟨Y,M,⟨G,rfl⟩,O⟩:=hJ k W E;exact⟨O.p2.hb.cell rfl,O.p2.hb.cell rfl,O.aF⟩
  simpa using h
 .rintro k args Y1 Y2 B Kr M W E ⟨G,rfl⟩ hB hN hR u;rw[o6]at E;obtain⟨q,hq,rfl⟩:=J3.1 E;have nw:=(kE.1 hq).1;have hc:(iJ p)[k]?=some q.1:=by rw[<- Bf,o6,hq];rfl
  have Hs:(((iJ p).take k).map cC.name).length=k:=by rw[mW,l9];omega
  dsimp only[Eo];refine aQ u oL (λb4 _ u=>aM (x:=q.1) u lZ rfl rfl λ_ u=>?_);refine hB _ _ _ u.p1 (λ_ u=>?_);refine aB je u.p4.hb rfl (aA kJ (aB (v:=.string q.1.name) gv u.p1.hb rfl (bD ([cC.name q.1]) u iu rfl rfl (dQ rfl) λs8 _ u=>?_)));have hr:=u.dS;refine bJ u.p3 iu hr (by rw[Hs,nh];omega) dy (λs9 _ u=>aR u.p5 je (dQ rfl) (JG u.dS) λ_ u=>?_);refine hN _ _ ?_ ⟨s9,rfl⟩;rw[<- fV (k:=k) hc];exact u.p2.drop.p3.drop.p3.p2.p3
 .rintro D M W ⟨G,rfl⟩ u;refine aB je u.p3.hb rfl ?_;refine EI u (λ_ u=>?_);rw[mW,ph,abt]at u;exact u.p1.drop.p1.drop.p1.drop.fresh
 .rintro D M W h;exact h.elim
 .rintro id D M W h;exact h.elim
 rintro c M h;exact h.elim
def C55(p:cR)(pv:bP)(w:World)(hp:n5 w pv p)(hz:PZ p):CR 55 [jr pv] w (λv w'=>lf (bF v (fB p)) w w'):=by
 have hac:=kP hz.toPS;have ph:(uf p).length=(iJ p).length:=u5 p;obtain⟨I,V,bK,aT,aU,Z,rfl,cN,dD,cW,bY,bZ,cM⟩:=hp;have u:=St.start w;refine fb Tryz.func55 ?_;refine cP u (λbp _ u=>gV u aiO rfl λb3 _ u=>aE fp u.p1.At (dR SY (C115 _ _) ?_));rintro _ _ ⟨b,rfl,cE⟩;have u:=(u.made cE).eU (α:=Int)
 refine xe (cap:=[.pointer (some ⟨b,0,none⟩)]) (xs:=(uf p).map λq=>[jr q.1,ir q.2]) SZ u
  (λk M=>∃G,M=[bF G (((iJ p).take k).map cC.n),bX b (kp (⟨I,V,bK,aT,aU,Z⟩:bP)),bX b3 [G],bX bp (kp (⟨I,V,bK,aT,aU,Z⟩:bP))]) (λ_ _=>False) ⟨_,rfl⟩ (by intro x U;obtain⟨q,_,rfl⟩:=o1.1 U;rfl) ?_ ?_ ?_ ?_ ?_ ?_
 .intro y J Jx W hJ Zl Ur hy;refine(C195 y b I V p J Jx w W hz.toPS cN (DL.flat dD) (λk W E=>?_) Zl Ur λk c i W U E=>hy k [jr c,ir i] W (by rw[o6,U];rfl) E).mono λ_ _ r=>r.mono λv W' h=>?_
  .obtain⟨Y,M,⟨G,rfl⟩,O⟩:=hJ k W E;exact⟨O.p2.hb.cell rfl,O.p2.hb.cell rfl,O.aF⟩
  simpa using h
 .rintro k args Y1 Y2 B Kr M W E ⟨G,rfl⟩ hB hN hR u;rw[o6]at E;obtain⟨q,hq,rfl⟩:=J3.1 E;have nw:=(kE.1 hq).1;have hc:(iJ p)[k]?=some q.1:=by rw[<- Bf,o6,hq];rfl
  have Hs:(((iJ p).take k).map cC.n).length=k:=by rw[mW,l9];omega
  dsimp only[Eo];refine aQ u oL (λb4 _ u=>aM (x:=q.1) u lZ rfl rfl λ_ u=>?_);refine hB _ _ _ u.p1 (λ_ u=>?_);refine aB dX u.p4.hb rfl (aA rV (aB (v:=ir q.1.n) bO u.p1.hb rfl (bD ([cC.n q.1]) u cQ rfl rfl (dQ rfl) λs8 _ u=>?_)));have hr:=u.dS;refine bJ u.p3 cQ hr (by rw[Hs,nh];omega) dy (λs9 _ u=>aR u.p5 dX (dQ rfl) (JG u.dS) λ_ u=>?_);refine hN _ _ ?_ ⟨s9,rfl⟩;rw[<- fV (k:=k) hc];exact u.p2.drop.p3.drop.p3.p2.p3
 .rintro D M W ⟨G,rfl⟩ u;refine aB dX u.p3.hb rfl ?_;refine EI u (λ_ u=>?_);rw[mW,ph,abt]at u;exact u.p1.drop.p1.drop.p1.drop.fresh
 .rintro D M W h;exact h.elim
 .rintro id D M W h;exact h.elim
 rintro c M h;exact h.elim
theorem S2:∀(vs:List cC) (k:Int) (j:Nat) (q:cC×Int),(OB k vs)[j]?=some q->q.2=k+j
 | [],_,_,_,h=>by simp[OB]at h
 | c::r,k,0,q,h=>by simp[OB]at h;grind
 | c::r,k,j+1,q,h=>by
  have:=S2 r (k+1) j q (by simpa[OB]using h)
  omega
theorem MT(vs:List cC):∀(ls:List (List cC)) (i:Int) (a:Nat) (q:cC×Int),(Ql i ls++OB (i+ls.length) vs)[a]?=some q->jl ls i a=q.2
 | [],i,a,q,h=>by
  have:=S2 vs (i+0) a q (by simpa[Ql]using h)
  unfold jl;omega
 | l::r,i,a,q,h=>by
  unfold jl
  by_cases u:a<l.length
  .rw[ej bL]
   rw[Ql,n4,uc cD,o6]at h
   grind
  .rw[ei bL]
   rw[Ql,n4,ta (by simp;omega),mW]at h
   have e:(i+((l::r).length:Nat):Int)=i+1+(r.length:Nat):=cD
   rw[e]at h
   have:=MT vs r (i+1) (a-l.length) q h
   grind
theorem Zm{p:cR}{k:Nat}{q:cC×Int}(h:(uf p)[k]?=some q):pw p k=q.2:=by
 have u:=(kE.1 h).1
 rw[u5]at u
 unfold pw
 rw[ei bL]
 exact MT p.iP p.lines 0 k q (by unfold uf at h;grind)
def C52(p:cR)(pv:bP)(c:Int)(w:World)(hp:n5 w pv p)(hz:PZ p):CR 52 [jr pv,ir c] w (λv w'=>v=ir (pw p c)/\Ext w w'):=by
 have hac:=kP hz.toPS;have ph:(uf p).length=(iJ p).length:=u5 p;obtain⟨O,Z,bK,aT,aU,bG,rfl,cN,dD,cW,bY,bZ,cM⟩:=hp;have u:=St.start w;refine fb Tryz.func52 ?_;refine cP u (λbp _ u=>nx u rfl λb3 _ u=>gV u tB rfl λb4 _ u=>gV u tB rfl λb5 _ u=>aR u bO (dQ rfl) rfl λ_ u=>aE fp u.p3.At (dR SY (C115 _ _) ?_));rintro _ _ ⟨b,rfl,cE⟩;have u:=u.made cE
 refine xe (cap:=[.pointer (some ⟨b,0,none⟩)]) (xs:=(uf p).map λq=>[jr q.1,ir q.2]) SZ u
  (λk M=>(∀j:Nat,j<k->¬ (j:Int)=c)/\M=[bX b (kp (⟨O,Z,bK,aT,aU,bG⟩:bP)),bX b5 [ir (k:Int)],bX b4 [ir 0],bX b3 [ir c],bX bp (kp (⟨O,Z,bK,aT,aU,bG⟩:bP))])
  (λcd M=>cd=.ret/\M=[bX b4 [ir (pw p c)]]) ⟨bL,rfl⟩ (by intro x V;obtain⟨q,_,rfl⟩:=o1.1 V;rfl) ?_ ?_ ?_ ?_ ?_ ?_
 .intro y J Jx W hJ Zl Ur hy;refine(C195 y b O Z p J Jx w W hz.toPS cN (DL.flat dD) (λk W E=>?_) Zl Ur λk c i W V E=>hy k [jr c,ir i] W (by rw[o6,V];rfl) E).mono λ_ _ r=>r.mono λv W' h=>?_
  .obtain⟨Y,M,⟨_,rfl⟩,U⟩:=hJ k W E;exact⟨U.p1.hb.cell rfl,U.p1.hb.cell rfl,U.aF⟩
  simpa using h
 .rintro k args Y1 Y2 B Kr M W E ⟨G,rfl⟩ hB hN hR u;rw[o6]at E;obtain⟨q,hq,rfl⟩:=J3.1 E;have nw:=(kE.1 hq).1;dsimp only[Eo];refine hB _ _ _ u (λ_ u=>?_);refine aB bO u.p2.hb rfl (aB bO u.p4.hb rfl (aG (aC (λI=>?_) λI=>aB bO u.p2.hb rfl (aJ bL (aR u.p2 bO (dQ rfl) rfl λ_ u=>hN _ _ u.p2.p2.p0 ⟨λj hj=>?_,rfl⟩)))))
  .refine aR u.p3 bO (dQ rfl) rfl (λ_ u=>?_);refine hR _ [bX b4 [ir (pw p c)]] _ ?_ ⟨rfl,rfl⟩;rw[<- I,Zm hq];exact u.p2.drop.p2.drop.p2.drop.p2.drop.p1
  rcases Pk j k with h|h
  .exact G j h
  rw[show j=k from bL];exact I
 .rintro D M W ⟨G,rfl⟩ u;refine aR u.p3 bO (dQ rfl) rfl (λ_ u=>?_);refine EI u.p1 (λ_ u=>?_);refine aB bO u.hb rfl ?_;refine⟨gL (n3 .i64) ?_,u.aF⟩;unfold pw;rw[mW]at G
  rw[ej (by
   rcases Int.lt_or_le c 0 with h|h
   .exact .inl h
   .refine .inr ?_;have:=G c.toNat;omega)]
 .rintro D M W ⟨_,rfl⟩ u;refine EI u (λ_ u=>?_);exact aB bO u.hb rfl ⟨rfl,u.aF⟩
 .rintro id D M W ⟨h,_⟩;cases h
 rintro c M ⟨h,_⟩;exact .inr h
variable (w:World) (K:Value->hM)
def ayv:dL:=λi=>match i with
 | 22=>.run 0 6
 | _=>.nil
theorem arx:PL 107:=dJ Tryz.func107
theorem Zn:PL 176:=dJ Tryz.func176
end Go.Proofs.YtpdlpabnlkofmaaGreatDoor
namespace Go.Fw
open Go.MapKept (Stamped IsKey)
open Go.ChangeMaps (setBlock)
def zT(l:List SI)(k:ByteArray)(v:Int):List SI:=if l.any (λp=>decide (p.1=k))then l.map (λp=>if p.1=k then(k,v)else p)else l++[(k,v)]
theorem HU:∀(l:List SI) (k u:ByteArray) (v:Int),(∀p∈l,p.1≠k)->eB (l++[(k,v)]) u=if k=u then v else eB l u
 | [],k,u,v,_=>rfl
 | p::r,k,u,v,h=>by
  have B:=HU r k u v (λq E=>h q (qa _ E))
  have G:=h p (o4 ..)
  show(if p.1=u then p.2 else eB (r++[(k,v)]) u)=_
  rw[B]
  show _=if k=u then v else(if p.1=u then p.2 else eB r u)
  grind
theorem Cr:∀(l:List SI) (k u:ByteArray) (v:Int),l.any (λp=>decide (p.1=k))=true->eB (l.map λp=>if p.1=k then(k,v)else p) u=if k=u then v else eB l u
 | [],_,_,_,h=>by simp at h
 | p::r,k,u,v,h=>by
  rw[Ix]
  by_cases h1:p.1=k
  .rw[ej h1]
   show(if k=u then v else eB (r.map _) u)=if k=u then v else(if p.1=u then p.2 else eB r u)
   by_cases h2:k=u
   .grind
   .rw[ei h2,ei h2,ei λe=>h2 (h1.symm.trans e)]
    by_cases h3:r.any (λp=>decide (p.1=k))=true
    .rw[Cr r k u v h3,ei h2]
    .congr 1
     have:∀q∈r,q.1≠k:=λq B e=>h3 (xy.2 ⟨q,B,ew e⟩)
     conv=>rhs;rw[<- List.map_id r]
     exact B0 λq B=>ei (this q B)
  .rw[ei h1]
   have h3:r.any (λp=>decide (p.1=k))=true:=by
    grind
   show(if p.1=u then p.2 else eB (r.map _) u)=if k=u then v else(if p.1=u then p.2 else eB r u)
   rw[Cr r k u v h3]
   grind
theorem Cs(l:List SI)(k u:ByteArray)(v:Int):eB (zT l k v) u=if k=u then v else eB l u:=by
 unfold zT
 by_cases h:l.any (λp=>decide (p.1=k))=true
 .rw[ej h,Cr l k u v h]
 rw[ei h,HU l k u v λp B e=>h (xy.2 ⟨p,B,ew e⟩)]
def aeu{l:List SI}{k:ByteArray}{v:Int}(h:∀p∈l,p.2≠0)(B:v≠0):∀p∈zT l k v,p.2≠0:=by
 intro p u
 unfold zT at u
 grind
section
variable {P:Program}{w w0 w':World}{A:Nat->Prop}{L:List HP}{b:Nat}{l:List SI}
theorem Zo{T M E:TypeId}{v:Int}{k:ByteArray}(h:uT w b l)(ht:P.underlying T=some (.map M E))(J:P.underlying M=some .string) :
  ∃w',(xi T (.map (some b)) (.string k) (ir v)).run P w=.ok () w'/\gD (· = b) w w'/\uT w' b (zT l k v):=by
 by_cases er:∀p∈l,p.1≠k
 .have:l.any (λp=>decide (p.1=k))=false:=by
   grind
  unfold zT
  rw[ei cD]
  exact Mn h ht J er
 have Z:l.any (λp=>decide (p.1=k))=true:=by
  grind
 unfold zT
 rw[ej Z]
 have nw:=h.lt
 obtain⟨es,c,h1,h2,h3⟩:=h
 have hc:=MapKept.run_checkKey (P:=P) (w:=w) (kt:=M) (k:=.string k) J (by simp[IsKey]) false 9999
 rcases MapKept.findNow_spec (d:=.string) (k:=.string k) (by simp[IsKey]) es.toList 0 (λx I=>by obtain⟨p,_,e,_⟩:=Ye h3 I;rw[e];simp[IsKey])with⟨W,g2⟩|⟨j,e,W,g2,g4⟩
 .obtain⟨p,V,he⟩:=xy.1 Z
  obtain⟨x,I,e1,_⟩:=Yf h3 V
  grind
 have U:=MapKept.run_findKey (P:=P) (w:=w) J W
 rw[Nat.zero_add]at U
 have Y:es[j]?=some e:=cD
 have ie:(PQ e.key (.string k)).run P w=.ok (.string k) w:=by
  have wj:(k == k)=true:=by cases k with|mk d=>exact beq_self_eq_true d
  rw[g4];unfold PQ;simp[Instr.sameBits,wj]
 refine⟨_,?_,gD.setBlock w b (.map (es.modify j λe=>{e with key:=.string k,val:=ir v}) c),?_⟩
 .simp[xi,run_underlying ht,MapKept.run_getObj_map h1,hc,U,mB h1,Result.andThen,Y,ie]
 have KI:∀B,es[j]?=some B->({B with key:=.string k,val:=ir v}:MapEntry).key=B.key:=λB G=>by
  grind
 refine⟨_,_,jw _ nw,MapKept.stamped_modify h2 j _ (λ_ _=>rfl) (λB _ G=>KI B G),?_⟩
 let g:Value×Value->Value×Value:=λq=>match q.1 with|.string s=>if s=k then(.string k,ir v)else q|_=>q
 have hg:(es.modify j λe=>{e with key:=.string k,val:=ir v}).toList.map (λe=>(e.key,e.val))=(es.toList.map λe=>(e.key,e.val)).map g:=by
  apply List.ext_getElem?
  intro i
  simp only[o6,Array.getElem?_toList,Array.getElem?_modify]
  by_cases O:j=i
  .grind
  .rw[ei O]
   cases I:es[i]? with
   | none=>rfl
   | some x=>
    have DE:x.key≠.string k:=λhxk=>by
     have hi:=(F1.1 I)
     have hj:=(F1.1 Y)
     obtain⟨hi1,UW⟩:=hi
     obtain⟨hj1,Cm⟩:=hj
     have V:=Ty.1 h2.2.2
     grind
    grind
 have hl:(l.map λp=>if p.1=k then(k,v)else p).map Sz=(l.map Sz).map g:=by
  rw[Jz,Jz]
  refine B0 λp _=>?_
  show Sz (if p.1=k then(k,v)else p)=g (Sz p)
  by_cases u:p.1=k
  .rw[ej u];simp[g,Sz,u]
  .rw[ei u];simp[g,Sz,u]
 grind
theorem Zp{T B E:TypeId}{v:Int}{k:ByteArray}{K:hM}(G:St w0 A (Fw.nj b l::L) w)(ht:P.underlying T=some (.map B E))(u:P.underlying B=some .string)
  (J:∀w',St w0 A (Fw.nj b (zT l k v)::L) w'->K w'):RB P (xi T (.map (some b)) (.string k) (ir v)) w K:=by
 obtain⟨w',h1,h2,h3⟩:=Zo (P:=P) (v:=v) (k:=k) G.nj ht u
 exact⟨w',h1,J w' (G.qm λF I=>⟨F,⟨h3,I.2⟩,λb hb=>.inl hb,h2.mono λk u=>(I.2 k).2 u⟩)⟩
end
end Go.Fw
namespace Go.Proofs.YtpdlpabnlkofmaaGreatDoor
open Go.Fw
def sE(b3 b4 B u:Nat)(l:List SI)(tw:Bool)(a:Int):HP:=sep (bX b3 [.map (some u)]) (sep (bX b4 [.bool tw]) (sep (bX B [ir a]) (nj u l)))
def sE.shut{w0 w:World}{A:Nat->Prop}{L:List HP}{b3 b4 B u:Nat}{l:List SI}{tw:Bool}{a:Int}(E:St w0 A (nj u l::bX B [ir a]::bX b4 [.bool tw]::bX b3 [.map (some u)]::L) w):St w0 A (sE b3 b4 B u l tw a::L) w:=
 St.join (St.join (St.join E.p1).p1).p1
def sE.open{w0 w:World}{A:Nat->Prop}{L:List HP}{b3 b4 B u:Nat}{l:List SI}{tw:Bool}{a:Int}(E:St w0 A (sE b3 b4 B u l tw a::L) w):St w0 A (nj u l::bX B [ir a]::bX b4 [.bool tw]::bX b3 [.map (some u)]::L) w:=
 E.split.p1.split.p1.split.p1
def atN(l:List SI)(name:ByteArray)(tw:Bool)(place a:Int):Int:=if eB l name≠0/\tw=false then place else a
def twN(l:List SI)(name:ByteArray)(tw:Bool):Bool:=tw||decide (eB l name≠0)
theorem C176(name:ByteArray)(B place:Int)(b3 b4 G E:Nat)(l:List SI)(tw:Bool)(a:Int)(F:Nat->Prop)(w:World)(O:(sE b3 b4 G E l tw a).p w F) :
  CR 176 [.string name,ir B,ir place,.pointer (some ⟨b3,0,none⟩),.pointer (some ⟨b4,0,none⟩),.pointer (some ⟨G,0,none⟩)] w (λv w'=>v=.tuple #[]/\mT F (sE b3 b4 G E (zT l name B) (twN l name tw) (atN l name tw place a)) w w'):=by
 have u:=sE.open (St.begin O);refine fb Tryz.func176 ?_;refine⟨λw'=>St w F [nj E l,bX G [ir (atN l name tw place a)],bX b4 [.bool (twN l name tw)],bX b3 [.map (some E)]] w',⟨λM w'=>M=.bool (decide (eB l name≠0)&&!tw)/\w'=w,aB Hw u.p3.hb rfl (yo u.nj Tryz.underlying165 Tryz.underlying9 tB (bW (aC (λc=>aB DH u.p2.hb rfl (bN ⟨vb (by rw[ew c,Et]),rfl⟩)) λc=>⟨vb (by rw[ez c,Tv]),rfl⟩))),?_⟩,?_⟩
 .rintro _ _ ⟨rfl,rfl⟩ _;refine aW (λc=>?_) (λc=>?_)
  .have hc:eB l name≠0/\tw=false:=by simpa using c
   refine aR u.p1 bO (dQ rfl) rfl (λ_ u=>aR u.p2 DH (dQ rfl) rfl λ_ u=>?_);have I:atN l name tw place a=place:=ej hc;have J:twN l name tw=true:=by unfold twN;rw[ew hc.1,Bool.or_true]
   rw[I,J];exact u.p1.p2
  have hc:¬ (eB l name≠0/\tw=false):=by simpa using c
  have I:atN l name tw place a=a:=ei hc
  have J:twN l name tw=tw:=by
   unfold twN;cases tw with
   | true=>rfl
   | false=>rw[Bool.false_or];exact ez λh=>hc ⟨h,rfl⟩
  rw[I,J];exact u
 rintro _ u _;exact aB Hw u.p3.hb rfl (Zp u Tryz.underlying165 Tryz.underlying9 λ_ u=>⟨rfl,(sE.shut u).mut⟩)
def Zq(st:List SI×Bool×Int)(q:ByteArray×Int×Int):List SI×Bool×Int:=(zT st.1 q.1 q.2.1,twN st.1 q.1 st.2.1,atN st.1 q.1 st.2.1 q.2.2 st.2.2)
def C6(p:cR)(i:Int):Int:=if (p.lines.length:Int)<=i then 2 else 1
def Wf(p:cR):List (ByteArray×Int×Int):=(uf p).map λq=>(q.1.name,C6 p q.2,q.1.at_)
def UX(p:cR):List (ByteArray×Int×Int):=p.eE.map λc=>(c.name,3,c.at_)
def Wg(p:cR):List (ByteArray×Int×Int):=p.threads.map λt=>(t.name,4,t.at_)
def Ah(l:List (ByteArray×Int×Int))(st:List SI×Bool×Int):List SI×Bool×Int:=l.foldl Zq st
def C7(p:cR):List SI×Bool×Int:=Ah (Wg p) (Ah (UX p) (Ah (Wf p) ([],false,0)))
theorem FT{l:List (ByteArray×Int×Int)}{st:List SI×Bool×Int}{k:Nat}{q:ByteArray×Int×Int}(h:l[k]?=some q):Ah (l.take (k+1)) st=Zq (Ah (l.take k) st) q:=by
 unfold Ah;rw[<- gg h,List.foldl_append];rfl
abbrev NO(b3 b4 B u:Nat)(st:List SI×Bool×Int):HP:=sE b3 b4 B u st.1 st.2.1 st.2.2
def C107(p:cR)(pv:bP)(w:World)(hp:n5 w pv p)(hz:PZ p):CR 107 [jr pv] w (λv w'=>∃G,v=.tuple #[.map (some G),ir (C7 p).2.2,.bool (C7 p).2.1]/\lf (nj G (C7 p).1) w w'):=by
 have hac:=kP hz.toPS;have ph:(uf p).length=(iJ p).length:=u5 p;have hzl:=hz.lines;have hzk:=hz.eE;have hzt:=hz.threads;obtain⟨I,Z,U,V,aU,bG,rfl,cN,dD,cW,bY,bZ,cM⟩:=hp;obtain⟨XQ,hR1,hD1⟩:=cN.open;have XR:=hD1.1;obtain⟨vF,Zd,Ze⟩:=bY.open;have hn3:=Ze.1;have hKr:=DL.flat cW;have u:=St.start w;refine pj Tryz.func107 (pl:=ayv) ?_;refine cP u (λbp w1 u=>Mp u λG _ u=>gV u Sa rfl λb3 _ u=>aR u Hw (dQ rfl) rfl λ_ u=>gV u tB rfl λE _ u=>gV u R5 rfl λb4 _ u=>aR u DH (dQ rfl) rfl λ_ u=>gV u ac8 rfl λb8 _ u=>aR u Se (dQ rfl) rfl λ_ u=>aE fp u.p5.At (have u:=sE.shut (a:=0) (tw:=false) u.p3.p2.p3.p4;dR SY (C115 _ _) ?_))
 rintro _ _ ⟨b,rfl,cE⟩;have u:=u.made cE
 refine xe (cap:=[.pointer (some ⟨b,0,none⟩)]) (xs:=(uf p).map λq=>[jr q.1,ir q.2]) SZ u
  (λk M=>M=[bX b (kp (⟨I,Z,U,V,aU,bG⟩:bP)),NO b3 b4 E G (Ah ((Wf p).take k) ([],false,0)),bX b8 [(.func (.func 176) [].toArray [.pointer (some ⟨b3,0,none⟩),.pointer (some ⟨b4,0,none⟩),.pointer (some ⟨E,0,none⟩)].toArray)],bX bp (kp (⟨I,Z,U,V,aU,bG⟩:bP))]) (λ_ _=>False) rfl (by intro x hx;obtain⟨q,_,rfl⟩:=o1.1 hx;rfl) ?_ ?_ ?_ ?_ ?_ ?_
 .intro y J Jx W hJ Zl Ur hy;refine(C195 y b I Z p J Jx w W hz.toPS cN (DL.flat dD) (λk W O=>?_) Zl Ur λk c i W hx O=>hy k [jr c,ir i] W (by rw[o6,hx];rfl) O).mono λ_ _ r=>r.mono λv W' h=>?_
  .obtain⟨Y,M,rfl,hS⟩:=hJ k W O;exact⟨hS.p1.hb.cell rfl,hS.p1.hb.cell rfl,hS.aF⟩
  simpa using h
 .rintro k args Y1 Y2 B Kr M W O rfl hB hN hR u;rw[o6]at O;obtain⟨q,hq,rfl⟩:=J3.1 O;have hc:(Wf p)[k]?=some (q.1.name,C6 p q.2,q.1.at_):=by unfold Wf;rw[o6,hq];rfl
  dsimp only[Eo];refine aQ u oL (λb9 _ u=>aM (x:=q.1) u lZ rfl rfl λ_ u=>?_);refine hB _ _ _ u.p1 (λOC u=>?_);refine⟨λjv w'=>jv=ir (C6 p q.2)/\w'=OC,aA gw (aB (v:=jr I) oH u.p5.hb rfl (aI pG (hR1.ext u.aF) (cO (aC (λ_=>⟨gL (n3 .i64) (ej bL).symm,rfl⟩) λ_=>⟨gL (n3 .i64) (ei bL).symm,rfl⟩)))),?_⟩;rintro _ _ ⟨rfl,rfl⟩ _;refine aB Se u.p4.hb rfl (aA kJ (aB (v:=.string q.1.name) gv u.p1.hb rfl (aA uH (aB (v:=ir q.1.at_) bO u.p1.hb rfl (Fk (first:=[]) (cap:=[.pointer (some ⟨b3,0,none⟩),.pointer (some ⟨b4,0,none⟩),.pointer (some ⟨E,0,none⟩)]) (H':=λ_=>NO b3 b4 E G (Zq (Ah ((Wf p).take k) ([],false,0)) (q.1.name,(C6 p q.2),q.1.at_))) (Φ:=λv _=>v=.tuple #[]) Zn u.p3 (λF hF _=>C176 q.1.name (C6 p q.2) q.1.at_ b3 b4 E G _ _ _ F _ hF) λv _ _ u=>?_)))))
  refine hN _ _ ?_ rfl;rw[FT hc];exact u.p2.drop.p2.p2
 .rintro D M W rfl u;rw[mW,show(Wf p).take (uf p).length=Wf p from la (by unfold Wf;rw[mW];exact sl _)]at u;obtain⟨s0,hs0⟩:∃s,s=Ah (Wf p) ([],false,0):=⟨_,rfl⟩;rw[<- hs0]at u;refine aA nO (aB (v:=jr U) jD u.p4.hb rfl (aI ic (hKr.ext u.aF) ?_));refine⟨λm x w1=>∃k:Nat,x=ir (k:Int)/\m=p.eE.length-k/\k<=p.eE.length/\St w aX [nG D (.deferred (some [])),bX b (kp (⟨I,Z,U,V,aU,bG⟩:bP)),NO b3 b4 E G (Ah ((UX p).take k) s0),bX b8 [(.func (.func 176) [].toArray [.pointer (some ⟨b3,0,none⟩),.pointer (some ⟨b4,0,none⟩),.pointer (some ⟨E,0,none⟩)].toArray)],bX bp (kp (⟨I,Z,U,V,aU,bG⟩:bP))] w1,⟨_,0,rfl,rfl,l2 _,(by rw[show Ah ((UX p).take 0) s0=s0 from rfl];exact u)⟩,?_⟩
  rintro m _ _ ⟨k,rfl,rfl,O,u⟩ _;refine aN (aC (λc=>?_) λc=>?_)
  .obtain⟨x,hx⟩:=gx p.eE (i:=((k:Nat):Int).toNat) bL;have hx':p.eE[k]?=some x:=hx;have hc:(UX p)[k]?=some (x.name,3,x.at_):=by unfold UX;rw[o6,hx'];rfl
   refine aK ic hKr bL hx (λq hq=>aE lZ (hq.ext u.aF) (aQ u oL λb9 _ u=>aM (x:=x) u lZ rfl rfl λ_ u=>aB Se u.p4.hb rfl (aA kJ (aB (v:=.string x.name) gv u.hb rfl (aA uH (aB (v:=ir x.at_) bO u.hb rfl (Fk (first:=[]) (cap:=[.pointer (some ⟨b3,0,none⟩),.pointer (some ⟨b4,0,none⟩),.pointer (some ⟨E,0,none⟩)]) (H':=λ_=>NO b3 b4 E G (Zq (Ah ((UX p).take k) s0) (x.name,3,x.at_))) (Φ:=λv _=>v=.tuple #[]) Zn u.p3 (λF hF _=>C176 x.name 3 x.at_ b3 b4 E G _ _ _ F _ hF) λv _ _ u=>aJ bL ?_)))))));refine⟨_,bL,k+1,rfl,rfl,bL,?_⟩
   rw[FT hc];exact u.p1.drop.p2.p2
  rw[show(UX p).take k=UX p from la (by unfold UX;rw[mW];omega)]at u;obtain⟨s1,UY⟩:∃s,s=Ah (UX p) s0:=⟨_,rfl⟩;rw[<- UY]at u;refine aA kD (aB (v:=jr V) iq u.p4.hb rfl (aI fu (Zd.ext u.aF) ?_));refine⟨λm x w1=>∃k:Nat,x=ir (k:Int)/\m=vF.length-k/\k<=vF.length/\St w aX [nG D (.deferred (some [])),bX b (kp (⟨I,Z,U,V,aU,bG⟩:bP)),NO b3 b4 E G (Ah ((Wg p).take k) s1),bX b8 [(.func (.func 176) [].toArray [.pointer (some ⟨b3,0,none⟩),.pointer (some ⟨b4,0,none⟩),.pointer (some ⟨E,0,none⟩)].toArray)],bX bp (kp (⟨I,Z,U,V,aU,bG⟩:bP))] w1,⟨_,0,rfl,rfl,l2 _,(by rw[show Ah ((Wg p).take 0) s1=s1 from rfl];exact u)⟩,?_⟩
  rintro m _ _ ⟨k,rfl,rfl,O,u⟩ _;refine aN (aC (λc=>?_) λc=>?_)
  .obtain⟨t,ht⟩:=gx vF (i:=((k:Nat):Int).toNat) bL;obtain⟨r,hr⟩:=gx p.threads (i:=k) bL;obtain⟨gr,gb,rfl,_,_⟩:=Ze.2 _ _ _ ht hr;have hc:(Wg p)[k]?=some (r.name,4,r.at_):=by unfold Wg;rw[o6,hr];rfl
   refine aK fu Zd bL ht (λq hq=>aE m6 (hq.ext u.aF) (aQ u tE λb9 _ u=>aM u m6 rfl rfl λ_ u=>aB Se u.p4.hb rfl (aA qn (aB (v:=.string r.name) gv u.hb rfl (aA qo (aB (v:=ir r.at_) bO u.hb rfl (Fk (first:=[]) (cap:=[.pointer (some ⟨b3,0,none⟩),.pointer (some ⟨b4,0,none⟩),.pointer (some ⟨E,0,none⟩)]) (H':=λ_=>NO b3 b4 E G (Zq (Ah ((Wg p).take k) s1) (r.name,4,r.at_))) (Φ:=λv _=>v=.tuple #[]) Zn u.p3 (λF hF _=>C176 r.name 4 r.at_ b3 b4 E G _ _ _ F _ hF) λv _ _ u=>aJ bL ?_)))))));refine⟨_,bL,k+1,rfl,rfl,bL,?_⟩
   rw[FT hc];exact u.p1.drop.p2.p2
  rw[show(Wg p).take k=Wg p from la (by unfold Wg;rw[mW];omega),UY,hs0]at u;have u:=sE.open u.drew.p2;refine aB Hw u.p3.hb rfl (aB bO u.p1.hb rfl (aB DH u.p2.hb rfl ?_));refine EI u.p4 (λ_ u=>?_);exact⟨G,rfl,u.p1.drop.p1.drop.p1.drop.p1.drop.p1.drop.p1.drop.fresh⟩
 .rintro D M W h;exact h.elim
 .rintro id D M W h;exact h.elim
 rintro c M h;exact h.elim
def vI(B:ByteArray)(I:Int)(E:Option Addr)(G u:Nat):pr hH (Instr.build 177 [(0,.string B),(1,ir I),(2,.slice E G u)].toArray)=some (.agg [.string B,ir I,.slice E G u].toArray):=by kernel_rfl
structure JW where
 name:ByteArray
 at_:Int
 may:SV
instance:Flat JW where
 agg:=true
 sz:=3
 enc e:=[.string e.name,ir e.at_,.slice e.may.a e.may.n e.may.cap]
 val e:=.agg [.string e.name,ir e.at_,.slice e.may.a e.may.n e.may.cap].toArray
 pos:=dy
 len _:=rfl
 one a v h:=by simp at h;rcases h with rfl|rfl|rfl<;>rfl
 nU _ _:=rfl
 nV h:=by cases h
variable (w:World) (K:Value->hM)
theorem ahB:PL 193:=dJ Tryz.func193
theorem arz:PL 113:=dJ Tryz.func113
theorem arA:PL 192:=dJ Tryz.func192
end Go.Proofs.YtpdlpabnlkofmaaGreatDoor
namespace Go.Fw
def Qm:List Nat->HP
 | []=>eC λ_=>True
 | D::r=>sep (nG D (.deferred (some []))) (Qm r)
def aew(P:Program)(w0:World)(A:Nat->Prop)(I:Nat->List HP->Prop)(B:hM)(y:Value)(E:Nat->List Value->(hM)->Prop):Prop:=
 ∀k args Φ W (R:HP) L,E k args Φ->(∀F u,R.p u F->Φ u)->I k L->St w0 A (R::L) W->kG P y args W (λv u=>(v=.bool true/\∃L',I (k+1) L'/\St w0 A (R::L') u)\/(v=.bool false/\B u))
section
variable {P:Program}{w w0 w':World}{A:Nat->Prop}{L:List HP}
theorem Qm.nil(u:St w0 A L w):St w0 A (Qm []::L) w:=u.gE λ_=>trivial
theorem Qm.take{K:hM}:∀(ds:List Nat) {w:World},St w0 A (Qm ds::L) w->(∀w',St w0 A L w'->K w')->mP ds w K
 | [],_,u,k=>k _ u.drop
 | D::r,_,u,k=>by
  have h1:=u.split
  exact⟨h1.obj,Qm.take r (h1.putObj _).drop k⟩
theorem Zr{Z np:Nat}{cap:List Value}(n:Nat)(Ar:Nat->List Value->(hM)->Prop){round:List Value->World->(World->(hM)->Prop)->(Option Code->hM)->Prop}
  {N R:Nat->hM}{X:Nat->Nat->hM}(pl:Plain P Z) (hs:St w0 A L w) (I:Nat->List HP->Prop) (U:Code->List HP->Prop) (h0:I 0 L) (hnp:∀k a Φ,Ar k a Φ->a.length=np)
  (hgf:∀(y:Value) (Y:HP) (Jx:hM) (W:World),(∃M,I 0 M/\St w0 A (Y::M) W)->aew P w0 A (λk L=>∃M,I k M/\L=Y::M) Jx y Ar->
   Calls P Z ([y]++cap).toArray W (tu λ_ O=>(∃M,I n M/\St w0 A (Y::M) O)\/Jx O))
  (Ep:∀k args Φ (Y1 Y2:HP) (B:World->(hM)->Prop) (Kr:Option Code->hM) M W,Ar k args Φ->I k M->(∀F O,Y2.p O F->Φ O)->
   (∀M u (kk:hM),St w0 A (Y1::M) u->(∀w2,St w0 A (Y2::M) w2->kk w2)->B u kk)->
   (∀M u,St w0 A (Y2::M) u->I (k+1) M->Kr none u)->(∀c M u,St w0 A (Y2::M) u->U c M->Kr (some c) u)->
   St w0 A (Y1::M) W->round args W B Kr)
  (Xs:∀D M W,I n M->St w0 A (nG D (.deferred (some []))::M) W->N D W)
  (aiR:∀D M W,U .ret M->St w0 A (nG D (.deferred (some []))::M) W->R D W)
  (Xt:∀id D M W,U (.exit id) M->St w0 A (nG D (.deferred (some []))::M) W->X id D W)
  (O8:∀c M,U c M->(∃id,c=.exit id)\/c=.ret) :
  Aq P (.func (.func Z) #[] cap.toArray) np w round (aft N R X):=by
 refine⟨Z,cap.toArray,rfl,pl,λG ie BL hy=>?_⟩
 obtain⟨l,hl⟩:∃l,l=w.heap.size+1:=⟨_,rfl⟩
 obtain⟨D,hD⟩:∃D,D=w.heap.size:=⟨_,rfl⟩
 rw[<- hl]at hy |-
 rw[<- hD]
 let Y:HP:=sep (nG l (.loop G)) (nG D (.deferred (some [])))
 let Jx:hM:=λW=>∃c M,U c M/\St w0 A (nG l (.loop {G with state:=.done,pending:=some c})::nG D (.deferred (some []))::M) W
 have Ur:∃M,I 0 M/\St w0 A (Y::M) ((w.alloc (.deferred (some []))).alloc (.loop G)):=by
  refine⟨L,h0,?_⟩
  have h1:=(hs.alloc (o:=.deferred (some []))).alloc (o:=.loop G)
  rw[show(w.alloc (.deferred (some []))).heap.size=l from by rw[hl];exact BY w _,<- hD]at h1
  exact St.join h1
 have:=hgf (.func (.yield l) #[] #[]) Y Jx _ Ur ?_
 .have e:([Value.func (.yield l) #[] #[]]++cap).toArray = #[.func (.yield l) #[] #[]]++cap.toArray:=ee
  rw[e]at this
  refine this.mono λx O ⟨v,hx,hv⟩=>⟨v,hx,?_⟩
  rcases hv with⟨M,J,E⟩|⟨c,M,J,E⟩
  .have E:=E.split
   refine⟨.ready,none,ee,?_,?_⟩
   .rw[<- ie,<- BL];exact E.obj
   exact Xs D M _ J (E.putObj _).drop
  refine⟨.done,some c,ee,E.obj,?_⟩
  rcases O8 c M J with⟨id,rfl⟩|rfl
  .exact Xt id D M _ J (E.putObj _).drop
  exact aiR D M _ J (E.putObj _).drop
 rintro k args Φ W R _ hk hR ⟨M,J,rfl⟩ E
 have V:=E.p1.split
 refine⟨.inr ⟨l,rfl,?_⟩⟩
 refine hy args W _ (hnp k args Φ hk) V.obj ?_
 refine Ep k args Φ (sep (sep (nG l (.loop G)) (nG D (.deferred (some [])))) R) (sep (sep (nG l (.loop {G with state:=.busy})) (nG D (.deferred (some [])))) R) _ _ M W hk J (λF W2 ⟨_,F2,_,h2,_⟩=>hR F2 W2 h2)
  (λM u kk h1 h2=>?_) (λM u h1 h2=>?_) (λc M u h1 h2=>?_) (St.join (St.join V))
 .have h1:=h1.split.split
  exact⟨h1.obj,h2 _ (h1.putObj _).join.join⟩
 .have h1:=h1.split.split
  refine⟨h1.obj,.inl ⟨rfl,_,⟨M,h2,rfl⟩,?_⟩⟩
  have:=h1.putObj (.loop {G with state:=if (none:Option Code).isNone=true then LoopState.ready else LoopState.done,pending:=none})
  rw[EJ G ie BL]at this |-
  exact(St.join this).p1
 have h1:=h1.split.split
 refine⟨h1.obj,.inr ⟨rfl,c,M,h2,?_⟩⟩
 exact(h1.putObj _).p2.drop
end
end Go.Fw
namespace Go.Proofs.YtpdlpabnlkofmaaGreatDoor
open Go.Fw
abbrev UU:=ByteArray×Int×List Int
def qD(xs:List bU):List bU:=xs.filter λx=>decide (x.op=2)
theorem HV{xs:List bU}{k:Nat}{x:bU}(h:xs[k]?=some x):qD (xs.take (k+1))=qD (xs.take k)++(if x.op=2 then [x]else []):=by
 unfold qD;rw[<- gg h,Bt];grind
def aex{xs:List bU}{k:Nat}{x:bU}(h:xs[k]?=some x)(u:x.op=2):(qD xs)[(qD (xs.take k)).length]?=some x:=by
 have h1:=drop_cons h
 have e:qD xs=qD (xs.take k)++qD (xs.drop k):=by unfold qD;rw[<- Bt,qT]
 grind[qD]
def S4(l:List UU)(k:Nat)(args:List Value)(Φ:hM):Prop:=∃u s,l[k]?=some u/\args=[jr (⟨u.1,u.2.1,s⟩:JW)]/\∀W,Φ W->cZ (λ_=>True) W (jr s) u.2.2
def ayx{H H':HP}{Φ:hM}(h:∀F W,H.p W F->Φ W):∀F W,(sep H H').p W F->Φ W:=λ_ _ ⟨_,_,h1,_⟩=>h _ _ h1
def JX{α:Type}[Flat α]{v:Value}{xs:List α}:∀F W,(bF v xs).p W F->cZ (λ_=>True) W v xs:=λ_ _ h=>(bF.rd h).mono λ_ _=>trivial
def C193(lv y:Value)(xs:List bU)(may:Int)(ul:List UU)(E:Nat)(w0:World)(A:Nat->Prop)(I:Nat->List HP->Prop)(V:hM)(w:World)(hn:xs.length<=1048576)
  (hE:∀k L W,I k L->St w0 A L W->cZ (λ_=>True) W lv xs) (h0:∃L,I E L/\St w0 A L w) (hu:∀(j:Nat) (x:bU),(qD xs)[j]?=some x->ul[E+j]?=some (x.name,x.at_,[may])) (hy:aew hH w0 A I V y (S4 ul)) :
  CR 193 [lv,ir may,y] w (λv W=>(v=.bool true/\∃L,I (E+(qD xs).length) L/\St w0 A L W)\/(v=.bool false/\V W)):=by
 refine fb Tryz.func193 ?_;obtain⟨L0,B,J⟩:=h0;refine aI gU (hE _ _ _ B J) ?_;refine⟨λm x w1=>∃k:Nat,x=ir (k:Int)/\m=xs.length-k/\k<=xs.length/\∃L,I (E+(qD (xs.take k)).length) L/\St w0 A L w1,⟨_,0,rfl,rfl,l2 _,L0,B,J⟩,?_⟩;rintro m _ w1 ⟨k,rfl,rfl,hk,L1,G,u⟩ _;refine aN (aC (λc=>?_) λc=>?_)
 .obtain⟨x,O⟩:=gx xs (i:=((k:Nat):Int).toNat) bL;refine aK gU (hE _ _ _ G u) bL O (λq hq=>aE rW hq (aQ u yg λb8 _ u=>aM (x:=x) u rW rfl rfl λ_ u=>⟨λjv w'=>(jv=.bool false/\∃L,I (E+(qD (xs.take (k+1))).length) L/\St w0 A L w')\/(jv=.bool true/\V w'),aA eX (aB (v:=ir x.op) bO u.hb rfl (aG (aC (λM=>?_) λM=>?_))),?_⟩))
  .refine aA gj (aB (v:=.string x.name) gv u.hb rfl (aA rX (aB (v:=ir x.at_) bO u.hb rfl (bD ([may]:List Int) u.drop cQ rfl rfl (dQ rfl) λs25 w4 u=>?_))));obtain⟨U,rfl⟩:=u.dS.fK;refine pop (vI x.name x.at_ U.a U.n U.cap) ?_;refine kG.mono (hy _ _ _ w4 _ _ ⟨_,U,hu _ x (aex O M),rfl,λ_ h=>h⟩ JX G u) ?_;rintro v w5 (⟨rfl,L2,OD,Z⟩|⟨rfl,Y⟩)
   .exact bN (.inl ⟨rfl,L2,by rw[HV (k:=k) O,ej M,l0];exact OD,Z.drop⟩)
   exact bN (.inr ⟨rfl,Y⟩)
  .refine .inl ⟨rfl,L1,?_,u.drop⟩;rw[HV (k:=k) O,ei M,List.append_nil];exact G
  rintro _ w6 (⟨rfl,L2,OD,u⟩|⟨rfl,Y⟩) _
  .exact eR (aJ bL ⟨_,bL,k+1,rfl,rfl,bL,L2,OD,u⟩)
  exact gO (.inr ⟨rfl,Y⟩)
 rw[la bL]at G;exact .inl ⟨rfl,L1,G,u⟩
def JY(k:Int):List Int:=if k=5\/k=6 then [1]else if k=9\/k=10 then [3]else [1,2]
def Ct(l:List bU):List UU:=(qD l).map λy=>(y.name,y.at_,[5])
def Cu(x:bM):List UU:=(if x.ey=⟨#[]⟩then []else [(x.ey,x.at_,[5])])++((if x.name=⟨#[]⟩then []else [(x.name,x.at_,JY x.kind)])++(Ct x.e++Ct x.f))
def oC(xs:List bM):List UU:=xs.flatMap Cu
theorem HW{xs:List bM}{k:Nat}{x:bM}(h:xs[k]?=some x):oC (xs.take (k+1))=oC (xs.take k)++Cu x:=by
 unfold oC;rw[<- gg h,MA];simp
def aez{xs:List bM}{k i:Nat}{x:bM}{u:UU}(h:xs[k]?=some x)(hi:(Cu x)[i]?=some u):(oC xs)[(oC (xs.take k)).length+i]?=some u:=by
 have e:oC xs=oC (xs.take k)++(Cu x++oC (xs.drop (k+1))):=by
  rw[<- n4,<- HW h];unfold oC;rw[<- MA,qT]
 grind
def S5{l:List bU}{j:Nat}{y:bU}(h:(qD l)[j]?=some y):(Ct l)[j]?=some (y.name,y.at_,[5]):=by unfold Ct;rw[o6,h];rfl
def sF(x:bM):List UU:=if x.ey=⟨#[]⟩then []else [(x.ey,x.at_,[5])]
def ug(x:bM):List UU:=if x.name=⟨#[]⟩then []else [(x.name,x.at_,JY x.kind)]
theorem Cv(x:bM):Cu x=sF x++(ug x++(Ct x.e++Ct x.f)):=rfl
theorem aj8{x:bM}(h:¬ x.ey=⟨#[]⟩):(sF x).length=1:=by unfold sF;grind
theorem aj9{x:bM}(h:x.ey=⟨#[]⟩):(sF x).length=0:=by unfold sF;grind
theorem aka{x:bM}{n:Nat}(h:¬ x.name=⟨#[]⟩):(n+(ug x).length)=n+1:=by unfold ug;grind
theorem akb{x:bM}{n:Nat}(h:x.name=⟨#[]⟩):(n+(ug x).length)=n:=by unfold ug;grind
def Zs{x:bM}(h:¬ x.ey=⟨#[]⟩):(Cu x)[0]?=some (x.ey,x.at_,[5]):=by unfold Cu;grind
def Zt{x:bM}(h:¬ x.name=⟨#[]⟩):(Cu x)[(sF x).length]?=some (x.name,x.at_,JY x.kind):=by
 rw[Cv,ta (sl _),Nat.sub_self];unfold ug;grind
def Zu{x:bM}{j:Nat}{y:bU}(h:(qD x.e)[j]?=some y):(Cu x)[(sF x).length+(ug x).length+j]?=some (y.name,y.at_,[5]):=by
 have h1:=S5 h
 rw[Cv,ta bL,show(sF x).length+(ug x).length+j-(sF x).length=(ug x).length+j from bL,ta bL,I8,uc (kE.1 h1).1,h1]
def Zv{x:bM}{j:Nat}{y:bU}(h:(qD x.f)[j]?=some y):(Cu x)[(sF x).length+(ug x).length+(qD x.e).length+j]?=some (y.name,y.at_,[5]):=by
 have h1:=S5 h
 have h2:(Ct x.e).length=(qD x.e).length:=by unfold Ct;grind
 rw[Cv,ta bL,show(sF x).length+(ug x).length+(qD x.e).length+j-(sF x).length=(ug x).length+((Ct x.e).length+j)from bL,ta bL,I8,ta bL,I8,h1]
theorem Zw(x:bM):(Cu x).length=(sF x).length+(ug x).length+(qD x.e).length+(qD x.f).length:=by
 rw[Cv];unfold Ct;grind
def C192(y:Value)(b:Nat)(lv:Value)(ts:List aZ)(xs:List bM)(w0:World)(A:Nat->Prop)(I:Nat->List HP->Prop)(Jx:hM)(w:World)(hn:xs.length<=1048576)(hz:∀x∈xs,x.e.length<=1048576/\x.f.length<=1048576)
  (hE:∀k L W,I k L->St w0 A L W->Cell W b 0 lv/\cZ (λ_=>True) W lv ts/\gd ts xs W) (h0:∃L,I 0 L/\St w0 A L w) (hy:aew hH w0 A I Jx y (S4 (oC xs))) :
  CR 192 [y,.pointer (some ⟨b,0,none⟩)] w (λ_ W=>(∃L,I (oC xs).length L/\St w0 A L W)\/Jx W):=by
 have Y:∀b4 (cs:List Value),aew hH w0 A (λj L=>∃M,I j M/\L=bX b4 cs::M) Jx y (S4 (oC xs)):=by
  rintro b4 cs k args Φ W R _ h1 h2 ⟨M,h3,rfl⟩ h4;refine kG.mono (hy k args Φ W _ M h1 (ayx h2) h3 (St.join h4)) ?_;rintro v W' (⟨rfl,L',h5,h6⟩|h5)
  .exact .inl ⟨rfl,_,⟨L',h5,rfl⟩,h6.split⟩
  grind
 refine fb Tryz.func192 ?_;obtain⟨M0,hI0,hS0⟩:=h0;obtain⟨ye,Dg,yr⟩:=hE _ _ _ hI0 hS0;have WA:=yr.1;refine bE jG ye (aI fk Dg ?_);refine⟨λm x w1=>∃k:Nat,x=ir (k:Int)/\m=ts.length-k/\k<=ts.length/\∃L,I (oC (xs.take k)).length L/\St w0 A L w1,⟨_,0,rfl,rfl,l2 _,M0,hI0,hS0⟩,?_⟩;rintro m _ w1 ⟨k,rfl,rfl,hk,M1,hI,B⟩ _;refine aN (aC (λc=>?_) λc=>?_)
 .obtain⟨t,ht⟩:=gx ts (i:=((k:Nat):Int).toNat) bL;obtain⟨x,hx⟩:=gx xs (i:=k) bL;have hxz:=hz x (kO hx);obtain⟨te,GQ,hd1⟩:=hE _ _ _ hI B;obtain⟨ge,U,rfl,_,_⟩:=hd1.2 _ _ _ ht hx
  have hE1:∀k' M W,I k' M->St w0 A M W->cZ (λ_=>True) W (jr ge) x.e/\cZ (λ_=>True) W (jr U) x.f:=λk' M W h1 h2=>by
   obtain⟨_,_,h3⟩:=hE k' M W h1 h2;obtain⟨_,_,h4,h5,h6⟩:=h3.2 _ _ _ ht hx;cases h4
   exact⟨DL.flat h5,DL.flat h6⟩
  have px:∀{i:Nat}{u:UU},(Cu x)[i]?=some u->(oC xs)[(oC (xs.take k)).length+i]?=some u:=aez hx;refine aK fk GQ bL ht (λq hq=>aE eD hq (aQ B iN λb4 _ B=>aM (x:=(⟨x.kind,x.ey,x.name,ge,U,x.n,x.body,x.ep,x.at_⟩:aZ)) B eD rfl rfl λ_ B=>?_));refine⟨λG w'=>(G=.bool false/\∃L,I ((oC (xs.take k)).length+(sF x).length) L/\St w0 A ((bX b4 (kp (⟨x.kind,x.ey,x.name,ge,U,x.n,x.body,x.ep,x.at_⟩:aZ)))::L) w')\/(G=.bool true/\Jx w'),?_,?_⟩
  .refine aA iC (aB (v:=.string x.ey) gv B.hb rfl (lW (aC (λc2=>?_) λc2=>.inl ⟨rfl,M1,by rw[aj9 (by simpa using c2)];exact hI,B⟩)));refine aA iC (aB (v:=.string x.ey) gv B.hb rfl (aA jI (aB (v:=ir x.at_) bO B.hb rfl (bD ([5]:List Int) B cQ rfl rfl (dQ rfl) λs25 _ B=>?_))));obtain⟨E,rfl⟩:=B.dS.fK;refine pop (vI x.ey x.at_ E.a E.n E.cap) ?_;refine kG.mono (Y b4 _ _ _ _ _ _ _ ⟨_,E,px (i:=0) (Zs c2),rfl,λ_ h=>h⟩ JX ⟨_,hI,rfl⟩ B) ?_;rintro v w5 (⟨rfl,_,⟨O,J,rfl⟩,hs2⟩|⟨rfl,V⟩)
   .exact bN (.inl ⟨rfl,O,by rw[aj8 c2];exact J,hs2.drop⟩)
   exact bN (.inr ⟨rfl,V⟩)
  rintro _ w6 (⟨rfl,O,J,B⟩|⟨rfl,V⟩) _;rotate_left
  .exact gO (.inr V)
  refine eR (bD ([1,2]:List Int) B cQ rfl rfl (dQ rfl) λs26 w7 B=>?_);refine⟨λG w'=>∃E:SV,G=jr E/\St w0 A (bF (jr E) (JY x.kind)::(bX b4 (kp (⟨x.kind,x.ey,x.name,ge,U,x.n,x.body,x.ep,x.at_⟩:aZ)))::O) w',?_,?_⟩
  .refine aA dN (aB (v:=ir x.kind) bO B.p1.hb rfl ⟨λG w'=>G=.bool (decide (x.kind=5\/x.kind=6))/\w'=w7,aG (aC (λc3=>⟨vb (by simp[c3]),rfl⟩) λc3=>aG ⟨vb (by simp[c3]),rfl⟩),?_⟩);rintro _ w8 ⟨rfl,rfl⟩ _;refine aC (λc3=>?_) (λc3=>⟨λG w'=>G=.bool (decide (x.kind=9\/x.kind=10))/\w'=w8,aG (aC (λc4=>⟨vb (by simp[c4]),rfl⟩) λc4=>aG ⟨vb (by simp[c4]),rfl⟩),?_⟩)
   .refine bD ([1]:List Int) B cQ rfl rfl (dQ rfl) (λs32 _ B=>?_);obtain⟨E,rfl⟩:=B.dS.fK;exact⟨E,rfl,by rw[JY,ej c3];exact B.p1.drop⟩
   rintro _ _ ⟨rfl,rfl⟩ _;refine aC (λc4=>?_) (λc4=>?_)
   .refine bD ([3]:List Int) B cQ rfl rfl (dQ rfl) (λs36 _ B=>?_);obtain⟨E,rfl⟩:=B.dS.fK;exact⟨E,rfl,by rw[JY,ei c3,ej c4];exact B.p1.drop⟩
   obtain⟨E,rfl⟩:=B.dS.fK;exact⟨E,rfl,by rw[JY,ei c3,ei c4];exact B⟩
  rintro _ _ ⟨E,rfl,B⟩ _;refine⟨λG w'=>(G=.bool false/\∃L,I ((oC (xs.take k)).length+((sF x).length+(ug x).length)) L/\St w0 A ((bX b4 (kp (⟨x.kind,x.ey,x.name,ge,U,x.n,x.body,x.ep,x.at_⟩:aZ)))::L) w')\/(G=.bool true/\Jx w'),?_,?_⟩
  .refine aA fY (aB (v:=.string x.name) gv B.p1.hb rfl (lW (aC (λc2=>?_) λc2=>.inl ⟨rfl,O,by rw[akb (by simpa using c2)];exact J,B.drop⟩)));refine aA fY (aB (v:=.string x.name) gv B.p1.hb rfl (aA jI (aB (v:=ir x.at_) bO B.p1.hb rfl (pop (vI x.name x.at_ E.a E.n E.cap) ?_))));refine kG.mono (Y b4 _ _ _ _ _ _ _ ⟨_,E,px (i:=(sF x).length) (Zt c2),rfl,λ_ h=>h⟩ JX ⟨_,J,rfl⟩ B) ?_;rintro v w13 (⟨rfl,_,⟨M3,hI3,rfl⟩,hs3⟩|⟨rfl,V⟩)
   .exact bN (.inl ⟨rfl,M3,by rw[aka c2];exact hI3,hs3.drop⟩)
   exact bN (.inr ⟨rfl,V⟩)
  rintro _ OC (⟨rfl,O,J,B⟩|⟨rfl,V⟩) _;rotate_left
  .exact gO (.inr V)
  refine eR ?_;refine⟨λG w'=>(G=.bool false/\∃L,I ((oC (xs.take (k+1))).length) L/\St w0 A ((bX b4 (kp (⟨x.kind,x.ey,x.name,ge,U,x.n,x.body,x.ep,x.at_⟩:aZ)))::L) w')\/(G=.bool true/\Jx w'),?_,?_⟩
  .refine aA iV (aB (v:=jr ge) jo B.hb rfl (dR ahB (C193 _ y x.e 5 (oC xs) ((oC (xs.take k)).length+((sF x).length+(ug x).length)) w0 A (λj L=>∃M,I j M/\L=(bX b4 (kp (⟨x.kind,x.ey,x.name,ge,U,x.n,x.body,x.ep,x.at_⟩:aZ)))::M) Jx _ (by have:=hxz.1;omega) (λj L W ⟨M,h1,h2⟩ h3=>(hE1 _ _ _ h1 (h2▸h3).drop).1) ⟨_,⟨_,J,rfl⟩,B⟩ (λj _ XP=>by rw[Pt];exact px (i:=((sF x).length+(ug x).length)+j) (Zu XP)) (Y b4 _)) ?_));rintro v _ Z;rw[Pt]at Z
   rcases Z with⟨rfl,_,⟨O,J,rfl⟩,B⟩|⟨rfl,Z⟩
   .refine bN (eR (aA j1 (aB (v:=jr U) jo B.hb rfl (dR ahB (C193 _ y x.f 5 (oC xs) ((oC (xs.take k)).length+((sF x).length+(ug x).length+(qD x.e).length)) w0 A (λj L=>∃M,I j M/\L=(bX b4 (kp (⟨x.kind,x.ey,x.name,ge,U,x.n,x.body,x.ep,x.at_⟩:aZ)))::M) Jx _ (by have:=hxz.2;omega) (λj L W ⟨M,h1,h2⟩ h3=>(hE1 _ _ _ h1 (h2▸h3).drop).2) ⟨_,⟨_,J,rfl⟩,B⟩ (λj _ XP=>by rw[Pt];exact px (i:=((sF x).length+(ug x).length+(qD x.e).length)+j) (Zv XP)) (Y b4 _)) ?_))));rintro v _ Z;rw[Pt]at Z
    rcases Z with⟨rfl,_,⟨O,J,rfl⟩,B⟩|⟨rfl,Z⟩
    .exact bN (.inl ⟨rfl,O,by rw[HW hx,l0,Zw];exact J,B⟩)
    exact bN (.inr ⟨rfl,Z⟩)
   exact bN (gO (.inr ⟨rfl,Z⟩))
  rintro _ w17 (⟨rfl,O,J,B⟩|⟨rfl,V⟩) _;rotate_left
  .exact gO (.inr V)
  exact eR (aJ bL ⟨_,bL,k+1,rfl,rfl,bL,O,J,B.drop⟩)
 rw[la bL]at hI;exact .inl ⟨M1,hI,B⟩
def C113(lv:SV)(w:World):CR 113 [jr lv] w (λv w'=>∃b,v=.func (.func 192) [].toArray [.pointer (some ⟨b,0,none⟩)].toArray/\lf (bX b [jr lv]) w w'):=by
 have u:=St.start w;refine fb Tryz.func113 ?_;refine nx u rfl (λb _ u=>?_);exact⟨b,rfl,u.fresh⟩
variable (w:World) (K:Value->hM)
theorem ahC:PL 112:=dJ Tryz.func112
end Go.Proofs.YtpdlpabnlkofmaaGreatDoor
namespace Go.Proofs.YtpdlpabnlkofmaaGreatDoor
open Go.Fw
def FU:List SI->List ByteArray->Option (List SI)
 | g,[]=>some g
 | g,n::r=>if eB g n=0 then FU (g++[(n,5)]) r else none
def UZ(l:List SI)(names:List ByteArray):Option (List SI):=FU (l.filter λp=>decide (¬ p.2=4)) names
def aeA{g:List SI}{ns:List ByteArray}{k:Nat}{n:ByteArray}(h:ns[k]?=some n)(u:eB g n=0):FU g (ns.drop k)=FU (g++[(n,5)]) (ns.drop (k+1)):=by
 rw[drop_cons h,FU,ej u]
def aeB{g:List SI}{ns:List ByteArray}{k:Nat}{n:ByteArray}(h:ns[k]?=some n)(u:¬ eB g n=0):FU g (ns.drop k)=none:=by
 rw[drop_cons h,FU,ei u]
def arD(r:Option (List SI))(v:Value)(w w':World):Prop:=
 (r=none/\v=.tuple #[.map none,.bool true]/\Ext w w')\/∃g b,r=some g/\v=.tuple #[.map (some b),.bool false]/\lf (nj b g) w w'
def C112(tv:cB)(names:List ByteArray)(bm:Nat)(l:List SI)(w:World)(hf:cZ (λ_=>True) w (jr tv.dO) names)(E:uT w bm l)(hz:∀p∈l,p.2≠0)(hn:names.length<=1073741824) :
  CR 112 [jr tv,.map (some bm)] w (λv w'=>arD (UZ l names) v w w'):=by
 have u:=St.start w;have WA:=E.nodup;obtain⟨es,clock,HD,ie,Z⟩:=E;refine fb Tryz.func112 ?_;refine cP u (λM w1 u=>Mp u λI _ u=>HJ u Tryz.underlying165 (uS HD u.aF) λr13 _ u=>?_);refine⟨λW w1=>∃(seen:Array Nat) (O:List SI),W=(leftOf es seen).size/\(∀p,p∈O↔(p∈l/\¬ p.2=4/\∃e∈es.toList,seen.contains e.born=true/\e.key=.string p.1))/\St w aX [Fi r13 bm clock seen,nj I O,bX M (kp tv)] w1,⟨_,#[],[],rfl,λ_=>⟨λh=>(by cases h),λ⟨_,_,e,_,h,_⟩=>(by simp at h)⟩,u⟩,?_⟩;rintro W w4 ⟨seen,O,rfl,G,u⟩ _;refine Mg u (uS HD u.aF) ie.1 (λh0=>?_) (λe _ U u=>?_)
 .refine aO rfl (eR ?_);have u:=u.drop
  have hg:O.Perm (l.filter λp=>decide (¬ p.2=4)):=by
   have n1:O.Nodup:=(aaY.1 u.nj.nodup).imp λh e=>h (by rw[e]);have n2:l.Nodup:=(aaY.1 WA).imp λh e=>h (by rw[e]);refine(List.perm_ext_iff_of_nodup n1 (n2.filter _)).2 λp=>?_;rw[G,PA];refine⟨λ⟨h1,h2,_⟩=>⟨h1,ew h2⟩,λ⟨h1,h2⟩=>⟨h1,gM h2,?_⟩⟩;obtain⟨e,U,h3,_⟩:=Yf Z h1;exact⟨e,U,all_seen es seen h0 e U,h3⟩
  have u:St w aX [nj I (l.filter λp=>decide (¬ p.2=4)),bX M (kp tv)] w4:=u.qm λF hF=>⟨F,⟨hF.1.perm hg,hF.2⟩,λ_ hb=>.inl hb,gD.refl _ _⟩;refine aA fS (aB je u.p1.hb rfl (aI iu (hf.ext u.aF) ?_));refine⟨λW i w'=>∃(k:Nat) (g:List SI),i=ir (k:Int)/\W=names.length-k/\k<=names.length/\UZ l names=FU g (names.drop k)/\(∀p∈g,p.2≠0)/\St w aX [nj I g,bX M (kp tv)] w',⟨_,0,_,rfl,rfl,l2 _,rfl,λp hp=>hz p (PA.1 hp).1,u⟩,?_⟩;rintro W _ _ ⟨k,g,rfl,rfl,hk,DY,Y,u⟩ _;refine aN (aC (λFV=>?_) λFV=>?_)
  .obtain⟨y9,jT⟩:=gx names (i:=(k:Int).toNat) bL;refine aK iu (hf.ext u.aF) bL jT (λ_ AV=>aE gv AV (yo u.nj Tryz.underlying165 Tryz.underlying9 tB (bW (aC (λlK=>.inl ⟨DY.trans (aeB jT lK),rfl,u.drop.drop.aF⟩) λlK=>?_))));have V:eB g y9=0:=bL
   refine Mq u Tryz.underlying165 Tryz.underlying9 (Pq u.nj.nodup Y V) (λ_ u=>aJ bL ?_)
   exact⟨_,bL,k+1,_,rfl,rfl,bL,DY.trans (aeA jT V),λp hp=>by
    rcases pd.1 hp with h|h
    .exact Y p h
    .rw[vS.1 h];exact(by decide:(5:Int)≠0),u⟩
  refine .inr ⟨g,I,?_,rfl,u.p1.drop.fresh⟩;rw[DY,u6 bL];rfl
 refine aO rfl (gO ?_);have E:=mem_left U;refine HK u (uS HD u.aF) E.1 ie.2.1 ?_;obtain⟨p0,OE,B,hev⟩:=Ye Z E.1;rw[B,hev];refine aO rfl (aO rfl (bW ?_))
 have old:∀q∈O,q.1≠p0.1:=λq hq e=>by
  obtain⟨_,_,J,HX,h1,h2⟩:=(G q).1 hq;rw[e,<- B]at h2;obtain rfl:=key_inj ie.2.2 HX E.1 h2;exact absurd h1 (by simpa using E.2)
 refine aC (λm7=>?_) (λm7=>?_)
 .have u:=u.p1;refine Mq u Tryz.underlying165 Tryz.underlying9 old (λ_ u=>?_);have u:=u.p1;refine⟨_,left_shrinks es seen e U,seen.push e.born,_,rfl,λp=>?_,u⟩;rw[pd,vS,G]
  constructor
  .rintro(⟨h1,h2,J,h3,h4,h5⟩|rfl)
   .exact⟨h1,h2,J,h3,by simp at h4 |-;exact .inl h4,h5⟩
   exact⟨OE,m7,e,E.1,ee,B⟩
  rintro⟨h1,h2,J,h3,h4,h5⟩
  rcases sw h4 with h|h
  .exact .inl ⟨h1,h2,J,h3,h,h5⟩
  obtain rfl:=born_inj ie.2.1 h3 E.1 h;rw[B]at h5;injection h5 with h5;exact .inr (Yg WA h1 OE h5.symm)
 refine⟨_,left_shrinks es seen e U,seen.push e.born,O,rfl,λp=>?_,u⟩;rw[G]
 constructor
 .rintro⟨h1,h2,J,h3,h4,h5⟩;exact⟨h1,h2,J,h3,by simp at h4 |-;exact .inl h4,h5⟩
 rintro⟨h1,h2,J,h3,h4,h5⟩
 rcases sw h4 with h|h
 .exact⟨h1,h2,J,h3,h,h5⟩
 obtain rfl:=born_inj ie.2.1 h3 E.1 h;rw[B]at h5;injection h5 with h5;obtain rfl:=Yg WA h1 OE h5.symm;exact absurd h2 m7
theorem dM{ns:List ByteArray}{s:ByteArray}:0<=cU ns s↔s∈ns:=by
 have h:=Ch ns s
 grind
theorem Bg{ns:List ByteArray}{s:ByteArray}:cU ns s<0↔s ∉ ns:=by rw[<- dM];omega
theorem lQ{ns:List ByteArray}{s:ByteArray}(h:s∈ns):∃k:Nat,cU ns s=k/\ns[k]?=some s/\∀j,j<k->ns[j]?≠some s:=by
 unfold cU sg
 cases hf:ns.findIdx? (λy=>decide (y=s))with
 | none=>grind
 | some k=>
  obtain⟨h1,h2,h3⟩:=List.findIdx?_eq_some_iff_getElem.1 hf
  grind
def pP{ns:List ByteArray}{s:ByteArray}{k:Nat}(h:s∈ns):cU ns s<k↔s∈ns.take k:=by
 obtain⟨j,h1,h2,h3⟩:=lQ h
 rw[h1]
 constructor
 .intro B;exact yA.2 ⟨j,cD⟩
 intro u
 obtain⟨i,hi⟩:=yA.1 u
 grind
theorem nodup_iff(ns:List ByteArray):ns.Nodup↔∀(k:Nat) (s:ByteArray),ns[k]?=some s->s ∉ ns.take k:=by
 unfold List.Nodup
 rw[Ty]
 constructor
 .intro h k s G u
  obtain⟨i,hi⟩:=yA.1 u
  grind
 intro h i j hi E B I
 exact h j _ (lU E) (yA.2 ⟨i,cD⟩)
theorem zU(l:List cC):kr l=true↔¬ (l.map cC.name).Nodup:=by
 rw[nodup_iff]
 unfold kr
 rw[xy]
 constructor
 .rintro⟨j,B,h⟩ E
  have B:=Ns.1 B
  have J:l[j]?=some l[j]:=lU B
  rw[yq J,decide_eq_true_iff]at h
  have u:(l[j]).name∈l.map cC.name:=o1.2 ⟨_,abu B,rfl⟩
  exact E j _ cD ((pP u).1 h)
 intro E
 apply g7
 intro hc
 refine E λk s I u=>hc ⟨k,?_,?_⟩
 .grind
 rw[o6]at I
 obtain⟨c,G,rfl⟩:=J3.1 I
 rw[yq G,decide_eq_true_iff]
 exact(pP (x7 u)).2 u
def MU(p:cR)(rs:List ByteArray):uV p rs=true↔¬ rs.Nodup\/∃s∈rs,s∈cT p\/s∈cH p:=by
 rw[nodup_iff]
 unfold uV
 rw[xy]
 constructor
 .rintro⟨j,u,h⟩
  have u:=Ns.1 u
  have G:rs[j]?=some rs[j]:=lU u
  have E:=abu u
  rw[A5 G]at h
  simp only[zD,decide_eq_true_eq,dM]at h
  rcases h with(h|h)|h
  .exact .inl λB=>B j _ G ((pP E).1 h)
  .grind
  grind
 intro B
 rcases B with B|⟨s,J,hc⟩
 .apply g7
  intro hc
  refine B λk s I E=>hc ⟨k,Ns.2 (kE.1 I).1,?_⟩
  rw[A5 I]
  simp only[zD,decide_eq_true_eq]
  exact .inl (.inl ((pP (x7 E)).2 E))
 obtain⟨j,u⟩:=yA.1 J
 refine⟨j,Ns.2 (kE.1 u).1,?_⟩
 rw[A5 u]
 simp only[zD,decide_eq_true_eq,dM]
 rcases hc with hc|hc
 .exact .inl (.inr hc)
 exact .inr hc
def nmQ(p:cR):List (ByteArray×Int×Int):=Wf p++(UX p++Wg p)
theorem S6(p:cR):C7 p=Ah (nmQ p) ([],false,0):=by simp_all[SI,C7,Ah,nmQ]
theorem Cw(p:cR):(nmQ p).map (·.1)=(fO p).map cC.name:=by
 unfold nmQ Wf UX Wg fO
 rw[<- Bf]
 simp only[vG,Jz,n4]
 rfl
theorem Zx(p:cR):∀q∈nmQ p,q.2.1≠0:=by
 intro q u
 unfold nmQ Wf UX Wg C6 at u
 grind
theorem Zy:∀(l:List (ByteArray×Int×Int)) (st:List SI×Bool×Int),(∀q∈l,q.2.1≠0)->
  ((Ah l st).2.1=true↔st.2.1=true\/¬ (l.map (·.1)).Nodup\/∃q∈l,eB st.1 q.1≠0)
 | [],st,_=>by simp[Ah]
 | q::r,st,hz=>by
  have B:=Zy r (Zq st q) λq E=>hz q (qa _ E)
  have u:=hz q (o4 ..)
  have e:Ah (q::r) st=Ah r (Zq st q):=rfl
  rw[e,B]
  show twN st.1 q.1 st.2.1=true\/_\/(∃x∈r,eB (zT st.1 q.1 q.2.1) x.1≠0)↔_
  unfold twN
  rw[Ix,Li]
  simp only[zD,decide_eq_true_eq,Cs,o1,s4]
  grind
theorem Zz(p:cR):(C7 p).2.1=kr (fO p):=by
 rw[Le,S6,Zy _ _ (Zx p),zU,Cw]
 simp[eB]
theorem Qn:∀(l:List (ByteArray×Int×Int)) (st:List SI×Bool×Int) (n:ByteArray),n ∉ l.map (·.1)->eB (Ah l st).1 n=eB st.1 n
 | [],_,_,_=>rfl
 | q::r,st,n,h=>by
  rw[Ix,s4,not_or]at h
  have e:Ah (q::r) st=Ah r (Zq st q):=rfl
  rw[e,Qn r _ n h.2]
  show eB (zT st.1 q.1 q.2.1) n=_
  rw[Cs,ei λu=>h.1 u.symm]
theorem FW:∀(l:List (ByteArray×Int×Int)) (st:List SI×Bool×Int) (q:ByteArray×Int×Int),(l.map (·.1)).Nodup->q∈l->eB (Ah l st).1 q.1=q.2.1
 | x::r,st,q,hn,h=>by
  rw[Ix,Li]at hn
  have e:Ah (x::r) st=Ah r (Zq st x):=rfl
  rw[e]
  rcases s4.1 h with rfl|h
  .rw[Qn r _ _ hn.1]
   show eB (zT st.1 q.1 q.2.1) q.1=_
   rw[Cs,ej rfl]
  .exact FW r _ q hn.2 h
theorem ZA:∀(l:List (ByteArray×Int×Int)) (st:List SI×Bool×Int),(∀q∈l,q.2.1≠0)->(∀e∈st.1,e.2≠0)->∀e∈(Ah l st).1,e.2≠0
 | [],_,_,h=>h
 | q::r,st,hz,h=>ZA r (Zq st q) (λq u=>hz q (qa _ u)) (aeu h (hz q (o4 ..)))
def Qo(p:cR):∀e∈(C7 p).1,e.2≠0:=by
 rw[S6];exact ZA _ _ (Zx p) λe u=>by cases u
theorem ZB:∀(ls:List (List cC)) (k:Int) (q:cC×Int),q∈Ql k ls->k<=q.2/\q.2<k+ls.length
 | [],_,_,h=>by cases h
 | l::r,k,q,h=>by
  unfold Ql at h
  rcases pd.1 h with h|h
  .grind
  .have:=ZB r (k+1) q h;simp;omega
theorem ZC:∀(vs:List cC) (k:Int) (q:cC×Int),q∈OB k vs->k<=q.2
 | [],_,_,h=>by cases h
 | v::r,k,q,h=>by
  unfold OB at h
  rcases s4.1 h with rfl|h
  .omega
  .have:=ZC r (k+1) q h;omega
def tN(p:cR):List ByteArray:=p.iP.map cC.name
def aeD(p:cR):List ByteArray:=p.threads.map cK.name
theorem MV(p:cR):gm p=p.lines.flatten.map cC.name:=by
 unfold gm cT iJ eL
 rw[vG,Int.toNat_natCast,List.take_left' cD]
theorem qE(p:cR):cT p=gm p++tN p:=by
 rw[MV];unfold cT iJ tN;grind
theorem S7(p:cR):(fO p).map cC.name=gm p++tN p++(cH p++aeD p):=by
 rw[<- qE];unfold fO cT cH aeD
 simp_all
theorem S8{p:cR}(G:kr (fO p)=false)(s:ByteArray) :
  eB (C7 p).1 s=if 0<=cU (gm p) s then 1 else if 0<=cU (tN p) s then 2 else if 0<=cU (cH p) s then 3 else if 0<=cU (aeD p) s then 4 else 0:=by
 have hd:((fO p).map cC.name).Nodup:=g7 λh=>by rw[(zU _).2 h]at G;cases G
 have B:((nmQ p).map (·.1)).Nodup:=by rw[Cw];exact hd
 rw[S6]
 by_cases h1:s∈gm p
 .rw[ej (dM.2 h1)]
  rw[MV,<- JU p.lines 0]at h1
  obtain⟨c,hc,rfl⟩:=o1.1 h1
  obtain⟨q,u,rfl⟩:=o1.1 hc
  have E:(q.1.name,C6 p q.2,q.1.at_)∈nmQ p:=List.mem_append_left _ (o1.2 ⟨q,List.mem_append_left _ u,rfl⟩)
  have J:=ZB _ _ _ u
  exact(FW _ _ _ B E).trans (ei bL)
 rw[ei λh=>h1 (dM.1 h)]
 by_cases h2:s∈tN p
 .rw[ej (dM.2 h2)]
  unfold tN at h2
  rw[<- JV p.iP p.lines.length]at h2
  obtain⟨c,hc,rfl⟩:=o1.1 h2
  obtain⟨q,u,rfl⟩:=o1.1 hc
  have E:(q.1.name,C6 p q.2,q.1.at_)∈nmQ p:=List.mem_append_left _ (o1.2 ⟨q,List.mem_append_right _ u,rfl⟩)
  have I:=ZC _ _ _ u
  exact(FW _ _ _ B E).trans (ej I)
 rw[ei λh=>h2 (dM.1 h)]
 by_cases h3:s∈cH p
 .rw[ej (dM.2 h3)]
  obtain⟨c,hc,rfl⟩:=o1.1 h3
  exact FW _ _ (c.name,3,c.at_) B (List.mem_append_right _ (List.mem_append_left _ (o1.2 ⟨c,hc,rfl⟩)))
 rw[ei λh=>h3 (dM.1 h)]
 by_cases h4:s∈aeD p
 .rw[ej (dM.2 h4)]
  obtain⟨t,ht,rfl⟩:=o1.1 h4
  exact FW _ _ (t.name,4,t.at_) B (List.mem_append_right _ (List.mem_append_right _ (o1.2 ⟨t,ht,rfl⟩)))
 rw[ei λh=>h4 (dM.1 h),Qn _ _ _ (by rw[Cw,S7];grind)]
 rfl
def FX{α:Type}{l:List α}{f g:α->Bool}(h:∀x∈l,f x=g x):l.any f=l.any g:=by
 grind
theorem U1{g:List SI}{n k:ByteArray}{v:Int}(B:∀e∈g,e.2≠0)(h:eB g n=0):eB (g++[(n,v)]) k=if n=k then v else eB g k:=by
 induction g with
 | nil=>simp_all[eB,SI]
 | cons e r I=>
  have u:=B e (o4 ..)
  have J:¬ e.1=n:=λG=>by
   have:eB (e::r) n=e.2:=by simp_all[eB,SI]
   omega
  have E:eB r n=0:=by
   grind[eB]
  show(if e.1=k then e.2 else eB (r++[(n,v)]) k)=if n=k then v else(if e.1=k then e.2 else eB r k)
  grind
theorem HY:∀(ns:List ByteArray) (g:List SI),(∀e∈g,e.2≠0)->
  (FU g ns=none/\(¬ ns.Nodup\/∃s∈ns,eB g s≠0))\/∃I,FU g ns=some I/\ns.Nodup/\(∀s∈ns,eB g s=0)/\∀s,eB I s=if 0<=cU ns s then 5 else eB g s
 | [],g,_=>.inr ⟨g,rfl,List.nodup_nil,λs h=>(by cases h),λs=>by rw[ei];exactλh=>by cases dM.1 h⟩
 | n::r,g,hz=>by
  unfold FU
  split
  .rename_i hl
   have J:∀e∈g++[(n,(5:Int))],e.2≠0:=by
    grind
   have E:=λk=>U1 (k:=k) (v:=5) hz hl
   rcases HY r _ J with⟨h1,h2⟩|⟨I,h1,h2,h3,h4⟩
   .grind
   .have B:n ∉ r:=λM=>cD
    refine .inr ⟨I,h1,Li.2 ⟨B,h2⟩,λs u=>?_,λs=>?_⟩
    .rcases s4.1 u with rfl|u
     .exact hl
     .have:=h3 s u;rw[E,ei λe:n=s=>B (e▸u)]at this;exact this
    .rw[h4,E]
     by_cases u:s∈r
     .rw[ej (dM.2 u),ej (dM.2 (qa _ u))]
     .rw[ei λh=>u (dM.1 h)]
      by_cases G:n=s
      .rw[ej G,ej (dM.2 (by rw[G];exact o4 ..))]
      .rw[ei G,ei λh=>(s4.1 (dM.1 h)).elim (λe=>G e.symm) u]
  grind
theorem MW{l:List SI}(u:(l.map (·.1)).Nodup)(s:ByteArray):eB (l.filter λp=>decide (¬ p.2=4)) s=if eB l s=4 then 0 else eB l s:=by
 induction l with
 | nil=>rfl
 | cons e r B=>
  rw[Ix,Li]at u
  have B:=B u.2
  have I:e.1=s->eB r s=0:=λh=>zL λq G J=>u.1 (o1.2 ⟨q,G,cD⟩)
  have E:eB (e::r) s=if e.1=s then e.2 else eB r s:=rfl
  rw[List.filter_cons,E]
  by_cases h4:e.2=4
  .grind
  .rw[ej (by simp[h4])]
   show(if e.1=s then e.2 else eB _ s)=_
   grind
def ZD{l:List SI}{k:ByteArray}{v:Int}(h:(l.map (·.1)).Nodup):((zT l k v).map (·.1)).Nodup:=by
 unfold zT
 grind
theorem ZE(p:cR):((C7 p).1.map (·.1)).Nodup:=by
 rw[S6]
 have:∀(l:List (ByteArray×Int×Int)) (st:List SI×Bool×Int),(st.1.map (·.1)).Nodup->((Ah l st).1.map (·.1)).Nodup:=by
  intro l
  induction l with
  | nil=>intro st h;exact h
  | cons q r u=>intro st h;exact u (Zq st q) (ZD h)
 grind
theorem JZ{p:cR}(I:kr (fO p)=false)(rs:List ByteArray) :
  (UZ (C7 p).1 rs=none/\uV p rs=true)\/∃g,UZ (C7 p).1 rs=some g/\uV p rs=false/\(∀s∈rs,s ∉ cT p/\s ∉ cH p)/\
   ∀s,eB g s=if 0<=cU rs s then 5 else if 0<=cU (gm p) s then 1 else if 0<=cU (tN p) s then 2 else if 0<=cU (cH p) s then 3 else 0:=by
 have G:∀s,eB ((C7 p).1.filter λp=>decide (¬ p.2=4)) s=if 0<=cU (gm p) s then 1 else if 0<=cU (tN p) s then 2 else if 0<=cU (cH p) s then 3 else 0:=by
  intro s
  rw[MW (ZE p),S8 I]
  omega
 have hc:∀s,eB ((C7 p).1.filter λp=>decide (¬ p.2=4)) s≠0↔(s∈cT p\/s∈cH p):=by
  intro s
  rw[G,qE,pd,<- dM (ns:=gm p),<- dM (ns:=tN p),<- dM (ns:=cH p)]
  omega
 unfold UZ
 rcases HY rs ((C7 p).1.filter λp=>decide (¬ p.2=4)) (λe J=>Qo p e (PA.1 J).1)with⟨h1,h2⟩|⟨g,h1,h2,h3,h4⟩
 .refine .inl ⟨h1,(MU p rs).2 ?_⟩
  grind
 have E:∀s∈rs,s ∉ cT p/\s ∉ cH p:=λs u=>by
  have h:=h3 s u
  exact⟨λB=>(hc s).2 (.inl B) h,λB=>(hc s).2 (.inr B) h⟩
 refine .inr ⟨g,h1,?_,E,λs=>by rw[h4,G]⟩
 cases hr:uV p rs with
 | false=>rfl
 | true=>
  rcases(MU p rs).1 hr with h|⟨s,u,h⟩
  .grind
  .rcases h with h|h
   .exact absurd h (E s u).1
   .exact absurd h (E s u).2
def Dr(g:List SI)(u:UU):Bool:=!u.2.2.any λm=>decide (m=eB g u.1)
theorem MX{g:List SI}{rs:List ByteArray}(l:List bU)(h:∀s,eB g s=5↔s∈rs):(Ct l).any (Dr g)=oZ l rs:=by
 rw[Le]
 unfold Ct qD oZ Dr
 simp only[List.any_map,xy,PA,Function.comp_apply,U2,aaZ,Wo,u1,decide_eq_false_iff_not,oj,decide_eq_true_eq,Bg]
 grind
def Qp(p:cR)(s:ByteArray):s∈gm p↔0<=cU (cT p) s/\cU (cT p) s<eL p:=by
 rw[dM,show gm p=(cT p).take (eL p).toNat from rfl]
 have B:0<=eL p:=by unfold eL;omega
 constructor
 .intro h
  have u:=x7 h
  have:=(pP u).2 h
  exact⟨u,bL⟩
 rintro⟨h1,h2⟩;exact(pP h1).1 bL
theorem arE(k:Int):eP (fE k) 110=decide (k=2\/k=3\/k=4\/k=5\/k=6\/k=9\/k=10):=by
 unfold fE
 split
 .rw[ez bL];decide
 rename_i h
 obtain rfl|rfl|rfl|rfl|rfl|rfl|rfl|rfl|rfl|rfl|rfl|rfl|rfl|rfl:k=1\/k=2\/k=3\/k=4\/k=5\/k=6\/k=7\/k=8\/k=9\/k=10\/k=11\/k=12\/k=13\/k=14:=bL
 all_goals decide
theorem MY:gI ⟨#[]⟩=false:=dy
def aeE{p:cR}{rs:List ByteArray}{g:List SI}(E:∀s∈rs,s ∉ cT p/\s ∉ cH p)(G:∀s∈cT p,s ∉ cH p)(V:∀s∈gm p,s ∉ tN p)
  (B:∀s,eB g s=if 0<=cU rs s then 5 else if 0<=cU (gm p) s then 1 else if 0<=cU (tN p) s then 2 else if 0<=cU (cH p) s then 3 else 0) {x:bM}(M:aqb x) :
  (Cu x).any (Dr g)=nc p rs x:=by
 have I:∀s,eB g s=5↔s∈rs:=λs=>by
  rw[B,<- dM];omega
 have Z:∀s,eB g s=1↔s∈gm p:=λs=>by
  rw[B,<- dM]
  split
  .rename_i h
   have:=E s (dM.1 h)
   rw[qE,pd]at this
   refine⟨λh=>(by cases h),λh=>absurd (dM.1 h) λu=>this.1 (.inl u)⟩
  omega
 have Y:∀s,eB g s=2↔s∈tN p:=λs=>by
  rw[B]
  split
  .rename_i h
   have:=E s (dM.1 h)
   rw[qE,pd]at this
   grind
  .split
   .grind
   .rw[<- dM];omega
 have U:∀s,eB g s=3↔s∈cH p:=λs=>by
  rw[B]
  split
  .grind
  .split
   .rename_i h;exact⟨λh=>(by cases h),λu=>absurd u (G s (by rw[qE];grind))⟩
   .split
    .rename_i h;exact⟨λh=>(by cases h),λu=>absurd u (G s (by rw[qE];grind))⟩
    .rw[<- dM];omega
 have J:=M.name
 rw[arE]at J
 rw[Cv,Sj,Sj,Sj,MX x.e I,MX x.f I]
 have W:(sF x).any (Dr g)=(decide (¬ x.ey=⟨#[]⟩)&&decide (cU rs x.ey<0)):=by
  unfold sF
  split
  .grind
  .rename_i h
   rw[ew h,Et,Le]
   simp only[U2,aaZ,Wo,Dr,u1,decide_eq_false_iff_not,decide_eq_true_eq,Bg]
   grind
 have hB:(ug x).any (Dr g)=(((decide (x.kind=2)||decide (x.kind=3)||decide (x.kind=4))&&decide (cU (cT p) x.name<0)) ||
   ((decide (x.kind=5)||decide (x.kind=6))&&(decide (cU (cT p) x.name<0)||decide (eL p<=cU (cT p) x.name))) ||
   ((decide (x.kind=9)||decide (x.kind=10))&&decide (cU (cH p) x.name<0))):=by
  have hk:=M.kind
  unfold ug
  split
  .rename_i h
   have O:¬ (x.kind=2\/x.kind=3\/x.kind=4\/x.kind=5\/x.kind=6\/x.kind=9\/x.kind=10):=by
    intro u
    rcases J with⟨_,h2⟩|⟨h1,_⟩
    .rw[h,MY]at h2;cases h2
    grind
   grind
  .rename_i h
   have O:x.kind=2\/x.kind=3\/x.kind=4\/x.kind=5\/x.kind=6\/x.kind=9\/x.kind=10:=by
    grind
   have hc:=Qp p x.name
   rw[Le]
   unfold JY
   simp only[U2,aaZ,Wo,Dr,u1,zD,oj,decide_eq_true_eq,Bg]
   have e1:=Z x.name;have e2:=Y x.name;have e3:=U x.name
   have ec:x.name∈cT p↔x.name∈gm p\/x.name∈tN p:=by rw[qE,pd]
   have pn:=dM (ns:=cT p) (s:=x.name)
   grind
 rw[W,hB]
 unfold nc
 grind
def MZ{p:cR}(B:kr (fO p)=false):(∀s∈cT p,s ∉ cH p)/\∀s∈gm p,s ∉ tN p:=by
 have hd:((fO p).map cC.name).Nodup:=g7 λh=>by rw[(zU _).2 h]at B;cases B
 rw[S7,aa0]at hd
 obtain⟨h1,h2,h3⟩:=hd
 rw[aa0]at h1
 exact⟨λs u E=>h3 s (by rw[<- qE];exact u) s (List.mem_append_left _ E) rfl,λs u G=>h1.2.2 s u s G rfl⟩
def ZF{p:cR}{t:cK}{g:List SI}(u:kr (fO p)=false)(I:UZ (C7 p).1 t.dO=some g)(J:∀x∈t.body,m9 x=true):(oC t.body).any (Dr g)=t.body.any (nc p t.dO):=by
 rcases JZ u t.dO with⟨h1,_⟩|⟨M,h1,h2,h3,h4⟩
 .grind
 rw[I]at h1;cases h1
 obtain⟨E,G⟩:=MZ u
 unfold oC
 rw[List.any_flatMap]
 refine FX λx B=>aeE h3 E G h4 (yp (J x B))
def Qq{p:cR}(u:kr (fO p)=false)(l:List bU):(l.any λx=>decide (x.op=2)&&decide (¬ eB (C7 p).1 x.name=1))=oZ l (gm p):=by
 unfold oZ
 refine FX λx _=>?_
 congr 1
 refine fN.2 ?_
 rw[Bg,S8 u,<- dM]
 omega
variable (w:World) (K:Value->hM)
def S48(p0:Value):Prop:=
 qM hH (BF 27 p0) w λp1 a=>aL 31 a λb c=>aL 3 c λd e=>lA 27 p1 e λf=>cF 107 [f] e λg h=>xT g 0 λj=>xT g 1 λk=>xT g 2 λl=>lA 27 p1 h λn=>
 cF 108 [n] h λo p=>eK hH (Op.unary .not o) λq=>cV q (sA 31 b (i 8) p λs=>sA 3 d (i 0) s λt=>lA 31 b t λr=>lA 3 d t λLg=>K (.tuple #[r,Lg]) t) (lA 27 p1 p λu=>
 cF 109 [u] p λv x=>cV v (sA 31 b (i 2) x λy=>sA 3 d (i 0) y λz=>lA 31 b z λUk=>lA 3 d z λr_3=>K (.tuple #[Uk,r_3]) z) (lA 27 p1 x λaa=>cF 110 [aa] x λab ac=>
 lN 24 ab λad=>jR (λK1 Z J=>∀_:Env,
 bA .lss 3 Z ad λag=>cV ag (iA 24 ab Z λah=>lA 146 ah J λai=>aL 146 J λt8 aj=>sA 146 t8 ai aj λak=>fA 146 t8 2 λal=>lA 141 al ak λam=>cF 111 [am,(i 1)] ak λan ao=>
 xT an 0 λap=>xT an 1 λaq=>cV aq (sA 31 b (i 11) ao λar=>sA 3 d ap ar λasx=>lA 31 b asx λr_4=>lA 3 d asx λr_5=>K (.tuple #[r_4,r_5]) asx) (bB .add 3 Z (i 1) λau=>
 K1 au ao)) (cV l (sA 31 b (i 10) J λav=>sA 3 d k av λaw=>lA 31 b aw λr_6=>lA 3 d aw λr_7=>K (.tuple #[r_6,r_7]) aw) (lA 27 p1 J λax=>cF 110 [ax] J λay az=>
 lN 24 ay λa0=>jR (λK2 a2 W=>∀_:Env,
 bA .lss 3 a2 a0 λa4=>cV a4 (iA 24 ay a2 λa5=>lA 146 a5 W λa6=>aL 146 W λG a7=>sA 146 G a6 a7 λa8=>lA 146 G a8 λa9=>cF 112 [a9,j] a8 λba bb=>xT ba 0 λ_=>
 xT ba 1 λbc=>cV bc (fA 146 G 3 λbd=>lA 3 bd (drew bb) λbe=>sA 31 b (i 10) (drew bb) λbf=>kA 3 bd be bf (sA 3 d be bf λbg=>lA 31 b bg λr_8=>lA 3 d bg λr_9=>
 K (.tuple #[r_8,r_9]) bg)) (bB .add 3 a2 (i 1) λbh=>K2 bh bb)) (lA 27 p1 W λbi=>cF 110 [bi] W λbj bk=>lN 24 bj λbl=>od (λK3 ds bm V=>∀_:Env,
 bA .lss 3 bm bl λbo=>cV bo (iA 24 bj bm λbp=>lA 146 bp V λbq=>aL 146 V λE br=>sA 146 E bq br λbs=>lA 146 E bs λbt=>cF 112 [bt,j] bs λbu bv=>xT bu 0 λbw=>
 xT bu 1 λ_=>aL 165 bv λU bx=>sA 165 U bw bx λbz=>fA 146 E 2 λb0=>lA 141 b0 bz λb1=>cF 113 [b1] bz λb2 b3=>Aq hH b2 1 b3 (λa1 b4 B1 R1=>
 aL 177 b4 λB b5=>sA 177 B (Eo a1 0) b5 λb6=>B1 b6 λO=>fA 177 B 2 λb8=>lA 41 b8 O λb9=>lA 165 U O λca=>fA 177 B 0 λcb=>lA 9 cb O λcc=>
 GL hH (wo 165 ca cc false) O λcd=>cF 114 [b9,cd] O λce cf=>eK hH (Op.unary .not ce) λcg=>cV cg (fA 177 B 1 λch=>lA 3 ch (drew cf) λci=>
 sA 31 b (i 9) (drew cf) λcj=>kA 3 ch ci cj (sA 3 d ci cj λck=>R1 (some .ret) ck)) (R1 none cf)) (aft (λD cl=>bB .add 3 bm (i 1) λcm=>K3 (lF (D::(Ap ds))) cm cl)
 (λD cn=>mP (D::(Ap ds)) cn λco=>lA 31 b co λayB=>lA 3 d co λayC=>K (.tuple #[ayB,ayC]) co) λ_ _ _=>False)) (fA 27 p1 5 λcp=>lA 25 cp V λcq=>
 lN 25 cq λcr=>jR (λK4 cs ct=>∀_:Env,
 bA .lss 3 cs cr λcu=>cV cu (iA 25 cq cs λcv=>lA 85 cv ct λcw=>aL 85 ct λI cx=>sA 85 I cw cx λcy=>fA 85 I 0 λcz=>lA 82 cz cy λc0=>lN 82 c0 λc1=>
 jR (λY c2 c3=>∀_:Env,
 bA .lss 3 c2 c1 λc4=>cV c4 (iA 82 c0 c2 λc5=>lA 164 c5 c3 λc6=>aL 164 c3 λc7 c8=>sA 164 c7 c6 c8 λM=>eH (λK6=>fA 164 c7 0 λda=>lA 3 da M λdb=>
 bB .eql 3 db (i 2) λdc=>cV dc (fA 164 c7 2 λdd=>lA 9 dd M λde=>GL hH (wo 165 j de false) M λdf=>bB .neq 3 df (i 1) λdg=>K6 dg M) (K6 ff M))
 (λdh di=>∀_:Env,
 cV dh (fA 164 c7 3 λdj=>lA 3 dj (drew di) λdk=>sA 31 b (i 9) (drew di) λdl=>kA 3 dj dk dl (sA 3 d dk dl λdm=>mP (Ap ds) dm λdn=>lA 31 b dn λayD=>lA 3 d dn λayE=>
 K (.tuple #[ayD,ayE]) dn)) (bB .add 3 c2 (i 1) λdp=>Y dp di))) (bB .add 3 cs (i 1) λdq=>K4 dq c3)) λY=>Y (i 0) cy) (sA 31 b (i 0) ct λdr=>sA 3 d (i 0) dr λdt=>
 mP (Ap ds) dt λdu=>lA 31 b du λayF=>lA 3 d du λayG=>K (.tuple #[ayF,ayG]) du)) λK4=>K4 (i 0) V)) λK3=>K3 (lF []) (i 0) bk)) λK2=>K2 (i 0) az)))
 λK1=>K1 (i 0) ac))
def P48:dL:=λi=>match i with
 | 20=>(.of [(0,[]),(1,[]),(2,[1]),(3,[])])
 | 29=>(.of [(0,[]),(1,[]),(2,[1]),(3,[])])
 | 38=>(.of [(0,[]),(1,[]),(2,[1]),(3,[])])
 | _=>.nil
theorem akd(p0:Value)(h:S48 w K p0):CR 48 [p0] w K:=
 oe 128 P48 12 [.cell 2 31,.cell 3 3] Tryz.func48 h
theorem ayH:PL 48:=dJ Tryz.func48
theorem arG:PL 114:=dJ Tryz.func114
theorem arH:PL 194:=dJ Tryz.func194
end Go.Proofs.YtpdlpabnlkofmaaGreatDoor
namespace Go.Proofs.YtpdlpabnlkofmaaGreatDoor
open Go.Fw
def C194(M:Value)(ns:List Int)(s:Int)(w:World)(I:cZ (λ_=>True) w M ns)(W:ns.length<=1048576):CR 194 [M,ir s] w (λv w'=>v=ir (sg (λy=>decide (y=s)) ns)/\Ext w w'):=by
 have u:=St.start w;refine fb Tryz.func194 ?_;refine aI cQ (I.ext u.aF) ?_;refine⟨λm x J=>∃k:Nat,x=ir (k:Int)/\m=ns.length-k/\k<=ns.length/\(∀y∈ns.take k,decide (y=s)=false)/\St w aX [] J,⟨_,0,rfl,rfl,l2 _,ee,u⟩,?_⟩;rintro m _ J ⟨k,rfl,rfl,V,B,u⟩ _;refine aN (aC (λY=>?_) λ_=>⟨gL (n3 .i64) (jb (by rw[la bL]at B;exact B)).symm,u.aF⟩);obtain⟨U,E⟩:=gx ns (i:=(k:Int).toNat) bL;exact aK cQ I bL E (λ_ O=>aE bO (O.ext u.aF) (aG (aC (λG=>⟨gL (n3 .i64) (l6 B E (ew G.symm)).symm,u.aF⟩) λG=>aJ bL ⟨_,bL,k+1,rfl,rfl,bL,dY B E (ez λh=>G h.symm),u⟩)))
def C114(B:Value)(ns:List Int)(s:Int)(w:World)(E:cZ (λ_=>True) w B ns)(G:ns.length<=1048576):CR 114 [B,ir s] w (λv w'=>v=.bool (ns.any λy=>decide (y=s))/\Ext w w'):=by
 have u:=St.start w;refine fb Tryz.func114 ?_;exact aV arH u (C194 _ _ _ _ (E.ext u.aF) bL) (λ_ _ u=>cO ⟨vb (kN _ _),u.aF⟩)
def ZG{u:UU}{l:List bM}(h:u∈oC l):u.2.2.length<=1048576:=by
 have:u.2.2.length<=2:=by
  unfold oC at h
  obtain⟨x,_,h⟩:=List.mem_flatMap.1 h
  rw[Cv]at h
  unfold sF ug Ct JY at h
  simp only[pd]at h
  grind
 omega
theorem C48(p:cR)(pv:bP)(w:World)(hp:n5 w pv p)(V:PZ p):CR 48 [jr pv] w (λv w'=>∃a:Int,v=.tuple #[ir (fr p),ir a]/\Ext w w'):=by
 have OE:=hp;have ajJ:=DV V.toPS;obtain⟨bI,bR,bK,aT,aU,bG,rfl,cN,dD,cW,bY,bZ,cM⟩:=hp;obtain⟨J,Zd,Ze⟩:=bY.open;obtain⟨O,Qd,hD4⟩:=bZ.open;have hn3:=Ze.1;have hn4:=hD4.1;have hD:=Ze.append hD4;have ayI:=hD.1
 change (J++O).length=(gl p).length at ayI
 have E:=St.start w;refine akd _ _ _ ?_;unfold S48;refine cP E (λbp w1 E=>gV E aiN rfl λb2 _ E=>gV E tB rfl λb3 _ E=>aE fp E.p2.At (dR arx (C107 p _ _ (NB OE E.aF) V) ?_));rintro _ _ ⟨bm,rfl,cE⟩;have E:=E.made cE;refine aO rfl (aO rfl (aO rfl (aE fp E.p3.At (aV apT E (C108 p _ _ (NB OE E.aF) V) λ_ he E=>bN (aW (λc=>?_) λc=>?_)))))
 .have h1:ko p=false:=by simpa using c
  have Z:fr p=8:=ce8 h1;exact aR E.p2 jE (dQ rfl) rfl (λ_ E=>aR E.p2 bO (dQ rfl) rfl λ_ E=>aB jE E.p1.hb rfl (aB bO E.hb rfl ⟨_,by rw[Z],E.aF⟩))
 have h1:ko p=true:=by simpa using c
 refine aE fp E.p3.At (aV arj E (C109 p _ _ (NB OE E.aF) V) λ_ he E=>aW (λc=>?_) λc=>?_)
 .have h2:uW p=true:=c;have Z:fr p=2:=ce2 h1 h2;exact aR E.p2 jE (dQ rfl) rfl (λ_ E=>aR E.p2 bO (dQ rfl) rfl λ_ E=>aB jE E.p1.hb rfl (aB bO E.hb rfl ⟨_,by rw[Z],E.aF⟩))
 have h2:uW p=false:=c;refine aE fp E.p3.At (dB S0 E (C110 p _ J O _ (NB OE E.aF) (Zd.ext E.aF) (Qd.ext E.aF) (by have:=V.threads;omega) (by have:=V.recover;omega)) λx38 w38 cE E=>aI fu E.dS ?_);refine⟨λm x w1=>∃k:Nat,x=ir (k:Int)/\m=(J++O).length-k/\k<=(J++O).length/\(∀y∈(gl p).take k,qY y.body=false)/\St w aX [bF x38 (J++O),nj bm (C7 p).1,bX b3 [ir 0],bX b2 [ir 0],bX bp (kp (⟨bI,bR,bK,aT,aU,bG⟩:bP))] w1,⟨_,0,rfl,rfl,l2 _,ee,E⟩,?_⟩;rintro m _ _ ⟨k,rfl,rfl,hk,I,E⟩ _
 refine aN (aC (λc=>?_) λc=>?_)
 .obtain⟨t,ht⟩:=gx (J++O) (i:=((k:Nat):Int).toNat) bL;obtain⟨r,G⟩:=gx (gl p) (i:=k) bL;have U:=kO G;have hrz:=V.rF U;have hrr:=(qB h1).rF U;obtain⟨gr,gb,rfl,dr,db⟩:=hD.2 _ _ _ ht G;have hrs:=lr hrr.2.1;refine aK fu E.dS bL ht (λq hq=>aE m6 hq (aQ E tE λbt wt E=>aM (x:=(⟨r.name,gr,gb,r.at_⟩:cB)) E m6 rfl rfl λwu E=>?_));obtain⟨aqC,hbf,tb,hbt,ie,_,_⟩:=hrs;have Hu:tb.len<=40:=by rw[<- Bk.cX,<- hbt];exact aqC
  have hwl:qY r.body=mC tb 1:=by rw[hbt];exact vE ie
  refine aA lG (aB (v:=jr gb) jG E.hb rfl (dR ahz (C111 _ tb 1 (tb.len+1) _ (by rw[<- hbt];exact DL.ext db E.aF) ie (by rw[<- hbt];exactλx hx=>JH (hbf x hx)) bL bL (Nat.lt_succ_self _)) ?_));rintro _ _ ⟨aa,rfl,he⟩;have E:=E.ext he;refine aO rfl (aO rfl (aW (λc9=>?_) λc9=>?_))
  .have h3:(gl p).any (λt=>qY t.body)=true:=gY G (by rw[hwl];exact c9);have Z:fr p=11:=aqc h1 h2 h3;exact aR E.p4 jE (dQ rfl) rfl (λ_ E=>aR E.p4 bO (dQ rfl) rfl λ_ E=>aB jE E.p1.hb rfl (aB bO E.hb rfl ⟨_,by rw[Z],E.aF⟩))
  exact aJ bL (have E:=E.drop;⟨_,bL,k+1,rfl,rfl,bL,dY I G (by rw[hwl];exact c9),E⟩)
 have h3:(gl p).any (λt=>qY t.body)=false:=ix (by rw[la bL]at I;exact I);have E:=E.drop;refine aW (λc10=>?_) (λc10=>?_)
 .have h4:kr (fO p)=true:=by rw[<- Zz];exact c10
  have Z:fr p=10:=aqd h1 h2 h3 h4;exact aR E.p2 jE (dQ rfl) rfl (λ_ E=>aR E.p2 bO (dQ rfl) rfl λ_ E=>aB jE E.p1.hb rfl (aB bO E.hb rfl ⟨_,by rw[Z],E.aF⟩))
 have h4:kr (fO p)=false:=by rw[<- Zz];exact c10
 refine aE fp E.p3.At (dB S0 E (C110 p _ J O _ (NB OE E.aF) (Zd.ext E.aF) (Qd.ext E.aF) (by have:=V.threads;omega) (by have:=V.recover;omega)) λx56 _ cE E=>aI fu E.dS ?_)
 clear I
 refine⟨λm x w1=>∃k:Nat,x=ir (k:Int)/\m=(J++O).length-k/\k<=(J++O).length/\(∀y∈(gl p).take k,uV p y.dO=false)/\St w aX [bF x56 (J++O),nj bm (C7 p).1,bX b3 [ir 0],bX b2 [ir 0],bX bp (kp (⟨bI,bR,bK,aT,aU,bG⟩:bP))] w1,⟨_,0,rfl,rfl,l2 _,ee,E⟩,?_⟩;rintro m _ _ ⟨k,rfl,rfl,hk,I,E⟩ _;refine aN (aC (λc=>?_) λc=>?_)
 .obtain⟨t,ht⟩:=gx (J++O) (i:=((k:Nat):Int).toNat) bL;obtain⟨r,G⟩:=gx (gl p) (i:=k) bL;have U:=kO G;have hrz:=V.rF U;have hrr:=(qB h1).rF U;obtain⟨gr,gb,rfl,dr,db⟩:=hD.2 _ _ _ ht G;have hrs:=lr hrr.2.1;refine aK fu E.dS bL ht (λq hq=>aE m6 hq (aQ E tE λbt wt E=>aM (x:=(⟨r.name,gr,gb,r.at_⟩:cB)) E m6 rfl rfl λwu E=>aE m6 E.At (dR ahC (C112 (⟨r.name,gr,gb,r.at_⟩:cB) r.dO bm (C7 p).1 _ (DL.flat (DL.ext dr E.aF)) E.p2.nj (Qo p) bL) ?_)))
  rcases JZ h4 r.dO with⟨uZ,DY⟩|⟨g,uZ,DY,_⟩
  .rintro _ w24 (⟨_,rfl,he⟩|⟨g,bg,JI,_⟩);rotate_left
   .rw[uZ]at JI;cases JI
   have E:=E.ext he;have h5:(gl p).any (λt=>uV p t.dO)=true:=gY G DY;refine aO rfl (aO rfl (gO (aA qo (have E:=E.drew;aB (v:=ir r.at_) bO E.hb rfl ?_))));have Z:fr p=10:=ahn h1 h2 h3 h4 h5;refine aR E.p4 jE (dQ rfl) rfl (λwa E=>?_);refine⟨aH bO (E.p1.hb.cell rfl),?_⟩;exact aR E.p4 bO (dQ rfl) rfl (λ_ E=>aB jE E.p1.hb rfl (aB bO E.hb rfl ⟨_,by rw[Z],E.aF⟩))
  rintro _ w24 (⟨JI,_⟩|⟨g2,bg,JI,rfl,cE⟩)
  .rw[uZ]at JI;cases JI
  have E:=(E.made cE).drop.drop;exact aO rfl (aO rfl (eR (aJ bL ⟨_,bL,k+1,rfl,rfl,bL,dY I G DY,E⟩)))
 have h5:(gl p).any (λt=>uV p t.dO)=false:=ix (by rw[la bL]at I;exact I);have E:=E.drop;refine aE fp E.p3.At (dB S0 E (C110 p _ J O _ (NB OE E.aF) (Zd.ext E.aF) (Qd.ext E.aF) (by have:=V.threads;omega) (by have:=V.recover;omega)) λx73 _ cE E=>aI fu E.dS ?_)
 clear I
 have E:=Qm.nil E;refine⟨λm dv x w1=>∃(k:Nat) (ds:List Nat),dv=lF ds/\x=ir (k:Int)/\m=(J++O).length-k/\k<=(J++O).length/\(∀y∈(gl p).take k,y.body.any (nc p y.dO)=false)/\St w aX [Qm ds,bF x73 (J++O),nj bm (C7 p).1,bX b3 [ir 0],bX b2 [ir 0],bX bp (kp (⟨bI,bR,bK,aT,aU,bG⟩:bP))] w1,⟨_,0,[],rfl,rfl,rfl,l2 _,ee,E⟩,?_⟩;rintro m _ _ _ ⟨k,ds,rfl,rfl,rfl,hk,I,E⟩ _;rw[BV];refine aN (aC (λc=>?_) λc=>?_)
 .obtain⟨t,ht⟩:=gx (J++O) (i:=((k:Nat):Int).toNat) bL;obtain⟨r,G⟩:=gx (gl p) (i:=k) bL;have U:=kO G;have hrz:=V.rF U;have hrr:=(qB h1).rF U;obtain⟨gr,gb,rfl,dr,db⟩:=hD.2 _ _ _ ht G;have hrs:=lr hrr.2.1;refine aK fu E.p1.dS bL ht (λq hq=>aE m6 hq (aQ E tE λbt wt E=>aM (x:=(⟨r.name,gr,gb,r.at_⟩:cB)) E m6 rfl rfl λwu E=>?_))
  have h5r:uV p r.dO=false:=by
   cases hh:uV p r.dO with
   | false=>rfl
   | true=>exact absurd (gY (g:=λt:cK=>uV p t.dO) G hh) (by rw[h5];decide)
  refine aE m6 E.At (dR ahC (C112 (⟨r.name,gr,gb,r.at_⟩:cB) r.dO bm (C7 p).1 _ (DL.flat (DL.ext dr E.aF)) E.p3.nj (Qo p) bL) ?_)
  rcases JZ h4 r.dO with⟨_,DY⟩|⟨g,uZ,DY,_⟩
  .rw[DY]at h5r;cases h5r
  rintro _ w31 (⟨JI,_⟩|⟨g2,bg,JI,rfl,cE⟩)
  .rw[uZ]at JI;cases JI
  obtain rfl:g=g2:=ob.inj (uZ.symm.trans JI);have E:=E.made cE;refine aO rfl (aO rfl (gV E Sa rfl λb17 _ E=>aR E Hw (dQ rfl) rfl λ_ E=>aA lG (aB (v:=jr gb) jG E.p2.hb rfl (dR arz (C113 gb _) ?_))));rintro _ _ ⟨bu,rfl,arK⟩;have E:=E.made arK;have hbz:=hrz.1.2.2;have arL:=ZF h4 uZ hrs.2.1;obtain⟨tsb,hRb,hDb⟩:=db.open
  refine Zr (cap:=[.pointer (some ⟨bu,0,none⟩)]) (oC r.body).length (S4 (oC r.body)) arA E
   (λj M=>(∀i,i<j->∀u,(oC r.body)[i]?=some u->Dr g u=false)/\M=[bX bu [jr gb],bX b17 [.map (some bg)],nj bg g,bX bt (kp (⟨r.name,gr,gb,r.at_⟩:cB)),Qm ds,bF x73 (J++O),nj bm (C7 p).1,bX b3 [ir 0],bX b2 [ir 0],bX bp (kp (⟨bI,bR,bK,aT,aU,bG⟩:bP))])
   (λcx M=>cx=.ret/\(oC r.body).any (Dr g)=true/\∃a L,M=bX b3 [ir a]::bX b2 [ir 9]::Qm ds::L) ⟨λ_ hi=>absurd hi (Nat.not_lt_zero _),rfl⟩ (by rintro j a Φ ⟨u,s,_,rfl,_⟩;rfl) ?_ ?_ ?_ ?_ ?_ ?_
  .intro y Y Jx W h0 hy;refine(C192 y bu (jr gb) tsb r.body w aX _ Jx W bL (λx hx=>⟨(hbz x hx).2.2.1,(hbz x hx).2.2.2.1⟩) ?_ ?_ hy).mono λ_ _ rr=>rr.mono λv W' h=>?_
   .rintro j _ W2 ⟨M,⟨_,rfl⟩,rfl⟩ hs2;exact⟨hs2.p1.hb.cell rfl,hRb.ext hs2.aF,hDb.ext hs2.aF⟩
   .obtain⟨M,h1,h2⟩:=h0;exact⟨_,⟨M,h1,rfl⟩,h2⟩
   rcases h with⟨_,⟨M,h1,rfl⟩,h2⟩|h
   .exact .inl ⟨M,h1,h2⟩
   exact .inr h
  .rintro j args Φ Y1 Y2 B Kr M W ⟨u,s,hu,rfl,UY⟩ ⟨hjn,rfl⟩ hΦ hB hN hR E;dsimp only[Eo];refine aQ E ac5 (λb9 _ E=>aM (x:=(⟨u.1,u.2.1,s⟩:JW)) E aoS rfl rfl λ_ E=>?_);refine hB _ _ _ E.p1 (λw38 E=>?_);refine aA Xf (aB (v:=jr s) dX E.p1.hb rfl (aB Hw E.p3.hb rfl (aA Xd (aB (v:=.string u.1) gv E.p1.hb rfl (yo E.p4.nj Tryz.underlying165 Tryz.underlying9 tB ?_)))))
   have V5:cZ (λ_=>True) w38 (jr s) u.2.2:=by
    obtain⟨F,h1,_⟩:=E.head;exact UY _ (hΦ _ _ h1)
   have hul:u.2.2.length<=1048576:=ZG (kO hu);refine aV arG E (C114 _ u.2.2 (eB g u.1) _ V5 hul) (λ_ he E=>bN (aW (λc11=>aA Xe (have E:=E.drew;aB (v:=ir u.2.1) bO E.p1.hb rfl (have E:=E.p2.drop;aR E.p9 jE (dQ rfl) rfl λ_ E=>⟨aH bO (E.p2.hb.cell rfl),aR E.p9 bO (dQ rfl) rfl λ_ E=>hR .ret _ _ E.p7.p2.p2.p3 ⟨rfl,gY hu (by unfold Dr;exact c11),_,_,rfl⟩⟩))) λc11=>?_));refine hN _ _ E.p1.drop ⟨λi hi u2 hu2=>?_,rfl⟩
   rcases Pk i j with h|h
   .exact hjn i h u2 hu2
   obtain rfl:i=j:=bL
   rw[hu]at hu2;cases hu2
   unfold Dr;exact c11
  .rintro D M W ⟨hjn,rfl⟩ E;refine aJ bL ?_;have E:=St.join (H1:=nG D (.deferred (some []))) E.p1.drop.p1.drop.p1.drop.p1.drop;refine⟨_,bL,k+1,D::ds,rfl,rfl,rfl,bL,dY I G ?_,E⟩;rw[<- arL];refine ix λu hu=>?_;obtain⟨i,hi⟩:=yA.1 hu;exact hjn i (kE.1 hi).1 u hi
  .rintro D M W ⟨_,ayL,a,L,rfl⟩ E;have h6:(gl p).any (λt=>t.body.any (nc p t.dO))=true:=gY G (by rw[<- arL];exact ayL);have Z:fr p=9:=ce9 h1 h2 h3 h4 h5 h6;have E:=St.join (H1:=nG D (.deferred (some []))) E.p3.p1;refine Qm.take (D::ds) E (λ_ E=>?_);exact aB jE E.p1.hb rfl (aB bO E.hb rfl ⟨_,by rw[Z],E.aF⟩)
  .rintro id D M W ⟨h,_⟩;cases h
  rintro cx M ⟨h,_⟩;exact .inr h
 have h6:(gl p).any (λt=>t.body.any (nc p t.dO))=false:=ix (by rw[la bL]at I;exact I);have E:=E.p1.drop;have hzc:=V.dV;obtain⟨ts5,hR5,hD5⟩:=cM.open;have D1:=hD5.1;refine aA jn (aB (v:=jr bG) qN E.p4.hb rfl (aI tf (hR5.ext E.aF) ?_))
 clear I
 refine⟨λm x w1=>∃k:Nat,x=ir (k:Int)/\m=ts5.length-k/\k<=ts5.length/\(∀y∈p.dV.take k,oZ y.e (gm p)=false)/\St w aX [Qm ds,nj bm (C7 p).1,bX b3 [ir 0],bX b2 [ir 0],bX bp (kp (⟨bI,bR,bK,aT,aU,bG⟩:bP))] w1,⟨_,0,rfl,rfl,l2 _,ee,E⟩,?_⟩;rintro m _ _ ⟨k2,rfl,rfl,uR,I,E⟩ _;refine aN (aC (λc12=>?_) λc12=>?_)
 .obtain⟨t,ht⟩:=gx ts5 (i:=((k2:Nat):Int).toNat) bL;obtain⟨r,G⟩:=gx p.dV (i:=k2) bL;have hrz:=V.zc r (kO G);obtain⟨ge,rfl,de⟩:=hD5.2 _ _ _ ht G;have dE:=DL.flat de;refine aK tf (hR5.ext E.aF) bL ht (λq hq=>aE Ji hq (aQ E O0 λbc _ E=>aM (x:=(⟨ge,r.at_⟩:jq)) E Ji rfl rfl λ_ E=>aA vx (aB (v:=jr ge) jo E.hb rfl (aI gU (dE.ext E.aF) ?_))));have hvc:=Qq h4 r.e;refine⟨λm x w1=>∃j:Nat,x=ir (j:Int)/\m=r.e.length-j/\j<=r.e.length/\(∀y∈r.e.take j,(decide (y.op=2)&&decide (¬ eB (C7 p).1 y.name=1))=false)/\St w aX [bX bc (kp (⟨ge,r.at_⟩:jq)),Qm ds,nj bm (C7 p).1,bX b3 [ir 0],bX b2 [ir 0],bX bp (kp (⟨bI,bR,bK,aT,aU,bG⟩:bP))] w1,⟨_,0,rfl,rfl,l2 _,ee,E⟩,?_⟩
  rintro m _ _ ⟨j,rfl,rfl,hj,hnj,E⟩ _;refine aN (aC (λWh=>?_) λWh=>?_)
  .obtain⟨y,hy⟩:=gx r.e (i:=((j:Nat):Int).toNat) bL;refine aK gU (dE.ext E.aF) bL hy (λq hq=>aE rW hq (aQ E yg λby_ _ E=>aM (x:=y) E rW rfl rfl λw50 E=>?_));refine⟨λjv w'=>jv=.bool (decide (y.op=2)&&decide (¬ eB (C7 p).1 y.name=1))/\w'=w50,?_,?_⟩
   .exact aA eX (aB (v:=ir y.op) bO E.hb rfl (aG (aC (λc14=>aA gj (aB (v:=.string y.name) gv E.hb rfl (yo E.p3.nj Tryz.underlying165 Tryz.underlying9 tB (bW ⟨vb (by rw[ew c14,Et]),rfl⟩)))) λc14=>⟨vb (by rw[ez c14,Tv]),rfl⟩)))
   rintro _ _ ⟨rfl,rfl⟩ _;refine aW (λc15=>?_) (λc15=>aJ bL ⟨_,bL,j+1,rfl,rfl,bL,dY hnj hy c15,E.drop⟩);have h7:p.dV.any (λc=>oZ c.e (gm p))=true:=gY G (by rw[<- hvc];exact gY hy c15);have Z:fr p=9:=aqe h1 h2 h3 h4 h5 h6 h7;refine aA rX (have E:=E.drew;aB (v:=ir y.at_) bO E.hb rfl (aR E.p5 jE (dQ rfl) rfl λwa E=>?_));refine⟨aH bO (E.p1.hb.cell rfl),?_⟩;refine aR E.p5 bO (dQ rfl) rfl (λwb E=>?_);refine Qm.take ds E.p4 (λw54 E=>?_);exact aB jE E.p1.hb rfl (aB bO E.hb rfl ⟨_,by rw[Z],E.aF⟩)
  refine aJ bL ?_;refine⟨_,bL,k2+1,rfl,rfl,bL,dY I G ?_,E.drop⟩;rw[<- hvc];exact ix (by rw[la bL]at hnj;exact hnj)
 have h7:p.dV.any (λc=>oZ c.e (gm p))=false:=ix (by rw[la bL]at I;exact I);have Z:fr p=0:=ce0 h1 h2 h3 h4 h5 h6 h7;refine aR E.p3 jE (dQ rfl) rfl (λwa E=>aR E.p3 bO (dQ rfl) rfl λwb E=>?_);refine Qm.take ds E.p2 (λw54 E=>?_);exact aB jE E.p1.hb rfl (aB bO E.hb rfl ⟨_,by rw[Z],E.aF⟩)
def U3{α:Type}(l:List α)(n:Nat):l.take (min (l.length:Int) n).toNat=l.take n:=by
 rcases Pk l.length n with h|h
 .rw[la bL,la bL]
 grind
def C83(E:Value)(xs:List Int)(w:World)(G:cZ (λ_=>True) w E xs)(O:xs.length<=1000000):CR 83 [E] w (λv w'=>lf (bF v xs) w w'):=by
 have u:=St.start w;refine fb Tryz.func83 ?_;refine B5 Tryz.underlying41 (G.ext u.aF) (λp I=>aW (λB=>?_) λB=>?_)
 .have M:=I B;subst M;exact(u.eU (α:=Int)).fresh
 refine bD ([]:List Int) u cQ rfl rfl (dQ rfl) (λU _ u=>?_);have J:=(G.ext u.aF);exact bJ u cQ J (by simp;omega) dy (λ_ _ u=>u.fresh)
def jU(x y:bH):Bool:=decide (x.kind≠7/\y.kind≠7/\(x.kind=6\/y.kind=6)/\x.line≠y.line)
def right(x:bH):Bool:=decide ((x.kind=3/\0<=x.line/\0<=x.cell)\/((x.kind=5\/x.kind=6)/\0<=x.line/\x.cell=0/\x.n=0)\/(x.kind=7/\x.line=0/\x.cell=0/\x.n=0))
def C260(x y:bH)(w:World):CR 260 [jr x,jr y] w (λv w'=>v=.bool (jU x y)/\Ext w w'):=by
 have u:=St.start w;refine fb Tryz.func260 ?_;refine cP u (λU _ u=>cP u λO _ u=>?_);refine⟨_,?_,λ_ _ h=>h⟩;refine aA gH (aB bO u.p1.hb rfl (aG (aC (λG=>?_) λG=>?_)))
 .intro J;refine⟨_,?_,λ_ _ h=>h⟩;refine bN (eR ?_);intro B;refine⟨vb ?_,u.aF⟩;unfold jU
  first|exact(ew bL).symm|exact(ez bL).symm|exact fN.2 bL|exact fN.2 (bH.ext_iff.trans (by dsimp only;omega))
 refine aA gH (aB bO u.hb rfl (aG ?_));intro J;refine⟨_,?_,λ_ _ h=>h⟩
 first|refine Ew ?_|refine bN ?_
 refine aC (λM=>aA gH (aB bO u.p1.hb rfl (aG (aC (λI=>?_) λI=>aA gH (aB bO u.hb rfl (aG (aC (λE=>?_) λE=>?_))))))) (λM=>?_)
 .refine aA gX (aB bO u.p1.hb rfl (aA gX (aB bO u.hb rfl (bW ?_))));intro B;refine⟨vb ?_,u.aF⟩;unfold jU
  first|exact(ew bL).symm|exact(ez bL).symm|exact fN.2 bL|exact fN.2 (bH.ext_iff.trans (by dsimp only;omega))
 .refine aA gX (aB bO u.p1.hb rfl (aA gX (aB bO u.hb rfl (bW ?_))));intro B;refine⟨vb ?_,u.aF⟩;unfold jU
  first|exact(ew bL).symm|exact(ez bL).symm|exact fN.2 bL|exact fN.2 (bH.ext_iff.trans (by dsimp only;omega))
 .intro B;refine⟨vb ?_,u.aF⟩;unfold jU
  first|exact(ew bL).symm|exact(ez bL).symm|exact fN.2 bL|exact fN.2 (bH.ext_iff.trans (by dsimp only;omega))
 intro B;refine⟨vb ?_,u.aF⟩;unfold jU
 first|exact(ew bL).symm|exact(ez bL).symm|exact fN.2 bL|exact fN.2 (bH.ext_iff.trans (by dsimp only;omega))
def C222(x y:bH)(w:World):CR 222 [jr x,jr y] w (λv w'=>v=.bool (jU x y)/\Ext w w'):=by
 have u:=St.start w;refine fb Tryz.func222 ?_;refine cP u (λU _ u=>cP u λB _ u=>?_);refine⟨_,?_,λ_ _ h=>h⟩;refine aA gH (aB bO u.p1.hb rfl (aG (aC (λI=>?_) λI=>aA gH (aB bO u.hb rfl (aG (aC (λG=>?_) λG=>?_))))))
 .intro E;refine gO ?_;refine⟨vb ?_,u.aF⟩;unfold jU
  first|exact(ew bL).symm|exact(ez bL).symm|exact fN.2 bL|exact fN.2 (bH.ext_iff.trans (by dsimp only;omega))
 .intro E;refine gO ?_;refine⟨vb ?_,u.aF⟩;unfold jU
  first|exact(ew bL).symm|exact(ez bL).symm|exact fN.2 bL|exact fN.2 (bH.ext_iff.trans (by dsimp only;omega))
 refine aA gX (aB bO u.p1.hb rfl (aA gX (aB bO u.hb rfl (aG ?_))));intro E;refine aC (λJ=>?_) (λJ=>⟨_,aA gH (aB bO u.p1.hb rfl (aG (aC (λM=>?_) λM=>?_))),λ_ _ h=>h⟩)
 .refine⟨vb ?_,u.aF⟩;unfold jU
  first|exact(ew bL).symm|exact(ez bL).symm|exact fN.2 bL|exact fN.2 (bH.ext_iff.trans (by dsimp only;omega))
 .intro O;refine⟨vb ?_,u.aF⟩;unfold jU
  first|exact(ew bL).symm|exact(ez bL).symm|exact fN.2 bL|exact fN.2 (bH.ext_iff.trans (by dsimp only;omega))
 refine aA gH (aB bO u.hb rfl (aG ?_));intro O;refine⟨vb ?_,u.aF⟩;unfold jU
 first|exact(ew bL).symm|exact(ez bL).symm|exact fN.2 bL|exact fN.2 (bH.ext_iff.trans (by dsimp only;omega))
def eqE(x y:bH):rQ (kp x) (kp y)=decide (x=y):=by
 obtain⟨a,b,c,d⟩:=x
 obtain⟨B,b2,u,E⟩:=y
 simp[kp,rQ,eqV,Le]
def C228(x:bH)(w:World):CR 228 [jr x] w (λv w'=>v=.bool (right x)/\Ext w w'):=by
 have u:=St.start w;refine fb Tryz.func228 ?_;refine cP u (λW _ u=>aA gH (aB bO u.hb rfl (aG (aC (λV=>⟨_,aA gX (aB bO u.hb rfl (cO (aC (λU=>?_) λU=>?_))),λ_ _ h=>h⟩) λV=>⟨_,aG (aC (λJ=>?_) λJ=>?_),λ_ _ h=>h⟩))))
 .refine aA mn (aB bO u.hb rfl (cO ?_));intro O;refine⟨vb ?_,u.aF⟩;unfold right
  first|exact(ew bL).symm|exact(ez bL).symm|exact fN.2 bL|exact fN.2 (bH.ext_iff.trans (by dsimp only;omega))
 .intro O;refine⟨vb ?_,u.aF⟩;unfold right
  first|exact(ew bL).symm|exact(ez bL).symm|exact fN.2 bL|exact fN.2 (bH.ext_iff.trans (by dsimp only;omega))
 .intro M;refine aC (λI=>⟨_,aA gX (aB bO u.hb rfl (cO (aC (λG=>aA mn (aB bO u.hb rfl (aG (aC (λE=>?_) λE=>?_)))) λG=>?_))),λ_ _ h=>h⟩) (λI=>?_)
  .refine aA oM (aB bO u.hb rfl (aG ?_));intro B;refine⟨vb ?_,u.aF⟩;unfold right
   first|exact(ew bL).symm|exact(ez bL).symm|exact fN.2 bL|exact fN.2 (bH.ext_iff.trans (by dsimp only;omega))
  .intro B;refine⟨vb ?_,u.aF⟩;unfold right
   first|exact(ew bL).symm|exact(ez bL).symm|exact fN.2 bL|exact fN.2 (bH.ext_iff.trans (by dsimp only;omega))
  .intro B;refine⟨vb ?_,u.aF⟩;unfold right
   first|exact(ew bL).symm|exact(ez bL).symm|exact fN.2 bL|exact fN.2 (bH.ext_iff.trans (by dsimp only;omega))
  refine aE ij u.At (pop (AH _) (oo Xp rfl rfl (eqE x ⟨7,0,0,0⟩) ?_));refine⟨vb ?_,u.aF⟩;unfold right
  first|exact(ew bL).symm|exact(ez bL).symm|exact fN.2 bL|exact fN.2 (bH.ext_iff.trans (by dsimp only;omega))
 refine aG ?_;intro M;refine aC (λI=>⟨_,aA gX (aB bO u.hb rfl (cO (aC (λG=>aA mn (aB bO u.hb rfl (aG (aC (λE=>?_) λE=>?_)))) λG=>?_))),λ_ _ h=>h⟩) (λI=>?_)
 .refine aA oM (aB bO u.hb rfl (aG ?_));intro B;refine⟨vb ?_,u.aF⟩;unfold right
  first|exact(ew bL).symm|exact(ez bL).symm|exact fN.2 bL|exact fN.2 (bH.ext_iff.trans (by dsimp only;omega))
 .intro B;refine⟨vb ?_,u.aF⟩;unfold right
  first|exact(ew bL).symm|exact(ez bL).symm|exact fN.2 bL|exact fN.2 (bH.ext_iff.trans (by dsimp only;omega))
 .intro B;refine⟨vb ?_,u.aF⟩;unfold right
  first|exact(ew bL).symm|exact(ez bL).symm|exact fN.2 bL|exact fN.2 (bH.ext_iff.trans (by dsimp only;omega))
 refine aE ij u.At (pop (AH _) (oo Xp rfl rfl (eqE x ⟨7,0,0,0⟩) ?_));refine⟨vb ?_,u.aF⟩;unfold right
 first|exact(ew bL).symm|exact(ez bL).symm|exact fN.2 bL|exact fN.2 (bH.ext_iff.trans (by dsimp only;omega))
def C277(x:bH)(w:World):CR 277 [jr x] w (λv w'=>v=.bool (right x)/\Ext w w'):=by
 have u:=St.start w;refine fb Tryz.func277 ?_;refine cP u (λzI _ u=>aA gH (aB bO u.hb rfl (aG (aC (λZH=>⟨_,aA gX (aB bO u.hb rfl (cO (aC (λJ=>?_) λJ=>?_))),λ_ _ h=>h⟩) λZH=>⟨_,aA mn (aB bO u.hb rfl (bW (aC (λU=>?_) λU=>?_))),λ_ _ h=>h⟩))))
 .refine aA mn (aB bO u.hb rfl (cO ?_));intro Y;refine⟨vb ?_,u.aF⟩;unfold right
  first|exact(ew bL).symm|exact(ez bL).symm|exact fN.2 bL|exact fN.2 (bH.ext_iff.trans (by dsimp only;omega))
 .intro Y;refine⟨vb ?_,u.aF⟩;unfold right
  first|exact(ew bL).symm|exact(ez bL).symm|exact fN.2 bL|exact fN.2 (bH.ext_iff.trans (by dsimp only;omega))
 .intro vp;refine gO ?_;refine⟨vb ?_,u.aF⟩;unfold right
  first|exact(ew bL).symm|exact(ez bL).symm|exact fN.2 bL|exact fN.2 (bH.ext_iff.trans (by dsimp only;omega))
 refine aA oM (aB bO u.hb rfl (bW ?_));intro vp;refine aC (λO=>?_) (λO=>⟨_,aA gH (aB bO u.hb rfl (aG (aC (λW=>aA gX (aB bO u.hb rfl (cO (aC (λV=>?_) λV=>aA gH (aB bO u.hb rfl (aG (aC (λZ=>?_) λZ=>?_))))))) λW=>?_))),λ_ _ h=>h⟩)
 .refine⟨vb ?_,u.aF⟩;unfold right
  first|exact(ew bL).symm|exact(ez bL).symm|exact fN.2 bL|exact fN.2 (bH.ext_iff.trans (by dsimp only;omega))
 .intro B;refine⟨vb ?_,u.aF⟩;unfold right
  first|exact(ew bL).symm|exact(ez bL).symm|exact fN.2 bL|exact fN.2 (bH.ext_iff.trans (by dsimp only;omega))
 .refine aA gX (aB bO u.hb rfl (aG ?_));intro B;refine⟨vb ?_,u.aF⟩;unfold right
  first|exact(ew bL).symm|exact(ez bL).symm|exact fN.2 bL|exact fN.2 (bH.ext_iff.trans (by dsimp only;omega))
 .intro B;refine⟨vb ?_,u.aF⟩;unfold right
  first|exact(ew bL).symm|exact(ez bL).symm|exact fN.2 bL|exact fN.2 (bH.ext_iff.trans (by dsimp only;omega))
 refine aA gH (aB bO u.hb rfl (aG (aC (λM=>aA gX (aB bO u.hb rfl (cO (aC (λI=>?_) λI=>aA gH (aB bO u.hb rfl (aG (aC (λG=>?_) λG=>?_))))))) λM=>aA gH (aB bO u.hb rfl (aG (aC (λE=>?_) λE=>?_))))))
 .intro B;refine⟨vb ?_,u.aF⟩;unfold right
  first|exact(ew bL).symm|exact(ez bL).symm|exact fN.2 bL|exact fN.2 (bH.ext_iff.trans (by dsimp only;omega))
 .refine aA gX (aB bO u.hb rfl (aG ?_));intro B;refine⟨vb ?_,u.aF⟩;unfold right
  first|exact(ew bL).symm|exact(ez bL).symm|exact fN.2 bL|exact fN.2 (bH.ext_iff.trans (by dsimp only;omega))
 .intro B;refine⟨vb ?_,u.aF⟩;unfold right
  first|exact(ew bL).symm|exact(ez bL).symm|exact fN.2 bL|exact fN.2 (bH.ext_iff.trans (by dsimp only;omega))
 .refine aA gX (aB bO u.hb rfl (aG ?_));intro B;refine⟨vb ?_,u.aF⟩;unfold right
  first|exact(ew bL).symm|exact(ez bL).symm|exact fN.2 bL|exact fN.2 (bH.ext_iff.trans (by dsimp only;omega))
 intro B;refine⟨vb ?_,u.aF⟩;unfold right
 first|exact(ew bL).symm|exact(ez bL).symm|exact fN.2 bL|exact fN.2 (bH.ext_iff.trans (by dsimp only;omega))
end Go.Proofs.YtpdlpabnlkofmaaGreatDoor

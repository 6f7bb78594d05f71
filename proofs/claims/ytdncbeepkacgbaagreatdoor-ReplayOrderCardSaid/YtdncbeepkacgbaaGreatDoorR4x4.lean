/-
  Part 4.
-/
import Derived.Test.YtdncbeepkacgbaaGreatDoorR4x3
set_option maxHeartbeats 8000000
set_option linter.all false
set_option maxRecDepth 100000
open ByteArray renaming mk->hZ
open Go.Fw.Flat renaming val->ia,enc->iW,sz->lx,len->rj,pos->P0
open List renaming getElem?_eq_some_iff->jq,getElem?_eq_getElem->j0,length_append->kC,take_of_length_le->kE,mem_of_getElem?->l0,getElem?_eq_none->l3,length_take->ml,append_assoc->mv,length_singleton->nD,length_map->nQ,getElem?_map->n0,take_append_drop->ob,length_cons->oi,mem_cons_self->oj,append_nil->oo,length_drop->oD,replicate->oJ,mem_cons->oS,getD_eq_getElem?_getD->o4,mem_cons_of_mem->o5,mem_append->pJ,length_eq_zero_iff->qa,map_append->rh,take_add_one->ta,range->tr,eraseIdx_eq_take_drop_succ->wz,foldl_append->wI,getElem?_drop->CS,getElem?_take->Db,range_succ->Dy,flatMap_append->Ff,getElem?_range->Fl,filter_append->F0,length_eraseIdx_of_lt->JJ
open Option renaming bind_some->kO,some->nN
open Go.Instr renaming build->l1,sliceAt->mA,box->pQ,sliceBounds->qh
open Go.Fw.Deep renaming dr->l2,ext->FK
open Go.Value renaming int->mj,slice->sB
open Nat renaming zero_le->mr,le_refl->oq,le_of_ble_eq_true->u4,le_trans->xE,lt_succ_self->Nz,lt_or_ge->NA,mul_pos->Vo
open Int renaming toNat_natCast->qs
open Bool renaming true_and->tx,not_false->Hk
open Decidable renaming not_not->zP
namespace Go.Proofs.YtdncbeepkacgbaaGreatDoor
open Go.Fw
def Pa{u:UU}{l:List bE}(h:u∈kF l):u.2.2.length<=1048576:=by
 have:u.2.2.length<=2:=by
  unfold kF at h
  obtain⟨x,_,h⟩:=List.mem_flatMap.1 h
  rw[wh]at h
  unfold ny oN we CF at h
  simp only[pJ]at h
  grind
 omega
theorem C49(p:bQ)(pv:cA)(w:World)(hp:l2 w pv p)(U:PZ p):CR 49 [ia pv] w (λv w'=>∃a:Int,v=.tuple #[hU (eJ p),hU a]/\Ext w w'):=by
 have F3:=hp;have aia:=Jb U.toPS;obtain⟨cK,dC,cZ,cB,cD,cI,rfl,eP,gd,fR,eK,eY,fF⟩:=hp;obtain⟨J,OA,OB⟩:=eK.open;obtain⟨O,GZ,Rk⟩:=eY.open;have Rj:=OB.1;have hn4:=Rk.1;have hD:=OB.append Rk;have aiA:=hD.1
 change (J++O).length=(ij p).length at aiA
 have E:=St.start w;refine Xj _ _ _ ?_;unfold S49;refine bY E (λbp w1 E=>fq E Wp rfl λb2 _ E=>fq E sQ rfl λb3 _ E=>aE fW E.p2.At (dX acP (C108 p _ _ (FK F3 E.aF) U) ?_));rintro _ _ ⟨bm,rfl,dw⟩;have E:=E.made dw;refine aJ rfl (aJ rfl (aJ rfl (aE fW E.p3.At (aR ab0 E (C109 p _ _ (FK F3 E.aF) U) λ_ he E=>bJ (bD (λc=>?_) λc=>?_)))))
 .have h1:jK p=false:=by simpa using c
  have V:eJ p=8:=ce8 h1;exact aO E.p2 gA (dP rfl) rfl (λ_ E=>aO E.p2 bL (dP rfl) rfl λ_ E=>aB gA E.p1.hb rfl (aB bL E.hb rfl ⟨_,by rw[V],E.aF⟩))
 have h1:jK p=true:=by simpa using c
 refine aE fW E.p3.At (aR acE E (C110 p _ _ (FK F3 E.aF) U) λ_ he E=>bD (λc=>?_) λc=>?_)
 .have h2:sG p=true:=c;have V:eJ p=2:=ce2 h1 h2;exact aO E.p2 gA (dP rfl) rfl (λ_ E=>aO E.p2 bL (dP rfl) rfl λ_ E=>aB gA E.p1.hb rfl (aB bL E.hb rfl ⟨_,by rw[V],E.aF⟩))
 have h2:sG p=false:=c;refine aE fW E.p3.At (fZ Jj E (C111 p _ J O _ (FK F3 E.aF) (OA.ext E.aF) (GZ.ext E.aF) (by have:=U.threads;omega) (by have:=U.recover;omega)) λx38 w38 dw E=>aI kK E.eU ?_);refine⟨λm x w1=>∃k:Nat,x=hU (k:Int)/\m=(J++O).length-k/\k<=(J++O).length/\(∀y∈(ij p).take k,om y.body=false)/\St w bF [bH x38 (J++O),jL bm (xf p).1,bM b3 [hU 0],bM b2 [hU 0],bM bp (iW (⟨cK,dC,cZ,cB,cD,cI⟩:cA))] w1,⟨_,0,rfl,rfl,mr _,ew,E⟩,?_⟩;rintro m _ _ ⟨k,rfl,rfl,hk,I,E⟩ _
 refine aS (aC (λc=>?_) λc=>?_)
 .obtain⟨t,ht⟩:=gx (J++O) (i:=((k:Nat):Int).toNat) bP;obtain⟨r,G⟩:=gx (ij p) (i:=k) bP;have Ti:=l0 G;have hrz:=U.so Ti;have hrr:=(oh h1).so Ti;obtain⟨gr,Z,rfl,dr,db⟩:=hD.2 _ _ _ ht G;have ZT:=mi hrr.2.1;refine aZ kK E.eU bP ht (λq hq=>aE lq hq (aM E sd λbt wt E=>aH (x:=(⟨r.name,gr,Z,r.at_⟩:bU)) E lq rfl rfl λwu E=>?_));obtain⟨aiB,hbf,tb,hbt,gn,_,_⟩:=ZT;have Kz:tb.len<=40:=by rw[<- Bk.cM,<- hbt];exact aiB
  have hwl:om r.body=kW tb 1:=by rw[hbt];exact zi gn
  refine aA qT (aB (v:=ia Z) lZ E.hb rfl (dX VE (C112 _ tb 1 (tb.len+1) _ (by rw[<- hbt];exact DL.ext db E.aF) gn (by rw[<- hbt];exactλx hx=>GW (hbf x hx)) bP bP (Nz _)) ?_));rintro _ _ ⟨aa,rfl,he⟩;have E:=E.ext he;refine aJ rfl (aJ rfl (bD (λc9=>?_) λc9=>?_))
  .have h3:(ij p).any (λt=>om t.body)=true:=nk G (by rw[hwl];exact c9);have V:eJ p=11:=ahG h1 h2 h3;exact aO E.p4 gA (dP rfl) rfl (λ_ E=>aO E.p4 bL (dP rfl) rfl λ_ E=>aB gA E.p1.hb rfl (aB bL E.hb rfl ⟨_,by rw[V],E.aF⟩))
  exact aK bP (have E:=E.drop;⟨_,bP,k+1,rfl,rfl,bP,eE I G (by rw[hwl];exact c9),E⟩)
 have h3:(ij p).any (λt=>om t.body)=false:=nn (by rw[kE bP]at I;exact I);have E:=E.drop;refine bD (λc10=>?_) (λc10=>?_)
 .have h4:jr (ik p)=true:=by rw[<- O1];exact c10
  have V:eJ p=10:=ahH h1 h2 h3 h4;exact aO E.p2 gA (dP rfl) rfl (λ_ E=>aO E.p2 bL (dP rfl) rfl λ_ E=>aB gA E.p1.hb rfl (aB bL E.hb rfl ⟨_,by rw[V],E.aF⟩))
 have h4:jr (ik p)=false:=by rw[<- O1];exact c10
 refine aE fW E.p3.At (fZ Jj E (C111 p _ J O _ (FK F3 E.aF) (OA.ext E.aF) (GZ.ext E.aF) (by have:=U.threads;omega) (by have:=U.recover;omega)) λx56 _ dw E=>aI kK E.eU ?_)
 clear I
 refine⟨λm x w1=>∃k:Nat,x=hU (k:Int)/\m=(J++O).length-k/\k<=(J++O).length/\(∀y∈(ij p).take k,sF p y.dJ=false)/\St w bF [bH x56 (J++O),jL bm (xf p).1,bM b3 [hU 0],bM b2 [hU 0],bM bp (iW (⟨cK,dC,cZ,cB,cD,cI⟩:cA))] w1,⟨_,0,rfl,rfl,mr _,ew,E⟩,?_⟩;rintro m _ _ ⟨k,rfl,rfl,hk,I,E⟩ _;refine aS (aC (λc=>?_) λc=>?_)
 .obtain⟨t,ht⟩:=gx (J++O) (i:=((k:Nat):Int).toNat) bP;obtain⟨r,G⟩:=gx (ij p) (i:=k) bP;have Ti:=l0 G;have hrz:=U.so Ti;have hrr:=(oh h1).so Ti;obtain⟨gr,Z,rfl,dr,db⟩:=hD.2 _ _ _ ht G;have ZT:=mi hrr.2.1;refine aZ kK E.eU bP ht (λq hq=>aE lq hq (aM E sd λbt wt E=>aH (x:=(⟨r.name,gr,Z,r.at_⟩:bU)) E lq rfl rfl λwu E=>aE lq E.At (dX VI (C113 (⟨r.name,gr,Z,r.at_⟩:bU) r.dJ bm (xf p).1 _ (DL.flat (DL.ext dr E.aF)) E.p2.jL (Hd p) bP) ?_)))
  rcases CG h4 r.dJ with⟨Bd,Df⟩|⟨g,Bd,Df,_⟩
  .rintro _ w24 (⟨_,rfl,he⟩|⟨g,bg,Mk,_⟩);rotate_left
   .rw[Bd]at Mk;cases Mk
   have E:=E.ext he;have h5:(ij p).any (λt=>sF p t.dJ)=true:=nk G Df;refine aJ rfl (aJ rfl (gH (aA yD (have E:=E.drew;aB (v:=hU r.at_) bL E.hb rfl ?_))));have V:eJ p=10:=aco h1 h2 h3 h4 h5;refine aO E.p4 gA (dP rfl) rfl (λwa E=>?_);refine⟨aY bL (E.p1.hb.cell rfl),?_⟩;exact aO E.p4 bL (dP rfl) rfl (λ_ E=>aB gA E.p1.hb rfl (aB bL E.hb rfl ⟨_,by rw[V],E.aF⟩))
  rintro _ w24 (⟨Mk,_⟩|⟨g2,bg,Mk,rfl,dw⟩)
  .rw[Bd]at Mk;cases Mk
  have E:=(E.made dw).drop.drop;exact aJ rfl (aJ rfl (et (aK bP ⟨_,bP,k+1,rfl,rfl,bP,eE I G Df,E⟩)))
 have h5:(ij p).any (λt=>sF p t.dJ)=false:=nn (by rw[kE bP]at I;exact I);have E:=E.drop;refine aE fW E.p3.At (fZ Jj E (C111 p _ J O _ (FK F3 E.aF) (OA.ext E.aF) (GZ.ext E.aF) (by have:=U.threads;omega) (by have:=U.recover;omega)) λx73 _ dw E=>aI kK E.eU ?_)
 clear I
 have E:=Hb.nil E;refine⟨λm dv x w1=>∃(k:Nat) (ds:List Nat),dv=iQ ds/\x=hU (k:Int)/\m=(J++O).length-k/\k<=(J++O).length/\(∀y∈(ij p).take k,y.body.any (qu p y.dJ)=false)/\St w bF [Hb ds,bH x73 (J++O),jL bm (xf p).1,bM b3 [hU 0],bM b2 [hU 0],bM bp (iW (⟨cK,dC,cZ,cB,cD,cI⟩:cA))] w1,⟨_,0,[],rfl,rfl,rfl,mr _,ew,E⟩,?_⟩;rintro m _ _ _ ⟨k,ds,rfl,rfl,rfl,hk,I,E⟩ _;rw[vD];refine aS (aC (λc=>?_) λc=>?_)
 .obtain⟨t,ht⟩:=gx (J++O) (i:=((k:Nat):Int).toNat) bP;obtain⟨r,G⟩:=gx (ij p) (i:=k) bP;have Ti:=l0 G;have hrz:=U.so Ti;have hrr:=(oh h1).so Ti;obtain⟨gr,Z,rfl,dr,db⟩:=hD.2 _ _ _ ht G;have ZT:=mi hrr.2.1;refine aZ kK E.p1.eU bP ht (λq hq=>aE lq hq (aM E sd λbt wt E=>aH (x:=(⟨r.name,gr,Z,r.at_⟩:bU)) E lq rfl rfl λwu E=>?_))
  have h5r:sF p r.dJ=false:=by
   cases hh:sF p r.dJ with
   | false=>rfl
   | true=>exact absurd (nk (g:=λt:bW=>sF p t.dJ) G hh) (by rw[h5];decide)
  refine aE lq E.At (dX VI (C113 (⟨r.name,gr,Z,r.at_⟩:bU) r.dJ bm (xf p).1 _ (DL.flat (DL.ext dr E.aF)) E.p3.jL (Hd p) bP) ?_)
  rcases CG h4 r.dJ with⟨_,Df⟩|⟨g,Bd,Df,_⟩
  .rw[Df]at h5r;cases h5r
  rintro _ w31 (⟨Mk,_⟩|⟨g2,bg,Mk,rfl,dw⟩)
  .rw[Bd]at Mk;cases Mk
  obtain rfl:g=g2:=nN.inj (Bd.symm.trans Mk);have E:=E.made dw;refine aJ rfl (aJ rfl (fq E IG rfl λb17 _ E=>aO E AV (dP rfl) rfl λ_ E=>aA qT (aB (v:=ia Z) lZ E.p2.hb rfl (dX acS (C114 Z _) ?_))));rintro _ _ ⟨bu,rfl,ac3⟩;have E:=E.made ac3;have hbz:=hrz.1.2.2;have ac4:=O9 h4 Bd ZT.2.1;obtain⟨tsb,hRb,hDb⟩:=db.open
  refine OS (cap:=[.pointer (some ⟨bu,0,none⟩)]) (kF r.body).length (Jo (kF r.body)) acT E
   (λj M=>(∀i,i<j->∀u,(kF r.body)[i]?=some u->xH g u=false)/\M=[bM bu [ia Z],bM b17 [.map (some bg)],jL bg g,bM bt (iW (⟨r.name,gr,Z,r.at_⟩:bU)),Hb ds,bH x73 (J++O),jL bm (xf p).1,bM b3 [hU 0],bM b2 [hU 0],bM bp (iW (⟨cK,dC,cZ,cB,cD,cI⟩:cA))])
   (λcx M=>cx=.ret/\(kF r.body).any (xH g)=true/\∃a L,M=bM b3 [hU a]::bM b2 [hU 9]::Hb ds::L) ⟨λ_ hi=>absurd hi (Nat.not_lt_zero _),rfl⟩ (by rintro j a Φ ⟨u,s,_,rfl,_⟩;rfl) ?_ ?_ ?_ ?_ ?_ ?_
  .intro y Y Jx W h0 hy;refine(C217 y bu (ia Z) tsb r.body w bF _ Jx W bP (λx hx=>⟨(hbz x hx).2.2.1,(hbz x hx).2.2.2.1⟩) ?_ ?_ hy).mono λ_ _ rr=>rr.mono λv W' h=>?_
   .rintro j _ W2 ⟨M,⟨_,rfl⟩,rfl⟩ Tb;exact⟨Tb.p1.hb.cell rfl,hRb.ext Tb.aF,hDb.ext Tb.aF⟩
   .obtain⟨M,h1,h2⟩:=h0;exact⟨_,⟨M,h1,rfl⟩,h2⟩
   rcases h with⟨_,⟨M,h1,rfl⟩,h2⟩|h
   .exact .inl ⟨M,h1,h2⟩
   exact .inr h
  .rintro j args Φ Y1 Y2 B Kr M W ⟨u,s,hu,rfl,Lg⟩ ⟨hjn,rfl⟩ hΦ hB hN hR E;dsimp only[yp];refine aM E R6 (λb9 _ E=>aH (x:=(⟨u.1,u.2.1,s⟩:CD)) E abe rfl rfl λ_ E=>?_);refine hB _ _ _ E.p1 (λw38 E=>?_);refine aA M8 (aB (v:=ia s) ek E.p1.hb rfl (aB AV E.p3.hb rfl (aA M6 (aB (v:=.string u.1) j3 E.p1.hb rfl (sn E.p4.jL Tryz.underlying184 Tryz.underlying9 sQ ?_)))))
   have Mf:dy (λ_=>True) w38 (ia s) u.2.2:=by
    obtain⟨F,h1,_⟩:=E.head;exact Lg _ (hΦ _ _ h1)
   have hul:u.2.2.length<=1048576:=Pa (l0 hu);refine aR ac0 E (C115 _ u.2.2 (dG g u.1) _ Mf hul) (λ_ he E=>bJ (bD (λc11=>aA M7 (have E:=E.drew;aB (v:=hU u.2.1) bL E.p1.hb rfl (have E:=E.p2.drop;aO E.p9 gA (dP rfl) rfl λ_ E=>⟨aY bL (E.p2.hb.cell rfl),aO E.p9 bL (dP rfl) rfl λ_ E=>hR .ret _ _ E.p7.p2.p2.p3 ⟨rfl,nk hu (by unfold xH;exact c11),_,_,rfl⟩⟩))) λc11=>?_));refine hN _ _ E.p1.drop ⟨λi hi u2 hu2=>?_,rfl⟩
   rcases NA i j with h|h
   .exact hjn i h u2 hu2
   obtain rfl:i=j:=bP
   rw[hu]at hu2;cases hu2
   unfold xH;exact c11
  .rintro D M W ⟨hjn,rfl⟩ E;refine aK bP ?_;have E:=St.join (H1:=jX D (.deferred (some []))) E.p1.drop.p1.drop.p1.drop.p1.drop;refine⟨_,bP,k+1,D::ds,rfl,rfl,rfl,bP,eE I G ?_,E⟩;rw[<- ac4];refine nn λu hu=>?_;obtain⟨i,hi⟩:=List.mem_iff_getElem?.1 hu;exact hjn i (jq.1 hi).1 u hi
  .rintro D M W ⟨_,aiG,a,L,rfl⟩ E;have h6:(ij p).any (λt=>t.body.any (qu p t.dJ))=true:=nk G (by rw[<- ac4];exact aiG);have V:eJ p=9:=ce9 h1 h2 h3 h4 h5 h6;have E:=St.join (H1:=jX D (.deferred (some []))) E.p3.p1;refine Hb.take (D::ds) E (λ_ E=>?_);exact aB gA E.p1.hb rfl (aB bL E.hb rfl ⟨_,by rw[V],E.aF⟩)
  .rintro id D M W ⟨h,_⟩;cases h
  rintro cx M ⟨h,_⟩;exact .inr h
 have h6:(ij p).any (λt=>t.body.any (qu p t.dJ))=false:=nn (by rw[kE bP]at I;exact I);have E:=E.p1.drop;have hzc:=U.ef;obtain⟨VC,hR5,hD5⟩:=fF.open;have ya:=hD5.1;refine aA sc (aB (v:=ia cI) DU E.p4.hb rfl (aI B4 (hR5.ext E.aF) ?_))
 clear I
 refine⟨λm x w1=>∃k:Nat,x=hU (k:Int)/\m=VC.length-k/\k<=VC.length/\(∀y∈p.ef.take k,qt y.e (fT p)=false)/\St w bF [Hb ds,jL bm (xf p).1,bM b3 [hU 0],bM b2 [hU 0],bM bp (iW (⟨cK,dC,cZ,cB,cD,cI⟩:cA))] w1,⟨_,0,rfl,rfl,mr _,ew,E⟩,?_⟩;rintro m _ _ ⟨k2,rfl,rfl,I6,I,E⟩ _;refine aS (aC (λc12=>?_) λc12=>?_)
 .obtain⟨t,ht⟩:=gx VC (i:=((k2:Nat):Int).toNat) bP;obtain⟨r,G⟩:=gx p.ef (i:=k2) bP;have hrz:=U.zc r (l0 G);obtain⟨ge,rfl,de⟩:=hD5.2 _ _ _ ht G;have dE:=DL.flat de;refine aZ B4 (hR5.ext E.aF) bP ht (λq hq=>aE B7 hq (aM E Gt λbc _ E=>aH (x:=(⟨ge,r.at_⟩:iq)) E B7 rfl rfl λ_ E=>aA B8 (aB (v:=ia ge) lH E.hb rfl (aI jx (dE.ext E.aF) ?_))));have hvc:=Hf h4 r.e;refine⟨λm x w1=>∃j:Nat,x=hU (j:Int)/\m=r.e.length-j/\j<=r.e.length/\(∀y∈r.e.take j,(decide (y.op=2)&&decide (¬ dG (xf p).1 y.name=1))=false)/\St w bF [bM bc (iW (⟨ge,r.at_⟩:iq)),Hb ds,jL bm (xf p).1,bM b3 [hU 0],bM b2 [hU 0],bM bp (iW (⟨cK,dC,cZ,cB,cD,cI⟩:cA))] w1,⟨_,0,rfl,rfl,mr _,ew,E⟩,?_⟩
  rintro m _ _ ⟨j,rfl,rfl,hj,hnj,E⟩ _;refine aS (aC (λc13=>?_) λc13=>?_)
  .obtain⟨y,hy⟩:=gx r.e (i:=((j:Nat):Int).toNat) bP;refine aZ jx (dE.ext E.aF) bP hy (λq hq=>aE wS hq (aM E B9 λby_ _ E=>aH (x:=y) E wS rfl rfl λw50 E=>?_));refine⟨λjv w'=>jv=.bool (decide (y.op=2)&&decide (¬ dG (xf p).1 y.name=1))/\w'=w50,?_,?_⟩
   .exact aA ix (aB (v:=hU y.op) bL E.hb rfl (aG (aC (λc14=>aA l4 (aB (v:=.string y.name) j3 E.hb rfl (sn E.p3.jL Tryz.underlying184 Tryz.underlying9 sQ (cC ⟨vb (by rw[fj c14,tx]),rfl⟩)))) λc14=>⟨vb (by rw[ga c14,Bool.false_and]),rfl⟩)))
   rintro _ _ ⟨rfl,rfl⟩ _;refine bD (λc15=>?_) (λc15=>aK bP ⟨_,bP,j+1,rfl,rfl,bP,eE hnj hy c15,E.drop⟩);have h7:p.ef.any (λc=>qt c.e (fT p))=true:=nk G (by rw[<- hvc];exact nk hy c15);have V:eJ p=9:=ahI h1 h2 h3 h4 h5 h6 h7;refine aA uA (have E:=E.drew;aB (v:=hU y.at_) bL E.hb rfl (aO E.p5 gA (dP rfl) rfl λwa E=>?_));refine⟨aY bL (E.p1.hb.cell rfl),?_⟩;refine aO E.p5 bL (dP rfl) rfl (λwb E=>?_);refine Hb.take ds E.p4 (λw54 E=>?_);exact aB gA E.p1.hb rfl (aB bL E.hb rfl ⟨_,by rw[V],E.aF⟩)
  refine aK bP ?_;refine⟨_,bP,k2+1,rfl,rfl,bP,eE I G ?_,E.drop⟩;rw[<- hvc];exact nn (by rw[kE bP]at hnj;exact hnj)
 have h7:p.ef.any (λc=>qt c.e (fT p))=false:=nn (by rw[kE bP]at I;exact I);have V:eJ p=0:=ce0 h1 h2 h3 h4 h5 h6 h7;refine aO E.p3 gA (dP rfl) rfl (λwa E=>aO E.p3 bL (dP rfl) rfl λwb E=>?_);refine Hb.take ds E.p2 (λw54 E=>?_);exact aB gA E.p1.hb rfl (aB bL E.hb rfl ⟨_,by rw[V],E.aF⟩)
def C117(B:Value)(xs:List Int)(w:World)(G:dy (λ_=>True) w B xs)(U:xs.length<=1000000):CR 117 [B] w (λv w'=>mG (bH v xs) w w'):=by
 have u:=St.start w;refine eT Tryz.func117 ?_;refine KJ Tryz.underlying22 (G.ext u.aF) (λp M=>bD (λE=>?_) λE=>?_)
 .have I:=M E;subst I;exact(u.eF (α:=Int)).fresh
 refine bK ([]:List Int) u dz rfl rfl (dP rfl) (λO _ u=>?_);have J:=(G.ext u.aF);exact cO u dz J (by simp;omega) ea (λ_ _ u=>u.fresh)
def nz(x y:bG):Bool:=decide (x.kind≠7/\y.kind≠7/\(x.kind=6\/y.kind=6)/\x.line≠y.line)
def right(x:bG):Bool:=decide ((x.kind=3/\0<=x.line/\0<=x.cell)\/((x.kind=5\/x.kind=6)/\0<=x.line/\x.cell=0/\x.n=0)\/(x.kind=7/\x.line=0/\x.cell=0/\x.n=0))
def C252(x y:bG)(w:World):CR 252 [ia x,ia y] w (λv w'=>v=.bool (nz x y)/\Ext w w'):=by
 have u:=St.start w;refine eT Tryz.func252 ?_;refine bY u (λU _ u=>bY u λI _ u=>?_);refine⟨_,?_,λ_ _ h=>h⟩;refine aA ng (aB bL u.p1.hb rfl (aG (aC (λJ=>?_) λJ=>?_)))
 .intro O;refine⟨_,?_,λ_ _ h=>h⟩;refine bJ (et ?_);intro B;refine⟨vb ?_,u.aF⟩;unfold nz
  first|exact(fj bP).symm|exact(ga bP).symm|exact gh.2 bP|exact gh.2 (bG.ext_iff.trans (by dsimp only;omega))
 refine aA ng (aB bL u.hb rfl (aG ?_));intro O;refine⟨_,?_,λ_ _ h=>h⟩
 first|refine DF ?_|refine bJ ?_
 refine aC (λG=>aA ng (aB bL u.p1.hb rfl (aG (aC (λM=>?_) λM=>aA ng (aB bL u.hb rfl (aG (aC (λE=>?_) λE=>?_))))))) (λG=>?_)
 .refine aA kP (aB bL u.p1.hb rfl (aA kP (aB bL u.hb rfl (cC ?_))));intro B;refine⟨vb ?_,u.aF⟩;unfold nz
  first|exact(fj bP).symm|exact(ga bP).symm|exact gh.2 bP|exact gh.2 (bG.ext_iff.trans (by dsimp only;omega))
 .refine aA kP (aB bL u.p1.hb rfl (aA kP (aB bL u.hb rfl (cC ?_))));intro B;refine⟨vb ?_,u.aF⟩;unfold nz
  first|exact(fj bP).symm|exact(ga bP).symm|exact gh.2 bP|exact gh.2 (bG.ext_iff.trans (by dsimp only;omega))
 .intro B;refine⟨vb ?_,u.aF⟩;unfold nz
  first|exact(fj bP).symm|exact(ga bP).symm|exact gh.2 bP|exact gh.2 (bG.ext_iff.trans (by dsimp only;omega))
 intro B;refine⟨vb ?_,u.aF⟩;unfold nz
 first|exact(fj bP).symm|exact(ga bP).symm|exact gh.2 bP|exact gh.2 (bG.ext_iff.trans (by dsimp only;omega))
def eqE(x y:bG):uh (iW x) (iW y)=decide (x=y):=by
 obtain⟨a,b,c,d⟩:=x
 obtain⟨u,b2,B,E⟩:=y
 simp[iW,uh,eqV,Bool.eq_iff_iff]
def C261(x:bG)(w:World):CR 261 [ia x] w (λv w'=>v=.bool (right x)/\Ext w w'):=by
 have u:=St.start w;refine eT Tryz.func261 ?_;refine bY u (λW _ u=>aA ng (aB bL u.hb rfl (aG (aC (λU=>⟨_,aA kP (aB bL u.hb rfl (cJ (aC (λJ=>?_) λJ=>?_))),λ_ _ h=>h⟩) λU=>⟨_,aG (aC (λM=>?_) λM=>?_),λ_ _ h=>h⟩))))
 .refine aA pb (aB bL u.hb rfl (cJ ?_));intro V;refine⟨vb ?_,u.aF⟩;unfold right
  first|exact(fj bP).symm|exact(ga bP).symm|exact gh.2 bP|exact gh.2 (bG.ext_iff.trans (by dsimp only;omega))
 .intro V;refine⟨vb ?_,u.aF⟩;unfold right
  first|exact(fj bP).symm|exact(ga bP).symm|exact gh.2 bP|exact gh.2 (bG.ext_iff.trans (by dsimp only;omega))
 .intro O;refine aC (λE=>⟨_,aA kP (aB bL u.hb rfl (cJ (aC (λI=>aA pb (aB bL u.hb rfl (aG (aC (λG=>?_) λG=>?_)))) λI=>?_))),λ_ _ h=>h⟩) (λE=>?_)
  .refine aA q8 (aB bL u.hb rfl (aG ?_));intro B;refine⟨vb ?_,u.aF⟩;unfold right
   first|exact(fj bP).symm|exact(ga bP).symm|exact gh.2 bP|exact gh.2 (bG.ext_iff.trans (by dsimp only;omega))
  .intro B;refine⟨vb ?_,u.aF⟩;unfold right
   first|exact(fj bP).symm|exact(ga bP).symm|exact gh.2 bP|exact gh.2 (bG.ext_iff.trans (by dsimp only;omega))
  .intro B;refine⟨vb ?_,u.aF⟩;unfold right
   first|exact(fj bP).symm|exact(ga bP).symm|exact gh.2 bP|exact gh.2 (bG.ext_iff.trans (by dsimp only;omega))
  refine aE jD u.At (pop (yH _) (AS Nj rfl rfl (eqE x ⟨7,0,0,0⟩) ?_));refine⟨vb ?_,u.aF⟩;unfold right
  first|exact(fj bP).symm|exact(ga bP).symm|exact gh.2 bP|exact gh.2 (bG.ext_iff.trans (by dsimp only;omega))
 refine aG ?_;intro O;refine aC (λE=>⟨_,aA kP (aB bL u.hb rfl (cJ (aC (λI=>aA pb (aB bL u.hb rfl (aG (aC (λG=>?_) λG=>?_)))) λI=>?_))),λ_ _ h=>h⟩) (λE=>?_)
 .refine aA q8 (aB bL u.hb rfl (aG ?_));intro B;refine⟨vb ?_,u.aF⟩;unfold right
  first|exact(fj bP).symm|exact(ga bP).symm|exact gh.2 bP|exact gh.2 (bG.ext_iff.trans (by dsimp only;omega))
 .intro B;refine⟨vb ?_,u.aF⟩;unfold right
  first|exact(fj bP).symm|exact(ga bP).symm|exact gh.2 bP|exact gh.2 (bG.ext_iff.trans (by dsimp only;omega))
 .intro B;refine⟨vb ?_,u.aF⟩;unfold right
  first|exact(fj bP).symm|exact(ga bP).symm|exact gh.2 bP|exact gh.2 (bG.ext_iff.trans (by dsimp only;omega))
 refine aE jD u.At (pop (yH _) (AS Nj rfl rfl (eqE x ⟨7,0,0,0⟩) ?_));refine⟨vb ?_,u.aF⟩;unfold right
 first|exact(fj bP).symm|exact(ga bP).symm|exact gh.2 bP|exact gh.2 (bG.ext_iff.trans (by dsimp only;omega))
def pB(l:List bG)(i:Int):Bool:=decide (0<=i/\i<l.length)&&(match l[i.toNat]? with|some x=>(l.take i.toNat).all (nz x)|none=>false)
def qw(l:List bG):List Int:=((tr l.length).map fun (k:Nat)=>(k:Int)).filter (pB l)
theorem pC{l:List bG}{i:Int}(h:i<0\/(l.length:Int)<=i):pB l i=false:=by
 grind[pB]
def Tj{l:List bG}{i:Int}{x:bG}(u:0<=i)(h1:i<l.length)(B:l[i.toNat]?=some x):pB l i = !(l.take i.toNat).any λy=>!nz x y:=by
 grind[pB,nz]
def oO(l:List bG)(k:Nat):List Int:=((tr k).map fun (k:Nat)=>(k:Int)).filter (pB l)
def Lj(l:List bG)(k:Nat):(oO l k).length<=k:=by
 grind[oO]
theorem Hg{l:List bG}{k:Nat}(h:pB l k=true):oO l (k+1)=oO l k++[(k:Int)]:=by
 unfold oO;rw[Dy,rh,F0];simp[h]
theorem Lk{l:List bG}{k:Nat}(h:pB l k=false):oO l (k+1)=oO l k:=by
 unfold oO;rw[Dy,rh,F0];simp[h]
theorem Hh(l:List bG){k:Nat}(h:k=l.length):oO l k=qw l:=by subst h;rfl
def sH(w:World)(p:Nat)(room:Int)(l:List bG):Prop:=∃u,Cell w p 0 (hU room)/\Cell w p 1 u/\dy (λ_=>True) w u l
def kX(p:Nat)(room:Int)(l:List bG):HP:=oW λu=>sep (bM p [hU room,u]) (bH u l)
theorem sH.ext{w w':World}{p:Nat}{room:Int}{l:List bG}(h:sH w p room l)(e:Ext w w'):sH w' p room l:=by
 obtain⟨u,h1,h2,h3⟩:=h;exact⟨u,h1.ext e,h2.ext e,h3.ext e⟩
def kX.rd{w:World}{F:Nat->Prop}{p:Nat}{room:Int}{l:List bG}(h:(kX p room l).p w F):sH w p room l:=by
 obtain⟨u,B,E,h1,h2,_⟩:=h
 exact⟨u,h1.1.cell rfl,h1.1.cell rfl,(bH.rd h2).mono λ_ _=>trivial⟩
def C310(M fv:Value)(xs:List bG)(g:bG->Bool)(w:World)(J:dy (λ_=>True) w M xs)(Y:qI w fv g)(hn:xs.length<=1073741824):CR 310 [M,fv] w (λv w'=>v=hU (pg g xs)/\Ext w w'):=by
 obtain⟨g0,first,cap,rfl,W,V⟩:=Y;have u:=St.start w;refine eT Tryz.func310 ?_;refine aI iI (J.ext u.aF) ?_;refine⟨λm x E=>∃k:Nat,x=hU (k:Int)/\m=xs.length-k/\k<=xs.length/\(∀y∈xs.take k,g y=false)/\St w bF [] E,⟨_,0,rfl,rfl,mr _,ew,u⟩,?_⟩;rintro m _ E ⟨k,rfl,rfl,hk,B,u⟩ _;refine aS (aC (λj7=>?_) λ_=>⟨gj (mj .i64) (gy (by rw[kE bP]at B;exact B)).symm,u.aF⟩);obtain⟨O,G⟩:=gx xs (i:=(k:Int).toNat) bP;refine aZ iI (J.ext u.aF) bP G (λ_ U=>aE jD U (fm W (V O E u.aF) ?_))
 rintro _ _ ⟨rfl,Z⟩;have u:=u.ext Z;exact bD (λI=>⟨gj (mj .i64) (jA B G I).symm,u.aF⟩) (λI=>aK bP ⟨xs.length-(k+1),bP,k+1,rfl,rfl,bP,eE B G I,u⟩)
def C253(B fv:Value)(xs:List bG)(g:bG->Bool)(w:World)(E:dy (λ_=>True) w B xs)(G:qI w fv g)(I:xs.length<=1073741824):CR 253 [B,fv] w (λv w'=>v=.bool (xs.any g)/\Ext w w'):=by
 have u:=St.start w;refine eT Tryz.func253 ?_;exact aR aaQ u (C310 _ _ _ _ _ (E.ext u.aF) (G.ext u.aF) bP) (λ_ _ u=>cJ ⟨vb (iB _ _),u.aF⟩)
def C251(x y:bG)(p b2 b3:Nat)(i:Int)(room:Int)(l:List bG)(w:World)(h2:Cell w b2 0 (.pointer (some ⟨p,0,none⟩)))(h3:Cell w b3 0 (hU i))(hb:sH w p room l)(G:0<=i)(B:l[i.toNat]?=some x):CR 251 [ia y,.pointer (some ⟨b2,0,none⟩),.pointer (some ⟨b3,0,none⟩)] w (λv w'=>v=.bool (!nz x y)/\Ext w w'):=by
 obtain⟨O,U,I,E⟩:=hb;have M:=(jq.1 B).1;have u:=St.start w;refine qj Tryz.func251 (pl:=agW) ?_;exact bY u (λ_ _ u=>have u:=u.drew;cE ur (h2.ext u.aF) (aD (aA iy (cE mD (I.ext u.aF) (cE bL (h3.ext u.aF) (aZ iI (E.ext u.aF) G B λ_ J=>aE jD J (aE jD u.At (aR aaD u (C252 x y _) λ_ _ u=>bJ ⟨rfl,u.aF⟩))))))))
def C147(p:Nat)(i:Int)(room:Int)(l:List bG)(w:World)(hb:sH w p room l)(hn:l.length<=1073741824):CR 147 [.pointer (some ⟨p,0,none⟩),hU i] w (λv w'=>v=.bool (pB l i)/\Ext w w'):=by
 have Z:=hb;obtain⟨sv,Af,V,M⟩:=hb;have u:=St.start w;refine qj Tryz.func147 (pl:=agL) ?_;refine jR u rfl (λE U u=>jR u rfl λB _ u=>?_);refine⟨_,?_,λ_ _ h=>h⟩;have u:=u.drew;refine aB bL u.hb rfl (aS (aC (λW=>?_) λW=>?_))
 .intro vP;exact gH ⟨vb (pC bP).symm,u.aF⟩
 refine aB bL u.hb rfl (aB ur u.p1.hb rfl (aD (aA iy (cE mD (V.ext u.aF) (aI iI (M.ext u.aF) (cJ ?_))))));intro vP;refine aC (λ_=>⟨vb (pC bP).symm,u.aF⟩) (λcW=>have u:=u.drew;aB ur u.p1.hb rfl (aD (aA iy (cE mD (V.ext u.aF) (aB bL u.hb rfl (AQ iI (M.ext u.aF) bP bP λJ Y=>?_))))));obtain⟨x,O⟩:=gx l (i:=i.toNat) bP
 have I:qI _ (.func (.func 251) [].toArray [.pointer (some ⟨E,0,none⟩),.pointer (some ⟨B,0,none⟩)].toArray) (λy=>!nz x y):=
  ⟨251,[],_,rfl,aaC,λy U G=>C251 x y p E B i room l U ((u.p1.hb.cell rfl).ext G) ((u.hb.cell rfl).ext G) ((Z.ext u.aF).ext G) bP O⟩
 exact aR aaE u (C253 _ _ _ _ _ Y I (by rw[ml];omega)) (λ_ _ u=>bJ ⟨vb (Tj bP bP O).symm,u.aF⟩)
def C145(p:Nat)(room:Int)(l:List bG)(w:World)(hb:sH w p room l):CR 145 [.pointer (some ⟨p,0,none⟩)] w (λv w'=>v=.bool (decide (room<=l.length))/\Ext w w'):=by
 obtain⟨I,E,G,B⟩:=hb;have u:=St.start w;refine qj Tryz.func145 (pl:=agK) ?_;exact aD (aA iy (have u:=u.drew;cE mD (G.ext u.aF) (aI iI (B.ext u.aF) (aD (aA M9 (cE bL (E.ext u.aF) (cJ ⟨rfl,u.aF⟩)))))))
def C69(p:Nat)(room:Int)(l:List bG)(w:World)(hb:sH w p room l)(Y:l.length<=1048576):CR 69 [.pointer (some ⟨p,0,none⟩)] w (λv w'=>mG (bH v (qw l)) w w'):=by
 have U:=hb;obtain⟨Z,Af,O,G⟩:=hb;have u:=St.start w;refine eT Tryz.func69 ?_;refine aD (aA iy (cE mD (O.ext u.aF) (aI iI (G.ext u.aF) ?_)));refine⟨λm o x E=>∃k:Nat,x=hU (k:Int)/\m=l.length-k/\k<=l.length/\St w bF [bH o (oO l k)] E,⟨_,0,rfl,rfl,mr _,u.eF⟩,?_⟩;rintro m o _ E ⟨k,rfl,rfl,hk,u⟩ _;have O8:=Lj l k;refine aS (aC (λI=>⟨_,aR UE u (C147 _ _ _ _ _ (U.ext u.aF) bP) (λ_ he u=>bD (λB=>?_) λB=>?_),λ_ _ h=>h⟩) λI=>?_)
 .refine bK ([(k:Int)]:List Int) u dz rfl rfl (dP rfl) (λV _ u=>?_);have J:=u.eU;refine cO u.p1 dz J (by simp<;>omega) ea (λW _ u=>?_);have u:=u.p1.drop;intro M;exact aK bP ⟨l.length-(k+1),bP,k+1,rfl,rfl,bP,by rw[Hg B];exact u⟩
 .intro M;exact aK bP ⟨l.length-(k+1),bP,k+1,rfl,rfl,bP,by rw[Lk B];exact u⟩
 rw[Hh l bP]at u;exact u.fresh
def Hi(room:Int)(l:List bG)(x:bG):Int:=if right x=true then(if room<=l.length then 2 else 0)else 1
def sI(room:Int)(l:List bG)(x:bG):List bG:=if right x=true/\¬ room<=l.length then l++[x]else l
def ei(l:List bG)(i:Int):bG:=if pB l i=true then(l[i.toNat]?).getD ⟨0,0,0,0⟩else⟨0,0,0,0⟩
def va(l:List bG)(i:Int):Int:=if 0<=i/\i<l.length then(if pB l i=true then 0 else 13)else 1
def kz(l:List bG)(i:Int):List bG:=if pB l i=true then l.eraseIdx i.toNat else l
theorem Tl{l:List bG}{i:Int}(h:pB l i=true):0<=i/\i<l.length:=by
 unfold pB at h;grind
def sH.mk'{w:World}{p:Nat}{room:Int}{u:Value}{l:List bG}(h1:nZ w p [hU room,u])(h2:dy (λ_=>True) w u l):sH w p room l:=
 ⟨u,h1.cell rfl,h1.cell rfl,h2⟩
def kX.shut{w0 w:World}{A:Nat->Prop}{R:List HP}{p:Nat}{room:Int}{u:Value}{l:List bG}(B:St w0 A (bM p [hU room,u]::bH u l::R) w):St w0 A (kX p room l::R) w:=
 St.dO (H:=λu=>sep (bM p [hU room,u]) (bH u l)) u (St.join B)
def Ju{w0 w:World}{A:Nat->Prop}{R:List HP}{p:Nat}{room:Int}{l:List bG}(u:St w0 A (kX p room l::R) w):sH w p room l:=by
 obtain⟨F,h,_⟩:=u.head;exact kX.rd h
def C258(v:Value)(i:Int)(xs:List bG)(F:Nat->Prop)(w:World)(Z:(bH v xs).p w F)(h0:0<=i)(hi:i<xs.length)(hn:xs.length<=1073741824) :
  CR 258 [v,hU i,hU (i+1)] w (λv' w'=>True/\mF F (bH v' (xs.eraseIdx i.toNat)) w w'):=by
 obtain⟨i,rfl⟩:=Int.eq_ofNat_of_zero_le h0;replace hi:i<xs.length:=bP
 rw[qs];have Mf:=bH.rd Z;obtain⟨b,cap,rest,rfl,hb,u,I⟩:=mV Z hi;have hlen:(flat xs).length=xs.length*4:=cG xs;have xt:xs.length<=cap:=u.1;replace u:=u.2
 change cap*4<=_ at u
 refine RK _ _ _ _ _ ?_;unfold S258;refine pop (BY iI) (Nl iI bP bP bP bP λ_=>aG (aC (λc=>absurd c bP) λ_=>pop (BY iI) ?_))
 have G:pr hH (mA 198 (.slice (some ⟨b,0,none⟩) xs.length cap) none (some (hU (i:Int))) none)=some (.slice (some ⟨b,0,none⟩) i cap):=by
  rw[qQ iI (l:=0) (h:=i) (ko (.inl ⟨rfl,rfl⟩) (.inr ⟨_,rfl,bP,bP⟩) bP bP)];simp[fp]
 refine pop G (Kw iI Mf bP bP λs25 B=>?_);rw[show((i:Int)+1).toNat=i+1 from bP]at B;have O:(xs.drop (i+1)).length=xs.length-(i+1):=ew
 obtain⟨w1,W,b1,g1⟩:=Ak (P:=hH) (R:=198) (n:=i) (cap:=cap) iI (hb.of_eq (w':=drew w) rfl) (B.ext (Ext.drew w)) bP (by rw[kC,hlen,O];change i*4+(xs.length-(i+1))*4<=_;omega);rw[O,show i+(xs.length-(i+1))=xs.length-1 from bP]at W;refine⟨_,w1,W,?_⟩;refine pop (BY iI) ?_
 have J:pr hH (mA 198 (.slice (some ⟨b,0,none⟩) (xs.length-1) cap) (some (hU ((xs.length-1:Nat):Int))) (some (hU (xs.length:Int))) none)=some (.slice (some ⟨b,(xs.length-1)*4,none⟩) 1 (cap-(xs.length-1))):=by
  rw[qQ iI (l:=xs.length-1) (h:=xs.length) (ko (.inr ⟨_,rfl,bP,bP⟩) (.inr ⟨_,rfl,bP,bP⟩) bP bP),ez bP];simp[fp];omega
 refine pop J ?_;have hx:xs[i]?=some xs[i]:=by simp[hi]
 have Ky:=te hx;have E:(flat (xs.take i)).length=i*4:=by rw[cG,ml,Nat.min_eq_left bP];rfl
 have M:(flat (xs.drop (i+1))).length=(xs.length-(i+1))*4:=by rw[cG,O];rfl
 have hX:(iW xs[i]).length=4:=rfl;have Y:(flat (oJ 1 (⟨0,0,0,0⟩:bG))).length=4:=rfl
 have s1:fS (flat xs++rest) (i*lx bG) (flat (xs.drop (i+1))) =
   flat (xs.take i)++flat (xs.drop (i+1))++((iW xs[i]++flat (xs.drop (i+1))).drop (flat (xs.drop (i+1))).length++rest):=by
  have:=ji (flat (xs.take i)) ((iW xs[i]++flat (xs.drop (i+1))).take (flat (xs.drop (i+1))).length)
   ((iW xs[i]++flat (xs.drop (i+1))).drop (flat (xs.drop (i+1))).length++rest) (flat (xs.drop (i+1))) (by rw[ml,kC];omega)
  rw[E]at this
  change fS (flat xs++rest) (i*4) _=_
  rw[<- this,Ky]
  have e0:∀(a b c d:List Value) (n:Nat),a++(b++c)++d=a++(b++c).take n++((b++c).drop n++d):=λa b c d n=>by
   rw[mv a ((b++c).take n),<- mv ((b++c).take n),ob,mv a]
  exact gj (λz=>fS z (i*4) (flat (xs.drop (i+1)))) (by first|exact e0 _ _ _ _ _|(rw[<- e0];simp only[mv])|(simp only[mv];rw[<- mv (List.take _ _),ob,mv]))
 rw[s1]at b1
 obtain⟨w2,r2,b2,g2⟩:=KH (P:=hH) (R:=0) (o:=(xs.length-1)*4) (n:=1) (c:=cap-(xs.length-1)) (z:=(⟨0,0,0,0⟩:bG)) iI se b1
  (by simp only[kC,oD,E,M,hX];change _+1*4<=_;omega)
 refine⟨_,w2,r2,?_⟩
 have V:=ji (flat (xs.take i)++flat (xs.drop (i+1))) ((iW xs[i]++flat (xs.drop (i+1))).drop (flat (xs.drop (i+1))).length) rest (flat (oJ 1 (⟨0,0,0,0⟩:bG)))
  (by rw[oD,kC,hX,Y];omega)
 rw[show(flat (xs.take i)++flat (xs.drop (i+1))).length=(xs.length-1)*4 from by rw[kC,E,M];omega,mv _ _ rest]at V;rw[V]at b2;refine⟨trivial,F,.inr ⟨b,cap,flat (oJ 1 (⟨0,0,0,0⟩:bG))++rest,?_,?_,?_,I⟩,λ_ hb=>.inl hb,((Ext.drew w).aF (A:=F)).trans (g1.trans (C:=F) g2 (λk U=>(I k).2 U) λk _ U=>(I k).2 U) (λ_ h=>h) λ_ _ h=>h⟩
 .rw[JJ hi]
 .rw[wz,ft,<- mv];exact b2
 refine⟨by rw[JJ hi];omega,?_⟩;rw[wz,ft]
 change cap*4<=_
 rw[kC,hlen]at u;simp only[kC,E,M,Y];omega
def C250(G:Value)(xs:List bG)(w:World)(E:dy (λ_=>True) w G xs)(W:xs.length<=1073741824):CR 250 [G] w (λv w'=>mG (bH v xs) w w'):=by
 have B:=E;obtain⟨a,cap,rfl,Y,h3⟩:=E;have u:=St.start w;refine eT Tryz.func250 ?_;refine MX (eA iI).1 (λM=>?_) ?_
 .rcases h3 with⟨h,hc⟩|⟨b,o,h,_⟩
  .exact⟨by rw[h];rfl,hc⟩
  rw[M]at h;cases h
 refine bD (λI=>?_) (λI=>?_)
 .have O:a=none:=by cases a with|none=>rfl|some _=>cases I
  have J:xs=[]:=by
   rcases h3 with⟨h,_⟩|⟨b,o,h,_⟩
   .exact h
   .rw[O]at h;cases h
  subst J;exact u.eF.fresh
 refine bK ([]:List bG) u iI rfl rfl (dP rfl) (λV _ u=>?_);have U:=(B.ext u.aF);exact cO u iI U (by simp<;>omega) ea (λ_ _ u=>u.fresh)
def C143(p:Nat)(room:Int)(l:List bG)(w:World)(hb:sH w p room l)(M:l.length<=1073741824):CR 143 [.pointer (some ⟨p,0,none⟩)] w (λv w'=>mG (bH v l) w w'):=by
 obtain⟨I,J,E,B⟩:=hb;have u:=St.start w;refine eT Tryz.func143 ?_;refine aD (aA iy (cE mD (E.ext u.aF) (dX UK (C250 _ _ _ (B.ext u.aF) bP) ?_)));rintro _ _ G;have u:=u.made G;exact u.fresh
theorem Pc{room:Int}{l:List bG}{x:bG}(h:right x=false):Hi room l x=1:=by unfold Hi;rw[h];rfl
theorem Pd{room:Int}{l:List bG}{x:bG}(h:right x=false):sI room l x=l:=by unfold sI;rw[h];rfl
theorem Ll{room:Int}{l:List bG}{x:bG}(h:right x=true)(u:room<=l.length):Hi room l x=2:=by grind[Hi]
theorem Lm{room:Int}{l:List bG}{x:bG}(u:room<=l.length):sI room l x=l:=by grind[sI]
theorem Tm{room:Int}{l:List bG}{x:bG}(h:right x=true)(u:¬ room<=l.length):Hi room l x=0:=by grind[Hi]
theorem Tn{room:Int}{l:List bG}{x:bG}(h:right x=true)(u:¬ room<=l.length):sI room l x=l++[x]:=by unfold sI;grind
def C164(p:Nat)(room:Int)(l:List bG)(x:bG)(F:Nat->Prop)(w:World)(I:(kX p room l).p w F)(V:l.length<=1048576):CR 164 [.pointer (some ⟨p,0,none⟩),ia x] w (λv w'=>v=hU (Hi room l x)/\mF F (kX p room (sI room l x)) w w'):=by
 have u:=St.begin I;obtain⟨W,u⟩:=u.dS;have u:=u.split;refine qj Tryz.func164 (pl:=agR) ?_;refine bY u (λG _ u=>aE jD u.At (aR aaJ u (C261 _ _) λ_ M u=>bJ (bD (λB=>?_) λB=>aR UD u (C145 _ _ _ _ (sH.mk' u.p1.hb u.p2.eU)) λ_ M u=>aC (λE=>?_) λE=>?_)))
 .have u:=u.p2.p2;rw[Pc (by simpa using B),Pd (by simpa using B)];exact⟨rfl,(kX.shut u).mut⟩
 .have u:=u.p2.p2;rw[Ll (by simpa using B) E,Lm E];exact⟨rfl,(kX.shut u).mut⟩
 refine aD (aA iy (have u:=u.drew;aB mD u.p1.hb rfl (aE jD u.At (bK ([x]) u iI rfl rfl (dP rfl) λO _ u=>?_))));refine⟨aY mD (u.p2.hb.cell rfl),?_⟩;have J:=u.eU;refine cO u.p3 iI J (by simp<;>omega) ea (λU _ u=>have u:=u.p1.drop;aD (aA iy (aO u.p2 mD (dP rfl) u.eU.one λ_ u=>?_)));have u:=u.p1.p1;rw[Tm (by simpa using B) E,Tn (by simpa using B) E];exact⟨rfl,(kX.shut u).mut⟩
theorem wj{l:List bG}{i:Int}(h:pB l i=false):ei l i=⟨0,0,0,0⟩:=by unfold ei;rw[h];rfl
theorem wk{l:List bG}{i:Int}(h:pB l i=false):kz l i=l:=by unfold kz;rw[h];rfl
theorem Bi{l:List bG}{i:Int}(h:i<0\/(l.length:Int)<=i):va l i=1:=by unfold va;omega
theorem Pe{l:List bG}{i:Int}(u:0<=i/\i<l.length)(h:pB l i=false):va l i=13:=by unfold va;grind
theorem Pf{l:List bG}{i:Int}(h:pB l i=true):va l i=0:=by unfold va;rw[fi (Tl h),h];rfl
theorem Pg{l:List bG}{i:Int}{x:bG}(h:pB l i=true)(u:l[i.toNat]?=some x):ei l i=x:=by unfold ei;grind
theorem Ph{l:List bG}{i:Int}(h:pB l i=true):kz l i=l.eraseIdx i.toNat:=by unfold kz;rw[h];rfl
def C158(p:Nat)(room:Int)(l:List bG)(i:Int)(F:Nat->Prop)(w:World)(E:(kX p room l).p w F)(Z:l.length<=1048576):CR 158 [.pointer (some ⟨p,0,none⟩),hU i] w (λv w'=>v=.tuple #[ia (ei l i),hU (va l i)]/\mF F (kX p room (kz l i)) w w'):=by
 have u:=St.begin E;obtain⟨sv,u⟩:=u.dS;have u:=u.split;refine eT Tryz.func158 ?_;refine aM u se (λPj _ u=>?_);refine⟨_,?_,λ_ _ h=>h⟩;refine aS (aC (λU=>?_) λU=>?_)
 .intro Y;refine gH (pop Cd (aH (x:=(⟨0,0,0,0⟩:bG)) u jD rfl rfl λW u=>aE jD u.At ?_));have u:=u.p2.p2;rw[wj (pC bP),Bi bP,wk (pC bP)];exact⟨rfl,(kX.shut u).mut⟩
 refine aD (aA iy (aB mD u.p1.hb rfl (aI iI u.p2.eU (cJ ?_))));intro Y;refine aC (λJ=>?_) (λJ=>aR UE u (C147 _ _ _ _ _ (sH.mk' u.p1.hb u.p2.eU) bP) λ_ he u=>bJ (bD (λB=>?_) λB=>?_))
 .refine pop Cd (aH (x:=(⟨0,0,0,0⟩:bG)) u jD rfl rfl λW u=>aE jD u.At ?_);have u:=u.p2.p2;rw[wj (pC bP),Bi bP,wk (pC bP)];exact⟨rfl,(kX.shut u).mut⟩
 .refine pop Cd (aH (x:=(⟨0,0,0,0⟩:bG)) u jD rfl rfl λ_ u=>aE jD u.At ?_);have u:=u.p2.p2;rw[wj (by simpa using B),Pe bP (by simpa using B),wk (by simpa using B)];exact⟨rfl,(kX.shut u).mut⟩
 refine aD (aA iy (aB mD u.p1.hb rfl ?_));obtain⟨I,G⟩:=gx l (i:=(i).toNat) bP;refine ed u.p2 iI bP bP (λ_ M=>gP u.p2 jD M G (aM u se λLn _ u=>aH (x:=I) u jD rfl rfl λ_ u=>aD (aA iy (aB mD u.p2.hb rfl (dX UK (C250 _ _ _ u.p3.eU bP) ?_)))));rintro _ _ V;have u:=u.made V;refine aK bP (lS aaH u (H':=λv=>bH v (l.eraseIdx i.toNat)) (Φ:=λ_ _=>True) (λF E=>?_) ?_)
 .exact C258 _ i _ F _ E bP bP bP
 rintro O _ _ u;refine aD (aA iy (aO u.p3 mD (dP rfl) u.eU.one λ_ u=>aE jD u.p2.At (aH (x:=I) u.p3 jD rfl rfl λ_ u=>aE jD u.At ?_)));have u:=u.p2.p2;rw[Pg (by simpa using B) G,Pf (by simpa using B),Ph (by simpa using B)];exact⟨rfl,(kX.shut u).mut⟩
def nA(l:List bG)(c:Int):Option Int:=(l.reverse.find? λx=>decide (x.kind=3/\x.cell=c)).map (·.n)
def C350(y O:Value)(b:Nat)(xs:List bG)(J:Nat->hM)(M:hM)(w:World)(hn:xs.length<=1073741824)
  (I:∀k W,J k W->Cell W b 0 O/\dy (λ_=>True) W O xs) (G:J 0 w)
  (Y:∀k x W,xs.reverse[k]?=some x->J k W->gM hH y [hU ((xs.length:Int)-1-k),ia x] W λv U=>(v=.bool true/\J (k+1) U)\/(v=.bool false/\M U)) :
  CR 350 [y,.pointer (some ⟨b,0,none⟩)] w (λ_ W=>J xs.length W\/M W):=by
 refine RQ _ _ _ _ ?_;unfold S350;refine cE mD (I 0 w G).1 (aI iI (I 0 w G).2 (fo bP ?_));refine⟨λm x u=>∃k:Nat,x=hU ((xs.length:Int)-1-k)/\m=xs.length-k/\k<=xs.length/\J k u,⟨_,0,ew,rfl,mr _,G⟩,?_⟩;rintro m _ u ⟨k,rfl,rfl,hk,B⟩ _;refine cJ (aC (λc=>?_) λc=>?_)
 .obtain⟨h1,h2⟩:=I k u B;have Z:k<xs.length:=bP
  have V:xs.reverse[k]?=some (xs[xs.length-1-k]'(bP)):=by rw[List.getElem?_reverse Z,j0]
  refine cE mD h1 (aZ iI h2 bP (x:=xs[xs.length-1-k]'(bP)) (by rw[j0 bP];congr 2;omega) λq hq=>?_);refine aE jD hq ?_;obtain E:=Y k _ u V B;refine gM.mono E ?_;rintro v w2 (⟨rfl,FZ⟩|⟨rfl,Ap⟩)
  .exact bJ (et (fo bP ⟨xs.length-(k+1),bP,k+1,by congr 1;omega,rfl,bP,FZ⟩))
  exact bJ (gH (.inr Ap))
 have:k=xs.length:=bP
 subst this;exact .inl B
def C324(u:Value)(w:World)(h1:qG u=true):CR 324 [u] w (λv w'=>∃b,v=.func (.func 350) [].toArray [.pointer (some ⟨b,0,none⟩)].toArray/\mG (bM b [u]) w w'):=by
 have B:=St.start w;refine eT Tryz.func324 ?_;exact jR B h1 (λb _ B=>⟨b,rfl,B.fresh⟩)
theorem Lo{α:Type}{p:α->Bool}{l:List α}{k:Nat}{x:α}(J:∀y∈l.take k,p y=false)(u:l[k]?=some x)(E:p x=true):l.find? p=some x:=by
 rw[List.find?_eq_some_iff_getElem]
 have I:=(jq.1 u)
 obtain⟨G,B⟩:=I
 refine⟨E,k,G,B,λj M=>?_⟩
 have:=J (l[j]'(bP)) (List.mem_take_iff_getElem.2 ⟨j,bP,rfl⟩)
 simp[this]
def C259(p:Nat)(c room:Int)(l:List bG)(w:World)(hb:sH w p room l)(hn:l.length<=1048576) :
  CR 259 [.pointer (some ⟨p,0,none⟩),hU c] w (λv w'=>v=.tuple #[hU ((nA l c).getD 0),.bool (nA l c).isSome]/\Ext w w'):=by
 obtain⟨sv,Af,xG,hL⟩:=hb;have u:=St.start w;refine eT Tryz.func259 ?_;refine jR u rfl (λb3 _ u=>fq u sQ rfl λb4 _ u=>fq u MY rfl λb5 _ u=>aD (aA iy (cE mD (xG.ext u.aF) (dX aa2 (C324 sv _ hL.one) ?_))));rintro _ _ ⟨b,rfl,dw⟩;have u:=u.made dw
 refine re (cap:=[.pointer (some ⟨b,0,none⟩)]) (xs:=(tr l.length).map fun (k:Nat)=>[mj .i64 ((l.length:Int)-1-k),ia ((l.reverse[k]?).getD ⟨0,0,0,0⟩)]) aa6 u
  (λk M=>M=[bM b [sv],bM b5 [.bool false],bM b4 [hU 0],bM b3 [hU c]]/\∀y∈l.reverse.take k,decide (y.kind=3/\y.cell=c)=false)
  (λcd M=>cd=.ret/\∃x,nA l c=some x/\M=[bM b5 [.bool true],bM b4 [hU x]])
  ⟨rfl,ew⟩ ew ?_ ?_ ?_ ?_ ?_ ?_
 ·
  intro y J Jx W hJ OL KI Z;refine(C350 y sv b l J Jx W bP (λk W E=>?_) KI λk x W G E=>?_).mono λ_ _ r=>r.mono λv W' h=>?_
  .obtain⟨Y,M,⟨rfl,_⟩,hS⟩:=hJ k W E;exact⟨hS.p1.hb.cell rfl,hL.ext hS.aF⟩
  .have O:=(jq.1 G).1;rw[List.length_reverse]at O;have:=Z k [mj .i64 ((l.length:Int)-1-k),ia x] W (by rw[n0,Fl O];simp[G]) E;exact this
  simpa using h
 ·
  rintro k args Y1 Y2 B Kr M W E ⟨rfl,U⟩ hB hN hR u
  have O:k<l.length:=by
   have:=(jq.1 E).1
   simpa using this
  obtain⟨x,G⟩:∃x,l.reverse[k]?=some x:=⟨_,j0 (by simpa using O)⟩
  have ha:args=[mj .i64 ((l.length:Int)-1-k),ia x]:=by
   rw[n0,Fl O]at E;simp[G]at E;exact E.symm
  subst ha;dsimp only[yp];refine aM u se (λb7 _ u=>yv u jD rfl ea (by simp[qG,fS]) λ_ u=>?_);refine hB _ _ _ u.p1 (λw8 u=>?_);have e7:fS [mj IntKind.i64 0,hU 0,hU 0,hU 0] 0 [mj .i64 x.kind,hU x.line,hU x.cell,hU x.n]=iW x:=rfl;refine⟨_,?_,λ_ _ h=>h⟩;refine aA ng (aB bL u.p1.hb rfl (aG ?_))
  have no:¬ (x.kind=3/\x.cell=c)->Kr none w8:=λI=>by
   refine hN _ _ u.p1.drop.p0 ⟨rfl,?_⟩;exact eE U G (by simpa using I)
  refine aC (λV=>?_) (λV=>?_)
  .refine aA pb (aB bL u.p1.hb rfl (aB bL u.p5.hb rfl (aG ?_)));intro vP;refine aC (λc2=>aA q8 (aB bL u.p1.hb rfl (aO u.p4 bL (u4 rfl) rfl λ_ u=>aO u.p4 B3 (u4 rfl) rfl λ_ u=>hR _ [bM b5 [.bool true],bM b4 [hU x.n]] _ u.p5.drop.p4.drop.p3.drop.p2 ⟨rfl,x.n,?_,rfl⟩))) (λc2=>no λI=>c2 I.2);unfold nA;rw[Lo U G (by simpa using⟨V,c2⟩)];rfl
  intro vP;exact et (no λI=>V I.1)
 ·
  rintro D M W ⟨rfl,U⟩ u;refine aO u.p3 bL (u4 rfl) rfl (λ_ u=>aO u.p3 B3 (u4 rfl) rfl λ_ u=>?_);refine yJ u.p2 (λw15 u=>?_);refine aB bL u.p1.hb rfl (aB B3 u.hb rfl ?_)
  have:nA l c=none:=by
   unfold nA
   rw[show l.reverse.find? _=none from List.find?_eq_none.2 λy Z=>by
    have:=U y (by rw[kE ew];exact Z);simp only[this];exact Bool.false_ne_true]
   rfl
  rw[this];exact⟨rfl,u.aF⟩
 .rintro D M W ⟨_,x,hl,rfl⟩ u;refine yJ u (λw15 u=>?_);refine aB bL u.p1.hb rfl (aB B3 u.hb rfl ?_);rw[hl];exact⟨rfl,u.aF⟩
 .rintro id D M W ⟨h,_⟩;cases h
 rintro c M ⟨h,_⟩;exact .inr h
def CH{α:Type}{xs ys:List α}{k:Nat}{e f:α}(h:xs.take k=ys.take k)(h1:xs[k]?=some e)(h2:ys[k]?=some f)(u:e=f):xs.take (k+1)=ys.take (k+1):=by
 rw[ta,ta,h,h1,h2,u]
def Lp{α:Type}{xs ys:List α}{k:Nat}{e f:α}(h1:xs[k]?=some e)(h2:ys[k]?=some f)(u:¬ e=f):¬ xs=ys:=by
 grind
def C50(room:Int)(w:World):CR 50 [hU room] w (λv w'=>((room<1\/16<room)/\v=.tuple #[.pointer none,hU 1]/\Ext w w')\/(1<=room/\room<=16/\∃b,v=.tuple #[.pointer (some ⟨b,0,none⟩),hU 0]/\mG (kX b room []) w w')):=by
 have u:=St.start w;refine eT Tryz.func50 ?_;refine⟨_,?_,λ_ _ h=>h⟩;refine aS (aC (λB=>?_) λB=>?_)
 .intro E;exact gH (.inl ⟨bP,rfl,u.aF⟩)
 refine dL ?_;intro E;exact aC (λ_=>.inl ⟨bP,rfl,u.aF⟩) (λ_=>pop (Ni _) (o0 u λb _ u=>have u:=(u.eF (α:=bG)).p1;.inr ⟨bP,bP,b,rfl,(kX.shut u).fresh⟩))
def C26(O M:Value)(xs ys:List Int)(w:World)(G:dy (λ_=>True) w O xs)(V:dy (λ_=>True) w M ys)(hn:xs.length<=1073741824):CR 26 [O,M] w (λv w'=>v=.bool (decide (xs=ys))/\Ext w w'):=by
 have u:=St.start w;refine qj Tryz.func26 (pl:=P26) ?_;refine aI dz (G.ext u.aF) (aI dz (V.ext u.aF) (cC (aC (λ_=>⟨vb (ga (by rintro rfl;omega)).symm,u.aF⟩) λZ=>?_)));refine⟨λm x U=>∃k:Nat,x=hU (k:Int)/\m=xs.length-k/\k<=xs.length/\xs.take k=ys.take k/\St w bF [] U,⟨_,0,rfl,rfl,mr _,rfl,u⟩,?_⟩;rintro m _ U ⟨k,rfl,rfl,hk,I,u⟩ _;refine aI dz (G.ext u.aF) (aS (aC (λpf=>?_) λ_=>⟨vb (fj (by rw[kE bP,kE bP]at I;exact I)).symm,u.aF⟩));obtain⟨VB,B⟩:=gx xs (i:=(k:Int).toNat) bP
 refine aZ dz (G.ext u.aF) bP B (λ_ Y=>have u:=u.drew;aE bL Y ?_);obtain⟨rG,E⟩:=gx ys (i:=(k:Int).toNat) bP;exact aZ dz (V.ext u.aF) bP E (λ_ W=>aE bL W (cC (aC (λJ=>⟨vb (ga (Lp B E J)).symm,u.aF⟩) λJ=>aK bP ⟨xs.length-(k+1),bP,k+1,rfl,rfl,bP,CH I B E (zP.1 J),u⟩)))
structure Mem where
 of:List Int
 dZ:List Int
 l:List Int
 kept:List Int
 gg:Int->List jm
def ke(of:List Int):Int:=if of.length=0 then 0 else of.getD (of.length-1) 0+1
def sJ(k:List Int)(u:List jm):List Int:=u.foldl (λk w=>k.set w.cell.toNat w.n) k
theorem vc(u:List jm):∀k:List Int,(sJ k u).length=k.length:=by
 induction u with
 | nil=>intro k;rfl
 | cons x u B=>simp_all[sJ]
def Lq(u:List jm)(x:jm)(k:List Int):sJ k (u++[x])=(sJ k u).set x.cell.toNat x.n:=by
 unfold sJ;grind
theorem Bj{u:List jm}{j:Nat}{x:jm}{k:List Int}(B:u[j]?=some x):sJ k (u.take (j+1))=(sJ k (u.take j)).set x.cell.toNat x.n:=by
 rw[ta,B];exact Lq _ _ _
def Hj(m:Mem)(cell:Int):Bool:=decide (0<=cell/\cell<m.l.length)
def fG(m:Mem)(cell n:Int):Mem:=if Hj m cell=true then {m with l:=m.l.set cell.toNat n,gg:=if cell<m.of.length then pU m.gg (m.of.getD cell.toNat 0) (m.gg (m.of.getD cell.toNat 0)++[⟨cell,n⟩])else m.gg}else m
def Lr(m:Mem)(line:Int):Bool:=decide (0<=line/\line<ke m.of)
def pD(m:Mem)(line:Int):Mem:=if Lr m line=true then {m with kept:=sJ m.kept (m.gg line),gg:=pU m.gg line []}else m
structure yb(m:Mem):Prop where
 Pl:m.of.length<=m.dZ.length
 fl:m.dZ.length<=20
 ll:m.l.length=m.dZ.length
 kl:m.kept.length=m.of.length
 ofr:∀n∈m.of,0<=n/\n<ke m.of
 lb:ke m.of<=20
 pc:∀k,∀x∈m.gg k,0<=x.cell/\x.cell<m.of.length
def MB(m:Mem)(n:Nat):Prop:=∀k,(m.gg k).length<=n
def fD(p:Nat)(ov fv:Value)(m:Mem):HP:=oW λlv=>oW λkv=>oW λpm=>sep (bM p [ov,fv,lv,kv,.map (some pm)]) (sep (bH lv m.l) (sep (bH kv m.kept) (mI pm m.gg)))
def vd(ov fv:Value)(m:Mem)(w:World):Prop:=dy (λ_=>True) w ov m.of/\dy (λ_=>True) w fv m.dZ
def sK(w:World)(p:Nat)(m:Mem):Prop:=∃ov fv lv kv pm,Cell w p 0 ov/\Cell w p 1 fv/\Cell w p 2 lv/\Cell w p 3 kv/\Cell w p 4 (.map (some pm))/\dy (λ_=>True) w ov m.of/\dy (λ_=>True) w fv m.dZ/\dy (λ_=>True) w lv m.l/\dy (λ_=>True) w kv m.kept/\qp w pm m.gg
section
variable {w w' w0:World}{A F:Nat->Prop}{R:List HP}{p:Nat}{ov fv lv kv:Value}{m:Mem}{pm:Nat}
theorem sK.ext(h:sK w p m)(e:Ext w w'):sK w' p m:=by
 obtain⟨ov,fv,lv,kv,pm,E,G,I,J,u,B,h1,h2,h3,h4⟩:=h
 exact⟨ov,fv,lv,kv,pm,E.ext e,G.ext e,I.ext e,J.ext e,u.ext e,B.ext e,h1.ext e,h2.ext e,h3.ext e,h4.ext e⟩
theorem sK.mk'(h:nZ w p [ov,fv,lv,kv,.map (some pm)])(u:vd ov fv m w)(h2:dy (λ_=>True) w lv m.l)(h3:dy (λ_=>True) w kv m.kept)(h4:qp w pm m.gg):sK w p m:=
 ⟨ov,fv,lv,kv,pm,h.cell rfl,h.cell rfl,h.cell rfl,h.cell rfl,h.cell rfl,u.1,u.2,h2,h3,h4⟩
theorem fD.open(u:St w0 A (fD p ov fv m::R) w):∃lv kv pm,St w0 A (bM p [ov,fv,lv,kv,.map (some pm)]::bH lv m.l::bH kv m.kept::mI pm m.gg::R) w:=by
 obtain⟨lv,u⟩:=u.dS;obtain⟨kv,u⟩:=u.dS;obtain⟨pm,u⟩:=u.dS
 have h1:=u.split
 have h2:=h1.p1.split
 have h3:=h2.p1.split
 exact⟨lv,kv,pm,h3.p2.p3⟩
theorem fD.shut(u:St w0 A (bM p [ov,fv,lv,kv,.map (some pm)]::bH lv m.l::bH kv m.kept::mI pm m.gg::R) w):St w0 A (fD p ov fv m::R) w:=by
 have h1:St w0 A (sep (bH kv m.kept) (mI pm m.gg)::bM p [ov,fv,lv,kv,.map (some pm)]::bH lv m.l::R) w:=St.join u.p3.p3
 have h2:St w0 A (sep (bH lv m.l) (sep (bH kv m.kept) (mI pm m.gg))::bM p [ov,fv,lv,kv,.map (some pm)]::R) w:=St.join h1.p2
 exact St.dO lv (St.dO kv (St.dO pm (St.join h2.p1)))
theorem CI(u:St w0 A (fD p ov fv m::R) w)(B:vd ov fv m w):sK w p m:=by
 obtain⟨lv,kv,pm,u⟩:=fD.open u
 exact sK.mk' u.hb B u.p1.eU u.p2.eU u.p3.NU
end
def C154(p:Nat)(m:Mem)(w:World)(J:sK w p m)(B:yb m):CR 154 [(.pointer (some ⟨p,0,none⟩))] w (λv w'=>v=hU (ke m.of)/\Ext w w'):=by
 have Mn:=J;obtain⟨ov,fv,lv,kv,pm,E,Y,c2,c3,V,I,Rm,W,O,hP⟩:=J;have To:=B.fl;have Og:=B.Pl;have Ha:=B.ll;have Z:=B.kl;have VA:=B.lb;have u:=St.start w;refine qj Tryz.func154 (pl:=agO) ?_;refine aD (aA qY (cE ek (E.ext u.aF) (aI dz (I.ext u.aF) (aG (aC (λ_=>⟨gj (mj .i64) (by unfold ke;rw[fi bP]),u.aF⟩) λeS=>aD (aA qY (have u:=u.drew;cE ek (E.ext u.aF) (aD (aA qY (cE ek (E.ext u.aF) (aI dz (I.ext u.aF) (fo bP ?_))))))))))));obtain⟨VB,G⟩:=gx m.of (i:=((m.of.length:Int)-1).toNat) bP
 refine aZ dz I bP G (λ_ U=>aE bL (U.ext u.aF) ?_);have M:=B.ofr _ (l0 G);exact aK bP ⟨gj (mj .i64) (by unfold ke;rw[ez bP,o4,show m.of.length-1=((m.of.length:Int)-1).toNat from bP,G];rfl),u.aF⟩
def C260(p:Nat)(m:Mem)(cell:Int)(w:World)(G:sK w p m)(hk:yb m):CR 260 [(.pointer (some ⟨p,0,none⟩)),hU cell] w (λv w'=>v=.tuple #[hU (if Hj m cell=true then m.l.getD cell.toNat 0 else 0),hU (if Hj m cell=true then 0 else 1)]/\Ext w w'):=by
 have Mn:=G;obtain⟨ov,fv,lv,kv,pm,c0,c1,I,c3,Z,hO,Rm,E,M,hP⟩:=G;have u:=St.start w;refine eT Tryz.func260 ?_;refine⟨λW w'=>W=.bool (decide (cell<0\/m.l.length<=cell))/\w=w',aS (aC (λ_=>⟨FT bP,rfl⟩) λ_=>aD (aA nd (cE ek (I.ext u.aF) (aI dz (E.ext u.aF) (cJ ⟨xr bP,rfl⟩))))),?_⟩;rintro _ _ ⟨rfl,Y⟩ _;subst Y;refine aC (λV=>?_) (λV=>?_)
 .have B:Hj m cell=false:=by unfold Hj;rw[decide_eq_false_iff_not];omega
  rw[B];exact⟨rfl,u.aF⟩
 refine aD (aA nd (cE ek (I.ext u.aF) ?_));obtain⟨U,J⟩:=gx m.l (i:=cell.toNat) bP;refine aZ dz E bP J (λ_ O=>aE bL (O.ext u.aF) ?_);have B:Hj m cell=true:=by unfold Hj;rw[decide_eq_true_eq];omega
 rw[B,o4,J];exact⟨rfl,u.aF⟩
def C76(p:Nat)(m:Mem)(w:World)(E:sK w p m)(B:yb m):CR 76 [(.pointer (some ⟨p,0,none⟩))] w (λv w'=>mG (bH v m.l) w w'):=by
 have W:=E;obtain⟨ov,fv,lv,kv,pm,O,U,J,Y,M,hO,Rm,I,G,hP⟩:=E;have To:=B.fl;have Og:=B.Pl;have Z:=B.ll;have V:=B.kl;have VA:=B.lb;have u:=St.start w;refine eT Tryz.func76 ?_;exact aD (aA nd (cE ek (J.ext u.aF) (fZ AJ u (C117 _ _ _ (I.ext u.aF) bP) λ_ _ _ u=>u.fresh)))
def C77(p:Nat)(m:Mem)(w:World)(G:sK w p m)(B:yb m):CR 77 [(.pointer (some ⟨p,0,none⟩))] w (λv w'=>mG (bH v m.kept) w w'):=by
 have W:=G;obtain⟨ov,fv,lv,kv,pm,O,U,Y,I,J,hO,Rm,M,E,hP⟩:=G;have To:=B.fl;have Og:=B.Pl;have Z:=B.ll;have V:=B.kl;have VA:=B.lb;have u:=St.start w;refine eT Tryz.func77 ?_;exact aD (aA uB (cE ek (I.ext u.aF) (fZ AJ u (C117 _ _ _ (E.ext u.aF) bP) λ_ _ _ u=>u.fresh)))
def C159(p:Nat)(ov fv:Value)(m:Mem)(F:Nat->Prop)(cell n:Int)(w:World)(W:(fD p ov fv m).p w F)(M:∀w',fH F w w'->vd ov fv m w')(G:yb m)(hb:MB m 1000000):CR 159 [(.pointer (some ⟨p,0,none⟩)),hU cell,hU n] w (λv w'=>v=hU (if Hj m cell=true then 0 else 1)/\mF F (fD p ov fv (fG m cell n)) w w'):=by
 have u:=St.begin W;obtain⟨lv,kv,pm,u⟩:=fD.open u;have To:=G.fl;have Og:=G.Pl;have Ha:=G.ll;have NJ:=G.kl;have VA:=G.lb;refine qj Tryz.func159 (pl:=agP) ?_;refine⟨λjv w'=>jv=.bool (decide (cell<0\/m.l.length<=cell))/\w=w',aS (aC (λ_=>⟨FT bP,rfl⟩) λ_=>aD (aA nd (aB ek u.hb rfl (aI dz u.p1.eU (cJ ⟨xr bP,rfl⟩))))),?_⟩;rintro _ _ ⟨rfl,hw⟩ _;subst hw;refine aC (λme=>?_) (λme=>?_)
 .have u:=u.p3.p3.p3.p3;have E:Hj m cell=false:=by unfold Hj;rw[decide_eq_false_iff_not];omega
  unfold fG;rw[E];exact⟨rfl,(fD.shut u).mut⟩
 have E:Hj m cell=true:=by unfold Hj;rw[decide_eq_true_eq];omega
 refine aD (aA nd (aB ek u.hb rfl ?_));obtain⟨Jv,zz⟩:=gx m.l (i:=cell.toNat) bP;refine ed u.p1 dz bP bP (λ_ Z=>kJ _ u.p1 bL Z bP λ_ u=>⟨λw'=>St w F [fD p ov fv (fG m cell n)] w',aD (aA qY (aB ek u.p1.hb rfl (aI dz (M _ u.aF).1 (aS (aC (λV=>?_) λV=>?_))))),?_⟩)
 .refine aD (aA qY (aB ek u.p1.hb rfl ?_));obtain⟨I,O⟩:=gx m.of (i:=cell.toNat) bP;refine aZ dz (M _ u.aF).1 bP O (λ_ I8=>aE bL I8 (aD (aA nf (have u:=u.drew;aB sS u.p1.hb rfl (aD (aA nf (aB sS u.p1.hb rfl ?_)))))));have hbx:=hb I;obtain⟨J,u⟩:=u.p3.Et (k:=I);refine⟨_,u.p1.vV Tryz.underlying205 DP uC,?_⟩;refine pop (Gy _ _) (bK ([(⟨cell,n⟩:jm)]) u wT rfl rfl (dP rfl) λY _ u=>?_);refine⟨aY sS (u.p4.hb.cell rfl),?_⟩;refine⟨aY sS (u.p4.hb.cell rfl),?_⟩
  refine⟨u.p2.vV Tryz.underlying205 DP uC,?_⟩;have GV:=u.eU;refine cO u.p1 wT GV (by simp;omega) ea (λU _ u=>?_);have u:=u.p1.drop;refine⟨aY sS (u.p3.hb.cell rfl),?_⟩;obtain⟨zA,rfl⟩:=u.gu;have u:=u.p1.p1;refine Eu u Tryz.underlying205 DP (λ_ u=>?_);have u:=u.p3.p2.p3;have B:fG m cell n={m with l:=m.l.set cell.toNat n,gg:=pU m.gg I (m.gg I++[⟨cell,n⟩])}:=by unfold fG;rw[fi E,fi bP,o4,O];rfl
  rw[B];exact fD.shut (m:={m with l:=_,gg:=_}) u
 .have u:=u.p3.p3.p2.p3;have B:fG m cell n={m with l:=m.l.set cell.toNat n}:=by unfold fG;rw[fi E,ez bP]
  rw[B];exact fD.shut (m:={m with l:=_,gg:=_}) u
 intro _ u _;exact⟨by rw[E];rfl,u.mut⟩
def Jy(m:Mem)(cut:List Int):Bool:=decide ((cut.length:Int)=ke m.of)&&(tr cut.length).all λi=>decide (0<=cut.getD i 0/\cut.getD i 0<=(m.gg i).length)
def xI(m:Mem)(cut:List Int)(k:Nat):List Int:=(tr k).foldl (λo (i:Nat)=>sJ o ((m.gg i).take (cut.getD i 0).toNat)) m.kept
def gD(m:Mem)(cut:List Int):Option (List Int):=if Jy m cut=true then some (xI m cut cut.length)else none
theorem Bl(m:Mem)(cut:List Int)(k:Nat):xI m cut (k+1)=sJ (xI m cut k) ((m.gg k).take (cut.getD k 0).toNat):=by
 unfold xI;rw[Dy,wI];rfl
theorem rI(m:Mem)(cut:List Int):∀k,(xI m cut k).length=m.kept.length
 | 0=>rfl
 | k+1=>by rw[Bl,vc,rI]
def Po{m:Mem}{cut:List Int}{k:Nat}{c:Int}(hc:cut[k]?=some c)(h:¬ (0<=c/\c<=(m.gg k).length)):gD m cut=none:=by
 unfold gD;grind[Jy,xI]
def Pp{m:Mem}{cut:List Int}(h:(cut.length:Int)≠ke m.of):gD m cut=none:=by
 unfold gD Jy;grind
def Ls{m:Mem}{cut:List Int}(h:(cut.length:Int)=ke m.of)(hc:∀(k:Nat) (c:Int),k<cut.length->cut[k]?=some c->0<=c/\c<=(m.gg k).length):gD m cut=some (xI m cut cut.length):=by
 unfold gD;grind[Jy,xI]
def nB(m:Mem)(u:List Int):Mem:={m with kept:=u,l:=u++m.dZ.drop u.length,gg:=λ_=>[]}
def C160(p:Nat)(ov fv:Value)(m:Mem)(F:Nat->Prop)(line:Int)(w:World)(W:(fD p ov fv m).p w F)(U:∀w',fH F w w'->vd ov fv m w')(B:yb m)(hb:MB m 1000000):CR 160 [(.pointer (some ⟨p,0,none⟩)),hU line] w (λv w'=>v=hU (if Lr m line=true then 0 else 1)/\mF F (fD p ov fv (pD m line)) w w'):=by
 have u:=St.begin W;obtain⟨lv,kv,pm,u⟩:=fD.open u;have To:=B.fl;have Og:=B.Pl;have Ha:=B.ll;have NJ:=B.kl;have VA:=B.lb;refine qj Tryz.func160 (pl:=agQ) ?_;refine⟨λjv w'=>jv=.bool (decide (line<0\/ke m.of<=line))/\St w F [bM p [ov,fv,lv,kv,.map (some pm)],bH lv m.l,bH kv m.kept,mI pm m.gg] w',aS (aC (λ_=>⟨vb (by first|exact(fj bP).symm|exact gh.2 bP),u⟩) λ_=>aR UF u (C154 _ m _ (sK.mk' u.hb (U _ u.aF) u.p1.eU u.p2.eU u.p3.NU) B) λ_ _ u=>cJ ⟨vb (by first|exact(fj bP).symm|exact gh.2 bP),u⟩),?_⟩
 rintro _ _ ⟨rfl,u⟩ _;refine aC (λpf=>?_) (λpf=>?_)
 .have u:=u.p3.p3.p3.p3;have E:Lr m line=false:=by unfold Lr;rw[decide_eq_false_iff_not];omega
  unfold pD;rw[E];exact⟨rfl,(fD.shut u).mut⟩
 refine aD (aA nf (aB sS u.hb rfl ?_));obtain⟨J,u⟩:=u.p3.Et (k:=line);refine⟨_,u.p1.vV Tryz.underlying205 DP uC,?_⟩;have Mi:=hb line;refine aI wT u.eU ?_;have u:=u.p3.p3.p4.p4.p4;refine⟨λM x Y=>∃k:Nat,x=hU (k:Int)/\M=(m.gg line).length-k/\k<=(m.gg line).length/\St w F [bH (ia J) (m.gg line),Es pm m.gg line J,bH kv (sJ m.kept ((m.gg line).take k)),bM p [ov,fv,lv,kv,.map (some pm)],bH lv m.l] Y,⟨_,0,rfl,rfl,mr _,u⟩,?_⟩;rintro M _ _ ⟨k,rfl,rfl,I6,u⟩ _;refine aS (aC (λZ=>?_) λZ=>?_)
 .obtain⟨G,I⟩:=gx (m.gg line) (i:=(k:Int).toNat) bP;refine ed u wT bP bP (λ_ V=>?_);have hpc:=B.pc line _ (l0 I);refine gP u II V I (aM u IJ λO _ u=>aH (x:=G) u II rfl rfl λ_ u=>aD (aA uB (have u:=u.drew;aB ek u.p4.hb rfl (aA DY ?_))));have Vt:=vc ((m.gg line).take k) m.kept;refine aB (v:=hU G.cell) bL u.hb rfl (aA DZ (aB (v:=hU G.n) bL u.hb rfl ?_));obtain⟨qx,oP⟩:=gx (sJ m.kept ((m.gg line).take k)) (i:=G.cell.toNat) bP
  exact ed u.p3 dz bP bP (λ_ Pq=>kJ _ u.p3 bL Pq bP λ_ u=>aK bP (have u:=u.p1.drop.p4.p4.p2.p4.p4;⟨_,bP,k+1,rfl,rfl,bP,by rw[Bj (j:=k) I];exact u⟩))
 rw[kE bP]at u;refine aD (aA nf (aB sS u.p3.hb rfl ?_));have u:=u.p1.p1.NV;rw[KU]at u;refine Ev u rfl Tryz.underlying205 DP (λ_ _ u=>?_);have u:=u.p1.p3.p3;have E:Lr m line=true:=by unfold Lr;rw[decide_eq_true_eq];omega
 have Xl:pD m line={m with kept:=sJ m.kept (m.gg line),gg:=pU m.gg line []}:=by unfold pD;rw[fi E]
 rw[Xl,E];exact⟨rfl,(fD.shut (m:={m with kept:=_,gg:=_}) u).mut⟩
def C156(p:Nat)(m:Mem)(cut:List Int)(cv:Value)(w:World)(hm:sK w p m)(E:yb m)(hb:MB m 1000000)(Y:dy (λ_=>True) w cv cut)(ada:cut.length<=1000):CR 156 [(.pointer (some ⟨p,0,none⟩)),cv] w (λv w'=>(gD m cut=none/\v=.tuple #[.slice none 0 0,hU 1]/\Ext w w')\/∃nP o,gD m cut=some nP/\v=.tuple #[o,hU 0]/\mG (bH o nP) w w'):=by
 have Mn:=hm;obtain⟨ov,fv,lv,kv,pm,c0,c1,c2,c3,c4,hO,Rm,hL,hKp,hP⟩:=hm;have To:=E.fl;have Og:=E.Pl;have Ha:=E.ll;have NJ:=E.kl;have VA:=E.lb;have u:=St.start w;refine RI _ _ _ _ ?_;unfold S156;refine aI dz (Y.ext u.aF) (aR UF u (C154 _ m _ (Mn.ext u.aF) E) λJ he u=>cC (aC (λ_=>.inl ⟨Pp bP,rfl,u.aF⟩) λj1=>fZ agz u (C77 _ m _ (Mn.ext u.aF) E) λI _ dw u=>aI dz (Y.ext u.aF) ?_));refine⟨λG x J=>∃k:Nat,x=hU (k:Int)/\G=cut.length-k/\k<=cut.length/\(∀(i:Nat) (c:Int),i<k->cut[i]?=some c->0<=c/\c<=(m.gg i).length)/\St w bF [bH I (xI m cut k)] J,⟨_,0,rfl,rfl,mr _,λ_ _ h=>absurd h bP,u⟩,?_⟩
 rintro G _ w3 ⟨k,rfl,rfl,I6,ql,u⟩ _;refine aS (aC (λjZ=>?_) λ_=>.inr ⟨_,_,Ls bP (λi c _ hc=>ql i c bP hc),rfl,by rw[show cut.length=k from bP];exact u.fresh⟩);obtain⟨B,O⟩:=gx cut (i:=(k:Int).toNat) bP;refine aZ dz Y bP O (λ_ E2=>aE bL (E2.ext u.aF) ⟨λjv w'=>jv=.bool (decide (B<0\/(m.gg k).length<B))/\w3=w',aS (aC (λ_=>⟨FT bP,rfl⟩) λ_=>aD (aA nf (cE sS (c4.ext u.aF) (A3 hP u.aF Tryz.underlying205 DP uC λ_ Pq=>aI wT (Pq.ext u.aF) (dL ⟨xr bP,rfl⟩))))),?_⟩)
 rintro _ _ ⟨rfl,hw⟩ _;subst hw;refine aC (λ_=>.inl ⟨Po (k:=k) O bP,rfl,u.aF⟩) (λuR=>aD (aA nf (cE sS (c4.ext u.aF) (A3 hP u.aF Tryz.underlying205 DP uC λU sY=>?_))));have ZU:=hb k;have Kz:((m.gg k).take B.toNat).length<=(m.gg k).length:=by rw[ml];omega
 refine hG wT (sY.ext u.aF) bP bP (λacO G8=>?_);have Cz:=G8 _ sY;refine aI wT (Cz.ext u.aF) ?_;refine⟨λG x J=>∃j:Nat,x=hU (j:Int)/\G=((m.gg k).take B.toNat).length-j/\j<=((m.gg k).take B.toNat).length/\St w bF [bH I (sJ (xI m cut k) (((m.gg k).take B.toNat).take j))] J,⟨_,0,rfl,rfl,mr _,u⟩,?_⟩;rintro G _ _ ⟨j,rfl,rfl,hj,u⟩ _;refine aS (aC (λJa=>?_) λJa=>?_)
 .obtain⟨M,V⟩:=gx ((m.gg (k:Int)).take B.toNat) (i:=(j:Int).toNat) bP;refine aZ wT Cz bP V (λ_ Pr=>?_);have hpc:=E.pc k _ (List.mem_of_mem_take (l0 V));refine aE II (Pr.ext u.aF) (aM u IJ λZ _ u=>aH (x:=M) u II rfl rfl λ_ u=>aA DY ?_);have Vt:=vc (((m.gg k).take B.toNat).take j) (xI m cut k);have hil:=rI m cut k;refine aB (v:=hU M.cell) bL u.hb rfl (aA DZ (aB (v:=hU M.n) bL u.hb rfl ?_));obtain⟨W,aiN⟩:=gx (sJ (xI m cut k) (((m.gg k).take B.toNat).take j)) (i:=M.cell.toNat) bP
  exact ed u.p1 dz bP bP (λ_ Ps=>kJ _ u.p1 bL Ps bP λ_ u=>aK bP (have u:=u.p1.drop;⟨_,bP,j+1,rfl,rfl,bP,by rw[Bj (j:=j) V];exact u⟩))
 rw[kE (i:=j) bP]at u;refine aK bP ⟨_,bP,k+1,rfl,rfl,bP,λi c hi hc=>?_,?_⟩
 .by_cases e:i=k
  .subst e;obtain rfl:=nN.inj (hc.symm.trans O);omega
  exact ql i c bP hc
 rw[Bl,o4,show cut[k]?=some B from O];exact u
def C81(p:Nat)(ov fv:Value)(m:Mem)(F:Nat->Prop)(cut:List Int)(cv:Value)(w:World)(hF:(fD p ov fv m).p w F)(W:∀w',fH F w w'->vd ov fv m w')(E:yb m)(hb:MB m 1000000)(Y:∀w',fH F w w'->dy (λ_=>True) w' cv cut)(Z:cut.length<=1000):CR 81 [(.pointer (some ⟨p,0,none⟩)),cv] w (λv w'=>(gD m cut=none/\v=hU 1/\mF F (fD p ov fv m) w w')\/∃U,gD m cut=some U/\v=hU 0/\mF F (fD p ov fv (nB m U)) w w'):=by
 have u:=St.begin hF;obtain⟨lv,kv,pm,u⟩:=fD.open u;have To:=E.fl;have Og:=E.Pl;have Ha:=E.ll;have V:=E.kl;have VA:=E.lb;refine qj Tryz.func81 (pl:=P81) ?_;refine dX aau (C156 _ m cut _ _ (sK.mk' u.hb (W _ u.aF) u.p1.eU u.p2.eU u.p3.NU) E hb (Y _ u.aF) bP) ?_;rintro O _ Xm
 rcases Xm with⟨B,rfl,he⟩|⟨J,I,B,rfl,dw⟩
 .have u:=u.ext he;exact aJ rfl (aJ rfl (cC (gT ea (have u:=u.p3.p3.p3.p3;.inl ⟨B,rfl,(fD.shut u).mut⟩))))
 have u:=u.made dw;refine aJ rfl (aJ rfl (cC (fI ea (aD (aA uB (aO u.p1 ek (dP rfl) u.eU.one λ_ u=>aD (aA nd (have u:=u.drew;aB ek u.hb rfl (aD (aA Na (aB ek u.hb rfl ?_)))))))))));refine Ew u.p2 dz (W _ u.aF).2 bP (λ_ u=>aD (aA nd (aB ek u.p1.hb rfl (Ew u dz u.p2.eU (by rw[kC,oD];have G:J.length=m.of.length:=(by unfold gD at B;split at B<;>simp at B;rw[<- B,rI];exact V);omega) λ_ u=>uY (α:=jm) u λM _ u=>aD (aA nf (aO u.p2 sS (dP rfl) (rfl) λ_ u=>?_))))))
 have u:=u.p4.drop.p4.drop.p1.p3.p3.p3;have G:J.length=m.of.length:=by unfold gD at B;split at B<;>simp at B;rw[<- B,rI];exact V
 rw[show m.l.drop m.dZ.length=[]from List.drop_eq_nil_of_le bP,oo]at u;exact .inr ⟨_,B,rfl,(fD.shut (m:=nB m J) u).mut⟩
def Pt(of:List Int)(stays:Int)(dZ:List Int):Mem:=⟨of.take stays.toNat,dZ,dZ,dZ.take stays.toNat,λ_=>[]⟩
def C54(of dZ:List Int)(stays:Int)(av bv:Value)(w:World)(B:dy (λ_=>True) w av of)(G:dy (λ_=>True) w bv dZ)(hlen:of.length=dZ.length)(To:of.length<=20)(gn:0<=stays/\stays<=of.length)(OH:∀(k:Nat) (n:Int),(k:Int)<stays->of[k]?=some n->(n=u5 of k\/(0<k/\n=u5 of k-1))/\-10<=n/\n<=100):CR 54 [av,hU stays,bv] w (λv w'=>∃(p:Nat) (ov fv:SV),v=.tuple #[.pointer (some ⟨p,0,none⟩),hU 0]/\mG (sep (bH (ia ov) (of.take stays.toNat)) (sep (bH (ia fv) dZ) (fD p (ia ov) (ia fv) (Pt of stays dZ)))) w w'):=by
 have u:=St.start w;refine eT Tryz.func54 ?_;refine⟨λZ w'=>Z=.bool (decide (of.length≠dZ.length\/20<of.length\/stays<0\/of.length<stays))/\w=w',aI dz (B.ext u.aF) (aI dz (G.ext u.aF) (cC (aC (λ_=>⟨FT bP,rfl⟩) λ_=>aI dz (B.ext u.aF) (dL (aC (λ_=>⟨FT bP,rfl⟩) λ_=>aS (aC (λ_=>⟨FT bP,rfl⟩) λ_=>aI dz (B.ext u.aF) (dL ⟨xr bP,rfl⟩))))))),?_⟩;rintro _ w1 ⟨rfl,W⟩ _;subst W;refine aC (λoc=>absurd oc bP) (λoc=>hG dz (B.ext u.aF) bP bP λO Xn=>?_);have Pu:=Xn _ B
 refine aI dz (Pu.ext u.aF) ?_;refine⟨λmm l x w1=>∃(k:Nat) (last:Int),l=hU last/\x=hU (k:Int)/\mm=(of.take stays.toNat).length-k/\k<=(of.take stays.toNat).length/\last=u5 of k-1/\-200<=last/\last<=200/\St w bF [] w1,⟨_,0,-1,rfl,rfl,rfl,mr _,rfl,bP,bP,u⟩,?_⟩;rintro mm _ _ w2 ⟨k,last,rfl,rfl,rfl,I6,J,hl7,hl8,u⟩ _;have Kz:(of.take stays.toNat).length=stays.toNat:=by rw[ml];omega
 refine aS (aC (λuR=>?_) λuR=>?_)
 .obtain⟨E,wo⟩:=gx (of.take stays.toNat) (i:=(k:Int).toNat) bP;refine aZ dz Pu bP wo (λ_ Y=>?_)
  have V:of[k]?=some E:=by
   have I:=wo;rw[Db]at I
   split at I
   .exact I
   .cases I
  obtain⟨Wg,AI,hl3⟩:=OH k _ bP V;refine aE bL (Y.ext u.aF) ⟨λZ w'=>Z=.bool (decide (E≠last+1/\(k=0\/E≠last)))/\w2=w',aK bP (cC (aC (λ_=>aG (aC (λ_=>⟨FT bP,rfl⟩) λ_=>cC ⟨xr bP,rfl⟩)) λ_=>⟨Rc bP,rfl⟩)),?_⟩;rintro _ _ ⟨rfl,W⟩ _;subst W;refine aC (λxg=>absurd xg (by have:=OH k E bP V;simp;omega)) (λxg=>?_);have hws:u5 of (k+1)=E+1:=by unfold u5;rw[ez bP,Nat.add_sub_cancel,o4,V];rfl
  exact aK bP ⟨_,bP,k+1,E,rfl,rfl,rfl,bP,bP,bP,bP,u⟩
 refine hG dz (B.ext u.aF) bP bP (λU Xp=>?_);have Xq:=Xp _ B;refine fZ AJ u (C117 _ _ _ (Xq.ext u.aF) (by first|omega|(rw[ml];omega))) (λx59 _ dw u=>fZ AJ u (C117 _ _ _ (G.ext u.aF) (by first|omega|(rw[ml];omega))) λx61 _ dw u=>fZ AJ u (C117 _ _ _ (G.ext u.aF) (by first|omega|(rw[ml];omega))) λx63 _ dw u=>uY (α:=jm) u λb_x64 _ u=>?_);obtain⟨Xr,rfl⟩:=u.p3.gu;obtain⟨Xs,rfl⟩:=u.p2.gu;obtain⟨aiO,rfl⟩:=u.p1.gu;refine pop (yG _ _ _ _ _ _ _ _ _ _) (o0 u λM _ u=>hG dz (G.ext u.aF) bP bP λVL Xt=>?_)
 have Xu:=Xt _ G;exact fZ AJ u (C117 _ _ _ (Xu.ext u.aF) (by first|omega|(rw[ml];omega))) (λ_ _ _ u=>aD (aA uB (aO u.p1 ek (dP rfl) u.eU.one λ_ u=>have u:=fD.shut (m:=Pt of stays dZ) u.p4.p5.p4.p4.p5.p5;⟨M,Xr,Xs,rfl,(St.join (St.join u.p2).p1).fresh⟩)))
structure Mo where
 code:abl
 at_:Int
 dJ:List Int
 counts:List Int
 fault:Int
 e:Int
 f:Int
 buf:List bG
def adf(t:Mo):Option yP:=if (t.code.l.length:Int)<=t.at_ then none else t.code.l[t.at_.toNat]?
def Hl(l:List mP)(dJ:List Int):Int×Bool:=if l.length=0 then(0,true)else((runM l dJ).1,decide ((runM l dJ).2=0))
def tE(t:Mo)(x:yP):Mo:={t with fault:=if (Hl x.e t.dJ).2=true then t.fault else 2,e:=(Hl x.e t.dJ).1}
def tF(t:Mo)(x:yP):Mo:={t with fault:=if (Hl x.f t.dJ).2=true then t.fault else 2,f:=(Hl x.f t.dJ).1}
def goK(t:Mo)(x:yP)(e:Int):Mo×Bool:=
 if x.kind=1 then({t with dJ:=t.dJ.set x.a.toNat e,at_:=t.at_+1},true)
 else if x.kind=11 then({t with at_:=x.to},true)
 else if x.kind=12 then(if e=0 then({t with at_:=x.to},true)else({t with at_:=t.at_+1},true))
 else if x.kind=13 then({t with counts:=t.counts.set x.a.toNat x.b,at_:=t.at_+1},true)
 else if x.kind=14 then(if 0<xz (t.counts.getD x.a.toNat 0-1)then({t with counts:=t.counts.set x.a.toNat (xz (t.counts.getD x.a.toNat 0-1)),at_:=x.to},true)else({t with counts:=t.counts.set x.a.toNat (xz (t.counts.getD x.a.toNat 0-1)),at_:=t.at_+1},true))
 else if x.kind=15 then(if e=0 then({t with fault:=1},false)else({t with at_:=t.at_+1},true))
 else(t,false)
def Hm(t:Mo):Mo×Bool:=match adf t with
 | none=>(t,false)
 | some x=>if (Hl x.e t.dJ).2=true then(if (Hl x.f t.dJ).2=true then goK (tF (tE t x) x) x (Hl x.e t.dJ).1 else(tF (tE t x) x,false))else(tE t x,false)
def Uv:Nat->Mo->Option Mo
 | 0,_=>none
 | n+1,t=>if (Hm t).2=true then Uv n (Hm t).1 else some (Hm t).1
def Tp:List Int->Int->Int
 | [],n=>n
 | c::cs,n=>Tp cs (xz (xz (n*10000)+c))
def vf(l:List Int)(k:Nat):Int:=Tp (l.take k) 0
theorem Bm:∀(l:List Int) (c n:Int),Tp (l++[c]) n=xz (xz (Tp l n*10000)+c)
 | [],_,_=>rfl
 | x::l,c,n=>Bm l c _
theorem Hn{l:List Int}{k:Nat}{c:Int}(h:l[k]?=some c):vf l (k+1)=xz (xz (vf l k*10000)+c):=by
 unfold vf;rw[ta,h];exact Bm _ _ _
def qy(p q:aT):Bool:=decide (q.kind=p.kind)&&decide (q.t=p.t)&&decide (q.i=p.i)&&decide (p.cut.length=0)
def C157(O fv:Value)(xs:List aT)(φ:aT->Prop)(g:aT->Bool)(w:World)(Y:DL w O xs)(hf:oa hH w fv φ g)(hφ:∀x∈xs,φ x)(hn:xs.length<=1073741824):CR 157 [O,fv] w (λv w'=>v=hU (pg g xs)/\Ext w w'):=by
 obtain⟨g0,first,cap,rfl,mL,gN⟩:=hf;have u:=St.start w;refine eT Tryz.func157 ?_;obtain⟨G,V,W⟩:=Y.open;have M:=W.1;refine aI uo (V.ext u.aF) ?_;refine⟨λm x I=>∃k:Nat,x=hU (k:Int)/\m=xs.length-k/\k<=xs.length/\(∀y∈xs.take k,g y=false)/\St w bF [] I,⟨_,0,rfl,rfl,mr _,ew,u⟩,?_⟩;rintro m _ I ⟨k,rfl,rfl,hk,B,u⟩ _;refine aS (aC (λj7=>?_) λ_=>⟨gj (mj .i64) (gy (by rw[kE bP]at B;exact B)).symm,u.aF⟩);obtain⟨iV,U⟩:=gx G (i:=(k:Int).toNat) bP;obtain⟨sV,E⟩:=gx xs (i:=(k:Int).toNat) bP
 obtain⟨Lt,rfl,Lu⟩:=W.2 _ _ _ U E;refine aZ uo V bP U (λ_ Z=>aE oG (Z.ext u.aF) (fm mL (gN _ sV I u.aF ⟨Lt,rfl,(Lu.ext u.aF)⟩ (hφ _ (l0 E))) ?_));rintro _ _ ⟨rfl,he⟩;have u:=u.ext he;exact bD (λJ=>⟨gj (mj .i64) (jA B E J).symm,u.aF⟩) (λJ=>aK bP ⟨_,bP,k+1,rfl,rfl,bP,eE B E J,u⟩)
def C84(B fv:Value)(xs:List aT)(φ:aT->Prop)(g:aT->Bool)(w:World)(E:DL w B xs)(G:oa hH w fv φ g)(I:∀x∈xs,φ x)(J:xs.length<=1073741824):CR 84 [B,fv] w (λv w'=>v=.bool (xs.any g)/\Ext w w'):=by
 have u:=St.start w;refine eT Tryz.func84 ?_;exact aR aav u (C157 _ _ _ _ _ _ (E.ext u.aF) (G.ext u.aF) I bP) (λ_ _ u=>cJ ⟨vb (iB _ _),u.aF⟩)
def lz(m:Mem)(c:Int):Int:=if Hj m c=true then m.l.getD c.toNat 0 else 0
def VO(p:Nat)(m:Mem)(c:Int)(w:World)(u:sK w p m)(B:yb m):CR 260 [.pointer (some ⟨p,0,none⟩),hU c] w (λv w'=>v=.tuple #[hU (lz m c),hU (if Hj m c=true then 0 else 1)]/\Ext w w'):=C260 p m c w u B
def Bn(m:Mem)(c n:Int):(fG m c n).of=m.of:=by unfold fG;grind
def oQ(m:Mem)(c n:Int):(fG m c n).dZ=m.dZ:=by unfold fG;grind
def Tq(m:Mem)(c:Int):(pD m c).of=m.of:=by unfold pD;grind
def E3(m:Mem)(c:Int):(pD m c).dZ=m.dZ:=by unfold pD;grind
def vd.write{ov fv:Value}{m:Mem}{w:World}{c n:Int}(h:vd ov fv m w):vd ov fv (fG m c n) w:=by grind[vd,fG]
theorem vd.out{ov fv:Value}{m:Mem}{w:World}{c:Int}(h:vd ov fv m w):vd ov fv (pD m c) w:=by grind[vd,pD]
def kf(m:Mem)(x:bG):Mem:=if x.kind=3 then fG m x.cell x.n else if x.kind=7 then m else pD m x.line
def zB(t:Int)(x:bG):cQ:=if x.kind=3 then⟨12,t,x.cell,x.n,0⟩else if x.kind=7 then⟨14,t,0,0,0⟩else⟨13,t,x.line,0,0⟩
end Go.Proofs.YtdncbeepkacgbaaGreatDoor
namespace Go.Fw
def pL(F:Nat->Prop)(w0 w':World):Prop:=∀b,F b->w'.heap[b]?=w0.heap[b]?
section
variable {α σ:Type}[Flat σ] [D:Deep α σ] {w w0:World}{A F:Nat->Prop}{L:List HP}{v:Value}{xs:List α}{ts us:List σ}
theorem St.VP{Φ:hM}(B:St w0 A (Fw.eI Φ::L) w):∃F,St w0 A (Fw.eI (pL F w)::L) w/\∀w',pL F w w'->Φ w':=by
 obtain⟨U,F,J,u,I,E,G,M⟩:=B.oE
 exact⟨F,⟨B.aF,U,F,J,⟨λw' h=>h,u.2⟩,I,E,G,M⟩,λw' h=>u.1 w' h⟩
theorem pL.refl(F:Nat->Prop)(w:World):pL F w w:=λ_ _=>rfl
theorem E4(B:∀x y:σ,iW x=iW y->x=y):∀{ts us:List σ},ts.length=us.length->flat ts=flat us->ts=us
 | [],[],_,_=>rfl
 | t::ts,u::us,hl,h=>by
  rw[iw,iw]at h
  have:=List.append_inj h (by rw[rj,rj])
  rw[B _ _ this.1,E4 B cR this.2]
 | [],_::_,hl,_=>by simp at hl
 | _::_,[],hl,_=>by simp at hl
theorem dy.func{S V:Nat->Prop}(G:∀x y:σ,iW x=iW y->x=y)(h:dy S w v ts)(W:dy V w v us):ts=us:=by
 obtain⟨a,cap,rfl,hc,h3⟩:=h
 obtain⟨a',Ae,J,O,E⟩:=W
 simp only[sB.injEq]at J
 obtain⟨rfl,I,rfl⟩:=J
 refine E4 G I (List.ext_getElem? λj=>?_)
 have Gl:(flat ts).length=(flat us).length:=by rw[cG,cG,I]
 by_cases Z:j<(flat ts).length
 .have B:j<(flat us).length:=bP
  rcases h3 with⟨rfl,_⟩|⟨b,o,rfl,_,h5⟩
  .grind
  rcases E with⟨rfl,_⟩|⟨b',o',M,_,u⟩
  .grind
  simp only[nN.injEq,Addr.mk.injEq,and_true]at M
  obtain⟨rfl,rfl⟩:=M
  have U:=h5 j _ (j0 Z)
  have Y:=u j _ (j0 B)
  unfold Cell at U Y
  grind
 grind
theorem pL.rd(h:∀w',pL F w w'->DL w' v xs)(G:dy (λ_=>True) w v ts)(hn:ts.length=xs.length):∀w',pL F w w'->dy (λ_=>True) w' v ts:=by
 intro w' Z
 have Mh:=G
 obtain⟨a,cap,rfl,hc,h3⟩:=G
 rcases h3 with⟨h3,h4⟩|⟨b,o,rfl,h4,h5⟩
 .grind[dy]
 cases ts with
 | nil=>exact⟨_,cap,rfl,hc,.inr ⟨b,o,rfl,λh=>absurd rfl h,λj c B=>by simp[jh]at B⟩⟩
 | cons t ts=>
  by_cases V:F b
  .exact⟨_,cap,rfl,hc,.inr ⟨b,o,rfl,λ_=>trivial,λj c B=>(h5 j c B).of_eq (Z b V)⟩⟩
  .exfalso
   have h6:DL (ChangeMaps.setBlock w b (.map #[] 0)) (.slice (some ⟨b,o,none⟩) (t::ts).length cap) xs:=h _ λM W=>by
    simp only[ChangeMaps.setBlock];grind
   obtain⟨us,⟨a',Ae,I,_,O⟩,U,_⟩:=h6
   simp only[sB.injEq]at I
   obtain⟨rfl,E,rfl⟩:=I
   have xu:0<(flat us).length:=by rw[cG,<- E];exact Vo ew (P0 (α:=σ))
   rcases O with⟨rfl,_⟩|⟨M,o',J,_,Y⟩
   .simp at E
   .simp only[nN.injEq,Addr.mk.injEq,and_true]at J
    obtain⟨rfl,rfl⟩:=J
    have u:=Y 0 _ (j0 xu)
    have hb:=(h5 0 _ (j0 (by rw[cG];exact Vo ew (P0 (α:=σ))))).lt
    unfold Cell World.cell? at u
    dsimp only at u
    rw[gX _ hb]at u
    simp at u
theorem pL.fix(u:∀x y:σ,iW x=iW y->x=y)(h:∀w',pL F w w'->DL w' v xs):∃ts:List σ,ts.length=xs.length/\∀w',pL F w w'->dy (λ_=>True) w' v ts/\gU ts xs w':=by
 obtain⟨ts,G,B⟩:=(h w (pL.refl F w)).open
 refine⟨ts,B.1,λw' E=>?_⟩
 have h1:=pL.rd h G B.1 w' E
 obtain⟨us,J,I⟩:=(h w' E).open
 rw[dy.func u h1 J]at *
 grind
end
section
variable {P:Program}{T:Nat}{cx cy:Bool}{a b:Int}{K:Value->Prop}
theorem Pv(h:0<=a-b/\a-b<=255)(k:K (.int .u8 (a-b))):dW P (g9 .sub T cx cy (.int .u8 a) (.int .u8 b)) K:=
 ⟨_,(show pr P (g9 .sub T cx cy (.int .u8 a) (.int .u8 b))=some (.int .u8 (a-b))from by
  show some (mj .u8 (IntKind.u8.wrap (a-b)))=_
  have:IntKind.u8.wrap (a-b)=a-b:=by
   unfold IntKind.wrap;simp[IntKind.bits,IntKind.signed];omega
  rw[this]),k⟩
theorem Lv{src u:TypeId}(h1:P.underlying src=some (.int .u8))(h2:P.underlying u=some (.int .i64))(h:0<=a/\a<=255)(k:K (hU a)):dW P (convert src u (.int .u8 a)) K:=by
 refine⟨_,?_,k⟩
 unfold convert
 simp only[bT,bR h1,bR h2,kO]
 show some (mj .i64 (IntKind.i64.wrap a))=_
 rw[IntWalk.i64_in _ bP]
end
end Go.Fw
namespace Go.Proofs.YtdncbeepkacgbaaGreatDoor
open Go.Fw
abbrev PD:=List (Bk×Bool)
def jE(b:Bk)(e:Bool)(p:PD):PD:=match b with
 | .nil=>p
 | .cons x c d r=>(.cons x c d r,e)::p
def gY:PD->PD
 | (.cons _ _ _ r,_)::p=>jE r false p
 | (.nil,_)::p=>p
 | []=>[]
def qK:PD->Option (bE×Bk×Bk)
 | (.cons x a b _,_)::_=>some (x,a,b)
 | _=>none
def pX(x:bE)(a:Bk)(p:PD):PD:=if x.n=0 then gY p else jE a false ((.cons {x with n:=x.n-1} a .nil .nil,true)::gY p)
def kY:PD->PD
 | []=>[]
 | (_,e)::p=>if e=true then p else kY p
structure jO where
 names:List ByteArray
 dJ:List Int
 bN:PD
 fault:Int
 buf:List bG
def ey(t:jO)(l:List bI):Int×Bool:=if l.length=0 then(0,true)else((vX t.names t.dJ l).1,decide ((vX t.names t.dJ l).2=0))
def pE(t:jO)(s:ByteArray)(n:Int):jO:={t with dJ:=t.dJ.set (cT t.names s).toNat n}
def mR(t:jO)(x:bE)(a b:Bk)(n:Int):jO×Bool:=
 if x.kind=1 then({pE t x.eQ n with bN:=gY t.bN},true)
 else if x.kind=11 then({t with bN:=jE (if n=0 then b else a) false (gY t.bN)},true)
 else if x.kind=12 then({t with bN:=pX x a t.bN},true)
 else if x.kind=13 then({t with bN:=kY t.bN},true)
 else if x.kind=14 then(if n=0 then({t with fault:=1},false)else({t with bN:=gY t.bN},true))
 else(t,false)
def nE(t:jO):jO×Bool:=match qK t.bN with
 | none=>(t,false)
 | some (x,a,b)=>if (ey t x.e).2=true/\(ey t x.f).2=true then mR t x a b (ey t x.e).1 else({t with fault:=2},false)
def sL:Nat->jO->Option jO
 | 0,_=>none
 | n+1,t=>if (nE t).2=true then sL n (nE t).1 else some (nE t).1
def ja:Bk->Nat
 | .nil=>0
 | .cons x a b r=>(if x.kind=12 then x.n.toNat*(ja a+1)else ja a+ja b)+ja r+1
def fu(p:PD):Nat:=(p.map λq=>ja q.1).sum
theorem nF(q:Bk×Bool)(p:PD):fu (q::p)=ja q.1+fu p:=by simp[fu]
def xJ(φ:bE->Prop):Bk->Prop
 | .nil=>True
 | .cons x a b r=>φ x/\xJ φ a/\xJ φ b/\xJ φ r
theorem Lw{φ:bE->Prop}:∀t:Bk,xJ φ t↔∀x∈t.flat,φ x:=by
 intro t
 induction t with
 | nil=>simp[xJ,Bk.flat]
 | cons x a b r E B u=>
  simp only[xJ,Bk.flat,E,B,u,oS,pJ]
  grind
structure Bo(φ:bE->Prop)(p:PD):Prop where
 ne:∀q∈p,q.1≠.nil
 st:∀q∈p,q.1.str
 al:∀q∈p,xJ φ q.1
section
variable {φ:bE->Prop}{p:PD}{b:Bk}{e:Bool}
theorem Bo.tail{q:Bk×Bool}(h:Bo φ (q::p)):Bo φ p:=⟨λq u=>h.ne q (o5 _ u),λq u=>h.st q (o5 _ u),λq u=>h.al q (o5 _ u)⟩
theorem Bo.push(h:Bo φ p)(E:b.str)(B:xJ φ b):Bo φ (jE b e p):=by
 cases b with
 | nil=>exact h
 | cons x c d r=>
  refine⟨?_,?_,?_⟩<;>intro q u<;>rcases oS.1 u with rfl|u
  .intro G;cases G
  .exact h.ne q u
  .exact E
  .exact h.st q u
  .exact B
  .exact h.al q u
theorem Bo.pop(h:Bo φ p):Bo φ (gY p):=by
 match p,h with
 | [],h=>exact h
 | (.nil,_)::p,h=>exact h.tail
 | (.cons x a b r,_)::p,h=>
  have B:=h.st _ (oj ..)
  have u:=h.al _ (oj ..)
  exact h.tail.push B.2.2.2.2.2.2 u.2.2.2
theorem Bo.leave:∀{p:PD},Bo φ p->Bo φ (kY p)
 | [],h=>h
 | (_,e)::p,h=>by
  unfold kY;split
  .exact h.tail
  .exact h.tail.leave
theorem Lx{x:bE}{a b:Bk}(h:qK p=some (x,a,b)):∃r e u,p=(.cons x a b r,e)::u:=by
 match p,h with
 | (.cons y c d r,e)::u,h=>cases h;grind
theorem nG:fu (jE b e p)=ja b+fu p:=by
 cases b with
 | nil=>simp[jE,ja]
 | cons x c d r=>exact nF _ _
theorem E5:∀p:PD,fu (kY p)<=fu p
 | []=>oq _
 | (b,e)::p=>by
  have:=E5 p
  grind[fu,kY]
theorem Ly(h:b≠.nil):1<=ja b:=by
 cases b with
 | nil=>grind
 | cons x c d r=>unfold ja;omega
theorem yc(h:Bo φ p):p.length<=fu p:=by
 induction p with
 | nil=>simp
 | cons q p u=>
  have:=Ly (h.ne q (oj ..))
  have:=u h.tail
  rw[nF,oi];omega
theorem pY{x:bE}{a b r:Bk}:ja (.cons x a b r)=(if x.kind=12 then x.n.toNat*(ja a+1)else ja a+ja b)+ja r+1:=rfl
theorem Ho{x:bE}{a b r:Bk}{u:PD}(h:p=(.cons x a b r,e)::u):fu (gY p)+1<=fu p:=by
 subst h
 show fu (jE r false u)+1<=_
 rw[nG,nF,pY];omega
end
structure oR(φ:bE->Prop)(t:jO):Prop where
 p:Bo φ t.bN
 rl:t.dJ.length=t.names.length
 nb:t.names.length<=1000
 bl:t.buf.length<=1000
 cl:fu t.bN<=10000
structure VQ(cs ls ns:List ByteArray)(x:bE):Prop where
 k:1<=x.kind/\x.kind<=14
 e:x.e.length<=1000/\x.f.length<=1000
 n:x.kind=12->0<=x.n/\x.n<=1000
 el:¬ x.kind=11->x.eH<=0
 rg:x.kind=1\/x.kind=2\/x.kind=4->0<=cT ns x.eQ
 cl:x.kind=2\/x.kind=3\/x.kind=4->0<=cT cs x.name
 lk:x.kind=9\/x.kind=10->0<=cT ls x.name
 nm:(∀y∈x.e,y.name.size<=1000)/\∀y∈x.f,y.name.size<=1000
abbrev wq(cs ls:List ByteArray)(t:jO):Prop:=oR (VQ cs ls t.names) t
section
variable {φ:bE->Prop}{cs ls:List ByteArray}{t t' tR:jO}{x:bE}{a b:Bk}{n:Int}{k:Nat}
theorem oR.bN{p:PD}(h:oR φ t)(u:Bo φ p)(hc:fu p<=fu t.bN):oR φ {t with bN:=p}:=⟨u,h.rl,h.nb,h.bl,xE hc h.cl⟩
theorem oR.flt(h:oR φ t)(n:Int):oR φ {t with fault:=n}:=⟨h.p,h.rl,h.nb,h.bl,h.cl⟩
theorem oR.set(h:oR φ t)(s:ByteArray)(n:Int):oR φ (pE t s n):=⟨h.p,by simp[pE,h.rl],h.nb,h.bl,h.cl⟩
theorem oR.top(h:oR φ t)(ht:qK t.bN=some (x,a,b)):φ x/\a.str/\b.str/\xJ φ a/\xJ φ b/\x.body=a.len/\x.eH=b.len/\a.len<=40/\∃r e p,t.bN=(.cons x a b r,e)::p/\r.str/\xJ φ r:=by
 obtain⟨r,e,p,u⟩:=Lx ht
 have h1:=h.p
 rw[u]at h1
 obtain⟨J,O,B,G,U,E,I⟩:=h1.st _ (oj ..)
 obtain⟨V,M,Y,W⟩:=h1.al _ (oj ..)
 grind
theorem Tr(h:wq cs ls t)(ht:qK t.bN=some (x,a,b)):wq cs ls (mR t x a b n).1/\(mR t x a b n).1.names=t.names/\((mR t x a b n).2=true->fu (mR t x a b n).1.bN+1<=fu t.bN):=by
 obtain⟨B,W,sb,V,ab,hb,he,Vt,r,e,p,I,sr,ar⟩:=h.top ht
 have E:=h.p.pop
 have M:=Ho (r:=r) I
 have u:fu t.bN=ja (.cons x a b r)+fu p:=by rw[I,nF]
 have J:gY t.bN=jE r false p:=by rw[I];rfl
 have O:fu (gY t.bN)=ja r+fu p:=by rw[J,nG]
 rw[pY]at u
 unfold mR
 split
 .exact⟨(h.set x.eQ n).bN E (by show fu (gY t.bN)<=fu t.bN;omega),rfl,λ_=>M⟩
 split
 .rename_i Xb
  rw[ez bP]at u
  have hc:fu (jE (if n=0 then b else a) false (gY t.bN))+1<=fu t.bN:=by rw[nG];grind
  refine⟨h.bN (Bo.push E ?_ ?_) bP,rfl,λ_=>hc⟩<;>split<;>assumption
 split
 .rename_i Xb
  rw[fi Xb]at u
  have Z:=B.n Xb
  have FU:=B.el bP
  unfold pX
  split
  .exact⟨h.bN E bP,rfl,λ_=>M⟩
  rename_i SB
  have U:fu (jE a false ((.cons {x with n:=x.n-1} a .nil .nil,true)::gY t.bN))+1<=fu t.bN:=by
   rw[nG,nF,pY,fi (by exact Xb),u,O]
   have e:x.n.toNat=(x.n-1).toNat+1:=bP
   rw[e,Nat.succ_mul]
   show ja a+((x.n-1).toNat*(ja a+1)+ja .nil+1+_)+1<=_
   simp only[ja];omega
  refine⟨h.bN (Bo.push ⟨?_,?_,?_⟩ W V) bP,rfl,λ_=>U⟩<;>intro q G<;>rcases oS.1 G with rfl|G
  .grind
  .exact E.ne q G
  .exact⟨hb,by show x.eH=((0:Nat):Int);omega,Vt,mr _,W,trivial,trivial⟩
  .exact E.st q G
  .exact⟨⟨B.k,B.e,λhk=>⟨cR,cR⟩,B.el,B.rg,B.cl,B.lk,B.nm⟩,V,trivial,trivial⟩
  exact E.al q G
 split
 .have Y:fu (kY t.bN)+1<=fu t.bN:=by
   rw[u,I];unfold kY
   have:=E5 p
   grind
  exact⟨h.bN h.p.leave bP,rfl,λ_=>Y⟩
 split
 .split
  .exact⟨h.flt 1,rfl,λhh=>by cases hh⟩
  exact⟨h.bN E bP,rfl,λ_=>M⟩
 grind
theorem CK(h:wq cs ls t):wq cs ls (nE t).1/\(nE t).1.names=t.names/\((nE t).2=true->fu (nE t).1.bN+1<=fu t.bN):=by
 unfold nE
 cases ht:qK t.bN with
 | none=>grind
 | some q=>
  obtain⟨x,a,b⟩:=q
  dsimp only
  split
  .exact Tr h ht
  .exact⟨h.flt 2,rfl,λu=>by cases u⟩
theorem Bp:∀(n:Nat) {t:jO},wq cs ls t->fu t.bN<n->∃tR,sL n t=some tR/\wq cs ls tR/\tR.names=t.names
 | 0,_,_,hc=>by omega
 | n+1,t,h,hc=>by
  obtain⟨h1,h2,h3⟩:=CK h
  unfold sL
  split
  .rename_i hs
   have:=h3 hs
   have h4:wq cs ls (nE t).1:=by have:=h1;rw[wq,h2]at this |-;exact this
   obtain⟨tR,B,E,u⟩:=Bp n h4 bP
   exact⟨tR,B,E,u.trans h2⟩
  grind
def Xv(t:jO):jO:=(sL (fu t.bN+1) t).getD t
theorem pF(h:wq cs ls t):sL (fu t.bN+1) t=some (Xv t)/\wq cs ls (Xv t)/\(Xv t).names=t.names:=by
 obtain⟨tR,B,E,u⟩:=Bp (fu t.bN+1) h (Nz _)
 unfold Xv
 grind
theorem Lz{n:Nat}(h:sL n t=some tR):∃k,n=k+1:=by
 cases n with
 | zero=>cases h
 | succ k=>grind
theorem Ts(h:sL (k+1) t=some tR)(u:nE t=(t',true)):sL k t'=some tR:=by
 unfold sL at h;rw[u]at h;exact h
theorem rJ(h:sL (k+1) t=some tR)(u:nE t=(t',false)):tR=t':=by
 unfold sL at h;rw[u]at h;exact(nN.inj h).symm
theorem JA:∀(n:Nat) {t tR:jO},sL n t=some tR->wq cs ls t->tR.fault=0->∀x a b,qK tR.bN=some (x,a,b)->(2<=x.kind/\x.kind<=10)/\(ey tR x.e).2=true/\(ey tR x.f).2=true
 | 0,_,_,B,_,_,_,_,_,_=>by cases B
 | n+1,t,tR,B,h,u,x,a,b,ht=>by
  obtain⟨h1,h2,_⟩:=CK h
  unfold sL at B
  split at B
  .exact JA n B bP u x a b ht
  .rename_i hs
   cases B
   have hb:(nE t).2=false:=by simpa using hs
   unfold nE at hb u ht
   cases hq:qK t.bN with
   | none=>rw[hq]at ht;dsimp only at ht;rw[hq]at ht;cases ht
   | some q=>
    obtain⟨y,c,d⟩:=q
    rw[hq]at hb u ht
    dsimp only at hb u ht
    have E:=(h.top hq).1.k
    split at hb
    .rename_i hv
     rw[fi hv]at u ht
     unfold mR at hb u ht
     split at hb
     .cases hb
     rename_i k1
     rw[ez k1]at u ht
     split at hb
     .cases hb
     rename_i k2
     rw[ez k2]at u ht
     split at hb
     .cases hb
     rename_i k3
     rw[ez k3]at u ht
     split at hb
     .cases hb
     rename_i k4
     rw[ez k4]at u ht
     split at hb
     .rename_i k5
      rw[fi k5]at u
      split at hb
      .rename_i k6;rw[fi k6]at u;cases u
      .cases hb
     .rename_i k5
      rw[ez k5]at ht
      rw[hq]at ht;cases ht
      have e:(nE t).1=t:=by unfold nE;rw[hq];dsimp only;rw[fi hv];unfold mR;rw[ez k1,ez k2,ez k3,ez k4,ez k5]
      rw[e]
      exact⟨bP,hv⟩
    .rename_i hv
     rw[ez hv]at u;cases u
section
variable {e:Int}
theorem Xw(h:x.kind=1):mR t x a b e=({pE t x.eQ e with bN:=gY t.bN},true):=by unfold mR;grind
theorem Tt(h:x.kind=11):mR t x a b e=({t with bN:=jE (if e=0 then b else a) false (gY t.bN)},true):=by unfold mR;simp[h]
theorem Tu(h:x.kind=12):mR t x a b e=({t with bN:=pX x a t.bN},true):=by unfold mR;simp[h]
theorem Tv(h:x.kind=13):mR t x a b e=({t with bN:=kY t.bN},true):=by unfold mR;simp[h]
theorem Pw(h:x.kind=14)(u:e=0):mR t x a b e=({t with fault:=1},false):=by unfold mR;grind
theorem Px(h:x.kind=14)(u:¬ e=0):mR t x a b e=({t with bN:=gY t.bN},true):=by unfold mR;grind
theorem Tw(h1:¬ x.kind=1)(h2:¬ x.kind=11)(h3:¬ x.kind=12)(h4:¬ x.kind=13)(h5:¬ x.kind=14):mR t x a b e=(t,false):=by grind[mR]
end
theorem Xx(h:qK t.bN=none):nE t=(t,false):=by unfold nE;rw[h]
theorem Xy(h:qK t.bN=some (x,a,b))(h2:(ey t x.e).2=false):nE t=({t with fault:=2},false):=by unfold nE;grind
theorem Xz(h:qK t.bN=some (x,a,b))(h3:(ey t x.f).2=false):nE t=({t with fault:=2},false):=by unfold nE;grind
theorem XA(h:qK t.bN=some (x,a,b))(h2:(ey t x.e).2=true)(h3:(ey t x.f).2=true):nE t=mR t x a b (ey t x.e).1:=by unfold nE;grind
end
def Hq(G:Option Addr)(u B:Nat)(E:Bool):pr hH (l1 227 [(0,.slice G u B),(1,.bool E)].toArray)=some (.agg [.slice G u B,.bool E].toArray):=by kernel_rfl
structure rK where
 l:SV
 CL:Bool
instance:Flat rK where
 agg:=true
 sz:=2
 enc e:=[.slice e.l.a e.l.n e.l.cap,.bool e.CL]
 val e:=.agg [.slice e.l.a e.l.n e.l.cap,.bool e.CL].toArray
 pos:=ea
 len _:=rfl
 one a v h:=by simp at h;rcases h with rfl|rfl<;>rfl
 lj _ _:=rfl
 lF h:=by cases h
variable (w:World) (K:Value->hM)
def S127(I:Value):Prop:=
 aL 220 w λa b=>nC I λc=>fA 131 c 3 λd=>lA 129 d b λe=>lN 129 e λf=>bB .eql 3 f (i 0) λg=>cV g (dW hH (l1 220 [].toArray) λh=>sA 220 a h b λj=>
 lA 220 a j λr=>K (.tuple #[r,(.slice none 0 0),(.slice none 0 0),ff]) j) (nC I λk=>fA 131 k 3 λl=>lA 129 l (drew b) λn=>nC I λo=>fA 131 o 3 λp=>lA 129 p (drew b) λq=>
 lN 129 q λs=>bB .sub 3 s (i 1) λt=>iA 129 n t λu=>fA 227 u 0 λv=>lA 112 v (drew b) λx=>iA 112 x (i 0) λy=>lA 220 y (drew b) λz=>aL 220 (drew b) λB U=>
 sA 220 B z U λG=>fA 220 B 6 λad=>lA 3 ad G λZ=>bC .add 3 (i 1) Z λE=>fA 220 B 7 λV=>lA 3 V G λO=>bA .add 3 E O λJ=>lA 220 B (drew G) λaj=>
 dW hH (mA 112 x (some (i 1)) (some E) (some E)) λY=>dW hH (mA 112 x (some E) (some J) (some J)) λal=>sA 220 a aj (drew G) λM=>
 lA 220 a M λW=>K (.tuple #[W,Y,al,tt]) M)
def aiQ:dI:=λi=>match i with
 | 3=>.run 0 14
 | 7=>.run 0 14
 | _=>.nil
theorem Tx(u:Value)(h:S127 w K u):CR 127 [u] w K:=
 lE 50 aiQ 60 [.cell 2 220,.tmp 3,.tmp 4,.tmp 5] Tryz.func127 h
def aiR:dI:=λi=>match i with
 | 3=>.run 0 14
 | _=>.nil
def S222(B:Value):Prop:=
 jC (λE M a=>∀_:Env,
 eo (λG=>dW hH (Op.unary .not M) λb=>cV b (nC B λc=>fA 131 c 3 λd=>lA 129 d a λe=>lN 129 e λf=>bB .gtr 3 f (i 0) λg=>G g a) (G ff a))
 (λh j=>∀_:Env,
 cV h (nC B λk=>fA 131 k 3 λl=>lA 129 l j λn=>lN 129 n λo=>bB .sub 3 o (i 1) λp=>nC B λq=>fA 131 q 3 λr=>lA 129 r j λs=>iA 129 s p λt=>fA 227 t 1 λu=>
 lA 4 u j λv=>nC B λx=>fA 131 x 3 λy=>lA 129 y j λz=>dW hH (mA 129 z none (some p) (some p)) λJ=>nC B λI=>fA 131 I 3 λO=>sA 129 O J j λU=>
 E v U) (K (.tuple #[]) j))) (λE=>E ff w)
theorem Ty(u:Value)(h:S222 w K u):CR 222 [u] w K:=
 lE 38 (λ_=>.nil) 0 [] Tryz.func222 h
def S163(u E:Value):Prop:=
 lN 92 E λa=>bB .eql 3 a (i 0) λb=>cV b (K (.tuple #[(i 0),tt]) w) (nC u λc=>fA 131 c 1 λd=>lA 86 d (drew w) λe=>nC u λf=>fA 131 f 2 λg=>lA 22 g (drew w) λh=>
 cF 78 [E,e,h] (drew w) λj k=>xT j 0 λl=>xT j 1 λn=>wL (λB=>bB .neq 40 n (i 0) λo=>cV o (nC u λp=>fA 131 p 4 λq=>sA 3 q (i 2) k λr=>B r) (B k))
 (λs=>∀_:Env,
 bB .eql 40 n (i 0) λt=>K (.tuple #[l,t]) s))
def aiS:dI:=λi=>match i with
 | 3=>.run 0 15
 | _=>.nil
theorem Tz(u B:Value)(h:S163 w K u B):CR 163 [u,B] w K:=
 lE 32 aiS 48 [.tmp 4,.tmp 5] Tryz.func163 h
def S119(B:Value):Prop:=
 MD (λE a=>∀_:Env,
 cF 127 [B] a λb c=>xT b 0 λd=>xT b 1 λe=>xT b 2 λf=>xT b 3 λg=>aL 220 c λh j=>sA 220 h d j λk=>dW hH (Op.unary .not g) λl=>cV l (K (.tuple #[]) k) (
 fA 220 h 3 λn=>lA 92 n k λo=>cF 163 [B,o] k λp q=>xT p 0 λr=>xT p 1 λs=>dW hH (Op.unary .not s) λt=>cV t (K (.tuple #[]) q) (fA 220 h 4 λu=>lA 92 u q λv=>
 cF 163 [B,v] q λx y=>xT x 0 λ_=>xT x 1 λz=>dW hH (Op.unary .not z) λaa=>cV aa (K (.tuple #[]) y) (fA 220 h 0 λY=>lA 3 Y y λI=>bB .eql 3 I (i 1) λad=>
 cV ad (nC B λae=>fA 131 ae 2 λU=>lA 22 U (drew y) λM=>nC B λW=>fA 131 W 1 λai=>lA 86 ai (drew y) λaj=>fA 220 h 1 λak=>lA 9 ak (drew y) λal=>
 cF 146 [aj,al] (drew y) λam O=>kA 22 U M O (iA 22 M am λao=>sA 3 ao r O λap=>cF 166 [B] ap λ_ aq=>E aq)) (bB .eql 3 I (i 11) λar=>cV ar (cF 166 [B] y λ_ G=>
 eo (λV=>bB .eql 3 r (i 0) λau=>cV au (V f G) (V e G)) (λJ av=>∀_:Env,
 cF 118 [B,J,ff] av λ_ aw=>E aw)) (bB .eql 3 I (i 12) λax=>cV ax (lA 220 h y λay=>cF 221 [B,ay,e] y λ_ az=>E az) (bB .eql 3 I (i 13) λZ=>cV Z (cF 222 [B] y λ_ a1=>
 E a1) (bB .eql 3 I (i 14) λa2=>cV a2 (bB .eql 3 r (i 0) λa3=>cV a3 (nC B λa4=>fA 131 a4 4 λa5=>sA 3 a5 (i 1) y λa6=>K (.tuple #[]) a6) (cF 166 [B] y λ_ a7=>
 E a7)) (K (.tuple #[]) y))))))))) (λE=>E w)
def aiT:dI:=λi=>match i with
 | 8=>(.of [(0,[]),(1,[]),(2,[]),(3,[]),(4,[]),(5,[]),(6,[]),(7,[]),(8,[]),(9,[]),(11,[]),(10,[3]),(12,[]),(13,[])])
 | _=>.nil
theorem TA(u:Value)(h:S119 w K u):CR 119 [u] w K:=
 lE 83 aiT 0 [] Tryz.func119 h
theorem E6:PL 118:=dF Tryz.func118
theorem Pz:PL 127:=dF Tryz.func127
theorem E7:PL 166:=dF Tryz.func166
theorem adj:PL 221:=dF Tryz.func221
theorem adk:PL 222:=dF Tryz.func222
theorem E8:PL 163:=dF Tryz.func163
theorem VR:PL 119:=dF Tryz.func119
theorem adl:PL 66:=dF Tryz.func66
end Go.Proofs.YtdncbeepkacgbaaGreatDoor
namespace Go.Fw
section
variable {P:Program}{w w0:World}{A S:Nat->Prop}{L:List HP}
theorem zC{n cap l h m:Nat}{lo hi B:Option Value}(G:lo=none/\l=0\/∃i:Int,lo=some (hU i)/\0<=i/\l=i.toNat)(J:∃i:Int,hi=some (hU i)/\0<=i/\h=i.toNat)(I:∃i:Int,B=some (hU i)/\0<=i/\m=i.toNat)
  (h1:l<=h) (h2:h<=m) (h3:m<=cap):pr P (qh true n cap lo hi B)=some (l,h,m):=by
 obtain⟨j,rfl,u,rfl⟩:=J
 obtain⟨k,rfl,E,rfl⟩:=I
 rcases G with⟨rfl,rfl⟩|⟨i,rfl,M,rfl⟩<;>simp only[qh,bT,eW,kO]
 .rw[fV E bP];simp only[kO];rw[fV u bP];rfl
 rw[fV E bP];simp only[kO];rw[fV u bP];simp only[kO];rw[fV M bP];rfl
theorem JB{T E sz I:Nat}{z:Option Nat}{a:Option Addr}{n cap l h m:Nat}{lo hi B:Option Value}(ht:dV P T=some (E,sz,I,z))
  (hb:pr P (qh true n cap lo hi B)=some (l,h,m)) :
  pr P (mA T (.slice a n cap) lo hi B)=some (.slice (if m=l then a else a.map (·.add (l*sz))) (h-l) (m-l)):=by
 obtain⟨u,G,J,M,_⟩:=eA ht
 unfold mA
 rw[bT,bR u]
 simp only[kO]
 unfold Instr.slice
 rw[bT,bR u]
 simp only[kO]
 rw[bT,hb]
 simp only[kO]
 rw[bT,km J,M]
 rfl
variable {α:Type}[Flat α] {xs:List α}
theorem dy.aiU{v:Value}{a:Option Addr}{n cap l h:Nat}(I:v=.slice a n cap)(O:dy S w v xs)(h1:l<=h)(h2:h<=xs.length) :
  dy S w (.slice (if h=l then a else a.map (·.add (l*lx α))) (h-l) (h-l)) ((xs.take h).drop l):=by
 obtain⟨U,V,M,Z,h3⟩:=O
 rw[M]at I
 simp only[sB.injEq]at I
 obtain⟨rfl,W,rfl⟩:=I
 have hlen:((xs.take h).drop l).length=h-l:=by simp;omega
 rcases h3 with⟨G,Y⟩|⟨b,o,rfl,h4,h5⟩
 .subst G
  exact⟨_,h-l,by rw[hlen],ew,.inl ⟨ew,by simp at h2;omega⟩⟩
 refine⟨_,h-l,by rw[hlen],by rw[hlen];exact oq _,.inr ?_⟩
 have J:(xs.take h).drop l≠[]->xs≠[]:=λE B=>E (by rw[B];simp)
 by_cases E:h=l
 .rw[fi E]
  refine⟨b,o,rfl,λB=>h4 (J B),λj c u=>?_⟩
  have:((xs.take h).drop l)=[]:=by rw[<- qa,hlen];omega
  rw[this]at u;simp[jh]at u
 rw[ez E]
 refine⟨b,o+l*lx α,by simp[fp],λB=>h4 (J B),λj c u=>?_⟩
 rw[AP,AO,CS,Db]at u
 split at u
 .have:=h5 _ c u
  rwa [show o+(l*lx α+j)=o+l*lx α+j from bP]at this
 cases u
theorem E9{T E G:Nat}{z:Option Nat}{v:Value}{i j:Int}{K:Value->Prop}(ht:dV P T=some (E,lx α,G,z))(I:dy S w v xs)
  (J:0<=i) (h1:i<=j) (h2:j<=xs.length) (k:∀u,(∀w' (ys:List α),dy S w' v ys->dy S w' u ((ys.take j.toNat).drop i.toNat))->K u):dW P (mA T v (some (hU i)) (some (hU j)) (some (hU j))) K:=by
 obtain⟨a,cap,rfl,M,h3⟩:=I
 refine⟨_,JB ht (zC (.inr ⟨i,rfl,J,rfl⟩) ⟨j,rfl,bP,rfl⟩ ⟨j,rfl,bP,rfl⟩ bP (oq _) bP),k _ λw' ys B=>B.aiU rfl bP ?_⟩
 obtain⟨_,_,h4,_⟩:=B
 grind
theorem Hr{T E G:Nat}{z:Option Nat}{v:Value}{i:Int}{K:Value->Prop}(ht:dV P T=some (E,lx α,G,z))(I:dy S w v xs)
  (J:0<=i) (h2:i<=xs.length) (k:∀u,(∀w' (ys:List α),dy S w' v ys->dy S w' u (ys.drop i.toNat))->K u):dW P (mA T v (some (hU i)) none none) K:=by
 obtain⟨a,cap,rfl,O,h3⟩:=I
 refine⟨_,qQ ht (ko (.inr ⟨i,rfl,J,rfl⟩) (.inl ⟨rfl,rfl⟩) bP bP),k _ λw' ys B=>?_⟩
 have M:ys.length=xs.length:=by
  obtain⟨_,_,h4,_⟩:=B
  grind
 have:=B.cut rfl (show i.toNat<=ys.length by omega) (oq _)
 grind
theorem xh{T E W:Nat}{z:Option Nat}{v:Value}{i:Int}{K:Value->Prop}(ht:dV P T=some (E,lx α,W,z))
  (M:St w0 A (bH v xs::L) w) (I:0<=i) (h1:i<=xs.length) (k:∀J,St w0 A (bH J (xs.take i.toNat)::L) w->K J):dW P (mA T v none (some (hU i)) (some (hU i))) K:=by
 obtain⟨a,cap,u,xt,_⟩:=M.eU
 refine⟨_,(by rw[u];exact JB ht (zC (.inl ⟨rfl,rfl⟩) ⟨i,rfl,I,rfl⟩ ⟨i,rfl,I,rfl⟩ (mr _) (oq _) bP)),k _ ?_⟩
 refine M.mM λF G=>?_
 rcases G with⟨B,U,V⟩|⟨b,Ae,rest,Y,hb,Z,G⟩
 .rw[B]at u
  subst U
  simp only[sB.injEq]at u
  obtain⟨rfl,_,rfl⟩:=u
  have hi:i.toNat=0:=by simp at h1;omega
  refine⟨F,.inl ⟨?_,ew,V⟩,λb hb=>.inl hb,fH.refl _ _⟩
  rw[hi];rfl
 rw[Y]at u
 simp only[sB.injEq]at u
 obtain⟨rfl,_,rfl⟩:=u
 have O:(xs.take i.toNat).length=i.toNat:=by rw[ml];omega
 refine⟨F,.inr ⟨b,i.toNat,flat (xs.drop i.toNat)++rest,?_,?_,⟨bP,?_⟩,G⟩,λb hb=>.inl hb,fH.refl _ _⟩
 .rw[O]
  simp[fp]
 .rw[<- mv,<- ft,ob];exact hb
 rw[kC,cG,O];omega
end
end Go.Fw
namespace Go.Proofs.YtdncbeepkacgbaaGreatDoor
open Go.Fw
def nH(K:hM)(u:SV)(rows:List aW)(l:List bE)(w:World):Prop:=(∀w',K w'->gU rows l w')/\(K w->dy (λ_=>True) w (ia u) rows)
abbrev PE:=List (rK×List aW)
def yd(K:hM)(w:World):PE->PD->Prop
 | [],[]=>True
 | e::es,q::p=>(e.1.CL=q.2/\nH K e.1.l e.2 q.1.flat w)/\yd K w es p
 | _,_=>False
def F4(es:PE):List rK:=(es.map Prod.fst).reverse
theorem PA(e:rK×List aW)(es:PE):F4 (e::es)=F4 es++[e.1]:=by simp[F4]
theorem mS(es:PE):(F4 es).length=es.length:=by simp[F4]
theorem yd.len{K:hM}{w:World}:∀{es:PE}{p:PD},yd K w es p->es.length=p.length
 | [],[],_=>rfl
 | e::es,q::p,h=>by have:=yd.len h.2;simp[this]
 | [],_::_,h=>h.elim
 | _::_,[],h=>h.elim
def dM(K Φ:hM)(p:Nat)(room:Int)(t:jO):HP:=oW λB:Nat=>oW λu:SV=>oW λrg=>oW λpl=>oW λes:PE=>fact (∀w,K w->dy (λ_=>True) w (ia u) t.names)
 (sep (bM p [.pointer (some ⟨B,0,none⟩),ia u,rg,pl,hU t.fault]) (sep (kX B room t.buf) (sep (bH rg t.dJ) (sep (bH pl (F4 es)) (eI λw=>yd K w es t.bN/\Φ w)))))
abbrev mT(K:hM)(p:Nat)(room:Int)(t:jO):HP:=dM K (λ_=>True) p room t
section
variable {w w0:World}{A:Nat->Prop}{R:List HP}{p:Nat}{K Φ Ψ:hM}{room:Int}{t:jO}
theorem tD{H1 H2 B u E:HP}(G:St w0 A (sep H1 (sep H2 (sep B (sep u E)))::R) w):St w0 A (H1::H2::B::u::E::R) w:=by
 have h1:=G.split
 have h2:=h1.p1.split
 have h3:=h2.p1.split
 have h4:=h3.p1.split
 exact h4.p2.p3.p4
theorem tG{H1 H2 B u E:HP}(G:St w0 A (H1::H2::B::u::E::R) w):St w0 A (sep H1 (sep H2 (sep B (sep u E)))::R) w:=by
 have h4:=St.join G.p4.p4
 have h3:=St.join h4.p3
 have h2:=St.join h3.p2
 exact St.join h2.p1
abbrev vg(B:Nat)(u:SV)(rg pl:Value)(f:Int):List Value:=[.pointer (some ⟨B,0,none⟩),ia u,rg,pl,.int .i64 f]
theorem dM.open(u:St w0 A (dM K Φ p room t::R) w):∃E B rg pl es,(∀w,K w->dy (λ_=>True) w (ia B) t.names)/\
  St w0 A (bM p (vg E B rg pl t.fault)::kX E room t.buf::bH rg t.dJ::bH pl (F4 es)::eI (λw=>yd K w es t.bN/\Φ w)::R) w:=by
 obtain⟨E,u⟩:=u.dS;obtain⟨B,u⟩:=u.dS;obtain⟨rg,u⟩:=u.dS;obtain⟨pl,u⟩:=u.dS;obtain⟨es,u⟩:=u.dS;obtain⟨G,u⟩:=u.lr
 exact⟨E,B,rg,pl,es,G,tD u⟩
theorem dM.shut{B:Nat}{u:SV}{rg pl:Value}{es:PE}(G:∀w,K w->dy (λ_=>True) w (ia u) t.names)
  (E:St w0 A (bM p (vg B u rg pl t.fault)::kX B room t.buf::bH rg t.dJ::bH pl (F4 es)::eI (λw=>yd K w es t.bN/\Φ w)::R) w):St w0 A (dM K Φ p room t::R) w:=
 St.dO B (St.dO u (St.dO rg (St.dO pl (St.dO es (St.mE G (tG E))))))
theorem dM.mono(u:St w0 A (dM K Φ p room t::R) w)(h:∀w,Φ w->Ψ w):St w0 A (dM K Ψ p room t::R) w:=by
 obtain⟨I,G,rg,pl,es,E,u⟩:=dM.open u
 have h1:=u.p4.dH (Ψ:=λw=>yd K w es t.bN/\Ψ w) λw B=>⟨B.1,h w B.2⟩
 exact dM.shut E h1.p4.p4.p4.p4
theorem dM.now(u:St w0 A (dM K Φ p room t::R) w):Φ w:=by
 obtain⟨G,B,rg,pl,es,E,u⟩:=dM.open u
 exact u.p4.eI.2
theorem dM.rd(h:Has (dM K Φ p room t) w):∃E B rg pl es,(∀w,K w->dy (λ_=>True) w (ia B) t.names)/\nZ w p (vg E B rg pl t.fault)/\sH w E room t.buf/\dy (λ_=>True) w rg t.dJ/\dy (λ_=>True) w pl (F4 es)/\yd K w es t.bN/\Φ w:=by
 obtain⟨F,u⟩:=h.st
 obtain⟨E,B,rg,pl,es,G,u⟩:=dM.open u
 exact⟨E,B,rg,pl,es,G,u.hb,Ju u.p1,u.p2.eU,u.p3.eU,u.p4.eI.1,u.p4.eI.2⟩
theorem kZ{E:aW}{x:bE}(h:l2 w E x):∃u B:SV,E=⟨x.kind,x.eQ,x.name,u,B,x.n,x.body,x.eH,x.at_⟩/\dy (λ_=>True) w (ia u) x.e/\dy (λ_=>True) w (ia B) x.f:=by
 obtain⟨u,B,h1,h2,h3⟩:=h
 exact⟨u,B,h1,DL.flat h2,DL.flat h3⟩
theorem gU.cut{rows:List aW}{l:List bE}{i j:Nat}(h:gU rows l w):gU ((rows.take j).drop i) ((l.take j).drop i) w:=(h.take j).drop i
theorem acq{x:bE}{a b r:Bk}(h:(Bk.cons x a b r).str){j:Int}(u:j=1+x.body):(((Bk.cons x a b r).flat.take j.toNat).drop (1:Int).toNat)=a.flat:=by
 obtain⟨B,_⟩:=h
 have E:=a.cM
 rw[tn _ (a:=1) (c:=(1:Int).toNat) (n:=a.flat.length) bP rfl]
 show(a.flat++(b.flat++r.flat)).take _=_
 grind
theorem acr{x:bE}{a b r:Bk}(h:(Bk.cons x a b r).str){i j:Int}(hi:i=1+x.body)(u:j=1+x.body+x.eH):(((Bk.cons x a b r).flat.take j.toNat).drop i.toNat)=b.flat:=by
 obtain⟨B,E,_⟩:=h
 have G:=a.cM
 have lb:=b.cM
 rw[tn _ (a:=1+a.flat.length) (n:=b.flat.length) bP bP,<- List.drop_drop]
 show((a.flat++(b.flat++r.flat)).drop _).take _=_
 grind
theorem nH.cut{E u:SV}{rows:List aW}{l:List bE}{i j:Nat}(h:nH K E rows l w)(hc:∀w' (ys:List aW),dy (λ_=>True) w' (ia E) ys->dy (λ_=>True) w' (ia u) ((ys.take j).drop i)):nH K u ((rows.take j).drop i) ((l.take j).drop i) w:=
 ⟨λw' B=>gU.cut (h.1 w' B),λB=>hc _ _ (h.2 B)⟩
theorem nH.adn{E u:SV}{rows:List aW}{l:List bE}{i:Nat}(h:nH K E rows l w)(hc:∀w' (ys:List aW),dy (λ_=>True) w' (ia E) ys->dy (λ_=>True) w' (ia u) (ys.drop i)):nH K u (rows.drop i) (l.drop i) w:=
 ⟨λw' B=>(h.1 w' B).drop i,λB=>hc _ _ (h.2 B)⟩
theorem yd.top{es:PE}{q:Bk×Bool}{p:PD}(h:yd K w es (q::p)):∃u rows B,es=(⟨u,q.2⟩,rows)::B/\nH K u rows q.1.flat w/\yd K w B p:=by
 match es,h with
 | [],h=>exact h.elim
 | e::es,h=>
  obtain⟨⟨u,E⟩,rows⟩:=e
  obtain⟨⟨h1,h2⟩,h3⟩:=h
  grind
theorem yd.cons{u:SV}{e:Bool}{rows:List aW}{es:PE}{q:Bk×Bool}{p:PD}(h:yd K w ((⟨u,e⟩,rows)::es) (q::p)):nH K u rows q.1.flat w/\yd K w es p:=⟨h.1.2,h.2⟩
theorem zD{e:rK×List aW}{es:PE}:(F4 (e::es))[es.length]?=some e.1:=by grind[F4]
theorem JC{e:rK×List aW}{es:PE}:(F4 (e::es)).take es.length=F4 es:=by grind[F4]
end
theorem C118(K Φ:hM)(p:Nat)(room:Int)(t:jO)(F:Nat->Prop)(lv:SV)(rows:List aW)(b:Bk)(e:Bool)(w:World)(J:(dM K Φ p room t).p w F)(E:∀w',fH F w w'->K w')(G:∀w,Φ w->nH K lv rows b.flat w)(Z:t.bN.length<=100000) :
    CR 118 [.pointer (some ⟨p,0,none⟩),ia lv,.bool e] w (λv w'=>v=.tuple #[]/\mF F (dM K Φ p room {t with bN:=jE b e t.bN}) w w'):=by
 have u:=St.begin J;refine eT Tryz.func118 ?_;obtain⟨U,V⟩:=G _ (dM.now u);have hlen:=(U _ (E _ u.aF)).1;refine aI fX (V (E _ u.aF)) (dL (aC (λc=>?_) λc=>?_));rotate_left
 .have hb:b=.nil:=by
   cases b with
   | nil=>rfl
   | cons y a B r=>simp[Bk.flat]at hlen;omega
  subst hb;exact⟨rfl,u.mut⟩
 obtain⟨y,a,B,r,rfl⟩:=Bk.Jc (t:=b) bP;obtain⟨bp,Y,rg,pl,es,W,u⟩:=dM.open u;have FU:=u.p4.eI.1.len;refine aD (aA gB (aB m8 u.hb rfl (pop (Hq lv.a lv.n lv.cap e) (bK ([(⟨lv,e⟩:rK)]) u o9 rfl rfl (dP rfl) λI _ u=>?_))));have M:=u.eU;refine cO u.p4 o9 M (by rw[mS];simp;omega) ea (λO _ u=>have u:=u.p1.drop;aD (aA gB (aO u.p1 m8 (dP rfl) u.eU.one λ_ u=>?_)));have u:=u.p4.dH (Ψ:=λw=>yd K w ((⟨lv,e⟩,rows)::es) ((.cons y a B r,e)::t.bN)/\Φ w) (λw h=>⟨⟨⟨rfl,G w h.2⟩,h.1⟩,h.2⟩)
 have u:=u.p2;rw[<- PA (⟨lv,e⟩,rows) es]at u;have u:=dM.shut (Φ:=Φ) (t:={t with bN:=(.cons y a B r,e)::t.bN}) W u.p1.p1.p4.p4.p4;exact⟨rfl,u.mut⟩
def C166(K Φ:hM)(p:Nat)(room:Int)(t:jO)(F:Nat->Prop)(y:bE)(a b r:Bk)(e:Bool)(B:PD)(w:World)(hF:(dM K Φ p room t).p w F)(O:∀w',fH F w w'->K w')(J:t.bN=(.cons y a b r,e)::B)(gn:(Bk.cons y a b r).str)(mL:t.bN.length<=100000) :
   CR 166 [.pointer (some ⟨p,0,none⟩)] w (λv w'=>v=.tuple #[]/\mF F (dM K Φ p room {t with bN:=gY t.bN}) w w'):=by
 have M:gY t.bN=jE r false B:=by rw[J];rfl
 have U:B.length<=100000:=by rw[J,oi]at mL;omega
 have u:=St.begin hF;refine qj Tryz.func166 (pl:=aiR) ?_;obtain⟨bp,nv,rg,pl,es,hk,u⟩:=dM.open u;have W:=u.p4.eI.1;rw[J]at W;obtain⟨I,rows,Z,rfl,⟨Jq,Mh⟩,_⟩:=W.top;have FU:=W.len;rw[oi,oi]at FU;have OF:=Jq _ (O _ u.aF);have PB:=OF.1;have Gl:=(Bk.cons y a b r).cM
 change rows.length=(Bk.cons y a b r).flat.length at PB
 obtain⟨FV,hb2,hb3,hb4,_⟩:=id gn;simp only[Bk.len]at Gl;obtain⟨t0,XB⟩:∃t0,rows[(0:Int).toNat]?=some t0:=⟨_,j0 (by simp;omega)⟩;obtain⟨ge,gf,rfl,_,_⟩:=kZ (OF.2 0 _ y XB rfl);refine aD (aA gB (aB m8 u.hb rfl (aI o9 u.p3.eU ?_)));rw[mS,oi];refine fo bP ?_;rw[show((Z.length+1:Nat):Int)-1=(Z.length:Int)from bP];refine aD (aA gB (aB m8 u.hb rfl (aZ o9 u.p3.eU bP (by rw[qs];exact zD) λq hq=>cU I DW hq rfl rfl λq2 O5=>aE lZ O5 (aD (aA gB (aB m8 u.hb rfl (have u:=u.p3;xh o9 u bP (by rw[mS,oi];omega) λs25 u=>?_)))))))
 rw[qs,JC]at u;refine aD (aA gB (aO u.p1 m8 (dP rfl) u.eU.one λ_ u=>?_));have u:=u.drew.p4;rw[J]at u;have u:=u.dH (Ψ:=λw=>yd K w Z B/\(Φ w/\nH K I rows (Bk.cons y a b r).flat w)) (λ_ h=>⟨h.1.2,h.2,h.1.1.2⟩);have G:=u.eI.2.2.2 (O _ u.aF);have u:=dM.shut (Φ:=λw=>Φ w/\nH K I rows (Bk.cons y a b r).flat w) (t:={t with bN:=B}) hk u.p2.p4.p4.p4;refine aZ fX G bP XB (λq3 hq3=>cU y.body jV hq3 rfl rfl λq4 Y=>aE bL Y (aK bP (aZ fX G bP XB λq5 V=>cU y.eH l6 V rfl rfl λq6 hq6=>aE bL hq6 (aK bP (Hr fX G bP bP λs40 E=>?_)))))
 obtain⟨aiX,rfl⟩:=(E _ _ G).gu;refine aU E6 u (H':=λ_=>dM K (λw=>Φ w/\nH K I rows (Bk.cons y a b r).flat w) p room {t with bN:=jE r false B}) (Φ:=λ_ _=>True) (λF2 dQ dK=>?_) ?_
 .refine(C118 K _ p room {t with bN:=B} F2 aiX (rows.drop (1+y.body+y.eH).toNat) r false _ dQ (λw' hc=>O w' (dK w' hc).aF) (λw h=>?_) U).mono λ_ _ r=>r.mono λ_ _ h=>⟨trivial,h.2⟩;have:=h.2.adn E;rw[Bk.acp gn rfl]at this;exact this
 rintro _ _ _ u;rw[<- M]at u;exact⟨rfl,(dM.mono u λ_ h=>h.1).mut⟩
theorem C127(K:hM)(p:Nat)(t:jO)(bp:Nat)(nv:SV)(rg pl:Value)(es:PE)(φ:bE->Prop)(w:World)(zF:nZ w p (vg bp nv rg pl t.fault))(Z:dy (λ_=>True) w pl (F4 es))(Y:yd K w es t.bN)
   (hw:∀w',Ext w w'->K w') (B:Bo φ t.bN) (hl:t.bN.length<=100000):CR 127 [.pointer (some ⟨p,0,none⟩)] w (λv w'=>Ext w w'/\((qK t.bN=none/\v=.tuple #[ia (⟨0,⟨#[]⟩,⟨#[]⟩,bZ,bZ,0,0,0,0⟩:aW),.slice none 0 0,.slice none 0 0,.bool false])\/
    ∃x a b xv av bv ra rb,qK t.bN=some (x,a,b)/\v=.tuple #[ia (xv:aW),ia (av:SV),ia (bv:SV),.bool true]/\(∀w',K w'->l2 w' xv x)/\∀J,yd K J es t.bN->nH K av ra a.flat J/\nH K bv rb b.flat J)):=by
 have U:=zF.cell (o:=3) rfl;have M:=Y.len;have u:=St.start w;refine Tx _ _ _ ?_;unfold S127;refine aM u jy (λb2 _ u=>have u:=u.enc (cs':=iW (⟨0,⟨#[]⟩,⟨#[]⟩,bZ,bZ,0,0,0,0⟩:aW)) rfl;aD (aA gB (cE m8 (U.ext u.aF) (aI o9 (Z.ext u.aF) ?_))));rw[mS];refine aG (aC (λc=>?_) λc=>?_)
 .have F3:t.bN=[]:=qa.1 bP;exact pop (v:=ia (⟨0,⟨#[]⟩,⟨#[]⟩,bZ,bZ,0,0,0,0⟩:aW)) (by kernel_rfl) (aH (x:=(⟨0,⟨#[]⟩,⟨#[]⟩,bZ,bZ,0,0,0,0⟩:aW)) u ep rfl rfl λ_ u=>aE ep u.At ⟨u.drop.aF,.inl ⟨by rw[F3];rfl,rfl⟩⟩)
 obtain⟨bN,adp⟩:∃q,q=t.bN:=⟨_,rfl⟩;rw[<- adp]at Y B M hl |-;cases bN with
 | nil=>exact absurd (show((es.length:Nat):Int)=0 by have h0:es.length=0:=M;omega) c
 | cons q p'=>
 obtain⟨q1,e⟩:=q;cases q1 with
 | nil=>exact absurd rfl (B.ne _ (oj ..))
 | cons y a b r=>
 have gn:=B.st _ (oj ..);obtain⟨sv,rows,LA,rfl,⟨Jq,Mh⟩,_⟩:=Y.top;have OF:=Jq _ (hw _ (Ext.refl _));have PB:=OF.1;have Gl:=(Bk.cons y a b r).cM
 change rows.length=(Bk.cons y a b r).flat.length at PB
 obtain⟨FV,hb2,hb3,hb4,_⟩:=id gn;simp only[Bk.len]at Gl;rw[oi]at M c;rw[oi]at M hl;obtain⟨t0,W⟩:∃t0,rows[(0:Int).toNat]?=some t0:=⟨_,j0 (by simp;omega)⟩;obtain⟨ge,gf,rfl,_,_⟩:=kZ (OF.2 0 _ y W rfl);have G:=Mh (hw _ (Ext.refl _));have u:=u.drew;refine aD (aA gB (cE m8 (U.ext u.aF) (aD (aA gB (cE m8 (U.ext u.aF) (aI o9 (Z.ext u.aF) ?_))))));rw[mS,oi];refine fo bP ?_;rw[show((LA.length+1:Nat):Int)-1=(LA.length:Int)from bP];refine aZ o9 (Z.ext u.aF) bP (by rw[qs];exact zD) (λq hq=>cU sv DW hq rfl rfl λq2 O5=>aE lZ O5 (aZ fX (G.ext u.aF) bP W λq3 hq3=>aE ep hq3 (aM u jy λb7 _ u=>aH (x:=(⟨y.kind,y.eQ,y.name,ge,gf,y.n,y.body,y.eH,y.at_⟩:aW)) u ep rfl rfl λ_ u=>aA jV (aB (v:=hU y.body) bL u.hb rfl (aK bP (aA l6 (aB (v:=hU y.eH) bL u.hb rfl (aK bP ?_))))))))
 have u:=u.drew;refine aE ep u.At (E9 fX (G.ext u.aF) bP bP bP λs44 E=>?_);obtain⟨V,rfl⟩:=(E _ _ G).gu;refine E9 fX (G.ext u.aF) bP bP bP (λs49 I=>?_);obtain⟨O,rfl⟩:=(I _ _ G).gu;refine aH (x:=(⟨y.kind,y.eQ,y.name,ge,gf,y.n,y.body,y.eH,y.at_⟩:aW)) u.p1 ep rfl rfl (λ_ u=>aE ep u.At ?_);refine⟨u.drop.drop.aF,.inr ⟨y,a,b,_,V,O,(rows.take (1+y.body).toNat).drop (1:Int).toNat,(rows.take (1+y.body+y.eH).toNat).drop (1+y.body).toNat,rfl,rfl,λw' hk=>(Jq w' hk).2 0 _ y W rfl,λJ h2=>?_⟩⟩;have h3:=h2.cons.1
 refine⟨?_,?_⟩
 .have:=h3.cut E;rw[acq gn rfl]at this;exact this
 have:=h3.cut I;rw[acr gn rfl rfl]at this;exact this
theorem C222(K Φ:hM)(p:Nat)(room:Int)(t:jO)(F:Nat->Prop)(w:World)(hF:(dM K Φ p room t).p w F)(hK:∀w',fH F w w'->K w')(mL:t.bN.length<=100000) :
   CR 222 [.pointer (some ⟨p,0,none⟩)] w (λv w'=>v=.tuple #[]/\mF F (dM K Φ p room {t with bN:=kY t.bN}) w w'):=by
 have u:=St.begin hF;refine Ty _ _ _ ?_;unfold S222;refine⟨λm ev J=>∃(E:Bool) (B:PD),ev=.bool E/\m=B.length+(if E then 0 else 1)/\B.length<=100000/\kY t.bN=(if E=true then B else kY B)/\St w F [dM K Φ p room {t with bN:=B}] J,⟨_,false,t.bN,rfl,rfl,mL,rfl,u⟩,?_⟩;rintro m _ J ⟨E,B,rfl,rfl,W,O,u⟩ _;obtain⟨bp,nv,rg,pl,es,V,u⟩:=dM.open u;have M:=u.p4.eI.1;have U:=M.len
 change es.length=B.length at U
 refine⟨λjv w'=>jv=.bool (!E&&decide (0<B.length))/\w'=J,?_,?_⟩
 .refine bJ ?_;cases E with
  | true=>exact et ⟨rfl,rfl⟩
  | false=>
   refine gH (aD (aA gB (aB m8 u.hb rfl (aI o9 u.p3.eU ?_))));rw[mS];refine dL ?_;exact⟨vb (by rw[Hk,tx];exact gh.2 bP),rfl⟩
 rintro _ _ ⟨rfl,rfl⟩ _;refine bD (λc=>?_) (λc=>?_);rotate_left
 .have Y:kY t.bN=B:=by
   rw[O];cases E with
   | true=>rfl
   | false=>
    have:B=[]:=qa.1 (by have:=g6 (by simpa only[Hk,tx]using c);omega);rw[this];rfl
  rw[Y];exact⟨rfl,(dM.shut (t:={t with bN:=B}) V u).mut⟩
 rw[Bool.and_eq_true,Bool.not_eq_true',decide_eq_true_eq]at c;obtain⟨rfl,xu⟩:=c;cases B with
 | nil=>simp at xu
 | cons q G=>
 obtain⟨q1,e⟩:=q;obtain⟨sv,rows,I,rfl,_,_⟩:=M.top;rw[oi,oi]at U;rw[oi]at W;refine aD (aA gB (aB m8 u.hb rfl (aI o9 u.p3.eU ?_)));rw[mS,oi];refine fo bP ?_;rw[show((I.length+1:Nat):Int)-1=(I.length:Int)from bP];refine aD (aA gB (aB m8 u.hb rfl (aZ o9 u.p3.eU bP (by rw[qs];exact zD) λq hq=>cU e Nb hq rfl rfl λq2 O5=>aE B3 O5 (aD (aA gB (aB m8 u.hb rfl (have u:=u.p3;xh o9 u bP (by rw[mS,oi];omega) λZ u=>?_)))))))
 rw[qs,JC]at u;refine aD (aA gB (aO u.p1 m8 (dP rfl) u.eU.one λ_ u=>have u:=u.p4.dH (Ψ:=λw=>yd K w I G/\Φ w) (λ_ h=>⟨h.1.2,h.2⟩);have u:=dM.shut (Φ:=Φ) (t:={t with bN:=G}) V u.p2.p4.p4.p4;⟨_,?_,e,G,rfl,rfl,bP,?_,u⟩))
 .show G.length+(if e=true then 0 else 1)<G.length+1+1
  split<;>omega
 rw[O];rfl
def C163(K Φ:hM)(p:Nat)(room:Int)(t:jO)(F:Nat->Prop)(lv:Value)(xs:List bI)(w:World)(U:(dM K Φ p room t).p w F)(J:∀w',fH F w w'->K w')(G:dy (λ_=>True) w lv xs)(O:xs.length<=1048576)(M:t.names.length<=1048576) :
   CR 163 [.pointer (some ⟨p,0,none⟩),lv] w (λv w'=>v=.tuple #[hU (ey t xs).1,.bool (ey t xs).2]/\mF F (dM K Φ p room {t with fault:=if (ey t xs).2=true then t.fault else 2}) w w'):=by
 have u:=St.begin U;refine Tz _ _ _ _ ?_;unfold S163;refine aI jx G (aG (aC (λc=>?_) λc=>?_))
 .have B:ey t xs=(0,true):=by unfold ey;rw[fi bP]
  rw[B];exact⟨rfl,u.mut⟩
 have B:ey t xs=((vX t.names t.dJ xs).1,decide ((vX t.names t.dJ xs).2=0)):=by unfold ey;rw[ez bP]
 obtain⟨Y,V,rg,pl,es,E,u⟩:=dM.open u;have u:=u.drew;refine aD (aA uw (aB lX u.hb rfl (aD (aA ux (aB ek u.hb rfl (aR abE u (C78 _ _ _ xs t.names t.dJ _ (G.ext (Ext.drew w)) (E _ (J _ u.aF)) u.p2.eU O M) λ_ W u=>aJ rfl (aJ rfl ⟨λw'=>St w F [dM K Φ p room {t with fault:=if (ey t xs).2=true then t.fault else 2}] w',cC (aC (λI=>?_) λI=>?_),?_⟩)))))))
 .refine aD (aA qU (aO u bL (dP rfl) rfl λ_ u=>?_));have ht:{t with fault:=2}={t with fault:=if (ey t xs).2=true then t.fault else 2}:=by rw[B];dsimp only;rw[ga I];rfl
  rw[<- ht];exact dM.shut (t:={t with fault:=2}) E u
 .have ht:t={t with fault:=if (ey t xs).2=true then t.fault else 2}:=by rw[B];dsimp only;rw[fj bP];rfl
  rw[<- ht];exact dM.shut E u
 intro _ u _;exact aG ⟨by rw[B],u.mut⟩
def dM.XD{w w0:World}{A:Nat->Prop}{R:List HP}{p:Nat}{K Φ Ψ:hM}{room:Int}{t:jO}(u:St w0 A (eI Ψ::dM K Φ p room t::R) w):St w0 A (dM K (λw=>Φ w/\Ψ w) p room t::R) w:=by
 obtain⟨G,E,rg,pl,es,B,u⟩:=dM.open u.p1
 have h1:=u.p5.p5.ic.dH (Ψ:=λw=>yd K w es t.bN/\Φ w/\Ψ w) λw h=>⟨h.1.1,h.1.2,h.2⟩
 exact dM.shut B h1.p4.p4.p4.p4
theorem gU.cons{w:World}{t:aW}{x:bE}{ts:List aW}{xs:List bE}(h:l2 w t x)(u:gU ts xs w):gU (t::ts) (x::xs) w:=by
 refine⟨by simp[u.1],λi t' B h1 h2=>?_⟩
 cases i with
 | zero=>simp at h1 h2;subst h1 h2;exact h
 | succ i=>exact u.2 i t' B (by simpa using h1) (by simpa using h2)
theorem Hs(x:bE)(a:Bk):(Bk.cons x a .nil .nil).flat=x::a.flat:=by simp[Bk.flat]
theorem C221(K Φ:hM)(p:Nat)(room:Int)(t:jO)(F:Nat->Prop)(x:bE)(xv:aW)(av:SV)(V:List aW)(a b r:Bk)(e:Bool)(U:PD)(w:World)(hF:(dM K Φ p room t).p w F)(I:∀w',fH F w w'->K w')(xy:t.bN=(.cons x a b r,e)::U)(gn:(Bk.cons x a b r).str)(mL:t.bN.length<=90000)
   (Dg:∀w,K w->l2 w xv x) (hΦ:∀w,Φ w->nH K av V a.flat w) (hn:0<=x.n/\x.n<=1000) :
   CR 221 [.pointer (some ⟨p,0,none⟩),ia xv,ia av] w (λv w'=>v=.tuple #[]/\mF F (dM K Φ p room {t with bN:=pX x a t.bN}) w w'):=by
 have u:=St.begin hF;obtain⟨B,E,rfl,_,_⟩:=kZ (Dg _ (I _ u.aF));have Vt:a.flat.length<=40:=by rw[Bk.cM];exact gn.2.2.1
 have hppl:(gY t.bN).length<=90001:=by
  rw[xy];show(jE r false U).length<=_;rw[xy,oi]at mL;cases r with
  | nil=>show U.length<=_;omega
  | cons _ _ _ _=>show U.length+1<=_;omega
 refine eT Tryz.func221 ?_;refine bY (x:=(⟨x.kind,x.eQ,x.name,B,E,x.n,x.body,x.eH,x.at_⟩:aW)) u (λb4 _ u=>aU E7 u.p1 (H':=λ_=>dM K (Φ) p room {t with bN:=gY t.bN}) (Φ:=λ_ _=>True) (λO M J=>?_) ?_)
 .exact(C166 K _ p room t O x a b r e U _ M (λw' hc=>I w' (J w' hc).aF) xy gn bP).mono λ_ _ r=>r.mono λ_ _ h=>⟨trivial,h.2⟩
 rintro _ _ _ u;refine aA l5 (aB (v:=hU x.n) bL u.p1.hb rfl (aG (aC (λc=>?_) λc=>?_)))
 .rw[show pX x a t.bN=gY t.bN from by unfold pX;rw[fi c]];exact⟨rfl,u.p1.drop.mut⟩
 rw[show pX x a t.bN=jE a false ((.cons {x with n:=x.n-1} a .nil .nil,true)::gY t.bN)from by unfold pX;rw[ez c]];refine aE ep u.p1.At (bK ([⟨x.kind,x.eQ,x.name,B,E,x.n,x.body,x.eH,x.at_⟩]:List aW) u fX rfl rfl (dP rfl) λs13 _ u=>?_);have G:=hΦ _ (dM.now u.p1);have hral:=(G.1 _ (I _ u.aF)).1;refine cO u fX (G.2 (I _ u.aF)) (by simp;omega) ea (λs15 _ u=>ed u fX bP ew λq17 h17=>rf l5 h17 λq18 Z=>uE (x.n:Int) u bL Z (x:=(⟨x.kind,x.eQ,x.name,B,E,x.n,x.body,x.eH,x.at_⟩:aW)) rfl rfl (fo bP (ed u fX bP ew λq21 W=>rf l5 W λq22 h22=>No (x:=(⟨x.kind,x.eQ,x.name,B,E,x.n,x.body,x.eH,x.at_⟩:aW)) (⟨x.kind,x.eQ,x.name,B,E,x.n-1,x.body,x.eH,x.at_⟩:aW) (x.n-1:Int) u bL h22 rfl ea rfl λ_ u=>?_)))
 obtain⟨Y,rfl⟩:=u.eU.gu;have u:=dM.XD u.freeze
 have Wv:∀w',K w'->gU (((⟨x.kind,x.eQ,x.name,B,E,x.n,x.body,x.eH,x.at_⟩:aW)::V).set (0:Int).toNat (⟨x.kind,x.eQ,x.name,B,E,x.n-1,x.body,x.eH,x.at_⟩:aW)) (Bk.cons {x with n:=x.n-1} a .nil .nil).flat w':=λw' hw=>by
  rw[Hs];obtain⟨_,_,h4,h5,h6⟩:=Dg w' hw;cases h4
  exact gU.cons ⟨B,E,rfl,h5,h6⟩ (G.1 w' hw)
 refine aU E6 u (H':=λ_=>dM K (λw=>Φ w/\dy (λ_=>True) w (ia Y) (([(⟨x.kind,x.eQ,x.name,B,E,x.n,x.body,x.eH,x.at_⟩:aW)]++V).set (0:Int).toNat (⟨x.kind,x.eQ,x.name,B,E,x.n-1,x.body,x.eH,x.at_⟩:aW))) p room { {t with bN:=gY t.bN}with bN:=jE (Bk.cons {x with n:=x.n-1} a .nil .nil) true ({t with bN:=gY t.bN}).bN}) (Φ:=λ_ _=>True) (λO M J=>?_) ?_
 .exact(C118 K _ p room ({t with bN:=gY t.bN}) O Y _ (Bk.cons {x with n:=x.n-1} a .nil .nil) true _ M (λw' hc=>I w' (J w' hc).aF) (λ_ h=>⟨Wv,λ_=>h.2⟩) (by show(gY t.bN).length<=_;omega)).mono λ_ _ r=>r.mono λ_ _ h=>⟨trivial,h.2⟩
 rintro _ _ _ u;refine aU E6 u (H':=λ_=>dM K (λw=>Φ w/\dy (λ_=>True) w (ia Y) (([(⟨x.kind,x.eQ,x.name,B,E,x.n,x.body,x.eH,x.at_⟩:aW)]++V).set (0:Int).toNat (⟨x.kind,x.eQ,x.name,B,E,x.n-1,x.body,x.eH,x.at_⟩:aW))) p room { {t with bN:=(.cons {x with n:=x.n-1} a .nil .nil,true)::gY t.bN}with bN:=jE a false ({t with bN:=(.cons {x with n:=x.n-1} a .nil .nil,true)::gY t.bN}).bN}) (Φ:=λ_ _=>True) (λO M J=>?_) ?_
 .exact(C118 K _ p room ({t with bN:=(.cons {x with n:=x.n-1} a .nil .nil,true)::gY t.bN}) O av V a false _ M (λw' hc=>I w' (J w' hc).aF) (λw h=>hΦ w h.1) (by show(gY t.bN).length+1<=_;omega)).mono λ_ _ r=>r.mono λ_ _ h=>⟨trivial,h.2⟩
 rintro _ _ _ u;exact⟨rfl,(dM.mono u.p1.drop λ_ h=>h.1).mut⟩
def C119(K:hM)(p:Nat)(room:Int)(t tR:jO)(n:Nat)(cs ls:List ByteArray)(F:Nat->Prop)(w:World)(hF:(mT K p room t).p w F)(V:∀w',fH F w w'->K w')(ql:wq cs ls t)(hg:sL n t=some tR) :
   CR 119 [.pointer (some ⟨p,0,none⟩)] w (λv w'=>v=.tuple #[]/\mF F (mT K p room tR) w w'):=by
 have u:=St.begin hF;refine TA _ _ _ ?_;unfold S119;refine⟨λmm w'=>∃B:jO,sL mm B=some tR/\wq cs ls B/\St w F [mT K p room B] w',⟨n,t,hg,ql,u⟩,?_⟩;rintro mm _ ⟨B,Bd,W,u⟩ _;obtain⟨k,rfl⟩:=Lz Bd;have mL:=yc W.p;have O8:=W.cl;have hnb:=W.nb;have PB:=W.rl;obtain⟨bp,nv,rg,pl,es,Z,u⟩:=dM.open u;refine dX Pz (C127 K p B bp nv rg pl es _ _ u.hb u.p3.eU u.p4.eI.1 (λ_ e=>V _ (u.aF.then e)) W.p bP) ?_;rintro v _ ⟨he,hv⟩;have u:=u.ext he
 rcases hv with⟨ej,rfl⟩|⟨x,a,b,xv,E,G,I,J,PC,rfl,Dg,WH⟩
 .refine aJ rfl (aJ rfl (aJ rfl (aJ rfl (aM u jy λb2 w3 u=>aH (x:=(⟨0,⟨#[]⟩,⟨#[]⟩,bZ,bZ,0,0,0,0⟩:aW)) u ep rfl rfl λw4 u=>bJ (gH ?_)))));rw[rJ Bd (Xx ej)];exact⟨rfl,(dM.shut Z u.drop).mut⟩
 obtain⟨ge,gf,rfl,_,_⟩:=kZ (Dg _ (V _ u.aF))
 have XF:∀w,K w->dy (λ_=>True) w (ia ge) x.e/\dy (λ_=>True) w (ia gf) x.f:=λw hw=>by
  obtain⟨_,_,h4,h5,h6⟩:=kZ (Dg w hw);cases h4
  exact⟨h5,h6⟩
 obtain⟨hx,sa,sb,aa,ab,FV,hb2,Vt,r,e,p',xy,sr,ar⟩:=W.top PC;have gn:(Bk.cons x a b r).str:=W.p.st _ (by rw[xy];exact oj ..);have hxe:=hx.e;have u:=u.p4.dH (Ψ:=λw=>yd K w es B.bN/\(nH K E I a.flat w/\nH K G J b.flat w)) (λw h=>⟨h.1,WH w h.1⟩);have u:=dM.shut (Φ:=λw=>nH K E I a.flat w/\nH K G J b.flat w) (t:=B) Z u.p4.p4.p4.p4;refine aJ rfl (aJ rfl (aJ rfl (aJ rfl (aM u jy λb2 w3 u=>aH (x:=(⟨x.kind,x.eQ,x.name,ge,gf,x.n,x.body,x.eH,x.at_⟩:aW)) u ep rfl rfl λw4 u=>bJ (et (aA kN (aB (v:=ia ge) lH u.hb rfl (aU E8 u.p1 (H':=λ_=>dM K (λw=>nH K E I a.flat w/\nH K G J b.flat w) p room {B with fault:=if (ey B x.e).2=true then B.fault else 2}) (Φ:=λv _=>v=.tuple #[hU (ey B x.e).1,.bool (ey B x.e).2]) (λO M U=>?_) ?_))))))))
 .exact C163 K _ p room B O _ x.e _ M (λw' hc=>V w' (U w' hc).aF) (XF _ (V _ u.aF)).1 bP bP
 rintro _ w5 rfl u;refine aJ rfl (aJ rfl (bJ (bD (λc1=>?_) λc1=>?_)))
 .have h1:(ey B x.e).2=false:=by simpa using c1
  rw[h1]at u;rw[rJ Bd (Xy PC h1)];exact⟨rfl,(dM.mono u.p1.drop λ_ _=>trivial).mut⟩
 have h1:(ey B x.e).2=true:=by simpa using c1
 replace u:St w F [dM K (λw=>nH K E I a.flat w/\nH K G J b.flat w) p room B,bM b2 (iW (⟨x.kind,x.eQ,x.name,ge,gf,x.n,x.body,x.eH,x.at_⟩:aW))] w5:=by rw[h1]at u;exact u
 refine aA qZ (aB (v:=ia gf) lH u.p1.hb rfl (aU E8 u (H':=λ_=>dM K (λw=>nH K E I a.flat w/\nH K G J b.flat w) p room {B with fault:=if (ey B x.f).2=true then B.fault else 2}) (Φ:=λv _=>v=.tuple #[hU (ey B x.f).1,.bool (ey B x.f).2]) (λO M U=>?_) ?_))
 .exact C163 K _ p room B O _ x.f _ M (λw' hc=>V w' (U w' hc).aF) (XF _ (V _ u.aF)).2 bP bP
 rintro _ w6 rfl u;refine aJ rfl (aJ rfl (bJ (bD (λc2=>?_) λc2=>?_)))
 .have h2:(ey B x.f).2=false:=by simpa using c2
  rw[h2]at u;rw[rJ Bd (Xz PC h2)];exact⟨rfl,(dM.mono u.p1.drop λ_ _=>trivial).mut⟩
 have h2:(ey B x.f).2=true:=by simpa using c2
 replace u:St w F [dM K (λw=>nH K E I a.flat w/\nH K G J b.flat w) p room B,bM b2 (iW (⟨x.kind,x.eQ,x.name,ge,gf,x.n,x.body,x.eH,x.at_⟩:aW))] w6:=by rw[h2]at u;exact u
 have Y:=XA PC h1 h2
 have Fa:∀(t2:jO) (w':World),mR B x a b (ey B x.e).1=(t2,true)->St w F [dM K (λw=>nH K E I a.flat w/\nH K G J b.flat w) p room t2,bM b2 (iW (⟨x.kind,x.eQ,x.name,ge,gf,x.n,x.body,x.eH,x.at_⟩:aW))] w'->∃m',m'<k+1/\∃B:jO,sL m' B=some tR/\wq cs ls B/\St w F [mT K p room B] w':=λt2 w' h3 h4=>by
  have h5:=Y.trans h3;obtain⟨h6,h7,_⟩:=CK W;rw[h5]at h6 h7;exact⟨k,Nz k,t2,Ts Bd h5,h6,dM.mono h4.p1.drop λ_ _=>trivial⟩
 refine aA fy (aB (v:=hU x.kind) bL u.p1.hb rfl (aG (aC (λk1=>?_) λk1=>?_)))
 .have hpm:=cY.1 (hx.rg (.inl k1));obtain⟨j,hj,FZ,_⟩:=pA hpm;have Mg:=(jq.1 FZ).1;obtain⟨bp,nv,rg,pl,es,Z,u⟩:=dM.open u;have u:=u.drew;refine aD (aA ux (aB ek u.hb rfl (aD (aA uw (aB lX u.hb rfl (aA kM (aB (v:=.string x.eQ) j3 u.p5.hb rfl (aR Bb u (C146 _ B.names x.eQ _ (Z _ (V _ u.aF)) bP) λ_ he u=>?_))))))));refine⟨aY ek (u.hb.cell rfl),?_⟩;refine ed u.p2 dz bP bP (λq51 h51=>kJ (ey B x.e).1 u.p2 bL h51 bP λ_ u=>have u:=dM.shut (Φ:=λw=>nH K E I a.flat w/\nH K G J b.flat w) (t:=pE B x.eQ (ey B x.e).1) Z u.p2.p2;aU E7 u (H':=λ_=>dM K (λw=>nH K E I a.flat w/\nH K G J b.flat w) p room {pE B x.eQ (ey B x.e).1 with bN:=gY (pE B x.eQ (ey B x.e).1).bN}) (Φ:=λ_ _=>True) (λO M U=>?_) ?_)
  .exact(C166 K _ p room (pE B x.eQ (ey B x.e).1) O x a b r e p' _ M (λw' hc=>V w' (U w' hc).aF) xy gn (by show B.bN.length<=_;omega)).mono λ_ _ r=>r.mono λ_ _ h=>⟨trivial,h.2⟩
  rintro _ _ _ u;exact Fa _ _ (Xw k1) u
 refine aG (aC (λk2=>?_) λk2=>?_)
 .refine aU E7 u (H':=λ_=>dM K (λw=>nH K E I a.flat w/\nH K G J b.flat w) p room {B with bN:=gY B.bN}) (Φ:=λ_ _=>True) (λO M U=>?_) ?_
  .exact(C166 K _ p room B O x a b r e p' _ M (λw' hc=>V w' (U w' hc).aF) xy gn bP).mono λ_ _ r=>r.mono λ_ _ h=>⟨trivial,h.2⟩
  rintro _ w10 _ u;refine⟨λjv w'=>jv=(if (ey B x.e).1=0 then ia G else ia E)/\w'=w10,?_,?_⟩
  .refine aG ?_;refine aC (λc=>⟨(fi c).symm,rfl⟩) (λc=>⟨(ez c).symm,rfl⟩)
  rintro _ _ ⟨rfl,rfl⟩ _
  have hpq:(gY B.bN).length<=100000:=by
   have:=yc W.p.pop;have:=Ho xy;omega
  have e1:(if (ey B x.e).1=0 then ia G else ia E)=ia (if (ey B x.e).1=0 then G else E):=by split<;>rfl
  rw[e1];refine aU E6 u (H':=λ_=>dM K (λw=>nH K E I a.flat w/\nH K G J b.flat w) p room { {B with bN:=gY B.bN}with bN:=jE (if (ey B x.e).1=0 then b else a) false ({B with bN:=gY B.bN}).bN}) (Φ:=λ_ _=>True) (λO M U=>?_) ?_
  .exact(C118 K _ p room ({B with bN:=gY B.bN}) O (if (ey B x.e).1=0 then G else E) (if (ey B x.e).1=0 then J else I) (if (ey B x.e).1=0 then b else a) false _ M (λw' hc=>V w' (U w' hc).aF) (λ_ h=>by split;exact h.2;exact h.1) hpq).mono λ_ _ r=>r.mono λ_ _ h=>⟨trivial,h.2⟩
  rintro _ _ _ u;exact Fa _ _ (Tt k2) u
 refine aG (aC (λk3=>?_) λk3=>?_)
 .refine aE ep u.p1.At (aU adj u (H':=λ_=>dM K (λw=>nH K E I a.flat w/\nH K G J b.flat w) p room {B with bN:=pX x a B.bN}) (Φ:=λ_ _=>True) (λO M U=>?_) ?_)
  .exact(C221 K _ p room B O x ⟨x.kind,x.eQ,x.name,ge,gf,x.n,x.body,x.eH,x.at_⟩ E I a b r e p' _ M (λw' hc=>V w' (U w' hc).aF) xy gn bP Dg (λ_ h=>h.1) (hx.n k3)).mono λ_ _ r=>r.mono λ_ _ h=>⟨trivial,h.2⟩
  rintro _ _ _ u;exact Fa _ _ (Tu k3) u
 refine aG (aC (λk4=>?_) λk4=>?_)
 .refine aU adk u (H':=λ_=>dM K (λw=>nH K E I a.flat w/\nH K G J b.flat w) p room {B with bN:=kY B.bN}) (Φ:=λ_ _=>True) (λO M U=>?_) ?_
  .exact(C222 K _ p room B O _ M (λw' hc=>V w' (U w' hc).aF) bP).mono λ_ _ r=>r.mono λ_ _ h=>⟨trivial,h.2⟩
  rintro _ _ _ u;exact Fa _ _ (Tv k4) u
 refine aG (aC (λk5=>?_) λk5=>?_)
 .refine aG (aC (λc=>?_) λc=>?_)
  .obtain⟨bp,nv,rg,pl,es,Z,u⟩:=dM.open u;refine aD (aA qU (aO u bL (dP rfl) rfl λ_ u=>?_));have u:=dM.shut (Φ:=λw=>nH K E I a.flat w/\nH K G J b.flat w) (t:={B with fault:=1}) Z u;rw[rJ Bd (Y.trans (Pw k5 c))];exact⟨rfl,(dM.mono u.p1.drop λ_ _=>trivial).mut⟩
  refine aU E7 u (H':=λ_=>dM K (λw=>nH K E I a.flat w/\nH K G J b.flat w) p room {B with bN:=gY B.bN}) (Φ:=λ_ _=>True) (λO M U=>?_) ?_
  .exact(C166 K _ p room B O x a b r e p' _ M (λw' hc=>V w' (U w' hc).aF) xy gn bP).mono λ_ _ r=>r.mono λ_ _ h=>⟨trivial,h.2⟩
  rintro _ _ _ u;exact Fa _ _ (Px k5 c) u
 rw[rJ Bd (Y.trans (Tw k1 k2 k3 k4 k5))];exact⟨rfl,(dM.mono u.p1.drop λ_ _=>trivial).mut⟩
variable (w:World) (K:Value->hM)
def P68:dI:=λi=>match i with
 | 8=>(.of [(0,[]),(1,[]),(2,[]),(3,[]),(4,[]),(5,[]),(6,[]),(7,[]),(8,[]),(9,[]),(10,[]),(11,[]),(12,[]),(13,[]),(14,[7]),(15,[]),(16,[]),(17,[]),(18,[]),(19,[])])
 | _=>.nil
def S22(J:Value):Prop:=
 nC J λa=>fA 105 a 8 λb=>lA 3 b w λc=>bB .neq 3 c (i 0) λd=>cV d (K (.slice none 0 0) w) (nC J λe=>fA 105 e 6 λf=>lA 103 f w λg=>lN 103 g λh=>nX (λG M j k=>∀_:Env,
 bA .lss 3 j h λl=>cV l (iA 103 g j λn=>lA 128 n k λo=>eo (λU=>cF 68 [J,o] k λp q=>cV p (dW hH (l1 67 [(0,(i 1)),(1,j)].toArray) λr=>
 bS 58 1 [(0,r)] q λs t=>aP 58 M s t λu v=>U u v) (U M q)) (λOj x=>∀_:Env,
 nC o λy=>fA 131 y 0 λz=>lA 98 z x λY=>cF 69 [Y] x λO ac=>lN 22 O λad=>nX (λB V I E=>∀_:Env,
 bA .lss 3 I ad λag=>cV ag (iA 22 O I λW=>lA 3 W E λai=>dW hH (l1 67 [(0,(i 2)),(1,j),(2,ai)].toArray) λaj=>bS 58 1 [(0,aj)] E λak al=>
 aP 58 V ak al λam Z=>bB .add 3 I (i 1) λao=>B am ao Z) (bB .add 3 j (i 1) λap=>G V ap E)) λB=>B Oj (i 0) ac)) (K M k)) λG=>G (.slice none 0 0) (i 0) w)
theorem XG(u:Value)(h:S22 w K u):CR 22 [u] w K:=
 lE 50 (λ_=>.nil) 4 [.tmp 2] Tryz.func22 h
def S162(s0 B a E:Value):Prop:=
 lW hH (pQ 220 a) w λb c=>aL 72 c λd e=>nC B λf=>fA 131 f 0 λg=>lA 98 g e λh=>cF 259 [h,E] e λj k=>xT j 0 λl=>xT j 1 λn=>ME (λJ=>
 dW hH (Op.unary .not n) λo=>cV o (nC s0 λp=>fA 105 p 4 λq=>lA 102 q k λs=>cF 260 [s,E] k λt u=>xT t 0 λv=>xT t 1 λ_=>J v (i 1) u) (J l (i 2) k))
 (λM Z x=>∀_:Env,
 nC B λy=>fA 131 y 2 λz=>lA 22 z (drew x) λI=>nC B λO=>fA 131 O 1 λY=>lA 86 Y (drew x) λad=>fA 220 b 1 λae=>lA 9 ae (drew x) λV=>cF 146 [ad,V] (drew x) λU G=>
 kA 22 z I G (iA 22 I U λai=>sA 3 ai M G λaj=>dW hH (l1 72 [(0,Z),(2,E),(3,M)].toArray) λW=>sA 72 d W aj λal=>lA 72 d al λr=>
 K r al))
def ai3:dI:=λi=>match i with
 | 6=>(.of [(0,[]),(1,[]),(2,[]),(3,[]),(4,[]),(5,[]),(6,[]),(7,[]),(8,[]),(9,[]),(11,[]),(10,[3]),(12,[]),(13,[])])
 | _=>.nil
theorem TB(u B E G:Value)(h:S162 w K u B E G):CR 162 [u,B,E,G] w K:=
 lE 49 ai3 256 [.cell 8 72] Tryz.func162 h
def S165(W B a E:Value):Prop:=
 lW hH (pQ 220 a) w λb c=>aL 72 c λd e=>nC W λf=>fA 105 f 4 λg=>lA 102 g e λh=>cF 260 [h,E] e λj k=>xT j 0 λl=>xT j 1 λ_=>fA 220 b 3 λn=>
 lA 92 n k λo=>cF 163 [B,o] k λp q=>xT p 0 λs=>xT p 1 λ_=>fA 220 b 4 λt=>lA 92 t q λu=>cF 163 [B,u] q λv x=>xT v 0 λy=>xT v 1 λ_=>nC B λz=>
 fA 131 z 2 λM=>lA 22 M (drew x) λJ=>nC B λac=>fA 131 ac 1 λad=>lA 86 ad (drew x) λae=>fA 220 b 1 λaf=>lA 9 af (drew x) λag=>cF 146 [ae,ag] (drew x) λY V=>
 kA 22 M J V (iA 22 J Y λaj=>sA 3 aj l V λI=>bA .neq 3 l s λal=>cV al (dW hH (l1 72 [(0,(i 9)),(2,E),(3,l)].toArray) λam=>sA 72 d am I λO=>
 lA 72 d O λr=>K r O) (nC W λao=>fA 105 ao 4 λap=>lA 102 ap I λZ=>cF 159 [Z,E,y] I λ_ ar=>dW hH (l1 72 [(0,(i 8)),(2,E),(3,l),(4,y)].toArray) λG=>
 sA 72 d G ar λU=>lA 72 d U λKv=>K Kv U))
def ai4:dI:=λi=>match i with
 | 4=>(.of [(0,[]),(1,[]),(2,[]),(3,[]),(4,[]),(5,[]),(6,[]),(7,[]),(8,[]),(9,[]),(11,[]),(10,[3]),(12,[]),(13,[])])
 | _=>.nil
theorem TC(u B E G:Value)(h:S165 w K u B E G):CR 165 [u,B,E,G] w K:=
 lE 68 ai4 256 [.cell 8 72] Tryz.func165 h
def S86(I O:Value):Prop:=
 aL 72 w λa b=>nC I λc=>fA 105 c 6 λd=>lA 103 d b λe=>iA 103 e O λf=>lA 128 f b λg=>nC g λh=>fA 131 h 4 λj=>lA 3 j b λk=>bB .neq 3 k (i 0) λl=>
 cV l (nC g λn=>fA 131 n 4 λo=>lA 3 o b λp=>cF 161 [I,O,p] b λq s=>sA 72 a q s λt=>lA 72 a t λr=>K r t) (cF 127 [g] b λu v=>xT u 0 λx=>xT u 1 λ_=>
 xT u 2 λ_=>xT u 3 λ_=>aL 220 v λy z=>sA 220 y x z λU=>nC I λab=>fA 105 ab 1 λac=>lA 86 ac (drew U) λad=>fA 220 y 2 λae=>lA 9 ae (drew U) λaf=>
 nC I λag=>fA 105 ag 2 λY=>lA 86 Y (drew U) λai=>fA 220 y 2 λaj=>lA 9 aj (drew U) λak=>cF 146 [ad,af] (drew U) λal W=>kA 86 Y ai W (kA 9 aj ak W (
 cF 146 [ai,ak] W λV ao=>nC I λap=>fA 105 ap 0 λaq=>lA 36 aq ao λar=>cF 53 [ar,al] ao λE au=>aL 72 au λG B=>wL (λJ=>fA 220 y 0 λaw=>lA 3 aw B λM=>
 bB .eql 3 M (i 2) λay=>cV ay (lA 220 y B λaz=>cF 162 [I,g,az,al] B λa0 a1=>sA 72 G a0 a1 λa2=>J a2) (bB .eql 3 M (i 3) λa3=>cV a3 (fA 220 y 3 λa4=>
 lA 92 a4 B λa5=>cF 163 [g,a5] B λa6 a7=>xT a6 0 λZ=>xT a6 1 λ_=>nC g λa9=>fA 131 a9 0 λba=>lA 98 ba a7 λbb=>dW hH (l1 262 [(0,(i 3)),(1,E),(2,al),(3,Z)].toArray) λbc=>
 cF 164 [bb,bc] a7 λ_ bd=>dW hH (l1 72 [(0,(i 3)),(2,al),(3,Z)].toArray) λbe=>sA 72 G be bd λbf=>J bf) (bB .eql 3 M (i 5) λbg=>cV bg (nC g λbh=>
 fA 131 bh 0 λbi=>lA 98 bi B λbj=>dW hH (l1 262 [(0,(i 5)),(1,E)].toArray) λbk=>cF 164 [bj,bk] B λ_ bl=>dW hH (l1 72 [(0,(i 4)),(2,E)].toArray) λbm=>
 sA 72 G bm bl λbn=>J bn) (bB .eql 3 M (i 6) λbo=>cV bo (nC g λbp=>fA 131 bp 0 λbq=>lA 98 bq B λbr=>dW hH (l1 262 [(0,(i 6)),(1,E)].toArray) λbs=>
 cF 164 [br,bs] B λ_ bt=>dW hH (l1 72 [(0,(i 5)),(2,E)].toArray) λbu=>sA 72 G bu bt λbv=>J bv) (bB .eql 3 M (i 7) λbw=>cV bw (nC g λbx=>
 fA 131 bx 0 λbz=>lA 98 bz B λb0=>dW hH (l1 262 [(0,(i 7))].toArray) λb1=>cF 164 [b0,b1] B λ_ b2=>dW hH (l1 72 [(0,(i 6))].toArray) λb3=>
 sA 72 G b3 b2 λb4=>J b4) (bB .eql 3 M (i 8) λb5=>cV b5 (dW hH (l1 72 [(0,(i 7))].toArray) λb6=>sA 72 G b6 B λb7=>J b7) (bB .eql 3 M (i 4) λb8=>
 cV b8 (lA 220 y B λb9=>cF 165 [I,g,b9,al] B λca cb=>sA 72 G ca cb λcc=>J cc) (bB .eql 3 M (i 9) λcd=>cV cd (nC I λce=>fA 105 ce 5 λcf=>lA 22 cf B λcg=>
 iA 22 cg V λch=>sA 3 ch O B λci=>dW hH (l1 72 [(0,(i 10)),(2,V)].toArray) λcj=>sA 72 G cj ci λck=>J ck) (nC I λcl=>fA 105 cl 5 λcm=>
 lA 22 cm B λcn=>iA 22 cn V λco=>lA 3 co B λcp=>bA .neq 3 cp O λcq=>cV cq (cF 161 [I,O,(i 3)] B λcr cs=>sA 72 a cr cs λct=>lA 72 a ct λKv=>K Kv ct) (
 nC I λcu=>fA 105 cu 5 λcv=>lA 22 cv B λcw=>iA 22 cw V λcx=>sA 3 cx (i (-1)) B λcy=>dW hH (l1 72 [(0,(i 11)),(2,V)].toArray) λcz=>sA 72 G cz cy λc0=>
 J c0)))))))))) (λc1=>∀_:Env,
 fA 72 G 1 λc2=>sA 3 c2 O c1 λc3=>cF 166 [g] c3 λ_ c4=>cF 119 [g] c4 λ_ c5=>lA 72 G c5 λc6=>sA 72 a c6 c5 λc7=>lA 72 a c7 λWj=>K Wj c7))))
def P86:dI:=λi=>match i with
 | 5=>(.of [(0,[]),(1,[]),(2,[]),(3,[]),(4,[]),(5,[]),(7,[]),(8,[]),(9,[]),(10,[]),(11,[]),(12,[]),(6,[10,12]),(13,[]),(14,[]),(15,[])])
 | _=>.nil
theorem XI(u B:Value)(h:S86 w K u B):CR 86 [u,B] w K:=
 lE 171 P86 16 [.cell 4 72] Tryz.func86 h
def P85:dI:=λi=>match i with
 | 1=>(.op 0 [] (.op 1 [] (.op 2 [] (.op 3 [] (.op 4 [] (.op 5 [] (.op 6 [] (.op 7 [] (.op 8 [] (.op 9 [] (.op 10 [] (.op 11 [] (.op 12 [] (.alt 13 [] (.of [(14,[]),(15,[]),(16,[]),(17,[3,5,7,10,12]),(18,[]),(19,[])]) (.alt 17 [3,5,7,10,12] (.of [(13,[]),(14,[]),(15,[]),(16,[]),(18,[]),(19,[])]) .stop)))))))))))))))
 | 4=>.run 0 9
 | 8=>.run 0 7
 | _=>.nil
def P57:dI:=λi=>match i with
 | 9=>(.of [(0,[]),(1,[]),(2,[]),(3,[]),(4,[]),(5,[]),(6,[2]),(7,[]),(8,[]),(9,[])])
 | _=>.nil
def P37:dI:=λi=>match i with
 | 1=>.run 0 30
 | _=>.nil
def P21:dI:=λi=>match i with
 | 2=>(.of [(0,[]),(1,[]),(2,[]),(3,[]),(4,[]),(5,[]),(6,[]),(7,[]),(8,[]),(9,[]),(10,[]),(11,[]),(12,[]),(13,[3,7,11]),(14,[])])
 | _=>.nil
def S32(B:Value):Prop:=
 nC B λa=>fA 105 a 0 λb=>lA 36 b w λc=>cF 55 [c] w λd e=>nC B λf=>fA 105 f 0 λg=>fA 36 g 5 λh=>lA 34 h e λj=>lN 34 j λk=>nX (λI J l n=>∀_:Env,
 bA .lss 3 l k λo=>cV o (eo (λU=>iA 34 j l λp=>lA 95 p n λq=>aL 95 n λM r=>sA 95 M q r λs=>fA 95 M 0 λt=>lA 92 t (drew s) λu=>nC B λv=>fA 105 v 1 λx=>
 lA 86 x (drew s) λy=>dW hH (mA 86 y none (some d) none) λz=>cF 27 [B] (drew s) λY E=>kA 92 t u E (kA 86 x y E (dW hH (mA 22 Y none (some d) none) λac=>
 cF 78 [u,z,ac] E λV O=>xT V 0 λaf=>xT V 1 λag=>bB .eql 40 ag (i 0) λW=>cV W (bB .neq 3 af (i 0) λai=>bS 64 1 [(0,ai)] O λaj ak=>aP 64 J aj ak λal am=>
 U al am) (bS 64 1 [(0,ff)] O λan ao=>aP 64 J an ao λap Z=>U ap Z)))) (λXK ar=>∀_:Env,
 bB .add 3 l (i 1) λG=>I XK G ar)) (K J n)) (λI=>I (.slice none 0 0) (i 0) e)
def P32:dI:=λi=>match i with
 | 6=>(.of [(0,[]),(1,[]),(2,[]),(3,[]),(4,[]),(5,[]),(6,[]),(7,[]),(8,[]),(10,[]),(9,[1,5]),(11,[]),(12,[]),(13,[]),(14,[]),(15,[]),(16,[]),(17,[])])
 | _=>.nil
theorem XL(u:Value)(h:S32 w K u):CR 32 [u] w K:=
 lE 51 P32 4 [.tmp 2] Tryz.func32 h
def S17(p0 O:Value):Prop:=
 lW hH (pQ 36 p0) w λp2 a=>lA 36 p2 a λb=>cF 49 [b] a λc d=>xT c 0 λe=>xT c 1 λ_=>bB .neq 40 e (i 0) λf=>cV f (K (.tuple #[(.pointer none),e]) d) (
 cF 50 [O] d λg h=>xT g 0 λ_=>xT g 1 λj=>bB .neq 40 j (i 0) λk=>cV k (K (.tuple #[(.pointer none),j]) h) (lA 36 p2 (drew h) λl=>lA 36 p2 (drew h) λn=>lA 36 p2 (drew h) λo=>
 cF 51 [n] (drew h) λp q=>kA 36 p2 l q (kA 36 p2 o q (cF 52 [o] q λr s=>kA 36 p2 l s (dW hH (l1 105 [(0,l),(1,p),(2,r),(3,O)].toArray) λt=>lW hH (pQ 105 t) s λu v=>
 nC u λx=>fA 105 x 1 λy=>lA 86 y v λz=>lN 86 z λZ=>nX (λJ G I E=>∀_:Env,
 bA .lss 3 I Z λad=>cV ad (lA 36 p2 E λae=>cF 53 [ae,I] E λaf ag=>bS 22 1 [(0,af)] ag λW ai=>aP 22 G W ai λaj ak=>bB .add 3 I (i 1) λal=>J aj al ak) (
 lA 36 p2 (drew E) λam=>lA 36 p2 (drew E) λM=>cF 55 [am] (drew E) λao V=>kA 36 p2 M V (cF 56 [M] V λaq ar=>cF 54 [G,ao,aq] ar λB au=>xT B 0 λav=>
 xT B 1 λ_=>nC u λaw=>fA 105 aw 4 λax=>sA 102 ax av au λU=>fA 36 p2 3 λaz=>lA 33 az U λY=>cF 57 [u,Y] U λ_ a1=>K (.tuple #[u,(i 0)]) a1))) λJ=>J (.slice none 0 0) (i 0) v)))))
def P17:dI:=λi=>match i with
 | 7=>(.of [(0,[]),(1,[]),(3,[]),(5,[]),(2,[0,3]),(4,[0]),(6,[]),(7,[]),(8,[])])
 | 14=>(.of [(0,[]),(1,[]),(2,[]),(4,[]),(3,[4]),(5,[]),(6,[]),(7,[]),(8,[]),(9,[]),(10,[]),(11,[]),(12,[])])
 | _=>.nil
theorem XM(p0 u:Value)(h:S17 w K p0 u):CR 17 [p0,u] w K:=
 lE 69 P17 48 [.tmp 4,.tmp 5] Tryz.func17 h
def S82(B:Value):Prop:=
 lN 22 B λa=>nX (λu E b c=>∀_:Env,
 bA .lss 3 b a λd=>cV d (iA 22 B b λe=>lA 3 e c λf=>bB .mul 3 E (i 10000) λg=>bA .add 3 g f λh=>bB .add 3 b (i 1) λj=>u h j c) (K E c)) (λu=>u (i 0) (i 0) w)
theorem XN(u:Value)(h:S82 w K u):CR 82 [u] w K:=
 lE 18 (λ_=>.nil) 4 [.tmp 2] Tryz.func82 h
theorem ai5:PL 68:=dF Tryz.func68
theorem ads:PL 22:=dF Tryz.func22
theorem VT:PL 161:=dF Tryz.func161
theorem adt:PL 162:=dF Tryz.func162
theorem adu:PL 165:=dF Tryz.func165
theorem ai6:PL 86:=dF Tryz.func86
theorem ai7:PL 85:=dF Tryz.func85
theorem adv:PL 57:=dF Tryz.func57
theorem ai8:PL 37:=dF Tryz.func37
theorem ai9:PL 83:=dF Tryz.func83
theorem adw:PL 21:=dF Tryz.func21
theorem aja:PL 65:=dF Tryz.func65
theorem XO:PL 27:=dF Tryz.func27
theorem ajb:PL 32:=dF Tryz.func32
theorem ajc:PL 17:=dF Tryz.func17
theorem ajd:PL 82:=dF Tryz.func82
theorem aje:PL 67:=dF Tryz.func67
theorem adx:PL 144:=dF Tryz.func144
end Go.Proofs.YtdncbeepkacgbaaGreatDoor
namespace Go.Proofs.YtdncbeepkacgbaaGreatDoor
open Go.Fw
def zG(W:Option Addr)(adz J:Nat)(adB:Option Addr)(M E:Nat)(Y:Option Addr)(Z G:Nat)(I:Option Addr)(O adJ:Nat)(V:Option Addr)(U u:Nat)(adN:Option Addr)(B adP:Nat)(a1:Option Addr)(n1 c1:Nat)(a2:Option Addr)(n2 c2:Nat)(a3:Int):pr hH (l1 105 [(0,.agg [.slice W adz J,.slice adB M E,.slice Y Z G,.slice I O adJ,.slice V U u,.slice adN B adP].toArray),(1,.slice a1 n1 c1),(2,.slice a2 n2 c2),(3,hU a3)].toArray)=some (.agg [.slice W adz J,.slice adB M E,.slice Y Z G,.slice I O adJ,.slice V U u,.slice adN B adP,.slice a1 n1 c1,.slice a2 n2 c2,hU a3,.pointer none,.slice none 0 0,.slice none 0 0,hU 0,hU 0,hU 0].toArray):=by kernel_rfl
def CO(I:Option Addr)(J:Option Addr)(B E:Nat)(u:Option Addr)(M G:Nat):pr hH (l1 131 [(0,.pointer I),(1,.slice J B E),(2,.slice u M G)].toArray)=some (.agg [.pointer I,.slice J B E,.slice u M G,.slice none 0 0,hU 0].toArray):=by kernel_rfl
def zH(G:Int)(B:Int)(E:Int)(u:Int):pr hH (l1 262 [(0,hU G),(1,hU B),(2,hU E),(3,hU u)].toArray)=some (.agg [hU G,hU B,hU E,hU u].toArray):=by kernel_rfl
structure iG where
 p:bQ
 room:Int
 mem:Mem
 fe:List Int
 l:List jO
 cL:Int
 fault:Int
 ld:Int
structure DA where
 pv:cA
 cv:SV
 kv:SV
 q:Nat
 ov:Value
 fv:Value
 ow:Value
 ll:Value
 ps:List Ptr
@[reducible] def mw(a:DA)(s:iG):List Value:=[ia a.pv.lines,ia a.pv.iN,ia a.pv.eX,ia a.pv.threads,ia a.pv.recover,ia a.pv.ef,ia a.cv,ia a.kv,.int .i64 s.room,.pointer (some ⟨a.q,0,none⟩),a.ow,a.ll,.int .i64 s.cL,.int .i64 s.fault,.int .i64 s.ld]
def ThK(K:hM)(E:bU)(t:bW):Prop:=∃(u B:SV) (rows:List aW),E=⟨t.name,u,B,t.at_⟩/\(∀w,K w->dy (λ_=>True) w (ia u) t.dJ)/\∀w,nH K B rows t.body w
def Fb(K:hM)(u:List bU)(so:List bW):Prop:=u.length=so.length/\∀(j:Nat) (B:bU) (t:bW),u[j]?=some B->so[j]?=some t->ThK K B t
structure XP(K:hM)(a:DA)(s:iG):Prop where
 pr:∀w,K w->l2 w a.pv s.p
 cs:∀w,K w->dy (λ_=>True) w (ia a.cv) (cX s.p)
 ks:∀w,K w->dy (λ_=>True) w (ia a.kv) (cS s.p)
 mem:∀w,K w->vd a.ov a.fv s.mem w
 rc:∃vy,(∀w,K w->dy (λ_=>True) w (ia a.pv.recover) vy)/\Fb K vy s.p.recover
abbrev sM(K:hM)(room:Int)(s:Ptr)(t:jO):HP:=mT K s.b room t
def fk(K:hM)(p:Nat)(m:iG):HP:=oW λa:DA=>fact (XP K a m) (sep (bM p (mw a m)) (sep (fD a.q a.ov a.fv m.mem) (sep (bH a.ow m.fe) (sep (bH a.ll a.ps) (gp (sM K m.room) a.ps m.l)))))
def jB(K:hM)(p:Nat)(m:iG)(i:Nat)(tp:Ptr):HP:=oW λa:DA=>fact (XP K a m/\a.ps[i]?=some tp/\a.ps.length=m.l.length/\i<m.l.length) (sep (bM p (mw a m)) (sep (fD a.q a.ov a.fv m.mem) (sep (bH a.ow m.fe) (sep (bH a.ll a.ps) (mH (sM K m.room) a.ps m.l i)))))
section
variable {w w' w0:World}{A:Nat->Prop}{R:List HP}{p:Nat}{K:hM}{m:iG}{a:DA}{i:Nat}{tp:Ptr}{t:jO}
theorem fk.open(u:St w0 A (fk K p m::R) w):∃a,XP K a m/\St w0 A (bM p (mw a m)::fD a.q a.ov a.fv m.mem::bH a.ow m.fe::bH a.ll a.ps::gp (sM K m.room) a.ps m.l::R) w:=by
 obtain⟨a,u⟩:=u.dS;obtain⟨B,u⟩:=u.lr;exact⟨a,B,tD u⟩
theorem fk.shut(u:XP K a m)(B:St w0 A (bM p (mw a m)::fD a.q a.ov a.fv m.mem::bH a.ow m.fe::bH a.ll a.ps::gp (sM K m.room) a.ps m.l::R) w):St w0 A (fk K p m::R) w:=
 St.dO a (St.mE u (tG B))
theorem jB.open(u:St w0 A (jB K p m i tp::R) w):∃a,(XP K a m/\a.ps[i]?=some tp/\a.ps.length=m.l.length/\i<m.l.length)/\St w0 A (bM p (mw a m)::fD a.q a.ov a.fv m.mem::bH a.ow m.fe::bH a.ll a.ps::mH (sM K m.room) a.ps m.l i::R) w:=by
 obtain⟨a,u⟩:=u.dS;obtain⟨B,u⟩:=u.lr;exact⟨a,B,tD u⟩
theorem jB.shut(u:XP K a m/\a.ps[i]?=some tp/\a.ps.length=m.l.length/\i<m.l.length)(B:St w0 A (bM p (mw a m)::fD a.q a.ov a.fv m.mem::bH a.ow m.fe::bH a.ll a.ps::mH (sM K m.room) a.ps m.l i::R) w):St w0 A (jB K p m i tp::R) w:=
 St.dO a (St.mE u (tG B))
structure adQ(K:hM)(w:World)(p:Nat)(m:iG)(a:DA):Prop where
 uk:XP K a m
 b:nZ w p (mw a m)
 mem:sK w a.q m.mem
 ow:dy (λ_=>True) w a.ow m.fe
 ll:dy (λ_=>True) w a.ll a.ps
 th:∀(i:Nat) (s:Ptr) (t:jO),a.ps[i]?=some s->m.l[i]?=some t->Has (mT K s.b m.room t) w
 len:a.ps.length=m.l.length
theorem fk.rd(h:Has (fk K p m) w)(E:K w):∃a,adQ K w p m a:=by
 obtain⟨F,u⟩:=h.st
 obtain⟨a,B,u⟩:=fk.open u
 exact⟨a,B,u.hb,CI u.p1 (B.mem _ E),u.p2.eU,u.p3.eU,λi s t h1 h2=>u.p4.abk h1 h2 (Φ:=λw=>Has (mT K s.b m.room t) w) λh=>⟨_,h⟩,u.p4.jl⟩
theorem PK{ps:List Ptr}(B:St w0 A (gp (sM K m.room) ps m.l::R) w)(u:ps[i]?=some tp)(ht:m.l[i]?=some t):St w0 A (mT K tp.b m.room t::mH (sM K m.room) ps m.l i::R) w:=B.focus u ht
theorem rL(B:St w0 A (mT K tp.b m.room t::jB K p m i tp::R) w):St w0 A (fk K p {m with l:=m.l.set i t}::R) w:=by
 obtain⟨a,⟨u,G,E,hi⟩,B⟩:=jB.open B.p1
 have h1:St w0 A (sM K m.room tp t::mH (sM K m.room) a.ps m.l i::_) w:=B.p4.p5
 have h2:=h1.IS hi E G
 have h3:=h2.p4.p4.p4.p4
 exact fk.shut (m:={m with l:=m.l.set i t}) ⟨u.pr,u.cs,u.ks,u.mem,u.rc⟩ h3
end
def xK(m:iG)(t:jO):Bool:=match qK t.bN with
 | none=>false
 | some (x,_,_)=>if t.fault≠0\/x.kind=2 then true else if x.kind=3\/x.kind=5\/x.kind=6\/x.kind=7 then !decide (m.room<=t.buf.length)
  else if x.kind=9/\m.fe.getD (cT (cS m.p) x.name).toNat 0≠-1 then false else decide (t.buf.length=0)
def ox(m:iG)(i:Nat)(t:jO):List aT:=(if xK m t=true then [⟨1,i,0,[]⟩]else [])++(qw t.buf).map λk=>⟨2,i,k,[]⟩
def gE(m:iG)(k:Nat):List aT:=(tr k).flatMap λi=>match m.l[i]? with|some t=>ox m i t|none=>[]
def kh(m:iG):List aT:=if m.fault≠0 then []else gE m m.l.length
theorem sZ{m:iG}{k:Nat}{t:jO}(h:m.l[k]?=some t):gE m (k+1)=gE m k++ox m k t:=by
 unfold gE;rw[Dy,Ff];simp[h]
def PM(t:jO):Prop:=t.fault=0->∀x a b,qK t.bN=some (x,a,b)->(2<=x.kind/\x.kind<=10)/\(ey t x.e).2=true/\(ey t x.f).2=true
structure nV(m:iG):Prop where
 mem:yb m.mem
 th:∀t∈m.l,wq (cX m.p) (cS m.p) t
 tl:m.l.length<=1000
 ow:m.fe.length=(cS m.p).length
 rm:1<=m.room/\m.room<=16
 st:∀t∈m.l,PM t
 pz:PZ m.p
def zI(l:List bG):(qw l).length<=l.length:=by grind[qw]
def Fc(m:iG)(i:Nat)(t:jO):(ox m i t).length<=1+t.buf.length:=by
 have:=zI t.buf
 unfold ox;grind
theorem pZ{m:iG}(h:nV m):∀k,(gE m k).length<=k*1001
 | 0=>by simp[gE]
 | k+1=>by
  have u:=pZ h k
  cases ht:m.l[k]? with
  | none=>
   have e:gE m (k+1)=gE m k:=by unfold gE;rw[Dy,Ff];simp[ht]
   grind
  | some t=>
   rw[sZ ht,kC]
   have:=Fc m k t
   have:=(h.th t (l0 ht)).bl
   omega
def Ht{m:iG}(h:nV m):(kh m).length<=1001000:=by
 unfold kh;split
 .simp
 exact xE (pZ h _) (Nat.mul_le_mul_right 1001 h.tl)
def lL(m:iG)(t:jO)(c:Int):Int:=if (nA t.buf c).isSome=true then(nA t.buf c).getD 0 else lz m.mem c
def gq(m:iG)(x:bE):Int:=cT (cX m.p) x.name
def gZ(m:iG)(x:bE):Int:=cT (cS m.p) x.name
def iD(m:iG)(x:bE):Int:=pq m.p (gq m x)
def tH(m:iG)(t:jO)(y:bG):jO:={t with buf:=sI m.room t.buf y}
def CP(m:iG)(t:jO)(x:bE):cQ:=⟨if (nA t.buf (gq m x)).isSome=true then 2 else 1,0,gq m x,lL m t (gq m x),0⟩
def rM(m:iG)(t:jO)(x:bE):iG:=if lz m.mem (gq m x)=(ey t x.e).1 then {m with mem:=fG m.mem (gq m x) (ey t x.f).1}else m
def vh(m:iG)(t:jO)(x:bE):cQ:=if lz m.mem (gq m x)=(ey t x.e).1 then⟨8,0,gq m x,lz m.mem (gq m x),(ey t x.f).1⟩else⟨9,0,gq m x,lz m.mem (gq m x),0⟩
def qz(m:iG)(x:bE)(i:Int):iG:={m with fe:=m.fe.set (gZ m x).toNat i}
def eD(m:iG)(t:jO)(i:Int)(x:bE):iG×jO×cQ:=
 if x.kind=2 then(m,pE t x.eQ (lL m t (gq m x)),CP m t x)
 else if x.kind=3 then(m,tH m t ⟨3,iD m x,gq m x,(ey t x.e).1⟩,⟨3,0,gq m x,(ey t x.e).1,0⟩)
 else if x.kind=5 then(m,tH m t ⟨5,iD m x,0,0⟩,⟨4,0,iD m x,0,0⟩)
 else if x.kind=6 then(m,tH m t ⟨6,iD m x,0,0⟩,⟨5,0,iD m x,0,0⟩)
 else if x.kind=7 then(m,tH m t ⟨7,0,0,0⟩,⟨6,0,0,0,0⟩)
 else if x.kind=8 then(m,t,⟨7,0,0,0,0⟩)
 else if x.kind=4 then(rM m t x,pE t x.eQ (lz m.mem (gq m x)),vh m t x)
 else if x.kind=9 then(qz m x i,t,⟨10,0,gZ m x,0,0⟩)
 else(qz m x (-1),t,⟨11,0,gZ m x,0,0⟩)
def tI(m:iG)(t:jO)(i:Int)(x:bE):jO:=Xv { (eD m t i x).2.1 with bN:=gY (eD m t i x).2.1.bN}
def jb(m:iG)(i:Int):iG×cQ:=match m.l[i.toNat]? with
 | none=>(m,⟨0,0,0,0,0⟩)
 | some t=>if t.fault≠0 then({m with fault:=t.fault,ld:=i},⟨16,i,t.fault,0,0⟩)else match qK t.bN with
  | none=>(m,⟨0,0,0,0,0⟩)
  | some (x,_,_)=>if x.kind=10/\m.fe.getD (gZ m x).toNat 0≠i then({m with fault:=3,ld:=i},⟨16,i,3,0,0⟩)
   else({ (eD m t i x).1 with l:=m.l.set i.toNat (tI m t i x)},{ (eD m t i x).2.2 with t:=i})
def xL(m:iG)(t:jO)(q:aT):iG:={m with mem:=kf m.mem (ei t.buf q.i),l:=m.l.set q.t.toNat {t with buf:=kz t.buf q.i}}
def TD(l:List bE):Bk:=(nU l).getD .nil
def Aq(t:bW):jO:=⟨t.dJ,oJ t.dJ.length 0,jE (TD t.body) false [],0,[]⟩
def ZW(t:bW):jO:=Xv (Aq t)
def tJ(m:iG)(l:List bW):iG:={m with fe:=oJ (cS m.p).length (-1),l:=l.map ZW}
def lf(m:iG)(q:aT):Option (List Int):=if q.kind=3/\q.t=0/\q.i=0/\m.fault=0 then gD m.mem q.cut else none
def sq(m:iG)(u:List Int):iG:={m with mem:=nB m.mem u,cL:=m.cL+1}
def wv(m:iG):List bW:=if m.p.recover.length=0 then [⟨⟨#[]⟩,[],[],0⟩]else m.p.recover
def vi(m:iG)(q:aT):iG×cQ×Int:=match lf m q with
 | some u=>(tJ (sq m u) (wv m),⟨15,0,0,vf q.cut q.cut.length,0⟩,0)
 | none=>if (kh m).any (qy q)=true then
   (if q.kind=2 then(match m.l[q.t.toNat]? with|some t=>(xL m t q,zB q.t (ei t.buf q.i),0)|none=>(m,⟨0,0,0,0,0⟩,13))else((jb m q.t).1,(jb m q.t).2,0))
  else(m,⟨0,0,0,0,0⟩,13)
def tK(t:jO):Bool:=decide (t.bN.length=0)&&decide (t.buf.length=0)
def lB(m:iG):Bool:=decide (m.fault=0)&&!(tr m.l.length).any λi=>match m.l[i]? with|some t=>!tK t|none=>false
def nI(m:iG):Bool:=decide (m.fault=0)&&(!lB m&&decide (((kh m).length:Int)=0))
def mU(m:iG):jz:=⟨m.cL,m.fault,m.ld,lB m,nI m⟩
def su(m:iG)(c:gI):Bool:=decide ((vX (fT m.p) (m.mem.l.take (ee m.p).toNat) c.e).2=0)&&decide ((vX (fT m.p) (m.mem.l.take (ee m.p).toNat) c.e).1≠0)
def lU(m:iG):List Bool:=m.p.ef.map (su m)
def ye(p:bQ):List Int:=(tr (cX p).length).map fun (i:Nat)=>pq p (i:Int)
def zJ(p:bQ)(room:Int):iG:=⟨p,room,Pt (ye p) (ee p) (fQ p),[],[],0,0,0⟩
def je(p:bQ)(room:Int):iG:=tJ (zJ p room) p.threads
def C66(K Φ:hM)(p:Nat)(room:Int)(t:jO)(w:World)(G:Has (dM K Φ p room t) w)(O:t.buf.length<=1000):CR 66 [.pointer (some ⟨p,0,none⟩)] w (λv w'=>v=.bool (decide (t.buf.length=0))/\Ext w w'):=by
 obtain⟨J,M,rg,pl,es,Y,E,I,W,V,U,_⟩:=dM.rd G;have B:=E.cell (o:=0) rfl;have u:=St.start w;refine eT Tryz.func66 ?_;exact aD (aA kL (cE ur (B.ext u.aF) (fZ aar u (C143 J _ _ _ (I.ext u.aF) bP) λ_ _ _ u=>aI iI u.eU (aG ⟨vb (gh.2 bP),u.drop.aF⟩))))
def C68(K Φ:hM)(p:Nat)(m:iG)(q:Nat)(t:jO)(w:World)(hm:Has (fk K p m) w)(O:∀w',Ext w w'->K w')(lV:nV m)(hh:Has (dM K Φ q m.room t) w)(JD:t∈m.l):CR 68 [.pointer (some ⟨p,0,none⟩),.pointer (some ⟨q,0,none⟩)] w (λv w'=>v=.bool (xK m t)/\Ext w w'):=by
 obtain⟨a,M⟩:=fk.rd hm (O _ (Ext.refl _));have Z:=M.b.cell (o:=7) rfl;have J:=M.b.cell (o:=10) rfl;have G:=lV.th t JD;have Mi:=G.bl;have ajf:(cS m.p).length<=500:=by unfold cS;rw[nQ];exact lV.pz.eX
 have mL:=yc G.p;have O8:=G.cl;obtain⟨bp,nv,rg,pl,es,hk,V,hB,F5,LB,CM,_⟩:=dM.rd hh;have W:=V.cell (o:=0) rfl;have ct4:=V.cell (o:=4) rfl;have u:=St.start w;refine qj Tryz.func68 (pl:=P68) ?_;refine dX Pz (C127 K q t bp nv rg pl es _ _ V LB CM O G.p bP) ?_;rintro v _ ⟨he,hv⟩;have u:=u.ext he
 rcases hv with⟨ej,rfl⟩|⟨x,xa,xb,xv,av,bv,ra,rb,PC,rfl,Dg,_⟩
 .exact aJ rfl (aJ rfl (aJ rfl (aJ rfl (aM u jy λ_ _ u=>aH (x:=(⟨0,⟨#[]⟩,⟨#[]⟩,bZ,bZ,0,0,0,0⟩:aW)) u ep rfl rfl λ_ u=>bJ (gH ⟨vb (by unfold xK;rw[ej]),u.drop.aF⟩)))))
 obtain⟨ge,gf,rfl,_,_⟩:=kZ (Dg _ (O _ u.aF));have hx:=(G.top PC).1;have B:xK m t=(if t.fault≠0\/x.kind=2 then true else if x.kind=3\/x.kind=5\/x.kind=6\/x.kind=7 then !decide (m.room<=t.buf.length)else if x.kind=9/\m.fe.getD (cT (cS m.p) x.name).toNat 0≠-1 then false else decide (t.buf.length=0)):=by unfold xK;rw[PC]
 refine aJ rfl (aJ rfl (aJ rfl (aJ rfl (aM u jy λb5 w2 u=>aH (x:=(⟨x.kind,x.eQ,x.name,ge,gf,x.n,x.body,x.eH,x.at_⟩:aW)) u ep rfl rfl λw3 u=>bJ (et ?_)))));refine⟨λI w'=>I=.bool (decide (t.fault≠0\/x.kind=2))/\w'=w3,?_,?_⟩
 .exact aD (aA qU (cE bL (ct4.ext u.aF) (cC (aC (λ_=>⟨vb (fj bP).symm,rfl⟩) λ_=>aA fy (aB (v:=hU x.kind) bL u.hb rfl (aG ⟨vb (gh.2 bP),rfl⟩))))))
 rintro _ w4 ⟨rfl,rfl⟩ _;refine aC (λY=>?_) (λY=>?_)
 .exact⟨vb (by rw[B,fi Y]),u.drop.aF⟩
 rw[ez Y]at B;refine⟨λI w'=>I=.bool (decide (x.kind=3\/x.kind=5\/x.kind=6\/x.kind=7))/\w'=w4,?_,?_⟩
 .refine aA fy (aB (v:=hU x.kind) bL u.hb rfl ?_);exact aG (aC (λ_=>⟨vb (fj bP).symm,rfl⟩) λ_=>aA fy (aB (v:=hU x.kind) bL u.hb rfl (aG (aC (λ_=>⟨vb (fj bP).symm,rfl⟩) λ_=>aA fy (aB (v:=hU x.kind) bL u.hb rfl (aG (aC (λ_=>⟨vb (fj bP).symm,rfl⟩) λ_=>aA fy (aB (v:=hU x.kind) bL u.hb rfl (aG ⟨vb (gh.2 bP),rfl⟩)))))))))
 rintro _ _ ⟨rfl,rfl⟩ _;refine aC (λc2=>?_) (λc2=>?_)
 .exact aD (aA kL (cE ur (W.ext u.aF) (aR UD u (C145 bp _ _ _ (hB.ext u.aF)) λ_ _ u=>bJ ⟨vb (by rw[B,fi c2]),u.drop.aF⟩)))
 rw[ez c2]at B;refine⟨λI w'=>I=.bool (decide (x.kind=9/\m.fe.getD (cT (cS m.p) x.name).toNat 0≠-1))/\St w bF [bM b5 (iW (⟨x.kind,x.eQ,x.name,ge,gf,x.n,x.body,x.eH,x.at_⟩:aW))] w',?_,?_⟩
 .have u:=u.drew;refine aA fy (aB (v:=hU x.kind) bL u.hb rfl (aG (aC (λc3=>?_) λ_=>⟨vb (ga bP).symm,u⟩)));obtain⟨j,hj,FZ,_⟩:=pA (cY.1 (hx.lk (.inl c3)));have Mg:=(jq.1 FZ).1;have how:=lV.ow;refine aD (aA m4 (cE ek (J.ext u.aF) (aD (aA yA (cE lX (Z.ext u.aF) (aA jU (aB (v:=.string x.name) j3 u.hb rfl (aR Bb u (C146 _ (cS m.p) x.name _ (M.uk.ks _ (O _ u.aF)) bP) λ_ he u=>?_))))))));refine⟨aY ek (J.ext u.aF),?_⟩;obtain⟨ov,E⟩:=gx m.fe (i:=(cT (cS m.p) x.name).toNat) bP
  refine aZ dz (M.ow.ext u.aF) bP E (λq71 h71=>aE bL h71 (cC ?_));refine⟨vb (gh.2 ?_),u⟩;rw[o4,E];exact⟨λh=>⟨c3,h⟩,λh=>h.2⟩
 rintro _ _ ⟨rfl,u⟩ _;refine aC (λU=>?_) (λU=>?_)
 .exact⟨vb (by rw[B,fi U]),u.drop.aF⟩
 exact aR adl u (C66 K Φ q m.room t _ (hh.ext u.aF) Mi) (λ_ _ u=>⟨vb (by rw[B,ez U]),u.drop.aF⟩)
def C22(K:hM)(p:Nat)(m:iG)(w:World)(Y:Has (fk K p m) w)(hw:∀w',Ext w w'->K w')(I:nV m):CR 22 [.pointer (some ⟨p,0,none⟩)] w (λv w'=>mG (jY v (kh m)) w w'):=by
 obtain⟨a,E⟩:=fk.rd Y (hw _ (Ext.refl _));have XQ:=E.b.cell (o:=11) rfl;have LC:=E.b.cell (o:=13) rfl;have hlen:=E.len;have Kz:=I.tl;have u:=St.start w;refine XG _ _ _ ?_;unfold S22;refine aD (aA o8 (cE bL (LC.ext u.aF) (cC (aC (λc=>?_) λc=>?_))))
 .have B:kh m=[]:=by unfold kh;rw[fi c]
  rw[B];exact u.GH.fresh
 have B:kh m=gE m m.l.length:=by unfold kh;rw[ez c]
 rw[B];refine aD (aA m6 (cE uu (XQ.ext u.aF) (aI wR (E.ll.ext u.aF) ?_)));refine⟨λG o y J=>∃k:Nat,y=hU (k:Int)/\G=a.ps.length-k/\k<=a.ps.length/\St w bF [jY o (gE m k)] J,⟨_,0,rfl,rfl,mr _,u.GH⟩,?_⟩;rintro G o _ J ⟨k,rfl,rfl,hk,u⟩ _;have mL:=pZ I k;have RA:k*1001<=1001000:=bP
 refine aS (aC (λc1=>?_) λc1=>?_);rotate_left
 .rw[show k=m.l.length from bP]at u;exact u.fresh
 obtain⟨e,V⟩:=gx a.ps (i:=((k:Nat):Int).toNat) bP;obtain⟨t,ht⟩:=gx m.l (i:=k) bP;have JD:=l0 ht;have Mi:=(I.th t JD).bl;have W4:=E.th k e t V ht;obtain⟨bp,nv,rg,pl,es,De,zF,hB,F5,LB,CM,_⟩:=dM.rd W4;have M:=zF.cell (o:=0) rfl;refine aZ wR (E.ll.ext u.aF) bP V (λq W=>aE AT W ?_);refine⟨λjv w'=>St w bF [jY jv (gE m k++(if xK m t=true then [(⟨1,k,0,[]⟩:aT)]else []))] w',?_,?_⟩
 .refine aR ai5 u (C68 K _ p m e.b t _ (Y.ext u.aF) (λ_ e=>hw _ (u.aF.then e)) I (W4.ext u.aF) JD) (λ_ V u=>bD (λO=>?_) λO=>?_)
  .refine pop (KC 1 (k:Int)) (have u:=u.fK (Φ:=λw=>l2 w (⟨1,(k:Int),0,bZ⟩:aQ) (⟨1,(k:Int),0,[]⟩:aT)) (λw=>⟨bZ,rfl,DL.nil w⟩);kq (x:=(⟨1,(k:Int),0,[]⟩:aT)) (s:=(⟨1,(k:Int),0,bZ⟩:aQ)) u uo ea λs29 _ u=>kr u.p1 uo (by rw[nD];omega) ea λs30 _ u=>?_);rw[fi O];exact u
  rw[ez (by rw[O];decide),oo];exact u
 rintro o2 _ u _;refine aD (aA kL (cE ur (M.ext u.aF) (fZ agx u (C69 bp _ _ _ (hB.ext u.aF) bP) λU _ dw u=>?_)));have O8:=zI t.buf;refine aI dz u.eU ?_;refine⟨λG o y J=>∃j:Nat,y=hU (j:Int)/\G=(qw t.buf).length-j/\j<=(qw t.buf).length/\St w bF [jY o (gE m k++(if xK m t=true then [(⟨1,k,0,[]⟩:aT)]else [])++((qw t.buf).take j).map λi=>(⟨2,k,i,[]⟩:aT)),bH U (qw t.buf)] J,⟨_,0,rfl,rfl,mr _,by rw[List.take_zero,List.map_nil,oo];exact u.p1⟩,?_⟩;rintro G o3 _ _ ⟨j,rfl,rfl,hj,u⟩ _;refine aS (aC (λc3=>?_) λc3=>?_)
 .obtain⟨y,Z⟩:=gx (qw t.buf) (i:=((j:Nat):Int).toNat) bP;exact aZ dz u.p1.eU bP Z (λ_ W=>aE bL W (pop (D2 2 (k:Int) y) (have u:=u.fK (Φ:=λw=>l2 w (⟨2,(k:Int),y,bZ⟩:aQ) (⟨2,(k:Int),y,[]⟩:aT)) (λw=>⟨bZ,rfl,DL.nil w⟩);kq (x:=(⟨2,(k:Int),y,[]⟩:aT)) (s:=(⟨2,(k:Int),y,bZ⟩:aQ)) u uo ea λ_ _ u=>kr u.p1 uo (by simp only[kC,nQ,ml,nD];split<;>simp<;>omega) ea λ_ _ u=>aK bP ⟨_,bP,j+1,rfl,rfl,bP,by rw[<- nq (k:=j) Z,<- mv];exact u⟩)))
 rw[kE bP]at u;refine aK bP ?_;refine⟨_,bP,k+1,rfl,rfl,bP,?_⟩;rw[sZ ht];unfold ox;rw[<- mv];exact u.p1.drop
def C161(K:hM)(p:Nat)(m:iG)(i kind:Int)(F:Nat->Prop)(w:World)(E:(fk K p m).p w F):CR 161 [.pointer (some ⟨p,0,none⟩),hU i,hU kind] w (λv w'=>v=ia (⟨16,i,kind,0,0⟩:cQ)/\mF F (fk K p {m with fault:=kind,ld:=i}) w w'):=by
 have u:=St.begin E;refine eT Tryz.func161 ?_;obtain⟨a,B,u⟩:=fk.open u;exact aM u qS (λ_ _ u=>have u:=u.enc (cs':=iW (⟨0,0,0,0,0⟩:cQ)) rfl;aD (aA o8 (aO u.p1 bL (dP rfl) rfl λ_ u=>aD (aA DV (aO u bL (dP rfl) rfl λ_ u=>pop (wU 16 i kind) (aH (x:=(⟨16,i,kind,0,0⟩:cQ)) u.p1 iH rfl rfl λ_ u=>aE iH u.At ⟨rfl,(fk.shut (m:={m with fault:=kind,ld:=i}) ⟨B.pr,B.cs,B.ks,B.mem,B.rc⟩ u.drop).mut⟩))))))
def C162(K:hM)(p:Nat)(m:iG)(n:Nat)(tp:Ptr)(t:jO)(x:bE)(W:aW)(F:Nat->Prop)(c:Int)(w:World)(hF:(sep (mT K tp.b m.room t) (jB K p m n tp)).p w F)(E:∀w',fH F w w'->K w')(J:wq (cX m.p) (cS m.p) t)(I:yb m.mem)(Dg:∀w,K w->l2 w W x)(F5:0<=cT t.names x.eQ):CR 162 [.pointer (some ⟨p,0,none⟩),.pointer (some ⟨tp.b,0,none⟩),ia W,hU c] w (λv w'=>v=ia (⟨if (nA t.buf c).isSome=true then 2 else 1,0,c,lL m t c,0⟩:cQ)/\mF F (sep (mT K tp.b m.room (pE t x.eQ (lL m t c))) (jB K p m n tp)) w w'):=by
 have u:=(St.begin hF).split;obtain⟨U,V,rfl,_,_⟩:=kZ (Dg _ (E _ u.aF));obtain⟨j,hj,FZ,_⟩:=pA (cY.1 F5);have Mg:=(jq.1 FZ).1;have hnb:=J.nb;have PB:=J.rl;have Mi:=J.bl;refine TB _ _ _ _ _ _ ?_;unfold S162;refine bY (x:=(⟨x.kind,x.eQ,x.name,U,V,x.n,x.body,x.eH,x.at_⟩:aW)) u (λb6 _ u=>aM u qS λb8 _ u=>?_);have u:=(u.enc (cs':=iW (⟨0,0,0,0,0⟩:cQ)) rfl).p2;obtain⟨M,nv,rg,pl,es,Y,u⟩:=dM.open u;refine aD (aA kL (aB ur u.hb rfl (aR aaI u (C259 M c m.room t.buf _ (Ju u.p1) bP) λ_ he u=>aJ rfl (aJ rfl ?_))))
 refine⟨λn9 Z w'=>n9=hU (lL m t c)/\Z=hU (if (nA t.buf c).isSome=true then 2 else 1)/\St w F [bM tp.b (vg M nv rg pl t.fault),kX M m.room t.buf,bH rg t.dJ,bH pl (F4 es),eI (λw=>yd K w es t.bN/\True),bM b8 (iW (⟨0,0,0,0,0⟩:cQ)),bM b6 (iW (⟨x.kind,x.eQ,x.name,U,V,x.n,x.body,x.eH,x.at_⟩:aW)),jB K p m n tp] w',?_,?_⟩
 .refine bJ (bD (λB=>?_) λB=>?_)
  .have h1:(nA t.buf c).isSome=false:=by simpa using B
   have u:=u.p7;obtain⟨a,O,u⟩:=jB.open u;exact aD (aA lY (aB wQ u.hb rfl (aR UL u (VO a.q m.mem c _ (CI u.p1 (O.1.mem _ (E _ u.aF))) I) λ_ _ u=>aJ rfl (aJ rfl (have u:=(((((((jB.shut (m:=m) O u.p4.p4.p4.p4.p4).p7).p7).p7).p7).p7).p7).p7;⟨by unfold lL;rw[ez (by rw[h1];decide)],by rw[ez (by rw[h1];decide)],u⟩)))))
  have h1:(nA t.buf c).isSome=true:=by simpa using B
  exact⟨by unfold lL;rw[fi h1],by rw[fi h1],u⟩
 rintro _ _ _ ⟨rfl,rfl,u⟩ _;have u:=u.drew;refine aD (aA ux (aB ek u.hb rfl (aD (aA uw (aB lX u.hb rfl (aA kM (aB (v:=.string x.eQ) j3 u.p6.hb rfl (aR Bb u (C146 _ t.names x.eQ _ (Y _ (E _ u.aF)) bP) λ_ he u=>?_))))))));refine⟨aY ek (u.hb.cell rfl),?_⟩;exact ed u.p2 dz bP bP (λ_ G=>kJ (lL m t c:Int) u.p2 bL G bP λ_ u=>pop (q9 (if (nA t.buf c).isSome=true then 2 else 1) c (lL m t c)) (aH (x:=(⟨if (nA t.buf c).isSome=true then 2 else 1,0,c,lL m t c,0⟩:cQ)) u.p5 iH rfl rfl λ_ u=>aE iH u.At (have u:=dM.shut (Φ:=λ_=>True) (t:=pE t x.eQ (lL m t c)) Y u.drop.p5.drop.p4.p4.p2.p4.p4;have u:=u.p1.p1;⟨rfl,(St.join u).mut⟩)))
def C165(K:hM)(p:Nat)(m:iG)(n:Nat)(tp:Ptr)(t:jO)(x:bE)(xv:aW)(F:Nat->Prop)(w:World)(hF:(sep (mT K tp.b m.room t) (jB K p m n tp)).p w F)(E:∀w',fH F w w'->K w')(ql:wq (cX m.p) (cS m.p) t)(M:yb m.mem)(Dg:∀w,K w->l2 w xv x)(F5:0<=cT t.names x.eQ)(F6:MB m.mem 1000000)(WI:x.e.length<=1000/\x.f.length<=1000)(Z:(ey t x.e).2=true)(Y:(ey t x.f).2=true):CR 165 [.pointer (some ⟨p,0,none⟩),.pointer (some ⟨tp.b,0,none⟩),ia xv,hU (gq m x)] w (λv w'=>v=ia (vh m t x)/\mF F (sep (mT K tp.b m.room (pE t x.eQ (lz m.mem (gq m x)))) (jB K p (rM m t x) n tp)) w w'):=by
 have u:=(St.begin hF).split;obtain⟨V,gf,rfl,_,_⟩:=kZ (Dg _ (E _ u.aF))
 have XF:∀w,K w->dy (λ_=>True) w (ia V) x.e/\dy (λ_=>True) w (ia gf) x.f:=λw hw=>by
  obtain⟨_,_,h4,h5,h6⟩:=kZ (Dg w hw);cases h4
  exact⟨h5,h6⟩
 obtain⟨j,hj,FZ,_⟩:=pA (cY.1 F5);have Mg:=(jq.1 FZ).1;have hnb:=ql.nb;have PB:=ql.rl;have ht1:{t with fault:=if (ey t x.e).2=true then t.fault else 2}=t:=by rw[Z];rfl
 have W:{t with fault:=if (ey t x.f).2=true then t.fault else 2}=t:=by rw[Y];rfl
 obtain⟨c,hc⟩:∃c,c=gq m x:=⟨_,rfl⟩;rw[<- hc];refine TC _ _ _ _ _ _ ?_;unfold S165;refine bY (x:=(⟨x.kind,x.eQ,x.name,V,gf,x.n,x.body,x.eH,x.at_⟩:aW)) u (λb6 _ u=>aM u qS λb8 _ u=>?_);have u:=(u.enc (cs':=iW (⟨0,0,0,0,0⟩:cQ)) rfl).p3;obtain⟨a,B,u⟩:=jB.open u;refine aD (aA lY (aB wQ u.hb rfl (aR UL u (VO a.q m.mem c _ (CI u.p1 (B.1.mem _ (E _ u.aF))) M) λ_ he u=>aJ rfl (aJ rfl (aA kN (aB (v:=ia V) lH u.p6.hb rfl (have u:=u.p7;aU E8 u (H':=λ_=>mT K tp.b m.room t) (Φ:=λv _=>v=.tuple #[hU (ey t x.e).1,.bool (ey t x.e).2]) (λU O J=>?_) ?_)))))))
 .have:=C163 K _ tp.b m.room t U _ x.e _ O (λw' hc=>E w' (J w' hc).aF) (XF _ (E _ u.aF)).1 bP bP;rw[ht1]at this;exact this
 rintro _ _ rfl u;refine aJ rfl (aJ rfl (aA qZ (aB (v:=ia gf) lH u.p7.hb rfl (aU E8 u (H':=λ_=>mT K tp.b m.room t) (Φ:=λv _=>v=.tuple #[hU (ey t x.f).1,.bool (ey t x.f).2]) (λU O J=>?_) ?_))))
 .have:=C163 K _ tp.b m.room t U _ x.f _ O (λw' hc=>E w' (J w' hc).aF) (XF _ (E _ u.aF)).2 bP bP;rw[W]at this;exact this
 rintro _ _ rfl u;refine aJ rfl (aJ rfl ?_);obtain⟨bp,nv,rg,pl,es,hk,u⟩:=dM.open u;have u:=u.drew;refine aD (aA ux (aB ek u.hb rfl (aD (aA uw (aB lX u.hb rfl (aA kM (aB (v:=.string x.eQ) j3 u.p11.hb rfl (aR Bb u (C146 _ t.names x.eQ _ (hk _ (E _ u.aF)) bP) λ_ he u=>?_))))))));refine⟨aY ek (u.hb.cell rfl),?_⟩;refine ed u.p2 dz bP bP (λ_ ajj=>kJ (lz m.mem c:Int) u.p2 bL ajj bP λw6' u=>have u:=dM.shut (Φ:=λ_=>True) (t:=pE t x.eQ (lz m.mem c)) hk u.p4.p4.p2.p4.p4;cC (aC (λI=>?_) λI=>?_))
 .have G:rM m t x=m:=by unfold rM;rw[<- hc,ez I]
  have zy:vh m t x=⟨9,0,c,lz m.mem c,0⟩:=by unfold vh;rw[<- hc,ez I]
  refine pop (q9 9 c (lz m.mem c)) (aH (x:=(⟨9,0,c,lz m.mem c,0⟩:cQ)) u.p6 iH rfl rfl λ_ u=>aE iH u.At ?_);have u:=(jB.shut (m:=m) B u.drop.p6.drop.p5.p5.p5.p5.p5).p1;rw[G,zy];exact⟨rfl,(St.join u).mut⟩
 have G:rM m t x={m with mem:=fG m.mem c (ey t x.f).1}:=by unfold rM;rw[<- hc,fi (by simpa using I)]
 have zy:vh m t x=⟨8,0,c,lz m.mem c,(ey t x.f).1⟩:=by unfold vh;rw[<- hc,fi (by simpa using I)]
 refine aD (aA lY (aB wQ u.p1.hb rfl (have u:=u.p2;aU UH u (H':=λ_=>fD a.q a.ov a.fv (fG m.mem c (ey t x.f).1)) (Φ:=λ_ _=>True) (λU O J=>?_) ?_)))
 .exact(C159 a.q a.ov a.fv m.mem U c _ _ O (λw' hc=>B.1.mem _ (E w' (J w' hc).aF)) M F6).mono λ_ _ r=>r.mono λ_ _ h=>⟨trivial,h.2⟩
 rintro _ _ _ u;refine pop (Aj 8 c (lz m.mem c) (ey t x.f).1) (aH (x:=(⟨8,0,c,lz m.mem c,(ey t x.f).1⟩:cQ)) u.p6 iH rfl rfl λ_ u=>aE iH u.At ?_);have u:=jB.shut (m:={m with mem:=fG m.mem c (ey t x.f).1}) (⟨⟨B.1.pr,B.1.cs,B.1.ks,λw hw=>(B.1.mem w hw).write,B.1.rc⟩,B.2⟩) u.drop.p6.drop.p5.p5.p5.p3.p5;have u:=u.p1;rw[G,zy];exact⟨rfl,(St.join u).mut⟩
def C82(cv:Value)(cut:List Int)(w:World)(B:dy (λ_=>True) w cv cut)(J:cut.length<=1000000):CR 82 [cv] w (λv w'=>v=hU (vf cut cut.length)/\Ext w w'):=by
 have u:=St.start w;refine XN _ _ _ ?_;unfold S82;refine aI dz (B.ext u.aF) ?_;refine⟨λG n x E=>∃k:Nat,n=hU (vf cut k)/\x=hU (k:Int)/\G=cut.length-k/\k<=cut.length/\St w bF [] E,⟨_,0,rfl,rfl,rfl,mr _,u⟩,?_⟩;rintro G _ _ E ⟨k,rfl,rfl,rfl,V,u⟩ _;refine aS (aC (λU=>?_) λ_=>⟨by rw[show cut.length=k from bP],u.aF⟩);obtain⟨O,I⟩:=gx cut (i:=(k:Int).toNat) bP;exact aZ dz B bP I (λ_ M=>aE bL (M.ext u.aF) (D6 (uG (aK bP ⟨_,bP,k+1,by rw[Hn (k:=k) I],rfl,rfl,bP,u⟩))))
def C83(q x:aT)(M:aQ)(b:Nat)(J:aQ)(w:World)(hq:l2 w M q)(B:At (λ_=>True) w (.pointer (some ⟨b,0,none⟩)) J)(V:l2 w J x):CR 83 [ia M,(.pointer (some ⟨b,0,none⟩))] w (λv w'=>v=.bool (qy x q)/\Ext w w'):=by
 obtain⟨Y,rfl,O⟩:=hq;obtain⟨W,rfl,TG⟩:=V;have u:=St.start w;refine eT Tryz.func83 ?_;refine bY u (λG _ u=>⟨λjv w'=>jv=.bool (qy x q)/\St w bF [bM G (iW (⟨q.kind,q.t,q.i,Y⟩:aQ))] w',?_,?_⟩)
 .refine aA uq (aB (v:=hU q.kind) bL u.hb rfl (cU x.kind uq B rfl rfl λ_ I=>aE bL (I.ext u.aF) (aG (aC (λeS=>aA n6 (aB (v:=hU q.t) bL u.hb rfl (cU x.t n6 B rfl rfl λ_ Z=>aE bL (Z.ext u.aF) (aG (aC (λpf=>aA xX (aB (v:=hU q.i) bL u.hb rfl (cU x.i xX B rfl rfl λ_ rp=>aE bL (rp.ext u.aF) (aG (aC (λjZ=>?_) λ_=>⟨vb (by unfold qy;first|(simp_all;done)|grind),u⟩))))) λ_=>⟨vb (by unfold qy;first|(simp_all;done)|grind),u⟩))))) λ_=>⟨vb (by unfold qy;first|(simp_all;done)|grind),u⟩))))
  refine cU W B5 B rfl rfl (λ_ U=>aE ek (U.ext u.aF) ?_);have E:=DL.flat TG;exact aI dz (E.ext u.aF) (aG ⟨vb (by unfold qy;first|(simp_all;done)|grind),u⟩)
 rintro _ _ ⟨rfl,u⟩ _;exact⟨rfl,u.drop.aF⟩
theorem nZ.ext{w w':World}{b:Nat}{cs:List Value}(h:nZ w b cs)(e:Ext w w'):nZ w' b cs:=h.of_eq (e.bM b h.lt λh=>h)
def wx(s:ByteArray)(a:Int)(t:ByteArray):Bool:=decide (a+t.size<=s.size)&&decide (s.extract a.toNat (a+t.size).toNat=t)
def TH(p:UInt8->Bool)(s:ByteArray):Nat->Nat->Nat
 | 0,a=>a
 | n+1,a=>match (fO s)[a]? with
  | some c=>if p c=true then TH p s n (a+1)else a
  | none=>a
def qL(p:UInt8->Bool)(s:ByteArray)(a:Nat):Nat:=TH p s (s.size-a) a
section
variable {p:UInt8->Bool}{s:ByteArray}{k:Nat}{c:UInt8}
theorem CQ(h:s.size<=k):qL p s k=k:=by unfold qL;simp_all[TH]
theorem my(h:(fO s)[k]?=some c):k<s.size:=by have:=(jq.1 h).1;rw[dY]at this;exact this
theorem zK(h:(fO s)[k]?=some c)(u:p c=true):qL p s k=qL p s (k+1):=by
 have B:=my h
 unfold qL
 rw[show s.size-k=(s.size-(k+1))+1 from bP,TH,h]
 grind
theorem zL(h:(fO s)[k]?=some c)(u:p c=false):qL p s k=k:=by
 have B:=my h
 unfold qL
 rw[show s.size-k=(s.size-(k+1))+1 from bP,TH,h]
 grind
end
def oT(c:UInt8):Bool:=decide (c.toNat=32\/c.toNat=9\/c.toNat=10\/c.toNat=13)
def rN(c:UInt8):Bool:=decide (c.toNat≠10)
def nJ(c:UInt8):Bool:=fc c.toNat||ie c.toNat
def qM(c:UInt8):Bool:=ie c.toNat
def iK(s:ByteArray):Nat->Nat->Option Nat
 | 0,_=>none
 | n+1,a=>match (fO s)[a]? with
  | none=>some a
  | some c=>if oT c=true then iK s n (a+1)else if wx s a ⟨#[47,47]⟩=true then iK s n (qL rN s a)else some a
theorem Hu{s:ByteArray}{n a r:Nat}(h:iK s n a=some r):∃k,n=k+1:=by
 cases n with
 | zero=>cases h
 | succ k=>grind
section
variable {s:ByteArray}{n a r:Nat}{c:UInt8}
theorem LD(h:iK s (n+1) a=some r)(u:s.size<=a):r=a:=by
 unfold iK at h;rw[l3 (by rw[dY];exact u)]at h;grind
theorem xi(h:iK s (n+1) a=some r)(hc:(fO s)[a]?=some c)(hb:oT c=true):iK s n (a+1)=some r:=by
 grind[iK]
theorem Bq(h:iK s (n+1) a=some r)(hc:(fO s)[a]?=some c)(hb:oT c=false)(u:wx s a ⟨#[47,47]⟩=true):iK s n (qL rN s a)=some r:=by
 grind[iK,qL,rN]
theorem Fg(h:iK s (n+1) a=some r)(hc:(fO s)[a]?=some c)(hb:oT c=false)(u:wx s a ⟨#[47,47]⟩=false):r=a:=by
 unfold iK at h;grind
theorem PN:∀(n a:Nat) (p:UInt8->Bool),a<=TH p s n a/\TH p s n a<=max a s.size
 | 0,a,p=>⟨oq _,by unfold TH;omega⟩
 | n+1,a,p=>by
  unfold TH
  cases h:(fO s)[a]? with
  | none=>grind
  | some c=>
   dsimp only
   split
   .have:=PN n (a+1) p;have:=my h;omega
   omega
theorem Hv(p:UInt8->Bool):a<=qL p s a/\qL p s a<=max a s.size:=PN _ _ _
theorem vj:∀{n a r:Nat},iK s n a=some r->a<=s.size->a<=r/\r<=s.size
 | 0,_,_,h,_=>by cases h
 | n+1,a,r,h,u=>by
  cases hc:(fO s)[a]? with
  | none=>unfold iK at h;grind
  | some c=>
   have B:=my hc
   cases hb:oT c with
   | true=>have:=vj (xi h hc hb) bP;omega
   | false=>
    cases hr:wx s a ⟨#[47,47]⟩with
    | true=>have h1:=Hv (s:=s) (a:=a) rN;have:=vj (Bq h hc hb hr) bP;omega
    | false=>have:=Fg h hc hb hr;omega
end
def xM:List ByteArray:=[⟨#[61,61]⟩,⟨#[33,61]⟩,⟨#[60,61]⟩,⟨#[38,38]⟩,⟨#[124,124]⟩]
def mu(s:ByteArray)(a:Nat)(c:UInt8):Int:=if xM.any (wx s a)=true then 2 else if (fO (hZ #[40,41,123,125,59,44,61,60,33,43,45,42,47,37])).any (λx=>decide ((x.toNat:Int)=c.toNat))=true then 1 else 0
def oy(l:List aX)(i:Int)(t:ByteArray):Bool:=decide (0<=i)&&(match l[i.toNat]? with|some x=>decide (x.text=t)&&decide (x.kind≠2)&&decide (1<=x.kind)&&decide (x.kind<=3)|none=>false)
def jM(l:List aX)(i:Int):Int:=match (if 0<=i then l[i.toNat]? else none)with
 | some x=>x.at_
 | none=>match l.getLast? with
  | some x=>x.at_+x.text.size
  | none=>0
def TI:∀t∈xM,t.size<=1000000:=ea
def nK{l:List aX}{i:Int}{t:ByteArray}(h:oy l i t=true):0<=i/\i<l.length:=by
 unfold oy at h
 grind
def C283(s t:ByteArray)(i:Int)(w:World)(J:s.size<=1000000)(I:t.size<=1000000)(G:0<=i/\i<=2000000):CR 283 [.string s,hU i,.string t] w (λv w'=>v=.bool (wx s i t)/\Ext w w'):=by
 have B:=St.start w;refine eT Tryz.func283 ?_;refine⟨λu w'=>u=.bool (wx s i t)/\w=w',eR gQ (aK bP (eR gQ (gO (aC (λ_=>eR gQ (aK bP (D7 gQ bP bP bP (fE ⟨vb (by unfold wx;grind),rfl⟩)))) λ_=>⟨vb (by unfold wx;grind),rfl⟩)))),?_⟩;rintro _ _ ⟨rfl,E⟩ _;subst E;exact⟨rfl,B.aF⟩
theorem C192(s:ByteArray)(i N r:Nat)(w:World)(Y:s.size<=4000)(h0:i<=s.size)(hr:iK s N i=some r):CR 192 [.string s,hU (i:Int)] w (λv w'=>v=hU (r:Int)/\Ext w w'):=by
 have hz0:=Y;replace Y:s.size<=1000000:=bP
 have u:=St.start w;refine eT Tryz.func192 ?_;refine⟨λJ x I=>∃a:Nat,x=hU (a:Int)/\a<=s.size/\iK s J a=some r/\St w bF [] I,⟨N,i,rfl,h0,hr,u⟩,?_⟩;rintro J _ I ⟨a,rfl,ha,G,u⟩ _;obtain⟨k,rfl⟩:=Hu G;refine eR gQ (aS (aC (λj7=>?_) λj7=>?_))
 .obtain⟨N9,E⟩:∃W,(fO s)[(a:Int).toNat]?=some W:=⟨_,j0 (by rw[dY];omega)⟩;refine gV gQ bP E ⟨λjv w'=>jv=.bool (oT N9)/\I=w',kS (aC (λ_=>⟨vb (by unfold oT;first|exact(fj bP).symm|exact gh.2 bP),rfl⟩) λ_=>kS (aC (λ_=>⟨vb (by unfold oT;first|exact(fj bP).symm|exact gh.2 bP),rfl⟩) λ_=>kS (aC (λ_=>⟨vb (by unfold oT;first|exact(fj bP).symm|exact gh.2 bP),rfl⟩) λ_=>kS ⟨vb (by unfold oT;first|exact(fj bP).symm|exact gh.2 bP),rfl⟩))),?_⟩
  rintro _ _ ⟨rfl,Z⟩ _;subst Z;refine bD (λO=>?_) (λO=>aR UM u (C283 s (hZ #[47,47]) (a:Int) _ Y ea bP) λ_ he u=>bD (λV=>?_) λV=>?_)
  .refine aK bP ?_;have Vt:=my E;exact⟨k,bP,a+1,rfl,bP,xi G E O,u⟩
  .refine⟨λJ x I=>∃j:Nat,x=hU (j:Int)/\J=s.size-j/\a<=j/\j<=s.size/\qL rN s a=qL rN s j/\St w bF [] I,⟨_,a,rfl,rfl,oq _,ha,rfl,u⟩,?_⟩;rintro J _ w4 ⟨j,rfl,rfl,haj,hj,gn,u⟩ _;refine⟨λjv w'=>jv=.bool (match (fO s)[j]? with|some c=>rN c|none=>false)/\w4=w',eR gQ (aS (aC (λku=>?_) λku=>⟨vb (by first|(rw[show(fO s)[j]?=some ve from wo];unfold rN;exact gh.2 bP)|(rw[l3 (by rw[dY];omega)])),rfl⟩)),?_⟩
   .obtain⟨ve,wo⟩:∃W,(fO s)[(j:Int).toNat]?=some W:=⟨_,j0 (by rw[dY];omega)⟩;exact gV gQ bP wo (Nw ⟨vb (by first|(rw[show(fO s)[j]?=some ve from wo];unfold rN;exact gh.2 bP)|(rw[l3 (by rw[dY];omega)])),rfl⟩)
   rintro _ _ ⟨rfl,Z⟩ _;subst Z;refine bD (λB=>?_) (λB=>?_)
   .refine aK bP ?_
    have M:∃c,(fO s)[j]?=some c/\rN c=true:=by
     cases hc:(fO s)[j]? with
     | none=>rw[hc]at B;cases B
     | some c=>rw[hc]at B;exact⟨c,rfl,B⟩
    obtain⟨cj,xN,LF⟩:=M;have Mg:=my xN;exact⟨_,bP,j+1,rfl,rfl,bP,bP,gn.trans (zK xN LF),u⟩
   have ajo:qL rN s j=j:=by
    by_cases Ss:j<s.size
    .obtain⟨cj,M⟩:∃c,(fO s)[j]?=some c:=⟨_,j0 (by rw[dY];exact Ss)⟩;rw[M]at B;exact zL M B
    .exact CQ bP
   have We:=Bq G E O V;rw[gn,ajo]at We;exact⟨k,bP,j,rfl,hj,We,u⟩
  have U:=Fg G E O (by exact_mod_cast V);subst U;exact⟨rfl,u.aF⟩
 have U:=LD G bP;subst U;exact⟨rfl,u.aF⟩
def C195(s:ByteArray)(i:Nat)(c:UInt8)(w:World)(hz:s.size<=1000000)(hc:(fO s)[i]?=some c):CR 195 [.string s,hU (i:Int)] w (λv w'=>v=hU (mu s i c)/\Ext w w'):=by
 have hi:=my hc;have u:=St.start w;refine qj Tryz.func195 (pl:=agS) ?_;refine bK xM u iR rfl rfl (dP rfl) (λZ I u=>?_);refine⟨λE x I=>∃k:Nat,x=hU (k:Int)/\E=xM.length-k/\k<=xM.length/\(∀y∈xM.take k,wx s i y=false)/\St w bF [bH Z xM] I,⟨_,0,rfl,rfl,mr _,ew,u⟩,?_⟩;rintro E _ _ ⟨k,rfl,rfl,hk,B,u⟩ _;refine aI iR u.eU ?_;have Kz:xM.length=5:=rfl;refine aS (aC (λuO=>?_) λuO=>?_)
 .obtain⟨J,G⟩:=gx xM (i:=(k:Int).toNat) bP;exact ed u iR bP bP (λ_ Y=>gP u j3 Y G (aR UM u (C283 s J (i:Int) _ hz (TI _ (l0 G)) bP) λ_ _ u=>bD (λgW=>⟨gj (mj .i64) (by unfold mu;rw[fi (nk G gW)]),u.drop.aF⟩) λgW=>aK bP ⟨_,bP,k+1,rfl,rfl,bP,eE B G gW,u⟩))
 have u:=u.drop;refine⟨λE x I=>∃j:Nat,x=hU (j:Int)/\E=(hZ #[40,41,123,125,59,44,61,60,33,43,45,42,47,37]).size-j/\j<=(hZ #[40,41,123,125,59,44,61,60,33,43,45,42,47,37]).size/\(∀y∈(fO (hZ #[40,41,123,125,59,44,61,60,33,43,45,42,47,37])).take j,decide ((y.toNat:Int)=c.toNat)=false)/\St w bF [] I,⟨_,0,rfl,rfl,mr _,ew,u⟩,?_⟩;rintro E _ _ ⟨j,rfl,rfl,hj,O,u⟩ _;refine eR gQ ?_;have Og:(hZ #[40,41,123,125,59,44,61,60,33,43,45,42,47,37]).size=14:=rfl;refine aS (aC (λu0=>?_) λu0=>?_)
 .obtain⟨e_x31,W⟩:∃M,(fO (hZ #[40,41,123,125,59,44,61,60,33,43,45,42,47,37]))[(j:Int).toNat]?=some M:=⟨_,j0 (by rw[dY];omega)⟩;refine gV gQ bP W ?_;obtain⟨qx,oP⟩:∃M,(fO s)[(i:Int).toNat]?=some M:=⟨_,j0 (by rw[dY];omega)⟩;refine gV gQ bP oP ?_;obtain rfl:=nN.inj (oP.symm.trans hc);refine kS (aC (λU=>?_) λU=>aK bP (have u:=u.drew;⟨_,bP,j+1,rfl,rfl,bP,eE O W (ga U),u⟩));have u:=u.drew;have V:xM.any (wx s i)=false:=nn (by rw[kE bP]at B;exact B)
  exact⟨gj (mj .i64) (by unfold mu;rw[ez (by rw[V];simp),fi (nk W (fj U))]),u.aF⟩
 have V:xM.any (wx s i)=false:=nn (by rw[kE bP]at B;exact B);have Rj:=nn (g:=λx:UInt8=>decide ((x.toNat:Int)=c.toNat)) (by rw[kE (by rw[dY];omega)]at O;exact O);exact⟨gj (mj .i64) (by unfold mu;rw[ez (by rw[V];simp),ez (by rw[Rj];simp)]),u.aF⟩
def C196(lv:Value)(l:List aX)(i:Int)(t:ByteArray)(w:World)(E:dy (λ_=>True) w lv l)(hn:l.length<=1000000):CR 196 [lv,hU i,.string t] w (λv w'=>v=.bool (oy l i t)/\Ext w w'):=by
 have B:=St.start w;refine eT Tryz.func196 ?_;refine⟨λjv w'=>jv=.bool (oy l i t)/\w=w',cJ (aC (λY=>aI eB (E.ext B.aF) (aS (aC (λO=>?_) λO=>⟨vb (by unfold oy;first|(rw[u];grind)|(rw[ga bP];rfl)|(rw[l3 bP];simp)),rfl⟩))) λY=>⟨vb (by unfold oy;first|(rw[u];grind)|(rw[ga bP];rfl)|(rw[l3 bP];simp)),rfl⟩),?_⟩
 .obtain⟨G,u⟩:=gx l (i:=(i).toNat) bP;refine aZ eB E bP u (λ_ V=>cU G.text jT V rfl rfl λ_ rp=>aE j3 (rp.ext B.aF) (fE (aC (λgW=>?_) λgW=>⟨vb (by unfold oy;first|(rw[u];grind)|(rw[ga bP];rfl)|(rw[l3 bP];simp)),rfl⟩)));refine aZ eB E bP u (λ_ PO=>?_);exact cU G.kind iS PO rfl rfl (λ_ M=>aE bL (M.ext B.aF) (cC (aC (λJ=>aZ eB E bP u λ_ I=>cU G.kind iS I rfl rfl λ_ W=>aE bL (W.ext B.aF) (cJ (aC (λrO=>aZ eB E bP u λ_ Z=>cU G.kind iS Z rfl rfl λ_ U=>aE bL (U.ext B.aF) (gO ⟨vb (by unfold oy;first|(rw[u];grind)|(rw[ga bP];rfl)|(rw[l3 bP];simp)),rfl⟩)) λrO=>⟨vb (by unfold oy;first|(rw[u];grind)|(rw[ga bP];rfl)|(rw[l3 bP];simp)),rfl⟩))) λJ=>⟨vb (by unfold oy;first|(rw[u];grind)|(rw[ga bP];rfl)|(rw[l3 bP];simp)),rfl⟩)))
 rintro _ _ ⟨rfl,hw⟩ _;subst hw;exact⟨rfl,B.aF⟩
def C201(lv:Value)(l:List aX)(i:Int)(w:World)(B:dy (λ_=>True) w lv l)(hn:l.length<=1000000)(W:∀x∈l,0<=x.at_/\x.at_<=1000000/\x.text.size<=1000000):CR 201 [lv,hU i] w (λv w'=>v=hU (jM l i)/\Ext w w'):=by
 have u:=St.start w;refine qj Tryz.func201 (pl:=agV) ?_;refine⟨λjv w'=>jv=.bool (decide (0<=i/\i<l.length))/\w=w',cJ (aC (λ_=>aI eB (B.ext u.aF) (aS ⟨xr bP,rfl⟩)) λ_=>⟨Rc bP,rfl⟩),?_⟩;rintro _ _ ⟨rfl,hw⟩ _;subst hw;refine aC (λlu=>?_) (λlu=>aI eB (B.ext u.aF) (aG (aC (λY=>?_) λY=>?_)))
 .obtain⟨M,V⟩:=gx l (i:=(i).toNat) bP;exact aZ eB B bP V (λ_ Ok=>cU M.at_ iT Ok rfl rfl λ_ I=>aE bL (I.ext u.aF) ⟨gj (mj .i64) (by unfold jM;rw[fi bP,V]),u.aF⟩)
 .have U:l=[]:=qa.1 bP;subst U;exact⟨gj (mj .i64) (by unfold jM;split<;>simp_all),u.aF⟩
 refine aI eB (B.ext u.aF) (fo bP ?_);obtain⟨G,E⟩:=gx l (i:=((l.length:Int)-1).toNat) bP;refine aZ eB B bP E (λ_ Pm=>cU G.at_ iT Pm rfl rfl λ_ O=>have u:=u.drew;aE bL (O.ext u.aF) (aI eB (B.ext u.aF) (fo bP (aZ eB B bP E λ_ EK=>cU G.text jT EK rfl rfl λ_ A7=>aE j3 (A7.ext u.aF) (eR gQ ?_)))));have hax:=W _ (l0 E);refine aK bP ?_;have J:l.getLast? = some G:=by rw[List.getLast?_eq_getElem?,<- E];congr 1;omega
 have Z:(if 0<=i then l[i.toNat]? else none)=none:=by split;exact l3 bP;rfl
 exact⟨gj (mj .i64) (by unfold jM;rw[Z,J]),u.aF⟩
def numOf(s:ByteArray)(a k:Nat):Int:=(((fO s).drop a).take (k-a)).foldl (λn c=>if n<=4294967296 then 10*n+((c.toNat:Int)-48)else n) 0
theorem JF(s:ByteArray)(a:Nat):numOf s a a=0:=by unfold numOf;grind
theorem tL{s:ByteArray}{a k:Nat}{c:UInt8}(u:a<=k)(h:(fO s)[k]?=some c):numOf s a (k+1)=if numOf s a k<=4294967296 then 10*numOf s a k+((c.toNat:Int)-48)else numOf s a k:=by
 unfold numOf
 rw[show k+1-a=(k-a)+1 from bP,ta,CS,show a+(k-a)=k from bP,h,Option.toList_some,wI]
 rfl
theorem TJ{s:ByteArray}{a:Nat}:∀{k:Nat},a<=k->k<=s.size->(∀j c,a<=j->j<k->(fO s)[j]?=some c->48<=(c.toNat:Int)/\(c.toNat:Int)<=57)->0<=numOf s a k/\numOf s a k<=42949672969:=by
 intro k
 induction k with
 | zero=>
  grind[fO,numOf]
 | succ k B=>
  intro E G u
  by_cases e:a=k+1
  .subst e;rw[JF];omega
  .have:=B bP bP λj c h1 h2=>u j c h1 bP
   obtain⟨c,hc⟩:∃c,(fO s)[k]?=some c:=⟨_,j0 (by rw[dY];omega)⟩
   have h2:=u k c bP bP hc
   rw[tL bP hc]
   omega
def js(s:ByteArray):Nat->Nat->List aX->Option (List aX×Int×Int)
 | 0,_,_=>none
 | n+1,a,out=>match (fO s)[a]? with
  | none=>some (out,0,0)
  | some c=>
   if fc c.toNat=true then(if 16<qL nJ s a-a then some ([],2,(a:Int))else(iK s (s.size+1) (qL nJ s a)).bind λu=>js s n u (out++[⟨1,s.extract a (qL nJ s a),0,a⟩]))
   else if ie c.toNat=true then(if 4294967296<numOf s a (qL qM s a)then some ([],4,(a:Int))else(iK s (s.size+1) (qL qM s a)).bind λu=>js s n u (out++[⟨2,s.extract a (qL qM s a),numOf s a (qL qM s a),a⟩]))
   else if mu s a c=0 then some ([],3,(a:Int))else(iK s (s.size+1) (a+(mu s a c).toNat)).bind λu=>js s n u (out++[⟨3,s.extract a (a+(mu s a c).toNat),0,a⟩])
def qA(s:ByteArray):Option (List aX×Int×Int):=if 4000<s.size then some ([],2,4000)else(iK s (s.size+1) 0).bind λa=>js s (s.size+2) a []
theorem Hx{s:ByteArray}{n a:Nat}{out:List aX}{r:List aX×Int×Int}(h:js s n a out=some r):∃k,n=k+1:=by
 cases n with
 | zero=>cases h
 | succ k=>grind
def sw(s:ByteArray)(k a:Nat)(out:List aX)(R:List aX×Int×Int)(B:Int)(e:Nat)(n:Int):Prop:=a<e/\e<=s.size/\∃u,iK s (s.size+1) e=some u/\js s k u (out++[⟨B,s.extract a e,n,a⟩])=some R
section
variable {s:ByteArray}{k a:Nat}{c:UInt8}{out:List aX}{R:List aX×Int×Int}
theorem LG(h:js s (k+1) a out=some R)(u:s.size<=a):R=(out,0,0):=by
 unfold js at h;rw[l3 (by rw[dY];exact u)]at h;grind
theorem As(h:js s (k+1) a out=some R)(hc:(fO s)[a]?=some c)(u:fc c.toNat=true)(hb:16<qL nJ s a-a):R=([],2,(a:Int)):=by
 unfold js at h;grind
theorem wy{e:Nat}{B n:Int}(h:((iK s (s.size+1) e).bind λu=>js s k u (out++[⟨B,s.extract a e,n,a⟩]))=some R)(h1:a<e)(h2:e<=s.size):sw s k a out R B e n:=by
 cases hp:iK s (s.size+1) e with
 | none=>grind
 | some u=>grind[sw]
theorem LH(h:js s (k+1) a out=some R)(hc:(fO s)[a]?=some c)(B:fc c.toNat=true)(hb:¬ 16<qL nJ s a-a)(u:a<qL nJ s a):sw s k a out R 1 (qL nJ s a) 0:=by
 unfold js at h;rw[hc]at h;dsimp only at h;rw[fi B,ez hb]at h
 have:=my hc;have h2:=Hv (s:=s) (a:=a) nJ
 exact wy h u bP
theorem CT(h:js s (k+1) a out=some R)(hc:(fO s)[a]?=some c)(B:fc c.toNat=false)(u:ie c.toNat=true)(hb:4294967296<numOf s a (qL qM s a)):R=([],4,(a:Int)):=by
 unfold js at h;grind
theorem PV(h:js s (k+1) a out=some R)(hc:(fO s)[a]?=some c)(E:fc c.toNat=false)(u:ie c.toNat=true)(hb:¬ 4294967296<numOf s a (qL qM s a))(B:a<qL qM s a):sw s k a out R 2 (qL qM s a) (numOf s a (qL qM s a)):=by
 unfold js at h;rw[hc]at h;dsimp only at h;rw[ez cR,fi u,ez hb]at h
 have:=my hc;have h2:=Hv (s:=s) (a:=a) qM
 exact wy h B bP
theorem LI(h:js s (k+1) a out=some R)(hc:(fO s)[a]?=some c)(B:fc c.toNat=false)(u:ie c.toNat=false)(hb:mu s a c=0):R=([],3,(a:Int)):=by
 unfold js at h;grind
theorem PW(s:ByteArray)(a:Nat)(c:UInt8):mu s a c=0\/mu s a c=1\/mu s a c=2:=by
 grind[mu]
theorem JG{s:ByteArray}{a:Nat}{c:UInt8}(h:(fO s)[a]?=some c):(a:Int)+mu s a c<=s.size:=by
 have B:=my h
 unfold mu
 split
 .rename_i h2
  rw[List.any_eq_true]at h2
  obtain⟨t,ht,hb⟩:=h2
  have:t.size=2:=by
   have u:∀t∈xM,t.size=2:=ea
   grind
  unfold wx at hb
  grind
 omega
theorem LJ(h:js s (k+1) a out=some R)(hc:(fO s)[a]?=some c)(B:fc c.toNat=false)(u:ie c.toNat=false)(hb:¬ mu s a c=0):sw s k a out R 3 (a+(mu s a c).toNat) 0:=by
 unfold js at h;rw[hc]at h;dsimp only at h;rw[ez cR,ez cR,ez hb]at h
 have h1:=PW s a c;have h2:=JG hc
 exact wy h bP bP
end
theorem C100(s:ByteArray)(R:List aX×Int×Int)(w:World)(Rl:s.size<=1000000)(Z:qA s=some R):CR 100 [.string s] w (λv w'=>∃o,v=.tuple #[o,hU R.2.1,hU R.2.2]/\mG (bH o R.1) w w'):=by
 have u:=St.start w;refine RG _ _ _ ?_;unfold S100;refine eR gQ (dL (aC (λiU=>?_) λiU=>?_))
 .have J:([],2,4000)=R:=by unfold qA at Z;rw[fi bP]at Z;exact nN.inj Z
  subst J;exact⟨_,rfl,u.eF.fresh⟩
 have h4:s.size<=4000:=bP
 obtain⟨a0,ha0,F3⟩:∃a0,iK s (s.size+1) 0=some a0/\js s (s.size+2) a0 []=some R:=by
  unfold qA at Z;rw[ez bP]at Z;cases hq:iK s (s.size+1) 0 with
  | none=>rw[hq]at Z;cases Z
  | some a0=>rw[hq]at Z;exact⟨a0,rfl,Z⟩
 have ajp:=vj ha0 bP;refine bK ([]:List aX) u eB rfl rfl (dP rfl) (λs_x12 _ u=>aR UI u (C192 s 0 (s.size+1) a0 _ bP bP ha0) λ_ he u=>?_);refine⟨λmm o x w'=>∃(a:Nat) (out:List aX),x=hU (a:Int)/\a<=s.size/\out.length<=a/\js s mm a out=some R/\St w bF [bH o out] w',⟨_,a0,[],rfl,ajp.2,mr _,F3,u⟩,?_⟩;rintro mm pM _ _ ⟨a,out,rfl,ha,Og,hp,u⟩ _;obtain⟨k,rfl⟩:=Hx hp;refine eR gQ (aS (aC (λme=>pop (Nh _) (aM u R5 λLK _ u=>aH (x:=(⟨0,(hZ #[]),0,(a:Int)⟩:aX)) u UX rfl rfl λ_ u=>⟨λto w'=>∃(kd:Int) (e:Nat) (n:Int),to=hU (e:Int)/\sw s k a out R kd e n/\St w bF [bM LK (iW (⟨kd,hZ #[],n,(a:Int)⟩:aX)),bH pM out] w',?_,?_⟩)) λme=>?_))
 .obtain⟨fM,jJ⟩:∃xx,(fO s)[(a:Int).toNat]?=some xx:=⟨_,j0 (by rw[dY];omega)⟩;refine gV gQ bP jJ ?_;have G:(fO s)[a]?=some fM:=jJ;refine aR Iw u (C193 _ _) (λ_ he u=>bD (λky=>?_) λky=>?_)
  .have SZ:=ky;refine aA iS (aO u bL (dP rfl) (rfl) λ_ u=>?_);have u:=u.enc (cs':=iW ({ (⟨0,(hZ #[]),0,(a:Int)⟩:aX)with kind:=1}:aX)) rfl;have u:=u.p1.p1;refine⟨λmm x w'=>∃j:Nat,x=hU (j:Int)/\mm=s.size-j/\a<=j/\j<=s.size/\qL nJ s a=qL nJ s j/\St w bF [bM LK (iW (⟨1,hZ #[],0,(a:Int)⟩:aX)),bH pM out] w',⟨_,a,rfl,rfl,oq _,ha,rfl,u⟩,?_⟩;rintro mm _ _ ⟨j,rfl,rfl,W,hj,B,u⟩ _;refine⟨λjv w'=>jv=.bool (match (fO s)[j]? with|some c=>nJ c|none=>false)/\St w bF [bM LK (iW (⟨1,hZ #[],0,(a:Int)⟩:aX)),bH pM out] w',eR gQ (aS (aC (λlg=>?_) λlg=>⟨vb (by first|(rw[show(fO s)[j]?=some E from oP];show _=(fc E.toNat||ie E.toNat);rw[ku];rfl)|(rw[l3 (by rw[dY];omega)])),u⟩)),?_⟩
   .obtain⟨E,oP⟩:∃xx,(fO s)[(j:Int).toNat]?=some xx:=⟨_,j0 (by rw[dY];omega)⟩;refine gV gQ bP oP ?_;have hcj0:(fO s)[j]?=some E:=oP;exact aR Iw u (C193 _ _) (λ_ he u=>bD (λku=>⟨vb (by first|(rw[show(fO s)[j]?=some E from oP];show _=(fc E.toNat||ie E.toNat);rw[ku];rfl)|(rw[l3 (by rw[dY];omega)])),u⟩) λku=>gV gQ bP oP (aR Iy u (C194 _ _) λ_ he u=>⟨vb (by first|(rw[show(fO s)[j]?=some E from oP];show _=(fc E.toNat||ie E.toNat);rw[ku];rfl)|(rw[l3 (by rw[dY];omega)])),u⟩))
   rintro _ _ ⟨rfl,u⟩ _;refine bD (λV=>?_) (λV=>?_)
   .refine aK bP ?_
    have Y:∃c,(fO s)[j]?=some c/\nJ c=true:=by
     cases hc:(fO s)[j]? with
     | none=>rw[hc]at V;cases V
     | some c=>rw[hc]at V;exact⟨c,rfl,V⟩
    obtain⟨cj,O,LF⟩:=Y;have Mg:=my O;exact⟨_,bP,j+1,rfl,rfl,bP,bP,B.trans (zK O LF),u⟩
   have M:qL nJ s j=j:=by
    by_cases Ss:j<s.size
    .obtain⟨cj,Y⟩:∃c,(fO s)[j]?=some c:=⟨_,j0 (by rw[dY];exact Ss)⟩;rw[Y]at V;exact zL Y V
    .exact CQ bP
   refine fo bP (dL (aC (λJa=>?_) λJa=>?_))
   .have u:=u.drop.drop;have J:=As hp G SZ (by rw[B,M];omega);subst J;exact⟨_,rfl,u.eF.fresh⟩
   have u:=u.p1.p1
   have XS:a<j:=by
    rcases NA a j with h|h
    .exact h
    .obtain rfl:j=a:=bP
     rw[G]at V;have h9:nJ fM=false:=V;unfold nJ at h9;rw[SZ]at h9;cases h9
   have I:=LH hp G SZ (by rw[B,M];omega) (by rw[B,M];exact XS);rw[B,M]at I;exact⟨1,j,0,rfl,I,u⟩
  have SZ:=ky;refine gV gQ bP jJ (aR Iy u (C194 _ _) λ_ he u=>bD (λxg=>?_) λxg=>?_)
  .have ZX:=xg;refine aA iS (aO u bL (dP rfl) (rfl) λ_ u=>?_);have u:=u.enc (cs':=iW ({ (⟨0,(hZ #[]),0,(a:Int)⟩:aX)with kind:=2}:aX)) rfl;have u:=u.p1.p1;refine⟨λmm x w'=>∃j:Nat,x=hU (j:Int)/\mm=s.size-j/\a<=j/\j<=s.size/\qL qM s a=qL qM s j/\(∀(i:Nat) (c:UInt8),a<=i->i<j->(fO s)[i]?=some c->48<=(c.toNat:Int)/\(c.toNat:Int)<=57)/\St w bF [bM LK (iW (⟨2,hZ #[],(numOf s a j),(a:Int)⟩:aX)),bH pM out] w',⟨_,a,rfl,rfl,oq _,ha,rfl,λ_ _ h1 _=>absurd h1 bP,by rw[JF];exact u⟩,?_⟩;rintro mm _ _ ⟨j,rfl,rfl,W,hj,B,hdg,u⟩ _
   refine⟨λjv w'=>jv=.bool (match (fO s)[j]? with|some c=>qM c|none=>false)/\St w bF [bM LK (iW (⟨2,hZ #[],(numOf s a j),(a:Int)⟩:aX)),bH pM out] w',eR gQ (aS (aC (λzN=>?_) λzN=>⟨vb (by first|(rw[show(fO s)[j]?=some VU from Hy];rfl)|(rw[l3 (by rw[dY];omega)])),u⟩)),?_⟩
   .obtain⟨VU,Hy⟩:∃xx,(fO s)[(j:Int).toNat]?=some xx:=⟨_,j0 (by rw[dY];omega)⟩;exact gV gQ bP Hy (aR Iy u (C194 _ _) λ_ he u=>⟨vb (by first|(rw[show(fO s)[j]?=some VU from Hy];rfl)|(rw[l3 (by rw[dY];omega)])),u⟩)
   rintro _ _ ⟨rfl,u⟩ _;refine bD (λU=>?_) (λU=>?_)
   .have Y:∃c,(fO s)[j]?=some c/\qM c=true:=by
     cases hc:(fO s)[j]? with
     | none=>rw[hc]at U;cases U
     | some c=>rw[hc]at U;exact⟨c,rfl,U⟩
    obtain⟨cj,O,LF⟩:=Y;have Mg:=my O;have hcd:=LF;unfold qM ie at hcd;rw[decide_eq_true_eq]at hcd;have hnb:=TJ W bP hdg;refine⟨λw'=>St w bF [bM LK (iW (⟨2,hZ #[],(numOf s a (j+1)),(a:Int)⟩:aX)),bH pM out] w',aA nc (aB (v:=hU (numOf s a j)) bL u.hb rfl (gO (aC (λPY=>?_) λPY=>?_))),?_⟩
    .refine aA nc (have u:=u.drew;aB (v:=hU (numOf s a j)) bL u.hb rfl (IC bP ?_));obtain⟨ad3,Qa⟩:∃xx,(fO s)[(j:Int).toNat]?=some xx:=⟨_,j0 (by rw[dY];omega)⟩;refine gV gQ bP Qa ?_;obtain rfl:=nN.inj (Qa.symm.trans (show(fO s)[(j:Int).toNat]?=some cj from O));refine Pv bP (Lv ahh DP bP (aK bP (aA nc (aO u bL (dP rfl) (rfl) λ_ u=>?_))));have u:=u.enc (cs':=iW ({ (⟨2,hZ #[],(numOf s a j),(a:Int)⟩:aX)with n:=((10*(numOf s a j))+((ad3.toNat:Int)-48))}:aX)) rfl
     have u:=u.p1.p1;rw[tL W O,fi PY];exact u
    .have u:=u.p1.p1;rw[tL W O,ez PY];exact u
    intro _ u _;refine aK bP ?_
    exact⟨_,bP,j+1,rfl,rfl,bP,bP,B.trans (zK O LF),λi c h1 h2 h3=>by
     by_cases e:i=j
     .subst e;obtain rfl:=nN.inj (h3.symm.trans O);omega
     .exact hdg i c h1 bP h3,u⟩
   have M:qL qM s j=j:=by
    by_cases Ss:j<s.size
    .obtain⟨cj,Y⟩:∃c,(fO s)[j]?=some c:=⟨_,j0 (by rw[dY];exact Ss)⟩;rw[Y]at U;exact zL Y U
    .exact CQ bP
   refine aA nc (aB (v:=hU (numOf s a j)) bL u.hb rfl (dL (aC (λad4=>?_) λad4=>?_)))
   .have u:=u.drop.drop;have J:=CT hp G SZ ZX (by rw[B,M];omega);subst J;exact⟨_,rfl,u.eF.fresh⟩
   have u:=u.p1.p1
   have XS:a<j:=by
    rcases NA a j with h|h
    .exact h
    .obtain rfl:j=a:=bP
     rw[G]at U;have h9:qM fM=false:=U;unfold qM at h9;rw[ZX]at h9;cases h9
   have I:=PV hp G SZ ZX (by rw[B,M];omega) (by rw[B,M];exact XS);rw[B,M]at I;exact⟨2,j,_,rfl,I,u⟩
  have ZX:=xg;have hsb:=PW s a fM;have hsi:=JG G;refine aA iS (aO u bL (dP rfl) (rfl) λ_ u=>have u:=u.enc (cs':=iW ({ (⟨0,(hZ #[]),0,(a:Int)⟩:aX)with kind:=3}:aX)) rfl;aR aax u (C195 s a fM _ Rl G) λ_ he u=>aK bP (aG (aC (λad5=>?_) λad5=>?_)))
  .have u:=u.drop.drop;have J:=LI hp G SZ ZX bP;subst J;exact⟨_,rfl,u.eF.fresh⟩
  have u:=u.p1.p1;have I:=LJ hp G SZ ZX bP;exact⟨3,a+(mu s a fM).toNat,0,by congr 1;omega,I,u⟩
 .rintro _ _ ⟨kd,e,n,rfl,I,u⟩ _;have ajq:=I;obtain⟨h1e0,h2e0,_⟩:=ajq;refine D7 gQ bP bP bP (aA jT (aO u j3 (dP rfl) (rfl) λ_ u=>have u:=u.enc (cs':=iW ({ (⟨kd,hZ #[],n,(a:Int)⟩:aX)with text:=(s.extract (a:Int).toNat (e:Int).toNat)}:aX)) rfl;aE UX u.At (bK ([(⟨kd,s.extract (a:Int).toNat (e:Int).toNat,n,(a:Int)⟩:aX)]) u eB rfl rfl (dP rfl) λXT _ u=>?_)));have TK:=u.eU;refine cO u.p2 eB TK (by simp;omega) ea (λXU _ u=>?_);have u:=u.p1.drop;obtain⟨h1e,h2e,a2,ZJ,We⟩:=I
  have ajr:=vj ZJ h2e;exact aR UI u (C192 s e (s.size+1) a2 _ bP bP ZJ) (λ_ _ u=>have u:=u.p1.drop;⟨k,bP,a2,_,rfl,ajr.2,by simp;omega,We,u⟩)
 have J:=LG hp bP;subst J;exact⟨_,rfl,u.fresh⟩
end Go.Proofs.YtdncbeepkacgbaaGreatDoor

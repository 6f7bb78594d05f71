/-
  Part 4.
-/
import Derived.Test.YtdncbeepkacgbaaGreatDoorR3x3
set_option maxHeartbeats 8000000
set_option linter.all false
set_option maxRecDepth 100000
open ByteArray renaming mk->ia
open Go.Fw.Flat renaming val->iS,enc->jn,sz->lx,len->ry,pos->P8
open List renaming getElem?_eq_some_iff->j0,getElem?_eq_getElem->kB,length_append->kE,take_of_length_le->kO,mem_of_getElem?->l0,getElem?_eq_none->l2,length_take->mg,append_assoc->mu,length_singleton->nB,length_map->nP,getElem?_map->n3,take_append_drop->ob,length_cons->oh,mem_cons_self->oi,append_nil->oj,length_drop->oC,replicate->oI,mem_cons->oR,getD_eq_getElem?_getD->o4,mem_cons_of_mem->o5,mem_append->pI,length_eq_zero_iff->pP,map_append->rn,take_add_one->tx,range->tL,eraseIdx_eq_take_drop_succ->xd,foldl_append->x6,getElem?_drop->Dk,getElem?_take->DX,range_succ->D8,flatMap_append->GD,getElem?_range->GO,filter_append->HS,length_eraseIdx_of_lt->K9
open Option renaming bind_some->la,some->nM
open Go.Instr renaming build->l1,sliceAt->mv,sliceBounds->qa,box->qv
open Go.Fw.Deep renaming dr->l3,ext->G7
open Go.Value renaming int->mf,slice->ta
open Nat renaming zero_le->mj,le_refl->om,le_of_ble_eq_true->vo,le_trans->x9,lt_succ_self->OY,lt_or_ge->O9,mul_pos->Vt
open Int renaming toNat_natCast->qG
open Bool renaming true_and->tM,not_false->Ia
open Decidable renaming not_not->BL
namespace Go.Proofs.YtdncbeepkacgbaaGreatDoor
open Go.Fw
def C219(I:Value)(ns:List Int)(s:Int)(w:World)(M:dy (λ_=>True) w I ns)(U:ns.length<=1048576):CR 219 [I,hZ s] w (λv w'=>v=hZ (pf (λy=>decide (y=s)) ns)/\Ext w w'):=by
 have u:=St.start w;refine eR Tryz.func219 ?_;refine aI dG (M.ext u.aF) ?_;refine⟨λm x J=>∃k:Nat,x=hZ (k:Int)/\m=ns.length-k/\k<=ns.length/\(∀y∈ns.take k,decide (y=s)=false)/\St w bF [] J,⟨_,0,rfl,rfl,mj _,ew,u⟩,?_⟩;rintro m _ J ⟨k,rfl,rfl,V,B,u⟩ _;refine aQ (aC (λW=>?_) λ_=>⟨gl (mf .i64) (gn (by rw[kO bP]at B;exact B)).symm,u.aF⟩);obtain⟨Y,E⟩:=gx ns (i:=(k:Int).toNat) bP;exact aY dG M bP E (λ_ O=>aE bL (O.ext u.aF) (aG (aC (λG=>⟨gl (mf .i64) (jy B E (fY G.symm)).symm,u.aF⟩) λG=>aM bP ⟨_,bP,k+1,rfl,rfl,bP,eC B E (fZ λh=>G h.symm),u⟩)))
def C115(B:Value)(ns:List Int)(s:Int)(w:World)(E:dy (λ_=>True) w B ns)(G:ns.length<=1048576):CR 115 [B,hZ s] w (λv w'=>v=.bool (ns.any λy=>decide (y=s))/\Ext w w'):=by
 have u:=St.start w;refine eR Tryz.func115 ?_;exact aR acA u (C219 _ _ _ _ (E.ext u.aF) bP) (λ_ _ u=>cJ ⟨vb (iv _ _),u.aF⟩)
def OX{u:UU}{l:List aZ}(h:u∈kD l):u.2.2.length<=1048576:=by
 have:u.2.2.length<=2:=by
  unfold kD at h
  obtain⟨x,_,h⟩:=List.mem_flatMap.1 h
  rw[wc]at h
  unfold nx oM v8 Cs at h
  simp only[pI]at h
  grind
 omega
theorem C49(p:bQ)(pv:bZ)(w:World)(hp:l3 w pv p)(V:PZ p):CR 49 [iS pv] w (λv w'=>∃a:Int,v=.tuple #[hZ (eI p),hZ a]/\Ext w w'):=by
 have FM:=hp;have ahI:=IW V.toPS;obtain⟨cK,dB,cZ,cA,cC,cI,rfl,eN,fW,fN,eJ,eW,fB⟩:=hp;obtain⟨J,Ok,Ol⟩:=eJ.open;obtain⟨O,GL,Q5⟩:=eW.open;have Sr:=Ol.1;have hn4:=Q5.1;have hD:=Ol.append Q5;have ah7:=hD.1
 change (J++O).length=(g9 p).length at ah7
 have E:=St.start w;refine WY _ _ _ ?_;unfold S49;refine cE E (λbp w1 E=>fo E V5 rfl λb2 _ E=>fo E sM rfl λb3 _ E=>aE fS E.p2.At (dW acn (C108 p _ _ (G7 FM E.aF) V) ?_));rintro _ _ ⟨bm,rfl,dw⟩;have E:=E.made dw;refine aJ rfl (aJ rfl (aJ rfl (aE fS E.p3.At (aR abz E (C109 p _ _ (G7 FM E.aF) V) λ_ he E=>bJ (bD (λc=>?_) λc=>?_)))))
 .have h1:jI p=false:=by simpa using c
  have U:eI p=8:=ce8 h1;exact aO E.p2 gq (dQ rfl) rfl (λ_ E=>aO E.p2 bL (dQ rfl) rfl λ_ E=>aB gq E.p1.hb rfl (aB bL E.hb rfl ⟨_,by rw[U],E.aF⟩))
 have h1:jI p=true:=by simpa using c
 refine aE fS E.p3.At (aR aca E (C110 p _ _ (G7 FM E.aF) V) λ_ he E=>bD (λc=>?_) λc=>?_)
 .have h2:sC p=true:=c;have U:eI p=2:=ce2 h1 h2;exact aO E.p2 gq (dQ rfl) rfl (λ_ E=>aO E.p2 bL (dQ rfl) rfl λ_ E=>aB gq E.p1.hb rfl (aB bL E.hb rfl ⟨_,by rw[U],E.aF⟩))
 have h2:sC p=false:=c;refine aE fS E.p3.At (fV I4 E (C111 p _ J O _ (G7 FM E.aF) (Ok.ext E.aF) (GL.ext E.aF) (by have:=V.threads;omega) (by have:=V.recover;omega)) λx38 w38 dw E=>aI kJ E.eS ?_);refine⟨λm x w1=>∃k:Nat,x=hZ (k:Int)/\m=(J++O).length-k/\k<=(J++O).length/\(∀y∈(g9 p).take k,og y.body=false)/\St w bF [bH x38 (J++O),jJ bm (wW p).1,bM b3 [hZ 0],bM b2 [hZ 0],bM bp (jn (⟨cK,dB,cZ,cA,cC,cI⟩:bZ))] w1,⟨_,0,rfl,rfl,mj _,ew,E⟩,?_⟩;rintro m _ _ ⟨k,rfl,rfl,hk,I,E⟩ _
 refine aQ (aC (λc=>?_) λc=>?_)
 .obtain⟨t,ht⟩:=gx (J++O) (i:=((k:Nat):Int).toNat) bP;obtain⟨r,G⟩:=gx (g9 p) (i:=k) bP;have SW:=l0 G;have hrz:=V.sj SW;have hrr:=(oe h1).sj SW;obtain⟨gr,Z,rfl,dr,db⟩:=hD.2 _ _ _ ht G;have Zt:=me hrr.2.1;refine aY kJ E.eS bP ht (λq hq=>aE lq hq (aK E r8 λbt wt E=>aH (x:=(⟨r.name,gr,Z,r.at_⟩:bU)) E lq rfl rfl λwu E=>?_));obtain⟨ah8,hbf,tb,hbt,gi,_,_⟩:=Zt;have Kk:tb.len<=40:=by rw[<- Bk.cM,<- hbt];exact ah8
  have hwl:og r.body=kV tb 1:=by rw[hbt];exact yX gi
  refine aA qQ (aB (v:=iS Z) lV E.hb rfl (dW Vl (C112 _ tb 1 (tb.len+1) _ (by rw[<- hbt];exact DL.ext db E.aF) gi (by rw[<- hbt];exactλx hx=>GI (hbf x hx)) bP bP (OY _)) ?_));rintro _ _ ⟨aa,rfl,he⟩;have E:=E.ext he;refine aJ rfl (aJ rfl (bD (λc9=>?_) λc9=>?_))
  .have h3:(g9 p).any (λt=>og t.body)=true:=nj G (by rw[hwl];exact c9);have U:eI p=11:=ahe h1 h2 h3;exact aO E.p4 gq (dQ rfl) rfl (λ_ E=>aO E.p4 bL (dQ rfl) rfl λ_ E=>aB gq E.p1.hb rfl (aB bL E.hb rfl ⟨_,by rw[U],E.aF⟩))
  exact aM bP (have E:=E.drop;⟨_,bP,k+1,rfl,rfl,bP,eC I G (by rw[hwl];exact c9),E⟩)
 have h3:(g9 p).any (λt=>og t.body)=false:=nk (by rw[kO bP]at I;exact I);have E:=E.drop;refine bD (λc10=>?_) (λc10=>?_)
 .have h4:jo (hG p)=true:=by rw[<- OO];exact c10
  have U:eI p=10:=ahf h1 h2 h3 h4;exact aO E.p2 gq (dQ rfl) rfl (λ_ E=>aO E.p2 bL (dQ rfl) rfl λ_ E=>aB gq E.p1.hb rfl (aB bL E.hb rfl ⟨_,by rw[U],E.aF⟩))
 have h4:jo (hG p)=false:=by rw[<- OO];exact c10
 refine aE fS E.p3.At (fV I4 E (C111 p _ J O _ (G7 FM E.aF) (Ok.ext E.aF) (GL.ext E.aF) (by have:=V.threads;omega) (by have:=V.recover;omega)) λx56 _ dw E=>aI kJ E.eS ?_)
 clear I
 refine⟨λm x w1=>∃k:Nat,x=hZ (k:Int)/\m=(J++O).length-k/\k<=(J++O).length/\(∀y∈(g9 p).take k,sB p y.dJ=false)/\St w bF [bH x56 (J++O),jJ bm (wW p).1,bM b3 [hZ 0],bM b2 [hZ 0],bM bp (jn (⟨cK,dB,cZ,cA,cC,cI⟩:bZ))] w1,⟨_,0,rfl,rfl,mj _,ew,E⟩,?_⟩;rintro m _ _ ⟨k,rfl,rfl,hk,I,E⟩ _;refine aQ (aC (λc=>?_) λc=>?_)
 .obtain⟨t,ht⟩:=gx (J++O) (i:=((k:Nat):Int).toNat) bP;obtain⟨r,G⟩:=gx (g9 p) (i:=k) bP;have SW:=l0 G;have hrz:=V.sj SW;have hrr:=(oe h1).sj SW;obtain⟨gr,Z,rfl,dr,db⟩:=hD.2 _ _ _ ht G;have Zt:=me hrr.2.1;refine aY kJ E.eS bP ht (λq hq=>aE lq hq (aK E r8 λbt wt E=>aH (x:=(⟨r.name,gr,Z,r.at_⟩:bU)) E lq rfl rfl λwu E=>aE lq E.At (dW Vo (C113 (⟨r.name,gr,Z,r.at_⟩:bU) r.dJ bm (wW p).1 _ (DL.flat (DL.ext dr E.aF)) E.p2.jJ (GY p) bP) ?_)))
  rcases Ct h4 r.dJ with⟨AZ,CX⟩|⟨g,AZ,CX,_⟩
  .rintro _ w24 (⟨_,rfl,he⟩|⟨g,bg,L6,_⟩);rotate_left
   .rw[AZ]at L6;cases L6
   have E:=E.ext he;have h5:(g9 p).any (λt=>sB p t.dJ)=true:=nj G CX;refine aJ rfl (aJ rfl (gE (aA yt (have E:=E.drew;aB (v:=hZ r.at_) bL E.hb rfl ?_))));have U:eI p=10:=abV h1 h2 h3 h4 h5;refine aO E.p4 gq (dQ rfl) rfl (λwa E=>?_);refine⟨aX bL (E.p1.hb.cell rfl),?_⟩;exact aO E.p4 bL (dQ rfl) rfl (λ_ E=>aB gq E.p1.hb rfl (aB bL E.hb rfl ⟨_,by rw[U],E.aF⟩))
  rintro _ w24 (⟨L6,_⟩|⟨g2,bg,L6,rfl,dw⟩)
  .rw[AZ]at L6;cases L6
  have E:=(E.made dw).drop.drop;exact aJ rfl (aJ rfl (ep (aM bP ⟨_,bP,k+1,rfl,rfl,bP,eC I G CX,E⟩)))
 have h5:(g9 p).any (λt=>sB p t.dJ)=false:=nk (by rw[kO bP]at I;exact I);have E:=E.drop;refine aE fS E.p3.At (fV I4 E (C111 p _ J O _ (G7 FM E.aF) (Ok.ext E.aF) (GL.ext E.aF) (by have:=V.threads;omega) (by have:=V.recover;omega)) λx73 _ dw E=>aI kJ E.eS ?_)
 clear I
 have E:=GW.nil E;refine⟨λm dv x w1=>∃(k:Nat) (ds:List Nat),dv=iM ds/\x=hZ (k:Int)/\m=(J++O).length-k/\k<=(J++O).length/\(∀y∈(g9 p).take k,y.body.any (qp p y.dJ)=false)/\St w bF [GW ds,bH x73 (J++O),jJ bm (wW p).1,bM b3 [hZ 0],bM b2 [hZ 0],bM bp (jn (⟨cK,dB,cZ,cA,cC,cI⟩:bZ))] w1,⟨_,0,[],rfl,rfl,rfl,mj _,ew,E⟩,?_⟩;rintro m _ _ _ ⟨k,ds,rfl,rfl,rfl,hk,I,E⟩ _;rw[vA];refine aQ (aC (λc=>?_) λc=>?_)
 .obtain⟨t,ht⟩:=gx (J++O) (i:=((k:Nat):Int).toNat) bP;obtain⟨r,G⟩:=gx (g9 p) (i:=k) bP;have SW:=l0 G;have hrz:=V.sj SW;have hrr:=(oe h1).sj SW;obtain⟨gr,Z,rfl,dr,db⟩:=hD.2 _ _ _ ht G;have Zt:=me hrr.2.1;refine aY kJ E.p1.eS bP ht (λq hq=>aE lq hq (aK E r8 λbt wt E=>aH (x:=(⟨r.name,gr,Z,r.at_⟩:bU)) E lq rfl rfl λwu E=>?_))
  have h5r:sB p r.dJ=false:=by
   cases hh:sB p r.dJ with
   | false=>rfl
   | true=>exact absurd (nj (g:=λt:bW=>sB p t.dJ) G hh) (by rw[h5];decide)
  refine aE lq E.At (dW Vo (C113 (⟨r.name,gr,Z,r.at_⟩:bU) r.dJ bm (wW p).1 _ (DL.flat (DL.ext dr E.aF)) E.p3.jJ (GY p) bP) ?_)
  rcases Ct h4 r.dJ with⟨_,CX⟩|⟨g,AZ,CX,_⟩
  .rw[CX]at h5r;cases h5r
  rintro _ w31 (⟨L6,_⟩|⟨g2,bg,L6,rfl,dw⟩)
  .rw[AZ]at L6;cases L6
  obtain rfl:g=g2:=nM.inj (AZ.symm.trans L6);have E:=E.made dw;refine aJ rfl (aJ rfl (fo E Iq rfl λb17 _ E=>aO E AI (dQ rfl) rfl λ_ E=>aA qQ (aB (v:=iS Z) lV E.p2.hb rfl (dW acq (C114 Z _) ?_))));rintro _ _ ⟨bu,rfl,acC⟩;have E:=E.made acC;have hbz:=hrz.1.2.2;have acD:=OW h4 AZ Zt.2.1;obtain⟨tsb,hRb,hDb⟩:=db.open
  refine OF (cap:=[.pointer (some ⟨bu,0,none⟩)]) (kD r.body).length (I9 (kD r.body)) acr E
   (λj M=>(∀i,i<j->∀u,(kD r.body)[i]?=some u->xw g u=false)/\M=[bM bu [iS Z],bM b17 [.map (some bg)],jJ bg g,bM bt (jn (⟨r.name,gr,Z,r.at_⟩:bU)),GW ds,bH x73 (J++O),jJ bm (wW p).1,bM b3 [hZ 0],bM b2 [hZ 0],bM bp (jn (⟨cK,dB,cZ,cA,cC,cI⟩:bZ))])
   (λcx M=>cx=.ret/\(kD r.body).any (xw g)=true/\∃a L,M=bM b3 [hZ a]::bM b2 [hZ 9]::GW ds::L) ⟨λ_ hi=>absurd hi (Nat.not_lt_zero _),rfl⟩ (by rintro j a Φ ⟨u,s,_,rfl,_⟩;rfl) ?_ ?_ ?_ ?_ ?_ ?_
  .intro y Y Jx W h0 hy;refine(C217 y bu (iS Z) tsb r.body w bF _ Jx W bP (λx hx=>⟨(hbz x hx).2.2.1,(hbz x hx).2.2.2.1⟩) ?_ ?_ hy).mono λ_ _ rr=>rr.mono λv W' h=>?_
   .rintro j _ W2 ⟨M,⟨_,rfl⟩,rfl⟩ SN;exact⟨SN.p1.hb.cell rfl,hRb.ext SN.aF,hDb.ext SN.aF⟩
   .obtain⟨M,h1,h2⟩:=h0;exact⟨_,⟨M,h1,rfl⟩,h2⟩
   rcases h with⟨_,⟨M,h1,rfl⟩,h2⟩|h
   .exact .inl ⟨M,h1,h2⟩
   exact .inr h
  .rintro j args Φ Y1 Y2 B Kr M W ⟨u,s,hu,rfl,KT⟩ ⟨hjn,rfl⟩ hΦ hB hN hR E;dsimp only[yf];refine aK E RP (λb9 _ E=>aH (x:=(⟨u.1,u.2.1,s⟩:Cq)) E aaN rfl rfl λ_ E=>?_);refine hB _ _ _ E.p1 (λw38 E=>?_);refine aA MQ (aB (v:=iS s) eK E.p1.hb rfl (aB AI E.p3.hb rfl (aA MO (aB (v:=.string u.1) jZ E.p1.hb rfl (si E.p4.jJ Tryz.underlying184 Tryz.underlying9 sM ?_)))))
   have LY:dy (λ_=>True) w38 (iS s) u.2.2:=by
    obtain⟨F,h1,_⟩:=E.head;exact KT _ (hΦ _ _ h1)
   have hul:u.2.2.length<=1048576:=OX (l0 hu);refine aR acz E (C115 _ u.2.2 (dF g u.1) _ LY hul) (λ_ he E=>bJ (bD (λc11=>aA MP (have E:=E.drew;aB (v:=hZ u.2.1) bL E.p1.hb rfl (have E:=E.p2.drop;aO E.p9 gq (dQ rfl) rfl λ_ E=>⟨aX bL (E.p2.hb.cell rfl),aO E.p9 bL (dQ rfl) rfl λ_ E=>hR .ret _ _ E.p7.p2.p2.p3 ⟨rfl,nj hu (by unfold xw;exact c11),_,_,rfl⟩⟩))) λc11=>?_));refine hN _ _ E.p1.drop ⟨λi hi u2 hu2=>?_,rfl⟩
   rcases O9 i j with h|h
   .exact hjn i h u2 hu2
   obtain rfl:i=j:=bP
   rw[hu]at hu2;cases hu2
   unfold xw;exact c11
  .rintro D M W ⟨hjn,rfl⟩ E;refine aM bP ?_;have E:=St.join (H1:=jV D (.deferred (some []))) E.p1.drop.p1.drop.p1.drop.p1.drop;refine⟨_,bP,k+1,D::ds,rfl,rfl,rfl,bP,eC I G ?_,E⟩;rw[<- acD];refine nk λu hu=>?_;obtain⟨i,hi⟩:=List.mem_iff_getElem?.1 hu;exact hjn i (j0.1 hi).1 u hi
  .rintro D M W ⟨_,aid,a,L,rfl⟩ E;have h6:(g9 p).any (λt=>t.body.any (qp p t.dJ))=true:=nj G (by rw[<- acD];exact aid);have U:eI p=9:=ce9 h1 h2 h3 h4 h5 h6;have E:=St.join (H1:=jV D (.deferred (some []))) E.p3.p1;refine GW.take (D::ds) E (λ_ E=>?_);exact aB gq E.p1.hb rfl (aB bL E.hb rfl ⟨_,by rw[U],E.aF⟩)
  .rintro id D M W ⟨h,_⟩;cases h
  rintro cx M ⟨h,_⟩;exact .inr h
 have h6:(g9 p).any (λt=>t.body.any (qp p t.dJ))=false:=nk (by rw[kO bP]at I;exact I);have E:=E.p1.drop;have hzc:=V.ef;obtain⟨Vj,hR5,hD5⟩:=fB.open;have xP:=hD5.1;refine aA rZ (aB (v:=iS cI) DB E.p4.hb rfl (aI BP (hR5.ext E.aF) ?_))
 clear I
 refine⟨λm x w1=>∃k:Nat,x=hZ (k:Int)/\m=Vj.length-k/\k<=Vj.length/\(∀y∈p.ef.take k,qo y.e (fP p)=false)/\St w bF [GW ds,jJ bm (wW p).1,bM b3 [hZ 0],bM b2 [hZ 0],bM bp (jn (⟨cK,dB,cZ,cA,cC,cI⟩:bZ))] w1,⟨_,0,rfl,rfl,mj _,ew,E⟩,?_⟩;rintro m _ _ ⟨k2,rfl,rfl,IQ,I,E⟩ _;refine aQ (aC (λc12=>?_) λc12=>?_)
 .obtain⟨t,ht⟩:=gx Vj (i:=((k2:Nat):Int).toNat) bP;obtain⟨r,G⟩:=gx p.ef (i:=k2) bP;have hrz:=V.zc r (l0 G);obtain⟨ge,rfl,de⟩:=hD5.2 _ _ _ ht G;have dE:=DL.flat de;refine aY BP (hR5.ext E.aF) bP ht (λq hq=>aE BS hq (aK E Gf λbc _ E=>aH (x:=(⟨ge,r.at_⟩:ig)) E BS rfl rfl λ_ E=>aA BT (aB (v:=iS ge) lF E.hb rfl (aI ju (dE.ext E.aF) ?_))));have hvc:=G0 h4 r.e;refine⟨λm x w1=>∃j:Nat,x=hZ (j:Int)/\m=r.e.length-j/\j<=r.e.length/\(∀y∈r.e.take j,(decide (y.op=2)&&decide (¬ dF (wW p).1 y.name=1))=false)/\St w bF [bM bc (jn (⟨ge,r.at_⟩:ig)),GW ds,jJ bm (wW p).1,bM b3 [hZ 0],bM b2 [hZ 0],bM bp (jn (⟨cK,dB,cZ,cA,cC,cI⟩:bZ))] w1,⟨_,0,rfl,rfl,mj _,ew,E⟩,?_⟩
  rintro m _ _ ⟨j,rfl,rfl,hj,hnj,E⟩ _;refine aQ (aC (λc13=>?_) λc13=>?_)
  .obtain⟨y,hy⟩:=gx r.e (i:=((j:Nat):Int).toNat) bP;refine aY ju (dE.ext E.aF) bP hy (λq hq=>aE wM hq (aK E BU λby_ _ E=>aH (x:=y) E wM rfl rfl λw50 E=>?_));refine⟨λjv w'=>jv=.bool (decide (y.op=2)&&decide (¬ dF (wW p).1 y.name=1))/\w'=w50,?_,?_⟩
   .exact aA im (aB (v:=hZ y.op) bL E.hb rfl (aG (aC (λc14=>aA lW (aB (v:=.string y.name) jZ E.hb rfl (si E.p3.jJ Tryz.underlying184 Tryz.underlying9 sM (cB ⟨vb (by rw[fY c14,tM]),rfl⟩)))) λc14=>⟨vb (by rw[fZ c14,Bool.false_and]),rfl⟩)))
   rintro _ _ ⟨rfl,rfl⟩ _;refine bD (λc15=>?_) (λc15=>aM bP ⟨_,bP,j+1,rfl,rfl,bP,eC hnj hy c15,E.drop⟩);have h7:p.ef.any (λc=>qo c.e (fP p))=true:=nj G (by rw[<- hvc];exact nj hy c15);have U:eI p=9:=ahg h1 h2 h3 h4 h5 h6 h7;refine aA ux (have E:=E.drew;aB (v:=hZ y.at_) bL E.hb rfl (aO E.p5 gq (dQ rfl) rfl λwa E=>?_));refine⟨aX bL (E.p1.hb.cell rfl),?_⟩;refine aO E.p5 bL (dQ rfl) rfl (λwb E=>?_);refine GW.take ds E.p4 (λw54 E=>?_);exact aB gq E.p1.hb rfl (aB bL E.hb rfl ⟨_,by rw[U],E.aF⟩)
  refine aM bP ?_;refine⟨_,bP,k2+1,rfl,rfl,bP,eC I G ?_,E.drop⟩;rw[<- hvc];exact nk (by rw[kO bP]at hnj;exact hnj)
 have h7:p.ef.any (λc=>qo c.e (fP p))=false:=nk (by rw[kO bP]at I;exact I);have U:eI p=0:=ce0 h1 h2 h3 h4 h5 h6 h7;refine aO E.p3 gq (dQ rfl) rfl (λwa E=>aO E.p3 bL (dQ rfl) rfl λwb E=>?_);refine GW.take ds E.p2 (λw54 E=>?_);exact aB gq E.p1.hb rfl (aB bL E.hb rfl ⟨_,by rw[U],E.aF⟩)
def C117(E:Value)(xs:List Int)(w:World)(G:dy (λ_=>True) w E xs)(U:xs.length<=1000000):CR 117 [E] w (λv w'=>mD (bH v xs) w w'):=by
 have u:=St.start w;refine eR Tryz.func117 ?_;refine Kw Tryz.underlying22 (G.ext u.aF) (λp I=>bD (λB=>?_) λB=>?_)
 .have M:=I B;subst M;exact(u.eD (α:=Int)).fresh
 refine bK ([]:List Int) u dG rfl rfl (dQ rfl) (λO _ u=>?_);have J:=(G.ext u.aF);exact cO u dG J (by simp;omega) ea (λ_ _ u=>u.fresh)
def ny(x y:bE):Bool:=decide (x.kind≠7/\y.kind≠7/\(x.kind=6\/y.kind=6)/\x.line≠y.line)
def right(x:bE):Bool:=decide ((x.kind=3/\0<=x.line/\0<=x.cell)\/((x.kind=5\/x.kind=6)/\0<=x.line/\x.cell=0/\x.n=0)\/(x.kind=7/\x.line=0/\x.cell=0/\x.n=0))
def C252(x y:bE)(w:World):CR 252 [iS x,iS y] w (λv w'=>v=.bool (ny x y)/\Ext w w'):=by
 have u:=St.start w;refine eR Tryz.func252 ?_;refine cE u (λU _ u=>cE u λE _ u=>?_);refine⟨_,?_,λ_ _ h=>h⟩;refine aA nf (aB bL u.p1.hb rfl (aG (aC (λM=>?_) λM=>?_)))
 .intro J;refine⟨_,?_,λ_ _ h=>h⟩;refine bJ (ep ?_);intro B;refine⟨vb ?_,u.aF⟩;unfold ny
  first|exact(fY bP).symm|exact(fZ bP).symm|exact ga.2 bP|exact ga.2 (bE.ext_iff.trans (by dsimp only;omega))
 refine aA nf (aB bL u.hb rfl (aG ?_));intro J;refine⟨_,?_,λ_ _ h=>h⟩
 first|refine Dq ?_|refine bJ ?_
 refine aC (λO=>aA nf (aB bL u.p1.hb rfl (aG (aC (λG=>?_) λG=>aA nf (aB bL u.hb rfl (aG (aC (λI=>?_) λI=>?_))))))) (λO=>?_)
 .refine aA kN (aB bL u.p1.hb rfl (aA kN (aB bL u.hb rfl (cB ?_))));intro B;refine⟨vb ?_,u.aF⟩;unfold ny
  first|exact(fY bP).symm|exact(fZ bP).symm|exact ga.2 bP|exact ga.2 (bE.ext_iff.trans (by dsimp only;omega))
 .refine aA kN (aB bL u.p1.hb rfl (aA kN (aB bL u.hb rfl (cB ?_))));intro B;refine⟨vb ?_,u.aF⟩;unfold ny
  first|exact(fY bP).symm|exact(fZ bP).symm|exact ga.2 bP|exact ga.2 (bE.ext_iff.trans (by dsimp only;omega))
 .intro B;refine⟨vb ?_,u.aF⟩;unfold ny
  first|exact(fY bP).symm|exact(fZ bP).symm|exact ga.2 bP|exact ga.2 (bE.ext_iff.trans (by dsimp only;omega))
 intro B;refine⟨vb ?_,u.aF⟩;unfold ny
 first|exact(fY bP).symm|exact(fZ bP).symm|exact ga.2 bP|exact ga.2 (bE.ext_iff.trans (by dsimp only;omega))
def eqE(x y:bE):ue (jn x) (jn y)=decide (x=y):=by
 obtain⟨a,b,c,d⟩:=x
 obtain⟨E,b2,u,B⟩:=y
 simp[jn,ue,eqV,Bool.eq_iff_iff]
def C261(x:bE)(w:World):CR 261 [iS x] w (λv w'=>v=.bool (right x)/\Ext w w'):=by
 have u:=St.start w;refine eR Tryz.func261 ?_;refine cE u (λW _ u=>aA nf (aB bL u.hb rfl (aG (aC (λJ=>⟨_,aA kN (aB bL u.hb rfl (cJ (aC (λM=>?_) λM=>?_))),λ_ _ h=>h⟩) λJ=>⟨_,aG (aC (λO=>?_) λO=>?_),λ_ _ h=>h⟩))))
 .refine aA pa (aB bL u.hb rfl (cJ ?_));intro V;refine⟨vb ?_,u.aF⟩;unfold right
  first|exact(fY bP).symm|exact(fZ bP).symm|exact ga.2 bP|exact ga.2 (bE.ext_iff.trans (by dsimp only;omega))
 .intro V;refine⟨vb ?_,u.aF⟩;unfold right
  first|exact(fY bP).symm|exact(fZ bP).symm|exact ga.2 bP|exact ga.2 (bE.ext_iff.trans (by dsimp only;omega))
 .intro U;refine aC (λI=>⟨_,aA kN (aB bL u.hb rfl (cJ (aC (λE=>aA pa (aB bL u.hb rfl (aG (aC (λG=>?_) λG=>?_)))) λE=>?_))),λ_ _ h=>h⟩) (λI=>?_)
  .refine aA qY (aB bL u.hb rfl (aG ?_));intro B;refine⟨vb ?_,u.aF⟩;unfold right
   first|exact(fY bP).symm|exact(fZ bP).symm|exact ga.2 bP|exact ga.2 (bE.ext_iff.trans (by dsimp only;omega))
  .intro B;refine⟨vb ?_,u.aF⟩;unfold right
   first|exact(fY bP).symm|exact(fZ bP).symm|exact ga.2 bP|exact ga.2 (bE.ext_iff.trans (by dsimp only;omega))
  .intro B;refine⟨vb ?_,u.aF⟩;unfold right
   first|exact(fY bP).symm|exact(fZ bP).symm|exact ga.2 bP|exact ga.2 (bE.ext_iff.trans (by dsimp only;omega))
  refine aE jB u.At (pop (yx _) (AF M4 rfl rfl (eqE x ⟨7,0,0,0⟩) ?_));refine⟨vb ?_,u.aF⟩;unfold right
  first|exact(fY bP).symm|exact(fZ bP).symm|exact ga.2 bP|exact ga.2 (bE.ext_iff.trans (by dsimp only;omega))
 refine aG ?_;intro U;refine aC (λI=>⟨_,aA kN (aB bL u.hb rfl (cJ (aC (λE=>aA pa (aB bL u.hb rfl (aG (aC (λG=>?_) λG=>?_)))) λE=>?_))),λ_ _ h=>h⟩) (λI=>?_)
 .refine aA qY (aB bL u.hb rfl (aG ?_));intro B;refine⟨vb ?_,u.aF⟩;unfold right
  first|exact(fY bP).symm|exact(fZ bP).symm|exact ga.2 bP|exact ga.2 (bE.ext_iff.trans (by dsimp only;omega))
 .intro B;refine⟨vb ?_,u.aF⟩;unfold right
  first|exact(fY bP).symm|exact(fZ bP).symm|exact ga.2 bP|exact ga.2 (bE.ext_iff.trans (by dsimp only;omega))
 .intro B;refine⟨vb ?_,u.aF⟩;unfold right
  first|exact(fY bP).symm|exact(fZ bP).symm|exact ga.2 bP|exact ga.2 (bE.ext_iff.trans (by dsimp only;omega))
 refine aE jB u.At (pop (yx _) (AF M4 rfl rfl (eqE x ⟨7,0,0,0⟩) ?_));refine⟨vb ?_,u.aF⟩;unfold right
 first|exact(fY bP).symm|exact(fZ bP).symm|exact ga.2 bP|exact ga.2 (bE.ext_iff.trans (by dsimp only;omega))
def pA(l:List bE)(i:Int):Bool:=decide (0<=i/\i<l.length)&&(match l[i.toNat]? with|some x=>(l.take i.toNat).all (ny x)|none=>false)
def qq(l:List bE):List Int:=((tL l.length).map fun (k:Nat)=>(k:Int)).filter (pA l)
theorem pB{l:List bE}{i:Int}(h:i<0\/(l.length:Int)<=i):pA l i=false:=by
 grind[pA]
def SX{l:List bE}{i:Int}{x:bE}(B:0<=i)(h1:i<l.length)(u:l[i.toNat]?=some x):pA l i = !(l.take i.toNat).any λy=>!ny x y:=by
 grind[pA,ny]
def oN(l:List bE)(k:Nat):List Int:=((tL k).map fun (k:Nat)=>(k:Int)).filter (pA l)
def KW(l:List bE)(k:Nat):(oN l k).length<=k:=by
 grind[oN]
theorem G3{l:List bE}{k:Nat}(h:pA l k=true):oN l (k+1)=oN l k++[(k:Int)]:=by
 unfold oN;rw[D8,rn,HS];simp[h]
theorem KX{l:List bE}{k:Nat}(h:pA l k=false):oN l (k+1)=oN l k:=by
 unfold oN;rw[D8,rn,HS];simp[h]
theorem G4(l:List bE){k:Nat}(h:k=l.length):oN l k=qq l:=by subst h;rfl
def sD(w:World)(p:Nat)(room:Int)(l:List bE):Prop:=∃u,Cell w p 0 (hZ room)/\Cell w p 1 u/\dy (λ_=>True) w u l
def kW(p:Nat)(room:Int)(l:List bE):HP:=oV λu=>sep (bM p [hZ room,u]) (bH u l)
theorem sD.ext{w w':World}{p:Nat}{room:Int}{l:List bE}(h:sD w p room l)(e:Ext w w'):sD w' p room l:=by
 obtain⟨u,h1,h2,h3⟩:=h;exact⟨u,h1.ext e,h2.ext e,h3.ext e⟩
def kW.rd{w:World}{F:Nat->Prop}{p:Nat}{room:Int}{l:List bE}(h:(kW p room l).p w F):sD w p room l:=by
 obtain⟨u,B,E,h1,h2,_⟩:=h
 exact⟨u,h1.1.cell rfl,h1.1.cell rfl,(bH.rd h2).mono λ_ _=>trivial⟩
def C310(J fv:Value)(xs:List bE)(g:bE->Bool)(w:World)(M:dy (λ_=>True) w J xs)(V:qF w fv g)(hn:xs.length<=1073741824):CR 310 [J,fv] w (λv w'=>v=hZ (pf g xs)/\Ext w w'):=by
 obtain⟨g0,first,cap,rfl,Y,O⟩:=V;have u:=St.start w;refine eR Tryz.func310 ?_;refine aI iD (M.ext u.aF) ?_;refine⟨λm x G=>∃k:Nat,x=hZ (k:Int)/\m=xs.length-k/\k<=xs.length/\(∀y∈xs.take k,g y=false)/\St w bF [] G,⟨_,0,rfl,rfl,mj _,ew,u⟩,?_⟩;rintro m _ G ⟨k,rfl,rfl,hk,B,u⟩ _;refine aQ (aC (λj6=>?_) λ_=>⟨gl (mf .i64) (gn (by rw[kO bP]at B;exact B)).symm,u.aF⟩);obtain⟨W,E⟩:=gx xs (i:=(k:Int).toNat) bP;refine aY iD (M.ext u.aF) bP E (λ_ Z=>aE jB Z (fj Y (O W G u.aF) ?_))
 rintro _ _ ⟨rfl,U⟩;have u:=u.ext U;exact bD (λI=>⟨gl (mf .i64) (jy B E I).symm,u.aF⟩) (λI=>aM bP ⟨xs.length-(k+1),bP,k+1,rfl,rfl,bP,eC B E I,u⟩)
def C253(B fv:Value)(xs:List bE)(g:bE->Bool)(w:World)(G:dy (λ_=>True) w B xs)(E:qF w fv g)(I:xs.length<=1073741824):CR 253 [B,fv] w (λv w'=>v=.bool (xs.any g)/\Ext w w'):=by
 have u:=St.start w;refine eR Tryz.func253 ?_;exact aR aap u (C310 _ _ _ _ _ (G.ext u.aF) (E.ext u.aF) bP) (λ_ _ u=>cJ ⟨vb (iv _ _),u.aF⟩)
def C251(x y:bE)(p b2 b3:Nat)(i:Int)(room:Int)(l:List bE)(w:World)(h2:Cell w b2 0 (.pointer (some ⟨p,0,none⟩)))(h3:Cell w b3 0 (hZ i))(hb:sD w p room l)(E:0<=i)(B:l[i.toNat]?=some x):CR 251 [iS y,.pointer (some ⟨b2,0,none⟩),.pointer (some ⟨b3,0,none⟩)] w (λv w'=>v=.bool (!ny x y)/\Ext w w'):=by
 obtain⟨O,M,I,J⟩:=hb;have U:=(j0.1 B).1;have u:=St.start w;refine qg Tryz.func251 (pl:=agu) ?_;exact cE u (λ_ _ u=>have u:=u.drew;cD um (h2.ext u.aF) (aD (aA iq (cD mA (I.ext u.aF) (cD bL (h3.ext u.aF) (aY iD (J.ext u.aF) E B λ_ G=>aE jB G (aE jB u.At (aR aac u (C252 x y _) λ_ _ u=>bJ ⟨rfl,u.aF⟩))))))))
def C147(p:Nat)(i:Int)(room:Int)(l:List bE)(w:World)(hb:sD w p room l)(hn:l.length<=1073741824):CR 147 [.pointer (some ⟨p,0,none⟩),hZ i] w (λv w'=>v=.bool (pA l i)/\Ext w w'):=by
 have WZ:=hb;obtain⟨sv,zW,O,V⟩:=hb;have u:=St.start w;refine qg Tryz.func147 (pl:=agj) ?_;refine jP u rfl (λB M u=>jP u rfl λE _ u=>?_);refine⟨_,?_,λ_ _ h=>h⟩;have u:=u.drew;refine aB bL u.hb rfl (aQ (aC (λZ=>?_) λZ=>?_))
 .intro Y;exact gE ⟨vb (pB bP).symm,u.aF⟩
 refine aB bL u.hb rfl (aB um u.p1.hb rfl (aD (aA iq (cD mA (O.ext u.aF) (aI iD (V.ext u.aF) (cJ ?_))))));intro Y;refine aC (λ_=>⟨vb (pB bP).symm,u.aF⟩) (λcW=>have u:=u.drew;aB um u.p1.hb rfl (aD (aA iq (cD mA (O.ext u.aF) (aB bL u.hb rfl (AD iD (V.ext u.aF) bP bP λG W=>?_))))));obtain⟨x,U⟩:=gx l (i:=i.toNat) bP
 have I:qF _ (.func (.func 251) [].toArray [.pointer (some ⟨B,0,none⟩),.pointer (some ⟨E,0,none⟩)].toArray) (λy=>!ny x y):=
  ⟨251,[],_,rfl,aab,λy M J=>C251 x y p B E i room l M ((u.p1.hb.cell rfl).ext J) ((u.hb.cell rfl).ext J) ((WZ.ext u.aF).ext J) bP U⟩
 exact aR aad u (C253 _ _ _ _ _ W I (by rw[mg];omega)) (λ_ _ u=>bJ ⟨vb (SX bP bP U).symm,u.aF⟩)
def C145(p:Nat)(room:Int)(l:List bE)(w:World)(hb:sD w p room l):CR 145 [.pointer (some ⟨p,0,none⟩)] w (λv w'=>v=.bool (decide (room<=l.length))/\Ext w w'):=by
 obtain⟨I,E,G,B⟩:=hb;have u:=St.start w;refine qg Tryz.func145 (pl:=agi) ?_;exact aD (aA iq (have u:=u.drew;cD mA (G.ext u.aF) (aI iD (B.ext u.aF) (aD (aA MR (cD bL (E.ext u.aF) (cJ ⟨rfl,u.aF⟩)))))))
def C69(p:Nat)(room:Int)(l:List bE)(w:World)(hb:sD w p room l)(V:l.length<=1048576):CR 69 [.pointer (some ⟨p,0,none⟩)] w (λv w'=>mD (bH v (qq l)) w w'):=by
 have J:=hb;obtain⟨sv,Z,I,U⟩:=hb;have u:=St.start w;refine eR Tryz.func69 ?_;refine aD (aA iq (cD mA (I.ext u.aF) (aI iD (U.ext u.aF) ?_)));refine⟨λm o x E=>∃k:Nat,x=hZ (k:Int)/\m=l.length-k/\k<=l.length/\St w bF [bH o (oN l k)] E,⟨_,0,rfl,rfl,mj _,u.eD⟩,?_⟩;rintro m o _ E ⟨k,rfl,rfl,Y,u⟩ _;have OV:=KW l k;refine aQ (aC (λG=>⟨_,aR Uk u (C147 _ _ _ _ _ (J.ext u.aF) bP) (λ_ he u=>bD (λB=>?_) λB=>?_),λ_ _ h=>h⟩) λG=>?_)
 .refine bK ([(k:Int)]:List Int) u dG rfl rfl (dQ rfl) (λW _ u=>?_);have O:=u.eS;refine cO u.p1 dG O (by simp<;>omega) ea (λU7 _ u=>?_);have u:=u.p1.drop;intro M;exact aM bP ⟨l.length-(k+1),bP,k+1,rfl,rfl,bP,by rw[G3 B];exact u⟩
 .intro M;exact aM bP ⟨l.length-(k+1),bP,k+1,rfl,rfl,bP,by rw[KX B];exact u⟩
 rw[G4 l bP]at u;exact u.fresh
def G5(room:Int)(l:List bE)(x:bE):Int:=if right x=true then(if room<=l.length then 2 else 0)else 1
def sE(room:Int)(l:List bE)(x:bE):List bE:=if right x=true/\¬ room<=l.length then l++[x]else l
def ei(l:List bE)(i:Int):bE:=if pA l i=true then(l[i.toNat]?).getD ⟨0,0,0,0⟩else⟨0,0,0,0⟩
def u6(l:List bE)(i:Int):Int:=if 0<=i/\i<l.length then(if pA l i=true then 0 else 13)else 1
def ky(l:List bE)(i:Int):List bE:=if pA l i=true then l.eraseIdx i.toNat else l
theorem SY{l:List bE}{i:Int}(h:pA l i=true):0<=i/\i<l.length:=by
 unfold pA at h;grind
def sD.mk'{w:World}{p:Nat}{room:Int}{u:Value}{l:List bE}(h1:nY w p [hZ room,u])(h2:dy (λ_=>True) w u l):sD w p room l:=
 ⟨u,h1.cell rfl,h1.cell rfl,h2⟩
def kW.shut{w0 w:World}{A:Nat->Prop}{R:List HP}{p:Nat}{room:Int}{u:Value}{l:List bE}(B:St w0 A (bM p [hZ room,u]::bH u l::R) w):St w0 A (kW p room l::R) w:=
 St.dO (H:=λu=>sep (bM p [hZ room,u]) (bH u l)) u (St.join B)
def Jf{w0 w:World}{A:Nat->Prop}{R:List HP}{p:Nat}{room:Int}{l:List bE}(u:St w0 A (kW p room l::R) w):sD w p room l:=by
 obtain⟨F,h,_⟩:=u.head;exact kW.rd h
def C258(v:Value)(i:Int)(xs:List bE)(F:Nat->Prop)(w:World)(Z:(bH v xs).p w F)(h0:0<=i)(hi:i<xs.length)(hn:xs.length<=1073741824) :
  CR 258 [v,hZ i,hZ (i+1)] w (λv' w'=>True/\mC F (bH v' (xs.eraseIdx i.toNat)) w w'):=by
 obtain⟨i,rfl⟩:=Int.eq_ofNat_of_zero_le h0;replace hi:i<xs.length:=bP
 rw[qG];have LY:=bH.rd Z;obtain⟨b,cap,rest,rfl,hb,u,J⟩:=mS Z hi;have hlen:(flat xs).length=xs.length*4:=cG xs;have xi:xs.length<=cap:=u.1;replace u:=u.2
 change cap*4<=_ at u
 refine Ru _ _ _ _ _ ?_;unfold S258;refine pop (BK iD) (M6 iD bP bP bP bP λ_=>aG (aC (λc=>absurd c bP) λ_=>pop (BK iD) ?_))
 have O:pr hM (mv 198 (.slice (some ⟨b,0,none⟩) xs.length cap) none (some (hZ (i:Int))) none)=some (.slice (some ⟨b,0,none⟩) i cap):=by
  rw[qN iD (l:=0) (h:=i) (km (.inl ⟨rfl,rfl⟩) (.inr ⟨_,rfl,bP,bP⟩) bP bP)];simp[fm]
 refine pop O (Kh iD LY bP bP λs25 B=>?_);rw[show((i:Int)+1).toNat=i+1 from bP]at B;have U:(xs.drop (i+1)).length=xs.length-(i+1):=ew
 obtain⟨w1,W,b1,g1⟩:=z7 (P:=hM) (R:=198) (n:=i) (cap:=cap) iD (hb.of_eq (w':=drew w) rfl) (B.ext (Ext.drew w)) bP (by rw[kE,hlen,U];change i*4+(xs.length-(i+1))*4<=_;omega);rw[U,show i+(xs.length-(i+1))=xs.length-1 from bP]at W;refine⟨_,w1,W,?_⟩;refine pop (BK iD) ?_
 have I:pr hM (mv 198 (.slice (some ⟨b,0,none⟩) (xs.length-1) cap) (some (hZ ((xs.length-1:Nat):Int))) (some (hZ (xs.length:Int))) none)=some (.slice (some ⟨b,(xs.length-1)*4,none⟩) 1 (cap-(xs.length-1))):=by
  rw[qN iD (l:=xs.length-1) (h:=xs.length) (km (.inr ⟨_,rfl,bP,bP⟩) (.inr ⟨_,rfl,bP,bP⟩) bP bP),fg bP];simp[fm];omega
 refine pop I ?_;have hx:xs[i]?=some xs[i]:=by simp[hi]
 have Kj:=s7 hx;have E:(flat (xs.take i)).length=i*4:=by rw[cG,mg,Nat.min_eq_left bP];rfl
 have M:(flat (xs.drop (i+1))).length=(xs.length-(i+1))*4:=by rw[cG,U];rfl
 have Y:(jn xs[i]).length=4:=rfl;have V:(flat (oI 1 (⟨0,0,0,0⟩:bE))).length=4:=rfl
 have s1:fO (flat xs++rest) (i*lx bE) (flat (xs.drop (i+1))) =
   flat (xs.take i)++flat (xs.drop (i+1))++((jn xs[i]++flat (xs.drop (i+1))).drop (flat (xs.drop (i+1))).length++rest):=by
  have:=jg (flat (xs.take i)) ((jn xs[i]++flat (xs.drop (i+1))).take (flat (xs.drop (i+1))).length)
   ((jn xs[i]++flat (xs.drop (i+1))).drop (flat (xs.drop (i+1))).length++rest) (flat (xs.drop (i+1))) (by rw[mg,kE];omega)
  rw[E]at this
  change fO (flat xs++rest) (i*4) _=_
  rw[<- this,Kj]
  have e0:∀(a b c d:List Value) (n:Nat),a++(b++c)++d=a++(b++c).take n++((b++c).drop n++d):=λa b c d n=>by
   rw[mu a ((b++c).take n),<- mu ((b++c).take n),ob,mu a]
  exact gl (λz=>fO z (i*4) (flat (xs.drop (i+1)))) (by first|exact e0 _ _ _ _ _|(rw[<- e0];simp only[mu])|(simp only[mu];rw[<- mu (List.take _ _),ob,mu]))
 rw[s1]at b1
 obtain⟨w2,r2,b2,g2⟩:=Ku (P:=hM) (R:=0) (o:=(xs.length-1)*4) (n:=1) (c:=cap-(xs.length-1)) (z:=(⟨0,0,0,0⟩:bE)) iD r9 b1
  (by simp only[kE,oC,E,M,Y];change _+1*4<=_;omega)
 refine⟨_,w2,r2,?_⟩
 have s2:=jg (flat (xs.take i)++flat (xs.drop (i+1))) ((jn xs[i]++flat (xs.drop (i+1))).drop (flat (xs.drop (i+1))).length) rest (flat (oI 1 (⟨0,0,0,0⟩:bE)))
  (by rw[oC,kE,Y,V];omega)
 rw[show(flat (xs.take i)++flat (xs.drop (i+1))).length=(xs.length-1)*4 from by rw[kE,E,M];omega,mu _ _ rest]at s2;rw[s2]at b2;refine⟨trivial,F,.inr ⟨b,cap,flat (oI 1 (⟨0,0,0,0⟩:bE))++rest,?_,?_,?_,J⟩,λ_ hb=>.inl hb,((Ext.drew w).aF (A:=F)).trans (g1.trans (C:=F) g2 (λk G=>(J k).2 G) λk _ G=>(J k).2 G) (λ_ h=>h) λ_ _ h=>h⟩
 .rw[K9 hi]
 .rw[xd,fp,<- mu];exact b2
 refine⟨by rw[K9 hi];omega,?_⟩;rw[xd,fp]
 change cap*4<=_
 rw[kE,hlen]at u;simp only[kE,E,M,V];omega
def C250(E:Value)(xs:List bE)(w:World)(I:dy (λ_=>True) w E xs)(V:xs.length<=1073741824):CR 250 [E] w (λv w'=>mD (bH v xs) w w'):=by
 have B:=I;obtain⟨a,cap,rfl,W,h3⟩:=I;have u:=St.start w;refine eR Tryz.func250 ?_;refine MJ (eu iD).1 (λM=>?_) ?_
 .rcases h3 with⟨h,hc⟩|⟨b,o,h,_⟩
  .exact⟨by rw[h];rfl,hc⟩
  rw[M]at h;cases h
 refine bD (λG=>?_) (λG=>?_)
 .have J:a=none:=by cases a with|none=>rfl|some _=>cases G
  have U:xs=[]:=by
   rcases h3 with⟨h,_⟩|⟨b,o,h,_⟩
   .exact h
   .rw[J]at h;cases h
  subst U;exact u.eD.fresh
 refine bK ([]:List bE) u iD rfl rfl (dQ rfl) (λY _ u=>?_);have O:=(B.ext u.aF);exact cO u iD O (by simp<;>omega) ea (λ_ _ u=>u.fresh)
def C143(p:Nat)(room:Int)(l:List bE)(w:World)(hb:sD w p room l)(I:l.length<=1073741824):CR 143 [.pointer (some ⟨p,0,none⟩)] w (λv w'=>mD (bH v l) w w'):=by
 obtain⟨J,M,G,E⟩:=hb;have u:=St.start w;refine eR Tryz.func143 ?_;refine aD (aA iq (cD mA (G.ext u.aF) (dW Uq (C250 _ _ _ (E.ext u.aF) bP) ?_)));rintro _ _ B;have u:=u.made B;exact u.fresh
theorem OZ{room:Int}{l:List bE}{x:bE}(h:right x=false):G5 room l x=1:=by unfold G5;rw[h];rfl
theorem O0{room:Int}{l:List bE}{x:bE}(h:right x=false):sE room l x=l:=by unfold sE;rw[h];rfl
theorem KY{room:Int}{l:List bE}{x:bE}(h:right x=true)(u:room<=l.length):G5 room l x=2:=by grind[G5]
theorem KZ{room:Int}{l:List bE}{x:bE}(u:room<=l.length):sE room l x=l:=by grind[sE]
theorem SZ{room:Int}{l:List bE}{x:bE}(h:right x=true)(u:¬ room<=l.length):G5 room l x=0:=by grind[G5]
theorem S0{room:Int}{l:List bE}{x:bE}(h:right x=true)(u:¬ room<=l.length):sE room l x=l++[x]:=by unfold sE;grind
def C164(p:Nat)(room:Int)(l:List bE)(x:bE)(F:Nat->Prop)(w:World)(I:(kW p room l).p w F)(O:l.length<=1048576):CR 164 [.pointer (some ⟨p,0,none⟩),iS x] w (λv w'=>v=hZ (G5 room l x)/\mC F (kW p room (sE room l x)) w w'):=by
 have u:=St.begin I;obtain⟨W,u⟩:=u.dS;have u:=u.split;refine qg Tryz.func164 (pl:=agp) ?_;refine cE u (λG _ u=>aE jB u.At (aR aai u (C261 _ _) λ_ J u=>bJ (bD (λB=>?_) λB=>aR Uj u (C145 _ _ _ _ (sD.mk' u.p1.hb u.p2.eS)) λ_ J u=>aC (λE=>?_) λE=>?_)))
 .have u:=u.p2.p2;rw[OZ (by simpa using B),O0 (by simpa using B)];exact⟨rfl,(kW.shut u).mut⟩
 .have u:=u.p2.p2;rw[KY (by simpa using B) E,KZ E];exact⟨rfl,(kW.shut u).mut⟩
 refine aD (aA iq (have u:=u.drew;aB mA u.p1.hb rfl (aE jB u.At (bK ([x]) u iD rfl rfl (dQ rfl) λU _ u=>?_))));refine⟨aX mA (u.p2.hb.cell rfl),?_⟩;have M:=u.eS;refine cO u.p3 iD M (by simp<;>omega) ea (λV _ u=>have u:=u.p1.drop;aD (aA iq (aO u.p2 mA (dQ rfl) u.eS.one λ_ u=>?_)));have u:=u.p1.p1;rw[SZ (by simpa using B) E,S0 (by simpa using B) E];exact⟨rfl,(kW.shut u).mut⟩
theorem wg{l:List bE}{i:Int}(h:pA l i=false):ei l i=⟨0,0,0,0⟩:=by unfold ei;rw[h];rfl
theorem wh{l:List bE}{i:Int}(h:pA l i=false):ky l i=l:=by unfold ky;rw[h];rfl
theorem A5{l:List bE}{i:Int}(h:i<0\/(l.length:Int)<=i):u6 l i=1:=by unfold u6;omega
theorem O1{l:List bE}{i:Int}(u:0<=i/\i<l.length)(h:pA l i=false):u6 l i=13:=by unfold u6;grind
theorem O2{l:List bE}{i:Int}(h:pA l i=true):u6 l i=0:=by unfold u6;rw[fh (SY h),h];rfl
theorem O3{l:List bE}{i:Int}{x:bE}(h:pA l i=true)(u:l[i.toNat]?=some x):ei l i=x:=by unfold ei;grind
theorem O4{l:List bE}{i:Int}(h:pA l i=true):ky l i=l.eraseIdx i.toNat:=by unfold ky;rw[h];rfl
def C158(p:Nat)(room:Int)(l:List bE)(i:Int)(F:Nat->Prop)(w:World)(E:(kW p room l).p w F)(Z:l.length<=1048576):CR 158 [.pointer (some ⟨p,0,none⟩),hZ i] w (λv w'=>v=.tuple #[iS (ei l i),hZ (u6 l i)]/\mC F (kW p room (ky l i)) w w'):=by
 have u:=St.begin E;obtain⟨sv,u⟩:=u.dS;have u:=u.split;refine eR Tryz.func158 ?_;refine aK u r9 (λO5 _ u=>?_);refine⟨_,?_,λ_ _ h=>h⟩;refine aQ (aC (λM=>?_) λM=>?_)
 .intro O;refine gE (pop BY (aH (x:=(⟨0,0,0,0⟩:bE)) u jB rfl rfl λU u=>aE jB u.At ?_));have u:=u.p2.p2;rw[wg (pB bP),A5 bP,wh (pB bP)];exact⟨rfl,(kW.shut u).mut⟩
 refine aD (aA iq (aB mA u.p1.hb rfl (aI iD u.p2.eS (cJ ?_))));intro O;refine aC (λY=>?_) (λY=>aR Uk u (C147 _ _ _ _ _ (sD.mk' u.p1.hb u.p2.eS) bP) λ_ he u=>bJ (bD (λB=>?_) λB=>?_))
 .refine pop BY (aH (x:=(⟨0,0,0,0⟩:bE)) u jB rfl rfl λU u=>aE jB u.At ?_);have u:=u.p2.p2;rw[wg (pB bP),A5 bP,wh (pB bP)];exact⟨rfl,(kW.shut u).mut⟩
 .refine pop BY (aH (x:=(⟨0,0,0,0⟩:bE)) u jB rfl rfl λ_ u=>aE jB u.At ?_);have u:=u.p2.p2;rw[wg (by simpa using B),O1 bP (by simpa using B),wh (by simpa using B)];exact⟨rfl,(kW.shut u).mut⟩
 refine aD (aA iq (aB mA u.p1.hb rfl ?_));obtain⟨I,G⟩:=gx l (i:=(i).toNat) bP;refine ed u.p2 iD bP bP (λ_ J=>gM u.p2 jB J G (aK u r9 λLa _ u=>aH (x:=I) u jB rfl rfl λ_ u=>aD (aA iq (aB mA u.p2.hb rfl (dW Uq (C250 _ _ _ u.p3.eS bP) ?_)))));rintro _ _ V;have u:=u.made V;refine aM bP (lP aag u (H':=λv=>bH v (l.eraseIdx i.toNat)) (Φ:=λ_ _=>True) (λF E=>?_) ?_)
 .exact C258 _ i _ F _ E bP bP bP
 rintro W _ _ u;refine aD (aA iq (aO u.p3 mA (dQ rfl) u.eS.one λ_ u=>aE jB u.p2.At (aH (x:=I) u.p3 jB rfl rfl λ_ u=>aE jB u.At ?_)));have u:=u.p2.p2;rw[O3 (by simpa using B) G,O2 (by simpa using B),O4 (by simpa using B)];exact⟨rfl,(kW.shut u).mut⟩
def nz(l:List bE)(c:Int):Option Int:=(l.reverse.find? λx=>decide (x.kind=3/\x.cell=c)).map (·.n)
def C350(y O:Value)(b:Nat)(xs:List bE)(J:Nat->hU)(M:hU)(w:World)(hn:xs.length<=1073741824)
  (G:∀k W,J k W->Cell W b 0 O/\dy (λ_=>True) W O xs) (B:J 0 w)
  (Z:∀k x W,xs.reverse[k]?=some x->J k W->gJ hM y [hZ ((xs.length:Int)-1-k),iS x] W λv U=>(v=.bool true/\J (k+1) U)\/(v=.bool false/\M U)) :
  CR 350 [y,.pointer (some ⟨b,0,none⟩)] w (λ_ W=>J xs.length W\/M W):=by
 refine RA _ _ _ _ ?_;unfold S350;refine cD mA (G 0 w B).1 (aI iD (G 0 w B).2 (fk bP ?_));refine⟨λm x u=>∃k:Nat,x=hZ ((xs.length:Int)-1-k)/\m=xs.length-k/\k<=xs.length/\J k u,⟨_,0,ew,rfl,mj _,B⟩,?_⟩;rintro m _ u ⟨k,rfl,rfl,hk,I⟩ _;refine cJ (aC (λc=>?_) λc=>?_)
 .obtain⟨h1,h2⟩:=G k u I;have Y:k<xs.length:=bP
  have hx:xs.reverse[k]?=some (xs[xs.length-1-k]'(bP)):=by rw[List.getElem?_reverse Y,kB]
  refine cD mA h1 (aY iD h2 bP (x:=xs[xs.length-1-k]'(bP)) (by rw[kB bP];congr 2;omega) λq hq=>?_);refine aE jB hq ?_;obtain E:=Z k _ u hx I;refine gJ.mono E ?_;rintro v w2 (⟨rfl,V⟩|⟨rfl,Ac⟩)
  .exact bJ (ep (fk bP ⟨xs.length-(k+1),bP,k+1,by congr 1;omega,rfl,bP,V⟩))
  exact bJ (gE (.inr Ac))
 have:k=xs.length:=bP
 subst this;exact .inl I
def C324(B:Value)(w:World)(h1:qD B=true):CR 324 [B] w (λv w'=>∃b,v=.func (.func 350) [].toArray [.pointer (some ⟨b,0,none⟩)].toArray/\mD (bM b [B]) w w'):=by
 have u:=St.start w;refine eR Tryz.func324 ?_;exact jP u h1 (λb _ u=>⟨b,rfl,u.fresh⟩)
theorem Lb{α:Type}{p:α->Bool}{l:List α}{k:Nat}{x:α}(u:∀y∈l.take k,p y=false)(J:l[k]?=some x)(B:p x=true):l.find? p=some x:=by
 rw[List.find?_eq_some_iff_getElem]
 have E:=(j0.1 J)
 obtain⟨G,I⟩:=E
 refine⟨B,k,G,I,λj M=>?_⟩
 have:=u (l[j]'(bP)) (List.mem_take_iff_getElem.2 ⟨j,bP,rfl⟩)
 simp[this]
def C259(p:Nat)(c room:Int)(l:List bE)(w:World)(hb:sD w p room l)(hn:l.length<=1048576) :
  CR 259 [.pointer (some ⟨p,0,none⟩),hZ c] w (λv w'=>v=.tuple #[hZ ((nz l c).getD 0),.bool (nz l c).isSome]/\Ext w w'):=by
 obtain⟨Z,zW,xu,hL⟩:=hb;have u:=St.start w;refine eR Tryz.func259 ?_;refine jP u rfl (λb3 _ u=>fo u sM rfl λb4 _ u=>fo u MK rfl λb5 _ u=>aD (aA iq (cD mA (xu.ext u.aF) (dW aaB (C324 Z _ hL.one) ?_))));rintro _ _ ⟨b,rfl,dw⟩;have u:=u.made dw
 refine q7 (cap:=[.pointer (some ⟨b,0,none⟩)]) (xs:=(tL l.length).map fun (k:Nat)=>[mf .i64 ((l.length:Int)-1-k),iS ((l.reverse[k]?).getD ⟨0,0,0,0⟩)]) aaF u
  (λk M=>M=[bM b [Z],bM b5 [.bool false],bM b4 [hZ 0],bM b3 [hZ c]]/\∀y∈l.reverse.take k,decide (y.kind=3/\y.cell=c)=false)
  (λcd M=>cd=.ret/\∃x,nz l c=some x/\M=[bM b5 [.bool true],bM b4 [hZ x]])
  ⟨rfl,ew⟩ ew ?_ ?_ ?_ ?_ ?_ ?_
 ·
  intro y J Jx W hJ Oy Kv hy;refine(C350 y Z b l J Jx W bP (λk W E=>?_) Kv λk x W G E=>?_).mono λ_ _ r=>r.mono λv W' h=>?_
  .obtain⟨Y,M,⟨rfl,_⟩,hS⟩:=hJ k W E;exact⟨hS.p1.hb.cell rfl,hL.ext hS.aF⟩
  .have I:=(j0.1 G).1;rw[List.length_reverse]at I;have:=hy k [mf .i64 ((l.length:Int)-1-k),iS x] W (by rw[n3,GO I];simp[G]) E;exact this
  simpa using h
 ·
  rintro k args Y1 Y2 B Kr M W E ⟨rfl,U⟩ hB hN hR u
  have I:k<l.length:=by
   have:=(j0.1 E).1
   simpa using this
  obtain⟨x,G⟩:∃x,l.reverse[k]?=some x:=⟨_,kB (by simpa using I)⟩
  have ha:args=[mf .i64 ((l.length:Int)-1-k),iS x]:=by
   rw[n3,GO I]at E;simp[G]at E;exact E.symm
  subst ha;dsimp only[yf];refine aK u r9 (λb7 _ u=>yk u jB rfl ea (by simp[qD,fO]) λ_ u=>?_);refine hB _ _ _ u.p1 (λw8 u=>?_);have e7:fO [mf IntKind.i64 0,hZ 0,hZ 0,hZ 0] 0 [mf .i64 x.kind,hZ x.line,hZ x.cell,hZ x.n]=jn x:=rfl;refine⟨_,?_,λ_ _ h=>h⟩;refine aA nf (aB bL u.p1.hb rfl (aG ?_))
  have no:¬ (x.kind=3/\x.cell=c)->Kr none w8:=λO=>by
   refine hN _ _ u.p1.drop.p0 ⟨rfl,?_⟩;exact eC U G (by simpa using O)
  refine aC (λc1=>?_) (λc1=>?_)
  .refine aA pa (aB bL u.p1.hb rfl (aB bL u.p5.hb rfl (aG ?_)));intro vM;refine aC (λV=>aA qY (aB bL u.p1.hb rfl (aO u.p4 bL (vo rfl) rfl λ_ u=>aO u.p4 BO (vo rfl) rfl λ_ u=>hR _ [bM b5 [.bool true],bM b4 [hZ x.n]] _ u.p5.drop.p4.drop.p3.drop.p2 ⟨rfl,x.n,?_,rfl⟩))) (λV=>no λO=>V O.2);unfold nz;rw[Lb U G (by simpa using⟨c1,V⟩)];rfl
  intro vM;exact ep (no λO=>c1 O.1)
 ·
  rintro D M W ⟨rfl,U⟩ u;refine aO u.p3 bL (vo rfl) rfl (λ_ u=>aO u.p3 BO (vo rfl) rfl λ_ u=>?_);refine yz u.p2 (λw15 u=>?_);refine aB bL u.p1.hb rfl (aB BO u.hb rfl ?_)
  have:nz l c=none:=by
   unfold nz
   rw[show l.reverse.find? _=none from List.find?_eq_none.2 λy hy=>by
    have:=U y (by rw[kO ew];exact hy);simp only[this];exact Bool.false_ne_true]
   rfl
  rw[this];exact⟨rfl,u.aF⟩
 .rintro D M W ⟨_,x,hl,rfl⟩ u;refine yz u (λw15 u=>?_);refine aB bL u.p1.hb rfl (aB BO u.hb rfl ?_);rw[hl];exact⟨rfl,u.aF⟩
 .rintro id D M W ⟨h,_⟩;cases h
 rintro c M ⟨h,_⟩;exact .inr h
def Cu{α:Type}{xs ys:List α}{k:Nat}{e f:α}(h:xs.take k=ys.take k)(h1:xs[k]?=some e)(h2:ys[k]?=some f)(u:e=f):xs.take (k+1)=ys.take (k+1):=by
 rw[tx,tx,h,h1,h2,u]
def Lc{α:Type}{xs ys:List α}{k:Nat}{e f:α}(h1:xs[k]?=some e)(h2:ys[k]?=some f)(u:¬ e=f):¬ xs=ys:=by
 grind
def C50(room:Int)(w:World):CR 50 [hZ room] w (λv w'=>((room<1\/16<room)/\v=.tuple #[.pointer none,hZ 1]/\Ext w w')\/(1<=room/\room<=16/\∃b,v=.tuple #[.pointer (some ⟨b,0,none⟩),hZ 0]/\mD (kW b room []) w w')):=by
 have u:=St.start w;refine eR Tryz.func50 ?_;refine⟨_,?_,λ_ _ h=>h⟩;refine aQ (aC (λB=>?_) λB=>?_)
 .intro E;exact gE (.inl ⟨bP,rfl,u.aF⟩)
 refine dL ?_;intro E;exact aC (λ_=>.inl ⟨bP,rfl,u.aF⟩) (λ_=>pop (MZ _) (oZ u λb _ u=>have u:=(u.eD (α:=bE)).p1;.inr ⟨bP,bP,b,rfl,(kW.shut u).fresh⟩))
def C26(V O:Value)(xs ys:List Int)(w:World)(B:dy (λ_=>True) w V xs)(M:dy (λ_=>True) w O ys)(Z:xs.length<=1073741824):CR 26 [V,O] w (λv w'=>v=.bool (decide (xs=ys))/\Ext w w'):=by
 have u:=St.start w;refine qg Tryz.func26 (pl:=P26) ?_;refine aI dG (B.ext u.aF) (aI dG (M.ext u.aF) (cB (aC (λ_=>⟨vb (fZ (by rintro rfl;omega)).symm,u.aF⟩) λgD=>?_)));refine⟨λm x U=>∃k:Nat,x=hZ (k:Int)/\m=xs.length-k/\k<=xs.length/\xs.take k=ys.take k/\St w bF [] U,⟨_,0,rfl,rfl,mj _,rfl,u⟩,?_⟩;rintro m _ U ⟨k,rfl,rfl,hk,E,u⟩ _;refine aI dG (B.ext u.aF) (aQ (aC (λpe=>?_) λ_=>⟨vb (fY (by rw[kO bP,kO bP]at E;exact E)).symm,u.aF⟩));obtain⟨Vi,J⟩:=gx xs (i:=(k:Int).toNat) bP
 refine aY dG (B.ext u.aF) bP J (λ_ W=>have u:=u.drew;aE bL W ?_);obtain⟨rD,I⟩:=gx ys (i:=(k:Int).toNat) bP;exact aY dG (M.ext u.aF) bP I (λ_ Y=>aE bL Y (cB (aC (λG=>⟨vb (fZ (Lc J I G)).symm,u.aF⟩) λG=>aM bP ⟨xs.length-(k+1),bP,k+1,rfl,rfl,bP,Cu E J I (BL.1 G),u⟩)))
structure Mem where
 of:List Int
 dZ:List Int
 l:List Int
 kept:List Int
 fX:Int->List jk
def kc(of:List Int):Int:=if of.length=0 then 0 else of.getD (of.length-1) 0+1
def sF(k:List Int)(u:List jk):List Int:=u.foldl (λk w=>k.set w.cell.toNat w.n) k
theorem u7(u:List jk):∀k:List Int,(sF k u).length=k.length:=by
 induction u with
 | nil=>intro k;rfl
 | cons x u B=>simp_all[sF]
def Ld(u:List jk)(x:jk)(k:List Int):sF k (u++[x])=(sF k u).set x.cell.toNat x.n:=by
 unfold sF;grind
theorem A6{u:List jk}{j:Nat}{x:jk}{k:List Int}(B:u[j]?=some x):sF k (u.take (j+1))=(sF k (u.take j)).set x.cell.toNat x.n:=by
 rw[tx,B];exact Ld _ _ _
def G6(m:Mem)(cell:Int):Bool:=decide (0<=cell/\cell<m.l.length)
def fC(m:Mem)(cell n:Int):Mem:=if G6 m cell=true then {m with l:=m.l.set cell.toNat n,fX:=if cell<m.of.length then pS m.fX (m.of.getD cell.toNat 0) (m.fX (m.of.getD cell.toNat 0)++[⟨cell,n⟩])else m.fX}else m
def Le(m:Mem)(line:Int):Bool:=decide (0<=line/\line<kc m.of)
def pC(m:Mem)(line:Int):Mem:=if Le m line=true then {m with kept:=sF m.kept (m.fX line),fX:=pS m.fX line []}else m
structure xQ(m:Mem):Prop where
 O7:m.of.length<=m.dZ.length
 fl:m.dZ.length<=20
 ll:m.l.length=m.dZ.length
 kl:m.kept.length=m.of.length
 ofr:∀n∈m.of,0<=n/\n<kc m.of
 lb:kc m.of<=20
 pc:∀k,∀x∈m.fX k,0<=x.cell/\x.cell<m.of.length
def MB(m:Mem)(n:Nat):Prop:=∀k,(m.fX k).length<=n
def fy(p:Nat)(ov fv:Value)(m:Mem):HP:=oV λlv=>oV λkv=>oV λpm=>sep (bM p [ov,fv,lv,kv,.map (some pm)]) (sep (bH lv m.l) (sep (bH kv m.kept) (mF pm m.fX)))
def u9(ov fv:Value)(m:Mem)(w:World):Prop:=dy (λ_=>True) w ov m.of/\dy (λ_=>True) w fv m.dZ
def sG(w:World)(p:Nat)(m:Mem):Prop:=∃ov fv lv kv pm,Cell w p 0 ov/\Cell w p 1 fv/\Cell w p 2 lv/\Cell w p 3 kv/\Cell w p 4 (.map (some pm))/\dy (λ_=>True) w ov m.of/\dy (λ_=>True) w fv m.dZ/\dy (λ_=>True) w lv m.l/\dy (λ_=>True) w kv m.kept/\qm w pm m.fX
section
variable {w w' w0:World}{A F:Nat->Prop}{R:List HP}{p:Nat}{ov fv lv kv:Value}{m:Mem}{pm:Nat}
theorem sG.ext(h:sG w p m)(e:Ext w w'):sG w' p m:=by
 obtain⟨ov,fv,lv,kv,pm,B,I,u,G,E,J,h1,h2,h3,h4⟩:=h
 exact⟨ov,fv,lv,kv,pm,B.ext e,I.ext e,u.ext e,G.ext e,E.ext e,J.ext e,h1.ext e,h2.ext e,h3.ext e,h4.ext e⟩
theorem sG.mk'(h:nY w p [ov,fv,lv,kv,.map (some pm)])(u:u9 ov fv m w)(h2:dy (λ_=>True) w lv m.l)(h3:dy (λ_=>True) w kv m.kept)(h4:qm w pm m.fX):sG w p m:=
 ⟨ov,fv,lv,kv,pm,h.cell rfl,h.cell rfl,h.cell rfl,h.cell rfl,h.cell rfl,u.1,u.2,h2,h3,h4⟩
theorem fy.open(u:St w0 A (fy p ov fv m::R) w):∃lv kv pm,St w0 A (bM p [ov,fv,lv,kv,.map (some pm)]::bH lv m.l::bH kv m.kept::mF pm m.fX::R) w:=by
 obtain⟨lv,u⟩:=u.dS;obtain⟨kv,u⟩:=u.dS;obtain⟨pm,u⟩:=u.dS
 have h1:=u.split
 have h2:=h1.p1.split
 have h3:=h2.p1.split
 exact⟨lv,kv,pm,h3.p2.p3⟩
theorem fy.shut(u:St w0 A (bM p [ov,fv,lv,kv,.map (some pm)]::bH lv m.l::bH kv m.kept::mF pm m.fX::R) w):St w0 A (fy p ov fv m::R) w:=by
 have h1:St w0 A (sep (bH kv m.kept) (mF pm m.fX)::bM p [ov,fv,lv,kv,.map (some pm)]::bH lv m.l::R) w:=St.join u.p3.p3
 have h2:St w0 A (sep (bH lv m.l) (sep (bH kv m.kept) (mF pm m.fX))::bM p [ov,fv,lv,kv,.map (some pm)]::R) w:=St.join h1.p2
 exact St.dO lv (St.dO kv (St.dO pm (St.join h2.p1)))
theorem Cv(u:St w0 A (fy p ov fv m::R) w)(B:u9 ov fv m w):sG w p m:=by
 obtain⟨lv,kv,pm,u⟩:=fy.open u
 exact sG.mk' u.hb B u.p1.eS u.p2.eS u.p3.NG
end
def C154(p:Nat)(m:Mem)(w:World)(M:sG w p m)(B:xQ m):CR 154 [(.pointer (some ⟨p,0,none⟩))] w (λv w'=>v=hZ (kc m.of)/\Ext w w'):=by
 have Z:=M;obtain⟨ov,fv,lv,kv,pm,I,c1,Y,c3,c4,E,Q7,hL,U,hP⟩:=M;have S1:=B.fl;have V:=B.O7;have GV:=B.ll;have W:=B.kl;have Vg:=B.lb;have u:=St.start w;refine qg Tryz.func154 (pl:=agm) ?_;refine aD (aA qV (cD eK (I.ext u.aF) (aI dG (E.ext u.aF) (aG (aC (λ_=>⟨gl (mf .i64) (by unfold kc;rw[fh bP]),u.aF⟩) λeQ=>aD (aA qV (have u:=u.drew;cD eK (I.ext u.aF) (aD (aA qV (cD eK (I.ext u.aF) (aI dG (E.ext u.aF) (fk bP ?_))))))))))));obtain⟨Vi,G⟩:=gx m.of (i:=((m.of.length:Int)-1).toNat) bP
 refine aY dG E bP G (λ_ O=>aE bL (O.ext u.aF) ?_);have J:=B.ofr _ (l0 G);exact aM bP ⟨gl (mf .i64) (by unfold kc;rw[fg bP,o4,show m.of.length-1=((m.of.length:Int)-1).toNat from bP,G];rfl),u.aF⟩
def C260(p:Nat)(m:Mem)(cell:Int)(w:World)(G:sG w p m)(hk:xQ m):CR 260 [(.pointer (some ⟨p,0,none⟩)),hZ cell] w (λv w'=>v=.tuple #[hZ (if G6 m cell=true then m.l.getD cell.toNat 0 else 0),hZ (if G6 m cell=true then 0 else 1)]/\Ext w w'):=by
 have Z:=G;obtain⟨ov,fv,lv,kv,pm,c0,c1,E,c3,c4,hO,Q7,J,M,hP⟩:=G;have u:=St.start w;refine eR Tryz.func260 ?_;refine⟨λW w'=>W=.bool (decide (cell<0\/m.l.length<=cell))/\w=w',aQ (aC (λ_=>⟨FD bP,rfl⟩) λ_=>aD (aA nc (cD eK (E.ext u.aF) (aI dG (J.ext u.aF) (cJ ⟨xh bP,rfl⟩))))),?_⟩;rintro _ _ ⟨rfl,V⟩ _;subst V;refine aC (λY=>?_) (λY=>?_)
 .have B:G6 m cell=false:=by unfold G6;rw[decide_eq_false_iff_not];omega
  rw[B];exact⟨rfl,u.aF⟩
 refine aD (aA nc (cD eK (E.ext u.aF) ?_));obtain⟨U,I⟩:=gx m.l (i:=cell.toNat) bP;refine aY dG J bP I (λ_ O=>aE bL (O.ext u.aF) ?_);have B:G6 m cell=true:=by unfold G6;rw[decide_eq_true_eq];omega
 rw[B,o4,I];exact⟨rfl,u.aF⟩
def C76(p:Nat)(m:Mem)(w:World)(E:sG w p m)(u:xQ m):CR 76 [(.pointer (some ⟨p,0,none⟩))] w (λv w'=>mD (bH v m.l) w w'):=by
 have U:=E;obtain⟨ov,fv,lv,kv,pm,c0,c1,G,c3,W,Z,Q7,J,I,V⟩:=E;have S1:=u.fl;have M:=u.O7;have Y:=u.ll;have O:=u.kl;have Vg:=u.lb;have B:=St.start w;refine eR Tryz.func76 ?_;exact aD (aA nc (cD eK (G.ext B.aF) (fV Av B (C117 _ _ _ (J.ext B.aF) bP) λ_ _ _ B=>B.fresh)))
def C77(p:Nat)(m:Mem)(w:World)(G:sG w p m)(u:xQ m):CR 77 [(.pointer (some ⟨p,0,none⟩))] w (λv w'=>mD (bH v m.kept) w w'):=by
 have U:=G;obtain⟨ov,fv,lv,kv,pm,c0,c1,O,I,W,Z,Q7,hL,E,V⟩:=G;have S1:=u.fl;have J:=u.O7;have Y:=u.ll;have M:=u.kl;have Vg:=u.lb;have B:=St.start w;refine eR Tryz.func77 ?_;exact aD (aA uy (cD eK (I.ext B.aF) (fV Av B (C117 _ _ _ (E.ext B.aF) bP) λ_ _ _ B=>B.fresh)))
def C159(p:Nat)(ov fv:Value)(m:Mem)(F:Nat->Prop)(cell n:Int)(w:World)(V:(fy p ov fv m).p w F)(M:∀w',fD F w w'->u9 ov fv m w')(E:xQ m)(hb:MB m 1000000):CR 159 [(.pointer (some ⟨p,0,none⟩)),hZ cell,hZ n] w (λv w'=>v=hZ (if G6 m cell=true then 0 else 1)/\mC F (fy p ov fv (fC m cell n)) w w'):=by
 have u:=St.begin V;obtain⟨lv,kv,pm,u⟩:=fy.open u;have S1:=E.fl;have N3:=E.O7;have GV:=E.ll;have Nu:=E.kl;have Vg:=E.lb;refine qg Tryz.func159 (pl:=agn) ?_;refine⟨λjv w'=>jv=.bool (decide (cell<0\/m.l.length<=cell))/\w=w',aQ (aC (λ_=>⟨FD bP,rfl⟩) λ_=>aD (aA nc (aB eK u.hb rfl (aI dG u.p1.eS (cJ ⟨xh bP,rfl⟩))))),?_⟩;rintro _ _ ⟨rfl,hw⟩ _;subst hw;refine aC (λl8=>?_) (λl8=>?_)
 .have u:=u.p3.p3.p3.p3;have G:G6 m cell=false:=by unfold G6;rw[decide_eq_false_iff_not];omega
  unfold fC;rw[G];exact⟨rfl,(fy.shut u).mut⟩
 have G:G6 m cell=true:=by unfold G6;rw[decide_eq_true_eq];omega
 refine aD (aA nc (aB eK u.hb rfl ?_));obtain⟨Jg,ze⟩:=gx m.l (i:=cell.toNat) bP;refine ed u.p1 dG bP bP (λ_ O8=>kI _ u.p1 bL O8 bP λ_ u=>⟨λw'=>St w F [fy p ov fv (fC m cell n)] w',aD (aA qV (aB eK u.p1.hb rfl (aI dG (M _ u.aF).1 (aQ (aC (λZ=>?_) λZ=>?_))))),?_⟩)
 .refine aD (aA qV (aB eK u.p1.hb rfl ?_));obtain⟨I,O⟩:=gx m.of (i:=cell.toNat) bP;refine aY dG (M _ u.aF).1 bP O (λ_ U=>aE bL U (aD (aA nd (have u:=u.drew;aB sO u.p1.hb rfl (aD (aA nd (aB sO u.p1.hb rfl ?_)))))));have hbx:=hb I;obtain⟨J,u⟩:=u.p3.Ee (k:=I);refine⟨_,u.p1.vS Tryz.underlying205 Dz uz,?_⟩;refine pop (Gk _ _) (bK ([(⟨cell,n⟩:jk)]) u wN rfl rfl (dQ rfl) λW _ u=>?_);refine⟨aX sO (u.p4.hb.cell rfl),?_⟩;refine⟨aX sO (u.p4.hb.cell rfl),?_⟩
  refine⟨u.p2.vS Tryz.underlying205 Dz uz,?_⟩;have GH:=u.eS;refine cO u.p1 wN GH (by simp;omega) ea (λY _ u=>?_);have u:=u.p1.drop;refine⟨aX sO (u.p3.hb.cell rfl),?_⟩;obtain⟨zh,rfl⟩:=u.gF;have u:=u.p1.p1;refine Ef u Tryz.underlying205 Dz (λ_ u=>?_);have u:=u.p3.p2.p3;have B:fC m cell n={m with l:=m.l.set cell.toNat n,fX:=pS m.fX I (m.fX I++[⟨cell,n⟩])}:=by unfold fC;rw[fh G,fh bP,o4,O];rfl
  rw[B];exact fy.shut (m:={m with l:=_,fX:=_}) u
 .have u:=u.p3.p3.p2.p3;have B:fC m cell n={m with l:=m.l.set cell.toNat n}:=by unfold fC;rw[fh G,fg bP]
  rw[B];exact fy.shut (m:={m with l:=_,fX:=_}) u
 intro _ u _;exact⟨by rw[G];rfl,u.mut⟩
def Ji(m:Mem)(cut:List Int):Bool:=decide ((cut.length:Int)=kc m.of)&&(tL cut.length).all λi=>decide (0<=cut.getD i 0/\cut.getD i 0<=(m.fX i).length)
def xy(m:Mem)(cut:List Int)(k:Nat):List Int:=(tL k).foldl (λo (i:Nat)=>sF o ((m.fX i).take (cut.getD i 0).toNat)) m.kept
def gw(m:Mem)(cut:List Int):Option (List Int):=if Ji m cut=true then some (xy m cut cut.length)else none
theorem A7(m:Mem)(cut:List Int)(k:Nat):xy m cut (k+1)=sF (xy m cut k) ((m.fX k).take (cut.getD k 0).toNat):=by
 unfold xy;rw[D8,x6];rfl
theorem rF(m:Mem)(cut:List Int):∀k,(xy m cut k).length=m.kept.length
 | 0=>rfl
 | k+1=>by rw[A7,u7,rF]
def Pa{m:Mem}{cut:List Int}{k:Nat}{c:Int}(hc:cut[k]?=some c)(h:¬ (0<=c/\c<=(m.fX k).length)):gw m cut=none:=by
 unfold gw;grind[Ji,xy]
def Pb{m:Mem}{cut:List Int}(h:(cut.length:Int)≠kc m.of):gw m cut=none:=by
 unfold gw Ji;grind
def Lf{m:Mem}{cut:List Int}(h:(cut.length:Int)=kc m.of)(hc:∀(k:Nat) (c:Int),k<cut.length->cut[k]?=some c->0<=c/\c<=(m.fX k).length):gw m cut=some (xy m cut cut.length):=by
 unfold gw;grind[Ji,xy]
def nA(m:Mem)(u:List Int):Mem:={m with kept:=u,l:=u++m.dZ.drop u.length,fX:=λ_=>[]}
def C160(p:Nat)(ov fv:Value)(m:Mem)(F:Nat->Prop)(line:Int)(w:World)(Y:(fy p ov fv m).p w F)(V:∀w',fD F w w'->u9 ov fv m w')(B:xQ m)(hb:MB m 1000000):CR 160 [(.pointer (some ⟨p,0,none⟩)),hZ line] w (λv w'=>v=hZ (if Le m line=true then 0 else 1)/\mC F (fy p ov fv (pC m line)) w w'):=by
 have u:=St.begin Y;obtain⟨lv,kv,pm,u⟩:=fy.open u;have S1:=B.fl;have N3:=B.O7;have GV:=B.ll;have Nu:=B.kl;have Vg:=B.lb;refine qg Tryz.func160 (pl:=ago) ?_;refine⟨λjv w'=>jv=.bool (decide (line<0\/kc m.of<=line))/\St w F [bM p [ov,fv,lv,kv,.map (some pm)],bH lv m.l,bH kv m.kept,mF pm m.fX] w',aQ (aC (λ_=>⟨vb (by first|exact(fY bP).symm|exact ga.2 bP),u⟩) λ_=>aR Ul u (C154 _ m _ (sG.mk' u.hb (V _ u.aF) u.p1.eS u.p2.eS u.p3.NG) B) λ_ _ u=>cJ ⟨vb (by first|exact(fY bP).symm|exact ga.2 bP),u⟩),?_⟩
 rintro _ _ ⟨rfl,u⟩ _;refine aC (λpe=>?_) (λpe=>?_)
 .have u:=u.p3.p3.p3.p3;have E:Le m line=false:=by unfold Le;rw[decide_eq_false_iff_not];omega
  unfold pC;rw[E];exact⟨rfl,(fy.shut u).mut⟩
 refine aD (aA nd (aB sO u.hb rfl ?_));obtain⟨J,u⟩:=u.p3.Ee (k:=line);refine⟨_,u.p1.vS Tryz.underlying205 Dz uz,?_⟩;have L4:=hb line;refine aI wN u.eS ?_;have u:=u.p3.p3.p4.p4.p4;refine⟨λM x w1=>∃k:Nat,x=hZ (k:Int)/\M=(m.fX line).length-k/\k<=(m.fX line).length/\St w F [bH (iS J) (m.fX line),Ed pm m.fX line J,bH kv (sF m.kept ((m.fX line).take k)),bM p [ov,fv,lv,kv,.map (some pm)],bH lv m.l] w1,⟨_,0,rfl,rfl,mj _,u⟩,?_⟩;rintro M _ _ ⟨k,rfl,rfl,IQ,u⟩ _;refine aQ (aC (λpg=>?_) λpg=>?_)
 .obtain⟨G,I⟩:=gx (m.fX line) (i:=(k:Int).toNat) bP;refine ed u wN bP bP (λ_ U=>?_);have hpc:=B.pc line _ (l0 I);refine gM u Is U I (aK u It λO _ u=>aH (x:=G) u Is rfl rfl λ_ u=>aD (aA uy (have u:=u.drew;aB eK u.p4.hb rfl (aA DF ?_))));have U9:=u7 ((m.fX line).take k) m.kept;refine aB (v:=hZ G.cell) bL u.hb rfl (aA DG (aB (v:=hZ G.n) bL u.hb rfl ?_));obtain⟨qt,oO⟩:=gx (sF m.kept ((m.fX line).take k)) (i:=G.cell.toNat) bP
  exact ed u.p3 dG bP bP (λ_ Z=>kI _ u.p3 bL Z bP λ_ u=>aM bP (have u:=u.p1.drop.p4.p4.p2.p4.p4;⟨_,bP,k+1,rfl,rfl,bP,by rw[A6 (j:=k) I];exact u⟩))
 rw[kO bP]at u;refine aD (aA nd (aB sO u.p3.hb rfl ?_));have u:=u.p1.p1.NH;rw[KH]at u;refine Eg u rfl Tryz.underlying205 Dz (λ_ _ u=>?_);have u:=u.p1.p3.p3;have E:Le m line=true:=by unfold Le;rw[decide_eq_true_eq];omega
 have W:pC m line={m with kept:=sF m.kept (m.fX line),fX:=pS m.fX line []}:=by unfold pC;rw[fh E]
 rw[W,E];exact⟨rfl,(fy.shut (m:={m with kept:=_,fX:=_}) u).mut⟩
def C156(p:Nat)(m:Mem)(cut:List Int)(cv:Value)(w:World)(hm:sG w p m)(E:xQ m)(hb:MB m 1000000)(U:dy (λ_=>True) w cv cut)(acJ:cut.length<=1000):CR 156 [(.pointer (some ⟨p,0,none⟩)),cv] w (λv w'=>(gw m cut=none/\v=.tuple #[.slice none 0 0,hZ 1]/\Ext w w')\/∃nO o,gw m cut=some nO/\v=.tuple #[o,hZ 0]/\mD (bH o nO) w w'):=by
 have L9:=hm;obtain⟨ov,fv,lv,kv,pm,c0,c1,c2,c3,c4,hO,Q7,hL,hKp,hP⟩:=hm;have S1:=E.fl;have N3:=E.O7;have GV:=E.ll;have Nu:=E.kl;have Vg:=E.lb;have u:=St.start w;refine Rs _ _ _ _ ?_;unfold S156;refine aI dG (U.ext u.aF) (aR Ul u (C154 _ m _ (L9.ext u.aF) E) λJ he u=>cB (aC (λ_=>.inl ⟨Pb bP,rfl,u.aF⟩) λjY=>fV af6 u (C77 _ m _ (L9.ext u.aF) E) λI _ dw u=>aI dG (U.ext u.aF) ?_));refine⟨λG x J=>∃k:Nat,x=hZ (k:Int)/\G=cut.length-k/\k<=cut.length/\(∀(i:Nat) (c:Int),i<k->cut[i]?=some c->0<=c/\c<=(m.fX i).length)/\St w bF [bH I (xy m cut k)] J,⟨_,0,rfl,rfl,mj _,λ_ _ h=>absurd h bP,u⟩,?_⟩
 rintro G _ w3 ⟨k,rfl,rfl,IQ,qi,u⟩ _;refine aQ (aC (λjX=>?_) λ_=>.inr ⟨_,_,Lf bP (λi c _ hc=>qi i c bP hc),rfl,by rw[show cut.length=k from bP];exact u.fresh⟩);obtain⟨B,M⟩:=gx cut (i:=(k:Int).toNat) bP;refine aY dG U bP M (λ_ EN=>aE bL (EN.ext u.aF) ⟨λjv w'=>jv=.bool (decide (B<0\/(m.fX k).length<B))/\w3=w',aQ (aC (λ_=>⟨FD bP,rfl⟩) λ_=>aD (aA nd (cD sO (c4.ext u.aF) (AP hP u.aF Tryz.underlying205 Dz uz λ_ Pc=>aI wN (Pc.ext u.aF) (dL ⟨xh bP,rfl⟩))))),?_⟩)
 rintro _ _ ⟨rfl,hw⟩ _;subst hw;refine aC (λ_=>.inl ⟨Pa (k:=k) M bP,rfl,u.aF⟩) (λuO=>aD (aA nd (cD sO (c4.ext u.aF) (AP hP u.aF Tryz.underlying205 Dz uz λV sV=>?_))));have Zu:=hb k;have Kk:((m.fX k).take B.toNat).length<=(m.fX k).length:=by rw[mg];omega
 refine j5 wN (sV.ext u.aF) bP bP (λacm GS=>?_);have Cm:=GS _ sV;refine aI wN (Cm.ext u.aF) ?_;refine⟨λG x J=>∃j:Nat,x=hZ (j:Int)/\G=((m.fX k).take B.toNat).length-j/\j<=((m.fX k).take B.toNat).length/\St w bF [bH I (sF (xy m cut k) (((m.fX k).take B.toNat).take j))] J,⟨_,0,rfl,rfl,mj _,u⟩,?_⟩;rintro G _ _ ⟨j,rfl,rfl,hj,u⟩ _;refine aQ (aC (λIV=>?_) λIV=>?_)
 .obtain⟨O,Y⟩:=gx ((m.fX (k:Int)).take B.toNat) (i:=(j:Int).toNat) bP;refine aY wN Cm bP Y (λ_ Pd=>?_);have hpc:=E.pc k _ (List.mem_of_mem_take (l0 Y));refine aE Is (Pd.ext u.aF) (aK u It λW _ u=>aH (x:=O) u Is rfl rfl λ_ u=>aA DF ?_);have U9:=u7 (((m.fX k).take B.toNat).take j) (xy m cut k);have hil:=rF m cut k;refine aB (v:=hZ O.cell) bL u.hb rfl (aA DG (aB (v:=hZ O.n) bL u.hb rfl ?_));obtain⟨Z,ail⟩:=gx (sF (xy m cut k) (((m.fX k).take B.toNat).take j)) (i:=O.cell.toNat) bP
  exact ed u.p1 dG bP bP (λ_ Pe=>kI _ u.p1 bL Pe bP λ_ u=>aM bP (have u:=u.p1.drop;⟨_,bP,j+1,rfl,rfl,bP,by rw[A6 (j:=j) Y];exact u⟩))
 rw[kO (i:=j) bP]at u;refine aM bP ⟨_,bP,k+1,rfl,rfl,bP,λi c hi hc=>?_,?_⟩
 .by_cases e:i=k
  .subst e;obtain rfl:=nM.inj (hc.symm.trans M);omega
  exact qi i c bP hc
 rw[A7,o4,show cut[k]?=some B from M];exact u
def C81(p:Nat)(ov fv:Value)(m:Mem)(F:Nat->Prop)(cut:List Int)(cv:Value)(w:World)(Z:(fy p ov fv m).p w F)(W:∀w',fD F w w'->u9 ov fv m w')(E:xQ m)(hb:MB m 1000000)(hC:∀w',fD F w w'->dy (λ_=>True) w' cv cut)(Y:cut.length<=1000):CR 81 [(.pointer (some ⟨p,0,none⟩)),cv] w (λv w'=>(gw m cut=none/\v=hZ 1/\mC F (fy p ov fv m) w w')\/∃V,gw m cut=some V/\v=hZ 0/\mC F (fy p ov fv (nA m V)) w w'):=by
 have u:=St.begin Z;obtain⟨lv,kv,pm,u⟩:=fy.open u;have S1:=E.fl;have N3:=E.O7;have GV:=E.ll;have U:=E.kl;have Vg:=E.lb;refine qg Tryz.func81 (pl:=P81) ?_;refine dW Z3 (C156 _ m cut _ _ (sG.mk' u.hb (W _ u.aF) u.p1.eS u.p2.eS u.p3.NG) E hb (hC _ u.aF) bP) ?_;rintro I _ W3
 rcases W3 with⟨B,rfl,he⟩|⟨G,M,B,rfl,dw⟩
 .have u:=u.ext he;exact aJ rfl (aJ rfl (cB (iI ea (have u:=u.p3.p3.p3.p3;.inl ⟨B,rfl,(fy.shut u).mut⟩))))
 have u:=u.made dw;refine aJ rfl (aJ rfl (cB (fE ea (aD (aA uy (aO u.p1 eK (dQ rfl) u.eS.one λ_ u=>aD (aA nc (have u:=u.drew;aB eK u.hb rfl (aD (aA MS (aB eK u.hb rfl ?_)))))))))));refine Eh u.p2 dG (W _ u.aF).2 bP (λ_ u=>aD (aA nc (aB eK u.p1.hb rfl (Eh u dG u.p2.eS (by rw[kE,oC];have J:G.length=m.of.length:=(by unfold gw at B;split at B<;>simp at B;rw[<- B,rF];exact U);omega) λ_ u=>uV (α:=jk) u λO _ u=>aD (aA nd (aO u.p2 sO (dQ rfl) (rfl) λ_ u=>?_))))))
 have u:=u.p4.drop.p4.drop.p1.p3.p3.p3;have J:G.length=m.of.length:=by unfold gw at B;split at B<;>simp at B;rw[<- B,rF];exact U
 rw[show m.l.drop m.dZ.length=[]from List.drop_eq_nil_of_le bP,oj]at u;exact .inr ⟨_,B,rfl,(fy.shut (m:=nA m G) u).mut⟩
def Pf(of:List Int)(stays:Int)(dZ:List Int):Mem:=⟨of.take stays.toNat,dZ,dZ,dZ.take stays.toNat,λ_=>[]⟩
def C54(of dZ:List Int)(stays:Int)(av bv:Value)(w:World)(B:dy (λ_=>True) w av of)(G:dy (λ_=>True) w bv dZ)(hlen:of.length=dZ.length)(S1:of.length<=20)(gi:0<=stays/\stays<=of.length)(Ou:∀(k:Nat) (n:Int),(k:Int)<stays->of[k]?=some n->(n=uY of k\/(0<k/\n=uY of k-1))/\-10<=n/\n<=100):CR 54 [av,hZ stays,bv] w (λv w'=>∃(p:Nat) (ov fv:SV),v=.tuple #[.pointer (some ⟨p,0,none⟩),hZ 0]/\mD (sep (bH (iS ov) (of.take stays.toNat)) (sep (bH (iS fv) dZ) (fy p (iS ov) (iS fv) (Pf of stays dZ)))) w w'):=by
 have u:=St.start w;refine eR Tryz.func54 ?_;refine⟨λjv w'=>jv=.bool (decide (of.length≠dZ.length\/20<of.length\/stays<0\/of.length<stays))/\w=w',aI dG (B.ext u.aF) (aI dG (G.ext u.aF) (cB (aC (λ_=>⟨FD bP,rfl⟩) λ_=>aI dG (B.ext u.aF) (dL (aC (λ_=>⟨FD bP,rfl⟩) λ_=>aQ (aC (λ_=>⟨FD bP,rfl⟩) λ_=>aI dG (B.ext u.aF) (dL ⟨xh bP,rfl⟩))))))),?_⟩;rintro _ w1 ⟨rfl,Y⟩ _;subst Y;refine aC (λn8=>absurd n8 bP) (λn8=>j5 dG (B.ext u.aF) bP bP λV W4=>?_);have Pg:=W4 _ B
 refine aI dG (Pg.ext u.aF) ?_;refine⟨λmm l x w1=>∃(k:Nat) (last:Int),l=hZ last/\x=hZ (k:Int)/\mm=(of.take stays.toNat).length-k/\k<=(of.take stays.toNat).length/\last=uY of k-1/\-200<=last/\last<=200/\St w bF [] w1,⟨_,0,-1,rfl,rfl,rfl,mj _,rfl,bP,bP,u⟩,?_⟩;rintro mm _ _ w2 ⟨k,last,rfl,rfl,rfl,IQ,Z,hl7,hl8,u⟩ _;have Kk:(of.take stays.toNat).length=stays.toNat:=by rw[mg];omega
 refine aQ (aC (λuO=>?_) λuO=>?_)
 .obtain⟨E,wj⟩:=gx (of.take stays.toNat) (i:=(k:Int).toNat) bP;refine aY dG Pg bP wj (λ_ J=>?_)
  have M:of[k]?=some E:=by
   have I:=wj;rw[DX]at I
   split at I
   .exact I
   .cases I
  obtain⟨VW,Au,hl3⟩:=Ou k _ bP M;refine aE bL (J.ext u.aF) ⟨λjv w'=>jv=.bool (decide (E≠last+1/\(k=0\/E≠last)))/\w2=w',aM bP (cB (aC (λ_=>aG (aC (λ_=>⟨FD bP,rfl⟩) λ_=>cB ⟨xh bP,rfl⟩)) λ_=>⟨QY bP,rfl⟩)),?_⟩;rintro _ _ ⟨rfl,Y⟩ _;subst Y;refine aC (λA8=>absurd A8 (by have:=Ou k E bP M;simp;omega)) (λA8=>?_);have hws:uY of (k+1)=E+1:=by unfold uY;rw[fg bP,Nat.add_sub_cancel,o4,M];rfl
  exact aM bP ⟨_,bP,k+1,E,rfl,rfl,rfl,bP,bP,bP,bP,u⟩
 refine j5 dG (B.ext u.aF) bP bP (λU W6=>?_);have W7:=W6 _ B;refine fV Av u (C117 _ _ _ (W7.ext u.aF) (by first|omega|(rw[mg];omega))) (λx59 _ dw u=>fV Av u (C117 _ _ _ (G.ext u.aF) (by first|omega|(rw[mg];omega))) λx61 _ dw u=>fV Av u (C117 _ _ _ (G.ext u.aF) (by first|omega|(rw[mg];omega))) λx63 _ dw u=>uV (α:=jk) u λO _ u=>?_);obtain⟨W8,rfl⟩:=u.p3.gF;obtain⟨W9,rfl⟩:=u.p2.gF;obtain⟨aim,rfl⟩:=u.p1.gF;refine pop (yw _ _ _ _ _ _ _ _ _ _) (oZ u λW _ u=>j5 dG (G.ext u.aF) bP bP λVr Xa=>?_)
 have Xb:=Xa _ G;exact fV Av u (C117 _ _ _ (Xb.ext u.aF) (by first|omega|(rw[mg];omega))) (λ_ _ _ u=>aD (aA uy (aO u.p1 eK (dQ rfl) u.eS.one λ_ u=>have u:=fy.shut (m:=Pf of stays dZ) u.p4.p5.p4.p4.p5.p5;⟨W,W8,W9,rfl,(St.join (St.join u.p2).p1).fresh⟩)))
structure Ma where
 code:aaU
 at_:Int
 dJ:List Int
 counts:List Int
 fault:Int
 e:Int
 f:Int
 buf:List bE
def acM(t:Ma):Option yF:=if (t.code.l.length:Int)<=t.at_ then none else t.code.l[t.at_.toNat]?
def G8(l:List mM)(dJ:List Int):Int×Bool:=if l.length=0 then(0,true)else((runM l dJ).1,decide ((runM l dJ).2=0))
def tE(t:Ma)(x:yF):Ma:={t with fault:=if (G8 x.e t.dJ).2=true then t.fault else 2,e:=(G8 x.e t.dJ).1}
def tF(t:Ma)(x:yF):Ma:={t with fault:=if (G8 x.f t.dJ).2=true then t.fault else 2,f:=(G8 x.f t.dJ).1}
def goK(t:Ma)(x:yF)(e:Int):Ma×Bool:=
 if x.kind=1 then({t with dJ:=t.dJ.set x.a.toNat e,at_:=t.at_+1},true)
 else if x.kind=11 then({t with at_:=x.to},true)
 else if x.kind=12 then(if e=0 then({t with at_:=x.to},true)else({t with at_:=t.at_+1},true))
 else if x.kind=13 then({t with counts:=t.counts.set x.a.toNat x.b,at_:=t.at_+1},true)
 else if x.kind=14 then(if 0<xm (t.counts.getD x.a.toNat 0-1)then({t with counts:=t.counts.set x.a.toNat (xm (t.counts.getD x.a.toNat 0-1)),at_:=x.to},true)else({t with counts:=t.counts.set x.a.toNat (xm (t.counts.getD x.a.toNat 0-1)),at_:=t.at_+1},true))
 else if x.kind=15 then(if e=0 then({t with fault:=1},false)else({t with at_:=t.at_+1},true))
 else(t,false)
def G9(t:Ma):Ma×Bool:=match acM t with
 | none=>(t,false)
 | some x=>if (G8 x.e t.dJ).2=true then(if (G8 x.f t.dJ).2=true then goK (tF (tE t x) x) x (G8 x.e t.dJ).1 else(tF (tE t x) x,false))else(tE t x,false)
def Ub:Nat->Ma->Option Ma
 | 0,_=>none
 | n+1,t=>if (G9 t).2=true then Ub n (G9 t).1 else some (G9 t).1
def S2:List Int->Int->Int
 | [],n=>n
 | c::cs,n=>S2 cs (xm (xm (n*10000)+c))
def vc(l:List Int)(k:Nat):Int:=S2 (l.take k) 0
theorem A9:∀(l:List Int) (c n:Int),S2 (l++[c]) n=xm (xm (S2 l n*10000)+c)
 | [],_,_=>rfl
 | x::l,c,n=>A9 l c _
theorem Ha{l:List Int}{k:Nat}{c:Int}(h:l[k]?=some c):vc l (k+1)=xm (xm (vc l k*10000)+c):=by
 unfold vc;rw[tx,h];exact A9 _ _ _
def qu(p q:bG):Bool:=decide (q.kind=p.kind)&&decide (q.t=p.t)&&decide (q.i=p.i)&&decide (p.cut.length=0)
def C157(U fv:Value)(xs:List bG)(φ:bG->Prop)(g:bG->Bool)(w:World)(hL:DL w U xs)(hf:n7 hM w fv φ g)(hφ:∀x∈xs,φ x)(hn:xs.length<=1073741824):CR 157 [U,fv] w (λv w'=>v=hZ (pf g xs)/\Ext w w'):=by
 obtain⟨g0,first,cap,rfl,mI,gK⟩:=hf;have u:=St.start w;refine eR Tryz.func157 ?_;obtain⟨I,W,O⟩:=hL.open;have G:=O.1;refine aI ui (W.ext u.aF) ?_;refine⟨λm x J=>∃k:Nat,x=hZ (k:Int)/\m=xs.length-k/\k<=xs.length/\(∀y∈xs.take k,g y=false)/\St w bF [] J,⟨_,0,rfl,rfl,mj _,ew,u⟩,?_⟩;rintro m _ J ⟨k,rfl,rfl,hk,B,u⟩ _;refine aQ (aC (λj6=>?_) λ_=>⟨gl (mf .i64) (gn (by rw[kO bP]at B;exact B)).symm,u.aF⟩);obtain⟨iR,V⟩:=gx I (i:=(k:Int).toNat) bP;obtain⟨sS,E⟩:=gx xs (i:=(k:Int).toNat) bP
 obtain⟨Z,rfl,Lh⟩:=O.2 _ _ _ V E;refine aY ui W bP V (λ_ Y=>aE oF (Y.ext u.aF) (fj mI (gK _ sS J u.aF ⟨Z,rfl,(Lh.ext u.aF)⟩ (hφ _ (l0 E))) ?_));rintro _ _ ⟨rfl,he⟩;have u:=u.ext he;exact bD (λM=>⟨gl (mf .i64) (jy B E M).symm,u.aF⟩) (λM=>aM bP ⟨_,bP,k+1,rfl,rfl,bP,eC B E M,u⟩)
def C84(B fv:Value)(xs:List bG)(φ:bG->Prop)(g:bG->Bool)(w:World)(I:DL w B xs)(G:n7 hM w fv φ g)(E:∀x∈xs,φ x)(J:xs.length<=1073741824):CR 84 [B,fv] w (λv w'=>v=.bool (xs.any g)/\Ext w w'):=by
 have u:=St.start w;refine eR Tryz.func84 ?_;exact aR Z4 u (C157 _ _ _ _ _ _ (I.ext u.aF) (G.ext u.aF) E bP) (λ_ _ u=>cJ ⟨vb (iv _ _),u.aF⟩)
def ly(m:Mem)(c:Int):Int:=if G6 m c=true then m.l.getD c.toNat 0 else 0
def Vu(p:Nat)(m:Mem)(c:Int)(w:World)(B:sG w p m)(u:xQ m):CR 260 [.pointer (some ⟨p,0,none⟩),hZ c] w (λv w'=>v=.tuple #[hZ (ly m c),hZ (if G6 m c=true then 0 else 1)]/\Ext w w'):=C260 p m c w B u
def Ba(m:Mem)(c n:Int):(fC m c n).of=m.of:=by unfold fC;grind
def oP(m:Mem)(c n:Int):(fC m c n).dZ=m.dZ:=by unfold fC;grind
def S4(m:Mem)(c:Int):(pC m c).of=m.of:=by unfold pC;grind
def EO(m:Mem)(c:Int):(pC m c).dZ=m.dZ:=by unfold pC;grind
def u9.write{ov fv:Value}{m:Mem}{w:World}{c n:Int}(h:u9 ov fv m w):u9 ov fv (fC m c n) w:=by grind[u9,fC]
theorem u9.out{ov fv:Value}{m:Mem}{w:World}{c:Int}(h:u9 ov fv m w):u9 ov fv (pC m c) w:=by grind[u9,pC]
def ke(m:Mem)(x:bE):Mem:=if x.kind=3 then fC m x.cell x.n else if x.kind=7 then m else pC m x.line
def zi(t:Int)(x:bE):cQ:=if x.kind=3 then⟨12,t,x.cell,x.n,0⟩else if x.kind=7 then⟨14,t,0,0,0⟩else⟨13,t,x.line,0,0⟩
end Go.Proofs.YtdncbeepkacgbaaGreatDoor
namespace Go.Fw
def pK(F:Nat->Prop)(w0 w':World):Prop:=∀b,F b->w'.heap[b]?=w0.heap[b]?
section
variable {α σ:Type}[Flat σ] [D:Deep α σ] {w w0:World}{A F:Nat->Prop}{L:List HP}{v:Value}{xs:List α}{ts us:List σ}
theorem St.Vv{Φ:hU}(u:St w0 A (Fw.eH Φ::L) w):∃F,St w0 A (Fw.eH (pK F w)::L) w/\∀w',pK F w w'->Φ w':=by
 obtain⟨U,F,E,B,I,J,G,M⟩:=u.oD
 exact⟨F,⟨u.aF,U,F,E,⟨λw' h=>h,B.2⟩,I,J,G,M⟩,λw' h=>B.1 w' h⟩
theorem pK.refl(F:Nat->Prop)(w:World):pK F w w:=λ_ _=>rfl
theorem EP(B:∀x y:σ,jn x=jn y->x=y):∀{ts us:List σ},ts.length=us.length->flat ts=flat us->ts=us
 | [],[],_,_=>rfl
 | t::ts,u::us,hl,h=>by
  rw[il,il]at h
  have:=List.append_inj h (by rw[ry,ry])
  rw[B _ _ this.1,EP B cR this.2]
 | [],_::_,hl,_=>by simp at hl
 | _::_,[],hl,_=>by simp at hl
theorem dy.func{S U:Nat->Prop}(G:∀x y:σ,jn x=jn y->x=y)(h:dy S w v ts)(W:dy U w v us):ts=us:=by
 obtain⟨a,cap,rfl,hc,h3⟩:=h
 obtain⟨a',zV,M,V,B⟩:=W
 simp only[ta.injEq]at M
 obtain⟨rfl,J,rfl⟩:=M
 refine EP G J (List.ext_getElem? λj=>?_)
 have F8:(flat ts).length=(flat us).length:=by rw[cG,cG,J]
 by_cases Z:j<(flat ts).length
 .have u:j<(flat us).length:=bP
  rcases h3 with⟨rfl,_⟩|⟨b,o,rfl,_,h5⟩
  .grind
  rcases B with⟨rfl,_⟩|⟨b',o',I,_,E⟩
  .grind
  simp only[nM.injEq,Addr.mk.injEq,and_true]at I
  obtain⟨rfl,rfl⟩:=I
  have Y:=h5 j _ (kB Z)
  have O:=E j _ (kB u)
  unfold Cell at Y O
  grind
 grind
theorem pK.rd(h:∀w',pK F w w'->DL w' v xs)(J:dy (λ_=>True) w v ts)(hn:ts.length=xs.length):∀w',pK F w w'->dy (λ_=>True) w' v ts:=by
 intro w' Z
 have L3:=J
 obtain⟨a,cap,rfl,hc,h3⟩:=J
 rcases h3 with⟨h3,h4⟩|⟨b,o,rfl,h4,h5⟩
 .grind[dy]
 cases ts with
 | nil=>exact⟨_,cap,rfl,hc,.inr ⟨b,o,rfl,λh=>absurd rfl h,λj c B=>by simp[je]at B⟩⟩
 | cons t ts=>
  by_cases O:F b
  .exact⟨_,cap,rfl,hc,.inr ⟨b,o,rfl,λ_=>trivial,λj c B=>(h5 j c B).of_eq (Z b O)⟩⟩
  .exfalso
   have h6:DL (ChangeMaps.setBlock w b (.map #[] 0)) (.slice (some ⟨b,o,none⟩) (t::ts).length cap) xs:=h _ λY V=>by
    simp only[ChangeMaps.setBlock];grind
   obtain⟨us,⟨a',zV,I,_,M⟩,W,_⟩:=h6
   simp only[ta.injEq]at I
   obtain⟨rfl,G,rfl⟩:=I
   have U:0<(flat us).length:=by rw[cG,<- G];exact Vt ew (P8 (α:=σ))
   rcases M with⟨rfl,_⟩|⟨Y,o',E,_,h8⟩
   .simp at G
   .simp only[nM.injEq,Addr.mk.injEq,and_true]at E
    obtain⟨rfl,rfl⟩:=E
    have u:=h8 0 _ (kB U)
    have hb:=(h5 0 _ (kB (by rw[cG];exact Vt ew (P8 (α:=σ))))).lt
    unfold Cell World.cell? at u
    dsimp only at u
    rw[gT _ hb]at u
    simp at u
theorem pK.fix(u:∀x y:σ,jn x=jn y->x=y)(h:∀w',pK F w w'->DL w' v xs):∃ts:List σ,ts.length=xs.length/\∀w',pK F w w'->dy (λ_=>True) w' v ts/\gQ ts xs w':=by
 obtain⟨ts,G,B⟩:=(h w (pK.refl F w)).open
 refine⟨ts,B.1,λw' E=>?_⟩
 have h1:=pK.rd h G B.1 w' E
 obtain⟨us,I,J⟩:=(h w' E).open
 rw[dy.func u h1 I]at *
 grind
end
section
variable {P:Program}{T:Nat}{cx cy:Bool}{a b:Int}{K:Value->Prop}
theorem Ph(h:0<=a-b/\a-b<=255)(k:K (.int .u8 (a-b))):dX P (gX .sub T cx cy (.int .u8 a) (.int .u8 b)) K:=
 ⟨_,(show pr P (gX .sub T cx cy (.int .u8 a) (.int .u8 b))=some (.int .u8 (a-b))from by
  show some (mf .u8 (IntKind.u8.wrap (a-b)))=_
  have:IntKind.u8.wrap (a-b)=a-b:=by
   unfold IntKind.wrap;simp[IntKind.bits,IntKind.signed];omega
  rw[this]),k⟩
theorem Li{src u:TypeId}(h1:P.underlying src=some (.int .u8))(h2:P.underlying u=some (.int .i64))(h:0<=a/\a<=255)(k:K (hZ a)):dX P (convert src u (.int .u8 a)) K:=by
 refine⟨_,?_,k⟩
 unfold convert
 simp only[bT,bR h1,bR h2,la]
 show some (mf .i64 (IntKind.i64.wrap a))=_
 rw[IntWalk.i64_in _ bP]
end
end Go.Fw
namespace Go.Proofs.YtdncbeepkacgbaaGreatDoor
open Go.Fw
abbrev PD:=List (Bk×Bool)
def jC(b:Bk)(e:Bool)(p:PD):PD:=match b with
 | .nil=>p
 | .cons x c d r=>(.cons x c d r,e)::p
def gU:PD->PD
 | (.cons _ _ _ r,_)::p=>jC r false p
 | (.nil,_)::p=>p
 | []=>[]
def qH:PD->Option (aZ×Bk×Bk)
 | (.cons x a b _,_)::_=>some (x,a,b)
 | _=>none
def pW(x:aZ)(a:Bk)(p:PD):PD:=if x.n=0 then gU p else jC a false ((.cons {x with n:=x.n-1} a .nil .nil,true)::gU p)
def kX:PD->PD
 | []=>[]
 | (_,e)::p=>if e=true then p else kX p
structure jM where
 names:List ByteArray
 dJ:List Int
 bN:PD
 fault:Int
 buf:List bE
def et(t:jM)(l:List bI):Int×Bool:=if l.length=0 then(0,true)else((vU t.names t.dJ l).1,decide ((vU t.names t.dJ l).2=0))
def pD(t:jM)(s:ByteArray)(n:Int):jM:={t with dJ:=t.dJ.set (cT t.names s).toNat n}
def mO(t:jM)(x:aZ)(a b:Bk)(n:Int):jM×Bool:=
 if x.kind=1 then({pD t x.eO n with bN:=gU t.bN},true)
 else if x.kind=11 then({t with bN:=jC (if n=0 then b else a) false (gU t.bN)},true)
 else if x.kind=12 then({t with bN:=pW x a t.bN},true)
 else if x.kind=13 then({t with bN:=kX t.bN},true)
 else if x.kind=14 then(if n=0 then({t with fault:=1},false)else({t with bN:=gU t.bN},true))
 else(t,false)
def nD(t:jM):jM×Bool:=match qH t.bN with
 | none=>(t,false)
 | some (x,a,b)=>if (et t x.e).2=true/\(et t x.f).2=true then mO t x a b (et t x.e).1 else({t with fault:=2},false)
def sH:Nat->jM->Option jM
 | 0,_=>none
 | n+1,t=>if (nD t).2=true then sH n (nD t).1 else some (nD t).1
def iY:Bk->Nat
 | .nil=>0
 | .cons x a b r=>(if x.kind=12 then x.n.toNat*(iY a+1)else iY a+iY b)+iY r+1
def fq(p:PD):Nat:=(p.map λq=>iY q.1).sum
theorem nE(q:Bk×Bool)(p:PD):fq (q::p)=iY q.1+fq p:=by simp[fq]
def xz(φ:aZ->Prop):Bk->Prop
 | .nil=>True
 | .cons x a b r=>φ x/\xz φ a/\xz φ b/\xz φ r
theorem Lj{φ:aZ->Prop}:∀t:Bk,xz φ t↔∀x∈t.flat,φ x:=by
 intro t
 induction t with
 | nil=>simp[xz,Bk.flat]
 | cons x a b r B E u=>
  simp only[xz,Bk.flat,B,E,u,oR,pI]
  grind
structure Bb(φ:aZ->Prop)(p:PD):Prop where
 ne:∀q∈p,q.1≠.nil
 st:∀q∈p,q.1.str
 al:∀q∈p,xz φ q.1
section
variable {φ:aZ->Prop}{p:PD}{b:Bk}{e:Bool}
theorem Bb.tail{q:Bk×Bool}(h:Bb φ (q::p)):Bb φ p:=⟨λq u=>h.ne q (o5 _ u),λq u=>h.st q (o5 _ u),λq u=>h.al q (o5 _ u)⟩
theorem Bb.push(h:Bb φ p)(B:b.str)(E:xz φ b):Bb φ (jC b e p):=by
 cases b with
 | nil=>exact h
 | cons x c d r=>
  refine⟨?_,?_,?_⟩<;>intro q u<;>rcases oR.1 u with rfl|u
  .intro G;cases G
  .exact h.ne q u
  .exact B
  .exact h.st q u
  .exact E
  .exact h.al q u
theorem Bb.pop(h:Bb φ p):Bb φ (gU p):=by
 match p,h with
 | [],h=>exact h
 | (.nil,_)::p,h=>exact h.tail
 | (.cons x a b r,_)::p,h=>
  have u:=h.st _ (oi ..)
  have B:=h.al _ (oi ..)
  exact h.tail.push u.2.2.2.2.2.2 B.2.2.2
theorem Bb.leave:∀{p:PD},Bb φ p->Bb φ (kX p)
 | [],h=>h
 | (_,e)::p,h=>by
  unfold kX;split
  .exact h.tail
  .exact h.tail.leave
theorem Lk{x:aZ}{a b:Bk}(h:qH p=some (x,a,b)):∃r e u,p=(.cons x a b r,e)::u:=by
 match p,h with
 | (.cons y c d r,e)::u,h=>cases h;grind
theorem nF:fq (jC b e p)=iY b+fq p:=by
 cases b with
 | nil=>simp[jC,iY]
 | cons x c d r=>exact nE _ _
theorem ER:∀p:PD,fq (kX p)<=fq p
 | []=>om _
 | (b,e)::p=>by
  have:=ER p
  grind[fq,kX]
theorem Ll(h:b≠.nil):1<=iY b:=by
 cases b with
 | nil=>grind
 | cons x c d r=>unfold iY;omega
theorem xR(h:Bb φ p):p.length<=fq p:=by
 induction p with
 | nil=>simp
 | cons q p u=>
  have:=Ll (h.ne q (oi ..))
  have:=u h.tail
  rw[nE,oh];omega
theorem pX{x:aZ}{a b r:Bk}:iY (.cons x a b r)=(if x.kind=12 then x.n.toNat*(iY a+1)else iY a+iY b)+iY r+1:=rfl
theorem Hb{x:aZ}{a b r:Bk}{u:PD}(h:p=(.cons x a b r,e)::u):fq (gU p)+1<=fq p:=by
 subst h
 show fq (jC r false u)+1<=_
 rw[nF,nE,pX];omega
end
structure oQ(φ:aZ->Prop)(t:jM):Prop where
 p:Bb φ t.bN
 rl:t.dJ.length=t.names.length
 nb:t.names.length<=1000
 bl:t.buf.length<=1000
 cl:fq t.bN<=10000
structure Vw(cs ls ns:List ByteArray)(x:aZ):Prop where
 k:1<=x.kind/\x.kind<=14
 e:x.e.length<=1000/\x.f.length<=1000
 n:x.kind=12->0<=x.n/\x.n<=1000
 el:¬ x.kind=11->x.eG<=0
 rg:x.kind=1\/x.kind=2\/x.kind=4->0<=cT ns x.eO
 cl:x.kind=2\/x.kind=3\/x.kind=4->0<=cT cs x.name
 lk:x.kind=9\/x.kind=10->0<=cT ls x.name
 nm:(∀y∈x.e,y.name.size<=1000)/\∀y∈x.f,y.name.size<=1000
abbrev wk(cs ls:List ByteArray)(t:jM):Prop:=oQ (Vw cs ls t.names) t
section
variable {φ:aZ->Prop}{cs ls:List ByteArray}{t t' tR:jM}{x:aZ}{a b:Bk}{n:Int}{k:Nat}
theorem oQ.bN{p:PD}(h:oQ φ t)(u:Bb φ p)(hc:fq p<=fq t.bN):oQ φ {t with bN:=p}:=⟨u,h.rl,h.nb,h.bl,x9 hc h.cl⟩
theorem oQ.flt(h:oQ φ t)(n:Int):oQ φ {t with fault:=n}:=⟨h.p,h.rl,h.nb,h.bl,h.cl⟩
theorem oQ.set(h:oQ φ t)(s:ByteArray)(n:Int):oQ φ (pD t s n):=⟨h.p,by simp[pD,h.rl],h.nb,h.bl,h.cl⟩
theorem oQ.top(h:oQ φ t)(ht:qH t.bN=some (x,a,b)):φ x/\a.str/\b.str/\xz φ a/\xz φ b/\x.body=a.len/\x.eG=b.len/\a.len<=40/\∃r e p,t.bN=(.cons x a b r,e)::p/\r.str/\xz φ r:=by
 obtain⟨r,e,p,u⟩:=Lk ht
 have h1:=h.p
 rw[u]at h1
 obtain⟨G,J,W,E,Y,I,M⟩:=h1.st _ (oi ..)
 obtain⟨U,B,V,O⟩:=h1.al _ (oi ..)
 grind
theorem S5(h:wk cs ls t)(ht:qH t.bN=some (x,a,b)):wk cs ls (mO t x a b n).1/\(mO t x a b n).1.names=t.names/\((mO t x a b n).2=true->fq (mO t x a b n).1.bN+1<=fq t.bN):=by
 obtain⟨B,V,sb,W,ab,hb,he,Z,r,e,p,I,sr,ar⟩:=h.top ht
 have E:=h.p.pop
 have O:=Hb (r:=r) I
 have u:fq t.bN=iY (.cons x a b r)+fq p:=by rw[I,nE]
 have J:gU t.bN=jC r false p:=by rw[I];rfl
 have U:fq (gU t.bN)=iY r+fq p:=by rw[J,nF]
 rw[pX]at u
 unfold mO
 split
 .exact⟨(h.set x.eO n).bN E (by show fq (gU t.bN)<=fq t.bN;omega),rfl,λ_=>O⟩
 split
 .rename_i WO
  rw[fg bP]at u
  have hc:fq (jC (if n=0 then b else a) false (gU t.bN))+1<=fq t.bN:=by rw[nF];grind
  refine⟨h.bN (Bb.push E ?_ ?_) bP,rfl,λ_=>hc⟩<;>split<;>assumption
 split
 .rename_i WO
  rw[fh WO]at u
  have hxn:=B.n WO
  have FE:=B.el bP
  unfold pW
  split
  .exact⟨h.bN E bP,rfl,λ_=>O⟩
  rename_i Sk
  have M:fq (jC a false ((.cons {x with n:=x.n-1} a .nil .nil,true)::gU t.bN))+1<=fq t.bN:=by
   rw[nF,nE,pX,fh (by exact WO),u,U]
   have e:x.n.toNat=(x.n-1).toNat+1:=bP
   rw[e,Nat.succ_mul]
   show iY a+((x.n-1).toNat*(iY a+1)+iY .nil+1+_)+1<=_
   simp only[iY];omega
  refine⟨h.bN (Bb.push ⟨?_,?_,?_⟩ V W) bP,rfl,λ_=>M⟩<;>intro q G<;>rcases oR.1 G with rfl|G
  .grind
  .exact E.ne q G
  .exact⟨hb,by show x.eG=((0:Nat):Int);omega,Z,mj _,V,trivial,trivial⟩
  .exact E.st q G
  .exact⟨⟨B.k,B.e,λhk=>⟨cR,cR⟩,B.el,B.rg,B.cl,B.lk,B.nm⟩,W,trivial,trivial⟩
  exact E.al q G
 split
 .have Y:fq (kX t.bN)+1<=fq t.bN:=by
   rw[u,I];unfold kX
   have:=ER p
   grind
  exact⟨h.bN h.p.leave bP,rfl,λ_=>Y⟩
 split
 .split
  .exact⟨h.flt 1,rfl,λhh=>by cases hh⟩
  exact⟨h.bN E bP,rfl,λ_=>O⟩
 grind
theorem Cx(h:wk cs ls t):wk cs ls (nD t).1/\(nD t).1.names=t.names/\((nD t).2=true->fq (nD t).1.bN+1<=fq t.bN):=by
 unfold nD
 cases ht:qH t.bN with
 | none=>grind
 | some q=>
  obtain⟨x,a,b⟩:=q
  dsimp only
  split
  .exact S5 h ht
  .exact⟨h.flt 2,rfl,λu=>by cases u⟩
theorem Bc:∀(n:Nat) {t:jM},wk cs ls t->fq t.bN<n->∃tR,sH n t=some tR/\wk cs ls tR/\tR.names=t.names
 | 0,_,_,hc=>by omega
 | n+1,t,h,hc=>by
  obtain⟨h1,h2,h3⟩:=Cx h
  unfold sH
  split
  .rename_i hs
   have:=h3 hs
   have h4:wk cs ls (nD t).1:=by have:=h1;rw[wk,h2]at this |-;exact this
   obtain⟨tR,u,B,E⟩:=Bc n h4 bP
   exact⟨tR,u,B,E.trans h2⟩
  grind
def Xc(t:jM):jM:=(sH (fq t.bN+1) t).getD t
theorem pE(h:wk cs ls t):sH (fq t.bN+1) t=some (Xc t)/\wk cs ls (Xc t)/\(Xc t).names=t.names:=by
 obtain⟨tR,u,B,E⟩:=Bc (fq t.bN+1) h (OY _)
 unfold Xc
 grind
theorem Lm{n:Nat}(h:sH n t=some tR):∃k,n=k+1:=by
 cases n with
 | zero=>cases h
 | succ k=>grind
theorem S6(h:sH (k+1) t=some tR)(u:nD t=(t',true)):sH k t'=some tR:=by
 unfold sH at h;rw[u]at h;exact h
theorem rG(h:sH (k+1) t=some tR)(u:nD t=(t',false)):tR=t':=by
 unfold sH at h;rw[u]at h;exact(nM.inj h).symm
theorem Jk:∀(n:Nat) {t tR:jM},sH n t=some tR->wk cs ls t->tR.fault=0->∀x a b,qH tR.bN=some (x,a,b)->(2<=x.kind/\x.kind<=10)/\(et tR x.e).2=true/\(et tR x.f).2=true
 | 0,_,_,B,_,_,_,_,_,_=>by cases B
 | n+1,t,tR,B,h,u,x,a,b,ht=>by
  obtain⟨h1,h2,_⟩:=Cx h
  unfold sH at B
  split at B
  .exact Jk n B bP u x a b ht
  .rename_i hs
   cases B
   have hb:(nD t).2=false:=by simpa using hs
   unfold nD at hb u ht
   cases hq:qH t.bN with
   | none=>rw[hq]at ht;dsimp only at ht;rw[hq]at ht;cases ht
   | some q=>
    obtain⟨y,c,d⟩:=q
    rw[hq]at hb u ht
    dsimp only at hb u ht
    have E:=(h.top hq).1.k
    split at hb
    .rename_i hv
     rw[fh hv]at u ht
     unfold mO at hb u ht
     split at hb
     .cases hb
     rename_i k1
     rw[fg k1]at u ht
     split at hb
     .cases hb
     rename_i k2
     rw[fg k2]at u ht
     split at hb
     .cases hb
     rename_i k3
     rw[fg k3]at u ht
     split at hb
     .cases hb
     rename_i k4
     rw[fg k4]at u ht
     split at hb
     .rename_i k5
      rw[fh k5]at u
      split at hb
      .rename_i k6;rw[fh k6]at u;cases u
      .cases hb
     .rename_i k5
      rw[fg k5]at ht
      rw[hq]at ht;cases ht
      have e:(nD t).1=t:=by unfold nD;rw[hq];dsimp only;rw[fh hv];unfold mO;rw[fg k1,fg k2,fg k3,fg k4,fg k5]
      rw[e]
      exact⟨bP,hv⟩
    .rename_i hv
     rw[fg hv]at u;cases u
section
variable {e:Int}
theorem Xd(h:x.kind=1):mO t x a b e=({pD t x.eO e with bN:=gU t.bN},true):=by unfold mO;grind
theorem Ta(h:x.kind=11):mO t x a b e=({t with bN:=jC (if e=0 then b else a) false (gU t.bN)},true):=by unfold mO;simp[h]
theorem Tb(h:x.kind=12):mO t x a b e=({t with bN:=pW x a t.bN},true):=by unfold mO;simp[h]
theorem Tc(h:x.kind=13):mO t x a b e=({t with bN:=kX t.bN},true):=by unfold mO;simp[h]
theorem Pj(h:x.kind=14)(u:e=0):mO t x a b e=({t with fault:=1},false):=by unfold mO;grind
theorem Pk(h:x.kind=14)(u:¬ e=0):mO t x a b e=({t with bN:=gU t.bN},true):=by unfold mO;grind
theorem Td(h1:¬ x.kind=1)(h2:¬ x.kind=11)(h3:¬ x.kind=12)(h4:¬ x.kind=13)(h5:¬ x.kind=14):mO t x a b e=(t,false):=by grind[mO]
end
theorem Xe(h:qH t.bN=none):nD t=(t,false):=by unfold nD;rw[h]
theorem Xf(h:qH t.bN=some (x,a,b))(h2:(et t x.e).2=false):nD t=({t with fault:=2},false):=by unfold nD;grind
theorem Xg(h:qH t.bN=some (x,a,b))(h3:(et t x.f).2=false):nD t=({t with fault:=2},false):=by unfold nD;grind
theorem Xh(h:qH t.bN=some (x,a,b))(h2:(et t x.e).2=true)(h3:(et t x.f).2=true):nD t=mO t x a b (et t x.e).1:=by unfold nD;grind
end
def Hd(B:Option Addr)(u E:Nat)(G:Bool):pr hM (l1 227 [(0,.slice B u E),(1,.bool G)].toArray)=some (.agg [.slice B u E,.bool G].toArray):=by kernel_rfl
structure rH where
 l:SV
 Cy:Bool
instance:Flat rH where
 agg:=true
 sz:=2
 enc e:=[.slice e.l.a e.l.n e.l.cap,.bool e.Cy]
 val e:=.agg [.slice e.l.a e.l.n e.l.cap,.bool e.Cy].toArray
 pos:=ea
 len _:=rfl
 one a v h:=by simp at h;rcases h with rfl|rfl<;>rfl
 lj _ _:=rfl
 lD h:=by cases h
variable (w:World) (K:Value->hU)
def S127(I:Value):Prop:=
 aL 220 w λa b=>nC I λc=>fA 131 c 3 λd=>lA 129 d b λe=>lN 129 e λf=>bB .eql 3 f (i 0) λg=>cV g (dX hM (l1 220 [].toArray) λh=>sA 220 a h b λj=>
 lA 220 a j λr=>K (.tuple #[r,(.slice none 0 0),(.slice none 0 0),ff]) j) (nC I λk=>fA 131 k 3 λl=>lA 129 l (drew b) λn=>nC I λo=>fA 131 o 3 λp=>lA 129 p (drew b) λq=>
 lN 129 q λs=>bB .sub 3 s (i 1) λt=>iA 129 n t λu=>fA 227 u 0 λv=>lA 112 v (drew b) λx=>iA 112 x (i 0) λy=>lA 220 y (drew b) λz=>aL 220 (drew b) λE ab=>
 sA 220 E z ab λB=>fA 220 E 6 λO=>lA 3 O B λU=>bC .add 3 (i 1) U λG=>fA 220 E 7 λZ=>lA 3 Z B λY=>bA .add 3 G Y λJ=>lA 220 E (drew B) λaj=>
 dX hM (mv 112 x (some (i 1)) (some G) (some G)) λW=>dX hM (mv 112 x (some G) (some J) (some J)) λal=>sA 220 a aj (drew B) λM=>
 lA 220 a M λV=>K (.tuple #[V,W,al,tt]) M)
def aio:dI:=λi=>match i with
 | 3=>.run 0 14
 | 7=>.run 0 14
 | _=>.nil
theorem Te(u:Value)(h:S127 w K u):CR 127 [u] w K:=
 lL 50 aio 60 [.cell 2 220,.tmp 3,.tmp 4,.tmp 5] Tryz.func127 h
def aip:dI:=λi=>match i with
 | 3=>.run 0 14
 | _=>.nil
def S222(B:Value):Prop:=
 jA (λE I a=>∀_:Env,
 eF (λG=>dX hM (Op.unary .not I) λb=>cV b (nC B λc=>fA 131 c 3 λd=>lA 129 d a λe=>lN 129 e λf=>bB .gtr 3 f (i 0) λg=>G g a) (G ff a))
 (λh j=>∀_:Env,
 cV h (nC B λk=>fA 131 k 3 λl=>lA 129 l j λn=>lN 129 n λo=>bB .sub 3 o (i 1) λp=>nC B λq=>fA 131 q 3 λr=>lA 129 r j λs=>iA 129 s p λt=>fA 227 t 1 λu=>
 lA 4 u j λv=>nC B λx=>fA 131 x 3 λy=>lA 129 y j λz=>dX hM (mv 129 z none (some p) (some p)) λO=>nC B λU=>fA 131 U 3 λM=>sA 129 M O j λJ=>
 E v J) (K (.tuple #[]) j))) (λE=>E ff w)
theorem Tf(u:Value)(h:S222 w K u):CR 222 [u] w K:=
 lL 38 (λ_=>.nil) 0 [] Tryz.func222 h
def S163(u B:Value):Prop:=
 lN 92 B λa=>bB .eql 3 a (i 0) λb=>cV b (K (.tuple #[(i 0),tt]) w) (nC u λc=>fA 131 c 1 λd=>lA 86 d (drew w) λe=>nC u λf=>fA 131 f 2 λg=>lA 22 g (drew w) λh=>
 cF 78 [B,e,h] (drew w) λj k=>xT j 0 λl=>xT j 1 λn=>wF (λE=>bB .neq 40 n (i 0) λo=>cV o (nC u λp=>fA 131 p 4 λq=>sA 3 q (i 2) k λr=>E r) (E k))
 (λs=>∀_:Env,
 bB .eql 40 n (i 0) λt=>K (.tuple #[l,t]) s))
def aiq:dI:=λi=>match i with
 | 3=>.run 0 15
 | _=>.nil
theorem Tg(u B:Value)(h:S163 w K u B):CR 163 [u,B] w K:=
 lL 32 aiq 48 [.tmp 4,.tmp 5] Tryz.func163 h
def S119(B:Value):Prop:=
 Mo (λE a=>∀_:Env,
 cF 127 [B] a λb c=>xT b 0 λd=>xT b 1 λe=>xT b 2 λf=>xT b 3 λg=>aL 220 c λh j=>sA 220 h d j λk=>dX hM (Op.unary .not g) λl=>cV l (K (.tuple #[]) k) (
 fA 220 h 3 λn=>lA 92 n k λo=>cF 163 [B,o] k λp q=>xT p 0 λr=>xT p 1 λs=>dX hM (Op.unary .not s) λt=>cV t (K (.tuple #[]) q) (fA 220 h 4 λu=>lA 92 u q λv=>
 cF 163 [B,v] q λx y=>xT x 0 λ_=>xT x 1 λz=>dX hM (Op.unary .not z) λaa=>cV aa (K (.tuple #[]) y) (fA 220 h 0 λab=>lA 3 ab y λG=>bB .eql 3 G (i 1) λad=>
 cV ad (nC B λae=>fA 131 ae 2 λV=>lA 22 V (drew y) λU=>nC B λah=>fA 131 ah 1 λai=>lA 86 ai (drew y) λaj=>fA 220 h 1 λak=>lA 9 ak (drew y) λal=>
 cF 146 [aj,al] (drew y) λam M=>kA 22 V U M (iA 22 U am λao=>sA 3 ao r M λap=>cF 166 [B] ap λ_ W=>E W)) (bB .eql 3 G (i 11) λar=>cV ar (cF 166 [B] y λ_ I=>
 eF (λO=>bB .eql 3 r (i 0) λau=>cV au (O f I) (O e I)) (λJ av=>∀_:Env,
 cF 118 [B,J,ff] av λ_ aw=>E aw)) (bB .eql 3 G (i 12) λax=>cV ax (lA 220 h y λY=>cF 221 [B,Y,e] y λ_ Z=>E Z) (bB .eql 3 G (i 13) λa0=>cV a0 (cF 222 [B] y λ_ a1=>
 E a1) (bB .eql 3 G (i 14) λa2=>cV a2 (bB .eql 3 r (i 0) λa3=>cV a3 (nC B λa4=>fA 131 a4 4 λa5=>sA 3 a5 (i 1) y λa6=>K (.tuple #[]) a6) (cF 166 [B] y λ_ a7=>
 E a7)) (K (.tuple #[]) y))))))))) (λE=>E w)
def air:dI:=λi=>match i with
 | 8=>(.of [(0,[]),(1,[]),(2,[]),(3,[]),(4,[]),(5,[]),(6,[]),(7,[]),(8,[]),(9,[]),(11,[]),(10,[3]),(12,[]),(13,[])])
 | _=>.nil
theorem Th(u:Value)(h:S119 w K u):CR 119 [u] w K:=
 lL 83 air 0 [] Tryz.func119 h
theorem ES:PL 118:=dD Tryz.func118
theorem Pm:PL 127:=dD Tryz.func127
theorem ET:PL 166:=dD Tryz.func166
theorem acQ:PL 221:=dD Tryz.func221
theorem acR:PL 222:=dD Tryz.func222
theorem EU:PL 163:=dD Tryz.func163
theorem Vx:PL 119:=dD Tryz.func119
theorem acS:PL 66:=dD Tryz.func66
end Go.Proofs.YtdncbeepkacgbaaGreatDoor
namespace Go.Fw
section
variable {P:Program}{w w0:World}{A S:Nat->Prop}{L:List HP}
theorem zj{n cap l h m:Nat}{lo hi B:Option Value}(G:lo=none/\l=0\/∃i:Int,lo=some (hZ i)/\0<=i/\l=i.toNat)(J:∃i:Int,hi=some (hZ i)/\0<=i/\h=i.toNat)(M:∃i:Int,B=some (hZ i)/\0<=i/\m=i.toNat)
  (h1:l<=h) (h2:h<=m) (h3:m<=cap):pr P (qa true n cap lo hi B)=some (l,h,m):=by
 obtain⟨j,rfl,E,rfl⟩:=J
 obtain⟨k,rfl,u,rfl⟩:=M
 rcases G with⟨rfl,rfl⟩|⟨i,rfl,I,rfl⟩<;>simp only[qa,bT,eU,la]
 .rw[fR u bP];simp only[la];rw[fR E bP];rfl
 rw[fR u bP];simp only[la];rw[fR E bP];simp only[la];rw[fR I bP];rfl
theorem Jl{T E sz J:Nat}{z:Option Nat}{a:Option Addr}{n cap l h m:Nat}{lo hi u:Option Value}(ht:dV P T=some (E,sz,J,z))
  (hb:pr P (qa true n cap lo hi u)=some (l,h,m)) :
  pr P (mv T (.slice a n cap) lo hi u)=some (.slice (if m=l then a else a.map (·.add (l*sz))) (h-l) (m-l)):=by
 obtain⟨B,M,G,I,_⟩:=eu ht
 unfold mv
 rw[bT,bR B]
 simp only[la]
 unfold Instr.slice
 rw[bT,bR B]
 simp only[la]
 rw[bT,hb]
 simp only[la]
 rw[bT,kj G,I]
 rfl
variable {α:Type}[Flat α] {xs:List α}
theorem dy.ais{v:Value}{a:Option Addr}{n cap l h:Nat}(I:v=.slice a n cap)(O:dy S w v xs)(h1:l<=h)(h2:h<=xs.length) :
  dy S w (.slice (if h=l then a else a.map (·.add (l*lx α))) (h-l) (h-l)) ((xs.take h).drop l):=by
 obtain⟨Z,Y,M,W,h3⟩:=O
 rw[M]at I
 simp only[ta.injEq]at I
 obtain⟨rfl,U,rfl⟩:=I
 have hlen:((xs.take h).drop l).length=h-l:=by simp;omega
 rcases h3 with⟨G,V⟩|⟨b,o,rfl,h4,h5⟩
 .subst G
  exact⟨_,h-l,by rw[hlen],ew,.inl ⟨ew,by simp at h2;omega⟩⟩
 refine⟨_,h-l,by rw[hlen],by rw[hlen];exact om _,.inr ?_⟩
 have J:(xs.take h).drop l≠[]->xs≠[]:=λE B=>E (by rw[B];simp)
 by_cases E:h=l
 .rw[fh E]
  refine⟨b,o,rfl,λB=>h4 (J B),λj c u=>?_⟩
  have:((xs.take h).drop l)=[]:=by rw[<- pP,hlen];omega
  rw[this]at u;simp[je]at u
 rw[fg E]
 refine⟨b,o+l*lx α,by simp[fm],λB=>h4 (J B),λj c u=>?_⟩
 rw[AB,AA,Dk,DX]at u
 split at u
 .have:=h5 _ c u
  rwa [show o+(l*lx α+j)=o+l*lx α+j from bP]at this
 cases u
theorem EV{T E I:Nat}{z:Option Nat}{v:Value}{i j:Int}{K:Value->Prop}(ht:dV P T=some (E,lx α,I,z))(J:dy S w v xs)
  (G:0<=i) (h1:i<=j) (h2:j<=xs.length) (k:∀u,(∀w' (ys:List α),dy S w' v ys->dy S w' u ((ys.take j.toNat).drop i.toNat))->K u):dX P (mv T v (some (hZ i)) (some (hZ j)) (some (hZ j))) K:=by
 obtain⟨a,cap,rfl,M,h3⟩:=J
 refine⟨_,Jl ht (zj (.inr ⟨i,rfl,G,rfl⟩) ⟨j,rfl,bP,rfl⟩ ⟨j,rfl,bP,rfl⟩ bP (om _) bP),k _ λw' ys B=>B.ais rfl bP ?_⟩
 obtain⟨_,_,h4,_⟩:=B
 grind
theorem He{T E I:Nat}{z:Option Nat}{v:Value}{i:Int}{K:Value->Prop}(ht:dV P T=some (E,lx α,I,z))(J:dy S w v xs)
  (G:0<=i) (h2:i<=xs.length) (k:∀u,(∀w' (ys:List α),dy S w' v ys->dy S w' u (ys.drop i.toNat))->K u):dX P (mv T v (some (hZ i)) none none) K:=by
 obtain⟨a,cap,rfl,M,h3⟩:=J
 refine⟨_,qN ht (km (.inr ⟨i,rfl,G,rfl⟩) (.inl ⟨rfl,rfl⟩) bP bP),k _ λw' ys B=>?_⟩
 have O:ys.length=xs.length:=by
  obtain⟨_,_,h4,_⟩:=B
  grind
 have:=B.cut rfl (show i.toNat<=ys.length by omega) (om _)
 grind
theorem wX{T E V:Nat}{z:Option Nat}{v:Value}{i:Int}{K:Value->Prop}(ht:dV P T=some (E,lx α,V,z))
  (O:St w0 A (bH v xs::L) w) (M:0<=i) (h1:i<=xs.length) (k:∀J,St w0 A (bH J (xs.take i.toNat)::L) w->K J):dX P (mv T v none (some (hZ i)) (some (hZ i))) K:=by
 obtain⟨a,cap,u,Z,_⟩:=O.eS
 refine⟨_,(by rw[u];exact Jl ht (zj (.inl ⟨rfl,rfl⟩) ⟨i,rfl,M,rfl⟩ ⟨i,rfl,M,rfl⟩ (mj _) (om _) bP)),k _ ?_⟩
 refine O.mJ λF B=>?_
 rcases B with⟨G,Y,U⟩|⟨b,zV,rest,W,hb,hl,B⟩
 .rw[G]at u
  subst Y
  simp only[ta.injEq]at u
  obtain⟨rfl,_,rfl⟩:=u
  have hi:i.toNat=0:=by simp at h1;omega
  refine⟨F,.inl ⟨?_,ew,U⟩,λb hb=>.inl hb,fD.refl _ _⟩
  rw[hi];rfl
 rw[W]at u
 simp only[ta.injEq]at u
 obtain⟨rfl,_,rfl⟩:=u
 have I:(xs.take i.toNat).length=i.toNat:=by rw[mg];omega
 refine⟨F,.inr ⟨b,i.toNat,flat (xs.drop i.toNat)++rest,?_,?_,⟨bP,?_⟩,B⟩,λb hb=>.inl hb,fD.refl _ _⟩
 .rw[I]
  simp[fm]
 .rw[<- mu,<- fp,ob];exact hb
 rw[kE,cG,I];omega
end
end Go.Fw
namespace Go.Proofs.YtdncbeepkacgbaaGreatDoor
open Go.Fw
def nG(K:hU)(u:SV)(rows:List aT)(l:List aZ)(w:World):Prop:=(∀w',K w'->gQ rows l w')/\(K w->dy (λ_=>True) w (iS u) rows)
abbrev PE:=List (rH×List aT)
def xS(K:hU)(w:World):PE->PD->Prop
 | [],[]=>True
 | e::es,q::p=>(e.1.Cy=q.2/\nG K e.1.l e.2 q.1.flat w)/\xS K w es p
 | _,_=>False
def FN(es:PE):List rH:=(es.map Prod.fst).reverse
theorem Pn(e:rH×List aT)(es:PE):FN (e::es)=FN es++[e.1]:=by simp[FN]
theorem mP(es:PE):(FN es).length=es.length:=by simp[FN]
theorem xS.len{K:hU}{w:World}:∀{es:PE}{p:PD},xS K w es p->es.length=p.length
 | [],[],_=>rfl
 | e::es,q::p,h=>by have:=xS.len h.2;simp[this]
 | [],_::_,h=>h.elim
 | _::_,[],h=>h.elim
def dM(K Φ:hU)(p:Nat)(room:Int)(t:jM):HP:=oV λB:Nat=>oV λu:SV=>oV λrg=>oV λpl=>oV λes:PE=>fact (∀w,K w->dy (λ_=>True) w (iS u) t.names)
 (sep (bM p [.pointer (some ⟨B,0,none⟩),iS u,rg,pl,hZ t.fault]) (sep (kW B room t.buf) (sep (bH rg t.dJ) (sep (bH pl (FN es)) (eH λw=>xS K w es t.bN/\Φ w)))))
abbrev mQ(K:hU)(p:Nat)(room:Int)(t:jM):HP:=dM K (λ_=>True) p room t
section
variable {w w0:World}{A:Nat->Prop}{R:List HP}{p:Nat}{K Φ Ψ:hU}{room:Int}{t:jM}
theorem tA{H1 H2 u B E:HP}(G:St w0 A (sep H1 (sep H2 (sep u (sep B E)))::R) w):St w0 A (H1::H2::u::B::E::R) w:=by
 have h1:=G.split
 have h2:=h1.p1.split
 have h3:=h2.p1.split
 have h4:=h3.p1.split
 exact h4.p2.p3.p4
theorem tB{H1 H2 u B E:HP}(G:St w0 A (H1::H2::u::B::E::R) w):St w0 A (sep H1 (sep H2 (sep u (sep B E)))::R) w:=by
 have h4:=St.join G.p4.p4
 have h3:=St.join h4.p3
 have h2:=St.join h3.p2
 exact St.join h2.p1
abbrev vd(B:Nat)(u:SV)(rg pl:Value)(f:Int):List Value:=[.pointer (some ⟨B,0,none⟩),iS u,rg,pl,.int .i64 f]
theorem dM.open(u:St w0 A (dM K Φ p room t::R) w):∃E B rg pl es,(∀w,K w->dy (λ_=>True) w (iS B) t.names)/\
  St w0 A (bM p (vd E B rg pl t.fault)::kW E room t.buf::bH rg t.dJ::bH pl (FN es)::eH (λw=>xS K w es t.bN/\Φ w)::R) w:=by
 obtain⟨E,u⟩:=u.dS;obtain⟨B,u⟩:=u.dS;obtain⟨rg,u⟩:=u.dS;obtain⟨pl,u⟩:=u.dS;obtain⟨es,u⟩:=u.dS;obtain⟨G,u⟩:=u.lr
 exact⟨E,B,rg,pl,es,G,tA u⟩
theorem dM.shut{B:Nat}{u:SV}{rg pl:Value}{es:PE}(G:∀w,K w->dy (λ_=>True) w (iS u) t.names)
  (E:St w0 A (bM p (vd B u rg pl t.fault)::kW B room t.buf::bH rg t.dJ::bH pl (FN es)::eH (λw=>xS K w es t.bN/\Φ w)::R) w):St w0 A (dM K Φ p room t::R) w:=
 St.dO B (St.dO u (St.dO rg (St.dO pl (St.dO es (St.mB G (tB E))))))
theorem dM.mono(u:St w0 A (dM K Φ p room t::R) w)(h:∀w,Φ w->Ψ w):St w0 A (dM K Ψ p room t::R) w:=by
 obtain⟨I,G,rg,pl,es,E,u⟩:=dM.open u
 have h1:=u.p4.dH (Ψ:=λw=>xS K w es t.bN/\Ψ w) λw B=>⟨B.1,h w B.2⟩
 exact dM.shut E h1.p4.p4.p4.p4
theorem dM.now(u:St w0 A (dM K Φ p room t::R) w):Φ w:=by
 obtain⟨G,B,rg,pl,es,E,u⟩:=dM.open u
 exact u.p4.eH.2
theorem dM.rd(h:Has (dM K Φ p room t) w):∃E B rg pl es,(∀w,K w->dy (λ_=>True) w (iS B) t.names)/\nY w p (vd E B rg pl t.fault)/\sD w E room t.buf/\dy (λ_=>True) w rg t.dJ/\dy (λ_=>True) w pl (FN es)/\xS K w es t.bN/\Φ w:=by
 obtain⟨F,u⟩:=h.st
 obtain⟨E,B,rg,pl,es,G,u⟩:=dM.open u
 exact⟨E,B,rg,pl,es,G,u.hb,Jf u.p1,u.p2.eS,u.p3.eS,u.p4.eH.1,u.p4.eH.2⟩
theorem kY{E:aT}{x:aZ}(h:l3 w E x):∃u B:SV,E=⟨x.kind,x.eO,x.name,u,B,x.n,x.body,x.eG,x.at_⟩/\dy (λ_=>True) w (iS u) x.e/\dy (λ_=>True) w (iS B) x.f:=by
 obtain⟨u,B,h1,h2,h3⟩:=h
 exact⟨u,B,h1,DL.flat h2,DL.flat h3⟩
theorem gQ.cut{rows:List aT}{l:List aZ}{i j:Nat}(h:gQ rows l w):gQ ((rows.take j).drop i) ((l.take j).drop i) w:=(h.take j).drop i
theorem abX{x:aZ}{a b r:Bk}(h:(Bk.cons x a b r).str){j:Int}(E:j=1+x.body):(((Bk.cons x a b r).flat.take j.toNat).drop (1:Int).toNat)=a.flat:=by
 obtain⟨B,_⟩:=h
 have u:=a.cM
 rw[ti _ (a:=1) (c:=(1:Int).toNat) (n:=a.flat.length) bP rfl]
 show(a.flat++(b.flat++r.flat)).take _=_
 grind
theorem abY{x:aZ}{a b r:Bk}(h:(Bk.cons x a b r).str){i j:Int}(hi:i=1+x.body)(G:j=1+x.body+x.eG):(((Bk.cons x a b r).flat.take j.toNat).drop i.toNat)=b.flat:=by
 obtain⟨B,E,_⟩:=h
 have u:=a.cM
 have lb:=b.cM
 rw[ti _ (a:=1+a.flat.length) (n:=b.flat.length) bP bP,<- List.drop_drop]
 show((a.flat++(b.flat++r.flat)).drop _).take _=_
 grind
theorem nG.cut{E u:SV}{rows:List aT}{l:List aZ}{i j:Nat}(h:nG K E rows l w)(hc:∀w' (ys:List aT),dy (λ_=>True) w' (iS E) ys->dy (λ_=>True) w' (iS u) ((ys.take j).drop i)):nG K u ((rows.take j).drop i) ((l.take j).drop i) w:=
 ⟨λw' B=>gQ.cut (h.1 w' B),λB=>hc _ _ (h.2 B)⟩
theorem nG.acU{E u:SV}{rows:List aT}{l:List aZ}{i:Nat}(h:nG K E rows l w)(hc:∀w' (ys:List aT),dy (λ_=>True) w' (iS E) ys->dy (λ_=>True) w' (iS u) (ys.drop i)):nG K u (rows.drop i) (l.drop i) w:=
 ⟨λw' B=>(h.1 w' B).drop i,λB=>hc _ _ (h.2 B)⟩
theorem xS.top{es:PE}{q:Bk×Bool}{p:PD}(h:xS K w es (q::p)):∃u rows B,es=(⟨u,q.2⟩,rows)::B/\nG K u rows q.1.flat w/\xS K w B p:=by
 match es,h with
 | [],h=>exact h.elim
 | e::es,h=>
  obtain⟨⟨u,E⟩,rows⟩:=e
  obtain⟨⟨h1,h2⟩,h3⟩:=h
  grind
theorem xS.cons{u:SV}{e:Bool}{rows:List aT}{es:PE}{q:Bk×Bool}{p:PD}(h:xS K w ((⟨u,e⟩,rows)::es) (q::p)):nG K u rows q.1.flat w/\xS K w es p:=⟨h.1.2,h.2⟩
theorem zn{e:rH×List aT}{es:PE}:(FN (e::es))[es.length]?=some e.1:=by grind[FN]
theorem Jm{e:rH×List aT}{es:PE}:(FN (e::es)).take es.length=FN es:=by grind[FN]
end
theorem C118(K Φ:hU)(p:Nat)(room:Int)(t:jM)(F:Nat->Prop)(lv:SV)(rows:List aT)(b:Bk)(e:Bool)(w:World)(O:(dM K Φ p room t).p w F)(E:∀w',fD F w w'->K w')(G:∀w,Φ w->nG K lv rows b.flat w)(mI:t.bN.length<=100000) :
    CR 118 [.pointer (some ⟨p,0,none⟩),iS lv,.bool e] w (λv w'=>v=.tuple #[]/\mC F (dM K Φ p room {t with bN:=jC b e t.bN}) w w'):=by
 have u:=St.begin O;refine eR Tryz.func118 ?_;obtain⟨M,V⟩:=G _ (dM.now u);have hlen:=(M _ (E _ u.aF)).1;refine aI fT (V (E _ u.aF)) (dL (aC (λc=>?_) λc=>?_));rotate_left
 .have hb:b=.nil:=by
   cases b with
   | nil=>rfl
   | cons y a B r=>simp[Bk.flat]at hlen;omega
  subst hb;exact⟨rfl,u.mut⟩
 obtain⟨y,a,B,r,rfl⟩:=Bk.IX (t:=b) bP;obtain⟨Z,Y,rg,pl,es,I,u⟩:=dM.open u;have FE:=u.p4.eH.1.len;refine aD (aA gu (aB m7 u.hb rfl (pop (Hd lv.a lv.n lv.cap e) (bK ([(⟨lv,e⟩:rH)]) u o8 rfl rfl (dQ rfl) λW _ u=>?_))));have J:=u.eS;refine cO u.p4 o8 J (by rw[mP];simp;omega) ea (λU _ u=>have u:=u.p1.drop;aD (aA gu (aO u.p1 m7 (dQ rfl) u.eS.one λ_ u=>?_)));have u:=u.p4.dH (Ψ:=λw=>xS K w ((⟨lv,e⟩,rows)::es) ((.cons y a B r,e)::t.bN)/\Φ w) (λw h=>⟨⟨⟨rfl,G w h.2⟩,h.1⟩,h.2⟩)
 have u:=u.p2;rw[<- Pn (⟨lv,e⟩,rows) es]at u;have u:=dM.shut (Φ:=Φ) (t:={t with bN:=(.cons y a B r,e)::t.bN}) I u.p1.p1.p4.p4.p4;exact⟨rfl,u.mut⟩
def C166(K Φ:hU)(p:Nat)(room:Int)(t:jM)(F:Nat->Prop)(y:aZ)(a b r:Bk)(e:Bool)(B:PD)(w:World)(hF:(dM K Φ p room t).p w F)(O:∀w',fD F w w'->K w')(I:t.bN=(.cons y a b r,e)::B)(gi:(Bk.cons y a b r).str)(mI:t.bN.length<=100000) :
   CR 166 [.pointer (some ⟨p,0,none⟩)] w (λv w'=>v=.tuple #[]/\mC F (dM K Φ p room {t with bN:=gU t.bN}) w w'):=by
 have M:gU t.bN=jC r false B:=by rw[I];rfl
 have ait:B.length<=100000:=by rw[I,oh]at mI;omega
 have u:=St.begin hF;refine qg Tryz.func166 (pl:=aip) ?_;obtain⟨bp,nv,rg,pl,es,hk,u⟩:=dM.open u;have Zv:=u.p4.eH.1;rw[I]at Zv;obtain⟨G,rows,Z,rfl,⟨Jb,L3⟩,_⟩:=Zv.top;have FE:=Zv.len;rw[oh,oh]at FE;have Oq:=Jb _ (O _ u.aF);have Po:=Oq.1;have F8:=(Bk.cons y a b r).cM
 change rows.length=(Bk.cons y a b r).flat.length at Po
 obtain⟨FG,hb2,hb3,hb4,_⟩:=id gi;simp only[Bk.len]at F8;obtain⟨t0,Xi⟩:∃t0,rows[(0:Int).toNat]?=some t0:=⟨_,kB (by simp;omega)⟩;obtain⟨ge,gf,rfl,_,_⟩:=kY (Oq.2 0 _ y Xi rfl);refine aD (aA gu (aB m7 u.hb rfl (aI o8 u.p3.eS ?_)));rw[mP,oh];refine fk bP ?_;rw[show((Z.length+1:Nat):Int)-1=(Z.length:Int)from bP];refine aD (aA gu (aB m7 u.hb rfl (aY o8 u.p3.eS bP (by rw[qG];exact zn) λq hq=>cU G DD hq rfl rfl λq2 OS=>aE lV OS (aD (aA gu (aB m7 u.hb rfl (have u:=u.p3;wX o8 u bP (by rw[mP,oh];omega) λs25 u=>?_)))))))
 rw[qG,Jm]at u;refine aD (aA gu (aO u.p1 m7 (dQ rfl) u.eS.one λ_ u=>?_));have u:=u.drew.p4;rw[I]at u;have u:=u.dH (Ψ:=λw=>xS K w Z B/\(Φ w/\nG K G rows (Bk.cons y a b r).flat w)) (λ_ h=>⟨h.1.2,h.2,h.1.1.2⟩);have J:=u.eH.2.2.2 (O _ u.aF);have u:=dM.shut (Φ:=λw=>Φ w/\nG K G rows (Bk.cons y a b r).flat w) (t:={t with bN:=B}) hk u.p2.p4.p4.p4;refine aY fT J bP Xi (λq3 V=>cU y.body jT V rfl rfl λq4 hq4=>aE bL hq4 (aM bP (aY fT J bP Xi λq5 U=>cU y.eG lY U rfl rfl λq6 W=>aE bL W (aM bP (He fT J bP bP λs40 E=>?_)))))
 obtain⟨Y,rfl⟩:=(E _ _ J).gF;refine aS ES u (H':=λ_=>dM K (λw=>Φ w/\nG K G rows (Bk.cons y a b r).flat w) p room {t with bN:=jC r false B}) (Φ:=λ_ _=>True) (λF2 dP dK=>?_) ?_
 .refine(C118 K _ p room {t with bN:=B} F2 Y (rows.drop (1+y.body+y.eG).toNat) r false _ dP (λw' hc=>O w' (dK w' hc).aF) (λw h=>?_) ait).mono λ_ _ r=>r.mono λ_ _ h=>⟨trivial,h.2⟩;have:=h.2.acU E;rw[Bk.abW gi rfl]at this;exact this
 rintro _ _ _ u;rw[<- M]at u;exact⟨rfl,(dM.mono u λ_ h=>h.1).mut⟩
theorem C127(K:hU)(p:Nat)(t:jM)(bp:Nat)(nv:SV)(rg pl:Value)(es:PE)(φ:aZ->Prop)(w:World)(zo:nY w p (vd bp nv rg pl t.fault))(Z:dy (λ_=>True) w pl (FN es))(U:xS K w es t.bN)
   (hw:∀w',Ext w w'->K w') (B:Bb φ t.bN) (hl:t.bN.length<=100000):CR 127 [.pointer (some ⟨p,0,none⟩)] w (λv w'=>Ext w w'/\((qH t.bN=none/\v=.tuple #[iS (⟨0,⟨#[]⟩,⟨#[]⟩,bY,bY,0,0,0,0⟩:aT),.slice none 0 0,.slice none 0 0,.bool false])\/
    ∃x a b xv av bv ra rb,qH t.bN=some (x,a,b)/\v=.tuple #[iS (xv:aT),iS (av:SV),iS (bv:SV),.bool true]/\(∀w',K w'->l3 w' xv x)/\∀J,xS K J es t.bN->nG K av ra a.flat J/\nG K bv rb b.flat J)):=by
 have Y:=zo.cell (o:=3) rfl;have M:=U.len;have u:=St.start w;refine Te _ _ _ ?_;unfold S127;refine aK u jw (λb2 _ u=>have u:=u.enc (cs':=jn (⟨0,⟨#[]⟩,⟨#[]⟩,bY,bY,0,0,0,0⟩:aT)) rfl;aD (aA gu (cD m7 (Y.ext u.aF) (aI o8 (Z.ext u.aF) ?_))));rw[mP];refine aG (aC (λc=>?_) λc=>?_)
 .have FM:t.bN=[]:=pP.1 bP;exact pop (v:=iS (⟨0,⟨#[]⟩,⟨#[]⟩,bY,bY,0,0,0,0⟩:aT)) (by kernel_rfl) (aH (x:=(⟨0,⟨#[]⟩,⟨#[]⟩,bY,bY,0,0,0,0⟩:aT)) u ek rfl rfl λ_ u=>aE ek u.At ⟨u.drop.aF,.inl ⟨by rw[FM];rfl,rfl⟩⟩)
 obtain⟨bN,acW⟩:∃q,q=t.bN:=⟨_,rfl⟩;rw[<- acW]at U B M hl |-;cases bN with
 | nil=>exact absurd (show((es.length:Nat):Int)=0 by have h0:es.length=0:=M;omega) c
 | cons q p'=>
 obtain⟨q1,e⟩:=q;cases q1 with
 | nil=>exact absurd rfl (B.ne _ (oi ..))
 | cons y a b r=>
 have gi:=B.st _ (oi ..);obtain⟨sv,rows,Ln,rfl,⟨Jb,L3⟩,_⟩:=U.top;have Oq:=Jb _ (hw _ (Ext.refl _));have Po:=Oq.1;have F8:=(Bk.cons y a b r).cM
 change rows.length=(Bk.cons y a b r).flat.length at Po
 obtain⟨FG,hb2,hb3,hb4,_⟩:=id gi;simp only[Bk.len]at F8;rw[oh]at M c;rw[oh]at M hl;obtain⟨t0,Xi⟩:∃t0,rows[(0:Int).toNat]?=some t0:=⟨_,kB (by simp;omega)⟩;obtain⟨ge,gf,rfl,_,_⟩:=kY (Oq.2 0 _ y Xi rfl);have I:=L3 (hw _ (Ext.refl _));have u:=u.drew;refine aD (aA gu (cD m7 (Y.ext u.aF) (aD (aA gu (cD m7 (Y.ext u.aF) (aI o8 (Z.ext u.aF) ?_))))));rw[mP,oh];refine fk bP ?_;rw[show((Ln.length+1:Nat):Int)-1=(Ln.length:Int)from bP];refine aY o8 (Z.ext u.aF) bP (by rw[qG];exact zn) (λq hq=>cU sv DD hq rfl rfl λq2 OS=>aE lV OS (aY fT (I.ext u.aF) bP Xi λq3 V=>aE ek V (aK u jw λb7 _ u=>aH (x:=(⟨y.kind,y.eO,y.name,ge,gf,y.n,y.body,y.eG,y.at_⟩:aT)) u ek rfl rfl λ_ u=>aA jT (aB (v:=hZ y.body) bL u.hb rfl (aM bP (aA lY (aB (v:=hZ y.eG) bL u.hb rfl (aM bP ?_))))))))
 have u:=u.drew;refine aE ek u.At (EV fT (I.ext u.aF) bP bP bP λs44 E=>?_);obtain⟨W,rfl⟩:=(E _ _ I).gF;refine EV fT (I.ext u.aF) bP bP bP (λs49 G=>?_);obtain⟨O,rfl⟩:=(G _ _ I).gF;refine aH (x:=(⟨y.kind,y.eO,y.name,ge,gf,y.n,y.body,y.eG,y.at_⟩:aT)) u.p1 ek rfl rfl (λ_ u=>aE ek u.At ?_);refine⟨u.drop.drop.aF,.inr ⟨y,a,b,_,W,O,(rows.take (1+y.body).toNat).drop (1:Int).toNat,(rows.take (1+y.body+y.eG).toNat).drop (1+y.body).toNat,rfl,rfl,λw' hk=>(Jb w' hk).2 0 _ y Xi rfl,λJ h2=>?_⟩⟩;have h3:=h2.cons.1
 refine⟨?_,?_⟩
 .have:=h3.cut E;rw[abX gi rfl]at this;exact this
 have:=h3.cut G;rw[abY gi rfl rfl]at this;exact this
theorem C222(K Φ:hU)(p:Nat)(room:Int)(t:jM)(F:Nat->Prop)(w:World)(Z:(dM K Φ p room t).p w F)(hK:∀w',fD F w w'->K w')(mI:t.bN.length<=100000) :
   CR 222 [.pointer (some ⟨p,0,none⟩)] w (λv w'=>v=.tuple #[]/\mC F (dM K Φ p room {t with bN:=kX t.bN}) w w'):=by
 have u:=St.begin Z;refine Tf _ _ _ ?_;unfold S222;refine⟨λm ev I=>∃(E:Bool) (B:PD),ev=.bool E/\m=B.length+(if E then 0 else 1)/\B.length<=100000/\kX t.bN=(if E=true then B else kX B)/\St w F [dM K Φ p room {t with bN:=B}] I,⟨_,false,t.bN,rfl,rfl,mI,rfl,u⟩,?_⟩;rintro m _ I ⟨E,B,rfl,rfl,Xj,O,u⟩ _;obtain⟨bp,nv,rg,pl,es,M,u⟩:=dM.open u;have U:=u.p4.eH.1;have V:=U.len
 change es.length=B.length at V
 refine⟨λjv w'=>jv=.bool (!E&&decide (0<B.length))/\w'=I,?_,?_⟩
 .refine bJ ?_;cases E with
  | true=>exact ep ⟨rfl,rfl⟩
  | false=>
   refine gE (aD (aA gu (aB m7 u.hb rfl (aI o8 u.p3.eS ?_))));rw[mP];refine dL ?_;exact⟨vb (by rw[Ia,tM];exact ga.2 bP),rfl⟩
 rintro _ _ ⟨rfl,rfl⟩ _;refine bD (λc=>?_) (λc=>?_);rotate_left
 .have hd:kX t.bN=B:=by
   rw[O];cases E with
   | true=>rfl
   | false=>
    have:B=[]:=pP.1 (by have:=g7 (by simpa only[Ia,tM]using c);omega);rw[this];rfl
  rw[hd];exact⟨rfl,(dM.shut (t:={t with bN:=B}) M u).mut⟩
 rw[Bool.and_eq_true,Bool.not_eq_true',decide_eq_true_eq]at c;obtain⟨rfl,W⟩:=c;cases B with
 | nil=>simp at W
 | cons q G=>
 obtain⟨q1,e⟩:=q;obtain⟨sv,rows,J,rfl,_,_⟩:=U.top;rw[oh,oh]at V;rw[oh]at Xj;refine aD (aA gu (aB m7 u.hb rfl (aI o8 u.p3.eS ?_)));rw[mP,oh];refine fk bP ?_;rw[show((J.length+1:Nat):Int)-1=(J.length:Int)from bP];refine aD (aA gu (aB m7 u.hb rfl (aY o8 u.p3.eS bP (by rw[qG];exact zn) λq hq=>cU e MT hq rfl rfl λq2 Y=>aE BO Y (aD (aA gu (aB m7 u.hb rfl (have u:=u.p3;wX o8 u bP (by rw[mP,oh];omega) λs25 u=>?_)))))))
 rw[qG,Jm]at u;refine aD (aA gu (aO u.p1 m7 (dQ rfl) u.eS.one λ_ u=>have u:=u.p4.dH (Ψ:=λw=>xS K w J G/\Φ w) (λ_ h=>⟨h.1.2,h.2⟩);have u:=dM.shut (Φ:=Φ) (t:={t with bN:=G}) M u.p2.p4.p4.p4;⟨_,?_,e,G,rfl,rfl,bP,?_,u⟩))
 .show G.length+(if e=true then 0 else 1)<G.length+1+1
  split<;>omega
 rw[O];rfl
def C163(K Φ:hU)(p:Nat)(room:Int)(t:jM)(F:Nat->Prop)(lv:Value)(xs:List bI)(w:World)(O:(dM K Φ p room t).p w F)(M:∀w',fD F w w'->K w')(I:dy (λ_=>True) w lv xs)(J:xs.length<=1048576)(U:t.names.length<=1048576) :
   CR 163 [.pointer (some ⟨p,0,none⟩),lv] w (λv w'=>v=.tuple #[hZ (et t xs).1,.bool (et t xs).2]/\mC F (dM K Φ p room {t with fault:=if (et t xs).2=true then t.fault else 2}) w w'):=by
 have u:=St.begin O;refine Tg _ _ _ _ ?_;unfold S163;refine aI ju I (aG (aC (λc=>?_) λc=>?_))
 .have B:et t xs=(0,true):=by unfold et;rw[fh bP]
  rw[B];exact⟨rfl,u.mut⟩
 have B:et t xs=((vU t.names t.dJ xs).1,decide ((vU t.names t.dJ xs).2=0)):=by unfold et;rw[fg bP]
 obtain⟨Y,W,rg,pl,es,E,u⟩:=dM.open u;have u:=u.drew;refine aD (aA ur (aB lT u.hb rfl (aD (aA uu (aB eK u.hb rfl (aR abc u (C78 _ _ _ xs t.names t.dJ _ (I.ext (Ext.drew w)) (E _ (M _ u.aF)) u.p2.eS J U) λ_ V u=>aJ rfl (aJ rfl ⟨λw'=>St w F [dM K Φ p room {t with fault:=if (et t xs).2=true then t.fault else 2}] w',cB (aC (λG=>?_) λG=>?_),?_⟩)))))))
 .refine aD (aA qR (aO u bL (dQ rfl) rfl λ_ u=>?_));have ht:{t with fault:=2}={t with fault:=if (et t xs).2=true then t.fault else 2}:=by rw[B];dsimp only;rw[fZ G];rfl
  rw[<- ht];exact dM.shut (t:={t with fault:=2}) E u
 .have ht:t={t with fault:=if (et t xs).2=true then t.fault else 2}:=by rw[B];dsimp only;rw[fY bP];rfl
  rw[<- ht];exact dM.shut E u
 intro _ u _;exact aG ⟨by rw[B],u.mut⟩
def dM.Xk{w w0:World}{A:Nat->Prop}{R:List HP}{p:Nat}{K Φ Ψ:hU}{room:Int}{t:jM}(u:St w0 A (eH Ψ::dM K Φ p room t::R) w):St w0 A (dM K (λw=>Φ w/\Ψ w) p room t::R) w:=by
 obtain⟨G,E,rg,pl,es,B,u⟩:=dM.open u.p1
 have h1:=u.p5.p5.gY.dH (Ψ:=λw=>xS K w es t.bN/\Φ w/\Ψ w) λw h=>⟨h.1.1,h.1.2,h.2⟩
 exact dM.shut B h1.p4.p4.p4.p4
theorem gQ.cons{w:World}{t:aT}{x:aZ}{ts:List aT}{xs:List aZ}(h:l3 w t x)(u:gQ ts xs w):gQ (t::ts) (x::xs) w:=by
 refine⟨by simp[u.1],λi t' B h1 h2=>?_⟩
 cases i with
 | zero=>simp at h1 h2;subst h1 h2;exact h
 | succ i=>exact u.2 i t' B (by simpa using h1) (by simpa using h2)
theorem Hf(x:aZ)(a:Bk):(Bk.cons x a .nil .nil).flat=x::a.flat:=by simp[Bk.flat]
theorem C221(K Φ:hU)(p:Nat)(room:Int)(t:jM)(F:Nat->Prop)(x:aZ)(xv:aT)(av:SV)(O:List aT)(a b r:Bk)(e:Bool)(M:PD)(w:World)(hF:(dM K Φ p room t).p w F)(I:∀w',fD F w w'->K w')(Y:t.bN=(.cons x a b r,e)::M)(gi:(Bk.cons x a b r).str)(mI:t.bN.length<=90000)
   (CY:∀w,K w->l3 w xv x) (hΦ:∀w,Φ w->nG K av O a.flat w) (hn:0<=x.n/\x.n<=1000) :
   CR 221 [.pointer (some ⟨p,0,none⟩),iS xv,iS av] w (λv w'=>v=.tuple #[]/\mC F (dM K Φ p room {t with bN:=pW x a t.bN}) w w'):=by
 have u:=St.begin hF;obtain⟨B,E,rfl,_,_⟩:=kY (CY _ (I _ u.aF));have U9:a.flat.length<=40:=by rw[Bk.cM];exact gi.2.2.1
 have hppl:(gU t.bN).length<=90001:=by
  rw[Y];show(jC r false M).length<=_;rw[Y,oh]at mI;cases r with
  | nil=>show M.length<=_;omega
  | cons _ _ _ _=>show M.length+1<=_;omega
 refine eR Tryz.func221 ?_;refine cE (x:=(⟨x.kind,x.eO,x.name,B,E,x.n,x.body,x.eG,x.at_⟩:aT)) u (λb4 _ u=>aS ET u.p1 (H':=λ_=>dM K (Φ) p room {t with bN:=gU t.bN}) (Φ:=λ_ _=>True) (λJ U V=>?_) ?_)
 .exact(C166 K _ p room t J x a b r e M _ U (λw' hc=>I w' (V w' hc).aF) Y gi bP).mono λ_ _ r=>r.mono λ_ _ h=>⟨trivial,h.2⟩
 rintro _ _ _ u;refine aA lX (aB (v:=hZ x.n) bL u.p1.hb rfl (aG (aC (λc=>?_) λc=>?_)))
 .rw[show pW x a t.bN=gU t.bN from by unfold pW;rw[fh c]];exact⟨rfl,u.p1.drop.mut⟩
 rw[show pW x a t.bN=jC a false ((.cons {x with n:=x.n-1} a .nil .nil,true)::gU t.bN)from by unfold pW;rw[fg c]];refine aE ek u.p1.At (bK ([⟨x.kind,x.eO,x.name,B,E,x.n,x.body,x.eG,x.at_⟩]:List aT) u fT rfl rfl (dQ rfl) λs13 _ u=>?_);have G:=hΦ _ (dM.now u.p1);have hral:=(G.1 _ (I _ u.aF)).1;refine cO u fT (G.2 (I _ u.aF)) (by simp;omega) ea (λs15 _ u=>ed u fT bP ew λq17 Z=>q8 lX Z λq18 h18=>uB (x.n:Int) u bL h18 (x:=(⟨x.kind,x.eO,x.name,B,E,x.n,x.body,x.eG,x.at_⟩:aT)) rfl rfl (fk bP (ed u fT bP ew λq21 h21=>q8 lX h21 λq22 h22=>M9 (x:=(⟨x.kind,x.eO,x.name,B,E,x.n,x.body,x.eG,x.at_⟩:aT)) (⟨x.kind,x.eO,x.name,B,E,x.n-1,x.body,x.eG,x.at_⟩:aT) (x.n-1:Int) u bL h22 rfl ea rfl λ_ u=>?_)))
 obtain⟨W,rfl⟩:=u.eS.gF;have u:=dM.Xk u.freeze
 have Wb:∀w',K w'->gQ (((⟨x.kind,x.eO,x.name,B,E,x.n,x.body,x.eG,x.at_⟩:aT)::O).set (0:Int).toNat (⟨x.kind,x.eO,x.name,B,E,x.n-1,x.body,x.eG,x.at_⟩:aT)) (Bk.cons {x with n:=x.n-1} a .nil .nil).flat w':=λw' hw=>by
  rw[Hf];obtain⟨_,_,h4,h5,h6⟩:=CY w' hw;cases h4
  exact gQ.cons ⟨B,E,rfl,h5,h6⟩ (G.1 w' hw)
 refine aS ES u (H':=λ_=>dM K (λw=>Φ w/\dy (λ_=>True) w (iS W) (([(⟨x.kind,x.eO,x.name,B,E,x.n,x.body,x.eG,x.at_⟩:aT)]++O).set (0:Int).toNat (⟨x.kind,x.eO,x.name,B,E,x.n-1,x.body,x.eG,x.at_⟩:aT))) p room { {t with bN:=gU t.bN}with bN:=jC (Bk.cons {x with n:=x.n-1} a .nil .nil) true ({t with bN:=gU t.bN}).bN}) (Φ:=λ_ _=>True) (λJ U V=>?_) ?_
 .exact(C118 K _ p room ({t with bN:=gU t.bN}) J W _ (Bk.cons {x with n:=x.n-1} a .nil .nil) true _ U (λw' hc=>I w' (V w' hc).aF) (λ_ h=>⟨Wb,λ_=>h.2⟩) (by show(gU t.bN).length<=_;omega)).mono λ_ _ r=>r.mono λ_ _ h=>⟨trivial,h.2⟩
 rintro _ _ _ u;refine aS ES u (H':=λ_=>dM K (λw=>Φ w/\dy (λ_=>True) w (iS W) (([(⟨x.kind,x.eO,x.name,B,E,x.n,x.body,x.eG,x.at_⟩:aT)]++O).set (0:Int).toNat (⟨x.kind,x.eO,x.name,B,E,x.n-1,x.body,x.eG,x.at_⟩:aT))) p room { {t with bN:=(.cons {x with n:=x.n-1} a .nil .nil,true)::gU t.bN}with bN:=jC a false ({t with bN:=(.cons {x with n:=x.n-1} a .nil .nil,true)::gU t.bN}).bN}) (Φ:=λ_ _=>True) (λJ U V=>?_) ?_
 .exact(C118 K _ p room ({t with bN:=(.cons {x with n:=x.n-1} a .nil .nil,true)::gU t.bN}) J av O a false _ U (λw' hc=>I w' (V w' hc).aF) (λw h=>hΦ w h.1) (by show(gU t.bN).length+1<=_;omega)).mono λ_ _ r=>r.mono λ_ _ h=>⟨trivial,h.2⟩
 rintro _ _ _ u;exact⟨rfl,(dM.mono u.p1.drop λ_ h=>h.1).mut⟩
def C119(K:hU)(p:Nat)(room:Int)(t tR:jM)(n:Nat)(cs ls:List ByteArray)(F:Nat->Prop)(w:World)(hF:(mQ K p room t).p w F)(V:∀w',fD F w w'->K w')(qi:wk cs ls t)(hg:sH n t=some tR) :
   CR 119 [.pointer (some ⟨p,0,none⟩)] w (λv w'=>v=.tuple #[]/\mC F (mQ K p room tR) w w'):=by
 have u:=St.begin hF;refine Th _ _ _ ?_;unfold S119;refine⟨λmm w'=>∃B:jM,sH mm B=some tR/\wk cs ls B/\St w F [mQ K p room B] w',⟨n,t,hg,qi,u⟩,?_⟩;rintro mm _ ⟨B,AZ,W,u⟩ _;obtain⟨k,rfl⟩:=Lm AZ;have mI:=xR W.p;have OV:=W.cl;have hnb:=W.nb;have Po:=W.rl;obtain⟨bp,nv,rg,pl,es,Y,u⟩:=dM.open u;refine dW Pm (C127 K p B bp nv rg pl es _ _ u.hb u.p3.eS u.p4.eH.1 (λ_ e=>V _ (u.aF.then e)) W.p bP) ?_;rintro v _ ⟨he,hv⟩;have u:=u.ext he
 rcases hv with⟨ej,rfl⟩|⟨x,a,b,xv,E,G,I,J,Pp,rfl,CY,Wm⟩
 .refine aJ rfl (aJ rfl (aJ rfl (aJ rfl (aK u jw λb2 w3 u=>aH (x:=(⟨0,⟨#[]⟩,⟨#[]⟩,bY,bY,0,0,0,0⟩:aT)) u ek rfl rfl λw4 u=>bJ (gE ?_)))));rw[rG AZ (Xe ej)];exact⟨rfl,(dM.shut Y u.drop).mut⟩
 obtain⟨Z,gf,rfl,_,_⟩:=kY (CY _ (V _ u.aF))
 have Xm:∀w,K w->dy (λ_=>True) w (iS Z) x.e/\dy (λ_=>True) w (iS gf) x.f:=λw hw=>by
  obtain⟨_,_,h4,h5,h6⟩:=kY (CY w hw);cases h4
  exact⟨h5,h6⟩
 obtain⟨hx,sa,sb,aa,ab,FG,hb2,U9,r,e,p',xl,sr,ar⟩:=W.top Pp;have gi:(Bk.cons x a b r).str:=W.p.st _ (by rw[xl];exact oi ..);have hxe:=hx.e;have u:=u.p4.dH (Ψ:=λw=>xS K w es B.bN/\(nG K E I a.flat w/\nG K G J b.flat w)) (λw h=>⟨h.1,Wm w h.1⟩);have u:=dM.shut (Φ:=λw=>nG K E I a.flat w/\nG K G J b.flat w) (t:=B) Y u.p4.p4.p4.p4;refine aJ rfl (aJ rfl (aJ rfl (aJ rfl (aK u jw λb2 w3 u=>aH (x:=(⟨x.kind,x.eO,x.name,Z,gf,x.n,x.body,x.eG,x.at_⟩:aT)) u ek rfl rfl λw4 u=>bJ (ep (aA kM (aB (v:=iS Z) lF u.hb rfl (aS EU u.p1 (H':=λ_=>dM K (λw=>nG K E I a.flat w/\nG K G J b.flat w) p room {B with fault:=if (et B x.e).2=true then B.fault else 2}) (Φ:=λv _=>v=.tuple #[hZ (et B x.e).1,.bool (et B x.e).2]) (λU M O=>?_) ?_))))))))
 .exact C163 K _ p room B U _ x.e _ M (λw' hc=>V w' (O w' hc).aF) (Xm _ (V _ u.aF)).1 bP bP
 rintro _ w5 rfl u;refine aJ rfl (aJ rfl (bJ (bD (λc1=>?_) λc1=>?_)))
 .have h1:(et B x.e).2=false:=by simpa using c1
  rw[h1]at u;rw[rG AZ (Xf Pp h1)];exact⟨rfl,(dM.mono u.p1.drop λ_ _=>trivial).mut⟩
 have h1:(et B x.e).2=true:=by simpa using c1
 replace u:St w F [dM K (λw=>nG K E I a.flat w/\nG K G J b.flat w) p room B,bM b2 (jn (⟨x.kind,x.eO,x.name,Z,gf,x.n,x.body,x.eG,x.at_⟩:aT))] w5:=by rw[h1]at u;exact u
 refine aA qW (aB (v:=iS gf) lF u.p1.hb rfl (aS EU u (H':=λ_=>dM K (λw=>nG K E I a.flat w/\nG K G J b.flat w) p room {B with fault:=if (et B x.f).2=true then B.fault else 2}) (Φ:=λv _=>v=.tuple #[hZ (et B x.f).1,.bool (et B x.f).2]) (λU M O=>?_) ?_))
 .exact C163 K _ p room B U _ x.f _ M (λw' hc=>V w' (O w' hc).aF) (Xm _ (V _ u.aF)).2 bP bP
 rintro _ w6 rfl u;refine aJ rfl (aJ rfl (bJ (bD (λc2=>?_) λc2=>?_)))
 .have h2:(et B x.f).2=false:=by simpa using c2
  rw[h2]at u;rw[rG AZ (Xg Pp h2)];exact⟨rfl,(dM.mono u.p1.drop λ_ _=>trivial).mut⟩
 have h2:(et B x.f).2=true:=by simpa using c2
 replace u:St w F [dM K (λw=>nG K E I a.flat w/\nG K G J b.flat w) p room B,bM b2 (jn (⟨x.kind,x.eO,x.name,Z,gf,x.n,x.body,x.eG,x.at_⟩:aT))] w6:=by rw[h2]at u;exact u
 have hgk:=Xh Pp h1 h2
 have EW:∀(t2:jM) (w':World),mO B x a b (et B x.e).1=(t2,true)->St w F [dM K (λw=>nG K E I a.flat w/\nG K G J b.flat w) p room t2,bM b2 (jn (⟨x.kind,x.eO,x.name,Z,gf,x.n,x.body,x.eG,x.at_⟩:aT))] w'->∃m',m'<k+1/\∃B:jM,sH m' B=some tR/\wk cs ls B/\St w F [mQ K p room B] w':=λt2 w' h3 h4=>by
  have h5:=hgk.trans h3;obtain⟨h6,h7,_⟩:=Cx W;rw[h5]at h6 h7;exact⟨k,OY k,t2,S6 AZ h5,h6,dM.mono h4.p1.drop λ_ _=>trivial⟩
 refine aA ft (aB (v:=hZ x.kind) bL u.p1.hb rfl (aG (aC (λk1=>?_) λk1=>?_)))
 .have hpm:=cY.1 (hx.rg (.inl k1));obtain⟨j,hj,FK,_⟩:=py hpm;have LZ:=(j0.1 FK).1;obtain⟨bp,nv,rg,pl,es,Y,u⟩:=dM.open u;have u:=u.drew;refine aD (aA uu (aB eK u.hb rfl (aD (aA ur (aB lT u.hb rfl (aA kL (aB (v:=.string x.eO) jZ u.p5.hb rfl (aR AX u (C146 _ B.names x.eO _ (Y _ (V _ u.aF)) bP) λ_ he u=>?_))))))));refine⟨aX eK (u.hb.cell rfl),?_⟩;refine ed u.p2 dG bP bP (λq51 h51=>kI (et B x.e).1 u.p2 bL h51 bP λ_ u=>have u:=dM.shut (Φ:=λw=>nG K E I a.flat w/\nG K G J b.flat w) (t:=pD B x.eO (et B x.e).1) Y u.p2.p2;aS ET u (H':=λ_=>dM K (λw=>nG K E I a.flat w/\nG K G J b.flat w) p room {pD B x.eO (et B x.e).1 with bN:=gU (pD B x.eO (et B x.e).1).bN}) (Φ:=λ_ _=>True) (λU M O=>?_) ?_)
  .exact(C166 K _ p room (pD B x.eO (et B x.e).1) U x a b r e p' _ M (λw' hc=>V w' (O w' hc).aF) xl gi (by show B.bN.length<=_;omega)).mono λ_ _ r=>r.mono λ_ _ h=>⟨trivial,h.2⟩
  rintro _ _ _ u;exact EW _ _ (Xd k1) u
 refine aG (aC (λk2=>?_) λk2=>?_)
 .refine aS ET u (H':=λ_=>dM K (λw=>nG K E I a.flat w/\nG K G J b.flat w) p room {B with bN:=gU B.bN}) (Φ:=λ_ _=>True) (λU M O=>?_) ?_
  .exact(C166 K _ p room B U x a b r e p' _ M (λw' hc=>V w' (O w' hc).aF) xl gi bP).mono λ_ _ r=>r.mono λ_ _ h=>⟨trivial,h.2⟩
  rintro _ w10 _ u;refine⟨λjv w'=>jv=(if (et B x.e).1=0 then iS G else iS E)/\w'=w10,?_,?_⟩
  .refine aG ?_;refine aC (λc=>⟨(fh c).symm,rfl⟩) (λc=>⟨(fg c).symm,rfl⟩)
  rintro _ _ ⟨rfl,rfl⟩ _
  have hpq:(gU B.bN).length<=100000:=by
   have:=xR W.p.pop;have:=Hb xl;omega
  have e1:(if (et B x.e).1=0 then iS G else iS E)=iS (if (et B x.e).1=0 then G else E):=by split<;>rfl
  rw[e1];refine aS ES u (H':=λ_=>dM K (λw=>nG K E I a.flat w/\nG K G J b.flat w) p room { {B with bN:=gU B.bN}with bN:=jC (if (et B x.e).1=0 then b else a) false ({B with bN:=gU B.bN}).bN}) (Φ:=λ_ _=>True) (λU M O=>?_) ?_
  .exact(C118 K _ p room ({B with bN:=gU B.bN}) U (if (et B x.e).1=0 then G else E) (if (et B x.e).1=0 then J else I) (if (et B x.e).1=0 then b else a) false _ M (λw' hc=>V w' (O w' hc).aF) (λ_ h=>by split;exact h.2;exact h.1) hpq).mono λ_ _ r=>r.mono λ_ _ h=>⟨trivial,h.2⟩
  rintro _ _ _ u;exact EW _ _ (Ta k2) u
 refine aG (aC (λk3=>?_) λk3=>?_)
 .refine aE ek u.p1.At (aS acQ u (H':=λ_=>dM K (λw=>nG K E I a.flat w/\nG K G J b.flat w) p room {B with bN:=pW x a B.bN}) (Φ:=λ_ _=>True) (λU M O=>?_) ?_)
  .exact(C221 K _ p room B U x ⟨x.kind,x.eO,x.name,Z,gf,x.n,x.body,x.eG,x.at_⟩ E I a b r e p' _ M (λw' hc=>V w' (O w' hc).aF) xl gi bP CY (λ_ h=>h.1) (hx.n k3)).mono λ_ _ r=>r.mono λ_ _ h=>⟨trivial,h.2⟩
  rintro _ _ _ u;exact EW _ _ (Tb k3) u
 refine aG (aC (λk4=>?_) λk4=>?_)
 .refine aS acR u (H':=λ_=>dM K (λw=>nG K E I a.flat w/\nG K G J b.flat w) p room {B with bN:=kX B.bN}) (Φ:=λ_ _=>True) (λU M O=>?_) ?_
  .exact(C222 K _ p room B U _ M (λw' hc=>V w' (O w' hc).aF) bP).mono λ_ _ r=>r.mono λ_ _ h=>⟨trivial,h.2⟩
  rintro _ _ _ u;exact EW _ _ (Tc k4) u
 refine aG (aC (λk5=>?_) λk5=>?_)
 .refine aG (aC (λc=>?_) λc=>?_)
  .obtain⟨bp,nv,rg,pl,es,Y,u⟩:=dM.open u;refine aD (aA qR (aO u bL (dQ rfl) rfl λ_ u=>?_));have u:=dM.shut (Φ:=λw=>nG K E I a.flat w/\nG K G J b.flat w) (t:={B with fault:=1}) Y u;rw[rG AZ (hgk.trans (Pj k5 c))];exact⟨rfl,(dM.mono u.p1.drop λ_ _=>trivial).mut⟩
  refine aS ET u (H':=λ_=>dM K (λw=>nG K E I a.flat w/\nG K G J b.flat w) p room {B with bN:=gU B.bN}) (Φ:=λ_ _=>True) (λU M O=>?_) ?_
  .exact(C166 K _ p room B U x a b r e p' _ M (λw' hc=>V w' (O w' hc).aF) xl gi bP).mono λ_ _ r=>r.mono λ_ _ h=>⟨trivial,h.2⟩
  rintro _ _ _ u;exact EW _ _ (Pk k5 c) u
 rw[rG AZ (hgk.trans (Td k1 k2 k3 k4 k5))];exact⟨rfl,(dM.mono u.p1.drop λ_ _=>trivial).mut⟩
variable (w:World) (K:Value->hU)
def P68:dI:=λi=>match i with
 | 8=>(.of [(0,[]),(1,[]),(2,[]),(3,[]),(4,[]),(5,[]),(6,[]),(7,[]),(8,[]),(9,[]),(10,[]),(11,[]),(12,[]),(13,[]),(14,[7]),(15,[]),(16,[]),(17,[]),(18,[]),(19,[])])
 | _=>.nil
def S22(B:Value):Prop:=
 nC B λa=>fA 105 a 8 λb=>lA 3 b w λc=>bB .neq 3 c (i 0) λd=>cV d (K (.slice none 0 0) w) (nC B λe=>fA 105 e 6 λf=>lA 103 f w λg=>lN 103 g λh=>nW (λI J j k=>∀_:Env,
 bA .lss 3 j h λl=>cV l (iA 103 g j λn=>lA 128 n k λo=>eF (λO=>cF 68 [B,o] k λp q=>cV p (dX hM (l1 67 [(0,(i 1)),(1,j)].toArray) λr=>
 bS 58 1 [(0,r)] q λs t=>aP 58 J s t λu v=>O u v) (O J q)) (λZ x=>∀_:Env,
 nC o λy=>fA 131 y 0 λz=>lA 98 z x λaa=>cF 69 [aa] x λV ac=>lN 22 V λW=>nW (λE U G M=>∀_:Env,
 bA .lss 3 G W λag=>cV ag (iA 22 V G λah=>lA 3 ah M λai=>dX hM (l1 67 [(0,(i 2)),(1,j),(2,ai)].toArray) λaj=>bS 58 1 [(0,aj)] M λak al=>
 aP 58 U ak al λam Y=>bB .add 3 G (i 1) λao=>E am ao Y) (bB .add 3 j (i 1) λap=>I U ap M)) λE=>E Z (i 0) ac)) (K J k)) λI=>I (.slice none 0 0) (i 0) w)
theorem Xn(u:Value)(h:S22 w K u):CR 22 [u] w K:=
 lL 50 (λ_=>.nil) 4 [.tmp 2] Tryz.func22 h
def S162(O B a E:Value):Prop:=
 mw hM (qv 220 a) w λb c=>aL 72 c λd e=>nC B λf=>fA 131 f 0 λg=>lA 98 g e λh=>cF 259 [h,E] e λj k=>xT j 0 λl=>xT j 1 λn=>Mp (λM=>
 dX hM (Op.unary .not n) λo=>cV o (nC O λp=>fA 105 p 4 λq=>lA 102 q k λs=>cF 260 [s,E] k λt u=>xT t 0 λv=>xT t 1 λ_=>M v (i 1) u) (M l (i 2) k))
 (λI Z x=>∀_:Env,
 nC B λy=>fA 131 y 2 λz=>lA 22 z (drew x) λG=>nC B λab=>fA 131 ab 1 λY=>lA 86 Y (drew x) λU=>fA 220 b 1 λV=>lA 9 V (drew x) λaf=>cF 146 [U,af] (drew x) λag J=>
 kA 22 z G J (iA 22 G ag λW=>sA 3 W I J λaj=>dX hM (l1 72 [(0,Z),(2,E),(3,I)].toArray) λak=>sA 72 d ak aj λal=>lA 72 d al λr=>
 K r al))
def aiB:dI:=λi=>match i with
 | 6=>(.of [(0,[]),(1,[]),(2,[]),(3,[]),(4,[]),(5,[]),(6,[]),(7,[]),(8,[]),(9,[]),(11,[]),(10,[3]),(12,[]),(13,[])])
 | _=>.nil
theorem Ti(G E u B:Value)(h:S162 w K G E u B):CR 162 [G,E,u,B] w K:=
 lL 49 aiB 256 [.cell 8 72] Tryz.func162 h
def S165(J B a E:Value):Prop:=
 mw hM (qv 220 a) w λb c=>aL 72 c λd e=>nC J λf=>fA 105 f 4 λg=>lA 102 g e λh=>cF 260 [h,E] e λj k=>xT j 0 λl=>xT j 1 λ_=>fA 220 b 3 λn=>
 lA 92 n k λo=>cF 163 [B,o] k λp q=>xT p 0 λs=>xT p 1 λ_=>fA 220 b 4 λt=>lA 92 t q λu=>cF 163 [B,u] q λv x=>xT v 0 λy=>xT v 1 λ_=>nC B λz=>
 fA 131 z 2 λV=>lA 22 V (drew x) λW=>nC B λac=>fA 131 ac 1 λZ=>lA 86 Z (drew x) λae=>fA 220 b 1 λaf=>lA 9 af (drew x) λag=>cF 146 [ae,ag] (drew x) λah O=>
 kA 22 V W O (iA 22 W ah λaj=>sA 3 aj l O λI=>bA .neq 3 l s λal=>cV al (dX hM (l1 72 [(0,(i 9)),(2,E),(3,l)].toArray) λam=>sA 72 d am I λM=>
 lA 72 d M λr=>K r M) (nC J λao=>fA 105 ao 4 λap=>lA 102 ap I λY=>cF 159 [Y,E,y] I λ_ ar=>dX hM (l1 72 [(0,(i 8)),(2,E),(3,l),(4,y)].toArray) λG=>
 sA 72 d G ar λU=>lA 72 d U λKg=>K Kg U))
def aiC:dI:=λi=>match i with
 | 4=>(.of [(0,[]),(1,[]),(2,[]),(3,[]),(4,[]),(5,[]),(6,[]),(7,[]),(8,[]),(9,[]),(11,[]),(10,[3]),(12,[]),(13,[])])
 | _=>.nil
theorem Tj(G E u B:Value)(h:S165 w K G E u B):CR 165 [G,E,u,B] w K:=
 lL 68 aiC 256 [.cell 8 72] Tryz.func165 h
def S86(I O:Value):Prop:=
 aL 72 w λa b=>nC I λc=>fA 105 c 6 λd=>lA 103 d b λe=>iA 103 e O λf=>lA 128 f b λg=>nC g λh=>fA 131 h 4 λj=>lA 3 j b λk=>bB .neq 3 k (i 0) λl=>
 cV l (nC g λn=>fA 131 n 4 λo=>lA 3 o b λp=>cF 161 [I,O,p] b λq s=>sA 72 a q s λt=>lA 72 a t λr=>K r t) (cF 127 [g] b λu v=>xT u 0 λx=>xT u 1 λ_=>
 xT u 2 λ_=>xT u 3 λ_=>aL 220 v λy z=>sA 220 y x z λV=>nC I λab=>fA 105 ab 1 λac=>lA 86 ac (drew V) λad=>fA 220 y 2 λae=>lA 9 ae (drew V) λaf=>
 nC I λag=>fA 105 ag 2 λah=>lA 86 ah (drew V) λai=>fA 220 y 2 λaj=>lA 9 aj (drew V) λak=>cF 146 [ad,af] (drew V) λal W=>kA 86 ah ai W (kA 9 aj ak W (
 cF 146 [ai,ak] W λU Z=>nC I λap=>fA 105 ap 0 λaq=>lA 36 aq Z λar=>cF 53 [ar,al] Z λG au=>aL 72 au λE B=>wF (λJ=>fA 220 y 0 λaw=>lA 3 aw B λM=>
 bB .eql 3 M (i 2) λay=>cV ay (lA 220 y B λaz=>cF 162 [I,g,az,al] B λa0 a1=>sA 72 E a0 a1 λa2=>J a2) (bB .eql 3 M (i 3) λa3=>cV a3 (fA 220 y 3 λa4=>
 lA 92 a4 B λa5=>cF 163 [g,a5] B λa6 a7=>xT a6 0 λa8=>xT a6 1 λ_=>nC g λa9=>fA 131 a9 0 λba=>lA 98 ba a7 λbb=>dX hM (l1 262 [(0,(i 3)),(1,G),(2,al),(3,a8)].toArray) λbc=>
 cF 164 [bb,bc] a7 λ_ bd=>dX hM (l1 72 [(0,(i 3)),(2,al),(3,a8)].toArray) λbe=>sA 72 E be bd λbf=>J bf) (bB .eql 3 M (i 5) λbg=>cV bg (nC g λbh=>
 fA 131 bh 0 λbi=>lA 98 bi B λbj=>dX hM (l1 262 [(0,(i 5)),(1,G)].toArray) λbk=>cF 164 [bj,bk] B λ_ bl=>dX hM (l1 72 [(0,(i 4)),(2,G)].toArray) λbm=>
 sA 72 E bm bl λbn=>J bn) (bB .eql 3 M (i 6) λbo=>cV bo (nC g λbp=>fA 131 bp 0 λbq=>lA 98 bq B λbr=>dX hM (l1 262 [(0,(i 6)),(1,G)].toArray) λbs=>
 cF 164 [br,bs] B λ_ bt=>dX hM (l1 72 [(0,(i 5)),(2,G)].toArray) λbu=>sA 72 E bu bt λbv=>J bv) (bB .eql 3 M (i 7) λbw=>cV bw (nC g λbx=>
 fA 131 bx 0 λbz=>lA 98 bz B λb0=>dX hM (l1 262 [(0,(i 7))].toArray) λb1=>cF 164 [b0,b1] B λ_ b2=>dX hM (l1 72 [(0,(i 6))].toArray) λb3=>
 sA 72 E b3 b2 λb4=>J b4) (bB .eql 3 M (i 8) λb5=>cV b5 (dX hM (l1 72 [(0,(i 7))].toArray) λb6=>sA 72 E b6 B λb7=>J b7) (bB .eql 3 M (i 4) λb8=>
 cV b8 (lA 220 y B λb9=>cF 165 [I,g,b9,al] B λca cb=>sA 72 E ca cb λcc=>J cc) (bB .eql 3 M (i 9) λcd=>cV cd (nC I λce=>fA 105 ce 5 λcf=>lA 22 cf B λcg=>
 iA 22 cg U λch=>sA 3 ch O B λci=>dX hM (l1 72 [(0,(i 10)),(2,U)].toArray) λcj=>sA 72 E cj ci λck=>J ck) (nC I λcl=>fA 105 cl 5 λcm=>
 lA 22 cm B λcn=>iA 22 cn U λco=>lA 3 co B λcp=>bA .neq 3 cp O λcq=>cV cq (cF 161 [I,O,(i 3)] B λcr cs=>sA 72 a cr cs λY=>lA 72 a Y λKg=>K Kg Y) (
 nC I λcu=>fA 105 cu 5 λcv=>lA 22 cv B λcw=>iA 22 cw U λcx=>sA 3 cx (i (-1)) B λcy=>dX hM (l1 72 [(0,(i 11)),(2,U)].toArray) λcz=>sA 72 E cz cy λc0=>
 J c0)))))))))) (λc1=>∀_:Env,
 fA 72 E 1 λc2=>sA 3 c2 O c1 λc3=>cF 166 [g] c3 λ_ c4=>cF 119 [g] c4 λ_ c5=>lA 72 E c5 λc6=>sA 72 a c6 c5 λc7=>lA 72 a c7 λVZ=>K VZ c7))))
def P86:dI:=λi=>match i with
 | 5=>(.of [(0,[]),(1,[]),(2,[]),(3,[]),(4,[]),(5,[]),(7,[]),(8,[]),(9,[]),(10,[]),(11,[]),(12,[]),(6,[10,12]),(13,[]),(14,[]),(15,[])])
 | _=>.nil
theorem Xp(u B:Value)(h:S86 w K u B):CR 86 [u,B] w K:=
 lL 171 P86 16 [.cell 4 72] Tryz.func86 h
def P85:dI:=λi=>match i with
 | 1=>(.op 0 [] (.op 1 [] (.op 2 [] (.op 3 [] (.op 4 [] (.op 5 [] (.op 6 [] (.op 7 [] (.op 8 [] (.op 9 [] (.op 10 [] (.op 11 [] (.op 12 [] (.alt 13 [] (.of [(14,[]),(15,[]),(16,[]),(17,[3,5,7,10,12]),(18,[]),(19,[])]) (.alt 17 [3,5,7,10,12] (.of [(13,[]),(14,[]),(15,[]),(16,[]),(18,[]),(19,[])]) .stop)))))))))))))))
 | 4=>.run 0 9
 | 8=>.run 0 7
 | _=>.nil
def P57:dI:=λi=>match i with
 | 9=>(.of [(0,[]),(1,[]),(2,[]),(3,[]),(4,[]),(5,[]),(6,[2]),(7,[]),(8,[]),(9,[])])
 | _=>.nil
def P37:dI:=λi=>match i with
 | 1=>.run 0 30
 | _=>.nil
def P21:dI:=λi=>match i with
 | 2=>(.of [(0,[]),(1,[]),(2,[]),(3,[]),(4,[]),(5,[]),(6,[]),(7,[]),(8,[]),(9,[]),(10,[]),(11,[]),(12,[]),(13,[3,7,11]),(14,[])])
 | _=>.nil
def S32(B:Value):Prop:=
 nC B λa=>fA 105 a 0 λb=>lA 36 b w λc=>cF 55 [c] w λd e=>nC B λf=>fA 105 f 0 λg=>fA 36 g 5 λh=>lA 34 h e λj=>lN 34 j λk=>nW (λI E l n=>∀_:Env,
 bA .lss 3 l k λo=>cV o (eF (λO=>iA 34 j l λp=>lA 95 p n λq=>aL 95 n λV r=>sA 95 V q r λs=>fA 95 V 0 λt=>lA 92 t (drew s) λu=>nC B λv=>fA 105 v 1 λx=>
 lA 86 x (drew s) λy=>dX hM (mv 86 y none (some d) none) λz=>cF 27 [B] (drew s) λaa J=>kA 92 t u J (kA 86 x y J (dX hM (mv 22 aa none (some d) none) λac=>
 cF 78 [u,z,ac] J λM U=>xT M 0 λaf=>xT M 1 λag=>bB .eql 40 ag (i 0) λah=>cV ah (bB .neq 3 af (i 0) λZ=>bS 64 1 [(0,Z)] U λaj ak=>aP 64 E aj ak λal am=>
 O al am) (bS 64 1 [(0,ff)] U λY ao=>aP 64 E Y ao λap W=>O ap W)))) (λXr ar=>∀_:Env,
 bB .add 3 l (i 1) λG=>I Xr G ar)) (K E n)) (λI=>I (.slice none 0 0) (i 0) e)
def P32:dI:=λi=>match i with
 | 6=>(.of [(0,[]),(1,[]),(2,[]),(3,[]),(4,[]),(5,[]),(6,[]),(7,[]),(8,[]),(10,[]),(9,[1,5]),(11,[]),(12,[]),(13,[]),(14,[]),(15,[]),(16,[]),(17,[])])
 | _=>.nil
theorem Xs(u:Value)(h:S32 w K u):CR 32 [u] w K:=
 lL 51 P32 4 [.tmp 2] Tryz.func32 h
def S17(p0 U:Value):Prop:=
 mw hM (qv 36 p0) w λp2 a=>lA 36 p2 a λb=>cF 49 [b] a λc d=>xT c 0 λe=>xT c 1 λ_=>bB .neq 40 e (i 0) λf=>cV f (K (.tuple #[(.pointer none),e]) d) (
 cF 50 [U] d λg h=>xT g 0 λ_=>xT g 1 λj=>bB .neq 40 j (i 0) λk=>cV k (K (.tuple #[(.pointer none),j]) h) (lA 36 p2 (drew h) λl=>lA 36 p2 (drew h) λn=>lA 36 p2 (drew h) λo=>
 cF 51 [n] (drew h) λp q=>kA 36 p2 l q (kA 36 p2 o q (cF 52 [o] q λr s=>kA 36 p2 l s (dX hM (l1 105 [(0,l),(1,p),(2,r),(3,U)].toArray) λt=>mw hM (qv 105 t) s λu v=>
 nC u λx=>fA 105 x 1 λy=>lA 86 y v λz=>lN 86 z λaa=>nW (λI G J B=>∀_:Env,
 bA .lss 3 J aa λad=>cV ad (lA 36 p2 B λae=>cF 53 [ae,J] B λaf ag=>bS 22 1 [(0,af)] ag λah ai=>aP 22 G ah ai λaj ak=>bB .add 3 J (i 1) λal=>I aj al ak) (
 lA 36 p2 (drew B) λam=>lA 36 p2 (drew B) λO=>cF 55 [am] (drew B) λao V=>kA 36 p2 O V (cF 56 [O] V λW ar=>cF 54 [G,ao,W] ar λE au=>xT E 0 λav=>
 xT E 1 λ_=>nC u λaw=>fA 105 aw 4 λZ=>sA 102 Z av au λM=>fA 36 p2 3 λY=>lA 33 Y M λa0=>cF 57 [u,a0] M λ_ a1=>K (.tuple #[u,(i 0)]) a1))) λI=>I (.slice none 0 0) (i 0) v)))))
def P17:dI:=λi=>match i with
 | 7=>(.of [(0,[]),(1,[]),(3,[]),(5,[]),(2,[0,3]),(4,[0]),(6,[]),(7,[]),(8,[])])
 | 14=>(.of [(0,[]),(1,[]),(2,[]),(4,[]),(3,[4]),(5,[]),(6,[]),(7,[]),(8,[]),(9,[]),(10,[]),(11,[]),(12,[])])
 | _=>.nil
theorem Xt(p0 u:Value)(h:S17 w K p0 u):CR 17 [p0,u] w K:=
 lL 69 P17 48 [.tmp 4,.tmp 5] Tryz.func17 h
def S82(B:Value):Prop:=
 lN 22 B λa=>nW (λu E b c=>∀_:Env,
 bA .lss 3 b a λd=>cV d (iA 22 B b λe=>lA 3 e c λf=>bB .mul 3 E (i 10000) λg=>bA .add 3 g f λh=>bB .add 3 b (i 1) λj=>u h j c) (K E c)) (λu=>u (i 0) (i 0) w)
theorem Xu(u:Value)(h:S82 w K u):CR 82 [u] w K:=
 lL 18 (λ_=>.nil) 4 [.tmp 2] Tryz.func82 h
theorem aiD:PL 68:=dD Tryz.func68
theorem acZ:PL 22:=dD Tryz.func22
theorem Vz:PL 161:=dD Tryz.func161
theorem ac0:PL 162:=dD Tryz.func162
theorem ac1:PL 165:=dD Tryz.func165
theorem aiE:PL 86:=dD Tryz.func86
theorem aiF:PL 85:=dD Tryz.func85
theorem ac2:PL 57:=dD Tryz.func57
theorem aiG:PL 37:=dD Tryz.func37
theorem aiH:PL 83:=dD Tryz.func83
theorem ac3:PL 21:=dD Tryz.func21
theorem aiI:PL 65:=dD Tryz.func65
theorem Xv:PL 27:=dD Tryz.func27
theorem aiJ:PL 32:=dD Tryz.func32
theorem aiK:PL 17:=dD Tryz.func17
theorem aiL:PL 82:=dD Tryz.func82
theorem aiM:PL 67:=dD Tryz.func67
theorem ac4:PL 144:=dD Tryz.func144
end Go.Proofs.YtdncbeepkacgbaaGreatDoor
namespace Go.Proofs.YtdncbeepkacgbaaGreatDoor
open Go.Fw
def zp(ac5:Option Addr)(V G:Nat)(B:Option Addr)(W Z:Nat)(u:Option Addr)(J adf:Nat)(O:Option Addr)(Y E:Nat)(adj:Option Addr)(adk M:Nat)(U:Option Addr)(adn I:Nat)(a1:Option Addr)(n1 c1:Nat)(a2:Option Addr)(n2 c2:Nat)(a3:Int):pr hM (l1 105 [(0,.agg [.slice ac5 V G,.slice B W Z,.slice u J adf,.slice O Y E,.slice adj adk M,.slice U adn I].toArray),(1,.slice a1 n1 c1),(2,.slice a2 n2 c2),(3,hZ a3)].toArray)=some (.agg [.slice ac5 V G,.slice B W Z,.slice u J adf,.slice O Y E,.slice adj adk M,.slice U adn I,.slice a1 n1 c1,.slice a2 n2 c2,hZ a3,.pointer none,.slice none 0 0,.slice none 0 0,hZ 0,hZ 0,hZ 0].toArray):=by kernel_rfl
def CB(u:Option Addr)(I:Option Addr)(G J:Nat)(M:Option Addr)(E B:Nat):pr hM (l1 131 [(0,.pointer u),(1,.slice I G J),(2,.slice M E B)].toArray)=some (.agg [.pointer u,.slice I G J,.slice M E B,.slice none 0 0,hZ 0].toArray):=by kernel_rfl
def zq(u:Int)(B:Int)(E:Int)(G:Int):pr hM (l1 262 [(0,hZ u),(1,hZ B),(2,hZ E),(3,hZ G)].toArray)=some (.agg [hZ u,hZ B,hZ E,hZ G].toArray):=by kernel_rfl
structure iB where
 p:bQ
 room:Int
 mem:Mem
 fb:List Int
 l:List jM
 cL:Int
 fault:Int
 kZ:Int
structure DA where
 pv:bZ
 cv:SV
 kv:SV
 q:Nat
 ov:Value
 fv:Value
 ow:Value
 ll:Value
 ps:List Ptr
@[reducible] def mn(a:DA)(s:iB):List Value:=[iS a.pv.lines,iS a.pv.iJ,iS a.pv.eV,iS a.pv.threads,iS a.pv.recover,iS a.pv.ef,iS a.cv,iS a.kv,.int .i64 s.room,.pointer (some ⟨a.q,0,none⟩),a.ow,a.ll,.int .i64 s.cL,.int .i64 s.fault,.int .i64 s.kZ]
def ThK(K:hU)(E:bU)(t:bW):Prop:=∃(u B:SV) (rows:List aT),E=⟨t.name,u,B,t.at_⟩/\(∀w,K w->dy (λ_=>True) w (iS u) t.dJ)/\∀w,nG K B rows t.body w
def EX(K:hU)(B:List bU)(sj:List bW):Prop:=B.length=sj.length/\∀(j:Nat) (u:bU) (t:bW),B[j]?=some u->sj[j]?=some t->ThK K u t
structure Xw(K:hU)(a:DA)(s:iB):Prop where
 pr:∀w,K w->l3 w a.pv s.p
 cs:∀w,K w->dy (λ_=>True) w (iS a.cv) (cX s.p)
 ks:∀w,K w->dy (λ_=>True) w (iS a.kv) (cS s.p)
 mem:∀w,K w->u9 a.ov a.fv s.mem w
 rc:∃vv,(∀w,K w->dy (λ_=>True) w (iS a.pv.recover) vv)/\EX K vv s.p.recover
abbrev sI(K:hU)(room:Int)(s:Ptr)(t:jM):HP:=mQ K s.b room t
def fi(K:hU)(p:Nat)(m:iB):HP:=oV λa:DA=>fact (Xw K a m) (sep (bM p (mn a m)) (sep (fy a.q a.ov a.fv m.mem) (sep (bH a.ow m.fb) (sep (bH a.ll a.ps) (gj (sI K m.room) a.ps m.l)))))
def jz(K:hU)(p:Nat)(m:iB)(i:Nat)(tp:Ptr):HP:=oV λa:DA=>fact (Xw K a m/\a.ps[i]?=some tp/\a.ps.length=m.l.length/\i<m.l.length) (sep (bM p (mn a m)) (sep (fy a.q a.ov a.fv m.mem) (sep (bH a.ow m.fb) (sep (bH a.ll a.ps) (mE (sI K m.room) a.ps m.l i)))))
section
variable {w w' w0:World}{A:Nat->Prop}{R:List HP}{p:Nat}{K:hU}{m:iB}{a:DA}{i:Nat}{tp:Ptr}{t:jM}
theorem fi.open(u:St w0 A (fi K p m::R) w):∃a,Xw K a m/\St w0 A (bM p (mn a m)::fy a.q a.ov a.fv m.mem::bH a.ow m.fb::bH a.ll a.ps::gj (sI K m.room) a.ps m.l::R) w:=by
 obtain⟨a,u⟩:=u.dS;obtain⟨B,u⟩:=u.lr;exact⟨a,B,tA u⟩
theorem fi.shut(B:Xw K a m)(u:St w0 A (bM p (mn a m)::fy a.q a.ov a.fv m.mem::bH a.ow m.fb::bH a.ll a.ps::gj (sI K m.room) a.ps m.l::R) w):St w0 A (fi K p m::R) w:=
 St.dO a (St.mB B (tB u))
theorem jz.open(u:St w0 A (jz K p m i tp::R) w):∃a,(Xw K a m/\a.ps[i]?=some tp/\a.ps.length=m.l.length/\i<m.l.length)/\St w0 A (bM p (mn a m)::fy a.q a.ov a.fv m.mem::bH a.ow m.fb::bH a.ll a.ps::mE (sI K m.room) a.ps m.l i::R) w:=by
 obtain⟨a,u⟩:=u.dS;obtain⟨B,u⟩:=u.lr;exact⟨a,B,tA u⟩
theorem jz.shut(B:Xw K a m/\a.ps[i]?=some tp/\a.ps.length=m.l.length/\i<m.l.length)(u:St w0 A (bM p (mn a m)::fy a.q a.ov a.fv m.mem::bH a.ow m.fb::bH a.ll a.ps::mE (sI K m.room) a.ps m.l i::R) w):St w0 A (jz K p m i tp::R) w:=
 St.dO a (St.mB B (tB u))
structure adp(K:hU)(w:World)(p:Nat)(m:iB)(a:DA):Prop where
 uk:Xw K a m
 b:nY w p (mn a m)
 mem:sG w a.q m.mem
 ow:dy (λ_=>True) w a.ow m.fb
 ll:dy (λ_=>True) w a.ll a.ps
 th:∀(i:Nat) (s:Ptr) (t:jM),a.ps[i]?=some s->m.l[i]?=some t->Has (mQ K s.b m.room t) w
 len:a.ps.length=m.l.length
theorem fi.rd(h:Has (fi K p m) w)(E:K w):∃a,adp K w p m a:=by
 obtain⟨F,u⟩:=h.st
 obtain⟨a,B,u⟩:=fi.open u
 exact⟨a,B,u.hb,Cv u.p1 (B.mem _ E),u.p2.eS,u.p3.eS,λi s t h1 h2=>u.p4.aaT h1 h2 (Φ:=λw=>Has (mQ K s.b m.room t) w) λh=>⟨_,h⟩,u.p4.jj⟩
theorem Pt{ps:List Ptr}(B:St w0 A (gj (sI K m.room) ps m.l::R) w)(u:ps[i]?=some tp)(ht:m.l[i]?=some t):St w0 A (mQ K tp.b m.room t::mE (sI K m.room) ps m.l i::R) w:=B.focus u ht
theorem rI(B:St w0 A (mQ K tp.b m.room t::jz K p m i tp::R) w):St w0 A (fi K p {m with l:=m.l.set i t}::R) w:=by
 obtain⟨a,⟨u,E,G,hi⟩,B⟩:=jz.open B.p1
 have h1:St w0 A (sI K m.room tp t::mE (sI K m.room) a.ps m.l i::_) w:=B.p4.p5
 have h2:=h1.IB hi G E
 have h3:=h2.p4.p4.p4.p4
 exact fi.shut (m:={m with l:=m.l.set i t}) ⟨u.pr,u.cs,u.ks,u.mem,u.rc⟩ h3
end
def xA(m:iB)(t:jM):Bool:=match qH t.bN with
 | none=>false
 | some (x,_,_)=>if t.fault≠0\/x.kind=2 then true else if x.kind=3\/x.kind=5\/x.kind=6\/x.kind=7 then !decide (m.room<=t.buf.length)
  else if x.kind=9/\m.fb.getD (cT (cS m.p) x.name).toNat 0≠-1 then false else decide (t.buf.length=0)
def ou(m:iB)(i:Nat)(t:jM):List bG:=(if xA m t=true then [⟨1,i,0,[]⟩]else [])++(qq t.buf).map λk=>⟨2,i,k,[]⟩
def gy(m:iB)(k:Nat):List bG:=(tL k).flatMap λi=>match m.l[i]? with|some t=>ou m i t|none=>[]
def kf(m:iB):List bG:=if m.fault≠0 then []else gy m m.l.length
theorem sW{m:iB}{k:Nat}{t:jM}(h:m.l[k]?=some t):gy m (k+1)=gy m k++ou m k t:=by
 unfold gy;rw[D8,GD];simp[h]
def Pu(t:jM):Prop:=t.fault=0->∀x a b,qH t.bN=some (x,a,b)->(2<=x.kind/\x.kind<=10)/\(et t x.e).2=true/\(et t x.f).2=true
structure nU(m:iB):Prop where
 mem:xQ m.mem
 th:∀t∈m.l,wk (cX m.p) (cS m.p) t
 tl:m.l.length<=1000
 ow:m.fb.length=(cS m.p).length
 rm:1<=m.room/\m.room<=16
 st:∀t∈m.l,Pu t
 pz:PZ m.p
def zu(l:List bE):(qq l).length<=l.length:=by grind[qq]
def EY(m:iB)(i:Nat)(t:jM):(ou m i t).length<=1+t.buf.length:=by
 have:=zu t.buf
 unfold ou;grind
theorem pY{m:iB}(h:nU m):∀k,(gy m k).length<=k*1001
 | 0=>by simp[gy]
 | k+1=>by
  have u:=pY h k
  cases ht:m.l[k]? with
  | none=>
   have e:gy m (k+1)=gy m k:=by unfold gy;rw[D8,GD];simp[ht]
   grind
  | some t=>
   rw[sW ht,kE]
   have:=EY m k t
   have:=(h.th t (l0 ht)).bl
   omega
def Hg{m:iB}(h:nU m):(kf m).length<=1001000:=by
 unfold kf;split
 .simp
 exact x9 (pY h _) (Nat.mul_le_mul_right 1001 h.tl)
def lJ(m:iB)(t:jM)(c:Int):Int:=if (nz t.buf c).isSome=true then(nz t.buf c).getD 0 else ly m.mem c
def gk(m:iB)(x:aZ):Int:=cT (cX m.p) x.name
def gV(m:iB)(x:aZ):Int:=cT (cS m.p) x.name
def ix(m:iB)(x:aZ):Int:=po m.p (gk m x)
def tC(m:iB)(t:jM)(y:bE):jM:={t with buf:=sE m.room t.buf y}
def CC(m:iB)(t:jM)(x:aZ):cQ:=⟨if (nz t.buf (gk m x)).isSome=true then 2 else 1,0,gk m x,lJ m t (gk m x),0⟩
def rJ(m:iB)(t:jM)(x:aZ):iB:=if ly m.mem (gk m x)=(et t x.e).1 then {m with mem:=fC m.mem (gk m x) (et t x.f).1}else m
def ve(m:iB)(t:jM)(x:aZ):cQ:=if ly m.mem (gk m x)=(et t x.e).1 then⟨8,0,gk m x,ly m.mem (gk m x),(et t x.f).1⟩else⟨9,0,gk m x,ly m.mem (gk m x),0⟩
def qw(m:iB)(x:aZ)(i:Int):iB:={m with fb:=m.fb.set (gV m x).toNat i}
def eB(m:iB)(t:jM)(i:Int)(x:aZ):iB×jM×cQ:=
 if x.kind=2 then(m,pD t x.eO (lJ m t (gk m x)),CC m t x)
 else if x.kind=3 then(m,tC m t ⟨3,ix m x,gk m x,(et t x.e).1⟩,⟨3,0,gk m x,(et t x.e).1,0⟩)
 else if x.kind=5 then(m,tC m t ⟨5,ix m x,0,0⟩,⟨4,0,ix m x,0,0⟩)
 else if x.kind=6 then(m,tC m t ⟨6,ix m x,0,0⟩,⟨5,0,ix m x,0,0⟩)
 else if x.kind=7 then(m,tC m t ⟨7,0,0,0⟩,⟨6,0,0,0,0⟩)
 else if x.kind=8 then(m,t,⟨7,0,0,0,0⟩)
 else if x.kind=4 then(rJ m t x,pD t x.eO (ly m.mem (gk m x)),ve m t x)
 else if x.kind=9 then(qw m x i,t,⟨10,0,gV m x,0,0⟩)
 else(qw m x (-1),t,⟨11,0,gV m x,0,0⟩)
def tD(m:iB)(t:jM)(i:Int)(x:aZ):jM:=Xc { (eB m t i x).2.1 with bN:=gU (eB m t i x).2.1.bN}
def iZ(m:iB)(i:Int):iB×cQ:=match m.l[i.toNat]? with
 | none=>(m,⟨0,0,0,0,0⟩)
 | some t=>if t.fault≠0 then({m with fault:=t.fault,kZ:=i},⟨16,i,t.fault,0,0⟩)else match qH t.bN with
  | none=>(m,⟨0,0,0,0,0⟩)
  | some (x,_,_)=>if x.kind=10/\m.fb.getD (gV m x).toNat 0≠i then({m with fault:=3,kZ:=i},⟨16,i,3,0,0⟩)
   else({ (eB m t i x).1 with l:=m.l.set i.toNat (tD m t i x)},{ (eB m t i x).2.2 with t:=i})
def xB(m:iB)(t:jM)(q:bG):iB:={m with mem:=ke m.mem (ei t.buf q.i),l:=m.l.set q.t.toNat {t with buf:=ky t.buf q.i}}
def Tl(l:List aZ):Bk:=(nT l).getD .nil
def Ad(t:bW):jM:=⟨t.dJ,oI t.dJ.length 0,jC (Tl t.body) false [],0,[]⟩
def Zw(t:bW):jM:=Xc (Ad t)
def tG(m:iB)(l:List bW):iB:={m with fb:=oI (cS m.p).length (-1),l:=l.map Zw}
def ld(m:iB)(q:bG):Option (List Int):=if q.kind=3/\q.t=0/\q.i=0/\m.fault=0 then gw m.mem q.cut else none
def sl(m:iB)(u:List Int):iB:={m with mem:=nA m.mem u,cL:=m.cL+1}
def wm(m:iB):List bW:=if m.p.recover.length=0 then [⟨⟨#[]⟩,[],[],0⟩]else m.p.recover
def vf(m:iB)(q:bG):iB×cQ×Int:=match ld m q with
 | some u=>(tG (sl m u) (wm m),⟨15,0,0,vc q.cut q.cut.length,0⟩,0)
 | none=>if (kf m).any (qu q)=true then
   (if q.kind=2 then(match m.l[q.t.toNat]? with|some t=>(xB m t q,zi q.t (ei t.buf q.i),0)|none=>(m,⟨0,0,0,0,0⟩,13))else((iZ m q.t).1,(iZ m q.t).2,0))
  else(m,⟨0,0,0,0,0⟩,13)
def tH(t:jM):Bool:=decide (t.bN.length=0)&&decide (t.buf.length=0)
def lz(m:iB):Bool:=decide (m.fault=0)&&!(tL m.l.length).any λi=>match m.l[i]? with|some t=>!tH t|none=>false
def nH(m:iB):Bool:=decide (m.fault=0)&&(!lz m&&decide (((kf m).length:Int)=0))
def mR(m:iB):jx:=⟨m.cL,m.fault,m.kZ,lz m,nH m⟩
def sm(m:iB)(c:gH):Bool:=decide ((vU (fP m.p) (m.mem.l.take (ee m.p).toNat) c.e).2=0)&&decide ((vU (fP m.p) (m.mem.l.take (ee m.p).toNat) c.e).1≠0)
def lR(m:iB):List Bool:=m.p.ef.map (sm m)
def xU(p:bQ):List Int:=(tL (cX p).length).map fun (i:Nat)=>po p (i:Int)
def zx(p:bQ)(room:Int):iB:=⟨p,room,Pf (xU p) (ee p) (fM p),[],[],0,0,0⟩
def jc(p:bQ)(room:Int):iB:=tG (zx p room) p.threads
def C66(K Φ:hU)(p:Nat)(room:Int)(t:jM)(w:World)(J:Has (dM K Φ p room t) w)(U:t.buf.length<=1000):CR 66 [.pointer (some ⟨p,0,none⟩)] w (λv w'=>v=.bool (decide (t.buf.length=0))/\Ext w w'):=by
 obtain⟨I,W,rg,pl,es,O,G,E,V,Y,M,_⟩:=dM.rd J;have B:=G.cell (o:=0) rfl;have u:=St.start w;refine eR Tryz.func66 ?_;exact aD (aA kK (cD um (B.ext u.aF) (fV Z0 u (C143 I _ _ _ (E.ext u.aF) bP) λ_ _ _ u=>aI iD u.eS (aG ⟨vb (ga.2 bP),u.drop.aF⟩))))
def C68(K Φ:hU)(p:Nat)(m:iB)(q:Nat)(t:jM)(w:World)(hm:Has (fi K p m) w)(M:∀w',Ext w w'->K w')(lS:nU m)(hh:Has (dM K Φ q m.room t) w)(Jn:t∈m.l):CR 68 [.pointer (some ⟨p,0,none⟩),.pointer (some ⟨q,0,none⟩)] w (λv w'=>v=.bool (xA m t)/\Ext w w'):=by
 obtain⟨a,O⟩:=fi.rd hm (M _ (Ext.refl _));have cm7:=O.b.cell (o:=7) rfl;have E:=O.b.cell (o:=10) rfl;have J:=lS.th t Jn;have L4:=J.bl;have aiN:(cS m.p).length<=500:=by unfold cS;rw[nP];exact lS.pz.eV
 have mI:=xR J.p;have OV:=J.cl;obtain⟨bp,nv,rg,pl,es,hk,W,hB,FP,Lo,Cz,_⟩:=dM.rd hh;have ct0:=W.cell (o:=0) rfl;have Z:=W.cell (o:=4) rfl;have u:=St.start w;refine qg Tryz.func68 (pl:=P68) ?_;refine dW Pm (C127 K q t bp nv rg pl es _ _ W Lo Cz M J.p bP) ?_;rintro v _ ⟨he,hv⟩;have u:=u.ext he
 rcases hv with⟨ej,rfl⟩|⟨x,xa,xb,xv,av,bv,ra,rb,Pp,rfl,CY,_⟩
 .exact aJ rfl (aJ rfl (aJ rfl (aJ rfl (aK u jw λ_ _ u=>aH (x:=(⟨0,⟨#[]⟩,⟨#[]⟩,bY,bY,0,0,0,0⟩:aT)) u ek rfl rfl λ_ u=>bJ (gE ⟨vb (by unfold xA;rw[ej]),u.drop.aF⟩)))))
 obtain⟨ge,gf,rfl,_,_⟩:=kY (CY _ (M _ u.aF));have hx:=(J.top Pp).1;have B:xA m t=(if t.fault≠0\/x.kind=2 then true else if x.kind=3\/x.kind=5\/x.kind=6\/x.kind=7 then !decide (m.room<=t.buf.length)else if x.kind=9/\m.fb.getD (cT (cS m.p) x.name).toNat 0≠-1 then false else decide (t.buf.length=0)):=by unfold xA;rw[Pp]
 refine aJ rfl (aJ rfl (aJ rfl (aJ rfl (aK u jw λb5 w2 u=>aH (x:=(⟨x.kind,x.eO,x.name,ge,gf,x.n,x.body,x.eG,x.at_⟩:aT)) u ek rfl rfl λw3 u=>bJ (ep ?_)))));refine⟨λG w'=>G=.bool (decide (t.fault≠0\/x.kind=2))/\w'=w3,?_,?_⟩
 .exact aD (aA qR (cD bL (Z.ext u.aF) (cB (aC (λ_=>⟨vb (fY bP).symm,rfl⟩) λ_=>aA ft (aB (v:=hZ x.kind) bL u.hb rfl (aG ⟨vb (ga.2 bP),rfl⟩))))))
 rintro _ w4 ⟨rfl,rfl⟩ _;refine aC (λc1=>?_) (λc1=>?_)
 .exact⟨vb (by rw[B,fh c1]),u.drop.aF⟩
 rw[fg c1]at B;refine⟨λG w'=>G=.bool (decide (x.kind=3\/x.kind=5\/x.kind=6\/x.kind=7))/\w'=w4,?_,?_⟩
 .refine aA ft (aB (v:=hZ x.kind) bL u.hb rfl ?_);exact aG (aC (λ_=>⟨vb (fY bP).symm,rfl⟩) λ_=>aA ft (aB (v:=hZ x.kind) bL u.hb rfl (aG (aC (λ_=>⟨vb (fY bP).symm,rfl⟩) λ_=>aA ft (aB (v:=hZ x.kind) bL u.hb rfl (aG (aC (λ_=>⟨vb (fY bP).symm,rfl⟩) λ_=>aA ft (aB (v:=hZ x.kind) bL u.hb rfl (aG ⟨vb (ga.2 bP),rfl⟩)))))))))
 rintro _ _ ⟨rfl,rfl⟩ _;refine aC (λV=>?_) (λV=>?_)
 .exact aD (aA kK (cD um (ct0.ext u.aF) (aR Uj u (C145 bp _ _ _ (hB.ext u.aF)) λ_ _ u=>bJ ⟨vb (by rw[B,fh V]),u.drop.aF⟩)))
 rw[fg V]at B;refine⟨λG w'=>G=.bool (decide (x.kind=9/\m.fb.getD (cT (cS m.p) x.name).toNat 0≠-1))/\St w bF [bM b5 (jn (⟨x.kind,x.eO,x.name,ge,gf,x.n,x.body,x.eG,x.at_⟩:aT))] w',?_,?_⟩
 .have u:=u.drew;refine aA ft (aB (v:=hZ x.kind) bL u.hb rfl (aG (aC (λc3=>?_) λ_=>⟨vb (fZ bP).symm,u⟩)));obtain⟨j,hj,FK,_⟩:=py (cY.1 (hx.lk (.inl c3)));have LZ:=(j0.1 FK).1;have how:=lS.ow;refine aD (aA mZ (cD eK (E.ext u.aF) (aD (aA yp (cD lT (cm7.ext u.aF) (aA jS (aB (v:=.string x.name) jZ u.hb rfl (aR AX u (C146 _ (cS m.p) x.name _ (O.uk.ks _ (M _ u.aF)) bP) λ_ he u=>?_))))))));refine⟨aX eK (E.ext u.aF),?_⟩;obtain⟨ov,I⟩:=gx m.fb (i:=(cT (cS m.p) x.name).toNat) bP
  refine aY dG (O.ow.ext u.aF) bP I (λq71 U=>aE bL U (cB ?_));refine⟨vb (ga.2 ?_),u⟩;rw[o4,I];exact⟨λh=>⟨c3,h⟩,λh=>h.2⟩
 rintro _ _ ⟨rfl,u⟩ _;refine aC (λY=>?_) (λY=>?_)
 .exact⟨vb (by rw[B,fh Y]),u.drop.aF⟩
 exact aR acS u (C66 K Φ q m.room t _ (hh.ext u.aF) L4) (λ_ _ u=>⟨vb (by rw[B,fg Y]),u.drop.aF⟩)
def C22(K:hU)(p:Nat)(m:iB)(w:World)(hm:Has (fi K p m) w)(hw:∀w',Ext w w'->K w')(I:nU m):CR 22 [.pointer (some ⟨p,0,none⟩)] w (λv w'=>mD (jW v (kf m)) w w'):=by
 obtain⟨a,E⟩:=fi.rd hm (hw _ (Ext.refl _));have Xx:=E.b.cell (o:=11) rfl;have Lp:=E.b.cell (o:=13) rfl;have hlen:=E.len;have Kk:=I.tl;have u:=St.start w;refine Xn _ _ _ ?_;unfold S22;refine aD (aA o7 (cD bL (Lp.ext u.aF) (cB (aC (λc=>?_) λc=>?_))))
 .have B:kf m=[]:=by unfold kf;rw[fh c]
  rw[B];exact u.Gt.fresh
 have B:kf m=gy m m.l.length:=by unfold kf;rw[fg c]
 rw[B];refine aD (aA m4 (cD uo (Xx.ext u.aF) (aI wL (E.ll.ext u.aF) ?_)));refine⟨λG o y J=>∃k:Nat,y=hZ (k:Int)/\G=a.ps.length-k/\k<=a.ps.length/\St w bF [jW o (gy m k)] J,⟨_,0,rfl,rfl,mj _,u.Gt⟩,?_⟩;rintro G o _ J ⟨k,rfl,rfl,hk,u⟩ _;have mI:=pY I k;have Rk:k*1001<=1001000:=bP
 refine aQ (aC (λc1=>?_) λc1=>?_);rotate_left
 .rw[show k=m.l.length from bP]at u;exact u.fresh
 obtain⟨e,O⟩:=gx a.ps (i:=((k:Nat):Int).toNat) bP;obtain⟨t,ht⟩:=gx m.l (i:=k) bP;have Z:=l0 ht;have L4:=(I.th t Z).bl;have WG:=E.th k e t O ht;obtain⟨bp,nv,rg,pl,es,CW,zo,hB,FP,Lo,Cz,_⟩:=dM.rd WG;have W:=zo.cell (o:=0) rfl;refine aY wL (E.ll.ext u.aF) bP O (λq V=>aE AG V ?_);refine⟨λjv w'=>St w bF [jW jv (gy m k++(if xA m t=true then [(⟨1,k,0,[]⟩:bG)]else []))] w',?_,?_⟩
 .refine aR aiD u (C68 K _ p m e.b t _ (hm.ext u.aF) (λ_ e=>hw _ (u.aF.then e)) I (WG.ext u.aF) Z) (λ_ O u=>bD (λM=>?_) λM=>?_)
  .refine pop (Kn 1 (k:Int)) (have u:=u.fG (Φ:=λw=>l3 w (⟨1,(k:Int),0,bY⟩:aU) (⟨1,(k:Int),0,[]⟩:bG)) (λw=>⟨bY,rfl,DL.nil w⟩);kp (x:=(⟨1,(k:Int),0,[]⟩:bG)) (s:=(⟨1,(k:Int),0,bY⟩:aU)) u ui ea λs29 _ u=>kq u.p1 ui (by rw[nB];omega) ea λs30 _ u=>?_);rw[fh M];exact u
  rw[fg (by rw[M];decide),oj];exact u
 rintro o2 _ u _;refine aD (aA kK (cD um (W.ext u.aF) (fV af4 u (C69 bp _ _ _ (hB.ext u.aF) bP) λU _ dw u=>?_)));have OV:=zu t.buf;refine aI dG u.eS ?_;refine⟨λG o y J=>∃j:Nat,y=hZ (j:Int)/\G=(qq t.buf).length-j/\j<=(qq t.buf).length/\St w bF [jW o (gy m k++(if xA m t=true then [(⟨1,k,0,[]⟩:bG)]else [])++((qq t.buf).take j).map λi=>(⟨2,k,i,[]⟩:bG)),bH U (qq t.buf)] J,⟨_,0,rfl,rfl,mj _,by rw[List.take_zero,List.map_nil,oj];exact u.p1⟩,?_⟩;rintro G o3 _ _ ⟨j,rfl,rfl,hj,u⟩ _;refine aQ (aC (λc3=>?_) λc3=>?_)
 .obtain⟨y,Y⟩:=gx (qq t.buf) (i:=((j:Nat):Int).toNat) bP;exact aY dG u.p1.eS bP Y (λ_ V=>aE bL V (pop (DJ 2 (k:Int) y) (have u:=u.fG (Φ:=λw=>l3 w (⟨2,(k:Int),y,bY⟩:aU) (⟨2,(k:Int),y,[]⟩:bG)) (λw=>⟨bY,rfl,DL.nil w⟩);kp (x:=(⟨2,(k:Int),y,[]⟩:bG)) (s:=(⟨2,(k:Int),y,bY⟩:aU)) u ui ea λ_ _ u=>kq u.p1 ui (by simp only[kE,nP,mg,nB];split<;>simp<;>omega) ea λ_ _ u=>aM bP ⟨_,bP,j+1,rfl,rfl,bP,by rw[<- nn (k:=j) Y,<- mu];exact u⟩)))
 rw[kO bP]at u;refine aM bP ?_;refine⟨_,bP,k+1,rfl,rfl,bP,?_⟩;rw[sW ht];unfold ou;rw[<- mu];exact u.p1.drop
def C161(K:hU)(p:Nat)(m:iB)(i kind:Int)(F:Nat->Prop)(w:World)(E:(fi K p m).p w F):CR 161 [.pointer (some ⟨p,0,none⟩),hZ i,hZ kind] w (λv w'=>v=iS (⟨16,i,kind,0,0⟩:cQ)/\mC F (fi K p {m with fault:=kind,kZ:=i}) w w'):=by
 have u:=St.begin E;refine eR Tryz.func161 ?_;obtain⟨a,B,u⟩:=fi.open u;exact aK u qP (λ_ _ u=>have u:=u.enc (cs':=jn (⟨0,0,0,0,0⟩:cQ)) rfl;aD (aA o7 (aO u.p1 bL (dQ rfl) rfl λ_ u=>aD (aA DC (aO u bL (dQ rfl) rfl λ_ u=>pop (wO 16 i kind) (aH (x:=(⟨16,i,kind,0,0⟩:cQ)) u.p1 iC rfl rfl λ_ u=>aE iC u.At ⟨rfl,(fi.shut (m:={m with fault:=kind,kZ:=i}) ⟨B.pr,B.cs,B.ks,B.mem,B.rc⟩ u.drop).mut⟩))))))
def C162(K:hU)(p:Nat)(m:iB)(n:Nat)(tp:Ptr)(t:jM)(x:aZ)(O:aT)(F:Nat->Prop)(c:Int)(w:World)(hF:(sep (mQ K tp.b m.room t) (jz K p m n tp)).p w F)(B:∀w',fD F w w'->K w')(M:wk (cX m.p) (cS m.p) t)(J:xQ m.mem)(CY:∀w,K w->l3 w O x)(FP:0<=cT t.names x.eO):CR 162 [.pointer (some ⟨p,0,none⟩),.pointer (some ⟨tp.b,0,none⟩),iS O,hZ c] w (λv w'=>v=iS (⟨if (nz t.buf c).isSome=true then 2 else 1,0,c,lJ m t c,0⟩:cQ)/\mC F (sep (mQ K tp.b m.room (pD t x.eO (lJ m t c))) (jz K p m n tp)) w w'):=by
 have u:=(St.begin hF).split;obtain⟨V,W,rfl,_,_⟩:=kY (CY _ (B _ u.aF));obtain⟨j,hj,Z,_⟩:=py (cY.1 FP);have LZ:=(j0.1 Z).1;have hnb:=M.nb;have Po:=M.rl;have L4:=M.bl;refine Ti _ _ _ _ _ _ ?_;unfold S162;refine cE (x:=(⟨x.kind,x.eO,x.name,V,W,x.n,x.body,x.eG,x.at_⟩:aT)) u (λb6 _ u=>aK u qP λb8 _ u=>?_);have u:=(u.enc (cs':=jn (⟨0,0,0,0,0⟩:cQ)) rfl).p2;obtain⟨I,nv,rg,pl,es,U,u⟩:=dM.open u;refine aD (aA kK (aB um u.hb rfl (aR aah u (C259 I c m.room t.buf _ (Jf u.p1) bP) λ_ he u=>aJ rfl (aJ rfl ?_))))
 refine⟨λn9 Zm w'=>n9=hZ (lJ m t c)/\Zm=hZ (if (nz t.buf c).isSome=true then 2 else 1)/\St w F [bM tp.b (vd I nv rg pl t.fault),kW I m.room t.buf,bH rg t.dJ,bH pl (FN es),eH (λw=>xS K w es t.bN/\True),bM b8 (jn (⟨0,0,0,0,0⟩:cQ)),bM b6 (jn (⟨x.kind,x.eO,x.name,V,W,x.n,x.body,x.eG,x.at_⟩:aT)),jz K p m n tp] w',?_,?_⟩
 .refine bJ (bD (λG=>?_) λG=>?_)
  .have h1:(nz t.buf c).isSome=false:=by simpa using G
   have u:=u.p7;obtain⟨a,Y,u⟩:=jz.open u;exact aD (aA lU (aB wK u.hb rfl (aR Ur u (Vu a.q m.mem c _ (Cv u.p1 (Y.1.mem _ (B _ u.aF))) J) λ_ _ u=>aJ rfl (aJ rfl (have u:=(((((((jz.shut (m:=m) Y u.p4.p4.p4.p4.p4).p7).p7).p7).p7).p7).p7).p7;⟨by unfold lJ;rw[fg (by rw[h1];decide)],by rw[fg (by rw[h1];decide)],u⟩)))))
  have h1:(nz t.buf c).isSome=true:=by simpa using G
  exact⟨by unfold lJ;rw[fh h1],by rw[fh h1],u⟩
 rintro _ _ _ ⟨rfl,rfl,u⟩ _;have u:=u.drew;refine aD (aA uu (aB eK u.hb rfl (aD (aA ur (aB lT u.hb rfl (aA kL (aB (v:=.string x.eO) jZ u.p6.hb rfl (aR AX u (C146 _ t.names x.eO _ (U _ (B _ u.aF)) bP) λ_ he u=>?_))))))));refine⟨aX eK (u.hb.cell rfl),?_⟩;exact ed u.p2 dG bP bP (λ_ E=>kI (lJ m t c:Int) u.p2 bL E bP λ_ u=>pop (qZ (if (nz t.buf c).isSome=true then 2 else 1) c (lJ m t c)) (aH (x:=(⟨if (nz t.buf c).isSome=true then 2 else 1,0,c,lJ m t c,0⟩:cQ)) u.p5 iC rfl rfl λ_ u=>aE iC u.At (have u:=dM.shut (Φ:=λ_=>True) (t:=pD t x.eO (lJ m t c)) U u.drop.p5.drop.p4.p4.p2.p4.p4;have u:=u.p1.p1;⟨rfl,(St.join u).mut⟩)))
def C165(K:hU)(p:Nat)(m:iB)(n:Nat)(tp:Ptr)(t:jM)(x:aZ)(xv:aT)(F:Nat->Prop)(w:World)(hF:(sep (mQ K tp.b m.room t) (jz K p m n tp)).p w F)(E:∀w',fD F w w'->K w')(qi:wk (cX m.p) (cS m.p) t)(O:xQ m.mem)(CY:∀w,K w->l3 w xv x)(FP:0<=cT t.names x.eO)(FQ:MB m.mem 1000000)(Wn:x.e.length<=1000/\x.f.length<=1000)(V:(et t x.e).2=true)(W:(et t x.f).2=true):CR 165 [.pointer (some ⟨p,0,none⟩),.pointer (some ⟨tp.b,0,none⟩),iS xv,hZ (gk m x)] w (λv w'=>v=iS (ve m t x)/\mC F (sep (mQ K tp.b m.room (pD t x.eO (ly m.mem (gk m x)))) (jz K p (rJ m t x) n tp)) w w'):=by
 have u:=(St.begin hF).split;obtain⟨Y,gf,rfl,_,_⟩:=kY (CY _ (E _ u.aF))
 have Xm:∀w,K w->dy (λ_=>True) w (iS Y) x.e/\dy (λ_=>True) w (iS gf) x.f:=λw Z=>by
  obtain⟨_,_,h4,h5,h6⟩:=kY (CY w Z);cases h4
  exact⟨h5,h6⟩
 obtain⟨j,hj,FK,_⟩:=py (cY.1 FP);have LZ:=(j0.1 FK).1;have hnb:=qi.nb;have Po:=qi.rl;have ht1:{t with fault:=if (et t x.e).2=true then t.fault else 2}=t:=by rw[V];rfl
 have ht2:{t with fault:=if (et t x.f).2=true then t.fault else 2}=t:=by rw[W];rfl
 obtain⟨c,hc⟩:∃c,c=gk m x:=⟨_,rfl⟩;rw[<- hc];refine Tj _ _ _ _ _ _ ?_;unfold S165;refine cE (x:=(⟨x.kind,x.eO,x.name,Y,gf,x.n,x.body,x.eG,x.at_⟩:aT)) u (λb6 _ u=>aK u qP λb8 _ u=>?_);have u:=(u.enc (cs':=jn (⟨0,0,0,0,0⟩:cQ)) rfl).p3;obtain⟨a,B,u⟩:=jz.open u;refine aD (aA lU (aB wK u.hb rfl (aR Ur u (Vu a.q m.mem c _ (Cv u.p1 (B.1.mem _ (E _ u.aF))) O) λ_ he u=>aJ rfl (aJ rfl (aA kM (aB (v:=iS Y) lF u.p6.hb rfl (have u:=u.p7;aS EU u (H':=λ_=>mQ K tp.b m.room t) (Φ:=λv _=>v=.tuple #[hZ (et t x.e).1,.bool (et t x.e).2]) (λI J U=>?_) ?_)))))))
 .have:=C163 K _ tp.b m.room t I _ x.e _ J (λw' hc=>E w' (U w' hc).aF) (Xm _ (E _ u.aF)).1 bP bP;rw[ht1]at this;exact this
 rintro _ _ rfl u;refine aJ rfl (aJ rfl (aA qW (aB (v:=iS gf) lF u.p7.hb rfl (aS EU u (H':=λ_=>mQ K tp.b m.room t) (Φ:=λv _=>v=.tuple #[hZ (et t x.f).1,.bool (et t x.f).2]) (λI J U=>?_) ?_))))
 .have:=C163 K _ tp.b m.room t I _ x.f _ J (λw' hc=>E w' (U w' hc).aF) (Xm _ (E _ u.aF)).2 bP bP;rw[ht2]at this;exact this
 rintro _ _ rfl u;refine aJ rfl (aJ rfl ?_);obtain⟨bp,nv,rg,pl,es,hk,u⟩:=dM.open u;have u:=u.drew;refine aD (aA uu (aB eK u.hb rfl (aD (aA ur (aB lT u.hb rfl (aA kL (aB (v:=.string x.eO) jZ u.p11.hb rfl (aR AX u (C146 _ t.names x.eO _ (hk _ (E _ u.aF)) bP) λ_ he u=>?_))))))));refine⟨aX eK (u.hb.cell rfl),?_⟩;refine ed u.p2 dG bP bP (λ_ aiR=>kI (ly m.mem c:Int) u.p2 bL aiR bP λw6' u=>have u:=dM.shut (Φ:=λ_=>True) (t:=pD t x.eO (ly m.mem c)) hk u.p4.p4.p2.p4.p4;cB (aC (λM=>?_) λM=>?_))
 .have G:rJ m t x=m:=by unfold rJ;rw[<- hc,fg M]
  have zd:ve m t x=⟨9,0,c,ly m.mem c,0⟩:=by unfold ve;rw[<- hc,fg M]
  refine pop (qZ 9 c (ly m.mem c)) (aH (x:=(⟨9,0,c,ly m.mem c,0⟩:cQ)) u.p6 iC rfl rfl λ_ u=>aE iC u.At ?_);have u:=(jz.shut (m:=m) B u.drop.p6.drop.p5.p5.p5.p5.p5).p1;rw[G,zd];exact⟨rfl,(St.join u).mut⟩
 have G:rJ m t x={m with mem:=fC m.mem c (et t x.f).1}:=by unfold rJ;rw[<- hc,fh (by simpa using M)]
 have zd:ve m t x=⟨8,0,c,ly m.mem c,(et t x.f).1⟩:=by unfold ve;rw[<- hc,fh (by simpa using M)]
 refine aD (aA lU (aB wK u.p1.hb rfl (have u:=u.p2;aS Un u (H':=λ_=>fy a.q a.ov a.fv (fC m.mem c (et t x.f).1)) (Φ:=λ_ _=>True) (λI J U=>?_) ?_)))
 .exact(C159 a.q a.ov a.fv m.mem I c _ _ J (λw' hc=>B.1.mem _ (E w' (U w' hc).aF)) O FQ).mono λ_ _ r=>r.mono λ_ _ h=>⟨trivial,h.2⟩
 rintro _ _ _ u;refine pop (z6 8 c (ly m.mem c) (et t x.f).1) (aH (x:=(⟨8,0,c,ly m.mem c,(et t x.f).1⟩:cQ)) u.p6 iC rfl rfl λ_ u=>aE iC u.At ?_);have u:=jz.shut (m:={m with mem:=fC m.mem c (et t x.f).1}) (⟨⟨B.1.pr,B.1.cs,B.1.ks,λw Z=>(B.1.mem w Z).write,B.1.rc⟩,B.2⟩) u.drop.p6.drop.p5.p5.p5.p3.p5;have u:=u.p1;rw[G,zd];exact⟨rfl,(St.join u).mut⟩
def C82(cv:Value)(cut:List Int)(w:World)(I:dy (λ_=>True) w cv cut)(J:cut.length<=1000000):CR 82 [cv] w (λv w'=>v=hZ (vc cut cut.length)/\Ext w w'):=by
 have u:=St.start w;refine Xu _ _ _ ?_;unfold S82;refine aI dG (I.ext u.aF) ?_;refine⟨λB n x E=>∃k:Nat,n=hZ (vc cut k)/\x=hZ (k:Int)/\B=cut.length-k/\k<=cut.length/\St w bF [] E,⟨_,0,rfl,rfl,rfl,mj _,u⟩,?_⟩;rintro B _ _ E ⟨k,rfl,rfl,rfl,O,u⟩ _;refine aQ (aC (λU=>?_) λ_=>⟨by rw[show cut.length=k from bP],u.aF⟩);obtain⟨V,G⟩:=gx cut (i:=(k:Int).toNat) bP;exact aY dG I bP G (λ_ M=>aE bL (M.ext u.aF) (DO (uD (aM bP ⟨_,bP,k+1,by rw[Ha (k:=k) G],rfl,rfl,bP,u⟩))))
def C83(q x:bG)(M:aU)(b:Nat)(J:aU)(w:World)(hq:l3 w M q)(B:At (λ_=>True) w (.pointer (some ⟨b,0,none⟩)) J)(Z:l3 w J x):CR 83 [iS M,(.pointer (some ⟨b,0,none⟩))] w (λv w'=>v=.bool (qu x q)/\Ext w w'):=by
 obtain⟨W,rfl,afr⟩:=hq;obtain⟨Y,rfl,V⟩:=Z;have u:=St.start w;refine eR Tryz.func83 ?_;refine cE u (λG _ u=>⟨λjv w'=>jv=.bool (qu x q)/\St w bF [bM G (jn (⟨q.kind,q.t,q.i,W⟩:aU))] w',?_,?_⟩)
 .refine aA uj (aB (v:=hZ q.kind) bL u.hb rfl (cU x.kind uj B rfl rfl λ_ E=>aE bL (E.ext u.aF) (aG (aC (λeQ=>aA n4 (aB (v:=hZ q.t) bL u.hb rfl (cU x.t n4 B rfl rfl λ_ N2=>aE bL (N2.ext u.aF) (aG (aC (λpe=>aA xM (aB (v:=hZ q.i) bL u.hb rfl (cU x.i xM B rfl rfl λ_ U=>aE bL (U.ext u.aF) (aG (aC (λjX=>?_) λ_=>⟨vb (by unfold qu;first|(simp_all;done)|grind),u⟩))))) λ_=>⟨vb (by unfold qu;first|(simp_all;done)|grind),u⟩))))) λ_=>⟨vb (by unfold qu;first|(simp_all;done)|grind),u⟩))))
  refine cU Y BQ B rfl rfl (λ_ O=>aE eK (O.ext u.aF) ?_);have I:=DL.flat V;exact aI dG (I.ext u.aF) (aG ⟨vb (by unfold qu;first|(simp_all;done)|grind),u⟩)
 rintro _ _ ⟨rfl,u⟩ _;exact⟨rfl,u.drop.aF⟩
theorem nY.ext{w w':World}{b:Nat}{cs:List Value}(h:nY w b cs)(e:Ext w w'):nY w' b cs:=h.of_eq (e.bM b h.lt λh=>h)
def wo(s:ByteArray)(a:Int)(t:ByteArray):Bool:=decide (a+t.size<=s.size)&&decide (s.extract a.toNat (a+t.size).toNat=t)
def Tp(p:UInt8->Bool)(s:ByteArray):Nat->Nat->Nat
 | 0,a=>a
 | n+1,a=>match (fK s)[a]? with
  | some c=>if p c=true then Tp p s n (a+1)else a
  | none=>a
def qI(p:UInt8->Bool)(s:ByteArray)(a:Nat):Nat:=Tp p s (s.size-a) a
section
variable {p:UInt8->Bool}{s:ByteArray}{k:Nat}{c:UInt8}
theorem CD(h:s.size<=k):qI p s k=k:=by unfold qI;simp_all[Tp]
theorem mq(h:(fK s)[k]?=some c):k<s.size:=by have:=(j0.1 h).1;rw[dY]at this;exact this
theorem zy(h:(fK s)[k]?=some c)(u:p c=true):qI p s k=qI p s (k+1):=by
 have B:=mq h
 unfold qI
 rw[show s.size-k=(s.size-(k+1))+1 from bP,Tp,h]
 grind
theorem zz(h:(fK s)[k]?=some c)(u:p c=false):qI p s k=k:=by
 have B:=mq h
 unfold qI
 rw[show s.size-k=(s.size-(k+1))+1 from bP,Tp,h]
 grind
end
def oS(c:UInt8):Bool:=decide (c.toNat=32\/c.toNat=9\/c.toNat=10\/c.toNat=13)
def rK(c:UInt8):Bool:=decide (c.toNat≠10)
def nI(c:UInt8):Bool:=fa c.toNat||gZ c.toNat
def qJ(c:UInt8):Bool:=gZ c.toNat
def iF(s:ByteArray):Nat->Nat->Option Nat
 | 0,_=>none
 | n+1,a=>match (fK s)[a]? with
  | none=>some a
  | some c=>if oS c=true then iF s n (a+1)else if wo s a ⟨#[47,47]⟩=true then iF s n (qI rK s a)else some a
theorem Hh{s:ByteArray}{n a r:Nat}(h:iF s n a=some r):∃k,n=k+1:=by
 cases n with
 | zero=>cases h
 | succ k=>grind
section
variable {s:ByteArray}{n a r:Nat}{c:UInt8}
theorem Lq(h:iF s (n+1) a=some r)(u:s.size<=a):r=a:=by
 unfold iF at h;rw[l2 (by rw[dY];exact u)]at h;grind
theorem wY(h:iF s (n+1) a=some r)(hc:(fK s)[a]?=some c)(hb:oS c=true):iF s n (a+1)=some r:=by
 grind[iF]
theorem Bd(h:iF s (n+1) a=some r)(hc:(fK s)[a]?=some c)(hb:oS c=false)(u:wo s a ⟨#[47,47]⟩=true):iF s n (qI rK s a)=some r:=by
 grind[iF,qI,rK]
theorem E1(h:iF s (n+1) a=some r)(hc:(fK s)[a]?=some c)(hb:oS c=false)(u:wo s a ⟨#[47,47]⟩=false):r=a:=by
 unfold iF at h;grind
theorem Pv:∀(n a:Nat) (p:UInt8->Bool),a<=Tp p s n a/\Tp p s n a<=max a s.size
 | 0,a,p=>⟨om _,by unfold Tp;omega⟩
 | n+1,a,p=>by
  unfold Tp
  cases h:(fK s)[a]? with
  | none=>grind
  | some c=>
   dsimp only
   split
   .have:=Pv n (a+1) p;have:=mq h;omega
   omega
theorem Hi(p:UInt8->Bool):a<=qI p s a/\qI p s a<=max a s.size:=Pv _ _ _
theorem vg:∀{n a r:Nat},iF s n a=some r->a<=s.size->a<=r/\r<=s.size
 | 0,_,_,h,_=>by cases h
 | n+1,a,r,h,B=>by
  cases hc:(fK s)[a]? with
  | none=>unfold iF at h;grind
  | some c=>
   have u:=mq hc
   cases hb:oS c with
   | true=>have:=vg (wY h hc hb) bP;omega
   | false=>
    cases hr:wo s a ⟨#[47,47]⟩with
    | true=>have h1:=Hi (s:=s) (a:=a) rK;have:=vg (Bd h hc hb hr) bP;omega
    | false=>have:=E1 h hc hb hr;omega
end
def xC:List ByteArray:=[⟨#[61,61]⟩,⟨#[33,61]⟩,⟨#[60,61]⟩,⟨#[38,38]⟩,⟨#[124,124]⟩]
def ml(s:ByteArray)(a:Nat)(c:UInt8):Int:=if xC.any (wo s a)=true then 2 else if (fK (ia #[40,41,123,125,59,44,61,60,33,43,45,42,47,37])).any (λx=>decide ((x.toNat:Int)=c.toNat))=true then 1 else 0
def ox(l:List aW)(i:Int)(t:ByteArray):Bool:=decide (0<=i)&&(match l[i.toNat]? with|some x=>decide (x.text=t)&&decide (x.kind≠2)&&decide (1<=x.kind)&&decide (x.kind<=3)|none=>false)
def jK(l:List aW)(i:Int):Int:=match (if 0<=i then l[i.toNat]? else none)with
 | some x=>x.at_
 | none=>match l.getLast? with
  | some x=>x.at_+x.text.size
  | none=>0
def Tq:∀t∈xC,t.size<=1000000:=ea
def nJ{l:List aW}{i:Int}{t:ByteArray}(h:ox l i t=true):0<=i/\i<l.length:=by
 unfold ox at h
 grind
def C283(s t:ByteArray)(i:Int)(w:World)(I:s.size<=1000000)(G:t.size<=1000000)(J:0<=i/\i<=2000000):CR 283 [.string s,hZ i,.string t] w (λv w'=>v=.bool (wo s i t)/\Ext w w'):=by
 have B:=St.start w;refine eR Tryz.func283 ?_;refine⟨λu w'=>u=.bool (wo s i t)/\w=w',eP gN (aM bP (eP gN (gL (aC (λ_=>eP gN (aM bP (DP gN bP bP bP (fz ⟨vb (by unfold wo;grind),rfl⟩)))) λ_=>⟨vb (by unfold wo;grind),rfl⟩)))),?_⟩;rintro _ _ ⟨rfl,E⟩ _;subst E;exact⟨rfl,B.aF⟩
theorem C192(s:ByteArray)(i N r:Nat)(w:World)(U:s.size<=4000)(h0:i<=s.size)(hr:iF s N i=some r):CR 192 [.string s,hZ (i:Int)] w (λv w'=>v=hZ (r:Int)/\Ext w w'):=by
 have hz0:=U;replace U:s.size<=1000000:=bP
 have u:=St.start w;refine eR Tryz.func192 ?_;refine⟨λG x J=>∃a:Nat,x=hZ (a:Int)/\a<=s.size/\iF s G a=some r/\St w bF [] J,⟨N,i,rfl,h0,hr,u⟩,?_⟩;rintro G _ J ⟨a,rfl,ha,E,u⟩ _;obtain⟨k,rfl⟩:=Hh E;refine eP gN (aQ (aC (λj6=>?_) λj6=>?_))
 .obtain⟨NW,I⟩:∃V,(fK s)[(a:Int).toNat]?=some V:=⟨_,kB (by rw[dY];omega)⟩;refine gR gN bP I ⟨λZ w'=>Z=.bool (oS NW)/\J=w',kR (aC (λ_=>⟨vb (by unfold oS;first|exact(fY bP).symm|exact ga.2 bP),rfl⟩) λ_=>kR (aC (λ_=>⟨vb (by unfold oS;first|exact(fY bP).symm|exact ga.2 bP),rfl⟩) λ_=>kR (aC (λ_=>⟨vb (by unfold oS;first|exact(fY bP).symm|exact ga.2 bP),rfl⟩) λ_=>kR ⟨vb (by unfold oS;first|exact(fY bP).symm|exact ga.2 bP),rfl⟩))),?_⟩
  rintro _ _ ⟨rfl,W⟩ _;subst W;refine bD (λO=>?_) (λO=>aR Us u (C283 s (ia #[47,47]) (a:Int) _ U ea bP) λ_ he u=>bD (λn8=>?_) λn8=>?_)
  .refine aM bP ?_;have U9:=mq I;exact⟨k,bP,a+1,rfl,bP,wY E I O,u⟩
  .refine⟨λG x J=>∃j:Nat,x=hZ (j:Int)/\G=s.size-j/\a<=j/\j<=s.size/\qI rK s a=qI rK s j/\St w bF [] J,⟨_,a,rfl,rfl,om _,ha,rfl,u⟩,?_⟩;rintro G _ w4 ⟨j,rfl,rfl,haj,hj,gi,u⟩ _;refine⟨λZ w'=>Z=.bool (match (fK s)[j]? with|some c=>rK c|none=>false)/\w4=w',eP gN (aQ (aC (λkr=>?_) λkr=>⟨vb (by first|(rw[show(fK s)[j]?=some va from Y];unfold rK;exact ga.2 bP)|(rw[l2 (by rw[dY];omega)])),rfl⟩)),?_⟩
   .obtain⟨va,Y⟩:∃V,(fK s)[(j:Int).toNat]?=some V:=⟨_,kB (by rw[dY];omega)⟩;exact gR gN bP Y (Ni ⟨vb (by first|(rw[show(fK s)[j]?=some va from Y];unfold rK;exact ga.2 bP)|(rw[l2 (by rw[dY];omega)])),rfl⟩)
   rintro _ _ ⟨rfl,W⟩ _;subst W;refine bD (λB=>?_) (λB=>?_)
   .refine aM bP ?_
    have M:∃c,(fK s)[j]?=some c/\rK c=true:=by
     cases hc:(fK s)[j]? with
     | none=>rw[hc]at B;cases B
     | some c=>rw[hc]at B;exact⟨c,rfl,B⟩
    obtain⟨cj,xD,Lr⟩:=M;have LZ:=mq xD;exact⟨_,bP,j+1,rfl,rfl,bP,bP,gi.trans (zy xD Lr),u⟩
   have aiW:qI rK s j=j:=by
    by_cases Sc:j<s.size
    .obtain⟨cj,M⟩:∃c,(fK s)[j]?=some c:=⟨_,kB (by rw[dY];exact Sc)⟩;rw[M]at B;exact zz M B
    .exact CD bP
   have VU:=Bd E I O n8;rw[gi,aiW]at VU;exact⟨k,bP,j,rfl,hj,VU,u⟩
  have hx:=E1 E I O (by exact_mod_cast n8);subst hx;exact⟨rfl,u.aF⟩
 have hx:=Lq E bP;subst hx;exact⟨rfl,u.aF⟩
def C195(s:ByteArray)(i:Nat)(c:UInt8)(w:World)(hz:s.size<=1000000)(hc:(fK s)[i]?=some c):CR 195 [.string s,hZ (i:Int)] w (λv w'=>v=hZ (ml s i c)/\Ext w w'):=by
 have hi:=mq hc;have u:=St.start w;refine qg Tryz.func195 (pl:=agq) ?_;refine bK xC u iN rfl rfl (dQ rfl) (λadv I u=>?_);refine⟨λE x I=>∃k:Nat,x=hZ (k:Int)/\E=xC.length-k/\k<=xC.length/\(∀y∈xC.take k,wo s i y=false)/\St w bF [bH adv xC] I,⟨_,0,rfl,rfl,mj _,ew,u⟩,?_⟩;rintro E _ _ ⟨k,rfl,rfl,hk,B,u⟩ _;refine aI iN u.eS ?_;have Kk:xC.length=5:=rfl;refine aQ (aC (λuL=>?_) λuL=>?_)
 .obtain⟨O,G⟩:=gx xC (i:=(k:Int).toNat) bP;exact ed u iN bP bP (λ_ W=>gM u jZ W G (aR Us u (C283 s O (i:Int) _ hz (Tq _ (l0 G)) bP) λ_ _ u=>bD (λU=>⟨gl (mf .i64) (by unfold ml;rw[fh (nj G U)]),u.drop.aF⟩) λU=>aM bP ⟨_,bP,k+1,rfl,rfl,bP,eC B G U,u⟩))
 have u:=u.drop;refine⟨λE x I=>∃j:Nat,x=hZ (j:Int)/\E=(ia #[40,41,123,125,59,44,61,60,33,43,45,42,47,37]).size-j/\j<=(ia #[40,41,123,125,59,44,61,60,33,43,45,42,47,37]).size/\(∀y∈(fK (ia #[40,41,123,125,59,44,61,60,33,43,45,42,47,37])).take j,decide ((y.toNat:Int)=c.toNat)=false)/\St w bF [] I,⟨_,0,rfl,rfl,mj _,ew,u⟩,?_⟩;rintro E _ _ ⟨j,rfl,rfl,hj,Xy,u⟩ _;refine eP gN ?_;have N3:(ia #[40,41,123,125,59,44,61,60,33,43,45,42,47,37]).size=14:=rfl;refine aQ (aC (λuX=>?_) λuX=>?_)
 .obtain⟨Y,J⟩:∃V,(fK (ia #[40,41,123,125,59,44,61,60,33,43,45,42,47,37]))[(j:Int).toNat]?=some V:=⟨_,kB (by rw[dY];omega)⟩;refine gR gN bP J ?_;obtain⟨qt,oO⟩:∃V,(fK s)[(i:Int).toNat]?=some V:=⟨_,kB (by rw[dY];omega)⟩;refine gR gN bP oO ?_;obtain rfl:=nM.inj (oO.symm.trans hc);refine kR (aC (λM=>?_) λM=>aM bP (have u:=u.drew;⟨_,bP,j+1,rfl,rfl,bP,eC Xy J (fZ M),u⟩));have u:=u.drew;have Z:xC.any (wo s i)=false:=nk (by rw[kO bP]at B;exact B)
  exact⟨gl (mf .i64) (by unfold ml;rw[fg (by rw[Z];simp),fh (nj J (fY M))]),u.aF⟩
 have Z:xC.any (wo s i)=false:=nk (by rw[kO bP]at B;exact B);have Sr:=nk (g:=λx:UInt8=>decide ((x.toNat:Int)=c.toNat)) (by rw[kO (by rw[dY];omega)]at Xy;exact Xy);exact⟨gl (mf .i64) (by unfold ml;rw[fg (by rw[Z];simp),fg (by rw[Sr];simp)]),u.aF⟩
def C196(lv:Value)(l:List aW)(i:Int)(t:ByteArray)(w:World)(E:dy (λ_=>True) w lv l)(hn:l.length<=1000000):CR 196 [lv,hZ i,.string t] w (λv w'=>v=.bool (ox l i t)/\Ext w w'):=by
 have B:=St.start w;refine eR Tryz.func196 ?_;refine⟨λjv w'=>jv=.bool (ox l i t)/\w=w',cJ (aC (λV=>aI ey (E.ext B.aF) (aQ (aC (λuL=>?_) λuL=>⟨vb (by unfold ox;first|(rw[u];grind)|(rw[fZ bP];rfl)|(rw[l2 bP];simp)),rfl⟩))) λV=>⟨vb (by unfold ox;first|(rw[u];grind)|(rw[fZ bP];rfl)|(rw[l2 bP];simp)),rfl⟩),?_⟩
 .obtain⟨G,u⟩:=gx l (i:=(i).toNat) bP;refine aY ey E bP u (λ_ J=>cU G.text jR J rfl rfl λ_ M=>aE jZ (M.ext B.aF) (fz (aC (λU=>?_) λU=>⟨vb (by unfold ox;first|(rw[u];grind)|(rw[fZ bP];rfl)|(rw[l2 bP];simp)),rfl⟩)));refine aY ey E bP u (λ_ Pw=>?_);exact cU G.kind iO Pw rfl rfl (λ_ Px=>aE bL (Px.ext B.aF) (cB (aC (λZ=>aY ey E bP u λ_ I=>cU G.kind iO I rfl rfl λ_ Y=>aE bL (Y.ext B.aF) (cJ (aC (λW=>aY ey E bP u λ_ O=>cU G.kind iO O rfl rfl λ_ zA=>aE bL (zA.ext B.aF) (gL ⟨vb (by unfold ox;first|(rw[u];grind)|(rw[fZ bP];rfl)|(rw[l2 bP];simp)),rfl⟩)) λW=>⟨vb (by unfold ox;first|(rw[u];grind)|(rw[fZ bP];rfl)|(rw[l2 bP];simp)),rfl⟩))) λZ=>⟨vb (by unfold ox;first|(rw[u];grind)|(rw[fZ bP];rfl)|(rw[l2 bP];simp)),rfl⟩)))
 rintro _ _ ⟨rfl,hw⟩ _;subst hw;exact⟨rfl,B.aF⟩
def C201(lv:Value)(l:List aW)(i:Int)(w:World)(B:dy (λ_=>True) w lv l)(hn:l.length<=1000000)(qK:∀x∈l,0<=x.at_/\x.at_<=1000000/\x.text.size<=1000000):CR 201 [lv,hZ i] w (λv w'=>v=hZ (jK l i)/\Ext w w'):=by
 have u:=St.start w;refine qg Tryz.func201 (pl:=agt) ?_;refine⟨λjv w'=>jv=.bool (decide (0<=i/\i<l.length))/\w=w',cJ (aC (λ_=>aI ey (B.ext u.aF) (aQ ⟨xh bP,rfl⟩)) λ_=>⟨QY bP,rfl⟩),?_⟩;rintro _ _ ⟨rfl,hw⟩ _;subst hw;refine aC (λZ=>?_) (λZ=>aI ey (B.ext u.aF) (aG (aC (λY=>?_) λY=>?_)))
 .obtain⟨O,V⟩:=gx l (i:=(i).toNat) bP;exact aY ey B bP V (λ_ N7=>cU O.at_ iP N7 rfl rfl λ_ G=>aE bL (G.ext u.aF) ⟨gl (mf .i64) (by unfold jK;rw[fh bP,V]),u.aF⟩)
 .have U:l=[]:=pP.1 bP;subst U;exact⟨gl (mf .i64) (by unfold jK;split<;>simp_all),u.aF⟩
 refine aI ey (B.ext u.aF) (fk bP ?_);obtain⟨I,E⟩:=gx l (i:=((l.length:Int)-1).toNat) bP;refine aY ey B bP E (λ_ O8=>cU I.at_ iP O8 rfl rfl λ_ J=>have u:=u.drew;aE bL (J.ext u.aF) (aI ey (B.ext u.aF) (fk bP (aY ey B bP E λ_ Ev=>cU I.text jR Ev rfl rfl λ_ AT=>aE jZ (AT.ext u.aF) (eP gN ?_)))));have hax:=qK _ (l0 E);refine aM bP ?_;have M:l.getLast? = some I:=by rw[List.getLast?_eq_getElem?,<- E];congr 1;omega
 have W:(if 0<=i then l[i.toNat]? else none)=none:=by split;exact l2 bP;rfl
 exact⟨gl (mf .i64) (by unfold jK;rw[W,M]),u.aF⟩
def numOf(s:ByteArray)(a k:Nat):Int:=(((fK s).drop a).take (k-a)).foldl (λn c=>if n<=4294967296 then 10*n+((c.toNat:Int)-48)else n) 0
theorem Jp(s:ByteArray)(a:Nat):numOf s a a=0:=by unfold numOf;grind
theorem tI{s:ByteArray}{a k:Nat}{c:UInt8}(u:a<=k)(h:(fK s)[k]?=some c):numOf s a (k+1)=if numOf s a k<=4294967296 then 10*numOf s a k+((c.toNat:Int)-48)else numOf s a k:=by
 unfold numOf
 rw[show k+1-a=(k-a)+1 from bP,tx,Dk,show a+(k-a)=k from bP,h,Option.toList_some,x6]
 rfl
theorem Tr{s:ByteArray}{a:Nat}:∀{k:Nat},a<=k->k<=s.size->(∀j c,a<=j->j<k->(fK s)[j]?=some c->48<=(c.toNat:Int)/\(c.toNat:Int)<=57)->0<=numOf s a k/\numOf s a k<=42949672969:=by
 intro k
 induction k with
 | zero=>
  grind[fK,numOf]
 | succ k B=>
  intro G E u
  by_cases e:a=k+1
  .subst e;rw[Jp];omega
  .have:=B bP bP λj c h1 h2=>u j c h1 bP
   obtain⟨c,hc⟩:∃c,(fK s)[k]?=some c:=⟨_,kB (by rw[dY];omega)⟩
   have h2:=u k c bP bP hc
   rw[tI bP hc]
   omega
def jq(s:ByteArray):Nat->Nat->List aW->Option (List aW×Int×Int)
 | 0,_,_=>none
 | n+1,a,out=>match (fK s)[a]? with
  | none=>some (out,0,0)
  | some c=>
   if fa c.toNat=true then(if 16<qI nI s a-a then some ([],2,(a:Int))else(iF s (s.size+1) (qI nI s a)).bind λu=>jq s n u (out++[⟨1,s.extract a (qI nI s a),0,a⟩]))
   else if gZ c.toNat=true then(if 4294967296<numOf s a (qI qJ s a)then some ([],4,(a:Int))else(iF s (s.size+1) (qI qJ s a)).bind λu=>jq s n u (out++[⟨2,s.extract a (qI qJ s a),numOf s a (qI qJ s a),a⟩]))
   else if ml s a c=0 then some ([],3,(a:Int))else(iF s (s.size+1) (a+(ml s a c).toNat)).bind λu=>jq s n u (out++[⟨3,s.extract a (a+(ml s a c).toNat),0,a⟩])
def qx(s:ByteArray):Option (List aW×Int×Int):=if 4000<s.size then some ([],2,4000)else(iF s (s.size+1) 0).bind λa=>jq s (s.size+2) a []
theorem Hk{s:ByteArray}{n a:Nat}{out:List aW}{r:List aW×Int×Int}(h:jq s n a out=some r):∃k,n=k+1:=by
 cases n with
 | zero=>cases h
 | succ k=>grind
def sn(s:ByteArray)(k a:Nat)(out:List aW)(R:List aW×Int×Int)(B:Int)(e:Nat)(n:Int):Prop:=a<e/\e<=s.size/\∃u,iF s (s.size+1) e=some u/\jq s k u (out++[⟨B,s.extract a e,n,a⟩])=some R
section
variable {s:ByteArray}{k a:Nat}{c:UInt8}{out:List aW}{R:List aW×Int×Int}
theorem Ls(h:jq s (k+1) a out=some R)(u:s.size<=a):R=(out,0,0):=by
 unfold jq at h;rw[l2 (by rw[dY];exact u)]at h;grind
theorem Ae(h:jq s (k+1) a out=some R)(hc:(fK s)[a]?=some c)(u:fa c.toNat=true)(hb:16<qI nI s a-a):R=([],2,(a:Int)):=by
 unfold jq at h;grind
theorem wq{e:Nat}{B n:Int}(h:((iF s (s.size+1) e).bind λu=>jq s k u (out++[⟨B,s.extract a e,n,a⟩]))=some R)(h1:a<e)(h2:e<=s.size):sn s k a out R B e n:=by
 cases hp:iF s (s.size+1) e with
 | none=>grind
 | some u=>grind[sn]
theorem Lt(h:jq s (k+1) a out=some R)(hc:(fK s)[a]?=some c)(B:fa c.toNat=true)(hb:¬ 16<qI nI s a-a)(u:a<qI nI s a):sn s k a out R 1 (qI nI s a) 0:=by
 unfold jq at h;rw[hc]at h;dsimp only at h;rw[fh B,fg hb]at h
 have:=mq hc;have h2:=Hi (s:=s) (a:=a) nI
 exact wq h u bP
theorem CF(h:jq s (k+1) a out=some R)(hc:(fK s)[a]?=some c)(B:fa c.toNat=false)(u:gZ c.toNat=true)(hb:4294967296<numOf s a (qI qJ s a)):R=([],4,(a:Int)):=by
 unfold jq at h;grind
theorem PA(h:jq s (k+1) a out=some R)(hc:(fK s)[a]?=some c)(E:fa c.toNat=false)(u:gZ c.toNat=true)(hb:¬ 4294967296<numOf s a (qI qJ s a))(B:a<qI qJ s a):sn s k a out R 2 (qI qJ s a) (numOf s a (qI qJ s a)):=by
 unfold jq at h;rw[hc]at h;dsimp only at h;rw[fg cR,fh u,fg hb]at h
 have:=mq hc;have h2:=Hi (s:=s) (a:=a) qJ
 exact wq h B bP
theorem Lu(h:jq s (k+1) a out=some R)(hc:(fK s)[a]?=some c)(B:fa c.toNat=false)(u:gZ c.toNat=false)(hb:ml s a c=0):R=([],3,(a:Int)):=by
 unfold jq at h;grind
theorem PB(s:ByteArray)(a:Nat)(c:UInt8):ml s a c=0\/ml s a c=1\/ml s a c=2:=by
 grind[ml]
theorem Jq{s:ByteArray}{a:Nat}{c:UInt8}(h:(fK s)[a]?=some c):(a:Int)+ml s a c<=s.size:=by
 have B:=mq h
 unfold ml
 split
 .rename_i h2
  rw[List.any_eq_true]at h2
  obtain⟨t,ht,hb⟩:=h2
  have:t.size=2:=by
   have u:∀t∈xC,t.size=2:=ea
   grind
  unfold wo at hb
  grind
 omega
theorem Lv(h:jq s (k+1) a out=some R)(hc:(fK s)[a]?=some c)(B:fa c.toNat=false)(u:gZ c.toNat=false)(hb:¬ ml s a c=0):sn s k a out R 3 (a+(ml s a c).toNat) 0:=by
 unfold jq at h;rw[hc]at h;dsimp only at h;rw[fg cR,fg cR,fg hb]at h
 have h1:=PB s a c;have h2:=Jq hc
 exact wq h bP bP
end
theorem C100(s:ByteArray)(R:List aW×Int×Int)(w:World)(Q6:s.size<=1000000)(Z:qx s=some R):CR 100 [.string s] w (λv w'=>∃o,v=.tuple #[o,hZ R.2.1,hZ R.2.2]/\mD (bH o R.1) w w'):=by
 have u:=St.start w;refine Rq _ _ _ ?_;unfold S100;refine eP gN (dL (aC (λiQ=>?_) λiQ=>?_))
 .have W:([],2,4000)=R:=by unfold qx at Z;rw[fh bP]at Z;exact nM.inj Z
  subst W;exact⟨_,rfl,u.eD.fresh⟩
 have h4:s.size<=4000:=bP
 obtain⟨a0,ha0,FM⟩:∃a0,iF s (s.size+1) 0=some a0/\jq s (s.size+2) a0 []=some R:=by
  unfold qx at Z;rw[fg bP]at Z;cases hq:iF s (s.size+1) 0 with
  | none=>rw[hq]at Z;cases Z
  | some a0=>rw[hq]at Z;exact⟨a0,rfl,Z⟩
 have aiX:=vg ha0 bP;refine bK ([]:List aW) u ey rfl rfl (dQ rfl) (λs_x12 _ u=>aR Uo u (C192 s 0 (s.size+1) a0 _ bP bP ha0) λ_ he u=>?_);refine⟨λmm o x w'=>∃(a:Nat) (out:List aW),x=hZ (a:Int)/\a<=s.size/\out.length<=a/\jq s mm a out=some R/\St w bF [bH o out] w',⟨_,a0,[],rfl,aiX.2,mj _,FM,u⟩,?_⟩;rintro mm pL _ _ ⟨a,out,rfl,ha,N3,hp,u⟩ _;obtain⟨k,rfl⟩:=Hk hp;refine eP gN (aQ (aC (λl8=>pop (MY _) (aK u RO λLw _ u=>aH (x:=(⟨0,(ia #[]),0,(a:Int)⟩:aW)) u UB rfl rfl λ_ u=>⟨λto w'=>∃(kd:Int) (e:Nat) (n:Int),to=hZ (e:Int)/\sn s k a out R kd e n/\St w bF [bM Lw (jn (⟨kd,ia #[],n,(a:Int)⟩:aW)),bH pL out] w',?_,?_⟩)) λl8=>?_))
 .obtain⟨fI,jH⟩:∃xx,(fK s)[(a:Int).toNat]?=some xx:=⟨_,kB (by rw[dY];omega)⟩;refine gR gN bP jH ?_;have I:(fK s)[a]?=some fI:=jH;refine aR Ig u (C193 _ _) (λ_ he u=>bD (λkx=>?_) λkx=>?_)
  .have SF:=kx;refine aA iO (aO u bL (dQ rfl) (rfl) λ_ u=>?_);have u:=u.enc (cs':=jn ({ (⟨0,(ia #[]),0,(a:Int)⟩:aW)with kind:=1}:aW)) rfl;have u:=u.p1.p1;refine⟨λmm x w'=>∃j:Nat,x=hZ (j:Int)/\mm=s.size-j/\a<=j/\j<=s.size/\qI nI s a=qI nI s j/\St w bF [bM Lw (jn (⟨1,ia #[],0,(a:Int)⟩:aW)),bH pL out] w',⟨_,a,rfl,rfl,om _,ha,rfl,u⟩,?_⟩;rintro mm _ _ ⟨j,rfl,rfl,J,hj,B,u⟩ _;refine⟨λjv w'=>jv=.bool (match (fK s)[j]? with|some c=>nI c|none=>false)/\St w bF [bM Lw (jn (⟨1,ia #[],0,(a:Int)⟩:aW)),bH pL out] w',eP gN (aQ (aC (λlf=>?_) λlf=>⟨vb (by first|(rw[show(fK s)[j]?=some G from oO];show _=(fa G.toNat||gZ G.toNat);rw[kr];rfl)|(rw[l2 (by rw[dY];omega)])),u⟩)),?_⟩
   .obtain⟨G,oO⟩:∃xx,(fK s)[(j:Int).toNat]?=some xx:=⟨_,kB (by rw[dY];omega)⟩;refine gR gN bP oO ?_;have hcj0:(fK s)[j]?=some G:=oO;exact aR Ig u (C193 _ _) (λ_ he u=>bD (λkr=>⟨vb (by first|(rw[show(fK s)[j]?=some G from oO];show _=(fa G.toNat||gZ G.toNat);rw[kr];rfl)|(rw[l2 (by rw[dY];omega)])),u⟩) λkr=>gR gN bP oO (aR Ih u (C194 _ _) λ_ he u=>⟨vb (by first|(rw[show(fK s)[j]?=some G from oO];show _=(fa G.toNat||gZ G.toNat);rw[kr];rfl)|(rw[l2 (by rw[dY];omega)])),u⟩))
   rintro _ _ ⟨rfl,u⟩ _;refine bD (λV=>?_) (λV=>?_)
   .refine aM bP ?_
    have Y:∃c,(fK s)[j]?=some c/\nI c=true:=by
     cases hc:(fK s)[j]? with
     | none=>rw[hc]at V;cases V
     | some c=>rw[hc]at V;exact⟨c,rfl,V⟩
    obtain⟨cj,M,Lr⟩:=Y;have LZ:=mq M;exact⟨_,bP,j+1,rfl,rfl,bP,bP,B.trans (zy M Lr),u⟩
   have O:qI nI s j=j:=by
    by_cases Sc:j<s.size
    .obtain⟨cj,Y⟩:∃c,(fK s)[j]?=some c:=⟨_,kB (by rw[dY];exact Sc)⟩;rw[Y]at V;exact zz Y V
    .exact CD bP
   refine fk bP (dL (aC (λIV=>?_) λIV=>?_))
   .have u:=u.drop.drop;have W:=Ae hp I SF (by rw[B,O];omega);subst W;exact⟨_,rfl,u.eD.fresh⟩
   have u:=u.p1.p1
   have Xz:a<j:=by
    rcases O9 a j with h|h
    .exact h
    .obtain rfl:j=a:=bP
     rw[I]at V;have h9:nI fI=false:=V;unfold nI at h9;rw[SF]at h9;cases h9
   have E:=Lt hp I SF (by rw[B,O];omega) (by rw[B,O];exact Xz);rw[B,O]at E;exact⟨1,j,0,rfl,E,u⟩
  have SF:=kx;refine gR gN bP jH (aR Ih u (C194 _ _) λ_ he u=>bD (λA8=>?_) λA8=>?_)
  .have Zx:=A8;refine aA iO (aO u bL (dQ rfl) (rfl) λ_ u=>?_);have u:=u.enc (cs':=jn ({ (⟨0,(ia #[]),0,(a:Int)⟩:aW)with kind:=2}:aW)) rfl;have u:=u.p1.p1;refine⟨λmm x w'=>∃j:Nat,x=hZ (j:Int)/\mm=s.size-j/\a<=j/\j<=s.size/\qI qJ s a=qI qJ s j/\(∀(i:Nat) (c:UInt8),a<=i->i<j->(fK s)[i]?=some c->48<=(c.toNat:Int)/\(c.toNat:Int)<=57)/\St w bF [bM Lw (jn (⟨2,ia #[],(numOf s a j),(a:Int)⟩:aW)),bH pL out] w',⟨_,a,rfl,rfl,om _,ha,rfl,λ_ _ h1 _=>absurd h1 bP,by rw[Jp];exact u⟩,?_⟩;rintro mm _ _ ⟨j,rfl,rfl,J,hj,B,hdg,u⟩ _
   refine⟨λjv w'=>jv=.bool (match (fK s)[j]? with|some c=>qJ c|none=>false)/\St w bF [bM Lw (jn (⟨2,ia #[],(numOf s a j),(a:Int)⟩:aW)),bH pL out] w',eP gN (aQ (aC (λE2=>?_) λE2=>⟨vb (by first|(rw[show(fK s)[j]?=some VA from Hl];rfl)|(rw[l2 (by rw[dY];omega)])),u⟩)),?_⟩
   .obtain⟨VA,Hl⟩:∃xx,(fK s)[(j:Int).toNat]?=some xx:=⟨_,kB (by rw[dY];omega)⟩;exact gR gN bP Hl (aR Ih u (C194 _ _) λ_ he u=>⟨vb (by first|(rw[show(fK s)[j]?=some VA from Hl];rfl)|(rw[l2 (by rw[dY];omega)])),u⟩)
   rintro _ _ ⟨rfl,u⟩ _;refine bD (λU=>?_) (λU=>?_)
   .have Y:∃c,(fK s)[j]?=some c/\qJ c=true:=by
     cases hc:(fK s)[j]? with
     | none=>rw[hc]at U;cases U
     | some c=>rw[hc]at U;exact⟨c,rfl,U⟩
    obtain⟨cj,M,Lr⟩:=Y;have LZ:=mq M;have hcd:=Lr;unfold qJ gZ at hcd;rw[decide_eq_true_eq]at hcd;have hnb:=Tr J bP hdg;refine⟨λw'=>St w bF [bM Lw (jn (⟨2,ia #[],(numOf s a (j+1)),(a:Int)⟩:aW)),bH pL out] w',aA m9 (aB (v:=hZ (numOf s a j)) bL u.hb rfl (gL (aC (λPH=>?_) λPH=>?_))),?_⟩
    .refine aA m9 (have u:=u.drew;aB (v:=hZ (numOf s a j)) bL u.hb rfl (Il bP ?_));obtain⟨adC,PI⟩:∃xx,(fK s)[(j:Int).toNat]?=some xx:=⟨_,kB (by rw[dY];omega)⟩;refine gR gN bP PI ?_;obtain rfl:=nM.inj (PI.symm.trans (show(fK s)[(j:Int).toNat]?=some cj from M));refine Ph bP (Li agP Dz bP (aM bP (aA m9 (aO u bL (dQ rfl) (rfl) λ_ u=>?_))));have u:=u.enc (cs':=jn ({ (⟨2,ia #[],(numOf s a j),(a:Int)⟩:aW)with n:=((10*(numOf s a j))+((adC.toNat:Int)-48))}:aW)) rfl
     have u:=u.p1.p1;rw[tI J M,fh PH];exact u
    .have u:=u.p1.p1;rw[tI J M,fg PH];exact u
    intro _ u _;refine aM bP ?_
    exact⟨_,bP,j+1,rfl,rfl,bP,bP,B.trans (zy M Lr),λi c h1 h2 h3=>by
     by_cases e:i=j
     .subst e;obtain rfl:=nM.inj (h3.symm.trans M);omega
     .exact hdg i c h1 bP h3,u⟩
   have O:qI qJ s j=j:=by
    by_cases Sc:j<s.size
    .obtain⟨cj,Y⟩:∃c,(fK s)[j]?=some c:=⟨_,kB (by rw[dY];exact Sc)⟩;rw[Y]at U;exact zz Y U
    .exact CD bP
   refine aA m9 (aB (v:=hZ (numOf s a j)) bL u.hb rfl (dL (aC (λadD=>?_) λadD=>?_)))
   .have u:=u.drop.drop;have W:=CF hp I SF Zx (by rw[B,O];omega);subst W;exact⟨_,rfl,u.eD.fresh⟩
   have u:=u.p1.p1
   have Xz:a<j:=by
    rcases O9 a j with h|h
    .exact h
    .obtain rfl:j=a:=bP
     rw[I]at U;have h9:qJ fI=false:=U;unfold qJ at h9;rw[Zx]at h9;cases h9
   have E:=PA hp I SF Zx (by rw[B,O];omega) (by rw[B,O];exact Xz);rw[B,O]at E;exact⟨2,j,_,rfl,E,u⟩
  have Zx:=A8;have hsb:=PB s a fI;have hsi:=Jq I;refine aA iO (aO u bL (dQ rfl) (rfl) λ_ u=>have u:=u.enc (cs':=jn ({ (⟨0,(ia #[]),0,(a:Int)⟩:aW)with kind:=3}:aW)) rfl;aR Z6 u (C195 s a fI _ Q6 I) λ_ he u=>aM bP (aG (aC (λadE=>?_) λadE=>?_)))
  .have u:=u.drop.drop;have W:=Lu hp I SF Zx bP;subst W;exact⟨_,rfl,u.eD.fresh⟩
  have u:=u.p1.p1;have E:=Lv hp I SF Zx bP;exact⟨3,a+(ml s a fI).toNat,0,by congr 1;omega,E,u⟩
 .rintro _ _ ⟨kd,e,n,rfl,E,u⟩ _;have aiY:=E;obtain⟨h1e0,h2e0,_⟩:=aiY;refine DP gN bP bP bP (aA jR (aO u jZ (dQ rfl) (rfl) λ_ u=>have u:=u.enc (cs':=jn ({ (⟨kd,ia #[],n,(a:Int)⟩:aW)with text:=(s.extract (a:Int).toNat (e:Int).toNat)}:aW)) rfl;aE UB u.At (bK ([(⟨kd,s.extract (a:Int).toNat (e:Int).toNat,n,(a:Int)⟩:aW)]) u ey rfl rfl (dQ rfl) λXA _ u=>?_)));have Ts:=u.eS;refine cO u.p2 ey Ts (by simp;omega) ea (λXB _ u=>?_);have u:=u.p1.drop;obtain⟨h1e,h2e,a2,Zj,VU⟩:=E
  have aiZ:=vg Zj h2e;exact aR Uo u (C192 s e (s.size+1) a2 _ bP bP Zj) (λ_ _ u=>have u:=u.p1.drop;⟨k,bP,a2,_,rfl,aiZ.2,by simp;omega,VU,u⟩)
 have W:=Ls hp bP;subst W;exact⟨_,rfl,u.fresh⟩
end Go.Proofs.YtdncbeepkacgbaaGreatDoor

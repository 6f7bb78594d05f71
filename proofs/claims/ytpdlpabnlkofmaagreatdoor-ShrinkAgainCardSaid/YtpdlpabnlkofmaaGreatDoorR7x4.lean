/-
  Part 4.
-/
import Derived.Test.YtpdlpabnlkofmaaGreatDoorR7x3
set_option maxHeartbeats 8000000
set_option linter.all false
set_option maxRecDepth 100000
open Go.Fw.Flat renaming val->hM,enc->hZ,sz->l2
open ByteArray renaming mk->ia,size_extract->abo
open List renaming getElem?_eq_some_iff->j0,mem_of_getElem?->kp,take_of_length_le->kE,getElem?_eq_getElem->kO,length_append->kU,length_take->lY,length_singleton->l0,length_map->mE,append_assoc->nk,mem_map->n5,mem_cons_self->oi,getElem?_map->oj,mem_append->oF,take_append_drop->o6,mem_cons_of_mem->pd,length_drop->qa,replicate->qV,mem_cons->sk,getElem?_append_right->sK,drop_drop->sZ,getElem?_append_left->s4,mem_singleton->ua,drop_eq_nil_of_le->u1,map_append->vf,any_eq_true->v7,eraseIdx_eq_take_drop_succ->we,range->wx,mem_of_mem_take->wE,mem_iff_getElem?->xj,filter_append->zW,map_congr_left->Af,nil_append->BF,range_succ->Hr,map_map->H4,nodup_cons->JG,map_cons->KM,flatMap_append->K0,mem_range->Lo,length_eraseIdx_of_lt->NJ,mem_filter->N8,any_append->Qz,pairwise_iff_getElem->RC,any_cons->TK,getElem_mem->TL,pairwise_map->aah,any_nil->aai,nodup_append->aaj,take_length->aav
open Nat renaming zero_le->la,le_refl->o1,le_of_eq->zH,add_sub_cancel_left->Gh,add_assoc->NP,lt_or_ge->P2
open Go.Fw.Deep renaming dr->mv,ext->Mt
open Go.Value renaming int->ng
open Go.Instr renaming sliceAt->nT,mapUpdate->xk,lookup->x7,box->yB,keyThatStays->OI
open Bool renaming and_eq_true->n3,not_eq_true'->sl,or_eq_true->xr,true_and->Bt,eq_iff_iff->JE,false_and->U2,or_false->Vl
open Option renaming some->n4,map_eq_some_iff->H5
open Int renaming toNat_natCast->qb,mul_le_mul->Jh,add_comm->abp
open Array renaming getElem?_eq_some_iff->Ei
open Prod renaming fst->aad
namespace Go.Proofs.YtpdlpabnlkofmaaGreatDoor
open Go.Fw
def oD(s:ByteArray):ByteArray:=s.extract 0 (min (s.size:Int) 40).toNat
def pR(s:ByteArray):(oD s).size<=40:=by
 unfold oD
 rw[abo];omega
def aer(x:bZ):bZ:={x with name:=oD x.name}
def yN(l:List bZ):List bZ:=(l.take 60).map aer
def Tb(x:bP):bP:=⟨x.kind,oD x.eD,oD x.name,yN x.e,yN x.f,x.n,x.body,x.et,x.at_⟩
def FC(l:List bP):List bP:=(l.take 50).map Tb
def aes(c:cI):cI:={c with name:=oD c.name}
def jz(l:List cI):List cI:=(l.take 8).map aes
def zh(t:cM):cM:=⟨oD t.name,(t.dQ.take 6).map oD,FC t.body,t.at_⟩
def kW(l:List cM):List cM:=(l.take 4).map zh
def FD(c:gV):gV:=⟨yN c.e,c.at_⟩
def sE(p:cA):cA:=⟨(p.lines.take 6).map jz,jz p.iO,jz p.eI,kW p.threads,kW p.recover,(p.eb.take 6).map FD⟩
theorem sF{α:Type}{xs:List α}{k m:Nat}(h:k<=m)(h2:k<=xs.length)(h3:¬ (k<xs.length/\k<m)):xs.take k=xs.take m:=by
 grind
def FE(l:List bZ):(yN l).length<=60:=by grind[yN]
def JS(l:List bZ):∀y∈yN l,y.name.size<=1048576:=by
 intro y u
 obtain⟨x,_,rfl⟩:=n5.1 u
 have:=pR x.name
 show(oD x.name).size<=_
 omega
def FG(l:List cI):∀y∈jz l,y.name.size<=1048576:=by
 intro y u
 obtain⟨x,_,rfl⟩:=n5.1 u
 have:=pR x.name
 show(oD x.name).size<=_
 omega
def Cw(l:List cI):(jz l).length<=8:=by grind[jz]
def Zm(l:List bP):(FC l).length<=50:=by grind[FC]
def FH(l:List cM):(kW l).length<=4:=by grind[kW]
def aet(l:List bP):∀y∈FC l,SzS y:=by
 intro y u
 obtain⟨x,_,rfl⟩:=n5.1 u
 have h1:=pR x.eD
 have h2:=pR x.name
 have h3:=FE x.e
 have h4:=FE x.f
 exact⟨by show(oD x.eD).size<=_;omega,by show(oD x.name).size<=_;omega,by show(yN x.e).length<=_;omega,by show(yN x.f).length<=_;omega,JS _,JS _⟩
def Qq(t:cM):(zh t).dQ.length<=6:=by show((t.dQ.take 6).map oD).length<=6;grind
def HV(l:List cM):∀y∈kW l,Yr y/\y.dQ.length<=500/\y.body.length<=500:=by
 intro y B
 obtain⟨x,_,rfl⟩:=n5.1 B
 have h1:=pR x.name
 have h2:=Qq x
 have h3:=Zm x.body
 refine⟨⟨by show(oD x.name).size<=_;omega,λs u=>?_,aet _⟩,bM,by show(FC x.body).length<=_;omega⟩
 obtain⟨z,_,rfl⟩:=n5.1 (show s∈(x.dQ.take 6).map oD from u)
 have:=pR z
 omega
def Tc(p:cA):PZ (sE p):=by
 have u:(sE p).lines.length<=6:=by show((p.lines.take 6).map jz).length<=6;grind
 have hc:(sE p).eb.length<=6:=by show((p.eb.take 6).map FD).length<=6;grind
 have h1:=Cw p.iO
 have h2:=Cw p.eI
 have h3:=FH p.threads
 have h4:=FH p.recover
 have hth:∀t∈(sE p).threads++(sE p).recover,Yr t/\t.dQ.length<=500/\t.body.length<=500:=by
  intro t ht
  rcases oF.1 ht with h|h
  .exact HV _ t h
  .exact HV _ t h
 refine {lines:=by omega,line:=λl h=>?_,iO:=by show(jz p.iO).length<=500;omega,eI:=by show(jz p.eI).length<=500;omega,threads:=by show(kW p.threads).length<=500;omega,recover:=by show(kW p.recover).length<=500;omega,eb:=by omega,dQ:=λt ht=>(hth t ht).2.1,body:=λt ht=>(hth t ht).2.2,zl:=λl h c hc=>?_,zv:=FG _,zk:=FG _,zt:=λt ht=>(hth t (List.mem_append_left _ ht)).1,zr:=λt ht=>(hth t (List.mem_append_right _ ht)).1,zc:=λc h=>?_}
 .obtain⟨x,_,rfl⟩:=n5.1 (show l∈(p.lines.take 6).map jz from h)
  have:=Cw x;omega
 .obtain⟨x,_,rfl⟩:=n5.1 (show l∈(p.lines.take 6).map jz from h)
  exact FG x c hc
 obtain⟨x,_,rfl⟩:=n5.1 (show c∈(p.eb.take 6).map FD from h)
 have:=FE x.e
 exact⟨by show(yN x.e).length<=_;omega,JS _⟩
def C47(lv:Value)(xs:List bZ)(w:World)(M:cZ (λ_=>True) w lv xs):CR 47 [lv] w (λv w'=>kP (bH v (yN xs)) w w'):=by
 have u:=St.start w;refine eZ Tryz.func47 ?_;refine bD ([]:List bZ) u g9 rfl rfl (dR rfl) (λW J u=>?_);refine⟨λm E x J=>∃k:Nat,x=hH (k:Int)/\m=60-k/\k<=60/\k<=xs.length/\St w aZ [bH E ((xs.take k).map aer)] J,⟨_,0,rfl,rfl,bM,bM,u⟩,?_⟩;rintro m E _ _ ⟨k,rfl,rfl,hk,xo,u⟩ _;have Z:((xs.take k).map aer).length=k:=by rw[mE,lY];omega
 refine⟨λU w'=>U=.bool (decide (k<xs.length/\k<60))/\St w aZ [bH E ((xs.take k).map aer)] w',aH g9 (M.ext u.aF) (aQ (aC (λ_=>aQ ⟨vb cJ,u⟩) λ_=>⟨vb cJ,u⟩)),?_⟩;rintro _ _ ⟨rfl,u⟩ _;refine aY (λG=>?_) (λG=>?_)
 .have Y:k<xs.length/\k<60:=by simpa using G
  obtain⟨B,I⟩:=gx xs (i:=(k:Int).toNat) bM;refine aN g9 M bM I (λ_ V=>aD rY (V.ext u.aF) (aR u yl λJO _ u=>aJ (x:=B) u rY rfl rfl λ_ u=>aA gn (aB (v:=.string B.name) gB u.hb rfl (aA gn (aB (v:=.string B.name) gB u.hb rfl (fg iq (ru (nY iq bM bM (aA gn (aW u gB (dR rfl) (rfl) λ_ u=>?_))))))))));have u:=u.enc (cs':=hZ ({B with name:=(B.name.extract 0 (min (B.name.size:Int) 40).toNat)}:bZ)) rfl;refine aD rY u.At (bD ([({B with name:=(B.name.extract 0 (min (B.name.size:Int) 40).toNat)}:bZ)]) u g9 rfl rfl (dR rfl) λZn _ u=>?_)
  have O:=u.dS;exact bL u.p2 g9 O (by rw[Z,l0];omega) dC (λ_ _ u=>have u:=u.p1.drop;aK bM (have u:=u.p1.drop;⟨_,bM,k+1,rfl,rfl,bM,bM,by rw[<- gP (k:=k) I];exact u⟩))
 rw[sF (xs:=xs) (k:=k) (m:=60) bM bM (gS G)]at u;exact u.fresh
def C45(lv:Value)(xs:List cI)(w:World)(M:cZ (λ_=>True) w lv xs):CR 45 [lv] w (λv w'=>kP (bH v (jz xs)) w w'):=by
 have u:=St.start w;refine eZ Tryz.func45 ?_;refine bD ([]:List cI) u iu rfl rfl (dR rfl) (λY J u=>?_);refine⟨λm E x J=>∃k:Nat,x=hH (k:Int)/\m=8-k/\k<=8/\k<=xs.length/\St w aZ [bH E ((xs.take k).map aes)] J,⟨_,0,rfl,rfl,bM,bM,u⟩,?_⟩;rintro m E _ _ ⟨k,rfl,rfl,hk,xo,u⟩ _;have JT:((xs.take k).map aes).length=k:=by rw[mE,lY];omega
 refine⟨λV w'=>V=.bool (decide (k<xs.length/\k<8))/\St w aZ [bH E ((xs.take k).map aes)] w',aH iu (M.ext u.aF) (aQ (aC (λ_=>aQ ⟨vb cJ,u⟩) λ_=>⟨vb cJ,u⟩)),?_⟩;rintro _ _ ⟨rfl,u⟩ _;refine aY (λG=>?_) (λG=>?_)
 .have Z:k<xs.length/\k<8:=by simpa using G
  obtain⟨B,I⟩:=gx xs (i:=(k:Int).toNat) bM;refine aN iu M bM I (λ_ W=>aD l6 (W.ext u.aF) (aR u oU λO _ u=>aJ (x:=B) u l6 rfl rfl λ_ u=>aA kL (aB (v:=.string B.name) gB u.hb rfl (aA kL (aB (v:=.string B.name) gB u.hb rfl (fg iq (ru (nY iq bM bM (aA kL (aW u gB (dR rfl) (rfl) λ_ u=>?_))))))))));have u:=u.enc (cs':=hZ ({B with name:=(B.name.extract 0 (min (B.name.size:Int) 40).toNat)}:cI)) rfl;refine aD l6 u.At (bD ([({B with name:=(B.name.extract 0 (min (B.name.size:Int) 40).toNat)}:cI)]) u iu rfl rfl (dR rfl) λZn _ u=>?_)
  have U:=u.dS;exact bL u.p2 iu U (by rw[JT,l0];omega) dC (λ_ _ u=>have u:=u.p1.drop;aK bM (have u:=u.p1.drop;⟨_,bM,k+1,rfl,rfl,bM,bM,by rw[<- gP (k:=k) I];exact u⟩))
 rw[sF (xs:=xs) (k:=k) (m:=8) bM bM (gS G)]at u;exact u.fresh
def C106(lv:Value)(xs:List bP)(w:World)(hL:DL w lv xs):CR 106 [lv] w (λv w'=>kP (fz v (FC xs)) w w'):=by
 have B:=St.start w;refine eZ Tryz.func106 ?_;refine oB (α:=bP) B fq (λael w1 B=>?_);refine⟨λm Z x w1=>∃k:Nat,x=hH (k:Int)/\m=50-k/\k<=50/\k<=xs.length/\St w aZ [fz Z ((xs.take k).map Tb)] w1,⟨_,0,rfl,rfl,bM,bM,B⟩,?_⟩;rintro m Z _ _ ⟨k,rfl,rfl,hk,xo,B⟩ _;have JT:((xs.take k).map Tb).length=k:=by rw[mE,lY];omega
 refine⟨λjv w'=>jv=.bool (decide (k<xs.length/\k<50))/\St w aZ [fz Z ((xs.take k).map Tb)] w',?_,?_⟩
 .obtain⟨ts60,U,Y⟩:=hL.open;have hn60:=Y.1;exact aH fq (U.ext B.aF) (aQ (aC (λ_=>aQ ⟨vb cJ,B⟩) λ_=>⟨vb cJ,B⟩))
 rintro _ _ ⟨rfl,B⟩ _;refine aY (λjy=>?_) (λjy=>?_)
 .have aqO:k<xs.length/\k<50:=by simpa using jy
  obtain⟨O,M,E⟩:=hL.open;have hn61:=E.1;obtain⟨lU,ik⟩:=gx O (i:=(k:Int).toNat) bM;obtain⟨u,lD⟩:=gx xs (i:=(k:Int).toNat) bM;obtain⟨I,G,rfl,Td,Te⟩:=E.2 _ _ _ ik lD;refine aN fq M bM ik (λ_ lQ=>aD eK (lQ.ext B.aF) (aR B jq λJO _ B=>have B:=B.enc (cs':=hZ (⟨0,(ia #[]),(ia #[]),bW,bW,0,0,0,0⟩:bE)) rfl;aJ (x:=(⟨u.kind,u.eD,u.name,I,G,u.n,u.body,u.et,u.at_⟩:bE)) B eK rfl rfl λ_ B=>aA iG (aB (v:=.string u.eD) gB B.hb rfl (aA iG (aB (v:=.string u.eD) gB B.hb rfl (fg iq (ru (nY iq bM bM (aA iG ?_)))))))))
  have V:=DL.flat Td;have axH:=DL.flat Te;refine aW B gB (dR rfl) (rfl) (λ_ B=>have B:=B.enc (cs':=hZ (⟨u.kind,(u.eD.extract 0 (min (u.eD.size:Int) 40).toNat),u.name,I,G,u.n,u.body,u.et,u.at_⟩:bE)) rfl;aA gh (aB (v:=.string u.name) gB B.hb rfl (aA gh (aB (v:=.string u.name) gB B.hb rfl (fg iq (ru (nY iq bM bM (aA gh (aW B gB (dR rfl) (rfl) λ_ B=>have B:=B.enc (cs':=hZ (⟨u.kind,(u.eD.extract 0 (min (u.eD.size:Int) 40).toNat),(u.name.extract 0 (min (u.name.size:Int) 40).toNat),I,G,u.n,u.body,u.et,u.at_⟩:bE)) rfl;aA iT (aB (v:=hM (I:SV)) jH B.hb rfl (dT aiA B (C47 _ _ _ (V.ext B.aF)) λx39 _ cK B=>?_)))))))))))
  refine aA iT ?_;obtain⟨J,rfl⟩:=B.fV;refine aW B.p1 jH (dR rfl) (rfl) (λ_ B=>have B:=B.enc (cs':=hZ (⟨u.kind,(u.eD.extract 0 (min (u.eD.size:Int) 40).toNat),(u.name.extract 0 (min (u.name.size:Int) 40).toNat),J,G,u.n,u.body,u.et,u.at_⟩:bE)) rfl;aA j3 (aB (v:=hM (G:SV)) jH B.hb rfl (dT aiA B (C47 _ _ _ (axH.ext B.aF)) λx43 _ cK B=>aA j3 ?_)));obtain⟨W,rfl⟩:=B.fV;exact aW B.p1 jH (dR rfl) (rfl) (λ_ B=>have B:=B.enc (cs':=hZ (⟨u.kind,(u.eD.extract 0 (min (u.eD.size:Int) 40).toNat),(u.name.extract 0 (min (u.name.size:Int) 40).toNat),J,W,u.n,u.body,u.et,u.at_⟩:bE)) rfl;aD eK B.At (have B:=B.p2.freeze.p2.freeze.p1.gd.dF (Ψ:=(λw=>mv w (⟨u.kind,(u.eD.extract 0 (min (u.eD.size:Int) 40).toNat),(u.name.extract 0 (min (u.name.size:Int) 40).toNat),J,W,u.n,u.body,u.et,u.at_⟩:bE) (⟨u.kind,(u.eD.extract 0 (min (u.eD.size:Int) 40).toNat),(u.name.extract 0 (min (u.name.size:Int) 40).toNat),(yN u.e),(yN u.f),u.n,u.body,u.et,u.at_⟩:bP))) (λ_ h=>⟨_,_,rfl,DL.jV h.1,DL.jV h.2⟩);gk (s:=(⟨u.kind,(u.eD.extract 0 (min (u.eD.size:Int) 40).toNat),(u.name.extract 0 (min (u.name.size:Int) 40).toNat),J,W,u.n,u.body,u.et,u.at_⟩:bE)) (x:=(⟨u.kind,(u.eD.extract 0 (min (u.eD.size:Int) 40).toNat),(u.name.extract 0 (min (u.name.size:Int) 40).toNat),(yN u.e),(yN u.f),u.n,u.body,u.et,u.at_⟩:bP)) B fq dC λ_ _ B=>have B:=B.p2;fS B fq (by rw[JT,l0];omega) dC λ_ _ B=>aK bM (have B:=B.p1.drop;⟨_,bM,k+1,rfl,rfl,bM,bM,by rw[<- gP (k:=k) lD];exact B⟩)))
 rw[sF (xs:=xs) (k:=k) (m:=50) bM bM (gS jy)]at B;exact B.fresh
def C46(lv:Value)(xs:List cM)(w:World)(hL:DL w lv xs):CR 46 [lv] w (λv w'=>kP (fz v (kW xs)) w w'):=by
 have u:=St.start w;refine py Tryz.func46 (pl:=P46) ?_;refine oB (α:=cM) u fw (λaep w1 u=>?_);refine⟨λm M x w1=>∃k:Nat,x=hH (k:Int)/\m=4-k/\k<=4/\k<=xs.length/\St w aZ [fz M ((xs.take k).map zh)] w1,⟨_,0,rfl,rfl,bM,bM,u⟩,?_⟩;rintro m M _ _ ⟨k,rfl,rfl,hk,xo,u⟩ _;have JT:((xs.take k).map zh).length=k:=by rw[mE,lY];omega
 refine⟨λU w'=>U=.bool (decide (k<xs.length/\k<4))/\St w aZ [fz M ((xs.take k).map zh)] w',?_,?_⟩
 .obtain⟨ts64,axI,axJ⟩:=hL.open;have hn64:=axJ.1;exact aH fw (axI.ext u.aF) (aQ (aC (λ_=>aQ ⟨vb cJ,u⟩) λ_=>⟨vb cJ,u⟩))
 rintro _ _ ⟨rfl,u⟩ _;refine aY (λjl=>?_) (λjl=>?_)
 .have hc15:k<xs.length/\k<4:=by simpa using jl
  obtain⟨axK,J,V⟩:=hL.open;have hn65:=V.1;obtain⟨Tf,G⟩:=gx axK (i:=(k:Int).toNat) bM;obtain⟨B,JM⟩:=gx xs (i:=(k:Int).toNat) bM;obtain⟨zV,Qu,rfl,FI,FJ⟩:=V.2 _ _ _ G JM;refine⟨λQe w'=>St w aZ [fz Qe ((xs.take k).map zh++[zh B])] w',⟨λU w'=>∃(FK:Nat) (E:SV),U=.pointer (some ⟨FK,0,none⟩)/\St w aZ [bY FK (hZ (⟨(B.name.extract 0 (min (B.name.size:Int) 40).toNat),bW,E,B.at_⟩:cE)),fz (hM E) (FC B.body),fz M ((xs.take k).map zh)] w',?_,?_⟩,?_⟩
  .refine aN fw J bM G (λ_ FL=>bU B.name qo FL rfl rfl λ_ Fm=>have u:=u.drew;aD gB (Fm.ext u.aF) (aN fw J bM G λ_ FM=>bU B.name qo FM rfl rfl λ_ Z=>aD gB (Z.ext u.aF) (fg iq (ru (nY iq bM bM (aN fw J bM G λ_ q8=>bU B.at_ qp q8 rfl rfl λ_ O=>aD bO (O.ext u.aF) (aN fw J bM G λ_ zb=>bU Qu lI zb rfl rfl λ_ xm=>aD jJ (xm.ext u.aF) ⟨?_,⟨?_,?_⟩⟩)))))))
   .refine dT ago u (C106 _ _ _ (FJ.ext u.aF)) (λx41 _ cK u=>?_);refine⟨eP gB (Fm.ext u.aF),?_⟩;refine⟨eP gB (Z.ext u.aF),?_⟩;refine⟨eP bO (O.ext u.aF),?_⟩;obtain⟨JU,rfl⟩:=u.oZ;refine pop (AS _ _ _ _ _) (aR u tD λb_t5 _ u=>?_);have u:=u.enc (cs':=hZ (⟨(ia #[]),bW,bW,0⟩:cE)) rfl;refine⟨eP gB (Fm.ext u.aF),?_⟩;refine⟨eP gB (Z.ext u.aF),?_⟩;refine⟨eP bO (O.ext u.aF),?_⟩;refine⟨eP jJ (xm.ext u.aF),?_⟩;exact aJ (x:=(⟨(B.name.extract 0 (min (B.name.size:Int) 40).toNat),bW,JU,B.at_⟩:cE)) u m6 rfl rfl (λ_ u=>have u:=u.p2.p2.p2;⟨_,_,rfl,u⟩)
   .refine aR u tD (λaxL _ u=>?_);have u:=u.enc (cs':=hZ (⟨(ia #[]),bW,bW,0⟩:cE)) rfl;refine⟨eP gB (Fm.ext u.aF),?_⟩;refine⟨eP gB (Z.ext u.aF),?_⟩;refine⟨eP bO (O.ext u.aF),?_⟩;refine⟨eP jJ (xm.ext u.aF),?_⟩;refine dT ago u (C106 _ _ _ (FJ.ext u.aF)) (λx41_1 _ cK u=>?_);refine⟨eP gB (Fm.ext u.aF),?_⟩;refine⟨eP gB (Z.ext u.aF),?_⟩;refine⟨eP bO (O.ext u.aF),?_⟩;obtain⟨Zo,rfl⟩:=u.oZ;exact pop (AS _ _ _ _ _) (aJ (x:=(⟨(B.name.extract 0 (min (B.name.size:Int) 40).toNat),bW,Zo,B.at_⟩:cE)) u.p1 m6 rfl rfl λ_ u=>have u:=u.p2.p2.p2;⟨_,_,rfl,u⟩)
   trivial
  .rintro _ _ ⟨FK,E,rfl,u⟩ _;have u:=((((u.eV (α:=ByteArray)).p3).p3).p2).p3;refine⟨λm x w1=>∃(j:Nat) (I:SV),x=hH (j:Int)/\m=6-j/\j<=6/\j<=B.dQ.length/\St w aZ [bY FK (hZ (⟨(B.name.extract 0 (min (B.name.size:Int) 40).toNat),I,E,B.at_⟩:cE)),bH (hM I) ((B.dQ.take j).map oD),fz (hM E) (FC B.body),fz M ((xs.take k).map zh)] w1,⟨_,0,bW,rfl,rfl,bM,bM,u⟩,?_⟩;rintro m _ _ ⟨j,I,rfl,rfl,hj,Bs,u⟩ _;have aj2:((B.dQ.take j).map oD).length=j:=by rw[mE,lY];omega
   refine⟨λU w'=>U=.bool (decide (j<B.dQ.length/\j<6))/\St w aZ [bY FK (hZ (⟨(B.name.extract 0 (min (B.name.size:Int) 40).toNat),I,E,B.at_⟩:cE)),bH (hM I) ((B.dQ.take j).map oD),fz (hM E) (FC B.body),fz M ((xs.take k).map zh)] w',?_,?_⟩
   .refine aN fw J bM G (λ_ Mr=>bU zV fQ Mr rfl rfl λ_ Bb=>aD je (Bb.ext u.aF) ?_);have axM:=DL.flat FI;exact aH iF (axM.ext u.aF) (aQ (aC (λ_=>aQ ⟨vb cJ,u⟩) λ_=>⟨vb cJ,u⟩))
   rintro _ _ ⟨rfl,u⟩ _;refine aY (λBl=>?_) (λBl=>?_)
   .have hc54:j<B.dQ.length/\j<6:=by simpa using Bl
    refine aA fQ (have u:=u.drew;aB (v:=hM (I:SV)) je u.hb rfl (aN fw J bM G λ_ Zf=>bU zV fQ Zf rfl rfl λ_ FN=>aD je (FN.ext u.aF) ?_));have W:=DL.flat FI;obtain⟨Y,Qv⟩:=gx B.dQ (i:=(j:Int).toNat) bM;refine aN iF W bM Qv (λ_ Dd=>aD gB (Dd.ext u.aF) (aN fw J bM G λ_ MZ=>bU zV fQ MZ rfl rfl λ_ Zp=>aD je (Zp.ext u.aF) (aN iF W bM Qv λ_ aqT=>aD gB (aqT.ext u.aF) (fg iq (ru (nY iq bM bM (bD ([(Y.extract 0 (min (Y.size:Int) 40).toNat)]) u iF rfl rfl (dR rfl) λaqU _ u=>?_)))))))
    refine⟨aI je (u.p1.hb.cell rfl),?_⟩;have Qw:=u.dS;refine bL u.p2 iF Qw (by rw[aj2,l0];omega) dC (λaqV _ u=>have u:=u.p1.drop;aA fQ ?_);obtain⟨Cx,rfl⟩:=u.fV;exact aW u.p1 je (dR rfl) (rfl) (λ_ u=>have u:=u.enc (cs':=hZ (⟨(B.name.extract 0 (min (B.name.size:Int) 40).toNat),Cx,E,B.at_⟩:cE)) rfl;aK bM (have u:=u.p3.p3.p3.p3;⟨_,bM,j+1,Cx,rfl,rfl,bM,bM,by rw[<- gP (k:=j) Qv];exact u⟩))
   refine aD m6 u.At (have u:=u.p1.freeze.p2.nP.p1.gd.dF (Ψ:=(λw=>mv w (⟨(B.name.extract 0 (min (B.name.size:Int) 40).toNat),I,E,B.at_⟩:cE) (⟨(B.name.extract 0 (min (B.name.size:Int) 40).toNat),((B.dQ.take j).map oD),(FC B.body),B.at_⟩:cM))) (λ_ h=>⟨_,_,rfl,DL.jV h.1,h.2⟩);gk (s:=(⟨(B.name.extract 0 (min (B.name.size:Int) 40).toNat),I,E,B.at_⟩:cE)) (x:=(⟨(B.name.extract 0 (min (B.name.size:Int) 40).toNat),((B.dQ.take j).map oD),(FC B.body),B.at_⟩:cM)) u fw dC λahA _ u=>have u:=u.p2;fS u fw (by rw[JT,l0];omega) dC λaqW _ u=>?_)
   have u:=u.p1.drop;rw[sF (xs:=B.dQ) (k:=j) (m:=6) bM bM (gS Bl)]at u;exact u
  rintro Qe _ u _;exact aK bM ⟨_,bM,k+1,rfl,rfl,bM,bM,by rw[<- gP (k:=k) JM];exact u⟩
 rw[sF (xs:=xs) (k:=k) (m:=4) bM bM (gS jl)]at u;exact u.fresh
def C11(p:cA)(pv:bN)(w:World)(hp:mv w pv p):CR 11 [hM pv] w (λv w'=>∃qv:bN,v=hM qv/\kP (eA λw=>mv w qv (sE p)) w w'):=by
 obtain⟨bJ,bT,bK,aU,aX,bG,rfl,cO,dG,cW,cB,Z,cN⟩:=hp;have u:=St.start w;refine py Tryz.func11 (pl:=P11) ?_;refine cH u (λki w1 u=>aR u vi λwj _ u=>have u:=u.enc (cs':=hZ (⟨bW,bW,bW,bW,bW,bW⟩:bN)) rfl;⟨λjv w'=>∃(Y:Nat) (E G I B:SV),jv=.pointer (some ⟨Y,0,none⟩)/\St w aZ [bY Y (hZ (⟨bW,E,G,I,B,bW⟩:bN)),bH (hM E) (jz p.iO),bH (hM G) (jz p.eI),fz (hM I) (kW p.threads),fz (hM B) (kW p.recover),bY ki (hZ (⟨bJ,bT,bK,aU,aX,bG⟩:bN)),bY wj (hZ (⟨bW,bW,bW,bW,bW,bW⟩:bN))] w',?_,?_⟩)
 .refine aA qe (have u:=u.drew;aB jF u.p1.hb rfl ?_);have aqX:=DL.flat dG;refine aA nN (aB jF u.p1.hb rfl ?_);have V:=DL.flat cW;refine aA kB (aB iz u.p1.hb rfl (aA oP (aB iz u.p1.hb rfl ⟨dT Ux u (C45 _ _ _ (aqX.ext u.aF)) (λx8 _ J u=>⟨aI jF (u.p2.hb.cell rfl),⟨aI iz (u.p2.hb.cell rfl),⟨aI iz (u.p2.hb.cell rfl),⟨dT Ux u (C45 _ _ _ (V.ext u.aF)) (λx11 _ J u=>⟨aI iz (u.p3.hb.cell rfl),⟨aI iz (u.p3.hb.cell rfl),⟨dT Ja u (C46 _ _ _ (cB.ext u.aF)) (λx14 _ J u=>⟨aI iz (u.p4.hb.cell rfl),⟨?_,⟨?_,?_⟩⟩⟩),⟨?_,?_⟩⟩⟩⟩),⟨?_,?_⟩⟩⟩⟩⟩),⟨?_,?_⟩⟩)))
  .refine dT Ja u (C46 _ _ _ (Z.ext u.aF)) (λU5 _ J u=>?_);obtain⟨W,rfl⟩:=u.p3.fV;obtain⟨FQ,rfl⟩:=u.p2.fV;obtain⟨QB,rfl⟩:=u.p1.oZ;obtain⟨aj4,rfl⟩:=u.oZ;refine pop (nB _ _ _ _ _ _ _ _ _ _ _ _) (aR u vi λb_q3 _ u=>?_);have u:=u.enc (cs':=hZ (⟨bW,bW,bW,bW,bW,bW⟩:bN)) rfl;refine⟨aI jF (u.p6.hb.cell rfl),?_⟩;refine⟨aI jF (u.p6.hb.cell rfl),?_⟩;refine⟨aI iz (u.p6.hb.cell rfl),?_⟩;refine⟨aI iz (u.p6.hb.cell rfl),?_⟩;exact aJ (x:=(⟨bW,W,FQ,QB,aj4,bW⟩:bN)) u eL rfl rfl (λ_ u=>have u:=u.p5.p6.p3.p4.p5.p6.p6;⟨_,_,_,_,_,rfl,u⟩)
  .refine aR u vi (λaxN _ u=>?_);have u:=u.enc (cs':=hZ (⟨bW,bW,bW,bW,bW,bW⟩:bN)) rfl;refine⟨aI jF (u.p5.hb.cell rfl),?_⟩;refine⟨aI jF (u.p5.hb.cell rfl),?_⟩;refine⟨aI iz (u.p5.hb.cell rfl),?_⟩;refine⟨aI iz (u.p5.hb.cell rfl),?_⟩;refine dT Ja u (C46 _ _ _ (Z.ext u.aF)) (λx17_1 _ J u=>?_);obtain⟨W,rfl⟩:=u.p4.fV;obtain⟨FQ,rfl⟩:=u.p3.fV;obtain⟨QB,rfl⟩:=u.p2.oZ;obtain⟨Zq,rfl⟩:=u.oZ;exact pop (nB _ _ _ _ _ _ _ _ _ _ _ _) (aJ (x:=(⟨bW,W,FQ,QB,Zq,bW⟩:bN)) u.p1 eL rfl rfl λ_ u=>have u:=u.p5.p6.p3.p4.p5.p6.p6;⟨_,_,_,_,_,rfl,u⟩)
  .trivial
  .refine aR u vi (λaxO _ u=>?_);have u:=u.enc (cs':=hZ (⟨bW,bW,bW,bW,bW,bW⟩:bN)) rfl;refine⟨aI jF (u.p4.hb.cell rfl),?_⟩;refine⟨aI jF (u.p4.hb.cell rfl),?_⟩;refine⟨aI iz (u.p4.hb.cell rfl),?_⟩;refine⟨aI iz (u.p4.hb.cell rfl),?_⟩;refine dT Ja u (C46 _ _ _ (cB.ext u.aF)) (λx14_1 _ J u=>?_);refine⟨aI iz (u.p5.hb.cell rfl),?_⟩;refine dT Ja u (C46 _ _ _ (Z.ext u.aF)) (λx17_2 _ J u=>?_);obtain⟨W,rfl⟩:=u.p4.fV;obtain⟨FQ,rfl⟩:=u.p3.fV;obtain⟨Zr,rfl⟩:=u.p1.oZ;obtain⟨Zs,rfl⟩:=u.oZ
   exact pop (nB _ _ _ _ _ _ _ _ _ _ _ _) (aJ (x:=(⟨bW,W,FQ,Zr,Zs,bW⟩:bN)) u.p2 eL rfl rfl λ_ u=>have u:=u.p5.p6.p3.p4.p5.p6.p6;⟨_,_,_,_,_,rfl,u⟩)
  .trivial
  .refine aR u vi (λaxP _ u=>?_);have u:=u.enc (cs':=hZ (⟨bW,bW,bW,bW,bW,bW⟩:bN)) rfl;refine⟨aI jF (u.p3.hb.cell rfl),?_⟩;refine⟨aI jF (u.p3.hb.cell rfl),?_⟩;refine⟨aI iz (u.p3.hb.cell rfl),?_⟩;refine⟨aI iz (u.p3.hb.cell rfl),?_⟩;refine dT Ux u (C45 _ _ _ (V.ext u.aF)) (λx11_1 _ J u=>?_);refine⟨aI iz (u.p4.hb.cell rfl),?_⟩;refine⟨aI iz (u.p4.hb.cell rfl),?_⟩;refine dT Ja u (C46 _ _ _ (cB.ext u.aF)) (λx14_2 _ J u=>?_);refine⟨aI iz (u.p5.hb.cell rfl),?_⟩;refine dT Ja u (C46 _ _ _ (Z.ext u.aF)) (λx17_3 _ J u=>?_)
   obtain⟨W,rfl⟩:=u.p4.fV;obtain⟨Zt,rfl⟩:=u.p2.fV;obtain⟨Zu,rfl⟩:=u.p1.oZ;obtain⟨Zv,rfl⟩:=u.oZ;exact pop (nB _ _ _ _ _ _ _ _ _ _ _ _) (aJ (x:=(⟨bW,W,Zt,Zu,Zv,bW⟩:bN)) u.p3 eL rfl rfl λ_ u=>have u:=u.p5.p6.p3.p4.p5.p6.p6;⟨_,_,_,_,_,rfl,u⟩)
  .trivial
  .refine aR u vi (λaxQ _ u=>?_);have u:=u.enc (cs':=hZ (⟨bW,bW,bW,bW,bW,bW⟩:bN)) rfl;refine⟨aI jF (u.p2.hb.cell rfl),?_⟩;refine⟨aI jF (u.p2.hb.cell rfl),?_⟩;refine⟨aI iz (u.p2.hb.cell rfl),?_⟩;refine⟨aI iz (u.p2.hb.cell rfl),?_⟩;refine dT Ux u (C45 _ _ _ (aqX.ext u.aF)) (λx8_1 _ J u=>?_);refine⟨aI jF (u.p3.hb.cell rfl),?_⟩;refine⟨aI iz (u.p3.hb.cell rfl),?_⟩;refine⟨aI iz (u.p3.hb.cell rfl),?_⟩;refine dT Ux u (C45 _ _ _ (V.ext u.aF)) (λx11_2 _ J u=>?_);refine⟨aI iz (u.p4.hb.cell rfl),?_⟩;refine⟨aI iz (u.p4.hb.cell rfl),?_⟩
   refine dT Ja u (C46 _ _ _ (cB.ext u.aF)) (λx14_3 _ J u=>?_);refine⟨aI iz (u.p5.hb.cell rfl),?_⟩;refine dT Ja u (C46 _ _ _ (Z.ext u.aF)) (λx17_4 _ J u=>?_);obtain⟨D8,rfl⟩:=u.p3.fV;obtain⟨Zw,rfl⟩:=u.p2.fV;obtain⟨Zx,rfl⟩:=u.p1.oZ;obtain⟨Zy,rfl⟩:=u.oZ;exact pop (nB _ _ _ _ _ _ _ _ _ _ _ _) (aJ (x:=(⟨bW,D8,Zw,Zx,Zy,bW⟩:bN)) u.p4 eL rfl rfl λ_ u=>have u:=u.p5.p6.p3.p4.p5.p6.p6;⟨_,_,_,_,_,rfl,u⟩)
  trivial
 rintro _ _ ⟨Y,E,G,I,B,rfl,u⟩ _;have u:=((((((((u.JA (α:=(List cI))).p7).p7).p7).p7).p7).p7).p6).p7;refine⟨λm x w1=>∃(k:Nat) (M:SV),x=hH (k:Int)/\m=6-k/\k<=6/\k<=p.lines.length/\St w aZ [bY Y (hZ (⟨M,E,G,I,B,bW⟩:bN)),fz (hM M) ((p.lines.take k).map jz),bH (hM E) (jz p.iO),bH (hM G) (jz p.eI),fz (hM I) (kW p.threads),fz (hM B) (kW p.recover),bY ki (hZ (⟨bJ,bT,bK,aU,aX,bG⟩:bN)),bY wj (hZ (⟨bW,bW,bW,bW,bW,bW⟩:bN))] w1,⟨_,0,bW,rfl,rfl,bM,bM,u⟩,?_⟩
 rintro m _ _ ⟨k,M,rfl,rfl,hk,xo,u⟩ _;have JT:((p.lines.take k).map jz).length=k:=by rw[mE,lY];omega
 refine⟨λjv w'=>jv=.bool (decide (k<p.lines.length/\k<6))/\St w aZ [bY Y (hZ (⟨M,E,G,I,B,bW⟩:bN)),fz (hM M) ((p.lines.take k).map jz),bH (hM E) (jz p.iO),bH (hM G) (jz p.eI),fz (hM I) (kW p.threads),fz (hM B) (kW p.recover),bY ki (hZ (⟨bJ,bT,bK,aU,aX,bG⟩:bN)),bY wj (hZ (⟨bW,bW,bW,bW,bW,bW⟩:bN))] w',?_,?_⟩
 .refine aA gC (aB oO u.p6.hb rfl ?_);obtain⟨ts70,axR,axS⟩:=cO.open;have hn70:=axS.1;exact aH pJ (axR.ext u.aF) (aQ (aC (λ_=>aQ ⟨vb cJ,u⟩) λ_=>⟨vb cJ,u⟩))
 rintro _ _ ⟨rfl,u⟩ _;refine aY (λlq=>?_) (λlq=>?_)
 .have hc27:k<p.lines.length/\k<6:=by simpa using lq
  refine aA gC (have u:=u.drew;aB (v:=hM (M:SV)) oO u.hb rfl (aA gC (aB oO u.p6.hb rfl ?_)));obtain⟨axT,axU,aqY⟩:=cO.open;have hn71:=aqY.1;obtain⟨aqZ,Zz⟩:=gx axT (i:=(k:Int).toNat) bM;obtain⟨ZA,ZB⟩:=gx p.lines (i:=(k:Int).toNat) bM;have aq0:DL w (hM aqZ) ZA:=aqY.2 _ _ _ Zz ZB;refine aN pJ axU bM Zz (λ_ Ml=>aD jF (Ml.ext u.aF) ?_);have axV:=DL.flat aq0;refine dT Ux u (C45 _ _ _ (axV.ext u.aF)) (λx37 _ J u=>?_);refine⟨aI oO (u.p1.hb.cell rfl),?_⟩;obtain⟨ZC,rfl⟩:=u.fV
  have u:=u.freeze.dF (Ψ:=λw=>mv w ZC (jz ZA)) (λ_ h=>DL.jV h);refine gk (s:=ZC) (x:=(jz ZA)) u pJ dC (λaq1 _ u=>?_);refine⟨aI oO (u.p1.hb.cell rfl),?_⟩;have u:=u.p2;refine fS u pJ (by rw[JT,l0];omega) dC (λaq2 _ u=>aA gC ?_);obtain⟨zU,rfl⟩:=u.oZ;exact aW u.p1 oO (dR rfl) (rfl) (λ_ u=>have u:=u.enc (cs':=hZ (⟨zU,E,G,I,B,bW⟩:bN)) rfl;aK bM (have u:=u.p7.p7.p7.p7.p7.p7.p7.p7;⟨_,bM,k+1,zU,rfl,rfl,bM,bM,by rw[<- gP (k:=k) ZB];exact u⟩))
 rw[sF (xs:=p.lines) (k:=k) (m:=6) bM bM (gS lq)]at u;have u:=(((((((((u.JA (α:=gV)).p8).p8).p8).p8).p8).p8).p8).p7).p8;refine⟨λm x w1=>∃(j:Nat) (O:SV),x=hH (j:Int)/\m=6-j/\j<=6/\j<=p.eb.length/\St w aZ [bY Y (hZ (⟨M,E,G,I,B,O⟩:bN)),fz (hM O) ((p.eb.take j).map FD),fz (hM M) ((p.lines.take 6).map jz),bH (hM E) (jz p.iO),bH (hM G) (jz p.eI),fz (hM I) (kW p.threads),fz (hM B) (kW p.recover),bY ki (hZ (⟨bJ,bT,bK,aU,aX,bG⟩:bN)),bY wj (hZ (⟨bW,bW,bW,bW,bW,bW⟩:bN))] w1,⟨_,0,bW,rfl,rfl,bM,bM,u⟩,?_⟩
 rintro m _ _ ⟨j,O,rfl,rfl,hj,Bs,u⟩ _;have aj2:((p.eb.take j).map FD).length=j:=by rw[mE,lY];omega
 refine⟨λjv w'=>jv=.bool (decide (j<p.eb.length/\j<6))/\St w aZ [bY Y (hZ (⟨M,E,G,I,B,O⟩:bN)),fz (hM O) ((p.eb.take j).map FD),fz (hM M) ((p.lines.take 6).map jz),bH (hM E) (jz p.iO),bH (hM G) (jz p.eI),fz (hM I) (kW p.threads),fz (hM B) (kW p.recover),bY ki (hZ (⟨bJ,bT,bK,aU,aX,bG⟩:bN)),bY wj (hZ (⟨bW,bW,bW,bW,bW,bW⟩:bN))] w',?_,?_⟩
 .refine aA j1 (aB td u.p7.hb rfl ?_);obtain⟨ts73,axW,axX⟩:=cN.open;have hn73:=axX.1;exact aH uB (axW.ext u.aF) (aQ (aC (λ_=>aQ ⟨vb cJ,u⟩) λ_=>⟨vb cJ,u⟩))
 rintro _ _ ⟨rfl,u⟩ _;refine aY (λsf=>?_) (λsf=>?_)
 .have hc49:j<p.eb.length/\j<6:=by simpa using sf
  refine aA j1 (have u:=u.drew;aB (v:=hM (O:SV)) td u.hb rfl (aA j1 (aB td u.p7.hb rfl ?_)));obtain⟨axY,aq3,aq4⟩:=cN.open;have hn74:=aq4.1;obtain⟨ZD,Cy⟩:=gx axY (i:=(j:Int).toNat) bM;obtain⟨U,ZE⟩:=gx p.eb (i:=(j:Int).toNat) bM;obtain⟨aeu,rfl,aev⟩:=aq4.2 _ _ _ Cy ZE;refine aN uB aq3 bM Cy (λ_ Ft=>bU aeu yj Ft rfl rfl λ_ Bm=>aD jH (Bm.ext u.aF) ?_);have axZ:=DL.flat aev;refine aA j1 (aB td u.p7.hb rfl (aN uB aq3 bM Cy λ_ Fh=>bU U.at_ Jo Fh rfl rfl λ_ Dd=>aD bO (Dd.ext u.aF) (dT aiA u (C47 _ _ _ (axZ.ext u.aF)) λx60 _ J u=>?_)))
  refine⟨aI td (u.p1.hb.cell rfl),?_⟩;refine⟨aI td (u.p8.hb.cell rfl),?_⟩;refine⟨eP bO (Dd.ext u.aF),?_⟩;obtain⟨Cz,rfl⟩:=u.fV;refine pop (HD _ _ _ _) (have u:=u.freeze.dF (Ψ:=(λw=>mv w (⟨Cz,U.at_⟩:jr) (⟨(yN U.e),U.at_⟩:gV))) (λ_ h=>⟨_,rfl,DL.jV h⟩);gk (s:=(⟨Cz,U.at_⟩:jr)) (x:=(⟨(yN U.e),U.at_⟩:gV)) u uB dC λs_x68 _ u=>?_);refine⟨aI td (u.p1.hb.cell rfl),?_⟩;have u:=u.p2;refine fS u uB (by rw[aj2,l0];omega) dC (λs_x69 _ u=>aA j1 ?_)
  obtain⟨ZF,rfl⟩:=u.oZ;exact aW u.p1 td (dR rfl) (rfl) (λ_ u=>have u:=u.enc (cs':=hZ (⟨M,E,G,I,B,ZF⟩:bN)) rfl;aK bM (have u:=u.p8.p8.p8.p8.p8.p8.p8.p8.p8;⟨_,bM,j+1,ZF,rfl,rfl,bM,bM,by rw[<- gP (k:=j) ZE];exact u⟩))
 refine aD eL u.At (aJ (x:=(⟨M,E,G,I,B,O⟩:bN)) u.p8 eL rfl rfl λ_ u=>aD eL u.At ?_);rw[sF (xs:=p.eb) (k:=j) (m:=6) bM bM (gS sf)]at u;have u:=u.p3.nP.p4.freeze.p1.gd.p4.freeze.p1.gd.p4.nP.p1.gd.p4.nP.p1.gd;have u:=u.p3.nP.p1.gd.dF (Ψ:=(λw=>mv w (⟨M,E,G,I,B,O⟩:bN) (⟨((p.lines.take 6).map jz),(jz p.iO),(jz p.eI),(kW p.threads),(kW p.recover),((p.eb.take 6).map FD)⟩:cA))) (λ_ h=>⟨_,_,_,_,_,_,rfl,h.1.1.1.1.1,DL.jV h.1.1.1.1.2,DL.jV h.1.1.1.2,h.1.1.2,h.1.2,h.2⟩)
 have u:=u.p1.drop.p1.drop.p1.drop;exact⟨_,rfl,u.fresh⟩
def tI(l:List Int)(i:Nat):Int:=if i=0 then 0 else l.getD (i-1) 0+1
theorem ZG(x:bP)(loops:Int):loops+JC (decide (x.kind=12))=Bk.D2 x loops:=by
 unfold Bk.D2 JC
 grind
def aq5(b:Bool):0<=JC b/\JC b<=1:=by cases b<;>decide
def C309(sv fv:Value)(xs:List bP)(φ:bP->Prop)(g:bP->Bool)(w:World)(hL:DL w sv xs)(hf:tG g6 w fv φ g)(hφ:∀x∈xs,φ x)(hn:xs.length<=1073741824):CR 309 [sv,fv] w (λv w'=>v=hH (si g xs)/\Ext w w'):=by
 obtain⟨g0,first,cap,rfl,nU,jZ⟩:=hf;have u:=St.start w;refine eZ Tryz.func309 ?_;obtain⟨Y,U,V⟩:=hL.open;have Z:=V.1;refine aH fq (U.ext u.aF) ?_;refine⟨λm x J=>∃k:Nat,x=hH (k:Int)/\m=xs.length-k/\k<=xs.length/\(∀y∈xs.take k,g y=false)/\St w aZ [] J,⟨_,0,rfl,rfl,la _,ee,u⟩,?_⟩;rintro m _ J ⟨k,rfl,rfl,hk,B,u⟩ _;refine aQ (aC (λjC=>?_) λ_=>⟨fM (ng .i64) (ja (by rw[kE bM]at B;exact B)).symm,u.aF⟩);obtain⟨ix,O⟩:=gx Y (i:=(k:Int).toNat) bM;obtain⟨zi,E⟩:=gx xs (i:=(k:Int).toNat) bM
 obtain⟨JV,G,rfl,W,I⟩:=V.2 _ _ _ O E;refine aN fq U bM O (λ_ ij=>aD eK (ij.ext u.aF) (gZ nU (jZ _ zi J u.aF ⟨JV,G,rfl,(W.ext u.aF),(I.ext u.aF)⟩ (hφ _ (kp E))) ?_));rintro _ _ ⟨rfl,he⟩;have u:=u.ext he;exact aY (λM=>⟨fM (ng .i64) (l8 B E M).symm,u.aF⟩) (λM=>aK bM ⟨_,bM,k+1,rfl,rfl,bM,dW B E M,u⟩)
def C282(sv fv:Value)(xs:List bP)(φ:bP->Prop)(g:bP->Bool)(w:World)(G:DL w sv xs)(E:tG g6 w fv φ g)(B:∀x∈xs,φ x)(I:xs.length<=1073741824):CR 282 [sv,fv] w (λv w'=>v=.bool (xs.any g)/\Ext w w'):=by
 have u:=St.start w;refine eZ Tryz.func282 ?_;exact aV apW u (C309 _ _ _ _ _ _ (G.ext u.aF) (E.ext u.aF) B bM) (λ_ _ u=>cQ ⟨vb (kR _ _),u.aF⟩)
theorem C284(lv:Value)(xs:List bP)(loops:Int)(N:Nat)(w:World)(hL:DL w lv xs)(hn:xs.length<=40)(hlo:0<=loops)(Mp:loops+N<=4194304)(hN:xs.length<N):CR 284 [lv,hH loops] w (λv w'=>v=hH (fC xs loops)/\Ext w w'):=by
 have E:=St.start w;refine aef _ _ _ _ ?_;unfold S284;refine⟨λm y x w1=>∃(k:Nat) (n:Int),y=hH n/\x=hH (k:Int)/\m=xs.length-k/\k<=xs.length/\0<=n/\n<=41/\fC xs loops=so n (fC (xs.drop k) loops)/\St w aZ [] w1,⟨_,0,0,rfl,rfl,rfl,bM,bM,bM,by have:=tH xs loops;rw[List.drop_zero];unfold so;split<;>omega,E⟩,?_⟩;rintro m _ _ w1 ⟨k,n,rfl,rfl,rfl,hk,Ys,Yf,hinv,E⟩ _;obtain⟨zd,J,I⟩:=hL.open;have hn4:=I.1;refine aH fq (J.ext E.aF) (aQ (aC (λep=>?_) λep=>?_))
 .obtain⟨lU,ik⟩:=gx zd (i:=(k:Int).toNat) bM;obtain⟨u,lD⟩:=gx xs (i:=(k:Int).toNat) bM;obtain⟨U,O,rfl,Td,Te⟩:=I.2 _ _ _ ik lD;refine aN fq J bM ik (λ_ lQ=>?_);have hdk:=drop_cons (xs:=xs) (k:=k) lD;rw[hdk]at hinv;have Mq:(xs.drop (k+1)).length=xs.length-(k+1):=qa;refine aD eK (lQ.ext E.aF) (aR E jq λZ _ E=>have E:=E.enc (cs':=hZ (⟨0,(ia #[]),(ia #[]),bW,bW,0,0,0,0⟩:bE)) rfl;aJ (x:=(⟨u.kind,u.eD,u.name,U,O,u.n,u.body,u.et,u.at_⟩:bE)) E eK rfl rfl λ_ E=>aK bM (aA iU (aB (v:=hH u.body) bO E.hb rfl (uH ?_))))
  obtain⟨W1,Y⟩:∃W,W=B2 (((k:Int)+1)+u.body):=⟨_,rfl⟩;rw[<- Y];refine aA iH (aB (v:=hH u.et) bO E.hb rfl (uH ?_));obtain⟨M,V⟩:∃W,W=B2 (W1+u.et):=⟨_,rfl⟩;rw[<- V];refine⟨λG w'=>G=.bool (Bk.zM u)/\St w aZ [bY Z (hZ (⟨u.kind,u.eD,u.name,U,O,u.n,u.body,u.et,u.at_⟩:bE))] w',aA dN (aB (v:=hH u.kind) bO E.hb rfl (aG (aC (λ_=>⟨vb (by unfold Bk.zM;grind),E⟩) λ_=>aA dN (aB (v:=hH u.kind) bO E.hb rfl (aG ⟨vb (by unfold Bk.zM;grind),E⟩))))),?_⟩
  rintro _ _ ⟨rfl,E⟩ _;refine⟨λG w'=>G=.bool (decide (u.body<0\/u.et<0\/(xs.length:Int)<u.body\/(xs.length:Int)<u.et\/(xs.length:Int)<M))/\St w aZ [bY Z (hZ (⟨u.kind,u.eD,u.name,U,O,u.n,u.body,u.et,u.at_⟩:bE))] w',aA iU (aB (v:=hH u.body) bO E.hb rfl (aQ (aC (λ_=>⟨vb cJ,E⟩) λxh=>?_))),?_⟩
  .refine aA iH (aB (v:=hH u.et) bO E.hb rfl (aQ ?_));exact aC (λ_=>⟨vb cJ,E⟩) (λ_=>aA iU (aB (v:=hH u.body) bO E.hb rfl (aH fq (J.ext E.aF) (cP (aC (λ_=>⟨vb cJ,E⟩) λ_=>aA iH (aB (v:=hH u.et) bO E.hb rfl (aH fq (J.ext E.aF) (cP (aC (λ_=>⟨vb cJ,E⟩) λ_=>aH fq (J.ext E.aF) (cP ⟨vb cJ,E⟩))))))))))
  rintro _ _ ⟨rfl,E⟩ _;refine aY (λo8=>?_) (λo8=>?_)
  .have hW:0<=u.body/\u.body<=40/\0<=u.et/\u.et<=40->M=(k:Int)+1+u.body+u.et:=λh=>by
    have h1:W1=(k:Int)+1+u.body:=by rw[Y];exact zF bM
    rw[V,zF bM];omega
   exact⟨fM (ng .i64) (JF hinv (by unfold uL;grind)).symm,E.drop.aF⟩
  have hq:=gS o8
  have hW:M=(k:Int)+1+u.body+u.et:=by
   have h1:W1=(k:Int)+1+u.body:=by rw[Y];exact zF bM
   rw[V,zF bM];omega
  have oK:uL u (xs.drop (k+1)):=by unfold uL;omega
  refine⟨λG w'=>G=.bool (!Bk.yp u loops)/\St w aZ [bY Z (hZ (⟨u.kind,u.eD,u.name,U,O,u.n,u.body,u.et,u.at_⟩:bE))] w',⟨λG w'=>G=.bool (!Bk.zM u&&decide (0<u.body))/\St w aZ [bY Z (hZ (⟨u.kind,u.eD,u.name,U,O,u.n,u.body,u.et,u.at_⟩:bE))] w',bQ (aY (λ_=>aA iU (aB (v:=hH u.body) bO E.hb rfl (cP ⟨vb cJ,E⟩))) λ_=>⟨vb cJ,E⟩),?_⟩,?_⟩
  .rintro _ _ ⟨rfl,E⟩ _;refine aY (λ_=>⟨vb (by unfold Bk.yp;unfold Bk.zM at *;grind),E⟩) (λag7=>⟨λG w'=>G=.bool (decide (¬ u.kind=11/\0<u.et))/\St w aZ [bY Z (hZ (⟨u.kind,u.eD,u.name,U,O,u.n,u.body,u.et,u.at_⟩:bE))] w',aA dN (aB (v:=hH u.kind) bO E.hb rfl (bV (aC (λ_=>aA iH (aB (v:=hH u.et) bO E.hb rfl (cP ⟨vb cJ,E⟩))) λ_=>⟨vb cJ,E⟩))),?_⟩);rintro _ _ ⟨rfl,E⟩ _;exact aY (λ_=>⟨vb (by unfold Bk.yp;unfold Bk.zM at *;grind),E⟩) (λ_=>aA dN (aB (v:=hH u.kind) bO E.hb rfl (aG (aC (λ_=>aG ⟨vb (by unfold Bk.yp;unfold Bk.zM at *;grind),E⟩) λ_=>⟨vb (by unfold Bk.yp;unfold Bk.zM at *;grind),E⟩))))
  rintro _ _ ⟨rfl,E⟩ _;refine aY (λ_=>⟨fM (ng .i64) (JF hinv cJ).symm,E.drop.aF⟩) (λauq=>?_);have jT:Bk.yp u loops=true:=cJ
  have aja:=oK;unfold uL at aja;refine⟨λG w'=>∃n':Int,G=hH n'/\0<=n'/\n'<=41/\fC xs loops=so n' (fC (xs.drop (k+1+(u.body.toNat+u.et.toNat))) loops)/\St w aZ [bY Z (hZ (⟨u.kind,u.eD,u.name,U,O,u.n,u.body,u.et,u.at_⟩:bE))] w',aY (λCA=>?_) (λCA=>?_),?_⟩
  .have hb01:=ZG u loops;have hbb:=aq5 (decide (u.kind=12));have hcA:((xs.take (((k:Int)+1)+u.body).toNat).drop ((k:Int)+1).toNat)=(xs.drop (k+1)).take u.body.toNat:=vv xs bM bM;have hcB:((xs.take M.toNat).drop (((k:Int)+1)+u.body).toNat)=((xs.drop (k+1)).drop u.body.toNat).take u.et.toNat:=by rw[sZ];exact vv xs bM bM
   have hlA:((xs.take (((k:Int)+1)+u.body).toNat).drop ((k:Int)+1).toNat).length<=xs.length-1/\((xs.take (((k:Int)+1)+u.body).toNat).drop ((k:Int)+1).toNat).length<=40:=by rw[hcA,lY];omega
   have hlB:((xs.take M.toNat).drop (((k:Int)+1)+u.body).toNat).length<=xs.length-1/\((xs.take M.toNat).drop (((k:Int)+1)+u.body).toNat).length<=40:=by rw[hcB,lY,qa];omega
   refine aA dN (aB (v:=hH u.kind) bO E.hb rfl (aG (aV Xq E (C302 _ _) λ_ he E=>aK bM (aK bM (aK bM (aA iU (have E:=E.drew;aB (v:=hH u.body) bO E.hb rfl (aK bM (oA fq (J.ext E.aF) bM bM bM λax2 aez=>?_)))))))));have aeA:=DL.cut aez J I;refine aK bM (aA iU (aB (v:=hH u.body) bO E.hb rfl (aK bM (oA fq (J.ext E.aF) bM bM bM λax3 aeB=>?_))));have aeC:=DL.cut aeB J I
   refine aV YY E (C284 _ _ _ (N-1) _ (aeA.ext E.aF) bM bM bM bM) (λ_ he E=>?_);refine⟨aI bO (E.hb.cell rfl),?_⟩;refine dO YY (C284 _ _ _ (N-1) _ (aeC.ext E.aF) bM bM bM bM) ?_;rintro _ _ ⟨rfl,he⟩;have E:=E.ext he;obtain⟨A,hA⟩:∃A,A=fC ((xs.take (((k:Int)+1)+u.body).toNat).drop ((k:Int)+1).toNat) (Bk.D2 u loops):=⟨_,rfl⟩;obtain⟨B,hB⟩:∃B,B=fC ((xs.take M.toNat).drop (((k:Int)+1)+u.body).toNat) (Bk.D2 u loops):=⟨_,rfl⟩;have hAb:=tH ((xs.take (((k:Int)+1)+u.body).toNat).drop ((k:Int)+1).toNat) (Bk.D2 u loops)
   have hBb:=tH ((xs.take M.toNat).drop (((k:Int)+1)+u.body).toNat) (Bk.D2 u loops);rw[<- hA]at hAb;rw[<- hB]at hBb;rw[ZG,<- hA,<- hB];have UQ:=Yq hinv oK jT CA A B (by rw[hA,hcA]) (by rw[hB,hcB]);refine⟨λG w'=>G=.bool (decide (A<0\/B<0))/\St w aZ [bY Z (hZ (⟨u.kind,u.eD,u.name,U,O,u.n,u.body,u.et,u.at_⟩:bE))] w',aG (aC (λ_=>⟨vb cJ,E⟩) λ_=>aG ⟨vb cJ,E⟩),?_⟩;rintro _ _ ⟨rfl,E⟩ _;refine aY (λQD=>⟨fM (ng .i64) (UQ.1 (ga QD)).symm,E.drop.aF⟩) (λQD=>aK bM (aK bM (Mb ?_)))
   have Yt:=UQ.2 (gS QD);rw[sZ,abp 1 A,abp 1 B]at Yt;exact⟨_,rfl,bM,bM,Yt,E⟩
  .have hdn:=ag5 hinv oK jT CA;rw[sZ]at hdn;exact⟨_,rfl,Ys,Yf,hdn,E⟩
  rintro _ _ ⟨n',rfl,ajd,aje,Yu,E⟩ _;exact⟨_,bM,k+1+(u.body.toNat+u.et.toNat),n',rfl,fM (ng .i64) bM,rfl,bM,ajd,aje,Yu,E.drop⟩
 rw[u1 bM,Cp]at hinv;exact⟨fM (ng .i64) (by rw[hinv];unfold so;omega),E.aF⟩
termination_by N
decreasing_by all_goals omega
theorem M7(xs:List bP):pO xs=(!(decide (40<xs.length)||xs.any λy=>!m9 y)&&decide (¬ fC xs 0 = -1/\fC xs 0<=12)):=by
 have:=tH xs 0
 grind[pO,m9,fC]
def C241(lv:Value)(xs:List bP)(w:World)(J:DL w lv xs)(Z:xs.length<=1048576)(O:∀x∈xs,x.e.length<=1048576/\x.f.length<=1048576):CR 241 [lv] w (λv w'=>v=.bool (pO xs)/\Ext w w'):=by
 have u:=St.start w;refine eZ Tryz.func241 ?_;refine⟨λB w'=>B=.bool (decide (40<xs.length)||xs.any λy=>!m9 y)/\St w aZ [] w',?_,?_⟩
 .obtain⟨U,G,E⟩:=J.open;have D9:=E.1;exact aH fq (G.ext u.aF) (cP (aC (λ_=>⟨vb cJ,u⟩) λ_=>aV apV u (C282 _ _ _ (λx=>x.e.length<=1048576/\x.f.length<=1048576) _ _ (J.ext u.aF) ⟨283,[],[],rfl,apM,λsv y V _ hd M=>C283 y sv V hd M.1 M.2⟩ O bM) λ_ _ u=>⟨vb cJ,u⟩))
 rintro _ _ ⟨rfl,u⟩ _;refine aY (λI=>?_) (λI=>?_)
 .refine⟨vb ?_,u.aF⟩;rw[M7,I];rfl
 have W:xs.length<=40:=cJ
 refine aV YY u (C284 _ _ _ (xs.length+1) _ (J.ext u.aF) bM bM bM bM) (λ_ Y u=>⟨λB w'=>B=.bool (decide (¬ fC xs 0 = -1/\fC xs 0<=12))/\St w aZ [] w',bV (aC (λ_=>gA ⟨vb cJ,u⟩) λ_=>⟨vb cJ,u⟩),?_⟩);rintro _ _ ⟨rfl,u⟩ _;refine⟨vb ?_,u.aF⟩;rw[M7,I];rfl
def JX(t:cM):Bool:=rA t.at_&&!t.dQ.any (λs=>!gQ s)&&pO t.body
theorem Tg(t:cM):(!gQ t.name||!JX t)=mz true t:=by
 unfold mz sq JX
 grind
theorem Th(t:cM):(decide (¬ t.name=⟨#[]⟩)||!JX t)=mz false t:=by
 unfold mz sq JX
 by_cases h:t.name=⟨#[]⟩
 .rw[h,show gQ (⟨#[]⟩:ByteArray)=false from dC]
  grind
 grind
theorem M8(p:cA):(!(p.lines.any nQ||!n6 4294967296 p.iO||!n6 0 p.eI||decide (1<p.recover.length))&&(!p.threads.any (mz true)&&!p.recover.any (mz false)&&!p.eb.any lR))=km p:=by
 unfold km nI
 grind
def SzS.ok{xs:List bP}(h:∀x∈xs,SzS x):∀x∈xs,x.e.length<=1048576/\x.f.length<=1048576:=λx u=>⟨(h x u).2.2.1,(h x u).2.2.2.1⟩
def C184(n:Int)(w:World):CR 184 [hH n] w (λv w'=>v=.bool (rA n)/\Ext w w'):=by
 have u:=St.start w;refine eZ Tryz.func184 ?_;refine⟨λE w'=>E=.bool (decide (0<=n/\n<=4000))/\w=w',cQ (aC (λ_=>gA ⟨yJ bM,rfl⟩) λ_=>⟨Xd bM,rfl⟩),?_⟩;rintro _ _ ⟨rfl,B⟩ _;subst B;exact⟨rfl,u.aF⟩
def C233(c:cI)(b2:Nat)(E:Int)(w:World)(hc:Cell w b2 0 (hH E)):CR 233 [hM c,.pointer (some ⟨b2,0,none⟩)] w (λv w'=>v=.bool (iP E c)/\Ext w w'):=by
 have u:=St.start w;refine eZ Tryz.func233 ?_;refine cH u (λB _ u=>⟨λG w'=>G=.bool (iP E c)/\St w aZ [bY B (hZ c)] w',aA kL (aB (v:=.string c.name) gB u.hb rfl (aV Mu u (C180 _ _) λ_ J u=>bQ (aY (λ_=>⟨vb (by unfold iP;grind),u⟩) λI=>?_))),?_⟩)
 .exact aA rX (aB (v:=hH c.n) bO u.hb rfl (aQ (aC (λ_=>⟨vb (by unfold iP;grind),u⟩) λ_=>aA rX (aB (v:=hH c.n) bO u.hb rfl (bX bO (hc.ext u.aF) (cP (aC (λ_=>⟨vb (by unfold iP;grind),u⟩) λ_=>aA uE (aB (v:=hH c.at_) bO u.hb rfl (aV Y0 u (C184 _ _) λ_ _ u=>bQ ⟨vb (by unfold iP;grind),u⟩)))))))))
 rintro _ _ ⟨rfl,u⟩ _;exact⟨rfl,u.drop.aF⟩
def C279(sv fv:Value)(xs:List cI)(g:cI->Bool)(w:World)(J:cZ (λ_=>True) w sv xs)(U:wi w fv g)(Z:xs.length<=1073741824):CR 279 [sv,fv] w (λv w'=>v=hH (si g xs)/\Ext w w'):=by
 obtain⟨g0,first,cap,rfl,W,Y⟩:=U;have u:=St.start w;refine eZ Tryz.func279 ?_;refine aH iu (J.ext u.aF) ?_;refine⟨λm x G=>∃k:Nat,x=hH (k:Int)/\m=xs.length-k/\k<=xs.length/\(∀y∈xs.take k,g y=false)/\St w aZ [] G,⟨_,0,rfl,rfl,la _,ee,u⟩,?_⟩;rintro m _ G ⟨k,rfl,rfl,hk,B,u⟩ _;refine aQ (aC (λjC=>?_) λ_=>⟨fM (ng .i64) (ja (by rw[kE bM]at B;exact B)).symm,u.aF⟩);obtain⟨V,E⟩:=gx xs (i:=(k:Int).toNat) bM;refine aN iu J bM E (λ_ O=>aD l6 (O.ext u.aF) (gZ W (Y V G u.aF) ?_))
 rintro _ _ ⟨rfl,M⟩;have u:=u.ext M;exact aY (λI=>⟨fM (ng .i64) (l8 B E I).symm,u.aF⟩) (λI=>aK bM ⟨xs.length-(k+1),bM,k+1,rfl,rfl,bM,dW B E I,u⟩)
def C232(sv fv:Value)(xs:List cI)(g:cI->Bool)(w:World)(E:cZ (λ_=>True) w sv xs)(B:wi w fv g)(G:xs.length<=1073741824):CR 232 [sv,fv] w (λv w'=>v=.bool (xs.any g)/\Ext w w'):=by
 have u:=St.start w;refine eZ Tryz.func232 ?_;exact aV apY u (C279 _ _ _ _ _ (E.ext u.aF) (B.ext u.aF) bM) (λ_ _ u=>cQ ⟨vb (kR _ _),u.aF⟩)
def C178(lv:Value)(xs:List cI)(B:Int)(w:World)(J:cZ (λ_=>True) w lv xs)(O:xs.length<=1048576):CR 178 [lv,hH B] w (λv w'=>v=.bool (n6 B xs)/\Ext w w'):=by
 have u:=St.start w;refine eZ Tryz.func178 ?_;refine nx u rfl (λG I u=>?_)
 have E:wi _ (.func (.func 233) [].toArray [.pointer (some ⟨G,0,none⟩)].toArray) (iP B):=
  ⟨233,[],_,rfl,apT,λy I M=>C233 y G B I ((u.hb.cell rfl).ext M)⟩
 exact aV apX u (C232 _ _ _ _ _ (J.ext u.aF) E bM) (λ_ _ u=>bQ ⟨rfl,u.drop.aF⟩)
def C239(s:ByteArray)(w:World):CR 239 [.string s] w (λv w'=>v=.bool (!gQ s)/\Ext w w'):=by
 have u:=St.start w;refine eZ Tryz.func239 ?_;exact aV Mu u (C180 _ _) (λ_ _ u=>bQ ⟨rfl,u.aF⟩)
def C181(t:cM)(G:cE)(w:World)(ht:mv w G t)(U:Yr t/\t.dQ.length<=500/\t.body.length<=500):CR 181 [hM G] w (λv w'=>v=.bool (JX t)/\Ext w w'):=by
 obtain⟨J,O,rfl,I,V⟩:=ht;have u:=St.start w;refine eZ Tryz.func181 ?_;refine cH u (λM E u=>⟨λW w'=>W=.bool (JX t)/\St w aZ [bY M (hZ (⟨t.name,J,O,t.at_⟩:cE))] w',aA qp (aB (v:=hH t.at_) bO u.hb rfl (aV Y0 u (C184 _ _) λ_ Y u=>aY (λZ=>?_) λ_=>⟨vb (by unfold JX;grind),u⟩)),?_⟩)
 .refine aA fQ (aB je u.hb rfl ?_);have B:=DL.flat I;exact aV ahe u (C240 _ _ _ (λs=>!gQ s) _ (B.ext u.aF) ⟨239,[],[],rfl,apU,λy E _=>C239 y E⟩ bM) (λ_ _ u=>bQ (aY (λ_=>aA lI (aB jJ u.hb rfl (aV apN u (C241 _ _ _ (V.ext u.aF) bM (SzS.ok U.1.2.2)) λ_ _ u=>⟨vb (by unfold JX;grind),u⟩))) λ_=>⟨vb (by unfold JX;grind),u⟩))
 rintro _ _ ⟨rfl,u⟩ _;exact⟨rfl,u.drop.aF⟩
def C179(t:cM)(G:cE)(w:World)(ht:mv w G t)(M:Yr t/\t.dQ.length<=500/\t.body.length<=500):CR 179 [hM G] w (λv w'=>v=.bool (mz true t)/\Ext w w'):=by
 obtain⟨B,E,rfl,I,J⟩:=ht;have u:=St.start w;refine eZ Tryz.func179 ?_;refine cH u (λO _ u=>⟨λU w'=>U=.bool (mz true t)/\St w aZ [bY O (hZ (⟨t.name,B,E,t.at_⟩:cE))] w',aA qo (aB (v:=.string t.name) gB u.hb rfl (aV Mu u (C180 _ _) λ_ _ u=>bQ (aY (λ_=>⟨vb (by rw[<- Tg];grind),u⟩) λ_=>aD m6 u.At (aV ahp u (C181 t _ _ ⟨B,E,rfl,(I.ext u.aF),(J.ext u.aF)⟩ M) λ_ _ u=>bQ ⟨vb (by rw[<- Tg];grind),u⟩)))),?_⟩);rintro _ _ ⟨rfl,u⟩ _;exact⟨rfl,u.drop.aF⟩
def C182(t:cM)(G:cE)(w:World)(ht:mv w G t)(M:Yr t/\t.dQ.length<=500/\t.body.length<=500):CR 182 [hM G] w (λv w'=>v=.bool (mz false t)/\Ext w w'):=by
 obtain⟨B,E,rfl,I,J⟩:=ht;have u:=St.start w;refine eZ Tryz.func182 ?_;refine cH u (λO _ u=>⟨λU w'=>U=.bool (mz false t)/\St w aZ [bY O (hZ (⟨t.name,B,E,t.at_⟩:cE))] w',aA qo (aB (v:=.string t.name) gB u.hb rfl (l4 (aC (λ_=>⟨vb (by rw[<- Th];grind),u⟩) λ_=>aD m6 u.At (aV ahp u (C181 t _ _ ⟨B,E,rfl,(I.ext u.aF),(J.ext u.aF)⟩ M) λ_ _ u=>bQ ⟨vb (by rw[<- Th];grind),u⟩)))),?_⟩);rintro _ _ ⟨rfl,u⟩ _;exact⟨rfl,u.drop.aF⟩
def C177(lv:Value)(xs:List cI)(w:World)(B:cZ (λ_=>True) w lv xs)(G:xs.length<=1048576):CR 177 [lv] w (λv w'=>v=.bool (nQ xs)/\Ext w w'):=by
 have u:=St.start w;refine eZ Tryz.func177 ?_;refine⟨λE w'=>E=.bool (nQ xs)/\St w aZ [] w',aH iu (B.ext u.aF) (aG (aC (λ_=>⟨vb (by unfold nQ;grind),u⟩) λ_=>aV YZ u (C178 _ _ _ _ (B.ext u.aF) bM) λ_ _ u=>bQ ⟨vb (by unfold nQ;grind),u⟩)),?_⟩;rintro _ _ ⟨rfl,u⟩ _;exact⟨rfl,u.aF⟩
def C183(c:gV)(cv:jr)(w:World)(hc:mv w cv c)(M:c.e.length<=1048576):CR 183 [hM cv] w (λv w'=>v=.bool (lR c)/\Ext w w'):=by
 obtain⟨E,rfl,B⟩:=hc;have u:=St.start w;refine eZ Tryz.func183 ?_;refine cH u (λI _ u=>⟨λJ w'=>J=.bool (lR c)/\St w aZ [bY I (hZ (⟨E,c.at_⟩:jr))] w',aA Jo (aB (v:=hH c.at_) bO u.hb rfl (aV Y0 u (C184 _ _) λ_ U u=>bQ (aY (λ_=>⟨vb (by unfold lR;grind),u⟩) λO=>?_))),?_⟩)
 .refine aA yj (aB jH u.hb rfl ?_);have G:=DL.flat B;exact aV SU u (C185 _ _ _ (G.ext u.aF) bM) (λ_ _ u=>bQ ⟨vb (by unfold lR;grind),u⟩)
 rintro _ _ ⟨rfl,u⟩ _;exact⟨rfl,u.drop.aF⟩
def C247(sv fv:Value)(xs:List (List cI))(φ:(List cI)->Prop)(g:(List cI)->Bool)(w:World)(hL:DL w sv xs)(hf:tG g6 w fv φ g)(hφ:∀x∈xs,φ x)(hn:xs.length<=1073741824):CR 247 [sv,fv] w (λv w'=>v=hH (si g xs)/\Ext w w'):=by
 obtain⟨g0,first,cap,rfl,nU,jZ⟩:=hf;have u:=St.start w;refine eZ Tryz.func247 ?_;obtain⟨O,E,G⟩:=hL.open;have Y:=G.1;refine aH pJ (E.ext u.aF) ?_;refine⟨λm x M=>∃k:Nat,x=hH (k:Int)/\m=xs.length-k/\k<=xs.length/\(∀y∈xs.take k,g y=false)/\St w aZ [] M,⟨_,0,rfl,rfl,la _,ee,u⟩,?_⟩;rintro m _ M ⟨k,rfl,rfl,hk,I,u⟩ _;refine aQ (aC (λjC=>?_) λ_=>⟨fM (ng .i64) (ja (by rw[kE bM]at I;exact I)).symm,u.aF⟩);obtain⟨ix,V⟩:=gx O (i:=(k:Int).toNat) bM;obtain⟨W,J⟩:=gx xs (i:=(k:Int).toNat) bM
 have B:DL w (hM ix) W:=G.2 _ _ _ V J;refine aN pJ E bM V (λ_ ij=>aD jF (ij.ext u.aF) ?_);have Z:=DL.flat B;refine gZ nU (jZ _ W M u.aF (B.ext u.aF) (hφ _ (kp J))) ?_;rintro _ _ ⟨rfl,he⟩;have u:=u.ext he;exact aY (λU=>⟨fM (ng .i64) (l8 I J U).symm,u.aF⟩) (λU=>aK bM ⟨_,bM,k+1,rfl,rfl,bM,dW I J U,u⟩)
def C186(sv fv:Value)(xs:List (List cI))(φ:(List cI)->Prop)(g:(List cI)->Bool)(w:World)(G:DL w sv xs)(E:tG g6 w fv φ g)(B:∀x∈xs,φ x)(I:xs.length<=1073741824):CR 186 [sv,fv] w (λv w'=>v=.bool (xs.any g)/\Ext w w'):=by
 have u:=St.start w;refine eZ Tryz.func186 ?_;exact aV apZ u (C247 _ _ _ _ _ _ (G.ext u.aF) (E.ext u.aF) B bM) (λ_ _ u=>cQ ⟨vb (kR _ _),u.aF⟩)
def C248(sv fv:Value)(xs:List cM)(φ:cM->Prop)(g:cM->Bool)(w:World)(hL:DL w sv xs)(hf:tG g6 w fv φ g)(Z:∀x∈xs,φ x)(hn:xs.length<=1073741824):CR 248 [sv,fv] w (λv w'=>v=hH (si g xs)/\Ext w w'):=by
 obtain⟨g0,first,cap,rfl,nU,jZ⟩:=hf;have u:=St.start w;refine eZ Tryz.func248 ?_;obtain⟨J,E,B⟩:=hL.open;have V:=B.1;refine aH fw (E.ext u.aF) ?_;refine⟨λm x M=>∃k:Nat,x=hH (k:Int)/\m=xs.length-k/\k<=xs.length/\(∀y∈xs.take k,g y=false)/\St w aZ [] M,⟨_,0,rfl,rfl,la _,ee,u⟩,?_⟩;rintro m _ M ⟨k,rfl,rfl,hk,G,u⟩ _;refine aQ (aC (λjC=>?_) λ_=>⟨fM (ng .i64) (ja (by rw[kE bM]at G;exact G)).symm,u.aF⟩);obtain⟨ix,U⟩:=gx J (i:=(k:Int).toNat) bM;obtain⟨zi,I⟩:=gx xs (i:=(k:Int).toNat) bM
 obtain⟨QE,QF,rfl,W,QH⟩:=B.2 _ _ _ U I;refine aN fw E bM U (λ_ ij=>aD m6 (ij.ext u.aF) (gZ nU (jZ _ zi M u.aF ⟨QE,QF,rfl,(W.ext u.aF),(QH.ext u.aF)⟩ (Z _ (kp I))) ?_));rintro _ _ ⟨rfl,Y⟩;have u:=u.ext Y;exact aY (λO=>⟨fM (ng .i64) (l8 G I O).symm,u.aF⟩) (λO=>aK bM ⟨_,bM,k+1,rfl,rfl,bM,dW G I O,u⟩)
def C187(sv fv:Value)(xs:List cM)(φ:cM->Prop)(g:cM->Bool)(w:World)(G:DL w sv xs)(E:tG g6 w fv φ g)(B:∀x∈xs,φ x)(I:xs.length<=1073741824):CR 187 [sv,fv] w (λv w'=>v=.bool (xs.any g)/\Ext w w'):=by
 have u:=St.start w;refine eZ Tryz.func187 ?_;exact aV ap0 u (C248 _ _ _ _ _ _ (G.ext u.aF) (E.ext u.aF) B bM) (λ_ _ u=>cQ ⟨vb (kR _ _),u.aF⟩)
def C249(sv fv:Value)(xs:List gV)(φ:gV->Prop)(g:gV->Bool)(w:World)(hL:DL w sv xs)(hf:tG g6 w fv φ g)(Z:∀x∈xs,φ x)(hn:xs.length<=1073741824):CR 249 [sv,fv] w (λv w'=>v=hH (si g xs)/\Ext w w'):=by
 obtain⟨g0,first,cap,rfl,nU,jZ⟩:=hf;have u:=St.start w;refine eZ Tryz.func249 ?_;obtain⟨G,O,M⟩:=hL.open;have awT:=M.1;refine aH uB (O.ext u.aF) ?_;refine⟨λm x I=>∃k:Nat,x=hH (k:Int)/\m=xs.length-k/\k<=xs.length/\(∀y∈xs.take k,g y=false)/\St w aZ [] I,⟨_,0,rfl,rfl,la _,ee,u⟩,?_⟩;rintro m _ I ⟨k,rfl,rfl,hk,B,u⟩ _;refine aQ (aC (λjC=>?_) λ_=>⟨fM (ng .i64) (ja (by rw[kE bM]at B;exact B)).symm,u.aF⟩);obtain⟨ix,U⟩:=gx G (i:=(k:Int).toNat) bM;obtain⟨zi,E⟩:=gx xs (i:=(k:Int).toNat) bM
 obtain⟨Y,rfl,V⟩:=M.2 _ _ _ U E;refine aN uB O bM U (λ_ ij=>aD Jn (ij.ext u.aF) (gZ nU (jZ _ zi I u.aF ⟨Y,rfl,(V.ext u.aF)⟩ (Z _ (kp E))) ?_));rintro _ _ ⟨rfl,W⟩;have u:=u.ext W;exact aY (λJ=>⟨fM (ng .i64) (l8 B E J).symm,u.aF⟩) (λJ=>aK bM ⟨_,bM,k+1,rfl,rfl,bM,dW B E J,u⟩)
def C188(sv fv:Value)(xs:List gV)(φ:gV->Prop)(g:gV->Bool)(w:World)(G:DL w sv xs)(E:tG g6 w fv φ g)(B:∀x∈xs,φ x)(I:xs.length<=1073741824):CR 188 [sv,fv] w (λv w'=>v=.bool (xs.any g)/\Ext w w'):=by
 have u:=St.start w;refine eZ Tryz.func188 ?_;exact aV ap2 u (C249 _ _ _ _ _ _ (G.ext u.aF) (E.ext u.aF) B bM) (λ_ _ u=>cQ ⟨vb (kR _ _),u.aF⟩)
def C108(p:cA)(pv:bN)(w:World)(E:mv w pv p)(B:PZ p):CR 108 [hM pv] w (λv w'=>v=.bool (km p)/\Ext w w'):=by
 obtain⟨bJ,bT,Z,aU,aX,bG,rfl,cO,dG,cW,cB,W,cN⟩:=E;have u:=St.start w;refine eZ Tryz.func108 ?_;refine cH u (λki G u=>⟨λV w'=>V=.bool (p.lines.any nQ||!n6 4294967296 p.iO||!n6 0 p.eI||decide (1<p.recover.length))/\St w aZ [bY ki (hZ (⟨bJ,bT,Z,aU,aX,bG⟩:bN))] w',aA gC (aB oO u.hb rfl (aV ahq u (C186 _ _ _ (λl=>l.length<=1048576) _ _ (cO.ext u.aF) ⟨177,[],[],rfl,apP,λ_ y G _ hd E=>C177 _ y G (DL.flat hd) E⟩ (λl hl=>by have:=B.line l hl;omega) (by have:=B.lines;omega)) λ_ Y u=>aY (λ_=>⟨vb cJ,u⟩) λjw=>?_)),?_⟩)
 .refine aA qe (aB jF u.hb rfl ?_);have U:=DL.flat dG;refine aV YZ u (C178 _ _ _ _ (U.ext u.aF) (by have:=B.iO;omega)) (λ_ Y u=>bQ (aY (λ_=>⟨vb cJ,u⟩) λjl=>aA nN (aB jF u.hb rfl ?_)));have O:=DL.flat cW;refine aV YZ u (C178 _ _ _ _ (O.ext u.aF) (by have:=B.eI;omega)) (λ_ Y u=>bQ (aY (λ_=>⟨vb cJ,u⟩) λfu=>aA oP (aB iz u.hb rfl ?_)));have hzr:=B.recover;obtain⟨ts14,I,M⟩:=(W).open;have hn14:=M.1;exact aH fw (I.ext u.aF) (cP ⟨vb cJ,u⟩)
 rintro _ _ ⟨rfl,u⟩ _;refine aY (λJ=>?_) (λJ=>⟨λV w'=>V=.bool (!p.threads.any (mz true)&&!p.recover.any (mz false)&&!p.eb.any lR)/\St w aZ [bY ki (hZ (⟨bJ,bT,Z,aU,aX,bG⟩:bN))] w',?_,?_⟩)
 .refine⟨vb ?_,u.drop.aF⟩;rw[<- M8,J];simp
 .refine aA kB ?_;exact aB iz u.hb rfl (aV Y3 u (C187 _ _ _ (λt=>Yr t/\t.dQ.length<=500/\t.body.length<=500) _ _ (cB.ext u.aF) ⟨179,[],[],rfl,apQ,λsv y G _ hd E=>C179 y sv G hd E⟩ (λ_ ht=>B.qP (List.mem_append_left _ ht)) (by have:=B.threads;omega)) λ_ _ u=>bQ (aY (λ_=>aA oP (aB iz u.hb rfl (aV Y3 u (C187 _ _ _ (λt=>Yr t/\t.dQ.length<=500/\t.body.length<=500) _ _ (W.ext u.aF) ⟨182,[],[],rfl,apR,λsv y G _ hd E=>C182 y sv G hd E⟩ (λ_ ht=>B.qP (List.mem_append_right _ ht)) (by have:=B.recover;omega)) λ_ _ u=>bQ (aY (λ_=>aA j1 (aB td u.hb rfl (aV ap1 u (C188 _ _ _ (λc=>c.e.length<=1048576) _ _ (cN.ext u.aF) ⟨183,[],[],rfl,apS,λsv y G _ hd E=>C183 y sv G hd E⟩ (λc hc=>(B.zc c hc).1) (by have:=B.eb;omega)) λ_ _ u=>bQ ⟨vb cJ,u⟩))) λ_=>⟨vb cJ,u⟩)))) λ_=>⟨vb cJ,u⟩))
 rintro _ _ ⟨rfl,u⟩ _;refine⟨vb ?_,u.drop.aF⟩;rw[<- M8,J];simp
variable (w:World) (K:Value->g7)
def S109(p0:Value):Prop:=
 qW g6 (yB 27 p0) w λp1 a=>fA 27 p1 3 λb=>lA 24 b a λc=>lN 24 c λd=>eS (λB=>fA 27 p1 0 λe=>lA 22 e a λf=>lN 22 f λg=>bB .gtr 3 g (i 4) λh=>
 cV h (B tt a) (fA 27 p1 0 λj=>lA 22 j a λk=>cF 186 [k,(.func (.func 189) #[] #[])] a λl n=>cV l (B tt n) (fA 27 p1 1 λo=>lA 23 o n λp=>lN 23 p λq=>bB .gtr 3 q (i 4) λr=>
 cV r (B tt n) (fA 27 p1 2 λs=>lA 23 s n λt=>lN 23 t λu=>bB .gtr 3 u (i 2) λv=>cV v (B tt n) (bB .eql 3 d (i 0) λx=>cV x (B tt n) (bB .gtr 3 d (i 3) λy=>
 cV y (B tt n) (lA 27 p1 n λz=>cF 110 [z] n λU W=>cF 187 [U,(.func (.func 190) #[] #[])] W λG E=>cV G (B tt E) (fA 27 p1 5 λI=>lA 25 I E λO=>lN 25 O λV=>
 bB .gtr 3 V (i 4) λJ=>B J E)))))))) (λM Y=>∀_:Env,
 K M Y)
theorem aeD(p0:Value)(h:S109 w K p0):CR 109 [p0] w K:=
 qm 51 (λ_=>.nil) 4 [.tmp 2] Tryz.func109 h
def S111(E M:Value):Prop:=
 kG (λG B a=>∀_:Env,
 lN 141 E λb=>bA .lss 3 B b λc=>cV c (iA 141 E B λd=>lA 193 d a λe=>aL 193 a λf g=>sA 193 f e g λh=>bB .add 3 B (i 1) λj=>fA 193 f 6 λk=>lA 3 k h λl=>
 bA .add 3 j l λn=>fA 193 f 7 λo=>lA 3 o h λp=>bA .add 3 n p λq=>eS (λK2=>fA 193 f 0 λr=>lA 3 r h λs=>bB .eql 3 s (i 12) λt=>cV t (fA 193 f 5 λu=>
 lA 3 u h λv=>bA .mul 3 M v λx=>K2 x h) (K2 M h)) (λI y=>∀_:Env,
 bB .gtr 3 I (i 64) λz=>cV z (fA 193 f 8 λY=>lA 3 Y y λab=>K (.tuple #[ab,tt]) y) (bB .add 3 B (i 1) λU=>eT g6 (nT 141 E (some U) (some q) none) λW=>
 cF 111 [W,I] y λJ O=>xT J 0 λZ=>xT J 1 λV=>cV V (K (.tuple #[Z,tt]) O) (G q O)))) (K (.tuple #[(i 0),ff]) a)) (λG=>G (i 0) w)
theorem aeE(B u:Value)(h:S111 w K B u):CR 111 [B,u] w K:=
 qm 53 (λ_=>.nil) 48 [.tmp 4,.tmp 5] Tryz.func111 h
theorem Tj:PL 115:=dL Tryz.func115
theorem Tl:PL 195:=dL Tryz.func195
theorem aya:PL 50:=dL Tryz.func50
theorem ZJ:PL 54:=dL Tryz.func54
theorem ara:PL 52:=dL Tryz.func52
theorem ayb:PL 51:=dL Tryz.func51
theorem ayc:PL 55:=dL Tryz.func55
theorem HW:PL 159:=dL Tryz.func159
theorem Tm:PL 110:=dL Tryz.func110
theorem arb:PL 109:=dL Tryz.func109
theorem arc:PL 189:=dL Tryz.func189
theorem ard:PL 190:=dL Tryz.func190
theorem ahE:PL 111:=dL Tryz.func111
theorem are:PL 191:=dL Tryz.func191
theorem arf:PL 250:=dL Tryz.func250
end Go.Proofs.YtpdlpabnlkofmaaGreatDoor
namespace Go.Fw
section
variable {α:Type}[Flat α] {P:Program}{w w0:World}{A:Nat->Prop}{L:List HP}
theorem M9{T E O G R:Nat}{kn U:IntKind}{K:Value->g7}(W:St w0 A L w)(ht:Wy P T E (l2 α) O)(hk:P.underlying G=some (.int kn))(h1:1<=l2 α)(n:Nat)(hn:0<n)(J:n<=1048576)(V:O<=8192)
  (k:∀b cap w',n<=cap->St w0 A (bH (.slice (some ⟨b,0,none⟩) 0 cap) ([]:List α)::L) w'->K (.slice (some ⟨b,0,none⟩) n cap) w'):qW P (Builtin.append_ #[T,G] R [.slice none 0 0,.int U (n:Int)].toArray) w K:=by
 obtain⟨Z,u,hi,oK,wI,B⟩:=fp ht
 obtain⟨z,Y,I⟩:∃z,u.zero=some z/\z.cells.size=l2 α:=by
  cases h:u.zero with
  | none=>rw[h]at B;cases B
  | some z=>rw[h]at B;exact⟨z,rfl,by simpa using B⟩
 have M:n*u.bytes<=281474976710656:=by
  have:=Nat.mul_le_mul J (show u.bytes<=8192 by omega)
  omega
 have hr:=Lib.run_append_nil_zeros (P:=P) w T G R E u z U kn Z hk hi Y n hn bM bM M
 have UA:=grownCap_ge w n 0 E
 refine⟨_,_,hr,k _ _ _ bM ?_⟩
 refine W.drew.new (F:=(· = w.heap.size)) (Ext.alloc _ _) (.inr ⟨_,_,(Builtin.zeroCells z.cells n++Builtin.zeroCells z.cells (grownCap w n 0 E-n)).toList,rfl,?_,?_,λ_=>Iff.rfl⟩) λb hb=>zH hb.symm
 .exact⟨E,by rw[show flat ([]:List α)=[]from rfl,BF,Array.toArray_toList];exact mh _ _⟩
 refine⟨la _,zH (Eq.symm ?_)⟩
 show([]++_).length=_
 rw[BF,Array.length_toList,Array.size_append,size_zeroCells,size_zeroCells,I,<- Nat.add_mul]
 congr 1;omega
theorem Na{T E sz B R n c:Nat}{z:Option Nat}{a:Option Addr}{K:Value->Prop}(ht:eM P T=some (E,sz,B,z))(k:K (hH (c:Int))):eT P (Builtin.cap_ #[T] R [Value.slice a n c].toArray) K:=by
 obtain⟨u,_⟩:=fp ht
 refine⟨_,?_,k⟩
 unfold Builtin.cap_
 simp[cT,cS u]
 rfl
theorem Nb{T E sz u n c:Nat}{z:Option Nat}{a:Option Addr}{K:Value->Prop}(ht:eM P T=some (E,sz,u,z))(B:a.map (·.add (0*sz))=a)(k:K (.slice a 0 c)):eT P (nT T (.slice a n c) none (some (hH 0)) none) K:=by
 refine⟨_,wH ht (ou (.inl ⟨rfl,rfl⟩) (.inr ⟨0,rfl,Int.le_refl _,rfl⟩) (o1 _) (la _)),?_⟩
 grind
end
end Go.Fw
namespace Go.Proofs.YtpdlpabnlkofmaaGreatDoor
open Go.Fw
theorem xA{α:Type}{ls:List (List α)}{k:Nat}{l:List α}(h:ls[k]?=some l):(ls.take (k+1)).flatten=(ls.take k).flatten++l:=by
 rw[<- gO h];simp
def JY{α:Type}(ls:List (List α))(k:Nat):(ls.take k).flatten.length<=ls.flatten.length:=by
 conv=>rhs;rw[<- o6 k ls,List.flatten_append,kU]
 omega
def ahF{α:Type}[Flat α](w:World):cZ (λ_=>True) w (.slice none 0 0) ([]:List α):=⟨none,0,rfl,la _,.inl ⟨rfl,rfl⟩⟩
def C250(n:Nat)(w:World)(G:n<=1048576):CR 250 [.slice none 0 0,hH (n:Int)] w (λv w'=>kP (bH v ([]:List cE)) w w'):=by
 have u:=St.start w;refine eZ Tryz.func250 ?_;refine⟨λw'=>w'=w,aQ (aC (λc=>absurd c bM) λ_=>rfl),?_⟩;rintro B E _;subst E;refine⟨λI w'=>St B aZ [bH I ([]:List cE)] w',?_,?_⟩
 .refine Na fw (aH fw (ahF (α:=cE) B) (fr ee (fr (by simp;omega) (cP (aC (λc=>?_) λ_=>u.eV)))));refine Na fw (Nb fw rfl ?_);have e:(n:Int)-(((0:Nat):Int)-(([]:List cE).length:Int))=(n:Int):=ee
  rw[e]at c |-;exact M9 (α:=cE) (kn:=.i64) u fw (by kernel_rfl) dC n bM G dC (λ_ _ _ _ u=>aH fw (ahF (α:=cE) B) (Nb fw (by simp[Addr.add]) u))
 rintro v _ u _;exact u.fresh
def C191(lv:Value)(B:List (List cE))(w:World)(hL:awz w lv B)(hn:B.length<=1000)(hf:B.flatten.length<=100000):CR 191 [lv] w (λv w'=>kP (bH v B.flatten) w w'):=by
 obtain⟨I,O,hl,Y⟩:=hL;have u:=St.start w;refine eZ Tryz.func191 ?_;refine aH L3 (O.ext u.aF) ?_;refine⟨λm y x U=>∃k:Nat,y=hH ((B.take k).flatten.length:Int)/\x=hH (k:Int)/\m=I.length-k/\k<=I.length/\St w aZ [] U,⟨_,0,rfl,rfl,rfl,la _,u⟩,?_⟩;rintro m _ _ U ⟨k,rfl,rfl,rfl,hk,u⟩ _;refine aQ (aC (λc=>?_) λc=>?_)
 .obtain⟨s,J⟩:=gx I (i:=(k:Int).toNat) bM;obtain⟨t,M⟩:=gx B (i:=k) bM;have W:=Y k s t J M;have G:=JY B (k+1);have E:=xA M;rw[E,kU]at G;refine⟨λjv w'=>jv=hH ((B.take (k+1)).flatten.length:Int)/\St w aZ [] w',aN L3 O bM J (λ_ V=>aD iz (V.ext u.aF) (aH fw (W.ext u.aF) (aK bM (aQ (aC (λc=>absurd c bM) λ_=>⟨fM (ng .i64) (by rw[E,kU];omega),u⟩))))),?_⟩;rintro _ _ ⟨rfl,u⟩ _;exact aK bM ⟨_,bM,k+1,rfl,rfl,rfl,bM,u⟩
 have Z:B.take k=B:=kE bM;rw[Z];refine dT arf u (C250 _ _ bM) (λx24 _ cK u=>aH L3 (O.ext u.aF) ?_);refine⟨λm v x U=>∃k:Nat,x=hH (k:Int)/\m=I.length-k/\k<=I.length/\St w aZ [bH v ((B.take k).flatten)] U,⟨_,0,rfl,rfl,la _,u⟩,?_⟩;rintro m v _ _ ⟨k,rfl,rfl,hk,u⟩ _;refine aQ (aC (λc=>?_) λc=>?_)
 .obtain⟨s,J⟩:=gx I (i:=(k:Int).toNat) bM;obtain⟨t,M⟩:=gx B (i:=k) bM;have W:=Y k s t J M;have G:=JY B (k+1);have E:=xA M;rw[E,kU]at G;exact aN L3 O bM J (λ_ V=>aD iz (V.ext u.aF) (bL u fw (W.ext u.aF) bM dC λ_ _ u=>aK bM ⟨_,bM,k+1,rfl,rfl,bM,by rw[E];exact u⟩))
 rw[show B.take k=B from kE bM]at u;exact u.fresh
def aj6{w:World}{a b:SV}{x y:List cE}(h1:cZ (λ_=>True) w (hM a) x)(h2:cZ (λ_=>True) w (hM b) y):∀(i:Nat) (s:SV) (t:List cE),[a,b][i]?=some s->[x,y][i]?=some t->cZ (λ_=>True) w (hM s) t:=by
 grind
def C110(p:cA)(pv:bN)(B E:List cE)(w:World)(J:mv w pv p)(h3:cZ (λ_=>True) w (hM pv.threads) B)(h4:cZ (λ_=>True) w (hM pv.recover) E)(O:B.length<=500)(V:E.length<=500):CR 110 [hM pv] w (λv w'=>kP (bH v (B++E)) w w'):=by
 obtain⟨bJ,bT,bK,U,M,bG,rfl,Z,dG,cW,W,Y,cN⟩:=J;have u:=St.start w;refine eZ Tryz.func110 ?_;refine cH u (λki _ u=>aA kB (aB iz u.hb rfl (aA oP (aB iz u.hb rfl (bD ([U,M]) u L3 rfl rfl (dR rfl) λI _ u=>dT are u (C191 _ [B,E] _ ⟨_,u.dS,rfl,aj6 (h3.ext u.aF) (h4.ext u.aF)⟩ ee (by simp;omega)) λx8 _ cK u=>?_)))));have G:=u.p1.drop.p1.drop;rw[show [B,E].flatten=B++E from ee]at G;exact G.fresh
def aj7(p:cA):(decide (4<(p.lines.length:Int))||p.lines.any (λl=>decide (4<(l.length:Int)))||decide (4<(p.iO.length:Int))||decide (2<(p.eI.length:Int))||decide ((p.threads.length:Int)=0)||decide (3<(p.threads.length:Int))||(gu p).any (λt=>decide (4<(t.dQ.length:Int)))||decide (4<(p.eb.length:Int)))=uP p:=by
 unfold uP
 grind
def Tn{p:cA}(h:∀l∈p.lines,l.length<=500)(u:p.lines.length<=500)(k:Nat):(p.lines.take k).flatten.length<=250000:=by
 have h1:=JY p.lines k
 have h2:=cY h
 omega
def C159(sv:Value)(ns:List ByteArray)(s:ByteArray)(w:World)(B:cZ (λ_=>True) w sv ns)(E:ns.length<=1048576):CR 159 [sv,.string s] w (λv w'=>v=hH (cU ns s)/\Ext w w'):=by
 have u:=St.start w;refine eZ Tryz.func159 ?_;exact aV Yz u (C225 _ _ _ _ (B.ext u.aF) bM) (λ_ _ u=>⟨rfl,u.aF⟩)
def C54(p:cA)(pv:bN)(w:World)(hp:mv w pv p)(E:PZ p):CR 54 [hM pv] w (λv w'=>v=hH (eN p)/\Ext w w'):=by
 obtain⟨bJ,bT,bK,aU,aX,bG,rfl,cO,dG,cW,cB,cC,cN⟩:=hp;have u:=St.start w;refine eZ Tryz.func54 ?_;refine cH u (λki Z u=>aA gC (aB oO u.hb rfl ?_));obtain⟨M,G,B⟩:=cO.open;have hn15:=B.1;refine aH pJ (G.ext u.aF) ?_;refine⟨λm y x Z=>∃k:Nat,y=hH (((p.lines.take k).flatten.length:Nat):Int)/\x=hH (k:Int)/\m=p.lines.length-k/\k<=p.lines.length/\St w aZ [bY ki (hZ (⟨bJ,bT,bK,aU,aX,bG⟩:bN))] Z,⟨_,0,rfl,rfl,rfl,bM,u⟩,?_⟩
 rintro m _ _ _ ⟨k,rfl,rfl,rfl,hk,u⟩ _;have ZK:=Tn E.line E.lines k;have J:=Tn E.line E.lines (k+1);have hzl:=E.lines;refine aQ (aC (λgN=>?_) λgN=>?_)
 .obtain⟨HK,Y⟩:=gx M (i:=(k:Int).toNat) bM;obtain⟨O,U⟩:=gx p.lines (i:=(k:Int).toNat) bM;have V:DL w (hM HK) O:=B.2 _ _ _ Y U;refine aN pJ G bM Y (λ_ E8=>?_);have I:=xA (k:=k) U;rw[I,kU]at J;refine aD jF (E8.ext u.aF) ?_;have W:=DL.flat V;exact aH iu (W.ext u.aF) (aK bM (aK bM ⟨_,bM,k+1,fM (ng .i64) (by rw[xA (k:=k) U,kU];omega),rfl,rfl,bM,u⟩))
 rw[kE bM];exact⟨rfl,u.drop.aF⟩
def C51(p:cA)(pv:bN)(w:World)(W:mv w pv p)(U:PZ p):CR 51 [hM pv] w (λv w'=>kP (bH v (cL p)) w w'):=by
 obtain⟨bJ,bT,V,aU,Y,bG,rfl,cO,dG,cW,cB,cC,cN⟩:=W;have u:=St.start w;refine eZ Tryz.func51 ?_;refine cH u (λZ I u=>aA nN (aB jF u.hb rfl ?_));have B:=DL.flat cW;refine aH iu (B.ext u.aF) ?_;refine⟨λm y x I=>∃k:Nat,x=hH (k:Int)/\m=p.eI.length-k/\k<=p.eI.length/\St w aZ [bH y ((p.eI.take k).map cI.name),bY Z (hZ (⟨bJ,bT,V,aU,Y,bG⟩:bN))] I,⟨_,0,rfl,rfl,bM,u.eV (α:=ByteArray)⟩,?_⟩;rintro m o7 _ _ ⟨k,rfl,rfl,hk,u⟩ _
 have LC:((p.eI.take k).map cI.name).length=k:=by rw[mE,lY];omega
 have hzk:=U.eI;refine aQ (aC (λgN=>?_) λgN=>?_)
 .obtain⟨E,G⟩:=gx p.eI (i:=(k:Int).toNat) bM;refine aN iu B bM G (λ_ E8=>aD l6 (E8.ext u.aF) (aR u oU λJ _ u=>aJ (x:=E) u l6 rfl rfl λ_ u=>aA kL (aB (v:=.string E.name) gB u.hb rfl (bD ([E.name]) u iF rfl rfl (dR rfl) λO _ u=>?_))));have M:=u.dS;exact bL u.p2 iF M (by simp<;>omega) dC (λ_ _ u=>have u:=u.p1.drop;aK bM (have u:=u.p1.drop.p1.p1;⟨_,bM,k+1,rfl,rfl,bM,by rw[<- gP (k:=k) G];exact u⟩))
 have u:=u.p1.drop;rw[kE bM]at u;exact u.fresh
def C189(lv:Value)(xs:List cI)(w:World)(B:cZ (λ_=>True) w lv xs)(E:xs.length<=1048576):CR 189 [lv] w (λv w'=>v=.bool (decide (4<(xs.length:Int)))/\Ext w w'):=by
 have u:=St.start w;refine eZ Tryz.func189 ?_;exact aH iu (B.ext u.aF) (cP ⟨rfl,u.aF⟩)
def C190(t:cM)(E:cE)(w:World)(ht:mv w E t)(M:t.dQ.length<=500):CR 190 [hM E] w (λv w'=>v=.bool (decide (4<(t.dQ.length:Int)))/\Ext w w'):=by
 obtain⟨J,U,rfl,G,I⟩:=ht;have u:=St.start w;refine eZ Tryz.func190 ?_;refine cH u (λO _ u=>aA fQ (aB je u.hb rfl ?_));have B:=DL.flat G;exact aH iF (B.ext u.aF) (cP ⟨rfl,u.drop.aF⟩)
def C109(p:cA)(pv:bN)(w:World)(E:mv w pv p)(B:PZ p):CR 109 [hM pv] w (λv w'=>v=.bool (uP p)/\Ext w w'):=by
 obtain⟨bJ,bT,bK,aU,aX,bG,rfl,M,dG,cW,J,cC,cN⟩:=E;have u:=St.start w;refine aeD _ _ _ ?_;unfold S109;refine cH u (λki I u=>?_);have UM:=B.lines;have hz2:=B.iO;have hz3:=B.eI;have hz4:=B.threads;have hz5:=B.eb;obtain⟨vx,ZH,ZI⟩:=J.open;obtain⟨zd,QC,G⟩:=cC.open;have hn3:=ZI.1;have hn4:=G.1;have ajK:=D4 B.toPS;refine aA kB (aB iz u.hb rfl ?_);obtain⟨ts19,Y,U⟩:=J.open;have hn19:=U.1;refine aH fw (Y.ext u.aF) ⟨λjv w'=>jv=.bool (decide (4<(p.lines.length:Int))||p.lines.any (λl=>decide (4<(l.length:Int)))||decide (4<(p.iO.length:Int))||decide (2<(p.eI.length:Int))||decide ((p.threads.length:Int)=0)||decide (3<(p.threads.length:Int))||(gu p).any (λt=>decide (4<(t.dQ.length:Int)))||decide (4<(p.eb.length:Int)))/\St w aZ [bY ki (hZ (⟨bJ,bT,bK,aU,aX,bG⟩:bN))] w',?_,?_⟩
 .refine aA gC (aB oO u.hb rfl ?_);obtain⟨aqf,U8,Z⟩:=M.open;have aw1:=Z.1;refine aH pJ (U8.ext u.aF) (cP (aC (λ_=>⟨vb cJ,u⟩) λlj=>aA gC (aB oO u.hb rfl (aV ahq u (C186 _ _ _ (λl=>l.length<=1048576) _ _ (M.ext u.aF) ⟨189,[],[],rfl,arc,λ_ y I _ hd E=>C189 _ y I (DL.flat hd) E⟩ (λl hl=>by have:=B.line l hl;omega) (by have:=B.lines;omega)) λ_ he u=>aY (λ_=>⟨vb cJ,u⟩) λj8=>aA qe (aB jF u.hb rfl ?_)))));have aen:=DL.flat dG;refine aH iu (aen.ext u.aF) (cP (aC (λ_=>⟨vb cJ,u⟩) λm8=>aA nN (aB jF u.hb rfl ?_)))
  have ayi:=DL.flat cW;refine aH iu (ayi.ext u.aF) (cP (aC (λ_=>⟨vb cJ,u⟩) λahx=>aG (aC (λ_=>⟨vb cJ,u⟩) λzj=>cP (aC (λ_=>⟨vb cJ,u⟩) λo8=>aD eL u.At (dO Tm (C110 p _ vx zd _ ⟨bJ,bT,bK,aU,aX,bG,rfl,(M.ext u.aF),(dG.ext u.aF),(cW.ext u.aF),(J.ext u.aF),(cC.ext u.aF),(cN.ext u.aF)⟩ (ZH.ext u.aF) (QC.ext u.aF) (by have:=B.threads;omega) (by have:=B.recover;omega)) ?_)))));rintro x41 _ cK;have u:=u.made cK;have O:DL _ _ (gu p):=DL.of u.dS ((ZI.append G).ext u.aF)
  refine aV Y3 u (C187 _ _ _ (λt=>t.dQ.length<=500) _ _ O ⟨190,[],[],rfl,ard,λsv y I _ hd E=>C190 y sv I hd E⟩ (λ_ ht=>(B.qP ht).2.1) bM) (λ_ he u=>aY (λ_=>have u:=u.drop;⟨vb cJ,u⟩) λvR=>aA j1 (aB td u.p1.hb rfl ?_));obtain⟨ts23,W,V⟩:=cN.open;have hn23:=V.1;exact aH uB (W.ext u.aF) (cP (have u:=u.drop;⟨vb cJ,u⟩))
 rintro _ _ ⟨rfl,u⟩ _;exact⟨vb (aj7 p),u.drop.aF⟩
theorem vz(x:bP)(a b r:Bk)(n:Int):mC (.cons x a b r) n=(decide (64<q9 x n)||(mC a (q9 x n)||mC b (q9 x n))||mC r n):=rfl
def aeG{xs:List bP}{k:Nat}{x:bP}{a b r:Bk}(h:xs.drop k=(Bk.cons x a b r).flat)(u:(Bk.cons x a b r).str){hi lo:Int}(h1:hi=k+1+x.body+x.et)(h2:lo=k+1):(xs.take hi.toNat).drop lo.toNat=(a.app b).flat:=by
 have B:=u
 obtain⟨G,E,_⟩:=B
 have e:=Bk.Dt u (hi:=1+x.body+x.et) (lo:=1) rfl rfl
 rw[<- e,<- h,List.take_drop,sZ]
 grind
def ZL{xs:List bP}{k:Nat}{x:bP}{a b r:Bk}(h:xs.drop k=(Bk.cons x a b r).flat)(u:(Bk.cons x a b r).str):xs.drop (k+1+a.len+b.len)=r.flat:=by
 have B:=u
 obtain⟨G,E,_⟩:=B
 rw[<- Bk.ajs u (hi:=1+x.body+x.et) rfl,<- h,sZ]
 grind
def ZM{α:Type}{xs l:List α}{k:Nat}{x:α}(h:xs.drop k=x::l):xs[k]?=some x:=by
 have:=fM (λl=>l[0]?) h
 grind
theorem C111(lv:Value)(t:Bk)(n:Int)(N:Nat)(w:World)(hL:DL w lv t.flat)(iY:t.str)(hq:∀x∈t.flat,0<=x.at_/\(x.kind=12->1<=x.n/\x.n<=8))(hn:1<=n/\n<=64)(hl:t.len<=1048576)(hN:t.len<N):CR 111 [lv,hH n] w (λv w'=>∃a:Int,v=.tuple #[hH a,.bool (mC t n)]/\Ext w w'):=by
 have tW:=t.cY;have B:=St.start w;refine aeE _ _ _ _ ?_;unfold S111;refine⟨λm y w1=>∃(k:Nat) (u:Bk),y=hH (k:Int)/\m=t.len-k/\t.flat.drop k=u.flat/\k+u.len=t.len/\u.str/\(∀x∈u.flat,0<=x.at_/\(x.kind=12->1<=x.n/\x.n<=8))/\mC t n=mC u n/\St w aZ [] w1,⟨_,0,t,rfl,rfl,rfl,bM,iY,hq,rfl,B⟩,?_⟩;rintro m _ w1 ⟨k,u,rfl,rfl,QJ,O,J,I,G,B⟩ _;obtain⟨ajz,W,Vc⟩:=hL.open;have aw6:=Vc.1;refine aH fq (W.ext B.aF) (aQ (aC (λjl=>?_) λjl=>?_))
 .obtain⟨x,a,b,r,rfl⟩:=Bk.D5 (t:=u) (by rw[Bk.cY];omega);obtain⟨qx,gX⟩:=gx ajz (i:=(k:Int).toNat) bM;obtain⟨E,E9⟩:=gx t.flat (i:=(k:Int).toNat) bM;obtain⟨qh,qi,rfl,adK,adL⟩:=Vc.2 _ _ _ gX E9;refine aN fq W bM gX (λ_ sj=>?_);obtain rfl:E=x:=n4.inj (E9.symm.trans (ZM QJ));have M:=I E (by simp[Bk.flat]);have aym:=J;obtain⟨B6,GK,Va,hg4,Y,hgb,hgr⟩:=aym;have GL:k+(a.len+b.len+r.len+1)=t.len:=O;have hla:=a.cY;have Mp:=b.cY;have hlr:=r.cY;have rU:=aeG QJ J (hi:=(k:Int)+1+E.body+E.et) (lo:=(k:Int)+1) rfl rfl
  have Z:=ZL QJ J;refine aD eK (sj.ext B.aF) (aR B jq λxl _ B=>have B:=B.enc (cs':=hZ (⟨0,(ia #[]),(ia #[]),bW,bW,0,0,0,0⟩:bE)) rfl;aJ (x:=(⟨E.kind,E.eD,E.name,qh,qi,E.n,E.body,E.et,E.at_⟩:bE)) B eK rfl rfl λ_ B=>aK bM (aA iU (aB (v:=hH E.body) bO B.hb rfl (aK bM (aA iH (aB (v:=hH E.et) bO B.hb rfl (aK bM ⟨λjv w'=>∃m:Int,jv=hH m/\m=q9 E n/\St w aZ [bY xl (hZ (⟨E.kind,E.eD,E.name,qh,qi,E.n,E.body,E.et,E.at_⟩:bE))] w',aA dN (aB (v:=hH E.kind) bO B.hb rfl (aG (aC (λl9=>aA jK (aB (v:=hH E.n) bO B.hb rfl (DV (by have Vb:=M.2 l9;have h1:=Jh (a:=1) (b:=1) hn.1 Vb.1 bM bM;have h2:=Jh (c:=64) (d:=8) hn.2 Vb.2 bM bM;omega) ⟨_,rfl,by grind[q9],B⟩))) λ_=>⟨_,rfl,by grind[q9],B⟩))),?_⟩)))))))
  rintro _ _ ⟨m,rfl,U,B⟩ _;have hm8:=Y7 hn M.2 U;refine cP (aC (λo8=>?_) λo8=>?_)
  .refine aA lJ (aB (v:=hH E.at_) bO B.hb rfl ?_);refine⟨E.at_,?_,B.drop.aF⟩;rw[G,vz,<- U,ew (show(64:Int)<m by omega)];rfl
  refine aK bM (oA fq (W.ext B.aF) bM bM bM λaro QK=>?_);have JZ:=DL.cut QK W Vc;refine dO ahE (C111 _ (a.app b) m (N-1) _ (by have h:=(JZ.ext B.aF);rw[rU]at h;exact h) (Bk.S0 Y hgb) (λy V=>I y (by rw[Bk.Bi]at V;simp only[Bk.flat,sk,oF];rcases oF.1 V with h|h<;>simp[h])) bM (by rw[D6];omega) (by rw[D6];omega)) ?_;rintro _ _ ⟨a1,rfl,he⟩;have B:=B.ext he;rw[HU];refine aO rfl (aO rfl (aY (λsf=>?_) λsf=>⟨_,bM,k+1+a.len+b.len,r,fM (ng .i64) bM,rfl,Z,bM,hgr,(λy V=>I y (by simp[Bk.flat,V])),by rw[G,vz,<- U,ez (show ¬ (64:Int)<m by omega),sf];rfl,B.drop⟩))
  refine⟨a1,?_,B.drop.aF⟩;rw[G,vz,<- U,sf];simp
 cases u with
 | nil=>exact⟨_,by rw[G];rfl,B.aF⟩
 | cons x a b r=>exact absurd O (by show ¬ k+(a.len+b.len+r.len+1)=_;omega)
termination_by N
decreasing_by all_goals omega
def QL:Int->List (List cI)->List (cI×Int)
 | _,[]=>[]
 | k,l::r=>l.map (λc=>(c,k))++QL (k+1) r
def OY:Int->List cI->List (cI×Int)
 | _,[]=>[]
 | k,c::r=>(c,k)::OY (k+1) r
def uc(p:cA):List (cI×Int):=QL 0 p.lines++OY p.lines.length p.iO
theorem J0:∀(ls:List (List cI)) (k:Int),(QL k ls).length=ls.flatten.length
 | [],_=>rfl
 | l::r,k=>by simp[QL,J0 r]
theorem aeI:∀(vs:List cI) (k:Int),(OY k vs).length=vs.length
 | [],_=>rfl
 | c::r,k=>by simp[OY,aeI r]
theorem J1:∀(ls:List (List cI)) (k:Int),(QL k ls).map aad=ls.flatten
 | [],_=>rfl
 | l::r,k=>by simp[QL,J1 r,Function.comp_def]
theorem J2:∀(vs:List cI) (k:Int),(OY k vs).map aad=vs
 | [],_=>rfl
 | c::r,k=>by simp[OY,J2 r]
theorem ZN{l:List cI}{c:cI}{j:Nat}(u:l[j]?=some c):∀(ls:List (List cI)) (k:Int) (i:Nat),ls[i]?=some l->(QL k ls)[(ls.take i).flatten.length+j]?=some (c,k+i)
 | [],_,_,h=>by simp at h
 | a::r,k,0,h=>by
  grind[QL]
 | a::r,k,i+1,h=>by
  have B:=ZN u r (k+1) i cJ
  grind[QL]
theorem ZO:∀(vs:List cI) (k:Int) (j:Nat) (c:cI),vs[j]?=some c->(OY k vs)[j]?=some (c,k+j)
 | [],_,_,_,h=>by simp at h
 | a::r,k,0,c,h=>by simp at h;subst h;simp[OY]
 | a::r,k,j+1,c,h=>by
  have u:=ZO r (k+1) j c cJ
  grind[OY]
theorem Bu(p:cA):(uc p).map aad=iW p:=by unfold uc iW;rw[vf,J1,J2]
theorem uS(p:cA):(uc p).length=(iW p).length:=by rw[<- Bu,mE]
def Ve{p:cA}{l:List cI}{c:cI}{i j:Nat}(B:p.lines[i]?=some l)(u:l[j]?=some c):(uc p)[(p.lines.take i).flatten.length+j]?=some (c,(i:Int)):=by
 have h:=ZN u p.lines 0 i B
 unfold uc
 grind
def ZP{p:cA}{c:cI}{j:Nat}(u:p.iO[j]?=some c):(uc p)[p.lines.flatten.length+j]?=some (c,(p.lines.length:Int)+j):=by
 unfold uc
 rw[sK (by rw[J0];omega),J0,Gh,ZO _ _ _ _ u]
def C195(y:Value)(b:Nat)(g0 g1:SV)(p:cA)(J:Nat->g7)(Jx:g7)(w0 w:World)(hz:PS p)(hL:DL w0 (hM g0) p.lines)(hV:cZ (λ_=>True) w0 (hM g1) p.iO)
  (M:∀k W,J k W->Cell W b 0 (hM g0)/\Cell W b 1 (hM g1)/\Ext w0 W) (ZQ:∀k W O,J k W->Ext W O->J k O) (h0:J 0 w)
  (hy:∀k c i W,(uc p)[k]?=some (c,i)->J k W->kD g6 y [hM c,hH i] W λv O=>(v=.bool true/\J (k+1) O)\/(v=.bool false/\Jx O)) :
  CR 195 [y,.pointer (some ⟨b,0,none⟩)] w (λ_ W=>J (uc p).length W\/Jx W):=by
 obtain⟨ts,hR,hD⟩:=hL.open;have hn:=hD.1;have hzl:=hz.lines;have hzv:=hz.iO;refine eZ Tryz.func195 ?_;obtain⟨V,vA,he0⟩:=M 0 w h0;refine aA gC (bX oO V (aH pJ (hR.ext he0) ?_));refine⟨λm x E=>∃i:Nat,x=hH (i:Int)/\m=p.lines.length-i/\i<=p.lines.length/\J ((p.lines.take i).flatten.length) E,⟨_,0,rfl,rfl,la _,h0⟩,?_⟩;rintro m _ E ⟨i,rfl,rfl,hi,B⟩ _;refine aQ (aC (λc=>?_) λc=>?_)
 .obtain⟨l,hl⟩:=gx p.lines (i:=i) bM;obtain⟨t,ht⟩:=gx ts (i:=((i:Nat):Int).toNat) bM;have hdt:DL w0 (hM t) l:=hD.2 _ _ _ ht hl;have U:=DL.flat hdt;have zI:=hz.line l (kp hl);have Z:=(M _ _ B).2.2;refine aN pJ hR bM ht (λq G=>aD jF (G.ext Z) (aH iu (U.ext Z) ?_));refine⟨λm x E=>∃j:Nat,x=hH (j:Int)/\m=l.length-j/\j<=l.length/\J ((p.lines.take i).flatten.length+j) E,⟨_,0,rfl,rfl,la _,B⟩,?_⟩;rintro m _ w2 ⟨j,rfl,rfl,C1,B⟩ _;refine aQ (aC (λc=>?_) λ_=>aK bM ⟨_,bM,i+1,rfl,rfl,bM,by rw[xA hl,kU,show l.length=j from bM];exact B⟩)
  obtain⟨x,I⟩:=gx l (i:=((j:Nat):Int).toNat) bM;have Y:=(M _ _ B).2.2;have u:=St.start w2;refine aN iu U bM I (λq G=>aD l6 (G.ext Y) (aR u oU λb6 _ u=>aJ (x:=x) u l6 rfl rfl λw4 u=>aD l6 u.At ?_));refine kD.mono (hy _ x i w4 (Ve hl I) (ZQ _ _ _ B u.aF)) ?_;rintro v w5 (⟨rfl,Bs⟩|⟨rfl,HY⟩)
  .exact bQ (ft (aK bM ⟨_,bM,j+1,rfl,rfl,bM,Bs⟩))
  exact bQ (gU (.inr HY))
 rw[show p.lines.take i=p.lines from kE bM]at B;obtain⟨V,vA,Z⟩:=M _ _ B;refine aA qe (bX jF vA (aH iu (hV.ext Z) ?_));refine⟨λm x E=>∃j:Nat,x=hH (j:Int)/\m=p.iO.length-j/\j<=p.iO.length/\J (p.lines.flatten.length+j) E,⟨_,0,rfl,rfl,la _,B⟩,?_⟩;rintro m _ w6 ⟨j,rfl,rfl,C1,B⟩ _;refine aQ (aC (λc=>?_) λc=>?_)
 .obtain⟨x,I⟩:=gx p.iO (i:=((j:Nat):Int).toNat) bM;obtain⟨V,vA,Y⟩:=M _ _ B;have u:=St.start w6;refine aN iu hV bM I (λq G=>aD l6 (G.ext Y) (aR u oU λb8 _ u=>aJ (x:=x) u l6 rfl rfl λw8 u=>aD l6 u.At (aA gC (bX oO (V.ext u.aF) (aH pJ (hR.ext (Y.trans u.aF)) (aK bM ?_))))));rw[hn];refine kD.mono (hy _ x _ w8 (ZP I) (ZQ _ _ _ B u.aF)) ?_;rintro v w9 (⟨rfl,Bs⟩|⟨rfl,HY⟩)
  .exact bQ (ft (aK bM ⟨_,bM,j+1,rfl,rfl,bM,Bs⟩))
  exact bQ (gU (.inr HY))
 refine .inl ?_;rw[uS]
 grind[iW]
def C115(pv:bN)(w:World):CR 115 [hM pv] w (λv w'=>∃b,v=.func (.func 195) [].toArray [.pointer (some ⟨b,0,none⟩)].toArray/\kP (bY b (hZ pv)) w w'):=by
 have u:=St.start w;refine eZ Tryz.func115 ?_;exact cH u (λb _ u=>⟨b,rfl,u.fresh⟩)
def C50(p:cA)(pv:bN)(w:World)(hp:mv w pv p)(Z:PZ p):CR 50 [hM pv] w (λv w'=>kP (bH v (cX p)) w w'):=by
 have hac:=kS Z.toPS;have oK:(uc p).length=(iW p).length:=uS p;obtain⟨O,U,bK,aU,aX,bG,rfl,cO,dG,cW,cB,cC,cN⟩:=hp;have u:=St.start w;refine eZ Tryz.func50 ?_;refine cH u (λbp _ u=>gG u aiP rfl λb3 _ u=>aD eL u.p1.At (dO Tj (C115 _ _) ?_));rintro _ _ ⟨b,rfl,cK⟩;have u:=(u.made cK).eV (α:=ByteArray)
 refine wW (cap:=[.pointer (some ⟨b,0,none⟩)]) (xs:=(uc p).map λq=>[hM q.1,hH q.2]) Tl u
  (λk M=>∃sv,M=[bH sv (((iW p).take k).map cI.name),bY b (hZ (⟨O,U,bK,aU,aX,bG⟩:bN)),bY b3 [sv],bY bp (hZ (⟨O,U,bK,aU,aX,bG⟩:bN))]) (λ_ _=>False) ⟨_,rfl⟩ (by intro x G;obtain⟨q,_,rfl⟩:=n5.1 G;rfl) ?_ ?_ ?_ ?_ ?_ ?_
 .intro y J Jx W hJ ZQ UF hy;refine(C195 y b O U p J Jx w W Z.toPS cO (DL.flat dG) (λk W E=>?_) ZQ UF λk c i W G E=>hy k [hM c,hH i] W (by rw[oj,G];rfl) E).mono λ_ _ r=>r.mono λv W' h=>?_
  .obtain⟨Y,M,⟨sv,rfl⟩,I⟩:=hJ k W E;exact⟨I.p2.hb.cell rfl,I.p2.hb.cell rfl,I.aF⟩
  simpa using h
 .rintro k args Y1 Y2 B Kr M W E ⟨sv,rfl⟩ hB hN hR u;rw[oj]at E;obtain⟨q,V,rfl⟩:=H5.1 E;have nM:=(j0.1 V).1;have hc:(iW p)[k]?=some q.1:=by rw[<- Bu,oj,V];rfl
  have LC:(((iW p).take k).map cI.name).length=k:=by rw[mE,lY];omega
  dsimp only[Ez];refine aR u oU (λb4 _ u=>aJ (x:=q.1) u l6 rfl rfl λ_ u=>?_);refine hB _ _ _ u.p1 (λ_ u=>?_);refine aB je u.p4.hb rfl (aA kL (aB (v:=.string q.1.name) gB u.p1.hb rfl (bD ([cI.name q.1]) u iF rfl rfl (dR rfl) λs8 _ u=>?_)));have hr:=u.dS;refine bL u.p3 iF hr (by rw[LC,l0];omega) dC (λs9 _ u=>aW u.p5 je (dR rfl) (JP u.dS) λ_ u=>?_);refine hN _ _ ?_ ⟨s9,rfl⟩;rw[<- gP (k:=k) hc];exact u.p2.drop.p3.drop.p3.p2.p3
 .rintro D M W ⟨sv,rfl⟩ u;refine aB je u.p3.hb rfl ?_;refine EO u (λ_ u=>?_);rw[mE,oK,aav]at u;exact u.p1.drop.p1.drop.p1.drop.fresh
 .rintro D M W h;exact h.elim
 .rintro id D M W h;exact h.elim
 rintro c M h;exact h.elim
def C55(p:cA)(pv:bN)(w:World)(hp:mv w pv p)(Z:PZ p):CR 55 [hM pv] w (λv w'=>kP (bH v (fm p)) w w'):=by
 have hac:=kS Z.toPS;have oK:(uc p).length=(iW p).length:=uS p;obtain⟨O,U,bK,aU,aX,bG,rfl,cO,dG,cW,cB,cC,cN⟩:=hp;have u:=St.start w;refine eZ Tryz.func55 ?_;refine cH u (λbp _ u=>gG u aiO rfl λb3 _ u=>aD eL u.p1.At (dO Tj (C115 _ _) ?_));rintro _ _ ⟨b,rfl,cK⟩;have u:=(u.made cK).eV (α:=Int)
 refine wW (cap:=[.pointer (some ⟨b,0,none⟩)]) (xs:=(uc p).map λq=>[hM q.1,hH q.2]) Tl u
  (λk M=>∃sv,M=[bH sv (((iW p).take k).map cI.n),bY b (hZ (⟨O,U,bK,aU,aX,bG⟩:bN)),bY b3 [sv],bY bp (hZ (⟨O,U,bK,aU,aX,bG⟩:bN))]) (λ_ _=>False) ⟨_,rfl⟩ (by intro x G;obtain⟨q,_,rfl⟩:=n5.1 G;rfl) ?_ ?_ ?_ ?_ ?_ ?_
 .intro y J Jx W hJ ZQ UF hy;refine(C195 y b O U p J Jx w W Z.toPS cO (DL.flat dG) (λk W E=>?_) ZQ UF λk c i W G E=>hy k [hM c,hH i] W (by rw[oj,G];rfl) E).mono λ_ _ r=>r.mono λv W' h=>?_
  .obtain⟨Y,M,⟨sv,rfl⟩,I⟩:=hJ k W E;exact⟨I.p2.hb.cell rfl,I.p2.hb.cell rfl,I.aF⟩
  simpa using h
 .rintro k args Y1 Y2 B Kr M W E ⟨sv,rfl⟩ hB hN hR u;rw[oj]at E;obtain⟨q,V,rfl⟩:=H5.1 E;have nM:=(j0.1 V).1;have hc:(iW p)[k]?=some q.1:=by rw[<- Bu,oj,V];rfl
  have LC:(((iW p).take k).map cI.n).length=k:=by rw[mE,lY];omega
  dsimp only[Ez];refine aR u oU (λb4 _ u=>aJ (x:=q.1) u l6 rfl rfl λ_ u=>?_);refine hB _ _ _ u.p1 (λ_ u=>?_);refine aB eO u.p4.hb rfl (aA rX (aB (v:=hH q.1.n) bO u.p1.hb rfl (bD ([cI.n q.1]) u cR rfl rfl (dR rfl) λs8 _ u=>?_)));have hr:=u.dS;refine bL u.p3 cR hr (by rw[LC,l0];omega) dC (λs9 _ u=>aW u.p5 eO (dR rfl) (JP u.dS) λ_ u=>?_);refine hN _ _ ?_ ⟨s9,rfl⟩;rw[<- gP (k:=k) hc];exact u.p2.drop.p3.drop.p3.p2.p3
 .rintro D M W ⟨sv,rfl⟩ u;refine aB eO u.p3.hb rfl ?_;refine EO u (λ_ u=>?_);rw[mE,oK,aav]at u;exact u.p1.drop.p1.drop.p1.drop.fresh
 .rintro D M W h;exact h.elim
 .rintro id D M W h;exact h.elim
 rintro c M h;exact h.elim
theorem To:∀(vs:List cI) (k:Int) (j:Nat) (q:cI×Int),(OY k vs)[j]?=some q->q.2=k+j
 | [],_,_,_,h=>by simp[OY]at h
 | c::r,k,0,q,h=>by simp[OY]at h;grind
 | c::r,k,j+1,q,h=>by
  have:=To r (k+1) j q (by simpa[OY]using h)
  omega
theorem Nc(vs:List cI):∀(ls:List (List cI)) (i:Int) (a:Nat) (q:cI×Int),(QL i ls++OY (i+ls.length) vs)[a]?=some q->jm ls i a=q.2
 | [],i,a,q,h=>by
  have:=To vs (i+0) a q (by simpa[QL]using h)
  unfold jm;omega
 | l::r,i,a,q,h=>by
  unfold jm
  by_cases u:a<l.length
  .rw[ej bM]
   rw[QL,nk,s4 cJ,oj]at h
   grind
  .rw[ei bM]
   rw[QL,nk,sK (by simp;omega),mE]at h
   have e:(i+((l::r).length:Nat):Int)=i+1+(r.length:Nat):=cJ
   rw[e]at h
   have:=Nc vs r (i+1) (a-l.length) q h
   grind
theorem ZR{p:cA}{k:Nat}{q:cI×Int}(h:(uc p)[k]?=some q):pB p k=q.2:=by
 have u:=(j0.1 h).1
 rw[uS]at u
 unfold pB
 rw[ei bM]
 exact Nc p.iO p.lines 0 k q (by unfold uc at h;grind)
def C52(p:cA)(pv:bN)(c:Int)(w:World)(hp:mv w pv p)(hz:PZ p):CR 52 [hM pv,hH c] w (λv w'=>v=hH (pB p c)/\Ext w w'):=by
 have hac:=kS hz.toPS;have oK:(uc p).length=(iW p).length:=uS p;obtain⟨U,V,bK,aU,aX,bG,rfl,cO,dG,cW,cB,cC,cN⟩:=hp;have u:=St.start w;refine eZ Tryz.func52 ?_;refine cH u (λbp _ u=>nx u rfl λb3 _ u=>gG u uA rfl λb4 _ u=>gG u uA rfl λb5 _ u=>aW u bO (dR rfl) rfl λ_ u=>aD eL u.p3.At (dO Tj (C115 _ _) ?_));rintro _ _ ⟨b,rfl,cK⟩;have u:=u.made cK
 refine wW (cap:=[.pointer (some ⟨b,0,none⟩)]) (xs:=(uc p).map λq=>[hM q.1,hH q.2]) Tl u
  (λk M=>(∀j:Nat,j<k->¬ (j:Int)=c)/\M=[bY b (hZ (⟨U,V,bK,aU,aX,bG⟩:bN)),bY b5 [hH (k:Int)],bY b4 [hH 0],bY b3 [hH c],bY bp (hZ (⟨U,V,bK,aU,aX,bG⟩:bN))])
  (λcd M=>cd=.ret/\M=[bY b4 [hH (pB p c)]]) ⟨bM,rfl⟩ (by intro x I;obtain⟨q,_,rfl⟩:=n5.1 I;rfl) ?_ ?_ ?_ ?_ ?_ ?_
 .intro y J Jx W hJ ZQ UF hy;refine(C195 y b U V p J Jx w W hz.toPS cO (DL.flat dG) (λk W E=>?_) ZQ UF λk c i W I E=>hy k [hM c,hH i] W (by rw[oj,I];rfl) E).mono λ_ _ r=>r.mono λv W' h=>?_
  .obtain⟨Y,M,⟨_,rfl⟩,O⟩:=hJ k W E;exact⟨O.p1.hb.cell rfl,O.p1.hb.cell rfl,O.aF⟩
  simpa using h
 .rintro k args Y1 Y2 B Kr M W E ⟨G,rfl⟩ hB hN hR u;rw[oj]at E;obtain⟨q,hq,rfl⟩:=H5.1 E;have nM:=(j0.1 hq).1;dsimp only[Ez];refine hB _ _ _ u (λ_ u=>?_);refine aB bO u.p2.hb rfl (aB bO u.p4.hb rfl (aG (aC (λZ=>?_) λZ=>aB bO u.p2.hb rfl (aK bM (aW u.p2 bO (dR rfl) rfl λ_ u=>hN _ _ u.p2.p2.p0 ⟨λj hj=>?_,rfl⟩)))))
  .refine aW u.p3 bO (dR rfl) rfl (λ_ u=>?_);refine hR _ [bY b4 [hH (pB p c)]] _ ?_ ⟨rfl,rfl⟩;rw[<- Z,ZR hq];exact u.p2.drop.p2.drop.p2.drop.p2.drop.p1
  rcases P2 j k with h|h
  .exact G j h
  rw[show j=k from bM];exact Z
 .rintro D M W ⟨G,rfl⟩ u;refine aW u.p3 bO (dR rfl) rfl (λ_ u=>?_);refine EO u.p1 (λ_ u=>?_);refine aB bO u.hb rfl ?_;refine⟨fM (ng .i64) ?_,u.aF⟩;unfold pB;rw[mE]at G
  rw[ej (by
   rcases Int.lt_or_le c 0 with h|h
   .exact .inl h
   .refine .inr ?_;have:=G c.toNat;omega)]
 .rintro D M W ⟨_,rfl⟩ u;refine EO u (λ_ u=>?_);exact aB bO u.hb rfl ⟨rfl,u.aF⟩
 .rintro id D M W ⟨h,_⟩;cases h
 rintro c M ⟨h,_⟩;exact .inr h
variable (w:World) (K:Value->g7)
def ayn:dJ:=λi=>match i with
 | 22=>.run 0 6
 | _=>.nil
theorem arp:PL 107:=dL Tryz.func107
theorem ZS:PL 176:=dL Tryz.func176
end Go.Proofs.YtpdlpabnlkofmaaGreatDoor
namespace Go.Fw
open Go.MapKept (Stamped IsKey)
open Go.ChangeMaps (setBlock)
def zX(l:List SI)(k:ByteArray)(v:Int):List SI:=if l.any (λp=>decide (p.1=k))then l.map (λp=>if p.1=k then(k,v)else p)else l++[(k,v)]
theorem HZ:∀(l:List SI) (k u:ByteArray) (v:Int),(∀p∈l,p.1≠k)->eF (l++[(k,v)]) u=if k=u then v else eF l u
 | [],k,u,v,_=>rfl
 | p::r,k,u,v,h=>by
  have E:=HZ r k u v (λq B=>h q (pd _ B))
  have G:=h p (oi ..)
  show(if p.1=u then p.2 else eF (r++[(k,v)]) u)=_
  rw[E]
  show _=if k=u then v else(if p.1=u then p.2 else eF r u)
  grind
theorem CB:∀(l:List SI) (k u:ByteArray) (v:Int),l.any (λp=>decide (p.1=k))=true->eF (l.map λp=>if p.1=k then(k,v)else p) u=if k=u then v else eF l u
 | [],_,_,_,h=>by simp at h
 | p::r,k,u,v,h=>by
  rw[KM]
  by_cases h1:p.1=k
  .rw[ej h1]
   show(if k=u then v else eF (r.map _) u)=if k=u then v else(if p.1=u then p.2 else eF r u)
   by_cases h2:k=u
   .grind
   .rw[ei h2,ei h2,ei λe=>h2 (h1.symm.trans e)]
    by_cases h3:r.any (λp=>decide (p.1=k))=true
    .rw[CB r k u v h3,ei h2]
    .congr 1
     have:∀q∈r,q.1≠k:=λq B e=>h3 (v7.2 ⟨q,B,ew e⟩)
     conv=>rhs;rw[<- List.map_id r]
     exact Af λq B=>ei (this q B)
  .rw[ei h1]
   have h3:r.any (λp=>decide (p.1=k))=true:=by
    grind
   show(if p.1=u then p.2 else eF (r.map _) u)=if k=u then v else(if p.1=u then p.2 else eF r u)
   rw[CB r k u v h3]
   grind
theorem CC(l:List SI)(k u:ByteArray)(v:Int):eF (zX l k v) u=if k=u then v else eF l u:=by
 unfold zX
 by_cases h:l.any (λp=>decide (p.1=k))=true
 .rw[ej h,CB l k u v h]
 rw[ei h,HZ l k u v λp B e=>h (v7.2 ⟨p,B,ew e⟩)]
def aeJ{l:List SI}{k:ByteArray}{v:Int}(h:∀p∈l,p.2≠0)(B:v≠0):∀p∈zX l k v,p.2≠0:=by
 intro p u
 unfold zX at u
 grind
section
variable {P:Program}{w w0 w':World}{A:Nat->Prop}{L:List HP}{b:Nat}{l:List SI}
theorem ZT{T M E:TypeId}{v:Int}{k:ByteArray}(h:uM w b l)(ht:P.underlying T=some (.map M E))(O:P.underlying M=some .string) :
  ∃w',(xk T (.map (some b)) (.string k) (hH v)).run P w=.ok () w'/\gz (· = b) w w'/\uM w' b (zX l k v):=by
 by_cases eE:∀p∈l,p.1≠k
 .have:l.any (λp=>decide (p.1=k))=false:=by
   grind
  unfold zX
  rw[ei cJ]
  exact MF h ht O eE
 have U:l.any (λp=>decide (p.1=k))=true:=by
  grind
 unfold zX
 rw[ej U]
 have nM:=h.lt
 obtain⟨es,c,h1,h2,h3⟩:=h
 have hc:=MapKept.run_checkKey (P:=P) (w:=w) (kt:=M) (k:=.string k) O (by simp[IsKey]) false 9999
 rcases MapKept.findNow_spec (d:=.string) (k:=.string k) (by simp[IsKey]) es.toList 0 (λx G=>by obtain⟨p,_,e,_⟩:=YE h3 G;rw[e];simp[IsKey])with⟨Z,g2⟩|⟨j,e,Z,g2,g4⟩
 .obtain⟨p,V,he⟩:=v7.1 U
  obtain⟨x,G,e1,_⟩:=YF h3 V
  grind
 have W:=MapKept.run_findKey (P:=P) (w:=w) O Z
 rw[Nat.zero_add]at W
 have Y:es[j]?=some e:=cJ
 have iY:(OI e.key (.string k)).run P w=.ok (.string k) w:=by
  have vW:(k == k)=true:=by cases k with|mk d=>exact beq_self_eq_true d
  rw[g4];unfold OI;simp[Instr.sameBits,vW]
 refine⟨_,?_,gz.setBlock w b (.map (es.modify j λe=>{e with key:=.string k,val:=hH v}) c),?_⟩
 .simp[xk,run_underlying ht,MapKept.run_getObj_map h1,hc,W,n8 h1,Result.andThen,Y,iY]
 have KS:∀u,es[j]?=some u->({u with key:=.string k,val:=hH v}:MapEntry).key=u.key:=λu B=>by
  grind
 refine⟨_,_,j9 _ nM,MapKept.stamped_modify h2 j _ (λ_ _=>rfl) (λu _ B=>KS u B),?_⟩
 let g:Value×Value->Value×Value:=λq=>match q.1 with|.string s=>if s=k then(.string k,hH v)else q|_=>q
 have hg:(es.modify j λe=>{e with key:=.string k,val:=hH v}).toList.map (λe=>(e.key,e.val))=(es.toList.map λe=>(e.key,e.val)).map g:=by
  apply List.ext_getElem?
  intro i
  simp only[oj,Array.getElem?_toList,Array.getElem?_modify]
  by_cases J:j=i
  .grind
  .rw[ei J]
   cases G:es[i]? with
   | none=>rfl
   | some x=>
    have Hh:x.key≠.string k:=λhxk=>by
     have hi:=(Ei.1 G)
     have hj:=(Ei.1 Y)
     obtain⟨hi1,WE⟩:=hi
     obtain⟨hj1,Bs⟩:=hj
     have V:=RC.1 h2.2.2
     grind
    grind
 have hl:(l.map λp=>if p.1=k then(k,v)else p).map SW=(l.map SW).map g:=by
  rw[H4,H4]
  refine Af λp _=>?_
  show SW (if p.1=k then(k,v)else p)=g (SW p)
  by_cases I:p.1=k
  .rw[ej I];simp[g,SW,I]
  .rw[ei I];simp[g,SW,I]
 grind
theorem ZV{T G E:TypeId}{v:Int}{k:ByteArray}{K:g7}(B:St w0 A (Fw.nj b l::L) w)(ht:P.underlying T=some (.map G E))(u:P.underlying G=some .string)
  (J:∀w',St w0 A (Fw.nj b (zX l k v)::L) w'->K w'):Wu P (xk T (.map (some b)) (.string k) (hH v)) w K:=by
 obtain⟨w',h1,h2,h3⟩:=ZT (P:=P) (v:=v) (k:=k) B.nj ht u
 exact⟨w',h1,J w' (B.rp λF I=>⟨F,⟨h3,I.2⟩,λb hb=>.inl hb,h2.mono λk u=>(I.2 k).2 u⟩)⟩
end
end Go.Fw
namespace Go.Proofs.YtpdlpabnlkofmaaGreatDoor
open Go.Fw
def sG(b3 b4 B u:Nat)(l:List SI)(tw:Bool)(a:Int):HP:=sep (bY b3 [.map (some u)]) (sep (bY b4 [.bool tw]) (sep (bY B [hH a]) (nj u l)))
def sG.shut{w0 w:World}{A:Nat->Prop}{L:List HP}{b3 b4 B u:Nat}{l:List SI}{tw:Bool}{a:Int}(E:St w0 A (nj u l::bY B [hH a]::bY b4 [.bool tw]::bY b3 [.map (some u)]::L) w):St w0 A (sG b3 b4 B u l tw a::L) w:=
 St.join (St.join (St.join E.p1).p1).p1
def sG.open{w0 w:World}{A:Nat->Prop}{L:List HP}{b3 b4 B u:Nat}{l:List SI}{tw:Bool}{a:Int}(E:St w0 A (sG b3 b4 B u l tw a::L) w):St w0 A (nj u l::bY B [hH a]::bY b4 [.bool tw]::bY b3 [.map (some u)]::L) w:=
 E.split.p1.split.p1.split.p1
def atN(l:List SI)(name:ByteArray)(tw:Bool)(place a:Int):Int:=if eF l name≠0/\tw=false then place else a
def twN(l:List SI)(name:ByteArray)(tw:Bool):Bool:=tw||decide (eF l name≠0)
theorem C176(name:ByteArray)(B place:Int)(b3 b4 G E:Nat)(l:List SI)(tw:Bool)(a:Int)(F:Nat->Prop)(w:World)(M:(sG b3 b4 G E l tw a).p w F) :
  CR 176 [.string name,hH B,hH place,.pointer (some ⟨b3,0,none⟩),.pointer (some ⟨b4,0,none⟩),.pointer (some ⟨G,0,none⟩)] w (λv w'=>v=.tuple #[]/\mP F (sG b3 b4 G E (zX l name B) (twN l name tw) (atN l name tw place a)) w w'):=by
 have u:=sG.open (St.begin M);refine eZ Tryz.func176 ?_;refine⟨λw'=>St w F [nj E l,bY G [hH (atN l name tw place a)],bY b4 [.bool (twN l name tw)],bY b3 [.map (some E)]] w',⟨λO w'=>O=.bool (decide (eF l name≠0)&&!tw)/\w'=w,aB HC u.p3.hb rfl (yr u.nj Tryz.underlying165 Tryz.underlying9 uA (bV (aC (λc=>aB G0 u.p2.hb rfl (bQ ⟨vb (by rw[ew c,Bt]),rfl⟩)) λc=>⟨vb (by rw[ez c,U2]),rfl⟩))),?_⟩,?_⟩
 .rintro _ _ ⟨rfl,rfl⟩ _;refine aY (λc=>?_) (λc=>?_)
  .have hc:eF l name≠0/\tw=false:=by simpa using c
   refine aW u.p1 bO (dR rfl) rfl (λ_ u=>aW u.p2 G0 (dR rfl) rfl λ_ u=>?_);have J:atN l name tw place a=place:=ej hc;have I:twN l name tw=true:=by unfold twN;rw[ew hc.1,Bool.or_true]
   rw[J,I];exact u.p1.p2
  have hc:¬ (eF l name≠0/\tw=false):=by simpa using c
  have J:atN l name tw place a=a:=ei hc
  have I:twN l name tw=tw:=by
   unfold twN;cases tw with
   | true=>rfl
   | false=>rw[Bool.false_or];exact ez λh=>hc ⟨h,rfl⟩
  rw[J,I];exact u
 rintro _ u _;exact aB HC u.p3.hb rfl (ZV u Tryz.underlying165 Tryz.underlying9 λ_ u=>⟨rfl,(sG.shut u).mut⟩)
def ZW(st:List SI×Bool×Int)(q:ByteArray×Int×Int):List SI×Bool×Int:=(zX st.1 q.1 q.2.1,twN st.1 q.1 st.2.1,atN st.1 q.1 st.2.1 q.2.2 st.2.2)
def De(p:cA)(i:Int):Int:=if (p.lines.length:Int)<=i then 2 else 1
def WG(p:cA):List (ByteArray×Int×Int):=(uc p).map λq=>(q.1.name,De p q.2,q.1.at_)
def Vf(p:cA):List (ByteArray×Int×Int):=p.eI.map λc=>(c.name,3,c.at_)
def WH(p:cA):List (ByteArray×Int×Int):=p.threads.map λt=>(t.name,4,t.at_)
def Ao(l:List (ByteArray×Int×Int))(st:List SI×Bool×Int):List SI×Bool×Int:=l.foldl ZW st
def Df(p:cA):List SI×Bool×Int:=Ao (WH p) (Ao (Vf p) (Ao (WG p) ([],false,0)))
theorem FT{l:List (ByteArray×Int×Int)}{st:List SI×Bool×Int}{k:Nat}{q:ByteArray×Int×Int}(h:l[k]?=some q):Ao (l.take (k+1)) st=ZW (Ao (l.take k) st) q:=by
 unfold Ao;rw[<- gO h,List.foldl_append];rfl
abbrev NO(b3 b4 B u:Nat)(st:List SI×Bool×Int):HP:=sG b3 b4 B u st.1 st.2.1 st.2.2
def C107(p:cA)(pv:bN)(w:World)(hp:mv w pv p)(hz:PZ p):CR 107 [hM pv] w (λv w'=>∃G,v=.tuple #[.map (some G),hH (Df p).2.2,.bool (Df p).2.1]/\kP (nj G (Df p).1) w w'):=by
 have hac:=kS hz.toPS;have oK:(uc p).length=(iW p).length:=uS p;have hzl:=hz.lines;have hzk:=hz.eI;have hzt:=hz.threads;obtain⟨O,U,Z,V,aX,bG,rfl,cO,dG,cW,cB,cC,cN⟩:=hp;obtain⟨Ye,hR1,hD1⟩:=cO.open;have Yf:=hD1.1;obtain⟨vx,ZH,ZI⟩:=cB.open;have hn3:=ZI.1;have hKr:=DL.flat cW;have u:=St.start w;refine py Tryz.func107 (pl:=ayn) ?_;refine cH u (λbp w1 u=>MG u λG _ u=>gG u Sw rfl λb3 _ u=>aW u HC (dR rfl) rfl λ_ u=>gG u uA rfl λE _ u=>gG u Xw rfl λb4 _ u=>aW u G0 (dR rfl) rfl λ_ u=>gG u adr rfl λb8 _ u=>aW u SA (dR rfl) rfl λ_ u=>aD eL u.p5.At (have u:=sG.shut (a:=0) (tw:=false) u.p3.p2.p3.p4;dO Tj (C115 _ _) ?_))
 rintro _ _ ⟨b,rfl,cK⟩;have u:=u.made cK
 refine wW (cap:=[.pointer (some ⟨b,0,none⟩)]) (xs:=(uc p).map λq=>[hM q.1,hH q.2]) Tl u
  (λk M=>M=[bY b (hZ (⟨O,U,Z,V,aX,bG⟩:bN)),NO b3 b4 E G (Ao ((WG p).take k) ([],false,0)),bY b8 [(.func (.func 176) [].toArray [.pointer (some ⟨b3,0,none⟩),.pointer (some ⟨b4,0,none⟩),.pointer (some ⟨E,0,none⟩)].toArray)],bY bp (hZ (⟨O,U,Z,V,aX,bG⟩:bN))]) (λ_ _=>False) rfl (by intro x hx;obtain⟨q,_,rfl⟩:=n5.1 hx;rfl) ?_ ?_ ?_ ?_ ?_ ?_
 .intro y J Jx W hJ ZQ UF hy;refine(C195 y b O U p J Jx w W hz.toPS cO (DL.flat dG) (λk W I=>?_) ZQ UF λk c i W hx I=>hy k [hM c,hH i] W (by rw[oj,hx];rfl) I).mono λ_ _ r=>r.mono λv W' h=>?_
  .obtain⟨Y,M,rfl,hS⟩:=hJ k W I;exact⟨hS.p1.hb.cell rfl,hS.p1.hb.cell rfl,hS.aF⟩
  simpa using h
 .rintro k args Y1 Y2 B Kr M W I rfl hB hN hR u;rw[oj]at I;obtain⟨q,hq,rfl⟩:=H5.1 I;have hc:(WG p)[k]?=some (q.1.name,De p q.2,q.1.at_):=by unfold WG;rw[oj,hq];rfl
  dsimp only[Ez];refine aR u oU (λb9 _ u=>aJ (x:=q.1) u l6 rfl rfl λ_ u=>?_);refine hB _ _ _ u.p1 (λTp u=>?_);refine⟨λjv w'=>jv=hH (De p q.2)/\w'=Tp,aA gC (aB (v:=hM O) oO u.p5.hb rfl (aH pJ (hR1.ext u.aF) (cQ (aC (λ_=>⟨fM (ng .i64) (ej bM).symm,rfl⟩) λ_=>⟨fM (ng .i64) (ei bM).symm,rfl⟩)))),?_⟩;rintro _ _ ⟨rfl,rfl⟩ _;refine aB SA u.p4.hb rfl (aA kL (aB (v:=.string q.1.name) gB u.p1.hb rfl (aA uE (aB (v:=hH q.1.at_) bO u.p1.hb rfl (Bg (first:=[]) (cap:=[.pointer (some ⟨b3,0,none⟩),.pointer (some ⟨b4,0,none⟩),.pointer (some ⟨E,0,none⟩)]) (H':=λ_=>NO b3 b4 E G (ZW (Ao ((WG p).take k) ([],false,0)) (q.1.name,(De p q.2),q.1.at_))) (Φ:=λv _=>v=.tuple #[]) ZS u.p3 (λF hF _=>C176 q.1.name (De p q.2) q.1.at_ b3 b4 E G _ _ _ F _ hF) λv _ _ u=>?_)))))
  refine hN _ _ ?_ rfl;rw[FT hc];exact u.p2.drop.p2.p2
 .rintro D M W rfl u;rw[mE,show(WG p).take (uc p).length=WG p from kE (by unfold WG;rw[mE];exact o1 _)]at u;obtain⟨s0,hs0⟩:∃s,s=Ao (WG p) ([],false,0):=⟨_,rfl⟩;rw[<- hs0]at u;refine aA nN (aB (v:=hM Z) jF u.p4.hb rfl (aH iu (hKr.ext u.aF) ?_));refine⟨λm x w1=>∃k:Nat,x=hH (k:Int)/\m=p.eI.length-k/\k<=p.eI.length/\St w aZ [nD D (.deferred (some [])),bY b (hZ (⟨O,U,Z,V,aX,bG⟩:bN)),NO b3 b4 E G (Ao ((Vf p).take k) s0),bY b8 [(.func (.func 176) [].toArray [.pointer (some ⟨b3,0,none⟩),.pointer (some ⟨b4,0,none⟩),.pointer (some ⟨E,0,none⟩)].toArray)],bY bp (hZ (⟨O,U,Z,V,aX,bG⟩:bN))] w1,⟨_,0,rfl,rfl,la _,(by rw[show Ao ((Vf p).take 0) s0=s0 from rfl];exact u)⟩,?_⟩
  rintro m _ _ ⟨k,rfl,rfl,I,u⟩ _;refine aQ (aC (λc=>?_) λc=>?_)
  .obtain⟨x,hx⟩:=gx p.eI (i:=((k:Nat):Int).toNat) bM;have hx':p.eI[k]?=some x:=hx;have hc:(Vf p)[k]?=some (x.name,3,x.at_):=by unfold Vf;rw[oj,hx'];rfl
   refine aN iu hKr bM hx (λq hq=>aD l6 (hq.ext u.aF) (aR u oU λb9 _ u=>aJ (x:=x) u l6 rfl rfl λ_ u=>aB SA u.p4.hb rfl (aA kL (aB (v:=.string x.name) gB u.hb rfl (aA uE (aB (v:=hH x.at_) bO u.hb rfl (Bg (first:=[]) (cap:=[.pointer (some ⟨b3,0,none⟩),.pointer (some ⟨b4,0,none⟩),.pointer (some ⟨E,0,none⟩)]) (H':=λ_=>NO b3 b4 E G (ZW (Ao ((Vf p).take k) s0) (x.name,3,x.at_))) (Φ:=λv _=>v=.tuple #[]) ZS u.p3 (λF hF _=>C176 x.name 3 x.at_ b3 b4 E G _ _ _ F _ hF) λv _ _ u=>aK bM ?_)))))));refine⟨_,bM,k+1,rfl,rfl,bM,?_⟩
   rw[FT hc];exact u.p1.drop.p2.p2
  rw[show(Vf p).take k=Vf p from kE (by unfold Vf;rw[mE];omega)]at u;obtain⟨s1,Vg⟩:∃s,s=Ao (Vf p) s0:=⟨_,rfl⟩;rw[<- Vg]at u;refine aA kB (aB (v:=hM V) iz u.p4.hb rfl (aH fw (ZH.ext u.aF) ?_));refine⟨λm x w1=>∃k:Nat,x=hH (k:Int)/\m=vx.length-k/\k<=vx.length/\St w aZ [nD D (.deferred (some [])),bY b (hZ (⟨O,U,Z,V,aX,bG⟩:bN)),NO b3 b4 E G (Ao ((WH p).take k) s1),bY b8 [(.func (.func 176) [].toArray [.pointer (some ⟨b3,0,none⟩),.pointer (some ⟨b4,0,none⟩),.pointer (some ⟨E,0,none⟩)].toArray)],bY bp (hZ (⟨O,U,Z,V,aX,bG⟩:bN))] w1,⟨_,0,rfl,rfl,la _,(by rw[show Ao ((WH p).take 0) s1=s1 from rfl];exact u)⟩,?_⟩
  rintro m _ _ ⟨k,rfl,rfl,I,u⟩ _;refine aQ (aC (λc=>?_) λc=>?_)
  .obtain⟨t,ht⟩:=gx vx (i:=((k:Nat):Int).toNat) bM;obtain⟨r,hr⟩:=gx p.threads (i:=k) bM;obtain⟨gr,gb,rfl,_,_⟩:=ZI.2 _ _ _ ht hr;have hc:(WH p)[k]?=some (r.name,4,r.at_):=by unfold WH;rw[oj,hr];rfl
   refine aN fw ZH bM ht (λq hq=>aD m6 (hq.ext u.aF) (aR u tD λb9 _ u=>aJ u m6 rfl rfl λ_ u=>aB SA u.p4.hb rfl (aA qo (aB (v:=.string r.name) gB u.hb rfl (aA qp (aB (v:=hH r.at_) bO u.hb rfl (Bg (first:=[]) (cap:=[.pointer (some ⟨b3,0,none⟩),.pointer (some ⟨b4,0,none⟩),.pointer (some ⟨E,0,none⟩)]) (H':=λ_=>NO b3 b4 E G (ZW (Ao ((WH p).take k) s1) (r.name,4,r.at_))) (Φ:=λv _=>v=.tuple #[]) ZS u.p3 (λF hF _=>C176 r.name 4 r.at_ b3 b4 E G _ _ _ F _ hF) λv _ _ u=>aK bM ?_)))))));refine⟨_,bM,k+1,rfl,rfl,bM,?_⟩
   rw[FT hc];exact u.p1.drop.p2.p2
  rw[show(WH p).take k=WH p from kE (by unfold WH;rw[mE];omega),Vg,hs0]at u;have u:=sG.open u.drew.p2;refine aB HC u.p3.hb rfl (aB bO u.p1.hb rfl (aB G0 u.p2.hb rfl ?_));refine EO u.p4 (λ_ u=>?_);exact⟨G,rfl,u.p1.drop.p1.drop.p1.drop.p1.drop.p1.drop.p1.drop.fresh⟩
 .rintro D M W h;exact h.elim
 .rintro id D M W h;exact h.elim
 rintro c M h;exact h.elim
def vB(u:ByteArray)(B:Int)(G:Option Addr)(E I:Nat):pr g6 (Instr.build 177 [(0,.string u),(1,hH B),(2,.slice G E I)].toArray)=some (.agg [.string u,hH B,.slice G E I].toArray):=by kernel_rfl
structure J3 where
 name:ByteArray
 at_:Int
 may:SV
instance:Flat J3 where
 agg:=true
 sz:=3
 enc e:=[.string e.name,hH e.at_,.slice e.may.a e.may.n e.may.cap]
 val e:=.agg [.string e.name,hH e.at_,.slice e.may.a e.may.n e.may.cap].toArray
 pos:=dC
 len _:=rfl
 one a v h:=by simp at h;rcases h with rfl|rfl|rfl<;>rfl
 nV _ _:=rfl
 nW h:=by cases h
variable (w:World) (K:Value->g7)
theorem ahG:PL 193:=dL Tryz.func193
theorem art:PL 113:=dL Tryz.func113
theorem aru:PL 192:=dL Tryz.func192
end Go.Proofs.YtpdlpabnlkofmaaGreatDoor
namespace Go.Fw
def QM:List Nat->HP
 | []=>eA λ_=>True
 | D::r=>sep (nD D (.deferred (some []))) (QM r)
def aeL(P:Program)(w0:World)(A:Nat->Prop)(I:Nat->List HP->Prop)(E:g7)(y:Value)(B:Nat->List Value->(g7)->Prop):Prop:=
 ∀k args Φ W (R:HP) L,B k args Φ->(∀F u,R.p u F->Φ u)->I k L->St w0 A (R::L) W->kD P y args W (λv u=>(v=.bool true/\∃L',I (k+1) L'/\St w0 A (R::L') u)\/(v=.bool false/\E u))
section
variable {P:Program}{w w0 w':World}{A:Nat->Prop}{L:List HP}
theorem QM.nil(u:St w0 A L w):St w0 A (QM []::L) w:=u.fH λ_=>trivial
theorem QM.take{K:g7}:∀(ds:List Nat) {w:World},St w0 A (QM ds::L) w->(∀w',St w0 A L w'->K w')->mQ ds w K
 | [],_,u,k=>k _ u.drop
 | D::r,_,u,k=>by
  have h1:=u.split
  exact⟨h1.obj,QM.take r (h1.putObj _).drop k⟩
theorem ZX{Z np:Nat}{cap:List Value}(n:Nat)(Ar:Nat->List Value->(g7)->Prop){round:List Value->World->(World->(g7)->Prop)->(Option Code->g7)->Prop}
  {N R:Nat->g7}{X:Nat->Nat->g7}(pl:Plain P Z) (hs:St w0 A L w) (I:Nat->List HP->Prop) (V:Code->List HP->Prop) (h0:I 0 L) (hnp:∀k a Φ,Ar k a Φ->a.length=np)
  (hgf:∀(y:Value) (Y:HP) (Jx:g7) (W:World),(∃M,I 0 M/\St w0 A (Y::M) W)->aeL P w0 A (λk L=>∃M,I k M/\L=Y::M) Jx y Ar->
   Calls P Z ([y]++cap).toArray W (tc λ_ O=>(∃M,I n M/\St w0 A (Y::M) O)\/Jx O))
  (EA:∀k args Φ (Y1 Y2:HP) (B:World->(g7)->Prop) (Kr:Option Code->g7) M W,Ar k args Φ->I k M->(∀F O,Y2.p O F->Φ O)->
   (∀M u (kk:g7),St w0 A (Y1::M) u->(∀w2,St w0 A (Y2::M) w2->kk w2)->B u kk)->
   (∀M u,St w0 A (Y2::M) u->I (k+1) M->Kr none u)->(∀c M u,St w0 A (Y2::M) u->V c M->Kr (some c) u)->
   St w0 A (Y1::M) W->round args W B Kr)
  (XT:∀D M W,I n M->St w0 A (nD D (.deferred (some []))::M) W->N D W)
  (aiQ:∀D M W,V .ret M->St w0 A (nD D (.deferred (some []))::M) W->R D W)
  (XU:∀id D M W,V (.exit id) M->St w0 A (nD D (.deferred (some []))::M) W->X id D W)
  (Pz:∀c M,V c M->(∃id,c=.exit id)\/c=.ret) :
  AB P (.func (.func Z) #[] cap.toArray) np w round (aft N R X):=by
 refine⟨Z,cap.toArray,rfl,pl,λG iY B0 hy=>?_⟩
 obtain⟨l,hl⟩:∃l,l=w.heap.size+1:=⟨_,rfl⟩
 obtain⟨D,hD⟩:∃D,D=w.heap.size:=⟨_,rfl⟩
 rw[<- hl]at hy |-
 rw[<- hD]
 let Y:HP:=sep (nD l (.loop G)) (nD D (.deferred (some [])))
 let Jx:g7:=λW=>∃c M,V c M/\St w0 A (nD l (.loop {G with state:=.done,pending:=some c})::nD D (.deferred (some []))::M) W
 have UF:∃M,I 0 M/\St w0 A (Y::M) ((w.alloc (.deferred (some []))).alloc (.loop G)):=by
  refine⟨L,h0,?_⟩
  have h1:=(hs.alloc (o:=.deferred (some []))).alloc (o:=.loop G)
  rw[show(w.alloc (.deferred (some []))).heap.size=l from by rw[hl];exact Cf w _,<- hD]at h1
  exact St.join h1
 have:=hgf (.func (.yield l) #[] #[]) Y Jx _ UF ?_
 .have e:([Value.func (.yield l) #[] #[]]++cap).toArray = #[.func (.yield l) #[] #[]]++cap.toArray:=ee
  rw[e]at this
  refine this.mono λx O ⟨v,hx,hv⟩=>⟨v,hx,?_⟩
  rcases hv with⟨M,J,E⟩|⟨c,M,J,E⟩
  .have E:=E.split
   refine⟨.ready,none,ee,?_,?_⟩
   .rw[<- iY,<- B0];exact E.obj
   exact XT D M _ J (E.putObj _).drop
  refine⟨.done,some c,ee,E.obj,?_⟩
  rcases Pz c M J with⟨id,rfl⟩|rfl
  .exact XU id D M _ J (E.putObj _).drop
  exact aiQ D M _ J (E.putObj _).drop
 rintro k args Φ W R _ hk hR ⟨M,J,rfl⟩ E
 have U:=E.p1.split
 refine⟨.inr ⟨l,rfl,?_⟩⟩
 refine hy args W _ (hnp k args Φ hk) U.obj ?_
 refine EA k args Φ (sep (sep (nD l (.loop G)) (nD D (.deferred (some [])))) R) (sep (sep (nD l (.loop {G with state:=.busy})) (nD D (.deferred (some [])))) R) _ _ M W hk J (λF W2 ⟨_,F2,_,h2,_⟩=>hR F2 W2 h2)
  (λM u kk h1 h2=>?_) (λM u h1 h2=>?_) (λc M u h1 h2=>?_) (St.join (St.join U))
 .have h1:=h1.split.split
  exact⟨h1.obj,h2 _ (h1.putObj _).join.join⟩
 .have h1:=h1.split.split
  refine⟨h1.obj,.inl ⟨rfl,_,⟨M,h2,rfl⟩,?_⟩⟩
  have:=h1.putObj (.loop {G with state:=if (none:Option Code).isNone=true then LoopState.ready else LoopState.done,pending:=none})
  rw[EP G iY B0]at this |-
  exact(St.join this).p1
 have h1:=h1.split.split
 refine⟨h1.obj,.inr ⟨rfl,c,M,h2,?_⟩⟩
 exact(h1.putObj _).p2.drop
end
end Go.Fw
namespace Go.Proofs.YtpdlpabnlkofmaaGreatDoor
open Go.Fw
abbrev UU:=ByteArray×Int×List Int
def qE(xs:List bZ):List bZ:=xs.filter λx=>decide (x.op=2)
theorem H0{xs:List bZ}{k:Nat}{x:bZ}(h:xs[k]?=some x):qE (xs.take (k+1))=qE (xs.take k)++(if x.op=2 then [x]else []):=by
 unfold qE;rw[<- gO h,zW];grind
def aeM{xs:List bZ}{k:Nat}{x:bZ}(h:xs[k]?=some x)(u:x.op=2):(qE xs)[(qE (xs.take k)).length]?=some x:=by
 have h1:=drop_cons h
 have e:qE xs=qE (xs.take k)++qE (xs.drop k):=by unfold qE;rw[<- zW,o6]
 grind[qE]
def Tq(l:List UU)(k:Nat)(args:List Value)(Φ:g7):Prop:=∃u s,l[k]?=some u/\args=[hM (⟨u.1,u.2.1,s⟩:J3)]/\∀W,Φ W->cZ (λ_=>True) W (hM s) u.2.2
def ayp{H H':HP}{Φ:g7}(h:∀F W,H.p W F->Φ W):∀F W,(sep H H').p W F->Φ W:=λ_ _ ⟨_,_,h1,_⟩=>h _ _ h1
def J4{α:Type}[Flat α]{v:Value}{xs:List α}:∀F W,(bH v xs).p W F->cZ (λ_=>True) W v xs:=λ_ _ h=>(bH.rd h).mono λ_ _=>trivial
def C193(lv y:Value)(xs:List bZ)(may:Int)(ul:List UU)(G:Nat)(w0:World)(A:Nat->Prop)(I:Nat->List HP->Prop)(Z:g7)(w:World)(hn:xs.length<=1048576)
  (hE:∀k L W,I k L->St w0 A L W->cZ (λ_=>True) W lv xs) (h0:∃L,I G L/\St w0 A L w) (hu:∀(j:Nat) (x:bZ),(qE xs)[j]?=some x->ul[G+j]?=some (x.name,x.at_,[may])) (hy:aeL g6 w0 A I Z y (Tq ul)) :
  CR 193 [lv,hH may,y] w (λv W=>(v=.bool true/\∃L,I (G+(qE xs).length) L/\St w0 A L W)\/(v=.bool false/\Z W)):=by
 refine eZ Tryz.func193 ?_;obtain⟨L0,B,E⟩:=h0;refine aH g9 (hE _ _ _ B E) ?_;refine⟨λm x w1=>∃k:Nat,x=hH (k:Int)/\m=xs.length-k/\k<=xs.length/\∃L,I (G+(qE (xs.take k)).length) L/\St w0 A L w1,⟨_,0,rfl,rfl,la _,L0,B,E⟩,?_⟩;rintro m _ w1 ⟨k,rfl,rfl,hk,L1,J,u⟩ _;refine aQ (aC (λc=>?_) λc=>?_)
 .obtain⟨x,M⟩:=gx xs (i:=((k:Nat):Int).toNat) bM;refine aN g9 (hE _ _ _ J u) bM M (λq hq=>aD rY hq (aR u yl λb8 _ u=>aJ (x:=x) u rY rfl rfl λ_ u=>⟨λjv w'=>(jv=.bool false/\∃L,I (G+(qE (xs.take (k+1))).length) L/\St w0 A L w')\/(jv=.bool true/\Z w'),aA fa (aB (v:=hH x.op) bO u.hb rfl (aG (aC (λO=>?_) λO=>?_))),?_⟩))
  .refine aA gn (aB (v:=.string x.name) gB u.hb rfl (aA rZ (aB (v:=hH x.at_) bO u.hb rfl (bD ([may]:List Int) u.drop cR rfl rfl (dR rfl) λs25 w4 u=>?_))));obtain⟨sv,rfl⟩:=u.dS.fV;refine pop (vB x.name x.at_ sv.a sv.n sv.cap) ?_;refine kD.mono (hy _ _ _ w4 _ _ ⟨_,sv,hu _ x (aeM M O),rfl,λ_ h=>h⟩ J4 J u) ?_;rintro v w5 (⟨rfl,U,V,Y⟩|⟨rfl,HY⟩)
   .exact bQ (.inl ⟨rfl,U,by rw[H0 (k:=k) M,ej O,kU];exact V,Y.drop⟩)
   exact bQ (.inr ⟨rfl,HY⟩)
  .refine .inl ⟨rfl,L1,?_,u.drop⟩;rw[H0 (k:=k) M,ei O,List.append_nil];exact J
  rintro _ w6 (⟨rfl,U,V,u⟩|⟨rfl,HY⟩) _
  .exact ft (aK bM ⟨_,bM,k+1,rfl,rfl,bM,U,V,u⟩)
  exact gU (.inr ⟨rfl,HY⟩)
 rw[kE bM]at J;exact .inl ⟨rfl,L1,J,u⟩
def J5(k:Int):List Int:=if k=5\/k=6 then [1]else if k=9\/k=10 then [3]else [1,2]
def CD(l:List bZ):List UU:=(qE l).map λy=>(y.name,y.at_,[5])
def CE(x:bP):List UU:=(if x.eD=⟨#[]⟩then []else [(x.eD,x.at_,[5])])++((if x.name=⟨#[]⟩then []else [(x.name,x.at_,J5 x.kind)])++(CD x.e++CD x.f))
def oH(xs:List bP):List UU:=xs.flatMap CE
theorem H6{xs:List bP}{k:Nat}{x:bP}(h:xs[k]?=some x):oH (xs.take (k+1))=oH (xs.take k)++CE x:=by
 unfold oH;rw[<- gO h,K0];simp
def aeO{xs:List bP}{k i:Nat}{x:bP}{u:UU}(h:xs[k]?=some x)(hi:(CE x)[i]?=some u):(oH xs)[(oH (xs.take k)).length+i]?=some u:=by
 have e:oH xs=oH (xs.take k)++(CE x++oH (xs.drop (k+1))):=by
  rw[<- nk,<- H6 h];unfold oH;rw[<- K0,o6]
 grind
def Tr{l:List bZ}{j:Nat}{y:bZ}(h:(qE l)[j]?=some y):(CD l)[j]?=some (y.name,y.at_,[5]):=by unfold CD;rw[oj,h];rfl
def sH(x:bP):List UU:=if x.eD=⟨#[]⟩then []else [(x.eD,x.at_,[5])]
def ud(x:bP):List UU:=if x.name=⟨#[]⟩then []else [(x.name,x.at_,J5 x.kind)]
theorem CF(x:bP):CE x=sH x++(ud x++(CD x.e++CD x.f)):=rfl
theorem aj9{x:bP}(h:¬ x.eD=⟨#[]⟩):(sH x).length=1:=by unfold sH;grind
theorem aka{x:bP}(h:x.eD=⟨#[]⟩):(sH x).length=0:=by unfold sH;grind
theorem akb{x:bP}{n:Nat}(h:¬ x.name=⟨#[]⟩):(n+(ud x).length)=n+1:=by unfold ud;grind
theorem akc{x:bP}{n:Nat}(h:x.name=⟨#[]⟩):(n+(ud x).length)=n:=by unfold ud;grind
def ZY{x:bP}(h:¬ x.eD=⟨#[]⟩):(CE x)[0]?=some (x.eD,x.at_,[5]):=by unfold CE;grind
def ZZ{x:bP}(h:¬ x.name=⟨#[]⟩):(CE x)[(sH x).length]?=some (x.name,x.at_,J5 x.kind):=by
 rw[CF,sK (o1 _),Nat.sub_self];unfold ud;grind
def Z0{x:bP}{j:Nat}{y:bZ}(h:(qE x.e)[j]?=some y):(CE x)[(sH x).length+(ud x).length+j]?=some (y.name,y.at_,[5]):=by
 have h1:=Tr h
 rw[CF,sK bM,show(sH x).length+(ud x).length+j-(sH x).length=(ud x).length+j from bM,sK bM,Gh,s4 (j0.1 h1).1,h1]
def Z1{x:bP}{j:Nat}{y:bZ}(h:(qE x.f)[j]?=some y):(CE x)[(sH x).length+(ud x).length+(qE x.e).length+j]?=some (y.name,y.at_,[5]):=by
 have h1:=Tr h
 have h2:(CD x.e).length=(qE x.e).length:=by unfold CD;grind
 rw[CF,sK bM,show(sH x).length+(ud x).length+(qE x.e).length+j-(sH x).length=(ud x).length+((CD x.e).length+j)from bM,sK bM,Gh,sK bM,Gh,h1]
theorem Z2(x:bP):(CE x).length=(sH x).length+(ud x).length+(qE x.e).length+(qE x.f).length:=by
 rw[CF];unfold CD;grind
def C192(y:Value)(b:Nat)(lv:Value)(ts:List bE)(xs:List bP)(w0:World)(A:Nat->Prop)(I:Nat->List HP->Prop)(Jx:g7)(w:World)(hn:xs.length<=1048576)(hz:∀x∈xs,x.e.length<=1048576/\x.f.length<=1048576)
  (hE:∀k L W,I k L->St w0 A L W->Cell W b 0 lv/\cZ (λ_=>True) W lv ts/\fR ts xs W) (h0:∃L,I 0 L/\St w0 A L w) (hy:aeL g6 w0 A I Jx y (Tq (oH xs))) :
  CR 192 [y,.pointer (some ⟨b,0,none⟩)] w (λ_ W=>(∃L,I (oH xs).length L/\St w0 A L W)\/Jx W):=by
 have Y:∀b4 (cs:List Value),aeL g6 w0 A (λj L=>∃M,I j M/\L=bY b4 cs::M) Jx y (Tq (oH xs)):=by
  rintro b4 cs k args Φ W R _ h1 h2 ⟨M,h3,rfl⟩ h4;refine kD.mono (hy k args Φ W _ M h1 (ayp h2) h3 (St.join h4)) ?_;rintro v W' (⟨rfl,L',h5,h6⟩|h5)
  .exact .inl ⟨rfl,_,⟨L',h5,rfl⟩,h6.split⟩
  grind
 refine eZ Tryz.func192 ?_;obtain⟨M0,hI0,hS0⟩:=h0;obtain⟨Dv,GJ,Bv⟩:=hE _ _ _ hI0 hS0;have KT:=Bv.1;refine bX jJ Dv (aH fq GJ ?_);refine⟨λm x w1=>∃k:Nat,x=hH (k:Int)/\m=ts.length-k/\k<=ts.length/\∃L,I (oH (xs.take k)).length L/\St w0 A L w1,⟨_,0,rfl,rfl,la _,M0,hI0,hS0⟩,?_⟩;rintro m _ w1 ⟨k,rfl,rfl,hk,M1,hI,B⟩ _;refine aQ (aC (λc=>?_) λc=>?_)
 .obtain⟨t,ht⟩:=gx ts (i:=((k:Nat):Int).toNat) bM;obtain⟨x,hx⟩:=gx xs (i:=k) bM;have hxz:=hz x (kp hx);obtain⟨vA,Cd,W9⟩:=hE _ _ _ hI B;obtain⟨O,U,rfl,_,_⟩:=W9.2 _ _ _ ht hx
  have hE1:∀k' M W,I k' M->St w0 A M W->cZ (λ_=>True) W (hM O) x.e/\cZ (λ_=>True) W (hM U) x.f:=λk' M W h1 h2=>by
   obtain⟨_,_,h3⟩:=hE k' M W h1 h2;obtain⟨_,_,h4,h5,h6⟩:=h3.2 _ _ _ ht hx;cases h4
   exact⟨DL.flat h5,DL.flat h6⟩
  have sB:∀{i:Nat}{u:UU},(CE x)[i]?=some u->(oH xs)[(oH (xs.take k)).length+i]?=some u:=aeO hx;refine aN fq Cd bM ht (λq hq=>aD eK hq (aR B jq λb4 _ B=>aJ (x:=(⟨x.kind,x.eD,x.name,O,U,x.n,x.body,x.et,x.at_⟩:bE)) B eK rfl rfl λ_ B=>?_));refine⟨λE w'=>(E=.bool false/\∃L,I ((oH (xs.take k)).length+(sH x).length) L/\St w0 A ((bY b4 (hZ (⟨x.kind,x.eD,x.name,O,U,x.n,x.body,x.et,x.at_⟩:bE)))::L) w')\/(E=.bool true/\Jx w'),?_,?_⟩
  .refine aA iG (aB (v:=.string x.eD) gB B.hb rfl (l4 (aC (λV=>?_) λV=>.inl ⟨rfl,M1,by rw[aka (by simpa using V)];exact hI,B⟩)));refine aA iG (aB (v:=.string x.eD) gB B.hb rfl (aA lJ (aB (v:=hH x.at_) bO B.hb rfl (bD ([5]:List Int) B cR rfl rfl (dR rfl) λs25 _ B=>?_))));obtain⟨sv,rfl⟩:=B.dS.fV;refine pop (vB x.eD x.at_ sv.a sv.n sv.cap) ?_;refine kD.mono (Y b4 _ _ _ _ _ _ _ ⟨_,sv,sB (i:=0) (ZY V),rfl,λ_ h=>h⟩ J4 ⟨_,hI,rfl⟩ B) ?_;rintro v w5 (⟨rfl,_,⟨J,G,rfl⟩,hs2⟩|⟨rfl,HY⟩)
   .exact bQ (.inl ⟨rfl,J,by rw[aj9 V];exact G,hs2.drop⟩)
   exact bQ (.inr ⟨rfl,HY⟩)
  rintro _ w6 (⟨rfl,J,G,B⟩|⟨rfl,HY⟩) _;rotate_left
  .exact gU (.inr HY)
  refine ft (bD ([1,2]:List Int) B cR rfl rfl (dR rfl) λs26 w7 B=>?_);refine⟨λE w'=>∃sv:SV,E=hM sv/\St w0 A (bH (hM sv) (J5 x.kind)::(bY b4 (hZ (⟨x.kind,x.eD,x.name,O,U,x.n,x.body,x.et,x.at_⟩:bE)))::J) w',?_,?_⟩
  .refine aA dN (aB (v:=hH x.kind) bO B.p1.hb rfl ⟨λE w'=>E=.bool (decide (x.kind=5\/x.kind=6))/\w'=w7,aG (aC (λc3=>⟨vb (by simp[c3]),rfl⟩) λc3=>aG ⟨vb (by simp[c3]),rfl⟩),?_⟩);rintro _ w8 ⟨rfl,rfl⟩ _;refine aC (λc3=>?_) (λc3=>⟨λE w'=>E=.bool (decide (x.kind=9\/x.kind=10))/\w'=w8,aG (aC (λc4=>⟨vb (by simp[c4]),rfl⟩) λc4=>aG ⟨vb (by simp[c4]),rfl⟩),?_⟩)
   .refine bD ([1]:List Int) B cR rfl rfl (dR rfl) (λs32 _ B=>?_);obtain⟨sv,rfl⟩:=B.dS.fV;exact⟨sv,rfl,by rw[J5,ej c3];exact B.p1.drop⟩
   rintro _ _ ⟨rfl,rfl⟩ _;refine aC (λc4=>?_) (λc4=>?_)
   .refine bD ([3]:List Int) B cR rfl rfl (dR rfl) (λs36 _ B=>?_);obtain⟨sv,rfl⟩:=B.dS.fV;exact⟨sv,rfl,by rw[J5,ei c3,ej c4];exact B.p1.drop⟩
   obtain⟨sv,rfl⟩:=B.dS.fV;exact⟨sv,rfl,by rw[J5,ei c3,ei c4];exact B⟩
  rintro _ _ ⟨sv,rfl,B⟩ _;refine⟨λE w'=>(E=.bool false/\∃L,I ((oH (xs.take k)).length+((sH x).length+(ud x).length)) L/\St w0 A ((bY b4 (hZ (⟨x.kind,x.eD,x.name,O,U,x.n,x.body,x.et,x.at_⟩:bE)))::L) w')\/(E=.bool true/\Jx w'),?_,?_⟩
  .refine aA gh (aB (v:=.string x.name) gB B.p1.hb rfl (l4 (aC (λV=>?_) λV=>.inl ⟨rfl,J,by rw[akc (by simpa using V)];exact G,B.drop⟩)));refine aA gh (aB (v:=.string x.name) gB B.p1.hb rfl (aA lJ (aB (v:=hH x.at_) bO B.p1.hb rfl (pop (vB x.name x.at_ sv.a sv.n sv.cap) ?_))));refine kD.mono (Y b4 _ _ _ _ _ _ _ ⟨_,sv,sB (i:=(sH x).length) (ZZ V),rfl,λ_ h=>h⟩ J4 ⟨_,G,rfl⟩ B) ?_;rintro v w13 (⟨rfl,_,⟨M3,hI3,rfl⟩,hs3⟩|⟨rfl,HY⟩)
   .exact bQ (.inl ⟨rfl,M3,by rw[akb V];exact hI3,hs3.drop⟩)
   exact bQ (.inr ⟨rfl,HY⟩)
  rintro _ Tp (⟨rfl,J,G,B⟩|⟨rfl,HY⟩) _;rotate_left
  .exact gU (.inr HY)
  refine ft ?_;refine⟨λE w'=>(E=.bool false/\∃L,I ((oH (xs.take (k+1))).length) L/\St w0 A ((bY b4 (hZ (⟨x.kind,x.eD,x.name,O,U,x.n,x.body,x.et,x.at_⟩:bE)))::L) w')\/(E=.bool true/\Jx w'),?_,?_⟩
  .refine aA iT (aB (v:=hM O) jH B.hb rfl (dO ahG (C193 _ y x.e 5 (oH xs) ((oH (xs.take k)).length+((sH x).length+(ud x).length)) w0 A (λj L=>∃M,I j M/\L=(bY b4 (hZ (⟨x.kind,x.eD,x.name,O,U,x.n,x.body,x.et,x.at_⟩:bE)))::M) Jx _ (by have:=hxz.1;omega) (λj L W ⟨M,h1,h2⟩ h3=>(hE1 _ _ _ h1 (h2▸h3).drop).1) ⟨_,⟨_,G,rfl⟩,B⟩ (λj _ UM=>by rw[NP];exact sB (i:=((sH x).length+(ud x).length)+j) (Z0 UM)) (Y b4 _)) ?_));rintro v _ Z;rw[NP]at Z
   rcases Z with⟨rfl,_,⟨J,G,rfl⟩,B⟩|⟨rfl,Z⟩
   .refine bQ (ft (aA j3 (aB (v:=hM U) jH B.hb rfl (dO ahG (C193 _ y x.f 5 (oH xs) ((oH (xs.take k)).length+((sH x).length+(ud x).length+(qE x.e).length)) w0 A (λj L=>∃M,I j M/\L=(bY b4 (hZ (⟨x.kind,x.eD,x.name,O,U,x.n,x.body,x.et,x.at_⟩:bE)))::M) Jx _ (by have:=hxz.2;omega) (λj L W ⟨M,h1,h2⟩ h3=>(hE1 _ _ _ h1 (h2▸h3).drop).2) ⟨_,⟨_,G,rfl⟩,B⟩ (λj _ UM=>by rw[NP];exact sB (i:=((sH x).length+(ud x).length+(qE x.e).length)+j) (Z1 UM)) (Y b4 _)) ?_))));rintro v _ Z;rw[NP]at Z
    rcases Z with⟨rfl,_,⟨J,G,rfl⟩,B⟩|⟨rfl,Z⟩
    .exact bQ (.inl ⟨rfl,J,by rw[H6 hx,kU,Z2];exact G,B⟩)
    exact bQ (.inr ⟨rfl,Z⟩)
   exact bQ (gU (.inr ⟨rfl,Z⟩))
  rintro _ w17 (⟨rfl,J,G,B⟩|⟨rfl,HY⟩) _;rotate_left
  .exact gU (.inr HY)
  exact ft (aK bM ⟨_,bM,k+1,rfl,rfl,bM,J,G,B.drop⟩)
 rw[kE bM]at hI;exact .inl ⟨M1,hI,B⟩
def C113(lv:SV)(w:World):CR 113 [hM lv] w (λv w'=>∃b,v=.func (.func 192) [].toArray [.pointer (some ⟨b,0,none⟩)].toArray/\kP (bY b [hM lv]) w w'):=by
 have u:=St.start w;refine eZ Tryz.func113 ?_;refine nx u rfl (λb _ u=>?_);exact⟨b,rfl,u.fresh⟩
variable (w:World) (K:Value->g7)
theorem ahH:PL 112:=dL Tryz.func112
end Go.Proofs.YtpdlpabnlkofmaaGreatDoor
namespace Go.Proofs.YtpdlpabnlkofmaaGreatDoor
open Go.Fw
def FU:List SI->List ByteArray->Option (List SI)
 | g,[]=>some g
 | g,n::r=>if eF g n=0 then FU (g++[(n,5)]) r else none
def Vh(l:List SI)(names:List ByteArray):Option (List SI):=FU (l.filter λp=>decide (¬ p.2=4)) names
def aeP{g:List SI}{ns:List ByteArray}{k:Nat}{n:ByteArray}(h:ns[k]?=some n)(u:eF g n=0):FU g (ns.drop k)=FU (g++[(n,5)]) (ns.drop (k+1)):=by
 rw[drop_cons h,FU,ej u]
def aeQ{g:List SI}{ns:List ByteArray}{k:Nat}{n:ByteArray}(h:ns[k]?=some n)(u:¬ eF g n=0):FU g (ns.drop k)=none:=by
 rw[drop_cons h,FU,ei u]
def arx(r:Option (List SI))(v:Value)(w w':World):Prop:=
 (r=none/\v=.tuple #[.map none,.bool true]/\Ext w w')\/∃g b,r=some g/\v=.tuple #[.map (some b),.bool false]/\kP (nj b g) w w'
def C112(tv:cE)(names:List ByteArray)(bm:Nat)(l:List SI)(w:World)(hf:cZ (λ_=>True) w (hM tv.dQ) names)(E:uM w bm l)(hz:∀p∈l,p.2≠0)(hn:names.length<=1073741824) :
  CR 112 [hM tv,.map (some bm)] w (λv w'=>arx (Vh l names) v w w'):=by
 have u:=St.start w;have KT:=E.nodup;obtain⟨es,clock,WB,V,Z⟩:=E;refine eZ Tryz.func112 ?_;refine cH u (λO w1 u=>MG u λG _ u=>UX u Tryz.underlying165 (Fk WB u.aF) λr13 _ u=>?_);refine⟨λY w1=>∃(seen:Array Nat) (M:List SI),Y=(leftOf es seen).size/\(∀p,p∈M↔(p∈l/\¬ p.2=4/\∃e∈es.toList,seen.contains e.born=true/\e.key=.string p.1))/\St w aZ [HQ r13 bm clock seen,nj G M,bY O (hZ tv)] w1,⟨_,#[],[],rfl,λ_=>⟨λh=>(by cases h),λ⟨_,_,e,_,h,_⟩=>(by simp at h)⟩,u⟩,?_⟩;rintro Y w4 ⟨seen,M,rfl,I,u⟩ _;refine YD u (Fk WB u.aF) V.1 (λh0=>?_) (λe _ U u=>?_)
 .refine aO rfl (ft ?_);have u:=u.drop
  have hg:M.Perm (l.filter λp=>decide (¬ p.2=4)):=by
   have n1:M.Nodup:=(aah.1 u.nj.nodup).imp λh e=>h (by rw[e]);have n2:l.Nodup:=(aah.1 KT).imp λh e=>h (by rw[e]);refine(List.perm_ext_iff_of_nodup n1 (n2.filter _)).2 λp=>?_;rw[I,N8];refine⟨λ⟨h1,h2,_⟩=>⟨h1,ew h2⟩,λ⟨h1,h2⟩=>⟨h1,ga h2,?_⟩⟩;obtain⟨e,U,h3,_⟩:=YF Z h1;exact⟨e,U,all_seen es seen h0 e U,h3⟩
  have u:St w aZ [nj G (l.filter λp=>decide (¬ p.2=4)),bY O (hZ tv)] w4:=u.rp λF hF=>⟨F,⟨hF.1.perm hg,hF.2⟩,λ_ hb=>.inl hb,gz.refl _ _⟩;refine aA fQ (aB je u.p1.hb rfl (aH iF (hf.ext u.aF) ?_));refine⟨λY i w'=>∃(k:Nat) (g:List SI),i=hH (k:Int)/\Y=names.length-k/\k<=names.length/\Vh l names=FU g (names.drop k)/\(∀p∈g,p.2≠0)/\St w aZ [nj G g,bY O (hZ tv)] w',⟨_,0,_,rfl,rfl,la _,rfl,λp hp=>hz p (N8.1 hp).1,u⟩,?_⟩;rintro Y _ _ ⟨k,g,rfl,rfl,hk,GK,hzg,u⟩ _;refine aQ (aC (λNd=>?_) λNd=>?_)
  .obtain⟨zn,jW⟩:=gx names (i:=(k:Int).toNat) bM;refine aN iF (hf.ext u.aF) bM jW (λ_ A8=>aD gB A8 (yr u.nj Tryz.underlying165 Tryz.underlying9 uA (bV (aC (λlO=>.inl ⟨GK.trans (aeQ jW lO),rfl,u.drop.drop.aF⟩) λlO=>?_))));have W:eF g zn=0:=bM
   refine MH u Tryz.underlying165 Tryz.underlying9 (PX u.nj.nodup hzg W) (λ_ u=>aK bM ?_)
   exact⟨_,bM,k+1,_,rfl,rfl,bM,GK.trans (aeP jW W),λp hp=>by
    rcases oF.1 hp with h|h
    .exact hzg p h
    .rw[ua.1 h];exact(by decide:(5:Int)≠0),u⟩
  refine .inr ⟨g,G,?_,rfl,u.p1.drop.fresh⟩;rw[GK,u1 bM];rfl
 refine aO rfl (gU ?_);have E:=mem_left U;refine UY u (Fk WB u.aF) E.1 V.2.1 ?_;obtain⟨p0,O0,B,hev⟩:=YE Z E.1;rw[B,hev];refine aO rfl (aO rfl (bV ?_))
 have old:∀q∈M,q.1≠p0.1:=λq hq e=>by
  obtain⟨_,_,J,Nf,h1,h2⟩:=(I q).1 hq;rw[e,<- B]at h2;obtain rfl:=key_inj V.2.2 Nf E.1 h2;exact absurd h1 (by simpa using E.2)
 refine aC (λm7=>?_) (λm7=>?_)
 .have u:=u.p1;refine MH u Tryz.underlying165 Tryz.underlying9 old (λ_ u=>?_);have u:=u.p1;refine⟨_,left_shrinks es seen e U,seen.push e.born,_,rfl,λp=>?_,u⟩;rw[oF,ua,I]
  constructor
  .rintro(⟨h1,h2,J,h3,h4,h5⟩|rfl)
   .exact⟨h1,h2,J,h3,by simp at h4 |-;exact .inl h4,h5⟩
   exact⟨O0,m7,e,E.1,ee,B⟩
  rintro⟨h1,h2,J,h3,h4,h5⟩
  rcases xp h4 with h|h
  .exact .inl ⟨h1,h2,J,h3,h,h5⟩
  obtain rfl:=born_inj V.2.1 h3 E.1 h;rw[B]at h5;injection h5 with h5;exact .inr (YG KT h1 O0 h5.symm)
 refine⟨_,left_shrinks es seen e U,seen.push e.born,M,rfl,λp=>?_,u⟩;rw[I]
 constructor
 .rintro⟨h1,h2,J,h3,h4,h5⟩;exact⟨h1,h2,J,h3,by simp at h4 |-;exact .inl h4,h5⟩
 rintro⟨h1,h2,J,h3,h4,h5⟩
 rcases xp h4 with h|h
 .exact⟨h1,h2,J,h3,h,h5⟩
 obtain rfl:=born_inj V.2.1 h3 E.1 h;rw[B]at h5;injection h5 with h5;obtain rfl:=YG KT h1 O0 h5.symm;exact absurd h2 m7
theorem dK{ns:List ByteArray}{s:ByteArray}:0<=cU ns s↔s∈ns:=by
 have h:=Cs ns s
 grind
theorem Bw{ns:List ByteArray}{s:ByteArray}:cU ns s<0↔s ∉ ns:=by rw[<- dK];omega
theorem lV{ns:List ByteArray}{s:ByteArray}(h:s∈ns):∃k:Nat,cU ns s=k/\ns[k]?=some s/\∀j,j<k->ns[j]?≠some s:=by
 unfold cU si
 cases hf:ns.findIdx? (λy=>decide (y=s))with
 | none=>grind
 | some k=>
  obtain⟨h1,h2,h3⟩:=List.findIdx?_eq_some_iff_getElem.1 hf
  grind
def pS{ns:List ByteArray}{s:ByteArray}{k:Nat}(h:s∈ns):cU ns s<k↔s∈ns.take k:=by
 obtain⟨j,h1,h2,h3⟩:=lV h
 rw[h1]
 constructor
 .intro B;exact xj.2 ⟨j,cJ⟩
 intro u
 obtain⟨i,hi⟩:=xj.1 u
 grind
theorem nodup_iff(ns:List ByteArray):ns.Nodup↔∀(k:Nat) (s:ByteArray),ns[k]?=some s->s ∉ ns.take k:=by
 unfold List.Nodup
 rw[RC]
 constructor
 .intro h k s G E
  obtain⟨i,hi⟩:=xj.1 E
  grind
 intro h i j hi u B I
 exact h j _ (kO u) (xj.2 ⟨i,cJ⟩)
theorem zY(l:List cI):kq l=true↔¬ (l.map cI.name).Nodup:=by
 rw[nodup_iff]
 unfold kq
 rw[v7]
 constructor
 .rintro⟨j,u,h⟩ E
  have u:=Lo.1 u
  have J:l[j]?=some l[j]:=kO u
  rw[yu J,decide_eq_true_iff]at h
  have B:(l[j]).name∈l.map cI.name:=n5.2 ⟨_,TL u,rfl⟩
  exact E j _ cJ ((pS B).1 h)
 intro E
 apply gT
 intro hc
 refine E λk s I B=>hc ⟨k,?_,?_⟩
 .grind
 rw[oj]at I
 obtain⟨c,G,rfl⟩:=H5.1 I
 rw[yu G,decide_eq_true_iff]
 exact(pS (wE B)).2 B
def Ng(p:cA)(rs:List ByteArray):uO p rs=true↔¬ rs.Nodup\/∃s∈rs,s∈cX p\/s∈cL p:=by
 rw[nodup_iff]
 unfold uO
 rw[v7]
 constructor
 .rintro⟨j,u,h⟩
  have u:=Lo.1 u
  have G:rs[j]?=some rs[j]:=kO u
  have E:=TL u
  rw[Bj G]at h
  simp only[xr,decide_eq_true_eq,dK]at h
  rcases h with(h|h)|h
  .exact .inl λB=>B j _ G ((pS E).1 h)
  .grind
  grind
 intro B
 rcases B with B|⟨s,J,hc⟩
 .apply gT
  intro hc
  refine B λk s I E=>hc ⟨k,Lo.2 (j0.1 I).1,?_⟩
  rw[Bj I]
  simp only[xr,decide_eq_true_eq]
  exact .inl (.inl ((pS (wE E)).2 E))
 obtain⟨j,u⟩:=xj.1 J
 refine⟨j,Lo.2 (j0.1 u).1,?_⟩
 rw[Bj u]
 simp only[xr,decide_eq_true_eq,dK]
 rcases hc with hc|hc
 .exact .inl (.inr hc)
 exact .inr hc
def nmQ(p:cA):List (ByteArray×Int×Int):=WG p++(Vf p++WH p)
theorem Ts(p:cA):Df p=Ao (nmQ p) ([],false,0):=by simp_all[SI,Df,Ao,nmQ]
theorem CG(p:cA):(nmQ p).map (·.1)=(fN p).map cI.name:=by
 unfold nmQ WG Vf WH fN
 rw[<- Bu]
 simp only[vf,H4,nk]
 rfl
theorem Z3(p:cA):∀q∈nmQ p,q.2.1≠0:=by
 intro q u
 unfold nmQ WG Vf WH De at u
 grind
theorem Z4:∀(l:List (ByteArray×Int×Int)) (st:List SI×Bool×Int),(∀q∈l,q.2.1≠0)->
  ((Ao l st).2.1=true↔st.2.1=true\/¬ (l.map (·.1)).Nodup\/∃q∈l,eF st.1 q.1≠0)
 | [],st,_=>by simp[Ao]
 | q::r,st,hz=>by
  have B:=Z4 r (ZW st q) λq u=>hz q (pd _ u)
  have E:=hz q (oi ..)
  have e:Ao (q::r) st=Ao r (ZW st q):=rfl
  rw[e,B]
  show twN st.1 q.1 st.2.1=true\/_\/(∃x∈r,eF (zX st.1 q.1 q.2.1) x.1≠0)↔_
  unfold twN
  rw[KM,JG]
  simp only[xr,decide_eq_true_eq,CC,n5,sk]
  grind
theorem Z5(p:cA):(Df p).2.1=kq (fN p):=by
 rw[JE,Ts,Z4 _ _ (Z3 p),zY,CG]
 simp[eF]
theorem QN:∀(l:List (ByteArray×Int×Int)) (st:List SI×Bool×Int) (n:ByteArray),n ∉ l.map (·.1)->eF (Ao l st).1 n=eF st.1 n
 | [],_,_,_=>rfl
 | q::r,st,n,h=>by
  rw[KM,sk,not_or]at h
  have e:Ao (q::r) st=Ao r (ZW st q):=rfl
  rw[e,QN r _ n h.2]
  show eF (zX st.1 q.1 q.2.1) n=_
  rw[CC,ei λu=>h.1 u.symm]
theorem FV:∀(l:List (ByteArray×Int×Int)) (st:List SI×Bool×Int) (q:ByteArray×Int×Int),(l.map (·.1)).Nodup->q∈l->eF (Ao l st).1 q.1=q.2.1
 | x::r,st,q,hn,h=>by
  rw[KM,JG]at hn
  have e:Ao (x::r) st=Ao r (ZW st x):=rfl
  rw[e]
  rcases sk.1 h with rfl|h
  .rw[QN r _ _ hn.1]
   show eF (zX st.1 q.1 q.2.1) q.1=_
   rw[CC,ej rfl]
  .exact FV r _ q hn.2 h
theorem Z6:∀(l:List (ByteArray×Int×Int)) (st:List SI×Bool×Int),(∀q∈l,q.2.1≠0)->(∀e∈st.1,e.2≠0)->∀e∈(Ao l st).1,e.2≠0
 | [],_,_,h=>h
 | q::r,st,hz,h=>Z6 r (ZW st q) (λq u=>hz q (pd _ u)) (aeJ h (hz q (oi ..)))
def QO(p:cA):∀e∈(Df p).1,e.2≠0:=by
 rw[Ts];exact Z6 _ _ (Z3 p) λe u=>by cases u
theorem Z7:∀(ls:List (List cI)) (k:Int) (q:cI×Int),q∈QL k ls->k<=q.2/\q.2<k+ls.length
 | [],_,_,h=>by cases h
 | l::r,k,q,h=>by
  unfold QL at h
  rcases oF.1 h with h|h
  .grind
  .have:=Z7 r (k+1) q h;simp;omega
theorem Z8:∀(vs:List cI) (k:Int) (q:cI×Int),q∈OY k vs->k<=q.2
 | [],_,_,h=>by cases h
 | v::r,k,q,h=>by
  unfold OY at h
  rcases sk.1 h with rfl|h
  .omega
  .have:=Z8 r (k+1) q h;omega
def tJ(p:cA):List ByteArray:=p.iO.map cI.name
def aeS(p:cA):List ByteArray:=p.threads.map cM.name
theorem Nh(p:cA):iC p=p.lines.flatten.map cI.name:=by
 unfold iC cX iW eN
 rw[vf,qb,List.take_left' cJ]
theorem qF(p:cA):cX p=iC p++tJ p:=by
 rw[Nh];unfold cX iW tJ;grind
theorem Tt(p:cA):(fN p).map cI.name=iC p++tJ p++(cL p++aeS p):=by
 rw[<- qF];unfold fN cX cL aeS
 simp_all
theorem Tu{p:cA}(G:kq (fN p)=false)(s:ByteArray) :
  eF (Df p).1 s=if 0<=cU (iC p) s then 1 else if 0<=cU (tJ p) s then 2 else if 0<=cU (cL p) s then 3 else if 0<=cU (aeS p) s then 4 else 0:=by
 have hd:((fN p).map cI.name).Nodup:=gT λh=>by rw[(zY _).2 h]at G;cases G
 have B:((nmQ p).map (·.1)).Nodup:=by rw[CG];exact hd
 rw[Ts]
 by_cases h1:s∈iC p
 .rw[ej (dK.2 h1)]
  rw[Nh,<- J1 p.lines 0]at h1
  obtain⟨c,hc,rfl⟩:=n5.1 h1
  obtain⟨q,u,rfl⟩:=n5.1 hc
  have E:(q.1.name,De p q.2,q.1.at_)∈nmQ p:=List.mem_append_left _ (n5.2 ⟨q,List.mem_append_left _ u,rfl⟩)
  have J:=Z7 _ _ _ u
  exact(FV _ _ _ B E).trans (ei bM)
 rw[ei λh=>h1 (dK.1 h)]
 by_cases h2:s∈tJ p
 .rw[ej (dK.2 h2)]
  unfold tJ at h2
  rw[<- J2 p.iO p.lines.length]at h2
  obtain⟨c,hc,rfl⟩:=n5.1 h2
  obtain⟨q,u,rfl⟩:=n5.1 hc
  have E:(q.1.name,De p q.2,q.1.at_)∈nmQ p:=List.mem_append_left _ (n5.2 ⟨q,List.mem_append_right _ u,rfl⟩)
  have I:=Z8 _ _ _ u
  exact(FV _ _ _ B E).trans (ej I)
 rw[ei λh=>h2 (dK.1 h)]
 by_cases h3:s∈cL p
 .rw[ej (dK.2 h3)]
  obtain⟨c,hc,rfl⟩:=n5.1 h3
  exact FV _ _ (c.name,3,c.at_) B (List.mem_append_right _ (List.mem_append_left _ (n5.2 ⟨c,hc,rfl⟩)))
 rw[ei λh=>h3 (dK.1 h)]
 by_cases h4:s∈aeS p
 .rw[ej (dK.2 h4)]
  obtain⟨t,ht,rfl⟩:=n5.1 h4
  exact FV _ _ (t.name,4,t.at_) B (List.mem_append_right _ (List.mem_append_right _ (n5.2 ⟨t,ht,rfl⟩)))
 rw[ei λh=>h4 (dK.1 h),QN _ _ _ (by rw[CG,Tt];grind)]
 rfl
def FW{α:Type}{l:List α}{f g:α->Bool}(h:∀x∈l,f x=g x):l.any f=l.any g:=by
 grind
theorem Vi{g:List SI}{n k:ByteArray}{v:Int}(u:∀e∈g,e.2≠0)(h:eF g n=0):eF (g++[(n,v)]) k=if n=k then v else eF g k:=by
 induction g with
 | nil=>simp_all[eF,SI]
 | cons e r G=>
  have B:=u e (oi ..)
  have I:¬ e.1=n:=λE=>by
   have:eF (e::r) n=e.2:=by simp_all[eF,SI]
   omega
  have J:eF r n=0:=by
   grind[eF]
  show(if e.1=k then e.2 else eF (r++[(n,v)]) k)=if n=k then v else(if e.1=k then e.2 else eF r k)
  grind
theorem H7:∀(ns:List ByteArray) (g:List SI),(∀e∈g,e.2≠0)->
  (FU g ns=none/\(¬ ns.Nodup\/∃s∈ns,eF g s≠0))\/∃G,FU g ns=some G/\ns.Nodup/\(∀s∈ns,eF g s=0)/\∀s,eF G s=if 0<=cU ns s then 5 else eF g s
 | [],g,_=>.inr ⟨g,rfl,List.nodup_nil,λs h=>(by cases h),λs=>by rw[ei];exactλh=>by cases dK.1 h⟩
 | n::r,g,hz=>by
  unfold FU
  split
  .rename_i hl
   have J:∀e∈g++[(n,(5:Int))],e.2≠0:=by
    grind
   have E:=λk=>Vi (k:=k) (v:=5) hz hl
   rcases H7 r _ J with⟨h1,h2⟩|⟨G,h1,h2,h3,h4⟩
   .grind
   .have B:n ∉ r:=λM=>cJ
    refine .inr ⟨G,h1,JG.2 ⟨B,h2⟩,λs u=>?_,λs=>?_⟩
    .rcases sk.1 u with rfl|u
     .exact hl
     .have:=h3 s u;rw[E,ei λe:n=s=>B (e▸u)]at this;exact this
    .rw[h4,E]
     by_cases u:s∈r
     .rw[ej (dK.2 u),ej (dK.2 (pd _ u))]
     .rw[ei λh=>u (dK.1 h)]
      by_cases I:n=s
      .rw[ej I,ej (dK.2 (by rw[I];exact oi ..))]
      .rw[ei I,ei λh=>(sk.1 (dK.1 h)).elim (λe=>I e.symm) u]
  grind
theorem Ni{l:List SI}(u:(l.map (·.1)).Nodup)(s:ByteArray):eF (l.filter λp=>decide (¬ p.2=4)) s=if eF l s=4 then 0 else eF l s:=by
 induction l with
 | nil=>rfl
 | cons e r B=>
  rw[KM,JG]at u
  have B:=B u.2
  have I:e.1=s->eF r s=0:=λh=>zP λq E J=>u.1 (n5.2 ⟨q,E,cJ⟩)
  have G:eF (e::r) s=if e.1=s then e.2 else eF r s:=rfl
  rw[List.filter_cons,G]
  by_cases h4:e.2=4
  .grind
  .rw[ej (by simp[h4])]
   show(if e.1=s then e.2 else eF _ s)=_
   grind
def Z9{l:List SI}{k:ByteArray}{v:Int}(h:(l.map (·.1)).Nodup):((zX l k v).map (·.1)).Nodup:=by
 unfold zX
 grind
theorem aaa(p:cA):((Df p).1.map (·.1)).Nodup:=by
 rw[Ts]
 have:∀(l:List (ByteArray×Int×Int)) (st:List SI×Bool×Int),(st.1.map (·.1)).Nodup->((Ao l st).1.map (·.1)).Nodup:=by
  intro l
  induction l with
  | nil=>intro st h;exact h
  | cons q r u=>intro st h;exact u (ZW st q) (Z9 h)
 grind
theorem J6{p:cA}(I:kq (fN p)=false)(rs:List ByteArray) :
  (Vh (Df p).1 rs=none/\uO p rs=true)\/∃g,Vh (Df p).1 rs=some g/\uO p rs=false/\(∀s∈rs,s ∉ cX p/\s ∉ cL p)/\
   ∀s,eF g s=if 0<=cU rs s then 5 else if 0<=cU (iC p) s then 1 else if 0<=cU (tJ p) s then 2 else if 0<=cU (cL p) s then 3 else 0:=by
 have G:∀s,eF ((Df p).1.filter λp=>decide (¬ p.2=4)) s=if 0<=cU (iC p) s then 1 else if 0<=cU (tJ p) s then 2 else if 0<=cU (cL p) s then 3 else 0:=by
  intro s
  rw[Ni (aaa p),Tu I]
  omega
 have hc:∀s,eF ((Df p).1.filter λp=>decide (¬ p.2=4)) s≠0↔(s∈cX p\/s∈cL p):=by
  intro s
  rw[G,qF,oF,<- dK (ns:=iC p),<- dK (ns:=tJ p),<- dK (ns:=cL p)]
  omega
 unfold Vh
 rcases H7 rs ((Df p).1.filter λp=>decide (¬ p.2=4)) (λe J=>QO p e (N8.1 J).1)with⟨h1,h2⟩|⟨g,h1,h2,h3,h4⟩
 .refine .inl ⟨h1,(Ng p rs).2 ?_⟩
  grind
 have B:∀s∈rs,s ∉ cX p/\s ∉ cL p:=λs u=>by
  have h:=h3 s u
  exact⟨λE=>(hc s).2 (.inl E) h,λE=>(hc s).2 (.inr E) h⟩
 refine .inr ⟨g,h1,?_,B,λs=>by rw[h4,G]⟩
 cases hr:uO p rs with
 | false=>rfl
 | true=>
  rcases(Ng p rs).1 hr with h|⟨s,u,h⟩
  .grind
  .rcases h with h|h
   .exact absurd h (B s u).1
   .exact absurd h (B s u).2
def DC(g:List SI)(u:UU):Bool:=!u.2.2.any λm=>decide (m=eF g u.1)
theorem Nj{g:List SI}{rs:List ByteArray}(l:List bZ)(h:∀s,eF g s=5↔s∈rs):(CD l).any (DC g)=pb l rs:=by
 rw[JE]
 unfold CD qE pb DC
 simp only[List.any_map,v7,N8,Function.comp_apply,TK,aai,Vl,sl,decide_eq_false_iff_not,n3,decide_eq_true_eq,Bw]
 grind
def QQ(p:cA)(s:ByteArray):s∈iC p↔0<=cU (cX p) s/\cU (cX p) s<eN p:=by
 rw[dK,show iC p=(cX p).take (eN p).toNat from rfl]
 have B:0<=eN p:=by unfold eN;omega
 constructor
 .intro h
  have u:=wE h
  have:=(pS u).2 h
  exact⟨u,bM⟩
 rintro⟨h1,h2⟩;exact(pS h1).1 bM
theorem arz(k:Int):eU (fE k) 110=decide (k=2\/k=3\/k=4\/k=5\/k=6\/k=9\/k=10):=by
 unfold fE
 split
 .rw[ez bM];decide
 rename_i h
 obtain rfl|rfl|rfl|rfl|rfl|rfl|rfl|rfl|rfl|rfl|rfl|rfl|rfl|rfl:k=1\/k=2\/k=3\/k=4\/k=5\/k=6\/k=7\/k=8\/k=9\/k=10\/k=11\/k=12\/k=13\/k=14:=bM
 all_goals decide
theorem Nk:gQ ⟨#[]⟩=false:=dC
def aeT{p:cA}{rs:List ByteArray}{g:List SI}(G:∀s∈rs,s ∉ cX p/\s ∉ cL p)(J:∀s∈cX p,s ∉ cL p)(hsv:∀s∈iC p,s ∉ tJ p)
  (B:∀s,eF g s=if 0<=cU rs s then 5 else if 0<=cU (iC p) s then 1 else if 0<=cU (tJ p) s then 2 else if 0<=cU (cL p) s then 3 else 0) {x:bP}(E:ap6 x) :
  (CE x).any (DC g)=nc p rs x:=by
 have M:∀s,eF g s=5↔s∈rs:=λs=>by
  rw[B,<- dK];omega
 have Z:∀s,eF g s=1↔s∈iC p:=λs=>by
  rw[B,<- dK]
  split
  .rename_i h
   have:=G s (dK.1 h)
   rw[qF,oF]at this
   refine⟨λh=>(by cases h),λh=>absurd (dK.1 h) λu=>this.1 (.inl u)⟩
  omega
 have O:∀s,eF g s=2↔s∈tJ p:=λs=>by
  rw[B]
  split
  .rename_i h
   have:=G s (dK.1 h)
   rw[qF,oF]at this
   grind
  .split
   .grind
   .rw[<- dK];omega
 have V:∀s,eF g s=3↔s∈cL p:=λs=>by
  rw[B]
  split
  .grind
  .split
   .rename_i h;exact⟨λh=>(by cases h),λu=>absurd u (J s (by rw[qF];grind))⟩
   .split
    .rename_i h;exact⟨λh=>(by cases h),λu=>absurd u (J s (by rw[qF];grind))⟩
    .rw[<- dK];omega
 have I:=E.name
 rw[arz]at I
 rw[CF,Qz,Qz,Qz,Nj x.e M,Nj x.f M]
 have Y:(sH x).any (DC g)=(decide (¬ x.eD=⟨#[]⟩)&&decide (cU rs x.eD<0)):=by
  unfold sH
  split
  .grind
  .rename_i h
   rw[ew h,Bt,JE]
   simp only[TK,aai,Vl,DC,sl,decide_eq_false_iff_not,decide_eq_true_eq,Bw]
   grind
 have W:(ud x).any (DC g)=(((decide (x.kind=2)||decide (x.kind=3)||decide (x.kind=4))&&decide (cU (cX p) x.name<0)) ||
   ((decide (x.kind=5)||decide (x.kind=6))&&(decide (cU (cX p) x.name<0)||decide (eN p<=cU (cX p) x.name))) ||
   ((decide (x.kind=9)||decide (x.kind=10))&&decide (cU (cL p) x.name<0))):=by
  have hk:=E.kind
  unfold ud
  split
  .rename_i h
   have U:¬ (x.kind=2\/x.kind=3\/x.kind=4\/x.kind=5\/x.kind=6\/x.kind=9\/x.kind=10):=by
    intro u
    rcases I with⟨_,h2⟩|⟨h1,_⟩
    .rw[h,Nk]at h2;cases h2
    grind
   grind
  .rename_i h
   have U:x.kind=2\/x.kind=3\/x.kind=4\/x.kind=5\/x.kind=6\/x.kind=9\/x.kind=10:=by
    grind
   have hc:=QQ p x.name
   rw[JE]
   unfold J5
   simp only[TK,aai,Vl,DC,sl,xr,n3,decide_eq_true_eq,Bw]
   have e1:=Z x.name;have e2:=O x.name;have e3:=V x.name
   have ec:x.name∈cX p↔x.name∈iC p\/x.name∈tJ p:=by rw[qF,oF]
   have pn:=dK (ns:=cX p) (s:=x.name)
   grind
 rw[Y,W]
 unfold nc
 grind
def Nl{p:cA}(B:kq (fN p)=false):(∀s∈cX p,s ∉ cL p)/\∀s∈iC p,s ∉ tJ p:=by
 have hd:((fN p).map cI.name).Nodup:=gT λh=>by rw[(zY _).2 h]at B;cases B
 rw[Tt,aaj]at hd
 obtain⟨h1,h2,h3⟩:=hd
 rw[aaj]at h1
 exact⟨λs u G=>h3 s (by rw[<- qF];exact u) s (List.mem_append_left _ G) rfl,λs u E=>h1.2.2 s u s E rfl⟩
def aab{p:cA}{t:cM}{g:List SI}(u:kq (fN p)=false)(B:Vh (Df p).1 t.dQ=some g)(E:∀x∈t.body,m9 x=true):(oH t.body).any (DC g)=t.body.any (nc p t.dQ):=by
 rcases J6 u t.dQ with⟨h1,_⟩|⟨M,h1,h2,h3,h4⟩
 .grind
 rw[B]at h1;cases h1
 obtain⟨G,J⟩:=Nl u
 unfold oH
 rw[List.any_flatMap]
 refine FW λx I=>aeT h3 G J h4 (yt (E x I))
def QR{p:cA}(u:kq (fN p)=false)(l:List bZ):(l.any λx=>decide (x.op=2)&&decide (¬ eF (Df p).1 x.name=1))=pb l (iC p):=by
 unfold pb
 refine FW λx _=>?_
 congr 1
 refine e8.2 ?_
 rw[Bw,Tu u,<- dK]
 omega
variable (w:World) (K:Value->g7)
def S48(p0:Value):Prop:=
 qW g6 (yB 27 p0) w λp1 a=>aL 31 a λb c=>aL 3 c λd e=>lA 27 p1 e λf=>cF 107 [f] e λg h=>xT g 0 λj=>xT g 1 λk=>xT g 2 λl=>lA 27 p1 h λn=>
 cF 108 [n] h λo p=>eT g6 (Op.unary .not o) λq=>cV q (sA 31 b (i 8) p λs=>sA 3 d (i 0) s λt=>lA 31 b t λr=>lA 3 d t λJc=>K (.tuple #[r,Jc]) t) (lA 27 p1 p λu=>
 cF 109 [u] p λv x=>cV v (sA 31 b (i 2) x λy=>sA 3 d (i 0) y λz=>lA 31 b z λPl=>lA 3 d z λr_3=>K (.tuple #[Pl,r_3]) z) (lA 27 p1 x λaa=>cF 110 [aa] x λab ac=>
 lN 24 ab λad=>kG (λK1 ae U=>∀_:Env,
 bA .lss 3 ae ad λag=>cV ag (iA 24 ab ae λah=>lA 146 ah U λai=>aL 146 U λt8 aj=>sA 146 t8 ai aj λak=>fA 146 t8 2 λal=>lA 141 al ak λam=>cF 111 [am,(i 1)] ak λan ao=>
 xT an 0 λap=>xT an 1 λaq=>cV aq (sA 31 b (i 11) ao λar=>sA 3 d ap ar λG=>lA 31 b G λr_4=>lA 3 d G λr_5=>K (.tuple #[r_4,r_5]) G) (bB .add 3 ae (i 1) λau=>
 K1 au ao)) (cV l (sA 31 b (i 10) U λav=>sA 3 d k av λaw=>lA 31 b aw λr_6=>lA 3 d aw λr_7=>K (.tuple #[r_6,r_7]) aw) (lA 27 p1 U λax=>cF 110 [ax] U λay az=>
 lN 24 ay λa0=>kG (λK2 a2 Y=>∀_:Env,
 bA .lss 3 a2 a0 λa4=>cV a4 (iA 24 ay a2 λa5=>lA 146 a5 Y λa6=>aL 146 Y λE a7=>sA 146 E a6 a7 λa8=>lA 146 E a8 λa9=>cF 112 [a9,j] a8 λba bb=>xT ba 0 λ_=>
 xT ba 1 λbc=>cV bc (fA 146 E 3 λbd=>lA 3 bd (drew bb) λbe=>sA 31 b (i 10) (drew bb) λbf=>kA 3 bd be bf (sA 3 d be bf λbg=>lA 31 b bg λr_8=>lA 3 d bg λr_9=>
 K (.tuple #[r_8,r_9]) bg)) (bB .add 3 a2 (i 1) λbh=>K2 bh bb)) (lA 27 p1 Y λbi=>cF 110 [bi] Y λbj bk=>lN 24 bj λbl=>oN (λK3 ds bm W=>∀_:Env,
 bA .lss 3 bm bl λbo=>cV bo (iA 24 bj bm λbp=>lA 146 bp W λbq=>aL 146 W λI br=>sA 146 I bq br λbs=>lA 146 I bs λbt=>cF 112 [bt,j] bs λbu bv=>xT bu 0 λbw=>
 xT bu 1 λ_=>aL 165 bv λJ bx=>sA 165 J bw bx λbz=>fA 146 I 2 λb0=>lA 141 b0 bz λb1=>cF 113 [b1] bz λb2 b3=>AB g6 b2 1 b3 (λa1 b4 B1 R1=>
 aL 177 b4 λB b5=>sA 177 B (Ez a1 0) b5 λb6=>B1 b6 λV=>fA 177 B 2 λb8=>lA 41 b8 V λb9=>lA 165 J V λca=>fA 177 B 0 λcb=>lA 9 cb V λcc=>
 KQ g6 (x7 165 ca cc false) V λcd=>cF 114 [b9,cd] V λce cf=>eT g6 (Op.unary .not ce) λcg=>cV cg (fA 177 B 1 λch=>lA 3 ch (drew cf) λci=>
 sA 31 b (i 9) (drew cf) λcj=>kA 3 ch ci cj (sA 3 d ci cj λck=>R1 (some .ret) ck)) (R1 none cf)) (aft (λD cl=>bB .add 3 bm (i 1) λcm=>K3 (lG (D::(AA ds))) cm cl)
 (λD cn=>mQ (D::(AA ds)) cn λco=>lA 31 b co λayu=>lA 3 d co λayv=>K (.tuple #[ayu,ayv]) co) λ_ _ _=>False)) (fA 27 p1 5 λcp=>lA 25 cp W λcq=>
 lN 25 cq λcr=>kG (λK4 cs ct=>∀_:Env,
 bA .lss 3 cs cr λcu=>cV cu (iA 25 cq cs λcv=>lA 85 cv ct λcw=>aL 85 ct λM cx=>sA 85 M cw cx λcy=>fA 85 M 0 λcz=>lA 82 cz cy λc0=>lN 82 c0 λc1=>
 kG (λK5 c2 c3=>∀_:Env,
 bA .lss 3 c2 c1 λc4=>cV c4 (iA 82 c0 c2 λc5=>lA 164 c5 c3 λc6=>aL 164 c3 λZ c8=>sA 164 Z c6 c8 λO=>eS (λK6=>fA 164 Z 0 λda=>lA 3 da O λdb=>
 bB .eql 3 db (i 2) λdc=>cV dc (fA 164 Z 2 λdd=>lA 9 dd O λde=>KQ g6 (x7 165 j de false) O λdf=>bB .neq 3 df (i 1) λdg=>K6 dg O) (K6 ff O))
 (λdh di=>∀_:Env,
 cV dh (fA 164 Z 3 λdj=>lA 3 dj (drew di) λdk=>sA 31 b (i 9) (drew di) λdl=>kA 3 dj dk dl (sA 3 d dk dl λdm=>mQ (AA ds) dm λdn=>lA 31 b dn λayw=>lA 3 d dn λayx=>
 K (.tuple #[ayw,ayx]) dn)) (bB .add 3 c2 (i 1) λdp=>K5 dp di))) (bB .add 3 cs (i 1) λdq=>K4 dq c3)) λK5=>K5 (i 0) cy) (sA 31 b (i 0) ct λdr=>sA 3 d (i 0) dr λdt=>
 mQ (AA ds) dt λdu=>lA 31 b du λayy=>lA 3 d du λayz=>K (.tuple #[ayy,ayz]) du)) λK4=>K4 (i 0) W)) λK3=>K3 (lG []) (i 0) bk)) λK2=>K2 (i 0) az)))
 λK1=>K1 (i 0) ac))
def P48:dJ:=λi=>match i with
 | 20=>(.of [(0,[]),(1,[]),(2,[1]),(3,[])])
 | 29=>(.of [(0,[]),(1,[]),(2,[1]),(3,[])])
 | 38=>(.of [(0,[]),(1,[]),(2,[1]),(3,[])])
 | _=>.nil
theorem ake(p0:Value)(h:S48 w K p0):CR 48 [p0] w K:=
 qm 128 P48 12 [.cell 2 31,.cell 3 3] Tryz.func48 h
theorem ayA:PL 48:=dL Tryz.func48
theorem arB:PL 114:=dL Tryz.func114
theorem arC:PL 194:=dL Tryz.func194
end Go.Proofs.YtpdlpabnlkofmaaGreatDoor
namespace Go.Proofs.YtpdlpabnlkofmaaGreatDoor
open Go.Fw
def C194(sv:Value)(ns:List Int)(s:Int)(w:World)(J:cZ (λ_=>True) w sv ns)(O:ns.length<=1048576):CR 194 [sv,hH s] w (λv w'=>v=hH (si (λy=>decide (y=s)) ns)/\Ext w w'):=by
 have u:=St.start w;refine eZ Tryz.func194 ?_;refine aH cR (J.ext u.aF) ?_;refine⟨λm x I=>∃k:Nat,x=hH (k:Int)/\m=ns.length-k/\k<=ns.length/\(∀y∈ns.take k,decide (y=s)=false)/\St w aZ [] I,⟨_,0,rfl,rfl,la _,ee,u⟩,?_⟩;rintro m _ I ⟨k,rfl,rfl,U,B,u⟩ _;refine aQ (aC (λV=>?_) λ_=>⟨fM (ng .i64) (ja (by rw[kE bM]at B;exact B)).symm,u.aF⟩);obtain⟨W,E⟩:=gx ns (i:=(k:Int).toNat) bM;exact aN cR J bM E (λ_ M=>aD bO (M.ext u.aF) (aG (aC (λG=>⟨fM (ng .i64) (l8 B E (ew G.symm)).symm,u.aF⟩) λG=>aK bM ⟨_,bM,k+1,rfl,rfl,bM,dW B E (ez λh=>G h.symm),u⟩)))
def C114(sv:Value)(ns:List Int)(s:Int)(w:World)(B:cZ (λ_=>True) w sv ns)(E:ns.length<=1048576):CR 114 [sv,hH s] w (λv w'=>v=.bool (ns.any λy=>decide (y=s))/\Ext w w'):=by
 have u:=St.start w;refine eZ Tryz.func114 ?_;exact aV arC u (C194 _ _ _ _ (B.ext u.aF) bM) (λ_ _ u=>cQ ⟨vb (kR _ _),u.aF⟩)
def aac{u:UU}{l:List bP}(h:u∈oH l):u.2.2.length<=1048576:=by
 have:u.2.2.length<=2:=by
  unfold oH at h
  obtain⟨x,_,h⟩:=List.mem_flatMap.1 h
  rw[CF]at h
  unfold sH ud CD J5 at h
  simp only[oF]at h
  grind
 omega
theorem C48(p:cA)(pv:bN)(w:World)(hp:mv w pv p)(Z:PZ p):CR 48 [hM pv] w (λv w'=>∃a:Int,v=.tuple #[hH (fe p),hH a]/\Ext w w'):=by
 have O0:=hp;have ajK:=D4 Z.toPS;obtain⟨bJ,bT,bK,aU,aX,bG,rfl,cO,dG,cW,cB,cC,cN⟩:=hp;obtain⟨U,ZH,ZI⟩:=cB.open;obtain⟨O,QC,hD4⟩:=cC.open;have hn3:=ZI.1;have hn4:=hD4.1;have hD:=ZI.append hD4;have ayB:=hD.1
 change (U++O).length=(gu p).length at ayB
 have E:=St.start w;refine ake _ _ _ ?_;unfold S48;refine cH E (λbp w1 E=>gG E aiM rfl λb2 _ E=>gG E uA rfl λb3 _ E=>aD eL E.p2.At (dO arp (C107 p _ _ (Mt O0 E.aF) Z) ?_));rintro _ _ ⟨bm,rfl,cK⟩;have E:=E.made cK;refine aO rfl (aO rfl (aO rfl (aD eL E.p3.At (aV apO E (C108 p _ _ (Mt O0 E.aF) Z) λ_ he E=>bQ (aY (λc=>?_) λc=>?_)))))
 .have h1:km p=false:=by simpa using c
  have V:fe p=8:=ce8 h1;exact aW E.p2 jG (dR rfl) rfl (λ_ E=>aW E.p2 bO (dR rfl) rfl λ_ E=>aB jG E.p1.hb rfl (aB bO E.hb rfl ⟨_,by rw[V],E.aF⟩))
 have h1:km p=true:=by simpa using c
 refine aD eL E.p3.At (aV arb E (C109 p _ _ (Mt O0 E.aF) Z) λ_ he E=>aY (λc=>?_) λc=>?_)
 .have h2:uP p=true:=c;have V:fe p=2:=ce2 h1 h2;exact aW E.p2 jG (dR rfl) rfl (λ_ E=>aW E.p2 bO (dR rfl) rfl λ_ E=>aB jG E.p1.hb rfl (aB bO E.hb rfl ⟨_,by rw[V],E.aF⟩))
 have h2:uP p=false:=c;refine aD eL E.p3.At (dT Tm E (C110 p _ U O _ (Mt O0 E.aF) (ZH.ext E.aF) (QC.ext E.aF) (by have:=Z.threads;omega) (by have:=Z.recover;omega)) λx38 w38 cK E=>aH fw E.dS ?_);refine⟨λm x w1=>∃k:Nat,x=hH (k:Int)/\m=(U++O).length-k/\k<=(U++O).length/\(∀y∈(gu p).take k,re y.body=false)/\St w aZ [bH x38 (U++O),nj bm (Df p).1,bY b3 [hH 0],bY b2 [hH 0],bY bp (hZ (⟨bJ,bT,bK,aU,aX,bG⟩:bN))] w1,⟨_,0,rfl,rfl,la _,ee,E⟩,?_⟩;rintro m _ _ ⟨k,rfl,rfl,hk,I,E⟩ _
 refine aQ (aC (λc=>?_) λc=>?_)
 .obtain⟨t,ht⟩:=gx (U++O) (i:=((k:Nat):Int).toNat) bM;obtain⟨r,G⟩:=gx (gu p) (i:=k) bM;have J:=kp G;have hrz:=Z.qP J;have hrr:=(qC h1).qP J;obtain⟨gr,gb,rfl,dr,db⟩:=hD.2 _ _ _ ht G;have hrs:=lx hrr.2.1;refine aN fw E.dS bM ht (λq hq=>aD m6 hq (aR E tD λbt wt E=>aJ (x:=(⟨r.name,gr,gb,r.at_⟩:cE)) E m6 rfl rfl λwu E=>?_));obtain⟨aqx,hbf,tb,hbt,iY,_,_⟩:=hrs;have Pp:tb.len<=40:=by rw[<- Bk.cY,<- hbt];exact aqx
  have hwl:re r.body=mC tb 1:=by rw[hbt];exact vw iY
  refine aA lI (aB (v:=hM gb) jJ E.hb rfl (dO ahE (C111 _ tb 1 (tb.len+1) _ (by rw[<- hbt];exact DL.ext db E.aF) iY (by rw[<- hbt];exactλx hx=>JQ (hbf x hx)) bM bM (Nat.lt_succ_self _)) ?_));rintro _ _ ⟨aa,rfl,he⟩;have E:=E.ext he;refine aO rfl (aO rfl (aY (λc9=>?_) λc9=>?_))
  .have h3:(gu p).any (λt=>re t.body)=true:=ig G (by rw[hwl];exact c9);have V:fe p=11:=ap7 h1 h2 h3;exact aW E.p4 jG (dR rfl) rfl (λ_ E=>aW E.p4 bO (dR rfl) rfl λ_ E=>aB jG E.p1.hb rfl (aB bO E.hb rfl ⟨_,by rw[V],E.aF⟩))
  exact aK bM (have E:=E.drop;⟨_,bM,k+1,rfl,rfl,bM,dW I G (by rw[hwl];exact c9),E⟩)
 have h3:(gu p).any (λt=>re t.body)=false:=iB (by rw[kE bM]at I;exact I);have E:=E.drop;refine aY (λc10=>?_) (λc10=>?_)
 .have h4:kq (fN p)=true:=by rw[<- Z5];exact c10
  have V:fe p=10:=ap8 h1 h2 h3 h4;exact aW E.p2 jG (dR rfl) rfl (λ_ E=>aW E.p2 bO (dR rfl) rfl λ_ E=>aB jG E.p1.hb rfl (aB bO E.hb rfl ⟨_,by rw[V],E.aF⟩))
 have h4:kq (fN p)=false:=by rw[<- Z5];exact c10
 refine aD eL E.p3.At (dT Tm E (C110 p _ U O _ (Mt O0 E.aF) (ZH.ext E.aF) (QC.ext E.aF) (by have:=Z.threads;omega) (by have:=Z.recover;omega)) λx56 _ cK E=>aH fw E.dS ?_)
 clear I
 refine⟨λm x w1=>∃k:Nat,x=hH (k:Int)/\m=(U++O).length-k/\k<=(U++O).length/\(∀y∈(gu p).take k,uO p y.dQ=false)/\St w aZ [bH x56 (U++O),nj bm (Df p).1,bY b3 [hH 0],bY b2 [hH 0],bY bp (hZ (⟨bJ,bT,bK,aU,aX,bG⟩:bN))] w1,⟨_,0,rfl,rfl,la _,ee,E⟩,?_⟩;rintro m _ _ ⟨k,rfl,rfl,hk,I,E⟩ _;refine aQ (aC (λc=>?_) λc=>?_)
 .obtain⟨t,ht⟩:=gx (U++O) (i:=((k:Nat):Int).toNat) bM;obtain⟨r,G⟩:=gx (gu p) (i:=k) bM;have J:=kp G;have hrz:=Z.qP J;have hrr:=(qC h1).qP J;obtain⟨gr,gb,rfl,dr,db⟩:=hD.2 _ _ _ ht G;have hrs:=lx hrr.2.1;refine aN fw E.dS bM ht (λq hq=>aD m6 hq (aR E tD λbt wt E=>aJ (x:=(⟨r.name,gr,gb,r.at_⟩:cE)) E m6 rfl rfl λwu E=>aD m6 E.At (dO ahH (C112 (⟨r.name,gr,gb,r.at_⟩:cE) r.dQ bm (Df p).1 _ (DL.flat (DL.ext dr E.aF)) E.p2.nj (QO p) bM) ?_)))
  rcases J6 h4 r.dQ with⟨B6,GK⟩|⟨g,B6,GK,_⟩
  .rintro _ w24 (⟨_,rfl,he⟩|⟨g,bg,Va,_⟩);rotate_left
   .rw[B6]at Va;cases Va
   have E:=E.ext he;have h5:(gu p).any (λt=>uO p t.dQ)=true:=ig G GK;refine aO rfl (aO rfl (gU (aA qp (have E:=E.drew;aB (v:=hH r.at_) bO E.hb rfl ?_))));have V:fe p=10:=ahs h1 h2 h3 h4 h5;refine aW E.p4 jG (dR rfl) rfl (λwa E=>?_);refine⟨aI bO (E.p1.hb.cell rfl),?_⟩;exact aW E.p4 bO (dR rfl) rfl (λ_ E=>aB jG E.p1.hb rfl (aB bO E.hb rfl ⟨_,by rw[V],E.aF⟩))
  rintro _ w24 (⟨Va,_⟩|⟨g2,bg,Va,rfl,cK⟩)
  .rw[B6]at Va;cases Va
  have E:=(E.made cK).drop.drop;exact aO rfl (aO rfl (ft (aK bM ⟨_,bM,k+1,rfl,rfl,bM,dW I G GK,E⟩)))
 have h5:(gu p).any (λt=>uO p t.dQ)=false:=iB (by rw[kE bM]at I;exact I);have E:=E.drop;refine aD eL E.p3.At (dT Tm E (C110 p _ U O _ (Mt O0 E.aF) (ZH.ext E.aF) (QC.ext E.aF) (by have:=Z.threads;omega) (by have:=Z.recover;omega)) λx73 _ cK E=>aH fw E.dS ?_)
 clear I
 have E:=QM.nil E;refine⟨λm dv x w1=>∃(k:Nat) (ds:List Nat),dv=lG ds/\x=hH (k:Int)/\m=(U++O).length-k/\k<=(U++O).length/\(∀y∈(gu p).take k,y.body.any (nc p y.dQ)=false)/\St w aZ [QM ds,bH x73 (U++O),nj bm (Df p).1,bY b3 [hH 0],bY b2 [hH 0],bY bp (hZ (⟨bJ,bT,bK,aU,aX,bG⟩:bN))] w1,⟨_,0,[],rfl,rfl,rfl,la _,ee,E⟩,?_⟩;rintro m _ _ _ ⟨k,ds,rfl,rfl,rfl,hk,I,E⟩ _;rw[Cc];refine aQ (aC (λc=>?_) λc=>?_)
 .obtain⟨t,ht⟩:=gx (U++O) (i:=((k:Nat):Int).toNat) bM;obtain⟨r,G⟩:=gx (gu p) (i:=k) bM;have J:=kp G;have hrz:=Z.qP J;have hrr:=(qC h1).qP J;obtain⟨gr,gb,rfl,dr,db⟩:=hD.2 _ _ _ ht G;have hrs:=lx hrr.2.1;refine aN fw E.p1.dS bM ht (λq hq=>aD m6 hq (aR E tD λbt wt E=>aJ (x:=(⟨r.name,gr,gb,r.at_⟩:cE)) E m6 rfl rfl λwu E=>?_))
  have h5r:uO p r.dQ=false:=by
   cases hh:uO p r.dQ with
   | false=>rfl
   | true=>exact absurd (ig (g:=λt:cM=>uO p t.dQ) G hh) (by rw[h5];decide)
  refine aD m6 E.At (dO ahH (C112 (⟨r.name,gr,gb,r.at_⟩:cE) r.dQ bm (Df p).1 _ (DL.flat (DL.ext dr E.aF)) E.p3.nj (QO p) bM) ?_)
  rcases J6 h4 r.dQ with⟨_,GK⟩|⟨g,B6,GK,_⟩
  .rw[GK]at h5r;cases h5r
  rintro _ w31 (⟨Va,_⟩|⟨g2,bg,Va,rfl,cK⟩)
  .rw[B6]at Va;cases Va
  obtain rfl:g=g2:=n4.inj (B6.symm.trans Va);have E:=E.made cK;refine aO rfl (aO rfl (gG E Sw rfl λb17 _ E=>aW E HC (dR rfl) rfl λ_ E=>aA lI (aB (v:=hM gb) jJ E.p2.hb rfl (dO art (C113 gb _) ?_))));rintro _ _ ⟨bu,rfl,arD⟩;have E:=E.made arD;have hbz:=hrz.1.2.2;have arE:=aab h4 B6 hrs.2.1;obtain⟨tsb,hRb,hDb⟩:=db.open
  refine ZX (cap:=[.pointer (some ⟨bu,0,none⟩)]) (oH r.body).length (Tq (oH r.body)) aru E
   (λj M=>(∀i,i<j->∀u,(oH r.body)[i]?=some u->DC g u=false)/\M=[bY bu [hM gb],bY b17 [.map (some bg)],nj bg g,bY bt (hZ (⟨r.name,gr,gb,r.at_⟩:cE)),QM ds,bH x73 (U++O),nj bm (Df p).1,bY b3 [hH 0],bY b2 [hH 0],bY bp (hZ (⟨bJ,bT,bK,aU,aX,bG⟩:bN))])
   (λcx M=>cx=.ret/\(oH r.body).any (DC g)=true/\∃a L,M=bY b3 [hH a]::bY b2 [hH 9]::QM ds::L) ⟨λ_ hi=>absurd hi (Nat.not_lt_zero _),rfl⟩ (by rintro j a Φ ⟨u,s,_,rfl,_⟩;rfl) ?_ ?_ ?_ ?_ ?_ ?_
  .intro y Y Jx W h0 hy;refine(C192 y bu (hM gb) tsb r.body w aZ _ Jx W bM (λx hx=>⟨(hbz x hx).2.2.1,(hbz x hx).2.2.2.1⟩) ?_ ?_ hy).mono λ_ _ rr=>rr.mono λv W' h=>?_
   .rintro j _ W2 ⟨M,⟨_,rfl⟩,rfl⟩ hs2;exact⟨hs2.p1.hb.cell rfl,hRb.ext hs2.aF,hDb.ext hs2.aF⟩
   .obtain⟨M,h1,h2⟩:=h0;exact⟨_,⟨M,h1,rfl⟩,h2⟩
   rcases h with⟨_,⟨M,h1,rfl⟩,h2⟩|h
   .exact .inl ⟨M,h1,h2⟩
   exact .inr h
  .rintro j args Φ Y1 Y2 B Kr M W ⟨u,s,hu,rfl,Vg⟩ ⟨hjn,rfl⟩ hΦ hB hN hR E;dsimp only[Ez];refine aR E adp (λb9 _ E=>aJ (x:=(⟨u.1,u.2.1,s⟩:J3)) E aoM rfl rfl λ_ E=>?_);refine hB _ _ _ E.p1 (λw38 E=>?_);refine aA XE (aB (v:=hM s) eO E.p1.hb rfl (aB HC E.p3.hb rfl (aA XC (aB (v:=.string u.1) gB E.p1.hb rfl (yr E.p4.nj Tryz.underlying165 Tryz.underlying9 uA ?_)))))
   have Ww:cZ (λ_=>True) w38 (hM s) u.2.2:=by
    obtain⟨F,h1,_⟩:=E.head;exact Vg _ (hΦ _ _ h1)
   have hul:u.2.2.length<=1048576:=aac (kp hu);refine aV arB E (C114 _ u.2.2 (eF g u.1) _ Ww hul) (λ_ he E=>bQ (aY (λc11=>aA XD (have E:=E.drew;aB (v:=hH u.2.1) bO E.p1.hb rfl (have E:=E.p2.drop;aW E.p9 jG (dR rfl) rfl λ_ E=>⟨aI bO (E.p2.hb.cell rfl),aW E.p9 bO (dR rfl) rfl λ_ E=>hR .ret _ _ E.p7.p2.p2.p3 ⟨rfl,ig hu (by unfold DC;exact c11),_,_,rfl⟩⟩))) λc11=>?_));refine hN _ _ E.p1.drop ⟨λi hi u2 hu2=>?_,rfl⟩
   rcases P2 i j with h|h
   .exact hjn i h u2 hu2
   obtain rfl:i=j:=bM
   rw[hu]at hu2;cases hu2
   unfold DC;exact c11
  .rintro D M W ⟨hjn,rfl⟩ E;refine aK bM ?_;have E:=St.join (H1:=nD D (.deferred (some []))) E.p1.drop.p1.drop.p1.drop.p1.drop;refine⟨_,bM,k+1,D::ds,rfl,rfl,rfl,bM,dW I G ?_,E⟩;rw[<- arE];refine iB λu hu=>?_;obtain⟨i,hi⟩:=xj.1 hu;exact hjn i (j0.1 hi).1 u hi
  .rintro D M W ⟨_,ayE,a,L,rfl⟩ E;have h6:(gu p).any (λt=>t.body.any (nc p t.dQ))=true:=ig G (by rw[<- arE];exact ayE);have V:fe p=9:=ce9 h1 h2 h3 h4 h5 h6;have E:=St.join (H1:=nD D (.deferred (some []))) E.p3.p1;refine QM.take (D::ds) E (λ_ E=>?_);exact aB jG E.p1.hb rfl (aB bO E.hb rfl ⟨_,by rw[V],E.aF⟩)
  .rintro id D M W ⟨h,_⟩;cases h
  rintro cx M ⟨h,_⟩;exact .inr h
 have h6:(gu p).any (λt=>t.body.any (nc p t.dQ))=false:=iB (by rw[kE bM]at I;exact I);have E:=E.p1.drop;have hzc:=Z.eb;obtain⟨ts5,hR5,hD5⟩:=cN.open;have D9:=hD5.1;refine aA j1 (aB (v:=hM bG) td E.p4.hb rfl (aH uB (hR5.ext E.aF) ?_))
 clear I
 refine⟨λm x w1=>∃k:Nat,x=hH (k:Int)/\m=ts5.length-k/\k<=ts5.length/\(∀y∈p.eb.take k,pb y.e (iC p)=false)/\St w aZ [QM ds,nj bm (Df p).1,bY b3 [hH 0],bY b2 [hH 0],bY bp (hZ (⟨bJ,bT,bK,aU,aX,bG⟩:bN))] w1,⟨_,0,rfl,rfl,la _,ee,E⟩,?_⟩;rintro m _ _ ⟨k2,rfl,rfl,xo,I,E⟩ _;refine aQ (aC (λc12=>?_) λc12=>?_)
 .obtain⟨t,ht⟩:=gx ts5 (i:=((k2:Nat):Int).toNat) bM;obtain⟨r,G⟩:=gx p.eb (i:=k2) bM;have hrz:=Z.zc r (kp G);obtain⟨ge,rfl,de⟩:=hD5.2 _ _ _ ht G;have dE:=DL.flat de;refine aN uB (hR5.ext E.aF) bM ht (λq hq=>aD Jn hq (aR E Ps λbc _ E=>aJ (x:=(⟨ge,r.at_⟩:jr)) E Jn rfl rfl λ_ E=>aA yj (aB (v:=hM ge) jH E.hb rfl (aH g9 (dE.ext E.aF) ?_))));have hvc:=QR h4 r.e;refine⟨λm x w1=>∃j:Nat,x=hH (j:Int)/\m=r.e.length-j/\j<=r.e.length/\(∀y∈r.e.take j,(decide (y.op=2)&&decide (¬ eF (Df p).1 y.name=1))=false)/\St w aZ [bY bc (hZ (⟨ge,r.at_⟩:jr)),QM ds,nj bm (Df p).1,bY b3 [hH 0],bY b2 [hH 0],bY bp (hZ (⟨bJ,bT,bK,aU,aX,bG⟩:bN))] w1,⟨_,0,rfl,rfl,la _,ee,E⟩,?_⟩
  rintro m _ _ ⟨j,rfl,rfl,hj,hnj,E⟩ _;refine aQ (aC (λc13=>?_) λc13=>?_)
  .obtain⟨y,hy⟩:=gx r.e (i:=((j:Nat):Int).toNat) bM;refine aN g9 (dE.ext E.aF) bM hy (λq hq=>aD rY hq (aR E yl λby_ _ E=>aJ (x:=y) E rY rfl rfl λw50 E=>?_));refine⟨λjv w'=>jv=.bool (decide (y.op=2)&&decide (¬ eF (Df p).1 y.name=1))/\w'=w50,?_,?_⟩
   .exact aA fa (aB (v:=hH y.op) bO E.hb rfl (aG (aC (λc14=>aA gn (aB (v:=.string y.name) gB E.hb rfl (yr E.p3.nj Tryz.underlying165 Tryz.underlying9 uA (bV ⟨vb (by rw[ew c14,Bt]),rfl⟩)))) λc14=>⟨vb (by rw[ez c14,U2]),rfl⟩)))
   rintro _ _ ⟨rfl,rfl⟩ _;refine aY (λc15=>?_) (λc15=>aK bM ⟨_,bM,j+1,rfl,rfl,bM,dW hnj hy c15,E.drop⟩);have h7:p.eb.any (λc=>pb c.e (iC p))=true:=ig G (by rw[<- hvc];exact ig hy c15);have V:fe p=9:=ap9 h1 h2 h3 h4 h5 h6 h7;refine aA rZ (have E:=E.drew;aB (v:=hH y.at_) bO E.hb rfl (aW E.p5 jG (dR rfl) rfl λwa E=>?_));refine⟨aI bO (E.p1.hb.cell rfl),?_⟩;refine aW E.p5 bO (dR rfl) rfl (λwb E=>?_);refine QM.take ds E.p4 (λw54 E=>?_);exact aB jG E.p1.hb rfl (aB bO E.hb rfl ⟨_,by rw[V],E.aF⟩)
  refine aK bM ?_;refine⟨_,bM,k2+1,rfl,rfl,bM,dW I G ?_,E.drop⟩;rw[<- hvc];exact iB (by rw[kE bM]at hnj;exact hnj)
 have h7:p.eb.any (λc=>pb c.e (iC p))=false:=iB (by rw[kE bM]at I;exact I);have V:fe p=0:=ce0 h1 h2 h3 h4 h5 h6 h7;refine aW E.p3 jG (dR rfl) rfl (λwa E=>aW E.p3 bO (dR rfl) rfl λwb E=>?_);refine QM.take ds E.p2 (λw54 E=>?_);exact aB jG E.p1.hb rfl (aB bO E.hb rfl ⟨_,by rw[V],E.aF⟩)
def C83(sv:Value)(xs:List Int)(w:World)(E:cZ (λ_=>True) w sv xs)(O:xs.length<=1000000):CR 83 [sv] w (λv w'=>kP (bH v xs) w w'):=by
 have u:=St.start w;refine eZ Tryz.func83 ?_;refine HG Tryz.underlying41 (E.ext u.aF) (λp I=>aY (λB=>?_) λB=>?_)
 .have G:=I B;subst G;exact(u.eV (α:=Int)).fresh
 refine bD ([]:List Int) u cR rfl rfl (dR rfl) (λM _ u=>?_);have J:=(E.ext u.aF);exact bL u cR J (by simp;omega) dC (λ_ _ u=>u.fresh)
def jX(x y:bI):Bool:=decide (x.kind≠7/\y.kind≠7/\(x.kind=6\/y.kind=6)/\x.line≠y.line)
def right(x:bI):Bool:=decide ((x.kind=3/\0<=x.line/\0<=x.cell)\/((x.kind=5\/x.kind=6)/\0<=x.line/\x.cell=0/\x.n=0)\/(x.kind=7/\x.line=0/\x.cell=0/\x.n=0))
def C260(x y:bI)(w:World):CR 260 [hM x,hM y] w (λv w'=>v=.bool (jX x y)/\Ext w w'):=by
 have u:=St.start w;refine eZ Tryz.func260 ?_;refine cH u (λU _ u=>cH u λE _ u=>?_);refine⟨_,?_,λ_ _ h=>h⟩;refine aA gM (aB bO u.p1.hb rfl (aG (aC (λO=>?_) λO=>?_)))
 .intro I;refine⟨_,?_,λ_ _ h=>h⟩;refine bQ (ft ?_);intro B;refine⟨vb ?_,u.aF⟩;unfold jX
  first|exact(ew bM).symm|exact(ez bM).symm|exact e8.2 bM|exact e8.2 (bI.ext_iff.trans (by dsimp only;omega))
 refine aA gM (aB bO u.hb rfl (aG ?_));intro I;refine⟨_,?_,λ_ _ h=>h⟩
 first|refine Lx ?_|refine bQ ?_
 refine aC (λJ=>aA gM (aB bO u.p1.hb rfl (aG (aC (λM=>?_) λM=>aA gM (aB bO u.hb rfl (aG (aC (λG=>?_) λG=>?_))))))) (λJ=>?_)
 .refine aA ic (aB bO u.p1.hb rfl (aA ic (aB bO u.hb rfl (bV ?_))));intro B;refine⟨vb ?_,u.aF⟩;unfold jX
  first|exact(ew bM).symm|exact(ez bM).symm|exact e8.2 bM|exact e8.2 (bI.ext_iff.trans (by dsimp only;omega))
 .refine aA ic (aB bO u.p1.hb rfl (aA ic (aB bO u.hb rfl (bV ?_))));intro B;refine⟨vb ?_,u.aF⟩;unfold jX
  first|exact(ew bM).symm|exact(ez bM).symm|exact e8.2 bM|exact e8.2 (bI.ext_iff.trans (by dsimp only;omega))
 .intro B;refine⟨vb ?_,u.aF⟩;unfold jX
  first|exact(ew bM).symm|exact(ez bM).symm|exact e8.2 bM|exact e8.2 (bI.ext_iff.trans (by dsimp only;omega))
 intro B;refine⟨vb ?_,u.aF⟩;unfold jX
 first|exact(ew bM).symm|exact(ez bM).symm|exact e8.2 bM|exact e8.2 (bI.ext_iff.trans (by dsimp only;omega))
def C222(x y:bI)(w:World):CR 222 [hM x,hM y] w (λv w'=>v=.bool (jX x y)/\Ext w w'):=by
 have u:=St.start w;refine eZ Tryz.func222 ?_;refine cH u (λU _ u=>cH u λB _ u=>?_);refine⟨_,?_,λ_ _ h=>h⟩;refine aA gM (aB bO u.p1.hb rfl (aG (aC (λG=>?_) λG=>aA gM (aB bO u.hb rfl (aG (aC (λM=>?_) λM=>?_))))))
 .intro E;refine gU ?_;refine⟨vb ?_,u.aF⟩;unfold jX
  first|exact(ew bM).symm|exact(ez bM).symm|exact e8.2 bM|exact e8.2 (bI.ext_iff.trans (by dsimp only;omega))
 .intro E;refine gU ?_;refine⟨vb ?_,u.aF⟩;unfold jX
  first|exact(ew bM).symm|exact(ez bM).symm|exact e8.2 bM|exact e8.2 (bI.ext_iff.trans (by dsimp only;omega))
 refine aA ic (aB bO u.p1.hb rfl (aA ic (aB bO u.hb rfl (aG ?_))));intro E;refine aC (λO=>?_) (λO=>⟨_,aA gM (aB bO u.p1.hb rfl (aG (aC (λI=>?_) λI=>?_))),λ_ _ h=>h⟩)
 .refine⟨vb ?_,u.aF⟩;unfold jX
  first|exact(ew bM).symm|exact(ez bM).symm|exact e8.2 bM|exact e8.2 (bI.ext_iff.trans (by dsimp only;omega))
 .intro J;refine⟨vb ?_,u.aF⟩;unfold jX
  first|exact(ew bM).symm|exact(ez bM).symm|exact e8.2 bM|exact e8.2 (bI.ext_iff.trans (by dsimp only;omega))
 refine aA gM (aB bO u.hb rfl (aG ?_));intro J;refine⟨vb ?_,u.aF⟩;unfold jX
 first|exact(ew bM).symm|exact(ez bM).symm|exact e8.2 bM|exact e8.2 (bI.ext_iff.trans (by dsimp only;omega))
def eqE(x y:bI):AH (hZ x) (hZ y)=decide (x=y):=by
 obtain⟨a,b,c,d⟩:=x
 obtain⟨E,b2,B,u⟩:=y
 simp[hZ,AH,eqV,JE]
def C228(x:bI)(w:World):CR 228 [hM x] w (λv w'=>v=.bool (right x)/\Ext w w'):=by
 have u:=St.start w;refine eZ Tryz.func228 ?_;refine cH u (λW _ u=>aA gM (aB bO u.hb rfl (aG (aC (λO=>⟨_,aA ic (aB bO u.hb rfl (cQ (aC (λJ=>?_) λJ=>?_))),λ_ _ h=>h⟩) λO=>⟨_,aG (aC (λV=>?_) λV=>?_),λ_ _ h=>h⟩))))
 .refine aA mn (aB bO u.hb rfl (cQ ?_));intro U;refine⟨vb ?_,u.aF⟩;unfold right
  first|exact(ew bM).symm|exact(ez bM).symm|exact e8.2 bM|exact e8.2 (bI.ext_iff.trans (by dsimp only;omega))
 .intro U;refine⟨vb ?_,u.aF⟩;unfold right
  first|exact(ew bM).symm|exact(ez bM).symm|exact e8.2 bM|exact e8.2 (bI.ext_iff.trans (by dsimp only;omega))
 .intro M;refine aC (λG=>⟨_,aA ic (aB bO u.hb rfl (cQ (aC (λI=>aA mn (aB bO u.hb rfl (aG (aC (λE=>?_) λE=>?_)))) λI=>?_))),λ_ _ h=>h⟩) (λG=>?_)
  .refine aA oW (aB bO u.hb rfl (aG ?_));intro B;refine⟨vb ?_,u.aF⟩;unfold right
   first|exact(ew bM).symm|exact(ez bM).symm|exact e8.2 bM|exact e8.2 (bI.ext_iff.trans (by dsimp only;omega))
  .intro B;refine⟨vb ?_,u.aF⟩;unfold right
   first|exact(ew bM).symm|exact(ez bM).symm|exact e8.2 bM|exact e8.2 (bI.ext_iff.trans (by dsimp only;omega))
  .intro B;refine⟨vb ?_,u.aF⟩;unfold right
   first|exact(ew bM).symm|exact(ez bM).symm|exact e8.2 bM|exact e8.2 (bI.ext_iff.trans (by dsimp only;omega))
  refine aD iv u.At (pop (AT _) (Hy XQ rfl rfl (eqE x ⟨7,0,0,0⟩) ?_));refine⟨vb ?_,u.aF⟩;unfold right
  first|exact(ew bM).symm|exact(ez bM).symm|exact e8.2 bM|exact e8.2 (bI.ext_iff.trans (by dsimp only;omega))
 refine aG ?_;intro M;refine aC (λG=>⟨_,aA ic (aB bO u.hb rfl (cQ (aC (λI=>aA mn (aB bO u.hb rfl (aG (aC (λE=>?_) λE=>?_)))) λI=>?_))),λ_ _ h=>h⟩) (λG=>?_)
 .refine aA oW (aB bO u.hb rfl (aG ?_));intro B;refine⟨vb ?_,u.aF⟩;unfold right
  first|exact(ew bM).symm|exact(ez bM).symm|exact e8.2 bM|exact e8.2 (bI.ext_iff.trans (by dsimp only;omega))
 .intro B;refine⟨vb ?_,u.aF⟩;unfold right
  first|exact(ew bM).symm|exact(ez bM).symm|exact e8.2 bM|exact e8.2 (bI.ext_iff.trans (by dsimp only;omega))
 .intro B;refine⟨vb ?_,u.aF⟩;unfold right
  first|exact(ew bM).symm|exact(ez bM).symm|exact e8.2 bM|exact e8.2 (bI.ext_iff.trans (by dsimp only;omega))
 refine aD iv u.At (pop (AT _) (Hy XQ rfl rfl (eqE x ⟨7,0,0,0⟩) ?_));refine⟨vb ?_,u.aF⟩;unfold right
 first|exact(ew bM).symm|exact(ez bM).symm|exact e8.2 bM|exact e8.2 (bI.ext_iff.trans (by dsimp only;omega))
def C277(x:bI)(w:World):CR 277 [hM x] w (λv w'=>v=.bool (right x)/\Ext w w'):=by
 have u:=St.start w;refine eZ Tryz.func277 ?_;refine cH u (λzN _ u=>aA gM (aB bO u.hb rfl (aG (aC (λJ=>⟨_,aA ic (aB bO u.hb rfl (cQ (aC (λY=>?_) λY=>?_))),λ_ _ h=>h⟩) λJ=>⟨_,aA mn (aB bO u.hb rfl (bV (aC (λO=>?_) λO=>?_))),λ_ _ h=>h⟩))))
 .refine aA mn (aB bO u.hb rfl (cQ ?_));intro ry;refine⟨vb ?_,u.aF⟩;unfold right
  first|exact(ew bM).symm|exact(ez bM).symm|exact e8.2 bM|exact e8.2 (bI.ext_iff.trans (by dsimp only;omega))
 .intro ry;refine⟨vb ?_,u.aF⟩;unfold right
  first|exact(ew bM).symm|exact(ez bM).symm|exact e8.2 bM|exact e8.2 (bI.ext_iff.trans (by dsimp only;omega))
 .intro U;refine gU ?_;refine⟨vb ?_,u.aF⟩;unfold right
  first|exact(ew bM).symm|exact(ez bM).symm|exact e8.2 bM|exact e8.2 (bI.ext_iff.trans (by dsimp only;omega))
 refine aA oW (aB bO u.hb rfl (bV ?_));intro U;refine aC (λZ=>?_) (λZ=>⟨_,aA gM (aB bO u.hb rfl (aG (aC (λM=>aA ic (aB bO u.hb rfl (cQ (aC (λzj=>?_) λzj=>aA gM (aB bO u.hb rfl (aG (aC (λV=>?_) λV=>?_))))))) λM=>?_))),λ_ _ h=>h⟩)
 .refine⟨vb ?_,u.aF⟩;unfold right
  first|exact(ew bM).symm|exact(ez bM).symm|exact e8.2 bM|exact e8.2 (bI.ext_iff.trans (by dsimp only;omega))
 .intro B;refine⟨vb ?_,u.aF⟩;unfold right
  first|exact(ew bM).symm|exact(ez bM).symm|exact e8.2 bM|exact e8.2 (bI.ext_iff.trans (by dsimp only;omega))
 .refine aA ic (aB bO u.hb rfl (aG ?_));intro B;refine⟨vb ?_,u.aF⟩;unfold right
  first|exact(ew bM).symm|exact(ez bM).symm|exact e8.2 bM|exact e8.2 (bI.ext_iff.trans (by dsimp only;omega))
 .intro B;refine⟨vb ?_,u.aF⟩;unfold right
  first|exact(ew bM).symm|exact(ez bM).symm|exact e8.2 bM|exact e8.2 (bI.ext_iff.trans (by dsimp only;omega))
 refine aA gM (aB bO u.hb rfl (aG (aC (λW=>aA ic (aB bO u.hb rfl (cQ (aC (λE=>?_) λE=>aA gM (aB bO u.hb rfl (aG (aC (λI=>?_) λI=>?_))))))) λW=>aA gM (aB bO u.hb rfl (aG (aC (λG=>?_) λG=>?_))))))
 .intro B;refine⟨vb ?_,u.aF⟩;unfold right
  first|exact(ew bM).symm|exact(ez bM).symm|exact e8.2 bM|exact e8.2 (bI.ext_iff.trans (by dsimp only;omega))
 .refine aA ic (aB bO u.hb rfl (aG ?_));intro B;refine⟨vb ?_,u.aF⟩;unfold right
  first|exact(ew bM).symm|exact(ez bM).symm|exact e8.2 bM|exact e8.2 (bI.ext_iff.trans (by dsimp only;omega))
 .intro B;refine⟨vb ?_,u.aF⟩;unfold right
  first|exact(ew bM).symm|exact(ez bM).symm|exact e8.2 bM|exact e8.2 (bI.ext_iff.trans (by dsimp only;omega))
 .refine aA ic (aB bO u.hb rfl (aG ?_));intro B;refine⟨vb ?_,u.aF⟩;unfold right
  first|exact(ew bM).symm|exact(ez bM).symm|exact e8.2 bM|exact e8.2 (bI.ext_iff.trans (by dsimp only;omega))
 intro B;refine⟨vb ?_,u.aF⟩;unfold right
 first|exact(ew bM).symm|exact(ez bM).symm|exact e8.2 bM|exact e8.2 (bI.ext_iff.trans (by dsimp only;omega))
def rB(l:List bI)(i:Int):Bool:=decide (0<=i/\i<l.length)&&(match l[i.toNat]? with|some x=>(l.take i.toNat).all (jX x)|none=>false)
def pC(l:List bI):List Int:=((wx l.length).map fun (k:Nat)=>(k:Int)).filter (rB l)
theorem lW{l:List bI}{i:Int}(h:i<0\/(l.length:Int)<=i):rB l i=false:=by
 grind[rB]
theorem Tv{l:List bI}{i:Int}{x:bI}(B:0<=i)(h1:i<l.length)(u:l[i.toNat]?=some x):rB l i = !(l.take i.toNat).any λy=>!jX x y:=by
 grind[rB,jX]
def sI(l:List bI)(k:Nat):List Int:=((wx k).map fun (k:Nat)=>(k:Int)).filter (rB l)
def H8(l:List bI)(k:Nat):(sI l k).length<=k:=by
 grind[sI]
theorem FX{l:List bI}{k:Nat}(h:rB l k=true):sI l (k+1)=sI l k++[(k:Int)]:=by
 unfold sI;rw[Hr,vf,zW];simp[h]
theorem H9{l:List bI}{k:Nat}(h:rB l k=false):sI l (k+1)=sI l k:=by
 unfold sI;rw[Hr,vf,zW];simp[h]
theorem FY(l:List bI){k:Nat}(h:k=l.length):sI l k=pC l:=by subst h;rfl
def ue(w:World)(p:Nat)(room:Int)(l:List bI):Prop:=∃sv,Cell w p 0 (hH room)/\Cell w p 1 sv/\cZ (λ_=>True) w sv l
def jg(p:Nat)(room:Int)(l:List bI):HP:=pK λsv=>sep (bY p [hH room,sv]) (bH sv l)
theorem ue.ext{w w':World}{p:Nat}{room:Int}{l:List bI}(h:ue w p room l)(e:Ext w w'):ue w' p room l:=by
 obtain⟨sv,h1,h2,h3⟩:=h;exact⟨sv,h1.ext e,h2.ext e,h3.ext e⟩
def jg.rd{w:World}{F:Nat->Prop}{p:Nat}{room:Int}{l:List bI}(h:(jg p room l).p w F):ue w p room l:=by
 obtain⟨sv,u,B,h1,h2,_⟩:=h
 exact⟨sv,h1.1.cell rfl,h1.1.cell rfl,(bH.rd h2).mono λ_ _=>trivial⟩
def C297(sv fv:Value)(xs:List bI)(g:bI->Bool)(w:World)(J:cZ (λ_=>True) w sv xs)(U:wi w fv g)(Z:xs.length<=1073741824):CR 297 [sv,fv] w (λv w'=>v=hH (si g xs)/\Ext w w'):=by
 obtain⟨g0,first,cap,rfl,W,Y⟩:=U;have u:=St.start w;refine eZ Tryz.func297 ?_;refine aH fW (J.ext u.aF) ?_;refine⟨λm x G=>∃k:Nat,x=hH (k:Int)/\m=xs.length-k/\k<=xs.length/\(∀y∈xs.take k,g y=false)/\St w aZ [] G,⟨_,0,rfl,rfl,la _,ee,u⟩,?_⟩;rintro m _ G ⟨k,rfl,rfl,hk,B,u⟩ _;refine aQ (aC (λjC=>?_) λ_=>⟨fM (ng .i64) (ja (by rw[kE bM]at B;exact B)).symm,u.aF⟩);obtain⟨V,E⟩:=gx xs (i:=(k:Int).toNat) bM;refine aN fW (J.ext u.aF) bM E (λ_ O=>aD iv O (gZ W (Y V G u.aF) ?_))
 rintro _ _ ⟨rfl,M⟩;have u:=u.ext M;exact aY (λI=>⟨fM (ng .i64) (l8 B E I).symm,u.aF⟩) (λI=>aK bM ⟨xs.length-(k+1),bM,k+1,rfl,rfl,bM,dW B E I,u⟩)
def C261(sv fv:Value)(xs:List bI)(g:bI->Bool)(w:World)(E:cZ (λ_=>True) w sv xs)(B:wi w fv g)(G:xs.length<=1073741824):CR 261 [sv,fv] w (λv w'=>v=.bool (xs.any g)/\Ext w w'):=by
 have u:=St.start w;refine eZ Tryz.func261 ?_;exact aV aol u (C297 _ _ _ _ _ (E.ext u.aF) (B.ext u.aF) bM) (λ_ _ u=>cQ ⟨vb (kR _ _),u.aF⟩)
def C259(x y:bI)(p b2 b3:Nat)(i:Int)(room:Int)(l:List bI)(w:World)(h2:Cell w b2 0 (.pointer (some ⟨p,0,none⟩)))(h3:Cell w b3 0 (hH i))(hb:ue w p room l)(I:0<=i)(B:l[i.toNat]?=some x):CR 259 [hM y,.pointer (some ⟨b2,0,none⟩),.pointer (some ⟨b3,0,none⟩)] w (λv w'=>v=.bool (!jX x y)/\Ext w w'):=by
 obtain⟨sv,M,G,J⟩:=hb;have O:=(j0.1 B).1;have u:=St.start w;refine py Tryz.func259 (pl:=awd) ?_;exact cH u (λ_ _ u=>have u:=u.drew;bX AJ (h2.ext u.aF) (aE (aA kM (bX iS (G.ext u.aF) (bX bO (h3.ext u.aF) (aN fW (J.ext u.aF) I B λ_ E=>aD iv E (aD iv u.At (aV an8 u (C260 x y _) λ_ _ u=>bQ ⟨rfl,u.aF⟩))))))))
def C216(p:Nat)(i:Int)(room:Int)(l:List bI)(w:World)(hb:ue w p room l)(hn:l.length<=1073741824):CR 216 [.pointer (some ⟨p,0,none⟩),hH i] w (λv w'=>v=.bool (rB l i)/\Ext w w'):=by
 have J:=hb;obtain⟨sv,Dv,O,V⟩:=hb;have u:=St.start w;refine py Tryz.func216 (pl:=av6) ?_;refine nx u rfl (λB U u=>nx u rfl λE _ u=>?_);refine⟨_,?_,λ_ _ h=>h⟩;have u:=u.drew;refine aB bO u.hb rfl (aQ (aC (λY=>?_) λY=>?_))
 .intro ry;exact gU ⟨vb (lW bM).symm,u.aF⟩
 refine aB bO u.hb rfl (aB AJ u.p1.hb rfl (aE (aA kM (bX iS (O.ext u.aF) (aH fW (V.ext u.aF) (cQ ?_))))));intro ry;refine aC (λ_=>⟨vb (lW bM).symm,u.aF⟩) (λep=>have u:=u.drew;aB AJ u.p1.hb rfl (aE (aA kM (bX iS (O.ext u.aF) (aB bO u.hb rfl (Ch fW (V.ext u.aF) bM bM λZ W=>?_))))));obtain⟨x,M⟩:=gx l (i:=i.toNat) bM
 have G:wi _ (.func (.func 259) [].toArray [.pointer (some ⟨B,0,none⟩),.pointer (some ⟨E,0,none⟩)].toArray) (λy=>!jX x y):=
  ⟨259,[],_,rfl,an7,λy U I=>C259 x y p B E i room l U ((u.p1.hb.cell rfl).ext I) ((u.hb.cell rfl).ext I) ((J.ext u.aF).ext I) bM M⟩
 exact aV an9 u (C261 _ _ _ _ _ W G (by rw[lY];omega)) (λ_ _ u=>bQ ⟨vb (Tv bM bM M).symm,u.aF⟩)
def C215(p:Nat)(room:Int)(l:List bI)(w:World)(hb:ue w p room l):CR 215 [.pointer (some ⟨p,0,none⟩)] w (λv w'=>v=.bool (decide (room<=l.length))/\Ext w w'):=by
 obtain⟨sv,B,E,G⟩:=hb;have u:=St.start w;refine py Tryz.func215 (pl:=av5) ?_;exact aE (aA kM (have u:=u.drew;bX iS (E.ext u.aF) (aH fW (G.ext u.aF) (aE (aA XF (bX bO (B.ext u.aF) (cQ ⟨rfl,u.aF⟩)))))))
def C139(p:Nat)(room:Int)(l:List bI)(w:World)(hb:ue w p room l)(Y:l.length<=1048576):CR 139 [.pointer (some ⟨p,0,none⟩)] w (λv w'=>kP (bH v (pC l)) w w'):=by
 have E:=hb;obtain⟨sv,V,O,U⟩:=hb;have u:=St.start w;refine eZ Tryz.func139 ?_;refine aE (aA kM (bX iS (O.ext u.aF) (aH fW (U.ext u.aF) ?_)));refine⟨λm o x G=>∃k:Nat,x=hH (k:Int)/\m=l.length-k/\k<=l.length/\St w aZ [bH o (sI l k)] G,⟨_,0,rfl,rfl,la _,u.eV⟩,?_⟩;rintro m o _ G ⟨k,rfl,rfl,Z,u⟩ _;have Fu:=H8 l k;refine aQ (aC (λM=>⟨_,aV agC u (C216 _ _ _ _ _ (E.ext u.aF) bM) (λ_ W u=>aY (λB=>?_) λB=>?_),λ_ _ h=>h⟩) λM=>?_)
 .refine bD ([(k:Int)]:List Int) u cR rfl rfl (dR rfl) (λYd _ u=>?_);have I:=u.dS;refine bL u.p1 cR I (by simp<;>omega) dC (λYV _ u=>?_);have u:=u.p1.drop;intro J;exact aK bM ⟨l.length-(k+1),bM,k+1,rfl,rfl,bM,by rw[FX B];exact u⟩
 .intro J;exact aK bM ⟨l.length-(k+1),bM,k+1,rfl,rfl,bM,by rw[H9 B];exact u⟩
 rw[FY l bM]at u;exact u.fresh
def Nm(room:Int)(l:List bI)(x:bI):Int:=if right x=true then(if room<=l.length then 2 else 0)else 1
def sJ(room:Int)(l:List bI)(x:bI):List bI:=if right x=true/\¬ room<=l.length then l++[x]else l
def dH(l:List bI)(i:Int):bI:=if rB l i=true then(l[i.toNat]?).getD ⟨0,0,0,0⟩else⟨0,0,0,0⟩
def xC(l:List bI)(i:Int):Int:=if 0<=i/\i<l.length then(if rB l i=true then 0 else 13)else 1
def jO(l:List bI)(i:Int):List bI:=if rB l i=true then l.eraseIdx i.toNat else l
theorem aeY{l:List bI}{i:Int}(h:rB l i=true):0<=i/\i<l.length:=by
 unfold rB at h;grind
def ue.mk'{w:World}{p:Nat}{room:Int}{sv:Value}{l:List bI}(h1:qd w p [hH room,sv])(h2:cZ (λ_=>True) w sv l):ue w p room l:=
 ⟨sv,h1.cell rfl,h1.cell rfl,h2⟩
def jg.shut{w0 w:World}{A:Nat->Prop}{R:List HP}{p:Nat}{room:Int}{sv:Value}{l:List bI}(u:St w0 A (bY p [hH room,sv]::bH sv l::R) w):St w0 A (jg p room l::R) w:=
 St.eh (H:=λsv=>sep (bY p [hH room,sv]) (bH sv l)) sv (St.join u)
def Ea{w0 w:World}{A:Nat->Prop}{R:List HP}{p:Nat}{room:Int}{l:List bI}(u:St w0 A (jg p room l::R) w):ue w p room l:=by
 obtain⟨F,h,_⟩:=u.head;exact jg.rd h
def C224(v:Value)(i:Int)(xs:List bI)(F:Nat->Prop)(w:World)(W:(bH v xs).p w F)(h0:0<=i)(hi:i<xs.length)(hn:xs.length<=1073741824) :
  CR 224 [v,hH i,hH (i+1)] w (λv' w'=>True/\mP F (bH v' (xs.eraseIdx i.toNat)) w w'):=by
 obtain⟨i,rfl⟩:=Int.eq_ofNat_of_zero_le h0;replace hi:i<xs.length:=bM
 rw[qb];have Ww:=bH.rd W;obtain⟨b,cap,rest,rfl,hb,u,O⟩:=rK W hi;have hlen:(flat xs).length=xs.length*4:=dA xs;have AF:xs.length<=cap:=u.1;replace u:=u.2
 change cap*4<=_ at u
 refine acZ _ _ _ _ _ ?_;unfold S224;refine pop (Jg fW) (XS fW bM bM bM bM λ_=>aG (aC (λc=>absurd c bM) λ_=>pop (Jg fW) ?_))
 have G:pr g6 (nT 179 (.slice (some ⟨b,0,none⟩) xs.length cap) none (some (hH (i:Int))) none)=some (.slice (some ⟨b,0,none⟩) i cap):=by
  rw[wH fW (l:=0) (h:=i) (ou (.inl ⟨rfl,rfl⟩) (.inr ⟨_,rfl,bM,bM⟩) bM bM)];simp[gK]
 refine pop G (Ci fW Ww bM bM λs25 B=>?_);rw[show((i:Int)+1).toNat=i+1 from bM]at B;have J:(xs.drop (i+1)).length=xs.length-(i+1):=ee
 obtain⟨w1,Z,b1,g1⟩:=G3 (P:=g6) (R:=179) (n:=i) (cap:=cap) fW (hb.of_eq (w':=drew w) rfl) (B.ext (Ext.drew w)) bM (by rw[kU,hlen,J];change i*4+(xs.length-(i+1))*4<=_;omega);rw[J,show i+(xs.length-(i+1))=xs.length-1 from bM]at Z;refine⟨_,w1,Z,?_⟩;refine pop (Jg fW) ?_
 have I:pr g6 (nT 179 (.slice (some ⟨b,0,none⟩) (xs.length-1) cap) (some (hH ((xs.length-1:Nat):Int))) (some (hH (xs.length:Int))) none)=some (.slice (some ⟨b,(xs.length-1)*4,none⟩) 1 (cap-(xs.length-1))):=by
  rw[wH fW (l:=xs.length-1) (h:=xs.length) (ou (.inr ⟨_,rfl,bM,bM⟩) (.inr ⟨_,rfl,bM,bM⟩) bM bM),ei bM];simp[gK];omega
 refine pop I ?_;have hx:xs[i]?=some xs[i]:=by simp[hi]
 have GY:=zB hx;have E:(flat (xs.take i)).length=i*4:=by rw[dA,lY,Nat.min_eq_left bM];rfl
 have hD:(flat (xs.drop (i+1))).length=(xs.length-(i+1))*4:=by rw[dA,J];rfl
 have Y:(hZ xs[i]).length=4:=rfl;have V:(flat (qV 1 (⟨0,0,0,0⟩:bI))).length=4:=rfl
 have s1:jd (flat xs++rest) (i*l2 bI) (flat (xs.drop (i+1))) =
   flat (xs.take i)++flat (xs.drop (i+1))++((hZ xs[i]++flat (xs.drop (i+1))).drop (flat (xs.drop (i+1))).length++rest):=by
  have:=mj (flat (xs.take i)) ((hZ xs[i]++flat (xs.drop (i+1))).take (flat (xs.drop (i+1))).length)
   ((hZ xs[i]++flat (xs.drop (i+1))).drop (flat (xs.drop (i+1))).length++rest) (flat (xs.drop (i+1))) (by rw[lY,kU];omega)
  rw[E]at this
  change jd (flat xs++rest) (i*4) _=_
  rw[<- this,GY]
  have e0:∀(a b c d:List Value) (n:Nat),a++(b++c)++d=a++(b++c).take n++((b++c).drop n++d):=λa b c d n=>by
   rw[nk a ((b++c).take n),<- nk ((b++c).take n),o6,nk a]
  exact fM (λz=>jd z (i*4) (flat (xs.drop (i+1)))) (by first|exact e0 _ _ _ _ _|(rw[<- e0];simp only[nk])|(simp only[nk];rw[<- nk (List.take _ _),o6,nk]))
 rw[s1]at b1
 obtain⟨w2,r2,b2,g2⟩:=UE (P:=g6) (R:=0) (o:=(xs.length-1)*4) (n:=1) (c:=cap-(xs.length-1)) (z:=(⟨0,0,0,0⟩:bI)) fW rq b1
  (by simp only[kU,qa,E,hD,Y];change _+1*4<=_;omega)
 refine⟨_,w2,r2,?_⟩
 have U:=mj (flat (xs.take i)++flat (xs.drop (i+1))) ((hZ xs[i]++flat (xs.drop (i+1))).drop (flat (xs.drop (i+1))).length) rest (flat (qV 1 (⟨0,0,0,0⟩:bI)))
  (by rw[qa,kU,Y,V];omega)
 rw[show(flat (xs.take i)++flat (xs.drop (i+1))).length=(xs.length-1)*4 from by rw[kU,E,hD];omega,nk _ _ rest]at U;rw[U]at b2;refine⟨trivial,F,.inr ⟨b,cap,flat (qV 1 (⟨0,0,0,0⟩:bI))++rest,?_,?_,?_,O⟩,λ_ hb=>.inl hb,((Ext.drew w).aF (A:=F)).trans (g1.trans (C:=F) g2 (λk M=>(O k).2 M) λk _ M=>(O k).2 M) (λ_ h=>h) λ_ _ h=>h⟩
 .rw[NJ hi]
 .rw[we,gL,<- nk];exact b2
 refine⟨by rw[NJ hi];omega,?_⟩;rw[we,gL]
 change cap*4<=_
 rw[kU,hlen]at u;simp only[kU,E,hD,V];omega
def C223(sv:Value)(xs:List bI)(w:World)(G:cZ (λ_=>True) w sv xs)(U:xs.length<=1073741824):CR 223 [sv] w (λv w'=>kP (bH v xs) w w'):=by
 have B:=G;obtain⟨a,cap,rfl,W,h3⟩:=G;have u:=St.start w;refine eZ Tryz.func223 ?_;refine Xv (fp fW).1 (λJ=>?_) ?_
 .rcases h3 with⟨h,hc⟩|⟨b,o,h,_⟩
  .exact⟨by rw[h];rfl,hc⟩
  rw[J]at h;cases h
 refine aY (λE=>?_) (λE=>?_)
 .have M:a=none:=by cases a with|none=>rfl|some _=>cases E
  have I:xs=[]:=by
   rcases h3 with⟨h,_⟩|⟨b,o,h,_⟩
   .exact h
   .rw[M]at h;cases h
  subst I;exact u.eV.fresh
 refine bD ([]:List bI) u fW rfl rfl (dR rfl) (λV _ u=>?_);have O:=(B.ext u.aF);exact bL u fW O (by simp<;>omega) dC (λ_ _ u=>u.fresh)
def C153(p:Nat)(room:Int)(l:List bI)(w:World)(hb:ue w p room l)(J:l.length<=1073741824):CR 153 [.pointer (some ⟨p,0,none⟩)] w (λv w'=>kP (bH v l) w w'):=by
 obtain⟨sv,I,B,G⟩:=hb;have u:=St.start w;refine eZ Tryz.func153 ?_;refine aE (aA kM (bX iS (B.ext u.aF) (dO agD (C223 _ _ _ (G.ext u.aF) bM) ?_)));rintro _ _ E;have u:=u.made E;exact u.fresh
theorem Nn{room:Int}{l:List bI}{x:bI}(h:right x=false):Nm room l x=1:=by unfold Nm;rw[h];rfl
theorem No{room:Int}{l:List bI}{x:bI}(h:right x=false):sJ room l x=l:=by unfold sJ;rw[h];rfl
theorem Ia{room:Int}{l:List bI}{x:bI}(h:right x=true)(u:room<=l.length):Nm room l x=2:=by grind[Nm]
theorem Ib{room:Int}{l:List bI}{x:bI}(u:room<=l.length):sJ room l x=l:=by grind[sJ]
theorem Tw{room:Int}{l:List bI}{x:bI}(h:right x=true)(u:¬ room<=l.length):Nm room l x=0:=by grind[Nm]
theorem Tx{room:Int}{l:List bI}{x:bI}(h:right x=true)(u:¬ room<=l.length):sJ room l x=l++[x]:=by unfold sJ;grind
def C162(p:Nat)(room:Int)(l:List bI)(x:bI)(F:Nat->Prop)(w:World)(M:(jg p room l).p w F)(O:l.length<=1048576):CR 162 [.pointer (some ⟨p,0,none⟩),hM x] w (λv w'=>v=hH (Nm room l x)/\mP F (jg p room (sJ room l x)) w w'):=by
 have u:=St.begin M;obtain⟨sv,u⟩:=u.eg;have u:=u.split;refine py Tryz.func162 (pl:=avY) ?_;refine cH u (λJ _ u=>aD iv u.At (aV an2 u (C228 _ _) λ_ G u=>bQ (aY (λB=>?_) λB=>aV agB u (C215 _ _ _ _ (ue.mk' u.p1.hb u.p2.dS)) λ_ G u=>aC (λE=>?_) λE=>?_)))
 .have u:=u.p2.p2;rw[Nn (by simpa using B),No (by simpa using B)];exact⟨rfl,(jg.shut u).mut⟩
 .have u:=u.p2.p2;rw[Ia (by simpa using B) E,Ib E];exact⟨rfl,(jg.shut u).mut⟩
 refine aE (aA kM (have u:=u.drew;aB iS u.p1.hb rfl (aD iv u.At (bD ([x]) u fW rfl rfl (dR rfl) λV _ u=>?_))));refine⟨aI iS (u.p2.hb.cell rfl),?_⟩;have I:=u.dS;refine bL u.p3 fW I (by simp<;>omega) dC (λU _ u=>have u:=u.p1.drop;aE (aA kM (aW u.p2 iS (dR rfl) u.dS.one λ_ u=>?_)));have u:=u.p1.p1;rw[Tw (by simpa using B) E,Tx (by simpa using B) E];exact⟨rfl,(jg.shut u).mut⟩
theorem rN{l:List bI}{i:Int}(h:rB l i=false):dH l i=⟨0,0,0,0⟩:=by unfold dH;rw[h];rfl
theorem rO{l:List bI}{i:Int}(h:rB l i=false):jO l i=l:=by unfold jO;rw[h];rfl
theorem yv{l:List bI}{i:Int}(h:i<0\/(l.length:Int)<=i):xC l i=1:=by unfold xC;omega
theorem Np{l:List bI}{i:Int}(u:0<=i/\i<l.length)(h:rB l i=false):xC l i=13:=by unfold xC;grind
theorem Nq{l:List bI}{i:Int}(h:rB l i=true):xC l i=0:=by unfold xC;rw[ej (aeY h),h];rfl
theorem Nr{l:List bI}{i:Int}{x:bI}(h:rB l i=true)(u:l[i.toNat]?=some x):dH l i=x:=by unfold dH;grind
theorem Ns{l:List bI}{i:Int}(h:rB l i=true):jO l i=l.eraseIdx i.toNat:=by unfold jO;rw[h];rfl
def C155(p:Nat)(room:Int)(l:List bI)(i:Int)(F:Nat->Prop)(w:World)(E:(jg p room l).p w F)(hn:l.length<=1048576):CR 155 [.pointer (some ⟨p,0,none⟩),hH i] w (λv w'=>v=.tuple #[hM (dH l i),hH (xC l i)]/\mP F (jg p room (jO l i)) w w'):=by
 have u:=St.begin E;obtain⟨sv,u⟩:=u.eg;have u:=u.split;refine eZ Tryz.func155 ?_;refine aR u rq (λPO _ u=>?_);refine⟨_,?_,λ_ _ h=>h⟩;refine aQ (aC (λW=>?_) λW=>?_)
 .intro Y;refine gU (pop ym (aJ (x:=(⟨0,0,0,0⟩:bI)) u iv rfl rfl λJ u=>aD iv u.At ?_));have u:=u.p2.p2;rw[rN (lW bM),yv bM,rO (lW bM)];exact⟨rfl,(jg.shut u).mut⟩
 refine aE (aA kM (aB iS u.p1.hb rfl (aH fW u.p2.dS (cQ ?_))));intro Y;refine aC (λO=>?_) (λO=>aV agC u (C216 _ _ _ _ _ (ue.mk' u.p1.hb u.p2.dS) bM) λ_ he u=>bQ (aY (λB=>?_) λB=>?_))
 .refine pop ym (aJ (x:=(⟨0,0,0,0⟩:bI)) u iv rfl rfl λJ u=>aD iv u.At ?_);have u:=u.p2.p2;rw[rN (lW bM),yv bM,rO (lW bM)];exact⟨rfl,(jg.shut u).mut⟩
 .refine pop ym (aJ (x:=(⟨0,0,0,0⟩:bI)) u iv rfl rfl λ_ u=>aD iv u.At ?_);have u:=u.p2.p2;rw[rN (by simpa using B),Np bM (by simpa using B),rO (by simpa using B)];exact⟨rfl,(jg.shut u).mut⟩
 refine aE (aA kM (aB iS u.p1.hb rfl ?_));obtain⟨G,I⟩:=gx l (i:=(i).toNat) bM;refine dM u.p2 fW bM bM (λ_ U=>fZ u.p2 iv U I (aR u rq λZ _ u=>aJ (x:=G) u iv rfl rfl λ_ u=>aE (aA kM (aB iS u.p2.hb rfl (dO agD (C223 _ _ _ u.p3.dS bM) ?_)))));rintro _ _ V;have u:=u.made V;refine aK bM (qg an0 u (H':=λv=>bH v (l.eraseIdx i.toNat)) (Φ:=λ_ _=>True) (λF E=>?_) ?_)
 .exact C224 _ i _ F _ E bM bM bM
 rintro M _ _ u;refine aE (aA kM (aW u.p3 iS (dR rfl) u.dS.one λ_ u=>aD iv u.p2.At (aJ (x:=G) u.p3 iv rfl rfl λ_ u=>aD iv u.At ?_)));have u:=u.p2.p2;rw[Nr (by simpa using B) I,Nq (by simpa using B),Ns (by simpa using B)];exact⟨rfl,(jg.shut u).mut⟩
end Go.Proofs.YtpdlpabnlkofmaaGreatDoor

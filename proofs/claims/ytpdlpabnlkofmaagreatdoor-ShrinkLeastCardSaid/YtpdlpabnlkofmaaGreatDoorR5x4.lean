/-
  Part 4.
-/
import Derived.Test.YtpdlpabnlkofmaaGreatDoorR5x3
set_option maxHeartbeats 8000000
set_option linter.all false
set_option maxRecDepth 100000
open Go.Fw.Flat renaming val->j0,enc->kp,sz->m8
open ByteArray renaming mk->kE,size_extract->abB
open List renaming getElem?_eq_some_iff->kO,mem_of_getElem?->la,take_of_length_le->ld,getElem?_eq_getElem->l0,length_append->l1,length_take->l2,length_singleton->mv,length_map->n4,append_assoc->n5,mem_map->oG,mem_cons_self->o6,getElem?_map->pO,mem_append->pX,take_append_drop->qa,length_drop->rf,mem_cons_of_mem->r6,replicate->sk,mem_cons->s4,getElem?_append_right->ta,drop_drop->tj,nil_append->tx,getElem?_append_left->u3,range->u7,eraseIdx_eq_take_drop_succ->vE,map_append->vH,drop_eq_nil_of_le->vM,mem_singleton->wy,mem_of_mem_take->wM,any_eq_true->ya,mem_iff_getElem?->zW,filter_append->Bl,map_congr_left->CI,nodup_cons->Kk,range_succ->Kl,map_map->Km,map_cons->Ml,mem_range->Nd,length_eraseIdx_of_lt->Ng,flatMap_append->Ns,mem_filter->Ob,pairwise_iff_getElem->RX,any_cons->S5,any_append->U0,pairwise_map->ZE,any_nil->Z7,nodup_append->aao,take_length->aaM,getElem_mem->aaN
open Nat renaming zero_le->l6,le_refl->pb,le_of_eq->AU,add_sub_cancel_left->Ix,add_assoc->NS,lt_or_ge->PN
open Go.Fw.Deep renaming dr->ml,ext->Na
open Go.Value renaming int->n3
open Go.Instr renaming sliceAt->ob,mapUpdate->xu,lookup->yy,box->By,keyThatStays->Oh
open Bool renaming and_eq_true->oi,not_eq_true'->sQ,or_eq_true->x6,true_and->Ac,eq_iff_iff->Ki,false_and->Ra,or_false->Ul
open Option renaming some->oq,map_eq_some_iff->Jh
open Int renaming toNat_natCast->qb,mul_le_mul->K0,add_comm->abC
open Array renaming getElem?_eq_some_iff->Fy
open Prod renaming fst->Zt
namespace Go.Proofs.YtpdlpabnlkofmaaGreatDoor
open Go.Fw
def oE(s:ByteArray):ByteArray:=s.extract 0 (min (s.size:Int) 40).toNat
def pW(s:ByteArray):(oE s).size<=40:=by
 unfold oE
 rw[abB];omega
def adF(x:cA):cA:={x with name:=oE x.name}
def yG(l:List cA):List cA:=(l.take 60).map adF
def Sq(x:bQ):bQ:=⟨x.kind,oE x.eG,oE x.name,yG x.e,yG x.f,x.n,x.body,x.ey,x.at_⟩
def Fl(l:List bQ):List bQ:=(l.take 50).map Sq
def adG(c:cK):cK:={c with name:=oE c.name}
def jI(l:List cK):List cK:=(l.take 8).map adG
def zb(t:cO):cO:=⟨oE t.name,(t.dQ.take 6).map oE,Fl t.body,t.at_⟩
def lg(l:List cO):List cO:=(l.take 4).map zb
def Fm(c:gS):gS:=⟨yG c.e,c.at_⟩
def zT(p:cB):cB:=⟨(p.lines.take 6).map jI,jI p.iR,jI p.eK,lg p.threads,lg p.recover,(p.dT.take 6).map Fm⟩
theorem qJ{α:Type}{xs:List α}{k m:Nat}(h:k<=m)(h2:k<=xs.length)(h3:¬ (k<xs.length/\k<m)):xs.take k=xs.take m:=by
 grind
def Fo(l:List cA):(yG l).length<=60:=by grind[yG]
def Ju(l:List cA):∀y∈yG l,y.name.size<=1048576:=by
 intro y u
 obtain⟨x,_,rfl⟩:=oG.1 u
 have:=pW x.name
 show(oE x.name).size<=_
 omega
def Fp(l:List cK):∀y∈jI l,y.name.size<=1048576:=by
 intro y u
 obtain⟨x,_,rfl⟩:=oG.1 u
 have:=pW x.name
 show(oE x.name).size<=_
 omega
def Cg(l:List cK):(jI l).length<=8:=by grind[jI]
def Yh(l:List bQ):(Fl l).length<=50:=by grind[Fl]
def Fq(l:List cO):(lg l).length<=4:=by grind[lg]
def adH(l:List bQ):∀y∈Fl l,SzS y:=by
 intro y u
 obtain⟨x,_,rfl⟩:=oG.1 u
 have h1:=pW x.eG
 have h2:=pW x.name
 have h3:=Fo x.e
 have h4:=Fo x.f
 exact⟨by show(oE x.eG).size<=_;omega,by show(oE x.name).size<=_;omega,by show(yG x.e).length<=_;omega,by show(yG x.f).length<=_;omega,Ju _,Ju _⟩
def Pz(t:cO):(zb t).dQ.length<=6:=by show((t.dQ.take 6).map oE).length<=6;grind
def HC(l:List cO):∀y∈lg l,Xp y/\y.dQ.length<=500/\y.body.length<=500:=by
 intro y u
 obtain⟨x,_,rfl⟩:=oG.1 u
 have h1:=pW x.name
 have h2:=Pz x
 have h3:=Yh x.body
 refine⟨⟨by show(oE x.name).size<=_;omega,λs B=>?_,adH _⟩,bO,by show(Fl x.body).length<=_;omega⟩
 obtain⟨z,_,rfl⟩:=oG.1 (show s∈(x.dQ.take 6).map oE from B)
 have:=pW z
 omega
def Sr(p:cB):PZ (zT p):=by
 have u:(zT p).lines.length<=6:=by show((p.lines.take 6).map jI).length<=6;grind
 have hc:(zT p).dT.length<=6:=by show((p.dT.take 6).map Fm).length<=6;grind
 have h1:=Cg p.iR
 have h2:=Cg p.eK
 have h3:=Fq p.threads
 have h4:=Fq p.recover
 have VH:∀t∈(zT p).threads++(zT p).recover,Xp t/\t.dQ.length<=500/\t.body.length<=500:=by
  intro t ht
  rcases pX.1 ht with h|h
  .exact HC _ t h
  .exact HC _ t h
 refine {lines:=by omega,line:=λl h=>?_,iR:=by show(jI p.iR).length<=500;omega,eK:=by show(jI p.eK).length<=500;omega,threads:=by show(lg p.threads).length<=500;omega,recover:=by show(lg p.recover).length<=500;omega,dT:=by omega,dQ:=λt ht=>(VH t ht).2.1,body:=λt ht=>(VH t ht).2.2,zl:=λl h c hc=>?_,zv:=Fp _,zk:=Fp _,zt:=λt ht=>(VH t (List.mem_append_left _ ht)).1,zr:=λt ht=>(VH t (List.mem_append_right _ ht)).1,zc:=λc h=>?_}
 .obtain⟨x,_,rfl⟩:=oG.1 (show l∈(p.lines.take 6).map jI from h)
  have:=Cg x;omega
 .obtain⟨x,_,rfl⟩:=oG.1 (show l∈(p.lines.take 6).map jI from h)
  exact Fp x c hc
 obtain⟨x,_,rfl⟩:=oG.1 (show c∈(p.dT.take 6).map Fm from h)
 have:=Fo x.e
 exact⟨by show(yG x.e).length<=_;omega,Ju _⟩
def C47(lv:Value)(xs:List cA)(w:World)(J:dA (λ_=>True) w lv xs):CR 47 [lv] w (λv w'=>kV (bH v (yG xs)) w w'):=by
 have u:=St.start w;refine eZ Tryz.func47 ?_;refine bD ([]:List cA) u gY rfl rfl (dL rfl) (λO M u=>?_);refine⟨λm G x M=>∃k:Nat,x=hZ (k:Int)/\m=60-k/\k<=60/\k<=xs.length/\St w aZ [bH G ((xs.take k).map adF)] M,⟨_,0,rfl,rfl,bO,bO,u⟩,?_⟩;rintro m G _ _ ⟨k,rfl,rfl,hk,xq,u⟩ _;have Y:((xs.take k).map adF).length=k:=by rw[n4,l2];omega
 refine⟨λjv w'=>jv=.bool (decide (k<xs.length/\k<60))/\St w aZ [bH G ((xs.take k).map adF)] w',aK gY (J.ext u.aG) (aR (aC (λ_=>aR ⟨vb cL,u⟩) λ_=>⟨vb cL,u⟩)),?_⟩;rintro _ _ ⟨rfl,u⟩ _;refine aY (λE=>?_) (λE=>?_)
 .have U:k<xs.length/\k<60:=by simpa using E
  obtain⟨B,I⟩:=gx xs (i:=(k:Int).toNat) bO;refine aQ gY J bO I (λ_ V=>aD si (V.ext u.aG) (aM u yk λJq _ u=>aJ (x:=B) u si rfl rfl λ_ u=>aA gm (aB (v:=.string B.name) gA u.hb rfl (aA gm (aB (v:=.string B.name) gA u.hb rfl (fj iq (rH (n6 iq bO bO (aA gm (aT u gA (dL rfl) (rfl) λ_ u=>?_))))))))));have u:=u.enc (cs':=kp ({B with name:=(B.name.extract 0 (min (B.name.size:Int) 40).toNat)}:cA)) rfl;refine aD si u.At (bD ([({B with name:=(B.name.extract 0 (min (B.name.size:Int) 40).toNat)}:cA)]) u gY rfl rfl (dL rfl) λW _ u=>?_)
  have Z:=u.dS;exact bJ u.p2 gY Z (by rw[Y,mv];omega) dD (λ_ _ u=>have u:=u.p1.drop;aO bO (have u:=u.p1.drop;⟨_,bO,k+1,rfl,rfl,bO,bO,by rw[<- gi (k:=k) I];exact u⟩))
 rw[qJ (xs:=xs) (k:=k) (m:=60) bO bO (g6 E)]at u;exact u.fresh
def C45(lv:Value)(xs:List cK)(w:World)(J:dA (λ_=>True) w lv xs):CR 45 [lv] w (λv w'=>kV (bH v (jI xs)) w w'):=by
 have u:=St.start w;refine eZ Tryz.func45 ?_;refine bD ([]:List cK) u iu rfl rfl (dL rfl) (λU M u=>?_);refine⟨λm G x M=>∃k:Nat,x=hZ (k:Int)/\m=8-k/\k<=8/\k<=xs.length/\St w aZ [bH G ((xs.take k).map adG)] M,⟨_,0,rfl,rfl,bO,bO,u⟩,?_⟩;rintro m G _ _ ⟨k,rfl,rfl,hk,xq,u⟩ _;have Z:((xs.take k).map adG).length=k:=by rw[n4,l2];omega
 refine⟨λjv w'=>jv=.bool (decide (k<xs.length/\k<8))/\St w aZ [bH G ((xs.take k).map adG)] w',aK iu (J.ext u.aG) (aR (aC (λ_=>aR ⟨vb cL,u⟩) λ_=>⟨vb cL,u⟩)),?_⟩;rintro _ _ ⟨rfl,u⟩ _;refine aY (λE=>?_) (λE=>?_)
 .have V:k<xs.length/\k<8:=by simpa using E
  obtain⟨B,I⟩:=gx xs (i:=(k:Int).toNat) bO;refine aQ iu J bO I (λ_ W=>aD mf (W.ext u.aG) (aM u oX λO _ u=>aJ (x:=B) u mf rfl rfl λ_ u=>aA kS (aB (v:=.string B.name) gA u.hb rfl (aA kS (aB (v:=.string B.name) gA u.hb rfl (fj iq (rH (n6 iq bO bO (aA kS (aT u gA (dL rfl) (rfl) λ_ u=>?_))))))))));have u:=u.enc (cs':=kp ({B with name:=(B.name.extract 0 (min (B.name.size:Int) 40).toNat)}:cK)) rfl;refine aD mf u.At (bD ([({B with name:=(B.name.extract 0 (min (B.name.size:Int) 40).toNat)}:cK)]) u iu rfl rfl (dL rfl) λY _ u=>?_)
  have PA:=u.dS;exact bJ u.p2 iu PA (by rw[Z,mv];omega) dD (λ_ _ u=>have u:=u.p1.drop;aO bO (have u:=u.p1.drop;⟨_,bO,k+1,rfl,rfl,bO,bO,by rw[<- gi (k:=k) I];exact u⟩))
 rw[qJ (xs:=xs) (k:=k) (m:=8) bO bO (g6 E)]at u;exact u.fresh
def C106(lv:Value)(xs:List bQ)(w:World)(hL:DL w lv xs):CR 106 [lv] w (λv w'=>kV (fV v (Fl xs)) w w'):=by
 have B:=St.start w;refine eZ Tryz.func106 ?_;refine tM (α:=bQ) B fq (λady w1 B=>?_);refine⟨λm nq x w1=>∃k:Nat,x=hZ (k:Int)/\m=50-k/\k<=50/\k<=xs.length/\St w aZ [fV nq ((xs.take k).map Sq)] w1,⟨_,0,rfl,rfl,bO,bO,B⟩,?_⟩;rintro m nq _ _ ⟨k,rfl,rfl,hk,xq,B⟩ _;have Jv:((xs.take k).map Sq).length=k:=by rw[n4,l2];omega
 refine⟨λjv w'=>jv=.bool (decide (k<xs.length/\k<50))/\St w aZ [fV nq ((xs.take k).map Sq)] w',?_,?_⟩
 .obtain⟨ts60,Z,V⟩:=hL.open;have hn60:=V.1;exact aK fq (Z.ext B.aG) (aR (aC (λ_=>aR ⟨vb cL,B⟩) λ_=>⟨vb cL,B⟩))
 rintro _ _ ⟨rfl,B⟩ _;refine aY (λW=>?_) (λW=>?_)
 .have apR:k<xs.length/\k<50:=by simpa using W
  obtain⟨U,M,E⟩:=hL.open;have hn61:=E.1;obtain⟨lX,ik⟩:=gx U (i:=(k:Int).toNat) bO;obtain⟨u,lH⟩:=gx xs (i:=(k:Int).toNat) bO;obtain⟨J,G,rfl,Ss,Su⟩:=E.2 _ _ _ ik lH;refine aQ fq M bO ik (λ_ lT=>aD eN (lT.ext B.aG) (aM B jA λJq _ B=>have B:=B.enc (cs':=kp (⟨0,(kE #[]),(kE #[]),bW,bW,0,0,0,0⟩:bE)) rfl;aJ (x:=(⟨u.kind,u.eG,u.name,J,G,u.n,u.body,u.ey,u.at_⟩:bE)) B eN rfl rfl λ_ B=>aA iH (aB (v:=.string u.eG) gA B.hb rfl (aA iH (aB (v:=.string u.eG) gA B.hb rfl (fj iq (rH (n6 iq bO bO (aA iH ?_)))))))))
  have awt:=DL.flat Ss;have Y:=DL.flat Su;refine aT B gA (dL rfl) (rfl) (λ_ B=>have B:=B.enc (cs':=kp (⟨u.kind,(u.eG.extract 0 (min (u.eG.size:Int) 40).toNat),u.name,J,G,u.n,u.body,u.ey,u.at_⟩:bE)) rfl;aA gh (aB (v:=.string u.name) gA B.hb rfl (aA gh (aB (v:=.string u.name) gA B.hb rfl (fj iq (rH (n6 iq bO bO (aA gh (aT B gA (dL rfl) (rfl) λ_ B=>have B:=B.enc (cs':=kp (⟨u.kind,(u.eG.extract 0 (min (u.eG.size:Int) 40).toNat),(u.name.extract 0 (min (u.name.size:Int) 40).toNat),J,G,u.n,u.body,u.ey,u.at_⟩:bE)) rfl;aA iX (aB (v:=j0 (J:SV)) jz B.hb rfl (dU ahH B (C47 _ _ _ (awt.ext B.aG)) λx39 _ cJ B=>?_)))))))))))
  refine aA iX ?_;obtain⟨I,rfl⟩:=B.fK;refine aT B.p1 jz (dL rfl) (rfl) (λ_ B=>have B:=B.enc (cs':=kp (⟨u.kind,(u.eG.extract 0 (min (u.eG.size:Int) 40).toNat),(u.name.extract 0 (min (u.name.size:Int) 40).toNat),I,G,u.n,u.body,u.ey,u.at_⟩:bE)) rfl;aA j9 (aB (v:=j0 (G:SV)) jz B.hb rfl (dU ahH B (C47 _ _ _ (Y.ext B.aG)) λx43 _ cJ B=>aA j9 ?_)));obtain⟨O,rfl⟩:=B.fK;exact aT B.p1 jz (dL rfl) (rfl) (λ_ B=>have B:=B.enc (cs':=kp (⟨u.kind,(u.eG.extract 0 (min (u.eG.size:Int) 40).toNat),(u.name.extract 0 (min (u.name.size:Int) 40).toNat),I,O,u.n,u.body,u.ey,u.at_⟩:bE)) rfl;aD eN B.At (have B:=B.p2.freeze.p2.freeze.p1.hG.dN (Ψ:=(λw=>ml w (⟨u.kind,(u.eG.extract 0 (min (u.eG.size:Int) 40).toNat),(u.name.extract 0 (min (u.name.size:Int) 40).toNat),I,O,u.n,u.body,u.ey,u.at_⟩:bE) (⟨u.kind,(u.eG.extract 0 (min (u.eG.size:Int) 40).toNat),(u.name.extract 0 (min (u.name.size:Int) 40).toNat),(yG u.e),(yG u.f),u.n,u.body,u.ey,u.at_⟩:bQ))) (λ_ h=>⟨_,_,rfl,DL.j4 h.1,DL.j4 h.2⟩);gj (s:=(⟨u.kind,(u.eG.extract 0 (min (u.eG.size:Int) 40).toNat),(u.name.extract 0 (min (u.name.size:Int) 40).toNat),I,O,u.n,u.body,u.ey,u.at_⟩:bE)) (x:=(⟨u.kind,(u.eG.extract 0 (min (u.eG.size:Int) 40).toNat),(u.name.extract 0 (min (u.name.size:Int) 40).toNat),(yG u.e),(yG u.f),u.n,u.body,u.ey,u.at_⟩:bQ)) B fq dD λ_ _ B=>have B:=B.p2;gk B fq (by rw[Jv,mv];omega) dD λ_ _ B=>aO bO (have B:=B.p1.drop;⟨_,bO,k+1,rfl,rfl,bO,bO,by rw[<- gi (k:=k) lH];exact B⟩)))
 rw[qJ (xs:=xs) (k:=k) (m:=50) bO bO (g6 W)]at B;exact B.fresh
def C46(lv:Value)(xs:List cO)(w:World)(hL:DL w lv xs):CR 46 [lv] w (λv w'=>kV (fV v (lg xs)) w w'):=by
 have u:=St.start w;refine oL Tryz.func46 (pl:=P46) ?_;refine tM (α:=cO) u fx (λadD w1 u=>?_);refine⟨λm M x w1=>∃k:Nat,x=hZ (k:Int)/\m=4-k/\k<=4/\k<=xs.length/\St w aZ [fV M ((xs.take k).map zb)] w1,⟨_,0,rfl,rfl,bO,bO,u⟩,?_⟩;rintro m M _ _ ⟨k,rfl,rfl,hk,xq,u⟩ _;have Jv:((xs.take k).map zb).length=k:=by rw[n4,l2];omega
 refine⟨λW w'=>W=.bool (decide (k<xs.length/\k<4))/\St w aZ [fV M ((xs.take k).map zb)] w',?_,?_⟩
 .obtain⟨ts64,awv,aww⟩:=hL.open;have hn64:=aww.1;exact aK fx (awv.ext u.aG) (aR (aC (λ_=>aR ⟨vb cL,u⟩) λ_=>⟨vb cL,u⟩))
 rintro _ _ ⟨rfl,u⟩ _;refine aY (λjs=>?_) (λjs=>?_)
 .have hc15:k<xs.length/\k<4:=by simpa using js
  obtain⟨awx,J,Z⟩:=hL.open;have hn65:=Z.1;obtain⟨agM,G⟩:=gx awx (i:=(k:Int).toNat) bO;obtain⟨B,Jp⟩:=gx xs (i:=(k:Int).toNat) bO;obtain⟨zV,PH,rfl,Fs,Ft⟩:=Z.2 _ _ _ G Jp;refine⟨λE7 w'=>St w aZ [fV E7 ((xs.take k).map zb++[zb B])] w',⟨λW w'=>∃(Fu:Nat) (E:SV),W=.pointer (some ⟨Fu,0,none⟩)/\St w aZ [bY Fu (kp (⟨(B.name.extract 0 (min (B.name.size:Int) 40).toNat),bW,E,B.at_⟩:cH)),fV (j0 E) (Fl B.body),fV M ((xs.take k).map zb)] w',?_,?_⟩,?_⟩
  .refine aQ fx J bO G (λ_ Mt=>bV B.name qx Mt rfl rfl λ_ O=>have u:=u.drew;aD gA (O.ext u.aG) (aQ fx J bO G λ_ Fv=>bV B.name qx Fv rfl rfl λ_ xk=>aD gA (xk.ext u.aG) (fj iq (rH (n6 iq bO bO (aQ fx J bO G λ_ rq=>bV B.at_ qy rq rfl rfl λ_ V=>aD bL (V.ext u.aG) (aQ fx J bO G λ_ yZ=>bV PH lL yZ rfl rfl λ_ xo=>aD jR (xo.ext u.aG) ⟨?_,⟨?_,?_⟩⟩)))))))
   .refine dU afz u (C106 _ _ _ (Ft.ext u.aG)) (λx41 _ cJ u=>?_);refine⟨eA gA (O.ext u.aG),?_⟩;refine⟨eA gA (xk.ext u.aG),?_⟩;refine⟨eA bL (V.ext u.aG),?_⟩;obtain⟨Jw,rfl⟩:=u.o7;refine pop (AL _ _ _ _ _) (aM u tJ λb_t5 _ u=>?_);have u:=u.enc (cs':=kp (⟨(kE #[]),bW,bW,0⟩:cH)) rfl;refine⟨eA gA (O.ext u.aG),?_⟩;refine⟨eA gA (xk.ext u.aG),?_⟩;refine⟨eA bL (V.ext u.aG),?_⟩;refine⟨eA jR (xo.ext u.aG),?_⟩;exact aJ (x:=(⟨(B.name.extract 0 (min (B.name.size:Int) 40).toNat),bW,Jw,B.at_⟩:cH)) u nc rfl rfl (λ_ u=>have u:=u.p2.p2.p2;⟨_,_,rfl,u⟩)
   .refine aM u tJ (λawy _ u=>?_);have u:=u.enc (cs':=kp (⟨(kE #[]),bW,bW,0⟩:cH)) rfl;refine⟨eA gA (O.ext u.aG),?_⟩;refine⟨eA gA (xk.ext u.aG),?_⟩;refine⟨eA bL (V.ext u.aG),?_⟩;refine⟨eA jR (xo.ext u.aG),?_⟩;refine dU afz u (C106 _ _ _ (Ft.ext u.aG)) (λx41_1 _ cJ u=>?_);refine⟨eA gA (O.ext u.aG),?_⟩;refine⟨eA gA (xk.ext u.aG),?_⟩;refine⟨eA bL (V.ext u.aG),?_⟩;obtain⟨Yi,rfl⟩:=u.o7;exact pop (AL _ _ _ _ _) (aJ (x:=(⟨(B.name.extract 0 (min (B.name.size:Int) 40).toNat),bW,Yi,B.at_⟩:cH)) u.p1 nc rfl rfl λ_ u=>have u:=u.p2.p2.p2;⟨_,_,rfl,u⟩)
   trivial
  .rintro _ _ ⟨Fu,E,rfl,u⟩ _;have u:=((((u.eM (α:=ByteArray)).p3).p3).p2).p3;refine⟨λm x w1=>∃(j:Nat) (I:SV),x=hZ (j:Int)/\m=6-j/\j<=6/\j<=B.dQ.length/\St w aZ [bY Fu (kp (⟨(B.name.extract 0 (min (B.name.size:Int) 40).toNat),I,E,B.at_⟩:cH)),bH (j0 I) ((B.dQ.take j).map oE),fV (j0 E) (Fl B.body),fV M ((xs.take k).map zb)] w1,⟨_,0,bW,rfl,rfl,bO,bO,u⟩,?_⟩;rintro m _ _ ⟨j,I,rfl,rfl,hj,Bj,u⟩ _;have ai6:((B.dQ.take j).map oE).length=j:=by rw[n4,l2];omega
   refine⟨λW w'=>W=.bool (decide (j<B.dQ.length/\j<6))/\St w aZ [bY Fu (kp (⟨(B.name.extract 0 (min (B.name.size:Int) 40).toNat),I,E,B.at_⟩:cH)),bH (j0 I) ((B.dQ.take j).map oE),fV (j0 E) (Fl B.body),fV M ((xs.take k).map zb)] w',?_,?_⟩
   .refine aQ fx J bO G (λ_ LO=>bV zV fT LO rfl rfl λ_ A3=>aD jj (A3.ext u.aG) ?_);have awz:=DL.flat Fs;exact aK iD (awz.ext u.aG) (aR (aC (λ_=>aR ⟨vb cL,u⟩) λ_=>⟨vb cL,u⟩))
   rintro _ _ ⟨rfl,u⟩ _;refine aY (λBc=>?_) (λBc=>?_)
   .have hc54:j<B.dQ.length/\j<6:=by simpa using Bc
    refine aA fT (have u:=u.drew;aB (v:=j0 (I:SV)) jj u.hb rfl (aQ fx J bO G λ_ Ya=>bV zV fT Ya rfl rfl λ_ Fx=>aD jj (Fx.ext u.aG) ?_));have Y:=DL.flat Fs;obtain⟨U,PI⟩:=gx B.dQ (i:=(j:Int).toNat) bO;refine aQ iD Y bO PI (λ_ CV=>aD gA (CV.ext u.aG) (aQ fx J bO G λ_ Mq=>bV zV fT Mq rfl rfl λ_ Yj=>aD jj (Yj.ext u.aG) (aQ iD Y bO PI λ_ apV=>aD gA (apV.ext u.aG) (fj iq (rH (n6 iq bO bO (bD ([(U.extract 0 (min (U.size:Int) 40).toNat)]) u iD rfl rfl (dL rfl) λapW _ u=>?_)))))))
    refine⟨aF jj (u.p1.hb.cell rfl),?_⟩;have PJ:=u.dS;refine bJ u.p2 iD PJ (by rw[ai6,mv];omega) dD (λapX _ u=>have u:=u.p1.drop;aA fT ?_);obtain⟨Ch,rfl⟩:=u.fK;exact aT u.p1 jj (dL rfl) (rfl) (λ_ u=>have u:=u.enc (cs':=kp (⟨(B.name.extract 0 (min (B.name.size:Int) 40).toNat),Ch,E,B.at_⟩:cH)) rfl;aO bO (have u:=u.p3.p3.p3.p3;⟨_,bO,j+1,Ch,rfl,rfl,bO,bO,by rw[<- gi (k:=j) PI];exact u⟩))
   refine aD nc u.At (have u:=u.p1.freeze.p2.m4.p1.hG.dN (Ψ:=(λw=>ml w (⟨(B.name.extract 0 (min (B.name.size:Int) 40).toNat),I,E,B.at_⟩:cH) (⟨(B.name.extract 0 (min (B.name.size:Int) 40).toNat),((B.dQ.take j).map oE),(Fl B.body),B.at_⟩:cO))) (λ_ h=>⟨_,_,rfl,DL.j4 h.1,h.2⟩);gj (s:=(⟨(B.name.extract 0 (min (B.name.size:Int) 40).toNat),I,E,B.at_⟩:cH)) (x:=(⟨(B.name.extract 0 (min (B.name.size:Int) 40).toNat),((B.dQ.take j).map oE),(Fl B.body),B.at_⟩:cO)) u fx dD λagO _ u=>have u:=u.p2;gk u fx (by rw[Jv,mv];omega) dD λapY _ u=>?_)
   have u:=u.p1.drop;rw[qJ (xs:=B.dQ) (k:=j) (m:=6) bO bO (g6 Bc)]at u;exact u
  rintro E7 _ u _;exact aO bO ⟨_,bO,k+1,rfl,rfl,bO,bO,by rw[<- gi (k:=k) Jp];exact u⟩
 rw[qJ (xs:=xs) (k:=k) (m:=4) bO bO (g6 js)]at u;exact u.fresh
def C11(p:cB)(pv:bP)(w:World)(hp:ml w pv p):CR 11 [j0 pv] w (λv w'=>∃qv:bP,v=j0 qv/\kV (eF λw=>ml w qv (zT p)) w w'):=by
 obtain⟨bK,bU,bM,aW,aX,bG,rfl,cQ,dG,cW,cC,Z,cP⟩:=hp;have u:=St.start w;refine oL Tryz.func11 (pl:=P11) ?_;refine cG u (λku w1 u=>aM u vr λwC _ u=>have u:=u.enc (cs':=kp (⟨bW,bW,bW,bW,bW,bW⟩:bP)) rfl;⟨λjv w'=>∃(W:Nat) (E B G J:SV),jv=.pointer (some ⟨W,0,none⟩)/\St w aZ [bY W (kp (⟨bW,E,B,G,J,bW⟩:bP)),bH (j0 E) (jI p.iR),bH (j0 B) (jI p.eK),fV (j0 G) (lg p.threads),fV (j0 J) (lg p.recover),bY ku (kp (⟨bK,bU,bM,aW,aX,bG⟩:bP)),bY wC (kp (⟨bW,bW,bW,bW,bW,bW⟩:bP))] w',?_,?_⟩)
 .refine aA qi (have u:=u.drew;aB jO u.p1.hb rfl ?_);have apZ:=DL.flat dG;refine aA nT (aB jO u.p1.hb rfl ?_);have U:=DL.flat cW;refine aA kI (aB iC u.p1.hb rfl (aA oT (aB iC u.p1.hb rfl ⟨dU TN u (C45 _ _ _ (apZ.ext u.aG)) (λx8 _ I u=>⟨aF jO (u.p2.hb.cell rfl),⟨aF iC (u.p2.hb.cell rfl),⟨aF iC (u.p2.hb.cell rfl),⟨dU TN u (C45 _ _ _ (U.ext u.aG)) (λx11 _ I u=>⟨aF iC (u.p3.hb.cell rfl),⟨aF iC (u.p3.hb.cell rfl),⟨dU IP u (C46 _ _ _ (cC.ext u.aG)) (λx14 _ I u=>⟨aF iC (u.p4.hb.cell rfl),⟨?_,⟨?_,?_⟩⟩⟩),⟨?_,?_⟩⟩⟩⟩),⟨?_,?_⟩⟩⟩⟩⟩),⟨?_,?_⟩⟩)))
  .refine dU IP u (C46 _ _ _ (Z.ext u.aG)) (λUh _ I u=>?_);obtain⟨Y,rfl⟩:=u.p3.fK;obtain⟨Fz,rfl⟩:=u.p2.fK;obtain⟨PO,rfl⟩:=u.p1.o7;obtain⟨ai8,rfl⟩:=u.o7;refine pop (nI _ _ _ _ _ _ _ _ _ _ _ _) (aM u vr λb_q3 _ u=>?_);have u:=u.enc (cs':=kp (⟨bW,bW,bW,bW,bW,bW⟩:bP)) rfl;refine⟨aF jO (u.p6.hb.cell rfl),?_⟩;refine⟨aF jO (u.p6.hb.cell rfl),?_⟩;refine⟨aF iC (u.p6.hb.cell rfl),?_⟩;refine⟨aF iC (u.p6.hb.cell rfl),?_⟩;exact aJ (x:=(⟨bW,Y,Fz,PO,ai8,bW⟩:bP)) u eg rfl rfl (λ_ u=>have u:=u.p5.p6.p3.p4.p5.p6.p6;⟨_,_,_,_,_,rfl,u⟩)
  .refine aM u vr (λawA _ u=>?_);have u:=u.enc (cs':=kp (⟨bW,bW,bW,bW,bW,bW⟩:bP)) rfl;refine⟨aF jO (u.p5.hb.cell rfl),?_⟩;refine⟨aF jO (u.p5.hb.cell rfl),?_⟩;refine⟨aF iC (u.p5.hb.cell rfl),?_⟩;refine⟨aF iC (u.p5.hb.cell rfl),?_⟩;refine dU IP u (C46 _ _ _ (Z.ext u.aG)) (λx17_1 _ I u=>?_);obtain⟨Y,rfl⟩:=u.p4.fK;obtain⟨Fz,rfl⟩:=u.p3.fK;obtain⟨PO,rfl⟩:=u.p2.o7;obtain⟨Yk,rfl⟩:=u.o7;exact pop (nI _ _ _ _ _ _ _ _ _ _ _ _) (aJ (x:=(⟨bW,Y,Fz,PO,Yk,bW⟩:bP)) u.p1 eg rfl rfl λ_ u=>have u:=u.p5.p6.p3.p4.p5.p6.p6;⟨_,_,_,_,_,rfl,u⟩)
  .trivial
  .refine aM u vr (λawB _ u=>?_);have u:=u.enc (cs':=kp (⟨bW,bW,bW,bW,bW,bW⟩:bP)) rfl;refine⟨aF jO (u.p4.hb.cell rfl),?_⟩;refine⟨aF jO (u.p4.hb.cell rfl),?_⟩;refine⟨aF iC (u.p4.hb.cell rfl),?_⟩;refine⟨aF iC (u.p4.hb.cell rfl),?_⟩;refine dU IP u (C46 _ _ _ (cC.ext u.aG)) (λx14_1 _ I u=>?_);refine⟨aF iC (u.p5.hb.cell rfl),?_⟩;refine dU IP u (C46 _ _ _ (Z.ext u.aG)) (λx17_2 _ I u=>?_);obtain⟨Y,rfl⟩:=u.p4.fK;obtain⟨Fz,rfl⟩:=u.p3.fK;obtain⟨Yl,rfl⟩:=u.p1.o7;obtain⟨Ym,rfl⟩:=u.o7
   exact pop (nI _ _ _ _ _ _ _ _ _ _ _ _) (aJ (x:=(⟨bW,Y,Fz,Yl,Ym,bW⟩:bP)) u.p2 eg rfl rfl λ_ u=>have u:=u.p5.p6.p3.p4.p5.p6.p6;⟨_,_,_,_,_,rfl,u⟩)
  .trivial
  .refine aM u vr (λawC _ u=>?_);have u:=u.enc (cs':=kp (⟨bW,bW,bW,bW,bW,bW⟩:bP)) rfl;refine⟨aF jO (u.p3.hb.cell rfl),?_⟩;refine⟨aF jO (u.p3.hb.cell rfl),?_⟩;refine⟨aF iC (u.p3.hb.cell rfl),?_⟩;refine⟨aF iC (u.p3.hb.cell rfl),?_⟩;refine dU TN u (C45 _ _ _ (U.ext u.aG)) (λx11_1 _ I u=>?_);refine⟨aF iC (u.p4.hb.cell rfl),?_⟩;refine⟨aF iC (u.p4.hb.cell rfl),?_⟩;refine dU IP u (C46 _ _ _ (cC.ext u.aG)) (λx14_2 _ I u=>?_);refine⟨aF iC (u.p5.hb.cell rfl),?_⟩;refine dU IP u (C46 _ _ _ (Z.ext u.aG)) (λx17_3 _ I u=>?_)
   obtain⟨Y,rfl⟩:=u.p4.fK;obtain⟨Yn,rfl⟩:=u.p2.fK;obtain⟨Yo,rfl⟩:=u.p1.o7;obtain⟨Yp,rfl⟩:=u.o7;exact pop (nI _ _ _ _ _ _ _ _ _ _ _ _) (aJ (x:=(⟨bW,Y,Yn,Yo,Yp,bW⟩:bP)) u.p3 eg rfl rfl λ_ u=>have u:=u.p5.p6.p3.p4.p5.p6.p6;⟨_,_,_,_,_,rfl,u⟩)
  .trivial
  .refine aM u vr (λawD _ u=>?_);have u:=u.enc (cs':=kp (⟨bW,bW,bW,bW,bW,bW⟩:bP)) rfl;refine⟨aF jO (u.p2.hb.cell rfl),?_⟩;refine⟨aF jO (u.p2.hb.cell rfl),?_⟩;refine⟨aF iC (u.p2.hb.cell rfl),?_⟩;refine⟨aF iC (u.p2.hb.cell rfl),?_⟩;refine dU TN u (C45 _ _ _ (apZ.ext u.aG)) (λx8_1 _ I u=>?_);refine⟨aF jO (u.p3.hb.cell rfl),?_⟩;refine⟨aF iC (u.p3.hb.cell rfl),?_⟩;refine⟨aF iC (u.p3.hb.cell rfl),?_⟩;refine dU TN u (C45 _ _ _ (U.ext u.aG)) (λx11_2 _ I u=>?_);refine⟨aF iC (u.p4.hb.cell rfl),?_⟩;refine⟨aF iC (u.p4.hb.cell rfl),?_⟩
   refine dU IP u (C46 _ _ _ (cC.ext u.aG)) (λx14_3 _ I u=>?_);refine⟨aF iC (u.p5.hb.cell rfl),?_⟩;refine dU IP u (C46 _ _ _ (Z.ext u.aG)) (λx17_4 _ I u=>?_);obtain⟨DO,rfl⟩:=u.p3.fK;obtain⟨Yq,rfl⟩:=u.p2.fK;obtain⟨Yr,rfl⟩:=u.p1.o7;obtain⟨Ys,rfl⟩:=u.o7;exact pop (nI _ _ _ _ _ _ _ _ _ _ _ _) (aJ (x:=(⟨bW,DO,Yq,Yr,Ys,bW⟩:bP)) u.p4 eg rfl rfl λ_ u=>have u:=u.p5.p6.p3.p4.p5.p6.p6;⟨_,_,_,_,_,rfl,u⟩)
  trivial
 rintro _ _ ⟨W,E,B,G,J,rfl,u⟩ _;have u:=((((((((u.Jd (α:=(List cK))).p7).p7).p7).p7).p7).p7).p6).p7;refine⟨λm x w1=>∃(k:Nat) (M:SV),x=hZ (k:Int)/\m=6-k/\k<=6/\k<=p.lines.length/\St w aZ [bY W (kp (⟨M,E,B,G,J,bW⟩:bP)),fV (j0 M) ((p.lines.take k).map jI),bH (j0 E) (jI p.iR),bH (j0 B) (jI p.eK),fV (j0 G) (lg p.threads),fV (j0 J) (lg p.recover),bY ku (kp (⟨bK,bU,bM,aW,aX,bG⟩:bP)),bY wC (kp (⟨bW,bW,bW,bW,bW,bW⟩:bP))] w1,⟨_,0,bW,rfl,rfl,bO,bO,u⟩,?_⟩
 rintro m _ _ ⟨k,M,rfl,rfl,hk,xq,u⟩ _;have Jv:((p.lines.take k).map jI).length=k:=by rw[n4,l2];omega
 refine⟨λjv w'=>jv=.bool (decide (k<p.lines.length/\k<6))/\St w aZ [bY W (kp (⟨M,E,B,G,J,bW⟩:bP)),fV (j0 M) ((p.lines.take k).map jI),bH (j0 E) (jI p.iR),bH (j0 B) (jI p.eK),fV (j0 G) (lg p.threads),fV (j0 J) (lg p.recover),bY ku (kp (⟨bK,bU,bM,aW,aX,bG⟩:bP)),bY wC (kp (⟨bW,bW,bW,bW,bW,bW⟩:bP))] w',?_,?_⟩
 .refine aA gB (aB oS u.p6.hb rfl ?_);obtain⟨ts70,awE,awF⟩:=cQ.open;have hn70:=awF.1;exact aK pL (awE.ext u.aG) (aR (aC (λ_=>aR ⟨vb cL,u⟩) λ_=>⟨vb cL,u⟩))
 rintro _ _ ⟨rfl,u⟩ _;refine aY (λlx=>?_) (λlx=>?_)
 .have hc27:k<p.lines.length/\k<6:=by simpa using lx
  refine aA gB (have u:=u.drew;aB (v:=j0 (M:SV)) oS u.hb rfl (aA gB (aB oS u.p6.hb rfl ?_)));obtain⟨awG,awH,ap0⟩:=cQ.open;have hn71:=ap0.1;obtain⟨ap1,Yt⟩:=gx awG (i:=(k:Int).toNat) bO;obtain⟨Yu,Yv⟩:=gx p.lines (i:=(k:Int).toNat) bO;have ap2:DL w (j0 ap1) Yu:=ap0.2 _ _ _ Yt Yv;refine aQ pL awH bO Yt (λ_ LL=>aD jO (LL.ext u.aG) ?_);have awI:=DL.flat ap2;refine dU TN u (C45 _ _ _ (awI.ext u.aG)) (λx37 _ I u=>?_);refine⟨aF oS (u.p1.hb.cell rfl),?_⟩;obtain⟨Yw,rfl⟩:=u.fK
  have u:=u.freeze.dN (Ψ:=λw=>ml w Yw (jI Yu)) (λ_ h=>DL.j4 h);refine gj (s:=Yw) (x:=(jI Yu)) u pL dD (λap3 _ u=>?_);refine⟨aF oS (u.p1.hb.cell rfl),?_⟩;have u:=u.p2;refine gk u pL (by rw[Jv,mv];omega) dD (λap4 _ u=>aA gB ?_);obtain⟨zU,rfl⟩:=u.o7;exact aT u.p1 oS (dL rfl) (rfl) (λ_ u=>have u:=u.enc (cs':=kp (⟨zU,E,B,G,J,bW⟩:bP)) rfl;aO bO (have u:=u.p7.p7.p7.p7.p7.p7.p7.p7;⟨_,bO,k+1,zU,rfl,rfl,bO,bO,by rw[<- gi (k:=k) Yv];exact u⟩))
 rw[qJ (xs:=p.lines) (k:=k) (m:=6) bO bO (g6 lx)]at u;have u:=(((((((((u.Jd (α:=gS)).p8).p8).p8).p8).p8).p8).p8).p7).p8;refine⟨λm x w1=>∃(j:Nat) (O:SV),x=hZ (j:Int)/\m=6-j/\j<=6/\j<=p.dT.length/\St w aZ [bY W (kp (⟨M,E,B,G,J,O⟩:bP)),fV (j0 O) ((p.dT.take j).map Fm),fV (j0 M) ((p.lines.take 6).map jI),bH (j0 E) (jI p.iR),bH (j0 B) (jI p.eK),fV (j0 G) (lg p.threads),fV (j0 J) (lg p.recover),bY ku (kp (⟨bK,bU,bM,aW,aX,bG⟩:bP)),bY wC (kp (⟨bW,bW,bW,bW,bW,bW⟩:bP))] w1,⟨_,0,bW,rfl,rfl,bO,bO,u⟩,?_⟩
 rintro m _ _ ⟨j,O,rfl,rfl,hj,Bj,u⟩ _;have ai6:((p.dT.take j).map Fm).length=j:=by rw[n4,l2];omega
 refine⟨λjv w'=>jv=.bool (decide (j<p.dT.length/\j<6))/\St w aZ [bY W (kp (⟨M,E,B,G,J,O⟩:bP)),fV (j0 O) ((p.dT.take j).map Fm),fV (j0 M) ((p.lines.take 6).map jI),bH (j0 E) (jI p.iR),bH (j0 B) (jI p.eK),fV (j0 G) (lg p.threads),fV (j0 J) (lg p.recover),bY ku (kp (⟨bK,bU,bM,aW,aX,bG⟩:bP)),bY wC (kp (⟨bW,bW,bW,bW,bW,bW⟩:bP))] w',?_,?_⟩
 .refine aA jx (aB qX u.p7.hb rfl ?_);obtain⟨ts73,awJ,awK⟩:=cP.open;have hn73:=awK.1;exact aK tn (awJ.ext u.aG) (aR (aC (λ_=>aR ⟨vb cL,u⟩) λ_=>⟨vb cL,u⟩))
 rintro _ _ ⟨rfl,u⟩ _;refine aY (λsy=>?_) (λsy=>?_)
 .have hc49:j<p.dT.length/\j<6:=by simpa using sy
  refine aA jx (have u:=u.drew;aB (v:=j0 (O:SV)) qX u.hb rfl (aA jx (aB qX u.p7.hb rfl ?_)));obtain⟨awL,ap5,ap6⟩:=cP.open;have hn74:=ap6.1;obtain⟨Yx,Ci⟩:=gx awL (i:=(j:Int).toNat) bO;obtain⟨V,Yy⟩:=gx p.dT (i:=(j:Int).toNat) bO;obtain⟨adI,rfl,adJ⟩:=ap6.2 _ _ _ Ci Yy;refine aQ tn ap5 bO Ci (λ_ Fc=>bV adI vu Fc rfl rfl λ_ Bd=>aD jz (Bd.ext u.aG) ?_);have awM:=DL.flat adJ;refine aA jx (aB qX u.p7.hb rfl (aQ tn ap5 bO Ci λ_ E1=>bV V.at_ I3 E1 rfl rfl λ_ CV=>aD bL (CV.ext u.aG) (dU ahH u (C47 _ _ _ (awM.ext u.aG)) λx60 _ I u=>?_)))
  refine⟨aF qX (u.p1.hb.cell rfl),?_⟩;refine⟨aF qX (u.p8.hb.cell rfl),?_⟩;refine⟨eA bL (CV.ext u.aG),?_⟩;obtain⟨Cj,rfl⟩:=u.fK;refine pop (Hk _ _ _ _) (have u:=u.freeze.dN (Ψ:=(λw=>ml w (⟨Cj,V.at_⟩:jC) (⟨(yG V.e),V.at_⟩:gS))) (λ_ h=>⟨_,rfl,DL.j4 h⟩);gj (s:=(⟨Cj,V.at_⟩:jC)) (x:=(⟨(yG V.e),V.at_⟩:gS)) u tn dD λs_x68 _ u=>?_);refine⟨aF qX (u.p1.hb.cell rfl),?_⟩;have u:=u.p2;refine gk u tn (by rw[ai6,mv];omega) dD (λs_x69 _ u=>aA jx ?_)
  obtain⟨Yz,rfl⟩:=u.o7;exact aT u.p1 qX (dL rfl) (rfl) (λ_ u=>have u:=u.enc (cs':=kp (⟨M,E,B,G,J,Yz⟩:bP)) rfl;aO bO (have u:=u.p8.p8.p8.p8.p8.p8.p8.p8.p8;⟨_,bO,j+1,Yz,rfl,rfl,bO,bO,by rw[<- gi (k:=j) Yy];exact u⟩))
 refine aD eg u.At (aJ (x:=(⟨M,E,B,G,J,O⟩:bP)) u.p8 eg rfl rfl λ_ u=>aD eg u.At ?_);rw[qJ (xs:=p.dT) (k:=j) (m:=6) bO bO (g6 sy)]at u;have u:=u.p3.m4.p4.freeze.p1.hG.p4.freeze.p1.hG.p4.m4.p1.hG.p4.m4.p1.hG;have u:=u.p3.m4.p1.hG.dN (Ψ:=(λw=>ml w (⟨M,E,B,G,J,O⟩:bP) (⟨((p.lines.take 6).map jI),(jI p.iR),(jI p.eK),(lg p.threads),(lg p.recover),((p.dT.take 6).map Fm)⟩:cB))) (λ_ h=>⟨_,_,_,_,_,_,rfl,h.1.1.1.1.1,DL.j4 h.1.1.1.1.2,DL.j4 h.1.1.1.2,h.1.1.2,h.1.2,h.2⟩)
 have u:=u.p1.drop.p1.drop.p1.drop;exact⟨_,rfl,u.fresh⟩
def tP(l:List Int)(i:Nat):Int:=if i=0 then 0 else l.getD (i-1) 0+1
theorem YA(x:bQ)(loops:Int):loops+Jf (decide (x.kind=12))=Bk.DH x loops:=by
 unfold Bk.DH Jf
 grind
def ap7(b:Bool):0<=Jf b/\Jf b<=1:=by cases b<;>decide
def C309(sv fv:Value)(xs:List bQ)(φ:bQ->Prop)(g:bQ->Bool)(w:World)(hL:DL w sv xs)(hf:tN hH w fv φ g)(Z:∀x∈xs,φ x)(hn:xs.length<=1073741824):CR 309 [sv,fv] w (λv w'=>v=hZ (sC g xs)/\Ext w w'):=by
 obtain⟨g0,first,cap,rfl,nz,j7⟩:=hf;have u:=St.start w;refine eZ Tryz.func309 ?_;obtain⟨vD,U,V⟩:=hL.open;have hn3:=V.1;refine aK fq (U.ext u.aG) ?_;refine⟨λm x M=>∃k:Nat,x=hZ (k:Int)/\m=xs.length-k/\k<=xs.length/\(∀y∈xs.take k,g y=false)/\St w aZ [] M,⟨_,0,rfl,rfl,l6 _,ee,u⟩,?_⟩;rintro m _ M ⟨k,rfl,rfl,hk,E,u⟩ _;refine aR (aC (λjL=>?_) λ_=>⟨gQ (n3 .i64) (jg (by rw[ld bO]at E;exact E)).symm,u.aG⟩);obtain⟨iy,O⟩:=gx vD (i:=(k:Int).toNat) bO;obtain⟨Y,B⟩:=gx xs (i:=(k:Int).toNat) bO
 obtain⟨Jy,G,rfl,Jz,J⟩:=V.2 _ _ _ O B;refine aQ fq U bO O (λ_ ij=>aD eN (ij.ext u.aG) (gW nz (j7 _ Y M u.aG ⟨Jy,G,rfl,(Jz.ext u.aG),(J.ext u.aG)⟩ (Z _ (la B))) ?_));rintro _ _ ⟨rfl,W⟩;have u:=u.ext W;exact aY (λI=>⟨gQ (n3 .i64) (mh E B I).symm,u.aG⟩) (λI=>aO bO ⟨_,bO,k+1,rfl,rfl,bO,dY E B I,u⟩)
def C282(sv fv:Value)(xs:List bQ)(φ:bQ->Prop)(g:bQ->Bool)(w:World)(B:DL w sv xs)(E:tN hH w fv φ g)(G:∀x∈xs,φ x)(I:xs.length<=1073741824):CR 282 [sv,fv] w (λv w'=>v=.bool (xs.any g)/\Ext w w'):=by
 have u:=St.start w;refine eZ Tryz.func282 ?_;exact aV aoY u (C309 _ _ _ _ _ _ (B.ext u.aG) (E.ext u.aG) G bO) (λ_ _ u=>cR ⟨vb (kX _ _),u.aG⟩)
theorem C284(lv:Value)(xs:List bQ)(loops:Int)(N:Nat)(w:World)(hL:DL w lv xs)(hn:xs.length<=40)(hlo:0<=loops)(Om:loops+N<=4194304)(hN:xs.length<N):CR 284 [lv,hZ loops] w (λv w'=>v=hZ (fE xs loops)/\Ext w w'):=by
 have E:=St.start w;refine ads _ _ _ _ ?_;unfold S284;refine⟨λm y x w1=>∃(k:Nat) (n:Int),y=hZ n/\x=hZ (k:Int)/\m=xs.length-k/\k<=xs.length/\0<=n/\n<=41/\fE xs loops=sE n (fE (xs.drop k) loops)/\St w aZ [] w1,⟨_,0,0,rfl,rfl,rfl,bO,bO,bO,by have:=tO xs loops;rw[List.drop_zero];unfold sE;split<;>omega,E⟩,?_⟩;rintro m _ _ w1 ⟨k,n,rfl,rfl,rfl,hk,VG,Xe,hinv,E⟩ _;obtain⟨y9,I,J⟩:=hL.open;have hn4:=J.1;refine aK fq (I.ext E.aG) (aR (aC (λeu=>?_) λeu=>?_))
 .obtain⟨lX,ik⟩:=gx y9 (i:=(k:Int).toNat) bO;obtain⟨u,lH⟩:=gx xs (i:=(k:Int).toNat) bO;obtain⟨M,O,rfl,Ss,Su⟩:=J.2 _ _ _ ik lH;refine aQ fq I bO ik (λ_ lT=>?_);have hdk:=drop_cons (xs:=xs) (k:=k) lH;rw[hdk]at hinv;have EU:(xs.drop (k+1)).length=xs.length-(k+1):=rf;refine aD eN (lT.ext E.aG) (aM E jA λY _ E=>have E:=E.enc (cs':=kp (⟨0,(kE #[]),(kE #[]),bW,bW,0,0,0,0⟩:bE)) rfl;aJ (x:=(⟨u.kind,u.eG,u.name,M,O,u.n,u.body,u.ey,u.at_⟩:bE)) E eN rfl rfl λ_ E=>aO bO (aA iY (aB (v:=hZ u.body) bL E.hb rfl (uO ?_))))
  obtain⟨W1,Z⟩:∃W,W=BM (((k:Int)+1)+u.body):=⟨_,rfl⟩;rw[<- Z];refine aA iI (aB (v:=hZ u.ey) bL E.hb rfl (uO ?_));obtain⟨U,V⟩:∃W,W=BM (W1+u.ey):=⟨_,rfl⟩;rw[<- V];refine⟨λG w'=>G=.bool (Bk.zL u)/\St w aZ [bY Y (kp (⟨u.kind,u.eG,u.name,M,O,u.n,u.body,u.ey,u.at_⟩:bE))] w',aA dO (aB (v:=hZ u.kind) bL E.hb rfl (aH (aC (λ_=>⟨vb (by unfold Bk.zL;grind),E⟩) λ_=>aA dO (aB (v:=hZ u.kind) bL E.hb rfl (aH ⟨vb (by unfold Bk.zL;grind),E⟩))))),?_⟩
  rintro _ _ ⟨rfl,E⟩ _;refine⟨λG w'=>G=.bool (decide (u.body<0\/u.ey<0\/(xs.length:Int)<u.body\/(xs.length:Int)<u.ey\/(xs.length:Int)<U))/\St w aZ [bY Y (kp (⟨u.kind,u.eG,u.name,M,O,u.n,u.body,u.ey,u.at_⟩:bE))] w',aA iY (aB (v:=hZ u.body) bL E.hb rfl (aR (aC (λ_=>⟨vb cL,E⟩) λxj=>?_))),?_⟩
  .refine aA iI (aB (v:=hZ u.ey) bL E.hb rfl (aR ?_));exact aC (λ_=>⟨vb cL,E⟩) (λ_=>aA iY (aB (v:=hZ u.body) bL E.hb rfl (aK fq (I.ext E.aG) (cN (aC (λ_=>⟨vb cL,E⟩) λ_=>aA iI (aB (v:=hZ u.ey) bL E.hb rfl (aK fq (I.ext E.aG) (cN (aC (λ_=>⟨vb cL,E⟩) λ_=>aK fq (I.ext E.aG) (cN ⟨vb cL,E⟩))))))))))
  rintro _ _ ⟨rfl,E⟩ _;refine aY (λo9=>?_) (λo9=>?_)
  .have hW:0<=u.body/\u.body<=40/\0<=u.ey/\u.ey<=40->U=(k:Int)+1+u.body+u.ey:=λh=>by
    have h1:W1=(k:Int)+1+u.body:=by rw[Z];exact zF bO
    rw[V,zF bO];omega
   exact⟨gQ (n3 .i64) (Ji hinv (by unfold uU;grind)).symm,E.drop.aG⟩
  have hq:=g6 o9
  have hW:U=(k:Int)+1+u.body+u.ey:=by
   have h1:W1=(k:Int)+1+u.body:=by rw[Z];exact zF bO
   rw[V,zF bO];omega
  have oO:uU u (xs.drop (k+1)):=by unfold uU;omega
  refine⟨λG w'=>G=.bool (!Bk.yo u loops)/\St w aZ [bY Y (kp (⟨u.kind,u.eG,u.name,M,O,u.n,u.body,u.ey,u.at_⟩:bE))] w',⟨λG w'=>G=.bool (!Bk.zL u&&decide (0<u.body))/\St w aZ [bY Y (kp (⟨u.kind,u.eG,u.name,M,O,u.n,u.body,u.ey,u.at_⟩:bE))] w',bR (aY (λ_=>aA iY (aB (v:=hZ u.body) bL E.hb rfl (cN ⟨vb cL,E⟩))) λ_=>⟨vb cL,E⟩),?_⟩,?_⟩
  .rintro _ _ ⟨rfl,E⟩ _;refine aY (λ_=>⟨vb (by unfold Bk.yo;unfold Bk.zL at *;grind),E⟩) (λagj=>⟨λG w'=>G=.bool (decide (¬ u.kind=11/\0<u.ey))/\St w aZ [bY Y (kp (⟨u.kind,u.eG,u.name,M,O,u.n,u.body,u.ey,u.at_⟩:bE))] w',aA dO (aB (v:=hZ u.kind) bL E.hb rfl (bX (aC (λ_=>aA iI (aB (v:=hZ u.ey) bL E.hb rfl (cN ⟨vb cL,E⟩))) λ_=>⟨vb cL,E⟩))),?_⟩);rintro _ _ ⟨rfl,E⟩ _;exact aY (λ_=>⟨vb (by unfold Bk.yo;unfold Bk.zL at *;grind),E⟩) (λ_=>aA dO (aB (v:=hZ u.kind) bL E.hb rfl (aH (aC (λ_=>aH ⟨vb (by unfold Bk.yo;unfold Bk.zL at *;grind),E⟩) λ_=>⟨vb (by unfold Bk.yo;unfold Bk.zL at *;grind),E⟩))))
  rintro _ _ ⟨rfl,E⟩ _;refine aY (λ_=>⟨gQ (n3 .i64) (Ji hinv cL).symm,E.drop.aG⟩) (λate=>?_);have kG:Bk.yo u loops=true:=cL
  have aie:=oO;unfold uU at aie;refine⟨λG w'=>∃n':Int,G=hZ n'/\0<=n'/\n'<=41/\fE xs loops=sE n' (fE (xs.drop (k+1+(u.body.toNat+u.ey.toNat))) loops)/\St w aZ [bY Y (kp (⟨u.kind,u.eG,u.name,M,O,u.n,u.body,u.ey,u.at_⟩:bE))] w',aY (λCk=>?_) (λCk=>?_),?_⟩
  .have hb01:=YA u loops;have hbb:=ap7 (decide (u.kind=12));have hcA:((xs.take (((k:Int)+1)+u.body).toNat).drop ((k:Int)+1).toNat)=(xs.drop (k+1)).take u.body.toNat:=vB xs bO bO;have hcB:((xs.take U.toNat).drop (((k:Int)+1)+u.body).toNat)=((xs.drop (k+1)).drop u.body.toNat).take u.ey.toNat:=by rw[tj];exact vB xs bO bO
   have hlA:((xs.take (((k:Int)+1)+u.body).toNat).drop ((k:Int)+1).toNat).length<=xs.length-1/\((xs.take (((k:Int)+1)+u.body).toNat).drop ((k:Int)+1).toNat).length<=40:=by rw[hcA,l2];omega
   have hlB:((xs.take U.toNat).drop (((k:Int)+1)+u.body).toNat).length<=xs.length-1/\((xs.take U.toNat).drop (((k:Int)+1)+u.body).toNat).length<=40:=by rw[hcB,l2,rf];omega
   refine aA dO (aB (v:=hZ u.kind) bL E.hb rfl (aH (aV Wo E (C302 _ _) λ_ he E=>aO bO (aO bO (aO bO (aA iY (have E:=E.drew;aB (v:=hZ u.body) bL E.hb rfl (aO bO (oB fq (I.ext E.aG) bO bO bO λawP adN=>?_)))))))));have adO:=DL.cut adN I J;refine aO bO (aA iY (aB (v:=hZ u.body) bL E.hb rfl (aO bO (oB fq (I.ext E.aG) bO bO bO λawQ adP=>?_))));have adQ:=DL.cut adP I J
   refine aV XV E (C284 _ _ _ (N-1) _ (adO.ext E.aG) bO bO bO bO) (λ_ he E=>?_);refine⟨aF bL (E.hb.cell rfl),?_⟩;refine dM XV (C284 _ _ _ (N-1) _ (adQ.ext E.aG) bO bO bO bO) ?_;rintro _ _ ⟨rfl,he⟩;have E:=E.ext he;obtain⟨A,hA⟩:∃A,A=fE ((xs.take (((k:Int)+1)+u.body).toNat).drop ((k:Int)+1).toNat) (Bk.DH u loops):=⟨_,rfl⟩;obtain⟨B,hB⟩:∃B,B=fE ((xs.take U.toNat).drop (((k:Int)+1)+u.body).toNat) (Bk.DH u loops):=⟨_,rfl⟩;have hAb:=tO ((xs.take (((k:Int)+1)+u.body).toNat).drop ((k:Int)+1).toNat) (Bk.DH u loops)
   have hBb:=tO ((xs.take U.toNat).drop (((k:Int)+1)+u.body).toNat) (Bk.DH u loops);rw[<- hA]at hAb;rw[<- hB]at hBb;rw[YA,<- hA,<- hB];have T5:=Xo hinv oO kG Ck A B (by rw[hA,hcA]) (by rw[hB,hcB]);refine⟨λG w'=>G=.bool (decide (A<0\/B<0))/\St w aZ [bY Y (kp (⟨u.kind,u.eG,u.name,M,O,u.n,u.body,u.ey,u.at_⟩:bE))] w',aH (aC (λ_=>⟨vb cL,E⟩) λ_=>aH ⟨vb cL,E⟩),?_⟩;rintro _ _ ⟨rfl,E⟩ _;refine aY (λPR=>⟨gQ (n3 .i64) (T5.1 (gR PR)).symm,E.drop.aG⟩) (λPR=>aO bO (aO bO (LA ?_)))
   have Xq:=T5.2 (g6 PR);rw[tj,abC 1 A,abC 1 B]at Xq;exact⟨_,rfl,bO,bO,Xq,E⟩
  .have hdn:=agh hinv oO kG Ck;rw[tj]at hdn;exact⟨_,rfl,VG,Xe,hdn,E⟩
  rintro _ _ ⟨n',rfl,aii,aij,Xr,E⟩ _;exact⟨_,bO,k+1+(u.body.toNat+u.ey.toNat),n',rfl,gQ (n3 .i64) bO,rfl,bO,aii,aij,Xr,E.drop⟩
 rw[vM bO,B9]at hinv;exact⟨gQ (n3 .i64) (by rw[hinv];unfold sE;omega),E.aG⟩
termination_by N
decreasing_by all_goals omega
theorem Mv(xs:List bQ):pQ xs=(!(decide (40<xs.length)||xs.any λy=>!nf y)&&decide (¬ fE xs 0 = -1/\fE xs 0<=12)):=by
 have:=tO xs 0
 grind[pQ,nf,fE]
def C241(lv:Value)(xs:List bQ)(w:World)(G:DL w lv xs)(hn:xs.length<=1048576)(W:∀x∈xs,x.e.length<=1048576/\x.f.length<=1048576):CR 241 [lv] w (λv w'=>v=.bool (pQ xs)/\Ext w w'):=by
 have u:=St.start w;refine eZ Tryz.func241 ?_;refine⟨λI w'=>I=.bool (decide (40<xs.length)||xs.any λy=>!nf y)/\St w aZ [] w',?_,?_⟩
 .obtain⟨O,B,J⟩:=G.open;have DP:=J.1;exact aK fq (B.ext u.aG) (cN (aC (λ_=>⟨vb cL,u⟩) λ_=>aV aoX u (C282 _ _ _ (λx=>x.e.length<=1048576/\x.f.length<=1048576) _ _ (G.ext u.aG) ⟨283,[],[],rfl,aoO,λsv y V _ U M=>C283 y sv V U M.1 M.2⟩ W bO) λ_ _ u=>⟨vb cL,u⟩))
 rintro _ _ ⟨rfl,u⟩ _;refine aY (λE=>?_) (λE=>?_)
 .refine⟨vb ?_,u.aG⟩;rw[Mv,E];rfl
 have Y:xs.length<=40:=cL
 refine aV XV u (C284 _ _ _ (xs.length+1) _ (G.ext u.aG) bO bO bO bO) (λ_ Z u=>⟨λI w'=>I=.bool (decide (¬ fE xs 0 = -1/\fE xs 0<=12))/\St w aZ [] w',bX (aC (λ_=>gZ ⟨vb cL,u⟩) λ_=>⟨vb cL,u⟩),?_⟩);rintro _ _ ⟨rfl,u⟩ _;refine⟨vb ?_,u.aG⟩;rw[Mv,E];rfl
def JA(t:cO):Bool:=rJ t.at_&&!t.dQ.any (λs=>!gN s)&&pQ t.body
theorem Sv(t:cO):(!gN t.name||!JA t)=mG true t:=by
 unfold mG sF JA
 grind
theorem Sw(t:cO):(decide (¬ t.name=⟨#[]⟩)||!JA t)=mG false t:=by
 unfold mG sF JA
 by_cases h:t.name=⟨#[]⟩
 .rw[h,show gN (⟨#[]⟩:ByteArray)=false from dD]
  grind
 grind
theorem Mw(p:cB):(!(p.lines.any nU||!n8 4294967296 p.iR||!n8 0 p.eK||decide (1<p.recover.length))&&(!p.threads.any (mG true)&&!p.recover.any (mG false)&&!p.dT.any lU))=ky p:=by
 unfold ky nP
 grind
def SzS.ok{xs:List bQ}(h:∀x∈xs,SzS x):∀x∈xs,x.e.length<=1048576/\x.f.length<=1048576:=λx u=>⟨(h x u).2.2.1,(h x u).2.2.2.1⟩
def C184(n:Int)(w:World):CR 184 [hZ n] w (λv w'=>v=.bool (rJ n)/\Ext w w'):=by
 have E:=St.start w;refine eZ Tryz.func184 ?_;refine⟨λu w'=>u=.bool (decide (0<=n/\n<=4000))/\w=w',cR (aC (λ_=>gZ ⟨yN bO,rfl⟩) λ_=>⟨jvF bO,rfl⟩),?_⟩;rintro _ _ ⟨rfl,B⟩ _;subst B;exact⟨rfl,E.aG⟩
def C233(c:cK)(b2:Nat)(E:Int)(w:World)(hc:Cell w b2 0 (hZ E)):CR 233 [j0 c,.pointer (some ⟨b2,0,none⟩)] w (λv w'=>v=.bool (iS E c)/\Ext w w'):=by
 have u:=St.start w;refine eZ Tryz.func233 ?_;refine cG u (λB _ u=>⟨λG w'=>G=.bool (iS E c)/\St w aZ [bY B (kp c)] w',aA kS (aB (v:=.string c.name) gA u.hb rfl (aV LR u (C180 _ _) λ_ I u=>bR (aY (λ_=>⟨vb (by unfold iS;grind),u⟩) λJ=>?_))),?_⟩)
 .exact aA sg (aB (v:=hZ c.n) bL u.hb rfl (aR (aC (λ_=>⟨vb (by unfold iS;grind),u⟩) λ_=>aA sg (aB (v:=hZ c.n) bL u.hb rfl (bN bL (hc.ext u.aG) (cN (aC (λ_=>⟨vb (by unfold iS;grind),u⟩) λ_=>aA uL (aB (v:=hZ c.at_) bL u.hb rfl (aV XX u (C184 _ _) λ_ _ u=>bR ⟨vb (by unfold iS;grind),u⟩)))))))))
 rintro _ _ ⟨rfl,u⟩ _;exact⟨rfl,u.drop.aG⟩
def C279(sv fv:Value)(xs:List cK)(g:cK->Bool)(w:World)(J:dA (λ_=>True) w sv xs)(U:wB w fv g)(Z:xs.length<=1073741824):CR 279 [sv,fv] w (λv w'=>v=hZ (sC g xs)/\Ext w w'):=by
 obtain⟨g0,first,cap,rfl,O,W⟩:=U;have u:=St.start w;refine eZ Tryz.func279 ?_;refine aK iu (J.ext u.aG) ?_;refine⟨λm x I=>∃k:Nat,x=hZ (k:Int)/\m=xs.length-k/\k<=xs.length/\(∀y∈xs.take k,g y=false)/\St w aZ [] I,⟨_,0,rfl,rfl,l6 _,ee,u⟩,?_⟩;rintro m _ I ⟨k,rfl,rfl,hk,B,u⟩ _;refine aR (aC (λjL=>?_) λ_=>⟨gQ (n3 .i64) (jg (by rw[ld bO]at B;exact B)).symm,u.aG⟩);obtain⟨V,G⟩:=gx xs (i:=(k:Int).toNat) bO;refine aQ iu J bO G (λ_ Y=>aD mf (Y.ext u.aG) (gW O (W V I u.aG) ?_))
 rintro _ _ ⟨rfl,M⟩;have u:=u.ext M;exact aY (λE=>⟨gQ (n3 .i64) (mh B G E).symm,u.aG⟩) (λE=>aO bO ⟨xs.length-(k+1),bO,k+1,rfl,rfl,bO,dY B G E,u⟩)
def C232(sv fv:Value)(xs:List cK)(g:cK->Bool)(w:World)(B:dA (λ_=>True) w sv xs)(E:wB w fv g)(G:xs.length<=1073741824):CR 232 [sv,fv] w (λv w'=>v=.bool (xs.any g)/\Ext w w'):=by
 have u:=St.start w;refine eZ Tryz.func232 ?_;exact aV ao0 u (C279 _ _ _ _ _ (B.ext u.aG) (E.ext u.aG) bO) (λ_ _ u=>cR ⟨vb (kX _ _),u.aG⟩)
def C178(lv:Value)(xs:List cK)(B:Int)(w:World)(M:dA (λ_=>True) w lv xs)(O:xs.length<=1048576):CR 178 [lv,hZ B] w (λv w'=>v=.bool (n8 B xs)/\Ext w w'):=by
 have u:=St.start w;refine eZ Tryz.func178 ?_;refine nA u rfl (λG I u=>?_)
 have E:wB _ (.func (.func 233) [].toArray [.pointer (some ⟨G,0,none⟩)].toArray) (iS B):=
  ⟨233,[],_,rfl,aoV,λy I J=>C233 y G B I ((u.hb.cell rfl).ext J)⟩
 exact aV aoZ u (C232 _ _ _ _ _ (M.ext u.aG) E bO) (λ_ _ u=>bR ⟨rfl,u.drop.aG⟩)
def C239(s:ByteArray)(w:World):CR 239 [.string s] w (λv w'=>v=.bool (!gN s)/\Ext w w'):=by
 have u:=St.start w;refine eZ Tryz.func239 ?_;exact aV LR u (C180 _ _) (λ_ _ u=>bR ⟨rfl,u.aG⟩)
def C181(t:cO)(E:cH)(w:World)(ht:ml w E t)(W:Xp t/\t.dQ.length<=500/\t.body.length<=500):CR 181 [j0 E] w (λv w'=>v=.bool (JA t)/\Ext w w'):=by
 obtain⟨I,O,rfl,M,U⟩:=ht;have u:=St.start w;refine eZ Tryz.func181 ?_;refine cG u (λJ G u=>⟨λV w'=>V=.bool (JA t)/\St w aZ [bY J (kp (⟨t.name,I,O,t.at_⟩:cH))] w',aA qy (aB (v:=hZ t.at_) bL u.hb rfl (aV XX u (C184 _ _) λ_ Y u=>aY (λZ=>?_) λ_=>⟨vb (by unfold JA;grind),u⟩)),?_⟩)
 .refine aA fT (aB jj u.hb rfl ?_);have B:=DL.flat M;exact aV agq u (C240 _ _ _ (λs=>!gN s) _ (B.ext u.aG) ⟨239,[],[],rfl,aoW,λy G _=>C239 y G⟩ bO) (λ_ _ u=>bR (aY (λ_=>aA lL (aB jR u.hb rfl (aV aoP u (C241 _ _ _ (U.ext u.aG) bO (SzS.ok W.1.2.2)) λ_ _ u=>⟨vb (by unfold JA;grind),u⟩))) λ_=>⟨vb (by unfold JA;grind),u⟩))
 rintro _ _ ⟨rfl,u⟩ _;exact⟨rfl,u.drop.aG⟩
def C179(t:cO)(G:cH)(w:World)(ht:ml w G t)(O:Xp t/\t.dQ.length<=500/\t.body.length<=500):CR 179 [j0 G] w (λv w'=>v=.bool (mG true t)/\Ext w w'):=by
 obtain⟨B,E,rfl,M,U⟩:=ht;have u:=St.start w;refine eZ Tryz.func179 ?_;refine cG u (λJ _ u=>⟨λI w'=>I=.bool (mG true t)/\St w aZ [bY J (kp (⟨t.name,B,E,t.at_⟩:cH))] w',aA qx (aB (v:=.string t.name) gA u.hb rfl (aV LR u (C180 _ _) λ_ _ u=>bR (aY (λ_=>⟨vb (by rw[<- Sv];grind),u⟩) λ_=>aD nc u.At (aV agB u (C181 t _ _ ⟨B,E,rfl,(M.ext u.aG),(U.ext u.aG)⟩ O) λ_ _ u=>bR ⟨vb (by rw[<- Sv];grind),u⟩)))),?_⟩);rintro _ _ ⟨rfl,u⟩ _;exact⟨rfl,u.drop.aG⟩
def C182(t:cO)(G:cH)(w:World)(ht:ml w G t)(O:Xp t/\t.dQ.length<=500/\t.body.length<=500):CR 182 [j0 G] w (λv w'=>v=.bool (mG false t)/\Ext w w'):=by
 obtain⟨B,E,rfl,M,U⟩:=ht;have u:=St.start w;refine eZ Tryz.func182 ?_;refine cG u (λJ _ u=>⟨λI w'=>I=.bool (mG false t)/\St w aZ [bY J (kp (⟨t.name,B,E,t.at_⟩:cH))] w',aA qx (aB (v:=.string t.name) gA u.hb rfl (ma (aC (λ_=>⟨vb (by rw[<- Sw];grind),u⟩) λ_=>aD nc u.At (aV agB u (C181 t _ _ ⟨B,E,rfl,(M.ext u.aG),(U.ext u.aG)⟩ O) λ_ _ u=>bR ⟨vb (by rw[<- Sw];grind),u⟩)))),?_⟩);rintro _ _ ⟨rfl,u⟩ _;exact⟨rfl,u.drop.aG⟩
def C177(lv:Value)(xs:List cK)(w:World)(B:dA (λ_=>True) w lv xs)(G:xs.length<=1048576):CR 177 [lv] w (λv w'=>v=.bool (nU xs)/\Ext w w'):=by
 have u:=St.start w;refine eZ Tryz.func177 ?_;refine⟨λE w'=>E=.bool (nU xs)/\St w aZ [] w',aK iu (B.ext u.aG) (aH (aC (λ_=>⟨vb (by unfold nU;grind),u⟩) λ_=>aV XW u (C178 _ _ _ _ (B.ext u.aG) bO) λ_ _ u=>bR ⟨vb (by unfold nU;grind),u⟩)),?_⟩;rintro _ _ ⟨rfl,u⟩ _;exact⟨rfl,u.aG⟩
def C183(c:gS)(cv:jC)(w:World)(hc:ml w cv c)(O:c.e.length<=1048576):CR 183 [j0 cv] w (λv w'=>v=.bool (lU c)/\Ext w w'):=by
 obtain⟨G,rfl,I⟩:=hc;have u:=St.start w;refine eZ Tryz.func183 ?_;refine cG u (λE _ u=>⟨λJ w'=>J=.bool (lU c)/\St w aZ [bY E (kp (⟨G,c.at_⟩:jC))] w',aA I3 (aB (v:=hZ c.at_) bL u.hb rfl (aV XX u (C184 _ _) λ_ M u=>bR (aY (λ_=>⟨vb (by unfold lU;grind),u⟩) λU=>?_))),?_⟩)
 .refine aA vu (aB jz u.hb rfl ?_);have B:=DL.flat I;exact aV Sa u (C185 _ _ _ (B.ext u.aG) bO) (λ_ _ u=>bR ⟨vb (by unfold lU;grind),u⟩)
 rintro _ _ ⟨rfl,u⟩ _;exact⟨rfl,u.drop.aG⟩
def C247(sv fv:Value)(xs:List (List cK))(φ:(List cK)->Prop)(g:(List cK)->Bool)(w:World)(hL:DL w sv xs)(hf:tN hH w fv φ g)(Z:∀x∈xs,φ x)(hn:xs.length<=1073741824):CR 247 [sv,fv] w (λv w'=>v=hZ (sC g xs)/\Ext w w'):=by
 obtain⟨g0,first,cap,rfl,nz,j7⟩:=hf;have u:=St.start w;refine eZ Tryz.func247 ?_;obtain⟨M,B,G⟩:=hL.open;have hn8:=G.1;refine aK pL (B.ext u.aG) ?_;refine⟨λm x U=>∃k:Nat,x=hZ (k:Int)/\m=xs.length-k/\k<=xs.length/\(∀y∈xs.take k,g y=false)/\St w aZ [] U,⟨_,0,rfl,rfl,l6 _,ee,u⟩,?_⟩;rintro m _ U ⟨k,rfl,rfl,hk,J,u⟩ _;refine aR (aC (λjL=>?_) λ_=>⟨gQ (n3 .i64) (jg (by rw[ld bO]at J;exact J)).symm,u.aG⟩);obtain⟨iy,W⟩:=gx M (i:=(k:Int).toNat) bO;obtain⟨V,I⟩:=gx xs (i:=(k:Int).toNat) bO
 have E:DL w (j0 iy) V:=G.2 _ _ _ W I;refine aQ pL B bO W (λ_ ij=>aD jO (ij.ext u.aG) ?_);have hf9:=DL.flat E;refine gW nz (j7 _ V U u.aG (E.ext u.aG) (Z _ (la I))) ?_;rintro _ _ ⟨rfl,Y⟩;have u:=u.ext Y;exact aY (λO=>⟨gQ (n3 .i64) (mh J I O).symm,u.aG⟩) (λO=>aO bO ⟨_,bO,k+1,rfl,rfl,bO,dY J I O,u⟩)
def C186(sv fv:Value)(xs:List (List cK))(φ:(List cK)->Prop)(g:(List cK)->Bool)(w:World)(B:DL w sv xs)(E:tN hH w fv φ g)(G:∀x∈xs,φ x)(I:xs.length<=1073741824):CR 186 [sv,fv] w (λv w'=>v=.bool (xs.any g)/\Ext w w'):=by
 have u:=St.start w;refine eZ Tryz.func186 ?_;exact aV ao1 u (C247 _ _ _ _ _ _ (B.ext u.aG) (E.ext u.aG) G bO) (λ_ _ u=>cR ⟨vb (kX _ _),u.aG⟩)
def C248(sv fv:Value)(xs:List cO)(φ:cO->Prop)(g:cO->Bool)(w:World)(hL:DL w sv xs)(hf:tN hH w fv φ g)(hφ:∀x∈xs,φ x)(hn:xs.length<=1073741824):CR 248 [sv,fv] w (λv w'=>v=hZ (sC g xs)/\Ext w w'):=by
 obtain⟨g0,first,cap,rfl,nz,j7⟩:=hf;have u:=St.start w;refine eZ Tryz.func248 ?_;obtain⟨M,E,B⟩:=hL.open;have U:=B.1;refine aK fx (E.ext u.aG) ?_;refine⟨λm x O=>∃k:Nat,x=hZ (k:Int)/\m=xs.length-k/\k<=xs.length/\(∀y∈xs.take k,g y=false)/\St w aZ [] O,⟨_,0,rfl,rfl,l6 _,ee,u⟩,?_⟩;rintro m _ O ⟨k,rfl,rfl,hk,I,u⟩ _;refine aR (aC (λjL=>?_) λ_=>⟨gQ (n3 .i64) (jg (by rw[ld bO]at I;exact I)).symm,u.aG⟩);obtain⟨iy,V⟩:=gx M (i:=(k:Int).toNat) bO;obtain⟨Y,G⟩:=gx xs (i:=(k:Int).toNat) bO
 obtain⟨PU,Z,rfl,PW,PX⟩:=B.2 _ _ _ V G;refine aQ fx E bO V (λ_ ij=>aD nc (ij.ext u.aG) (gW nz (j7 _ Y O u.aG ⟨PU,Z,rfl,(PW.ext u.aG),(PX.ext u.aG)⟩ (hφ _ (la G))) ?_));rintro _ _ ⟨rfl,W⟩;have u:=u.ext W;exact aY (λJ=>⟨gQ (n3 .i64) (mh I G J).symm,u.aG⟩) (λJ=>aO bO ⟨_,bO,k+1,rfl,rfl,bO,dY I G J,u⟩)
def C187(sv fv:Value)(xs:List cO)(φ:cO->Prop)(g:cO->Bool)(w:World)(B:DL w sv xs)(E:tN hH w fv φ g)(G:∀x∈xs,φ x)(I:xs.length<=1073741824):CR 187 [sv,fv] w (λv w'=>v=.bool (xs.any g)/\Ext w w'):=by
 have u:=St.start w;refine eZ Tryz.func187 ?_;exact aV ao2 u (C248 _ _ _ _ _ _ (B.ext u.aG) (E.ext u.aG) G bO) (λ_ _ u=>cR ⟨vb (kX _ _),u.aG⟩)
def C249(sv fv:Value)(xs:List gS)(φ:gS->Prop)(g:gS->Bool)(w:World)(hL:DL w sv xs)(hf:tN hH w fv φ g)(Z:∀x∈xs,φ x)(hn:xs.length<=1073741824):CR 249 [sv,fv] w (λv w'=>v=hZ (sC g xs)/\Ext w w'):=by
 obtain⟨g0,first,cap,rfl,nz,j7⟩:=hf;have u:=St.start w;refine eZ Tryz.func249 ?_;obtain⟨G,M,U⟩:=hL.open;have W:=U.1;refine aK tn (M.ext u.aG) ?_;refine⟨λm x J=>∃k:Nat,x=hZ (k:Int)/\m=xs.length-k/\k<=xs.length/\(∀y∈xs.take k,g y=false)/\St w aZ [] J,⟨_,0,rfl,rfl,l6 _,ee,u⟩,?_⟩;rintro m _ J ⟨k,rfl,rfl,hk,E,u⟩ _;refine aR (aC (λjL=>?_) λ_=>⟨gQ (n3 .i64) (jg (by rw[ld bO]at E;exact E)).symm,u.aG⟩);obtain⟨iy,O⟩:=gx G (i:=(k:Int).toNat) bO;obtain⟨Y,B⟩:=gx xs (i:=(k:Int).toNat) bO
 obtain⟨Jy,rfl,Jz⟩:=U.2 _ _ _ O B;refine aQ tn M bO O (λ_ ij=>aD I2 (ij.ext u.aG) (gW nz (j7 _ Y J u.aG ⟨Jy,rfl,(Jz.ext u.aG)⟩ (Z _ (la B))) ?_));rintro _ _ ⟨rfl,V⟩;have u:=u.ext V;exact aY (λI=>⟨gQ (n3 .i64) (mh E B I).symm,u.aG⟩) (λI=>aO bO ⟨_,bO,k+1,rfl,rfl,bO,dY E B I,u⟩)
def C188(sv fv:Value)(xs:List gS)(φ:gS->Prop)(g:gS->Bool)(w:World)(B:DL w sv xs)(E:tN hH w fv φ g)(G:∀x∈xs,φ x)(I:xs.length<=1073741824):CR 188 [sv,fv] w (λv w'=>v=.bool (xs.any g)/\Ext w w'):=by
 have u:=St.start w;refine eZ Tryz.func188 ?_;exact aV ao4 u (C249 _ _ _ _ _ _ (B.ext u.aG) (E.ext u.aG) G bO) (λ_ _ u=>cR ⟨vb (kX _ _),u.aG⟩)
def C108(p:cB)(pv:bP)(w:World)(E:ml w pv p)(B:PZ p):CR 108 [j0 pv] w (λv w'=>v=.bool (ky p)/\Ext w w'):=by
 obtain⟨bK,bU,bM,aW,aX,bG,rfl,cQ,dG,cW,cC,cD,cP⟩:=E;have u:=St.start w;refine eZ Tryz.func108 ?_;refine cG u (λku G u=>⟨λV w'=>V=.bool (p.lines.any nU||!n8 4294967296 p.iR||!n8 0 p.eK||decide (1<p.recover.length))/\St w aZ [bY ku (kp (⟨bK,bU,bM,aW,aX,bG⟩:bP))] w',aA gB (aB oS u.hb rfl (aV agC u (C186 _ _ _ (λl=>l.length<=1048576) _ _ (cQ.ext u.aG) ⟨177,[],[],rfl,aoR,λ_ y G _ I E=>C177 _ y G (DL.flat I) E⟩ (λl hl=>by have:=B.line l hl;omega) (by have:=B.lines;omega)) λ_ Y u=>aY (λ_=>⟨vb cL,u⟩) λjF=>?_)),?_⟩)
 .refine aA qi (aB jO u.hb rfl ?_);have M:=DL.flat dG;refine aV XW u (C178 _ _ _ _ (M.ext u.aG) (by have:=B.iR;omega)) (λ_ Y u=>bR (aY (λ_=>⟨vb cL,u⟩) λjs=>aA nT (aB jO u.hb rfl ?_)));have O:=DL.flat cW;refine aV XW u (C178 _ _ _ _ (O.ext u.aG) (by have:=B.eK;omega)) (λ_ Y u=>bR (aY (λ_=>⟨vb cL,u⟩) λft=>aA oT (aB iC u.hb rfl ?_)));have hzr:=B.recover;obtain⟨ts14,W,J⟩:=cD.open;have Z:=J.1;exact aK fx (W.ext u.aG) (cN ⟨vb cL,u⟩)
 rintro _ _ ⟨rfl,u⟩ _;refine aY (λU=>?_) (λU=>⟨λV w'=>V=.bool (!p.threads.any (mG true)&&!p.recover.any (mG false)&&!p.dT.any lU)/\St w aZ [bY ku (kp (⟨bK,bU,bM,aW,aX,bG⟩:bP))] w',?_,?_⟩)
 .refine⟨vb ?_,u.drop.aG⟩;rw[<- Mw,U];simp
 .refine aA kI ?_;exact aB iC u.hb rfl (aV XY u (C187 _ _ _ (λt=>Xp t/\t.dQ.length<=500/\t.body.length<=500) _ _ (cC.ext u.aG) ⟨179,[],[],rfl,aoS,λsv y G _ I E=>C179 y sv G I E⟩ (λ_ ht=>B.qZ (List.mem_append_left _ ht)) (by have:=B.threads;omega)) λ_ _ u=>bR (aY (λ_=>aA oT (aB iC u.hb rfl (aV XY u (C187 _ _ _ (λt=>Xp t/\t.dQ.length<=500/\t.body.length<=500) _ _ (cD.ext u.aG) ⟨182,[],[],rfl,aoT,λsv y G _ I E=>C182 y sv G I E⟩ (λ_ ht=>B.qZ (List.mem_append_right _ ht)) (by have:=B.recover;omega)) λ_ _ u=>bR (aY (λ_=>aA jx (aB qX u.hb rfl (aV ao3 u (C188 _ _ _ (λc=>c.e.length<=1048576) _ _ (cP.ext u.aG) ⟨183,[],[],rfl,aoU,λsv y G _ I E=>C183 y sv G I E⟩ (λc hc=>(B.zc c hc).1) (by have:=B.dT;omega)) λ_ _ u=>bR ⟨vb cL,u⟩))) λ_=>⟨vb cL,u⟩)))) λ_=>⟨vb cL,u⟩))
 rintro _ _ ⟨rfl,u⟩ _;refine⟨vb ?_,u.drop.aG⟩;rw[<- Mw,U];simp
variable (w:World) (K:Value->hM)
def S109(p0:Value):Prop:=
 rR hH (By 27 p0) w λp1 a=>fA 27 p1 3 λb=>lA 24 b a λc=>lN 24 c λd=>fg (λB=>fA 27 p1 0 λe=>lA 22 e a λf=>lN 22 f λg=>bB .gtr 3 g (i 4) λh=>
 cV h (B tt a) (fA 27 p1 0 λj=>lA 22 j a λk=>cF 186 [k,(.func (.func 189) #[] #[])] a λl n=>cV l (B tt n) (fA 27 p1 1 λo=>lA 23 o n λp=>lN 23 p λq=>bB .gtr 3 q (i 4) λr=>
 cV r (B tt n) (fA 27 p1 2 λs=>lA 23 s n λt=>lN 23 t λu=>bB .gtr 3 u (i 2) λv=>cV v (B tt n) (bB .eql 3 d (i 0) λx=>cV x (B tt n) (bB .gtr 3 d (i 3) λy=>
 cV y (B tt n) (lA 27 p1 n λz=>cF 110 [z] n λI G=>cF 187 [I,(.func (.func 190) #[] #[])] G λO E=>cV O (B tt E) (fA 27 p1 5 λJ=>lA 25 J E λW=>lN 25 W λV=>
 bB .gtr 3 V (i 4) λU=>B U E)))))))) (λY M=>∀_:Env,
 K Y M)
theorem adR(p0:Value)(h:S109 w K p0):CR 109 [p0] w K:=
 qW 51 (λ_=>.nil) 4 [.tmp 2] Tryz.func109 h
def S111(G J:Value):Prop:=
 kM (λE B a=>∀_:Env,
 lN 141 G λb=>bA .lss 3 B b λc=>cV c (iA 141 G B λd=>lA 193 d a λe=>aL 193 a λf g=>sA 193 f e g λh=>bB .add 3 B (i 1) λj=>fA 193 f 6 λk=>lA 3 k h λl=>
 bA .add 3 j l λn=>fA 193 f 7 λo=>lA 3 o h λp=>bA .add 3 n p λq=>fg (λK2=>fA 193 f 0 λr=>lA 3 r h λs=>bB .eql 3 s (i 12) λt=>cV t (fA 193 f 5 λu=>
 lA 3 u h λv=>bA .mul 3 J v λx=>K2 x h) (K2 J h)) (λM y=>∀_:Env,
 bB .gtr 3 M (i 64) λz=>cV z (fA 193 f 8 λV=>lA 3 V y λU=>K (.tuple #[U,tt]) y) (bB .add 3 B (i 1) λY=>eU hH (ob 141 G (some Y) (some q) none) λW=>
 cF 111 [W,M] y λI O=>xT I 0 λag=>xT I 1 λZ=>cV Z (K (.tuple #[ag,tt]) O) (E q O)))) (K (.tuple #[(i 0),ff]) a)) (λE=>E (i 0) w)
theorem adS(u B:Value)(h:S111 w K u B):CR 111 [u,B] w K:=
 qW 53 (λ_=>.nil) 48 [.tmp 4,.tmp 5] Tryz.func111 h
theorem Sy:PL 115:=dJ Tryz.func115
theorem Sz:PL 195:=dJ Tryz.func195
theorem awX:PL 50:=dJ Tryz.func50
theorem YD:PL 54:=dJ Tryz.func54
theorem aqc:PL 52:=dJ Tryz.func52
theorem awY:PL 51:=dJ Tryz.func51
theorem awZ:PL 55:=dJ Tryz.func55
theorem HD:PL 159:=dJ Tryz.func159
theorem SA:PL 110:=dJ Tryz.func110
theorem aqd:PL 109:=dJ Tryz.func109
theorem aqe:PL 189:=dJ Tryz.func189
theorem aqf:PL 190:=dJ Tryz.func190
theorem agR:PL 111:=dJ Tryz.func111
theorem aqg:PL 191:=dJ Tryz.func191
theorem aqh:PL 250:=dJ Tryz.func250
end Go.Proofs.YtpdlpabnlkofmaaGreatDoor
namespace Go.Fw
section
variable {α:Type}[Flat α] {P:Program}{w w0:World}{A:Nat->Prop}{L:List HP}
theorem Mx{T E O M R:Nat}{kn U:IntKind}{K:Value->hM}(Y:St w0 A L w)(ht:VA P T E (m8 α) O)(hk:P.underlying M=some (.int kn))(h1:1<=m8 α)(n:Nat)(V:0<n)(J:n<=1048576)(W:O<=8192)
  (k:∀b cap w',n<=cap->St w0 A (bH (.slice (some ⟨b,0,none⟩) 0 cap) ([]:List α)::L) w'->K (.slice (some ⟨b,0,none⟩) n cap) w'):rR P (Builtin.append_ #[T,M] R [.slice none 0 0,.int U (n:Int)].toArray) w K:=by
 obtain⟨Z,u,hi,oO,wP,B⟩:=fp ht
 obtain⟨z,hz,I⟩:∃z,u.zero=some z/\z.cells.size=m8 α:=by
  cases h:u.zero with
  | none=>rw[h]at B;cases B
  | some z=>rw[h]at B;exact⟨z,rfl,by simpa using B⟩
 have G:n*u.bytes<=281474976710656:=by
  have:=Nat.mul_le_mul J (show u.bytes<=8192 by omega)
  omega
 have hr:=Lib.run_append_nil_zeros (P:=P) w T M R E u z U kn Z hk hi hz n V bO bO G
 have OQ:=grownCap_ge w n 0 E
 refine⟨_,_,hr,k _ _ _ bO ?_⟩
 refine Y.drew.new (F:=(· = w.heap.size)) (Ext.alloc _ _) (.inr ⟨_,_,(Builtin.zeroCells z.cells n++Builtin.zeroCells z.cells (grownCap w n 0 E-n)).toList,rfl,?_,?_,λ_=>Iff.rfl⟩) λb hb=>AU hb.symm
 .exact⟨E,by rw[show flat ([]:List α)=[]from rfl,tx,Array.toArray_toList];exact mu _ _⟩
 refine⟨l6 _,AU (Eq.symm ?_)⟩
 show([]++_).length=_
 rw[tx,Array.length_toList,Array.size_append,size_zeroCells,size_zeroCells,I,<- Nat.add_mul]
 congr 1;omega
theorem My{T E sz B R n c:Nat}{z:Option Nat}{a:Option Addr}{K:Value->Prop}(ht:eQ P T=some (E,sz,B,z))(k:K (hZ (c:Int))):eU P (Builtin.cap_ #[T] R [Value.slice a n c].toArray) K:=by
 obtain⟨u,_⟩:=fp ht
 refine⟨_,?_,k⟩
 unfold Builtin.cap_
 simp[cX,cZ u]
 rfl
theorem Mz{T E sz u n c:Nat}{z:Option Nat}{a:Option Addr}{K:Value->Prop}(ht:eQ P T=some (E,sz,u,z))(B:a.map (·.add (0*sz))=a)(k:K (.slice a 0 c)):eU P (ob T (.slice a n c) none (some (hZ 0)) none) K:=by
 refine⟨_,wO ht (oy (.inl ⟨rfl,rfl⟩) (.inr ⟨0,rfl,Int.le_refl _,rfl⟩) (pb _) (l6 _)),?_⟩
 grind
end
end Go.Fw
namespace Go.Proofs.YtpdlpabnlkofmaaGreatDoor
open Go.Fw
theorem xB{α:Type}{ls:List (List α)}{k:Nat}{l:List α}(h:ls[k]?=some l):(ls.take (k+1)).flatten=(ls.take k).flatten++l:=by
 rw[<- gM h];simp
def JB{α:Type}(ls:List (List α))(k:Nat):(ls.take k).flatten.length<=ls.flatten.length:=by
 conv=>rhs;rw[<- qa k ls,List.flatten_append,l1]
 omega
def agS{α:Type}[Flat α](w:World):dA (λ_=>True) w (.slice none 0 0) ([]:List α):=⟨none,0,rfl,l6 _,.inl ⟨rfl,rfl⟩⟩
def C250(n:Nat)(w:World)(I:n<=1048576):CR 250 [.slice none 0 0,hZ (n:Int)] w (λv w'=>kV (bH v ([]:List cH)) w w'):=by
 have u:=St.start w;refine eZ Tryz.func250 ?_;refine⟨λw'=>w'=w,aR (aC (λc=>absurd c bO) λ_=>rfl),?_⟩;rintro B G _;subst G;refine⟨λE w'=>St B aZ [bH E ([]:List cH)] w',?_,?_⟩
 .refine My fx (aK fx (agS (α:=cH) B) (fh ee (fh (by simp;omega) (cN (aC (λc=>?_) λ_=>u.eM)))));refine My fx (Mz fx rfl ?_);have e:(n:Int)-(((0:Nat):Int)-(([]:List cH).length:Int))=(n:Int):=ee
  rw[e]at c |-;exact Mx (α:=cH) (kn:=.i64) u fx (by kernel_rfl) dD n bO I dD (λ_ _ _ _ u=>aK fx (agS (α:=cH) B) (Mz fx (by simp[Addr.add]) u))
 rintro v _ u _;exact u.fresh
def C191(lv:Value)(B:List (List cH))(w:World)(Z:avn w lv B)(hn:B.length<=1000)(hf:B.flatten.length<=100000):CR 191 [lv] w (λv w'=>kV (bH v B.flatten) w w'):=by
 obtain⟨I,O,hl,Y⟩:=Z;have u:=St.start w;refine eZ Tryz.func191 ?_;refine aK Ls (O.ext u.aG) ?_;refine⟨λm y x U=>∃k:Nat,y=hZ ((B.take k).flatten.length:Int)/\x=hZ (k:Int)/\m=I.length-k/\k<=I.length/\St w aZ [] U,⟨_,0,rfl,rfl,rfl,l6 _,u⟩,?_⟩;rintro m _ _ U ⟨k,rfl,rfl,rfl,hk,u⟩ _;refine aR (aC (λc=>?_) λc=>?_)
 .obtain⟨s,M⟩:=gx I (i:=(k:Int).toNat) bO;obtain⟨t,J⟩:=gx B (i:=k) bO;have W:=Y k s t M J;have G:=JB B (k+1);have E:=xB J;rw[E,l1]at G;refine⟨λjv w'=>jv=hZ ((B.take (k+1)).flatten.length:Int)/\St w aZ [] w',aQ Ls O bO M (λ_ V=>aD iC (V.ext u.aG) (aK fx (W.ext u.aG) (aO bO (aR (aC (λc=>absurd c bO) λ_=>⟨gQ (n3 .i64) (by rw[E,l1];omega),u⟩))))),?_⟩;rintro _ _ ⟨rfl,u⟩ _;exact aO bO ⟨_,bO,k+1,rfl,rfl,rfl,bO,u⟩
 have wh:B.take k=B:=ld bO;rw[wh];refine dU aqh u (C250 _ _ bO) (λx24 _ cJ u=>aK Ls (O.ext u.aG) ?_);refine⟨λm v x U=>∃k:Nat,x=hZ (k:Int)/\m=I.length-k/\k<=I.length/\St w aZ [bH v ((B.take k).flatten)] U,⟨_,0,rfl,rfl,l6 _,u⟩,?_⟩;rintro m v _ _ ⟨k,rfl,rfl,hk,u⟩ _;refine aR (aC (λc=>?_) λc=>?_)
 .obtain⟨s,M⟩:=gx I (i:=(k:Int).toNat) bO;obtain⟨t,J⟩:=gx B (i:=k) bO;have W:=Y k s t M J;have G:=JB B (k+1);have E:=xB J;rw[E,l1]at G;exact aQ Ls O bO M (λ_ V=>aD iC (V.ext u.aG) (bJ u fx (W.ext u.aG) bO dD λ_ _ u=>aO bO ⟨_,bO,k+1,rfl,rfl,bO,by rw[E];exact u⟩))
 rw[show B.take k=B from ld bO]at u;exact u.fresh
def aja{w:World}{a b:SV}{x y:List cH}(h1:dA (λ_=>True) w (j0 a) x)(h2:dA (λ_=>True) w (j0 b) y):∀(i:Nat) (s:SV) (t:List cH),[a,b][i]?=some s->[x,y][i]?=some t->dA (λ_=>True) w (j0 s) t:=by
 grind
def C110(p:cB)(pv:bP)(E B:List cH)(w:World)(U:ml w pv p)(h3:dA (λ_=>True) w (j0 pv.threads) E)(h4:dA (λ_=>True) w (j0 pv.recover) B)(I:E.length<=500)(O:B.length<=500):CR 110 [j0 pv] w (λv w'=>kV (bH v (E++B)) w w'):=by
 obtain⟨bK,Z,bM,M,V,bG,rfl,W,dG,cW,Y,cD,cP⟩:=U;have u:=St.start w;refine eZ Tryz.func110 ?_;refine cG u (λku _ u=>aA kI (aB iC u.hb rfl (aA oT (aB iC u.hb rfl (bD ([M,V]) u Ls rfl rfl (dL rfl) λJ _ u=>dU aqg u (C191 _ [E,B] _ ⟨_,u.dS,rfl,aja (h3.ext u.aG) (h4.ext u.aG)⟩ ee (by simp;omega)) λx8 _ cJ u=>?_)))));have G:=u.p1.drop.p1.drop;rw[show [E,B].flatten=E++B from ee]at G;exact G.fresh
def ajb(p:cB):(decide (4<(p.lines.length:Int))||p.lines.any (λl=>decide (4<(l.length:Int)))||decide (4<(p.iR.length:Int))||decide (2<(p.eK.length:Int))||decide ((p.threads.length:Int)=0)||decide (3<(p.threads.length:Int))||(gp p).any (λt=>decide (4<(t.dQ.length:Int)))||decide (4<(p.dT.length:Int)))=uY p:=by
 unfold uY
 grind
def SB{p:cB}(h:∀l∈p.lines,l.length<=500)(u:p.lines.length<=500)(k:Nat):(p.lines.take k).flatten.length<=250000:=by
 have h1:=JB p.lines k
 have h2:=cY h
 omega
def C159(sv:Value)(ns:List ByteArray)(s:ByteArray)(w:World)(B:dA (λ_=>True) w sv ns)(E:ns.length<=1048576):CR 159 [sv,.string s] w (λv w'=>v=hZ (cU ns s)/\Ext w w'):=by
 have u:=St.start w;refine eZ Tryz.func159 ?_;exact aV Xw u (C225 _ _ _ _ (B.ext u.aG) bO) (λ_ _ u=>⟨rfl,u.aG⟩)
def C54(p:cB)(pv:bP)(w:World)(hp:ml w pv p)(G:PZ p):CR 54 [j0 pv] w (λv w'=>v=hZ (eB p)/\Ext w w'):=by
 obtain⟨bK,bU,bM,aW,aX,bG,rfl,cQ,dG,cW,cC,cD,cP⟩:=hp;have u:=St.start w;refine eZ Tryz.func54 ?_;refine cG u (λku Z u=>aA gB (aB oS u.hb rfl ?_));obtain⟨W,E,B⟩:=cQ.open;have Y:=B.1;refine aK pL (E.ext u.aG) ?_;refine⟨λm y x Z=>∃k:Nat,y=hZ (((p.lines.take k).flatten.length:Nat):Int)/\x=hZ (k:Int)/\m=p.lines.length-k/\k<=p.lines.length/\St w aZ [bY ku (kp (⟨bK,bU,bM,aW,aX,bG⟩:bP))] Z,⟨_,0,rfl,rfl,rfl,bO,u⟩,?_⟩
 rintro m _ _ _ ⟨k,rfl,rfl,rfl,hk,u⟩ _;have YE:=SB G.line G.lines k;have U:=SB G.line G.lines (k+1);have hzl:=G.lines;refine aR (aC (λgL=>?_) λgL=>?_)
 .obtain⟨Hs,xm⟩:=gx W (i:=(k:Int).toNat) bO;obtain⟨O,I⟩:=gx p.lines (i:=(k:Int).toNat) bO;have V:DL w (j0 Hs) O:=B.2 _ _ _ xm I;refine aQ pL E bO xm (λ_ ES=>?_);have M:=xB (k:=k) I;rw[M,l1]at U;refine aD jO (ES.ext u.aG) ?_;have J:=DL.flat V;exact aK iu (J.ext u.aG) (aO bO (aO bO ⟨_,bO,k+1,gQ (n3 .i64) (by rw[xB (k:=k) I,l1];omega),rfl,rfl,bO,u⟩))
 rw[ld bO];exact⟨rfl,u.drop.aG⟩
def C51(p:cB)(pv:bP)(w:World)(hp:ml w pv p)(hz:PZ p):CR 51 [j0 pv] w (λv w'=>kV (bH v (cM p)) w w'):=by
 obtain⟨bK,U,bM,Z,aX,bG,rfl,cQ,dG,W,cC,cD,cP⟩:=hp;have u:=St.start w;refine eZ Tryz.func51 ?_;refine cG u (λY I u=>aA nT (aB jO u.hb rfl ?_));have B:=DL.flat W;refine aK iu (B.ext u.aG) ?_;refine⟨λm y x I=>∃k:Nat,x=hZ (k:Int)/\m=p.eK.length-k/\k<=p.eK.length/\St w aZ [bH y ((p.eK.take k).map cK.name),bY Y (kp (⟨bK,U,bM,Z,aX,bG⟩:bP))] I,⟨_,0,rfl,rfl,bO,u.eM (α:=ByteArray)⟩,?_⟩;rintro m nq _ _ ⟨k,rfl,rfl,hk,u⟩ _
 have CM:((p.eK.take k).map cK.name).length=k:=by rw[n4,l2];omega
 have hzk:=hz.eK;refine aR (aC (λO=>?_) λO=>?_)
 .obtain⟨E,J⟩:=gx p.eK (i:=(k:Int).toNat) bO;refine aQ iu B bO J (λ_ ES=>aD mf (ES.ext u.aG) (aM u oX λM _ u=>aJ (x:=E) u mf rfl rfl λ_ u=>aA kS (aB (v:=.string E.name) gA u.hb rfl (bD ([E.name]) u iD rfl rfl (dL rfl) λG _ u=>?_))));have V:=u.dS;exact bJ u.p2 iD V (by simp<;>omega) dD (λ_ _ u=>have u:=u.p1.drop;aO bO (have u:=u.p1.drop.p1.p1;⟨_,bO,k+1,rfl,rfl,bO,by rw[<- gi (k:=k) J];exact u⟩))
 have u:=u.p1.drop;rw[ld bO]at u;exact u.fresh
def C189(lv:Value)(xs:List cK)(w:World)(B:dA (λ_=>True) w lv xs)(E:xs.length<=1048576):CR 189 [lv] w (λv w'=>v=.bool (decide (4<(xs.length:Int)))/\Ext w w'):=by
 have u:=St.start w;refine eZ Tryz.func189 ?_;exact aK iu (B.ext u.aG) (cN ⟨rfl,u.aG⟩)
def C190(t:cO)(E:cH)(w:World)(ht:ml w E t)(O:t.dQ.length<=500):CR 190 [j0 E] w (λv w'=>v=.bool (decide (4<(t.dQ.length:Int)))/\Ext w w'):=by
 obtain⟨I,M,rfl,G,U⟩:=ht;have u:=St.start w;refine eZ Tryz.func190 ?_;refine cG u (λJ _ u=>aA fT (aB jj u.hb rfl ?_));have B:=DL.flat G;exact aK iD (B.ext u.aG) (cN ⟨rfl,u.drop.aG⟩)
def C109(p:cB)(pv:bP)(w:World)(G:ml w pv p)(B:PZ p):CR 109 [j0 pv] w (λv w'=>v=.bool (uY p)/\Ext w w'):=by
 obtain⟨bK,bU,bM,aW,aX,bG,rfl,J,dG,cW,M,cD,cP⟩:=G;have u:=St.start w;refine adR _ _ _ ?_;unfold S109;refine cG u (λku I u=>?_);have T0:=B.lines;have hz2:=B.iR;have hz3:=B.eK;have hz4:=B.threads;have hz5:=B.dT;obtain⟨vD,YB,YC⟩:=M.open;obtain⟨y9,PQ,E⟩:=cD.open;have hn3:=YC.1;have hn4:=E.1;have aiO:=DJ B.toPS;refine aA kI (aB iC u.hb rfl ?_);obtain⟨ts19,aw3,O⟩:=M.open;have hn19:=O.1;refine aK fx (aw3.ext u.aG) ⟨λjv w'=>jv=.bool (decide (4<(p.lines.length:Int))||p.lines.any (λl=>decide (4<(l.length:Int)))||decide (4<(p.iR.length:Int))||decide (2<(p.eK.length:Int))||decide ((p.threads.length:Int)=0)||decide (3<(p.threads.length:Int))||(gp p).any (λt=>decide (4<(t.dQ.length:Int)))||decide (4<(p.dT.length:Int)))/\St w aZ [bY ku (kp (⟨bK,bU,bM,aW,aX,bG⟩:bP))] w',?_,?_⟩
 .refine aA gB (aB oS u.hb rfl ?_);obtain⟨aph,Uk,U⟩:=J.open;have avO:=U.1;refine aK pL (Uk.ext u.aG) (cN (aC (λ_=>⟨vb cL,u⟩) λnN=>aA gB (aB oS u.hb rfl (aV agC u (C186 _ _ _ (λl=>l.length<=1048576) _ _ (J.ext u.aG) ⟨189,[],[],rfl,aqe,λ_ y I _ W G=>C189 _ y I (DL.flat W) G⟩ (λl hl=>by have:=B.line l hl;omega) (by have:=B.lines;omega)) λ_ he u=>aY (λ_=>⟨vb cL,u⟩) λki=>aA qi (aB jO u.hb rfl ?_)))));have V:=DL.flat dG;refine aK iu (V.ext u.aG) (cN (aC (λ_=>⟨vb cL,u⟩) λnd=>aA nT (aB jO u.hb rfl ?_)))
  have Y:=DL.flat cW;refine aK iu (Y.ext u.aG) (cN (aC (λ_=>⟨vb cL,u⟩) λagJ=>aH (aC (λ_=>⟨vb cL,u⟩) λze=>cN (aC (λ_=>⟨vb cL,u⟩) λo9=>aD eg u.At (dM SA (C110 p _ vD y9 _ ⟨bK,bU,bM,aW,aX,bG,rfl,(J.ext u.aG),(dG.ext u.aG),(cW.ext u.aG),(M.ext u.aG),(cD.ext u.aG),(cP.ext u.aG)⟩ (YB.ext u.aG) (PQ.ext u.aG) (by have:=B.threads;omega) (by have:=B.recover;omega)) ?_)))));rintro x41 _ cJ;have u:=u.made cJ;have Z:DL _ _ (gp p):=DL.of u.dS ((YC.append E).ext u.aG)
  refine aV XY u (C187 _ _ _ (λt=>t.dQ.length<=500) _ _ Z ⟨190,[],[],rfl,aqf,λsv y I _ W G=>C190 y sv I W G⟩ (λ_ ht=>(B.qZ ht).2.1) bO) (λ_ he u=>aY (λ_=>have u:=u.drop;⟨vb cL,u⟩) λvY=>aA jx (aB qX u.p1.hb rfl ?_));obtain⟨ts23,aw6,aw7⟩:=cP.open;have hn23:=aw7.1;exact aK tn (aw6.ext u.aG) (cN (have u:=u.drop;⟨vb cL,u⟩))
 rintro _ _ ⟨rfl,u⟩ _;exact⟨vb (ajb p),u.drop.aG⟩
theorem vF(x:bQ)(a b r:Bk)(n:Int):mJ (.cons x a b r) n=(decide (64<ru x n)||(mJ a (ru x n)||mJ b (ru x n))||mJ r n):=rfl
def adU{xs:List bQ}{k:Nat}{x:bQ}{a b r:Bk}(h:xs.drop k=(Bk.cons x a b r).flat)(u:(Bk.cons x a b r).str){hi lo:Int}(h1:hi=k+1+x.body+x.ey)(h2:lo=k+1):(xs.take hi.toNat).drop lo.toNat=(a.app b).flat:=by
 have B:=u
 obtain⟨G,E,_⟩:=B
 have e:=Bk.Da u (hi:=1+x.body+x.ey) (lo:=1) rfl rfl
 rw[<- e,<- h,List.take_drop,tj]
 grind
def YF{xs:List bQ}{k:Nat}{x:bQ}{a b r:Bk}(h:xs.drop k=(Bk.cons x a b r).flat)(u:(Bk.cons x a b r).str):xs.drop (k+1+a.len+b.len)=r.flat:=by
 have B:=u
 obtain⟨G,E,_⟩:=B
 rw[<- Bk.aix u (hi:=1+x.body+x.ey) rfl,<- h,tj]
 grind
def YG{α:Type}{xs l:List α}{k:Nat}{x:α}(h:xs.drop k=x::l):xs[k]?=some x:=by
 have:=gQ (λl=>l[0]?) h
 grind
theorem C111(lv:Value)(t:Bk)(n:Int)(N:Nat)(w:World)(hL:DL w lv t.flat)(iV:t.str)(hq:∀x∈t.flat,0<=x.at_/\(x.kind=12->1<=x.n/\x.n<=8))(hn:1<=n/\n<=64)(hl:t.len<=1048576)(hN:t.len<N):CR 111 [lv,hZ n] w (λv w'=>∃a:Int,v=.tuple #[hZ a,.bool (mJ t n)]/\Ext w w'):=by
 have ud:=t.cY;have B:=St.start w;refine adS _ _ _ _ ?_;unfold S111;refine⟨λm y w1=>∃(k:Nat) (u:Bk),y=hZ (k:Int)/\m=t.len-k/\t.flat.drop k=u.flat/\k+u.len=t.len/\u.str/\(∀x∈u.flat,0<=x.at_/\(x.kind=12->1<=x.n/\x.n<=8))/\mJ t n=mJ u n/\St w aZ [] w1,⟨_,0,t,rfl,rfl,rfl,bO,iV,hq,rfl,B⟩,?_⟩;rintro m _ w1 ⟨k,u,rfl,rfl,Qa,M,I,J,G,B⟩ _;obtain⟨aiD,W,Y⟩:=hL.open;have avT:=Y.1;refine aK fq (W.ext B.aG) (aR (aC (λjs=>?_) λjs=>?_))
 .obtain⟨x,a,b,r,rfl⟩:=Bk.DK (t:=u) (by rw[Bk.cY];omega);obtain⟨rn,ja⟩:=gx aiD (i:=(k:Int).toNat) bO;obtain⟨E,ET⟩:=gx t.flat (i:=(k:Int).toNat) bO;obtain⟨qn,qo,rfl,acV,acW⟩:=Y.2 _ _ _ ja ET;refine aQ fq W bO ja (λ_ uR=>?_);obtain rfl:E=x:=oq.inj (ET.symm.trans (YG Qa));have O:=J E (by simp[Bk.flat]);have aw9:=I;obtain⟨BP,Gq,Um,hg4,hga,hgb,Z⟩:=aw9;have GF:k+(a.len+b.len+r.len+1)=t.len:=M;have hla:=a.cY;have Om:=b.cY;have hlr:=r.cY;have tm:=adU Qa I (hi:=(k:Int)+1+E.body+E.ey) (lo:=(k:Int)+1) rfl rfl
  have GI:=YF Qa I;refine aD eN (uR.ext B.aG) (aM B jA λxn _ B=>have B:=B.enc (cs':=kp (⟨0,(kE #[]),(kE #[]),bW,bW,0,0,0,0⟩:bE)) rfl;aJ (x:=(⟨E.kind,E.eG,E.name,qn,qo,E.n,E.body,E.ey,E.at_⟩:bE)) B eN rfl rfl λ_ B=>aO bO (aA iY (aB (v:=hZ E.body) bL B.hb rfl (aO bO (aA iI (aB (v:=hZ E.ey) bL B.hb rfl (aO bO ⟨λjv w'=>∃m:Int,jv=hZ m/\m=ru E n/\St w aZ [bY xn (kp (⟨E.kind,E.eG,E.name,qn,qo,E.n,E.body,E.ey,E.at_⟩:bE))] w',aA dO (aB (v:=hZ E.kind) bL B.hb rfl (aH (aC (λmi=>aA jS (aB (v:=hZ E.n) bL B.hb rfl (IV (by have Un:=O.2 mi;have h1:=K0 (a:=1) (b:=1) hn.1 Un.1 bO bO;have h2:=K0 (c:=64) (d:=8) hn.2 Un.2 bO bO;omega) ⟨_,rfl,by grind[ru],B⟩))) λ_=>⟨_,rfl,by grind[ru],B⟩))),?_⟩)))))))
  rintro _ _ ⟨m,rfl,U,B⟩ _;have hm8:=X2 hn O.2 U;refine cN (aC (λo9=>?_) λo9=>?_)
  .refine aA lM (aB (v:=hZ E.at_) bL B.hb rfl ?_);refine⟨E.at_,?_,B.drop.aG⟩;rw[G,vF,<- U,ew (show(64:Int)<m by omega)];rfl
  refine aO bO (oB fq (W.ext B.aG) bO bO bO λaqn Qb=>?_);have JC:=DL.cut Qb W Y;refine dM agR (C111 _ (a.app b) m (N-1) _ (by have h:=(JC.ext B.aG);rw[tm]at h;exact h) (Bk.Sg hga hgb) (λy V=>J y (by rw[Bk.Ba]at V;simp only[Bk.flat,s4,pX];rcases pX.1 V with h|h<;>simp[h])) bO (by rw[DM];omega) (by rw[DM];omega)) ?_;rintro _ _ ⟨a1,rfl,he⟩;have B:=B.ext he;rw[HA];refine aN rfl (aN rfl (aY (λsy=>?_) λsy=>⟨_,bO,k+1+a.len+b.len,r,gQ (n3 .i64) bO,rfl,GI,bO,Z,(λy V=>J y (by simp[Bk.flat,V])),by rw[G,vF,<- U,fP (show ¬ (64:Int)<m by omega),sy];rfl,B.drop⟩))
  refine⟨a1,?_,B.drop.aG⟩;rw[G,vF,<- U,sy];simp
 cases u with
 | nil=>exact⟨_,by rw[G];rfl,B.aG⟩
 | cons x a b r=>exact absurd M (by show ¬ k+(a.len+b.len+r.len+1)=_;omega)
termination_by N
decreasing_by all_goals omega
def Qc:Int->List (List cK)->List (cK×Int)
 | _,[]=>[]
 | k,l::r=>l.map (λc=>(c,k))++Qc (k+1) r
def Oo:Int->List cK->List (cK×Int)
 | _,[]=>[]
 | k,c::r=>(c,k)::Oo (k+1) r
def uj(p:cB):List (cK×Int):=Qc 0 p.lines++Oo p.lines.length p.iR
theorem JD:∀(ls:List (List cK)) (k:Int),(Qc k ls).length=ls.flatten.length
 | [],_=>rfl
 | l::r,k=>by simp[Qc,JD r]
theorem adV:∀(vs:List cK) (k:Int),(Oo k vs).length=vs.length
 | [],_=>rfl
 | c::r,k=>by simp[Oo,adV r]
theorem JE:∀(ls:List (List cK)) (k:Int),(Qc k ls).map Zt=ls.flatten
 | [],_=>rfl
 | l::r,k=>by simp[Qc,JE r,Function.comp_def]
theorem JF:∀(vs:List cK) (k:Int),(Oo k vs).map Zt=vs
 | [],_=>rfl
 | c::r,k=>by simp[Oo,JF r]
theorem YH{l:List cK}{c:cK}{j:Nat}(u:l[j]?=some c):∀(ls:List (List cK)) (k:Int) (i:Nat),ls[i]?=some l->(Qc k ls)[(ls.take i).flatten.length+j]?=some (c,k+i)
 | [],_,_,h=>by simp at h
 | a::r,k,0,h=>by
  grind[Qc]
 | a::r,k,i+1,h=>by
  have B:=YH u r (k+1) i cL
  grind[Qc]
theorem YI:∀(vs:List cK) (k:Int) (j:Nat) (c:cK),vs[j]?=some c->(Oo k vs)[j]?=some (c,k+j)
 | [],_,_,_,h=>by simp at h
 | a::r,k,0,c,h=>by simp at h;subst h;simp[Oo]
 | a::r,k,j+1,c,h=>by
  have u:=YI r (k+1) j c cL
  grind[Oo]
theorem Bm(p:cB):(uj p).map Zt=iv p:=by unfold uj iv;rw[vH,JE,JF]
theorem u5(p:cB):(uj p).length=(iv p).length:=by rw[<- Bm,n4]
def Uq{p:cB}{l:List cK}{c:cK}{i j:Nat}(u:p.lines[i]?=some l)(B:l[j]?=some c):(uj p)[(p.lines.take i).flatten.length+j]?=some (c,(i:Int)):=by
 have h:=YH B p.lines 0 i u
 unfold uj
 grind
def YJ{p:cB}{c:cK}{j:Nat}(u:p.iR[j]?=some c):(uj p)[p.lines.flatten.length+j]?=some (c,(p.lines.length:Int)+j):=by
 unfold uj
 rw[ta (by rw[JD];omega),JD,Ix,YI _ _ _ _ u]
def C195(y:Value)(b:Nat)(g0 g1:SV)(p:cB)(J:Nat->hM)(Jx:hM)(w0 w:World)(hz:PS p)(hL:DL w0 (j0 g0) p.lines)(hV:dA (λ_=>True) w0 (j0 g1) p.iR)
  (I:∀k W,J k W->Cell W b 0 (j0 g0)/\Cell W b 1 (j0 g1)/\Ext w0 W) (YK:∀k W G,J k W->Ext W G->J k G) (h0:J 0 w)
  (hy:∀k c i W,(uj p)[k]?=some (c,i)->J k W->kK hH y [j0 c,hZ i] W λv G=>(v=.bool true/\J (k+1) G)\/(v=.bool false/\Jx G)) :
  CR 195 [y,.pointer (some ⟨b,0,none⟩)] w (λ_ W=>J (uj p).length W\/Jx W):=by
 obtain⟨ts,hR,hD⟩:=hL.open;have hn:=hD.1;have hzl:=hz.lines;have hzv:=hz.iR;refine eZ Tryz.func195 ?_;obtain⟨Y,u6,he0⟩:=I 0 w h0;refine aA gB (bN oS Y (aK pL (hR.ext he0) ?_));refine⟨λm x E=>∃i:Nat,x=hZ (i:Int)/\m=p.lines.length-i/\i<=p.lines.length/\J ((p.lines.take i).flatten.length) E,⟨_,0,rfl,rfl,l6 _,h0⟩,?_⟩;rintro m _ E ⟨i,rfl,rfl,hi,B⟩ _;refine aR (aC (λc=>?_) λc=>?_)
 .obtain⟨l,Z⟩:=gx p.lines (i:=i) bO;obtain⟨t,ht⟩:=gx ts (i:=((i:Nat):Int).toNat) bO;have hdt:DL w0 (j0 t) l:=hD.2 _ _ _ ht Z;have U:=DL.flat hdt;have Ag:=hz.line l (la Z);have V:=(I _ _ B).2.2;refine aQ pL hR bO ht (λq M=>aD jO (M.ext V) (aK iu (U.ext V) ?_));refine⟨λm x E=>∃j:Nat,x=hZ (j:Int)/\m=l.length-j/\j<=l.length/\J ((p.lines.take i).flatten.length+j) E,⟨_,0,rfl,rfl,l6 _,B⟩,?_⟩;rintro m _ w2 ⟨j,rfl,rfl,Ef,B⟩ _;refine aR (aC (λc=>?_) λ_=>aO bO ⟨_,bO,i+1,rfl,rfl,bO,by rw[xB Z,l1,show l.length=j from bO];exact B⟩)
  obtain⟨x,O⟩:=gx l (i:=((j:Nat):Int).toNat) bO;have e2:=(I _ _ B).2.2;have u:=St.start w2;refine aQ iu U bO O (λq M=>aD mf (M.ext e2) (aM u oX λb6 _ u=>aJ (x:=x) u mf rfl rfl λw4 u=>aD mf u.At ?_));refine kK.mono (hy _ x i w4 (Uq Z O) (YK _ _ _ B u.aG)) ?_;rintro v w5 (⟨rfl,Bj⟩|⟨rfl,HF⟩)
  .exact bR (fw (aO bO ⟨_,bO,j+1,rfl,rfl,bO,Bj⟩))
  exact bR (iB (.inr HF))
 rw[show p.lines.take i=p.lines from ld bO]at B;obtain⟨Y,u6,V⟩:=I _ _ B;refine aA qi (bN jO u6 (aK iu (hV.ext V) ?_));refine⟨λm x E=>∃j:Nat,x=hZ (j:Int)/\m=p.iR.length-j/\j<=p.iR.length/\J (p.lines.flatten.length+j) E,⟨_,0,rfl,rfl,l6 _,B⟩,?_⟩;rintro m _ w6 ⟨j,rfl,rfl,Ef,B⟩ _;refine aR (aC (λc=>?_) λc=>?_)
 .obtain⟨x,O⟩:=gx p.iR (i:=((j:Nat):Int).toNat) bO;obtain⟨Y,u6,e2⟩:=I _ _ B;have u:=St.start w6;refine aQ iu hV bO O (λq M=>aD mf (M.ext e2) (aM u oX λb8 _ u=>aJ (x:=x) u mf rfl rfl λw8 u=>aD mf u.At (aA gB (bN oS (Y.ext u.aG) (aK pL (hR.ext (e2.trans u.aG)) (aO bO ?_))))));rw[hn];refine kK.mono (hy _ x _ w8 (YJ O) (YK _ _ _ B u.aG)) ?_;rintro v w9 (⟨rfl,Bj⟩|⟨rfl,HF⟩)
  .exact bR (fw (aO bO ⟨_,bO,j+1,rfl,rfl,bO,Bj⟩))
  exact bR (iB (.inr HF))
 refine .inl ?_;rw[u5]
 grind[iv]
def C115(pv:bP)(w:World):CR 115 [j0 pv] w (λv w'=>∃b,v=.func (.func 195) [].toArray [.pointer (some ⟨b,0,none⟩)].toArray/\kV (bY b (kp pv)) w w'):=by
 have u:=St.start w;refine eZ Tryz.func115 ?_;exact cG u (λb _ u=>⟨b,rfl,u.fresh⟩)
def C50(p:cB)(pv:bP)(w:World)(hp:ml w pv p)(hz:PZ p):CR 50 [j0 pv] w (λv w'=>kV (bH v (cT p)) w w'):=by
 have hac:=kY hz.toPS;have oO:(uj p).length=(iv p).length:=u5 p;obtain⟨U,G,bM,Z,aX,bG,rfl,cQ,dG,cW,cC,cD,cP⟩:=hp;have u:=St.start w;refine eZ Tryz.func50 ?_;refine cG u (λbp _ u=>gF u ahT rfl λb3 _ u=>aD eg u.p1.At (dM Sy (C115 _ _) ?_));rintro _ _ ⟨b,rfl,cJ⟩;have u:=(u.made cJ).eM (α:=ByteArray)
 refine wZ (cap:=[.pointer (some ⟨b,0,none⟩)]) (xs:=(uj p).map λq=>[j0 q.1,hZ q.2]) Sz u
  (λk M=>∃sv,M=[bH sv (((iv p).take k).map cK.name),bY b (kp (⟨U,G,bM,Z,aX,bG⟩:bP)),bY b3 [sv],bY bp (kp (⟨U,G,bM,Z,aX,bG⟩:bP))]) (λ_ _=>False) ⟨_,rfl⟩ (by intro x O;obtain⟨q,_,rfl⟩:=oG.1 O;rfl) ?_ ?_ ?_ ?_ ?_ ?_
 .intro y J Jx W hJ YK TU hy;refine(C195 y b U G p J Jx w W hz.toPS cQ (DL.flat dG) (λk W E=>?_) YK TU λk c i W O E=>hy k [j0 c,hZ i] W (by rw[pO,O];rfl) E).mono λ_ _ r=>r.mono λv W' h=>?_
  .obtain⟨Y,M,⟨sv,rfl⟩,I⟩:=hJ k W E;exact⟨I.p2.hb.cell rfl,I.p2.hb.cell rfl,I.aG⟩
  simpa using h
 .rintro k args Y1 Y2 B Kr M W E ⟨sv,rfl⟩ hB hN hR u;rw[pO]at E;obtain⟨q,V,rfl⟩:=Jh.1 E;have nS:=(kO.1 V).1;have hc:(iv p)[k]?=some q.1:=by rw[<- Bm,pO,V];rfl
  have CM:(((iv p).take k).map cK.name).length=k:=by rw[n4,l2];omega
  dsimp only[Eg];refine aM u oX (λb4 _ u=>aJ (x:=q.1) u mf rfl rfl λ_ u=>?_);refine hB _ _ _ u.p1 (λ_ u=>?_);refine aB jj u.p4.hb rfl (aA kS (aB (v:=.string q.1.name) gA u.p1.hb rfl (bD ([cK.name q.1]) u iD rfl rfl (dL rfl) λs8 _ u=>?_)));have hr:=u.dS;refine bJ u.p3 iD hr (by rw[CM,mv];omega) dD (λs9 _ u=>aT u.p5 jj (dL rfl) (Jr u.dS) λ_ u=>?_);refine hN _ _ ?_ ⟨s9,rfl⟩;rw[<- gi (k:=k) hc];exact u.p2.drop.p3.drop.p3.p2.p3
 .rintro D M W ⟨sv,rfl⟩ u;refine aB jj u.p3.hb rfl ?_;refine Ey u (λ_ u=>?_);rw[n4,oO,aaM]at u;exact u.p1.drop.p1.drop.p1.drop.fresh
 .rintro D M W h;exact h.elim
 .rintro id D M W h;exact h.elim
 rintro c M h;exact h.elim
def C55(p:cB)(pv:bP)(w:World)(hp:ml w pv p)(hz:PZ p):CR 55 [j0 pv] w (λv w'=>kV (bH v (eW p)) w w'):=by
 have hac:=kY hz.toPS;have oO:(uj p).length=(iv p).length:=u5 p;obtain⟨U,G,bM,Z,aX,bG,rfl,cQ,dG,cW,cC,cD,cP⟩:=hp;have u:=St.start w;refine eZ Tryz.func55 ?_;refine cG u (λbp _ u=>gF u ahS rfl λb3 _ u=>aD eg u.p1.At (dM Sy (C115 _ _) ?_));rintro _ _ ⟨b,rfl,cJ⟩;have u:=(u.made cJ).eM (α:=Int)
 refine wZ (cap:=[.pointer (some ⟨b,0,none⟩)]) (xs:=(uj p).map λq=>[j0 q.1,hZ q.2]) Sz u
  (λk M=>∃sv,M=[bH sv (((iv p).take k).map cK.n),bY b (kp (⟨U,G,bM,Z,aX,bG⟩:bP)),bY b3 [sv],bY bp (kp (⟨U,G,bM,Z,aX,bG⟩:bP))]) (λ_ _=>False) ⟨_,rfl⟩ (by intro x O;obtain⟨q,_,rfl⟩:=oG.1 O;rfl) ?_ ?_ ?_ ?_ ?_ ?_
 .intro y J Jx W hJ YK TU hy;refine(C195 y b U G p J Jx w W hz.toPS cQ (DL.flat dG) (λk W E=>?_) YK TU λk c i W O E=>hy k [j0 c,hZ i] W (by rw[pO,O];rfl) E).mono λ_ _ r=>r.mono λv W' h=>?_
  .obtain⟨Y,M,⟨sv,rfl⟩,I⟩:=hJ k W E;exact⟨I.p2.hb.cell rfl,I.p2.hb.cell rfl,I.aG⟩
  simpa using h
 .rintro k args Y1 Y2 B Kr M W E ⟨sv,rfl⟩ hB hN hR u;rw[pO]at E;obtain⟨q,V,rfl⟩:=Jh.1 E;have nS:=(kO.1 V).1;have hc:(iv p)[k]?=some q.1:=by rw[<- Bm,pO,V];rfl
  have CM:(((iv p).take k).map cK.n).length=k:=by rw[n4,l2];omega
  dsimp only[Eg];refine aM u oX (λb4 _ u=>aJ (x:=q.1) u mf rfl rfl λ_ u=>?_);refine hB _ _ _ u.p1 (λ_ u=>?_);refine aB eh u.p4.hb rfl (aA sg (aB (v:=hZ q.1.n) bL u.p1.hb rfl (bD ([cK.n q.1]) u cS rfl rfl (dL rfl) λs8 _ u=>?_)));have hr:=u.dS;refine bJ u.p3 cS hr (by rw[CM,mv];omega) dD (λs9 _ u=>aT u.p5 eh (dL rfl) (Jr u.dS) λ_ u=>?_);refine hN _ _ ?_ ⟨s9,rfl⟩;rw[<- gi (k:=k) hc];exact u.p2.drop.p3.drop.p3.p2.p3
 .rintro D M W ⟨sv,rfl⟩ u;refine aB eh u.p3.hb rfl ?_;refine Ey u (λ_ u=>?_);rw[n4,oO,aaM]at u;exact u.p1.drop.p1.drop.p1.drop.fresh
 .rintro D M W h;exact h.elim
 .rintro id D M W h;exact h.elim
 rintro c M h;exact h.elim
theorem SC:∀(vs:List cK) (k:Int) (j:Nat) (q:cK×Int),(Oo k vs)[j]?=some q->q.2=k+j
 | [],_,_,_,h=>by simp[Oo]at h
 | c::r,k,0,q,h=>by simp[Oo]at h;grind
 | c::r,k,j+1,q,h=>by
  have:=SC r (k+1) j q (by simpa[Oo]using h)
  omega
theorem MA(vs:List cK):∀(ls:List (List cK)) (i:Int) (a:Nat) (q:cK×Int),(Qc i ls++Oo (i+ls.length) vs)[a]?=some q->jt ls i a=q.2
 | [],i,a,q,h=>by
  have:=SC vs (i+0) a q (by simpa[Qc]using h)
  unfold jt;omega
 | l::r,i,a,q,h=>by
  unfold jt
  by_cases u:a<l.length
  .rw[ej bO]
   rw[Qc,n5,u3 cL,pO]at h
   grind
  .rw[ei bO]
   rw[Qc,n5,ta (by simp;omega),n4]at h
   have e:(i+((l::r).length:Nat):Int)=i+1+(r.length:Nat):=cL
   rw[e]at h
   have:=MA vs r (i+1) (a-l.length) q h
   grind
theorem YL{p:cB}{k:Nat}{q:cK×Int}(h:(uj p)[k]?=some q):pE p k=q.2:=by
 have u:=(kO.1 h).1
 rw[u5]at u
 unfold pE
 rw[ei bO]
 exact MA p.iR p.lines 0 k q (by unfold uj at h;grind)
def C52(p:cB)(pv:bP)(c:Int)(w:World)(hp:ml w pv p)(hz:PZ p):CR 52 [j0 pv,hZ c] w (λv w'=>v=hZ (pE p c)/\Ext w w'):=by
 have hac:=kY hz.toPS;have oO:(uj p).length=(iv p).length:=u5 p;obtain⟨Z,I,bM,aW,aX,bG,rfl,cQ,dG,cW,cC,cD,cP⟩:=hp;have u:=St.start w;refine eZ Tryz.func52 ?_;refine cG u (λbp _ u=>nA u rfl λb3 _ u=>gF u uG rfl λb4 _ u=>gF u uG rfl λb5 _ u=>aT u bL (dL rfl) rfl λ_ u=>aD eg u.p3.At (dM Sy (C115 _ _) ?_));rintro _ _ ⟨b,rfl,cJ⟩;have u:=u.made cJ
 refine wZ (cap:=[.pointer (some ⟨b,0,none⟩)]) (xs:=(uj p).map λq=>[j0 q.1,hZ q.2]) Sz u
  (λk M=>(∀j:Nat,j<k->¬ (j:Int)=c)/\M=[bY b (kp (⟨Z,I,bM,aW,aX,bG⟩:bP)),bY b5 [hZ (k:Int)],bY b4 [hZ 0],bY b3 [hZ c],bY bp (kp (⟨Z,I,bM,aW,aX,bG⟩:bP))])
  (λcd M=>cd=.ret/\M=[bY b4 [hZ (pE p c)]]) ⟨bO,rfl⟩ (by intro x V;obtain⟨q,_,rfl⟩:=oG.1 V;rfl) ?_ ?_ ?_ ?_ ?_ ?_
 .intro y J Jx W hJ YK TU hy;refine(C195 y b Z I p J Jx w W hz.toPS cQ (DL.flat dG) (λk W E=>?_) YK TU λk c i W V E=>hy k [j0 c,hZ i] W (by rw[pO,V];rfl) E).mono λ_ _ r=>r.mono λv W' h=>?_
  .obtain⟨Y,M,⟨_,rfl⟩,O⟩:=hJ k W E;exact⟨O.p1.hb.cell rfl,O.p1.hb.cell rfl,O.aG⟩
  simpa using h
 .rintro k args Y1 Y2 B Kr M W E ⟨G,rfl⟩ hB hN hR u;rw[pO]at E;obtain⟨q,hq,rfl⟩:=Jh.1 E;have nS:=(kO.1 hq).1;dsimp only[Eg];refine hB _ _ _ u (λ_ u=>?_);refine aB bL u.p2.hb rfl (aB bL u.p4.hb rfl (aH (aC (λU=>?_) λU=>aB bL u.p2.hb rfl (aO bO (aT u.p2 bL (dL rfl) rfl λ_ u=>hN _ _ u.p2.p2.p0 ⟨λj hj=>?_,rfl⟩)))))
  .refine aT u.p3 bL (dL rfl) rfl (λ_ u=>?_);refine hR _ [bY b4 [hZ (pE p c)]] _ ?_ ⟨rfl,rfl⟩;rw[<- U,YL hq];exact u.p2.drop.p2.drop.p2.drop.p2.drop.p1
  rcases PN j k with h|h
  .exact G j h
  rw[show j=k from bO];exact U
 .rintro D M W ⟨G,rfl⟩ u;refine aT u.p3 bL (dL rfl) rfl (λ_ u=>?_);refine Ey u.p1 (λ_ u=>?_);refine aB bL u.hb rfl ?_;refine⟨gQ (n3 .i64) ?_,u.aG⟩;unfold pE;rw[n4]at G
  rw[ej (by
   rcases Int.lt_or_le c 0 with h|h
   .exact .inl h
   .refine .inr ?_;have:=G c.toNat;omega)]
 .rintro D M W ⟨_,rfl⟩ u;refine Ey u (λ_ u=>?_);exact aB bL u.hb rfl ⟨rfl,u.aG⟩
 .rintro id D M W ⟨h,_⟩;cases h
 rintro c M ⟨h,_⟩;exact .inr h
variable (w:World) (K:Value->hM)
def axa:dI:=λi=>match i with
 | 22=>.run 0 6
 | _=>.nil
theorem aqo:PL 107:=dJ Tryz.func107
theorem YM:PL 176:=dJ Tryz.func176
end Go.Proofs.YtpdlpabnlkofmaaGreatDoor
namespace Go.Fw
open Go.MapKept (Stamped IsKey)
open Go.ChangeMaps (setBlock)
def zX(l:List SI)(k:ByteArray)(v:Int):List SI:=if l.any (λp=>decide (p.1=k))then l.map (λp=>if p.1=k then(k,v)else p)else l++[(k,v)]
theorem HG:∀(l:List SI) (k u:ByteArray) (v:Int),(∀p∈l,p.1≠k)->eI (l++[(k,v)]) u=if k=u then v else eI l u
 | [],k,u,v,_=>rfl
 | p::r,k,u,v,h=>by
  have E:=HG r k u v (λq B=>h q (r6 _ B))
  have G:=h p (o6 ..)
  show(if p.1=u then p.2 else eI (r++[(k,v)]) u)=_
  rw[E]
  show _=if k=u then v else(if p.1=u then p.2 else eI r u)
  grind
theorem Cl:∀(l:List SI) (k u:ByteArray) (v:Int),l.any (λp=>decide (p.1=k))=true->eI (l.map λp=>if p.1=k then(k,v)else p) u=if k=u then v else eI l u
 | [],_,_,_,h=>by simp at h
 | p::r,k,u,v,h=>by
  rw[Ml]
  by_cases h1:p.1=k
  .rw[ej h1]
   show(if k=u then v else eI (r.map _) u)=if k=u then v else(if p.1=u then p.2 else eI r u)
   by_cases h2:k=u
   .grind
   .rw[ei h2,ei h2,ei λe=>h2 (h1.symm.trans e)]
    by_cases h3:r.any (λp=>decide (p.1=k))=true
    .rw[Cl r k u v h3,ei h2]
    .congr 1
     have:∀q∈r,q.1≠k:=λq B e=>h3 (ya.2 ⟨q,B,ew e⟩)
     conv=>rhs;rw[<- List.map_id r]
     exact CI λq B=>ei (this q B)
  .rw[ei h1]
   have h3:r.any (λp=>decide (p.1=k))=true:=by
    grind
   show(if p.1=u then p.2 else eI (r.map _) u)=if k=u then v else(if p.1=u then p.2 else eI r u)
   rw[Cl r k u v h3]
   grind
theorem Cm(l:List SI)(k u:ByteArray)(v:Int):eI (zX l k v) u=if k=u then v else eI l u:=by
 unfold zX
 by_cases h:l.any (λp=>decide (p.1=k))=true
 .rw[ej h,Cl l k u v h]
 rw[ei h,HG l k u v λp B e=>h (ya.2 ⟨p,B,ew e⟩)]
def adW{l:List SI}{k:ByteArray}{v:Int}(h:∀p∈l,p.2≠0)(B:v≠0):∀p∈zX l k v,p.2≠0:=by
 intro p u
 unfold zX at u
 grind
section
variable {P:Program}{w w0 w':World}{A:Nat->Prop}{L:List HP}{b:Nat}{l:List SI}
theorem YN{T M E:TypeId}{v:Int}{k:ByteArray}(h:uV w b l)(ht:P.underlying T=some (.map M E))(J:P.underlying M=some .string) :
  ∃w',(xu T (.map (some b)) (.string k) (hZ v)).run P w=.ok () w'/\gz (· = b) w w'/\uV w' b (zX l k v):=by
 by_cases eH:∀p∈l,p.1≠k
 .have:l.any (λp=>decide (p.1=k))=false:=by
   grind
  unfold zX
  rw[ei cL]
  exact L5 h ht J eH
 have Z:l.any (λp=>decide (p.1=k))=true:=by
  grind
 unfold zX
 rw[ej Z]
 have nS:=h.lt
 obtain⟨es,c,h1,h2,h3⟩:=h
 have hc:=MapKept.run_checkKey (P:=P) (w:=w) (kt:=M) (k:=.string k) J (by simp[IsKey]) false 9999
 rcases MapKept.findNow_spec (d:=.string) (k:=.string k) (by simp[IsKey]) es.toList 0 (λx G=>by obtain⟨p,_,e,_⟩:=XB h3 G;rw[e];simp[IsKey])with⟨V,g2⟩|⟨j,e,V,g2,g4⟩
 .obtain⟨p,W,he⟩:=ya.1 Z
  obtain⟨x,G,e1,_⟩:=XC h3 W
  grind
 have Y:=MapKept.run_findKey (P:=P) (w:=w) J V
 rw[Nat.zero_add]at Y
 have U:es[j]?=some e:=cL
 have iV:(Oh e.key (.string k)).run P w=.ok (.string k) w:=by
  have wh:(k == k)=true:=by cases k with|mk d=>exact beq_self_eq_true d
  rw[g4];unfold Oh;simp[Instr.sameBits,wh]
 refine⟨_,?_,gz.setBlock w b (.map (es.modify j λe=>{e with key:=.string k,val:=hZ v}) c),?_⟩
 .simp[xu,run_underlying ht,MapKept.run_getObj_map h1,hc,Y,og h1,Result.andThen,U,iV]
 have Kp:∀u,es[j]?=some u->({u with key:=.string k,val:=hZ v}:MapEntry).key=u.key:=λu B=>by
  grind
 refine⟨_,_,kj _ nS,MapKept.stamped_modify h2 j _ (λ_ _=>rfl) (λu _ B=>Kp u B),?_⟩
 let g:Value×Value->Value×Value:=λq=>match q.1 with|.string s=>if s=k then(.string k,hZ v)else q|_=>q
 have hg:(es.modify j λe=>{e with key:=.string k,val:=hZ v}).toList.map (λe=>(e.key,e.val))=(es.toList.map λe=>(e.key,e.val)).map g:=by
  apply List.ext_getElem?
  intro i
  simp only[pO,Array.getElem?_toList,Array.getElem?_modify]
  by_cases O:j=i
  .grind
  .rw[ei O]
   cases G:es[i]? with
   | none=>rfl
   | some x=>
    have Gs:x.key≠.string k:=λhxk=>by
     have hi:=(Fy.1 G)
     have hj:=(Fy.1 U)
     obtain⟨hi1,VI⟩:=hi
     obtain⟨hj1,Bj⟩:=hj
     have W:=RX.1 h2.2.2
     grind
    grind
 have hl:(l.map λp=>if p.1=k then(k,v)else p).map Sb=(l.map Sb).map g:=by
  rw[Km,Km]
  refine CI λp _=>?_
  show Sb (if p.1=k then(k,v)else p)=g (Sb p)
  by_cases I:p.1=k
  .rw[ej I];simp[g,Sb,I]
  .rw[ei I];simp[g,Sb,I]
 grind
theorem YO{T I E:TypeId}{v:Int}{k:ByteArray}{K:hM}(G:St w0 A (Fw.nt b l::L) w)(ht:P.underlying T=some (.map I E))(u:P.underlying I=some .string)
  (J:∀w',St w0 A (Fw.nt b (zX l k v)::L) w'->K w'):Vx P (xu T (.map (some b)) (.string k) (hZ v)) w K:=by
 obtain⟨w',h1,h2,h3⟩:=YN (P:=P) (v:=v) (k:=k) G.nt ht u
 exact⟨w',h1,J w' (G.rF λF B=>⟨F,⟨h3,B.2⟩,λb hb=>.inl hb,h2.mono λk u=>(B.2 k).2 u⟩)⟩
end
end Go.Fw
namespace Go.Proofs.YtpdlpabnlkofmaaGreatDoor
open Go.Fw
def sM(b3 b4 B u:Nat)(l:List SI)(tw:Bool)(a:Int):HP:=sep (bY b3 [.map (some u)]) (sep (bY b4 [.bool tw]) (sep (bY B [hZ a]) (nt u l)))
def sM.shut{w0 w:World}{A:Nat->Prop}{L:List HP}{b3 b4 B u:Nat}{l:List SI}{tw:Bool}{a:Int}(E:St w0 A (nt u l::bY B [hZ a]::bY b4 [.bool tw]::bY b3 [.map (some u)]::L) w):St w0 A (sM b3 b4 B u l tw a::L) w:=
 St.join (St.join (St.join E.p1).p1).p1
def sM.open{w0 w:World}{A:Nat->Prop}{L:List HP}{b3 b4 B u:Nat}{l:List SI}{tw:Bool}{a:Int}(E:St w0 A (sM b3 b4 B u l tw a::L) w):St w0 A (nt u l::bY B [hZ a]::bY b4 [.bool tw]::bY b3 [.map (some u)]::L) w:=
 E.split.p1.split.p1.split.p1
def atN(l:List SI)(name:ByteArray)(tw:Bool)(place a:Int):Int:=if eI l name≠0/\tw=false then place else a
def twN(l:List SI)(name:ByteArray)(tw:Bool):Bool:=tw||decide (eI l name≠0)
theorem C176(name:ByteArray)(B place:Int)(b3 b4 E G:Nat)(l:List SI)(tw:Bool)(a:Int)(F:Nat->Prop)(w:World)(M:(sM b3 b4 E G l tw a).p w F) :
  CR 176 [.string name,hZ B,hZ place,.pointer (some ⟨b3,0,none⟩),.pointer (some ⟨b4,0,none⟩),.pointer (some ⟨E,0,none⟩)] w (λv w'=>v=.tuple #[]/\mU F (sM b3 b4 E G (zX l name B) (twN l name tw) (atN l name tw place a)) w w'):=by
 have u:=sM.open (St.begin M);refine eZ Tryz.func176 ?_;refine⟨λw'=>St w F [nt G l,bY E [hZ (atN l name tw place a)],bY b4 [.bool (twN l name tw)],bY b3 [.map (some G)]] w',⟨λO w'=>O=.bool (decide (eI l name≠0)&&!tw)/\w'=w,aB Hj u.p3.hb rfl (yq u.nt Tryz.underlying165 Tryz.underlying9 uG (bX (aC (λc=>aB AB u.p2.hb rfl (bR ⟨vb (by rw[ew c,Ac]),rfl⟩)) λc=>⟨vb (by rw[fP c,Ra]),rfl⟩))),?_⟩,?_⟩
 .rintro _ _ ⟨rfl,rfl⟩ _;refine aY (λc=>?_) (λc=>?_)
  .have hc:eI l name≠0/\tw=false:=by simpa using c
   refine aT u.p1 bL (dL rfl) rfl (λ_ u=>aT u.p2 AB (dL rfl) rfl λ_ u=>?_);have I:atN l name tw place a=place:=ej hc;have J:twN l name tw=true:=by unfold twN;rw[ew hc.1,Bool.or_true]
   rw[I,J];exact u.p1.p2
  have hc:¬ (eI l name≠0/\tw=false):=by simpa using c
  have I:atN l name tw place a=a:=ei hc
  have J:twN l name tw=tw:=by
   unfold twN;cases tw with
   | true=>rfl
   | false=>rw[Bool.false_or];exact fP λh=>hc ⟨h,rfl⟩
  rw[I,J];exact u
 rintro _ u _;exact aB Hj u.p3.hb rfl (YO u Tryz.underlying165 Tryz.underlying9 λ_ u=>⟨rfl,(sM.shut u).mut⟩)
def YP(st:List SI×Bool×Int)(q:ByteArray×Int×Int):List SI×Bool×Int:=(zX st.1 q.1 q.2.1,twN st.1 q.1 st.2.1,atN st.1 q.1 st.2.1 q.2.2 st.2.2)
def CW(p:cB)(i:Int):Int:=if (p.lines.length:Int)<=i then 2 else 1
def VJ(p:cB):List (ByteArray×Int×Int):=(uj p).map λq=>(q.1.name,CW p q.2,q.1.at_)
def Us(p:cB):List (ByteArray×Int×Int):=p.eK.map λc=>(c.name,3,c.at_)
def VK(p:cB):List (ByteArray×Int×Int):=p.threads.map λt=>(t.name,4,t.at_)
def Ai(l:List (ByteArray×Int×Int))(st:List SI×Bool×Int):List SI×Bool×Int:=l.foldl YP st
def CX(p:cB):List SI×Bool×Int:=Ai (VK p) (Ai (Us p) (Ai (VJ p) ([],false,0)))
theorem FB{l:List (ByteArray×Int×Int)}{st:List SI×Bool×Int}{k:Nat}{q:ByteArray×Int×Int}(h:l[k]?=some q):Ai (l.take (k+1)) st=YP (Ai (l.take k) st) q:=by
 unfold Ai;rw[<- gM h,List.foldl_append];rfl
abbrev NO(b3 b4 u B:Nat)(st:List SI×Bool×Int):HP:=sM b3 b4 u B st.1 st.2.1 st.2.2
def C107(p:cB)(pv:bP)(w:World)(hp:ml w pv p)(hz:PZ p):CR 107 [j0 pv] w (λv w'=>∃G,v=.tuple #[.map (some G),hZ (CX p).2.2,.bool (CX p).2.1]/\kV (nt G (CX p).1) w w'):=by
 have hac:=kY hz.toPS;have oO:(uj p).length=(iv p).length:=u5 p;have hzl:=hz.lines;have hzk:=hz.eK;have hzt:=hz.threads;obtain⟨I,Z,V,U,aX,bG,rfl,cQ,dG,cW,cC,cD,cP⟩:=hp;obtain⟨Xd,hR1,hD1⟩:=cQ.open;have Xe:=hD1.1;obtain⟨vD,YB,YC⟩:=cC.open;have hn3:=YC.1;have hKr:=DL.flat cW;have u:=St.start w;refine oL Tryz.func107 (pl:=axa) ?_;refine cG u (λbp w1 u=>L6 u λG _ u=>gF u RO rfl λb3 _ u=>aT u Hj (dL rfl) rfl λ_ u=>gF u uG rfl λE _ u=>gF u Ws rfl λb4 _ u=>aT u AB (dL rfl) rfl λ_ u=>gF u acB rfl λb8 _ u=>aT u RS (dL rfl) rfl λ_ u=>aD eg u.p5.At (have u:=sM.shut (a:=0) (tw:=false) u.p3.p2.p3.p4;dM Sy (C115 _ _) ?_))
 rintro _ _ ⟨b,rfl,cJ⟩;have u:=u.made cJ
 refine wZ (cap:=[.pointer (some ⟨b,0,none⟩)]) (xs:=(uj p).map λq=>[j0 q.1,hZ q.2]) Sz u
  (λk M=>M=[bY b (kp (⟨I,Z,V,U,aX,bG⟩:bP)),NO b3 b4 E G (Ai ((VJ p).take k) ([],false,0)),bY b8 [(.func (.func 176) [].toArray [.pointer (some ⟨b3,0,none⟩),.pointer (some ⟨b4,0,none⟩),.pointer (some ⟨E,0,none⟩)].toArray)],bY bp (kp (⟨I,Z,V,U,aX,bG⟩:bP))]) (λ_ _=>False) rfl (by intro x hx;obtain⟨q,_,rfl⟩:=oG.1 hx;rfl) ?_ ?_ ?_ ?_ ?_ ?_
 .intro y J Jx W hJ YK TU hy;refine(C195 y b I Z p J Jx w W hz.toPS cQ (DL.flat dG) (λk W O=>?_) YK TU λk c i W hx O=>hy k [j0 c,hZ i] W (by rw[pO,hx];rfl) O).mono λ_ _ r=>r.mono λv W' h=>?_
  .obtain⟨Y,M,rfl,hS⟩:=hJ k W O;exact⟨hS.p1.hb.cell rfl,hS.p1.hb.cell rfl,hS.aG⟩
  simpa using h
 .rintro k args Y1 Y2 B Kr M W O rfl hB hN hR u;rw[pO]at O;obtain⟨q,hq,rfl⟩:=Jh.1 O;have hc:(VJ p)[k]?=some (q.1.name,CW p q.2,q.1.at_):=by unfold VJ;rw[pO,hq];rfl
  dsimp only[Eg];refine aM u oX (λb9 _ u=>aJ (x:=q.1) u mf rfl rfl λ_ u=>?_);refine hB _ _ _ u.p1 (λSD u=>?_);refine⟨λjv w'=>jv=hZ (CW p q.2)/\w'=SD,aA gB (aB (v:=j0 I) oS u.p5.hb rfl (aK pL (hR1.ext u.aG) (cR (aC (λ_=>⟨gQ (n3 .i64) (ej bO).symm,rfl⟩) λ_=>⟨gQ (n3 .i64) (ei bO).symm,rfl⟩)))),?_⟩;rintro _ _ ⟨rfl,rfl⟩ _;refine aB RS u.p4.hb rfl (aA kS (aB (v:=.string q.1.name) gA u.p1.hb rfl (aA uL (aB (v:=hZ q.1.at_) bL u.p1.hb rfl (A8 (first:=[]) (cap:=[.pointer (some ⟨b3,0,none⟩),.pointer (some ⟨b4,0,none⟩),.pointer (some ⟨E,0,none⟩)]) (H':=λ_=>NO b3 b4 E G (YP (Ai ((VJ p).take k) ([],false,0)) (q.1.name,(CW p q.2),q.1.at_))) (Φ:=λv _=>v=.tuple #[]) YM u.p3 (λF hF _=>C176 q.1.name (CW p q.2) q.1.at_ b3 b4 E G _ _ _ F _ hF) λv _ _ u=>?_)))))
  refine hN _ _ ?_ rfl;rw[FB hc];exact u.p2.drop.p2.p2
 .rintro D M W rfl u;rw[n4,show(VJ p).take (uj p).length=VJ p from ld (by unfold VJ;rw[n4];exact pb _)]at u;obtain⟨s0,hs0⟩:∃s,s=Ai (VJ p) ([],false,0):=⟨_,rfl⟩;rw[<- hs0]at u;refine aA nT (aB (v:=j0 V) jO u.p4.hb rfl (aK iu (hKr.ext u.aG) ?_));refine⟨λm x w1=>∃k:Nat,x=hZ (k:Int)/\m=p.eK.length-k/\k<=p.eK.length/\St w aZ [nJ D (.deferred (some [])),bY b (kp (⟨I,Z,V,U,aX,bG⟩:bP)),NO b3 b4 E G (Ai ((Us p).take k) s0),bY b8 [(.func (.func 176) [].toArray [.pointer (some ⟨b3,0,none⟩),.pointer (some ⟨b4,0,none⟩),.pointer (some ⟨E,0,none⟩)].toArray)],bY bp (kp (⟨I,Z,V,U,aX,bG⟩:bP))] w1,⟨_,0,rfl,rfl,l6 _,(by rw[show Ai ((Us p).take 0) s0=s0 from rfl];exact u)⟩,?_⟩
  rintro m _ _ ⟨k,rfl,rfl,O,u⟩ _;refine aR (aC (λc=>?_) λc=>?_)
  .obtain⟨x,hx⟩:=gx p.eK (i:=((k:Nat):Int).toNat) bO;have hx':p.eK[k]?=some x:=hx;have hc:(Us p)[k]?=some (x.name,3,x.at_):=by unfold Us;rw[pO,hx'];rfl
   refine aQ iu hKr bO hx (λq hq=>aD mf (hq.ext u.aG) (aM u oX λb9 _ u=>aJ (x:=x) u mf rfl rfl λ_ u=>aB RS u.p4.hb rfl (aA kS (aB (v:=.string x.name) gA u.hb rfl (aA uL (aB (v:=hZ x.at_) bL u.hb rfl (A8 (first:=[]) (cap:=[.pointer (some ⟨b3,0,none⟩),.pointer (some ⟨b4,0,none⟩),.pointer (some ⟨E,0,none⟩)]) (H':=λ_=>NO b3 b4 E G (YP (Ai ((Us p).take k) s0) (x.name,3,x.at_))) (Φ:=λv _=>v=.tuple #[]) YM u.p3 (λF hF _=>C176 x.name 3 x.at_ b3 b4 E G _ _ _ F _ hF) λv _ _ u=>aO bO ?_)))))));refine⟨_,bO,k+1,rfl,rfl,bO,?_⟩
   rw[FB hc];exact u.p1.drop.p2.p2
  rw[show(Us p).take k=Us p from ld (by unfold Us;rw[n4];omega)]at u;obtain⟨s1,Ut⟩:∃s,s=Ai (Us p) s0:=⟨_,rfl⟩;rw[<- Ut]at u;refine aA kI (aB (v:=j0 U) iC u.p4.hb rfl (aK fx (YB.ext u.aG) ?_));refine⟨λm x w1=>∃k:Nat,x=hZ (k:Int)/\m=vD.length-k/\k<=vD.length/\St w aZ [nJ D (.deferred (some [])),bY b (kp (⟨I,Z,V,U,aX,bG⟩:bP)),NO b3 b4 E G (Ai ((VK p).take k) s1),bY b8 [(.func (.func 176) [].toArray [.pointer (some ⟨b3,0,none⟩),.pointer (some ⟨b4,0,none⟩),.pointer (some ⟨E,0,none⟩)].toArray)],bY bp (kp (⟨I,Z,V,U,aX,bG⟩:bP))] w1,⟨_,0,rfl,rfl,l6 _,(by rw[show Ai ((VK p).take 0) s1=s1 from rfl];exact u)⟩,?_⟩
  rintro m _ _ ⟨k,rfl,rfl,O,u⟩ _;refine aR (aC (λc=>?_) λc=>?_)
  .obtain⟨t,ht⟩:=gx vD (i:=((k:Nat):Int).toNat) bO;obtain⟨r,hr⟩:=gx p.threads (i:=k) bO;obtain⟨gr,gb,rfl,_,_⟩:=YC.2 _ _ _ ht hr;have hc:(VK p)[k]?=some (r.name,4,r.at_):=by unfold VK;rw[pO,hr];rfl
   refine aQ fx YB bO ht (λq hq=>aD nc (hq.ext u.aG) (aM u tJ λb9 _ u=>aJ u nc rfl rfl λ_ u=>aB RS u.p4.hb rfl (aA qx (aB (v:=.string r.name) gA u.hb rfl (aA qy (aB (v:=hZ r.at_) bL u.hb rfl (A8 (first:=[]) (cap:=[.pointer (some ⟨b3,0,none⟩),.pointer (some ⟨b4,0,none⟩),.pointer (some ⟨E,0,none⟩)]) (H':=λ_=>NO b3 b4 E G (YP (Ai ((VK p).take k) s1) (r.name,4,r.at_))) (Φ:=λv _=>v=.tuple #[]) YM u.p3 (λF hF _=>C176 r.name 4 r.at_ b3 b4 E G _ _ _ F _ hF) λv _ _ u=>aO bO ?_)))))));refine⟨_,bO,k+1,rfl,rfl,bO,?_⟩
   rw[FB hc];exact u.p1.drop.p2.p2
  rw[show(VK p).take k=VK p from ld (by unfold VK;rw[n4];omega),Ut,hs0]at u;have u:=sM.open u.drew.p2;refine aB Hj u.p3.hb rfl (aB bL u.p1.hb rfl (aB AB u.p2.hb rfl ?_));refine Ey u.p4 (λ_ u=>?_);exact⟨G,rfl,u.p1.drop.p1.drop.p1.drop.p1.drop.p1.drop.p1.drop.fresh⟩
 .rintro D M W h;exact h.elim
 .rintro id D M W h;exact h.elim
 rintro c M h;exact h.elim
def vG(u:ByteArray)(E:Int)(G:Option Addr)(B I:Nat):pr hH (Instr.build 177 [(0,.string u),(1,hZ E),(2,.slice G B I)].toArray)=some (.agg [.string u,hZ E,.slice G B I].toArray):=by kernel_rfl
structure JG where
 name:ByteArray
 at_:Int
 may:SV
instance:Flat JG where
 agg:=true
 sz:=3
 enc e:=[.string e.name,hZ e.at_,.slice e.may.a e.may.n e.may.cap]
 val e:=.agg [.string e.name,hZ e.at_,.slice e.may.a e.may.n e.may.cap].toArray
 pos:=dD
 len _:=rfl
 one a v h:=by simp at h;rcases h with rfl|rfl|rfl<;>rfl
 nD _ _:=rfl
 nX h:=by cases h
variable (w:World) (K:Value->hM)
theorem agT:PL 193:=dJ Tryz.func193
theorem aqr:PL 113:=dJ Tryz.func113
theorem aqs:PL 192:=dJ Tryz.func192
end Go.Proofs.YtpdlpabnlkofmaaGreatDoor
namespace Go.Fw
def Qd:List Nat->HP
 | []=>eF λ_=>True
 | D::r=>sep (nJ D (.deferred (some []))) (Qd r)
def adY(P:Program)(w0:World)(A:Nat->Prop)(I:Nat->List HP->Prop)(B:hM)(y:Value)(E:Nat->List Value->(hM)->Prop):Prop:=
 ∀k args Φ W (R:HP) L,E k args Φ->(∀F u,R.p u F->Φ u)->I k L->St w0 A (R::L) W->kK P y args W (λv u=>(v=.bool true/\∃L',I (k+1) L'/\St w0 A (R::L') u)\/(v=.bool false/\B u))
section
variable {P:Program}{w w0 w':World}{A:Nat->Prop}{L:List HP}
theorem Qd.nil(u:St w0 A L w):St w0 A (Qd []::L) w:=u.fr λ_=>trivial
theorem Qd.take{K:hM}:∀(ds:List Nat) {w:World},St w0 A (Qd ds::L) w->(∀w',St w0 A L w'->K w')->mV ds w K
 | [],_,u,k=>k _ u.drop
 | D::r,_,u,k=>by
  have h1:=u.split
  exact⟨h1.obj,Qd.take r (h1.putObj _).drop k⟩
theorem YQ{gf np:Nat}{cap:List Value}(n:Nat)(Ar:Nat->List Value->(hM)->Prop){round:List Value->World->(World->(hM)->Prop)->(Option Code->hM)->Prop}
  {N R:Nat->hM}{X:Nat->Nat->hM}(pl:Plain P gf) (hs:St w0 A L w) (I:Nat->List HP->Prop) (V:Code->List HP->Prop) (h0:I 0 L) (hnp:∀k a Φ,Ar k a Φ->a.length=np)
  (hgf:∀(y:Value) (Y:HP) (Z:hM) (W:World),(∃M,I 0 M/\St w0 A (Y::M) W)->adY P w0 A (λk L=>∃M,I k M/\L=Y::M) Z y Ar->
   Calls P gf ([y]++cap).toArray W (ub λ_ O=>(∃M,I n M/\St w0 A (Y::M) O)\/Z O))
  (Eh:∀k args Φ (Y1 Y2:HP) (B:World->(hM)->Prop) (Kr:Option Code->hM) M W,Ar k args Φ->I k M->(∀F O,Y2.p O F->Φ O)->
   (∀M u (kk:hM),St w0 A (Y1::M) u->(∀w2,St w0 A (Y2::M) w2->kk w2)->B u kk)->
   (∀M u,St w0 A (Y2::M) u->I (k+1) M->Kr none u)->(∀c M u,St w0 A (Y2::M) u->V c M->Kr (some c) u)->
   St w0 A (Y1::M) W->round args W B Kr)
  (WO:∀D M W,I n M->St w0 A (nJ D (.deferred (some []))::M) W->N D W)
  (ahU:∀D M W,V .ret M->St w0 A (nJ D (.deferred (some []))::M) W->R D W)
  (WQ:∀id D M W,V (.exit id) M->St w0 A (nJ D (.deferred (some []))::M) W->X id D W)
  (O1:∀c M,V c M->(∃id,c=.exit id)\/c=.ret) :
  Au P (.func (.func gf) #[] cap.toArray) np w round (aft N R X):=by
 refine⟨gf,cap.toArray,rfl,pl,λG iV BL hy=>?_⟩
 obtain⟨l,hl⟩:∃l,l=w.heap.size+1:=⟨_,rfl⟩
 obtain⟨D,hD⟩:∃D,D=w.heap.size:=⟨_,rfl⟩
 rw[<- hl]at hy |-
 rw[<- hD]
 let Y:HP:=sep (nJ l (.loop G)) (nJ D (.deferred (some [])))
 let Z:hM:=λW=>∃c M,V c M/\St w0 A (nJ l (.loop {G with state:=.done,pending:=some c})::nJ D (.deferred (some []))::M) W
 have TU:∃M,I 0 M/\St w0 A (Y::M) ((w.alloc (.deferred (some []))).alloc (.loop G)):=by
  refine⟨L,h0,?_⟩
  have h1:=(hs.alloc (o:=.deferred (some []))).alloc (o:=.loop G)
  rw[show(w.alloc (.deferred (some []))).heap.size=l from by rw[hl];exact BY w _,<- hD]at h1
  exact St.join h1
 have:=hgf (.func (.yield l) #[] #[]) Y Z _ TU ?_
 .have e:([Value.func (.yield l) #[] #[]]++cap).toArray = #[.func (.yield l) #[] #[]]++cap.toArray:=ee
  rw[e]at this
  refine this.mono λx O ⟨v,hx,hv⟩=>⟨v,hx,?_⟩
  rcases hv with⟨M,J,E⟩|⟨c,M,J,E⟩
  .have E:=E.split
   refine⟨.ready,none,ee,?_,?_⟩
   .rw[<- iV,<- BL];exact E.obj
   exact WO D M _ J (E.putObj _).drop
  refine⟨.done,some c,ee,E.obj,?_⟩
  rcases O1 c M J with⟨id,rfl⟩|rfl
  .exact WQ id D M _ J (E.putObj _).drop
  exact ahU D M _ J (E.putObj _).drop
 rintro k args Φ W R _ hk hR ⟨M,J,rfl⟩ E
 have U:=E.p1.split
 refine⟨.inr ⟨l,rfl,?_⟩⟩
 refine hy args W _ (hnp k args Φ hk) U.obj ?_
 refine Eh k args Φ (sep (sep (nJ l (.loop G)) (nJ D (.deferred (some [])))) R) (sep (sep (nJ l (.loop {G with state:=.busy})) (nJ D (.deferred (some [])))) R) _ _ M W hk J (λF W2 ⟨_,F2,_,h2,_⟩=>hR F2 W2 h2)
  (λM u kk h1 h2=>?_) (λM u h1 h2=>?_) (λc M u h1 h2=>?_) (St.join (St.join U))
 .have h1:=h1.split.split
  exact⟨h1.obj,h2 _ (h1.putObj _).join.join⟩
 .have h1:=h1.split.split
  refine⟨h1.obj,.inl ⟨rfl,_,⟨M,h2,rfl⟩,?_⟩⟩
  have:=h1.putObj (.loop {G with state:=if (none:Option Code).isNone=true then LoopState.ready else LoopState.done,pending:=none})
  rw[Ez G iV BL]at this |-
  exact(St.join this).p1
 have h1:=h1.split.split
 refine⟨h1.obj,.inr ⟨rfl,c,M,h2,?_⟩⟩
 exact(h1.putObj _).p2.drop
end
end Go.Fw
namespace Go.Proofs.YtpdlpabnlkofmaaGreatDoor
open Go.Fw
abbrev UU:=ByteArray×Int×List Int
def qK(xs:List cA):List cA:=xs.filter λx=>decide (x.op=2)
theorem HH{xs:List cA}{k:Nat}{x:cA}(h:xs[k]?=some x):qK (xs.take (k+1))=qK (xs.take k)++(if x.op=2 then [x]else []):=by
 unfold qK;rw[<- gM h,Bl];grind
def adZ{xs:List cA}{k:Nat}{x:cA}(h:xs[k]?=some x)(u:x.op=2):(qK xs)[(qK (xs.take k)).length]?=some x:=by
 have h1:=drop_cons h
 have e:qK xs=qK (xs.take k)++qK (xs.drop k):=by unfold qK;rw[<- Bl,qa]
 grind[qK]
def SE(l:List UU)(k:Nat)(args:List Value)(Φ:hM):Prop:=∃u s,l[k]?=some u/\args=[j0 (⟨u.1,u.2.1,s⟩:JG)]/\∀W,Φ W->dA (λ_=>True) W (j0 s) u.2.2
def axc{H H':HP}{Φ:hM}(h:∀F W,H.p W F->Φ W):∀F W,(sep H H').p W F->Φ W:=λ_ _ ⟨_,_,h1,_⟩=>h _ _ h1
def JH{α:Type}[Flat α]{v:Value}{xs:List α}:∀F W,(bH v xs).p W F->dA (λ_=>True) W v xs:=λ_ _ h=>(bH.rd h).mono λ_ _=>trivial
def C193(lv y:Value)(xs:List cA)(may:Int)(ul:List UU)(E:Nat)(w0:World)(A:Nat->Prop)(I:Nat->List HP->Prop)(Y:hM)(w:World)(hn:xs.length<=1048576)
  (hE:∀k L W,I k L->St w0 A L W->dA (λ_=>True) W lv xs) (h0:∃L,I E L/\St w0 A L w) (hu:∀(j:Nat) (x:cA),(qK xs)[j]?=some x->ul[E+j]?=some (x.name,x.at_,[may])) (hy:adY hH w0 A I Y y (SE ul)) :
  CR 193 [lv,hZ may,y] w (λv W=>(v=.bool true/\∃L,I (E+(qK xs).length) L/\St w0 A L W)\/(v=.bool false/\Y W)):=by
 refine eZ Tryz.func193 ?_;obtain⟨L0,J,G⟩:=h0;refine aK gY (hE _ _ _ J G) ?_;refine⟨λm x w1=>∃k:Nat,x=hZ (k:Int)/\m=xs.length-k/\k<=xs.length/\∃L,I (E+(qK (xs.take k)).length) L/\St w0 A L w1,⟨_,0,rfl,rfl,l6 _,L0,J,G⟩,?_⟩;rintro m _ w1 ⟨k,rfl,rfl,hk,L1,B,u⟩ _;refine aR (aC (λc=>?_) λc=>?_)
 .obtain⟨x,M⟩:=gx xs (i:=((k:Nat):Int).toNat) bO;refine aQ gY (hE _ _ _ B u) bO M (λq hq=>aD si hq (aM u yk λb8 _ u=>aJ (x:=x) u si rfl rfl λ_ u=>⟨λjv w'=>(jv=.bool false/\∃L,I (E+(qK (xs.take (k+1))).length) L/\St w0 A L w')\/(jv=.bool true/\Y w'),aA fa (aB (v:=hZ x.op) bL u.hb rfl (aH (aC (λO=>?_) λO=>?_))),?_⟩))
  .refine aA gm (aB (v:=.string x.name) gA u.hb rfl (aA sj (aB (v:=hZ x.at_) bL u.hb rfl (bD ([may]:List Int) u.drop cS rfl rfl (dL rfl) λs25 w4 u=>?_))));obtain⟨sv,rfl⟩:=u.dS.fK;refine pop (vG x.name x.at_ sv.a sv.n sv.cap) ?_;refine kK.mono (hy _ _ _ w4 _ _ ⟨_,sv,hu _ x (adZ M O),rfl,λ_ h=>h⟩ JH B u) ?_;rintro v w5 (⟨rfl,V,Oq,U⟩|⟨rfl,Z⟩)
   .exact bR (.inl ⟨rfl,V,by rw[HH (k:=k) M,ej O,l1];exact Oq,U.drop⟩)
   exact bR (.inr ⟨rfl,Z⟩)
  .refine .inl ⟨rfl,L1,?_,u.drop⟩;rw[HH (k:=k) M,ei O,List.append_nil];exact B
  rintro _ w6 (⟨rfl,V,Oq,u⟩|⟨rfl,Z⟩) _
  .exact fw (aO bO ⟨_,bO,k+1,rfl,rfl,bO,V,Oq,u⟩)
  exact iB (.inr ⟨rfl,Z⟩)
 rw[ld bO]at B;exact .inl ⟨rfl,L1,B,u⟩
def JI(k:Int):List Int:=if k=5\/k=6 then [1]else if k=9\/k=10 then [3]else [1,2]
def Cn(l:List cA):List UU:=(qK l).map λy=>(y.name,y.at_,[5])
def Co(x:bQ):List UU:=(if x.eG=⟨#[]⟩then []else [(x.eG,x.at_,[5])])++((if x.name=⟨#[]⟩then []else [(x.name,x.at_,JI x.kind)])++(Cn x.e++Cn x.f))
def oM(xs:List bQ):List UU:=xs.flatMap Co
theorem HI{xs:List bQ}{k:Nat}{x:bQ}(h:xs[k]?=some x):oM (xs.take (k+1))=oM (xs.take k)++Co x:=by
 unfold oM;rw[<- gM h,Ns];simp
def ad1{xs:List bQ}{k i:Nat}{x:bQ}{u:UU}(h:xs[k]?=some x)(hi:(Co x)[i]?=some u):(oM xs)[(oM (xs.take k)).length+i]?=some u:=by
 have e:oM xs=oM (xs.take k)++(Co x++oM (xs.drop (k+1))):=by
  rw[<- n5,<- HI h];unfold oM;rw[<- Ns,qa]
 grind
def SF{l:List cA}{j:Nat}{y:cA}(h:(qK l)[j]?=some y):(Cn l)[j]?=some (y.name,y.at_,[5]):=by unfold Cn;rw[pO,h];rfl
def sN(x:bQ):List UU:=if x.eG=⟨#[]⟩then []else [(x.eG,x.at_,[5])]
def um(x:bQ):List UU:=if x.name=⟨#[]⟩then []else [(x.name,x.at_,JI x.kind)]
theorem Cp(x:bQ):Co x=sN x++(um x++(Cn x.e++Cn x.f)):=rfl
theorem ajd{x:bQ}(h:¬ x.eG=⟨#[]⟩):(sN x).length=1:=by unfold sN;grind
theorem aje{x:bQ}(h:x.eG=⟨#[]⟩):(sN x).length=0:=by unfold sN;grind
theorem ajf{x:bQ}{n:Nat}(h:¬ x.name=⟨#[]⟩):(n+(um x).length)=n+1:=by unfold um;grind
theorem ajg{x:bQ}{n:Nat}(h:x.name=⟨#[]⟩):(n+(um x).length)=n:=by unfold um;grind
def YR{x:bQ}(h:¬ x.eG=⟨#[]⟩):(Co x)[0]?=some (x.eG,x.at_,[5]):=by unfold Co;grind
def YS{x:bQ}(h:¬ x.name=⟨#[]⟩):(Co x)[(sN x).length]?=some (x.name,x.at_,JI x.kind):=by
 rw[Cp,ta (pb _),Nat.sub_self];unfold um;grind
def YT{x:bQ}{j:Nat}{y:cA}(h:(qK x.e)[j]?=some y):(Co x)[(sN x).length+(um x).length+j]?=some (y.name,y.at_,[5]):=by
 have h1:=SF h
 rw[Cp,ta bO,show(sN x).length+(um x).length+j-(sN x).length=(um x).length+j from bO,ta bO,Ix,u3 (kO.1 h1).1,h1]
def YU{x:bQ}{j:Nat}{y:cA}(h:(qK x.f)[j]?=some y):(Co x)[(sN x).length+(um x).length+(qK x.e).length+j]?=some (y.name,y.at_,[5]):=by
 have h1:=SF h
 have h2:(Cn x.e).length=(qK x.e).length:=by unfold Cn;grind
 rw[Cp,ta bO,show(sN x).length+(um x).length+(qK x.e).length+j-(sN x).length=(um x).length+((Cn x.e).length+j)from bO,ta bO,Ix,ta bO,Ix,h1]
theorem YV(x:bQ):(Co x).length=(sN x).length+(um x).length+(qK x.e).length+(qK x.f).length:=by
 rw[Cp];unfold Cn;grind
def C192(y:Value)(b:Nat)(lv:Value)(ts:List bE)(xs:List bQ)(w0:World)(A:Nat->Prop)(I:Nat->List HP->Prop)(Jx:hM)(w:World)(hn:xs.length<=1048576)(hz:∀x∈xs,x.e.length<=1048576/\x.f.length<=1048576)
  (hE:∀k L W,I k L->St w0 A L W->Cell W b 0 lv/\dA (λ_=>True) W lv ts/\gy ts xs W) (h0:∃L,I 0 L/\St w0 A L w) (hy:adY hH w0 A I Jx y (SE (oM xs))) :
  CR 192 [y,.pointer (some ⟨b,0,none⟩)] w (λ_ W=>(∃L,I (oM xs).length L/\St w0 A L W)\/Jx W):=by
 have U:∀b4 (cs:List Value),adY hH w0 A (λj L=>∃M,I j M/\L=bY b4 cs::M) Jx y (SE (oM xs)):=by
  rintro b4 cs k args Φ W R _ h1 h2 ⟨M,h3,rfl⟩ h4;refine kK.mono (hy k args Φ W _ M h1 (axc h2) h3 (St.join h4)) ?_;rintro v W' (⟨rfl,L',h5,h6⟩|h5)
  .exact .inl ⟨rfl,_,⟨L',h5,rfl⟩,h6.split⟩
  grind
 refine eZ Tryz.func192 ?_;obtain⟨M0,hI0,hS0⟩:=h0;obtain⟨CK,C8,zh⟩:=hE _ _ _ hI0 hS0;have Kq:=zh.1;refine bN jR CK (aK fq C8 ?_);refine⟨λm x w1=>∃k:Nat,x=hZ (k:Int)/\m=ts.length-k/\k<=ts.length/\∃L,I (oM (xs.take k)).length L/\St w0 A L w1,⟨_,0,rfl,rfl,l6 _,M0,hI0,hS0⟩,?_⟩;rintro m _ w1 ⟨k,rfl,rfl,hk,M1,hI,B⟩ _;refine aR (aC (λc=>?_) λc=>?_)
 .obtain⟨t,ht⟩:=gx ts (i:=((k:Nat):Int).toNat) bO;obtain⟨x,hx⟩:=gx xs (i:=k) bO;have hxz:=hz x (la hx);obtain⟨u6,BW,V7⟩:=hE _ _ _ hI B;obtain⟨V,Y,rfl,_,_⟩:=V7.2 _ _ _ ht hx
  have hE1:∀k' M W,I k' M->St w0 A M W->dA (λ_=>True) W (j0 V) x.e/\dA (λ_=>True) W (j0 Y) x.f:=λk' M W h1 h2=>by
   obtain⟨_,_,h3⟩:=hE k' M W h1 h2;obtain⟨_,_,h4,h5,h6⟩:=h3.2 _ _ _ ht hx;cases h4
   exact⟨DL.flat h5,DL.flat h6⟩
  have sJ:∀{i:Nat}{u:UU},(Co x)[i]?=some u->(oM xs)[(oM (xs.take k)).length+i]?=some u:=ad1 hx;refine aQ fq BW bO ht (λq hq=>aD eN hq (aM B jA λb4 _ B=>aJ (x:=(⟨x.kind,x.eG,x.name,V,Y,x.n,x.body,x.ey,x.at_⟩:bE)) B eN rfl rfl λ_ B=>?_));refine⟨λE w'=>(E=.bool false/\∃L,I ((oM (xs.take k)).length+(sN x).length) L/\St w0 A ((bY b4 (kp (⟨x.kind,x.eG,x.name,V,Y,x.n,x.body,x.ey,x.at_⟩:bE)))::L) w')\/(E=.bool true/\Jx w'),?_,?_⟩
  .refine aA iH (aB (v:=.string x.eG) gA B.hb rfl (ma (aC (λZ=>?_) λZ=>.inl ⟨rfl,M1,by rw[aje (by simpa using Z)];exact hI,B⟩)));refine aA iH (aB (v:=.string x.eG) gA B.hb rfl (aA lM (aB (v:=hZ x.at_) bL B.hb rfl (bD ([5]:List Int) B cS rfl rfl (dL rfl) λs25 _ B=>?_))));obtain⟨sv,rfl⟩:=B.dS.fK;refine pop (vG x.eG x.at_ sv.a sv.n sv.cap) ?_;refine kK.mono (U b4 _ _ _ _ _ _ _ ⟨_,sv,sJ (i:=0) (YR Z),rfl,λ_ h=>h⟩ JH ⟨_,hI,rfl⟩ B) ?_;rintro v w5 (⟨rfl,_,⟨J,G,rfl⟩,hs2⟩|⟨rfl,HF⟩)
   .exact bR (.inl ⟨rfl,J,by rw[ajd Z];exact G,hs2.drop⟩)
   exact bR (.inr ⟨rfl,HF⟩)
  rintro _ w6 (⟨rfl,J,G,B⟩|⟨rfl,HF⟩) _;rotate_left
  .exact iB (.inr HF)
  refine fw (bD ([1,2]:List Int) B cS rfl rfl (dL rfl) λs26 w7 B=>?_);refine⟨λE w'=>∃sv:SV,E=j0 sv/\St w0 A (bH (j0 sv) (JI x.kind)::(bY b4 (kp (⟨x.kind,x.eG,x.name,V,Y,x.n,x.body,x.ey,x.at_⟩:bE)))::J) w',?_,?_⟩
  .refine aA dO (aB (v:=hZ x.kind) bL B.p1.hb rfl ⟨λE w'=>E=.bool (decide (x.kind=5\/x.kind=6))/\w'=w7,aH (aC (λc3=>⟨vb (by simp[c3]),rfl⟩) λc3=>aH ⟨vb (by simp[c3]),rfl⟩),?_⟩);rintro _ w8 ⟨rfl,rfl⟩ _;refine aC (λc3=>?_) (λc3=>⟨λE w'=>E=.bool (decide (x.kind=9\/x.kind=10))/\w'=w8,aH (aC (λc4=>⟨vb (by simp[c4]),rfl⟩) λc4=>aH ⟨vb (by simp[c4]),rfl⟩),?_⟩)
   .refine bD ([1]:List Int) B cS rfl rfl (dL rfl) (λs32 _ B=>?_);obtain⟨sv,rfl⟩:=B.dS.fK;exact⟨sv,rfl,by rw[JI,ej c3];exact B.p1.drop⟩
   rintro _ _ ⟨rfl,rfl⟩ _;refine aC (λc4=>?_) (λc4=>?_)
   .refine bD ([3]:List Int) B cS rfl rfl (dL rfl) (λs36 _ B=>?_);obtain⟨sv,rfl⟩:=B.dS.fK;exact⟨sv,rfl,by rw[JI,ei c3,ej c4];exact B.p1.drop⟩
   obtain⟨sv,rfl⟩:=B.dS.fK;exact⟨sv,rfl,by rw[JI,ei c3,ei c4];exact B⟩
  rintro _ _ ⟨sv,rfl,B⟩ _;refine⟨λE w'=>(E=.bool false/\∃L,I ((oM (xs.take k)).length+((sN x).length+(um x).length)) L/\St w0 A ((bY b4 (kp (⟨x.kind,x.eG,x.name,V,Y,x.n,x.body,x.ey,x.at_⟩:bE)))::L) w')\/(E=.bool true/\Jx w'),?_,?_⟩
  .refine aA gh (aB (v:=.string x.name) gA B.p1.hb rfl (ma (aC (λZ=>?_) λZ=>.inl ⟨rfl,J,by rw[ajg (by simpa using Z)];exact G,B.drop⟩)));refine aA gh (aB (v:=.string x.name) gA B.p1.hb rfl (aA lM (aB (v:=hZ x.at_) bL B.p1.hb rfl (pop (vG x.name x.at_ sv.a sv.n sv.cap) ?_))));refine kK.mono (U b4 _ _ _ _ _ _ _ ⟨_,sv,sJ (i:=(sN x).length) (YS Z),rfl,λ_ h=>h⟩ JH ⟨_,G,rfl⟩ B) ?_;rintro v w13 (⟨rfl,_,⟨M3,hI3,rfl⟩,hs3⟩|⟨rfl,HF⟩)
   .exact bR (.inl ⟨rfl,M3,by rw[ajf Z];exact hI3,hs3.drop⟩)
   exact bR (.inr ⟨rfl,HF⟩)
  rintro _ SD (⟨rfl,J,G,B⟩|⟨rfl,HF⟩) _;rotate_left
  .exact iB (.inr HF)
  refine fw ?_;refine⟨λE w'=>(E=.bool false/\∃L,I ((oM (xs.take (k+1))).length) L/\St w0 A ((bY b4 (kp (⟨x.kind,x.eG,x.name,V,Y,x.n,x.body,x.ey,x.at_⟩:bE)))::L) w')\/(E=.bool true/\Jx w'),?_,?_⟩
  .refine aA iX (aB (v:=j0 V) jz B.hb rfl (dM agT (C193 _ y x.e 5 (oM xs) ((oM (xs.take k)).length+((sN x).length+(um x).length)) w0 A (λj L=>∃M,I j M/\L=(bY b4 (kp (⟨x.kind,x.eG,x.name,V,Y,x.n,x.body,x.ey,x.at_⟩:bE)))::M) Jx _ (by have:=hxz.1;omega) (λj L W ⟨M,h1,h2⟩ h3=>(hE1 _ _ _ h1 (h2▸h3).drop).1) ⟨_,⟨_,G,rfl⟩,B⟩ (λj _ T0=>by rw[NS];exact sJ (i:=((sN x).length+(um x).length)+j) (YT T0)) (U b4 _)) ?_));rintro v _ O;rw[NS]at O
   rcases O with⟨rfl,_,⟨J,G,rfl⟩,B⟩|⟨rfl,O⟩
   .refine bR (fw (aA j9 (aB (v:=j0 Y) jz B.hb rfl (dM agT (C193 _ y x.f 5 (oM xs) ((oM (xs.take k)).length+((sN x).length+(um x).length+(qK x.e).length)) w0 A (λj L=>∃M,I j M/\L=(bY b4 (kp (⟨x.kind,x.eG,x.name,V,Y,x.n,x.body,x.ey,x.at_⟩:bE)))::M) Jx _ (by have:=hxz.2;omega) (λj L W ⟨M,h1,h2⟩ h3=>(hE1 _ _ _ h1 (h2▸h3).drop).2) ⟨_,⟨_,G,rfl⟩,B⟩ (λj _ T0=>by rw[NS];exact sJ (i:=((sN x).length+(um x).length+(qK x.e).length)+j) (YU T0)) (U b4 _)) ?_))));rintro v _ O;rw[NS]at O
    rcases O with⟨rfl,_,⟨J,G,rfl⟩,B⟩|⟨rfl,O⟩
    .exact bR (.inl ⟨rfl,J,by rw[HI hx,l1,YV];exact G,B⟩)
    exact bR (.inr ⟨rfl,O⟩)
   exact bR (iB (.inr ⟨rfl,O⟩))
  rintro _ w17 (⟨rfl,J,G,B⟩|⟨rfl,HF⟩) _;rotate_left
  .exact iB (.inr HF)
  exact fw (aO bO ⟨_,bO,k+1,rfl,rfl,bO,J,G,B.drop⟩)
 rw[ld bO]at hI;exact .inl ⟨M1,hI,B⟩
def C113(lv:SV)(w:World):CR 113 [j0 lv] w (λv w'=>∃b,v=.func (.func 192) [].toArray [.pointer (some ⟨b,0,none⟩)].toArray/\kV (bY b [j0 lv]) w w'):=by
 have u:=St.start w;refine eZ Tryz.func113 ?_;refine nA u rfl (λb _ u=>?_);exact⟨b,rfl,u.fresh⟩
variable (w:World) (K:Value->hM)
theorem agU:PL 112:=dJ Tryz.func112
end Go.Proofs.YtpdlpabnlkofmaaGreatDoor
namespace Go.Proofs.YtpdlpabnlkofmaaGreatDoor
open Go.Fw
def FC:List SI->List ByteArray->Option (List SI)
 | g,[]=>some g
 | g,n::r=>if eI g n=0 then FC (g++[(n,5)]) r else none
def Uu(l:List SI)(names:List ByteArray):Option (List SI):=FC (l.filter λp=>decide (¬ p.2=4)) names
def ad2{g:List SI}{ns:List ByteArray}{k:Nat}{n:ByteArray}(h:ns[k]?=some n)(u:eI g n=0):FC g (ns.drop k)=FC (g++[(n,5)]) (ns.drop (k+1)):=by
 rw[drop_cons h,FC,ej u]
def ad3{g:List SI}{ns:List ByteArray}{k:Nat}{n:ByteArray}(h:ns[k]?=some n)(u:¬ eI g n=0):FC g (ns.drop k)=none:=by
 rw[drop_cons h,FC,ei u]
def aqv(r:Option (List SI))(v:Value)(w w':World):Prop:=
 (r=none/\v=.tuple #[.map none,.bool true]/\Ext w w')\/∃g b,r=some g/\v=.tuple #[.map (some b),.bool false]/\kV (nt b g) w w'
def C112(tv:cH)(names:List ByteArray)(bm:Nat)(l:List SI)(w:World)(hf:dA (λ_=>True) w (j0 tv.dQ) names)(E:uV w bm l)(hz:∀p∈l,p.2≠0)(hn:names.length<=1073741824) :
  CR 112 [j0 tv,.map (some bm)] w (λv w'=>aqv (Uu l names) v w w'):=by
 have u:=St.start w;have Kq:=E.nodup;obtain⟨es,clock,VD,Y,Z⟩:=E;refine eZ Tryz.func112 ?_;refine cG u (λM w1 u=>L6 u λG _ u=>Ub u Tryz.underlying165 (E4 VD u.aG) λr13 _ u=>?_);refine⟨λW w1=>∃(seen:Array Nat) (O:List SI),W=(leftOf es seen).size/\(∀p,p∈O↔(p∈l/\¬ p.2=4/\∃e∈es.toList,seen.contains e.born=true/\e.key=.string p.1))/\St w aZ [Hx r13 bm clock seen,nt G O,bY M (kp tv)] w1,⟨_,#[],[],rfl,λ_=>⟨λh=>(by cases h),λ⟨_,_,e,_,h,_⟩=>(by simp at h)⟩,u⟩,?_⟩;rintro W w4 ⟨seen,O,rfl,I,u⟩ _;refine XA u (E4 VD u.aG) Y.1 (λh0=>?_) (λe _ U u=>?_)
 .refine aN rfl (fw ?_);have u:=u.drop
  have hg:O.Perm (l.filter λp=>decide (¬ p.2=4)):=by
   have n1:O.Nodup:=(ZE.1 u.nt.nodup).imp λh e=>h (by rw[e]);have n2:l.Nodup:=(ZE.1 Kq).imp λh e=>h (by rw[e]);refine(List.perm_ext_iff_of_nodup n1 (n2.filter _)).2 λp=>?_;rw[I,Ob];refine⟨λ⟨h1,h2,_⟩=>⟨h1,ew h2⟩,λ⟨h1,h2⟩=>⟨h1,gR h2,?_⟩⟩;obtain⟨e,U,h3,_⟩:=XC Z h1;exact⟨e,U,all_seen es seen h0 e U,h3⟩
  have u:St w aZ [nt G (l.filter λp=>decide (¬ p.2=4)),bY M (kp tv)] w4:=u.rF λF hF=>⟨F,⟨hF.1.perm hg,hF.2⟩,λ_ hb=>.inl hb,gz.refl _ _⟩;refine aA fT (aB jj u.p1.hb rfl (aK iD (hf.ext u.aG) ?_));refine⟨λW i w'=>∃(k:Nat) (g:List SI),i=hZ (k:Int)/\W=names.length-k/\k<=names.length/\Uu l names=FC g (names.drop k)/\(∀p∈g,p.2≠0)/\St w aZ [nt G g,bY M (kp tv)] w',⟨_,0,_,rfl,rfl,l6 _,rfl,λp hp=>hz p (Ob.1 hp).1,u⟩,?_⟩;rintro W _ _ ⟨k,g,rfl,rfl,hk,Gq,hzg,u⟩ _;refine aR (aC (λMC=>?_) λMC=>?_)
  .obtain⟨zi,j5⟩:=gx names (i:=(k:Int).toNat) bO;refine aQ iD (hf.ext u.aG) bO j5 (λ_ AZ=>aD gA AZ (yq u.nt Tryz.underlying165 Tryz.underlying9 uG (bX (aC (λlR=>.inl ⟨Gq.trans (ad3 j5 lR),rfl,u.drop.drop.aG⟩) λlR=>?_))));have V:eI g zi=0:=bO
   refine L7 u Tryz.underlying165 Tryz.underlying9 (Ph u.nt.nodup hzg V) (λ_ u=>aO bO ?_)
   exact⟨_,bO,k+1,_,rfl,rfl,bO,Gq.trans (ad2 j5 V),λp hp=>by
    rcases pX.1 hp with h|h
    .exact hzg p h
    .rw[wy.1 h];exact(by decide:(5:Int)≠0),u⟩
  refine .inr ⟨g,G,?_,rfl,u.p1.drop.fresh⟩;rw[Gq,vM bO];rfl
 refine aN rfl (iB ?_);have E:=mem_left U;refine Uc u (E4 VD u.aG) E.1 Y.2.1 ?_;obtain⟨p0,Ot,B,hev⟩:=XB Z E.1;rw[B,hev];refine aN rfl (aN rfl (bX ?_))
 have old:∀q∈O,q.1≠p0.1:=λq hq e=>by
  obtain⟨_,_,J,MD,h1,h2⟩:=(I q).1 hq;rw[e,<- B]at h2;obtain rfl:=key_inj Y.2.2 MD E.1 h2;exact absurd h1 (by simpa using E.2)
 refine aC (λoD=>?_) (λoD=>?_)
 .have u:=u.p1;refine L7 u Tryz.underlying165 Tryz.underlying9 old (λ_ u=>?_);have u:=u.p1;refine⟨_,left_shrinks es seen e U,seen.push e.born,_,rfl,λp=>?_,u⟩;rw[pX,wy,I]
  constructor
  .rintro(⟨h1,h2,J,h3,h4,h5⟩|rfl)
   .exact⟨h1,h2,J,h3,by simp at h4 |-;exact .inl h4,h5⟩
   exact⟨Ot,oD,e,E.1,ee,B⟩
  rintro⟨h1,h2,J,h3,h4,h5⟩
  rcases xr h4 with h|h
  .exact .inl ⟨h1,h2,J,h3,h,h5⟩
  obtain rfl:=born_inj Y.2.1 h3 E.1 h;rw[B]at h5;injection h5 with h5;exact .inr (XD Kq h1 Ot h5.symm)
 refine⟨_,left_shrinks es seen e U,seen.push e.born,O,rfl,λp=>?_,u⟩;rw[I]
 constructor
 .rintro⟨h1,h2,J,h3,h4,h5⟩;exact⟨h1,h2,J,h3,by simp at h4 |-;exact .inl h4,h5⟩
 rintro⟨h1,h2,J,h3,h4,h5⟩
 rcases xr h4 with h|h
 .exact⟨h1,h2,J,h3,h,h5⟩
 obtain rfl:=born_inj Y.2.1 h3 E.1 h;rw[B]at h5;injection h5 with h5;obtain rfl:=XD Kq h1 Ot h5.symm;exact absurd h2 oD
theorem dK{ns:List ByteArray}{s:ByteArray}:0<=cU ns s↔s∈ns:=by
 have h:=Cc ns s
 grind
theorem Bn{ns:List ByteArray}{s:ByteArray}:cU ns s<0↔s ∉ ns:=by rw[<- dK];omega
theorem lY{ns:List ByteArray}{s:ByteArray}(h:s∈ns):∃k:Nat,cU ns s=k/\ns[k]?=some s/\∀j,j<k->ns[j]?≠some s:=by
 unfold cU sC
 cases hf:ns.findIdx? (λy=>decide (y=s))with
 | none=>grind
 | some k=>
  obtain⟨h1,h2,h3⟩:=List.findIdx?_eq_some_iff_getElem.1 hf
  grind
def pY{ns:List ByteArray}{s:ByteArray}{k:Nat}(h:s∈ns):cU ns s<k↔s∈ns.take k:=by
 obtain⟨j,h1,h2,h3⟩:=lY h
 rw[h1]
 constructor
 .intro B;exact zW.2 ⟨j,cL⟩
 intro u
 obtain⟨i,hi⟩:=zW.1 u
 grind
theorem nodup_iff(ns:List ByteArray):ns.Nodup↔∀(k:Nat) (s:ByteArray),ns[k]?=some s->s ∉ ns.take k:=by
 unfold List.Nodup
 rw[RX]
 constructor
 .intro h k s I u
  obtain⟨i,hi⟩:=zW.1 u
  grind
 intro h i j hi E B G
 exact h j _ (l0 E) (zW.2 ⟨i,cL⟩)
theorem zY(l:List cK):kB l=true↔¬ (l.map cK.name).Nodup:=by
 rw[nodup_iff]
 unfold kB
 rw[ya]
 constructor
 .rintro⟨j,B,h⟩ E
  have B:=Nd.1 B
  have J:l[j]?=some l[j]:=l0 B
  rw[yt J,decide_eq_true_iff]at h
  have u:(l[j]).name∈l.map cK.name:=oG.2 ⟨_,aaN B,rfl⟩
  exact E j _ cL ((pY u).1 h)
 intro E
 apply g7
 intro hc
 refine E λk s I u=>hc ⟨k,?_,?_⟩
 .grind
 rw[pO]at I
 obtain⟨c,G,rfl⟩:=Jh.1 I
 rw[yt G,decide_eq_true_iff]
 exact(pY (wM u)).2 u
def ME(p:cB)(rs:List ByteArray):uX p rs=true↔¬ rs.Nodup\/∃s∈rs,s∈cT p\/s∈cM p:=by
 rw[nodup_iff]
 unfold uX
 rw[ya]
 constructor
 .rintro⟨j,u,h⟩
  have u:=Nd.1 u
  have I:rs[j]?=some rs[j]:=l0 u
  have E:=aaN u
  rw[Bb I]at h
  simp only[x6,decide_eq_true_eq,dK]at h
  rcases h with(h|h)|h
  .exact .inl λB=>B j _ I ((pY E).1 h)
  .grind
  grind
 intro B
 rcases B with B|⟨s,J,hc⟩
 .apply g7
  intro hc
  refine B λk s G E=>hc ⟨k,Nd.2 (kO.1 G).1,?_⟩
  rw[Bb G]
  simp only[x6,decide_eq_true_eq]
  exact .inl (.inl ((pY (wM E)).2 E))
 obtain⟨j,u⟩:=zW.1 J
 refine⟨j,Nd.2 (kO.1 u).1,?_⟩
 rw[Bb u]
 simp only[x6,decide_eq_true_eq,dK]
 rcases hc with hc|hc
 .exact .inl (.inr hc)
 exact .inr hc
def nmQ(p:cB):List (ByteArray×Int×Int):=VJ p++(Us p++VK p)
theorem SG(p:cB):CX p=Ai (nmQ p) ([],false,0):=by simp_all[SI,CX,Ai,nmQ]
theorem Cq(p:cB):(nmQ p).map (·.1)=(fQ p).map cK.name:=by
 unfold nmQ VJ Us VK fQ
 rw[<- Bm]
 simp only[vH,Km,n5]
 rfl
theorem YW(p:cB):∀q∈nmQ p,q.2.1≠0:=by
 intro q u
 unfold nmQ VJ Us VK CW at u
 grind
theorem YX:∀(l:List (ByteArray×Int×Int)) (st:List SI×Bool×Int),(∀q∈l,q.2.1≠0)->
  ((Ai l st).2.1=true↔st.2.1=true\/¬ (l.map (·.1)).Nodup\/∃q∈l,eI st.1 q.1≠0)
 | [],st,_=>by simp[Ai]
 | q::r,st,hz=>by
  have B:=YX r (YP st q) λq u=>hz q (r6 _ u)
  have E:=hz q (o6 ..)
  have e:Ai (q::r) st=Ai r (YP st q):=rfl
  rw[e,B]
  show twN st.1 q.1 st.2.1=true\/_\/(∃x∈r,eI (zX st.1 q.1 q.2.1) x.1≠0)↔_
  unfold twN
  rw[Ml,Kk]
  simp only[x6,decide_eq_true_eq,Cm,oG,s4]
  grind
theorem YY(p:cB):(CX p).2.1=kB (fQ p):=by
 rw[Ki,SG,YX _ _ (YW p),zY,Cq]
 simp[eI]
theorem Qe:∀(l:List (ByteArray×Int×Int)) (st:List SI×Bool×Int) (n:ByteArray),n ∉ l.map (·.1)->eI (Ai l st).1 n=eI st.1 n
 | [],_,_,_=>rfl
 | q::r,st,n,h=>by
  rw[Ml,s4,not_or]at h
  have e:Ai (q::r) st=Ai r (YP st q):=rfl
  rw[e,Qe r _ n h.2]
  show eI (zX st.1 q.1 q.2.1) n=_
  rw[Cm,ei λu=>h.1 u.symm]
theorem FD:∀(l:List (ByteArray×Int×Int)) (st:List SI×Bool×Int) (q:ByteArray×Int×Int),(l.map (·.1)).Nodup->q∈l->eI (Ai l st).1 q.1=q.2.1
 | x::r,st,q,hn,h=>by
  rw[Ml,Kk]at hn
  have e:Ai (x::r) st=Ai r (YP st x):=rfl
  rw[e]
  rcases s4.1 h with rfl|h
  .rw[Qe r _ _ hn.1]
   show eI (zX st.1 q.1 q.2.1) q.1=_
   rw[Cm,ej rfl]
  .exact FD r _ q hn.2 h
theorem YZ:∀(l:List (ByteArray×Int×Int)) (st:List SI×Bool×Int),(∀q∈l,q.2.1≠0)->(∀e∈st.1,e.2≠0)->∀e∈(Ai l st).1,e.2≠0
 | [],_,_,h=>h
 | q::r,st,hz,h=>YZ r (YP st q) (λq u=>hz q (r6 _ u)) (adW h (hz q (o6 ..)))
def Qf(p:cB):∀e∈(CX p).1,e.2≠0:=by
 rw[SG];exact YZ _ _ (YW p) λe u=>by cases u
theorem Y0:∀(ls:List (List cK)) (k:Int) (q:cK×Int),q∈Qc k ls->k<=q.2/\q.2<k+ls.length
 | [],_,_,h=>by cases h
 | l::r,k,q,h=>by
  unfold Qc at h
  rcases pX.1 h with h|h
  .grind
  .have:=Y0 r (k+1) q h;simp;omega
theorem Y3:∀(vs:List cK) (k:Int) (q:cK×Int),q∈Oo k vs->k<=q.2
 | [],_,_,h=>by cases h
 | v::r,k,q,h=>by
  unfold Oo at h
  rcases s4.1 h with rfl|h
  .omega
  .have:=Y3 r (k+1) q h;omega
def tQ(p:cB):List ByteArray:=p.iR.map cK.name
def ad5(p:cB):List ByteArray:=p.threads.map cO.name
theorem MF(p:cB):gq p=p.lines.flatten.map cK.name:=by
 unfold gq cT iv eB
 rw[vH,qb,List.take_left' cL]
theorem qL(p:cB):cT p=gq p++tQ p:=by
 rw[MF];unfold cT iv tQ;grind
theorem SH(p:cB):(fQ p).map cK.name=gq p++tQ p++(cM p++ad5 p):=by
 rw[<- qL];unfold fQ cT cM ad5
 simp_all
theorem SJ{p:cB}(G:kB (fQ p)=false)(s:ByteArray) :
  eI (CX p).1 s=if 0<=cU (gq p) s then 1 else if 0<=cU (tQ p) s then 2 else if 0<=cU (cM p) s then 3 else if 0<=cU (ad5 p) s then 4 else 0:=by
 have J:((fQ p).map cK.name).Nodup:=g7 λh=>by rw[(zY _).2 h]at G;cases G
 have B:((nmQ p).map (·.1)).Nodup:=by rw[Cq];exact J
 rw[SG]
 by_cases h1:s∈gq p
 .rw[ej (dK.2 h1)]
  rw[MF,<- JE p.lines 0]at h1
  obtain⟨c,hc,rfl⟩:=oG.1 h1
  obtain⟨q,u,rfl⟩:=oG.1 hc
  have E:(q.1.name,CW p q.2,q.1.at_)∈nmQ p:=List.mem_append_left _ (oG.2 ⟨q,List.mem_append_left _ u,rfl⟩)
  have M:=Y0 _ _ _ u
  exact(FD _ _ _ B E).trans (ei bO)
 rw[ei λh=>h1 (dK.1 h)]
 by_cases h2:s∈tQ p
 .rw[ej (dK.2 h2)]
  unfold tQ at h2
  rw[<- JF p.iR p.lines.length]at h2
  obtain⟨c,hc,rfl⟩:=oG.1 h2
  obtain⟨q,u,rfl⟩:=oG.1 hc
  have E:(q.1.name,CW p q.2,q.1.at_)∈nmQ p:=List.mem_append_left _ (oG.2 ⟨q,List.mem_append_right _ u,rfl⟩)
  have I:=Y3 _ _ _ u
  exact(FD _ _ _ B E).trans (ej I)
 rw[ei λh=>h2 (dK.1 h)]
 by_cases h3:s∈cM p
 .rw[ej (dK.2 h3)]
  obtain⟨c,hc,rfl⟩:=oG.1 h3
  exact FD _ _ (c.name,3,c.at_) B (List.mem_append_right _ (List.mem_append_left _ (oG.2 ⟨c,hc,rfl⟩)))
 rw[ei λh=>h3 (dK.1 h)]
 by_cases h4:s∈ad5 p
 .rw[ej (dK.2 h4)]
  obtain⟨t,ht,rfl⟩:=oG.1 h4
  exact FD _ _ (t.name,4,t.at_) B (List.mem_append_right _ (List.mem_append_right _ (oG.2 ⟨t,ht,rfl⟩)))
 rw[ei λh=>h4 (dK.1 h),Qe _ _ _ (by rw[Cq,SH];grind)]
 rfl
def FE{α:Type}{l:List α}{f g:α->Bool}(h:∀x∈l,f x=g x):l.any f=l.any g:=by
 grind
theorem Uv{g:List SI}{n k:ByteArray}{v:Int}(B:∀e∈g,e.2≠0)(h:eI g n=0):eI (g++[(n,v)]) k=if n=k then v else eI g k:=by
 induction g with
 | nil=>simp_all[eI,SI]
 | cons e r E=>
  have u:=B e (o6 ..)
  have I:¬ e.1=n:=λJ=>by
   have:eI (e::r) n=e.2:=by simp_all[eI,SI]
   omega
  have G:eI r n=0:=by
   grind[eI]
  show(if e.1=k then e.2 else eI (r++[(n,v)]) k)=if n=k then v else(if e.1=k then e.2 else eI r k)
  grind
theorem HJ:∀(ns:List ByteArray) (g:List SI),(∀e∈g,e.2≠0)->
  (FC g ns=none/\(¬ ns.Nodup\/∃s∈ns,eI g s≠0))\/∃G,FC g ns=some G/\ns.Nodup/\(∀s∈ns,eI g s=0)/\∀s,eI G s=if 0<=cU ns s then 5 else eI g s
 | [],g,_=>.inr ⟨g,rfl,List.nodup_nil,λs h=>(by cases h),λs=>by rw[ei];exactλh=>by cases dK.1 h⟩
 | n::r,g,hz=>by
  unfold FC
  split
  .rename_i hl
   have J:∀e∈g++[(n,(5:Int))],e.2≠0:=by
    grind
   have E:=λk=>Uv (k:=k) (v:=5) hz hl
   rcases HJ r _ J with⟨h1,h2⟩|⟨G,h1,h2,h3,h4⟩
   .grind
   .have B:n ∉ r:=λM=>cL
    refine .inr ⟨G,h1,Kk.2 ⟨B,h2⟩,λs u=>?_,λs=>?_⟩
    .rcases s4.1 u with rfl|u
     .exact hl
     .have:=h3 s u;rw[E,ei λe:n=s=>B (e▸u)]at this;exact this
    .rw[h4,E]
     by_cases u:s∈r
     .rw[ej (dK.2 u),ej (dK.2 (r6 _ u))]
     .rw[ei λh=>u (dK.1 h)]
      by_cases I:n=s
      .rw[ej I,ej (dK.2 (by rw[I];exact o6 ..))]
      .rw[ei I,ei λh=>(s4.1 (dK.1 h)).elim (λe=>I e.symm) u]
  grind
theorem MG{l:List SI}(u:(l.map (·.1)).Nodup)(s:ByteArray):eI (l.filter λp=>decide (¬ p.2=4)) s=if eI l s=4 then 0 else eI l s:=by
 induction l with
 | nil=>rfl
 | cons e r B=>
  rw[Ml,Kk]at u
  have B:=B u.2
  have J:e.1=s->eI r s=0:=λh=>zO λq G I=>u.1 (oG.2 ⟨q,G,cL⟩)
  have E:eI (e::r) s=if e.1=s then e.2 else eI r s:=rfl
  rw[List.filter_cons,E]
  by_cases h4:e.2=4
  .grind
  .rw[ej (by simp[h4])]
   show(if e.1=s then e.2 else eI _ s)=_
   grind
def Y4{l:List SI}{k:ByteArray}{v:Int}(h:(l.map (·.1)).Nodup):((zX l k v).map (·.1)).Nodup:=by
 unfold zX
 grind
theorem Y5(p:cB):((CX p).1.map (·.1)).Nodup:=by
 rw[SG]
 have:∀(l:List (ByteArray×Int×Int)) (st:List SI×Bool×Int),(st.1.map (·.1)).Nodup->((Ai l st).1.map (·.1)).Nodup:=by
  intro l
  induction l with
  | nil=>intro st h;exact h
  | cons q r u=>intro st h;exact u (YP st q) (Y4 h)
 grind
theorem JJ{p:cB}(J:kB (fQ p)=false)(rs:List ByteArray) :
  (Uu (CX p).1 rs=none/\uX p rs=true)\/∃g,Uu (CX p).1 rs=some g/\uX p rs=false/\(∀s∈rs,s ∉ cT p/\s ∉ cM p)/\
   ∀s,eI g s=if 0<=cU rs s then 5 else if 0<=cU (gq p) s then 1 else if 0<=cU (tQ p) s then 2 else if 0<=cU (cM p) s then 3 else 0:=by
 have G:∀s,eI ((CX p).1.filter λp=>decide (¬ p.2=4)) s=if 0<=cU (gq p) s then 1 else if 0<=cU (tQ p) s then 2 else if 0<=cU (cM p) s then 3 else 0:=by
  intro s
  rw[MG (Y5 p),SJ J]
  omega
 have hc:∀s,eI ((CX p).1.filter λp=>decide (¬ p.2=4)) s≠0↔(s∈cT p\/s∈cM p):=by
  intro s
  rw[G,qL,pX,<- dK (ns:=gq p),<- dK (ns:=tQ p),<- dK (ns:=cM p)]
  omega
 unfold Uu
 rcases HJ rs ((CX p).1.filter λp=>decide (¬ p.2=4)) (λe I=>Qf p e (Ob.1 I).1)with⟨h1,h2⟩|⟨g,h1,h2,h3,h4⟩
 .refine .inl ⟨h1,(ME p rs).2 ?_⟩
  grind
 have B:∀s∈rs,s ∉ cT p/\s ∉ cM p:=λs u=>by
  have h:=h3 s u
  exact⟨λE=>(hc s).2 (.inl E) h,λE=>(hc s).2 (.inr E) h⟩
 refine .inr ⟨g,h1,?_,B,λs=>by rw[h4,G]⟩
 cases hr:uX p rs with
 | false=>rfl
 | true=>
  rcases(ME p rs).1 hr with h|⟨s,u,h⟩
  .grind
  .rcases h with h|h
   .exact absurd h (B s u).1
   .exact absurd h (B s u).2
def Di(g:List SI)(u:UU):Bool:=!u.2.2.any λm=>decide (m=eI g u.1)
theorem MH{g:List SI}{rs:List ByteArray}(l:List cA)(h:∀s,eI g s=5↔s∈rs):(Cn l).any (Di g)=pe l rs:=by
 rw[Ki]
 unfold Cn qK pe Di
 simp only[List.any_map,ya,Ob,Function.comp_apply,S5,Z7,Ul,sQ,decide_eq_false_iff_not,oi,decide_eq_true_eq,Bn]
 grind
def Qg(p:cB)(s:ByteArray):s∈gq p↔0<=cU (cT p) s/\cU (cT p) s<eB p:=by
 rw[dK,show gq p=(cT p).take (eB p).toNat from rfl]
 have B:0<=eB p:=by unfold eB;omega
 constructor
 .intro h
  have u:=wM h
  have:=(pY u).2 h
  exact⟨u,bO⟩
 rintro⟨h1,h2⟩;exact(pY h1).1 bO
theorem aqy(k:Int):eT (fG k) 110=decide (k=2\/k=3\/k=4\/k=5\/k=6\/k=9\/k=10):=by
 unfold fG
 split
 .rw[fP bO];decide
 rename_i h
 obtain rfl|rfl|rfl|rfl|rfl|rfl|rfl|rfl|rfl|rfl|rfl|rfl|rfl|rfl:k=1\/k=2\/k=3\/k=4\/k=5\/k=6\/k=7\/k=8\/k=9\/k=10\/k=11\/k=12\/k=13\/k=14:=bO
 all_goals decide
theorem MI:gN ⟨#[]⟩=false:=dD
def ad6{p:cB}{rs:List ByteArray}{g:List SI}(J:∀s∈rs,s ∉ cT p/\s ∉ cM p)(I:∀s∈cT p,s ∉ cM p)(U:∀s∈gq p,s ∉ tQ p)
  (B:∀s,eI g s=if 0<=cU rs s then 5 else if 0<=cU (gq p) s then 1 else if 0<=cU (tQ p) s then 2 else if 0<=cU (cM p) s then 3 else 0) {x:bQ}(M:ao8 x) :
  (Co x).any (Di g)=ng p rs x:=by
 have G:∀s,eI g s=5↔s∈rs:=λs=>by
  rw[B,<- dK];omega
 have W:∀s,eI g s=1↔s∈gq p:=λs=>by
  rw[B,<- dK]
  split
  .rename_i h
   have:=J s (dK.1 h)
   rw[qL,pX]at this
   refine⟨λh=>(by cases h),λh=>absurd (dK.1 h) λu=>this.1 (.inl u)⟩
  omega
 have Y:∀s,eI g s=2↔s∈tQ p:=λs=>by
  rw[B]
  split
  .rename_i h
   have:=J s (dK.1 h)
   rw[qL,pX]at this
   grind
  .split
   .grind
   .rw[<- dK];omega
 have Z:∀s,eI g s=3↔s∈cM p:=λs=>by
  rw[B]
  split
  .grind
  .split
   .rename_i h;exact⟨λh=>(by cases h),λu=>absurd u (I s (by rw[qL];grind))⟩
   .split
    .rename_i h;exact⟨λh=>(by cases h),λu=>absurd u (I s (by rw[qL];grind))⟩
    .rw[<- dK];omega
 have E:=M.name
 rw[aqy]at E
 rw[Cp,U0,U0,U0,MH x.e G,MH x.f G]
 have V:(sN x).any (Di g)=(decide (¬ x.eG=⟨#[]⟩)&&decide (cU rs x.eG<0)):=by
  unfold sN
  split
  .grind
  .rename_i h
   rw[ew h,Ac,Ki]
   simp only[S5,Z7,Ul,Di,sQ,decide_eq_false_iff_not,decide_eq_true_eq,Bn]
   grind
 have O:(um x).any (Di g)=(((decide (x.kind=2)||decide (x.kind=3)||decide (x.kind=4))&&decide (cU (cT p) x.name<0)) ||
   ((decide (x.kind=5)||decide (x.kind=6))&&(decide (cU (cT p) x.name<0)||decide (eB p<=cU (cT p) x.name))) ||
   ((decide (x.kind=9)||decide (x.kind=10))&&decide (cU (cM p) x.name<0))):=by
  have hk:=M.kind
  unfold um
  split
  .rename_i h
   have xq:¬ (x.kind=2\/x.kind=3\/x.kind=4\/x.kind=5\/x.kind=6\/x.kind=9\/x.kind=10):=by
    intro u
    rcases E with⟨_,h2⟩|⟨h1,_⟩
    .rw[h,MI]at h2;cases h2
    grind
   grind
  .rename_i h
   have xq:x.kind=2\/x.kind=3\/x.kind=4\/x.kind=5\/x.kind=6\/x.kind=9\/x.kind=10:=by
    grind
   have hc:=Qg p x.name
   rw[Ki]
   unfold JI
   simp only[S5,Z7,Ul,Di,sQ,x6,oi,decide_eq_true_eq,Bn]
   have e1:=W x.name;have e2:=Y x.name;have e3:=Z x.name
   have ec:x.name∈cT p↔x.name∈gq p\/x.name∈tQ p:=by rw[qL,pX]
   have pn:=dK (ns:=cT p) (s:=x.name)
   grind
 rw[V,O]
 unfold ng
 grind
def MJ{p:cB}(E:kB (fQ p)=false):(∀s∈cT p,s ∉ cM p)/\∀s∈gq p,s ∉ tQ p:=by
 have B:((fQ p).map cK.name).Nodup:=g7 λh=>by rw[(zY _).2 h]at E;cases E
 rw[SH,aao]at B
 obtain⟨h1,h2,h3⟩:=B
 rw[aao]at h1
 exact⟨λs u I=>h3 s (by rw[<- qL];exact u) s (List.mem_append_left _ I) rfl,λs u G=>h1.2.2 s u s G rfl⟩
def Y6{p:cB}{t:cO}{g:List SI}(u:kB (fQ p)=false)(G:Uu (CX p).1 t.dQ=some g)(I:∀x∈t.body,nf x=true):(oM t.body).any (Di g)=t.body.any (ng p t.dQ):=by
 rcases JJ u t.dQ with⟨h1,_⟩|⟨M,h1,h2,h3,h4⟩
 .grind
 rw[G]at h1;cases h1
 obtain⟨B,J⟩:=MJ u
 unfold oM
 rw[List.any_flatMap]
 refine FE λx E=>ad6 h3 B J h4 (yr (I x E))
def Qh{p:cB}(u:kB (fQ p)=false)(l:List cA):(l.any λx=>decide (x.op=2)&&decide (¬ eI (CX p).1 x.name=1))=pe l (gq p):=by
 unfold pe
 refine FE λx _=>?_
 congr 1
 refine ga.2 ?_
 rw[Bn,SJ u,<- dK]
 omega
variable (w:World) (K:Value->hM)
def S48(p0:Value):Prop:=
 rR hH (By 27 p0) w λp1 a=>aL 31 a λb c=>aL 3 c λd e=>lA 27 p1 e λf=>cF 107 [f] e λg h=>xT g 0 λj=>xT g 1 λk=>xT g 2 λl=>lA 27 p1 h λn=>
 cF 108 [n] h λo p=>eU hH (Op.unary .not o) λq=>cV q (sA 31 b (i 8) p λs=>sA 3 d (i 0) s λt=>lA 31 b t λr=>lA 3 d t λIS=>K (.tuple #[r,IS]) t) (lA 27 p1 p λu=>
 cF 109 [u] p λv x=>cV v (sA 31 b (i 2) x λy=>sA 3 d (i 0) y λz=>lA 31 b z λOO=>lA 3 d z λr_3=>K (.tuple #[OO,r_3]) z) (lA 27 p1 x λaa=>cF 110 [aa] x λab ac=>
 lN 24 ab λad=>kM (λK1 ae U=>∀_:Env,
 bA .lss 3 ae ad λag=>cV ag (iA 24 ab ae λah=>lA 146 ah U λai=>aL 146 U λt8 aj=>sA 146 t8 ai aj λak=>fA 146 t8 2 λal=>lA 141 al ak λam=>cF 111 [am,(i 1)] ak λan ao=>
 xT an 0 λap=>xT an 1 λaq=>cV aq (sA 31 b (i 11) ao λar=>sA 3 d ap ar λasx=>lA 31 b asx λr_4=>lA 3 d asx λr_5=>K (.tuple #[r_4,r_5]) asx) (bB .add 3 ae (i 1) λau=>
 K1 au ao)) (cV l (sA 31 b (i 10) U λav=>sA 3 d k av λaw=>lA 31 b aw λr_6=>lA 3 d aw λr_7=>K (.tuple #[r_6,r_7]) aw) (lA 27 p1 U λax=>cF 110 [ax] U λay az=>
 lN 24 ay λa0=>kM (λK2 a2 V=>∀_:Env,
 bA .lss 3 a2 a0 λa4=>cV a4 (iA 24 ay a2 λa5=>lA 146 a5 V λa6=>aL 146 V λE a7=>sA 146 E a6 a7 λa8=>lA 146 E a8 λa9=>cF 112 [a9,j] a8 λba bb=>xT ba 0 λ_=>
 xT ba 1 λbc=>cV bc (fA 146 E 3 λbd=>lA 3 bd (drew bb) λbe=>sA 31 b (i 10) (drew bb) λbf=>kA 3 bd be bf (sA 3 d be bf λbg=>lA 31 b bg λr_8=>lA 3 d bg λr_9=>
 K (.tuple #[r_8,r_9]) bg)) (bB .add 3 a2 (i 1) λbh=>K2 bh bb)) (lA 27 p1 V λbi=>cF 110 [bi] V λbj bk=>lN 24 bj λbl=>pD (λK3 ds bm W=>∀_:Env,
 bA .lss 3 bm bl λbo=>cV bo (iA 24 bj bm λbp=>lA 146 bp W λbq=>aL 146 W λG br=>sA 146 G bq br λbs=>lA 146 G bs λbt=>cF 112 [bt,j] bs λbu bv=>xT bu 0 λbw=>
 xT bu 1 λ_=>aL 165 bv λI bx=>sA 165 I bw bx λbz=>fA 146 G 2 λb0=>lA 141 b0 bz λb1=>cF 113 [b1] bz λb2 b3=>Au hH b2 1 b3 (λa1 b4 B1 R1=>
 aL 177 b4 λB b5=>sA 177 B (Eg a1 0) b5 λb6=>B1 b6 λM=>fA 177 B 2 λb8=>lA 41 b8 M λb9=>lA 165 I M λca=>fA 177 B 0 λcb=>lA 9 cb M λcc=>
 Kn hH (yy 165 ca cc false) M λcd=>cF 114 [b9,cd] M λce cf=>eU hH (Op.unary .not ce) λcg=>cV cg (fA 177 B 1 λch=>lA 3 ch (drew cf) λci=>
 sA 31 b (i 9) (drew cf) λcj=>kA 3 ch ci cj (sA 3 d ci cj λck=>R1 (some .ret) ck)) (R1 none cf)) (aft (λD cl=>bB .add 3 bm (i 1) λcm=>K3 (lK (D::(As ds))) cm cl)
 (λD cn=>mV (D::(As ds)) cn λco=>lA 31 b co λaxf=>lA 3 d co λaxg=>K (.tuple #[axf,axg]) co) λ_ _ _=>False)) (fA 27 p1 5 λcp=>lA 25 cp W λcq=>
 lN 25 cq λcr=>kM (λK4 cs ct=>∀_:Env,
 bA .lss 3 cs cr λcu=>cV cu (iA 25 cq cs λcv=>lA 85 cv ct λcw=>aL 85 ct λO cx=>sA 85 O cw cx λcy=>fA 85 O 0 λcz=>lA 82 cz cy λc0=>lN 82 c0 λc1=>
 kM (λK5 c2 c3=>∀_:Env,
 bA .lss 3 c2 c1 λc4=>cV c4 (iA 82 c0 c2 λc5=>lA 164 c5 c3 λc6=>aL 164 c3 λY c8=>sA 164 Y c6 c8 λJ=>fg (λK6=>fA 164 Y 0 λda=>lA 3 da J λdb=>
 bB .eql 3 db (i 2) λdc=>cV dc (fA 164 Y 2 λdd=>lA 9 dd J λde=>Kn hH (yy 165 j de false) J λdf=>bB .neq 3 df (i 1) λdg=>K6 dg J) (K6 ff J))
 (λdh di=>∀_:Env,
 cV dh (fA 164 Y 3 λdj=>lA 3 dj (drew di) λdk=>sA 31 b (i 9) (drew di) λdl=>kA 3 dj dk dl (sA 3 d dk dl λdm=>mV (As ds) dm λdn=>lA 31 b dn λaxh=>lA 3 d dn λaxi=>
 K (.tuple #[axh,axi]) dn)) (bB .add 3 c2 (i 1) λdp=>K5 dp di))) (bB .add 3 cs (i 1) λdq=>K4 dq c3)) λK5=>K5 (i 0) cy) (sA 31 b (i 0) ct λdr=>sA 3 d (i 0) dr λdt=>
 mV (As ds) dt λdu=>lA 31 b du λaxj=>lA 3 d du λZ=>K (.tuple #[axj,Z]) du)) λK4=>K4 (i 0) W)) λK3=>K3 (lK []) (i 0) bk)) λK2=>K2 (i 0) az)))
 λK1=>K1 (i 0) ac))
def P48:dI:=λi=>match i with
 | 20=>(.of [(0,[]),(1,[]),(2,[1]),(3,[])])
 | 29=>(.of [(0,[]),(1,[]),(2,[1]),(3,[])])
 | 38=>(.of [(0,[]),(1,[]),(2,[1]),(3,[])])
 | _=>.nil
theorem aji(p0:Value)(h:S48 w K p0):CR 48 [p0] w K:=
 qW 128 P48 12 [.cell 2 31,.cell 3 3] Tryz.func48 h
theorem axl:PL 48:=dJ Tryz.func48
theorem aqA:PL 114:=dJ Tryz.func114
theorem aqB:PL 194:=dJ Tryz.func194
end Go.Proofs.YtpdlpabnlkofmaaGreatDoor
namespace Go.Proofs.YtpdlpabnlkofmaaGreatDoor
open Go.Fw
def C194(sv:Value)(ns:List Int)(s:Int)(w:World)(I:dA (λ_=>True) w sv ns)(O:ns.length<=1048576):CR 194 [sv,hZ s] w (λv w'=>v=hZ (sC (λy=>decide (y=s)) ns)/\Ext w w'):=by
 have u:=St.start w;refine eZ Tryz.func194 ?_;refine aK cS (I.ext u.aG) ?_;refine⟨λm x J=>∃k:Nat,x=hZ (k:Int)/\m=ns.length-k/\k<=ns.length/\(∀y∈ns.take k,decide (y=s)=false)/\St w aZ [] J,⟨_,0,rfl,rfl,l6 _,ee,u⟩,?_⟩;rintro m _ J ⟨k,rfl,rfl,U,B,u⟩ _;refine aR (aC (λW=>?_) λ_=>⟨gQ (n3 .i64) (jg (by rw[ld bO]at B;exact B)).symm,u.aG⟩);obtain⟨V,G⟩:=gx ns (i:=(k:Int).toNat) bO;exact aQ cS I bO G (λ_ M=>aD bL (M.ext u.aG) (aH (aC (λE=>⟨gQ (n3 .i64) (mh B G (ew E.symm)).symm,u.aG⟩) λE=>aO bO ⟨_,bO,k+1,rfl,rfl,bO,dY B G (fP λh=>E h.symm),u⟩)))
def C114(sv:Value)(ns:List Int)(s:Int)(w:World)(B:dA (λ_=>True) w sv ns)(E:ns.length<=1048576):CR 114 [sv,hZ s] w (λv w'=>v=.bool (ns.any λy=>decide (y=s))/\Ext w w'):=by
 have u:=St.start w;refine eZ Tryz.func114 ?_;exact aV aqB u (C194 _ _ _ _ (B.ext u.aG) bO) (λ_ _ u=>cR ⟨vb (kX _ _),u.aG⟩)
def Y7{u:UU}{l:List bQ}(h:u∈oM l):u.2.2.length<=1048576:=by
 have:u.2.2.length<=2:=by
  unfold oM at h
  obtain⟨x,_,h⟩:=List.mem_flatMap.1 h
  rw[Cp]at h
  unfold sN um Cn JI at h
  simp only[pX]at h
  grind
 omega
theorem C48(p:cB)(pv:bP)(w:World)(hp:ml w pv p)(Z:PZ p):CR 48 [j0 pv] w (λv w'=>∃a:Int,v=.tuple #[hZ (fk p),hZ a]/\Ext w w'):=by
 have Ot:=hp;have aiO:=DJ Z.toPS;obtain⟨bK,bU,bM,aW,aX,bG,rfl,cQ,dG,cW,cC,cD,cP⟩:=hp;obtain⟨U,YB,YC⟩:=cC.open;obtain⟨O,PQ,hD4⟩:=cD.open;have hn3:=YC.1;have hn4:=hD4.1;have hD:=YC.append hD4;have axm:=hD.1
 change (U++O).length=(gp p).length at axm
 have E:=St.start w;refine aji _ _ _ ?_;unfold S48;refine cG E (λbp w1 E=>gF E ahQ rfl λb2 _ E=>gF E uG rfl λb3 _ E=>aD eg E.p2.At (dM aqo (C107 p _ _ (Na Ot E.aG) Z) ?_));rintro _ _ ⟨bm,rfl,cJ⟩;have E:=E.made cJ;refine aN rfl (aN rfl (aN rfl (aD eg E.p3.At (aV aoQ E (C108 p _ _ (Na Ot E.aG) Z) λ_ he E=>bR (aY (λc=>?_) λc=>?_)))))
 .have h1:ky p=false:=by simpa using c
  have V:fk p=8:=ce8 h1;exact aT E.p2 jP (dL rfl) rfl (λ_ E=>aT E.p2 bL (dL rfl) rfl λ_ E=>aB jP E.p1.hb rfl (aB bL E.hb rfl ⟨_,by rw[V],E.aG⟩))
 have h1:ky p=true:=by simpa using c
 refine aD eg E.p3.At (aV aqd E (C109 p _ _ (Na Ot E.aG) Z) λ_ he E=>aY (λc=>?_) λc=>?_)
 .have h2:uY p=true:=c;have V:fk p=2:=ce2 h1 h2;exact aT E.p2 jP (dL rfl) rfl (λ_ E=>aT E.p2 bL (dL rfl) rfl λ_ E=>aB jP E.p1.hb rfl (aB bL E.hb rfl ⟨_,by rw[V],E.aG⟩))
 have h2:uY p=false:=c;refine aD eg E.p3.At (dU SA E (C110 p _ U O _ (Na Ot E.aG) (YB.ext E.aG) (PQ.ext E.aG) (by have:=Z.threads;omega) (by have:=Z.recover;omega)) λx38 w38 cJ E=>aK fx E.dS ?_);refine⟨λm x w1=>∃k:Nat,x=hZ (k:Int)/\m=(U++O).length-k/\k<=(U++O).length/\(∀y∈(gp p).take k,ry y.body=false)/\St w aZ [bH x38 (U++O),nt bm (CX p).1,bY b3 [hZ 0],bY b2 [hZ 0],bY bp (kp (⟨bK,bU,bM,aW,aX,bG⟩:bP))] w1,⟨_,0,rfl,rfl,l6 _,ee,E⟩,?_⟩;rintro m _ _ ⟨k,rfl,rfl,hk,I,E⟩ _
 refine aR (aC (λc=>?_) λc=>?_)
 .obtain⟨t,ht⟩:=gx (U++O) (i:=((k:Nat):Int).toNat) bO;obtain⟨r,G⟩:=gx (gp p) (i:=k) bO;have J:=la G;have hrz:=Z.qZ J;have hrr:=(qH h1).qZ J;obtain⟨gr,gb,rfl,dr,db⟩:=hD.2 _ _ _ ht G;have hrs:=lz hrr.2.1;refine aQ fx E.dS bO ht (λq hq=>aD nc hq (aM E tJ λbt wt E=>aJ (x:=(⟨r.name,gr,gb,r.at_⟩:cH)) E nc rfl rfl λwu E=>?_));obtain⟨apA,hbf,tb,hbt,iV,_,_⟩:=hrs;have Ok:tb.len<=40:=by rw[<- Bk.cY,<- hbt];exact apA
  have VL:ry r.body=mJ tb 1:=by rw[hbt];exact vC iV
  refine aA lL (aB (v:=j0 gb) jR E.hb rfl (dM agR (C111 _ tb 1 (tb.len+1) _ (by rw[<- hbt];exact DL.ext db E.aG) iV (by rw[<- hbt];exactλx hx=>Js (hbf x hx)) bO bO (Nat.lt_succ_self _)) ?_));rintro _ _ ⟨aa,rfl,he⟩;have E:=E.ext he;refine aN rfl (aN rfl (aY (λc9=>?_) λc9=>?_))
  .have h3:(gp p).any (λt=>ry t.body)=true:=ig G (by rw[VL];exact c9);have V:fk p=11:=ao9 h1 h2 h3;exact aT E.p4 jP (dL rfl) rfl (λ_ E=>aT E.p4 bL (dL rfl) rfl λ_ E=>aB jP E.p1.hb rfl (aB bL E.hb rfl ⟨_,by rw[V],E.aG⟩))
  exact aO bO (have E:=E.drop;⟨_,bO,k+1,rfl,rfl,bO,dY I G (by rw[VL];exact c9),E⟩)
 have h3:(gp p).any (λt=>ry t.body)=false:=iE (by rw[ld bO]at I;exact I);have E:=E.drop;refine aY (λc10=>?_) (λc10=>?_)
 .have h4:kB (fQ p)=true:=by rw[<- YY];exact c10
  have V:fk p=10:=apa h1 h2 h3 h4;exact aT E.p2 jP (dL rfl) rfl (λ_ E=>aT E.p2 bL (dL rfl) rfl λ_ E=>aB jP E.p1.hb rfl (aB bL E.hb rfl ⟨_,by rw[V],E.aG⟩))
 have h4:kB (fQ p)=false:=by rw[<- YY];exact c10
 refine aD eg E.p3.At (dU SA E (C110 p _ U O _ (Na Ot E.aG) (YB.ext E.aG) (PQ.ext E.aG) (by have:=Z.threads;omega) (by have:=Z.recover;omega)) λx56 _ cJ E=>aK fx E.dS ?_)
 clear I
 refine⟨λm x w1=>∃k:Nat,x=hZ (k:Int)/\m=(U++O).length-k/\k<=(U++O).length/\(∀y∈(gp p).take k,uX p y.dQ=false)/\St w aZ [bH x56 (U++O),nt bm (CX p).1,bY b3 [hZ 0],bY b2 [hZ 0],bY bp (kp (⟨bK,bU,bM,aW,aX,bG⟩:bP))] w1,⟨_,0,rfl,rfl,l6 _,ee,E⟩,?_⟩;rintro m _ _ ⟨k,rfl,rfl,hk,I,E⟩ _;refine aR (aC (λc=>?_) λc=>?_)
 .obtain⟨t,ht⟩:=gx (U++O) (i:=((k:Nat):Int).toNat) bO;obtain⟨r,G⟩:=gx (gp p) (i:=k) bO;have J:=la G;have hrz:=Z.qZ J;have hrr:=(qH h1).qZ J;obtain⟨gr,gb,rfl,dr,db⟩:=hD.2 _ _ _ ht G;have hrs:=lz hrr.2.1;refine aQ fx E.dS bO ht (λq hq=>aD nc hq (aM E tJ λbt wt E=>aJ (x:=(⟨r.name,gr,gb,r.at_⟩:cH)) E nc rfl rfl λwu E=>aD nc E.At (dM agU (C112 (⟨r.name,gr,gb,r.at_⟩:cH) r.dQ bm (CX p).1 _ (DL.flat (DL.ext dr E.aG)) E.p2.nt (Qf p) bO) ?_)))
  rcases JJ h4 r.dQ with⟨BP,Gq⟩|⟨g,BP,Gq,_⟩
  .rintro _ w24 (⟨_,rfl,he⟩|⟨g,bg,Um,_⟩);rotate_left
   .rw[BP]at Um;cases Um
   have E:=E.ext he;have h5:(gp p).any (λt=>uX p t.dQ)=true:=ig G Gq;refine aN rfl (aN rfl (iB (aA qy (have E:=E.drew;aB (v:=hZ r.at_) bL E.hb rfl ?_))));have V:fk p=10:=agE h1 h2 h3 h4 h5;refine aT E.p4 jP (dL rfl) rfl (λwa E=>?_);refine⟨aF bL (E.p1.hb.cell rfl),?_⟩;exact aT E.p4 bL (dL rfl) rfl (λ_ E=>aB jP E.p1.hb rfl (aB bL E.hb rfl ⟨_,by rw[V],E.aG⟩))
  rintro _ w24 (⟨Um,_⟩|⟨g2,bg,Um,rfl,cJ⟩)
  .rw[BP]at Um;cases Um
  have E:=(E.made cJ).drop.drop;exact aN rfl (aN rfl (fw (aO bO ⟨_,bO,k+1,rfl,rfl,bO,dY I G Gq,E⟩)))
 have h5:(gp p).any (λt=>uX p t.dQ)=false:=iE (by rw[ld bO]at I;exact I);have E:=E.drop;refine aD eg E.p3.At (dU SA E (C110 p _ U O _ (Na Ot E.aG) (YB.ext E.aG) (PQ.ext E.aG) (by have:=Z.threads;omega) (by have:=Z.recover;omega)) λx73 _ cJ E=>aK fx E.dS ?_)
 clear I
 have E:=Qd.nil E;refine⟨λm dv x w1=>∃(k:Nat) (ds:List Nat),dv=lK ds/\x=hZ (k:Int)/\m=(U++O).length-k/\k<=(U++O).length/\(∀y∈(gp p).take k,y.body.any (ng p y.dQ)=false)/\St w aZ [Qd ds,bH x73 (U++O),nt bm (CX p).1,bY b3 [hZ 0],bY b2 [hZ 0],bY bp (kp (⟨bK,bU,bM,aW,aX,bG⟩:bP))] w1,⟨_,0,[],rfl,rfl,rfl,l6 _,ee,E⟩,?_⟩;rintro m _ _ _ ⟨k,ds,rfl,rfl,rfl,hk,I,E⟩ _;rw[BV];refine aR (aC (λc=>?_) λc=>?_)
 .obtain⟨t,ht⟩:=gx (U++O) (i:=((k:Nat):Int).toNat) bO;obtain⟨r,G⟩:=gx (gp p) (i:=k) bO;have J:=la G;have hrz:=Z.qZ J;have hrr:=(qH h1).qZ J;obtain⟨gr,gb,rfl,dr,db⟩:=hD.2 _ _ _ ht G;have hrs:=lz hrr.2.1;refine aQ fx E.p1.dS bO ht (λq hq=>aD nc hq (aM E tJ λbt wt E=>aJ (x:=(⟨r.name,gr,gb,r.at_⟩:cH)) E nc rfl rfl λwu E=>?_))
  have h5r:uX p r.dQ=false:=by
   cases hh:uX p r.dQ with
   | false=>rfl
   | true=>exact absurd (ig (g:=λt:cO=>uX p t.dQ) G hh) (by rw[h5];decide)
  refine aD nc E.At (dM agU (C112 (⟨r.name,gr,gb,r.at_⟩:cH) r.dQ bm (CX p).1 _ (DL.flat (DL.ext dr E.aG)) E.p3.nt (Qf p) bO) ?_)
  rcases JJ h4 r.dQ with⟨_,Gq⟩|⟨g,BP,Gq,_⟩
  .rw[Gq]at h5r;cases h5r
  rintro _ w31 (⟨Um,_⟩|⟨g2,bg,Um,rfl,cJ⟩)
  .rw[BP]at Um;cases Um
  obtain rfl:g=g2:=oq.inj (BP.symm.trans Um);have E:=E.made cJ;refine aN rfl (aN rfl (gF E RO rfl λY8 _ E=>aT E Hj (dL rfl) rfl λ_ E=>aA lL (aB (v:=j0 gb) jR E.p2.hb rfl (dM aqr (C113 gb _) ?_))));rintro _ _ ⟨bu,rfl,aqC⟩;have E:=E.made aqC;have hbz:=hrz.1.2.2;have aqD:=Y6 h4 BP hrs.2.1;obtain⟨tsb,hRb,hDb⟩:=db.open
  refine YQ (cap:=[.pointer (some ⟨bu,0,none⟩)]) (oM r.body).length (SE (oM r.body)) aqs E
   (λj M=>(∀i,i<j->∀u,(oM r.body)[i]?=some u->Di g u=false)/\M=[bY bu [j0 gb],bY Y8 [.map (some bg)],nt bg g,bY bt (kp (⟨r.name,gr,gb,r.at_⟩:cH)),Qd ds,bH x73 (U++O),nt bm (CX p).1,bY b3 [hZ 0],bY b2 [hZ 0],bY bp (kp (⟨bK,bU,bM,aW,aX,bG⟩:bP))])
   (λcx M=>cx=.ret/\(oM r.body).any (Di g)=true/\∃a L,M=bY b3 [hZ a]::bY b2 [hZ 9]::Qd ds::L) ⟨λ_ hi=>absurd hi (Nat.not_lt_zero _),rfl⟩ (by rintro j a Φ ⟨u,s,_,rfl,_⟩;rfl) ?_ ?_ ?_ ?_ ?_ ?_
  .intro y Y Jx W h0 hy;refine(C192 y bu (j0 gb) tsb r.body w aZ _ Jx W bO (λx hx=>⟨(hbz x hx).2.2.1,(hbz x hx).2.2.2.1⟩) ?_ ?_ hy).mono λ_ _ rr=>rr.mono λv W' h=>?_
   .rintro j _ W2 ⟨M,⟨_,rfl⟩,rfl⟩ hs2;exact⟨hs2.p1.hb.cell rfl,hRb.ext hs2.aG,hDb.ext hs2.aG⟩
   .obtain⟨M,h1,h2⟩:=h0;exact⟨_,⟨M,h1,rfl⟩,h2⟩
   rcases h with⟨_,⟨M,h1,rfl⟩,h2⟩|h
   .exact .inl ⟨M,h1,h2⟩
   exact .inr h
  .rintro j args Φ Y1 Y2 B Kr M W ⟨u,s,hu,rfl,Ut⟩ ⟨hjn,rfl⟩ hΦ hB hN hR E;dsimp only[Eg];refine aM E acz (λb9 _ E=>aJ (x:=(⟨u.1,u.2.1,s⟩:JG)) E anR rfl rfl λ_ E=>?_);refine hB _ _ _ E.p1 (λw38 E=>?_);refine aA Wy (aB (v:=j0 s) eh E.p1.hb rfl (aB Hj E.p3.hb rfl (aA Ww (aB (v:=.string u.1) gA E.p1.hb rfl (yq E.p4.nt Tryz.underlying165 Tryz.underlying9 uG ?_)))))
   have Vz:dA (λ_=>True) w38 (j0 s) u.2.2:=by
    obtain⟨F,h1,_⟩:=E.head;exact Ut _ (hΦ _ _ h1)
   have hul:u.2.2.length<=1048576:=Y7 (la hu);refine aV aqA E (C114 _ u.2.2 (eI g u.1) _ Vz hul) (λ_ he E=>bR (aY (λc11=>aA Wx (have E:=E.drew;aB (v:=hZ u.2.1) bL E.p1.hb rfl (have E:=E.p2.drop;aT E.p9 jP (dL rfl) rfl λ_ E=>⟨aF bL (E.p2.hb.cell rfl),aT E.p9 bL (dL rfl) rfl λ_ E=>hR .ret _ _ E.p7.p2.p2.p3 ⟨rfl,ig hu (by unfold Di;exact c11),_,_,rfl⟩⟩))) λc11=>?_));refine hN _ _ E.p1.drop ⟨λi hi u2 hu2=>?_,rfl⟩
   rcases PN i j with h|h
   .exact hjn i h u2 hu2
   obtain rfl:i=j:=bO
   rw[hu]at hu2;cases hu2
   unfold Di;exact c11
  .rintro D M W ⟨hjn,rfl⟩ E;refine aO bO ?_;have E:=St.join (H1:=nJ D (.deferred (some []))) E.p1.drop.p1.drop.p1.drop.p1.drop;refine⟨_,bO,k+1,D::ds,rfl,rfl,rfl,bO,dY I G ?_,E⟩;rw[<- aqD];refine iE λu hu=>?_;obtain⟨i,hi⟩:=zW.1 hu;exact hjn i (kO.1 hi).1 u hi
  .rintro D M W ⟨_,axr,a,L,rfl⟩ E;have h6:(gp p).any (λt=>t.body.any (ng p t.dQ))=true:=ig G (by rw[<- aqD];exact axr);have V:fk p=9:=ce9 h1 h2 h3 h4 h5 h6;have E:=St.join (H1:=nJ D (.deferred (some []))) E.p3.p1;refine Qd.take (D::ds) E (λ_ E=>?_);exact aB jP E.p1.hb rfl (aB bL E.hb rfl ⟨_,by rw[V],E.aG⟩)
  .rintro id D M W ⟨h,_⟩;cases h
  rintro cx M ⟨h,_⟩;exact .inr h
 have h6:(gp p).any (λt=>t.body.any (ng p t.dQ))=false:=iE (by rw[ld bO]at I;exact I);have E:=E.p1.drop;have hzc:=Z.dT;obtain⟨ts5,hR5,hD5⟩:=cP.open;have DP:=hD5.1;refine aA jx (aB (v:=j0 bG) qX E.p4.hb rfl (aK tn (hR5.ext E.aG) ?_))
 clear I
 refine⟨λm x w1=>∃k:Nat,x=hZ (k:Int)/\m=ts5.length-k/\k<=ts5.length/\(∀y∈p.dT.take k,pe y.e (gq p)=false)/\St w aZ [Qd ds,nt bm (CX p).1,bY b3 [hZ 0],bY b2 [hZ 0],bY bp (kp (⟨bK,bU,bM,aW,aX,bG⟩:bP))] w1,⟨_,0,rfl,rfl,l6 _,ee,E⟩,?_⟩;rintro m _ _ ⟨k2,rfl,rfl,xq,I,E⟩ _;refine aR (aC (λc12=>?_) λc12=>?_)
 .obtain⟨t,ht⟩:=gx ts5 (i:=((k2:Nat):Int).toNat) bO;obtain⟨r,G⟩:=gx p.dT (i:=k2) bO;have hrz:=Z.zc r (la G);obtain⟨ge,rfl,de⟩:=hD5.2 _ _ _ ht G;have dE:=DL.flat de;refine aQ tn (hR5.ext E.aG) bO ht (λq hq=>aD I2 hq (aM E OU λbc _ E=>aJ (x:=(⟨ge,r.at_⟩:jC)) E I2 rfl rfl λ_ E=>aA vu (aB (v:=j0 ge) jz E.hb rfl (aK gY (dE.ext E.aG) ?_))));have hvc:=Qh h4 r.e;refine⟨λm x w1=>∃j:Nat,x=hZ (j:Int)/\m=r.e.length-j/\j<=r.e.length/\(∀y∈r.e.take j,(decide (y.op=2)&&decide (¬ eI (CX p).1 y.name=1))=false)/\St w aZ [bY bc (kp (⟨ge,r.at_⟩:jC)),Qd ds,nt bm (CX p).1,bY b3 [hZ 0],bY b2 [hZ 0],bY bp (kp (⟨bK,bU,bM,aW,aX,bG⟩:bP))] w1,⟨_,0,rfl,rfl,l6 _,ee,E⟩,?_⟩
  rintro m _ _ ⟨j,rfl,rfl,hj,hnj,E⟩ _;refine aR (aC (λc13=>?_) λc13=>?_)
  .obtain⟨y,hy⟩:=gx r.e (i:=((j:Nat):Int).toNat) bO;refine aQ gY (dE.ext E.aG) bO hy (λq hq=>aD si hq (aM E yk λby_ _ E=>aJ (x:=y) E si rfl rfl λw50 E=>?_));refine⟨λjv w'=>jv=.bool (decide (y.op=2)&&decide (¬ eI (CX p).1 y.name=1))/\w'=w50,?_,?_⟩
   .exact aA fa (aB (v:=hZ y.op) bL E.hb rfl (aH (aC (λc14=>aA gm (aB (v:=.string y.name) gA E.hb rfl (yq E.p3.nt Tryz.underlying165 Tryz.underlying9 uG (bX ⟨vb (by rw[ew c14,Ac]),rfl⟩)))) λc14=>⟨vb (by rw[fP c14,Ra]),rfl⟩)))
   rintro _ _ ⟨rfl,rfl⟩ _;refine aY (λc15=>?_) (λc15=>aO bO ⟨_,bO,j+1,rfl,rfl,bO,dY hnj hy c15,E.drop⟩);have h7:p.dT.any (λc=>pe c.e (gq p))=true:=ig G (by rw[<- hvc];exact ig hy c15);have V:fk p=9:=apb h1 h2 h3 h4 h5 h6 h7;refine aA sj (have E:=E.drew;aB (v:=hZ y.at_) bL E.hb rfl (aT E.p5 jP (dL rfl) rfl λwa E=>?_));refine⟨aF bL (E.p1.hb.cell rfl),?_⟩;refine aT E.p5 bL (dL rfl) rfl (λwb E=>?_);refine Qd.take ds E.p4 (λw54 E=>?_);exact aB jP E.p1.hb rfl (aB bL E.hb rfl ⟨_,by rw[V],E.aG⟩)
  refine aO bO ?_;refine⟨_,bO,k2+1,rfl,rfl,bO,dY I G ?_,E.drop⟩;rw[<- hvc];exact iE (by rw[ld bO]at hnj;exact hnj)
 have h7:p.dT.any (λc=>pe c.e (gq p))=false:=iE (by rw[ld bO]at I;exact I);have V:fk p=0:=ce0 h1 h2 h3 h4 h5 h6 h7;refine aT E.p3 jP (dL rfl) rfl (λwa E=>aT E.p3 bL (dL rfl) rfl λwb E=>?_);refine Qd.take ds E.p2 (λw54 E=>?_);exact aB jP E.p1.hb rfl (aB bL E.hb rfl ⟨_,by rw[V],E.aG⟩)
def C83(sv:Value)(xs:List Int)(w:World)(B:dA (λ_=>True) w sv xs)(M:xs.length<=1000000):CR 83 [sv] w (λv w'=>kV (bH v xs) w w'):=by
 have u:=St.start w;refine eZ Tryz.func83 ?_;refine Ho Tryz.underlying41 (B.ext u.aG) (λp I=>aY (λE=>?_) λE=>?_)
 .have G:=I E;subst G;exact(u.eM (α:=Int)).fresh
 refine bD ([]:List Int) u cS rfl rfl (dL rfl) (λO _ u=>?_);have J:=(B.ext u.aG);exact bJ u cS J (by simp;omega) dD (λ_ _ u=>u.fresh)
def j6(x y:bI):Bool:=decide (x.kind≠7/\y.kind≠7/\(x.kind=6\/y.kind=6)/\x.line≠y.line)
def right(x:bI):Bool:=decide ((x.kind=3/\0<=x.line/\0<=x.cell)\/((x.kind=5\/x.kind=6)/\0<=x.line/\x.cell=0/\x.n=0)\/(x.kind=7/\x.line=0/\x.cell=0/\x.n=0))
def C260(x y:bI)(w:World):CR 260 [j0 x,j0 y] w (λv w'=>v=.bool (j6 x y)/\Ext w w'):=by
 have u:=St.start w;refine eZ Tryz.func260 ?_;refine cG u (λU _ u=>cG u λM _ u=>?_);refine⟨_,?_,λ_ _ h=>h⟩;refine aA gK (aB bL u.p1.hb rfl (aH (aC (λG=>?_) λG=>?_)))
 .intro O;refine⟨_,?_,λ_ _ h=>h⟩;refine bR (fw ?_);intro B;refine⟨vb ?_,u.aG⟩;unfold j6
  first|exact(ew bO).symm|exact(fP bO).symm|exact ga.2 bO|exact ga.2 (bI.ext_iff.trans (by dsimp only;omega))
 refine aA gK (aB bL u.hb rfl (aH ?_));intro O;refine⟨_,?_,λ_ _ h=>h⟩
 first|refine KV ?_|refine bR ?_
 refine aC (λI=>aA gK (aB bL u.p1.hb rfl (aH (aC (λJ=>?_) λJ=>aA gK (aB bL u.hb rfl (aH (aC (λE=>?_) λE=>?_))))))) (λI=>?_)
 .refine aA g9 (aB bL u.p1.hb rfl (aA g9 (aB bL u.hb rfl (bX ?_))));intro B;refine⟨vb ?_,u.aG⟩;unfold j6
  first|exact(ew bO).symm|exact(fP bO).symm|exact ga.2 bO|exact ga.2 (bI.ext_iff.trans (by dsimp only;omega))
 .refine aA g9 (aB bL u.p1.hb rfl (aA g9 (aB bL u.hb rfl (bX ?_))));intro B;refine⟨vb ?_,u.aG⟩;unfold j6
  first|exact(ew bO).symm|exact(fP bO).symm|exact ga.2 bO|exact ga.2 (bI.ext_iff.trans (by dsimp only;omega))
 .intro B;refine⟨vb ?_,u.aG⟩;unfold j6
  first|exact(ew bO).symm|exact(fP bO).symm|exact ga.2 bO|exact ga.2 (bI.ext_iff.trans (by dsimp only;omega))
 intro B;refine⟨vb ?_,u.aG⟩;unfold j6
 first|exact(ew bO).symm|exact(fP bO).symm|exact ga.2 bO|exact ga.2 (bI.ext_iff.trans (by dsimp only;omega))
def C222(x y:bI)(w:World):CR 222 [j0 x,j0 y] w (λv w'=>v=.bool (j6 x y)/\Ext w w'):=by
 have u:=St.start w;refine eZ Tryz.func222 ?_;refine cG u (λU _ u=>cG u λE _ u=>?_);refine⟨_,?_,λ_ _ h=>h⟩;refine aA gK (aB bL u.p1.hb rfl (aH (aC (λM=>?_) λM=>aA gK (aB bL u.hb rfl (aH (aC (λI=>?_) λI=>?_))))))
 .intro B;refine iB ?_;refine⟨vb ?_,u.aG⟩;unfold j6
  first|exact(ew bO).symm|exact(fP bO).symm|exact ga.2 bO|exact ga.2 (bI.ext_iff.trans (by dsimp only;omega))
 .intro B;refine iB ?_;refine⟨vb ?_,u.aG⟩;unfold j6
  first|exact(ew bO).symm|exact(fP bO).symm|exact ga.2 bO|exact ga.2 (bI.ext_iff.trans (by dsimp only;omega))
 refine aA g9 (aB bL u.p1.hb rfl (aA g9 (aB bL u.hb rfl (aH ?_))));intro B;refine aC (λG=>?_) (λG=>⟨_,aA gK (aB bL u.p1.hb rfl (aH (aC (λJ=>?_) λJ=>?_))),λ_ _ h=>h⟩)
 .refine⟨vb ?_,u.aG⟩;unfold j6
  first|exact(ew bO).symm|exact(fP bO).symm|exact ga.2 bO|exact ga.2 (bI.ext_iff.trans (by dsimp only;omega))
 .intro O;refine⟨vb ?_,u.aG⟩;unfold j6
  first|exact(ew bO).symm|exact(fP bO).symm|exact ga.2 bO|exact ga.2 (bI.ext_iff.trans (by dsimp only;omega))
 refine aA gK (aB bL u.hb rfl (aH ?_));intro O;refine⟨vb ?_,u.aG⟩;unfold j6
 first|exact(ew bO).symm|exact(fP bO).symm|exact ga.2 bO|exact ga.2 (bI.ext_iff.trans (by dsimp only;omega))
def eqE(x y:bI):Az (kp x) (kp y)=decide (x=y):=by
 obtain⟨a,b,c,d⟩:=x
 obtain⟨B,b2,E,u⟩:=y
 simp[kp,Az,eqV,Ki]
def C228(x:bI)(w:World):CR 228 [j0 x] w (λv w'=>v=.bool (right x)/\Ext w w'):=by
 have u:=St.start w;refine eZ Tryz.func228 ?_;refine cG u (λW _ u=>aA gK (aB bL u.hb rfl (aH (aC (λO=>⟨_,aA g9 (aB bL u.hb rfl (cR (aC (λU=>?_) λU=>?_))),λ_ _ h=>h⟩) λO=>⟨_,aH (aC (λM=>?_) λM=>?_),λ_ _ h=>h⟩))))
 .refine aA mB (aB bL u.hb rfl (cR ?_));intro V;refine⟨vb ?_,u.aG⟩;unfold right
  first|exact(ew bO).symm|exact(fP bO).symm|exact ga.2 bO|exact ga.2 (bI.ext_iff.trans (by dsimp only;omega))
 .intro V;refine⟨vb ?_,u.aG⟩;unfold right
  first|exact(ew bO).symm|exact(fP bO).symm|exact ga.2 bO|exact ga.2 (bI.ext_iff.trans (by dsimp only;omega))
 .intro J;refine aC (λE=>⟨_,aA g9 (aB bL u.hb rfl (cR (aC (λI=>aA mB (aB bL u.hb rfl (aH (aC (λG=>?_) λG=>?_)))) λI=>?_))),λ_ _ h=>h⟩) (λE=>?_)
  .refine aA oZ (aB bL u.hb rfl (aH ?_));intro B;refine⟨vb ?_,u.aG⟩;unfold right
   first|exact(ew bO).symm|exact(fP bO).symm|exact ga.2 bO|exact ga.2 (bI.ext_iff.trans (by dsimp only;omega))
  .intro B;refine⟨vb ?_,u.aG⟩;unfold right
   first|exact(ew bO).symm|exact(fP bO).symm|exact ga.2 bO|exact ga.2 (bI.ext_iff.trans (by dsimp only;omega))
  .intro B;refine⟨vb ?_,u.aG⟩;unfold right
   first|exact(ew bO).symm|exact(fP bO).symm|exact ga.2 bO|exact ga.2 (bI.ext_iff.trans (by dsimp only;omega))
  refine aD ix u.At (pop (AM _) (Hf WL rfl rfl (eqE x ⟨7,0,0,0⟩) ?_));refine⟨vb ?_,u.aG⟩;unfold right
  first|exact(ew bO).symm|exact(fP bO).symm|exact ga.2 bO|exact ga.2 (bI.ext_iff.trans (by dsimp only;omega))
 refine aH ?_;intro J;refine aC (λE=>⟨_,aA g9 (aB bL u.hb rfl (cR (aC (λI=>aA mB (aB bL u.hb rfl (aH (aC (λG=>?_) λG=>?_)))) λI=>?_))),λ_ _ h=>h⟩) (λE=>?_)
 .refine aA oZ (aB bL u.hb rfl (aH ?_));intro B;refine⟨vb ?_,u.aG⟩;unfold right
  first|exact(ew bO).symm|exact(fP bO).symm|exact ga.2 bO|exact ga.2 (bI.ext_iff.trans (by dsimp only;omega))
 .intro B;refine⟨vb ?_,u.aG⟩;unfold right
  first|exact(ew bO).symm|exact(fP bO).symm|exact ga.2 bO|exact ga.2 (bI.ext_iff.trans (by dsimp only;omega))
 .intro B;refine⟨vb ?_,u.aG⟩;unfold right
  first|exact(ew bO).symm|exact(fP bO).symm|exact ga.2 bO|exact ga.2 (bI.ext_iff.trans (by dsimp only;omega))
 refine aD ix u.At (pop (AM _) (Hf WL rfl rfl (eqE x ⟨7,0,0,0⟩) ?_));refine⟨vb ?_,u.aG⟩;unfold right
 first|exact(ew bO).symm|exact(fP bO).symm|exact ga.2 bO|exact ga.2 (bI.ext_iff.trans (by dsimp only;omega))
def C277(x:bI)(w:World):CR 277 [j0 x] w (λv w'=>v=.bool (right x)/\Ext w w'):=by
 have u:=St.start w;refine eZ Tryz.func277 ?_;refine cG u (λzM _ u=>aA gK (aB bL u.hb rfl (aH (aC (λW=>⟨_,aA g9 (aB bL u.hb rfl (cR (aC (λZ=>?_) λZ=>?_))),λ_ _ h=>h⟩) λW=>⟨_,aA mB (aB bL u.hb rfl (bX (aC (λU=>?_) λU=>?_))),λ_ _ h=>h⟩))))
 .refine aA mB (aB bL u.hb rfl (cR ?_));intro V;refine⟨vb ?_,u.aG⟩;unfold right
  first|exact(ew bO).symm|exact(fP bO).symm|exact ga.2 bO|exact ga.2 (bI.ext_iff.trans (by dsimp only;omega))
 .intro V;refine⟨vb ?_,u.aG⟩;unfold right
  first|exact(ew bO).symm|exact(fP bO).symm|exact ga.2 bO|exact ga.2 (bI.ext_iff.trans (by dsimp only;omega))
 .intro Y;refine iB ?_;refine⟨vb ?_,u.aG⟩;unfold right
  first|exact(ew bO).symm|exact(fP bO).symm|exact ga.2 bO|exact ga.2 (bI.ext_iff.trans (by dsimp only;omega))
 refine aA oZ (aB bL u.hb rfl (bX ?_));intro Y;refine aC (λM=>?_) (λM=>⟨_,aA gK (aB bL u.hb rfl (aH (aC (λnO=>aA g9 (aB bL u.hb rfl (cR (aC (λJ=>?_) λJ=>aA gK (aB bL u.hb rfl (aH (aC (λO=>?_) λO=>?_))))))) λnO=>?_))),λ_ _ h=>h⟩)
 .refine⟨vb ?_,u.aG⟩;unfold right
  first|exact(ew bO).symm|exact(fP bO).symm|exact ga.2 bO|exact ga.2 (bI.ext_iff.trans (by dsimp only;omega))
 .intro B;refine⟨vb ?_,u.aG⟩;unfold right
  first|exact(ew bO).symm|exact(fP bO).symm|exact ga.2 bO|exact ga.2 (bI.ext_iff.trans (by dsimp only;omega))
 .refine aA g9 (aB bL u.hb rfl (aH ?_));intro B;refine⟨vb ?_,u.aG⟩;unfold right
  first|exact(ew bO).symm|exact(fP bO).symm|exact ga.2 bO|exact ga.2 (bI.ext_iff.trans (by dsimp only;omega))
 .intro B;refine⟨vb ?_,u.aG⟩;unfold right
  first|exact(ew bO).symm|exact(fP bO).symm|exact ga.2 bO|exact ga.2 (bI.ext_iff.trans (by dsimp only;omega))
 refine aA gK (aB bL u.hb rfl (aH (aC (λMC=>aA g9 (aB bL u.hb rfl (cR (aC (λI=>?_) λI=>aA gK (aB bL u.hb rfl (aH (aC (λG=>?_) λG=>?_))))))) λMC=>aA gK (aB bL u.hb rfl (aH (aC (λE=>?_) λE=>?_))))))
 .intro B;refine⟨vb ?_,u.aG⟩;unfold right
  first|exact(ew bO).symm|exact(fP bO).symm|exact ga.2 bO|exact ga.2 (bI.ext_iff.trans (by dsimp only;omega))
 .refine aA g9 (aB bL u.hb rfl (aH ?_));intro B;refine⟨vb ?_,u.aG⟩;unfold right
  first|exact(ew bO).symm|exact(fP bO).symm|exact ga.2 bO|exact ga.2 (bI.ext_iff.trans (by dsimp only;omega))
 .intro B;refine⟨vb ?_,u.aG⟩;unfold right
  first|exact(ew bO).symm|exact(fP bO).symm|exact ga.2 bO|exact ga.2 (bI.ext_iff.trans (by dsimp only;omega))
 .refine aA g9 (aB bL u.hb rfl (aH ?_));intro B;refine⟨vb ?_,u.aG⟩;unfold right
  first|exact(ew bO).symm|exact(fP bO).symm|exact ga.2 bO|exact ga.2 (bI.ext_iff.trans (by dsimp only;omega))
 intro B;refine⟨vb ?_,u.aG⟩;unfold right
 first|exact(ew bO).symm|exact(fP bO).symm|exact ga.2 bO|exact ga.2 (bI.ext_iff.trans (by dsimp only;omega))
def rK(l:List bI)(i:Int):Bool:=decide (0<=i/\i<l.length)&&(match l[i.toNat]? with|some x=>(l.take i.toNat).all (j6 x)|none=>false)
def pF(l:List bI):List Int:=((u7 l.length).map fun (k:Nat)=>(k:Int)).filter (rK l)
theorem lZ{l:List bI}{i:Int}(h:i<0\/(l.length:Int)<=i):rK l i=false:=by
 grind[rK]
theorem SK{l:List bI}{i:Int}{x:bI}(u:0<=i)(h1:i<l.length)(B:l[i.toNat]?=some x):rK l i = !(l.take i.toNat).any λy=>!j6 x y:=by
 grind[rK,j6]
def sO(l:List bI)(k:Nat):List Int:=((u7 k).map fun (k:Nat)=>(k:Int)).filter (rK l)
def HK(l:List bI)(k:Nat):(sO l k).length<=k:=by
 grind[sO]
theorem FG{l:List bI}{k:Nat}(h:rK l k=true):sO l (k+1)=sO l k++[(k:Int)]:=by
 unfold sO;rw[Kl,vH,Bl];simp[h]
theorem HL{l:List bI}{k:Nat}(h:rK l k=false):sO l (k+1)=sO l k:=by
 unfold sO;rw[Kl,vH,Bl];simp[h]
theorem FH(l:List bI){k:Nat}(h:k=l.length):sO l k=pF l:=by subst h;rfl
def uo(w:World)(p:Nat)(room:Int)(l:List bI):Prop:=∃sv,Cell w p 0 (hZ room)/\Cell w p 1 sv/\dA (λ_=>True) w sv l
def jk(p:Nat)(room:Int)(l:List bI):HP:=pM λsv=>sep (bY p [hZ room,sv]) (bH sv l)
theorem uo.ext{w w':World}{p:Nat}{room:Int}{l:List bI}(h:uo w p room l)(e:Ext w w'):uo w' p room l:=by
 obtain⟨sv,h1,h2,h3⟩:=h;exact⟨sv,h1.ext e,h2.ext e,h3.ext e⟩
def jk.rd{w:World}{F:Nat->Prop}{p:Nat}{room:Int}{l:List bI}(h:(jk p room l).p w F):uo w p room l:=by
 obtain⟨sv,B,u,h1,h2,_⟩:=h
 exact⟨sv,h1.1.cell rfl,h1.1.cell rfl,(bH.rd h2).mono λ_ _=>trivial⟩
def C297(sv fv:Value)(xs:List bI)(g:bI->Bool)(w:World)(J:dA (λ_=>True) w sv xs)(U:wB w fv g)(Z:xs.length<=1073741824):CR 297 [sv,fv] w (λv w'=>v=hZ (sC g xs)/\Ext w w'):=by
 obtain⟨g0,first,cap,rfl,O,W⟩:=U;have u:=St.start w;refine eZ Tryz.func297 ?_;refine aK fU (J.ext u.aG) ?_;refine⟨λm x I=>∃k:Nat,x=hZ (k:Int)/\m=xs.length-k/\k<=xs.length/\(∀y∈xs.take k,g y=false)/\St w aZ [] I,⟨_,0,rfl,rfl,l6 _,ee,u⟩,?_⟩;rintro m _ I ⟨k,rfl,rfl,hk,B,u⟩ _;refine aR (aC (λjL=>?_) λ_=>⟨gQ (n3 .i64) (jg (by rw[ld bO]at B;exact B)).symm,u.aG⟩);obtain⟨V,G⟩:=gx xs (i:=(k:Int).toNat) bO;refine aQ fU (J.ext u.aG) bO G (λ_ Y=>aD ix Y (gW O (W V I u.aG) ?_))
 rintro _ _ ⟨rfl,M⟩;have u:=u.ext M;exact aY (λE=>⟨gQ (n3 .i64) (mh B G E).symm,u.aG⟩) (λE=>aO bO ⟨xs.length-(k+1),bO,k+1,rfl,rfl,bO,dY B G E,u⟩)
def C261(sv fv:Value)(xs:List bI)(g:bI->Bool)(w:World)(B:dA (λ_=>True) w sv xs)(E:wB w fv g)(G:xs.length<=1073741824):CR 261 [sv,fv] w (λv w'=>v=.bool (xs.any g)/\Ext w w'):=by
 have u:=St.start w;refine eZ Tryz.func261 ?_;exact aV anr u (C297 _ _ _ _ _ (B.ext u.aG) (E.ext u.aG) bO) (λ_ _ u=>cR ⟨vb (kX _ _),u.aG⟩)
def C259(x y:bI)(p b2 b3:Nat)(i:Int)(room:Int)(l:List bI)(w:World)(h2:Cell w b2 0 (.pointer (some ⟨p,0,none⟩)))(h3:Cell w b3 0 (hZ i))(hb:uo w p room l)(I:0<=i)(B:l[i.toNat]?=some x):CR 259 [j0 y,.pointer (some ⟨b2,0,none⟩),.pointer (some ⟨b3,0,none⟩)] w (λv w'=>v=.bool (!j6 x y)/\Ext w w'):=by
 obtain⟨sv,M,E,G⟩:=hb;have O:=(kO.1 B).1;have u:=St.start w;refine oL Tryz.func259 (pl:=au1) ?_;exact cG u (λ_ _ u=>have u:=u.drew;bN AD (h2.ext u.aG) (aE (aA kT (bN iO (E.ext u.aG) (bN bL (h3.ext u.aG) (aQ fU (G.ext u.aG) I B λ_ J=>aD ix J (aD ix u.At (aV ane u (C260 x y _) λ_ _ u=>bR ⟨rfl,u.aG⟩))))))))
def C216(p:Nat)(i:Int)(room:Int)(l:List bI)(w:World)(hb:uo w p room l)(hn:l.length<=1073741824):CR 216 [.pointer (some ⟨p,0,none⟩),hZ i] w (λv w'=>v=.bool (rK l i)/\Ext w w'):=by
 have Za:=hb;obtain⟨sv,CK,J,M⟩:=hb;have u:=St.start w;refine oL Tryz.func216 (pl:=auU) ?_;refine nA u rfl (λE U u=>nA u rfl λB _ u=>?_);refine⟨_,?_,λ_ _ h=>h⟩;have u:=u.drew;refine aB bL u.hb rfl (aR (aC (λZ=>?_) λZ=>?_))
 .intro W;exact iB ⟨vb (lZ bO).symm,u.aG⟩
 refine aB bL u.hb rfl (aB AD u.p1.hb rfl (aE (aA kT (bN iO (J.ext u.aG) (aK fU (M.ext u.aG) (cR ?_))))));intro W;refine aC (λ_=>⟨vb (lZ bO).symm,u.aG⟩) (λeu=>have u:=u.drew;aB AD u.p1.hb rfl (aE (aA kT (bN iO (J.ext u.aG) (aB bL u.hb rfl (l9 fU (M.ext u.aG) bO bO λV Y=>?_))))));obtain⟨x,O⟩:=gx l (i:=i.toNat) bO
 have I:wB _ (.func (.func 259) [].toArray [.pointer (some ⟨E,0,none⟩),.pointer (some ⟨B,0,none⟩)].toArray) (λy=>!j6 x y):=
  ⟨259,[],_,rfl,anc,λy U G=>C259 x y p E B i room l U ((u.p1.hb.cell rfl).ext G) ((u.hb.cell rfl).ext G) ((Za.ext u.aG).ext G) bO O⟩
 exact aV anf u (C261 _ _ _ _ _ Y I (by rw[l2];omega)) (λ_ _ u=>bR ⟨vb (SK bO bO O).symm,u.aG⟩)
def C215(p:Nat)(room:Int)(l:List bI)(w:World)(hb:uo w p room l):CR 215 [.pointer (some ⟨p,0,none⟩)] w (λv w'=>v=.bool (decide (room<=l.length))/\Ext w w'):=by
 obtain⟨sv,G,E,B⟩:=hb;have u:=St.start w;refine oL Tryz.func215 (pl:=auT) ?_;exact aE (aA kT (have u:=u.drew;bN iO (E.ext u.aG) (aK fU (B.ext u.aG) (aE (aA Wz (bN bL (G.ext u.aG) (cR ⟨rfl,u.aG⟩)))))))
def C139(p:Nat)(room:Int)(l:List bI)(w:World)(hb:uo w p room l)(Y:l.length<=1048576):CR 139 [.pointer (some ⟨p,0,none⟩)] w (λv w'=>kV (bH v (pF l)) w w'):=by
 have U:=hb;obtain⟨sv,Z,G,I⟩:=hb;have u:=St.start w;refine eZ Tryz.func139 ?_;refine aE (aA kT (bN iO (G.ext u.aG) (aK fU (I.ext u.aG) ?_)));refine⟨λm o x E=>∃k:Nat,x=hZ (k:Int)/\m=l.length-k/\k<=l.length/\St w aZ [bH o (sO l k)] E,⟨_,0,rfl,rfl,l6 _,u.eM⟩,?_⟩;rintro m o _ E ⟨k,rfl,rfl,hk,u⟩ _;have Fe:=HK l k;refine aR (aC (λO=>⟨_,aV afM u (C216 _ _ _ _ _ (U.ext u.aG) bO) (λ_ W u=>aY (λB=>?_) λB=>?_),λ_ _ h=>h⟩) λO=>?_)
 .refine bD ([(k:Int)]:List Int) u cS rfl rfl (dL rfl) (λXc _ u=>?_);have M:=u.dS;refine bJ u.p1 cS M (by simp<;>omega) dD (λV _ u=>?_);have u:=u.p1.drop;intro J;exact aO bO ⟨l.length-(k+1),bO,k+1,rfl,rfl,bO,by rw[FG B];exact u⟩
 .intro J;exact aO bO ⟨l.length-(k+1),bO,k+1,rfl,rfl,bO,by rw[HL B];exact u⟩
 rw[FH l bO]at u;exact u.fresh
def MK(room:Int)(l:List bI)(x:bI):Int:=if right x=true then(if room<=l.length then 2 else 0)else 1
def sP(room:Int)(l:List bI)(x:bI):List bI:=if right x=true/\¬ room<=l.length then l++[x]else l
def dH(l:List bI)(i:Int):bI:=if rK l i=true then(l[i.toNat]?).getD ⟨0,0,0,0⟩else⟨0,0,0,0⟩
def xD(l:List bI)(i:Int):Int:=if 0<=i/\i<l.length then(if rK l i=true then 0 else 13)else 1
def jW(l:List bI)(i:Int):List bI:=if rK l i=true then l.eraseIdx i.toNat else l
theorem aeb{l:List bI}{i:Int}(h:rK l i=true):0<=i/\i<l.length:=by
 unfold rK at h;grind
def uo.mk'{w:World}{p:Nat}{room:Int}{sv:Value}{l:List bI}(h1:mW w p [hZ room,sv])(h2:dA (λ_=>True) w sv l):uo w p room l:=
 ⟨sv,h1.cell rfl,h1.cell rfl,h2⟩
def jk.shut{w0 w:World}{A:Nat->Prop}{R:List HP}{p:Nat}{room:Int}{sv:Value}{l:List bI}(u:St w0 A (bY p [hZ room,sv]::bH sv l::R) w):St w0 A (jk p room l::R) w:=
 St.ep (H:=λsv=>sep (bY p [hZ room,sv]) (bH sv l)) sv (St.join u)
def DU{w0 w:World}{A:Nat->Prop}{R:List HP}{p:Nat}{room:Int}{l:List bI}(u:St w0 A (jk p room l::R) w):uo w p room l:=by
 obtain⟨F,h,_⟩:=u.head;exact jk.rd h
def C224(v:Value)(i:Int)(xs:List bI)(F:Nat->Prop)(w:World)(W:(bH v xs).p w F)(h0:0<=i)(hi:i<xs.length)(hn:xs.length<=1073741824) :
  CR 224 [v,hZ i,hZ (i+1)] w (λv' w'=>True/\mU F (bH v' (xs.eraseIdx i.toNat)) w w'):=by
 obtain⟨i,rfl⟩:=Int.eq_ofNat_of_zero_le h0;replace hi:i<xs.length:=bO
 rw[qb];have Vz:=bH.rd W;obtain⟨b,cap,rest,rfl,hb,B,O⟩:=rT W hi;have hlen:(flat xs).length=xs.length*4:=dB xs;have Ax:xs.length<=cap:=B.1;replace B:=B.2
 change cap*4<=_ at B
 refine ab9 _ _ _ _ _ ?_;unfold S224;refine pop (IX fU) (WN fU bO bO bO bO λ_=>aH (aC (λc=>absurd c bO) λ_=>pop (IX fU) ?_))
 have G:pr hH (ob 179 (.slice (some ⟨b,0,none⟩) xs.length cap) none (some (hZ (i:Int))) none)=some (.slice (some ⟨b,0,none⟩) i cap):=by
  rw[wO fU (l:=0) (h:=i) (oy (.inl ⟨rfl,rfl⟩) (.inr ⟨_,rfl,bO,bO⟩) bO bO)];simp[gI]
 refine pop G (B0 fU Vz bO bO λs25 u=>?_);rw[show((i:Int)+1).toNat=i+1 from bO]at u;have I:(xs.drop (i+1)).length=xs.length-(i+1):=ee
 obtain⟨w1,Z,b1,g1⟩:=GB (P:=hH) (R:=179) (n:=i) (cap:=cap) fU (hb.of_eq (w':=drew w) rfl) (u.ext (Ext.drew w)) bO (by rw[l1,hlen,I];change i*4+(xs.length-(i+1))*4<=_;omega);rw[I,show i+(xs.length-(i+1))=xs.length-1 from bO]at Z;refine⟨_,w1,Z,?_⟩;refine pop (IX fU) ?_
 have J:pr hH (ob 179 (.slice (some ⟨b,0,none⟩) (xs.length-1) cap) (some (hZ ((xs.length-1:Nat):Int))) (some (hZ (xs.length:Int))) none)=some (.slice (some ⟨b,(xs.length-1)*4,none⟩) 1 (cap-(xs.length-1))):=by
  rw[wO fU (l:=xs.length-1) (h:=xs.length) (oy (.inr ⟨_,rfl,bO,bO⟩) (.inr ⟨_,rfl,bO,bO⟩) bO bO),ei bO];simp[gI];omega
 refine pop J ?_;have hx:xs[i]?=some xs[i]:=by simp[hi]
 have Gy:=zB hx;have E:(flat (xs.take i)).length=i*4:=by rw[dB,l2,Nat.min_eq_left bO];rfl
 have hD:(flat (xs.drop (i+1))).length=(xs.length-(i+1))*4:=by rw[dB,I];rfl
 have V:(kp xs[i]).length=4:=rfl;have U:(flat (sk 1 (⟨0,0,0,0⟩:bI))).length=4:=rfl
 have s1:ji (flat xs++rest) (i*m8 bI) (flat (xs.drop (i+1))) =
   flat (xs.take i)++flat (xs.drop (i+1))++((kp xs[i]++flat (xs.drop (i+1))).drop (flat (xs.drop (i+1))).length++rest):=by
  have:=my (flat (xs.take i)) ((kp xs[i]++flat (xs.drop (i+1))).take (flat (xs.drop (i+1))).length)
   ((kp xs[i]++flat (xs.drop (i+1))).drop (flat (xs.drop (i+1))).length++rest) (flat (xs.drop (i+1))) (by rw[l2,l1];omega)
  rw[E]at this
  change ji (flat xs++rest) (i*4) _=_
  rw[<- this,Gy]
  have e0:∀(a b c d:List Value) (n:Nat),a++(b++c)++d=a++(b++c).take n++((b++c).drop n++d):=λa b c d n=>by
   rw[n5 a ((b++c).take n),<- n5 ((b++c).take n),qa,n5 a]
  exact gQ (λz=>ji z (i*4) (flat (xs.drop (i+1)))) (by first|exact e0 _ _ _ _ _|(rw[<- e0];simp only[n5])|(simp only[n5];rw[<- n5 (List.take _ _),qa,n5]))
 rw[s1]at b1
 obtain⟨w2,r2,b2,g2⟩:=TT (P:=hH) (R:=0) (o:=(xs.length-1)*4) (n:=1) (c:=cap-(xs.length-1)) (z:=(⟨0,0,0,0⟩:bI)) fU rG b1
  (by simp only[l1,rf,E,hD,V];change _+1*4<=_;omega)
 refine⟨_,w2,r2,?_⟩
 have Y:=my (flat (xs.take i)++flat (xs.drop (i+1))) ((kp xs[i]++flat (xs.drop (i+1))).drop (flat (xs.drop (i+1))).length) rest (flat (sk 1 (⟨0,0,0,0⟩:bI)))
  (by rw[rf,l1,V,U];omega)
 rw[show(flat (xs.take i)++flat (xs.drop (i+1))).length=(xs.length-1)*4 from by rw[l1,E,hD];omega,n5 _ _ rest]at Y;rw[Y]at b2;refine⟨trivial,F,.inr ⟨b,cap,flat (sk 1 (⟨0,0,0,0⟩:bI))++rest,?_,?_,?_,O⟩,λ_ hb=>.inl hb,((Ext.drew w).aG (A:=F)).trans (g1.trans (C:=F) g2 (λk M=>(O k).2 M) λk _ M=>(O k).2 M) (λ_ h=>h) λ_ _ h=>h⟩
 .rw[Ng hi]
 .rw[vE,gJ,<- n5];exact b2
 refine⟨by rw[Ng hi];omega,?_⟩;rw[vE,gJ]
 change cap*4<=_
 rw[l1,hlen]at B;simp only[l1,E,hD,U];omega
def C223(sv:Value)(xs:List bI)(w:World)(E:dA (λ_=>True) w sv xs)(U:xs.length<=1073741824):CR 223 [sv] w (λv w'=>kV (bH v xs) w w'):=by
 have B:=E;obtain⟨a,cap,rfl,V,h3⟩:=E;have u:=St.start w;refine eZ Tryz.func223 ?_;refine Wr (fp fU).1 (λM=>?_) ?_
 .rcases h3 with⟨h,hc⟩|⟨b,o,h,_⟩
  .exact⟨by rw[h];rfl,hc⟩
  rw[M]at h;cases h
 refine aY (λG=>?_) (λG=>?_)
 .have I:a=none:=by cases a with|none=>rfl|some _=>cases G
  have J:xs=[]:=by
   rcases h3 with⟨h,_⟩|⟨b,o,h,_⟩
   .exact h
   .rw[I]at h;cases h
  subst J;exact u.eM.fresh
 refine bD ([]:List bI) u fU rfl rfl (dL rfl) (λW _ u=>?_);have O:=(B.ext u.aG);exact bJ u fU O (by simp<;>omega) dD (λ_ _ u=>u.fresh)
def C153(p:Nat)(room:Int)(l:List bI)(w:World)(hb:uo w p room l)(J:l.length<=1073741824):CR 153 [.pointer (some ⟨p,0,none⟩)] w (λv w'=>kV (bH v l) w w'):=by
 obtain⟨sv,I,E,B⟩:=hb;have u:=St.start w;refine eZ Tryz.func153 ?_;refine aE (aA kT (bN iO (E.ext u.aG) (dM afN (C223 _ _ _ (B.ext u.aG) bO) ?_)));rintro _ _ G;have u:=u.made G;exact u.fresh
theorem ML{room:Int}{l:List bI}{x:bI}(h:right x=false):MK room l x=1:=by unfold MK;rw[h];rfl
theorem MM{room:Int}{l:List bI}{x:bI}(h:right x=false):sP room l x=l:=by unfold sP;rw[h];rfl
theorem HM{room:Int}{l:List bI}{x:bI}(h:right x=true)(u:room<=l.length):MK room l x=2:=by grind[MK]
theorem HN{room:Int}{l:List bI}{x:bI}(u:room<=l.length):sP room l x=l:=by grind[sP]
theorem SL{room:Int}{l:List bI}{x:bI}(h:right x=true)(u:¬ room<=l.length):MK room l x=0:=by grind[MK]
theorem SM{room:Int}{l:List bI}{x:bI}(h:right x=true)(u:¬ room<=l.length):sP room l x=l++[x]:=by unfold sP;grind
def C162(p:Nat)(room:Int)(l:List bI)(x:bI)(F:Nat->Prop)(w:World)(M:(jk p room l).p w F)(U:l.length<=1048576):CR 162 [.pointer (some ⟨p,0,none⟩),j0 x] w (λv w'=>v=hZ (MK room l x)/\mU F (jk p room (sP room l x)) w w'):=by
 have u:=St.begin M;obtain⟨sv,u⟩:=u.eo;have u:=u.split;refine oL Tryz.func162 (pl:=auM) ?_;refine cG u (λI _ u=>aD ix u.At (aV am7 u (C228 _ _) λ_ G u=>bR (aY (λB=>?_) λB=>aV afL u (C215 _ _ _ _ (uo.mk' u.p1.hb u.p2.dS)) λ_ G u=>aC (λE=>?_) λE=>?_)))
 .have u:=u.p2.p2;rw[ML (by simpa using B),MM (by simpa using B)];exact⟨rfl,(jk.shut u).mut⟩
 .have u:=u.p2.p2;rw[HM (by simpa using B) E,HN E];exact⟨rfl,(jk.shut u).mut⟩
 refine aE (aA kT (have u:=u.drew;aB iO u.p1.hb rfl (aD ix u.At (bD ([x]) u fU rfl rfl (dL rfl) λV _ u=>?_))));refine⟨aF iO (u.p2.hb.cell rfl),?_⟩;have J:=u.dS;refine bJ u.p3 fU J (by simp<;>omega) dD (λO _ u=>have u:=u.p1.drop;aE (aA kT (aT u.p2 iO (dL rfl) u.dS.one λ_ u=>?_)));have u:=u.p1.p1;rw[SL (by simpa using B) E,SM (by simpa using B) E];exact⟨rfl,(jk.shut u).mut⟩
theorem rW{l:List bI}{i:Int}(h:rK l i=false):dH l i=⟨0,0,0,0⟩:=by unfold dH;rw[h];rfl
theorem rX{l:List bI}{i:Int}(h:rK l i=false):jW l i=l:=by unfold jW;rw[h];rfl
theorem yu{l:List bI}{i:Int}(h:i<0\/(l.length:Int)<=i):xD l i=1:=by unfold xD;omega
theorem MN{l:List bI}{i:Int}(u:0<=i/\i<l.length)(h:rK l i=false):xD l i=13:=by unfold xD;grind
theorem MO{l:List bI}{i:Int}(h:rK l i=true):xD l i=0:=by unfold xD;rw[ej (aeb h),h];rfl
theorem MP{l:List bI}{i:Int}{x:bI}(h:rK l i=true)(u:l[i.toNat]?=some x):dH l i=x:=by unfold dH;grind
theorem MQ{l:List bI}{i:Int}(h:rK l i=true):jW l i=l.eraseIdx i.toNat:=by unfold jW;rw[h];rfl
def C155(p:Nat)(room:Int)(l:List bI)(i:Int)(F:Nat->Prop)(w:World)(E:(jk p room l).p w F)(hn:l.length<=1048576):CR 155 [.pointer (some ⟨p,0,none⟩),hZ i] w (λv w'=>v=.tuple #[j0 (dH l i),hZ (xD l i)]/\mU F (jk p room (jW l i)) w w'):=by
 have u:=St.begin E;obtain⟨sv,u⟩:=u.eo;have u:=u.split;refine eZ Tryz.func155 ?_;refine aM u rG (λPb _ u=>?_);refine⟨_,?_,λ_ _ h=>h⟩;refine aR (aC (λU=>?_) λU=>?_)
 .intro M;refine iB (pop yl (aJ (x:=(⟨0,0,0,0⟩:bI)) u ix rfl rfl λJ u=>aD ix u.At ?_));have u:=u.p2.p2;rw[rW (lZ bO),yu bO,rX (lZ bO)];exact⟨rfl,(jk.shut u).mut⟩
 refine aE (aA kT (aB iO u.p1.hb rfl (aK fU u.p2.dS (cR ?_))));intro M;refine aC (λW=>?_) (λW=>aV afM u (C216 _ _ _ _ _ (uo.mk' u.p1.hb u.p2.dS) bO) λ_ Z u=>bR (aY (λB=>?_) λB=>?_))
 .refine pop yl (aJ (x:=(⟨0,0,0,0⟩:bI)) u ix rfl rfl λJ u=>aD ix u.At ?_);have u:=u.p2.p2;rw[rW (lZ bO),yu bO,rX (lZ bO)];exact⟨rfl,(jk.shut u).mut⟩
 .refine pop yl (aJ (x:=(⟨0,0,0,0⟩:bI)) u ix rfl rfl λ_ u=>aD ix u.At ?_);have u:=u.p2.p2;rw[rW (by simpa using B),MN bO (by simpa using B),rX (by simpa using B)];exact⟨rfl,(jk.shut u).mut⟩
 refine aE (aA kT (aB iO u.p1.hb rfl ?_));obtain⟨G,I⟩:=gx l (i:=(i).toNat) bO;refine dR u.p2 fU bO bO (λ_ V=>gP u.p2 ix V I (aM u rG λQi _ u=>aJ (x:=G) u ix rfl rfl λ_ u=>aE (aA kT (aB iO u.p2.hb rfl (dM afN (C223 _ _ _ u.p3.dS bO) ?_)))));rintro _ _ Y;have u:=u.made Y;refine aO bO (ql am5 u (H':=λv=>bH v (l.eraseIdx i.toNat)) (Φ:=λ_ _=>True) (λF E=>?_) ?_)
 .exact C224 _ i _ F _ E bO bO bO
 rintro O _ _ u;refine aE (aA kT (aT u.p3 iO (dL rfl) u.dS.one λ_ u=>aD ix u.p2.At (aJ (x:=G) u.p3 ix rfl rfl λ_ u=>aD ix u.At ?_)));have u:=u.p2.p2;rw[MP (by simpa using B) I,MO (by simpa using B),MQ (by simpa using B)];exact⟨rfl,(jk.shut u).mut⟩
end Go.Proofs.YtpdlpabnlkofmaaGreatDoor

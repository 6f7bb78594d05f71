/-
  Part 4.
-/
import Derived.Test.YtpdlpabnlkofmaaGreatDoorR6x3
set_option maxHeartbeats 8000000
set_option linter.all false
set_option maxRecDepth 100000
open Go.Fw.Flat renaming val->ir,enc->j0,sz->mA
open ByteArray renaming mk->kp,size_extract->abM
open List renaming getElem?_eq_some_iff->kB,mem_of_getElem?->kE,take_of_length_le->kO,getElem?_eq_getElem->la,length_append->lr,length_take->l1,length_singleton->l2,length_map->nc,append_assoc->nK,mem_map->ob,mem_cons_self->oj,getElem?_map->o1,mem_append->o8,take_append_drop->qa,mem_cons_of_mem->qo,length_drop->rH,replicate->r6,mem_cons->sl,getElem?_append_right->tx,drop_drop->tz,range->tU,getElem?_append_left->u3,nil_append->vK,mem_singleton->v7,drop_eq_nil_of_le->v9,map_append->wk,eraseIdx_eq_take_drop_succ->wx,any_eq_true->wS,mem_of_mem_take->wV,mem_iff_getElem?->xO,filter_append->Bq,map_congr_left->BP,range_succ->HZ,map_map->H4,nodup_cons->Ka,map_cons->Lp,flatMap_append->Lv,mem_range->LY,length_eraseIdx_of_lt->Oc,mem_filter->OT,any_append->Q4,pairwise_iff_getElem->Td,any_cons->U0,getElem_mem->Vj,pairwise_map->aaE,any_nil->aaF,nodup_append->aaG,take_length->aaS
open Nat renaming zero_le->l0,le_refl->o6,le_of_eq->AH,add_sub_cancel_left->G8,add_assoc->Oe,lt_or_ge->P5
open Go.Fw.Deep renaming dr->mi,ext->Nk
open Go.Value renaming int->nG
open Go.Instr renaming sliceAt->n0,mapUpdate->xP,lookup->yC,box->Ae,keyThatStays->Pd
open Bool renaming and_eq_true->n4,not_eq_true'->ta,or_eq_true->xW,true_and->Av,eq_iff_iff->J8,false_and->SE,or_false->U2
open Option renaming some->n5,map_eq_some_iff->H5
open Int renaming toNat_natCast->pd,mul_le_mul->JO,add_comm->abN
open Array renaming getElem?_eq_some_iff->Fu
open Prod renaming fst->aaA
namespace Go.Proofs.YtpdlpabnlkofmaaGreatDoor
open Go.Fw
def o0(s:ByteArray):ByteArray:=s.extract 0 (min (s.size:Int) 40).toNat
def qx(s:ByteArray):(o0 s).size<=40:=by
 unfold o0
 rw[abM];omega
def ae7(x:cC):cC:={x with name:=o0 x.name}
def zq(l:List cC):List cC:=(l.take 60).map ae7
def Tz(x:bR):bR:=⟨x.kind,o0 x.eN,o0 x.name,zq x.e,zq x.f,x.n,x.body,x.eG,x.at_⟩
def F8(l:List bR):List bR:=(l.take 50).map Tz
def ae8(c:cN):cN:={c with name:=o0 c.name}
def jM(l:List cN):List cN:=(l.take 8).map ae8
def zQ(t:cR):cR:=⟨o0 t.name,(t.dY.take 6).map o0,F8 t.body,t.at_⟩
def lx(l:List cR):List cR:=(l.take 4).map zQ
def F9(c:ic):ic:=⟨zq c.e,c.at_⟩
def cK(p:bZ):bZ:=⟨(p.lines.take 6).map jM,jM p.iY,jM p.eS,lx p.threads,lx p.recover,(p.eb.take 6).map F9⟩
theorem ti{α:Type}{xs:List α}{k m:Nat}(h:k<=m)(h2:k<=xs.length)(h3:¬ (k<xs.length/\k<m)):xs.take k=xs.take m:=by
 grind
def Ga(l:List cC):(zq l).length<=60:=by grind[zq]
def Km(l:List cC):∀y∈zq l,y.name.size<=1048576:=by
 intro y u
 obtain⟨x,_,rfl⟩:=ob.1 u
 have:=qx x.name
 show(o0 x.name).size<=_
 omega
def Gb(l:List cN):∀y∈jM l,y.name.size<=1048576:=by
 intro y u
 obtain⟨x,_,rfl⟩:=ob.1 u
 have:=qx x.name
 show(o0 x.name).size<=_
 omega
def CS(l:List cN):(jM l).length<=8:=by grind[jM]
def ZK(l:List bR):(F8 l).length<=50:=by grind[F8]
def Gc(l:List cR):(lx l).length<=4:=by grind[lx]
def ae9(l:List bR):∀y∈F8 l,SzS y:=by
 intro y u
 obtain⟨x,_,rfl⟩:=ob.1 u
 have h1:=qx x.eN
 have h2:=qx x.name
 have h3:=Ga x.e
 have h4:=Ga x.f
 exact⟨by show(o0 x.eN).size<=_;omega,by show(o0 x.name).size<=_;omega,by show(zq x.e).length<=_;omega,by show(zq x.f).length<=_;omega,Km _,Km _⟩
def QM(t:cR):(zQ t).dY.length<=6:=by show((t.dY.take 6).map o0).length<=6;grind
def IA(l:List cR):∀y∈lx l,YQ y/\y.dY.length<=500/\y.body.length<=500:=by
 intro y u
 obtain⟨x,_,rfl⟩:=ob.1 u
 have h1:=qx x.name
 have h2:=QM x
 have h3:=ZK x.body
 refine⟨⟨by show(o0 x.name).size<=_;omega,λs B=>?_,ae9 _⟩,cO,by show(F8 x.body).length<=_;omega⟩
 obtain⟨z,_,rfl⟩:=ob.1 (show s∈(x.dY.take 6).map o0 from B)
 have:=qx z
 omega
def TA(p:bZ):PZ (cK p):=by
 have u:(cK p).lines.length<=6:=by show((p.lines.take 6).map jM).length<=6;grind
 have hc:(cK p).eb.length<=6:=by show((p.eb.take 6).map F9).length<=6;grind
 have h1:=CS p.iY
 have h2:=CS p.eS
 have h3:=Gc p.threads
 have h4:=Gc p.recover
 have Xa:∀t∈(cK p).threads++(cK p).recover,YQ t/\t.dY.length<=500/\t.body.length<=500:=by
  intro t ht
  rcases o8.1 ht with h|h
  .exact IA _ t h
  .exact IA _ t h
 refine {lines:=by omega,line:=λl h=>?_,iY:=by show(jM p.iY).length<=500;omega,eS:=by show(jM p.eS).length<=500;omega,threads:=by show(lx p.threads).length<=500;omega,recover:=by show(lx p.recover).length<=500;omega,eb:=by omega,dY:=λt ht=>(Xa t ht).2.1,body:=λt ht=>(Xa t ht).2.2,zl:=λl h c hc=>?_,zv:=Gb _,zk:=Gb _,zt:=λt ht=>(Xa t (List.mem_append_left _ ht)).1,zr:=λt ht=>(Xa t (List.mem_append_right _ ht)).1,zc:=λc h=>?_}
 .obtain⟨x,_,rfl⟩:=ob.1 (show l∈(p.lines.take 6).map jM from h)
  have:=CS x;omega
 .obtain⟨x,_,rfl⟩:=ob.1 (show l∈(p.lines.take 6).map jM from h)
  exact Gb x c hc
 obtain⟨x,_,rfl⟩:=ob.1 (show c∈(p.eb.take 6).map F9 from h)
 have:=Ga x.e
 exact⟨by show(zq x.e).length<=_;omega,Km _⟩
def C47(lv:Value)(xs:List cC)(w:World)(I:dD (λ_=>True) w lv xs):CR 47 [lv] w (λv w'=>kq (bE v (zq xs)) w w'):=by
 have u:=St.start w;refine fj Tryz.func47 ?_;refine aV ([]:List cC) u il rfl rfl (dQ rfl) (λO M u=>?_);refine⟨λm G x M=>∃k:Nat,x=hZ (k:Int)/\m=60-k/\k<=60/\k<=xs.length/\St w aX [bE G ((xs.take k).map ae7)] M,⟨_,0,rfl,rfl,cO,cO,u⟩,?_⟩;rintro m G _ _ ⟨k,rfl,rfl,hk,xd,u⟩ _;have W:((xs.take k).map ae7).length=k:=by rw[nc,l1];omega
 refine⟨λY w'=>Y=.bool (decide (k<xs.length/\k<60))/\St w aX [bE G ((xs.take k).map ae7)] w',aK il (I.ext u.aG) (aR (aC (λ_=>aR ⟨vb dI,u⟩) λ_=>⟨vb dI,u⟩)),?_⟩;rintro _ _ ⟨rfl,u⟩ _;refine bD (λE=>?_) (λE=>?_)
 .have Z:k<xs.length/\k<60:=by simpa using E
  obtain⟨B,J⟩:=gx xs (i:=(k:Int).toNat) cO;refine aQ il I cO J (λ_ V=>aD sK (V.ext u.aG) (aN u yL λKi _ u=>aJ (x:=B) u sK rfl rfl λ_ u=>aA gC (aB (v:=.string B.name) gK u.hb rfl (aA gC (aB (v:=.string B.name) gK u.hb rfl (fu iC (rX (oH iC cO cO (aA gC (aT u gK (dQ rfl) (rfl) λ_ u=>?_))))))))));have u:=u.enc (cs':=j0 ({B with name:=(B.name.extract 0 (min (B.name.size:Int) 40).toNat)}:cC)) rfl;refine aD sK u.At (aV ([({B with name:=(B.name.extract 0 (min (B.name.size:Int) 40).toNat)}:cC)]) u il rfl rfl (dQ rfl) λZL _ u=>?_)
  have U:=u.dW;exact bI u.p2 il U (by rw[W,l2];omega) ee (λ_ _ u=>have u:=u.p1.drop;aO cO (have u:=u.p1.drop;⟨_,cO,k+1,rfl,rfl,cO,cO,by rw[<- gy (k:=k) J];exact u⟩))
 rw[ti (xs:=xs) (k:=k) (m:=60) cO cO (g8 E)]at u;exact u.fresh
def C45(lv:Value)(xs:List cN)(w:World)(I:dD (λ_=>True) w lv xs):CR 45 [lv] w (λv w'=>kq (bE v (jM xs)) w w'):=by
 have u:=St.start w;refine fj Tryz.func45 ?_;refine aV ([]:List cN) u iD rfl rfl (dQ rfl) (λU M u=>?_);refine⟨λm G x M=>∃k:Nat,x=hZ (k:Int)/\m=8-k/\k<=8/\k<=xs.length/\St w aX [bE G ((xs.take k).map ae8)] M,⟨_,0,rfl,rfl,cO,cO,u⟩,?_⟩;rintro m G _ _ ⟨k,rfl,rfl,hk,xd,u⟩ _;have Y:((xs.take k).map ae8).length=k:=by rw[nc,l1];omega
 refine⟨λZ w'=>Z=.bool (decide (k<xs.length/\k<8))/\St w aX [bE G ((xs.take k).map ae8)] w',aK iD (I.ext u.aG) (aR (aC (λ_=>aR ⟨vb dI,u⟩) λ_=>⟨vb dI,u⟩)),?_⟩;rintro _ _ ⟨rfl,u⟩ _;refine bD (λE=>?_) (λE=>?_)
 .have arL:k<xs.length/\k<8:=by simpa using E
  obtain⟨B,J⟩:=gx xs (i:=(k:Int).toNat) cO;refine aQ iD I cO J (λ_ W=>aD mw (W.ext u.aG) (aN u pA λO _ u=>aJ (x:=B) u mw rfl rfl λ_ u=>aA kZ (aB (v:=.string B.name) gK u.hb rfl (aA kZ (aB (v:=.string B.name) gK u.hb rfl (fu iC (rX (oH iC cO cO (aA kZ (aT u gK (dQ rfl) (rfl) λ_ u=>?_))))))))));have u:=u.enc (cs':=j0 ({B with name:=(B.name.extract 0 (min (B.name.size:Int) 40).toNat)}:cN)) rfl;refine aD mw u.At (aV ([({B with name:=(B.name.extract 0 (min (B.name.size:Int) 40).toNat)}:cN)]) u iD rfl rfl (dQ rfl) λZL _ u=>?_)
  have V:=u.dW;exact bI u.p2 iD V (by rw[Y,l2];omega) ee (λ_ _ u=>have u:=u.p1.drop;aO cO (have u:=u.p1.drop;⟨_,cO,k+1,rfl,rfl,cO,cO,by rw[<- gy (k:=k) J];exact u⟩))
 rw[ti (xs:=xs) (k:=k) (m:=8) cO cO (g8 E)]at u;exact u.fresh
def C106(lv:Value)(xs:List bR)(w:World)(hL:DL w lv xs):CR 106 [lv] w (λv w'=>kq (fJ v (F8 xs)) w w'):=by
 have B:=St.start w;refine fj Tryz.func106 ?_;refine oY (α:=bR) B fB (λae0 w1 B=>?_);refine⟨λm W x w1=>∃k:Nat,x=hZ (k:Int)/\m=50-k/\k<=50/\k<=xs.length/\St w aX [fJ W ((xs.take k).map Tz)] w1,⟨_,0,rfl,rfl,cO,cO,B⟩,?_⟩;rintro m W _ _ ⟨k,rfl,rfl,hk,xd,B⟩ _;have Kn:((xs.take k).map Tz).length=k:=by rw[nc,l1];omega
 refine⟨λjv w'=>jv=.bool (decide (k<xs.length/\k<50))/\St w aX [fJ W ((xs.take k).map Tz)] w',?_,?_⟩
 .obtain⟨ts60,ayE,U⟩:=hL.open;have hn60:=U.1;exact aK fB (ayE.ext B.aG) (aR (aC (λ_=>aR ⟨vb dI,B⟩) λ_=>⟨vb dI,B⟩))
 rintro _ _ ⟨rfl,B⟩ _;refine bD (λM=>?_) (λM=>?_)
 .have arL:k<xs.length/\k<50:=by simpa using M
  obtain⟨O,ayH,E⟩:=hL.open;have hn61:=E.1;obtain⟨me,iy⟩:=gx O (i:=(k:Int).toNat) cO;obtain⟨u,lR⟩:=gx xs (i:=(k:Int).toNat) cO;obtain⟨I,G,rfl,TB,TC⟩:=E.2 _ _ _ iy lR;refine aQ fB ayH cO iy (λ_ l8=>aD eU (l8.ext B.aG) (aN B jD λKi _ B=>have B:=B.enc (cs':=j0 (⟨0,(kp #[]),(kp #[]),bY,bY,0,0,0,0⟩:bF)) rfl;aJ (x:=(⟨u.kind,u.eN,u.name,I,G,u.n,u.body,u.eG,u.at_⟩:bF)) B eU rfl rfl λ_ B=>aA iP (aB (v:=.string u.eN) gK B.hb rfl (aA iP (aB (v:=.string u.eN) gK B.hb rfl (fu iC (rX (oH iC cO cO (aA iP ?_)))))))))
  have V:=DL.flat TB;have Y:=DL.flat TC;refine aT B gK (dQ rfl) (rfl) (λ_ B=>have B:=B.enc (cs':=j0 (⟨u.kind,(u.eN.extract 0 (min (u.eN.size:Int) 40).toNat),u.name,I,G,u.n,u.body,u.eG,u.at_⟩:bF)) rfl;aA gw (aB (v:=.string u.name) gK B.hb rfl (aA gw (aB (v:=.string u.name) gK B.hb rfl (fu iC (rX (oH iC cO cO (aA gw (aT B gK (dQ rfl) (rfl) λ_ B=>have B:=B.enc (cs':=j0 (⟨u.kind,(u.eN.extract 0 (min (u.eN.size:Int) 40).toNat),(u.name.extract 0 (min (u.name.size:Int) 40).toNat),I,G,u.n,u.body,u.eG,u.at_⟩:bF)) rfl;aA jg (aB (v:=ir (I:SV)) jC B.hb rfl (dV ajm B (C47 _ _ _ (V.ext B.aG)) λx39 _ cI B=>?_)))))))))))
  refine aA jg ?_;obtain⟨J,rfl⟩:=B.fN;refine aT B.p1 jC (dQ rfl) (rfl) (λ_ B=>have B:=B.enc (cs':=j0 (⟨u.kind,(u.eN.extract 0 (min (u.eN.size:Int) 40).toNat),(u.name.extract 0 (min (u.name.size:Int) 40).toNat),J,G,u.n,u.body,u.eG,u.at_⟩:bF)) rfl;aA km (aB (v:=ir (G:SV)) jC B.hb rfl (dV ajm B (C47 _ _ _ (Y.ext B.aG)) λx43 _ cI B=>aA km ?_)));obtain⟨Z,rfl⟩:=B.fN;exact aT B.p1 jC (dQ rfl) (rfl) (λ_ B=>have B:=B.enc (cs':=j0 (⟨u.kind,(u.eN.extract 0 (min (u.eN.size:Int) 40).toNat),(u.name.extract 0 (min (u.name.size:Int) 40).toNat),J,Z,u.n,u.body,u.eG,u.at_⟩:bF)) rfl;aD eU B.At (have B:=B.p2.freeze.p2.freeze.p1.gv.dF (Ψ:=(λw=>mi w (⟨u.kind,(u.eN.extract 0 (min (u.eN.size:Int) 40).toNat),(u.name.extract 0 (min (u.name.size:Int) 40).toNat),J,Z,u.n,u.body,u.eG,u.at_⟩:bF) (⟨u.kind,(u.eN.extract 0 (min (u.eN.size:Int) 40).toNat),(u.name.extract 0 (min (u.name.size:Int) 40).toNat),(zq u.e),(zq u.f),u.n,u.body,u.eG,u.at_⟩:bR))) (λ_ h=>⟨_,_,rfl,DL.jZ h.1,DL.jZ h.2⟩);gA (s:=(⟨u.kind,(u.eN.extract 0 (min (u.eN.size:Int) 40).toNat),(u.name.extract 0 (min (u.name.size:Int) 40).toNat),J,Z,u.n,u.body,u.eG,u.at_⟩:bF)) (x:=(⟨u.kind,(u.eN.extract 0 (min (u.eN.size:Int) 40).toNat),(u.name.extract 0 (min (u.name.size:Int) 40).toNat),(zq u.e),(zq u.f),u.n,u.body,u.eG,u.at_⟩:bR)) B fB ee λ_ _ B=>have B:=B.p2;gg B fB (by rw[Kn,l2];omega) ee λ_ _ B=>aO cO (have B:=B.p1.drop;⟨_,cO,k+1,rfl,rfl,cO,cO,by rw[<- gy (k:=k) lR];exact B⟩)))
 rw[ti (xs:=xs) (k:=k) (m:=50) cO cO (g8 M)]at B;exact B.fresh
def C46(lv:Value)(xs:List cR)(w:World)(hL:DL w lv xs):CR 46 [lv] w (λv w'=>kq (fJ v (lx xs)) w w'):=by
 have u:=St.start w;refine pj Tryz.func46 (pl:=P46) ?_;refine oY (α:=cR) u fF (λae5 w1 u=>?_);refine⟨λm M x w1=>∃k:Nat,x=hZ (k:Int)/\m=4-k/\k<=4/\k<=xs.length/\St w aX [fJ M ((xs.take k).map zQ)] w1,⟨_,0,rfl,rfl,cO,cO,u⟩,?_⟩;rintro m M _ _ ⟨k,rfl,rfl,hk,xd,u⟩ _;have Kn:((xs.take k).map zQ).length=k:=by rw[nc,l1];omega
 refine⟨λV w'=>V=.bool (decide (k<xs.length/\k<4))/\St w aX [fJ M ((xs.take k).map zQ)] w',?_,?_⟩
 .obtain⟨ts64,ayK,ayL⟩:=hL.open;have hn64:=ayL.1;exact aK fF (ayK.ext u.aG) (aR (aC (λ_=>aR ⟨vb dI,u⟩) λ_=>⟨vb dI,u⟩))
 rintro _ _ ⟨rfl,u⟩ _;refine bD (λjx=>?_) (λjx=>?_)
 .have hc15:k<xs.length/\k<4:=by simpa using jx
  obtain⟨ayM,J,arN⟩:=hL.open;have hn65:=arN.1;obtain⟨TD,I⟩:=gx ayM (i:=(k:Int).toNat) cO;obtain⟨B,Kg⟩:=gx xs (i:=(k:Int).toNat) cO;obtain⟨Au,QQ,rfl,Gd,Ge⟩:=arN.2 _ _ _ I Kg;refine⟨λFR w'=>St w aX [fJ FR ((xs.take k).map zQ++[zQ B])] w',⟨λV w'=>∃(U:Nat) (E:SV),V=.pointer (some ⟨U,0,none⟩)/\St w aX [bW U (j0 (⟨(B.name.extract 0 (min (B.name.size:Int) 40).toNat),bY,E,B.at_⟩:cL)),fJ (ir E) (F8 B.body),fJ M ((xs.take k).map zQ)] w',?_,?_⟩,?_⟩
  .refine aQ fF J cO I (λ_ Gg=>bX B.name qR Gg rfl rfl λ_ W=>have u:=u.drew;aD gK (W.ext u.aG) (aQ fF J cO I λ_ Gh=>bX B.name qR Gh rfl rfl λ_ Y=>aD gK (Y.ext u.aG) (fu iC (rX (oH iC cO cO (aQ fF J cO I λ_ rN=>bX B.at_ qS rN rfl rfl λ_ O=>aD bL (O.ext u.aG) (aQ fF J cO I λ_ zN=>bX QQ lV zN rfl rfl λ_ xR=>aD jW (xR.ext u.aG) ⟨?_,⟨?_,?_⟩⟩)))))))
   .refine dV ag7 u (C106 _ _ _ (Ge.ext u.aG)) (λx41 _ cI u=>?_);refine⟨eL gK (W.ext u.aG),?_⟩;refine⟨eL gK (Y.ext u.aG),?_⟩;refine⟨eL bL (O.ext u.aG),?_⟩;obtain⟨Ko,rfl⟩:=u.pF;refine pop (Bf _ _ _ _ _) (aN u ud λb_t5 _ u=>?_);have u:=u.enc (cs':=j0 (⟨(kp #[]),bY,bY,0⟩:cL)) rfl;refine⟨eL gK (W.ext u.aG),?_⟩;refine⟨eL gK (Y.ext u.aG),?_⟩;refine⟨eL bL (O.ext u.aG),?_⟩;refine⟨eL jW (xR.ext u.aG),?_⟩;exact aJ (x:=(⟨(B.name.extract 0 (min (B.name.size:Int) 40).toNat),bY,Ko,B.at_⟩:cL)) u ny rfl rfl (λ_ u=>have u:=u.p2.p2.p2;⟨_,_,rfl,u⟩)
   .refine aN u ud (λayN _ u=>?_);have u:=u.enc (cs':=j0 (⟨(kp #[]),bY,bY,0⟩:cL)) rfl;refine⟨eL gK (W.ext u.aG),?_⟩;refine⟨eL gK (Y.ext u.aG),?_⟩;refine⟨eL bL (O.ext u.aG),?_⟩;refine⟨eL jW (xR.ext u.aG),?_⟩;refine dV ag7 u (C106 _ _ _ (Ge.ext u.aG)) (λx41_1 _ cI u=>?_);refine⟨eL gK (W.ext u.aG),?_⟩;refine⟨eL gK (Y.ext u.aG),?_⟩;refine⟨eL bL (O.ext u.aG),?_⟩;obtain⟨ZM,rfl⟩:=u.pF;exact pop (Bf _ _ _ _ _) (aJ (x:=(⟨(B.name.extract 0 (min (B.name.size:Int) 40).toNat),bY,ZM,B.at_⟩:cL)) u.p1 ny rfl rfl λ_ u=>have u:=u.p2.p2.p2;⟨_,_,rfl,u⟩)
   trivial
  .rintro _ _ ⟨U,E,rfl,u⟩ _;have u:=((((u.eK (α:=ByteArray)).p3).p3).p2).p3;refine⟨λm x w1=>∃(j:Nat) (G:SV),x=hZ (j:Int)/\m=6-j/\j<=6/\j<=B.dY.length/\St w aX [bW U (j0 (⟨(B.name.extract 0 (min (B.name.size:Int) 40).toNat),G,E,B.at_⟩:cL)),bE (ir G) ((B.dY.take j).map o0),fJ (ir E) (F8 B.body),fJ M ((xs.take k).map zQ)] w1,⟨_,0,bY,rfl,rfl,cO,cO,u⟩,?_⟩;rintro m _ _ ⟨j,G,rfl,rfl,hj,BO,u⟩ _;have akM:((B.dY.take j).map o0).length=j:=by rw[nc,l1];omega
   refine⟨λV w'=>V=.bool (decide (j<B.dY.length/\j<6))/\St w aX [bW U (j0 (⟨(B.name.extract 0 (min (B.name.size:Int) 40).toNat),G,E,B.at_⟩:cL)),bE (ir G) ((B.dY.take j).map o0),fJ (ir E) (F8 B.body),fJ M ((xs.take k).map zQ)] w',?_,?_⟩
   .refine aQ fF J cO I (λ_ MT=>bX Au fZ MT rfl rfl λ_ By=>aD jq (By.ext u.aG) ?_);have ayO:=DL.flat Gd;exact aK iK (ayO.ext u.aG) (aR (aC (λ_=>aR ⟨vb dI,u⟩) λ_=>⟨vb dI,u⟩))
   rintro _ _ ⟨rfl,u⟩ _;refine bD (λBH=>?_) (λBH=>?_)
   .have hc54:j<B.dY.length/\j<6:=by simpa using BH
    refine aA fZ (have u:=u.drew;aB (v:=ir (G:SV)) jq u.hb rfl (aQ fF J cO I λ_ ZD=>bX Au fZ ZD rfl rfl λ_ Gi=>aD jq (Gi.ext u.aG) ?_));have Z:=DL.flat Gd;obtain⟨aik,QR⟩:=gx B.dY (i:=(j:Int).toNat) cO;refine aQ iK Z cO QR (λ_ DC=>aD gK (DC.ext u.aG) (aQ fF J cO I λ_ Nv=>bX Au fZ Nv rfl rfl λ_ ZN=>aD jq (ZN.ext u.aG) (aQ iK Z cO QR λ_ arQ=>aD gK (arQ.ext u.aG) (fu iC (rX (oH iC cO cO (aV ([(aik.extract 0 (min (aik.size:Int) 40).toNat)]) u iK rfl rfl (dQ rfl) λarR _ u=>?_)))))))
    refine⟨aF jq (u.p1.hb.cell rfl),?_⟩;have QS:=u.dW;refine bI u.p2 iK QS (by rw[akM,l2];omega) ee (λarS _ u=>have u:=u.p1.drop;aA fZ ?_);obtain⟨CT,rfl⟩:=u.fN;exact aT u.p1 jq (dQ rfl) (rfl) (λ_ u=>have u:=u.enc (cs':=j0 (⟨(B.name.extract 0 (min (B.name.size:Int) 40).toNat),CT,E,B.at_⟩:cL)) rfl;aO cO (have u:=u.p3.p3.p3.p3;⟨_,cO,j+1,CT,rfl,rfl,cO,cO,by rw[<- gy (k:=j) QR];exact u⟩))
   refine aD ny u.At (have u:=u.p1.freeze.p2.oy.p1.gv.dF (Ψ:=(λw=>mi w (⟨(B.name.extract 0 (min (B.name.size:Int) 40).toNat),G,E,B.at_⟩:cL) (⟨(B.name.extract 0 (min (B.name.size:Int) 40).toNat),((B.dY.take j).map o0),(F8 B.body),B.at_⟩:cR))) (λ_ h=>⟨_,_,rfl,DL.jZ h.1,h.2⟩);gA (s:=(⟨(B.name.extract 0 (min (B.name.size:Int) 40).toNat),G,E,B.at_⟩:cL)) (x:=(⟨(B.name.extract 0 (min (B.name.size:Int) 40).toNat),((B.dY.take j).map o0),(F8 B.body),B.at_⟩:cR)) u fF ee λail _ u=>have u:=u.p2;gg u fF (by rw[Kn,l2];omega) ee λarT _ u=>?_)
   have u:=u.p1.drop;rw[ti (xs:=B.dY) (k:=j) (m:=6) cO cO (g8 BH)]at u;exact u
  rintro FR _ u _;exact aO cO ⟨_,cO,k+1,rfl,rfl,cO,cO,by rw[<- gy (k:=k) Kg];exact u⟩
 rw[ti (xs:=xs) (k:=k) (m:=4) cO cO (g8 jx)]at u;exact u.fresh
def C11(p:bZ)(pv:bO)(w:World)(hp:mi w pv p):CR 11 [ir pv] w (λv w'=>∃qv:bO,v=ir qv/\kq (dZ λw=>mi w qv (cK p)) w w'):=by
 obtain⟨bK,Z,bM,aY,aZ,bH,rfl,cW,dK,dB,cE,cG,cU⟩:=hp;have u:=St.start w;refine pj Tryz.func11 (pl:=P11) ?_;refine cM u (λkF w1 u=>aN u vN λwZ _ u=>have u:=u.enc (cs':=j0 (⟨bY,bY,bY,bY,bY,bY⟩:bO)) rfl;⟨λjv w'=>∃(U:Nat) (B I E G:SV),jv=.pointer (some ⟨U,0,none⟩)/\St w aX [bW U (j0 (⟨bY,B,I,E,G,bY⟩:bO)),bE (ir B) (jM p.iY),bE (ir I) (jM p.eS),fJ (ir E) (lx p.threads),fJ (ir G) (lx p.recover),bW kF (j0 (⟨bK,Z,bM,aY,aZ,bH⟩:bO)),bW wZ (j0 (⟨bY,bY,bY,bY,bY,bY⟩:bO))] w',?_,?_⟩)
 .refine aA qG (have u:=u.drew;aB jT u.p1.hb rfl ?_);have arU:=DL.flat dK;refine aA ou (aB jT u.p1.hb rfl ?_);have Y:=DL.flat dB;refine aA kR (aB iJ u.p1.hb rfl (aA po (aB iJ u.p1.hb rfl ⟨dV U1 u (C45 _ _ _ (arU.ext u.aG)) (λx8 _ J u=>⟨aF jT (u.p2.hb.cell rfl),⟨aF iJ (u.p2.hb.cell rfl),⟨aF iJ (u.p2.hb.cell rfl),⟨dV U1 u (C45 _ _ _ (Y.ext u.aG)) (λx11 _ J u=>⟨aF iJ (u.p3.hb.cell rfl),⟨aF iJ (u.p3.hb.cell rfl),⟨dV JH u (C46 _ _ _ (cE.ext u.aG)) (λx14 _ J u=>⟨aF iJ (u.p4.hb.cell rfl),⟨?_,⟨?_,?_⟩⟩⟩),⟨?_,?_⟩⟩⟩⟩),⟨?_,?_⟩⟩⟩⟩⟩),⟨?_,?_⟩⟩)))
  .refine dV JH u (C46 _ _ _ (cG.ext u.aG)) (λVw _ J u=>?_);obtain⟨V,rfl⟩:=u.p3.fN;obtain⟨Gk,rfl⟩:=u.p2.fN;obtain⟨QX,rfl⟩:=u.p1.pF;obtain⟨akO,rfl⟩:=u.pF;refine pop (nW _ _ _ _ _ _ _ _ _ _ _ _) (aN u vN λb_q3 _ u=>?_);have u:=u.enc (cs':=j0 (⟨bY,bY,bY,bY,bY,bY⟩:bO)) rfl;refine⟨aF jT (u.p6.hb.cell rfl),?_⟩;refine⟨aF jT (u.p6.hb.cell rfl),?_⟩;refine⟨aF iJ (u.p6.hb.cell rfl),?_⟩;refine⟨aF iJ (u.p6.hb.cell rfl),?_⟩;exact aJ (x:=(⟨bY,V,Gk,QX,akO,bY⟩:bO)) u er rfl rfl (λ_ u=>have u:=u.p5.p6.p3.p4.p5.p6.p6;⟨_,_,_,_,_,rfl,u⟩)
  .refine aN u vN (λayP _ u=>?_);have u:=u.enc (cs':=j0 (⟨bY,bY,bY,bY,bY,bY⟩:bO)) rfl;refine⟨aF jT (u.p5.hb.cell rfl),?_⟩;refine⟨aF jT (u.p5.hb.cell rfl),?_⟩;refine⟨aF iJ (u.p5.hb.cell rfl),?_⟩;refine⟨aF iJ (u.p5.hb.cell rfl),?_⟩;refine dV JH u (C46 _ _ _ (cG.ext u.aG)) (λx17_1 _ J u=>?_);obtain⟨V,rfl⟩:=u.p4.fN;obtain⟨Gk,rfl⟩:=u.p3.fN;obtain⟨QX,rfl⟩:=u.p2.pF;obtain⟨ZO,rfl⟩:=u.pF;exact pop (nW _ _ _ _ _ _ _ _ _ _ _ _) (aJ (x:=(⟨bY,V,Gk,QX,ZO,bY⟩:bO)) u.p1 er rfl rfl λ_ u=>have u:=u.p5.p6.p3.p4.p5.p6.p6;⟨_,_,_,_,_,rfl,u⟩)
  .trivial
  .refine aN u vN (λayQ _ u=>?_);have u:=u.enc (cs':=j0 (⟨bY,bY,bY,bY,bY,bY⟩:bO)) rfl;refine⟨aF jT (u.p4.hb.cell rfl),?_⟩;refine⟨aF jT (u.p4.hb.cell rfl),?_⟩;refine⟨aF iJ (u.p4.hb.cell rfl),?_⟩;refine⟨aF iJ (u.p4.hb.cell rfl),?_⟩;refine dV JH u (C46 _ _ _ (cE.ext u.aG)) (λx14_1 _ J u=>?_);refine⟨aF iJ (u.p5.hb.cell rfl),?_⟩;refine dV JH u (C46 _ _ _ (cG.ext u.aG)) (λx17_2 _ J u=>?_);obtain⟨V,rfl⟩:=u.p4.fN;obtain⟨Gk,rfl⟩:=u.p3.fN;obtain⟨ZP,rfl⟩:=u.p1.pF;obtain⟨ZQ,rfl⟩:=u.pF
   exact pop (nW _ _ _ _ _ _ _ _ _ _ _ _) (aJ (x:=(⟨bY,V,Gk,ZP,ZQ,bY⟩:bO)) u.p2 er rfl rfl λ_ u=>have u:=u.p5.p6.p3.p4.p5.p6.p6;⟨_,_,_,_,_,rfl,u⟩)
  .trivial
  .refine aN u vN (λayR _ u=>?_);have u:=u.enc (cs':=j0 (⟨bY,bY,bY,bY,bY,bY⟩:bO)) rfl;refine⟨aF jT (u.p3.hb.cell rfl),?_⟩;refine⟨aF jT (u.p3.hb.cell rfl),?_⟩;refine⟨aF iJ (u.p3.hb.cell rfl),?_⟩;refine⟨aF iJ (u.p3.hb.cell rfl),?_⟩;refine dV U1 u (C45 _ _ _ (Y.ext u.aG)) (λx11_1 _ J u=>?_);refine⟨aF iJ (u.p4.hb.cell rfl),?_⟩;refine⟨aF iJ (u.p4.hb.cell rfl),?_⟩;refine dV JH u (C46 _ _ _ (cE.ext u.aG)) (λx14_2 _ J u=>?_);refine⟨aF iJ (u.p5.hb.cell rfl),?_⟩;refine dV JH u (C46 _ _ _ (cG.ext u.aG)) (λx17_3 _ J u=>?_)
   obtain⟨V,rfl⟩:=u.p4.fN;obtain⟨ZR,rfl⟩:=u.p2.fN;obtain⟨ZS,rfl⟩:=u.p1.pF;obtain⟨ZT,rfl⟩:=u.pF;exact pop (nW _ _ _ _ _ _ _ _ _ _ _ _) (aJ (x:=(⟨bY,V,ZR,ZS,ZT,bY⟩:bO)) u.p3 er rfl rfl λ_ u=>have u:=u.p5.p6.p3.p4.p5.p6.p6;⟨_,_,_,_,_,rfl,u⟩)
  .trivial
  .refine aN u vN (λayS _ u=>?_);have u:=u.enc (cs':=j0 (⟨bY,bY,bY,bY,bY,bY⟩:bO)) rfl;refine⟨aF jT (u.p2.hb.cell rfl),?_⟩;refine⟨aF jT (u.p2.hb.cell rfl),?_⟩;refine⟨aF iJ (u.p2.hb.cell rfl),?_⟩;refine⟨aF iJ (u.p2.hb.cell rfl),?_⟩;refine dV U1 u (C45 _ _ _ (arU.ext u.aG)) (λx8_1 _ J u=>?_);refine⟨aF jT (u.p3.hb.cell rfl),?_⟩;refine⟨aF iJ (u.p3.hb.cell rfl),?_⟩;refine⟨aF iJ (u.p3.hb.cell rfl),?_⟩;refine dV U1 u (C45 _ _ _ (Y.ext u.aG)) (λx11_2 _ J u=>?_);refine⟨aF iJ (u.p4.hb.cell rfl),?_⟩;refine⟨aF iJ (u.p4.hb.cell rfl),?_⟩
   refine dV JH u (C46 _ _ _ (cE.ext u.aG)) (λx14_3 _ J u=>?_);refine⟨aF iJ (u.p5.hb.cell rfl),?_⟩;refine dV JH u (C46 _ _ _ (cG.ext u.aG)) (λx17_4 _ J u=>?_);obtain⟨Ez,rfl⟩:=u.p3.fN;obtain⟨ZU,rfl⟩:=u.p2.fN;obtain⟨ZV,rfl⟩:=u.p1.pF;obtain⟨ZW,rfl⟩:=u.pF;exact pop (nW _ _ _ _ _ _ _ _ _ _ _ _) (aJ (x:=(⟨bY,Ez,ZU,ZV,ZW,bY⟩:bO)) u.p4 er rfl rfl λ_ u=>have u:=u.p5.p6.p3.p4.p5.p6.p6;⟨_,_,_,_,_,rfl,u⟩)
  trivial
 rintro _ _ ⟨U,B,I,E,G,rfl,u⟩ _;have u:=((((((((u.J4 (α:=(List cN))).p7).p7).p7).p7).p7).p7).p6).p7;refine⟨λm x w1=>∃(k:Nat) (M:SV),x=hZ (k:Int)/\m=6-k/\k<=6/\k<=p.lines.length/\St w aX [bW U (j0 (⟨M,B,I,E,G,bY⟩:bO)),fJ (ir M) ((p.lines.take k).map jM),bE (ir B) (jM p.iY),bE (ir I) (jM p.eS),fJ (ir E) (lx p.threads),fJ (ir G) (lx p.recover),bW kF (j0 (⟨bK,Z,bM,aY,aZ,bH⟩:bO)),bW wZ (j0 (⟨bY,bY,bY,bY,bY,bY⟩:bO))] w1,⟨_,0,bY,rfl,rfl,cO,cO,u⟩,?_⟩
 rintro m _ _ ⟨k,M,rfl,rfl,hk,xd,u⟩ _;have Kn:((p.lines.take k).map jM).length=k:=by rw[nc,l1];omega
 refine⟨λjv w'=>jv=.bool (decide (k<p.lines.length/\k<6))/\St w aX [bW U (j0 (⟨M,B,I,E,G,bY⟩:bO)),fJ (ir M) ((p.lines.take k).map jM),bE (ir B) (jM p.iY),bE (ir I) (jM p.eS),fJ (ir E) (lx p.threads),fJ (ir G) (lx p.recover),bW kF (j0 (⟨bK,Z,bM,aY,aZ,bH⟩:bO)),bW wZ (j0 (⟨bY,bY,bY,bY,bY,bY⟩:bO))] w',?_,?_⟩
 .refine aA gL (aB pk u.p6.hb rfl ?_);obtain⟨ts70,ayT,ayU⟩:=cW.open;have hn70:=ayU.1;exact aK ql (ayT.ext u.aG) (aR (aC (λ_=>aR ⟨vb dI,u⟩) λ_=>⟨vb dI,u⟩))
 rintro _ _ ⟨rfl,u⟩ _;refine bD (λlH=>?_) (λlH=>?_)
 .have hc27:k<p.lines.length/\k<6:=by simpa using lH
  refine aA gL (have u:=u.drew;aB (v:=ir (M:SV)) pk u.hb rfl (aA gL (aB pk u.p6.hb rfl ?_)));obtain⟨ayV,ayW,arV⟩:=cW.open;have hn71:=arV.1;obtain⟨arW,ZX⟩:=gx ayV (i:=(k:Int).toNat) cO;obtain⟨ZY,ZZ⟩:=gx p.lines (i:=(k:Int).toNat) cO;have arX:DL w (ir arW) ZY:=arV.2 _ _ _ ZX ZZ;refine aQ ql ayW cO ZX (λ_ MP=>aD jT (MP.ext u.aG) ?_);have ayX:=DL.flat arX;refine dV U1 u (C45 _ _ _ (ayX.ext u.aG)) (λx37 _ J u=>?_);refine⟨aF pk (u.p1.hb.cell rfl),?_⟩;obtain⟨Z0,rfl⟩:=u.fN
  have u:=u.freeze.dF (Ψ:=λw=>mi w Z0 (jM ZY)) (λ_ h=>DL.jZ h);refine gA (s:=Z0) (x:=(jM ZY)) u ql ee (λarY _ u=>?_);refine⟨aF pk (u.p1.hb.cell rfl),?_⟩;have u:=u.p2;refine gg u ql (by rw[Kn,l2];omega) ee (λarZ _ u=>aA gL ?_);obtain⟨As,rfl⟩:=u.pF;exact aT u.p1 pk (dQ rfl) (rfl) (λ_ u=>have u:=u.enc (cs':=j0 (⟨As,B,I,E,G,bY⟩:bO)) rfl;aO cO (have u:=u.p7.p7.p7.p7.p7.p7.p7.p7;⟨_,cO,k+1,As,rfl,rfl,cO,cO,by rw[<- gy (k:=k) ZZ];exact u⟩))
 rw[ti (xs:=p.lines) (k:=k) (m:=6) cO cO (g8 lH)]at u;have u:=(((((((((u.J4 (α:=ic)).p8).p8).p8).p8).p8).p8).p8).p7).p8;refine⟨λm x w1=>∃(j:Nat) (O:SV),x=hZ (j:Int)/\m=6-j/\j<=6/\j<=p.eb.length/\St w aX [bW U (j0 (⟨M,B,I,E,G,O⟩:bO)),fJ (ir O) ((p.eb.take j).map F9),fJ (ir M) ((p.lines.take 6).map jM),bE (ir B) (jM p.iY),bE (ir I) (jM p.eS),fJ (ir E) (lx p.threads),fJ (ir G) (lx p.recover),bW kF (j0 (⟨bK,Z,bM,aY,aZ,bH⟩:bO)),bW wZ (j0 (⟨bY,bY,bY,bY,bY,bY⟩:bO))] w1,⟨_,0,bY,rfl,rfl,cO,cO,u⟩,?_⟩
 rintro m _ _ ⟨j,O,rfl,rfl,hj,BO,u⟩ _;have akM:((p.eb.take j).map F9).length=j:=by rw[nc,l1];omega
 refine⟨λjv w'=>jv=.bool (decide (j<p.eb.length/\j<6))/\St w aX [bW U (j0 (⟨M,B,I,E,G,O⟩:bO)),fJ (ir O) ((p.eb.take j).map F9),fJ (ir M) ((p.lines.take 6).map jM),bE (ir B) (jM p.iY),bE (ir I) (jM p.eS),fJ (ir E) (lx p.threads),fJ (ir G) (lx p.recover),bW kF (j0 (⟨bK,Z,bM,aY,aZ,bH⟩:bO)),bW wZ (j0 (⟨bY,bY,bY,bY,bY,bY⟩:bO))] w',?_,?_⟩
 .refine aA jB (aB rz u.p7.hb rfl ?_);obtain⟨ts73,ayY,ayZ⟩:=cU.open;have hn73:=ayZ.1;exact aK tT (ayY.ext u.aG) (aR (aC (λ_=>aR ⟨vb dI,u⟩) λ_=>⟨vb dI,u⟩))
 rintro _ _ ⟨rfl,u⟩ _;refine bD (λsR=>?_) (λsR=>?_)
 .have hc49:j<p.eb.length/\j<6:=by simpa using sR
  refine aA jB (have u:=u.drew;aB (v:=ir (O:SV)) rz u.hb rfl (aA jB (aB rz u.p7.hb rfl ?_)));obtain⟨ay0,ar0,ar1⟩:=cU.open;have hn74:=ar1.1;obtain⟨Z1,CU⟩:=gx ay0 (i:=(j:Int).toNat) cO;obtain⟨W,Z2⟩:=gx p.eb (i:=(j:Int).toNat) cO;obtain⟨afa,rfl,afb⟩:=ar1.2 _ _ _ CU Z2;refine aQ tT ar0 cO CU (λ_ FX=>bX afa vQ FX rfl rfl λ_ BI=>aD jC (BI.ext u.aG) ?_);have ay1:=DL.flat afb;refine aA jB (aB rz u.p7.hb rfl (aQ tT ar0 cO CU λ_ FK=>bX (W).at_ JU FK rfl rfl λ_ DC=>aD bL (DC.ext u.aG) (dV ajm u (C47 _ _ _ (ay1.ext u.aG)) λx60 _ J u=>?_)))
  refine⟨aF rz (u.p1.hb.cell rfl),?_⟩;refine⟨aF rz (u.p8.hb.cell rfl),?_⟩;refine⟨eL bL (DC.ext u.aG),?_⟩;obtain⟨CV,rfl⟩:=u.fN;refine pop (Ih _ _ _ _) (have u:=u.freeze.dF (Ψ:=(λw=>mi w (⟨CV,(W).at_⟩:jF) (⟨(zq (W).e),(W).at_⟩:ic))) (λ_ h=>⟨_,rfl,DL.jZ h⟩);gA (s:=(⟨CV,(W).at_⟩:jF)) (x:=(⟨(zq (W).e),(W).at_⟩:ic)) u tT ee λs_x68 _ u=>?_);refine⟨aF rz (u.p1.hb.cell rfl),?_⟩;have u:=u.p2;refine gg u tT (by rw[akM,l2];omega) ee (λs_x69 _ u=>aA jB ?_)
  obtain⟨Z3,rfl⟩:=u.pF;exact aT u.p1 rz (dQ rfl) (rfl) (λ_ u=>have u:=u.enc (cs':=j0 (⟨M,B,I,E,G,Z3⟩:bO)) rfl;aO cO (have u:=u.p8.p8.p8.p8.p8.p8.p8.p8.p8;⟨_,cO,j+1,Z3,rfl,rfl,cO,cO,by rw[<- gy (k:=j) Z2];exact u⟩))
 refine aD er u.At (aJ (x:=(⟨M,B,I,E,G,O⟩:bO)) u.p8 er rfl rfl λ_ u=>aD er u.At ?_);rw[ti (xs:=p.eb) (k:=j) (m:=6) cO cO (g8 sR)]at u;have u:=u.p3.oy.p4.freeze.p1.gv.p4.freeze.p1.gv.p4.oy.p1.gv.p4.oy.p1.gv;have u:=u.p3.oy.p1.gv.dF (Ψ:=(λw=>mi w (⟨M,B,I,E,G,O⟩:bO) (⟨((p.lines.take 6).map jM),(jM p.iY),(jM p.eS),(lx p.threads),(lx p.recover),((p.eb.take 6).map F9)⟩:bZ))) (λ_ h=>⟨_,_,_,_,_,_,rfl,h.1.1.1.1.1,DL.jZ h.1.1.1.1.2,DL.jZ h.1.1.1.2,h.1.1.2,h.1.2,h.2⟩)
 have u:=u.p1.drop.p1.drop.p1.drop;exact⟨_,rfl,u.fresh⟩
def ui(l:List Int)(i:Nat):Int:=if i=0 then 0 else l.getD (i-1) 0+1
theorem Z4(x:bR)(loops:Int):loops+J6 (decide (x.kind=12))=Bk.Es x loops:=by
 unfold Bk.Es J6
 grind
def ar2(b:Bool):0<=J6 b/\J6 b<=1:=by cases b<;>decide
def C309(sv fv:Value)(xs:List bR)(φ:bR->Prop)(g:bR->Bool)(w:World)(hL:DL w sv xs)(hf:ug hH w fv φ g)(W:∀x∈xs,φ x)(hn:xs.length<=1073741824):CR 309 [sv,fv] w (λv w'=>v=hZ (sT g xs)/\Ext w w'):=by
 obtain⟨g0,first,cap,rfl,oD,Z⟩:=hf;have u:=St.start w;refine fj Tryz.func309 ?_;obtain⟨Y,V,O⟩:=hL.open;have hn3:=O.1;refine aK fB (V.ext u.aG) ?_;refine⟨λm x M=>∃k:Nat,x=hZ (k:Int)/\m=xs.length-k/\k<=xs.length/\(∀y∈xs.take k,g y=false)/\St w aX [] M,⟨_,0,rfl,rfl,l0 _,ei,u⟩,?_⟩;rintro m _ M ⟨k,rfl,rfl,hk,E,u⟩ _;refine aR (aC (λjQ=>?_) λ_=>⟨g6 (nG .i64) (jm (by rw[kO cO]at E;exact E)).symm,u.aG⟩);obtain⟨iH,U⟩:=gx Y (i:=(k:Int).toNat) cO;obtain⟨zR,B⟩:=gx xs (i:=(k:Int).toNat) cO
 obtain⟨Kp,G,rfl,Kq,J⟩:=O.2 _ _ _ U B;refine aQ fB V cO U (λ_ ix=>aD eU (ix.ext u.aG) (ij oD (Z _ zR M u.aG ⟨Kp,G,rfl,(Kq.ext u.aG),(J.ext u.aG)⟩ (W _ (kE B))) ?_));rintro _ _ ⟨rfl,he⟩;have u:=u.ext he;exact bD (λI=>⟨g6 (nG .i64) (my E B I).symm,u.aG⟩) (λI=>aO cO ⟨_,cO,k+1,rfl,rfl,cO,eh E B I,u⟩)
def C282(sv fv:Value)(xs:List bR)(φ:bR->Prop)(g:bR->Bool)(w:World)(E:DL w sv xs)(G:ug hH w fv φ g)(B:∀x∈xs,φ x)(I:xs.length<=1073741824):CR 282 [sv,fv] w (λv w'=>v=.bool (xs.any g)/\Ext w w'):=by
 have u:=St.start w;refine fj Tryz.func282 ?_;exact aW aqQ u (C309 _ _ _ _ _ _ (E.ext u.aG) (G.ext u.aG) B cO) (λ_ _ u=>cT ⟨vb (lh _ _),u.aG⟩)
theorem C284(lv:Value)(xs:List bR)(loops:Int)(N:Nat)(w:World)(hL:DL w lv xs)(hn:xs.length<=40)(hlo:0<=loops)(MS:loops+N<=4194304)(hN:xs.length<N):CR 284 [lv,hZ loops] w (λv w'=>v=hZ (fL xs loops)/\Ext w w'):=by
 have E:=St.start w;refine aeU _ _ _ _ ?_;unfold S284;refine⟨λm y x w1=>∃(k:Nat) (n:Int),y=hZ n/\x=hZ (k:Int)/\m=xs.length-k/\k<=xs.length/\0<=n/\n<=41/\fL xs loops=sX n (fL (xs.drop k) loops)/\St w aX [] w1,⟨_,0,0,rfl,rfl,rfl,cO,cO,cO,by have:=uh xs loops;rw[List.drop_zero];unfold sX;split<;>omega,E⟩,?_⟩;rintro m _ _ w1 ⟨k,n,rfl,rfl,rfl,hk,W9,YF,hinv,E⟩ _;obtain⟨zO,J,I⟩:=hL.open;have hn4:=I.1;refine aK fB (J.ext E.aG) (aR (aC (λeE=>?_) λeE=>?_))
 .obtain⟨me,iy⟩:=gx zO (i:=(k:Int).toNat) cO;obtain⟨u,lR⟩:=gx xs (i:=(k:Int).toNat) cO;obtain⟨O,U,rfl,TB,TC⟩:=I.2 _ _ _ iy lR;refine aQ fB J cO iy (λ_ l8=>?_);have hdk:=drop_cons (xs:=xs) (k:=k) lR;rw[hdk]at hinv;have Is:(xs.drop (k+1)).length=xs.length-(k+1):=rH;refine aD eU (l8.ext E.aG) (aN E jD λV _ E=>have E:=E.enc (cs':=j0 (⟨0,(kp #[]),(kp #[]),bY,bY,0,0,0,0⟩:bF)) rfl;aJ (x:=(⟨u.kind,u.eN,u.name,O,U,u.n,u.body,u.eG,u.at_⟩:bF)) E eU rfl rfl λ_ E=>aO cO (aA jh (aB (v:=hZ u.body) bL E.hb rfl (ve ?_))))
  obtain⟨W1,Z⟩:∃W,W=Co (((k:Int)+1)+u.body):=⟨_,rfl⟩;rw[<- Z];refine aA iQ (aB (v:=hZ u.eG) bL E.hb rfl (ve ?_));obtain⟨M,Y⟩:∃W,W=Co (W1+u.eG):=⟨_,rfl⟩;rw[<- Y];refine⟨λG w'=>G=.bool (Bk.Aj u)/\St w aX [bW V (j0 (⟨u.kind,u.eN,u.name,O,U,u.n,u.body,u.eG,u.at_⟩:bF))] w',aA dU (aB (v:=hZ u.kind) bL E.hb rfl (aH (aC (λ_=>⟨vb (by unfold Bk.Aj;grind),E⟩) λ_=>aA dU (aB (v:=hZ u.kind) bL E.hb rfl (aH ⟨vb (by unfold Bk.Aj;grind),E⟩))))),?_⟩
  rintro _ _ ⟨rfl,E⟩ _;refine⟨λG w'=>G=.bool (decide (u.body<0\/u.eG<0\/(xs.length:Int)<u.body\/(xs.length:Int)<u.eG\/(xs.length:Int)<M))/\St w aX [bW V (j0 (⟨u.kind,u.eN,u.name,O,U,u.n,u.body,u.eG,u.at_⟩:bF))] w',aA jh (aB (v:=hZ u.body) bL E.hb rfl (aR (aC (λ_=>⟨vb dI,E⟩) λxM=>?_))),?_⟩
  .refine aA iQ (aB (v:=hZ u.eG) bL E.hb rfl (aR ?_));exact aC (λ_=>⟨vb dI,E⟩) (λ_=>aA jh (aB (v:=hZ u.body) bL E.hb rfl (aK fB (J.ext E.aG) (cQ (aC (λ_=>⟨vb dI,E⟩) λ_=>aA iQ (aB (v:=hZ u.eG) bL E.hb rfl (aK fB (J.ext E.aG) (cQ (aC (λ_=>⟨vb dI,E⟩) λ_=>aK fB (J.ext E.aG) (cQ ⟨vb dI,E⟩))))))))))
  rintro _ _ ⟨rfl,E⟩ _;refine bD (λpH=>?_) (λpH=>?_)
  .have hW:0<=u.body/\u.body<=40/\0<=u.eG/\u.eG<=40->M=(k:Int)+1+u.body+u.eG:=λh=>by
    have h1:W1=(k:Int)+1+u.body:=by rw[Z];exact Ac cO
    rw[Y,Ac cO];omega
   exact⟨g6 (nG .i64) (J9 hinv (by unfold vi;grind)).symm,E.drop.aG⟩
  have hq:=g8 pH
  have hW:M=(k:Int)+1+u.body+u.eG:=by
   have h1:W1=(k:Int)+1+u.body:=by rw[Z];exact Ac cO
   rw[Y,Ac cO];omega
  have pf:vi u (xs.drop (k+1)):=by unfold vi;omega
  refine⟨λG w'=>G=.bool (!Bk.yP u loops)/\St w aX [bW V (j0 (⟨u.kind,u.eN,u.name,O,U,u.n,u.body,u.eG,u.at_⟩:bF))] w',⟨λG w'=>G=.bool (!Bk.Aj u&&decide (0<u.body))/\St w aX [bW V (j0 (⟨u.kind,u.eN,u.name,O,U,u.n,u.body,u.eG,u.at_⟩:bF))] w',bT (bD (λ_=>aA jh (aB (v:=hZ u.body) bL E.hb rfl (cQ ⟨vb dI,E⟩))) λ_=>⟨vb dI,E⟩),?_⟩,?_⟩
  .rintro _ _ ⟨rfl,E⟩ _;refine bD (λ_=>⟨vb (by unfold Bk.yP;unfold Bk.Aj at *;grind),E⟩) (λahR=>⟨λG w'=>G=.bool (decide (¬ u.kind=11/\0<u.eG))/\St w aX [bW V (j0 (⟨u.kind,u.eN,u.name,O,U,u.n,u.body,u.eG,u.at_⟩:bF))] w',aA dU (aB (v:=hZ u.kind) bL E.hb rfl (bQ (aC (λ_=>aA iQ (aB (v:=hZ u.eG) bL E.hb rfl (cQ ⟨vb dI,E⟩))) λ_=>⟨vb dI,E⟩))),?_⟩);rintro _ _ ⟨rfl,E⟩ _;exact bD (λ_=>⟨vb (by unfold Bk.yP;unfold Bk.Aj at *;grind),E⟩) (λ_=>aA dU (aB (v:=hZ u.kind) bL E.hb rfl (aH (aC (λ_=>aH ⟨vb (by unfold Bk.yP;unfold Bk.Aj at *;grind),E⟩) λ_=>⟨vb (by unfold Bk.yP;unfold Bk.Aj at *;grind),E⟩))))
  rintro _ _ ⟨rfl,E⟩ _;refine bD (λ_=>⟨g6 (nG .i64) (J9 hinv dI).symm,E.drop.aG⟩) (λavo=>?_);have j7:Bk.yP u loops=true:=dI
  have ajV:=pf;unfold vi at ajV;refine⟨λG w'=>∃n':Int,G=hZ n'/\0<=n'/\n'<=41/\fL xs loops=sX n' (fL (xs.drop (k+1+(u.body.toNat+u.eG.toNat))) loops)/\St w aX [bW V (j0 (⟨u.kind,u.eN,u.name,O,U,u.n,u.body,u.eG,u.at_⟩:bF))] w',bD (λCW=>?_) (λCW=>?_),?_⟩
  .have hb01:=Z4 u loops;have hbb:=ar2 (decide (u.kind=12));have hcA:((xs.take (((k:Int)+1)+u.body).toNat).drop ((k:Int)+1).toNat)=(xs.drop (k+1)).take u.body.toNat:=vY xs cO cO;have hcB:((xs.take M.toNat).drop (((k:Int)+1)+u.body).toNat)=((xs.drop (k+1)).drop u.body.toNat).take u.eG.toNat:=by rw[tz];exact vY xs cO cO
   have hlA:((xs.take (((k:Int)+1)+u.body).toNat).drop ((k:Int)+1).toNat).length<=xs.length-1/\((xs.take (((k:Int)+1)+u.body).toNat).drop ((k:Int)+1).toNat).length<=40:=by rw[hcA,l1];omega
   have hlB:((xs.take M.toNat).drop (((k:Int)+1)+u.body).toNat).length<=xs.length-1/\((xs.take M.toNat).drop (((k:Int)+1)+u.body).toNat).length<=40:=by rw[hcB,l1,rH];omega
   refine aA dU (aB (v:=hZ u.kind) bL E.hb rfl (aH (aW XR E (C302 _ _) λ_ he E=>aO cO (aO cO (aO cO (aA jh (have E:=E.drew;aB (v:=hZ u.body) bL E.hb rfl (aO cO (oX fB (J.ext E.aG) cO cO cO λay4 afe=>?_)))))))));have aff:=DL.cut afe J I;refine aO cO (aA jh (aB (v:=hZ u.body) bL E.hb rfl (aO cO (oX fB (J.ext E.aG) cO cO cO λay5 afg=>?_))));have afh:=DL.cut afg J I
   refine aW Zo E (C284 _ _ _ (N-1) _ (aff.ext E.aG) cO cO cO cO) (λ_ he E=>?_);refine⟨aF bL (E.hb.cell rfl),?_⟩;refine dO Zo (C284 _ _ _ (N-1) _ (afh.ext E.aG) cO cO cO cO) ?_;rintro _ _ ⟨rfl,he⟩;have E:=E.ext he;obtain⟨A,hA⟩:∃A,A=fL ((xs.take (((k:Int)+1)+u.body).toNat).drop ((k:Int)+1).toNat) (Bk.Es u loops):=⟨_,rfl⟩;obtain⟨B,hB⟩:∃B,B=fL ((xs.take M.toNat).drop (((k:Int)+1)+u.body).toNat) (Bk.Es u loops):=⟨_,rfl⟩;have hAb:=uh ((xs.take (((k:Int)+1)+u.body).toNat).drop ((k:Int)+1).toNat) (Bk.Es u loops)
   have hBb:=uh ((xs.take M.toNat).drop (((k:Int)+1)+u.body).toNat) (Bk.Es u loops);rw[<- hA]at hAb;rw[<- hB]at hBb;rw[Z4,<- hA,<- hB];have Vk:=YP hinv pf j7 CW A B (by rw[hA,hcA]) (by rw[hB,hcB]);refine⟨λG w'=>G=.bool (decide (A<0\/B<0))/\St w aX [bW V (j0 (⟨u.kind,u.eN,u.name,O,U,u.n,u.body,u.eG,u.at_⟩:bF))] w',aH (aC (λ_=>⟨vb dI,E⟩) λ_=>aH ⟨vb dI,E⟩),?_⟩;rintro _ _ ⟨rfl,E⟩ _;refine bD (λQZ=>⟨g6 (nG .i64) (Vk.1 (g7 QZ)).symm,E.drop.aG⟩) (λQZ=>aO cO (aO cO (MG ?_)))
   have YR:=Vk.2 (g8 QZ);rw[tz,abN 1 A,abN 1 B]at YR;exact⟨_,rfl,cO,cO,YR,E⟩
  .have hdn:=ahP hinv pf j7 CW;rw[tz]at hdn;exact⟨_,rfl,W9,YF,hdn,E⟩
  rintro _ _ ⟨n',rfl,ajY,ajZ,YS,E⟩ _;exact⟨_,cO,k+1+(u.body.toNat+u.eG.toNat),n',rfl,g6 (nG .i64) cO,rfl,cO,ajY,ajZ,YS,E.drop⟩
 rw[v9 cO,CK]at hinv;exact⟨g6 (nG .i64) (by rw[hinv];unfold sX;omega),E.aG⟩
termination_by N
decreasing_by all_goals omega
theorem Nz(xs:List bR):qq xs=(!(decide (40<xs.length)||xs.any λy=>!nB y)&&decide (¬ fL xs 0 = -1/\fL xs 0<=12)):=by
 have:=uh xs 0
 grind[qq,nB,fL]
def C241(lv:Value)(xs:List bR)(w:World)(E:DL w lv xs)(hn:xs.length<=1048576)(U:∀x∈xs,x.e.length<=1048576/\x.f.length<=1048576):CR 241 [lv] w (λv w'=>v=.bool (qq xs)/\Ext w w'):=by
 have u:=St.start w;refine fj Tryz.func241 ?_;refine⟨λI w'=>I=.bool (decide (40<xs.length)||xs.any λy=>!nB y)/\St w aX [] w',?_,?_⟩
 .obtain⟨V,G,J⟩:=E.open;have Y:=J.1;exact aK fB (G.ext u.aG) (cQ (aC (λ_=>⟨vb dI,u⟩) λ_=>aW aqP u (C282 _ _ _ (λx=>x.e.length<=1048576/\x.f.length<=1048576) _ _ (E.ext u.aG) ⟨283,[],[],rfl,aqG,λsv y W _ hd M=>C283 y sv W hd M.1 M.2⟩ U cO) λ_ _ u=>⟨vb dI,u⟩))
 rintro _ _ ⟨rfl,u⟩ _;refine bD (λB=>?_) (λB=>?_)
 .refine⟨vb ?_,u.aG⟩;rw[Nz,B];rfl
 have O:xs.length<=40:=dI
 refine aW Zo u (C284 _ _ _ (xs.length+1) _ (E.ext u.aG) cO cO cO cO) (λ_ Z u=>⟨λI w'=>I=.bool (decide (¬ fL xs 0 = -1/\fL xs 0<=12))/\St w aX [] w',bQ (aC (λ_=>gz ⟨vb dI,u⟩) λ_=>⟨vb dI,u⟩),?_⟩);rintro _ _ ⟨rfl,u⟩ _;refine⟨vb ?_,u.aG⟩;rw[Nz,B];rfl
def Ks(t:cR):Bool:=r7 t.at_&&!t.dY.any (λs=>!gY s)&&qq t.body
theorem TE(t:cR):(!gY t.name||!Ks t)=mP true t:=by
 unfold mP sY Ks
 grind
theorem TF(t:cR):(decide (¬ t.name=⟨#[]⟩)||!Ks t)=mP false t:=by
 unfold mP sY Ks
 by_cases h:t.name=⟨#[]⟩
 .rw[h,show gY (⟨#[]⟩:ByteArray)=false from ee]
  grind
 grind
theorem NA(p:bZ):(!(p.lines.any oz||!oJ 4294967296 p.iY||!oJ 0 p.eS||decide (1<p.recover.length))&&(!p.threads.any (mP true)&&!p.recover.any (mP false)&&!p.eb.any l9))=kH p:=by
 unfold kH n8
 grind
def SzS.ok{xs:List bR}(h:∀x∈xs,SzS x):∀x∈xs,x.e.length<=1048576/\x.f.length<=1048576:=λx u=>⟨(h x u).2.2.1,(h x u).2.2.2.1⟩
def C184(n:Int)(w:World):CR 184 [hZ n] w (λv w'=>v=.bool (r7 n)/\Ext w w'):=by
 have B:=St.start w;refine fj Tryz.func184 ?_;refine⟨λu w'=>u=.bool (decide (0<=n/\n<=4000))/\w=w',cT (aC (λ_=>gz ⟨zi cO,rfl⟩) λ_=>⟨XE cO,rfl⟩),?_⟩;rintro _ _ ⟨rfl,E⟩ _;subst E;exact⟨rfl,B.aG⟩
def C233(c:cN)(b2:Nat)(E:Int)(w:World)(hc:Cell w b2 0 (hZ E)):CR 233 [ir c,.pointer (some ⟨b2,0,none⟩)] w (λv w'=>v=.bool (iZ E c)/\Ext w w'):=by
 have u:=St.start w;refine fj Tryz.func233 ?_;refine cM u (λB _ u=>⟨λG w'=>G=.bool (iZ E c)/\St w aX [bW B (j0 c)] w',aA kZ (aB (v:=.string c.name) gK u.hb rfl (aW MW u (C180 _ _) λ_ J u=>bT (bD (λ_=>⟨vb (by unfold iZ;grind),u⟩) λI=>?_))),?_⟩)
 .exact aA sJ (aB (v:=hZ c.n) bL u.hb rfl (aR (aC (λ_=>⟨vb (by unfold iZ;grind),u⟩) λ_=>aA sJ (aB (v:=hZ c.n) bL u.hb rfl (bN bL (hc.ext u.aG) (cQ (aC (λ_=>⟨vb (by unfold iZ;grind),u⟩) λ_=>aA va (aB (v:=hZ c.at_) bL u.hb rfl (aW Zq u (C184 _ _) λ_ _ u=>bT ⟨vb (by unfold iZ;grind),u⟩)))))))))
 rintro _ _ ⟨rfl,u⟩ _;exact⟨rfl,u.drop.aG⟩
def C279(sv fv:Value)(xs:List cN)(g:cN->Bool)(w:World)(J:dD (λ_=>True) w sv xs)(W:wY w fv g)(hn:xs.length<=1073741824):CR 279 [sv,fv] w (λv w'=>v=hZ (sT g xs)/\Ext w w'):=by
 obtain⟨Z,first,cap,rfl,U,M⟩:=W;have u:=St.start w;refine fj Tryz.func279 ?_;refine aK iD (J.ext u.aG) ?_;refine⟨λm x I=>∃k:Nat,x=hZ (k:Int)/\m=xs.length-k/\k<=xs.length/\(∀y∈xs.take k,g y=false)/\St w aX [] I,⟨_,0,rfl,rfl,l0 _,ei,u⟩,?_⟩;rintro m _ I ⟨k,rfl,rfl,hk,B,u⟩ _;refine aR (aC (λjQ=>?_) λ_=>⟨g6 (nG .i64) (jm (by rw[kO cO]at B;exact B)).symm,u.aG⟩);obtain⟨V,E⟩:=gx xs (i:=(k:Int).toNat) cO;refine aQ iD J cO E (λ_ O=>aD mw (O.ext u.aG) (ij U (M V I u.aG) ?_))
 rintro _ _ ⟨rfl,Y⟩;have u:=u.ext Y;exact bD (λG=>⟨g6 (nG .i64) (my B E G).symm,u.aG⟩) (λG=>aO cO ⟨xs.length-(k+1),cO,k+1,rfl,rfl,cO,eh B E G,u⟩)
def C232(sv fv:Value)(xs:List cN)(g:cN->Bool)(w:World)(B:dD (λ_=>True) w sv xs)(E:wY w fv g)(G:xs.length<=1073741824):CR 232 [sv,fv] w (λv w'=>v=.bool (xs.any g)/\Ext w w'):=by
 have u:=St.start w;refine fj Tryz.func232 ?_;exact aW aqS u (C279 _ _ _ _ _ (B.ext u.aG) (E.ext u.aG) cO) (λ_ _ u=>cT ⟨vb (lh _ _),u.aG⟩)
def C178(lv:Value)(xs:List cN)(B:Int)(w:World)(M:dD (λ_=>True) w lv xs)(O:xs.length<=1048576):CR 178 [lv,hZ B] w (λv w'=>v=.bool (oJ B xs)/\Ext w w'):=by
 have u:=St.start w;refine fj Tryz.func178 ?_;refine nQ u rfl (λI G u=>?_)
 have E:wY _ (.func (.func 233) [].toArray [.pointer (some ⟨I,0,none⟩)].toArray) (iZ B):=
  ⟨233,[],_,rfl,aqN,λy G J=>C233 y I B G ((u.hb.cell rfl).ext J)⟩
 exact aW aqR u (C232 _ _ _ _ _ (M.ext u.aG) E cO) (λ_ _ u=>bT ⟨rfl,u.drop.aG⟩)
def C239(s:ByteArray)(w:World):CR 239 [.string s] w (λv w'=>v=.bool (!gY s)/\Ext w w'):=by
 have u:=St.start w;refine fj Tryz.func239 ?_;exact aW MW u (C180 _ _) (λ_ _ u=>bT ⟨rfl,u.aG⟩)
def C181(t:cR)(E:cL)(w:World)(ht:mi w E t)(J:YQ t/\t.dY.length<=500/\t.body.length<=500):CR 181 [ir E] w (λv w'=>v=.bool (Ks t)/\Ext w w'):=by
 obtain⟨V,I,rfl,U,O⟩:=ht;have u:=St.start w;refine fj Tryz.func181 ?_;refine cM u (λM G u=>⟨λW w'=>W=.bool (Ks t)/\St w aX [bW M (j0 (⟨t.name,V,I,t.at_⟩:cL))] w',aA qS (aB (v:=hZ t.at_) bL u.hb rfl (aW Zq u (C184 _ _) λ_ Z u=>bD (λY=>?_) λ_=>⟨vb (by unfold Ks;grind),u⟩)),?_⟩)
 .refine aA fZ (aB jq u.hb rfl ?_);have B:=DL.flat U;exact aW ahY u (C240 _ _ _ (λs=>!gY s) _ (B.ext u.aG) ⟨239,[],[],rfl,aqO,λy G _=>C239 y G⟩ cO) (λ_ _ u=>bT (bD (λ_=>aA lV (aB jW u.hb rfl (aW aqH u (C241 _ _ _ (O.ext u.aG) cO (SzS.ok J.1.2.2)) λ_ _ u=>⟨vb (by unfold Ks;grind),u⟩))) λ_=>⟨vb (by unfold Ks;grind),u⟩))
 rintro _ _ ⟨rfl,u⟩ _;exact⟨rfl,u.drop.aG⟩
def C179(t:cR)(E:cL)(w:World)(ht:mi w E t)(O:YQ t/\t.dY.length<=500/\t.body.length<=500):CR 179 [ir E] w (λv w'=>v=.bool (mP true t)/\Ext w w'):=by
 obtain⟨G,B,rfl,J,I⟩:=ht;have u:=St.start w;refine fj Tryz.func179 ?_;refine cM u (λU _ u=>⟨λM w'=>M=.bool (mP true t)/\St w aX [bW U (j0 (⟨t.name,G,B,t.at_⟩:cL))] w',aA qR (aB (v:=.string t.name) gK u.hb rfl (aW MW u (C180 _ _) λ_ _ u=>bT (bD (λ_=>⟨vb (by rw[<- TE];grind),u⟩) λ_=>aD ny u.At (aW ah9 u (C181 t _ _ ⟨G,B,rfl,(J.ext u.aG),(I.ext u.aG)⟩ O) λ_ _ u=>bT ⟨vb (by rw[<- TE];grind),u⟩)))),?_⟩);rintro _ _ ⟨rfl,u⟩ _;exact⟨rfl,u.drop.aG⟩
def C182(t:cR)(E:cL)(w:World)(ht:mi w E t)(O:YQ t/\t.dY.length<=500/\t.body.length<=500):CR 182 [ir E] w (λv w'=>v=.bool (mP false t)/\Ext w w'):=by
 obtain⟨G,B,rfl,J,I⟩:=ht;have u:=St.start w;refine fj Tryz.func182 ?_;refine cM u (λU _ u=>⟨λM w'=>M=.bool (mP false t)/\St w aX [bW U (j0 (⟨t.name,G,B,t.at_⟩:cL))] w',aA qR (aB (v:=.string t.name) gK u.hb rfl (mn (aC (λ_=>⟨vb (by rw[<- TF];grind),u⟩) λ_=>aD ny u.At (aW ah9 u (C181 t _ _ ⟨G,B,rfl,(J.ext u.aG),(I.ext u.aG)⟩ O) λ_ _ u=>bT ⟨vb (by rw[<- TF];grind),u⟩)))),?_⟩);rintro _ _ ⟨rfl,u⟩ _;exact⟨rfl,u.drop.aG⟩
def C177(lv:Value)(xs:List cN)(w:World)(B:dD (λ_=>True) w lv xs)(G:xs.length<=1048576):CR 177 [lv] w (λv w'=>v=.bool (oz xs)/\Ext w w'):=by
 have u:=St.start w;refine fj Tryz.func177 ?_;refine⟨λE w'=>E=.bool (oz xs)/\St w aX [] w',aK iD (B.ext u.aG) (aH (aC (λ_=>⟨vb (by unfold oz;grind),u⟩) λ_=>aW Zp u (C178 _ _ _ _ (B.ext u.aG) cO) λ_ _ u=>bT ⟨vb (by unfold oz;grind),u⟩)),?_⟩;rintro _ _ ⟨rfl,u⟩ _;exact⟨rfl,u.aG⟩
def C183(c:ic)(cv:jF)(w:World)(hc:mi w cv c)(O:c.e.length<=1048576):CR 183 [ir cv] w (λv w'=>v=.bool (l9 c)/\Ext w w'):=by
 obtain⟨B,rfl,G⟩:=hc;have u:=St.start w;refine fj Tryz.func183 ?_;refine cM u (λE _ u=>⟨λJ w'=>J=.bool (l9 c)/\St w aX [bW E (j0 (⟨B,c.at_⟩:jF))] w',aA JU (aB (v:=hZ c.at_) bL u.hb rfl (aW Zq u (C184 _ _) λ_ U u=>bT (bD (λ_=>⟨vb (by unfold l9;grind),u⟩) λM=>?_))),?_⟩)
 .refine aA vQ (aB jC u.hb rfl ?_);have I:=DL.flat G;exact aW Tj u (C185 _ _ _ (I.ext u.aG) cO) (λ_ _ u=>bT ⟨vb (by unfold l9;grind),u⟩)
 rintro _ _ ⟨rfl,u⟩ _;exact⟨rfl,u.drop.aG⟩
def C247(sv fv:Value)(xs:List (List cN))(φ:(List cN)->Prop)(g:(List cN)->Bool)(w:World)(hL:DL w sv xs)(hf:ug hH w fv φ g)(Y:∀x∈xs,φ x)(hn:xs.length<=1073741824):CR 247 [sv,fv] w (λv w'=>v=hZ (sT g xs)/\Ext w w'):=by
 obtain⟨g0,first,cap,rfl,oD,Z⟩:=hf;have u:=St.start w;refine fj Tryz.func247 ?_;obtain⟨M,G,E⟩:=hL.open;have hn8:=E.1;refine aK ql (G.ext u.aG) ?_;refine⟨λm x U=>∃k:Nat,x=hZ (k:Int)/\m=xs.length-k/\k<=xs.length/\(∀y∈xs.take k,g y=false)/\St w aX [] U,⟨_,0,rfl,rfl,l0 _,ei,u⟩,?_⟩;rintro m _ U ⟨k,rfl,rfl,hk,J,u⟩ _;refine aR (aC (λjQ=>?_) λ_=>⟨g6 (nG .i64) (jm (by rw[kO cO]at J;exact J)).symm,u.aG⟩);obtain⟨iH,V⟩:=gx M (i:=(k:Int).toNat) cO;obtain⟨W,I⟩:=gx xs (i:=(k:Int).toNat) cO
 have B:DL w (ir iH) W:=E.2 _ _ _ V I;refine aQ ql G cO V (λ_ ix=>aD jT (ix.ext u.aG) ?_);have hf9:=DL.flat B;refine ij oD (Z _ W U u.aG (B.ext u.aG) (Y _ (kE I))) ?_;rintro _ _ ⟨rfl,he⟩;have u:=u.ext he;exact bD (λO=>⟨g6 (nG .i64) (my J I O).symm,u.aG⟩) (λO=>aO cO ⟨_,cO,k+1,rfl,rfl,cO,eh J I O,u⟩)
def C186(sv fv:Value)(xs:List (List cN))(φ:(List cN)->Prop)(g:(List cN)->Bool)(w:World)(E:DL w sv xs)(G:ug hH w fv φ g)(B:∀x∈xs,φ x)(I:xs.length<=1073741824):CR 186 [sv,fv] w (λv w'=>v=.bool (xs.any g)/\Ext w w'):=by
 have u:=St.start w;refine fj Tryz.func186 ?_;exact aW aqT u (C247 _ _ _ _ _ _ (E.ext u.aG) (G.ext u.aG) B cO) (λ_ _ u=>cT ⟨vb (lh _ _),u.aG⟩)
def C248(sv fv:Value)(xs:List cR)(φ:cR->Prop)(g:cR->Bool)(w:World)(hL:DL w sv xs)(hf:ug hH w fv φ g)(W:∀x∈xs,φ x)(hn:xs.length<=1073741824):CR 248 [sv,fv] w (λv w'=>v=hZ (sT g xs)/\Ext w w'):=by
 obtain⟨g0,first,cap,rfl,oD,Z⟩:=hf;have u:=St.start w;refine fj Tryz.func248 ?_;obtain⟨O,B,E⟩:=hL.open;have V:=E.1;refine aK fF (B.ext u.aG) ?_;refine⟨λm x M=>∃k:Nat,x=hZ (k:Int)/\m=xs.length-k/\k<=xs.length/\(∀y∈xs.take k,g y=false)/\St w aX [] M,⟨_,0,rfl,rfl,l0 _,ei,u⟩,?_⟩;rintro m _ M ⟨k,rfl,rfl,hk,I,u⟩ _;refine aR (aC (λjQ=>?_) λ_=>⟨g6 (nG .i64) (jm (by rw[kO cO]at I;exact I)).symm,u.aG⟩);obtain⟨iH,U⟩:=gx O (i:=(k:Int).toNat) cO;obtain⟨zR,G⟩:=gx xs (i:=(k:Int).toNat) cO
 obtain⟨Q0,Q1,rfl,Q2,Y⟩:=E.2 _ _ _ U G;refine aQ fF B cO U (λ_ ix=>aD ny (ix.ext u.aG) (ij oD (Z _ zR M u.aG ⟨Q0,Q1,rfl,(Q2.ext u.aG),(Y.ext u.aG)⟩ (W _ (kE G))) ?_));rintro _ _ ⟨rfl,he⟩;have u:=u.ext he;exact bD (λJ=>⟨g6 (nG .i64) (my I G J).symm,u.aG⟩) (λJ=>aO cO ⟨_,cO,k+1,rfl,rfl,cO,eh I G J,u⟩)
def C187(sv fv:Value)(xs:List cR)(φ:cR->Prop)(g:cR->Bool)(w:World)(E:DL w sv xs)(G:ug hH w fv φ g)(B:∀x∈xs,φ x)(I:xs.length<=1073741824):CR 187 [sv,fv] w (λv w'=>v=.bool (xs.any g)/\Ext w w'):=by
 have u:=St.start w;refine fj Tryz.func187 ?_;exact aW aqU u (C248 _ _ _ _ _ _ (E.ext u.aG) (G.ext u.aG) B cO) (λ_ _ u=>cT ⟨vb (lh _ _),u.aG⟩)
def C249(sv fv:Value)(xs:List ic)(φ:ic->Prop)(g:ic->Bool)(w:World)(Y:DL w sv xs)(hf:ug hH w fv φ g)(V:∀x∈xs,φ x)(hn:xs.length<=1073741824):CR 249 [sv,fv] w (λv w'=>v=hZ (sT g xs)/\Ext w w'):=by
 obtain⟨g0,first,cap,rfl,oD,W⟩:=hf;have u:=St.start w;refine fj Tryz.func249 ?_;obtain⟨G,M,U⟩:=Y.open;have axV:=U.1;refine aK tT (M.ext u.aG) ?_;refine⟨λm x J=>∃k:Nat,x=hZ (k:Int)/\m=xs.length-k/\k<=xs.length/\(∀y∈xs.take k,g y=false)/\St w aX [] J,⟨_,0,rfl,rfl,l0 _,ei,u⟩,?_⟩;rintro m _ J ⟨k,rfl,rfl,hk,E,u⟩ _;refine aR (aC (λjQ=>?_) λ_=>⟨g6 (nG .i64) (jm (by rw[kO cO]at E;exact E)).symm,u.aG⟩);obtain⟨iH,O⟩:=gx G (i:=(k:Int).toNat) cO;obtain⟨zR,B⟩:=gx xs (i:=(k:Int).toNat) cO
 obtain⟨Kp,rfl,Z⟩:=U.2 _ _ _ O B;refine aQ tT M cO O (λ_ ix=>aD JT (ix.ext u.aG) (ij oD (W _ zR J u.aG ⟨Kp,rfl,(Z.ext u.aG)⟩ (V _ (kE B))) ?_));rintro _ _ ⟨rfl,he⟩;have u:=u.ext he;exact bD (λI=>⟨g6 (nG .i64) (my E B I).symm,u.aG⟩) (λI=>aO cO ⟨_,cO,k+1,rfl,rfl,cO,eh E B I,u⟩)
def C188(sv fv:Value)(xs:List ic)(φ:ic->Prop)(g:ic->Bool)(w:World)(E:DL w sv xs)(G:ug hH w fv φ g)(B:∀x∈xs,φ x)(I:xs.length<=1073741824):CR 188 [sv,fv] w (λv w'=>v=.bool (xs.any g)/\Ext w w'):=by
 have u:=St.start w;refine fj Tryz.func188 ?_;exact aW aqW u (C249 _ _ _ _ _ _ (E.ext u.aG) (G.ext u.aG) B cO) (λ_ _ u=>cT ⟨vb (lh _ _),u.aG⟩)
def C108(p:bZ)(pv:bO)(w:World)(E:mi w pv p)(B:PZ p):CR 108 [ir pv] w (λv w'=>v=.bool (kH p)/\Ext w w'):=by
 obtain⟨bK,bV,Z,Y,W,bH,rfl,cW,dK,dB,cE,cG,cU⟩:=E;have u:=St.start w;refine fj Tryz.func108 ?_;refine cM u (λkF G u=>⟨λV w'=>V=.bool (p.lines.any oz||!oJ 4294967296 p.iY||!oJ 0 p.eS||decide (1<p.recover.length))/\St w aX [bW kF (j0 (⟨bK,bV,Z,Y,W,bH⟩:bO))] w',aA gL (aB pk u.hb rfl (aW aia u (C186 _ _ _ (λl=>l.length<=1048576) _ _ (cW.ext u.aG) ⟨177,[],[],rfl,aqJ,λ_ y G _ hd E=>C177 _ y G (DL.flat hd) E⟩ (λl hl=>by have:=B.line l hl;omega) (by have:=B.lines;omega)) λ_ he u=>bD (λ_=>⟨vb dI,u⟩) λjJ=>?_)),?_⟩)
 .refine aA qG (aB jT u.hb rfl ?_);have J:=DL.flat dK;refine aW Zp u (C178 _ _ _ _ (J.ext u.aG) (by have:=B.iY;omega)) (λ_ he u=>bT (bD (λ_=>⟨vb dI,u⟩) λjx=>aA ou (aB jT u.hb rfl ?_)));have O:=DL.flat dB;refine aW Zp u (C178 _ _ _ _ (O.ext u.aG) (by have:=B.eS;omega)) (λ_ he u=>bT (bD (λ_=>⟨vb dI,u⟩) λfE=>aA po (aB iJ u.hb rfl ?_)));have hzr:=B.recover;obtain⟨ts14,U,I⟩:=cG.open;have hn14:=I.1;exact aK fF (U.ext u.aG) (cQ ⟨vb dI,u⟩)
 rintro _ _ ⟨rfl,u⟩ _;refine bD (λM=>?_) (λM=>⟨λV w'=>V=.bool (!p.threads.any (mP true)&&!p.recover.any (mP false)&&!p.eb.any l9)/\St w aX [bW kF (j0 (⟨bK,bV,Z,Y,W,bH⟩:bO))] w',?_,?_⟩)
 .refine⟨vb ?_,u.drop.aG⟩;rw[<- NA,M];simp
 .refine aA kR ?_;exact aB iJ u.hb rfl (aW Zr u (C187 _ _ _ (λt=>YQ t/\t.dY.length<=500/\t.body.length<=500) _ _ (cE.ext u.aG) ⟨179,[],[],rfl,aqK,λsv y G _ hd E=>C179 y sv G hd E⟩ (λ_ ht=>B.rB (List.mem_append_left _ ht)) (by have:=B.threads;omega)) λ_ _ u=>bT (bD (λ_=>aA po (aB iJ u.hb rfl (aW Zr u (C187 _ _ _ (λt=>YQ t/\t.dY.length<=500/\t.body.length<=500) _ _ (cG.ext u.aG) ⟨182,[],[],rfl,aqL,λsv y G _ hd E=>C182 y sv G hd E⟩ (λ_ ht=>B.rB (List.mem_append_right _ ht)) (by have:=B.recover;omega)) λ_ _ u=>bT (bD (λ_=>aA jB (aB rz u.hb rfl (aW aqV u (C188 _ _ _ (λc=>c.e.length<=1048576) _ _ (cU.ext u.aG) ⟨183,[],[],rfl,aqM,λsv y G _ hd E=>C183 y sv G hd E⟩ (λc hc=>(B.zc c hc).1) (by have:=B.eb;omega)) λ_ _ u=>bT ⟨vb dI,u⟩))) λ_=>⟨vb dI,u⟩)))) λ_=>⟨vb dI,u⟩))
 rintro _ _ ⟨rfl,u⟩ _;refine⟨vb ?_,u.drop.aG⟩;rw[<- NA,M];simp
variable (w:World) (K:Value->hM)
def S109(p0:Value):Prop:=
 ry hH (Ae 27 p0) w λp1 a=>fA 27 p1 3 λb=>lA 24 b a λc=>lN 24 c λd=>eQ (λB=>fA 27 p1 0 λe=>lA 22 e a λf=>lN 22 f λg=>bB .gtr 3 g (i 4) λh=>
 cV h (B tt a) (fA 27 p1 0 λj=>lA 22 j a λk=>cF 186 [k,(.func (.func 189) #[] #[])] a λl n=>cV l (B tt n) (fA 27 p1 1 λo=>lA 23 o n λp=>lN 23 p λq=>bB .gtr 3 q (i 4) λr=>
 cV r (B tt n) (fA 27 p1 2 λs=>lA 23 s n λt=>lN 23 t λu=>bB .gtr 3 u (i 2) λv=>cV v (B tt n) (bB .eql 3 d (i 0) λx=>cV x (B tt n) (bB .gtr 3 d (i 3) λy=>
 cV y (B tt n) (lA 27 p1 n λz=>cF 110 [z] n λO I=>cF 187 [O,(.func (.func 190) #[] #[])] I λM E=>cV M (B tt E) (fA 27 p1 5 λW=>lA 25 W E λU=>lN 25 U λJ=>
 bB .gtr 3 J (i 4) λY=>B Y E)))))))) (λG V=>∀_:Env,
 K G V)
theorem afi(p0:Value)(h:S109 w K p0):CR 109 [p0] w K:=
 qj 51 (λ_=>.nil) 4 [.tmp 2] Tryz.func109 h
def S111(G J:Value):Prop:=
 kP (λE B a=>∀_:Env,
 lN 141 G λb=>bA .lss 3 B b λc=>cV c (iA 141 G B λd=>lA 193 d a λe=>aL 193 a λf g=>sA 193 f e g λh=>bB .add 3 B (i 1) λj=>fA 193 f 6 λk=>lA 3 k h λl=>
 bA .add 3 j l λn=>fA 193 f 7 λo=>lA 3 o h λp=>bA .add 3 n p λq=>eQ (λK2=>fA 193 f 0 λr=>lA 3 r h λs=>bB .eql 3 s (i 12) λt=>cV t (fA 193 f 5 λu=>
 lA 3 u h λv=>bA .mul 3 J v λx=>K2 x h) (K2 J h)) (λI y=>∀_:Env,
 bB .gtr 3 I (i 64) λz=>cV z (fA 193 f 8 λZ=>lA 3 Z y λU=>K (.tuple #[U,tt]) y) (bB .add 3 B (i 1) λW=>eX hH (n0 141 G (some W) (some q) none) λad=>
 cF 111 [ad,I] y λO M=>xT O 0 λV=>xT O 1 λY=>cV Y (K (.tuple #[V,tt]) M) (E q M)))) (K (.tuple #[(i 0),ff]) a)) (λE=>E (i 0) w)
theorem afj(B u:Value)(h:S111 w K B u):CR 111 [B,u] w K:=
 qj 53 (λ_=>.nil) 48 [.tmp 4,.tmp 5] Tryz.func111 h
theorem TH:PL 115:=dR Tryz.func115
theorem TI:PL 195:=dR Tryz.func195
theorem azc:PL 50:=dR Tryz.func50
theorem Z7:PL 54:=dR Tryz.func54
theorem ar7:PL 52:=dR Tryz.func52
theorem azd:PL 51:=dR Tryz.func51
theorem aze:PL 55:=dR Tryz.func55
theorem IB:PL 159:=dR Tryz.func159
theorem TJ:PL 110:=dR Tryz.func110
theorem ar8:PL 109:=dR Tryz.func109
theorem ar9:PL 189:=dR Tryz.func189
theorem asa:PL 190:=dR Tryz.func190
theorem aip:PL 111:=dR Tryz.func111
theorem asb:PL 191:=dR Tryz.func191
theorem asc:PL 250:=dR Tryz.func250
end Go.Proofs.YtpdlpabnlkofmaaGreatDoor
namespace Go.Fw
section
variable {α:Type}[Flat α] {P:Program}{w w0:World}{A:Nat->Prop}{L:List HP}
theorem NB{T E O G R:Nat}{kn U:IntKind}{K:Value->hM}(hs:St w0 A L w)(ht:W3 P T E (mA α) O)(Z:P.underlying G=some (.int kn))(h1:1<=mA α)(n:Nat)(hn:0<n)(M:n<=1048576)(V:O<=8192)
  (k:∀b cap w',n<=cap->St w0 A (bE (.slice (some ⟨b,0,none⟩) 0 cap) ([]:List α)::L) w'->K (.slice (some ⟨b,0,none⟩) n cap) w'):ry P (Builtin.append_ #[T,G] R [.slice none 0 0,.int U (n:Int)].toArray) w K:=by
 obtain⟨Y,u,hi,pf,xr,B⟩:=fz ht
 obtain⟨z,W,J⟩:∃z,u.zero=some z/\z.cells.size=mA α:=by
  cases h:u.zero with
  | none=>rw[h]at B;cases B
  | some z=>rw[h]at B;exact⟨z,rfl,by simpa using B⟩
 have I:n*u.bytes<=281474976710656:=by
  have:=Nat.mul_le_mul M (show u.bytes<=8192 by omega)
  omega
 have hr:=Lib.run_append_nil_zeros (P:=P) w T G R E u z U kn Y Z hi W n hn cO cO I
 have PQ:=grownCap_ge w n 0 E
 refine⟨_,_,hr,k _ _ _ cO ?_⟩
 refine hs.drew.new (F:=(· = w.heap.size)) (Ext.alloc _ _) (.inr ⟨_,_,(Builtin.zeroCells z.cells n++Builtin.zeroCells z.cells (grownCap w n 0 E-n)).toList,rfl,?_,?_,λ_=>Iff.rfl⟩) λb hb=>AH hb.symm
 .exact⟨E,by rw[show flat ([]:List α)=[]from rfl,vK,Array.toArray_toList];exact mF _ _⟩
 refine⟨l0 _,AH (Eq.symm ?_)⟩
 show([]++_).length=_
 rw[vK,Array.length_toList,Array.size_append,size_zeroCells,size_zeroCells,J,<- Nat.add_mul]
 congr 1;omega
theorem NC{T E sz B R n c:Nat}{z:Option Nat}{a:Option Addr}{K:Value->Prop}(ht:eY P T=some (E,sz,B,z))(k:K (hZ (c:Int))):eX P (Builtin.cap_ #[T] R [Value.slice a n c].toArray) K:=by
 obtain⟨u,_⟩:=fz ht
 refine⟨_,?_,k⟩
 unfold Builtin.cap_
 simp[cZ,cY u]
 rfl
theorem ND{T E sz u n c:Nat}{z:Option Nat}{a:Option Addr}{K:Value->Prop}(ht:eY P T=some (E,sz,u,z))(B:a.map (·.add (0*sz))=a)(k:K (.slice a 0 c)):eX P (n0 T (.slice a n c) none (some (hZ 0)) none) K:=by
 refine⟨_,xq ht (oU (.inl ⟨rfl,rfl⟩) (.inr ⟨0,rfl,Int.le_refl _,rfl⟩) (o6 _) (l0 _)),?_⟩
 grind
end
end Go.Fw
namespace Go.Proofs.YtpdlpabnlkofmaaGreatDoor
open Go.Fw
theorem yc{α:Type}{ls:List (List α)}{k:Nat}{l:List α}(h:ls[k]?=some l):(ls.take (k+1)).flatten=(ls.take k).flatten++l:=by
 rw[<- gX h];simp
def Ku{α:Type}(ls:List (List α))(k:Nat):(ls.take k).flatten.length<=ls.flatten.length:=by
 conv=>rhs;rw[<- qa k ls,List.flatten_append,lr]
 omega
def aiq{α:Type}[Flat α](w:World):dD (λ_=>True) w (.slice none 0 0) ([]:List α):=⟨none,0,rfl,l0 _,.inl ⟨rfl,rfl⟩⟩
def C250(n:Nat)(w:World)(I:n<=1048576):CR 250 [.slice none 0 0,hZ (n:Int)] w (λv w'=>kq (bE v ([]:List cL)) w w'):=by
 have u:=St.start w;refine fj Tryz.func250 ?_;refine⟨λw'=>w'=w,aR (aC (λc=>absurd c cO) λ_=>rfl),?_⟩;rintro B G _;subst G;refine⟨λE w'=>St B aX [bE E ([]:List cL)] w',?_,?_⟩
 .refine NC fF (aK fF (aiq (α:=cL) B) (ft ei (ft (by simp;omega) (cQ (aC (λc=>?_) λ_=>u.eK)))));refine NC fF (ND fF rfl ?_);have e:(n:Int)-(((0:Nat):Int)-(([]:List cL).length:Int))=(n:Int):=ei
  rw[e]at c |-;exact NB (α:=cL) (kn:=.i64) u fF (by kernel_rfl) ee n cO I ee (λ_ _ _ _ u=>aK fF (aiq (α:=cL) B) (ND fF (by simp[Addr.add]) u))
 rintro v _ u _;exact u.fresh
def C191(lv:Value)(B:List (List cL))(w:World)(hL:axC w lv B)(hn:B.length<=1000)(hf:B.flatten.length<=100000):CR 191 [lv] w (λv w'=>kq (bE v B.flatten) w w'):=by
 obtain⟨I,O,hl,Y⟩:=hL;have u:=St.start w;refine fj Tryz.func191 ?_;refine aK Mx (O.ext u.aG) ?_;refine⟨λm y x U=>∃k:Nat,y=hZ ((B.take k).flatten.length:Int)/\x=hZ (k:Int)/\m=I.length-k/\k<=I.length/\St w aX [] U,⟨_,0,rfl,rfl,rfl,l0 _,u⟩,?_⟩;rintro m _ _ U ⟨k,rfl,rfl,rfl,hk,u⟩ _;refine aR (aC (λc=>?_) λc=>?_)
 .obtain⟨s,J⟩:=gx I (i:=(k:Int).toNat) cO;obtain⟨t,M⟩:=gx B (i:=k) cO;have V:=Y k s t J M;have G:=Ku B (k+1);have E:=yc M;rw[E,lr]at G;refine⟨λjv w'=>jv=hZ ((B.take (k+1)).flatten.length:Int)/\St w aX [] w',aQ Mx O cO J (λ_ W=>aD iJ (W.ext u.aG) (aK fF (V.ext u.aG) (aO cO (aR (aC (λc=>absurd c cO) λ_=>⟨g6 (nG .i64) (by rw[E,lr];omega),u⟩))))),?_⟩;rintro _ _ ⟨rfl,u⟩ _;exact aO cO ⟨_,cO,k+1,rfl,rfl,rfl,cO,u⟩
 have wN:B.take k=B:=kO cO;rw[wN];refine dV asc u (C250 _ _ cO) (λZ _ cI u=>aK Mx (O.ext u.aG) ?_);refine⟨λm v x U=>∃k:Nat,x=hZ (k:Int)/\m=I.length-k/\k<=I.length/\St w aX [bE v ((B.take k).flatten)] U,⟨_,0,rfl,rfl,l0 _,u⟩,?_⟩;rintro m v _ _ ⟨k,rfl,rfl,hk,u⟩ _;refine aR (aC (λc=>?_) λc=>?_)
 .obtain⟨s,J⟩:=gx I (i:=(k:Int).toNat) cO;obtain⟨t,M⟩:=gx B (i:=k) cO;have V:=Y k s t J M;have G:=Ku B (k+1);have E:=yc M;rw[E,lr]at G;exact aQ Mx O cO J (λ_ W=>aD iJ (W.ext u.aG) (bI u fF (V.ext u.aG) cO ee λ_ _ u=>aO cO ⟨_,cO,k+1,rfl,rfl,cO,by rw[E];exact u⟩))
 rw[show B.take k=B from kO cO]at u;exact u.fresh
def akQ{w:World}{a b:SV}{x y:List cL}(h1:dD (λ_=>True) w (ir a) x)(h2:dD (λ_=>True) w (ir b) y):∀(i:Nat) (s:SV) (t:List cL),[a,b][i]?=some s->[x,y][i]?=some t->dD (λ_=>True) w (ir s) t:=by
 grind
def C110(p:bZ)(pv:bO)(B E:List cL)(w:World)(O:mi w pv p)(h3:dD (λ_=>True) w (ir pv.threads) B)(h4:dD (λ_=>True) w (ir pv.recover) E)(V:B.length<=500)(I:E.length<=500):CR 110 [ir pv] w (λv w'=>kq (bE v (B++E)) w w'):=by
 obtain⟨bK,bV,Y,M,J,Z,rfl,cW,dK,dB,W,cG,cU⟩:=O;have u:=St.start w;refine fj Tryz.func110 ?_;refine cM u (λkF _ u=>aA kR (aB iJ u.hb rfl (aA po (aB iJ u.hb rfl (aV ([M,J]) u Mx rfl rfl (dQ rfl) λU _ u=>dV asb u (C191 _ [B,E] _ ⟨_,u.dW,rfl,akQ (h3.ext u.aG) (h4.ext u.aG)⟩ ei (by simp;omega)) λx8 _ cI u=>?_)))));have G:=u.p1.drop.p1.drop;rw[show [B,E].flatten=B++E from ei]at G;exact G.fresh
def akR(p:bZ):(decide (4<(p.lines.length:Int))||p.lines.any (λl=>decide (4<(l.length:Int)))||decide (4<(p.iY.length:Int))||decide (2<(p.eS.length:Int))||decide ((p.threads.length:Int)=0)||decide (3<(p.threads.length:Int))||(gE p).any (λt=>decide (4<(t.dY.length:Int)))||decide (4<(p.eb.length:Int)))=vm p:=by
 unfold vm
 grind
def TK{p:bZ}(h:∀l∈p.lines,l.length<=500)(u:p.lines.length<=500)(k:Nat):(p.lines.take k).flatten.length<=250000:=by
 have h1:=Ku p.lines k
 have h2:=dC h
 omega
def C159(sv:Value)(ns:List ByteArray)(s:ByteArray)(w:World)(B:dD (λ_=>True) w sv ns)(E:ns.length<=1048576):CR 159 [sv,.string s] w (λv w'=>v=hZ (dA ns s)/\Ext w w'):=by
 have u:=St.start w;refine fj Tryz.func159 ?_;exact aW YX u (C225 _ _ _ _ (B.ext u.aG) cO) (λ_ _ u=>⟨rfl,u.aG⟩)
def C54(p:bZ)(pv:bO)(w:World)(hp:mi w pv p)(B:PZ p):CR 54 [ir pv] w (λv w'=>v=hZ (eH p)/\Ext w w'):=by
 obtain⟨bK,bV,bM,aY,aZ,bH,rfl,cW,dK,dB,cE,cG,cU⟩:=hp;have u:=St.start w;refine fj Tryz.func54 ?_;refine cM u (λkF w1 u=>aA gL (aB pk u.hb rfl ?_));obtain⟨V,E,G⟩:=cW.open;have Z:=G.1;refine aK ql (E.ext u.aG) ?_;refine⟨λm y x w1=>∃k:Nat,y=hZ (((p.lines.take k).flatten.length:Nat):Int)/\x=hZ (k:Int)/\m=p.lines.length-k/\k<=p.lines.length/\St w aX [bW kF (j0 (⟨bK,bV,bM,aY,aZ,bH⟩:bO))] w1,⟨_,0,rfl,rfl,rfl,cO,u⟩,?_⟩
 rintro m _ _ _ ⟨k,rfl,rfl,rfl,hk,u⟩ _;have Z8:=TK B.line B.lines k;have J:=TK B.line B.lines (k+1);have hzl:=B.lines;refine aR (aC (λgW=>?_) λgW=>?_)
 .obtain⟨Ip,Y⟩:=gx V (i:=(k:Int).toNat) cO;obtain⟨I,W⟩:=gx p.lines (i:=(k:Int).toNat) cO;have M:DL w (ir Ip) I:=G.2 _ _ _ Y W;refine aQ ql E cO Y (λ_ FB=>?_);have U:=yc (k:=k) W;rw[U,lr]at J;refine aD jT (FB.ext u.aG) ?_;have O:=DL.flat M;exact aK iD (O.ext u.aG) (aO cO (aO cO ⟨_,cO,k+1,g6 (nG .i64) (by rw[yc (k:=k) W,lr];omega),rfl,rfl,cO,u⟩))
 rw[kO cO];exact⟨rfl,u.drop.aG⟩
def C51(p:bZ)(pv:bO)(w:World)(hp:mi w pv p)(hz:PZ p):CR 51 [ir pv] w (λv w'=>kq (bE v (cP p)) w w'):=by
 obtain⟨bK,bV,V,U,O,Z,rfl,cW,dK,dB,cE,cG,cU⟩:=hp;have u:=St.start w;refine fj Tryz.func51 ?_;refine cM u (λkF I u=>aA ou (aB jT u.hb rfl ?_));have B:=DL.flat dB;refine aK iD (B.ext u.aG) ?_;refine⟨λm y x I=>∃k:Nat,x=hZ (k:Int)/\m=p.eS.length-k/\k<=p.eS.length/\St w aX [bE y ((p.eS.take k).map cN.name),bW kF (j0 (⟨bK,bV,V,U,O,Z⟩:bO))] I,⟨_,0,rfl,rfl,cO,u.eK (α:=ByteArray)⟩,?_⟩;rintro m nI _ _ ⟨k,rfl,rfl,hk,u⟩ _
 have D1:((p.eS.take k).map cN.name).length=k:=by rw[nc,l1];omega
 have W:=hz.eS;refine aR (aC (λM=>?_) λM=>?_)
 .obtain⟨E,G⟩:=gx p.eS (i:=(k:Int).toNat) cO;refine aQ iD B cO G (λ_ FB=>aD mw (FB.ext u.aG) (aN u pA λY _ u=>aJ (x:=E) u mw rfl rfl λ_ u=>aA kZ (aB (v:=.string E.name) gK u.hb rfl (aV ([E.name]) u iK rfl rfl (dQ rfl) λasi _ u=>?_))));have J:=u.dW;exact bI u.p2 iK J (by simp<;>omega) ee (λ_ _ u=>have u:=u.p1.drop;aO cO (have u:=u.p1.drop.p1.p1;⟨_,cO,k+1,rfl,rfl,cO,by rw[<- gy (k:=k) G];exact u⟩))
 have u:=u.p1.drop;rw[kO cO]at u;exact u.fresh
def C189(lv:Value)(xs:List cN)(w:World)(B:dD (λ_=>True) w lv xs)(E:xs.length<=1048576):CR 189 [lv] w (λv w'=>v=.bool (decide (4<(xs.length:Int)))/\Ext w w'):=by
 have u:=St.start w;refine fj Tryz.func189 ?_;exact aK iD (B.ext u.aG) (cQ ⟨rfl,u.aG⟩)
def C190(t:cR)(E:cL)(w:World)(ht:mi w E t)(O:t.dY.length<=500):CR 190 [ir E] w (λv w'=>v=.bool (decide (4<(t.dY.length:Int)))/\Ext w w'):=by
 obtain⟨M,I,rfl,G,J⟩:=ht;have u:=St.start w;refine fj Tryz.func190 ?_;refine cM u (λU _ u=>aA fZ (aB jq u.hb rfl ?_));have B:=DL.flat G;exact aK iK (B.ext u.aG) (cQ ⟨rfl,u.drop.aG⟩)
def C109(p:bZ)(pv:bO)(w:World)(G:mi w pv p)(B:PZ p):CR 109 [ir pv] w (λv w'=>v=.bool (vm p)/\Ext w w'):=by
 obtain⟨bK,bV,bM,aY,aZ,bH,rfl,Y,dK,dB,J,cG,cU⟩:=G;have u:=St.start w;refine afi _ _ _ ?_;unfold S109;refine cM u (λkF I u=>?_);have Vg:=B.lines;have hz2:=B.iY;have hz3:=B.eS;have hz4:=B.threads;have hz5:=B.eb;obtain⟨v8,Z5,Z6⟩:=J.open;obtain⟨zO,QY,E⟩:=cG.open;have hn3:=Z6.1;have hn4:=E.1;have aku:=Eu B.toPS;refine aA kR (aB iJ u.hb rfl ?_);obtain⟨ts19,O,Z⟩:=J.open;have hn19:=Z.1;refine aK fF (O.ext u.aG) ⟨λjv w'=>jv=.bool (decide (4<(p.lines.length:Int))||p.lines.any (λl=>decide (4<(l.length:Int)))||decide (4<(p.iY.length:Int))||decide (2<(p.eS.length:Int))||decide ((p.threads.length:Int)=0)||decide (3<(p.threads.length:Int))||(gE p).any (λt=>decide (4<(t.dY.length:Int)))||decide (4<(p.eb.length:Int)))/\St w aX [bW kF (j0 (⟨bK,bV,bM,aY,aZ,bH⟩:bO))] w',?_,?_⟩
 .refine aA gL (aB pk u.hb rfl ?_);obtain⟨aq9,Vz,M⟩:=Y.open;have ax3:=M.1;refine aK ql (Vz.ext u.aG) (cQ (aC (λ_=>⟨vb dI,u⟩) λlG=>aA gL (aB pk u.hb rfl (aW aia u (C186 _ _ _ (λl=>l.length<=1048576) _ _ (Y.ext u.aG) ⟨189,[],[],rfl,ar9,λ_ y I _ hd G=>C189 _ y I (DL.flat hd) G⟩ (λl hl=>by have:=B.line l hl;omega) (by have:=B.lines;omega)) λ_ he u=>bD (λ_=>⟨vb dI,u⟩) λky=>aA qG (aB jT u.hb rfl ?_)))));have V:=DL.flat dK;refine aK iD (V.ext u.aG) (cQ (aC (λ_=>⟨vb dI,u⟩) λnA=>aA ou (aB jT u.hb rfl ?_)))
  have W:=DL.flat dB;refine aK iD (W.ext u.aG) (cQ (aC (λ_=>⟨vb dI,u⟩) λaii=>aH (aC (λ_=>⟨vb dI,u⟩) λzS=>cQ (aC (λ_=>⟨vb dI,u⟩) λpH=>aD er u.At (dO TJ (C110 p _ v8 zO _ ⟨bK,bV,bM,aY,aZ,bH,rfl,(Y.ext u.aG),(dK.ext u.aG),(dB.ext u.aG),(J.ext u.aG),(cG.ext u.aG),(cU.ext u.aG)⟩ (Z5.ext u.aG) (QY.ext u.aG) (by have:=B.threads;omega) (by have:=B.recover;omega)) ?_)))));rintro x41 _ cI;have u:=u.made cI;have akS:DL _ _ (gE p):=DL.of u.dW ((Z6.append E).ext u.aG)
  refine aW Zr u (C187 _ _ _ (λt=>t.dY.length<=500) _ _ akS ⟨190,[],[],rfl,asa,λsv y I _ hd G=>C190 y sv I hd G⟩ (λ_ ht=>(B.rB ht).2.1) cO) (λ_ he u=>bD (λ_=>have u:=u.drop;⟨vb dI,u⟩) λwF=>aA jB (aB rz u.p1.hb rfl ?_));obtain⟨ts23,U,azm⟩:=cU.open;have hn23:=azm.1;exact aK tT (U.ext u.aG) (cQ (have u:=u.drop;⟨vb dI,u⟩))
 rintro _ _ ⟨rfl,u⟩ _;exact⟨vb (akR p),u.drop.aG⟩
theorem wc(x:bR)(a b r:Bk)(n:Int):mS (.cons x a b r) n=(decide (64<rO x n)||(mS a (rO x n)||mS b (rO x n))||mS r n):=rfl
def afl{xs:List bR}{k:Nat}{x:bR}{a b r:Bk}(h:xs.drop k=(Bk.cons x a b r).flat)(u:(Bk.cons x a b r).str){hi lo:Int}(h1:hi=k+1+x.body+x.eG)(h2:lo=k+1):(xs.take hi.toNat).drop lo.toNat=(a.app b).flat:=by
 have B:=u
 obtain⟨G,E,_⟩:=B
 have e:=Bk.DZ u (hi:=1+x.body+x.eG) (lo:=1) rfl rfl
 rw[<- e,<- h,List.take_drop,tz]
 grind
def Z9{xs:List bR}{k:Nat}{x:bR}{a b r:Bk}(h:xs.drop k=(Bk.cons x a b r).flat)(u:(Bk.cons x a b r).str):xs.drop (k+1+a.len+b.len)=r.flat:=by
 have B:=u
 obtain⟨G,E,_⟩:=B
 rw[<- Bk.akd u (hi:=1+x.body+x.eG) rfl,<- h,tz]
 grind
def aaa{α:Type}{xs l:List α}{k:Nat}{x:α}(h:xs.drop k=x::l):xs[k]?=some x:=by
 have:=g6 (λl=>l[0]?) h
 grind
theorem C111(lv:Value)(t:Bk)(n:Int)(N:Nat)(w:World)(hL:DL w lv t.flat)(jd:t.str)(hq:∀x∈t.flat,0<=x.at_/\(x.kind=12->1<=x.n/\x.n<=8))(hn:1<=n/\n<=64)(hl:t.len<=1048576)(hN:t.len<N):CR 111 [lv,hZ n] w (λv w'=>∃a:Int,v=.tuple #[hZ a,.bool (mS t n)]/\Ext w w'):=by
 have uD:=t.dC;have B:=St.start w;refine afj _ _ _ _ ?_;unfold S111;refine⟨λm y w1=>∃(k:Nat) (u:Bk),y=hZ (k:Int)/\m=t.len-k/\t.flat.drop k=u.flat/\k+u.len=t.len/\u.str/\(∀x∈u.flat,0<=x.at_/\(x.kind=12->1<=x.n/\x.n<=8))/\mS t n=mS u n/\St w aX [] w1,⟨_,0,t,rfl,rfl,rfl,cO,jd,hq,rfl,B⟩,?_⟩;rintro m _ w1 ⟨k,u,rfl,rfl,Z,M,J,I,G,B⟩ _;obtain⟨akj,U,VD⟩:=hL.open;have ax8:=VD.1;refine aK fB (U.ext B.aG) (aR (aC (λjx=>?_) λjx=>?_))
 .obtain⟨x,a,b,r,rfl⟩:=Bk.Ev (t:=u) (by rw[Bk.dC];omega);obtain⟨qX,ig⟩:=gx akj (i:=(k:Int).toNat) cO;obtain⟨E,FC⟩:=gx t.flat (i:=(k:Int).toNat) cO;obtain⟨qL,qM,rfl,aep,aeq⟩:=VD.2 _ _ _ ig FC;refine aQ fB U cO ig (λ_ sU=>?_);obtain rfl:E=x:=n5.inj (FC.symm.trans (aaa Z));have O:=I E (by simp[Bk.flat]);have azo:=J;obtain⟨Cs,Hi,VB,hg4,hga,hgb,hgr⟩:=azo;have Hj:k+(a.len+b.len+r.len+1)=t.len:=M;have hla:=a.dC;have MS:=b.dC;have hlr:=r.dC;have tS:=afl Z J (hi:=(k:Int)+1+E.body+E.eG) (lo:=(k:Int)+1) rfl rfl
  have CX:=Z9 Z J;refine aD eU (sU.ext B.aG) (aN B jD λxQ _ B=>have B:=B.enc (cs':=j0 (⟨0,(kp #[]),(kp #[]),bY,bY,0,0,0,0⟩:bF)) rfl;aJ (x:=(⟨E.kind,E.eN,E.name,qL,qM,E.n,E.body,E.eG,E.at_⟩:bF)) B eU rfl rfl λ_ B=>aO cO (aA jh (aB (v:=hZ E.body) bL B.hb rfl (aO cO (aA iQ (aB (v:=hZ E.eG) bL B.hb rfl (aO cO ⟨λjv w'=>∃m:Int,jv=hZ m/\m=rO E n/\St w aX [bW xQ (j0 (⟨E.kind,E.eN,E.name,qL,qM,E.n,E.body,E.eG,E.at_⟩:bF))] w',aA dU (aB (v:=hZ E.kind) bL B.hb rfl (aH (aC (λmz=>aA jX (aB (v:=hZ E.n) bL B.hb rfl (El (by have VC:=O.2 mz;have h1:=JO (a:=1) (b:=1) hn.1 VC.1 cO cO;have h2:=JO (c:=64) (d:=8) hn.2 VC.2 cO cO;omega) ⟨_,rfl,by grind[rO],B⟩))) λ_=>⟨_,rfl,by grind[rO],B⟩))),?_⟩)))))))
  rintro _ _ ⟨m,rfl,V,B⟩ _;have hm8:=Zv hn O.2 V;refine cQ (aC (λpH=>?_) λpH=>?_)
  .refine aA lW (aB (v:=hZ E.at_) bL B.hb rfl ?_);refine⟨E.at_,?_,B.drop.aG⟩;rw[G,wc,<- V,ez (show(64:Int)<m by omega)];rfl
  refine aO cO (oX fB (U.ext B.aG) cO cO cO λasj Q6=>?_);have Kv:=DL.cut Q6 U VD;refine dO aip (C111 _ (a.app b) m (N-1) _ (by have h:=(Kv.ext B.aG);rw[tS]at h;exact h) (Bk.Tp hga hgb) (λy W=>I y (by rw[Bk.BF]at W;simp only[Bk.flat,sl,o8];rcases o8.1 W with h|h<;>simp[h])) cO (by rw[Ew];omega) (by rw[Ew];omega)) ?_;rintro _ _ ⟨a1,rfl,he⟩;have B:=B.ext he;rw[Iz];refine aM rfl (aM rfl (bD (λY=>?_) λY=>⟨_,cO,k+1+a.len+b.len,r,g6 (nG .i64) cO,rfl,CX,cO,hgr,(λy W=>I y (by simp[Bk.flat,W])),by rw[G,wc,<- V,fV (show ¬ (64:Int)<m by omega),Y];rfl,B.drop⟩))
  refine⟨a1,?_,B.drop.aG⟩;rw[G,wc,<- V,Y];simp
 cases u with
 | nil=>exact⟨_,by rw[G];rfl,B.aG⟩
 | cons x a b r=>exact absurd M (by show ¬ k+(a.len+b.len+r.len+1)=_;omega)
termination_by N
decreasing_by all_goals omega
def Q7:Int->List (List cN)->List (cN×Int)
 | _,[]=>[]
 | k,l::r=>l.map (λc=>(c,k))++Q7 (k+1) r
def Pn:Int->List cN->List (cN×Int)
 | _,[]=>[]
 | k,c::r=>(c,k)::Pn (k+1) r
def uJ(p:bZ):List (cN×Int):=Q7 0 p.lines++Pn p.lines.length p.iY
theorem Kw:∀(ls:List (List cN)) (k:Int),(Q7 k ls).length=ls.flatten.length
 | [],_=>rfl
 | l::r,k=>by simp[Q7,Kw r]
theorem afm:∀(vs:List cN) (k:Int),(Pn k vs).length=vs.length
 | [],_=>rfl
 | c::r,k=>by simp[Pn,afm r]
theorem Kx:∀(ls:List (List cN)) (k:Int),(Q7 k ls).map aaA=ls.flatten
 | [],_=>rfl
 | l::r,k=>by simp[Q7,Kx r,Function.comp_def]
theorem Ky:∀(vs:List cN) (k:Int),(Pn k vs).map aaA=vs
 | [],_=>rfl
 | c::r,k=>by simp[Pn,Ky r]
theorem aab{l:List cN}{c:cN}{j:Nat}(u:l[j]?=some c):∀(ls:List (List cN)) (k:Int) (i:Nat),ls[i]?=some l->(Q7 k ls)[(ls.take i).flatten.length+j]?=some (c,k+i)
 | [],_,_,h=>by simp at h
 | a::r,k,0,h=>by
  grind[Q7]
 | a::r,k,i+1,h=>by
  have B:=aab u r (k+1) i dI
  grind[Q7]
theorem aac:∀(vs:List cN) (k:Int) (j:Nat) (c:cN),vs[j]?=some c->(Pn k vs)[j]?=some (c,k+j)
 | [],_,_,_,h=>by simp at h
 | a::r,k,0,c,h=>by simp at h;subst h;simp[Pn]
 | a::r,k,j+1,c,h=>by
  have u:=aac r (k+1) j c dI
  grind[Pn]
theorem BQ(p:bZ):(uJ p).map aaA=iE p:=by unfold uJ iE;rw[wk,Kx,Ky]
theorem vq(p:bZ):(uJ p).length=(iE p).length:=by rw[<- BQ,nc]
def VF{p:bZ}{l:List cN}{c:cN}{i j:Nat}(B:p.lines[i]?=some l)(u:l[j]?=some c):(uJ p)[(p.lines.take i).flatten.length+j]?=some (c,(i:Int)):=by
 have h:=aab u p.lines 0 i B
 unfold uJ
 grind
def aad{p:bZ}{c:cN}{j:Nat}(u:p.iY[j]?=some c):(uJ p)[p.lines.flatten.length+j]?=some (c,(p.lines.length:Int)+j):=by
 unfold uJ
 rw[tx (by rw[Kw];omega),Kw,G8,aac _ _ _ _ u]
def C195(y:Value)(b:Nat)(g0 g1:SV)(p:bZ)(J:Nat->hM)(Jx:hM)(w0 w:World)(hz:PS p)(hL:DL w0 (ir g0) p.lines)(hV:dD (λ_=>True) w0 (ir g1) p.iY)
  (I:∀k W,J k W->Cell W b 0 (ir g0)/\Cell W b 1 (ir g1)/\Ext w0 W) (G:∀k W M,J k W->Ext W M->J k M) (h0:J 0 w)
  (hy:∀k c i W,(uJ p)[k]?=some (c,i)->J k W->kT hH y [ir c,hZ i] W λv M=>(v=.bool true/\J (k+1) M)\/(v=.bool false/\Jx M)) :
  CR 195 [y,.pointer (some ⟨b,0,none⟩)] w (λ_ W=>J (uJ p).length W\/Jx W):=by
 obtain⟨ts,hR,hD⟩:=hL.open;have hn:=hD.1;have hzl:=hz.lines;have hzv:=hz.iY;refine fj Tryz.func195 ?_;obtain⟨Ds,vr,he0⟩:=I 0 w h0;refine aA gL (bN pk Ds (aK ql (hR.ext he0) ?_));refine⟨λm x E=>∃i:Nat,x=hZ (i:Int)/\m=p.lines.length-i/\i<=p.lines.length/\J ((p.lines.take i).flatten.length) E,⟨_,0,rfl,rfl,l0 _,h0⟩,?_⟩;rintro m _ E ⟨i,rfl,rfl,hi,B⟩ _;refine aR (aC (λc=>?_) λc=>?_)
 .obtain⟨l,hl⟩:=gx p.lines (i:=i) cO;obtain⟨t,ht⟩:=gx ts (i:=((i:Nat):Int).toNat) cO;have hdt:DL w0 (ir t) l:=hD.2 _ _ _ ht hl;have V:=DL.flat hdt;have zp:=hz.line l (kE hl);have Z:=(I _ _ B).2.2;refine aQ ql hR cO ht (λq U=>aD jT (U.ext Z) (aK iD (V.ext Z) ?_));refine⟨λm x E=>∃j:Nat,x=hZ (j:Int)/\m=l.length-j/\j<=l.length/\J ((p.lines.take i).flatten.length+j) E,⟨_,0,rfl,rfl,l0 _,B⟩,?_⟩;rintro m _ w2 ⟨j,rfl,rfl,Cm,B⟩ _;refine aR (aC (λc=>?_) λ_=>aO cO ⟨_,cO,i+1,rfl,rfl,cO,by rw[yc hl,lr,show l.length=j from cO];exact B⟩)
  obtain⟨x,O⟩:=gx l (i:=((j:Nat):Int).toNat) cO;have Y:=(I _ _ B).2.2;have u:=St.start w2;refine aQ iD V cO O (λq U=>aD mw (U.ext Y) (aN u pA λb6 _ u=>aJ (x:=x) u mw rfl rfl λw4 u=>aD mw u.At ?_));refine kT.mono (hy _ x i w4 (VF hl O) (G _ _ _ B u.aG)) ?_;rintro v w5 (⟨rfl,BO⟩|⟨rfl,IC⟩)
  .exact bT (fx (aO cO ⟨_,cO,j+1,rfl,rfl,cO,BO⟩))
  exact bT (hG (.inr IC))
 rw[show p.lines.take i=p.lines from kO cO]at B;obtain⟨Ds,vr,Z⟩:=I _ _ B;refine aA qG (bN jT vr (aK iD (hV.ext Z) ?_));refine⟨λm x E=>∃j:Nat,x=hZ (j:Int)/\m=p.iY.length-j/\j<=p.iY.length/\J (p.lines.flatten.length+j) E,⟨_,0,rfl,rfl,l0 _,B⟩,?_⟩;rintro m _ w6 ⟨j,rfl,rfl,Cm,B⟩ _;refine aR (aC (λc=>?_) λc=>?_)
 .obtain⟨x,O⟩:=gx p.iY (i:=((j:Nat):Int).toNat) cO;obtain⟨Ds,vr,Y⟩:=I _ _ B;have u:=St.start w6;refine aQ iD hV cO O (λq U=>aD mw (U.ext Y) (aN u pA λb8 _ u=>aJ (x:=x) u mw rfl rfl λw8 u=>aD mw u.At (aA gL (bN pk (Ds.ext u.aG) (aK ql (hR.ext (Y.trans u.aG)) (aO cO ?_))))));rw[hn];refine kT.mono (hy _ x _ w8 (aad O) (G _ _ _ B u.aG)) ?_;rintro v w9 (⟨rfl,BO⟩|⟨rfl,IC⟩)
  .exact bT (fx (aO cO ⟨_,cO,j+1,rfl,rfl,cO,BO⟩))
  exact bT (hG (.inr IC))
 refine .inl ?_;rw[vq]
 grind[iE]
def C115(pv:bO)(w:World):CR 115 [ir pv] w (λv w'=>∃b,v=.func (.func 195) [].toArray [.pointer (some ⟨b,0,none⟩)].toArray/\kq (bW b (j0 pv)) w w'):=by
 have u:=St.start w;refine fj Tryz.func115 ?_;exact cM u (λb _ u=>⟨b,rfl,u.fresh⟩)
def C50(p:bZ)(pv:bO)(w:World)(hp:mi w pv p)(hz:PZ p):CR 50 [ir pv] w (λv w'=>kq (bE v (cX p)) w w'):=by
 have hac:=lj hz.toPS;have pf:(uJ p).length=(iE p).length:=vq p;obtain⟨I,G,bM,aY,Z,bH,rfl,cW,dK,dB,cE,cG,cU⟩:=hp;have u:=St.start w;refine fj Tryz.func50 ?_;refine cM u (λbp _ u=>gP u ajA rfl λb3 _ u=>aD er u.p1.At (dO TH (C115 _ _) ?_));rintro _ _ ⟨b,rfl,cI⟩;have u:=(u.made cI).eK (α:=ByteArray)
 refine xD (cap:=[.pointer (some ⟨b,0,none⟩)]) (xs:=(uJ p).map λq=>[ir q.1,hZ q.2]) TI u
  (λk M=>∃sv,M=[bE sv (((iE p).take k).map cN.name),bW b (j0 (⟨I,G,bM,aY,Z,bH⟩:bO)),bW b3 [sv],bW bp (j0 (⟨I,G,bM,aY,Z,bH⟩:bO))]) (λ_ _=>False) ⟨_,rfl⟩ (by intro x U;obtain⟨q,_,rfl⟩:=ob.1 U;rfl) ?_ ?_ ?_ ?_ ?_ ?_
 .intro y J Jx W hJ O U9 hy;refine(C195 y b I G p J Jx w W hz.toPS cW (DL.flat dK) (λk W E=>?_) O U9 λk c i W U E=>hy k [ir c,hZ i] W (by rw[o1,U];rfl) E).mono λ_ _ r=>r.mono λv W' h=>?_
  .obtain⟨Y,M,⟨sv,rfl⟩,V⟩:=hJ k W E;exact⟨V.p2.hb.cell rfl,V.p2.hb.cell rfl,V.aG⟩
  simpa using h
 .rintro k args Y1 Y2 B Kr M W E ⟨sv,rfl⟩ hB hN hR u;rw[o1]at E;obtain⟨q,hq,rfl⟩:=H5.1 E;have ot:=(kB.1 hq).1;have hc:(iE p)[k]?=some q.1:=by rw[<- BQ,o1,hq];rfl
  have D1:(((iE p).take k).map cN.name).length=k:=by rw[nc,l1];omega
  dsimp only[EY];refine aN u pA (λb4 _ u=>aJ (x:=q.1) u mw rfl rfl λ_ u=>?_);refine hB _ _ _ u.p1 (λ_ u=>?_);refine aB jq u.p4.hb rfl (aA kZ (aB (v:=.string q.1.name) gK u.p1.hb rfl (aV ([cN.name q.1]) u iK rfl rfl (dQ rfl) λs8 _ u=>?_)));have hr:=u.dW;refine bI u.p3 iK hr (by rw[D1,l2];omega) ee (λs9 _ u=>aT u.p5 jq (dQ rfl) (Kj u.dW) λ_ u=>?_);refine hN _ _ ?_ ⟨s9,rfl⟩;rw[<- gy (k:=k) hc];exact u.p2.drop.p3.drop.p3.p2.p3
 .rintro D M W ⟨sv,rfl⟩ u;refine aB jq u.p3.hb rfl ?_;refine Ff u (λ_ u=>?_);rw[nc,pf,aaS]at u;exact u.p1.drop.p1.drop.p1.drop.fresh
 .rintro D M W h;exact h.elim
 .rintro id D M W h;exact h.elim
 rintro c M h;exact h.elim
def C55(p:bZ)(pv:bO)(w:World)(hp:mi w pv p)(hz:PZ p):CR 55 [ir pv] w (λv w'=>kq (bE v (eV p)) w w'):=by
 have hac:=lj hz.toPS;have pf:(uJ p).length=(iE p).length:=vq p;obtain⟨I,G,bM,aY,Z,bH,rfl,cW,dK,dB,cE,cG,cU⟩:=hp;have u:=St.start w;refine fj Tryz.func55 ?_;refine cM u (λbp _ u=>gP u ajz rfl λb3 _ u=>aD er u.p1.At (dO TH (C115 _ _) ?_));rintro _ _ ⟨b,rfl,cI⟩;have u:=(u.made cI).eK (α:=Int)
 refine xD (cap:=[.pointer (some ⟨b,0,none⟩)]) (xs:=(uJ p).map λq=>[ir q.1,hZ q.2]) TI u
  (λk M=>∃sv,M=[bE sv (((iE p).take k).map cN.n),bW b (j0 (⟨I,G,bM,aY,Z,bH⟩:bO)),bW b3 [sv],bW bp (j0 (⟨I,G,bM,aY,Z,bH⟩:bO))]) (λ_ _=>False) ⟨_,rfl⟩ (by intro x U;obtain⟨q,_,rfl⟩:=ob.1 U;rfl) ?_ ?_ ?_ ?_ ?_ ?_
 .intro y J Jx W hJ O U9 hy;refine(C195 y b I G p J Jx w W hz.toPS cW (DL.flat dK) (λk W E=>?_) O U9 λk c i W U E=>hy k [ir c,hZ i] W (by rw[o1,U];rfl) E).mono λ_ _ r=>r.mono λv W' h=>?_
  .obtain⟨Y,M,⟨sv,rfl⟩,V⟩:=hJ k W E;exact⟨V.p2.hb.cell rfl,V.p2.hb.cell rfl,V.aG⟩
  simpa using h
 .rintro k args Y1 Y2 B Kr M W E ⟨sv,rfl⟩ hB hN hR u;rw[o1]at E;obtain⟨q,hq,rfl⟩:=H5.1 E;have ot:=(kB.1 hq).1;have hc:(iE p)[k]?=some q.1:=by rw[<- BQ,o1,hq];rfl
  have D1:(((iE p).take k).map cN.n).length=k:=by rw[nc,l1];omega
  dsimp only[EY];refine aN u pA (λb4 _ u=>aJ (x:=q.1) u mw rfl rfl λ_ u=>?_);refine hB _ _ _ u.p1 (λ_ u=>?_);refine aB ey u.p4.hb rfl (aA sJ (aB (v:=hZ q.1.n) bL u.p1.hb rfl (aV ([cN.n q.1]) u cS rfl rfl (dQ rfl) λs8 _ u=>?_)));have hr:=u.dW;refine bI u.p3 cS hr (by rw[D1,l2];omega) ee (λs9 _ u=>aT u.p5 ey (dQ rfl) (Kj u.dW) λ_ u=>?_);refine hN _ _ ?_ ⟨s9,rfl⟩;rw[<- gy (k:=k) hc];exact u.p2.drop.p3.drop.p3.p2.p3
 .rintro D M W ⟨sv,rfl⟩ u;refine aB ey u.p3.hb rfl ?_;refine Ff u (λ_ u=>?_);rw[nc,pf,aaS]at u;exact u.p1.drop.p1.drop.p1.drop.fresh
 .rintro D M W h;exact h.elim
 .rintro id D M W h;exact h.elim
 rintro c M h;exact h.elim
theorem TL:∀(vs:List cN) (k:Int) (j:Nat) (q:cN×Int),(Pn k vs)[j]?=some q->q.2=k+j
 | [],_,_,_,h=>by simp[Pn]at h
 | c::r,k,0,q,h=>by simp[Pn]at h;grind
 | c::r,k,j+1,q,h=>by
  have:=TL r (k+1) j q (by simpa[Pn]using h)
  omega
theorem NF(vs:List cN):∀(ls:List (List cN)) (i:Int) (a:Nat) (q:cN×Int),(Q7 i ls++Pn (i+ls.length) vs)[a]?=some q->jy ls i a=q.2
 | [],i,a,q,h=>by
  have:=TL vs (i+0) a q (by simpa[Q7]using h)
  unfold jy;omega
 | l::r,i,a,q,h=>by
  unfold jy
  by_cases u:a<l.length
  .rw[ew cO]
   rw[Q7,nK,u3 dI,o1]at h
   grind
  .rw[ej cO]
   rw[Q7,nK,tx (by simp;omega),nc]at h
   have e:(i+((l::r).length:Nat):Int)=i+1+(r.length:Nat):=dI
   rw[e]at h
   have:=NF vs r (i+1) (a-l.length) q h
   grind
theorem aaf{p:bZ}{k:Nat}{q:cN×Int}(h:(uJ p)[k]?=some q):qd p k=q.2:=by
 have u:=(kB.1 h).1
 rw[vq]at u
 unfold qd
 rw[ej cO]
 exact NF p.iY p.lines 0 k q (by unfold uJ at h;grind)
def C52(p:bZ)(pv:bO)(c:Int)(w:World)(hp:mi w pv p)(hz:PZ p):CR 52 [ir pv,hZ c] w (λv w'=>v=hZ (qd p c)/\Ext w w'):=by
 have hac:=lj hz.toPS;have pf:(uJ p).length=(iE p).length:=vq p;obtain⟨O,I,bM,aY,aZ,bH,rfl,cW,dK,dB,cE,cG,cU⟩:=hp;have u:=St.start w;refine fj Tryz.func52 ?_;refine cM u (λbp _ u=>nQ u rfl λb3 _ u=>gP u u0 rfl λb4 _ u=>gP u u0 rfl λb5 _ u=>aT u bL (dQ rfl) rfl λ_ u=>aD er u.p3.At (dO TH (C115 _ _) ?_));rintro _ _ ⟨b,rfl,cI⟩;have u:=u.made cI
 refine xD (cap:=[.pointer (some ⟨b,0,none⟩)]) (xs:=(uJ p).map λq=>[ir q.1,hZ q.2]) TI u
  (λk M=>(∀j:Nat,j<k->¬ (j:Int)=c)/\M=[bW b (j0 (⟨O,I,bM,aY,aZ,bH⟩:bO)),bW b5 [hZ (k:Int)],bW b4 [hZ 0],bW b3 [hZ c],bW bp (j0 (⟨O,I,bM,aY,aZ,bH⟩:bO))])
  (λcd M=>cd=.ret/\M=[bW b4 [hZ (qd p c)]]) ⟨cO,rfl⟩ (by intro x V;obtain⟨q,_,rfl⟩:=ob.1 V;rfl) ?_ ?_ ?_ ?_ ?_ ?_
 .intro y J Jx W hJ U U9 hy;refine(C195 y b O I p J Jx w W hz.toPS cW (DL.flat dK) (λk W E=>?_) U U9 λk c i W V E=>hy k [ir c,hZ i] W (by rw[o1,V];rfl) E).mono λ_ _ r=>r.mono λv W' h=>?_
  .obtain⟨Y,M,⟨_,rfl⟩,Z⟩:=hJ k W E;exact⟨Z.p1.hb.cell rfl,Z.p1.hb.cell rfl,Z.aG⟩
  simpa using h
 .rintro k args Y1 Y2 B Kr M W E ⟨G,rfl⟩ hB hN hR u;rw[o1]at E;obtain⟨q,hq,rfl⟩:=H5.1 E;have ot:=(kB.1 hq).1;dsimp only[EY];refine hB _ _ _ u (λ_ u=>?_);refine aB bL u.p2.hb rfl (aB bL u.p4.hb rfl (aH (aC (λc1=>?_) λc1=>aB bL u.p2.hb rfl (aO cO (aT u.p2 bL (dQ rfl) rfl λ_ u=>hN _ _ u.p2.p2.p0 ⟨λj hj=>?_,rfl⟩)))))
  .refine aT u.p3 bL (dQ rfl) rfl (λ_ u=>?_);refine hR _ [bW b4 [hZ (qd p c)]] _ ?_ ⟨rfl,rfl⟩;rw[<- c1,aaf hq];exact u.p2.drop.p2.drop.p2.drop.p2.drop.p1
  rcases P5 j k with h|h
  .exact G j h
  rw[show j=k from cO];exact c1
 .rintro D M W ⟨G,rfl⟩ u;refine aT u.p3 bL (dQ rfl) rfl (λ_ u=>?_);refine Ff u.p1 (λ_ u=>?_);refine aB bL u.hb rfl ?_;refine⟨g6 (nG .i64) ?_,u.aG⟩;unfold qd;rw[nc]at G
  rw[ew (by
   rcases Int.lt_or_le c 0 with h|h
   .exact .inl h
   .refine .inr ?_;have:=G c.toNat;omega)]
 .rintro D M W ⟨_,rfl⟩ u;refine Ff u (λ_ u=>?_);exact aB bL u.hb rfl ⟨rfl,u.aG⟩
 .rintro id D M W ⟨h,_⟩;cases h
 rintro c M ⟨h,_⟩;exact .inr h
variable (w:World) (K:Value->hM)
def azp:dM:=λi=>match i with
 | 22=>.run 0 6
 | _=>.nil
theorem asl:PL 107:=dR Tryz.func107
theorem aag:PL 176:=dR Tryz.func176
end Go.Proofs.YtpdlpabnlkofmaaGreatDoor
namespace Go.Fw
open Go.MapKept (Stamped IsKey)
open Go.ChangeMaps (setBlock)
def Aw(l:List SI)(k:ByteArray)(v:Int):List SI:=if l.any (λp=>decide (p.1=k))then l.map (λp=>if p.1=k then(k,v)else p)else l++[(k,v)]
theorem ID:∀(l:List SI) (k u:ByteArray) (v:Int),(∀p∈l,p.1≠k)->eP (l++[(k,v)]) u=if k=u then v else eP l u
 | [],k,u,v,_=>rfl
 | p::r,k,u,v,h=>by
  have B:=ID r k u v (λq E=>h q (qo _ E))
  have G:=h p (oj ..)
  show(if p.1=u then p.2 else eP (r++[(k,v)]) u)=_
  rw[B]
  show _=if k=u then v else(if p.1=u then p.2 else eP r u)
  grind
theorem CY:∀(l:List SI) (k u:ByteArray) (v:Int),l.any (λp=>decide (p.1=k))=true->eP (l.map λp=>if p.1=k then(k,v)else p) u=if k=u then v else eP l u
 | [],_,_,_,h=>by simp at h
 | p::r,k,u,v,h=>by
  rw[Lp]
  by_cases h1:p.1=k
  .rw[ew h1]
   show(if k=u then v else eP (r.map _) u)=if k=u then v else(if p.1=u then p.2 else eP r u)
   by_cases h2:k=u
   .grind
   .rw[ej h2,ej h2,ej λe=>h2 (h1.symm.trans e)]
    by_cases h3:r.any (λp=>decide (p.1=k))=true
    .rw[CY r k u v h3,ej h2]
    .congr 1
     have:∀q∈r,q.1≠k:=λq B e=>h3 (wS.2 ⟨q,B,ez e⟩)
     conv=>rhs;rw[<- List.map_id r]
     exact BP λq B=>ej (this q B)
  .rw[ej h1]
   have h3:r.any (λp=>decide (p.1=k))=true:=by
    grind
   show(if p.1=u then p.2 else eP (r.map _) u)=if k=u then v else(if p.1=u then p.2 else eP r u)
   rw[CY r k u v h3]
   grind
theorem CZ(l:List SI)(k u:ByteArray)(v:Int):eP (Aw l k v) u=if k=u then v else eP l u:=by
 unfold Aw
 by_cases h:l.any (λp=>decide (p.1=k))=true
 .rw[ew h,CY l k u v h]
 rw[ej h,ID l k u v λp B e=>h (wS.2 ⟨p,B,ez e⟩)]
def afn{l:List SI}{k:ByteArray}{v:Int}(h:∀p∈l,p.2≠0)(B:v≠0):∀p∈Aw l k v,p.2≠0:=by
 intro p u
 unfold Aw at u
 grind
section
variable {P:Program}{w w0 w':World}{A:Nat->Prop}{L:List HP}{b:Nat}{l:List SI}
theorem aah{T J E:TypeId}{v:Int}{k:ByteArray}(h:vj w b l)(ht:P.underlying T=some (.map J E))(O:P.underlying J=some .string) :
  ∃w',(xP T (.map (some b)) (.string k) (hZ v)).run P w=.ok () w'/\gJ (· = b) w w'/\vj w' b (Aw l k v):=by
 by_cases eO:∀p∈l,p.1≠k
 .have:l.any (λp=>decide (p.1=k))=false:=by
   grind
  unfold Aw
  rw[ej dI]
  exact Na h ht O eO
 have U:l.any (λp=>decide (p.1=k))=true:=by
  grind
 unfold Aw
 rw[ew U]
 have ot:=h.lt
 obtain⟨es,c,h1,h2,h3⟩:=h
 have hc:=MapKept.run_checkKey (P:=P) (w:=w) (kt:=J) (k:=.string k) O (by simp[IsKey]) false 9999
 rcases MapKept.findNow_spec (d:=.string) (k:=.string k) (by simp[IsKey]) es.toList 0 (λx I=>by obtain⟨p,_,e,_⟩:=Y4 h3 I;rw[e];simp[IsKey])with⟨W,g2⟩|⟨j,e,W,g2,g4⟩
 .obtain⟨p,V,he⟩:=wS.1 U
  obtain⟨x,I,e1,_⟩:=Y5 h3 V
  grind
 have Y:=MapKept.run_findKey (P:=P) (w:=w) O W
 rw[Nat.zero_add]at Y
 have Z:es[j]?=some e:=dI
 have jd:(Pd e.key (.string k)).run P w=.ok (.string k) w:=by
  have wN:(k == k)=true:=by cases k with|mk d=>exact beq_self_eq_true d
  rw[g4];unfold Pd;simp[Instr.sameBits,wN]
 refine⟨_,?_,gJ.setBlock w b (.map (es.modify j λe=>{e with key:=.string k,val:=hZ v}) c),?_⟩
 .simp[xP,run_underlying ht,MapKept.run_getObj_map h1,hc,Y,oL h1,Result.andThen,Z,jd]
 have Lw:∀u,es[j]?=some u->({u with key:=.string k,val:=hZ v}:MapEntry).key=u.key:=λu B=>by
  grind
 refine⟨_,_,kz _ ot,MapKept.stamped_modify h2 j _ (λ_ _=>rfl) (λu _ B=>Lw u B),?_⟩
 let g:Value×Value->Value×Value:=λq=>match q.1 with|.string s=>if s=k then(.string k,hZ v)else q|_=>q
 have hg:(es.modify j λe=>{e with key:=.string k,val:=hZ v}).toList.map (λe=>(e.key,e.val))=(es.toList.map λe=>(e.key,e.val)).map g:=by
  apply List.ext_getElem?
  intro i
  simp only[o1,Array.getElem?_toList,Array.getElem?_modify]
  by_cases M:j=i
  .grind
  .rw[ej M]
   cases I:es[i]? with
   | none=>rfl
   | some x=>
    have Hn:x.key≠.string k:=λhxk=>by
     have hi:=(Fu.1 I)
     have hj:=(Fu.1 Z)
     obtain⟨hi1,Xb⟩:=hi
     obtain⟨hj1,BO⟩:=hj
     have V:=Td.1 h2.2.2
     grind
    grind
 have hl:(l.map λp=>if p.1=k then(k,v)else p).map Tl=(l.map Tl).map g:=by
  rw[H4,H4]
  refine BP λp _=>?_
  show Tl (if p.1=k then(k,v)else p)=g (Tl p)
  by_cases G:p.1=k
  .rw[ew G];simp[g,Tl,G]
  .rw[ej G];simp[g,Tl,G]
 grind
theorem aai{T B E:TypeId}{v:Int}{k:ByteArray}{K:hM}(I:St w0 A (Fw.nJ b l::L) w)(ht:P.underlying T=some (.map B E))(u:P.underlying B=some .string)
  (J:∀w',St w0 A (Fw.nJ b (Aw l k v)::L) w'->K w'):WY P (xP T (.map (some b)) (.string k) (hZ v)) w K:=by
 obtain⟨w',h1,h2,h3⟩:=aah (P:=P) (v:=v) (k:=k) I.nJ ht u
 exact⟨w',h1,J w' (I.rV λF G=>⟨F,⟨h3,G.2⟩,λb hb=>.inl hb,h2.mono λk u=>(G.2 k).2 u⟩)⟩
end
end Go.Fw
namespace Go.Proofs.YtpdlpabnlkofmaaGreatDoor
open Go.Fw
def tj(b3 b4 B u:Nat)(l:List SI)(tw:Bool)(a:Int):HP:=sep (bW b3 [.map (some u)]) (sep (bW b4 [.bool tw]) (sep (bW B [hZ a]) (nJ u l)))
def tj.shut{w0 w:World}{A:Nat->Prop}{L:List HP}{b3 b4 B u:Nat}{l:List SI}{tw:Bool}{a:Int}(E:St w0 A (nJ u l::bW B [hZ a]::bW b4 [.bool tw]::bW b3 [.map (some u)]::L) w):St w0 A (tj b3 b4 B u l tw a::L) w:=
 St.join (St.join (St.join E.p1).p1).p1
def tj.open{w0 w:World}{A:Nat->Prop}{L:List HP}{b3 b4 B u:Nat}{l:List SI}{tw:Bool}{a:Int}(E:St w0 A (tj b3 b4 B u l tw a::L) w):St w0 A (nJ u l::bW B [hZ a]::bW b4 [.bool tw]::bW b3 [.map (some u)]::L) w:=
 E.split.p1.split.p1.split.p1
def atN(l:List SI)(name:ByteArray)(tw:Bool)(place a:Int):Int:=if eP l name≠0/\tw=false then place else a
def twN(l:List SI)(name:ByteArray)(tw:Bool):Bool:=tw||decide (eP l name≠0)
theorem C176(name:ByteArray)(B place:Int)(b3 b4 G E:Nat)(l:List SI)(tw:Bool)(a:Int)(F:Nat->Prop)(w:World)(M:(tj b3 b4 G E l tw a).p w F) :
  CR 176 [.string name,hZ B,hZ place,.pointer (some ⟨b3,0,none⟩),.pointer (some ⟨b4,0,none⟩),.pointer (some ⟨G,0,none⟩)] w (λv w'=>v=.tuple #[]/\nd F (tj b3 b4 G E (Aw l name B) (twN l name tw) (atN l name tw place a)) w w'):=by
 have u:=tj.open (St.begin M);refine fj Tryz.func176 ?_;refine⟨λw'=>St w F [nJ E l,bW G [hZ (atN l name tw place a)],bW b4 [.bool (twN l name tw)],bW b3 [.map (some E)]] w',⟨λO w'=>O=.bool (decide (eP l name≠0)&&!tw)/\w'=w,aB Ig u.p3.hb rfl (yR u.nJ Tryz.underlying165 Tryz.underlying9 u0 (bQ (aC (λc=>aB A6 u.p2.hb rfl (bT ⟨vb (by rw[ez c,Av]),rfl⟩)) λc=>⟨vb (by rw[fV c,SE]),rfl⟩))),?_⟩,?_⟩
 .rintro _ _ ⟨rfl,rfl⟩ _;refine bD (λc=>?_) (λc=>?_)
  .have hc:eP l name≠0/\tw=false:=by simpa using c
   refine aT u.p1 bL (dQ rfl) rfl (λ_ u=>aT u.p2 A6 (dQ rfl) rfl λ_ u=>?_);have J:atN l name tw place a=place:=ew hc;have I:twN l name tw=true:=by unfold twN;rw[ez hc.1,Bool.or_true]
   rw[J,I];exact u.p1.p2
  have hc:¬ (eP l name≠0/\tw=false):=by simpa using c
  have J:atN l name tw place a=a:=ej hc
  have I:twN l name tw=tw:=by
   unfold twN;cases tw with
   | true=>rfl
   | false=>rw[Bool.false_or];exact fV λh=>hc ⟨h,rfl⟩
  rw[J,I];exact u
 rintro _ u _;exact aB Ig u.p3.hb rfl (aai u Tryz.underlying165 Tryz.underlying9 λ_ u=>⟨rfl,(tj.shut u).mut⟩)
def nmF(st:List SI×Bool×Int)(q:ByteArray×Int×Int):List SI×Bool×Int:=(Aw st.1 q.1 q.2.1,twN st.1 q.1 st.2.1,atN st.1 q.1 st.2.1 q.2.2 st.2.2)
def DD(p:bZ)(i:Int):Int:=if (p.lines.length:Int)<=i then 2 else 1
def Xc(p:bZ):List (ByteArray×Int×Int):=(uJ p).map λq=>(q.1.name,DD p q.2,q.1.at_)
def VH(p:bZ):List (ByteArray×Int×Int):=p.eS.map λc=>(c.name,3,c.at_)
def Xd(p:bZ):List (ByteArray×Int×Int):=p.threads.map λt=>(t.name,4,t.at_)
def AN(l:List (ByteArray×Int×Int))(st:List SI×Bool×Int):List SI×Bool×Int:=l.foldl nmF st
def DE(p:bZ):List SI×Bool×Int:=AN (Xd p) (AN (VH p) (AN (Xc p) ([],false,0)))
theorem Gm{l:List (ByteArray×Int×Int)}{st:List SI×Bool×Int}{k:Nat}{q:ByteArray×Int×Int}(h:l[k]?=some q):AN (l.take (k+1)) st=nmF (AN (l.take k) st) q:=by
 unfold AN;rw[<- gX h,List.foldl_append];rfl
abbrev NO(b3 b4 B u:Nat)(st:List SI×Bool×Int):HP:=tj b3 b4 B u st.1 st.2.1 st.2.2
def C107(p:bZ)(pv:bO)(w:World)(hp:mi w pv p)(hz:PZ p):CR 107 [ir pv] w (λv w'=>∃G,v=.tuple #[.map (some G),hZ (DE p).2.2,.bool (DE p).2.1]/\kq (nJ G (DE p).1) w w'):=by
 have hac:=lj hz.toPS;have pf:(uJ p).length=(iE p).length:=vq p;have hzl:=hz.lines;have hzk:=hz.eS;have hzt:=hz.threads;obtain⟨O,U,Z,V,aZ,bH,rfl,cW,dK,dB,cE,cG,cU⟩:=hp;obtain⟨YE,hR1,hD1⟩:=cW.open;have YF:=hD1.1;obtain⟨v8,Z5,Z6⟩:=cE.open;have hn3:=Z6.1;have hKr:=DL.flat dB;have u:=St.start w;refine pj Tryz.func107 (pl:=azp) ?_;refine cM u (λbp w1 u=>Nb u λG _ u=>gP u SW rfl λb3 _ u=>aT u Ig (dQ rfl) rfl λ_ u=>gP u u0 rfl λE _ u=>gP u XX rfl λb4 _ u=>aT u A6 (dQ rfl) rfl λ_ u=>gP u ad6 rfl λb8 _ u=>aT u S0 (dQ rfl) rfl λ_ u=>aD er u.p5.At (have u:=tj.shut (a:=0) (tw:=false) u.p3.p2.p3.p4;dO TH (C115 _ _) ?_))
 rintro _ _ ⟨b,rfl,cI⟩;have u:=u.made cI
 refine xD (cap:=[.pointer (some ⟨b,0,none⟩)]) (xs:=(uJ p).map λq=>[ir q.1,hZ q.2]) TI u
  (λk M=>M=[bW b (j0 (⟨O,U,Z,V,aZ,bH⟩:bO)),NO b3 b4 E G (AN ((Xc p).take k) ([],false,0)),bW b8 [(.func (.func 176) [].toArray [.pointer (some ⟨b3,0,none⟩),.pointer (some ⟨b4,0,none⟩),.pointer (some ⟨E,0,none⟩)].toArray)],bW bp (j0 (⟨O,U,Z,V,aZ,bH⟩:bO))]) (λ_ _=>False) rfl (by intro x hx;obtain⟨q,_,rfl⟩:=ob.1 hx;rfl) ?_ ?_ ?_ ?_ ?_ ?_
 .intro y J Jx W hJ hJe U9 hy;refine(C195 y b O U p J Jx w W hz.toPS cW (DL.flat dK) (λk W I=>?_) hJe U9 λk c i W hx I=>hy k [ir c,hZ i] W (by rw[o1,hx];rfl) I).mono λ_ _ r=>r.mono λv W' h=>?_
  .obtain⟨Y,M,rfl,hS⟩:=hJ k W I;exact⟨hS.p1.hb.cell rfl,hS.p1.hb.cell rfl,hS.aG⟩
  simpa using h
 .rintro k args Y1 Y2 B Kr M W I rfl hB hN hR u;rw[o1]at I;obtain⟨q,hq,rfl⟩:=H5.1 I;have hc:(Xc p)[k]?=some (q.1.name,DD p q.2,q.1.at_):=by unfold Xc;rw[o1,hq];rfl
  dsimp only[EY];refine aN u pA (λb9 _ u=>aJ (x:=q.1) u mw rfl rfl λ_ u=>?_);refine hB _ _ _ u.p1 (λTM u=>?_);refine⟨λjv w'=>jv=hZ (DD p q.2)/\w'=TM,aA gL (aB (v:=ir O) pk u.p5.hb rfl (aK ql (hR1.ext u.aG) (cT (aC (λ_=>⟨g6 (nG .i64) (ew cO).symm,rfl⟩) λ_=>⟨g6 (nG .i64) (ej cO).symm,rfl⟩)))),?_⟩;rintro _ _ ⟨rfl,rfl⟩ _;refine aB S0 u.p4.hb rfl (aA kZ (aB (v:=.string q.1.name) gK u.p1.hb rfl (aA va (aB (v:=hZ q.1.at_) bL u.p1.hb rfl (BD (first:=[]) (cap:=[.pointer (some ⟨b3,0,none⟩),.pointer (some ⟨b4,0,none⟩),.pointer (some ⟨E,0,none⟩)]) (H':=λ_=>NO b3 b4 E G (nmF (AN ((Xc p).take k) ([],false,0)) (q.1.name,(DD p q.2),q.1.at_))) (Φ:=λv _=>v=.tuple #[]) aag u.p3 (λF hF _=>C176 q.1.name (DD p q.2) q.1.at_ b3 b4 E G _ _ _ F _ hF) λv _ _ u=>?_)))))
  refine hN _ _ ?_ rfl;rw[Gm hc];exact u.p2.drop.p2.p2
 .rintro D M W rfl u;rw[nc,show(Xc p).take (uJ p).length=Xc p from kO (by unfold Xc;rw[nc];exact o6 _)]at u;obtain⟨s0,hs0⟩:∃s,s=AN (Xc p) ([],false,0):=⟨_,rfl⟩;rw[<- hs0]at u;refine aA ou (aB (v:=ir Z) jT u.p4.hb rfl (aK iD (hKr.ext u.aG) ?_));refine⟨λm x w1=>∃k:Nat,x=hZ (k:Int)/\m=p.eS.length-k/\k<=p.eS.length/\St w aX [nX D (.deferred (some [])),bW b (j0 (⟨O,U,Z,V,aZ,bH⟩:bO)),NO b3 b4 E G (AN ((VH p).take k) s0),bW b8 [(.func (.func 176) [].toArray [.pointer (some ⟨b3,0,none⟩),.pointer (some ⟨b4,0,none⟩),.pointer (some ⟨E,0,none⟩)].toArray)],bW bp (j0 (⟨O,U,Z,V,aZ,bH⟩:bO))] w1,⟨_,0,rfl,rfl,l0 _,(by rw[show AN ((VH p).take 0) s0=s0 from rfl];exact u)⟩,?_⟩
  rintro m _ _ ⟨k,rfl,rfl,I,u⟩ _;refine aR (aC (λc=>?_) λc=>?_)
  .obtain⟨x,hx⟩:=gx p.eS (i:=((k:Nat):Int).toNat) cO;have hx':p.eS[k]?=some x:=hx;have hc:(VH p)[k]?=some (x.name,3,x.at_):=by unfold VH;rw[o1,hx'];rfl
   refine aQ iD hKr cO hx (λq hq=>aD mw (hq.ext u.aG) (aN u pA λb9 _ u=>aJ (x:=x) u mw rfl rfl λ_ u=>aB S0 u.p4.hb rfl (aA kZ (aB (v:=.string x.name) gK u.hb rfl (aA va (aB (v:=hZ x.at_) bL u.hb rfl (BD (first:=[]) (cap:=[.pointer (some ⟨b3,0,none⟩),.pointer (some ⟨b4,0,none⟩),.pointer (some ⟨E,0,none⟩)]) (H':=λ_=>NO b3 b4 E G (nmF (AN ((VH p).take k) s0) (x.name,3,x.at_))) (Φ:=λv _=>v=.tuple #[]) aag u.p3 (λF hF _=>C176 x.name 3 x.at_ b3 b4 E G _ _ _ F _ hF) λv _ _ u=>aO cO ?_)))))));refine⟨_,cO,k+1,rfl,rfl,cO,?_⟩
   rw[Gm hc];exact u.p1.drop.p2.p2
  rw[show(VH p).take k=VH p from kO (by unfold VH;rw[nc];omega)]at u;obtain⟨s1,VI⟩:∃s,s=AN (VH p) s0:=⟨_,rfl⟩;rw[<- VI]at u;refine aA kR (aB (v:=ir V) iJ u.p4.hb rfl (aK fF (Z5.ext u.aG) ?_));refine⟨λm x w1=>∃k:Nat,x=hZ (k:Int)/\m=v8.length-k/\k<=v8.length/\St w aX [nX D (.deferred (some [])),bW b (j0 (⟨O,U,Z,V,aZ,bH⟩:bO)),NO b3 b4 E G (AN ((Xd p).take k) s1),bW b8 [(.func (.func 176) [].toArray [.pointer (some ⟨b3,0,none⟩),.pointer (some ⟨b4,0,none⟩),.pointer (some ⟨E,0,none⟩)].toArray)],bW bp (j0 (⟨O,U,Z,V,aZ,bH⟩:bO))] w1,⟨_,0,rfl,rfl,l0 _,(by rw[show AN ((Xd p).take 0) s1=s1 from rfl];exact u)⟩,?_⟩
  rintro m _ _ ⟨k,rfl,rfl,I,u⟩ _;refine aR (aC (λc=>?_) λc=>?_)
  .obtain⟨t,ht⟩:=gx v8 (i:=((k:Nat):Int).toNat) cO;obtain⟨r,hr⟩:=gx p.threads (i:=k) cO;obtain⟨gr,gb,rfl,_,_⟩:=Z6.2 _ _ _ ht hr;have hc:(Xd p)[k]?=some (r.name,4,r.at_):=by unfold Xd;rw[o1,hr];rfl
   refine aQ fF Z5 cO ht (λq hq=>aD ny (hq.ext u.aG) (aN u ud λb9 _ u=>aJ u ny rfl rfl λ_ u=>aB S0 u.p4.hb rfl (aA qR (aB (v:=.string r.name) gK u.hb rfl (aA qS (aB (v:=hZ r.at_) bL u.hb rfl (BD (first:=[]) (cap:=[.pointer (some ⟨b3,0,none⟩),.pointer (some ⟨b4,0,none⟩),.pointer (some ⟨E,0,none⟩)]) (H':=λ_=>NO b3 b4 E G (nmF (AN ((Xd p).take k) s1) (r.name,4,r.at_))) (Φ:=λv _=>v=.tuple #[]) aag u.p3 (λF hF _=>C176 r.name 4 r.at_ b3 b4 E G _ _ _ F _ hF) λv _ _ u=>aO cO ?_)))))));refine⟨_,cO,k+1,rfl,rfl,cO,?_⟩
   rw[Gm hc];exact u.p1.drop.p2.p2
  rw[show(Xd p).take k=Xd p from kO (by unfold Xd;rw[nc];omega),VI,hs0]at u;have u:=tj.open u.drew.p2;refine aB Ig u.p3.hb rfl (aB bL u.p1.hb rfl (aB A6 u.p2.hb rfl ?_));refine Ff u.p4 (λ_ u=>?_);exact⟨G,rfl,u.p1.drop.p1.drop.p1.drop.p1.drop.p1.drop.p1.drop.fresh⟩
 .rintro D M W h;exact h.elim
 .rintro id D M W h;exact h.elim
 rintro c M h;exact h.elim
def we(G:ByteArray)(u:Int)(E:Option Addr)(B I:Nat):pr hH (Instr.build 177 [(0,.string G),(1,hZ u),(2,.slice E B I)].toArray)=some (.agg [.string G,hZ u,.slice E B I].toArray):=by kernel_rfl
structure Kz where
 name:ByteArray
 at_:Int
 may:SV
instance:Flat Kz where
 agg:=true
 sz:=3
 enc e:=[.string e.name,hZ e.at_,.slice e.may.a e.may.n e.may.cap]
 val e:=.agg [.string e.name,hZ e.at_,.slice e.may.a e.may.n e.may.cap].toArray
 pos:=ee
 len _:=rfl
 one a v h:=by simp at h;rcases h with rfl|rfl|rfl<;>rfl
 oE _ _:=rfl
 oF h:=by cases h
variable (w:World) (K:Value->hM)
theorem air:PL 193:=dR Tryz.func193
theorem aso:PL 113:=dR Tryz.func113
theorem asp:PL 192:=dR Tryz.func192
end Go.Proofs.YtpdlpabnlkofmaaGreatDoor
namespace Go.Fw
def Q8:List Nat->HP
 | []=>dZ λ_=>True
 | D::r=>sep (nX D (.deferred (some []))) (Q8 r)
def afp(P:Program)(w0:World)(A:Nat->Prop)(I:Nat->List HP->Prop)(B:hM)(y:Value)(E:Nat->List Value->(hM)->Prop):Prop:=
 ∀k args Φ W (R:HP) L,E k args Φ->(∀F u,R.p u F->Φ u)->I k L->St w0 A (R::L) W->kT P y args W (λv u=>(v=.bool true/\∃L',I (k+1) L'/\St w0 A (R::L') u)\/(v=.bool false/\B u))
section
variable {P:Program}{w w0 w':World}{A:Nat->Prop}{L:List HP}
theorem Q8.nil(u:St w0 A L w):St w0 A (Q8 []::L) w:=u.fk λ_=>trivial
theorem Q8.take{K:hM}:∀(ds:List Nat) {w:World},St w0 A (Q8 ds::L) w->(∀w',St w0 A L w'->K w')->ng ds w K
 | [],_,u,k=>k _ u.drop
 | D::r,_,u,k=>by
  have h1:=u.split
  exact⟨h1.obj,Q8.take r (h1.putObj _).drop k⟩
theorem aak{Z np:Nat}{cap:List Value}(n:Nat)(Ar:Nat->List Value->(hM)->Prop){round:List Value->World->(World->(hM)->Prop)->(Option Code->hM)->Prop}
  {N R:Nat->hM}{X:Nat->Nat->hM}(pl:Plain P Z) (hs:St w0 A L w) (I:Nat->List HP->Prop) (U:Code->List HP->Prop) (h0:I 0 L) (hnp:∀k a Φ,Ar k a Φ->a.length=np)
  (hgf:∀(y:Value) (Y:HP) (Jx:hM) (W:World),(∃M,I 0 M/\St w0 A (Y::M) W)->afp P w0 A (λk L=>∃M,I k M/\L=Y::M) Jx y Ar->
   Calls P Z ([y]++cap).toArray W (tQ λ_ O=>(∃M,I n M/\St w0 A (Y::M) O)\/Jx O))
  (EZ:∀k args Φ (Y1 Y2:HP) (B:World->(hM)->Prop) (Kr:Option Code->hM) M W,Ar k args Φ->I k M->(∀F O,Y2.p O F->Φ O)->
   (∀M u (kk:hM),St w0 A (Y1::M) u->(∀w2,St w0 A (Y2::M) w2->kk w2)->B u kk)->
   (∀M u,St w0 A (Y2::M) u->I (k+1) M->Kr none u)->(∀c M u,St w0 A (Y2::M) u->U c M->Kr (some c) u)->
   St w0 A (Y1::M) W->round args W B Kr)
  (Yj:∀D M W,I n M->St w0 A (nX D (.deferred (some []))::M) W->N D W)
  (ajB:∀D M W,U .ret M->St w0 A (nX D (.deferred (some []))::M) W->R D W)
  (Yk:∀id D M W,U (.exit id) M->St w0 A (nX D (.deferred (some []))::M) W->X id D W)
  (Qf:∀c M,U c M->(∃id,c=.exit id)\/c=.ret) :
  AY P (.func (.func Z) #[] cap.toArray) np w round (aft N R X):=by
 refine⟨Z,cap.toArray,rfl,pl,λG jd Cn hy=>?_⟩
 obtain⟨l,hl⟩:∃l,l=w.heap.size+1:=⟨_,rfl⟩
 obtain⟨D,hD⟩:∃D,D=w.heap.size:=⟨_,rfl⟩
 rw[<- hl]at hy |-
 rw[<- hD]
 let Y:HP:=sep (nX l (.loop G)) (nX D (.deferred (some [])))
 let Jx:hM:=λW=>∃c M,U c M/\St w0 A (nX l (.loop {G with state:=.done,pending:=some c})::nX D (.deferred (some []))::M) W
 have U9:∃M,I 0 M/\St w0 A (Y::M) ((w.alloc (.deferred (some []))).alloc (.loop G)):=by
  refine⟨L,h0,?_⟩
  have h1:=(hs.alloc (o:=.deferred (some []))).alloc (o:=.loop G)
  rw[show(w.alloc (.deferred (some []))).heap.size=l from by rw[hl];exact CA w _,<- hD]at h1
  exact St.join h1
 have:=hgf (.func (.yield l) #[] #[]) Y Jx _ U9 ?_
 .have e:([Value.func (.yield l) #[] #[]]++cap).toArray = #[.func (.yield l) #[] #[]]++cap.toArray:=ei
  rw[e]at this
  refine this.mono λx O ⟨v,hx,hv⟩=>⟨v,hx,?_⟩
  rcases hv with⟨M,J,E⟩|⟨c,M,J,E⟩
  .have E:=E.split
   refine⟨.ready,none,ei,?_,?_⟩
   .rw[<- jd,<- Cn];exact E.obj
   exact Yj D M _ J (E.putObj _).drop
  refine⟨.done,some c,ei,E.obj,?_⟩
  rcases Qf c M J with⟨id,rfl⟩|rfl
  .exact Yk id D M _ J (E.putObj _).drop
  exact ajB D M _ J (E.putObj _).drop
 rintro k args Φ W R _ hk hR ⟨M,J,rfl⟩ E
 have V:=E.p1.split
 refine⟨.inr ⟨l,rfl,?_⟩⟩
 refine hy args W _ (hnp k args Φ hk) V.obj ?_
 refine EZ k args Φ (sep (sep (nX l (.loop G)) (nX D (.deferred (some [])))) R) (sep (sep (nX l (.loop {G with state:=.busy})) (nX D (.deferred (some [])))) R) _ _ M W hk J (λF W2 ⟨_,F2,_,h2,_⟩=>hR F2 W2 h2)
  (λM u kk h1 h2=>?_) (λM u h1 h2=>?_) (λc M u h1 h2=>?_) (St.join (St.join V))
 .have h1:=h1.split.split
  exact⟨h1.obj,h2 _ (h1.putObj _).join.join⟩
 .have h1:=h1.split.split
  refine⟨h1.obj,.inl ⟨rfl,_,⟨M,h2,rfl⟩,?_⟩⟩
  have:=h1.putObj (.loop {G with state:=if (none:Option Code).isNone=true then LoopState.ready else LoopState.done,pending:=none})
  rw[Fg G jd Cn]at this |-
  exact(St.join this).p1
 have h1:=h1.split.split
 refine⟨h1.obj,.inr ⟨rfl,c,M,h2,?_⟩⟩
 exact(h1.putObj _).p2.drop
end
end Go.Fw
namespace Go.Proofs.YtpdlpabnlkofmaaGreatDoor
open Go.Fw
abbrev UU:=ByteArray×Int×List Int
def rf(xs:List cC):List cC:=xs.filter λx=>decide (x.op=2)
theorem IE{xs:List cC}{k:Nat}{x:cC}(h:xs[k]?=some x):rf (xs.take (k+1))=rf (xs.take k)++(if x.op=2 then [x]else []):=by
 unfold rf;rw[<- gX h,Bq];grind
def afq{xs:List cC}{k:Nat}{x:cC}(h:xs[k]?=some x)(u:x.op=2):(rf xs)[(rf (xs.take k)).length]?=some x:=by
 have h1:=drop_cons h
 have e:rf xs=rf (xs.take k)++rf (xs.drop k):=by unfold rf;rw[<- Bq,qa]
 grind[rf]
def TN(l:List UU)(k:Nat)(args:List Value)(Φ:hM):Prop:=∃u s,l[k]?=some u/\args=[ir (⟨u.1,u.2.1,s⟩:Kz)]/\∀W,Φ W->dD (λ_=>True) W (ir s) u.2.2
def azr{H H':HP}{Φ:hM}(h:∀F W,H.p W F->Φ W):∀F W,(sep H H').p W F->Φ W:=λ_ _ ⟨_,_,h1,_⟩=>h _ _ h1
def KA{α:Type}[Flat α]{v:Value}{xs:List α}:∀F W,(bE v xs).p W F->dD (λ_=>True) W v xs:=λ_ _ h=>(bE.rd h).mono λ_ _=>trivial
def C193(lv y:Value)(xs:List cC)(may:Int)(ul:List UU)(G:Nat)(w0:World)(A:Nat->Prop)(I:Nat->List HP->Prop)(Y:hM)(w:World)(hn:xs.length<=1048576)
  (hE:∀k L W,I k L->St w0 A L W->dD (λ_=>True) W lv xs) (h0:∃L,I G L/\St w0 A L w) (hu:∀(j:Nat) (x:cC),(rf xs)[j]?=some x->ul[G+j]?=some (x.name,x.at_,[may])) (hy:afp hH w0 A I Y y (TN ul)) :
  CR 193 [lv,hZ may,y] w (λv W=>(v=.bool true/\∃L,I (G+(rf xs).length) L/\St w0 A L W)\/(v=.bool false/\Y W)):=by
 refine fj Tryz.func193 ?_;obtain⟨L0,E,B⟩:=h0;refine aK il (hE _ _ _ E B) ?_;refine⟨λm x w1=>∃k:Nat,x=hZ (k:Int)/\m=xs.length-k/\k<=xs.length/\∃L,I (G+(rf (xs.take k)).length) L/\St w0 A L w1,⟨_,0,rfl,rfl,l0 _,L0,E,B⟩,?_⟩;rintro m _ w1 ⟨k,rfl,rfl,hk,L1,J,u⟩ _;refine aR (aC (λc=>?_) λc=>?_)
 .obtain⟨x,M⟩:=gx xs (i:=((k:Nat):Int).toNat) cO;refine aQ il (hE _ _ _ J u) cO M (λq hq=>aD sK hq (aN u yL λb8 _ u=>aJ (x:=x) u sK rfl rfl λ_ u=>⟨λjv w'=>(jv=.bool false/\∃L,I (G+(rf (xs.take (k+1))).length) L/\St w0 A L w')\/(jv=.bool true/\Y w'),aA fm (aB (v:=hZ x.op) bL u.hb rfl (aH (aC (λO=>?_) λO=>?_))),?_⟩))
  .refine aA gC (aB (v:=.string x.name) gK u.hb rfl (aA sL (aB (v:=hZ x.at_) bL u.hb rfl (aV ([may]:List Int) u.drop cS rfl rfl (dQ rfl) λs25 w4 u=>?_))));obtain⟨sv,rfl⟩:=u.dW.fN;refine pop (we x.name x.at_ sv.a sv.n sv.cap) ?_;refine kT.mono (hy _ _ _ w4 _ _ ⟨_,sv,hu _ x (afq M O),rfl,λ_ h=>h⟩ KA J u) ?_;rintro v w5 (⟨rfl,L2,Z,V⟩|⟨rfl,U⟩)
   .exact bT (.inl ⟨rfl,L2,by rw[IE (k:=k) M,ew O,lr];exact Z,V.drop⟩)
   exact bT (.inr ⟨rfl,U⟩)
  .refine .inl ⟨rfl,L1,?_,u.drop⟩;rw[IE (k:=k) M,ej O,List.append_nil];exact J
  rintro _ w6 (⟨rfl,L2,Z,u⟩|⟨rfl,U⟩) _
  .exact fx (aO cO ⟨_,cO,k+1,rfl,rfl,cO,L2,Z,u⟩)
  exact hG (.inr ⟨rfl,U⟩)
 rw[kO cO]at J;exact .inl ⟨rfl,L1,J,u⟩
def KB(k:Int):List Int:=if k=5\/k=6 then [1]else if k=9\/k=10 then [3]else [1,2]
def C0(l:List cC):List UU:=(rf l).map λy=>(y.name,y.at_,[5])
def C1(x:bR):List UU:=(if x.eN=⟨#[]⟩then []else [(x.eN,x.at_,[5])])++((if x.name=⟨#[]⟩then []else [(x.name,x.at_,KB x.kind)])++(C0 x.e++C0 x.f))
def pa(xs:List bR):List UU:=xs.flatMap C1
theorem IF{xs:List bR}{k:Nat}{x:bR}(h:xs[k]?=some x):pa (xs.take (k+1))=pa (xs.take k)++C1 x:=by
 unfold pa;rw[<- gX h,Lv];simp
def afs{xs:List bR}{k i:Nat}{x:bR}{u:UU}(h:xs[k]?=some x)(hi:(C1 x)[i]?=some u):(pa xs)[(pa (xs.take k)).length+i]?=some u:=by
 have e:pa xs=pa (xs.take k)++(C1 x++pa (xs.drop (k+1))):=by
  rw[<- nK,<- IF h];unfold pa;rw[<- Lv,qa]
 grind
def TO{l:List cC}{j:Nat}{y:cC}(h:(rf l)[j]?=some y):(C0 l)[j]?=some (y.name,y.at_,[5]):=by unfold C0;rw[o1,h];rfl
def tm(x:bR):List UU:=if x.eN=⟨#[]⟩then []else [(x.eN,x.at_,[5])]
def uK(x:bR):List UU:=if x.name=⟨#[]⟩then []else [(x.name,x.at_,KB x.kind)]
theorem C2(x:bR):C1 x=tm x++(uK x++(C0 x.e++C0 x.f)):=rfl
theorem akT{x:bR}(h:¬ x.eN=⟨#[]⟩):(tm x).length=1:=by unfold tm;grind
theorem akU{x:bR}(h:x.eN=⟨#[]⟩):(tm x).length=0:=by unfold tm;grind
theorem akV{x:bR}{n:Nat}(h:¬ x.name=⟨#[]⟩):(n+(uK x).length)=n+1:=by unfold uK;grind
theorem akW{x:bR}{n:Nat}(h:x.name=⟨#[]⟩):(n+(uK x).length)=n:=by unfold uK;grind
def aal{x:bR}(h:¬ x.eN=⟨#[]⟩):(C1 x)[0]?=some (x.eN,x.at_,[5]):=by unfold C1;grind
def aam{x:bR}(h:¬ x.name=⟨#[]⟩):(C1 x)[(tm x).length]?=some (x.name,x.at_,KB x.kind):=by
 rw[C2,tx (o6 _),Nat.sub_self];unfold uK;grind
def aan{x:bR}{j:Nat}{y:cC}(h:(rf x.e)[j]?=some y):(C1 x)[(tm x).length+(uK x).length+j]?=some (y.name,y.at_,[5]):=by
 have h1:=TO h
 rw[C2,tx cO,show(tm x).length+(uK x).length+j-(tm x).length=(uK x).length+j from cO,tx cO,G8,u3 (kB.1 h1).1,h1]
def aao{x:bR}{j:Nat}{y:cC}(h:(rf x.f)[j]?=some y):(C1 x)[(tm x).length+(uK x).length+(rf x.e).length+j]?=some (y.name,y.at_,[5]):=by
 have h1:=TO h
 have h2:(C0 x.e).length=(rf x.e).length:=by unfold C0;grind
 rw[C2,tx cO,show(tm x).length+(uK x).length+(rf x.e).length+j-(tm x).length=(uK x).length+((C0 x.e).length+j)from cO,tx cO,G8,tx cO,G8,h1]
theorem aap(x:bR):(C1 x).length=(tm x).length+(uK x).length+(rf x.e).length+(rf x.f).length:=by
 rw[C2];unfold C0;grind
def C192(y:Value)(b:Nat)(lv:Value)(ts:List bF)(xs:List bR)(w0:World)(A:Nat->Prop)(I:Nat->List HP->Prop)(Jx:hM)(w:World)(hn:xs.length<=1048576)(hz:∀x∈xs,x.e.length<=1048576/\x.f.length<=1048576)
  (hE:∀k L W,I k L->St w0 A L W->Cell W b 0 lv/\dD (λ_=>True) W lv ts/\fT ts xs W) (h0:∃L,I 0 L/\St w0 A L w) (hy:afp hH w0 A I Jx y (TN (pa xs))) :
  CR 192 [y,.pointer (some ⟨b,0,none⟩)] w (λ_ W=>(∃L,I (pa xs).length L/\St w0 A L W)\/Jx W):=by
 have V:∀b4 (cs:List Value),afp hH w0 A (λj L=>∃M,I j M/\L=bW b4 cs::M) Jx y (TN (pa xs)):=by
  rintro b4 cs k args Φ W R _ h1 h2 ⟨M,h3,rfl⟩ h4;refine kT.mono (hy k args Φ W _ M h1 (azr h2) h3 (St.join h4)) ?_;rintro v W' (⟨rfl,L',h5,h6⟩|h5)
  .exact .inl ⟨rfl,_,⟨L',h5,rfl⟩,h6.split⟩
  grind
 refine fj Tryz.func192 ?_;obtain⟨M0,hI0,hS0⟩:=h0;obtain⟨Ds,DX,zT⟩:=hE _ _ _ hI0 hS0;have Lx:=zT.1;refine bN jW Ds (aK fB DX ?_);refine⟨λm x w1=>∃k:Nat,x=hZ (k:Int)/\m=ts.length-k/\k<=ts.length/\∃L,I (pa (xs.take k)).length L/\St w0 A L w1,⟨_,0,rfl,rfl,l0 _,M0,hI0,hS0⟩,?_⟩;rintro m _ w1 ⟨k,rfl,rfl,hk,M1,hI,B⟩ _;refine aR (aC (λc=>?_) λc=>?_)
 .obtain⟨t,ht⟩:=gx ts (i:=((k:Nat):Int).toNat) cO;obtain⟨x,hx⟩:=gx xs (i:=k) cO;have hxz:=hz x (kE hx);obtain⟨vr,AL,XA⟩:=hE _ _ _ hI B;obtain⟨ge,U,rfl,_,_⟩:=XA.2 _ _ _ ht hx
  have hE1:∀k' M W,I k' M->St w0 A M W->dD (λ_=>True) W (ir ge) x.e/\dD (λ_=>True) W (ir U) x.f:=λk' M W h1 h2=>by
   obtain⟨_,_,h3⟩:=hE k' M W h1 h2;obtain⟨_,_,h4,h5,h6⟩:=h3.2 _ _ _ ht hx;cases h4
   exact⟨DL.flat h5,DL.flat h6⟩
  have te:∀{i:Nat}{u:UU},(C1 x)[i]?=some u->(pa xs)[(pa (xs.take k)).length+i]?=some u:=afs hx;refine aQ fB AL cO ht (λq hq=>aD eU hq (aN B jD λb4 _ B=>aJ (x:=(⟨x.kind,x.eN,x.name,ge,U,x.n,x.body,x.eG,x.at_⟩:bF)) B eU rfl rfl λ_ B=>?_));refine⟨λE w'=>(E=.bool false/\∃L,I ((pa (xs.take k)).length+(tm x).length) L/\St w0 A ((bW b4 (j0 (⟨x.kind,x.eN,x.name,ge,U,x.n,x.body,x.eG,x.at_⟩:bF)))::L) w')\/(E=.bool true/\Jx w'),?_,?_⟩
  .refine aA iP (aB (v:=.string x.eN) gK B.hb rfl (mn (aC (λZ=>?_) λZ=>.inl ⟨rfl,M1,by rw[akU (by simpa using Z)];exact hI,B⟩)));refine aA iP (aB (v:=.string x.eN) gK B.hb rfl (aA lW (aB (v:=hZ x.at_) bL B.hb rfl (aV ([5]:List Int) B cS rfl rfl (dQ rfl) λs25 _ B=>?_))));obtain⟨sv,rfl⟩:=B.dW.fN;refine pop (we x.eN x.at_ sv.a sv.n sv.cap) ?_;refine kT.mono (V b4 _ _ _ _ _ _ _ ⟨_,sv,te (i:=0) (aal Z),rfl,λ_ h=>h⟩ KA ⟨_,hI,rfl⟩ B) ?_;rintro v w5 (⟨rfl,_,⟨J,G,rfl⟩,hs2⟩|⟨rfl,O⟩)
   .exact bT (.inl ⟨rfl,J,by rw[akT Z];exact G,hs2.drop⟩)
   exact bT (.inr ⟨rfl,O⟩)
  rintro _ w6 (⟨rfl,J,G,B⟩|⟨rfl,O⟩) _;rotate_left
  .exact hG (.inr O)
  refine fx (aV ([1,2]:List Int) B cS rfl rfl (dQ rfl) λs26 w7 B=>?_);refine⟨λE w'=>∃sv:SV,E=ir sv/\St w0 A (bE (ir sv) (KB x.kind)::(bW b4 (j0 (⟨x.kind,x.eN,x.name,ge,U,x.n,x.body,x.eG,x.at_⟩:bF)))::J) w',?_,?_⟩
  .refine aA dU (aB (v:=hZ x.kind) bL B.p1.hb rfl ⟨λE w'=>E=.bool (decide (x.kind=5\/x.kind=6))/\w'=w7,aH (aC (λc3=>⟨vb (by simp[c3]),rfl⟩) λc3=>aH ⟨vb (by simp[c3]),rfl⟩),?_⟩);rintro _ w8 ⟨rfl,rfl⟩ _;refine aC (λc3=>?_) (λc3=>⟨λE w'=>E=.bool (decide (x.kind=9\/x.kind=10))/\w'=w8,aH (aC (λc4=>⟨vb (by simp[c4]),rfl⟩) λc4=>aH ⟨vb (by simp[c4]),rfl⟩),?_⟩)
   .refine aV ([1]:List Int) B cS rfl rfl (dQ rfl) (λs32 _ B=>?_);obtain⟨sv,rfl⟩:=B.dW.fN;exact⟨sv,rfl,by rw[KB,ew c3];exact B.p1.drop⟩
   rintro _ _ ⟨rfl,rfl⟩ _;refine aC (λc4=>?_) (λc4=>?_)
   .refine aV ([3]:List Int) B cS rfl rfl (dQ rfl) (λs36 _ B=>?_);obtain⟨sv,rfl⟩:=B.dW.fN;exact⟨sv,rfl,by rw[KB,ej c3,ew c4];exact B.p1.drop⟩
   obtain⟨sv,rfl⟩:=B.dW.fN;exact⟨sv,rfl,by rw[KB,ej c3,ej c4];exact B⟩
  rintro _ _ ⟨sv,rfl,B⟩ _;refine⟨λE w'=>(E=.bool false/\∃L,I ((pa (xs.take k)).length+((tm x).length+(uK x).length)) L/\St w0 A ((bW b4 (j0 (⟨x.kind,x.eN,x.name,ge,U,x.n,x.body,x.eG,x.at_⟩:bF)))::L) w')\/(E=.bool true/\Jx w'),?_,?_⟩
  .refine aA gw (aB (v:=.string x.name) gK B.p1.hb rfl (mn (aC (λZ=>?_) λZ=>.inl ⟨rfl,J,by rw[akW (by simpa using Z)];exact G,B.drop⟩)));refine aA gw (aB (v:=.string x.name) gK B.p1.hb rfl (aA lW (aB (v:=hZ x.at_) bL B.p1.hb rfl (pop (we x.name x.at_ sv.a sv.n sv.cap) ?_))));refine kT.mono (V b4 _ _ _ _ _ _ _ ⟨_,sv,te (i:=(tm x).length) (aam Z),rfl,λ_ h=>h⟩ KA ⟨_,G,rfl⟩ B) ?_;rintro v w13 (⟨rfl,_,⟨M3,hI3,rfl⟩,hs3⟩|⟨rfl,O⟩)
   .exact bT (.inl ⟨rfl,M3,by rw[akV Z];exact hI3,hs3.drop⟩)
   exact bT (.inr ⟨rfl,O⟩)
  rintro _ TM (⟨rfl,J,G,B⟩|⟨rfl,O⟩) _;rotate_left
  .exact hG (.inr O)
  refine fx ?_;refine⟨λE w'=>(E=.bool false/\∃L,I ((pa (xs.take (k+1))).length) L/\St w0 A ((bW b4 (j0 (⟨x.kind,x.eN,x.name,ge,U,x.n,x.body,x.eG,x.at_⟩:bF)))::L) w')\/(E=.bool true/\Jx w'),?_,?_⟩
  .refine aA jg (aB (v:=ir ge) jC B.hb rfl (dO air (C193 _ y x.e 5 (pa xs) ((pa (xs.take k)).length+((tm x).length+(uK x).length)) w0 A (λj L=>∃M,I j M/\L=(bW b4 (j0 (⟨x.kind,x.eN,x.name,ge,U,x.n,x.body,x.eG,x.at_⟩:bF)))::M) Jx _ (by have:=hxz.1;omega) (λj L W ⟨M,h1,h2⟩ h3=>(hE1 _ _ _ h1 (h2▸h3).drop).1) ⟨_,⟨_,G,rfl⟩,B⟩ (λj _ Vg=>by rw[Oe];exact te (i:=((tm x).length+(uK x).length)+j) (aan Vg)) (V b4 _)) ?_));rintro v _ Y;rw[Oe]at Y
   rcases Y with⟨rfl,_,⟨J,G,rfl⟩,B⟩|⟨rfl,Y⟩
   .refine bT (fx (aA km (aB (v:=ir U) jC B.hb rfl (dO air (C193 _ y x.f 5 (pa xs) ((pa (xs.take k)).length+((tm x).length+(uK x).length+(rf x.e).length)) w0 A (λj L=>∃M,I j M/\L=(bW b4 (j0 (⟨x.kind,x.eN,x.name,ge,U,x.n,x.body,x.eG,x.at_⟩:bF)))::M) Jx _ (by have:=hxz.2;omega) (λj L W ⟨M,h1,h2⟩ h3=>(hE1 _ _ _ h1 (h2▸h3).drop).2) ⟨_,⟨_,G,rfl⟩,B⟩ (λj _ Vg=>by rw[Oe];exact te (i:=((tm x).length+(uK x).length+(rf x.e).length)+j) (aao Vg)) (V b4 _)) ?_))));rintro v _ Y;rw[Oe]at Y
    rcases Y with⟨rfl,_,⟨J,G,rfl⟩,B⟩|⟨rfl,Y⟩
    .exact bT (.inl ⟨rfl,J,by rw[IF hx,lr,aap];exact G,B⟩)
    exact bT (.inr ⟨rfl,Y⟩)
   exact bT (hG (.inr ⟨rfl,Y⟩))
  rintro _ w17 (⟨rfl,J,G,B⟩|⟨rfl,O⟩) _;rotate_left
  .exact hG (.inr O)
  exact fx (aO cO ⟨_,cO,k+1,rfl,rfl,cO,J,G,B.drop⟩)
 rw[kO cO]at hI;exact .inl ⟨M1,hI,B⟩
def C113(lv:SV)(w:World):CR 113 [ir lv] w (λv w'=>∃b,v=.func (.func 192) [].toArray [.pointer (some ⟨b,0,none⟩)].toArray/\kq (bW b [ir lv]) w w'):=by
 have u:=St.start w;refine fj Tryz.func113 ?_;refine nQ u rfl (λb _ u=>?_);exact⟨b,rfl,u.fresh⟩
variable (w:World) (K:Value->hM)
theorem ais:PL 112:=dR Tryz.func112
end Go.Proofs.YtpdlpabnlkofmaaGreatDoor
namespace Go.Proofs.YtpdlpabnlkofmaaGreatDoor
open Go.Fw
def Gn:List SI->List ByteArray->Option (List SI)
 | g,[]=>some g
 | g,n::r=>if eP g n=0 then Gn (g++[(n,5)]) r else none
def VJ(l:List SI)(names:List ByteArray):Option (List SI):=Gn (l.filter λp=>decide (¬ p.2=4)) names
def afu{g:List SI}{ns:List ByteArray}{k:Nat}{n:ByteArray}(h:ns[k]?=some n)(u:eP g n=0):Gn g (ns.drop k)=Gn (g++[(n,5)]) (ns.drop (k+1)):=by
 rw[drop_cons h,Gn,ew u]
def afv{g:List SI}{ns:List ByteArray}{k:Nat}{n:ByteArray}(h:ns[k]?=some n)(u:¬ eP g n=0):Gn g (ns.drop k)=none:=by
 rw[drop_cons h,Gn,ej u]
def ass(r:Option (List SI))(v:Value)(w w':World):Prop:=
 (r=none/\v=.tuple #[.map none,.bool true]/\Ext w w')\/∃g b,r=some g/\v=.tuple #[.map (some b),.bool false]/\kq (nJ b g) w w'
def C112(W:cL)(names:List ByteArray)(bm:Nat)(l:List SI)(w:World)(hf:dD (λ_=>True) w (ir W.dY) names)(E:vj w bm l)(hz:∀p∈l,p.2≠0)(hn:names.length<=1073741824) :
  CR 112 [ir W,.map (some bm)] w (λv w'=>ass (VJ l names) v w w'):=by
 have u:=St.start w;have Lx:=E.nodup;obtain⟨es,clock,W6,V,Y⟩:=E;refine fj Tryz.func112 ?_;refine cM u (λO w1 u=>Nb u λI _ u=>Vq u Tryz.underlying165 (FN W6 u.aG) λr13 _ u=>?_);refine⟨λmm w1=>∃(seen:Array Nat) (M:List SI),mm=(leftOf es seen).size/\(∀p,p∈M↔(p∈l/\¬ p.2=4/\∃e∈es.toList,seen.contains e.born=true/\e.key=.string p.1))/\St w aX [Iv r13 bm clock seen,nJ I M,bW O (j0 W)] w1,⟨_,#[],[],rfl,λ_=>⟨λh=>(by cases h),λ⟨_,_,e,_,h,_⟩=>(by simp at h)⟩,u⟩,?_⟩;rintro mm w4 ⟨seen,M,rfl,G,u⟩ _;refine Y3 u (FN W6 u.aG) V.1 (λh0=>?_) (λe _ U u=>?_)
 .refine aM rfl (fx ?_);have u:=u.drop
  have hg:M.Perm (l.filter λp=>decide (¬ p.2=4)):=by
   have n1:M.Nodup:=(aaE.1 u.nJ.nodup).imp λh e=>h (by rw[e]);have n2:l.Nodup:=(aaE.1 Lx).imp λh e=>h (by rw[e]);refine(List.perm_ext_iff_of_nodup n1 (n2.filter _)).2 λp=>?_;rw[G,OT];refine⟨λ⟨h1,h2,_⟩=>⟨h1,ez h2⟩,λ⟨h1,h2⟩=>⟨h1,g7 h2,?_⟩⟩;obtain⟨e,U,h3,_⟩:=Y5 Y h1;exact⟨e,U,all_seen es seen h0 e U,h3⟩
  have u:St w aX [nJ I (l.filter λp=>decide (¬ p.2=4)),bW O (j0 W)] w4:=u.rV λF hF=>⟨F,⟨hF.1.perm hg,hF.2⟩,λ_ hb=>.inl hb,gJ.refl _ _⟩;refine aA fZ (aB jq u.p1.hb rfl (aK iK (hf.ext u.aG) ?_));refine⟨λmm i w'=>∃(k:Nat) (g:List SI),i=hZ (k:Int)/\mm=names.length-k/\k<=names.length/\VJ l names=Gn g (names.drop k)/\(∀p∈g,p.2≠0)/\St w aX [nJ I g,bW O (j0 W)] w',⟨_,0,_,rfl,rfl,l0 _,rfl,λp hp=>hz p (OT.1 hp).1,u⟩,?_⟩;rintro mm _ _ ⟨k,g,rfl,rfl,hk,Hi,Z,u⟩ _;refine aR (aC (λNG=>?_) λNG=>?_)
  .obtain⟨zU,kf⟩:=gx names (i:=(k:Int).toNat) cO;refine aQ iK (hf.ext u.aG) cO kf (λ_ Bv=>aD gK Bv (yR u.nJ Tryz.underlying165 Tryz.underlying9 u0 (bQ (aC (λl4=>.inl ⟨Hi.trans (afv kf l4),rfl,u.drop.drop.aG⟩) λl4=>?_))));have hz0:eP g zU=0:=cO
   refine Nc u Tryz.underlying165 Tryz.underlying9 (Qv u.nJ.nodup Z hz0) (λ_ u=>aO cO ?_)
   exact⟨_,cO,k+1,_,rfl,rfl,cO,Hi.trans (afu kf hz0),λp hp=>by
    rcases o8.1 hp with h|h
    .exact Z p h
    .rw[v7.1 h];exact(by decide:(5:Int)≠0),u⟩
  refine .inr ⟨g,I,?_,rfl,u.p1.drop.fresh⟩;rw[Hi,v9 cO];rfl
 refine aM rfl (hG ?_);have E:=mem_left U;refine Vr u (FN W6 u.aG) E.1 V.2.1 ?_;obtain⟨p0,Pp,B,hev⟩:=Y4 Y E.1;rw[B,hev];refine aM rfl (aM rfl (bQ ?_))
 have old:∀q∈M,q.1≠p0.1:=λq hq e=>by
  obtain⟨_,_,J,NH,h1,h2⟩:=(G q).1 hq;rw[e,<- B]at h2;obtain rfl:=key_inj V.2.2 NH E.1 h2;exact absurd h1 (by simpa using E.2)
 refine aC (λnz=>?_) (λnz=>?_)
 .have u:=u.p1;refine Nc u Tryz.underlying165 Tryz.underlying9 old (λ_ u=>?_);have u:=u.p1;refine⟨_,left_shrinks es seen e U,seen.push e.born,_,rfl,λp=>?_,u⟩;rw[o8,v7,G]
  constructor
  .rintro(⟨h1,h2,J,h3,h4,h5⟩|rfl)
   .exact⟨h1,h2,J,h3,by simp at h4 |-;exact .inl h4,h5⟩
   exact⟨Pp,nz,e,E.1,ei,B⟩
  rintro⟨h1,h2,J,h3,h4,h5⟩
  rcases xU h4 with h|h
  .exact .inl ⟨h1,h2,J,h3,h,h5⟩
  obtain rfl:=born_inj V.2.1 h3 E.1 h;rw[B]at h5;injection h5 with h5;exact .inr (Y6 Lx h1 Pp h5.symm)
 refine⟨_,left_shrinks es seen e U,seen.push e.born,M,rfl,λp=>?_,u⟩;rw[G]
 constructor
 .rintro⟨h1,h2,J,h3,h4,h5⟩;exact⟨h1,h2,J,h3,by simp at h4 |-;exact .inl h4,h5⟩
 rintro⟨h1,h2,J,h3,h4,h5⟩
 rcases xU h4 with h|h
 .exact⟨h1,h2,J,h3,h,h5⟩
 obtain rfl:=born_inj V.2.1 h3 E.1 h;rw[B]at h5;injection h5 with h5;obtain rfl:=Y6 Lx h1 Pp h5.symm;exact absurd h2 nz
theorem dS{ns:List ByteArray}{s:ByteArray}:0<=dA ns s↔s∈ns:=by
 have h:=CN ns s
 grind
theorem BR{ns:List ByteArray}{s:ByteArray}:dA ns s<0↔s ∉ ns:=by rw[<- dS];omega
theorem mf{ns:List ByteArray}{s:ByteArray}(h:s∈ns):∃k:Nat,dA ns s=k/\ns[k]?=some s/\∀j,j<k->ns[j]?≠some s:=by
 unfold dA sT
 cases hf:ns.findIdx? (λy=>decide (y=s))with
 | none=>grind
 | some k=>
  obtain⟨h1,h2,h3⟩:=List.findIdx?_eq_some_iff_getElem.1 hf
  grind
def qy{ns:List ByteArray}{s:ByteArray}{k:Nat}(h:s∈ns):dA ns s<k↔s∈ns.take k:=by
 obtain⟨j,h1,h2,h3⟩:=mf h
 rw[h1]
 constructor
 .intro B;exact xO.2 ⟨j,dI⟩
 intro u
 obtain⟨i,hi⟩:=xO.1 u
 grind
theorem nodup_iff(ns:List ByteArray):ns.Nodup↔∀(k:Nat) (s:ByteArray),ns[k]?=some s->s ∉ ns.take k:=by
 unfold List.Nodup
 rw[Td]
 constructor
 .intro h k s G B
  obtain⟨i,hi⟩:=xO.1 B
  grind
 intro h i j hi u E I
 exact h j _ (la u) (xO.2 ⟨i,dI⟩)
theorem Ax(l:List cN):kJ l=true↔¬ (l.map cN.name).Nodup:=by
 rw[nodup_iff]
 unfold kJ
 rw[wS]
 constructor
 .rintro⟨j,u,h⟩ G
  have u:=LY.1 u
  have J:l[j]?=some l[j]:=la u
  rw[yT J,decide_eq_true_iff]at h
  have B:(l[j]).name∈l.map cN.name:=ob.2 ⟨_,Vj u,rfl⟩
  exact G j _ dI ((qy B).1 h)
 intro G
 apply g9
 intro hc
 refine G λk s I B=>hc ⟨k,?_,?_⟩
 .grind
 rw[o1]at I
 obtain⟨c,E,rfl⟩:=H5.1 I
 rw[yT E,decide_eq_true_iff]
 exact(qy (wV B)).2 B
def NI(p:bZ)(rs:List ByteArray):vl p rs=true↔¬ rs.Nodup\/∃s∈rs,s∈cX p\/s∈cP p:=by
 rw[nodup_iff]
 unfold vl
 rw[wS]
 constructor
 .rintro⟨j,u,h⟩
  have u:=LY.1 u
  have I:rs[j]?=some rs[j]:=la u
  have E:=Vj u
  rw[BG I]at h
  simp only[xW,decide_eq_true_eq,dS]at h
  rcases h with(h|h)|h
  .exact .inl λB=>B j _ I ((qy E).1 h)
  .grind
  grind
 intro B
 rcases B with B|⟨s,J,hc⟩
 .apply g9
  intro hc
  refine B λk s G E=>hc ⟨k,LY.2 (kB.1 G).1,?_⟩
  rw[BG G]
  simp only[xW,decide_eq_true_eq]
  exact .inl (.inl ((qy (wV E)).2 E))
 obtain⟨j,u⟩:=xO.1 J
 refine⟨j,LY.2 (kB.1 u).1,?_⟩
 rw[BG u]
 simp only[xW,decide_eq_true_eq,dS]
 rcases hc with hc|hc
 .exact .inl (.inr hc)
 exact .inr hc
def nmQ(p:bZ):List (ByteArray×Int×Int):=Xc p++(VH p++Xd p)
theorem TP(p:bZ):DE p=AN (nmQ p) ([],false,0):=by simp_all[SI,DE,AN,nmQ]
theorem C3(p:bZ):(nmQ p).map (·.1)=(fW p).map cN.name:=by
 unfold nmQ Xc VH Xd fW
 rw[<- BQ]
 simp only[wk,H4,nK]
 rfl
theorem aaq(p:bZ):∀q∈nmQ p,q.2.1≠0:=by
 intro q u
 unfold nmQ Xc VH Xd DD at u
 grind
theorem aar:∀(l:List (ByteArray×Int×Int)) (st:List SI×Bool×Int),(∀q∈l,q.2.1≠0)->
  ((AN l st).2.1=true↔st.2.1=true\/¬ (l.map (·.1)).Nodup\/∃q∈l,eP st.1 q.1≠0)
 | [],st,_=>by simp[AN]
 | q::r,st,hz=>by
  have B:=aar r (nmF st q) λq E=>hz q (qo _ E)
  have u:=hz q (oj ..)
  have e:AN (q::r) st=AN r (nmF st q):=rfl
  rw[e,B]
  show twN st.1 q.1 st.2.1=true\/_\/(∃x∈r,eP (Aw st.1 q.1 q.2.1) x.1≠0)↔_
  unfold twN
  rw[Lp,Ka]
  simp only[xW,decide_eq_true_eq,CZ,ob,sl]
  grind
theorem aas(p:bZ):(DE p).2.1=kJ (fW p):=by
 rw[J8,TP,aar _ _ (aaq p),Ax,C3]
 simp[eP]
theorem Q9:∀(l:List (ByteArray×Int×Int)) (st:List SI×Bool×Int) (n:ByteArray),n ∉ l.map (·.1)->eP (AN l st).1 n=eP st.1 n
 | [],_,_,_=>rfl
 | q::r,st,n,h=>by
  rw[Lp,sl,not_or]at h
  have e:AN (q::r) st=AN r (nmF st q):=rfl
  rw[e,Q9 r _ n h.2]
  show eP (Aw st.1 q.1 q.2.1) n=_
  rw[CZ,ej λu=>h.1 u.symm]
theorem Gp:∀(l:List (ByteArray×Int×Int)) (st:List SI×Bool×Int) (q:ByteArray×Int×Int),(l.map (·.1)).Nodup->q∈l->eP (AN l st).1 q.1=q.2.1
 | x::r,st,q,hn,h=>by
  rw[Lp,Ka]at hn
  have e:AN (x::r) st=AN r (nmF st x):=rfl
  rw[e]
  rcases sl.1 h with rfl|h
  .rw[Q9 r _ _ hn.1]
   show eP (Aw st.1 q.1 q.2.1) q.1=_
   rw[CZ,ew rfl]
  .exact Gp r _ q hn.2 h
theorem aat:∀(l:List (ByteArray×Int×Int)) (st:List SI×Bool×Int),(∀q∈l,q.2.1≠0)->(∀e∈st.1,e.2≠0)->∀e∈(AN l st).1,e.2≠0
 | [],_,_,h=>h
 | q::r,st,hz,h=>aat r (nmF st q) (λq u=>hz q (qo _ u)) (afn h (hz q (oj ..)))
def Ra(p:bZ):∀e∈(DE p).1,e.2≠0:=by
 rw[TP];exact aat _ _ (aaq p) λe u=>by cases u
theorem aau:∀(ls:List (List cN)) (k:Int) (q:cN×Int),q∈Q7 k ls->k<=q.2/\q.2<k+ls.length
 | [],_,_,h=>by cases h
 | l::r,k,q,h=>by
  unfold Q7 at h
  rcases o8.1 h with h|h
  .grind
  .have:=aau r (k+1) q h;simp;omega
theorem aav:∀(vs:List cN) (k:Int) (q:cN×Int),q∈Pn k vs->k<=q.2
 | [],_,_,h=>by cases h
 | v::r,k,q,h=>by
  unfold Pn at h
  rcases sl.1 h with rfl|h
  .omega
  .have:=aav r (k+1) q h;omega
def uj(p:bZ):List ByteArray:=p.iY.map cN.name
def afx(p:bZ):List ByteArray:=p.threads.map cR.name
theorem NJ(p:bZ):gF p=p.lines.flatten.map cN.name:=by
 unfold gF cX iE eH
 rw[wk,pd,List.take_left' dI]
theorem rh(p:bZ):cX p=gF p++uj p:=by
 rw[NJ];unfold cX iE uj;grind
theorem TQ(p:bZ):(fW p).map cN.name=gF p++uj p++(cP p++afx p):=by
 rw[<- rh];unfold fW cX cP afx
 simp_all
theorem TR{p:bZ}(G:kJ (fW p)=false)(s:ByteArray) :
  eP (DE p).1 s=if 0<=dA (gF p) s then 1 else if 0<=dA (uj p) s then 2 else if 0<=dA (cP p) s then 3 else if 0<=dA (afx p) s then 4 else 0:=by
 have hd:((fW p).map cN.name).Nodup:=g9 λh=>by rw[(Ax _).2 h]at G;cases G
 have B:((nmQ p).map (·.1)).Nodup:=by rw[C3];exact hd
 rw[TP]
 by_cases h1:s∈gF p
 .rw[ew (dS.2 h1)]
  rw[NJ,<- Kx p.lines 0]at h1
  obtain⟨c,hc,rfl⟩:=ob.1 h1
  obtain⟨q,u,rfl⟩:=ob.1 hc
  have E:(q.1.name,DD p q.2,q.1.at_)∈nmQ p:=List.mem_append_left _ (ob.2 ⟨q,List.mem_append_left _ u,rfl⟩)
  have J:=aau _ _ _ u
  exact(Gp _ _ _ B E).trans (ej cO)
 rw[ej λh=>h1 (dS.1 h)]
 by_cases h2:s∈uj p
 .rw[ew (dS.2 h2)]
  unfold uj at h2
  rw[<- Ky p.iY p.lines.length]at h2
  obtain⟨c,hc,rfl⟩:=ob.1 h2
  obtain⟨q,u,rfl⟩:=ob.1 hc
  have E:(q.1.name,DD p q.2,q.1.at_)∈nmQ p:=List.mem_append_left _ (ob.2 ⟨q,List.mem_append_right _ u,rfl⟩)
  have I:=aav _ _ _ u
  exact(Gp _ _ _ B E).trans (ew I)
 rw[ej λh=>h2 (dS.1 h)]
 by_cases h3:s∈cP p
 .rw[ew (dS.2 h3)]
  obtain⟨c,hc,rfl⟩:=ob.1 h3
  exact Gp _ _ (c.name,3,c.at_) B (List.mem_append_right _ (List.mem_append_left _ (ob.2 ⟨c,hc,rfl⟩)))
 rw[ej λh=>h3 (dS.1 h)]
 by_cases h4:s∈afx p
 .rw[ew (dS.2 h4)]
  obtain⟨t,ht,rfl⟩:=ob.1 h4
  exact Gp _ _ (t.name,4,t.at_) B (List.mem_append_right _ (List.mem_append_right _ (ob.2 ⟨t,ht,rfl⟩)))
 rw[ej λh=>h4 (dS.1 h),Q9 _ _ _ (by rw[C3,TQ];grind)]
 rfl
def Gq{α:Type}{l:List α}{f g:α->Bool}(h:∀x∈l,f x=g x):l.any f=l.any g:=by
 grind
theorem VK{g:List SI}{n k:ByteArray}{v:Int}(u:∀e∈g,e.2≠0)(h:eP g n=0):eP (g++[(n,v)]) k=if n=k then v else eP g k:=by
 induction g with
 | nil=>simp_all[eP,SI]
 | cons e r I=>
  have B:=u e (oj ..)
  have J:¬ e.1=n:=λG=>by
   have:eP (e::r) n=e.2:=by simp_all[eP,SI]
   omega
  have E:eP r n=0:=by
   grind[eP]
  show(if e.1=k then e.2 else eP (r++[(n,v)]) k)=if n=k then v else(if e.1=k then e.2 else eP r k)
  grind
theorem IG:∀(ns:List ByteArray) (g:List SI),(∀e∈g,e.2≠0)->
  (Gn g ns=none/\(¬ ns.Nodup\/∃s∈ns,eP g s≠0))\/∃G,Gn g ns=some G/\ns.Nodup/\(∀s∈ns,eP g s=0)/\∀s,eP G s=if 0<=dA ns s then 5 else eP g s
 | [],g,_=>.inr ⟨g,rfl,List.nodup_nil,λs h=>(by cases h),λs=>by rw[ej];exactλh=>by cases dS.1 h⟩
 | n::r,g,hz=>by
  unfold Gn
  split
  .rename_i hl
   have J:∀e∈g++[(n,(5:Int))],e.2≠0:=by
    grind
   have B:=λk=>VK (k:=k) (v:=5) hz hl
   rcases IG r _ J with⟨h1,h2⟩|⟨G,h1,h2,h3,h4⟩
   .grind
   .have E:n ∉ r:=λM=>dI
    refine .inr ⟨G,h1,Ka.2 ⟨E,h2⟩,λs u=>?_,λs=>?_⟩
    .rcases sl.1 u with rfl|u
     .exact hl
     .have:=h3 s u;rw[B,ej λe:n=s=>E (e▸u)]at this;exact this
    .rw[h4,B]
     by_cases u:s∈r
     .rw[ew (dS.2 u),ew (dS.2 (qo _ u))]
     .rw[ej λh=>u (dS.1 h)]
      by_cases I:n=s
      .rw[ew I,ew (dS.2 (by rw[I];exact oj ..))]
      .rw[ej I,ej λh=>(sl.1 (dS.1 h)).elim (λe=>I e.symm) u]
  grind
theorem NK{l:List SI}(u:(l.map (·.1)).Nodup)(s:ByteArray):eP (l.filter λp=>decide (¬ p.2=4)) s=if eP l s=4 then 0 else eP l s:=by
 induction l with
 | nil=>rfl
 | cons e r B=>
  rw[Lp,Ka]at u
  have B:=B u.2
  have I:e.1=s->eP r s=0:=λh=>Am λq E J=>u.1 (ob.2 ⟨q,E,dI⟩)
  have G:eP (e::r) s=if e.1=s then e.2 else eP r s:=rfl
  rw[List.filter_cons,G]
  by_cases h4:e.2=4
  .grind
  .rw[ew (by simp[h4])]
   show(if e.1=s then e.2 else eP _ s)=_
   grind
def aaw{l:List SI}{k:ByteArray}{v:Int}(h:(l.map (·.1)).Nodup):((Aw l k v).map (·.1)).Nodup:=by
 unfold Aw
 grind
theorem aax(p:bZ):((DE p).1.map (·.1)).Nodup:=by
 rw[TP]
 have:∀(l:List (ByteArray×Int×Int)) (st:List SI×Bool×Int),(st.1.map (·.1)).Nodup->((AN l st).1.map (·.1)).Nodup:=by
  intro l
  induction l with
  | nil=>intro st h;exact h
  | cons q r u=>intro st h;exact u (nmF st q) (aaw h)
 grind
theorem KC{p:bZ}(I:kJ (fW p)=false)(rs:List ByteArray) :
  (VJ (DE p).1 rs=none/\vl p rs=true)\/∃g,VJ (DE p).1 rs=some g/\vl p rs=false/\(∀s∈rs,s ∉ cX p/\s ∉ cP p)/\
   ∀s,eP g s=if 0<=dA rs s then 5 else if 0<=dA (gF p) s then 1 else if 0<=dA (uj p) s then 2 else if 0<=dA (cP p) s then 3 else 0:=by
 have G:∀s,eP ((DE p).1.filter λp=>decide (¬ p.2=4)) s=if 0<=dA (gF p) s then 1 else if 0<=dA (uj p) s then 2 else if 0<=dA (cP p) s then 3 else 0:=by
  intro s
  rw[NK (aax p),TR I]
  omega
 have hc:∀s,eP ((DE p).1.filter λp=>decide (¬ p.2=4)) s≠0↔(s∈cX p\/s∈cP p):=by
  intro s
  rw[G,rh,o8,<- dS (ns:=gF p),<- dS (ns:=uj p),<- dS (ns:=cP p)]
  omega
 unfold VJ
 rcases IG rs ((DE p).1.filter λp=>decide (¬ p.2=4)) (λe J=>Ra p e (OT.1 J).1)with⟨h1,h2⟩|⟨g,h1,h2,h3,h4⟩
 .refine .inl ⟨h1,(NI p rs).2 ?_⟩
  grind
 have B:∀s∈rs,s ∉ cX p/\s ∉ cP p:=λs u=>by
  have h:=h3 s u
  exact⟨λE=>(hc s).2 (.inl E) h,λE=>(hc s).2 (.inr E) h⟩
 refine .inr ⟨g,h1,?_,B,λs=>by rw[h4,G]⟩
 cases hr:vl p rs with
 | false=>rfl
 | true=>
  rcases(NI p rs).1 hr with h|⟨s,u,h⟩
  .grind
  .rcases h with h|h
   .exact absurd h (B s u).1
   .exact absurd h (B s u).2
def D7(g:List SI)(u:UU):Bool:=!u.2.2.any λm=>decide (m=eP g u.1)
theorem NL{g:List SI}{rs:List ByteArray}(l:List cC)(h:∀s,eP g s=5↔s∈rs):(C0 l).any (D7 g)=pK l rs:=by
 rw[J8]
 unfold C0 rf pK D7
 simp only[List.any_map,wS,OT,Function.comp_apply,U0,aaF,U2,ta,decide_eq_false_iff_not,n4,decide_eq_true_eq,BR]
 grind
def Rb(p:bZ)(s:ByteArray):s∈gF p↔0<=dA (cX p) s/\dA (cX p) s<eH p:=by
 rw[dS,show gF p=(cX p).take (eH p).toNat from rfl]
 have B:0<=eH p:=by unfold eH;omega
 constructor
 .intro h
  have u:=wV h
  have:=(qy u).2 h
  exact⟨u,cO⟩
 rintro⟨h1,h2⟩;exact(qy h1).1 cO
theorem asu(k:Int):fb (fO k) 110=decide (k=2\/k=3\/k=4\/k=5\/k=6\/k=9\/k=10):=by
 unfold fO
 split
 .rw[fV cO];decide
 rename_i h
 obtain rfl|rfl|rfl|rfl|rfl|rfl|rfl|rfl|rfl|rfl|rfl|rfl|rfl|rfl:k=1\/k=2\/k=3\/k=4\/k=5\/k=6\/k=7\/k=8\/k=9\/k=10\/k=11\/k=12\/k=13\/k=14:=cO
 all_goals decide
theorem NM:gY ⟨#[]⟩=false:=ee
def afy{p:bZ}{rs:List ByteArray}{g:List SI}(E:∀s∈rs,s ∉ cX p/\s ∉ cP p)(G:∀s∈cX p,s ∉ cP p)(V:∀s∈gF p,s ∉ uj p)
  (B:∀s,eP g s=if 0<=dA rs s then 5 else if 0<=dA (gF p) s then 1 else if 0<=dA (uj p) s then 2 else if 0<=dA (cP p) s then 3 else 0) {x:bR}(J:aq0 x) :
  (C1 x).any (D7 g)=nD p rs x:=by
 have I:∀s,eP g s=5↔s∈rs:=λs=>by
  rw[B,<- dS];omega
 have U:∀s,eP g s=1↔s∈gF p:=λs=>by
  rw[B,<- dS]
  split
  .rename_i h
   have:=E s (dS.1 h)
   rw[rh,o8]at this
   refine⟨λh=>(by cases h),λh=>absurd (dS.1 h) λu=>this.1 (.inl u)⟩
  omega
 have O:∀s,eP g s=2↔s∈uj p:=λs=>by
  rw[B]
  split
  .rename_i h
   have:=E s (dS.1 h)
   rw[rh,o8]at this
   grind
  .split
   .grind
   .rw[<- dS];omega
 have g3:∀s,eP g s=3↔s∈cP p:=λs=>by
  rw[B]
  split
  .grind
  .split
   .rename_i h;exact⟨λh=>(by cases h),λu=>absurd u (G s (by rw[rh];grind))⟩
   .split
    .rename_i h;exact⟨λh=>(by cases h),λu=>absurd u (G s (by rw[rh];grind))⟩
    .rw[<- dS];omega
 have M:=J.name
 rw[asu]at M
 rw[C2,Q4,Q4,Q4,NL x.e I,NL x.f I]
 have W:(tm x).any (D7 g)=(decide (¬ x.eN=⟨#[]⟩)&&decide (dA rs x.eN<0)):=by
  unfold tm
  split
  .grind
  .rename_i h
   rw[ez h,Av,J8]
   simp only[U0,aaF,U2,D7,ta,decide_eq_false_iff_not,decide_eq_true_eq,BR]
   grind
 have Z:(uK x).any (D7 g)=(((decide (x.kind=2)||decide (x.kind=3)||decide (x.kind=4))&&decide (dA (cX p) x.name<0)) ||
   ((decide (x.kind=5)||decide (x.kind=6))&&(decide (dA (cX p) x.name<0)||decide (eH p<=dA (cX p) x.name))) ||
   ((decide (x.kind=9)||decide (x.kind=10))&&decide (dA (cP p) x.name<0))):=by
  have hk:=J.kind
  unfold uK
  split
  .rename_i h
   have Y:¬ (x.kind=2\/x.kind=3\/x.kind=4\/x.kind=5\/x.kind=6\/x.kind=9\/x.kind=10):=by
    intro u
    rcases M with⟨_,h2⟩|⟨h1,_⟩
    .rw[h,NM]at h2;cases h2
    grind
   grind
  .rename_i h
   have Y:x.kind=2\/x.kind=3\/x.kind=4\/x.kind=5\/x.kind=6\/x.kind=9\/x.kind=10:=by
    grind
   have hc:=Rb p x.name
   rw[J8]
   unfold KB
   simp only[U0,aaF,U2,D7,ta,xW,n4,decide_eq_true_eq,BR]
   have e1:=U x.name;have e2:=O x.name;have e3:=g3 x.name
   have ec:x.name∈cX p↔x.name∈gF p\/x.name∈uj p:=by rw[rh,o8]
   have pn:=dS (ns:=cX p) (s:=x.name)
   grind
 rw[W,Z]
 unfold nD
 grind
def NN{p:bZ}(B:kJ (fW p)=false):(∀s∈cX p,s ∉ cP p)/\∀s∈gF p,s ∉ uj p:=by
 have hd:((fW p).map cN.name).Nodup:=g9 λh=>by rw[(Ax _).2 h]at B;cases B
 rw[TQ,aaG]at hd
 obtain⟨h1,h2,h3⟩:=hd
 rw[aaG]at h1
 exact⟨λs u E=>h3 s (by rw[<- rh];exact u) s (List.mem_append_left _ E) rfl,λs u G=>h1.2.2 s u s G rfl⟩
def aay{p:bZ}{t:cR}{g:List SI}(u:kJ (fW p)=false)(J:VJ (DE p).1 t.dY=some g)(I:∀x∈t.body,nB x=true):(pa t.body).any (D7 g)=t.body.any (nD p t.dY):=by
 rcases KC u t.dY with⟨h1,_⟩|⟨M,h1,h2,h3,h4⟩
 .grind
 rw[J]at h1;cases h1
 obtain⟨B,G⟩:=NN u
 unfold pa
 rw[List.any_flatMap]
 refine Gq λx E=>afy h3 B G h4 (yS (I x E))
def Rc{p:bZ}(u:kJ (fW p)=false)(l:List cC):(l.any λx=>decide (x.op=2)&&decide (¬ eP (DE p).1 x.name=1))=pK l (gF p):=by
 unfold pK
 refine Gq λx _=>?_
 congr 1
 refine ga.2 ?_
 rw[BR,TR u,<- dS]
 omega
variable (w:World) (K:Value->hM)
def S48(p0:Value):Prop:=
 ry hH (Ae 27 p0) w λp1 a=>aL 31 a λb c=>aL 3 c λd e=>lA 27 p1 e λf=>cF 107 [f] e λg h=>xT g 0 λj=>xT g 1 λk=>xT g 2 λl=>lA 27 p1 h λn=>
 cF 108 [n] h λo p=>eX hH (Op.unary .not o) λq=>cV q (sA 31 b (i 8) p λs=>sA 3 d (i 0) s λt=>lA 31 b t λr=>lA 3 d t λHt=>K (.tuple #[r,Ht]) t) (lA 27 p1 p λu=>
 cF 109 [u] p λv x=>cV v (sA 31 b (i 2) x λy=>sA 3 d (i 0) y λz=>lA 31 b z λLX=>lA 3 d z λr_3=>K (.tuple #[LX,r_3]) z) (lA 27 p1 x λaa=>cF 110 [aa] x λab ac=>
 lN 24 ab λad=>kP (λZ ae M=>∀_:Env,
 bA .lss 3 ae ad λag=>cV ag (iA 24 ab ae λah=>lA 146 ah M λai=>aL 146 M λt8 aj=>sA 146 t8 ai aj λak=>fA 146 t8 2 λal=>lA 141 al ak λam=>cF 111 [am,(i 1)] ak λan ao=>
 xT an 0 λap=>xT an 1 λaq=>cV aq (sA 31 b (i 11) ao λar=>sA 3 d ap ar λasx=>lA 31 b asx λr_4=>lA 3 d asx λr_5=>K (.tuple #[r_4,r_5]) asx) (bB .add 3 ae (i 1) λau=>
 Z au ao)) (cV l (sA 31 b (i 10) M λav=>sA 3 d k av λaw=>lA 31 b aw λr_6=>lA 3 d aw λr_7=>K (.tuple #[r_6,r_7]) aw) (lA 27 p1 M λax=>cF 110 [ax] M λay az=>
 lN 24 ay λa0=>kP (λK2 a2 V=>∀_:Env,
 bA .lss 3 a2 a0 λa4=>cV a4 (iA 24 ay a2 λa5=>lA 146 a5 V λa6=>aL 146 V λE a7=>sA 146 E a6 a7 λa8=>lA 146 E a8 λa9=>cF 112 [a9,j] a8 λba bb=>xT ba 0 λ_=>
 xT ba 1 λbc=>cV bc (fA 146 E 3 λbd=>lA 3 bd (drew bb) λbe=>sA 31 b (i 10) (drew bb) λbf=>kA 3 bd be bf (sA 3 d be bf λbg=>lA 31 b bg λr_8=>lA 3 d bg λr_9=>
 K (.tuple #[r_8,r_9]) bg)) (bB .add 3 a2 (i 1) λbh=>K2 bh bb)) (lA 27 p1 V λbi=>cF 110 [bi] V λbj bk=>lN 24 bj λbl=>nP (λK3 ds bm W=>∀_:Env,
 bA .lss 3 bm bl λbo=>cV bo (iA 24 bj bm λbp=>lA 146 bp W λbq=>aL 146 W λG br=>sA 146 G bq br λbs=>lA 146 G bs λbt=>cF 112 [bt,j] bs λbu bv=>xT bu 0 λbw=>
 xT bu 1 λ_=>aL 165 bv λJ bx=>sA 165 J bw bx λbz=>fA 146 G 2 λb0=>lA 141 b0 bz λb1=>cF 113 [b1] bz λb2 b3=>AY hH b2 1 b3 (λa1 b4 B1 R1=>
 aL 177 b4 λB b5=>sA 177 B (EY a1 0) b5 λb6=>B1 b6 λI=>fA 177 B 2 λb8=>lA 41 b8 I λb9=>lA 165 J I λca=>fA 177 B 0 λcb=>lA 9 cb I λcc=>
 Lu hH (yC 165 ca cc false) I λcd=>cF 114 [b9,cd] I λce cf=>eX hH (Op.unary .not ce) λcg=>cV cg (fA 177 B 1 λch=>lA 3 ch (drew cf) λci=>
 sA 31 b (i 9) (drew cf) λcj=>kA 3 ch ci cj (sA 3 d ci cj λck=>R1 (some .ret) ck)) (R1 none cf)) (aft (λD cl=>bB .add 3 bm (i 1) λcm=>K3 (lU (D::(AX ds))) cm cl)
 (λD cn=>ng (D::(AX ds)) cn λco=>lA 31 b co λazw=>lA 3 d co λazx=>K (.tuple #[azw,azx]) co) λ_ _ _=>False)) (fA 27 p1 5 λcp=>lA 25 cp W λcq=>
 lN 25 cq λcr=>kP (λK4 cs ct=>∀_:Env,
 bA .lss 3 cs cr λcu=>cV cu (iA 25 cq cs λcv=>lA 85 cv ct λcw=>aL 85 ct λO cx=>sA 85 O cw cx λcy=>fA 85 O 0 λcz=>lA 82 cz cy λc0=>lN 82 c0 λc1=>
 kP (λK5 c2 c3=>∀_:Env,
 bA .lss 3 c2 c1 λc4=>cV c4 (iA 82 c0 c2 λc5=>lA 164 c5 c3 λc6=>aL 164 c3 λY c8=>sA 164 Y c6 c8 λU=>eQ (λK6=>fA 164 Y 0 λda=>lA 3 da U λdb=>
 bB .eql 3 db (i 2) λdc=>cV dc (fA 164 Y 2 λdd=>lA 9 dd U λde=>Lu hH (yC 165 j de false) U λdf=>bB .neq 3 df (i 1) λdg=>K6 dg U) (K6 ff U))
 (λdh di=>∀_:Env,
 cV dh (fA 164 Y 3 λdj=>lA 3 dj (drew di) λdk=>sA 31 b (i 9) (drew di) λdl=>kA 3 dj dk dl (sA 3 d dk dl λdm=>ng (AX ds) dm λdn=>lA 31 b dn λazy=>lA 3 d dn λazz=>
 K (.tuple #[azy,azz]) dn)) (bB .add 3 c2 (i 1) λdp=>K5 dp di))) (bB .add 3 cs (i 1) λdq=>K4 dq c3)) λK5=>K5 (i 0) cy) (sA 31 b (i 0) ct λdr=>sA 3 d (i 0) dr λdt=>
 ng (AX ds) dt λdu=>lA 31 b du λazA=>lA 3 d du λazB=>K (.tuple #[azA,azB]) du)) λK4=>K4 (i 0) W)) λK3=>K3 (lU []) (i 0) bk)) λK2=>K2 (i 0) az)))
 λZ=>Z (i 0) ac))
def P48:dM:=λi=>match i with
 | 20=>(.of [(0,[]),(1,[]),(2,[1]),(3,[])])
 | 29=>(.of [(0,[]),(1,[]),(2,[1]),(3,[])])
 | 38=>(.of [(0,[]),(1,[]),(2,[1]),(3,[])])
 | _=>.nil
theorem akY(p0:Value)(h:S48 w K p0):CR 48 [p0] w K:=
 qj 128 P48 12 [.cell 2 31,.cell 3 3] Tryz.func48 h
theorem azC:PL 48:=dR Tryz.func48
theorem asw:PL 114:=dR Tryz.func114
theorem asx:PL 194:=dR Tryz.func194
end Go.Proofs.YtpdlpabnlkofmaaGreatDoor
namespace Go.Proofs.YtpdlpabnlkofmaaGreatDoor
open Go.Fw
def C194(sv:Value)(ns:List Int)(s:Int)(w:World)(I:dD (λ_=>True) w sv ns)(W:ns.length<=1048576):CR 194 [sv,hZ s] w (λv w'=>v=hZ (sT (λy=>decide (y=s)) ns)/\Ext w w'):=by
 have u:=St.start w;refine fj Tryz.func194 ?_;refine aK cS (I.ext u.aG) ?_;refine⟨λm x J=>∃k:Nat,x=hZ (k:Int)/\m=ns.length-k/\k<=ns.length/\(∀y∈ns.take k,decide (y=s)=false)/\St w aX [] J,⟨_,0,rfl,rfl,l0 _,ei,u⟩,?_⟩;rintro m _ J ⟨k,rfl,rfl,U,B,u⟩ _;refine aR (aC (λO=>?_) λ_=>⟨g6 (nG .i64) (jm (by rw[kO cO]at B;exact B)).symm,u.aG⟩);obtain⟨V,E⟩:=gx ns (i:=(k:Int).toNat) cO;exact aQ cS I cO E (λ_ M=>aD bL (M.ext u.aG) (aH (aC (λG=>⟨g6 (nG .i64) (my B E (ez G.symm)).symm,u.aG⟩) λG=>aO cO ⟨_,cO,k+1,rfl,rfl,cO,eh B E (fV λh=>G h.symm),u⟩)))
def C114(sv:Value)(ns:List Int)(s:Int)(w:World)(B:dD (λ_=>True) w sv ns)(E:ns.length<=1048576):CR 114 [sv,hZ s] w (λv w'=>v=.bool (ns.any λy=>decide (y=s))/\Ext w w'):=by
 have u:=St.start w;refine fj Tryz.func114 ?_;exact aW asx u (C194 _ _ _ _ (B.ext u.aG) cO) (λ_ _ u=>cT ⟨vb (lh _ _),u.aG⟩)
def aaz{u:UU}{l:List bR}(h:u∈pa l):u.2.2.length<=1048576:=by
 have:u.2.2.length<=2:=by
  unfold pa at h
  obtain⟨x,_,h⟩:=List.mem_flatMap.1 h
  rw[C2]at h
  unfold tm uK C0 KB at h
  simp only[o8]at h
  grind
 omega
theorem C48(p:bZ)(pv:bO)(w:World)(hp:mi w pv p)(V:PZ p):CR 48 [ir pv] w (λv w'=>∃a:Int,v=.tuple #[hZ (fg p),hZ a]/\Ext w w'):=by
 have Pp:=hp;have aku:=Eu V.toPS;obtain⟨bK,bV,bM,aY,aZ,bH,rfl,cW,dK,dB,cE,cG,cU⟩:=hp;obtain⟨O,Z5,Z6⟩:=cE.open;obtain⟨J,QY,hD4⟩:=cG.open;have hn3:=Z6.1;have hn4:=hD4.1;have hD:=Z6.append hD4;have azD:=hD.1
 change (O++J).length=(gE p).length at azD
 have E:=St.start w;refine akY _ _ _ ?_;unfold S48;refine cM E (λbp w1 E=>gP E ajx rfl λb2 _ E=>gP E u0 rfl λb3 _ E=>aD er E.p2.At (dO asl (C107 p _ _ (Nk Pp E.aG) V) ?_));rintro _ _ ⟨bm,rfl,cI⟩;have E:=E.made cI;refine aM rfl (aM rfl (aM rfl (aD er E.p3.At (aW aqI E (C108 p _ _ (Nk Pp E.aG) V) λ_ he E=>bT (bD (λc=>?_) λc=>?_)))))
 .have h1:kH p=false:=by simpa using c
  have Z:fg p=8:=ce8 h1;exact aT E.p2 jU (dQ rfl) rfl (λ_ E=>aT E.p2 bL (dQ rfl) rfl λ_ E=>aB jU E.p1.hb rfl (aB bL E.hb rfl ⟨_,by rw[Z],E.aG⟩))
 have h1:kH p=true:=by simpa using c
 refine aD er E.p3.At (aW ar8 E (C109 p _ _ (Nk Pp E.aG) V) λ_ he E=>bD (λc=>?_) λc=>?_)
 .have h2:vm p=true:=c;have Z:fg p=2:=ce2 h1 h2;exact aT E.p2 jU (dQ rfl) rfl (λ_ E=>aT E.p2 bL (dQ rfl) rfl λ_ E=>aB jU E.p1.hb rfl (aB bL E.hb rfl ⟨_,by rw[Z],E.aG⟩))
 have h2:vm p=false:=c;refine aD er E.p3.At (dV TJ E (C110 p _ O J _ (Nk Pp E.aG) (Z5.ext E.aG) (QY.ext E.aG) (by have:=V.threads;omega) (by have:=V.recover;omega)) λx38 w38 cI E=>aK fF E.dW ?_);refine⟨λm x w1=>∃k:Nat,x=hZ (k:Int)/\m=(O++J).length-k/\k<=(O++J).length/\(∀y∈(gE p).take k,rP y.body=false)/\St w aX [bE x38 (O++J),nJ bm (DE p).1,bW b3 [hZ 0],bW b2 [hZ 0],bW bp (j0 (⟨bK,bV,bM,aY,aZ,bH⟩:bO))] w1,⟨_,0,rfl,rfl,l0 _,ei,E⟩,?_⟩;rintro m _ _ ⟨k,rfl,rfl,hk,I,E⟩ _
 refine aR (aC (λc=>?_) λc=>?_)
 .obtain⟨t,ht⟩:=gx (O++J) (i:=((k:Nat):Int).toNat) cO;obtain⟨r,G⟩:=gx (gE p) (i:=k) cO;have U:=kE G;have hrz:=V.rB U;have hrr:=(q9 h1).rB U;obtain⟨gr,gb,rfl,dr,db⟩:=hD.2 _ _ _ ht G;have hrs:=lK hrr.2.1;refine aQ fF E.dW cO ht (λq hq=>aD ny hq (aN E ud λbt wt E=>aJ (x:=(⟨r.name,gr,gb,r.at_⟩:cL)) E ny rfl rfl λwu E=>?_));obtain⟨aru,hbf,tb,hbt,jd,_,_⟩:=hrs;have Pk:tb.len<=40:=by rw[<- Bk.dC,<- hbt];exact aru
  have hwl:rP r.body=mS tb 1:=by rw[hbt];exact vZ jd
  refine aA lV (aB (v:=ir gb) jW E.hb rfl (dO aip (C111 _ tb 1 (tb.len+1) _ (by rw[<- hbt];exact DL.ext db E.aG) jd (by rw[<- hbt];exactλx hx=>Kk (hbf x hx)) cO cO (Nat.lt_succ_self _)) ?_));rintro _ _ ⟨aa,rfl,he⟩;have E:=E.ext he;refine aM rfl (aM rfl (bD (λc9=>?_) λc9=>?_))
  .have h3:(gE p).any (λt=>rP t.body)=true:=iw G (by rw[hwl];exact c9);have Z:fg p=11:=aq1 h1 h2 h3;exact aT E.p4 jU (dQ rfl) rfl (λ_ E=>aT E.p4 bL (dQ rfl) rfl λ_ E=>aB jU E.p1.hb rfl (aB bL E.hb rfl ⟨_,by rw[Z],E.aG⟩))
  exact aO cO (have E:=E.drop;⟨_,cO,k+1,rfl,rfl,cO,eh I G (by rw[hwl];exact c9),E⟩)
 have h3:(gE p).any (λt=>rP t.body)=false:=iL (by rw[kO cO]at I;exact I);have E:=E.drop;refine bD (λc10=>?_) (λc10=>?_)
 .have h4:kJ (fW p)=true:=by rw[<- aas];exact c10
  have Z:fg p=10:=aq2 h1 h2 h3 h4;exact aT E.p2 jU (dQ rfl) rfl (λ_ E=>aT E.p2 bL (dQ rfl) rfl λ_ E=>aB jU E.p1.hb rfl (aB bL E.hb rfl ⟨_,by rw[Z],E.aG⟩))
 have h4:kJ (fW p)=false:=by rw[<- aas];exact c10
 refine aD er E.p3.At (dV TJ E (C110 p _ O J _ (Nk Pp E.aG) (Z5.ext E.aG) (QY.ext E.aG) (by have:=V.threads;omega) (by have:=V.recover;omega)) λx56 _ cI E=>aK fF E.dW ?_)
 clear I
 refine⟨λm x w1=>∃k:Nat,x=hZ (k:Int)/\m=(O++J).length-k/\k<=(O++J).length/\(∀y∈(gE p).take k,vl p y.dY=false)/\St w aX [bE x56 (O++J),nJ bm (DE p).1,bW b3 [hZ 0],bW b2 [hZ 0],bW bp (j0 (⟨bK,bV,bM,aY,aZ,bH⟩:bO))] w1,⟨_,0,rfl,rfl,l0 _,ei,E⟩,?_⟩;rintro m _ _ ⟨k,rfl,rfl,hk,I,E⟩ _;refine aR (aC (λc=>?_) λc=>?_)
 .obtain⟨t,ht⟩:=gx (O++J) (i:=((k:Nat):Int).toNat) cO;obtain⟨r,G⟩:=gx (gE p) (i:=k) cO;have U:=kE G;have hrz:=V.rB U;have hrr:=(q9 h1).rB U;obtain⟨gr,gb,rfl,dr,db⟩:=hD.2 _ _ _ ht G;have hrs:=lK hrr.2.1;refine aQ fF E.dW cO ht (λq hq=>aD ny hq (aN E ud λbt wt E=>aJ (x:=(⟨r.name,gr,gb,r.at_⟩:cL)) E ny rfl rfl λwu E=>aD ny E.At (dO ais (C112 (⟨r.name,gr,gb,r.at_⟩:cL) r.dY bm (DE p).1 _ (DL.flat (DL.ext dr E.aG)) E.p2.nJ (Ra p) cO) ?_)))
  rcases KC h4 r.dY with⟨Cs,Hi⟩|⟨g,Cs,Hi,_⟩
  .rintro _ w24 (⟨_,rfl,he⟩|⟨g,bg,VB,_⟩);rotate_left
   .rw[Cs]at VB;cases VB
   have E:=E.ext he;have h5:(gE p).any (λt=>vl p t.dY)=true:=iw G Hi;refine aM rfl (aM rfl (hG (aA qS (have E:=E.drew;aB (v:=hZ r.at_) bL E.hb rfl ?_))));have Z:fg p=10:=aic h1 h2 h3 h4 h5;refine aT E.p4 jU (dQ rfl) rfl (λwa E=>?_);refine⟨aF bL (E.p1.hb.cell rfl),?_⟩;exact aT E.p4 bL (dQ rfl) rfl (λ_ E=>aB jU E.p1.hb rfl (aB bL E.hb rfl ⟨_,by rw[Z],E.aG⟩))
  rintro _ w24 (⟨VB,_⟩|⟨g2,bg,VB,rfl,cI⟩)
  .rw[Cs]at VB;cases VB
  have E:=(E.made cI).drop.drop;exact aM rfl (aM rfl (fx (aO cO ⟨_,cO,k+1,rfl,rfl,cO,eh I G Hi,E⟩)))
 have h5:(gE p).any (λt=>vl p t.dY)=false:=iL (by rw[kO cO]at I;exact I);have E:=E.drop;refine aD er E.p3.At (dV TJ E (C110 p _ O J _ (Nk Pp E.aG) (Z5.ext E.aG) (QY.ext E.aG) (by have:=V.threads;omega) (by have:=V.recover;omega)) λx73 _ cI E=>aK fF E.dW ?_)
 clear I
 have E:=Q8.nil E;refine⟨λm dv x w1=>∃(k:Nat) (ds:List Nat),dv=lU ds/\x=hZ (k:Int)/\m=(O++J).length-k/\k<=(O++J).length/\(∀y∈(gE p).take k,y.body.any (nD p y.dY)=false)/\St w aX [Q8 ds,bE x73 (O++J),nJ bm (DE p).1,bW b3 [hZ 0],bW b2 [hZ 0],bW bp (j0 (⟨bK,bV,bM,aY,aZ,bH⟩:bO))] w1,⟨_,0,[],rfl,rfl,rfl,l0 _,ei,E⟩,?_⟩;rintro m _ _ _ ⟨k,ds,rfl,rfl,rfl,hk,I,E⟩ _;rw[Cy];refine aR (aC (λc=>?_) λc=>?_)
 .obtain⟨t,ht⟩:=gx (O++J) (i:=((k:Nat):Int).toNat) cO;obtain⟨r,G⟩:=gx (gE p) (i:=k) cO;have U:=kE G;have hrz:=V.rB U;have hrr:=(q9 h1).rB U;obtain⟨gr,gb,rfl,dr,db⟩:=hD.2 _ _ _ ht G;have hrs:=lK hrr.2.1;refine aQ fF E.p1.dW cO ht (λq hq=>aD ny hq (aN E ud λbt wt E=>aJ (x:=(⟨r.name,gr,gb,r.at_⟩:cL)) E ny rfl rfl λwu E=>?_))
  have h5r:vl p r.dY=false:=by
   cases hh:vl p r.dY with
   | false=>rfl
   | true=>exact absurd (iw (g:=λt:cR=>vl p t.dY) G hh) (by rw[h5];decide)
  refine aD ny E.At (dO ais (C112 (⟨r.name,gr,gb,r.at_⟩:cL) r.dY bm (DE p).1 _ (DL.flat (DL.ext dr E.aG)) E.p3.nJ (Ra p) cO) ?_)
  rcases KC h4 r.dY with⟨_,Hi⟩|⟨g,Cs,Hi,_⟩
  .rw[Hi]at h5r;cases h5r
  rintro _ w31 (⟨VB,_⟩|⟨g2,bg,VB,rfl,cI⟩)
  .rw[Cs]at VB;cases VB
  obtain rfl:g=g2:=n5.inj (Cs.symm.trans VB);have E:=E.made cI;refine aM rfl (aM rfl (gP E SW rfl λb17 _ E=>aT E Ig (dQ rfl) rfl λ_ E=>aA lV (aB (v:=ir gb) jW E.p2.hb rfl (dO aso (C113 gb _) ?_))));rintro _ _ ⟨bu,rfl,asy⟩;have E:=E.made asy;have hbz:=hrz.1.2.2;have asz:=aay h4 Cs hrs.2.1;obtain⟨tsb,hRb,hDb⟩:=db.open
  refine aak (cap:=[.pointer (some ⟨bu,0,none⟩)]) (pa r.body).length (TN (pa r.body)) asp E
   (λj M=>(∀i,i<j->∀u,(pa r.body)[i]?=some u->D7 g u=false)/\M=[bW bu [ir gb],bW b17 [.map (some bg)],nJ bg g,bW bt (j0 (⟨r.name,gr,gb,r.at_⟩:cL)),Q8 ds,bE x73 (O++J),nJ bm (DE p).1,bW b3 [hZ 0],bW b2 [hZ 0],bW bp (j0 (⟨bK,bV,bM,aY,aZ,bH⟩:bO))])
   (λcx M=>cx=.ret/\(pa r.body).any (D7 g)=true/\∃a L,M=bW b3 [hZ a]::bW b2 [hZ 9]::Q8 ds::L) ⟨λ_ hi=>absurd hi (Nat.not_lt_zero _),rfl⟩ (by rintro j a Φ ⟨u,s,_,rfl,_⟩;rfl) ?_ ?_ ?_ ?_ ?_ ?_
  .intro y Y Jx W h0 hy;refine(C192 y bu (ir gb) tsb r.body w aX _ Jx W cO (λx hx=>⟨(hbz x hx).2.2.1,(hbz x hx).2.2.2.1⟩) ?_ ?_ hy).mono λ_ _ rr=>rr.mono λv W' h=>?_
   .rintro j _ W2 ⟨M,⟨_,rfl⟩,rfl⟩ hs2;exact⟨hs2.p1.hb.cell rfl,hRb.ext hs2.aG,hDb.ext hs2.aG⟩
   .obtain⟨M,h1,h2⟩:=h0;exact⟨_,⟨M,h1,rfl⟩,h2⟩
   rcases h with⟨_,⟨M,h1,rfl⟩,h2⟩|h
   .exact .inl ⟨M,h1,h2⟩
   exact .inr h
  .rintro j args Φ Y1 Y2 B Kr M W ⟨u,s,hu,rfl,VI⟩ ⟨hjn,rfl⟩ hΦ hB hN hR E;dsimp only[EY];refine aN E ad4 (λb9 _ E=>aJ (x:=(⟨u.1,u.2.1,s⟩:Kz)) E apH rfl rfl λ_ E=>?_);refine hB _ _ _ E.p1 (λw38 E=>?_);refine aA X4 (aB (v:=ir s) ey E.p1.hb rfl (aB Ig E.p3.hb rfl (aA X2 (aB (v:=.string u.1) gK E.p1.hb rfl (yR E.p4.nJ Tryz.underlying165 Tryz.underlying9 u0 ?_)))))
   have W0:dD (λ_=>True) w38 (ir s) u.2.2:=by
    obtain⟨F,h1,_⟩:=E.head;exact VI _ (hΦ _ _ h1)
   have hul:u.2.2.length<=1048576:=aaz (kE hu);refine aW asw E (C114 _ u.2.2 (eP g u.1) _ W0 hul) (λ_ he E=>bT (bD (λc11=>aA X3 (have E:=E.drew;aB (v:=hZ u.2.1) bL E.p1.hb rfl (have E:=E.p2.drop;aT E.p9 jU (dQ rfl) rfl λ_ E=>⟨aF bL (E.p2.hb.cell rfl),aT E.p9 bL (dQ rfl) rfl λ_ E=>hR .ret _ _ E.p7.p2.p2.p3 ⟨rfl,iw hu (by unfold D7;exact c11),_,_,rfl⟩⟩))) λc11=>?_));refine hN _ _ E.p1.drop ⟨λi hi u2 hu2=>?_,rfl⟩
   rcases P5 i j with h|h
   .exact hjn i h u2 hu2
   obtain rfl:i=j:=cO
   rw[hu]at hu2;cases hu2
   unfold D7;exact c11
  .rintro D M W ⟨hjn,rfl⟩ E;refine aO cO ?_;have E:=St.join (H1:=nX D (.deferred (some []))) E.p1.drop.p1.drop.p1.drop.p1.drop;refine⟨_,cO,k+1,D::ds,rfl,rfl,rfl,cO,eh I G ?_,E⟩;rw[<- asz];refine iL λu hu=>?_;obtain⟨i,hi⟩:=xO.1 hu;exact hjn i (kB.1 hi).1 u hi
  .rintro D M W ⟨_,azH,a,L,rfl⟩ E;have h6:(gE p).any (λt=>t.body.any (nD p t.dY))=true:=iw G (by rw[<- asz];exact azH);have Z:fg p=9:=ce9 h1 h2 h3 h4 h5 h6;have E:=St.join (H1:=nX D (.deferred (some []))) E.p3.p1;refine Q8.take (D::ds) E (λ_ E=>?_);exact aB jU E.p1.hb rfl (aB bL E.hb rfl ⟨_,by rw[Z],E.aG⟩)
  .rintro id D M W ⟨h,_⟩;cases h
  rintro cx M ⟨h,_⟩;exact .inr h
 have h6:(gE p).any (λt=>t.body.any (nD p t.dY))=false:=iL (by rw[kO cO]at I;exact I);have E:=E.p1.drop;have hzc:=V.eb;obtain⟨ts5,hR5,hD5⟩:=cU.open;have EA:=hD5.1;refine aA jB (aB (v:=ir bH) rz E.p4.hb rfl (aK tT (hR5.ext E.aG) ?_))
 clear I
 refine⟨λm x w1=>∃k:Nat,x=hZ (k:Int)/\m=ts5.length-k/\k<=ts5.length/\(∀y∈p.eb.take k,pK y.e (gF p)=false)/\St w aX [Q8 ds,nJ bm (DE p).1,bW b3 [hZ 0],bW b2 [hZ 0],bW bp (j0 (⟨bK,bV,bM,aY,aZ,bH⟩:bO))] w1,⟨_,0,rfl,rfl,l0 _,ei,E⟩,?_⟩;rintro m _ _ ⟨k2,rfl,rfl,xd,I,E⟩ _;refine aR (aC (λc12=>?_) λc12=>?_)
 .obtain⟨t,ht⟩:=gx ts5 (i:=((k2:Nat):Int).toNat) cO;obtain⟨r,G⟩:=gx p.eb (i:=k2) cO;have hrz:=V.zc r (kE G);obtain⟨ge,rfl,de⟩:=hD5.2 _ _ _ ht G;have dE:=DL.flat de;refine aQ tT (hR5.ext E.aG) cO ht (λq hq=>aD JT hq (aN E PX λbc _ E=>aJ (x:=(⟨ge,r.at_⟩:jF)) E JT rfl rfl λ_ E=>aA vQ (aB (v:=ir ge) jC E.hb rfl (aK il (dE.ext E.aG) ?_))));have hvc:=Rc h4 r.e;refine⟨λm x w1=>∃j:Nat,x=hZ (j:Int)/\m=r.e.length-j/\j<=r.e.length/\(∀y∈r.e.take j,(decide (y.op=2)&&decide (¬ eP (DE p).1 y.name=1))=false)/\St w aX [bW bc (j0 (⟨ge,r.at_⟩:jF)),Q8 ds,nJ bm (DE p).1,bW b3 [hZ 0],bW b2 [hZ 0],bW bp (j0 (⟨bK,bV,bM,aY,aZ,bH⟩:bO))] w1,⟨_,0,rfl,rfl,l0 _,ei,E⟩,?_⟩
  rintro m _ _ ⟨j,rfl,rfl,hj,hnj,E⟩ _;refine aR (aC (λc13=>?_) λc13=>?_)
  .obtain⟨y,hy⟩:=gx r.e (i:=((j:Nat):Int).toNat) cO;refine aQ il (dE.ext E.aG) cO hy (λq hq=>aD sK hq (aN E yL λby_ _ E=>aJ (x:=y) E sK rfl rfl λw50 E=>?_));refine⟨λjv w'=>jv=.bool (decide (y.op=2)&&decide (¬ eP (DE p).1 y.name=1))/\w'=w50,?_,?_⟩
   .exact aA fm (aB (v:=hZ y.op) bL E.hb rfl (aH (aC (λc14=>aA gC (aB (v:=.string y.name) gK E.hb rfl (yR E.p3.nJ Tryz.underlying165 Tryz.underlying9 u0 (bQ ⟨vb (by rw[ez c14,Av]),rfl⟩)))) λc14=>⟨vb (by rw[fV c14,SE]),rfl⟩)))
   rintro _ _ ⟨rfl,rfl⟩ _;refine bD (λc15=>?_) (λc15=>aO cO ⟨_,cO,j+1,rfl,rfl,cO,eh hnj hy c15,E.drop⟩);have h7:p.eb.any (λc=>pK c.e (gF p))=true:=iw G (by rw[<- hvc];exact iw hy c15);have Z:fg p=9:=aq3 h1 h2 h3 h4 h5 h6 h7;refine aA sL (have E:=E.drew;aB (v:=hZ y.at_) bL E.hb rfl (aT E.p5 jU (dQ rfl) rfl λwa E=>?_));refine⟨aF bL (E.p1.hb.cell rfl),?_⟩;refine aT E.p5 bL (dQ rfl) rfl (λwb E=>?_);refine Q8.take ds E.p4 (λw54 E=>?_);exact aB jU E.p1.hb rfl (aB bL E.hb rfl ⟨_,by rw[Z],E.aG⟩)
  refine aO cO ?_;refine⟨_,cO,k2+1,rfl,rfl,cO,eh I G ?_,E.drop⟩;rw[<- hvc];exact iL (by rw[kO cO]at hnj;exact hnj)
 have h7:p.eb.any (λc=>pK c.e (gF p))=false:=iL (by rw[kO cO]at I;exact I);have Z:fg p=0:=ce0 h1 h2 h3 h4 h5 h6 h7;refine aT E.p3 jU (dQ rfl) rfl (λwa E=>aT E.p3 bL (dQ rfl) rfl λwb E=>?_);refine Q8.take ds E.p2 (λw54 E=>?_);exact aB jU E.p1.hb rfl (aB bL E.hb rfl ⟨_,by rw[Z],E.aG⟩)
def C83(sv:Value)(xs:List Int)(w:World)(E:dD (λ_=>True) w sv xs)(O:xs.length<=1000000):CR 83 [sv] w (λv w'=>kq (bE v xs) w w'):=by
 have u:=St.start w;refine fj Tryz.func83 ?_;refine Ik Tryz.underlying41 (E.ext u.aG) (λp G=>bD (λB=>?_) λB=>?_)
 .have J:=G B;subst J;exact(u.eK (α:=Int)).fresh
 refine aV ([]:List Int) u cS rfl rfl (dQ rfl) (λM _ u=>?_);have I:=(E.ext u.aG);exact bI u cS I (by simp;omega) ee (λ_ _ u=>u.fresh)
def kh(x y:bJ):Bool:=decide (x.kind≠7/\y.kind≠7/\(x.kind=6\/y.kind=6)/\x.line≠y.line)
def right(x:bJ):Bool:=decide ((x.kind=3/\0<=x.line/\0<=x.cell)\/((x.kind=5\/x.kind=6)/\0<=x.line/\x.cell=0/\x.n=0)\/(x.kind=7/\x.line=0/\x.cell=0/\x.n=0))
def C260(x y:bJ)(w:World):CR 260 [ir x,ir y] w (λv w'=>v=.bool (kh x y)/\Ext w w'):=by
 have u:=St.start w;refine fj Tryz.func260 ?_;refine cM u (λU _ u=>cM u λE _ u=>?_);refine⟨_,?_,λ_ _ h=>h⟩;refine aA gV (aB bL u.p1.hb rfl (aH (aC (λJ=>?_) λJ=>?_)))
 .intro O;refine⟨_,?_,λ_ _ h=>h⟩;refine bT (fx ?_);intro B;refine⟨vb ?_,u.aG⟩;unfold kh
  first|exact(ez cO).symm|exact(fV cO).symm|exact ga.2 cO|exact ga.2 (bJ.ext_iff.trans (by dsimp only;omega))
 refine aA gV (aB bL u.hb rfl (aH ?_));intro O;refine⟨_,?_,λ_ _ h=>h⟩
 first|refine L9 ?_|refine bT ?_
 refine aC (λM=>aA gV (aB bL u.p1.hb rfl (aH (aC (λI=>?_) λI=>aA gV (aB bL u.hb rfl (aH (aC (λG=>?_) λG=>?_))))))) (λM=>?_)
 .refine aA iq (aB bL u.p1.hb rfl (aA iq (aB bL u.hb rfl (bQ ?_))));intro B;refine⟨vb ?_,u.aG⟩;unfold kh
  first|exact(ez cO).symm|exact(fV cO).symm|exact ga.2 cO|exact ga.2 (bJ.ext_iff.trans (by dsimp only;omega))
 .refine aA iq (aB bL u.p1.hb rfl (aA iq (aB bL u.hb rfl (bQ ?_))));intro B;refine⟨vb ?_,u.aG⟩;unfold kh
  first|exact(ez cO).symm|exact(fV cO).symm|exact ga.2 cO|exact ga.2 (bJ.ext_iff.trans (by dsimp only;omega))
 .intro B;refine⟨vb ?_,u.aG⟩;unfold kh
  first|exact(ez cO).symm|exact(fV cO).symm|exact ga.2 cO|exact ga.2 (bJ.ext_iff.trans (by dsimp only;omega))
 intro B;refine⟨vb ?_,u.aG⟩;unfold kh
 first|exact(ez cO).symm|exact(fV cO).symm|exact ga.2 cO|exact ga.2 (bJ.ext_iff.trans (by dsimp only;omega))
def C222(x y:bJ)(w:World):CR 222 [ir x,ir y] w (λv w'=>v=.bool (kh x y)/\Ext w w'):=by
 have u:=St.start w;refine fj Tryz.func222 ?_;refine cM u (λU _ u=>cM u λE _ u=>?_);refine⟨_,?_,λ_ _ h=>h⟩;refine aA gV (aB bL u.p1.hb rfl (aH (aC (λM=>?_) λM=>aA gV (aB bL u.hb rfl (aH (aC (λI=>?_) λI=>?_))))))
 .intro B;refine hG ?_;refine⟨vb ?_,u.aG⟩;unfold kh
  first|exact(ez cO).symm|exact(fV cO).symm|exact ga.2 cO|exact ga.2 (bJ.ext_iff.trans (by dsimp only;omega))
 .intro B;refine hG ?_;refine⟨vb ?_,u.aG⟩;unfold kh
  first|exact(ez cO).symm|exact(fV cO).symm|exact ga.2 cO|exact ga.2 (bJ.ext_iff.trans (by dsimp only;omega))
 refine aA iq (aB bL u.p1.hb rfl (aA iq (aB bL u.hb rfl (aH ?_))));intro B;refine aC (λG=>?_) (λG=>⟨_,aA gV (aB bL u.p1.hb rfl (aH (aC (λJ=>?_) λJ=>?_))),λ_ _ h=>h⟩)
 .refine⟨vb ?_,u.aG⟩;unfold kh
  first|exact(ez cO).symm|exact(fV cO).symm|exact ga.2 cO|exact ga.2 (bJ.ext_iff.trans (by dsimp only;omega))
 .intro O;refine⟨vb ?_,u.aG⟩;unfold kh
  first|exact(ez cO).symm|exact(fV cO).symm|exact ga.2 cO|exact ga.2 (bJ.ext_iff.trans (by dsimp only;omega))
 refine aA gV (aB bL u.hb rfl (aH ?_));intro O;refine⟨vb ?_,u.aG⟩;unfold kh
 first|exact(ez cO).symm|exact(fV cO).symm|exact ga.2 cO|exact ga.2 (bJ.ext_iff.trans (by dsimp only;omega))
def eqE(x y:bJ):A4 (j0 x) (j0 y)=decide (x=y):=by
 obtain⟨a,b,c,d⟩:=x
 obtain⟨u,b2,E,B⟩:=y
 simp[j0,A4,eqV,J8]
def C228(x:bJ)(w:World):CR 228 [ir x] w (λv w'=>v=.bool (right x)/\Ext w w'):=by
 have u:=St.start w;refine fj Tryz.func228 ?_;refine cM u (λW _ u=>aA gV (aB bL u.hb rfl (aH (aC (λO=>⟨_,aA iq (aB bL u.hb rfl (cT (aC (λU=>?_) λU=>?_))),λ_ _ h=>h⟩) λO=>⟨_,aH (aC (λJ=>?_) λJ=>?_),λ_ _ h=>h⟩))))
 .refine aA mJ (aB bL u.hb rfl (cT ?_));intro M;refine⟨vb ?_,u.aG⟩;unfold right
  first|exact(ez cO).symm|exact(fV cO).symm|exact ga.2 cO|exact ga.2 (bJ.ext_iff.trans (by dsimp only;omega))
 .intro M;refine⟨vb ?_,u.aG⟩;unfold right
  first|exact(ez cO).symm|exact(fV cO).symm|exact ga.2 cO|exact ga.2 (bJ.ext_iff.trans (by dsimp only;omega))
 .intro V;refine aC (λE=>⟨_,aA iq (aB bL u.hb rfl (cT (aC (λG=>aA mJ (aB bL u.hb rfl (aH (aC (λI=>?_) λI=>?_)))) λG=>?_))),λ_ _ h=>h⟩) (λE=>?_)
  .refine aA pC (aB bL u.hb rfl (aH ?_));intro B;refine⟨vb ?_,u.aG⟩;unfold right
   first|exact(ez cO).symm|exact(fV cO).symm|exact ga.2 cO|exact ga.2 (bJ.ext_iff.trans (by dsimp only;omega))
  .intro B;refine⟨vb ?_,u.aG⟩;unfold right
   first|exact(ez cO).symm|exact(fV cO).symm|exact ga.2 cO|exact ga.2 (bJ.ext_iff.trans (by dsimp only;omega))
  .intro B;refine⟨vb ?_,u.aG⟩;unfold right
   first|exact(ez cO).symm|exact(fV cO).symm|exact ga.2 cO|exact ga.2 (bJ.ext_iff.trans (by dsimp only;omega))
  refine aD iF u.At (pop (Bg _) (Ib Yg rfl rfl (eqE x ⟨7,0,0,0⟩) ?_));refine⟨vb ?_,u.aG⟩;unfold right
  first|exact(ez cO).symm|exact(fV cO).symm|exact ga.2 cO|exact ga.2 (bJ.ext_iff.trans (by dsimp only;omega))
 refine aH ?_;intro V;refine aC (λE=>⟨_,aA iq (aB bL u.hb rfl (cT (aC (λG=>aA mJ (aB bL u.hb rfl (aH (aC (λI=>?_) λI=>?_)))) λG=>?_))),λ_ _ h=>h⟩) (λE=>?_)
 .refine aA pC (aB bL u.hb rfl (aH ?_));intro B;refine⟨vb ?_,u.aG⟩;unfold right
  first|exact(ez cO).symm|exact(fV cO).symm|exact ga.2 cO|exact ga.2 (bJ.ext_iff.trans (by dsimp only;omega))
 .intro B;refine⟨vb ?_,u.aG⟩;unfold right
  first|exact(ez cO).symm|exact(fV cO).symm|exact ga.2 cO|exact ga.2 (bJ.ext_iff.trans (by dsimp only;omega))
 .intro B;refine⟨vb ?_,u.aG⟩;unfold right
  first|exact(ez cO).symm|exact(fV cO).symm|exact ga.2 cO|exact ga.2 (bJ.ext_iff.trans (by dsimp only;omega))
 refine aD iF u.At (pop (Bg _) (Ib Yg rfl rfl (eqE x ⟨7,0,0,0⟩) ?_));refine⟨vb ?_,u.aG⟩;unfold right
 first|exact(ez cO).symm|exact(fV cO).symm|exact ga.2 cO|exact ga.2 (bJ.ext_iff.trans (by dsimp only;omega))
def C277(x:bJ)(w:World):CR 277 [ir x] w (λv w'=>v=.bool (right x)/\Ext w w'):=by
 have u:=St.start w;refine fj Tryz.func277 ?_;refine cM u (λAk _ u=>aA gV (aB bL u.hb rfl (aH (aC (λE=>⟨_,aA iq (aB bL u.hb rfl (cT (aC (λM=>?_) λM=>?_))),λ_ _ h=>h⟩) λE=>⟨_,aA mJ (aB bL u.hb rfl (bQ (aC (λW=>?_) λW=>?_))),λ_ _ h=>h⟩))))
 .refine aA mJ (aB bL u.hb rfl (cT ?_));intro O;refine⟨vb ?_,u.aG⟩;unfold right
  first|exact(ez cO).symm|exact(fV cO).symm|exact ga.2 cO|exact ga.2 (bJ.ext_iff.trans (by dsimp only;omega))
 .intro O;refine⟨vb ?_,u.aG⟩;unfold right
  first|exact(ez cO).symm|exact(fV cO).symm|exact ga.2 cO|exact ga.2 (bJ.ext_iff.trans (by dsimp only;omega))
 .intro V;refine hG ?_;refine⟨vb ?_,u.aG⟩;unfold right
  first|exact(ez cO).symm|exact(fV cO).symm|exact ga.2 cO|exact ga.2 (bJ.ext_iff.trans (by dsimp only;omega))
 refine aA pC (aB bL u.hb rfl (bQ ?_));intro V;refine aC (λlg=>?_) (λlg=>⟨_,aA gV (aB bL u.hb rfl (aH (aC (λY=>aA iq (aB bL u.hb rfl (cT (aC (λU=>?_) λU=>aA gV (aB bL u.hb rfl (aH (aC (λZ=>?_) λZ=>?_))))))) λY=>?_))),λ_ _ h=>h⟩)
 .refine⟨vb ?_,u.aG⟩;unfold right
  first|exact(ez cO).symm|exact(fV cO).symm|exact ga.2 cO|exact ga.2 (bJ.ext_iff.trans (by dsimp only;omega))
 .intro B;refine⟨vb ?_,u.aG⟩;unfold right
  first|exact(ez cO).symm|exact(fV cO).symm|exact ga.2 cO|exact ga.2 (bJ.ext_iff.trans (by dsimp only;omega))
 .refine aA iq (aB bL u.hb rfl (aH ?_));intro B;refine⟨vb ?_,u.aG⟩;unfold right
  first|exact(ez cO).symm|exact(fV cO).symm|exact ga.2 cO|exact ga.2 (bJ.ext_iff.trans (by dsimp only;omega))
 .intro B;refine⟨vb ?_,u.aG⟩;unfold right
  first|exact(ez cO).symm|exact(fV cO).symm|exact ga.2 cO|exact ga.2 (bJ.ext_iff.trans (by dsimp only;omega))
 refine aA gV (aB bL u.hb rfl (aH (aC (λNG=>aA iq (aB bL u.hb rfl (cT (aC (λI=>?_) λI=>aA gV (aB bL u.hb rfl (aH (aC (λG=>?_) λG=>?_))))))) λNG=>aA gV (aB bL u.hb rfl (aH (aC (λJ=>?_) λJ=>?_))))))
 .intro B;refine⟨vb ?_,u.aG⟩;unfold right
  first|exact(ez cO).symm|exact(fV cO).symm|exact ga.2 cO|exact ga.2 (bJ.ext_iff.trans (by dsimp only;omega))
 .refine aA iq (aB bL u.hb rfl (aH ?_));intro B;refine⟨vb ?_,u.aG⟩;unfold right
  first|exact(ez cO).symm|exact(fV cO).symm|exact ga.2 cO|exact ga.2 (bJ.ext_iff.trans (by dsimp only;omega))
 .intro B;refine⟨vb ?_,u.aG⟩;unfold right
  first|exact(ez cO).symm|exact(fV cO).symm|exact ga.2 cO|exact ga.2 (bJ.ext_iff.trans (by dsimp only;omega))
 .refine aA iq (aB bL u.hb rfl (aH ?_));intro B;refine⟨vb ?_,u.aG⟩;unfold right
  first|exact(ez cO).symm|exact(fV cO).symm|exact ga.2 cO|exact ga.2 (bJ.ext_iff.trans (by dsimp only;omega))
 intro B;refine⟨vb ?_,u.aG⟩;unfold right
 first|exact(ez cO).symm|exact(fV cO).symm|exact ga.2 cO|exact ga.2 (bJ.ext_iff.trans (by dsimp only;omega))
def r8(l:List bJ)(i:Int):Bool:=decide (0<=i/\i<l.length)&&(match l[i.toNat]? with|some x=>(l.take i.toNat).all (kh x)|none=>false)
def qe(l:List bJ):List Int:=((tU l.length).map fun (k:Nat)=>(k:Int)).filter (r8 l)
theorem mg{l:List bJ}{i:Int}(h:i<0\/(l.length:Int)<=i):r8 l i=false:=by
 grind[r8]
theorem TS{l:List bJ}{i:Int}{x:bJ}(u:0<=i)(h1:i<l.length)(B:l[i.toNat]?=some x):r8 l i = !(l.take i.toNat).any λy=>!kh x y:=by
 grind[r8,kh]
def tn(l:List bJ)(k:Nat):List Int:=((tU k).map fun (k:Nat)=>(k:Int)).filter (r8 l)
def IH(l:List bJ)(k:Nat):(tn l k).length<=k:=by
 grind[tn]
theorem Gr{l:List bJ}{k:Nat}(h:r8 l k=true):tn l (k+1)=tn l k++[(k:Int)]:=by
 unfold tn;rw[HZ,wk,Bq];simp[h]
theorem II{l:List bJ}{k:Nat}(h:r8 l k=false):tn l (k+1)=tn l k:=by
 unfold tn;rw[HZ,wk,Bq];simp[h]
theorem Gs(l:List bJ){k:Nat}(h:k=l.length):tn l k=qe l:=by subst h;rfl
def uL(w:World)(p:Nat)(room:Int)(l:List bJ):Prop:=∃sv,Cell w p 0 (hZ room)/\Cell w p 1 sv/\dD (λ_=>True) w sv l
def jr(p:Nat)(room:Int)(l:List bJ):HP:=qm λsv=>sep (bW p [hZ room,sv]) (bE sv l)
theorem uL.ext{w w':World}{p:Nat}{room:Int}{l:List bJ}(h:uL w p room l)(e:Ext w w'):uL w' p room l:=by
 obtain⟨sv,h1,h2,h3⟩:=h;exact⟨sv,h1.ext e,h2.ext e,h3.ext e⟩
def jr.rd{w:World}{F:Nat->Prop}{p:Nat}{room:Int}{l:List bJ}(h:(jr p room l).p w F):uL w p room l:=by
 obtain⟨sv,B,u,h1,h2,_⟩:=h
 exact⟨sv,h1.1.cell rfl,h1.1.cell rfl,(bE.rd h2).mono λ_ _=>trivial⟩
def C297(sv fv:Value)(xs:List bJ)(g:bJ->Bool)(w:World)(J:dD (λ_=>True) w sv xs)(W:wY w fv g)(hn:xs.length<=1073741824):CR 297 [sv,fv] w (λv w'=>v=hZ (sT g xs)/\Ext w w'):=by
 obtain⟨Z,first,cap,rfl,U,M⟩:=W;have u:=St.start w;refine fj Tryz.func297 ?_;refine aK gd (J.ext u.aG) ?_;refine⟨λm x I=>∃k:Nat,x=hZ (k:Int)/\m=xs.length-k/\k<=xs.length/\(∀y∈xs.take k,g y=false)/\St w aX [] I,⟨_,0,rfl,rfl,l0 _,ei,u⟩,?_⟩;rintro m _ I ⟨k,rfl,rfl,hk,B,u⟩ _;refine aR (aC (λjQ=>?_) λ_=>⟨g6 (nG .i64) (jm (by rw[kO cO]at B;exact B)).symm,u.aG⟩);obtain⟨V,E⟩:=gx xs (i:=(k:Int).toNat) cO;refine aQ gd (J.ext u.aG) cO E (λ_ O=>aD iF O (ij U (M V I u.aG) ?_))
 rintro _ _ ⟨rfl,Y⟩;have u:=u.ext Y;exact bD (λG=>⟨g6 (nG .i64) (my B E G).symm,u.aG⟩) (λG=>aO cO ⟨xs.length-(k+1),cO,k+1,rfl,rfl,cO,eh B E G,u⟩)
def C261(sv fv:Value)(xs:List bJ)(g:bJ->Bool)(w:World)(B:dD (λ_=>True) w sv xs)(E:wY w fv g)(G:xs.length<=1073741824):CR 261 [sv,fv] w (λv w'=>v=.bool (xs.any g)/\Ext w w'):=by
 have u:=St.start w;refine fj Tryz.func261 ?_;exact aW apg u (C297 _ _ _ _ _ (B.ext u.aG) (E.ext u.aG) cO) (λ_ _ u=>cT ⟨vb (lh _ _),u.aG⟩)
def C259(x y:bJ)(p b2 b3:Nat)(i:Int)(room:Int)(l:List bJ)(w:World)(h2:Cell w b2 0 (.pointer (some ⟨p,0,none⟩)))(h3:Cell w b3 0 (hZ i))(hb:uL w p room l)(I:0<=i)(B:l[i.toNat]?=some x):CR 259 [ir y,.pointer (some ⟨b2,0,none⟩),.pointer (some ⟨b3,0,none⟩)] w (λv w'=>v=.bool (!kh x y)/\Ext w w'):=by
 obtain⟨sv,O,J,E⟩:=hb;have M:=(kB.1 B).1;have u:=St.start w;refine pj Tryz.func259 (pl:=axh) ?_;exact cM u (λ_ _ u=>have u:=u.drew;bN A7 (h2.ext u.aG) (aE (aA ld (bN iV (J.ext u.aG) (bN bL (h3.ext u.aG) (aQ gd (E.ext u.aG) I B λ_ G=>aD iF G (aD iF u.At (aW ao3 u (C260 x y _) λ_ _ u=>bT ⟨rfl,u.aG⟩))))))))
def C216(p:Nat)(i:Int)(room:Int)(l:List bJ)(w:World)(hb:uL w p room l)(hn:l.length<=1073741824):CR 216 [.pointer (some ⟨p,0,none⟩),hZ i] w (λv w'=>v=.bool (r8 l i)/\Ext w w'):=by
 have G:=hb;obtain⟨sv,Ds,M,O⟩:=hb;have u:=St.start w;refine pj Tryz.func216 (pl:=axa) ?_;refine nQ u rfl (λB V u=>nQ u rfl λE _ u=>?_);refine⟨_,?_,λ_ _ h=>h⟩;have u:=u.drew;refine aB bL u.hb rfl (aR (aC (λZ=>?_) λZ=>?_))
 .intro Y;exact hG ⟨vb (mg cO).symm,u.aG⟩
 refine aB bL u.hb rfl (aB A7 u.p1.hb rfl (aE (aA ld (bN iV (M.ext u.aG) (aK gd (O.ext u.aG) (cT ?_))))));intro Y;refine aC (λ_=>⟨vb (mg cO).symm,u.aG⟩) (λeE=>have u:=u.drew;aB A7 u.p1.hb rfl (aE (aA ld (bN iV (M.ext u.aG) (aB bL u.hb rfl (ml gd (O.ext u.aG) cO cO λW q8=>?_))))));obtain⟨x,U⟩:=gx l (i:=i.toNat) cO
 have J:wY _ (.func (.func 259) [].toArray [.pointer (some ⟨B,0,none⟩),.pointer (some ⟨E,0,none⟩)].toArray) (λy=>!kh x y):=
  ⟨259,[],_,rfl,ao2,λy V I=>C259 x y p B E i room l V ((u.p1.hb.cell rfl).ext I) ((u.hb.cell rfl).ext I) ((G.ext u.aG).ext I) cO U⟩
 exact aW ao4 u (C261 _ _ _ _ _ q8 J (by rw[l1];omega)) (λ_ _ u=>bT ⟨vb (TS cO cO U).symm,u.aG⟩)
def C215(p:Nat)(room:Int)(l:List bJ)(w:World)(hb:uL w p room l):CR 215 [.pointer (some ⟨p,0,none⟩)] w (λv w'=>v=.bool (decide (room<=l.length))/\Ext w w'):=by
 obtain⟨sv,B,E,G⟩:=hb;have u:=St.start w;refine pj Tryz.func215 (pl:=aw9) ?_;exact aE (aA ld (have u:=u.drew;bN iV (E.ext u.aG) (aK gd (G.ext u.aG) (aE (aA X5 (bN bL (B.ext u.aG) (cT ⟨rfl,u.aG⟩)))))))
def C139(p:Nat)(room:Int)(l:List bJ)(w:World)(hb:uL w p room l)(hn:l.length<=1048576):CR 139 [.pointer (some ⟨p,0,none⟩)] w (λv w'=>kq (bE v (qe l)) w w'):=by
 have B:=hb;obtain⟨sv,Ds,U,J⟩:=hb;have u:=St.start w;refine fj Tryz.func139 ?_;refine aE (aA ld (bN iV (U.ext u.aG) (aK gd (J.ext u.aG) ?_)));refine⟨λm o x G=>∃k:Nat,x=hZ (k:Int)/\m=l.length-k/\k<=l.length/\St w aX [bE o (tn l k)] G,⟨_,0,rfl,rfl,l0 _,u.eK⟩,?_⟩;rintro m o _ G ⟨k,rfl,rfl,hk,u⟩ _;have W:=IH l k;refine aR (aC (λI=>⟨_,aW ahl u (C216 _ _ _ _ _ (B.ext u.aG) cO) (λ_ Y u=>bD (λE=>?_) λE=>?_),λ_ _ h=>h⟩) λI=>?_)
 .refine aV ([(k:Int)]:List Int) u cS rfl rfl (dQ rfl) (λV _ u=>?_);have O:=u.dW;refine bI u.p1 cS O (by simp<;>omega) ee (λZ _ u=>?_);have u:=u.p1.drop;intro M;exact aO cO ⟨l.length-(k+1),cO,k+1,rfl,rfl,cO,by rw[Gr E];exact u⟩
 .intro M;exact aO cO ⟨l.length-(k+1),cO,k+1,rfl,rfl,cO,by rw[II E];exact u⟩
 rw[Gs l cO]at u;exact u.fresh
def NP(room:Int)(l:List bJ)(x:bJ):Int:=if right x=true then(if room<=l.length then 2 else 0)else 1
def tu(room:Int)(l:List bJ)(x:bJ):List bJ:=if right x=true/\¬ room<=l.length then l++[x]else l
def dL(l:List bJ)(i:Int):bJ:=if r8 l i=true then(l[i.toNat]?).getD ⟨0,0,0,0⟩else⟨0,0,0,0⟩
def ye(l:List bJ)(i:Int):Int:=if 0<=i/\i<l.length then(if r8 l i=true then 0 else 13)else 1
def j4(l:List bJ)(i:Int):List bJ:=if r8 l i=true then l.eraseIdx i.toNat else l
theorem afD{l:List bJ}{i:Int}(h:r8 l i=true):0<=i/\i<l.length:=by
 unfold r8 at h;grind
def uL.mk'{w:World}{p:Nat}{room:Int}{sv:Value}{l:List bJ}(h1:nh w p [hZ room,sv])(h2:dD (λ_=>True) w sv l):uL w p room l:=
 ⟨sv,h1.cell rfl,h1.cell rfl,h2⟩
def jr.shut{w0 w:World}{A:Nat->Prop}{R:List HP}{p:Nat}{room:Int}{sv:Value}{l:List bJ}(u:St w0 A (bW p [hZ room,sv]::bE sv l::R) w):St w0 A (jr p room l::R) w:=
 St.eB (H:=λsv=>sep (bW p [hZ room,sv]) (bE sv l)) sv (St.join u)
def EB{w0 w:World}{A:Nat->Prop}{R:List HP}{p:Nat}{room:Int}{l:List bJ}(u:St w0 A (jr p room l::R) w):uL w p room l:=by
 obtain⟨F,h,_⟩:=u.head;exact jr.rd h
def C224(v:Value)(i:Int)(xs:List bJ)(F:Nat->Prop)(w:World)(V:(bE v xs).p w F)(h0:0<=i)(hi:i<xs.length)(hn:xs.length<=1073741824) :
  CR 224 [v,hZ i,hZ (i+1)] w (λv' w'=>True/\nd F (bE v' (xs.eraseIdx i.toNat)) w w'):=by
 obtain⟨i,rfl⟩:=Int.eq_ofNat_of_zero_le h0;replace hi:i<xs.length:=cO
 rw[pd];have W0:=bE.rd V;obtain⟨b,cap,rest,rfl,hb,B,G⟩:=sn V hi;have hlen:(flat xs).length=xs.length*4:=dG xs;have A1:xs.length<=cap:=B.1;replace B:=B.2
 change cap*4<=_ at B
 refine adH _ _ _ _ _ ?_;unfold S224;refine pop (JN gd) (Yi gd cO cO cO cO λ_=>aH (aC (λc=>absurd c cO) λ_=>pop (JN gd) ?_))
 have J:pr hH (n0 179 (.slice (some ⟨b,0,none⟩) xs.length cap) none (some (hZ (i:Int))) none)=some (.slice (some ⟨b,0,none⟩) i cap):=by
  rw[xq gd (l:=0) (h:=i) (oU (.inl ⟨rfl,rfl⟩) (.inr ⟨_,rfl,cO,cO⟩) cO cO)];simp[gT]
 refine pop J (CC gd W0 cO cO λs25 u=>?_);rw[show((i:Int)+1).toNat=i+1 from cO]at u;have O:(xs.drop (i+1)).length=xs.length-(i+1):=ei
 obtain⟨w1,Y,b1,g1⟩:=Hy (P:=hH) (R:=179) (n:=i) (cap:=cap) gd (hb.of_eq (w':=drew w) rfl) (u.ext (Ext.drew w)) cO (by rw[lr,hlen,O];change i*4+(xs.length-(i+1))*4<=_;omega);rw[O,show i+(xs.length-(i+1))=xs.length-1 from cO]at Y;refine⟨_,w1,Y,?_⟩;refine pop (JN gd) ?_
 have M:pr hH (n0 179 (.slice (some ⟨b,0,none⟩) (xs.length-1) cap) (some (hZ ((xs.length-1:Nat):Int))) (some (hZ (xs.length:Int))) none)=some (.slice (some ⟨b,(xs.length-1)*4,none⟩) 1 (cap-(xs.length-1))):=by
  rw[xq gd (l:=xs.length-1) (h:=xs.length) (oU (.inr ⟨_,rfl,cO,cO⟩) (.inr ⟨_,rfl,cO,cO⟩) cO cO),ej cO];simp[gT];omega
 refine pop M ?_;have hx:xs[i]?=some xs[i]:=by simp[hi]
 have Hv:=z9 hx;have E:(flat (xs.take i)).length=i*4:=by rw[dG,l1,Nat.min_eq_left cO];rfl
 have hD:(flat (xs.drop (i+1))).length=(xs.length-(i+1))*4:=by rw[dG,O];rfl
 have U:(j0 xs[i]).length=4:=rfl;have W:(flat (r6 1 (⟨0,0,0,0⟩:bJ))).length=4:=rfl
 have s1:jo (flat xs++rest) (i*mA bJ) (flat (xs.drop (i+1))) =
   flat (xs.take i)++flat (xs.drop (i+1))++((j0 xs[i]++flat (xs.drop (i+1))).drop (flat (xs.drop (i+1))).length++rest):=by
  have:=mH (flat (xs.take i)) ((j0 xs[i]++flat (xs.drop (i+1))).take (flat (xs.drop (i+1))).length)
   ((j0 xs[i]++flat (xs.drop (i+1))).drop (flat (xs.drop (i+1))).length++rest) (flat (xs.drop (i+1))) (by rw[l1,lr];omega)
  rw[E]at this
  change jo (flat xs++rest) (i*4) _=_
  rw[<- this,Hv]
  have e0:∀(a b c d:List Value) (n:Nat),a++(b++c)++d=a++(b++c).take n++((b++c).drop n++d):=λa b c d n=>by
   rw[nK a ((b++c).take n),<- nK ((b++c).take n),qa,nK a]
  exact g6 (λz=>jo z (i*4) (flat (xs.drop (i+1)))) (by first|exact e0 _ _ _ _ _|(rw[<- e0];simp only[nK])|(simp only[nK];rw[<- nK (List.take _ _),qa,nK]))
 rw[s1]at b1
 obtain⟨w2,r2,b2,g2⟩:=U8 (P:=hH) (R:=0) (o:=(xs.length-1)*4) (n:=1) (c:=cap-(xs.length-1)) (z:=(⟨0,0,0,0⟩:bJ)) gd rW b1
  (by simp only[lr,rH,E,hD,U];change _+1*4<=_;omega)
 refine⟨_,w2,r2,?_⟩
 have Z:=mH (flat (xs.take i)++flat (xs.drop (i+1))) ((j0 xs[i]++flat (xs.drop (i+1))).drop (flat (xs.drop (i+1))).length) rest (flat (r6 1 (⟨0,0,0,0⟩:bJ)))
  (by rw[rH,lr,U,W];omega)
 rw[show(flat (xs.take i)++flat (xs.drop (i+1))).length=(xs.length-1)*4 from by rw[lr,E,hD];omega,nK _ _ rest]at Z;rw[Z]at b2;refine⟨trivial,F,.inr ⟨b,cap,flat (r6 1 (⟨0,0,0,0⟩:bJ))++rest,?_,?_,?_,G⟩,λ_ hb=>.inl hb,((Ext.drew w).aG (A:=F)).trans (g1.trans (C:=F) g2 (λk I=>(G k).2 I) λk _ I=>(G k).2 I) (λ_ h=>h) λ_ _ h=>h⟩
 .rw[Oc hi]
 .rw[wx,gU,<- nK];exact b2
 refine⟨by rw[Oc hi];omega,?_⟩;rw[wx,gU]
 change cap*4<=_
 rw[lr,hlen]at B;simp only[lr,E,hD,W];omega
def C223(sv:Value)(xs:List bJ)(w:World)(E:dD (λ_=>True) w sv xs)(W:xs.length<=1073741824):CR 223 [sv] w (λv w'=>kq (bE v xs) w w'):=by
 have B:=E;obtain⟨a,cap,rfl,U,h3⟩:=E;have u:=St.start w;refine fj Tryz.func223 ?_;refine XW (fz gd).1 (λJ=>?_) ?_
 .rcases h3 with⟨h,hc⟩|⟨b,o,h,_⟩
  .exact⟨by rw[h];rfl,hc⟩
  rw[J]at h;cases h
 refine bD (λG=>?_) (λG=>?_)
 .have O:a=none:=by cases a with|none=>rfl|some _=>cases G
  have M:xs=[]:=by
   rcases h3 with⟨h,_⟩|⟨b,o,h,_⟩
   .exact h
   .rw[O]at h;cases h
  subst M;exact u.eK.fresh
 refine aV ([]:List bJ) u gd rfl rfl (dQ rfl) (λV _ u=>?_);have I:=(B.ext u.aG);exact bI u gd I (by simp<;>omega) ee (λ_ _ u=>u.fresh)
def C153(p:Nat)(room:Int)(l:List bJ)(w:World)(hb:uL w p room l)(J:l.length<=1073741824):CR 153 [.pointer (some ⟨p,0,none⟩)] w (λv w'=>kq (bE v l) w w'):=by
 obtain⟨sv,I,E,G⟩:=hb;have u:=St.start w;refine fj Tryz.func153 ?_;refine aE (aA ld (bN iV (E.ext u.aG) (dO ahm (C223 _ _ _ (G.ext u.aG) cO) ?_)));rintro _ _ B;have u:=u.made B;exact u.fresh
theorem NQ{room:Int}{l:List bJ}{x:bJ}(h:right x=false):NP room l x=1:=by unfold NP;rw[h];rfl
theorem NR{room:Int}{l:List bJ}{x:bJ}(h:right x=false):tu room l x=l:=by unfold tu;rw[h];rfl
theorem IJ{room:Int}{l:List bJ}{x:bJ}(h:right x=true)(u:room<=l.length):NP room l x=2:=by grind[NP]
theorem IK{room:Int}{l:List bJ}{x:bJ}(u:room<=l.length):tu room l x=l:=by grind[tu]
theorem TT{room:Int}{l:List bJ}{x:bJ}(h:right x=true)(u:¬ room<=l.length):NP room l x=0:=by grind[NP]
theorem TU{room:Int}{l:List bJ}{x:bJ}(h:right x=true)(u:¬ room<=l.length):tu room l x=l++[x]:=by unfold tu;grind
def C162(p:Nat)(room:Int)(l:List bJ)(x:bJ)(F:Nat->Prop)(w:World)(I:(jr p room l).p w F)(V:l.length<=1048576):CR 162 [.pointer (some ⟨p,0,none⟩),ir x] w (λv w'=>v=hZ (NP room l x)/\nd F (jr p room (tu room l x)) w w'):=by
 have u:=St.begin I;obtain⟨sv,u⟩:=u.eA;have u:=u.split;refine pj Tryz.func162 (pl:=aw2) ?_;refine cM u (λG _ u=>aD iF u.At (aW aoY u (C228 _ _) λ_ M u=>bT (bD (λB=>?_) λB=>aW ahk u (C215 _ _ _ _ (uL.mk' u.p1.hb u.p2.dW)) λ_ M u=>aC (λE=>?_) λE=>?_)))
 .have u:=u.p2.p2;rw[NQ (by simpa using B),NR (by simpa using B)];exact⟨rfl,(jr.shut u).mut⟩
 .have u:=u.p2.p2;rw[IJ (by simpa using B) E,IK E];exact⟨rfl,(jr.shut u).mut⟩
 refine aE (aA ld (have u:=u.drew;aB iV u.p1.hb rfl (aD iF u.At (aV ([x]) u gd rfl rfl (dQ rfl) λO _ u=>?_))));refine⟨aF iV (u.p2.hb.cell rfl),?_⟩;have J:=u.dW;refine bI u.p3 gd J (by simp<;>omega) ee (λU _ u=>have u:=u.p1.drop;aE (aA ld (aT u.p2 iV (dQ rfl) u.dW.one λ_ u=>?_)));have u:=u.p1.p1;rw[TT (by simpa using B) E,TU (by simpa using B) E];exact⟨rfl,(jr.shut u).mut⟩
theorem su{l:List bJ}{i:Int}(h:r8 l i=false):dL l i=⟨0,0,0,0⟩:=by unfold dL;rw[h];rfl
theorem sw{l:List bJ}{i:Int}(h:r8 l i=false):j4 l i=l:=by unfold j4;rw[h];rfl
theorem yU{l:List bJ}{i:Int}(h:i<0\/(l.length:Int)<=i):ye l i=1:=by unfold ye;omega
theorem NS{l:List bJ}{i:Int}(u:0<=i/\i<l.length)(h:r8 l i=false):ye l i=13:=by unfold ye;grind
theorem NT{l:List bJ}{i:Int}(h:r8 l i=true):ye l i=0:=by unfold ye;rw[ew (afD h),h];rfl
theorem NU{l:List bJ}{i:Int}{x:bJ}(h:r8 l i=true)(u:l[i.toNat]?=some x):dL l i=x:=by unfold dL;grind
theorem NV{l:List bJ}{i:Int}(h:r8 l i=true):j4 l i=l.eraseIdx i.toNat:=by unfold j4;rw[h];rfl
def C155(p:Nat)(room:Int)(l:List bJ)(i:Int)(F:Nat->Prop)(w:World)(E:(jr p room l).p w F)(hn:l.length<=1048576):CR 155 [.pointer (some ⟨p,0,none⟩),hZ i] w (λv w'=>v=.tuple #[ir (dL l i),hZ (ye l i)]/\nd F (jr p room (j4 l i)) w w'):=by
 have u:=St.begin E;obtain⟨sv,u⟩:=u.eA;have u:=u.split;refine fj Tryz.func155 ?_;refine aN u rW (λQp _ u=>?_);refine⟨_,?_,λ_ _ h=>h⟩;refine aR (aC (λJ=>?_) λJ=>?_)
 .intro O;refine hG (pop yM (aJ (x:=(⟨0,0,0,0⟩:bJ)) u iF rfl rfl λY u=>aD iF u.At ?_));have u:=u.p2.p2;rw[su (mg cO),yU cO,sw (mg cO)];exact⟨rfl,(jr.shut u).mut⟩
 refine aE (aA ld (aB iV u.p1.hb rfl (aK gd u.p2.dW (cT ?_))));intro O;refine aC (λU=>?_) (λU=>aW ahl u (C216 _ _ _ _ _ (uL.mk' u.p1.hb u.p2.dW) cO) λ_ he u=>bT (bD (λB=>?_) λB=>?_))
 .refine pop yM (aJ (x:=(⟨0,0,0,0⟩:bJ)) u iF rfl rfl λY u=>aD iF u.At ?_);have u:=u.p2.p2;rw[su (mg cO),yU cO,sw (mg cO)];exact⟨rfl,(jr.shut u).mut⟩
 .refine pop yM (aJ (x:=(⟨0,0,0,0⟩:bJ)) u iF rfl rfl λ_ u=>aD iF u.At ?_);have u:=u.p2.p2;rw[su (by simpa using B),NS cO (by simpa using B),sw (by simpa using B)];exact⟨rfl,(jr.shut u).mut⟩
 refine aE (aA ld (aB iV u.p1.hb rfl ?_));obtain⟨G,I⟩:=gx l (i:=(i).toNat) cO;refine dT u.p2 gd cO cO (λ_ M=>gq u.p2 iF M I (aN u rW λZ _ u=>aJ (x:=G) u iF rfl rfl λ_ u=>aE (aA ld (aB iV u.p2.hb rfl (dO ahm (C223 _ _ _ u.p3.dW cO) ?_)))));rintro _ _ V;have u:=u.made V;refine aO cO (qJ aoW u (H':=λv=>bE v (l.eraseIdx i.toNat)) (Φ:=λ_ _=>True) (λF E=>?_) ?_)
 .exact C224 _ i _ F _ E cO cO cO
 rintro W _ _ u;refine aE (aA ld (aT u.p3 iV (dQ rfl) u.dW.one λ_ u=>aD iF u.p2.At (aJ (x:=G) u.p3 iF rfl rfl λ_ u=>aD iF u.At ?_)));have u:=u.p2.p2;rw[NU (by simpa using B) I,NT (by simpa using B),NV (by simpa using B)];exact⟨rfl,(jr.shut u).mut⟩
end Go.Proofs.YtpdlpabnlkofmaaGreatDoor

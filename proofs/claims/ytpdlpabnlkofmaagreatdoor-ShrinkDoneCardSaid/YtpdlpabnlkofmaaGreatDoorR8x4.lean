/-
  Part 4.
-/
import Derived.Test.YtpdlpabnlkofmaaGreatDoorR8x3
set_option maxHeartbeats 8000000
set_option linter.all false
set_option maxRecDepth 100000
open Go.Fw.Flat renaming val->ia,enc->j0,sz->mI
open ByteArray renaming mk->kh,size_extract->abn
open List renaming getElem?_eq_some_iff->kp,mem_of_getElem?->kE,take_of_length_le->kO,getElem?_eq_getElem->kX,length_append->la,length_take->l0,length_singleton->mv,length_map->n0,append_assoc->n3,mem_map->oj,mem_cons_self->o1,getElem?_map->pd,mem_append->pU,length_drop->qb,take_append_drop->qB,mem_cons_of_mem->qX,replicate->r6,mem_cons->sl,getElem?_append_right->sI,drop_drop->sZ,nil_append->s4,getElem?_append_left->ub,range->u3,mem_singleton->vx,map_append->vA,drop_eq_nil_of_le->vF,eraseIdx_eq_take_drop_succ->wi,mem_of_mem_take->wF,any_eq_true->xo,mem_iff_getElem?->yp,filter_append->zM,map_congr_left->Bi,nodup_cons->I4,range_succ->I5,map_map->I7,map_cons->K0,mem_range->Lx,length_eraseIdx_of_lt->LJ,flatMap_append->Me,mem_filter->M8,pairwise_iff_getElem->QO,any_cons->SP,any_append->SW,pairwise_map->Zk,any_nil->Zp,nodup_append->Zq,take_length->aag,getElem_mem->aam
open Nat renaming zero_le->l1,le_refl->o6,le_of_eq->zW,add_sub_cancel_left->F4,add_assoc->Mm,lt_or_ge->Po
open Go.Fw.Deep renaming dr->mh,ext->Lv
open Go.Value renaming int->ni
open Go.Instr renaming sliceAt->n4,mapUpdate->xg,lookup->x6,box->zx,keyThatStays->Nj
open Bool renaming and_eq_true->ob,not_eq_true'->sk,or_eq_true->xh,true_and->yU,eq_iff_iff->IK,false_and->P7,or_false->SS
open Option renaming some->oi,map_eq_some_iff->H4
open Int renaming toNat_natCast->qa,mul_le_mul->Kd,add_comm->abo
open Array renaming getElem?_eq_some_iff->DK
open Prod renaming fst->Y4
namespace Go.Proofs.YtpdlpabnlkofmaaGreatDoor
open Go.Fw
def oC(s:ByteArray):ByteArray:=s.extract 0 (min (s.size:Int) 40).toNat
def pS(s:ByteArray):(oC s).size<=40:=by
 unfold oC
 rw[abn];omega
def adu(x:cA):cA:={x with name:=oC x.name}
def yz(l:List cA):List cA:=(l.take 60).map adu
def Si(x:bQ):bQ:=⟨x.kind,oC x.eF,oC x.name,yz x.e,yz x.f,x.n,x.body,x.eu,x.at_⟩
def E6(l:List bQ):List bQ:=(l.take 50).map Si
def adv(c:cJ):cJ:={c with name:=oC c.name}
def jG(l:List cJ):List cJ:=(l.take 8).map adv
def yT(t:cN):cN:=⟨oC t.name,(t.dQ.take 6).map oC,E6 t.body,t.at_⟩
def kZ(l:List cN):List cN:=(l.take 4).map yT
def E7(c:gS):gS:=⟨yz c.e,c.at_⟩
def iv(p:cE):cE:=⟨(p.lines.take 6).map jG,jG p.iR,jG p.eJ,kZ p.threads,kZ p.recover,(p.dS.take 6).map E7⟩
theorem qF{α:Type}{xs:List α}{k m:Nat}(h:k<=m)(h2:k<=xs.length)(h3:¬ (k<xs.length/\k<m)):xs.take k=xs.take m:=by
 grind
def E8(l:List cA):(yz l).length<=60:=by grind[yz]
def Ji(l:List cA):∀y∈yz l,y.name.size<=1048576:=by
 intro y u
 obtain⟨x,_,rfl⟩:=oj.1 u
 have:=pS x.name
 show(oC x.name).size<=_
 omega
def E9(l:List cJ):∀y∈jG l,y.name.size<=1048576:=by
 intro y u
 obtain⟨x,_,rfl⟩:=oj.1 u
 have:=pS x.name
 show(oC x.name).size<=_
 omega
def B6(l:List cJ):(jG l).length<=8:=by grind[jG]
def X9(l:List bQ):(E6 l).length<=50:=by grind[E6]
def Fa(l:List cN):(kZ l).length<=4:=by grind[kZ]
def adw(l:List bQ):∀y∈E6 l,SzS y:=by
 intro y u
 obtain⟨x,_,rfl⟩:=oj.1 u
 have h1:=pS x.eF
 have h2:=pS x.name
 have h3:=E8 x.e
 have h4:=E8 x.f
 exact⟨by show(oC x.eF).size<=_;omega,by show(oC x.name).size<=_;omega,by show(yz x.e).length<=_;omega,by show(yz x.f).length<=_;omega,Ji _,Ji _⟩
def Pn(t:cN):(yT t).dQ.length<=6:=by show((t.dQ.take 6).map oC).length<=6;grind
def Ho(l:List cN):∀y∈kZ l,Xh y/\y.dQ.length<=500/\y.body.length<=500:=by
 intro y u
 obtain⟨x,_,rfl⟩:=oj.1 u
 have h1:=pS x.name
 have h2:=Pn x
 have h3:=X9 x.body
 refine⟨⟨by show(oC x.name).size<=_;omega,λs B=>?_,adw _⟩,cK,by show(E6 x.body).length<=_;omega⟩
 obtain⟨z,_,rfl⟩:=oj.1 (show s∈(x.dQ.take 6).map oC from B)
 have:=pS z
 omega
def Sj(p:cE):PZ (iv p):=by
 have u:(iv p).lines.length<=6:=by show((p.lines.take 6).map jG).length<=6;grind
 have hc:(iv p).dS.length<=6:=by show((p.dS.take 6).map E7).length<=6;grind
 have h1:=B6 p.iR
 have h2:=B6 p.eJ
 have h3:=Fa p.threads
 have h4:=Fa p.recover
 have Vy:∀t∈(iv p).threads++(iv p).recover,Xh t/\t.dQ.length<=500/\t.body.length<=500:=by
  intro t ht
  rcases pU.1 ht with h|h
  .exact Ho _ t h
  .exact Ho _ t h
 refine {lines:=by omega,line:=λl h=>?_,iR:=by show(jG p.iR).length<=500;omega,eJ:=by show(jG p.eJ).length<=500;omega,threads:=by show(kZ p.threads).length<=500;omega,recover:=by show(kZ p.recover).length<=500;omega,dS:=by omega,dQ:=λt ht=>(Vy t ht).2.1,body:=λt ht=>(Vy t ht).2.2,zl:=λl h c hc=>?_,zv:=E9 _,zk:=E9 _,zt:=λt ht=>(Vy t (List.mem_append_left _ ht)).1,zr:=λt ht=>(Vy t (List.mem_append_right _ ht)).1,zc:=λc h=>?_}
 .obtain⟨x,_,rfl⟩:=oj.1 (show l∈(p.lines.take 6).map jG from h)
  have:=B6 x;omega
 .obtain⟨x,_,rfl⟩:=oj.1 (show l∈(p.lines.take 6).map jG from h)
  exact E9 x c hc
 obtain⟨x,_,rfl⟩:=oj.1 (show c∈(p.dS.take 6).map E7 from h)
 have:=E8 x.e
 exact⟨by show(yz x.e).length<=_;omega,Ji _⟩
def C47(lv:Value)(xs:List cA)(w:World)(J:dC (λ_=>True) w lv xs):CR 47 [lv] w (λv w'=>lh (bH v (yz xs)) w w'):=by
 have u:=St.start w;refine fg Tryz.func47 ?_;refine bD ([]:List cA) u gX rfl rfl (dL rfl) (λW I u=>?_);refine⟨λm E x I=>∃k:Nat,x=hZ (k:Int)/\m=60-k/\k<=60/\k<=xs.length/\St w aZ [bH E ((xs.take k).map adu)] I,⟨_,0,rfl,rfl,cK,cK,u⟩,?_⟩;rintro m E _ _ ⟨k,rfl,rfl,hk,xl,u⟩ _;have Z:((xs.take k).map adu).length=k:=by rw[n0,l0];omega
 refine⟨λU w'=>U=.bool (decide (k<xs.length/\k<60))/\St w aZ [bH E ((xs.take k).map adu)] w',aK gX (J.ext u.aG) (aR (aC (λ_=>aR ⟨vb dD,u⟩) λ_=>⟨vb dD,u⟩)),?_⟩;rintro _ _ ⟨rfl,u⟩ _;refine aY (λG=>?_) (λG=>?_)
 .have V:k<xs.length/\k<60:=by simpa using G
  obtain⟨B,M⟩:=gx xs (i:=(k:Int).toNat) cK;refine aQ gX J cK M (λ_ lS=>aD r7 (lS.ext u.aG) (aM u yc λJe _ u=>aI (x:=B) u r7 rfl rfl λ_ u=>aA gk (aB (v:=.string B.name) gw u.hb rfl (aA gk (aB (v:=.string B.name) gw u.hb rfl (fk il (rB (nW il cK cK (aA gk (aT u gw (dL rfl) (rfl) λ_ u=>?_))))))))));have u:=u.enc (cs':=j0 ({B with name:=(B.name.extract 0 (min (B.name.size:Int) 40).toNat)}:cA)) rfl;refine aD r7 u.At (bD ([({B with name:=(B.name.extract 0 (min (B.name.size:Int) 40).toNat)}:cA)]) u gX rfl rfl (dL rfl) λY _ u=>?_)
  have O:=u.dX;exact bJ u.p2 gX O (by rw[Z,mv];omega) ee (λ_ _ u=>have u:=u.p1.drop;aN cK (have u:=u.p1.drop;⟨_,cK,k+1,rfl,rfl,cK,cK,by rw[<- gd (k:=k) M];exact u⟩))
 rw[qF (xs:=xs) (k:=k) (m:=60) cK cK (g6 G)]at u;exact u.fresh
def C45(lv:Value)(xs:List cJ)(w:World)(J:dC (λ_=>True) w lv xs):CR 45 [lv] w (λv w'=>lh (bH v (jG xs)) w w'):=by
 have u:=St.start w;refine fg Tryz.func45 ?_;refine bD ([]:List cJ) u im rfl rfl (dL rfl) (λW I u=>?_);refine⟨λm E x I=>∃k:Nat,x=hZ (k:Int)/\m=8-k/\k<=8/\k<=xs.length/\St w aZ [bH E ((xs.take k).map adv)] I,⟨_,0,rfl,rfl,cK,cK,u⟩,?_⟩;rintro m E _ _ ⟨k,rfl,rfl,hk,xl,u⟩ _;have Jj:((xs.take k).map adv).length=k:=by rw[n0,l0];omega
 refine⟨λU w'=>U=.bool (decide (k<xs.length/\k<8))/\St w aZ [bH E ((xs.take k).map adv)] w',aK im (J.ext u.aG) (aR (aC (λ_=>aR ⟨vb dD,u⟩) λ_=>⟨vb dD,u⟩)),?_⟩;rintro _ _ ⟨rfl,u⟩ _;refine aY (λG=>?_) (λG=>?_)
 .have V:k<xs.length/\k<8:=by simpa using G
  obtain⟨B,M⟩:=gx xs (i:=(k:Int).toNat) cK;refine aQ im J cK M (λ_ lS=>aD mc (lS.ext u.aG) (aM u oU λY _ u=>aI (x:=B) u mc rfl rfl λ_ u=>aA kQ (aB (v:=.string B.name) gw u.hb rfl (aA kQ (aB (v:=.string B.name) gw u.hb rfl (fk il (rB (nW il cK cK (aA kQ (aT u gw (dL rfl) (rfl) λ_ u=>?_))))))))));have u:=u.enc (cs':=j0 ({B with name:=(B.name.extract 0 (min (B.name.size:Int) 40).toNat)}:cJ)) rfl;refine aD mc u.At (bD ([({B with name:=(B.name.extract 0 (min (B.name.size:Int) 40).toNat)}:cJ)]) u im rfl rfl (dL rfl) λZ _ u=>?_)
  have O:=u.dX;exact bJ u.p2 im O (by rw[Jj,mv];omega) ee (λ_ _ u=>have u:=u.p1.drop;aN cK (have u:=u.p1.drop;⟨_,cK,k+1,rfl,rfl,cK,cK,by rw[<- gd (k:=k) M];exact u⟩))
 rw[qF (xs:=xs) (k:=k) (m:=8) cK cK (g6 G)]at u;exact u.fresh
def C106(lv:Value)(xs:List bQ)(w:World)(hL:DL w lv xs):CR 106 [lv] w (λv w'=>lh (fU v (E6 xs)) w w'):=by
 have B:=St.start w;refine fg Tryz.func106 ?_;refine tF (α:=bQ) B fq (λadn w1 B=>?_);refine⟨λm W x w1=>∃k:Nat,x=hZ (k:Int)/\m=50-k/\k<=50/\k<=xs.length/\St w aZ [fU W ((xs.take k).map Si)] w1,⟨_,0,rfl,rfl,cK,cK,B⟩,?_⟩;rintro m W _ _ ⟨k,rfl,rfl,hk,xl,B⟩ _;have Jj:((xs.take k).map Si).length=k:=by rw[n0,l0];omega
 refine⟨λjv w'=>jv=.bool (decide (k<xs.length/\k<50))/\St w aZ [fU W ((xs.take k).map Si)] w',?_,?_⟩
 .obtain⟨ts60,U,Z⟩:=hL.open;have hn60:=Z.1;exact aK fq (U.ext B.aG) (aR (aC (λ_=>aR ⟨vb dD,B⟩) λ_=>⟨vb dD,B⟩))
 rintro _ _ ⟨rfl,B⟩ _;refine aY (λjF=>?_) (λjF=>?_)
 .have apP:k<xs.length/\k<50:=by simpa using jF
  obtain⟨Y,awo,G⟩:=hL.open;have hn61:=G.1;obtain⟨lW,ig⟩:=gx Y (i:=(k:Int).toNat) cK;obtain⟨u,lG⟩:=gx xs (i:=(k:Int).toNat) cK;obtain⟨I,E,rfl,Sk,Sl⟩:=G.2 _ _ _ ig lG;refine aQ fq awo cK ig (λ_ lS=>aD eM (lS.ext B.aG) (aM B jy λJe _ B=>have B:=B.enc (cs':=j0 (⟨0,(kh #[]),(kh #[]),bX,bX,0,0,0,0⟩:bE)) rfl;aI (x:=(⟨u.kind,u.eF,u.name,I,E,u.n,u.body,u.eu,u.at_⟩:bE)) B eM rfl rfl λ_ B=>aA iH (aB (v:=.string u.eF) gw B.hb rfl (aA iH (aB (v:=.string u.eF) gw B.hb rfl (fk il (rB (nW il cK cK (aA iH ?_)))))))))
  have M:=DL.flat Sk;have V:=DL.flat Sl;refine aT B gw (dL rfl) (rfl) (λ_ B=>have B:=B.enc (cs':=j0 (⟨u.kind,(u.eF.extract 0 (min (u.eF.size:Int) 40).toNat),u.name,I,E,u.n,u.body,u.eu,u.at_⟩:bE)) rfl;aA fZ (aB (v:=.string u.name) gw B.hb rfl (aA fZ (aB (v:=.string u.name) gw B.hb rfl (fk il (rB (nW il cK cK (aA fZ (aT B gw (dL rfl) (rfl) λ_ B=>have B:=B.enc (cs':=j0 (⟨u.kind,(u.eF.extract 0 (min (u.eF.size:Int) 40).toNat),(u.name.extract 0 (min (u.name.size:Int) 40).toNat),I,E,u.n,u.body,u.eu,u.at_⟩:bE)) rfl;aA iX (aB (v:=ia (I:SV)) jx B.hb rfl (dY ahD B (C47 _ _ _ (M.ext B.aG)) λx39 _ cL B=>?_)))))))))))
  refine aA iX ?_;obtain⟨J,rfl⟩:=B.fJ;refine aT B.p1 jx (dL rfl) (rfl) (λ_ B=>have B:=B.enc (cs':=j0 (⟨u.kind,(u.eF.extract 0 (min (u.eF.size:Int) 40).toNat),(u.name.extract 0 (min (u.name.size:Int) 40).toNat),J,E,u.n,u.body,u.eu,u.at_⟩:bE)) rfl;aA j6 (aB (v:=ia (E:SV)) jx B.hb rfl (dY ahD B (C47 _ _ _ (V.ext B.aG)) λx43 _ cL B=>aA j6 ?_)));obtain⟨O,rfl⟩:=B.fJ;exact aT B.p1 jx (dL rfl) (rfl) (λ_ B=>have B:=B.enc (cs':=j0 (⟨u.kind,(u.eF.extract 0 (min (u.eF.size:Int) 40).toNat),(u.name.extract 0 (min (u.name.size:Int) 40).toNat),J,O,u.n,u.body,u.eu,u.at_⟩:bE)) rfl;aD eM B.At (have B:=B.p2.freeze.p2.freeze.p1.gR.dN (Ψ:=(λw=>mh w (⟨u.kind,(u.eF.extract 0 (min (u.eF.size:Int) 40).toNat),(u.name.extract 0 (min (u.name.size:Int) 40).toNat),J,O,u.n,u.body,u.eu,u.at_⟩:bE) (⟨u.kind,(u.eF.extract 0 (min (u.eF.size:Int) 40).toNat),(u.name.extract 0 (min (u.name.size:Int) 40).toNat),(yz u.e),(yz u.f),u.n,u.body,u.eu,u.at_⟩:bQ))) (λ_ h=>⟨_,_,rfl,DL.j1 h.1,DL.j1 h.2⟩);gh (s:=(⟨u.kind,(u.eF.extract 0 (min (u.eF.size:Int) 40).toNat),(u.name.extract 0 (min (u.name.size:Int) 40).toNat),J,O,u.n,u.body,u.eu,u.at_⟩:bE)) (x:=(⟨u.kind,(u.eF.extract 0 (min (u.eF.size:Int) 40).toNat),(u.name.extract 0 (min (u.name.size:Int) 40).toNat),(yz u.e),(yz u.f),u.n,u.body,u.eu,u.at_⟩:bQ)) B fq ee λ_ _ B=>have B:=B.p2;gi B fq (by rw[Jj,mv];omega) ee λ_ _ B=>aN cK (have B:=B.p1.drop;⟨_,cK,k+1,rfl,rfl,cK,cK,by rw[<- gd (k:=k) lG];exact B⟩)))
 rw[qF (xs:=xs) (k:=k) (m:=50) cK cK (g6 jF)]at B;exact B.fresh
def C46(lv:Value)(xs:List cN)(w:World)(hL:DL w lv xs):CR 46 [lv] w (λv w'=>lh (fU v (kZ xs)) w w'):=by
 have u:=St.start w;refine oM Tryz.func46 (pl:=P46) ?_;refine tF (α:=cN) u fy (λads w1 u=>?_);refine⟨λm M x w1=>∃k:Nat,x=hZ (k:Int)/\m=4-k/\k<=4/\k<=xs.length/\St w aZ [fU M ((xs.take k).map yT)] w1,⟨_,0,rfl,rfl,cK,cK,u⟩,?_⟩;rintro m M _ _ ⟨k,rfl,rfl,hk,xl,u⟩ _;have Jj:((xs.take k).map yT).length=k:=by rw[n0,l0];omega
 refine⟨λW w'=>W=.bool (decide (k<xs.length/\k<4))/\St w aZ [fU M ((xs.take k).map yT)] w',?_,?_⟩
 .obtain⟨ts64,awr,aws⟩:=hL.open;have hn64:=aws.1;exact aK fy (awr.ext u.aG) (aR (aC (λ_=>aR ⟨vb dD,u⟩) λ_=>⟨vb dD,u⟩))
 rintro _ _ ⟨rfl,u⟩ _;refine aY (λjr=>?_) (λjr=>?_)
 .have hc15:k<xs.length/\k<4:=by simpa using jr
  obtain⟨awt,J,U⟩:=hL.open;have hn65:=U.1;obtain⟨agE,G⟩:=gx awt (i:=(k:Int).toNat) cK;obtain⟨B,Jd⟩:=gx xs (i:=(k:Int).toNat) cK;obtain⟨zL,Pr,rfl,Fb,Fc⟩:=U.2 _ _ _ G Jd;refine⟨λET w'=>St w aZ [fU ET ((xs.take k).map yT++[yT B])] w',⟨λW w'=>∃(O:Nat) (E:SV),W=.pointer (some ⟨O,0,none⟩)/\St w aZ [bY O (j0 (⟨(B.name.extract 0 (min (B.name.size:Int) 40).toNat),bX,E,B.at_⟩:cH)),fU (ia E) (E6 B.body),fU M ((xs.take k).map yT)] w',?_,?_⟩,?_⟩
  .refine aQ fy J cK G (λ_ Ml=>bW B.name qq Ml rfl rfl λ_ ES=>have u:=u.drew;aD gw (ES.ext u.aG) (aQ fy J cK G λ_ Ff=>bW B.name qq Ff rfl rfl λ_ xf=>aD gw (xf.ext u.aG) (fk il (rB (nW il cK cK (aQ fy J cK G λ_ rh=>bW B.at_ qt rh rfl rfl λ_ Y=>aD bM (Y.ext u.aG) (aQ fy J cK G λ_ yQ=>bW Pr lK yQ rfl rfl λ_ xj=>aD jP (xj.ext u.aG) ⟨?_,⟨?_,?_⟩⟩)))))))
   .refine dY afs u (C106 _ _ _ (Fc.ext u.aG)) (λx41 _ cL u=>?_);refine⟨eN gw (ES.ext u.aG),?_⟩;refine⟨eN gw (xf.ext u.aG),?_⟩;refine⟨eN bM (Y.ext u.aG),?_⟩;obtain⟨Jk,rfl⟩:=u.oZ;refine pop (AA _ _ _ _ _) (aM u tC λb_t5 _ u=>?_);have u:=u.enc (cs':=j0 (⟨(kh #[]),bX,bX,0⟩:cH)) rfl;refine⟨eN gw (ES.ext u.aG),?_⟩;refine⟨eN gw (xf.ext u.aG),?_⟩;refine⟨eN bM (Y.ext u.aG),?_⟩;refine⟨eN jP (xj.ext u.aG),?_⟩;exact aI (x:=(⟨(B.name.extract 0 (min (B.name.size:Int) 40).toNat),bX,Jk,B.at_⟩:cH)) u m7 rfl rfl (λ_ u=>have u:=u.p2.p2.p2;⟨_,_,rfl,u⟩)
   .refine aM u tC (λawu _ u=>?_);have u:=u.enc (cs':=j0 (⟨(kh #[]),bX,bX,0⟩:cH)) rfl;refine⟨eN gw (ES.ext u.aG),?_⟩;refine⟨eN gw (xf.ext u.aG),?_⟩;refine⟨eN bM (Y.ext u.aG),?_⟩;refine⟨eN jP (xj.ext u.aG),?_⟩;refine dY afs u (C106 _ _ _ (Fc.ext u.aG)) (λx41_1 _ cL u=>?_);refine⟨eN gw (ES.ext u.aG),?_⟩;refine⟨eN gw (xf.ext u.aG),?_⟩;refine⟨eN bM (Y.ext u.aG),?_⟩;obtain⟨Ya,rfl⟩:=u.oZ;exact pop (AA _ _ _ _ _) (aI (x:=(⟨(B.name.extract 0 (min (B.name.size:Int) 40).toNat),bX,Ya,B.at_⟩:cH)) u.p1 m7 rfl rfl λ_ u=>have u:=u.p2.p2.p2;⟨_,_,rfl,u⟩)
   trivial
  .rintro _ _ ⟨O,E,rfl,u⟩ _;have u:=((((u.eL (α:=ByteArray)).p3).p3).p2).p3;refine⟨λm x w1=>∃(j:Nat) (I:SV),x=hZ (j:Int)/\m=6-j/\j<=6/\j<=B.dQ.length/\St w aZ [bY O (j0 (⟨(B.name.extract 0 (min (B.name.size:Int) 40).toNat),I,E,B.at_⟩:cH)),bH (ia I) ((B.dQ.take j).map oC),fU (ia E) (E6 B.body),fU M ((xs.take k).map yT)] w1,⟨_,0,bX,rfl,rfl,cK,cK,u⟩,?_⟩;rintro m _ _ ⟨j,I,rfl,rfl,hj,B7,u⟩ _;have ai1:((B.dQ.take j).map oC).length=j:=by rw[n0,l0];omega
   refine⟨λW w'=>W=.bool (decide (j<B.dQ.length/\j<6))/\St w aZ [bY O (j0 (⟨(B.name.extract 0 (min (B.name.size:Int) 40).toNat),I,E,B.at_⟩:cH)),bH (ia I) ((B.dQ.take j).map oC),fU (ia E) (E6 B.body),fU M ((xs.take k).map yT)] w',?_,?_⟩
   .refine aQ fy J cK G (λ_ LH=>bW zL fS LH rfl rfl λ_ AS=>aD jk (AS.ext u.aG) ?_);have awv:=DL.flat Fb;exact aK iC (awv.ext u.aG) (aR (aC (λ_=>aR ⟨vb dD,u⟩) λ_=>⟨vb dD,u⟩))
   rintro _ _ ⟨rfl,u⟩ _;refine aY (λA1=>?_) (λA1=>?_)
   .have hc54:j<B.dQ.length/\j<6:=by simpa using A1
    refine aA fS (have u:=u.drew;aB (v:=ia (I:SV)) jk u.hb rfl (aQ fy J cK G λ_ X2=>bW zL fS X2 rfl rfl λ_ Fg=>aD jk (Fg.ext u.aG) ?_));have V:=DL.flat Fb;obtain⟨Z,Ps⟩:=gx B.dQ (i:=(j:Int).toNat) cK;refine aQ iC V cK Ps (λ_ CJ=>aD gw (CJ.ext u.aG) (aQ fy J cK G λ_ Mi=>bW zL fS Mi rfl rfl λ_ Yb=>aD jk (Yb.ext u.aG) (aQ iC V cK Ps λ_ apT=>aD gw (apT.ext u.aG) (fk il (rB (nW il cK cK (bD ([(Z.extract 0 (min (Z.size:Int) 40).toNat)]) u iC rfl rfl (dL rfl) λapU _ u=>?_)))))))
    refine⟨aF jk (u.p1.hb.cell rfl),?_⟩;have Pt:=u.dX;refine bJ u.p2 iC Pt (by rw[ai1,mv];omega) ee (λapV _ u=>have u:=u.p1.drop;aA fS ?_);obtain⟨B8,rfl⟩:=u.fJ;exact aT u.p1 jk (dL rfl) (rfl) (λ_ u=>have u:=u.enc (cs':=j0 (⟨(B.name.extract 0 (min (B.name.size:Int) 40).toNat),B8,E,B.at_⟩:cH)) rfl;aN cK (have u:=u.p3.p3.p3.p3;⟨_,cK,j+1,B8,rfl,rfl,cK,cK,by rw[<- gd (k:=j) Ps];exact u⟩))
   refine aD m7 u.At (have u:=u.p1.freeze.p2.mX.p1.gR.dN (Ψ:=(λw=>mh w (⟨(B.name.extract 0 (min (B.name.size:Int) 40).toNat),I,E,B.at_⟩:cH) (⟨(B.name.extract 0 (min (B.name.size:Int) 40).toNat),((B.dQ.take j).map oC),(E6 B.body),B.at_⟩:cN))) (λ_ h=>⟨_,_,rfl,DL.j1 h.1,h.2⟩);gh (s:=(⟨(B.name.extract 0 (min (B.name.size:Int) 40).toNat),I,E,B.at_⟩:cH)) (x:=(⟨(B.name.extract 0 (min (B.name.size:Int) 40).toNat),((B.dQ.take j).map oC),(E6 B.body),B.at_⟩:cN)) u fy ee λagG _ u=>have u:=u.p2;gi u fy (by rw[Jj,mv];omega) ee λapW _ u=>?_)
   have u:=u.p1.drop;rw[qF (xs:=B.dQ) (k:=j) (m:=6) cK cK (g6 A1)]at u;exact u
  rintro ET _ u _;exact aN cK ⟨_,cK,k+1,rfl,rfl,cK,cK,by rw[<- gd (k:=k) Jd];exact u⟩
 rw[qF (xs:=xs) (k:=k) (m:=4) cK cK (g6 jr)]at u;exact u.fresh
def C11(p:cE)(pv:bP)(w:World)(hp:mh w pv p):CR 11 [ia pv] w (λv w'=>∃qv:bP,v=ia qv/\lh (eD λw=>mh w qv (iv p)) w w'):=by
 obtain⟨Z,bU,bL,aW,aX,bG,rfl,cQ,dG,cW,cC,cD,cP⟩:=hp;have u:=St.start w;refine oM Tryz.func11 (pl:=P11) ?_;refine cI u (λko w1 u=>aM u vj λwm _ u=>have u:=u.enc (cs':=j0 (⟨bX,bX,bX,bX,bX,bX⟩:bP)) rfl;⟨λjv w'=>∃(V:Nat) (B J I E:SV),jv=.pointer (some ⟨V,0,none⟩)/\St w aZ [bY V (j0 (⟨bX,B,J,I,E,bX⟩:bP)),bH (ia B) (jG p.iR),bH (ia J) (jG p.eJ),fU (ia I) (kZ p.threads),fU (ia E) (kZ p.recover),bY ko (j0 (⟨Z,bU,bL,aW,aX,bG⟩:bP)),bY wm (j0 (⟨bX,bX,bX,bX,bX,bX⟩:bP))] w',?_,?_⟩)
 .refine aA qf (have u:=u.drew;aB jM u.p1.hb rfl ?_);have apX:=DL.flat dG;refine aA nQ (aB jM u.p1.hb rfl ?_);have Y:=DL.flat cW;refine aA kG (aB iB u.p1.hb rfl (aA oQ (aB iB u.p1.hb rfl ⟨dY TI u (C45 _ _ _ (apX.ext u.aG)) (λx8 _ G u=>⟨aF jM (u.p2.hb.cell rfl),⟨aF iB (u.p2.hb.cell rfl),⟨aF iB (u.p2.hb.cell rfl),⟨dY TI u (C45 _ _ _ (Y.ext u.aG)) (λx11 _ G u=>⟨aF iB (u.p3.hb.cell rfl),⟨aF iB (u.p3.hb.cell rfl),⟨dY ID u (C46 _ _ _ (cC.ext u.aG)) (λx14 _ G u=>⟨aF iB (u.p4.hb.cell rfl),⟨?_,⟨?_,?_⟩⟩⟩),⟨?_,?_⟩⟩⟩⟩),⟨?_,?_⟩⟩⟩⟩⟩),⟨?_,?_⟩⟩)))
  .refine dY ID u (C46 _ _ _ (cD.ext u.aG)) (λUc _ G u=>?_);obtain⟨U,rfl⟩:=u.p3.fJ;obtain⟨Fi,rfl⟩:=u.p2.fJ;obtain⟨Py,rfl⟩:=u.p1.oZ;obtain⟨ai3,rfl⟩:=u.oZ;refine pop (nE _ _ _ _ _ _ _ _ _ _ _ _) (aM u vj λb_q3 _ u=>?_);have u:=u.enc (cs':=j0 (⟨bX,bX,bX,bX,bX,bX⟩:bP)) rfl;refine⟨aF jM (u.p6.hb.cell rfl),?_⟩;refine⟨aF jM (u.p6.hb.cell rfl),?_⟩;refine⟨aF iB (u.p6.hb.cell rfl),?_⟩;refine⟨aF iB (u.p6.hb.cell rfl),?_⟩;exact aI (x:=(⟨bX,U,Fi,Py,ai3,bX⟩:bP)) u er rfl rfl (λ_ u=>have u:=u.p5.p6.p3.p4.p5.p6.p6;⟨_,_,_,_,_,rfl,u⟩)
  .refine aM u vj (λaww _ u=>?_);have u:=u.enc (cs':=j0 (⟨bX,bX,bX,bX,bX,bX⟩:bP)) rfl;refine⟨aF jM (u.p5.hb.cell rfl),?_⟩;refine⟨aF jM (u.p5.hb.cell rfl),?_⟩;refine⟨aF iB (u.p5.hb.cell rfl),?_⟩;refine⟨aF iB (u.p5.hb.cell rfl),?_⟩;refine dY ID u (C46 _ _ _ (cD.ext u.aG)) (λx17_1 _ G u=>?_);obtain⟨U,rfl⟩:=u.p4.fJ;obtain⟨Fi,rfl⟩:=u.p3.fJ;obtain⟨Py,rfl⟩:=u.p2.oZ;obtain⟨Yc,rfl⟩:=u.oZ;exact pop (nE _ _ _ _ _ _ _ _ _ _ _ _) (aI (x:=(⟨bX,U,Fi,Py,Yc,bX⟩:bP)) u.p1 er rfl rfl λ_ u=>have u:=u.p5.p6.p3.p4.p5.p6.p6;⟨_,_,_,_,_,rfl,u⟩)
  .trivial
  .refine aM u vj (λawx _ u=>?_);have u:=u.enc (cs':=j0 (⟨bX,bX,bX,bX,bX,bX⟩:bP)) rfl;refine⟨aF jM (u.p4.hb.cell rfl),?_⟩;refine⟨aF jM (u.p4.hb.cell rfl),?_⟩;refine⟨aF iB (u.p4.hb.cell rfl),?_⟩;refine⟨aF iB (u.p4.hb.cell rfl),?_⟩;refine dY ID u (C46 _ _ _ (cC.ext u.aG)) (λx14_1 _ G u=>?_);refine⟨aF iB (u.p5.hb.cell rfl),?_⟩;refine dY ID u (C46 _ _ _ (cD.ext u.aG)) (λx17_2 _ G u=>?_);obtain⟨U,rfl⟩:=u.p4.fJ;obtain⟨Fi,rfl⟩:=u.p3.fJ;obtain⟨Yd,rfl⟩:=u.p1.oZ;obtain⟨Ye,rfl⟩:=u.oZ
   exact pop (nE _ _ _ _ _ _ _ _ _ _ _ _) (aI (x:=(⟨bX,U,Fi,Yd,Ye,bX⟩:bP)) u.p2 er rfl rfl λ_ u=>have u:=u.p5.p6.p3.p4.p5.p6.p6;⟨_,_,_,_,_,rfl,u⟩)
  .trivial
  .refine aM u vj (λawy _ u=>?_);have u:=u.enc (cs':=j0 (⟨bX,bX,bX,bX,bX,bX⟩:bP)) rfl;refine⟨aF jM (u.p3.hb.cell rfl),?_⟩;refine⟨aF jM (u.p3.hb.cell rfl),?_⟩;refine⟨aF iB (u.p3.hb.cell rfl),?_⟩;refine⟨aF iB (u.p3.hb.cell rfl),?_⟩;refine dY TI u (C45 _ _ _ (Y.ext u.aG)) (λx11_1 _ G u=>?_);refine⟨aF iB (u.p4.hb.cell rfl),?_⟩;refine⟨aF iB (u.p4.hb.cell rfl),?_⟩;refine dY ID u (C46 _ _ _ (cC.ext u.aG)) (λx14_2 _ G u=>?_);refine⟨aF iB (u.p5.hb.cell rfl),?_⟩;refine dY ID u (C46 _ _ _ (cD.ext u.aG)) (λx17_3 _ G u=>?_)
   obtain⟨U,rfl⟩:=u.p4.fJ;obtain⟨Yf,rfl⟩:=u.p2.fJ;obtain⟨Yg,rfl⟩:=u.p1.oZ;obtain⟨Yh,rfl⟩:=u.oZ;exact pop (nE _ _ _ _ _ _ _ _ _ _ _ _) (aI (x:=(⟨bX,U,Yf,Yg,Yh,bX⟩:bP)) u.p3 er rfl rfl λ_ u=>have u:=u.p5.p6.p3.p4.p5.p6.p6;⟨_,_,_,_,_,rfl,u⟩)
  .trivial
  .refine aM u vj (λawz _ u=>?_);have u:=u.enc (cs':=j0 (⟨bX,bX,bX,bX,bX,bX⟩:bP)) rfl;refine⟨aF jM (u.p2.hb.cell rfl),?_⟩;refine⟨aF jM (u.p2.hb.cell rfl),?_⟩;refine⟨aF iB (u.p2.hb.cell rfl),?_⟩;refine⟨aF iB (u.p2.hb.cell rfl),?_⟩;refine dY TI u (C45 _ _ _ (apX.ext u.aG)) (λx8_1 _ G u=>?_);refine⟨aF jM (u.p3.hb.cell rfl),?_⟩;refine⟨aF iB (u.p3.hb.cell rfl),?_⟩;refine⟨aF iB (u.p3.hb.cell rfl),?_⟩;refine dY TI u (C45 _ _ _ (Y.ext u.aG)) (λx11_2 _ G u=>?_);refine⟨aF iB (u.p4.hb.cell rfl),?_⟩;refine⟨aF iB (u.p4.hb.cell rfl),?_⟩
   refine dY ID u (C46 _ _ _ (cC.ext u.aG)) (λx14_3 _ G u=>?_);refine⟨aF iB (u.p5.hb.cell rfl),?_⟩;refine dY ID u (C46 _ _ _ (cD.ext u.aG)) (λx17_4 _ G u=>?_);obtain⟨DC,rfl⟩:=u.p3.fJ;obtain⟨Yi,rfl⟩:=u.p2.fJ;obtain⟨Yj,rfl⟩:=u.p1.oZ;obtain⟨Yk,rfl⟩:=u.oZ;exact pop (nE _ _ _ _ _ _ _ _ _ _ _ _) (aI (x:=(⟨bX,DC,Yi,Yj,Yk,bX⟩:bP)) u.p4 er rfl rfl λ_ u=>have u:=u.p5.p6.p3.p4.p5.p6.p6;⟨_,_,_,_,_,rfl,u⟩)
  trivial
 rintro _ _ ⟨V,B,J,I,E,rfl,u⟩ _;have u:=((((((((u.I1 (α:=(List cJ))).p7).p7).p7).p7).p7).p7).p6).p7;refine⟨λm x w1=>∃(k:Nat) (M:SV),x=hZ (k:Int)/\m=6-k/\k<=6/\k<=p.lines.length/\St w aZ [bY V (j0 (⟨M,B,J,I,E,bX⟩:bP)),fU (ia M) ((p.lines.take k).map jG),bH (ia B) (jG p.iR),bH (ia J) (jG p.eJ),fU (ia I) (kZ p.threads),fU (ia E) (kZ p.recover),bY ko (j0 (⟨Z,bU,bL,aW,aX,bG⟩:bP)),bY wm (j0 (⟨bX,bX,bX,bX,bX,bX⟩:bP))] w1,⟨_,0,bX,rfl,rfl,cK,cK,u⟩,?_⟩
 rintro m _ _ ⟨k,M,rfl,rfl,hk,xl,u⟩ _;have Jj:((p.lines.take k).map jG).length=k:=by rw[n0,l0];omega
 refine⟨λjv w'=>jv=.bool (decide (k<p.lines.length/\k<6))/\St w aZ [bY V (j0 (⟨M,B,J,I,E,bX⟩:bP)),fU (ia M) ((p.lines.take k).map jG),bH (ia B) (jG p.iR),bH (ia J) (jG p.eJ),fU (ia I) (kZ p.threads),fU (ia E) (kZ p.recover),bY ko (j0 (⟨Z,bU,bL,aW,aX,bG⟩:bP)),bY wm (j0 (⟨bX,bX,bX,bX,bX,bX⟩:bP))] w',?_,?_⟩
 .refine aA gy (aB oP u.p6.hb rfl ?_);obtain⟨ts70,awA,awB⟩:=cQ.open;have hn70:=awB.1;exact aK pJ (awA.ext u.aG) (aR (aC (λ_=>aR ⟨vb dD,u⟩) λ_=>⟨vb dD,u⟩))
 rintro _ _ ⟨rfl,u⟩ _;refine aY (λlr=>?_) (λlr=>?_)
 .have hc27:k<p.lines.length/\k<6:=by simpa using lr
  refine aA gy (have u:=u.drew;aB (v:=ia (M:SV)) oP u.hb rfl (aA gy (aB oP u.p6.hb rfl ?_)));obtain⟨awC,awD,apY⟩:=cQ.open;have hn71:=apY.1;obtain⟨apZ,Yl⟩:=gx awC (i:=(k:Int).toNat) cK;obtain⟨Ym,Yn⟩:=gx p.lines (i:=(k:Int).toNat) cK;have ap0:DL w (ia apZ) Ym:=apY.2 _ _ _ Yl Yn;refine aQ pJ awD cK Yl (λ_ LD=>aD jM (LD.ext u.aG) ?_);have awE:=DL.flat ap0;refine dY TI u (C45 _ _ _ (awE.ext u.aG)) (λx37 _ G u=>?_);refine⟨aF oP (u.p1.hb.cell rfl),?_⟩;obtain⟨Yo,rfl⟩:=u.fJ
  have u:=u.freeze.dN (Ψ:=λw=>mh w Yo (jG Ym)) (λ_ h=>DL.j1 h);refine gh (s:=Yo) (x:=(jG Ym)) u pJ ee (λap1 _ u=>?_);refine⟨aF oP (u.p1.hb.cell rfl),?_⟩;have u:=u.p2;refine gi u pJ (by rw[Jj,mv];omega) ee (λap2 _ u=>aA gy ?_);obtain⟨zK,rfl⟩:=u.oZ;exact aT u.p1 oP (dL rfl) (rfl) (λ_ u=>have u:=u.enc (cs':=j0 (⟨zK,B,J,I,E,bX⟩:bP)) rfl;aN cK (have u:=u.p7.p7.p7.p7.p7.p7.p7.p7;⟨_,cK,k+1,zK,rfl,rfl,cK,cK,by rw[<- gd (k:=k) Yn];exact u⟩))
 rw[qF (xs:=p.lines) (k:=k) (m:=6) cK cK (g6 lr)]at u;have u:=(((((((((u.I1 (α:=gS)).p8).p8).p8).p8).p8).p8).p8).p7).p8;refine⟨λm x w1=>∃(j:Nat) (O:SV),x=hZ (j:Int)/\m=6-j/\j<=6/\j<=p.dS.length/\St w aZ [bY V (j0 (⟨M,B,J,I,E,O⟩:bP)),fU (ia O) ((p.dS.take j).map E7),fU (ia M) ((p.lines.take 6).map jG),bH (ia B) (jG p.iR),bH (ia J) (jG p.eJ),fU (ia I) (kZ p.threads),fU (ia E) (kZ p.recover),bY ko (j0 (⟨Z,bU,bL,aW,aX,bG⟩:bP)),bY wm (j0 (⟨bX,bX,bX,bX,bX,bX⟩:bP))] w1,⟨_,0,bX,rfl,rfl,cK,cK,u⟩,?_⟩
 rintro m _ _ ⟨j,O,rfl,rfl,hj,B7,u⟩ _;have ai1:((p.dS.take j).map E7).length=j:=by rw[n0,l0];omega
 refine⟨λjv w'=>jv=.bool (decide (j<p.dS.length/\j<6))/\St w aZ [bY V (j0 (⟨M,B,J,I,E,O⟩:bP)),fU (ia O) ((p.dS.take j).map E7),fU (ia M) ((p.lines.take 6).map jG),bH (ia B) (jG p.iR),bH (ia J) (jG p.eJ),fU (ia I) (kZ p.threads),fU (ia E) (kZ p.recover),bY ko (j0 (⟨Z,bU,bL,aW,aX,bG⟩:bP)),bY wm (j0 (⟨bX,bX,bX,bX,bX,bX⟩:bP))] w',?_,?_⟩
 .refine aA jw (aB qQ u.p7.hb rfl ?_);obtain⟨ts73,awF,awG⟩:=cP.open;have hn73:=awG.1;exact aK sX (awF.ext u.aG) (aR (aC (λ_=>aR ⟨vb dD,u⟩) λ_=>⟨vb dD,u⟩))
 rintro _ _ ⟨rfl,u⟩ _;refine aY (λsi=>?_) (λsi=>?_)
 .have hc49:j<p.dS.length/\j<6:=by simpa using si
  refine aA jw (have u:=u.drew;aB (v:=ia (O:SV)) qQ u.hb rfl (aA jw (aB qQ u.p7.hb rfl ?_)));obtain⟨awH,ap3,ap4⟩:=cP.open;have hn74:=ap4.1;obtain⟨Yp,B9⟩:=gx awH (i:=(j:Int).toNat) cK;obtain⟨W,Yq⟩:=gx p.dS (i:=(j:Int).toNat) cK;obtain⟨adx,rfl,ady⟩:=ap4.2 _ _ _ B9 Yq;refine aQ sX ap3 cK B9 (λ_ EY=>bW adx vl EY rfl rfl λ_ A3=>aD jx (A3.ext u.aG) ?_);have awI:=DL.flat ady;refine aA jw (aB qQ u.p7.hb rfl (aQ sX ap3 cK B9 λ_ EM=>bW (W).at_ IQ EM rfl rfl λ_ CJ=>aD bM (CJ.ext u.aG) (dY ahD u (C47 _ _ _ (awI.ext u.aG)) λx60 _ G u=>?_)))
  refine⟨aF qQ (u.p1.hb.cell rfl),?_⟩;refine⟨aF qQ (u.p8.hb.cell rfl),?_⟩;refine⟨eN bM (CJ.ext u.aG),?_⟩;obtain⟨Ca,rfl⟩:=u.fJ;refine pop (G6 _ _ _ _) (have u:=u.freeze.dN (Ψ:=(λw=>mh w (⟨Ca,(W).at_⟩:jA) (⟨(yz (W).e),(W).at_⟩:gS))) (λ_ h=>⟨_,rfl,DL.j1 h⟩);gh (s:=(⟨Ca,(W).at_⟩:jA)) (x:=(⟨(yz (W).e),(W).at_⟩:gS)) u sX ee λs_x68 _ u=>?_);refine⟨aF qQ (u.p1.hb.cell rfl),?_⟩;have u:=u.p2;refine gi u sX (by rw[ai1,mv];omega) ee (λs_x69 _ u=>aA jw ?_)
  obtain⟨Yr,rfl⟩:=u.oZ;exact aT u.p1 qQ (dL rfl) (rfl) (λ_ u=>have u:=u.enc (cs':=j0 (⟨M,B,J,I,E,Yr⟩:bP)) rfl;aN cK (have u:=u.p8.p8.p8.p8.p8.p8.p8.p8.p8;⟨_,cK,j+1,Yr,rfl,rfl,cK,cK,by rw[<- gd (k:=j) Yq];exact u⟩))
 refine aD er u.At (aI (x:=(⟨M,B,J,I,E,O⟩:bP)) u.p8 er rfl rfl λ_ u=>aD er u.At ?_);rw[qF (xs:=p.dS) (k:=j) (m:=6) cK cK (g6 si)]at u;have u:=u.p3.mX.p4.freeze.p1.gR.p4.freeze.p1.gR.p4.mX.p1.gR.p4.mX.p1.gR;have u:=u.p3.mX.p1.gR.dN (Ψ:=(λw=>mh w (⟨M,B,J,I,E,O⟩:bP) (⟨((p.lines.take 6).map jG),(jG p.iR),(jG p.eJ),(kZ p.threads),(kZ p.recover),((p.dS.take 6).map E7)⟩:cE))) (λ_ h=>⟨_,_,_,_,_,_,rfl,h.1.1.1.1.1,DL.j1 h.1.1.1.1.2,DL.j1 h.1.1.1.2,h.1.1.2,h.1.2,h.2⟩)
 have u:=u.p1.drop.p1.drop.p1.drop;exact⟨_,rfl,u.fresh⟩
def tI(l:List Int)(i:Nat):Int:=if i=0 then 0 else l.getD (i-1) 0+1
theorem Ys(x:bQ)(loops:Int):loops+I3 (decide (x.kind=12))=Bk.Dv x loops:=by
 unfold Bk.Dv I3
 grind
def ap5(b:Bool):0<=I3 b/\I3 b<=1:=by cases b<;>decide
def C309(sv fv:Value)(xs:List bQ)(φ:bQ->Prop)(g:bQ->Bool)(w:World)(hL:DL w sv xs)(hf:tG hH w fv φ g)(hφ:∀x∈xs,φ x)(hn:xs.length<=1073741824):CR 309 [sv,fv] w (λv w'=>v=hZ (sm g xs)/\Ext w w'):=by
 obtain⟨g0,first,cap,rfl,oG,j5⟩:=hf;have u:=St.start w;refine fg Tryz.func309 ?_;obtain⟨Z,O,U⟩:=hL.open;have hn3:=U.1;refine aK fq (O.ext u.aG) ?_;refine⟨λm x J=>∃k:Nat,x=hZ (k:Int)/\m=xs.length-k/\k<=xs.length/\(∀y∈xs.take k,g y=false)/\St w aZ [] J,⟨_,0,rfl,rfl,l1 _,ei,u⟩,?_⟩;rintro m _ J ⟨k,rfl,rfl,hk,E,u⟩ _;refine aR (aC (λjJ=>?_) λ_=>⟨gO (ni .i64) (jh (by rw[kO cK]at E;exact E)).symm,u.aG⟩);obtain⟨ix,V⟩:=gx Z (i:=(k:Int).toNat) cK;obtain⟨W,B⟩:=gx xs (i:=(k:Int).toNat) cK
 obtain⟨Jl,M,rfl,Jm,I⟩:=U.2 _ _ _ V B;refine aQ fq O cK V (λ_ Y=>aD eM (Y.ext u.aG) (gV oG (j5 _ W J u.aG ⟨Jl,M,rfl,(Jm.ext u.aG),(I.ext u.aG)⟩ (hφ _ (kE B))) ?_));rintro _ _ ⟨rfl,he⟩;have u:=u.ext he;exact aY (λG=>⟨gO (ni .i64) (me E B G).symm,u.aG⟩) (λG=>aN cK ⟨_,cK,k+1,rfl,rfl,cK,dZ E B G,u⟩)
def C282(sv fv:Value)(xs:List bQ)(φ:bQ->Prop)(g:bQ->Bool)(w:World)(G:DL w sv xs)(B:tG hH w fv φ g)(E:∀x∈xs,φ x)(I:xs.length<=1073741824):CR 282 [sv,fv] w (λv w'=>v=.bool (xs.any g)/\Ext w w'):=by
 have u:=St.start w;refine fg Tryz.func282 ?_;exact aV aoW u (C309 _ _ _ _ _ _ (G.ext u.aG) (B.ext u.aG) E cK) (λ_ _ u=>cR ⟨vb (kU _ _),u.aG⟩)
theorem C284(lv:Value)(xs:List bQ)(loops:Int)(N:Nat)(w:World)(hL:DL w lv xs)(hn:xs.length<=40)(hlo:0<=loops)(Ob:loops+N<=4194304)(hN:xs.length<N):CR 284 [lv,hZ loops] w (λv w'=>v=hZ (fE xs loops)/\Ext w w'):=by
 have E:=St.start w;refine adh _ _ _ _ ?_;unfold S284;refine⟨λm y x w1=>∃(k:Nat) (n:Int),y=hZ n/\x=hZ (k:Int)/\m=xs.length-k/\k<=xs.length/\0<=n/\n<=41/\fE xs loops=so n (fE (xs.drop k) loops)/\St w aZ [] w1,⟨_,0,0,rfl,rfl,rfl,cK,cK,cK,by have:=tH xs loops;rw[List.drop_zero];unfold so;split<;>omega,E⟩,?_⟩;rintro m _ _ w1 ⟨k,n,rfl,rfl,rfl,hk,Vx,W6,hinv,E⟩ _;obtain⟨yR,J,I⟩:=hL.open;have hn4:=I.1;refine aK fq (J.ext E.aG) (aR (aC (λet=>?_) λet=>?_))
 .obtain⟨lW,ig⟩:=gx yR (i:=(k:Int).toNat) cK;obtain⟨u,lG⟩:=gx xs (i:=(k:Int).toNat) cK;obtain⟨O,M,rfl,Sk,Sl⟩:=I.2 _ _ _ ig lG;refine aQ fq J cK ig (λ_ lS=>?_);have hdk:=drop_cons (xs:=xs) (k:=k) lG;rw[hdk]at hinv;have Hh:(xs.drop (k+1)).length=xs.length-(k+1):=qb;refine aD eM (lS.ext E.aG) (aM E jy λZ _ E=>have E:=E.enc (cs':=j0 (⟨0,(kh #[]),(kh #[]),bX,bX,0,0,0,0⟩:bE)) rfl;aI (x:=(⟨u.kind,u.eF,u.name,O,M,u.n,u.body,u.eu,u.at_⟩:bE)) E eM rfl rfl λ_ E=>aN cK (aA iY (aB (v:=hZ u.body) bM E.hb rfl (uI ?_))))
  obtain⟨W1,V⟩:∃W,W=BA (((k:Int)+1)+u.body):=⟨_,rfl⟩;rw[<- V];refine aA iI (aB (v:=hZ u.eu) bM E.hb rfl (uI ?_));obtain⟨U,Y⟩:∃W,W=BA (W1+u.eu):=⟨_,rfl⟩;rw[<- Y];refine⟨λG w'=>G=.bool (Bk.zB u)/\St w aZ [bY Z (j0 (⟨u.kind,u.eF,u.name,O,M,u.n,u.body,u.eu,u.at_⟩:bE))] w',aA dM (aB (v:=hZ u.kind) bM E.hb rfl (aH (aC (λ_=>⟨vb (by unfold Bk.zB;grind),E⟩) λ_=>aA dM (aB (v:=hZ u.kind) bM E.hb rfl (aH ⟨vb (by unfold Bk.zB;grind),E⟩))))),?_⟩
  rintro _ _ ⟨rfl,E⟩ _;refine⟨λG w'=>G=.bool (decide (u.body<0\/u.eu<0\/(xs.length:Int)<u.body\/(xs.length:Int)<u.eu\/(xs.length:Int)<U))/\St w aZ [bY Z (j0 (⟨u.kind,u.eF,u.name,O,M,u.n,u.body,u.eu,u.at_⟩:bE))] w',aA iY (aB (v:=hZ u.body) bM E.hb rfl (aR (aC (λ_=>⟨vb dD,E⟩) λxe=>?_))),?_⟩
  .refine aA iI (aB (v:=hZ u.eu) bM E.hb rfl (aR ?_));exact aC (λ_=>⟨vb dD,E⟩) (λ_=>aA iY (aB (v:=hZ u.body) bM E.hb rfl (aK fq (J.ext E.aG) (cO (aC (λ_=>⟨vb dD,E⟩) λ_=>aA iI (aB (v:=hZ u.eu) bM E.hb rfl (aK fq (J.ext E.aG) (cO (aC (λ_=>⟨vb dD,E⟩) λ_=>aK fq (J.ext E.aG) (cO ⟨vb dD,E⟩))))))))))
  rintro _ _ ⟨rfl,E⟩ _;refine aY (λo7=>?_) (λo7=>?_)
  .have hW:0<=u.body/\u.body<=40/\0<=u.eu/\u.eu<=40->U=(k:Int)+1+u.body+u.eu:=λh=>by
    have h1:W1=(k:Int)+1+u.body:=by rw[V];exact zq cK
    rw[Y,zq cK];omega
   exact⟨gO (ni .i64) (I6 hinv (by unfold uO;grind)).symm,E.drop.aG⟩
  have hq:=g6 o7
  have hW:U=(k:Int)+1+u.body+u.eu:=by
   have h1:W1=(k:Int)+1+u.body:=by rw[V];exact zq cK
   rw[Y,zq cK];omega
  have oL:uO u (xs.drop (k+1)):=by unfold uO;omega
  refine⟨λG w'=>G=.bool (!Bk.yg u loops)/\St w aZ [bY Z (j0 (⟨u.kind,u.eF,u.name,O,M,u.n,u.body,u.eu,u.at_⟩:bE))] w',⟨λG w'=>G=.bool (!Bk.zB u&&decide (0<u.body))/\St w aZ [bY Z (j0 (⟨u.kind,u.eF,u.name,O,M,u.n,u.body,u.eu,u.at_⟩:bE))] w',bR (aY (λ_=>aA iY (aB (v:=hZ u.body) bM E.hb rfl (cO ⟨vb dD,E⟩))) λ_=>⟨vb dD,E⟩),?_⟩,?_⟩
  .rintro _ _ ⟨rfl,E⟩ _;refine aY (λ_=>⟨vb (by unfold Bk.yg;unfold Bk.zB at *;grind),E⟩) (λagb=>⟨λG w'=>G=.bool (decide (¬ u.kind=11/\0<u.eu))/\St w aZ [bY Z (j0 (⟨u.kind,u.eF,u.name,O,M,u.n,u.body,u.eu,u.at_⟩:bE))] w',aA dM (aB (v:=hZ u.kind) bM E.hb rfl (bV (aC (λ_=>aA iI (aB (v:=hZ u.eu) bM E.hb rfl (cO ⟨vb dD,E⟩))) λ_=>⟨vb dD,E⟩))),?_⟩);rintro _ _ ⟨rfl,E⟩ _;exact aY (λ_=>⟨vb (by unfold Bk.yg;unfold Bk.zB at *;grind),E⟩) (λ_=>aA dM (aB (v:=hZ u.kind) bM E.hb rfl (aH (aC (λ_=>aH ⟨vb (by unfold Bk.yg;unfold Bk.zB at *;grind),E⟩) λ_=>⟨vb (by unfold Bk.yg;unfold Bk.zB at *;grind),E⟩))))
  rintro _ _ ⟨rfl,E⟩ _;refine aY (λ_=>⟨gO (ni .i64) (I6 hinv dD).symm,E.drop.aG⟩) (λatb=>?_);have kC:Bk.yg u loops=true:=dD
  have ah9:=oL;unfold uO at ah9;refine⟨λG w'=>∃n':Int,G=hZ n'/\0<=n'/\n'<=41/\fE xs loops=so n' (fE (xs.drop (k+1+(u.body.toNat+u.eu.toNat))) loops)/\St w aZ [bY Z (j0 (⟨u.kind,u.eF,u.name,O,M,u.n,u.body,u.eu,u.at_⟩:bE))] w',aY (λCb=>?_) (λCb=>?_),?_⟩
  .have hb01:=Ys u loops;have hbb:=ap5 (decide (u.kind=12));have hcA:((xs.take (((k:Int)+1)+u.body).toNat).drop ((k:Int)+1).toNat)=(xs.drop (k+1)).take u.body.toNat:=vu xs cK cK;have hcB:((xs.take U.toNat).drop (((k:Int)+1)+u.body).toNat)=((xs.drop (k+1)).drop u.body.toNat).take u.eu.toNat:=by rw[sZ];exact vu xs cK cK
   have hlA:((xs.take (((k:Int)+1)+u.body).toNat).drop ((k:Int)+1).toNat).length<=xs.length-1/\((xs.take (((k:Int)+1)+u.body).toNat).drop ((k:Int)+1).toNat).length<=40:=by rw[hcA,l0];omega
   have hlB:((xs.take U.toNat).drop (((k:Int)+1)+u.body).toNat).length<=xs.length-1/\((xs.take U.toNat).drop (((k:Int)+1)+u.body).toNat).length<=40:=by rw[hcB,l0,qb];omega
   refine aA dM (aB (v:=hZ u.kind) bM E.hb rfl (aH (aV Wg E (C302 _ _) λ_ he E=>aN cK (aN cK (aN cK (aA iY (have E:=E.drew;aB (v:=hZ u.body) bM E.hb rfl (aN cK (oz fq (J.ext E.aG) cK cK cK λawL adB=>?_)))))))));have adC:=DL.cut adB J I;refine aN cK (aA iY (aB (v:=hZ u.body) bM E.hb rfl (aN cK (oz fq (J.ext E.aG) cK cK cK λawM adD=>?_))));have adE:=DL.cut adD J I
   refine aV XN E (C284 _ _ _ (N-1) _ (adC.ext E.aG) cK cK cK cK) (λ_ he E=>?_);refine⟨aF bM (E.hb.cell rfl),?_⟩;refine dO XN (C284 _ _ _ (N-1) _ (adE.ext E.aG) cK cK cK cK) ?_;rintro _ _ ⟨rfl,he⟩;have E:=E.ext he;obtain⟨A,hA⟩:∃A,A=fE ((xs.take (((k:Int)+1)+u.body).toNat).drop ((k:Int)+1).toNat) (Bk.Dv u loops):=⟨_,rfl⟩;obtain⟨B,hB⟩:∃B,B=fE ((xs.take U.toNat).drop (((k:Int)+1)+u.body).toNat) (Bk.Dv u loops):=⟨_,rfl⟩;have hAb:=tH ((xs.take (((k:Int)+1)+u.body).toNat).drop ((k:Int)+1).toNat) (Bk.Dv u loops)
   have hBb:=tH ((xs.take U.toNat).drop (((k:Int)+1)+u.body).toNat) (Bk.Dv u loops);rw[<- hA]at hAb;rw[<- hB]at hBb;rw[Ys,<- hA,<- hB];have TZ:=Xg hinv oL kC Cb A B (by rw[hA,hcA]) (by rw[hB,hcB]);refine⟨λG w'=>G=.bool (decide (A<0\/B<0))/\St w aZ [bY Z (j0 (⟨u.kind,u.eF,u.name,O,M,u.n,u.body,u.eu,u.at_⟩:bE))] w',aH (aC (λ_=>⟨vb dD,E⟩) λ_=>aH ⟨vb dD,E⟩),?_⟩;rintro _ _ ⟨rfl,E⟩ _;refine aY (λPA=>⟨gO (ni .i64) (TZ.1 (gP PA)).symm,E.drop.aG⟩) (λPA=>aN cK (aN cK (Lu ?_)))
   have Xi:=TZ.2 (g6 PA);rw[sZ,abo 1 A,abo 1 B]at Xi;exact⟨_,rfl,cK,cK,Xi,E⟩
  .have hdn:=af9 hinv oL kC Cb;rw[sZ]at hdn;exact⟨_,rfl,Vx,W6,hdn,E⟩
  rintro _ _ ⟨n',rfl,aic,aid,Xj,E⟩ _;exact⟨_,cK,k+1+(u.body.toNat+u.eu.toNat),n',rfl,gO (ni .i64) cK,rfl,cK,aic,aid,Xj,E.drop⟩
 rw[vF cK,BY]at hinv;exact⟨gO (ni .i64) (by rw[hinv];unfold so;omega),E.aG⟩
termination_by N
decreasing_by all_goals omega
theorem Mn(xs:List bQ):pO xs=(!(decide (40<xs.length)||xs.any λy=>!m9 y)&&decide (¬ fE xs 0 = -1/\fE xs 0<=12)):=by
 have:=tH xs 0
 grind[pO,m9,fE]
def C241(lv:Value)(xs:List bQ)(w:World)(I:DL w lv xs)(hn:xs.length<=1048576)(Y:∀x∈xs,x.e.length<=1048576/\x.f.length<=1048576):CR 241 [lv] w (λv w'=>v=.bool (pO xs)/\Ext w w'):=by
 have u:=St.start w;refine fg Tryz.func241 ?_;refine⟨λG w'=>G=.bool (decide (40<xs.length)||xs.any λy=>!m9 y)/\St w aZ [] w',?_,?_⟩
 .obtain⟨U,E,B⟩:=I.open;have Z:=B.1;exact aK fq (E.ext u.aG) (cO (aC (λ_=>⟨vb dD,u⟩) λ_=>aV aoV u (C282 _ _ _ (λx=>x.e.length<=1048576/\x.f.length<=1048576) _ _ (I.ext u.aG) ⟨283,[],[],rfl,aoM,λsv y V _ W M=>C283 y sv V W M.1 M.2⟩ Y cK) λ_ _ u=>⟨vb dD,u⟩))
 rintro _ _ ⟨rfl,u⟩ _;refine aY (λJ=>?_) (λJ=>?_)
 .refine⟨vb ?_,u.aG⟩;rw[Mn,J];rfl
 have O:xs.length<=40:=dD
 refine aV XN u (C284 _ _ _ (xs.length+1) _ (I.ext u.aG) cK cK cK cK) (λ_ he u=>⟨λG w'=>G=.bool (decide (¬ fE xs 0 = -1/\fE xs 0<=12))/\St w aZ [] w',bV (aC (λ_=>iE ⟨vb dD,u⟩) λ_=>⟨vb dD,u⟩),?_⟩);rintro _ _ ⟨rfl,u⟩ _;refine⟨vb ?_,u.aG⟩;rw[Mn,J];rfl
def Jn(t:cN):Bool:=rD t.at_&&!t.dQ.any (λs=>!gK s)&&pO t.body
theorem Sm(t:cN):(!gK t.name||!Jn t)=mD true t:=by
 unfold mD sq Jn
 grind
theorem Sn(t:cN):(decide (¬ t.name=⟨#[]⟩)||!Jn t)=mD false t:=by
 unfold mD sq Jn
 by_cases h:t.name=⟨#[]⟩
 .rw[h,show gK (⟨#[]⟩:ByteArray)=false from ee]
  grind
 grind
theorem Mp(p:cE):(!(p.lines.any nR||!nY 4294967296 p.iR||!nY 0 p.eJ||decide (1<p.recover.length))&&(!p.threads.any (mD true)&&!p.recover.any (mD false)&&!p.dS.any lT))=kr p:=by
 unfold kr nL
 grind
def SzS.ok{xs:List bQ}(h:∀x∈xs,SzS x):∀x∈xs,x.e.length<=1048576/\x.f.length<=1048576:=λx u=>⟨(h x u).2.2.1,(h x u).2.2.2.1⟩
def C184(n:Int)(w:World):CR 184 [hZ n] w (λv w'=>v=.bool (rD n)/\Ext w w'):=by
 have u:=St.start w;refine fg Tryz.func184 ?_;refine⟨λB w'=>B=.bool (decide (0<=n/\n<=4000))/\w=w',cR (aC (λ_=>iE ⟨yF cK,rfl⟩) λ_=>⟨jvF cK,rfl⟩),?_⟩;rintro _ _ ⟨rfl,E⟩ _;subst E;exact⟨rfl,u.aG⟩
def C233(c:cJ)(b2:Nat)(E:Int)(w:World)(hc:Cell w b2 0 (hZ E)):CR 233 [ia c,.pointer (some ⟨b2,0,none⟩)] w (λv w'=>v=.bool (iS E c)/\Ext w w'):=by
 have u:=St.start w;refine fg Tryz.func233 ?_;refine cI u (λB _ u=>⟨λG w'=>G=.bool (iS E c)/\St w aZ [bY B (j0 c)] w',aA kQ (aB (v:=.string c.name) gw u.hb rfl (aV LK u (C180 _ _) λ_ I u=>bR (aY (λ_=>⟨vb (by unfold iS;grind),u⟩) λJ=>?_))),?_⟩)
 .exact aA rZ (aB (v:=hZ c.n) bM u.hb rfl (aR (aC (λ_=>⟨vb (by unfold iS;grind),u⟩) λ_=>aA rZ (aB (v:=hZ c.n) bM u.hb rfl (bO bM (hc.ext u.aG) (cO (aC (λ_=>⟨vb (by unfold iS;grind),u⟩) λ_=>aA uF (aB (v:=hZ c.at_) bM u.hb rfl (aV XP u (C184 _ _) λ_ _ u=>bR ⟨vb (by unfold iS;grind),u⟩)))))))))
 rintro _ _ ⟨rfl,u⟩ _;exact⟨rfl,u.drop.aG⟩
def C279(sv fv:Value)(xs:List cJ)(g:cJ->Bool)(w:World)(J:dC (λ_=>True) w sv xs)(V:wk w fv g)(hn:xs.length<=1073741824):CR 279 [sv,fv] w (λv w'=>v=hZ (sm g xs)/\Ext w w'):=by
 obtain⟨Z,first,cap,rfl,W,U⟩:=V;have u:=St.start w;refine fg Tryz.func279 ?_;refine aK im (J.ext u.aG) ?_;refine⟨λm x G=>∃k:Nat,x=hZ (k:Int)/\m=xs.length-k/\k<=xs.length/\(∀y∈xs.take k,g y=false)/\St w aZ [] G,⟨_,0,rfl,rfl,l1 _,ei,u⟩,?_⟩;rintro m _ G ⟨k,rfl,rfl,hk,B,u⟩ _;refine aR (aC (λjJ=>?_) λ_=>⟨gO (ni .i64) (jh (by rw[kO cK]at B;exact B)).symm,u.aG⟩);obtain⟨Y,I⟩:=gx xs (i:=(k:Int).toNat) cK;refine aQ im J cK I (λ_ M=>aD mc (M.ext u.aG) (gV W (U Y G u.aG) ?_))
 rintro _ _ ⟨rfl,O⟩;have u:=u.ext O;exact aY (λE=>⟨gO (ni .i64) (me B I E).symm,u.aG⟩) (λE=>aN cK ⟨xs.length-(k+1),cK,k+1,rfl,rfl,cK,dZ B I E,u⟩)
def C232(sv fv:Value)(xs:List cJ)(g:cJ->Bool)(w:World)(E:dC (λ_=>True) w sv xs)(B:wk w fv g)(G:xs.length<=1073741824):CR 232 [sv,fv] w (λv w'=>v=.bool (xs.any g)/\Ext w w'):=by
 have u:=St.start w;refine fg Tryz.func232 ?_;exact aV aoY u (C279 _ _ _ _ _ (E.ext u.aG) (B.ext u.aG) cK) (λ_ _ u=>cR ⟨vb (kU _ _),u.aG⟩)
def C178(lv:Value)(xs:List cJ)(B:Int)(w:World)(M:dC (λ_=>True) w lv xs)(O:xs.length<=1048576):CR 178 [lv,hZ B] w (λv w'=>v=.bool (nY B xs)/\Ext w w'):=by
 have u:=St.start w;refine fg Tryz.func178 ?_;refine nx u rfl (λI G u=>?_)
 have E:wk _ (.func (.func 233) [].toArray [.pointer (some ⟨I,0,none⟩)].toArray) (iS B):=
  ⟨233,[],_,rfl,aoT,λy G J=>C233 y I B G ((u.hb.cell rfl).ext J)⟩
 exact aV aoX u (C232 _ _ _ _ _ (M.ext u.aG) E cK) (λ_ _ u=>bR ⟨rfl,u.drop.aG⟩)
def C239(s:ByteArray)(w:World):CR 239 [.string s] w (λv w'=>v=.bool (!gK s)/\Ext w w'):=by
 have u:=St.start w;refine fg Tryz.func239 ?_;exact aV LK u (C180 _ _) (λ_ _ u=>bR ⟨rfl,u.aG⟩)
def C181(t:cN)(G:cH)(w:World)(ht:mh w G t)(W:Xh t/\t.dQ.length<=500/\t.body.length<=500):CR 181 [ia G] w (λv w'=>v=.bool (Jn t)/\Ext w w'):=by
 obtain⟨V,U,rfl,M,I⟩:=ht;have u:=St.start w;refine fg Tryz.func181 ?_;refine cI u (λO E u=>⟨λJ w'=>J=.bool (Jn t)/\St w aZ [bY O (j0 (⟨t.name,V,U,t.at_⟩:cH))] w',aA qt (aB (v:=hZ t.at_) bM u.hb rfl (aV XP u (C184 _ _) λ_ Y u=>aY (λZ=>?_) λ_=>⟨vb (by unfold Jn;grind),u⟩)),?_⟩)
 .refine aA fS (aB jk u.hb rfl ?_);have B:=DL.flat M;exact aV agj u (C240 _ _ _ (λs=>!gK s) _ (B.ext u.aG) ⟨239,[],[],rfl,aoU,λy E _=>C239 y E⟩ cK) (λ_ _ u=>bR (aY (λ_=>aA lK (aB jP u.hb rfl (aV aoN u (C241 _ _ _ (I.ext u.aG) cK (SzS.ok W.1.2.2)) λ_ _ u=>⟨vb (by unfold Jn;grind),u⟩))) λ_=>⟨vb (by unfold Jn;grind),u⟩))
 rintro _ _ ⟨rfl,u⟩ _;exact⟨rfl,u.drop.aG⟩
def C179(t:cN)(B:cH)(w:World)(ht:mh w B t)(U:Xh t/\t.dQ.length<=500/\t.body.length<=500):CR 179 [ia B] w (λv w'=>v=.bool (mD true t)/\Ext w w'):=by
 obtain⟨G,E,rfl,J,I⟩:=ht;have u:=St.start w;refine fg Tryz.func179 ?_;refine cI u (λM _ u=>⟨λO w'=>O=.bool (mD true t)/\St w aZ [bY M (j0 (⟨t.name,G,E,t.at_⟩:cH))] w',aA qq (aB (v:=.string t.name) gw u.hb rfl (aV LK u (C180 _ _) λ_ _ u=>bR (aY (λ_=>⟨vb (by rw[<- Sm];grind),u⟩) λ_=>aD m7 u.At (aV agt u (C181 t _ _ ⟨G,E,rfl,(J.ext u.aG),(I.ext u.aG)⟩ U) λ_ _ u=>bR ⟨vb (by rw[<- Sm];grind),u⟩)))),?_⟩);rintro _ _ ⟨rfl,u⟩ _;exact⟨rfl,u.drop.aG⟩
def C182(t:cN)(B:cH)(w:World)(ht:mh w B t)(U:Xh t/\t.dQ.length<=500/\t.body.length<=500):CR 182 [ia B] w (λv w'=>v=.bool (mD false t)/\Ext w w'):=by
 obtain⟨G,E,rfl,J,I⟩:=ht;have u:=St.start w;refine fg Tryz.func182 ?_;refine cI u (λM _ u=>⟨λO w'=>O=.bool (mD false t)/\St w aZ [bY M (j0 (⟨t.name,G,E,t.at_⟩:cH))] w',aA qq (aB (v:=.string t.name) gw u.hb rfl (l9 (aC (λ_=>⟨vb (by rw[<- Sn];grind),u⟩) λ_=>aD m7 u.At (aV agt u (C181 t _ _ ⟨G,E,rfl,(J.ext u.aG),(I.ext u.aG)⟩ U) λ_ _ u=>bR ⟨vb (by rw[<- Sn];grind),u⟩)))),?_⟩);rintro _ _ ⟨rfl,u⟩ _;exact⟨rfl,u.drop.aG⟩
def C177(lv:Value)(xs:List cJ)(w:World)(B:dC (λ_=>True) w lv xs)(G:xs.length<=1048576):CR 177 [lv] w (λv w'=>v=.bool (nR xs)/\Ext w w'):=by
 have u:=St.start w;refine fg Tryz.func177 ?_;refine⟨λE w'=>E=.bool (nR xs)/\St w aZ [] w',aK im (B.ext u.aG) (aH (aC (λ_=>⟨vb (by unfold nR;grind),u⟩) λ_=>aV XO u (C178 _ _ _ _ (B.ext u.aG) cK) λ_ _ u=>bR ⟨vb (by unfold nR;grind),u⟩)),?_⟩;rintro _ _ ⟨rfl,u⟩ _;exact⟨rfl,u.aG⟩
def C183(c:gS)(cv:jA)(w:World)(hc:mh w cv c)(U:c.e.length<=1048576):CR 183 [ia cv] w (λv w'=>v=.bool (lT c)/\Ext w w'):=by
 obtain⟨B,rfl,I⟩:=hc;have u:=St.start w;refine fg Tryz.func183 ?_;refine cI u (λE _ u=>⟨λJ w'=>J=.bool (lT c)/\St w aZ [bY E (j0 (⟨B,c.at_⟩:jA))] w',aA IQ (aB (v:=hZ c.at_) bM u.hb rfl (aV XP u (C184 _ _) λ_ M u=>bR (aY (λ_=>⟨vb (by unfold lT;grind),u⟩) λO=>?_))),?_⟩)
 .refine aA vl (aB jx u.hb rfl ?_);have G:=DL.flat I;exact aV R2 u (C185 _ _ _ (G.ext u.aG) cK) (λ_ _ u=>bR ⟨vb (by unfold lT;grind),u⟩)
 rintro _ _ ⟨rfl,u⟩ _;exact⟨rfl,u.drop.aG⟩
def C247(sv fv:Value)(xs:List (List cJ))(φ:(List cJ)->Prop)(g:(List cJ)->Bool)(w:World)(hL:DL w sv xs)(hf:tG hH w fv φ g)(hφ:∀x∈xs,φ x)(hn:xs.length<=1073741824):CR 247 [sv,fv] w (λv w'=>v=hZ (sm g xs)/\Ext w w'):=by
 obtain⟨g0,first,cap,rfl,oG,j5⟩:=hf;have u:=St.start w;refine fg Tryz.func247 ?_;obtain⟨O,B,G⟩:=hL.open;have Y:=G.1;refine aK pJ (B.ext u.aG) ?_;refine⟨λm x U=>∃k:Nat,x=hZ (k:Int)/\m=xs.length-k/\k<=xs.length/\(∀y∈xs.take k,g y=false)/\St w aZ [] U,⟨_,0,rfl,rfl,l1 _,ei,u⟩,?_⟩;rintro m _ U ⟨k,rfl,rfl,hk,J,u⟩ _;refine aR (aC (λjJ=>?_) λ_=>⟨gO (ni .i64) (jh (by rw[kO cK]at J;exact J)).symm,u.aG⟩);obtain⟨ix,W⟩:=gx O (i:=(k:Int).toNat) cK;obtain⟨V,I⟩:=gx xs (i:=(k:Int).toNat) cK
 have E:DL w (ia ix) V:=G.2 _ _ _ W I;refine aQ pJ B cK W (λ_ Z=>aD jM (Z.ext u.aG) ?_);have hf9:=DL.flat E;refine gV oG (j5 _ V U u.aG (E.ext u.aG) (hφ _ (kE I))) ?_;rintro _ _ ⟨rfl,he⟩;have u:=u.ext he;exact aY (λM=>⟨gO (ni .i64) (me J I M).symm,u.aG⟩) (λM=>aN cK ⟨_,cK,k+1,rfl,rfl,cK,dZ J I M,u⟩)
def C186(sv fv:Value)(xs:List (List cJ))(φ:(List cJ)->Prop)(g:(List cJ)->Bool)(w:World)(G:DL w sv xs)(B:tG hH w fv φ g)(E:∀x∈xs,φ x)(I:xs.length<=1073741824):CR 186 [sv,fv] w (λv w'=>v=.bool (xs.any g)/\Ext w w'):=by
 have u:=St.start w;refine fg Tryz.func186 ?_;exact aV aoZ u (C247 _ _ _ _ _ _ (G.ext u.aG) (B.ext u.aG) E cK) (λ_ _ u=>cR ⟨vb (kU _ _),u.aG⟩)
def C248(sv fv:Value)(xs:List cN)(φ:cN->Prop)(g:cN->Bool)(w:World)(hL:DL w sv xs)(hf:tG hH w fv φ g)(hφ:∀x∈xs,φ x)(hn:xs.length<=1073741824):CR 248 [sv,fv] w (λv w'=>v=hZ (sm g xs)/\Ext w w'):=by
 obtain⟨g0,first,cap,rfl,oG,j5⟩:=hf;have u:=St.start w;refine fg Tryz.func248 ?_;obtain⟨O,E,B⟩:=hL.open;have V:=B.1;refine aK fy (E.ext u.aG) ?_;refine⟨λm x M=>∃k:Nat,x=hZ (k:Int)/\m=xs.length-k/\k<=xs.length/\(∀y∈xs.take k,g y=false)/\St w aZ [] M,⟨_,0,rfl,rfl,l1 _,ei,u⟩,?_⟩;rintro m _ M ⟨k,rfl,rfl,hk,I,u⟩ _;refine aR (aC (λjJ=>?_) λ_=>⟨gO (ni .i64) (jh (by rw[kO cK]at I;exact I)).symm,u.aG⟩);obtain⟨ix,U⟩:=gx O (i:=(k:Int).toNat) cK;obtain⟨W,G⟩:=gx xs (i:=(k:Int).toNat) cK
 obtain⟨PB,PC,rfl,PH,Z⟩:=B.2 _ _ _ U G;refine aQ fy E cK U (λ_ Y=>aD m7 (Y.ext u.aG) (gV oG (j5 _ W M u.aG ⟨PB,PC,rfl,(PH.ext u.aG),(Z.ext u.aG)⟩ (hφ _ (kE G))) ?_));rintro _ _ ⟨rfl,he⟩;have u:=u.ext he;exact aY (λJ=>⟨gO (ni .i64) (me I G J).symm,u.aG⟩) (λJ=>aN cK ⟨_,cK,k+1,rfl,rfl,cK,dZ I G J,u⟩)
def C187(sv fv:Value)(xs:List cN)(φ:cN->Prop)(g:cN->Bool)(w:World)(G:DL w sv xs)(B:tG hH w fv φ g)(E:∀x∈xs,φ x)(I:xs.length<=1073741824):CR 187 [sv,fv] w (λv w'=>v=.bool (xs.any g)/\Ext w w'):=by
 have u:=St.start w;refine fg Tryz.func187 ?_;exact aV ao0 u (C248 _ _ _ _ _ _ (G.ext u.aG) (B.ext u.aG) E cK) (λ_ _ u=>cR ⟨vb (kU _ _),u.aG⟩)
def C249(sv fv:Value)(xs:List gS)(φ:gS->Prop)(g:gS->Bool)(w:World)(hL:DL w sv xs)(hf:tG hH w fv φ g)(hφ:∀x∈xs,φ x)(hn:xs.length<=1073741824):CR 249 [sv,fv] w (λv w'=>v=hZ (sm g xs)/\Ext w w'):=by
 obtain⟨g0,first,cap,rfl,oG,j5⟩:=hf;have u:=St.start w;refine fg Tryz.func249 ?_;obtain⟨J,M,U⟩:=hL.open;have V:=U.1;refine aK sX (M.ext u.aG) ?_;refine⟨λm x I=>∃k:Nat,x=hZ (k:Int)/\m=xs.length-k/\k<=xs.length/\(∀y∈xs.take k,g y=false)/\St w aZ [] I,⟨_,0,rfl,rfl,l1 _,ei,u⟩,?_⟩;rintro m _ I ⟨k,rfl,rfl,hk,E,u⟩ _;refine aR (aC (λjJ=>?_) λ_=>⟨gO (ni .i64) (jh (by rw[kO cK]at E;exact E)).symm,u.aG⟩);obtain⟨ix,O⟩:=gx J (i:=(k:Int).toNat) cK;obtain⟨W,B⟩:=gx xs (i:=(k:Int).toNat) cK
 obtain⟨Jl,rfl,Jm⟩:=U.2 _ _ _ O B;refine aQ sX M cK O (λ_ Y=>aD IP (Y.ext u.aG) (gV oG (j5 _ W I u.aG ⟨Jl,rfl,(Jm.ext u.aG)⟩ (hφ _ (kE B))) ?_));rintro _ _ ⟨rfl,Z⟩;have u:=u.ext Z;exact aY (λG=>⟨gO (ni .i64) (me E B G).symm,u.aG⟩) (λG=>aN cK ⟨_,cK,k+1,rfl,rfl,cK,dZ E B G,u⟩)
def C188(sv fv:Value)(xs:List gS)(φ:gS->Prop)(g:gS->Bool)(w:World)(G:DL w sv xs)(B:tG hH w fv φ g)(E:∀x∈xs,φ x)(I:xs.length<=1073741824):CR 188 [sv,fv] w (λv w'=>v=.bool (xs.any g)/\Ext w w'):=by
 have u:=St.start w;refine fg Tryz.func188 ?_;exact aV ao2 u (C249 _ _ _ _ _ _ (G.ext u.aG) (B.ext u.aG) E cK) (λ_ _ u=>cR ⟨vb (kU _ _),u.aG⟩)
def C108(p:cE)(pv:bP)(w:World)(E:mh w pv p)(B:PZ p):CR 108 [ia pv] w (λv w'=>v=.bool (kr p)/\Ext w w'):=by
 obtain⟨Y,bU,bL,aW,aX,Z,rfl,cQ,dG,cW,cC,cD,cP⟩:=E;have u:=St.start w;refine fg Tryz.func108 ?_;refine cI u (λko G u=>⟨λM w'=>M=.bool (p.lines.any nR||!nY 4294967296 p.iR||!nY 0 p.eJ||decide (1<p.recover.length))/\St w aZ [bY ko (j0 (⟨Y,bU,bL,aW,aX,Z⟩:bP))] w',aA gy (aB oP u.hb rfl (aV agu u (C186 _ _ _ (λl=>l.length<=1048576) _ _ (cQ.ext u.aG) ⟨177,[],[],rfl,aoP,λ_ y G _ I E=>C177 _ y G (DL.flat I) E⟩ (λl hl=>by have:=B.line l hl;omega) (by have:=B.lines;omega)) λ_ he u=>aY (λ_=>⟨vb dD,u⟩) λjD=>?_)),?_⟩)
 .refine aA qf (aB jM u.hb rfl ?_);have O:=DL.flat dG;refine aV XO u (C178 _ _ _ _ (O.ext u.aG) (by have:=B.iR;omega)) (λ_ he u=>bR (aY (λ_=>⟨vb dD,u⟩) λjr=>aA nQ (aB jM u.hb rfl ?_)));have W:=DL.flat cW;refine aV XO u (C178 _ _ _ _ (W.ext u.aG) (by have:=B.eJ;omega)) (λ_ he u=>bR (aY (λ_=>⟨vb dD,u⟩) λfw=>aA oQ (aB iB u.hb rfl ?_)));have hzr:=B.recover;obtain⟨ts14,V,U⟩:=cD.open;have hn14:=U.1;exact aK fy (V.ext u.aG) (cO ⟨vb dD,u⟩)
 rintro _ _ ⟨rfl,u⟩ _;refine aY (λJ=>?_) (λJ=>⟨λM w'=>M=.bool (!p.threads.any (mD true)&&!p.recover.any (mD false)&&!p.dS.any lT)/\St w aZ [bY ko (j0 (⟨Y,bU,bL,aW,aX,Z⟩:bP))] w',?_,?_⟩)
 .refine⟨vb ?_,u.drop.aG⟩;rw[<- Mp,J];simp
 .refine aA kG ?_;exact aB iB u.hb rfl (aV XQ u (C187 _ _ _ (λt=>Xh t/\t.dQ.length<=500/\t.body.length<=500) _ _ (cC.ext u.aG) ⟨179,[],[],rfl,aoQ,λsv y G _ I E=>C179 y sv G I E⟩ (λ_ ht=>B.qS (List.mem_append_left _ ht)) (by have:=B.threads;omega)) λ_ _ u=>bR (aY (λ_=>aA oQ (aB iB u.hb rfl (aV XQ u (C187 _ _ _ (λt=>Xh t/\t.dQ.length<=500/\t.body.length<=500) _ _ (cD.ext u.aG) ⟨182,[],[],rfl,aoR,λsv y G _ I E=>C182 y sv G I E⟩ (λ_ ht=>B.qS (List.mem_append_right _ ht)) (by have:=B.recover;omega)) λ_ _ u=>bR (aY (λ_=>aA jw (aB qQ u.hb rfl (aV ao1 u (C188 _ _ _ (λc=>c.e.length<=1048576) _ _ (cP.ext u.aG) ⟨183,[],[],rfl,aoS,λsv y G _ I E=>C183 y sv G I E⟩ (λc hc=>(B.zc c hc).1) (by have:=B.dS;omega)) λ_ _ u=>bR ⟨vb dD,u⟩))) λ_=>⟨vb dD,u⟩)))) λ_=>⟨vb dD,u⟩))
 rintro _ _ ⟨rfl,u⟩ _;refine⟨vb ?_,u.drop.aG⟩;rw[<- Mp,J];simp
variable (w:World) (K:Value->hM)
def S109(p0:Value):Prop:=
 qZ hH (zx 27 p0) w λp1 a=>fA 27 p1 3 λb=>lA 24 b a λc=>lN 24 c λd=>eT (λB=>fA 27 p1 0 λe=>lA 22 e a λf=>lN 22 f λg=>bB .gtr 3 g (i 4) λh=>
 cV h (B tt a) (fA 27 p1 0 λj=>lA 22 j a λk=>cF 186 [k,(.func (.func 189) #[] #[])] a λl n=>cV l (B tt n) (fA 27 p1 1 λo=>lA 23 o n λp=>lN 23 p λq=>bB .gtr 3 q (i 4) λr=>
 cV r (B tt n) (fA 27 p1 2 λs=>lA 23 s n λt=>lN 23 t λu=>bB .gtr 3 u (i 2) λv=>cV v (B tt n) (bB .eql 3 d (i 0) λx=>cV x (B tt n) (bB .gtr 3 d (i 3) λy=>
 cV y (B tt n) (lA 27 p1 n λz=>cF 110 [z] n λW G=>cF 187 [W,(.func (.func 190) #[] #[])] G λI E=>cV I (B tt E) (fA 27 p1 5 λJ=>lA 25 J E λV=>lN 25 V λU=>
 bB .gtr 3 U (i 4) λY=>B Y E)))))))) (λO M=>∀_:Env,
 K O M)
theorem adF(p0:Value)(h:S109 w K p0):CR 109 [p0] w K:=
 qm 51 (λ_=>.nil) 4 [.tmp 2] Tryz.func109 h
def S111(E J:Value):Prop:=
 kK (λG B a=>∀_:Env,
 lN 141 E λb=>bA .lss 3 B b λc=>cV c (iA 141 E B λd=>lA 193 d a λe=>aL 193 a λf g=>sA 193 f e g λh=>bB .add 3 B (i 1) λj=>fA 193 f 6 λk=>lA 3 k h λl=>
 bA .add 3 j l λn=>fA 193 f 7 λo=>lA 3 o h λp=>bA .add 3 n p λq=>eT (λK2=>fA 193 f 0 λr=>lA 3 r h λs=>bB .eql 3 s (i 12) λt=>cV t (fA 193 f 5 λu=>
 lA 3 u h λv=>bA .mul 3 J v λx=>K2 x h) (K2 J h)) (λM y=>∀_:Env,
 bB .gtr 3 M (i 64) λz=>cV z (fA 193 f 8 λZ=>lA 3 Z y λU=>K (.tuple #[U,tt]) y) (bB .add 3 B (i 1) λV=>eP hH (n4 141 E (some V) (some q) none) λW=>
 cF 111 [W,M] y λI O=>xT I 0 λY=>xT I 1 λah=>cV ah (K (.tuple #[Y,tt]) O) (G q O)))) (K (.tuple #[(i 0),ff]) a)) (λG=>G (i 0) w)
theorem adG(u B:Value)(h:S111 w K u B):CR 111 [u,B] w K:=
 qm 53 (λ_=>.nil) 48 [.tmp 4,.tmp 5] Tryz.func111 h
theorem Sp:PL 115:=dK Tryz.func115
theorem Sq:PL 195:=dK Tryz.func195
theorem awT:PL 50:=dK Tryz.func50
theorem Yv:PL 54:=dK Tryz.func54
theorem aqa:PL 52:=dK Tryz.func52
theorem awU:PL 51:=dK Tryz.func51
theorem awV:PL 55:=dK Tryz.func55
theorem Hp:PL 159:=dK Tryz.func159
theorem Sr:PL 110:=dK Tryz.func110
theorem aqb:PL 109:=dK Tryz.func109
theorem aqc:PL 189:=dK Tryz.func189
theorem aqd:PL 190:=dK Tryz.func190
theorem agJ:PL 111:=dK Tryz.func111
theorem aqe:PL 191:=dK Tryz.func191
theorem aqf:PL 250:=dK Tryz.func250
end Go.Proofs.YtpdlpabnlkofmaaGreatDoor
namespace Go.Fw
section
variable {α:Type}[Flat α] {P:Program}{w w0:World}{A:Nat->Prop}{L:List HP}
theorem Mq{T E O J R:Nat}{kn U:IntKind}{K:Value->hM}(V:St w0 A L w)(ht:Vr P T E (mI α) O)(hk:P.underlying J=some (.int kn))(h1:1<=mI α)(n:Nat)(Z:0<n)(I:n<=1048576)(W:O<=8192)
  (k:∀b cap w',n<=cap->St w0 A (bH (.slice (some ⟨b,0,none⟩) 0 cap) ([]:List α)::L) w'->K (.slice (some ⟨b,0,none⟩) n cap) w'):qZ P (Builtin.append_ #[T,J] R [.slice none 0 0,.int U (n:Int)].toArray) w K:=by
 obtain⟨Y,u,hi,oL,wJ,B⟩:=fp ht
 obtain⟨z,hz,M⟩:∃z,u.zero=some z/\z.cells.size=mI α:=by
  cases h:u.zero with
  | none=>rw[h]at B;cases B
  | some z=>rw[h]at B;exact⟨z,rfl,by simpa using B⟩
 have G:n*u.bytes<=281474976710656:=by
  have:=Nat.mul_le_mul I (show u.bytes<=8192 by omega)
  omega
 have hr:=Lib.run_append_nil_zeros (P:=P) w T J R E u z U kn Y hk hi hz n Z cK cK G
 have OC:=grownCap_ge w n 0 E
 refine⟨_,_,hr,k _ _ _ cK ?_⟩
 refine V.drew.new (F:=(· = w.heap.size)) (Ext.alloc _ _) (.inr ⟨_,_,(Builtin.zeroCells z.cells n++Builtin.zeroCells z.cells (grownCap w n 0 E-n)).toList,rfl,?_,?_,λ_=>Iff.rfl⟩) λb hb=>zW hb.symm
 .exact⟨E,by rw[show flat ([]:List α)=[]from rfl,s4,Array.toArray_toList];exact mn _ _⟩
 refine⟨l1 _,zW (Eq.symm ?_)⟩
 show([]++_).length=_
 rw[s4,Array.length_toList,Array.size_append,size_zeroCells,size_zeroCells,M,<- Nat.add_mul]
 congr 1;omega
theorem Mr{T E sz B R n c:Nat}{z:Option Nat}{a:Option Addr}{K:Value->Prop}(ht:eQ P T=some (E,sz,B,z))(k:K (hZ (c:Int))):eP P (Builtin.cap_ #[T] R [Value.slice a n c].toArray) K:=by
 obtain⟨u,_⟩:=fp ht
 refine⟨_,?_,k⟩
 unfold Builtin.cap_
 simp[cX,cZ u]
 rfl
theorem Ms{T E sz u n c:Nat}{z:Option Nat}{a:Option Addr}{K:Value->Prop}(ht:eQ P T=some (E,sz,u,z))(B:a.map (·.add (0*sz))=a)(k:K (.slice a 0 c)):eP P (n4 T (.slice a n c) none (some (hZ 0)) none) K:=by
 refine⟨_,wI ht (ou (.inl ⟨rfl,rfl⟩) (.inr ⟨0,rfl,Int.le_refl _,rfl⟩) (o6 _) (l1 _)),?_⟩
 grind
end
end Go.Fw
namespace Go.Proofs.YtpdlpabnlkofmaaGreatDoor
open Go.Fw
theorem xu{α:Type}{ls:List (List α)}{k:Nat}{l:List α}(h:ls[k]?=some l):(ls.take (k+1)).flatten=(ls.take k).flatten++l:=by
 rw[<- gJ h];simp
def Jo{α:Type}(ls:List (List α))(k:Nat):(ls.take k).flatten.length<=ls.flatten.length:=by
 conv=>rhs;rw[<- qB k ls,List.flatten_append,la]
 omega
def agK{α:Type}[Flat α](w:World):dC (λ_=>True) w (.slice none 0 0) ([]:List α):=⟨none,0,rfl,l1 _,.inl ⟨rfl,rfl⟩⟩
def C250(n:Nat)(w:World)(E:n<=1048576):CR 250 [.slice none 0 0,hZ (n:Int)] w (λv w'=>lh (bH v ([]:List cH)) w w'):=by
 have u:=St.start w;refine fg Tryz.func250 ?_;refine⟨λw'=>w'=w,aR (aC (λc=>absurd c cK) λ_=>rfl),?_⟩;rintro B I _;subst I;refine⟨λG w'=>St B aZ [bH G ([]:List cH)] w',?_,?_⟩
 .refine Mr fy (aK fy (agK (α:=cH) B) (fh ei (fh (by simp;omega) (cO (aC (λc=>?_) λ_=>u.eL)))));refine Mr fy (Ms fy rfl ?_);have e:(n:Int)-(((0:Nat):Int)-(([]:List cH).length:Int))=(n:Int):=ei
  rw[e]at c |-;exact Mq (α:=cH) (kn:=.i64) u fy (by kernel_rfl) ee n cK E ee (λ_ _ _ _ u=>aK fy (agK (α:=cH) B) (Ms fy (by simp[Addr.add]) u))
 rintro v _ u _;exact u.fresh
def C191(lv:Value)(B:List (List cH))(w:World)(hL:avi w lv B)(hn:B.length<=1000)(hf:B.flatten.length<=100000):CR 191 [lv] w (λv w'=>lh (bH v B.flatten) w w'):=by
 obtain⟨I,O,hl,Y⟩:=hL;have u:=St.start w;refine fg Tryz.func191 ?_;refine aK Lm (O.ext u.aG) ?_;refine⟨λm y x U=>∃k:Nat,y=hZ ((B.take k).flatten.length:Int)/\x=hZ (k:Int)/\m=I.length-k/\k<=I.length/\St w aZ [] U,⟨_,0,rfl,rfl,rfl,l1 _,u⟩,?_⟩;rintro m _ _ U ⟨k,rfl,rfl,rfl,hk,u⟩ _;refine aR (aC (λc=>?_) λc=>?_)
 .obtain⟨s,J⟩:=gx I (i:=(k:Int).toNat) cK;obtain⟨t,M⟩:=gx B (i:=k) cK;have W:=Y k s t J M;have G:=Jo B (k+1);have E:=xu M;rw[E,la]at G;refine⟨λZ w'=>Z=hZ ((B.take (k+1)).flatten.length:Int)/\St w aZ [] w',aQ Lm O cK J (λ_ V=>aD iB (V.ext u.aG) (aK fy (W.ext u.aG) (aN cK (aR (aC (λc=>absurd c cK) λ_=>⟨gO (ni .i64) (by rw[E,la];omega),u⟩))))),?_⟩;rintro _ _ ⟨rfl,u⟩ _;exact aN cK ⟨_,cK,k+1,rfl,rfl,rfl,cK,u⟩
 have vX:B.take k=B:=kO cK;rw[vX];refine dY aqf u (C250 _ _ cK) (λx24 _ cL u=>aK Lm (O.ext u.aG) ?_);refine⟨λm v x U=>∃k:Nat,x=hZ (k:Int)/\m=I.length-k/\k<=I.length/\St w aZ [bH v ((B.take k).flatten)] U,⟨_,0,rfl,rfl,l1 _,u⟩,?_⟩;rintro m v _ _ ⟨k,rfl,rfl,hk,u⟩ _;refine aR (aC (λc=>?_) λc=>?_)
 .obtain⟨s,J⟩:=gx I (i:=(k:Int).toNat) cK;obtain⟨t,M⟩:=gx B (i:=k) cK;have W:=Y k s t J M;have G:=Jo B (k+1);have E:=xu M;rw[E,la]at G;exact aQ Lm O cK J (λ_ V=>aD iB (V.ext u.aG) (bJ u fy (W.ext u.aG) cK ee λ_ _ u=>aN cK ⟨_,cK,k+1,rfl,rfl,cK,by rw[E];exact u⟩))
 rw[show B.take k=B from kO cK]at u;exact u.fresh
def ai5{w:World}{a b:SV}{x y:List cH}(h1:dC (λ_=>True) w (ia a) x)(h2:dC (λ_=>True) w (ia b) y):∀(i:Nat) (s:SV) (t:List cH),[a,b][i]?=some s->[x,y][i]?=some t->dC (λ_=>True) w (ia s) t:=by
 grind
def C110(p:cE)(pv:bP)(B E:List cH)(w:World)(V:mh w pv p)(h3:dC (λ_=>True) w (ia pv.threads) B)(h4:dC (λ_=>True) w (ia pv.recover) E)(O:B.length<=500)(I:E.length<=500):CR 110 [ia pv] w (λv w'=>lh (bH v (B++E)) w w'):=by
 obtain⟨W,bU,bL,U,M,Y,rfl,cQ,dG,cW,cC,cD,cP⟩:=V;have u:=St.start w;refine fg Tryz.func110 ?_;refine cI u (λko _ u=>aA kG (aB iB u.hb rfl (aA oQ (aB iB u.hb rfl (bD ([U,M]) u Lm rfl rfl (dL rfl) λJ _ u=>dY aqe u (C191 _ [B,E] _ ⟨_,u.dX,rfl,ai5 (h3.ext u.aG) (h4.ext u.aG)⟩ ei (by simp;omega)) λZ _ cL u=>?_)))));have G:=u.p1.drop.p1.drop;rw[show [B,E].flatten=B++E from ei]at G;exact G.fresh
def ai6(p:cE):(decide (4<(p.lines.length:Int))||p.lines.any (λl=>decide (4<(l.length:Int)))||decide (4<(p.iR.length:Int))||decide (2<(p.eJ.length:Int))||decide ((p.threads.length:Int)=0)||decide (3<(p.threads.length:Int))||(gm p).any (λt=>decide (4<(t.dQ.length:Int)))||decide (4<(p.dS.length:Int)))=uS p:=by
 unfold uS
 grind
def Ss{p:cE}(h:∀l∈p.lines,l.length<=500)(u:p.lines.length<=500)(k:Nat):(p.lines.take k).flatten.length<=250000:=by
 have h1:=Jo p.lines k
 have h2:=cY h
 omega
def C159(sv:Value)(ns:List ByteArray)(s:ByteArray)(w:World)(B:dC (λ_=>True) w sv ns)(E:ns.length<=1048576):CR 159 [sv,.string s] w (λv w'=>v=hZ (cU ns s)/\Ext w w'):=by
 have u:=St.start w;refine fg Tryz.func159 ?_;exact aV Xo u (C225 _ _ _ _ (B.ext u.aG) cK) (λ_ _ u=>⟨rfl,u.aG⟩)
def C54(p:cE)(pv:bP)(w:World)(hp:mh w pv p)(G:PZ p):CR 54 [ia pv] w (λv w'=>v=hZ (ey p)/\Ext w w'):=by
 obtain⟨bK,bU,bL,aW,aX,bG,rfl,cQ,dG,cW,cC,cD,cP⟩:=hp;have u:=St.start w;refine fg Tryz.func54 ?_;refine cI u (λko Y u=>aA gy (aB oP u.hb rfl ?_));obtain⟨V,E,B⟩:=cQ.open;have hn15:=B.1;refine aK pJ (E.ext u.aG) ?_;refine⟨λm y x Y=>∃k:Nat,y=hZ (((p.lines.take k).flatten.length:Nat):Int)/\x=hZ (k:Int)/\m=p.lines.length-k/\k<=p.lines.length/\St w aZ [bY ko (j0 (⟨bK,bU,bL,aW,aX,bG⟩:bP))] Y,⟨_,0,rfl,rfl,rfl,cK,u⟩,?_⟩
 rintro m _ _ _ ⟨k,rfl,rfl,rfl,hk,u⟩ _;have Yw:=Ss G.line G.lines k;have J:=Ss G.line G.lines (k+1);have hzl:=G.lines;refine aR (aC (λgI=>?_) λgI=>?_)
 .obtain⟨He,Z⟩:=gx V (i:=(k:Int).toNat) cK;obtain⟨O,U⟩:=gx p.lines (i:=(k:Int).toNat) cK;have W:DL w (ia He) O:=B.2 _ _ _ Z U;refine aQ pJ E cK Z (λ_ EE=>?_);have I:=xu (k:=k) U;rw[I,la]at J;refine aD jM (EE.ext u.aG) ?_;have M:=DL.flat W;exact aK im (M.ext u.aG) (aN cK (aN cK ⟨_,cK,k+1,gO (ni .i64) (by rw[xu (k:=k) U,la];omega),rfl,rfl,cK,u⟩))
 rw[kO cK];exact⟨rfl,u.drop.aG⟩
def C51(p:cE)(pv:bP)(w:World)(hp:mh w pv p)(hz:PZ p):CR 51 [ia pv] w (λv w'=>lh (bH v (cM p)) w w'):=by
 obtain⟨M,bU,Z,Y,U,O,rfl,cQ,dG,V,cC,cD,cP⟩:=hp;have u:=St.start w;refine fg Tryz.func51 ?_;refine cI u (λko I u=>aA nQ (aB jM u.hb rfl ?_));have B:=DL.flat V;refine aK im (B.ext u.aG) ?_;refine⟨λm y x I=>∃k:Nat,x=hZ (k:Int)/\m=p.eJ.length-k/\k<=p.eJ.length/\St w aZ [bH y ((p.eJ.take k).map cJ.name),bY ko (j0 (⟨M,bU,Z,Y,U,O⟩:bP))] I,⟨_,0,rfl,rfl,cK,u.eL (α:=ByteArray)⟩,?_⟩;rintro m nk _ _ ⟨k,rfl,rfl,hk,u⟩ _
 have CB:((p.eJ.take k).map cJ.name).length=k:=by rw[n0,l0];omega
 have hzk:=hz.eJ;refine aR (aC (λgI=>?_) λgI=>?_)
 .obtain⟨G,J⟩:=gx p.eJ (i:=(k:Int).toNat) cK;refine aQ im B cK J (λ_ EE=>aD mc (EE.ext u.aG) (aM u oU λW _ u=>aI (x:=G) u mc rfl rfl λ_ u=>aA kQ (aB (v:=.string G.name) gw u.hb rfl (bD ([G.name]) u iC rfl rfl (dL rfl) λE _ u=>?_))));have Ey:=u.dX;exact bJ u.p2 iC Ey (by simp<;>omega) ee (λ_ _ u=>have u:=u.p1.drop;aN cK (have u:=u.p1.drop.p1.p1;⟨_,cK,k+1,rfl,rfl,cK,by rw[<- gd (k:=k) J];exact u⟩))
 have u:=u.p1.drop;rw[kO cK]at u;exact u.fresh
def C189(lv:Value)(xs:List cJ)(w:World)(B:dC (λ_=>True) w lv xs)(E:xs.length<=1048576):CR 189 [lv] w (λv w'=>v=.bool (decide (4<(xs.length:Int)))/\Ext w w'):=by
 have u:=St.start w;refine fg Tryz.func189 ?_;exact aK im (B.ext u.aG) (cO ⟨rfl,u.aG⟩)
def C190(t:cN)(E:cH)(w:World)(ht:mh w E t)(O:t.dQ.length<=500):CR 190 [ia E] w (λv w'=>v=.bool (decide (4<(t.dQ.length:Int)))/\Ext w w'):=by
 obtain⟨U,M,rfl,G,I⟩:=ht;have u:=St.start w;refine fg Tryz.func190 ?_;refine cI u (λJ _ u=>aA fS (aB jk u.hb rfl ?_));have B:=DL.flat G;exact aK iC (B.ext u.aG) (cO ⟨rfl,u.drop.aG⟩)
def C109(p:cE)(pv:bP)(w:World)(G:mh w pv p)(B:PZ p):CR 109 [ia pv] w (λv w'=>v=.bool (uS p)/\Ext w w'):=by
 obtain⟨bK,bU,bL,aW,aX,bG,rfl,cQ,dG,cW,cC,cD,cP⟩:=G;have u:=St.start w;refine adF _ _ _ ?_;unfold S109;refine cI u (λko I u=>?_);have TV:=B.lines;have hz2:=B.iR;have hz3:=B.eJ;have hz4:=B.threads;have hz5:=B.dS;obtain⟨vw,Yt,Yu⟩:=cC.open;obtain⟨yR,Pz,E⟩:=cD.open;have hn3:=Yu.1;have hn4:=E.1;have aiJ:=Dx B.toPS;refine aA kG (aB iB u.hb rfl ?_);obtain⟨ts19,W,M⟩:=cC.open;have hn19:=M.1;refine aK fy (W.ext u.aG) ⟨λjv w'=>jv=.bool (decide (4<(p.lines.length:Int))||p.lines.any (λl=>decide (4<(l.length:Int)))||decide (4<(p.iR.length:Int))||decide (2<(p.eJ.length:Int))||decide ((p.threads.length:Int)=0)||decide (3<(p.threads.length:Int))||(gm p).any (λt=>decide (4<(t.dQ.length:Int)))||decide (4<(p.dS.length:Int)))/\St w aZ [bY ko (j0 (⟨bK,bU,bL,aW,aX,bG⟩:bP))] w',?_,?_⟩
 .refine aA gy (aB oP u.hb rfl ?_);obtain⟨apf,Uf,ado⟩:=cQ.open;have avK:=ado.1;refine aK pJ (Uf.ext u.aG) (cO (aC (λ_=>⟨vb dD,u⟩) λnJ=>aA gy (aB oP u.hb rfl (aV agu u (C186 _ _ _ (λl=>l.length<=1048576) _ _ (cQ.ext u.aG) ⟨189,[],[],rfl,aqc,λ_ y I _ Z G=>C189 _ y I (DL.flat Z) G⟩ (λl hl=>by have:=B.line l hl;omega) (by have:=B.lines;omega)) λ_ he u=>aY (λ_=>⟨vb dD,u⟩) λke=>aA qf (aB jM u.hb rfl ?_)))));have J:=DL.flat dG;refine aK im (J.ext u.aG) (cO (aC (λ_=>⟨vb dD,u⟩) λm8=>aA nQ (aB jM u.hb rfl ?_)))
  have Y:=DL.flat cW;refine aK im (Y.ext u.aG) (cO (aC (λ_=>⟨vb dD,u⟩) λagB=>aH (aC (λ_=>⟨vb dD,u⟩) λyV=>cO (aC (λ_=>⟨vb dD,u⟩) λo7=>aD er u.At (dO Sr (C110 p _ vw yR _ ⟨bK,bU,bL,aW,aX,bG,rfl,(cQ.ext u.aG),(dG.ext u.aG),(cW.ext u.aG),(cC.ext u.aG),(cD.ext u.aG),(cP.ext u.aG)⟩ (Yt.ext u.aG) (Pz.ext u.aG) (by have:=B.threads;omega) (by have:=B.recover;omega)) ?_)))));rintro x41 _ cL;have u:=u.made cL;have U:DL _ _ (gm p):=DL.of u.dX ((Yu.append E).ext u.aG)
  refine aV XQ u (C187 _ _ _ (λt=>t.dQ.length<=500) _ _ U ⟨190,[],[],rfl,aqd,λsv y I _ Z G=>C190 y sv I Z G⟩ (λ_ ht=>(B.qS ht).2.1) cK) (λ_ he u=>aY (λ_=>have u:=u.drop;⟨vb dD,u⟩) λvR=>aA jw (aB qQ u.p1.hb rfl ?_));obtain⟨ts23,V,O⟩:=cP.open;have hn23:=O.1;exact aK sX (V.ext u.aG) (cO (have u:=u.drop;⟨vb dD,u⟩))
 rintro _ _ ⟨rfl,u⟩ _;exact⟨vb (ai6 p),u.drop.aG⟩
theorem vy(x:bQ)(a b r:Bk)(n:Int):mG (.cons x a b r) n=(decide (64<ri x n)||(mG a (ri x n)||mG b (ri x n))||mG r n):=rfl
def adI{xs:List bQ}{k:Nat}{x:bQ}{a b r:Bk}(h:xs.drop k=(Bk.cons x a b r).flat)(u:(Bk.cons x a b r).str){hi lo:Int}(h1:hi=k+1+x.body+x.eu)(h2:lo=k+1):(xs.take hi.toNat).drop lo.toNat=(a.app b).flat:=by
 have B:=u
 obtain⟨G,E,_⟩:=B
 have e:=Bk.CY u (hi:=1+x.body+x.eu) (lo:=1) rfl rfl
 rw[<- e,<- h,List.take_drop,sZ]
 grind
def Yx{xs:List bQ}{k:Nat}{x:bQ}{a b r:Bk}(h:xs.drop k=(Bk.cons x a b r).flat)(u:(Bk.cons x a b r).str):xs.drop (k+1+a.len+b.len)=r.flat:=by
 have B:=u
 obtain⟨G,E,_⟩:=B
 rw[<- Bk.ais u (hi:=1+x.body+x.eu) rfl,<- h,sZ]
 grind
def Yy{α:Type}{xs l:List α}{k:Nat}{x:α}(h:xs.drop k=x::l):xs[k]?=some x:=by
 have:=gO (λl=>l[0]?) h
 grind
theorem C111(lv:Value)(t:Bk)(n:Int)(N:Nat)(w:World)(hL:DL w lv t.flat)(iV:t.str)(hq:∀x∈t.flat,0<=x.at_/\(x.kind=12->1<=x.n/\x.n<=8))(hn:1<=n/\n<=64)(hl:t.len<=1048576)(hN:t.len<N):CR 111 [lv,hZ n] w (λv w'=>∃a:Int,v=.tuple #[hZ a,.bool (mG t n)]/\Ext w w'):=by
 have tX:=t.cY;have B:=St.start w;refine adG _ _ _ _ ?_;unfold S111;refine⟨λm y w1=>∃(k:Nat) (u:Bk),y=hZ (k:Int)/\m=t.len-k/\t.flat.drop k=u.flat/\k+u.len=t.len/\u.str/\(∀x∈u.flat,0<=x.at_/\(x.kind=12->1<=x.n/\x.n<=8))/\mG t n=mG u n/\St w aZ [] w1,⟨_,0,t,rfl,rfl,rfl,cK,iV,hq,rfl,B⟩,?_⟩;rintro m _ w1 ⟨k,u,rfl,rfl,PK,M,I,J,G,B⟩ _;obtain⟨aiy,W,Uj⟩:=hL.open;have avP:=Uj.1;refine aK fq (W.ext B.aG) (aR (aC (λjr=>?_) λjr=>?_))
 .obtain⟨x,a,b,r,rfl⟩:=Bk.Dy (t:=u) (by rw[Bk.cY];omega);obtain⟨re,ja⟩:=gx aiy (i:=(k:Int).toNat) cK;obtain⟨E,EF⟩:=gx t.flat (i:=(k:Int).toNat) cK;obtain⟨qj,qk,rfl,acK,acL⟩:=Uj.2 _ _ _ ja EF;refine aQ fq W cK ja (λ_ uL=>?_);obtain rfl:E=x:=oi.inj (EF.symm.trans (Yy PK));have O:=J E (by simp[Bk.flat]);have Z:=I;obtain⟨BF,Gb,Uh,hg4,hga,hgb,hgr⟩:=Z;have Gs:k+(a.len+b.len+r.len+1)=t.len:=M;have hla:=a.cY;have Ob:=b.cY;have hlr:=r.cY;have tj:=adI PK I (hi:=(k:Int)+1+E.body+E.eu) (lo:=(k:Int)+1) rfl rfl
  have Gu:=Yx PK I;refine aD eM (uL.ext B.aG) (aM B jy λxi _ B=>have B:=B.enc (cs':=j0 (⟨0,(kh #[]),(kh #[]),bX,bX,0,0,0,0⟩:bE)) rfl;aI (x:=(⟨E.kind,E.eF,E.name,qj,qk,E.n,E.body,E.eu,E.at_⟩:bE)) B eM rfl rfl λ_ B=>aN cK (aA iY (aB (v:=hZ E.body) bM B.hb rfl (aN cK (aA iI (aB (v:=hZ E.eu) bM B.hb rfl (aN cK ⟨λjv w'=>∃m:Int,jv=hZ m/\m=ri E n/\St w aZ [bY xi (j0 (⟨E.kind,E.eF,E.name,qj,qk,E.n,E.body,E.eu,E.at_⟩:bE))] w',aA dM (aB (v:=hZ E.kind) bM B.hb rfl (aH (aC (λmf=>aA jQ (aB (v:=hZ E.n) bM B.hb rfl (IH (by have Ui:=O.2 mf;have h1:=Kd (a:=1) (b:=1) hn.1 Ui.1 cK cK;have h2:=Kd (c:=64) (d:=8) hn.2 Ui.2 cK cK;omega) ⟨_,rfl,by grind[ri],B⟩))) λ_=>⟨_,rfl,by grind[ri],B⟩))),?_⟩)))))))
  rintro _ _ ⟨m,rfl,V,B⟩ _;have hm8:=XU hn O.2 V;refine cO (aC (λo7=>?_) λo7=>?_)
  .refine aA lL (aB (v:=hZ E.at_) bM B.hb rfl ?_);refine⟨E.at_,?_,B.drop.aG⟩;rw[G,vy,<- V,ez (show(64:Int)<m by omega)];rfl
  refine aN cK (oz fq (W.ext B.aG) cK cK cK λaql PM=>?_);have Jp:=DL.cut PM W Uj;refine dO agJ (C111 _ (a.app b) m (N-1) _ (by have h:=(Jp.ext B.aG);rw[tj]at h;exact h) (Bk.R8 hga hgb) (λy U=>J y (by rw[Bk.AZ]at U;simp only[Bk.flat,sl,pU];rcases pU.1 U with h|h<;>simp[h])) cK (by rw[Dz];omega) (by rw[Dz];omega)) ?_;rintro _ _ ⟨a1,rfl,he⟩;have B:=B.ext he;rw[Hn];refine aO rfl (aO rfl (aY (λY=>?_) λY=>⟨_,cK,k+1+a.len+b.len,r,gO (ni .i64) cK,rfl,Gu,cK,hgr,(λy U=>J y (by simp[Bk.flat,U])),by rw[G,vy,<- V,fN (show ¬ (64:Int)<m by omega),Y];rfl,B.drop⟩))
  refine⟨a1,?_,B.drop.aG⟩;rw[G,vy,<- V,Y];simp
 cases u with
 | nil=>exact⟨_,by rw[G];rfl,B.aG⟩
 | cons x a b r=>exact absurd M (by show ¬ k+(a.len+b.len+r.len+1)=_;omega)
termination_by N
decreasing_by all_goals omega
def PN:Int->List (List cJ)->List (cJ×Int)
 | _,[]=>[]
 | k,l::r=>l.map (λc=>(c,k))++PN (k+1) r
def Od:Int->List cJ->List (cJ×Int)
 | _,[]=>[]
 | k,c::r=>(c,k)::Od (k+1) r
def ud(p:cE):List (cJ×Int):=PN 0 p.lines++Od p.lines.length p.iR
theorem Jq:∀(ls:List (List cJ)) (k:Int),(PN k ls).length=ls.flatten.length
 | [],_=>rfl
 | l::r,k=>by simp[PN,Jq r]
theorem adJ:∀(vs:List cJ) (k:Int),(Od k vs).length=vs.length
 | [],_=>rfl
 | c::r,k=>by simp[Od,adJ r]
theorem Jr:∀(ls:List (List cJ)) (k:Int),(PN k ls).map Y4=ls.flatten
 | [],_=>rfl
 | l::r,k=>by simp[PN,Jr r,Function.comp_def]
theorem Js:∀(vs:List cJ) (k:Int),(Od k vs).map Y4=vs
 | [],_=>rfl
 | c::r,k=>by simp[Od,Js r]
theorem Yz{l:List cJ}{c:cJ}{j:Nat}(u:l[j]?=some c):∀(ls:List (List cJ)) (k:Int) (i:Nat),ls[i]?=some l->(PN k ls)[(ls.take i).flatten.length+j]?=some (c,k+i)
 | [],_,_,h=>by simp at h
 | a::r,k,0,h=>by
  grind[PN]
 | a::r,k,i+1,h=>by
  have B:=Yz u r (k+1) i dD
  grind[PN]
theorem YA:∀(vs:List cJ) (k:Int) (j:Nat) (c:cJ),vs[j]?=some c->(Od k vs)[j]?=some (c,k+j)
 | [],_,_,_,h=>by simp at h
 | a::r,k,0,c,h=>by simp at h;subst h;simp[Od]
 | a::r,k,j+1,c,h=>by
  have u:=YA r (k+1) j c dD
  grind[Od]
theorem Ba(p:cE):(ud p).map Y4=iu p:=by unfold ud iu;rw[vA,Jr,Js]
theorem uV(p:cE):(ud p).length=(iu p).length:=by rw[<- Ba,n0]
def Ul{p:cE}{l:List cJ}{c:cJ}{i j:Nat}(u:p.lines[i]?=some l)(B:l[j]?=some c):(ud p)[(p.lines.take i).flatten.length+j]?=some (c,(i:Int)):=by
 have h:=Yz B p.lines 0 i u
 unfold ud
 grind
def YB{p:cE}{c:cJ}{j:Nat}(u:p.iR[j]?=some c):(ud p)[p.lines.flatten.length+j]?=some (c,(p.lines.length:Int)+j):=by
 unfold ud
 rw[sI (by rw[Jq];omega),Jq,F4,YA _ _ _ _ u]
def C195(y:Value)(b:Nat)(g0 g1:SV)(p:cE)(J:Nat->hM)(Jx:hM)(w0 w:World)(hz:PS p)(hL:DL w0 (ia g0) p.lines)(hV:dC (λ_=>True) w0 (ia g1) p.iR)
  (G:∀k W,J k W->Cell W b 0 (ia g0)/\Cell W b 1 (ia g1)/\Ext w0 W) (YC:∀k W M,J k W->Ext W M->J k M) (h0:J 0 w)
  (hy:∀k c i W,(ud p)[k]?=some (c,i)->J k W->kI hH y [ia c,hZ i] W λv M=>(v=.bool true/\J (k+1) M)\/(v=.bool false/\Jx M)) :
  CR 195 [y,.pointer (some ⟨b,0,none⟩)] w (λ_ W=>J (ud p).length W\/Jx W):=by
 obtain⟨ts,hR,hD⟩:=hL.open;have hn:=hD.1;have hzl:=hz.lines;have hzv:=hz.iR;refine fg Tryz.func195 ?_;obtain⟨Cz,uW,he0⟩:=G 0 w h0;refine aA gy (bO oP Cz (aK pJ (hR.ext he0) ?_));refine⟨λm x E=>∃i:Nat,x=hZ (i:Int)/\m=p.lines.length-i/\i<=p.lines.length/\J ((p.lines.take i).flatten.length) E,⟨_,0,rfl,rfl,l1 _,h0⟩,?_⟩;rintro m _ E ⟨i,rfl,rfl,hi,B⟩ _;refine aR (aC (λc=>?_) λc=>?_)
 .obtain⟨l,V⟩:=gx p.lines (i:=i) cK;obtain⟨t,ht⟩:=gx ts (i:=((i:Nat):Int).toNat) cK;have hdt:DL w0 (ia t) l:=hD.2 _ _ _ ht V;have O:=DL.flat hdt;have BC:=hz.line l (kE V);have Z:=(G _ _ B).2.2;refine aQ pJ hR cK ht (λq U=>aD jM (U.ext Z) (aK im (O.ext Z) ?_));refine⟨λm x E=>∃j:Nat,x=hZ (j:Int)/\m=l.length-j/\j<=l.length/\J ((p.lines.take i).flatten.length+j) E,⟨_,0,rfl,rfl,l1 _,B⟩,?_⟩;rintro m _ w2 ⟨j,rfl,rfl,D3,B⟩ _;refine aR (aC (λc=>?_) λ_=>aN cK ⟨_,cK,i+1,rfl,rfl,cK,by rw[xu V,la,show l.length=j from cK];exact B⟩)
  obtain⟨x,I⟩:=gx l (i:=((j:Nat):Int).toNat) cK;have Y:=(G _ _ B).2.2;have u:=St.start w2;refine aQ im O cK I (λq U=>aD mc (U.ext Y) (aM u oU λb6 _ u=>aI (x:=x) u mc rfl rfl λw4 u=>aD mc u.At ?_));refine kI.mono (hy _ x i w4 (Ul V I) (YC _ _ _ B u.aG)) ?_;rintro v w5 (⟨rfl,B7⟩|⟨rfl,Hr⟩)
  .exact bR (ft (aN cK ⟨_,cK,j+1,rfl,rfl,cK,B7⟩))
  exact bR (iz (.inr Hr))
 rw[show p.lines.take i=p.lines from kO cK]at B;obtain⟨Cz,uW,Z⟩:=G _ _ B;refine aA qf (bO jM uW (aK im (hV.ext Z) ?_));refine⟨λm x E=>∃j:Nat,x=hZ (j:Int)/\m=p.iR.length-j/\j<=p.iR.length/\J (p.lines.flatten.length+j) E,⟨_,0,rfl,rfl,l1 _,B⟩,?_⟩;rintro m _ w6 ⟨j,rfl,rfl,D3,B⟩ _;refine aR (aC (λc=>?_) λc=>?_)
 .obtain⟨x,I⟩:=gx p.iR (i:=((j:Nat):Int).toNat) cK;obtain⟨Cz,uW,Y⟩:=G _ _ B;have u:=St.start w6;refine aQ im hV cK I (λq U=>aD mc (U.ext Y) (aM u oU λb8 _ u=>aI (x:=x) u mc rfl rfl λw8 u=>aD mc u.At (aA gy (bO oP (Cz.ext u.aG) (aK pJ (hR.ext (Y.trans u.aG)) (aN cK ?_))))));rw[hn];refine kI.mono (hy _ x _ w8 (YB I) (YC _ _ _ B u.aG)) ?_;rintro v w9 (⟨rfl,B7⟩|⟨rfl,Hr⟩)
  .exact bR (ft (aN cK ⟨_,cK,j+1,rfl,rfl,cK,B7⟩))
  exact bR (iz (.inr Hr))
 refine .inl ?_;rw[uV]
 grind[iu]
def C115(pv:bP)(w:World):CR 115 [ia pv] w (λv w'=>∃b,v=.func (.func 195) [].toArray [.pointer (some ⟨b,0,none⟩)].toArray/\lh (bY b (j0 pv)) w w'):=by
 have u:=St.start w;refine fg Tryz.func115 ?_;exact cI u (λb _ u=>⟨b,rfl,u.fresh⟩)
def C50(p:cE)(pv:bP)(w:World)(hp:mh w pv p)(hz:PZ p):CR 50 [ia pv] w (λv w'=>lh (bH v (cT p)) w w'):=by
 have hac:=kV hz.toPS;have oL:(ud p).length=(iu p).length:=uV p;obtain⟨G,U,bL,aW,Z,V,rfl,cQ,dG,cW,cC,cD,cP⟩:=hp;have u:=St.start w;refine fg Tryz.func50 ?_;refine cI u (λbp _ u=>gC u ahP rfl λb3 _ u=>aD er u.p1.At (dO Sp (C115 _ _) ?_));rintro _ _ ⟨b,rfl,cL⟩;have u:=(u.made cL).eL (α:=ByteArray)
 refine wU (cap:=[.pointer (some ⟨b,0,none⟩)]) (xs:=(ud p).map λq=>[ia q.1,hZ q.2]) Sq u
  (λk M=>∃sv,M=[bH sv (((iu p).take k).map cJ.name),bY b (j0 (⟨G,U,bL,aW,Z,V⟩:bP)),bY b3 [sv],bY bp (j0 (⟨G,U,bL,aW,Z,V⟩:bP))]) (λ_ _=>False) ⟨_,rfl⟩ (by intro x I;obtain⟨q,_,rfl⟩:=oj.1 I;rfl) ?_ ?_ ?_ ?_ ?_ ?_
 .intro y J Jx W hJ YC TP hy;refine(C195 y b G U p J Jx w W hz.toPS cQ (DL.flat dG) (λk W E=>?_) YC TP λk c i W I E=>hy k [ia c,hZ i] W (by rw[pd,I];rfl) E).mono λ_ _ r=>r.mono λv W' h=>?_
  .obtain⟨Y,M,⟨sv,rfl⟩,O⟩:=hJ k W E;exact⟨O.p2.hb.cell rfl,O.p2.hb.cell rfl,O.aG⟩
  simpa using h
 .rintro k args Y1 Y2 B Kr M W E ⟨sv,rfl⟩ hB hN hR u;rw[pd]at E;obtain⟨q,hq,rfl⟩:=H4.1 E;have nP:=(kp.1 hq).1;have hc:(iu p)[k]?=some q.1:=by rw[<- Ba,pd,hq];rfl
  have CB:(((iu p).take k).map cJ.name).length=k:=by rw[n0,l0];omega
  dsimp only[D4];refine aM u oU (λb4 _ u=>aI (x:=q.1) u mc rfl rfl λ_ u=>?_);refine hB _ _ _ u.p1 (λ_ u=>?_);refine aB jk u.p4.hb rfl (aA kQ (aB (v:=.string q.1.name) gw u.p1.hb rfl (bD ([cJ.name q.1]) u iC rfl rfl (dL rfl) λs8 _ u=>?_)));have hr:=u.dX;refine bJ u.p3 iC hr (by rw[CB,mv];omega) ee (λs9 _ u=>aT u.p5 jk (dL rfl) (Jf u.dX) λ_ u=>?_);refine hN _ _ ?_ ⟨s9,rfl⟩;rw[<- gd (k:=k) hc];exact u.p2.drop.p3.drop.p3.p2.p3
 .rintro D M W ⟨sv,rfl⟩ u;refine aB jk u.p3.hb rfl ?_;refine Ej u (λ_ u=>?_);rw[n0,oL,aag]at u;exact u.p1.drop.p1.drop.p1.drop.fresh
 .rintro D M W h;exact h.elim
 .rintro id D M W h;exact h.elim
 rintro c M h;exact h.elim
def C55(p:cE)(pv:bP)(w:World)(hp:mh w pv p)(hz:PZ p):CR 55 [ia pv] w (λv w'=>lh (bH v (eW p)) w w'):=by
 have hac:=kV hz.toPS;have oL:(ud p).length=(iu p).length:=uV p;obtain⟨G,U,bL,aW,Z,V,rfl,cQ,dG,cW,cC,cD,cP⟩:=hp;have u:=St.start w;refine fg Tryz.func55 ?_;refine cI u (λbp _ u=>gC u ahO rfl λb3 _ u=>aD er u.p1.At (dO Sp (C115 _ _) ?_));rintro _ _ ⟨b,rfl,cL⟩;have u:=(u.made cL).eL (α:=Int)
 refine wU (cap:=[.pointer (some ⟨b,0,none⟩)]) (xs:=(ud p).map λq=>[ia q.1,hZ q.2]) Sq u
  (λk M=>∃sv,M=[bH sv (((iu p).take k).map cJ.n),bY b (j0 (⟨G,U,bL,aW,Z,V⟩:bP)),bY b3 [sv],bY bp (j0 (⟨G,U,bL,aW,Z,V⟩:bP))]) (λ_ _=>False) ⟨_,rfl⟩ (by intro x I;obtain⟨q,_,rfl⟩:=oj.1 I;rfl) ?_ ?_ ?_ ?_ ?_ ?_
 .intro y J Jx W hJ YC TP hy;refine(C195 y b G U p J Jx w W hz.toPS cQ (DL.flat dG) (λk W E=>?_) YC TP λk c i W I E=>hy k [ia c,hZ i] W (by rw[pd,I];rfl) E).mono λ_ _ r=>r.mono λv W' h=>?_
  .obtain⟨Y,M,⟨sv,rfl⟩,O⟩:=hJ k W E;exact⟨O.p2.hb.cell rfl,O.p2.hb.cell rfl,O.aG⟩
  simpa using h
 .rintro k args Y1 Y2 B Kr M W E ⟨sv,rfl⟩ hB hN hR u;rw[pd]at E;obtain⟨q,hq,rfl⟩:=H4.1 E;have nP:=(kp.1 hq).1;have hc:(iu p)[k]?=some q.1:=by rw[<- Ba,pd,hq];rfl
  have CB:(((iu p).take k).map cJ.n).length=k:=by rw[n0,l0];omega
  dsimp only[D4];refine aM u oU (λb4 _ u=>aI (x:=q.1) u mc rfl rfl λ_ u=>?_);refine hB _ _ _ u.p1 (λ_ u=>?_);refine aB eg u.p4.hb rfl (aA rZ (aB (v:=hZ q.1.n) bM u.p1.hb rfl (bD ([cJ.n q.1]) u cS rfl rfl (dL rfl) λs8 _ u=>?_)));have hr:=u.dX;refine bJ u.p3 cS hr (by rw[CB,mv];omega) ee (λs9 _ u=>aT u.p5 eg (dL rfl) (Jf u.dX) λ_ u=>?_);refine hN _ _ ?_ ⟨s9,rfl⟩;rw[<- gd (k:=k) hc];exact u.p2.drop.p3.drop.p3.p2.p3
 .rintro D M W ⟨sv,rfl⟩ u;refine aB eg u.p3.hb rfl ?_;refine Ej u (λ_ u=>?_);rw[n0,oL,aag]at u;exact u.p1.drop.p1.drop.p1.drop.fresh
 .rintro D M W h;exact h.elim
 .rintro id D M W h;exact h.elim
 rintro c M h;exact h.elim
theorem Su:∀(vs:List cJ) (k:Int) (j:Nat) (q:cJ×Int),(Od k vs)[j]?=some q->q.2=k+j
 | [],_,_,_,h=>by simp[Od]at h
 | c::r,k,0,q,h=>by simp[Od]at h;grind
 | c::r,k,j+1,q,h=>by
  have:=Su r (k+1) j q (by simpa[Od]using h)
  omega
theorem Mt(vs:List cJ):∀(ls:List (List cJ)) (i:Int) (a:Nat) (q:cJ×Int),(PN i ls++Od (i+ls.length) vs)[a]?=some q->js ls i a=q.2
 | [],i,a,q,h=>by
  have:=Su vs (i+0) a q (by simpa[PN]using h)
  unfold js;omega
 | l::r,i,a,q,h=>by
  unfold js
  by_cases u:a<l.length
  .rw[ew cK]
   rw[PN,n3,ub dD,pd]at h
   grind
  .rw[ej cK]
   rw[PN,n3,sI (by simp;omega),n0]at h
   have e:(i+((l::r).length:Nat):Int)=i+1+(r.length:Nat):=dD
   rw[e]at h
   have:=Mt vs r (i+1) (a-l.length) q h
   grind
theorem YD{p:cE}{k:Nat}{q:cJ×Int}(h:(ud p)[k]?=some q):pC p k=q.2:=by
 have u:=(kp.1 h).1
 rw[uV]at u
 unfold pC
 rw[ej cK]
 exact Mt p.iR p.lines 0 k q (by unfold ud at h;grind)
def C52(p:cE)(pv:bP)(c:Int)(w:World)(hp:mh w pv p)(hz:PZ p):CR 52 [ia pv,hZ c] w (λv w'=>v=hZ (pC p c)/\Ext w w'):=by
 have hac:=kV hz.toPS;have oL:(ud p).length=(iu p).length:=uV p;obtain⟨I,Z,bL,aW,aX,bG,rfl,cQ,dG,cW,cC,cD,cP⟩:=hp;have u:=St.start w;refine fg Tryz.func52 ?_;refine cI u (λbp _ u=>nx u rfl λb3 _ u=>gC u uA rfl λb4 _ u=>gC u uA rfl λb5 _ u=>aT u bM (dL rfl) rfl λ_ u=>aD er u.p3.At (dO Sp (C115 _ _) ?_));rintro _ _ ⟨b,rfl,cL⟩;have u:=u.made cL
 refine wU (cap:=[.pointer (some ⟨b,0,none⟩)]) (xs:=(ud p).map λq=>[ia q.1,hZ q.2]) Sq u
  (λk M=>(∀j:Nat,j<k->¬ (j:Int)=c)/\M=[bY b (j0 (⟨I,Z,bL,aW,aX,bG⟩:bP)),bY b5 [hZ (k:Int)],bY b4 [hZ 0],bY b3 [hZ c],bY bp (j0 (⟨I,Z,bL,aW,aX,bG⟩:bP))])
  (λcd M=>cd=.ret/\M=[bY b4 [hZ (pC p c)]]) ⟨cK,rfl⟩ (by intro x O;obtain⟨q,_,rfl⟩:=oj.1 O;rfl) ?_ ?_ ?_ ?_ ?_ ?_
 .intro y J Jx W hJ YC TP hy;refine(C195 y b I Z p J Jx w W hz.toPS cQ (DL.flat dG) (λk W E=>?_) YC TP λk c i W O E=>hy k [ia c,hZ i] W (by rw[pd,O];rfl) E).mono λ_ _ r=>r.mono λv W' h=>?_
  .obtain⟨Y,M,⟨_,rfl⟩,U⟩:=hJ k W E;exact⟨U.p1.hb.cell rfl,U.p1.hb.cell rfl,U.aG⟩
  simpa using h
 .rintro k args Y1 Y2 B Kr M W E ⟨G,rfl⟩ hB hN hR u;rw[pd]at E;obtain⟨q,hq,rfl⟩:=H4.1 E;have nP:=(kp.1 hq).1;dsimp only[D4];refine hB _ _ _ u (λ_ u=>?_);refine aB bM u.p2.hb rfl (aB bM u.p4.hb rfl (aH (aC (λV=>?_) λV=>aB bM u.p2.hb rfl (aN cK (aT u.p2 bM (dL rfl) rfl λ_ u=>hN _ _ u.p2.p2.p0 ⟨λj hj=>?_,rfl⟩)))))
  .refine aT u.p3 bM (dL rfl) rfl (λ_ u=>?_);refine hR _ [bY b4 [hZ (pC p c)]] _ ?_ ⟨rfl,rfl⟩;rw[<- V,YD hq];exact u.p2.drop.p2.drop.p2.drop.p2.drop.p1
  rcases Po j k with h|h
  .exact G j h
  rw[show j=k from cK];exact V
 .rintro D M W ⟨G,rfl⟩ u;refine aT u.p3 bM (dL rfl) rfl (λ_ u=>?_);refine Ej u.p1 (λ_ u=>?_);refine aB bM u.hb rfl ?_;refine⟨gO (ni .i64) ?_,u.aG⟩;unfold pC;rw[n0]at G
  rw[ew (by
   rcases Int.lt_or_le c 0 with h|h
   .exact .inl h
   .refine .inr ?_;have:=G c.toNat;omega)]
 .rintro D M W ⟨_,rfl⟩ u;refine Ej u (λ_ u=>?_);exact aB bM u.hb rfl ⟨rfl,u.aG⟩
 .rintro id D M W ⟨h,_⟩;cases h
 rintro c M ⟨h,_⟩;exact .inr h
variable (w:World) (K:Value->hM)
def aw6:dI:=λi=>match i with
 | 22=>.run 0 6
 | _=>.nil
theorem aqm:PL 107:=dK Tryz.func107
theorem YE:PL 176:=dK Tryz.func176
end Go.Proofs.YtpdlpabnlkofmaaGreatDoor
namespace Go.Fw
open Go.MapKept (Stamped IsKey)
open Go.ChangeMaps (setBlock)
def zN(l:List SI)(k:ByteArray)(v:Int):List SI:=if l.any (λp=>decide (p.1=k))then l.map (λp=>if p.1=k then(k,v)else p)else l++[(k,v)]
theorem Hs:∀(l:List SI) (k u:ByteArray) (v:Int),(∀p∈l,p.1≠k)->eH (l++[(k,v)]) u=if k=u then v else eH l u
 | [],k,u,v,_=>rfl
 | p::r,k,u,v,h=>by
  have E:=Hs r k u v (λq B=>h q (qX _ B))
  have G:=h p (o1 ..)
  show(if p.1=u then p.2 else eH (r++[(k,v)]) u)=_
  rw[E]
  show _=if k=u then v else(if p.1=u then p.2 else eH r u)
  grind
theorem Cc:∀(l:List SI) (k u:ByteArray) (v:Int),l.any (λp=>decide (p.1=k))=true->eH (l.map λp=>if p.1=k then(k,v)else p) u=if k=u then v else eH l u
 | [],_,_,_,h=>by simp at h
 | p::r,k,u,v,h=>by
  rw[K0]
  by_cases h1:p.1=k
  .rw[ew h1]
   show(if k=u then v else eH (r.map _) u)=if k=u then v else(if p.1=u then p.2 else eH r u)
   by_cases h2:k=u
   .grind
   .rw[ej h2,ej h2,ej λe=>h2 (h1.symm.trans e)]
    by_cases h3:r.any (λp=>decide (p.1=k))=true
    .rw[Cc r k u v h3,ej h2]
    .congr 1
     have:∀q∈r,q.1≠k:=λq B e=>h3 (xo.2 ⟨q,B,ez e⟩)
     conv=>rhs;rw[<- List.map_id r]
     exact Bi λq B=>ej (this q B)
  .rw[ej h1]
   have h3:r.any (λp=>decide (p.1=k))=true:=by
    grind
   show(if p.1=u then p.2 else eH (r.map _) u)=if k=u then v else(if p.1=u then p.2 else eH r u)
   rw[Cc r k u v h3]
   grind
theorem Cd(l:List SI)(k u:ByteArray)(v:Int):eH (zN l k v) u=if k=u then v else eH l u:=by
 unfold zN
 by_cases h:l.any (λp=>decide (p.1=k))=true
 .rw[ew h,Cc l k u v h]
 rw[ej h,Hs l k u v λp B e=>h (xo.2 ⟨p,B,ez e⟩)]
def adK{l:List SI}{k:ByteArray}{v:Int}(h:∀p∈l,p.2≠0)(B:v≠0):∀p∈zN l k v,p.2≠0:=by
 intro p u
 unfold zN at u
 grind
section
variable {P:Program}{w w0 w':World}{A:Nat->Prop}{L:List HP}{b:Nat}{l:List SI}
theorem YF{T J E:TypeId}{v:Int}{k:ByteArray}(h:uP w b l)(ht:P.underlying T=some (.map J E))(O:P.underlying J=some .string) :
  ∃w',(xg T (.map (some b)) (.string k) (hZ v)).run P w=.ok () w'/\gv (· = b) w w'/\uP w' b (zN l k v):=by
 by_cases eG:∀p∈l,p.1≠k
 .have:l.any (λp=>decide (p.1=k))=false:=by
   grind
  unfold zN
  rw[ej dD]
  exact LV h ht O eG
 have Z:l.any (λp=>decide (p.1=k))=true:=by
  grind
 unfold zN
 rw[ew Z]
 have nP:=h.lt
 obtain⟨es,c,h1,h2,h3⟩:=h
 have hc:=MapKept.run_checkKey (P:=P) (w:=w) (kt:=J) (k:=.string k) O (by simp[IsKey]) false 9999
 rcases MapKept.findNow_spec (d:=.string) (k:=.string k) (by simp[IsKey]) es.toList 0 (λx G=>by obtain⟨p,_,e,_⟩:=Xt h3 G;rw[e];simp[IsKey])with⟨U,g2⟩|⟨j,e,U,g2,g4⟩
 .obtain⟨p,Y,he⟩:=xo.1 Z
  obtain⟨x,G,e1,_⟩:=Xu h3 Y
  grind
 have W:=MapKept.run_findKey (P:=P) (w:=w) O U
 rw[Nat.zero_add]at W
 have V:es[j]?=some e:=dD
 have iV:(Nj e.key (.string k)).run P w=.ok (.string k) w:=by
  have vX:(k == k)=true:=by cases k with|mk d=>exact beq_self_eq_true d
  rw[g4];unfold Nj;simp[Instr.sameBits,vX]
 refine⟨_,?_,gv.setBlock w b (.map (es.modify j λe=>{e with key:=.string k,val:=hZ v}) c),?_⟩
 .simp[xg,run_underlying ht,MapKept.run_getObj_map h1,hc,W,n6 h1,Result.andThen,V,iV]
 have Kg:∀u,es[j]?=some u->({u with key:=.string k,val:=hZ v}:MapEntry).key=u.key:=λu B=>by
  grind
 refine⟨_,_,kf _ nP,MapKept.stamped_modify h2 j _ (λ_ _=>rfl) (λu _ B=>Kg u B),?_⟩
 let g:Value×Value->Value×Value:=λq=>match q.1 with|.string s=>if s=k then(.string k,hZ v)else q|_=>q
 have hg:(es.modify j λe=>{e with key:=.string k,val:=hZ v}).toList.map (λe=>(e.key,e.val))=(es.toList.map λe=>(e.key,e.val)).map g:=by
  apply List.ext_getElem?
  intro i
  simp only[pd,Array.getElem?_toList,Array.getElem?_modify]
  by_cases M:j=i
  .grind
  .rw[ej M]
   cases G:es[i]? with
   | none=>rfl
   | some x=>
    have Ge:x.key≠.string k:=λhxk=>by
     have hi:=(DK.1 G)
     have hj:=(DK.1 V)
     obtain⟨hi1,Vz⟩:=hi
     obtain⟨hj1,B7⟩:=hj
     have Y:=QO.1 h2.2.2
     grind
    grind
 have hl:(l.map λp=>if p.1=k then(k,v)else p).map R3=(l.map R3).map g:=by
  rw[I7,I7]
  refine Bi λp _=>?_
  show R3 (if p.1=k then(k,v)else p)=g (R3 p)
  by_cases I:p.1=k
  .rw[ew I];simp[g,R3,I]
  .rw[ej I];simp[g,R3,I]
 grind
theorem YG{T I E:TypeId}{v:Int}{k:ByteArray}{K:hM}(B:St w0 A (Fw.nq b l::L) w)(ht:P.underlying T=some (.map I E))(u:P.underlying I=some .string)
  (J:∀w',St w0 A (Fw.nq b (zN l k v)::L) w'->K w'):Vo P (xg T (.map (some b)) (.string k) (hZ v)) w K:=by
 obtain⟨w',h1,h2,h3⟩:=YF (P:=P) (v:=v) (k:=k) B.nq ht u
 exact⟨w',h1,J w' (B.rz λF G=>⟨F,⟨h3,G.2⟩,λb hb=>.inl hb,h2.mono λk u=>(G.2 k).2 u⟩)⟩
end
end Go.Fw
namespace Go.Proofs.YtpdlpabnlkofmaaGreatDoor
open Go.Fw
def sE(b3 b4 B u:Nat)(l:List SI)(tw:Bool)(a:Int):HP:=sep (bY b3 [.map (some u)]) (sep (bY b4 [.bool tw]) (sep (bY B [hZ a]) (nq u l)))
def sE.shut{w0 w:World}{A:Nat->Prop}{L:List HP}{b3 b4 B u:Nat}{l:List SI}{tw:Bool}{a:Int}(E:St w0 A (nq u l::bY B [hZ a]::bY b4 [.bool tw]::bY b3 [.map (some u)]::L) w):St w0 A (sE b3 b4 B u l tw a::L) w:=
 St.join (St.join (St.join E.p1).p1).p1
def sE.open{w0 w:World}{A:Nat->Prop}{L:List HP}{b3 b4 B u:Nat}{l:List SI}{tw:Bool}{a:Int}(E:St w0 A (sE b3 b4 B u l tw a::L) w):St w0 A (nq u l::bY B [hZ a]::bY b4 [.bool tw]::bY b3 [.map (some u)]::L) w:=
 E.split.p1.split.p1.split.p1
def atN(l:List SI)(name:ByteArray)(tw:Bool)(place a:Int):Int:=if eH l name≠0/\tw=false then place else a
def twN(l:List SI)(name:ByteArray)(tw:Bool):Bool:=tw||decide (eH l name≠0)
theorem C176(name:ByteArray)(B place:Int)(b3 b4 E G:Nat)(l:List SI)(tw:Bool)(a:Int)(F:Nat->Prop)(w:World)(O:(sE b3 b4 E G l tw a).p w F) :
  CR 176 [.string name,hZ B,hZ place,.pointer (some ⟨b3,0,none⟩),.pointer (some ⟨b4,0,none⟩),.pointer (some ⟨E,0,none⟩)] w (λv w'=>v=.tuple #[]/\mR F (sE b3 b4 E G (zN l name B) (twN l name tw) (atN l name tw place a)) w w'):=by
 have u:=sE.open (St.begin O);refine fg Tryz.func176 ?_;refine⟨λw'=>St w F [nq G l,bY E [hZ (atN l name tw place a)],bY b4 [.bool (twN l name tw)],bY b3 [.map (some G)]] w',⟨λM w'=>M=.bool (decide (eH l name≠0)&&!tw)/\w'=w,aB G5 u.p3.hb rfl (yi u.nq Tryz.underlying165 Tryz.underlying9 uA (bV (aC (λc=>aB Ap u.p2.hb rfl (bR ⟨vb (by rw[ez c,yU]),rfl⟩)) λc=>⟨vb (by rw[fN c,P7]),rfl⟩))),?_⟩,?_⟩
 .rintro _ _ ⟨rfl,rfl⟩ _;refine aY (λc=>?_) (λc=>?_)
  .have hc:eH l name≠0/\tw=false:=by simpa using c
   refine aT u.p1 bM (dL rfl) rfl (λ_ u=>aT u.p2 Ap (dL rfl) rfl λ_ u=>?_);have J:atN l name tw place a=place:=ew hc;have I:twN l name tw=true:=by unfold twN;rw[ez hc.1,Bool.or_true]
   rw[J,I];exact u.p1.p2
  have hc:¬ (eH l name≠0/\tw=false):=by simpa using c
  have J:atN l name tw place a=a:=ej hc
  have I:twN l name tw=tw:=by
   unfold twN;cases tw with
   | true=>rfl
   | false=>rw[Bool.false_or];exact fN λh=>hc ⟨h,rfl⟩
  rw[J,I];exact u
 rintro _ u _;exact aB G5 u.p3.hb rfl (YG u Tryz.underlying165 Tryz.underlying9 λ_ u=>⟨rfl,(sE.shut u).mut⟩)
def YH(st:List SI×Bool×Int)(q:ByteArray×Int×Int):List SI×Bool×Int:=(zN st.1 q.1 q.2.1,twN st.1 q.1 st.2.1,atN st.1 q.1 st.2.1 q.2.2 st.2.2)
def CK(p:cE)(i:Int):Int:=if (p.lines.length:Int)<=i then 2 else 1
def VB(p:cE):List (ByteArray×Int×Int):=(ud p).map λq=>(q.1.name,CK p q.2,q.1.at_)
def Um(p:cE):List (ByteArray×Int×Int):=p.eJ.map λc=>(c.name,3,c.at_)
def VC(p:cE):List (ByteArray×Int×Int):=p.threads.map λt=>(t.name,4,t.at_)
def z8(l:List (ByteArray×Int×Int))(st:List SI×Bool×Int):List SI×Bool×Int:=l.foldl YH st
def CL(p:cE):List SI×Bool×Int:=z8 (VC p) (z8 (Um p) (z8 (VB p) ([],false,0)))
theorem Fk{l:List (ByteArray×Int×Int)}{st:List SI×Bool×Int}{k:Nat}{q:ByteArray×Int×Int}(h:l[k]?=some q):z8 (l.take (k+1)) st=YH (z8 (l.take k) st) q:=by
 unfold z8;rw[<- gJ h,List.foldl_append];rfl
abbrev NO(b3 b4 u B:Nat)(st:List SI×Bool×Int):HP:=sE b3 b4 u B st.1 st.2.1 st.2.2
def C107(p:cE)(pv:bP)(w:World)(hp:mh w pv p)(hz:PZ p):CR 107 [ia pv] w (λv w'=>∃G,v=.tuple #[.map (some G),hZ (CL p).2.2,.bool (CL p).2.1]/\lh (nq G (CL p).1) w w'):=by
 have hac:=kV hz.toPS;have oL:(ud p).length=(iu p).length:=uV p;have hzl:=hz.lines;have hzk:=hz.eJ;have hzt:=hz.threads;obtain⟨I,Z,V,U,aX,bG,rfl,cQ,dG,cW,cC,cD,cP⟩:=hp;obtain⟨W5,hR1,hD1⟩:=cQ.open;have W6:=hD1.1;obtain⟨vw,Yt,Yu⟩:=cC.open;have hn3:=Yu.1;have hKr:=DL.flat cW;have u:=St.start w;refine oM Tryz.func107 (pl:=aw6) ?_;refine cI u (λbp w1 u=>LW u λG _ u=>gC u RG rfl λb3 _ u=>aT u G5 (dL rfl) rfl λ_ u=>gC u uA rfl λE _ u=>gC u Wk rfl λb4 _ u=>aT u Ap (dL rfl) rfl λ_ u=>gC u acp rfl λb8 _ u=>aT u RK (dL rfl) rfl λ_ u=>aD er u.p5.At (have u:=sE.shut (a:=0) (tw:=false) u.p3.p2.p3.p4;dO Sp (C115 _ _) ?_))
 rintro _ _ ⟨b,rfl,cL⟩;have u:=u.made cL
 refine wU (cap:=[.pointer (some ⟨b,0,none⟩)]) (xs:=(ud p).map λq=>[ia q.1,hZ q.2]) Sq u
  (λk M=>M=[bY b (j0 (⟨I,Z,V,U,aX,bG⟩:bP)),NO b3 b4 E G (z8 ((VB p).take k) ([],false,0)),bY b8 [(.func (.func 176) [].toArray [.pointer (some ⟨b3,0,none⟩),.pointer (some ⟨b4,0,none⟩),.pointer (some ⟨E,0,none⟩)].toArray)],bY bp (j0 (⟨I,Z,V,U,aX,bG⟩:bP))]) (λ_ _=>False) rfl (by intro x hx;obtain⟨q,_,rfl⟩:=oj.1 hx;rfl) ?_ ?_ ?_ ?_ ?_ ?_
 .intro y J Jx W hJ YC TP hy;refine(C195 y b I Z p J Jx w W hz.toPS cQ (DL.flat dG) (λk W O=>?_) YC TP λk c i W hx O=>hy k [ia c,hZ i] W (by rw[pd,hx];rfl) O).mono λ_ _ r=>r.mono λv W' h=>?_
  .obtain⟨Y,M,rfl,hS⟩:=hJ k W O;exact⟨hS.p1.hb.cell rfl,hS.p1.hb.cell rfl,hS.aG⟩
  simpa using h
 .rintro k args Y1 Y2 B Kr M W O rfl hB hN hR u;rw[pd]at O;obtain⟨q,hq,rfl⟩:=H4.1 O;have hc:(VB p)[k]?=some (q.1.name,CK p q.2,q.1.at_):=by unfold VB;rw[pd,hq];rfl
  dsimp only[D4];refine aM u oU (λb9 _ u=>aI (x:=q.1) u mc rfl rfl λ_ u=>?_);refine hB _ _ _ u.p1 (λSv u=>?_);refine⟨λjv w'=>jv=hZ (CK p q.2)/\w'=Sv,aA gy (aB (v:=ia I) oP u.p5.hb rfl (aK pJ (hR1.ext u.aG) (cR (aC (λ_=>⟨gO (ni .i64) (ew cK).symm,rfl⟩) λ_=>⟨gO (ni .i64) (ej cK).symm,rfl⟩)))),?_⟩;rintro _ _ ⟨rfl,rfl⟩ _;refine aB RK u.p4.hb rfl (aA kQ (aB (v:=.string q.1.name) gw u.p1.hb rfl (aA uF (aB (v:=hZ q.1.at_) bM u.p1.hb rfl (AX (first:=[]) (cap:=[.pointer (some ⟨b3,0,none⟩),.pointer (some ⟨b4,0,none⟩),.pointer (some ⟨E,0,none⟩)]) (H':=λ_=>NO b3 b4 E G (YH (z8 ((VB p).take k) ([],false,0)) (q.1.name,(CK p q.2),q.1.at_))) (Φ:=λv _=>v=.tuple #[]) YE u.p3 (λF hF _=>C176 q.1.name (CK p q.2) q.1.at_ b3 b4 E G _ _ _ F _ hF) λv _ _ u=>?_)))))
  refine hN _ _ ?_ rfl;rw[Fk hc];exact u.p2.drop.p2.p2
 .rintro D M W rfl u;rw[n0,show(VB p).take (ud p).length=VB p from kO (by unfold VB;rw[n0];exact o6 _)]at u;obtain⟨s0,hs0⟩:∃s,s=z8 (VB p) ([],false,0):=⟨_,rfl⟩;rw[<- hs0]at u;refine aA nQ (aB (v:=ia V) jM u.p4.hb rfl (aK im (hKr.ext u.aG) ?_));refine⟨λm x w1=>∃k:Nat,x=hZ (k:Int)/\m=p.eJ.length-k/\k<=p.eJ.length/\St w aZ [nF D (.deferred (some [])),bY b (j0 (⟨I,Z,V,U,aX,bG⟩:bP)),NO b3 b4 E G (z8 ((Um p).take k) s0),bY b8 [(.func (.func 176) [].toArray [.pointer (some ⟨b3,0,none⟩),.pointer (some ⟨b4,0,none⟩),.pointer (some ⟨E,0,none⟩)].toArray)],bY bp (j0 (⟨I,Z,V,U,aX,bG⟩:bP))] w1,⟨_,0,rfl,rfl,l1 _,(by rw[show z8 ((Um p).take 0) s0=s0 from rfl];exact u)⟩,?_⟩
  rintro m _ _ ⟨k,rfl,rfl,O,u⟩ _;refine aR (aC (λc=>?_) λc=>?_)
  .obtain⟨x,hx⟩:=gx p.eJ (i:=((k:Nat):Int).toNat) cK;have hx':p.eJ[k]?=some x:=hx;have hc:(Um p)[k]?=some (x.name,3,x.at_):=by unfold Um;rw[pd,hx'];rfl
   refine aQ im hKr cK hx (λq hq=>aD mc (hq.ext u.aG) (aM u oU λb9 _ u=>aI (x:=x) u mc rfl rfl λ_ u=>aB RK u.p4.hb rfl (aA kQ (aB (v:=.string x.name) gw u.hb rfl (aA uF (aB (v:=hZ x.at_) bM u.hb rfl (AX (first:=[]) (cap:=[.pointer (some ⟨b3,0,none⟩),.pointer (some ⟨b4,0,none⟩),.pointer (some ⟨E,0,none⟩)]) (H':=λ_=>NO b3 b4 E G (YH (z8 ((Um p).take k) s0) (x.name,3,x.at_))) (Φ:=λv _=>v=.tuple #[]) YE u.p3 (λF hF _=>C176 x.name 3 x.at_ b3 b4 E G _ _ _ F _ hF) λv _ _ u=>aN cK ?_)))))));refine⟨_,cK,k+1,rfl,rfl,cK,?_⟩
   rw[Fk hc];exact u.p1.drop.p2.p2
  rw[show(Um p).take k=Um p from kO (by unfold Um;rw[n0];omega)]at u;obtain⟨s1,Un⟩:∃s,s=z8 (Um p) s0:=⟨_,rfl⟩;rw[<- Un]at u;refine aA kG (aB (v:=ia U) iB u.p4.hb rfl (aK fy (Yt.ext u.aG) ?_));refine⟨λm x w1=>∃k:Nat,x=hZ (k:Int)/\m=vw.length-k/\k<=vw.length/\St w aZ [nF D (.deferred (some [])),bY b (j0 (⟨I,Z,V,U,aX,bG⟩:bP)),NO b3 b4 E G (z8 ((VC p).take k) s1),bY b8 [(.func (.func 176) [].toArray [.pointer (some ⟨b3,0,none⟩),.pointer (some ⟨b4,0,none⟩),.pointer (some ⟨E,0,none⟩)].toArray)],bY bp (j0 (⟨I,Z,V,U,aX,bG⟩:bP))] w1,⟨_,0,rfl,rfl,l1 _,(by rw[show z8 ((VC p).take 0) s1=s1 from rfl];exact u)⟩,?_⟩
  rintro m _ _ ⟨k,rfl,rfl,O,u⟩ _;refine aR (aC (λc=>?_) λc=>?_)
  .obtain⟨t,ht⟩:=gx vw (i:=((k:Nat):Int).toNat) cK;obtain⟨r,hr⟩:=gx p.threads (i:=k) cK;obtain⟨gr,gb,rfl,_,_⟩:=Yu.2 _ _ _ ht hr;have hc:(VC p)[k]?=some (r.name,4,r.at_):=by unfold VC;rw[pd,hr];rfl
   refine aQ fy Yt cK ht (λq hq=>aD m7 (hq.ext u.aG) (aM u tC λb9 _ u=>aI u m7 rfl rfl λ_ u=>aB RK u.p4.hb rfl (aA qq (aB (v:=.string r.name) gw u.hb rfl (aA qt (aB (v:=hZ r.at_) bM u.hb rfl (AX (first:=[]) (cap:=[.pointer (some ⟨b3,0,none⟩),.pointer (some ⟨b4,0,none⟩),.pointer (some ⟨E,0,none⟩)]) (H':=λ_=>NO b3 b4 E G (YH (z8 ((VC p).take k) s1) (r.name,4,r.at_))) (Φ:=λv _=>v=.tuple #[]) YE u.p3 (λF hF _=>C176 r.name 4 r.at_ b3 b4 E G _ _ _ F _ hF) λv _ _ u=>aN cK ?_)))))));refine⟨_,cK,k+1,rfl,rfl,cK,?_⟩
   rw[Fk hc];exact u.p1.drop.p2.p2
  rw[show(VC p).take k=VC p from kO (by unfold VC;rw[n0];omega),Un,hs0]at u;have u:=sE.open u.drew.p2;refine aB G5 u.p3.hb rfl (aB bM u.p1.hb rfl (aB Ap u.p2.hb rfl ?_));refine Ej u.p4 (λ_ u=>?_);exact⟨G,rfl,u.p1.drop.p1.drop.p1.drop.p1.drop.p1.drop.p1.drop.fresh⟩
 .rintro D M W h;exact h.elim
 .rintro id D M W h;exact h.elim
 rintro c M h;exact h.elim
def vz(B:ByteArray)(I:Int)(E:Option Addr)(G u:Nat):pr hH (Instr.build 177 [(0,.string B),(1,hZ I),(2,.slice E G u)].toArray)=some (.agg [.string B,hZ I,.slice E G u].toArray):=by kernel_rfl
structure Jt where
 name:ByteArray
 at_:Int
 may:SV
instance:Flat Jt where
 agg:=true
 sz:=3
 enc e:=[.string e.name,hZ e.at_,.slice e.may.a e.may.n e.may.cap]
 val e:=.agg [.string e.name,hZ e.at_,.slice e.may.a e.may.n e.may.cap].toArray
 pos:=ee
 len _:=rfl
 one a v h:=by simp at h;rcases h with rfl|rfl|rfl<;>rfl
 oH _ _:=rfl
 oI h:=by cases h
variable (w:World) (K:Value->hM)
theorem agL:PL 193:=dK Tryz.func193
theorem aqp:PL 113:=dK Tryz.func113
theorem aqq:PL 192:=dK Tryz.func192
end Go.Proofs.YtpdlpabnlkofmaaGreatDoor
namespace Go.Fw
def PO:List Nat->HP
 | []=>eD λ_=>True
 | D::r=>sep (nF D (.deferred (some []))) (PO r)
def adN(P:Program)(w0:World)(A:Nat->Prop)(I:Nat->List HP->Prop)(B:hM)(y:Value)(E:Nat->List Value->(hM)->Prop):Prop:=
 ∀k args Φ W (R:HP) L,E k args Φ->(∀F u,R.p u F->Φ u)->I k L->St w0 A (R::L) W->kI P y args W (λv u=>(v=.bool true/\∃L',I (k+1) L'/\St w0 A (R::L') u)\/(v=.bool false/\B u))
section
variable {P:Program}{w w0 w':World}{A:Nat->Prop}{L:List HP}
theorem PO.nil(u:St w0 A L w):St w0 A (PO []::L) w:=u.fu λ_=>trivial
theorem PO.take{K:hM}:∀(ds:List Nat) {w:World},St w0 A (PO ds::L) w->(∀w',St w0 A L w'->K w')->mS ds w K
 | [],_,u,k=>k _ u.drop
 | D::r,_,u,k=>by
  have h1:=u.split
  exact⟨h1.obj,PO.take r (h1.putObj _).drop k⟩
theorem YI{Z np:Nat}{cap:List Value}(n:Nat)(Ar:Nat->List Value->(hM)->Prop){round:List Value->World->(World->(hM)->Prop)->(Option Code->hM)->Prop}
  {N R:Nat->hM}{X:Nat->Nat->hM}(pl:Plain P Z) (hs:St w0 A L w) (I:Nat->List HP->Prop) (V:Code->List HP->Prop) (h0:I 0 L) (hnp:∀k a Φ,Ar k a Φ->a.length=np)
  (hgf:∀(y:Value) (Y:HP) (Jx:hM) (W:World),(∃M,I 0 M/\St w0 A (Y::M) W)->adN P w0 A (λk L=>∃M,I k M/\L=Y::M) Jx y Ar->
   Calls P Z ([y]++cap).toArray W (tV λ_ O=>(∃M,I n M/\St w0 A (Y::M) O)\/Jx O))
  (D5:∀k args Φ (Y1 Y2:HP) (B:World->(hM)->Prop) (Kr:Option Code->hM) M W,Ar k args Φ->I k M->(∀F O,Y2.p O F->Φ O)->
   (∀M u (kk:hM),St w0 A (Y1::M) u->(∀w2,St w0 A (Y2::M) w2->kk w2)->B u kk)->
   (∀M u,St w0 A (Y2::M) u->I (k+1) M->Kr none u)->(∀c M u,St w0 A (Y2::M) u->V c M->Kr (some c) u)->
   St w0 A (Y1::M) W->round args W B Kr)
  (WG:∀D M W,I n M->St w0 A (nF D (.deferred (some []))::M) W->N D W)
  (ahQ:∀D M W,V .ret M->St w0 A (nF D (.deferred (some []))::M) W->R D W)
  (WH:∀id D M W,V (.exit id) M->St w0 A (nF D (.deferred (some []))::M) W->X id D W)
  (OP:∀c M,V c M->(∃id,c=.exit id)\/c=.ret) :
  Ai P (.func (.func Z) #[] cap.toArray) np w round (aft N R X):=by
 refine⟨Z,cap.toArray,rfl,pl,λG iV Bz hy=>?_⟩
 obtain⟨l,hl⟩:∃l,l=w.heap.size+1:=⟨_,rfl⟩
 obtain⟨D,hD⟩:∃D,D=w.heap.size:=⟨_,rfl⟩
 rw[<- hl]at hy |-
 rw[<- hD]
 let Y:HP:=sep (nF l (.loop G)) (nF D (.deferred (some [])))
 let Jx:hM:=λW=>∃c M,V c M/\St w0 A (nF l (.loop {G with state:=.done,pending:=some c})::nF D (.deferred (some []))::M) W
 have TP:∃M,I 0 M/\St w0 A (Y::M) ((w.alloc (.deferred (some []))).alloc (.loop G)):=by
  refine⟨L,h0,?_⟩
  have h1:=(hs.alloc (o:=.deferred (some []))).alloc (o:=.loop G)
  rw[show(w.alloc (.deferred (some []))).heap.size=l from by rw[hl];exact BN w _,<- hD]at h1
  exact St.join h1
 have:=hgf (.func (.yield l) #[] #[]) Y Jx _ TP ?_
 .have e:([Value.func (.yield l) #[] #[]]++cap).toArray = #[.func (.yield l) #[] #[]]++cap.toArray:=ei
  rw[e]at this
  refine this.mono λx O ⟨v,hx,hv⟩=>⟨v,hx,?_⟩
  rcases hv with⟨M,J,E⟩|⟨c,M,J,E⟩
  .have E:=E.split
   refine⟨.ready,none,ei,?_,?_⟩
   .rw[<- iV,<- Bz];exact E.obj
   exact WG D M _ J (E.putObj _).drop
  refine⟨.done,some c,ei,E.obj,?_⟩
  rcases OP c M J with⟨id,rfl⟩|rfl
  .exact WH id D M _ J (E.putObj _).drop
  exact ahQ D M _ J (E.putObj _).drop
 rintro k args Φ W R _ hk hR ⟨M,J,rfl⟩ E
 have U:=E.p1.split
 refine⟨.inr ⟨l,rfl,?_⟩⟩
 refine hy args W _ (hnp k args Φ hk) U.obj ?_
 refine D5 k args Φ (sep (sep (nF l (.loop G)) (nF D (.deferred (some [])))) R) (sep (sep (nF l (.loop {G with state:=.busy})) (nF D (.deferred (some [])))) R) _ _ M W hk J (λF W2 ⟨_,F2,_,h2,_⟩=>hR F2 W2 h2)
  (λM u kk h1 h2=>?_) (λM u h1 h2=>?_) (λc M u h1 h2=>?_) (St.join (St.join U))
 .have h1:=h1.split.split
  exact⟨h1.obj,h2 _ (h1.putObj _).join.join⟩
 .have h1:=h1.split.split
  refine⟨h1.obj,.inl ⟨rfl,_,⟨M,h2,rfl⟩,?_⟩⟩
  have:=h1.putObj (.loop {G with state:=if (none:Option Code).isNone=true then LoopState.ready else LoopState.done,pending:=none})
  rw[Ek G iV Bz]at this |-
  exact(St.join this).p1
 have h1:=h1.split.split
 refine⟨h1.obj,.inr ⟨rfl,c,M,h2,?_⟩⟩
 exact(h1.putObj _).p2.drop
end
end Go.Fw
namespace Go.Proofs.YtpdlpabnlkofmaaGreatDoor
open Go.Fw
abbrev UU:=ByteArray×Int×List Int
def qG(xs:List cA):List cA:=xs.filter λx=>decide (x.op=2)
theorem Ht{xs:List cA}{k:Nat}{x:cA}(h:xs[k]?=some x):qG (xs.take (k+1))=qG (xs.take k)++(if x.op=2 then [x]else []):=by
 unfold qG;rw[<- gJ h,zM];grind
def adO{xs:List cA}{k:Nat}{x:cA}(h:xs[k]?=some x)(u:x.op=2):(qG xs)[(qG (xs.take k)).length]?=some x:=by
 have h1:=drop_cons h
 have e:qG xs=qG (xs.take k)++qG (xs.drop k):=by unfold qG;rw[<- zM,qB]
 grind[qG]
def Sw(l:List UU)(k:Nat)(args:List Value)(Φ:hM):Prop:=∃u s,l[k]?=some u/\args=[ia (⟨u.1,u.2.1,s⟩:Jt)]/\∀W,Φ W->dC (λ_=>True) W (ia s) u.2.2
def aw7{H H':HP}{Φ:hM}(h:∀F W,H.p W F->Φ W):∀F W,(sep H H').p W F->Φ W:=λ_ _ ⟨_,_,h1,_⟩=>h _ _ h1
def Ju{α:Type}[Flat α]{v:Value}{xs:List α}:∀F W,(bH v xs).p W F->dC (λ_=>True) W v xs:=λ_ _ h=>(bH.rd h).mono λ_ _=>trivial
def C193(lv y:Value)(xs:List cA)(may:Int)(ul:List UU)(B:Nat)(w0:World)(A:Nat->Prop)(I:Nat->List HP->Prop)(Jx:hM)(w:World)(hn:xs.length<=1048576)
  (hE:∀k L W,I k L->St w0 A L W->dC (λ_=>True) W lv xs) (h0:∃L,I B L/\St w0 A L w) (hu:∀(j:Nat) (x:cA),(qG xs)[j]?=some x->ul[B+j]?=some (x.name,x.at_,[may])) (hy:adN hH w0 A I Jx y (Sw ul)) :
  CR 193 [lv,hZ may,y] w (λv W=>(v=.bool true/\∃L,I (B+(qG xs).length) L/\St w0 A L W)\/(v=.bool false/\Jx W)):=by
 refine fg Tryz.func193 ?_;obtain⟨L0,E,G⟩:=h0;refine aK gX (hE _ _ _ E G) ?_;refine⟨λm x w1=>∃k:Nat,x=hZ (k:Int)/\m=xs.length-k/\k<=xs.length/\∃L,I (B+(qG (xs.take k)).length) L/\St w0 A L w1,⟨_,0,rfl,rfl,l1 _,L0,E,G⟩,?_⟩;rintro m _ w1 ⟨k,rfl,rfl,hk,L1,J,u⟩ _;refine aR (aC (λc=>?_) λc=>?_)
 .obtain⟨x,M⟩:=gx xs (i:=((k:Nat):Int).toNat) cK;refine aQ gX (hE _ _ _ J u) cK M (λq hq=>aD r7 hq (aM u yc λb8 _ u=>aI (x:=x) u r7 rfl rfl λ_ u=>⟨λjv w'=>(jv=.bool false/\∃L,I (B+(qG (xs.take (k+1))).length) L/\St w0 A L w')\/(jv=.bool true/\Jx w'),aA fa (aB (v:=hZ x.op) bM u.hb rfl (aH (aC (λO=>?_) λO=>?_))),?_⟩))
  .refine aA gk (aB (v:=.string x.name) gw u.hb rfl (aA r8 (aB (v:=hZ x.at_) bM u.hb rfl (bD ([may]:List Int) u.drop cS rfl rfl (dL rfl) λs25 w4 u=>?_))));obtain⟨sv,rfl⟩:=u.dX.fJ;refine pop (vz x.name x.at_ sv.a sv.n sv.cap) ?_;refine kI.mono (hy _ _ _ w4 _ _ ⟨_,sv,hu _ x (adO M O),rfl,λ_ h=>h⟩ Ju J u) ?_;rintro v w5 (⟨rfl,Z,V,U⟩|⟨rfl,Y⟩)
   .exact bR (.inl ⟨rfl,Z,by rw[Ht (k:=k) M,ew O,la];exact V,U.drop⟩)
   exact bR (.inr ⟨rfl,Y⟩)
  .refine .inl ⟨rfl,L1,?_,u.drop⟩;rw[Ht (k:=k) M,ej O,List.append_nil];exact J
  rintro _ w6 (⟨rfl,Z,V,u⟩|⟨rfl,Y⟩) _
  .exact ft (aN cK ⟨_,cK,k+1,rfl,rfl,cK,Z,V,u⟩)
  exact iz (.inr ⟨rfl,Y⟩)
 rw[kO cK]at J;exact .inl ⟨rfl,L1,J,u⟩
def Jv(k:Int):List Int:=if k=5\/k=6 then [1]else if k=9\/k=10 then [3]else [1,2]
def Ce(l:List cA):List UU:=(qG l).map λy=>(y.name,y.at_,[5])
def Cf(x:bQ):List UU:=(if x.eF=⟨#[]⟩then []else [(x.eF,x.at_,[5])])++((if x.name=⟨#[]⟩then []else [(x.name,x.at_,Jv x.kind)])++(Ce x.e++Ce x.f))
def oJ(xs:List bQ):List UU:=xs.flatMap Cf
theorem Hu{xs:List bQ}{k:Nat}{x:bQ}(h:xs[k]?=some x):oJ (xs.take (k+1))=oJ (xs.take k)++Cf x:=by
 unfold oJ;rw[<- gJ h,Me];simp
def adQ{xs:List bQ}{k i:Nat}{x:bQ}{u:UU}(h:xs[k]?=some x)(hi:(Cf x)[i]?=some u):(oJ xs)[(oJ (xs.take k)).length+i]?=some u:=by
 have e:oJ xs=oJ (xs.take k)++(Cf x++oJ (xs.drop (k+1))):=by
  rw[<- n3,<- Hu h];unfold oJ;rw[<- Me,qB]
 grind
def Sx{l:List cA}{j:Nat}{y:cA}(h:(qG l)[j]?=some y):(Ce l)[j]?=some (y.name,y.at_,[5]):=by unfold Ce;rw[pd,h];rfl
def sF(x:bQ):List UU:=if x.eF=⟨#[]⟩then []else [(x.eF,x.at_,[5])]
def ue(x:bQ):List UU:=if x.name=⟨#[]⟩then []else [(x.name,x.at_,Jv x.kind)]
theorem Cg(x:bQ):Cf x=sF x++(ue x++(Ce x.e++Ce x.f)):=rfl
theorem ai8{x:bQ}(h:¬ x.eF=⟨#[]⟩):(sF x).length=1:=by unfold sF;grind
theorem ai9{x:bQ}(h:x.eF=⟨#[]⟩):(sF x).length=0:=by unfold sF;grind
theorem aja{x:bQ}{n:Nat}(h:¬ x.name=⟨#[]⟩):(n+(ue x).length)=n+1:=by unfold ue;grind
theorem ajb{x:bQ}{n:Nat}(h:x.name=⟨#[]⟩):(n+(ue x).length)=n:=by unfold ue;grind
def YJ{x:bQ}(h:¬ x.eF=⟨#[]⟩):(Cf x)[0]?=some (x.eF,x.at_,[5]):=by unfold Cf;grind
def YK{x:bQ}(h:¬ x.name=⟨#[]⟩):(Cf x)[(sF x).length]?=some (x.name,x.at_,Jv x.kind):=by
 rw[Cg,sI (o6 _),Nat.sub_self];unfold ue;grind
def YL{x:bQ}{j:Nat}{y:cA}(h:(qG x.e)[j]?=some y):(Cf x)[(sF x).length+(ue x).length+j]?=some (y.name,y.at_,[5]):=by
 have h1:=Sx h
 rw[Cg,sI cK,show(sF x).length+(ue x).length+j-(sF x).length=(ue x).length+j from cK,sI cK,F4,ub (kp.1 h1).1,h1]
def YM{x:bQ}{j:Nat}{y:cA}(h:(qG x.f)[j]?=some y):(Cf x)[(sF x).length+(ue x).length+(qG x.e).length+j]?=some (y.name,y.at_,[5]):=by
 have h1:=Sx h
 have h2:(Ce x.e).length=(qG x.e).length:=by unfold Ce;grind
 rw[Cg,sI cK,show(sF x).length+(ue x).length+(qG x.e).length+j-(sF x).length=(ue x).length+((Ce x.e).length+j)from cK,sI cK,F4,sI cK,F4,h1]
theorem YN(x:bQ):(Cf x).length=(sF x).length+(ue x).length+(qG x.e).length+(qG x.f).length:=by
 rw[Cg];unfold Ce;grind
def C192(y:Value)(b:Nat)(lv:Value)(ts:List bE)(xs:List bQ)(w0:World)(A:Nat->Prop)(I:Nat->List HP->Prop)(Jx:hM)(w:World)(hn:xs.length<=1048576)(hz:∀x∈xs,x.e.length<=1048576/\x.f.length<=1048576)
  (hE:∀k L W,I k L->St w0 A L W->Cell W b 0 lv/\dC (λ_=>True) W lv ts/\iq ts xs W) (h0:∃L,I 0 L/\St w0 A L w) (hy:adN hH w0 A I Jx y (Sw (oJ xs))) :
  CR 192 [y,.pointer (some ⟨b,0,none⟩)] w (λ_ W=>(∃L,I (oJ xs).length L/\St w0 A L W)\/Jx W):=by
 have Y:∀b4 (cs:List Value),adN hH w0 A (λj L=>∃M,I j M/\L=bY b4 cs::M) Jx y (Sw (oJ xs)):=by
  rintro b4 cs k args Φ W R _ h1 h2 ⟨M,h3,rfl⟩ h4;refine kI.mono (hy k args Φ W _ M h1 (aw7 h2) h3 (St.join h4)) ?_;rintro v W' (⟨rfl,L',h5,h6⟩|h5)
  .exact .inl ⟨rfl,_,⟨L',h5,rfl⟩,h6.split⟩
  grind
 refine fg Tryz.func192 ?_;obtain⟨M0,hI0,hS0⟩:=h0;obtain⟨Cz,CW,yW⟩:=hE _ _ _ hI0 hS0;have Kh:=yW.1;refine bO jP Cz (aK fq CW ?_);refine⟨λm x w1=>∃k:Nat,x=hZ (k:Int)/\m=ts.length-k/\k<=ts.length/\∃L,I (oJ (xs.take k)).length L/\St w0 A L w1,⟨_,0,rfl,rfl,l1 _,M0,hI0,hS0⟩,?_⟩;rintro m _ w1 ⟨k,rfl,rfl,hk,M1,hI,B⟩ _;refine aR (aC (λc=>?_) λc=>?_)
 .obtain⟨t,ht⟩:=gx ts (i:=((k:Nat):Int).toNat) cK;obtain⟨x,hx⟩:=gx xs (i:=k) cK;have hxz:=hz x (kE hx);obtain⟨uW,z6,V0⟩:=hE _ _ _ hI B;obtain⟨V,O,rfl,_,_⟩:=V0.2 _ _ _ ht hx
  have hE1:∀k' M W,I k' M->St w0 A M W->dC (λ_=>True) W (ia V) x.e/\dC (λ_=>True) W (ia O) x.f:=λk' M W h1 h2=>by
   obtain⟨_,_,h3⟩:=hE k' M W h1 h2;obtain⟨_,_,h4,h5,h6⟩:=h3.2 _ _ _ ht hx;cases h4
   exact⟨DL.flat h5,DL.flat h6⟩
  have sB:∀{i:Nat}{u:UU},(Cf x)[i]?=some u->(oJ xs)[(oJ (xs.take k)).length+i]?=some u:=adQ hx;refine aQ fq z6 cK ht (λq hq=>aD eM hq (aM B jy λb4 _ B=>aI (x:=(⟨x.kind,x.eF,x.name,V,O,x.n,x.body,x.eu,x.at_⟩:bE)) B eM rfl rfl λ_ B=>?_));refine⟨λE w'=>(E=.bool false/\∃L,I ((oJ (xs.take k)).length+(sF x).length) L/\St w0 A ((bY b4 (j0 (⟨x.kind,x.eF,x.name,V,O,x.n,x.body,x.eu,x.at_⟩:bE)))::L) w')\/(E=.bool true/\Jx w'),?_,?_⟩
  .refine aA iH (aB (v:=.string x.eF) gw B.hb rfl (l9 (aC (λU=>?_) λU=>.inl ⟨rfl,M1,by rw[ai9 (by simpa using U)];exact hI,B⟩)));refine aA iH (aB (v:=.string x.eF) gw B.hb rfl (aA lL (aB (v:=hZ x.at_) bM B.hb rfl (bD ([5]:List Int) B cS rfl rfl (dL rfl) λs25 _ B=>?_))));obtain⟨sv,rfl⟩:=B.dX.fJ;refine pop (vz x.eF x.at_ sv.a sv.n sv.cap) ?_;refine kI.mono (Y b4 _ _ _ _ _ _ _ ⟨_,sv,sB (i:=0) (YJ U),rfl,λ_ h=>h⟩ Ju ⟨_,hI,rfl⟩ B) ?_;rintro v w5 (⟨rfl,_,⟨J,G,rfl⟩,hs2⟩|⟨rfl,Hr⟩)
   .exact bR (.inl ⟨rfl,J,by rw[ai8 U];exact G,hs2.drop⟩)
   exact bR (.inr ⟨rfl,Hr⟩)
  rintro _ w6 (⟨rfl,J,G,B⟩|⟨rfl,Hr⟩) _;rotate_left
  .exact iz (.inr Hr)
  refine ft (bD ([1,2]:List Int) B cS rfl rfl (dL rfl) λs26 w7 B=>?_);refine⟨λE w'=>∃sv:SV,E=ia sv/\St w0 A (bH (ia sv) (Jv x.kind)::(bY b4 (j0 (⟨x.kind,x.eF,x.name,V,O,x.n,x.body,x.eu,x.at_⟩:bE)))::J) w',?_,?_⟩
  .refine aA dM (aB (v:=hZ x.kind) bM B.p1.hb rfl ⟨λE w'=>E=.bool (decide (x.kind=5\/x.kind=6))/\w'=w7,aH (aC (λc3=>⟨vb (by simp[c3]),rfl⟩) λc3=>aH ⟨vb (by simp[c3]),rfl⟩),?_⟩);rintro _ w8 ⟨rfl,rfl⟩ _;refine aC (λc3=>?_) (λc3=>⟨λE w'=>E=.bool (decide (x.kind=9\/x.kind=10))/\w'=w8,aH (aC (λc4=>⟨vb (by simp[c4]),rfl⟩) λc4=>aH ⟨vb (by simp[c4]),rfl⟩),?_⟩)
   .refine bD ([1]:List Int) B cS rfl rfl (dL rfl) (λs32 _ B=>?_);obtain⟨sv,rfl⟩:=B.dX.fJ;exact⟨sv,rfl,by rw[Jv,ew c3];exact B.p1.drop⟩
   rintro _ _ ⟨rfl,rfl⟩ _;refine aC (λc4=>?_) (λc4=>?_)
   .refine bD ([3]:List Int) B cS rfl rfl (dL rfl) (λs36 _ B=>?_);obtain⟨sv,rfl⟩:=B.dX.fJ;exact⟨sv,rfl,by rw[Jv,ej c3,ew c4];exact B.p1.drop⟩
   obtain⟨sv,rfl⟩:=B.dX.fJ;exact⟨sv,rfl,by rw[Jv,ej c3,ej c4];exact B⟩
  rintro _ _ ⟨sv,rfl,B⟩ _;refine⟨λE w'=>(E=.bool false/\∃L,I ((oJ (xs.take k)).length+((sF x).length+(ue x).length)) L/\St w0 A ((bY b4 (j0 (⟨x.kind,x.eF,x.name,V,O,x.n,x.body,x.eu,x.at_⟩:bE)))::L) w')\/(E=.bool true/\Jx w'),?_,?_⟩
  .refine aA fZ (aB (v:=.string x.name) gw B.p1.hb rfl (l9 (aC (λU=>?_) λU=>.inl ⟨rfl,J,by rw[ajb (by simpa using U)];exact G,B.drop⟩)));refine aA fZ (aB (v:=.string x.name) gw B.p1.hb rfl (aA lL (aB (v:=hZ x.at_) bM B.p1.hb rfl (pop (vz x.name x.at_ sv.a sv.n sv.cap) ?_))));refine kI.mono (Y b4 _ _ _ _ _ _ _ ⟨_,sv,sB (i:=(sF x).length) (YK U),rfl,λ_ h=>h⟩ Ju ⟨_,G,rfl⟩ B) ?_;rintro v w13 (⟨rfl,_,⟨M3,hI3,rfl⟩,hs3⟩|⟨rfl,Hr⟩)
   .exact bR (.inl ⟨rfl,M3,by rw[aja U];exact hI3,hs3.drop⟩)
   exact bR (.inr ⟨rfl,Hr⟩)
  rintro _ Sv (⟨rfl,J,G,B⟩|⟨rfl,Hr⟩) _;rotate_left
  .exact iz (.inr Hr)
  refine ft ?_;refine⟨λE w'=>(E=.bool false/\∃L,I ((oJ (xs.take (k+1))).length) L/\St w0 A ((bY b4 (j0 (⟨x.kind,x.eF,x.name,V,O,x.n,x.body,x.eu,x.at_⟩:bE)))::L) w')\/(E=.bool true/\Jx w'),?_,?_⟩
  .refine aA iX (aB (v:=ia V) jx B.hb rfl (dO agL (C193 _ y x.e 5 (oJ xs) ((oJ (xs.take k)).length+((sF x).length+(ue x).length)) w0 A (λj L=>∃M,I j M/\L=(bY b4 (j0 (⟨x.kind,x.eF,x.name,V,O,x.n,x.body,x.eu,x.at_⟩:bE)))::M) Jx _ (by have:=hxz.1;omega) (λj L W ⟨M,h1,h2⟩ h3=>(hE1 _ _ _ h1 (h2▸h3).drop).1) ⟨_,⟨_,G,rfl⟩,B⟩ (λj _ TV=>by rw[Mm];exact sB (i:=((sF x).length+(ue x).length)+j) (YL TV)) (Y b4 _)) ?_));rintro v _ Z;rw[Mm]at Z
   rcases Z with⟨rfl,_,⟨J,G,rfl⟩,B⟩|⟨rfl,Z⟩
   .refine bR (ft (aA j6 (aB (v:=ia O) jx B.hb rfl (dO agL (C193 _ y x.f 5 (oJ xs) ((oJ (xs.take k)).length+((sF x).length+(ue x).length+(qG x.e).length)) w0 A (λj L=>∃M,I j M/\L=(bY b4 (j0 (⟨x.kind,x.eF,x.name,V,O,x.n,x.body,x.eu,x.at_⟩:bE)))::M) Jx _ (by have:=hxz.2;omega) (λj L W ⟨M,h1,h2⟩ h3=>(hE1 _ _ _ h1 (h2▸h3).drop).2) ⟨_,⟨_,G,rfl⟩,B⟩ (λj _ TV=>by rw[Mm];exact sB (i:=((sF x).length+(ue x).length+(qG x.e).length)+j) (YM TV)) (Y b4 _)) ?_))));rintro v _ Z;rw[Mm]at Z
    rcases Z with⟨rfl,_,⟨J,G,rfl⟩,B⟩|⟨rfl,Z⟩
    .exact bR (.inl ⟨rfl,J,by rw[Hu hx,la,YN];exact G,B⟩)
    exact bR (.inr ⟨rfl,Z⟩)
   exact bR (iz (.inr ⟨rfl,Z⟩))
  rintro _ w17 (⟨rfl,J,G,B⟩|⟨rfl,Hr⟩) _;rotate_left
  .exact iz (.inr Hr)
  exact ft (aN cK ⟨_,cK,k+1,rfl,rfl,cK,J,G,B.drop⟩)
 rw[kO cK]at hI;exact .inl ⟨M1,hI,B⟩
def C113(lv:SV)(w:World):CR 113 [ia lv] w (λv w'=>∃b,v=.func (.func 192) [].toArray [.pointer (some ⟨b,0,none⟩)].toArray/\lh (bY b [ia lv]) w w'):=by
 have u:=St.start w;refine fg Tryz.func113 ?_;refine nx u rfl (λb _ u=>?_);exact⟨b,rfl,u.fresh⟩
variable (w:World) (K:Value->hM)
theorem agM:PL 112:=dK Tryz.func112
end Go.Proofs.YtpdlpabnlkofmaaGreatDoor
namespace Go.Proofs.YtpdlpabnlkofmaaGreatDoor
open Go.Fw
def Fl:List SI->List ByteArray->Option (List SI)
 | g,[]=>some g
 | g,n::r=>if eH g n=0 then Fl (g++[(n,5)]) r else none
def Uo(l:List SI)(names:List ByteArray):Option (List SI):=Fl (l.filter λp=>decide (¬ p.2=4)) names
def adR{g:List SI}{ns:List ByteArray}{k:Nat}{n:ByteArray}(h:ns[k]?=some n)(u:eH g n=0):Fl g (ns.drop k)=Fl (g++[(n,5)]) (ns.drop (k+1)):=by
 rw[drop_cons h,Fl,ew u]
def adS{g:List SI}{ns:List ByteArray}{k:Nat}{n:ByteArray}(h:ns[k]?=some n)(u:¬ eH g n=0):Fl g (ns.drop k)=none:=by
 rw[drop_cons h,Fl,ej u]
def aqt(r:Option (List SI))(v:Value)(w w':World):Prop:=
 (r=none/\v=.tuple #[.map none,.bool true]/\Ext w w')\/∃g b,r=some g/\v=.tuple #[.map (some b),.bool false]/\lh (nq b g) w w'
def C112(W:cH)(names:List ByteArray)(bm:Nat)(l:List SI)(w:World)(hf:dC (λ_=>True) w (ia W.dQ) names)(E:uP w bm l)(hz:∀p∈l,p.2≠0)(hn:names.length<=1073741824) :
  CR 112 [ia W,.map (some bm)] w (λv w'=>aqt (Uo l names) v w w'):=by
 have u:=St.start w;have Kh:=E.nodup;obtain⟨es,clock,Vu,iV,Y⟩:=E;refine fg Tryz.func112 ?_;refine cI u (λM w1 u=>LW u λI _ u=>T6 u Tryz.underlying165 (EP Vu u.aG) λr13 _ u=>?_);refine⟨λV w1=>∃(seen:Array Nat) (O:List SI),V=(leftOf es seen).size/\(∀p,p∈O↔(p∈l/\¬ p.2=4/\∃e∈es.toList,seen.contains e.born=true/\e.key=.string p.1))/\St w aZ [Hk r13 bm clock seen,nq I O,bY M (j0 W)] w1,⟨_,#[],[],rfl,λ_=>⟨λh=>(by cases h),λ⟨_,_,e,_,h,_⟩=>(by simp at h)⟩,u⟩,?_⟩;rintro V w4 ⟨seen,O,rfl,G,u⟩ _;refine Xs u (EP Vu u.aG) iV.1 (λh0=>?_) (λe _ U u=>?_)
 .refine aO rfl (ft ?_);have u:=u.drop
  have hg:O.Perm (l.filter λp=>decide (¬ p.2=4)):=by
   have n1:O.Nodup:=(Zk.1 u.nq.nodup).imp λh e=>h (by rw[e]);have n2:l.Nodup:=(Zk.1 Kh).imp λh e=>h (by rw[e]);refine(List.perm_ext_iff_of_nodup n1 (n2.filter _)).2 λp=>?_;rw[G,M8];refine⟨λ⟨h1,h2,_⟩=>⟨h1,ez h2⟩,λ⟨h1,h2⟩=>⟨h1,gP h2,?_⟩⟩;obtain⟨e,U,h3,_⟩:=Xu Y h1;exact⟨e,U,all_seen es seen h0 e U,h3⟩
  have u:St w aZ [nq I (l.filter λp=>decide (¬ p.2=4)),bY M (j0 W)] w4:=u.rz λF hF=>⟨F,⟨hF.1.perm hg,hF.2⟩,λ_ hb=>.inl hb,gv.refl _ _⟩;refine aA fS (aB jk u.p1.hb rfl (aK iC (hf.ext u.aG) ?_));refine⟨λV i w'=>∃(k:Nat) (g:List SI),i=hZ (k:Int)/\V=names.length-k/\k<=names.length/\Uo l names=Fl g (names.drop k)/\(∀p∈g,p.2≠0)/\St w aZ [nq I g,bY M (j0 W)] w',⟨_,0,_,rfl,rfl,l1 _,rfl,λp hp=>hz p (M8.1 hp).1,u⟩,?_⟩;rintro V _ _ ⟨k,g,rfl,rfl,hk,Gb,hzg,u⟩ _;refine aR (aC (λMu=>?_) λMu=>?_)
  .obtain⟨yX,j3⟩:=gx names (i:=(k:Int).toNat) cK;refine aQ iC (hf.ext u.aG) cK j3 (λ_ AP=>aD gw AP (yi u.nq Tryz.underlying165 Tryz.underlying9 uA (bV (aC (λlQ=>.inl ⟨Gb.trans (adS j3 lQ),rfl,u.drop.drop.aG⟩) λlQ=>?_))));have Z:eH g yX=0:=cK
   refine LX u Tryz.underlying165 Tryz.underlying9 (O5 u.nq.nodup hzg Z) (λ_ u=>aN cK ?_)
   exact⟨_,cK,k+1,_,rfl,rfl,cK,Gb.trans (adR j3 Z),λp hp=>by
    rcases pU.1 hp with h|h
    .exact hzg p h
    .rw[vx.1 h];exact(by decide:(5:Int)≠0),u⟩
  refine .inr ⟨g,I,?_,rfl,u.p1.drop.fresh⟩;rw[Gb,vF cK];rfl
 refine aO rfl (iz ?_);have E:=mem_left U;refine T7 u (EP Vu u.aG) E.1 iV.2.1 ?_;obtain⟨p0,Of,B,hev⟩:=Xt Y E.1;rw[B,hev];refine aO rfl (aO rfl (bV ?_))
 have old:∀q∈O,q.1≠p0.1:=λq hq e=>by
  obtain⟨_,_,J,Mv,h1,h2⟩:=(G q).1 hq;rw[e,<- B]at h2;obtain rfl:=key_inj iV.2.2 Mv E.1 h2;exact absurd h1 (by simpa using E.2)
 refine aC (λoB=>?_) (λoB=>?_)
 .have u:=u.p1;refine LX u Tryz.underlying165 Tryz.underlying9 old (λ_ u=>?_);have u:=u.p1;refine⟨_,left_shrinks es seen e U,seen.push e.born,_,rfl,λp=>?_,u⟩;rw[pU,vx,G]
  constructor
  .rintro(⟨h1,h2,J,h3,h4,h5⟩|rfl)
   .exact⟨h1,h2,J,h3,by simp at h4 |-;exact .inl h4,h5⟩
   exact⟨Of,oB,e,E.1,ei,B⟩
  rintro⟨h1,h2,J,h3,h4,h5⟩
  rcases xm h4 with h|h
  .exact .inl ⟨h1,h2,J,h3,h,h5⟩
  obtain rfl:=born_inj iV.2.1 h3 E.1 h;rw[B]at h5;injection h5 with h5;exact .inr (Xv Kh h1 Of h5.symm)
 refine⟨_,left_shrinks es seen e U,seen.push e.born,O,rfl,λp=>?_,u⟩;rw[G]
 constructor
 .rintro⟨h1,h2,J,h3,h4,h5⟩;exact⟨h1,h2,J,h3,by simp at h4 |-;exact .inl h4,h5⟩
 rintro⟨h1,h2,J,h3,h4,h5⟩
 rcases xm h4 with h|h
 .exact⟨h1,h2,J,h3,h,h5⟩
 obtain rfl:=born_inj iV.2.1 h3 E.1 h;rw[B]at h5;injection h5 with h5;obtain rfl:=Xv Kh h1 Of h5.symm;exact absurd h2 oB
theorem dJ{ns:List ByteArray}{s:ByteArray}:0<=cU ns s↔s∈ns:=by
 have h:=B2 ns s
 grind
theorem Bb{ns:List ByteArray}{s:ByteArray}:cU ns s<0↔s ∉ ns:=by rw[<- dJ];omega
theorem lX{ns:List ByteArray}{s:ByteArray}(h:s∈ns):∃k:Nat,cU ns s=k/\ns[k]?=some s/\∀j,j<k->ns[j]?≠some s:=by
 unfold cU sm
 cases hf:ns.findIdx? (λy=>decide (y=s))with
 | none=>grind
 | some k=>
  obtain⟨h1,h2,h3⟩:=List.findIdx?_eq_some_iff_getElem.1 hf
  grind
def pW{ns:List ByteArray}{s:ByteArray}{k:Nat}(h:s∈ns):cU ns s<k↔s∈ns.take k:=by
 obtain⟨j,h1,h2,h3⟩:=lX h
 rw[h1]
 constructor
 .intro B;exact yp.2 ⟨j,dD⟩
 intro u
 obtain⟨i,hi⟩:=yp.1 u
 grind
theorem nodup_iff(ns:List ByteArray):ns.Nodup↔∀(k:Nat) (s:ByteArray),ns[k]?=some s->s ∉ ns.take k:=by
 unfold List.Nodup
 rw[QO]
 constructor
 .intro h k s I u
  obtain⟨i,hi⟩:=yp.1 u
  grind
 intro h i j hi E B G
 exact h j _ (kX E) (yp.2 ⟨i,dD⟩)
theorem zO(l:List cJ):kx l=true↔¬ (l.map cJ.name).Nodup:=by
 rw[nodup_iff]
 unfold kx
 rw[xo]
 constructor
 .rintro⟨j,B,h⟩ E
  have B:=Lx.1 B
  have J:l[j]?=some l[j]:=kX B
  rw[yk J,decide_eq_true_iff]at h
  have u:(l[j]).name∈l.map cJ.name:=oj.2 ⟨_,aam B,rfl⟩
  exact E j _ dD ((pW u).1 h)
 intro E
 apply g7
 intro hc
 refine E λk s I u=>hc ⟨k,?_,?_⟩
 .grind
 rw[pd]at I
 obtain⟨c,G,rfl⟩:=H4.1 I
 rw[yk G,decide_eq_true_iff]
 exact(pW (wF u)).2 u
def Mw(p:cE)(rs:List ByteArray):uR p rs=true↔¬ rs.Nodup\/∃s∈rs,s∈cT p\/s∈cM p:=by
 rw[nodup_iff]
 unfold uR
 rw[xo]
 constructor
 .rintro⟨j,u,h⟩
  have u:=Lx.1 u
  have G:rs[j]?=some rs[j]:=kX u
  have E:=aam u
  rw[A0 G]at h
  simp only[xh,decide_eq_true_eq,dJ]at h
  rcases h with(h|h)|h
  .exact .inl λB=>B j _ G ((pW E).1 h)
  .grind
  grind
 intro B
 rcases B with B|⟨s,J,hc⟩
 .apply g7
  intro hc
  refine B λk s I E=>hc ⟨k,Lx.2 (kp.1 I).1,?_⟩
  rw[A0 I]
  simp only[xh,decide_eq_true_eq]
  exact .inl (.inl ((pW (wF E)).2 E))
 obtain⟨j,u⟩:=yp.1 J
 refine⟨j,Lx.2 (kp.1 u).1,?_⟩
 rw[A0 u]
 simp only[xh,decide_eq_true_eq,dJ]
 rcases hc with hc|hc
 .exact .inl (.inr hc)
 exact .inr hc
def nmQ(p:cE):List (ByteArray×Int×Int):=VB p++(Um p++VC p)
theorem Sy(p:cE):CL p=z8 (nmQ p) ([],false,0):=by simp_all[SI,CL,z8,nmQ]
theorem Ch(p:cE):(nmQ p).map (·.1)=(fP p).map cJ.name:=by
 unfold nmQ VB Um VC fP
 rw[<- Ba]
 simp only[vA,I7,n3]
 rfl
theorem YO(p:cE):∀q∈nmQ p,q.2.1≠0:=by
 intro q u
 unfold nmQ VB Um VC CK at u
 grind
theorem YP:∀(l:List (ByteArray×Int×Int)) (st:List SI×Bool×Int),(∀q∈l,q.2.1≠0)->
  ((z8 l st).2.1=true↔st.2.1=true\/¬ (l.map (·.1)).Nodup\/∃q∈l,eH st.1 q.1≠0)
 | [],st,_=>by simp[z8]
 | q::r,st,hz=>by
  have E:=YP r (YH st q) λq B=>hz q (qX _ B)
  have u:=hz q (o1 ..)
  have e:z8 (q::r) st=z8 r (YH st q):=rfl
  rw[e,E]
  show twN st.1 q.1 st.2.1=true\/_\/(∃x∈r,eH (zN st.1 q.1 q.2.1) x.1≠0)↔_
  unfold twN
  rw[K0,I4]
  simp only[xh,decide_eq_true_eq,Cd,oj,sl]
  grind
theorem YQ(p:cE):(CL p).2.1=kx (fP p):=by
 rw[IK,Sy,YP _ _ (YO p),zO,Ch]
 simp[eH]
theorem PQ:∀(l:List (ByteArray×Int×Int)) (st:List SI×Bool×Int) (n:ByteArray),n ∉ l.map (·.1)->eH (z8 l st).1 n=eH st.1 n
 | [],_,_,_=>rfl
 | q::r,st,n,h=>by
  rw[K0,sl,not_or]at h
  have e:z8 (q::r) st=z8 r (YH st q):=rfl
  rw[e,PQ r _ n h.2]
  show eH (zN st.1 q.1 q.2.1) n=_
  rw[Cd,ej λu=>h.1 u.symm]
theorem Fm:∀(l:List (ByteArray×Int×Int)) (st:List SI×Bool×Int) (q:ByteArray×Int×Int),(l.map (·.1)).Nodup->q∈l->eH (z8 l st).1 q.1=q.2.1
 | x::r,st,q,hn,h=>by
  rw[K0,I4]at hn
  have e:z8 (x::r) st=z8 r (YH st x):=rfl
  rw[e]
  rcases sl.1 h with rfl|h
  .rw[PQ r _ _ hn.1]
   show eH (zN st.1 q.1 q.2.1) q.1=_
   rw[Cd,ew rfl]
  .exact Fm r _ q hn.2 h
theorem YR:∀(l:List (ByteArray×Int×Int)) (st:List SI×Bool×Int),(∀q∈l,q.2.1≠0)->(∀e∈st.1,e.2≠0)->∀e∈(z8 l st).1,e.2≠0
 | [],_,_,h=>h
 | q::r,st,hz,h=>YR r (YH st q) (λq u=>hz q (qX _ u)) (adK h (hz q (o1 ..)))
def PR(p:cE):∀e∈(CL p).1,e.2≠0:=by
 rw[Sy];exact YR _ _ (YO p) λe u=>by cases u
theorem YS:∀(ls:List (List cJ)) (k:Int) (q:cJ×Int),q∈PN k ls->k<=q.2/\q.2<k+ls.length
 | [],_,_,h=>by cases h
 | l::r,k,q,h=>by
  unfold PN at h
  rcases pU.1 h with h|h
  .grind
  .have:=YS r (k+1) q h;simp;omega
theorem YT:∀(vs:List cJ) (k:Int) (q:cJ×Int),q∈Od k vs->k<=q.2
 | [],_,_,h=>by cases h
 | v::r,k,q,h=>by
  unfold Od at h
  rcases sl.1 h with rfl|h
  .omega
  .have:=YT r (k+1) q h;omega
def tJ(p:cE):List ByteArray:=p.iR.map cJ.name
def adU(p:cE):List ByteArray:=p.threads.map cN.name
theorem Mx(p:cE):gn p=p.lines.flatten.map cJ.name:=by
 unfold gn cT iu ey
 rw[vA,qa,List.take_left' dD]
theorem qH(p:cE):cT p=gn p++tJ p:=by
 rw[Mx];unfold cT iu tJ;grind
theorem Sz(p:cE):(fP p).map cJ.name=gn p++tJ p++(cM p++adU p):=by
 rw[<- qH];unfold fP cT cM adU
 simp_all
theorem SA{p:cE}(G:kx (fP p)=false)(s:ByteArray) :
  eH (CL p).1 s=if 0<=cU (gn p) s then 1 else if 0<=cU (tJ p) s then 2 else if 0<=cU (cM p) s then 3 else if 0<=cU (adU p) s then 4 else 0:=by
 have J:((fP p).map cJ.name).Nodup:=g7 λh=>by rw[(zO _).2 h]at G;cases G
 have B:((nmQ p).map (·.1)).Nodup:=by rw[Ch];exact J
 rw[Sy]
 by_cases h1:s∈gn p
 .rw[ew (dJ.2 h1)]
  rw[Mx,<- Jr p.lines 0]at h1
  obtain⟨c,hc,rfl⟩:=oj.1 h1
  obtain⟨q,u,rfl⟩:=oj.1 hc
  have E:(q.1.name,CK p q.2,q.1.at_)∈nmQ p:=List.mem_append_left _ (oj.2 ⟨q,List.mem_append_left _ u,rfl⟩)
  have M:=YS _ _ _ u
  exact(Fm _ _ _ B E).trans (ej cK)
 rw[ej λh=>h1 (dJ.1 h)]
 by_cases h2:s∈tJ p
 .rw[ew (dJ.2 h2)]
  unfold tJ at h2
  rw[<- Js p.iR p.lines.length]at h2
  obtain⟨c,hc,rfl⟩:=oj.1 h2
  obtain⟨q,u,rfl⟩:=oj.1 hc
  have E:(q.1.name,CK p q.2,q.1.at_)∈nmQ p:=List.mem_append_left _ (oj.2 ⟨q,List.mem_append_right _ u,rfl⟩)
  have I:=YT _ _ _ u
  exact(Fm _ _ _ B E).trans (ew I)
 rw[ej λh=>h2 (dJ.1 h)]
 by_cases h3:s∈cM p
 .rw[ew (dJ.2 h3)]
  obtain⟨c,hc,rfl⟩:=oj.1 h3
  exact Fm _ _ (c.name,3,c.at_) B (List.mem_append_right _ (List.mem_append_left _ (oj.2 ⟨c,hc,rfl⟩)))
 rw[ej λh=>h3 (dJ.1 h)]
 by_cases h4:s∈adU p
 .rw[ew (dJ.2 h4)]
  obtain⟨t,ht,rfl⟩:=oj.1 h4
  exact Fm _ _ (t.name,4,t.at_) B (List.mem_append_right _ (List.mem_append_right _ (oj.2 ⟨t,ht,rfl⟩)))
 rw[ej λh=>h4 (dJ.1 h),PQ _ _ _ (by rw[Ch,Sz];grind)]
 rfl
def Fo{α:Type}{l:List α}{f g:α->Bool}(h:∀x∈l,f x=g x):l.any f=l.any g:=by
 grind
theorem Up{g:List SI}{n k:ByteArray}{v:Int}(B:∀e∈g,e.2≠0)(h:eH g n=0):eH (g++[(n,v)]) k=if n=k then v else eH g k:=by
 induction g with
 | nil=>simp_all[eH,SI]
 | cons e r G=>
  have u:=B e (o1 ..)
  have E:¬ e.1=n:=λJ=>by
   have:eH (e::r) n=e.2:=by simp_all[eH,SI]
   omega
  have I:eH r n=0:=by
   grind[eH]
  show(if e.1=k then e.2 else eH (r++[(n,v)]) k)=if n=k then v else(if e.1=k then e.2 else eH r k)
  grind
theorem Hv:∀(ns:List ByteArray) (g:List SI),(∀e∈g,e.2≠0)->
  (Fl g ns=none/\(¬ ns.Nodup\/∃s∈ns,eH g s≠0))\/∃I,Fl g ns=some I/\ns.Nodup/\(∀s∈ns,eH g s=0)/\∀s,eH I s=if 0<=cU ns s then 5 else eH g s
 | [],g,_=>.inr ⟨g,rfl,List.nodup_nil,λs h=>(by cases h),λs=>by rw[ej];exactλh=>by cases dJ.1 h⟩
 | n::r,g,hz=>by
  unfold Fl
  split
  .rename_i hl
   have J:∀e∈g++[(n,(5:Int))],e.2≠0:=by
    grind
   have B:=λk=>Up (k:=k) (v:=5) hz hl
   rcases Hv r _ J with⟨h1,h2⟩|⟨I,h1,h2,h3,h4⟩
   .grind
   .have E:n ∉ r:=λM=>dD
    refine .inr ⟨I,h1,I4.2 ⟨E,h2⟩,λs u=>?_,λs=>?_⟩
    .rcases sl.1 u with rfl|u
     .exact hl
     .have:=h3 s u;rw[B,ej λe:n=s=>E (e▸u)]at this;exact this
    .rw[h4,B]
     by_cases u:s∈r
     .rw[ew (dJ.2 u),ew (dJ.2 (qX _ u))]
     .rw[ej λh=>u (dJ.1 h)]
      by_cases G:n=s
      .rw[ew G,ew (dJ.2 (by rw[G];exact o1 ..))]
      .rw[ej G,ej λh=>(sl.1 (dJ.1 h)).elim (λe=>G e.symm) u]
  grind
theorem My{l:List SI}(u:(l.map (·.1)).Nodup)(s:ByteArray):eH (l.filter λp=>decide (¬ p.2=4)) s=if eH l s=4 then 0 else eH l s:=by
 induction l with
 | nil=>rfl
 | cons e r B=>
  rw[K0,I4]at u
  have B:=B u.2
  have J:e.1=s->eH r s=0:=λh=>zF λq E I=>u.1 (oj.2 ⟨q,E,dD⟩)
  have G:eH (e::r) s=if e.1=s then e.2 else eH r s:=rfl
  rw[List.filter_cons,G]
  by_cases h4:e.2=4
  .grind
  .rw[ew (by simp[h4])]
   show(if e.1=s then e.2 else eH _ s)=_
   grind
def YU{l:List SI}{k:ByteArray}{v:Int}(h:(l.map (·.1)).Nodup):((zN l k v).map (·.1)).Nodup:=by
 unfold zN
 grind
theorem YV(p:cE):((CL p).1.map (·.1)).Nodup:=by
 rw[Sy]
 have:∀(l:List (ByteArray×Int×Int)) (st:List SI×Bool×Int),(st.1.map (·.1)).Nodup->((z8 l st).1.map (·.1)).Nodup:=by
  intro l
  induction l with
  | nil=>intro st h;exact h
  | cons q r u=>intro st h;exact u (YH st q) (YU h)
 grind
theorem Jw{p:cE}(J:kx (fP p)=false)(rs:List ByteArray) :
  (Uo (CL p).1 rs=none/\uR p rs=true)\/∃g,Uo (CL p).1 rs=some g/\uR p rs=false/\(∀s∈rs,s ∉ cT p/\s ∉ cM p)/\
   ∀s,eH g s=if 0<=cU rs s then 5 else if 0<=cU (gn p) s then 1 else if 0<=cU (tJ p) s then 2 else if 0<=cU (cM p) s then 3 else 0:=by
 have G:∀s,eH ((CL p).1.filter λp=>decide (¬ p.2=4)) s=if 0<=cU (gn p) s then 1 else if 0<=cU (tJ p) s then 2 else if 0<=cU (cM p) s then 3 else 0:=by
  intro s
  rw[My (YV p),SA J]
  omega
 have hc:∀s,eH ((CL p).1.filter λp=>decide (¬ p.2=4)) s≠0↔(s∈cT p\/s∈cM p):=by
  intro s
  rw[G,qH,pU,<- dJ (ns:=gn p),<- dJ (ns:=tJ p),<- dJ (ns:=cM p)]
  omega
 unfold Uo
 rcases Hv rs ((CL p).1.filter λp=>decide (¬ p.2=4)) (λe I=>PR p e (M8.1 I).1)with⟨h1,h2⟩|⟨g,h1,h2,h3,h4⟩
 .refine .inl ⟨h1,(Mw p rs).2 ?_⟩
  grind
 have E:∀s∈rs,s ∉ cT p/\s ∉ cM p:=λs u=>by
  have h:=h3 s u
  exact⟨λB=>(hc s).2 (.inl B) h,λB=>(hc s).2 (.inr B) h⟩
 refine .inr ⟨g,h1,?_,E,λs=>by rw[h4,G]⟩
 cases hr:uR p rs with
 | false=>rfl
 | true=>
  rcases(Mw p rs).1 hr with h|⟨s,u,h⟩
  .grind
  .rcases h with h|h
   .exact absurd h (E s u).1
   .exact absurd h (E s u).2
def C5(g:List SI)(u:UU):Bool:=!u.2.2.any λm=>decide (m=eH g u.1)
theorem Mz{g:List SI}{rs:List ByteArray}(l:List cA)(h:∀s,eH g s=5↔s∈rs):(Ce l).any (C5 g)=pa l rs:=by
 rw[IK]
 unfold Ce qG pa C5
 simp only[List.any_map,xo,M8,Function.comp_apply,SP,Zp,SS,sk,decide_eq_false_iff_not,ob,decide_eq_true_eq,Bb]
 grind
def PU(p:cE)(s:ByteArray):s∈gn p↔0<=cU (cT p) s/\cU (cT p) s<ey p:=by
 rw[dJ,show gn p=(cT p).take (ey p).toNat from rfl]
 have B:0<=ey p:=by unfold ey;omega
 constructor
 .intro h
  have u:=wF h
  have:=(pW u).2 h
  exact⟨u,cK⟩
 rintro⟨h1,h2⟩;exact(pW h1).1 cK
theorem aqv(k:Int):eU (fG k) 110=decide (k=2\/k=3\/k=4\/k=5\/k=6\/k=9\/k=10):=by
 unfold fG
 split
 .rw[fN cK];decide
 rename_i h
 obtain rfl|rfl|rfl|rfl|rfl|rfl|rfl|rfl|rfl|rfl|rfl|rfl|rfl|rfl:k=1\/k=2\/k=3\/k=4\/k=5\/k=6\/k=7\/k=8\/k=9\/k=10\/k=11\/k=12\/k=13\/k=14:=cK
 all_goals decide
theorem MA:gK ⟨#[]⟩=false:=ee
def adV{p:cE}{rs:List ByteArray}{g:List SI}(J:∀s∈rs,s ∉ cT p/\s ∉ cM p)(M:∀s∈cT p,s ∉ cM p)(U:∀s∈gn p,s ∉ tJ p)
  (B:∀s,eH g s=if 0<=cU rs s then 5 else if 0<=cU (gn p) s then 1 else if 0<=cU (tJ p) s then 2 else if 0<=cU (cM p) s then 3 else 0) {x:bQ}(E:ao6 x) :
  (Cf x).any (C5 g)=nc p rs x:=by
 have I:∀s,eH g s=5↔s∈rs:=λs=>by
  rw[B,<- dJ];omega
 have W:∀s,eH g s=1↔s∈gn p:=λs=>by
  rw[B,<- dJ]
  split
  .rename_i h
   have:=J s (dJ.1 h)
   rw[qH,pU]at this
   refine⟨λh=>(by cases h),λh=>absurd (dJ.1 h) λu=>this.1 (.inl u)⟩
  omega
 have V:∀s,eH g s=2↔s∈tJ p:=λs=>by
  rw[B]
  split
  .rename_i h
   have:=J s (dJ.1 h)
   rw[qH,pU]at this
   grind
  .split
   .grind
   .rw[<- dJ];omega
 have O:∀s,eH g s=3↔s∈cM p:=λs=>by
  rw[B]
  split
  .grind
  .split
   .rename_i h;exact⟨λh=>(by cases h),λu=>absurd u (M s (by rw[qH];grind))⟩
   .split
    .rename_i h;exact⟨λh=>(by cases h),λu=>absurd u (M s (by rw[qH];grind))⟩
    .rw[<- dJ];omega
 have G:=E.name
 rw[aqv]at G
 rw[Cg,SW,SW,SW,Mz x.e I,Mz x.f I]
 have Y:(sF x).any (C5 g)=(decide (¬ x.eF=⟨#[]⟩)&&decide (cU rs x.eF<0)):=by
  unfold sF
  split
  .grind
  .rename_i h
   rw[ez h,yU,IK]
   simp only[SP,Zp,SS,C5,sk,decide_eq_false_iff_not,decide_eq_true_eq,Bb]
   grind
 have Z:(ue x).any (C5 g)=(((decide (x.kind=2)||decide (x.kind=3)||decide (x.kind=4))&&decide (cU (cT p) x.name<0)) ||
   ((decide (x.kind=5)||decide (x.kind=6))&&(decide (cU (cT p) x.name<0)||decide (ey p<=cU (cT p) x.name))) ||
   ((decide (x.kind=9)||decide (x.kind=10))&&decide (cU (cM p) x.name<0))):=by
  have hk:=E.kind
  unfold ue
  split
  .rename_i h
   have xl:¬ (x.kind=2\/x.kind=3\/x.kind=4\/x.kind=5\/x.kind=6\/x.kind=9\/x.kind=10):=by
    intro u
    rcases G with⟨_,h2⟩|⟨h1,_⟩
    .rw[h,MA]at h2;cases h2
    grind
   grind
  .rename_i h
   have xl:x.kind=2\/x.kind=3\/x.kind=4\/x.kind=5\/x.kind=6\/x.kind=9\/x.kind=10:=by
    grind
   have hc:=PU p x.name
   rw[IK]
   unfold Jv
   simp only[SP,Zp,SS,C5,sk,xh,ob,decide_eq_true_eq,Bb]
   have e1:=W x.name;have e2:=V x.name;have e3:=O x.name
   have ec:x.name∈cT p↔x.name∈gn p\/x.name∈tJ p:=by rw[qH,pU]
   have pn:=dJ (ns:=cT p) (s:=x.name)
   grind
 rw[Y,Z]
 unfold nc
 grind
def MC{p:cE}(B:kx (fP p)=false):(∀s∈cT p,s ∉ cM p)/\∀s∈gn p,s ∉ tJ p:=by
 have E:((fP p).map cJ.name).Nodup:=g7 λh=>by rw[(zO _).2 h]at B;cases B
 rw[Sz,Zq]at E
 obtain⟨h1,h2,h3⟩:=E
 rw[Zq]at h1
 exact⟨λs u G=>h3 s (by rw[<- qH];exact u) s (List.mem_append_left _ G) rfl,λs u I=>h1.2.2 s u s I rfl⟩
def YW{p:cE}{t:cN}{g:List SI}(u:kx (fP p)=false)(J:Uo (CL p).1 t.dQ=some g)(I:∀x∈t.body,m9 x=true):(oJ t.body).any (C5 g)=t.body.any (nc p t.dQ):=by
 rcases Jw u t.dQ with⟨h1,_⟩|⟨M,h1,h2,h3,h4⟩
 .grind
 rw[J]at h1;cases h1
 obtain⟨G,E⟩:=MC u
 unfold oJ
 rw[List.any_flatMap]
 refine Fo λx B=>adV h3 G E h4 (yj (I x B))
def PV{p:cE}(u:kx (fP p)=false)(l:List cA):(l.any λx=>decide (x.op=2)&&decide (¬ eH (CL p).1 x.name=1))=pa l (gn p):=by
 unfold pa
 refine Fo λx _=>?_
 congr 1
 refine ga.2 ?_
 rw[Bb,SA u,<- dJ]
 omega
variable (w:World) (K:Value->hM)
def S48(p0:Value):Prop:=
 qZ hH (zx 27 p0) w λp1 a=>aL 31 a λb c=>aL 3 c λd e=>lA 27 p1 e λf=>cF 107 [f] e λg h=>xT g 0 λj=>xT g 1 λk=>xT g 2 λl=>lA 27 p1 h λn=>
 cF 108 [n] h λo p=>eP hH (Op.unary .not o) λq=>cV q (sA 31 b (i 8) p λs=>sA 3 d (i 0) s λt=>lA 31 b t λr=>lA 3 d t λGj=>K (.tuple #[r,Gj]) t) (lA 27 p1 p λu=>
 cF 109 [u] p λv x=>cV v (sA 31 b (i 2) x λy=>sA 3 d (i 0) y λz=>lA 31 b z λKG=>lA 3 d z λr_3=>K (.tuple #[KG,r_3]) z) (lA 27 p1 x λaa=>cF 110 [aa] x λab ac=>
 lN 24 ab λad=>kK (λK1 ae O=>∀_:Env,
 bA .lss 3 ae ad λag=>cV ag (iA 24 ab ae λah=>lA 146 ah O λai=>aL 146 O λt8 aj=>sA 146 t8 ai aj λak=>fA 146 t8 2 λal=>lA 141 al ak λam=>cF 111 [am,(i 1)] ak λan ao=>
 xT an 0 λap=>xT an 1 λaq=>cV aq (sA 31 b (i 11) ao λar=>sA 3 d ap ar λI=>lA 31 b I λr_4=>lA 3 d I λr_5=>K (.tuple #[r_4,r_5]) I) (bB .add 3 ae (i 1) λau=>
 K1 au ao)) (cV l (sA 31 b (i 10) O λav=>sA 3 d k av λaw=>lA 31 b aw λr_6=>lA 3 d aw λr_7=>K (.tuple #[r_6,r_7]) aw) (lA 27 p1 O λax=>cF 110 [ax] O λay az=>
 lN 24 ay λa0=>kK (λK2 a2 Y=>∀_:Env,
 bA .lss 3 a2 a0 λa4=>cV a4 (iA 24 ay a2 λa5=>lA 146 a5 Y λa6=>aL 146 Y λE a7=>sA 146 E a6 a7 λa8=>lA 146 E a8 λa9=>cF 112 [a9,j] a8 λba bb=>xT ba 0 λ_=>
 xT ba 1 λbc=>cV bc (fA 146 E 3 λbd=>lA 3 bd (drew bb) λbe=>sA 31 b (i 10) (drew bb) λbf=>kA 3 bd be bf (sA 3 d be bf λbg=>lA 31 b bg λr_8=>lA 3 d bg λr_9=>
 K (.tuple #[r_8,r_9]) bg)) (bB .add 3 a2 (i 1) λbh=>K2 bh bb)) (lA 27 p1 Y λbi=>cF 110 [bi] Y λbj bk=>lN 24 bj λbl=>oq (λK3 ds bm Z=>∀_:Env,
 bA .lss 3 bm bl λbo=>cV bo (iA 24 bj bm λbp=>lA 146 bp Z λbq=>aL 146 Z λG br=>sA 146 G bq br λbs=>lA 146 G bs λbt=>cF 112 [bt,j] bs λbu bv=>xT bu 0 λbw=>
 xT bu 1 λ_=>aL 165 bv λV bx=>sA 165 V bw bx λbz=>fA 146 G 2 λb0=>lA 141 b0 bz λb1=>cF 113 [b1] bz λb2 b3=>Ai hH b2 1 b3 (λa1 b4 B1 R1=>
 aL 177 b4 λB b5=>sA 177 B (D4 a1 0) b5 λb6=>B1 b6 λM=>fA 177 B 2 λb8=>lA 41 b8 M λb9=>lA 165 V M λca=>fA 177 B 0 λcb=>lA 9 cb M λcc=>
 Ke hH (x6 165 ca cc false) M λcd=>cF 114 [b9,cd] M λce cf=>eP hH (Op.unary .not ce) λcg=>cV cg (fA 177 B 1 λch=>lA 3 ch (drew cf) λci=>
 sA 31 b (i 9) (drew cf) λcj=>kA 3 ch ci cj (sA 3 d ci cj λck=>R1 (some .ret) ck)) (R1 none cf)) (aft (λD cl=>bB .add 3 bm (i 1) λcm=>K3 (lJ (D::(Ah ds))) cm cl)
 (λD cn=>mS (D::(Ah ds)) cn λco=>lA 31 b co λaxb=>lA 3 d co λaxc=>K (.tuple #[axb,axc]) co) λ_ _ _=>False)) (fA 27 p1 5 λcp=>lA 25 cp Z λcq=>
 lN 25 cq λcr=>kK (λK4 cs ct=>∀_:Env,
 bA .lss 3 cs cr λcu=>cV cu (iA 25 cq cs λcv=>lA 85 cv ct λcw=>aL 85 ct λJ cx=>sA 85 J cw cx λcy=>fA 85 J 0 λcz=>lA 82 cz cy λc0=>lN 82 c0 λc1=>
 kK (λK5 c2 c3=>∀_:Env,
 bA .lss 3 c2 c1 λc4=>cV c4 (iA 82 c0 c2 λc5=>lA 164 c5 c3 λc6=>aL 164 c3 λW c8=>sA 164 W c6 c8 λU=>eT (λK6=>fA 164 W 0 λda=>lA 3 da U λdb=>
 bB .eql 3 db (i 2) λdc=>cV dc (fA 164 W 2 λdd=>lA 9 dd U λde=>Ke hH (x6 165 j de false) U λdf=>bB .neq 3 df (i 1) λdg=>K6 dg U) (K6 ff U))
 (λdh di=>∀_:Env,
 cV dh (fA 164 W 3 λdj=>lA 3 dj (drew di) λdk=>sA 31 b (i 9) (drew di) λdl=>kA 3 dj dk dl (sA 3 d dk dl λdm=>mS (Ah ds) dm λdn=>lA 31 b dn λaxd=>lA 3 d dn λaxe=>
 K (.tuple #[axd,axe]) dn)) (bB .add 3 c2 (i 1) λdp=>K5 dp di))) (bB .add 3 cs (i 1) λdq=>K4 dq c3)) λK5=>K5 (i 0) cy) (sA 31 b (i 0) ct λdr=>sA 3 d (i 0) dr λdt=>
 mS (Ah ds) dt λdu=>lA 31 b du λaxf=>lA 3 d du λaxg=>K (.tuple #[axf,axg]) du)) λK4=>K4 (i 0) Z)) λK3=>K3 (lJ []) (i 0) bk)) λK2=>K2 (i 0) az)))
 λK1=>K1 (i 0) ac))
def P48:dI:=λi=>match i with
 | 20=>(.of [(0,[]),(1,[]),(2,[1]),(3,[])])
 | 29=>(.of [(0,[]),(1,[]),(2,[1]),(3,[])])
 | 38=>(.of [(0,[]),(1,[]),(2,[1]),(3,[])])
 | _=>.nil
theorem ajd(p0:Value)(h:S48 w K p0):CR 48 [p0] w K:=
 qm 128 P48 12 [.cell 2 31,.cell 3 3] Tryz.func48 h
theorem axh:PL 48:=dK Tryz.func48
theorem aqx:PL 114:=dK Tryz.func114
theorem aqy:PL 194:=dK Tryz.func194
end Go.Proofs.YtpdlpabnlkofmaaGreatDoor
namespace Go.Proofs.YtpdlpabnlkofmaaGreatDoor
open Go.Fw
def C194(sv:Value)(ns:List Int)(s:Int)(w:World)(J:dC (λ_=>True) w sv ns)(O:ns.length<=1048576):CR 194 [sv,hZ s] w (λv w'=>v=hZ (sm (λy=>decide (y=s)) ns)/\Ext w w'):=by
 have u:=St.start w;refine fg Tryz.func194 ?_;refine aK cS (J.ext u.aG) ?_;refine⟨λm x I=>∃k:Nat,x=hZ (k:Int)/\m=ns.length-k/\k<=ns.length/\(∀y∈ns.take k,decide (y=s)=false)/\St w aZ [] I,⟨_,0,rfl,rfl,l1 _,ei,u⟩,?_⟩;rintro m _ I ⟨k,rfl,rfl,U,B,u⟩ _;refine aR (aC (λV=>?_) λ_=>⟨gO (ni .i64) (jh (by rw[kO cK]at B;exact B)).symm,u.aG⟩);obtain⟨W,G⟩:=gx ns (i:=(k:Int).toNat) cK;exact aQ cS J cK G (λ_ M=>aD bM (M.ext u.aG) (aH (aC (λE=>⟨gO (ni .i64) (me B G (ez E.symm)).symm,u.aG⟩) λE=>aN cK ⟨_,cK,k+1,rfl,rfl,cK,dZ B G (fN λh=>E h.symm),u⟩)))
def C114(sv:Value)(ns:List Int)(s:Int)(w:World)(B:dC (λ_=>True) w sv ns)(E:ns.length<=1048576):CR 114 [sv,hZ s] w (λv w'=>v=.bool (ns.any λy=>decide (y=s))/\Ext w w'):=by
 have u:=St.start w;refine fg Tryz.func114 ?_;exact aV aqy u (C194 _ _ _ _ (B.ext u.aG) cK) (λ_ _ u=>cR ⟨vb (kU _ _),u.aG⟩)
def YX{u:UU}{l:List bQ}(h:u∈oJ l):u.2.2.length<=1048576:=by
 have:u.2.2.length<=2:=by
  unfold oJ at h
  obtain⟨x,_,h⟩:=List.mem_flatMap.1 h
  rw[Cg]at h
  unfold sF ue Ce Jv at h
  simp only[pU]at h
  grind
 omega
theorem C48(p:cE)(pv:bP)(w:World)(hp:mh w pv p)(Z:PZ p):CR 48 [ia pv] w (λv w'=>∃a:Int,v=.tuple #[hZ (fm p),hZ a]/\Ext w w'):=by
 have Of:=hp;have aiJ:=Dx Z.toPS;obtain⟨bK,bU,bL,aW,aX,bG,rfl,cQ,dG,cW,cC,cD,cP⟩:=hp;obtain⟨U,Yt,Yu⟩:=cC.open;obtain⟨O,Pz,hD4⟩:=cD.open;have hn3:=Yu.1;have hn4:=hD4.1;have hD:=Yu.append hD4;have axi:=hD.1
 change (U++O).length=(gm p).length at axi
 have E:=St.start w;refine ajd _ _ _ ?_;unfold S48;refine cI E (λbp w1 E=>gC E ahM rfl λb2 _ E=>gC E uA rfl λb3 _ E=>aD er E.p2.At (dO aqm (C107 p _ _ (Lv Of E.aG) Z) ?_));rintro _ _ ⟨bm,rfl,cL⟩;have E:=E.made cL;refine aO rfl (aO rfl (aO rfl (aD er E.p3.At (aV aoO E (C108 p _ _ (Lv Of E.aG) Z) λ_ he E=>bR (aY (λc=>?_) λc=>?_)))))
 .have h1:kr p=false:=by simpa using c
  have V:fm p=8:=ce8 h1;exact aT E.p2 jN (dL rfl) rfl (λ_ E=>aT E.p2 bM (dL rfl) rfl λ_ E=>aB jN E.p1.hb rfl (aB bM E.hb rfl ⟨_,by rw[V],E.aG⟩))
 have h1:kr p=true:=by simpa using c
 refine aD er E.p3.At (aV aqb E (C109 p _ _ (Lv Of E.aG) Z) λ_ he E=>aY (λc=>?_) λc=>?_)
 .have h2:uS p=true:=c;have V:fm p=2:=ce2 h1 h2;exact aT E.p2 jN (dL rfl) rfl (λ_ E=>aT E.p2 bM (dL rfl) rfl λ_ E=>aB jN E.p1.hb rfl (aB bM E.hb rfl ⟨_,by rw[V],E.aG⟩))
 have h2:uS p=false:=c;refine aD er E.p3.At (dY Sr E (C110 p _ U O _ (Lv Of E.aG) (Yt.ext E.aG) (Pz.ext E.aG) (by have:=Z.threads;omega) (by have:=Z.recover;omega)) λx38 w38 cL E=>aK fy E.dX ?_);refine⟨λm x w1=>∃k:Nat,x=hZ (k:Int)/\m=(U++O).length-k/\k<=(U++O).length/\(∀y∈(gm p).take k,rj y.body=false)/\St w aZ [bH x38 (U++O),nq bm (CL p).1,bY b3 [hZ 0],bY b2 [hZ 0],bY bp (j0 (⟨bK,bU,bL,aW,aX,bG⟩:bP))] w1,⟨_,0,rfl,rfl,l1 _,ei,E⟩,?_⟩;rintro m _ _ ⟨k,rfl,rfl,hk,I,E⟩ _
 refine aR (aC (λc=>?_) λc=>?_)
 .obtain⟨t,ht⟩:=gx (U++O) (i:=((k:Nat):Int).toNat) cK;obtain⟨r,G⟩:=gx (gm p) (i:=k) cK;have J:=kE G;have hrz:=Z.qS J;have hrr:=(qD h1).qS J;obtain⟨gr,gb,rfl,dr,db⟩:=hD.2 _ _ _ ht G;have hrs:=lx hrr.2.1;refine aQ fy E.dX cK ht (λq hq=>aD m7 hq (aM E tC λbt wt E=>aI (x:=(⟨r.name,gr,gb,r.at_⟩:cH)) E m7 rfl rfl λwu E=>?_));obtain⟨apy,hbf,tb,hbt,iV,_,_⟩:=hrs;have N9:tb.len<=40:=by rw[<- Bk.cY,<- hbt];exact apy
  have YY:rj r.body=mG tb 1:=by rw[hbt];exact vv iV
  refine aA lK (aB (v:=ia gb) jP E.hb rfl (dO agJ (C111 _ tb 1 (tb.len+1) _ (by rw[<- hbt];exact DL.ext db E.aG) iV (by rw[<- hbt];exactλx hx=>Jg (hbf x hx)) cK cK (Nat.lt_succ_self _)) ?_));rintro _ _ ⟨aa,rfl,he⟩;have E:=E.ext he;refine aO rfl (aO rfl (aY (λc9=>?_) λc9=>?_))
  .have h3:(gm p).any (λt=>rj t.body)=true:=ic G (by rw[YY];exact c9);have V:fm p=11:=ao7 h1 h2 h3;exact aT E.p4 jN (dL rfl) rfl (λ_ E=>aT E.p4 bM (dL rfl) rfl λ_ E=>aB jN E.p1.hb rfl (aB bM E.hb rfl ⟨_,by rw[V],E.aG⟩))
  exact aN cK (have E:=E.drop;⟨_,cK,k+1,rfl,rfl,cK,dZ I G (by rw[YY];exact c9),E⟩)
 have h3:(gm p).any (λt=>rj t.body)=false:=iD (by rw[kO cK]at I;exact I);have E:=E.drop;refine aY (λc10=>?_) (λc10=>?_)
 .have h4:kx (fP p)=true:=by rw[<- YQ];exact c10
  have V:fm p=10:=ao8 h1 h2 h3 h4;exact aT E.p2 jN (dL rfl) rfl (λ_ E=>aT E.p2 bM (dL rfl) rfl λ_ E=>aB jN E.p1.hb rfl (aB bM E.hb rfl ⟨_,by rw[V],E.aG⟩))
 have h4:kx (fP p)=false:=by rw[<- YQ];exact c10
 refine aD er E.p3.At (dY Sr E (C110 p _ U O _ (Lv Of E.aG) (Yt.ext E.aG) (Pz.ext E.aG) (by have:=Z.threads;omega) (by have:=Z.recover;omega)) λx56 _ cL E=>aK fy E.dX ?_)
 clear I
 refine⟨λm x w1=>∃k:Nat,x=hZ (k:Int)/\m=(U++O).length-k/\k<=(U++O).length/\(∀y∈(gm p).take k,uR p y.dQ=false)/\St w aZ [bH x56 (U++O),nq bm (CL p).1,bY b3 [hZ 0],bY b2 [hZ 0],bY bp (j0 (⟨bK,bU,bL,aW,aX,bG⟩:bP))] w1,⟨_,0,rfl,rfl,l1 _,ei,E⟩,?_⟩;rintro m _ _ ⟨k,rfl,rfl,hk,I,E⟩ _;refine aR (aC (λc=>?_) λc=>?_)
 .obtain⟨t,ht⟩:=gx (U++O) (i:=((k:Nat):Int).toNat) cK;obtain⟨r,G⟩:=gx (gm p) (i:=k) cK;have J:=kE G;have hrz:=Z.qS J;have hrr:=(qD h1).qS J;obtain⟨gr,gb,rfl,dr,db⟩:=hD.2 _ _ _ ht G;have hrs:=lx hrr.2.1;refine aQ fy E.dX cK ht (λq hq=>aD m7 hq (aM E tC λbt wt E=>aI (x:=(⟨r.name,gr,gb,r.at_⟩:cH)) E m7 rfl rfl λwu E=>aD m7 E.At (dO agM (C112 (⟨r.name,gr,gb,r.at_⟩:cH) r.dQ bm (CL p).1 _ (DL.flat (DL.ext dr E.aG)) E.p2.nq (PR p) cK) ?_)))
  rcases Jw h4 r.dQ with⟨BF,Gb⟩|⟨g,BF,Gb,_⟩
  .rintro _ w24 (⟨_,rfl,he⟩|⟨g,bg,Uh,_⟩);rotate_left
   .rw[BF]at Uh;cases Uh
   have E:=E.ext he;have h5:(gm p).any (λt=>uR p t.dQ)=true:=ic G Gb;refine aO rfl (aO rfl (iz (aA qt (have E:=E.drew;aB (v:=hZ r.at_) bM E.hb rfl ?_))));have V:fm p=10:=agw h1 h2 h3 h4 h5;refine aT E.p4 jN (dL rfl) rfl (λwa E=>?_);refine⟨aF bM (E.p1.hb.cell rfl),?_⟩;exact aT E.p4 bM (dL rfl) rfl (λ_ E=>aB jN E.p1.hb rfl (aB bM E.hb rfl ⟨_,by rw[V],E.aG⟩))
  rintro _ w24 (⟨Uh,_⟩|⟨g2,bg,Uh,rfl,cL⟩)
  .rw[BF]at Uh;cases Uh
  have E:=(E.made cL).drop.drop;exact aO rfl (aO rfl (ft (aN cK ⟨_,cK,k+1,rfl,rfl,cK,dZ I G Gb,E⟩)))
 have h5:(gm p).any (λt=>uR p t.dQ)=false:=iD (by rw[kO cK]at I;exact I);have E:=E.drop;refine aD er E.p3.At (dY Sr E (C110 p _ U O _ (Lv Of E.aG) (Yt.ext E.aG) (Pz.ext E.aG) (by have:=Z.threads;omega) (by have:=Z.recover;omega)) λx73 _ cL E=>aK fy E.dX ?_)
 clear I
 have E:=PO.nil E;refine⟨λm dv x w1=>∃(k:Nat) (ds:List Nat),dv=lJ ds/\x=hZ (k:Int)/\m=(U++O).length-k/\k<=(U++O).length/\(∀y∈(gm p).take k,y.body.any (nc p y.dQ)=false)/\St w aZ [PO ds,bH x73 (U++O),nq bm (CL p).1,bY b3 [hZ 0],bY b2 [hZ 0],bY bp (j0 (⟨bK,bU,bL,aW,aX,bG⟩:bP))] w1,⟨_,0,[],rfl,rfl,rfl,l1 _,ei,E⟩,?_⟩;rintro m _ _ _ ⟨k,ds,rfl,rfl,rfl,hk,I,E⟩ _;rw[BL];refine aR (aC (λc=>?_) λc=>?_)
 .obtain⟨t,ht⟩:=gx (U++O) (i:=((k:Nat):Int).toNat) cK;obtain⟨r,G⟩:=gx (gm p) (i:=k) cK;have J:=kE G;have hrz:=Z.qS J;have hrr:=(qD h1).qS J;obtain⟨gr,gb,rfl,dr,db⟩:=hD.2 _ _ _ ht G;have hrs:=lx hrr.2.1;refine aQ fy E.p1.dX cK ht (λq hq=>aD m7 hq (aM E tC λbt wt E=>aI (x:=(⟨r.name,gr,gb,r.at_⟩:cH)) E m7 rfl rfl λwu E=>?_))
  have h5r:uR p r.dQ=false:=by
   cases hh:uR p r.dQ with
   | false=>rfl
   | true=>exact absurd (ic (g:=λt:cN=>uR p t.dQ) G hh) (by rw[h5];decide)
  refine aD m7 E.At (dO agM (C112 (⟨r.name,gr,gb,r.at_⟩:cH) r.dQ bm (CL p).1 _ (DL.flat (DL.ext dr E.aG)) E.p3.nq (PR p) cK) ?_)
  rcases Jw h4 r.dQ with⟨_,Gb⟩|⟨g,BF,Gb,_⟩
  .rw[Gb]at h5r;cases h5r
  rintro _ w31 (⟨Uh,_⟩|⟨g2,bg,Uh,rfl,cL⟩)
  .rw[BF]at Uh;cases Uh
  obtain rfl:g=g2:=oi.inj (BF.symm.trans Uh);have E:=E.made cL;refine aO rfl (aO rfl (gC E RG rfl λb17 _ E=>aT E G5 (dL rfl) rfl λ_ E=>aA lK (aB (v:=ia gb) jP E.p2.hb rfl (dO aqp (C113 gb _) ?_))));rintro _ _ ⟨bu,rfl,aqz⟩;have E:=E.made aqz;have hbz:=hrz.1.2.2;have aqA:=YW h4 BF hrs.2.1;obtain⟨tsb,hRb,hDb⟩:=db.open
  refine YI (cap:=[.pointer (some ⟨bu,0,none⟩)]) (oJ r.body).length (Sw (oJ r.body)) aqq E
   (λj M=>(∀i,i<j->∀u,(oJ r.body)[i]?=some u->C5 g u=false)/\M=[bY bu [ia gb],bY b17 [.map (some bg)],nq bg g,bY bt (j0 (⟨r.name,gr,gb,r.at_⟩:cH)),PO ds,bH x73 (U++O),nq bm (CL p).1,bY b3 [hZ 0],bY b2 [hZ 0],bY bp (j0 (⟨bK,bU,bL,aW,aX,bG⟩:bP))])
   (λcx M=>cx=.ret/\(oJ r.body).any (C5 g)=true/\∃a L,M=bY b3 [hZ a]::bY b2 [hZ 9]::PO ds::L) ⟨λ_ hi=>absurd hi (Nat.not_lt_zero _),rfl⟩ (by rintro j a Φ ⟨u,s,_,rfl,_⟩;rfl) ?_ ?_ ?_ ?_ ?_ ?_
  .intro y Y Jx W h0 hy;refine(C192 y bu (ia gb) tsb r.body w aZ _ Jx W cK (λx hx=>⟨(hbz x hx).2.2.1,(hbz x hx).2.2.2.1⟩) ?_ ?_ hy).mono λ_ _ rr=>rr.mono λv W' h=>?_
   .rintro j _ W2 ⟨M,⟨_,rfl⟩,rfl⟩ hs2;exact⟨hs2.p1.hb.cell rfl,hRb.ext hs2.aG,hDb.ext hs2.aG⟩
   .obtain⟨M,h1,h2⟩:=h0;exact⟨_,⟨M,h1,rfl⟩,h2⟩
   rcases h with⟨_,⟨M,h1,rfl⟩,h2⟩|h
   .exact .inl ⟨M,h1,h2⟩
   exact .inr h
  .rintro j args Φ Y1 Y2 B Kr M W ⟨u,s,hu,rfl,Un⟩ ⟨hjn,rfl⟩ hΦ hB hN hR E;dsimp only[D4];refine aM E acn (λb9 _ E=>aI (x:=(⟨u.1,u.2.1,s⟩:Jt)) E anO rfl rfl λ_ E=>?_);refine hB _ _ _ E.p1 (λw38 E=>?_);refine aA Wq (aB (v:=ia s) eg E.p1.hb rfl (aB G5 E.p3.hb rfl (aA Wo (aB (v:=.string u.1) gw E.p1.hb rfl (yi E.p4.nq Tryz.underlying165 Tryz.underlying9 uA ?_)))))
   have Vq:dC (λ_=>True) w38 (ia s) u.2.2:=by
    obtain⟨F,h1,_⟩:=E.head;exact Un _ (hΦ _ _ h1)
   have hul:u.2.2.length<=1048576:=YX (kE hu);refine aV aqx E (C114 _ u.2.2 (eH g u.1) _ Vq hul) (λ_ he E=>bR (aY (λc11=>aA Wp (have E:=E.drew;aB (v:=hZ u.2.1) bM E.p1.hb rfl (have E:=E.p2.drop;aT E.p9 jN (dL rfl) rfl λ_ E=>⟨aF bM (E.p2.hb.cell rfl),aT E.p9 bM (dL rfl) rfl λ_ E=>hR .ret _ _ E.p7.p2.p2.p3 ⟨rfl,ic hu (by unfold C5;exact c11),_,_,rfl⟩⟩))) λc11=>?_));refine hN _ _ E.p1.drop ⟨λi hi u2 hu2=>?_,rfl⟩
   rcases Po i j with h|h
   .exact hjn i h u2 hu2
   obtain rfl:i=j:=cK
   rw[hu]at hu2;cases hu2
   unfold C5;exact c11
  .rintro D M W ⟨hjn,rfl⟩ E;refine aN cK ?_;have E:=St.join (H1:=nF D (.deferred (some []))) E.p1.drop.p1.drop.p1.drop.p1.drop;refine⟨_,cK,k+1,D::ds,rfl,rfl,rfl,cK,dZ I G ?_,E⟩;rw[<- aqA];refine iD λu hu=>?_;obtain⟨i,hi⟩:=yp.1 hu;exact hjn i (kp.1 hi).1 u hi
  .rintro D M W ⟨_,axm,a,L,rfl⟩ E;have h6:(gm p).any (λt=>t.body.any (nc p t.dQ))=true:=ic G (by rw[<- aqA];exact axm);have V:fm p=9:=ce9 h1 h2 h3 h4 h5 h6;have E:=St.join (H1:=nF D (.deferred (some []))) E.p3.p1;refine PO.take (D::ds) E (λ_ E=>?_);exact aB jN E.p1.hb rfl (aB bM E.hb rfl ⟨_,by rw[V],E.aG⟩)
  .rintro id D M W ⟨h,_⟩;cases h
  rintro cx M ⟨h,_⟩;exact .inr h
 have h6:(gm p).any (λt=>t.body.any (nc p t.dQ))=false:=iD (by rw[kO cK]at I;exact I);have E:=E.p1.drop;have hzc:=Z.dS;obtain⟨ts5,hR5,hD5⟩:=cP.open;have DD:=hD5.1;refine aA jw (aB (v:=ia bG) qQ E.p4.hb rfl (aK sX (hR5.ext E.aG) ?_))
 clear I
 refine⟨λm x w1=>∃k:Nat,x=hZ (k:Int)/\m=ts5.length-k/\k<=ts5.length/\(∀y∈p.dS.take k,pa y.e (gn p)=false)/\St w aZ [PO ds,nq bm (CL p).1,bY b3 [hZ 0],bY b2 [hZ 0],bY bp (j0 (⟨bK,bU,bL,aW,aX,bG⟩:bP))] w1,⟨_,0,rfl,rfl,l1 _,ei,E⟩,?_⟩;rintro m _ _ ⟨k2,rfl,rfl,xl,I,E⟩ _;refine aR (aC (λc12=>?_) λc12=>?_)
 .obtain⟨t,ht⟩:=gx ts5 (i:=((k2:Nat):Int).toNat) cK;obtain⟨r,G⟩:=gx p.dS (i:=k2) cK;have hrz:=Z.zc r (kE G);obtain⟨ge,rfl,de⟩:=hD5.2 _ _ _ ht G;have dE:=DL.flat de;refine aQ sX (hR5.ext E.aG) cK ht (λq hq=>aD IP hq (aM E OI λbc _ E=>aI (x:=(⟨ge,r.at_⟩:jA)) E IP rfl rfl λ_ E=>aA vl (aB (v:=ia ge) jx E.hb rfl (aK gX (dE.ext E.aG) ?_))));have hvc:=PV h4 r.e;refine⟨λm x w1=>∃j:Nat,x=hZ (j:Int)/\m=r.e.length-j/\j<=r.e.length/\(∀y∈r.e.take j,(decide (y.op=2)&&decide (¬ eH (CL p).1 y.name=1))=false)/\St w aZ [bY bc (j0 (⟨ge,r.at_⟩:jA)),PO ds,nq bm (CL p).1,bY b3 [hZ 0],bY b2 [hZ 0],bY bp (j0 (⟨bK,bU,bL,aW,aX,bG⟩:bP))] w1,⟨_,0,rfl,rfl,l1 _,ei,E⟩,?_⟩
  rintro m _ _ ⟨j,rfl,rfl,hj,hnj,E⟩ _;refine aR (aC (λc13=>?_) λc13=>?_)
  .obtain⟨y,hy⟩:=gx r.e (i:=((j:Nat):Int).toNat) cK;refine aQ gX (dE.ext E.aG) cK hy (λq hq=>aD r7 hq (aM E yc λby_ _ E=>aI (x:=y) E r7 rfl rfl λw50 E=>?_));refine⟨λjv w'=>jv=.bool (decide (y.op=2)&&decide (¬ eH (CL p).1 y.name=1))/\w'=w50,?_,?_⟩
   .exact aA fa (aB (v:=hZ y.op) bM E.hb rfl (aH (aC (λc14=>aA gk (aB (v:=.string y.name) gw E.hb rfl (yi E.p3.nq Tryz.underlying165 Tryz.underlying9 uA (bV ⟨vb (by rw[ez c14,yU]),rfl⟩)))) λc14=>⟨vb (by rw[fN c14,P7]),rfl⟩)))
   rintro _ _ ⟨rfl,rfl⟩ _;refine aY (λc15=>?_) (λc15=>aN cK ⟨_,cK,j+1,rfl,rfl,cK,dZ hnj hy c15,E.drop⟩);have h7:p.dS.any (λc=>pa c.e (gn p))=true:=ic G (by rw[<- hvc];exact ic hy c15);have V:fm p=9:=ao9 h1 h2 h3 h4 h5 h6 h7;refine aA r8 (have E:=E.drew;aB (v:=hZ y.at_) bM E.hb rfl (aT E.p5 jN (dL rfl) rfl λwa E=>?_));refine⟨aF bM (E.p1.hb.cell rfl),?_⟩;refine aT E.p5 bM (dL rfl) rfl (λwb E=>?_);refine PO.take ds E.p4 (λw54 E=>?_);exact aB jN E.p1.hb rfl (aB bM E.hb rfl ⟨_,by rw[V],E.aG⟩)
  refine aN cK ?_;refine⟨_,cK,k2+1,rfl,rfl,cK,dZ I G ?_,E.drop⟩;rw[<- hvc];exact iD (by rw[kO cK]at hnj;exact hnj)
 have h7:p.dS.any (λc=>pa c.e (gn p))=false:=iD (by rw[kO cK]at I;exact I);have V:fm p=0:=ce0 h1 h2 h3 h4 h5 h6 h7;refine aT E.p3 jN (dL rfl) rfl (λwa E=>aT E.p3 bM (dL rfl) rfl λwb E=>?_);refine PO.take ds E.p2 (λw54 E=>?_);exact aB jN E.p1.hb rfl (aB bM E.hb rfl ⟨_,by rw[V],E.aG⟩)
def C83(sv:Value)(xs:List Int)(w:World)(B:dC (λ_=>True) w sv xs)(M:xs.length<=1000000):CR 83 [sv] w (λv w'=>lh (bH v xs) w w'):=by
 have u:=St.start w;refine fg Tryz.func83 ?_;refine Ha Tryz.underlying41 (B.ext u.aG) (λp G=>aY (λE=>?_) λE=>?_)
 .have J:=G E;subst J;exact(u.eL (α:=Int)).fresh
 refine bD ([]:List Int) u cS rfl rfl (dL rfl) (λO _ u=>?_);have I:=(B.ext u.aG);exact bJ u cS I (by simp;omega) ee (λ_ _ u=>u.fresh)
def j4(x y:bI):Bool:=decide (x.kind≠7/\y.kind≠7/\(x.kind=6\/y.kind=6)/\x.line≠y.line)
def right(x:bI):Bool:=decide ((x.kind=3/\0<=x.line/\0<=x.cell)\/((x.kind=5\/x.kind=6)/\0<=x.line/\x.cell=0/\x.n=0)\/(x.kind=7/\x.line=0/\x.cell=0/\x.n=0))
def C260(x y:bI)(w:World):CR 260 [ia x,ia y] w (λv w'=>v=.bool (j4 x y)/\Ext w w'):=by
 have u:=St.start w;refine fg Tryz.func260 ?_;refine cI u (λU _ u=>cI u λG _ u=>?_);refine⟨_,?_,λ_ _ h=>h⟩;refine aA gH (aB bM u.p1.hb rfl (aH (aC (λJ=>?_) λJ=>?_)))
 .intro E;refine⟨_,?_,λ_ _ h=>h⟩;refine bR (ft ?_);intro B;refine⟨vb ?_,u.aG⟩;unfold j4
  first|exact(ez cK).symm|exact(fN cK).symm|exact ga.2 cK|exact ga.2 (bI.ext_iff.trans (by dsimp only;omega))
 refine aA gH (aB bM u.hb rfl (aH ?_));intro E;refine⟨_,?_,λ_ _ h=>h⟩
 first|refine KP ?_|refine bR ?_
 refine aC (λO=>aA gH (aB bM u.p1.hb rfl (aH (aC (λM=>?_) λM=>aA gH (aB bM u.hb rfl (aH (aC (λI=>?_) λI=>?_))))))) (λO=>?_)
 .refine aA g8 (aB bM u.p1.hb rfl (aA g8 (aB bM u.hb rfl (bV ?_))));intro B;refine⟨vb ?_,u.aG⟩;unfold j4
  first|exact(ez cK).symm|exact(fN cK).symm|exact ga.2 cK|exact ga.2 (bI.ext_iff.trans (by dsimp only;omega))
 .refine aA g8 (aB bM u.p1.hb rfl (aA g8 (aB bM u.hb rfl (bV ?_))));intro B;refine⟨vb ?_,u.aG⟩;unfold j4
  first|exact(ez cK).symm|exact(fN cK).symm|exact ga.2 cK|exact ga.2 (bI.ext_iff.trans (by dsimp only;omega))
 .intro B;refine⟨vb ?_,u.aG⟩;unfold j4
  first|exact(ez cK).symm|exact(fN cK).symm|exact ga.2 cK|exact ga.2 (bI.ext_iff.trans (by dsimp only;omega))
 intro B;refine⟨vb ?_,u.aG⟩;unfold j4
 first|exact(ez cK).symm|exact(fN cK).symm|exact ga.2 cK|exact ga.2 (bI.ext_iff.trans (by dsimp only;omega))
def C222(x y:bI)(w:World):CR 222 [ia x,ia y] w (λv w'=>v=.bool (j4 x y)/\Ext w w'):=by
 have u:=St.start w;refine fg Tryz.func222 ?_;refine cI u (λU _ u=>cI u λE _ u=>?_);refine⟨_,?_,λ_ _ h=>h⟩;refine aA gH (aB bM u.p1.hb rfl (aH (aC (λJ=>?_) λJ=>aA gH (aB bM u.hb rfl (aH (aC (λM=>?_) λM=>?_))))))
 .intro B;refine iz ?_;refine⟨vb ?_,u.aG⟩;unfold j4
  first|exact(ez cK).symm|exact(fN cK).symm|exact ga.2 cK|exact ga.2 (bI.ext_iff.trans (by dsimp only;omega))
 .intro B;refine iz ?_;refine⟨vb ?_,u.aG⟩;unfold j4
  first|exact(ez cK).symm|exact(fN cK).symm|exact ga.2 cK|exact ga.2 (bI.ext_iff.trans (by dsimp only;omega))
 refine aA g8 (aB bM u.p1.hb rfl (aA g8 (aB bM u.hb rfl (aH ?_))));intro B;refine aC (λO=>?_) (λO=>⟨_,aA gH (aB bM u.p1.hb rfl (aH (aC (λI=>?_) λI=>?_))),λ_ _ h=>h⟩)
 .refine⟨vb ?_,u.aG⟩;unfold j4
  first|exact(ez cK).symm|exact(fN cK).symm|exact ga.2 cK|exact ga.2 (bI.ext_iff.trans (by dsimp only;omega))
 .intro G;refine⟨vb ?_,u.aG⟩;unfold j4
  first|exact(ez cK).symm|exact(fN cK).symm|exact ga.2 cK|exact ga.2 (bI.ext_iff.trans (by dsimp only;omega))
 refine aA gH (aB bM u.hb rfl (aH ?_));intro G;refine⟨vb ?_,u.aG⟩;unfold j4
 first|exact(ez cK).symm|exact(fN cK).symm|exact ga.2 cK|exact ga.2 (bI.ext_iff.trans (by dsimp only;omega))
def eqE(x y:bI):An (j0 x) (j0 y)=decide (x=y):=by
 obtain⟨a,b,c,d⟩:=x
 obtain⟨B,b2,u,E⟩:=y
 simp[j0,An,eqV,IK]
def C228(x:bI)(w:World):CR 228 [ia x] w (λv w'=>v=.bool (right x)/\Ext w w'):=by
 have u:=St.start w;refine fg Tryz.func228 ?_;refine cI u (λW _ u=>aA gH (aB bM u.hb rfl (aH (aC (λO=>⟨_,aA g8 (aB bM u.hb rfl (cR (aC (λV=>?_) λV=>?_))),λ_ _ h=>h⟩) λO=>⟨_,aH (aC (λM=>?_) λM=>?_),λ_ _ h=>h⟩))))
 .refine aA my (aB bM u.hb rfl (cR ?_));intro U;refine⟨vb ?_,u.aG⟩;unfold right
  first|exact(ez cK).symm|exact(fN cK).symm|exact ga.2 cK|exact ga.2 (bI.ext_iff.trans (by dsimp only;omega))
 .intro U;refine⟨vb ?_,u.aG⟩;unfold right
  first|exact(ez cK).symm|exact(fN cK).symm|exact ga.2 cK|exact ga.2 (bI.ext_iff.trans (by dsimp only;omega))
 .intro J;refine aC (λI=>⟨_,aA g8 (aB bM u.hb rfl (cR (aC (λE=>aA my (aB bM u.hb rfl (aH (aC (λG=>?_) λG=>?_)))) λE=>?_))),λ_ _ h=>h⟩) (λI=>?_)
  .refine aA oW (aB bM u.hb rfl (aH ?_));intro B;refine⟨vb ?_,u.aG⟩;unfold right
   first|exact(ez cK).symm|exact(fN cK).symm|exact ga.2 cK|exact ga.2 (bI.ext_iff.trans (by dsimp only;omega))
  .intro B;refine⟨vb ?_,u.aG⟩;unfold right
   first|exact(ez cK).symm|exact(fN cK).symm|exact ga.2 cK|exact ga.2 (bI.ext_iff.trans (by dsimp only;omega))
  .intro B;refine⟨vb ?_,u.aG⟩;unfold right
   first|exact(ez cK).symm|exact(fN cK).symm|exact ga.2 cK|exact ga.2 (bI.ext_iff.trans (by dsimp only;omega))
  refine aD iw u.At (pop (AB _) (GZ WC rfl rfl (eqE x ⟨7,0,0,0⟩) ?_));refine⟨vb ?_,u.aG⟩;unfold right
  first|exact(ez cK).symm|exact(fN cK).symm|exact ga.2 cK|exact ga.2 (bI.ext_iff.trans (by dsimp only;omega))
 refine aH ?_;intro J;refine aC (λI=>⟨_,aA g8 (aB bM u.hb rfl (cR (aC (λE=>aA my (aB bM u.hb rfl (aH (aC (λG=>?_) λG=>?_)))) λE=>?_))),λ_ _ h=>h⟩) (λI=>?_)
 .refine aA oW (aB bM u.hb rfl (aH ?_));intro B;refine⟨vb ?_,u.aG⟩;unfold right
  first|exact(ez cK).symm|exact(fN cK).symm|exact ga.2 cK|exact ga.2 (bI.ext_iff.trans (by dsimp only;omega))
 .intro B;refine⟨vb ?_,u.aG⟩;unfold right
  first|exact(ez cK).symm|exact(fN cK).symm|exact ga.2 cK|exact ga.2 (bI.ext_iff.trans (by dsimp only;omega))
 .intro B;refine⟨vb ?_,u.aG⟩;unfold right
  first|exact(ez cK).symm|exact(fN cK).symm|exact ga.2 cK|exact ga.2 (bI.ext_iff.trans (by dsimp only;omega))
 refine aD iw u.At (pop (AB _) (GZ WC rfl rfl (eqE x ⟨7,0,0,0⟩) ?_));refine⟨vb ?_,u.aG⟩;unfold right
 first|exact(ez cK).symm|exact(fN cK).symm|exact ga.2 cK|exact ga.2 (bI.ext_iff.trans (by dsimp only;omega))
def C277(x:bI)(w:World):CR 277 [ia x] w (λv w'=>v=.bool (right x)/\Ext w w'):=by
 have u:=St.start w;refine fg Tryz.func277 ?_;refine cI u (λzC _ u=>aA gH (aB bM u.hb rfl (aH (aC (λYZ=>⟨_,aA g8 (aB bM u.hb rfl (cR (aC (λZ=>?_) λZ=>?_))),λ_ _ h=>h⟩) λYZ=>⟨_,aA my (aB bM u.hb rfl (bV (aC (λM=>?_) λM=>?_))),λ_ _ h=>h⟩))))
 .refine aA my (aB bM u.hb rfl (cR ?_));intro U;refine⟨vb ?_,u.aG⟩;unfold right
  first|exact(ez cK).symm|exact(fN cK).symm|exact ga.2 cK|exact ga.2 (bI.ext_iff.trans (by dsimp only;omega))
 .intro U;refine⟨vb ?_,u.aG⟩;unfold right
  first|exact(ez cK).symm|exact(fN cK).symm|exact ga.2 cK|exact ga.2 (bI.ext_iff.trans (by dsimp only;omega))
 .intro J;refine iz ?_;refine⟨vb ?_,u.aG⟩;unfold right
  first|exact(ez cK).symm|exact(fN cK).symm|exact ga.2 cK|exact ga.2 (bI.ext_iff.trans (by dsimp only;omega))
 refine aA oW (aB bM u.hb rfl (bV ?_));intro J;refine aC (λkT=>?_) (λkT=>⟨_,aA gH (aB bM u.hb rfl (aH (aC (λO=>aA g8 (aB bM u.hb rfl (cR (aC (λW=>?_) λW=>aA gH (aB bM u.hb rfl (aH (aC (λY=>?_) λY=>?_))))))) λO=>?_))),λ_ _ h=>h⟩)
 .refine⟨vb ?_,u.aG⟩;unfold right
  first|exact(ez cK).symm|exact(fN cK).symm|exact ga.2 cK|exact ga.2 (bI.ext_iff.trans (by dsimp only;omega))
 .intro B;refine⟨vb ?_,u.aG⟩;unfold right
  first|exact(ez cK).symm|exact(fN cK).symm|exact ga.2 cK|exact ga.2 (bI.ext_iff.trans (by dsimp only;omega))
 .refine aA g8 (aB bM u.hb rfl (aH ?_));intro B;refine⟨vb ?_,u.aG⟩;unfold right
  first|exact(ez cK).symm|exact(fN cK).symm|exact ga.2 cK|exact ga.2 (bI.ext_iff.trans (by dsimp only;omega))
 .intro B;refine⟨vb ?_,u.aG⟩;unfold right
  first|exact(ez cK).symm|exact(fN cK).symm|exact ga.2 cK|exact ga.2 (bI.ext_iff.trans (by dsimp only;omega))
 refine aA gH (aB bM u.hb rfl (aH (aC (λV=>aA g8 (aB bM u.hb rfl (cR (aC (λE=>?_) λE=>aA gH (aB bM u.hb rfl (aH (aC (λG=>?_) λG=>?_))))))) λV=>aA gH (aB bM u.hb rfl (aH (aC (λI=>?_) λI=>?_))))))
 .intro B;refine⟨vb ?_,u.aG⟩;unfold right
  first|exact(ez cK).symm|exact(fN cK).symm|exact ga.2 cK|exact ga.2 (bI.ext_iff.trans (by dsimp only;omega))
 .refine aA g8 (aB bM u.hb rfl (aH ?_));intro B;refine⟨vb ?_,u.aG⟩;unfold right
  first|exact(ez cK).symm|exact(fN cK).symm|exact ga.2 cK|exact ga.2 (bI.ext_iff.trans (by dsimp only;omega))
 .intro B;refine⟨vb ?_,u.aG⟩;unfold right
  first|exact(ez cK).symm|exact(fN cK).symm|exact ga.2 cK|exact ga.2 (bI.ext_iff.trans (by dsimp only;omega))
 .refine aA g8 (aB bM u.hb rfl (aH ?_));intro B;refine⟨vb ?_,u.aG⟩;unfold right
  first|exact(ez cK).symm|exact(fN cK).symm|exact ga.2 cK|exact ga.2 (bI.ext_iff.trans (by dsimp only;omega))
 intro B;refine⟨vb ?_,u.aG⟩;unfold right
 first|exact(ez cK).symm|exact(fN cK).symm|exact ga.2 cK|exact ga.2 (bI.ext_iff.trans (by dsimp only;omega))
def rE(l:List bI)(i:Int):Bool:=decide (0<=i/\i<l.length)&&(match l[i.toNat]? with|some x=>(l.take i.toNat).all (j4 x)|none=>false)
def pD(l:List bI):List Int:=((u3 l.length).map fun (k:Nat)=>(k:Int)).filter (rE l)
theorem lY{l:List bI}{i:Int}(h:i<0\/(l.length:Int)<=i):rE l i=false:=by
 grind[rE]
theorem SB{l:List bI}{i:Int}{x:bI}(u:0<=i)(h1:i<l.length)(B:l[i.toNat]?=some x):rE l i = !(l.take i.toNat).any λy=>!j4 x y:=by
 grind[rE,j4]
def sG(l:List bI)(k:Nat):List Int:=((u3 k).map fun (k:Nat)=>(k:Int)).filter (rE l)
def Hw(l:List bI)(k:Nat):(sG l k).length<=k:=by
 grind[sG]
theorem Fp{l:List bI}{k:Nat}(h:rE l k=true):sG l (k+1)=sG l k++[(k:Int)]:=by
 unfold sG;rw[I5,vA,zM];simp[h]
theorem Hx{l:List bI}{k:Nat}(h:rE l k=false):sG l (k+1)=sG l k:=by
 unfold sG;rw[I5,vA,zM];simp[h]
theorem Fq(l:List bI){k:Nat}(h:k=l.length):sG l k=pD l:=by subst h;rfl
def uf(w:World)(p:Nat)(room:Int)(l:List bI):Prop:=∃sv,Cell w p 0 (hZ room)/\Cell w p 1 sv/\dC (λ_=>True) w sv l
def jl(p:Nat)(room:Int)(l:List bI):HP:=pK λsv=>sep (bY p [hZ room,sv]) (bH sv l)
theorem uf.ext{w w':World}{p:Nat}{room:Int}{l:List bI}(h:uf w p room l)(e:Ext w w'):uf w' p room l:=by
 obtain⟨sv,h1,h2,h3⟩:=h;exact⟨sv,h1.ext e,h2.ext e,h3.ext e⟩
def jl.rd{w:World}{F:Nat->Prop}{p:Nat}{room:Int}{l:List bI}(h:(jl p room l).p w F):uf w p room l:=by
 obtain⟨sv,u,B,h1,h2,_⟩:=h
 exact⟨sv,h1.1.cell rfl,h1.1.cell rfl,(bH.rd h2).mono λ_ _=>trivial⟩
def C297(sv fv:Value)(xs:List bI)(g:bI->Bool)(w:World)(J:dC (λ_=>True) w sv xs)(V:wk w fv g)(hn:xs.length<=1073741824):CR 297 [sv,fv] w (λv w'=>v=hZ (sm g xs)/\Ext w w'):=by
 obtain⟨Z,first,cap,rfl,W,U⟩:=V;have u:=St.start w;refine fg Tryz.func297 ?_;refine aK fT (J.ext u.aG) ?_;refine⟨λm x G=>∃k:Nat,x=hZ (k:Int)/\m=xs.length-k/\k<=xs.length/\(∀y∈xs.take k,g y=false)/\St w aZ [] G,⟨_,0,rfl,rfl,l1 _,ei,u⟩,?_⟩;rintro m _ G ⟨k,rfl,rfl,hk,B,u⟩ _;refine aR (aC (λjJ=>?_) λ_=>⟨gO (ni .i64) (jh (by rw[kO cK]at B;exact B)).symm,u.aG⟩);obtain⟨Y,I⟩:=gx xs (i:=(k:Int).toNat) cK;refine aQ fT (J.ext u.aG) cK I (λ_ M=>aD iw M (gV W (U Y G u.aG) ?_))
 rintro _ _ ⟨rfl,O⟩;have u:=u.ext O;exact aY (λE=>⟨gO (ni .i64) (me B I E).symm,u.aG⟩) (λE=>aN cK ⟨xs.length-(k+1),cK,k+1,rfl,rfl,cK,dZ B I E,u⟩)
def C261(sv fv:Value)(xs:List bI)(g:bI->Bool)(w:World)(E:dC (λ_=>True) w sv xs)(B:wk w fv g)(G:xs.length<=1073741824):CR 261 [sv,fv] w (λv w'=>v=.bool (xs.any g)/\Ext w w'):=by
 have u:=St.start w;refine fg Tryz.func261 ?_;exact aV ano u (C297 _ _ _ _ _ (E.ext u.aG) (B.ext u.aG) cK) (λ_ _ u=>cR ⟨vb (kU _ _),u.aG⟩)
def C259(x y:bI)(p b2 b3:Nat)(i:Int)(room:Int)(l:List bI)(w:World)(h2:Cell w b2 0 (.pointer (some ⟨p,0,none⟩)))(h3:Cell w b3 0 (hZ i))(hb:uf w p room l)(G:0<=i)(B:l[i.toNat]?=some x):CR 259 [ia y,.pointer (some ⟨b2,0,none⟩),.pointer (some ⟨b3,0,none⟩)] w (λv w'=>v=.bool (!j4 x y)/\Ext w w'):=by
 obtain⟨sv,O,J,E⟩:=hb;have M:=(kp.1 B).1;have u:=St.start w;refine oM Tryz.func259 (pl:=auW) ?_;exact cI u (λ_ _ u=>have u:=u.drew;bO Aq (h2.ext u.aG) (aE (aA kR (bO iO (J.ext u.aG) (bO bM (h3.ext u.aG) (aQ fT (E.ext u.aG) G B λ_ I=>aD iw I (aD iw u.At (aV ana u (C260 x y _) λ_ _ u=>bR ⟨rfl,u.aG⟩))))))))
def C216(p:Nat)(i:Int)(room:Int)(l:List bI)(w:World)(hb:uf w p room l)(hn:l.length<=1073741824):CR 216 [.pointer (some ⟨p,0,none⟩),hZ i] w (λv w'=>v=.bool (rE l i)/\Ext w w'):=by
 have W:=hb;obtain⟨sv,Cz,U,O⟩:=hb;have u:=St.start w;refine oM Tryz.func216 (pl:=auP) ?_;refine nx u rfl (λB M u=>nx u rfl λE _ u=>?_);refine⟨_,?_,λ_ _ h=>h⟩;have u:=u.drew;refine aB bM u.hb rfl (aR (aC (λV=>?_) λV=>?_))
 .intro Z;exact iz ⟨vb (lY cK).symm,u.aG⟩
 refine aB bM u.hb rfl (aB Aq u.p1.hb rfl (aE (aA kR (bO iO (U.ext u.aG) (aK fT (O.ext u.aG) (cR ?_))))));intro Z;refine aC (λ_=>⟨vb (lY cK).symm,u.aG⟩) (λet=>have u:=u.drew;aB Aq u.p1.hb rfl (aE (aA kR (bO iO (U.ext u.aG) (aB bM u.hb rfl (l8 fT (O.ext u.aG) cK cK λY qC=>?_))))));obtain⟨x,J⟩:=gx l (i:=i.toNat) cK
 have I:wk _ (.func (.func 259) [].toArray [.pointer (some ⟨B,0,none⟩),.pointer (some ⟨E,0,none⟩)].toArray) (λy=>!j4 x y):=
  ⟨259,[],_,rfl,am9,λy M G=>C259 x y p B E i room l M ((u.p1.hb.cell rfl).ext G) ((u.hb.cell rfl).ext G) ((W.ext u.aG).ext G) cK J⟩
 exact aV anb u (C261 _ _ _ _ _ qC I (by rw[l0];omega)) (λ_ _ u=>bR ⟨vb (SB cK cK J).symm,u.aG⟩)
def C215(p:Nat)(room:Int)(l:List bI)(w:World)(hb:uf w p room l):CR 215 [.pointer (some ⟨p,0,none⟩)] w (λv w'=>v=.bool (decide (room<=l.length))/\Ext w w'):=by
 obtain⟨sv,E,B,G⟩:=hb;have u:=St.start w;refine oM Tryz.func215 (pl:=auO) ?_;exact aE (aA kR (have u:=u.drew;bO iO (B.ext u.aG) (aK fT (G.ext u.aG) (aE (aA Wr (bO bM (E.ext u.aG) (cR ⟨rfl,u.aG⟩)))))))
def C139(p:Nat)(room:Int)(l:List bI)(w:World)(hb:uf w p room l)(Y:l.length<=1048576):CR 139 [.pointer (some ⟨p,0,none⟩)] w (λv w'=>lh (bH v (pD l)) w w'):=by
 have J:=hb;obtain⟨sv,Cz,U,O⟩:=hb;have u:=St.start w;refine fg Tryz.func139 ?_;refine aE (aA kR (bO iO (U.ext u.aG) (aK fT (O.ext u.aG) ?_)));refine⟨λm o x E=>∃k:Nat,x=hZ (k:Int)/\m=l.length-k/\k<=l.length/\St w aZ [bH o (sG l k)] E,⟨_,0,rfl,rfl,l1 _,u.eL⟩,?_⟩;rintro m o _ E ⟨k,rfl,rfl,hk,u⟩ _;have EZ:=Hw l k;refine aR (aC (λM=>⟨_,aV afG u (C216 _ _ _ _ _ (J.ext u.aG) cK) (λ_ W u=>aY (λB=>?_) λB=>?_),λ_ _ h=>h⟩) λM=>?_)
 .refine bD ([(k:Int)]:List Int) u cS rfl rfl (dL rfl) (λZ _ u=>?_);have I:=u.dX;refine bJ u.p1 cS I (by simp<;>omega) ee (λV _ u=>?_);have u:=u.p1.drop;intro G;exact aN cK ⟨l.length-(k+1),cK,k+1,rfl,rfl,cK,by rw[Fp B];exact u⟩
 .intro G;exact aN cK ⟨l.length-(k+1),cK,k+1,rfl,rfl,cK,by rw[Hx B];exact u⟩
 rw[Fq l cK]at u;exact u.fresh
def MD(room:Int)(l:List bI)(x:bI):Int:=if right x=true then(if room<=l.length then 2 else 0)else 1
def sH(room:Int)(l:List bI)(x:bI):List bI:=if right x=true/\¬ room<=l.length then l++[x]else l
def dH(l:List bI)(i:Int):bI:=if rE l i=true then(l[i.toNat]?).getD ⟨0,0,0,0⟩else⟨0,0,0,0⟩
def xy(l:List bI)(i:Int):Int:=if 0<=i/\i<l.length then(if rE l i=true then 0 else 13)else 1
def jU(l:List bI)(i:Int):List bI:=if rE l i=true then l.eraseIdx i.toNat else l
theorem ad0{l:List bI}{i:Int}(h:rE l i=true):0<=i/\i<l.length:=by
 unfold rE at h;grind
def uf.mk'{w:World}{p:Nat}{room:Int}{sv:Value}{l:List bI}(h1:mT w p [hZ room,sv])(h2:dC (λ_=>True) w sv l):uf w p room l:=
 ⟨sv,h1.cell rfl,h1.cell rfl,h2⟩
def jl.shut{w0 w:World}{A:Nat->Prop}{R:List HP}{p:Nat}{room:Int}{sv:Value}{l:List bI}(u:St w0 A (bY p [hZ room,sv]::bH sv l::R) w):St w0 A (jl p room l::R) w:=
 St.ek (H:=λsv=>sep (bY p [hZ room,sv]) (bH sv l)) sv (St.join u)
def DE{w0 w:World}{A:Nat->Prop}{R:List HP}{p:Nat}{room:Int}{l:List bI}(u:St w0 A (jl p room l::R) w):uf w p room l:=by
 obtain⟨F,h,_⟩:=u.head;exact jl.rd h
def C224(v:Value)(i:Int)(xs:List bI)(F:Nat->Prop)(w:World)(U:(bH v xs).p w F)(h0:0<=i)(hi:i<xs.length)(hn:xs.length<=1073741824) :
  CR 224 [v,hZ i,hZ (i+1)] w (λv' w'=>True/\mR F (bH v' (xs.eraseIdx i.toNat)) w w'):=by
 obtain⟨i,rfl⟩:=Int.eq_ofNat_of_zero_le h0;replace hi:i<xs.length:=cK
 rw[qa];have Vq:=bH.rd U;obtain⟨b,cap,rest,rfl,hb,u,M⟩:=rM U hi;have hlen:(flat xs).length=xs.length*4:=dA xs;have Al:xs.length<=cap:=u.1;replace u:=u.2
 change cap*4<=_ at u
 refine abY _ _ _ _ _ ?_;unfold S224;refine pop (IJ fT) (WE fT cK cK cK cK λ_=>aH (aC (λc=>absurd c cK) λ_=>pop (IJ fT) ?_))
 have J:pr hH (n4 179 (.slice (some ⟨b,0,none⟩) xs.length cap) none (some (hZ (i:Int))) none)=some (.slice (some ⟨b,0,none⟩) i cap):=by
  rw[wI fT (l:=0) (h:=i) (ou (.inl ⟨rfl,rfl⟩) (.inr ⟨_,rfl,cK,cK⟩) cK cK)];simp[gF]
 refine pop J (BP fT Vq cK cK λs25 B=>?_);rw[show((i:Int)+1).toNat=i+1 from cK]at B;have G:(xs.drop (i+1)).length=xs.length-(i+1):=ei
 obtain⟨w1,Y,b1,g1⟩:=Gp (P:=hH) (R:=179) (n:=i) (cap:=cap) fT (hb.of_eq (w':=drew w) rfl) (B.ext (Ext.drew w)) cK (by rw[la,hlen,G];change i*4+(xs.length-(i+1))*4<=_;omega);rw[G,show i+(xs.length-(i+1))=xs.length-1 from cK]at Y;refine⟨_,w1,Y,?_⟩;refine pop (IJ fT) ?_
 have I:pr hH (n4 179 (.slice (some ⟨b,0,none⟩) (xs.length-1) cap) (some (hZ ((xs.length-1:Nat):Int))) (some (hZ (xs.length:Int))) none)=some (.slice (some ⟨b,(xs.length-1)*4,none⟩) 1 (cap-(xs.length-1))):=by
  rw[wI fT (l:=xs.length-1) (h:=xs.length) (ou (.inr ⟨_,rfl,cK,cK⟩) (.inr ⟨_,rfl,cK,cK⟩) cK cK),ej cK];simp[gF];omega
 refine pop I ?_;have hx:xs[i]?=some xs[i]:=by simp[hi]
 have Gl:=zn hx;have E:(flat (xs.take i)).length=i*4:=by rw[dA,l0,Nat.min_eq_left cK];rfl
 have hD:(flat (xs.drop (i+1))).length=(xs.length-(i+1))*4:=by rw[dA,G];rfl
 have W:(j0 xs[i]).length=4:=rfl;have V:(flat (r6 1 (⟨0,0,0,0⟩:bI))).length=4:=rfl
 have s1:jj (flat xs++rest) (i*mI bI) (flat (xs.drop (i+1))) =
   flat (xs.take i)++flat (xs.drop (i+1))++((j0 xs[i]++flat (xs.drop (i+1))).drop (flat (xs.drop (i+1))).length++rest):=by
  have:=mr (flat (xs.take i)) ((j0 xs[i]++flat (xs.drop (i+1))).take (flat (xs.drop (i+1))).length)
   ((j0 xs[i]++flat (xs.drop (i+1))).drop (flat (xs.drop (i+1))).length++rest) (flat (xs.drop (i+1))) (by rw[l0,la];omega)
  rw[E]at this
  change jj (flat xs++rest) (i*4) _=_
  rw[<- this,Gl]
  have e0:∀(a b c d:List Value) (n:Nat),a++(b++c)++d=a++(b++c).take n++((b++c).drop n++d):=λa b c d n=>by
   rw[n3 a ((b++c).take n),<- n3 ((b++c).take n),qB,n3 a]
  exact gO (λz=>jj z (i*4) (flat (xs.drop (i+1)))) (by first|exact e0 _ _ _ _ _|(rw[<- e0];simp only[n3])|(simp only[n3];rw[<- n3 (List.take _ _),qB,n3]))
 rw[s1]at b1
 obtain⟨w2,r2,b2,g2⟩:=TO (P:=hH) (R:=0) (o:=(xs.length-1)*4) (n:=1) (c:=cap-(xs.length-1)) (z:=(⟨0,0,0,0⟩:bI)) fT rA b1
  (by simp only[la,qb,E,hD,W];change _+1*4<=_;omega)
 refine⟨_,w2,r2,?_⟩
 have Z:=mr (flat (xs.take i)++flat (xs.drop (i+1))) ((j0 xs[i]++flat (xs.drop (i+1))).drop (flat (xs.drop (i+1))).length) rest (flat (r6 1 (⟨0,0,0,0⟩:bI)))
  (by rw[qb,la,W,V];omega)
 rw[show(flat (xs.take i)++flat (xs.drop (i+1))).length=(xs.length-1)*4 from by rw[la,E,hD];omega,n3 _ _ rest]at Z;rw[Z]at b2;refine⟨trivial,F,.inr ⟨b,cap,flat (r6 1 (⟨0,0,0,0⟩:bI))++rest,?_,?_,?_,M⟩,λ_ hb=>.inl hb,((Ext.drew w).aG (A:=F)).trans (g1.trans (C:=F) g2 (λk O=>(M k).2 O) λk _ O=>(M k).2 O) (λ_ h=>h) λ_ _ h=>h⟩
 .rw[LJ hi]
 .rw[wi,gG,<- n3];exact b2
 refine⟨by rw[LJ hi];omega,?_⟩;rw[wi,gG]
 change cap*4<=_
 rw[la,hlen]at u;simp only[la,E,hD,V];omega
def C223(sv:Value)(xs:List bI)(w:World)(E:dC (λ_=>True) w sv xs)(W:xs.length<=1073741824):CR 223 [sv] w (λv w'=>lh (bH v xs) w w'):=by
 have B:=E;obtain⟨a,cap,rfl,U,h3⟩:=E;have u:=St.start w;refine fg Tryz.func223 ?_;refine Wj (fp fT).1 (λM=>?_) ?_
 .rcases h3 with⟨h,hc⟩|⟨b,o,h,_⟩
  .exact⟨by rw[h];rfl,hc⟩
  rw[M]at h;cases h
 refine aY (λG=>?_) (λG=>?_)
 .have J:a=none:=by cases a with|none=>rfl|some _=>cases G
  have I:xs=[]:=by
   rcases h3 with⟨h,_⟩|⟨b,o,h,_⟩
   .exact h
   .rw[J]at h;cases h
  subst I;exact u.eL.fresh
 refine bD ([]:List bI) u fT rfl rfl (dL rfl) (λV _ u=>?_);have O:=(B.ext u.aG);exact bJ u fT O (by simp<;>omega) ee (λ_ _ u=>u.fresh)
def C153(p:Nat)(room:Int)(l:List bI)(w:World)(hb:uf w p room l)(I:l.length<=1073741824):CR 153 [.pointer (some ⟨p,0,none⟩)] w (λv w'=>lh (bH v l) w w'):=by
 obtain⟨sv,J,E,G⟩:=hb;have u:=St.start w;refine fg Tryz.func153 ?_;refine aE (aA kR (bO iO (E.ext u.aG) (dO afH (C223 _ _ _ (G.ext u.aG) cK) ?_)));rintro _ _ B;have u:=u.made B;exact u.fresh
theorem ME{room:Int}{l:List bI}{x:bI}(h:right x=false):MD room l x=1:=by unfold MD;rw[h];rfl
theorem MF{room:Int}{l:List bI}{x:bI}(h:right x=false):sH room l x=l:=by unfold sH;rw[h];rfl
theorem Hy{room:Int}{l:List bI}{x:bI}(h:right x=true)(u:room<=l.length):MD room l x=2:=by grind[MD]
theorem Hz{room:Int}{l:List bI}{x:bI}(u:room<=l.length):sH room l x=l:=by grind[sH]
theorem SC{room:Int}{l:List bI}{x:bI}(h:right x=true)(u:¬ room<=l.length):MD room l x=0:=by grind[MD]
theorem SD{room:Int}{l:List bI}{x:bI}(h:right x=true)(u:¬ room<=l.length):sH room l x=l++[x]:=by unfold sH;grind
def C162(p:Nat)(room:Int)(l:List bI)(x:bI)(F:Nat->Prop)(w:World)(M:(jl p room l).p w F)(U:l.length<=1048576):CR 162 [.pointer (some ⟨p,0,none⟩),ia x] w (λv w'=>v=hZ (MD room l x)/\mR F (jl p room (sH room l x)) w w'):=by
 have u:=St.begin M;obtain⟨sv,u⟩:=u.eh;have u:=u.split;refine oM Tryz.func162 (pl:=auH) ?_;refine cI u (λJ _ u=>aD iw u.At (aV am5 u (C228 _ _) λ_ I u=>bR (aY (λB=>?_) λB=>aV afF u (C215 _ _ _ _ (uf.mk' u.p1.hb u.p2.dX)) λ_ I u=>aC (λE=>?_) λE=>?_)))
 .have u:=u.p2.p2;rw[ME (by simpa using B),MF (by simpa using B)];exact⟨rfl,(jl.shut u).mut⟩
 .have u:=u.p2.p2;rw[Hy (by simpa using B) E,Hz E];exact⟨rfl,(jl.shut u).mut⟩
 refine aE (aA kR (have u:=u.drew;aB iO u.p1.hb rfl (aD iw u.At (bD ([x]) u fT rfl rfl (dL rfl) λV _ u=>?_))));refine⟨aF iO (u.p2.hb.cell rfl),?_⟩;have G:=u.dX;refine bJ u.p3 fT G (by simp<;>omega) ee (λO _ u=>have u:=u.p1.drop;aE (aA kR (aT u.p2 iO (dL rfl) u.dX.one λ_ u=>?_)));have u:=u.p1.p1;rw[SC (by simpa using B) E,SD (by simpa using B) E];exact⟨rfl,(jl.shut u).mut⟩
theorem rP{l:List bI}{i:Int}(h:rE l i=false):dH l i=⟨0,0,0,0⟩:=by unfold dH;rw[h];rfl
theorem rQ{l:List bI}{i:Int}(h:rE l i=false):jU l i=l:=by unfold jU;rw[h];rfl
theorem yl{l:List bI}{i:Int}(h:i<0\/(l.length:Int)<=i):xy l i=1:=by unfold xy;omega
theorem MG{l:List bI}{i:Int}(u:0<=i/\i<l.length)(h:rE l i=false):xy l i=13:=by unfold xy;grind
theorem MH{l:List bI}{i:Int}(h:rE l i=true):xy l i=0:=by unfold xy;rw[ew (ad0 h),h];rfl
theorem MI{l:List bI}{i:Int}{x:bI}(h:rE l i=true)(u:l[i.toNat]?=some x):dH l i=x:=by unfold dH;grind
theorem MJ{l:List bI}{i:Int}(h:rE l i=true):jU l i=l.eraseIdx i.toNat:=by unfold jU;rw[h];rfl
def C155(p:Nat)(room:Int)(l:List bI)(i:Int)(F:Nat->Prop)(w:World)(E:(jl p room l).p w F)(hn:l.length<=1048576):CR 155 [.pointer (some ⟨p,0,none⟩),hZ i] w (λv w'=>v=.tuple #[ia (dH l i),hZ (xy l i)]/\mR F (jl p room (jU l i)) w w'):=by
 have u:=St.begin E;obtain⟨sv,u⟩:=u.eh;have u:=u.split;refine fg Tryz.func155 ?_;refine aM u rA (λZ _ u=>?_);refine⟨_,?_,λ_ _ h=>h⟩;refine aR (aC (λY=>?_) λY=>?_)
 .intro J;refine iz (pop yd (aI (x:=(⟨0,0,0,0⟩:bI)) u iw rfl rfl λO u=>aD iw u.At ?_));have u:=u.p2.p2;rw[rP (lY cK),yl cK,rQ (lY cK)];exact⟨rfl,(jl.shut u).mut⟩
 refine aE (aA kR (aB iO u.p1.hb rfl (aK fT u.p2.dX (cR ?_))));intro J;refine aC (λV=>?_) (λV=>aV afG u (C216 _ _ _ _ _ (uf.mk' u.p1.hb u.p2.dX) cK) λ_ he u=>bR (aY (λB=>?_) λB=>?_))
 .refine pop yd (aI (x:=(⟨0,0,0,0⟩:bI)) u iw rfl rfl λO u=>aD iw u.At ?_);have u:=u.p2.p2;rw[rP (lY cK),yl cK,rQ (lY cK)];exact⟨rfl,(jl.shut u).mut⟩
 .refine pop yd (aI (x:=(⟨0,0,0,0⟩:bI)) u iw rfl rfl λ_ u=>aD iw u.At ?_);have u:=u.p2.p2;rw[rP (by simpa using B),MG cK (by simpa using B),rQ (by simpa using B)];exact⟨rfl,(jl.shut u).mut⟩
 refine aE (aA kR (aB iO u.p1.hb rfl ?_));obtain⟨G,I⟩:=gx l (i:=(i).toNat) cK;refine dR u.p2 fT cK cK (λ_ M=>gM u.p2 iw M I (aM u rA λPW _ u=>aI (x:=G) u iw rfl rfl λ_ u=>aE (aA kR (aB iO u.p2.hb rfl (dO afH (C223 _ _ _ u.p3.dX cK) ?_)))));rintro _ _ U;have u:=u.made U;refine aN cK (qh am3 u (H':=λv=>bH v (l.eraseIdx i.toNat)) (Φ:=λ_ _=>True) (λF E=>?_) ?_)
 .exact C224 _ i _ F _ E cK cK cK
 rintro W _ _ u;refine aE (aA kR (aT u.p3 iO (dL rfl) u.dX.one λ_ u=>aD iw u.p2.At (aI (x:=G) u.p3 iw rfl rfl λ_ u=>aD iw u.At ?_)));have u:=u.p2.p2;rw[MI (by simpa using B) I,MH (by simpa using B),MJ (by simpa using B)];exact⟨rfl,(jl.shut u).mut⟩
end Go.Proofs.YtpdlpabnlkofmaaGreatDoor

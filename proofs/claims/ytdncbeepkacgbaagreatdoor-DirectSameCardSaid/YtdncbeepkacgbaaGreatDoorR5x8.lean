/-
  Part 8.
-/
import Derived.Test.YtdncbeepkacgbaaGreatDoorR5x7
set_option maxHeartbeats 8000000
set_option linter.all false
set_option maxRecDepth 100000
open Go.Fw.Flat renaming val->jj,enc->jl,sz->og
open List renaming getElem?_eq_some_iff->j0,length_append->lJ,getElem?_eq_getElem->l0,mem_of_getElem?->ml,length_singleton->mv,take_of_length_le->mH,length_take->n0,length_map->oi,append_assoc->o1,replicate->o6,getD_eq_getElem?_getD->pd,getElem?_map->qa,length_cons->qb,range->qi,mem_cons_self->qs,mem_append->qC,append_nil->rM,mem_cons_of_mem->so,length_set->sy,mem_singleton->sU,mem_cons->ta,length_replicate->tr,drop_drop->uL,nil_append->wc,length_nil->x7,getElem?_range->Hj,length_range->Ih,take_length->O2,drop_succ_cons->RG,cons_append->U2,take_left'->VZ,drop_take->WJ,zip_cons_cons->XG,not_mem_nil->abi,drop_left'->abR
open Go.Instr renaming build->mZ,sliceAt->pA,box->zG
open Bool renaming and_eq_true->n3,or_eq_false_iff->sn,true_and->yx,and_eq_false_iff->Ev
open Go.Fw.Deep renaming dr->n4,ext->B4
open Go.Value renaming int->n5
open Nat renaming zero_le->ob,le_refl->qQ,add_comm->aab
open Option renaming some->o5
open Int renaming toNat_natCast->s6,le_refl->u4,emod_lt_of_pos->Xb,emod_nonneg->abM
open Decidable renaming not_not->DY,byContradiction->ab4
open Prod renaming fst->P1
namespace Go.Proofs.YtdncbeepkacgbaaGreatDoor
open Go.Fw
def XL:cC:=⟨0,0,0,[]⟩
def KB(a:PI)(l c:List cC)(bX:Int):cC:=
 if a.kind=2 then {a.p with cut:=a.p.cut.take 22}
 else if a.kind=1/\bX<2/\0<(c.length:Int)then c.getD (xH a.n 65535 % (c.length:Int)).toNat XL
 else if 0<(l.length:Int)then l.getD (xH a.n 65535 % (l.length:Int)).toNat XL else XL
def awR(G:Br)(a:PI)(tl:List cY)(l:List cC)(I:List cY)(c:List cC)(bX:Int)(sh:cY):Prop:=
 (a.kind=2/\KB a l c bX={a.p with cut:=a.p.cut.take 22}/\∃B:SV,sh=⟨a.p.kind,a.p.t,a.p.i,B⟩/\∀E,dP (λ_=>True) E (jj G.p.cut) a.p.cut->dP (λ_=>True) E (jj B) (a.p.cut.take 22))\/
 (∃j:Nat,tl[j]?=some sh/\l[j]?=some (KB a l c bX))\/(∃j:Nat,I[j]?=some sh/\c[j]?=some (KB a l c bX))\/(sh=⟨0,0,0,bO⟩/\KB a l c bX=XL)
theorem Hk{x y:cC}:x=y↔x.kind=y.kind/\x.t=y.t/\x.i=y.i/\x.cut=y.cut:=by
 cases x;cases y;simp
def Ea{α:Type}{xs ys:List α}{k:Nat}{x y:α}(h:xs.take k=ys.take k)(B:xs[k]?=some x)(E:ys[k]?=some y)(e:x=y):xs.take (k+1)=ys.take (k+1):=by
 rw[<- gI B,<- gI E,h,e]
def alN{α:Type}{xs ys:List α}{k:Nat}{x y:α}(B:xs[k]?=some x)(E:ys[k]?=some y)(e:x≠y):xs≠ys:=λh=>by
 grind
theorem getD_some{α:Type}{xs:List α}{k:Nat}{x d:α}(h:xs[k]?=some x):xs.getD k d=x:=dH
def St.Av{w0 w w':World}{A:Nat->Prop}{L:List HP}{Φ:iD}(B:St w0 A (Fw.ep Φ::L) w)(e:Ext w w'):Φ w':=by
 obtain⟨F,h,_⟩:=B.head
 exact h.1 w' λb hb=>e.bU b (h.2 b hb) λx=>x
def C31(U bv:Value)(xs ys:List Bool)(w:World)(I:dP (λ_=>True) w U xs)(W:dP (λ_=>True) w bv ys)(hn:xs.length<=1073741824):CR 31 [U,bv] w (λv w'=>v=.bool (decide (xs=ys))/\Ext w w'):=by
 have B:=St.start w;refine pG Tryz.func31 (pl:=P31) ?_;refine aK CF (I.ext B.aG) (aK CF (W.ext B.aG) (cN (aC (λJ=>⟨vb (gk λh=>by rw[h]at J;exact absurd rfl J).symm,B.aG⟩) λJ=>?_)));refine⟨λV i w'=>∃k:Nat,i=iE (k:Int)/\V=xs.length-k/\k<=xs.length/\xs.take k=ys.take k/\St w bE [] w',⟨_,0,rfl,rfl,ob _,rfl,B⟩,?_⟩;rintro V _ _ ⟨k,rfl,rfl,hk,E,B⟩ _;refine aK CF (I.ext B.aG) (aV (aC (λky=>?_) λ_=>⟨vb (fY (by rw[mH cU,mH cU]at E;exact E)).symm,B.aG⟩))
 obtain⟨jN,O⟩:=gx xs (i:=(k:Int).toNat) cU;refine aW CF I cU O (λ_ Y=>have B:=B.drew;aE HE (Y.ext B.aG) ?_);obtain⟨yF,M⟩:=gx ys (i:=(k:Int).toNat) cU;exact aW CF W cU M (λ_ Z=>aE HE (Z.ext B.aG) (aaQ aAd (aX (λG=>⟨vb (gk (alN O M (by simpa using G))).symm,B.aG⟩) λG=>aR cU ⟨_,cU,k+1,rfl,rfl,cU,Ea E O M (by simpa using G),B⟩)))
def C23(av bv:Value)(xs ys:List cC)(w:World)(hA:DL w av xs)(hB:DL w bv ys)(hn:xs.length<=1073741824)(hc:∀x∈xs,x.cut.length<=1000000):CR 23 [av,bv] w (λv w'=>v=.bool (decide (xs=ys))/\Ext w w'):=by
 have B:=St.start w;refine pG Tryz.func23 (pl:=P23) ?_;obtain⟨awS,O,U⟩:=hA.open;have awT:=U.1;refine aK nd (O.ext B.aG) ?_;obtain⟨awU,Z,Y⟩:=hB.open;have hn133:=Y.1;refine aK nd (Z.ext B.aG) (cN (aC (λ_=>⟨vb (gk λh=>by rw[h]at awT;omega).symm,B.aG⟩) λiQ=>?_));refine⟨λmm i w'=>∃k:Nat,i=iE (k:Int)/\mm=xs.length-k/\k<=xs.length/\xs.take k=ys.take k/\St w bE [] w',⟨_,0,rfl,rfl,ob _,rfl,B⟩,?_⟩;rintro mm _ _ ⟨k,rfl,rfl,hk,J,B⟩ _;refine aK nd (O.ext B.aG) (aV (aC (λky=>?_) λ_=>⟨vb (fY (by rw[mH cU,mH cU]at J;exact J)).symm,B.aG⟩))
 obtain⟨ra,M⟩:=gx xs (i:=k) cU;obtain⟨rb,I⟩:=gx ys (i:=k) cU;refine⟨λjv w'=>jv=.bool (!decide (ra=rb))/\St w bE [] w',?_,?_⟩
 .obtain⟨jN,fQ⟩:=gx awS (i:=(k:Int).toNat) cU;obtain⟨bI,qP⟩:=gx xs (i:=(k:Int).toNat) cU;obtain⟨Zz,rfl,ZA⟩:=U.2 _ _ _ fQ qP;refine aW nd O cU fQ (λ_ kW=>cL bI.kind mS kW rfl rfl λ_ QA=>have B:=B.drew;aE bL (QA.ext B.aG) ?_);obtain⟨iY,V⟩:=gx awU (i:=(k:Int).toNat) cU;obtain⟨W,z8⟩:=gx ys (i:=(k:Int).toNat) cU;obtain⟨ZB,rfl,ZC⟩:=Y.2 _ _ _ V z8;refine aW nd Z cU V (λ_ wL=>cL (W).kind mS wL rfl rfl λ_ zY=>aE bL (zY.ext B.aG) ?_)
  have E:ra=bI:=o5.inj (M.symm.trans qP);have G:rb=W:=o5.inj (I.symm.trans z8);have hcx:=hc _ (ml qP);refine cN (aC (λ_=>⟨vb (by rw[E,G];rw[gk λh=>by rw[Hk]at h;omega];rfl),B⟩) λkD=>aW nd O cU fQ λ_ yz=>cL bI.t im yz rfl rfl λ_ Dh=>aE bL (Dh.ext B.aG) (aW nd Z cU V λ_ Ds=>cL (W).t im Ds rfl rfl λ_ Iv=>aE bL (Iv.ext B.aG) (cN (aC (λ_=>⟨vb (by rw[E,G];rw[gk λh=>by rw[Hk]at h;omega];rfl),B⟩) λIk=>aW nd O cU fQ λ_ DU=>cL bI.i qY DU rfl rfl λ_ aeF=>aE bL (aeF.ext B.aG) (aW nd Z cU V λ_ Q8=>cL (W).i qY Q8 rfl rfl λ_ awV=>aE bL (awV.ext B.aG) (cN (aC (λ_=>⟨vb (by rw[E,G];rw[gk λh=>by rw[Hk]at h;omega];rfl),B⟩) λDW=>aW nd O cU fQ λ_ IQ=>cL Zz pK IQ rfl rfl λ_ IS=>aE eD (IS.ext B.aG) ?_)))))))
  have awW:=DL.flat ZA;refine aW nd Z cU V (λ_ QD=>cL ZB pK QD rfl rfl λ_ aek=>aE eD (aek.ext B.aG) ?_);have awX:=DL.flat ZC;exact aY X7 B (C26 _ _ bI.cut (W).cut _ (awW.ext B.aG) (awX.ext B.aG) cU) (λ_ _ B=>bJ ⟨vb (by rw[E,G];exact gD (λb=>!b) (gv.2 (by rw[Hk];exact⟨λh=>⟨cU,cU,cU,h⟩,λh=>h.2.2.2⟩))),B⟩)
 rintro _ _ ⟨rfl,B⟩ _;exact aX (λAc=>⟨vb (gk (alN M I (by simpa using Ac))).symm,B.aG⟩) (λAc=>aR cU ⟨_,cU,k+1,rfl,rfl,cU,Ea J M I (by simpa using Ac),B⟩)
def C36(a:PI)(av:Br)(lv cv:Value)(G:List cY)(l:List cC)(E:List cY)(c:List cC)(bX:Int)(w:World)(ha:n4 w av a)(J:dP (λ_=>True) w lv G)(W:jx G l w)(M:dP (λ_=>True) w cv E)(Y:jx E c w)(hl1:l.length<=1073741824)(Cm:c.length<=1073741824):CR 36 [jj av,lv,cv,iE bX] w (λv w'=>∃sh:cY,v=jj sh/\Ext w w'/\awR av a G l E c bX sh):=by
 obtain⟨g_p_a,rfl,awY⟩:=ha;obtain⟨V,rfl,ZD⟩:=awY;have hn8:=W.1;have hn9:=Y.1;have hAn:=BM a.n (b:=65535) cU cU;have B:=St.start w;refine fD Tryz.func36 ?_;have I:=DL.flat ZD;refine cP (x:=(⟨a.kind,a.n,(⟨a.p.kind,a.p.t,a.p.i,V⟩:cY)⟩:Br)) B (λb_a4 _ B=>aJ B EG λEP w2 B=>have B:=B.enc (cs':=jl (⟨0,0,0,bO⟩:cY)) rfl;aA agI (aB (v:=iE a.n) bL B.p1.hb rfl (VJ er er (aA MN (aB (v:=iE a.kind) bL B.p1.hb rfl (aI (aC (λO=>?_) λO=>⟨λjv w'=>jv=.bool (decide (a.kind=1/\bX<2/\0<(c.length:Int)))/\w2=w',aA MN (aB (v:=iE a.kind) bL B.p1.hb rfl (aI (aC (λ_=>aV (aC (λ_=>aK nd (M.ext B.aG) (eh ⟨Hw cU,rfl⟩)) λ_=>⟨jvF cU,rfl⟩)) λ_=>⟨jvF cU,rfl⟩))),?_⟩)))))))
 .refine aA MO (oO (⟨a.p.kind,a.p.t,a.p.i,V⟩:cY) oc B.p1.hb rfl (aJ B EG λb_p10 _ B=>have B:=B.enc (cs':=jl (⟨0,0,0,bO⟩:cY)) rfl;aH (x:=(⟨a.p.kind,a.p.t,a.p.i,V⟩:cY)) B oc rfl rfl λ_ B=>aA MO (aA pK (aB (v:=jj (V:SV)) eD B.p2.hb rfl (aA MO (aA pK (aB (v:=jj (V:SV)) eD B.p2.hb rfl (aK dZ (I.ext B.aG) (u6 (oU dZ (I.ext B.aG) cU cU λabm NT=>?_))))))))));have aps:=NT _ I;refine aA pK ?_
  obtain⟨U,rfl⟩:=aps.fK;exact aO B eD (ei rfl) (rfl) (λ_ B=>have B:=B.enc (cs':=jl (⟨a.p.kind,a.p.t,a.p.i,U⟩:cY)) rfl;aE oc B.At (aH (x:=(⟨a.p.kind,a.p.t,a.p.i,U⟩:cY)) B.p1 oc rfl rfl λ_ B=>aE oc B.At ⟨_,rfl,B.aG,.inl ⟨O,ez O,_,rfl,λw2 h=>by have h3:=NT w2 h;have e:=YG a.p.cut 22;rw[show((22:Nat):Int)=22 from rfl]at e;rwa [e]at h3⟩⟩))
 rintro _ _ ⟨rfl,hw⟩ _;subst hw;refine aC (λn8=>?_) (λn8=>aK nd (J.ext B.aG) (eh (aC (λyy=>?_) λ_=>pop (v:=jj (⟨0,0,0,bO⟩:cY)) (by kernel_rfl) (aH (x:=(⟨0,0,0,bO⟩:cY)) B oc rfl rfl λ_ B=>aE oc B.At ⟨⟨0,0,0,bO⟩,rfl,B.aG,.inr (.inr (.inr ⟨rfl,by unfold KB;rw[ew O,ew cU,ew cU]⟩))⟩))))
 .have aDL:=abM (xH a.n 65535) (show(E.length:Int)≠0 by omega);have aDM:=Xb (xH a.n 65535) (show(0:Int)<E.length by omega);refine aK nd (M.ext B.aG) (VI cU cU ?_);obtain⟨e_x47,U3⟩:=gx E (i:=((xH a.n 65535) % (E.length:Int)).toNat) cU;obtain⟨XM,I1⟩:=gx c (i:=((xH a.n 65535) % (E.length:Int)).toNat) cU;obtain⟨ZE,rfl,aqk⟩:=Y.2 _ _ _ U3 I1;refine aW nd M cU U3 (λ_ Qt=>aE oc (Qt.ext B.aG) (aH (x:=(⟨XM.kind,XM.t,XM.i,ZE⟩:cY)) B oc rfl rfl λ_ B=>aE oc B.At ?_))
  have hq:KB a l c bX=XM:=by unfold KB;rw[ew O,ez cU,getD_some (by rw[<- hn9];exact I1)]
  exact⟨_,rfl,B.aG,.inr (.inr (.inl ⟨_,U3,by rw[hq];exact I1⟩))⟩
 have aDL:=abM (xH a.n 65535) (show(G.length:Int)≠0 by omega);have aDM:=Xb (xH a.n 65535) (show(0:Int)<G.length by omega);refine aK nd (J.ext B.aG) (VI cU cU ?_);obtain⟨Wi,vL⟩:=gx G (i:=((xH a.n 65535) % (G.length:Int)).toNat) cU;obtain⟨Z,EZ⟩:=gx l (i:=((xH a.n 65535) % (G.length:Int)).toNat) cU;obtain⟨ZF,rfl,aql⟩:=W.2 _ _ _ vL EZ;refine aW nd J cU vL (λ_ IQ=>aE oc (IQ.ext B.aG) (aH (x:=(⟨Z.kind,Z.t,Z.i,ZF⟩:cY)) B oc rfl rfl λ_ B=>aE oc B.At ?_))
 have hq:KB a l c bX=Z:=by unfold KB;rw[ew O,ew cU,ez cU,getD_some (by rw[<- hn8];exact EZ)]
 exact⟨_,rfl,B.aG,.inr (.inl ⟨_,vL,by rw[hq];exact EZ⟩)⟩
structure SF(p:bQ)(m:jU)(n:Nat):Prop where
 pm:PM p m
 mb:MB m.mem n
 cr:m.bX<=n
def SF.do{p:bQ}{m m2:jU}{n N:Nat}{q:cC}{ev:bZ}{e:Int}(h:SF p m n)(B:Jo N m q=some (m2,ev,e)):SF p m2 (n+1):=
 ⟨h.pm.do B,h.mb.do B,by have:=(JL B).1;have:=h.cr;omega⟩
def SF.new{p:bQ}{N:Nat}{room:Int}{kC:List fN}(h:Bt p)(hb:vY N (eM p).threads kC)(ht:∀t∈kC,JQ p t)(B:1<=room/\room<=16):SF p (mO (m6 (eM p) room) kC) 0:=
 ⟨PM.new h hb ht B,MB.new,u4 _⟩
section
variable {p:bQ}{K:iD}{q:Nat}{m:jU}{n:Nat}{w:World}
theorem aDN(h:SF p m n)(E:Has (fZ K q m) w)(B:K w)(G:∀w',Ext w w'->K w'):Calls hZ 24 [(.pointer (some ⟨q,0,none⟩))].toArray w (rZ λv w'=>mf (fe v (gV m)) w w'):=C24 K q m w E B G h.pm.gm.ok
theorem awZ(h:SF p m n)(E:Has (fZ K q m) w)(B:K w)(G:∀w',Ext w w'->K w'):Calls hZ 25 [(.pointer (some ⟨q,0,none⟩))].toArray w (rZ λv w'=>v=jj (rk m)/\Ext w w'):=C25 K q m w E B G h.pm.gm.ok
theorem aw0(h:SF p m n)(E:Has (fZ K q m) w)(B:K w)(G:∀w',Ext w w'->K w'):Calls hZ 28 [(.pointer (some ⟨q,0,none⟩))].toArray w (rZ λv w'=>mf (bG v m.mem.l) w w'):=C28 K q m w E B G h.pm.gm.ok
theorem aDO(h:SF p m n)(E:Has (fZ K q m) w)(B:K w)(G:∀w',Ext w w'->K w'):Calls hZ 30 [(.pointer (some ⟨q,0,none⟩))].toArray w (rZ λv w'=>mf (bG v m.mem.kept) w w'):=C30 K q m w E B G h.pm.gm.ok
theorem aDP(h:SF p m n)(B:n<=1000000)(G:(eN (Ca m.mem)).length<=1000000000)(I:Has (fZ K q m) w)(E:K w)(J:∀w',Ext w w'->K w'):Calls hZ 35 [(.pointer (some ⟨q,0,none⟩))].toArray w (rZ λv w'=>mf (fe v (qk m)) w w'):=C35 K q m w I E J h.pm.gm.ok (h.mb.mono B) G
theorem aDQ(h:SF p m n)(E:Has (fZ K q m) w)(B:K w)(G:∀w',Ext w w'->K w'):Calls hZ 33 [(.pointer (some ⟨q,0,none⟩))].toArray w (rZ λv w'=>mf (bG v (DO m)) w w'):=by
 have h1:=h.pm.gm.ru.st;have h2:=h.pm.gm.ru.fl;have h3:=h.pm.gm.mem.ll;have h4:=h.pm.gm.dD
 exact C33 K q m w E B G h.pm.gm.ok h.pm.gm.uz.cB h.pm.gm.uz.cl ⟨h1.1,by rw[h3,h4];omega⟩
theorem aDR{N:Nat}{k:cC}{B:SV}{m2:jU}{ev:bZ}{e:Int}{F:Nat->Prop}(h:SF p m n)(G:n<=1000000)(I:Jo N m k=some (m2,ev,e))(E:k.cut.length<=1000)(M:(fZ K q m).p w F)(O:∀w',gZ F w w'->K w')(J:∀w',gZ F w w'->dP (λ_=>True) w' (jj B) k.cut) :
  Calls hZ 38 [(.pointer (some ⟨q,0,none⟩)),jj (⟨k.kind,k.t,k.i,B⟩:cY)].toArray w (rZ λv w'=>v=.tuple #[jj ev,iE e]/\ng F (fZ K q m2) w w'):=
 C38 K q m N k B m2 ev e F w M O h.pm.gm.ok (h.mb.mono G) ⟨h.pm.gm.cr,by have:=h.cr;omega⟩ (h.pm.gm.ru.rc.ok h.pm.gm.uz.rc) (by have:=h.pm.gm.ru.lk;omega) J E I
theorem aDS(u:ki)(B:eO)(room:Int)(N:Nat)(kC:List fN)(J:n4 w B u)(I:UZ u)(E:qR u=true)(G:adT N u kC)(h1:1<=room)(h2:room<=16):Calls hZ 20 [jj B,iE room].toArray w (rZ λv w'=>∃K p,v=.tuple #[.pointer (some ⟨p,0,none⟩),iE 0]/\mf (sep (fZ K p (mO (m6 u room) kC)) (ep K)) w w'):=
 (C20 u B room N kC w J I λ_=>G).mono λ_ _ r=>r.mono λ_ _ h=>by
  rcases h with⟨h3,_⟩|⟨_,h3,_⟩|⟨_,_,_,h3⟩
  .rw[E]at h3;cases h3
  .omega
  .exact h3
end
structure uR(p:bQ)(m:jU)(d:j4):Prop where
 dp:d.p=p
 room:m.room=d.room
 mem:m.mem=d.mem
 lk:m.locks=d.fC
 cr:m.bX=d.bX
 ft:m.fault=d.fault
 fy:m.fB=d.fB
 len:m.l.length=d.l.length
 th:∀(i:Nat) (a:fN) (b:kG),m.l[i]?=some a->d.l[i]?=some b->uD p a b/\Cj p a b/\Ek a
section
variable {p:bQ}{m m2:jU}{d d2:j4}{a a2:fN}{b b2:kG}{x:bD}{y:aU}{i:Nat}{N:Nat}{q:cC}{ev:bZ}{e:Int}{xa xb:Bk}
theorem afk(J:uD p a b)(B:Cj p a b)(I:Vis a)(E:G8 a)(G:a.fault=0):(gj a=none/\b.cD=[])\/∃x xa xb,gj a=some (eE p b.names x)/\sX b.cD=some (x,xa,xb)/\2<=x.kind/\x.kind<=10/\(eE p b.names x).kind=x.kind/\GdS p b.names x/\∀lp o,ai4 a.code.l p b.names a.counts b.cD a.at_ lp o->iC a.code.l p b.names a.counts (iM b.cD) (a.at_+1) lp o:=by
 rcases JR B E.Sr with h|⟨y,x,xa,xb,h1,h2,h3⟩
 .grind
 have M:=I y h1 G
 grind
theorem apt(h:uR p m d)(B:uD p a b)(J:Cj p a b)(V:Vis a)(G:G8 a):yT m a=Bi d b:=by
 by_cases E:a.fault=0
 .rcases afk B J V G E with⟨h1,h2⟩|⟨x,xa,xb,h1,h2,W,M,U,Z,_⟩
  .unfold yT Bi;rw[h1,h2];rfl
  have O:b.fault=0:=by rw[<- B.ft];exact E
  unfold yT Bi
  rw[h1,h2]
  dsimp only
  rw[U,B.bf,h.room,h.lk,ew (show ¬ a.fault≠0 by omega)]
  by_cases k:x.kind=2
  .simp[k]
  rw[ew (show ¬ (b.fault≠0\/x.kind=2)by omega)]
  by_cases I:x.kind=3\/x.kind=5\/x.kind=6\/x.kind=7
  .grind
  rw[ew I,ew I]
  by_cases Y:x.kind=9
  .have eb:(eE p b.names x).b=bR (cR d.p) x.name:=by
    rw[h.dp];show(if x.kind=2\/x.kind=3\/x.kind=4 then _ else if x.kind=5\/x.kind=6 then _ else if x.kind=9\/x.kind=10 then bR (cR p) x.name else 0)=_
    omega
   grind
  grind
 have O:¬ b.fault=0:=by rw[<- B.ft];exact E
 unfold yT Bi
 rcases JR J G.Sr with⟨h1,h2⟩|⟨y,x,xa,xb,h1,h2,_⟩
 .rw[h1,h2];rfl
 grind
theorem uR.both(h:uR p m d)(hi:m.l[i]?=some a):∃b,d.l[i]?=some b/\uD p a b/\Cj p a b/\Ek a:=by
 have B:=(j0.1 hi).1
 have E:=h.len
 obtain⟨b,hb⟩:=gx d.l (i:=i) cU
 exact⟨b,hb,h.th i a b hi hb⟩
theorem uR.nob(h:uR p m d)(hi:m.l[i]?=none):d.l[i]?=none:=by
 rw[List.getElem?_eq_none_iff]at hi |-
 have:=h.len;omega
theorem JS(h:uR p m d)(I:PM p m):gV m=gE d:=by
 unfold gV gE
 rw[h.ft,h.len]
 split
 .rfl
 unfold lz jw
 congr 1
 funext i
 cases hi:m.l[i]? with
 | none=>rw[h.nob hi]
 | some a=>
  obtain⟨b,hb,B,G,_⟩:=h.both hi
  rw[hb]
  dsimp only
  have E:=I.gm.th a (ml hi)
  unfold vW rj
  rw[apt h B G E.2.1 E.1,B.bf]
theorem U4(h:uR p m d):qk m=jO d:=by
 unfold qk jO
 rw[h.ft,h.mem]
theorem ai6(h:uR p m d)(J:PM p m):uw m=xu d:=by
 unfold uw xu
 rw[h.ft,h.len]
 congr 2
 apply gD (List.any _)
 funext i
 cases hi:m.l[i]? with
 | none=>rw[h.nob hi]
 | some a=>
  obtain⟨b,hb,B,E,_⟩:=h.both hi
  rw[hb]
  dsimp only
  have I:=J.gm.th a (ml hi)
  unfold DN Ak
  rw[B.bf]
  rcases JR E I.1.Sr with⟨h1,h2⟩|⟨y,x,xa,xb,h1,h2,_⟩
  .grind
  .rw[h1]
   obtain⟨r,e,M,G⟩:=LO h2
   grind
theorem ZG(h:uR p m d)(B:PM p m):rk m=jq d:=by
 unfold rk jq Al Fi
 rw[ai6 h B,JS h B,h.cr,h.ft,h.fy]
theorem ZH(h:uR p m d)(B:PM p m)(E:d.mem.l.length=(bW p).length):DO m=vr d:=by
 unfold DO vr
 rw[B.u,h.dp]
 show(p.cB.map λc=>eL (gi p) c.e).map (v8 m)=_
 rw[List.map_map]
 refine List.map_congr_left λc hc=>?_
 show v8 m (eL (gi p) c.e)=vq d c
 have h1:gM c.e=true:=(B.chk.pf.cl c hc).2
 have h2:oI c.e (gi p)=false:=by simpa using B.chk.cB c hc
 have h3:=XK ⟨h1,h2⟩
 unfold v8 vq
 rw[B.u,h.mem,h.dp]
 show(decide ((runM (eL (gi p) c.e) (d.mem.l.take (cZ p).toNat)).2=0)&&decide ((runM (eL (gi p) c.e) (d.mem.l.take (cZ p).toNat)).1≠0))=_
 unfold BX
 rw[ez (by unfold gi;rw[n0,n0,E]),ez h3]
theorem ZI(hc:Hh p)(O:Bt p){t:cE}{cs ls:List ByteArray}(hb:qu t.body=some xb)(I:xb.str)(G:xb.ok 0=true)(J:∀x∈xb.flat,GdS p t.aS x):uD p (qU (jM p t)) (DM t):=by
 have M:=oY xb
 have B:jM p t=⟨t.aS.length,jD xb,dG p t.aS xb 0 0 0⟩:=by unfold jM;rw[hb]
 have E:Z5 t.body=xb:=by unfold Z5;rw[hb];rfl
 have el:=fL p t.aS xb 0 0 0
 refine⟨by show(o6 _ _).length=_;rw[tr];rfl,?_,rfl,rfl,0,0,?_⟩
 .rw[B];show o6 (t.aS.length:Int).toNat 0=_;rw[s6];rfl
 rw[B]
 show iC (dG p t.aS xb 0 0 0) p t.aS (o6 (jD xb).toNat 0) (lY (Z5 t.body) false []) 0 0 0
 rw[E]
 refine iC.push ⟨u4 _,λk _=>by rw[show(0:Int).toNat+k=k from et]⟩ (Oh.of xb 0 I G (u4 _) (by rw[tr];omega) J) ⟨?_,rfl⟩
 rw[show(0:Int)+aZ xb=((dG p t.aS xb 0 0 0).length:Int)from cU]
 exact .nil _
theorem apu(h:Zr p b.names x)(I:x.kind=12->1<=x.n/\x.n<=8):GdS p b.names x:=by
 have E:=h.nb
 have G:=h.nb
 unfold oJ at E
 simp only[sn]at E
 refine⟨h.fit.kind,?_,?_,λB=>h.fit.e0 cU,λB=>h.fit.f0 cU,I,G⟩
 .by_cases B:x.kind=1\/x.kind=3\/x.kind=4\/x.kind=11\/x.kind=14
  .exact .inr ⟨h.fit.e1 B,E.1.2⟩
  exact .inl (h.fit.e0 B)
 by_cases B:x.kind=4
 .exact .inr ⟨h.fit.f1 B,E.2⟩
 exact .inl (h.fit.f0 B)
theorem Ok(hc:Hh p)(B:Bt p){t:cE}(ht:t∈je p):uD p (qU (jM p t)) (DM t):=by
 obtain⟨b,h1,h2,h3,h4,h5,h6,I,E,_⟩:=B.tree ht
 refine ZI (cs:=[]) (ls:=[]) hc B E h2 h3 λx G=>?_
 refine apu (b:=DM t) (B.stk ht x dH) (h5 x G)
theorem Sd(hc:Hh p)(G:Bt p){t:cE}(ht:t∈je p)(B:Cb (jM p t))(E:tm N (qU (jM p t))=some a):uD p a (Y0 t)/\Cj p a (Y0 t)/\Ek a:=by
 have h1:=Ok hc G ht
 have h2:=(qm (Hi hc ht)).1
 have h3:=D9 h1 (DI B) E h2
 exact⟨h3.1,h3.2,Oj E⟩
end
section
variable {p:bQ}{m m2:jU}{d d2:j4}{a a2 t2:fN}{b b2:kG}{x:bD}{y:aU}{i:Int}{N:Nat}{q:cC}{ev:bZ}{e:Int}{xa xb:Bk}
theorem Mj(h:uR p m d):jg m q=m8 d q:=by
 unfold jg m8
 rw[h.ft,h.mem]
theorem ZJ(hc:Hh p)(I:Bt p)(M:d.p=p)(B:tm N (qU (eM p).recover)=some a):∃t,yV d=[t]/\uD p a (Y0 t)/\Cj p a (Y0 t)/\Ek a:=by
 have G:=uC (rn I).1
 have E:=G.rc.ok (rn I).2.rc
 have h1:=hc.f.one
 unfold yV
 rw[M]
 cases hr:p.recover with
 | nil=>
  have e:(eM p).recover=⟨0,0,[]⟩:=by show(match p.recover[0]? with|some t=>jM p t|none=>⟨0,0,[]⟩)=_;rw[hr];rfl
  refine⟨⟨⟨#[]⟩,[],[],0⟩,rfl,?_⟩
  rw[e]at B E
  have J:uD p (qU ⟨0,0,[]⟩) (DM ⟨⟨#[]⟩,[],[],0⟩):=⟨rfl,rfl,rfl,rfl,0,0,.nil _,rfl⟩
  have h3:=D9 J (DI E) B (qm (R0 (p:=p))).1
  exact⟨h3.1,h3.2,Oj B⟩
 | cons t r=>
  have O:r=[]:=by rw[hr]at h1;simpa using h1
  subst O
  have e:(eM p).recover=jM p t:=by show(match p.recover[0]? with|some t=>jM p t|none=>⟨0,0,[]⟩)=_;rw[hr];rfl
  rw[e]at B E
  have ht:t∈je p:=List.mem_append_right _ (by rw[hr];exact sU.2 rfl)
  exact⟨t,rfl,Sd hc I ht E B⟩
theorem afl:o6 (eM p).locks.toNat (-1:Int)=o6 (cR p).length (-1):=by
 congr 1
 show(p.locks.length:Int).toNat=_
 unfold cR
 rw[oi,s6]
theorem ZK{lx:List Int}(h:uR p m d)(hc:Hh p)(B:PM p m)(E:tm N (qU m.u.recover)=some a):uR p (mO (Ag m lx) [a]) (yj (vp d lx) (yV d)):=by
 rw[B.u]at E
 obtain⟨t,G,h1⟩:=ZJ hc B.chk h.dp E
 refine⟨h.dp,h.room,by show nH m.mem lx=nH d.mem lx;rw[h.mem],?_,by show m.bX+1=d.bX+1;rw[h.cr],h.ft,h.fy,by rw[G];rfl,λi I M J hb=>?_⟩
 .show o6 m.u.locks.toNat (-1)=o6 (cR d.p).length (-1)
  rw[B.u,h.dp];exact afl
 have O:[a][i]?=some I:=J
 have U:((yV d).map Y0)[i]?=some M:=hb
 grind
theorem XN{dl:List kG}{B:List fN}(h:∀(i:Nat) (a:fN) (b:kG),B[i]?=some a->dl[i]?=some b->uD p a b/\Cj p a b/\Ek a){k:Nat}(h2:uD p a2 b2/\Cj p a2 b2/\Ek a2):∀(i:Nat) (a:fN) (b:kG),(B.set k a2)[i]?=some a->(dl.set k b2)[i]?=some b->uD p a b/\Cj p a b/\Ek a:=by
 grind
theorem ai7(h:uR p m d)(G:m.l[q.t.toNat]?=some a)(hb:d.l[q.t.toNat]?=some b):uR p (nK m a q) (DK d b q):=by
 obtain⟨B,I,E⟩:=h.th _ a b G hb
 refine⟨h.dp,h.room,by show gB m.mem (cO a.buf q.i)=gB d.mem (cO b.buf q.i);rw[h.mem,B.bf],h.lk,h.cr,h.ft,h.fy,by show(m.l.set _ _).length=(d.l.set _ _).length;rw[sy,sy];exact h.len,?_⟩
 exact XN h.th ⟨⟨B.rl,B.rg,by show iH a.buf q.i=iH b.buf q.i;rw[B.bf],B.ft,B.pl⟩,I,E⟩
theorem Ol(B:d.p=p){rs:List ByteArray}(E:x.kind=2\/x.kind=3\/x.kind=4):(eE p rs x).b=ik d x:=by
 unfold ik;rw[B];show(if x.kind=2\/x.kind=3\/x.kind=4 then _ else _)=_;rw[ez E]
theorem XO(B:d.p=p){rs:List ByteArray}(E:x.kind=5\/x.kind=6):(eE p rs x).b=j5 d x:=by
 unfold j5 ik;rw[B];show(if x.kind=2\/x.kind=3\/x.kind=4 then _ else if x.kind=5\/x.kind=6 then _ else _)=_;omega
theorem Om(B:d.p=p){rs:List ByteArray}(E:x.kind=9\/x.kind=10):(eE p rs x).b=jk d x:=by
 unfold jk;rw[B];show(if x.kind=2\/x.kind=3\/x.kind=4 then _ else if x.kind=5\/x.kind=6 then _ else if x.kind=9\/x.kind=10 then _ else _)=_;omega
theorem apv{rs:List ByteArray}(B:x.kind=7\/x.kind=8):(eE p rs x).b=0:=by
 show(if x.kind=2\/x.kind=3\/x.kind=4 then _ else if x.kind=5\/x.kind=6 then _ else if x.kind=9\/x.kind=10 then _ else 0)=_;omega
structure ai8(p:bQ)(a2:fN)(b2:kG)(a:fN)(b:kG):Prop where
 rl:b2.aS.length=b.aS.length
 rg:a2.aS=b2.aS
 bf:a2.buf=b2.buf
 ft:a2.fault=b2.fault
theorem Se(B:uD p a b){n:Int}{a2:fN}(h1:a2.aS=a.aS.set (eE p b.names x).a.toNat n)(h2:a2.buf=a.buf)(h3:a2.fault=a.fault):ai8 p a2 (v7 b x.eY n) a b:=by
 have E:(eE p b.names x).a.toNat=(bR b.names x.eY).toNat:=by show(max 0 (bR b.names x.eY)).toNat=_;omega
 exact⟨by show(b.aS.set _ _).length=_;rw[sy],by rw[h1,E,B.rg];rfl,by rw[h2,B.bf];rfl,by rw[h3,B.ft];rfl⟩
theorem ai9(h:uR p m d)(hc:Hh p)(hp:PM p m)(B:uD p a b)(hE:Ek a)(hf:a.fault=0)(hn:gj a=some (eE p b.names x))(k2:2<=x.kind)(k10:x.kind<=10)(hg:GdS p b.names x)(Eb:¬ (x.kind=10/\d.fC.getD (jk d x).toNat 0≠i)) :
  (dS m a i (eE p b.names x)).2.2=(eZ d b i x).2.2/\(dS m a i (eE p b.names x)).1.mem=(eZ d b i x).1.mem/\(dS m a i (eE p b.names x)).1.locks=(eZ d b i x).1.fC/\(dS m a i (eE p b.names x)).1.fault=m.fault/\(dS m a i (eE p b.names x)).1.fB=m.fB/\(dS m a i (eE p b.names x)).1.bX=m.bX/\ai8 p (dS m a i (eE p b.names x)).2.1 (eZ d b i x).2.1 a b:=by
 obtain⟨ee,ef⟩:=hE _ hn hf
 obtain⟨ve,vf⟩:=afh B hg
 rw[ve]at ee
 rw[vf]at ef
 have hk:(eE p b.names x).kind=x.kind:=by show(if x.kind=14 then 15 else x.kind)=_;omega
 have J:ai8 p a b a b:=⟨rfl,B.rg,B.bf,B.ft⟩
 unfold dS eZ
 rw[hk]
 by_cases k:x.kind=2
 .have hb:=Ol h.dp (rs:=b.names) (x:=x) (.inl k)
  rw[ez k,ez k]
  have U:Ge m a (eE p b.names x)=o7 d b (ik d x):=by
   unfold Ge o7;rw[hb,B.bf,h.mem]
  refine⟨?_,h.mem,h.lk,rfl,rfl,rfl,?_⟩
  .show Jk m a _=Fh d b x
   unfold Jk Fh;rw[U,hb,B.bf]
  exact Se B (by show a.aS.set _ _=_;rw[U]) rfl rfl
 by_cases I:x.kind=4
 .have hb:=Ol h.dp (rs:=b.names) (x:=x) (.inr (.inr I))
  rw[ew k,ez I,ew k,ew cU,ew cU,ew cU,ew cU,ew cU,ez I]
  have Y:(yb m a (eE p b.names x)).mem=(yh d b x).mem/\(yb m a (eE p b.names x)).locks=(yh d b x).fC/\(yb m a (eE p b.names x)).fault=m.fault/\(yb m a (eE p b.names x)).fB=m.fB/\(yb m a (eE p b.names x)).bX=m.bX:=by
   unfold yb yh
   rw[hb,ee,ef,h.mem]
   split
   .exact⟨rfl,h.lk,rfl,rfl,rfl⟩
   .exact⟨h.mem,h.lk,rfl,rfl,rfl⟩
  refine⟨?_,Y.1,Y.2.1,Y.2.2.1,Y.2.2.2.1,Y.2.2.2.2,?_⟩
  .show NJ m a _=Aj d b x
   unfold NJ Aj;rw[hb,ee,ef,h.mem]
  exact Se B (by show a.aS.set _ _=_;rw[hb,h.mem]) rfl rfl
 by_cases M:x.kind=8
 .rw[ew k,ew I,ez M,ew k,ew cU,ew cU,ew cU,ew cU,ez M]
  exact⟨rfl,h.mem,h.lk,rfl,rfl,rfl,J⟩
 by_cases O:x.kind=9
 .have hb:=Om h.dp (rs:=b.names) (x:=x) (.inl O)
  rw[ew k,ew I,ew M,ez O,ew k,ew cU,ew cU,ew cU,ew cU,ew M,ew I,ez O]
  refine⟨by rw[hb],h.mem,?_,rfl,rfl,rfl,J⟩
  show m.locks.set _ _=d.fC.set _ _
  rw[hb,h.lk]
 by_cases G:x.kind=10
 .have hb:=Om h.dp (rs:=b.names) (x:=x) (.inr G)
  have W:d.fC.getD (jk d x).toNat 0=i:=ab4 λhh=>Eb ⟨G,hh⟩
  rw[ew k,ew I,ew M,ew O,ez G,ew k,ew cU,ew cU,ew cU,ew cU,ew M,ew I,ew O]
  have hgm:sK m i (eE p b.names x)={m with locks:=m.locks.set (jk d x).toNat (-1)}:=by
   unfold sK;rw[hb,h.lk,ez W]
  have zd:BB m i (eE p b.names x)=⟨11,0,jk d x,0,0⟩:=by
   unfold BB;rw[hb,h.lk,ez W]
  dsimp only
  rw[hgm,zd]
  refine⟨rfl,h.mem,?_,rfl,rfl,rfl,J⟩
  show m.locks.set _ _=d.fC.set _ _
  rw[h.lk]
 rw[ew k,ew I,ew M,ew O,ew G,ew k]
 have E:∀z,ql m a (eE p b.names x)=z->ai8 p (xo m a (eE p b.names x)) (Bj d b z) a b:=λz hz=>by
  refine⟨rfl,B.rg,?_,B.ft⟩
  show qw m.room a.buf (ql m a _)=qw d.room b.buf z
  rw[hz,h.room,B.bf]
 by_cases k3:x.kind=3
 .have hb:=Ol h.dp (rs:=b.names) (x:=x) (.inr (.inl k3))
  rw[ez k3]
  have Z0:m.u.lines.getD (ik d x).toNat 0=j5 d x:=by
   have Z:=hg.nb
   unfold oJ at Z
   simp only[sn,Ev,decide_eq_false_iff_not]at Z
   have h0:0<=ik d x:=by unfold ik;rw[h.dp];omega
   have h1:ik d x<(gS p).length:=by
    unfold ik;rw[h.dp]
    have:=As (ns:=bW p) (s:=x.name) cU
    unfold bW at this |-
    grind
   have h2:=Au (p:=p) (i:=(ik d x).toNat) cU
   rw[hp.u,pd,h2,Option.getD_some]
   unfold j5
   rw[h.dp,Int.toNat_of_nonneg h0]
  have hy:ql m a (eE p b.names x)=⟨3,j5 d x,ik d x,(eS b x.e).1⟩:=by
   unfold ql;grind
  refine⟨?_,h.mem,h.lk,rfl,rfl,rfl,E _ hy⟩
  show uh m a _=_
  unfold uh;rw[hy,hk,hb,k3];rfl
 rw[ew k3]
 have hy0:ql m a (eE p b.names x)=⟨x.kind,(eE p b.names x).b,0,0⟩:=by unfold ql;grind
 have Lm:uh m a (eE p b.names x)=⟨Af x.kind,0,(eE p b.names x).b,0,0⟩:=by unfold uh;grind
 by_cases V:x.kind=5
 .have hb:=XO h.dp (rs:=b.names) (x:=x) (.inl V)
  rw[ez V]
  refine⟨?_,h.mem,h.lk,rfl,rfl,rfl,E _ dH⟩
  show uh m a _=_
  rw[Lm,hb,V];rfl
 by_cases k6:x.kind=6
 .have hb:=XO h.dp (rs:=b.names) (x:=x) (.inr k6)
  rw[ew V,ez k6]
  refine⟨?_,h.mem,h.lk,rfl,rfl,rfl,E _ dH⟩
  show uh m a _=_
  rw[Lm,hb,k6];rfl
 have k7:x.kind=7:=cU
 have hb:=apv (p:=p) (rs:=b.names) (x:=x) (.inl k7)
 rw[ew V,ew k6,ez k7]
 refine⟨?_,h.mem,h.lk,rfl,rfl,rfl,E _ dH⟩
 show uh m a _=_
 rw[Lm,hb,k7];rfl
end
section
variable {p:bQ}{m m2:jU}{d d2:j4}{a a2 t2:fN}{b b2:kG}{x:bD}{y:aU}{i:Int}{N:Nat}{q:cC}{ev:bZ}{e:Int}{xa xb:Bk}
theorem afm(h:uR p m d)(hc:Hh p)(hp:PM p m)(hd:rU d)(h0:m.fault=0)(I:m.l[i.toNat]?=some a)(yW:yT m a=true)(hs:nL N m i=some (m2,ev)):uR p m2 (jP d i).1/\(jP d i).2=ev:=by
 obtain⟨b,hb,B,hR,hE⟩:=h.both I
 have hg:=hp.gm.th a (ml I)
 have hdp:=h.dp
 by_cases M:a.fault≠0
 .obtain⟨rfl,rfl⟩:=AS hs I M
  have Z:b.fault≠0:=by rw[<- B.ft];exact M
  have e:jP d i=({d with fault:=b.fault,fB:=i},⟨16,i,b.fault,0,0⟩):=by unfold jP;rw[hb];dsimp only;rw[ez Z]
  rw[e]
  exact⟨⟨h.dp,h.room,h.mem,h.lk,h.cr,B.ft,rfl,h.len,h.th⟩,by rw[B.ft]⟩
 have V:a.fault=0:=cU
 have Z:¬ b.fault≠0:=by rw[<- B.ft];exact M
 rcases afk B hR hg.2.1 hg.1 V with⟨h1,_⟩|⟨x,xa,xb,hn,ht,k2,k10,Vm,hgs,Js⟩
 .unfold yT at yW;rw[h1]at yW;cases yW
 by_cases E:x.kind=10/\d.fC.getD (jk d x).toNat 0≠i
 .have e:jP d i=({d with fault:=3,fB:=i},⟨16,i,3,0,0⟩):=by unfold jP;rw[hb];dsimp only;rw[ew Z,ht];dsimp only;rw[ez E]
  have Su:=Om h.dp (rs:=b.names) (x:=x) (.inr E.1)
  have zd:dS m a i (eE p b.names x)=({m with fault:=3,fB:=i},a,⟨16,0,3,0,0⟩):=by
   unfold dS
   rw[Vm,ew cU,ew cU,ew cU,ew cU,ez E.1]
   unfold sK BB
   rw[Su,h.lk,ew E.2,ew E.2]
  obtain⟨rfl,rfl⟩:=AU hs I M hn (by rw[zd];show ¬ (3:Int)=0;decide)
  rw[e,zd]
  refine⟨⟨h.dp,h.room,h.mem,h.lk,h.cr,rfl,rfl,by show(m.l.set _ _).length=d.l.length;rw[sy];exact h.len,λj W b' J8 hb'=>?_⟩,rfl⟩
  have e2:m.l.set i.toNat a=m.l:=by
   have l6:=(j0.1 I)
   obtain⟨l1,l2⟩:=l6
   rw[<- l2];exact List.set_getElem_self l1
  have Gn:(m.l.set i.toNat a)[j]?=some W:=J8
  rw[e2]at Gn
  exact h.th j W b' Gn hb'
 obtain⟨r1,r2,r3,r4,r5,r6,Y⟩:=ai9 h hc hp B hE V hn k2 k10 hgs E
 obtain⟨t2,U,rfl,rfl⟩:=AT hs I M hn (by rw[r4];exact h0)
 have e:jP d i=({ (eZ d b i x).1 with l:=d.l.set i.toNat (yi d b i x)},{ (eZ d b i x).2.2 with t:=i}):=by unfold jP;rw[hb];dsimp only;rw[ew Z,ht];dsimp only;rw[ew E]
 have ZL:=hd.th b (ml hb)
 have Kx:Eh (bW d.p) (cR d.p) { (eZ d b i x).2.1 with cD:=iM (eZ d b i x).2.1.cD}:=by
  have h1:uq (StD (bW d.p) (cR d.p) b.names) { (eZ d b i x).2.1 with cD:=iM (eZ d b i x).2.1.cD}:=Ob (Oa ZL hd.rm.2)
  show uq (StD _ _ (eZ d b i x).2.1.names) _
  rw[qW];exact h1
 have aDT:=(qm Kx).1
 have kx:G8 { (dS m a i (eE p b.names x)).2.1 with at_:=(dS m a i (eE p b.names x)).2.1.at_+1}:=by
  have O:=NK (m:=m) (i:=i) (x:=eE p b.names x) hg.1 hp.gm.rm.2
  exact⟨O.code,O.rg,O.cn,by show 0<=(dS m a i (eE p b.names x)).2.1.at_+1;have:=O.Sr;omega,O.bl⟩
 have hT2:uD p { (dS m a i (eE p b.names x)).2.1 with at_:=(dS m a i (eE p b.names x)).2.1.at_+1} { (eZ d b i x).2.1 with cD:=iM (eZ d b i x).2.1.cD}:=by
  refine⟨?_,Y.rg,Y.bf,Y.ft,?_⟩
  .show(eZ d b i x).2.1.aS.length=(eZ d b i x).2.1.names.length
   rw[Y.rl,qW];exact B.rl
  .obtain⟨lp,o,hq⟩:=hR
   refine⟨lp,o,?_⟩
   show iC (dS m a i (eE p b.names x)).2.1.code.l p (eZ d b i x).2.1.names (dS m a i (eE p b.names x)).2.1.counts (iM (eZ d b i x).2.1.cD) ((dS m a i (eE p b.names x)).2.1.at_+1) lp o
   rw[qT,qW,Ci,Ft,DG]
   exact Js lp o hq
 have J:=D9 hT2 kx U aDT
 have hev:(jP d i).2={ (dS m a i (eE p b.names x)).2.2 with t:=i}:=by rw[e,r1]
 refine⟨?_,hev⟩
 rw[e]
 have G:=aeX (m:=d) (t:=b) (i:=i) (x:=x)
 refine⟨aeW.trans h.dp,?_,r2,r3,?_,?_,?_,?_,?_⟩
 .show(dS m a i _).1.room=(eZ d b i x).1.room
  rw[xp,Fs];exact h.room
 .show(dS m a i _).1.bX=(eZ d b i x).1.bX
  rw[r6,G.2.2];exact h.cr
 .show(dS m a i _).1.fault=(eZ d b i x).1.fault
  rw[r4,G.1];exact h.ft
 .show(dS m a i _).1.fB=(eZ d b i x).1.fB
  rw[r5,G.2.1];exact h.fy
 .show((dS m a i _).1.l.set _ _).length=(d.l.set _ _).length
  rw[sy,sy,Ff];exact h.len
 show ∀(j:Nat) (W:fN) (b':kG),((dS m a i (eE p b.names x)).1.l.set i.toNat t2)[j]?=some W->(d.l.set i.toNat (yi d b i x))[j]?=some b'->_
 rw[Ff]
 exact XN h.th ⟨J.1,J.2,Oj U⟩
theorem apw(h:uR p m d)(hc:Hh p)(J:PM p m)(U:rU d)(G:Jo N m q=some (m2,ev,e)):uR p m2 (mQ d q).1/\(mQ d q).2.1=ev/\(mQ d q).2.2=e:=by
 cases wH:jg m q with
 | some lx=>
  obtain⟨t,Y,rfl,rfl,rfl⟩:=ti G wH
  have e1:mQ d q=(yj (vp d lx) (yV d),⟨15,0,0,sJ q.cut q.cut.length,0⟩,0):=by unfold mQ;rw[<- Mj h,wH]
  rw[e1]
  exact⟨ZK h hc J Y,rfl,rfl⟩
 | none=>
  have I:m8 d q=none:=by rw[<- Mj h];exact wH
  have Lv:=JS h J
  by_cases B:(gV m).any (gY q)=true
  .have M:(gE d).any (gY q)=true:=dH
   have V:m.fault=0:=by rw[h.ft];exact(awI M).1
   by_cases E:q.kind=2
   .obtain⟨_,t,ht⟩:=ui B
    obtain⟨rfl,rfl,rfl⟩:=rf G wH B E ht
    obtain⟨b,hb,O,hR,hE⟩:=h.both ht
    have e1:mQ d q=(DK d b q,mI q.t (cO b.buf q.i),0):=by unfold mQ;grind
    rw[e1]
    exact⟨ai7 h ht hb,by rw[O.bf],rfl⟩
   .obtain⟨Z,rfl⟩:=oL G wH B E
    obtain⟨_,t,ht,W⟩:=R8 B E
    obtain⟨h1,h2⟩:=afm h hc J U V ht W Z
    have e1:mQ d q=((jP d q.t).1,(jP d q.t).2,0):=by unfold mQ;rw[I];dsimp only;rw[ez M,ew E]
    rw[e1]
    exact⟨h1,h2,rfl⟩
  .have M:¬ (gE d).any (gY q)=true:=dH
   obtain⟨rfl,rfl,rfl⟩:=re G wH B
   grind[mQ]
theorem ajb{room:Int}{kC:List fN}(hc:Hh p)(J:Bt p)(hb:vY N (eM p).threads kC):uR p (mO (m6 (eM p) room) kC) (RA p room):=by
 have G:=uC (rn J).1
 have I:=(rn J).2
 have W:(gS p).length=(bW p).length:=by unfold bW;rw[oi]
 refine⟨rfl,rfl,?_,afl,rfl,rfl,rfl,?_,λi a b U V=>?_⟩
 .show Kw ((qi (gS p).length).map fun (i:Nat)=>iS p i) (cZ p) (gK p)=Kw (GC p) (cZ p) (gK p)
  rw[W];rfl
 .show kC.length=(p.threads.map Y0).length
  rw[hb.1,oi]
  show(p.threads.map (jM p)).length=_
  rw[oi]
 have B:(p.threads.map Y0)[i]?=some b:=V
 rw[qa]at B
 cases ht:p.threads[i]? with
 | none=>rw[ht]at B;cases B
 | some t=>
  rw[ht]at B
  cases B
  have O:=ml ht
  have M:jM p t∈(eM p).threads:=List.mem_map_of_mem O
  have E:(eM p).threads[i]?=some (jM p t):=by show(p.threads.map (jM p))[i]?=_;rw[qa,ht];rfl
  exact Sd hc J (List.mem_append_left _ O) ((G.th _ M).ok (I.th _ M)) (hb.2 i _ a E U)
end
theorem Sf{α β:Type}{l:List α}{f:α->List β}{n:Nat}(h:∀x∈l,(f x).length=n):(l.flatMap f).length=l.length*n:=by
 induction l with
 | nil=>simp
 | cons x l E=>
  rw[List.flatMap_cons,lJ,E λy B=>h y (so _ B),h x (qs ..),qb,Nat.succ_mul,aab]
theorem JT:∀{ps:List Nat}{k:Nat},(∀p∈ps,p+1<=k)->(eN ps).length<=k ^ ps.length
 | [],k,_=>by simp[eN]
 | p::ps,k,h=>by
  have E:=JT (ps:=ps) (k:=k) λq B=>h q (so _ B)
  have e:(eN (p::ps)).length=(p+1)*(eN ps).length:=by
   rw[eN,Sf (n:=(eN ps).length) λx _=>by rw[oi],Ih]
  rw[e,qb,Nat.pow_succ,Nat.mul_comm]
  exact Nat.mul_le_mul E (h p (qs ..))
def afn{p:bQ}{m:jU}{n:Nat}(h:SF p m n):ju m.mem.of<=4:=by
 have hc:=h.pm.chk
 have E:=rX p
 have h4:=hc.sz.1
 rw[h.pm.gm.of,h.pm.u]
 show ju ((eM p).lines.take (cZ p).toNat)<=4
 by_cases B:(cZ p).toNat=0
 .rw[B,List.take_zero];decide
 rw[vy cU (by rw[Fq];omega),pd,Au cU]
 show iS p (((cZ p).toNat-1:Nat):Int)+1<=4
 rw[rY cU]
 have:=N9 p.lines 0 (((cZ p).toNat-1:Nat):Int) cU (by show _<cZ p;omega)
 omega
def ajc{m:Mem}{n:Nat}(h:MB m n):∀q∈Ca m,q<=n:=by
 intro q B
 unfold Ca Gb at B
 obtain⟨i,_,rfl⟩:=List.mem_map.1 B
 exact h i
def ajd{p:bQ}{m:jU}{n:Nat}(h:SF p m n)(E:n<=100):(eN (Ca m.mem)).length<=1000000000:=by
 have h1:=JT (ps:=Ca m.mem) (k:=101) λq B=>by have:=ajc h.mb q B;omega
 have h2:=Dw m.mem
 have h3:=afn h
 have h4:(101:Nat) ^ (Ca m.mem).length<=101 ^ 4:=Nat.pow_le_pow_right er cU
 have h5:(101:Nat) ^ 4<=1000000000:=er
 omega
def Ex.val(ns:List ByteArray)(B:List Int):Ex->Int×Int
 | .leaf x=>(if x.op=2 then B.getD (bR ns x.name).toNat 0 else x.n,0)
 | .un x a=>if (a.val ns B).2=0 then(EM x.op (a.val ns B).1,0)else(0,(a.val ns B).2)
 | .bin x a b=>if (a.val ns B).2=0 then(if (b.val ns B).2=0 then(rG x.op (a.val ns B).1 (b.val ns B).1,rF x.op (b.val ns B).1)else(0,(b.val ns B).2))else(0,(a.val ns B).2)
section
variable {w w0:World}{A:Nat->Prop}{R:List HP}{p:Nat}{K:iD}{room:Int}{t:kG}
theorem JU{H1 H2 B E:HP}(G:St w0 A (sep H1 (sep H2 (sep B E))::R) w):St w0 A (H1::H2::B::E::R) w:=by
 have h1:=G.split
 have h2:=h1.p1.split
 have h3:=h2.p1.split
 exact h3.p2.p3
theorem U5{H1 H2 B E:HP}(G:St w0 A (H1::H2::B::E::R) w):St w0 A (sep H1 (sep H2 (sep B E))::R) w:=by
 have h3:=St.join G.p3.p3
 have h2:=St.join h3.p2
 exact St.join h2.p1
end
def C86(K:iD)(p:Nat)(m:j4)(i:Int)(t:kG)(F:Nat->Prop)(w:World)(hF:(gd K p m).p w F)(V:∀w',gZ F w w'->K w')(iT:rU m)(qy:MB m.mem 1000000)(h0:0<=i)(ht:m.l[i.toNat]?=some t)(aDV:t.fault=0->∃x a b,sX t.cD=some (x,a,b)) :
   CR 86 [.pointer (some ⟨p,0,none⟩),iE i] w (λv w'=>v=jj (jP m i).2/\ng F (gd K p (jP m i).1) w w'):=by
 have B:=St.begin hF;have xn:=ml ht;have W:=iT.th t xn;have l6:=(j0.1 ht).1;have mM:=AV W.p;have F9:=W.cl;have xD:=W.bl;have hnb:=W.nb;have Z4:=W.rl;have how:=iT.ow;have av6:(cR m.p).length<=500:=by unfold cR;rw[oi];exact iT.pz.locks
 have aB9:(bW m.p).length<=250500:=IC iT.pz.toPS;refine an5 _ _ _ _ ?_;unfold S86;refine aJ B jQ (λb4 _ B=>?_);have B:=(B.enc (cs':=jl (⟨0,0,0,0,0⟩:bZ)) rfl).p1;obtain⟨a,hu,B⟩:=gd.open B;have oK:=B.p4.gh;refine aD (aA lF (aB tC B.hb rfl ?_));obtain⟨e,he⟩:=gx a.ps (i:=i.toNat) cU;refine aW uY B.p3.fc h0 he (λq hq=>aE FN hq ?_);have B:=ad9 B.p4 he ht;obtain⟨U,nv,rg,pl,es,Z,B⟩:=eP.open B;refine aD (aA zo (aB bL B.hb rfl (cN (aC (λc=>?_) λc=>?_))))
 .have hse:jP m i=({m with fault:=t.fault,fB:=i},⟨16,i,t.fault,0,0⟩):=by unfold jP;rw[ht];dsimp only;rw[ez c]
  refine aD (aA zo (aB bL B.hb rfl ?_));have B:=eP.shut (Φ:=λ_=>True) (t:=t) Z B.p4.p4.p4.p4.p4;have B:=St.q8 (H:=uQ K m.room) (x:=t) B.p1.p1 cU oK he;rw[pW ht]at B;have B:=gd.shut (m:=m) hu B.p4.p4.p4.p4;refine aT alz B (H':=λ_=>gd K p {m with fault:=t.fault,fB:=i}) (Φ:=λv _=>v=jj (⟨16,i,t.fault,0,0⟩:bZ)) (λG E M=>?_) ?_
  .exact C161 K p m i t.fault G _ E
  rintro _ _ rfl B;refine aH (x:=(⟨16,i,t.fault,0,0⟩:bZ)) B.p1 ey rfl rfl (λ_ B=>aE ey B.At ?_);rw[hse];exact⟨rfl,B.drop.mut⟩
 have Sq:t.fault=0:=cU
 refine eC W0 (C127 K e.b t U nv rg pl es _ _ B.hb B.p3.fc B.p4.ep.1 (λ_ e=>V _ (B.aG.then e)) W.p cU) ?_;rintro v _ ⟨hex,hv⟩;have B:=B.ext hex
 rcases hv with⟨eT,_⟩|⟨x,xa,xb,xv,av,bv,ra,rb,YY,rfl,AR,_⟩
 .obtain⟨_,_,_,h⟩:=aDV Sq;rw[eT]at h;cases h
 obtain⟨ge,gf,rfl,_,_⟩:=lB (AR _ (V _ B.aG))
 have hxE:∀w,K w->dP (λ_=>True) w (jj ge) x.e/\dP (λ_=>True) w (jj gf) x.f:=λw hw=>by
  obtain⟨_,_,h4,h5,h6⟩:=lB (AR w hw);cases h4
  exact⟨h5,h6⟩
 obtain⟨⟨ZU,FZ⟩,hv1,hv2⟩:=iT.st t xn Sq _ _ _ YY;obtain⟨hx,_,_,_,_,_,_,_,r,en,p',CS,sr,ar⟩:=W.top YY;have gG:(Bk.cons x xa xb r).str:=W.p.st _ (by rw[CS];exact qs ..);have hxe:=hx.e;have ht1:{t with fault:=if (eS t x.e).2=true then t.fault else 2}=t:=by rw[hv1];rfl
 refine aN rfl (aN rfl (aN rfl (aN rfl (have B:=eP.shut (Φ:=λ_=>True) (t:=t) Z B.p4.p4.p4.p4.p4;aJ B kS λb6 _ B=>aH (x:=(⟨x.kind,x.eY,x.name,ge,gf,x.n,x.body,x.eR,x.at_⟩:bF)) B fh rfl rfl λ_ B=>have B:=B.drew;aD (aA HG (aB nf B.p3.hb rfl (aA jJ (aB (v:=.string x.name) ke B.hb rfl (aD (aA HH ?_))))))))));refine aB nf B.p3.hb rfl (aA jJ (aB (v:=.string x.name) ke B.hb rfl (aY Bv B (C146 _ (bW m.p) x.name _ (hu.cs _ (V _ B.aG)) cU) λ_ he2 B=>?_)));refine⟨aF nf (B.p3.hb.cell rfl),?_⟩
 refine⟨aF ke (B.hb.cell rfl),?_⟩;refine aY Bv B (C146 _ (cR m.p) x.name _ (hu.ks _ (V _ B.aG)) cU) (λ_ he2 B=>aD (aA CH (oO a.pv gO B.p3.hb rfl (aY acC B (C53 m.p a.pv _ _ (hu.pr _ (V _ B.aG)) iT.pz) λ_ he2 B=>aJ B jQ λb13 _ B=>?_))));have B:=nZ.shut (m:=m) (⟨hu,he,oK,cU⟩) ((((((B.enc (cs':=jl (⟨0,0,0,0,0⟩:bZ)) rfl).p3).p7).p7).p7).p7);obtain⟨c,hc⟩:∃c,c=ik m x:=⟨_,rfl⟩;obtain⟨lk,J9⟩:∃lk,lk=jk m x:=⟨_,rfl⟩;obtain⟨ln,Z0⟩:∃ln,ln=j5 m x:=⟨_,rfl⟩;have B:=B.p3.p4.p4.p4;have alQ:jP m i=(if x.kind=10/\m.fC.getD (jk m x).toNat 0≠i then({m with fault:=3,fB:=i},⟨16,i,3,0,0⟩)else({ (eZ m t i x).1 with l:=m.l.set i.toNat (yi m t i x)},{ (eZ m t i x).2.2 with t:=i})):=by unfold jP;rw[ht];dsimp only;rw[ew cU,YY]
 refine⟨λw'=>¬ (x.kind=10/\m.fC.getD (jk m x).toNat 0≠i)/\St w F [bU b13 (jl ((eZ m t i x).2.2)),bU b6 (jl (⟨x.kind,x.eY,x.name,ge,gf,x.n,x.body,x.eR,x.at_⟩:bF)),bU b4 (jl (⟨0,0,0,0,0⟩:bZ)),rT K e.b m.room (eZ m t i x).2.1,nZ K p (eZ m t i x).1 i.toNat e] w',?_,?_⟩
 .refine aA iy (aB (v:=iE x.kind) bL B.p1.hb rfl (aI (aC (λY=>?_) λY=>?_)))
  .have I:(eZ m t i x)=(m,v7 t x.eY (o7 m t (ik m x)),Fh m t x):=by unfold eZ;rw[ez Y]
   have J:¬ (x.kind=10/\m.fC.getD (jk m x).toNat 0≠i):=cU
   refine aE fh B.p1.At (have B:=St.join B.p4.p4;aT avY B (H':=λ_=>sep (rT K e.b m.room (v7 t x.eY (o7 m t (ik m x)))) (nZ K p m i.toNat e)) (Φ:=λv _=>v=jj (Fh m t x)) (λG E M=>?_) ?_)
   .exact C162 K p m i.toNat e t x ⟨x.kind,x.eY,x.name,ge,gf,x.n,x.body,x.eR,x.at_⟩ G (ik m x) _ E (λw' hc=>V w' (M w' hc).aG) W iT.mem AR (hx.rg cU)
   rintro _ _ rfl B;have B:=B.split;refine aH (x:=(Fh m t x:bZ)) B.p2 ey rfl rfl (λ_ B=>?_);have B:=B.p2.p2.p4.p4.p4;rw[I];exact⟨J,B⟩
  refine aI (aC (λk3=>?_) λk3=>?_)
  .have I:(eZ m t i x)=(m,Bj m t ⟨3,j5 m x,ik m x,(eS t x.e).1⟩,⟨3,0,ik m x,(eS t x.e).1,0⟩):=by unfold eZ;rw[ew Y,ez k3]
   have J:¬ (x.kind=10/\m.fC.getD (jk m x).toNat 0≠i):=cU
   refine aA jK (aB (v:=jj ge) l5 B.p1.hb rfl (have B:=B.p3;aT Rw B (H':=λ_=>rT K e.b m.room t) (Φ:=λv _=>v=.tuple #[iE (eS t x.e).1,.bool (eS t x.e).2]) (λG E M=>?_) ?_))
   .have:=C163 K _ e.b m.room t G _ x.e _ E (λw' hc=>V w' (M w' hc).aG) (hxE _ (V _ B.aG)).1 cU cU;rw[ht1]at this;exact this
   rintro _ _ rfl B;refine aN rfl (aN rfl ?_);obtain⟨U,nv,rg,pl,es,Z,B⟩:=eP.open B;refine aD (aA nk (aB sj B.hb rfl (pop (Ju 3 (j5 m x) (ik m x) (eS t x.e).1) (have B:=B.p1;aT KN B (H':=λ_=>lV U m.room (qw m.room t.buf (⟨3,j5 m x,ik m x,(eS t x.e).1⟩:bH))) (Φ:=λ_ _=>True) (λG E M=>?_) ?_))))
   .exact(C164 U m.room t.buf (⟨3,j5 m x,ik m x,(eS t x.e).1⟩:bH) G _ E cU).mono λ_ _ r=>r.mono λ_ _ h=>⟨trivial,h.2⟩
   rintro _ _ _ B;refine pop (l8 3 (ik m x) (eS t x.e).1) (have B:=eP.shut (Φ:=λ_=>True) (t:=Bj m t (⟨3,j5 m x,ik m x,(eS t x.e).1⟩:bH)) Z B.p4.p4.p4.p3.p4;aH (x:=(⟨3,0,ik m x,(eS t x.e).1,0⟩:bZ)) B.p1 ey rfl rfl λw14' B=>?_);have B:=B.p4.p2.p4.p4.p4;rw[I];exact⟨J,B⟩
  refine aI (aC (λk5=>?_) λk5=>?_)
  .have I:(eZ m t i x)=(m,Bj m t ⟨5,j5 m x,0,0⟩,⟨4,0,j5 m x,0,0⟩):=by unfold eZ;rw[ew Y,ew k3,ez k5]
   have J:¬ (x.kind=10/\m.fC.getD (jk m x).toNat 0≠i):=cU
   have B:=B.p3;obtain⟨U,nv,rg,pl,es,Z,B⟩:=eP.open B;refine aD (aA nk (aB sj B.hb rfl (pop (BP 5 (j5 m x)) (have B:=B.p1;aT KN B (H':=λ_=>lV U m.room (qw m.room t.buf (⟨5,j5 m x,0,0⟩:bH))) (Φ:=λ_ _=>True) (λG E M=>?_) ?_))))
   .exact(C164 U m.room t.buf (⟨5,j5 m x,0,0⟩:bH) G _ E cU).mono λ_ _ r=>r.mono λ_ _ h=>⟨trivial,h.2⟩
   rintro _ _ _ B;refine pop (pg 4 (j5 m x)) (have B:=eP.shut (Φ:=λ_=>True) (t:=Bj m t (⟨5,j5 m x,0,0⟩:bH)) Z B.p4.p4.p4.p3.p4;aH (x:=(⟨4,0,j5 m x,0,0⟩:bZ)) B.p1 ey rfl rfl λw16' B=>?_);have B:=B.p4.p2.p4.p4.p4;rw[I];exact⟨J,B⟩
  refine aI (aC (λk6=>?_) λk6=>?_)
  .have I:(eZ m t i x)=(m,Bj m t ⟨6,j5 m x,0,0⟩,⟨5,0,j5 m x,0,0⟩):=by unfold eZ;rw[ew Y,ew k3,ew k5,ez k6]
   have J:¬ (x.kind=10/\m.fC.getD (jk m x).toNat 0≠i):=cU
   have B:=B.p3;obtain⟨U,nv,rg,pl,es,Z,B⟩:=eP.open B;refine aD (aA nk (aB sj B.hb rfl (pop (BP 6 (j5 m x)) (have B:=B.p1;aT KN B (H':=λ_=>lV U m.room (qw m.room t.buf (⟨6,j5 m x,0,0⟩:bH))) (Φ:=λ_ _=>True) (λG E M=>?_) ?_))))
   .exact(C164 U m.room t.buf (⟨6,j5 m x,0,0⟩:bH) G _ E cU).mono λ_ _ r=>r.mono λ_ _ h=>⟨trivial,h.2⟩
   rintro _ _ _ B;refine pop (pg 5 (j5 m x)) (have B:=eP.shut (Φ:=λ_=>True) (t:=Bj m t (⟨6,j5 m x,0,0⟩:bH)) Z B.p4.p4.p4.p3.p4;aH (x:=(⟨5,0,j5 m x,0,0⟩:bZ)) B.p1 ey rfl rfl λw18' B=>?_);have B:=B.p4.p2.p4.p4.p4;rw[I];exact⟨J,B⟩
  refine aI (aC (λk7=>?_) λk7=>?_)
  .have I:(eZ m t i x)=(m,Bj m t ⟨7,0,0,0⟩,⟨6,0,0,0,0⟩):=by unfold eZ;rw[ew Y,ew k3,ew k5,ew k6,ez k7]
   have J:¬ (x.kind=10/\m.fC.getD (jk m x).toNat 0≠i):=cU
   have B:=B.p3;obtain⟨U,nv,rg,pl,es,Z,B⟩:=eP.open B;refine aD (aA nk (aB sj B.hb rfl (pop (HU 7) (have B:=B.p1;aT KN B (H':=λ_=>lV U m.room (qw m.room t.buf (⟨7,0,0,0⟩:bH))) (Φ:=λ_ _=>True) (λG E M=>?_) ?_))))
   .exact(C164 U m.room t.buf (⟨7,0,0,0⟩:bH) G _ E cU).mono λ_ _ r=>r.mono λ_ _ h=>⟨trivial,h.2⟩
   rintro _ _ _ B;refine pop (MR 6) (have B:=eP.shut (Φ:=λ_=>True) (t:=Bj m t (⟨7,0,0,0⟩:bH)) Z B.p4.p4.p4.p3.p4;aH (x:=(⟨6,0,0,0,0⟩:bZ)) B.p1 ey rfl rfl λw20' B=>?_);have B:=B.p4.p2.p4.p4.p4;rw[I];exact⟨J,B⟩
  refine aI (aC (λk8=>?_) λk8=>?_)
  .have I:(eZ m t i x)=(m,t,⟨7,0,0,0,0⟩):=by unfold eZ;rw[ew Y,ew k3,ew k5,ew k6,ew k7,ez k8]
   have J:¬ (x.kind=10/\m.fC.getD (jk m x).toNat 0≠i):=cU
   refine pop (MR 7) (aH (x:=(⟨7,0,0,0,0⟩:bZ)) B ey rfl rfl λ_ B=>?_);have B:=B.p4.p4.p4.p4.p4;rw[I];exact⟨J,B⟩
  refine aI (aC (λk4=>?_) λk4=>?_)
  .have I:(eZ m t i x)=(yh m t x,v7 t x.eY (jC m.mem (ik m x)),Aj m t x):=by unfold eZ;rw[ew Y,ew k3,ew k5,ew k6,ew k7,ew k8,ez k4]
   have J:¬ (x.kind=10/\m.fC.getD (jk m x).toNat 0≠i):=cU
   refine aE fh B.p1.At (have B:=St.join B.p4.p4;aT avZ B (H':=λ_=>sep (rT K e.b m.room (v7 t x.eY (jC m.mem (ik m x)))) (nZ K p (yh m t x) i.toNat e)) (Φ:=λv _=>v=jj (Aj m t x)) (λG E M=>?_) ?_)
   .exact C165 K p m i.toNat e t x ⟨x.kind,x.eY,x.name,ge,gf,x.n,x.body,x.eR,x.at_⟩ G _ E (λw' hc=>V w' (M w' hc).aG) W iT.mem AR (hx.rg cU) qy hxe hv1 hv2
   rintro _ _ rfl B;have B:=B.split;refine aH (x:=(Aj m t x:bZ)) B.p2 ey rfl rfl (λ_ B=>?_);have B:=B.p2.p2.p4.p4.p4;rw[I];exact⟨J,B⟩
  have aDW:x.kind=9\/x.kind=10:=cU
  obtain⟨j,hj,OG,_⟩:=wX (eB.1 (hx.lk aDW));have SN:=(j0.1 OG).1;have hjk:jk m x=(j:Int):=hj;refine aI (aC (λk9=>?_) λk9=>?_)
  .have I:(eZ m t i x)=(xt m x i,t,⟨10,0,jk m x,0,0⟩):=by unfold eZ;rw[ew Y,ew k3,ew k5,ew k6,ew k7,ew k8,ew k4,ez k9]
   have J:¬ (x.kind=10/\m.fC.getD (jk m x).toNat 0≠i):=cU
   have B:=B.p4;obtain⟨a,O,B⟩:=nZ.open B;refine aD (aA pL (aB eD B.hb rfl (dN B.p2 dZ (show 0<=jk m x by omega) (show jk m x<_ by omega) λ_ aw4=>jm (i:Int) B.p2 bL aw4 cU λ_ B=>pop (pg 10 (jk m x)) (have B:=nZ.shut (m:=xt m x i) (⟨⟨O.1.pr,O.1.cs,O.1.ks,O.1.mem,O.1.rc⟩,O.2⟩) B.p4.p4.p2.p4.p4;aH (x:=(⟨10,0,jk m x,0,0⟩:bZ)) B.p1 ey rfl rfl λ_ B=>?_))));have B:=B.p1.p4.p4.p4.p4;rw[I];exact⟨J,B⟩
  have I:(eZ m t i x)=(xt m x (-1),t,⟨11,0,jk m x,0,0⟩):=by unfold eZ;rw[ew Y,ew k3,ew k5,ew k6,ew k7,ew k8,ew k4,ew k9]
  have B:=B.p4;obtain⟨a,O,B⟩:=nZ.open B;have hwl:=B.p2.fc;obtain⟨ov,hov⟩:=gx m.fC (i:=(jk m x).toNat) cU;have hgd:m.fC.getD (jk m x).toNat 0=ov:=by rw[pd,hov];rfl
  refine aD (aA pL (aB eD B.hb rfl (aW dZ hwl (show 0<=jk m x by omega) hov λq69 h69=>aE bL h69 (cN (aC (λc72=>?_) λc72=>?_)))))
  .have B:=B.p4;have B:=Ai ((nZ.shut (m:=m) O B.p4.p4.p4.p4).p4);rw[pW ht]at B;refine aT alz B (H':=λ_=>gd K p {m with fault:=3,fB:=i}) (Φ:=λv _=>v=jj (⟨16,i,3,0,0⟩:bZ)) (λG E M=>?_) ?_
   .exact C161 K p m i 3 G _ E
   rintro _ _ rfl B;refine aH (x:=(⟨16,i,3,0,0⟩:bZ)) B.p3 ey rfl rfl (λ_ B=>aE ey B.At ?_);have B:=B.drop.p1.drop.p1.drop;rw[alQ,ez ⟨cU,by rw[hgd];exact c72⟩];exact⟨rfl,B.mut⟩
  refine aD (aA pL (aB eD B.hb rfl (dN B.p2 dZ (show 0<=jk m x by omega) (show jk m x<_ by omega) λ_ aDY=>jm (-1:Int) B.p2 bL aDY cU λ_ B=>pop (pg 11 (jk m x)) (have B:=nZ.shut (m:=xt m x (-1)) (⟨⟨O.1.pr,O.1.cs,O.1.ks,O.1.mem,O.1.rc⟩,O.2⟩) B.p4.p4.p2.p4.p4;aH (x:=(⟨11,0,jk m x,0,0⟩:bZ)) B.p1 ey rfl rfl λ_ B=>?_))));have B:=B.p1.p4.p4.p4.p4;rw[I];exact⟨by rw[hgd];exactλh=>c72 h.2,B⟩
 rintro _ ⟨aw5,B⟩ _;have aDZ:(eZ m t i x).2.1.cD=(.cons x xa xb r,en)::p':=by rw[Ft];exact CS
 have FK:=Fs (m:=m) (t:=t) (i:=i) (x:=x);have Ub:uq (StD (bW m.p) (cR m.p) t.names) (eZ m t i x).2.1:=Oa W iT.rm.2
 have aw6:Eh (bW m.p) (cR m.p) { (eZ m t i x).2.1 with cD:=iM (eZ m t i x).2.1.cD}:=by
  show uq (StD _ _ (eZ m t i x).2.1.names) _;rw[qW];exact Ob Ub
 refine aA VM (aO B bL (ei rfl) rfl λ_ B=>have B:=(B.enc (cs':=jl ({ (eZ m t i x).2.2 with t:=i}:bZ)) rfl).p3;aT Rv B (H':=λ_=>rT K e.b m.room { (eZ m t i x).2.1 with cD:=iM (eZ m t i x).2.1.cD}) (Φ:=λ_ _=>True) (λG E M=>?_) ?_)
 .exact(C166 K _ e.b m.room (eZ m t i x).2.1 G x xa xb r en p' _ E (λw' hc=>V w' (M w' hc).aG) aDZ gG (by rw[Ft];omega)).mono λ_ _ r=>r.mono λ_ _ h=>⟨trivial,h.2⟩
 rintro _ _ _ B;refine aT alw B (H':=λ_=>rT K e.b m.room (yi m t i x)) (Φ:=λ_ _=>True) (λG E M=>?_) ?_
 .exact(C119 K e.b m.room { (eZ m t i x).2.1 with cD:=iM (eZ m t i x).2.1.cD} (yi m t i x) _ _ _ G _ E (λw' hc=>V w' (M w' hc).aG) aw6 (qm aw6).1).mono λ_ _ r=>r.mono λ_ _ h=>⟨trivial,h.2⟩
 rintro _ _ _ B;refine aE (x:=({ (eZ m t i x).2.2 with t:=i}:bZ)) ey B.p1.At (aH (x:=({ (eZ m t i x).2.2 with t:=i}:bZ)) B.p3 ey rfl rfl λ_ B=>aE ey B.At ?_);have B:=B.drop.p1.drop.p1.drop.p1.p1;rw[<- FK]at B;have B:=Ai B;rw[apb]at B;rw[alQ,ew aw5];exact⟨rfl,B.mut⟩
def C85(K:iD)(p:Nat)(m:j4)(q:cC)(gc:SV)(t:kG)(F:Nat->Prop)(w:World)(hF:(gd K p m).p w F)(hK:∀w',gZ F w w'->K w')(iT:rU m)(qy:MB m.mem 1000000)(h0:0<=q.t)(ht:m.l[q.t.toNat]?=some t) :
   CR 85 [.pointer (some ⟨p,0,none⟩),jj (⟨q.kind,q.t,q.i,gc⟩:cY)] w (λv w'=>v=jj (mI q.t (cO t.buf q.i))/\ng F (gd K p (DK m t q)) w w'):=by
 have B:=St.begin hF;have xn:=ml ht;have kx:=iT.th t xn;have l6:=(j0.1 ht).1;have xD:=kx.bl;refine pG Tryz.func85 (pl:=P85) ?_;refine cP (x:=(⟨q.kind,q.t,q.i,gc⟩:cY)) B (λb3 _ B=>aJ B jQ λb4 _ B=>?_);have B:=(B.enc (cs':=jl (⟨0,0,0,0,0⟩:bZ)) rfl).p2;obtain⟨a,hu,B⟩:=gd.open B;have oK:=B.p4.gh;obtain⟨e,O⟩:=gx a.ps (i:=q.t.toNat) cU;refine⟨λx5 w'=>∃J,x5=.pointer (some ⟨J,0,none⟩)/\St w F [bU J (jl (cO t.buf q.i)),bU b4 (jl (⟨0,0,0,0,0⟩:bZ)),bU b3 (jl (⟨q.kind,q.t,q.i,gc⟩:cY)),rT K e.b m.room ({t with buf:=iH t.buf q.i}),nZ K p m q.t.toNat e] w',?_,?_⟩
 .have B:=B.drew;refine aD (aA lF (aB tC B.hb rfl (aA im (aB (v:=iE q.t) bL B.p6.hb rfl (dN B.p3 uY h0 (by have:=oK;omega) λq14 OF=>gW B.p3 FN OF O ?_)))));have B:=ad9 B.p4 O ht;obtain⟨Z,nv,rg,pl,es,hk,B⟩:=eP.open B;refine aD (aA nk (aB sj B.hb rfl (aA qY (aB (v:=iE q.i) bL B.p11.hb rfl ⟨?_,?_,trivial⟩))))
  .have B:=B.p1;refine aT Vy B (H':=λ_=>lV Z m.room (iH t.buf q.i)) (Φ:=λv _=>v=.tuple #[jj (cO t.buf q.i),iE (Aa t.buf q.i)]) (λM I W=>?_) ?_
   .exact C158 Z m.room t.buf q.i M _ I cU
   rintro _ _ rfl B;refine aN rfl (aN rfl (aJ B sP λJ _ B=>?_));refine⟨aF tC (B.p7.hb.cell rfl),?_⟩;refine⟨aF bL (B.p12.hb.cell (v:=iE q.t) rfl),?_⟩;refine⟨GY B.za FN OF O,?_⟩;refine⟨aF sj (B.p2.hb.cell rfl),?_⟩;refine⟨aF bL (B.p12.hb.cell (v:=iE q.i) rfl),?_⟩;exact aH (x:=(cO t.buf q.i)) B lP rfl rfl (λ_ B=>have B:=eP.shut (Φ:=λ_=>True) (t:={t with buf:=iH t.buf q.i}) hk B.p5.p5.p5.p4.p5;have B:=nZ.shut (m:=m) ⟨hu,O,oK,cU⟩ B.p2.p6.p6.p6.p6;have B:=B.p1.p4.p4.p4;⟨J,rfl,B⟩)
  refine aJ B sP (λJ _ B=>?_);refine⟨aF tC (B.p7.hb.cell rfl),?_⟩;refine⟨aF bL (B.p12.hb.cell (v:=iE q.t) rfl),?_⟩;refine⟨GY B.za FN OF O,?_⟩;refine⟨aF sj (B.p1.hb.cell rfl),?_⟩;refine⟨aF bL (B.p12.hb.cell (v:=iE q.i) rfl),?_⟩;have B:=B.p2;refine aT Vy B (H':=λ_=>lV Z m.room (iH t.buf q.i)) (Φ:=λv _=>v=.tuple #[jj (cO t.buf q.i),iE (Aa t.buf q.i)]) (λM I W=>?_) ?_
  .exact C158 Z m.room t.buf q.i M _ I cU
  rintro _ _ rfl B;exact aN rfl (aN rfl (aH (x:=(cO t.buf q.i)) B.p1 lP rfl rfl λ_ B=>have B:=eP.shut (Φ:=λ_=>True) (t:={t with buf:=iH t.buf q.i}) hk B.p5.p5.p5.p4.p5;have B:=nZ.shut (m:=m) ⟨hu,O,oK,cU⟩ B.p2.p6.p6.p6.p6;have B:=B.p1.p4.p4.p4;⟨J,rfl,B⟩))
 rintro _ _ ⟨J,rfl,B⟩ _;refine aA pR (aB (v:=iE (cO t.buf q.i).kind) bL B.hb rfl (aI (aC (λc=>?_) λc=>?_)))
 .have B:=B.p4;obtain⟨a,E,B⟩:=nZ.open B;have B:=B.drew;refine aD (aA my (aB mT B.hb rfl (aA nu (aB (v:=iE (cO t.buf q.i).cell) bL B.p5.hb rfl (aA mC (aB (v:=iE (cO t.buf q.i).n) bL B.p5.hb rfl (have B:=B.p1;aT O4 B (H':=λ_=>fE a.q a.ov a.fv (gN m.mem (cO t.buf q.i).cell (cO t.buf q.i).n)) (Φ:=λ_ _=>True) (λM I W=>?_) ?_)))))))
  .exact(C159 a.q a.ov a.fv m.mem M _ _ _ I (λw' hc=>E.1.mem _ (hK w' (W w' hc).aG)) iT.mem qy).mono λ_ _ r=>r.mono λ_ _ h=>⟨trivial,h.2⟩
  rintro _ _ _ B;refine aA im (aB (v:=iE q.t) bL B.p7.hb rfl (aA nu (aB (v:=iE (cO t.buf q.i).cell) bL B.p5.hb rfl (aA mC (aB (v:=iE (cO t.buf q.i).n) bL B.p5.hb rfl (pop (vE 12 q.t (cO t.buf q.i).cell (cO t.buf q.i).n) (aH (x:=(⟨12,q.t,(cO t.buf q.i).cell,(cO t.buf q.i).n,0⟩:bZ)) B.p6 ey rfl rfl λ_ B=>aE ey B.At ?_)))))));have U:gB m.mem (cO t.buf q.i)=gN m.mem (cO t.buf q.i).cell (cO t.buf q.i).n:=by unfold gB;rw[ez c]
  have V:mI q.t (cO t.buf q.i)=⟨12,q.t,(cO t.buf q.i).cell,(cO t.buf q.i).n,0⟩:=by unfold mI;rw[ez c]
  have B:=nZ.shut (m:={m with mem:=gN m.mem (cO t.buf q.i).cell (cO t.buf q.i).n}) ⟨⟨E.1.pr,E.1.cs,E.1.ks,λw hw=>(E.1.mem w hw).write,E.1.rc⟩,E.2⟩ B.drop.p6.drop.p5.drop.p4.p4.p4.p3.p4;have B:=Ai (m:={m with mem:=gN m.mem (cO t.buf q.i).cell (cO t.buf q.i).n}) (tp:=e) (t:={t with buf:=iH t.buf q.i}) B.p1;have G:DK m t q={ {m with mem:=gN m.mem (cO t.buf q.i).cell (cO t.buf q.i).n}with l:=m.l.set q.t.toNat ({t with buf:=iH t.buf q.i})}:=by unfold DK;rw[U]
  rw[G,V];exact⟨rfl,B.mut⟩
 refine aI (aC (λY=>?_) λY=>?_)
 .refine aA im (aB (v:=iE q.t) bL B.p2.hb rfl (pop (EI 14 q.t) (aH (x:=(⟨14,q.t,0,0,0⟩:bZ)) B.p1 ey rfl rfl λ_ B=>aE ey B.At ?_)));have B:=B.p4;obtain⟨a,E,B⟩:=nZ.open B;have U:gB m.mem (cO t.buf q.i)=m.mem:=by unfold gB;rw[ew c,ez Y]
  have V:mI q.t (cO t.buf q.i)=⟨14,q.t,0,0,0⟩:=by unfold mI;rw[ew c,ez Y]
  have B:=nZ.shut (m:={m with mem:=m.mem}) E B.p5.drop.p6.drop.p5.drop.p4.p4.p4.p4.p4;have B:=Ai (m:={m with mem:=m.mem}) (tp:=e) (t:={t with buf:=iH t.buf q.i}) B.p1;have G:DK m t q={ {m with mem:=m.mem}with l:=m.l.set q.t.toNat ({t with buf:=iH t.buf q.i})}:=by unfold DK;rw[U]
  rw[G,V];exact⟨rfl,B.mut⟩
 have B:=B.p4;obtain⟨a,E,B⟩:=nZ.open B;have B:=B.drew;refine aD (aA my (aB mT B.hb rfl (aA kT (aB (v:=iE (cO t.buf q.i).line) bL B.p5.hb rfl (have B:=B.p1;aT aaD B (H':=λ_=>fE a.q a.ov a.fv (sW m.mem (cO t.buf q.i).line)) (Φ:=λ_ _=>True) (λM I W=>?_) ?_)))))
 .exact(C160 a.q a.ov a.fv m.mem M _ _ I (λw' hc=>E.1.mem _ (hK w' (W w' hc).aG)) iT.mem qy).mono λ_ _ r=>r.mono λ_ _ h=>⟨trivial,h.2⟩
 rintro _ _ _ B;refine aA im (aB (v:=iE q.t) bL B.p7.hb rfl (aA kT (aB (v:=iE (cO t.buf q.i).line) bL B.p5.hb rfl (pop (rE 13 q.t (cO t.buf q.i).line) (aH (x:=(⟨13,q.t,(cO t.buf q.i).line,0,0⟩:bZ)) B.p6 ey rfl rfl λ_ B=>aE ey B.At ?_)))));have U:gB m.mem (cO t.buf q.i)=sW m.mem (cO t.buf q.i).line:=by unfold gB;rw[ew c,ew Y]
 have V:mI q.t (cO t.buf q.i)=⟨13,q.t,(cO t.buf q.i).line,0,0⟩:=by unfold mI;rw[ew c,ew Y]
 have B:=nZ.shut (m:={m with mem:=sW m.mem (cO t.buf q.i).line}) ⟨⟨E.1.pr,E.1.cs,E.1.ks,λw hw=>(E.1.mem w hw).out,E.1.rc⟩,E.2⟩ B.drop.p6.drop.p5.drop.p4.p4.p4.p3.p4;have B:=Ai (m:={m with mem:=sW m.mem (cO t.buf q.i).line}) (tp:=e) (t:={t with buf:=iH t.buf q.i}) B.p1;have G:DK m t q={ {m with mem:=sW m.mem (cO t.buf q.i).line}with l:=m.l.set q.t.toNat ({t with buf:=iH t.buf q.i})}:=by unfold DK;rw[U]
 rw[G,V];exact⟨rfl,B.mut⟩
def C57(K:iD)(p:Nat)(m:j4)(kC:List cE)(lv:Value)(Y:List cI)(F:Nat->Prop)(w:World)(hF:(gd K p m).p w F)(Z:∀w',gZ F w w'->K w')(hrm:1<=m.room/\m.room<=16)(J9:(cR m.p).length<=1000)(hl:∀w',gZ F w w'->dP (λ_=>True) w' lv Y)(U:Ry K Y kC)
   (kx:∀t∈kC,Eh (bW m.p) (cR m.p) (DM t)/\t.body=(Z5 t.body).flat) (hn:kC.length<=1000) :
   CR 57 [.pointer (some ⟨p,0,none⟩),lv] w (λv w'=>v=.tuple #[]/\ng F (gd K p (yj m kC)) w w'):=by
 have B:=St.begin hF;have J4:=U.1;refine pG Tryz.func57 (pl:=P57) ?_;obtain⟨a,M,B⟩:=gd.open B;have oK:=B.p4.gh;refine aD (aA lF (aO B tC (ei rfl) rfl λ_ B=>aD (aA pL (aO B eD (ei rfl) rfl λ_ B=>aD (aA HH (aB nf B.hb rfl (aK kN (M.ks _ (Z _ B.aG)) ?_)))))));have B:=(((B.p2.drop.p2.drop.p2.drop.eU (α:=Int)).p2).p1).p2;refine⟨λV x w'=>∃(k:Nat) (ov:Value),x=iE (k:Int)/\V=(cR m.p).length-k/\k<=(cR m.p).length/\St w F [bU p (mi {a with ow:=ov,ll:=.slice none 0 0} m),bG ov (o6 k (-1:Int)),fE a.q a.ov a.fv m.mem] w',⟨_,0,_,rfl,rfl,ob _,B⟩,?_⟩
 rintro V _ _ ⟨k,ov,rfl,rfl,ZU,B⟩ _;refine aV (aC (λc=>?_) λc=>?_)
 .refine aD (aA pL (aB eD B.hb rfl (bV ([-1]:List Int) B dZ rfl rfl (ei rfl) λs27 _ B=>?_)));have aD0:=B.fc;exact cK B.p2 dZ aD0 (by rw[tr,mv];omega) er (λs28 _ B=>have B:=B.p1.drop;aD (aA pL (aO B.p1 eD (ei rfl) B.fc.one λ_ B=>aR cU ⟨_,cU,k+1,s28,rfl,rfl,cU,by rw[List.replicate_succ'];exact B⟩)))
 refine aK kM (hl _ B.aG) ?_;rw[show k=(cR m.p).length from cU]at B;have B:=((((((B.tQ (H:=uQ K m.room)).eU (α:=Ptr)).p4).p4).p3).p3).p4;refine⟨λV x w'=>∃(j:Nat) (SC:Value) (ps:List Ptr),x=iE (j:Int)/\V=Y.length-j/\j<=Y.length/\St w F [bU p (mi {a with ow:=ov,ll:=SC} m),bG SC ps,gH (uQ K m.room) ps ((kC.take j).map Y0),bG ov (o6 (cR m.p).length (-1:Int)),fE a.q a.ov a.fv m.mem] w',⟨_,0,_,_,rfl,rfl,ob _,B⟩,?_⟩;rintro V _ _ ⟨j,SC,ps,rfl,rfl,hj1,B⟩ _;refine aV (aC (λc2=>?_) λc2=>?_);rotate_left
 .rw[mH cU]at B;have B:=B.p2.p2.p3.p4.p4;exact⟨rfl,(gd.shut (m:=yj m kC) (a:={a with ow:=ov,ll:=SC,ps:=ps}) ⟨M.pr,M.cs,M.ks,M.mem,M.rc⟩ B).mut⟩
 obtain⟨tv,W⟩:=gx Y (i:=((j:Nat):Int).toNat) cU;obtain⟨t,ht⟩:=gx kC (i:=j) cU;obtain⟨I,gb,rows,rfl,O,hgb⟩:=U.2 j _ _ W ht;obtain⟨J,SA⟩:=kx t (ml ht);have Z4:t.aS.length<=1000:=J.nb;refine aW kM (hl _ B.aG) cU W (λq36 h36=>aE lG h36 (aJ B qZ λb5 _ B=>aH (x:=(⟨t.name,I,gb,t.at_⟩:cI)) B lG rfl rfl λ_ B=>aD (aA aaT (aB bL B.p1.hb rfl (eC agi (C50 m.room _) ?_)))));rintro v43 _ hh;obtain⟨_,_,b43,rfl,cA⟩:=hh.resolve_left (λ_=>cU);have B:=B.made cA;refine aN rfl (aN rfl (have B:=B.drew;aA kP (aB (v:=jj I) nf B.p1.hb rfl (aA kP (aB (v:=jj I) nf B.p1.hb rfl (aK kN (O _ (Z _ B.aG)) (tA (0:Int) B dZ qA cU cU er λs52 _ B=>?_)))))))
 rw[s6]at B;refine⟨aF nf (B.p2.hb.cell (v:=jj I) rfl),?_⟩;obtain⟨G,rfl⟩:=B.fK;refine pop (NQ (some ⟨b43,0,none⟩) I.a I.n I.cap G.a G.n G.cap) (kL B λE _ B=>have B:=(B.eU (α:=ur)).fw (Φ:=λw=>yd K w [] []/\True) (λ_=>⟨trivial,trivial⟩);have B:=eP.shut (Φ:=λ_=>True) (t:=(⟨t.aS,o6 t.aS.length 0,[],0,[]⟩:kG)) (es:=[]) O B.p1.p3.p4.p4;aA tG (aB (v:=jj gb) ou B.p1.hb rfl (aT Ru B (H':=λ_=>rT K E m.room (DM t)) (Φ:=λ_ _=>True) (λF2 ed dQ=>?_) ?_)))
 .exact(C118 K _ E m.room ⟨t.aS,o6 t.aS.length 0,[],0,[]⟩ F2 gb rows (Z5 t.body) false _ ed (λw' hc=>Z w' (dQ w' hc).aG) (λw _=>by rw[<- SA];exact hgb w) (show(0:Nat)<=100000 by decide)).mono λ_ _ r=>r.mono λ_ _ h=>⟨trivial,h.2⟩
 rintro _ _ _ B;refine aT alw B (H':=λ_=>rT K E m.room (Y0 t)) (Φ:=λ_ _=>True) (λF2 ed dQ=>?_) ?_
 .exact(C119 K E m.room (DM t) (Y0 t) _ _ _ F2 _ ed (λw' hc=>Z w' (dQ w' hc).aG) J (qm J).1).mono λ_ _ r=>r.mono λ_ _ h=>⟨trivial,h.2⟩
 rintro _ _ _ B;refine aD (aA lF ?_);have mM:=B.p4.gh;rw[oi,n0]at mM;refine aB tC B.p2.hb rfl (bV ([(⟨E⟩:Ptr)]) B uY rfl rfl (ei rfl) λs67 _ B=>?_);have apB:=B.fc;exact cK B.p4 uY apB (by simp;omega) er (λs68 _ B=>have B:=B.p1.drop;aD (aA lF (aO B.p3 tC (ei rfl) B.fc.one λ_ B=>have B:=(((St.CX (H:=uQ K m.room) (p:=⟨E⟩) (x:=Y0 t) B.p3.drop.p2.p3).p4).p4).p2;have B:=B.p4.p4;aR cU ⟨_,cU,j+1,s68,ps++[⟨E⟩],rfl,rfl,cU,by rw[<- ig (k:=j) ht];exact B⟩)))
def ThK.mono{K K2:iD}{G:cI}{t:cE}(h:ThK K G t)(E:∀w,K2 w->K w):ThK K2 G t:=by
 obtain⟨J,I,rows,e,h1,h2⟩:=h
 exact⟨J,I,rows,e,λw B=>h1 w (E w B),λw=>⟨λw' B=>(h2 w).1 w' (E w' B),λB=>(h2 w).2 (E w B)⟩⟩
def Ry.mono{K K2:iD}{B:List cI}{kC:List cE}(h:Ry K B kC)(G:∀w,K2 w->K w):Ry K2 B kC:=⟨h.1,λj E t h1 h2=>(h.2 j E t h1 h2).mono G⟩
def XP{p:bQ}(hc:Hh p){t:cE}(ht:t∈je p):t.body=(Z5 t.body).flat:=by
 obtain⟨_,h2,_⟩:=hc.f.kC ht
 obtain⟨_,_,b,h5,h6,_⟩:=kX h2
 rw[h5,RZ h6]
def Mk(K:iD)(lv:SV)(kC:List cE):Prop:=∃B,(∀w,K w->dP (λ_=>True) w (jj lv) B)/\Ry K B kC
structure PrK(K:iD)(pv:bT)(p:bQ):Prop where
 pr:∀w,K w->n4 w pv p
 th:Mk K pv.threads p.threads
 rc:Mk K pv.recover p.recover
def crD(m:j4)(q:cC):j4:=match m8 m q with|some lx=>{m with mem:=nH m.mem lx}|none=>m
def XQ(m:Mem)(cut:List Int)(v:Value)(m2:Mem):Prop:=(iG m cut=none/\m2=m/\v=iE 1)\/∃lx,iG m cut=some lx/\m2=nH m lx/\v=iE 0
def U6{m:Mem}{cut:List Int}{v:Value}{p:Nat}{ov fv:Value}{F:Nat->Prop}{w w':World}
  (h:(iG m cut=none/\v=iE 1/\ng F (fE p ov fv m) w w')\/∃lx,iG m cut=some lx/\v=iE 0/\ng F (fE p ov fv (nH m lx)) w w') :
  True/\ng F (ph λm2=>fact (XQ m cut v m2) (fE p ov fv m2)) w w':=by
 refine⟨trivial,?_⟩
 rcases h with⟨h1,h2,B,h3,h4,h5⟩|⟨lx,h1,h2,B,h3,h4,h5⟩
 .exact⟨B,⟨m,.inl ⟨h1,rfl,h2⟩,h3⟩,h4,h5⟩
 exact⟨B,⟨nH m lx,.inr ⟨lx,h1,rfl,h2⟩,h3⟩,h4,h5⟩
theorem aw8(K:iD):Ry K [(⟨⟨#[]⟩,bO,bO,0⟩:cI)] [⟨⟨#[]⟩,[],[],0⟩]:=by
 refine⟨rfl,λj B t h1 h2=>?_⟩
 cases j with
 | zero=>
  cases h1;cases h2
  exact⟨bO,bO,[],rfl,λw _=>dP.nil _ w,λw=>⟨λ_ _=>jx.nil,λ_=>dP.nil _ w⟩⟩
 | succ j=>simp at h1
def C17(K:iD)(p:bQ)(pv:bT)(room:Int)(w:World)(O:∀w',Ext w w'->K w')(J:PrK K pv p)(U:PZ p):CR 17 [jj pv,iE room] w (λv w'=>(fW p≠0/\v=.tuple #[.pointer none,iE (fW p)]/\Ext w w')\/(fW p=0/\(room<1\/16<room)/\v=.tuple #[.pointer none,iE 1]/\Ext w w')\/
  (fW p=0/\(1<=room/\room<=16)/\∃(b:Nat) (X:iD),v=.tuple #[.pointer (some ⟨b,0,none⟩),iE 0]/\mf (sep (gd (λw=>K w/\X w) b (RA p room)) (ep X)) w w')):=by
 have B:=St.start w;refine aoa _ _ _ _ ?_;unfold S17;refine cP (x:=pv) B (λbp w1 B=>aE gO B.At (eC auG (C49 p pv _ (J.pr _ (O _ B.aG)) U) ?_));rintro _ _ ⟨aa,rfl,Y⟩;have B:=B.ext Y;refine aN rfl (aN rfl (cN (aC (λc=>?_) λc=>?_)))
 .exact .inl ⟨c,rfl,B.drop.aG⟩
 have AP:fW p=0:=cU
 have oh:=Oc AP;have h20:=alI oh;have F9:=JP p;refine eC agi (C50 room _) ?_;rintro v3 _ hh
 rcases hh with⟨hrb,rfl,Y⟩|⟨Kc,GS,b3,rfl,W⟩
 .have B:=B.ext Y;refine aN rfl (aN rfl (cN (u5 er ?_)));exact .inr (.inl ⟨AP,hrb,rfl,B.drop.aG⟩)
 have B:=(B.made W).drop;refine aN rfl (aN rfl (cN (gu er (have B:=B.drew;aE gO B.At (aE gO B.At (aE gO B.At (cW anb B (C51 p pv _ (J.pr _ (O _ B.aG)) U) λx31 _ W B=>?_)))))));refine⟨fJ gO B.p1.At,?_⟩;refine⟨fJ gO B.p1.At,?_⟩;refine cW anc B (C52 p pv _ (J.pr _ (O _ B.aG)) U) (λx33 _ W B=>?_);refine⟨fJ gO B.p2.At,?_⟩;obtain⟨G,rfl⟩:=B.fK;obtain⟨I,rfl⟩:=B.p1.fK;refine pop (Jt _ _ _ _ _ _ _ _ _ _ _ _ _ _ _ _ _ _ _ _ _ _ _ _ _) (kL B λE w6 B=>aD (aA HG (aB nf B.hb rfl (aK kN B.p2.fc ?_))))
 have B:=B.eU (α:=Int);have ZW:St w bE [bG (.slice none 0 0) ([]:List Int),bU E (mi ⟨pv,I,G,0,.slice none 0 0,.slice none 0 0,.slice none 0 0,.slice none 0 0,[]⟩ (Jy p room) |>.set 9 (.pointer none)),bG (jj G) (cR p),bG (jj I) (bW p),bU bp (jl pv)] w6:=B;refine⟨λmm o y w1=>∃k:Nat,y=iE (k:Int)/\mm=(bW p).length-k/\k<=(bW p).length/\St w bE [bG o ((GC p).take k),bU E (mi ⟨pv,I,G,0,.slice none 0 0,.slice none 0 0,.slice none 0 0,.slice none 0 0,[]⟩ (Jy p room) |>.set 9 (.pointer none)),bG (jj G) (cR p),bG (jj I) (bW p),bU bp (jl pv)] w1,⟨_,0,rfl,rfl,ob _,ZW⟩,?_⟩
 rintro mm o _ _ ⟨k,rfl,rfl,hk,B⟩ _;have V9:(GC p).length=(bW p).length:=by unfold GC;rw[oi,Ih]
 refine aV (aC (λc1=>?_) λc1=>?_)
 .refine aE gO B.p4.At (aY acC B (C53 p pv (k:Int) _ (J.pr _ (O _ B.aG)) U) λ_ Y B=>bV ([iS p (k:Int)]:List Int) B dZ rfl rfl (ei rfl) λs49 _ B=>?_);have aD2:=B.fc;refine cK B.p1 dZ aD2 (by rw[n0,mv];omega) er (λs50 _ B=>aR cU ?_);exact⟨_,cU,k+1,rfl,rfl,cU,by rw[<- gI (UP (p:=p) (i:=k) cU)];exact B.p1.drop⟩
 rw[mH cU]at B;have B:=B.drew;refine aE gO B.p4.At (aE gO B.p4.At (aY ahN B (C55 p pv _ (J.pr _ (O _ B.aG)) U) λ_ Y B=>?_));refine⟨fJ gO B.p4.At,?_⟩;refine cW ahO B (C56 p pv _ (J.pr _ (O _ B.aG)) U) (λx58 _ W B=>?_);have gG:=rX p;have J3:(gK p).length=(gS p).length:=by unfold gK;rw[oi]
 refine eC aqM (C54 (GC p) (gK p) (cZ p) _ _ _ B.p1.fc B.fc cU cU cU λk n h1 h2=>?_) ?_
 .have h3:=ae1 oh h1 h2;have h4:=(j0.1 h2).1;exact⟨h3.1,cU,cU⟩
 rintro v59 _ ⟨q,ov,fv,rfl,W⟩;have B:=((B.made W).split).p1.split;refine aN rfl (aN rfl (aD (aA my (aO B.p5 mT (ei rfl) rfl λM B=>aA sO (aB (v:=jj pv.threads) kf B.p8.hb rfl ?_)))));have B:=B.p8.drop.p5.drop.p4.drop.p3.freeze.p2.freeze.fu.p3.freeze.fu.p3.freeze.fu;obtain⟨V,B,Z⟩:=B.Rl;have B:=B.tQ (H:=uQ (λw=>K w/\kp V M w) room);have B:=(B.eU (α:=Ptr)).eU (α:=Int)
 have B:St w bE (bU E (mi ⟨pv,I,G,q,jj ov,jj fv,.slice none 0 0,.slice none 0 0,[]⟩ (Jy p room))::fE q (jj ov) (jj fv) (Kw (GC p) (cZ p) (gK p))::bG (.slice none 0 0) ([]:List Int)::bG (.slice none 0 0) ([]:List Ptr)::gH (uQ (λw=>K w/\kp V M w) room) [] []::ep (kp V M)::[]) M:=by
  have h1:=B.p5.p5;exact h1
 obtain⟨Ei,ht1,Z6⟩:=J.th;obtain⟨tvr,hr3,hr4⟩:=J.rc;have B:=gd.shut (K:=(λw=>K w/\kp V M w)) (m:=Jy p room) ⟨λw' h=>J.pr w' h.1,λw' h=>?_,λw' h=>?_,λw' h=>⟨?_,?_⟩,⟨tvr,λw' h=>hr3 w' h.1,hr4.mono λ_ h=>h.1⟩⟩ B;rotate_left
 .have:=Z w' h.2;first|exact this.1|exact this.2|exact this.2.1|exact this.2.2|exact this.2.2.1|exact this.2.2.2
 .have:=Z w' h.2;first|exact this.1|exact this.2|exact this.2.1|exact this.2.2|exact this.2.2.1|exact this.2.2.2
 .have:=Z w' h.2;first|exact this.1|exact this.2|exact this.2.1|exact this.2.2|exact this.2.2.1|exact this.2.2.2
 .have:=Z w' h.2;first|exact this.1|exact this.2|exact this.2.1|exact this.2.2|exact this.2.2.1|exact this.2.2.2
 refine aT av0 B (H':=λ_=>gd (λw=>K w/\kp V M w) E (RA p room)) (Φ:=λ_ _=>True) (λF2 ed dQ=>?_) ?_
 .exact(C57 (λw=>K w/\kp V M w) E (Jy p room) p.threads _ Ei F2 _ ed (λw' hc=>⟨O _ (dQ w' hc).aG,(dQ w' hc).ep⟩) ⟨Kc,GS⟩ (by have:=U.locks;show(cR p).length<=_;unfold cR;rw[oi];omega) (λw' hc=>ht1 w' (O _ (dQ w' hc).aG)) (Z6.mono λ_ h=>h.1)
   (λ_ ht=>⟨Hi oh (List.mem_append_left _ ht),XP oh (List.mem_append_left _ ht)⟩) (by have:=U.threads;omega)).mono λ_ _ r=>r.mono λ_ _ h=>⟨trivial,h.2⟩
 rintro _ _ _ B;exact .inr (.inr ⟨AP,⟨Kc,GS⟩,E,kp V M,rfl,(St.join B).fresh⟩)
theorem C37(K:iD)(p:Nat)(m:j4)(q:cC)(G:SV)(F:Nat->Prop)(w:World)(hF:(gd K p m).p w F)(O:∀w',gZ F w w'->K w')(iT:rU m)(oh:Hh m.p)(qy:MB m.mem 1000000)(hcb:0<=m.bX/\m.bX<=1000000)(vZ:∀w',gZ F w w'->dP (λ_=>True) w' (jj G) q.cut)(hql:q.cut.length<=1000) :
   CR 37 [.pointer (some ⟨p,0,none⟩),jj (⟨q.kind,q.t,q.i,G⟩:cY)] w (λv w'=>v=.tuple #[jj (mQ m q).2.1,iE (mQ m q).2.2]/\ng F (gd K p (mQ m q).1) w w'):=by
 have B:=St.begin hF;refine pG Tryz.func37 (pl:=P37) ?_;refine cP (x:=(⟨q.kind,q.t,q.i,G⟩:cY)) B (λb3 w1 B=>aJ B jQ λb4 _ B=>?_);have B:=B.enc (cs':=jl (⟨0,0,0,0,0⟩:bZ)) rfl;refine⟨λjv w'=>jv=.bool (m8 m q).isSome/\St w F [gd K p (crD m q),bU b4 (jl (⟨0,0,0,0,0⟩:bZ)),bU b3 (jl (⟨q.kind,q.t,q.i,G⟩:cY))] w',?_,?_⟩
 .have B:=B.drew
  have eT:∀w',m8 m q=none->St w F [gd K p m,bU b4 (jl (⟨0,0,0,0,0⟩:bZ)),bU b3 (jl (⟨q.kind,q.t,q.i,G⟩:cY))] w'->(Value.bool false=.bool (m8 m q).isSome/\St w F [gd K p (crD m q),bU b4 (jl (⟨0,0,0,0,0⟩:bZ)),bU b3 (jl (⟨q.kind,q.t,q.i,G⟩:cY))] w'):=λw' h1 h2=>by
   have e:crD m q=m:=by unfold crD;rw[h1]
   rw[h1,e];exact⟨rfl,h2⟩
  have I:m8 m q=(if q.kind=3/\q.t=0/\q.i=0/\m.fault=0 then iG m.mem q.cut else none):=rfl;refine aA mS (aB (v:=iE q.kind) bL B.p1.hb rfl (aI (aC (λc1=>?_) λ_=>eT _ (by rw[I,ew cU]) B.p2)));refine aA im (aB (v:=iE q.t) bL B.p1.hb rfl (aI (aC (λY=>?_) λ_=>eT _ (by rw[I,ew cU]) B.p2)));refine aA qY (aB (v:=iE q.i) bL B.p1.hb rfl (aI (aC (λc3=>?_) λ_=>eT _ (by rw[I,ew cU]) B.p2)));have B:=B.p2;obtain⟨a,E,B⟩:=gd.open B;have oK:=B.p4.gh;refine aD (aA tD (aB bL B.hb rfl (aI (aC (λc4=>?_) λ_=>eT _ (by rw[I,ew cU]) (gd.shut E B)))))
  have hpi:m8 m q=iG m.mem q.cut:=by rw[I,ez ⟨c1,Y,c3,c4⟩]
  refine aD (aA my (aB mT B.hb rfl (aA pK (aB (v:=jj (G:SV)) eD B.p6.hb rfl (have B:=B.p1;aT aqR B (H':=λv=>ph λm2=>fact (XQ m.mem q.cut v m2) (fE a.q a.ov a.fv m2)) (Φ:=λ_ _=>True) (λZ V J=>?_) ?_)))))
  .exact(C81 a.q a.ov a.fv m.mem Z q.cut _ _ V (λw' hc=>E.mem _ (O w' (J w' hc).aG)) iT.mem qy (λw' hc=>vZ w' (J w' hc).aG) hql).mono λ_ _ r=>r.mono λ_ _ h=>U6 h
  rintro v34 _ _ yD;obtain⟨m2c,yU⟩:=yD.dU
  clear yD
  obtain⟨hcf,Co⟩:=yU.lq
  clear yU
  rcases hcf with⟨W,rfl,rfl⟩|⟨lx,W,rfl,rfl⟩
  .have B:=Co;exact aI (have B:=B.p4.p4.p4.p3.p4;eT _ (hpi.trans W) (gd.shut E B))
  have B:=Co;refine aI ?_;have M:=hpi.trans W;have e:crD m q={m with mem:=nH m.mem lx}:=by unfold crD;rw[M]
  rw[M,e];have B:=B.p4.p4.p4.p3.p4;exact⟨rfl,gd.shut (m:={m with mem:=nH m.mem lx}) ⟨E.pr,E.cs,E.ks,E.mem,E.rc⟩ B⟩
 rintro _ _ ⟨rfl,B⟩ _;refine aX (λc=>?_) (λc=>?_)
 .obtain⟨lx,M⟩:=Option.isSome_iff_exists.1 c;have e:crD m q={m with mem:=nH m.mem lx}:=by unfold crD;rw[M]
  have ZL:mQ m q=(yj (vp m lx) (yV m),⟨15,0,0,sJ q.cut q.cut.length,0⟩,0):=by unfold mQ;rw[M]
  rw[e]at B;rw[ZL];obtain⟨a,E,B⟩:=gd.open B;have oK:=B.p4.gh;refine aD (aA HI (aB bL B.hb rfl (aR (show -9223372036854775808<=m.bX+1/\m.bX+1<=9223372036854775807 by omega) (aD (aA HI (aO B bL (ei rfl) rfl λ_ B=>?_))))));obtain⟨U,hr3,hr4⟩:=id E.rc;have Z4:=hr4.1;refine aD (aA CH (aA uW (aB kf B.hb rfl ?_)));have B:=(gd.shut (m:=vp m lx) ⟨E.pr,E.cs,E.ks,E.mem,E.rc⟩ B.p4.p4.p4.p4.p4).p2;have B:=B.p2.p2;refine⟨λjv w'=>∃Ei,Ry K Ei (yV m)/\St w F [ep (λw=>K w->dP (λ_=>True) w jv Ei),gd K p (vp m lx),bU b4 (jl (⟨0,0,0,0,0⟩:bZ)),bU b3 (jl (⟨q.kind,q.t,q.i,G⟩:cY))] w',?_,?_⟩
  .refine aK kM (hr3 _ (O _ B.aG)) (aI (aC (λY=>?_) λY=>?_))
   .refine pop (v:=jj (⟨⟨#[]⟩,bO,bO,0⟩:cI)) (by kernel_rfl) (bV ([⟨⟨#[]⟩,bO,bO,0⟩]:List cI) B kM rfl rfl (ei rfl) λs54 _ B=>?_);refine⟨_,?_,B.freeze.cS (Ψ:=λw=>K w->dP (λ_=>True) w s54 [(⟨⟨#[]⟩,bO,bO,0⟩:cI)]) λ_ h _=>h⟩;have GQ:yV m=[⟨⟨#[]⟩,[],[],0⟩]:=by unfold yV;rw[ez (by have:U.length=m.p.recover.length:=Z4;omega)]
    rw[GQ];exact aw8 K
   have GQ:yV m=m.p.recover:=by unfold yV;rw[ew (by have:U.length=m.p.recover.length:=Z4;omega)]
   exact⟨U,by rw[GQ];exact hr4,B.fw λw h=>hr3 w h⟩
  rintro rv _ ⟨Ei,htv,B⟩ _;obtain⟨hrc1,aD3⟩:=XC oh;refine aT av0 B.p1 (H':=λ_=>gd K p (yj (vp m lx) (yV m))) (Φ:=λ_ _=>True) (λZ V J=>?_) ?_
  .refine(C57 K p (vp m lx) (yV m) _ Ei Z _ V (λw' hc=>O w' (J w' hc).aG) iT.rm (by have:=iT.pz.locks;show(cR m.p).length<=_;unfold cR;rw[oi];omega) (λw' hc=>(J w' hc).ep (O w' (J w' hc).aG)) htv (λt ht=>⟨aD3 t ht,?_⟩) cU).mono λ_ _ r=>r.mono λ_ _ h=>⟨trivial,h.2⟩;unfold yV at ht
   split at ht
   .rw[sU.1 ht];rfl
   exact XP oh (List.mem_append_right _ ht)
  rintro _ _ _ B;exact aA pK (aB (v:=jj (G:SV)) eD B.p3.hb rfl (aY aCI B (C82 _ q.cut _ (vZ _ B.aG) cU) λ_ _ B=>pop (te 15 (sJ q.cut q.cut.length)) (aH (x:=(⟨15,0,0,sJ q.cut q.cut.length,0⟩:bZ)) B.p2 ey rfl rfl λ_ B=>aE ey B.At ⟨rfl,B.p3.drop.drop.p1.drop.mut⟩)))
 have M:m8 m q=none:=by
  cases h:m8 m q with
  | none=>rfl
  | some lx=>rw[h]at c;cases c
 have e:crD m q=m:=by unfold crD;rw[M]
 have ZL:mQ m q=(if (gE m).any (gY q)=true then(if q.kind=2 then(match m.l[q.t.toNat]? with|some t=>((DK m t q,mI q.t (cO t.buf q.i),0):j4×bZ×Int)|none=>(m,⟨0,0,0,0,0⟩,13))else((jP m q.t).1,(jP m q.t).2,0))else(m,⟨0,0,0,0,0⟩,13)):=by unfold mQ;rw[M];rfl
 rw[e]at B;refine cW aix B (C22 K p m _ B.has (λ_ e=>O _ (B.aG.then e)) iT) (λx64 _ cA B=>?_);have Lv:=B.p3.At
 have hfn:lr hZ _ (.func (.func 83) [].toArray [.pointer (some ⟨b3,0,none⟩)].toArray) (λ_:cC=>True) (gY q):=
  ⟨83,[],_,rfl,aCG,λsx y w1 e1 Kx _=>C83 y q sx b3 (⟨q.kind,q.t,q.i,G⟩:cY) w1 Kx (Lv.ext e1) ⟨G,rfl,DL.fP (vZ _ (B.aG.then e1))⟩⟩
 refine aY Ya B (C84 _ _ _ (λ_=>True) _ _ B.dl hfn (λ_ _=>trivial) (by have:=Jw iT;omega)) (λ_ he B=>have B:=B.drop;bJ (aX (λY=>?_) λY=>?_))
 .rw[ZL,ew (by simpa using Y)];exact pop EH (aH (x:=(⟨0,0,0,0,0⟩:bZ)) B.p1 ey rfl rfl λ_ B=>aE ey B.At ⟨rfl,B.drop.p1.drop.mut⟩)
 have pI:(gE m).any (gY q)=true:=by simpa using Y
 obtain⟨Sq,h0,_,t,ht,Vm⟩:=awI pI;rw[ZL,ez pI];refine aA mS (aB (v:=iE q.kind) bL B.p2.hb rfl (aI (aC (λc3=>?_) λc3=>?_)))
 .rw[ez c3,ht];refine aE oc B.p2.At (aT aCF B (H':=λ_=>gd K p (DK m t q)) (Φ:=λv _=>v=jj (mI q.t (cO t.buf q.i))) (λZ V J=>?_) ?_)
  .exact C85 K p m q G t Z _ V (λw' hc=>O w' (J w' hc).aG) iT qy h0 ht
  rintro _ _ rfl B;exact aH (x:=mI q.t (cO t.buf q.i)) B.p1 ey rfl rfl (λ_ B=>aE ey B.At ⟨rfl,B.drop.p1.drop.mut⟩)
 rw[ew c3]
 have yW:Bi m t=true:=by
  rcases Vm with h|h
  .exact h.2
  .exact absurd h.1 c3
 refine aA im (aB (v:=iE q.t) bL B.p2.hb rfl (aT aCE B (H':=λ_=>gd K p (jP m q.t).1) (Φ:=λv _=>v=jj (jP m q.t).2) (λZ V J=>?_) ?_))
 .exact C86 K p m q.t t Z _ V (λw' hc=>O w' (J w' hc).aG) iT qy h0 ht (λ_=>ae0 yW)
 rintro _ _ rfl B;exact aH (x:=(jP m q.t).2) B.p1 ey rfl rfl (λ_ B=>aE ey B.At ⟨rfl,B.drop.p1.drop.mut⟩)
def C144(V:Value)(ps:List Ptr)(I:Nat)(first cap:List Value)(g:Nat->Bool)(w:World)(M:dP (λ_=>True) w V ps)(Y:Plain hZ I)(Z:∀(i:Nat) (s:Ptr) (E:World),ps[i]?=some s->Ext w E->Calls hZ I (first++[jj s]++cap).toArray E (rZ λv U=>v=.bool (g i)/\Ext E U))(hn:ps.length<=1073741824):CR 144 [V,(.func (.func I) first.toArray cap.toArray)] w (λv w'=>v=iE (pY g (qi ps.length))/\Ext w w'):=by
 have B:=St.start w;refine fD Tryz.func144 ?_;refine aK uY (M.ext B.aG) ?_;refine⟨λO y E=>∃k:Nat,y=iE (k:Int)/\O=ps.length-k/\k<=ps.length/\(∀y∈(qi ps.length).take k,g y=false)/\St w bE [] E,⟨_,0,rfl,rfl,ob _,et,B⟩,?_⟩;rintro O _ E ⟨k,rfl,rfl,hk,G,B⟩ _;refine aV (aC (λc1=>?_) λ_=>⟨gD (n5 .i64) (gJ (by rw[mH (by rw[Ih];omega)]at G;exact G)).symm,B.aG⟩);obtain⟨e,W⟩:=gx ps (i:=((k:Nat):Int).toNat) cU;refine aW uY (M.ext B.aG) cU W (λq hq=>aE FN hq (fm Y (Z k e E W B.aG) ?_))
 rintro _ U ⟨rfl,h2⟩;have B:=B.ext h2;exact aX (λJ=>⟨gD (n5 .i64) (jT G (Hj cU) J).symm,B.aG⟩) (λJ=>aR cU ⟨_,cU,k+1,rfl,rfl,cU,fg G (Hj cU) J,B⟩)
def C67(I:Value)(ps:List Ptr)(G:Nat)(first cap:List Value)(g:Nat->Bool)(w:World)(J:dP (λ_=>True) w I ps)(O:Plain hZ G)(U:∀(i:Nat) (s:Ptr) (B:World),ps[i]?=some s->Ext w B->Calls hZ G (first++[jj s]++cap).toArray B (rZ λv V=>v=.bool (g i)/\Ext B V))(M:ps.length<=1073741824):CR 67 [I,(.func (.func G) first.toArray cap.toArray)] w (λv w'=>v=.bool ((qi ps.length).any g)/\Ext w w'):=by
 have E:=St.start w;refine fD Tryz.func67 ?_;exact aY av4 E (C144 _ ps G first cap g _ (J.ext E.aG) O (λi s B h e=>U i s B h (E.aG.then e)) M) (λ_ _ E=>dC ⟨vb (iJ _ _),E.aG⟩)
def C65(K Φ:iD)(p:Nat)(room:Int)(t:kG)(w:World)(G:Has (eP K Φ p room t) w)(V:K w)(I:t.buf.length<=1000):CR 65 [.pointer (some ⟨p,0,none⟩)] w (λv w'=>v=.bool (!Ak t)/\Ext w w'):=by
 obtain⟨bp,nv,rg,pl,es,Y,J,hB,Z,M,O,_⟩:=eP.rd G;have E:=J.cell (o:=3) rfl;have W:=O.len;have CS:=rh es;have B:=St.start w;refine fD Tryz.func65 ?_;refine⟨λU w'=>U=.bool (!Ak t)/\Ext w w',?_,?_⟩
 .exact aD (aA js (bN pN (E.ext B.aG) (aK tJ (M.ext B.aG) (eh (aC (λ_=>⟨vb (by unfold Ak;rw[gk (show ¬ t.cD.length=0 from cU)];rfl),B.aG⟩) λ_=>aY avT B (C66 K Φ p room t _ (G.ext B.aG) I) λ_ _ B=>bJ ⟨vb (by unfold Ak;rw[fY (show t.cD.length=0 from cU),yx]),B.aG⟩)))))
 rintro _ _ h _;exact h
def C21(K:iD)(p:Nat)(m:j4)(w:World)(Z:Has (gd K p m) w)(Y:∀w',Ext w w'->K w')(U:rU m):CR 21 [.pointer (some ⟨p,0,none⟩)] w (λv w'=>v=jj (jq m)/\Ext w w'):=by
 obtain⟨a,E⟩:=gd.rd Z (Y _ (Ext.refl _));have Bh:=E.b.cell (o:=11) rfl;have Jh:=E.b.cell (o:=12) rfl;have I:=E.b.cell (o:=13) rfl;have Cf:=E.b.cell (o:=14) rfl;have hlen:=E.len;have J4:=U.tl;have B:=St.start w;refine pG Tryz.func21 (pl:=P21) ?_;refine aJ B EF (λb2 w1 B=>have B:=(B.enc (cs':=jl (⟨0,0,0,false,false⟩:fU)) rfl).drew;aD (aA HI (bN bL (Jh.ext B.aG) (aD (aA tD (bN bL (I.ext B.aG) (aD (aA Pe (bN bL (Cf.ext B.aG) (pop (FP m.bX m.fault m.fB) (aJ B EF λb4 _ B=>?_)))))))))))
 refine⟨aF bL (Jh.ext B.aG),?_⟩;refine⟨aF bL (I.ext B.aG),?_⟩;refine⟨aF bL (Cf.ext B.aG),?_⟩;refine aH (x:=(⟨m.bX,m.fault,m.fB,false,false⟩:fU)) B EE rfl rfl (λ_ B=>?_);refine⟨λw'=>St w bE [bU b4 (jl (⟨m.bX,m.fault,m.fB,xu m,false⟩:fU)),bU b2 (jl (⟨0,0,0,false,false⟩:fU))] w',?_,?_⟩
 .refine aD (aA tD (bN bL (I.ext B.aG) (aI (aC (λc1=>?_) λc1=>?_))))
  .refine aD (aA lF (bN tC (Bh.ext B.aG) ?_))
   refine aY aCJ B (C67 _ a.ps 65 [] [] (λi=>match m.l[i]? with|some t=>!Ak t|none=>false) _ (E.ll.ext B.aG) aCH (λi s w1 h e=>by
    obtain⟨t,ht⟩:∃t,m.l[i]?=some t:=⟨_,l0 (by have:=(j0.1 h).1;omega)⟩;rw[ht];exact C65 K _ s.b m.room t w1 ((E.th i s t h ht).ext (B.aG.then e)) (Y _ (B.aG.then e)) (U.th t (ml ht)).bl) cU) (λ_ he B=>?_)
   refine bJ (aA AG (aO B HE (ei rfl) rfl λw5 B=>?_));have G:xu m = !((qi a.ps.length).any λi=>match m.l[i]? with|some t=>!Ak t|none=>false):=by unfold xu;rw[fY c1,E.len];rfl
   rw[G];exact B
  refine aA AG (aO B HE (ei rfl) rfl λw5 B=>?_);have G:xu m=false:=by unfold xu;rw[gk c1];rfl
  rw[G];exact B
 intro _ B _
 have M:∀(b:Bool) (w':World),Fi m=b->St w bE [bU b4 (jl (⟨m.bX,m.fault,m.fB,xu m,b⟩:fU)),bU b2 (jl (⟨0,0,0,false,false⟩:fU))] w'->St w bE [bU b4 (jl (jq m)),bU b2 (jl (⟨0,0,0,false,false⟩:fU))] w':=λb w' h1 h2=>by
  subst h1;exact h2
 refine⟨λw'=>St w bE [bU b4 (jl (jq m)),bU b2 (jl (⟨0,0,0,false,false⟩:fU))] w',?_,?_⟩
 .refine aD (aA tD (bN bL (I.ext B.aG) (aI (aC (λc1=>?_) λc1=>?_))));rotate_left
  .exact aA AH (aO B HE (ei rfl) rfl λ_ B=>M false _ (by unfold Fi;rw[gk c1];rfl) B)
  refine aA AG (aB (v:=.bool (xu m)) HE B.hb rfl (bJ (aX (λW=>?_) λW=>?_)));rotate_left
  .exact aA AH (aO B HE (ei rfl) rfl λ_ B=>M false _ (by unfold Fi;rw[show xu m=true from by simpa using W];simp) B)
  refine cW aix B (C22 K p m _ (Z.ext B.aG) (λ_ e=>Y _ (B.aG.then e)) U) (λx45 w7 cA B=>?_);obtain⟨J,O,V⟩:=B.dl;refine aK nd O ?_;rw[show J.length=(gE m).length from V.1];exact aI (have B:=B.drop;aA AH (aO B HE (ei rfl) rfl λ_ B=>M (decide (((gE m).length:Int)=0)) _ (by unfold Fi;rw[fY c1,show xu m=false from by simpa using W];rfl) B))
 intro _ B _;exact aE (x:=jq m) EE B.At (aH (x:=jq m) B.p1 EE rfl rfl λ_ B=>aE EE B.At ⟨rfl,B.drop.drop.aG⟩)
def aje(m:j4)(t:kG)(i:Int)(x:bD):(eZ m t i x).1.bX=m.bX:=by
 unfold eZ
 repeat' split
 all_goals first|rfl|(unfold yh;split<;>rfl)
theorem afo(m:j4)(i:Int):(jP m i).1.bX=m.bX:=by
 unfold jP
 repeat' split
 all_goals first|rfl|exact aje _ _ _ _
def apC(m:j4)(q:cC):m.bX<=(mQ m q).1.bX/\(mQ m q).1.bX<=m.bX+1:=by
 unfold mQ
 split
 .show m.bX<=m.bX+1/\m.bX+1<=m.bX+1;omega
 split
 .split
  .split<;>(show m.bX<=m.bX/\m.bX<=m.bX+1)<;>omega
  show m.bX<=(jP m q.t).1.bX/\(jP m q.t).1.bX<=_;rw[afo];omega
 grind
structure Fv(p:bQ)(n:Nat)(m:j4):Prop where
 ok:rU m
 pr:m.p=p
 mb:MB m.mem n
 cr:0<=m.bX/\m.bX<=n
def Fv.step{p:bQ}{n:Nat}{m:j4}{q:cC}(h:Fv p n m)(hc:Hh p):Fv p (n+1) (mQ m q).1:=by
 obtain⟨h1,h2,h3⟩:=ape (q:=q) h.ok (h.pr▸hc)
 have h4:=apC m q
 have h5:=h.cr
 exact⟨h1,h2.trans h.pr,h3 _ h.mb,cU,cU⟩
def Fv.new{p:bQ}{room:Int}(E:PZ p)(hc:Hh p)(B:1<=room/\room<=16):Fv p 0 (RA p room):=
 ⟨aiY E hc B,rfl,λk=>Nat.le_of_eq rfl,u4 0,u4 0⟩
def ajf(x y:bF)(h:jl x=jl y):x=y:=by
 obtain⟨a,b,c,⟨d,n,k⟩,⟨V,G,O⟩,e,f,g,i⟩:=x
 obtain⟨a2,b2,U,⟨d2,n2,E⟩,⟨W,Z,J⟩,Y,M,B,I⟩:=y
 simp[jl,jj]at h
 simp[h]
def ajg(x y:cI)(h:jl x=jl y):x=y:=by
 obtain⟨a,⟨d,n,k⟩,⟨J,E,I⟩,e⟩:=x
 obtain⟨a2,⟨d2,V,B⟩,⟨M,U,G⟩,O⟩:=y
 simp[jl,jj]at h
 simp[h]
def Mk.of{E:Nat->Prop}{w:World}{lv:SV}{kC:List cE}(h:∀w',kp E w w'->DL w' (jj lv) kC):Mk (kp E w) lv kC:=by
 obtain⟨V,Y,ht⟩:=kp.fix ajg h
 refine⟨V,λw' B=>(ht w' B).1,Y,λj U t h1 h2=>?_⟩
 have I:∀w',kp E w w'->n4 w' U t:=λw' B=>(ht w' B).2.2 j U t h1 h2
 obtain⟨M,G,rfl,_,_⟩:=I w (kp.refl _ _)
 have J:∀w',kp E w w'->DL w' (jj M) t.aS/\DL w' (jj G) t.body:=λw' B=>by
  obtain⟨gr2,W,e,h4,h5⟩:=I w' B
  grind
 obtain⟨rows,_,O⟩:=kp.fix ajf λw' B=>(J w' B).2
 exact⟨M,G,rows,rfl,λw' B=>DL.flat (J w' B).1,λw'=>⟨λZ B=>(O Z B).2,λB=>(O w' B).1⟩⟩
def PrK.of{E:Nat->Prop}{w:World}{pv:bT}{p:bQ}(h:∀w',kp E w w'->n4 w' pv p):PrK (kp E w) pv p:=by
 obtain⟨U,M,O,J,I,Z,rfl,_⟩:=h w (kp.refl _ _)
 have G:∀w',kp E w w'->DL w' (jj J) p.threads/\DL w' (jj I) p.recover:=λw' B=>by
  obtain⟨a0,a1,a2,Y,W,V,e,_,_,_,h4,h5,_⟩:=h w' B
  grind
 exact⟨h,Mk.of λw' B=>(G w' B).1,Mk.of λw' B=>(G w' B).2⟩
def C27(K:iD)(p:Nat)(m:j4)(w:World)(M:Has (gd K p m) w)(J:∀w',Ext w w'->K w')(G:rU m):CR 27 [.pointer (some ⟨p,0,none⟩)] w (λv w'=>mf (bG v m.mem.l) w w'):=by
 obtain⟨a,E⟩:=gd.rd M (J _ (Ext.refl _));have I:=E.b.cell (o:=9) rfl;have B:=St.start w;refine fD Tryz.func27 ?_;exact aD (aA my (bN mT (I.ext B.aG) (cW agk B (C76 a.q m.mem _ (E.mem.ext B.aG) G.mem) λ_ _ _ B=>B.fresh)))
def C32(K:iD)(p:Nat)(m:j4)(w:World)(hm:Has (gd K p m) w)(M:∀w',Ext w w'->K w')(J:rU m)(hfi:m.mem.dD=gK m.p):CR 32 [.pointer (some ⟨p,0,none⟩)] w (λv w'=>mf (bG v (vr m)) w w'):=by
 obtain⟨a,G⟩:=gd.rd hm (M _ (Ext.refl _));have U:=G.b.cell (o:=6) rfl;have V:=G.b.cell (o:=5) rfl;have gG:=rX m.p;have hml:m.mem.l.length=(gS m.p).length:=by rw[J.mem.ll,hfi];unfold gK;rw[oi]
 have F9:(bW m.p).length=(gS m.p).length:=by unfold bW;rw[oi]
 have hal:(gS m.p).length<=20:=by have:=J.mem.fl;have:=J.mem.ll;omega
 have hcb:=J.pz.cB;have hcz:=J.pz.zc;obtain⟨g0,g1,g2,g3,g4,g5,Y,_,_,_,_,_,hdl⟩:=G.uk.pr _ (M _ (Ext.refl _));rw[Y]at V;obtain⟨E,Kd,Wv⟩:=hdl.open;have hn0:=Wv.1;have B:=St.start w;refine an8 _ _ _ ?_;unfold S32;refine aD (aA CH (oO a.pv gO (oR.ext G.b B.aG) rfl (aY ahN B (C55 m.p a.pv _ (G.uk.pr _ (M _ B.aG)) J.pz) λ_ he B=>aD (aA CH (aA oM (bN zi (V.ext B.aG) (aK A7 (Kd.ext B.aG) ?_)))))));refine⟨λmm o y w'=>∃k:Nat,y=iE (k:Int)/\mm=E.length-k/\k<=E.length/\St w bE [bG o ((m.p.cB.take k).map (vq m))] w',⟨_,0,rfl,rfl,ob _,B.eU⟩,?_⟩
 rintro mm o _ _ ⟨k,rfl,rfl,hk,B⟩ _;refine aV (aC (λc1=>?_) λc1=>?_);rotate_left
 .rw[mH cU]at B;exact B.fresh
 obtain⟨ct,O⟩:=gx E (i:=((k:Nat):Int).toNat) cU;obtain⟨cl,W⟩:=gx m.p.cB (i:=((k:Nat):Int).toNat) cU;obtain⟨ge,rfl,zd⟩:=Wv.2 _ ct cl O W;have aD6:=(hcz cl (ml W)).1;refine⟨λjv w'=>St w bE [bG jv ((m.p.cB.take (k+1)).map (vq m))] w',?_,?_⟩;rotate_left
 .rintro o2 _ B _;exact aR cU ⟨_,cU,k+1,rfl,rfl,cU,B⟩
 refine aW A7 (Kd.ext B.aG) cU O (λq hq=>aE HF hq (aJ B MP λb6 _ B=>aH (x:=(⟨ge,cl.at_⟩:jy)) B HF rfl rfl λ_ B=>have B:=B.drew;aA CG (aB (v:=jj (ge:SV)) l5 B.hb rfl (aD (aA HG (bN nf (U.ext B.aG) (oU kN (G.uk.cs _ (M _ B.aG)) cU cU λs32 h32=>cW aiy B (C27 K p m _ (hm.ext B.aG) (λ_ e=>M _ (B.aG.then e)) J) λx34 _ cA B=>?_)))))));refine⟨aF l5 (B.p1.hb.cell rfl),?_⟩;refine⟨aF nf (U.ext B.aG),?_⟩;refine EB dZ B.fc cU cU (λs36 Z=>aY asN B (C78 _ _ _ cl.e _ _ _ (DL.flat (zd.ext B.aG)) (h32 _ (G.uk.cs _ (M _ B.aG))) Z aD6 (by rw[n0];omega)) λ_ he B=>aN rfl (aN rfl (aI ?_)))
 have SB:vq m cl=(decide ((BX ((bW m.p).take (cZ m.p).toNat) (m.mem.l.take (cZ m.p).toNat) cl.e).2=0)&&decide ((BX ((bW m.p).take (cZ m.p).toNat) (m.mem.l.take (cZ m.p).toNat) cl.e).1≠0)):=rfl;refine aC (λc2=>?_) (λc2=>?_)
 .refine cN (bV (([vq m cl]):List Bool) B CF rfl (by rw[SB,fY c2,yx];rfl) (ei rfl) λs47 w7 B=>?_);have I:=B.fc;refine cK B.p3 CF I (by rw[oi,n0,mv];omega) er (λs48 w8 B=>?_);rw[<- ig (k:=k) W];exact B.p1.drop.p1.drop.p1.drop
 refine bV (([vq m cl]):List Bool) B CF rfl (by rw[SB,gk c2,Bool.false_and];rfl) (ei rfl) (λs47 w7 B=>?_);have I:=B.fc;refine cK B.p3 CF I (by rw[oi,n0,mv];omega) er (λs48 w8 B=>?_);rw[<- ig (k:=k) W];exact B.p1.drop.p1.drop.p1.drop
structure GH(p:bQ)(k:Nat)(m:jU)(d:j4):Prop where
 r:uR p m d
 pm:SF p m k
 go:Fv p k d
 ck:Hh p
section
variable {p:bQ}{m:jU}{d:j4}{k:Nat}{q:cC}
theorem GH.step(h:GH p k m d)(q:cC):∃N m2,Jo N m q=some (m2,(mQ d q).2.1,(mQ d q).2.2)/\GH p (k+1) m2 (mQ d q).1:=by
 obtain⟨N,m2,ev,e,B,E⟩:=afd h.pm.pm q
 obtain⟨h1,h2,h3⟩:=apw h.r h.ck h.pm.pm h.go.ok B
 exact⟨N,m2,by rw[h2,h3];exact B,h1,h.pm.do B,h.go.step h.ck,h.ck⟩
theorem GH.new{room:Int}{kC:List fN}{N:Nat}(G:PZ p)(hc:Hh p)(E:Bt p)(hb:vY N (eM p).threads kC)(ht:∀t∈kC,JQ p t)(B:1<=room/\room<=16):GH p 0 (mO (m6 (eM p) room) kC) (RA p room):=
 ⟨ajb hc E hb,SF.new E hb ht B,Fv.new G hc B,hc⟩
theorem GH.axg(h:GH p k m d):gV m=gE d:=JS h.r h.pm.pm
theorem GH.bX(h:GH p k m d):qk m=jO d:=U4 h.r
theorem GH.status(h:GH p k m d):rk m=jq d:=ZG h.r h.pm.pm
theorem GH.mem(h:GH p k m d):m.mem=d.mem:=h.r.mem
theorem GH.cells(h:GH p k m d):d.mem.l.length=(bW p).length:=by
 have h1:=h.pm.pm.gm.mem.ll
 have h2:=h.pm.pm.gm.dD
 have h3:=h.pm.pm.u
 rw[<- h.mem,h1,h2,h3]
 show(gK p).length=_
 unfold gK bW
 rw[oi,oi]
theorem GH.cB(h:GH p k m d):DO m=vr d:=ZH h.r h.pm.pm h.cells
theorem GH.ajh(h:GH p k m d)(B:k<=100):(eN (Ca d.mem)).length<=1000000000:=by
 rw[<- h.mem];exact ajd h.pm B
theorem GH.lines(h:GH p k m d):ju d.mem.of<=6:=by
 rw[<- h.mem]
 have:=afn h.pm
 omega
end
def mK:Bk->Int->List Int
 | .nil,_=>[]
 | .cons x a b r,at_=>(if x.kind=11 then mK a (at_+1)++mK b (jF x a at_)else if x.kind=12 then []else if x.kind=13 then [at_]else [])++mK r (at_+(aZ (.cons x a b r)-aZ r))
def qE(l:List aU)(k o:Int):List aU:=match l[k.toNat]? with|some y=>l.set k.toNat {y with to:=o}|none=>l
def sN(l:List aU)(ks:List Int)(o:Int):List aU:=ks.foldl (λl k=>qE l k o) l
theorem Fx{l:List aU}{a b:List Int}{o:Int}:sN l (a++b) o=sN (sN l a o) b o:=List.foldl_append
theorem Fy{l:List aU}{k o:Int}:(qE l k o).length=l.length:=by
 grind[qE]
theorem Fz{pre post:List aU}{y:aU}{o:Int}:qE (pre++y::post) (pre.length:Int) o=pre++{y with to:=o}::post:=by
 unfold qE
 grind
theorem A3(p:bQ)(rs:List ByteArray)(o:Int):∀(t:Bk) (at_ lp:Int) (pre post:List aU),(pre.length:Int)=at_->sN (pre++dG p rs t at_ lp 0++post) (mK t at_) o=pre++dG p rs t at_ lp o++post
 | .nil,at_,lp,pre,post,J=>rfl
 | .cons x a b r,at_,lp,pre,post,J=>by
  have O:=A3 p rs o a
  have M:=A3 p rs o b
  have E:=A3 p rs o r
  have G:=xB (x:=x) (a:=a) (b:=b) (r:=r)
  rw[uF,uF]
  unfold mK
  rw[Fx]
  by_cases h1:x.kind=11
  .have U:=fL p rs a (at_+1) lp o
   have lb:=fL p rs b (jF x a at_) lp o
   rw[ew cU,ez h1]at G
   rw[ez h1,ez h1,ez h1,Fx]
   have e1:=O (at_+1) lp (pre++[⟨12,0,0,eL rs x.e,[],jF x a at_⟩]) ((if 0<x.eR then [⟨11,0,0,[],[],jF x a at_+aZ b⟩]else [])++dG p rs b (jF x a at_) lp 0++dG p rs r (at_+(aZ (.cons x a b r)-aZ r)) lp 0++post) dH
   have W:=M (jF x a at_) lp (pre++[⟨12,0,0,eL rs x.e,[],jF x a at_⟩]++dG p rs a (at_+1) lp o++(if 0<x.eR then [⟨11,0,0,[],[],jF x a at_+aZ b⟩]else [])) (dG p rs r (at_+(aZ (.cons x a b r)-aZ r)) lp 0++post) (by
    unfold jF
    split<;>simp only[lJ,mv,x7]<;>omega)
   have B:=E (at_+(aZ (.cons x a b r)-aZ r)) lp (pre++[⟨12,0,0,eL rs x.e,[],jF x a at_⟩]++dG p rs a (at_+1) lp o++(if 0<x.eR then [⟨11,0,0,[],[],jF x a at_+aZ b⟩]else [])++dG p rs b (jF x a at_) lp o) post (by
    split at G<;>simp only[lJ,mv,x7]<;>split<;>simp only[mv,x7]<;>omega)
   grind
  .rw[ew h1,ew h1,ew h1]
   by_cases h2:x.kind=12
   .have U:=fL p rs a (at_+1) (lp+1) (at_+2+aZ a)
    rw[ez h2]at G
    rw[ez h2,ez h2,ez h2]
    have B:=E (at_+(aZ (.cons x a b r)-aZ r)) lp (pre++([⟨13,lp,x.n,[],[],0⟩]++dG p rs a (at_+1) (lp+1) (at_+2+aZ a)++[⟨14,lp,0,[],[],at_+1⟩])) post dH
    simp only[o1]at B |-
    have I:∀l:List aU,sN l [] o=l:=λ_=>rfl
    rw[I,B]
   .rw[ew h2,ew h1]at G
    rw[ew h2,ew h2,ew h2]
    by_cases h3:x.kind=13
    .rw[ez h3,ez h3,ez h3]
     have B:=E (at_+(aZ (.cons x a b r)-aZ r)) lp (pre++[⟨11,0,0,[],[],o⟩]) post dH
     have V:sN (pre++([⟨11,0,0,[],[],0⟩]++dG p rs r (at_+(aZ (.cons x a b r)-aZ r)) lp 0)++post) [at_] o=pre++[⟨11,0,0,[],[],o⟩]++dG p rs r (at_+(aZ (.cons x a b r)-aZ r)) lp 0++post:=by
      show qE _ at_ o=_
      rw[<- J]
      have:=Fz (pre:=pre) (post:=dG p rs r (at_+(aZ (.cons x a b r)-aZ r)) lp 0++post) (y:=⟨11,0,0,[],[],0⟩) (o:=o)
      grind
     grind
    .rw[ew h3,ew h3,ew h3]
     have B:=E (at_+(aZ (.cons x a b r)-aZ r)) lp (pre++[eE p rs x]) post dH
     simp only[o1]at B |-
     have I:∀l:List aU,sN l [] o=l:=λ_=>rfl
     rw[I,B]
def uS:Bk->Int->Int->Int
 | .nil,_,c=>c
 | .cons x a b r,lp,c=>uS r lp (if x.kind=11 then uS b lp (uS a lp c)else if x.kind=12 then uS a (lp+1) (max c (lp+1))else c)
theorem Hl:∀(t:Bk) (lp c:Int),t.str->(∀x∈t.flat,¬ x.kind=11->x.eR<=0)->(∀x∈t.flat,¬ x.kind=11/\¬ x.kind=12->x.body<=0)->lp<=c->uS t lp c=max c (lp+jD t)
 | .nil,lp,c,_,_,_,h=>by unfold uS jD;omega
 | .cons x a b r,lp,c,Y,he,hb,h=>by
  obtain⟨s1,s2,s3,Z,W,U,M⟩:=Y
  have xa:∀y∈a.flat,y∈(Bk.cons x a b r).flat:=λy B=>by unfold Bk.flat;simp[B]
  have xb:∀y∈b.flat,y∈(Bk.cons x a b r).flat:=λy B=>by unfold Bk.flat;simp[B]
  have I:∀y∈r.flat,y∈(Bk.cons x a b r).flat:=λy B=>by unfold Bk.flat;simp[B]
  have x0:x∈(Bk.cons x a b r).flat:=by unfold Bk.flat;simp
  have da:=(oY a).1
  have db:=(oY b).1
  have dr:=(oY r).1
  have J:=λlp c h=>Hl a lp c W (λy B=>he y (xa y B)) (λy B=>hb y (xa y B)) h
  have O:=λlp c h=>Hl b lp c U (λy B=>he y (xb y B)) (λy B=>hb y (xb y B)) h
  have G:=λlp c h=>Hl r lp c M (λy B=>he y (I y B)) (λy B=>hb y (I y B)) h
  unfold uS jD
  by_cases h1:x.kind=11
  .rw[ez h1,ew cU,J lp c h,O lp _ cU,G lp _ cU];omega
  .rw[ew h1]
   have E:b=.nil:=yn dH
   by_cases h2:x.kind=12
   .rw[ez h2,ez h2,J (lp+1) _ cU,G lp _ cU,E]
    have:jD .nil=0:=rfl
    omega
   .rw[ew h2,ew h2,G lp _ h,E]
    have V:a=.nil:=yn dH
    grind[jD]
variable (w:World) (K:Value->iD)
def aD7:dM:=λi=>match i with
 | 1=>(.of [(0,[]),(1,[]),(2,[]),(3,[]),(4,[]),(5,[]),(6,[4]),(7,[]),(8,[]),(9,[]),(10,[])])
 | _=>.nil
def S227(B a:Value):Prop:=
 se hZ (zG 220 a) w λb c=>aL 139 c λd e=>nC B λf=>fA 212 f 1 λg=>lA 86 g (drew e) λh=>fA 220 b 1 λj=>lA 9 j (drew e) λk=>nC B λl=>fA 212 l 0 λn=>
 lA 36 n (drew e) λo=>fA 220 b 2 λp=>lA 9 p (drew e) λq=>cF 146 [h,k] (drew e) λs t=>kA 36 n o t (kA 9 p q t (cF 51 [o] t λu v=>kA 9 p q v (cF 146 [u,q] v λx y=>
 fA 220 b 0 λz=>lA 3 z y λE=>bB .eql 3 E (i 1) λab=>cV ab (fA 220 b 3 λac=>lA 92 ac y λad=>cF 302 [B,ad] y λae af=>eK hZ (mZ 139 [(0,(i 1)),(1,s),(3,ae)].toArray) λag=>
 sA 139 d ag af λah=>lA 139 d ah λr=>K r ah) (bB .eql 3 E (i 2) λai=>cV ai (eK hZ (mZ 139 [(0,(i 2)),(1,s),(2,x)].toArray) λaj=>sA 139 d aj y λak=>
 lA 139 d ak λKe=>K Ke ak) (bB .eql 3 E (i 3) λal=>cV al (fA 220 b 3 λam=>lA 92 am y λan=>cF 302 [B,an] y λao ap=>eK hZ (mZ 139 [(0,(i 3)),(2,x),(3,ao)].toArray) λaq=>
 sA 139 d aq ap λar=>lA 139 d ar λX6=>K X6 ar) (bB .eql 3 E (i 4) λasx=>cV asx (fA 220 b 3 λau=>lA 92 au (drew y) λav=>fA 220 b 4 λaw=>lA 92 aw (drew y) λax=>
 cF 302 [B,av] (drew y) λay az=>kA 92 aw ax az (cF 302 [B,ax] az λa0 a1=>eK hZ (mZ 139 [(0,(i 4)),(1,s),(2,x),(3,ay),(4,a0)].toArray) λa2=>
 sA 139 d a2 a1 λa3=>lA 139 d a3 λJ=>K J a3)) (bB .eql 3 E (i 5) λa4=>cV a4 (nC B λa5=>fA 212 a5 0 λa6=>lA 36 a6 y λa7=>cF 53 [a7,x] y λa8 a9=>eK hZ (mZ 139 [(0,(i 5)),(2,a8)].toArray) λba=>
 sA 139 d ba a9 λbb=>lA 139 d bb λM=>K M bb) (bB .eql 3 E (i 6) λbc=>cV bc (nC B λbd=>fA 212 bd 0 λbe=>lA 36 be y λbf=>cF 53 [bf,x] y λbg bh=>eK hZ (mZ 139 [(0,(i 6)),(2,bg)].toArray) λbi=>
 sA 139 d bi bh λbj=>lA 139 d bj λV=>K V bj) (bB .eql 3 E (i 7) λbk=>cV bk (eK hZ (mZ 139 [(0,(i 7))].toArray) λbl=>sA 139 d bl y λbm=>lA 139 d bm λW=>
 K W bm) (bB .eql 3 E (i 8) λbn=>cV bn (eK hZ (mZ 139 [(0,(i 8))].toArray) λbo=>sA 139 d bo y λbp=>lA 139 d bp λO=>K O bp) (bB .eql 3 E (i 9) λbq=>
 cV bq (nC B λbr=>fA 212 br 0 λbs=>lA 36 bs (drew y) λbt=>fA 220 b 2 λbu=>lA 9 bu (drew y) λbv=>cF 52 [bt] (drew y) λbw bx=>kA 9 bu bv bx (cF 146 [bw,bv] bx λbz b0=>
 eK hZ (mZ 139 [(0,(i 9)),(2,bz)].toArray) λb1=>sA 139 d b1 b0 λb2=>lA 139 d b2 λI=>K I b2)) (bB .eql 3 E (i 10) λb3=>cV b3 (nC B λb4=>
 fA 212 b4 0 λb5=>lA 36 b5 (drew y) λb6=>fA 220 b 2 λb7=>lA 9 b7 (drew y) λY=>cF 52 [b6] (drew y) λb9 Z=>kA 9 b7 Y Z (cF 146 [b9,Y] Z λcb cc=>eK hZ (mZ 139 [(0,(i 10)),(2,cb)].toArray) λcd=>
 sA 139 d cd cc λce=>lA 139 d ce λG=>K G ce)) (fA 220 b 3 λcf=>lA 92 cf y λcg=>cF 302 [B,cg] y λch ci=>eK hZ (mZ 139 [(0,(i 15)),(3,ch)].toArray) λcj=>
 sA 139 d cj ci λck=>lA 139 d ck λU=>K U ck)))))))))))))
def aD8:dM:=λi=>match i with
 | 1=>(.of [(0,[]),(1,[]),(2,[]),(3,[]),(4,[]),(5,[]),(7,[]),(8,[]),(9,[]),(10,[]),(12,[]),(13,[]),(6,[10,13]),(11,[13]),(14,[]),(15,[]),(16,[])])
 | 10=>(.of [(0,[]),(1,[]),(2,[]),(3,[]),(4,[]),(6,[]),(7,[]),(8,[]),(5,[8]),(9,[]),(10,[]),(11,[])])
 | 20=>(.of [(0,[]),(1,[]),(2,[]),(3,[]),(5,[]),(6,[]),(4,[6]),(7,[]),(8,[]),(9,[])])
 | 22=>(.of [(0,[]),(1,[]),(2,[]),(3,[]),(5,[]),(6,[]),(4,[6]),(7,[]),(8,[]),(9,[])])
 | _=>.nil
theorem aji(B E:Value)(h:S227 w K B E):CR 227 [B,E] w K:=
 qG 109 aD8 16 [.cell 4 139] Tryz.func227 h
def aD9:dM:=λi=>match i with
 | 0=>.run 0 9
 | _=>.nil
def S223(B a Ec J:Value):Prop:=
 se hZ (zG 220 a) w λb c=>fA 220 b 3 λd=>lA 92 d c λe=>cF 302 [B,e] c λf g=>eK hZ (mZ 139 [(0,(i 12)),(3,f)].toArray) λh=>cF 225 [B,h] g λj k=>
 cF 120 [B,Ec] k λ_ l=>eW (λI=>lN 112 J λn=>bB .gtr 3 n (i 0) λo=>cV o (eK hZ (mZ 139 [(0,(i 11))].toArray) λp=>cF 225 [B,p] l λq r=>
 I q r) (I (i (-1)) l)) (λE s=>∀_:Env,
 nC B λt=>fA 212 t 4 λu=>lA 44 u (drew s) λv=>nC B λx=>fA 212 x 4 λy=>lA 44 y (drew s) λz=>lN 44 z λV=>iA 44 v j λab=>fA 139 ab 5 λY=>sA 3 Y V (drew s) λad=>
 cF 120 [B,J] ad λ_ G=>bB .geq 3 E (i 0) λM=>cV M (nC B λO=>fA 212 O 4 λah=>lA 44 ah (drew G) λai=>nC B λZ=>fA 212 Z 4 λak=>lA 44 ak (drew G) λal=>
 lN 44 al λam=>iA 44 ai E λU=>fA 139 U 5 λao=>sA 3 ao am (drew G) λW=>K (.tuple #[]) W) (K (.tuple #[]) G))
def aEa:dM:=λi=>match i with
 | 6=>.run 0 13
 | 9=>.run 0 13
 | _=>.nil
theorem ajj(B E G I:Value)(h:S223 w K B E G I):CR 223 [B,E,G,I] w K:=
 qG 55 aEa 0 [] Tryz.func223 h
def S224(B a Ec:Value):Prop:=
 se hZ (zG 220 a) w λb c=>nC B λd=>fA 212 d 5 λe=>lA 210 e c λf=>nC B λg=>fA 212 g 5 λh=>sA 210 h (.slice none 0 0) c λj=>nC B λk=>
 fA 212 k 2 λl=>lA 3 l j λn=>fA 220 b 5 λo=>lA 3 o j λp=>eK hZ (mZ 139 [(0,(i 13)),(1,n),(2,p)].toArray) λq=>cF 225 [B,q] j λr s=>nC B λt=>
 fA 212 t 2 λu=>lA 3 u s λv=>bB .add 3 v (i 1) λx=>nC B λy=>fA 212 y 2 λz=>sA 3 z x s λE=>nC B λab=>fA 212 ab 3 λZ=>lA 3 Z (drew E) λad=>nC B λae=>
 fA 212 ae 2 λO=>lA 3 O (drew E) λU=>eK hZ (Builtin.max_ #[3,3] 3 [ad,U].toArray) λah=>nC B λai=>fA 212 ai 3 λaj=>sA 3 aj ah (drew E) λak=>
 cF 120 [B,Ec] ak λ_ al=>nC B λam=>fA 212 am 2 λW=>lA 3 W al λao=>bB .sub 3 ao (i 1) λY=>nC B λaq=>fA 212 aq 2 λar=>sA 3 ar Y al λasx=>bB .add 3 r (i 1) λau=>
 eK hZ (mZ 139 [(0,(i 14)),(1,n),(5,au)].toArray) λav=>cF 225 [B,av] asx λ_ J=>nC B λax=>fA 212 ax 5 λay=>lA 210 ay J λI=>lN 210 I λa0=>
 lE (λG a1 a2=>∀_:Env,
 bA .lss 3 a1 a0 λa3=>cV a3 (iA 210 I a1 λa4=>lA 250 a4 a2 λa5=>nC B λa6=>fA 212 a6 4 λa7=>lA 44 a7 a2 λa8=>lN 44 a8 λM=>gR hZ a5 [M] a2 λ_ ba=>
 bB .add 3 a1 (i 1) λbb=>G bb ba) (nC B λbc=>fA 212 bc 5 λbd=>sA 210 bd f a2 λV=>K (.tuple #[]) V)) (λG=>G (i 0) J)
def aEb:dM:=λi=>match i with
 | 6=>.run 0 13
 | _=>.nil
theorem ajk(B E G:Value)(h:S224 w K B E G):CR 224 [B,E,G] w K:=
 qG 84 aEb 0 [] Tryz.func224 h
def S120(m0 l1:Value):Prop:=
 se hZ (zG 209 m0) w λm2 a=>lE (λM E b=>∀_:Env,
 lN 112 l1 λc=>bA .lss 3 E c λd=>cV d (iA 112 l1 E λe=>lA 220 e b λf=>aL 220 b λg h=>sA 220 g f h λj=>bB .add 3 E (i 1) λk=>fA 220 g 6 λl=>lA 3 l j λn=>
 bA .add 3 k n λo=>fA 220 g 7 λp=>lA 3 p j λq=>bA .add 3 o q λr=>yp (λK2=>fA 220 g 0 λs=>lA 3 s j λt=>bB .eql 3 t (i 11) λu=>cV u (lA 209 m2 (drew j) λv=>
 lA 220 g (drew j) λx=>bB .add 3 E (i 1) λy=>eK hZ (pA 112 l1 (some y) (some o) none) λz=>eK hZ (pA 112 l1 (some o) (some r) none) λaa=>
 cF 223 [v,x,z,aa] (drew j) λ_ ab=>K2 ab) (bB .eql 3 t (i 12) λac=>cV ac (lA 209 m2 (drew j) λad=>lA 220 g (drew j) λae=>bB .add 3 E (i 1) λY=>eK hZ (pA 112 l1 (some Y) (some o) none) λZ=>
 cF 224 [ad,ae,Z] (drew j) λ_ ah=>K2 ah) (bB .eql 3 t (i 13) λai=>cV ai (lA 209 m2 j λaj=>eK hZ (mZ 139 [(0,(i 11))].toArray) λak=>cF 225 [aj,ak] j λal am=>
 aL 3 am λB an=>sA 3 B al an λG=>lA 209 m2 (drew G) λJ=>lA 209 m2 (drew G) λO=>nC O λar=>fA 212 ar 5 λasx=>lA 210 asx (drew G) λW=>bS 210 1 [(0,(.func (Go.Fn.func 226) [].toArray [m2,B].toArray))] (drew G) λav I=>
 kA 209 m2 J I (kA 209 m2 O I (kA 210 asx W I (aP 210 W av I λax V=>kA 209 m2 J V (nC J λaz=>fA 212 az 5 λa0=>sA 210 a0 ax V λa1=>K2 a1))))) (lA 209 m2 (drew j) λa2=>
 lA 209 m2 (drew j) λa3=>lA 220 g (drew j) λa4=>cF 227 [a3,a4] (drew j) λa5 U=>kA 209 m2 a2 U (cF 225 [a2,a5] U λ_ a7=>K2 a7))))) (λa8=>∀_:Env,
 M r a8)) (K (.tuple #[]) b)) (λM=>M (i 0) a)
def aEc:dM:=λi=>match i with
 | 7=>(.of [(0,[]),(1,[]),(2,[]),(3,[0]),(4,[])])
 | 9=>.run 0 12
 | 11=>.run 0 8
 | 14=>(.of [(0,[]),(1,[]),(2,[]),(3,[]),(4,[]),(5,[]),(6,[0,1,4]),(7,[0]),(8,[]),(9,[]),(10,[])])
 | _=>.nil
theorem ajl(B l1:Value)(h:S120 w K B l1):CR 120 [B,l1] w K:=
 qG 73 aEc 0 [] Tryz.func120 h
def P58:dM:=λi=>match i with
 | 3=>.run 0 13
 | _=>.nil
def S18(p0:Value):Prop:=
 se hZ (zG 36 p0) w λp1 a=>aL 49 a λb c=>lA 36 p1 c λd=>cF 49 [d] c λe f=>xT e 0 λg=>xT e 1 λ_=>bB .neq 40 g (i 0) λh=>cV h (eK hZ (mZ 49 [].toArray) λj=>
 sA 49 b j f λk=>lA 49 b k λr=>K (.tuple #[r,g]) k) (lA 36 p1 f λl=>cF 51 [l] f λn o=>eW (λK1=>lA 36 p1 (drew o) λp=>lA 36 p1 (drew o) λq=>fA 36 p1 2 λs=>
 lA 32 s (drew o) λt=>lN 32 t λu=>((cF 55 [p] (drew o) λv x=>kA 36 p1 q x (kA 32 s t x ((cF 56 [q] x λy z=>kA 32 s t z (eK hZ (mZ 49 [(1,v),(2,y),(3,u)].toArray) λaa=>
 aL 49 z λu7 U=>kA 36 p1 p U (kA 36 p1 q U (kA 32 s t U (sA 49 u7 aa U λac=>K1 u7 ac)))))
 /\((aL 49 x λM O=>kA 36 p1 p O (kA 36 p1 q O (kA 32 s t O (cF 56 [q] O λae af=>kA 32 s t af (eK hZ (mZ 49 [(1,v),(2,ae),(3,u)].toArray) λag=>
 sA 49 M ag af λah=>K1 M ah)))))
 /\
 True))))
 /\((aL 49 (drew o) λJ Z=>kA 36 p1 p Z (kA 36 p1 q Z (kA 32 s t Z (cF 55 [p] Z λaj ak=>kA 36 p1 q ak (kA 32 s t ak (cF 56 [q] ak λal am=>kA 32 s t am (eK hZ (mZ 49 [(1,aj),(2,al),(3,u)].toArray) λan=>
 sA 49 J an am λao=>K1 J ao)))))))
 /\
 True))) (λB ap=>∀_:Env,
 lN 86 n λaq=>lE (λK2 ar asx=>∀_:Env,
 bA .lss 3 ar aq λau=>cV au (fA 49 B 0 λav=>lA 22 av (drew asx) λaw=>lA 36 p1 (drew asx) λax=>cF 53 [ax,ar] (drew asx) λay az=>kA 22 av aw az (bS 22 1 [(0,ay)] az λa0 a1=>
 kA 22 av aw a1 (aP 22 aw a0 a1 λa2 a3=>fA 49 B 0 λa4=>sA 22 a4 a2 a3 λa5=>bB .add 3 ar (i 1) λa6=>K2 a6 a5))) (fA 36 p1 3 λa7=>lA 33 a7 asx λa8=>lN 33 a8 λa9=>
 lE (λK3 ba W=>∀_:Env,
 bA .lss 3 ba a9 λbc=>cV bc (iA 33 a8 ba λbd=>lA 114 bd W λbe=>aL 114 W λI bf=>sA 114 I be bf λV=>fA 49 B 4 λbh=>lA 43 bh (drew V) λbi=>lA 36 p1 (drew V) λbj=>
 lA 114 I (drew V) λbk=>cF 58 [bj,bk] (drew V) λbl bm=>kA 43 bh bi bm (bS 43 1 [(0,bl)] bm λbn bo=>kA 43 bh bi bo (aP 43 bi bn bo λbp bq=>fA 49 B 4 λbr=>
 sA 43 br bp bq λbs=>bB .add 3 ba (i 1) λbt=>K3 bt bs))) (fA 36 p1 4 λbu=>lA 33 bu W λbv=>lN 33 bv λbw=>lE (λK4 bx bz=>∀_:Env,
 bA .lss 3 bx bw λb0=>cV b0 (iA 33 bv bx λb1=>lA 114 b1 bz λb2=>aL 114 bz λE b3=>sA 114 E b2 b3 λb4=>lA 36 p1 b4 λb5=>lA 114 E b4 λb6=>cF 58 [b5,b6] b4 λb7 b8=>
 fA 49 B 5 λb9=>sA 46 b9 b7 b8 λca=>bB .add 3 bx (i 1) λcb=>K4 cb ca) (fA 36 p1 5 λcc=>lA 34 cc bz λcd=>lN 34 cd λce=>lE (λK5 cf Y=>∀_:Env,
 bA .lss 3 cf ce λch=>cV ch (iA 34 cd cf λci=>lA 95 ci Y λcj=>aL 95 Y λG ck=>sA 95 G cj ck λcl=>fA 95 G 0 λcm=>lA 92 cm (drew cl) λcn=>fA 49 B 1 λco=>
 lA 3 co (drew cl) λcp=>eK hZ (pA 86 n none (some cp) none) λcq=>cF 59 [cn,cq] (drew cl) λcr cs=>xT cr 0 λct=>xT cr 1 λ_=>fA 49 B 6 λcu=>
 lA 47 cu cs λcv=>bS 47 1 [(0,ct)] cs λcw cx=>aP 47 cv cw cx λcy cz=>fA 49 B 6 λc0=>sA 47 c0 cy cz λc1=>bB .add 3 cf (i 1) λc2=>K5 c2 c1) (lA 49 B Y λc3=>
 sA 49 b c3 Y λc4=>lA 49 b c4 λKe=>K (.tuple #[Ke,(i 0)]) c4)) λK5=>K5 (i 0) bz)) λK4=>K4 (i 0) W)) λK3=>K3 (i 0) asx)) λK2=>K2 (i 0) ap))
def P18:dM:=λi=>match i with
 | 5=>(.op 0 [] (.op 2 [] (.op 4 [] (.op 5 [] (.op 6 [] (.alt 1 [2,5] (.alt 3 [5] (.of [(7,[]),(8,[0,2,5]),(9,[])]) (.alt 8 [0,2,5] (.of [(3,[5]),(7,[]),(9,[])]) .stop)) (.alt 8 [0,2,5] (.of [(1,[2,5]),(3,[5]),(7,[]),(9,[])]) .stop)))))))
 | 9=>(.of [(0,[]),(1,[]),(2,[]),(3,[]),(4,[1]),(5,[1]),(6,[]),(7,[]),(8,[])])
 | 14=>(.of [(0,[]),(1,[]),(2,[]),(3,[]),(4,[1]),(5,[1]),(6,[]),(7,[]),(8,[])])
 | 24=>.run 0 12
 | _=>.nil
theorem apE(p0:Value)(h:S18 w K p0):CR 18 [p0] w K:=
 qG 103 P18 12 [.cell 2 49,.tmp 3] Tryz.func18 h
theorem Ml:PL 225:=dT Tryz.func225
theorem Mm:PL 302:=dT Tryz.func302
theorem axj:PL 227:=dT Tryz.func227
theorem axk:PL 226:=dT Tryz.func226
theorem axl:PL 223:=dT Tryz.func223
theorem axm:PL 224:=dT Tryz.func224
theorem XR:PL 120:=dT Tryz.func120
theorem axn:PL 58:=dT Tryz.func58
theorem axo:PL 18:=dT Tryz.func18
end Go.Proofs.YtdncbeepkacgbaaGreatDoor
namespace Go.Proofs.YtdncbeepkacgbaaGreatDoor
open Go.Fw
def Sg(a0:Int)(a1:Int)(a2:Option Addr)(E B:Nat):pr hZ (mZ 46 [(0,iE a0),(1,iE a1),(2,.slice a2 E B)].toArray)=some (.agg [iE a0,iE a1,.slice a2 E B].toArray):=by kernel_rfl
def Aw(a1:Int)(a2:Option Addr)(E B:Nat)(G:Int):pr hZ (mZ 49 [(1,iE a1),(2,.slice a2 E B),(3,iE G)].toArray)=some (.agg [.slice none 0 0,iE a1,.slice a2 E B,iE G,.slice none 0 0,iE 0,iE 0,.slice none 0 0,.slice none 0 0].toArray):=by kernel_rfl
def Ed(a0:Int):pr hZ (mZ 139 [(0,iE a0)].toArray)=some (.agg [iE a0,iE 0,iE 0,.slice none 0 0,.slice none 0 0,iE 0].toArray):=by kernel_rfl
def Ee(a0:Int)(a1:Int)(a2:Int):pr hZ (mZ 139 [(0,iE a0),(1,iE a1),(2,iE a2)].toArray)=some (.agg [iE a0,iE a1,iE a2,.slice none 0 0,.slice none 0 0,iE 0].toArray):=by kernel_rfl
def FA(a0:Int)(a1:Int)(a2:Int)(M:Option Addr)(G B:Nat)(J:Option Addr)(E I:Nat):pr hZ (mZ 139 [(0,iE a0),(1,iE a1),(2,iE a2),(3,.slice M G B),(4,.slice J E I)].toArray)=some (.agg [iE a0,iE a1,iE a2,.slice M G B,.slice J E I,iE 0].toArray):=by kernel_rfl
def Oo(a0:Int)(a1:Int)(G:Option Addr)(E B:Nat):pr hZ (mZ 139 [(0,iE a0),(1,iE a1),(3,.slice G E B)].toArray)=some (.agg [iE a0,iE a1,iE 0,.slice G E B,.slice none 0 0,iE 0].toArray):=by kernel_rfl
def Oq(a0:Int)(a1:Int)(B:Int):pr hZ (mZ 139 [(0,iE a0),(1,iE a1),(5,iE B)].toArray)=some (.agg [iE a0,iE a1,iE 0,.slice none 0 0,.slice none 0 0,iE B].toArray):=by kernel_rfl
def yo(a0:Int)(a2:Int):pr hZ (mZ 139 [(0,iE a0),(2,iE a2)].toArray)=some (.agg [iE a0,iE 0,iE a2,.slice none 0 0,.slice none 0 0,iE 0].toArray):=by kernel_rfl
def Ot(a0:Int)(a2:Int)(G:Option Addr)(E B:Nat):pr hZ (mZ 139 [(0,iE a0),(2,iE a2),(3,.slice G E B)].toArray)=some (.agg [iE a0,iE 0,iE a2,.slice G E B,.slice none 0 0,iE 0].toArray):=by kernel_rfl
def JW(a0:Int)(E:Option Addr)(B G:Nat):pr hZ (mZ 139 [(0,iE a0),(3,.slice E B G)].toArray)=some (.agg [iE a0,iE 0,iE 0,.slice E B G,.slice none 0 0,iE 0].toArray):=by kernel_rfl
def U7(O:Option Addr)(Pq Pr:Nat)(Ps:Option Addr)(J M:Nat)(Pt:Option Addr)(Pu Pv:Nat)(U:Option Addr)(I E:Nat)(Px:Option Addr)(V Z:Nat)(W:Option Addr)(G B:Nat)(a1:Option Addr)(Y c1:Nat):pr hZ (mZ 212 [(0,.agg [.slice O Pq Pr,.slice Ps J M,.slice Pt Pu Pv,.slice U I E,.slice Px V Z,.slice W G B].toArray),(1,.slice a1 Y c1)].toArray)=some (.agg [.slice O Pq Pr,.slice Ps J M,.slice Pt Pu Pv,.slice U I E,.slice Px V Z,.slice W G B,.slice a1 Y c1,iE 0,iE 0,.slice none 0 0,.slice none 0 0].toArray):=by kernel_rfl
structure LwS(p:bQ)(rs:List ByteArray)(x:bD):Prop where
 k:Zr p rs x
 el:¬ x.kind=11->x.eR<=0
 bd:¬ x.kind=11/\¬ x.kind=12->x.body<=0
 n:x.kind=12->1<=x.n/\x.n<=8
 e:x.e.length<=1000
 f:x.f.length<=1000
def apF{p:bQ}{rs:List ByteArray}{x:bD}(h:Zr p rs x):(x.kind=1\/x.kind=2\/x.kind=4->(eE p rs x).a=bR rs x.eY)/\(¬ (x.kind=1\/x.kind=2\/x.kind=4)->(eE p rs x).a=0):=by
 refine⟨λB=>?_,λB=>?_⟩
 .have h1:=h.fit.r1 B
  have h2:=h.nb
  unfold oJ at h2
  simp only[sn,Ev,decide_eq_false_iff_not,DY]at h2
  have h3:=JM h1
  show max 0 (bR rs x.eY)=_
  grind
 show max 0 (bR rs x.eY)=0
 rw[h.fit.r0 B,JN h.rg];rfl
def qo{p:bQ}{rs:List ByteArray}{x:bD}{k a b:Int}{e f:List nW}(h:Zr p rs x)(E:(if x.kind=14 then 15 else x.kind)=k)(B:(eE p rs x).a=a)(hb:(eE p rs x).b=b)(G:eL rs x.e=e)(I:eL rs x.f=f):eE p rs x=⟨k,a,b,e,f,0⟩:=by
 grind[eE]
def aEd{p:bQ}{rs:List ByteArray}{x:bD}(h:Zr p rs x)(B:¬ (x.kind=1\/x.kind=3\/x.kind=4\/x.kind=11\/x.kind=14)):eL rs x.e=[]:=by rw[h.fit.e0 B];rfl
def aEe{p:bQ}{rs:List ByteArray}{x:bD}(h:Zr p rs x)(B:¬ x.kind=4):eL rs x.f=[]:=by rw[h.fit.f0 B];rfl
def aEf{p:bQ}{rs:List ByteArray}{x:bD}:(x.kind=2\/x.kind=3\/x.kind=4->(eE p rs x).b=bR (bW p) x.name)/\(x.kind=5\/x.kind=6->(eE p rs x).b=iS p (bR (bW p) x.name))/\(x.kind=9\/x.kind=10->(eE p rs x).b=bR (cR p) x.name)/\(x.kind=1\/x.kind=7\/x.kind=8\/11<=x.kind->(eE p rs x).b=0):=by
 refine⟨λh=>?_,λh=>?_,λh=>?_,λh=>?_⟩<;>show(if x.kind=2\/x.kind=3\/x.kind=4 then _ else if x.kind=5\/x.kind=6 then _ else if x.kind=9\/x.kind=10 then _ else 0)=_
 .omega
 .omega
 .omega
 omega
structure xE where
 loops:Int
 counts:Int
 out:List aU
 mL:List Int
structure uH where
 bm:Nat
 ba:Nat
def alT(x:uH):Value:=.func (.func 226) #[] #[.pointer (some ⟨x.bm,0,none⟩),.pointer (some ⟨x.ba,0,none⟩)]
instance:Flat uH where
 agg:=false
 sz:=1
 enc x:=[alT x]
 val:=alT
 pos:=er
 len _:=rfl
 one _ v h:=by rw[sU.1 h];rfl
 ot h:=by cases h
 oS _ _:=rfl
def j6(mp:Nat)(ms:List uH)(ks:List Int)(w:World):Prop:=ms.length=ks.length/\∀(i:Nat) (x:uH) (k:Int),ms[i]?=some x->ks[i]?=some k->Cell w x.bm 0 (.pointer (some ⟨mp,0,none⟩))/\Cell w x.ba 0 (iE k)
def j6.nil{mp:Nat}{w:World}:j6 mp [] [] w:=⟨rfl,λi x k h=>by simp at h⟩
def j6.snoc{mp:Nat}{w:World}{ms:List uH}{ks:List Int}{x:uH}{k:Int}(h:j6 mp ms ks w)(h1:Cell w x.bm 0 (.pointer (some ⟨mp,0,none⟩)))(h2:Cell w x.ba 0 (iE k)):j6 mp (ms++[x]) (ks++[k]) w:=by
 grind[j6]
@[reducible] def mkc(pv:bT)(rv:SV)(l c:Int)(ov bv:Value):List Value:=[jj pv.lines,jj pv.jR,jj pv.locks,jj pv.threads,jj pv.recover,jj pv.cB,jj rv,.int .i64 l,.int .i64 c,ov,bv]
def nP(mp:Nat)(pv:bT)(rv:SV)(st:xE)(Q:iD):HP:=ph λov:Value=>ph λbv:Value=>ph λms:List uH=>sep (bU mp (mkc pv rv st.loops st.counts ov bv)) (sep (fe ov st.out) (sep (bG bv ms) (ep λw=>j6 mp ms st.mL w/\Q w)))
section
variable {w w0:World}{A:Nat->Prop}{L:List HP}{mp:Nat}{pv:bT}{rv:SV}{st:xE}{ov bv:Value}{ms:List uH}{Q Q2:iD}
theorem nP.open(B:St w0 A (nP mp pv rv st Q::L) w):∃(ov bv:Value) (ms:List uH),St w0 A (bU mp (mkc pv rv st.loops st.counts ov bv)::fe ov st.out::bG bv ms::ep (λw=>j6 mp ms st.mL w/\Q w)::L) w:=by
 obtain⟨ov,h1⟩:=B.dU
 obtain⟨bv,h2⟩:=h1.dU
 obtain⟨ms,h3⟩:=h2.dU
 refine⟨ov,bv,ms,?_⟩
 have h4:=h3.split.p1.split.p1.split
 exact h4.p3.p3.p1
theorem nP.shut(B:St w0 A (bU mp (mkc pv rv st.loops st.counts ov bv)::fe ov st.out::bG bv ms::ep (λw=>j6 mp ms st.mL w/\Q w)::L) w):St w0 A (nP mp pv rv st Q::L) w:=by
 have h1:=B.p3.p3.join
 have h2:=h1.p2.join
 have h3:=h2.p1.join
 exact St.dX (H:=λov:Value=>ph λbv:Value=>ph λms:List uH=>sep (bU mp (mkc pv rv st.loops st.counts ov bv)) (sep (fe ov st.out) (sep (bG bv ms) (ep λw=>j6 mp ms st.mL w/\Q w)))) ov (St.dX (H:=λbv:Value=>ph λms:List uH=>sep (bU mp (mkc pv rv st.loops st.counts ov bv)) (sep (fe ov st.out) (sep (bG bv ms) (ep λw=>j6 mp ms st.mL w/\Q w)))) bv (St.dX (H:=λms:List uH=>sep (bU mp (mkc pv rv st.loops st.counts ov bv)) (sep (fe ov st.out) (sep (bG bv ms) (ep λw=>j6 mp ms st.mL w/\Q w)))) ms h3))
theorem nP.q(B:St w0 A (nP mp pv rv st Q::L) w):Q w:=by
 obtain⟨ov,bv,ms,h⟩:=nP.open B
 exact h.p3.ep.2
theorem nP.mono(B:St w0 A (nP mp pv rv st Q::L) w)(h:∀w,Q w->Q2 w):St w0 A (nP mp pv rv st Q2::L) w:=by
 obtain⟨ov,bv,ms,B⟩:=nP.open B
 replace B:=B.p3.cS (Ψ:=λw=>j6 mp ms st.mL w/\Q2 w) (λw g=>⟨g.1,h w g.2⟩)
 exact nP.shut B.p3.p3.p3
theorem nP.add(B:St w0 A (ep Q2::nP mp pv rv st Q::L) w):St w0 A (nP mp pv rv st (λw=>Q w/\Q2 w)::L) w:=by
 obtain⟨ov,bv,ms,B⟩:=nP.open B.p1
 replace B:=B.p4.p4.fu.cS (Ψ:=λw=>j6 mp ms st.mL w/\(Q w/\Q2 w)) (λw g=>⟨g.1.1,g.1.2,g.2⟩)
 exact nP.shut B.p3.p3.p3
end
def C225(mp:Nat)(pv:bT)(rv:SV)(st:xE)(Q:iD)(y:aU)(G:bK)(F:Nat->Prop)(w:World)(M:(sep (nP mp pv rv st Q) (ep λw=>n4 w G y)).p w F)(U:st.out.length<=100000):CR 225 [(.pointer (some ⟨mp,0,none⟩)),jj G] w (λv w'=>v=iE (st.out.length:Int)/\ng F (nP mp pv rv {st with out:=st.out++[y]} Q) w w'):=by
 have B:=(St.begin M).split;obtain⟨ov,bv,ms,B⟩:=nP.open B;refine pG Tryz.func225 (pl:=aD7) ?_;refine cP (x:=G) B (λb3 _ B=>aD (aA oA (have B:=B.drew;aB pD B.p1.hb rfl (aE ie B.At (have B:=B.p5;fH B pE er λJ _ B=>?_)))));refine⟨aF pD (B.p2.hb.cell rfl),?_⟩;refine fI B.p3 pE (by simp;omega) er (λE _ B=>aD (aA oA (aO B.p2 pD (ei rfl) B.dl.one λ_ B=>aD (aA oA (aB pD B.hb rfl ?_)))));obtain⟨ts,I⟩:=B.p1.wI;have O:=I.MX;rw[lJ,mv]at O
 exact aK pE I.fc (fO cU (have B:=nP.shut (st:={st with out:=st.out++[y]}) (ov:=E) (bv:=bv) (ms:=ms) (Q:=Q) B.p4.p4.p3.p3;⟨gD (n5 .i64) cU,B.mut⟩))
def JX{ts:List bK}{out:List aU}{k e:Int}{B:bK}{y:aU}{w:World}(h:jx ts out w)(ht:ts[k.toNat]?=some B)(E:out[k.toNat]?=some y):jx (ts.set k.toNat (⟨B.kind,B.a,B.b,B.e,B.f,e⟩:bK)) (qE out k e) w:=by
 have M:=h.2 _ _ _ ht E
 unfold qE
 rw[E]
 dsimp only
 refine⟨by rw[sy,sy];exact h.1,λj t' O h1 h2=>?_⟩
 rw[List.getElem?_set]at h1 h2
 by_cases G:k.toNat=j
 .rw[ez G]at h1 h2
  split at h1
  .split at h2
   .cases h1;cases h2
    obtain⟨I,J,rfl,h3,h4⟩:=M
    exact⟨I,J,rfl,h3,h4⟩
   cases h2
  cases h1
 rw[ew G]at h1 h2;exact h.2 _ _ _ h1 h2
def C226(mp:Nat)(pv:bT)(rv:SV)(l c:Int)(ov bv:Value)(out:List aU)(k e:Int)(bm ba:Nat)(F:Nat->Prop)(w:World)(M:(sep (bU mp (mkc pv rv l c ov bv)) (fe ov out)).p w F)(h1:∀w',gZ F w w'->Cell w' bm 0 (.pointer (some ⟨mp,0,none⟩))/\Cell w' ba 0 (iE k))(J:0<=k/\k<out.length):CR 226 [iE e,.pointer (some ⟨bm,0,none⟩),.pointer (some ⟨ba,0,none⟩)] w (λv w'=>v=.tuple #[]/\ng F (sep (bU mp (mkc pv rv l c ov bv)) (fe ov (qE out k e))) w w'):=by
 obtain⟨y,I⟩:=gx out (i:=k.toNat) cU;have B:=(St.begin M).split;refine pG Tryz.func226 (pl:=aD9) ?_;have B:=B.drew;refine bN yw (h1 _ B.aG).1 (aD (aA oA (aB pD B.hb rfl (bN bL (h1 _ B.aG).2 ?_))));obtain⟨ts,B⟩:=B.p1.wI;have V:=B.MX;obtain⟨E,G⟩:=gx ts (i:=k.toNat) cU;exact dN B pE J.1 cU (λ_ O=>mD jH O λ_ U=>wG (x:=E) (⟨E.kind,E.a,E.b,E.e,E.f,e⟩:bK) e B bL U G er rfl λ_ B=>have B:=B.p1.cS (Ψ:=jx (ts.set k.toNat (⟨E.kind,E.a,E.b,E.e,E.f,e⟩:bK)) (qE out k e)) (λ_ h=>JX h G I);have B:=B.p1.zE.p1.join;⟨rfl,B.mut⟩)
def C302(mp:Nat)(pv:bT)(rv:SV)(l c:Int)(ov bv:Value)(rs:List ByteArray)(lv:Value)(xs:List bY)(w:World)(hb:oR w mp (mkc pv rv l c ov bv))(E:dP (λ_=>True) w (jj rv) rs)(B:dP (λ_=>True) w lv xs)(G:xs.length<=1048576)(J:rs.length<=1048576):CR 302 [(.pointer (some ⟨mp,0,none⟩)),lv] w (λv w'=>mf (bG v (eL rs xs)) w w'):=by
 have M:=St.start w;refine fD Tryz.func302 ?_;refine aD (aA Pj (aB nf hb rfl (eC amP (C59 lv _ xs rs _ B E G J) ?_)));rintro _ _ ⟨s,rfl,I⟩;exact aN rfl (aN rfl I)
def GI{w w':World}{b:Nat}{cs:List Value}(h:oR w b cs)(e:Ext w w'):oR w' b cs:=h.of_eq (e.bU b h.lt λx=>x)
def qp{k a b t:Int}{w:World}:n4 w (⟨k,a,b,bO,bO,t⟩:bK) (⟨k,a,b,[],[],t⟩:aU):=⟨_,_,rfl,DL.nil _,DL.nil _⟩
def Hm{k a b:Int}{e:List nW}{s:SV}{w:World}(h:dP (λ_=>True) w (jj s) e):n4 w (⟨k,a,b,s,bO,0⟩:bK) (⟨k,a,b,e,[],0⟩:aU):=⟨_,_,rfl,DL.fP h,DL.nil _⟩
def afp{k a b:Int}{e f:List nW}{s t:SV}{w:World}(h:dP (λ_=>True) w (jj s) e)(h2:dP (λ_=>True) w (jj t) f):n4 w (⟨k,a,b,s,t,0⟩:bK) (⟨k,a,b,e,f,0⟩:aU):=⟨_,_,rfl,DL.fP h,DL.fP h2⟩
def GZ{α:Type}[Flat α]{P:Program}{w:World}{T:Nat}{b o:Nat}{cs:List Value}{x:α}(ht:cM P T=some (Flat.agg α,og α))(hb:oR w b cs)(B:(cs.drop o).take (og α)=jl x):(Instr.loadAt T (.pointer (some ⟨b,o,none⟩))).run P w=.ok (jj x) w:=by
 obtain⟨v,h1,h2⟩:=(oO (K:=λv=>v=jj x) x ht hb B rfl).ex
 grind
def C227(mp:Nat)(pv:bT)(rv:SV)(l c:Int)(ov bv:Value)(p:bQ)(rs:List ByteArray)(x:bD)(xv:bF)(w:World)(hb:oR w mp (mkc pv rv l c ov bv))(hp:n4 w pv p)(hr:dP (λ_=>True) w (jj rv) rs)(hx:n4 w xv x)(hz:PZ p)(G:LwS p rs x)(hk:¬ x.kind=11/\¬ x.kind=12/\¬ x.kind=13)(Ln:rs.length<=500):CR 227 [(.pointer (some ⟨mp,0,none⟩)),jj xv] w (λv w'=>∃iv:bK,v=jj iv/\mf (ep λw=>n4 w iv (eE p rs x)) w w'):=by
 obtain⟨M,gf,rfl,dE,dF⟩:=lB hx;have F9:=IC hz.toPS;have J9:(cR p).length<=500:=by unfold cR;rw[oi];exact hz.locks
 have Vm:=G.k.fit.kind;have hE:=G.e;have hFl:=G.f;obtain⟨FT,TT,OI,O⟩:=aEf (p:=p) (rs:=rs) (x:=x);obtain⟨V,U⟩:=apF G.k;have W:=aEd G.k;have J:=aEe G.k;have B:=St.start w;refine aji _ _ _ _ ?_;unfold S227;refine cP (x:=(⟨x.kind,x.eY,x.name,M,gf,x.n,x.body,x.eR,x.at_⟩:bF)) B (λb3 _ B=>aJ B oN λb4 _ B=>aD (aA Pj (have B:=B.drew;aB nf (GI hb B.aG) rfl (aA lO (aB (v:=.string x.eY) ke B.p1.hb rfl (aD (aA zz (oO (x:=pv) gO (GI hb B.aG) rfl (aA jJ (aB (v:=.string x.name) ke B.p1.hb rfl (aY Bv B (C146 _ rs x.eY _ (hr.ext B.aG) cU) λ_ he B=>?_)))))))))))
 refine⟨GZ (x:=pv) gO (GI hb B.aG) rfl,?_⟩;refine⟨aF ke (B.p1.hb.cell rfl),?_⟩;refine cW anb B (C51 p pv _ (B4 hp B.aG) hz) (λx18 _ Z B=>?_);refine⟨aF ke (B.p2.hb.cell rfl),?_⟩;refine aY Bv B (C146 _ (bW p) x.name _ B.fc cU) (λ_ he B=>have B:=B.drop;aA iy (aB (v:=iE x.kind) bL B.p1.hb rfl (aI (aC (λk1=>?_) λk1=>?_))))
 .refine aA jK (aB (v:=jj M) l5 B.p1.hb rfl (cW Mm B (C302 mp pv rv l c ov bv rs (jj M) x.e _ (GI hb B.aG) (hr.ext B.aG) (dE.ext B.aG) cU cU) λxe w6 Z B=>?_));have E:eE p rs x=⟨1,bR rs x.eY,0,eL rs x.e,[],0⟩:=qo G.k (by first|rw[ez cU]|(rw[ew cU];omega)) (V cU) (O cU) (rfl) (J cU);obtain⟨I,rfl⟩:=B.fK;exact pop (Oo _ _ _ _ _) (aH (x:=(⟨1,(bR rs x.eY),0,I,bO,0⟩:bK)) B.p1 ie rfl rfl λ_ B=>aE (x:=(⟨1,(bR rs x.eY),0,I,bO,0⟩:bK)) ie B.At (have B:=B.p1.freeze.cS (Ψ:=λw=>n4 w (⟨1,(bR rs x.eY),0,I,bO,0⟩:bK) (eE p rs x)) (λ_ h=>by rw[E];exact Hm h);⟨_,rfl,B.fresh⟩))
 refine aI (aC (λk2=>?_) λk2=>?_)
 .have E:eE p rs x=⟨2,bR rs x.eY,bR (bW p) x.name,[],[],0⟩:=qo G.k (by first|rw[ez cU]|(rw[ew cU];omega)) (V cU) (FT cU) (W cU) (J cU);exact pop (Ee _ _ _) (aH (x:=(⟨2,(bR rs x.eY),(bR (bW p) x.name),bO,bO,0⟩:bK)) B.p0 ie rfl rfl λ_ B=>aE (x:=(⟨2,(bR rs x.eY),(bR (bW p) x.name),bO,bO,0⟩:bK)) ie B.At (have B:=B.drop.fw (Φ:=λw=>n4 w (⟨2,(bR rs x.eY),(bR (bW p) x.name),bO,bO,0⟩:bK) (eE p rs x)) (λ_=>by rw[E];exact qp);⟨_,rfl,B.fresh⟩))
 refine aI (aC (λk3=>?_) λk3=>?_)
 .refine aA jK (aB (v:=jj M) l5 B.p1.hb rfl (cW Mm B (C302 mp pv rv l c ov bv rs (jj M) x.e _ (GI hb B.aG) (hr.ext B.aG) (dE.ext B.aG) cU cU) λxe w6 Z B=>?_));have E:eE p rs x=⟨3,0,bR (bW p) x.name,eL rs x.e,[],0⟩:=qo G.k (by first|rw[ez cU]|(rw[ew cU];omega)) (U cU) (FT cU) (rfl) (J cU);obtain⟨I,rfl⟩:=B.fK;exact pop (Ot _ _ _ _ _) (aH (x:=(⟨3,0,(bR (bW p) x.name),I,bO,0⟩:bK)) B.p1 ie rfl rfl λ_ B=>aE (x:=(⟨3,0,(bR (bW p) x.name),I,bO,0⟩:bK)) ie B.At (have B:=B.p1.freeze.cS (Ψ:=λw=>n4 w (⟨3,0,(bR (bW p) x.name),I,bO,0⟩:bK) (eE p rs x)) (λ_ h=>by rw[E];exact Hm h);⟨_,rfl,B.fresh⟩))
 refine aI (aC (λk4=>?_) λk4=>?_)
 .have B:=B.drew;refine aA jK (aB (v:=jj M) l5 B.p1.hb rfl (aA rA (aB (v:=jj gf) l5 B.p1.hb rfl (cW Mm B (C302 mp pv rv l c ov bv rs (jj M) x.e _ (GI hb B.aG) (hr.ext B.aG) (dE.ext B.aG) cU cU) λxe w6 Z B=>?_))));refine⟨aF l5 (B.p2.hb.cell rfl),?_⟩;refine cW Mm B (C302 mp pv rv l c ov bv rs (jj gf) x.f _ (GI hb B.aG) (hr.ext B.aG) (dF.ext B.aG) cU cU) (λxf w7 Z B=>?_);have E:eE p rs x=⟨4,bR rs x.eY,bR (bW p) x.name,eL rs x.e,eL rs x.f,0⟩:=qo G.k (by first|rw[ez cU]|(rw[ew cU];omega)) (V cU) (FT cU) (rfl) (rfl)
  obtain⟨Y,rfl⟩:=B.fK;obtain⟨I,rfl⟩:=B.p1.fK;exact pop (FA _ _ _ _ _ _ _ _ _) (aH (x:=(⟨4,(bR rs x.eY),(bR (bW p) x.name),I,Y,0⟩:bK)) B.p2 ie rfl rfl λ_ B=>aE (x:=(⟨4,(bR rs x.eY),(bR (bW p) x.name),I,Y,0⟩:bK)) ie B.At (have B:=B.p1.freeze.p2.freeze.p1.fu.cS (Ψ:=λw=>n4 w (⟨4,(bR rs x.eY),(bR (bW p) x.name),I,Y,0⟩:bK) (eE p rs x)) (λ_ h=>by rw[E];exact afp h.2 h.1);⟨_,rfl,B.fresh⟩))
 refine aI (aC (λk5=>?_) λk5=>?_)
 .refine aD (aA zz (oO (x:=pv) gO (GI hb B.aG) rfl (aY acC B (C53 p pv (bR (bW p) x.name) _ (B4 hp B.aG) hz) λw6 he B=>?_)));have E:eE p rs x=⟨5,0,iS p (bR (bW p) x.name),[],[],0⟩:=qo G.k (by first|rw[ez cU]|(rw[ew cU];omega)) (U cU) (TT cU) (W cU) (J cU);exact pop (yo _ _) (aH (x:=(⟨5,0,(iS p (bR (bW p) x.name)),bO,bO,0⟩:bK)) B.p0 ie rfl rfl λ_ B=>aE (x:=(⟨5,0,(iS p (bR (bW p) x.name)),bO,bO,0⟩:bK)) ie B.At (have B:=B.drop.fw (Φ:=λw=>n4 w (⟨5,0,(iS p (bR (bW p) x.name)),bO,bO,0⟩:bK) (eE p rs x)) (λ_=>by rw[E];exact qp);⟨_,rfl,B.fresh⟩))
 refine aI (aC (λk6=>?_) λk6=>?_)
 .refine aD (aA zz (oO (x:=pv) gO (GI hb B.aG) rfl (aY acC B (C53 p pv (bR (bW p) x.name) _ (B4 hp B.aG) hz) λw6 he B=>?_)));have E:eE p rs x=⟨6,0,iS p (bR (bW p) x.name),[],[],0⟩:=qo G.k (by first|rw[ez cU]|(rw[ew cU];omega)) (U cU) (TT cU) (W cU) (J cU);exact pop (yo _ _) (aH (x:=(⟨6,0,(iS p (bR (bW p) x.name)),bO,bO,0⟩:bK)) B.p0 ie rfl rfl λ_ B=>aE (x:=(⟨6,0,(iS p (bR (bW p) x.name)),bO,bO,0⟩:bK)) ie B.At (have B:=B.drop.fw (Φ:=λw=>n4 w (⟨6,0,(iS p (bR (bW p) x.name)),bO,bO,0⟩:bK) (eE p rs x)) (λ_=>by rw[E];exact qp);⟨_,rfl,B.fresh⟩))
 refine aI (aC (λk7=>?_) λk7=>?_)
 .have E:eE p rs x=⟨7,0,0,[],[],0⟩:=qo G.k (by first|rw[ez cU]|(rw[ew cU];omega)) (U cU) (O cU) (W cU) (J cU);exact pop (Ed _) (aH (x:=(⟨7,0,0,bO,bO,0⟩:bK)) B.p0 ie rfl rfl λ_ B=>aE (x:=(⟨7,0,0,bO,bO,0⟩:bK)) ie B.At (have B:=B.drop.fw (Φ:=λw=>n4 w (⟨7,0,0,bO,bO,0⟩:bK) (eE p rs x)) (λ_=>by rw[E];exact qp);⟨_,rfl,B.fresh⟩))
 refine aI (aC (λk8=>?_) λk8=>?_)
 .have E:eE p rs x=⟨8,0,0,[],[],0⟩:=qo G.k (by first|rw[ez cU]|(rw[ew cU];omega)) (U cU) (O cU) (W cU) (J cU);exact pop (Ed _) (aH (x:=(⟨8,0,0,bO,bO,0⟩:bK)) B.p0 ie rfl rfl λ_ B=>aE (x:=(⟨8,0,0,bO,bO,0⟩:bK)) ie B.At (have B:=B.drop.fw (Φ:=λw=>n4 w (⟨8,0,0,bO,bO,0⟩:bK) (eE p rs x)) (λ_=>by rw[E];exact qp);⟨_,rfl,B.fresh⟩))
 refine aI (aC (λk9=>?_) λk9=>?_)
 .have B:=B.drew;refine aD (aA zz (oO (x:=pv) gO (GI hb B.aG) rfl (aA jJ (aB (v:=.string x.name) ke B.p1.hb rfl (cW anc B (C52 p pv _ (B4 hp B.aG) hz) λx88 w6 Z B=>?_)))));refine⟨aF ke (B.p2.hb.cell rfl),?_⟩;refine aY Bv B (C146 _ (cR p) x.name _ B.fc cU) (λw7 he B=>?_);have B:=B.drop;have E:eE p rs x=⟨9,0,bR (cR p) x.name,[],[],0⟩:=qo G.k (by first|rw[ez cU]|(rw[ew cU];omega)) (U cU) (OI cU) (W cU) (J cU);exact pop (yo _ _) (aH (x:=(⟨9,0,(bR (cR p) x.name),bO,bO,0⟩:bK)) B.p0 ie rfl rfl λ_ B=>aE (x:=(⟨9,0,(bR (cR p) x.name),bO,bO,0⟩:bK)) ie B.At (have B:=B.drop.fw (Φ:=λw=>n4 w (⟨9,0,(bR (cR p) x.name),bO,bO,0⟩:bK) (eE p rs x)) (λ_=>by rw[E];exact qp);⟨_,rfl,B.fresh⟩))
 refine aI (aC (λk10=>?_) λk10=>?_)
 .have B:=B.drew;refine aD (aA zz (oO (x:=pv) gO (GI hb B.aG) rfl (aA jJ (aB (v:=.string x.name) ke B.p1.hb rfl (cW anc B (C52 p pv _ (B4 hp B.aG) hz) λx88 w6 Z B=>?_)))));refine⟨aF ke (B.p2.hb.cell rfl),?_⟩;refine aY Bv B (C146 _ (cR p) x.name _ B.fc cU) (λw7 he B=>?_);have B:=B.drop;have E:eE p rs x=⟨10,0,bR (cR p) x.name,[],[],0⟩:=qo G.k (by first|rw[ez cU]|(rw[ew cU];omega)) (U cU) (OI cU) (W cU) (J cU);exact pop (yo _ _) (aH (x:=(⟨10,0,(bR (cR p) x.name),bO,bO,0⟩:bK)) B.p0 ie rfl rfl λ_ B=>aE (x:=(⟨10,0,(bR (cR p) x.name),bO,bO,0⟩:bK)) ie B.At (have B:=B.drop.fw (Φ:=λw=>n4 w (⟨10,0,(bR (cR p) x.name),bO,bO,0⟩:bK) (eE p rs x)) (λ_=>by rw[E];exact qp);⟨_,rfl,B.fresh⟩))
 have Ss:x.kind=14:=cU
 refine aA jK (aB (v:=jj M) l5 B.p1.hb rfl (cW Mm B (C302 mp pv rv l c ov bv rs (jj M) x.e _ (GI hb B.aG) (hr.ext B.aG) (dE.ext B.aG) cU cU) λxe w6 Z B=>?_));have E:eE p rs x=⟨15,0,0,eL rs x.e,[],0⟩:=qo G.k (by first|rw[ez cU]|(rw[ew cU];omega)) (U cU) (O cU) (rfl) (J cU);obtain⟨I,rfl⟩:=B.fK;exact pop (JW _ _ _ _) (aH (x:=(⟨15,0,0,I,bO,0⟩:bK)) B.p1 ie rfl rfl λ_ B=>aE (x:=(⟨15,0,0,I,bO,0⟩:bK)) ie B.At (have B:=B.p1.freeze.cS (Ψ:=λw=>n4 w (⟨15,0,0,I,bO,0⟩:bK) (eE p rs x)) (λ_ h=>by rw[E];exact Hm h);⟨_,rfl,B.fresh⟩))
def GJ(p:bQ)(rs:List ByteArray)(t:Bk)(st:xE):xE:={st with out:=st.out++dG p rs t st.out.length st.loops 0,mL:=st.mL++mK t st.out.length,counts:=uS t st.loops st.counts}
def uI(p:bQ)(rs:List ByteArray)(x:bD)(a b:Bk)(st:xE):xE:=
 {st with out:=st.out++Lp p rs x a b st.out.length st.loops 0,mL:=st.mL++(if x.kind=11 then mK a ((st.out.length:Int)+1)++mK b (jF x a st.out.length)else if x.kind=12 then []else if x.kind=13 then [(st.out.length:Int)]else []),counts:=if x.kind=11 then uS b st.loops (uS a st.loops st.counts)else if x.kind=12 then uS a (st.loops+1) (max st.counts (st.loops+1))else st.counts}
section
variable {p:bQ}{rs:List ByteArray}{x:bD}{a b r t:Bk}{st:xE}
theorem Ou{B E:xE}(h1:B.loops=E.loops)(h2:B.counts=E.counts)(h3:B.out=E.out)(h4:B.mL=E.mL):B=E:=by
 cases B;simp_all
theorem afq:GJ p rs .nil st=st:=Ou rfl rfl (rM _) (rM _)
theorem ZM:GJ p rs (.cons x a b r) st=GJ p rs r (uI p rs x a b st):=by
 have B:(((uI p rs x a b st).out.length:Nat):Int)=(st.out.length:Int)+((Lp p rs x a b st.out.length st.loops 0).length:Int):=by
  show(((st.out++Lp p rs x a b st.out.length st.loops 0).length:Nat):Int)=_
  rw[lJ,Int.natCast_add]
 refine Ou rfl rfl ?_ ?_
 .show st.out++dG p rs (.cons x a b r) st.out.length st.loops 0=(st.out++Lp p rs x a b st.out.length st.loops 0)++dG p rs r ((uI p rs x a b st).out.length:Int) st.loops 0
  rw[xO,B,o1]
 show st.mL++mK (.cons x a b r) st.out.length=(st.mL++_)++mK r ((uI p rs x a b st).out.length:Int)
 rw[B,G4 p rs x a b r,o1]
 rfl
theorem uJ:∀(t:Bk) (at_:Int),(mK t at_).length<=t.len
 | .nil,_=>qQ _
 | .cons x a b r,at_=>by
  have h1:=uJ a (at_+1)
  have h2:=uJ b (jF x a at_)
  have h3:=uJ r (at_+(aZ (.cons x a b r)-aZ r))
  unfold mK Bk.len
  grind
structure LwB(p:bQ)(rs:List ByteArray)(t:Bk)(st:xE):Prop where
 str:t.str
 al:∀x∈t.flat,LwS p rs x
 o:st.out.length+2*t.len<=2000
 l:0<=st.loops/\st.loops+t.len<=1000
 k:st.mL.length+t.len<=100000
theorem axp(x:bD)(a b:Bk)(n lp o:Int):(Lp p rs x a b n lp o).length<=2+2*a.len+2*b.len:=by
 have h1:=G4 p rs x a b .nil n lp o
 have h2:=xB (x:=x) (a:=a) (b:=b) (r:=.nil)
 have h3:aZ .nil=0:=rfl
 have h4:=(iK a)
 have h5:=(iK b)
 omega
theorem LwB.parts(h:LwB p rs (.cons x a b r) st):LwS p rs x/\x.body=a.len/\x.eR=b.len/\a.len<=40/\b.len<=40/\(∀B:xE,B.out.length<=st.out.length+1->0<=B.loops/\B.loops<=st.loops+1->B.mL.length<=st.mL.length->LwB p rs a B)/\(∀B:xE,B.out.length<=st.out.length+2+2*a.len->0<=B.loops/\B.loops<=st.loops+1->B.mL.length<=st.mL.length+a.len->LwB p rs b B)/\LwB p rs r (uI p rs x a b st):=by
 obtain⟨Z,J,V,I,Y,M,G⟩:=h.str
 have U:=h.o
 have W:=h.l
 have O:=h.k
 have hlen:(Bk.cons x a b r).len=a.len+b.len+r.len+1:=rfl
 rw[hlen]at U W O
 refine⟨h.al x (by unfold Bk.flat;simp),Z,J,V,I,λB o l k=>⟨Y,λy E=>h.al y (by unfold Bk.flat;simp[E]),cU,cU,cU⟩,λB o l k=>⟨M,λy E=>h.al y (by unfold Bk.flat;simp[E]),cU,cU,cU⟩,G,λy E=>h.al y (by unfold Bk.flat;simp[E]),?_,?_,?_⟩
 .show(st.out++Lp p rs x a b st.out.length st.loops 0).length+2*r.len<=2000
  have:=axp (p:=p) (rs:=rs) x a b st.out.length st.loops 0
  grind
 .show 0<=st.loops/\st.loops+r.len<=1000;omega
 show(st.mL++_).length+r.len<=100000
 have h1:=uJ a ((st.out.length:Int)+1)
 have h2:=uJ b (jF x a st.out.length)
 grind
theorem Mn{l:List aU}{ks:List Int}{o:Int}:(sN l ks o).length=l.length:=by
 unfold sN
 induction ks generalizing l with
 | nil=>rfl
 | cons k ks B=>rw[List.foldl_cons,B,Fy]
theorem Hn:∀(t:Bk) (at_:Int),0<=at_->∀k∈mK t at_,at_<=k/\k<at_+aZ t
 | .nil,_,_,_,h=>by cases h
 | .cons x a b r,at_,E,k,h=>by
  have B:=xB (x:=x) (a:=a) (b:=b) (r:=r)
  have G:=(iK a).1
  have I:=(iK b).1
  have J:=(iK r).1
  unfold mK at h
  rcases qC.1 h with h|h
  .split at h
   .rename_i h1
    rw[ew cU,ez h1]at B
    rcases qC.1 h with h|h
    .have:=Hn a (at_+1) cU k h
     omega
    .have ht:at_+1+aZ a<=jF x a at_/\jF x a at_+aZ b+aZ r<=at_+aZ (.cons x a b r):=by
      grind[aZ,jF]
     have:=Hn b (jF x a at_) cU k h
     omega
   grind
  .have M:0<=aZ (.cons x a b r)-aZ r:=by
    omega
   have:=Hn r _ cU k h
   omega
def sD(p:bQ)(rs:List ByteArray)(x:bD)(a:Bk)(st:xE):xE:=GJ p rs a {st with out:=st.out++[⟨12,0,0,eL rs x.e,[],0⟩]}
def xF(x:bD)(s:xE):xE:=if 0<x.eR then {s with out:=s.out++[⟨11,0,0,[],[],0⟩]}else s
def JY(k:Int)(s:xE):xE:={s with out:=qE s.out k s.out.length}
def OL(p:bQ)(rs:List ByteArray)(x:bD)(a b:Bk)(st:xE):xE:=GJ p rs b (JY st.out.length (xF x (sD p rs x a st)))
def brE(p:bQ)(rs:List ByteArray)(x:bD)(a b:Bk)(st:xE):xE:=if 0<x.eR then JY (sD p rs x a st).out.length (OL p rs x a b st)else OL p rs x a b st
theorem Ov:((sD p rs x a st).out.length:Int)=st.out.length+1+aZ a:=by
 show(((st.out++[(⟨12,0,0,eL rs x.e,[],0⟩:aU)]++dG p rs a _ st.loops 0).length:Nat):Int)=_
 have:=fL p rs a ((st.out.length+1:Nat):Int) st.loops 0
 grind
theorem Ow:((xF x (sD p rs x a st)).out.length:Int)=jF x a st.out.length:=by
 have:=Ov (p:=p) (rs:=rs) (x:=x) (a:=a) (st:=st)
 unfold xF jF
 grind
theorem ajm:(xF x (sD p rs x a st)).out=st.out++⟨12,0,0,eL rs x.e,[],0⟩::(dG p rs a ((st.out.length:Int)+1) st.loops 0++if 0<x.eR then [⟨11,0,0,[],[],0⟩]else []):=by
 have e:(sD p rs x a st).out=st.out++⟨12,0,0,eL rs x.e,[],0⟩::dG p rs a ((st.out.length:Int)+1) st.loops 0:=by
  show st.out++[⟨12,0,0,eL rs x.e,[],0⟩]++dG p rs a (((st.out++[(⟨12,0,0,eL rs x.e,[],0⟩:aU)]).length:Nat):Int) st.loops 0=_
  grind
 unfold xF
 grind
theorem XS:(OL p rs x a b st).out=(st.out++⟨12,0,0,eL rs x.e,[],jF x a st.out.length⟩::dG p rs a ((st.out.length:Int)+1) st.loops 0)++(if 0<x.eR then [⟨11,0,0,[],[],0⟩]else [])++dG p rs b (jF x a st.out.length) st.loops 0:=by
 have E:=Ow (p:=p) (rs:=rs) (x:=x) (a:=a) (st:=st)
 have B:=ajm (p:=p) (rs:=rs) (x:=x) (a:=a) (st:=st)
 have e1:(JY st.out.length (xF x (sD p rs x a st))).out=st.out++⟨12,0,0,eL rs x.e,[],jF x a st.out.length⟩::(dG p rs a ((st.out.length:Int)+1) st.loops 0++if 0<x.eR then [⟨11,0,0,[],[],0⟩]else []):=by
  show qE (xF x (sD p rs x a st)).out _ ((xF x (sD p rs x a st)).out.length:Int)=_
  rw[E,B,Fz]
 have I:(((JY st.out.length (xF x (sD p rs x a st))).out.length:Nat):Int)=jF x a st.out.length:=by
  grind
 have G:(JY st.out.length (xF x (sD p rs x a st))).loops=st.loops:=by
  show(xF x (sD p rs x a st)).loops=_
  unfold xF;split<;>rfl
 show(JY st.out.length (xF x (sD p rs x a st))).out++dG p rs b _ _ 0=_
 grind
theorem apG(h1:x.kind=11):brE p rs x a b st=uI p rs x a b st:=by
 have G:=XS (p:=p) (rs:=rs) (x:=x) (a:=a) (b:=b) (st:=st)
 have U:=fL p rs a ((st.out.length:Int)+1) st.loops 0
 have lA:=Ov (p:=p) (rs:=rs) (x:=x) (a:=a) (st:=st)
 have lb:=fL p rs b (jF x a st.out.length) st.loops 0
 have J:=Ow (p:=p) (rs:=rs) (x:=x) (a:=a) (st:=st)
 have E:(xF x (sD p rs x a st)).loops=st.loops/\(xF x (sD p rs x a st)).counts=uS a st.loops st.counts/\(xF x (sD p rs x a st)).mL=st.mL++mK a ((st.out.length:Int)+1):=by
  have e:(sD p rs x a st).mL=st.mL++mK a ((st.out.length:Int)+1):=by
   show st.mL++mK a (((st.out++[(⟨12,0,0,eL rs x.e,[],0⟩:aU)]).length:Nat):Int)=_
   rw[lJ,mv];rfl
  unfold xF;split<;>exact⟨rfl,rfl,e⟩
 have e0:(brE p rs x a b st).loops=st.loops/\(brE p rs x a b st).counts=uS b st.loops (uS a st.loops st.counts)/\(brE p rs x a b st).mL=st.mL++(mK a ((st.out.length:Int)+1)++mK b (jF x a st.out.length)):=by
  have f1:(OL p rs x a b st).loops=st.loops:=E.1
  have O:(OL p rs x a b st).counts=uS b st.loops (uS a st.loops st.counts):=by
   show uS b (xF x (sD p rs x a st)).loops (xF x (sD p rs x a st)).counts=_
   rw[E.1,E.2.1]
  have M:(OL p rs x a b st).mL=st.mL++(mK a ((st.out.length:Int)+1)++mK b (jF x a st.out.length)):=by
   show(xF x (sD p rs x a st)).mL++mK b (((JY st.out.length (xF x (sD p rs x a st))).out.length:Nat):Int)=_
   have I:(((JY st.out.length (xF x (sD p rs x a st))).out.length:Nat):Int)=jF x a st.out.length:=by
    show(((qE (xF x (sD p rs x a st)).out _ _).length:Nat):Int)=_
    rw[Fy];exact J
   rw[I,E.2.2,o1]
  unfold brE;split<;>exact⟨f1,O,M⟩
 refine Ou e0.1 ?_ ?_ ?_
 .rw[e0.2.1];unfold uI;simp only[ez h1]
 .unfold uI Lp
  simp only[ez h1]
  unfold brE
  by_cases B:0<x.eR
  .rw[ez B,ez B]
   show qE (OL p rs x a b st).out _ ((OL p rs x a b st).out.length:Int)=_
   have hlen:((OL p rs x a b st).out.length:Int)=jF x a st.out.length+aZ b:=by
    rw[G,ez B]
    simp only[lJ,qb,x7]
    unfold jF at lb |-
    rw[ez B]at lb |-
    omega
   rw[hlen,G,ez B]
   have I:((sD p rs x a st).out.length:Int)=(((st.out++(⟨12,0,0,eL rs x.e,[],jF x a st.out.length⟩:aU)::dG p rs a ((st.out.length:Int)+1) st.loops 0).length:Nat):Int):=by
    rw[lJ,qb];omega
   rw[I]
   have:=Fz (pre:=st.out++(⟨12,0,0,eL rs x.e,[],jF x a st.out.length⟩:aU)::dG p rs a ((st.out.length:Int)+1) st.loops 0) (y:=(⟨11,0,0,[],[],0⟩:aU)) (post:=dG p rs b (jF x a st.out.length) st.loops 0) (o:=jF x a st.out.length+aZ b)
   simp only[o1,U2,wc]at this |-
   exact this
  rw[ew B,ew B,G,ew B]
  simp only[o1,U2,wc,rM]
 rw[e0.2.2];unfold uI;simp only[ez h1]
def lpA(x:bD)(st:xE):xE:={loops:=st.loops+1,counts:=max st.counts (st.loops+1),out:=st.out++[⟨13,st.loops,x.n,[],[],0⟩],mL:=[]}
def Ej(p:bQ)(rs:List ByteArray)(x:bD)(a:Bk)(st:xE):xE:=GJ p rs a (lpA x st)
def Ox(p:bQ)(rs:List ByteArray)(x:bD)(a:Bk)(st:xE):List aU:=(Ej p rs x a st).out++[⟨14,st.loops,0,[],[],(st.out.length:Int)+1⟩]
def lpE(p:bQ)(rs:List ByteArray)(x:bD)(a:Bk)(st:xE):xE:={loops:=st.loops+1-1,counts:=(Ej p rs x a st).counts,out:=sN (Ox p rs x a st) (Ej p rs x a st).mL (Ox p rs x a st).length,mL:=st.mL}
theorem Oy:(((lpA x st).out.length:Nat):Int)=st.out.length+1:=by
 show(((st.out++[_]).length:Nat):Int)=_
 rw[lJ,mv];omega
theorem XT:((Ox p rs x a st).length:Int)=st.out.length+2+aZ a:=by
 unfold Ox Ej GJ
 have:=fL p rs a ((lpA x st).out.length:Nat) (lpA x st).loops 0
 have:=Oy (x:=x) (st:=st)
 grind
theorem apH(h1:x.kind=12):lpE p rs x a st=uI p rs x a b st:=by
 have B:=Oy (x:=x) (st:=st)
 have E:=XT (p:=p) (rs:=rs) (x:=x) (a:=a) (st:=st)
 have G:(Ej p rs x a st).mL=mK a ((st.out.length:Int)+1):=by
  show []++mK a (((lpA x st).out.length:Nat):Int)=_
  rw[B];rfl
 refine Ou (by show st.loops+1-1=st.loops;omega) ?_ ?_ ?_
 .unfold uI
  simp only[ew (show ¬ x.kind=11 by omega),ez h1]
  rfl
 .unfold uI Lp
  simp only[ew (show ¬ x.kind=11 by omega),ez h1]
  show sN (Ox p rs x a st) (Ej p rs x a st).mL ((Ox p rs x a st).length:Int)=_
  rw[G,E]
  have:=A3 p rs (st.out.length+2+aZ a) a ((st.out.length:Int)+1) (st.loops+1) (st.out++[⟨13,st.loops,x.n,[],[],0⟩]) [⟨14,st.loops,0,[],[],(st.out.length:Int)+1⟩] (by rw[lJ,mv];omega)
  unfold Ox Ej GJ
  rw[B]
  show sN (st.out++[⟨13,st.loops,x.n,[],[],0⟩]++dG p rs a ((st.out.length:Int)+1) (st.loops+1) 0++[_]) _ _=_
  rw[this]
  simp only[o1,U2,wc]
 unfold uI
 simp only[ew (show ¬ x.kind=11 by omega),ez h1]
 exact(rM _).symm
end
def afr(p:bQ)(pv:bT)(rs:List ByteArray)(rv:SV)(w0:World)(n:Nat):Prop:=∀(t:Bk) (lv:Value) (mp:Nat) (st:xE) (Q:iD) (F:Nat->Prop) (w:World),t.len<n->LwB p rs t st->(nP mp pv rv st Q).p w F->(∀w',gZ F w w'->Ext w0 w')->DL w0 lv t.flat->
 Calls hZ 120 [(.pointer (some ⟨mp,0,none⟩)),lv].toArray w (rZ λv w'=>v=.tuple #[]/\ng F (nP mp pv rv (GJ p rs t st) Q) w w')
theorem alV{α:Type}{l a b r:List α}{x:α}{j:Nat}(h:l.drop j=x::(a++(b++r))):(l.take (j+1+a.length)).drop (j+1)=a:=by
 have h1:l.drop (j+1)=a++(b++r):=by rw[<- uL,h];rfl
 rw[WJ,h1,show j+1+a.length-(j+1)=a.length from cU,VZ];rfl
theorem axq{α:Type}{l a b r:List α}{x:α}{j:Nat}(h:l.drop j=x::(a++(b++r))):(l.take (j+1+a.length+b.length)).drop (j+1+a.length)=b:=by
 have h1:l.drop (j+1+a.length)=b++r:=by
  rw[show j+1+a.length=j+(1+a.length)from cU,<- uL,h,aab 1,RG,abR];rfl
 rw[WJ,h1,show j+1+a.length+b.length-(j+1+a.length)=b.length from cU,VZ];rfl
def axr{α:Type}{l a b r:List α}{x:α}{j:Nat}(h:l.drop j=x::(a++(b++r))):l.drop (j+1+a.length+b.length)=r:=by
 rw[show j+1+a.length+b.length=j+(1+a.length+b.length)from cU,<- uL,h,show 1+a.length+b.length=(a.length+b.length)+1 from cU,RG,<- o1,abR]
 grind
def C223{p:bQ}{pv:bT}{rs:List ByteArray}{rv:SV}{w0:World}(n:Nat)(HA:afr p pv rs rv w0 n)(mp:Nat)(st:xE)(Q:iD)(x:bD)(xv:bF)(a b r:Bk)(la lb:Value)(F:Nat->Prop)(w:World)(hF:(nP mp pv rv st Q).p w F)(hK:∀w',gZ F w w'->Ext w0 w')(hp:n4 w0 pv p)(hr:dP (λ_=>True) w0 (jj rv) rs)(hz:PZ p)(Ln:rs.length<=500)(hx:n4 w0 xv x)(hl:LwB p rs (.cons x a b r) st)(Hy:x.kind=11)(hna:a.len<n)(hnb:b.len<n)(hA:DL w0 la a.flat)(hB:DL w0 lb b.flat):CR 223 [(.pointer (some ⟨mp,0,none⟩)),jj xv,la,lb] w (λv w'=>v=.tuple #[]/\ng F (nP mp pv rv (uI p rs x a b st) Q) w w'):=by
 obtain⟨hS,hbd,Lb,axs,ah7,QQ,Su,_⟩:=hl.parts;have ho:=hl.o;have J9:=hl.l;have oH:=hl.k;have hlen:(Bk.cons x a b r).len=a.len+b.len+r.len+1:=rfl;obtain⟨ge,gf,rfl,dE,dF⟩:=lB hx;obtain⟨jn,hBR,hBD⟩:=hB.open;have xD:jn.length=b.len:=by rw[hBD.1,Bk.dL]
 have hE:=hS.e;have hlA:=Ov (p:=p) (rs:=rs) (x:=x) (a:=a) (st:=st);have hlJ:=Ow (p:=p) (rs:=rs) (x:=x) (a:=a) (st:=st);have hza:=iK a;have hzb:=iK b;have hto:st.out.length+1+aZ a<=jF x a st.out.length/\jF x a st.out.length<=st.out.length+2+aZ a:=by unfold jF;omega
 have B:=St.begin hF;refine ajj _ _ _ _ _ _ ?_;unfold S223;refine cP (x:=(⟨x.kind,x.eY,x.name,ge,gf,x.n,x.body,x.eR,x.at_⟩:bF)) B (λb5 _ B=>aA jK (aB (v:=jj ge) l5 B.hb rfl ?_));obtain⟨Ze,bv1,U9,G7⟩:=nP.open B.p1;have e1:=hK _ B.aG;refine cW Mm B (C302 mp pv rv _ _ Ze bv1 rs (jj ge) x.e _ G7.hb (hr.ext e1) (dE.ext e1) cU cU) (λx14 _ cA B=>?_);obtain⟨s14,rfl⟩:=B.fK;refine pop (JW _ _ _ _) (have B:=B.freeze.cS (Ψ:=λw=>n4 w (⟨12,0,0,s14,bO,0⟩:bK) (⟨12,0,0,eL rs x.e,[],0⟩:aU)) (λ_ h=>Hm h);have B:=B.p2.p1.p1.join;aT Ml B (H':=λ_=>nP mp pv rv {st with out:=st.out++[⟨12,0,0,eL rs x.e,[],0⟩]} Q) (Φ:=λv _=>v=iE ((st.out.length:Nat):Int)) (λU M _=>C225 mp pv rv st Q ⟨12,0,0,eL rs x.e,[],0⟩ (⟨12,0,0,s14,bO,0⟩:bK) U _ M cU) ?_)
 rintro _ _ rfl B;refine aT XR B (H':=λ_=>nP mp pv rv (sD p rs x a st) Q) (Φ:=λv _=>v=.tuple #[]) (λU M dQ=>HA a la mp {st with out:=st.out++[⟨12,0,0,eL rs x.e,[],0⟩]} Q U _ cU (QQ _ (by show(st.out++[_]).length<=_;rw[lJ];exact qQ _) ⟨J9.1,by show st.loops<=st.loops+1;omega⟩ (qQ _)) M (λw' hc=>hK _ (dQ w' hc).aG) hA) ?_;rintro _ _ rfl B;refine⟨λjv w'=>jv=iE (if 0<x.eR then(((sD p rs x a st).out.length:Nat):Int)else -1)/\St w F [nP mp pv rv (xF x (sD p rs x a st)) Q,bU b5 (jl (⟨x.kind,x.eY,x.name,ge,gf,x.n,x.body,x.eR,x.at_⟩:bF))] w',?_,?_⟩
 .refine aK gX (hBR.ext (hK _ B.aG)) (eh (aC (λc=>?_) λc=>?_))
  .refine pop (Ed _) (have B:=B.fw (Φ:=λw=>n4 w (⟨11,0,0,bO,bO,0⟩:bK) (⟨11,0,0,[],[],0⟩:aU)) (λ_=>qp);have B:=B.p1.join;aT Ml B (H':=λ_=>nP mp pv rv {sD p rs x a st with out:=(sD p rs x a st).out++[⟨11,0,0,[],[],0⟩]} Q) (Φ:=λv _=>v=iE (((sD p rs x a st).out.length:Nat):Int)) (λU M _=>C225 mp pv rv (sD p rs x a st) Q ⟨11,0,0,[],[],0⟩ (⟨11,0,0,bO,bO,0⟩:bK) U _ M cU) ?_);rintro _ _ rfl B;have G:0<x.eR:=cU
   refine⟨by rw[ez G],?_⟩;unfold xF;rw[ez G];exact B
  have G:¬ 0<x.eR:=cU
  refine⟨by rw[ew G],?_⟩;unfold xF;rw[ew G];exact B
 rintro _ _ ⟨rfl,B⟩ _;obtain⟨ovw7,bvw7,msw7,B⟩:=nP.open B;refine aD (aA oA (have B:=B.drew;aB pD B.hb rfl (aD (aA oA (aB pD B.hb rfl ?_)))));obtain⟨Y,B⟩:=B.p1.wI;have J:=B.MX;refine aK pE B.fc ?_;obtain⟨yw7,aEh⟩:∃y,(xF x (sD p rs x a st)).out[(((st.out.length:Nat):Int):Int).toNat]?=some y:=⟨_,l0 (by rw[s6];omega)⟩;obtain⟨I,Z⟩:∃tv,Y[(((st.out.length:Nat):Int):Int).toNat]?=some tv:=⟨_,l0 (by rw[J];rw[s6];omega)⟩;refine dN B pE cU (by rw[J];omega) (λppw7 aEi=>mD jH aEi λqw7 aEj=>?_)
 rw[J];refine wG (x:=I) (⟨I.kind,I.a,I.b,I.e,I.f,(((xF x (sD p rs x a st)).out.length:Nat):Int)⟩:bK) (((xF x (sD p rs x a st)).out.length:Nat):Int) B bL aEj Z er rfl (λ_ B=>?_);have B:=B.p1.cS (Ψ:=jx (Y.set (((st.out.length:Nat):Int):Int).toNat (⟨I.kind,I.a,I.b,I.e,I.f,(((xF x (sD p rs x a st)).out.length:Nat):Int)⟩:bK)) (qE (xF x (sD p rs x a st)).out ((st.out.length:Nat):Int) ((xF x (sD p rs x a st)).out.length:Nat))) (λ_ h=>JX h Z aEh);have B:=nP.shut (st:=JY ((st.out.length:Nat):Int) (xF x (sD p rs x a st))) B.p1.zE.p1
 have hlS:(JY ((st.out.length:Nat):Int) (xF x (sD p rs x a st))).out.length=(xF x (sD p rs x a st)).out.length:=Fy
 have SN:(xF x (sD p rs x a st)).loops=st.loops/\(xF x (sD p rs x a st)).mL.length<=st.mL.length+a.len:=by
  have h2:=uJ a ((({st with out:=st.out++[⟨12,0,0,eL rs x.e,[],0⟩]}:xE).out.length:Nat):Int)
  have h3:(sD p rs x a st).mL.length<=st.mL.length+a.len:=by
   show(st.mL++_).length<=_;rw[lJ];exact Nat.add_le_add_left h2 _
  unfold xF;split<;>exact⟨rfl,h3⟩
 refine aT XR B (H':=λ_=>nP mp pv rv (OL p rs x a b st) Q) (Φ:=λv _=>v=.tuple #[]) (λU M dQ=>HA b lb mp _ Q U _ cU (Su _ cU ⟨by show 0<=(xF x (sD p rs x a st)).loops;omega,by show(xF x (sD p rs x a st)).loops<=_;omega⟩ SN.2) M (λw' hc=>hK _ (dQ w' hc).aG) hB) ?_;rintro _ _ rfl B;rw[<- apG Hy]
 by_cases G:0<x.eR
 .rw[ez G];refine dC (aC (λc=>?_) λc=>absurd c cU)
  have hlB:(sD p rs x a st).out.length<(OL p rs x a b st).out.length:=by
   have hBo:=XS (p:=p) (rs:=rs) (x:=x) (a:=a) (b:=b) (st:=st);have hm:=fL p rs a ((st.out.length:Int)+1) st.loops 0;rw[hBo,ez G];simp only[lJ,qb,x7];omega
  obtain⟨ovw9,bvw9,msw9,B⟩:=nP.open B;refine aD (aA oA (have B:=B.drew;aB pD B.hb rfl (aD (aA oA (aB pD B.hb rfl ?_)))));obtain⟨V,B⟩:=B.p1.wI;have O:=B.MX;refine aK pE B.fc ?_;obtain⟨yw9,aEk⟩:∃y,(OL p rs x a b st).out[((((sD p rs x a st).out.length:Nat):Int):Int).toNat]?=some y:=⟨_,l0 (by rw[s6];omega)⟩;obtain⟨E,W⟩:∃tv,V[((((sD p rs x a st).out.length:Nat):Int):Int).toNat]?=some tv:=⟨_,l0 (by rw[O];rw[s6];omega)⟩;refine dN B pE cU (by rw[O];omega) (λppw9 aEl=>mD jH aEl λqw9 aEm=>?_)
  rw[O];refine wG (x:=E) (⟨E.kind,E.a,E.b,E.e,E.f,(((OL p rs x a b st).out.length:Nat):Int)⟩:bK) (((OL p rs x a b st).out.length:Nat):Int) B bL aEm W er rfl (λ_ B=>?_);have B:=B.p1.cS (Ψ:=jx (V.set ((((sD p rs x a st).out.length:Nat):Int):Int).toNat (⟨E.kind,E.a,E.b,E.e,E.f,(((OL p rs x a b st).out.length:Nat):Int)⟩:bK)) (qE (OL p rs x a b st).out (((sD p rs x a st).out.length:Nat):Int) ((OL p rs x a b st).out.length:Nat))) (λ_ h=>JX h W aEk);have B:=nP.shut (st:=JY (((sD p rs x a st).out.length:Nat):Int) (OL p rs x a b st)) B.p1.zE.p1
  unfold brE;rw[ez G];exact⟨rfl,B.mut⟩
 rw[ew G];refine dC (aC (λc=>absurd c cU) λc=>?_);unfold brE;rw[ew G];exact⟨rfl,B.mut⟩
def C224{p:bQ}{pv:bT}{rs:List ByteArray}{rv:SV}{w0:World}(n:Nat)(HA:afr p pv rs rv w0 n)(mp:Nat)(st:xE)(Q:iD)(x:bD)(xv:bF)(a b r:Bk)(la:Value)(F:Nat->Prop)(w:World)(hF:(nP mp pv rv st Q).p w F)(hK:∀w',gZ F w w'->Ext w0 w')(hp:n4 w0 pv p)(hr:dP (λ_=>True) w0 (jj rv) rs)(hz:PZ p)(Ln:rs.length<=500)(hx:n4 w0 xv x)(hl:LwB p rs (.cons x a b r) st)(Sb:x.kind=12)(hna:a.len<n)(hA:DL w0 la a.flat):CR 224 [(.pointer (some ⟨mp,0,none⟩)),jj xv,la] w (λv w'=>v=.tuple #[]/\ng F (nP mp pv rv (uI p rs x a b st) Q) w w'):=by
 obtain⟨hS,hbd,Lb,axs,ah7,QQ,Su,_⟩:=hl.parts;have ho:=hl.o;have J9:=hl.l;have oH:=hl.k;have hlen:(Bk.cons x a b r).len=a.len+b.len+r.len+1:=rfl;obtain⟨ge,gf,rfl,dE,dF⟩:=lB hx;have hza:=iK a;have hn8:=hS.n Sb;have hlA:=Oy (x:=x) (st:=st);have hlO:=XT (p:=p) (rs:=rs) (x:=x) (a:=a) (st:=st);have B:=St.begin hF;refine ajk _ _ _ _ _ ?_;unfold S224;refine cP (x:=(⟨x.kind,x.eY,x.name,ge,gf,x.n,x.body,x.eR,x.at_⟩:bF)) B (λb4 _ B=>?_);obtain⟨Ze,Y,E,B⟩:=nP.open B.p1;refine aD (aA wD (aB HN B.hb rfl (aD (aA wD (aO B HN (ei rfl) rfl λ_ B=>aD (aA wC (aB (v:=iE st.loops) bL B.hb rfl (aA pP (aB (v:=iE x.n) bL B.p4.hb rfl (pop (Ee _ _ _) (have B:=B.p3.cS (Ψ:=λw=>j6 mp [] [] w/\(j6 mp E st.mL w/\Q w)) (λ_ g=>⟨j6.nil,g⟩);have B:=nP.shut (st:={st with mL:=[]}) (ov:=Ze) (bv:=.slice none 0 0) (ms:=[]) (Q:=(λw=>j6 mp E st.mL w/\Q w)) (B.eU (α:=uH)).p1.p1.p3.p3;have B:=B.fw (Φ:=λw=>n4 w (⟨13,st.loops,x.n,bO,bO,0⟩:bK) (⟨13,st.loops,x.n,[],[],0⟩:aU)) (λ_=>qp);have B:=B.p1.join;aT Ml B (H':=λ_=>nP mp pv rv {st with out:=st.out++[⟨13,st.loops,x.n,[],[],0⟩],mL:=[]} λw=>j6 mp E st.mL w/\Q w) (Φ:=λv _=>v=iE ((st.out.length:Nat):Int)) (λU O _=>C225 mp pv rv {st with mL:=[]} (λw=>j6 mp E st.mL w/\Q w) ⟨13,st.loops,x.n,[],[],0⟩ (⟨13,st.loops,x.n,bO,bO,0⟩:bK) U _ O (by show st.out.length<=100000;omega)) ?_)))))))))))
 rintro _ _ rfl B;obtain⟨ov2,bv2,ms2,B⟩:=nP.open B;refine aD (aA wC (aB (v:=iE st.loops) bL B.hb rfl (aR cU (aD (aA wC (aO B bL (ei rfl) rfl λ_ B=>aD (aA HO (have B:=B.drew;aB bL B.hb rfl (aD (aA wC (aB (v:=iE (st.loops+1)) bL B.hb rfl ?_)))))))))));refine CT (aD (aA HO (aO B bL (ei rfl) rfl λ_ B=>have B:=nP.shut (st:=lpA x st) (ov:=ov2) (bv:=bv2) (ms:=ms2) (Q:=(λw=>j6 mp E st.mL w/\Q w)) B;aT XR B (H':=λ_=>nP mp pv rv (Ej p rs x a st) λw=>j6 mp E st.mL w/\Q w) (Φ:=λv _=>v=.tuple #[]) (λU O dQ=>HA a la mp (lpA x st) (λw=>j6 mp E st.mL w/\Q w) U _ hna (QQ _ cU ⟨by show 0<=st.loops+1;omega,u4 _⟩ (ob _)) O (λw' hc=>hK _ (dQ w' hc).aG) hA) ?_)))
 rintro _ _ rfl B;obtain⟨ov3,bv3,ms3,B⟩:=nP.open B;refine aD (aA wC (aB (v:=iE (st.loops+1)) bL B.hb rfl (fO cU (aD (aA wC (aO B bL (ei rfl) rfl λ_ B=>aR cU (pop (Oq _ _ _) ?_)))))));have B:=nP.shut (st:={Ej p rs x a st with loops:=st.loops+1-1}) (ov:=ov3) (bv:=bv3) (ms:=ms3) (Q:=(λw=>j6 mp E st.mL w/\Q w)) B;have B:=B.fw (Φ:=λw=>n4 w (⟨14,st.loops,0,bO,bO,(st.out.length:Int)+1⟩:bK) (⟨14,st.loops,0,[],[],(st.out.length:Int)+1⟩:aU)) (λ_=>qp);have B:=B.p1.join
 refine aT Ml B (H':=λ_=>nP mp pv rv {Ej p rs x a st with loops:=st.loops+1-1,out:=Ox p rs x a st} λw=>j6 mp E st.mL w/\Q w) (Φ:=λv _=>v=iE (((Ej p rs x a st).out.length:Nat):Int)) (λU O _=>C225 mp pv rv {Ej p rs x a st with loops:=st.loops+1-1} (λw=>j6 mp E st.mL w/\Q w) ⟨14,st.loops,0,[],[],(st.out.length:Int)+1⟩ (⟨14,st.loops,0,bO,bO,(st.out.length:Int)+1⟩:bK) U _ O (by
  show(Ej p rs x a st).out.length<=100000;have:(Ox p rs x a st).length=(Ej p rs x a st).out.length+1:=lJ;omega)) ?_
 rintro _ _ rfl B;obtain⟨G,I,J,B⟩:=nP.open B;have hm4:J.length=(Ej p rs x a st).mL.length:=B.p3.ep.1.1;have hbr:=uJ a (((lpA x st).out.length:Nat):Int);have SA:(Ej p rs x a st).mL=mK a (((lpA x st).out.length:Nat):Int):=rfl;have xD:(Ej p rs x a st).mL.length<=a.len:=by rw[SA];exact hbr
 refine aD (aA wD (aB HN B.hb rfl (aK VP B.p2.fc ?_)));refine⟨λmm y w'=>∃k:Nat,y=iE (k:Int)/\mm=(Ej p rs x a st).mL.length-k/\k<=(Ej p rs x a st).mL.length/\St w F [bU mp (mkc pv rv (st.loops+1-1) (Ej p rs x a st).counts G I),fe G (sN (Ox p rs x a st) ((Ej p rs x a st).mL.take k) (Ox p rs x a st).length),bG I J,ep (λw=>j6 mp J (Ej p rs x a st).mL w/\(λw=>j6 mp E st.mL w/\Q w) w),bG Y E,bU b4 (jl (⟨x.kind,x.eY,x.name,ge,gf,x.n,x.body,x.eR,x.at_⟩:bF))] w',⟨_,0,rfl,rfl,ob _,B⟩,?_⟩;rintro mm _ _ ⟨k,rfl,rfl,hkn,B⟩ _;refine aV (aC (λc=>?_) λc=>?_)
 .obtain⟨W,V⟩:=gx J (i:=((k:Nat):Int).toNat) cU;obtain⟨kk,M⟩:=gx ((Ej p rs x a st).mL) (i:=k) cU;have hkb:=Hn a (((lpA x st).out.length:Nat):Int) cU kk (by rw[<- SA];exact ml M);refine aW VP B.p2.fc cU V (λqx hqx=>aE (x:=W) asd hqx (aD (aA oA (aB pD B.hb rfl ?_))));obtain⟨ts9,yD⟩:=B.p1.wI;have Z:=yD.MX;rw[Mn]at Z;refine aK pE yD.fc ?_;rw[Z];refine zR (first:=[]) (cap:=[.pointer (some ⟨W.bm,0,none⟩),.pointer (some ⟨W.ba,0,none⟩)]) axk B.join (H':=λ_=>sep (bU mp (mkc pv rv (st.loops+1-1) (Ej p rs x a st).counts G I)) (fe G (qE (sN (Ox p rs x a st) ((Ej p rs x a st).mL.take k) (Ox p rs x a st).length) kk (Ox p rs x a st).length))) (Φ:=λv _=>v=.tuple #[]) (λU O dQ=>?_) ?_
  .refine C226 mp pv rv _ _ G I _ kk _ W.bm W.ba U _ O (λw' hc=>?_) ⟨cU,by rw[Mn];omega⟩;exact((dQ w' hc).p1.ep).1.2 k W kk (by rw[s6]at V;exact V) M
  rintro _ _ rfl B;have B:=B.split;refine aR cU ?_;refine⟨_,cU,k+1,rfl,rfl,cU,?_⟩
  have e:sN (Ox p rs x a st) ((Ej p rs x a st).mL.take (k+1)) (Ox p rs x a st).length=qE (sN (Ox p rs x a st) ((Ej p rs x a st).mL.take k) (Ox p rs x a st).length) kk (Ox p rs x a st).length:=by
   rw[List.take_add_one,M];exact Fx
  rw[e];exact B
 have Kn:k=(Ej p rs x a st).mL.length:=cU
 subst Kn;rw[O2]at B;refine aD (aA wD (aO B HN (ei rfl) B.p4.fc.one λ_ B=>?_));rw[<- apH (b:=b) Sb];have B:=B.p3.cS (Ψ:=(λw=>j6 mp E st.mL w/\Q w)) (λ_ g=>g.2);have B:=nP.shut (st:=lpE p rs x a st) (ov:=G) (bv:=Y) (ms:=E) (Q:=Q) B.p4.p3.p3;exact⟨rfl,B.mut⟩
theorem Sh:∀(b:Bk) (n:Int),b.ok n=true->∀x∈b.flat,x.body<=0\/x.kind=11\/x.kind=12
 | .nil,_,_,_,h=>by cases h
 | .cons y a b r,n,h,x,B=>by
  unfold Bk.ok at h
  simp only[n3]at h
  obtain⟨⟨⟨h1,h2⟩,h3⟩,h4⟩:=h
  unfold Bk.flat at B
  rcases ta.1 B with rfl|B
  .unfold Bk.Ko at h1;grind
  .rcases qC.1 B with B|B
   .exact Sh a _ h2 x B
   .rcases qC.1 B with B|B
    .exact Sh b _ h3 x B
    .exact Sh r _ h4 x B
def apK{p:bQ}{rs:List ByteArray}{x:bD}(h:Zr p rs x)(E:x.kind=12->1<=x.n/\x.n<=8)(G:x.eR<=0\/x.kind=11)(hb:x.body<=0\/x.kind=11\/x.kind=12):LwS p rs x:=by
 refine⟨h,λB=>cU,λB=>cU,E,?_,?_⟩
 .by_cases B:x.kind=1\/x.kind=3\/x.kind=4\/x.kind=11\/x.kind=14
  .have:=ym (h.fit.e1 B);omega
  rw[h.fit.e0 B];grind
 by_cases B:x.kind=4
 .have:=ym (h.fit.f1 B);omega
 rw[h.fit.f0 B];grind
theorem ajn{p:bQ}{rs:List ByteArray}{x:bD}{a b:Bk}{st:xE}(h:x.kind=13):uI p rs x a b st={st with out:=st.out++[⟨11,0,0,[],[],0⟩],mL:=st.mL++[(st.out.length:Int)]}:=by
 unfold uI Lp
 grind
theorem apL{p:bQ}{rs:List ByteArray}{x:bD}{a b:Bk}{st:xE}(h1:¬ x.kind=11)(h2:¬ x.kind=12)(h3:¬ x.kind=13):uI p rs x a b st={st with out:=st.out++[eE p rs x]}:=by
 unfold uI Lp
 grind
theorem afs{p:bQ}{pv:bT}{rs:List ByteArray}{rv:SV}{w0:World}(hp:n4 w0 pv p)(hr:dP (λ_=>True) w0 (jj rv) rs)(hz:PZ p)(Ln:rs.length<=500):∀n,afr p pv rs rv w0 n
 | 0=>λ_ _ _ _ _ _ _ h=>absurd h (Nat.not_lt_zero _)
 | n+1=>by
  have HA:=afs hp hr hz Ln n
  intro t lv mp st Q F w hn hl hF I hL
  obtain⟨ts,J,Y⟩:=hL.open
  have J4:ts.length=t.flat.length:=Y.1
  have J3:=t.dL
  have hlo:=hl.o
  have B:=St.begin hF
  refine ajl _ _ _ _ ?_
  unfold S120
  refine ni B rfl (λb2 w1 B=>?_)
  replace B:=nP.add B.pj
  refine⟨λmm y w'=>∃(j:Nat) (r:Bk) (s:xE),y=iE (j:Int)/\mm=r.len/\j+r.len=t.len/\t.flat.drop j=r.flat/\LwB p rs r s/\GJ p rs r s=GJ p rs t st/\St w F [nP mp pv rv s λw=>Q w/\oR w b2 [(.pointer (some ⟨mp,0,none⟩))]] w',⟨_,0,t,st,rfl,rfl,Nat.zero_add _,rfl,hl,rfl,B⟩,?_⟩
  rintro mm _ w2 ⟨j,r,s,rfl,rfl,hj,hd,E,he,B⟩ sQ
  refine aK gX (J.ext (I _ B.aG)) ?_
  refine aV ?_
  refine aC (λc=>?_) (λc=>?_)
  rotate_left
  .have Kd:r=.nil:=yn cU
   subst Kd
   rw[afq]at he
   rw[<- he]
   exact⟨rfl,(nP.mono B λw g=>g.1).mut⟩
  cases r with
  | nil=>exact absurd c (by have:Bk.len .nil=0:=rfl;omega)
  | cons x a b W=>
   have hlen:(Bk.cons x a b W).len=a.len+b.len+W.len+1:=rfl
   obtain⟨hS,hbd,Lb,axs,ah7,_,_,aEp⟩:=E.parts
   have hso:=E.o
   have hsk:=E.k
   have G:t.flat.drop j=x::(a.flat++(b.flat++W.flat)):=hd
   have hxj:t.flat[j]?=some x:=by
    have h1:(t.flat.drop j)[0]?=some x:=by rw[G];rfl
    rw[List.getElem?_drop,Nat.add_zero]at h1;exact h1
   obtain⟨xv,AR⟩:=gx ts (i:=((j:Nat):Int).toNat) cU
   have hdx:=Y.2 j xv x (by rw[s6]at AR;exact AR) hxj
   have V:=hdx
   obtain⟨ge,Z,rfl,dE,dF⟩:=lB hdx
   have hal:=a.dL
   have xD:=b.dL
   refine aW gX (J.ext (I _ B.aG)) cU AR (λq hq=>?_)
   refine aE (x:=(⟨x.kind,x.eY,x.name,ge,Z,x.n,x.body,x.eR,x.at_⟩:bF)) fh hq ?_
   refine aJ B kS (λb5 w3 B=>?_)
   refine aH (x:=(⟨x.kind,x.eY,x.name,ge,Z,x.n,x.body,x.eR,x.at_⟩:bF)) B fh rfl rfl (λw4 B=>?_)
   refine aR cU ?_
   refine aA nt ?_
   refine aB (v:=iE x.body) bL B.hb rfl ?_
   refine aR cU ?_
   refine aA pQ ?_
   refine aB (v:=iE x.eR) bL B.hb rfl ?_
   refine aR cU ?_
   refine⟨λw'=>St w F [nP mp pv rv (uI p rs x a b s) λw=>Q w/\oR w b2 [(.pointer (some ⟨mp,0,none⟩))]] w',?_,?_⟩
   rotate_left
   .rintro w9 B yP
    refine⟨_,?_,j+1+a.len+b.len,W,uI p rs x a b s,gD (n5 .i64) cU,rfl,cU,?_,aEp,ZM.symm.trans he,B⟩
    .omega
    .rw[<- hal,<- xD];exact axr G
   refine aA iy ?_
   refine aB (v:=iE x.kind) bL B.hb rfl ?_
   refine aI ?_
   refine aC (λHy=>?_) (λHy=>?_)
   .replace B:=B.drew
    refine bN yw ((nP.q B.p1).2.cell rfl) ?_
    refine aE (x:=(⟨x.kind,x.eY,x.name,ge,Z,x.n,x.body,x.eR,x.at_⟩:bF)) fh B.At ?_
    refine aR cU ?_
    refine qL gX (J.ext (I _ B.aG)) cU cU cU (λva M=>?_)
    refine qL gX (J.ext (I _ B.aG)) cU cU cU (λvb hvb=>?_)
    have hA:DL w0 va a.flat:=by
     have h1:=DL.cut (xs:=t.flat) M J Y
     rw[show((j:Int)+1+x.body).toNat=j+1+a.flat.length from cU,show((j:Int)+1).toNat=j+1 from cU,alV G]at h1
     exact h1
    have hB:DL w0 vb b.flat:=by
     have h1:=DL.cut (xs:=t.flat) hvb J Y
     rw[show((j:Int)+1+x.body+x.eR).toNat=j+1+a.flat.length+b.flat.length from cU,show((j:Int)+1+x.body).toNat=j+1+a.flat.length from cU,axq G]at h1
     exact h1
    refine aT axl B.p1 (H':=λ_=>nP mp pv rv (uI p rs x a b s) λw=>Q w/\oR w b2 [(.pointer (some ⟨mp,0,none⟩))]) (Φ:=λv _=>v=.tuple #[]) (λU O dQ=>C223 n HA mp s _ x _ a b W va vb U _ O (λw' hc=>I _ (dQ w' hc).aG) hp hr hz Ln V E Hy cU cU hA hB) ?_
    rintro _ w5 rfl B
    exact B.p1.drop
   refine aI ?_
   refine aC (λSb=>?_) (λSb=>?_)
   .replace B:=B.drew
    refine bN yw ((nP.q B.p1).2.cell rfl) ?_
    refine aE (x:=(⟨x.kind,x.eY,x.name,ge,Z,x.n,x.body,x.eR,x.at_⟩:bF)) fh B.At ?_
    refine aR cU ?_
    refine qL gX (J.ext (I _ B.aG)) cU cU cU (λva M=>?_)
    have hA:DL w0 va a.flat:=by
     have h1:=DL.cut (xs:=t.flat) M J Y
     rw[show((j:Int)+1+x.body).toNat=j+1+a.flat.length from cU,show((j:Int)+1).toNat=j+1 from cU,alV G]at h1
     exact h1
    refine aT axm B.p1 (H':=λ_=>nP mp pv rv (uI p rs x a b s) λw=>Q w/\oR w b2 [(.pointer (some ⟨mp,0,none⟩))]) (Φ:=λv _=>v=.tuple #[]) (λU O dQ=>C224 n HA mp s _ x _ a b W va U _ O (λw' hc=>I _ (dQ w' hc).aG) hp hr hz Ln V E Sb cU hA) ?_
    rintro _ w5 rfl B
    exact B.p1.drop
   refine aI ?_
   refine aC (λU1=>?_) (λU1=>?_)
   .refine bN yw ((nP.q B.p1).2.cell rfl) ?_
    refine pop (Ed _) ?_
    replace B:=B.p1.fw (Φ:=λw=>n4 w (⟨11,0,0,bO,bO,0⟩:bK) (⟨11,0,0,[],[],0⟩:aU)) (λw=>qp)
    replace B:=B.p1.join
    refine aT Ml B (H':=λ_=>nP mp pv rv {s with out:=s.out++[⟨11,0,0,[],[],0⟩]} λw=>Q w/\oR w b2 [(.pointer (some ⟨mp,0,none⟩))]) (Φ:=λv _=>v=iE ((s.out.length:Nat):Int)) (λU O dQ=>C225 mp pv rv s _ ⟨11,0,0,[],[],0⟩ (⟨11,0,0,bO,bO,0⟩:bK) U _ O cU) ?_
    rintro _ w7 rfl B
    refine gT B qA rfl (λb8 w8 B=>?_)
    refine aO B bL (ei rfl) rfl (λw9 B=>?_)
    replace B:=B.drew
    refine bN yw ((nP.q B.p1).2.cell rfl) ?_
    refine bN yw ((nP.q B.p1).2.cell rfl) ?_
    refine aD ?_
    refine aA wD ?_
    obtain⟨ov,bv,ms,B⟩:=nP.open B.p1
    have iT:ms.length=s.mL.length:=B.p3.ep.1.1
    refine aB HN B.hb rfl ?_
    refine bV ([⟨b2,b8⟩]:List uH) B VP rfl rfl (ei rfl) (λs68 w10 B=>?_)
    refine⟨aF yw (B.p4.ep.2.2.cell rfl),?_⟩
    refine⟨aF yw (B.p4.ep.2.2.cell rfl),?_⟩
    refine⟨aF HN (B.p1.hb.cell rfl),?_⟩
    have apB:=B.fc
    refine cK B.p3 VP apB (by rw[mv];omega) er (λx69 w11 B=>?_)
    refine⟨aF yw (B.p4.ep.2.2.cell rfl),?_⟩
    refine aD ?_
    refine aA wD ?_
    refine aO B.p2 HN (ei rfl) B.fc.one (λw12 B=>?_)
    replace B:=B.p5.pj.p5.fu.cS (Ψ:=λw=>j6 mp (ms++[⟨b2,b8⟩]) (s.mL++[(s.out.length:Int)]) w/\(λw=>Q w/\oR w b2 [(.pointer (some ⟨mp,0,none⟩))]) w) (λw g=>⟨g.1.1.snoc (g.1.2.2.cell rfl) (g.2.cell rfl),g.1.2⟩)
    replace B:=nP.shut (st:={s with out:=s.out++[⟨11,0,0,[],[],0⟩],mL:=s.mL++[(s.out.length:Int)]}) (ov:=ov) (bv:=x69) (ms:=ms++[⟨b2,b8⟩]) (Q:=(λw=>Q w/\oR w b2 [(.pointer (some ⟨mp,0,none⟩))])) B.p2.p4.p3
    rw[ajn U1]
    exact B.p2.drop.p1.drop
   .replace B:=B.drew
    refine bN yw ((nP.q B.p1).2.cell rfl) ?_
    refine bN yw ((nP.q B.p1).2.cell rfl) ?_
    refine aE (x:=(⟨x.kind,x.eY,x.name,ge,Z,x.n,x.body,x.eR,x.at_⟩:bF)) fh B.At ?_
    obtain⟨ov,bv,ms,G7⟩:=nP.open B.p1
    have e1:=I _ B.aG
    refine eC axj (C227 mp pv rv _ _ ov bv p rs x _ _ G7.hb (B4 hp e1) (hr.ext e1) (B4 V e1) hz hS ⟨Hy,Sb,U1⟩ Ln) ?_
    rintro _ Z3 ⟨iv,rfl,cA⟩
    replace B:=B.made cA
    refine⟨aF yw ((nP.q B.p2).2.cell rfl),?_⟩
    replace B:=B.p2.join
    refine aT Ml B (H':=λ_=>nP mp pv rv {s with out:=s.out++[eE p rs x]} λw=>Q w/\oR w b2 [(.pointer (some ⟨mp,0,none⟩))]) (Φ:=λv _=>v=iE ((s.out.length:Nat):Int)) (λU O dQ=>C225 mp pv rv s _ (eE p rs x) iv U _ O cU) ?_
    rintro _ w7 rfl B
    rw[apL Hy Sb U1]
    exact B.p1.drop
def C58(p:bQ)(pv:bT)(t:cE)(tv:cI)(w:World)(hp:n4 w pv p)(ht:n4 w tv t)(hz:PZ p)(hc:Bt p)(V:t∈je p):CR 58 [jj pv,jj tv] w (λv w'=>∃cv:dI,v=jj cv/\mf (ep λw=>n4 w cv (jM p t)) w w'):=by
 obtain⟨b,U,M,G,xD,Y,hbx,hbw,SA,_⟩:=hc.tree V;have O:=(hz.kC V);obtain⟨J,gb,rfl,dR,dB⟩:=id ht;have Ln:t.aS.length<=500:=O.2.1;have W:LwB p t.aS b (⟨0,0,[],[]⟩:xE):=⟨M,λx I=>apK (hc.stk V x dH) (Y x I) (Fu b 0 G x I) (Sh b 0 G x I),dH,⟨u4 _,dH⟩,dH⟩;have hcn:=Hl b 0 0 M (λx I _=>by have:=Fu b 0 G x I;omega) (λx I _=>by have:=Sh b 0 G x I;omega) (u4 _);have hdp:=oY b;have B:=St.start w;refine pG Tryz.func58 (pl:=P58) ?_;refine cP (x:=pv) B (λb2 _ B=>cP (x:=(⟨t.name,J,gb,t.at_⟩:cI)) B λb3 _ B=>aJ B MM λb4 _ B=>aE (x:=pv) gO B.p2.At (aA kP (aB (v:=jj J) nf B.p1.hb rfl (pop (U7 _ _ _ _ _ _ _ _ _ _ _ _ _ _ _ _ _ _ _ _ _) (kL B λE _ B=>have B:=B.fw (Φ:=λw=>j6 E [] [] w/\True) (λ_=>⟨j6.nil,trivial⟩);have B:=nP.shut (mp:=E) (pv:=pv) (rv:=J) (st:=(⟨0,0,[],[]⟩:xE)) (ov:=(.slice none 0 0)) (bv:=(.slice none 0 0)) (ms:=[]) (Q:=λ_=>True) ((B.eU (α:=uH)).xK (α:=aU)).p3;aA tG (aB (v:=jj gb) ou B.p2.hb rfl (aT XR B (H':=λ_=>nP E pv J (GJ p t.aS b (⟨0,0,[],[]⟩:xE)) λ_=>True) (Φ:=λv _=>v=.tuple #[]) (λF2 ed dQ=>afs hp (DL.flat dR) hz Ln (b.len+1) b _ E (⟨0,0,[],[]⟩:xE) _ F2 _ (Nat.lt_succ_self _) W ed (λw' hc=>(dQ w' hc).aG) (by rw[<- U];exact dB)) ?_)))))))
 rintro _ _ rfl B;refine aA kP (have B:=B.drew;aB (v:=jj J) nf B.p2.hb rfl (aK kN ((DL.flat dR).ext B.aG) ?_));obtain⟨ov,bv,ms,B⟩:=nP.open B;refine aD (aA HO (aB (v:=iE (uS b 0 0)) bL B.hb rfl (aD (aA oA (aB pD B.hb rfl ?_)))));obtain⟨Z,rfl⟩:=B.p1.mW;refine pop (Sg _ _ _ _ _) (aH (x:=(⟨t.aS.length,uS b 0 0,Z⟩:dI)) B.p4 si rfl rfl λ_ B=>aE (x:=(⟨t.aS.length,uS b 0 0,Z⟩:dI)) si B.At ?_)
 have B:=B.p2.kV.cS (Ψ:=λw=>n4 w (⟨t.aS.length,uS b 0 0,Z⟩:dI) (jM p t)) (λw h=>by
  rw[IE SA,show uS b 0 0=jD b from cU];exact⟨_,rfl,h⟩)
 exact⟨_,rfl,B.fresh⟩
def ZO(p:bQ)(k:Nat):gz:=if k=0 then Qz else ab8 p
def C18(p:bQ)(pv:bT)(w:World)(hp:n4 w pv p)(W:PZ p):CR 18 [jj pv] w (λv w'=>∃uv:eO,v=.tuple #[jj uv,iE (fW p)]/\mf (ep λw=>n4 w uv (if fW p=0 then eM p else akC)) w w'):=by
 obtain⟨O,V,M,J,I,G,rfl,dl,dv,dk,Z,dr,dc⟩:=hp;have B:=St.start w;refine apE _ _ _ ?_;unfold S18;refine cP B (λb1 w1 B=>aJ B BO λb2 w2 B=>have B:=B.enc (cs':=jl (⟨bO,0,bO,0,bO,(⟨0,0,bO⟩:dI),bO⟩:eO)) rfl;aE gO B.p1.At (eC auG (C49 p _ _ ⟨O,V,M,J,I,G,rfl,dl.ext B.aG,dv.ext B.aG,dk.ext B.aG,Z.ext B.aG,dr.ext B.aG,dc.ext B.aG⟩ W) ?_));rintro _ w3 ⟨a,rfl,he⟩;have B:=B.ext he;refine aN rfl (aN rfl (cN (aC (λc=>?_) λc=>?_)))
 .refine pop (v:=jj (⟨bO,0,bO,0,bO,(⟨0,0,bO⟩:dI),bO⟩:eO)) (by kernel_rfl) (aH (x:=(⟨bO,0,bO,0,bO,(⟨0,0,bO⟩:dI),bO⟩:eO)) B zj rfl rfl λw4 B=>aE zj B.At ?_);have B:=B.fw (Φ:=(λw=>n4 w (⟨bO,0,bO,0,bO,(⟨0,0,bO⟩:dI),bO⟩:eO) akC)) (λw=>⟨_,_,_,_,_,rfl,DL.nil _,DL.nil _,DL.nil _,⟨_,rfl,DL.nil _⟩,DL.nil _⟩);rw[ew c];exact⟨_,rfl,B.fresh⟩
 have A5:fW p=0:=cU
 have Va:=Qy A5;have hacl:=wM W.toPS;have hffl:=Tt p;have aEs:(bW p).length=(gS p).length:=by unfold bW;rw[oi]
 have hsl:0<=cZ p/\cZ p<=(bW p).length:=by unfold cZ bW gS;rw[oi,lJ];omega
 refine aE gO B.p1.At (cW anb B (C51 p _ _ ⟨O,V,M,J,I,G,rfl,dl.ext B.aG,dv.ext B.aG,dk.ext B.aG,Z.ext B.aG,dr.ext B.aG,dc.ext B.aG⟩ W) λx27 w5 cA B=>?_);refine⟨λjv w'=>∃(u:Nat) (E:SV),jv=.pointer (some ⟨u,0,none⟩)/\St w bE [bU u (jl (⟨bO,(cZ p),E,(p.locks.length:Int),bO,(⟨0,0,bO⟩:dI),bO⟩:eO)),bG (jj E) (gK p),bG x27 (bW p),bU b2 (jl (⟨bO,0,bO,0,bO,(⟨0,0,bO⟩:dI),bO⟩:eO)),bU b1 (jl (⟨O,V,M,J,I,G⟩:bT))] w',?_,?_⟩
 .have B:=B.drew;refine aE gO B.p2.At (aE gO B.p2.At (aA uV (aB (v:=jj M) l4 B.p2.hb rfl ?_)));have hf:=DL.flat dk;refine aK qq (hf.ext B.aG) ⟨aY ahN B (C55 p _ _ ⟨O,V,M,J,I,G,rfl,dl.ext B.aG,dv.ext B.aG,dk.ext B.aG,Z.ext B.aG,dr.ext B.aG,dc.ext B.aG⟩ W) (λw6 he B=>⟨fJ gO B.p2.At,⟨aF l4 (B.p2.hb.cell rfl),⟨?_,?_,trivial⟩⟩⟩),?_,trivial⟩
  .refine cW ahO B (C56 p _ _ ⟨O,V,M,J,I,G,rfl,dl.ext B.aG,dv.ext B.aG,dk.ext B.aG,Z.ext B.aG,dr.ext B.aG,dc.ext B.aG⟩ W) (λx31 w7 cA B=>?_);refine⟨aF l4 (B.p3.hb.cell rfl),?_⟩;obtain⟨E,rfl⟩:=B.fK;refine pop (Aw _ _ _ _ _) (aJ B BO λu w8 B=>?_);refine⟨fJ gO B.p4.At,?_⟩;refine⟨fJ gO B.p4.At,?_⟩;refine⟨aF l4 (B.p4.hb.cell rfl),?_⟩;exact aH (x:=(⟨bO,(cZ p),E,(p.locks.length:Int),bO,(⟨0,0,bO⟩:dI),bO⟩:eO)) B zj rfl rfl (λw9 B=>⟨_,_,rfl,B⟩)
  .refine aJ B BO (λu w7 B=>?_);refine⟨fJ gO B.p3.At,?_⟩;refine⟨fJ gO B.p3.At,?_⟩;refine⟨aF l4 (B.p3.hb.cell rfl),?_⟩;refine cW ahO B (C56 p _ _ ⟨O,V,M,J,I,G,rfl,dl.ext B.aG,dv.ext B.aG,dk.ext B.aG,Z.ext B.aG,dr.ext B.aG,dc.ext B.aG⟩ W) (λx31 w8 cA B=>?_);refine⟨aF l4 (B.p4.hb.cell rfl),?_⟩;obtain⟨E,rfl⟩:=B.fK;exact pop (Aw _ _ _ _ _) (aH (x:=(⟨bO,(cZ p),E,(p.locks.length:Int),bO,(⟨0,0,bO⟩:dI),bO⟩:eO)) B.p1 zj rfl rfl λw9 B=>⟨_,_,rfl,B⟩)
  refine aJ B BO (λu w7 B=>?_);refine⟨fJ gO B.p3.At,?_⟩;refine⟨fJ gO B.p3.At,?_⟩;refine⟨aF l4 (B.p3.hb.cell rfl),?_⟩;refine aY ahN B (C55 p _ _ ⟨O,V,M,J,I,G,rfl,dl.ext B.aG,dv.ext B.aG,dk.ext B.aG,Z.ext B.aG,dr.ext B.aG,dc.ext B.aG⟩ W) (λw6 he B=>?_);refine⟨fJ gO B.p3.At,?_⟩;refine⟨aF l4 (B.p3.hb.cell rfl),?_⟩;refine cW ahO B (C56 p _ _ ⟨O,V,M,J,I,G,rfl,dl.ext B.aG,dv.ext B.aG,dk.ext B.aG,Z.ext B.aG,dr.ext B.aG,dc.ext B.aG⟩ W) (λx31 w8 cA B=>?_);refine⟨aF l4 (B.p4.hb.cell rfl),?_⟩;obtain⟨E,rfl⟩:=B.fK;exact pop (Aw _ _ _ _ _) (aH (x:=(⟨bO,(cZ p),E,(p.locks.length:Int),bO,(⟨0,0,bO⟩:dI),bO⟩:eO)) B.p1 zj rfl rfl λw9 B=>⟨_,_,rfl,B⟩)
 rintro _ w17 ⟨u,E,rfl,B⟩ sQ;refine aK kN B.p2.fc ?_;have B:=(B.eU (α:=Int)).p1;refine⟨λmm y w'=>∃(k:Nat) (Y:SV),y=iE (k:Int)/\mm=(bW p).length-k/\k<=(bW p).length/\St w bE [bU u (jl (⟨Y,(cZ p),E,(p.locks.length:Int),bO,(⟨0,0,bO⟩:dI),bO⟩:eO)),bG (jj Y) ((qi k).map fun (i:Nat)=>iS p i),bG (jj E) (gK p),bG x27 (bW p),bU b2 (jl (⟨bO,0,bO,0,bO,(⟨0,0,bO⟩:dI),bO⟩:eO)),bU b1 (jl (⟨O,V,M,J,I,G⟩:bT))] w',⟨_,0,bO,rfl,rfl,ob _,B⟩,?_⟩;rintro mm _ w18 ⟨k,Y,rfl,rfl,hk,B⟩ yP
 refine aV (aC (λc1=>?_) λc1=>?_)
 .refine aA nV (have B:=B.drew;aB (v:=jj Y) eD B.hb rfl (aE gO B.p5.At (aY acC B (C53 p _ (k:Int) _ ⟨O,V,M,J,I,G,rfl,dl.ext B.aG,dv.ext B.aG,dk.ext B.aG,Z.ext B.aG,dr.ext B.aG,dc.ext B.aG⟩ W) λw19 he B=>?_)));refine⟨aF eD (B.hb.cell rfl),?_⟩;refine bV ([iS p (k:Int)]:List Int) B dZ rfl rfl (ei rfl) (λs46 w20 B=>?_);refine⟨aF eD (B.p1.hb.cell rfl),?_⟩;have aEt:=B.fc;refine cK B.p2 dZ aEt (by rw[oi,Ih,mv];omega) er (λx47 w21 B=>?_);obtain⟨sv,rfl⟩:=B.fK;exact aA nV (aO B.p2 eD (ei rfl) rfl λw22 B=>aR cU ⟨_,cU,k+1,sv,rfl,rfl,cU,by rw[<- Ts];exact B.p2.drop⟩)
 have Kn:k=(bW p).length:=cU
 subst Kn;refine aA sO (aB (v:=jj J) kf B.p5.hb rfl ?_);obtain⟨tts,htR,htD⟩:=Z.open;have htn:=htD.1;have hzt:=W.threads;refine aK kM (htR.ext B.aG) ?_;have B:=(B.xK (α:=gz)).p1;refine⟨λmm y w'=>∃(k:Nat) (st:SV),y=iE (k:Int)/\mm=p.threads.length-k/\k<=p.threads.length/\St w bE [bU u (jl (⟨Y,(cZ p),E,(p.locks.length:Int),st,(⟨0,0,bO⟩:dI),bO⟩:eO)),fe (jj st) ((p.threads.take k).map (jM p)),bG (jj Y) ((qi (bW p).length).map fun (i:Nat)=>iS p i),bG (jj E) (gK p),bG x27 (bW p),bU b2 (jl (⟨bO,0,bO,0,bO,(⟨0,0,bO⟩:dI),bO⟩:eO)),bU b1 (jl (⟨O,V,M,J,I,G⟩:bT))] w',⟨_,0,bO,rfl,rfl,ob _,B⟩,?_⟩
 rintro mm _ w23 ⟨k,st,rfl,rfl,hk,B⟩ Ig;refine aV (aC (λc2=>?_) λc2=>?_)
 .obtain⟨e55,axw⟩:=gx tts (i:=(k:Int).toNat) cU;obtain⟨t,U⟩:=gx p.threads (i:=(k:Int).toNat) cU;have hdt:=htD.2 _ _ _ axw U;refine aW kM (htR.ext B.aG) cU axw (λq55 h55=>aE lG h55 (aJ B qZ λb10 w24 B=>aH (x:=e55) B lG rfl rfl λw25 B=>aA uX (have B:=B.drew;aB (v:=jj st) Ki B.p1.hb rfl (aE gO B.p7.At (aE lG B.At (eC axn (C58 p _ t e55 _ ⟨O,V,M,J,I,G,rfl,dl.ext B.aG,dv.ext B.aG,dk.ext B.aG,Z.ext B.aG,dr.ext B.aG,dc.ext B.aG⟩ (B4 hdt B.aG) W Va (List.mem_append_left _ (ml U))) ?_))))))
  rintro _ w26 ⟨cv,rfl,cA⟩;have B:=B.made cA;refine⟨aF Ki (B.p2.hb.cell rfl),?_⟩;refine fH B ED er (λs62 w27 B=>?_);refine⟨aF Ki (B.p2.hb.cell rfl),?_⟩;refine fI B.p3 ED (by simp;omega) er (λx63 w28 B=>?_);obtain⟨sv,rfl⟩:=B.mW;exact aA uX (aO B.p2 Ki (ei rfl) rfl λw29 B=>aR cU ⟨_,cU,k+1,sv,rfl,rfl,cU,by rw[<- ig (k:=k) U];exact B.p2.drop⟩)
 have Kn:k=p.threads.length:=cU
 subst Kn;rw[O2]at B;refine aA uW (aB (v:=jj I) kf B.p6.hb rfl ?_);obtain⟨rts,hrR,hrD⟩:=dr.open;have hrn:=hrD.1;have Kc:=Va.pf.one;refine aK kM (hrR.ext B.aG) ?_;have B:=(B.fw (Φ:=λw=>n4 w (⟨0,0,bO⟩:dI) (ZO p 0)) λw=>⟨_,rfl,DL.nil _⟩).p1;refine⟨λmm y w'=>∃(k:Nat) (rc:dI),y=iE (k:Int)/\mm=p.recover.length-k/\k<=p.recover.length/\St w bE [bU u (jl (⟨Y,(cZ p),E,(p.locks.length:Int),st,rc,bO⟩:eO)),ep (λw=>n4 w rc (ZO p k)),fe (jj st) (p.threads.map (jM p)),bG (jj Y) ((qi (bW p).length).map fun (i:Nat)=>iS p i),bG (jj E) (gK p),bG x27 (bW p),bU b2 (jl (⟨bO,0,bO,0,bO,(⟨0,0,bO⟩:dI),bO⟩:eO)),bU b1 (jl (⟨O,V,M,J,I,G⟩:bT))] w',⟨_,0,(⟨0,0,bO⟩:dI),rfl,rfl,ob _,B⟩,?_⟩
 rintro mm _ w30 ⟨k,rc,rfl,rfl,hk,B⟩ dd4;refine aV (aC (λc3=>?_) λc3=>?_)
 .obtain rfl:k=0:=cU
  obtain⟨e71,axx⟩:=gx rts (i:=((0:Nat):Int).toNat) cU;obtain⟨t,U⟩:=gx p.recover (i:=((0:Nat):Int).toNat) cU;have hdt:=hrD.2 _ _ _ axx U;refine aW kM (hrR.ext B.aG) cU axx (λq71 h71=>aE lG h71 (aJ B qZ λb12 w31 B=>aH (x:=e71) B lG rfl rfl λw32 B=>aE gO B.p8.At (aE lG B.At (eC axn (C58 p _ t e71 _ ⟨O,V,M,J,I,G,rfl,dl.ext B.aG,dv.ext B.aG,dk.ext B.aG,Z.ext B.aG,dr.ext B.aG,dc.ext B.aG⟩ (B4 hdt B.aG) W Va (List.mem_append_right _ (ml U))) ?_))));rintro _ w33 ⟨cv,rfl,cA⟩;have B:=B.made cA
  refine aA CE (ry (vs:=jl cv) B.p2 si rfl (ei rfl) (Flat.one _) λw34 B=>have B:=B.enc (cs':=jl (⟨Y,(cZ p),E,(p.locks.length:Int),st,cv,bO⟩:eO)) rfl;aR cU ?_)
  have hrk:ZO p (0+1)=jM p t:=by
   have h2:p.recover[0]?=some t:=U;unfold ZO ab8;rw[ew cU,h2]
  refine⟨_,cU,0+1,cv,rfl,rfl,cU,?_⟩;rw[hrk];exact B.p2.drop.p2.drop
 have Kn:k=p.recover.length:=cU
 subst Kn
 have hrk:ZO p p.recover.length=ab8 p:=by
  unfold ZO
  split
  .rename_i h0
   unfold ab8;rw[List.getElem?_eq_none cU]
  .rfl
 rw[hrk]at B;refine aA oM (aB (v:=jj G) zi B.p7.hb rfl ?_);obtain⟨cts,hcR,hcD⟩:=dc.open;have hcn:=hcD.1;have hzc:=W.cB;refine aK A7 (hcR.ext B.aG) ?_;have B:=(B.xK (α:=(List nW))).p1;refine⟨λmm y w'=>∃(k:Nat) (sc:SV),y=iE (k:Int)/\mm=p.cB.length-k/\k<=p.cB.length/\St w bE [bU u (jl (⟨Y,(cZ p),E,(p.locks.length:Int),st,rc,sc⟩:eO)),fe (jj sc) ((p.cB.take k).map λc=>eL (gi p) c.e),ep (λw=>n4 w rc (ab8 p)),fe (jj st) (p.threads.map (jM p)),bG (jj Y) ((qi (bW p).length).map fun (i:Nat)=>iS p i),bG (jj E) (gK p),bG x27 (bW p),bU b2 (jl (⟨bO,0,bO,0,bO,(⟨0,0,bO⟩:dI),bO⟩:eO)),bU b1 (jl (⟨O,V,M,J,I,G⟩:bT))] w',⟨_,0,bO,rfl,rfl,ob _,B⟩,?_⟩
 rintro mm _ w35 ⟨k,sc,rfl,rfl,hk,B⟩ dd5;refine aV (aC (λc4=>?_) λc4=>?_)
 .obtain⟨e83,axy⟩:=gx cts (i:=(k:Int).toNat) cU;obtain⟨cl,hrc⟩:=gx p.cB (i:=(k:Int).toNat) cU;obtain⟨ge,rfl,zd⟩:=hcD.2 _ _ _ axy hrc;have aEv:=W.zc _ (ml hrc);refine aW A7 (hcR.ext B.aG) cU axy (λq83 h83=>aE HF h83 (aJ B MP λb14 w36 B=>aH (x:=(⟨ge,cl.at_⟩:jy)) B HF rfl rfl λw37 B=>aA CG (have B:=B.drew;aB (v:=jj ge) l5 B.hb rfl (aA qX (aB (v:=iE (cZ p)) bL B.p1.hb rfl (EB kN B.p7.fc hsl.1 hsl.2 λv91 h91=>eC amP (C59 (jj ge) v91 cl.e ((bW p).take (cZ p).toNat) _ ((DL.flat zd).ext B.aG) h91 aEv.1 (by rw[n0];omega)) ?_))))))
  rintro _ w38 ⟨s93,rfl,cA⟩;have B:=B.made cA;refine aN rfl (aN rfl ?_);obtain⟨s93,rfl⟩:=B.fK;refine aA AF (aB (v:=jj sc) Yf B.p2.hb rfl (have B:=B.freeze.cS (Ψ:=λw=>n4 w s93 (eL (gi p) cl.e)) (λw h=>DL.fP h);fH B Kj er λs98 w39 B=>fI B.p3 Kj (by simp;omega) er λx99 w40 B=>?_));obtain⟨sv,rfl⟩:=B.mW;exact aA AF (aO B.p2 Yf (ei rfl) rfl λw41 B=>aR cU ⟨_,cU,k+1,sv,rfl,rfl,cU,by rw[<- ig (k:=k) hrc];exact B.p2.drop⟩)
 have Kn:k=p.cB.length:=cU
 subst Kn;rw[O2]at B;refine aE (x:=(⟨Y,(cZ p),E,(p.locks.length:Int),st,rc,sc⟩:eO)) zj B.At (aH (x:=(⟨Y,(cZ p),E,(p.locks.length:Int),st,rc,sc⟩:eO)) B.p7 zj rfl rfl λw42 B=>aE zj B.At ?_)
 have B:=B.p2.kV.p3.fu.p3.kV.fu.p3.freeze.fu.p3.freeze.fu.cS (Ψ:=λw=>n4 w (⟨Y,(cZ p),E,(p.locks.length:Int),st,rc,sc⟩:eO) (eM p)) (λw h=>by
  obtain⟨h1,h2,h3,h4,h5⟩:=h;exact⟨_,_,_,_,_,rfl,DL.fP (by rw[aEs]at h2;exact h2),DL.fP h1,h3,h4,h5⟩)
 refine⟨_,by rw[A5],?_⟩;rw[ez A5];exact B.fresh
variable (w:World) (K:Value->iD)
theorem axz:PL 130:=dT Tryz.func130
end Go.Proofs.YtdncbeepkacgbaaGreatDoor
namespace Go.Proofs.YtdncbeepkacgbaaGreatDoor
open Go.Fw
def atD(m:j4)(i:Int):Int×Bool:=if i<0\/(m.l.length:Int)<=i then(0,false)else match m.l[i.toNat]? with
 | none=>(0,false)
 | some t=>match sX t.cD with
  | none=>(0,false)
  | some (x,_,_)=>(x.at_,true)
theorem ajo{m:j4}{i:Int}(h:i<0\/(m.l.length:Int)<=i):atD m i=(0,false):=by unfold atD;rw[ez h]
def apN{m:j4}{i:Int}{t:kG}(h:¬ (i<0\/(m.l.length:Int)<=i))(ht:m.l[i.toNat]?=some t):atD m i=match sX t.cD with|none=>(0,false)|some (x,_,_)=>(x.at_,true):=by unfold atD;rw[ew h,ht]
def C29(K:iD)(p:Nat)(m:j4)(w:World)(M:Has (gd K p m) w)(J:∀w',Ext w w'->K w')(G:rU m):CR 29 [.pointer (some ⟨p,0,none⟩)] w (λv w'=>mf (bG v m.mem.kept) w w'):=by
 obtain⟨a,E⟩:=gd.rd M (J _ (Ext.refl _));have I:=E.b.cell (o:=9) rfl;have B:=St.start w;refine fD Tryz.func29 ?_;exact aD (aA my (bN mT (I.ext B.aG) (cW X9 B (C77 a.q m.mem _ (E.mem.ext B.aG) G.mem) λ_ _ _ B=>B.fresh)))
def C130(J:Value)(xs:List ur)(w:World)(G:dP (λ_=>True) w J xs)(V:xs.length<=1048576):CR 130 [J] w (λv w'=>mf (bG v xs) w w'):=by
 have B:=St.start w;refine fD Tryz.func130 ?_;refine wJ Tryz.underlying129 (G.ext B.aG) (λp O=>aX (λI=>?_) λI=>?_)
 .have M:=O I;subst M;exact(B.eU (α:=ur)).fresh
 refine bV ([]:List ur) B tJ rfl rfl (ei rfl) (λU _ B=>?_);have E:=(G.ext B.aG);exact cK B tJ E (by simp;omega) er (λ_ _ B=>B.fresh)
def C60(K:iD)(p:Nat)(m:j4)(i:Int)(w:World)(V:Has (gd K p m) w)(J:∀w',Ext w w'->K w')(Y:rU m):CR 60 [.pointer (some ⟨p,0,none⟩),iE i] w (λv w'=>v=.tuple #[iE (atD m i).1,.bool (atD m i).2]/\Ext w w'):=by
 obtain⟨a,E⟩:=gd.rd V (J _ (Ext.refl _));have M:=E.b.cell (o:=11) rfl;have hlen:=E.len;have B:=St.start w;refine an9 _ _ _ _ ?_;unfold S60;refine⟨λjv w'=>jv=.bool (decide (i<0\/(m.l.length:Int)<=i))/\w'=w,?_,?_⟩
 .exact aV (aC (λc=>⟨vb (fY (.inl c)).symm,rfl⟩) λ_=>aD (aA lF (bN tC M (aK uY E.ll (dC ⟨vb (gv.2 cU),rfl⟩)))))
 rintro _ _ ⟨rfl,rfl⟩ _;refine aC (λc=>?_) (λc=>?_)
 .exact⟨by rw[ajo c],B.aG⟩
 obtain⟨t,ht⟩:=gx m.l (i:=i.toNat) cU;obtain⟨s,O⟩:=gx a.ps (i:=i.toNat) cU;have G:=apN c ht;have I:=Y.th t (ml ht);have mM:=AV I.p;have F9:=I.cl;obtain⟨bp,nv,rg,pl,es,hk,W,hB,Gd,Jr,DJ,_⟩:=eP.rd (E.th _ s t O ht);refine aD (aA lF (bN tC M (aW uY E.ll cU O λq hq=>aE FN hq (eC W0 (C127 K s.b t bp nv rg pl es _ _ W Jr DJ J I.p cU) ?_))));rintro v _ ⟨he,hv⟩;have B:=B.ext he
 rcases hv with⟨eT,rfl⟩|⟨x,xa,xb,xv,av,bv,ra,rb,Z,rfl,AR,_⟩
 .rw[eT]at G;exact aN rfl (aN rfl (aN rfl (aN rfl (aJ B kS λ_ _ B=>aH (x:=(⟨0,⟨#[]⟩,⟨#[]⟩,bO,bO,0,0,0,0⟩:bF)) B fh rfl rfl λ_ B=>aA tN (aB (v:=iE 0) bL B.hb rfl ⟨by rw[G],B.drop.aG⟩)))))
 obtain⟨U,gf,rfl,_,_⟩:=lB (AR _ (J _ B.aG));rw[Z]at G;exact aN rfl (aN rfl (aN rfl (aN rfl (aJ B kS λ_ _ B=>aH (x:=(⟨x.kind,x.eY,x.name,U,gf,x.n,x.body,x.eR,x.at_⟩:bF)) B fh rfl rfl λ_ B=>aA tN (aB (v:=iE x.at_) bL B.hb rfl ⟨by rw[G],B.drop.aG⟩)))))
variable (w:World) (K:Value->iD)
def P61:dM:=λi=>match i with
 | 2=>(.of [(0,[]),(1,[]),(2,[]),(3,[]),(5,[]),(6,[]),(7,[]),(8,[]),(4,[8]),(9,[]),(10,[]),(11,[]),(12,[]),(13,[]),(14,[]),(15,[])])
 | 7=>(.of [(0,[]),(1,[]),(2,[]),(3,[]),(5,[]),(6,[]),(7,[]),(8,[]),(10,[]),(11,[]),(12,[]),(13,[]),(4,[8,13]),(9,[13]),(14,[]),(15,[]),(16,[]),(17,[]),(18,[]),(19,[]),(20,[])])
 | _=>.nil
theorem aEw:PL 61:=dT Tryz.func61
end Go.Proofs.YtdncbeepkacgbaaGreatDoor
namespace Go.Proofs.YtdncbeepkacgbaaGreatDoor
open Go.Fw
def Vb{a:DA}{m:j4}(h1:sg a.ow=true)(h2:sg a.ll=true):∀v∈mi a m,sg v=true:=by
 intro v B
 simp only[ta,abi,or_false]at B
 rcases B with rfl|rfl|rfl|rfl|rfl|rfl|rfl|rfl|rfl|rfl|rfl|rfl|rfl|rfl|rfl<;>first|rfl|exact h1|exact h2
def Si{G:Nat}{E:SV}{rg pl:Value}{f:Int}(h1:sg rg=true)(h2:sg pl=true):∀v∈ri G E rg pl f,sg v=true:=by
 intro v B
 simp only[ta,abi,or_false]at B
 rcases B with rfl|rfl|rfl|rfl|rfl<;>first|rfl|exact h1|exact h2
def Oz(K:iD)(p:Nat)(room:Int)(t:kG)(es:PE):HP:=ph λE:Nat=>ph λB:SV=>ph λrg=>ph λpl=>fact (∀w,K w->dP (λ_=>True) w (jj B) t.names)
 (sep (bU p (ri E B rg pl t.fault)) (sep (lV E room t.buf) (sep (bG rg t.aS) (bG pl (NP es)))))
def OA(K:iD)(p:Nat)(room:Int)(t:kG):HP:=ph λes:PE=>fact (∀w,yd K w es t.cD) (Oz K p room t es)
abbrev Sj(K:iD)(room:Int)(s:Ptr)(t:kG):HP:=OA K s.b room t
abbrev alZ(K:iD)(room:Int)(s:Ptr)(t:kG×PE):HP:=Oz K s.b room t.1 t.2
def FB(K:iD)(p:Nat)(m:j4):HP:=ph λa:DA=>fact (DUK K a m) (sep (bU p (mi a m)) (sep (fE a.q a.ov a.fv m.mem) (sep (bG a.ow m.fC) (sep (bG a.ll a.ps) (gH (Sj K m.room) a.ps m.l)))))
section
variable {w w0:World}{A:Nat->Prop}{R:List HP}{p:Nat}{K K2:iD}{room:Int}{t:kG}{m:j4}
theorem yd.share{F:Nat->Prop}:∀{es:PE}{p:PD},(∀w',kp F w w'->yd K w' es p)->∀w',yd (λw'=>K w'/\kp F w w') w' es p
 | [],[],_,_=>trivial
 | _::_,_::_,h,w'=>⟨⟨(h w (kp.refl F w)).1.1,λB h2=>(h w (kp.refl F w)).1.2.1 B h2.1,λh2=>(h w' h2.2).1.2.2 h2.1⟩,yd.share (λB h2=>(h B h2).2) w'⟩
 | [],_::_,h,_=>(h w (kp.refl F w)).elim
 | _::_,[],h,_=>(h w (kp.refl F w)).elim
theorem Oz.split(B:St w0 A (rT K p room t::R) w):∃es,St w0 A (Oz K p room t es::ep (λw=>yd K w es t.cD)::R) w:=by
 obtain⟨I,G,rg,pl,es,E,B⟩:=eP.open B
 have h1:=B.p4.cS (Ψ:=λw=>yd K w es t.cD) λw h=>h.1
 exact⟨es,St.dX I (St.dX G (St.dX rg (St.dX pl (St.nx E (U5 h1.p4.p4.p4.p4)))))⟩
theorem Oz.join{es:PE}(G:∀w,K2 w->K w)(B:St w0 A (Oz K p room t es::R) w):St w0 A (Oz K2 p room t es::R) w:=by
 obtain⟨J,B⟩:=B.dU;obtain⟨I,B⟩:=B.dU;obtain⟨rg,B⟩:=B.dU;obtain⟨pl,B⟩:=B.dU;obtain⟨E,B⟩:=B.lq
 exact St.dX J (St.dX I (St.dX rg (St.dX pl (St.nx (λw h=>E w (G w h)) B))))
theorem OA.ZP(B:St w0 A (OA K p room t::R) w):St w0 A (rT K p room t::R) w:=by
 obtain⟨es,B⟩:=B.dU;obtain⟨G,B⟩:=B.lq
 obtain⟨J,B⟩:=B.dU;obtain⟨I,B⟩:=B.dU;obtain⟨rg,B⟩:=B.dU;obtain⟨pl,B⟩:=B.dU;obtain⟨E,B⟩:=B.lq
 have h:=(JU B).fw (Φ:=λw=>yd K w es t.cD/\True) (λw=>⟨G w,trivial⟩)
 exact eP.shut E h.p4.p4.p4.p4
theorem OA.rd(h:Has (OA K p room t) w):∃G E rg pl es,(∀w,K w->dP (λ_=>True) w (jj E) t.names)/\oR w p (ri G E rg pl t.fault)/\xX w G room t.buf/\dP (λ_=>True) w rg t.aS/\dP (λ_=>True) w pl (NP es)/\∀w,yd K w es t.cD:=by
 obtain⟨F,B⟩:=h.st
 obtain⟨es,B⟩:=B.dU;obtain⟨J,B⟩:=B.lq
 obtain⟨G,B⟩:=B.dU;obtain⟨E,B⟩:=B.dU;obtain⟨rg,B⟩:=B.dU;obtain⟨pl,B⟩:=B.dU;obtain⟨I,B⟩:=B.lq
 replace B:=JU B
 exact⟨G,E,rg,pl,es,I,B.hb,Dt B.p1,B.p2.fc,B.p3.fc,J⟩
theorem Sk.split:∀{ps:List Ptr}{l:List kG}{R:List HP},St w0 A (gH (uQ K room) ps l::R) w->∃es:List PE,es.length=l.length/\St w0 A (gH (alZ K room) ps (l.zip es)::ep (λw=>∀q∈l.zip es,yd K w q.2 q.1.cD)::R) w
 | [],[],R,B=>⟨[],rfl,(B.drop.fw (Φ:=λw=>∀q∈([]:List kG).zip ([]:List PE),yd K w q.2 q.1.cD) λw q E=>by cases E).tQ⟩
 | [],_::_,R,B=>by have:=B.gh;simp at this
 | _::_,[],R,B=>by have:=B.gh;simp at this
 | s::ps,t::l,R,B=>by
  obtain⟨e,h1⟩:=Oz.split (St.split B)
  obtain⟨es,G,h2⟩:=Sk.split h1.p2
  refine⟨e::es,by rw[qb,qb,G],?_⟩
  have h3:=(St.join h2.p2).p1.p2.fu.cS (Ψ:=λw=>∀q∈(t::l).zip (e::es),yd K w q.2 q.1.cD) λw h q E=>by
   rw[XG]at E
   rcases ta.1 E with rfl|E
   .exact h.1
   .exact h.2 q E
  exact h3.p1
theorem Sk.join(E:∀w,K2 w->K w):∀{ps:List Ptr}{l:List (kG×PE)}{R:List HP},(∀q∈l,∀w,yd K2 w q.2 q.1.cD)->St w0 A (gH (alZ K room) ps l::R) w->St w0 A (gH (Sj K2 room) ps (l.map P1)::R) w
 | [],[],R,_,B=>B.drop.tQ
 | [],_::_,R,_,B=>by have:=B.gh;simp at this
 | _::_,[],R,_,B=>by have:=B.gh;simp at this
 | s::ps,t::l,R,h,B=>by
  have h1:=Oz.join E (St.split B)
  have h2:St w0 A (Sj K2 room s t.1::_) w:=St.dX t.2 (St.nx (h t (qs ..)) h1)
  exact St.join (Sk.join E (λq G=>h q (so _ G)) h2.p1).p1
theorem al0.ZP:∀{ps:List Ptr}{l:List kG}{R:List HP},St w0 A (gH (Sj K room) ps l::R) w->St w0 A (gH (uQ K room) ps l::R) w
 | [],[],R,B=>B.drop.tQ
 | [],_::_,R,B=>by have:=B.gh;simp at this
 | _::_,[],R,B=>by have:=B.gh;simp at this
 | s::ps,t::l,R,B=>by
  have h1:St w0 A (uQ K room s t::_) w:=OA.ZP (St.split B)
  exact St.join (al0.ZP h1.p1).p1
theorem zip_fst{α β:Type}:∀{l:List α}{es:List β},es.length=l.length->(l.zip es).map P1=l
 | [],_,_=>rfl
 | x::l,[],h=>by cases h
 | x::l,e::es,h=>by rw[XG,List.map_cons,zip_fst (by simpa using h)]
theorem FB.open(B:St w0 A (FB K p m::R) w):∃a,DUK K a m/\St w0 A (bU p (mi a m)::fE a.q a.ov a.fv m.mem::bG a.ow m.fC::bG a.ll a.ps::gH (Sj K m.room) a.ps m.l::R) w:=by
 obtain⟨a,B⟩:=B.dU;obtain⟨E,B⟩:=B.lq;exact⟨a,E,ye B⟩
theorem FB.ZP(B:St w0 A (FB K p m::R) w):St w0 A (gd K p m::R) w:=by
 obtain⟨a,E,B⟩:=FB.open B
 exact gd.shut E (al0.ZP B.p4).p4.p4.p4.p4
theorem gd.share(G:St w0 A (gd K p m::R) w):∃F,St w0 A (FB (λw'=>K w'/\kp F w w') p m::ep (kp F w)::R) w:=by
 obtain⟨a,B,G⟩:=gd.open G
 obtain⟨es,O,h1⟩:=Sk.split G.p4
 obtain⟨F,h2,J⟩:=h1.p1.Rl
 have h3:=Sk.join (K2:=λw'=>K w'/\kp F w w') (λw h=>h.1) (λq M=>yd.share λw' h=>J w' h q M) h2.p1
 rw[zip_fst O]at h3
 have E:DUK (λw'=>K w'/\kp F w w') a m:=by
  obtain⟨I,h4,h5⟩:=B.rc
  exact⟨λw h=>B.pr w h.1,λw h=>B.cs w h.1,λw h=>B.ks w h.1,λw h=>B.mem w h.1,⟨I,λw h=>h4 w h.1,h5.mono λw h=>h.1⟩⟩
 exact⟨F,(St.dX a (St.nx E (yf h3.p5.p5.p5.p5)):St w0 A (FB (λw'=>K w'/\kp F w w') p m::_) w)⟩
structure apO(K:iD)(w:World)(p:Nat)(m:j4)(a:DA):Prop where
 uk:DUK K a m
 b:oR w p (mi a m)
 mem:vS w a.q m.mem
 ow:dP (λ_=>True) w a.ow m.fC
 ll:dP (λ_=>True) w a.ll a.ps
 th:∀(i:Nat) (s:Ptr) (t:kG),a.ps[i]?=some s->m.l[i]?=some t->Has (OA K s.b m.room t) w
 len:a.ps.length=m.l.length
 c:Cell w a.q 0 a.ov/\Cell w a.q 1 a.fv
theorem FB.rd(h:Has (FB K p m) w)(G:K w):∃a,apO K w p m a:=by
 obtain⟨F,B⟩:=h.st
 obtain⟨a,E,B⟩:=FB.open B
 have hc:Cell w a.q 0 a.ov/\Cell w a.q 1 a.fv:=by
  obtain⟨lv,kv,pm,h⟩:=fE.open B.p1;exact⟨h.hb.cell rfl,h.hb.cell rfl⟩
 exact⟨a,E,B.hb,xY B.p1 (E.mem _ G),B.p2.fc,B.p3.fc,λi s t h1 h2=>B.p4.ag0 h1 h2 (Φ:=λw=>Has (OA K s.b m.room t) w) λh=>⟨_,h⟩,B.p4.gh,hc⟩
end
def C61(K:iD)(p:Nat)(m:j4)(w:World)(hm:Has (FB K p m) w)(hw:∀w',Ext w w'->K w')(Z:rU m)(qy:MB m.mem 1000000):CR 61 [.pointer (some ⟨p,0,none⟩)] w (λv w'=>∃b,v=.pointer (some ⟨b,0,none⟩)/\mf (gd K b m) w w'):=by
 obtain⟨a,E⟩:=FB.rd hm (hw _ (Ext.refl _));obtain⟨A5,Cm⟩:=E.c;have WQ:=E.b.cell (o:=9) rfl;have Ce:=E.b.cell (o:=10) rfl;have Bh:=E.b.cell (o:=11) rfl;have hlen:=E.len;have J4:=Z.tl;have how:=Z.ow;have av6:(cR m.p).length<=500:=by unfold cR;rw[oi];exact Z.pz.locks
 obtain⟨ovs,W⟩:=((E.uk.mem _ (hw _ (Ext.refl _))).1).fK;obtain⟨U,Y⟩:=((E.uk.mem _ (hw _ (Ext.refl _))).2).fK;rw[W]at A5;rw[Y]at Cm;have B:=St.start w;refine pG Tryz.func61 (pl:=P61) ?_;refine aD (tz ajV E.b rfl (aJ B agJ λb3 _ B=>ry (vs:=mi a m) B ajV rfl et (Vb E.ow.one E.ll.one) λ_ B=>have B:=B.enc (cs':=mi a m) rfl;aD (aA my (have B:=B.drew;bN mT (WQ.ext B.aG) (aD (aA pL (bN eD (Ce.ext B.aG) (eC aqU (C128 a.q m.mem ovs U _ (A5.ext B.aG) (Cm.ext B.aG) (E.mem.ext B.aG) Z.mem qy) ?_))))))));rintro _ _ ⟨b2,rfl,M⟩
 have B:=B.made M;refine⟨aF eD (Ce.ext B.aG),?_⟩;refine cW yq B (C117 _ m.fC _ (E.ow.ext B.aG) cU) (λJ _ M B=>aA my (aO B.p2 mT (ei rfl) rfl λwz34 B=>aA pL (aO B eD (ei rfl) B.p1.fc.one λwz36 B=>aA lF (aO B tC (ei rfl) rfl λwz38 B=>aD (aA lF (bN tC (Bh.ext B.aG) (aK uY (E.ll.ext B.aG) ?_)))))));have B:=((((((B.tQ (H:=uQ K m.room)).eU (α:=Ptr)).p4).p4).p3).p3).p4;refine⟨λmm y w'=>∃(j:Nat) (SC:Value) (G:List Ptr),y=iE (j:Int)/\mm=a.ps.length-j/\j<=a.ps.length/\St w bE [bU b3 (mi {a with q:=b2,ow:=J,ll:=SC} m),bG SC G,gH (uQ K m.room) G (m.l.take j),bG J m.fC,fE b2 (jj ovs) (jj U) m.mem] w',⟨_,0,.slice none 0 0,[],rfl,rfl,ob _,B⟩,?_⟩
 rintro mm _ _ ⟨j,SC,G,rfl,rfl,hj1,B⟩ _;refine aV (aC (λc1=>?_) λc1=>?_);rotate_left
 .rw[mH cU,<- W,<- Y]at B;have B:=B.p2.p2.p3.p4.p4;exact⟨b3,rfl,(gd.shut (m:=m) (a:={a with q:=b2,ow:=J,ll:=SC,ps:=G}) ⟨E.uk.pr,E.uk.cs,E.uk.ks,E.uk.mem,E.uk.rc⟩ B).fresh⟩
 obtain⟨e,he⟩:=gx a.ps (i:=((j:Nat):Int).toNat) cU;obtain⟨t,ht⟩:=gx m.l (i:=j) cU;have V:=Z.th t (ml ht);have xD:=V.bl;have hnb:=V.nb;have hrgl:=V.rl;have hpl1:=AV V.p;have F9:=V.cl;obtain⟨bp,nv,rg,pl,es,hk,nI,hB,Gd,Jr,DJ⟩:=OA.rd (E.th j e t he ht);have hesl:=(DJ w).len;have WO:=nI.cell (o:=0) rfl;have O:=nI.cell (o:=2) rfl;have I:=nI.cell (o:=3) rfl;refine aW uY (E.ll.ext B.aG) cU he (λq30 h30=>aE FN h30 (aD (tz ajW (oR.ext nI B.aG) rfl (aJ B agK λb6 _ B=>ry (vs:=ri bp nv rg pl t.fault) B ajW rfl et (Si Gd.one Jr.one) λ_ B=>have B:=B.enc (cs':=ri bp nv rg pl t.fault) rfl;aD (aA nk (have B:=B.drew;bN sj (WO.ext B.aG) (aD (aA wv (bN eD (O.ext B.aG) (aD ?_))))))))))
 refine aA js (bN pN (I.ext B.aG) (eC aqV (C129 bp m.room t.buf _ (hB.ext B.aG) cU) ?_));rintro _ _ ⟨bq,rfl,M⟩;have B:=B.made M;refine⟨aF eD (O.ext B.aG),?_⟩;refine⟨aF pN (I.ext B.aG),?_⟩;refine cW yq B (C117 _ t.aS _ (Gd.ext B.aG) cU) (λx44 _ M B=>?_);refine⟨aF pN (I.ext B.aG),?_⟩;refine cW axz B (C130 _ (NP es) _ (Jr.ext B.aG) (by rw[rh];omega)) (λx49 _ M B=>aA nk (aO B.p3 sj (ei rfl) rfl λwz101 B=>aA wv (aO B eD (ei rfl) B.p2.fc.one λwz103 B=>aA js (aO B pN (ei rfl) B.p1.fc.one λwz105 B=>?_))))
 have B:=B.fw (Φ:=λw=>yd K w es t.cD/\True) (λw'=>⟨DJ w',trivial⟩);have B:=eP.shut (Φ:=λ_=>True) (t:=t) (room:=m.room) (es:=es) hk B.p2.p3.p4.p4;have mM:=B.p3.gh;rw[n0]at mM;refine aA lF (aB tC B.p1.hb rfl (bV ([(⟨b6⟩:Ptr)]) B uY rfl rfl (ei rfl) λs55 _ B=>?_));have aEy:=B.fc;exact cK B.p3 uY aEy (by simp;omega) er (λs56 _ B=>have B:=B.p1.drop;aA lF (aO B.p2 tC (ei rfl) B.fc.one λ_ B=>have B:=(((((St.CX (H:=uQ K m.room) (p:=⟨b6⟩) (x:=t) B.p2.p3).p4).p4).p2).p4).p4;aR cU ⟨_,cU,j+1,s56,G++[⟨b6⟩],rfl,rfl,cU,by rw[<- gI (k:=j) ht];exact B⟩))
def ZQ(x y:bZ):tB (jl x) (jl y)=decide (x=y):=by
 obtain⟨a,b,c,d,e⟩:=x
 obtain⟨a2,b2,B,d2,E⟩:=y
 rw[show tB (jl (⟨a,b,c,d,e⟩:bZ)) (jl (⟨a2,b2,B,d2,E⟩:bZ))=(decide (a=a2)&&(decide (b=b2)&&(decide (c=B)&&(decide (d=d2)&&(decide (e=E)&&true)))))from rfl]
 grind
def apP(x y:fU):tB (jl x) (jl y)=decide (x=y):=by
 obtain⟨a,b,c,d,e⟩:=x
 obtain⟨a2,b2,B,d2,E⟩:=y
 rw[show tB (jl (⟨a,b,c,d,e⟩:fU)) (jl (⟨a2,b2,B,d2,E⟩:fU))=(decide (a=a2)&&(decide (b=b2)&&(decide (c=B)&&((d == d2)&&((e == E)&&true)))))from rfl]
 grind
def XU(a0:Int):pr hZ (mZ 67 [(0,iE a0)].toArray)=some (.agg [iE a0,iE 0,iE 0,.slice none 0 0].toArray):=by kernel_rfl
section
variable {α σ:Type}[Flat σ] [Deep α σ] {w:World}
theorem al1{t:σ}{x:α}{ts:List σ}{xs:List α}(h:n4 w t x)(g:jx ts xs w):jx (t::ts) (x::xs) w:=by
 grind[jx]
end
def pk0(w:World)(a b c:Int):n4 w (⟨a,b,c,bO⟩:cY) (⟨a,b,c,[]⟩:cC):=⟨_,rfl,DL.nil w⟩
theorem e0(w:World){B:SV}(a b c:Int){l:List Int}(h:dP (λ_=>True) w (jj B) l):n4 w (⟨a,b,c,B⟩:cY) (⟨a,b,c,l⟩:cC):=⟨_,rfl,DL.fP h⟩
def al2(t:ByteArray):Bool:=match yK t with
 | some r=>decide (r.1.length<=5000)&&r.1.all (λx=>decide (0<=x.at_/\x.at_<=1000000/\x.text.size<=1000000))
 | none=>false
def ajp{t:ByteArray}(h:al2 t=true):∀l e a,yK t=some (l,e,a)->jE l:=by
 intro l e a B
 unfold al2 at h
 rw[B]at h
 simp only[n3,decide_eq_true_eq,List.all_eq_true]at h
 exact⟨h.1,λx E=>h.2 x E⟩
end Go.Proofs.YtdncbeepkacgbaaGreatDoor

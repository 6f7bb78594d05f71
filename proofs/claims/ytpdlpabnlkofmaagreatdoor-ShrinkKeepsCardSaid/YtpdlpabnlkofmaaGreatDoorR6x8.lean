/-
  Part 8.
-/
import Derived.Test.YtpdlpabnlkofmaaGreatDoorR6x7
set_option maxHeartbeats 8000000
set_option linter.all false
set_option maxRecDepth 100000
open Go.Fw.Flat renaming val->ir,enc->j0,sz->mA
open ByteArray renaming mk->kp
open List renaming getElem?_eq_some_iff->kB,mem_of_getElem?->kE,take_of_length_le->kO,length_append->lr,length_take->l1,length_singleton->l2,length_map->nc,append_assoc->nK,getD_eq_getElem?_getD->n3,mem_map->ob,length_cons->oi,append_nil->oO,drop_eq_getElem_cons->sk,nil_append->vK,eraseIdx_eq_take_drop_succ->wx,drop_eq_nil_iff->Cz,drop_of_length_le->CB,mem_of_mem_eraseIdx->Lq
open Nat renaming zero_le->l0,le_refl->o6,zero_add->u4,le_trans->vt,le_of_eq->AH,lt_succ_self->MH,not_lt_zero->Nn
open Go.Fw.Deep renaming dr->mi,ext->Nk
open Go.Instr renaming build->mv,sliceAt->n0,box->Ae,field->aaT
open Go.Value renaming int->nG,slice->yZ,tuple->EI
open Bool renaming and_eq_true->n4,true_and->Av
open Int renaming toNat_natCast->pd,le_refl->Ns,emod_lt_of_pos->YU,emod_nonneg->aaX
open Decidable renaming not_not->u1
namespace Go.Proofs.YtpdlpabnlkofmaaGreatDoor
open Go.Fw
def agH(m:gl)(t:kc)(i:Int)(x:bR):(eo m t i x).1.cA=m.cA:=by
 unfold eo
 repeat' split
 all_goals first|rfl|(unfold sg;split<;>rfl)
theorem acD(m:gl)(i:Int):(iI m i).1.cA=m.cA:=by
 unfold iI
 repeat' split
 all_goals first|rfl|exact agH _ _ _ _
def anf(m:gl)(q:aS):m.cA<=(nf m q).1.cA/\(nf m q).1.cA<=m.cA+1:=by
 unfold nf
 split
 .show m.cA<=m.cA+1/\m.cA+1<=m.cA+1;omega
 split
 .split
  .split<;>(show m.cA<=m.cA/\m.cA<=m.cA+1)<;>omega
  show m.cA<=(iI m q.t).1.cA/\(iI m q.t).1.cA<=_;rw[acD];omega
 grind
structure xh(p:bZ)(n:Nat)(m:gl):Prop where
 ok:m4 m
 pr:m.p=p
 mb:MB m.mem n
 cr:0<=m.cA/\m.cA<=n
def xh.step{p:bZ}{n:Nat}{m:gl}{q:aS}(h:xh p n m)(hc:Hl p):xh p (n+1) (nf m q).1:=by
 obtain⟨h1,h2,h3⟩:=amr (q:=q) h.ok (h.pr▸hc)
 have h4:=anf m q
 have h5:=h.cr
 exact⟨h1,h2.trans h.pr,h3 _ h.mb,cO,cO⟩
def xh.new{p:bZ}{room:Int}(B:PZ p)(hc:Hl p)(u:1<=room/\room<=16):xh p 0 (gj p room):=
 ⟨agh B hc u,rfl,λk=>AH rfl,Ns 0,Ns 0⟩
def agI(m:gl)(t:kc)(x:bR):(sg m t x).mem.eg=m.mem.eg:=by
 unfold sg;split
 .exact uM _ _ _
 rfl
def agJ(m:gl)(t:kc)(i:Int)(x:bR):(eo m t i x).1.mem.eg=m.mem.eg:=by
 unfold eo
 repeat' split
 all_goals first|rfl|exact agI _ _ _
def acE(m:gl)(i:Int):(iI m i).1.mem.eg=m.mem.eg:=by
 unfold iI
 repeat' split
 all_goals first|rfl|exact agJ _ _ _ _
def Sc{m:gl}(u:m4 m)(q:aS):(nf m q).1.mem.eg=m.mem.eg:=by
 unfold nf
 split
 .rfl
 split
 .split
  .split
   .exact(Jb u.mem).2.2
   rfl
  exact acE _ _
 rfl
def rI(c:Int):gl->List cD->List aS->gl×List cD×Int
 | m,o,[]=>(m,o,0)
 | m,o,q::r=>if q.kind=3/\c<=m.cA then(m,o,14)else if (nf m q).2.2≠0 then((nf m q).1,o,(nf m q).2.2)else rI c (nf m q).1 (o++[(nf m q).2.1]) r
def ep(p:bZ)(room c:Int):Int:=if fg p≠0 then fg p else if room<1\/16<room then 1 else if c<0\/8<c then 1 else 0
def agK(x y:aI)(h:j0 x=j0 y):x=y:=by
 obtain⟨a,b,c,⟨d,n,k⟩⟩:=x
 obtain⟨G,b2,u,⟨I,B,E⟩⟩:=y
 simp[j0,ir]at h
 simp[h]
def agL(x y:bF)(h:j0 x=j0 y):x=y:=by
 obtain⟨a,b,c,⟨d,n,k⟩,⟨G,I,O⟩,e,f,g,i⟩:=x
 obtain⟨M,b2,V,⟨d2,u,Z⟩,⟨W,U,J⟩,B,Y,E,i2⟩:=y
 simp[j0,ir]at h
 simp[h]
def agM(x y:cL)(h:j0 x=j0 y):x=y:=by
 obtain⟨a,⟨d,n,k⟩,⟨E,G,M⟩,e⟩:=x
 obtain⟨J,⟨W,u,V⟩,⟨U,O,I⟩,B⟩:=y
 simp[j0,ir]at h
 simp[h]
def Cf.of{B:Nat->Prop}{w:World}{lv:SV}{rB:List cR}(h:∀w',kK B w w'->DL w' (ir lv) rB):Cf (kK B w) lv rB:=by
 obtain⟨W,Y,ht⟩:=kK.fix agM h
 refine⟨W,λw' u=>(ht w' u).1,Y,λj E t h1 h2=>?_⟩
 have hd:∀w',kK B w w'->mi w' E t:=λw' u=>(ht w' u).2.2 j E t h1 h2
 obtain⟨G,I,rfl,_,_⟩:=hd w (kK.refl _ _)
 have M:∀w',kK B w w'->DL w' (ir G) t.dY/\DL w' (ir I) t.body:=λw' u=>by
  obtain⟨V,U,e,h4,h5⟩:=hd w' u
  grind
 obtain⟨rows,_,J⟩:=kK.fix agL λw' u=>(M w' u).2
 exact⟨G,I,rows,rfl,λw' u=>DL.flat (M w' u).1,λw'=>⟨λO u=>(J O u).2,λu=>(J w' u).1⟩⟩
def G9.of{B:Nat->Prop}{w:World}{pv:bO}{p:bZ}(h:∀w',kK B w w'->mi w' pv p):G9 (kK B w) pv p:=by
 obtain⟨I,O,J,G,E,U,rfl,_⟩:=h w (kK.refl _ _)
 have hd:∀w',kK B w w'->DL w' (ir G) p.threads/\DL w' (ir E) p.recover:=λw' u=>by
  obtain⟨Z,V,Y,M,a4,W,e,_,_,_,h4,h5,_⟩:=h w' u
  grind
 exact⟨h,Cf.of λw' u=>(hd w' u).1,Cf.of λw' u=>(hd w' u).2⟩
def Cf.mono{K K2:hM}{lv:SV}{rB:List cR}(h:Cf K lv rB)(u:∀w,K2 w->K w):Cf K2 lv rB:=by
 obtain⟨B,h1,h2⟩:=h
 exact⟨B,λw E=>h1 w (u w E),h2.mono u⟩
def G9.mono{K K2:hM}{pv:bO}{p:bZ}(h:G9 K pv p)(u:∀w,K2 w->K w):G9 K2 pv p:=⟨λw B=>h.pr w (u w B),h.th.mono u,h.rc.mono u⟩
def Ha(K:hM)(lv:Value)(l:List aS):Prop:=∃ts:List aI,∀w,K w->dD (λ_=>True) w lv ts/\fT ts l w
def Ha.of{u:Nat->Prop}{w:World}{lv:Value}{l:List aS}(h:∀w',kK u w w'->DL w' lv l):Ha (kK u w) lv l:=by
 obtain⟨ts,_,ht⟩:=kK.fix agK h
 exact⟨ts,ht⟩
def Ha.mono{K K2:hM}{lv:Value}{l:List aS}(h:Ha K lv l)(u:∀w,K2 w->K w):Ha K2 lv l:=by
 obtain⟨ts,h1⟩:=h
 exact⟨ts,λw B=>h1 w (u w B)⟩
def Ha.nil(K:hM):Ha K (.slice none 0 0) []:=⟨[],λw _=>⟨dD.nil _ _,fT.nil⟩⟩
def xh.mono{p:bZ}{a b:Nat}{m:gl}(h:xh p a m)(u:a<=b):xh p b m:=⟨h.ok,h.pr,h.mb.mono u,by have:=h.cr;omega⟩
theorem DK{α:Type}{xs:List α}{k:Nat}{x:α}(h:xs[k]?=some x):xs.drop k=x::xs.drop (k+1):=by
 obtain⟨h1,h2⟩:=kB.1 h
 rw[sk h1,h2]
def vE(l:List Bool):Nat:=(l.takeWhile id).length
def zy(l:List Bool):Int:=if vE l<l.length then(vE l:Int)else -1
def agN{l:List Bool}{k:Nat}{b:Bool}(h:l[k]?=some b)(hb:b=true)(u:vE l=k+vE (l.drop k)):vE l=k+1+vE (l.drop (k+1)):=by
 rw[u,DK h,hb]
 show k+(vE (l.drop (k+1))+1)=_
 omega
def agO{l:List Bool}{k:Nat}{b:Bool}(h:l[k]?=some b)(hb:b=false)(u:vE l=k+vE (l.drop k)):zy l=k:=by
 have B:=(kB.1 h).1
 have e:vE l=k:=by rw[u,DK h,hb];rfl
 unfold zy
 omega
def agP{l:List Bool}{k:Nat}(h:l.length<=k)(u:vE l=k+vE (l.drop k)):zy l = -1:=by
 unfold zy
 omega
def oQ(m:gl):Int×Int:=if m.fault≠0 then(3,m.fault)else if m7 m=true then(4,0)else if lM m=true then(if 0<=zy (fq m)then(2,zy (fq m))else(1,0))else(0,0)
def zz(m:gl):aS:=⟨(oQ m).1,(oQ m).2,m.cA,m.mem.l.take (eH m.p).toNat⟩
section
variable {m:gl}
theorem acF(h:m.fault≠0):oQ m=(3,m.fault):=by unfold oQ;grind
theorem acG(h:¬ m.fault≠0)(h2:m7 m=true):oQ m=(4,0):=by unfold oQ;grind
theorem acH(h:¬ m.fault≠0)(h2:m7 m=false)(h3:lM m=true)(h4:0<=zy (fq m)):oQ m=(2,zy (fq m)):=by grind[oQ,zy,fq]
theorem acI(h:¬ m.fault≠0)(h2:m7 m=false)(h3:lM m=true)(h4:¬ 0<=zy (fq m)):oQ m=(1,0):=by grind[oQ]
theorem acJ(h:¬ m.fault≠0)(h2:m7 m=false)(h3:lM m=false):oQ m=(0,0):=by grind[oQ]
end
def zE:aS:=⟨0,0,0,[]⟩
def dN(p:bZ)(room c:Int)(l:List aS):aS×List cD×Int×Int:=
 if ep p room c≠0 then(zE,[],ep p room c,0)
 else if (rI c (gj p room) [] l).2.2≠0 then(zE,[],(rI c (gj p room) [] l).2.2,((rI c (gj p room) [] l).2.1.length:Int))
 else(zz (rI c (gj p room) [] l).1,(rI c (gj p room) [] l).2.1,0,0)
theorem Hb{p:bZ}{room c:Int}{l:List aS}(h:ep p room c≠0):dN p room c l=(zE,[],ep p room c,0):=by unfold dN;grind
theorem acK{p:bZ}{room c:Int}{l:List aS}(h:ep p room c=0)(h2:(rI c (gj p room) [] l).2.2≠0):dN p room c l=(zE,[],(rI c (gj p room) [] l).2.2,((rI c (gj p room) [] l).2.1.length:Int)):=by grind[dN,zE,rI,gj]
theorem Sd{p:bZ}{room c:Int}{l:List aS}(h:ep p room c=0)(h2:(rI c (gj p room) [] l).2.2=0):dN p room c l=(zz (rI c (gj p room) [] l).1,(rI c (gj p room) [] l).2.1,0,0):=by grind[dN,zz,rI,gj]
def tP(w:World):mi w (⟨0,0,0,bY⟩:aI) zE:=⟨_,rfl,DL.nil w⟩
def C72(K:hM)(p:Nat)(m:gl)(w:World)(G:Has (gG K p m) w)(J:∀w',Ext w w'->K w')(I:m4 m):CR 72 [.pointer (some ⟨p,0,none⟩)] w (λv w'=>kq (bE v m.mem.l) w w'):=by
 obtain⟨a,E⟩:=gG.rd G (J _ (Ext.refl _));have B:=E.b.cell (o:=9) rfl;have u:=St.start w;refine fj Tryz.func72 ?_;exact aE (aA ua (bN Mj (B.ext u.aG) (dV aoJ u (C144 a.q m.mem _ (E.mem.ext u.aG) I.mem) λ_ _ _ u=>u.fresh)))
def C172(sv:Value)(xs:List Bool)(w:World)(I:dD (λ_=>True) w sv xs)(W:xs.length<=1073741824):CR 172 [sv,.bool false] w (λv w'=>v=hZ (zy xs)/\Ext w w'):=by
 have u:=St.start w;refine fj Tryz.func172 ?_;refine aK u5 (I.ext u.aG) ?_;refine⟨λM y J=>∃k:Nat,y=hZ (k:Int)/\M=xs.length-k/\k<=xs.length/\vE xs=k+vE (xs.drop k)/\St w aX [] J,⟨_,0,rfl,rfl,l0 _,(u4 _).symm,u⟩,?_⟩;rintro M _ J ⟨k,rfl,rfl,U,G,u⟩ _;refine aR (aC (λV=>?_) λ_=>⟨g6 (nG .i64) (agP cO G).symm,u.aG⟩);obtain⟨e,B⟩:=gx xs (i:=((k:Nat):Int).toNat) cO;refine aQ u5 (I.ext u.aG) cO B (λq O=>aD A6 O (XU Mi ?_));rw[pd]at B;exact bD (λE=>⟨g6 (nG .i64) (agO B (by simpa using E) G).symm,u.aG⟩) (λE=>aO cO ⟨_,cO,k+1,rfl,rfl,cO,agN B (by simpa using E) G,u⟩)
def C70(K:hM)(p:Nat)(m:gl)(w:World)(hm:Has (gG K p m) w)(I:∀w',Ext w w'->K w')(B:m4 m)(AP:m.mem.eg=eV m.p):CR 70 [.pointer (some ⟨p,0,none⟩)] w (λv w'=>kq (bE v (fq m)) w w'):=by
 obtain⟨a,E⟩:=gG.rd hm (I _ (Ext.refl _));have J:=E.b.cell (o:=6) rfl;have U:=E.b.cell (o:=5) rfl;have jd:=rq m.p;have D1:m.mem.l.length=(iE m.p).length:=by rw[B.mem.ll,AP];unfold eV;grind
 have D6:(cX m.p).length=(iE m.p).length:=by unfold cX;grind
 have Vl:(iE m.p).length<=20:=by have:=B.mem.fl;have:=B.mem.ll;omega
 have hcb:=B.pz.eb;have hcz:=B.pz.zc;obtain⟨g0,g1,g2,g3,g4,g5,W,_,_,_,_,_,Is⟩:=E.uk.pr _ (I _ (Ext.refl _));rw[W]at U;obtain⟨G,DX,zT⟩:=Is.open;have W9:=zT.1;have u:=St.start w;refine ali _ _ _ ?_;unfold S70;refine aE (aA Em (qK a.pv er (nh.ext E.b u.aG) rfl (aW Z7 u (C54 m.p a.pv _ (E.uk.pr _ (I _ u.aG)) B.pz) λ_ he u=>aE (aA Em (aA jB (bN rz (U.ext u.aG) (aK tT (DX.ext u.aG) ?_)))))));refine⟨λmm o y w'=>∃k:Nat,y=hZ (k:Int)/\mm=G.length-k/\k<=G.length/\St w aX [bE o ((m.p.eb.take k).map (pQ m))] w',⟨_,0,rfl,rfl,l0 _,u.eK⟩,?_⟩
 rintro mm o _ _ ⟨k,rfl,rfl,hk,u⟩ _;refine aR (aC (λc1=>?_) λc1=>?_);rotate_left
 .rw[kO cO]at u;exact u.fresh
 obtain⟨ct,O⟩:=gx G (i:=((k:Nat):Int).toNat) cO;obtain⟨cl,V⟩:=gx m.p.eb (i:=((k:Nat):Int).toNat) cO;obtain⟨ge,rfl,PQ⟩:=zT.2 _ ct cl O V;have ane:=(hcz cl (kE V)).1;refine⟨λjv w'=>St w aX [bE jv ((m.p.eb.take (k+1)).map (pQ m))] w',?_,?_⟩;rotate_left
 .rintro o2 _ u _;exact aO cO ⟨_,cO,k+1,rfl,rfl,cO,u⟩
 refine aQ tT (DX.ext u.aG) cO O (λq hq=>aD JT hq (aN u PX λb6 _ u=>aJ (x:=(⟨ge,cl.at_⟩:jF)) u JT rfl rfl λ_ u=>have u:=u.drew;aA vQ (aB (v:=ir (ge:SV)) jC u.hb rfl (aE (aA JW (bN jq (J.ext u.aG) (jY iK (E.uk.cs _ (I _ u.aG)) cO cO λs32 Z=>dV aln u (C72 K p m _ (hm.ext u.aG) (λ_ e=>I _ (u.aG.then e)) B) λx34 _ cI u=>?_)))))));refine⟨aF jC (u.p1.hb.cell rfl),?_⟩;refine⟨aF jq (J.ext u.aG),?_⟩;refine ml cS u.dW cO cO (λs36 h36=>aW ahX u (C143 _ _ _ cl.e _ _ _ (DL.flat (PQ.ext u.aG)) (Z _ (E.uk.cs _ (I _ u.aG))) h36 ane (by rw[l1];omega)) λ_ he u=>aM rfl (aM rfl (aH ?_)))
 have M:pQ m cl=(decide ((qw ((cX m.p).take (eH m.p).toNat) (m.mem.l.take (eH m.p).toNat) cl.e).2=0)&&decide ((qw ((cX m.p).take (eH m.p).toNat) (m.mem.l.take (eH m.p).toNat) cl.e).1≠0)):=rfl;refine aC (λc2=>?_) (λc2=>?_)
 .refine bQ (aV (([pQ m cl]):List Bool) u u5 rfl (by rw[M,ez c2,Av];rfl) (dQ rfl) λs47 w7 u=>?_);have Sb:=u.dW;refine bI u.p3 u5 Sb (by rw[nc,l1,l2];omega) ee (λY w8 u=>?_);rw[<- gy (k:=k) V];exact u.p1.drop.p1.drop.p1.drop
 refine aV (([pQ m cl]):List Bool) u u5 rfl (by rw[M,fV c2,Bool.false_and];rfl) (dQ rfl) (λs47 w7 u=>?_);have Sb:=u.dW;refine bI u.p3 u5 Sb (by rw[nc,l1,l2];omega) ee (λY w8 u=>?_);rw[<- gy (k:=k) V];exact u.p1.drop.p1.drop.p1.drop
def C102(K:hM)(p:Nat)(m:gl)(pv:bO)(w:World)(U:Has (gG K p m) w)(O:∀w',Ext w w'->K w')(E:m4 m)(AP:m.mem.eg=eV m.p)(Y:mi w pv m.p):CR 102 [ir pv,.pointer (some ⟨p,0,none⟩)] w (λv w'=>∃ev:aI,v=ir ev/\kq (dZ λw=>mi w ev (zz m)) w w'):=by
 have jd:=rq m.p;have hcb:=E.pz.eb;have D1:m.mem.l.length=(iE m.p).length:=by rw[E.mem.ll,AP];unfold eV;grind
 have u:=St.start w;refine pj Tryz.func102 (pl:=aBK) ?_;refine cM (x:=pv) u (λb2 _ u=>aN u gu λb4 _ u=>have u:=u.enc (cs':=j0 (⟨0,0,0,bY⟩:aI)) rfl;aW alm u (C68 K p m _ (U.ext u.aG) (λ_ e=>O _ (u.aG.then e)) E) λ_ V u=>aN u yK λb5 _ u=>aJ (x:=jb m) u zH rfl rfl λ_ u=>?_);have u:=u.drew;refine⟨λZ w'=>∃(b6:Nat) (sv:SV),Z=.pointer (some ⟨b6,0,none⟩)/\St w aX [bW b6 (j0 (⟨0,0,m.cA,sv⟩:aI)),bE (ir (sv:SV)) (m.mem.l.take (eH m.p).toNat),bW b5 (j0 (jb m)),bW b4 (j0 (⟨0,0,0,bY⟩:aI)),bW b2 (j0 pv)] w',?_,?_⟩
 .refine aA Ml (aB (v:=hZ m.cA) bL u.hb rfl (aD er u.p2.At ⟨dV aln u (C72 K p m _ (U.ext u.aG) (λ_ e=>O _ (u.aG.then e)) E) (λx13 w6 cI u=>⟨aF bL (u.p1.hb.cell rfl),⟨eL er u.p3.At,⟨?_,?_,trivial⟩⟩⟩),?_,trivial⟩))
  .refine aW Z7 u (C54 m.p pv _ (Nk Y u.aG) E.pz) (λw7 V u=>?_);refine⟨aF bL (u.p1.hb.cell rfl),?_⟩;refine sQ cS u cO cO (λI u=>?_);obtain⟨sv,rfl⟩:=u.fN;refine pop (lC m.cA _ _ _) (aN u gu λb6 w8 u=>?_);refine⟨aF bL (u.p2.hb.cell rfl),?_⟩;refine⟨eL er u.p4.At,?_⟩;exact aJ (x:=(⟨0,0,m.cA,sv⟩:aI)) u eW rfl rfl (λ_ u=>⟨b6,_,rfl,u⟩)
  .refine aN u gu (λb6 w8 u=>?_);refine⟨aF bL (u.p2.hb.cell rfl),?_⟩;refine⟨eL er u.p4.At,?_⟩;refine aW Z7 u (C54 m.p pv _ (Nk Y u.aG) E.pz) (λw7 V u=>?_);refine⟨aF bL (u.p2.hb.cell rfl),?_⟩;refine sQ cS u.p1 cO cO (λI u=>?_);obtain⟨sv,rfl⟩:=u.fN;exact pop (lC m.cA _ _ _) (aJ (x:=(⟨0,0,m.cA,sv⟩:aI)) u.p1 eW rfl rfl λ_ u=>⟨b6,_,rfl,u⟩)
  refine aN u gu (λb6 w8 u=>?_);refine⟨aF bL (u.p1.hb.cell rfl),?_⟩;refine⟨eL er u.p3.At,?_⟩;refine dV aln u (C72 K p m _ (U.ext u.aG) (λ_ e=>O _ (u.aG.then e)) E) (λx13 w6 cI u=>?_);refine⟨aF bL (u.p2.hb.cell rfl),?_⟩;refine⟨eL er u.p4.At,?_⟩;refine aW Z7 u (C54 m.p pv _ (Nk Y u.aG) E.pz) (λw7 V u=>?_);refine⟨aF bL (u.p2.hb.cell rfl),?_⟩;refine sQ cS u cO cO (λI u=>?_);obtain⟨sv,rfl⟩:=u.fN;exact pop (lC m.cA _ _ _) (aJ (x:=(⟨0,0,m.cA,sv⟩:aI)) u.p1 eW rfl rfl λ_ u=>⟨b6,_,rfl,u⟩)
 rintro _ _ ⟨b6,sv,rfl,u⟩ _;refine dV az7 u (C70 K p m _ (U.ext u.aG) (λ_ e=>O _ (u.aG.then e)) E AP) (λx19 _ cI u=>aW auD u (C172 _ (fq m) _ u.dW (by unfold fq;rw[nc];omega)) λW V u=>?_);have u:=u.drop;refine⟨λw'=>St w aX [bW b6 (j0 (⟨(oQ m).1,(oQ m).2,m.cA,sv⟩:aI)),bE (ir (sv:SV)) (m.mem.l.take (eH m.p).toNat),bW b5 (j0 (jb m)),bW b4 (j0 (⟨0,0,0,bY⟩:aI)),bW b2 (j0 pv)] w',?_,?_⟩
 .refine aA A8 (aB (v:=hZ m.fault) bL u.p2.hb rfl (bQ (aC (λG=>?_) λG=>?_)))
  .rw[acF G];have u:=u.drew;refine aA A8 (aB (v:=hZ m.fault) bL u.p2.hb rfl (aA iW (aT u bL (dQ rfl) rfl λw20 u=>?_)));refine⟨aF bL (u.p2.hb.cell rfl),?_⟩;exact aA ox (aT u bL (dQ rfl) rfl λ_ u=>u)
  refine aA qQ (aB (v:=.bool (m7 m)) A6 u.p2.hb rfl (bD (λJ=>?_) λJ=>?_))
  .rw[acG G J];exact aA iW (aT u bL (dQ rfl) rfl λ_ u=>u)
  refine⟨λZ w'=>Z=.bool (lM m&&decide (0<=zy (fq m)))/\w'=W,?_,?_⟩
  .exact aA qP (aB (v:=.bool (lM m)) A6 u.p2.hb rfl (bD (λB=>cT ⟨vb (by rw[B,Av]),rfl⟩) λB=>⟨vb (by rw[B];rfl),rfl⟩))
  rintro _ _ ⟨rfl,rfl⟩ _;refine bD (λB=>?_) (λB=>?_)
  .rw[n4,decide_eq_true_iff]at B;rw[acH G J B.1 B.2];exact aA iW (aT u bL (dQ rfl) rfl λ_ u=>aA ox (aT u bL (dQ rfl) rfl λ_ u=>u))
  refine aA qP (aB (v:=.bool (lM m)) A6 u.p2.hb rfl (bD (λM=>?_) λM=>?_))
  .rw[M,Av,decide_eq_false_iff_not]at B;rw[acI G J M B];exact aA iW (aT u bL (dQ rfl) rfl λ_ u=>u)
  rw[acJ G J M];exact u
 rintro _ u _;exact aD (x:=(⟨(oQ m).1,(oQ m).2,m.cA,sv⟩:aI)) eW u.At (aJ (x:=(⟨(oQ m).1,(oQ m).2,m.cA,sv⟩:aI)) u.p3 eW rfl rfl λ_ u=>aD (x:=(⟨(oQ m).1,(oQ m).2,m.cA,sv⟩:aI)) eW u.At (have u:=u.drop.drop.p1.drop.p1.drop.freeze.dF (Ψ:=λw=>mi w (⟨(oQ m).1,(oQ m).2,m.cA,sv⟩:aI) (zz m)) (λ_ h=>⟨sv,rfl,DL.jZ h⟩);⟨_,rfl,u.fresh⟩))
def ai0(s:iv):pr hH (aaT 114 (ir s) 0)=some (hZ s.cA):=by
 obtain⟨a,b,c,d,e⟩:=s
 kernel_rfl
def C101(K:hM)(p:bZ)(pv:bO)(room c:Int)(lv:Value)(l:List aS)(w:World)(G:∀w',Ext w w'->K w')(hp:G9 K pv p)(hz:PZ p)(hl:Ha K lv l)(zp:l.length<=1000)(HL:∀q∈l,q.cut.length<=1000) :
  CR 101 [ir pv,hZ room,hZ c,lv] w (λv w'=>(ep p room c≠0/\v=.tuple #[.pointer none,.slice none 0 0,hZ (ep p room c)]/\Ext w w')\/
  (ep p room c=0/\∃(b:Nat) (X:hM) (ov:Value),v=.tuple #[.pointer (some ⟨b,0,none⟩),ov,hZ (rI c (gj p room) [] l).2.2]/\xh p 1000 (rI c (gj p room) [] l).1/\(rI c (gj p room) [] l).1.mem.eg=eV p/\kq (sep (gG (λw=>K w/\X w) b (rI c (gj p room) [] l).1) (sep (bE ov (rI c (gj p room) [] l).2.1) (dZ X))) w w')):=by
 have u:=St.start w;refine fj Tryz.func101 ?_;refine cM (x:=pv) u (λb4 _ u=>aD er u.At (dO as5 (C12 K p pv room _ (λ_ e=>G _ (u.aG.then e)) hp hz) ?_));rintro v21 w2 (⟨h1,rfl,V⟩|⟨W,h1,rfl,V⟩|⟨W,hr,b,X,rfl,cI⟩)
 .have u:=u.ext V;refine aM rfl (aM rfl (bQ (aC (λ_=>?_) λh=>absurd h1 h)));have e:ep p room c=fg p:=by unfold ep;rw[ew h1]
  rw[e];exact .inl ⟨h1,rfl,u.drop.aG⟩
 .have u:=u.ext V;refine aM rfl (aM rfl (bQ (aC (λ_=>?_) λh=>absurd (by decide:(1:Int)≠0) h)));have e:ep p room c=1:=by unfold ep;rw[ej (by rw[W];decide),ew h1]
  rw[e];exact .inl ⟨ee,rfl,u.drop.aG⟩
 have vJ:=pS W;have u:=(u.made cI).split;refine aM rfl (aM rfl (bQ (aC (λh=>absurd rfl h) λ_=>?_)));refine⟨λjv w'=>jv=.bool (decide (c<0\/8<c))/\w'=w2,?_,?_⟩
 .exact aR (aC (λh=>⟨vb (ez (.inl h)).symm,rfl⟩) λ_=>cQ ⟨vb (ga.2 cO),rfl⟩)
 rintro _ _ ⟨rfl,rfl⟩ _;refine aC (λh2=>?_) (λh2=>?_)
 .have e:ep p room c=1:=by unfold ep;rw[ej (by rw[W];decide),ej cO,ew h2]
  rw[e];exact .inl ⟨ee,rfl,u.drop.drop.drop.aG⟩
 have UG:ep p room c=0:=by unfold ep;rw[ej (by rw[W];decide),ej cO,ej h2]
 obtain⟨ts,Z⟩:=hl;have hn:ts.length=l.length:=(Z _ (G _ u.aG)).2.1
 have I:∀(k:Nat) (m:gl) (ov:Value) (out:List cD) (f:Int) (w':World),k<=l.length->xh p k m->m.mem.eg=eV p->(rI c (gj p room) [] l)=(m,out,f)->St w aX [bE ov out,gG (λw=>K w/\X w) b m,dZ X,bW b4 (j0 pv)] w'->
   (ep p room c≠0/\EI #[.pointer (some ⟨b,0,none⟩),ov,hZ f]=.tuple #[.pointer none,.slice none 0 0,hZ (ep p room c)]/\Ext w w')\/
   (ep p room c=0/\∃(b':Nat) (X:hM) (Y:Value),EI #[.pointer (some ⟨b,0,none⟩),ov,hZ f]=.tuple #[.pointer (some ⟨b',0,none⟩),Y,hZ (rI c (gj p room) [] l).2.2]/\xh p 1000 (rI c (gj p room) [] l).1/\(rI c (gj p room) [] l).1.mem.eg=eV p/\kq (sep (gG (λw=>K w/\X w) b' (rI c (gj p room) [] l).1) (sep (bE Y (rI c (gj p room) [] l).2.1) (dZ X))) w w'):=by
  intro k m ov out f w' hk B hf V u;rw[V];have u:=St.join u.p3.drop.p2.p1;exact .inr ⟨UG,b,X,ov,rfl,B.mono cO,hf,(St.join u.p1).fresh⟩
 refine aK fD (Z _ (G _ u.aG)).1 ?_
 refine⟨λmm o y w'=>∃(k:Nat) (m:gl) (out:List cD),y=hZ (k:Int)/\mm=ts.length-k/\k<=l.length/\out.length<=k/\xh p k m/\m.mem.eg=eV p/\(rI c (gj p room) [] l)=rI c m out (l.drop k)/\St w aX [bE o out,gG (λw=>K w/\X w) b m,dZ X,bW b4 (j0 pv)] w',
  ⟨_,0,gj p room,[],rfl,rfl,l0 _,o6 _,xh.new hz vJ hr,rfl,rfl,u.eK⟩,?_⟩
 rintro mm ov _ w4 ⟨k,m,out,rfl,rfl,hk,ho,B,AP,E,u⟩ _;refine aR (aC (λc1=>?_) λc1=>?_);rotate_left
 .rw[CB cO]at E;exact I k m ov out 0 w4 hk B AP E u
 obtain⟨q,hq⟩:=gx l (i:=k) cO;obtain⟨tq,Se⟩:=gx ts (i:=((k:Nat):Int).toNat) cO;have O:∀w',K w'->mi w' tq q:=λw' h=>(Z w' h).2.2 k tq q Se hq;obtain⟨M,rfl,_⟩:=O _ (G _ u.aG)
 have hgc:∀w',K w'->dD (λ_=>True) w' (ir M) q.cut:=λw' h=>by
  obtain⟨gc2,e,h3⟩:=O w' h;cases e
  exact DL.flat h3
 have hqc:=HL q (kE hq)
 have Q5:l.drop k=q::l.drop (k+1):=by
  obtain⟨h1,h2⟩:=kB.1 hq;rw[sk h1,h2]
 rw[Q5]at E;have nL:=B.mb.mono (b:=1000000) cO;have CD:=B.cr;refine aQ fD (Z _ (G _ u.aG)).1 cO Se (λq37 h37=>aD kj h37 (aN u E8 λb15 _ u=>aJ (x:=(⟨q.kind,q.t,q.i,M⟩:aI)) u kj rfl rfl λ_ u=>?_));refine⟨λjv w'=>jv=.bool (decide (q.kind=3/\c<=m.cA))/\St w aX [bW b15 (j0 (⟨q.kind,q.t,q.i,M⟩:aI)),bE ov out,gG (λw=>K w/\X w) b m,dZ X,bW b4 (j0 pv)] w',?_,?_⟩
 .exact aA mu (aB (v:=hZ q.kind) bL u.hb rfl (aH (aC (λJ=>aW alm u (C68 (λw=>K w/\X w) b m _ u.p2.has (λ_ e=>⟨G _ (u.aG.then e),(u.ext e).p3.dZ⟩) B.ok) λ_ _ u=>pop (ai0 (jb m)) (cT ⟨vb (ga.2 ⟨λh=>⟨J,h⟩,λh=>h.2⟩),u⟩)) λJ=>⟨vb (fV λh=>J h.1).symm,u⟩)))
 rintro _ w8 ⟨rfl,u⟩ _;refine aC (λJ=>?_) (λJ=>?_)
 .rw[rI,ew J]at E;exact I k m ov out 14 w8 hk B AP E u.drop
 rw[rI,ej J]at E;refine aD (x:=(⟨q.kind,q.t,q.i,M⟩:aI)) kj u.At (bG as3 u.p2 (H':=λ_=>gG (λw=>K w/\X w) b (nf m q).1) (Φ:=λv _=>v=.tuple #[ir (nf m q).2.1,hZ (nf m q).2.2]) (λF2 et ea=>?_) ?_)
 .exact C24 (λw=>K w/\X w) b m q M F2 _ et (λw' hc=>⟨G _ (ea w' hc).aG,(ea w' hc).p2.dZ⟩) B.ok (B.pr▸vJ) nL cO (λw' hc=>hgc _ (G _ (ea w' hc).aG)) hqc
 rintro _ _ rfl u;refine aM rfl (aM rfl (aN u mr λb16 _ u=>aJ (x:=(nf m q).2.1) u fr rfl rfl λw11 u=>bQ ?_));have Hi:=B.step (q:=q) vJ;have U:=(Sc B.ok q).trans AP;refine aC (λc3=>?_) (λc3=>?_)
 .rw[ew c3]at E;exact I (k+1) _ ov out _ w11 cO Hi U E u.drop.p1.drop.p1
 rw[ej c3]at E;refine aD (x:=(nf m q).2.1) fr u.At (aV [(nf m q).2.1] u PW rfl rfl (dQ rfl) λs64 _ u=>?_);have acO:=u.dW;refine bI u.p4 PW acO (by rw[l2];omega) ee (λs65 _ u=>aO cO ?_);refine⟨ts.length-(k+1),cO,k+1,_,out++[(nf m q).2.1],rfl,rfl,cO,by rw[lr,l2];omega,Hi,U,E,?_⟩;exact u.p1.drop.p1.drop.p2.drop
def C40(K:hM)(p:bZ)(pv:bO)(room c:Int)(lv:Value)(l:List aS)(w:World)(E:∀w',Ext w w'->K w')(J:G9 K pv p)(U:PZ p)(Z:Ha K lv l)(V:l.length<=1000)(O:∀q∈l,q.cut.length<=1000) :
  CR 40 [ir pv,hZ room,hZ c,lv] w (λv w'=>∃(ev:aI) (ov:Value),v=.tuple #[ir ev,ov,hZ (dN p room c l).2.2.1,hZ (dN p room c l).2.2.2]/\kq (sep (dZ λw=>mi w ev (dN p room c l).1) (bE ov (dN p room c l).2.1)) w w'):=by
 have u:=St.start w;refine fj Tryz.func40 ?_;refine cM (x:=pv) u (λb4 _ u=>aN u gu λb8 _ u=>have u:=u.enc (cs':=j0 (⟨0,0,0,bY⟩:aI)) rfl;aD er u.p1.At (dO auB (C101 K p pv room c lv l _ (λ_ e=>E _ (u.aG.then e)) J U Z V O) ?_));rintro M w3 (⟨h1,rfl,he⟩|⟨h1,b,X,ov,rfl,G,W,I⟩)
 .have u:=u.ext he;refine aM rfl (aM rfl (aM rfl (bQ (aC (λ_=>?_) λh=>absurd h1 h))));refine pop oP (aK PW (dD.nil (α:=cD) (λ_=>True) w) (aJ (x:=(⟨0,0,0,bY⟩:aI)) u eW rfl rfl λY u=>aD (x:=(⟨0,0,0,bY⟩:aI)) eW u.At ?_));rw[Hb h1];exact⟨_,_,rfl,(St.join ((u.drop.drop.eK (α:=cD)).fk (Φ:=λw=>mi w (⟨0,0,0,bY⟩:aI) zE) tP)).fresh⟩
 have u:=(((u.made I).split).p1.split);refine aM rfl (aM rfl (aM rfl (bQ (aC (λh2=>?_) λh2=>?_))))
 .refine pop oP (aK PW u.dW (aJ (x:=(⟨0,0,0,bY⟩:aI)) u.p3 eW rfl rfl λY u=>aD (x:=(⟨0,0,0,bY⟩:aI)) eW u.At ?_));rw[acK h1 h2];exact⟨_,_,rfl,(St.join ((u.drop.drop.drop.drop.drop.eK (α:=cD)).fk (Φ:=λw=>mi w (⟨0,0,0,bY⟩:aI) zE) tP)).fresh⟩
 have h3:(rI c (gj p room) [] l).2.2=0:=u1.1 h2;refine aD er u.p4.At (dO auC (C102 (λw=>K w/\X w) b (rI c (gj p room) [] l).1 pv _ u.p2.has (λ_ e=>⟨E _ (u.aG.then e),(u.ext e).p1.dZ⟩) G.ok (W.trans (by rw[G.pr])) (by rw[G.pr];exact J.pr _ (E _ u.aG))) ?_);rintro _ _ ⟨B,rfl,I⟩;have u:=u.made I;refine aJ (x:=B) u.p4 eW rfl rfl (λ_ u=>aD (x:=B) eW u.At ?_);rw[Sd h1 h3];exact⟨B,ov,rfl,(St.join u.drop.p2.drop.p2.drop.p2.drop).fresh⟩
variable (w:World) (K:Value->hM)
def S38(p0 jO O J:Value):Prop:=
 ry hH (Ae 27 p0) w λp4 a=>aL 63 a λb c=>lA 27 p4 c λd=>cF 13 [d,jO] c λe f=>xT e 0 λg=>xT e 1 λh=>bB .neq 31 h (i 0) λj=>cV j (eX hH (mv 63 [].toArray) λk=>
 sA 63 b k f λl=>lA 63 b l λr=>K (.tuple #[r,(.slice none 0 0),h,(i 0)]) l) (eQ (λZ=>bB .lss 3 O (i 0) λn=>cV n (Z tt f) (bB .gtr 3 O (i 8) λo=>
 Z o f)) (λp q=>∀_:Env,
 cV p (eX hH (mv 63 [].toArray) λs=>sA 63 b s q λt=>lA 63 b t λHt=>K (.tuple #[Ht,(.slice none 0 0),(i 1),(i 0)]) t) (bS 72 0 [] q λu v=>nP (λK2 E B x=>∀_:Env,
 lN 39 J λy=>bA .lss 3 B y λz=>cV z (eQ (λK3=>iA 39 J B λaa=>fA 50 aa 0 λab=>lA 3 ab x λac=>bB .eql 3 ac (i 3) λad=>cV ad (nC g λae=>fA 44 ae 2 λaf=>
 lA 3 af x λag=>bA .geq 3 ag O λah=>K3 ah x) (K3 ff x)) (λai M=>∀_:Env,
 cV ai (eX hH (mv 63 [].toArray) λak=>sA 63 b ak M λal=>lA 63 b al λLX=>K (.tuple #[LX,(.slice none 0 0),(i 14),B]) al) (iA 39 J B λam=>
 lA 50 am M λan=>cF 25 [g,an] M λW ap=>xT W 0 λaq=>xT W 1 λar=>aL 56 ap λG asx=>sA 56 G aq asx λU=>bB .neq 31 ar (i 0) λav=>cV av (eX hH (mv 63 [].toArray) λaw=>
 sA 63 b aw U λax=>lA 63 b ax λI=>K (.tuple #[I,(.slice none 0 0),ar,B]) ax) (lA 56 G U λay=>bS 72 1 [(0,ay)] U λaz a0=>aP 72 E az a0 λa1 a2=>
 bB .add 3 B (i 1) λa3=>K2 a1 a3 a2)))) (cF 97 [g] x λa4 a5=>sA 63 b a4 a5 λY=>lA 63 b Y λV=>K (.tuple #[V,E,(i 0),(i 0)]) Y)) λK2=>K2 u (i 0) v)))
theorem ani(p0 B u E:Value)(h:S38 w K p0 B u E):CR 38 [p0,B,u,E] w K:=
 qj 79 (λ_=>.nil) 3840 [.cell 8 63,.tmp 9,.tmp 10,.tmp 11] Tryz.func38 h
def P97:dM:=λi=>match i with
 | 2=>(.op 0 [] (.op 1 [] (.op 3 [] (.op 4 [] (.op 5 [] (.op 6 [] (.op 7 [] (.op 8 [] (.op 9 [] (.op 10 [] (.op 11 [] (.op 12 [] (.op 13 [] (.alt 2 [1,6,9,13] (.alt 14 [1,6,9] (.op 15 [] (.alt 16 [1] (.of [(17,[]),(18,[1,6,9,13]),(19,[])]) (.alt 18 [1,6,9,13] (.of [(16,[1]),(17,[]),(19,[])]) .stop))) (.alt 18 [1,6,9,13] (.of [(14,[1,6,9]),(15,[]),(16,[1]),(17,[]),(19,[])]) .stop)) (.alt 14 [1,6,9] (.op 15 [] (.alt 2 [1,6,9,13] (.alt 16 [1] (.of [(17,[]),(18,[1,6,9,13]),(19,[])]) (.alt 18 [1,6,9,13] (.of [(16,[1]),(17,[]),(19,[])]) .stop)) (.alt 18 [1,6,9,13] (.of [(2,[1,6,9,13]),(16,[1]),(17,[]),(19,[])]) .stop))) (.alt 18 [1,6,9,13] (.alt 2 [1,6,9,13] (.of [(14,[1,6,9]),(15,[]),(16,[1]),(17,[]),(19,[])]) (.alt 14 [1,6,9] (.of [(15,[]),(2,[1,6,9,13]),(16,[1]),(17,[]),(19,[])]) .stop)) .stop))))))))))))))))
 | _=>.nil
theorem auG:PL 38:=dR Tryz.func38
theorem auH:PL 97:=dR Tryz.func97
end Go.Proofs.YtpdlpabnlkofmaaGreatDoor
namespace Go.Proofs.YtpdlpabnlkofmaaGreatDoor
open Go.Fw
def Sf{p:bZ}(hc:Hl p):zo (eV p):=λv u=>by
 obtain⟨c,B,rfl⟩:=ob.1 u
 have h:iZ 4294967296 c=false:=by
  rcases List.mem_append.1 B with h1|h1
  .obtain⟨l,E,h2⟩:=List.mem_flatten.1 h1
   exact(hc.f.lines l E).2 c h2
  .exact hc.f.iY c h1
 unfold iZ at h
 simp only[Bool.or_eq_false_iff,decide_eq_false_iff_not]at h
 show -9223372036854775808<=c.n/\c.n<=9223372036854775807
 omega
def agR{p:bZ}{room:Int}(hc:Hl p):Ll (gj p room):=by
 have h:=Sf hc
 exact Ll.begin (m:=yo p room) ⟨h,h.take _,h,λk x u=>by cases u⟩
def wB(l:List Bool)(j:Nat):Int×Int:=if vE (l.drop j)<(l.drop j).length then(2,((j+vE (l.drop j):Nat):Int))else(1,0)
theorem anj{l:List Bool}{j:Nat}{b:Bool}(h:l[j]?=some b)(hb:b=false):wB l j=(2,(j:Int)):=by
 unfold wB
 rw[DK h,hb,ew (by show 0<_;simp)];rfl
theorem ank{l:List Bool}{j:Nat}{b:Bool}(h:l[j]?=some b)(hb:b=true):wB l j=wB l (j+1):=by
 have e:vE (l.drop j)=vE (l.drop (j+1))+1:=by rw[DK h,hb];rfl
 grind[wB]
theorem anl{l:List Bool}{j:Nat}(h:l.length<=j):wB l j=(1,0):=by grind[wB]
theorem anm{m:gl}(h:¬ m.fault≠0)(h2:m7 m=false)(h3:lM m=true):oQ m=wB (fq m) 0:=by
 unfold wB
 rw[List.drop_zero,u4]
 by_cases c:vE (fq m)<(fq m).length
 .rw[ew c]
  have e:zy (fq m)=vE (fq m):=by unfold zy;omega
  rw[acH h h2 h3 cO,e]
 rw[ej c]
 have e:zy (fq m) = -1:=by unfold zy;omega
 rw[acI h h2 h3 cO]
def C97(K:hM)(p:Nat)(m:gl)(w:World)(hm:Has (oh K p m) w)(hw:∀w',Ext w w'->K w')(O:m4 m)(hvo:Ll m)(AP:m.mem.eg=eV m.p):CR 97 [.pointer (some ⟨p,0,none⟩)] w (λv w'=>∃ev:aI,v=ir ev/\kq (dZ λw=>mi w ev (zz m)) w w'):=by
 obtain⟨a,B⟩:=oh.rd hm;have E:=B.b.cell (o:=8) rfl;have jd:=rq m.p;have hcb:=O.pz.eb;have aBE:m.mem.l.length=(iE m.p).length:=by rw[O.mem.ll,AP];unfold eV;grind
 have Vl:(iE m.p).length<=20:=by have:=O.mem.fl;have:=O.mem.ll;omega
 obtain⟨ov,fv,lv,kv,wv,ws,j6,G,hmo,hmf,D1,aul,hmw⟩:=B.mem.ex;have D6:(fq m).length<=1000000:=by grind[fq]
 have u:=St.start w;refine pj Tryz.func97 (pl:=P97) ?_;refine aN u gu (λb2 _ u=>have u:=u.enc (cs':=j0 (⟨0,0,0,bY⟩:aI)) rfl;aW aA2 u (C74 K p m _ (hm.ext u.aG) (λ_ e=>hw _ (u.aG.then e)) O) λ_ U u=>dV aA3 u (C75 K p m _ (hm.ext u.aG) (λ_ e=>hw _ (u.aG.then e)) O hvo AP) λW _ cI u=>aN u yK λb3 _ u=>aJ (x:=jb m) u zH rfl rfl λ_ u=>?_);have u:=u.drew;refine⟨λjv w'=>∃(J:Nat) (sv:SV),jv=.pointer (some ⟨J,0,none⟩)/\St w aX [bW J (j0 (⟨0,0,m.cA,sv⟩:aI)),bE (ir (sv:SV)) (m.mem.l.take (eH m.p).toNat),bW b3 (j0 (jb m)),bE W (fq m),bW b2 (j0 (⟨0,0,0,bY⟩:aI))] w',?_,?_⟩
 .refine aA Ml (aB (v:=hZ m.cA) bL u.hb rfl (aE (aA qH (bN pZ (E.ext u.aG) (aE (aA sH (bN ey ((G.cell (o:=2) rfl).ext u.aG) (aE (aA pq (qK a.pv er (nh.ext B.b u.aG) rfl ?_))))))))));refine⟨aV ([]:List Int) u cS rfl rfl (dQ rfl) (λY _ u=>⟨aF bL (u.p1.hb.cell rfl),⟨aF pZ (E.ext u.aG),⟨aF ey ((G.cell (o:=2) rfl).ext u.aG),⟨jE a.pv er (nh.ext B.b u.aG) rfl,⟨aW JI u (C62 m.p a.pv _ (B.uk.pr _ (hw _ u.aG)) O.pz) (λ_ U u=>⟨aF bL (u.p1.hb.cell rfl),⟨aF pZ (E.ext u.aG),⟨aF ey ((G.cell (o:=2) rfl).ext u.aG),ml cS D1 cO cO λV M=>⟨?_,?_,trivial⟩⟩⟩⟩),?_,trivial⟩⟩⟩⟩⟩),aW JI u (C62 m.p a.pv _ (B.uk.pr _ (hw _ u.aG)) O.pz) (λw23 U u=>⟨aF bL (u.hb.cell rfl),⟨aF pZ (E.ext u.aG),⟨aF ey ((G.cell (o:=2) rfl).ext u.aG),ml cS D1 cO cO λV M=>⟨aV ([]:List Int) u cS rfl rfl (dQ rfl) (λY w24 u=>⟨aF bL (u.p1.hb.cell rfl),⟨aF pZ (E.ext u.aG),⟨aF ey ((G.cell (o:=2) rfl).ext u.aG),⟨jE a.pv er (nh.ext B.b u.aG) rfl,⟨?_,?_,trivial⟩⟩⟩⟩⟩),?_,trivial⟩⟩⟩⟩),?_,trivial⟩
  .refine bI u cS (M.ext u.aG) (by rw[l1];simp;omega) ee (λI _ u=>?_);refine⟨aF bL (u.p1.hb.cell rfl),?_⟩;rw[vK]at u;obtain⟨sv,rfl⟩:=u.fN;refine pop (lC m.cA _ _ _) (aN u gu λJ _ u=>?_);refine⟨aF bL (u.p2.hb.cell rfl),?_⟩;refine⟨aF pZ (E.ext u.aG),?_⟩;refine⟨aF ey ((G.cell (o:=2) rfl).ext u.aG),?_⟩;refine⟨jE a.pv er (nh.ext B.b u.aG) rfl,?_⟩;exact aJ (x:=(⟨0,0,m.cA,sv⟩:aI)) u eW rfl rfl (λ_ u=>⟨_,_,rfl,u⟩)
  .refine aN u gu (λJ _ u=>?_);refine⟨aF bL (u.p2.hb.cell rfl),?_⟩;refine⟨aF pZ (E.ext u.aG),?_⟩;refine⟨aF ey ((G.cell (o:=2) rfl).ext u.aG),?_⟩;refine⟨jE a.pv er (nh.ext B.b u.aG) rfl,?_⟩;refine bI u.p1 cS (M.ext u.aG) (by rw[l1];simp;omega) ee (λI _ u=>?_);refine⟨aF bL (u.p2.hb.cell rfl),?_⟩;rw[vK]at u;obtain⟨sv,rfl⟩:=u.fN;exact pop (lC m.cA _ _ _) (aJ (x:=(⟨0,0,m.cA,sv⟩:aI)) u.p1 eW rfl rfl λ_ u=>⟨_,_,rfl,u⟩)
  .refine aN u gu (λJ _ u=>?_);refine⟨aF bL (u.p2.hb.cell rfl),?_⟩;refine⟨aF pZ (E.ext u.aG),?_⟩;refine⟨aF ey ((G.cell (o:=2) rfl).ext u.aG),?_⟩;refine⟨jE a.pv er (nh.ext B.b u.aG) rfl,?_⟩;refine aW JI u (C62 m.p a.pv _ (B.uk.pr _ (hw _ u.aG)) O.pz) (λw20 U u=>?_);refine⟨aF bL (u.p2.hb.cell rfl),?_⟩;refine⟨aF pZ (E.ext u.aG),?_⟩;refine⟨aF ey ((G.cell (o:=2) rfl).ext u.aG),?_⟩;refine ml cS D1 cO cO (λV M=>bI u.p1 cS (M.ext u.aG) (by rw[l1];simp;omega) ee λI w21 u=>?_)
   refine⟨aF bL (u.p2.hb.cell rfl),?_⟩;rw[vK]at u;obtain⟨sv,rfl⟩:=u.fN;exact pop (lC m.cA _ _ _) (aJ (x:=(⟨0,0,m.cA,sv⟩:aI)) u.p1 eW rfl rfl λ_ u=>⟨_,_,rfl,u⟩)
  .refine bI u cS (M.ext u.aG) (by rw[l1];simp;omega) ee (λI w25 u=>?_);refine⟨aF bL (u.p1.hb.cell rfl),?_⟩;rw[vK]at u;obtain⟨sv,rfl⟩:=u.fN;refine pop (lC m.cA _ _ _) (aN u gu λJ w26 u=>?_);refine⟨aF bL (u.p2.hb.cell rfl),?_⟩;refine⟨aF pZ (E.ext u.aG),?_⟩;refine⟨aF ey ((G.cell (o:=2) rfl).ext u.aG),?_⟩;refine⟨jE a.pv er (nh.ext B.b u.aG) rfl,?_⟩;exact aJ (x:=(⟨0,0,m.cA,sv⟩:aI)) u eW rfl rfl (λ_ u=>⟨_,_,rfl,u⟩)
  .refine aN u gu (λJ _ u=>?_);refine⟨aF bL (u.p2.hb.cell rfl),?_⟩;refine⟨aF pZ (E.ext u.aG),?_⟩;refine⟨aF ey ((G.cell (o:=2) rfl).ext u.aG),?_⟩;refine⟨jE a.pv er (nh.ext B.b u.aG) rfl,?_⟩;refine bI u.p1 cS (M.ext u.aG) (by rw[l1];simp;omega) ee (λI _ u=>?_);refine⟨aF bL (u.p2.hb.cell rfl),?_⟩;rw[vK]at u;obtain⟨sv,rfl⟩:=u.fN;exact pop (lC m.cA _ _ _) (aJ (x:=(⟨0,0,m.cA,sv⟩:aI)) u.p1 eW rfl rfl λ_ u=>⟨_,_,rfl,u⟩)
  .refine aN u gu (λJ _ u=>?_);refine⟨aF bL (u.p1.hb.cell rfl),?_⟩;refine⟨aF pZ (E.ext u.aG),?_⟩;refine⟨aF ey ((G.cell (o:=2) rfl).ext u.aG),?_⟩;refine⟨jE a.pv er (nh.ext B.b u.aG) rfl,?_⟩;refine aV ([]:List Int) u cS rfl rfl (dQ rfl) (λY _ u=>?_);refine⟨aF bL (u.p2.hb.cell rfl),?_⟩;refine⟨aF pZ (E.ext u.aG),?_⟩;refine⟨aF ey ((G.cell (o:=2) rfl).ext u.aG),?_⟩;refine⟨jE a.pv er (nh.ext B.b u.aG) rfl,?_⟩;refine bI u cS (M.ext u.aG) (by rw[l1];simp;omega) ee (λI _ u=>?_);refine⟨aF bL (u.p2.hb.cell rfl),?_⟩
   rw[vK]at u;obtain⟨sv,rfl⟩:=u.fN;exact pop (lC m.cA _ _ _) (aJ (x:=(⟨0,0,m.cA,sv⟩:aI)) u.p1 eW rfl rfl λ_ u=>⟨_,_,rfl,u⟩)
  refine aN u gu (λJ _ u=>?_);refine⟨aF bL (u.p1.hb.cell rfl),?_⟩;refine⟨aF pZ (E.ext u.aG),?_⟩;refine⟨aF ey ((G.cell (o:=2) rfl).ext u.aG),?_⟩;refine⟨jE a.pv er (nh.ext B.b u.aG) rfl,?_⟩;refine⟨?_,?_,trivial⟩
  .refine aV ([]:List Int) u cS rfl rfl (dQ rfl) (λY _ u=>?_);refine⟨aF bL (u.p2.hb.cell rfl),?_⟩;refine⟨aF pZ (E.ext u.aG),?_⟩;refine⟨aF ey ((G.cell (o:=2) rfl).ext u.aG),?_⟩;refine⟨jE a.pv er (nh.ext B.b u.aG) rfl,?_⟩;refine aW JI u (C62 m.p a.pv _ (B.uk.pr _ (hw _ u.aG)) O.pz) (λ_ U u=>?_);refine⟨aF bL (u.p2.hb.cell rfl),?_⟩;refine⟨aF pZ (E.ext u.aG),?_⟩;refine⟨aF ey ((G.cell (o:=2) rfl).ext u.aG),?_⟩;refine ml cS D1 cO cO (λV M=>bI u cS (M.ext u.aG) (by rw[l1];simp;omega) ee λI _ u=>?_)
   refine⟨aF bL (u.p2.hb.cell rfl),?_⟩;rw[vK]at u;obtain⟨sv,rfl⟩:=u.fN;exact pop (lC m.cA _ _ _) (aJ (x:=(⟨0,0,m.cA,sv⟩:aI)) u.p1 eW rfl rfl λ_ u=>⟨_,_,rfl,u⟩)
  refine aW JI u (C62 m.p a.pv _ (B.uk.pr _ (hw _ u.aG)) O.pz) (λ_ U u=>?_);refine⟨aF bL (u.p1.hb.cell rfl),?_⟩;refine⟨aF pZ (E.ext u.aG),?_⟩;refine⟨aF ey ((G.cell (o:=2) rfl).ext u.aG),?_⟩;refine ml cS D1 cO cO (λV M=>aV ([]:List Int) u cS rfl rfl (dQ rfl) λY _ u=>?_);refine⟨aF bL (u.p2.hb.cell rfl),?_⟩;refine⟨aF pZ (E.ext u.aG),?_⟩;refine⟨aF ey ((G.cell (o:=2) rfl).ext u.aG),?_⟩;refine⟨jE a.pv er (nh.ext B.b u.aG) rfl,?_⟩;refine bI u cS (M.ext u.aG) (by rw[l1];simp;omega) ee (λI _ u=>?_)
  refine⟨aF bL (u.p2.hb.cell rfl),?_⟩;rw[vK]at u;obtain⟨sv,rfl⟩:=u.fN;exact pop (lC m.cA _ _ _) (aJ (x:=(⟨0,0,m.cA,sv⟩:aI)) u.p1 eW rfl rfl λ_ u=>⟨_,_,rfl,u⟩)
 rintro _ _ ⟨J,sv,rfl,u⟩ _
 have Z:∀w',St w aX [bW b2 (j0 (⟨(oQ m).1,(oQ m).2,m.cA,sv⟩:aI)),bW J (j0 (⟨(oQ m).1,(oQ m).2,m.cA,sv⟩:aI)),bE (ir (sv:SV)) (m.mem.l.take (eH m.p).toNat),bW b3 (j0 (jb m)),bE W (fq m)] w'->∃ev:aI,ir (⟨(oQ m).1,(oQ m).2,m.cA,sv⟩:aI)=ir ev/\kq (dZ λw=>mi w ev (zz m)) w w':=λw' u=>by
  have u:=u.drop.drop.p1.drop.p1.drop.freeze.dF (Ψ:=λw=>mi w (⟨(oQ m).1,(oQ m).2,m.cA,sv⟩:aI) (zz m)) (λ_ h=>⟨sv,rfl,DL.jZ h⟩);exact⟨_,rfl,u.fresh⟩
 refine aA A8 (aB (v:=hZ m.fault) bL u.p2.hb rfl (bQ (aC (λc1=>?_) λc1=>?_)))
 .rw[acF c1]at Z;exact aA iW (aT u bL (dQ rfl) rfl λ_ u=>aA A8 (aB (v:=hZ m.fault) bL u.p2.hb rfl (aA ox (aT u bL (dQ rfl) rfl λ_ u=>aD (x:=(⟨(3,m.fault).1,(3,m.fault).2,m.cA,sv⟩:aI)) eW u.At (aJ (x:=(⟨(3,m.fault).1,(3,m.fault).2,m.cA,sv⟩:aI)) u.p4 eW rfl rfl λ_ u=>aD (x:=(⟨(3,m.fault).1,(3,m.fault).2,m.cA,sv⟩:aI)) eW u.At (Z _ u))))))
 refine aA qQ (aB (v:=.bool (m7 m)) A6 u.p2.hb rfl (bD (λc2=>?_) λc2=>?_))
 .rw[acG c1 c2]at Z;exact aA iW (aT u bL (dQ rfl) rfl λ_ u=>aD (x:=(⟨((4,0):Int×Int).1,((4,0):Int×Int).2,m.cA,sv⟩:aI)) eW u.At (aJ (x:=(⟨((4,0):Int×Int).1,((4,0):Int×Int).2,m.cA,sv⟩:aI)) u.p4 eW rfl rfl λ_ u=>aD (x:=(⟨((4,0):Int×Int).1,((4,0):Int×Int).2,m.cA,sv⟩:aI)) eW u.At (Z _ u)))
 refine aA qP (aB (v:=.bool (lM m)) A6 u.p2.hb rfl (bT (bD (λc3=>?_) λc3=>?_)))
 .rw[acJ c1 c2 (by simpa using c3)]at Z;exact aD (x:=(⟨((0,0):Int×Int).1,((0,0):Int×Int).2,m.cA,sv⟩:aI)) eW u.At (aJ (x:=(⟨((0,0):Int×Int).1,((0,0):Int×Int).2,m.cA,sv⟩:aI)) u.p4 eW rfl rfl λ_ u=>aD (x:=(⟨((0,0):Int×Int).1,((0,0):Int×Int).2,m.cA,sv⟩:aI)) eW u.At (Z _ u))
 rw[anm c1 c2 (by simpa using c3)]at Z;refine aA iW (aT u bL (dQ rfl) rfl λw23 u=>aK u5 u.p3.dW (ft cO ?_));refine⟨λmm y w'=>∃j:Nat,y=hZ ((j:Int)-1)/\mm=j/\j<=(fq m).length/\St w aX [bW J (j0 (⟨(wB (fq m) j).1,(wB (fq m) j).2,m.cA,sv⟩:aI)),bE (ir (sv:SV)) (m.mem.l.take (eH m.p).toNat),bW b3 (j0 (jb m)),bE W (fq m),bW b2 (j0 (⟨0,0,0,bY⟩:aI))] w',⟨_,(fq m).length,rfl,rfl,o6 _,by rw[anl (o6 _)];exact u⟩,?_⟩;rintro j _ w24 ⟨_,rfl,rfl,hj,u⟩ _;refine cT (aC (λc4=>?_) λc4=>?_)
 rotate_left
 .obtain rfl:j=0:=cO
  exact aD (x:=(⟨(wB (fq m) 0).1,(wB (fq m) 0).2,m.cA,sv⟩:aI)) eW u.At (aJ (x:=(⟨(wB (fq m) 0).1,(wB (fq m) 0).2,m.cA,sv⟩:aI)) u.p4 eW rfl rfl λ_ u=>aD (x:=(⟨(wB (fq m) 0).1,(wB (fq m) 0).2,m.cA,sv⟩:aI)) eW u.At (Z _ u))
 obtain⟨i,rfl⟩:∃i,j=i+1:=⟨j-1,cO⟩;rw[show(((i+1:Nat):Int)-1)=(i:Int)from cO];obtain⟨e,U⟩:=gx (fq m) (i:=((i:Nat):Int).toNat) cO;refine⟨λw'=>St w aX [bW J (j0 (⟨(wB (fq m) i).1,(wB (fq m) i).2,m.cA,sv⟩:aI)),bE (ir (sv:SV)) (m.mem.l.take (eH m.p).toNat),bW b3 (j0 (jb m)),bE W (fq m),bW b2 (j0 (⟨0,0,0,bY⟩:aI))] w',?_,?_⟩;rotate_left
 .intro w26 u _;exact ft cO ⟨_,MH _,i,rfl,rfl,cO,u⟩
 refine aQ u5 u.p3.dW cO U (λq hq=>aD A6 hq ?_);rw[pd]at U;refine bT (bD (λc5=>?_) λc5=>?_)
 .rw[anj U (by simpa using c5)];exact aA iW (aT u bL (dQ rfl) rfl λ_ u=>aA ox (aT u bL (dQ rfl) rfl λ_ u=>u))
 rw[ank U (by simpa using c5)];exact u
theorem UI{p:bZ}{room c:Int}{l:List aS}{m:gl}{o:List cD}{f:Int}(h:ep p room c=0)(u:rI c (gj p room) [] l=(m,o,f))(B:f≠0):dN p room c l=(zE,[],f,(o.length:Int)):=by
 grind[dN,zE]
theorem agS{p:bZ}{room c:Int}{l:List aS}{m:gl}{o:List cD}(h:ep p room c=0)(u:rI c (gj p room) [] l=(m,o,0)):dN p room c l=(zz m,o,0,0):=by
 grind[dN,zz]
structure oo(p:bZ)(n:Nat)(m:gl):Prop where
 go:xh p n m
 vo:Ll m
 fi:m.mem.eg=eV p
def oo.step{p:bZ}{n:Nat}{m:gl}{q:aS}(h:oo p n m)(hc:Hl p):oo p (n+1) (nf m q).1:=⟨h.go.step hc,h.vo.do,(Sc h.go.ok q).trans h.fi⟩
def oo.new{p:bZ}{room:Int}(B:PZ p)(hc:Hl p)(u:1<=room/\room<=16):oo p 0 (gj p room):=⟨xh.new B hc u,agR hc,rfl⟩
def oo.mono{p:bZ}{a b:Nat}{m:gl}(h:oo p a m)(u:a<=b):oo p b m:=⟨h.go.mono u,h.vo,h.fi⟩
def C38(K:hM)(p:bZ)(pv:bO)(room c:Int)(lv:Value)(l:List aS)(w:World)(B:∀w',Ext w w'->K w')(hp:G9 K pv p)(hz:PZ p)(hl:Ha K lv l)(zp:l.length<=1000)(HL:∀q∈l,q.cut.length<=1000) :
  CR 38 [ir pv,hZ room,hZ c,lv] w (λv w'=>∃(ev:aI) (ov:Value),v=.tuple #[ir ev,ov,hZ (dN p room c l).2.2.1,hZ (dN p room c l).2.2.2]/\kq (sep (dZ λw=>mi w ev (dN p room c l).1) (bE ov (dN p room c l).2.1)) w w'):=by
 have u:=St.start w;refine ani _ _ _ _ _ _ ?_;unfold S38;refine cM (x:=pv) u (λb4 w1 u=>aN u gu λb8 w2 u=>have u:=u.enc (cs':=j0 (⟨0,0,0,bY⟩:aI)) rfl;aD er u.p1.At (dO amz (C13 K p pv room _ (λ_ e=>B _ (u.aG.then e)) hp hz) ?_));rintro v20 w3 (⟨h1,rfl,he⟩|⟨V,h1,rfl,he⟩|⟨V,hr,b,rfl,cI⟩)
 .have u:=u.ext he;refine aM rfl (aM rfl (bQ (aC (λ_=>?_) λh=>absurd h1 h)));have e:ep p room c=fg p:=by unfold ep;rw[ew h1]
  refine pop oP (aJ (x:=(⟨0,0,0,bY⟩:aI)) u eW rfl rfl λw4 u=>aD (x:=(⟨0,0,0,bY⟩:aI)) eW u.At ?_);rw[Hb (by rw[e];exact h1),e];exact⟨_,_,rfl,(St.join ((u.drop.drop.eK (α:=cD)).fk (Φ:=λw=>mi w (⟨0,0,0,bY⟩:aI) zE) tP)).fresh⟩
 .have u:=u.ext he;refine aM rfl (aM rfl (bQ (aC (λ_=>?_) λh=>absurd (by decide:(1:Int)≠0) h)));have e:ep p room c=1:=by unfold ep;rw[ej (by rw[V];decide),ew h1]
  refine pop oP (aJ (x:=(⟨0,0,0,bY⟩:aI)) u eW rfl rfl λw4 u=>aD (x:=(⟨0,0,0,bY⟩:aI)) eW u.At ?_);rw[Hb (by rw[e];decide),e];exact⟨_,_,rfl,(St.join ((u.drop.drop.eK (α:=cD)).fk (Φ:=λw=>mi w (⟨0,0,0,bY⟩:aI) zE) tP)).fresh⟩
 have vJ:=pS V;have u:=u.made cI;refine aM rfl (aM rfl (bQ (aC (λh=>absurd rfl h) λ_=>?_)));refine⟨λjv w'=>jv=.bool (decide (c<0\/8<c))/\w'=w3,?_,?_⟩
 .exact aR (aC (λh=>⟨vb (ez (.inl h)).symm,rfl⟩) λ_=>cQ ⟨vb (ga.2 cO),rfl⟩)
 rintro _ _ ⟨rfl,rfl⟩ _;refine aC (λh2=>?_) (λh2=>?_)
 .have e:ep p room c=1:=by unfold ep;rw[ej (by rw[V];decide),ej cO,ew h2]
  refine pop oP (aJ (x:=(⟨0,0,0,bY⟩:aI)) u.p1 eW rfl rfl λ_ u=>aD (x:=(⟨0,0,0,bY⟩:aI)) eW u.At ?_);rw[Hb (by rw[e];decide),e];exact⟨_,_,rfl,(St.join ((u.drop.drop.drop.eK (α:=cD)).fk (Φ:=λw=>mi w (⟨0,0,0,bY⟩:aI) zE) tP)).fresh⟩
 have UG:ep p room c=0:=by unfold ep;rw[ej (by rw[V];decide),ej cO,ej h2]
 obtain⟨ts,U⟩:=hl;have hn:ts.length=l.length:=(U _ (B _ u.aG)).2.1;refine aV ([]:List cD) u PW rfl rfl (dQ rfl) (λKR _ u=>?_)
 refine⟨λmm o y w'=>∃(k:Nat) (m:gl) (out:List cD),y=hZ (k:Int)/\mm=ts.length-k/\k<=l.length/\out.length=k/\oo p k m/\(rI c (gj p room) [] l)=rI c m out (l.drop k)/\St w aX [bE o out,oh K b m,bW b8 (j0 (⟨0,0,0,bY⟩:aI)),bW b4 (j0 pv)] w',
  ⟨_,0,gj p room,[],rfl,rfl,l0 _,rfl,oo.new hz vJ hr,rfl,u⟩,?_⟩
 rintro mm ov _ w8 ⟨k,m,out,rfl,rfl,hk,ho,O,E,u⟩ _;have J:=O.go;have AP:=O.fi.trans (by rw[J.pr]:eV p=eV m.p);refine aK fD (U _ (B _ u.aG)).1 (aR (aC (λc1=>?_) λc1=>?_));rotate_left
 .rw[CB cO]at E;refine dO auH (C97 K b m _ u.p1.has (λ_ e=>B _ (u.aG.then e)) J.ok O.vo AP) ?_;rintro _ w9 ⟨e2,rfl,cI⟩;have u:=u.made cI;refine aJ (x:=e2) u.p3 eW rfl rfl (λw10 u=>aD (x:=e2) eW u.At ?_);rw[agS UG E];exact⟨e2,ov,rfl,(St.join u.drop.p2.drop.p2.drop).fresh⟩
 obtain⟨q,hq⟩:=gx l (i:=k) cO;obtain⟨tq,Y⟩:=gx ts (i:=((k:Nat):Int).toNat) cO;have M:∀w',K w'->mi w' tq q:=λw' h=>(U w' h).2.2 k tq q Y hq;obtain⟨gc,rfl,_⟩:=M _ (B _ u.aG)
 have Z:∀w',K w'->dD (λ_=>True) w' (ir gc) q.cut:=λw' h=>by
  obtain⟨gc2,e,h3⟩:=M w' h;cases e
  exact DL.flat h3
 have hqc:=HL q (kE hq);rw[DK hq]at E;have nL:=J.mb.mono (b:=1000000) cO;have CD:=J.cr;refine⟨λjv w'=>jv=.bool (decide (q.kind=3/\c<=m.cA))/\w'=w8,?_,?_⟩
 .refine aQ fD (U _ (B _ u.aG)).1 cO Y (λq37 G=>bX q.kind mu G rfl rfl λr g=>aD (x:=q.kind) bL g (aH (aC (λI=>?_) λI=>⟨vb (fV λh=>I h.1).symm,rfl⟩)));obtain⟨a,Ps⟩:=oh.rd u.p1.has;exact aE (aA yI (bN bL (Ps.b.cell (o:=7) rfl) (cT ⟨vb (ga.2 ⟨λh=>⟨I,h⟩,λh=>h.2⟩),rfl⟩)))
 rintro _ w9 ⟨rfl,rfl⟩ _;refine aC (λI=>?_) (λI=>?_)
 .rw[rI,ew I]at E;refine pop oP (aJ (x:=(⟨0,0,0,bY⟩:aI)) u.p2 eW rfl rfl λw10 u=>aD (x:=(⟨0,0,0,bY⟩:aI)) eW u.At ?_);rw[UI UG E ee,ho];exact⟨_,_,rfl,(St.join ((u.drop.drop.drop.drop.eK (α:=cD)).fk (Φ:=λw=>mi w (⟨0,0,0,bY⟩:aI) zE) tP)).fresh⟩
 rw[rI,ej I]at E;refine aQ fD (U _ (B _ u.aG)).1 cO Y (λq37 G=>aD kj G (bG amB u.p1 (H':=λ_=>oh K b (nf m q).1) (Φ:=λv _=>v=.tuple #[ir (nf m q).2.1,hZ (nf m q).2.2]) (λF2 et ea=>?_) ?_))
 .exact C25 K b m q gc F2 _ et (λw' hc=>B _ (ea w' hc).aG) J.ok O.vo (J.pr▸vJ) nL cO AP (λw1 hc _ e=>B _ ((ea w1 hc).aG.then e)) (λw' hc=>Z _ (B _ (ea w' hc).aG)) hqc
 rintro _ _ rfl u;refine aM rfl (aM rfl (aN u mr λb16 _ u=>aJ (x:=(nf m q).2.1) u fr rfl rfl λ_ u=>bQ (aC (λW=>?_) λW=>?_)))
 .rw[ew W]at E;refine pop oP (aJ (x:=(⟨0,0,0,bY⟩:aI)) u.p3 eW rfl rfl λ_ u=>aD (x:=(⟨0,0,0,bY⟩:aI)) eW u.At ?_);rw[UI UG E W,ho];exact⟨_,_,rfl,(St.join ((u.drop.drop.drop.drop.drop.eK (α:=cD)).fk (Φ:=λw=>mi w (⟨0,0,0,bY⟩:aI) zE) tP)).fresh⟩
 rw[ej W]at E;refine aD (x:=(nf m q).2.1) fr u.At (aV [(nf m q).2.1] u PW rfl rfl (dQ rfl) λs64 _ u=>?_);have acO:=u.dW;exact bI u.p3 PW acO (by rw[l2];omega) ee (λ_ _ u=>aO cO ⟨ts.length-(k+1),cO,k+1,_,out++[(nf m q).2.1],rfl,rfl,cO,by rw[lr,l2];omega,O.step vJ,E,u.p1.drop.p1.drop⟩)
variable (w:World) (K:Value->hM)
theorem ann:PL 29:=dR Tryz.func29
theorem aBM:PL 39:=dR Tryz.func39
theorem aBN:PL 99:=dR Tryz.func99
end Go.Proofs.YtpdlpabnlkofmaaGreatDoor
namespace Go.Proofs.YtpdlpabnlkofmaaGreatDoor
open Go.Fw
def vF(e:aS):Bool:=decide (2<=e.kind/\e.kind<=4)
def C29(a:aS)(O:aI)(b:aS)(U:aI)(w:World)(M:mi w O a)(hb:mi w U b)(W:a.cut.length<=1073741824):CR 29 [ir O,ir U] w (λv w'=>v=.bool (decide (a=b))/\Ext w w'):=by
 obtain⟨B,rfl,M⟩:=M;obtain⟨E,rfl,hb⟩:=hb;have u:=St.start w;refine fj Tryz.func29 ?_;refine cM (x:=(⟨a.kind,a.t,a.i,B⟩:aI)) u (λb2 _ u=>cM (x:=(⟨b.kind,b.t,b.i,E⟩:aI)) u λb3 _ u=>?_);refine⟨λV w'=>V=.bool (decide (a=b))/\St w aX [bW b3 (j0 (⟨b.kind,b.t,b.i,E⟩:aI)),bW b2 (j0 (⟨a.kind,a.t,a.i,B⟩:aI))] w',?_,?_⟩
 .refine aA iW (aB (v:=hZ a.kind) bL u.p1.hb rfl (aA iW (aB (v:=hZ b.kind) bL u.hb rfl (aH (aC (λG=>?_) λG=>⟨vb (fV λh=>G (by rw[h])).symm,u⟩)))));refine aA ox (aB (v:=hZ a.t) bL u.p1.hb rfl (aA ox (aB (v:=hZ b.t) bL u.hb rfl ?_)));exact aH (aC (λI=>aA SR (aB (v:=hZ a.i) bL u.p1.hb rfl (aA SR (aB (v:=hZ b.i) bL u.hb rfl (aH (aC (λJ=>aA SS (aB (v:=ir (B:SV)) ey u.p1.hb rfl (aA SS (aB (v:=ir (E:SV)) ey u.hb rfl (aW ajn u (C71 _ _ a.cut b.cut _ (DL.flat (M.ext u.aG)) (DL.flat (hb.ext u.aG)) W) λ_ _ u=>⟨vb (ga.2 ⟨λh=>B9.2 ⟨G,I,J,h⟩,λh=>by rw[h]⟩),u⟩))))) λJ=>⟨vb (fV λh=>J (by rw[h])).symm,u⟩)))))) λI=>⟨vb (fV λh=>I (by rw[h])).symm,u⟩)
 rintro _ _ ⟨rfl,u⟩ _;exact⟨rfl,u.drop.drop.aG⟩
def C39(e:aS)(ev:aI)(w:World)(G:mi w ev e):CR 39 [ir ev] w (λv w'=>v=.bool (vF e)/\Ext w w'):=by
 obtain⟨g,rfl,_⟩:=G;have u:=St.start w;refine fj Tryz.func39 ?_;refine cM (x:=(⟨e.kind,e.t,e.i,g⟩:aI)) u (λb2 _ u=>?_);refine⟨λE w'=>E=.bool (vF e)/\St w aX [bW b2 (j0 (⟨e.kind,e.t,e.i,g⟩:aI))] w',?_,?_⟩
 .exact aA iW (aB (v:=hZ e.kind) bL u.hb rfl (cT (aC (λB=>aA iW (aB (v:=hZ e.kind) bL u.hb rfl (gz ⟨vb (ga.2 ⟨λh=>⟨B,h⟩,λh=>h.2⟩),u⟩))) λB=>⟨vb (fV λh=>B h.1).symm,u⟩)))
 rintro _ _ ⟨rfl,u⟩ _;exact⟨rfl,u.drop.aG⟩
def C99(e:aS)(ev:aI)(w:World)(E:mi w ev e):CR 99 [ir ev] w (λv w'=>v=.bool (vF e)/\Ext w w'):=by
 obtain⟨g,rfl,_⟩:=E;have u:=St.start w;refine fj Tryz.func99 ?_;refine cM (x:=(⟨e.kind,e.t,e.i,g⟩:aI)) u (λb2 _ u=>?_);refine⟨λB w'=>B=.bool (vF e)/\St w aX [bW b2 (j0 (⟨e.kind,e.t,e.i,g⟩:aI))] w',?_,?_⟩
 .exact aA iW (aB (v:=hZ e.kind) bL u.hb rfl (aH (aC (λ_=>⟨vb (ez cO).symm,u⟩) λ_=>aA iW (aB (v:=hZ e.kind) bL u.hb rfl (aH (aC (λ_=>⟨vb (ez cO).symm,u⟩) λ_=>aA iW (aB (v:=hZ e.kind) bL u.hb rfl (aH ⟨vb (ga.2 cO),u⟩))))))))
 rintro _ _ ⟨rfl,u⟩ _;exact⟨rfl,u.drop.aG⟩
variable (w:World) (K:Value->hM)
def P30:dM:=λi=>match i with
 | 3=>.run 0 10
 | _=>.nil
theorem aBO:PL 98:=dR Tryz.func98
theorem WL:PL 30:=dR Tryz.func30
theorem acQ:PL 32:=dR Tryz.func32
theorem auI:PL 31:=dR Tryz.func31
end Go.Proofs.YtpdlpabnlkofmaaGreatDoor
namespace Go.Fw
section
variable {P:Program}{w w0:World}{A S:Nat->Prop}{L:List HP}{α:Type}[Flat α] {xs ys:List α}
theorem acR{T E G:Nat}{z:Option Nat}{v:Value}{i:Int}{K:Value->Prop}(ht:eY P T=some (E,mA α,G,z))(I:dD S w v xs)
  (B:0<=i) (h1:i<=xs.length) (k:∀a:Option Addr,(∀w' (ys:List α),dD S w' v ys->dD S w' (.slice a i.toNat i.toNat) (ys.take i.toNat))->K (.slice a i.toNat i.toNat)):eX P (n0 T v none (some (hZ i)) (some (hZ i))) K:=by
 obtain⟨a,cap,rfl,J,h3⟩:=id I
 refine⟨_,KL ht (Az (.inl ⟨rfl,rfl⟩) ⟨i,rfl,B,rfl⟩ ⟨i,rfl,B,rfl⟩ (l0 _) (o6 _) cO),k _ λw' ys u=>?_⟩
 refine u.asR rfl (l0 _) ?_
 obtain⟨_,_,h4,_⟩:=u
 simp only[yZ.injEq]at h4
 omega
theorem Pc{T E kQ R:Nat}{a:Option Addr}{n:Nat}{src:Value}{K:Value->hM}(hs:St w0 A L w)(ht:W3 P T E (mA α) kQ)(hr:dD (λ_=>True) w (.slice a n n) xs)(uZ:dD S w src ys)
  (hn:xs.length+ys.length<=1073741824) (hby:kQ<=8192) (k:∀Z w',(St w0 A (bE Z (xs++ys)::L) w'\/(ys=[]/\Z=.slice a n n/\w'=w))->K Z w'):ry P (Builtin.append_ #[T,T] R [.slice a n n,src].toArray) w K:=by
 obtain⟨hu,u,hi,pf,xr,O⟩:=fz ht
 obtain⟨zv,I,W⟩:∃zv,u.zero=some zv/\zv.cells.size=mA α:=by
  cases U4:u.zero with
  | none=>rw[U4]at O;cases O
  | some zv=>rw[U4]at O;exact⟨zv,rfl,by simpa using O⟩
 have hmul:(xs.length+ys.length)*u.bytes<=140737488355328:=by
  have:=Nat.mul_le_mul hn (show u.bytes<=8192 by omega);omega
 obtain⟨a',D0,hv,_,h3⟩:=id hr
 simp only[yZ.injEq]at hv
 obtain⟨rfl,G,rfl⟩:=hv
 obtain⟨sa,U,rfl,XT,hs3⟩:=id uZ
 by_cases hy:ys=[]
 .subst hy
  refine⟨.slice a n n,w,?_,k _ _ (.inr ⟨rfl,rfl,rfl⟩)⟩
  cases a<;>cases sa<;>simp[Builtin.append_,run_underlying hu,sizeOf,typeInfo,hi,Builtin.lenOf,Builtin.firstCells,loadCells,loadCellsFrom,storeCells]
 have A3:0<ys.length:=List.length_pos_iff.2 hy
 rcases hs3 with⟨h,_⟩|⟨V,M,rfl,_,W4⟩
 .exact absurd h hy
 have J:∀(c:Nat),n<=c->c<n+ys.length->(Builtin.append_ #[T,T] R [.slice a n n,.slice (some ⟨V,M,none⟩) ys.length U].toArray).run P w=.ok (.slice (some ⟨w.heap.size,0,none⟩) (n+ys.length) (grownCap w (n+ys.length) c E)) (w.drew.alloc (.cells ((flat xs).toArray++(flat ys).toArray++Builtin.zeroCells zv.cells (grownCap w (n+ys.length) c E-(n+ys.length))) E))->
   ry P (Builtin.append_ #[T,T] R [.slice a n n,.slice (some ⟨V,M,none⟩) ys.length U].toArray) w K:=λc _ hc Hr=>by
  have PQ:=grownCap_ge w (n+ys.length) c E
  have he:Ext w (w.drew.alloc (.cells ((flat xs).toArray++(flat ys).toArray++Builtin.zeroCells zv.cells (grownCap w (n+ys.length) c E-(n+ys.length))) E)):=⟨rfl,rfl,rfl,ei,λb hb _=>yG w.drew _ b hb⟩
  have cI:=hs.new (H:=bE (.slice (some ⟨w.heap.size,0,none⟩) (n+ys.length) (grownCap w (n+ys.length) c E)) (xs++ys)) (F:=λk=>k=w.heap.size) he (by
   refine .inr ⟨w.heap.size,grownCap w (n+ys.length) c E,(Builtin.zeroCells zv.cells (grownCap w (n+ys.length) c E-(n+ys.length))).toList,by rw[lr,G],⟨E,?_⟩,?_,λ_=>Iff.rfl⟩
   .refine Eq.trans (mF w.drew (.cells ((flat xs).toArray++(flat ys).toArray++Builtin.zeroCells zv.cells (grownCap w (n+ys.length) c E-(n+ys.length))) E)) ?_
    congr 2
    apply Array.ext'
    simp[gU]
   .refine⟨by rw[lr,<- G];exact PQ,AH (Eq.symm ?_)⟩
    have e:(Builtin.zeroCells zv.cells (grownCap w (n+ys.length) c E-(n+ys.length))).toList.length=(grownCap w (n+ys.length) c E-(n+ys.length))*mA α:=by
     rw[Array.length_toList,size_zeroCells,W]
    rw[lr,e,dG,lr,<- G,<- Nat.add_mul]
    congr 1
    omega) λb hb=>by rw[hb];exact o6 _
  exact⟨_,_,Hr,k _ _ (.inl cI)⟩
 cases a with
 | none=>
  have hx:xs=[]:=by
   rcases h3 with⟨h,_⟩|⟨b,o,h,_⟩
   .exact h
   .cases h
  subst hx
  obtain rfl:n=0:=G
  refine J 0 (o6 _) cO ?_
  have B:=run_append_nil (P:=P) w T R E u zv hu hi I ⟨V,M,none⟩ ys.length U (flat ys) (by rw[dG,pf]) (sm W4) A3 cO (vt (by simpa using hmul:ys.length*u.bytes<=140737488355328) ee)
  rw[u4]
  simpa[kV]using B
 | some p=>
  have hcx:∀j v,(flat xs)[j]?=some v->w.cell? (p.add j)=some v:=λj v Y=>by
   rcases h3 with⟨h,_⟩|⟨b,o,h,_,h5⟩
   .rw[h,kV]at Y;simp at Y
   .cases h;exact sm h5 j v Y
  have B:=run_append_grow (P:=P) w T R E u zv hu hi I p n n (flat xs) (by rw[dG,pf,G]) hcx ⟨V,M,none⟩ ys.length U (flat ys) (by rw[dG,pf]) (sm W4) cO cO (growslice_fits cO (by rw[G];exact hmul))
  exact J n (o6 _) cO B
end
end Go.Fw
namespace Go.Proofs.YtpdlpabnlkofmaaGreatDoor
open Go.Fw
def fC(c:Int):gl->List aS->gl×List aS
 | m,[]=>(m,[])
 | m,q::r=>if q.kind=3/\c<=m.cA then fC c m r else if (nf m q).2.2≠0 then fC c (nf m q).1 r else((fC c (nf m q).1 r).1,q::(fC c (nf m q).1 r).2)
def dP(p:bZ)(room c:Int)(l:List aS):List aS×aS×Int:=
 if ep p room c≠0 then([],zE,ep p room c)else((fC c (gj p room) l).2,zz (fC c (gj p room) l).1,0)
theorem UJ{m:gl}{q:aS}(h:(nf m q).2.2≠0):(nf m q).1=m:=by
 unfold nf at h |-
 split
 .rename_i h1;rw[h1]at h;exact absurd rfl h
 rename_i h1;rw[h1]at h;dsimp only at h |-
 split at h
 .rename_i h2
  rw[ew h2]
  split at h
  .rename_i h3
   rw[ew h3]
   split at h
   .exact absurd rfl h
   rfl
  exact absurd rfl h
 rename_i h2;rw[ej h2]
theorem Cg(c:Int):∀(l:List aS) (m:gl) (o:List cD),(rI c m o (fC c m l).2).1=(fC c m l).1/\(rI c m o (fC c m l).2).2.2=0
 | [],m,o=>⟨rfl,rfl⟩
 | q::r,m,o=>by
  unfold fC
  split
  .exact Cg c r m o
  rename_i h1
  split
  .rename_i h2
   rw[UJ h2]
   exact Cg c r m o
  .rename_i h2
   show(rI c m o (q::_)).1=_/\(rI c m o (q::_)).2.2=0
   rw[rI,ej h1,ej h2]
   exact Cg c r _ _
theorem Hc{p:bZ}{room c:Int}(h:ep p room c=0)(l:List aS):(dN p room c (fC c (gj p room) l).2).1=zz (fC c (gj p room) l).1/\(dN p room c (fC c (gj p room) l).2).2.2.1=0:=by
 obtain⟨h1,h2⟩:=Cg c l (gj p room) []
 rw[Sd h h2,h1]
 exact⟨rfl,rfl⟩
theorem uz(c:Int):∀(l:List aS) (m:gl),fC c m (fC c m l).2=fC c m l
 | [],m=>rfl
 | q::r,m=>by
  by_cases h1:q.kind=3/\c<=m.cA
  .have e:fC c m (q::r)=fC c m r:=by rw[fC,ew h1]
   rw[e];exact uz c r m
  by_cases h2:(nf m q).2.2≠0
  .have e:fC c m (q::r)=fC c m r:=by rw[fC,ej h1,ew h2,UJ h2]
   rw[e];exact uz c r m
  .have e:∀s,fC c m (q::s)=((fC c (nf m q).1 s).1,q::(fC c (nf m q).1 s).2):=λs=>by rw[fC,ej h1,ej h2]
   rw[e]
   show fC c m (q::(fC c (nf m q).1 r).2)=_
   rw[e,uz c r]
theorem vG(c:Int):∀(l:List aS) (m:gl),(fC c m l).2.Sublist l
 | [],m=>List.Sublist.refl _
 | q::r,m=>by
  unfold fC
  split
  .exact(vG c r m).cons q
  .split
   .exact(vG c r _).cons q
   .exact(vG c r _).cons₂ q
theorem qO{p:bZ}{room c:Int}{l:List aS}(h:ep p room c≠0):dP p room c l=([],zE,ep p room c):=by unfold dP;rw[ew h]
theorem si{p:bZ}{room c:Int}{l:List aS}(h:ep p room c=0):dP p room c l=((fC c (gj p room) l).2,zz (fC c (gj p room) l).1,0):=by unfold dP;rw[ej (by rw[h];decide)]
def sB{p:bZ}{room c:Int}{l:List aS}:(dP p room c l).1.Sublist l:=by
 unfold dP;split
 .exact List.nil_sublist _
 exact vG _ _ _
def Dj{p:bZ}{room c:Int}{l:List aS}:(dP p room c l).1.length<=l.length:=sB.length_le
def jH(a b:aS):Bool:=decide (a.kind=b.kind/\a.t=b.t)
def pX(D:List aS->List aS×aS):Nat->List aS->aS->Nat->Bool->List aS×aS×Bool
 | 0,s,e,_,ch=>(s,e,ch)
 | n+1,s,e,k,ch=>if k<s.length then(if jH (D (s.eraseIdx k)).2 e=true then pX D n (D (s.eraseIdx k)).1 (D (s.eraseIdx k)).2 k true else pX D n s e (k+1) ch)else(s,e,ch)
def uT(D:List aS->List aS×aS):Nat->List aS->aS->List aS×aS
 | 0,s,e=>(s,e)
 | n+1,s,e=>if (pX D (s.length+1) s e 0 false).2.2=true then uT D n (pX D (s.length+1) s e 0 false).1 (pX D (s.length+1) s e 0 false).2.1 else((pX D (s.length+1) s e 0 false).1,(pX D (s.length+1) s e 0 false).2.1)
def gS(p:bZ)(room c:Int)(s:List aS):List aS×aS:=((dP p room c s).1,(dP p room c s).2.1)
def cB(p:bZ)(room c:Int)(l:List aS):List aS×aS×Int:=
 if (dP p room c l).2.2≠0 then([],zE,(dP p room c l).2.2)
 else if (dP p room c l).1.length≠l.length\/vF (dP p room c l).2.1=false then([],zE,13)
 else((uT (gS p room c) ((dP p room c l).1.length+1) (dP p room c l).1 (dP p room c l).2.1).1,(uT (gS p room c) ((dP p room c l).1.length+1) (dP p room c l).1 (dP p room c l).2.1).2,0)
section
variable {D:List aS->List aS×aS}(hD:∀s,(D s).1.length<=s.length)
theorem qD{s:List aS}{k:Nat}(h:k<s.length):(s.eraseIdx k).length+1=s.length:=by rw[List.length_eraseIdx_of_lt h];omega
include hD in
theorem wC:∀(n u:Nat) (s:List aS) (e:aS) (k:Nat) (ch:Bool),s.length<n+k->s.length<u+k->pX D n s e k ch=pX D u s e k ch
 | 0,0,s,e,k,ch,h,B=>rfl
 | 0,u+1,s,e,k,ch,h,B=>by rw[pX,pX,ej cO]
 | n+1,0,s,e,k,ch,h,B=>by rw[pX,pX,ej cO]
 | n+1,u+1,s,e,k,ch,h,B=>by
  rw[pX,pX]
  split
  .rename_i h1
   have h2:=hD (s.eraseIdx k)
   have h3:=qD h1
   split
   .exact wC n u _ _ _ _ cO cO
   .exact wC n u _ _ _ _ cO cO
  .rfl
def lD(D:List aS->List aS×aS)(s:List aS)(e:aS)(k:Nat)(ch:Bool):List aS×aS×Bool:=pX D (s.length+1) s e k ch
include hD in
theorem zd{s:List aS}{e:aS}{k:Nat}{ch:Bool}(h:k<s.length)(h2:jH (D (s.eraseIdx k)).2 e=true):lD D s e k ch=lD D (D (s.eraseIdx k)).1 (D (s.eraseIdx k)).2 k true:=by
 have h3:=hD (s.eraseIdx k)
 have h4:=qD h
 unfold lD
 rw[pX,ew h,ew h2]
 exact wC hD _ _ _ _ _ _ cO cO
include hD in
theorem Ch{s:List aS}{e:aS}{k:Nat}{ch:Bool}(h:k<s.length)(h2:¬ jH (D (s.eraseIdx k)).2 e=true):lD D s e k ch=lD D s e (k+1) ch:=by
 unfold lD
 conv=>lhs;rw[pX,ew h,ej h2]
 exact wC hD _ _ _ _ _ _ cO cO
theorem qE{s:List aS}{e:aS}{k:Nat}{ch:Bool}(h:¬ k<s.length):lD D s e k ch=(s,e,ch):=by
 unfold lD;rw[pX,ej h]
include hD in
theorem sC:∀(n:Nat) (s:List aS) (e:aS) (k:Nat) (ch:Bool),s.length<n+k->(lD D s e k ch).1.length<=s.length/\(ch=false->(lD D s e k ch).2.2=true->(lD D s e k ch).1.length<s.length)
 | 0,s,e,k,ch,h=>by rw[qE cO];exact⟨o6 _,λh1 h2=>by rw[h1]at h2;cases h2⟩
 | n+1,s,e,k,ch,h=>by
  by_cases h1:k<s.length
  .have h3:=hD (s.eraseIdx k)
   have h4:=qD h1
   by_cases h2:jH (D (s.eraseIdx k)).2 e=true
   .rw[zd hD h1 h2]
    have:=sC n (D (s.eraseIdx k)).1 (D (s.eraseIdx k)).2 k true cO
    exact⟨cO,λ_ _=>cO⟩
   .rw[Ch hD h1 h2]
    exact sC n s e (k+1) ch cO
  .rw[qE h1];exact⟨o6 _,λh1 h2=>by rw[h1]at h2;cases h2⟩
def pY(D:List aS->List aS×aS)(s:List aS)(e:aS):List aS×aS:=uT D (s.length+1) s e
include hD in
theorem DM:∀(n u:Nat) (s:List aS) (e:aS),s.length<n->s.length<u->uT D n s e=uT D u s e
 | 0,_,s,e,h,_=>absurd h (Nn _)
 | _+1,0,s,e,_,h=>absurd h (Nn _)
 | n+1,u+1,s,e,h,B=>by
  rw[uT,uT]
  split
  .rename_i h1
   have:=(sC hD (s.length+1) s e 0 false cO).2 rfl h1
   unfold lD at this
   exact DM n u _ _ cO cO
  .rfl
include hD in
theorem Jp{s:List aS}{e:aS}(h:(lD D s e 0 false).2.2=true):pY D s e=pY D (lD D s e 0 false).1 (lD D s e 0 false).2.1:=by
 have h2:=(sC hD (s.length+1) s e 0 false cO).2 rfl h
 unfold pY
 conv=>lhs;rw[uT]
 unfold lD at h h2 |-
 rw[ew h]
 exact DM hD _ _ _ _ cO cO
theorem Hd{s:List aS}{e:aS}(h:(lD D s e 0 false).2.2=false):pY D s e=((lD D s e 0 false).1,(lD D s e 0 false).2.1):=by
 unfold pY
 rw[uT]
 unfold lD at h |-
 rw[ej (by rw[h];decide)]
end
def mq{α:Type}(l:List α)(k:Int):List α:=if k<0\/(l.length:Int)<=k then l else l.eraseIdx k.toNat
theorem Sg{α:Type}{l:List α}{k:Nat}(h:k<l.length):mq l (k:Int)=l.eraseIdx k:=by unfold mq;rw[ej cO,pd]
def uA{α:Type}(l:List α)(k:Int):(mq l k).length<=l.length:=by
 unfold mq;split
 .exact o6 _
 exact List.length_eraseIdx_le l _
def ze{α:Type}{l:List α}{k:Int}{x:α}(h:x∈mq l k):x∈l:=by
 unfold mq at h;split at h
 .exact h
 exact Lq h
theorem UK{α:Type}{l:List α}{k:Int}(u:0<=k)(h1:k<l.length):l.take k.toNat++l.drop (k+1).toNat=mq l k:=by
 unfold mq
 rw[ej cO,wx,show(k+1).toNat=k.toNat+1 from cO]
theorem acS{α:Type}{l:List α}{k:Nat}(h:k<l.length):mq (l.take (k+1)) (k:Int)=mq (l.take k) (k:Int):=by
 have e:(l.take (k+1)).length=k+1:=by rw[l1];omega
 have u:(l.take k).length=k:=by rw[l1];omega
 rw[Sg cO]
 unfold mq
 rw[ew cO,wx,List.take_take,Nat.min_eq_left cO,CB cO,oO]
theorem ano{α:Type}{l:List α}{i:Nat}{k:Int}{x:α}(h:l[i]?=some x)(G:(i:Int)≠k):mq (l.take (i+1)) k=mq (l.take i) k++[x]:=by
 have E:=(kB.1 h).1
 have e:(l.take (i+1)).length=i+1:=by rw[l1];omega
 have B:(l.take i).length=i:=by rw[l1];omega
 have u:l.take (i+1)=l.take i++[x]:=by rw[List.take_add_one,h];rfl
 unfold mq
 by_cases c:k<0\/((l.take i).length:Int)<=k
 .rw[ew c,ew cO,u]
 rw[ej c,ej cO,u,List.eraseIdx_append_of_lt_length cO]
def Dk{α σ:Type}[Flat σ][Deep α σ]{w:World}{ts:List σ}{xs:List α}{k:Int}(h:fT ts xs w):fT (mq ts k) (mq xs k) w:=by
 have u:ts.length=xs.length:=h.1
 unfold mq
 rw[u]
 split
 .exact h
 rename_i c
 rw[wx,wx]
 exact(h.take _).append (h.drop _)
def C98(sv:Value)(xs:List aI)(w:World)(B:dD (λ_=>True) w sv xs)(J:xs.length<=1000000):CR 98 [sv] w (λv w'=>kq (bE v xs) w w'):=by
 have u:=St.start w;refine fj Tryz.func98 ?_;refine Ik Tryz.underlying39 (B.ext u.aG) (λp E=>bD (λI=>?_) λ_=>aV ([]:List aI) u fD rfl rfl (dQ rfl) λ_ _ u=>bI u fD (B.ext u.aG) (by simp;omega) ee λ_ _ u=>u.fresh);have G:=E I;subst G;exact(u.eK (α:=aI)).fresh
def C30(K:hM)(lv:Value)(ts:List aI)(k:Int)(w:World)(U:∀w',Ext w w'->K w')(I:∀w,K w->dD (λ_=>True) w lv ts)(Y:ts.length<=1000000):CR 30 [lv,hZ k] w (λv w'=>kq (dZ λw=>K w->dD (λ_=>True) w v (mq ts k)) w w'):=by
 have B:=I _ (U _ (Ext.refl _));have u:=St.start w;refine pj Tryz.func30 (pl:=P30) ?_;refine⟨λW w'=>W=.bool (decide (k<0\/(ts.length:Int)<=k))/\w'=w,?_,?_⟩
 .exact aR (aC (λc=>⟨vb (ez (.inl c)).symm,rfl⟩) λ_=>aK fD (B.ext u.aG) (cT ⟨vb (ga.2 cO),rfl⟩))
 rintro _ _ ⟨rfl,rfl⟩ _;refine aC (λc=>?_) (λc=>?_)
 .refine dV aBO u (C98 lv ts _ (B.ext u.aG) Y) (λG _ Z u=>?_);have e:mq ts k=ts:=by unfold mq;rw[ew c]
  rw[e];exact(u.freeze.dF (Ψ:=λw=>K w->dD (λ_=>True) w G ts) λ_ h _=>h).fresh
 refine acR fD (B.ext u.aG) cO cO (λa M=>aO cO (GC fD (B.ext u.aG) cO cO λO E=>have u:=u.drew;Pc u fD (M _ _ (B.ext u.aG)) (E _ _ (B.ext u.aG)) (by rw[l1,List.length_drop];omega) ee λv _ J=>?_));rw[UK cO cO]at J
 rcases J with u|⟨V,rfl,rfl⟩
 .exact(u.freeze.dF (Ψ:=λw=>K w->dD (λ_=>True) w v (mq ts k)) λ_ h _=>h).fresh
 refine(u.fk (Φ:=λw=>K w->dD (λ_=>True) w _ (mq ts k)) λw h=>?_).fresh;rw[<- UK cO cO,V,oO];exact M _ _ (I _ h)
def C31(K:hM)(lv:Value)(ts:List aI)(k:Int)(w:World)(V:∀w',Ext w w'->K w')(W:∀w,K w->dD (λ_=>True) w lv ts)(hn:ts.length<=1000000):CR 31 [lv,hZ k] w (λv w'=>kq (dZ λw=>K w->dD (λ_=>True) w v (mq ts k)) w w'):=by
 have I:=W _ (V _ (Ext.refl _));have u:=St.start w;refine fj Tryz.func31 ?_;refine aV ([]:List aI) u fD rfl rfl (dQ rfl) (λx7 _ u=>?_);refine⟨λJ o y w'=>∃i:Nat,y=hZ (i:Int)/\J=ts.length-i/\i<=ts.length/\St w aX [bE o (mq (ts.take i) k)] w',⟨_,0,rfl,rfl,l0 _,by rw[show mq (ts.take 0) k=[]from List.length_eq_zero_iff.1 (by have:=uA (ts.take 0) k;simpa using this)];exact u⟩,?_⟩;rintro J o _ _ ⟨i,rfl,rfl,hi,u⟩ _;refine aK fD (I.ext u.aG) (aR (aC (λZ=>?_) λZ=>?_));rotate_left
 .rw[kO cO]at u;exact(u.freeze.dF (Ψ:=λw=>K w->dD (λ_=>True) w o (mq ts k)) λ_ h _=>h).fresh
 obtain⟨x,E⟩:=gx ts (i:=((i:Nat):Int).toNat) cO;refine⟨λM w'=>St w aX [bE M (mq (ts.take (i+1)) k)] w',?_,?_⟩
 .refine bQ (aC (λG=>?_) λG=>?_)
  .refine aQ fD (I.ext u.aG) cO E (λq Y=>aD kj Y (aV [x] u fD rfl rfl (dQ rfl) λU _ u=>?_));have B:=u.dW;refine bI u.p1 fD B (by have:=uA (ts.take i) k;rw[l1]at this;rw[l2];omega) ee (λO _ u=>?_);rw[pd]at E;rw[ano E G];exact u.p1.drop
  obtain rfl:(i:Int)=k:=u1.1 G;rw[acS cO];exact u
 rintro o2 _ u _;exact aO cO ⟨_,cO,i+1,rfl,rfl,cO,u⟩
def C32(a:aS)(M:aI)(b:aS)(E:aI)(w:World)(G:mi w M a)(hb:mi w E b):CR 32 [ir M,ir E] w (λv w'=>v=.bool (jH a b)/\Ext w w'):=by
 obtain⟨I,rfl,G⟩:=G;obtain⟨J,rfl,hb⟩:=hb;have u:=St.start w;refine fj Tryz.func32 ?_;refine cM (x:=(⟨a.kind,a.t,a.i,I⟩:aI)) u (λb2 _ u=>cM (x:=(⟨b.kind,b.t,b.i,J⟩:aI)) u λb3 _ u=>?_);refine⟨λO w'=>O=.bool (jH a b)/\St w aX [bW b3 (j0 (⟨b.kind,b.t,b.i,J⟩:aI)),bW b2 (j0 (⟨a.kind,a.t,a.i,I⟩:aI))] w',?_,?_⟩
 .exact aA iW (aB (v:=hZ a.kind) bL u.p1.hb rfl (aA iW (aB (v:=hZ b.kind) bL u.hb rfl (aH (aC (λB=>aA ox (aB (v:=hZ a.t) bL u.p1.hb rfl (aA ox (aB (v:=hZ b.t) bL u.hb rfl (aH ⟨vb (ga.2 ⟨λh=>⟨B,h⟩,λh=>h.2⟩),u⟩))))) λB=>⟨vb (fV λh=>B h.1).symm,u⟩)))))
 rintro _ _ ⟨rfl,u⟩ _;exact⟨rfl,u.drop.drop.aG⟩
variable (w:World) (K:Value->hM)
def S27(p0 jO I l3:Value):Prop:=
 ry hH (Ae 27 p0) w λp4 a=>aL 63 a λb c=>lA 27 p4 c λd=>cF 12 [d,jO] c λe f=>xT e 0 λg=>xT e 1 λh=>bB .neq 31 h (i 0) λj=>cV j (eX hH (mv 63 [].toArray) λk=>
 sA 63 b k f λl=>lA 63 b l λr=>K (.tuple #[(.slice none 0 0),r,h]) l) (eQ (λZ=>bB .lss 3 I (i 0) λn=>cV n (Z tt f) (bB .gtr 3 I (i 8) λo=>Z o f))
 (λp q=>∀_:Env,
 cV p (eX hH (mv 63 [].toArray) λs=>sA 63 b s q λt=>lA 63 b t λHt=>K (.tuple #[(.slice none 0 0),Ht,(i 1)]) t) (lN 39 l3 λu=>nP (λK2 E v x=>∀_:Env,
 bA .lss 3 v u λy=>cV y (eQ (λO=>iA 39 l3 v λz=>lA 50 z x λaa=>aL 50 x λB ac=>sA 50 B aa ac λU=>eQ (λK4=>fA 50 B 0 λae=>lA 3 ae U λaf=>
 bB .eql 3 af (i 3) λag=>cV ag (cF 68 [g] U λah ai=>eX hH (aaT 114 ah 0) λaj=>bA .geq 3 aj I λak=>K4 ak ai) (K4 ff U)) (λal M=>∀_:Env,
 cV al (O E M) (lA 50 B M λan=>cF 24 [g,an] M λY ap=>xT Y 0 λaq=>xT Y 1 λar=>aL 56 ap λasx au=>sA 56 asx aq au λV=>bB .neq 31 ar (i 0) λaw=>
 cV aw (O E V) (fA 50 B 3 λax=>lA 41 ax V λay=>cF 83 [ay] V λaz a0=>fA 50 B 3 λa1=>sA 41 a1 az a0 λa2=>lA 50 B a2 λa3=>bS 39 1 [(0,a3)] a2 λa4 a5=>
 aP 39 E a4 a5 λa6 a7=>O a6 a7)))) (λW a8=>∀_:Env,
 bB .add 3 v (i 1) λa9=>K2 W a9 a8)) (lA 27 p4 x λba=>cF 40 [ba,jO,I,E] x λJ bc=>xT J 0 λbd=>xT J 1 λ_=>xT J 2 λ_=>xT J 3 λ_=>
 aL 63 bc λG be=>sA 63 G bd be λbf=>lA 63 G (drew bf) λbg=>sA 63 b bg (drew bf) λbh=>lA 63 b bh λLX=>K (.tuple #[E,LX,(i 0)]) bh)) λK2=>K2 (.slice none 0 0) (i 0) q)))
def P27:dM:=λi=>match i with
 | 17=>.run 0 5
 | _=>.nil
theorem anp(p0 B u E:Value)(h:S27 w K p0 B u E):CR 27 [p0,B,u,E] w K:=
 qj 86 P27 1792 [.tmp 8,.cell 9 63,.tmp 10] Tryz.func27 h
theorem WM:PL 27:=dR Tryz.func27
theorem anq:PL 28:=dR Tryz.func28
end Go.Proofs.YtpdlpabnlkofmaaGreatDoor
namespace Go.Proofs.YtpdlpabnlkofmaaGreatDoor
open Go.Fw
def C27(K:hM)(p:bZ)(pv:bO)(room c:Int)(lv:Value)(l:List aS)(w:World)(E:∀w',Ext w w'->K w')(hp:G9 K pv p)(hz:PZ p)(hl:Ha K lv l)(zp:l.length<=1000)(HL:∀q∈l,q.cut.length<=1000) :
  CR 27 [ir pv,hZ room,hZ c,lv] w (λv w'=>∃(ov:Value) (ev:aI),v=.tuple #[ov,ir ev,hZ (dP p room c l).2.2]/\kq (dZ λw=>DL w ov (dP p room c l).1/\mi w ev (dP p room c l).2.1) w w'):=by
 have u:=St.start w;refine anp _ _ _ _ _ _ ?_;unfold S27;refine cM (x:=pv) u (λb4 _ u=>aN u gu λb9 _ u=>have u:=u.enc (cs':=j0 (⟨0,0,0,bY⟩:aI)) rfl;aD er u.p1.At (dO as5 (C12 K p pv room _ (λ_ e=>E _ (u.aG.then e)) hp hz) ?_));rintro v20 w3 (⟨h1,rfl,he⟩|⟨W,h1,rfl,he⟩|⟨W,hr,b,X,rfl,cI⟩)
 .have u:=u.ext he;refine aM rfl (aM rfl (bQ (aC (λ_=>?_) λh=>absurd h1 h)));have e:ep p room c=fg p:=by unfold ep;rw[ew h1]
  refine pop oP (aJ (x:=(⟨0,0,0,bY⟩:aI)) u eW rfl rfl λw4 u=>aD (x:=(⟨0,0,0,bY⟩:aI)) eW u.At ?_);rw[qO (by rw[e];exact h1),e];exact⟨_,_,rfl,(u.drop.drop.fk (Φ:=λw=>DL w (.slice none 0 0) []/\mi w (⟨0,0,0,bY⟩:aI) zE) λw=>⟨DL.nil w,tP w⟩).fresh⟩
 .have u:=u.ext he;refine aM rfl (aM rfl (bQ (aC (λ_=>?_) λh=>absurd (by decide:(1:Int)≠0) h)));have e:ep p room c=1:=by unfold ep;rw[ej (by rw[W];decide),ew h1]
  refine pop oP (aJ (x:=(⟨0,0,0,bY⟩:aI)) u eW rfl rfl λw4 u=>aD (x:=(⟨0,0,0,bY⟩:aI)) eW u.At ?_);rw[qO (by rw[e];decide),e];exact⟨_,_,rfl,(u.drop.drop.fk (Φ:=λw=>DL w (.slice none 0 0) []/\mi w (⟨0,0,0,bY⟩:aI) zE) λw=>⟨DL.nil w,tP w⟩).fresh⟩
 have vJ:=pS W;have u:=(u.made cI).split;refine aM rfl (aM rfl (bQ (aC (λh=>absurd rfl h) λ_=>?_)));refine⟨λjv w'=>jv=.bool (decide (c<0\/8<c))/\w'=w3,?_,?_⟩
 .exact aR (aC (λh=>⟨vb (ez (.inl h)).symm,rfl⟩) λ_=>cQ ⟨vb (ga.2 cO),rfl⟩)
 rintro _ _ ⟨rfl,rfl⟩ _;refine aC (λh2=>?_) (λh2=>?_)
 .have e:ep p room c=1:=by unfold ep;rw[ej (by rw[W];decide),ej cO,ew h2]
  refine pop oP (aJ (x:=(⟨0,0,0,bY⟩:aI)) u.p2 eW rfl rfl λ_ u=>aD (x:=(⟨0,0,0,bY⟩:aI)) eW u.At ?_);rw[qO (by rw[e];decide),e];exact⟨_,_,rfl,(u.drop.drop.drop.drop.fk (Φ:=λw=>DL w (.slice none 0 0) []/\mi w (⟨0,0,0,bY⟩:aI) zE) λw=>⟨DL.nil w,tP w⟩).fresh⟩
 have UG:ep p room c=0:=by unfold ep;rw[ej (by rw[W];decide),ej cO,ej h2]
 obtain⟨ts,Z⟩:=hl;have hn:ts.length=l.length:=(Z _ (E _ u.aG)).2.1;refine aK fD (Z _ (E _ u.aG)).1 ?_
 refine⟨λmm o y w'=>∃(k:Nat) (m:gl) (out:List aS),y=hZ (k:Int)/\mm=ts.length-k/\k<=l.length/\out.length<=k/\xh p k m/\m.mem.eg=eV p/\(fC c (gj p room) l)=((fC c m (l.drop k)).1,out++(fC c m (l.drop k)).2)/\St w aX [fJ o out,gG (λw=>K w/\X w) b m,dZ X,bW b9 (j0 (⟨0,0,0,bY⟩:aI)),bW b4 (j0 pv)] w',
  ⟨_,0,gj p room,[],rfl,rfl,l0 _,o6 _,xh.new hz vJ hr,rfl,rfl,St.xF ((u.fk (Φ:=fT ([]:List aI) ([]:List aS)) λ_=>fT.nil).eK (α:=aI))⟩,?_⟩
 rintro mm ov _ w7 ⟨k,m,out,rfl,rfl,hk,ho,G,AP,B,u⟩ _;refine aR (aC (λc1=>?_) λc1=>?_);rotate_left
 .rw[CB cO]at B;have B:(fC c (gj p room) l)=(m,out):=B.trans (by show(m,out++[])=_;rw[oO]);obtain⟨r1,r2⟩:=Hc UG l;rw[B]at r1 r2;obtain⟨F,u,hX⟩:=u.oy.BU;have VG:Ha (λw'=>K w'/\kK F w7 w') ov out:=(Ha.of hX).mono λ_ h=>h.2;have aBQ:out.Sublist l:=by have:=vG c l (gj p room);rw[B]at this;exact this
  refine aD er u.p4.At (dO aBL (C40 (λw'=>K w'/\kK F w7 w') p pv room c ov out _ (λ_ e=>⟨E _ (u.aG.then e),(u.ext e).dZ⟩) (hp.mono λ_ h=>h.1) hz VG cO λq V=>HL q (aBQ.subset V)) ?_);rintro _ w8 ⟨ev,ov2,rfl,cI⟩;have u:=(u.made cI).split;refine aM rfl (aM rfl (aM rfl (aM rfl (aN u gu λb18 w9 u=>aJ (x:=ev) u eW rfl rfl λw10 u=>have u:=u.drew;aD (x:=ev) eW u.At (aJ (x:=ev) u.p6 eW rfl rfl λw11 u=>aD (x:=ev) eW u.At ?_)))));rw[si UG,B];have u:=u.drop.drop.p1.drop.gv.p1.drop.p1.drop.p1.drop.dF (Ψ:=λw=>DL w ov out/\mi w ev (zz m)) (λ_ h=>⟨hX _ h.2,by rw[<- r1];exact h.1⟩)
  exact⟨ov,ev,rfl,u.fresh⟩
 obtain⟨q,V⟩:=gx l (i:=k) cO;obtain⟨tq,Se⟩:=gx ts (i:=((k:Nat):Int).toNat) cO;have O:∀w',K w'->mi w' tq q:=λw' h=>(Z w' h).2.2 k tq q Se V;obtain⟨J,rfl,_⟩:=O _ (E _ u.aG)
 have M:∀w',K w'->dD (λ_=>True) w' (ir J) q.cut:=λw' h=>by
  obtain⟨gc2,e,h3⟩:=O w' h;cases e
  exact DL.flat h3
 have hqc:=HL q (kE V);rw[DK V]at B;have nL:=G.mb.mono (b:=1000000) cO;have CD:=G.cr;refine⟨λo' w'=>∃(Y:gl) (WN:List aS),WN.length<=k+1/\xh p (k+1) Y/\Y.mem.eg=eV p/\(fC c (gj p room) l)=((fC c Y (l.drop (k+1))).1,WN++(fC c Y (l.drop (k+1))).2)/\St w aX [fJ o' WN,gG (λw=>K w/\X w) b Y,dZ X,bW b9 (j0 (⟨0,0,0,bY⟩:aI)),bW b4 (j0 pv)] w',?_,?_⟩;rotate_left
 .rintro o2 w8 ⟨m2,anr,h1,h2,h3,h4,u⟩ wG;exact aO cO ⟨ts.length-(k+1),cO,k+1,m2,anr,rfl,rfl,cO,h1,h2,h3,h4,u⟩
 refine aQ fD (Z _ (E _ u.aG)).1 cO Se (λq37 h37=>aD kj h37 (aN u E8 λb15 w8 u=>aJ (x:=(⟨q.kind,q.t,q.i,J⟩:aI)) u kj rfl rfl λw9 u=>?_));refine⟨λjv w'=>jv=.bool (decide (q.kind=3/\c<=m.cA))/\St w aX [bW b15 (j0 (⟨q.kind,q.t,q.i,J⟩:aI)),fJ ov out,gG (λw=>K w/\X w) b m,dZ X,bW b9 (j0 (⟨0,0,0,bY⟩:aI)),bW b4 (j0 pv)] w',?_,?_⟩
 .exact aA mu (aB (v:=hZ q.kind) bL u.hb rfl (aH (aC (λI=>aW alm u (C68 (λw=>K w/\X w) b m _ u.p2.has (λ_ e=>⟨E _ (u.aG.then e),(u.ext e).p3.dZ⟩) G.ok) λ_ _ u=>pop (ai0 (jb m)) (cT ⟨vb (ga.2 ⟨λh=>⟨I,h⟩,λh=>h.2⟩),u⟩)) λI=>⟨vb (fV λh=>I h.1).symm,u⟩)))
 rintro _ w10 ⟨rfl,u⟩ wG;refine aC (λI=>?_) (λI=>?_)
 .rw[fC,ew I]at B;exact⟨m,out,cO,G.mono cO,AP,B,u.drop⟩
 rw[fC,ej I]at B;have Hi:=G.step (q:=q) vJ;have U:=(Sc G.ok q).trans AP;refine aD (x:=(⟨q.kind,q.t,q.i,J⟩:aI)) kj u.At (bG as3 u.p2 (H':=λ_=>gG (λw=>K w/\X w) b (nf m q).1) (Φ:=λv _=>v=.tuple #[ir (nf m q).2.1,hZ (nf m q).2.2]) (λF2 et ea=>?_) ?_)
 .exact C24 (λw=>K w/\X w) b m q J F2 _ et (λw' hc=>⟨E _ (ea w' hc).aG,(ea w' hc).p2.dZ⟩) G.ok (G.pr▸vJ) nL cO (λw' hc=>M _ (E _ (ea w' hc).aG)) hqc
 rintro _ w11 rfl u;refine aM rfl (aM rfl (aN u mr λb16 _ u=>aJ (x:=(nf m q).2.1) u fr rfl rfl λ_ u=>bQ (aC (λc3=>?_) λc3=>?_)))
 .rw[ew c3]at B;exact⟨_,out,cO,Hi,U,B,u.drop.p1.drop.p1⟩
 rw[ej c3]at B;have u:=u.drop.p1;refine aA px (aB (v:=ir (J:SV)) ey u.hb rfl (dV PN u (C83 _ q.cut _ (M _ (E _ u.aG)) cO) λx67 _ cI u=>?_));obtain⟨sv,rfl⟩:=u.fN;exact aA px (aT u.p1 ey (dQ rfl) rfl λ_ u=>have u:=u.enc (cs':=j0 (⟨q.kind,q.t,q.i,sv⟩:aI)) rfl;aD (x:=(⟨q.kind,q.t,q.i,sv⟩:aI)) kj u.At (have u:=u.p1.freeze.dF (Ψ:=λw=>mi w (⟨q.kind,q.t,q.i,sv⟩:aI) q) (λ_ h=>⟨sv,rfl,DL.jZ h⟩);gA (x:=q) (s:=(⟨q.kind,q.t,q.i,sv⟩:aI)) u fD ee λ_ _ u=>gg u.p3 fD (by rw[l2];omega) ee λ_ _ u=>⟨_,out++[q],by rw[lr,l2];omega,Hi,U,by rw[B,nK];rfl,u.p1.drop⟩))
def C28(K K0:hM)(p:bZ)(pv:bO)(room c:Int)(lv:Value)(ts:List aI)(l:List aS)(w:World)(E:∀w',Ext w w'->K w')(hp:G9 K pv p)(hz:PZ p)(hR:∀w,K w->dD (λ_=>True) w lv ts)(hD:∀w,K0 w->fT ts l w)(hKK:∀w,K w->K0 w)(zp:l.length<=1000)(HL:∀q∈l,q.cut.length<=1000) :
  CR 28 [ir pv,hZ room,hZ c,lv] w (λv w'=>∃(ov:Value) (us:List aI) (ev:aI),v=.tuple #[ov,ir ev,hZ (dP p room c l).2.2]/\(∀w,K0 w->fT us (dP p room c l).1 w)/\kq (sep (bE ov us) (dZ λw=>mi w ev (dP p room c l).2.1)) w w'):=by
 have u:=St.start w;refine fj Tryz.func28 ?_;refine cM (x:=pv) u (λb4 w1 u=>aN u gu λb9 w2 u=>have u:=u.enc (cs':=j0 (⟨0,0,0,bY⟩:aI)) rfl;aD er u.p1.At (dO amz (C13 K p pv room _ (λ_ e=>E _ (u.aG.then e)) hp hz) ?_));rintro v20 w3 (⟨h1,rfl,he⟩|⟨Z,h1,rfl,he⟩|⟨Z,hr,b,rfl,cI⟩)
 .have u:=u.ext he;refine aM rfl (aM rfl (bQ (aC (λ_=>?_) λh=>absurd h1 h)));have e:ep p room c=fg p:=by unfold ep;rw[ew h1]
  refine pop oP (aJ (x:=(⟨0,0,0,bY⟩:aI)) u eW rfl rfl λw4 u=>aD (x:=(⟨0,0,0,bY⟩:aI)) eW u.At ?_);rw[qO (by rw[e];exact h1),e];exact⟨_,[],_,rfl,λ_ _=>fT.nil,(St.join ((u.drop.drop.fk (Φ:=λw=>mi w (⟨0,0,0,bY⟩:aI) zE) tP).eK (α:=aI))).fresh⟩
 .have u:=u.ext he;refine aM rfl (aM rfl (bQ (aC (λ_=>?_) λh=>absurd (by decide:(1:Int)≠0) h)));have e:ep p room c=1:=by unfold ep;rw[ej (by rw[Z];decide),ew h1]
  refine pop oP (aJ (x:=(⟨0,0,0,bY⟩:aI)) u eW rfl rfl λw4 u=>aD (x:=(⟨0,0,0,bY⟩:aI)) eW u.At ?_);rw[qO (by rw[e];decide),e];exact⟨_,[],_,rfl,λ_ _=>fT.nil,(St.join ((u.drop.drop.fk (Φ:=λw=>mi w (⟨0,0,0,bY⟩:aI) zE) tP).eK (α:=aI))).fresh⟩
 have vJ:=pS Z;have u:=u.made cI;refine aM rfl (aM rfl (bQ (aC (λh=>absurd rfl h) λ_=>?_)));refine⟨λjv w'=>jv=.bool (decide (c<0\/8<c))/\w'=w3,?_,?_⟩
 .exact aR (aC (λh=>⟨vb (ez (.inl h)).symm,rfl⟩) λ_=>cQ ⟨vb (ga.2 cO),rfl⟩)
 rintro _ _ ⟨rfl,rfl⟩ _;refine aC (λh2=>?_) (λh2=>?_)
 .have e:ep p room c=1:=by unfold ep;rw[ej (by rw[Z];decide),ej cO,ew h2]
  refine pop oP (aJ (x:=(⟨0,0,0,bY⟩:aI)) u.p1 eW rfl rfl λ_ u=>aD (x:=(⟨0,0,0,bY⟩:aI)) eW u.At ?_);rw[qO (by rw[e];decide),e];exact⟨_,[],_,rfl,λ_ _=>fT.nil,(St.join ((u.drop.drop.drop.fk (Φ:=λw=>mi w (⟨0,0,0,bY⟩:aI) zE) tP).eK (α:=aI))).fresh⟩
 have UG:ep p room c=0:=by unfold ep;rw[ej (by rw[Z];decide),ej cO,ej h2]
 have U:∀w,K w->dD (λ_=>True) w lv ts/\fT ts l w:=λw h=>⟨hR w h,hD w (hKK w h)⟩;have hn:ts.length=l.length:=(U _ (E _ u.aG)).2.1;refine aV ([]:List aI) u fD rfl rfl (dQ rfl) (λx34 _ u=>?_)
 refine⟨λmm o y w'=>∃(k:Nat) (m:gl) (out:List aS) (us:List aI),y=hZ (k:Int)/\mm=ts.length-k/\k<=l.length/\us.length<=k/\(∀w,K0 w->fT us out w)/\oo p k m/\(fC c (gj p room) l)=((fC c m (l.drop k)).1,out++(fC c m (l.drop k)).2)/\St w aX [bE o us,oh K b m,bW b9 (j0 (⟨0,0,0,bY⟩:aI)),bW b4 (j0 pv)] w',
  ⟨_,0,gj p room,[],[],rfl,rfl,l0 _,o6 _,λ_ _=>fT.nil,oo.new hz vJ hr,rfl,u⟩,?_⟩
 rintro mm ov _ w8 ⟨k,m,out,us,rfl,rfl,hk,ho,G,M,B,u⟩ _;have O:=M.go;have AP:=M.fi.trans (by rw[O.pr]:eV p=eV m.p);refine aK fD (U _ (E _ u.aG)).1 (aR (aC (λc1=>?_) λc1=>?_));rotate_left
 .rw[CB cO]at B;have B:(fC c (gj p room) l)=(m,out):=B.trans (by show(m,out++[])=_;rw[oO]);refine dO auH (C97 K b m _ u.p1.has (λ_ e=>E _ (u.aG.then e)) O.ok M.vo AP) ?_;rintro _ w9 ⟨e2,rfl,cI⟩;have u:=u.made cI;refine aJ (x:=e2) u.p3 eW rfl rfl (λ_ u=>aD (x:=e2) eW u.At ?_);rw[si UG,B];exact⟨ov,us,e2,rfl,G,(St.join u.drop.p2.drop.p2.drop.p1).fresh⟩
 obtain⟨q,hq⟩:=gx l (i:=k) cO;obtain⟨tq,W⟩:=gx ts (i:=((k:Nat):Int).toNat) cO;have Y:∀w',K w'->mi w' tq q:=λw' h=>(U w' h).2.2 k tq q W hq;obtain⟨gc,rfl,_⟩:=Y _ (E _ u.aG)
 have hgc:∀w',K w'->dD (λ_=>True) w' (ir gc) q.cut:=λw' h=>by
  obtain⟨gc2,e,h3⟩:=Y w' h;cases e
  exact DL.flat h3
 have hqc:=HL q (kE hq);rw[DK hq]at B;have nL:=O.mb.mono (b:=1000000) cO;have CD:=O.cr;refine⟨λo' w'=>∃(m':gl) (WN:List aS) (J:List aI),J.length<=k+1/\(∀w,K0 w->fT J WN w)/\oo p (k+1) m'/\(fC c (gj p room) l)=((fC c m' (l.drop (k+1))).1,WN++(fC c m' (l.drop (k+1))).2)/\St w aX [bE o' J,oh K b m',bW b9 (j0 (⟨0,0,0,bY⟩:aI)),bW b4 (j0 pv)] w',?_,?_⟩;rotate_left
 .rintro o2 w9 ⟨m2,anr,us2,h1,h2,h3,h4,u⟩ wG;exact aO cO ⟨ts.length-(k+1),cO,k+1,m2,anr,us2,rfl,rfl,cO,h1,h2,h3,h4,u⟩
 refine⟨λjv w'=>jv=.bool (decide (¬ (q.kind=3/\c<=m.cA)))/\w'=w8,?_,?_⟩
 .refine aQ fD (U _ (E _ u.aG)).1 cO W (λq37 I=>bX q.kind mu I rfl rfl λr g=>aD (x:=q.kind) bL g (bQ (aC (λV=>⟨vb (ez (p:=¬ (q.kind=3/\c<=m.cA)) λh=>V h.1).symm,rfl⟩) λV=>?_)));obtain⟨a,Ps⟩:=oh.rd u.p1.has;exact aE (aA yI (bN bL (Ps.b.cell (o:=7) rfl) (aR ⟨vb (ga.2 cO),rfl⟩)))
 rintro _ w9 ⟨rfl,rfl⟩ wG;refine aC (λV=>?_) (λV=>?_);rotate_left
 .rw[fC,ew (u1.1 V)]at B;exact⟨m,out,us,cO,G,M.mono cO,B,u⟩
 rw[fC,ej V]at B;refine aQ fD (U _ (E _ u.aG)).1 cO W (λq37 I=>aD kj I (bG amB u.p1 (H':=λ_=>oh K b (nf m q).1) (Φ:=λv _=>v=.tuple #[ir (nf m q).2.1,hZ (nf m q).2.2]) (λF2 et ea=>?_) ?_))
 .exact C25 K b m q gc F2 _ et (λw' hc=>E _ (ea w' hc).aG) O.ok M.vo (O.pr▸vJ) nL cO AP (λw1 hc _ e=>E _ ((ea w1 hc).aG.then e)) (λw' hc=>hgc _ (E _ (ea w' hc).aG)) hqc
 rintro _ _ rfl u;refine aM rfl (aM rfl (aN u mr λb16 _ u=>aJ (x:=(nf m q).2.1) u fr rfl rfl λ_ u=>have u:=u.drop.p1;aH (aC (λc3=>?_) λc3=>?_)));rotate_left
 .rw[ew c3]at B;exact⟨_,out,us,cO,G,M.step vJ,B,u⟩
 rw[ej (by rw[c3];decide)]at B;refine aQ fD (U _ (E _ u.aG)).1 cO W (λq38 h38=>aD kj h38 (aV [(⟨q.kind,q.t,q.i,gc⟩:aI)] u fD rfl rfl (dQ rfl) λs64 _ u=>?_));have acO:=u.dW;exact bI u.p1 fD acO (by rw[l2];omega) ee (λ_ _ u=>⟨_,out++[q],us++[(⟨q.kind,q.t,q.i,gc⟩:aI)],by rw[lr,l2];omega,λw h=>(G w h).snoc ((hD w h).2 k _ q W hq),M.step vJ,by rw[B,nK];rfl,u.p1.drop⟩)
variable (w:World) (K:Value->hM)
def P35:dM:=λi=>match i with
 | 15=>.run 0 5
 | _=>.nil
def aBS:dM:=λi=>match i with
 | 1=>(.op 0 [] (.op 1 [] (.op 2 [] (.op 3 [] (.op 4 [] (.alt 5 [0,1,2] (.alt 6 [] (.of [(7,[]),(8,[]),(9,[]),(10,[]),(11,[0,1,2,3]),(12,[]),(13,[]),(14,[])]) (.alt 11 [0,1,2,3] (.of [(6,[]),(7,[]),(8,[]),(9,[]),(10,[]),(12,[]),(13,[]),(14,[])]) .stop)) (.alt 11 [0,1,2,3] (.of [(5,[0,1,2]),(6,[]),(7,[]),(8,[]),(9,[]),(10,[]),(12,[]),(13,[]),(14,[])]) .stop)))))))
 | 4=>(.of [(0,[]),(1,[]),(2,[1]),(3,[])])
 | _=>.nil
theorem acT:PL 35:=dR Tryz.func35
theorem auJ:PL 100:=dR Tryz.func100
end Go.Proofs.YtpdlpabnlkofmaaGreatDoor
namespace Go.Proofs.YtpdlpabnlkofmaaGreatDoor
open Go.Fw
theorem Ci{p:bZ}{room c:Int}{l:List aS}(h:(dP p room c l).2.2≠0):cB p room c l=([],zE,(dP p room c l).2.2):=by unfold cB;rw[ew h]
theorem Cj{p:bZ}{room c:Int}{l:List aS}(h:(dP p room c l).2.2=0)(h2:(dP p room c l).1.length≠l.length\/vF (dP p room c l).2.1=false):cB p room c l=([],zE,13):=by unfold cB;rw[ej (by rw[h];decide),ew h2]
theorem yB{p:bZ}{room c:Int}{l:List aS}(h:(dP p room c l).2.2=0)(h2:¬ ((dP p room c l).1.length≠l.length\/vF (dP p room c l).2.1=false)):cB p room c l=((pY (gS p room c) (dP p room c l).1 (dP p room c l).2.1).1,(pY (gS p room c) (dP p room c l).1 (dP p room c l).2.1).2,0):=by unfold cB;rw[ej (by rw[h];decide),ej h2];rfl
theorem oR(p:bZ)(room c:Int)(s:List aS):(gS p room c s).1.length<=s.length:=Dj
def Pu(bs be:Nat)(s:List aS)(e:aS):HP:=qm λsv:SV=>qm λev:aI=>sep (bW bs [ir sv]) (sep (bW be (j0 ev)) (dZ λw=>DL w (ir sv) s/\mi w ev e))
section
variable {w0 w:World}{A:Nat->Prop}{L:List HP}{bs be:Nat}{s:List aS}{e:aS}
theorem Pu.open(u:St w0 A (Pu bs be s e::L) w):∃(sv:SV) (ev:aI),St w0 A (bW bs [ir sv]::bW be (j0 ev)::Fw.dZ (λw=>DL w (ir sv) s/\mi w ev e)::L) w:=by
 obtain⟨sv,u⟩:=u.eA
 obtain⟨ev,u⟩:=u.eA
 have u:=u.split.p1.split
 exact⟨sv,ev,u.p2⟩
theorem Pu.shut{sv:SV}{ev:aI}(u:St w0 A (bW bs [ir sv]::bW be (j0 ev)::Fw.dZ (λw=>DL w (ir sv) s/\mi w ev e)::L) w):St w0 A (Pu bs be s e::L) w:=by
 have u:=St.join u.p2.p2
 have u:=St.join u.p1
 exact St.eB sv (St.eB ev u)
end
def C100(K:hM)(p:bZ)(pv:bO)(room c:Int)(bp br bc bs be k:Nat)(s:List aS)(e:aS)(F:Nat->Prop)(w:World)(hF:(Pu bs be s e).p w F)(G:∀w',gJ F w w'->nh w' bp (j0 pv))(J:∀w',gJ F w w'->nh w' br [hZ room])(I:∀w',gJ F w w'->nh w' bc [hZ c])(U:∀w1,gJ F w w1->∀w2,Ext w1 w2->K w2)(hp:G9 K pv p)(hz:PZ p)(zp:s.length<=1000)(HL:∀q∈s,q.cut.length<=1000) :
  CR 100 [hZ (k:Int),.pointer (some ⟨bp,0,none⟩),.pointer (some ⟨br,0,none⟩),.pointer (some ⟨bc,0,none⟩),.pointer (some ⟨bs,0,none⟩),.pointer (some ⟨be,0,none⟩)] w (λv w'=>v=.bool (jH ((gS p room c) (mq s (k:Int))).2 e)/\nd F (Pu bs be (if jH ((gS p room c) (mq s (k:Int))).2 e=true then((gS p room c) (mq s (k:Int))).1 else s) (if jH ((gS p room c) (mq s (k:Int))).2 e=true then((gS p room c) (mq s (k:Int))).2 else e)) w w'):=by
 obtain⟨sv,ev,u⟩:=Pu.open (St.begin hF);refine pj Tryz.func100 (pl:=aBS) ?_;obtain⟨M,u,hX⟩:=u.p2.BU;obtain⟨E,ewS⟩:∃E,E=w:=⟨_,rfl⟩;rw[show kK M w=kK M E by rw[ewS]]at u;rw[<- ewS]at hX;obtain⟨ts,Y⟩:Ha (kK M E) (ir sv) s:=Ha.of λw' h=>(hX w' h).1;have hn:ts.length=s.length:=(Y _ u.dZ).2.1;refine⟨λtv xv w'=>∃(O:Nat) (ov:Value) (B:aI),tv=ov/\xv=.pointer (some ⟨O,0,none⟩)/\St w F [bW O (j0 B),dZ (λw=>DL w ov ((gS p room c) (mq s (k:Int))).1/\mi w B ((gS p room c) (mq s (k:Int))).2),dZ (kK M E),bW bs [ir sv],bW be (j0 ev)] w',?_,?_⟩
 .have u:=u.drew;refine qK pv er (G _ u.aG) rfl (bN bL ((J _ u.aG).cell (o:=0) rfl) (bN bL ((I _ u.aG).cell (o:=0) rfl) (aB (v:=ir sv) JS u.p1.hb rfl ⟨dV WL u (C30 (kK M E) _ ts (k:Int) _ (λ_ e=>(u.ext e).dZ) (λw h=>(Y w h).1) cO) (λV _ W u=>⟨jE pv er (G _ u.aG) rfl,⟨aF bL ((J _ u.aG).cell (o:=0) rfl),⟨aF bL ((I _ u.aG).cell (o:=0) rfl),⟨?_,?_,trivial⟩⟩⟩⟩),?_,trivial⟩)))
  .refine dO WM (C27 (λw'=>K w'/\(kK M E) w'/\((kK M E) w'->dD (λ_=>True) w' V (mq ts (k:Int)))) p pv room c V (mq s (k:Int)) _ (λ_ e=>⟨U _ u.aG _ e,(u.ext e).p1.dZ,(u.ext e).dZ⟩) (hp.mono λ_ h=>h.1) hz ⟨_,λw' h=>⟨h.2.2 h.2.1,Dk (Y w' h.2.1).2⟩⟩ (by have:=uA s (k:Int);omega) λq Z=>HL q (ze Z)) ?_;rintro _ _ ⟨ov,B,rfl,W⟩;have u:=u.made W;refine aM rfl (aM rfl (aM rfl (aN u gu λO _ u=>?_)));refine⟨jE pv er (G _ u.aG) rfl,?_⟩;refine⟨aF bL ((J _ u.aG).cell (o:=0) rfl),?_⟩;refine⟨aF bL ((I _ u.aG).cell (o:=0) rfl),?_⟩
   refine⟨aF JS (u.p4.hb.cell rfl),?_⟩;exact aJ (x:=B) u eW rfl rfl (λ_ u=>have u:=u.p2.drop.p4.p4.p4.p4.p4;⟨O,ov,B,rfl,rfl,u⟩)
  .refine aN u gu (λO _ u=>?_);refine⟨jE pv er (G _ u.aG) rfl,?_⟩;refine⟨aF bL ((J _ u.aG).cell (o:=0) rfl),?_⟩;refine⟨aF bL ((I _ u.aG).cell (o:=0) rfl),?_⟩;refine⟨aF JS (u.p3.hb.cell rfl),?_⟩;refine dO WM (C27 (λw'=>K w'/\(kK M E) w'/\((kK M E) w'->dD (λ_=>True) w' V (mq ts (k:Int)))) p pv room c V (mq s (k:Int)) _ (λ_ e=>⟨U _ u.aG _ e,(u.ext e).p2.dZ,(u.ext e).p1.dZ⟩) (hp.mono λ_ h=>h.1) hz ⟨_,λw' h=>⟨h.2.2 h.2.1,Dk (Y w' h.2.1).2⟩⟩ (by have:=uA s (k:Int);omega) λq Z=>HL q (ze Z)) ?_;rintro _ _ ⟨ov,B,rfl,W⟩;have u:=u.made W
   exact aM rfl (aM rfl (aM rfl (aJ (x:=B) u.p1 eW rfl rfl λ_ u=>have u:=u.p2.drop.p4.p4.p4.p4.p4;⟨O,ov,B,rfl,rfl,u⟩)))
  refine aN u gu (λO _ u=>?_);refine⟨jE pv er (G _ u.aG) rfl,?_⟩;refine⟨aF bL ((J _ u.aG).cell (o:=0) rfl),?_⟩;refine⟨aF bL ((I _ u.aG).cell (o:=0) rfl),?_⟩;refine⟨aF JS (u.p2.hb.cell rfl),?_⟩;refine dV WL u (C30 (kK M E) _ ts (k:Int) _ (λ_ e=>(u.ext e).p1.dZ) (λw h=>(Y w h).1) cO) (λV _ W u=>?_);refine⟨jE pv er (G _ u.aG) rfl,?_⟩;refine⟨aF bL ((J _ u.aG).cell (o:=0) rfl),?_⟩;refine⟨aF bL ((I _ u.aG).cell (o:=0) rfl),?_⟩;refine dO WM (C27 (λw'=>K w'/\(kK M E) w'/\((kK M E) w'->dD (λ_=>True) w' V (mq ts (k:Int)))) p pv room c V (mq s (k:Int)) _ (λ_ e=>⟨U _ u.aG _ e,(u.ext e).p2.dZ,(u.ext e).dZ⟩) (hp.mono λ_ h=>h.1) hz ⟨_,λw' h=>⟨h.2.2 h.2.1,Dk (Y w' h.2.1).2⟩⟩ (by have:=uA s (k:Int);omega) λq Z=>HL q (ze Z)) ?_
  rintro _ _ ⟨ov,B,rfl,W⟩;have u:=u.made W;exact aM rfl (aM rfl (aM rfl (aJ (x:=B) u.p2 eW rfl rfl λ_ u=>have u:=u.p2.drop.p4.p4.p4.p4.p4;⟨O,ov,B,rfl,rfl,u⟩)))
 rintro _ _ _ ⟨O,ov,B,rfl,rfl,u⟩ _;obtain⟨XA,Xi⟩:=u.p1.dZ;have hev:=(hX _ u.p2.dZ).2;refine aD (x:=B) eW u.At (aD (x:=ev) eW u.p4.At (aW acQ u (C32 _ B e ev _ Xi hev) λ_ he u=>bT (bD (λc1=>?_) λc1=>?_)))
 .have c2:jH ((gS p room c) (mq s (k:Int))).2 e=false:=by simpa using c1
  rw[c2];have u:=u.drop.drop.dF hX;exact⟨rfl,(Pu.shut u.p1.p2.p1).mut⟩
 have c2:jH ((gS p room c) (mq s (k:Int))).2 e=true:=by simpa using c1
 rw[c2];obtain⟨tw,hrw,_⟩:=XA.open;obtain⟨oa,oc,rfl,_⟩:=id hrw;have u:=u.drew;refine aD (x:=B) eW u.At (aT u.p3 JS (dQ rfl) rfl λ_ u=>?_);refine⟨eL eW u.p1.At,?_⟩;exact aJ (x:=B) u.p4 eW rfl rfl (λ_ u=>have u:=u.p2.drop.p3.drop;⟨rfl,(Pu.shut (sv:=⟨oa,tw.length,oc⟩) u.p1).mut⟩)
theorem C35(K:hM)(p:bZ)(pv:bO)(room c:Int)(lv:Value)(l:List aS)(w:World)(hw:∀w',Ext w w'->K w')(hp:G9 K pv p)(hz:PZ p)(hl:Ha K lv l)(zp:l.length<=1000)(HL:∀q∈l,q.cut.length<=1000) :
  CR 35 [ir pv,hZ room,hZ c,lv] w (λv w'=>∃(ov:Value) (ev:aI),v=.tuple #[ov,ir ev,hZ (cB p room c l).2.2]/\kq (dZ λw=>DL w ov (cB p room c l).1/\mi w ev (cB p room c l).2.1) w w'):=by
 have u:=St.start w;refine pj Tryz.func35 (pl:=P35) ?_;refine cM (x:=pv) u (λb4 w1 u=>cM (x:=room) u λb5 w2 u=>cM (x:=c) u λb6 _ u=>aN u gu λb9 _ u=>have u:=u.enc (cs':=j0 (⟨0,0,0,bY⟩:aI)) rfl;aD er u.p3.At (aB (v:=hZ room) bL u.p2.hb rfl (aB (v:=hZ c) bL u.p1.hb rfl (dO WM (C27 K p pv room c lv l _ (λ_ e=>hw _ (u.aG.then e)) hp hz hl zp HL) ?_))));rintro _ _ ⟨ov,ev,rfl,cI⟩;have u:=u.made cI;refine aM rfl (aM rfl (aM rfl ?_));obtain⟨XA,Xi⟩:=u.dZ;obtain⟨t1,AL,_⟩:=XA.open;obtain⟨oa,oc,rfl,_⟩:=id AL
 refine gP u ajy rfl (λG _ u=>aN u gu λI _ u=>aT u.p1 JS (dQ rfl) rfl λ_ u=>aJ (x:=ev) u.p1 eW rfl rfl λ_ u=>bQ (aC (λc1=>?_) λc1=>?_))
 .refine pop oP (aJ (x:=(⟨0,0,0,bY⟩:aI)) u.p3 eW rfl rfl λw10 u=>aD (x:=(⟨0,0,0,bY⟩:aI)) eW u.At ?_);rw[Ci c1];exact⟨_,_,rfl,(u.drop.drop.drop.drop.drop.drop.drop.fk (Φ:=λw=>DL w (.slice none 0 0) []/\mi w (⟨0,0,0,bY⟩:aI) zE) λw=>⟨DL.nil w,tP w⟩).fresh⟩
 have c0:(dP p room c l).2.2=0:=u1.1 c1;obtain⟨XA,Xi⟩:=u.p2.dZ;obtain⟨t2,Ek,aBT⟩:=XA.open;have Hh:t2.length=(dP p room c l).1.length:=aBT.1;refine⟨λjv w'=>jv=.bool (decide ((dP p room c l).1.length≠l.length\/vF (dP p room c l).2.1=false))/\St w aX [bW I (j0 ev),bW G [ir (⟨oa,t1.length,oc⟩:SV)],dZ (λw=>DL w (.slice oa t1.length oc) (dP p room c l).1/\mi w ev (dP p room c l).2.1),bW b9 (j0 (⟨0,0,0,bY⟩:aI)),bW b6 (j0 c),bW b5 (j0 room),bW b4 (j0 pv)] w',?_,?_⟩
 .refine aB (v:=.slice oa t1.length oc) JS u.p1.hb rfl (aK fD Ek ?_);obtain⟨ts,wA⟩:=hl;have hn:ts.length=l.length:=(wA _ (hw _ u.aG)).2.1;refine aK fD (wA _ (hw _ u.aG)).1 (bQ (aC (λ_=>⟨vb (ez (.inl cO)).symm,u⟩) λc2=>aD (x:=ev) eW u.At (aW aBN u (C99 _ ev _ Xi) λw10 he u=>bT ?_)));refine⟨vb ?_,u⟩;cases hb:vF (dP p room c l).2.1 with
  | true=>exact(fV λh=>h.elim (λh=>h cO) λh=>by cases h).symm
  | false=>exact(ez (.inr rfl)).symm
 rintro _ _ ⟨rfl,u⟩ _;refine aC (λc2=>?_) (λc2=>?_)
 .refine pop oP (aJ (x:=(⟨0,0,0,bY⟩:aI)) u.p3 eW rfl rfl λ_ u=>aD (x:=(⟨0,0,0,bY⟩:aI)) eW u.At ?_);rw[Cj c0 c2];exact⟨_,_,rfl,(u.drop.drop.drop.drop.drop.drop.drop.fk (Φ:=λw=>DL w (.slice none 0 0) []/\mi w (⟨0,0,0,bY⟩:aI) zE) λw=>⟨DL.nil w,tP w⟩).fresh⟩
 have hls:=Pu.shut (sv:=⟨oa,t1.length,oc⟩) u.p1
 refine⟨λmm y w'=>∃(s:List aS) (e:aS) (ch:Bool),y=.bool ch/\mm=2*s.length+(if ch=true then 1 else 0)/\(s.length<=l.length/\(∀q∈s,q∈l)/\pY (gS p room c) (dP p room c l).1 (dP p room c l).2.1=(if ch=true then pY (gS p room c) s e else(s,e)))/\St w aX [Pu G I s e,bW b9 (j0 (⟨0,0,0,bY⟩:aI)),bW b6 (j0 c),bW b5 (j0 room),bW b4 (j0 pv)] w',
  ⟨_,(dP p room c l).1,(dP p room c l).2.1,true,rfl,rfl,⟨Dj,λ_ Y=>sB.subset Y,rfl⟩,hls⟩,?_⟩
 clear u hls
 rintro mm _ _ ⟨s,e,ch,rfl,rfl,⟨Pl,hsm,oq⟩,u⟩ _;refine bD (λc3=>?_) (λc3=>?_)
 .rw[ew c3]at oq;refine⟨λnn y1 y2 w'=>∃(k:Nat) (B:List aS) (J:aS) (E:Bool),y1=.bool E/\y2=hZ (k:Int)/\nn=B.length-k/\(B.length<=l.length/\(∀q∈B,q∈l)/\k<=1000/\lD (gS p room c) s e 0 false=lD (gS p room c) B J k E)/\St w aX [Pu G I B J,bW b9 (j0 (⟨0,0,0,bY⟩:aI)),bW b6 (j0 c),bW b5 (j0 room),bW b4 (j0 pv)] w',⟨_,0,s,e,false,rfl,rfl,rfl,⟨Pl,hsm,l0 _,rfl⟩,u⟩,?_⟩
  clear u
  rintro nn _ _ _ ⟨k,B,J,E,rfl,rfl,rfl,⟨Z,O,hk,V⟩,u⟩ _;obtain⟨sv,M,u⟩:=Pu.open u;obtain⟨hd3,hd4⟩:=u.p2.dZ;obtain⟨t3,Ow,aBU⟩:=hd3.open;have hl3:t3.length=B.length:=aBU.1;refine aB (v:=ir sv) JS u.hb rfl (aK fD Ow (have u:=Pu.shut u;aR (aC (λc4=>?_) λc4=>?_)))
  .have Ag:k<B.length:=cO
   have W:mq B (k:Int)=B.eraseIdx k:=Sg Ag;refine BD (first:=[]) (cap:=[.pointer (some ⟨b4,0,none⟩),.pointer (some ⟨b5,0,none⟩),.pointer (some ⟨b6,0,none⟩),.pointer (some ⟨G,0,none⟩),.pointer (some ⟨I,0,none⟩)]) (H':=λ_=>Pu G I (if jH ((gS p room c) (mq B (k:Int))).2 J=true then((gS p room c) (mq B (k:Int))).1 else B) (if jH ((gS p room c) (mq B (k:Int))).2 J=true then((gS p room c) (mq B (k:Int))).2 else J)) (Φ:=λv _=>v=.bool (jH ((gS p room c) (mq B (k:Int))).2 J)) auJ u (λF hF ea=>?_) ?_
   .exact C100 K p pv room c b4 b5 b6 G I k B J F _ hF (λw' hc=>(ea w' hc).p3.hb) (λw' hc=>(ea w' hc).p2.hb) (λw' hc=>(ea w' hc).p1.hb) (λw1 hc _ e=>hw _ ((ea w1 hc).aG.then e)) hp hz cO (λq Y=>HL q (O q Y))
   rintro _ _ rfl u;refine bD (λU=>?_) (λU=>?_)
   .rw[ew U,ew U]at u;have Is:=oR p room c (mq B (k:Int));have hwl:=qD Ag;rw[W]at u U Is;refine⟨_,?_,k,((gS p room c) (B.eraseIdx k)).1,((gS p room c) (B.eraseIdx k)).2,true,rfl,rfl,rfl,⟨cO,λq Y=>O q (Lq ((sB (l:=B.eraseIdx k)).subset Y)),hk,V.trans (zd (oR p room c) Ag U)⟩,u⟩;omega
   rw[ej (by rw[U];decide),ej (by rw[U];decide)]at u;rw[W]at U;refine aO cO ?_;refine⟨_,?_,k+1,B,J,E,rfl,rfl,rfl,⟨Z,O,cO,V.trans (Ch (oR p room c) Ag (by rw[U];decide))⟩,u⟩;omega
  rw[qE (D:=(gS p room c)) (s:=B) (e:=J) (k:=k) (ch:=E) cO]at V;have oD:=sC (oR p room c) (s.length+1) s e 0 false cO;rw[V]at oD;refine⟨_,?_,B,J,E,rfl,rfl,⟨Z,O,?_⟩,u⟩
  .rw[ew c3];cases E with
   | true=>have:=oD.2 rfl rfl;show 2*B.length+1<_;dsimp only at this;omega
   | false=>have:=oD.1;show 2*B.length+0<_;dsimp only at this;omega
  rw[oq];cases E with
  | true=>rw[ew rfl,Jp (oR p room c) (by rw[V]),V]
  | false=>rw[ej ee,Hd (by rw[V]),V]
 rw[ej (by rw[c3];decide)]at oq;obtain⟨sv,M,u⟩:=Pu.open u;have u:=u.drew;refine aB (v:=ir sv) JS u.hb rfl (aD (x:=M) eW u.p1.At (aJ (x:=M) u.p3 eW rfl rfl λ_ u=>aD (x:=M) eW u.At ?_));rw[yB c0 c2,oq];have u:=u.drop.drop.drop;exact⟨_,M,rfl,u.p1.drop.p1.drop.p1.drop.fresh⟩
def UL(u:Int):pr hH (mv 50 [(0,hZ u)].toArray)=some (.agg [hZ u,hZ 0,hZ 0,.slice none 0 0].toArray):=by kernel_rfl
def Pe(G:Int)(B:Int)(u:Option Addr)(I E:Nat):pr hH (mv 63 [(0,hZ G),(1,hZ B),(3,.slice u I E)].toArray)=some (.agg [hZ G,hZ B,hZ 0,.slice u I E].toArray):=by kernel_rfl
def agV(u:Option Addr)(B E:Nat):pr hH (mv 63 [(3,.slice u B E)].toArray)=some (.agg [hZ 0,hZ 0,hZ 0,.slice u B E].toArray):=by kernel_rfl
section
variable {α σ:Type}[Flat σ] [Deep α σ] {w:World}
theorem gk{t:σ}{x:α}{ts:List σ}{xs:List α}(h:mi w t x)(g:fT ts xs w):fT (t::ts) (x::xs) w:=by
 grind[fT]
end
def sj(w:World)(a b c:Int):mi w (⟨a,b,c,bY⟩:aI) (⟨a,b,c,[]⟩:aS):=⟨_,rfl,DL.nil w⟩
theorem e0(w:World){sv:SV}(a b c:Int){l:List Int}(h:dD (λ_=>True) w (ir sv) l):mi w (⟨a,b,c,sv⟩:aI) (⟨a,b,c,l⟩:aS):=⟨_,rfl,DL.jZ h⟩
def ai5(t:ByteArray):Bool:=match wQ t with
 | some r=>decide (r.1.length<=5000)&&r.1.all (λx=>decide (0<=x.at_/\x.at_<=1000000/\x.text.size<=1000000))
 | none=>false
def agW{t:ByteArray}(h:ai5 t=true):∀l e a,wQ t=some (l,e,a)->js l:=by
 intro l e a B
 unfold ai5 at h
 rw[B]at h
 simp only[n4,decide_eq_true_eq,List.all_eq_true]at h
 exact⟨h.1,λx u=>h.2 x u⟩
variable (w:World) (K:Value->hM)
def S34:Prop:=
 cF 65 [(Go.Value.string (kp (#[108,105,110,101,32,97,59,32,116,104,114,101,97,100,32,116,32,123,32,115,116,111,114,101,32,97,32,61,32,49,59,32,99,104,101,99,107,32,48,59,32,125,32,116,104,114,101,97,100,32,117,32,123,32,109,102,101,110,99,101,59,32,125])))] w λa b=>
 xT a 0 λc=>xT a 1 λ_=>xT a 2 λ_=>aL 27 b λp1 d=>sA 27 p1 c d λe=>eX hH (mv 50 [(0,(i 1))].toArray) λf=>eX hH (mv 50 [(0,(i 1)),(1,(i 1))].toArray) λg=>
 eX hH (mv 50 [(0,(i 2))].toArray) λh=>aL 50 e λE j=>aL 50 j λI k=>aL 50 k λG l=>sA 50 E f l λn=>sA 50 I g n λo=>sA 50 G h o λp=>
 lA 50 I p λq=>lA 50 E p λr=>lA 50 G p λs=>lA 50 E p λt=>bS 39 4 [(0,q),(1,r),(2,s),(3,t)] p λu v=>lA 27 p1 v λx=>cF 35 [x,(i 2),(i 0),u] v λy z=>
 xT y 0 λaa=>xT y 1 λab=>xT y 2 λac=>aL 63 z λO ae=>sA 63 O ab ae λM=>lA 27 p1 M λag=>lA 50 G M λah=>lA 50 E M λai=>lA 50 G M λaj=>
 lA 50 I M λak=>lA 50 I M λal=>bS 39 5 [(0,ah),(1,ai),(2,aj),(3,ak),(4,al)] M λam an=>cF 27 [ag,(i 2),(i 0),am] an λao ap=>xT ao 0 λaq=>
 xT ao 1 λar=>xT ao 2 λasx=>aL 63 ap λV au=>sA 63 V ar au λav=>eQ (λK1=>lA 27 p1 (drew av) λaw=>eX hH (n0 39 u none (some (i 1)) none) λax=>
 ((cF 35 [aw,(i 2),(i 0),ax] (drew av) λay az=>xT ay 0 λ_=>xT ay 1 λa0=>xT ay 2 λa1=>aL 63 az λa2 a3=>kA 27 p1 aw a3 (sA 63 a2 a0 a3 λa4=>K1 a1 a4))
 /\((aL 63 (drew av) λa5 a6=>kA 27 p1 aw a6 (cF 35 [aw,(i 2),(i 0),ax] a6 λa7 a8=>xT a7 0 λ_=>xT a7 1 λa9=>xT a7 2 λba=>sA 63 a5 a9 a8 λbb=>K1 ba bb))
 /\
 True))) (λg16 U=>∀_:Env,
 lA 27 p1 U λbd=>lA 50 G U λbe=>lA 50 E U λbf=>lA 50 E U λbg=>bS 39 3 [(0,be),(1,bf),(2,bg)] U λbh bi=>cF 35 [bd,(i 2),(i 0),bh] bi λbj bk=>
 xT bj 0 λ_=>xT bj 1 λbl=>xT bj 2 λbm=>aL 63 bk λbn bo=>sA 63 bn bl bo λbp=>lA 27 p1 bp λbq=>cF 27 [bq,(i 2),(i 9),(.slice none 0 0)] bp λbr bs=>xT br 0 λ_=>
 xT br 1 λbt=>xT br 2 λbu=>aL 63 bs λbv bw=>sA 63 bv bt bw λbx=>eQ (λK2=>lA 50 E (drew bx) λbz=>lA 50 E (drew bx) λb0=>bS 39 2 [(0,bz),(1,b0)] (drew bx) λb1 b2=>
 cF 19 [aa,b1] b2 λb3 b4=>cV b3 (lA 63 O b4 λb5=>bS 41 1 [(0,(i 0))] b4 λb6 b7=>kA 63 O b5 b7 (eX hH (mv 63 [(0,(i 3)),(1,(i 1)),(3,b6)].toArray) λb8=>
 cF 29 [b5,b8] b7 λb9 J=>cV b9 (bB .eql 31 ac (i 0) λcb=>cV cb (lA 50 E J λcc=>lA 50 G J λcd=>lA 50 I J λce=>bS 39 3 [(0,cc),(1,cd),(2,ce)] J λcf cg=>
 cF 19 [aq,cf] cg λch W=>cV ch (lA 63 V W λcj=>bS 41 1 [(0,(i 1))] W λck cl=>kA 63 V cj cl (eX hH (mv 63 [(3,ck)].toArray) λcm=>cF 29 [cj,cm] cl λcn B=>
 cV cn (bB .eql 31 asx (i 0) λcp=>cV cp (bB .eql 31 g16 (i 13) λcq=>cV cq (bB .eql 31 bm (i 13) λcr=>cV cr (bB .eql 31 bu (i 1) λcs=>cV cs (lA 50 I B λct=>
 lA 50 G B λcu=>lA 50 E B λcv=>((cF 30 [u,(i 1)] B λcw cx=>kA 50 I ct cx (kA 50 G cu cx (kA 50 E cv cx (bS 39 3 [(0,ct),(1,cu),(2,cv)] cx λcy cz=>
 cF 19 [cw,cy] cz λc0 c1=>cV c0 (cF 30 [u,(i 4)] c1 λc2 c3=>cF 19 [c2,u] c3 λc4 c5=>cV c4 (lA 63 O c5 λc6=>eX hH (mv 63 [(0,(i 3)),(1,(i 1))].toArray) λc7=>
 cF 32 [c6,c7] c5 λc8 c9=>cV c8 (lA 63 O c9 λda=>lA 63 V c9 λdb=>cF 32 [da,db] c9 λdc dd=>eX hH (Op.unary .not dc) λde=>K2 de dd) (K2 ff c9)) (K2 ff c5)) (
 K2 ff c1)))))
 /\((bS 39 3 [(0,ct),(1,cu),(2,cv)] B λdf dg=>cF 30 [u,(i 1)] dg λdh Z=>kA 50 I ct Z (kA 50 G cu Z (kA 50 E cv Z (cF 19 [dh,df] Z λdj dk=>cV dj (
 cF 30 [u,(i 4)] dk λdl dm=>cF 19 [dl,u] dm λdn dp=>cV dn (lA 63 O dp λdq=>eX hH (mv 63 [(0,(i 3)),(1,(i 1))].toArray) λdr=>cF 32 [dq,dr] dp λds Y=>
 cV ds (lA 63 O Y λdu=>lA 63 V Y λdv=>cF 32 [du,dv] Y λdw dx=>eX hH (Op.unary .not dw) λdy=>K2 dy dx) (K2 ff Y)) (K2 ff dp)) (K2 ff dk)))))
 /\
 True))) ((K2 ff B)
 /\((K2 ff B)
 /\
 True))) ((K2 ff B)
 /\((K2 ff B)
 /\
 True))) ((K2 ff B)
 /\((K2 ff B)
 /\
 True))) ((K2 ff B)
 /\((K2 ff B)
 /\
 True))) ((K2 ff B)
 /\((K2 ff B)
 /\
 True)))) ((K2 ff W)
 /\((K2 ff W)
 /\
 True))) ((K2 ff J)
 /\((K2 ff J)
 /\
 True))) ((K2 ff J)
 /\((K2 ff J)
 /\
 True)))) ((K2 ff b4)
 /\((K2 ff b4)
 /\
 True))) (λdz d0=>∀_:Env,
 K dz d0))
def P34:dM:=λi=>match i with
 | 6=>(.op 0 [] (.op 1 [] (.op 2 [] (.alt 3 [] (.of [(4,[]),(5,[]),(6,[]),(7,[]),(8,[0]),(9,[]),(10,[]),(11,[])]) (.alt 8 [0] (.of [(3,[]),(4,[]),(5,[]),(6,[]),(7,[]),(9,[]),(10,[]),(11,[])]) .stop)))))
 | 9=>(.op 0 [] (.op 1 [] (.op 2 [] (.op 3 [] (.op 4 [] (.op 5 [] (.op 6 [] (.op 7 [6] (.op 8 [] (.op 9 [] (.op 10 [] (.op 11 [] (.op 12 [] (.op 13 [] (.op 14 [] (.op 15 [] (.op 16 [] (.op 17 [] (.op 18 [] (.op 19 [] (.op 20 [] (.op 21 [] (.op 22 [] (.op 23 [] (.op 24 [] (.op 25 [24] (.op 26 [] (.op 27 [] (.op 28 [] (.op 29 [] (.op 30 [] (.op 31 [] (.op 32 [] (.op 33 [] (.op 34 [] (.op 35 [] (.op 36 [] (.op 37 [] (.op 38 [] (.op 39 [] (.op 40 [] (.op 41 [] (.op 42 [] (.op 43 [] (.op 44 [] (.op 45 [] (.op 46 [] (.op 48 [] (.op 49 [] (.op 50 [] (.alt 47 [48,49,50] (.of [(51,[]),(52,[]),(53,[]),(54,[]),(55,[]),(57,[]),(56,[]),(58,[]),(59,[]),(60,[]),(61,[]),(62,[]),(63,[]),(64,[]),(65,[]),(66,[]),(67,[]),(68,[]),(69,[]),(70,[]),(71,[])]) (.alt 51 [] (.of [(47,[48,49,50]),(52,[]),(53,[]),(54,[]),(55,[]),(57,[]),(56,[]),(58,[]),(59,[]),(60,[]),(61,[]),(62,[]),(63,[]),(64,[]),(65,[]),(66,[]),(67,[]),(68,[]),(69,[]),(70,[]),(71,[])]) .stop))))))))))))))))))))))))))))))))))))))))))))))))))))
 | _=>.nil
theorem ans(h:S34 w K):CR 34 [] w K:=
 qj 150 P34 1 [.tmp 0] Tryz.func34 h
theorem auL:PL 34:=dR Tryz.func34
end Go.Proofs.YtpdlpabnlkofmaaGreatDoor
namespace Go.Proofs.YtpdlpabnlkofmaaGreatDoor
open Go.Fw
def Jq(u:Int)(B:Int):pr hH (mv 63 [(0,hZ u),(1,hZ B)].toArray)=some (.agg [hZ u,hZ B,hZ 0,.slice none 0 0].toArray):=by kernel_rfl
def UM:ByteArray:=⟨#[108,105,110,101,32,97,59,32,116,104,114,101,97,100,32,116,32,123,32,115,116,111,114,101,32,97,32,61,32,49,59,32,99,104,101,99,107,32,48,59,32,125,32,116,104,114,101,97,100,32,117,32,123,32,109,102,101,110,99,101,59,32,125]⟩
def ru:bZ:=((wm UM).getD (OD,0,0)).1
def Sh:wm UM=some (ru,0,0):=by decide +kernel
def WO:∀l e a,wQ UM=some (l,e,a)->js l:=agW (by decide +kernel)
theorem acU:cK ru=ru:=by decide +kernel
def zh:PZ ru:=by rw[<- acU];exact TA _
def aBV:cB ru 2 0 ([(⟨1,1,0,[]⟩:aS),(⟨1,0,0,[]⟩:aS),(⟨2,0,0,[]⟩:aS),(⟨1,0,0,[]⟩:aS)]:List aS)=(([(⟨1,0,0,[]⟩:aS),(⟨1,0,0,[]⟩:aS)]:List aS),(⟨3,1,0,[0]⟩:aS),0)/\dP ru 2 0 ([(⟨2,0,0,[]⟩:aS),(⟨1,0,0,[]⟩:aS),(⟨2,0,0,[]⟩:aS),(⟨1,1,0,[]⟩:aS),(⟨1,1,0,[]⟩:aS)]:List aS)=(([(⟨1,0,0,[]⟩:aS),(⟨2,0,0,[]⟩:aS),(⟨1,1,0,[]⟩:aS)]:List aS),(⟨0,0,0,[1]⟩:aS),0)/\cB ru 2 0 ([(⟨1,1,0,[]⟩:aS)]:List aS)=([],zE,13)/\cB ru 2 0 ([(⟨2,0,0,[]⟩:aS),(⟨1,0,0,[]⟩:aS),(⟨1,0,0,[]⟩:aS)]:List aS)=([],zE,13)/\dP ru 2 9 []=([],zE,1):=by decide +kernel
def agX(R:List aS×aS×Int)(K:hM)(p:bZ)(pv:bO)(room c:Int)(lv:Value)(l:List aS)(w:World)(B:∀w',Ext w w'->K w')(G:G9 K pv p)(I:PZ p)(M:Ha K lv l)(J:l.length<=1000)(E:∀q∈l,q.cut.length<=1000)(u:cB p room c l=R) :
  Calls hH 35 [ir pv,hZ room,hZ c,lv].toArray w (tQ λv w'=>∃(ov:Value) (ev:aI),v=.tuple #[ov,ir ev,hZ R.2.2]/\kq (dZ λw=>DL w ov R.1/\mi w ev R.2.1) w w'):=u▸C35 K p pv room c lv l w B G I M J E
def auM(R:List aS×aS×Int)(K:hM)(p:bZ)(pv:bO)(room c:Int)(lv:Value)(l:List aS)(w:World)(B:∀w',Ext w w'->K w')(G:G9 K pv p)(I:PZ p)(M:Ha K lv l)(J:l.length<=1000)(E:∀q∈l,q.cut.length<=1000)(u:dP p room c l=R) :
  Calls hH 27 [ir pv,hZ room,hZ c,lv].toArray w (tQ λv w'=>∃(ov:Value) (ev:aI),v=.tuple #[ov,ir ev,hZ R.2.2]/\kq (dZ λw=>DL w ov R.1/\mi w ev R.2.1) w w'):=u▸C27 K p pv room c lv l w B G I M J E
def C34(w:World):CR 34 [] w (λv w'=>v=.bool true/\Ext w w'):=by
 have u:=St.start w;refine ans _ _ ?_;unfold S34;obtain⟨r1,r2,r3,r4,r5⟩:=aBV;refine dO awJ (C65 UM (ru,0,0) _ ee Sh WO) ?_;rintro _ _ ⟨pv,rfl,B⟩;have u:=u.made B;refine aM rfl (aM rfl (aM rfl (aN u vN λb1 _ u=>aJ (x:=pv) u er rfl rfl λ_ u=>pop (UL 1) (pop (C7 1 1) (pop (UL 2) (aN u E8 λb4 _ u=>aN u E8 λb5 _ u=>aN u E8 λb6 _ u=>aJ (x:=(⟨1,0,0,bY⟩:aI)) u.p2 kj rfl rfl λ_ u=>aJ (x:=(⟨1,1,0,bY⟩:aI)) u.p2 kj rfl rfl λ_ u=>?_))))));refine aJ (x:=(⟨2,0,0,bY⟩:aI)) u.p2 kj rfl rfl (λJ u=>?_)
 have u:=u.p4;obtain⟨M,u,hX⟩:=u.BU;have O:G9 (kK M J) pv ru:=G9.of hX;refine aD (x:=(⟨1,1,0,bY⟩:aI)) kj u.p2.At (aD (x:=(⟨1,0,0,bY⟩:aI)) kj u.p3.At (aD (x:=(⟨2,0,0,bY⟩:aI)) kj u.p1.At (aD (x:=(⟨1,0,0,bY⟩:aI)) kj u.p3.At (aV ([(⟨1,1,0,bY⟩:aI),(⟨1,0,0,bY⟩:aI),(⟨2,0,0,bY⟩:aI),(⟨1,0,0,bY⟩:aI)]:List aI) u fD rfl rfl (dQ rfl) λE _ u=>aD (x:=pv) er u.p5.At (dO acT (agX _ (λw'=>kK M J w'/\dD (λ_=>True) w' E ([(⟨1,1,0,bY⟩:aI),(⟨1,0,0,bY⟩:aI),(⟨2,0,0,bY⟩:aI),(⟨1,0,0,bY⟩:aI)]:List aI)) ru pv 2 0 E ([(⟨1,1,0,[]⟩:aS),(⟨1,0,0,[]⟩:aS),(⟨2,0,0,[]⟩:aS),(⟨1,0,0,[]⟩:aS)]:List aS) _ (λ_ e=>⟨(u.ext e).p1.dZ,(u.ext e).dW⟩) (O.mono λ_ h=>h.1) zh ⟨_,λ_ h=>⟨h.2,(gk (sj _ 1 1 0) (gk (sj _ 1 0 0) (gk (sj _ 2 0 0) (gk (sj _ 1 0 0) fT.nil))))⟩⟩ ee ee r1) ?_)))))
 rintro _ _ ⟨om,G,rfl,B⟩;have u:=u.made B;refine aM rfl (aM rfl (aM rfl (aN u gu λb9 _ u=>aJ (x:=G) u eW rfl rfl λ_ u=>aD (x:=pv) er u.p7.At (aD (x:=(⟨2,0,0,bY⟩:aI)) kj u.p4.At (aD (x:=(⟨1,0,0,bY⟩:aI)) kj u.p6.At (aD (x:=(⟨2,0,0,bY⟩:aI)) kj u.p4.At (aD (x:=(⟨1,1,0,bY⟩:aI)) kj u.p5.At (aD (x:=(⟨1,1,0,bY⟩:aI)) kj u.p5.At (aV ([(⟨2,0,0,bY⟩:aI),(⟨1,0,0,bY⟩:aI),(⟨2,0,0,bY⟩:aI),(⟨1,1,0,bY⟩:aI),(⟨1,1,0,bY⟩:aI)]:List aI) u fD rfl rfl (dQ rfl) λY _ u=>dO WM (auM _ (λw'=>kK M J w'/\dD (λ_=>True) w' Y ([(⟨2,0,0,bY⟩:aI),(⟨1,0,0,bY⟩:aI),(⟨2,0,0,bY⟩:aI),(⟨1,1,0,bY⟩:aI),(⟨1,1,0,bY⟩:aI)]:List aI)) ru pv 2 0 Y ([(⟨2,0,0,[]⟩:aS),(⟨1,0,0,[]⟩:aS),(⟨2,0,0,[]⟩:aS),(⟨1,1,0,[]⟩:aS),(⟨1,1,0,[]⟩:aS)]:List aS) _ (λ_ e=>⟨(u.ext e).p4.dZ,(u.ext e).dW⟩) (O.mono λ_ h=>h.1) zh ⟨_,λ_ h=>⟨h.2,(gk (sj _ 2 0 0) (gk (sj _ 1 0 0) (gk (sj _ 2 0 0) (gk (sj _ 1 1 0) (gk (sj _ 1 1 0) fT.nil)))))⟩⟩ ee ee r2) ?_)))))))))
 rintro _ _ ⟨od,I,rfl,B⟩;have u:=u.made B;refine aM rfl (aM rfl (aM rfl (aN u gu λb12 _ u=>aJ (x:=I) u eW rfl rfl λ_ u=>?_)));have u:=u.p2.drop;refine⟨λjv w'=>jv=hZ 13/\St w aX [bW b12 (j0 I),dZ (λw=>DL w od ([(⟨1,0,0,[]⟩:aS),(⟨2,0,0,[]⟩:aS),(⟨1,1,0,[]⟩:aS)]:List aS)/\mi w I (⟨0,0,0,[1]⟩:aS)),bW b9 (j0 G),dZ (λw=>DL w om ([(⟨1,0,0,[]⟩:aS),(⟨1,0,0,[]⟩:aS)]:List aS)/\mi w G (⟨3,1,0,[0]⟩:aS)),bE E ([(⟨1,1,0,bY⟩:aI),(⟨1,0,0,bY⟩:aI),(⟨2,0,0,bY⟩:aI),(⟨1,0,0,bY⟩:aI)]:List aI),dZ (kK M J),bW b6 (j0 (⟨2,0,0,bY⟩:aI)),bW b5 (j0 (⟨1,1,0,bY⟩:aI)),bW b4 (j0 (⟨1,0,0,bY⟩:aI)),bW b1 (j0 pv)] w',?_,?_⟩
 .have u:=u.drew;refine aD (x:=pv) er u.p9.At (jY fD u.p4.dW ee ee λx58 Z=>⟨?_,?_,trivial⟩)
  .refine dO acT (agX _ (λw'=>kK M J w'/\dD (λ_=>True) w' E ([(⟨1,1,0,bY⟩:aI),(⟨1,0,0,bY⟩:aI),(⟨2,0,0,bY⟩:aI),(⟨1,0,0,bY⟩:aI)]:List aI)) ru pv 2 0 x58 ([(⟨1,1,0,[]⟩:aS)]:List aS) _ (λ_ e=>⟨(u.ext e).p5.dZ,((u.ext e).p4).dW⟩) (O.mono λ_ h=>h.1) zh ⟨_,λw h=>⟨Z w h.2,(gk (sj _ 1 1 0) fT.nil)⟩⟩ ee ee r3) ?_;rintro _ _ ⟨o3,e3,rfl,B⟩;have u:=u.made B;refine aM rfl (aM rfl (aM rfl (aN u gu λb15 _ u=>?_)));refine⟨eL er u.p11.At,?_⟩;exact aJ (x:=e3) u eW rfl rfl (λ_ u=>have u:=u.drop.drop.p9.p9.p9.p9.p9.p9.p9.p9.p9.p9;⟨rfl,u⟩)
  refine aN u gu (λb15 _ u=>?_);refine⟨eL er u.p10.At,?_⟩;refine dO acT (agX _ (λw'=>kK M J w'/\dD (λ_=>True) w' E ([(⟨1,1,0,bY⟩:aI),(⟨1,0,0,bY⟩:aI),(⟨2,0,0,bY⟩:aI),(⟨1,0,0,bY⟩:aI)]:List aI)) ru pv 2 0 x58 ([(⟨1,1,0,[]⟩:aS)]:List aS) _ (λ_ e=>⟨(u.ext e).p6.dZ,((u.ext e).p5).dW⟩) (O.mono λ_ h=>h.1) zh ⟨_,λw h=>⟨Z w h.2,(gk (sj _ 1 1 0) fT.nil)⟩⟩ ee ee r3) ?_;rintro _ _ ⟨o3,e3,rfl,B⟩;have u:=u.made B;exact aM rfl (aM rfl (aM rfl (aJ (x:=e3) u.p1 eW rfl rfl λ_ u=>have u:=u.drop.drop.p9.p9.p9.p9.p9.p9.p9.p9.p9.p9;⟨rfl,u⟩)))
 rintro _ _ ⟨rfl,u⟩ _;refine aD (x:=pv) er u.p9.At (aD (x:=(⟨2,0,0,bY⟩:aI)) kj u.p6.At (aD (x:=(⟨1,0,0,bY⟩:aI)) kj u.p8.At (aD (x:=(⟨1,0,0,bY⟩:aI)) kj u.p8.At (aV ([(⟨2,0,0,bY⟩:aI),(⟨1,0,0,bY⟩:aI),(⟨1,0,0,bY⟩:aI)]:List aI) u fD rfl rfl (dQ rfl) λx68 _ u=>dO acT (agX _ (λw'=>kK M J w'/\dD (λ_=>True) w' x68 ([(⟨2,0,0,bY⟩:aI),(⟨1,0,0,bY⟩:aI),(⟨1,0,0,bY⟩:aI)]:List aI)) ru pv 2 0 x68 ([(⟨2,0,0,[]⟩:aS),(⟨1,0,0,[]⟩:aS),(⟨1,0,0,[]⟩:aS)]:List aS) _ (λ_ e=>⟨(u.ext e).p6.dZ,(u.ext e).dW⟩) (O.mono λ_ h=>h.1) zh ⟨_,λ_ h=>⟨h.2,(gk (sj _ 2 0 0) (gk (sj _ 1 0 0) (gk (sj _ 1 0 0) fT.nil)))⟩⟩ ee ee r4) ?_))))
 rintro _ _ ⟨o4,e4,rfl,B⟩;have u:=u.made B;refine aM rfl (aM rfl (aM rfl (aN u gu λb18 _ u=>aJ (x:=e4) u eW rfl rfl λ_ u=>have u:=u.drop.p1.drop.drop;aD (x:=pv) er u.p9.At (dO WM (auM _ (kK M J) ru pv 2 9 (.slice none 0 0) [] _ (λ_ e=>(u.ext e).p5.dZ) O zh (Ha.nil _) ee ee r5) ?_))));rintro _ _ ⟨o5,e5,rfl,B⟩;have u:=u.made B;refine aM rfl (aM rfl (aM rfl (aN u gu λb21 _ u=>aJ (x:=e5) u eW rfl rfl λ_ u=>?_)));have u:=u.drop.drop;refine⟨λjv w'=>jv=.bool true/\Ext w w',?_,?_⟩;rotate_left
 .rintro _ _ h _;exact h
 have u:=u.drew;refine aD (x:=(⟨1,0,0,bY⟩:aI)) kj u.p8.At (aD (x:=(⟨1,0,0,bY⟩:aI)) kj u.p8.At (aV ([(⟨1,0,0,bY⟩:aI),(⟨1,0,0,bY⟩:aI)]:List aI) u fD rfl rfl (dQ rfl) λq1 _ u=>aW UZ u (C19 om q1 ([(⟨1,0,0,[]⟩:aS),(⟨1,0,0,[]⟩:aS)]:List aS) ([(⟨1,0,0,[]⟩:aS),(⟨1,0,0,[]⟩:aS)]:List aS) _ u.p4.dZ.1 (DL.of u.dW (gk (sj _ 1 0 0) (gk (sj _ 1 0 0) fT.nil))) ee ee) λ_ W u=>kr ee (have u:=u.drop;aD (x:=G) eW u.p2.At (aV ([0]:List Int) u cS rfl rfl (dQ rfl) λz1 _ u=>?_))));refine⟨eL eW u.p3.At,?_⟩
 obtain⟨s1,rfl⟩:=u.fN;refine pop (Pe 3 1 _ _ _) ?_;have Vg:mi _ (⟨3,1,0,s1⟩:aI) (⟨3,1,0,[0]⟩:aS):=e0 _ _ _ _ u.dW;refine aW ann u (C29 (⟨3,1,0,[0]⟩:aS) G (⟨3,1,0,[0]⟩:aS) (⟨3,1,0,s1⟩:aI) _ u.p4.dZ.2 Vg ee) (λ_ W u=>kr ee (have u:=u.drop;aH (aC (λ_=>?_) λh=>absurd rfl h)));refine aD (x:=(⟨1,0,0,bY⟩:aI)) kj u.p8.At (aD (x:=(⟨2,0,0,bY⟩:aI)) kj u.p6.At (aD (x:=(⟨1,1,0,bY⟩:aI)) kj u.p7.At (aV ([(⟨1,0,0,bY⟩:aI),(⟨2,0,0,bY⟩:aI),(⟨1,1,0,bY⟩:aI)]:List aI) u fD rfl rfl (dQ rfl) λq2 _ u=>aW UZ u (C19 od q2 ([(⟨1,0,0,[]⟩:aS),(⟨2,0,0,[]⟩:aS),(⟨1,1,0,[]⟩:aS)]:List aS) ([(⟨1,0,0,[]⟩:aS),(⟨2,0,0,[]⟩:aS),(⟨1,1,0,[]⟩:aS)]:List aS) _ u.p2.dZ.1 (DL.of u.dW (gk (sj _ 1 0 0) (gk (sj _ 2 0 0) (gk (sj _ 1 1 0) fT.nil)))) ee ee) λ_ W u=>kr ee (have u:=u.drop;aD (x:=I) eW u.At (aV ([1]:List Int) u cS rfl rfl (dQ rfl) λz2 _ u=>?_)))))
 refine⟨eL eW u.p1.At,?_⟩;obtain⟨s2,rfl⟩:=u.fN;refine pop (agV _ _ _) ?_;have hz2:mi _ (⟨0,0,0,s2⟩:aI) (⟨0,0,0,[1]⟩:aS):=e0 _ _ _ _ u.dW;refine aW ann u (C29 (⟨0,0,0,[1]⟩:aS) I (⟨0,0,0,[1]⟩:aS) (⟨0,0,0,s2⟩:aI) _ u.p2.dZ.2 hz2 ee) (λ_ W u=>kr ee (have u:=u.drop;aH (aC (λ_=>aH (aC (λ_=>aH (aC (λ_=>aH (aC (λ_=>aD (x:=(⟨1,1,0,bY⟩:aI)) kj u.p7.At (aD (x:=(⟨2,0,0,bY⟩:aI)) kj u.p6.At (aD (x:=(⟨1,0,0,bY⟩:aI)) kj u.p8.At ⟨?_,?_,trivial⟩))) λh=>absurd rfl h)) λh=>absurd rfl h)) λh=>absurd rfl h)) λh=>absurd rfl h)))
 .refine dV WL u (C30 (λw'=>dD (λ_=>True) w' E ([(⟨1,1,0,bY⟩:aI),(⟨1,0,0,bY⟩:aI),(⟨2,0,0,bY⟩:aI),(⟨1,0,0,bY⟩:aI)]:List aI)) E ([(⟨1,1,0,bY⟩:aI),(⟨1,0,0,bY⟩:aI),(⟨2,0,0,bY⟩:aI),(⟨1,0,0,bY⟩:aI)]:List aI) 1 _ (λ_ e=>((u.ext e).p4).dW) (λ_ h=>h) ee) (λU _ B u=>?_);refine⟨eL kj u.p8.At,?_⟩;refine⟨eL kj u.p7.At,?_⟩;refine⟨eL kj u.p9.At,?_⟩;refine aV ([(⟨1,1,0,bY⟩:aI),(⟨2,0,0,bY⟩:aI),(⟨1,0,0,bY⟩:aI)]:List aI) u fD rfl rfl (dQ rfl) (λq3 _ u=>?_);have AL:dD (λ_=>True) _ U ([(⟨1,1,0,bY⟩:aI),(⟨2,0,0,bY⟩:aI),(⟨1,0,0,bY⟩:aI)]:List aI):=u.p1.dZ u.p6.dW
  refine aW UZ u (C19 U q3 ([(⟨1,1,0,[]⟩:aS),(⟨2,0,0,[]⟩:aS),(⟨1,0,0,[]⟩:aS)]:List aS) ([(⟨1,1,0,[]⟩:aS),(⟨2,0,0,[]⟩:aS),(⟨1,0,0,[]⟩:aS)]:List aS) _ (DL.of AL (gk (sj _ 1 1 0) (gk (sj _ 2 0 0) (gk (sj _ 1 0 0) fT.nil)))) (DL.of u.dW (gk (sj _ 1 1 0) (gk (sj _ 2 0 0) (gk (sj _ 1 0 0) fT.nil)))) ee ee) (λ_ W u=>kr ee (have u:=u.drop;dV WL u (C30 (λw'=>dD (λ_=>True) w' E ([(⟨1,1,0,bY⟩:aI),(⟨1,0,0,bY⟩:aI),(⟨2,0,0,bY⟩:aI),(⟨1,0,0,bY⟩:aI)]:List aI)) E ([(⟨1,1,0,bY⟩:aI),(⟨1,0,0,bY⟩:aI),(⟨2,0,0,bY⟩:aI),(⟨1,0,0,bY⟩:aI)]:List aI) 4 _ (λ_ e=>((u.ext e).p5).dW) (λ_ h=>h) ee) λV _ B u=>?_))
  have WH:dD (λ_=>True) _ V ([(⟨1,1,0,bY⟩:aI),(⟨1,0,0,bY⟩:aI),(⟨2,0,0,bY⟩:aI),(⟨1,0,0,bY⟩:aI)]:List aI):=u.dZ u.p6.dW;exact aW UZ u (C19 V E ([(⟨1,1,0,[]⟩:aS),(⟨1,0,0,[]⟩:aS),(⟨2,0,0,[]⟩:aS),(⟨1,0,0,[]⟩:aS)]:List aS) ([(⟨1,1,0,[]⟩:aS),(⟨1,0,0,[]⟩:aS),(⟨2,0,0,[]⟩:aS),(⟨1,0,0,[]⟩:aS)]:List aS) _ (DL.of WH (gk (sj _ 1 1 0) (gk (sj _ 1 0 0) (gk (sj _ 2 0 0) (gk (sj _ 1 0 0) fT.nil))))) (DL.of u.p6.dW (gk (sj _ 1 1 0) (gk (sj _ 1 0 0) (gk (sj _ 2 0 0) (gk (sj _ 1 0 0) fT.nil))))) ee ee) (λ_ _ u=>kr ee (aD (x:=G) eW u.p4.At (pop (Jq 3 1) (aW acQ u (C32 (⟨3,1,0,[0]⟩:aS) G (⟨3,1,0,[]⟩:aS) (⟨3,1,0,bY⟩:aI) _ u.p5.dZ.2 (sj _ 3 1 0)) λ_ _ u=>kr ee (aD (x:=G) eW u.p4.At (aD (x:=I) eW u.p2.At (aW acQ u (C32 (⟨3,1,0,[0]⟩:aS) G (⟨0,0,0,[1]⟩:aS) I _ u.p5.dZ.2 u.p3.dZ.2) λ_ _ u=>bT ⟨rfl,u.aG⟩)))))))
 refine aV ([(⟨1,1,0,bY⟩:aI),(⟨2,0,0,bY⟩:aI),(⟨1,0,0,bY⟩:aI)]:List aI) u fD rfl rfl (dQ rfl) (λq3 _ u=>dV WL u (C30 (λw'=>dD (λ_=>True) w' E ([(⟨1,1,0,bY⟩:aI),(⟨1,0,0,bY⟩:aI),(⟨2,0,0,bY⟩:aI),(⟨1,0,0,bY⟩:aI)]:List aI)) E ([(⟨1,1,0,bY⟩:aI),(⟨1,0,0,bY⟩:aI),(⟨2,0,0,bY⟩:aI),(⟨1,0,0,bY⟩:aI)]:List aI) 1 _ (λ_ e=>((u.ext e).p5).dW) (λ_ h=>h) ee) λU _ B u=>?_);refine⟨eL kj u.p9.At,?_⟩;refine⟨eL kj u.p8.At,?_⟩;refine⟨eL kj u.p10.At,?_⟩;have AL:dD (λ_=>True) _ U ([(⟨1,1,0,bY⟩:aI),(⟨2,0,0,bY⟩:aI),(⟨1,0,0,bY⟩:aI)]:List aI):=u.dZ u.p6.dW
 refine aW UZ u (C19 U q3 ([(⟨1,1,0,[]⟩:aS),(⟨2,0,0,[]⟩:aS),(⟨1,0,0,[]⟩:aS)]:List aS) ([(⟨1,1,0,[]⟩:aS),(⟨2,0,0,[]⟩:aS),(⟨1,0,0,[]⟩:aS)]:List aS) _ (DL.of AL (gk (sj _ 1 1 0) (gk (sj _ 2 0 0) (gk (sj _ 1 0 0) fT.nil)))) (DL.of u.p1.dW (gk (sj _ 1 1 0) (gk (sj _ 2 0 0) (gk (sj _ 1 0 0) fT.nil)))) ee ee) (λ_ W u=>kr ee (have u:=u.p1.drop;dV WL u (C30 (λw'=>dD (λ_=>True) w' E ([(⟨1,1,0,bY⟩:aI),(⟨1,0,0,bY⟩:aI),(⟨2,0,0,bY⟩:aI),(⟨1,0,0,bY⟩:aI)]:List aI)) E ([(⟨1,1,0,bY⟩:aI),(⟨1,0,0,bY⟩:aI),(⟨2,0,0,bY⟩:aI),(⟨1,0,0,bY⟩:aI)]:List aI) 4 _ (λ_ e=>((u.ext e).p5).dW) (λ_ h=>h) ee) λV _ B u=>?_))
 have WH:dD (λ_=>True) _ V ([(⟨1,1,0,bY⟩:aI),(⟨1,0,0,bY⟩:aI),(⟨2,0,0,bY⟩:aI),(⟨1,0,0,bY⟩:aI)]:List aI):=u.dZ u.p6.dW;exact aW UZ u (C19 V E ([(⟨1,1,0,[]⟩:aS),(⟨1,0,0,[]⟩:aS),(⟨2,0,0,[]⟩:aS),(⟨1,0,0,[]⟩:aS)]:List aS) ([(⟨1,1,0,[]⟩:aS),(⟨1,0,0,[]⟩:aS),(⟨2,0,0,[]⟩:aS),(⟨1,0,0,[]⟩:aS)]:List aS) _ (DL.of WH (gk (sj _ 1 1 0) (gk (sj _ 1 0 0) (gk (sj _ 2 0 0) (gk (sj _ 1 0 0) fT.nil))))) (DL.of u.p6.dW (gk (sj _ 1 1 0) (gk (sj _ 1 0 0) (gk (sj _ 2 0 0) (gk (sj _ 1 0 0) fT.nil))))) ee ee) (λ_ _ u=>kr ee (aD (x:=G) eW u.p4.At (pop (Jq 3 1) (aW acQ u (C32 (⟨3,1,0,[0]⟩:aS) G (⟨3,1,0,[]⟩:aS) (⟨3,1,0,bY⟩:aI) _ u.p5.dZ.2 (sj _ 3 1 0)) λ_ _ u=>kr ee (aD (x:=G) eW u.p4.At (aD (x:=I) eW u.p2.At (aW acQ u (C32 (⟨3,1,0,[0]⟩:aS) G (⟨0,0,0,[1]⟩:aS) I _ u.p5.dZ.2 u.p3.dZ.2) λ_ _ u=>bT ⟨rfl,u.aG⟩)))))))
variable (w:World) (K:Value->hM)
def P9:dM:=λi=>match i with
 | 6=>(.of [(0,[]),(1,[]),(2,[]),(3,[]),(4,[]),(5,[]),(6,[]),(7,[]),(8,[]),(9,[]),(10,[]),(11,[]),(12,[]),(13,[]),(14,[]),(15,[]),(16,[]),(17,[]),(18,[]),(19,[]),(20,[]),(21,[]),(22,[]),(23,[]),(25,[]),(26,[]),(27,[]),(28,[]),(29,[]),(24,[25,28]),(30,[]),(31,[]),(32,[]),(33,[]),(34,[]),(35,[]),(36,[])])
 | _=>.nil
end Go.Proofs.YtpdlpabnlkofmaaGreatDoor
namespace Go.Proofs.YtpdlpabnlkofmaaGreatDoor
open Go.Fw
theorem acV{p:bZ}{c:Int}(hc:Hl p):∀(l:List aS) (m:gl) (o:List cD) (a:Nat),oo p a m->oo p (a+l.length) (rI c m o l).1
 | [],m,o,a,h=>h
 | q::r,m,o,a,h=>by
  rw[oi]
  unfold rI
  split
  .exact h.mono cO
  .split
   .exact(h.step hc).mono cO
   .exact(acV hc r _ _ _ (h.step hc)).mono cO
def acW{p:bZ}{room c:Int}(h:ep p room c=0):fg p=0/\(1<=room/\room<=16)/\0<=c/\c<=8:=by
 unfold ep at h
 omega
def ant{p:bZ}{room c:Int}(u:PZ p)(h:ep p room c=0)(l:List aS):oo p l.length (rI c (gj p room) [] l).1:=by
 obtain⟨h1,h2,_⟩:=acW h
 have:=acV (c:=c) (pS h1) l _ [] 0 (oo.new u (pS h1) h2)
 grind
def acX{p:bZ}{room c:Int}(B:PZ p)(l:List aS):(dN p room c l).1.cut.length<=1073741824:=by
 unfold dN
 split
 .exact l0 _
 rename_i h
 split
 .exact l0 _
 have u:=(ant B (u1.1 h) l).go.ok
 show(List.take _ _).length<=_
 rw[l1]
 have:=u.mem.ll;have:=u.mem.fl
 omega
variable (w:World) (K:Value->hM)
def P4:dM:=λi=>match i with
 | 6=>(.of [(0,[]),(1,[]),(2,[]),(3,[]),(4,[]),(5,[]),(6,[]),(7,[]),(8,[]),(9,[]),(10,[]),(11,[]),(12,[]),(13,[]),(14,[]),(15,[]),(16,[]),(18,[]),(19,[]),(20,[]),(17,[20]),(21,[]),(22,[]),(23,[]),(24,[]),(25,[]),(26,[]),(27,[]),(28,[]),(30,[]),(31,[]),(32,[]),(33,[]),(29,[30,32]),(34,[]),(35,[]),(36,[]),(37,[]),(38,[]),(39,[]),(40,[])])
 | _=>.nil
end Go.Proofs.YtpdlpabnlkofmaaGreatDoor
namespace Go.Proofs.YtpdlpabnlkofmaaGreatDoor
open Go.Fw
theorem DO{p:bZ}{room c:Int}{l:List aS}:dP p room c (dP p room c l).1=dP p room c l:=by
 by_cases h:ep p room c=0
 .rw[si h,si h]
  show((fC c (gj p room) (fC c (gj p room) l).2).2,zz (fC c (gj p room) (fC c (gj p room) l).2).1,(0:Int))=_
  rw[uz]
 rw[qO h,qO h]
def WQ{p:bZ}{room c:Int}(u:PZ p)(l:List aS):(dP p room c l).2.1.cut.length<=1073741824:=by
 by_cases h:ep p room c=0
 .rw[si h]
  show(zz _).cut.length<=_
  rw[<- (Hc h l).1]
  exact acX u _
 rw[qO h];exact l0 _
section
variable {D:List aS->List aS×aS}(hD:∀s,(D s).1.length<=s.length) {Q:List aS->aS->Prop}
include hD in
theorem Dl(h:∀s e k,k<s.length->jH (D (s.eraseIdx k)).2 e=true->Q s e->Q (D (s.eraseIdx k)).1 (D (s.eraseIdx k)).2):∀(n:Nat) (s:List aS) (e:aS) (k:Nat) (ch:Bool),s.length<n+k->Q s e->Q (lD D s e k ch).1 (lD D s e k ch).2.1
 | 0,s,e,k,ch,B,u=>by rw[qE cO];exact u
 | n+1,s,e,k,ch,B,u=>by
  by_cases h1:k<s.length
  .have h3:=hD (s.eraseIdx k)
   have h4:=qD h1
   by_cases h2:jH (D (s.eraseIdx k)).2 e=true
   .rw[zd hD h1 h2]
    exact Dl h n _ _ k true cO (h s e k h1 h2 u)
   .rw[Ch hD h1 h2]
    exact Dl h n s e (k+1) ch cO u
  .rw[qE h1];exact u
include hD in
theorem AJ:∀(n:Nat) (s:List aS) (e:aS) (k:Nat) (ch:Bool),s.length<n+k->(lD D s e k ch).2.2=false->lD D s e k ch=(s,e,false)/\ch=false/\∀j,k<=j->j<s.length->jH (D (s.eraseIdx j)).2 e=false
 | 0,s,e,k,ch,E,h=>by
  rw[qE cO]at h |-
  exact⟨by rw[show ch=false from h],h,λj h1 h2=>cO⟩
 | n+1,s,e,k,ch,E,h=>by
  by_cases h1:k<s.length
  .have h3:=hD (s.eraseIdx k)
   have h4:=qD h1
   by_cases h2:jH (D (s.eraseIdx k)).2 e=true
   .rw[zd hD h1 h2]at h
    have:=(AJ n _ _ k true cO h).2.1
    cases this
   .rw[Ch hD h1 h2]at h |-
    obtain⟨I,B,M⟩:=AJ n s e (k+1) ch cO h
    refine⟨I,B,λj J G=>?_⟩
    by_cases u:j=k
    .rw[u];simpa using h2
    .exact M j cO G
  .rw[qE h1]at h |-
   exact⟨by rw[show ch=false from h],h,λj h1 h2=>cO⟩
include hD in
theorem He(h:∀s e k,k<s.length->jH (D (s.eraseIdx k)).2 e=true->Q s e->Q (D (s.eraseIdx k)).1 (D (s.eraseIdx k)).2):∀(n:Nat) (s:List aS) (e:aS),s.length<n->Q s e->
  Q (pY D s e).1 (pY D s e).2/\∀j,j<(pY D s e).1.length->jH (D ((pY D s e).1.eraseIdx j)).2 (pY D s e).2=false
 | 0,s,e,u,_=>absurd u (Nn _)
 | n+1,s,e,u,B=>by
  have G:=Dl hD h (s.length+1) s e 0 false cO B
  have J:=sC hD (s.length+1) s e 0 false cO
  cases hc:(lD D s e 0 false).2.2 with
  | true=>
   rw[Jp hD hc]
   exact He h n _ _ (by have:=J.2 rfl hc;omega) G
  | false=>
   obtain⟨I,_,M⟩:=AJ hD (s.length+1) s e 0 false cO hc
   rw[Hd hc,I]
   exact⟨B,λj E=>M j (l0 _) E⟩
end
structure LsQ(p:bZ)(room c:Int)(l:List aS)(s:List aS)(e:aS):Prop where
 d:dP p room c s=(s,e,0)
 sub:∀q∈s,q∈l
 len:s.length<=l.length
 al:jH e (dP p room c l).2.1=true
def LsQ.step{p:bZ}{room c:Int}{l s:List aS}{e:aS}(E:ep p room c=0){k:Nat}(G:k<s.length)(u:jH (gS p room c (s.eraseIdx k)).2 e=true)(h:LsQ p room c l s e):LsQ p room c l (gS p room c (s.eraseIdx k)).1 (gS p room c (s.eraseIdx k)).2:=by
 refine⟨?_,λq B=>h.sub q (Lq ((sB (l:=s.eraseIdx k)).subset B)),?_,?_⟩
 .show dP p room c (dP p room c (s.eraseIdx k)).1=((dP p room c (s.eraseIdx k)).1,(dP p room c (s.eraseIdx k)).2.1,0)
  rw[DO,si E]
 .have h1:=oR p room c (s.eraseIdx k)
  have h2:=qD G
  have h3:=h.len
  omega
 have h1:=g7 u
 have h2:=g7 h.al
 exact ez ⟨h1.1.trans h2.1,h1.2.trans h2.2⟩
def Hf{p:bZ}{room c:Int}{l:List aS}(h:(dP p room c l).2.2=0):ep p room c=0:=by
 by_cases u:ep p room c=0
 .exact u
 rw[qO u]at h;exact absurd h u
theorem wD{p:bZ}{room c:Int}{l:List aS}(h:(cB p room c l).2.2=0):ep p room c=0/\(dP p room c l).2.2=0/\(dP p room c l).1.length=l.length/\vF (dP p room c l).2.1=true/\
  LsQ p room c l (cB p room c l).1 (cB p room c l).2.1/\∀j,j<(cB p room c l).1.length->jH (gS p room c ((cB p room c l).1.eraseIdx j)).2 (cB p room c l).2.1=false:=by
 by_cases h1:(dP p room c l).2.2=0
 .by_cases h2:(dP p room c l).1.length≠l.length\/vF (dP p room c l).2.1=false
  .rw[Cj h1 h2]at h;exact absurd h (by decide:¬ (13:Int)=0)
  have B:=Hf h1
  have u:LsQ p room c l (dP p room c l).1 (dP p room c l).2.1:=⟨by rw[DO,si B],λq u=>sB.subset u,Dj,ez ⟨rfl,rfl⟩⟩
  have hi:=He (oR p room c) (Q:=LsQ p room c l) (λs e k G E u=>u.step B G E) _ _ _ (MH _) u
  rw[yB h1 h2]
  refine⟨B,h1,cO,?_,hi.1,hi.2⟩
  cases hb:vF (dP p room c l).2.1 with
  | true=>rfl
  | false=>exact absurd (.inr hb) h2
 rw[Ci h1]at h;exact absurd h h1
theorem DP{p:bZ}{room c:Int}{l:List aS}(h:(cB p room c l).2.2≠0):(cB p room c l).1=[]:=by
 by_cases h1:(dP p room c l).2.2=0
 .by_cases h2:(dP p room c l).1.length≠l.length\/vF (dP p room c l).2.1=false
  .rw[Cj h1 h2]
  rw[yB h1 h2]at h;exact absurd rfl h
 rw[Ci h1]
def WR{p:bZ}{room c:Int}{l:List aS}:(∀q∈(cB p room c l).1,q∈l)/\(cB p room c l).1.length<=l.length:=by
 by_cases h:(cB p room c l).2.2=0
 .obtain⟨_,_,_,_,u,_⟩:=wD h
  exact⟨u.sub,u.len⟩
 rw[DP h];exact⟨λq u=>(by cases u),l0 _⟩
def Si{p:bZ}{room c:Int}(B:PZ p)(l:List aS):(cB p room c l).2.1.cut.length<=1073741824:=by
 by_cases h:(cB p room c l).2.2=0
 .obtain⟨_,_,_,_,u,_⟩:=wD h
  have:=WQ (room:=room) (c:=c) B (cB p room c l).1
  rw[u.d]at this
  exact this
 by_cases h1:(dP p room c l).2.2=0
 .by_cases h2:(dP p room c l).1.length≠l.length\/vF (dP p room c l).2.1=false
  .rw[Cj h1 h2];exact l0 _
  rw[yB h1 h2]at h;exact absurd rfl h
 rw[Ci h1];exact l0 _
variable (w:World) (K:Value->hM)
def S37(p0 jO O Ck:Value):Prop:=
 ry hH (Ae 27 p0) w λp4 a=>bS 39 0 [] a λb c=>lA 27 p4 c λd=>cF 13 [d,jO] c λe f=>xT e 0 λg=>xT e 1 λh=>eQ (λY=>bB .neq 31 h (i 0) λj=>
 cV j (Y tt f) (bB .eql 34 g (.pointer none) λk=>Y k f)) (λl n=>∀_:Env,
 cV l (K b n) (eQ (λK2=>nP (λU I B o=>∀_:Env,
 eQ (λK4=>lN 28 O λp=>bA .lss 3 B p λq=>cV q (bB .lss 3 B (i 60) λr=>K4 r o) (K4 ff o)) (λs t=>∀_:Env,
 cV s (cF 22 [g] t λu v=>bS 39 0 [] v λx y=>eQ (λZ=>eQ (λW=>nC g λz=>fA 44 z 2 λaa=>lA 3 aa y λab=>bA .lss 3 ab Ck λac=>cV ac (iA 28 O B λad=>
 fA 53 ad 0 λae=>lA 3 ae y λaf=>bB .eql 3 af (i 1) λag=>cV ag (nC g λah=>fA 44 ah 3 λai=>lA 40 ai y λaj=>cF 17 [aj] y λak al=>cF 16 [ak] al λam an=>
 bB .leq 3 am (i 100) λao=>W ao an) (W ff y)) (W ff y)) (λap aq=>∀_:Env,
 cV ap (cF 18 [g] aq λar asx=>Z ar asx) (Z x aq))) (λG M=>∀_:Env,
 iA 28 O B λav=>fA 53 av 1 λaw=>lA 3 aw M λax=>bB .and 3 ax (i 65535) λay=>eQ (λK7=>lN 39 G λaz=>bB .gtr 3 az (i 0) λa0=>cV a0 (K7 G M) (
 K7 u M)) (λE V=>∀_:Env,
 lN 39 E λa2=>bB .eql 3 a2 (i 0) λa3=>cV a3 (K2 I V) (lN 39 E λa4=>bA .rem 3 ay a4 λa5=>iA 39 E a5 λa6=>lA 50 a6 V λa7=>bS 39 1 [(0,a7)] V λa8 a9=>
 aP 39 I a8 a9 λba bb=>lN 39 E λbc=>bA .rem 3 ay bc λbd=>iA 39 E bd λbe=>lA 50 be bb λbf=>cF 25 [g,bf] bb λ_ bg=>bB .add 3 B (i 1) λbh=>U ba bh bg)))) (
 K2 I t))) λU=>U b (i 0) n) (λJ bi=>∀_:Env,
 K J bi)))
theorem anv(p0 E u B:Value)(h:S37 w K p0 E u B):CR 37 [p0,E,u,B] w K:=
 qj 101 (λ_=>.nil) 256 [.tmp 8] Tryz.func37 h
theorem aBW:PL 37:=dR Tryz.func37
end Go.Proofs.YtpdlpabnlkofmaaGreatDoor
namespace Go.Proofs.YtpdlpabnlkofmaaGreatDoor
open Go.Fw
theorem Cl{α β:Type}{n:Nat}:∀{l:List α}{f:α->List β},(∀x∈l,(f x).length=n)->(l.flatMap f).length=l.length*n
 | [],_,_=>(Nat.zero_mul n).symm
 | x::l,f,h=>by
  rw[List.flatMap_cons,lr,Cl λy u=>h y (List.mem_cons_of_mem _ u),h x (List.mem_cons_self ..),oi,Nat.succ_mul,Nat.add_comm]
theorem Lr(p:Nat)(ps:List Nat):(eF (p::ps)).length=(p+1)*(eF ps).length:=by
 rw[eF,Cl (n:=(eF ps).length) λx _=>by rw[nc],List.length_range]
theorem Jr:∀(ps:List Nat) (n:Int),1<=n->zY (ps.map fun (k:Nat)=>(k:Int)) n<=100->n*((eF ps).length:Int)<=100
 | [],n,h,h2=>by
  have e:(eF []).length=1:=rfl
  rw[e]
  have:n<=100:=h2
  omega
 | p::ps,n,h,h2=>by
  rw[List.map_cons,zY]at h2
  split at h2
  .have h3:1<=n*((p:Int)+1):=by
    have:=Int.mul_le_mul_of_nonneg_left (show(1:Int)<=(p:Int)+1 by omega) (show(0:Int)<=n by omega)
    omega
   have u:=Jr ps _ h3 h2
   rw[Lr,Int.natCast_mul,<- Int.mul_assoc]
   exact u
  .omega
def Hg{m:Mem}(h:Pa (uy m)<=100):(eF (xi m)).length<=100:=by
 have:=Jr (xi m) 1 (Ns 1) h
 omega
def acY(c:Int)(m:gl)(a:vT):Bool:=decide (m.cA<c/\a.kind=1/\Pa (uy m.mem)<=100)
def uU(c:Int)(m:gl)(a:vT):List aS:=if acY c m a=true then mZ m else []
def mB(c:Int)(m:gl)(a:vT):List aS:=if 0<((uU c m a).length:Int)then uU c m a else gi m
def atP(l:List aS)(a:vT):aS:=l.getD (cH a.n 65535 % (l.length:Int)).toNat atL
def uB(c:Int):gl->List vT->List aS
 | _,[]=>[]
 | m,a::r=>if ((mB c m a).length:Int)=0 then []else atP (mB c m a) a::uB c (nf m (atP (mB c m a) a)).1 r
def wW(p:bZ)(room c:Int)(l:List vT):List aS:=if fg p≠0\/room<1\/16<room then []else uB c (gj p room) (l.take 60)
def Ls{m:gl}(u:m4 m){x:aS}(h:x∈mZ m):x.cut.length<=20:=by
 unfold mZ at h
 split at h
 .cases h
 obtain⟨c,hc,rfl⟩:=ob.1 h
 exact(RU u.mem hc).2
def Lt{m:gl}(u:m4 m)(h:Pa (uy m.mem)<=100):(mZ m).length<=100:=by
 unfold mZ
 split
 .exact l0 _
 rw[nc]
 exact vt (KI _ _) (Hg h)
def WT{c:Int}{m:gl}{a:vT}(u:m4 m):(mB c m a).length<=1001000:=by
 unfold mB
 split
 .unfold uU
  split
  .rename_i h
   have:=Lt u (g7 h).2.2
   omega
  exact l0 _
 exact AB u
def Js{c:Int}{m:gl}{a:vT}(u:m4 m){x:aS}(h:x∈mB c m a):x.cut.length<=20:=by
 unfold mB at h
 split at h
 .unfold uU at h
  split at h
  .exact Ls u h
  cases h
 have:x.cut=[]:=by
  unfold gi at h
  split at h
  .cases h
  .obtain⟨i,t,_,_,h3⟩:=B7 h
   exact(GQ h3).2.1
 rw[this];exact l0 _
def C37(K:hM)(p:bZ)(pv:bO)(room c:Int)(lv:Value)(l:List vT)(w:World)(Y:∀w',Ext w w'->K w')(hp:G9 K pv p)(hz:PZ p)(hL:DL w lv l):CR 37 [ir pv,hZ room,lv,hZ c] w (λv w'=>kq (dZ λw=>DL w v (wW p room c l)) w w'):=by
 obtain⟨ats,hR,hD⟩:=hL.open;have hn:ats.length=l.length:=hD.1;have u:=St.start w;refine anv _ _ _ _ _ _ ?_;unfold S37;refine cM (x:=pv) u (λb4 w1 u=>aV ([]:List aI) u fD rfl rfl (dQ rfl) λx16 w2 u=>aD er u.p1.At (dO amz (C13 K p pv room _ (λ_ e=>Y _ (u.aG.then e)) hp hz) ?_));rintro v20 w3 (⟨h1,rfl,he⟩|⟨h0,h1,rfl,he⟩|⟨h0,hr,b,rfl,cI⟩)
 .have u:=u.ext he;refine aM rfl (aM rfl ?_);refine⟨λI w'=>I=.bool true/\w'=w3,?_,?_⟩
  .refine bQ ?_;refine aC (λ_=>⟨rfl,rfl⟩) (λh=>absurd h1 h)
  rintro _ w4 ⟨rfl,rfl⟩ rY;refine hG ?_;have e:wW p room c l=[]:=by unfold wW;rw[ew cO]
  rw[e];exact(u.freeze.dF (Ψ:=λw=>DL w x16 []) λ_ h=>DL.of h fT.nil).p1.drop.fresh
 .have u:=u.ext he;refine aM rfl (aM rfl ?_);refine⟨λI w'=>I=.bool true/\w'=w3,?_,?_⟩
  .refine bQ ?_;refine aC (λ_=>⟨rfl,rfl⟩) (λh=>absurd (by decide:(1:Int)≠0) h)
  rintro _ w4 ⟨rfl,rfl⟩ rY;refine hG ?_;have e:wW p room c l=[]:=by unfold wW;rw[ew cO]
  rw[e];exact(u.freeze.dF (Ψ:=λw=>DL w x16 []) λ_ h=>DL.of h fT.nil).p1.drop.fresh
 have vJ:=pS h0;have u:=u.made cI;refine aM rfl (aM rfl ?_);refine⟨λI w'=>I=.bool false/\w'=w3,?_,?_⟩
 .exact bQ (aC (λh=>absurd rfl h) λ_=>XV apG ⟨rfl,rfl⟩)
 rintro _ w4 ⟨rfl,rfl⟩ rY;refine fx ?_;have hpp:wW p room c l=uB c (gj p room) (l.take 60):=by unfold wW;rw[ej cO]
 rw[hpp];refine⟨λo w'=>kq (dZ λw=>DL w o (uB c (gj p room) (l.take 60))) w w',?_,?_⟩;rotate_left
 .rintro o w5 h rY;exact h
 have u:=u.p1;obtain⟨F0,u,_⟩:=(u.fk (Φ:=λ_=>True) λ_=>trivial).BU;have u:=u.p1
 have CX:∀(o:Value) (ts:List aI) (out:List aS) (F:Nat->Prop) (E w':World) (m:gl),(∀w,kK F E w->fT ts out w)->out=uB c (gj p room) (l.take 60)->St w aX [bE o ts,dZ (kK F E),oh K b m,bW b4 (j0 pv)] w'->kq (dZ λw=>DL w o (uB c (gj p room) (l.take 60))) w w':=λo ts out F E w' m hd e u=>by
  rw[<- e];have u:=u.freeze.gv.dF (Ψ:=λw=>DL w o out) (λw h=>DL.of h.1 (hd w h.2));exact u.p1.drop.p1.drop.fresh
 refine⟨λmm o y w'=>∃(k:Nat) (m:gl) (ts:List aI) (out:List aS) (F:Nat->Prop) (E:World),y=hZ (k:Int)/\mm=60-k/\k<=60/\k<=l.length/\(oo p k m/\ts.length=k/\(∀w,kK F E w->fT ts out w)/\uB c (gj p room) (l.take 60)=out++uB c m ((l.take 60).drop k))/\St w aX [bE o ts,dZ (kK F E),oh K b m,bW b4 (j0 pv)] w',
  ⟨_,0,gj p room,[],[],F0,_,rfl,rfl,l0 _,l0 _,⟨oo.new hz vJ hr,rfl,λ_ _=>fT.nil,rfl⟩,u⟩,?_⟩
 rintro mm o _ w5 ⟨k,m,ts,out,F,E,rfl,rfl,hk,xd,⟨LD,wA,hd,B⟩,u⟩ _;refine⟨λI w'=>I=.bool (decide (k<l.length/\k<60))/\w'=w5,?_,?_⟩
 .exact aK XY (hR.ext u.aG) (aR (aC (λ_=>aR ⟨vb (ga.2 cO),rfl⟩) λ_=>⟨vb (fV cO).symm,rfl⟩))
 rintro _ _ ⟨rfl,rfl⟩ _;refine aC (λc1=>?_) (λc1=>?_);rotate_left
 .rw[CB (by rw[l1];omega)]at B;exact CX o ts out F E _ m hd (by rw[B];exact(oO _).symm) u
 obtain⟨a,ha⟩:=gx l (i:=k) cO;obtain⟨av,J⟩:=gx ats (i:=((k:Nat):Int).toNat) cO;obtain⟨gp,rfl,_⟩:=hD.2 k av a J ha;have Z:=LD.go;have O:=Z.ok;have AP:=LD.fi.trans (by rw[Z.pr]:eV p=eV m.p);have nL:=Z.mb.mono (b:=1000000) cO;have CD:=Z.cr;rw[DK (show(l.take 60)[k]?=some a by rw[List.getElem?_take,ew c1.2];exact ha)]at B;refine dV amA u (C22 K b m _ u.p2.has (λ_ e=>Y _ (u.aG.then e)) O) (λx41 _ cI u=>oY (α:=aS) u fD λx42 _ u=>?_);refine⟨λcv w'=>St w aX [fJ cv (uU c m a),fJ x41 (gi m),bE o ts,dZ (kK F E),oh K b m,bW b4 (j0 pv)] w',?_,?_⟩
 .refine⟨λI w'=>I=.bool (acY c m a)/\St w aX [fJ x42 ([]:List aS),fJ x41 (gi m),bE o ts,dZ (kK F E),oh K b m,bW b4 (j0 pv)] w',?_,?_⟩
  .obtain⟨ra,Ps⟩:=oh.rd u.p4.has;refine aE (aA yI (bN bL (Ps.b.cell (o:=7) rfl) (aR (aC (λG=>?_) λG=>⟨vb (fV λh=>G h.1).symm,u⟩))));refine aQ XY (hR.ext u.aG) cO J (λq1 h1=>bX a.kind adZ h1 rfl rfl λq2 h2=>aD (x:=a.kind) bL h2 (aH (aC (λc3=>?_) λc3=>⟨vb (fV λh=>c3 h.2.1).symm,u⟩)));refine aE (aA qH (bN pZ (Ps.b.cell (o:=8) rfl) (dV ajl u (C17 ra.q m.mem _ Ps.mem O.mem nL) λx62 w9 cI u=>aW awG u (C16 x62 (uy m.mem) _ u.dW (by rw[Jk];have:=O.mem.lb;omega) λn hn=>?_) λw10 he u=>?_)))
   .obtain⟨j,W⟩:=List.mem_iff_getElem?.1 hn;have:=nL j;rw[O2 W];omega
   exact gz ⟨vb (ga.2 ⟨λh=>⟨G,c3,h⟩,λh=>h.2.2⟩),u.drop⟩
  rintro _ w9 ⟨rfl,u⟩ dd4;refine bD (λG=>?_) (λG=>?_);rotate_left
  .have e:(uU c m a)=[]:=by unfold uU;rw[G];rfl
   rw[e];exact u
  have e:(uU c m a)=mZ m:=by unfold uU;rw[ew G]
  rw[e];exact dV aAZ u (C18 K b m _ u.p4.has (λ_ e=>Y _ (u.aG.then e)) O nL (by have:=Hg (g7 G).2.2;omega)) (λ_ _ _ u=>u.p1.drop)
 rintro x14 _ u dd4;obtain⟨cs,u⟩:=u.Bm;have D6:=u.Va;refine aQ XY (hR.ext u.aG) cO J (λq1 h1=>bX a.n ad0 h1 rfl rfl λq2 h2=>aD (x:=a.n) bL h2 (SM ee ee ?_));have hn6:=Aa a.n (b:=65535) ee ee;refine⟨λlw w'=>∃tl:List aI,St w aX [bE lw tl,dZ (fT tl (mB c m a)),bE o ts,dZ (kK F E),oh K b m,bW b4 (j0 pv)] w',?_,?_⟩
 .refine aK fD u.dW (cQ (aC (λG=>?_) λG=>?_))
  .have e:(mB c m a)=(uU c m a):=by unfold mB;rw[ew cO]
   rw[e];exact⟨cs,u.p2.drop⟩
  have e:(mB c m a)=gi m:=by unfold mB;rw[ej cO]
  rw[e];obtain⟨ss,u⟩:=u.drop.drop.Bm;exact⟨ss,u⟩
 rintro x13 M ⟨tl,u⟩ _;have zp:=u.Va;have oD:=WT (c:=c) (a:=a) O;refine aK fD u.dW (aH (aC (λG=>?_) λG=>?_))
 .rw[uB,ew cO,oO]at B;exact CX o ts out F E _ m hd B.symm u.drop.drop
 rw[uB,ej cO]at B;obtain⟨F2,u,hX⟩:=u.p1.p3.gv.BU;have hm1:=aaX (cH a.n 65535) (show((mB c m a).length:Int)≠0 by omega);have hm2:=YU (cH a.n 65535) (show 0<((mB c m a).length:Int)by omega);refine aK fD u.p1.dW ?_;rw[zp];refine SL cO cO ?_;obtain⟨j,W⟩:∃j:Nat,(j:Int)=cH a.n 65535 % ((mB c m a).length:Int):=⟨(cH a.n 65535 % ((mB c m a).length:Int)).toNat,cO⟩;rw[<- W];obtain⟨sh,V⟩:=gx tl (i:=((j:Nat):Int).toNat) cO;obtain⟨q,hq⟩:=gx (mB c m a) (i:=j) cO;have hqe:atP (mB c m a) a=q:=by unfold atP;rw[<- W,pd,n3,hq];rfl
 rw[hqe]at B;have U:∀w',kK F2 M w'->mi w' sh q:=λw' h=>(hX w' h).2.2 j sh q (by rw[<- pd j];exact V) hq;obtain⟨gc,rfl,_⟩:=U _ u.dZ
 have hgc:∀w',kK F2 M w'->dD (λ_=>True) w' (ir gc) q.cut:=λw' h=>by
  obtain⟨gc2,e,h3⟩:=U w' h;cases e
  exact DL.flat h3
 refine aQ fD u.p1.dW cO V (λq3 h3=>aD kj h3 (aV [(⟨q.kind,q.t,q.i,gc⟩:aI)] u fD rfl rfl (dQ rfl) λx89 _ u=>?_));have aB1:=u.dW;refine bI u.p3 fD aB1 (by rw[l2];omega) ee (λx90 _ u=>have u:=u.p1.drop;aK fD u.p2.dW ?_);rw[zp];refine SL cO cO ?_;rw[<- W];refine aQ fD u.p2.dW cO V (λq4 h4=>aD kj h4 (bG amB u.p3 (H':=λ_=>oh K b (nf m q).1) (Φ:=λ_ _=>True) (λG2 hG2 ea=>?_) ?_))
 .exact(C25 K b m q gc G2 _ hG2 (λw' hc=>Y _ (ea w' hc).aG) O LD.vo (by rw[Z.pr];exact vJ) nL cO AP (λw1 hc _ e=>Y _ ((ea w1 hc).aG.then e)) (λw' hc=>hgc _ (ea w' hc).p1.dZ) (by have:=Js O (kE hq);omega)).mono λ_ _ r=>r.mono λ_ _ h=>⟨trivial,h.2⟩
 rintro _ _ _ u;refine aO cO ?_;refine⟨_,cO,k+1,(nf m q).1,ts++[(⟨q.kind,q.t,q.i,gc⟩:aI)],out++[q],F2,M,rfl,rfl,cO,cO,⟨LD.step vJ,by rw[lr,l2,wA],λw h=>(hd w (hX w h).1).snoc (U w h),by rw[B,nK];rfl⟩,?_⟩;exact u.p3.drop.p2.p2
def WU{c:Int}{m:gl}{a:vT}(h:¬ ((mB c m a).length:Int)=0):atP (mB c m a) a∈mB c m a:=by
 have B:=aaX (cH a.n 65535) (show((mB c m a).length:Int)≠0 by omega)
 have u:=YU (cH a.n 65535) (show 0<((mB c m a).length:Int)by omega)
 unfold atP
 rw[n3,List.getElem?_eq_getElem (show(cH a.n 65535 % ((mB c m a).length:Int)).toNat<_ by omega)]
 exact List.getElem_mem _
theorem Jt{p:bZ}{c:Int}(hc:Hl p):∀(l:List vT) (m:gl) (k:Nat),oo p k m->∀q∈uB c m l,q.cut.length<=20
 | [],m,k,h,q,u=>by cases u
 | a::r,m,k,h,q,u=>by
  rw[uB]at u
  split at u
  .cases u
  .rename_i h1
   rcases List.mem_cons.1 u with rfl|u
   .exact Js h.go.ok (WU h1)
   .exact Jt hc r _ (k+1) (h.step hc) q u
theorem Ju(c:Int):∀(l:List vT) (m:gl),(uB c m l).length<=l.length
 | [],m=>o6 _
 | a::r,m=>by
  rw[uB]
  split
  .exact l0 _
  .rw[oi,oi]
   exact Nat.succ_le_succ (Ju c r _)
def WV{p:bZ}{room c:Int}{l:List vT}(E:PZ p):∀q∈wW p room c l,q.cut.length<=20:=by
 unfold wW
 split
 .intro q B;cases B
 rename_i h
 have u:fg p=0:=cO
 exact Jt (pS u) _ _ 0 (oo.new E (pS u) cO)
def WW{p:bZ}{room c:Int}{l:List vT}:(wW p room c l).length<=60:=by
 unfold wW
 split
 .exact l0 _
 refine vt (Ju _ _ _) ?_
 rw[l1];exact Nat.min_le_left ..
variable (w:World) (K:Value->hM)
def P7:dM:=λi=>match i with
 | 3=>.run 0 9
 | _=>.nil
end Go.Proofs.YtpdlpabnlkofmaaGreatDoor
namespace Go.Proofs.YtpdlpabnlkofmaaGreatDoor
open Go.Fw
variable (w:World) (K:Value->hM)
def S6(p0 jO oC:Value):Prop:=
 ry hH (Ae 27 p0) w λp3 a=>lA 27 p3 a λb=>cF 11 [b] a λc d=>sA 27 p3 c d λe=>bB .and 3 jO (i 3) λf=>bC .add 3 (i 1) f λg=>lA 27 p3 (drew e) λh=>
 lN 28 oC λj=>eX hH (Builtin.min_ #[3,3] 3 [j,(i 24)].toArray) λk=>eX hH (n0 28 oC none (some k) none) λl=>cF 37 [h,g,l,(i 2)] (drew e) λn o=>
 lA 27 p3 o λp=>cF 38 [p,g,(i 2),n] o λq r=>xT q 0 λs=>xT q 1 λ_=>xT q 2 λt=>xT q 3 λ_=>aL 63 r λu v=>sA 63 u s v λx=>lA 27 p3 x λy=>cF 35 [y,g,(i 2),n] x λz aa=>
 xT z 0 λJ=>xT z 1 λac=>xT z 2 λad=>aL 63 aa λW ae=>sA 63 W ac ae λaf=>eQ (λK1=>bB .neq 31 t (i 0) λag=>cV ag (K1 tt af) (lA 63 u af λah=>cF 39 [ah] af λai aj=>
 eX hH (Op.unary .not ai) λak=>K1 ak aj)) (λal V=>∀_:Env,
 cV al (eQ (λK2=>bB .neq 31 ad (i 0) λan=>cV an (lN 39 J λao=>bB .eql 3 ao (i 0) λap=>cV ap (cF 34 [] V λaq ar=>K2 aq ar) (K2 ff V)) (K2 ff V)) (λasx au=>∀_:Env,
 K asx au)) (lA 27 p3 V λav=>cF 38 [av,g,(i 2),J] V λaw ax=>xT aw 0 λay=>xT aw 1 λ_=>xT aw 2 λaz=>xT aw 3 λ_=>aL 63 ax λB a0=>sA 63 B ay a0 λU=>
 eQ (λO=>bB .neq 31 ad (i 0) λa2=>cV a2 (O tt U) (bB .neq 31 az (i 0) λa3=>cV a3 (O tt U) (lN 39 J λa4=>lN 39 n λa5=>bA .gtr 3 a4 a5 λa6=>cV a6 (O tt U) (
 lA 63 W U λa7=>lA 63 B U λa8=>cF 29 [a7,a8] U λa9 I=>eX hH (Op.unary .not a9) λbb=>cV bb (O tt I) (fA 63 B 0 λbc=>lA 3 bc I λbd=>fA 63 u 0 λbe=>
 lA 3 be I λbf=>bA .neq 3 bd bf λbg=>cV bg (O tt I) (fA 63 B 1 λbh=>lA 3 bh I λbi=>fA 63 u 1 λbj=>lA 3 bj I λbk=>bA .neq 3 bi bk λbl=>O bl I))))))
 (λbm bn=>∀_:Env,
 cV bm (K ff bn) (kP (λK4 E Y=>∀_:Env,
 lN 39 J λbp=>bA .lss 3 E bp λbq=>cV bq (xl (λK5=>eQ (λK6=>lA 27 p3 (drew Y) λG=>((cF 31 [J,E] (drew Y) λbs bt=>kA 27 p3 G bt ((cF 28 [G,g,(i 2),bs] bt λbu Z=>
 xT bu 0 λ_=>xT bu 1 λbw=>xT bu 2 λ_=>aL 63 Z λZ bx=>kA 27 p3 G bx (sA 63 Z bw bx λbz=>K6 Z bz))
 /\((aL 63 bt λb0 b1=>kA 27 p3 G b1 (cF 28 [G,g,(i 2),bs] b1 λb2 b3=>xT b2 0 λ_=>xT b2 1 λb4=>xT b2 2 λ_=>sA 63 b0 b4 b3 λb5=>K6 b0 b5))
 /\
 True)))
 /\((aL 63 (drew Y) λb6 b7=>kA 27 p3 G b7 (cF 31 [J,E] b7 λb8 b9=>kA 27 p3 G b9 (cF 28 [G,g,(i 2),b8] b9 λca cb=>xT ca 0 λ_=>xT ca 1 λcc=>xT ca 2 λ_=>
 sA 63 b6 cc cb λcd=>K6 b6 cd)))
 /\
 True))) (λce M=>∀_:Env,
 eQ (λK7=>fA 63 ce 0 λcg=>lA 3 cg M λch=>fA 63 u 0 λci=>lA 3 ci M λcj=>bA .eql 3 ch cj λck=>cV ck (fA 63 ce 1 λcl=>lA 3 cl M λcm=>fA 63 u 1 λcn=>
 lA 3 cn M λco=>bA .eql 3 cm co λcp=>K7 cp M) (K7 ff M)) (λcq cr=>∀_:Env,
 cV cq (K ff cr) (K5 cr)))) (λcs=>∀_:Env,
 bB .add 3 E (i 1) λct=>K4 ct cs)) (cF 34 [] Y λcu cv=>K cu cv)) λK4=>K4 (i 0) bn))))
def P6:dM:=λi=>match i with
 | 3=>.run 0 9
 | 14=>(.op 0 [] (.op 1 [] (.op 2 [] (.op 3 [] (.alt 4 [0] (.alt 5 [] (.of [(6,[]),(7,[]),(8,[]),(9,[]),(10,[0]),(11,[]),(12,[]),(13,[])]) (.alt 10 [0] (.of [(5,[]),(6,[]),(7,[]),(8,[]),(9,[]),(11,[]),(12,[]),(13,[])]) .stop)) (.alt 10 [0] (.of [(4,[0]),(5,[]),(6,[]),(7,[]),(8,[]),(9,[]),(11,[]),(12,[]),(13,[])]) .stop))))))
 | _=>.nil
theorem auP(p0 u B:Value)(h:S6 w K p0 u B):CR 6 [p0,u,B] w K:=
 qj 142 P6 64 [.tmp 6] Tryz.func6 h
end Go.Proofs.YtpdlpabnlkofmaaGreatDoor
namespace Go.Proofs.YtpdlpabnlkofmaaGreatDoor
open Go.Fw
theorem DU(c:Int):∀(l:List aS) (m:gl) (o:List cD),(rI c m o l).2.2=0->fC c m l=((rI c m o l).1,l)
 | [],m,o,_=>rfl
 | q::r,m,o,h=>by
  unfold rI at h
  split at h
  .cases h
  rename_i h1
  split at h
  .rename_i h2;exact absurd h h2
  rename_i h2
  have u:=DU c r _ _ h
  rw[fC,ej h1,ej h2,rI,ej h1,ej h2,u]
def Pf{p:bZ}{room c:Int}{l:List aS}(h:(dN p room c l).2.2.1=0):ep p room c=0/\dP p room c l=(l,(dN p room c l).1,0):=by
 have u:ep p room c=0:=by
  by_cases u:ep p room c=0
  .exact u
  .rw[Hb u]at h;exact absurd h u
 refine⟨u,?_⟩
 have B:(rI c (gj p room) [] l).2.2=0:=by
  by_cases B:(rI c (gj p room) [] l).2.2=0
  .exact B
  .rw[acK u B]at h;exact absurd h B
 rw[si u,Sd u B,DU c l _ [] B]
def Jv{p:bZ}{room c:Int}{l:List aS}(h:(dP p room c l).2.2=0)(B:(dP p room c l).1.length=l.length):(dN p room c l).2.2.1=0/\(dN p room c l).1=(dP p room c l).2.1:=by
 have u:=Hf h
 have e:(dP p room c l).1=l:=sB.eq_of_length B
 have r:=Hc u l
 rw[si u]at e |-
 dsimp only at e |-
 rw[e]at r
 exact⟨r.2,r.1⟩
def WX{p:bZ}{room c:Int}{l:List aS}(h:(dN p room c l).2.2.1≠0\/vF (dN p room c l).1=false):(cB p room c l).2.2≠0/\(cB p room c l).1=[]:=by
 have h1:(cB p room c l).2.2≠0:=λB=>by
  obtain⟨_,E,J,G,_⟩:=wD B
  obtain⟨I,u⟩:=Jv E J
  rcases h with h|h
  .exact h I
  .rw[u,G]at h;cases h
 exact⟨h1,DP h1⟩
theorem Sj{p:bZ}{room c:Int}{l:List aS}(h:¬ ((dN p room c l).2.2.1≠0\/vF (dN p room c l).1=false)):(cB p room c l).2.2=0/\(dN p room c (cB p room c l).1).2.2.1=0/\(dN p room c (cB p room c l).1).1=(cB p room c l).2.1/\(cB p room c l).2.1.kind=(dN p room c l).1.kind/\(cB p room c l).2.1.t=(dN p room c l).1.t/\
  ∀j,j<(cB p room c l).1.length->¬ ((dP p room c ((cB p room c l).1.eraseIdx j)).2.1.kind=(dN p room c l).1.kind/\(dP p room c ((cB p room c l).1.eraseIdx j)).2.1.t=(dN p room c l).1.t):=by
 have M:(dN p room c l).2.2.1=0:=u1.1 λB=>h (.inl B)
 obtain⟨O,hd⟩:=Pf M
 have hb:vF (dN p room c l).1=true:=by
  cases hb:vF (dN p room c l).1 with
  | true=>rfl
  | false=>exact absurd (.inr hb) h
 have B:(cB p room c l).2.2=0:=by rw[yB (by rw[hd]) (by rw[hd,hb];simp)]
 obtain⟨_,_,_,_,E,I⟩:=wD B
 have u:=g7 E.al
 rw[hd]at u
 dsimp only at u
 have G:=Jv (l:=(cB p room c l).1) (by rw[E.d]) (by rw[E.d])
 rw[E.d]at G
 refine⟨B,G.1,G.2,u.1,u.2,λj J hc=>?_⟩
 have h3:=I j J
 have h4:jH (gS p room c ((cB p room c l).1.eraseIdx j)).2 (cB p room c l).2.1=true:=ez ⟨hc.1.trans u.1.symm,hc.2.trans u.2.symm⟩
 rw[h4]at h3
 cases h3
theorem C6(p:bZ)(pv:bO)(n:Int)(lv:Value)(l:List vT)(w:World)(hp:mi w pv p)(hL:DL w lv l):CR 6 [ir pv,hZ n,lv] w (λv w'=>v=.bool true/\Ext w w'):=by
 obtain⟨ats,hR,hD⟩:=hL.open;have hn:ats.length=l.length:=hD.1;have B:=St.start w;refine auP _ _ _ _ _ ?_;unfold S6;refine cM (x:=pv) B (λb3 w1 B=>aD er B.At (dO awF (C11 p pv _ (Nk hp B.aG)) ?_));rintro _ w3 ⟨I,rfl,U⟩;have B:=B.made U;refine aJ (x:=I) B.p1 er rfl rfl (λw4 B=>SM ee ee ?_);have ha:=Aa n (b:=3) ee ee;refine aO cO ?_;have B:=B.drew.p1;obtain⟨wK,ewK⟩:∃wK,wK=drew w4:=⟨_,rfl⟩;rw[<- ewK]at B |-;obtain⟨FF,B,hX⟩:=B.BU;have hp':G9 (kK FF wK) I (cK p):=G9.of hX;have hz:=TA p;refine aD (x:=I) er B.p1.At (aK XY (hR.ext B.aG) (rX (jY XY (hR.ext B.aG) cO cO λs26 UH=>?_)))
 obtain⟨sc,esc⟩:∃sc,sc=l.take (min (ats.length:Int) 24).toNat:=⟨_,rfl⟩;have XT:DL wK s26 sc:=by rw[esc];exact DL.of (UH _ (hR.ext B.aG)) ((hD.ext B.aG).take _)
 refine dV aBW B (C37 (kK FF wK) (cK p) I (1+cH n 3) 2 s26 sc _ (λ_ e=>(B.ext e).dZ) hp' hz XT) (λx27 w5 U B=>?_);have B:=B.p1.p1.gv;obtain⟨F2,B,hX2⟩:=B.BU;obtain⟨u,epp⟩:∃u,u=wW (cK p) (1+cH n 3) 2 sc:=⟨_,rfl⟩;rw[<- epp]at hX2;have oD:u.length<=60:=by rw[epp];exact WW
 have hpc:∀q∈u,q.cut.length<=1000:=λq hq=>vt (WV hz q (by rw[<- epp];exact hq)) ee;have hpc6:∀q∈u,q.cut.length<=1000000:=λq hq=>vt (hpc q hq) ee;have UW:G9 (kK F2 w5) I (cK p):=hp'.mono λw' h=>(hX2 w' h).2;have VG:Ha (kK F2 w5) x27 u:=Ha.of λw' h=>(hX2 w' h).1;refine aD (x:=I) er B.p1.At (dO auG (C38 (kK F2 w5) (cK p) I (1+cH n 3) 2 x27 u _ (λ_ e=>(B.ext e).dZ) UW hz VG cO hpc) ?_);rintro _ _ ⟨ev0,Z,rfl,U⟩;have B:=(B.made U).split;obtain⟨V,rfl,_⟩:=B.dZ;refine aM rfl (aM rfl (aM rfl (aM rfl (aN B gu λb9 w1 B=>aJ (x:=(⟨(dN (cK p) (1+cH n 3) 2 u).1.kind,(dN (cK p) (1+cH n 3) 2 u).1.t,(dN (cK p) (1+cH n 3) 2 u).1.i,V⟩:aI)) B eW rfl rfl λ_ B=>aD (x:=I) er B.p4.At (dO acT (C35 (kK F2 w5) (cK p) I (1+cH n 3) 2 x27 u _ (λ_ e=>(B.ext e).p3.dZ) UW hz VG cO hpc) ?_)))))
 rintro _ _ ⟨RI,G,rfl,U⟩;have B:=B.made U;refine aM rfl (aM rfl (aM rfl (aN B gu λb14 w3 B=>aJ (x:=G) B eW rfl rfl λw4 B=>?_)));refine⟨λjv w'=>jv=.bool (decide ((dN (cK p) (1+cH n 3) 2 u).2.2.1≠0\/vF (dN (cK p) (1+cH n 3) 2 u).1=false))/\St w aX [bW b14 (j0 G),dZ (λw=>DL w RI (cB (cK p) (1+cH n 3) 2 u).1/\mi w G (cB (cK p) (1+cH n 3) 2 u).2.1),bW b9 (j0 (⟨(dN (cK p) (1+cH n 3) 2 u).1.kind,(dN (cK p) (1+cH n 3) 2 u).1.t,(dN (cK p) (1+cH n 3) 2 u).1.i,V⟩:aI)),dZ (λw=>mi w (⟨(dN (cK p) (1+cH n 3) 2 u).1.kind,(dN (cK p) (1+cH n 3) 2 u).1.t,(dN (cK p) (1+cH n 3) 2 u).1.i,V⟩:aI) (dN (cK p) (1+cH n 3) 2 u).1),bE Z (dN (cK p) (1+cH n 3) 2 u).2.1,dZ (kK F2 w5),bW b3 (j0 I)] w',?_,?_⟩
 .refine bQ (aC (λh=>⟨vb (ez (.inl h)).symm,B⟩) λh=>aD (x:=(⟨(dN (cK p) (1+cH n 3) 2 u).1.kind,(dN (cK p) (1+cH n 3) 2 u).1.t,(dN (cK p) (1+cH n 3) 2 u).1.i,V⟩:aI)) eW B.p2.At (aW aBM B (C39 _ (⟨(dN (cK p) (1+cH n 3) 2 u).1.kind,(dN (cK p) (1+cH n 3) 2 u).1.t,(dN (cK p) (1+cH n 3) 2 u).1.i,V⟩:aI) _ B.p3.dZ) λ_ he B=>bT ?_));refine⟨vb ?_,B⟩;cases hb:vF (dN (cK p) (1+cH n 3) 2 u).1 with
  | true=>exact(fV λh2=>h2.elim h λh=>by cases h).symm
  | false=>exact(ez (.inr rfl)).symm
 rintro _ w30 ⟨rfl,B⟩ _;obtain⟨tS,hlen⟩:=WR (p:=(cK p)) (room:=(1+cH n 3)) (c:=2) (l:=u);obtain⟨t1,AL,auQ⟩:=B.p1.dZ.1.open;have aB4:t1.length=(cB (cK p) (1+cH n 3) 2 u).1.length:=auQ.1;refine aC (λh0=>?_) (λh0=>?_)
 .obtain⟨k1,k2⟩:=WX h0;refine⟨λjv w'=>jv=.bool true/\Ext w w',?_,?_⟩
  .exact bQ (aC (λ_=>aK fD AL (aH (aC (λ_=>aW auL B (C34 _) λ_ _ B=>⟨rfl,B.aG⟩) λh=>absurd (by rw[aB4,k2];rfl) h))) λh=>absurd k1 h)
  rintro _ w31 h vH;exact h
 obtain⟨k0,k1,k2,k3,k4,k5⟩:=Sj h0;have B:=B.p5.p2.gv;obtain⟨J,ewM⟩:∃J,J=w30:=⟨_,rfl⟩;rw[<- ewM]at B AL auQ |-;obtain⟨O,B,hX3⟩:=B.BU;have hp3:G9 (kK O J) I (cK p):=UW.mono λw' h=>(hX3 w' h).2;have auR:Ha (kK O J) RI (cB (cK p) (1+cH n 3) 2 u).1:=Ha.of λw' h=>(hX3 w' h).1.1;obtain⟨t3,M⟩:=id auR;have hn3:t3.length=(cB (cK p) (1+cH n 3) 2 u).1.length:=(M _ B.dZ).2.1;have hc3:∀q∈(cB (cK p) (1+cH n 3) 2 u).1,q.cut.length<=1000:=λq hq=>hpc q (tS q hq);refine aD (x:=I) er B.p5.At (dO auG (C38 (kK O J) (cK p) I (1+cH n 3) 2 RI (cB (cK p) (1+cH n 3) 2 u).1 _ (λ_ e=>(B.ext e).dZ) hp3 hz auR cO hc3) ?_)
 rintro _ _ ⟨ev2,ov2,rfl,U⟩;have B:=(B.made U).split;obtain⟨Y,rfl,_⟩:=B.dZ;refine aM rfl (aM rfl (aM rfl (aM rfl (aN B gu λb16 _ B=>aJ (x:=(⟨(dN (cK p) (1+cH n 3) 2 (cB (cK p) (1+cH n 3) 2 u).1).1.kind,(dN (cK p) (1+cH n 3) 2 (cB (cK p) (1+cH n 3) 2 u).1).1.t,(dN (cK p) (1+cH n 3) 2 (cB (cK p) (1+cH n 3) 2 u).1).1.i,Y⟩:aI)) B eW rfl rfl λ_ B=>?_))));refine⟨λjv w'=>jv=.bool false/\St w aX [bW b16 (j0 (⟨(dN (cK p) (1+cH n 3) 2 (cB (cK p) (1+cH n 3) 2 u).1).1.kind,(dN (cK p) (1+cH n 3) 2 (cB (cK p) (1+cH n 3) 2 u).1).1.t,(dN (cK p) (1+cH n 3) 2 (cB (cK p) (1+cH n 3) 2 u).1).1.i,Y⟩:aI)),dZ (λw=>mi w (⟨(dN (cK p) (1+cH n 3) 2 (cB (cK p) (1+cH n 3) 2 u).1).1.kind,(dN (cK p) (1+cH n 3) 2 (cB (cK p) (1+cH n 3) 2 u).1).1.t,(dN (cK p) (1+cH n 3) 2 (cB (cK p) (1+cH n 3) 2 u).1).1.i,Y⟩:aI) (dN (cK p) (1+cH n 3) 2 (cB (cK p) (1+cH n 3) 2 u).1).1),bE ov2 (dN (cK p) (1+cH n 3) 2 (cB (cK p) (1+cH n 3) 2 u).1).2.1,dZ (kK O J),bW b14 (j0 G),bW b9 (j0 (⟨(dN (cK p) (1+cH n 3) 2 u).1.kind,(dN (cK p) (1+cH n 3) 2 u).1.t,(dN (cK p) (1+cH n 3) 2 u).1.i,V⟩:aI)),dZ (λw=>mi w (⟨(dN (cK p) (1+cH n 3) 2 u).1.kind,(dN (cK p) (1+cH n 3) 2 u).1.t,(dN (cK p) (1+cH n 3) 2 u).1.i,V⟩:aI) (dN (cK p) (1+cH n 3) 2 u).1),bE Z (dN (cK p) (1+cH n 3) 2 u).2.1,bW b3 (j0 I)] w',?_,?_⟩
 .refine bQ (aC (λh=>absurd k0 h) λ_=>bQ (aC (λh=>absurd k1 h) λ_=>aK fD (M _ B.p3.dZ).1 ?_));obtain⟨tp,BW⟩:=id VG;have auS:=BW _ (hX3 _ B.p3.dZ).2;have hnp:tp.length=u.length:=auS.2.1;refine aK fD auS.1 (cQ (aC (λh=>absurd h cO) λ_=>aD (x:=G) eW B.p4.At (aD (x:=(⟨(dN (cK p) (1+cH n 3) 2 (cB (cK p) (1+cH n 3) 2 u).1).1.kind,(dN (cK p) (1+cH n 3) 2 (cB (cK p) (1+cH n 3) 2 u).1).1.t,(dN (cK p) (1+cH n 3) 2 (cB (cK p) (1+cH n 3) 2 u).1).1.i,Y⟩:aI)) eW B.At (aW ann B (C29 (cB (cK p) (1+cH n 3) 2 u).2.1 G (dN (cK p) (1+cH n 3) 2 (cB (cK p) (1+cH n 3) 2 u).1).1 (⟨(dN (cK p) (1+cH n 3) 2 (cB (cK p) (1+cH n 3) 2 u).1).1.kind,(dN (cK p) (1+cH n 3) 2 (cB (cK p) (1+cH n 3) 2 u).1).1.t,(dN (cK p) (1+cH n 3) 2 (cB (cK p) (1+cH n 3) 2 u).1).1.i,Y⟩:aI) _ (hX3 _ B.p3.dZ).1.2 B.p1.dZ (Si hz _)) λw63 he B=>?_))))
  exact bT (fI (by rw[k2];simp) (aA iW (aB (v:=hZ (dN (cK p) (1+cH n 3) 2 (cB (cK p) (1+cH n 3) 2 u).1).1.kind) bL B.hb rfl (aA iW (aB (v:=hZ (dN (cK p) (1+cH n 3) 2 u).1.kind) bL B.p5.hb rfl (bQ (aC (λh=>absurd (by rw[k2];exact k3) h) λ_=>aA ox (aB (v:=hZ (dN (cK p) (1+cH n 3) 2 (cB (cK p) (1+cH n 3) 2 u).1).1.t) bL B.hb rfl (aA ox (aB (v:=hZ (dN (cK p) (1+cH n 3) 2 u).1.t) bL B.p5.hb rfl (bQ ⟨vb (fV λh=>h (by rw[k2];exact k4)),B⟩)))))))))))
 rintro _ _ ⟨rfl,B⟩ vH;refine fx ?_;refine⟨λmm y w'=>∃k:Nat,y=hZ (k:Int)/\mm=(cB (cK p) (1+cH n 3) 2 u).1.length-k/\k<=(cB (cK p) (1+cH n 3) 2 u).1.length/\St w aX [bW b16 (j0 (⟨(dN (cK p) (1+cH n 3) 2 (cB (cK p) (1+cH n 3) 2 u).1).1.kind,(dN (cK p) (1+cH n 3) 2 (cB (cK p) (1+cH n 3) 2 u).1).1.t,(dN (cK p) (1+cH n 3) 2 (cB (cK p) (1+cH n 3) 2 u).1).1.i,Y⟩:aI)),dZ (λw=>mi w (⟨(dN (cK p) (1+cH n 3) 2 (cB (cK p) (1+cH n 3) 2 u).1).1.kind,(dN (cK p) (1+cH n 3) 2 (cB (cK p) (1+cH n 3) 2 u).1).1.t,(dN (cK p) (1+cH n 3) 2 (cB (cK p) (1+cH n 3) 2 u).1).1.i,Y⟩:aI) (dN (cK p) (1+cH n 3) 2 (cB (cK p) (1+cH n 3) 2 u).1).1),bE ov2 (dN (cK p) (1+cH n 3) 2 (cB (cK p) (1+cH n 3) 2 u).1).2.1,dZ (kK O J),bW b14 (j0 G),bW b9 (j0 (⟨(dN (cK p) (1+cH n 3) 2 u).1.kind,(dN (cK p) (1+cH n 3) 2 u).1.t,(dN (cK p) (1+cH n 3) 2 u).1.i,V⟩:aI)),dZ (λw=>mi w (⟨(dN (cK p) (1+cH n 3) 2 u).1.kind,(dN (cK p) (1+cH n 3) 2 u).1.t,(dN (cK p) (1+cH n 3) 2 u).1.i,V⟩:aI) (dN (cK p) (1+cH n 3) 2 u).1),bE Z (dN (cK p) (1+cH n 3) 2 u).2.1,bW b3 (j0 I)] w',⟨_,0,rfl,rfl,l0 _,B⟩,?_⟩
 rintro mm _ _ ⟨k,rfl,rfl,hk,B⟩ _;have Hk:=M _ B.p3.dZ;refine aK fD Hk.1 (aR (aC (λc1=>?_) λc1=>?_));rotate_left
 .exact aW auL B (C34 _) (λ_ _ B=>⟨rfl,B.aG⟩)
 have Ag:k<(cB (cK p) (1+cH n 3) 2 u).1.length:=cO
 have hwo:(mq (cB (cK p) (1+cH n 3) 2 u).1 (k:Int))=(cB (cK p) (1+cH n 3) 2 u).1.eraseIdx k:=Sg Ag;refine⟨λw'=>St w aX [bW b16 (j0 (⟨(dN (cK p) (1+cH n 3) 2 (cB (cK p) (1+cH n 3) 2 u).1).1.kind,(dN (cK p) (1+cH n 3) 2 (cB (cK p) (1+cH n 3) 2 u).1).1.t,(dN (cK p) (1+cH n 3) 2 (cB (cK p) (1+cH n 3) 2 u).1).1.i,Y⟩:aI)),dZ (λw=>mi w (⟨(dN (cK p) (1+cH n 3) 2 (cB (cK p) (1+cH n 3) 2 u).1).1.kind,(dN (cK p) (1+cH n 3) 2 (cB (cK p) (1+cH n 3) 2 u).1).1.t,(dN (cK p) (1+cH n 3) 2 (cB (cK p) (1+cH n 3) 2 u).1).1.i,Y⟩:aI) (dN (cK p) (1+cH n 3) 2 (cB (cK p) (1+cH n 3) 2 u).1).1),bE ov2 (dN (cK p) (1+cH n 3) 2 (cB (cK p) (1+cH n 3) 2 u).1).2.1,dZ (kK O J),bW b14 (j0 G),bW b9 (j0 (⟨(dN (cK p) (1+cH n 3) 2 u).1.kind,(dN (cK p) (1+cH n 3) 2 u).1.t,(dN (cK p) (1+cH n 3) 2 u).1.i,V⟩:aI)),dZ (λw=>mi w (⟨(dN (cK p) (1+cH n 3) 2 u).1.kind,(dN (cK p) (1+cH n 3) 2 u).1.t,(dN (cK p) (1+cH n 3) 2 u).1.i,V⟩:aI) (dN (cK p) (1+cH n 3) 2 u).1),bE Z (dN (cK p) (1+cH n 3) 2 u).2.1,bW b3 (j0 I)] w',?_,?_⟩
 rotate_left
 .rintro w63 B dd4;exact aO cO ⟨_,cO,k+1,rfl,rfl,cO,B⟩
 refine⟨λxv w'=>∃(E:Nat) (g3:SV),xv=.pointer (some ⟨E,0,none⟩)/\St w aX [bW E (j0 (⟨(dP (cK p) (1+cH n 3) 2 (mq (cB (cK p) (1+cH n 3) 2 u).1 (k:Int))).2.1.kind,(dP (cK p) (1+cH n 3) 2 (mq (cB (cK p) (1+cH n 3) 2 u).1 (k:Int))).2.1.t,(dP (cK p) (1+cH n 3) 2 (mq (cB (cK p) (1+cH n 3) 2 u).1 (k:Int))).2.1.i,g3⟩:aI)),bW b16 (j0 (⟨(dN (cK p) (1+cH n 3) 2 (cB (cK p) (1+cH n 3) 2 u).1).1.kind,(dN (cK p) (1+cH n 3) 2 (cB (cK p) (1+cH n 3) 2 u).1).1.t,(dN (cK p) (1+cH n 3) 2 (cB (cK p) (1+cH n 3) 2 u).1).1.i,Y⟩:aI)),dZ (λw=>mi w (⟨(dN (cK p) (1+cH n 3) 2 (cB (cK p) (1+cH n 3) 2 u).1).1.kind,(dN (cK p) (1+cH n 3) 2 (cB (cK p) (1+cH n 3) 2 u).1).1.t,(dN (cK p) (1+cH n 3) 2 (cB (cK p) (1+cH n 3) 2 u).1).1.i,Y⟩:aI) (dN (cK p) (1+cH n 3) 2 (cB (cK p) (1+cH n 3) 2 u).1).1),bE ov2 (dN (cK p) (1+cH n 3) 2 (cB (cK p) (1+cH n 3) 2 u).1).2.1,dZ (kK O J),bW b14 (j0 G),bW b9 (j0 (⟨(dN (cK p) (1+cH n 3) 2 u).1.kind,(dN (cK p) (1+cH n 3) 2 u).1.t,(dN (cK p) (1+cH n 3) 2 u).1.i,V⟩:aI)),dZ (λw=>mi w (⟨(dN (cK p) (1+cH n 3) 2 u).1.kind,(dN (cK p) (1+cH n 3) 2 u).1.t,(dN (cK p) (1+cH n 3) 2 u).1.i,V⟩:aI) (dN (cK p) (1+cH n 3) 2 u).1),bE Z (dN (cK p) (1+cH n 3) 2 u).2.1,bW b3 (j0 I)] w',?_,?_⟩
 .have B:=B.drew;refine aD er B.p8.At ⟨dV auI B (C31 (kK O J) RI t3 (k:Int) _ (λ_ e=>(B.ext e).p3.dZ) (λw h=>(M w h).1) cO) (λW _ U B=>⟨eL er B.p9.At,⟨?_,?_,trivial⟩⟩),?_,trivial⟩
  .refine dO anq (C28 (λw'=>kK O J w'/\dD (λ_=>True) w' W (mq t3 (k:Int))) (kK O J) (cK p) I (1+cH n 3) 2 W (mq t3 (k:Int)) (mq (cB (cK p) (1+cH n 3) 2 u).1 (k:Int)) _ (λ_ e=>⟨(B.ext e).p4.dZ,(B.ext e).dZ (B.ext e).p4.dZ⟩) (hp3.mono λ_ h=>h.1) hz (λ_ h=>h.2) (λw h=>Dk (M w h).2) (λ_ h=>h.1) (by have:=uA (cB (cK p) (1+cH n 3) 2 u).1 (k:Int);omega) λq hq=>hc3 q (ze hq)) ?_;rintro _ _ ⟨tv,us3,ev3,rfl,_,U⟩;have B:=(B.made U).split;obtain⟨g3,rfl,_⟩:=B.p1.dZ;have B:=B.drop.drop;refine aM rfl (aM rfl (aM rfl (aN B gu λE _ B=>?_)))
   refine⟨eL er B.p10.At,?_⟩;exact aJ (x:=(⟨(dP (cK p) (1+cH n 3) 2 (mq (cB (cK p) (1+cH n 3) 2 u).1 (k:Int))).2.1.kind,(dP (cK p) (1+cH n 3) 2 (mq (cB (cK p) (1+cH n 3) 2 u).1 (k:Int))).2.1.t,(dP (cK p) (1+cH n 3) 2 (mq (cB (cK p) (1+cH n 3) 2 u).1 (k:Int))).2.1.i,g3⟩:aI)) B eW rfl rfl (λ_ B=>have B:=B.p1.drop.p9.p9.p9.p9.p9.p9.p9.p9.p9.p9;⟨E,g3,rfl,B⟩)
  .refine aN B gu (λE _ B=>?_);refine⟨eL er B.p10.At,?_⟩;refine dO anq (C28 (λw'=>kK O J w'/\dD (λ_=>True) w' W (mq t3 (k:Int))) (kK O J) (cK p) I (1+cH n 3) 2 W (mq t3 (k:Int)) (mq (cB (cK p) (1+cH n 3) 2 u).1 (k:Int)) _ (λ_ e=>⟨(B.ext e).p5.dZ,(B.ext e).p1.dZ (B.ext e).p5.dZ⟩) (hp3.mono λ_ h=>h.1) hz (λ_ h=>h.2) (λw h=>Dk (M w h).2) (λ_ h=>h.1) (by have:=uA (cB (cK p) (1+cH n 3) 2 u).1 (k:Int);omega) λq hq=>hc3 q (ze hq)) ?_;rintro _ _ ⟨tv,us3,ev3,rfl,_,U⟩;have B:=(B.made U).split;obtain⟨g3,rfl,_⟩:=B.p1.dZ;have B:=B.drop.drop
   exact aM rfl (aM rfl (aM rfl (aJ (x:=(⟨(dP (cK p) (1+cH n 3) 2 (mq (cB (cK p) (1+cH n 3) 2 u).1 (k:Int))).2.1.kind,(dP (cK p) (1+cH n 3) 2 (mq (cB (cK p) (1+cH n 3) 2 u).1 (k:Int))).2.1.t,(dP (cK p) (1+cH n 3) 2 (mq (cB (cK p) (1+cH n 3) 2 u).1 (k:Int))).2.1.i,g3⟩:aI)) B eW rfl rfl λ_ B=>have B:=B.p1.drop.p9.p9.p9.p9.p9.p9.p9.p9.p9.p9;⟨E,g3,rfl,B⟩)))
  refine aN B gu (λE _ B=>?_);refine⟨eL er B.p9.At,?_⟩;refine dV auI B (C31 (kK O J) RI t3 (k:Int) _ (λ_ e=>(B.ext e).p4.dZ) (λw h=>(M w h).1) cO) (λW _ U B=>?_);refine⟨eL er B.p10.At,?_⟩;refine dO anq (C28 (λw'=>kK O J w'/\dD (λ_=>True) w' W (mq t3 (k:Int))) (kK O J) (cK p) I (1+cH n 3) 2 W (mq t3 (k:Int)) (mq (cB (cK p) (1+cH n 3) 2 u).1 (k:Int)) _ (λ_ e=>⟨(B.ext e).p5.dZ,(B.ext e).dZ (B.ext e).p5.dZ⟩) (hp3.mono λ_ h=>h.1) hz (λ_ h=>h.2) (λw h=>Dk (M w h).2) (λ_ h=>h.1) (by have:=uA (cB (cK p) (1+cH n 3) 2 u).1 (k:Int);omega) λq hq=>hc3 q (ze hq)) ?_
  rintro _ _ ⟨tv,us3,ev3,rfl,_,U⟩;have B:=(B.made U).split;obtain⟨g3,rfl,_⟩:=B.p1.dZ;have B:=B.drop.drop;exact aM rfl (aM rfl (aM rfl (aJ (x:=(⟨(dP (cK p) (1+cH n 3) 2 (mq (cB (cK p) (1+cH n 3) 2 u).1 (k:Int))).2.1.kind,(dP (cK p) (1+cH n 3) 2 (mq (cB (cK p) (1+cH n 3) 2 u).1 (k:Int))).2.1.t,(dP (cK p) (1+cH n 3) 2 (mq (cB (cK p) (1+cH n 3) 2 u).1 (k:Int))).2.1.i,g3⟩:aI)) B.p1 eW rfl rfl λ_ B=>have B:=B.p1.drop.p9.p9.p9.p9.p9.p9.p9.p9.p9.p9;⟨E,g3,rfl,B⟩)))
 rintro _ _ ⟨E,g3,rfl,B⟩ dd4;refine⟨λjv w'=>jv=.bool false/\St w aX [bW E (j0 (⟨(dP (cK p) (1+cH n 3) 2 (mq (cB (cK p) (1+cH n 3) 2 u).1 (k:Int))).2.1.kind,(dP (cK p) (1+cH n 3) 2 (mq (cB (cK p) (1+cH n 3) 2 u).1 (k:Int))).2.1.t,(dP (cK p) (1+cH n 3) 2 (mq (cB (cK p) (1+cH n 3) 2 u).1 (k:Int))).2.1.i,g3⟩:aI)),bW b16 (j0 (⟨(dN (cK p) (1+cH n 3) 2 (cB (cK p) (1+cH n 3) 2 u).1).1.kind,(dN (cK p) (1+cH n 3) 2 (cB (cK p) (1+cH n 3) 2 u).1).1.t,(dN (cK p) (1+cH n 3) 2 (cB (cK p) (1+cH n 3) 2 u).1).1.i,Y⟩:aI)),dZ (λw=>mi w (⟨(dN (cK p) (1+cH n 3) 2 (cB (cK p) (1+cH n 3) 2 u).1).1.kind,(dN (cK p) (1+cH n 3) 2 (cB (cK p) (1+cH n 3) 2 u).1).1.t,(dN (cK p) (1+cH n 3) 2 (cB (cK p) (1+cH n 3) 2 u).1).1.i,Y⟩:aI) (dN (cK p) (1+cH n 3) 2 (cB (cK p) (1+cH n 3) 2 u).1).1),bE ov2 (dN (cK p) (1+cH n 3) 2 (cB (cK p) (1+cH n 3) 2 u).1).2.1,dZ (kK O J),bW b14 (j0 G),bW b9 (j0 (⟨(dN (cK p) (1+cH n 3) 2 u).1.kind,(dN (cK p) (1+cH n 3) 2 u).1.t,(dN (cK p) (1+cH n 3) 2 u).1.i,V⟩:aI)),dZ (λw=>mi w (⟨(dN (cK p) (1+cH n 3) 2 u).1.kind,(dN (cK p) (1+cH n 3) 2 u).1.t,(dN (cK p) (1+cH n 3) 2 u).1.i,V⟩:aI) (dN (cK p) (1+cH n 3) 2 u).1),bE Z (dN (cK p) (1+cH n 3) 2 u).2.1,bW b3 (j0 I)] w',?_,?_⟩
 .exact aA iW (aB (v:=hZ (dP (cK p) (1+cH n 3) 2 (mq (cB (cK p) (1+cH n 3) 2 u).1 (k:Int))).2.1.kind) bL B.hb rfl (aA iW (aB (v:=hZ (dN (cK p) (1+cH n 3) 2 u).1.kind) bL B.p6.hb rfl (aH (aC (λc2=>aA ox (aB (v:=hZ (dP (cK p) (1+cH n 3) 2 (mq (cB (cK p) (1+cH n 3) 2 u).1 (k:Int))).2.1.t) bL B.hb rfl (aA ox (aB (v:=hZ (dN (cK p) (1+cH n 3) 2 u).1.t) bL B.p6.hb rfl (aH ⟨vb (fV λh=>k5 k Ag (by rw[<- hwo];exact⟨c2,h⟩)),B⟩))))) λ_=>⟨rfl,B⟩)))))
 rintro _ _ ⟨rfl,B⟩ _;exact fx B.drop
def own:ownKnob Tryz.prog.godebug=none:=by kernel_rfl
def rd9:zK hH 9 ByteArray (λy=>y.size<=maxLen):=RdT.deep (ajD Tryz.underlying9 (by kernel_rfl)) λ_ _=>rfl
def LF:zK hH 3 Int fe:=RdT.deep (ajC Tryz.underlying3 (by kernel_rfl)) λ_ _=>rfl
def auT:zK hH 161 cN yN:=λw=>⟨by kernel_rfl,λenc base held fuel cs x h=>by
 obtain⟨V,n,u⟩:=mM Tryz.underlying161 h
 obtain⟨y0,Y⟩:=u 0 _ rfl
 obtain⟨y1,h1⟩:=u 1 _ rfl
 obtain⟨y2,h2⟩:=u 2 _ rfl
 obtain⟨B,e0,a0,d0,O⟩:=(rd9 w).rd enc base held n _ _ Y
 obtain⟨E,M,W,J,k1⟩:=(LF w).rd enc base held n _ _ h1
 obtain⟨G,I,Z,d2,k2⟩:=(LF w).rd enc base held n _ _ h2
 obtain rfl:B=a0:=d0
 obtain rfl:E=W:=J
 obtain rfl:G=Z:=d2
 have p0:=eu (s:=1) e0
 have p1:=eu (s:=1) M
 have p2:=eu (s:=1) I
 have U:cs.drop 3=[]:=Cz.2 (by rw[V];exact AH (by kernel_rfl))
 refine⟨(⟨B,E,G⟩:cN),?_,(⟨B,E,G⟩:cN),rfl,O,k1,k2⟩
 have e:cs=cs.drop 0:=rfl
 rw[e]
 refine p0.trans ?_
 refine(g6 _ p1).trans ?_
 refine(g6 _ (g6 _ p2)).trans ?_
 exact(g6 _ (g6 _ (g6 _ U)))⟩
def anx:zK hH 23 (List cN) (λys:(List cN)=>∀y∈ys,yN y):=zK.slice Tryz.underlying23 (by kernel_rfl) auT
def aB5:zK hH 22 (List (List cN)) (λys:(List (List cN))=>∀y∈ys,(λys:(List cN)=>∀y∈ys,yN y) y):=zK.slice Tryz.underlying22 (by kernel_rfl) anx
def aB6:zK hH 91 (List ByteArray) (λys:(List ByteArray)=>∀y∈ys,(λy:ByteArray=>y.size<=maxLen) y):=zK.slice Tryz.underlying91 (by kernel_rfl) rd9
def auU:zK hH 164 cC Bo:=λw=>⟨by kernel_rfl,λenc base held fuel cs x h=>by
 obtain⟨hl,n,u⟩:=mM Tryz.underlying164 h
 obtain⟨y0,Z⟩:=u 0 _ rfl
 obtain⟨y1,h1⟩:=u 1 _ rfl
 obtain⟨y2,h2⟩:=u 2 _ rfl
 obtain⟨y3,h3⟩:=u 3 _ rfl
 obtain⟨E,e0,a0,d0,U⟩:=(LF w).rd enc base held n _ _ Z
 obtain⟨G,O,Y,M,k1⟩:=(LF w).rd enc base held n _ _ h1
 obtain⟨I,J,a2,d2,k2⟩:=(rd9 w).rd enc base held n _ _ h2
 obtain⟨B,e3,V,d3,k3⟩:=(LF w).rd enc base held n _ _ h3
 obtain rfl:E=a0:=d0
 obtain rfl:G=Y:=M
 obtain rfl:I=a2:=d2
 obtain rfl:B=V:=d3
 have p0:=eu (s:=1) e0
 have p1:=eu (s:=1) O
 have p2:=eu (s:=1) J
 have p3:=eu (s:=1) e3
 have W:cs.drop 4=[]:=Cz.2 (by rw[hl];exact AH (by kernel_rfl))
 refine⟨(⟨E,G,I,B⟩:cC),?_,(⟨E,G,I,B⟩:cC),rfl,U,k1,k2,k3⟩
 have e:cs=cs.drop 0:=rfl
 rw[e]
 refine p0.trans ?_
 refine(g6 _ p1).trans ?_
 refine(g6 _ (g6 _ p2)).trans ?_
 refine(g6 _ (g6 _ (g6 _ p3))).trans ?_
 exact(g6 _ (g6 _ (g6 _ (g6 _ W))))⟩
def anz:zK hH 82 (List cC) (λys:(List cC)=>∀y∈ys,Bo y):=zK.slice Tryz.underlying82 (by kernel_rfl) auU
def auV:zK hH 193 bR J5:=λw=>⟨by kernel_rfl,λenc base held fuel cs x h=>by
 obtain⟨hl,n,u⟩:=mM Tryz.underlying193 h
 obtain⟨y0,h0⟩:=u 0 _ rfl
 obtain⟨y1,h1⟩:=u 1 _ rfl
 obtain⟨y2,h2⟩:=u 2 _ rfl
 obtain⟨y3,h3⟩:=u 3 _ rfl
 obtain⟨y4,h4⟩:=u 4 _ rfl
 obtain⟨y5,h5⟩:=u 5 _ rfl
 obtain⟨y6,h6⟩:=u 6 _ rfl
 obtain⟨y7,h7⟩:=u 7 _ rfl
 obtain⟨y8,h8⟩:=u 8 _ rfl
 obtain⟨E,e0,a0,d0,k0⟩:=(LF w).rd enc base held n _ _ h0
 obtain⟨G,e1,a1,d1,k1⟩:=(rd9 w).rd enc base held n _ _ h1
 obtain⟨I,e2,a2,d2,k2⟩:=(rd9 w).rd enc base held n _ _ h2
 obtain⟨V,e3,Z,d3,k3⟩:=(anz w).rd enc base held n _ _ h3
 obtain⟨U,e4,a4,d4,W⟩:=(anz w).rd enc base held n _ _ h4
 obtain⟨J,Y,a5,d5,k5⟩:=(LF w).rd enc base held n _ _ h5
 obtain⟨B,e6,a6,d6,k6⟩:=(LF w).rd enc base held n _ _ h6
 obtain⟨O,e7,a7,d7,k7⟩:=(LF w).rd enc base held n _ _ h7
 obtain⟨M,e8,a8,d8,k8⟩:=(LF w).rd enc base held n _ _ h8
 obtain rfl:E=a0:=d0
 obtain rfl:G=a1:=d1
 obtain rfl:I=a2:=d2
 obtain rfl:J=a5:=d5
 obtain rfl:B=a6:=d6
 obtain rfl:O=a7:=d7
 obtain rfl:M=a8:=d8
 have p0:=eu (s:=1) e0
 have p1:=eu (s:=1) e1
 have p2:=eu (s:=1) e2
 have p3:=eu (s:=1) e3
 have p4:=eu (s:=1) e4
 have p5:=eu (s:=1) Y
 have p6:=eu (s:=1) e6
 have p7:=eu (s:=1) e7
 have p8:=eu (s:=1) e8
 have hz:cs.drop 9=[]:=Cz.2 (by rw[hl];exact AH (by kernel_rfl))
 refine⟨(⟨E,G,I,V,U,J,B,O,M⟩:bF),?_,(⟨E,G,I,Z,a4,J,B,O,M⟩:bR),⟨V,U,rfl,d3,d4⟩,k0,k1,k2,k3,W,k5,k6,k7,k8⟩
 have e:cs=cs.drop 0:=rfl
 rw[e]
 refine p0.trans ?_
 refine(g6 _ p1).trans ?_
 refine(g6 _ (g6 _ p2)).trans ?_
 refine(g6 _ (g6 _ (g6 _ p3))).trans ?_
 refine(g6 _ (g6 _ (g6 _ (g6 _ p4)))).trans ?_
 refine(g6 _ (g6 _ (g6 _ (g6 _ (g6 _ p5))))).trans ?_
 refine(g6 _ (g6 _ (g6 _ (g6 _ (g6 _ (g6 _ p6)))))).trans ?_
 refine(g6 _ (g6 _ (g6 _ (g6 _ (g6 _ (g6 _ (g6 _ p7))))))).trans ?_
 refine(g6 _ (g6 _ (g6 _ (g6 _ (g6 _ (g6 _ (g6 _ (g6 _ p8)))))))).trans ?_
 exact(g6 _ (g6 _ (g6 _ (g6 _ (g6 _ (g6 _ (g6 _ (g6 _ (g6 _ hz)))))))))⟩
def auW:zK hH 141 (List bR) (λys:(List bR)=>∀y∈ys,J5 y):=zK.slice Tryz.underlying141 (by kernel_rfl) auV
def auX:zK hH 146 cR yO:=λw=>⟨by kernel_rfl,λenc base held fuel cs x h=>by
 obtain⟨hl,n,u⟩:=mM Tryz.underlying146 h
 obtain⟨y0,Z⟩:=u 0 _ rfl
 obtain⟨y1,h1⟩:=u 1 _ rfl
 obtain⟨y2,h2⟩:=u 2 _ rfl
 obtain⟨y3,h3⟩:=u 3 _ rfl
 obtain⟨E,e0,a0,d0,U⟩:=(rd9 w).rd enc base held n _ _ Z
 obtain⟨G,O,Y,M,k1⟩:=(aB6 w).rd enc base held n _ _ h1
 obtain⟨I,J,a2,d2,k2⟩:=(auW w).rd enc base held n _ _ h2
 obtain⟨B,e3,V,d3,k3⟩:=(LF w).rd enc base held n _ _ h3
 obtain rfl:E=a0:=d0
 obtain rfl:B=V:=d3
 have p0:=eu (s:=1) e0
 have p1:=eu (s:=1) O
 have p2:=eu (s:=1) J
 have p3:=eu (s:=1) e3
 have W:cs.drop 4=[]:=Cz.2 (by rw[hl];exact AH (by kernel_rfl))
 refine⟨(⟨E,G,I,B⟩:cL),?_,(⟨E,Y,a2,B⟩:cR),⟨G,I,rfl,M,d2⟩,U,k1,k2,k3⟩
 have e:cs=cs.drop 0:=rfl
 rw[e]
 refine p0.trans ?_
 refine(g6 _ p1).trans ?_
 refine(g6 _ (g6 _ p2)).trans ?_
 refine(g6 _ (g6 _ (g6 _ p3))).trans ?_
 exact(g6 _ (g6 _ (g6 _ (g6 _ W))))⟩
def auY:zK hH 24 (List cR) (λys:(List cR)=>∀y∈ys,yO y):=zK.slice Tryz.underlying24 (by kernel_rfl) auX
def aB7:zK hH 85 ic Fo:=λw=>⟨by kernel_rfl,λenc base held fuel cs x h=>by
 obtain⟨Z,n,B⟩:=mM Tryz.underlying85 h
 obtain⟨y0,U⟩:=B 0 _ rfl
 obtain⟨y1,h1⟩:=B 1 _ rfl
 obtain⟨E,e0,W,Y,J⟩:=(anz w).rd enc base held n _ _ U
 obtain⟨u,I,O,G,V⟩:=(LF w).rd enc base held n _ _ h1
 obtain rfl:u=O:=G
 have p0:=eu (s:=1) e0
 have p1:=eu (s:=1) I
 have M:cs.drop 2=[]:=Cz.2 (by rw[Z];exact AH (by kernel_rfl))
 refine⟨(⟨E,u⟩:jF),?_,(⟨W,u⟩:ic),⟨E,rfl,Y⟩,J,V⟩
 have e:cs=cs.drop 0:=rfl
 rw[e]
 refine p0.trans ?_
 refine(g6 _ p1).trans ?_
 exact(g6 _ (g6 _ M))⟩
def aB8:zK hH 25 (List ic) (λys:(List ic)=>∀y∈ys,Fo y):=zK.slice Tryz.underlying25 (by kernel_rfl) aB7
def rd27:zK hH 27 bZ aec:=λw=>⟨by kernel_rfl,λenc base held fuel cs x h=>by
 obtain⟨hl,n,u⟩:=mM Tryz.underlying27 h
 obtain⟨y0,h0⟩:=u 0 _ rfl
 obtain⟨y1,h1⟩:=u 1 _ rfl
 obtain⟨y2,h2⟩:=u 2 _ rfl
 obtain⟨y3,h3⟩:=u 3 _ rfl
 obtain⟨y4,h4⟩:=u 4 _ rfl
 obtain⟨y5,h5⟩:=u 5 _ rfl
 obtain⟨I,e0,a0,d0,Z⟩:=(aB5 w).rd enc base held n _ _ h0
 obtain⟨J,Y,a1,V,k1⟩:=(anx w).rd enc base held n _ _ h1
 obtain⟨M,U,a2,d2,k2⟩:=(anx w).rd enc base held n _ _ h2
 obtain⟨G,e3,a3,d3,k3⟩:=(auY w).rd enc base held n _ _ h3
 obtain⟨E,e4,a4,d4,O⟩:=(auY w).rd enc base held n _ _ h4
 obtain⟨B,W,a5,d5,k5⟩:=(aB8 w).rd enc base held n _ _ h5
 have p0:=eu (s:=1) e0
 have p1:=eu (s:=1) Y
 have p2:=eu (s:=1) U
 have p3:=eu (s:=1) e3
 have p4:=eu (s:=1) e4
 have p5:=eu (s:=1) W
 have hz:cs.drop 6=[]:=Cz.2 (by rw[hl];exact AH (by kernel_rfl))
 refine⟨(⟨I,J,M,G,E,B⟩:bO),?_,(⟨a0,a1,a2,a3,a4,a5⟩:bZ),⟨I,J,M,G,E,B,rfl,d0,V,d2,d3,d4,d5⟩,Z,k1,k2,k3,O,k5⟩
 have e:cs=cs.drop 0:=rfl
 rw[e]
 refine p0.trans ?_
 refine(g6 _ p1).trans ?_
 refine(g6 _ (g6 _ p2)).trans ?_
 refine(g6 _ (g6 _ (g6 _ p3))).trans ?_
 refine(g6 _ (g6 _ (g6 _ (g6 _ p4)))).trans ?_
 refine(g6 _ (g6 _ (g6 _ (g6 _ (g6 _ p5))))).trans ?_
 exact(g6 _ (g6 _ (g6 _ (g6 _ (g6 _ (g6 _ hz))))))⟩
def aB9:zK hH 41 (List Int) (λys:(List Int)=>∀y∈ys,fe y):=zK.slice Tryz.underlying41 (by kernel_rfl) LF
def aCa:zK hH 50 aS S5:=λw=>⟨by kernel_rfl,λenc base held fuel cs x h=>by
 obtain⟨hl,n,u⟩:=mM Tryz.underlying50 h
 obtain⟨y0,Z⟩:=u 0 _ rfl
 obtain⟨y1,h1⟩:=u 1 _ rfl
 obtain⟨y2,h2⟩:=u 2 _ rfl
 obtain⟨y3,h3⟩:=u 3 _ rfl
 obtain⟨B,e0,a0,d0,U⟩:=(LF w).rd enc base held n _ _ Z
 obtain⟨E,O,Y,M,k1⟩:=(LF w).rd enc base held n _ _ h1
 obtain⟨G,J,a2,d2,k2⟩:=(LF w).rd enc base held n _ _ h2
 obtain⟨I,e3,V,d3,k3⟩:=(aB9 w).rd enc base held n _ _ h3
 obtain rfl:B=a0:=d0
 obtain rfl:E=Y:=M
 obtain rfl:G=a2:=d2
 have p0:=eu (s:=1) e0
 have p1:=eu (s:=1) O
 have p2:=eu (s:=1) J
 have p3:=eu (s:=1) e3
 have W:cs.drop 4=[]:=Cz.2 (by rw[hl];exact AH (by kernel_rfl))
 refine⟨(⟨B,E,G,I⟩:aI),?_,(⟨B,E,G,V⟩:aS),⟨I,rfl,d3⟩,U,k1,k2,k3⟩
 have e:cs=cs.drop 0:=rfl
 rw[e]
 refine p0.trans ?_
 refine(g6 _ p1).trans ?_
 refine(g6 _ (g6 _ p2)).trans ?_
 refine(g6 _ (g6 _ (g6 _ p3))).trans ?_
 exact(g6 _ (g6 _ (g6 _ (g6 _ W))))⟩
def rd53:zK hH 53 vT ajH:=λw=>⟨by kernel_rfl,λenc base held fuel cs x h=>by
 obtain⟨V,n,u⟩:=mM Tryz.underlying53 h
 obtain⟨y0,Y⟩:=u 0 _ rfl
 obtain⟨y1,h1⟩:=u 1 _ rfl
 obtain⟨y2,h2⟩:=u 2 _ rfl
 obtain⟨B,e0,a0,d0,O⟩:=(LF w).rd enc base held n _ _ Y
 obtain⟨E,M,W,J,k1⟩:=(LF w).rd enc base held n _ _ h1
 obtain⟨G,I,Z,d2,k2⟩:=(aCa w).rd enc base held n _ _ h2
 obtain rfl:B=a0:=d0
 obtain rfl:E=W:=J
 have p0:=eu (s:=1) e0
 have p1:=eu (s:=1) M
 have p2:=eu (s:=4) I
 have U:cs.drop 6=[]:=Cz.2 (by rw[V];exact AH (by kernel_rfl))
 refine⟨(⟨B,E,G⟩:S7),?_,(⟨B,E,Z⟩:vT),⟨G,rfl,d2⟩,O,k1,k2⟩
 have e:cs=cs.drop 0:=rfl
 rw[e]
 refine p0.trans ?_
 refine(g6 _ p1).trans ?_
 refine(g6 _ (g6 _ p2)).trans ?_
 exact(g6 _ (g6 _ (g6 _ U)))⟩
end Go.Proofs.YtpdlpabnlkofmaaGreatDoor

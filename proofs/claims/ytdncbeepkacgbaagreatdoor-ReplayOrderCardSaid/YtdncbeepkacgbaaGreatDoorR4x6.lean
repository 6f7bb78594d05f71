/-
  Part 6.
-/
import Derived.Test.YtdncbeepkacgbaaGreatDoorR4x5
set_option maxHeartbeats 8000000
set_option linter.all false
set_option maxRecDepth 100000
open ByteArray renaming mk->hZ
open Go.Fw.Flat renaming val->ia,enc->iW
open List renaming getElem?_eq_some_iff->jq,getElem?_eq_getElem->j0,take_of_length_le->kE,mem_of_getElem?->l0,length_take->ml,length_singleton->nD,length_map->nQ,drop_eq_nil_of_le->ou,drop_eq_getElem_cons->pd,nil_append->sk,range->tr,cons_append->EO,getElem?_range->Fl,length_range->P9
open Go.Instr renaming build->l1,sliceAt->mA,box->pQ,field->SY
open Go.Fw.Deep renaming dr->l2,ext->FK
open Go.Value renaming int->mj,string->tO,tuple->KP
open Nat renaming zero_le->mr,le_of_eq->CJ
open Bool renaming and_eq_true->nw,true_and->tx
open Decidable renaming not_not->zP
open Int renaming le_refl->IT
namespace Go.Proofs.YtdncbeepkacgbaaGreatDoor
open Go.Fw
def ThK.mono{K E:hM}{G:bU}{t:bW}(h:ThK K G t)(B:∀w,E w->K w):ThK E G t:=by
 obtain⟨I,J,rows,e,h1,h2⟩:=h
 exact⟨I,J,rows,e,λw u=>h1 w (B w u),λw=>⟨λw' u=>(h2 w).1 w' (B w' u),λu=>(h2 w).2 (B w u)⟩⟩
def Fb.mono{K B:hM}{u:List bU}{so:List bW}(h:Fb K u so)(G:∀w,B w->K w):Fb B u so:=⟨h.1,λj E t h1 h2=>(h.2 j E t h1 h2).mono G⟩
def Kf{p:bQ}(hc:L5 p){t:bW}(ht:t∈ij p):t.body=(TD t.body).flat:=by
 obtain⟨_,h2,_⟩:=hc.f.so ht
 obtain⟨_,_,b,h5,h6,_⟩:=mi h2
 rw[h5,FJ h6]
def vv(K:hM)(lv:SV)(so:List bW):Prop:=∃u,(∀w,K w->dy (λ_=>True) w (ia lv) u)/\Fb K u so
structure Ms(K:hM)(pv:cA)(p:bQ):Prop where
 pr:∀w,K w->l2 w pv p
 th:vv K pv.threads p.threads
 rc:vv K pv.recover p.recover
def Rq(m:iG)(q:aT):iG:=match lf m q with|some u=>{m with mem:=nB m.mem u}|none=>m
def Kg(m:Mem)(cut:List Int)(v:Value)(B:Mem):Prop:=(gD m cut=none/\B=m/\v=hU 1)\/∃u,gD m cut=some u/\B=nB m u/\v=hU 0
def H9{m:Mem}{cut:List Int}{v:Value}{p:Nat}{ov fv:Value}{F:Nat->Prop}{w w':World}
  (h:(gD m cut=none/\v=hU 1/\mF F (fD p ov fv m) w w')\/∃u,gD m cut=some u/\v=hU 0/\mF F (fD p ov fv (nB m u)) w w') :
  True/\mF F (oW λE=>fact (Kg m cut v E) (fD p ov fv E)) w w':=by
 refine⟨trivial,?_⟩
 rcases h with⟨h1,h2,B,h3,h4,h5⟩|⟨u,h1,h2,B,h3,h4,h5⟩
 .exact⟨B,⟨m,.inl ⟨h1,rfl,h2⟩,h3⟩,h4,h5⟩
 exact⟨B,⟨nB m u,.inr ⟨u,h1,rfl,h2⟩,h3⟩,h4,h5⟩
theorem aeF(K:hM):Fb K [(⟨⟨#[]⟩,bZ,bZ,0⟩:bU)] [⟨⟨#[]⟩,[],[],0⟩]:=by
 refine⟨rfl,λj u t h1 h2=>?_⟩
 cases j with
 | zero=>
  cases h1;cases h2
  exact⟨bZ,bZ,[],rfl,λw _=>dy.nil _ w,λw=>⟨λ_ _=>gU.nil,λ_=>dy.nil _ w⟩⟩
 | succ j=>simp at h1
def C17(K:hM)(p:bQ)(pv:cA)(room:Int)(w:World)(M:∀w',Ext w w'->K w')(G:Ms K pv p)(I:PZ p):CR 17 [ia pv,hU room] w (λv w'=>(eJ p≠0/\v=.tuple #[.pointer none,hU (eJ p)]/\Ext w w')\/(eJ p=0/\(room<1\/16<room)/\v=.tuple #[.pointer none,hU 1]/\Ext w w')\/
  (eJ p=0/\(1<=room/\room<=16)/\∃(b:Nat) (X:hM),v=.tuple #[.pointer (some ⟨b,0,none⟩),hU 0]/\mG (sep (fk (λw=>K w/\X w) b (je p room)) (eI X)) w w')):=by
 have u:=St.start w;refine XM _ _ _ _ ?_;unfold S17;refine bY (x:=pv) u (λbp w1 u=>aE fW u.At (dX aiz (C49 p pv _ (G.pr _ (M _ u.aF)) I) ?_));rintro _ _ ⟨aa,rfl,W⟩;have u:=u.ext W;refine aJ rfl (aJ rfl (cC (aC (λc=>?_) λc=>?_)))
 .exact .inl ⟨c,rfl,u.drop.aF⟩
 have zy:eJ p=0:=bP
 have Y:=Kd zy;have To:=V1 Y;have O8:=zX p;refine dX aan (C50 room _) ?_;rintro v3 _ hh
 rcases hh with⟨hrb,rfl,W⟩|⟨Dv,BT,b3,rfl,V⟩
 .have u:=u.ext W;refine aJ rfl (aJ rfl (cC (gT ea ?_)));exact .inr (.inl ⟨zy,hrb,rfl,u.drop.aF⟩)
 have u:=(u.made V).drop;refine aJ rfl (aJ rfl (cC (fI ea (have u:=u.drew;aE fW u.At (aE fW u.At (aE fW u.At (fZ ah0 u (C51 p pv _ (G.pr _ (M _ u.aF)) I) λx31 _ V u=>?_)))))));refine⟨jk fW u.p1.At,?_⟩;refine⟨jk fW u.p1.At,?_⟩;refine fZ ah1 u (C52 p pv _ (G.pr _ (M _ u.aF)) I) (λx33 _ V u=>?_);refine⟨jk fW u.p2.At,?_⟩;obtain⟨E,rfl⟩:=u.gu;obtain⟨B,rfl⟩:=u.p1.gu;refine pop (zG _ _ _ _ _ _ _ _ _ _ _ _ _ _ _ _ _ _ _ _ _ _ _ _ _) (o0 u λU w6 u=>aD (aA yz (aB lX u.hb rfl (aI iR u.p2.eU ?_))))
 have u:=u.eF (α:=Int);have RW:St w bF [bH (.slice none 0 0) ([]:List Int),bM U (mw ⟨pv,B,E,0,.slice none 0 0,.slice none 0 0,.slice none 0 0,.slice none 0 0,[]⟩ (zJ p room) |>.set 9 (.pointer none)),bH (ia E) (cS p),bH (ia B) (cX p),bM bp (iW pv)] w6:=u;refine⟨λmm o y w1=>∃k:Nat,y=hU (k:Int)/\mm=(cX p).length-k/\k<=(cX p).length/\St w bF [bH o ((ye p).take k),bM U (mw ⟨pv,B,E,0,.slice none 0 0,.slice none 0 0,.slice none 0 0,.slice none 0 0,[]⟩ (zJ p room) |>.set 9 (.pointer none)),bH (ia E) (cS p),bH (ia B) (cX p),bM bp (iW pv)] w1,⟨_,0,rfl,rfl,mr _,RW⟩,?_⟩
 rintro mm o _ _ ⟨k,rfl,rfl,hk,u⟩ _;have Og:(ye p).length=(cX p).length:=by unfold ye;rw[nQ,P9]
 refine aS (aC (λc1=>?_) λc1=>?_)
 .refine aE fW u.p4.At (aR acD u (C53 p pv (k:Int) _ (G.pr _ (M _ u.aF)) I) λ_ W u=>bK ([pq p (k:Int)]:List Int) u dz rfl rfl (dP rfl) λs49 _ u=>?_);have akd:=u.eU;refine cO u.p1 dz akd (by rw[ml,nD];omega) ea (λs50 _ u=>aK bP ?_);exact⟨_,bP,k+1,rfl,rfl,bP,by rw[<- gw (H8 (p:=p) (i:=k) bP)];exact u.p1.drop⟩
 rw[kE bP]at u;have u:=u.drew;refine aE fW u.p4.At (aE fW u.p4.At (aR OC u (C55 p pv _ (G.pr _ (M _ u.aF)) I) λ_ W u=>?_));refine⟨jk fW u.p4.At,?_⟩;refine fZ ah2 u (C56 p pv _ (G.pr _ (M _ u.aF)) I) (λx58 _ V u=>?_);have gn:=rT p;have Gl:(fQ p).length=(jd p).length:=by unfold fQ;rw[nQ]
 refine dX agw (C54 (ye p) (fQ p) (ee p) _ _ _ u.p1.eU u.eU bP bP bP λk n h1 h2=>?_) ?_
 .have h3:=QU Y h1 h2;have h4:=(jq.1 h2).1;exact⟨h3.1,bP,bP⟩
 rintro v59 _ ⟨q,ov,fv,rfl,V⟩;have u:=((u.made V).split).p1.split;refine aJ rfl (aJ rfl (aD (aA lY (aO u.p5 wQ (dP rfl) rfl λJ u=>aA pP (aB (v:=ia pv.threads) pO u.p8.hb rfl ?_)))));have u:=u.p8.drop.p5.drop.p4.drop.p3.freeze.p2.freeze.ic.p3.freeze.ic.p3.freeze.ic;obtain⟨O,u,Z⟩:=u.VP;have u:=u.D9 (H:=sM (λw=>K w/\pL O J w) room);have u:=(u.eF (α:=Ptr)).eF (α:=Int)
 have u:St w bF (bM U (mw ⟨pv,B,E,q,ia ov,ia fv,.slice none 0 0,.slice none 0 0,[]⟩ (zJ p room))::fD q (ia ov) (ia fv) (Pt (ye p) (ee p) (fQ p))::bH (.slice none 0 0) ([]:List Int)::bH (.slice none 0 0) ([]:List Ptr)::gp (sM (λw=>K w/\pL O J w) room) [] []::eI (pL O J)::[]) J:=by
  have h1:=u.p5.p5;exact h1
 obtain⟨vy,ht1,ht2⟩:=G.th;obtain⟨tvr,Qh,hr4⟩:=G.rc;have u:=fk.shut (K:=(λw=>K w/\pL O J w)) (m:=zJ p room) ⟨λw' h=>G.pr w' h.1,λw' h=>?_,λw' h=>?_,λw' h=>⟨?_,?_⟩,⟨tvr,λw' h=>Qh w' h.1,hr4.mono λ_ h=>h.1⟩⟩ u;rotate_left
 .have:=Z w' h.2;first|exact this.1|exact this.2|exact this.2.1|exact this.2.2|exact this.2.2.1|exact this.2.2.2
 .have:=Z w' h.2;first|exact this.1|exact this.2|exact this.2.1|exact this.2.2|exact this.2.2.1|exact this.2.2.2
 .have:=Z w' h.2;first|exact this.1|exact this.2|exact this.2.1|exact this.2.2|exact this.2.2.1|exact this.2.2.2
 .have:=Z w' h.2;first|exact this.1|exact this.2|exact this.2.1|exact this.2.2|exact this.2.2.1|exact this.2.2.2
 refine aU adv u (H':=λ_=>fk (λw=>K w/\pL O J w) U (je p room)) (Φ:=λ_ _=>True) (λF2 dQ dK=>?_) ?_
 .exact(C57 (λw=>K w/\pL O J w) U (zJ p room) p.threads _ vy F2 _ dQ (λw' hc=>⟨M _ (dK w' hc).aF,(dK w' hc).eI⟩) ⟨Dv,BT⟩ (by have:=I.eX;show(cS p).length<=_;unfold cS;rw[nQ];omega) (λw' hc=>ht1 w' (M _ (dK w' hc).aF)) (ht2.mono λ_ h=>h.1)
   (λ_ ht=>⟨C6 Y (List.mem_append_left _ ht),Kf Y (List.mem_append_left _ ht)⟩) (by have:=I.threads;omega)).mono λ_ _ r=>r.mono λ_ _ h=>⟨trivial,h.2⟩
 rintro _ _ _ u;exact .inr (.inr ⟨zy,⟨Dv,BT⟩,U,pL O J,rfl,(St.join u).fresh⟩)
theorem C37(K:hM)(p:Nat)(m:iG)(q:aT)(E:SV)(F:Nat->Prop)(w:World)(hF:(fk K p m).p w F)(Y:∀w',fH F w w'->K w')(Z:nV m)(QX:L5 m.p)(F6:MB m.mem 1000000)(hcb:0<=m.cL/\m.cL<=1000000)(YW:∀w',fH F w w'->dy (λ_=>True) w' (ia E) q.cut)(hql:q.cut.length<=1000) :
   CR 37 [.pointer (some ⟨p,0,none⟩),ia (⟨q.kind,q.t,q.i,E⟩:aQ)] w (λv w'=>v=.tuple #[ia (vi m q).2.1,hU (vi m q).2.2]/\mF F (fk K p (vi m q).1) w w'):=by
 have u:=St.begin hF;refine qj Tryz.func37 (pl:=P37) ?_;refine bY (x:=(⟨q.kind,q.t,q.i,E⟩:aQ)) u (λb3 w1 u=>aM u qS λb4 _ u=>?_);have u:=u.enc (cs':=iW (⟨0,0,0,0,0⟩:cQ)) rfl;refine⟨λjv w'=>jv=.bool (lf m q).isSome/\St w F [fk K p (Rq m q),bM b4 (iW (⟨0,0,0,0,0⟩:cQ)),bM b3 (iW (⟨q.kind,q.t,q.i,E⟩:aQ))] w',?_,?_⟩
 .have u:=u.drew
  have ej:∀w',lf m q=none->St w F [fk K p m,bM b4 (iW (⟨0,0,0,0,0⟩:cQ)),bM b3 (iW (⟨q.kind,q.t,q.i,E⟩:aQ))] w'->(Value.bool false=.bool (lf m q).isSome/\St w F [fk K p (Rq m q),bM b4 (iW (⟨0,0,0,0,0⟩:cQ)),bM b3 (iW (⟨q.kind,q.t,q.i,E⟩:aQ))] w'):=λw' h1 h2=>by
   have e:Rq m q=m:=by unfold Rq;rw[h1]
   rw[h1,e];exact⟨rfl,h2⟩
  have XC:lf m q=(if q.kind=3/\q.t=0/\q.i=0/\m.fault=0 then gD m.mem q.cut else none):=rfl;refine aA uq (aB (v:=hU q.kind) bL u.p1.hb rfl (aG (aC (λc1=>?_) λ_=>ej _ (by rw[XC,ez bP]) u.p2)));refine aA n6 (aB (v:=hU q.t) bL u.p1.hb rfl (aG (aC (λc2=>?_) λ_=>ej _ (by rw[XC,ez bP]) u.p2)));refine aA xX (aB (v:=hU q.i) bL u.p1.hb rfl (aG (aC (λc3=>?_) λ_=>ej _ (by rw[XC,ez bP]) u.p2)));have u:=u.p2;obtain⟨a,B,u⟩:=fk.open u;have vu:=u.p4.jl;refine aD (aA o8 (aB bL u.hb rfl (aG (aC (λc4=>?_) λ_=>ej _ (by rw[XC,ez bP]) (fk.shut B u)))))
  have hpi:lf m q=gD m.mem q.cut:=by rw[XC,fi ⟨c1,c2,c3,c4⟩]
  refine aD (aA lY (aB wQ u.hb rfl (aA B5 (aB (v:=ia (E:SV)) ek u.p6.hb rfl (have u:=u.p1;aU agI u (H':=λv=>oW λm2=>fact (Kg m.mem q.cut v m2) (fD a.q a.ov a.fv m2)) (Φ:=λ_ _=>True) (λW O G=>?_) ?_)))))
  .exact(C81 a.q a.ov a.fv m.mem W q.cut _ _ O (λw' hc=>B.mem _ (Y w' (G w' hc).aF)) Z.mem F6 (λw' hc=>YW w' (G w' hc).aF) hql).mono λ_ _ r=>r.mono λ_ _ h=>H9 h
  rintro v34 _ _ sW;obtain⟨m2c,vn⟩:=sW.dS
  clear sW
  obtain⟨hcf,yj⟩:=vn.lr
  clear vn
  rcases hcf with⟨U,rfl,rfl⟩|⟨I,U,rfl,rfl⟩
  .have u:=yj;exact aG (have u:=u.p4.p4.p4.p3.p4;ej _ (hpi.trans U) (fk.shut B u))
  have u:=yj;refine aG ?_;have M:=hpi.trans U;have e:Rq m q={m with mem:=nB m.mem I}:=by unfold Rq;rw[M]
  rw[M,e];have u:=u.p4.p4.p4.p3.p4;exact⟨rfl,fk.shut (m:={m with mem:=nB m.mem I}) ⟨B.pr,B.cs,B.ks,B.mem,B.rc⟩ u⟩
 rintro _ _ ⟨rfl,u⟩ _;refine bD (λc=>?_) (λc=>?_)
 .obtain⟨I,M⟩:=Option.isSome_iff_exists.1 c;have e:Rq m q={m with mem:=nB m.mem I}:=by unfold Rq;rw[M]
  have J:vi m q=(tJ (sq m I) (wv m),⟨15,0,0,vf q.cut q.cut.length,0⟩,0):=by unfold vi;rw[M]
  rw[e]at u;rw[J];obtain⟨a,B,u⟩:=fk.open u;have vu:=u.p4.jl;refine aD (aA yB (aB bL u.hb rfl (aK (show -9223372036854775808<=m.cL+1/\m.cL+1<=9223372036854775807 by omega) (aD (aA yB (aO u bL (dP rfl) rfl λ_ u=>?_))))));obtain⟨V,Qh,hr4⟩:=id B.rc;have PB:=hr4.1;refine aD (aA uv (aA r9 (aB pO u.hb rfl ?_)));have u:=(fk.shut (m:=sq m I) ⟨B.pr,B.cs,B.ks,B.mem,B.rc⟩ u.p4.p4.p4.p4.p4).p2;have u:=u.p2.p2;refine⟨λjv w'=>∃vy,Fb K vy (wv m)/\St w F [eI (λw=>K w->dy (λ_=>True) w jv vy),fk K p (sq m I),bM b4 (iW (⟨0,0,0,0,0⟩:cQ)),bM b3 (iW (⟨q.kind,q.t,q.i,E⟩:aQ))] w',?_,?_⟩
  .refine aI kK (Qh _ (Y _ u.aF)) (aG (aC (λc2=>?_) λc2=>?_))
   .refine pop (v:=ia (⟨⟨#[]⟩,bZ,bZ,0⟩:bU)) (by kernel_rfl) (bK ([⟨⟨#[]⟩,bZ,bZ,0⟩]:List bU) u kK rfl rfl (dP rfl) λs54 _ u=>?_);refine⟨_,?_,u.freeze.dH (Ψ:=λw=>K w->dy (λ_=>True) w s54 [(⟨⟨#[]⟩,bZ,bZ,0⟩:bU)]) λ_ h _=>h⟩;have Mf:wv m=[⟨⟨#[]⟩,[],[],0⟩]:=by unfold wv;rw[fi (by have:V.length=m.p.recover.length:=PB;omega)]
    rw[Mf];exact aeF K
   have Mf:wv m=m.p.recover:=by unfold wv;rw[ez (by have:V.length=m.p.recover.length:=PB;omega)]
   exact⟨V,by rw[Mf];exact hr4,u.fK λw h=>Qh w h⟩
  rintro rv _ ⟨vy,htv,u⟩ _;obtain⟨hrc1,akf⟩:=Ke QX;refine aU adv u.p1 (H':=λ_=>fk K p (tJ (sq m I) (wv m))) (Φ:=λ_ _=>True) (λW O G=>?_) ?_
  .refine(C57 K p (sq m I) (wv m) _ vy W _ O (λw' hc=>Y w' (G w' hc).aF) Z.rm (by have:=Z.pz.eX;show(cS m.p).length<=_;unfold cS;rw[nQ];omega) (λw' hc=>(G w' hc).eI (Y w' (G w' hc).aF)) htv (λt ht=>⟨akf t ht,?_⟩) bP).mono λ_ _ r=>r.mono λ_ _ h=>⟨trivial,h.2⟩;unfold wv at ht
   split at ht
   .rw[List.mem_singleton.1 ht];rfl
   exact Kf QX (List.mem_append_right _ ht)
  rintro _ _ _ u;exact aA B5 (aB (v:=ia (E:SV)) ek u.p3.hb rfl (aR ajd u (C82 _ q.cut _ (YW _ u.aF) bP) λ_ _ u=>pop (KF 15 (vf q.cut q.cut.length)) (aH (x:=(⟨15,0,0,vf q.cut q.cut.length,0⟩:cQ)) u.p2 iH rfl rfl λ_ u=>aE iH u.At ⟨rfl,u.p3.drop.drop.p1.drop.mut⟩)))
 have M:lf m q=none:=by
  cases h:lf m q with
  | none=>rfl
  | some I=>rw[h]at c;cases c
 have e:Rq m q=m:=by unfold Rq;rw[M]
 have J:vi m q=(if (kh m).any (qy q)=true then(if q.kind=2 then(match m.l[q.t.toNat]? with|some t=>((xL m t q,zB q.t (ei t.buf q.i),0):iG×cQ×Int)|none=>(m,⟨0,0,0,0,0⟩,13))else((jb m q.t).1,(jb m q.t).2,0))else(m,⟨0,0,0,0,0⟩,13)):=by unfold vi;rw[M];rfl
 rw[e]at u;refine fZ ads u (C22 K p m _ u.has (λ_ e=>Y _ (u.aF.then e)) Z) (λx64 _ dw u=>?_);have Xd:=u.p3.At
 have hfn:oa hH _ (.func (.func 83) [].toArray [.pointer (some ⟨b3,0,none⟩)].toArray) (λ_:aT=>True) (qy q):=
  ⟨83,[],_,rfl,ai9,λsx y w1 e1 YH _=>C83 y q sx b3 (⟨q.kind,q.t,q.i,E⟩:aQ) w1 YH (Xd.ext e1) ⟨E,rfl,DL.eO (YW _ (u.aF.then e1))⟩⟩
 refine aR agJ u (C84 _ _ _ (λ_=>True) _ _ u.dl hfn (λ_ _=>trivial) (by have:=Ht Z;omega)) (λ_ he u=>have u:=u.drop;bJ (bD (λc2=>?_) λc2=>?_))
 .rw[J,ez (by simpa using c2)];exact pop Ws (aH (x:=(⟨0,0,0,0,0⟩:cQ)) u.p1 iH rfl rfl λ_ u=>aE iH u.At ⟨rfl,u.drop.p1.drop.mut⟩)
 have BL:(kh m).any (qy q)=true:=by simpa using c2
 obtain⟨hf0,h0,_,t,ht,hkd⟩:=aj2 BL;rw[J,fi BL];refine aA uq (aB (v:=hU q.kind) bL u.p2.hb rfl (aG (aC (λc3=>?_) λc3=>?_)))
 .rw[fi c3,ht];refine aE oG u.p2.At (aU ai7 u (H':=λ_=>fk K p (xL m t q)) (Φ:=λv _=>v=ia (zB q.t (ei t.buf q.i))) (λW O G=>?_) ?_)
  .exact C85 K p m q E t W _ O (λw' hc=>Y w' (G w' hc).aF) Z F6 h0 ht
  rintro _ _ rfl u;exact aH (x:=zB q.t (ei t.buf q.i)) u.p1 iH rfl rfl (λ_ u=>aE iH u.At ⟨rfl,u.drop.p1.drop.mut⟩)
 rw[ez c3]
 have Fe:xK m t=true:=by
  rcases hkd with h|h
  .exact h.2
  .exact absurd h.1 c3
 refine aA n6 (aB (v:=hU q.t) bL u.p2.hb rfl (aU ai6 u (H':=λ_=>fk K p (jb m q.t).1) (Φ:=λv _=>v=ia (jb m q.t).2) (λW O G=>?_) ?_))
 .exact C86 K p m q.t t W _ O (λw' hc=>Y w' (G w' hc).aF) Z F6 h0 ht (λ_=>QT Fe)
 rintro _ _ rfl u;exact aH (x:=(jb m q.t).2) u.p1 iH rfl rfl (λ_ u=>aE iH u.At ⟨rfl,u.drop.p1.drop.mut⟩)
def C144(O:Value)(ps:List Ptr)(G:Nat)(first cap:List Value)(g:Nat->Bool)(w:World)(J:dy (λ_=>True) w O ps)(Y:Plain hH G)(W:∀(i:Nat) (s:Ptr) (B:World),ps[i]?=some s->Ext w B->Calls hH G (first++[ia s]++cap).toArray B (oV λv M=>v=.bool (g i)/\Ext B M))(hn:ps.length<=1073741824):CR 144 [O,(.func (.func G) first.toArray cap.toArray)] w (λv w'=>v=hU (pg g (tr ps.length))/\Ext w w'):=by
 have u:=St.start w;refine eT Tryz.func144 ?_;refine aI wR (J.ext u.aF) ?_;refine⟨λU y B=>∃k:Nat,y=hU (k:Int)/\U=ps.length-k/\k<=ps.length/\(∀y∈(tr ps.length).take k,g y=false)/\St w bF [] B,⟨_,0,rfl,rfl,mr _,ew,u⟩,?_⟩;rintro U _ B ⟨k,rfl,rfl,hk,E,u⟩ _;refine aS (aC (λc1=>?_) λ_=>⟨gj (mj .i64) (gy (by rw[kE (by rw[P9];omega)]at E;exact E)).symm,u.aF⟩);obtain⟨e,V⟩:=gx ps (i:=((k:Nat):Int).toNat) bP;refine aZ wR (J.ext u.aF) bP V (λq Z=>aE AT Z (fm Y (W k e B V u.aF) ?_))
 rintro _ M ⟨rfl,h2⟩;have u:=u.ext h2;exact bD (λI=>⟨gj (mj .i64) (jA E (Fl bP) I).symm,u.aF⟩) (λI=>aK bP ⟨_,bP,k+1,rfl,rfl,bP,eE E (Fl bP) I,u⟩)
def C67(G:Value)(ps:List Ptr)(E:Nat)(first cap:List Value)(g:Nat->Bool)(w:World)(I:dy (λ_=>True) w G ps)(U:Plain hH E)(M:∀(i:Nat) (s:Ptr) (u:World),ps[i]?=some s->Ext w u->Calls hH E (first++[ia s]++cap).toArray u (oV λv J=>v=.bool (g i)/\Ext u J))(O:ps.length<=1073741824):CR 67 [G,(.func (.func E) first.toArray cap.toArray)] w (λv w'=>v=.bool ((tr ps.length).any g)/\Ext w w'):=by
 have B:=St.start w;refine eT Tryz.func67 ?_;exact aR adx B (C144 _ ps E first cap g _ (I.ext B.aF) U (λi s u h e=>M i s u h (B.aF.then e)) O) (λ_ _ B=>cJ ⟨vb (iB _ _),B.aF⟩)
def C65(K Φ:hM)(p:Nat)(room:Int)(t:jO)(w:World)(E:Has (dM K Φ p room t) w)(U:K w)(I:t.buf.length<=1000):CR 65 [.pointer (some ⟨p,0,none⟩)] w (λv w'=>v=.bool (!tK t)/\Ext w w'):=by
 obtain⟨bp,W,rg,pl,es,hk,G,Y,Z,M,J,_⟩:=dM.rd E;have B:=G.cell (o:=3) rfl;have V:=J.len;have xy:=mS es;have u:=St.start w;refine eT Tryz.func65 ?_;refine⟨λO w'=>O=.bool (!tK t)/\Ext w w',?_,?_⟩
 .exact aD (aA gB (cE m8 (B.ext u.aF) (aI o9 (M.ext u.aF) (dL (aC (λ_=>⟨vb (by unfold tK;rw[ga (show ¬ t.bN.length=0 from bP)];rfl),u.aF⟩) λ_=>aR adl u (C66 K Φ p room t _ (E.ext u.aF) I) λ_ _ u=>bJ ⟨vb (by unfold tK;rw[fj (show t.bN.length=0 from bP),tx]),u.aF⟩)))))
 rintro _ _ h _;exact h
def C21(K:hM)(p:Nat)(m:iG)(w:World)(hm:Has (fk K p m) w)(hw:∀w',Ext w w'->K w')(V:nV m):CR 21 [.pointer (some ⟨p,0,none⟩)] w (λv w'=>v=ia (mU m)/\Ext w w'):=by
 obtain⟨a,B⟩:=fk.rd hm (hw _ (Ext.refl _));have XQ:=B.b.cell (o:=11) rfl;have J:=B.b.cell (o:=12) rfl;have M:=B.b.cell (o:=13) rfl;have I:=B.b.cell (o:=14) rfl;have hlen:=B.len;have Kz:=V.tl;have u:=St.start w;refine qj Tryz.func21 (pl:=P21) ?_;refine aM u Gr (λb2 w1 u=>have u:=(u.enc (cs':=iW (⟨0,0,0,false,false⟩:jz)) rfl).drew;aD (aA yB (cE bL (J.ext u.aF) (aD (aA o8 (cE bL (M.ext u.aF) (aD (aA DV (cE bL (I.ext u.aF) (pop (D1 m.cL m.fault m.ld) (aM u Gr λb4 _ u=>?_)))))))))))
 refine⟨aY bL (J.ext u.aF),?_⟩;refine⟨aY bL (M.ext u.aF),?_⟩;refine⟨aY bL (I.ext u.aF),?_⟩;refine aH (x:=(⟨m.cL,m.fault,m.ld,false,false⟩:jz)) u MZ rfl rfl (λ_ u=>?_);refine⟨λw'=>St w bF [bM b4 (iW (⟨m.cL,m.fault,m.ld,lB m,false⟩:jz)),bM b2 (iW (⟨0,0,0,false,false⟩:jz))] w',?_,?_⟩
 .refine aD (aA o8 (cE bL (M.ext u.aF) (aG (aC (λE=>?_) λE=>?_))))
  .refine aD (aA m6 (cE uu (XQ.ext u.aF) ?_))
   refine aR aje u (C67 _ a.ps 65 [] [] (λi=>match m.l[i]? with|some t=>!tK t|none=>false) _ (B.ll.ext u.aF) aja (λi s w1 h e=>by
    obtain⟨t,ht⟩:∃t,m.l[i]?=some t:=⟨_,j0 (by have:=(jq.1 h).1;omega)⟩;rw[ht];exact C65 K _ s.b m.room t w1 ((B.th i s t h ht).ext (u.aF.then e)) (hw _ (u.aF.then e)) (V.th t (l0 ht)).bl) bP) (λ_ he u=>?_)
   refine bJ (aA um (aO u B3 (dP rfl) rfl λw5 u=>?_));have G:lB m = !((tr a.ps.length).any λi=>match m.l[i]? with|some t=>!tK t|none=>false):=by unfold lB;rw[fj E,B.len];rfl
   rw[G];exact u
  refine aA um (aO u B3 (dP rfl) rfl λw5 u=>?_);have G:lB m=false:=by unfold lB;rw[ga E];rfl
  rw[G];exact u
 intro _ u _
 have Z:∀(b:Bool) (w':World),nI m=b->St w bF [bM b4 (iW (⟨m.cL,m.fault,m.ld,lB m,b⟩:jz)),bM b2 (iW (⟨0,0,0,false,false⟩:jz))] w'->St w bF [bM b4 (iW (mU m)),bM b2 (iW (⟨0,0,0,false,false⟩:jz))] w':=λb w' h1 h2=>by
  subst h1;exact h2
 refine⟨λw'=>St w bF [bM b4 (iW (mU m)),bM b2 (iW (⟨0,0,0,false,false⟩:jz))] w',?_,?_⟩
 .refine aD (aA o8 (cE bL (M.ext u.aF) (aG (aC (λE=>?_) λE=>?_))));rotate_left
  .exact aA xW (aO u B3 (dP rfl) rfl λ_ u=>Z false _ (by unfold nI;rw[ga E];rfl) u)
  refine aA um (aB (v:=.bool (lB m)) B3 u.hb rfl (bJ (bD (λY=>?_) λY=>?_)));rotate_left
  .exact aA xW (aO u B3 (dP rfl) rfl λ_ u=>Z false _ (by unfold nI;rw[show lB m=true from by simpa using Y];simp) u)
  refine fZ ads u (C22 K p m _ (hm.ext u.aF) (λ_ e=>hw _ (u.aF.then e)) V) (λx45 w7 dw u=>?_);obtain⟨W,O,U⟩:=u.dl;refine aI uo O ?_;rw[show W.length=(kh m).length from U.1];exact aG (have u:=u.drop;aA xW (aO u B3 (dP rfl) rfl λ_ u=>Z (decide (((kh m).length:Int)=0)) _ (by unfold nI;rw[fj E,show lB m=false from by simpa using Y];rfl) u))
 intro _ u _;exact aE (x:=mU m) MZ u.At (aH (x:=mU m) u.p1 MZ rfl rfl λ_ u=>aE MZ u.At ⟨rfl,u.drop.drop.aF⟩)
variable (w:World) (K:Value->hM)
def S40(p0 G u B:Value):Prop:=
 lW hH (pQ 36 p0) w λp4 a=>aL 24 a λb c=>lA 36 p4 c λd=>cF 97 [d,G,u,B] c λe f=>xT e 0 λg=>xT e 1 λh=>xT e 2 λj=>bB .neq 40 j (i 0) λk=>
 cV k (dW hH (l1 24 [].toArray) λl=>lN 77 h λn=>sA 24 b l f λo=>lA 24 b o λr=>K (.tuple #[r,(.slice none 0 0),j,n]) o) (lA 36 p4 f λp=>cF 98 [p,g] f λq s=>
 sA 24 b q s λt=>lA 24 b t λE=>K (.tuple #[E,h,(i 0),(i 0)]) t)
theorem YX(p0 E B u:Value)(h:S40 w K p0 E B u):CR 40 [p0,E,B,u] w K:=
 lE 34 (λ_=>.nil) 3840 [.cell 8 24,.tmp 9,.tmp 10,.tmp 11] Tryz.func40 h
def S45(p0 E B u:Value):Prop:=
 lW hH (pQ 36 p0) w λp4 a=>lA 36 p4 a λb=>cF 97 [b,E,B,u] a λc d=>xT c 0 λ_=>xT c 1 λe=>xT c 2 λ_=>lN 77 e λf=>K f d
theorem YY(p0 E B u:Value)(h:S45 w K p0 E B u):CR 45 [p0,E,B,u] w K:=
 lE 23 (λ_=>.nil) 256 [.tmp 8] Tryz.func45 h
def S97(p0 kB I W:Value):Prop:=
 lW hH (pQ 36 p0) w λp4 a=>lA 36 p4 a λb=>cF 17 [b,kB] a λc d=>xT c 0 λe=>xT c 1 λf=>bB .neq 40 f (i 0) λg=>cV g (K (.tuple #[(.pointer none),(.slice none 0 0),f]) d) (
 eo (λZ=>bB .lss 3 I (i 0) λh=>cV h (Z tt d) (bB .gtr 3 I (i 8) λj=>Z j d)) (λk l=>∀_:Env,
 cV k (K (.tuple #[(.pointer none),(.slice none 0 0),(i 1)]) l) (lN 58 W λn=>nX (λM E o p=>∀_:Env,
 bA .lss 3 o n λq=>cV q (iA 58 W o λr=>lA 67 r p λs=>aL 67 p λt u=>sA 67 t s u λv=>eo (λV=>fA 67 t 0 λx=>lA 3 x v λy=>bB .eql 3 y (i 3) λz=>
 cV z (cF 21 [e] v λaa ab=>dW hH (SY 56 aa 0) λac=>bA .geq 3 ac I λad=>V ad ab) (V ff v)) (λae J=>∀_:Env,
 cV ae (K (.tuple #[e,E,(i 14)]) J) (lA 67 t J λag=>cF 37 [e,ag] J λU ai=>xT U 0 λaj=>xT U 1 λY=>aL 72 ai λB al=>sA 72 B aj al λO=>bB .neq 40 Y (i 0) λan=>
 cV an (K (.tuple #[e,E,Y]) O) (lA 72 B O λao=>bS 77 1 [(0,ao)] O λap aq=>aP 77 E ap aq λar G=>bB .add 3 o (i 1) λau=>M ar au G)))) (K (.tuple #[e,E,(i 0)]) p))
 λM=>M (.slice none 0 0) (i 0) l)))
theorem YZ(p0 E B u:Value)(h:S97 w K p0 E B u):CR 97 [p0,E,B,u] w K:=
 lE 69 (λ_=>.nil) 1792 [.tmp 8,.tmp 9,.tmp 10] Tryz.func97 h
def S98(p0 O:Value):Prop:=
 lW hH (pQ 36 p0) w λp2 a=>aL 24 a λb c=>cF 21 [O] c λd e=>aL 56 e λf g=>sA 56 f d g λh=>eo (λV=>fA 56 f 0 λj=>lA 3 j (drew h) λk=>
 lA 36 p2 (drew h) λl=>((cF 27 [O] (drew h) λn o=>kA 3 j k o (kA 36 p2 l o ((cF 55 [l] o λp q=>kA 3 j k q (dW hH (mA 22 n none (some p) none) λs=>
 dW hH (l1 24 [(2,k),(3,s)].toArray) λt=>aL 24 q λe6 u=>kA 3 j k u (kA 36 p2 l u (sA 24 e6 t u λv=>V e6 v))))
 /\((aL 24 o λI x=>kA 3 j k x (kA 36 p2 l x (cF 55 [l] x λy z=>kA 3 j k z (dW hH (mA 22 n none (some y) none) λaa=>dW hH (l1 24 [(2,k),(3,aa)].toArray) λab=>
 sA 24 I ab z λac=>V I ac))))
 /\
 True))))
 /\((aL 24 (drew h) λG W=>kA 3 j k W (kA 36 p2 l W (cF 27 [O] W λae Y=>kA 3 j k Y (kA 36 p2 l Y (cF 55 [l] Y λag Z=>kA 3 j k Z (dW hH (mA 22 ae none (some ag) none) λai=>
 dW hH (l1 24 [(2,k),(3,ai)].toArray) λaj=>sA 24 G aj Z λak=>V G ak))))))
 /\
 True))) (λE al=>∀_:Env,
 cF 32 [O] al λam an=>cF 190 [am,ff] an λao B=>wL (λJ=>fA 56 f 1 λaq=>lA 3 aq B λar=>bB .neq 3 ar (i 0) λU=>cV U (fA 56 f 1 λau=>lA 3 au (drew B) λav=>
 fA 24 E 0 λaw=>sA 3 aw (i 3) (drew B) λax=>kA 3 au av ax (fA 24 E 1 λay=>sA 3 ay av ax λaz=>J az)) (fA 56 f 4 λa0=>lA 4 a0 B λa1=>cV a1 (fA 24 E 0 λa2=>
 sA 3 a2 (i 4) B λa3=>J a3) (eo (λK3=>fA 56 f 3 λa4=>lA 4 a4 B λa5=>cV a5 (bB .geq 3 ao (i 0) λa6=>K3 a6 B) (K3 ff B)) (λa7 M=>∀_:Env,
 cV a7 (fA 24 E 0 λa9=>sA 3 a9 (i 2) M λba=>fA 24 E 1 λbb=>sA 3 bb ao ba λbc=>J bc) (fA 56 f 3 λbd=>lA 4 bd M λbe=>cV be (fA 24 E 0 λbf=>sA 3 bf (i 1) M λbg=>
 J bg) (J M)))))) (λbh=>∀_:Env,
 lA 24 E bh λbi=>sA 24 b bi bh λbj=>lA 24 b bj λr=>K r bj))
def P98:dI:=λi=>match i with
 | 2=>(.op 0 [] (.op 1 [] (.op 2 [] (.op 4 [] (.alt 3 [1,4] (.alt 5 [1] (.of [(6,[]),(7,[]),(8,[1,4]),(9,[])]) (.alt 8 [1,4] (.of [(5,[1]),(6,[]),(7,[]),(9,[])]) .stop)) (.alt 8 [1,4] (.of [(3,[1,4]),(5,[1]),(6,[]),(7,[]),(9,[])]) .stop))))))
 | 5=>(.of [(0,[]),(1,[]),(2,[]),(3,[1]),(4,[]),(5,[])])
 | _=>.nil
theorem Y0(p0 u:Value)(h:S98 w K p0 u):CR 98 [p0,u] w K:=
 lE 48 P98 16 [.cell 4 24] Tryz.func98 h
def S190(B E:Value):Prop:=
 lN 64 B λa=>jC (λu b c=>∀_:Env,
 bA .lss 3 b a λd=>cV d (iA 64 B b λe=>lA 4 e c λf=>bA .eql 4 E f λg=>cV g (K b c) (bB .add 3 b (i 1) λh=>u h c)) (K (i (-1)) c)) (λu=>u (i 0) w)
theorem T6(u B:Value)(h:S190 w K u B):CR 190 [u,B] w K:=
 lE 19 (λ_=>.nil) 16 [.tmp 4] Tryz.func190 h
theorem L6:PL 40:=dF Tryz.func40
theorem aki:PL 45:=dF Tryz.func45
theorem aeP:PL 97:=dF Tryz.func97
theorem akj:PL 98:=dF Tryz.func98
theorem aeQ:PL 190:=dF Tryz.func190
end Go.Proofs.YtdncbeepkacgbaaGreatDoor
namespace Go.Proofs.YtdncbeepkacgbaaGreatDoor
open Go.Fw
def QY:pr hH (l1 24 [].toArray)=some (.agg [hU 0,hU 0,hU 0,.slice none 0 0].toArray):=by kernel_rfl
def wC(E:Int)(u:Option Addr)(G B:Nat):pr hH (l1 24 [(2,hU E),(3,.slice u G B)].toArray)=some (.agg [hU 0,hU 0,hU E,.slice u G B].toArray):=by kernel_rfl
def T7(m:iG)(t:jO)(i:Int)(x:bE):(eD m t i x).1.cL=m.cL:=by
 unfold eD
 repeat' split
 all_goals first|rfl|(unfold rM;split<;>rfl)
theorem QZ(m:iG)(i:Int):(jb m i).1.cL=m.cL:=by
 unfold jb
 repeat' split
 all_goals first|rfl|exact T7 _ _ _ _
def Y3(m:iG)(q:aT):m.cL<=(vi m q).1.cL/\(vi m q).1.cL<=m.cL+1:=by
 unfold vi
 split
 .show m.cL<=m.cL+1/\m.cL+1<=m.cL+1;omega
 split
 .split
  .split<;>(show m.cL<=m.cL/\m.cL<=m.cL+1)<;>omega
  show m.cL<=(jb m q.t).1.cL/\(jb m q.t).1.cL<=_;rw[QZ];omega
 grind
structure wD(p:bQ)(n:Nat)(m:iG):Prop where
 ok:nV m
 pr:m.p=p
 mb:MB m.mem n
 cr:0<=m.cL/\m.cL<=n
def wD.step{p:bQ}{n:Nat}{m:iG}{q:aT}(h:wD p n m)(hc:L5 p):wD p (n+1) (vi m q).1:=by
 obtain⟨h1,h2,h3⟩:=YS (q:=q) h.ok (h.pr▸hc)
 have h4:=Y3 m q
 have h5:=h.cr
 exact⟨h1,h2.trans h.pr,h3 _ h.mb,bP,bP⟩
def wD.new{p:bQ}{room:Int}(B:PZ p)(hc:L5 p)(u:1<=room/\room<=16):wD p 0 (je p room):=
 ⟨T4 B hc u,rfl,λk=>CJ rfl,IT 0,IT 0⟩
def T8(m:iG)(t:jO)(x:bE):(rM m t x).mem.dZ=m.mem.dZ:=by
 unfold rM;split
 .exact oQ _ _ _
 rfl
def T9(m:iG)(t:jO)(i:Int)(x:bE):(eD m t i x).1.mem.dZ=m.mem.dZ:=by
 unfold eD
 repeat' split
 all_goals first|rfl|exact T8 _ _ _
def Q0(m:iG)(i:Int):(jb m i).1.mem.dZ=m.mem.dZ:=by
 unfold jb
 repeat' split
 all_goals first|rfl|exact T9 _ _ _ _
def Y4{m:iG}(u:nV m)(q:aT):(vi m q).1.mem.dZ=m.mem.dZ:=by
 unfold vi
 split
 .rfl
 split
 .split
  .split
   .exact(BC u.mem).2.2
   rfl
  exact Q0 _ _
 rfl
def rU(c:Int):iG->List cQ->List aT->iG×List cQ×Int
 | m,o,[]=>(m,o,0)
 | m,o,q::r=>if q.kind=3/\c<=m.cL then(m,o,14)else if (vi m q).2.2≠0 then((vi m q).1,o,(vi m q).2.2)else rU c (vi m q).1 (o++[(vi m q).2.1]) r
def gl(p:bQ)(room c:Int):Int:=if eJ p≠0 then eJ p else if room<1\/16<room then 1 else if c<0\/8<c then 1 else 0
def Q1(p:bQ)(room c:Int)(l:List aT):List cQ×Int:=if gl p room c≠0 then([],gl p room c)else((rU c (je p room) [] l).2.1,(rU c (je p room) [] l).2.2)
def Ua(p:bQ)(room c:Int)(l:List aT):Nat:=(Q1 p room c l).1.length
theorem Q2{p:bQ}{room c:Int}{l:List aT}(h:gl p room c≠0):Q1 p room c l=([],gl p room c):=by unfold Q1;grind
def Ub(x y:aW)(h:iW x=iW y):x=y:=by
 obtain⟨a,b,c,⟨d,n,k⟩,⟨I,W,E⟩,e,f,g,i⟩:=x
 obtain⟨J,b2,M,⟨d2,G,k2⟩,⟨Z,U,V⟩,u,O,B,Y⟩:=y
 simp[iW,ia]at h
 simp[h]
def Uc(x y:bU)(h:iW x=iW y):x=y:=by
 obtain⟨a,⟨d,n,k⟩,⟨G,O,B⟩,e⟩:=x
 obtain⟨I,⟨W,E,V⟩,⟨U,J,M⟩,u⟩:=y
 simp[iW,ia]at h
 simp[h]
def vv.of{B:Nat->Prop}{w:World}{lv:SV}{so:List bW}(h:∀w',pL B w w'->DL w' (ia lv) so):vv (pL B w) lv so:=by
 obtain⟨Y,V,ht⟩:=pL.fix Uc h
 refine⟨Y,λw' u=>(ht w' u).1,V,λj O t h1 h2=>?_⟩
 have E:∀w',pL B w w'->l2 w' O t:=λw' u=>(ht w' u).2.2 j O t h1 h2
 obtain⟨I,M,rfl,_,_⟩:=E w (pL.refl _ _)
 have J:∀w',pL B w w'->DL w' (ia I) t.dJ/\DL w' (ia M) t.body:=λw' u=>by
  obtain⟨Z,W,e,h4,h5⟩:=E w' u
  grind
 obtain⟨rows,_,G⟩:=pL.fix Ub λw' u=>(J w' u).2
 exact⟨I,M,rows,rfl,λw' u=>DL.flat (J w' u).1,λw'=>⟨λU u=>(G U u).2,λu=>(G w' u).1⟩⟩
def Ms.of{B:Nat->Prop}{w:World}{pv:cA}{p:bQ}(h:∀w',pL B w w'->l2 w' pv p):Ms (pL B w) pv p:=by
 obtain⟨J,g1,M,G,I,V,rfl,_⟩:=h w (pL.refl _ _)
 have E:∀w',pL B w w'->DL w' (ia G) p.threads/\DL w' (ia I) p.recover:=λw' u=>by
  obtain⟨O,Z,U,a3,Y,W,e,_,_,_,h4,h5,_⟩:=h w' u
  grind
 exact⟨h,vv.of λw' u=>(E w' u).1,vv.of λw' u=>(E w' u).2⟩
def vv.mono{K u:hM}{lv:SV}{so:List bW}(h:vv K lv so)(B:∀w,u w->K w):vv u lv so:=by
 obtain⟨E,h1,h2⟩:=h
 exact⟨E,λw G=>h1 w (B w G),h2.mono B⟩
def Ms.mono{K B:hM}{pv:cA}{p:bQ}(h:Ms K pv p)(u:∀w,B w->K w):Ms B pv p:=⟨λw E=>h.pr w (u w E),h.th.mono u,h.rc.mono u⟩
def V3(K:hM)(lv:Value)(l:List aT):Prop:=∃ts:List aQ,∀w,K w->dy (λ_=>True) w lv ts/\gU ts l w
def V3.nil(K:hM):V3 K (.slice none 0 0) []:=⟨[],λw _=>⟨dy.nil _ _,gU.nil⟩⟩
def wD.mono{p:bQ}{a b:Nat}{m:iG}(h:wD p a m)(u:a<=b):wD p b m:=⟨h.ok,h.pr,h.mb.mono u,by have:=h.cr;omega⟩
theorem lD{α:Type}{xs:List α}{k:Nat}{x:α}(h:xs[k]?=some x):xs.drop k=x::xs.drop (k+1):=by
 obtain⟨h1,h2⟩:=jq.1 h
 rw[pd h1,h2]
def vw(l:List Bool):Nat:=(l.takeWhile id).length
def xP(l:List Bool):Int:=if vw l<l.length then(vw l:Int)else -1
def Ud{l:List Bool}{k:Nat}{b:Bool}(h:l[k]?=some b)(hb:b=true)(u:vw l=k+vw (l.drop k)):vw l=k+1+vw (l.drop (k+1)):=by
 rw[u,lD h,hb]
 show k+(vw (l.drop (k+1))+1)=_
 omega
def Ue{l:List Bool}{k:Nat}{b:Bool}(h:l[k]?=some b)(hb:b=false)(u:vw l=k+vw (l.drop k)):xP l=k:=by
 have B:=(jq.1 h).1
 have e:vw l=k:=by rw[u,lD h,hb];rfl
 unfold xP
 omega
def Uf{l:List Bool}{k:Nat}(h:l.length<=k)(u:vw l=k+vw (l.drop k)):xP l = -1:=by
 unfold xP
 omega
def nW(m:iG):Int×Int:=if m.fault≠0 then(3,m.fault)else if nI m=true then(4,0)else if lB m=true then(if 0<=xP (lU m)then(2,xP (lU m))else(1,0))else(0,0)
def Q3(m:iG):aT:=⟨(nW m).1,(nW m).2,m.cL,m.mem.l.take (ee m.p).toNat⟩
section
variable {m:iG}
theorem Y5(h:m.fault≠0):nW m=(3,m.fault):=by unfold nW;grind
theorem Y6(h:¬ m.fault≠0)(h2:nI m=true):nW m=(4,0):=by unfold nW;grind
theorem Y7(h:¬ m.fault≠0)(h2:nI m=false)(h3:lB m=true)(h4:0<=xP (lU m)):nW m=(2,xP (lU m)):=by grind[nW,xP,lU]
theorem Y8(h:¬ m.fault≠0)(h2:nI m=false)(h3:lB m=true)(h4:¬ 0<=xP (lU m)):nW m=(1,0):=by grind[nW]
theorem Y9(h:¬ m.fault≠0)(h2:nI m=false)(h3:lB m=false):nW m=(0,0):=by grind[nW]
end
def zE:aT:=⟨0,0,0,[]⟩
def qf(p:bQ)(room c:Int)(l:List aT):aT×List cQ×Int×Int:=
 if gl p room c≠0 then(zE,[],gl p room c,0)
 else if (rU c (je p room) [] l).2.2≠0 then(zE,[],(rU c (je p room) [] l).2.2,((rU c (je p room) [] l).2.1.length:Int))
 else(Q3 (rU c (je p room) [] l).1,(rU c (je p room) [] l).2.1,0,0)
theorem Za{p:bQ}{room c:Int}{l:List aT}(h:gl p room c≠0):qf p room c l=(zE,[],gl p room c,0):=by unfold qf;grind
theorem Zb{p:bQ}{room c:Int}{l:List aT}(h:gl p room c=0)(h2:(rU c (je p room) [] l).2.2≠0):qf p room c l=(zE,[],(rU c (je p room) [] l).2.2,((rU c (je p room) [] l).2.1.length:Int)):=by grind[qf,zE,rU,je]
theorem Zc{p:bQ}{room c:Int}{l:List aT}(h:gl p room c=0)(h2:(rU c (je p room) [] l).2.2=0):qf p room c l=(Q3 (rU c (je p room) [] l).1,(rU c (je p room) [] l).2.1,0,0):=by grind[qf,Q3,rU,je]
def V4(w:World):l2 w (⟨0,0,0,bZ⟩:aQ) zE:=⟨_,rfl,DL.nil w⟩
def C27(K:hM)(p:Nat)(m:iG)(w:World)(G:Has (fk K p m) w)(J:∀w',Ext w w'->K w')(I:nV m):CR 27 [.pointer (some ⟨p,0,none⟩)] w (λv w'=>mG (bH v m.mem.l) w w'):=by
 obtain⟨a,E⟩:=fk.rd G (J _ (Ext.refl _));have B:=E.b.cell (o:=9) rfl;have u:=St.start w;refine eT Tryz.func27 ?_;exact aD (aA lY (cE wQ (B.ext u.aF) (fZ agy u (C76 a.q m.mem _ (E.mem.ext u.aF) I.mem) λ_ _ _ u=>u.fresh)))
def C190(M:Value)(xs:List Bool)(w:World)(I:dy (λ_=>True) w M xs)(W:xs.length<=1073741824):CR 190 [M,.bool false] w (λv w'=>v=hU (xP xs)/\Ext w w'):=by
 have u:=St.start w;refine T6 _ _ _ _ ?_;unfold S190;refine aI KB (I.ext u.aF) ?_;refine⟨λO y J=>∃k:Nat,y=hU (k:Int)/\O=xs.length-k/\k<=xs.length/\vw xs=k+vw (xs.drop k)/\St w bF [] J,⟨_,0,rfl,rfl,mr _,(Nat.zero_add _).symm,u⟩,?_⟩;rintro O _ J ⟨k,rfl,rfl,Y,G,u⟩ _;refine aS (aC (λV=>?_) λ_=>⟨gj (mj .i64) (Uf bP G).symm,u.aF⟩);obtain⟨e,B⟩:=gx xs (i:=((k:Nat):Int).toNat) bP;refine aZ KB (I.ext u.aF) bP B (λq U=>aE B3 U (ug RY ?_));rw[Int.toNat_natCast]at B;exact bD (λE=>⟨gj (mj .i64) (Ue B (by simpa using E) G).symm,u.aF⟩) (λE=>aK bP ⟨_,bP,k+1,rfl,rfl,bP,Ud B (by simpa using E) G,u⟩)
def C32(K:hM)(p:Nat)(m:iG)(w:World)(hm:Has (fk K p m) w)(I:∀w',Ext w w'->K w')(E:nV m)(Q4:m.mem.dZ=fQ m.p):CR 32 [.pointer (some ⟨p,0,none⟩)] w (λv w'=>mG (bH v (lU m)) w w'):=by
 obtain⟨a,G⟩:=fk.rd hm (I _ (Ext.refl _));have U:=G.b.cell (o:=6) rfl;have M:=G.b.cell (o:=5) rfl;have gn:=rT m.p;have UT:m.mem.l.length=(jd m.p).length:=by rw[E.mem.ll,Q4];unfold fQ;rw[nQ]
 have O8:(cX m.p).length=(jd m.p).length:=by unfold cX;rw[nQ]
 have Vt:(jd m.p).length<=20:=by have:=E.mem.fl;have:=E.mem.ll;omega
 have hcb:=E.pz.ef;have Y:=E.pz.zc;obtain⟨g0,g1,g2,g3,g4,g5,Z,_,_,_,_,_,ZR⟩:=G.uk.pr _ (I _ (Ext.refl _));rw[Z]at M;obtain⟨B,Mh,Jq⟩:=ZR.open;have SB:=Jq.1;have u:=St.start w;refine XL _ _ _ ?_;unfold S32;refine aD (aA uv (IM a.pv fW (nZ.ext G.b u.aF) rfl (aR OC u (C55 m.p a.pv _ (G.uk.pr _ (I _ u.aF)) E.pz) λ_ he u=>aD (aA uv (aA sc (cE DU (M.ext u.aF) (aI B4 (Mh.ext u.aF) ?_)))))));refine⟨λmm o y w'=>∃k:Nat,y=hU (k:Int)/\mm=B.length-k/\k<=B.length/\St w bF [bH o ((m.p.ef.take k).map (su m))] w',⟨_,0,rfl,rfl,mr _,u.eF⟩,?_⟩
 rintro mm o _ _ ⟨k,rfl,rfl,hk,u⟩ _;refine aS (aC (λc1=>?_) λc1=>?_);rotate_left
 .rw[kE bP]at u;exact u.fresh
 obtain⟨ct,J⟩:=gx B (i:=((k:Nat):Int).toNat) bP;obtain⟨cl,V⟩:=gx m.p.ef (i:=((k:Nat):Int).toNat) bP;obtain⟨ge,rfl,RV⟩:=Jq.2 _ ct cl J V;have akl:=(Y cl (l0 V)).1;refine⟨λjv w'=>St w bF [bH jv ((m.p.ef.take (k+1)).map (su m))] w',?_,?_⟩;rotate_left
 .rintro o2 _ u _;exact aK bP ⟨_,bP,k+1,rfl,rfl,bP,u⟩
 refine aZ B4 (Mh.ext u.aF) bP J (λq hq=>aE B7 hq (aM u Gt λb6 _ u=>aH (x:=(⟨ge,cl.at_⟩:iq)) u B7 rfl rfl λ_ u=>have u:=u.drew;aA B8 (aB (v:=ia (ge:SV)) lH u.hb rfl (aD (aA yz (cE lX (U.ext u.aF) (hG iR (G.uk.cs _ (I _ u.aF)) bP bP λs32 h32=>fZ XO u (C27 K p m _ (hm.ext u.aF) (λ_ e=>I _ (u.aF.then e)) E) λx34 _ dw u=>?_)))))));refine⟨aY lH (u.p1.hb.cell rfl),?_⟩;refine⟨aY lX (U.ext u.aF),?_⟩;refine AQ dz u.eU bP bP (λs36 h36=>aR abE u (C78 _ _ _ cl.e _ _ _ (DL.flat (RV.ext u.aF)) (h32 _ (G.uk.cs _ (I _ u.aF))) h36 akl (by rw[ml];omega)) λ_ he u=>aJ rfl (aJ rfl (aG ?_)))
 have O:su m cl=(decide ((vX ((cX m.p).take (ee m.p).toNat) (m.mem.l.take (ee m.p).toNat) cl.e).2=0)&&decide ((vX ((cX m.p).take (ee m.p).toNat) (m.mem.l.take (ee m.p).toNat) cl.e).1≠0)):=rfl;refine aC (λc2=>?_) (λc2=>?_)
 .refine cC (bK (([su m cl]):List Bool) u KB rfl (by rw[O,fj c2,tx];rfl) (dP rfl) λW w7 u=>?_);have Zd:=u.eU;refine cO u.p3 KB Zd (by rw[nQ,ml,nD];omega) ea (λs48 w8 u=>?_);rw[<- nq (k:=k) V];exact u.p1.drop.p1.drop.p1.drop
 refine bK (([su m cl]):List Bool) u KB rfl (by rw[O,ga c2,Bool.false_and];rfl) (dP rfl) (λW w7 u=>?_);have Zd:=u.eU;refine cO u.p3 KB Zd (by rw[nQ,ml,nD];omega) ea (λs48 w8 u=>?_);rw[<- nq (k:=k) V];exact u.p1.drop.p1.drop.p1.drop
def C98(K:hM)(p:Nat)(m:iG)(pv:cA)(w:World)(U:Has (fk K p m) w)(W:∀w',Ext w w'->K w')(G:nV m)(Q4:m.mem.dZ=fQ m.p)(hp:l2 w pv m.p):CR 98 [ia pv,.pointer (some ⟨p,0,none⟩)] w (λv w'=>∃ev:aQ,v=ia ev/\mG (eI λw=>l2 w ev (Q3 m)) w w'):=by
 have gn:=rT m.p;have hcb:=G.pz.ef;have UT:m.mem.l.length=(jd m.p).length:=by rw[G.mem.ll,Q4];unfold fQ;rw[nQ]
 have u:=St.start w;refine Y0 _ _ _ _ ?_;unfold S98;refine bY (x:=pv) u (λb2 _ u=>aM u mZ λb4 _ u=>have u:=u.enc (cs':=iW (⟨0,0,0,bZ⟩:aQ)) rfl;aR adw u (C21 K p m _ (U.ext u.aF) (λ_ e=>W _ (u.aF.then e)) G) λ_ V u=>aM u Gr λb5 _ u=>aH (x:=mU m) u MZ rfl rfl λ_ u=>?_);have u:=u.drew;refine⟨λjv w'=>∃(b6:Nat) (B:SV),jv=.pointer (some ⟨b6,0,none⟩)/\St w bF [bM b6 (iW (⟨0,0,m.cL,B⟩:aQ)),bH (ia (B:SV)) (m.mem.l.take (ee m.p).toNat),bM b5 (iW (mU m)),bM b4 (iW (⟨0,0,0,bZ⟩:aQ)),bM b2 (iW pv)] w',?_,?_⟩
 .refine aA RZ (aB (v:=hU m.cL) bL u.hb rfl (aE fW u.p2.At ⟨fZ XO u (C27 K p m _ (U.ext u.aF) (λ_ e=>W _ (u.aF.then e)) G) (λZ w6 dw u=>⟨aY bL (u.p1.hb.cell rfl),⟨jk fW u.p3.At,⟨?_,?_,trivial⟩⟩⟩),?_,trivial⟩))
  .refine aR OC u (C55 m.p pv _ (FK hp u.aF) G.pz) (λw7 V u=>?_);refine⟨aY bL (u.p1.hb.cell rfl),?_⟩;refine ni dz u bP bP (λJ u=>?_);obtain⟨B,rfl⟩:=u.gu;refine pop (wC m.cL _ _ _) (aM u mZ λb6 w8 u=>?_);refine⟨aY bL (u.p2.hb.cell rfl),?_⟩;refine⟨jk fW u.p4.At,?_⟩;exact aH (x:=(⟨0,0,m.cL,B⟩:aQ)) u fr rfl rfl (λ_ u=>⟨b6,_,rfl,u⟩)
  .refine aM u mZ (λb6 w8 u=>?_);refine⟨aY bL (u.p2.hb.cell rfl),?_⟩;refine⟨jk fW u.p4.At,?_⟩;refine aR OC u (C55 m.p pv _ (FK hp u.aF) G.pz) (λw7 V u=>?_);refine⟨aY bL (u.p2.hb.cell rfl),?_⟩;refine ni dz u.p1 bP bP (λJ u=>?_);obtain⟨B,rfl⟩:=u.gu;exact pop (wC m.cL _ _ _) (aH (x:=(⟨0,0,m.cL,B⟩:aQ)) u.p1 fr rfl rfl λ_ u=>⟨b6,_,rfl,u⟩)
  refine aM u mZ (λb6 w8 u=>?_);refine⟨aY bL (u.p1.hb.cell rfl),?_⟩;refine⟨jk fW u.p3.At,?_⟩;refine fZ XO u (C27 K p m _ (U.ext u.aF) (λ_ e=>W _ (u.aF.then e)) G) (λZ w6 dw u=>?_);refine⟨aY bL (u.p2.hb.cell rfl),?_⟩;refine⟨jk fW u.p4.At,?_⟩;refine aR OC u (C55 m.p pv _ (FK hp u.aF) G.pz) (λw7 V u=>?_);refine⟨aY bL (u.p2.hb.cell rfl),?_⟩;refine ni dz u bP bP (λJ u=>?_);obtain⟨B,rfl⟩:=u.gu;exact pop (wC m.cL _ _ _) (aH (x:=(⟨0,0,m.cL,B⟩:aQ)) u.p1 fr rfl rfl λ_ u=>⟨b6,_,rfl,u⟩)
 rintro _ _ ⟨b6,B,rfl,u⟩ _;refine fZ ajb u (C32 K p m _ (U.ext u.aF) (λ_ e=>W _ (u.aF.then e)) G Q4) (λx19 _ dw u=>aR aeQ u (C190 _ (lU m) _ u.eU (by unfold lU;rw[nQ];omega)) λY V u=>?_);have u:=u.drop;refine⟨λw'=>St w bF [bM b6 (iW (⟨(nW m).1,(nW m).2,m.cL,B⟩:aQ)),bH (ia (B:SV)) (m.mem.l.take (ee m.p).toNat),bM b5 (iW (mU m)),bM b4 (iW (⟨0,0,0,bZ⟩:aQ)),bM b2 (iW pv)] w',?_,?_⟩
 .refine aA IF (aB (v:=hU m.fault) bL u.p2.hb rfl (cC (aC (λI=>?_) λI=>?_)))
  .rw[Y5 I];have u:=u.drew;refine aA IF (aB (v:=hU m.fault) bL u.p2.hb rfl (aA gR (aO u bL (dP rfl) rfl λw20 u=>?_)));refine⟨aY bL (u.p2.hb.cell rfl),?_⟩;exact aA lQ (aO u bL (dP rfl) rfl λ_ u=>u)
  refine aA xW (aB (v:=.bool (nI m)) B3 u.p2.hb rfl (bD (λM=>?_) λM=>?_))
  .rw[Y6 I M];exact aA gR (aO u bL (dP rfl) rfl λ_ u=>u)
  refine⟨λjv w'=>jv=.bool (lB m&&decide (0<=xP (lU m)))/\w'=Y,?_,?_⟩
  .exact aA um (aB (v:=.bool (lB m)) B3 u.p2.hb rfl (bD (λE=>cJ ⟨vb (by rw[E,tx]),rfl⟩) λE=>⟨vb (by rw[E];rfl),rfl⟩))
  rintro _ _ ⟨rfl,rfl⟩ _;refine bD (λE=>?_) (λE=>?_)
  .rw[nw,decide_eq_true_iff]at E;rw[Y7 I M E.1 E.2];exact aA gR (aO u bL (dP rfl) rfl λ_ u=>aA lQ (aO u bL (dP rfl) rfl λ_ u=>u))
  refine aA um (aB (v:=.bool (lB m)) B3 u.p2.hb rfl (bD (λO=>?_) λO=>?_))
  .rw[O,tx,decide_eq_false_iff_not]at E;rw[Y8 I M O E];exact aA gR (aO u bL (dP rfl) rfl λ_ u=>u)
  rw[Y9 I M O];exact u
 rintro _ u _;exact aE (x:=(⟨(nW m).1,(nW m).2,m.cL,B⟩:aQ)) fr u.At (aH (x:=(⟨(nW m).1,(nW m).2,m.cL,B⟩:aQ)) u.p3 fr rfl rfl λ_ u=>aE (x:=(⟨(nW m).1,(nW m).2,m.cL,B⟩:aQ)) fr u.At (have u:=u.drop.drop.p1.drop.p1.drop.freeze.dH (Ψ:=λw=>l2 w (⟨(nW m).1,(nW m).2,m.cL,B⟩:aQ) (Q3 m)) (λ_ h=>⟨B,rfl,DL.eO h⟩);⟨_,rfl,u.fresh⟩))
def aeR(s:jz):pr hH (SY 56 (ia s) 0)=some (hU s.cL):=by
 obtain⟨a,b,c,d,e⟩:=s
 kernel_rfl
def C97(K:hM)(p:bQ)(pv:cA)(room c:Int)(lv:Value)(l:List aT)(w:World)(I:∀w',Ext w w'->K w')(hp:Ms K pv p)(hz:PZ p)(hl:V3 K lv l)(Ha:l.length<=1000)(Ze:∀q∈l,q.cut.length<=1000) :
  CR 97 [ia pv,hU room,hU c,lv] w (λv w'=>(gl p room c≠0/\v=.tuple #[.pointer none,.slice none 0 0,hU (gl p room c)]/\Ext w w')\/
  (gl p room c=0/\∃(b:Nat) (X:hM) (ov:Value),v=.tuple #[.pointer (some ⟨b,0,none⟩),ov,hU (rU c (je p room) [] l).2.2]/\wD p 1000 (rU c (je p room) [] l).1/\(rU c (je p room) [] l).1.mem.dZ=fQ p/\mG (sep (fk (λw=>K w/\X w) b (rU c (je p room) [] l).1) (sep (bH ov (rU c (je p room) [] l).2.1) (eI X))) w w')):=by
 have u:=St.start w;refine YZ _ _ _ _ _ _ ?_;unfold S97;refine bY (x:=pv) u (λb4 _ u=>aE fW u.At (dX ajc (C17 K p pv room _ (λ_ e=>I _ (u.aF.then e)) hp hz) ?_));rintro v21 w2 (⟨h1,rfl,Z⟩|⟨Y,h1,rfl,Z⟩|⟨Y,hr,b,X,rfl,dw⟩)
 .have u:=u.ext Z;refine aJ rfl (aJ rfl (cC (aC (λ_=>?_) λh=>absurd h1 h)));have e:gl p room c=eJ p:=by unfold gl;rw[fi h1]
  rw[e];exact .inl ⟨h1,rfl,u.drop.aF⟩
 .have u:=u.ext Z;refine aJ rfl (aJ rfl (cC (aC (λ_=>?_) λh=>absurd (by decide:(1:Int)≠0) h)));have e:gl p room c=1:=by unfold gl;rw[ez (by rw[Y];decide),fi h1]
  rw[e];exact .inl ⟨ea,rfl,u.drop.aF⟩
 have QX:=Kd Y;have u:=(u.made dw).split;refine aJ rfl (aJ rfl (cC (aC (λh=>absurd rfl h) λ_=>?_)));refine⟨λjv w'=>jv=.bool (decide (c<0\/8<c))/\w'=w2,?_,?_⟩
 .exact aS (aC (λh=>⟨vb (fj (.inl h)).symm,rfl⟩) λ_=>dL ⟨vb (gh.2 bP),rfl⟩)
 rintro _ _ ⟨rfl,rfl⟩ _;refine aC (λh2=>?_) (λh2=>?_)
 .have e:gl p room c=1:=by unfold gl;rw[ez (by rw[Y];decide),ez bP,fi h2]
  rw[e];exact .inl ⟨ea,rfl,u.drop.drop.drop.aF⟩
 have hse:gl p room c=0:=by unfold gl;rw[ez (by rw[Y];decide),ez bP,ez h2]
 obtain⟨ts,G⟩:=hl;have hn:ts.length=l.length:=(G _ (I _ u.aF)).2.1
 have Zf:∀(k:Nat) (m:iG) (ov:Value) (out:List cQ) (f:Int) (w':World),k<=l.length->wD p k m->m.mem.dZ=fQ p->(rU c (je p room) [] l)=(m,out,f)->St w bF [bH ov out,fk (λw=>K w/\X w) b m,eI X,bM b4 (iW pv)] w'->
   (gl p room c≠0/\KP #[.pointer (some ⟨b,0,none⟩),ov,hU f]=.tuple #[.pointer none,.slice none 0 0,hU (gl p room c)]/\Ext w w')\/
   (gl p room c=0/\∃(b':Nat) (X:hM) (U:Value),KP #[.pointer (some ⟨b,0,none⟩),ov,hU f]=.tuple #[.pointer (some ⟨b',0,none⟩),U,hU (rU c (je p room) [] l).2.2]/\wD p 1000 (rU c (je p room) [] l).1/\(rU c (je p room) [] l).1.mem.dZ=fQ p/\mG (sep (fk (λw=>K w/\X w) b' (rU c (je p room) [] l).1) (sep (bH U (rU c (je p room) [] l).2.1) (eI X))) w w'):=by
  intro k m ov out f w' hk B hf Z u;rw[Z];have u:=St.join u.p3.drop.p2.p1;exact .inr ⟨hse,b,X,ov,rfl,B.mono bP,hf,(St.join u.p1).fresh⟩
 refine aI uo (G _ (I _ u.aF)).1 ?_
 refine⟨λmm o y w'=>∃(k:Nat) (m:iG) (out:List cQ),y=hU (k:Int)/\mm=ts.length-k/\k<=l.length/\out.length<=k/\wD p k m/\m.mem.dZ=fQ p/\(rU c (je p room) [] l)=rU c m out (l.drop k)/\St w bF [bH o out,fk (λw=>K w/\X w) b m,eI X,bM b4 (iW pv)] w',
  ⟨_,0,je p room,[],rfl,rfl,mr _,Nat.le_refl _,wD.new hz QX hr,rfl,rfl,u.eF⟩,?_⟩
 rintro mm ov _ w4 ⟨k,m,out,rfl,rfl,hk,ho,B,Q4,E,u⟩ _;refine aS (aC (λc1=>?_) λc1=>?_);rotate_left
 .rw[List.drop_of_length_le bP]at E;exact Zf k m ov out 0 w4 hk B Q4 E u
 obtain⟨q,hq⟩:=gx l (i:=k) bP;obtain⟨tq,W⟩:=gx ts (i:=((k:Nat):Int).toNat) bP;have O:∀w',K w'->l2 w' tq q:=λw' h=>(G w' h).2.2 k tq q W hq;obtain⟨V,rfl,_⟩:=O _ (I _ u.aF)
 have hgc:∀w',K w'->dy (λ_=>True) w' (ia V) q.cut:=λw' h=>by
  obtain⟨gc2,e,h3⟩:=O w' h;cases e
  exact DL.flat h3
 have hqc:=Ze q (l0 hq)
 have OF:l.drop k=q::l.drop (k+1):=by
  obtain⟨h1,h2⟩:=jq.1 hq;rw[pd h1,h2]
 rw[OF]at E;have F6:=B.mb.mono (b:=1000000) bP;have D4:=B.cr;refine aZ uo (G _ (I _ u.aF)).1 bP W (λq37 h37=>aE oG h37 (aM u B6 λb15 _ u=>aH (x:=(⟨q.kind,q.t,q.i,V⟩:aQ)) u oG rfl rfl λ_ u=>?_));refine⟨λjv w'=>jv=.bool (decide (q.kind=3/\c<=m.cL))/\St w bF [bM b15 (iW (⟨q.kind,q.t,q.i,V⟩:aQ)),bH ov out,fk (λw=>K w/\X w) b m,eI X,bM b4 (iW pv)] w',?_,?_⟩
 .exact aA uq (aB (v:=hU q.kind) bL u.hb rfl (aG (aC (λJ=>aR adw u (C21 (λw=>K w/\X w) b m _ u.p2.has (λ_ e=>⟨I _ (u.aF.then e),(u.ext e).p3.eI⟩) B.ok) λ_ _ u=>pop (aeR (mU m)) (cJ ⟨vb (gh.2 ⟨λh=>⟨J,h⟩,λh=>h.2⟩),u⟩)) λJ=>⟨vb (ga λh=>J h.1).symm,u⟩)))
 rintro _ w8 ⟨rfl,u⟩ _;refine aC (λJ=>?_) (λJ=>?_)
 .rw[rU,fi J]at E;exact Zf k m ov out 14 w8 hk B Q4 E u.drop
 rw[rU,ez J]at E;refine aE (x:=(⟨q.kind,q.t,q.i,V⟩:aQ)) oG u.At (aU ai8 u.p2 (H':=λ_=>fk (λw=>K w/\X w) b (vi m q).1) (Φ:=λv _=>v=.tuple #[ia (vi m q).2.1,hU (vi m q).2.2]) (λF2 dQ dK=>?_) ?_)
 .exact C37 (λw=>K w/\X w) b m q V F2 _ dQ (λw' hc=>⟨I _ (dK w' hc).aF,(dK w' hc).p2.eI⟩) B.ok (B.pr▸QX) F6 bP (λw' hc=>hgc _ (I _ (dK w' hc).aF)) hqc
 rintro _ _ rfl u;refine aJ rfl (aJ rfl (aM u qS λb16 _ u=>aH (x:=(vi m q).2.1) u iH rfl rfl λw11 u=>cC ?_));have Df:=B.step (q:=q) QX;have M:=(Y4 B.ok q).trans Q4;refine aC (λc3=>?_) (λc3=>?_)
 .rw[fi c3]at E;exact Zf (k+1) _ ov out _ w11 bP Df M E u.drop.p1.drop.p1
 rw[ez c3]at E;refine aE (x:=(vi m q).2.1) iH u.At (bK [(vi m q).2.1] u Gs rfl rfl (dP rfl) λs64 _ u=>?_);have akm:=u.eU;refine cO u.p4 Gs akm (by rw[nD];omega) ea (λs65 _ u=>aK bP ?_);refine⟨ts.length-(k+1),bP,k+1,_,out++[(vi m q).2.1],rfl,rfl,bP,by rw[List.length_append,nD];omega,Df,M,E,?_⟩;exact u.p1.drop.p1.drop.p2.drop
def C40(K:hM)(p:bQ)(pv:cA)(room c:Int)(lv:Value)(l:List aT)(w:World)(I:∀w',Ext w w'->K w')(J:Ms K pv p)(W:PZ p)(O:V3 K lv l)(V:l.length<=1000)(Y:∀q∈l,q.cut.length<=1000) :
  CR 40 [ia pv,hU room,hU c,lv] w (λv w'=>∃(ev:aQ) (ov:Value),v=.tuple #[ia ev,ov,hU (qf p room c l).2.2.1,hU (qf p room c l).2.2.2]/\mG (sep (eI λw=>l2 w ev (qf p room c l).1) (bH ov (qf p room c l).2.1)) w w'):=by
 have u:=St.start w;refine YX _ _ _ _ _ _ ?_;unfold S40;refine bY (x:=pv) u (λb4 _ u=>aM u mZ λb8 _ u=>have u:=u.enc (cs':=iW (⟨0,0,0,bZ⟩:aQ)) rfl;aE fW u.p1.At (dX aeP (C97 K p pv room c lv l _ (λ_ e=>I _ (u.aF.then e)) J W O V Y) ?_));rintro U w3 (⟨h1,rfl,Z⟩|⟨h1,b,X,ov,rfl,E,Q4,G⟩)
 .have u:=u.ext Z;refine aJ rfl (aJ rfl (aJ rfl (cC (aC (λ_=>?_) λh=>absurd h1 h))));refine pop QY (aI Gs (dy.nil (α:=cQ) (λ_=>True) w) (aH (x:=(⟨0,0,0,bZ⟩:aQ)) u fr rfl rfl λM u=>aE (x:=(⟨0,0,0,bZ⟩:aQ)) fr u.At ?_));rw[Za h1];exact⟨_,_,rfl,(St.join ((u.drop.drop.eF (α:=cQ)).fK (Φ:=λw=>l2 w (⟨0,0,0,bZ⟩:aQ) zE) V4)).fresh⟩
 have u:=(((u.made G).split).p1.split);refine aJ rfl (aJ rfl (aJ rfl (cC (aC (λh2=>?_) λh2=>?_))))
 .refine pop QY (aI Gs u.eU (aH (x:=(⟨0,0,0,bZ⟩:aQ)) u.p3 fr rfl rfl λM u=>aE (x:=(⟨0,0,0,bZ⟩:aQ)) fr u.At ?_));rw[Zb h1 h2];exact⟨_,_,rfl,(St.join ((u.drop.drop.drop.drop.drop.eF (α:=cQ)).fK (Φ:=λw=>l2 w (⟨0,0,0,bZ⟩:aQ) zE) V4)).fresh⟩
 have h3:(rU c (je p room) [] l).2.2=0:=zP.1 h2;refine aE fW u.p4.At (dX akj (C98 (λw=>K w/\X w) b (rU c (je p room) [] l).1 pv _ u.p2.has (λ_ e=>⟨I _ (u.aF.then e),(u.ext e).p1.eI⟩) E.ok (Q4.trans (by rw[E.pr])) (by rw[E.pr];exact J.pr _ (I _ u.aF))) ?_);rintro _ _ ⟨B,rfl,G⟩;have u:=u.made G;refine aH (x:=B) u.p4 fr rfl rfl (λ_ u=>aE (x:=B) fr u.At ?_);rw[Zc h1 h3];exact⟨B,ov,rfl,(St.join u.drop.p2.drop.p2.drop.p2.drop).fresh⟩
def C45(K:hM)(p:bQ)(pv:cA)(room c:Int)(lv:Value)(l:List aT)(w:World)(V:∀w',Ext w w'->K w')(I:Ms K pv p)(J:PZ p)(B:V3 K lv l)(G:l.length<=1000)(O:∀q∈l,q.cut.length<=1000) :
  CR 45 [ia pv,hU room,hU c,lv] w (λv w'=>v=hU (Ua p room c l:Int)/\Ext w w'):=by
 have u:=St.start w;refine YY _ _ _ _ _ _ ?_;unfold S45;refine bY (x:=pv) u (λb4 _ u=>aE fW u.At (dX aeP (C97 K p pv room c lv l _ (λ_ e=>V _ (u.aF.then e)) I J B G O) ?_));rintro E Y (⟨h1,rfl,U⟩|⟨h1,b,X,ov,rfl,W,Z,M⟩)
 .have u:=u.ext U;refine aJ rfl (aJ rfl (aJ rfl (aI Gs (dy.nil (α:=cQ) (λ_=>True) w) ?_)));unfold Ua;rw[Q2 h1];exact⟨rfl,u.drop.aF⟩
 have e:Q1 p room c l=((rU c (je p room) [] l).2.1,(rU c (je p room) [] l).2.2):=by unfold Q1;rw[ez (by rw[h1];decide)]
 have u:=(((u.made M).split).p1.split);refine aJ rfl (aJ rfl (aJ rfl (aI Gs u.eU ?_)));unfold Ua;rw[e];exact⟨rfl,u.drop.drop.drop.drop.aF⟩
variable (w:World) (K:Value->hM)
def S12(I b1:Value):Prop:=
 lW hH (pQ 24 I) w λB a=>lW hH (pQ 24 b1) a λb3 b=>eo (λE=>fA 24 B 0 λc=>lA 3 c b λd=>fA 24 b3 0 λe=>lA 3 e b λf=>bA .eql 3 d f λg=>
 cV g (fA 24 B 1 λh=>lA 3 h b λj=>fA 24 b3 1 λk=>lA 3 k b λl=>bA .eql 3 j l λn=>cV n (fA 24 B 2 λo=>lA 3 o b λp=>fA 24 b3 2 λq=>lA 3 q b λr=>bA .eql 3 p r λs=>
 cV s (fA 24 B 3 λt=>lA 22 t b λu=>fA 24 b3 3 λv=>lA 22 v b λx=>cF 26 [u,x] b λy z=>E y z) (E ff b)) (E ff b)) (E ff b)) (λJ G=>∀_:Env,
 K J G)
theorem Zg(u b1:Value)(h:S12 w K u b1):CR 12 [u,b1] w K:=
 lE 31 (λ_=>.nil) 16 [.tmp 4] Tryz.func12 h
def S8(e0:Value):Prop:=
 lW hH (pQ 24 e0) w λu a=>eo (λB=>fA 24 u 0 λb=>lA 3 b a λc=>bB .geq 3 c (i 2) λd=>cV d (fA 24 u 0 λe=>lA 3 e a λf=>bB .leq 3 f (i 4) λg=>
 B g a) (B ff a)) (λh j=>∀_:Env,
 K h j)
theorem aeT(e0:Value)(h:S8 w K e0):CR 8 [e0] w K:=
 lE 11 (λ_=>.nil) 4 [.tmp 2] Tryz.func8 h
def S7(e0:Value):Prop:=
 lW hH (pQ 24 e0) w λu a=>eo (λB=>fA 24 u 0 λb=>lA 3 b a λc=>bB .eql 3 c (i 2) λd=>cV d (B tt a) (fA 24 u 0 λe=>lA 3 e a λf=>bB .eql 3 f (i 3) λg=>
 cV g (B tt a) (fA 24 u 0 λh=>lA 3 h a λj=>bB .eql 3 j (i 4) λk=>B k a))) (λl n=>∀_:Env,
 K l n)
theorem aeU(e0:Value)(h:S7 w K e0):CR 7 [e0] w K:=
 lE 16 (λ_=>.nil) 4 [.tmp 2] Tryz.func7 h
theorem akn:PL 12:=dF Tryz.func12
theorem pl8:PL 8:=dF Tryz.func8
theorem pl7:PL 7:=dF Tryz.func7
end Go.Proofs.YtdncbeepkacgbaaGreatDoor
namespace Go.Proofs.YtdncbeepkacgbaaGreatDoor
open Go.Fw
def Uh(e:aT):Bool:=decide (2<=e.kind/\e.kind<=4)
def C12(a:aT)(U:aQ)(b:aT)(O:aQ)(w:World)(J:l2 w U a)(hb:l2 w O b)(V:a.cut.length<=1073741824):CR 12 [ia U,ia O] w (λv w'=>v=.bool (decide (a=b))/\Ext w w'):=by
 obtain⟨G,rfl,J⟩:=J;obtain⟨M,rfl,hb⟩:=hb;have u:=St.start w;refine Zg _ _ _ _ ?_;unfold S12;refine bY (x:=(⟨a.kind,a.t,a.i,G⟩:aQ)) u (λb2 _ u=>bY (x:=(⟨b.kind,b.t,b.i,M⟩:aQ)) u λb3 _ u=>?_);refine⟨λW w'=>W=.bool (decide (a=b))/\St w bF [bM b3 (iW (⟨b.kind,b.t,b.i,M⟩:aQ)),bM b2 (iW (⟨a.kind,a.t,a.i,G⟩:aQ))] w',?_,?_⟩
 .refine aA gR (aB (v:=hU a.kind) bL u.p1.hb rfl (aA gR (aB (v:=hU b.kind) bL u.hb rfl (aG (aC (λB=>?_) λB=>⟨vb (ga λh=>B (by rw[h])).symm,u⟩)))));refine aA lQ (aB (v:=hU a.t) bL u.p1.hb rfl (aA lQ (aB (v:=hU b.t) bL u.hb rfl ?_)));exact aG (aC (λE=>aA n4 (aB (v:=hU a.i) bL u.p1.hb rfl (aA n4 (aB (v:=hU b.i) bL u.hb rfl (aG (aC (λI=>aA eN (aB (v:=ia (G:SV)) ek u.p1.hb rfl (aA eN (aB (v:=ia (M:SV)) ek u.hb rfl (aR agu u (C26 _ _ a.cut b.cut _ (DL.flat (J.ext u.aF)) (DL.flat (hb.ext u.aF)) V) λ_ _ u=>⟨vb (gh.2 ⟨λh=>T5.2 ⟨B,E,I,h⟩,λh=>by rw[h]⟩),u⟩))))) λI=>⟨vb (ga λh=>I (by rw[h])).symm,u⟩)))))) λE=>⟨vb (ga λh=>E (by rw[h])).symm,u⟩)
 rintro _ _ ⟨rfl,u⟩ _;exact⟨rfl,u.drop.drop.aF⟩
def C8(e:aT)(ev:aQ)(w:World)(G:l2 w ev e):CR 8 [ia ev] w (λv w'=>v=.bool (Uh e)/\Ext w w'):=by
 obtain⟨g,rfl,_⟩:=G;have u:=St.start w;refine aeT _ _ _ ?_;unfold S8;refine bY (x:=(⟨e.kind,e.t,e.i,g⟩:aQ)) u (λb2 _ u=>?_);refine⟨λE w'=>E=.bool (Uh e)/\St w bF [bM b2 (iW (⟨e.kind,e.t,e.i,g⟩:aQ))] w',?_,?_⟩
 .exact aA gR (aB (v:=hU e.kind) bL u.hb rfl (cJ (aC (λB=>aA gR (aB (v:=hU e.kind) bL u.hb rfl (gO ⟨vb (gh.2 ⟨λh=>⟨B,h⟩,λh=>h.2⟩),u⟩))) λB=>⟨vb (ga λh=>B h.1).symm,u⟩)))
 rintro _ _ ⟨rfl,u⟩ _;exact⟨rfl,u.drop.aF⟩
def C7(e:aT)(ev:aQ)(w:World)(E:l2 w ev e):CR 7 [ia ev] w (λv w'=>v=.bool (Uh e)/\Ext w w'):=by
 obtain⟨g,rfl,_⟩:=E;have u:=St.start w;refine aeU _ _ _ ?_;unfold S7;refine bY (x:=(⟨e.kind,e.t,e.i,g⟩:aQ)) u (λb2 _ u=>?_);refine⟨λB w'=>B=.bool (Uh e)/\St w bF [bM b2 (iW (⟨e.kind,e.t,e.i,g⟩:aQ))] w',?_,?_⟩
 .exact aA gR (aB (v:=hU e.kind) bL u.hb rfl (aG (aC (λ_=>⟨vb (fj bP).symm,u⟩) λ_=>aA gR (aB (v:=hU e.kind) bL u.hb rfl (aG (aC (λ_=>⟨vb (fj bP).symm,u⟩) λ_=>aA gR (aB (v:=hU e.kind) bL u.hb rfl (aG ⟨vb (gh.2 bP),u⟩))))))))
 rintro _ _ ⟨rfl,u⟩ _;exact⟨rfl,u.drop.aF⟩
variable (w:World) (K:Value->hM)
def S191(a:Value):Prop:=
 bA .neq 3 a a λb=>K b w
theorem Ui(u:Value)(h:S191 w K u):CR 191 [u] w K:=
 lE 6 (λ_=>.nil) 4 [.tmp 2] Tryz.func191 h
def S99(a u:Value):Prop:=
 cF 191 [a] w λb c=>cF 191 [u] c λd e=>cV b (cV d (K (i 0) e) (K (i (-1)) e)) (cV d (K (i 1) e) (bA .lss 3 a u λf=>cV f (K (i (-1)) e) (bA .gtr 3 a u λg=>cV g (K (i 1) e) (
 K (i 0) e))))
theorem Zh(u B:Value)(h:S99 w K u B):CR 99 [u,B] w K:=
 lE 20 (λ_=>.nil) 16 [.tmp 4] Tryz.func99 h
def S41(B:Value):Prop:=
 lN 164 B λa=>jC (λu b c=>∀_:Env,
 bA .lss 3 b a λd=>cV d (iA 164 B b λe=>lA 82 e c λf=>aL 82 c λg h=>sA 82 g f h λj=>fA 82 g 0 λk=>lA 3 k j λl=>fA 82 g 1 λn=>lA 3 n j λo=>cF 99 [l,o] j λp q=>
 bB .neq 3 p (i 0) λr=>cV r (K p q) (bB .add 3 b (i 1) λs=>u s q)) (K (i 0) c)) (λu=>u (i 0) w)
theorem Zi(u:Value)(h:S41 w K u):CR 41 [u] w K:=
 lE 21 (λ_=>.nil) 4 [.tmp 2] Tryz.func41 h
def S42(B:Value):Prop:=
 lN 22 B λa=>jC (λu b c=>∀_:Env,
 bA .lss 3 b a λd=>cV d (iA 22 B b λe=>lA 3 e c λf=>bA .neq 3 f (i 0) λg=>cV g (K f c) (bB .add 3 b (i 1) λh=>u h c)) (K (i 0) c)) (λu=>u (i 0) w)
theorem Zj(u:Value)(h:S42 w K u):CR 42 [u] w K:=
 lE 18 (λ_=>.nil) 4 [.tmp 2] Tryz.func42 h
def S43(u E:Value):Prop:=
 lN 22 u λa=>jC (λB b c=>∀_:Env,
 bA .lss 3 b a λd=>cV d (iA 22 u b λe=>lA 3 e c λf=>lN 22 E λg=>bA .geq 3 b g λh=>cV h (K (i 1) c) (iA 22 E b λj=>lA 3 j c λk=>cF 99 [f,k] c λl n=>
 bB .neq 3 l (i 0) λo=>cV o (K l n) (bB .add 3 b (i 1) λp=>B p n))) (lN 22 u λq=>lN 22 E λr=>bA .lss 3 q r λs=>cV s (K (i (-1)) c) (K (i 0) c))) (λB=>B (i 0) w)
theorem Zk(B u:Value)(h:S43 w K B u):CR 43 [B,u] w K:=
 lE 36 (λ_=>.nil) 16 [.tmp 4] Tryz.func43 h
def S9(I b1:Value):Prop:=
 lW hH (pQ 24 I) w λB a=>lW hH (pQ 24 b1) a λb3 b=>fA 24 B 0 λc=>lA 3 c b λd=>fA 24 b3 0 λe=>lA 3 e b λf=>dW hH (l1 82 [(0,d),(1,f)].toArray) λg=>
 fA 24 B 1 λh=>lA 3 h b λj=>fA 24 b3 1 λk=>lA 3 k b λl=>dW hH (l1 82 [(0,j),(1,l)].toArray) λn=>fA 24 B 2 λo=>lA 3 o b λp=>fA 24 b3 2 λq=>
 lA 3 q b λr=>dW hH (l1 82 [(0,p),(1,r)].toArray) λs=>bS 164 3 [(0,g),(1,n),(2,s)] b λt u=>cF 41 [t] u λv x=>fA 24 B 3 λy=>lA 22 y x λz=>
 fA 24 b3 3 λJ=>lA 22 J x λG=>cF 43 [z,G] x λU Y=>bS 22 2 [(0,v),(1,U)] Y λV O=>cF 42 [V] O λM E=>bB .lss 3 M (i 0) λW=>K W E
theorem aeV(u b1:Value)(h:S9 w K u b1):CR 9 [u,b1] w K:=
 lE 32 (λ_=>.nil) 16 [.tmp 4] Tryz.func9 h
def S11(E b1:Value):Prop:=
 lW hH (pQ 24 E) w λu a=>lW hH (pQ 24 b1) a λb3 b=>eo (λB=>lA 24 u b λc=>lA 24 b3 b λd=>cF 9 [c,d] b λe f=>dW hH (Op.unary .not e) λg=>
 cV g (lA 24 b3 f λh=>lA 24 u f λj=>cF 9 [h,j] f λk l=>dW hH (Op.unary .not k) λn=>B n l) (B ff f)) (λo p=>∀_:Env,
 K o p)
theorem Zl(u b1:Value)(h:S11 w K u b1):CR 11 [u,b1] w K:=
 lE 15 (λ_=>.nil) 16 [.tmp 4] Tryz.func11 h
def S13(u:Value):Prop:=
 eo (λB=>bB .lss 3 u (i 0) λa=>cV a (B tt w) (bB .geq 3 u (i 5) λb=>B b w)) (λc d=>∀_:Env,
 cV c (K (Go.Value.string (hZ (#[]))) d) (dW hH (l1 85 [(0,(Go.Value.string (hZ (#[111,112,101,110])))),(1,(Go.Value.string (hZ (#[115,97,102,101])))),(2,(Go.Value.string (hZ (#[99,108,97,105,109])))),(3,(Go.Value.string (hZ (#[102,97,117,108,116])))),(4,(Go.Value.string (hZ (#[115,116,117,99,107]))))].toArray) λe=>
 dW hH (Instr.index 85 e u) λf=>K f d))
theorem Zm(u:Value)(h:S13 w K u):CR 13 [u] w K:=
 lE 12 (λ_=>.nil) 4 [.tmp 2] Tryz.func13 h
theorem V5:PL 191:=dF Tryz.func191
theorem aeW:PL 99:=dF Tryz.func99
theorem akp:PL 41:=dF Tryz.func41
theorem akq:PL 42:=dF Tryz.func42
theorem akr:PL 43:=dF Tryz.func43
theorem Rr:PL 9:=dF Tryz.func9
theorem Q5:PL 11:=dF Tryz.func11
theorem Zn:PL 13:=dF Tryz.func13
end Go.Proofs.YtdncbeepkacgbaaGreatDoor
namespace Go.Proofs.YtdncbeepkacgbaaGreatDoor
open Go.Fw
def wE(B:Int)(u:Int):pr hH (l1 82 [(0,hU B),(1,hU u)].toArray)=some (.agg [hU B,hU u].toArray):=by kernel_rfl
def xQ(E:ByteArray)(G:ByteArray)(u:ByteArray)(B:ByteArray)(I:ByteArray):pr hH (l1 85 [(0,.string E),(1,.string G),(2,.string u),(3,.string B),(4,.string I)].toArray)=some (.agg [.string E,.string G,.string u,.string B,.string I].toArray):=by kernel_rfl
@[ext] structure jG where
 a:Int
 b:Int
deriving DecidableEq
instance:Flat jG where
 agg:=true
 sz:=2
 enc e:=[hU e.a,hU e.b]
 val e:=.agg [hU e.a,hU e.b].toArray
 pos:=ea
 len _:=rfl
 one a v h:=by grind[qG]
 lj _ _:=rfl
 lF h:=by cases h
instance:Deep jG jG:=fP
def fw:List Int->List Int->Bool
 | [],[]=>false
 | [],_::_=>true
 | _::_,[]=>false
 | a::r,b::s=>if a=b then fw r s else decide (a<b)
theorem zY:∀l:List Int,fw l l=false
 | []=>rfl
 | a::r=>by unfold fw;rw[fi rfl];exact zY r
theorem zZ:∀{a b:List Int},fw a b=true->fw b a=false
 | [],[],h=>by cases h
 | [],_::_,_=>rfl
 | _::_,[],h=>by cases h
 | a::r,b::s,h=>by
  unfold fw at h |-
  by_cases e:a=b
  .rw[fi e]at h;rw[fi e.symm];exact zZ h
  grind
theorem FL:∀{a b:List Int},fw a b=false->fw b a=false->a=b
 | [],[],_,_=>rfl
 | [],_::_,h,_=>by cases h
 | _::_,[],_,h=>by cases h
 | a::r,b::s,h,h2=>by
  unfold fw at h h2
  by_cases e:a=b
  .rw[fi e]at h;rw[fi e.symm]at h2;rw[e,FL h h2]
  grind
theorem xm:∀{a b c:List Int},fw a b=true->fw b c=true->fw a c=true
 | [],[],_,h,_=>by cases h
 | _::_,[],_,h,_=>by cases h
 | _,_::_,[],_,h=>by cases h
 | [],_::_,_::_,_,_=>rfl
 | a::r,b::s,c::t,h,h2=>by
  unfold fw at h h2 |-
  by_cases e:a=b
  .rw[fi e]at h
   subst e
   by_cases u:a=c
   .rw[fi u]at h2 |-;exact xm h h2
   grind
  grind
def gi(a b:aT):Bool:=fw ([a.kind,a.t,a.i]++a.cut) ([b.kind,b.t,b.i]++b.cut)
def BH(a b:aT):Bool:=decide (a=b)
def Zo{a b:aT}(h:[a.kind,a.t,a.i]++a.cut=[b.kind,b.t,b.i]++b.cut):a=b:=by
 cases a;simp_all
theorem BI(a b:aT):BH a b=(!gi a b&&!gi b a):=by
 unfold BH
 by_cases e:a=b
 .subst e
  have:gi a a=false:=zY _
  grind
 rw[ga e]
 cases h1:gi a b with
 | true=>rfl
 | false=>
  cases h2:gi b a with
  | true=>rfl
  | false=>exact absurd (Zo (FL h1 h2)) e
def Ib{a b c:aT}(h1:gi a b=true)(h2:gi b c=true):gi a c=true:=xm h1 h2
theorem L7{a b:aT}(h:gi a b=true):gi b a=false:=zZ h
def rV(a b:Int):Int:=if a<b then -1 else if b<a then 1 else 0
def wF:List jG->Int
 | []=>0
 | p::r=>if rV p.a p.b=0 then wF r else rV p.a p.b
def orM:List Int->Int
 | []=>0
 | a::r=>if a=0 then orM r else a
def nO:List Int->List Int->Int
 | [],[]=>0
 | [],_::_=>-1
 | _::_,[]=>1
 | a::r,b::s=>if rV a b=0 then nO r s else rV a b
def Uj{l:List jG}{k:Nat}{e:jG}(h:l[k]?=some e)(hc:rV e.a e.b=0):wF (l.drop k)=wF (l.drop (k+1)):=by
 rw[lD h,wF,fi hc]
def Uk{l:List jG}{k:Nat}{e:jG}(h:l[k]?=some e)(hc:¬ rV e.a e.b=0):wF (l.drop k)=rV e.a e.b:=by
 rw[lD h,wF,ez hc]
def Zp{l:List Int}{k:Nat}{e:Int}(h:l[k]?=some e)(hc:e=0):orM (l.drop k)=orM (l.drop (k+1)):=by
 rw[lD h,orM,fi hc]
def Zq{l:List Int}{k:Nat}{e:Int}(h:l[k]?=some e)(hc:¬ e=0):orM (l.drop k)=e:=by
 rw[lD h,orM,ez hc]
def Ul{l m:List Int}{k:Nat}{a b:Int}(h:l[k]?=some a)(h2:m[k]?=some b)(hc:rV a b=0):nO (l.drop k) (m.drop k)=nO (l.drop (k+1)) (m.drop (k+1)):=by
 rw[lD h,lD h2,nO,fi hc]
def Um{l m:List Int}{k:Nat}{a b:Int}(h:l[k]?=some a)(h2:m[k]?=some b)(hc:¬ rV a b=0):nO (l.drop k) (m.drop k)=rV a b:=by
 rw[lD h,lD h2,nO,ez hc]
def Q6{l m:List Int}{k:Nat}{a:Int}(h:l[k]?=some a)(h2:m.length<=k):nO (l.drop k) (m.drop k)=1:=by
 rw[lD h,ou h2,nO]
theorem FM{l m:List Int}{k:Nat}(h:l.length<=k)(h1:k<=m.length)(h2:k<=l.length):nO (l.drop k) (m.drop k)=if l.length<m.length then -1 else 0:=by
 rw[ou h]
 by_cases e:l.length<m.length
 .rw[fi e]
  obtain⟨b,hb⟩:=gx m (i:=k) bP
  rw[lD hb,nO]
 grind[nO]
def L8{a b:Int}:rV a b=0↔a=b:=by grind[rV]
theorem BJ:∀(a b:List Int),decide (nO a b<0)=fw a b
 | [],[]=>rfl
 | [],_::_=>rfl
 | _::_,[]=>rfl
 | a::r,b::s=>by
  rw[nO,fw]
  by_cases e:a=b
  .rw[fi (L8.2 e),fi e,BJ r s]
  grind[rV,nO,fw]
def V6(a b:aT):List jG:=[⟨a.kind,b.kind⟩,⟨a.t,b.t⟩,⟨a.i,b.i⟩]
def Un(a b:aT):decide (orM [wF (V6 a b),nO a.cut b.cut]<0)=gi a b:=by
 unfold gi
 rw[<- BJ]
 simp only[EO,sk,V6,orM,wF,nO]
 grind
def nmL:List ByteArray:=[hZ #[111,112,101,110],hZ #[115,97,102,101],hZ #[99,108,97,105,109],hZ #[102,97,117,108,116],hZ #[115,116,117,99,107]]
def BK(k:Int):ByteArray:=if k<0\/5<=k then hZ #[]else nmL.getD k.toNat (hZ #[])
def C191(a:Int)(w:World):CR 191 [hU a] w (λv w'=>v=.bool false/\Ext w w'):=by
 have u:=St.start w;refine Ui _ _ _ ?_;unfold S191;exact cC ⟨vb ew,u.aF⟩
def C99(x y:Int)(w:World):CR 99 [hU x,hU y] w (λv w'=>v=hU (rV x y)/\Ext w w'):=by
 have u:=St.start w;refine Zh _ _ _ _ ?_;unfold S99;refine aR V5 u (C191 _ _) (λ_ G u=>aR V5 u (C191 _ _) λ_ G u=>et (et (aS (aC (λB=>?_) λB=>dL (aC (λE=>?_) λE=>?_)))))
 .unfold rV
  first|(rw[fi (show x<y from B)];exact⟨rfl,u.aF⟩)|(rw[ez (show ¬ x<y from B),fi (show y<x from E)];exact⟨rfl,u.aF⟩)|(rw[ez (show ¬ x<y from B),ez (show ¬ y<x from E)];exact⟨rfl,u.aF⟩)
 .unfold rV
  first|(rw[fi (show x<y from B)];exact⟨rfl,u.aF⟩)|(rw[ez (show ¬ x<y from B),fi (show y<x from E)];exact⟨rfl,u.aF⟩)|(rw[ez (show ¬ x<y from B),ez (show ¬ y<x from E)];exact⟨rfl,u.aF⟩)
 unfold rV
 first|(rw[fi (show x<y from B)];exact⟨rfl,u.aF⟩)|(rw[ez (show ¬ x<y from B),fi (show y<x from E)];exact⟨rfl,u.aF⟩)|(rw[ez (show ¬ x<y from B),ez (show ¬ y<x from E)];exact⟨rfl,u.aF⟩)
def C41(lv:Value)(l:List jG)(w:World)(I:dy (λ_=>True) w lv l)(U:l.length<=1073741824):CR 41 [lv] w (λv w'=>v=hU (wF l)/\Ext w w'):=by
 have u:=St.start w;refine Zi _ _ _ ?_;unfold S41;refine aI M5 (I.ext u.aF) ?_;refine⟨λJ i w'=>∃k:Nat,i=hU (k:Int)/\J=l.length-k/\k<=l.length/\wF l=wF (l.drop k)/\St w bF [] w',⟨_,0,rfl,rfl,mr _,rfl,u⟩,?_⟩;rintro J _ _ ⟨k,rfl,rfl,V,B,u⟩ _;refine aS (aC (λO=>?_) λ_=>⟨gj (mj .i64) (by rw[B,ou bP];rfl),u.aF⟩);obtain⟨G,E⟩:=gx l (i:=(k:Int).toNat) bP;exact aZ M5 I bP E (λ_ M=>aE abd (M.ext u.aF) (aM u Wq λ_ _ u=>aH (x:=G) u abd rfl rfl λ_ u=>aA R2 (aB (v:=hU G.a) bL u.hb rfl (aA R3 (aB (v:=hU G.b) bL u.hb rfl (aR aeW u (C99 _ _ _) λ_ _ u=>cC (aC (λ_=>⟨gj (mj .i64) (B.trans (Uk E bP)).symm,u.drop.aF⟩) λ_=>aK bP ⟨_,bP,k+1,rfl,rfl,bP,B.trans (Uj E bP),u.drop⟩)))))))
def C42(lv:Value)(l:List Int)(w:World)(G:dy (λ_=>True) w lv l)(U:l.length<=1073741824):CR 42 [lv] w (λv w'=>v=hU (orM l)/\Ext w w'):=by
 have u:=St.start w;refine Zj _ _ _ ?_;unfold S42;refine aI dz (G.ext u.aF) ?_;refine⟨λI i w'=>∃k:Nat,i=hU (k:Int)/\I=l.length-k/\k<=l.length/\orM l=orM (l.drop k)/\St w bF [] w',⟨_,0,rfl,rfl,mr _,rfl,u⟩,?_⟩;rintro I _ _ ⟨k,rfl,rfl,V,B,u⟩ _;refine aS (aC (λM=>?_) λ_=>⟨gj (mj .i64) (by rw[B,ou bP];rfl),u.aF⟩);obtain⟨O,E⟩:=gx l (i:=(k:Int).toNat) bP;exact aZ dz G bP E (λ_ J=>aE bL (J.ext u.aF) (cC (aC (λ_=>⟨gj (mj .i64) (B.trans (Zq E bP)).symm,u.aF⟩) λ_=>aK bP ⟨_,bP,k+1,rfl,rfl,bP,B.trans (Zp E bP),u⟩)))
def C43(U M:Value)(xs ys:List Int)(w:World)(J:dy (λ_=>True) w U xs)(G:dy (λ_=>True) w M ys)(hn:xs.length<=1073741824):CR 43 [U,M] w (λv w'=>v=hU (nO xs ys)/\Ext w w'):=by
 have u:=St.start w;refine Zk _ _ _ _ ?_;unfold S43;refine aI dz (J.ext u.aF) ?_;refine⟨λV i w'=>∃k:Nat,i=hU (k:Int)/\V=xs.length-k/\k<=xs.length/\k<=ys.length/\nO xs ys=nO (xs.drop k) (ys.drop k)/\St w bF [] w',⟨_,0,rfl,rfl,mr _,mr _,rfl,u⟩,?_⟩;rintro V _ _ ⟨k,rfl,rfl,W,O,B,u⟩ _;refine aS (aC (λlu=>?_) λ_=>aI dz (J.ext u.aF) (aI dz (G.ext u.aF) (aS (aC (λ_=>⟨gj (mj .i64) (show((-1):Int)=nO xs ys by rw[B,FM bP O W,fi bP]),u.aF⟩) λ_=>⟨gj (mj .i64) (show(0:Int)=nO xs ys by rw[B,FM bP O W,ez bP]),u.aF⟩))))
 obtain⟨iV,E⟩:=gx xs (i:=(k:Int).toNat) bP;refine aZ dz J bP E (λ_ Y=>aE bL (Y.ext u.aF) (aI dz (G.ext u.aF) (cJ (aC (λ_=>⟨gj (mj .i64) (B.trans (Q6 E bP)).symm,u.aF⟩) λfg=>?_))));obtain⟨ac9,I⟩:=gx ys (i:=(k:Int).toNat) bP;exact aZ dz G bP I (λ_ Z=>aE bL (Z.ext u.aF) (aR aeW u (C99 _ _ _) λ_ _ u=>cC (aC (λ_=>⟨gj (mj .i64) (B.trans (Um E I bP)).symm,u.aF⟩) λ_=>aK bP ⟨_,bP,k+1,rfl,rfl,bP,bP,B.trans (Ul E I bP),u⟩)))
def C9(a:aT)(I:aQ)(b:aT)(G:aQ)(w:World)(V:l2 w I a)(hb:l2 w G b)(M:a.cut.length<=1073741824):CR 9 [ia I,ia G] w (λv w'=>v=.bool (gi a b)/\Ext w w'):=by
 obtain⟨W,rfl,U⟩:=V;obtain⟨Z,rfl,J⟩:=hb;have u:=St.start w;refine aeV _ _ _ _ ?_;unfold S9;refine bY u (λZr _ u=>bY u λY _ u=>aA gR (aB (v:=hU a.kind) bL u.p1.hb rfl (aA gR (aB (v:=hU b.kind) bL u.hb rfl (pop (wE _ _) (aA lQ (aB (v:=hU a.t) bL u.p1.hb rfl (aA lQ (aB (v:=hU b.t) bL u.hb rfl (pop (wE _ _) (aA n4 ?_)))))))))));refine aB (v:=hU a.i) bL u.p1.hb rfl (aA n4 (aB (v:=hU b.i) bL u.hb rfl (pop (wE _ _) (bK ([(⟨a.kind,b.kind⟩:jG),(⟨a.t,b.t⟩:jG),(⟨a.i,b.i⟩:jG)]) u M5 rfl rfl (dP rfl) λO _ u=>aR akp u (C41 _ [(⟨a.kind,b.kind⟩:jG),(⟨a.t,b.t⟩:jG),(⟨a.i,b.i⟩:jG)] _ u.eU (dP rfl)) λ_ he u=>aA eN (aB ek u.p2.hb rfl ?_)))))
 have E:=DL.flat U;refine aA eN (aB ek u.p1.hb rfl ?_);have B:=DL.flat J;exact aR akr u (C43 _ _ a.cut b.cut _ (E.ext u.aF) (B.ext u.aF) M) (λ_ _ u=>bK ([(wF [(⟨a.kind,b.kind⟩:jG),(⟨a.t,b.t⟩:jG),(⟨a.i,b.i⟩:jG)]),(nO a.cut b.cut)]:List Int) u dz rfl rfl (dP rfl) λ_ _ u=>aR akq u (C42 _ ([(wF [(⟨a.kind,b.kind⟩:jG),(⟨a.t,b.t⟩:jG),(⟨a.i,b.i⟩:jG)]),(nO a.cut b.cut)]:List Int) _ u.eU (dP rfl)) λ_ _ u=>aS (have u:=u.drop.drop.drop.drop;⟨vb (Un a b),u.aF⟩))
def C11(a:aT)(J:aQ)(b:aT)(G:aQ)(w:World)(Y:l2 w J a)(hb:l2 w G b)(V:a.cut.length<=1073741824)(U:b.cut.length<=1073741824):CR 11 [ia J,ia G] w (λv w'=>v=.bool (BH a b)/\Ext w w'):=by
 obtain⟨I,rfl,O⟩:=Y;obtain⟨M,rfl,E⟩:=hb;have u:=St.start w;refine Zl _ _ _ _ ?_;unfold S11;refine bY u (λZr _ u=>bY u λZ _ u=>⟨λW w'=>W=.bool (!gi a b&&!gi b a)/\St w bF [] w',aE fr u.p1.At (aE fr u.At (aR Rr u (C9 a _ b _ _ ⟨I,rfl,(O.ext u.aF)⟩ ⟨M,rfl,(E.ext u.aF)⟩ V) λ_ _ u=>bJ (bD (λB=>aE fr u.At (aE fr u.p1.At (aR Rr u (C9 b _ a _ _ ⟨M,rfl,(E.ext u.aF)⟩ ⟨I,rfl,(O.ext u.aF)⟩ U) λ_ _ u=>bJ (have u:=u.drop.drop;⟨vb (by rw[Bool.not_eq_true']at B;rw[B];rfl),u⟩)))) λB=>have u:=u.drop.drop;⟨vb (by rw[Bool.not_eq_false']at B;rw[B];rfl),u⟩))),?_⟩)
 rintro _ _ ⟨rfl,u⟩ _;exact⟨vb ((BI a b).symm),u.aF⟩
def C13(k:Int)(w:World):CR 13 [hU k] w (λv w'=>v=.string (BK k)/\Ext w w'):=by
 have B:=St.start w;refine Zm _ _ _ ?_;unfold S13;refine⟨λE w'=>E=.bool (decide (k<0\/5<=k))/\w=w',aS (aC (λ_=>⟨FT bP,rfl⟩) λ_=>cJ ⟨xr bP,rfl⟩),?_⟩;rintro _ _ ⟨rfl,G⟩ _;subst G;refine aC (λu=>⟨gj tO (by unfold BK;rw[fi u]),B.aF⟩) (λu=>?_);refine⟨_,xQ _ _ _ _ _,?_⟩;obtain rfl|rfl|rfl|rfl|rfl:k=0\/k=1\/k=2\/k=3\/k=4:=bP
 all_goals exact⟨.string (BK _),by kernel_rfl,rfl,B.aF⟩
variable (w:World) (K:Value->hM)
def S15:Prop:=
 cF 44 [(Go.Value.string (hZ (#[108,105,110,101,32,97,59,32,116,104,114,101,97,100,32,116,32,123,32,115,116,111,114,101,32,97,32,61,32,49,59,32,99,104,101,99,107,32,48,59,32,125,32,114,101,99,111,118,101,114,32,123,32,125,32,97,108,119,97,121,115,32,97,32,61,61,32,48,59])))] w λa b=>
 xT a 0 λc=>xT a 1 λ_=>xT a 2 λ_=>aL 36 b λp1 d=>sA 36 p1 c d λe=>dW hH (l1 67 [(0,(i 1))].toArray) λf=>dW hH (l1 67 [(0,(i 2))].toArray) λg=>
 aL 67 e λI h=>aL 67 h λpM j=>sA 67 I f j λk=>sA 67 pM g k λl=>bS 22 1 [(0,(i 1))] l λn o=>dW hH (l1 67 [(0,(i 3)),(3,n)].toArray) λp=>
 aL 67 o λM q=>sA 67 M p q λr=>lA 36 p1 r λs=>lA 67 I r λt=>lA 67 pM r λu=>lA 67 M r λv=>bS 58 3 [(0,t),(1,u),(2,v)] r λx y=>cF 40 [s,(i 2),(i 1),x] y λz aa=>
 xT z 0 λab=>xT z 1 λac=>xT z 2 λad=>xT z 3 λ_=>aL 24 aa λJ ae=>sA 24 J ab ae λaf=>lA 36 p1 af λag=>lA 67 I af λah=>lA 67 I af λai=>bS 58 2 [(0,ah),(1,ai)] af λaj ak=>
 cF 40 [ag,(i 2),(i 1),aj] ak λal am=>xT al 0 λan=>xT al 1 λ_=>xT al 2 λao=>xT al 3 λ_=>aL 24 am λV ap=>sA 24 V an ap λU=>lA 36 p1 U λar=>lA 67 I U λasx=>
 lA 67 pM U λau=>lA 67 M U λav=>bS 58 3 [(0,asx),(1,au),(2,av)] U λaw ax=>cF 40 [ar,(i 2),(i 0),aw] ax λY az=>xT Y 0 λa0=>xT Y 1 λ_=>xT Y 2 λa1=>
 xT Y 3 λa2=>aL 24 az λa3 a4=>sA 24 a3 a0 a4 λZ=>lA 36 p1 Z λa6=>lA 67 I Z λa8=>lA 67 M Z λa9=>bS 58 2 [(0,a8),(1,a9)] Z λba bb=>cF 40 [a6,(i 2),(i 1),ba] bb λW bd=>
 xT W 0 λbe=>xT W 1 λ_=>xT W 2 λbf=>xT W 3 λbg=>aL 24 bd λbh bi=>sA 24 bh be bi λbj=>lA 36 p1 bj λbk=>cF 40 [bk,(i 2),(i 9),(.slice none 0 0)] bj λbl bm=>
 xT bl 0 λbn=>xT bl 1 λ_=>xT bl 2 λbo=>xT bl 3 λ_=>aL 24 bm λbp bq=>sA 24 bp bn bq λbr=>lA 36 p1 br λbs=>cF 40 [bs,(i 2),(i 0),(.slice none 0 0)] br λbt bu=>
 xT bt 0 λbv=>xT bt 1 λ_=>xT bt 2 λbw=>xT bt 3 λ_=>aL 24 bu λG bx=>sA 24 G bv bx λbz=>eo (λB=>lA 24 J bz λb0=>bS 22 1 [(0,(i 1))] bz λb1 b2=>
 dW hH (l1 24 [(0,(i 2)),(2,(i 1)),(3,b1)].toArray) λb3=>cF 11 [b0,b3] b2 λb4 O=>cV b4 (lN 77 ac λb6=>bB .eql 3 b6 (i 3) λb7=>cV b7 (bB .eql 40 ad (i 0) λb8=>
 cV b8 (lA 24 V O λb9=>bS 22 1 [(0,(i 0))] O λca cb=>dW hH (l1 24 [(0,(i 3)),(1,(i 1)),(3,ca)].toArray) λcc=>cF 11 [b9,cc] cb λcd E=>cV cd (
 bB .eql 40 ao (i 0) λcf=>cV cf (bB .eql 40 a1 (i 14) λcg=>cV cg (bB .eql 3 a2 (i 2) λch=>cV ch (bB .eql 40 bf (i 13) λci=>cV ci (bB .eql 3 bg (i 1) λcj=>cV cj (
 bB .eql 40 bo (i 1) λck=>cV ck (lA 24 G E λcl=>bS 22 1 [(0,(i 0))] E λcm cn=>dW hH (l1 24 [(3,cm)].toArray) λco=>cF 11 [cl,co] cn λcp cq=>
 cV cp (bB .eql 40 bw (i 0) λcr=>cV cr (lA 24 J cq λcs=>cF 7 [cs] cq λct cu=>cV ct (lA 24 G cu λcv=>cF 7 [cv] cu λcw cx=>dW hH (Op.unary .not cw) λcy=>
 cV cy (lA 24 G cx λcz=>lA 24 J cx λc0=>cF 9 [cz,c0] cx λc1 c2=>cV c1 (lA 24 J c2 λc3=>lA 24 J c2 λc4=>cF 9 [c3,c4] c2 λc5 c6=>dW hH (Op.unary .not c5) λc7=>
 cV c7 (cF 13 [(i 4)] c6 λc8 c9=>dW hH (g9 .eql 9 false true c8 (Go.Value.string (hZ (#[115,116,117,99,107])))) λda=>cV da (cF 13 [(i 5)] c9 λdb dc=>
 dW hH (g9 .eql 9 false true db (Go.Value.string (hZ (#[])))) λdd=>cV dd (lA 36 p1 dc λde=>lA 67 I dc λdf=>lA 67 M dc λdg=>lA 67 I dc λdh=>
 bS 58 3 [(0,df),(1,dg),(2,dh)] dc λdi dj=>cF 45 [de,(i 2),(i 1),di] dj λdk dl=>bB .eql 3 dk (i 1) λdm=>B dm dl) (B ff dc)) (B ff c9)) (B ff c6)) (B ff c2)) (
 B ff cx)) (B ff cu)) (B ff cq)) (B ff cq)) (B ff E)) (B ff E)) (B ff E)) (B ff E)) (B ff E)) (B ff E)) (B ff E)) (B ff O)) (B ff O)) (B ff O)) (λdn dp=>∀_:Env,
 K dn dp)
theorem Zt(h:S15 w K):CR 15 [] w K:=
 lE 186 (λ_=>.nil) 1 [.tmp 0] Tryz.func15 h
theorem Uo:PL 15:=dF Tryz.func15
end Go.Proofs.YtdncbeepkacgbaaGreatDoor
namespace Go.Proofs.YtdncbeepkacgbaaGreatDoor
open Go.Fw
def FN(E:Int)(G:Int)(B:Option Addr)(I u:Nat):pr hH (l1 24 [(0,hU E),(1,hU G),(3,.slice B I u)].toArray)=some (.agg [hU E,hU G,hU 0,.slice B I u].toArray):=by kernel_rfl
def FP(E:Int)(u:Int)(B:Option Addr)(I G:Nat):pr hH (l1 24 [(0,hU E),(2,hU u),(3,.slice B I G)].toArray)=some (.agg [hU E,hU 0,hU u,.slice B I G].toArray):=by kernel_rfl
def Up(u:Option Addr)(E B:Nat):pr hH (l1 24 [(3,.slice u E B)].toArray)=some (.agg [hU 0,hU 0,hU 0,.slice u E B].toArray):=by kernel_rfl
def Ki(u:Int):pr hH (l1 67 [(0,hU u)].toArray)=some (.agg [hU u,hU 0,hU 0,.slice none 0 0].toArray):=by kernel_rfl
section
variable {α σ:Type}[Flat σ] [Deep α σ] {w:World}
theorem pK{t:σ}{x:α}{ts:List σ}{xs:List α}(h:l2 w t x)(g:gU ts xs w):gU (t::ts) (x::xs) w:=by
 grind[gU]
end
def pk0(w:World)(a b c:Int):l2 w (⟨a,b,c,bZ⟩:aQ) (⟨a,b,c,[]⟩:aT):=⟨_,rfl,DL.nil w⟩
theorem e0(w:World){u:SV}(a b c:Int){l:List Int}(h:dy (λ_=>True) w (ia u) l):l2 w (⟨a,b,c,u⟩:aQ) (⟨a,b,c,l⟩:aT):=⟨_,rfl,DL.eO h⟩
def V7(t:ByteArray):Bool:=match qA t with
 | some r=>decide (r.1.length<=5000)&&r.1.all (λx=>decide (0<=x.at_/\x.at_<=1000000/\x.text.size<=1000000))
 | none=>false
def Uq{t:ByteArray}(h:V7 t=true):∀l e a,qA t=some (l,e,a)->fU l:=by
 intro l e a B
 unfold V7 at h
 rw[B]at h
 simp only[nw,decide_eq_true_eq,List.all_eq_true]at h
 exact⟨h.1,λx u=>h.2 x u⟩
def Kj:ByteArray:=⟨#[108,105,110,101,32,97,59,32,116,104,114,101,97,100,32,116,32,123,32,115,116,111,114,101,32,97,32,61,32,49,59,32,99,104,101,99,107,32,48,59,32,125,32,114,101,99,111,118,101,114,32,123,32,125,32,97,108,119,97,121,115,32,97,32,61,61,32,48,59]⟩
def jH:bQ:=((qc Kj).getD (Fu,0,0)).1
def Ic:qc Kj=some (jH,0,0):=by decide +kernel
def L9:∀l e a,qA Kj=some (l,e,a)->fU l:=Uq (by decide +kernel)
theorem Q7:Lc jH=jH:=by decide +kernel
def qg:PZ jH:=by rw[<- Q7];exact SH _
def fxA:List cQ:=(qf jH 2 1 [(⟨1,0,0,[]⟩:aT),(⟨2,0,0,[]⟩:aT),(⟨3,0,0,[1]⟩:aT)]).2.1
def fxB:List cQ:=(qf jH 2 1 [(⟨1,0,0,[]⟩:aT),(⟨1,0,0,[]⟩:aT)]).2.1
def Ur:(qf jH 2 1 [(⟨1,0,0,[]⟩:aT),(⟨2,0,0,[]⟩:aT),(⟨3,0,0,[1]⟩:aT)]=((⟨2,0,1,[1]⟩:aT),fxA,0,0)/\fxA.length=3)/\qf jH 2 1 [(⟨1,0,0,[]⟩:aT),(⟨1,0,0,[]⟩:aT)]=((⟨3,1,0,[0]⟩:aT),fxB,0,0)/\qf jH 2 0 [(⟨1,0,0,[]⟩:aT),(⟨2,0,0,[]⟩:aT),(⟨3,0,0,[1]⟩:aT)]=(zE,[],14,2)/\qf jH 2 1 [(⟨1,0,0,[]⟩:aT),(⟨3,0,0,[1]⟩:aT)]=(zE,[],13,1)/\qf jH 2 9 ([]:List aT)=(zE,[],1,0)/\qf jH 2 0 ([]:List aT)=((⟨0,0,0,[0]⟩:aT),[],0,0)/\Ua jH 2 1 [(⟨1,0,0,[]⟩:aT),(⟨3,0,0,[1]⟩:aT),(⟨1,0,0,[]⟩:aT)]=1:=by decide +kernel
def Ma(R:aT×List cQ×Int×Int)(K:hM)(p:bQ)(pv:cA)(room c:Int)(lv:Value)(l:List aT)(w:World)(M:∀w',Ext w w'->K w')(G:Ms K pv p)(I:PZ p)(u:V3 K lv l)(E:l.length<=1000)(J:∀q∈l,q.cut.length<=1000)(B:qf p room c l=R) :
  Calls hH 40 [ia pv,hU room,hU c,lv].toArray w (oV λv w'=>∃(ev:aQ) (ov:Value),v=.tuple #[ia ev,ov,hU R.2.2.1,hU R.2.2.2]/\mG (sep (eI λw=>l2 w ev R.1) (bH ov R.2.1)) w w'):=B▸C40 K p pv room c lv l w M G I u E J
def C15(w:World):CR 15 [] w (λv w'=>v=.bool true/\Ext w w'):=by
 have u:=St.start w;refine Zt _ _ ?_;unfold S15;obtain⟨⟨r1,Z⟩,r2,r3,r4,r5,r6,r7⟩:=Ur;refine dX agv (C44 Kj (jH,0,0) _ ea Ic L9) ?_;rintro _ _ ⟨pv,rfl,E⟩;have u:=u.made E;refine aJ rfl (aJ rfl (aJ rfl (aM u Gq λb1 _ u=>aH (x:=pv) u fW rfl rfl λ_ u=>pop (Ki 1) (pop (Ki 2) (aM u B6 λb4 _ u=>aM u B6 λb5 _ u=>aH (x:=(⟨1,0,0,bZ⟩:aQ)) u.p1 oG rfl rfl λ_ u=>aH (x:=(⟨2,0,0,bZ⟩:aQ)) u.p1 oG rfl rfl λ_ u=>bK ([1]:List Int) u dz rfl rfl (dP rfl) λx38 _ u=>?_)))))
 obtain⟨B,rfl⟩:=u.gu;refine pop (KD 3 _ _ _) (aM u B6 λb6 _ u=>aH (x:=(⟨3,0,0,B⟩:aQ)) u oG rfl rfl λI u=>?_);have u:=u.p1.freeze.p5.p1.ic;obtain⟨J,u,hX⟩:=u.VP;have V:Ms (pL J I) pv jH:=Ms.of λw' h=>(hX w' h).2;have W:∀w',pL J I w'->l2 w' (⟨3,0,0,B⟩:aQ) (⟨3,0,0,[1]⟩:aT):=λw' h=>e0 _ 3 0 0 (hX w' h).1;have M:∀(a b c:Int) w',pL J I w'->l2 w' (⟨a,b,c,bZ⟩:aQ) (⟨a,b,c,[]⟩:aT):=λa b c w' _=>pk0 w' a b c;refine aE (x:=pv) fW u.p4.At (aE (x:=(⟨1,0,0,bZ⟩:aQ)) oG u.p3.At (aE (x:=(⟨2,0,0,bZ⟩:aQ)) oG u.p2.At (aE (x:=(⟨3,0,0,B⟩:aQ)) oG u.p1.At (bK ([(⟨1,0,0,bZ⟩:aQ),(⟨2,0,0,bZ⟩:aQ),(⟨3,0,0,B⟩:aQ)]:List aQ) u uo rfl rfl (dP rfl) λpl _ u=>dX L6 (Ma _ (λw'=>pL J I w'/\dy (λ_=>True) w' pl ([(⟨1,0,0,bZ⟩:aQ),(⟨2,0,0,bZ⟩:aQ),(⟨3,0,0,B⟩:aQ)]:List aQ)) jH pv 2 1 pl [(⟨1,0,0,[]⟩:aT),(⟨2,0,0,[]⟩:aT),(⟨3,0,0,[1]⟩:aT)] _ (λ_ e=>⟨(u.ext e).p1.eI,(u.ext e).eU⟩) (V.mono λ_ h=>h.1) qg ⟨_,λ_ h=>⟨h.2,(pK (M 1 0 0 _ h.1) (pK (M 2 0 0 _ h.1) (pK (W _ h.1) gU.nil)))⟩⟩ ea ea r1) ?_))))
 rintro _ _ ⟨G,ov0,rfl,E⟩;have u:=(u.made E).split;refine aJ rfl (aJ rfl (aJ rfl (aJ rfl (aM u mZ λa7 _ u=>aH (x:=G) u fr rfl rfl λ_ u=>have u:=u.p3.drop;aE (x:=pv) fW u.p7.At (aE (x:=(⟨1,0,0,bZ⟩:aQ)) oG u.p6.At (aE (x:=(⟨1,0,0,bZ⟩:aQ)) oG u.p6.At (bK ([(⟨1,0,0,bZ⟩:aQ),(⟨1,0,0,bZ⟩:aQ)]:List aQ) u uo rfl rfl (dP rfl) λpl _ u=>dX L6 (Ma _ (λw'=>pL J I w'/\dy (λ_=>True) w' pl ([(⟨1,0,0,bZ⟩:aQ),(⟨1,0,0,bZ⟩:aQ)]:List aQ)) jH pv 2 1 pl [(⟨1,0,0,[]⟩:aT),(⟨1,0,0,[]⟩:aT)] _ (λ_ e=>⟨(u.ext e).p4.eI,(u.ext e).eU⟩) (V.mono λ_ h=>h.1) qg ⟨_,λ_ h=>⟨h.2,(pK (M 1 0 0 _ h.1) (pK (M 1 0 0 _ h.1) gU.nil))⟩⟩ ea ea r2) ?_)))))))
 rintro _ _ ⟨eb,Rp,rfl,E⟩;have u:=(u.made E).split;refine aJ rfl (aJ rfl (aJ rfl (aJ rfl (aM u mZ λb11 _ u=>aH (x:=eb) u fr rfl rfl λ_ u=>have u:=u.p3.drop.p2.drop;aE (x:=pv) fW u.p9.At (aE (x:=(⟨1,0,0,bZ⟩:aQ)) oG u.p8.At (aE (x:=(⟨2,0,0,bZ⟩:aQ)) oG u.p7.At (aE (x:=(⟨3,0,0,B⟩:aQ)) oG u.p6.At (bK ([(⟨1,0,0,bZ⟩:aQ),(⟨2,0,0,bZ⟩:aQ),(⟨3,0,0,B⟩:aQ)]:List aQ) u uo rfl rfl (dP rfl) λpl _ u=>dX L6 (Ma _ (λw'=>pL J I w'/\dy (λ_=>True) w' pl ([(⟨1,0,0,bZ⟩:aQ),(⟨2,0,0,bZ⟩:aQ),(⟨3,0,0,B⟩:aQ)]:List aQ)) jH pv 2 0 pl [(⟨1,0,0,[]⟩:aT),(⟨2,0,0,[]⟩:aT),(⟨3,0,0,[1]⟩:aT)] _ (λ_ e=>⟨(u.ext e).p6.eI,(u.ext e).eU⟩) (V.mono λ_ h=>h.1) qg ⟨_,λ_ h=>⟨h.2,(pK (M 1 0 0 _ h.1) (pK (M 2 0 0 _ h.1) (pK (W _ h.1) gU.nil)))⟩⟩ ea ea r3) ?_))))))))
 rintro _ _ ⟨e3,ov2,rfl,E⟩;have u:=(u.made E).split;refine aJ rfl (aJ rfl (aJ rfl (aJ rfl (aM u mZ λb15 _ u=>aH (x:=e3) u fr rfl rfl λ_ u=>have u:=u.p3.drop.p2.drop.p1.drop.drop;aE (x:=pv) fW u.p9.At (aE (x:=(⟨1,0,0,bZ⟩:aQ)) oG u.p8.At (aE (x:=(⟨3,0,0,B⟩:aQ)) oG u.p6.At (bK ([(⟨1,0,0,bZ⟩:aQ),(⟨3,0,0,B⟩:aQ)]:List aQ) u uo rfl rfl (dP rfl) λpl _ u=>dX L6 (Ma _ (λw'=>pL J I w'/\dy (λ_=>True) w' pl ([(⟨1,0,0,bZ⟩:aQ),(⟨3,0,0,B⟩:aQ)]:List aQ)) jH pv 2 1 pl [(⟨1,0,0,[]⟩:aT),(⟨3,0,0,[1]⟩:aT)] _ (λ_ e=>⟨(u.ext e).p6.eI,(u.ext e).eU⟩) (V.mono λ_ h=>h.1) qg ⟨_,λ_ h=>⟨h.2,(pK (M 1 0 0 _ h.1) (pK (W _ h.1) gU.nil))⟩⟩ ea ea r4) ?_)))))))
 rintro _ _ ⟨e4,ov3,rfl,E⟩;have u:=(u.made E).split;refine aJ rfl (aJ rfl (aJ rfl (aJ rfl (aM u mZ λb19 _ u=>aH (x:=e4) u fr rfl rfl λ_ u=>have u:=u.p3.drop.p2.drop.p1.drop.drop;aE (x:=pv) fW u.p9.At (dX L6 (Ma _ (pL J I) jH pv 2 9 (.slice none 0 0) [] _ (λ_ e=>(u.ext e).p5.eI) V qg (V3.nil _) ea ea r5) ?_)))));rintro _ _ ⟨e5,ov4,rfl,E⟩;have u:=(u.made E).split;refine aJ rfl (aJ rfl (aJ rfl (aJ rfl (aM u mZ λb23 _ u=>aH (x:=e5) u fr rfl rfl λ_ u=>have u:=u.p2.drop.p1.drop.drop;aE (x:=pv) fW u.p9.At (dX L6 (Ma _ (pL J I) jH pv 2 0 (.slice none 0 0) [] _ (λ_ e=>(u.ext e).p5.eI) V qg (V3.nil _) ea ea r6) ?_)))))
 rintro _ _ ⟨U,ov5,rfl,E⟩;have u:=(u.made E).split;refine aJ rfl (aJ rfl (aJ rfl (aJ rfl (aM u mZ λc27 _ u=>aH (x:=U) u fr rfl rfl λ_ u=>?_))));have u:=u.p2.drop;refine⟨λjv w'=>jv=.bool true/\Ext w w',?_,?_⟩;rotate_left
 .rintro _ _ h _;exact h
 refine aE (x:=G) fr u.p4.At (bK ([1]:List Int) u dz rfl rfl (dP rfl) λz1 _ u=>?_);obtain⟨s1,rfl⟩:=u.gu;refine pop (FP 2 1 _ _ _) ?_;have Rl:l2 _ (⟨2,0,1,s1⟩:aQ) (⟨2,0,1,[1]⟩:aT):=e0 _ _ _ _ u.eU;refine aR Q5 u (C11 (⟨2,0,1,[1]⟩:aT) G (⟨2,0,1,[1]⟩:aT) (⟨2,0,1,s1⟩:aQ) _ u.p6.eI Rl ea ea) (λ_ O u=>gT ea (have u:=u.drop;aI Gs u.p6.eU ?_));rw[Z];refine aG (aC (λ_=>?_) λh=>absurd rfl h);refine aG (aC (λ_=>?_) λh=>absurd rfl h);refine aE (x:=eb) fr u.p2.At (bK ([0]:List Int) u dz rfl rfl (dP rfl) λz2 _ u=>?_)
 obtain⟨s2,rfl⟩:=u.gu;refine pop (FN 3 1 _ _ _) ?_;have ZQ:l2 _ (⟨3,1,0,s2⟩:aQ) (⟨3,1,0,[0]⟩:aT):=e0 _ _ _ _ u.eU;refine aR Q5 u (C11 (⟨3,1,0,[0]⟩:aT) eb (⟨3,1,0,[0]⟩:aT) (⟨3,1,0,s2⟩:aQ) _ u.p4.eI ZQ ea ea) (λ_ O u=>gT ea (have u:=u.drop;aG (aC (λ_=>?_) λh=>absurd rfl h)));refine aG (aC (λ_=>?_) λh=>absurd rfl h);refine aG (aC (λ_=>?_) λh=>absurd rfl h);refine aG (aC (λ_=>?_) λh=>absurd rfl h);refine aG (aC (λ_=>?_) λh=>absurd rfl h);refine aG (aC (λ_=>?_) λh=>absurd rfl h)
 refine aE (x:=U) fr u.At (bK ([0]:List Int) u dz rfl rfl (dP rfl) λz3 _ u=>?_);obtain⟨s3,rfl⟩:=u.gu;refine pop (Up _ _ _) ?_;have Y:l2 _ (⟨0,0,0,s3⟩:aQ) (⟨0,0,0,[0]⟩:aT):=e0 _ _ _ _ u.eU;refine aR Q5 u (C11 (⟨0,0,0,[0]⟩:aT) U (⟨0,0,0,[0]⟩:aT) (⟨0,0,0,s3⟩:aQ) _ u.p2.eI Y ea ea) (λ_ O u=>gT ea (have u:=u.drop;aG (aC (λ_=>?_) λh=>absurd rfl h)));refine aE (x:=G) fr u.p4.At (aR pl7 u (C7 (⟨2,0,1,[1]⟩:aT) G _ u.p5.eI) λ_ O u=>gT ea (aE (x:=U) fr u.At (aR pl7 u (C7 (⟨0,0,0,[0]⟩:aT) U _ u.p1.eI) λ_ O u=>bJ (gT ea (aE (x:=U) fr u.At (aE (x:=G) fr u.p4.At (aR Rr u (C9 (⟨0,0,0,[0]⟩:aT) U (⟨2,0,1,[1]⟩:aT) G _ u.p1.eI u.p5.eI ea) λ_ O u=>gT ea (aE (x:=G) fr u.p4.At (aE (x:=G) fr u.p4.At ?_)))))))))
 refine aR Rr u (C9 (⟨2,0,1,[1]⟩:aT) G (⟨2,0,1,[1]⟩:aT) G _ u.p5.eI u.p5.eI ea) (λ_ O u=>bJ (gT ea (aR Zn u (C13 4 _) λ_ O u=>fE (aC (λ_=>?_) λh=>absurd ea h))));refine aR Zn u (C13 5 _) (λ_ O u=>fE (aC (λ_=>?_) λh=>absurd ea h));refine aE (x:=pv) fW u.p11.At (aE (x:=(⟨1,0,0,bZ⟩:aQ)) oG u.p10.At (aE (x:=(⟨3,0,0,B⟩:aQ)) oG u.p8.At (aE (x:=(⟨1,0,0,bZ⟩:aQ)) oG u.p10.At (bK ([(⟨1,0,0,bZ⟩:aQ),(⟨3,0,0,B⟩:aQ),(⟨1,0,0,bZ⟩:aQ)]:List aQ) u uo rfl rfl (dP rfl) λpl _ u=>aR aki u (C45 (λw'=>pL J I w'/\dy (λ_=>True) w' pl ([(⟨1,0,0,bZ⟩:aQ),(⟨3,0,0,B⟩:aQ),(⟨1,0,0,bZ⟩:aQ)]:List aQ)) jH pv 2 1 pl [(⟨1,0,0,[]⟩:aT),(⟨3,0,0,[1]⟩:aT),(⟨1,0,0,[]⟩:aT)] _ (λ_ e=>⟨(u.ext e).p8.eI,(u.ext e).eU⟩) (V.mono λ_ h=>h.1) qg ⟨_,λ_ h=>⟨h.2,(pK (M 1 0 0 _ h.1) (pK (W _ h.1) (pK (M 1 0 0 _ h.1) gU.nil)))⟩⟩ ea ea) λ_ O u=>?_))))
 rw[r7];exact aG ⟨rfl,u.aF⟩
variable (w:World) (K:Value->hM)
def S3(a0 b1 Z:Value):Prop:=
 lW hH (pQ 24 a0) w λB a=>lW hH (pQ 24 b1) a λb4 b=>fA 24 B 3 λc=>lA 22 c b λd=>fA 24 B 3 λe=>lA 22 e b λf=>lN 22 f λg=>
 dW hH (Builtin.min_ #[3,3] 3 [g,(i 10)].toArray) λh=>dW hH (mA 22 d none (some h) none) λj=>fA 24 B 3 λk=>sA 22 k j b λl=>fA 24 b4 3 λn=>
 lA 22 n l λo=>fA 24 b4 3 λp=>lA 22 p l λq=>lN 22 q λr=>dW hH (Builtin.min_ #[3,3] 3 [r,(i 10)].toArray) λs=>dW hH (mA 22 o none (some s) none) λt=>
 fA 24 b4 3 λu=>sA 22 u t l λv=>eo (λI=>lA 24 B (drew v) λx=>lA 24 B (drew v) λy=>cF 7 [x] (drew v) λz O=>kA 24 B y O (cF 8 [y] O λab G=>bA .eql 4 z ab λad=>
 cV ad (lA 24 B G λae=>lA 24 b4 G λaf=>lA 24 B G λV=>lA 24 b4 G λM=>cF 9 [ae,af] G λai J=>kA 24 B V J (kA 24 b4 M J (cF 10 [V,M] J λak al=>
 bA .eql 4 ai ak λam=>cV am (lA 24 B al λan=>lA 24 b4 al λao=>lA 24 B al λap=>lA 24 b4 al λU=>cF 11 [an,ao] al λar E=>kA 24 B ap E (kA 24 b4 U E (cF 12 [ap,U] E λau W=>
 bA .eql 4 ar au λaw=>cV aw (cF 13 [Z] W λax ay=>cF 14 [Z] ay λaz Y=>bA .eql 9 ax az λa2=>cV a2 (cF 15 [] Y λa4 a5=>I a4 a5) (I ff Y)) (I ff W)))) (
 I ff al)))) (I ff G))) (λa6 a7=>∀_:Env,
 K a6 a7)
def P3:dI:=λi=>match i with
 | 3=>(.of [(0,[]),(2,[]),(1,[2]),(3,[]),(4,[]),(5,[]),(6,[]),(7,[]),(9,[]),(10,[]),(8,[9,10]),(11,[]),(12,[]),(13,[]),(14,[]),(15,[]),(16,[]),(18,[]),(19,[]),(17,[18,19]),(20,[]),(21,[]),(22,[]),(23,[]),(24,[]),(26,[]),(25,[]),(27,[]),(28,[]),(29,[]),(30,[]),(31,[]),(32,[]),(33,[])])
 | _=>.nil
theorem aeZ(u b1 B:Value)(h:S3 w K u b1 B):CR 3 [u,b1,B] w K:=
 lE 56 P3 64 [.tmp 6] Tryz.func3 h
def S4(a0 b1 c2:Value):Prop:=
 lW hH (pQ 24 a0) w λB a=>lW hH (pQ 24 b1) a λb4 b=>lW hH (pQ 24 c2) b λI c=>fA 24 B 3 λd=>lA 22 d c λe=>fA 24 B 3 λf=>
 lA 22 f c λg=>lN 22 g λh=>dW hH (Builtin.min_ #[3,3] 3 [h,(i 10)].toArray) λj=>dW hH (mA 22 e none (some j) none) λk=>fA 24 B 3 λl=>
 sA 22 l k c λn=>fA 24 b4 3 λo=>lA 22 o n λp=>fA 24 b4 3 λq=>lA 22 q n λr=>lN 22 r λs=>dW hH (Builtin.min_ #[3,3] 3 [s,(i 10)].toArray) λt=>dW hH (mA 22 p none (some t) none) λu=>
 fA 24 b4 3 λv=>sA 22 v u n λx=>fA 24 I 3 λy=>lA 22 y x λz=>fA 24 I 3 λaa=>lA 22 aa x λab=>lN 22 ab λac=>dW hH (Builtin.min_ #[3,3] 3 [ac,(i 10)].toArray) λad=>
 dW hH (mA 22 z none (some ad) none) λae=>fA 24 I 3 λaf=>sA 22 af ae x λV=>eo (λK1=>lA 24 B V λah=>lA 24 b4 V λai=>cF 9 [ah,ai] V λaj Z=>
 cV aj (bB .add 3 (i 0) (i 1) λal=>K1 al Z) (K1 (i 0) Z)) (λn7 Y=>∀_:Env,
 eo (λK2=>lA 24 b4 Y λan=>lA 24 B Y λao=>cF 9 [an,ao] Y λap aq=>cV ap (bB .add 3 n7 (i 1) λar=>K2 ar aq) (K2 n7 aq)) (λJ E=>∀_:Env,
 eo (λK3=>lA 24 B E λau=>lA 24 b4 E λav=>cF 11 [au,av] E λaw ax=>cV aw (bB .add 3 J (i 1) λay=>K3 ay ax) (K3 J ax)) (λW U=>∀_:Env,
 eo (λG=>bB .eql 3 W (i 1) λa1=>cV a1 (lA 24 B U λa2=>lA 24 b4 U λa4=>cF 9 [a2,a4] U λa5 M=>dW hH (Op.unary .not a5) λa7=>cV a7 (cF 15 [] M λa8 a9=>
 G a8 a9) (lA 24 b4 M λba=>lA 24 I M λbb=>cF 9 [ba,bb] M λbc O=>dW hH (Op.unary .not bc) λbe=>cV be (cF 15 [] O λbf bg=>G bf bg) (lA 24 B O λbh=>
 lA 24 I O λbi=>cF 9 [bh,bi] O λbj bk=>cV bj (cF 15 [] bk λbl bm=>G bl bm) (G ff bk)))) (G ff U)) (λbn bo=>∀_:Env,
 K bn bo))))
theorem ae1(B b1 u:Value)(h:S4 w K B b1 u):CR 4 [B,b1,u] w K:=
 lE 69 (λ_=>.nil) 64 [.tmp 6] Tryz.func4 h
def S10(a0 b1:Value):Prop:=
 lW hH (pQ 24 a0) w λE a=>lW hH (pQ 24 b1) a λb3 b=>fA 24 E 0 λc=>lA 3 c b λd=>fA 24 b3 0 λe=>lA 3 e b λf=>bA .neq 3 d f λg=>
 cV g (fA 24 E 0 λh=>lA 3 h b λj=>fA 24 b3 0 λk=>lA 3 k b λl=>bA .lss 3 j l λn=>K n b) (fA 24 E 1 λo=>lA 3 o b λp=>fA 24 b3 1 λq=>lA 3 q b λr=>
 bA .neq 3 p r λs=>cV s (fA 24 E 1 λt=>lA 3 t b λu=>fA 24 b3 1 λv=>lA 3 v b λx=>bA .lss 3 u x λy=>K y b) (fA 24 E 2 λz=>lA 3 z b λaa=>fA 24 b3 2 λV=>
 lA 3 V b λac=>bA .neq 3 aa ac λad=>cV ad (fA 24 E 2 λae=>lA 3 ae b λaf=>fA 24 b3 2 λag=>lA 3 ag b λU=>bA .lss 3 af U λai=>K ai b) (jC (λM G I=>∀_:Env,
 eo (λO=>fA 24 E 3 λak=>lA 22 ak I λal=>lN 22 al λam=>bA .lss 3 G am λan=>cV an (fA 24 b3 3 λao=>lA 22 ao I λap=>lN 22 ap λaq=>bA .lss 3 G aq λar=>
 O ar I) (O ff I)) (λJ B=>∀_:Env,
 cV J (fA 24 E 3 λav=>lA 22 av (drew B) λaw=>iA 22 aw G λax=>lA 3 ax (drew B) λay=>fA 24 b3 3 λaz=>lA 22 az (drew B) λa1=>iA 22 a1 G λa3=>lA 3 a3 (drew B) λa4=>
 bA .neq 3 ay a4 λa5=>cV a5 (fA 24 E 3 λa6=>lA 22 a6 (drew (drew B)) λa7=>iA 22 a7 G λW=>lA 3 W (drew (drew B)) λa9=>fA 24 b3 3 λba=>lA 22 ba (drew (drew B)) λbb=>
 iA 22 bb G λbc=>lA 3 bc (drew (drew B)) λbd=>bA .lss 3 a9 bd λY=>K Y (drew (drew B))) (bB .add 3 G (i 1) λbf=>M bf (drew B))) (fA 24 E 3 λbg=>lA 22 bg B λbh=>
 lN 22 bh λZ=>fA 24 b3 3 λbj=>lA 22 bj B λbk=>lN 22 bk λbl=>bA .lss 3 Z bl λbm=>K bm B))) λM=>M (i 0) b)))
def RT:dI:=λi=>match i with
 | 10=>.run 0 11
 | 11=>.run 0 12
 | _=>.nil
theorem Zu(u b1:Value)(h:S10 w K u b1):CR 10 [u,b1] w K:=
 lE 79 RT 16 [.tmp 4] Tryz.func10 h
def S14(u:Value):Prop:=
 eo (λB=>bB .lss 3 u (i 0) λa=>cV a (B tt w) (bB .gtr 3 u (i 4) λb=>B b w)) (λc d=>∀_:Env,
 cV c (K (Go.Value.string (hZ (#[]))) d) (bS 86 5 [(0,(Go.Value.string (hZ (#[111,112,101,110])))),(1,(Go.Value.string (hZ (#[115,97,102,101])))),(2,(Go.Value.string (hZ (#[99,108,97,105,109])))),(3,(Go.Value.string (hZ (#[102,97,117,108,116])))),(4,(Go.Value.string (hZ (#[115,116,117,99,107]))))] d λe f=>
 iA 86 e u λg=>lA 9 g f λh=>K h f))
theorem Zv(u:Value)(h:S14 w K u):CR 14 [u] w K:=
 lE 13 (λ_=>.nil) 4 [.tmp 2] Tryz.func14 h
theorem akw:PL 10:=dF Tryz.func10
theorem akx:PL 14:=dF Tryz.func14
end Go.Proofs.YtdncbeepkacgbaaGreatDoor
namespace Go.Proofs.YtdncbeepkacgbaaGreatDoor
open Go.Fw
def ae2{a b:aT}(h:¬ a.kind=b.kind):decide (a.kind<b.kind)=gi a b:=by
 unfold gi;simp only[EO,sk];rw[fw,ez h]
def ae3{a b:aT}(h1:a.kind=b.kind)(h:¬ a.t=b.t):decide (a.t<b.t)=gi a b:=by
 unfold gi;simp only[EO,sk];rw[fw,fi h1,fw,ez h]
def ae4{a b:aT}(h1:a.kind=b.kind)(h2:a.t=b.t)(h:¬ a.i=b.i):decide (a.i<b.i)=gi a b:=by
 unfold gi;simp only[EO,sk];rw[fw,fi h1,fw,fi h2,fw,ez h]
def V8{a b:aT}(h1:a.kind=b.kind)(h2:a.t=b.t)(h3:a.i=b.i):fw a.cut b.cut=gi a b:=by
 unfold gi;simp only[EO,sk];rw[fw,fi h1,fw,fi h2,fw,fi h3]
def Q8{l m:List Int}{k:Nat}{a b:Int}(h:l[k]?=some a)(h2:m[k]?=some b)(hc:a=b):fw (l.drop k) (m.drop k)=fw (l.drop (k+1)) (m.drop (k+1)):=by
 rw[lD h,lD h2,fw,fi hc]
def Q9{l m:List Int}{k:Nat}{a b:Int}(h:l[k]?=some a)(h2:m[k]?=some b)(hc:¬ a=b):fw (l.drop k) (m.drop k)=decide (a<b):=by
 rw[lD h,lD h2,fw,ez hc]
def Mb{l m:List Int}{k:Nat}(h:¬ (k<l.length/\k<m.length))(h1:k<=l.length)(h2:k<=m.length):fw (l.drop k) (m.drop k)=decide (l.length<m.length):=by
 by_cases e:k<l.length
 .obtain⟨a,B⟩:∃a,l[k]?=some a:=⟨_,j0 e⟩
  rw[lD B,ou (show m.length<=k by omega),fw];exact(ga bP).symm
 rw[ou (show l.length<=k by omega)]
 by_cases u:k<m.length
 .obtain⟨b,hb⟩:∃b,m[k]?=some b:=⟨_,j0 u⟩
  rw[lD hb,fw];exact(fj bP).symm
 rw[ou (show m.length<=k by omega),fw];exact(ga bP).symm
def nb(b:Bool):Int:=if b=true then 1 else 0
theorem nb1{b:Bool}(h:b=true):nb b=1:=fi h
theorem nb0{b:Bool}(h:b=false):nb b=0:=ez (by rw[h];exact Bool.false_ne_true)
theorem Zw(a b:aT):nb (gi a b)+nb (gi b a)+nb (BH a b)=1:=by
 rw[BI]
 cases h1:gi a b with
 | true=>rw[L7 h1];rfl
 | false=>cases h2:gi b a<;>rfl
def C10(a:aT)(av:aQ)(b:aT)(bv:aQ)(w:World)(ha:l2 w av a)(hb:l2 w bv b)(hn:a.cut.length<=1073741824):CR 10 [ia av,ia bv] w (λv w'=>v=.bool (gi a b)/\Ext w w'):=by
 obtain⟨lO,rfl,Z⟩:=ha;obtain⟨lP,rfl,M⟩:=hb;have u:=St.start w;refine Zu _ _ _ _ ?_;unfold S10;refine bY u (λZr _ u=>bY u λZs _ u=>aA gR (aB (v:=hU a.kind) bL u.p1.hb rfl (aA gR (aB (v:=hU b.kind) bL u.hb rfl (cC (aC (λgG=>aA gR (aB (v:=hU a.kind) bL u.p1.hb rfl (aA gR (aB (v:=hU b.kind) bL u.hb rfl (aS (have u:=u.drop.drop;⟨vb (ae2 gG),u.aF⟩)))))) λgG=>aA lQ (aB (v:=hU a.t) bL u.p1.hb rfl (aA lQ (aB (v:=hU b.t) bL u.hb rfl (cC (aC (λkx=>aA lQ (aB (v:=hU a.t) bL u.p1.hb rfl (aA lQ (aB (v:=hU b.t) bL u.hb rfl (aS (have u:=u.drop.drop;⟨vb (ae3 bP kx),u.aF⟩)))))) λkx=>aA n4 (aB (v:=hU a.i) bL u.p1.hb rfl (aA n4 (aB (v:=hU b.i) bL u.hb rfl (cC (aC (λlg=>aA n4 (aB (v:=hU a.i) bL u.p1.hb rfl (aA n4 (aB (v:=hU b.i) bL u.hb rfl (aS (have u:=u.drop.drop;⟨vb (ae4 bP bP lg),u.aF⟩)))))) λlg=>?_))))))))))))))))
 have u:=u.p1;refine⟨λmm i w'=>∃k:Nat,i=hU (k:Int)/\mm=a.cut.length-k/\k<=a.cut.length/\k<=b.cut.length/\fw a.cut b.cut=fw (a.cut.drop k) (b.cut.drop k)/\St w bF [bM Zr (iW (⟨a.kind,a.t,a.i,lO⟩:aQ)),bM Zs (iW (⟨b.kind,b.t,b.i,lP⟩:aQ))] w',⟨_,0,rfl,rfl,mr _,mr _,rfl,u⟩,?_⟩;rintro mm _ w3 ⟨k,rfl,rfl,hk,I6,B,u⟩ _;refine⟨λjv w'=>jv=.bool (decide (k<a.cut.length/\k<b.cut.length))/\w3=w',?_,?_⟩
 .refine aA eN (aB ek u.hb rfl ?_);have akA:=DL.flat Z;refine aI dz (akA.ext u.aF) (aS (aC (λBa=>?_) λ_=>⟨Rc bP,rfl⟩));refine aA eN (aB ek u.p1.hb rfl ?_);have akB:=DL.flat M;exact aI dz (akB.ext u.aF) (aS ⟨xr bP,rfl⟩)
 rintro _ _ ⟨rfl,hw⟩ _;subst hw;refine aC (λqE=>?_) (λqE=>?_)
 .refine aA eN (have u:=u.drew;aB ek u.hb rfl ?_);have G:=DL.flat Z;obtain⟨W,J⟩:=gx a.cut (i:=(k:Int).toNat) bP;refine aZ dz G bP J (λ_ O=>aE bL (O.ext u.aF) (aA eN (aB ek u.p1.hb rfl ?_)));have E:=DL.flat M;obtain⟨V,I⟩:=gx b.cut (i:=(k:Int).toNat) bP;exact aZ dz E bP I (λ_ FC=>aE bL (FC.ext u.aF) (cC (aC (λIY=>aA eN (have u:=u.drew;aB ek u.hb rfl (aZ dz G bP J λ_ Y=>aE bL (Y.ext u.aF) (aA eN (aB ek u.p1.hb rfl (aZ dz E bP I λ_ ae9=>aE bL (ae9.ext u.aF) (aS (have u:=u.drop.drop;⟨vb (((V8 bP bP bP).symm.trans (B.trans (Q9 J I IY))).symm),u.aF⟩)))))))) λ_=>aK bP ⟨_,bP,k+1,rfl,rfl,bP,bP,B.trans (Q8 J I bP),u⟩)))
 refine aA eN (aB ek u.hb rfl ?_);have U:=DL.flat Z;refine aI dz (U.ext u.aF) (aA eN (aB ek u.p1.hb rfl ?_));have akD:=DL.flat M;exact aI dz (akD.ext u.aF) (aS (have u:=u.drop.drop;⟨vb (((V8 bP bP bP).symm.trans (B.trans ((Mb qE hk I6).trans (gh.2 bP)))).symm),u.aF⟩))
def C14(k:Int)(w:World):CR 14 [hU k] w (λv w'=>v=.string (BK k)/\Ext w w'):=by
 have u:=St.start w;refine Zv _ _ _ ?_;unfold S14;refine⟨λG w'=>G=.bool (decide (k<0\/5<=k))/\w=w',aS (aC (λ_=>⟨FT bP,rfl⟩) λ_=>dL ⟨xr bP,rfl⟩),?_⟩;rintro _ _ ⟨rfl,O⟩ _;subst O;refine aC (λB=>⟨gj tO (by unfold BK;rw[fi B]),u.aF⟩) (λB=>bK ([(hZ #[111,112,101,110]),(hZ #[115,97,102,101]),(hZ #[99,108,97,105,109]),(hZ #[102,97,117,108,116]),(hZ #[115,116,117,99,107])]) u iR rfl rfl (dP rfl) λI _ u=>?_);have J:([(hZ #[111,112,101,110]),(hZ #[115,97,102,101]),(hZ #[99,108,97,105,109]),(hZ #[102,97,117,108,116]),(hZ #[115,116,117,99,107])]).length=5:=rfl
 obtain⟨U,E⟩:=gx ([(hZ #[111,112,101,110]),(hZ #[115,97,102,101]),(hZ #[99,108,97,105,109]),(hZ #[102,97,117,108,116]),(hZ #[115,116,117,99,107])]) (i:=k.toNat) bP;exact ed u iR bP bP (λ_ M=>gP u j3 M E (have u:=u.drop;⟨gj tO (by unfold BK;rw[ez B,List.getD_eq_getElem?_getD];exact(gj (λo=>Option.getD o (hZ #[])) E).symm),u.aF⟩))
def akE(a:aT)(B:aQ)(b:aT)(u:aQ)(w:World)(E:l2 w B a)(hb:l2 w u b)(G:a.cut.length<=1073741824):Calls hH 12 [ia B,ia u].toArray w (oV λv w'=>v=.bool (BH a b)/\Ext w w'):=C12 a B b u w E hb G
def C3(a:aT)(W:aQ)(b:aT)(V:aQ)(k:Int)(w:World)(ha:l2 w W a)(hb:l2 w V b):CR 3 [ia W,ia V,hU k] w (λv w'=>v=.bool true/\Ext w w'):=by
 obtain⟨lO,rfl,gK⟩:=ha;obtain⟨lP,rfl,Y⟩:=hb;have u:=St.start w;refine aeZ _ _ _ _ _ ?_;unfold S3;refine bY u (λUs _ u=>bY u λUt _ u=>aA eN (aB ek u.p1.hb rfl ?_));have O:=DL.flat gK;refine aA eN (aB ek u.p1.hb rfl (aI dz (O.ext u.aF) (sg (hG dz (O.ext u.aF) bP bP λU Z=>?_))));have B:=Z _ O;refine aA eN ?_;obtain⟨E,rfl⟩:=B.gu;refine aO u.p1 ek (dP rfl) (rfl) (λ_ u=>have u:=u.enc (cs':=iW (⟨a.kind,a.t,a.i,E⟩:aQ)) rfl;aA eN (aB ek u.p1.hb rfl ?_))
 have M:=DL.flat Y;refine aA eN (aB ek u.p1.hb rfl (aI dz (M.ext u.aF) (sg (hG dz (M.ext u.aF) bP bP λaeX ZA=>?_))));have I:=ZA _ M;refine aA eN ?_;obtain⟨G,rfl⟩:=I.gu;refine aO u.p1 ek (dP rfl) (rfl) (λ_ u=>have u:=u.enc (cs':=iW (⟨b.kind,b.t,b.i,G⟩:aQ)) rfl;⟨λjv w'=>jv=.bool true/\St w bF [] w',?_,?_⟩)
 .have u:=u.drew;refine aE fr u.p1.At (aE fr u.p1.At (aR pl7 u (C7 (⟨a.kind,a.t,a.i,(a.cut.take (min (a.cut.length:Int) 10).toNat)⟩:aT) _ _ (show l2 _ (⟨a.kind,a.t,a.i,E⟩:aQ) (⟨a.kind,a.t,a.i,(a.cut.take (min (a.cut.length:Int) 10).toNat)⟩:aT)from⟨_,rfl,DL.eO (B.ext u.aF)⟩)) λ_ J u=>?_));refine⟨jk fr u.p1.At,?_⟩;refine aR pl8 u (C8 (⟨a.kind,a.t,a.i,(a.cut.take (min (a.cut.length:Int) 10).toNat)⟩:aT) _ _ (show l2 _ (⟨a.kind,a.t,a.i,E⟩:aQ) (⟨a.kind,a.t,a.i,(a.cut.take (min (a.cut.length:Int) 10).toNat)⟩:aT)from⟨_,rfl,DL.eO (B.ext u.aF)⟩)) (λ_ J u=>ug RY (gT ew (aE fr u.p1.At (aE fr u.At (aE fr u.p1.At (aE fr u.At (aR Rr u (C9 (⟨a.kind,a.t,a.i,(a.cut.take (min (a.cut.length:Int) 10).toNat)⟩:aT) _ (⟨b.kind,b.t,b.i,(b.cut.take (min (b.cut.length:Int) 10).toNat)⟩:aT) _ _ (show l2 _ (⟨a.kind,a.t,a.i,E⟩:aQ) (⟨a.kind,a.t,a.i,(a.cut.take (min (a.cut.length:Int) 10).toNat)⟩:aT)from⟨_,rfl,DL.eO (B.ext u.aF)⟩) (show l2 _ (⟨b.kind,b.t,b.i,G⟩:aQ) (⟨b.kind,b.t,b.i,(b.cut.take (min (b.cut.length:Int) 10).toNat)⟩:aT)from⟨_,rfl,DL.eO (I.ext u.aF)⟩) (by simp;omega)) λ_ J u=>?_)))))))
  refine⟨jk fr u.p1.At,?_⟩;refine⟨jk fr u.At,?_⟩;refine aR akw u (C10 (⟨a.kind,a.t,a.i,(a.cut.take (min (a.cut.length:Int) 10).toNat)⟩:aT) _ (⟨b.kind,b.t,b.i,(b.cut.take (min (b.cut.length:Int) 10).toNat)⟩:aT) _ _ (show l2 _ (⟨a.kind,a.t,a.i,E⟩:aQ) (⟨a.kind,a.t,a.i,(a.cut.take (min (a.cut.length:Int) 10).toNat)⟩:aT)from⟨_,rfl,DL.eO (B.ext u.aF)⟩) (show l2 _ (⟨b.kind,b.t,b.i,G⟩:aQ) (⟨b.kind,b.t,b.i,(b.cut.take (min (b.cut.length:Int) 10).toNat)⟩:aT)from⟨_,rfl,DL.eO (I.ext u.aF)⟩) (by simp;omega)) (λ_ J u=>ug RY (gT ew (aE fr u.p1.At (aE fr u.At (aE fr u.p1.At (aE fr u.At (aR Q5 u (C11 (⟨a.kind,a.t,a.i,(a.cut.take (min (a.cut.length:Int) 10).toNat)⟩:aT) _ (⟨b.kind,b.t,b.i,(b.cut.take (min (b.cut.length:Int) 10).toNat)⟩:aT) _ _ (show l2 _ (⟨a.kind,a.t,a.i,E⟩:aQ) (⟨a.kind,a.t,a.i,(a.cut.take (min (a.cut.length:Int) 10).toNat)⟩:aT)from⟨_,rfl,DL.eO (B.ext u.aF)⟩) (show l2 _ (⟨b.kind,b.t,b.i,G⟩:aQ) (⟨b.kind,b.t,b.i,(b.cut.take (min (b.cut.length:Int) 10).toNat)⟩:aT)from⟨_,rfl,DL.eO (I.ext u.aF)⟩) (by simp;omega) (by simp;omega)) λ_ J u=>?_)))))))
  refine⟨jk fr u.p1.At,?_⟩;refine⟨jk fr u.At,?_⟩;exact aR akn u (akE (⟨a.kind,a.t,a.i,(a.cut.take (min (a.cut.length:Int) 10).toNat)⟩:aT) _ (⟨b.kind,b.t,b.i,(b.cut.take (min (b.cut.length:Int) 10).toNat)⟩:aT) _ _ (show l2 _ (⟨a.kind,a.t,a.i,E⟩:aQ) (⟨a.kind,a.t,a.i,(a.cut.take (min (a.cut.length:Int) 10).toNat)⟩:aT)from⟨_,rfl,DL.eO (B.ext u.aF)⟩) (show l2 _ (⟨b.kind,b.t,b.i,G⟩:aQ) (⟨b.kind,b.t,b.i,(b.cut.take (min (b.cut.length:Int) 10).toNat)⟩:aT)from⟨_,rfl,DL.eO (I.ext u.aF)⟩) (by simp;omega)) (λ_ _ u=>ug RY (gT ew (aR Zn u (C13 _ _) λ_ _ u=>aR akx u (C14 _ _) λ_ _ u=>fE (gT ew (aR Uo u (C15 _) λ_ _ u=>have u:=u.drop.drop;⟨rfl,u⟩)))))
 rintro _ _ ⟨rfl,u⟩ _;exact⟨rfl,u.aF⟩
def C4(a:aT)(av:aQ)(b:aT)(bv:aQ)(c:aT)(cv:aQ)(w:World)(ha:l2 w av a)(hb:l2 w bv b)(hc:l2 w cv c):CR 4 [ia av,ia bv,ia cv] w (λv w'=>v=.bool true/\Ext w w'):=by
 obtain⟨lO,rfl,gK⟩:=ha;obtain⟨lP,rfl,gL⟩:=hb;obtain⟨Z3,rfl,Mc⟩:=hc;have u:=St.start w;refine ae1 _ _ _ _ _ ?_;unfold S4;refine bY u (λUs _ u=>bY u λW _ u=>bY u λZ _ u=>aA eN (aB ek u.p2.hb rfl ?_));have ZB:=DL.flat gK;refine aA eN (aB ek u.p2.hb rfl (aI dz (ZB.ext u.aF) (sg (hG dz (ZB.ext u.aF) bP bP λs_x14 ZC=>?_))));have M:=ZC _ ZB;refine aA eN ?_;obtain⟨E,rfl⟩:=M.gu;refine aO u.p2 ek (dP rfl) (rfl) (λ_ u=>have u:=u.enc (cs':=iW (⟨a.kind,a.t,a.i,E⟩:aQ)) rfl;aA eN (aB ek u.p2.hb rfl ?_))
 have V:=DL.flat gL;refine aA eN (aB ek u.p2.hb rfl (aI dz (V.ext u.aF) (sg (hG dz (V.ext u.aF) bP bP λs_x22 ZE=>?_))));have I:=ZE _ V;refine aA eN ?_;obtain⟨B,rfl⟩:=I.gu;refine aO u.p2 ek (dP rfl) (rfl) (λ_ u=>have u:=u.enc (cs':=iW (⟨b.kind,b.t,b.i,B⟩:aQ)) rfl;aA eN (aB ek u.p2.hb rfl ?_));have Y:=DL.flat Mc;refine aA eN (aB ek u.p2.hb rfl (aI dz (Y.ext u.aF) (sg (hG dz (Y.ext u.aF) bP bP λs_x30 ZG=>?_))))
 have U:=ZG _ Y;refine aA eN ?_;obtain⟨J,rfl⟩:=U.gu;refine aO u.p2 ek (dP rfl) (rfl) (λ_ u=>have u:=u.enc (cs':=iW (⟨c.kind,c.t,c.i,J⟩:aQ)) rfl;⟨λG w'=>∃n:Int,n=nb (gi (⟨a.kind,a.t,a.i,(a.cut.take (min (a.cut.length:Int) 10).toNat)⟩:aT) (⟨b.kind,b.t,b.i,(b.cut.take (min (b.cut.length:Int) 10).toNat)⟩:aT))/\0<=n/\n<=1/\G=hU n/\St w bF [bM Us (iW (⟨a.kind,a.t,a.i,E⟩:aQ)),bM W (iW (⟨b.kind,b.t,b.i,B⟩:aQ)),bM Z (iW (⟨c.kind,c.t,c.i,J⟩:aQ))] w',aE fr u.p2.At (aE fr u.p1.At (aR Rr u (C9 (⟨a.kind,a.t,a.i,(a.cut.take (min (a.cut.length:Int) 10).toNat)⟩:aT) _ (⟨b.kind,b.t,b.i,(b.cut.take (min (b.cut.length:Int) 10).toNat)⟩:aT) _ _ (show l2 _ (⟨a.kind,a.t,a.i,E⟩:aQ) (⟨a.kind,a.t,a.i,(a.cut.take (min (a.cut.length:Int) 10).toNat)⟩:aT)from⟨_,rfl,DL.eO (M.ext u.aF)⟩) (show l2 _ (⟨b.kind,b.t,b.i,B⟩:aQ) (⟨b.kind,b.t,b.i,(b.cut.take (min (b.cut.length:Int) 10).toNat)⟩:aT)from⟨_,rfl,DL.eO (I.ext u.aF)⟩) (by simp;omega)) λ_ _ u=>bD (λO=>aK bP (have u:=u.p1.p2;⟨_,by rw[nb1 O];rfl,bP,bP,rfl,u⟩)) λO=>have u:=u.p1.p2;⟨_,by rw[nb0 O],bP,bP,rfl,u⟩)),?_⟩)
 rintro _ _ ⟨n1,SL,hn1a,hn1b,rfl,u⟩ _;refine⟨λG w'=>∃n:Int,n=nb (gi (⟨a.kind,a.t,a.i,(a.cut.take (min (a.cut.length:Int) 10).toNat)⟩:aT) (⟨b.kind,b.t,b.i,(b.cut.take (min (b.cut.length:Int) 10).toNat)⟩:aT))+nb (gi (⟨b.kind,b.t,b.i,(b.cut.take (min (b.cut.length:Int) 10).toNat)⟩:aT) (⟨a.kind,a.t,a.i,(a.cut.take (min (a.cut.length:Int) 10).toNat)⟩:aT))/\0<=n/\n<=2/\G=hU n/\St w bF [bM Us (iW (⟨a.kind,a.t,a.i,E⟩:aQ)),bM W (iW (⟨b.kind,b.t,b.i,B⟩:aQ)),bM Z (iW (⟨c.kind,c.t,c.i,J⟩:aQ))] w',aE fr u.p1.At (aE fr u.At (aR Rr u (C9 (⟨b.kind,b.t,b.i,(b.cut.take (min (b.cut.length:Int) 10).toNat)⟩:aT) _ (⟨a.kind,a.t,a.i,(a.cut.take (min (a.cut.length:Int) 10).toNat)⟩:aT) _ _ (show l2 _ (⟨b.kind,b.t,b.i,B⟩:aQ) (⟨b.kind,b.t,b.i,(b.cut.take (min (b.cut.length:Int) 10).toNat)⟩:aT)from⟨_,rfl,DL.eO (I.ext u.aF)⟩) (show l2 _ (⟨a.kind,a.t,a.i,E⟩:aQ) (⟨a.kind,a.t,a.i,(a.cut.take (min (a.cut.length:Int) 10).toNat)⟩:aT)from⟨_,rfl,DL.eO (M.ext u.aF)⟩) (by simp;omega)) λ_ _ u=>bD (λyV=>aK bP (have u:=u.p2.p2.p2;⟨_,by rw[nb1 yV];omega,bP,bP,rfl,u⟩)) λyV=>have u:=u.p2.p2.p2;⟨_,by rw[nb0 yV];omega,bP,bP,rfl,u⟩)),?_⟩
 rintro _ _ ⟨n2,VF,hn2a,hn2b,rfl,u⟩ _;refine⟨λG w'=>∃n:Int,n=nb (gi (⟨a.kind,a.t,a.i,(a.cut.take (min (a.cut.length:Int) 10).toNat)⟩:aT) (⟨b.kind,b.t,b.i,(b.cut.take (min (b.cut.length:Int) 10).toNat)⟩:aT))+nb (gi (⟨b.kind,b.t,b.i,(b.cut.take (min (b.cut.length:Int) 10).toNat)⟩:aT) (⟨a.kind,a.t,a.i,(a.cut.take (min (a.cut.length:Int) 10).toNat)⟩:aT))+nb (BH (⟨a.kind,a.t,a.i,(a.cut.take (min (a.cut.length:Int) 10).toNat)⟩:aT) (⟨b.kind,b.t,b.i,(b.cut.take (min (b.cut.length:Int) 10).toNat)⟩:aT))/\0<=n/\n<=3/\G=hU n/\St w bF [bM Us (iW (⟨a.kind,a.t,a.i,E⟩:aQ)),bM W (iW (⟨b.kind,b.t,b.i,B⟩:aQ)),bM Z (iW (⟨c.kind,c.t,c.i,J⟩:aQ))] w',aE fr u.At (aE fr u.p1.At (aR Q5 u (C11 (⟨a.kind,a.t,a.i,(a.cut.take (min (a.cut.length:Int) 10).toNat)⟩:aT) _ (⟨b.kind,b.t,b.i,(b.cut.take (min (b.cut.length:Int) 10).toNat)⟩:aT) _ _ (show l2 _ (⟨a.kind,a.t,a.i,E⟩:aQ) (⟨a.kind,a.t,a.i,(a.cut.take (min (a.cut.length:Int) 10).toNat)⟩:aT)from⟨_,rfl,DL.eO (M.ext u.aF)⟩) (show l2 _ (⟨b.kind,b.t,b.i,B⟩:aQ) (⟨b.kind,b.t,b.i,(b.cut.take (min (b.cut.length:Int) 10).toNat)⟩:aT)from⟨_,rfl,DL.eO (I.ext u.aF)⟩) (by simp;omega) (by simp;omega)) λ_ _ u=>bD (λxl=>aK bP (have u:=u.p2.p2.p2;⟨_,by rw[nb1 xl];omega,bP,bP,rfl,u⟩)) λxl=>have u:=u.p2.p2.p2;⟨_,by rw[nb0 xl];omega,bP,bP,rfl,u⟩)),?_⟩
 rintro _ _ ⟨n3,Rj,hn3a,hn3b,rfl,u⟩ _;refine⟨λG w'=>G=.bool true/\St w bF [] w',?_,?_⟩
 .refine aG (gT (fj (by have:=Zw (⟨a.kind,a.t,a.i,(a.cut.take (min (a.cut.length:Int) 10).toNat)⟩:aT) (⟨b.kind,b.t,b.i,(b.cut.take (min (b.cut.length:Int) 10).toNat)⟩:aT);omega)) (aE fr u.At (aE fr u.p1.At (aR Rr u (C9 (⟨a.kind,a.t,a.i,(a.cut.take (min (a.cut.length:Int) 10).toNat)⟩:aT) _ (⟨b.kind,b.t,b.i,(b.cut.take (min (b.cut.length:Int) 10).toNat)⟩:aT) _ _ (show l2 _ (⟨a.kind,a.t,a.i,E⟩:aQ) (⟨a.kind,a.t,a.i,(a.cut.take (min (a.cut.length:Int) 10).toNat)⟩:aT)from⟨_,rfl,DL.eO (M.ext u.aF)⟩) (show l2 _ (⟨b.kind,b.t,b.i,B⟩:aQ) (⟨b.kind,b.t,b.i,(b.cut.take (min (b.cut.length:Int) 10).toNat)⟩:aT)from⟨_,rfl,DL.eO (I.ext u.aF)⟩) (by simp;omega)) λ_ he u=>?_))))
  exact bJ (bD (λ_=>aR Uo u (C15 _) λ_ _ u=>have u:=u.drop.drop.drop;⟨rfl,u⟩) λxg=>aE fr u.p1.At (aE fr u.p2.At (aR Rr u (C9 (⟨b.kind,b.t,b.i,(b.cut.take (min (b.cut.length:Int) 10).toNat)⟩:aT) _ (⟨c.kind,c.t,c.i,(c.cut.take (min (c.cut.length:Int) 10).toNat)⟩:aT) _ _ (show l2 _ (⟨b.kind,b.t,b.i,B⟩:aQ) (⟨b.kind,b.t,b.i,(b.cut.take (min (b.cut.length:Int) 10).toNat)⟩:aT)from⟨_,rfl,DL.eO (I.ext u.aF)⟩) (show l2 _ (⟨c.kind,c.t,c.i,J⟩:aQ) (⟨c.kind,c.t,c.i,(c.cut.take (min (c.cut.length:Int) 10).toNat)⟩:aT)from⟨_,rfl,DL.eO (U.ext u.aF)⟩) (by simp;omega)) λ_ _ u=>bJ (bD (λ_=>aR Uo u (C15 _) λ_ _ u=>have u:=u.drop.drop.drop;⟨rfl,u⟩) λzN=>aE fr u.At (aE fr u.p2.At (aR Rr u (C9 (⟨a.kind,a.t,a.i,(a.cut.take (min (a.cut.length:Int) 10).toNat)⟩:aT) _ (⟨c.kind,c.t,c.i,(c.cut.take (min (c.cut.length:Int) 10).toNat)⟩:aT) _ _ (show l2 _ (⟨a.kind,a.t,a.i,E⟩:aQ) (⟨a.kind,a.t,a.i,(a.cut.take (min (a.cut.length:Int) 10).toNat)⟩:aT)from⟨_,rfl,DL.eO (M.ext u.aF)⟩) (show l2 _ (⟨c.kind,c.t,c.i,J⟩:aQ) (⟨c.kind,c.t,c.i,(c.cut.take (min (c.cut.length:Int) 10).toNat)⟩:aT)from⟨_,rfl,DL.eO (U.ext u.aF)⟩) (by simp;omega)) λ_ _ u=>gT (Ib (by simpa using xg) (by simpa using zN)) (aR Uo u (C15 _) λ_ _ u=>have u:=u.drop.drop.drop;⟨rfl,u⟩)))))))
 rintro _ _ ⟨rfl,u⟩ _;exact⟨rfl,u.aF⟩
def own:ownKnob Tryz.prog.godebug=none:=by kernel_rfl
def rd3:Sd hH 3 Int wV:=RdT.deep (Wu Tryz.underlying3 (by kernel_rfl)) λ_ _=>rfl
def akF:Sd hH 22 (List Int) (λys:(List Int)=>∀y∈ys,wV y):=Sd.slice Tryz.underlying22 (by kernel_rfl) rd3
def rd24:Sd hH 24 aT Se:=λw=>⟨by kernel_rfl,λenc base held fuel cs x h=>by
 obtain⟨W,n,u⟩:=GD Tryz.underlying24 h
 obtain⟨y0,h0⟩:=u 0 _ rfl
 obtain⟨y1,h1⟩:=u 1 _ rfl
 obtain⟨y2,h2⟩:=u 2 _ rfl
 obtain⟨y3,h3⟩:=u 3 _ rfl
 obtain⟨G,e0,O,d0,k0⟩:=(rd3 w).rd enc base held n _ _ h0
 obtain⟨E,M,Z,V,U⟩:=(rd3 w).rd enc base held n _ _ h1
 obtain⟨B,J,Y,d2,k2⟩:=(rd3 w).rd enc base held n _ _ h2
 obtain⟨I,e3,a3,d3,k3⟩:=(akF w).rd enc base held n _ _ h3
 obtain rfl:G=O:=d0
 obtain rfl:E=Z:=V
 obtain rfl:B=Y:=d2
 have p0:=si (s:=1) e0
 have p1:=si (s:=1) M
 have p2:=si (s:=1) J
 have p3:=si (s:=1) e3
 have hz:cs.drop 4=[]:=List.drop_eq_nil_iff.2 (by rw[W];exact CJ (by kernel_rfl))
 refine⟨(⟨G,E,B,I⟩:aQ),?_,(⟨G,E,B,a3⟩:aT),⟨I,rfl,d3⟩,k0,U,k2,k3⟩
 have e:cs=cs.drop 0:=rfl
 rw[e]
 refine p0.trans ?_
 refine(gj _ p1).trans ?_
 refine(gj _ (gj _ p2)).trans ?_
 refine(gj _ (gj _ (gj _ p3))).trans ?_
 exact(gj _ (gj _ (gj _ (gj _ hz))))⟩
end Go.Proofs.YtdncbeepkacgbaaGreatDoor

/-
  Part 6.
-/
import Derived.Test.YtdncbeepkacgbaaGreatDoorR3x5
set_option maxHeartbeats 8000000
set_option linter.all false
set_option maxRecDepth 100000
open ByteArray renaming mk->ia
open Go.Fw.Flat renaming val->iS,enc->jn
open List renaming getElem?_eq_some_iff->j0,getElem?_eq_getElem->kB,take_of_length_le->kO,mem_of_getElem?->l0,length_take->mg,length_singleton->nB,length_map->nP,drop_eq_nil_of_le->ot,drop_eq_getElem_cons->pd,nil_append->sk,range->tL,cons_append->F1,getElem?_range->GO,length_range->SE
open Go.Instr renaming build->l1,sliceAt->mv,box->qv,field->UF
open Go.Fw.Deep renaming dr->l3,ext->G7
open Go.Value renaming int->mf,string->uH,tuple->Nv
open Nat renaming zero_le->mj,le_of_eq->CV
open Bool renaming and_eq_true->nu,true_and->tM
open Decidable renaming not_not->BL
open Int renaming le_refl->Jt
namespace Go.Proofs.YtdncbeepkacgbaaGreatDoor
open Go.Fw
def ThK.mono{K G:hU}{E:bU}{t:bW}(h:ThK K E t)(B:∀w,G w->K w):ThK G E t:=by
 obtain⟨I,J,rows,e,h1,h2⟩:=h
 exact⟨I,J,rows,e,λw u=>h1 w (B w u),λw=>⟨λw' u=>(h2 w).1 w' (B w' u),λu=>(h2 w).2 (B w u)⟩⟩
def EX.mono{K B:hU}{u:List bU}{sj:List bW}(h:EX K u sj)(G:∀w,B w->K w):EX B u sj:=⟨h.1,λj E t h1 h2=>(h.2 j E t h1 h2).mono G⟩
def J1{p:bQ}(hc:LO p){t:bW}(ht:t∈g9 p):t.body=(Tl t.body).flat:=by
 obtain⟨_,h2,_⟩:=hc.f.sj ht
 obtain⟨_,_,b,h5,h6,_⟩:=me h2
 rw[h5,Fu h6]
def vr(K:hU)(lv:SV)(sj:List bW):Prop:=∃u,(∀w,K w->dy (λ_=>True) w (iS lv) u)/\EX K u sj
structure Me(K:hU)(pv:bZ)(p:bQ):Prop where
 pr:∀w,K w->l3 w pv p
 th:vr K pv.threads p.threads
 rc:vr K pv.recover p.recover
def Rb(m:iB)(q:bG):iB:=match ld m q with|some u=>{m with mem:=nA m.mem u}|none=>m
def J2(m:Mem)(cut:List Int)(v:Value)(u:Mem):Prop:=(gw m cut=none/\u=m/\v=hZ 1)\/∃B,gw m cut=some B/\u=nA m B/\v=hZ 0
def HQ{m:Mem}{cut:List Int}{v:Value}{p:Nat}{ov fv:Value}{F:Nat->Prop}{w w':World}
  (h:(gw m cut=none/\v=hZ 1/\mC F (fy p ov fv m) w w')\/∃u,gw m cut=some u/\v=hZ 0/\mC F (fy p ov fv (nA m u)) w w') :
  True/\mC F (oV λE=>fact (J2 m cut v E) (fy p ov fv E)) w w':=by
 refine⟨trivial,?_⟩
 rcases h with⟨h1,h2,B,h3,h4,h5⟩|⟨u,h1,h2,B,h3,h4,h5⟩
 .exact⟨B,⟨m,.inl ⟨h1,rfl,h2⟩,h3⟩,h4,h5⟩
 exact⟨B,⟨nA m u,.inr ⟨u,h1,rfl,h2⟩,h3⟩,h4,h5⟩
theorem aee(K:hU):EX K [(⟨⟨#[]⟩,bY,bY,0⟩:bU)] [⟨⟨#[]⟩,[],[],0⟩]:=by
 refine⟨rfl,λj u t h1 h2=>?_⟩
 cases j with
 | zero=>
  cases h1;cases h2
  exact⟨bY,bY,[],rfl,λw _=>dy.nil _ w,λw=>⟨λ_ _=>gQ.nil,λ_=>dy.nil _ w⟩⟩
 | succ j=>simp at h1
def C17(K:hU)(p:bQ)(pv:bZ)(room:Int)(w:World)(J:∀w',Ext w w'->K w')(G:Me K pv p)(I:PZ p):CR 17 [iS pv,hZ room] w (λv w'=>(eI p≠0/\v=.tuple #[.pointer none,hZ (eI p)]/\Ext w w')\/(eI p=0/\(room<1\/16<room)/\v=.tuple #[.pointer none,hZ 1]/\Ext w w')\/
  (eI p=0/\(1<=room/\room<=16)/\∃(b:Nat) (X:hU),v=.tuple #[.pointer (some ⟨b,0,none⟩),hZ 0]/\mD (sep (fi (λw=>K w/\X w) b (jc p room)) (eH X)) w w')):=by
 have u:=St.start w;refine Xt _ _ _ _ ?_;unfold S17;refine cE (x:=pv) u (λbp w1 u=>aE fS u.At (dW ah6 (C49 p pv _ (G.pr _ (J _ u.aF)) I) ?_));rintro _ _ ⟨aa,rfl,W⟩;have u:=u.ext W;refine aJ rfl (aJ rfl (cB (aC (λc=>?_) λc=>?_)))
 .exact .inl ⟨c,rfl,u.drop.aF⟩
 have zd:eI p=0:=bP
 have Y:=JZ zd;have S1:=VH Y;have OV:=zL p;refine dW ZW (C50 room _) ?_;rintro v3 _ hh
 rcases hh with⟨hrb,rfl,W⟩|⟨Dg,BF,b3,rfl,U⟩
 .have u:=u.ext W;refine aJ rfl (aJ rfl (cB (iI ea ?_)));exact .inr (.inl ⟨zd,hrb,rfl,u.drop.aF⟩)
 have u:=(u.made U).drop;refine aJ rfl (aJ rfl (cB (fE ea (have u:=u.drew;aE fS u.At (aE fS u.At (aE fS u.At (fV ahy u (C51 p pv _ (G.pr _ (J _ u.aF)) I) λx31 _ U u=>?_)))))));refine⟨ji fS u.p1.At,?_⟩;refine⟨ji fS u.p1.At,?_⟩;refine fV ahz u (C52 p pv _ (G.pr _ (J _ u.aF)) I) (λx33 _ U u=>?_);refine⟨ji fS u.p2.At,?_⟩;obtain⟨E,rfl⟩:=u.gF;obtain⟨B,rfl⟩:=u.p1.gF;refine pop (zp _ _ _ _ _ _ _ _ _ _ _ _ _ _ _ _ _ _ _ _ _ _ _ _ _) (oZ u λV w6 u=>aD (aA yo (aB lT u.hb rfl (aI iN u.p2.eS ?_))))
 have u:=u.eD (α:=Int);have RG:St w bF [bH (.slice none 0 0) ([]:List Int),bM V (mn ⟨pv,B,E,0,.slice none 0 0,.slice none 0 0,.slice none 0 0,.slice none 0 0,[]⟩ (zx p room) |>.set 9 (.pointer none)),bH (iS E) (cS p),bH (iS B) (cX p),bM bp (jn pv)] w6:=u;refine⟨λmm o y w1=>∃k:Nat,y=hZ (k:Int)/\mm=(cX p).length-k/\k<=(cX p).length/\St w bF [bH o ((xU p).take k),bM V (mn ⟨pv,B,E,0,.slice none 0 0,.slice none 0 0,.slice none 0 0,.slice none 0 0,[]⟩ (zx p room) |>.set 9 (.pointer none)),bH (iS E) (cS p),bH (iS B) (cX p),bM bp (jn pv)] w1,⟨_,0,rfl,rfl,mj _,RG⟩,?_⟩
 rintro mm o _ _ ⟨k,rfl,rfl,hk,u⟩ _;have N3:(xU p).length=(cX p).length:=by unfold xU;rw[nP,SE]
 refine aQ (aC (λc1=>?_) λc1=>?_)
 .refine aE fS u.p4.At (aR ab9 u (C53 p pv (k:Int) _ (G.pr _ (J _ u.aF)) I) λ_ W u=>bK ([po p (k:Int)]:List Int) u dG rfl rfl (dQ rfl) λs49 _ u=>?_);have ajL:=u.eS;refine cO u.p1 dG ajL (by rw[mg,nB];omega) ea (λs50 _ u=>aM bP ?_);exact⟨_,bP,k+1,rfl,rfl,bP,by rw[<- gm (HO (p:=p) (i:=k) bP)];exact u.p1.drop⟩
 rw[kO bP]at u;have u:=u.drew;refine aE fS u.p4.At (aE fS u.p4.At (aR Om u (C55 p pv _ (G.pr _ (J _ u.aF)) I) λ_ W u=>?_));refine⟨ji fS u.p4.At,?_⟩;refine fV ahA u (C56 p pv _ (G.pr _ (J _ u.aF)) I) (λx58 _ U u=>?_);have gi:=rQ p;have F8:(fM p).length=(jb p).length:=by unfold fM;rw[nP]
 refine dW af3 (C54 (xU p) (fM p) (ee p) _ _ _ u.p1.eS u.eS bP bP bP λk n h1 h2=>?_) ?_
 .have h3:=QH Y h1 h2;have h4:=(j0.1 h2).1;exact⟨h3.1,bP,bP⟩
 rintro v59 _ ⟨q,ov,fv,rfl,U⟩;have u:=((u.made U).split).p1.split;refine aJ rfl (aJ rfl (aD (aA lU (aO u.p5 wK (dQ rfl) rfl λM u=>aA pO (aB (v:=iS pv.threads) pN u.p8.hb rfl ?_)))));have u:=u.p8.drop.p5.drop.p4.drop.p3.freeze.p2.freeze.gY.p3.freeze.gY.p3.freeze.gY;obtain⟨O,u,Z⟩:=u.Vv;have u:=u.DV (H:=sI (λw=>K w/\pK O M w) room);have u:=(u.eD (α:=Ptr)).eD (α:=Int)
 have u:St w bF (bM V (mn ⟨pv,B,E,q,iS ov,iS fv,.slice none 0 0,.slice none 0 0,[]⟩ (zx p room))::fy q (iS ov) (iS fv) (Pf (xU p) (ee p) (fM p))::bH (.slice none 0 0) ([]:List Int)::bH (.slice none 0 0) ([]:List Ptr)::gj (sI (λw=>K w/\pK O M w) room) [] []::eH (pK O M)::[]) M:=by
  have h1:=u.p5.p5;exact h1
 obtain⟨vv,ht1,ht2⟩:=G.th;obtain⟨tvr,PR,hr4⟩:=G.rc;have u:=fi.shut (K:=(λw=>K w/\pK O M w)) (m:=zx p room) ⟨λw' h=>G.pr w' h.1,λw' h=>?_,λw' h=>?_,λw' h=>⟨?_,?_⟩,⟨tvr,λw' h=>PR w' h.1,hr4.mono λ_ h=>h.1⟩⟩ u;rotate_left
 .have:=Z w' h.2;first|exact this.1|exact this.2|exact this.2.1|exact this.2.2|exact this.2.2.1|exact this.2.2.2
 .have:=Z w' h.2;first|exact this.1|exact this.2|exact this.2.1|exact this.2.2|exact this.2.2.1|exact this.2.2.2
 .have:=Z w' h.2;first|exact this.1|exact this.2|exact this.2.1|exact this.2.2|exact this.2.2.1|exact this.2.2.2
 .have:=Z w' h.2;first|exact this.1|exact this.2|exact this.2.1|exact this.2.2|exact this.2.2.1|exact this.2.2.2
 refine aS ac2 u (H':=λ_=>fi (λw=>K w/\pK O M w) V (jc p room)) (Φ:=λ_ _=>True) (λF2 dP dK=>?_) ?_
 .exact(C57 (λw=>K w/\pK O M w) V (zx p room) p.threads _ vv F2 _ dP (λw' hc=>⟨J _ (dK w' hc).aF,(dK w' hc).eH⟩) ⟨Dg,BF⟩ (by have:=I.eV;show(cS p).length<=_;unfold cS;rw[nP];omega) (λw' hc=>ht1 w' (J _ (dK w' hc).aF)) (ht2.mono λ_ h=>h.1)
   (λ_ ht=>⟨CQ Y (List.mem_append_left _ ht),J1 Y (List.mem_append_left _ ht)⟩) (by have:=I.threads;omega)).mono λ_ _ r=>r.mono λ_ _ h=>⟨trivial,h.2⟩
 rintro _ _ _ u;exact .inr (.inr ⟨zd,⟨Dg,BF⟩,V,pK O M,rfl,(St.join u).fresh⟩)
theorem C37(K:hU)(p:Nat)(m:iB)(q:bG)(E:SV)(F:Nat->Prop)(w:World)(hF:(fi K p m).p w F)(Z:∀w',fD F w w'->K w')(V:nU m)(QK:LO m.p)(FQ:MB m.mem 1000000)(hcb:0<=m.cL/\m.cL<=1000000)(YD:∀w',fD F w w'->dy (λ_=>True) w' (iS E) q.cut)(hql:q.cut.length<=1000) :
   CR 37 [.pointer (some ⟨p,0,none⟩),iS (⟨q.kind,q.t,q.i,E⟩:aU)] w (λv w'=>v=.tuple #[iS (vf m q).2.1,hZ (vf m q).2.2]/\mC F (fi K p (vf m q).1) w w'):=by
 have u:=St.begin hF;refine qg Tryz.func37 (pl:=P37) ?_;refine cE (x:=(⟨q.kind,q.t,q.i,E⟩:aU)) u (λb3 w1 u=>aK u qP λb4 _ u=>?_);have u:=u.enc (cs':=jn (⟨0,0,0,0,0⟩:cQ)) rfl;refine⟨λjv w'=>jv=.bool (ld m q).isSome/\St w F [fi K p (Rb m q),bM b4 (jn (⟨0,0,0,0,0⟩:cQ)),bM b3 (jn (⟨q.kind,q.t,q.i,E⟩:aU))] w',?_,?_⟩
 .have u:=u.drew
  have ej:∀w',ld m q=none->St w F [fi K p m,bM b4 (jn (⟨0,0,0,0,0⟩:cQ)),bM b3 (jn (⟨q.kind,q.t,q.i,E⟩:aU))] w'->(Value.bool false=.bool (ld m q).isSome/\St w F [fi K p (Rb m q),bM b4 (jn (⟨0,0,0,0,0⟩:cQ)),bM b3 (jn (⟨q.kind,q.t,q.i,E⟩:aU))] w'):=λw' h1 h2=>by
   have e:Rb m q=m:=by unfold Rb;rw[h1]
   rw[h1,e];exact⟨rfl,h2⟩
  have Xj:ld m q=(if q.kind=3/\q.t=0/\q.i=0/\m.fault=0 then gw m.mem q.cut else none):=rfl;refine aA uj (aB (v:=hZ q.kind) bL u.p1.hb rfl (aG (aC (λc1=>?_) λ_=>ej _ (by rw[Xj,fg bP]) u.p2)));refine aA n4 (aB (v:=hZ q.t) bL u.p1.hb rfl (aG (aC (λO=>?_) λ_=>ej _ (by rw[Xj,fg bP]) u.p2)));refine aA xM (aB (v:=hZ q.i) bL u.p1.hb rfl (aG (aC (λc3=>?_) λ_=>ej _ (by rw[Xj,fg bP]) u.p2)));have u:=u.p2;obtain⟨a,B,u⟩:=fi.open u;have vq:=u.p4.jj;refine aD (aA o7 (aB bL u.hb rfl (aG (aC (λc4=>?_) λ_=>ej _ (by rw[Xj,fg bP]) (fi.shut B u)))))
  have hpi:ld m q=gw m.mem q.cut:=by rw[Xj,fh ⟨c1,O,c3,c4⟩]
  refine aD (aA lU (aB wK u.hb rfl (aA BQ (aB (v:=iS (E:SV)) eK u.p6.hb rfl (have u:=u.p1;aS agf u (H':=λv=>oV λm2=>fact (J2 m.mem q.cut v m2) (fy a.q a.ov a.fv m2)) (Φ:=λ_ _=>True) (λY U I=>?_) ?_)))))
  .exact(C81 a.q a.ov a.fv m.mem Y q.cut _ _ U (λw' hc=>B.mem _ (Z w' (I w' hc).aF)) V.mem FQ (λw' hc=>YD w' (I w' hc).aF) hql).mono λ_ _ r=>r.mono λ_ _ h=>HQ h
  rintro v34 _ _ sT;obtain⟨m2c,vk⟩:=sT.dS
  clear sT
  obtain⟨hcf,xZ⟩:=vk.lr
  clear vk
  rcases hcf with⟨W,rfl,rfl⟩|⟨G,W,rfl,rfl⟩
  .have u:=xZ;exact aG (have u:=u.p4.p4.p4.p3.p4;ej _ (hpi.trans W) (fi.shut B u))
  have u:=xZ;refine aG ?_;have M:=hpi.trans W;have e:Rb m q={m with mem:=nA m.mem G}:=by unfold Rb;rw[M]
  rw[M,e];have u:=u.p4.p4.p4.p3.p4;exact⟨rfl,fi.shut (m:={m with mem:=nA m.mem G}) ⟨B.pr,B.cs,B.ks,B.mem,B.rc⟩ u⟩
 rintro _ _ ⟨rfl,u⟩ _;refine bD (λc=>?_) (λc=>?_)
 .obtain⟨G,M⟩:=Option.isSome_iff_exists.1 c;have e:Rb m q={m with mem:=nA m.mem G}:=by unfold Rb;rw[M]
  have J:vf m q=(tG (sl m G) (wm m),⟨15,0,0,vc q.cut q.cut.length,0⟩,0):=by unfold vf;rw[M]
  rw[e]at u;rw[J];obtain⟨a,B,u⟩:=fi.open u;have vq:=u.p4.jj;refine aD (aA yq (aB bL u.hb rfl (aM (show -9223372036854775808<=m.cL+1/\m.cL+1<=9223372036854775807 by omega) (aD (aA yq (aO u bL (dQ rfl) rfl λ_ u=>?_))))));obtain⟨tvr,PR,hr4⟩:=id B.rc;have Po:=hr4.1;refine aD (aA uq (aA rY (aB pN u.hb rfl ?_)));have u:=(fi.shut (m:=sl m G) ⟨B.pr,B.cs,B.ks,B.mem,B.rc⟩ u.p4.p4.p4.p4.p4).p2;have u:=u.p2.p2;refine⟨λjv w'=>∃vv,EX K vv (wm m)/\St w F [eH (λw=>K w->dy (λ_=>True) w jv vv),fi K p (sl m G),bM b4 (jn (⟨0,0,0,0,0⟩:cQ)),bM b3 (jn (⟨q.kind,q.t,q.i,E⟩:aU))] w',?_,?_⟩
  .refine aI kJ (PR _ (Z _ u.aF)) (aG (aC (λO=>?_) λO=>?_))
   .refine pop (v:=iS (⟨⟨#[]⟩,bY,bY,0⟩:bU)) (by kernel_rfl) (bK ([⟨⟨#[]⟩,bY,bY,0⟩]:List bU) u kJ rfl rfl (dQ rfl) λs54 _ u=>?_);refine⟨_,?_,u.freeze.dH (Ψ:=λw=>K w->dy (λ_=>True) w s54 [(⟨⟨#[]⟩,bY,bY,0⟩:bU)]) λ_ h _=>h⟩;have LY:wm m=[⟨⟨#[]⟩,[],[],0⟩]:=by unfold wm;rw[fh (by have:tvr.length=m.p.recover.length:=Po;omega)]
    rw[LY];exact aee K
   have LY:wm m=m.p.recover:=by unfold wm;rw[fg (by have:tvr.length=m.p.recover.length:=Po;omega)]
   exact⟨tvr,by rw[LY];exact hr4,u.fG λw h=>PR w h⟩
  rintro rv _ ⟨vv,htv,u⟩ _;obtain⟨hrc1,ajN⟩:=J0 QK;refine aS ac2 u.p1 (H':=λ_=>fi K p (tG (sl m G) (wm m))) (Φ:=λ_ _=>True) (λY U I=>?_) ?_
  .refine(C57 K p (sl m G) (wm m) _ vv Y _ U (λw' hc=>Z w' (I w' hc).aF) V.rm (by have:=V.pz.eV;show(cS m.p).length<=_;unfold cS;rw[nP];omega) (λw' hc=>(I w' hc).eH (Z w' (I w' hc).aF)) htv (λt ht=>⟨ajN t ht,?_⟩) bP).mono λ_ _ r=>r.mono λ_ _ h=>⟨trivial,h.2⟩;unfold wm at ht
   split at ht
   .rw[List.mem_singleton.1 ht];rfl
   exact J1 QK (List.mem_append_right _ ht)
  rintro _ _ _ u;exact aA BQ (aB (v:=iS (E:SV)) eK u.p3.hb rfl (aR aiL u (C82 _ q.cut _ (YD _ u.aF) bP) λ_ _ u=>pop (Kq 15 (vc q.cut q.cut.length)) (aH (x:=(⟨15,0,0,vc q.cut q.cut.length,0⟩:cQ)) u.p2 iC rfl rfl λ_ u=>aE iC u.At ⟨rfl,u.p3.drop.drop.p1.drop.mut⟩)))
 have M:ld m q=none:=by
  cases h:ld m q with
  | none=>rfl
  | some G=>rw[h]at c;cases c
 have e:Rb m q=m:=by unfold Rb;rw[M]
 have J:vf m q=(if (kf m).any (qu q)=true then(if q.kind=2 then(match m.l[q.t.toNat]? with|some t=>((xB m t q,zi q.t (ei t.buf q.i),0):iB×cQ×Int)|none=>(m,⟨0,0,0,0,0⟩,13))else((iZ m q.t).1,(iZ m q.t).2,0))else(m,⟨0,0,0,0,0⟩,13)):=by unfold vf;rw[M];rfl
 rw[e]at u;refine fV acZ u (C22 K p m _ u.has (λ_ e=>Z _ (u.aF.then e)) V) (λx64 _ dw u=>?_);have WR:=u.p3.At
 have hfn:n7 hM _ (.func (.func 83) [].toArray [.pointer (some ⟨b3,0,none⟩)].toArray) (λ_:bG=>True) (qu q):=
  ⟨83,[],_,rfl,aiH,λsx y w1 e1 Yo _=>C83 y q sx b3 (⟨q.kind,q.t,q.i,E⟩:aU) w1 Yo (WR.ext e1) ⟨E,rfl,DL.gG (YD _ (u.aF.then e1))⟩⟩
 refine aR agh u (C84 _ _ _ (λ_=>True) _ _ u.dl hfn (λ_ _=>trivial) (by have:=Hg V;omega)) (λ_ he u=>have u:=u.drop;bJ (bD (λO=>?_) λO=>?_))
 .rw[J,fg (by simpa using O)];exact pop V8 (aH (x:=(⟨0,0,0,0,0⟩:cQ)) u.p1 iC rfl rfl λ_ u=>aE iC u.At ⟨rfl,u.drop.p1.drop.mut⟩)
 have Bx:(kf m).any (qu q)=true:=by simpa using O
 obtain⟨hf0,h0,_,t,ht,hkd⟩:=ajA Bx;rw[J,fh Bx];refine aA uj (aB (v:=hZ q.kind) bL u.p2.hb rfl (aG (aC (λc3=>?_) λc3=>?_)))
 .rw[fh c3,ht];refine aE oF u.p2.At (aS aiF u (H':=λ_=>fi K p (xB m t q)) (Φ:=λv _=>v=iS (zi q.t (ei t.buf q.i))) (λY U I=>?_) ?_)
  .exact C85 K p m q E t Y _ U (λw' hc=>Z w' (I w' hc).aF) V FQ h0 ht
  rintro _ _ rfl u;exact aH (x:=zi q.t (ei t.buf q.i)) u.p1 iC rfl rfl (λ_ u=>aE iC u.At ⟨rfl,u.drop.p1.drop.mut⟩)
 rw[fg c3]
 have EZ:xA m t=true:=by
  rcases hkd with h|h
  .exact h.2
  .exact absurd h.1 c3
 refine aA n4 (aB (v:=hZ q.t) bL u.p2.hb rfl (aS aiE u (H':=λ_=>fi K p (iZ m q.t).1) (Φ:=λv _=>v=iS (iZ m q.t).2) (λY U I=>?_) ?_))
 .exact C86 K p m q.t t Y _ U (λw' hc=>Z w' (I w' hc).aF) V FQ h0 ht (λ_=>QG EZ)
 rintro _ _ rfl u;exact aH (x:=(iZ m q.t).2) u.p1 iC rfl rfl (λ_ u=>aE iC u.At ⟨rfl,u.drop.p1.drop.mut⟩)
def C144(M:Value)(ps:List Ptr)(I:Nat)(first cap:List Value)(g:Nat->Bool)(w:World)(V:dy (λ_=>True) w M ps)(Z:Plain hM I)(W:∀(i:Nat) (s:Ptr) (B:World),ps[i]?=some s->Ext w B->Calls hM I (first++[iS s]++cap).toArray B (oU λv U=>v=.bool (g i)/\Ext B U))(hn:ps.length<=1073741824):CR 144 [M,(.func (.func I) first.toArray cap.toArray)] w (λv w'=>v=hZ (pf g (tL ps.length))/\Ext w w'):=by
 have u:=St.start w;refine eR Tryz.func144 ?_;refine aI wL (V.ext u.aF) ?_;refine⟨λJ y B=>∃k:Nat,y=hZ (k:Int)/\J=ps.length-k/\k<=ps.length/\(∀y∈(tL ps.length).take k,g y=false)/\St w bF [] B,⟨_,0,rfl,rfl,mj _,ew,u⟩,?_⟩;rintro J _ B ⟨k,rfl,rfl,hk,E,u⟩ _;refine aQ (aC (λc1=>?_) λ_=>⟨gl (mf .i64) (gn (by rw[kO (by rw[SE];omega)]at E;exact E)).symm,u.aF⟩);obtain⟨e,O⟩:=gx ps (i:=((k:Nat):Int).toNat) bP;refine aY wL (V.ext u.aF) bP O (λq Y=>aE AG Y (fj Z (W k e B O u.aF) ?_))
 rintro _ U ⟨rfl,h2⟩;have u:=u.ext h2;exact bD (λG=>⟨gl (mf .i64) (jy E (GO bP) G).symm,u.aF⟩) (λG=>aM bP ⟨_,bP,k+1,rfl,rfl,bP,eC E (GO bP) G,u⟩)
def C67(G:Value)(ps:List Ptr)(E:Nat)(first cap:List Value)(g:Nat->Bool)(w:World)(U:dy (λ_=>True) w G ps)(O:Plain hM E)(J:∀(i:Nat) (s:Ptr) (B:World),ps[i]?=some s->Ext w B->Calls hM E (first++[iS s]++cap).toArray B (oU λv M=>v=.bool (g i)/\Ext B M))(I:ps.length<=1073741824):CR 67 [G,(.func (.func E) first.toArray cap.toArray)] w (λv w'=>v=.bool ((tL ps.length).any g)/\Ext w w'):=by
 have u:=St.start w;refine eR Tryz.func67 ?_;exact aR ac4 u (C144 _ ps E first cap g _ (U.ext u.aF) O (λi s B h e=>J i s B h (u.aF.then e)) I) (λ_ _ u=>cJ ⟨vb (iv _ _),u.aF⟩)
def C65(K Φ:hU)(p:Nat)(room:Int)(t:jM)(w:World)(E:Has (dM K Φ p room t) w)(WR:K w)(J:t.buf.length<=1000):CR 65 [.pointer (some ⟨p,0,none⟩)] w (λv w'=>v=.bool (!tH t)/\Ext w w'):=by
 obtain⟨bp,Z,rg,pl,es,V,G,U,Y,O,I,_⟩:=dM.rd E;have B:=G.cell (o:=3) rfl;have Ou:=I.len;have W:=mP es;have u:=St.start w;refine eR Tryz.func65 ?_;refine⟨λM w'=>M=.bool (!tH t)/\Ext w w',?_,?_⟩
 .exact aD (aA gu (cD m7 (B.ext u.aF) (aI o8 (O.ext u.aF) (dL (aC (λ_=>⟨vb (by unfold tH;rw[fZ (show ¬ t.bN.length=0 from bP)];rfl),u.aF⟩) λ_=>aR acS u (C66 K Φ p room t _ (E.ext u.aF) J) λ_ _ u=>bJ ⟨vb (by unfold tH;rw[fY (show t.bN.length=0 from bP),tM]),u.aF⟩)))))
 rintro _ _ h _;exact h
def C21(K:hU)(p:Nat)(m:iB)(w:World)(hm:Has (fi K p m) w)(Z:∀w',Ext w w'->K w')(Y:nU m):CR 21 [.pointer (some ⟨p,0,none⟩)] w (λv w'=>v=iS (mR m)/\Ext w w'):=by
 obtain⟨a,B⟩:=fi.rd hm (Z _ (Ext.refl _));have Xx:=B.b.cell (o:=11) rfl;have J:=B.b.cell (o:=12) rfl;have M:=B.b.cell (o:=13) rfl;have I:=B.b.cell (o:=14) rfl;have hlen:=B.len;have Kk:=Y.tl;have u:=St.start w;refine qg Tryz.func21 (pl:=P21) ?_;refine aK u Gd (λb2 w1 u=>have u:=(u.enc (cs':=jn (⟨0,0,0,false,false⟩:jx)) rfl).drew;aD (aA yq (cD bL (J.ext u.aF) (aD (aA o7 (cD bL (M.ext u.aF) (aD (aA DC (cD bL (I.ext u.aF) (pop (DI m.cL m.fault m.kZ) (aK u Gd λb4 _ u=>?_)))))))))))
 refine⟨aX bL (J.ext u.aF),?_⟩;refine⟨aX bL (M.ext u.aF),?_⟩;refine⟨aX bL (I.ext u.aF),?_⟩;refine aH (x:=(⟨m.cL,m.fault,m.kZ,false,false⟩:jx)) u ML rfl rfl (λ_ u=>?_);refine⟨λw'=>St w bF [bM b4 (jn (⟨m.cL,m.fault,m.kZ,lz m,false⟩:jx)),bM b2 (jn (⟨0,0,0,false,false⟩:jx))] w',?_,?_⟩
 .refine aD (aA o7 (cD bL (M.ext u.aF) (aG (aC (λG=>?_) λG=>?_))))
  .refine aD (aA m4 (cD uo (Xx.ext u.aF) ?_))
   refine aR aiM u (C67 _ a.ps 65 [] [] (λi=>match m.l[i]? with|some t=>!tH t|none=>false) _ (B.ll.ext u.aF) aiI (λi s w1 h e=>by
    obtain⟨t,ht⟩:∃t,m.l[i]?=some t:=⟨_,kB (by have:=(j0.1 h).1;omega)⟩;rw[ht];exact C65 K _ s.b m.room t w1 ((B.th i s t h ht).ext (u.aF.then e)) (Z _ (u.aF.then e)) (Y.th t (l0 ht)).bl) bP) (λ_ he u=>?_)
   refine bJ (aA uh (aO u BO (dQ rfl) rfl λw5 u=>?_));have E:lz m = !((tL a.ps.length).any λi=>match m.l[i]? with|some t=>!tH t|none=>false):=by unfold lz;rw[fY G,B.len];rfl
   rw[E];exact u
  refine aA uh (aO u BO (dQ rfl) rfl λw5 u=>?_);have E:lz m=false:=by unfold lz;rw[fZ G];rfl
  rw[E];exact u
 intro _ u _
 have V:∀(b:Bool) (w':World),nH m=b->St w bF [bM b4 (jn (⟨m.cL,m.fault,m.kZ,lz m,b⟩:jx)),bM b2 (jn (⟨0,0,0,false,false⟩:jx))] w'->St w bF [bM b4 (jn (mR m)),bM b2 (jn (⟨0,0,0,false,false⟩:jx))] w':=λb w' h1 h2=>by
  subst h1;exact h2
 refine⟨λw'=>St w bF [bM b4 (jn (mR m)),bM b2 (jn (⟨0,0,0,false,false⟩:jx))] w',?_,?_⟩
 .refine aD (aA o7 (cD bL (M.ext u.aF) (aG (aC (λG=>?_) λG=>?_))));rotate_left
  .exact aA xL (aO u BO (dQ rfl) rfl λ_ u=>V false _ (by unfold nH;rw[fZ G];rfl) u)
  refine aA uh (aB (v:=.bool (lz m)) BO u.hb rfl (bJ (bD (λU=>?_) λU=>?_)));rotate_left
  .exact aA xL (aO u BO (dQ rfl) rfl λ_ u=>V false _ (by unfold nH;rw[show lz m=true from by simpa using U];simp) u)
  refine fV acZ u (C22 K p m _ (hm.ext u.aF) (λ_ e=>Z _ (u.aF.then e)) Y) (λx45 w7 dw u=>?_);obtain⟨W,aek,O⟩:=u.dl;refine aI ui aek ?_;rw[show W.length=(kf m).length from O.1];exact aG (have u:=u.drop;aA xL (aO u BO (dQ rfl) rfl λ_ u=>V (decide (((kf m).length:Int)=0)) _ (by unfold nH;rw[fY G,show lz m=false from by simpa using U];rfl) u))
 intro _ u _;exact aE (x:=mR m) ML u.At (aH (x:=mR m) u.p1 ML rfl rfl λ_ u=>aE ML u.At ⟨rfl,u.drop.drop.aF⟩)
variable (w:World) (K:Value->hU)
def S40(p0 B u G:Value):Prop:=
 mw hM (qv 36 p0) w λp4 a=>aL 24 a λb c=>lA 36 p4 c λd=>cF 97 [d,B,u,G] c λe f=>xT e 0 λg=>xT e 1 λh=>xT e 2 λj=>bB .neq 40 j (i 0) λk=>
 cV k (dX hM (l1 24 [].toArray) λl=>lN 77 h λn=>sA 24 b l f λo=>lA 24 b o λr=>K (.tuple #[r,(.slice none 0 0),j,n]) o) (lA 36 p4 f λp=>cF 98 [p,g] f λq s=>
 sA 24 b q s λt=>lA 24 b t λE=>K (.tuple #[E,h,(i 0),(i 0)]) t)
theorem YE(p0 u B E:Value)(h:S40 w K p0 u B E):CR 40 [p0,u,B,E] w K:=
 lL 34 (λ_=>.nil) 3840 [.cell 8 24,.tmp 9,.tmp 10,.tmp 11] Tryz.func40 h
def S45(p0 u B E:Value):Prop:=
 mw hM (qv 36 p0) w λp4 a=>lA 36 p4 a λb=>cF 97 [b,u,B,E] a λc d=>xT c 0 λ_=>xT c 1 λe=>xT c 2 λ_=>lN 77 e λf=>K f d
theorem YF(p0 u B E:Value)(h:S45 w K p0 u B E):CR 45 [p0,u,B,E] w K:=
 lL 23 (λ_=>.nil) 256 [.tmp 8] Tryz.func45 h
def S97(p0 kz G Z:Value):Prop:=
 mw hM (qv 36 p0) w λp4 a=>lA 36 p4 a λb=>cF 17 [b,kz] a λc d=>xT c 0 λe=>xT c 1 λf=>bB .neq 40 f (i 0) λg=>cV g (K (.tuple #[(.pointer none),(.slice none 0 0),f]) d) (
 eF (λY=>bB .lss 3 G (i 0) λh=>cV h (Y tt d) (bB .gtr 3 G (i 8) λj=>Y j d)) (λk l=>∀_:Env,
 cV k (K (.tuple #[(.pointer none),(.slice none 0 0),(i 1)]) l) (lN 58 Z λn=>nW (λI E o p=>∀_:Env,
 bA .lss 3 o n λq=>cV q (iA 58 Z o λr=>lA 67 r p λs=>aL 67 p λt u=>sA 67 t s u λv=>eF (λU=>fA 67 t 0 λx=>lA 3 x v λy=>bB .eql 3 y (i 3) λz=>
 cV z (cF 21 [e] v λaa ab=>dX hM (UF 56 aa 0) λac=>bA .geq 3 ac G λad=>U ad ab) (U ff v)) (λae O=>∀_:Env,
 cV ae (K (.tuple #[e,E,(i 14)]) O) (lA 67 t O λag=>cF 37 [e,ag] O λW ai=>xT W 0 λaj=>xT W 1 λV=>aL 72 ai λB al=>sA 72 B aj al λM=>bB .neq 40 V (i 0) λan=>
 cV an (K (.tuple #[e,E,V]) M) (lA 72 B M λao=>bS 77 1 [(0,ao)] M λap aq=>aP 77 E ap aq λar J=>bB .add 3 o (i 1) λau=>I ar au J)))) (K (.tuple #[e,E,(i 0)]) p))
 λI=>I (.slice none 0 0) (i 0) l)))
theorem YG(p0 u B E:Value)(h:S97 w K p0 u B E):CR 97 [p0,u,B,E] w K:=
 lL 69 (λ_=>.nil) 1792 [.tmp 8,.tmp 9,.tmp 10] Tryz.func97 h
def S98(p0 O:Value):Prop:=
 mw hM (qv 36 p0) w λp2 a=>aL 24 a λb c=>cF 21 [O] c λd e=>aL 56 e λf g=>sA 56 f d g λh=>eF (λV=>fA 56 f 0 λj=>lA 3 j (drew h) λk=>
 lA 36 p2 (drew h) λl=>((cF 27 [O] (drew h) λn o=>kA 3 j k o (kA 36 p2 l o ((cF 55 [l] o λp q=>kA 3 j k q (dX hM (mv 22 n none (some p) none) λs=>
 dX hM (l1 24 [(2,k),(3,s)].toArray) λt=>aL 24 q λe6 u=>kA 3 j k u (kA 36 p2 l u (sA 24 e6 t u λv=>V e6 v))))
 /\((aL 24 o λJ x=>kA 3 j k x (kA 36 p2 l x (cF 55 [l] x λy z=>kA 3 j k z (dX hM (mv 22 n none (some y) none) λaa=>dX hM (l1 24 [(2,k),(3,aa)].toArray) λab=>
 sA 24 J ab z λac=>V J ac))))
 /\
 True))))
 /\((aL 24 (drew h) λI U=>kA 3 j k U (kA 36 p2 l U (cF 27 [O] U λae Y=>kA 3 j k Y (kA 36 p2 l Y (cF 55 [l] Y λag ah=>kA 3 j k ah (dX hM (mv 22 ae none (some ag) none) λai=>
 dX hM (l1 24 [(2,k),(3,ai)].toArray) λaj=>sA 24 I aj ah λak=>V I ak))))))
 /\
 True))) (λE al=>∀_:Env,
 cF 32 [O] al λam an=>cF 190 [am,ff] an λao B=>wF (λG=>fA 56 f 1 λaq=>lA 3 aq B λar=>bB .neq 3 ar (i 0) λW=>cV W (fA 56 f 1 λau=>lA 3 au (drew B) λav=>
 fA 24 E 0 λaw=>sA 3 aw (i 3) (drew B) λZ=>kA 3 au av Z (fA 24 E 1 λay=>sA 3 ay av Z λaz=>G az)) (fA 56 f 4 λa0=>lA 4 a0 B λa1=>cV a1 (fA 24 E 0 λa2=>
 sA 3 a2 (i 4) B λa3=>G a3) (eF (λK3=>fA 56 f 3 λa4=>lA 4 a4 B λa5=>cV a5 (bB .geq 3 ao (i 0) λa6=>K3 a6 B) (K3 ff B)) (λa7 M=>∀_:Env,
 cV a7 (fA 24 E 0 λa9=>sA 3 a9 (i 2) M λba=>fA 24 E 1 λbb=>sA 3 bb ao ba λbc=>G bc) (fA 56 f 3 λbd=>lA 4 bd M λbe=>cV be (fA 24 E 0 λbf=>sA 3 bf (i 1) M λbg=>
 G bg) (G M)))))) (λbh=>∀_:Env,
 lA 24 E bh λbi=>sA 24 b bi bh λbj=>lA 24 b bj λr=>K r bj))
def P98:dI:=λi=>match i with
 | 2=>(.op 0 [] (.op 1 [] (.op 2 [] (.op 4 [] (.alt 3 [1,4] (.alt 5 [1] (.of [(6,[]),(7,[]),(8,[1,4]),(9,[])]) (.alt 8 [1,4] (.of [(5,[1]),(6,[]),(7,[]),(9,[])]) .stop)) (.alt 8 [1,4] (.of [(3,[1,4]),(5,[1]),(6,[]),(7,[]),(9,[])]) .stop))))))
 | 5=>(.of [(0,[]),(1,[]),(2,[]),(3,[1]),(4,[]),(5,[])])
 | _=>.nil
theorem YH(p0 u:Value)(h:S98 w K p0 u):CR 98 [p0,u] w K:=
 lL 48 P98 16 [.cell 4 24] Tryz.func98 h
def S190(B E:Value):Prop:=
 lN 64 B λa=>jA (λu b c=>∀_:Env,
 bA .lss 3 b a λd=>cV d (iA 64 B b λe=>lA 4 e c λf=>bA .eql 4 E f λg=>cV g (K b c) (bB .add 3 b (i 1) λh=>u h c)) (K (i (-1)) c)) (λu=>u (i 0) w)
theorem TN(u B:Value)(h:S190 w K u B):CR 190 [u,B] w K:=
 lL 19 (λ_=>.nil) 16 [.tmp 4] Tryz.func190 h
theorem LP:PL 40:=dD Tryz.func40
theorem ajQ:PL 45:=dD Tryz.func45
theorem aeo:PL 97:=dD Tryz.func97
theorem ajR:PL 98:=dD Tryz.func98
theorem aep:PL 190:=dD Tryz.func190
end Go.Proofs.YtdncbeepkacgbaaGreatDoor
namespace Go.Proofs.YtdncbeepkacgbaaGreatDoor
open Go.Fw
def QL:pr hM (l1 24 [].toArray)=some (.agg [hZ 0,hZ 0,hZ 0,.slice none 0 0].toArray):=by kernel_rfl
def wz(u:Int)(G:Option Addr)(B E:Nat):pr hM (l1 24 [(2,hZ u),(3,.slice G B E)].toArray)=some (.agg [hZ 0,hZ 0,hZ u,.slice G B E].toArray):=by kernel_rfl
def TO(m:iB)(t:jM)(i:Int)(x:aZ):(eB m t i x).1.cL=m.cL:=by
 unfold eB
 repeat' split
 all_goals first|rfl|(unfold rJ;split<;>rfl)
theorem QM(m:iB)(i:Int):(iZ m i).1.cL=m.cL:=by
 unfold iZ
 repeat' split
 all_goals first|rfl|exact TO _ _ _ _
def YI(m:iB)(q:bG):m.cL<=(vf m q).1.cL/\(vf m q).1.cL<=m.cL+1:=by
 unfold vf
 split
 .show m.cL<=m.cL+1/\m.cL+1<=m.cL+1;omega
 split
 .split
  .split<;>(show m.cL<=m.cL/\m.cL<=m.cL+1)<;>omega
  show m.cL<=(iZ m q.t).1.cL/\(iZ m q.t).1.cL<=_;rw[QM];omega
 grind
structure wA(p:bQ)(n:Nat)(m:iB):Prop where
 ok:nU m
 pr:m.p=p
 mb:MB m.mem n
 cr:0<=m.cL/\m.cL<=n
def wA.step{p:bQ}{n:Nat}{m:iB}{q:bG}(h:wA p n m)(hc:LO p):wA p (n+1) (vf m q).1:=by
 obtain⟨h1,h2,h3⟩:=Yz (q:=q) h.ok (h.pr▸hc)
 have h4:=YI m q
 have h5:=h.cr
 exact⟨h1,h2.trans h.pr,h3 _ h.mb,bP,bP⟩
def wA.new{p:bQ}{room:Int}(B:PZ p)(hc:LO p)(u:1<=room/\room<=16):wA p 0 (jc p room):=
 ⟨TL B hc u,rfl,λk=>CV rfl,Jt 0,Jt 0⟩
def TP(m:iB)(t:jM)(x:aZ):(rJ m t x).mem.dZ=m.mem.dZ:=by
 unfold rJ;split
 .exact oP _ _ _
 rfl
def TQ(m:iB)(t:jM)(i:Int)(x:aZ):(eB m t i x).1.mem.dZ=m.mem.dZ:=by
 unfold eB
 repeat' split
 all_goals first|rfl|exact TP _ _ _
def QN(m:iB)(i:Int):(iZ m i).1.mem.dZ=m.mem.dZ:=by
 unfold iZ
 repeat' split
 all_goals first|rfl|exact TQ _ _ _ _
def YJ{m:iB}(u:nU m)(q:bG):(vf m q).1.mem.dZ=m.mem.dZ:=by
 unfold vf
 split
 .rfl
 split
 .split
  .split
   .exact(Bq u.mem).2.2
   rfl
  exact QN _ _
 rfl
def rR(c:Int):iB->List cQ->List bG->iB×List cQ×Int
 | m,o,[]=>(m,o,0)
 | m,o,q::r=>if q.kind=3/\c<=m.cL then(m,o,14)else if (vf m q).2.2≠0 then((vf m q).1,o,(vf m q).2.2)else rR c (vf m q).1 (o++[(vf m q).2.1]) r
def gg(p:bQ)(room c:Int):Int:=if eI p≠0 then eI p else if room<1\/16<room then 1 else if c<0\/8<c then 1 else 0
def QO(p:bQ)(room c:Int)(l:List bG):List cQ×Int:=if gg p room c≠0 then([],gg p room c)else((rR c (jc p room) [] l).2.1,(rR c (jc p room) [] l).2.2)
def TR(p:bQ)(room c:Int)(l:List bG):Nat:=(QO p room c l).1.length
theorem QP{p:bQ}{room c:Int}{l:List bG}(h:gg p room c≠0):QO p room c l=([],gg p room c):=by unfold QO;grind
def TS(x y:aT)(h:jn x=jn y):x=y:=by
 obtain⟨a,b,c,⟨d,n,k⟩,⟨O,E,Z⟩,e,f,g,i⟩:=x
 obtain⟨a2,b2,B,⟨J,V,U⟩,⟨G,Y,k3⟩,u,M,I,W⟩:=y
 simp[jn,iS]at h
 simp[h]
def TT(x y:bU)(h:jn x=jn y):x=y:=by
 obtain⟨a,⟨d,n,k⟩,⟨I,B,V⟩,e⟩:=x
 obtain⟨W,⟨G,O,M⟩,⟨E,U,J⟩,u⟩:=y
 simp[jn,iS]at h
 simp[h]
def vr.of{B:Nat->Prop}{w:World}{lv:SV}{sj:List bW}(h:∀w',pK B w w'->DL w' (iS lv) sj):vr (pK B w) lv sj:=by
 obtain⟨W,U,ht⟩:=pK.fix TT h
 refine⟨W,λw' u=>(ht w' u).1,U,λj I t h1 h2=>?_⟩
 have G:∀w',pK B w w'->l3 w' I t:=λw' u=>(ht w' u).2.2 j I t h1 h2
 obtain⟨E,M,rfl,_,_⟩:=G w (pK.refl _ _)
 have O:∀w',pK B w w'->DL w' (iS E) t.dJ/\DL w' (iS M) t.body:=λw' u=>by
  obtain⟨V,Z,e,h4,h5⟩:=G w' u
  grind
 obtain⟨rows,_,J⟩:=pK.fix TS λw' u=>(O w' u).2
 exact⟨E,M,rows,rfl,λw' u=>DL.flat (O w' u).1,λw'=>⟨λY u=>(J Y u).2,λu=>(J w' u).1⟩⟩
def Me.of{B:Nat->Prop}{w:World}{pv:bZ}{p:bQ}(h:∀w',pK B w w'->l3 w' pv p):Me (pK B w) pv p:=by
 obtain⟨Z,Y,J,G,I,M,rfl,_⟩:=h w (pK.refl _ _)
 have E:∀w',pK B w w'->DL w' (iS G) p.threads/\DL w' (iS I) p.recover:=λw' u=>by
  obtain⟨V,U,a2,O,W,a5,e,_,_,_,h4,h5,_⟩:=h w' u
  grind
 exact⟨h,vr.of λw' u=>(E w' u).1,vr.of λw' u=>(E w' u).2⟩
def vr.mono{K B:hU}{lv:SV}{sj:List bW}(h:vr K lv sj)(u:∀w,B w->K w):vr B lv sj:=by
 obtain⟨E,h1,h2⟩:=h
 exact⟨E,λw G=>h1 w (u w G),h2.mono u⟩
def Me.mono{K B:hU}{pv:bZ}{p:bQ}(h:Me K pv p)(u:∀w,B w->K w):Me B pv p:=⟨λw E=>h.pr w (u w E),h.th.mono u,h.rc.mono u⟩
def VJ(K:hU)(lv:Value)(l:List bG):Prop:=∃ts:List aU,∀w,K w->dy (λ_=>True) w lv ts/\gQ ts l w
def VJ.nil(K:hU):VJ K (.slice none 0 0) []:=⟨[],λw _=>⟨dy.nil _ _,gQ.nil⟩⟩
def wA.mono{p:bQ}{a b:Nat}{m:iB}(h:wA p a m)(u:a<=b):wA p b m:=⟨h.ok,h.pr,h.mb.mono u,by have:=h.cr;omega⟩
theorem lC{α:Type}{xs:List α}{k:Nat}{x:α}(h:xs[k]?=some x):xs.drop k=x::xs.drop (k+1):=by
 obtain⟨h1,h2⟩:=j0.1 h
 rw[pd h1,h2]
def vt(l:List Bool):Nat:=(l.takeWhile id).length
def xF(l:List Bool):Int:=if vt l<l.length then(vt l:Int)else -1
def TU{l:List Bool}{k:Nat}{b:Bool}(h:l[k]?=some b)(hb:b=true)(u:vt l=k+vt (l.drop k)):vt l=k+1+vt (l.drop (k+1)):=by
 rw[u,lC h,hb]
 show k+(vt (l.drop (k+1))+1)=_
 omega
def TV{l:List Bool}{k:Nat}{b:Bool}(h:l[k]?=some b)(hb:b=false)(u:vt l=k+vt (l.drop k)):xF l=k:=by
 have B:=(j0.1 h).1
 have e:vt l=k:=by rw[u,lC h,hb];rfl
 unfold xF
 omega
def TW{l:List Bool}{k:Nat}(h:l.length<=k)(u:vt l=k+vt (l.drop k)):xF l = -1:=by
 unfold xF
 omega
def nV(m:iB):Int×Int:=if m.fault≠0 then(3,m.fault)else if nH m=true then(4,0)else if lz m=true then(if 0<=xF (lR m)then(2,xF (lR m))else(1,0))else(0,0)
def QQ(m:iB):bG:=⟨(nV m).1,(nV m).2,m.cL,m.mem.l.take (ee m.p).toNat⟩
section
variable {m:iB}
theorem YK(h:m.fault≠0):nV m=(3,m.fault):=by unfold nV;grind
theorem YL(h:¬ m.fault≠0)(h2:nH m=true):nV m=(4,0):=by unfold nV;grind
theorem YM(h:¬ m.fault≠0)(h2:nH m=false)(h3:lz m=true)(h4:0<=xF (lR m)):nV m=(2,xF (lR m)):=by grind[nV,xF,lR]
theorem YN(h:¬ m.fault≠0)(h2:nH m=false)(h3:lz m=true)(h4:¬ 0<=xF (lR m)):nV m=(1,0):=by grind[nV]
theorem YO(h:¬ m.fault≠0)(h2:nH m=false)(h3:lz m=false):nV m=(0,0):=by grind[nV]
end
def zE:bG:=⟨0,0,0,[]⟩
def qe(p:bQ)(room c:Int)(l:List bG):bG×List cQ×Int×Int:=
 if gg p room c≠0 then(zE,[],gg p room c,0)
 else if (rR c (jc p room) [] l).2.2≠0 then(zE,[],(rR c (jc p room) [] l).2.2,((rR c (jc p room) [] l).2.1.length:Int))
 else(QQ (rR c (jc p room) [] l).1,(rR c (jc p room) [] l).2.1,0,0)
theorem YP{p:bQ}{room c:Int}{l:List bG}(h:gg p room c≠0):qe p room c l=(zE,[],gg p room c,0):=by unfold qe;grind
theorem YQ{p:bQ}{room c:Int}{l:List bG}(h:gg p room c=0)(h2:(rR c (jc p room) [] l).2.2≠0):qe p room c l=(zE,[],(rR c (jc p room) [] l).2.2,((rR c (jc p room) [] l).2.1.length:Int)):=by grind[qe,zE,rR,jc]
theorem YR{p:bQ}{room c:Int}{l:List bG}(h:gg p room c=0)(h2:(rR c (jc p room) [] l).2.2=0):qe p room c l=(QQ (rR c (jc p room) [] l).1,(rR c (jc p room) [] l).2.1,0,0):=by grind[qe,QQ,rR,jc]
def VK(w:World):l3 w (⟨0,0,0,bY⟩:aU) zE:=⟨_,rfl,DL.nil w⟩
def C27(K:hU)(p:Nat)(m:iB)(w:World)(J:Has (fi K p m) w)(I:∀w',Ext w w'->K w')(G:nU m):CR 27 [.pointer (some ⟨p,0,none⟩)] w (λv w'=>mD (bH v m.mem.l) w w'):=by
 obtain⟨a,E⟩:=fi.rd J (I _ (Ext.refl _));have B:=E.b.cell (o:=9) rfl;have u:=St.start w;refine eR Tryz.func27 ?_;exact aD (aA lU (cD wK (B.ext u.aF) (fV af5 u (C76 a.q m.mem _ (E.mem.ext u.aF) G.mem) λ_ _ _ u=>u.fresh)))
def C190(J:Value)(xs:List Bool)(w:World)(O:dy (λ_=>True) w J xs)(V:xs.length<=1073741824):CR 190 [J,.bool false] w (λv w'=>v=hZ (xF xs)/\Ext w w'):=by
 have u:=St.start w;refine TN _ _ _ _ ?_;unfold S190;refine aI Km (O.ext u.aF) ?_;refine⟨λI y M=>∃k:Nat,y=hZ (k:Int)/\I=xs.length-k/\k<=xs.length/\vt xs=k+vt (xs.drop k)/\St w bF [] M,⟨_,0,rfl,rfl,mj _,(Nat.zero_add _).symm,u⟩,?_⟩;rintro I _ M ⟨k,rfl,rfl,W,G,u⟩ _;refine aQ (aC (λY=>?_) λ_=>⟨gl (mf .i64) (TW bP G).symm,u.aF⟩);obtain⟨e,B⟩:=gx xs (i:=((k:Nat):Int).toNat) bP;refine aY Km (O.ext u.aF) bP B (λq U=>aE BO U (ud RI ?_));rw[Int.toNat_natCast]at B;exact bD (λE=>⟨gl (mf .i64) (TV B (by simpa using E) G).symm,u.aF⟩) (λE=>aM bP ⟨_,bP,k+1,rfl,rfl,bP,TU B (by simpa using E) G,u⟩)
def C32(K:hU)(p:Nat)(m:iB)(w:World)(hm:Has (fi K p m) w)(I:∀w',Ext w w'->K w')(B:nU m)(QR:m.mem.dZ=fM m.p):CR 32 [.pointer (some ⟨p,0,none⟩)] w (λv w'=>mD (bH v (lR m)) w w'):=by
 obtain⟨a,G⟩:=fi.rd hm (I _ (Ext.refl _));have O:=G.b.cell (o:=6) rfl;have J:=G.b.cell (o:=5) rfl;have gi:=rQ m.p;have Uz:m.mem.l.length=(jb m.p).length:=by rw[B.mem.ll,QR];unfold fM;rw[nP]
 have OV:(cX m.p).length=(jb m.p).length:=by unfold cX;rw[nP]
 have U9:(jb m.p).length<=20:=by have:=B.mem.fl;have:=B.mem.ll;omega
 have hcb:=B.pz.ef;have hcz:=B.pz.zc;obtain⟨g0,g1,g2,g3,g4,g5,Z,_,_,_,_,_,Zr⟩:=G.uk.pr _ (I _ (Ext.refl _));rw[Z]at J;obtain⟨E,L3,Jb⟩:=Zr.open;have Sk:=Jb.1;have u:=St.start w;refine Xs _ _ _ ?_;unfold S32;refine aD (aA uq (Iw a.pv fS (nY.ext G.b u.aF) rfl (aR Om u (C55 m.p a.pv _ (G.uk.pr _ (I _ u.aF)) B.pz) λ_ he u=>aD (aA uq (aA rZ (cD DB (J.ext u.aF) (aI BP (L3.ext u.aF) ?_)))))));refine⟨λmm o y w'=>∃k:Nat,y=hZ (k:Int)/\mm=E.length-k/\k<=E.length/\St w bF [bH o ((m.p.ef.take k).map (sm m))] w',⟨_,0,rfl,rfl,mj _,u.eD⟩,?_⟩
 rintro mm o _ _ ⟨k,rfl,rfl,hk,u⟩ _;refine aQ (aC (λc1=>?_) λc1=>?_);rotate_left
 .rw[kO bP]at u;exact u.fresh
 obtain⟨ct,U⟩:=gx E (i:=((k:Nat):Int).toNat) bP;obtain⟨cl,V⟩:=gx m.p.ef (i:=((k:Nat):Int).toNat) bP;obtain⟨ge,rfl,RF⟩:=Jb.2 _ ct cl U V;have ajT:=(hcz cl (l0 V)).1;refine⟨λjv w'=>St w bF [bH jv ((m.p.ef.take (k+1)).map (sm m))] w',?_,?_⟩;rotate_left
 .rintro o2 _ u _;exact aM bP ⟨_,bP,k+1,rfl,rfl,bP,u⟩
 refine aY BP (L3.ext u.aF) bP U (λq hq=>aE BS hq (aK u Gf λb6 _ u=>aH (x:=(⟨ge,cl.at_⟩:ig)) u BS rfl rfl λ_ u=>have u:=u.drew;aA BT (aB (v:=iS (ge:SV)) lF u.hb rfl (aD (aA yo (cD lT (O.ext u.aF) (j5 iN (G.uk.cs _ (I _ u.aF)) bP bP λs32 W=>fV Xv u (C27 K p m _ (hm.ext u.aF) (λ_ e=>I _ (u.aF.then e)) B) λx34 _ dw u=>?_)))))));refine⟨aX lF (u.p1.hb.cell rfl),?_⟩;refine⟨aX lT (O.ext u.aF),?_⟩;refine AD dG u.eS bP bP (λs36 h36=>aR abc u (C78 _ _ _ cl.e _ _ _ (DL.flat (RF.ext u.aF)) (W _ (G.uk.cs _ (I _ u.aF))) h36 ajT (by rw[mg];omega)) λ_ he u=>aJ rfl (aJ rfl (aG ?_)))
 have M:sm m cl=(decide ((vU ((cX m.p).take (ee m.p).toNat) (m.mem.l.take (ee m.p).toNat) cl.e).2=0)&&decide ((vU ((cX m.p).take (ee m.p).toNat) (m.mem.l.take (ee m.p).toNat) cl.e).1≠0)):=rfl;refine aC (λY=>?_) (λY=>?_)
 .refine cB (bK (([sm m cl]):List Bool) u Km rfl (by rw[M,fY Y,tM];rfl) (dQ rfl) λs47 w7 u=>?_);have YS:=u.eS;refine cO u.p3 Km YS (by rw[nP,mg,nB];omega) ea (λs48 w8 u=>?_);rw[<- nn (k:=k) V];exact u.p1.drop.p1.drop.p1.drop
 refine bK (([sm m cl]):List Bool) u Km rfl (by rw[M,fZ Y,Bool.false_and];rfl) (dQ rfl) (λs47 w7 u=>?_);have YS:=u.eS;refine cO u.p3 Km YS (by rw[nP,mg,nB];omega) ea (λs48 w8 u=>?_);rw[<- nn (k:=k) V];exact u.p1.drop.p1.drop.p1.drop
def C98(K:hU)(p:Nat)(m:iB)(pv:bZ)(w:World)(W:Has (fi K p m) w)(V:∀w',Ext w w'->K w')(G:nU m)(QR:m.mem.dZ=fM m.p)(Y:l3 w pv m.p):CR 98 [iS pv,.pointer (some ⟨p,0,none⟩)] w (λv w'=>∃ev:aU,v=iS ev/\mD (eH λw=>l3 w ev (QQ m)) w w'):=by
 have gi:=rQ m.p;have hcb:=G.pz.ef;have Uz:m.mem.l.length=(jb m.p).length:=by rw[G.mem.ll,QR];unfold fM;rw[nP]
 have u:=St.start w;refine YH _ _ _ _ ?_;unfold S98;refine cE (x:=pv) u (λb2 _ u=>aK u mY λb4 _ u=>have u:=u.enc (cs':=jn (⟨0,0,0,bY⟩:aU)) rfl;aR ac3 u (C21 K p m _ (W.ext u.aF) (λ_ e=>V _ (u.aF.then e)) G) λ_ U u=>aK u Gd λb5 _ u=>aH (x:=mR m) u ML rfl rfl λ_ u=>?_);have u:=u.drew;refine⟨λjv w'=>∃(b6:Nat) (B:SV),jv=.pointer (some ⟨b6,0,none⟩)/\St w bF [bM b6 (jn (⟨0,0,m.cL,B⟩:aU)),bH (iS (B:SV)) (m.mem.l.take (ee m.p).toNat),bM b5 (jn (mR m)),bM b4 (jn (⟨0,0,0,bY⟩:aU)),bM b2 (jn pv)] w',?_,?_⟩
 .refine aA RJ (aB (v:=hZ m.cL) bL u.hb rfl (aE fS u.p2.At ⟨fV Xv u (C27 K p m _ (W.ext u.aF) (λ_ e=>V _ (u.aF.then e)) G) (λx13 w6 dw u=>⟨aX bL (u.p1.hb.cell rfl),⟨ji fS u.p3.At,⟨?_,?_,trivial⟩⟩⟩),?_,trivial⟩))
  .refine aR Om u (C55 m.p pv _ (G7 Y u.aF) G.pz) (λw7 U u=>?_);refine⟨aX bL (u.p1.hb.cell rfl),?_⟩;refine nh dG u bP bP (λM u=>?_);obtain⟨B,rfl⟩:=u.gF;refine pop (wz m.cL _ _ _) (aK u mY λb6 w8 u=>?_);refine⟨aX bL (u.p2.hb.cell rfl),?_⟩;refine⟨ji fS u.p4.At,?_⟩;exact aH (x:=(⟨0,0,m.cL,B⟩:aU)) u gC rfl rfl (λ_ u=>⟨b6,_,rfl,u⟩)
  .refine aK u mY (λb6 w8 u=>?_);refine⟨aX bL (u.p2.hb.cell rfl),?_⟩;refine⟨ji fS u.p4.At,?_⟩;refine aR Om u (C55 m.p pv _ (G7 Y u.aF) G.pz) (λw7 U u=>?_);refine⟨aX bL (u.p2.hb.cell rfl),?_⟩;refine nh dG u.p1 bP bP (λM u=>?_);obtain⟨B,rfl⟩:=u.gF;exact pop (wz m.cL _ _ _) (aH (x:=(⟨0,0,m.cL,B⟩:aU)) u.p1 gC rfl rfl λ_ u=>⟨b6,_,rfl,u⟩)
  refine aK u mY (λb6 w8 u=>?_);refine⟨aX bL (u.p1.hb.cell rfl),?_⟩;refine⟨ji fS u.p3.At,?_⟩;refine fV Xv u (C27 K p m _ (W.ext u.aF) (λ_ e=>V _ (u.aF.then e)) G) (λx13 w6 dw u=>?_);refine⟨aX bL (u.p2.hb.cell rfl),?_⟩;refine⟨ji fS u.p4.At,?_⟩;refine aR Om u (C55 m.p pv _ (G7 Y u.aF) G.pz) (λw7 U u=>?_);refine⟨aX bL (u.p2.hb.cell rfl),?_⟩;refine nh dG u bP bP (λM u=>?_);obtain⟨B,rfl⟩:=u.gF;exact pop (wz m.cL _ _ _) (aH (x:=(⟨0,0,m.cL,B⟩:aU)) u.p1 gC rfl rfl λ_ u=>⟨b6,_,rfl,u⟩)
 rintro _ _ ⟨b6,B,rfl,u⟩ _;refine fV aiJ u (C32 K p m _ (W.ext u.aF) (λ_ e=>V _ (u.aF.then e)) G QR) (λx19 _ dw u=>aR aep u (C190 _ (lR m) _ u.eS (by unfold lR;rw[nP];omega)) λZ U u=>?_);have u:=u.drop;refine⟨λw'=>St w bF [bM b6 (jn (⟨(nV m).1,(nV m).2,m.cL,B⟩:aU)),bH (iS (B:SV)) (m.mem.l.take (ee m.p).toNat),bM b5 (jn (mR m)),bM b4 (jn (⟨0,0,0,bY⟩:aU)),bM b2 (jn pv)] w',?_,?_⟩
 .refine aA Ip (aB (v:=hZ m.fault) bL u.p2.hb rfl (cB (aC (λI=>?_) λI=>?_)))
  .rw[YK I];have u:=u.drew;refine aA Ip (aB (v:=hZ m.fault) bL u.p2.hb rfl (aA gO (aO u bL (dQ rfl) rfl λw20 u=>?_)));refine⟨aX bL (u.p2.hb.cell rfl),?_⟩;exact aA lM (aO u bL (dQ rfl) rfl λ_ u=>u)
  refine aA xL (aB (v:=.bool (nH m)) BO u.p2.hb rfl (bD (λJ=>?_) λJ=>?_))
  .rw[YL I J];exact aA gO (aO u bL (dQ rfl) rfl λ_ u=>u)
  refine⟨λjv w'=>jv=.bool (lz m&&decide (0<=xF (lR m)))/\w'=Z,?_,?_⟩
  .exact aA uh (aB (v:=.bool (lz m)) BO u.p2.hb rfl (bD (λE=>cJ ⟨vb (by rw[E,tM]),rfl⟩) λE=>⟨vb (by rw[E];rfl),rfl⟩))
  rintro _ _ ⟨rfl,rfl⟩ _;refine bD (λE=>?_) (λE=>?_)
  .rw[nu,decide_eq_true_iff]at E;rw[YM I J E.1 E.2];exact aA gO (aO u bL (dQ rfl) rfl λ_ u=>aA lM (aO u bL (dQ rfl) rfl λ_ u=>u))
  refine aA uh (aB (v:=.bool (lz m)) BO u.p2.hb rfl (bD (λO=>?_) λO=>?_))
  .rw[O,tM,decide_eq_false_iff_not]at E;rw[YN I J O E];exact aA gO (aO u bL (dQ rfl) rfl λ_ u=>u)
  rw[YO I J O];exact u
 rintro _ u _;exact aE (x:=(⟨(nV m).1,(nV m).2,m.cL,B⟩:aU)) gC u.At (aH (x:=(⟨(nV m).1,(nV m).2,m.cL,B⟩:aU)) u.p3 gC rfl rfl λ_ u=>aE (x:=(⟨(nV m).1,(nV m).2,m.cL,B⟩:aU)) gC u.At (have u:=u.drop.drop.p1.drop.p1.drop.freeze.dH (Ψ:=λw=>l3 w (⟨(nV m).1,(nV m).2,m.cL,B⟩:aU) (QQ m)) (λ_ h=>⟨B,rfl,DL.gG h⟩);⟨_,rfl,u.fresh⟩))
def aeq(s:jx):pr hM (UF 56 (iS s) 0)=some (hZ s.cL):=by
 obtain⟨a,b,c,d,e⟩:=s
 kernel_rfl
def C97(K:hU)(p:bQ)(pv:bZ)(room c:Int)(lv:Value)(l:List bG)(w:World)(I:∀w',Ext w w'->K w')(hp:Me K pv p)(hz:PZ p)(hl:VJ K lv l)(GV:l.length<=1000)(YT:∀q∈l,q.cut.length<=1000) :
  CR 97 [iS pv,hZ room,hZ c,lv] w (λv w'=>(gg p room c≠0/\v=.tuple #[.pointer none,.slice none 0 0,hZ (gg p room c)]/\Ext w w')\/
  (gg p room c=0/\∃(b:Nat) (X:hU) (ov:Value),v=.tuple #[.pointer (some ⟨b,0,none⟩),ov,hZ (rR c (jc p room) [] l).2.2]/\wA p 1000 (rR c (jc p room) [] l).1/\(rR c (jc p room) [] l).1.mem.dZ=fM p/\mD (sep (fi (λw=>K w/\X w) b (rR c (jc p room) [] l).1) (sep (bH ov (rR c (jc p room) [] l).2.1) (eH X))) w w')):=by
 have u:=St.start w;refine YG _ _ _ _ _ _ ?_;unfold S97;refine cE (x:=pv) u (λb4 _ u=>aE fS u.At (dW aiK (C17 K p pv room _ (λ_ e=>I _ (u.aF.then e)) hp hz) ?_));rintro v21 w2 (⟨h1,rfl,U⟩|⟨V,h1,rfl,U⟩|⟨V,hr,b,X,rfl,dw⟩)
 .have u:=u.ext U;refine aJ rfl (aJ rfl (cB (aC (λ_=>?_) λh=>absurd h1 h)));have e:gg p room c=eI p:=by unfold gg;rw[fh h1]
  rw[e];exact .inl ⟨h1,rfl,u.drop.aF⟩
 .have u:=u.ext U;refine aJ rfl (aJ rfl (cB (aC (λ_=>?_) λh=>absurd (by decide:(1:Int)≠0) h)));have e:gg p room c=1:=by unfold gg;rw[fg (by rw[V];decide),fh h1]
  rw[e];exact .inl ⟨ea,rfl,u.drop.aF⟩
 have QK:=JZ V;have u:=(u.made dw).split;refine aJ rfl (aJ rfl (cB (aC (λh=>absurd rfl h) λ_=>?_)));refine⟨λjv w'=>jv=.bool (decide (c<0\/8<c))/\w'=w2,?_,?_⟩
 .exact aQ (aC (λh=>⟨vb (fY (.inl h)).symm,rfl⟩) λ_=>dL ⟨vb (ga.2 bP),rfl⟩)
 rintro _ _ ⟨rfl,rfl⟩ _;refine aC (λh2=>?_) (λh2=>?_)
 .have e:gg p room c=1:=by unfold gg;rw[fg (by rw[V];decide),fg bP,fh h2]
  rw[e];exact .inl ⟨ea,rfl,u.drop.drop.drop.aF⟩
 have hse:gg p room c=0:=by unfold gg;rw[fg (by rw[V];decide),fg bP,fg h2]
 obtain⟨ts,G⟩:=hl;have hn:ts.length=l.length:=(G _ (I _ u.aF)).2.1
 have YU:∀(k:Nat) (m:iB) (ov:Value) (out:List cQ) (f:Int) (w':World),k<=l.length->wA p k m->m.mem.dZ=fM p->(rR c (jc p room) [] l)=(m,out,f)->St w bF [bH ov out,fi (λw=>K w/\X w) b m,eH X,bM b4 (jn pv)] w'->
   (gg p room c≠0/\Nv #[.pointer (some ⟨b,0,none⟩),ov,hZ f]=.tuple #[.pointer none,.slice none 0 0,hZ (gg p room c)]/\Ext w w')\/
   (gg p room c=0/\∃(b':Nat) (X:hU) (Y:Value),Nv #[.pointer (some ⟨b,0,none⟩),ov,hZ f]=.tuple #[.pointer (some ⟨b',0,none⟩),Y,hZ (rR c (jc p room) [] l).2.2]/\wA p 1000 (rR c (jc p room) [] l).1/\(rR c (jc p room) [] l).1.mem.dZ=fM p/\mD (sep (fi (λw=>K w/\X w) b' (rR c (jc p room) [] l).1) (sep (bH Y (rR c (jc p room) [] l).2.1) (eH X))) w w'):=by
  intro k m ov out f w' hk B hf U u;rw[U];have u:=St.join u.p3.drop.p2.p1;exact .inr ⟨hse,b,X,ov,rfl,B.mono bP,hf,(St.join u.p1).fresh⟩
 refine aI ui (G _ (I _ u.aF)).1 ?_
 refine⟨λmm o y w'=>∃(k:Nat) (m:iB) (out:List cQ),y=hZ (k:Int)/\mm=ts.length-k/\k<=l.length/\out.length<=k/\wA p k m/\m.mem.dZ=fM p/\(rR c (jc p room) [] l)=rR c m out (l.drop k)/\St w bF [bH o out,fi (λw=>K w/\X w) b m,eH X,bM b4 (jn pv)] w',
  ⟨_,0,jc p room,[],rfl,rfl,mj _,Nat.le_refl _,wA.new hz QK hr,rfl,rfl,u.eD⟩,?_⟩
 rintro mm ov _ w4 ⟨k,m,out,rfl,rfl,hk,ho,B,QR,E,u⟩ _;refine aQ (aC (λc1=>?_) λc1=>?_);rotate_left
 .rw[List.drop_of_length_le bP]at E;exact YU k m ov out 0 w4 hk B QR E u
 obtain⟨q,hq⟩:=gx l (i:=k) bP;obtain⟨tq,Z⟩:=gx ts (i:=((k:Nat):Int).toNat) bP;have W:∀w',K w'->l3 w' tq q:=λw' h=>(G w' h).2.2 k tq q Z hq;obtain⟨M,rfl,_⟩:=W _ (I _ u.aF)
 have hgc:∀w',K w'->dy (λ_=>True) w' (iS M) q.cut:=λw' h=>by
  obtain⟨gc2,e,h3⟩:=W w' h;cases e
  exact DL.flat h3
 have hqc:=YT q (l0 hq)
 have Oq:l.drop k=q::l.drop (k+1):=by
  obtain⟨h1,h2⟩:=j0.1 hq;rw[pd h1,h2]
 rw[Oq]at E;have FQ:=B.mb.mono (b:=1000000) bP;have DM:=B.cr;refine aY ui (G _ (I _ u.aF)).1 bP Z (λq37 h37=>aE oF h37 (aK u BR λb15 _ u=>aH (x:=(⟨q.kind,q.t,q.i,M⟩:aU)) u oF rfl rfl λ_ u=>?_));refine⟨λjv w'=>jv=.bool (decide (q.kind=3/\c<=m.cL))/\St w bF [bM b15 (jn (⟨q.kind,q.t,q.i,M⟩:aU)),bH ov out,fi (λw=>K w/\X w) b m,eH X,bM b4 (jn pv)] w',?_,?_⟩
 .exact aA uj (aB (v:=hZ q.kind) bL u.hb rfl (aG (aC (λJ=>aR ac3 u (C21 (λw=>K w/\X w) b m _ u.p2.has (λ_ e=>⟨I _ (u.aF.then e),(u.ext e).p3.eH⟩) B.ok) λ_ _ u=>pop (aeq (mR m)) (cJ ⟨vb (ga.2 ⟨λh=>⟨J,h⟩,λh=>h.2⟩),u⟩)) λJ=>⟨vb (fZ λh=>J h.1).symm,u⟩)))
 rintro _ w8 ⟨rfl,u⟩ _;refine aC (λJ=>?_) (λJ=>?_)
 .rw[rR,fh J]at E;exact YU k m ov out 14 w8 hk B QR E u.drop
 rw[rR,fg J]at E;refine aE (x:=(⟨q.kind,q.t,q.i,M⟩:aU)) oF u.At (aS aiG u.p2 (H':=λ_=>fi (λw=>K w/\X w) b (vf m q).1) (Φ:=λv _=>v=.tuple #[iS (vf m q).2.1,hZ (vf m q).2.2]) (λF2 dP dK=>?_) ?_)
 .exact C37 (λw=>K w/\X w) b m q M F2 _ dP (λw' hc=>⟨I _ (dK w' hc).aF,(dK w' hc).p2.eH⟩) B.ok (B.pr▸QK) FQ bP (λw' hc=>hgc _ (I _ (dK w' hc).aF)) hqc
 rintro _ _ rfl u;refine aJ rfl (aJ rfl (aK u qP λb16 _ u=>aH (x:=(vf m q).2.1) u iC rfl rfl λw11 u=>cB ?_));have CX:=B.step (q:=q) QK;have O:=(YJ B.ok q).trans QR;refine aC (λc3=>?_) (λc3=>?_)
 .rw[fh c3]at E;exact YU (k+1) _ ov out _ w11 bP CX O E u.drop.p1.drop.p1
 rw[fg c3]at E;refine aE (x:=(vf m q).2.1) iC u.At (bK [(vf m q).2.1] u Ge rfl rfl (dQ rfl) λs64 _ u=>?_);have ajU:=u.eS;refine cO u.p4 Ge ajU (by rw[nB];omega) ea (λs65 _ u=>aM bP ?_);refine⟨ts.length-(k+1),bP,k+1,_,out++[(vf m q).2.1],rfl,rfl,bP,by rw[List.length_append,nB];omega,CX,O,E,?_⟩;exact u.p1.drop.p1.drop.p2.drop
def C40(K:hU)(p:bQ)(pv:bZ)(room c:Int)(lv:Value)(l:List bG)(w:World)(I:∀w',Ext w w'->K w')(J:Me K pv p)(M:PZ p)(U:VJ K lv l)(O:l.length<=1000)(V:∀q∈l,q.cut.length<=1000) :
  CR 40 [iS pv,hZ room,hZ c,lv] w (λv w'=>∃(ev:aU) (ov:Value),v=.tuple #[iS ev,ov,hZ (qe p room c l).2.2.1,hZ (qe p room c l).2.2.2]/\mD (sep (eH λw=>l3 w ev (qe p room c l).1) (bH ov (qe p room c l).2.1)) w w'):=by
 have u:=St.start w;refine YE _ _ _ _ _ _ ?_;unfold S40;refine cE (x:=pv) u (λb4 _ u=>aK u mY λb8 _ u=>have u:=u.enc (cs':=jn (⟨0,0,0,bY⟩:aU)) rfl;aE fS u.p1.At (dW aeo (C97 K p pv room c lv l _ (λ_ e=>I _ (u.aF.then e)) J M U O V) ?_));rintro Y w3 (⟨h1,rfl,W⟩|⟨h1,b,X,ov,rfl,E,QR,G⟩)
 .have u:=u.ext W;refine aJ rfl (aJ rfl (aJ rfl (cB (aC (λ_=>?_) λh=>absurd h1 h))));refine pop QL (aI Ge (dy.nil (α:=cQ) (λ_=>True) w) (aH (x:=(⟨0,0,0,bY⟩:aU)) u gC rfl rfl λZ u=>aE (x:=(⟨0,0,0,bY⟩:aU)) gC u.At ?_));rw[YP h1];exact⟨_,_,rfl,(St.join ((u.drop.drop.eD (α:=cQ)).fG (Φ:=λw=>l3 w (⟨0,0,0,bY⟩:aU) zE) VK)).fresh⟩
 have u:=(((u.made G).split).p1.split);refine aJ rfl (aJ rfl (aJ rfl (cB (aC (λh2=>?_) λh2=>?_))))
 .refine pop QL (aI Ge u.eS (aH (x:=(⟨0,0,0,bY⟩:aU)) u.p3 gC rfl rfl λZ u=>aE (x:=(⟨0,0,0,bY⟩:aU)) gC u.At ?_));rw[YQ h1 h2];exact⟨_,_,rfl,(St.join ((u.drop.drop.drop.drop.drop.eD (α:=cQ)).fG (Φ:=λw=>l3 w (⟨0,0,0,bY⟩:aU) zE) VK)).fresh⟩
 have h3:(rR c (jc p room) [] l).2.2=0:=BL.1 h2;refine aE fS u.p4.At (dW ajR (C98 (λw=>K w/\X w) b (rR c (jc p room) [] l).1 pv _ u.p2.has (λ_ e=>⟨I _ (u.aF.then e),(u.ext e).p1.eH⟩) E.ok (QR.trans (by rw[E.pr])) (by rw[E.pr];exact J.pr _ (I _ u.aF))) ?_);rintro _ _ ⟨B,rfl,G⟩;have u:=u.made G;refine aH (x:=B) u.p4 gC rfl rfl (λ_ u=>aE (x:=B) gC u.At ?_);rw[YR h1 h3];exact⟨B,ov,rfl,(St.join u.drop.p2.drop.p2.drop.p2.drop).fresh⟩
def C45(K:hU)(p:bQ)(pv:bZ)(room c:Int)(lv:Value)(l:List bG)(w:World)(V:∀w',Ext w w'->K w')(B:Me K pv p)(E:PZ p)(I:VJ K lv l)(G:l.length<=1000)(J:∀q∈l,q.cut.length<=1000) :
  CR 45 [iS pv,hZ room,hZ c,lv] w (λv w'=>v=hZ (TR p room c l:Int)/\Ext w w'):=by
 have u:=St.start w;refine YF _ _ _ _ _ _ ?_;unfold S45;refine cE (x:=pv) u (λb4 _ u=>aE fS u.At (dW aeo (C97 K p pv room c lv l _ (λ_ e=>V _ (u.aF.then e)) B E I G J) ?_));rintro O Y (⟨h1,rfl,M⟩|⟨h1,b,X,ov,rfl,W,Z,U⟩)
 .have u:=u.ext M;refine aJ rfl (aJ rfl (aJ rfl (aI Ge (dy.nil (α:=cQ) (λ_=>True) w) ?_)));unfold TR;rw[QP h1];exact⟨rfl,u.drop.aF⟩
 have e:QO p room c l=((rR c (jc p room) [] l).2.1,(rR c (jc p room) [] l).2.2):=by unfold QO;rw[fg (by rw[h1];decide)]
 have u:=(((u.made U).split).p1.split);refine aJ rfl (aJ rfl (aJ rfl (aI Ge u.eS ?_)));unfold TR;rw[e];exact⟨rfl,u.drop.drop.drop.drop.aF⟩
variable (w:World) (K:Value->hU)
def S12(G b1:Value):Prop:=
 mw hM (qv 24 G) w λE a=>mw hM (qv 24 b1) a λb3 b=>eF (λB=>fA 24 E 0 λc=>lA 3 c b λd=>fA 24 b3 0 λe=>lA 3 e b λf=>bA .eql 3 d f λg=>
 cV g (fA 24 E 1 λh=>lA 3 h b λj=>fA 24 b3 1 λk=>lA 3 k b λl=>bA .eql 3 j l λn=>cV n (fA 24 E 2 λo=>lA 3 o b λp=>fA 24 b3 2 λq=>lA 3 q b λr=>bA .eql 3 p r λs=>
 cV s (fA 24 E 3 λt=>lA 22 t b λu=>fA 24 b3 3 λv=>lA 22 v b λx=>cF 26 [u,x] b λy z=>B y z) (B ff b)) (B ff b)) (B ff b)) (λI J=>∀_:Env,
 K I J)
theorem YV(u b1:Value)(h:S12 w K u b1):CR 12 [u,b1] w K:=
 lL 31 (λ_=>.nil) 16 [.tmp 4] Tryz.func12 h
def S8(e0:Value):Prop:=
 mw hM (qv 24 e0) w λB a=>eF (λu=>fA 24 B 0 λb=>lA 3 b a λc=>bB .geq 3 c (i 2) λd=>cV d (fA 24 B 0 λe=>lA 3 e a λf=>bB .leq 3 f (i 4) λg=>
 u g a) (u ff a)) (λh j=>∀_:Env,
 K h j)
theorem aes(e0:Value)(h:S8 w K e0):CR 8 [e0] w K:=
 lL 11 (λ_=>.nil) 4 [.tmp 2] Tryz.func8 h
def S7(e0:Value):Prop:=
 mw hM (qv 24 e0) w λB a=>eF (λu=>fA 24 B 0 λb=>lA 3 b a λc=>bB .eql 3 c (i 2) λd=>cV d (u tt a) (fA 24 B 0 λe=>lA 3 e a λf=>bB .eql 3 f (i 3) λg=>
 cV g (u tt a) (fA 24 B 0 λh=>lA 3 h a λj=>bB .eql 3 j (i 4) λk=>u k a))) (λl n=>∀_:Env,
 K l n)
theorem aet(e0:Value)(h:S7 w K e0):CR 7 [e0] w K:=
 lL 16 (λ_=>.nil) 4 [.tmp 2] Tryz.func7 h
theorem ajV:PL 12:=dD Tryz.func12
theorem pl8:PL 8:=dD Tryz.func8
theorem pl7:PL 7:=dD Tryz.func7
end Go.Proofs.YtdncbeepkacgbaaGreatDoor
namespace Go.Proofs.YtdncbeepkacgbaaGreatDoor
open Go.Fw
def TY(e:bG):Bool:=decide (2<=e.kind/\e.kind<=4)
def C12(a:bG)(U:aU)(b:bG)(O:aU)(w:World)(E:l3 w U a)(hb:l3 w O b)(V:a.cut.length<=1073741824):CR 12 [iS U,iS O] w (λv w'=>v=.bool (decide (a=b))/\Ext w w'):=by
 obtain⟨G,rfl,E⟩:=E;obtain⟨J,rfl,hb⟩:=hb;have u:=St.start w;refine YV _ _ _ _ ?_;unfold S12;refine cE (x:=(⟨a.kind,a.t,a.i,G⟩:aU)) u (λb2 _ u=>cE (x:=(⟨b.kind,b.t,b.i,J⟩:aU)) u λb3 _ u=>?_);refine⟨λW w'=>W=.bool (decide (a=b))/\St w bF [bM b3 (jn (⟨b.kind,b.t,b.i,J⟩:aU)),bM b2 (jn (⟨a.kind,a.t,a.i,G⟩:aU))] w',?_,?_⟩
 .refine aA gO (aB (v:=hZ a.kind) bL u.p1.hb rfl (aA gO (aB (v:=hZ b.kind) bL u.hb rfl (aG (aC (λM=>?_) λM=>⟨vb (fZ λh=>M (by rw[h])).symm,u⟩)))));refine aA lM (aB (v:=hZ a.t) bL u.p1.hb rfl (aA lM (aB (v:=hZ b.t) bL u.hb rfl ?_)));exact aG (aC (λI=>aA nZ (aB (v:=hZ a.i) bL u.p1.hb rfl (aA nZ (aB (v:=hZ b.i) bL u.hb rfl (aG (aC (λB=>aA gA (aB (v:=iS (G:SV)) eK u.p1.hb rfl (aA gA (aB (v:=iS (J:SV)) eK u.hb rfl (aR af1 u (C26 _ _ a.cut b.cut _ (DL.flat (E.ext u.aF)) (DL.flat (hb.ext u.aF)) V) λ_ _ u=>⟨vb (ga.2 ⟨λh=>TM.2 ⟨M,I,B,h⟩,λh=>by rw[h]⟩),u⟩))))) λB=>⟨vb (fZ λh=>B (by rw[h])).symm,u⟩)))))) λI=>⟨vb (fZ λh=>I (by rw[h])).symm,u⟩)
 rintro _ _ ⟨rfl,u⟩ _;exact⟨rfl,u.drop.drop.aF⟩
def C8(e:bG)(ev:aU)(w:World)(G:l3 w ev e):CR 8 [iS ev] w (λv w'=>v=.bool (TY e)/\Ext w w'):=by
 obtain⟨g,rfl,_⟩:=G;have u:=St.start w;refine aes _ _ _ ?_;unfold S8;refine cE (x:=(⟨e.kind,e.t,e.i,g⟩:aU)) u (λb2 _ u=>?_);refine⟨λE w'=>E=.bool (TY e)/\St w bF [bM b2 (jn (⟨e.kind,e.t,e.i,g⟩:aU))] w',?_,?_⟩
 .exact aA gO (aB (v:=hZ e.kind) bL u.hb rfl (cJ (aC (λB=>aA gO (aB (v:=hZ e.kind) bL u.hb rfl (gL ⟨vb (ga.2 ⟨λh=>⟨B,h⟩,λh=>h.2⟩),u⟩))) λB=>⟨vb (fZ λh=>B h.1).symm,u⟩)))
 rintro _ _ ⟨rfl,u⟩ _;exact⟨rfl,u.drop.aF⟩
def C7(e:bG)(ev:aU)(w:World)(E:l3 w ev e):CR 7 [iS ev] w (λv w'=>v=.bool (TY e)/\Ext w w'):=by
 obtain⟨g,rfl,_⟩:=E;have u:=St.start w;refine aet _ _ _ ?_;unfold S7;refine cE (x:=(⟨e.kind,e.t,e.i,g⟩:aU)) u (λb2 _ u=>?_);refine⟨λB w'=>B=.bool (TY e)/\St w bF [bM b2 (jn (⟨e.kind,e.t,e.i,g⟩:aU))] w',?_,?_⟩
 .exact aA gO (aB (v:=hZ e.kind) bL u.hb rfl (aG (aC (λ_=>⟨vb (fY bP).symm,u⟩) λ_=>aA gO (aB (v:=hZ e.kind) bL u.hb rfl (aG (aC (λ_=>⟨vb (fY bP).symm,u⟩) λ_=>aA gO (aB (v:=hZ e.kind) bL u.hb rfl (aG ⟨vb (ga.2 bP),u⟩))))))))
 rintro _ _ ⟨rfl,u⟩ _;exact⟨rfl,u.drop.aF⟩
variable (w:World) (K:Value->hU)
def S191(a:Value):Prop:=
 bA .neq 3 a a λb=>K b w
theorem TZ(u:Value)(h:S191 w K u):CR 191 [u] w K:=
 lL 6 (λ_=>.nil) 4 [.tmp 2] Tryz.func191 h
def S99(a u:Value):Prop:=
 cF 191 [a] w λb c=>cF 191 [u] c λd e=>cV b (cV d (K (i 0) e) (K (i (-1)) e)) (cV d (K (i 1) e) (bA .lss 3 a u λf=>cV f (K (i (-1)) e) (bA .gtr 3 a u λg=>cV g (K (i 1) e) (
 K (i 0) e))))
theorem YW(B u:Value)(h:S99 w K B u):CR 99 [B,u] w K:=
 lL 20 (λ_=>.nil) 16 [.tmp 4] Tryz.func99 h
def S41(B:Value):Prop:=
 lN 164 B λa=>jA (λu b c=>∀_:Env,
 bA .lss 3 b a λd=>cV d (iA 164 B b λe=>lA 82 e c λf=>aL 82 c λg h=>sA 82 g f h λj=>fA 82 g 0 λk=>lA 3 k j λl=>fA 82 g 1 λn=>lA 3 n j λo=>cF 99 [l,o] j λp q=>
 bB .neq 3 p (i 0) λr=>cV r (K p q) (bB .add 3 b (i 1) λs=>u s q)) (K (i 0) c)) (λu=>u (i 0) w)
theorem YX(u:Value)(h:S41 w K u):CR 41 [u] w K:=
 lL 21 (λ_=>.nil) 4 [.tmp 2] Tryz.func41 h
def S42(B:Value):Prop:=
 lN 22 B λa=>jA (λu b c=>∀_:Env,
 bA .lss 3 b a λd=>cV d (iA 22 B b λe=>lA 3 e c λf=>bA .neq 3 f (i 0) λg=>cV g (K f c) (bB .add 3 b (i 1) λh=>u h c)) (K (i 0) c)) (λu=>u (i 0) w)
theorem YY(u:Value)(h:S42 w K u):CR 42 [u] w K:=
 lL 18 (λ_=>.nil) 4 [.tmp 2] Tryz.func42 h
def S43(B u:Value):Prop:=
 lN 22 B λa=>jA (λE b c=>∀_:Env,
 bA .lss 3 b a λd=>cV d (iA 22 B b λe=>lA 3 e c λf=>lN 22 u λg=>bA .geq 3 b g λh=>cV h (K (i 1) c) (iA 22 u b λj=>lA 3 j c λk=>cF 99 [f,k] c λl n=>
 bB .neq 3 l (i 0) λo=>cV o (K l n) (bB .add 3 b (i 1) λp=>E p n))) (lN 22 B λq=>lN 22 u λr=>bA .lss 3 q r λs=>cV s (K (i (-1)) c) (K (i 0) c))) (λE=>E (i 0) w)
theorem YZ(B u:Value)(h:S43 w K B u):CR 43 [B,u] w K:=
 lL 36 (λ_=>.nil) 16 [.tmp 4] Tryz.func43 h
def S9(M b1:Value):Prop:=
 mw hM (qv 24 M) w λB a=>mw hM (qv 24 b1) a λb3 b=>fA 24 B 0 λc=>lA 3 c b λd=>fA 24 b3 0 λe=>lA 3 e b λf=>dX hM (l1 82 [(0,d),(1,f)].toArray) λg=>
 fA 24 B 1 λh=>lA 3 h b λj=>fA 24 b3 1 λk=>lA 3 k b λl=>dX hM (l1 82 [(0,j),(1,l)].toArray) λn=>fA 24 B 2 λo=>lA 3 o b λp=>fA 24 b3 2 λq=>
 lA 3 q b λr=>dX hM (l1 82 [(0,p),(1,r)].toArray) λs=>bS 164 3 [(0,g),(1,n),(2,s)] b λt u=>cF 41 [t] u λv x=>fA 24 B 3 λy=>lA 22 y x λz=>
 fA 24 b3 3 λO=>lA 22 O x λW=>cF 43 [z,W] x λJ E=>bS 22 2 [(0,v),(1,J)] E λG Y=>cF 42 [G] Y λV U=>bB .lss 3 V (i 0) λI=>K I U
theorem aeu(u b1:Value)(h:S9 w K u b1):CR 9 [u,b1] w K:=
 lL 32 (λ_=>.nil) 16 [.tmp 4] Tryz.func9 h
def S11(E b1:Value):Prop:=
 mw hM (qv 24 E) w λB a=>mw hM (qv 24 b1) a λb3 b=>eF (λu=>lA 24 B b λc=>lA 24 b3 b λd=>cF 9 [c,d] b λe f=>dX hM (Op.unary .not e) λg=>
 cV g (lA 24 b3 f λh=>lA 24 B f λj=>cF 9 [h,j] f λk l=>dX hM (Op.unary .not k) λn=>u n l) (u ff f)) (λo p=>∀_:Env,
 K o p)
theorem Y0(u b1:Value)(h:S11 w K u b1):CR 11 [u,b1] w K:=
 lL 15 (λ_=>.nil) 16 [.tmp 4] Tryz.func11 h
def S13(u:Value):Prop:=
 eF (λB=>bB .lss 3 u (i 0) λa=>cV a (B tt w) (bB .geq 3 u (i 5) λb=>B b w)) (λc d=>∀_:Env,
 cV c (K (Go.Value.string (ia (#[]))) d) (dX hM (l1 85 [(0,(Go.Value.string (ia (#[111,112,101,110])))),(1,(Go.Value.string (ia (#[115,97,102,101])))),(2,(Go.Value.string (ia (#[99,108,97,105,109])))),(3,(Go.Value.string (ia (#[102,97,117,108,116])))),(4,(Go.Value.string (ia (#[115,116,117,99,107]))))].toArray) λe=>
 dX hM (Instr.index 85 e u) λf=>K f d))
theorem Y3(u:Value)(h:S13 w K u):CR 13 [u] w K:=
 lL 12 (λ_=>.nil) 4 [.tmp 2] Tryz.func13 h
theorem VL:PL 191:=dD Tryz.func191
theorem aev:PL 99:=dD Tryz.func99
theorem ajX:PL 41:=dD Tryz.func41
theorem ajY:PL 42:=dD Tryz.func42
theorem ajZ:PL 43:=dD Tryz.func43
theorem pl9:PL 9:=dD Tryz.func9
theorem T0:PL 11:=dD Tryz.func11
theorem Y4:PL 13:=dD Tryz.func13
end Go.Proofs.YtdncbeepkacgbaaGreatDoor
namespace Go.Proofs.YtdncbeepkacgbaaGreatDoor
open Go.Fw
def wB(u:Int)(B:Int):pr hM (l1 82 [(0,hZ u),(1,hZ B)].toArray)=some (.agg [hZ u,hZ B].toArray):=by kernel_rfl
def xG(u:ByteArray)(G:ByteArray)(I:ByteArray)(B:ByteArray)(E:ByteArray):pr hM (l1 85 [(0,.string u),(1,.string G),(2,.string I),(3,.string B),(4,.string E)].toArray)=some (.agg [.string u,.string G,.string I,.string B,.string E].toArray):=by kernel_rfl
@[ext] structure jE where
 a:Int
 b:Int
deriving DecidableEq
instance:Flat jE where
 agg:=true
 sz:=2
 enc e:=[hZ e.a,hZ e.b]
 val e:=.agg [hZ e.a,hZ e.b].toArray
 pos:=ea
 len _:=rfl
 one a v h:=by grind[qD]
 lj _ _:=rfl
 lD h:=by cases h
instance:Deep jE jE:=fL
def gz:List Int->List Int->Bool
 | [],[]=>false
 | [],_::_=>true
 | _::_,[]=>false
 | a::r,b::s=>if a=b then gz r s else decide (a<b)
theorem zM:∀l:List Int,gz l l=false
 | []=>rfl
 | a::r=>by unfold gz;rw[fh rfl];exact zM r
theorem Fx:∀{a b:List Int},gz a b=false->gz b a=false->a=b
 | [],[],_,_=>rfl
 | [],_::_,h,_=>by cases h
 | _::_,[],_,h=>by cases h
 | a::r,b::s,h,h2=>by
  unfold gz at h h2
  by_cases e:a=b
  .rw[fh e]at h;rw[fh e.symm]at h2;rw[e,Fx h h2]
  grind
def lh(a b:bG):Bool:=gz ([a.kind,a.t,a.i]++a.cut) ([b.kind,b.t,b.i]++b.cut)
def J4(a b:bG):Bool:=decide (a=b)
def Y5{a b:bG}(h:[a.kind,a.t,a.i]++a.cut=[b.kind,b.t,b.i]++b.cut):a=b:=by
 cases a;simp_all
theorem LQ(a b:bG):J4 a b=(!lh a b&&!lh b a):=by
 unfold J4
 by_cases e:a=b
 .subst e
  have:lh a a=false:=zM _
  grind
 rw[fZ e]
 cases h1:lh a b with
 | true=>rfl
 | false=>
  cases h2:lh b a with
  | true=>rfl
  | false=>exact absurd (Y5 (Fx h1 h2)) e
def rS(a b:Int):Int:=if a<b then -1 else if b<a then 1 else 0
def wC:List jE->Int
 | []=>0
 | p::r=>if rS p.a p.b=0 then wC r else rS p.a p.b
def orM:List Int->Int
 | []=>0
 | a::r=>if a=0 then orM r else a
def nN:List Int->List Int->Int
 | [],[]=>0
 | [],_::_=>-1
 | _::_,[]=>1
 | a::r,b::s=>if rS a b=0 then nN r s else rS a b
def T1{l:List jE}{k:Nat}{e:jE}(h:l[k]?=some e)(hc:rS e.a e.b=0):wC (l.drop k)=wC (l.drop (k+1)):=by
 rw[lC h,wC,fh hc]
def T3{l:List jE}{k:Nat}{e:jE}(h:l[k]?=some e)(hc:¬ rS e.a e.b=0):wC (l.drop k)=rS e.a e.b:=by
 rw[lC h,wC,fg hc]
def Y6{l:List Int}{k:Nat}{e:Int}(h:l[k]?=some e)(hc:e=0):orM (l.drop k)=orM (l.drop (k+1)):=by
 rw[lC h,orM,fh hc]
def Y7{l:List Int}{k:Nat}{e:Int}(h:l[k]?=some e)(hc:¬ e=0):orM (l.drop k)=e:=by
 rw[lC h,orM,fg hc]
def T4{l m:List Int}{k:Nat}{a b:Int}(h:l[k]?=some a)(h2:m[k]?=some b)(hc:rS a b=0):nN (l.drop k) (m.drop k)=nN (l.drop (k+1)) (m.drop (k+1)):=by
 rw[lC h,lC h2,nN,fh hc]
def T5{l m:List Int}{k:Nat}{a b:Int}(h:l[k]?=some a)(h2:m[k]?=some b)(hc:¬ rS a b=0):nN (l.drop k) (m.drop k)=rS a b:=by
 rw[lC h,lC h2,nN,fg hc]
def QS{l m:List Int}{k:Nat}{a:Int}(h:l[k]?=some a)(h2:m.length<=k):nN (l.drop k) (m.drop k)=1:=by
 rw[lC h,ot h2,nN]
theorem Fy{l m:List Int}{k:Nat}(h:l.length<=k)(h1:k<=m.length)(h2:k<=l.length):nN (l.drop k) (m.drop k)=if l.length<m.length then -1 else 0:=by
 rw[ot h]
 by_cases e:l.length<m.length
 .rw[fh e]
  obtain⟨b,hb⟩:=gx m (i:=k) bP
  rw[lC hb,nN]
 grind[nN]
def LR{a b:Int}:rS a b=0↔a=b:=by grind[rS]
theorem Bv:∀(a b:List Int),decide (nN a b<0)=gz a b
 | [],[]=>rfl
 | [],_::_=>rfl
 | _::_,[]=>rfl
 | a::r,b::s=>by
  rw[nN,gz]
  by_cases e:a=b
  .rw[fh (LR.2 e),fh e,Bv r s]
  grind[rS,nN,gz]
def VM(a b:bG):List jE:=[⟨a.kind,b.kind⟩,⟨a.t,b.t⟩,⟨a.i,b.i⟩]
def T6(a b:bG):decide (orM [wC (VM a b),nN a.cut b.cut]<0)=lh a b:=by
 unfold lh
 rw[<- Bv]
 simp only[F1,sk,VM,orM,wC,nN]
 grind
def nmL:List ByteArray:=[ia #[111,112,101,110],ia #[115,97,102,101],ia #[99,108,97,105,109],ia #[102,97,117,108,116],ia #[115,116,117,99,107]]
def Bw(k:Int):ByteArray:=if k<0\/5<=k then ia #[]else nmL.getD k.toNat (ia #[])
def C191(a:Int)(w:World):CR 191 [hZ a] w (λv w'=>v=.bool false/\Ext w w'):=by
 have u:=St.start w;refine TZ _ _ _ ?_;unfold S191;exact cB ⟨vb ew,u.aF⟩
def C99(x y:Int)(w:World):CR 99 [hZ x,hZ y] w (λv w'=>v=hZ (rS x y)/\Ext w w'):=by
 have u:=St.start w;refine YW _ _ _ _ ?_;unfold S99;refine aR VL u (C191 _ _) (λ_ G u=>aR VL u (C191 _ _) λ_ G u=>ep (ep (aQ (aC (λB=>?_) λB=>dL (aC (λE=>?_) λE=>?_)))))
 .unfold rS
  first|(rw[fh (show x<y from B)];exact⟨rfl,u.aF⟩)|(rw[fg (show ¬ x<y from B),fh (show y<x from E)];exact⟨rfl,u.aF⟩)|(rw[fg (show ¬ x<y from B),fg (show ¬ y<x from E)];exact⟨rfl,u.aF⟩)
 .unfold rS
  first|(rw[fh (show x<y from B)];exact⟨rfl,u.aF⟩)|(rw[fg (show ¬ x<y from B),fh (show y<x from E)];exact⟨rfl,u.aF⟩)|(rw[fg (show ¬ x<y from B),fg (show ¬ y<x from E)];exact⟨rfl,u.aF⟩)
 unfold rS
 first|(rw[fh (show x<y from B)];exact⟨rfl,u.aF⟩)|(rw[fg (show ¬ x<y from B),fh (show y<x from E)];exact⟨rfl,u.aF⟩)|(rw[fg (show ¬ x<y from B),fg (show ¬ y<x from E)];exact⟨rfl,u.aF⟩)
def C41(lv:Value)(l:List jE)(w:World)(J:dy (λ_=>True) w lv l)(O:l.length<=1073741824):CR 41 [lv] w (λv w'=>v=hZ (wC l)/\Ext w w'):=by
 have u:=St.start w;refine YX _ _ _ ?_;unfold S41;refine aI MN (J.ext u.aF) ?_;refine⟨λI i w'=>∃k:Nat,i=hZ (k:Int)/\I=l.length-k/\k<=l.length/\wC l=wC (l.drop k)/\St w bF [] w',⟨_,0,rfl,rfl,mj _,rfl,u⟩,?_⟩;rintro I _ _ ⟨k,rfl,rfl,V,B,u⟩ _;refine aQ (aC (λU=>?_) λ_=>⟨gl (mf .i64) (by rw[B,ot bP];rfl),u.aF⟩);obtain⟨G,E⟩:=gx l (i:=(k:Int).toNat) bP;exact aY MN J bP E (λ_ M=>aE aaM (M.ext u.aF) (aK u V6 λ_ _ u=>aH (x:=G) u aaM rfl rfl λ_ u=>aA RL (aB (v:=hZ G.a) bL u.hb rfl (aA RM (aB (v:=hZ G.b) bL u.hb rfl (aR aev u (C99 _ _ _) λ_ _ u=>cB (aC (λ_=>⟨gl (mf .i64) (B.trans (T3 E bP)).symm,u.drop.aF⟩) λ_=>aM bP ⟨_,bP,k+1,rfl,rfl,bP,B.trans (T1 E bP),u.drop⟩)))))))
def C42(lv:Value)(l:List Int)(w:World)(I:dy (λ_=>True) w lv l)(M:l.length<=1073741824):CR 42 [lv] w (λv w'=>v=hZ (orM l)/\Ext w w'):=by
 have B:=St.start w;refine YY _ _ _ ?_;unfold S42;refine aI dG (I.ext B.aF) ?_;refine⟨λG i w'=>∃k:Nat,i=hZ (k:Int)/\G=l.length-k/\k<=l.length/\orM l=orM (l.drop k)/\St w bF [] w',⟨_,0,rfl,rfl,mj _,rfl,B⟩,?_⟩;rintro G _ _ ⟨k,rfl,rfl,U,u,B⟩ _;refine aQ (aC (λO=>?_) λ_=>⟨gl (mf .i64) (by rw[u,ot bP];rfl),B.aF⟩);obtain⟨V,E⟩:=gx l (i:=(k:Int).toNat) bP;exact aY dG I bP E (λ_ J=>aE bL (J.ext B.aF) (cB (aC (λ_=>⟨gl (mf .i64) (u.trans (Y7 E bP)).symm,B.aF⟩) λ_=>aM bP ⟨_,bP,k+1,rfl,rfl,bP,u.trans (Y6 E bP),B⟩)))
def C43(W V:Value)(xs ys:List Int)(w:World)(I:dy (λ_=>True) w W xs)(G:dy (λ_=>True) w V ys)(hn:xs.length<=1073741824):CR 43 [W,V] w (λv w'=>v=hZ (nN xs ys)/\Ext w w'):=by
 have u:=St.start w;refine YZ _ _ _ _ ?_;unfold S43;refine aI dG (I.ext u.aF) ?_;refine⟨λO i w'=>∃k:Nat,i=hZ (k:Int)/\O=xs.length-k/\k<=xs.length/\k<=ys.length/\nN xs ys=nN (xs.drop k) (ys.drop k)/\St w bF [] w',⟨_,0,rfl,rfl,mj _,mj _,rfl,u⟩,?_⟩;rintro O _ _ ⟨k,rfl,rfl,U,M,B,u⟩ _;refine aQ (aC (λlu=>?_) λ_=>aI dG (I.ext u.aF) (aI dG (G.ext u.aF) (aQ (aC (λ_=>⟨gl (mf .i64) (show((-1):Int)=nN xs ys by rw[B,Fy bP M U,fh bP]),u.aF⟩) λ_=>⟨gl (mf .i64) (show(0:Int)=nN xs ys by rw[B,Fy bP M U,fg bP]),u.aF⟩))))
 obtain⟨iR,E⟩:=gx xs (i:=(k:Int).toNat) bP;refine aY dG I bP E (λ_ fH=>aE bL (fH.ext u.aF) (aI dG (G.ext u.aF) (cJ (aC (λ_=>⟨gl (mf .i64) (B.trans (QS E bP)).symm,u.aF⟩) λfc=>?_))));obtain⟨Z,J⟩:=gx ys (i:=(k:Int).toNat) bP;exact aY dG G bP J (λ_ Y=>aE bL (Y.ext u.aF) (aR aev u (C99 _ _ _) λ_ _ u=>cB (aC (λ_=>⟨gl (mf .i64) (B.trans (T5 E J bP)).symm,u.aF⟩) λ_=>aM bP ⟨_,bP,k+1,rfl,rfl,bP,bP,B.trans (T4 E J bP),u⟩)))
def C9(a:bG)(I:aU)(b:bG)(G:aU)(w:World)(O:l3 w I a)(hb:l3 w G b)(J:a.cut.length<=1073741824):CR 9 [iS I,iS G] w (λv w'=>v=.bool (lh a b)/\Ext w w'):=by
 obtain⟨W,rfl,V⟩:=O;obtain⟨Z,rfl,M⟩:=hb;have u:=St.start w;refine aeu _ _ _ _ ?_;unfold S9;refine cE u (λY8 _ u=>cE u λY9 _ u=>aA gO (aB (v:=hZ a.kind) bL u.p1.hb rfl (aA gO (aB (v:=hZ b.kind) bL u.hb rfl (pop (wB _ _) (aA lM (aB (v:=hZ a.t) bL u.p1.hb rfl (aA lM (aB (v:=hZ b.t) bL u.hb rfl (pop (wB _ _) (aA nZ ?_)))))))))));refine aB (v:=hZ a.i) bL u.p1.hb rfl (aA nZ (aB (v:=hZ b.i) bL u.hb rfl (pop (wB _ _) (bK ([(⟨a.kind,b.kind⟩:jE),(⟨a.t,b.t⟩:jE),(⟨a.i,b.i⟩:jE)]) u MN rfl rfl (dQ rfl) λU _ u=>aR ajX u (C41 _ [(⟨a.kind,b.kind⟩:jE),(⟨a.t,b.t⟩:jE),(⟨a.i,b.i⟩:jE)] _ u.eS (dQ rfl)) λ_ Y u=>aA gA (aB eK u.p2.hb rfl ?_)))))
 have E:=DL.flat V;refine aA gA (aB eK u.p1.hb rfl ?_);have B:=DL.flat M;exact aR ajZ u (C43 _ _ a.cut b.cut _ (E.ext u.aF) (B.ext u.aF) J) (λ_ _ u=>bK ([(wC [(⟨a.kind,b.kind⟩:jE),(⟨a.t,b.t⟩:jE),(⟨a.i,b.i⟩:jE)]),(nN a.cut b.cut)]:List Int) u dG rfl rfl (dQ rfl) λ_ _ u=>aR ajY u (C42 _ ([(wC [(⟨a.kind,b.kind⟩:jE),(⟨a.t,b.t⟩:jE),(⟨a.i,b.i⟩:jE)]),(nN a.cut b.cut)]:List Int) _ u.eS (dQ rfl)) λ_ _ u=>aQ (have u:=u.drop.drop.drop.drop;⟨vb (T6 a b),u.aF⟩))
def C11(a:bG)(M:aU)(b:bG)(I:aU)(w:World)(V:l3 w M a)(hb:l3 w I b)(U:a.cut.length<=1073741824)(W:b.cut.length<=1073741824):CR 11 [iS M,iS I] w (λv w'=>v=.bool (J4 a b)/\Ext w w'):=by
 obtain⟨E,rfl,O⟩:=V;obtain⟨J,rfl,G⟩:=hb;have u:=St.start w;refine Y0 _ _ _ _ ?_;unfold S11;refine cE u (λY8 _ u=>cE u λZ _ u=>⟨λY w'=>Y=.bool (!lh a b&&!lh b a)/\St w bF [] w',aE gC u.p1.At (aE gC u.At (aR pl9 u (C9 a _ b _ _ ⟨E,rfl,(O.ext u.aF)⟩ ⟨J,rfl,(G.ext u.aF)⟩ U) λ_ _ u=>bJ (bD (λB=>aE gC u.At (aE gC u.p1.At (aR pl9 u (C9 b _ a _ _ ⟨J,rfl,(G.ext u.aF)⟩ ⟨E,rfl,(O.ext u.aF)⟩ W) λ_ _ u=>bJ (have u:=u.drop.drop;⟨vb (by rw[Bool.not_eq_true']at B;rw[B];rfl),u⟩)))) λB=>have u:=u.drop.drop;⟨vb (by rw[Bool.not_eq_false']at B;rw[B];rfl),u⟩))),?_⟩)
 rintro _ _ ⟨rfl,u⟩ _;exact⟨vb ((LQ a b).symm),u.aF⟩
def C13(k:Int)(w:World):CR 13 [hZ k] w (λv w'=>v=.string (Bw k)/\Ext w w'):=by
 have u:=St.start w;refine Y3 _ _ _ ?_;unfold S13;refine⟨λE w'=>E=.bool (decide (k<0\/5<=k))/\w=w',aQ (aC (λ_=>⟨FD bP,rfl⟩) λ_=>cJ ⟨xh bP,rfl⟩),?_⟩;rintro _ _ ⟨rfl,G⟩ _;subst G;refine aC (λB=>⟨gl uH (by unfold Bw;rw[fh B]),u.aF⟩) (λB=>?_);refine⟨_,xG _ _ _ _ _,?_⟩;obtain rfl|rfl|rfl|rfl|rfl:k=0\/k=1\/k=2\/k=3\/k=4:=bP
 all_goals exact⟨.string (Bw _),by kernel_rfl,rfl,u.aF⟩
variable (w:World) (K:Value->hU)
def S15:Prop:=
 cF 44 [(Go.Value.string (ia (#[108,105,110,101,32,97,59,32,116,104,114,101,97,100,32,116,32,123,32,115,116,111,114,101,32,97,32,61,32,49,59,32,99,104,101,99,107,32,48,59,32,125,32,114,101,99,111,118,101,114,32,123,32,125,32,97,108,119,97,121,115,32,97,32,61,61,32,48,59])))] w λa b=>
 xT a 0 λc=>xT a 1 λ_=>xT a 2 λ_=>aL 36 b λp1 d=>sA 36 p1 c d λe=>dX hM (l1 67 [(0,(i 1))].toArray) λf=>dX hM (l1 67 [(0,(i 2))].toArray) λg=>
 aL 67 e λI h=>aL 67 h λpL j=>sA 67 I f j λk=>sA 67 pL g k λl=>bS 22 1 [(0,(i 1))] l λn o=>dX hM (l1 67 [(0,(i 3)),(3,n)].toArray) λp=>
 aL 67 o λU q=>sA 67 U p q λr=>lA 36 p1 r λs=>lA 67 I r λt=>lA 67 pL r λu=>lA 67 U r λv=>bS 58 3 [(0,t),(1,u),(2,v)] r λx y=>cF 40 [s,(i 2),(i 1),x] y λz aa=>
 xT z 0 λab=>xT z 1 λac=>xT z 2 λad=>xT z 3 λ_=>aL 24 aa λJ ae=>sA 24 J ab ae λaf=>lA 36 p1 af λag=>lA 67 I af λah=>lA 67 I af λai=>bS 58 2 [(0,ah),(1,ai)] af λaj ak=>
 cF 40 [ag,(i 2),(i 1),aj] ak λal am=>xT al 0 λan=>xT al 1 λ_=>xT al 2 λao=>xT al 3 λ_=>aL 24 am λO ap=>sA 24 O an ap λM=>lA 36 p1 M λar=>lA 67 I M λasx=>
 lA 67 pL M λau=>lA 67 U M λav=>bS 58 3 [(0,asx),(1,au),(2,av)] M λaw ax=>cF 40 [ar,(i 2),(i 0),aw] ax λY az=>xT Y 0 λa0=>xT Y 1 λ_=>xT Y 2 λa1=>
 xT Y 3 λa2=>aL 24 az λa3 a4=>sA 24 a3 a0 a4 λa5=>lA 36 p1 a5 λa6=>lA 67 I a5 λa8=>lA 67 U a5 λa9=>bS 58 2 [(0,a8),(1,a9)] a5 λba bb=>cF 40 [a6,(i 2),(i 1),ba] bb λZ bd=>
 xT Z 0 λbe=>xT Z 1 λ_=>xT Z 2 λbf=>xT Z 3 λbg=>aL 24 bd λbh bi=>sA 24 bh be bi λbj=>lA 36 p1 bj λbk=>cF 40 [bk,(i 2),(i 9),(.slice none 0 0)] bj λbl bm=>
 xT bl 0 λbn=>xT bl 1 λ_=>xT bl 2 λbo=>xT bl 3 λ_=>aL 24 bm λbp bq=>sA 24 bp bn bq λbr=>lA 36 p1 br λbs=>cF 40 [bs,(i 2),(i 0),(.slice none 0 0)] br λbt bu=>
 xT bt 0 λbv=>xT bt 1 λ_=>xT bt 2 λbw=>xT bt 3 λ_=>aL 24 bu λG bx=>sA 24 G bv bx λbz=>eF (λB=>lA 24 J bz λb0=>bS 22 1 [(0,(i 1))] bz λb1 b2=>
 dX hM (l1 24 [(0,(i 2)),(2,(i 1)),(3,b1)].toArray) λb3=>cF 11 [b0,b3] b2 λb4 V=>cV b4 (lN 77 ac λb6=>bB .eql 3 b6 (i 3) λb7=>cV b7 (bB .eql 40 ad (i 0) λb8=>
 cV b8 (lA 24 O V λb9=>bS 22 1 [(0,(i 0))] V λca cb=>dX hM (l1 24 [(0,(i 3)),(1,(i 1)),(3,ca)].toArray) λcc=>cF 11 [b9,cc] cb λcd E=>cV cd (
 bB .eql 40 ao (i 0) λcf=>cV cf (bB .eql 40 a1 (i 14) λcg=>cV cg (bB .eql 3 a2 (i 2) λch=>cV ch (bB .eql 40 bf (i 13) λci=>cV ci (bB .eql 3 bg (i 1) λcj=>cV cj (
 bB .eql 40 bo (i 1) λck=>cV ck (lA 24 G E λcl=>bS 22 1 [(0,(i 0))] E λcm cn=>dX hM (l1 24 [(3,cm)].toArray) λco=>cF 11 [cl,co] cn λcp cq=>
 cV cp (bB .eql 40 bw (i 0) λcr=>cV cr (lA 24 J cq λcs=>cF 7 [cs] cq λct cu=>cV ct (lA 24 G cu λcv=>cF 7 [cv] cu λcw cx=>dX hM (Op.unary .not cw) λcy=>
 cV cy (lA 24 G cx λcz=>lA 24 J cx λc0=>cF 9 [cz,c0] cx λc1 W=>cV c1 (lA 24 J W λc3=>lA 24 J W λc4=>cF 9 [c3,c4] W λc5 c6=>dX hM (Op.unary .not c5) λc7=>
 cV c7 (cF 13 [(i 4)] c6 λc8 c9=>dX hM (gX .eql 9 false true c8 (Go.Value.string (ia (#[115,116,117,99,107])))) λda=>cV da (cF 13 [(i 5)] c9 λdb dc=>
 dX hM (gX .eql 9 false true db (Go.Value.string (ia (#[])))) λdd=>cV dd (lA 36 p1 dc λde=>lA 67 I dc λdf=>lA 67 U dc λdg=>lA 67 I dc λdh=>
 bS 58 3 [(0,df),(1,dg),(2,dh)] dc λdi dj=>cF 45 [de,(i 2),(i 1),di] dj λdk dl=>bB .eql 3 dk (i 1) λdm=>B dm dl) (B ff dc)) (B ff c9)) (B ff c6)) (B ff W)) (
 B ff cx)) (B ff cu)) (B ff cq)) (B ff cq)) (B ff E)) (B ff E)) (B ff E)) (B ff E)) (B ff E)) (B ff E)) (B ff E)) (B ff V)) (B ff V)) (B ff V)) (λdn dp=>∀_:Env,
 K dn dp)
theorem Za(h:S15 w K):CR 15 [] w K:=
 lL 186 (λ_=>.nil) 1 [.tmp 0] Tryz.func15 h
theorem aj3:PL 15:=dD Tryz.func15
end Go.Proofs.YtdncbeepkacgbaaGreatDoor
namespace Go.Proofs.YtdncbeepkacgbaaGreatDoor
open Go.Fw
def Fz(u:Int)(G:Int)(B:Option Addr)(E I:Nat):pr hM (l1 24 [(0,hZ u),(1,hZ G),(3,.slice B E I)].toArray)=some (.agg [hZ u,hZ G,hZ 0,.slice B E I].toArray):=by kernel_rfl
def FA(u:Int)(I:Int)(B:Option Addr)(E G:Nat):pr hM (l1 24 [(0,hZ u),(2,hZ I),(3,.slice B E G)].toArray)=some (.agg [hZ u,hZ 0,hZ I,.slice B E G].toArray):=by kernel_rfl
def T7(E:Option Addr)(u B:Nat):pr hM (l1 24 [(3,.slice E u B)].toArray)=some (.agg [hZ 0,hZ 0,hZ 0,.slice E u B].toArray):=by kernel_rfl
def J5(u:Int):pr hM (l1 67 [(0,hZ u)].toArray)=some (.agg [hZ u,hZ 0,hZ 0,.slice none 0 0].toArray):=by kernel_rfl
section
variable {α σ:Type}[Flat σ] [Deep α σ] {w:World}
theorem pJ{t:σ}{x:α}{ts:List σ}{xs:List α}(h:l3 w t x)(g:gQ ts xs w):gQ (t::ts) (x::xs) w:=by
 grind[gQ]
end
def pk0(w:World)(a b c:Int):l3 w (⟨a,b,c,bY⟩:aU) (⟨a,b,c,[]⟩:bG):=⟨_,rfl,DL.nil w⟩
theorem e0(w:World){u:SV}(a b c:Int){l:List Int}(h:dy (λ_=>True) w (iS u) l):l3 w (⟨a,b,c,u⟩:aU) (⟨a,b,c,l⟩:bG):=⟨_,rfl,DL.gG h⟩
def VN(t:ByteArray):Bool:=match qx t with
 | some r=>decide (r.1.length<=5000)&&r.1.all (λx=>decide (0<=x.at_/\x.at_<=1000000/\x.text.size<=1000000))
 | none=>false
def T8{t:ByteArray}(h:VN t=true):∀l e a,qx t=some (l,e,a)->fQ l:=by
 intro l e a u
 unfold VN at h
 rw[u]at h
 simp only[nu,decide_eq_true_eq,List.all_eq_true]at h
 exact⟨h.1,λx B=>h.2 x B⟩
def J6:ByteArray:=⟨#[108,105,110,101,32,97,59,32,116,104,114,101,97,100,32,116,32,123,32,115,116,111,114,101,32,97,32,61,32,49,59,32,99,104,101,99,107,32,48,59,32,125,32,114,101,99,111,118,101,114,32,123,32,125,32,97,108,119,97,121,115,32,97,32,61,61,32,48,59]⟩
def jF:bQ:=((pZ J6).getD (Ff,0,0)).1
def HT:pZ J6=some (jF,0,0):=by decide +kernel
def LS:∀l e a,qx J6=some (l,e,a)->fQ l:=T8 (by decide +kernel)
theorem QT:KP jF=jF:=by decide +kernel
def qf:PZ jF:=by rw[<- QT];exact Sq _
def fxA:List cQ:=(qe jF 2 1 [(⟨1,0,0,[]⟩:bG),(⟨2,0,0,[]⟩:bG),(⟨3,0,0,[1]⟩:bG)]).2.1
def fxB:List cQ:=(qe jF 2 1 [(⟨1,0,0,[]⟩:bG),(⟨1,0,0,[]⟩:bG)]).2.1
def T9:(qe jF 2 1 [(⟨1,0,0,[]⟩:bG),(⟨2,0,0,[]⟩:bG),(⟨3,0,0,[1]⟩:bG)]=((⟨2,0,1,[1]⟩:bG),fxA,0,0)/\fxA.length=3)/\qe jF 2 1 [(⟨1,0,0,[]⟩:bG),(⟨1,0,0,[]⟩:bG)]=((⟨3,1,0,[0]⟩:bG),fxB,0,0)/\qe jF 2 0 [(⟨1,0,0,[]⟩:bG),(⟨2,0,0,[]⟩:bG),(⟨3,0,0,[1]⟩:bG)]=(zE,[],14,2)/\qe jF 2 1 [(⟨1,0,0,[]⟩:bG),(⟨3,0,0,[1]⟩:bG)]=(zE,[],13,1)/\qe jF 2 9 ([]:List bG)=(zE,[],1,0)/\qe jF 2 0 ([]:List bG)=((⟨0,0,0,[0]⟩:bG),[],0,0)/\TR jF 2 1 [(⟨1,0,0,[]⟩:bG),(⟨3,0,0,[1]⟩:bG),(⟨1,0,0,[]⟩:bG)]=1:=by decide +kernel
def LU(R:bG×List cQ×Int×Int)(K:hU)(p:bQ)(pv:bZ)(room c:Int)(lv:Value)(l:List bG)(w:World)(M:∀w',Ext w w'->K w')(u:Me K pv p)(B:PZ p)(G:VJ K lv l)(E:l.length<=1000)(I:∀q∈l,q.cut.length<=1000)(J:qe p room c l=R) :
  Calls hM 40 [iS pv,hZ room,hZ c,lv].toArray w (oU λv w'=>∃(ev:aU) (ov:Value),v=.tuple #[iS ev,ov,hZ R.2.2.1,hZ R.2.2.2]/\mD (sep (eH λw=>l3 w ev R.1) (bH ov R.2.1)) w w'):=J▸C40 K p pv room c lv l w M u B G E I
def C15(w:World):CR 15 [] w (λv w'=>v=.bool true/\Ext w w'):=by
 have u:=St.start w;refine Za _ _ ?_;unfold S15;obtain⟨⟨r1,Z⟩,r2,r3,r4,r5,r6,r7⟩:=T9;refine dW af2 (C44 J6 (jF,0,0) _ ea HT LS) ?_;rintro _ _ ⟨pv,rfl,E⟩;have u:=u.made E;refine aJ rfl (aJ rfl (aJ rfl (aK u Gc λb1 _ u=>aH (x:=pv) u fS rfl rfl λ_ u=>pop (J5 1) (pop (J5 2) (aK u BR λb4 _ u=>aK u BR λb5 _ u=>aH (x:=(⟨1,0,0,bY⟩:aU)) u.p1 oF rfl rfl λ_ u=>aH (x:=(⟨2,0,0,bY⟩:aU)) u.p1 oF rfl rfl λ_ u=>bK ([1]:List Int) u dG rfl rfl (dQ rfl) λx38 _ u=>?_)))))
 obtain⟨B,rfl⟩:=u.gF;refine pop (Ko 3 _ _ _) (aK u BR λb6 _ u=>aH (x:=(⟨3,0,0,B⟩:aU)) u oF rfl rfl λI u=>?_);have u:=u.p1.freeze.p5.p1.gY;obtain⟨J,u,hX⟩:=u.Vv;have U:Me (pK J I) pv jF:=Me.of λw' h=>(hX w' h).2;have W:∀w',pK J I w'->l3 w' (⟨3,0,0,B⟩:aU) (⟨3,0,0,[1]⟩:bG):=λw' h=>e0 _ 3 0 0 (hX w' h).1;have M:∀(a b c:Int) w',pK J I w'->l3 w' (⟨a,b,c,bY⟩:aU) (⟨a,b,c,[]⟩:bG):=λa b c w' _=>pk0 w' a b c;refine aE (x:=pv) fS u.p4.At (aE (x:=(⟨1,0,0,bY⟩:aU)) oF u.p3.At (aE (x:=(⟨2,0,0,bY⟩:aU)) oF u.p2.At (aE (x:=(⟨3,0,0,B⟩:aU)) oF u.p1.At (bK ([(⟨1,0,0,bY⟩:aU),(⟨2,0,0,bY⟩:aU),(⟨3,0,0,B⟩:aU)]:List aU) u ui rfl rfl (dQ rfl) λpl _ u=>dW LP (LU _ (λw'=>pK J I w'/\dy (λ_=>True) w' pl ([(⟨1,0,0,bY⟩:aU),(⟨2,0,0,bY⟩:aU),(⟨3,0,0,B⟩:aU)]:List aU)) jF pv 2 1 pl [(⟨1,0,0,[]⟩:bG),(⟨2,0,0,[]⟩:bG),(⟨3,0,0,[1]⟩:bG)] _ (λ_ e=>⟨(u.ext e).p1.eH,(u.ext e).eS⟩) (U.mono λ_ h=>h.1) qf ⟨_,λ_ h=>⟨h.2,(pJ (M 1 0 0 _ h.1) (pJ (M 2 0 0 _ h.1) (pJ (W _ h.1) gQ.nil)))⟩⟩ ea ea r1) ?_))))
 rintro _ _ ⟨G,ov0,rfl,E⟩;have u:=(u.made E).split;refine aJ rfl (aJ rfl (aJ rfl (aJ rfl (aK u mY λa7 _ u=>aH (x:=G) u gC rfl rfl λ_ u=>have u:=u.p3.drop;aE (x:=pv) fS u.p7.At (aE (x:=(⟨1,0,0,bY⟩:aU)) oF u.p6.At (aE (x:=(⟨1,0,0,bY⟩:aU)) oF u.p6.At (bK ([(⟨1,0,0,bY⟩:aU),(⟨1,0,0,bY⟩:aU)]:List aU) u ui rfl rfl (dQ rfl) λpl _ u=>dW LP (LU _ (λw'=>pK J I w'/\dy (λ_=>True) w' pl ([(⟨1,0,0,bY⟩:aU),(⟨1,0,0,bY⟩:aU)]:List aU)) jF pv 2 1 pl [(⟨1,0,0,[]⟩:bG),(⟨1,0,0,[]⟩:bG)] _ (λ_ e=>⟨(u.ext e).p4.eH,(u.ext e).eS⟩) (U.mono λ_ h=>h.1) qf ⟨_,λ_ h=>⟨h.2,(pJ (M 1 0 0 _ h.1) (pJ (M 1 0 0 _ h.1) gQ.nil))⟩⟩ ea ea r2) ?_)))))))
 rintro _ _ ⟨eb,Ra,rfl,E⟩;have u:=(u.made E).split;refine aJ rfl (aJ rfl (aJ rfl (aJ rfl (aK u mY λb11 _ u=>aH (x:=eb) u gC rfl rfl λ_ u=>have u:=u.p3.drop.p2.drop;aE (x:=pv) fS u.p9.At (aE (x:=(⟨1,0,0,bY⟩:aU)) oF u.p8.At (aE (x:=(⟨2,0,0,bY⟩:aU)) oF u.p7.At (aE (x:=(⟨3,0,0,B⟩:aU)) oF u.p6.At (bK ([(⟨1,0,0,bY⟩:aU),(⟨2,0,0,bY⟩:aU),(⟨3,0,0,B⟩:aU)]:List aU) u ui rfl rfl (dQ rfl) λpl _ u=>dW LP (LU _ (λw'=>pK J I w'/\dy (λ_=>True) w' pl ([(⟨1,0,0,bY⟩:aU),(⟨2,0,0,bY⟩:aU),(⟨3,0,0,B⟩:aU)]:List aU)) jF pv 2 0 pl [(⟨1,0,0,[]⟩:bG),(⟨2,0,0,[]⟩:bG),(⟨3,0,0,[1]⟩:bG)] _ (λ_ e=>⟨(u.ext e).p6.eH,(u.ext e).eS⟩) (U.mono λ_ h=>h.1) qf ⟨_,λ_ h=>⟨h.2,(pJ (M 1 0 0 _ h.1) (pJ (M 2 0 0 _ h.1) (pJ (W _ h.1) gQ.nil)))⟩⟩ ea ea r3) ?_))))))))
 rintro _ _ ⟨e3,ov2,rfl,E⟩;have u:=(u.made E).split;refine aJ rfl (aJ rfl (aJ rfl (aJ rfl (aK u mY λb15 _ u=>aH (x:=e3) u gC rfl rfl λ_ u=>have u:=u.p3.drop.p2.drop.p1.drop.drop;aE (x:=pv) fS u.p9.At (aE (x:=(⟨1,0,0,bY⟩:aU)) oF u.p8.At (aE (x:=(⟨3,0,0,B⟩:aU)) oF u.p6.At (bK ([(⟨1,0,0,bY⟩:aU),(⟨3,0,0,B⟩:aU)]:List aU) u ui rfl rfl (dQ rfl) λpl _ u=>dW LP (LU _ (λw'=>pK J I w'/\dy (λ_=>True) w' pl ([(⟨1,0,0,bY⟩:aU),(⟨3,0,0,B⟩:aU)]:List aU)) jF pv 2 1 pl [(⟨1,0,0,[]⟩:bG),(⟨3,0,0,[1]⟩:bG)] _ (λ_ e=>⟨(u.ext e).p6.eH,(u.ext e).eS⟩) (U.mono λ_ h=>h.1) qf ⟨_,λ_ h=>⟨h.2,(pJ (M 1 0 0 _ h.1) (pJ (W _ h.1) gQ.nil))⟩⟩ ea ea r4) ?_)))))))
 rintro _ _ ⟨e4,ov3,rfl,E⟩;have u:=(u.made E).split;refine aJ rfl (aJ rfl (aJ rfl (aJ rfl (aK u mY λb19 _ u=>aH (x:=e4) u gC rfl rfl λ_ u=>have u:=u.p3.drop.p2.drop.p1.drop.drop;aE (x:=pv) fS u.p9.At (dW LP (LU _ (pK J I) jF pv 2 9 (.slice none 0 0) [] _ (λ_ e=>(u.ext e).p5.eH) U qf (VJ.nil _) ea ea r5) ?_)))));rintro _ _ ⟨e5,ov4,rfl,E⟩;have u:=(u.made E).split;refine aJ rfl (aJ rfl (aJ rfl (aJ rfl (aK u mY λb23 _ u=>aH (x:=e5) u gC rfl rfl λ_ u=>have u:=u.p2.drop.p1.drop.drop;aE (x:=pv) fS u.p9.At (dW LP (LU _ (pK J I) jF pv 2 0 (.slice none 0 0) [] _ (λ_ e=>(u.ext e).p5.eH) U qf (VJ.nil _) ea ea r6) ?_)))))
 rintro _ _ ⟨V,ov5,rfl,E⟩;have u:=(u.made E).split;refine aJ rfl (aJ rfl (aJ rfl (aJ rfl (aK u mY λc27 _ u=>aH (x:=V) u gC rfl rfl λ_ u=>?_))));have u:=u.p2.drop;refine⟨λjv w'=>jv=.bool true/\Ext w w',?_,?_⟩;rotate_left
 .rintro _ _ h _;exact h
 refine aE (x:=G) gC u.p4.At (bK ([1]:List Int) u dG rfl rfl (dQ rfl) λz1 _ u=>?_);obtain⟨s1,rfl⟩:=u.gF;refine pop (FA 2 1 _ _ _) ?_;have Q6:l3 _ (⟨2,0,1,s1⟩:aU) (⟨2,0,1,[1]⟩:bG):=e0 _ _ _ _ u.eS;refine aR T0 u (C11 (⟨2,0,1,[1]⟩:bG) G (⟨2,0,1,[1]⟩:bG) (⟨2,0,1,s1⟩:aU) _ u.p6.eH Q6 ea ea) (λ_ O u=>iI ea (have u:=u.drop;aI Ge u.p6.eS ?_));rw[Z];refine aG (aC (λ_=>?_) λh=>absurd rfl h);refine aG (aC (λ_=>?_) λh=>absurd rfl h);refine aE (x:=eb) gC u.p2.At (bK ([0]:List Int) u dG rfl rfl (dQ rfl) λz2 _ u=>?_)
 obtain⟨s2,rfl⟩:=u.gF;refine pop (Fz 3 1 _ _ _) ?_;have Zq:l3 _ (⟨3,1,0,s2⟩:aU) (⟨3,1,0,[0]⟩:bG):=e0 _ _ _ _ u.eS;refine aR T0 u (C11 (⟨3,1,0,[0]⟩:bG) eb (⟨3,1,0,[0]⟩:bG) (⟨3,1,0,s2⟩:aU) _ u.p4.eH Zq ea ea) (λ_ O u=>iI ea (have u:=u.drop;aG (aC (λ_=>?_) λh=>absurd rfl h)));refine aG (aC (λ_=>?_) λh=>absurd rfl h);refine aG (aC (λ_=>?_) λh=>absurd rfl h);refine aG (aC (λ_=>?_) λh=>absurd rfl h);refine aG (aC (λ_=>?_) λh=>absurd rfl h);refine aG (aC (λ_=>?_) λh=>absurd rfl h)
 refine aE (x:=V) gC u.At (bK ([0]:List Int) u dG rfl rfl (dQ rfl) λz3 _ u=>?_);obtain⟨s3,rfl⟩:=u.gF;refine pop (T7 _ _ _) ?_;have Y:l3 _ (⟨0,0,0,s3⟩:aU) (⟨0,0,0,[0]⟩:bG):=e0 _ _ _ _ u.eS;refine aR T0 u (C11 (⟨0,0,0,[0]⟩:bG) V (⟨0,0,0,[0]⟩:bG) (⟨0,0,0,s3⟩:aU) _ u.p2.eH Y ea ea) (λ_ O u=>iI ea (have u:=u.drop;aG (aC (λ_=>?_) λh=>absurd rfl h)));refine aE (x:=G) gC u.p4.At (aR pl7 u (C7 (⟨2,0,1,[1]⟩:bG) G _ u.p5.eH) λ_ O u=>iI ea (aE (x:=V) gC u.At (aR pl7 u (C7 (⟨0,0,0,[0]⟩:bG) V _ u.p1.eH) λ_ O u=>bJ (iI ea (aE (x:=V) gC u.At (aE (x:=G) gC u.p4.At (aR pl9 u (C9 (⟨0,0,0,[0]⟩:bG) V (⟨2,0,1,[1]⟩:bG) G _ u.p1.eH u.p5.eH ea) λ_ O u=>iI ea (aE (x:=G) gC u.p4.At (aE (x:=G) gC u.p4.At ?_)))))))))
 refine aR pl9 u (C9 (⟨2,0,1,[1]⟩:bG) G (⟨2,0,1,[1]⟩:bG) G _ u.p5.eH u.p5.eH ea) (λ_ O u=>bJ (iI ea (aR Y4 u (C13 4 _) λ_ O u=>fz (aC (λ_=>?_) λh=>absurd ea h))));refine aR Y4 u (C13 5 _) (λ_ O u=>fz (aC (λ_=>?_) λh=>absurd ea h));refine aE (x:=pv) fS u.p11.At (aE (x:=(⟨1,0,0,bY⟩:aU)) oF u.p10.At (aE (x:=(⟨3,0,0,B⟩:aU)) oF u.p8.At (aE (x:=(⟨1,0,0,bY⟩:aU)) oF u.p10.At (bK ([(⟨1,0,0,bY⟩:aU),(⟨3,0,0,B⟩:aU),(⟨1,0,0,bY⟩:aU)]:List aU) u ui rfl rfl (dQ rfl) λpl _ u=>aR ajQ u (C45 (λw'=>pK J I w'/\dy (λ_=>True) w' pl ([(⟨1,0,0,bY⟩:aU),(⟨3,0,0,B⟩:aU),(⟨1,0,0,bY⟩:aU)]:List aU)) jF pv 2 1 pl [(⟨1,0,0,[]⟩:bG),(⟨3,0,0,[1]⟩:bG),(⟨1,0,0,[]⟩:bG)] _ (λ_ e=>⟨(u.ext e).p8.eH,(u.ext e).eS⟩) (U.mono λ_ h=>h.1) qf ⟨_,λ_ h=>⟨h.2,(pJ (M 1 0 0 _ h.1) (pJ (W _ h.1) (pJ (M 1 0 0 _ h.1) gQ.nil)))⟩⟩ ea ea) λ_ O u=>?_))))
 rw[r7];exact aG ⟨rfl,u.aF⟩
variable (w:World) (K:Value->hU)
def S3(a0 b1 V:Value):Prop:=
 mw hM (qv 24 a0) w λB a=>mw hM (qv 24 b1) a λb4 b=>fA 24 B 3 λc=>lA 22 c b λd=>fA 24 B 3 λe=>lA 22 e b λf=>lN 22 f λg=>
 dX hM (Builtin.min_ #[3,3] 3 [g,(i 10)].toArray) λh=>dX hM (mv 22 d none (some h) none) λj=>fA 24 B 3 λk=>sA 22 k j b λl=>fA 24 b4 3 λn=>
 lA 22 n l λo=>fA 24 b4 3 λp=>lA 22 p l λq=>lN 22 q λr=>dX hM (Builtin.min_ #[3,3] 3 [r,(i 10)].toArray) λs=>dX hM (mv 22 o none (some s) none) λt=>
 fA 24 b4 3 λu=>sA 22 u t l λv=>eF (λI=>lA 24 B (drew v) λx=>lA 24 B (drew v) λy=>cF 7 [x] (drew v) λz U=>kA 24 B y U (cF 8 [y] U λab G=>bA .eql 4 z ab λad=>
 cV ad (lA 24 B G λae=>lA 24 b4 G λaf=>lA 24 B G λag=>lA 24 b4 G λZ=>cF 9 [ae,af] G λai J=>kA 24 B ag J (kA 24 b4 Z J (cF 10 [ag,Z] J λak al=>
 bA .eql 4 ai ak λam=>cV am (lA 24 B al λan=>lA 24 b4 al λao=>lA 24 B al λY=>lA 24 b4 al λM=>cF 11 [an,ao] al λar E=>kA 24 B Y E (kA 24 b4 M E (cF 12 [Y,M] E λau W=>
 bA .eql 4 ar au λaw=>cV aw (cF 13 [V] W λax ay=>cF 14 [V] ay λaz O=>bA .eql 9 ax az λa2=>cV a2 (cF 15 [] O λa4 a5=>I a4 a5) (I ff O)) (I ff W)))) (
 I ff al)))) (I ff G))) (λa6 a7=>∀_:Env,
 K a6 a7)
def P3:dI:=λi=>match i with
 | 3=>(.of [(0,[]),(2,[]),(1,[2]),(3,[]),(4,[]),(5,[]),(6,[]),(7,[]),(9,[]),(10,[]),(8,[9,10]),(11,[]),(12,[]),(13,[]),(14,[]),(15,[]),(16,[]),(18,[]),(19,[]),(17,[18,19]),(20,[]),(21,[]),(22,[]),(23,[]),(24,[]),(26,[]),(25,[]),(27,[]),(28,[]),(29,[]),(30,[]),(31,[]),(32,[]),(33,[])])
 | _=>.nil
theorem aez(u b1 B:Value)(h:S3 w K u b1 B):CR 3 [u,b1,B] w K:=
 lL 56 P3 64 [.tmp 6] Tryz.func3 h
def S10(a0 b1:Value):Prop:=
 mw hM (qv 24 a0) w λE a=>mw hM (qv 24 b1) a λb3 b=>fA 24 E 0 λc=>lA 3 c b λd=>fA 24 b3 0 λe=>lA 3 e b λf=>bA .neq 3 d f λg=>
 cV g (fA 24 E 0 λh=>lA 3 h b λj=>fA 24 b3 0 λk=>lA 3 k b λl=>bA .lss 3 j l λn=>K n b) (fA 24 E 1 λo=>lA 3 o b λp=>fA 24 b3 1 λq=>lA 3 q b λr=>
 bA .neq 3 p r λs=>cV s (fA 24 E 1 λt=>lA 3 t b λu=>fA 24 b3 1 λv=>lA 3 v b λx=>bA .lss 3 u x λy=>K y b) (fA 24 E 2 λz=>lA 3 z b λaa=>fA 24 b3 2 λab=>
 lA 3 ab b λac=>bA .neq 3 aa ac λad=>cV ad (fA 24 E 2 λae=>lA 3 ae b λaf=>fA 24 b3 2 λag=>lA 3 ag b λah=>bA .lss 3 af ah λai=>K ai b) (jA (λJ G I=>∀_:Env,
 eF (λO=>fA 24 E 3 λak=>lA 22 ak I λal=>lN 22 al λam=>bA .lss 3 G am λW=>cV W (fA 24 b3 3 λao=>lA 22 ao I λap=>lN 22 ap λaq=>bA .lss 3 G aq λar=>
 O ar I) (O ff I)) (λM B=>∀_:Env,
 cV M (fA 24 E 3 λav=>lA 22 av (drew B) λaw=>iA 22 aw G λU=>lA 3 U (drew B) λay=>fA 24 b3 3 λaz=>lA 22 az (drew B) λa1=>iA 22 a1 G λa3=>lA 3 a3 (drew B) λa4=>
 bA .neq 3 ay a4 λa5=>cV a5 (fA 24 E 3 λa6=>lA 22 a6 (drew (drew B)) λa7=>iA 22 a7 G λa8=>lA 3 a8 (drew (drew B)) λa9=>fA 24 b3 3 λba=>lA 22 ba (drew (drew B)) λbb=>
 iA 22 bb G λbc=>lA 3 bc (drew (drew B)) λbd=>bA .lss 3 a9 bd λbe=>K be (drew (drew B))) (bB .add 3 G (i 1) λbf=>J bf (drew B))) (fA 24 E 3 λbg=>lA 22 bg B λV=>
 lN 22 V λbi=>fA 24 b3 3 λZ=>lA 22 Z B λbk=>lN 22 bk λbl=>bA .lss 3 bi bl λY=>K Y B))) λJ=>J (i 0) b)))
def RD:dI:=λi=>match i with
 | 10=>.run 0 11
 | 11=>.run 0 12
 | _=>.nil
theorem Zb(u b1:Value)(h:S10 w K u b1):CR 10 [u,b1] w K:=
 lL 79 RD 16 [.tmp 4] Tryz.func10 h
def S14(u:Value):Prop:=
 eF (λB=>bB .lss 3 u (i 0) λa=>cV a (B tt w) (bB .gtr 3 u (i 4) λb=>B b w)) (λc d=>∀_:Env,
 cV c (K (Go.Value.string (ia (#[]))) d) (bS 86 5 [(0,(Go.Value.string (ia (#[111,112,101,110])))),(1,(Go.Value.string (ia (#[115,97,102,101])))),(2,(Go.Value.string (ia (#[99,108,97,105,109])))),(3,(Go.Value.string (ia (#[102,97,117,108,116])))),(4,(Go.Value.string (ia (#[115,116,117,99,107]))))] d λe f=>
 iA 86 e u λg=>lA 9 g f λh=>K h f))
theorem Zc(u:Value)(h:S14 w K u):CR 14 [u] w K:=
 lL 13 (λ_=>.nil) 4 [.tmp 2] Tryz.func14 h
theorem aj4:PL 10:=dD Tryz.func10
theorem aj5:PL 14:=dD Tryz.func14
end Go.Proofs.YtdncbeepkacgbaaGreatDoor
namespace Go.Proofs.YtdncbeepkacgbaaGreatDoor
open Go.Fw
def aeA{a b:bG}(h:¬ a.kind=b.kind):decide (a.kind<b.kind)=lh a b:=by
 unfold lh;simp only[F1,sk];rw[gz,fg h]
def aeB{a b:bG}(h1:a.kind=b.kind)(h:¬ a.t=b.t):decide (a.t<b.t)=lh a b:=by
 unfold lh;simp only[F1,sk];rw[gz,fh h1,gz,fg h]
def aeC{a b:bG}(h1:a.kind=b.kind)(h2:a.t=b.t)(h:¬ a.i=b.i):decide (a.i<b.i)=lh a b:=by
 unfold lh;simp only[F1,sk];rw[gz,fh h1,gz,fh h2,gz,fg h]
def VO{a b:bG}(h1:a.kind=b.kind)(h2:a.t=b.t)(h3:a.i=b.i):gz a.cut b.cut=lh a b:=by
 unfold lh;simp only[F1,sk];rw[gz,fh h1,gz,fh h2,gz,fh h3]
def QU{l m:List Int}{k:Nat}{a b:Int}(h:l[k]?=some a)(h2:m[k]?=some b)(hc:a=b):gz (l.drop k) (m.drop k)=gz (l.drop (k+1)) (m.drop (k+1)):=by
 rw[lC h,lC h2,gz,fh hc]
def QV{l m:List Int}{k:Nat}{a b:Int}(h:l[k]?=some a)(h2:m[k]?=some b)(hc:¬ a=b):gz (l.drop k) (m.drop k)=decide (a<b):=by
 rw[lC h,lC h2,gz,fg hc]
def LV{l m:List Int}{k:Nat}(h:¬ (k<l.length/\k<m.length))(h1:k<=l.length)(h2:k<=m.length):gz (l.drop k) (m.drop k)=decide (l.length<m.length):=by
 by_cases e:k<l.length
 .obtain⟨a,B⟩:∃a,l[k]?=some a:=⟨_,kB e⟩
  rw[lC B,ot (show m.length<=k by omega),gz];exact(fZ bP).symm
 rw[ot (show l.length<=k by omega)]
 by_cases u:k<m.length
 .obtain⟨b,hb⟩:∃b,m[k]?=some b:=⟨_,kB u⟩
  rw[lC hb,gz];exact(fY bP).symm
 rw[ot (show m.length<=k by omega),gz];exact(fZ bP).symm
def nb(b:Bool):Int:=if b=true then 1 else 0
def C10(a:bG)(av:aU)(b:bG)(bv:aU)(w:World)(ha:l3 w av a)(hb:l3 w bv b)(hn:a.cut.length<=1073741824):CR 10 [iS av,iS bv] w (λv w'=>v=.bool (lh a b)/\Ext w w'):=by
 obtain⟨mV,rfl,iU⟩:=ha;obtain⟨mW,rfl,M⟩:=hb;have u:=St.start w;refine Zb _ _ _ _ ?_;unfold S10;refine cE u (λY8 _ u=>cE u λY9 _ u=>aA gO (aB (v:=hZ a.kind) bL u.p1.hb rfl (aA gO (aB (v:=hZ b.kind) bL u.hb rfl (cB (aC (λgD=>aA gO (aB (v:=hZ a.kind) bL u.p1.hb rfl (aA gO (aB (v:=hZ b.kind) bL u.hb rfl (aQ (have u:=u.drop.drop;⟨vb (aeA gD),u.aF⟩)))))) λgD=>aA lM (aB (v:=hZ a.t) bL u.p1.hb rfl (aA lM (aB (v:=hZ b.t) bL u.hb rfl (cB (aC (λku=>aA lM (aB (v:=hZ a.t) bL u.p1.hb rfl (aA lM (aB (v:=hZ b.t) bL u.hb rfl (aQ (have u:=u.drop.drop;⟨vb (aeB bP ku),u.aF⟩)))))) λku=>aA nZ (aB (v:=hZ a.i) bL u.p1.hb rfl (aA nZ (aB (v:=hZ b.i) bL u.hb rfl (cB (aC (λlf=>aA nZ (aB (v:=hZ a.i) bL u.p1.hb rfl (aA nZ (aB (v:=hZ b.i) bL u.hb rfl (aQ (have u:=u.drop.drop;⟨vb (aeC bP bP lf),u.aF⟩)))))) λlf=>?_))))))))))))))))
 have u:=u.p1;refine⟨λmm i w'=>∃k:Nat,i=hZ (k:Int)/\mm=a.cut.length-k/\k<=a.cut.length/\k<=b.cut.length/\gz a.cut b.cut=gz (a.cut.drop k) (b.cut.drop k)/\St w bF [bM Y8 (jn (⟨a.kind,a.t,a.i,mV⟩:aU)),bM Y9 (jn (⟨b.kind,b.t,b.i,mW⟩:aU))] w',⟨_,0,rfl,rfl,mj _,mj _,rfl,u⟩,?_⟩;rintro mm _ w3 ⟨k,rfl,rfl,hk,IQ,B,u⟩ _;refine⟨λjv w'=>jv=.bool (decide (k<a.cut.length/\k<b.cut.length))/\w3=w',?_,?_⟩
 .refine aA gA (aB eK u.hb rfl ?_);have Y:=DL.flat iU;refine aI dG (Y.ext u.aF) (aQ (aC (λAW=>?_) λ_=>⟨QY bP,rfl⟩));refine aA gA (aB eK u.p1.hb rfl ?_);have V:=DL.flat M;exact aI dG (V.ext u.aF) (aQ ⟨xh bP,rfl⟩)
 rintro _ _ ⟨rfl,hw⟩ _;subst hw;refine aC (λqB=>?_) (λqB=>?_)
 .refine aA gA (have u:=u.drew;aB eK u.hb rfl ?_);have G:=DL.flat iU;obtain⟨e_x53,J⟩:=gx a.cut (i:=(k:Int).toNat) bP;refine aY dG G bP J (λ_ aeE=>aE bL (aeE.ext u.aF) (aA gA (aB eK u.p1.hb rfl ?_)));have E:=DL.flat M;obtain⟨W,I⟩:=gx b.cut (i:=(k:Int).toNat) bP;exact aY dG E bP I (λ_ Fm=>aE bL (Fm.ext u.aF) (cB (aC (λIH=>aA gA (have u:=u.drew;aB eK u.hb rfl (aY dG G bP J λ_ U=>aE bL (U.ext u.aF) (aA gA (aB eK u.p1.hb rfl (aY dG E bP I λ_ O=>aE bL (O.ext u.aF) (aQ (have u:=u.drop.drop;⟨vb (((VO bP bP bP).symm.trans (B.trans (QV J I IH))).symm),u.aF⟩)))))))) λ_=>aM bP ⟨_,bP,k+1,rfl,rfl,bP,bP,B.trans (QU J I bP),u⟩)))
 refine aA gA (aB eK u.hb rfl ?_);have Z:=DL.flat iU;refine aI dG (Z.ext u.aF) (aA gA (aB eK u.p1.hb rfl ?_));have aj9:=DL.flat M;exact aI dG (aj9.ext u.aF) (aQ (have u:=u.drop.drop;⟨vb (((VO bP bP bP).symm.trans (B.trans ((LV qB hk IQ).trans (ga.2 bP)))).symm),u.aF⟩))
def C14(k:Int)(w:World):CR 14 [hZ k] w (λv w'=>v=.string (Bw k)/\Ext w w'):=by
 have u:=St.start w;refine Zc _ _ _ ?_;unfold S14;refine⟨λG w'=>G=.bool (decide (k<0\/5<=k))/\w=w',aQ (aC (λ_=>⟨FD bP,rfl⟩) λ_=>dL ⟨xh bP,rfl⟩),?_⟩;rintro _ _ ⟨rfl,M⟩ _;subst M;refine aC (λB=>⟨gl uH (by unfold Bw;rw[fh B]),u.aF⟩) (λB=>bK ([(ia #[111,112,101,110]),(ia #[115,97,102,101]),(ia #[99,108,97,105,109]),(ia #[102,97,117,108,116]),(ia #[115,116,117,99,107])]) u iN rfl rfl (dQ rfl) λO _ u=>?_);have J:([(ia #[111,112,101,110]),(ia #[115,97,102,101]),(ia #[99,108,97,105,109]),(ia #[102,97,117,108,116]),(ia #[115,116,117,99,107])]).length=5:=rfl
 obtain⟨U,E⟩:=gx ([(ia #[111,112,101,110]),(ia #[115,97,102,101]),(ia #[99,108,97,105,109]),(ia #[102,97,117,108,116]),(ia #[115,116,117,99,107])]) (i:=k.toNat) bP;exact ed u iN bP bP (λ_ I=>gM u jZ I E (have u:=u.drop;⟨gl uH (by unfold Bw;rw[fg B,List.getD_eq_getElem?_getD];exact(gl (λo=>Option.getD o (ia #[])) E).symm),u.aF⟩))
def aka(a:bG)(u:aU)(b:bG)(B:aU)(w:World)(G:l3 w u a)(hb:l3 w B b)(E:a.cut.length<=1073741824):Calls hM 12 [iS u,iS B].toArray w (oU λv w'=>v=.bool (J4 a b)/\Ext w w'):=C12 a u b B w G hb E
def C3(a:bG)(Z:aU)(b:bG)(W:aU)(k:Int)(w:World)(ha:l3 w Z a)(hb:l3 w W b):CR 3 [iS Z,iS W,hZ k] w (λv w'=>v=.bool true/\Ext w w'):=by
 obtain⟨mV,rfl,iU⟩:=ha;obtain⟨mW,rfl,iV⟩:=hb;have u:=St.start w;refine aez _ _ _ _ _ ?_;unfold S3;refine cE u (λV _ u=>cE u λY _ u=>aA gA (aB eK u.p1.hb rfl ?_));have M:=DL.flat iU;refine aA gA (aB eK u.p1.hb rfl (aI dG (M.ext u.aF) (BZ (j5 dG (M.ext u.aF) bP bP λO Ze=>?_))));have E:=Ze _ M;refine aA gA ?_;obtain⟨B,rfl⟩:=E.gF;refine aO u.p1 eK (dQ rfl) (rfl) (λ_ u=>have u:=u.enc (cs':=jn (⟨a.kind,a.t,a.i,B⟩:aU)) rfl;aA gA (aB eK u.p1.hb rfl ?_))
 have U:=DL.flat iV;refine aA gA (aB eK u.p1.hb rfl (aI dG (U.ext u.aF) (BZ (j5 dG (U.ext u.aF) bP bP λaex Zg=>?_))));have I:=Zg _ U;refine aA gA ?_;obtain⟨G,rfl⟩:=I.gF;refine aO u.p1 eK (dQ rfl) (rfl) (λ_ u=>have u:=u.enc (cs':=jn (⟨b.kind,b.t,b.i,G⟩:aU)) rfl;⟨λjv w'=>jv=.bool true/\St w bF [] w',?_,?_⟩)
 .have u:=u.drew;refine aE gC u.p1.At (aE gC u.p1.At (aR pl7 u (C7 (⟨a.kind,a.t,a.i,(a.cut.take (min (a.cut.length:Int) 10).toNat)⟩:bG) _ _ (show l3 _ (⟨a.kind,a.t,a.i,B⟩:aU) (⟨a.kind,a.t,a.i,(a.cut.take (min (a.cut.length:Int) 10).toNat)⟩:bG)from⟨_,rfl,DL.gG (E.ext u.aF)⟩)) λ_ J u=>?_));refine⟨ji gC u.p1.At,?_⟩;refine aR pl8 u (C8 (⟨a.kind,a.t,a.i,(a.cut.take (min (a.cut.length:Int) 10).toNat)⟩:bG) _ _ (show l3 _ (⟨a.kind,a.t,a.i,B⟩:aU) (⟨a.kind,a.t,a.i,(a.cut.take (min (a.cut.length:Int) 10).toNat)⟩:bG)from⟨_,rfl,DL.gG (E.ext u.aF)⟩)) (λ_ J u=>ud RI (iI ew (aE gC u.p1.At (aE gC u.At (aE gC u.p1.At (aE gC u.At (aR pl9 u (C9 (⟨a.kind,a.t,a.i,(a.cut.take (min (a.cut.length:Int) 10).toNat)⟩:bG) _ (⟨b.kind,b.t,b.i,(b.cut.take (min (b.cut.length:Int) 10).toNat)⟩:bG) _ _ (show l3 _ (⟨a.kind,a.t,a.i,B⟩:aU) (⟨a.kind,a.t,a.i,(a.cut.take (min (a.cut.length:Int) 10).toNat)⟩:bG)from⟨_,rfl,DL.gG (E.ext u.aF)⟩) (show l3 _ (⟨b.kind,b.t,b.i,G⟩:aU) (⟨b.kind,b.t,b.i,(b.cut.take (min (b.cut.length:Int) 10).toNat)⟩:bG)from⟨_,rfl,DL.gG (I.ext u.aF)⟩) (by simp;omega)) λ_ J u=>?_)))))))
  refine⟨ji gC u.p1.At,?_⟩;refine⟨ji gC u.At,?_⟩;refine aR aj4 u (C10 (⟨a.kind,a.t,a.i,(a.cut.take (min (a.cut.length:Int) 10).toNat)⟩:bG) _ (⟨b.kind,b.t,b.i,(b.cut.take (min (b.cut.length:Int) 10).toNat)⟩:bG) _ _ (show l3 _ (⟨a.kind,a.t,a.i,B⟩:aU) (⟨a.kind,a.t,a.i,(a.cut.take (min (a.cut.length:Int) 10).toNat)⟩:bG)from⟨_,rfl,DL.gG (E.ext u.aF)⟩) (show l3 _ (⟨b.kind,b.t,b.i,G⟩:aU) (⟨b.kind,b.t,b.i,(b.cut.take (min (b.cut.length:Int) 10).toNat)⟩:bG)from⟨_,rfl,DL.gG (I.ext u.aF)⟩) (by simp;omega)) (λ_ J u=>ud RI (iI ew (aE gC u.p1.At (aE gC u.At (aE gC u.p1.At (aE gC u.At (aR T0 u (C11 (⟨a.kind,a.t,a.i,(a.cut.take (min (a.cut.length:Int) 10).toNat)⟩:bG) _ (⟨b.kind,b.t,b.i,(b.cut.take (min (b.cut.length:Int) 10).toNat)⟩:bG) _ _ (show l3 _ (⟨a.kind,a.t,a.i,B⟩:aU) (⟨a.kind,a.t,a.i,(a.cut.take (min (a.cut.length:Int) 10).toNat)⟩:bG)from⟨_,rfl,DL.gG (E.ext u.aF)⟩) (show l3 _ (⟨b.kind,b.t,b.i,G⟩:aU) (⟨b.kind,b.t,b.i,(b.cut.take (min (b.cut.length:Int) 10).toNat)⟩:bG)from⟨_,rfl,DL.gG (I.ext u.aF)⟩) (by simp;omega) (by simp;omega)) λ_ J u=>?_)))))))
  refine⟨ji gC u.p1.At,?_⟩;refine⟨ji gC u.At,?_⟩;exact aR ajV u (aka (⟨a.kind,a.t,a.i,(a.cut.take (min (a.cut.length:Int) 10).toNat)⟩:bG) _ (⟨b.kind,b.t,b.i,(b.cut.take (min (b.cut.length:Int) 10).toNat)⟩:bG) _ _ (show l3 _ (⟨a.kind,a.t,a.i,B⟩:aU) (⟨a.kind,a.t,a.i,(a.cut.take (min (a.cut.length:Int) 10).toNat)⟩:bG)from⟨_,rfl,DL.gG (E.ext u.aF)⟩) (show l3 _ (⟨b.kind,b.t,b.i,G⟩:aU) (⟨b.kind,b.t,b.i,(b.cut.take (min (b.cut.length:Int) 10).toNat)⟩:bG)from⟨_,rfl,DL.gG (I.ext u.aF)⟩) (by simp;omega)) (λ_ _ u=>ud RI (iI ew (aR Y4 u (C13 _ _) λ_ _ u=>aR aj5 u (C14 _ _) λ_ _ u=>fz (iI ew (aR aj3 u (C15 _) λ_ _ u=>have u:=u.drop.drop;⟨rfl,u⟩)))))
 rintro _ _ ⟨rfl,u⟩ _;exact⟨rfl,u.aF⟩
def own:ownKnob Tryz.prog.godebug=none:=by kernel_rfl
def rd3:RW hM 3 Int sP:=RdT.deep (Wa Tryz.underlying3 (by kernel_rfl)) λ_ _=>rfl
def akb:RW hM 22 (List Int) (λys:(List Int)=>∀y∈ys,sP y):=RW.slice Tryz.underlying22 (by kernel_rfl) rd3
def rd24:RW hM 24 bG RX:=λw=>⟨by kernel_rfl,λenc base held fuel cs x h=>by
 obtain⟨V,n,u⟩:=Gq Tryz.underlying24 h
 obtain⟨y0,W⟩:=u 0 _ rfl
 obtain⟨y1,h1⟩:=u 1 _ rfl
 obtain⟨y2,h2⟩:=u 2 _ rfl
 obtain⟨y3,h3⟩:=u 3 _ rfl
 obtain⟨B,e0,a0,d0,k0⟩:=(rd3 w).rd enc base held n _ _ W
 obtain⟨E,e1,Z,d1,k1⟩:=(rd3 w).rd enc base held n _ _ h1
 obtain⟨G,J,a2,U,k2⟩:=(rd3 w).rd enc base held n _ _ h2
 obtain⟨I,e3,Y,M,k3⟩:=(akb w).rd enc base held n _ _ h3
 obtain rfl:B=a0:=d0
 obtain rfl:E=Z:=d1
 obtain rfl:G=a2:=U
 have p0:=sd (s:=1) e0
 have p1:=sd (s:=1) e1
 have p2:=sd (s:=1) J
 have p3:=sd (s:=1) e3
 have O:cs.drop 4=[]:=List.drop_eq_nil_iff.2 (by rw[V];exact CV (by kernel_rfl))
 refine⟨(⟨B,E,G,I⟩:aU),?_,(⟨B,E,G,Y⟩:bG),⟨I,rfl,M⟩,k0,k1,k2,k3⟩
 have e:cs=cs.drop 0:=rfl
 rw[e]
 refine p0.trans ?_
 refine(gl _ p1).trans ?_
 refine(gl _ (gl _ p2)).trans ?_
 refine(gl _ (gl _ (gl _ p3))).trans ?_
 exact(gl _ (gl _ (gl _ (gl _ O))))⟩
end Go.Proofs.YtdncbeepkacgbaaGreatDoor

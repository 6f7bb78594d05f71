/-
  Part 8.
-/
import Derived.Test.YtpdlpabnlkofmaaGreatDoorR7x7
set_option maxHeartbeats 8000000
set_option linter.all false
set_option maxRecDepth 100000
open Go.Fw.Flat renaming val->hM,enc->hZ,sz->l2
open ByteArray renaming mk->ia
open List renaming getElem?_eq_some_iff->j0,mem_of_getElem?->kp,length_append->kU,length_take->lY,length_singleton->l0,length_map->mE,append_assoc->nk,getD_eq_getElem?_getD->n0,mem_map->n5,length_cons->ob,append_nil->oo,drop_eq_getElem_cons->r6,eraseIdx_eq_take_drop_succ->we,drop_eq_nil_iff->Bh,mem_of_mem_eraseIdx->KR,drop_of_length_le->Md
open Nat renaming zero_le->la,le_refl->o1,le_trans->te,zero_add->tx,le_of_eq->zH,lt_succ_self->L2,not_lt_zero->MO
open Go.Instr renaming build->l1,sliceAt->nT,box->yB,field->aaw
open Go.Fw.Deep renaming dr->mv,ext->Mt
open Go.Value renaming int->ng,slice->yA,tuple->Cg
open Bool renaming and_eq_true->n3,true_and->Bt
open Int renaming toNat_natCast->qb,le_refl->MV,emod_lt_of_pos->X2,emod_nonneg->aaA
open Decidable renaming not_not->vy
namespace Go.Proofs.YtpdlpabnlkofmaaGreatDoor
open Go.Fw
def afY(m:gl)(t:jS)(i:Int)(x:bP):(dY m t i x).1.dI=m.dI:=by
 unfold dY
 repeat' split
 all_goals first|rfl|(unfold rG;split<;>rfl)
theorem aca(m:gl)(i:Int):(iy m i).1.dI=m.dI:=by
 unfold iy
 repeat' split
 all_goals first|rfl|exact afY _ _ _ _
def amn(m:gl)(q:aS):m.dI<=(pk m q).1.dI/\(pk m q).1.dI<=m.dI+1:=by
 unfold pk
 split
 .show m.dI<=m.dI+1/\m.dI+1<=m.dI+1;omega
 split
 .split
  .split<;>(show m.dI<=m.dI/\m.dI<=m.dI+1)<;>omega
  show m.dI<=(iy m q.t).1.dI/\(iy m q.t).1.dI<=_;rw[aca];omega
 grind
structure wy(p:cA)(n:Nat)(m:gl):Prop where
 ok:nL m
 pr:m.p=p
 mb:MB m.mem n
 cr:0<=m.dI/\m.dI<=n
def wy.step{p:cA}{n:Nat}{m:gl}{q:aS}(h:wy p n m)(hc:GN p):wy p (n+1) (pk m q).1:=by
 obtain⟨h1,h2,h3⟩:=alH (q:=q) h.ok (h.pr▸hc)
 have h4:=amn m q
 have h5:=h.cr
 exact⟨h1,h2.trans h.pr,h3 _ h.mb,bM,bM⟩
def wy.new{p:cA}{room:Int}(u:PZ p)(hc:GN p)(B:1<=room/\room<=16):wy p 0 (gY p room):=
 ⟨afB u hc B,rfl,λk=>zH rfl,MV 0,MV 0⟩
def afZ(m:gl)(t:jS)(x:bP):(rG m t x).mem.dZ=m.mem.dZ:=by
 unfold rG;split
 .exact uf _ _ _
 rfl
def af0(m:gl)(t:jS)(i:Int)(x:bP):(dY m t i x).1.mem.dZ=m.mem.dZ:=by
 unfold dY
 repeat' split
 all_goals first|rfl|exact afZ _ _ _
def acb(m:gl)(i:Int):(iy m i).1.mem.dZ=m.mem.dZ:=by
 unfold iy
 repeat' split
 all_goals first|rfl|exact af0 _ _ _ _
def RP{m:gl}(u:nL m)(q:aS):(pk m q).1.mem.dZ=m.mem.dZ:=by
 unfold pk
 split
 .rfl
 split
 .split
  .split
   .exact(IE u.mem).2.2
   rfl
  exact acb _ _
 rfl
def vL(c:Int):gl->List cG->List aS->gl×List cG×Int
 | m,o,[]=>(m,o,0)
 | m,o,q::r=>if q.kind=3/\c<=m.dI then(m,o,14)else if (pk m q).2.2≠0 then((pk m q).1,o,(pk m q).2.2)else vL c (pk m q).1 (o++[(pk m q).2.1]) r
def fk(p:cA)(room c:Int):Int:=if fe p≠0 then fe p else if room<1\/16<room then 1 else if c<0\/8<c then 1 else 0
def af1(x y:aM)(h:hZ x=hZ y):x=y:=by
 obtain⟨a,b,c,⟨d,n,k⟩⟩:=x
 obtain⟨G,b2,I,⟨u,E,B⟩⟩:=y
 simp[hZ,hM]at h
 simp[h]
def af2(x y:bE)(h:hZ x=hZ y):x=y:=by
 obtain⟨a,b,c,⟨d,n,k⟩,⟨U,Z,G⟩,e,f,g,i⟩:=x
 obtain⟨a2,b2,I,⟨u,V,E⟩,⟨W,M,O⟩,B,Y,J,i2⟩:=y
 simp[hZ,hM]at h
 simp[h]
def af3(x y:cE)(h:hZ x=hZ y):x=y:=by
 obtain⟨a,⟨d,n,k⟩,⟨M,V,G⟩,e⟩:=x
 obtain⟨W,⟨u,O,E⟩,⟨U,I,J⟩,B⟩:=y
 simp[hZ,hM]at h
 simp[h]
def BS.of{B:Nat->Prop}{w:World}{lv:SV}{qP:List cM}(h:∀w',mf B w w'->DL w' (hM lv) qP):BS (mf B w) lv qP:=by
 obtain⟨O,W,ht⟩:=mf.fix af3 h
 refine⟨O,λw' u=>(ht w' u).1,W,λj J t h1 h2=>?_⟩
 have hd:∀w',mf B w w'->mv w' J t:=λw' u=>(ht w' u).2.2 j J t h1 h2
 obtain⟨I,G,rfl,_,_⟩:=hd w (mf.refl _ _)
 have M:∀w',mf B w w'->DL w' (hM I) t.dQ/\DL w' (hM G) t.body:=λw' u=>by
  obtain⟨U,Y,e,h4,h5⟩:=hd w' u
  grind
 obtain⟨rows,_,E⟩:=mf.fix af2 λw' u=>(M w' u).2
 exact⟨I,G,rows,rfl,λw' u=>DL.flat (M w' u).1,λw'=>⟨λV u=>(E V u).2,λu=>(E w' u).1⟩⟩
def He.of{B:Nat->Prop}{w:World}{pv:bN}{p:cA}(h:∀w',mf B w w'->mv w' pv p):He (mf B w) pv p:=by
 obtain⟨Z,Y,I,G,E,W,rfl,_⟩:=h w (mf.refl _ _)
 have hd:∀w',mf B w w'->DL w' (hM G) p.threads/\DL w' (hM E) p.recover:=λw' u=>by
  obtain⟨J,U,a2,O,V,M,e,_,_,_,h4,h5,_⟩:=h w' u
  grind
 exact⟨h,BS.of λw' u=>(hd w' u).1,BS.of λw' u=>(hd w' u).2⟩
def BS.mono{K K2:g7}{lv:SV}{qP:List cM}(h:BS K lv qP)(u:∀w,K2 w->K w):BS K2 lv qP:=by
 obtain⟨B,h1,h2⟩:=h
 exact⟨B,λw E=>h1 w (u w E),h2.mono u⟩
def He.mono{K K2:g7}{pv:bN}{p:cA}(h:He K pv p)(u:∀w,K2 w->K w):He K2 pv p:=⟨λw B=>h.pr w (u w B),h.th.mono u,h.rc.mono u⟩
def GP(K:g7)(lv:Value)(l:List aS):Prop:=∃ts:List aM,∀w,K w->cZ (λ_=>True) w lv ts/\fR ts l w
def GP.of{u:Nat->Prop}{w:World}{lv:Value}{l:List aS}(h:∀w',mf u w w'->DL w' lv l):GP (mf u w) lv l:=by
 obtain⟨ts,_,ht⟩:=mf.fix af1 h
 exact⟨ts,ht⟩
def GP.mono{K K2:g7}{lv:Value}{l:List aS}(h:GP K lv l)(B:∀w,K2 w->K w):GP K2 lv l:=by
 obtain⟨ts,h1⟩:=h
 exact⟨ts,λw u=>h1 w (B w u)⟩
def GP.nil(K:g7):GP K (.slice none 0 0) []:=⟨[],λw _=>⟨cZ.nil _ _,fR.nil⟩⟩
def wy.mono{p:cA}{a b:Nat}{m:gl}(h:wy p a m)(u:a<=b):wy p b m:=⟨h.ok,h.pr,h.mb.mono u,by have:=h.cr;omega⟩
theorem Uj{α:Type}{xs:List α}{k:Nat}{x:α}(h:xs[k]?=some x):xs.drop k=x::xs.drop (k+1):=by
 obtain⟨h1,h2⟩:=j0.1 h
 rw[r6 h1,h2]
def BT(l:List Bool):Nat:=(l.takeWhile id).length
def DK(l:List Bool):Int:=if BT l<l.length then(BT l:Int)else -1
def af4{l:List Bool}{k:Nat}{b:Bool}(h:l[k]?=some b)(hb:b=true)(u:BT l=k+BT (l.drop k)):BT l=k+1+BT (l.drop (k+1)):=by
 rw[u,Uj h,hb]
 show k+(BT (l.drop (k+1))+1)=_
 omega
def af5{l:List Bool}{k:Nat}{b:Bool}(h:l[k]?=some b)(hb:b=false)(u:BT l=k+BT (l.drop k)):DK l=k:=by
 have B:=(j0.1 h).1
 have e:BT l=k:=by rw[u,Uj h,hb];rfl
 unfold DK
 omega
def af6{l:List Bool}{k:Nat}(h:l.length<=k)(u:BT l=k+BT (l.drop k)):DK l = -1:=by
 unfold DK
 omega
def tm(m:gl):Int×Int:=if m.fault≠0 then(3,m.fault)else if sR m=true then(4,0)else if pE m=true then(if 0<=DK (ql m)then(2,DK (ql m))else(1,0))else(0,0)
def GD(m:gl):aS:=⟨(tm m).1,(tm m).2,m.dI,m.mem.l.take (eN m.p).toNat⟩
section
variable {m:gl}
theorem amo(h:m.fault≠0):tm m=(3,m.fault):=by unfold tm;grind
theorem amp(h:¬ m.fault≠0)(h2:sR m=true):tm m=(4,0):=by unfold tm;grind
theorem amq(h:¬ m.fault≠0)(h2:sR m=false)(h3:pE m=true)(h4:0<=DK (ql m)):tm m=(2,DK (ql m)):=by grind[tm,DK,ql]
theorem amr(h:¬ m.fault≠0)(h2:sR m=false)(h3:pE m=true)(h4:¬ 0<=DK (ql m)):tm m=(1,0):=by grind[tm]
theorem ams(h:¬ m.fault≠0)(h2:sR m=false)(h3:pE m=false):tm m=(0,0):=by grind[tm]
end
def zE:aS:=⟨0,0,0,[]⟩
def BU(p:cA)(room c:Int)(l:List aS):aS×List cG×Int×Int:=
 if fk p room c≠0 then(zE,[],fk p room c,0)
 else if (vL c (gY p room) [] l).2.2≠0 then(zE,[],(vL c (gY p room) [] l).2.2,((vL c (gY p room) [] l).2.1.length:Int))
 else(GD (vL c (gY p room) [] l).1,(vL c (gY p room) [] l).2.1,0,0)
theorem amt{p:cA}{room c:Int}{l:List aS}(h:fk p room c≠0):BU p room c l=(zE,[],fk p room c,0):=by unfold BU;grind
theorem amu{p:cA}{room c:Int}{l:List aS}(h:fk p room c=0)(h2:(vL c (gY p room) [] l).2.2≠0):BU p room c l=(zE,[],(vL c (gY p room) [] l).2.2,((vL c (gY p room) [] l).2.1.length:Int)):=by grind[BU,zE,vL,gY]
theorem acd{p:cA}{room c:Int}{l:List aS}(h:fk p room c=0)(h2:(vL c (gY p room) [] l).2.2=0):BU p room c l=(GD (vL c (gY p room) [] l).1,(vL c (gY p room) [] l).2.1,0,0):=by grind[BU,GD,vL,gY]
def GF(w:World):mv w (⟨0,0,0,bW⟩:aM) zE:=⟨_,rfl,DL.nil w⟩
def C72(K:g7)(p:Nat)(m:gl)(w:World)(J:Has (gv K p m) w)(G:∀w',Ext w w'->K w')(I:nL m):CR 72 [.pointer (some ⟨p,0,none⟩)] w (λv w'=>kP (bH v m.mem.l) w w'):=by
 obtain⟨a,E⟩:=gv.rd J (G _ (Ext.refl _));have B:=E.b.cell (o:=9) rfl;have u:=St.start w;refine eZ Tryz.func72 ?_;exact aE (aA tA (bX LL (B.ext u.aF) (dT anN u (C144 a.q m.mem _ (E.mem.ext u.aF) I.mem) λ_ _ _ u=>u.fresh)))
def C172(sv:Value)(xs:List Bool)(w:World)(M:cZ (λ_=>True) w sv xs)(U:xs.length<=1073741824):CR 172 [sv,.bool false] w (λv w'=>v=hH (DK xs)/\Ext w w'):=by
 have u:=St.start w;refine eZ Tryz.func172 ?_;refine aH Hz (M.ext u.aF) ?_;refine⟨λJ y I=>∃k:Nat,y=hH (k:Int)/\J=xs.length-k/\k<=xs.length/\BT xs=k+BT (xs.drop k)/\St w aZ [] I,⟨_,0,rfl,rfl,la _,(tx _).symm,u⟩,?_⟩;rintro J _ I ⟨k,rfl,rfl,V,G,u⟩ _;refine aQ (aC (λW=>?_) λ_=>⟨fM (ng .i64) (af6 bM G).symm,u.aF⟩);obtain⟨e,B⟩:=gx xs (i:=((k:Nat):Int).toNat) bM;refine aN Hz (M.ext u.aF) bM B (λq O=>aD G0 O (Xt LI ?_));rw[qb]at B;exact aY (λE=>⟨fM (ng .i64) (af5 B (by simpa using E) G).symm,u.aF⟩) (λE=>aK bM ⟨_,bM,k+1,rfl,rfl,bM,af4 B (by simpa using E) G,u⟩)
def C70(K:g7)(p:Nat)(m:gl)(w:World)(hm:Has (gv K p m) w)(M:∀w',Ext w w'->K w')(E:nL m)(KJ:m.mem.dZ=fm m.p):CR 70 [.pointer (some ⟨p,0,none⟩)] w (λv w'=>kP (bH v (ql m)) w w'):=by
 obtain⟨a,G⟩:=gv.rd hm (M _ (Ext.refl _));have V:=G.b.cell (o:=6) rfl;have U:=G.b.cell (o:=5) rfl;have iY:=u5 m.p;have LC:m.mem.l.length=(iW m.p).length:=by rw[E.mem.ll,KJ];unfold fm;grind
 have Fu:(cX m.p).length=(iW m.p).length:=by unfold cX;grind
 have Ym:(iW m.p).length<=20:=by have:=E.mem.fl;have:=E.mem.ll;omega
 have hcb:=E.pz.eb;have hcz:=E.pz.zc;obtain⟨g0,g1,g2,g3,g4,g5,hpv,_,_,_,_,_,Mq⟩:=G.uk.pr _ (M _ (Ext.refl _));rw[hpv]at U;obtain⟨I,GJ,Bv⟩:=Mq.open;have Ys:=Bv.1;have u:=St.start w;refine aky _ _ _ ?_;unfold S70;refine aE (aA DX (vm a.pv eL (qd.ext G.b u.aF) rfl (aV ZJ u (C54 m.p a.pv _ (G.uk.pr _ (M _ u.aF)) E.pz) λ_ he u=>aE (aA DX (aA j1 (bX td (U.ext u.aF) (aH uB (GJ.ext u.aF) ?_)))))));refine⟨λmm o y w'=>∃k:Nat,y=hH (k:Int)/\mm=I.length-k/\k<=I.length/\St w aZ [bH o ((m.p.eb.take k).map (yy m))] w',⟨_,0,rfl,rfl,la _,u.eV⟩,?_⟩
 rintro mm o _ _ ⟨k,rfl,rfl,hk,u⟩ _;refine aQ (aC (λc1=>?_) λc1=>?_);rotate_left
 .rw[List.take_of_length_le bM]at u;exact u.fresh
 obtain⟨ct,W⟩:=gx I (i:=((k:Nat):Int).toNat) bM;obtain⟨cl,B⟩:=gx m.p.eb (i:=((k:Nat):Int).toNat) bM;obtain⟨ge,rfl,UA⟩:=Bv.2 _ ct cl W B;have Y:=(hcz cl (kp B)).1;refine⟨λjv w'=>St w aZ [bH jv ((m.p.eb.take (k+1)).map (yy m))] w',?_,?_⟩;rotate_left
 .rintro o2 _ u _;exact aK bM ⟨_,bM,k+1,rfl,rfl,bM,u⟩
 refine aN uB (GJ.ext u.aF) bM W (λq hq=>aD Jn hq (aR u Ps λb6 _ u=>aJ (x:=(⟨ge,cl.at_⟩:jr)) u Jn rfl rfl λ_ u=>have u:=u.drew;aA yj (aB (v:=hM (ge:SV)) jH u.hb rfl (aE (aA Jq (bX je (V.ext u.aF) (jL iF (G.uk.cs _ (M _ u.aF)) bM bM λs32 h32=>dT akC u (C72 K p m _ (hm.ext u.aF) (λ_ e=>M _ (u.aF.then e)) E) λx34 _ cK u=>?_)))))));refine⟨aI jH (u.p1.hb.cell rfl),?_⟩;refine⟨aI je (V.ext u.aF),?_⟩;refine Ch cR u.dS bM bM (λs36 h36=>aV ahd u (C143 _ _ _ cl.e _ _ _ (DL.flat (UA.ext u.aF)) (h32 _ (G.uk.cs _ (M _ u.aF))) h36 Y (by rw[lY];omega)) λ_ he u=>aO rfl (aO rfl (aG ?_)))
 have O:yy m cl=(decide ((qO ((cX m.p).take (eN m.p).toNat) (m.mem.l.take (eN m.p).toNat) cl.e).2=0)&&decide ((qO ((cX m.p).take (eN m.p).toNat) (m.mem.l.take (eN m.p).toNat) cl.e).1≠0)):=rfl;refine aC (λZ=>?_) (λZ=>?_)
 .refine bV (bD (([yy m cl]):List Bool) u Hz rfl (by rw[O,ew Z,Bt];rfl) (dR rfl) λs47 w7 u=>?_);have J:=u.dS;refine bL u.p3 Hz J (by rw[mE,lY,l0];omega) dC (λs48 w8 u=>?_);rw[<- gP (k:=k) B];exact u.p1.drop.p1.drop.p1.drop
 refine bD (([yy m cl]):List Bool) u Hz rfl (by rw[O,ez Z,Bool.false_and];rfl) (dR rfl) (λs47 w7 u=>?_);have J:=u.dS;refine bL u.p3 Hz J (by rw[mE,lY,l0];omega) dC (λs48 w8 u=>?_);rw[<- gP (k:=k) B];exact u.p1.drop.p1.drop.p1.drop
def C102(K:g7)(p:Nat)(m:gl)(pv:bN)(w:World)(M:Has (gv K p m) w)(V:∀w',Ext w w'->K w')(E:nL m)(KJ:m.mem.dZ=fm m.p)(Y:mv w pv m.p):CR 102 [hM pv,.pointer (some ⟨p,0,none⟩)] w (λv w'=>∃ev:aM,v=hM ev/\kP (eA λw=>mv w ev (GD m)) w w'):=by
 have iY:=u5 m.p;have hcb:=E.pz.eb;have LC:m.mem.l.length=(iW m.p).length:=by rw[E.mem.ll,KJ];unfold fm;grind
 have u:=St.start w;refine py Tryz.func102 (pl:=aAD) ?_;refine cH (x:=pv) u (λb2 _ u=>aR u kJ λb4 _ u=>have u:=u.enc (cs':=hZ (⟨0,0,0,bW⟩:aM)) rfl;aV akB u (C68 K p m _ (M.ext u.aF) (λ_ e=>V _ (u.aF.then e)) E) λ_ U u=>aR u Jt λb5 _ u=>aJ (x:=qk m) u LN rfl rfl λ_ u=>?_);have u:=u.drew;refine⟨λjv w'=>∃(b6:Nat) (sv:SV),jv=.pointer (some ⟨b6,0,none⟩)/\St w aZ [bY b6 (hZ (⟨0,0,m.dI,sv⟩:aM)),bH (hM (sv:SV)) (m.mem.l.take (eN m.p).toNat),bY b5 (hZ (qk m)),bY b4 (hZ (⟨0,0,0,bW⟩:aM)),bY b2 (hZ pv)] w',?_,?_⟩
 .refine aA Xy (aB (v:=hH m.dI) bO u.hb rfl (aD eL u.p2.At ⟨dT akC u (C72 K p m _ (M.ext u.aF) (λ_ e=>V _ (u.aF.then e)) E) (λZ w6 cK u=>⟨aI bO (u.p1.hb.cell rfl),⟨eP eL u.p3.At,⟨?_,?_,trivial⟩⟩⟩),?_,trivial⟩))
  .refine aV ZJ u (C54 m.p pv _ (Mt Y u.aF) E.pz) (λw7 U u=>?_);refine⟨aI bO (u.p1.hb.cell rfl),?_⟩;refine se cR u bM bM (λJ u=>?_);obtain⟨sv,rfl⟩:=u.fV;refine pop (CW m.dI _ _ _) (aR u kJ λb6 w8 u=>?_);refine⟨aI bO (u.p2.hb.cell rfl),?_⟩;refine⟨eP eL u.p4.At,?_⟩;exact aJ (x:=(⟨0,0,m.dI,sv⟩:aM)) u hG rfl rfl (λ_ u=>⟨b6,_,rfl,u⟩)
  .refine aR u kJ (λb6 w8 u=>?_);refine⟨aI bO (u.p2.hb.cell rfl),?_⟩;refine⟨eP eL u.p4.At,?_⟩;refine aV ZJ u (C54 m.p pv _ (Mt Y u.aF) E.pz) (λw7 U u=>?_);refine⟨aI bO (u.p2.hb.cell rfl),?_⟩;refine se cR u.p1 bM bM (λJ u=>?_);obtain⟨sv,rfl⟩:=u.fV;exact pop (CW m.dI _ _ _) (aJ (x:=(⟨0,0,m.dI,sv⟩:aM)) u.p1 hG rfl rfl λ_ u=>⟨b6,_,rfl,u⟩)
  refine aR u kJ (λb6 w8 u=>?_);refine⟨aI bO (u.p1.hb.cell rfl),?_⟩;refine⟨eP eL u.p3.At,?_⟩;refine dT akC u (C72 K p m _ (M.ext u.aF) (λ_ e=>V _ (u.aF.then e)) E) (λZ w6 cK u=>?_);refine⟨aI bO (u.p2.hb.cell rfl),?_⟩;refine⟨eP eL u.p4.At,?_⟩;refine aV ZJ u (C54 m.p pv _ (Mt Y u.aF) E.pz) (λw7 U u=>?_);refine⟨aI bO (u.p2.hb.cell rfl),?_⟩;refine se cR u bM bM (λJ u=>?_);obtain⟨sv,rfl⟩:=u.fV;exact pop (CW m.dI _ _ _) (aJ (x:=(⟨0,0,m.dI,sv⟩:aM)) u.p1 hG rfl rfl λ_ u=>⟨b6,_,rfl,u⟩)
 rintro _ _ ⟨b6,sv,rfl,u⟩ _;refine dT ay3 u (C70 K p m _ (M.ext u.aF) (λ_ e=>V _ (u.aF.then e)) E KJ) (λx19 _ cK u=>aV atF u (C172 _ (ql m) _ u.dS (by unfold ql;rw[mE];omega)) λW U u=>?_);have u:=u.drop;refine⟨λw'=>St w aZ [bY b6 (hZ (⟨(tm m).1,(tm m).2,m.dI,sv⟩:aM)),bH (hM (sv:SV)) (m.mem.l.take (eN m.p).toNat),bY b5 (hZ (qk m)),bY b4 (hZ (⟨0,0,0,bW⟩:aM)),bY b2 (hZ pv)] w',?_,?_⟩
 .refine aA LO (aB (v:=hH m.fault) bO u.p2.hb rfl (bV (aC (λG=>?_) λG=>?_)))
  .rw[amo G];have u:=u.drew;refine aA LO (aB (v:=hH m.fault) bO u.p2.hb rfl (aA oR (aW u bO (dR rfl) rfl λw20 u=>?_)));refine⟨aI bO (u.p2.hb.cell rfl),?_⟩;exact aA yi (aW u bO (dR rfl) rfl λ_ u=>u)
  refine aA AL (aB (v:=.bool (sR m)) G0 u.p2.hb rfl (aY (λI=>?_) λI=>?_))
  .rw[amp G I];exact aA oR (aW u bO (dR rfl) rfl λ_ u=>u)
  refine⟨λjv w'=>jv=.bool (pE m&&decide (0<=DK (ql m)))/\w'=W,?_,?_⟩
  .exact aA wN (aB (v:=.bool (pE m)) G0 u.p2.hb rfl (aY (λB=>cQ ⟨vb (by rw[B,Bt]),rfl⟩) λB=>⟨vb (by rw[B];rfl),rfl⟩))
  rintro _ _ ⟨rfl,rfl⟩ _;refine aY (λB=>?_) (λB=>?_)
  .rw[n3,decide_eq_true_iff]at B;rw[amq G I B.1 B.2];exact aA oR (aW u bO (dR rfl) rfl λ_ u=>aA yi (aW u bO (dR rfl) rfl λ_ u=>u))
  refine aA wN (aB (v:=.bool (pE m)) G0 u.p2.hb rfl (aY (λO=>?_) λO=>?_))
  .rw[O,Bt,decide_eq_false_iff_not]at B;rw[amr G I O B];exact aA oR (aW u bO (dR rfl) rfl λ_ u=>u)
  rw[ams G I O];exact u
 rintro _ u _;exact aD (x:=(⟨(tm m).1,(tm m).2,m.dI,sv⟩:aM)) hG u.At (aJ (x:=(⟨(tm m).1,(tm m).2,m.dI,sv⟩:aM)) u.p3 hG rfl rfl λ_ u=>aD (x:=(⟨(tm m).1,(tm m).2,m.dI,sv⟩:aM)) hG u.At (have u:=u.drop.drop.p1.drop.p1.drop.freeze.dF (Ψ:=λw=>mv w (⟨(tm m).1,(tm m).2,m.dI,sv⟩:aM) (GD m)) (λ_ h=>⟨sv,rfl,DL.jV h⟩);⟨_,rfl,u.fresh⟩))
def aif(s:mU):pr g6 (aaw 114 (hM s) 0)=some (hH s.dI):=by
 obtain⟨a,b,c,d,e⟩:=s
 kernel_rfl
def C101(K:g7)(p:cA)(pv:bN)(room c:Int)(lv:Value)(l:List aS)(w:World)(G:∀w',Ext w w'->K w')(hp:He K pv p)(hz:PZ p)(hl:GP K lv l)(zI:l.length<=1000)(OM:∀q∈l,q.cut.length<=1000) :
  CR 101 [hM pv,hH room,hH c,lv] w (λv w'=>(fk p room c≠0/\v=.tuple #[.pointer none,.slice none 0 0,hH (fk p room c)]/\Ext w w')\/
  (fk p room c=0/\∃(b:Nat) (X:g7) (ov:Value),v=.tuple #[.pointer (some ⟨b,0,none⟩),ov,hH (vL c (gY p room) [] l).2.2]/\wy p 1000 (vL c (gY p room) [] l).1/\(vL c (gY p room) [] l).1.mem.dZ=fm p/\kP (sep (gv (λw=>K w/\X w) b (vL c (gY p room) [] l).1) (sep (bH ov (vL c (gY p room) [] l).2.1) (eA X))) w w')):=by
 have u:=St.start w;refine eZ Tryz.func101 ?_;refine cH (x:=pv) u (λb4 _ u=>aD eL u.At (dO asb (C12 K p pv room _ (λ_ e=>G _ (u.aF.then e)) hp hz) ?_));rintro v21 w2 (⟨h1,rfl,O⟩|⟨Z,h1,rfl,O⟩|⟨Z,hr,b,X,rfl,cK⟩)
 .have u:=u.ext O;refine aO rfl (aO rfl (bV (aC (λ_=>?_) λh=>absurd h1 h)));have e:fk p room c=fe p:=by unfold fk;rw[ej h1]
  rw[e];exact .inl ⟨h1,rfl,u.drop.aF⟩
 .have u:=u.ext O;refine aO rfl (aO rfl (bV (aC (λ_=>?_) λh=>absurd (by decide:(1:Int)≠0) h)));have e:fk p room c=1:=by unfold fk;rw[ei (by rw[Z];decide),ej h1]
  rw[e];exact .inl ⟨dC,rfl,u.drop.aF⟩
 have Ah:=rH Z;have u:=(u.made cK).split;refine aO rfl (aO rfl (bV (aC (λh=>absurd rfl h) λ_=>?_)));refine⟨λjv w'=>jv=.bool (decide (c<0\/8<c))/\w'=w2,?_,?_⟩
 .exact aQ (aC (λh=>⟨vb (ew (.inl h)).symm,rfl⟩) λ_=>cP ⟨vb (e8.2 bM),rfl⟩)
 rintro _ _ ⟨rfl,rfl⟩ _;refine aC (λh2=>?_) (λh2=>?_)
 .have e:fk p room c=1:=by unfold fk;rw[ei (by rw[Z];decide),ei bM,ej h2]
  rw[e];exact .inl ⟨dC,rfl,u.drop.drop.drop.aF⟩
 have hse:fk p room c=0:=by unfold fk;rw[ei (by rw[Z];decide),ei bM,ei h2]
 obtain⟨ts,Er⟩:=hl;have hn:ts.length=l.length:=(Er _ (G _ u.aF)).2.1
 have J:∀(k:Nat) (m:gl) (ov:Value) (out:List cG) (f:Int) (w':World),k<=l.length->wy p k m->m.mem.dZ=fm p->(vL c (gY p room) [] l)=(m,out,f)->St w aZ [bH ov out,gv (λw=>K w/\X w) b m,eA X,bY b4 (hZ pv)] w'->
   (fk p room c≠0/\Cg #[.pointer (some ⟨b,0,none⟩),ov,hH f]=.tuple #[.pointer none,.slice none 0 0,hH (fk p room c)]/\Ext w w')\/
   (fk p room c=0/\∃(b':Nat) (X:g7) (W:Value),Cg #[.pointer (some ⟨b,0,none⟩),ov,hH f]=.tuple #[.pointer (some ⟨b',0,none⟩),W,hH (vL c (gY p room) [] l).2.2]/\wy p 1000 (vL c (gY p room) [] l).1/\(vL c (gY p room) [] l).1.mem.dZ=fm p/\kP (sep (gv (λw=>K w/\X w) b' (vL c (gY p room) [] l).1) (sep (bH W (vL c (gY p room) [] l).2.1) (eA X))) w w'):=by
  intro k m ov out f w' hk B hf O u;rw[O];have u:=St.join u.p3.drop.p2.p1;exact .inr ⟨hse,b,X,ov,rfl,B.mono bM,hf,(St.join u.p1).fresh⟩
 refine aH gH (Er _ (G _ u.aF)).1 ?_
 refine⟨λmm o y w'=>∃(k:Nat) (m:gl) (out:List cG),y=hH (k:Int)/\mm=ts.length-k/\k<=l.length/\out.length<=k/\wy p k m/\m.mem.dZ=fm p/\(vL c (gY p room) [] l)=vL c m out (l.drop k)/\St w aZ [bH o out,gv (λw=>K w/\X w) b m,eA X,bY b4 (hZ pv)] w',
  ⟨_,0,gY p room,[],rfl,rfl,la _,o1 _,wy.new hz Ah hr,rfl,rfl,u.eV⟩,?_⟩
 rintro mm ov _ w4 ⟨k,m,out,rfl,rfl,hk,ho,B,KJ,E,u⟩ _;refine aQ (aC (λc1=>?_) λc1=>?_);rotate_left
 .rw[Md bM]at E;exact J k m ov out 0 w4 hk B KJ E u
 obtain⟨q,hq⟩:=gx l (i:=k) bM;obtain⟨tq,Y⟩:=gx ts (i:=((k:Nat):Int).toNat) bM;have V:∀w',K w'->mv w' tq q:=λw' h=>(Er w' h).2.2 k tq q Y hq;obtain⟨U,rfl,_⟩:=V _ (G _ u.aF)
 have hgc:∀w',K w'->cZ (λ_=>True) w' (hM U) q.cut:=λw' h=>by
  obtain⟨gc2,e,h3⟩:=V w' h;cases e
  exact DL.flat h3
 have hqc:=OM q (kp hq)
 have QJ:l.drop k=q::l.drop (k+1):=by
  obtain⟨h1,h2⟩:=j0.1 hq;rw[r6 h1,h2]
 rw[QJ]at E;have og:=B.mb.mono (b:=1000000) bM;have Dx:=B.cr;refine aN gH (Er _ (G _ u.aF)).1 bM Y (λq37 h37=>aD lf h37 (aR u EI λb15 _ u=>aJ (x:=(⟨q.kind,q.t,q.i,U⟩:aM)) u lf rfl rfl λ_ u=>?_));refine⟨λjv w'=>jv=.bool (decide (q.kind=3/\c<=m.dI))/\St w aZ [bY b15 (hZ (⟨q.kind,q.t,q.i,U⟩:aM)),bH ov out,gv (λw=>K w/\X w) b m,eA X,bY b4 (hZ pv)] w',?_,?_⟩
 .exact aA nO (aB (v:=hH q.kind) bO u.hb rfl (aG (aC (λI=>aV akB u (C68 (λw=>K w/\X w) b m _ u.p2.has (λ_ e=>⟨G _ (u.aF.then e),(u.ext e).p3.eA⟩) B.ok) λ_ _ u=>pop (aif (qk m)) (cQ ⟨vb (e8.2 ⟨λh=>⟨I,h⟩,λh=>h.2⟩),u⟩)) λI=>⟨vb (ez λh=>I h.1).symm,u⟩)))
 rintro _ w8 ⟨rfl,u⟩ _;refine aC (λI=>?_) (λI=>?_)
 .rw[vL,ej I]at E;exact J k m ov out 14 w8 hk B KJ E u.drop
 rw[vL,ei I]at E;refine aD (x:=(⟨q.kind,q.t,q.i,U⟩:aM)) lf u.At (bF ar9 u.p2 (H':=λ_=>gv (λw=>K w/\X w) b (pk m q).1) (Φ:=λv _=>v=.tuple #[hM (pk m q).2.1,hH (pk m q).2.2]) (λF2 ef dV=>?_) ?_)
 .exact C24 (λw=>K w/\X w) b m q U F2 _ ef (λw' hc=>⟨G _ (dV w' hc).aF,(dV w' hc).p2.eA⟩) B.ok (B.pr▸Ah) og bM (λw' hc=>hgc _ (G _ (dV w' hc).aF)) hqc
 rintro _ _ rfl u;refine aO rfl (aO rfl (aR u nh λb16 _ u=>aJ (x:=(pk m q).2.1) u fj rfl rfl λw11 u=>bV ?_));have GK:=B.step (q:=q) Ah;have M:=(RP B.ok q).trans KJ;refine aC (λc3=>?_) (λc3=>?_)
 .rw[ej c3]at E;exact J (k+1) _ ov out _ w11 bM GK M E u.drop.p1.drop.p1
 rw[ei c3]at E;refine aD (x:=(pk m q).2.1) fj u.At (bD [(pk m q).2.1] u adm rfl rfl (dR rfl) λs64 _ u=>?_);have aAJ:=u.dS;refine bL u.p4 adm aAJ (by rw[l0];omega) dC (λs65 _ u=>aK bM ?_);refine⟨ts.length-(k+1),bM,k+1,_,out++[(pk m q).2.1],rfl,rfl,bM,by rw[kU,l0];omega,GK,M,E,?_⟩;exact u.p1.drop.p1.drop.p2.drop
def C40(K:g7)(p:cA)(pv:bN)(room c:Int)(lv:Value)(l:List aS)(w:World)(G:∀w',Ext w w'->K w')(J:He K pv p)(U:PZ p)(V:GP K lv l)(zI:l.length<=1000)(O:∀q∈l,q.cut.length<=1000) :
  CR 40 [hM pv,hH room,hH c,lv] w (λv w'=>∃(ev:aM) (ov:Value),v=.tuple #[hM ev,ov,hH (BU p room c l).2.2.1,hH (BU p room c l).2.2.2]/\kP (sep (eA λw=>mv w ev (BU p room c l).1) (bH ov (BU p room c l).2.1)) w w'):=by
 have u:=St.start w;refine eZ Tryz.func40 ?_;refine cH (x:=pv) u (λb4 _ u=>aR u kJ λb8 _ u=>have u:=u.enc (cs':=hZ (⟨0,0,0,bW⟩:aM)) rfl;aD eL u.p1.At (dO atD (C101 K p pv room c lv l _ (λ_ e=>G _ (u.aF.then e)) J U V zI O) ?_));rintro Y w3 (⟨h1,rfl,M⟩|⟨h1,b,X,ov,rfl,B,Z,I⟩)
 .have u:=u.ext M;refine aO rfl (aO rfl (aO rfl (bV (aC (λ_=>?_) λh=>absurd h1 h))));refine pop Ai (aH adm (cZ.nil (α:=cG) (λ_=>True) w) (aJ (x:=(⟨0,0,0,bW⟩:aM)) u hG rfl rfl λW u=>aD (x:=(⟨0,0,0,bW⟩:aM)) hG u.At ?_));rw[amt h1];exact⟨_,_,rfl,(St.join ((u.drop.drop.eV (α:=cG)).fH (Φ:=λw=>mv w (⟨0,0,0,bW⟩:aM) zE) GF)).fresh⟩
 have u:=(((u.made I).split).p1.split);refine aO rfl (aO rfl (aO rfl (bV (aC (λh2=>?_) λh2=>?_))))
 .refine pop Ai (aH adm u.dS (aJ (x:=(⟨0,0,0,bW⟩:aM)) u.p3 hG rfl rfl λW u=>aD (x:=(⟨0,0,0,bW⟩:aM)) hG u.At ?_));rw[amu h1 h2];exact⟨_,_,rfl,(St.join ((u.drop.drop.drop.drop.drop.eV (α:=cG)).fH (Φ:=λw=>mv w (⟨0,0,0,bW⟩:aM) zE) GF)).fresh⟩
 have h3:(vL c (gY p room) [] l).2.2=0:=vy.1 h2;refine aD eL u.p4.At (dO atE (C102 (λw=>K w/\X w) b (vL c (gY p room) [] l).1 pv _ u.p2.has (λ_ e=>⟨G _ (u.aF.then e),(u.ext e).p1.eA⟩) B.ok (Z.trans (by rw[B.pr])) (by rw[B.pr];exact J.pr _ (G _ u.aF))) ?_);rintro _ _ ⟨E,rfl,I⟩;have u:=u.made I;refine aJ (x:=E) u.p4 hG rfl rfl (λ_ u=>aD (x:=E) hG u.At ?_);rw[acd h1 h3];exact⟨E,ov,rfl,(St.join u.drop.p2.drop.p2.drop.p2.drop).fresh⟩
def RQ{p:cA}(hc:GN p):yM (fm p):=λv u=>by
 obtain⟨c,E,rfl⟩:=n5.1 u
 have h:iP 4294967296 c=false:=by
  rcases List.mem_append.1 E with h1|h1
  .obtain⟨l,B,h2⟩:=List.mem_flatten.1 h1
   exact(hc.f.lines l B).2 c h2
  .exact hc.f.iO c h1
 unfold iP at h
 simp only[Bool.or_eq_false_iff,decide_eq_false_iff_not]at h
 show -9223372036854775808<=c.n/\c.n<=9223372036854775807
 omega
def af8{p:cA}{room:Int}(hc:GN p):Ov (gY p room):=by
 have h:=RQ hc
 exact Ov.begin (m:=xM p room) ⟨h,h.take _,h,λk x u=>by cases u⟩
structure rn(p:cA)(n:Nat)(m:gl):Prop where
 go:wy p n m
 vo:Ov m
 fi:m.mem.dZ=fm p
def rn.step{p:cA}{n:Nat}{m:gl}{q:aS}(h:rn p n m)(hc:GN p):rn p (n+1) (pk m q).1:=⟨h.go.step hc,h.vo.do,(RP h.go.ok q).trans h.fi⟩
def rn.new{p:cA}{room:Int}(u:PZ p)(hc:GN p)(B:1<=room/\room<=16):rn p 0 (gY p room):=⟨wy.new u hc B,af8 hc,rfl⟩
def rn.mono{p:cA}{a b:Nat}{m:gl}(h:rn p a m)(u:a<=b):rn p b m:=⟨h.go.mono u,h.vo,h.fi⟩
variable (w:World) (K:Value->g7)
theorem amx:PL 29:=dL Tryz.func29
theorem aAK:PL 99:=dL Tryz.func99
end Go.Proofs.YtpdlpabnlkofmaaGreatDoor
namespace Go.Proofs.YtpdlpabnlkofmaaGreatDoor
open Go.Fw
def yQ(e:aS):Bool:=decide (2<=e.kind/\e.kind<=4)
def C29(a:aS)(O:aM)(b:aS)(U:aM)(w:World)(M:mv w O a)(hb:mv w U b)(W:a.cut.length<=1073741824):CR 29 [hM O,hM U] w (λv w'=>v=.bool (decide (a=b))/\Ext w w'):=by
 obtain⟨J,rfl,M⟩:=M;obtain⟨E,rfl,hb⟩:=hb;have u:=St.start w;refine eZ Tryz.func29 ?_;refine cH (x:=(⟨a.kind,a.t,a.i,J⟩:aM)) u (λb2 _ u=>cH (x:=(⟨b.kind,b.t,b.i,E⟩:aM)) u λb3 _ u=>?_);refine⟨λV w'=>V=.bool (decide (a=b))/\St w aZ [bY b3 (hZ (⟨b.kind,b.t,b.i,E⟩:aM)),bY b2 (hZ (⟨a.kind,a.t,a.i,J⟩:aM))] w',?_,?_⟩
 .refine aA oR (aB (v:=hH a.kind) bO u.p1.hb rfl (aA oR (aB (v:=hH b.kind) bO u.hb rfl (aG (aC (λG=>?_) λG=>⟨vb (ez λh=>G (by rw[h])).symm,u⟩)))));refine aA yi (aB (v:=hH a.t) bO u.p1.hb rfl (aA yi (aB (v:=hH b.t) bO u.hb rfl ?_)));exact aG (aC (λI=>aA Sr (aB (v:=hH a.i) bO u.p1.hb rfl (aA Sr (aB (v:=hH b.i) bO u.hb rfl (aG (aC (λB=>aA Ss (aB (v:=hM (J:SV)) eO u.p1.hb rfl (aA Ss (aB (v:=hM (E:SV)) eO u.hb rfl (aV aiC u (C71 _ _ a.cut b.cut _ (DL.flat (M.ext u.aF)) (DL.flat (hb.ext u.aF)) W) λ_ _ u=>⟨vb (e8.2 ⟨λh=>BM.2 ⟨G,I,B,h⟩,λh=>by rw[h]⟩),u⟩))))) λB=>⟨vb (ez λh=>B (by rw[h])).symm,u⟩)))))) λI=>⟨vb (ez λh=>I (by rw[h])).symm,u⟩)
 rintro _ _ ⟨rfl,u⟩ _;exact⟨rfl,u.drop.drop.aF⟩
def C99(e:aS)(ev:aM)(w:World)(E:mv w ev e):CR 99 [hM ev] w (λv w'=>v=.bool (yQ e)/\Ext w w'):=by
 obtain⟨g,rfl,_⟩:=E;have u:=St.start w;refine eZ Tryz.func99 ?_;refine cH (x:=(⟨e.kind,e.t,e.i,g⟩:aM)) u (λb2 _ u=>?_);refine⟨λB w'=>B=.bool (yQ e)/\St w aZ [bY b2 (hZ (⟨e.kind,e.t,e.i,g⟩:aM))] w',?_,?_⟩
 .exact aA oR (aB (v:=hH e.kind) bO u.hb rfl (aG (aC (λ_=>⟨vb (ew bM).symm,u⟩) λ_=>aA oR (aB (v:=hH e.kind) bO u.hb rfl (aG (aC (λ_=>⟨vb (ew bM).symm,u⟩) λ_=>aA oR (aB (v:=hH e.kind) bO u.hb rfl (aG ⟨vb (e8.2 bM),u⟩))))))))
 rintro _ _ ⟨rfl,u⟩ _;exact⟨rfl,u.drop.aF⟩
variable (w:World) (K:Value->g7)
def P30:dJ:=λi=>match i with
 | 3=>.run 0 10
 | _=>.nil
theorem aAL:PL 98:=dL Tryz.func98
theorem Wj:PL 30:=dL Tryz.func30
theorem acf:PL 32:=dL Tryz.func32
end Go.Proofs.YtpdlpabnlkofmaaGreatDoor
namespace Go.Fw
section
variable {P:Program}{w w0:World}{A S:Nat->Prop}{L:List HP}{α:Type}[Flat α] {xs ys:List α}
theorem acg{T E G:Nat}{z:Option Nat}{v:Value}{i:Int}{K:Value->Prop}(ht:eM P T=some (E,l2 α,G,z))(I:cZ S w v xs)
  (B:0<=i) (h1:i<=xs.length) (k:∀a:Option Addr,(∀w' (ys:List α),cZ S w' v ys->cZ S w' (.slice a i.toNat i.toNat) (ys.take i.toNat))->K (.slice a i.toNat i.toNat)):eT P (nT T v none (some (hH i)) (some (hH i))) K:=by
 obtain⟨a,cap,rfl,J,h3⟩:=id I
 refine⟨_,Kf ht (z6 (.inl ⟨rfl,rfl⟩) ⟨i,rfl,B,rfl⟩ ⟨i,rfl,B,rfl⟩ (la _) (o1 _) bM),k _ λw' ys u=>?_⟩
 refine u.arX rfl (la _) ?_
 obtain⟨_,_,h4,_⟩:=u
 simp only[yA.injEq]at h4
 omega
theorem ON{T E kz R:Nat}{a:Option Addr}{n:Nat}{src:Value}{K:Value->g7}(hs:St w0 A L w)(ht:Wy P T E (l2 α) kz)(hr:cZ (λ_=>True) w (.slice a n n) xs)(uz:cZ S w src ys)
  (hn:xs.length+ys.length<=1073741824) (hby:kz<=8192) (k:∀v' w',(St w0 A (bH v' (xs++ys)::L) w'\/(ys=[]/\v'=.slice a n n/\w'=w))->K v' w'):qW P (Builtin.append_ #[T,T] R [.slice a n n,src].toArray) w K:=by
 obtain⟨hu,u,hi,oK,wI,O⟩:=fp ht
 obtain⟨zv,I,Z⟩:∃zv,u.zero=some zv/\zv.cells.size=l2 α:=by
  cases Uz:u.zero with
  | none=>rw[Uz]at O;cases O
  | some zv=>rw[Uz]at O;exact⟨zv,rfl,by simpa using O⟩
 have hmul:(xs.length+ys.length)*u.bytes<=140737488355328:=by
  have:=Nat.mul_le_mul hn (show u.bytes<=8192 by omega);omega
 obtain⟨a',Du,hv,_,h3⟩:=id hr
 simp only[yA.injEq]at hv
 obtain⟨rfl,G,rfl⟩:=hv
 obtain⟨sa,V,rfl,Xs,Y⟩:=id uz
 by_cases hy:ys=[]
 .subst hy
  refine⟨.slice a n n,w,?_,k _ _ (.inr ⟨rfl,rfl,rfl⟩)⟩
  cases a<;>cases sa<;>simp[Builtin.append_,run_underlying hu,sizeOf,typeInfo,hi,Builtin.lenOf,Builtin.firstCells,loadCells,loadCellsFrom,storeCells]
 have AG:0<ys.length:=List.length_pos_iff.2 hy
 rcases Y with⟨h,_⟩|⟨U,M,rfl,_,Wz⟩
 .exact absurd h hy
 have J:∀(c:Nat),n<=c->c<n+ys.length->(Builtin.append_ #[T,T] R [.slice a n n,.slice (some ⟨U,M,none⟩) ys.length V].toArray).run P w=.ok (.slice (some ⟨w.heap.size,0,none⟩) (n+ys.length) (grownCap w (n+ys.length) c E)) (w.drew.alloc (.cells ((flat xs).toArray++(flat ys).toArray++Builtin.zeroCells zv.cells (grownCap w (n+ys.length) c E-(n+ys.length))) E))->
   qW P (Builtin.append_ #[T,T] R [.slice a n n,.slice (some ⟨U,M,none⟩) ys.length V].toArray) w K:=λc _ hc GV=>by
  have UA:=grownCap_ge w (n+ys.length) c E
  have he:Ext w (w.drew.alloc (.cells ((flat xs).toArray++(flat ys).toArray++Builtin.zeroCells zv.cells (grownCap w (n+ys.length) c E-(n+ys.length))) E)):=⟨rfl,rfl,rfl,ee,λb hb _=>yf w.drew _ b hb⟩
  have cK:=hs.new (H:=bH (.slice (some ⟨w.heap.size,0,none⟩) (n+ys.length) (grownCap w (n+ys.length) c E)) (xs++ys)) (F:=λk=>k=w.heap.size) he (by
   refine .inr ⟨w.heap.size,grownCap w (n+ys.length) c E,(Builtin.zeroCells zv.cells (grownCap w (n+ys.length) c E-(n+ys.length))).toList,by rw[kU,G],⟨E,?_⟩,?_,λ_=>Iff.rfl⟩
   .refine Eq.trans (mh w.drew (.cells ((flat xs).toArray++(flat ys).toArray++Builtin.zeroCells zv.cells (grownCap w (n+ys.length) c E-(n+ys.length))) E)) ?_
    congr 2
    apply Array.ext'
    simp[gL]
   .refine⟨by rw[kU,<- G];exact UA,zH (Eq.symm ?_)⟩
    have e:(Builtin.zeroCells zv.cells (grownCap w (n+ys.length) c E-(n+ys.length))).toList.length=(grownCap w (n+ys.length) c E-(n+ys.length))*l2 α:=by
     rw[Array.length_toList,size_zeroCells,Z]
    rw[kU,e,dA,kU,<- G,<- Nat.add_mul]
    congr 1
    omega) λb hb=>by rw[hb];exact o1 _
  exact⟨_,_,GV,k _ _ (.inl cK)⟩
 cases a with
 | none=>
  have hx:xs=[]:=by
   rcases h3 with⟨h,_⟩|⟨b,o,h,_⟩
   .exact h
   .cases h
  subst hx
  obtain rfl:n=0:=G
  refine J 0 (o1 _) bM ?_
  have B:=run_append_nil (P:=P) w T R E u zv hu hi I ⟨U,M,none⟩ ys.length V (flat ys) (by rw[dA,oK]) (rJ Wz) AG bM (te (by simpa using hmul:ys.length*u.bytes<=140737488355328) dC)
  rw[tx]
  simpa[kH]using B
 | some p=>
  have hcx:∀j v,(flat xs)[j]?=some v->w.cell? (p.add j)=some v:=λj v W=>by
   rcases h3 with⟨h,_⟩|⟨b,o,h,_,h5⟩
   .rw[h,kH]at W;simp at W
   .cases h;exact rJ h5 j v W
  have B:=run_append_grow (P:=P) w T R E u zv hu hi I p n n (flat xs) (by rw[dA,oK,G]) hcx ⟨U,M,none⟩ ys.length V (flat ys) (by rw[dA,oK]) (rJ Wz) bM bM (growslice_fits bM (by rw[G];exact hmul))
  exact J n (o1 _) bM B
end
end Go.Fw
namespace Go.Proofs.YtpdlpabnlkofmaaGreatDoor
open Go.Fw
def gi(c:Int):gl->List aS->gl×List aS
 | m,[]=>(m,[])
 | m,q::r=>if q.kind=3/\c<=m.dI then gi c m r else if (pk m q).2.2≠0 then gi c (pk m q).1 r else((gi c (pk m q).1 r).1,q::(gi c (pk m q).1 r).2)
def eG(p:cA)(room c:Int)(l:List aS):List aS×aS×Int:=
 if fk p room c≠0 then([],zE,fk p room c)else((gi c (gY p room) l).2,GD (gi c (gY p room) l).1,0)
theorem Uk{m:gl}{q:aS}(h:(pk m q).2.2≠0):(pk m q).1=m:=by
 unfold pk at h |-
 split
 .rename_i h1;rw[h1]at h;exact absurd rfl h
 rename_i h1;rw[h1]at h;dsimp only at h |-
 split at h
 .rename_i h2
  rw[ej h2]
  split at h
  .rename_i h3
   rw[ej h3]
   split at h
   .exact absurd rfl h
   rfl
  exact absurd rfl h
 rename_i h2;rw[ei h2]
theorem BV(c:Int):∀(l:List aS) (m:gl) (o:List cG),(vL c m o (gi c m l).2).1=(gi c m l).1/\(vL c m o (gi c m l).2).2.2=0
 | [],m,o=>⟨rfl,rfl⟩
 | q::r,m,o=>by
  unfold gi
  split
  .exact BV c r m o
  rename_i h1
  split
  .rename_i h2
   rw[Uk h2]
   exact BV c r m o
  .rename_i h2
   show(vL c m o (q::_)).1=_/\(vL c m o (q::_)).2.2=0
   rw[vL,ei h1,ei h2]
   exact BV c r _ _
theorem OO{p:cA}{room c:Int}(h:fk p room c=0)(l:List aS):(BU p room c (gi c (gY p room) l).2).1=GD (gi c (gY p room) l).1/\(BU p room c (gi c (gY p room) l).2).2.2.1=0:=by
 obtain⟨h1,h2⟩:=BV c l (gY p room) []
 rw[acd h h2,h1]
 exact⟨rfl,rfl⟩
theorem tT(c:Int):∀(l:List aS) (m:gl),gi c m (gi c m l).2=gi c m l
 | [],m=>rfl
 | q::r,m=>by
  by_cases h1:q.kind=3/\c<=m.dI
  .have e:gi c m (q::r)=gi c m r:=by rw[gi,ej h1]
   rw[e];exact tT c r m
  by_cases h2:(pk m q).2.2≠0
  .have e:gi c m (q::r)=gi c m r:=by rw[gi,ei h1,ej h2,Uk h2]
   rw[e];exact tT c r m
  .have e:∀s,gi c m (q::s)=((gi c (pk m q).1 s).1,q::(gi c (pk m q).1 s).2):=λs=>by rw[gi,ei h1,ei h2]
   rw[e]
   show gi c m (q::(gi c (pk m q).1 r).2)=_
   rw[e,tT c r]
theorem vc(c:Int):∀(l:List aS) (m:gl),(gi c m l).2.Sublist l
 | [],m=>List.Sublist.refl _
 | q::r,m=>by
  unfold gi
  split
  .exact(vc c r m).cons q
  .split
   .exact(vc c r _).cons q
   .exact(vc c r _).cons₂ q
theorem vM{p:cA}{room c:Int}{l:List aS}(h:fk p room c≠0):eG p room c l=([],zE,fk p room c):=by unfold eG;rw[ej h]
theorem yG{p:cA}{room c:Int}{l:List aS}(h:fk p room c=0):eG p room c l=((gi c (gY p room) l).2,GD (gi c (gY p room) l).1,0):=by unfold eG;rw[ei (by rw[h];decide)]
def vd{p:cA}{room c:Int}{l:List aS}:(eG p room c l).1.Sublist l:=by
 unfold eG;split
 .exact List.nil_sublist _
 exact vc _ _ _
def CX{p:cA}{room c:Int}{l:List aS}:(eG p room c l).1.length<=l.length:=vd.length_le
def jt(a b:aS):Bool:=decide (a.kind=b.kind/\a.t=b.t)
def px(D:List aS->List aS×aS):Nat->List aS->aS->Nat->Bool->List aS×aS×Bool
 | 0,s,e,_,ch=>(s,e,ch)
 | n+1,s,e,k,ch=>if k<s.length then(if jt (D (s.eraseIdx k)).2 e=true then px D n (D (s.eraseIdx k)).1 (D (s.eraseIdx k)).2 k true else px D n s e (k+1) ch)else(s,e,ch)
def uq(D:List aS->List aS×aS):Nat->List aS->aS->List aS×aS
 | 0,s,e=>(s,e)
 | n+1,s,e=>if (px D (s.length+1) s e 0 false).2.2=true then uq D n (px D (s.length+1) s e 0 false).1 (px D (s.length+1) s e 0 false).2.1 else((px D (s.length+1) s e 0 false).1,(px D (s.length+1) s e 0 false).2.1)
def gg(p:cA)(room c:Int)(s:List aS):List aS×aS:=((eG p room c s).1,(eG p room c s).2.1)
def eu(p:cA)(room c:Int)(l:List aS):List aS×aS×Int:=
 if (eG p room c l).2.2≠0 then([],zE,(eG p room c l).2.2)
 else if (eG p room c l).1.length≠l.length\/yQ (eG p room c l).2.1=false then([],zE,13)
 else((uq (gg p room c) ((eG p room c l).1.length+1) (eG p room c l).1 (eG p room c l).2.1).1,(uq (gg p room c) ((eG p room c l).1.length+1) (eG p room c l).1 (eG p room c l).2.1).2,0)
section
variable {D:List aS->List aS×aS}(hD:∀s,(D s).1.length<=s.length)
theorem pZ{s:List aS}{k:Nat}(h:k<s.length):(s.eraseIdx k).length+1=s.length:=by rw[List.length_eraseIdx_of_lt h];omega
include hD in
theorem vN:∀(n u:Nat) (s:List aS) (e:aS) (k:Nat) (ch:Bool),s.length<n+k->s.length<u+k->px D n s e k ch=px D u s e k ch
 | 0,0,s,e,k,ch,h,B=>rfl
 | 0,u+1,s,e,k,ch,h,B=>by rw[px,px,ei bM]
 | n+1,0,s,e,k,ch,h,B=>by rw[px,px,ei bM]
 | n+1,u+1,s,e,k,ch,h,B=>by
  rw[px,px]
  split
  .rename_i h1
   have h2:=hD (s.eraseIdx k)
   have h3:=pZ h1
   split
   .exact vN n u _ _ _ _ bM bM
   .exact vN n u _ _ _ _ bM bM
  .rfl
def ke(D:List aS->List aS×aS)(s:List aS)(e:aS)(k:Nat)(ch:Bool):List aS×aS×Bool:=px D (s.length+1) s e k ch
include hD in
theorem yH{s:List aS}{e:aS}{k:Nat}{ch:Bool}(h:k<s.length)(h2:jt (D (s.eraseIdx k)).2 e=true):ke D s e k ch=ke D (D (s.eraseIdx k)).1 (D (s.eraseIdx k)).2 k true:=by
 have h3:=hD (s.eraseIdx k)
 have h4:=pZ h
 unfold ke
 rw[px,ej h,ej h2]
 exact vN hD _ _ _ _ _ _ bM bM
include hD in
theorem xZ{s:List aS}{e:aS}{k:Nat}{ch:Bool}(h:k<s.length)(h2:¬ jt (D (s.eraseIdx k)).2 e=true):ke D s e k ch=ke D s e (k+1) ch:=by
 unfold ke
 conv=>lhs;rw[px,ej h,ei h2]
 exact vN hD _ _ _ _ _ _ bM bM
theorem mZ{s:List aS}{e:aS}{k:Nat}{ch:Bool}(h:¬ k<s.length):ke D s e k ch=(s,e,ch):=by
 unfold ke;rw[px,ei h]
include hD in
theorem rQ:∀(n:Nat) (s:List aS) (e:aS) (k:Nat) (ch:Bool),s.length<n+k->(ke D s e k ch).1.length<=s.length/\(ch=false->(ke D s e k ch).2.2=true->(ke D s e k ch).1.length<s.length)
 | 0,s,e,k,ch,h=>by rw[mZ bM];exact⟨o1 _,λh1 h2=>by rw[h1]at h2;cases h2⟩
 | n+1,s,e,k,ch,h=>by
  by_cases h1:k<s.length
  .have h3:=hD (s.eraseIdx k)
   have h4:=pZ h1
   by_cases h2:jt (D (s.eraseIdx k)).2 e=true
   .rw[yH hD h1 h2]
    have:=rQ n (D (s.eraseIdx k)).1 (D (s.eraseIdx k)).2 k true bM
    exact⟨bM,λ_ _=>bM⟩
   .rw[xZ hD h1 h2]
    exact rQ n s e (k+1) ch bM
  .rw[mZ h1];exact⟨o1 _,λh1 h2=>by rw[h1]at h2;cases h2⟩
def nu(D:List aS->List aS×aS)(s:List aS)(e:aS):List aS×aS:=uq D (s.length+1) s e
include hD in
theorem Dl:∀(n u:Nat) (s:List aS) (e:aS),s.length<n->s.length<u->uq D n s e=uq D u s e
 | 0,_,s,e,h,_=>absurd h (MO _)
 | _+1,0,s,e,_,h=>absurd h (MO _)
 | n+1,u+1,s,e,h,B=>by
  rw[uq,uq]
  split
  .rename_i h1
   have:=(rQ hD (s.length+1) s e 0 false bM).2 rfl h1
   unfold ke at this
   exact Dl n u _ _ bM bM
  .rfl
include hD in
theorem IU{s:List aS}{e:aS}(h:(ke D s e 0 false).2.2=true):nu D s e=nu D (ke D s e 0 false).1 (ke D s e 0 false).2.1:=by
 have h2:=(rQ hD (s.length+1) s e 0 false bM).2 rfl h
 unfold nu
 conv=>lhs;rw[uq]
 unfold ke at h h2 |-
 rw[ej h]
 exact Dl hD _ _ _ _ bM bM
theorem Aj{s:List aS}{e:aS}(h:(ke D s e 0 false).2.2=false):nu D s e=((ke D s e 0 false).1,(ke D s e 0 false).2.1):=by
 unfold nu
 rw[uq]
 unfold ke at h |-
 rw[ei (by rw[h];decide)]
end
def wc{α:Type}(l:List α)(k:Int):List α:=if k<0\/(l.length:Int)<=k then l else l.eraseIdx k.toNat
def amy{α:Type}{l:List α}{k:Nat}(h:k<l.length):wc l (k:Int)=l.eraseIdx k:=by unfold wc;rw[ei bM,qb]
def KK{α:Type}(l:List α)(k:Int):(wc l k).length<=l.length:=by
 unfold wc;split
 .exact o1 _
 exact List.length_eraseIdx_le l _
def KL{α:Type}{l:List α}{k:Int}{x:α}(h:x∈wc l k):x∈l:=by
 unfold wc at h;split at h
 .exact h
 exact KR h
theorem Ul{α:Type}{l:List α}{k:Int}(u:0<=k)(h1:k<l.length):l.take k.toNat++l.drop (k+1).toNat=wc l k:=by
 unfold wc
 rw[ei bM,we,show(k+1).toNat=k.toNat+1 from bM]
def RR{α σ:Type}[Flat σ][Deep α σ]{w:World}{ts:List σ}{xs:List α}{k:Int}(h:fR ts xs w):fR (wc ts k) (wc xs k) w:=by
 have u:ts.length=xs.length:=h.1
 unfold wc
 rw[u]
 split
 .exact h
 rename_i c
 rw[we,we]
 exact(h.take _).append (h.drop _)
def C98(sv:Value)(xs:List aM)(w:World)(B:cZ (λ_=>True) w sv xs)(J:xs.length<=1000000):CR 98 [sv] w (λv w'=>kP (bH v xs) w w'):=by
 have u:=St.start w;refine eZ Tryz.func98 ?_;refine HG Tryz.underlying39 (B.ext u.aF) (λp I=>aY (λE=>?_) λ_=>bD ([]:List aM) u gH rfl rfl (dR rfl) λ_ _ u=>bL u gH (B.ext u.aF) (by simp;omega) dC λ_ _ u=>u.fresh);have G:=I E;subst G;exact(u.eV (α:=aM)).fresh
def C30(K:g7)(lv:Value)(ts:List aM)(k:Int)(w:World)(Y:∀w',Ext w w'->K w')(J:∀w,K w->cZ (λ_=>True) w lv ts)(W:ts.length<=1000000):CR 30 [lv,hH k] w (λv w'=>kP (eA λw=>K w->cZ (λ_=>True) w v (wc ts k)) w w'):=by
 have B:=J _ (Y _ (Ext.refl _));have u:=St.start w;refine py Tryz.func30 (pl:=P30) ?_;refine⟨λU w'=>U=.bool (decide (k<0\/(ts.length:Int)<=k))/\w'=w,?_,?_⟩
 .exact aQ (aC (λc=>⟨vb (ew (.inl c)).symm,rfl⟩) λ_=>aH gH (B.ext u.aF) (cQ ⟨vb (e8.2 bM),rfl⟩))
 rintro _ _ ⟨rfl,rfl⟩ _;refine aC (λc=>?_) (λc=>?_)
 .refine dT aAL u (C98 lv ts _ (B.ext u.aF) W) (λG _ Z u=>?_);have e:wc ts k=ts:=by unfold wc;rw[ej c]
  rw[e];exact(u.freeze.dF (Ψ:=λw=>K w->cZ (λ_=>True) w G ts) λ_ h _=>h).fresh
 refine acg gH (B.ext u.aF) bM bM (λa M=>aK bM (Gb gH (B.ext u.aF) bM bM λO E=>have u:=u.drew;ON u gH (M _ _ (B.ext u.aF)) (E _ _ (B.ext u.aF)) (by rw[lY,List.length_drop];omega) dC λv _ I=>?_));rw[Ul bM bM]at I
 rcases I with u|⟨V,rfl,rfl⟩
 .exact(u.freeze.dF (Ψ:=λw=>K w->cZ (λ_=>True) w v (wc ts k)) λ_ h _=>h).fresh
 refine(u.fH (Φ:=λw=>K w->cZ (λ_=>True) w _ (wc ts k)) λw h=>?_).fresh;rw[<- Ul bM bM,V,oo];exact M _ _ (J _ h)
def C32(a:aS)(M:aM)(b:aS)(I:aM)(w:World)(J:mv w M a)(hb:mv w I b):CR 32 [hM M,hM I] w (λv w'=>v=.bool (jt a b)/\Ext w w'):=by
 obtain⟨G,rfl,J⟩:=J;obtain⟨E,rfl,hb⟩:=hb;have u:=St.start w;refine eZ Tryz.func32 ?_;refine cH (x:=(⟨a.kind,a.t,a.i,G⟩:aM)) u (λb2 _ u=>cH (x:=(⟨b.kind,b.t,b.i,E⟩:aM)) u λb3 _ u=>?_);refine⟨λO w'=>O=.bool (jt a b)/\St w aZ [bY b3 (hZ (⟨b.kind,b.t,b.i,E⟩:aM)),bY b2 (hZ (⟨a.kind,a.t,a.i,G⟩:aM))] w',?_,?_⟩
 .exact aA oR (aB (v:=hH a.kind) bO u.p1.hb rfl (aA oR (aB (v:=hH b.kind) bO u.hb rfl (aG (aC (λB=>aA yi (aB (v:=hH a.t) bO u.p1.hb rfl (aA yi (aB (v:=hH b.t) bO u.hb rfl (aG ⟨vb (e8.2 ⟨λh=>⟨B,h⟩,λh=>h.2⟩),u⟩))))) λB=>⟨vb (ez λh=>B h.1).symm,u⟩)))))
 rintro _ _ ⟨rfl,u⟩ _;exact⟨rfl,u.drop.drop.aF⟩
variable (w:World) (K:Value->g7)
def S27(p0 kY I l3:Value):Prop:=
 qW g6 (yB 27 p0) w λp4 a=>aL 63 a λb c=>lA 27 p4 c λd=>cF 12 [d,kY] c λe f=>xT e 0 λg=>xT e 1 λh=>bB .neq 31 h (i 0) λj=>cV j (eT g6 (l1 63 [].toArray) λk=>
 sA 63 b k f λl=>lA 63 b l λr=>K (.tuple #[(.slice none 0 0),r,h]) l) (eS (λK1=>bB .lss 3 I (i 0) λn=>cV n (K1 tt f) (bB .gtr 3 I (i 8) λo=>K1 o f))
 (λp q=>∀_:Env,
 cV p (eT g6 (l1 63 [].toArray) λs=>sA 63 b s q λt=>lA 63 b t λJc=>K (.tuple #[(.slice none 0 0),Jc,(i 1)]) t) (lN 39 l3 λu=>oN (λK2 E v x=>∀_:Env,
 bA .lss 3 v u λy=>cV y (eS (λO=>iA 39 l3 v λz=>lA 50 z x λaa=>aL 50 x λB ac=>sA 50 B aa ac λY=>eS (λK4=>fA 50 B 0 λae=>lA 3 ae Y λaf=>
 bB .eql 3 af (i 3) λag=>cV ag (cF 68 [g] Y λah ai=>eT g6 (aaw 114 ah 0) λaj=>bA .geq 3 aj I λak=>K4 ak ai) (K4 ff Y)) (λal U=>∀_:Env,
 cV al (O E U) (lA 50 B U λan=>cF 24 [g,an] U λZ ap=>xT Z 0 λaq=>xT Z 1 λar=>aL 56 ap λM au=>sA 56 M aq au λV=>bB .neq 31 ar (i 0) λaw=>
 cV aw (O E V) (fA 50 B 3 λax=>lA 41 ax V λay=>cF 83 [ay] V λaz a0=>fA 50 B 3 λa1=>sA 41 a1 az a0 λa2=>lA 50 B a2 λa3=>bS 39 1 [(0,a3)] a2 λa4 a5=>
 aP 39 E a4 a5 λa6 a7=>O a6 a7)))) (λW a8=>∀_:Env,
 bB .add 3 v (i 1) λa9=>K2 W a9 a8)) (lA 27 p4 x λba=>cF 40 [ba,kY,I,E] x λJ bc=>xT J 0 λbd=>xT J 1 λ_=>xT J 2 λ_=>xT J 3 λ_=>
 aL 63 bc λG be=>sA 63 G bd be λbf=>lA 63 G (drew bf) λbg=>sA 63 b bg (drew bf) λbh=>lA 63 b bh λPl=>K (.tuple #[E,Pl,(i 0)]) bh)) λK2=>K2 (.slice none 0 0) (i 0) q)))
def P27:dJ:=λi=>match i with
 | 17=>.run 0 5
 | _=>.nil
theorem amz(p0 B u E:Value)(h:S27 w K p0 B u E):CR 27 [p0,B,u,E] w K:=
 qm 86 P27 1792 [.tmp 8,.cell 9 63,.tmp 10] Tryz.func27 h
theorem Wk:PL 27:=dL Tryz.func27
end Go.Proofs.YtpdlpabnlkofmaaGreatDoor
namespace Go.Proofs.YtpdlpabnlkofmaaGreatDoor
open Go.Fw
def C27(K:g7)(p:cA)(pv:bN)(room c:Int)(lv:Value)(l:List aS)(w:World)(E:∀w',Ext w w'->K w')(hp:He K pv p)(hz:PZ p)(hl:GP K lv l)(zI:l.length<=1000)(OM:∀q∈l,q.cut.length<=1000) :
  CR 27 [hM pv,hH room,hH c,lv] w (λv w'=>∃(ov:Value) (ev:aM),v=.tuple #[ov,hM ev,hH (eG p room c l).2.2]/\kP (eA λw=>DL w ov (eG p room c l).1/\mv w ev (eG p room c l).2.1) w w'):=by
 have u:=St.start w;refine amz _ _ _ _ _ _ ?_;unfold S27;refine cH (x:=pv) u (λb4 _ u=>aR u kJ λb9 _ u=>have u:=u.enc (cs':=hZ (⟨0,0,0,bW⟩:aM)) rfl;aD eL u.p1.At (dO asb (C12 K p pv room _ (λ_ e=>E _ (u.aF.then e)) hp hz) ?_));rintro v20 w3 (⟨h1,rfl,he⟩|⟨Y,h1,rfl,he⟩|⟨Y,hr,b,X,rfl,cK⟩)
 .have u:=u.ext he;refine aO rfl (aO rfl (bV (aC (λ_=>?_) λh=>absurd h1 h)));have e:fk p room c=fe p:=by unfold fk;rw[ej h1]
  refine pop Ai (aJ (x:=(⟨0,0,0,bW⟩:aM)) u hG rfl rfl λw4 u=>aD (x:=(⟨0,0,0,bW⟩:aM)) hG u.At ?_);rw[vM (by rw[e];exact h1),e];exact⟨_,_,rfl,(u.drop.drop.fH (Φ:=λw=>DL w (.slice none 0 0) []/\mv w (⟨0,0,0,bW⟩:aM) zE) λw=>⟨DL.nil w,GF w⟩).fresh⟩
 .have u:=u.ext he;refine aO rfl (aO rfl (bV (aC (λ_=>?_) λh=>absurd (by decide:(1:Int)≠0) h)));have e:fk p room c=1:=by unfold fk;rw[ei (by rw[Y];decide),ej h1]
  refine pop Ai (aJ (x:=(⟨0,0,0,bW⟩:aM)) u hG rfl rfl λw4 u=>aD (x:=(⟨0,0,0,bW⟩:aM)) hG u.At ?_);rw[vM (by rw[e];decide),e];exact⟨_,_,rfl,(u.drop.drop.fH (Φ:=λw=>DL w (.slice none 0 0) []/\mv w (⟨0,0,0,bW⟩:aM) zE) λw=>⟨DL.nil w,GF w⟩).fresh⟩
 have Ah:=rH Y;have u:=(u.made cK).split;refine aO rfl (aO rfl (bV (aC (λh=>absurd rfl h) λ_=>?_)));refine⟨λjv w'=>jv=.bool (decide (c<0\/8<c))/\w'=w3,?_,?_⟩
 .exact aQ (aC (λh=>⟨vb (ew (.inl h)).symm,rfl⟩) λ_=>cP ⟨vb (e8.2 bM),rfl⟩)
 rintro _ _ ⟨rfl,rfl⟩ _;refine aC (λh2=>?_) (λh2=>?_)
 .have e:fk p room c=1:=by unfold fk;rw[ei (by rw[Y];decide),ei bM,ej h2]
  refine pop Ai (aJ (x:=(⟨0,0,0,bW⟩:aM)) u.p2 hG rfl rfl λ_ u=>aD (x:=(⟨0,0,0,bW⟩:aM)) hG u.At ?_);rw[vM (by rw[e];decide),e];exact⟨_,_,rfl,(u.drop.drop.drop.drop.fH (Φ:=λw=>DL w (.slice none 0 0) []/\mv w (⟨0,0,0,bW⟩:aM) zE) λw=>⟨DL.nil w,GF w⟩).fresh⟩
 have hse:fk p room c=0:=by unfold fk;rw[ei (by rw[Y];decide),ei bM,ei h2]
 obtain⟨ts,Er⟩:=hl;have hn:ts.length=l.length:=(Er _ (E _ u.aF)).2.1;refine aH gH (Er _ (E _ u.aF)).1 ?_
 refine⟨λmm o y w'=>∃(k:Nat) (m:gl) (out:List aS),y=hH (k:Int)/\mm=ts.length-k/\k<=l.length/\out.length<=k/\wy p k m/\m.mem.dZ=fm p/\(gi c (gY p room) l)=((gi c m (l.drop k)).1,out++(gi c m (l.drop k)).2)/\St w aZ [fz o out,gv (λw=>K w/\X w) b m,eA X,bY b9 (hZ (⟨0,0,0,bW⟩:aM)),bY b4 (hZ pv)] w',
  ⟨_,0,gY p room,[],rfl,rfl,la _,o1 _,wy.new hz Ah hr,rfl,rfl,St.wY ((u.fH (Φ:=fR ([]:List aM) ([]:List aS)) λ_=>fR.nil).eV (α:=aM))⟩,?_⟩
 rintro mm ov _ w7 ⟨k,m,out,rfl,rfl,hk,ho,G,KJ,B,u⟩ _;refine aQ (aC (λc1=>?_) λc1=>?_);rotate_left
 .rw[Md bM]at B;have B:(gi c (gY p room) l)=(m,out):=B.trans (by show(m,out++[])=_;rw[oo]);obtain⟨r1,r2⟩:=OO hse l;rw[B]at r1 r2;obtain⟨F,u,hX⟩:=u.nP.Bz;have ZU:GP (λw'=>K w'/\mf F w7 w') ov out:=(GP.of hX).mono λ_ h=>h.2;have aAM:out.Sublist l:=by have:=vc c l (gY p room);rw[B]at this;exact this
  refine aD eL u.p4.At (dO aAE (C40 (λw'=>K w'/\mf F w7 w') p pv room c ov out _ (λ_ e=>⟨E _ (u.aF.then e),(u.ext e).eA⟩) (hp.mono λ_ h=>h.1) hz ZU bM λq hq=>OM q (aAM.subset hq)) ?_);rintro _ w8 ⟨ev,ov2,rfl,cK⟩;have u:=(u.made cK).split;refine aO rfl (aO rfl (aO rfl (aO rfl (aR u kJ λb18 w9 u=>aJ (x:=ev) u hG rfl rfl λw10 u=>have u:=u.drew;aD (x:=ev) hG u.At (aJ (x:=ev) u.p6 hG rfl rfl λw11 u=>aD (x:=ev) hG u.At ?_)))));rw[yG hse,B];have u:=u.drop.drop.p1.drop.gd.p1.drop.p1.drop.p1.drop.dF (Ψ:=λw=>DL w ov out/\mv w ev (GD m)) (λ_ h=>⟨hX _ h.2,by rw[<- r1];exact h.1⟩)
  exact⟨ov,ev,rfl,u.fresh⟩
 obtain⟨q,hq⟩:=gx l (i:=k) bM;obtain⟨tq,W⟩:=gx ts (i:=((k:Nat):Int).toNat) bM;have V:∀w',K w'->mv w' tq q:=λw' h=>(Er w' h).2.2 k tq q W hq;obtain⟨M,rfl,_⟩:=V _ (E _ u.aF)
 have U:∀w',K w'->cZ (λ_=>True) w' (hM M) q.cut:=λw' h=>by
  obtain⟨gc2,e,h3⟩:=V w' h;cases e
  exact DL.flat h3
 have hqc:=OM q (kp hq);rw[Uj hq]at B;have og:=G.mb.mono (b:=1000000) bM;have Dx:=G.cr;refine⟨λo' w'=>∃(Z:gl) (I:List aS),I.length<=k+1/\wy p (k+1) Z/\Z.mem.dZ=fm p/\(gi c (gY p room) l)=((gi c Z (l.drop (k+1))).1,I++(gi c Z (l.drop (k+1))).2)/\St w aZ [fz o' I,gv (λw=>K w/\X w) b Z,eA X,bY b9 (hZ (⟨0,0,0,bW⟩:aM)),bY b4 (hZ pv)] w',?_,?_⟩;rotate_left
 .rintro o2 w8 ⟨m2,aAN,h1,h2,h3,h4,u⟩ wA;exact aK bM ⟨ts.length-(k+1),bM,k+1,m2,aAN,rfl,rfl,bM,h1,h2,h3,h4,u⟩
 refine aN gH (Er _ (E _ u.aF)).1 bM W (λq37 h37=>aD lf h37 (aR u EI λb15 w8 u=>aJ (x:=(⟨q.kind,q.t,q.i,M⟩:aM)) u lf rfl rfl λw9 u=>?_));refine⟨λjv w'=>jv=.bool (decide (q.kind=3/\c<=m.dI))/\St w aZ [bY b15 (hZ (⟨q.kind,q.t,q.i,M⟩:aM)),fz ov out,gv (λw=>K w/\X w) b m,eA X,bY b9 (hZ (⟨0,0,0,bW⟩:aM)),bY b4 (hZ pv)] w',?_,?_⟩
 .exact aA nO (aB (v:=hH q.kind) bO u.hb rfl (aG (aC (λJ=>aV akB u (C68 (λw=>K w/\X w) b m _ u.p2.has (λ_ e=>⟨E _ (u.aF.then e),(u.ext e).p3.eA⟩) G.ok) λ_ _ u=>pop (aif (qk m)) (cQ ⟨vb (e8.2 ⟨λh=>⟨J,h⟩,λh=>h.2⟩),u⟩)) λJ=>⟨vb (ez λh=>J h.1).symm,u⟩)))
 rintro _ w10 ⟨rfl,u⟩ wA;refine aC (λJ=>?_) (λJ=>?_)
 .rw[gi,ej J]at B;exact⟨m,out,bM,G.mono bM,KJ,B,u.drop⟩
 rw[gi,ei J]at B;have GK:=G.step (q:=q) Ah;have O:=(RP G.ok q).trans KJ;refine aD (x:=(⟨q.kind,q.t,q.i,M⟩:aM)) lf u.At (bF ar9 u.p2 (H':=λ_=>gv (λw=>K w/\X w) b (pk m q).1) (Φ:=λv _=>v=.tuple #[hM (pk m q).2.1,hH (pk m q).2.2]) (λF2 ef dV=>?_) ?_)
 .exact C24 (λw=>K w/\X w) b m q M F2 _ ef (λw' hc=>⟨E _ (dV w' hc).aF,(dV w' hc).p2.eA⟩) G.ok (G.pr▸Ah) og bM (λw' hc=>U _ (E _ (dV w' hc).aF)) hqc
 rintro _ w11 rfl u;refine aO rfl (aO rfl (aR u nh λb16 _ u=>aJ (x:=(pk m q).2.1) u fj rfl rfl λ_ u=>bV (aC (λc3=>?_) λc3=>?_)))
 .rw[ej c3]at B;exact⟨_,out,bM,GK,O,B,u.drop.p1.drop.p1⟩
 rw[ei c3]at B;have u:=u.drop.p1;refine aA oQ (aB (v:=hM (M:SV)) eO u.hb rfl (dT Pk u (C83 _ q.cut _ (U _ (E _ u.aF)) bM) λx67 _ cK u=>?_));obtain⟨sv,rfl⟩:=u.fV;exact aA oQ (aW u.p1 eO (dR rfl) rfl λ_ u=>have u:=u.enc (cs':=hZ (⟨q.kind,q.t,q.i,sv⟩:aM)) rfl;aD (x:=(⟨q.kind,q.t,q.i,sv⟩:aM)) lf u.At (have u:=u.p1.freeze.dF (Ψ:=λw=>mv w (⟨q.kind,q.t,q.i,sv⟩:aM) q) (λ_ h=>⟨sv,rfl,DL.jV h⟩);gk (x:=q) (s:=(⟨q.kind,q.t,q.i,sv⟩:aM)) u gH dC λ_ _ u=>fS u.p3 gH (by rw[l0];omega) dC λ_ _ u=>⟨_,out++[q],by rw[kU,l0];omega,GK,O,by rw[B,nk];rfl,u.p1.drop⟩))
variable (w:World) (K:Value->g7)
def P35:dJ:=λi=>match i with
 | 15=>.run 0 5
 | _=>.nil
def aAO:dJ:=λi=>match i with
 | 1=>(.op 0 [] (.op 1 [] (.op 2 [] (.op 3 [] (.op 4 [] (.alt 5 [0,1,2] (.alt 6 [] (.of [(7,[]),(8,[]),(9,[]),(10,[]),(11,[0,1,2,3]),(12,[]),(13,[]),(14,[])]) (.alt 11 [0,1,2,3] (.of [(6,[]),(7,[]),(8,[]),(9,[]),(10,[]),(12,[]),(13,[]),(14,[])]) .stop)) (.alt 11 [0,1,2,3] (.of [(5,[0,1,2]),(6,[]),(7,[]),(8,[]),(9,[]),(10,[]),(12,[]),(13,[]),(14,[])]) .stop)))))))
 | 4=>(.of [(0,[]),(1,[]),(2,[1]),(3,[])])
 | _=>.nil
theorem Wl:PL 35:=dL Tryz.func35
theorem atJ:PL 100:=dL Tryz.func100
end Go.Proofs.YtpdlpabnlkofmaaGreatDoor
namespace Go.Proofs.YtpdlpabnlkofmaaGreatDoor
open Go.Fw
def Wm{a b:aS}(h:jt a b=true):yQ a=yQ b:=by
 have h:=ga h
 unfold yQ;rw[h.1]
theorem BW{p:cA}{room c:Int}{l:List aS}(h:(eG p room c l).2.2≠0):eu p room c l=([],zE,(eG p room c l).2.2):=by unfold eu;rw[ej h]
theorem BX{p:cA}{room c:Int}{l:List aS}(h:(eG p room c l).2.2=0)(h2:(eG p room c l).1.length≠l.length\/yQ (eG p room c l).2.1=false):eu p room c l=([],zE,13):=by unfold eu;rw[ei (by rw[h];decide),ej h2]
theorem ya{p:cA}{room c:Int}{l:List aS}(h:(eG p room c l).2.2=0)(h2:¬ ((eG p room c l).1.length≠l.length\/yQ (eG p room c l).2.1=false)):eu p room c l=((nu (gg p room c) (eG p room c l).1 (eG p room c l).2.1).1,(nu (gg p room c) (eG p room c l).1 (eG p room c l).2.1).2,0):=by unfold eu;rw[ei (by rw[h];decide),ei h2];rfl
theorem mO(p:cA)(room c:Int)(s:List aS):(gg p room c s).1.length<=s.length:=CX
def O4(bs be:Nat)(s:List aS)(e:aS):HP:=pK λsv:SV=>pK λev:aM=>sep (bY bs [hM sv]) (sep (bY be (hZ ev)) (eA λw=>DL w (hM sv) s/\mv w ev e))
section
variable {w0 w:World}{A:Nat->Prop}{L:List HP}{bs be:Nat}{s:List aS}{e:aS}
theorem O4.open(u:St w0 A (O4 bs be s e::L) w):∃(sv:SV) (ev:aM),St w0 A (bY bs [hM sv]::bY be (hZ ev)::Fw.eA (λw=>DL w (hM sv) s/\mv w ev e)::L) w:=by
 obtain⟨sv,u⟩:=u.eg
 obtain⟨ev,u⟩:=u.eg
 have u:=u.split.p1.split
 exact⟨sv,ev,u.p2⟩
theorem O4.shut{sv:SV}{ev:aM}(u:St w0 A (bY bs [hM sv]::bY be (hZ ev)::Fw.eA (λw=>DL w (hM sv) s/\mv w ev e)::L) w):St w0 A (O4 bs be s e::L) w:=by
 have u:=St.join u.p2.p2
 have u:=St.join u.p1
 exact St.eh sv (St.eh ev u)
end
def C100(K:g7)(p:cA)(pv:bN)(room c:Int)(bp br bc bs be k:Nat)(s:List aS)(e:aS)(F:Nat->Prop)(w:World)(hF:(O4 bs be s e).p w F)(J:∀w',gz F w w'->qd w' bp (hZ pv))(I:∀w',gz F w w'->qd w' br [hH room])(G:∀w',gz F w w'->qd w' bc [hH c])(V:∀w1,gz F w w1->∀w2,Ext w1 w2->K w2)(hp:He K pv p)(hz:PZ p)(zI:s.length<=1000)(OM:∀q∈s,q.cut.length<=1000) :
  CR 100 [hH (k:Int),.pointer (some ⟨bp,0,none⟩),.pointer (some ⟨br,0,none⟩),.pointer (some ⟨bc,0,none⟩),.pointer (some ⟨bs,0,none⟩),.pointer (some ⟨be,0,none⟩)] w (λv w'=>v=.bool (jt ((gg p room c) (wc s (k:Int))).2 e)/\mP F (O4 bs be (if jt ((gg p room c) (wc s (k:Int))).2 e=true then((gg p room c) (wc s (k:Int))).1 else s) (if jt ((gg p room c) (wc s (k:Int))).2 e=true then((gg p room c) (wc s (k:Int))).2 else e)) w w'):=by
 obtain⟨sv,ev,u⟩:=O4.open (St.begin hF);refine py Tryz.func100 (pl:=aAO) ?_;obtain⟨M,u,hX⟩:=u.p2.Bz;obtain⟨E,ewS⟩:∃E,E=w:=⟨_,rfl⟩;rw[show mf M w=mf M E by rw[ewS]]at u;rw[<- ewS]at hX;obtain⟨ts,Y⟩:GP (mf M E) (hM sv) s:=GP.of λw' h=>(hX w' h).1;have hn:ts.length=s.length:=(Y _ u.eA).2.1;refine⟨λtv xv w'=>∃(O:Nat) (ov:Value) (B:aM),tv=ov/\xv=.pointer (some ⟨O,0,none⟩)/\St w F [bY O (hZ B),eA (λw=>DL w ov ((gg p room c) (wc s (k:Int))).1/\mv w B ((gg p room c) (wc s (k:Int))).2),eA (mf M E),bY bs [hM sv],bY be (hZ ev)] w',?_,?_⟩
 .have u:=u.drew;refine vm pv eL (J _ u.aF) rfl (bX bO ((I _ u.aF).cell (o:=0) rfl) (bX bO ((G _ u.aF).cell (o:=0) rfl) (aB (v:=hM sv) Jl u.p1.hb rfl ⟨dT Wj u (C30 (mf M E) _ ts (k:Int) _ (λ_ e=>(u.ext e).eA) (λw h=>(Y w h).1) bM) (λU _ W u=>⟨vn pv eL (J _ u.aF) rfl,⟨aI bO ((I _ u.aF).cell (o:=0) rfl),⟨aI bO ((G _ u.aF).cell (o:=0) rfl),⟨?_,?_,trivial⟩⟩⟩⟩),?_,trivial⟩)))
  .refine dO Wk (C27 (λw'=>K w'/\(mf M E) w'/\((mf M E) w'->cZ (λ_=>True) w' U (wc ts (k:Int)))) p pv room c U (wc s (k:Int)) _ (λ_ e=>⟨V _ u.aF _ e,(u.ext e).p1.eA,(u.ext e).eA⟩) (hp.mono λ_ h=>h.1) hz ⟨_,λw' h=>⟨h.2.2 h.2.1,RR (Y w' h.2.1).2⟩⟩ (by have:=KK s (k:Int);omega) λq Z=>OM q (KL Z)) ?_;rintro _ _ ⟨ov,B,rfl,W⟩;have u:=u.made W;refine aO rfl (aO rfl (aO rfl (aR u kJ λO _ u=>?_)));refine⟨vn pv eL (J _ u.aF) rfl,?_⟩;refine⟨aI bO ((I _ u.aF).cell (o:=0) rfl),?_⟩;refine⟨aI bO ((G _ u.aF).cell (o:=0) rfl),?_⟩
   refine⟨aI Jl (u.p4.hb.cell rfl),?_⟩;exact aJ (x:=B) u hG rfl rfl (λ_ u=>have u:=u.p2.drop.p4.p4.p4.p4.p4;⟨O,ov,B,rfl,rfl,u⟩)
  .refine aR u kJ (λO _ u=>?_);refine⟨vn pv eL (J _ u.aF) rfl,?_⟩;refine⟨aI bO ((I _ u.aF).cell (o:=0) rfl),?_⟩;refine⟨aI bO ((G _ u.aF).cell (o:=0) rfl),?_⟩;refine⟨aI Jl (u.p3.hb.cell rfl),?_⟩;refine dO Wk (C27 (λw'=>K w'/\(mf M E) w'/\((mf M E) w'->cZ (λ_=>True) w' U (wc ts (k:Int)))) p pv room c U (wc s (k:Int)) _ (λ_ e=>⟨V _ u.aF _ e,(u.ext e).p2.eA,(u.ext e).p1.eA⟩) (hp.mono λ_ h=>h.1) hz ⟨_,λw' h=>⟨h.2.2 h.2.1,RR (Y w' h.2.1).2⟩⟩ (by have:=KK s (k:Int);omega) λq Z=>OM q (KL Z)) ?_;rintro _ _ ⟨ov,B,rfl,W⟩;have u:=u.made W
   exact aO rfl (aO rfl (aO rfl (aJ (x:=B) u.p1 hG rfl rfl λ_ u=>have u:=u.p2.drop.p4.p4.p4.p4.p4;⟨O,ov,B,rfl,rfl,u⟩)))
  refine aR u kJ (λO _ u=>?_);refine⟨vn pv eL (J _ u.aF) rfl,?_⟩;refine⟨aI bO ((I _ u.aF).cell (o:=0) rfl),?_⟩;refine⟨aI bO ((G _ u.aF).cell (o:=0) rfl),?_⟩;refine⟨aI Jl (u.p2.hb.cell rfl),?_⟩;refine dT Wj u (C30 (mf M E) _ ts (k:Int) _ (λ_ e=>(u.ext e).p1.eA) (λw h=>(Y w h).1) bM) (λU _ W u=>?_);refine⟨vn pv eL (J _ u.aF) rfl,?_⟩;refine⟨aI bO ((I _ u.aF).cell (o:=0) rfl),?_⟩;refine⟨aI bO ((G _ u.aF).cell (o:=0) rfl),?_⟩;refine dO Wk (C27 (λw'=>K w'/\(mf M E) w'/\((mf M E) w'->cZ (λ_=>True) w' U (wc ts (k:Int)))) p pv room c U (wc s (k:Int)) _ (λ_ e=>⟨V _ u.aF _ e,(u.ext e).p2.eA,(u.ext e).eA⟩) (hp.mono λ_ h=>h.1) hz ⟨_,λw' h=>⟨h.2.2 h.2.1,RR (Y w' h.2.1).2⟩⟩ (by have:=KK s (k:Int);omega) λq Z=>OM q (KL Z)) ?_
  rintro _ _ ⟨ov,B,rfl,W⟩;have u:=u.made W;exact aO rfl (aO rfl (aO rfl (aJ (x:=B) u.p2 hG rfl rfl λ_ u=>have u:=u.p2.drop.p4.p4.p4.p4.p4;⟨O,ov,B,rfl,rfl,u⟩)))
 rintro _ _ _ ⟨O,ov,B,rfl,rfl,u⟩ _;obtain⟨W9,WN⟩:=u.p1.eA;have hev:=(hX _ u.p2.eA).2;refine aD (x:=B) hG u.At (aD (x:=ev) hG u.p4.At (aV acf u (C32 _ B e ev _ WN hev) λ_ he u=>bQ (aY (λc1=>?_) λc1=>?_)))
 .have c2:jt ((gg p room c) (wc s (k:Int))).2 e=false:=by simpa using c1
  rw[c2];have u:=u.drop.drop.dF hX;exact⟨rfl,(O4.shut u.p1.p2.p1).mut⟩
 have c2:jt ((gg p room c) (wc s (k:Int))).2 e=true:=by simpa using c1
 rw[c2];obtain⟨tw,hrw,_⟩:=W9.open;obtain⟨oa,oc,rfl,_⟩:=id hrw;have u:=u.drew;refine aD (x:=B) hG u.At (aW u.p3 Jl (dR rfl) rfl λ_ u=>?_);refine⟨eP hG u.p1.At,?_⟩;exact aJ (x:=B) u.p4 hG rfl rfl (λ_ u=>have u:=u.p2.drop.p3.drop;⟨rfl,(O4.shut (sv:=⟨oa,tw.length,oc⟩) u.p1).mut⟩)
theorem C35(K:g7)(p:cA)(pv:bN)(room c:Int)(lv:Value)(l:List aS)(w:World)(hw:∀w',Ext w w'->K w')(hp:He K pv p)(hz:PZ p)(hl:GP K lv l)(zI:l.length<=1000)(OM:∀q∈l,q.cut.length<=1000) :
  CR 35 [hM pv,hH room,hH c,lv] w (λv w'=>∃(ov:Value) (ev:aM),v=.tuple #[ov,hM ev,hH (eu p room c l).2.2]/\kP (eA λw=>DL w ov (eu p room c l).1/\mv w ev (eu p room c l).2.1) w w'):=by
 have u:=St.start w;refine py Tryz.func35 (pl:=P35) ?_;refine cH (x:=pv) u (λb4 w1 u=>cH (x:=room) u λZ w2 u=>cH (x:=c) u λb6 _ u=>aR u kJ λb9 _ u=>have u:=u.enc (cs':=hZ (⟨0,0,0,bW⟩:aM)) rfl;aD eL u.p3.At (aB (v:=hH room) bO u.p2.hb rfl (aB (v:=hH c) bO u.p1.hb rfl (dO Wk (C27 K p pv room c lv l _ (λ_ e=>hw _ (u.aF.then e)) hp hz hl zI OM) ?_))));rintro _ _ ⟨ov,ev,rfl,cK⟩;have u:=u.made cK;refine aO rfl (aO rfl (aO rfl ?_));obtain⟨W9,WN⟩:=u.eA;obtain⟨t1,Cd,_⟩:=W9.open;obtain⟨oa,oc,rfl,_⟩:=id Cd
 refine gG u aiN rfl (λI _ u=>aR u kJ λG _ u=>aW u.p1 Jl (dR rfl) rfl λ_ u=>aJ (x:=ev) u.p1 hG rfl rfl λ_ u=>bV (aC (λc1=>?_) λc1=>?_))
 .refine pop Ai (aJ (x:=(⟨0,0,0,bW⟩:aM)) u.p3 hG rfl rfl λw10 u=>aD (x:=(⟨0,0,0,bW⟩:aM)) hG u.At ?_);rw[BW c1];exact⟨_,_,rfl,(u.drop.drop.drop.drop.drop.drop.drop.fH (Φ:=λw=>DL w (.slice none 0 0) []/\mv w (⟨0,0,0,bW⟩:aM) zE) λw=>⟨DL.nil w,GF w⟩).fresh⟩
 have c0:(eG p room c l).2.2=0:=vy.1 c1;obtain⟨W9,WN⟩:=u.p2.eA;obtain⟨t2,DU,aAP⟩:=W9.open;have GI:t2.length=(eG p room c l).1.length:=aAP.1;refine⟨λjv w'=>jv=.bool (decide ((eG p room c l).1.length≠l.length\/yQ (eG p room c l).2.1=false))/\St w aZ [bY G (hZ ev),bY I [hM (⟨oa,t1.length,oc⟩:SV)],eA (λw=>DL w (.slice oa t1.length oc) (eG p room c l).1/\mv w ev (eG p room c l).2.1),bY b9 (hZ (⟨0,0,0,bW⟩:aM)),bY b6 (hZ c),bY Z (hZ room),bY b4 (hZ pv)] w',?_,?_⟩
 .refine aB (v:=.slice oa t1.length oc) Jl u.p1.hb rfl (aH gH DU ?_);obtain⟨ts,Er⟩:=hl;have hn:ts.length=l.length:=(Er _ (hw _ u.aF)).2.1;refine aH gH (Er _ (hw _ u.aF)).1 (bV (aC (λ_=>⟨vb (ew (.inl bM)).symm,u⟩) λc2=>aD (x:=ev) hG u.At (aV aAK u (C99 _ ev _ WN) λw10 he u=>bQ ?_)));refine⟨vb ?_,u⟩;cases hb:yQ (eG p room c l).2.1 with
  | true=>exact(ez λh=>h.elim (λh=>h bM) λh=>by cases h).symm
  | false=>exact(ew (.inr rfl)).symm
 rintro _ _ ⟨rfl,u⟩ _;refine aC (λc2=>?_) (λc2=>?_)
 .refine pop Ai (aJ (x:=(⟨0,0,0,bW⟩:aM)) u.p3 hG rfl rfl λ_ u=>aD (x:=(⟨0,0,0,bW⟩:aM)) hG u.At ?_);rw[BX c0 c2];exact⟨_,_,rfl,(u.drop.drop.drop.drop.drop.drop.drop.fH (Φ:=λw=>DL w (.slice none 0 0) []/\mv w (⟨0,0,0,bW⟩:aM) zE) λw=>⟨DL.nil w,GF w⟩).fresh⟩
 have Y:=O4.shut (sv:=⟨oa,t1.length,oc⟩) u.p1
 refine⟨λmm y w'=>∃(s:List aS) (e:aS) (ch:Bool),y=.bool ch/\mm=2*s.length+(if ch=true then 1 else 0)/\(s.length<=l.length/\(∀q∈s,q∈l)/\nu (gg p room c) (eG p room c l).1 (eG p room c l).2.1=(if ch=true then nu (gg p room c) s e else(s,e)))/\St w aZ [O4 I G s e,bY b9 (hZ (⟨0,0,0,bW⟩:aM)),bY b6 (hZ c),bY Z (hZ room),bY b4 (hZ pv)] w',
  ⟨_,(eG p room c l).1,(eG p room c l).2.1,true,rfl,rfl,⟨CX,λ_ hq=>vd.subset hq,rfl⟩,Y⟩,?_⟩
 clear u Y
 rintro mm _ _ ⟨s,e,ch,rfl,rfl,⟨OW,hsm,vO⟩,u⟩ _;refine aY (λc3=>?_) (λc3=>?_)
 .rw[ej c3]at vO;refine⟨λnn y1 y2 w'=>∃(k:Nat) (B:List aS) (M:aS) (E:Bool),y1=.bool E/\y2=hH (k:Int)/\nn=B.length-k/\(B.length<=l.length/\(∀q∈B,q∈l)/\k<=1000/\ke (gg p room c) s e 0 false=ke (gg p room c) B M k E)/\St w aZ [O4 I G B M,bY b9 (hZ (⟨0,0,0,bW⟩:aM)),bY b6 (hZ c),bY Z (hZ room),bY b4 (hZ pv)] w',⟨_,0,s,e,false,rfl,rfl,rfl,⟨OW,hsm,la _,rfl⟩,u⟩,?_⟩
  clear u
  rintro nn _ _ _ ⟨k,B,M,E,rfl,rfl,rfl,⟨W,O,hk,V⟩,u⟩ _;obtain⟨sv,J,u⟩:=O4.open u;obtain⟨hd3,hd4⟩:=u.p2.eA;obtain⟨t3,N2,aAQ⟩:=hd3.open;have hl3:t3.length=B.length:=aAQ.1;refine aB (v:=hM sv) Jl u.hb rfl (aH gH N2 (have u:=O4.shut u;aQ (aC (λc4=>?_) λc4=>?_)))
  .have B4:k<B.length:=bM
   have hwo:wc B (k:Int)=B.eraseIdx k:=amy B4;refine Bg (first:=[]) (cap:=[.pointer (some ⟨b4,0,none⟩),.pointer (some ⟨Z,0,none⟩),.pointer (some ⟨b6,0,none⟩),.pointer (some ⟨I,0,none⟩),.pointer (some ⟨G,0,none⟩)]) (H':=λ_=>O4 I G (if jt ((gg p room c) (wc B (k:Int))).2 M=true then((gg p room c) (wc B (k:Int))).1 else B) (if jt ((gg p room c) (wc B (k:Int))).2 M=true then((gg p room c) (wc B (k:Int))).2 else M)) (Φ:=λv _=>v=.bool (jt ((gg p room c) (wc B (k:Int))).2 M)) atJ u (λF hF dV=>?_) ?_
   .exact C100 K p pv room c b4 Z b6 I G k B M F _ hF (λw' hc=>(dV w' hc).p3.hb) (λw' hc=>(dV w' hc).p2.hb) (λw' hc=>(dV w' hc).p1.hb) (λw1 hc _ e=>hw _ ((dV w1 hc).aF.then e)) hp hz bM (λq hq=>OM q (O q hq))
   rintro _ _ rfl u;refine aY (λU=>?_) (λU=>?_)
   .rw[ej U,ej U]at u;have Mq:=mO p room c (wc B (k:Int));have hwl:=pZ B4;rw[hwo]at u U Mq;refine⟨_,?_,k,((gg p room c) (B.eraseIdx k)).1,((gg p room c) (B.eraseIdx k)).2,true,rfl,rfl,rfl,⟨bM,λq hq=>O q (KR ((vd (l:=B.eraseIdx k)).subset hq)),hk,V.trans (yH (mO p room c) B4 U)⟩,u⟩;omega
   rw[ei (by rw[U];decide),ei (by rw[U];decide)]at u;rw[hwo]at U;refine aK bM ?_;refine⟨_,?_,k+1,B,M,E,rfl,rfl,rfl,⟨W,O,bM,V.trans (xZ (mO p room c) B4 (by rw[U];decide))⟩,u⟩;omega
  rw[mZ (D:=(gg p room c)) (s:=B) (e:=M) (k:=k) (ch:=E) bM]at V;have nU:=rQ (mO p room c) (s.length+1) s e 0 false bM;rw[V]at nU;refine⟨_,?_,B,M,E,rfl,rfl,⟨W,O,?_⟩,u⟩
  .rw[ej c3];cases E with
   | true=>have:=nU.2 rfl rfl;show 2*B.length+1<_;dsimp only at this;omega
   | false=>have:=nU.1;show 2*B.length+0<_;dsimp only at this;omega
  rw[vO];cases E with
  | true=>rw[ej rfl,IU (mO p room c) (by rw[V]),V]
  | false=>rw[ei dC,Aj (by rw[V]),V]
 rw[ei (by rw[c3];decide)]at vO;obtain⟨sv,J,u⟩:=O4.open u;have u:=u.drew;refine aB (v:=hM sv) Jl u.hb rfl (aD (x:=J) hG u.p1.At (aJ (x:=J) u.p3 hG rfl rfl λ_ u=>aD (x:=J) hG u.At ?_));rw[ya c0 c2,vO];have u:=u.drop.drop.drop;exact⟨_,J,rfl,u.p1.drop.p1.drop.p1.drop.fresh⟩
def Um(u:Int):pr g6 (l1 50 [(0,hH u)].toArray)=some (.agg [hH u,hH 0,hH 0,.slice none 0 0].toArray):=by kernel_rfl
def OQ(u:Int)(I:Int)(G:Option Addr)(E B:Nat):pr g6 (l1 63 [(0,hH u),(1,hH I),(3,.slice G E B)].toArray)=some (.agg [hH u,hH I,hH 0,.slice G E B].toArray):=by kernel_rfl
def agc(E:Option Addr)(u B:Nat):pr g6 (l1 63 [(3,.slice E u B)].toArray)=some (.agg [hH 0,hH 0,hH 0,.slice E u B].toArray):=by kernel_rfl
section
variable {α σ:Type}[Flat σ] [Deep α σ] {w:World}
theorem fU{t:σ}{x:α}{ts:List σ}{xs:List α}(h:mv w t x)(g:fR ts xs w):fR (t::ts) (x::xs) w:=by
 grind[fR]
end
def rI(w:World)(a b c:Int):mv w (⟨a,b,c,bW⟩:aM) (⟨a,b,c,[]⟩:aS):=⟨_,rfl,DL.nil w⟩
theorem e0(w:World){sv:SV}(a b c:Int){l:List Int}(h:cZ (λ_=>True) w (hM sv) l):mv w (⟨a,b,c,sv⟩:aM) (⟨a,b,c,l⟩:aS):=⟨_,rfl,DL.jV h⟩
def aik(t:ByteArray):Bool:=match vZ t with
 | some r=>decide (r.1.length<=5000)&&r.1.all (λx=>decide (0<=x.at_/\x.at_<=1000000/\x.text.size<=1000000))
 | none=>false
def agd{t:ByteArray}(h:aik t=true):∀l e a,vZ t=some (l,e,a)->jh l:=by
 intro l e a u
 unfold aik at h
 rw[u]at h
 simp only[n3,decide_eq_true_eq,List.all_eq_true]at h
 exact⟨h.1,λx B=>h.2 x B⟩
variable (w:World) (K:Value->g7)
def S34:Prop:=
 cF 65 [(Go.Value.string (ia (#[108,105,110,101,32,97,59,32,116,104,114,101,97,100,32,116,32,123,32,115,116,111,114,101,32,97,32,61,32,49,59,32,99,104,101,99,107,32,48,59,32,125,32,116,104,114,101,97,100,32,117,32,123,32,109,102,101,110,99,101,59,32,125])))] w λa b=>
 xT a 0 λc=>xT a 1 λ_=>xT a 2 λ_=>aL 27 b λp1 d=>sA 27 p1 c d λe=>eT g6 (l1 50 [(0,(i 1))].toArray) λf=>eT g6 (l1 50 [(0,(i 1)),(1,(i 1))].toArray) λg=>
 eT g6 (l1 50 [(0,(i 2))].toArray) λh=>aL 50 e λE j=>aL 50 j λI k=>aL 50 k λG l=>sA 50 E f l λn=>sA 50 I g n λo=>sA 50 G h o λp=>
 lA 50 I p λq=>lA 50 E p λr=>lA 50 G p λs=>lA 50 E p λt=>bS 39 4 [(0,q),(1,r),(2,s),(3,t)] p λu v=>lA 27 p1 v λx=>cF 35 [x,(i 2),(i 0),u] v λy z=>
 xT y 0 λaa=>xT y 1 λab=>xT y 2 λac=>aL 63 z λO ae=>sA 63 O ab ae λM=>lA 27 p1 M λag=>lA 50 G M λah=>lA 50 E M λai=>lA 50 G M λaj=>
 lA 50 I M λak=>lA 50 I M λal=>bS 39 5 [(0,ah),(1,ai),(2,aj),(3,ak),(4,al)] M λam an=>cF 27 [ag,(i 2),(i 0),am] an λao ap=>xT ao 0 λaq=>
 xT ao 1 λar=>xT ao 2 λasx=>aL 63 ap λU au=>sA 63 U ar au λav=>eS (λK1=>lA 27 p1 (drew av) λaw=>eT g6 (nT 39 u none (some (i 1)) none) λax=>
 ((cF 35 [aw,(i 2),(i 0),ax] (drew av) λay az=>xT ay 0 λ_=>xT ay 1 λa0=>xT ay 2 λa1=>aL 63 az λa2 a3=>kA 27 p1 aw a3 (sA 63 a2 a0 a3 λa4=>K1 a1 a4))
 /\((aL 63 (drew av) λa5 a6=>kA 27 p1 aw a6 (cF 35 [aw,(i 2),(i 0),ax] a6 λa7 a8=>xT a7 0 λ_=>xT a7 1 λa9=>xT a7 2 λba=>sA 63 a5 a9 a8 λbb=>K1 ba bb))
 /\
 True))) (λg16 V=>∀_:Env,
 lA 27 p1 V λbd=>lA 50 G V λbe=>lA 50 E V λbf=>lA 50 E V λbg=>bS 39 3 [(0,be),(1,bf),(2,bg)] V λbh bi=>cF 35 [bd,(i 2),(i 0),bh] bi λbj bk=>
 xT bj 0 λ_=>xT bj 1 λbl=>xT bj 2 λbm=>aL 63 bk λbn bo=>sA 63 bn bl bo λbp=>lA 27 p1 bp λbq=>cF 27 [bq,(i 2),(i 9),(.slice none 0 0)] bp λbr bs=>xT br 0 λ_=>
 xT br 1 λbt=>xT br 2 λbu=>aL 63 bs λbv bw=>sA 63 bv bt bw λbx=>eS (λK2=>lA 50 E (drew bx) λbz=>lA 50 E (drew bx) λb0=>bS 39 2 [(0,bz),(1,b0)] (drew bx) λb1 b2=>
 cF 19 [aa,b1] b2 λb3 b4=>cV b3 (lA 63 O b4 λb5=>bS 41 1 [(0,(i 0))] b4 λb6 b7=>kA 63 O b5 b7 (eT g6 (l1 63 [(0,(i 3)),(1,(i 1)),(3,b6)].toArray) λb8=>
 cF 29 [b5,b8] b7 λb9 J=>cV b9 (bB .eql 31 ac (i 0) λcb=>cV cb (lA 50 E J λcc=>lA 50 G J λcd=>lA 50 I J λce=>bS 39 3 [(0,cc),(1,cd),(2,ce)] J λcf cg=>
 cF 19 [aq,cf] cg λch Y=>cV ch (lA 63 U Y λcj=>bS 41 1 [(0,(i 1))] Y λck cl=>kA 63 U cj cl (eT g6 (l1 63 [(3,ck)].toArray) λcm=>cF 29 [cj,cm] cl λcn B=>
 cV cn (bB .eql 31 asx (i 0) λcp=>cV cp (bB .eql 31 g16 (i 13) λcq=>cV cq (bB .eql 31 bm (i 13) λcr=>cV cr (bB .eql 31 bu (i 1) λcs=>cV cs (lA 50 I B λct=>
 lA 50 G B λW=>lA 50 E B λcv=>((cF 30 [u,(i 1)] B λcw cx=>kA 50 I ct cx (kA 50 G W cx (kA 50 E cv cx (bS 39 3 [(0,ct),(1,W),(2,cv)] cx λcy cz=>
 cF 19 [cw,cy] cz λc0 c1=>cV c0 (cF 30 [u,(i 4)] c1 λc2 c3=>cF 19 [c2,u] c3 λc4 c5=>cV c4 (lA 63 O c5 λc6=>eT g6 (l1 63 [(0,(i 3)),(1,(i 1))].toArray) λc7=>
 cF 32 [c6,c7] c5 λc8 c9=>cV c8 (lA 63 O c9 λda=>lA 63 U c9 λdb=>cF 32 [da,db] c9 λdc dd=>eT g6 (Op.unary .not dc) λde=>K2 de dd) (K2 ff c9)) (K2 ff c5)) (
 K2 ff c1)))))
 /\((bS 39 3 [(0,ct),(1,W),(2,cv)] B λdf dg=>cF 30 [u,(i 1)] dg λdh di=>kA 50 I ct di (kA 50 G W di (kA 50 E cv di (cF 19 [dh,df] di λdj dk=>cV dj (
 cF 30 [u,(i 4)] dk λdl dm=>cF 19 [dl,u] dm λdn dp=>cV dn (lA 63 O dp λdq=>eT g6 (l1 63 [(0,(i 3)),(1,(i 1))].toArray) λdr=>cF 32 [dq,dr] dp λds Z=>
 cV ds (lA 63 O Z λdu=>lA 63 U Z λdv=>cF 32 [du,dv] Z λdw dx=>eT g6 (Op.unary .not dw) λdy=>K2 dy dx) (K2 ff Z)) (K2 ff dp)) (K2 ff dk)))))
 /\
 True))) ((K2 ff B)
 /\((K2 ff B)
 /\
 True))) ((K2 ff B)
 /\((K2 ff B)
 /\
 True))) ((K2 ff B)
 /\((K2 ff B)
 /\
 True))) ((K2 ff B)
 /\((K2 ff B)
 /\
 True))) ((K2 ff B)
 /\((K2 ff B)
 /\
 True)))) ((K2 ff Y)
 /\((K2 ff Y)
 /\
 True))) ((K2 ff J)
 /\((K2 ff J)
 /\
 True))) ((K2 ff J)
 /\((K2 ff J)
 /\
 True)))) ((K2 ff b4)
 /\((K2 ff b4)
 /\
 True))) (λdz d0=>∀_:Env,
 K dz d0))
def P34:dJ:=λi=>match i with
 | 6=>(.op 0 [] (.op 1 [] (.op 2 [] (.alt 3 [] (.of [(4,[]),(5,[]),(6,[]),(7,[]),(8,[0]),(9,[]),(10,[]),(11,[])]) (.alt 8 [0] (.of [(3,[]),(4,[]),(5,[]),(6,[]),(7,[]),(9,[]),(10,[]),(11,[])]) .stop)))))
 | 9=>(.op 0 [] (.op 1 [] (.op 2 [] (.op 3 [] (.op 4 [] (.op 5 [] (.op 6 [] (.op 7 [6] (.op 8 [] (.op 9 [] (.op 10 [] (.op 11 [] (.op 12 [] (.op 13 [] (.op 14 [] (.op 15 [] (.op 16 [] (.op 17 [] (.op 18 [] (.op 19 [] (.op 20 [] (.op 21 [] (.op 22 [] (.op 23 [] (.op 24 [] (.op 25 [24] (.op 26 [] (.op 27 [] (.op 28 [] (.op 29 [] (.op 30 [] (.op 31 [] (.op 32 [] (.op 33 [] (.op 34 [] (.op 35 [] (.op 36 [] (.op 37 [] (.op 38 [] (.op 39 [] (.op 40 [] (.op 41 [] (.op 42 [] (.op 43 [] (.op 44 [] (.op 45 [] (.op 46 [] (.op 48 [] (.op 49 [] (.op 50 [] (.alt 47 [48,49,50] (.of [(51,[]),(52,[]),(53,[]),(54,[]),(55,[]),(57,[]),(56,[]),(58,[]),(59,[]),(60,[]),(61,[]),(62,[]),(63,[]),(64,[]),(65,[]),(66,[]),(67,[]),(68,[]),(69,[]),(70,[]),(71,[])]) (.alt 51 [] (.of [(47,[48,49,50]),(52,[]),(53,[]),(54,[]),(55,[]),(57,[]),(56,[]),(58,[]),(59,[]),(60,[]),(61,[]),(62,[]),(63,[]),(64,[]),(65,[]),(66,[]),(67,[]),(68,[]),(69,[]),(70,[]),(71,[])]) .stop))))))))))))))))))))))))))))))))))))))))))))))))))))
 | _=>.nil
theorem amB(h:S34 w K):CR 34 [] w K:=
 qm 150 P34 1 [.tmp 0] Tryz.func34 h
theorem atL:PL 34:=dL Tryz.func34
end Go.Proofs.YtpdlpabnlkofmaaGreatDoor
namespace Go.Proofs.YtpdlpabnlkofmaaGreatDoor
open Go.Fw
def IV(B:Int)(u:Int):pr g6 (l1 63 [(0,hH B),(1,hH u)].toArray)=some (.agg [hH B,hH u,hH 0,.slice none 0 0].toArray):=by kernel_rfl
def Un:ByteArray:=⟨#[108,105,110,101,32,97,59,32,116,104,114,101,97,100,32,116,32,123,32,115,116,111,114,101,32,97,32,61,32,49,59,32,99,104,101,99,107,32,48,59,32,125,32,116,104,114,101,97,100,32,117,32,123,32,109,102,101,110,99,101,59,32,125]⟩
def qL:cA:=((vG Un).getD (N9,0,0)).1
def RS:vG Un=some (qL,0,0):=by decide +kernel
def Wn:∀l e a,vZ Un=some (l,e,a)->jh l:=agd (by decide +kernel)
theorem ach:sE qL=qL:=by decide +kernel
def yI:PZ qL:=by rw[<- ach];exact Tc _
def aAR:eu qL 2 0 ([(⟨1,1,0,[]⟩:aS),(⟨1,0,0,[]⟩:aS),(⟨2,0,0,[]⟩:aS),(⟨1,0,0,[]⟩:aS)]:List aS)=(([(⟨1,0,0,[]⟩:aS),(⟨1,0,0,[]⟩:aS)]:List aS),(⟨3,1,0,[0]⟩:aS),0)/\eG qL 2 0 ([(⟨2,0,0,[]⟩:aS),(⟨1,0,0,[]⟩:aS),(⟨2,0,0,[]⟩:aS),(⟨1,1,0,[]⟩:aS),(⟨1,1,0,[]⟩:aS)]:List aS)=(([(⟨1,0,0,[]⟩:aS),(⟨2,0,0,[]⟩:aS),(⟨1,1,0,[]⟩:aS)]:List aS),(⟨0,0,0,[1]⟩:aS),0)/\eu qL 2 0 ([(⟨1,1,0,[]⟩:aS)]:List aS)=([],zE,13)/\eu qL 2 0 ([(⟨2,0,0,[]⟩:aS),(⟨1,0,0,[]⟩:aS),(⟨1,0,0,[]⟩:aS)]:List aS)=([],zE,13)/\eG qL 2 9 []=([],zE,1):=by decide +kernel
def aci(R:List aS×aS×Int)(K:g7)(p:cA)(pv:bN)(room c:Int)(lv:Value)(l:List aS)(w:World)(I:∀w',Ext w w'->K w')(E:He K pv p)(B:PZ p)(G:GP K lv l)(J:l.length<=1000)(u:∀q∈l,q.cut.length<=1000)(M:eu p room c l=R) :
  Calls g6 35 [hM pv,hH room,hH c,lv].toArray w (tc λv w'=>∃(ov:Value) (ev:aM),v=.tuple #[ov,hM ev,hH R.2.2]/\kP (eA λw=>DL w ov R.1/\mv w ev R.2.1) w w'):=M▸C35 K p pv room c lv l w I E B G J u
def atM(R:List aS×aS×Int)(K:g7)(p:cA)(pv:bN)(room c:Int)(lv:Value)(l:List aS)(w:World)(I:∀w',Ext w w'->K w')(E:He K pv p)(B:PZ p)(G:GP K lv l)(J:l.length<=1000)(u:∀q∈l,q.cut.length<=1000)(M:eG p room c l=R) :
  Calls g6 27 [hM pv,hH room,hH c,lv].toArray w (tc λv w'=>∃(ov:Value) (ev:aM),v=.tuple #[ov,hM ev,hH R.2.2]/\kP (eA λw=>DL w ov R.1/\mv w ev R.2.1) w w'):=M▸C27 K p pv room c lv l w I E B G J u
def C34(w:World):CR 34 [] w (λv w'=>v=.bool true/\Ext w w'):=by
 have u:=St.start w;refine amB _ _ ?_;unfold S34;obtain⟨r1,r2,r3,r4,r5⟩:=aAR;refine dO avF (C65 Un (qL,0,0) _ dC RS Wn) ?_;rintro _ _ ⟨pv,rfl,B⟩;have u:=u.made B;refine aO rfl (aO rfl (aO rfl (aR u vi λb1 _ u=>aJ (x:=pv) u eL rfl rfl λ_ u=>pop (Um 1) (pop (CK 1 1) (pop (Um 2) (aR u EI λb4 _ u=>aR u EI λb5 _ u=>aR u EI λb6 _ u=>aJ (x:=(⟨1,0,0,bW⟩:aM)) u.p2 lf rfl rfl λ_ u=>aJ (x:=(⟨1,1,0,bW⟩:aM)) u.p2 lf rfl rfl λ_ u=>?_))))));refine aJ (x:=(⟨2,0,0,bW⟩:aM)) u.p2 lf rfl rfl (λM u=>?_)
 have u:=u.p4;obtain⟨J,u,hX⟩:=u.Bz;have O:He (mf J M) pv qL:=He.of hX;refine aD (x:=(⟨1,1,0,bW⟩:aM)) lf u.p2.At (aD (x:=(⟨1,0,0,bW⟩:aM)) lf u.p3.At (aD (x:=(⟨2,0,0,bW⟩:aM)) lf u.p1.At (aD (x:=(⟨1,0,0,bW⟩:aM)) lf u.p3.At (bD ([(⟨1,1,0,bW⟩:aM),(⟨1,0,0,bW⟩:aM),(⟨2,0,0,bW⟩:aM),(⟨1,0,0,bW⟩:aM)]:List aM) u gH rfl rfl (dR rfl) λE _ u=>aD (x:=pv) eL u.p5.At (dO Wl (aci _ (λw'=>mf J M w'/\cZ (λ_=>True) w' E ([(⟨1,1,0,bW⟩:aM),(⟨1,0,0,bW⟩:aM),(⟨2,0,0,bW⟩:aM),(⟨1,0,0,bW⟩:aM)]:List aM)) qL pv 2 0 E ([(⟨1,1,0,[]⟩:aS),(⟨1,0,0,[]⟩:aS),(⟨2,0,0,[]⟩:aS),(⟨1,0,0,[]⟩:aS)]:List aS) _ (λ_ e=>⟨(u.ext e).p1.eA,(u.ext e).dS⟩) (O.mono λ_ h=>h.1) yI ⟨_,λ_ h=>⟨h.2,(fU (rI _ 1 1 0) (fU (rI _ 1 0 0) (fU (rI _ 2 0 0) (fU (rI _ 1 0 0) fR.nil))))⟩⟩ dC dC r1) ?_)))))
 rintro _ _ ⟨om,G,rfl,B⟩;have u:=u.made B;refine aO rfl (aO rfl (aO rfl (aR u kJ λb9 _ u=>aJ (x:=G) u hG rfl rfl λ_ u=>aD (x:=pv) eL u.p7.At (aD (x:=(⟨2,0,0,bW⟩:aM)) lf u.p4.At (aD (x:=(⟨1,0,0,bW⟩:aM)) lf u.p6.At (aD (x:=(⟨2,0,0,bW⟩:aM)) lf u.p4.At (aD (x:=(⟨1,1,0,bW⟩:aM)) lf u.p5.At (aD (x:=(⟨1,1,0,bW⟩:aM)) lf u.p5.At (bD ([(⟨2,0,0,bW⟩:aM),(⟨1,0,0,bW⟩:aM),(⟨2,0,0,bW⟩:aM),(⟨1,1,0,bW⟩:aM),(⟨1,1,0,bW⟩:aM)]:List aM) u gH rfl rfl (dR rfl) λV _ u=>dO Wk (atM _ (λw'=>mf J M w'/\cZ (λ_=>True) w' V ([(⟨2,0,0,bW⟩:aM),(⟨1,0,0,bW⟩:aM),(⟨2,0,0,bW⟩:aM),(⟨1,1,0,bW⟩:aM),(⟨1,1,0,bW⟩:aM)]:List aM)) qL pv 2 0 V ([(⟨2,0,0,[]⟩:aS),(⟨1,0,0,[]⟩:aS),(⟨2,0,0,[]⟩:aS),(⟨1,1,0,[]⟩:aS),(⟨1,1,0,[]⟩:aS)]:List aS) _ (λ_ e=>⟨(u.ext e).p4.eA,(u.ext e).dS⟩) (O.mono λ_ h=>h.1) yI ⟨_,λ_ h=>⟨h.2,(fU (rI _ 2 0 0) (fU (rI _ 1 0 0) (fU (rI _ 2 0 0) (fU (rI _ 1 1 0) (fU (rI _ 1 1 0) fR.nil)))))⟩⟩ dC dC r2) ?_)))))))))
 rintro _ _ ⟨od,I,rfl,B⟩;have u:=u.made B;refine aO rfl (aO rfl (aO rfl (aR u kJ λb12 _ u=>aJ (x:=I) u hG rfl rfl λ_ u=>?_)));have u:=u.p2.drop;refine⟨λjv w'=>jv=hH 13/\St w aZ [bY b12 (hZ I),eA (λw=>DL w od ([(⟨1,0,0,[]⟩:aS),(⟨2,0,0,[]⟩:aS),(⟨1,1,0,[]⟩:aS)]:List aS)/\mv w I (⟨0,0,0,[1]⟩:aS)),bY b9 (hZ G),eA (λw=>DL w om ([(⟨1,0,0,[]⟩:aS),(⟨1,0,0,[]⟩:aS)]:List aS)/\mv w G (⟨3,1,0,[0]⟩:aS)),bH E ([(⟨1,1,0,bW⟩:aM),(⟨1,0,0,bW⟩:aM),(⟨2,0,0,bW⟩:aM),(⟨1,0,0,bW⟩:aM)]:List aM),eA (mf J M),bY b6 (hZ (⟨2,0,0,bW⟩:aM)),bY b5 (hZ (⟨1,1,0,bW⟩:aM)),bY b4 (hZ (⟨1,0,0,bW⟩:aM)),bY b1 (hZ pv)] w',?_,?_⟩
 .have u:=u.drew;refine aD (x:=pv) eL u.p9.At (jL gH u.p4.dS dC dC λU Z=>⟨?_,?_,trivial⟩)
  .refine dO Wl (aci _ (λw'=>mf J M w'/\cZ (λ_=>True) w' E ([(⟨1,1,0,bW⟩:aM),(⟨1,0,0,bW⟩:aM),(⟨2,0,0,bW⟩:aM),(⟨1,0,0,bW⟩:aM)]:List aM)) qL pv 2 0 U ([(⟨1,1,0,[]⟩:aS)]:List aS) _ (λ_ e=>⟨(u.ext e).p5.eA,((u.ext e).p4).dS⟩) (O.mono λ_ h=>h.1) yI ⟨_,λw h=>⟨Z w h.2,(fU (rI _ 1 1 0) fR.nil)⟩⟩ dC dC r3) ?_;rintro _ _ ⟨o3,e3,rfl,B⟩;have u:=u.made B;refine aO rfl (aO rfl (aO rfl (aR u kJ λb15 _ u=>?_)));refine⟨eP eL u.p11.At,?_⟩;exact aJ (x:=e3) u hG rfl rfl (λ_ u=>have u:=u.drop.drop.p9.p9.p9.p9.p9.p9.p9.p9.p9.p9;⟨rfl,u⟩)
  refine aR u kJ (λb15 _ u=>?_);refine⟨eP eL u.p10.At,?_⟩;refine dO Wl (aci _ (λw'=>mf J M w'/\cZ (λ_=>True) w' E ([(⟨1,1,0,bW⟩:aM),(⟨1,0,0,bW⟩:aM),(⟨2,0,0,bW⟩:aM),(⟨1,0,0,bW⟩:aM)]:List aM)) qL pv 2 0 U ([(⟨1,1,0,[]⟩:aS)]:List aS) _ (λ_ e=>⟨(u.ext e).p6.eA,((u.ext e).p5).dS⟩) (O.mono λ_ h=>h.1) yI ⟨_,λw h=>⟨Z w h.2,(fU (rI _ 1 1 0) fR.nil)⟩⟩ dC dC r3) ?_;rintro _ _ ⟨o3,e3,rfl,B⟩;have u:=u.made B;exact aO rfl (aO rfl (aO rfl (aJ (x:=e3) u.p1 hG rfl rfl λ_ u=>have u:=u.drop.drop.p9.p9.p9.p9.p9.p9.p9.p9.p9.p9;⟨rfl,u⟩)))
 rintro _ _ ⟨rfl,u⟩ _;refine aD (x:=pv) eL u.p9.At (aD (x:=(⟨2,0,0,bW⟩:aM)) lf u.p6.At (aD (x:=(⟨1,0,0,bW⟩:aM)) lf u.p8.At (aD (x:=(⟨1,0,0,bW⟩:aM)) lf u.p8.At (bD ([(⟨2,0,0,bW⟩:aM),(⟨1,0,0,bW⟩:aM),(⟨1,0,0,bW⟩:aM)]:List aM) u gH rfl rfl (dR rfl) λW _ u=>dO Wl (aci _ (λw'=>mf J M w'/\cZ (λ_=>True) w' W ([(⟨2,0,0,bW⟩:aM),(⟨1,0,0,bW⟩:aM),(⟨1,0,0,bW⟩:aM)]:List aM)) qL pv 2 0 W ([(⟨2,0,0,[]⟩:aS),(⟨1,0,0,[]⟩:aS),(⟨1,0,0,[]⟩:aS)]:List aS) _ (λ_ e=>⟨(u.ext e).p6.eA,(u.ext e).dS⟩) (O.mono λ_ h=>h.1) yI ⟨_,λ_ h=>⟨h.2,(fU (rI _ 2 0 0) (fU (rI _ 1 0 0) (fU (rI _ 1 0 0) fR.nil)))⟩⟩ dC dC r4) ?_))))
 rintro _ _ ⟨o4,e4,rfl,B⟩;have u:=u.made B;refine aO rfl (aO rfl (aO rfl (aR u kJ λb18 _ u=>aJ (x:=e4) u hG rfl rfl λ_ u=>have u:=u.drop.p1.drop.drop;aD (x:=pv) eL u.p9.At (dO Wk (atM _ (mf J M) qL pv 2 9 (.slice none 0 0) [] _ (λ_ e=>(u.ext e).p5.eA) O yI (GP.nil _) dC dC r5) ?_))));rintro _ _ ⟨o5,e5,rfl,B⟩;have u:=u.made B;refine aO rfl (aO rfl (aO rfl (aR u kJ λb21 _ u=>aJ (x:=e5) u hG rfl rfl λ_ u=>?_)));have u:=u.drop.drop;refine⟨λjv w'=>jv=.bool true/\Ext w w',?_,?_⟩;rotate_left
 .rintro _ _ h _;exact h
 have u:=u.drew;refine aD (x:=(⟨1,0,0,bW⟩:aM)) lf u.p8.At (aD (x:=(⟨1,0,0,bW⟩:aM)) lf u.p8.At (bD ([(⟨1,0,0,bW⟩:aM),(⟨1,0,0,bW⟩:aM)]:List aM) u gH rfl rfl (dR rfl) λq1 _ u=>aV Pj u (C19 om q1 ([(⟨1,0,0,[]⟩:aS),(⟨1,0,0,[]⟩:aS)]:List aS) ([(⟨1,0,0,[]⟩:aS),(⟨1,0,0,[]⟩:aS)]:List aS) _ u.p4.eA.1 (DL.of u.dS (fU (rI _ 1 0 0) (fU (rI _ 1 0 0) fR.nil))) dC dC) λ_ Y u=>j5 dC (have u:=u.drop;aD (x:=G) hG u.p2.At (bD ([0]:List Int) u cR rfl rfl (dR rfl) λz1 _ u=>?_))));refine⟨eP hG u.p3.At,?_⟩
 obtain⟨s1,rfl⟩:=u.fV;refine pop (OQ 3 1 _ _ _) ?_;have UM:mv _ (⟨3,1,0,s1⟩:aM) (⟨3,1,0,[0]⟩:aS):=e0 _ _ _ _ u.dS;refine aV amx u (C29 (⟨3,1,0,[0]⟩:aS) G (⟨3,1,0,[0]⟩:aS) (⟨3,1,0,s1⟩:aM) _ u.p4.eA.2 UM dC) (λ_ Y u=>j5 dC (have u:=u.drop;aG (aC (λ_=>?_) λh=>absurd rfl h)));refine aD (x:=(⟨1,0,0,bW⟩:aM)) lf u.p8.At (aD (x:=(⟨2,0,0,bW⟩:aM)) lf u.p6.At (aD (x:=(⟨1,1,0,bW⟩:aM)) lf u.p7.At (bD ([(⟨1,0,0,bW⟩:aM),(⟨2,0,0,bW⟩:aM),(⟨1,1,0,bW⟩:aM)]:List aM) u gH rfl rfl (dR rfl) λq2 _ u=>aV Pj u (C19 od q2 ([(⟨1,0,0,[]⟩:aS),(⟨2,0,0,[]⟩:aS),(⟨1,1,0,[]⟩:aS)]:List aS) ([(⟨1,0,0,[]⟩:aS),(⟨2,0,0,[]⟩:aS),(⟨1,1,0,[]⟩:aS)]:List aS) _ u.p2.eA.1 (DL.of u.dS (fU (rI _ 1 0 0) (fU (rI _ 2 0 0) (fU (rI _ 1 1 0) fR.nil)))) dC dC) λ_ Y u=>j5 dC (have u:=u.drop;aD (x:=I) hG u.At (bD ([1]:List Int) u cR rfl rfl (dR rfl) λz2 _ u=>?_)))))
 refine⟨eP hG u.p1.At,?_⟩;obtain⟨s2,rfl⟩:=u.fV;refine pop (agc _ _ _) ?_;have hz2:mv _ (⟨0,0,0,s2⟩:aM) (⟨0,0,0,[1]⟩:aS):=e0 _ _ _ _ u.dS;refine aV amx u (C29 (⟨0,0,0,[1]⟩:aS) I (⟨0,0,0,[1]⟩:aS) (⟨0,0,0,s2⟩:aM) _ u.p2.eA.2 hz2 dC) (λ_ Y u=>j5 dC (have u:=u.drop;aG (aC (λ_=>aG (aC (λ_=>aG (aC (λ_=>aG (aC (λ_=>aD (x:=(⟨1,1,0,bW⟩:aM)) lf u.p7.At (aD (x:=(⟨2,0,0,bW⟩:aM)) lf u.p6.At (aD (x:=(⟨1,0,0,bW⟩:aM)) lf u.p8.At ⟨?_,?_,trivial⟩))) λh=>absurd rfl h)) λh=>absurd rfl h)) λh=>absurd rfl h)) λh=>absurd rfl h)))
 .refine dT Wj u (C30 (λw'=>cZ (λ_=>True) w' E ([(⟨1,1,0,bW⟩:aM),(⟨1,0,0,bW⟩:aM),(⟨2,0,0,bW⟩:aM),(⟨1,0,0,bW⟩:aM)]:List aM)) E ([(⟨1,1,0,bW⟩:aM),(⟨1,0,0,bW⟩:aM),(⟨2,0,0,bW⟩:aM),(⟨1,0,0,bW⟩:aM)]:List aM) 1 _ (λ_ e=>((u.ext e).p4).dS) (λ_ h=>h) dC) (λv1 _ B u=>?_);refine⟨eP lf u.p8.At,?_⟩;refine⟨eP lf u.p7.At,?_⟩;refine⟨eP lf u.p9.At,?_⟩;refine bD ([(⟨1,1,0,bW⟩:aM),(⟨2,0,0,bW⟩:aM),(⟨1,0,0,bW⟩:aM)]:List aM) u gH rfl rfl (dR rfl) (λq3 _ u=>?_);have Cd:cZ (λ_=>True) _ v1 ([(⟨1,1,0,bW⟩:aM),(⟨2,0,0,bW⟩:aM),(⟨1,0,0,bW⟩:aM)]:List aM):=u.p1.eA u.p6.dS
  refine aV Pj u (C19 v1 q3 ([(⟨1,1,0,[]⟩:aS),(⟨2,0,0,[]⟩:aS),(⟨1,0,0,[]⟩:aS)]:List aS) ([(⟨1,1,0,[]⟩:aS),(⟨2,0,0,[]⟩:aS),(⟨1,0,0,[]⟩:aS)]:List aS) _ (DL.of Cd (fU (rI _ 1 1 0) (fU (rI _ 2 0 0) (fU (rI _ 1 0 0) fR.nil)))) (DL.of u.dS (fU (rI _ 1 1 0) (fU (rI _ 2 0 0) (fU (rI _ 1 0 0) fR.nil)))) dC dC) (λ_ Y u=>j5 dC (have u:=u.drop;dT Wj u (C30 (λw'=>cZ (λ_=>True) w' E ([(⟨1,1,0,bW⟩:aM),(⟨1,0,0,bW⟩:aM),(⟨2,0,0,bW⟩:aM),(⟨1,0,0,bW⟩:aM)]:List aM)) E ([(⟨1,1,0,bW⟩:aM),(⟨1,0,0,bW⟩:aM),(⟨2,0,0,bW⟩:aM),(⟨1,0,0,bW⟩:aM)]:List aM) 4 _ (λ_ e=>((u.ext e).p5).dS) (λ_ h=>h) dC) λv4 _ B u=>?_))
  have Wg:cZ (λ_=>True) _ v4 ([(⟨1,1,0,bW⟩:aM),(⟨1,0,0,bW⟩:aM),(⟨2,0,0,bW⟩:aM),(⟨1,0,0,bW⟩:aM)]:List aM):=u.eA u.p6.dS;exact aV Pj u (C19 v4 E ([(⟨1,1,0,[]⟩:aS),(⟨1,0,0,[]⟩:aS),(⟨2,0,0,[]⟩:aS),(⟨1,0,0,[]⟩:aS)]:List aS) ([(⟨1,1,0,[]⟩:aS),(⟨1,0,0,[]⟩:aS),(⟨2,0,0,[]⟩:aS),(⟨1,0,0,[]⟩:aS)]:List aS) _ (DL.of Wg (fU (rI _ 1 1 0) (fU (rI _ 1 0 0) (fU (rI _ 2 0 0) (fU (rI _ 1 0 0) fR.nil))))) (DL.of u.p6.dS (fU (rI _ 1 1 0) (fU (rI _ 1 0 0) (fU (rI _ 2 0 0) (fU (rI _ 1 0 0) fR.nil))))) dC dC) (λ_ _ u=>j5 dC (aD (x:=G) hG u.p4.At (pop (IV 3 1) (aV acf u (C32 (⟨3,1,0,[0]⟩:aS) G (⟨3,1,0,[]⟩:aS) (⟨3,1,0,bW⟩:aM) _ u.p5.eA.2 (rI _ 3 1 0)) λ_ _ u=>j5 dC (aD (x:=G) hG u.p4.At (aD (x:=I) hG u.p2.At (aV acf u (C32 (⟨3,1,0,[0]⟩:aS) G (⟨0,0,0,[1]⟩:aS) I _ u.p5.eA.2 u.p3.eA.2) λ_ _ u=>bQ ⟨rfl,u.aF⟩)))))))
 refine bD ([(⟨1,1,0,bW⟩:aM),(⟨2,0,0,bW⟩:aM),(⟨1,0,0,bW⟩:aM)]:List aM) u gH rfl rfl (dR rfl) (λq3 _ u=>dT Wj u (C30 (λw'=>cZ (λ_=>True) w' E ([(⟨1,1,0,bW⟩:aM),(⟨1,0,0,bW⟩:aM),(⟨2,0,0,bW⟩:aM),(⟨1,0,0,bW⟩:aM)]:List aM)) E ([(⟨1,1,0,bW⟩:aM),(⟨1,0,0,bW⟩:aM),(⟨2,0,0,bW⟩:aM),(⟨1,0,0,bW⟩:aM)]:List aM) 1 _ (λ_ e=>((u.ext e).p5).dS) (λ_ h=>h) dC) λv1 _ B u=>?_);refine⟨eP lf u.p9.At,?_⟩;refine⟨eP lf u.p8.At,?_⟩;refine⟨eP lf u.p10.At,?_⟩;have Cd:cZ (λ_=>True) _ v1 ([(⟨1,1,0,bW⟩:aM),(⟨2,0,0,bW⟩:aM),(⟨1,0,0,bW⟩:aM)]:List aM):=u.eA u.p6.dS
 refine aV Pj u (C19 v1 q3 ([(⟨1,1,0,[]⟩:aS),(⟨2,0,0,[]⟩:aS),(⟨1,0,0,[]⟩:aS)]:List aS) ([(⟨1,1,0,[]⟩:aS),(⟨2,0,0,[]⟩:aS),(⟨1,0,0,[]⟩:aS)]:List aS) _ (DL.of Cd (fU (rI _ 1 1 0) (fU (rI _ 2 0 0) (fU (rI _ 1 0 0) fR.nil)))) (DL.of u.p1.dS (fU (rI _ 1 1 0) (fU (rI _ 2 0 0) (fU (rI _ 1 0 0) fR.nil)))) dC dC) (λ_ Y u=>j5 dC (have u:=u.p1.drop;dT Wj u (C30 (λw'=>cZ (λ_=>True) w' E ([(⟨1,1,0,bW⟩:aM),(⟨1,0,0,bW⟩:aM),(⟨2,0,0,bW⟩:aM),(⟨1,0,0,bW⟩:aM)]:List aM)) E ([(⟨1,1,0,bW⟩:aM),(⟨1,0,0,bW⟩:aM),(⟨2,0,0,bW⟩:aM),(⟨1,0,0,bW⟩:aM)]:List aM) 4 _ (λ_ e=>((u.ext e).p5).dS) (λ_ h=>h) dC) λv4 _ B u=>?_))
 have Wg:cZ (λ_=>True) _ v4 ([(⟨1,1,0,bW⟩:aM),(⟨1,0,0,bW⟩:aM),(⟨2,0,0,bW⟩:aM),(⟨1,0,0,bW⟩:aM)]:List aM):=u.eA u.p6.dS;exact aV Pj u (C19 v4 E ([(⟨1,1,0,[]⟩:aS),(⟨1,0,0,[]⟩:aS),(⟨2,0,0,[]⟩:aS),(⟨1,0,0,[]⟩:aS)]:List aS) ([(⟨1,1,0,[]⟩:aS),(⟨1,0,0,[]⟩:aS),(⟨2,0,0,[]⟩:aS),(⟨1,0,0,[]⟩:aS)]:List aS) _ (DL.of Wg (fU (rI _ 1 1 0) (fU (rI _ 1 0 0) (fU (rI _ 2 0 0) (fU (rI _ 1 0 0) fR.nil))))) (DL.of u.p6.dS (fU (rI _ 1 1 0) (fU (rI _ 1 0 0) (fU (rI _ 2 0 0) (fU (rI _ 1 0 0) fR.nil))))) dC dC) (λ_ _ u=>j5 dC (aD (x:=G) hG u.p4.At (pop (IV 3 1) (aV acf u (C32 (⟨3,1,0,[0]⟩:aS) G (⟨3,1,0,[]⟩:aS) (⟨3,1,0,bW⟩:aM) _ u.p5.eA.2 (rI _ 3 1 0)) λ_ _ u=>j5 dC (aD (x:=G) hG u.p4.At (aD (x:=I) hG u.p2.At (aV acf u (C32 (⟨3,1,0,[0]⟩:aS) G (⟨0,0,0,[1]⟩:aS) I _ u.p5.eA.2 u.p3.eA.2) λ_ _ u=>bQ ⟨rfl,u.aF⟩)))))))
variable (w:World) (K:Value->g7)
def P9:dJ:=λi=>match i with
 | 6=>(.of [(0,[]),(1,[]),(2,[]),(3,[]),(4,[]),(5,[]),(6,[]),(7,[]),(8,[]),(9,[]),(10,[]),(11,[]),(12,[]),(13,[]),(14,[]),(15,[]),(16,[]),(17,[]),(18,[]),(19,[]),(20,[]),(21,[]),(22,[]),(23,[]),(25,[]),(26,[]),(27,[]),(28,[]),(29,[]),(24,[25,28]),(30,[]),(31,[]),(32,[]),(33,[]),(34,[]),(35,[]),(36,[])])
 | _=>.nil
end Go.Proofs.YtpdlpabnlkofmaaGreatDoor
namespace Go.Proofs.YtpdlpabnlkofmaaGreatDoor
open Go.Fw
theorem acj{p:cA}{c:Int}(hc:GN p):∀(l:List aS) (m:gl) (o:List cG) (a:Nat),rn p a m->rn p (a+l.length) (vL c m o l).1
 | [],m,o,a,h=>h
 | q::r,m,o,a,h=>by
  rw[ob]
  unfold vL
  split
  .exact h.mono bM
  .split
   .exact(h.step hc).mono bM
   .exact(acj hc r _ _ _ (h.step hc)).mono bM
def ack{p:cA}{room c:Int}(h:fk p room c=0):fe p=0/\(1<=room/\room<=16)/\0<=c/\c<=8:=by
 unfold fk at h
 omega
def amC{p:cA}{room c:Int}(u:PZ p)(h:fk p room c=0)(l:List aS):rn p l.length (vL c (gY p room) [] l).1:=by
 obtain⟨h1,h2,_⟩:=ack h
 have:=acj (c:=c) (rH h1) l _ [] 0 (rn.new u (rH h1) h2)
 grind
def acm{p:cA}{room c:Int}(B:PZ p)(l:List aS):(BU p room c l).1.cut.length<=1073741824:=by
 unfold BU
 split
 .exact la _
 rename_i h
 split
 .exact la _
 have u:=(amC B (vy.1 h) l).go.ok
 show(List.take _ _).length<=_
 rw[lY]
 have:=u.mem.ll;have:=u.mem.fl
 omega
variable (w:World) (K:Value->g7)
def P4:dJ:=λi=>match i with
 | 6=>(.of [(0,[]),(1,[]),(2,[]),(3,[]),(4,[]),(5,[]),(6,[]),(7,[]),(8,[]),(9,[]),(10,[]),(11,[]),(12,[]),(13,[]),(14,[]),(15,[]),(16,[]),(18,[]),(19,[]),(20,[]),(17,[20]),(21,[]),(22,[]),(23,[]),(24,[]),(25,[]),(26,[]),(27,[]),(28,[]),(30,[]),(31,[]),(32,[]),(33,[]),(29,[30,32]),(34,[]),(35,[]),(36,[]),(37,[]),(38,[]),(39,[]),(40,[])])
 | _=>.nil
end Go.Proofs.YtpdlpabnlkofmaaGreatDoor
namespace Go.Proofs.YtpdlpabnlkofmaaGreatDoor
open Go.Fw
theorem Dn{p:cA}{room c:Int}{l:List aS}:eG p room c (eG p room c l).1=eG p room c l:=by
 by_cases h:fk p room c=0
 .rw[yG h,yG h]
  show((gi c (gY p room) (gi c (gY p room) l).2).2,GD (gi c (gY p room) (gi c (gY p room) l).2).1,(0:Int))=_
  rw[tT]
 rw[vM h,vM h]
def Wo{p:cA}{room c:Int}(u:PZ p)(l:List aS):(eG p room c l).2.1.cut.length<=1073741824:=by
 by_cases h:fk p room c=0
 .rw[yG h]
  show(GD _).cut.length<=_
  rw[<- (OO h l).1]
  exact acm u _
 rw[vM h];exact la _
section
variable {D:List aS->List aS×aS}(hD:∀s,(D s).1.length<=s.length) {Q:List aS->aS->Prop}
include hD in
theorem CY(h:∀s e k,k<s.length->jt (D (s.eraseIdx k)).2 e=true->Q s e->Q (D (s.eraseIdx k)).1 (D (s.eraseIdx k)).2):∀(n:Nat) (s:List aS) (e:aS) (k:Nat) (ch:Bool),s.length<n+k->Q s e->Q (ke D s e k ch).1 (ke D s e k ch).2.1
 | 0,s,e,k,ch,B,u=>by rw[mZ bM];exact u
 | n+1,s,e,k,ch,B,u=>by
  by_cases h1:k<s.length
  .have h3:=hD (s.eraseIdx k)
   have h4:=pZ h1
   by_cases h2:jt (D (s.eraseIdx k)).2 e=true
   .rw[yH hD h1 h2]
    exact CY h n _ _ k true bM (h s e k h1 h2 u)
   .rw[xZ hD h1 h2]
    exact CY h n s e (k+1) ch bM u
  .rw[mZ h1];exact u
include hD in
theorem Ak:∀(n:Nat) (s:List aS) (e:aS) (k:Nat) (ch:Bool),s.length<n+k->(ke D s e k ch).2.2=false->ke D s e k ch=(s,e,false)/\ch=false/\∀j,k<=j->j<s.length->jt (D (s.eraseIdx j)).2 e=false
 | 0,s,e,k,ch,M,h=>by
  rw[mZ bM]at h |-
  exact⟨by rw[show ch=false from h],h,λj h1 h2=>bM⟩
 | n+1,s,e,k,ch,M,h=>by
  by_cases h1:k<s.length
  .have h3:=hD (s.eraseIdx k)
   have h4:=pZ h1
   by_cases h2:jt (D (s.eraseIdx k)).2 e=true
   .rw[yH hD h1 h2]at h
    have:=(Ak n _ _ k true bM h).2.1
    cases this
   .rw[xZ hD h1 h2]at h |-
    obtain⟨J,B,I⟩:=Ak n s e (k+1) ch bM h
    refine⟨J,B,λj G E=>?_⟩
    by_cases u:j=k
    .rw[u];simpa using h2
    .exact I j bM E
  .rw[mZ h1]at h |-
   exact⟨by rw[show ch=false from h],h,λj h1 h2=>bM⟩
include hD in
theorem GG(h:∀s e k,k<s.length->jt (D (s.eraseIdx k)).2 e=true->Q s e->Q (D (s.eraseIdx k)).1 (D (s.eraseIdx k)).2):∀(n:Nat) (s:List aS) (e:aS),s.length<n->Q s e->
  Q (nu D s e).1 (nu D s e).2/\∀j,j<(nu D s e).1.length->jt (D ((nu D s e).1.eraseIdx j)).2 (nu D s e).2=false
 | 0,s,e,B,_=>absurd B (MO _)
 | n+1,s,e,B,u=>by
  have G:=CY hD h (s.length+1) s e 0 false bM u
  have M:=rQ hD (s.length+1) s e 0 false bM
  cases hc:(ke D s e 0 false).2.2 with
  | true=>
   rw[IU hD hc]
   exact GG h n _ _ (by have:=M.2 rfl hc;omega) G
  | false=>
   obtain⟨J,_,I⟩:=Ak hD (s.length+1) s e 0 false bM hc
   rw[Aj hc,J]
   exact⟨u,λj E=>I j (la _) E⟩
end
structure LsQ(p:cA)(room c:Int)(l:List aS)(s:List aS)(e:aS):Prop where
 d:eG p room c s=(s,e,0)
 sub:∀q∈s,q∈l
 len:s.length<=l.length
 al:jt e (eG p room c l).2.1=true
def LsQ.step{p:cA}{room c:Int}{l s:List aS}{e:aS}(B:fk p room c=0){k:Nat}(G:k<s.length)(E:jt (gg p room c (s.eraseIdx k)).2 e=true)(h:LsQ p room c l s e):LsQ p room c l (gg p room c (s.eraseIdx k)).1 (gg p room c (s.eraseIdx k)).2:=by
 refine⟨?_,λq u=>h.sub q (KR ((vd (l:=s.eraseIdx k)).subset u)),?_,?_⟩
 .show eG p room c (eG p room c (s.eraseIdx k)).1=((eG p room c (s.eraseIdx k)).1,(eG p room c (s.eraseIdx k)).2.1,0)
  rw[Dn,yG B]
 .have h1:=mO p room c (s.eraseIdx k)
  have h2:=pZ G
  have h3:=h.len
  omega
 have h1:=ga E
 have h2:=ga h.al
 exact ew ⟨h1.1.trans h2.1,h1.2.trans h2.2⟩
def RT{p:cA}{room c:Int}{l:List aS}(h:(eG p room c l).2.2=0):fk p room c=0:=by
 by_cases u:fk p room c=0
 .exact u
 rw[vM u]at h;exact absurd h u
theorem Al{p:cA}{room c:Int}{l:List aS}(h:(eu p room c l).2.2=0):fk p room c=0/\(eG p room c l).2.2=0/\(eG p room c l).1.length=l.length/\yQ (eG p room c l).2.1=true/\
  LsQ p room c l (eu p room c l).1 (eu p room c l).2.1/\∀j,j<(eu p room c l).1.length->jt (gg p room c ((eu p room c l).1.eraseIdx j)).2 (eu p room c l).2.1=false:=by
 by_cases h1:(eG p room c l).2.2=0
 .by_cases h2:(eG p room c l).1.length≠l.length\/yQ (eG p room c l).2.1=false
  .rw[BX h1 h2]at h;exact absurd h (by decide:¬ (13:Int)=0)
  have B:=RT h1
  have u:LsQ p room c l (eG p room c l).1 (eG p room c l).2.1:=⟨by rw[Dn,yG B],λq u=>vd.subset u,CX,ew ⟨rfl,rfl⟩⟩
  have hi:=GG (mO p room c) (Q:=LsQ p room c l) (λs e k G E u=>u.step B G E) _ _ _ (L2 _) u
  rw[ya h1 h2]
  refine⟨B,h1,bM,?_,hi.1,hi.2⟩
  cases hb:yQ (eG p room c l).2.1 with
  | true=>rfl
  | false=>exact absurd (.inr hb) h2
 rw[BW h1]at h;exact absurd h h1
theorem OR{p:cA}{room c:Int}{l:List aS}(h:(eu p room c l).2.2≠0):(eu p room c l).1=[]:=by
 by_cases h1:(eG p room c l).2.2=0
 .by_cases h2:(eG p room c l).1.length≠l.length\/yQ (eG p room c l).2.1=false
  .rw[BX h1 h2]
  rw[ya h1 h2]at h;exact absurd rfl h
 rw[BW h1]
def Wp{p:cA}{room c:Int}{l:List aS}:(∀q∈(eu p room c l).1,q∈l)/\(eu p room c l).1.length<=l.length:=by
 by_cases h:(eu p room c l).2.2=0
 .obtain⟨_,_,_,_,u,_⟩:=Al h
  exact⟨u.sub,u.len⟩
 rw[OR h];exact⟨λq u=>(by cases u),la _⟩
def RU{p:cA}{room c:Int}(B:PZ p)(l:List aS):(eu p room c l).2.1.cut.length<=1073741824:=by
 by_cases h:(eu p room c l).2.2=0
 .obtain⟨_,_,_,_,u,_⟩:=Al h
  have:=Wo (room:=room) (c:=c) B (eu p room c l).1
  rw[u.d]at this
  exact this
 by_cases h1:(eG p room c l).2.2=0
 .by_cases h2:(eG p room c l).1.length≠l.length\/yQ (eG p room c l).2.1=false
  .rw[BX h1 h2];exact la _
  rw[ya h1 h2]at h;exact absurd rfl h
 rw[BW h1];exact la _
theorem OS{p:cA}{room c:Int}{l:List aS}(h:(eu p room c l).2.2=0):eu p room c (eu p room c l).1=eu p room c l:=by
 obtain⟨O,_,_,hb,E,I⟩:=Al h
 have u:yQ (eu p room c l).2.1=true:=(Wm E.al).trans hb
 have hd:=E.d
 have G:ke (gg p room c) (eu p room c l).1 (eu p room c l).2.1 0 false=((eu p room c l).1,(eu p room c l).2.1,false):=by
  have B:∀(n k:Nat),(eu p room c l).1.length<n+k->ke (gg p room c) (eu p room c l).1 (eu p room c l).2.1 k false=((eu p room c l).1,(eu p room c l).2.1,false):=by
   intro n
   induction n with
   | zero=>intro k M;exact mZ bM
   | succ n J=>
    intro k M
    by_cases h1:k<(eu p room c l).1.length
    .rw[xZ (mO p room c) h1 (by rw[I k h1];decide)]
     exact J (k+1) bM
    .exact mZ h1
  exact B _ 0 (L2 _)
 have e:eu p room c (eu p room c l).1=((eu p room c l).1,(eu p room c l).2.1,0):=by
  rw[ya (by rw[hd]) (by rw[hd,u];simp),hd]
  show((nu (gg p room c) (eu p room c l).1 (eu p room c l).2.1).1,(nu (gg p room c) (eu p room c l).1 (eu p room c l).2.1).2,(0:Int))=_
  rw[Aj (by rw[G]),G]
 rw[e,<- h]
variable (w:World) (K:Value->g7)
def S37(p0 kY U BY:Value):Prop:=
 qW g6 (yB 27 p0) w λp4 a=>bS 39 0 [] a λb c=>lA 27 p4 c λd=>cF 13 [d,kY] c λe f=>xT e 0 λg=>xT e 1 λh=>eS (λK1=>bB .neq 31 h (i 0) λj=>
 cV j (K1 tt f) (bB .eql 34 g (.pointer none) λk=>K1 k f)) (λl n=>∀_:Env,
 cV l (K b n) (eS (λK2=>oN (λW J B o=>∀_:Env,
 eS (λK4=>lN 28 U λp=>bA .lss 3 B p λq=>cV q (bB .lss 3 B (i 60) λr=>K4 r o) (K4 ff o)) (λs t=>∀_:Env,
 cV s (cF 22 [g] t λu v=>bS 39 0 [] v λx y=>eS (λZ=>eS (λO=>nC g λz=>fA 44 z 2 λaa=>lA 3 aa y λab=>bA .lss 3 ab BY λac=>cV ac (iA 28 U B λad=>
 fA 53 ad 0 λae=>lA 3 ae y λaf=>bB .eql 3 af (i 1) λag=>cV ag (nC g λah=>fA 44 ah 3 λai=>lA 40 ai y λaj=>cF 17 [aj] y λak al=>cF 16 [ak] al λam an=>
 bB .leq 3 am (i 100) λao=>O ao an) (O ff y)) (O ff y)) (λap aq=>∀_:Env,
 cV ap (cF 18 [g] aq λar V=>Z ar V) (Z x aq))) (λG I=>∀_:Env,
 iA 28 U B λav=>fA 53 av 1 λaw=>lA 3 aw I λax=>bB .and 3 ax (i 65535) λay=>eS (λK7=>lN 39 G λaz=>bB .gtr 3 az (i 0) λa0=>cV a0 (K7 G I) (
 K7 u I)) (λE Y=>∀_:Env,
 lN 39 E λa2=>bB .eql 3 a2 (i 0) λa3=>cV a3 (K2 J Y) (lN 39 E λa4=>bA .rem 3 ay a4 λa5=>iA 39 E a5 λa6=>lA 50 a6 Y λa7=>bS 39 1 [(0,a7)] Y λa8 a9=>
 aP 39 J a8 a9 λba bb=>lN 39 E λbc=>bA .rem 3 ay bc λbd=>iA 39 E bd λbe=>lA 50 be bb λbf=>cF 25 [g,bf] bb λ_ bg=>bB .add 3 B (i 1) λbh=>W ba bh bg)))) (
 K2 J t))) λW=>W b (i 0) n) (λM bi=>∀_:Env,
 K M bi)))
theorem amE(p0 B E u:Value)(h:S37 w K p0 B E u):CR 37 [p0,B,E,u] w K:=
 qm 101 (λ_=>.nil) 256 [.tmp 8] Tryz.func37 h
theorem aAS:PL 37:=dL Tryz.func37
end Go.Proofs.YtpdlpabnlkofmaaGreatDoor
namespace Go.Proofs.YtpdlpabnlkofmaaGreatDoor
open Go.Fw
theorem BZ{α β:Type}{n:Nat}:∀{l:List α}{f:α->List β},(∀x∈l,(f x).length=n)->(l.flatMap f).length=l.length*n
 | [],_,_=>(Nat.zero_mul n).symm
 | x::l,f,h=>by
  rw[List.flatMap_cons,kU,BZ λy u=>h y (List.mem_cons_of_mem _ u),h x (List.mem_cons_self ..),ob,Nat.succ_mul,Nat.add_comm]
theorem KN(p:Nat)(ps:List Nat):(er (p::ps)).length=(p+1)*(er ps).length:=by
 rw[er,BZ (n:=(er ps).length) λx _=>by rw[mE],List.length_range]
theorem IW:∀(ps:List Nat) (n:Int),1<=n->zu (ps.map fun (k:Nat)=>(k:Int)) n<=100->n*((er ps).length:Int)<=100
 | [],n,h,h2=>by
  have e:(er []).length=1:=rfl
  rw[e]
  have:n<=100:=h2
  omega
 | p::ps,n,h,h2=>by
  rw[List.map_cons,zu]at h2
  split at h2
  .have h3:1<=n*((p:Int)+1):=by
    have:=Int.mul_le_mul_of_nonneg_left (show(1:Int)<=(p:Int)+1 by omega) (show(0:Int)<=n by omega)
    omega
   have u:=IW ps _ h3 h2
   rw[KN,Int.natCast_mul,<- Int.mul_assoc]
   exact u
  .omega
def GH{m:Mem}(h:OK (tS m)<=100):(er (wB m)).length<=100:=by
 have:=IW (wB m) 1 (MV 1) h
 omega
def acn(c:Int)(m:gl)(a:vp):Bool:=decide (m.dI<c/\a.kind=1/\OK (tS m.mem)<=100)
def ur(c:Int)(m:gl)(a:vp):List aS:=if acn c m a=true then mJ m else []
def mc(c:Int)(m:gl)(a:vp):List aS:=if 0<((ur c m a).length:Int)then ur c m a else gj m
def atP(l:List aS)(a:vp):aS:=l.getD (qn a.n 65535 % (l.length:Int)).toNat asR
def tU(c:Int):gl->List vp->List aS
 | _,[]=>[]
 | m,a::r=>if ((mc c m a).length:Int)=0 then []else atP (mc c m a) a::tU c (pk m (atP (mc c m a) a)).1 r
def wg(p:cA)(room c:Int)(l:List vp):List aS:=if fe p≠0\/room<1\/16<room then []else tU c (gY p room) (l.take 60)
def KO{m:gl}(u:nL m){x:aS}(h:x∈mJ m):x.cut.length<=20:=by
 unfold mJ at h
 split at h
 .cases h
 obtain⟨c,hc,rfl⟩:=n5.1 h
 exact(Ry u.mem hc).2
def KP{m:gl}(u:nL m)(h:OK (tS m.mem)<=100):(mJ m).length<=100:=by
 unfold mJ
 split
 .exact la _
 rw[mE]
 exact te (Kc _ _) (GH h)
def Wq{c:Int}{m:gl}{a:vp}(u:nL m):(mc c m a).length<=1001000:=by
 unfold mc
 split
 .unfold ur
  split
  .rename_i h
   have:=KP u (ga h).2.2
   omega
  exact la _
 exact z8 u
def IX{c:Int}{m:gl}{a:vp}(u:nL m){x:aS}(h:x∈mc c m a):x.cut.length<=20:=by
 unfold mc at h
 split at h
 .unfold ur at h
  split at h
  .exact KO u h
  cases h
 have:x.cut=[]:=by
  unfold gj at h
  split at h
  .cases h
  .obtain⟨i,t,_,_,h3⟩:=BK h
   exact(Gp h3).2.1
 rw[this];exact la _
def C37(K:g7)(p:cA)(pv:bN)(room c:Int)(lv:Value)(l:List vp)(w:World)(hw:∀w',Ext w w'->K w')(hp:He K pv p)(hz:PZ p)(hL:DL w lv l):CR 37 [hM pv,hH room,lv,hH c] w (λv w'=>kP (eA λw=>DL w v (wg p room c l)) w w'):=by
 obtain⟨Z,hR,hD⟩:=hL.open;have hn:Z.length=l.length:=hD.1;have u:=St.start w;refine amE _ _ _ _ _ _ ?_;unfold S37;refine cH (x:=pv) u (λb4 w1 u=>bD ([]:List aM) u gH rfl rfl (dR rfl) λx16 w2 u=>aD eL u.p1.At (dO azU (C13 K p pv room _ (λ_ e=>hw _ (u.aF.then e)) hp hz) ?_));rintro v20 w3 (⟨h1,rfl,he⟩|⟨h0,h1,rfl,he⟩|⟨h0,hr,b,rfl,cK⟩)
 .have u:=u.ext he;refine aO rfl (aO rfl ?_);refine⟨λI w'=>I=.bool true/\w'=w3,?_,?_⟩
  .refine bV ?_;refine aC (λ_=>⟨rfl,rfl⟩) (λh=>absurd h1 h)
  rintro _ w4 ⟨rfl,rfl⟩ ry;refine gU ?_;have e:wg p room c l=[]:=by unfold wg;rw[ej bM]
  rw[e];exact(u.freeze.dF (Ψ:=λw=>DL w x16 []) λ_ h=>DL.of h fR.nil).p1.drop.fresh
 .have u:=u.ext he;refine aO rfl (aO rfl ?_);refine⟨λI w'=>I=.bool true/\w'=w3,?_,?_⟩
  .refine bV ?_;refine aC (λ_=>⟨rfl,rfl⟩) (λh=>absurd (by decide:(1:Int)≠0) h)
  rintro _ w4 ⟨rfl,rfl⟩ ry;refine gU ?_;have e:wg p room c l=[]:=by unfold wg;rw[ej bM]
  rw[e];exact(u.freeze.dF (Ψ:=λw=>DL w x16 []) λ_ h=>DL.of h fR.nil).p1.drop.fresh
 have Ah:=rH h0;have u:=u.made cK;refine aO rfl (aO rfl ?_);refine⟨λI w'=>I=.bool false/\w'=w3,?_,?_⟩
 .exact bV (aC (λh=>absurd rfl h) λ_=>Xu aoL ⟨rfl,rfl⟩)
 rintro _ w4 ⟨rfl,rfl⟩ ry;refine ft ?_;have hpp:wg p room c l=tU c (gY p room) (l.take 60):=by unfold wg;rw[ei bM]
 rw[hpp];refine⟨λo w'=>kP (eA λw=>DL w o (tU c (gY p room) (l.take 60))) w w',?_,?_⟩;rotate_left
 .rintro o w5 h ry;exact h
 have u:=u.p1;obtain⟨F0,u,_⟩:=(u.fH (Φ:=λ_=>True) λ_=>trivial).Bz;have u:=u.p1
 have Y:∀(o:Value) (ts:List aM) (out:List aS) (F:Nat->Prop) (G w':World) (m:gl),(∀w,mf F G w->fR ts out w)->out=tU c (gY p room) (l.take 60)->St w aZ [bH o ts,eA (mf F G),qM K b m,bY b4 (hZ pv)] w'->kP (eA λw=>DL w o (tU c (gY p room) (l.take 60))) w w':=λo ts out F G w' m hd e u=>by
  rw[<- e];have u:=u.freeze.gd.dF (Ψ:=λw=>DL w o out) (λw h=>DL.of h.1 (hd w h.2));exact u.p1.drop.p1.drop.fresh
 refine⟨λmm o y w'=>∃(k:Nat) (m:gl) (ts:List aM) (out:List aS) (F:Nat->Prop) (G:World),y=hH (k:Int)/\mm=60-k/\k<=60/\k<=l.length/\(rn p k m/\ts.length=k/\(∀w,mf F G w->fR ts out w)/\tU c (gY p room) (l.take 60)=out++tU c m ((l.take 60).drop k))/\St w aZ [bH o ts,eA (mf F G),qM K b m,bY b4 (hZ pv)] w',
  ⟨_,0,gY p room,[],[],F0,_,rfl,rfl,la _,la _,⟨rn.new hz Ah hr,rfl,λ_ _=>fR.nil,rfl⟩,u⟩,?_⟩
 rintro mm o _ w5 ⟨k,m,ts,out,F,G,rfl,rfl,hk,xo,⟨J,Er,hd,B⟩,u⟩ _;refine⟨λI w'=>I=.bool (decide (k<l.length/\k<60))/\w'=w5,?_,?_⟩
 .exact aH Xx (hR.ext u.aF) (aQ (aC (λ_=>aQ ⟨vb (e8.2 bM),rfl⟩) λ_=>⟨vb (ez bM).symm,rfl⟩))
 rintro _ _ ⟨rfl,rfl⟩ _;refine aC (λc1=>?_) (λc1=>?_);rotate_left
 .rw[Md (by rw[lY];omega)]at B;exact Y o ts out F G _ m hd (by rw[B];exact(oo _).symm) u
 obtain⟨a,ha⟩:=gx l (i:=k) bM;obtain⟨av,V⟩:=gx Z (i:=((k:Nat):Int).toNat) bM;obtain⟨gp,rfl,_⟩:=hD.2 k av a V ha;have hg:=J.go;have U:=hg.ok;have KJ:=J.fi.trans (by rw[hg.pr]:fm p=fm m.p);have og:=hg.mb.mono (b:=1000000) bM;have Dx:=hg.cr;rw[Uj (show(l.take 60)[k]?=some a by rw[List.getElem?_take,ej c1.2];exact ha)]at B;refine dT as4 u (C22 K b m _ u.p2.has (λ_ e=>hw _ (u.aF.then e)) U) (λx41 _ cK u=>oB (α:=aS) u gH λx42 _ u=>?_);refine⟨λcv w'=>St w aZ [fz cv (ur c m a),fz x41 (gj m),bH o ts,eA (mf F G),qM K b m,bY b4 (hZ pv)] w',?_,?_⟩
 .refine⟨λI w'=>I=.bool (acn c m a)/\St w aZ [fz x42 ([]:List aS),fz x41 (gj m),bH o ts,eA (mf F G),qM K b m,bY b4 (hZ pv)] w',?_,?_⟩
  .obtain⟨ra,WJ⟩:=qM.rd u.p4.has;refine aE (aA Jm (bX bO (WJ.b.cell (o:=7) rfl) (aQ (aC (λE=>?_) λE=>⟨vb (ez λh=>E h.1).symm,u⟩))));refine aN Xx (hR.ext u.aF) bM V (λq1 h1=>bU a.kind adj h1 rfl rfl λq2 h2=>aD (x:=a.kind) bO h2 (aG (aC (λc3=>?_) λc3=>⟨vb (ez λh=>c3 h.2.1).symm,u⟩)));refine aE (aA tu (bX LJ (WJ.b.cell (o:=8) rfl) (dT aiz u (C17 ra.q m.mem _ WJ.mem U.mem og) λx62 w9 cK u=>aV avC u (C16 x62 (tS m.mem) _ u.dS (by rw[IN];have:=U.mem.lb;omega) λn hn=>?_) λw10 he u=>?_)))
   .obtain⟨j,hj⟩:=List.mem_iff_getElem?.1 hn;have:=og j;rw[OC hj];omega
   exact gA ⟨vb (e8.2 ⟨λh=>⟨E,c3,h⟩,λh=>h.2.2⟩),u.drop⟩
  rintro _ w9 ⟨rfl,u⟩ dd4;refine aY (λE=>?_) (λE=>?_);rotate_left
  .have e:(ur c m a)=[]:=by unfold ur;rw[E];rfl
   rw[e];exact u
  have e:(ur c m a)=mJ m:=by unfold ur;rw[ej E]
  rw[e];exact dT azW u (C18 K b m _ u.p4.has (λ_ e=>hw _ (u.aF.then e)) U og (by have:=GH (ga E).2.2;omega)) (λ_ _ _ u=>u.p1.drop)
 rintro x14 _ u dd4;obtain⟨cs,u⟩:=u.AY;have Fu:=u.UG;refine aN Xx (hR.ext u.aF) bM V (λq1 h1=>bU a.n adk h1 rfl rfl λq2 h2=>aD (x:=a.n) bO h2 (Sn dC dC ?_));have hn6:=zC a.n (b:=65535) dC dC;refine⟨λlw w'=>∃tl:List aM,St w aZ [bH lw tl,eA (fR tl (mc c m a)),bH o ts,eA (mf F G),qM K b m,bY b4 (hZ pv)] w',?_,?_⟩
 .refine aH gH u.dS (cP (aC (λE=>?_) λE=>?_))
  .have e:(mc c m a)=(ur c m a):=by unfold mc;rw[ej bM]
   rw[e];exact⟨cs,u.p2.drop⟩
  have e:(mc c m a)=gj m:=by unfold mc;rw[ei bM]
  rw[e];obtain⟨ss,u⟩:=u.drop.drop.AY;exact⟨ss,u⟩
 rintro x13 M ⟨tl,u⟩ _;have zI:=u.UG;have nU:=Wq (c:=c) (a:=a) U;refine aH gH u.dS (aG (aC (λE=>?_) λE=>?_))
 .rw[tU,ej bM,oo]at B;exact Y o ts out F G _ m hd B.symm u.drop.drop
 rw[tU,ei bM]at B;obtain⟨F2,u,hX⟩:=u.p1.p3.gd.Bz;have hm1:=aaA (qn a.n 65535) (show((mc c m a).length:Int)≠0 by omega);have hm2:=X2 (qn a.n 65535) (show 0<((mc c m a).length:Int)by omega);refine aH gH u.p1.dS ?_;rw[zI];refine Sm bM bM ?_;obtain⟨j,hj⟩:∃j:Nat,(j:Int)=qn a.n 65535 % ((mc c m a).length:Int):=⟨(qn a.n 65535 % ((mc c m a).length:Int)).toNat,bM⟩;rw[<- hj];obtain⟨sh,W⟩:=gx tl (i:=((j:Nat):Int).toNat) bM;obtain⟨q,hq⟩:=gx (mc c m a) (i:=j) bM;have hqe:atP (mc c m a) a=q:=by unfold atP;rw[<- hj,qb,n0,hq];rfl
 rw[hqe]at B;have O:∀w',mf F2 M w'->mv w' sh q:=λw' h=>(hX w' h).2.2 j sh q (by rw[<- qb j];exact W) hq;obtain⟨gc,rfl,_⟩:=O _ u.eA
 have hgc:∀w',mf F2 M w'->cZ (λ_=>True) w' (hM gc) q.cut:=λw' h=>by
  obtain⟨gc2,e,h3⟩:=O w' h;cases e
  exact DL.flat h3
 refine aN gH u.p1.dS bM W (λq3 h3=>aD lf h3 (bD [(⟨q.kind,q.t,q.i,gc⟩:aM)] u gH rfl rfl (dR rfl) λx89 _ u=>?_));have aAW:=u.dS;refine bL u.p3 gH aAW (by rw[l0];omega) dC (λx90 _ u=>have u:=u.p1.drop;aH gH u.p2.dS ?_);rw[zI];refine Sm bM bM ?_;rw[<- hj];refine aN gH u.p2.dS bM W (λq4 h4=>aD lf h4 (bF azZ u.p3 (H':=λ_=>qM K b (pk m q).1) (Φ:=λ_ _=>True) (λG2 hG2 dV=>?_) ?_))
 .exact(C25 K b m q gc G2 _ hG2 (λw' hc=>hw _ (dV w' hc).aF) U J.vo (by rw[hg.pr];exact Ah) og bM KJ (λw1 hc _ e=>hw _ ((dV w1 hc).aF.then e)) (λw' hc=>hgc _ (dV w' hc).p1.eA) (by have:=IX U (kp hq);omega)).mono λ_ _ r=>r.mono λ_ _ h=>⟨trivial,h.2⟩
 rintro _ _ _ u;refine aK bM ?_;refine⟨_,bM,k+1,(pk m q).1,ts++[(⟨q.kind,q.t,q.i,gc⟩:aM)],out++[q],F2,M,rfl,rfl,bM,bM,⟨J.step Ah,by rw[kU,l0,Er],λw h=>(hd w (hX w h).1).snoc (O w h),by rw[B,nk];rfl⟩,?_⟩;exact u.p3.drop.p2.p2
def Wr{c:Int}{m:gl}{a:vp}(h:¬ ((mc c m a).length:Int)=0):atP (mc c m a) a∈mc c m a:=by
 have B:=aaA (qn a.n 65535) (show((mc c m a).length:Int)≠0 by omega)
 have u:=X2 (qn a.n 65535) (show 0<((mc c m a).length:Int)by omega)
 unfold atP
 rw[n0,List.getElem?_eq_getElem (show(qn a.n 65535 % ((mc c m a).length:Int)).toNat<_ by omega)]
 exact List.getElem_mem _
theorem IY{p:cA}{c:Int}(hc:GN p):∀(l:List vp) (m:gl) (k:Nat),rn p k m->∀q∈tU c m l,q.cut.length<=20
 | [],m,k,h,q,u=>by cases u
 | a::r,m,k,h,q,u=>by
  rw[tU]at u
  split at u
  .cases u
  .rename_i h1
   rcases List.mem_cons.1 u with rfl|u
   .exact IX h.go.ok (Wr h1)
   .exact IY hc r _ (k+1) (h.step hc) q u
theorem IZ(c:Int):∀(l:List vp) (m:gl),(tU c m l).length<=l.length
 | [],m=>o1 _
 | a::r,m=>by
  rw[tU]
  split
  .exact la _
  .rw[ob,ob]
   exact Nat.succ_le_succ (IZ c r _)
def Ws{p:cA}{room c:Int}{l:List vp}(E:PZ p):∀q∈wg p room c l,q.cut.length<=20:=by
 unfold wg
 split
 .intro q B;cases B
 rename_i h
 have u:fe p=0:=bM
 exact IY (rH u) _ _ 0 (rn.new E (rH u) bM)
def Wt{p:cA}{room c:Int}{l:List vp}:(wg p room c l).length<=60:=by
 unfold wg
 split
 .exact la _
 refine te (IZ _ _ _) ?_
 rw[lY];exact Nat.min_le_left ..
variable (w:World) (K:Value->g7)
def S7(p0 kY U:Value):Prop:=
 qW g6 (yB 27 p0) w λp3 a=>lA 27 p3 a λb=>cF 11 [b] a λc d=>sA 27 p3 c d λe=>bB .and 3 kY (i 3) λf=>bC .add 3 (i 1) f λg=>lA 27 p3 (drew e) λh=>
 lN 28 U λj=>eT g6 (Builtin.min_ #[3,3] 3 [j,(i 24)].toArray) λk=>eT g6 (nT 28 U none (some k) none) λl=>cF 37 [h,g,l,(i 2)] (drew e) λn o=>
 lA 27 p3 o λp=>cF 35 [p,g,(i 2),n] o λq r=>xT q 0 λs=>xT q 1 λt=>xT q 2 λu=>aL 63 r λv x=>sA 63 v t x λy=>bB .neq 31 u (i 0) λz=>cV z (cF 34 [] y λaa ab=>
 K aa ab) (lA 27 p3 y λW=>cF 35 [W,g,(i 2),s] y λJ Y=>xT J 0 λaf=>xT J 1 λag=>xT J 2 λah=>aL 63 Y λB ai=>sA 63 B ag ai λO=>eS (λE=>
 bB .eql 31 ah (i 0) λV=>cV V (cF 19 [s,af] O λal G=>cV al (lA 63 v G λan=>lA 63 B G λao=>cF 29 [an,ao] G λap M=>cV ap (cF 34 [] M λar I=>E ar I) (
 E ff M)) (E ff G)) (E ff O)) (λZ av=>∀_:Env,
 K Z av))
def P7:dJ:=λi=>match i with
 | 3=>.run 0 9
 | _=>.nil
theorem atS(p0 u B:Value)(h:S7 w K p0 u B):CR 7 [p0,u,B] w K:=
 qm 62 P7 64 [.tmp 6] Tryz.func7 h
end Go.Proofs.YtpdlpabnlkofmaaGreatDoor
namespace Go.Proofs.YtpdlpabnlkofmaaGreatDoor
open Go.Fw
def C7(p:cA)(pv:bN)(n:Int)(lv:Value)(l:List vp)(w:World)(hp:mv w pv p)(hL:DL w lv l):CR 7 [hM pv,hH n,lv] w (λv w'=>v=.bool true/\Ext w w'):=by
 obtain⟨ats,hR,hD⟩:=hL.open;have hn:ats.length=l.length:=hD.1;have u:=St.start w;refine atS _ _ _ _ _ ?_;unfold S7;refine cH (x:=pv) u (λb3 w1 u=>aD eL u.At (dO avB (C11 p pv _ (Mt hp u.aF)) ?_));rintro _ w3 ⟨E,rfl,W⟩;have u:=u.made W;refine aJ (x:=E) u.p1 eL rfl rfl (λw4 u=>Sn dC dC ?_);have ha:=zC n (b:=3) dC dC;refine aK bM ?_;have u:=u.drew.p1;obtain⟨wK,ewK⟩:∃wK,wK=drew w4:=⟨_,rfl⟩;rw[<- ewK]at u |-;obtain⟨FF,u,hX⟩:=u.Bz;have hp':He (mf FF wK) E (sE p):=He.of hX;have hz:=Tc p;refine aD (x:=E) eL u.p1.At (aH Xx (hR.ext u.aF) (ru (jL Xx (hR.ext u.aF) bM bM λY h26=>?_)))
 obtain⟨sc,esc⟩:∃sc,sc=l.take (min (ats.length:Int) 24).toNat:=⟨_,rfl⟩;have Xs:DL wK Y sc:=by rw[esc];exact DL.of (h26 _ (hR.ext u.aF)) ((hD.ext u.aF).take _)
 refine dT aAS u (C37 (mf FF wK) (sE p) E (1+qn n 3) 2 Y sc _ (λ_ e=>(u.ext e).eA) hp' hz Xs) (λZ w5 W u=>?_);have u:=u.p1.p1.gd;obtain⟨F2,u,O⟩:=u.Bz;obtain⟨B,M⟩:∃B,B=wg (sE p) (1+qn n 3) 2 sc:=⟨_,rfl⟩;rw[<- M]at O;have nU:B.length<=60:=by rw[M];exact Wt
 have I:∀q∈B,q.cut.length<=1000:=λq J=>te (Ws hz q (by rw[<- M];exact J)) dC;have aAZ:∀q∈B,q.cut.length<=1000000:=λq J=>te (I q J) dC;have Wx:He (mf F2 w5) E (sE p):=hp'.mono λw' h=>(O w' h).2;have ZU:GP (mf F2 w5) Z B:=GP.of λw' h=>(O w' h).1;refine aD (x:=E) eL u.p1.At (dO Wl (C35 (mf F2 w5) (sE p) E (1+qn n 3) 2 Z B _ (λ_ e=>(u.ext e).eA) Wx hz ZU bM I) ?_);rintro _ w6 ⟨VJ,V,rfl,W⟩;have u:=u.made W;refine aO rfl (aO rfl (aO rfl (aR u kJ λb10 w1 u=>aJ (x:=V) u hG rfl rfl λw2 u=>bV (aC (λ_=>?_) λh0=>?_))))
 .exact aV atL u (C34 _) (λ_ _ u=>⟨rfl,u.aF⟩)
 have h0:(eu (sE p) (1+qn n 3) 2 B).2.2=0:=vy.1 h0;have u:=u.p3.p3.p3.p3.p2.p2.gd;obtain⟨wM,ewM⟩:∃wM,wM=w2:=⟨_,rfl⟩;rw[<- ewM]at u |-;obtain⟨F3,u,G⟩:=u.Bz;have hp3:He (mf F3 wM) E (sE p):=Wx.mono λw' h=>(G w' h).2;have aA1:GP (mf F3 wM) VJ (eu (sE p) (1+qn n 3) 2 B).1:=GP.of λw' h=>(G w' h).1.1;obtain⟨rU,hlen⟩:=Wp (p:=sE p) (room:=(1+qn n 3)) (c:=2) (l:=B);refine aD (x:=E) eL u.p2.At (dO Wl (aci (eu (sE p) (1+qn n 3) 2 B) (mf F3 wM) (sE p) E (1+qn n 3) 2 VJ (eu (sE p) (1+qn n 3) 2 B).1 _ (λ_ e=>(u.ext e).eA) hp3 hz aA1 bM (λq J=>I q (rU q J)) (OS h0)) ?_)
 rintro _ _ ⟨ov2,U,rfl,W⟩;have u:=u.made W;refine aO rfl (aO rfl (aO rfl (aR u kJ λb13 w3 u=>aJ (x:=U) u hG rfl rfl λw4 u=>?_)));refine⟨λjv w'=>jv=.bool true/\Ext w w',?_,?_⟩;rotate_left
 .rintro _ _ h _;exact h
 exact aG (aC (λ_=>aV Pj u (C19 VJ ov2 (eu (sE p) (1+qn n 3) 2 B).1 (eu (sE p) (1+qn n 3) 2 B).1 _ (G _ u.p2.eA).1.1 u.p1.eA.1 bM λq J=>aAZ q (rU q J)) λ_ _ u=>aC (λ_=>aD (x:=V) hG u.p3.At (aD (x:=U) hG u.At (aV amx u (C29 (eu (sE p) (1+qn n 3) 2 B).2.1 V (eu (sE p) (1+qn n 3) 2 B).2.1 U _ (G _ u.p2.eA).1.2 u.p1.eA.2 (RU hz _)) λ_ _ u=>aC (λ_=>aV atL u (C34 _) λ_ _ u=>⟨rfl,u.aF⟩) λh=>absurd rfl h))) λh=>absurd rfl h) λh=>absurd h0 h)
def own:ownKnob Tryz.prog.godebug=none:=by kernel_rfl
def rd9:yZ g6 9 ByteArray (λy=>y.size<=maxLen):=RdT.deep (aiS Tryz.underlying9 (by kernel_rfl)) λ_ _=>rfl
def KZ:yZ g6 3 Int eX:=RdT.deep (aiR Tryz.underlying3 (by kernel_rfl)) λ_ _=>rfl
def atT:yZ g6 161 cI yn:=λw=>⟨by kernel_rfl,λenc base held fuel cs x h=>by
 obtain⟨Y,n,B⟩:=mu Tryz.underlying161 h
 obtain⟨y0,h0⟩:=B 0 _ rfl
 obtain⟨y1,h1⟩:=B 1 _ rfl
 obtain⟨y2,h2⟩:=B 2 _ rfl
 obtain⟨E,e0,V,Z,k0⟩:=(rd9 w).rd enc base held n _ _ h0
 obtain⟨G,U,a1,d1,O⟩:=(KZ w).rd enc base held n _ _ h1
 obtain⟨u,J,a2,I,M⟩:=(KZ w).rd enc base held n _ _ h2
 obtain rfl:E=V:=Z
 obtain rfl:G=a1:=d1
 obtain rfl:u=a2:=I
 have p0:=ea (s:=1) e0
 have p1:=ea (s:=1) U
 have p2:=ea (s:=1) J
 have W:cs.drop 3=[]:=Bh.2 (by rw[Y];exact zH (by kernel_rfl))
 refine⟨(⟨E,G,u⟩:cI),?_,(⟨E,G,u⟩:cI),rfl,k0,O,M⟩
 have e:cs=cs.drop 0:=rfl
 rw[e]
 refine p0.trans ?_
 refine(fM _ p1).trans ?_
 refine(fM _ (fM _ p2)).trans ?_
 exact(fM _ (fM _ (fM _ W)))⟩
def amF:yZ g6 23 (List cI) (λys:(List cI)=>∀y∈ys,yn y):=yZ.slice Tryz.underlying23 (by kernel_rfl) atT
def aA2:yZ g6 22 (List (List cI)) (λys:(List (List cI))=>∀y∈ys,(λys:(List cI)=>∀y∈ys,yn y) y):=yZ.slice Tryz.underlying22 (by kernel_rfl) amF
def aA3:yZ g6 91 (List ByteArray) (λys:(List ByteArray)=>∀y∈ys,(λy:ByteArray=>y.size<=maxLen) y):=yZ.slice Tryz.underlying91 (by kernel_rfl) rd9
def atU:yZ g6 164 bZ A0:=λw=>⟨by kernel_rfl,λenc base held fuel cs x h=>by
 obtain⟨Z,n,u⟩:=mu Tryz.underlying164 h
 obtain⟨y0,h0⟩:=u 0 _ rfl
 obtain⟨y1,h1⟩:=u 1 _ rfl
 obtain⟨y2,h2⟩:=u 2 _ rfl
 obtain⟨y3,h3⟩:=u 3 _ rfl
 obtain⟨G,e0,W,d0,k0⟩:=(KZ w).rd enc base held n _ _ h0
 obtain⟨I,V,a1,d1,U⟩:=(KZ w).rd enc base held n _ _ h1
 obtain⟨B,M,a2,J,O⟩:=(rd9 w).rd enc base held n _ _ h2
 obtain⟨E,e3,a3,d3,k3⟩:=(KZ w).rd enc base held n _ _ h3
 obtain rfl:G=W:=d0
 obtain rfl:I=a1:=d1
 obtain rfl:B=a2:=J
 obtain rfl:E=a3:=d3
 have p0:=ea (s:=1) e0
 have p1:=ea (s:=1) V
 have p2:=ea (s:=1) M
 have p3:=ea (s:=1) e3
 have Y:cs.drop 4=[]:=Bh.2 (by rw[Z];exact zH (by kernel_rfl))
 refine⟨(⟨G,I,B,E⟩:bZ),?_,(⟨G,I,B,E⟩:bZ),rfl,k0,U,O,k3⟩
 have e:cs=cs.drop 0:=rfl
 rw[e]
 refine p0.trans ?_
 refine(fM _ p1).trans ?_
 refine(fM _ (fM _ p2)).trans ?_
 refine(fM _ (fM _ (fM _ p3))).trans ?_
 exact(fM _ (fM _ (fM _ (fM _ Y))))⟩
def amG:yZ g6 82 (List bZ) (λys:(List bZ)=>∀y∈ys,A0 y):=yZ.slice Tryz.underlying82 (by kernel_rfl) atU
def atV:yZ g6 193 bP JB:=λw=>⟨by kernel_rfl,λenc base held fuel cs x h=>by
 obtain⟨hl,n,u⟩:=mu Tryz.underlying193 h
 obtain⟨y0,h0⟩:=u 0 _ rfl
 obtain⟨y1,h1⟩:=u 1 _ rfl
 obtain⟨y2,h2⟩:=u 2 _ rfl
 obtain⟨y3,h3⟩:=u 3 _ rfl
 obtain⟨y4,h4⟩:=u 4 _ rfl
 obtain⟨y5,h5⟩:=u 5 _ rfl
 obtain⟨y6,h6⟩:=u 6 _ rfl
 obtain⟨y7,h7⟩:=u 7 _ rfl
 obtain⟨y8,h8⟩:=u 8 _ rfl
 obtain⟨O,e0,a0,d0,k0⟩:=(KZ w).rd enc base held n _ _ h0
 obtain⟨J,e1,a1,d1,k1⟩:=(rd9 w).rd enc base held n _ _ h1
 obtain⟨B,e2,a2,d2,k2⟩:=(rd9 w).rd enc base held n _ _ h2
 obtain⟨V,e3,a3,d3,k3⟩:=(amG w).rd enc base held n _ _ h3
 obtain⟨U,e4,a4,d4,k4⟩:=(amG w).rd enc base held n _ _ h4
 obtain⟨M,e5,Y,d5,Z⟩:=(KZ w).rd enc base held n _ _ h5
 obtain⟨I,e6,a6,d6,k6⟩:=(KZ w).rd enc base held n _ _ h6
 obtain⟨G,e7,a7,d7,k7⟩:=(KZ w).rd enc base held n _ _ h7
 obtain⟨E,W,a8,d8,k8⟩:=(KZ w).rd enc base held n _ _ h8
 obtain rfl:O=a0:=d0
 obtain rfl:J=a1:=d1
 obtain rfl:B=a2:=d2
 obtain rfl:M=Y:=d5
 obtain rfl:I=a6:=d6
 obtain rfl:G=a7:=d7
 obtain rfl:E=a8:=d8
 have p0:=ea (s:=1) e0
 have p1:=ea (s:=1) e1
 have p2:=ea (s:=1) e2
 have p3:=ea (s:=1) e3
 have p4:=ea (s:=1) e4
 have p5:=ea (s:=1) e5
 have p6:=ea (s:=1) e6
 have p7:=ea (s:=1) e7
 have p8:=ea (s:=1) W
 have hz:cs.drop 9=[]:=Bh.2 (by rw[hl];exact zH (by kernel_rfl))
 refine⟨(⟨O,J,B,V,U,M,I,G,E⟩:bE),?_,(⟨O,J,B,a3,a4,M,I,G,E⟩:bP),⟨V,U,rfl,d3,d4⟩,k0,k1,k2,k3,k4,Z,k6,k7,k8⟩
 have e:cs=cs.drop 0:=rfl
 rw[e]
 refine p0.trans ?_
 refine(fM _ p1).trans ?_
 refine(fM _ (fM _ p2)).trans ?_
 refine(fM _ (fM _ (fM _ p3))).trans ?_
 refine(fM _ (fM _ (fM _ (fM _ p4)))).trans ?_
 refine(fM _ (fM _ (fM _ (fM _ (fM _ p5))))).trans ?_
 refine(fM _ (fM _ (fM _ (fM _ (fM _ (fM _ p6)))))).trans ?_
 refine(fM _ (fM _ (fM _ (fM _ (fM _ (fM _ (fM _ p7))))))).trans ?_
 refine(fM _ (fM _ (fM _ (fM _ (fM _ (fM _ (fM _ (fM _ p8)))))))).trans ?_
 exact(fM _ (fM _ (fM _ (fM _ (fM _ (fM _ (fM _ (fM _ (fM _ hz)))))))))⟩
def atW:yZ g6 141 (List bP) (λys:(List bP)=>∀y∈ys,JB y):=yZ.slice Tryz.underlying141 (by kernel_rfl) atV
def atX:yZ g6 146 cM yo:=λw=>⟨by kernel_rfl,λenc base held fuel cs x h=>by
 obtain⟨Z,n,u⟩:=mu Tryz.underlying146 h
 obtain⟨y0,h0⟩:=u 0 _ rfl
 obtain⟨y1,h1⟩:=u 1 _ rfl
 obtain⟨y2,h2⟩:=u 2 _ rfl
 obtain⟨y3,h3⟩:=u 3 _ rfl
 obtain⟨E,e0,W,d0,k0⟩:=(rd9 w).rd enc base held n _ _ h0
 obtain⟨I,V,a1,d1,U⟩:=(aA3 w).rd enc base held n _ _ h1
 obtain⟨G,M,a2,J,O⟩:=(atW w).rd enc base held n _ _ h2
 obtain⟨B,e3,a3,d3,k3⟩:=(KZ w).rd enc base held n _ _ h3
 obtain rfl:E=W:=d0
 obtain rfl:B=a3:=d3
 have p0:=ea (s:=1) e0
 have p1:=ea (s:=1) V
 have p2:=ea (s:=1) M
 have p3:=ea (s:=1) e3
 have Y:cs.drop 4=[]:=Bh.2 (by rw[Z];exact zH (by kernel_rfl))
 refine⟨(⟨E,I,G,B⟩:cE),?_,(⟨E,a1,a2,B⟩:cM),⟨I,G,rfl,d1,J⟩,k0,U,O,k3⟩
 have e:cs=cs.drop 0:=rfl
 rw[e]
 refine p0.trans ?_
 refine(fM _ p1).trans ?_
 refine(fM _ (fM _ p2)).trans ?_
 refine(fM _ (fM _ (fM _ p3))).trans ?_
 exact(fM _ (fM _ (fM _ (fM _ Y))))⟩
def atY:yZ g6 24 (List cM) (λys:(List cM)=>∀y∈ys,yo y):=yZ.slice Tryz.underlying24 (by kernel_rfl) atX
def aA4:yZ g6 85 gV EX:=λw=>⟨by kernel_rfl,λenc base held fuel cs x h=>by
 obtain⟨O,n,B⟩:=mu Tryz.underlying85 h
 obtain⟨y0,Z⟩:=B 0 _ rfl
 obtain⟨y1,h1⟩:=B 1 _ rfl
 obtain⟨E,e0,J,U,W⟩:=(amG w).rd enc base held n _ _ Z
 obtain⟨u,I,Y,V,G⟩:=(KZ w).rd enc base held n _ _ h1
 obtain rfl:u=Y:=V
 have p0:=ea (s:=1) e0
 have p1:=ea (s:=1) I
 have M:cs.drop 2=[]:=Bh.2 (by rw[O];exact zH (by kernel_rfl))
 refine⟨(⟨E,u⟩:jr),?_,(⟨J,u⟩:gV),⟨E,rfl,U⟩,W,G⟩
 have e:cs=cs.drop 0:=rfl
 rw[e]
 refine p0.trans ?_
 refine(fM _ p1).trans ?_
 exact(fM _ (fM _ M))⟩
def aA5:yZ g6 25 (List gV) (λys:(List gV)=>∀y∈ys,EX y):=yZ.slice Tryz.underlying25 (by kernel_rfl) aA4
def rd27:yZ g6 27 cA adx:=λw=>⟨by kernel_rfl,λenc base held fuel cs x h=>by
 obtain⟨hl,n,u⟩:=mu Tryz.underlying27 h
 obtain⟨y0,h0⟩:=u 0 _ rfl
 obtain⟨y1,h1⟩:=u 1 _ rfl
 obtain⟨y2,h2⟩:=u 2 _ rfl
 obtain⟨y3,h3⟩:=u 3 _ rfl
 obtain⟨y4,h4⟩:=u 4 _ rfl
 obtain⟨y5,h5⟩:=u 5 _ rfl
 obtain⟨J,e0,a0,d0,k0⟩:=(aA2 w).rd enc base held n _ _ h0
 obtain⟨M,e1,a1,d1,Z⟩:=(amF w).rd enc base held n _ _ h1
 obtain⟨B,V,Y,O,W⟩:=(amF w).rd enc base held n _ _ h2
 obtain⟨E,e3,a3,d3,k3⟩:=(atY w).rd enc base held n _ _ h3
 obtain⟨G,e4,a4,U,k4⟩:=(atY w).rd enc base held n _ _ h4
 obtain⟨I,e5,a5,d5,k5⟩:=(aA5 w).rd enc base held n _ _ h5
 have p0:=ea (s:=1) e0
 have p1:=ea (s:=1) e1
 have p2:=ea (s:=1) V
 have p3:=ea (s:=1) e3
 have p4:=ea (s:=1) e4
 have p5:=ea (s:=1) e5
 have hz:cs.drop 6=[]:=Bh.2 (by rw[hl];exact zH (by kernel_rfl))
 refine⟨(⟨J,M,B,E,G,I⟩:bN),?_,(⟨a0,a1,Y,a3,a4,a5⟩:cA),⟨J,M,B,E,G,I,rfl,d0,d1,O,d3,U,d5⟩,k0,Z,W,k3,k4,k5⟩
 have e:cs=cs.drop 0:=rfl
 rw[e]
 refine p0.trans ?_
 refine(fM _ p1).trans ?_
 refine(fM _ (fM _ p2)).trans ?_
 refine(fM _ (fM _ (fM _ p3))).trans ?_
 refine(fM _ (fM _ (fM _ (fM _ p4)))).trans ?_
 refine(fM _ (fM _ (fM _ (fM _ (fM _ p5))))).trans ?_
 exact(fM _ (fM _ (fM _ (fM _ (fM _ (fM _ hz))))))⟩
def aA6:yZ g6 41 (List Int) (λys:(List Int)=>∀y∈ys,eX y):=yZ.slice Tryz.underlying41 (by kernel_rfl) KZ
def aA7:yZ g6 50 aS SF:=λw=>⟨by kernel_rfl,λenc base held fuel cs x h=>by
 obtain⟨Z,n,u⟩:=mu Tryz.underlying50 h
 obtain⟨y0,h0⟩:=u 0 _ rfl
 obtain⟨y1,h1⟩:=u 1 _ rfl
 obtain⟨y2,h2⟩:=u 2 _ rfl
 obtain⟨y3,h3⟩:=u 3 _ rfl
 obtain⟨E,e0,W,d0,k0⟩:=(KZ w).rd enc base held n _ _ h0
 obtain⟨G,V,a1,d1,U⟩:=(KZ w).rd enc base held n _ _ h1
 obtain⟨B,M,a2,J,O⟩:=(KZ w).rd enc base held n _ _ h2
 obtain⟨I,e3,a3,d3,k3⟩:=(aA6 w).rd enc base held n _ _ h3
 obtain rfl:E=W:=d0
 obtain rfl:G=a1:=d1
 obtain rfl:B=a2:=J
 have p0:=ea (s:=1) e0
 have p1:=ea (s:=1) V
 have p2:=ea (s:=1) M
 have p3:=ea (s:=1) e3
 have Y:cs.drop 4=[]:=Bh.2 (by rw[Z];exact zH (by kernel_rfl))
 refine⟨(⟨E,G,B,I⟩:aM),?_,(⟨E,G,B,a3⟩:aS),⟨I,rfl,d3⟩,k0,U,O,k3⟩
 have e:cs=cs.drop 0:=rfl
 rw[e]
 refine p0.trans ?_
 refine(fM _ p1).trans ?_
 refine(fM _ (fM _ p2)).trans ?_
 refine(fM _ (fM _ (fM _ p3))).trans ?_
 exact(fM _ (fM _ (fM _ (fM _ Y))))⟩
def rd53:yZ g6 53 vp aiW:=λw=>⟨by kernel_rfl,λenc base held fuel cs x h=>by
 obtain⟨Y,n,u⟩:=mu Tryz.underlying53 h
 obtain⟨y0,h0⟩:=u 0 _ rfl
 obtain⟨y1,h1⟩:=u 1 _ rfl
 obtain⟨y2,h2⟩:=u 2 _ rfl
 obtain⟨B,e0,V,Z,k0⟩:=(KZ w).rd enc base held n _ _ h0
 obtain⟨E,U,a1,d1,O⟩:=(KZ w).rd enc base held n _ _ h1
 obtain⟨G,J,a2,I,M⟩:=(aA7 w).rd enc base held n _ _ h2
 obtain rfl:B=V:=Z
 obtain rfl:E=a1:=d1
 have p0:=ea (s:=1) e0
 have p1:=ea (s:=1) U
 have p2:=ea (s:=4) J
 have W:cs.drop 6=[]:=Bh.2 (by rw[Y];exact zH (by kernel_rfl))
 refine⟨(⟨B,E,G⟩:SG),?_,(⟨B,E,a2⟩:vp),⟨G,rfl,I⟩,k0,O,M⟩
 have e:cs=cs.drop 0:=rfl
 rw[e]
 refine p0.trans ?_
 refine(fM _ p1).trans ?_
 refine(fM _ (fM _ p2)).trans ?_
 exact(fM _ (fM _ (fM _ W)))⟩
end Go.Proofs.YtpdlpabnlkofmaaGreatDoor

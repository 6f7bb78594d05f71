/-
  Part 6.
-/
import Derived.Test.YtnjcingfdhjfkaaGreatVnM5
set_option linter.all false
set_option maxHeartbeats 8000000
set_option maxRecDepth 100000
namespace Go.Proofs.YtnjcingfdhjfkaaGreat
open Go.Fw
theorem C34 (u:eh) (uv:bV) (w:World) (w0:World) (h0:Ext w0 w) (hu:Deep.dr w0 uv u):CR 34 [Flat.val uv] w (λ v w'=>∃ Sa:bV,v=Flat.val Sa/\pD (fU (λ w'=>DL w' (Flat.val Sa.threads) (mU u).threads/\Deep.dr w' Sa.recover (mU u).recover/\(Ext w0 w'->Deep.dr w' Sa (mU u)))) w w'):=by
 obtain ⟨cD,bW,bG,ga,bN,rfl,cS,cX,cQ,dD,dL⟩:=hu;obtain ⟨aJ,rfl,cJ⟩:=dD;have hs:=St.start w;refine QH _ _ _ ?_;unfold S34;refine dY hs (λ iO w1 hs=>bT hs yE (λ jY _ hs=>have hs:=hs.enc (cs':=Flat.enc (⟨⟨none,0,0⟩,0,⟨none,0,0⟩,0,⟨none,0,0⟩,(⟨0,0,⟨none,0,0⟩⟩:aT),⟨none,0,0⟩⟩:bV)) rfl;⟨λ jv w'=>∃ (qD:Nat) (sl sf:SV) (sr:aT),jv = .pointer (some ⟨qD,0,none⟩)/\ee (λ _=>True) w0 (Flat.val sl) (u.lines.take 10)/\ee (λ _=>True) w0 (Flat.val sf) (u.bP.take 10)/\St w aZ [cZ qD (Flat.enc (⟨sl,u.stays,sf,u.locks,⟨none,0,0⟩,sr,⟨none,0,0⟩⟩:bV)),fU (λ w=>Deep.dr w sr (gb u.recover)),cZ iO (Flat.enc (⟨cD,(u).stays,bW,(u).locks,bG,(⟨((u).recover).aG,((u).recover).counts,aJ⟩:aT),bN⟩:bV)),cZ jY (Flat.enc (⟨⟨none,0,0⟩,0,⟨none,0,0⟩,0,⟨none,0,0⟩,(⟨0,0,⟨none,0,0⟩⟩:aT),⟨none,0,0⟩⟩:bV))] w',?_,?_⟩))
 ·refine aA eH (have hs:=hs.drew;aB cT hs.p1.hb rfl ?_);have Kx:=DL.flat (cS);refine aA eH (aB cT hs.p1.hb rfl (aI cB (Kx.ext (Ext.trans h0 hs.aD)) (rq (fk cB (Kx.ext (Ext.trans h0 hs.aD)) (by omega) (by omega) (λ s_x12 TU=>?_)))));have zL:=TU _ Kx;refine aA fu (aB (v:=.int .i64 ((u).stays)) bK hs.p1.hb rfl (aA jw (aB cT hs.p1.hb rfl ?_)));have B7:=DL.flat (cX);refine aA jw (aB cT hs.p1.hb rfl (aI cB (B7.ext (Ext.trans h0 hs.aD)) (rq (fk cB (B7.ext (Ext.trans h0 hs.aD)) (by omega) (by omega) (λ XM TW=>?_)))))
  have zM:=TW _ B7;refine aA kc (aB (v:=.int .i64 ((u).locks)) bK hs.p1.hb rfl (aA qX (uj (⟨((u).recover).aG,((u).recover).counts,aJ⟩:aT) gJ hs.p1.hb rfl ⟨?_,⟨?_,?_⟩⟩)))
  ·refine gW QY (C90 (u).recover _ _ ⟨aJ,rfl,(cJ.ext (Ext.trans h0 hs.aD))⟩) ?_;rintro _ _ ⟨TX,rfl,er⟩;have hs:=hs.made er;refine ⟨aH cT (hs.p2.hb.cell rfl),?_⟩;refine ⟨aH cT (hs.p2.hb.cell rfl),?_⟩;refine ⟨aH bK (hs.p2.hb.cell rfl),?_⟩;refine ⟨aH cT (hs.p2.hb.cell rfl),?_⟩;refine ⟨aH cT (hs.p2.hb.cell rfl),?_⟩;refine ⟨aH bK (hs.p2.hb.cell rfl),?_⟩;obtain ⟨DC,rfl⟩:=(zL).iu;obtain ⟨DD,rfl⟩:=(zM).iu;refine pop (nI _ _ _ _ _ _ _ _ _ _ _ _ _) (bT hs yE (λ b_v3 _ hs=>?_));have hs:=hs.enc (cs':=Flat.enc (⟨⟨none,0,0⟩,0,⟨none,0,0⟩,0,⟨none,0,0⟩,(⟨0,0,⟨none,0,0⟩⟩:aT),⟨none,0,0⟩⟩:bV)) rfl
   refine ⟨aH cT (hs.p3.hb.cell rfl),?_⟩;refine ⟨aH cT (hs.p3.hb.cell rfl),?_⟩;refine ⟨aH bK (hs.p3.hb.cell rfl),?_⟩;refine ⟨aH cT (hs.p3.hb.cell rfl),?_⟩;refine ⟨aH cT (hs.p3.hb.cell rfl),?_⟩;refine ⟨aH bK (hs.p3.hb.cell rfl),?_⟩;refine ⟨ry (⟨((u).recover).aG,((u).recover).counts,aJ⟩:aT) gJ hs.p3.hb rfl,?_⟩;exact cO (x:=(⟨DC,(u).stays,DD,(u).locks,⟨none,0,0⟩,TX,⟨none,0,0⟩⟩:bV)) hs mj rfl rfl (λ _ hs=>have hs:=hs.p2.p3.p3.p3;⟨_,_,_,_,rfl,by rw [<- jZ (u).lines 10]; exact zL,by rw [<- jZ (u).bP 10]; exact zM,hs⟩)
  ·refine bT hs yE (λ aej _ hs=>?_);have hs:=hs.enc (cs':=Flat.enc (⟨⟨none,0,0⟩,0,⟨none,0,0⟩,0,⟨none,0,0⟩,(⟨0,0,⟨none,0,0⟩⟩:aT),⟨none,0,0⟩⟩:bV)) rfl;refine ⟨aH cT (hs.p2.hb.cell rfl),?_⟩;refine ⟨aH cT (hs.p2.hb.cell rfl),?_⟩;refine ⟨aH bK (hs.p2.hb.cell rfl),?_⟩;refine ⟨aH cT (hs.p2.hb.cell rfl),?_⟩;refine ⟨aH cT (hs.p2.hb.cell rfl),?_⟩;refine ⟨aH bK (hs.p2.hb.cell rfl),?_⟩;refine ⟨ry (⟨((u).recover).aG,((u).recover).counts,aJ⟩:aT) gJ hs.p2.hb rfl,?_⟩;refine gW QY (C90 (u).recover _ _ ⟨aJ,rfl,(cJ.ext (Ext.trans h0 hs.aD))⟩) ?_
   rintro _ _ ⟨Ky,rfl,er⟩;have hs:=hs.made er;refine ⟨aH cT (hs.p3.hb.cell rfl),?_⟩;refine ⟨aH cT (hs.p3.hb.cell rfl),?_⟩;refine ⟨aH bK (hs.p3.hb.cell rfl),?_⟩;refine ⟨aH cT (hs.p3.hb.cell rfl),?_⟩;refine ⟨aH cT (hs.p3.hb.cell rfl),?_⟩;refine ⟨aH bK (hs.p3.hb.cell rfl),?_⟩;obtain ⟨DC,rfl⟩:=(zL).iu;obtain ⟨DD,rfl⟩:=(zM).iu;exact pop (nI _ _ _ _ _ _ _ _ _ _ _ _ _) (cO (x:=(⟨DC,(u).stays,DD,(u).locks,⟨none,0,0⟩,Ky,⟨none,0,0⟩⟩:bV)) hs.p1 mj rfl rfl (λ _ hs=>have hs:=hs.p2.p3.p3.p3;⟨_,_,_,_,rfl,by rw [<- jZ (u).lines 10]; exact zL,by rw [<- jZ (u).bP 10]; exact zM,hs⟩))
  trivial
 rintro _ _ ⟨qD,sl,sf,sr,rfl,Ia,hsf,hs⟩ _;have hs:=(((((hs.Fp (α:=dK)).p4).p4).p4).p3).p4;refine ⟨λ m x w1=>∃ (k:Nat) (st:SV),x = .int .i64 (k:Int)/\m=4 - k/\k<=4/\k<=u.threads.length/\St w aZ [cZ qD (Flat.enc (⟨sl,u.stays,sf,u.locks,st,sr,⟨none,0,0⟩⟩:bV)),iZ (Flat.val st) ((u.threads.take k).map gb),fU (λ w=>Deep.dr w sr (gb u.recover)),cZ iO (Flat.enc (⟨cD,(u).stays,bW,(u).locks,bG,(⟨((u).recover).aG,((u).recover).counts,aJ⟩:aT),bN⟩:bV)),cZ jY (Flat.enc (⟨⟨none,0,0⟩,0,⟨none,0,0⟩,0,⟨none,0,0⟩,(⟨0,0,⟨none,0,0⟩⟩:aT),⟨none,0,0⟩⟩:bV))] w1,⟨_,0,⟨none,0,0⟩,rfl,rfl,by omega,by omega,hs⟩,?_⟩
 rintro m _ _ ⟨k,st,rfl,rfl,hk,sB,hs⟩ _;have Sc:((u.threads.take k).map gb).length=k:=by rw [List.length_map,List.length_take]; omega
 refine ⟨λ jv w'=>jv = .bool (decide (k<u.threads.length/\k<4))/\St w aZ [cZ qD (Flat.enc (⟨sl,u.stays,sf,u.locks,st,sr,⟨none,0,0⟩⟩:bV)),iZ (Flat.val st) ((u.threads.take k).map gb),fU (λ w=>Deep.dr w sr (gb u.recover)),cZ iO (Flat.enc (⟨cD,(u).stays,bW,(u).locks,bG,(⟨((u).recover).aG,((u).recover).counts,aJ⟩:aT),bN⟩:bV)),cZ jY (Flat.enc (⟨⟨none,0,0⟩,0,⟨none,0,0⟩,0,⟨none,0,0⟩,(⟨0,0,⟨none,0,0⟩⟩:aT),⟨none,0,0⟩⟩:bV))] w',?_,?_⟩
 ·refine aA fX (aB mI hs.p3.hb rfl ?_);obtain ⟨ts143,ZR,ZS⟩:=(cQ).open;have hn143:=ZS.1;exact aI kR (ZR.ext (Ext.trans h0 hs.aD)) (aN (aC (λ _=>aN ⟨vb (by grind),hs⟩) (λ _=>⟨vb (by grind),hs⟩)))
 rintro _ _ ⟨rfl,hs⟩ _;refine bD (λ im=>?_) (λ im=>?_)
 ·have hc36:k<u.threads.length/\k<4:=by simpa using im
  refine aA fX (have hs:=hs.drew;aB (v:=Flat.val (st:SV)) mI hs.hb rfl (aA fX (aB mI hs.p3.hb rfl ?_)));obtain ⟨ZT,ZU,Qh⟩:=(cQ).open;have hn144:=Qh.1;obtain ⟨e_x44,Kz⟩:=gx ZT (i:=((k:Int)).toNat) (by omega);obtain ⟨Qi,KA⟩:=gx ((u).threads) (i:=((k:Int)).toNat) (by omega);obtain ⟨NJ,rfl,NK⟩:=Qh.2 _ _ _ Kz KA;refine aR kR ZU (by omega) Kz (λ _ Jr=>aO gJ (Jr.ext (Ext.trans h0 hs.aD)) (gW QY (C90 Qi _ _ ⟨NJ,rfl,(NK.ext (Ext.trans h0 hs.aD))⟩) ?_));rintro _ _ ⟨TY,rfl,er⟩;have hs:=hs.made er;refine ⟨aH mI (hs.p1.hb.cell rfl),?_⟩
  refine gF (s:=TY) (x:=(gb Qi)) hs kR (by decide) (λ Xc _ hs=>?_);refine ⟨aH mI (hs.p1.hb.cell rfl),?_⟩;have hs:=hs.p2;refine gG hs kR (by rw [Sc,List.length_singleton]; omega) (by decide) (λ s_x48 _ hs=>aA fX ?_);obtain ⟨KB,rfl⟩:=(hs).Eb;exact bH hs.p1 mI (ft rfl) (rfl) (λ _ hs=>have hs:=hs.enc (cs':=Flat.enc (⟨sl,u.stays,sf,u.locks,KB,sr,⟨none,0,0⟩⟩:bV)) rfl;aW (by omega) (have hs:=hs.p4.p4.p4.p4.p4;⟨_,by omega,k+1,KB,rfl,rfl,by omega,by omega,by rw [<- jG (k:=k) KA]; exact hs⟩))
 rw [AV (xs:=u.threads) (k:=k) (m:=4) (by omega) (by omega) (of_decide_eq_false im)] at hs;have hs:=((((((hs.fF (α:=SV)).p5).p5).p5).p5).p4).p5;refine ⟨λ m x w1=>∃ (q:Nat) (sc:SV) (cs:List SV),x = .int .i64 (q:Int)/\m=5 - q/\q<=5/\q<=u.bU.length/\kV cs ((u.bU.take q).map λ l=>l.take 50) w0/\St w aZ [cZ qD (Flat.enc (⟨sl,u.stays,sf,u.locks,st,sr,sc⟩:bV)),bR (Flat.val sc) cs,iZ (Flat.val st) ((u.threads.take 4).map gb),fU (λ w=>Deep.dr w sr (gb u.recover)),cZ iO (Flat.enc (⟨cD,(u).stays,bW,(u).locks,bG,(⟨((u).recover).aG,((u).recover).counts,aJ⟩:aT),bN⟩:bV)),cZ jY (Flat.enc (⟨⟨none,0,0⟩,0,⟨none,0,0⟩,0,⟨none,0,0⟩,(⟨0,0,⟨none,0,0⟩⟩:aT),⟨none,0,0⟩⟩:bV))] w1,⟨_,0,⟨none,0,0⟩,[],rfl,rfl,by omega,by omega,kV.nil,hs⟩,?_⟩
 rintro m _ _ ⟨q,sc,cs,rfl,rfl,hq,od,G3,hs⟩ _;have aek:((u.bU.take q).map λ l=>l.take 50).length=q:=by rw [List.length_map,List.length_take]; omega
 refine ⟨λ jv w'=>jv = .bool (decide (q<u.bU.length/\q<5))/\St w aZ [cZ qD (Flat.enc (⟨sl,u.stays,sf,u.locks,st,sr,sc⟩:bV)),bR (Flat.val sc) cs,iZ (Flat.val st) ((u.threads.take 4).map gb),fU (λ w=>Deep.dr w sr (gb u.recover)),cZ iO (Flat.enc (⟨cD,(u).stays,bW,(u).locks,bG,(⟨((u).recover).aG,((u).recover).counts,aJ⟩:aT),bN⟩:bV)),cZ jY (Flat.enc (⟨⟨none,0,0⟩,0,⟨none,0,0⟩,0,⟨none,0,0⟩,(⟨0,0,⟨none,0,0⟩⟩:aT),⟨none,0,0⟩⟩:bV))] w',?_,?_⟩
 ·refine aA ir (aB qW hs.p4.hb rfl ?_);obtain ⟨ts145,ZV,ZW⟩:=(dL).open;have hn145:=ZW.1;exact aI oB (ZV.ext (Ext.trans h0 hs.aD)) (aN (aC (λ _=>aN ⟨vb (by grind),hs⟩) (λ _=>⟨vb (by grind),hs⟩)))
 rintro _ _ ⟨rfl,hs⟩ _;refine bD (λ rK=>?_) (λ rK=>?_)
 ·have hc58:q<u.bU.length/\q<5:=by simpa using rK
  refine aA ir (have hs:=hs.drew;aB (v:=Flat.val (sc:SV)) qW hs.hb rfl (aA ir (aB qW hs.p4.hb rfl ?_)));obtain ⟨ZX,Qj,Qk⟩:=(dL).open;have hn146:=Qk.1;obtain ⟨ZY,DE⟩:=gx ZX (i:=((q:Int)).toNat) (by omega);obtain ⟨Ql,KC⟩:=gx ((u).bU) (i:=((q:Int)).toNat) (by omega);have ZZ:DL w0 (Flat.val ZY) Ql:=Qk.2 _ _ _ DE KC;refine aR oB Qj (by omega) DE (λ _ Z0=>aO gh (Z0.ext (Ext.trans h0 hs.aD)) ?_);have KD:=DL.flat (ZZ);refine aA ir (aB qW hs.p4.hb rfl (aR oB Qj (by omega) DE (λ _ Z1=>aO gh (Z1.ext (Ext.trans h0 hs.aD)) (aI e8 (KD.ext (Ext.trans h0 hs.aD)) (rq (fk e8 (KD.ext (Ext.trans h0 hs.aD)) (by omega) (by omega) (λ Ku Dy=>?_)))))))
  have zJ:=Dy _ KD;obtain ⟨KE,rfl⟩:=(zJ).iu;refine cM ([KE]) hs oB rfl rfl (ft rfl) (λ ZK _ hs=>?_);refine ⟨aH qW (hs.p1.hb.cell rfl),?_⟩;have qn:=(hs).jo;refine cN hs.p2 oB qn (by rw [G3.1,aek]; simp; omega) (by decide) (λ ZL _ hs=>have hs:=hs.p1.drop;aA ir ?_);obtain ⟨KF,rfl⟩:=(hs).iu;exact bH hs.p1 qW (ft rfl) (rfl) (λ _ hs=>have hs:=hs.enc (cs':=Flat.enc (⟨sl,u.stays,sf,u.locks,st,sr,KF⟩:bV)) rfl;aW (by omega) (have hs:=hs.p5.p5.p5.p5.p5.p5;⟨_,by omega,q+1,KF,cs++[KE],rfl,rfl,by omega,by omega,by rw [<- jG (k:=q) KC]; exact G3.snoc (by rw [<- jZ Ql 50]; exact DL.ml zJ),hs⟩))
 refine aO mj hs.At (cO (x:=(⟨sl,u.stays,sf,u.locks,st,sr,sc⟩:bV)) hs.p5 mj rfl rfl (λ _ hs=>aO mj hs.At ?_));have hs:=((((((hs.drop)).drop).p3).drop).p2).p2;have hc58n:¬ (q<u.bU.length/\q<5):=by simpa using rK
 have hq5:u.bU.take q=u.bU.take 5:=by
  by_cases h5:q=5
  ·rw [h5]
  ·rw [List.take_of_length_le (by omega),List.take_of_length_le (by omega)]
 rw [hq5] at G3;have hs:=((hs.pj.gU.p1.freeze).p1.gU).jz (Ψ:=λ w'=>DL w' (Flat.val st) (mU u).threads/\Deep.dr w' sr (mU u).recover/\(Ext w0 w'->Deep.dr w' (⟨sl,u.stays,sf,u.locks,st,sr,sc⟩:bV) (mU u))) (λ _ h=>⟨h.1.1,h.1.2,λ he=>⟨_,_,_,_,_,rfl,DL.ml (Ia.ext he),DL.ml (hsf.ext he),h.1.1,h.1.2,⟨cs,h.2,G3.ext he⟩⟩⟩);exact ⟨_,rfl,hs.fresh⟩
theorem C27 (K G:World->Prop) (p q:Nat) (m:j0) (w:World) (hm:Has (iI K p m) w) (hw:K w) (lV:∀ w',Ext w w'->K w') (jR:lU m) (sB:Has (gI G q m) w) (hwG:G w) (NI:∀ w',Ext w w'->G w') (zS:m.u.bU.length<=1000) (Ua:∀ l∈m.u.bU,l.length<=1000) (hst:0<=m.u.stays/\m.u.stays<=m.mem.l.length) (Pa:qF m.mem.l) (zU:∀ t∈m.l,t.aG.length<=1000000) (pz:(fJ m).length<=1073741824) (hpc:∀ x∈fJ m,x.cut.length<=1000000):CR 27 [(.pointer (some ⟨p,0,none⟩)),(.pointer (some ⟨q,0,none⟩))] w (λ v w'=>v = .bool true/\Ext w w'):=by
 obtain ⟨a,hr⟩:=gI.rd sB;obtain ⟨ov2,fv2,lv2,kv2,wv2,ws2,ael,dmb,dmo,dmf,dml,dmk,dmw⟩:=hr.mem.ex;have dq2:=dmb.cell (o:=2) rfl;have dq3:=dmb.cell (o:=3) rfl;have d11:=hr.b.cell (o:=11) rfl;have d13:=hr.b.cell (o:=13) rfl;have VR:=jR.mem.fl;have hll:=jR.mem.ll;have XQ:=jR.mem.kl;have hol2:=jR.mem.ofl;have hkl9:=hr.len;have htl9:=jR.tl;have hs:=St.start w;refine QF _ _ _ _ ?_;unfold S27;refine ⟨λ jv w'=>jv = .bool false/\St w aZ [] w',?_,?_⟩
 ·have hs:=hs.drew;refine fy UF hs (C16 K p m _ (hm.ext hs.aD) (lV _ hs.aD) (λ _ e=>lV _ (Ext.trans hs.aD e)) jR) (λ x7 w1 er hs=>fy UM hs (C32 G q m _ (sB.ext hs.aD) (NI _ hs.aD) (λ _ e=>NI _ (Ext.trans hs.aD e)) jR) (λ x9 w2 er hs=>bF abu hs (C20 _ _ (fJ m) (fJ m) _ (hs.p1).dl (hs).dl pz hpc) (λ _ he hs=>bO (dA (by simp) (bF abt hs (C18 K p m _ (hm.ext hs.aD) (lV _ hs.aD) (λ _ e=>lV _ (Ext.trans hs.aD e)) jR) (λ _ he hs=>bF abP hs (C78 G q m _ (sB.ext hs.aD) (NI _ hs.aD) (λ _ e=>NI _ (Ext.trans hs.aD e)) jR) (λ _ he hs=>xz V3 rfl rfl (Gh _) (dA (by simp) (aE (aA yG (aK G7 (d11.ext hs.aD) (aE ?_))))))))))))
  refine aA vd (aK cT (dq2.ext hs.aD) (fy UH hs (C22 K p m _ (hm.ext hs.aD) (lV _ hs.aD) (λ _ e=>lV _ (Ext.trans hs.aD e)) jR) (λ x21 _ er hs=>?_)));refine ⟨aH G7 (d11.ext hs.aD),?_⟩;refine ⟨aH cT (dq2.ext hs.aD),?_⟩;refine bF Li hs (C21 _ _ ((m.mem.l)) (m.mem.l) _ (hs).jo (dml.ext hs.aD) (by omega)) (λ _ he hs=>bO (dA (by simp) (aE (aA yG (aK G7 (d11.ext hs.aD) (aE (aA Ao (aK cT (dq3.ext hs.aD) (fy abv hs (C23 K p m _ (hm.ext hs.aD) (lV _ hs.aD) (λ _ e=>lV _ (Ext.trans hs.aD e)) jR) (λ x34 _ er hs=>?_))))))))));refine ⟨aH G7 (d11.ext hs.aD),?_⟩
  refine ⟨aH cT (dq3.ext hs.aD),?_⟩;exact bF Li hs (C21 _ _ ((m.mem.kept)) (m.mem.kept) _ (hs).jo (dmk.ext hs.aD) (by omega)) (λ _ _ hs=>bO (dA (by simp) (fy abz hs (C49 K p m _ (hm.ext hs.aD) (lV _ hs.aD) (λ _ e=>lV _ (Ext.trans hs.aD e)) jR zS Ua hst) (λ _ _ _ hs=>fy abQ hs (C79 G q m _ (sB.ext hs.aD) (NI _ hs.aD) (λ _ e=>NI _ (Ext.trans hs.aD e)) jR zS Ua hst Pa) (λ _ _ _ hs=>bF abA hs (C50 _ _ (rW m) (rW m) _ (hs.p1).jo (hs).jo (by unfold rW; rw [List.length_map]; omega)) (λ _ _ hs=>bO (have hs:=((((((((((hs.drop)).drop)).drop)).drop)).drop)).drop;⟨vb (by simp),hs⟩)))))))
 rintro _ _ ⟨rfl,hs⟩ _;refine dN ?_;refine ⟨λ mm x w1=>∃ k:Nat,x = .int .i64 (k:Int)/\mm=a.ps.length - k/\k<=a.ps.length/\St w aZ [] w1,⟨_,0,rfl,rfl,Nat.zero_le _,hs⟩,?_⟩;rintro mm _ _ ⟨k,rfl,rfl,hk9,hs⟩ _;refine aE (aA gX (aK pC (d13.ext hs.aD) (aI sM (hr.ll.ext hs.aD) (aN (aC (λ Ix=>?_) (λ Ix=>⟨λ jv w'=>jv = .bool true/\St w aZ [] w',?_,?_⟩))))))
 ·obtain ⟨t,ht⟩:∃ t,m.l[k]? = some t:=⟨_,List.getElem?_eq_getElem (by omega)⟩;have Bf:=List.mem_of_getElem? ht;have htb:=(jR.th t Bf).bl;have htr:=zU t Bf;have hrm:tK m (k:Int)=t.aG:=Bh (by omega) ht;have hbm:Bg m (k:Int)=t.buf:=EG (by omega) ht;refine ⟨λ jv w'=>jv = .bool false/\St w aZ [] w',?_,?_⟩
  ·refine aE (aA gX (have hs:=hs.drew;aK pC (d13.ext hs.aD) ?_));obtain ⟨e_x70,zN⟩:=gx (a.ps) (i:=((k:Int)).toNat) (by omega);refine aR sM hr.ll (by omega) zN (λ _ Qm=>aO rp (Qm.ext hs.aD) ?_);obtain ⟨bp,gl,rg,cn,_,fR,hB,CY,Ja⟩:=eX.rd (hr.th k _ _ zN ht);obtain ⟨bsv,_,pH,Km⟩:=hB;have ct4:=fR.cell (o:=4) rfl;have Cf:=fR.cell (o:=6) rfl;refine aE (aA ve (aK cT (ct4.ext hs.aD) (fy UI hs (C25 K p m (k:Int) _ (hm.ext hs.aD) (lV _ hs.aD) (λ _ e=>lV _ (Ext.trans hs.aD e)) jR zU) (λ x64 _ er hs=>?_))));refine ⟨aH pC (d13.ext hs.aD),?_⟩
   refine ⟨eE rp (Qm.ext hs.aD),?_⟩;refine ⟨aH cT (ct4.ext hs.aD),?_⟩;refine bF Li hs (C21 _ _ ((tK m (k:Int))) (t.aG) _ (hs).jo (CY.ext hs.aD) (by rw [hrm]; omega)) (λ _ he hs=>bO (dA (by rw [hrm]; simp) (aE (aA gX (aK pC (d13.ext hs.aD) (aR sM hr.ll (by omega) zN (λ _ Qn=>aO rp (Qn.ext hs.aD) ?_)))))));obtain ⟨bp,gl,rg,cn,_,fR,hB,CY,Ja⟩:=eX.rd (hr.th k _ _ zN ht);obtain ⟨bsv,_,pH,Km⟩:=hB;have ct4:=fR.cell (o:=4) rfl;have Cf:=fR.cell (o:=6) rfl;refine aE (aA ko (aK ri (Cf.ext hs.aD) (aE (aA ig (aK nW (pH.ext hs.aD) (fy UN hs (C35 K p m (k:Int) _ (hm.ext hs.aD) (lV _ hs.aD) (λ _ e=>lV _ (Ext.trans hs.aD e)) jR) (λ x80 _ er hs=>?_)))))))
   refine ⟨aH pC (d13.ext hs.aD),?_⟩;refine ⟨eE rp (Qn.ext hs.aD),?_⟩;refine ⟨aH ri (Cf.ext hs.aD),?_⟩;refine ⟨aH nW (pH.ext hs.aD),?_⟩;exact bF aby hs (C36 _ _ (Bg m (k:Int)) t.buf _ (hs).jo (Km.ext hs.aD) (by rw [hbm]; omega)) (λ _ _ hs=>bO (have hs:=((hs.drop)).drop;⟨vb (by rw [hbm]; simp),hs⟩))
  rintro _ _ ⟨rfl,hs⟩ _;exact dN (aW (by omega) ⟨_,by omega,k+1,rfl,rfl,by omega,hs⟩)
 ·refine aE (aA gX (aK pC (d13.ext hs.aD) (aI sM (hr.ll.ext hs.aD) (fy UI hs (C25 K p m _ _ (hm.ext hs.aD) (lV _ hs.aD) (λ _ e=>lV _ (Ext.trans hs.aD e)) jR zU) (λ x103 _ er hs=>?_)))));have hro:tK m (a.ps.length:Int)=[]:=xZ (by omega);refine aI cB (hs).jo (aF (ph (decide_eq_true (by rw [hro]; rfl)) (fy UN hs (C35 K p m (-1) _ (hm.ext hs.aD) (lV _ hs.aD) (λ _ e=>lV _ (Ext.trans hs.aD e)) jR) (λ x108 _ er hs=>?_))));have hbo:Bg m (-1)=[]:=Bi (by omega);exact aI jX (hs).jo (aF (have hs:=((hs.drop)).drop;⟨vb (decide_eq_true (by rw [hbo]; rfl)),hs⟩))
 rintro _ _ ⟨rfl,hs⟩ _;exact ⟨rfl,hs.aD⟩
theorem TZ {F:Nat->Prop} {w0 w1:World} {sh:bV} {u:eh} (h0:Ext w0 w1) (hd:∀ w',nY F w1 w'->DL w' (Flat.val sh.threads) u.threads/\Deep.dr w' sh.recover u.recover/\(Ext w0 w'->Deep.dr w' sh u)) :
  ∃ m7,UG (λ w'=>nY F w1 w'/\Ext w0 w') sh u m7:=by
 obtain ⟨m7,zS,v7⟩:=nY.fix v5 λ w' h=>(hd w' h).1
 have Qt:∀ w',nY F w1 w'->DL w' (Flat.val sh.recover.l) u.recover.l:=λ w' h=>by
  obtain ⟨g,e2,q6⟩:=(hd w' h).2.1; rw [e2]; exact q6
 obtain ⟨tr,_,htr⟩:=nY.fix oP Qt
 refine ⟨m7,λ w' h=>?_,λ w' h=>?_,⟨tr,λ w' h=>htr w' h.1⟩,λ w' h=>(v7 w' h.1).1,zS,λ j cv c h1 h2=>?_⟩
 ·obtain ⟨_,_,_,_,_,e,q1,q2,q3,q4,q5⟩:=(hd w' h.1).2.2 h.2; rw [e]; exact DL.flat q1
 ·obtain ⟨_,_,_,_,_,e,q1,q2,q3,q4,q5⟩:=(hd w' h.1).2.2 h.2; rw [e]; exact q5
 have hh:∀ w',nY F w1 w'->Deep.dr w' cv c:=λ w' h=>(v7 w' h).2.2 j cv c h1 h2
 obtain ⟨gl,e,_⟩:=hh w1 (nY.refl F w1)
 subst e
 obtain ⟨ts,_,h6⟩:=nY.fix oP (v:=Flat.val gl) (xs:=c.l) λ w' h=>by obtain ⟨gl',e,h6⟩:=hh w' h; cases e; exact h6
 exact ⟨gl,rfl,ts,λ w' h=>h6 w' h.1⟩
section
variable {m:j0}
theorem GM.hst (h:GM m):0<=m.u.stays/\m.u.stays<=m.mem.l.length:=by
 have h1:=h.ru.st; have h2:=h.mem.ll; have h3:=h.ru.fl
 rw [h.bP] at h2
 exact ⟨h1.1,by omega⟩
theorem GM.zU (h:GM m):∀ t∈m.l,t.aG.length<=1000000:=λ t ht=>by
 have h1:=(h.th t ht).1
 have:=h1.rg; have:=h1.code.rb
 omega
theorem GM.pz (h:GM m):(fJ m).length<=1000000:=by
 unfold fJ
 split
 ·simp
 have h1:=mf h.ok m.l.length
 have h2:=h.tl
 exact Nat.le_trans h1 (by omega)
theorem B9 (m:j0):∀ x∈fJ m,x.cut=[]:=λ x hx=>by
 unfold fJ at hx
 split at hx
 ·cases hx
 ·unfold fx at hx
  obtain ⟨i,_,hi⟩:=List.mem_flatMap.1 hx
  split at hi
  ·unfold qw at hi
   rcases List.mem_append.1 hi with h1 | h1
   ·split at h1
    ·rw [List.mem_singleton.1 h1]
    ·cases h1
   ·obtain ⟨k,_,rfl⟩:=List.mem_map.1 h1; rfl
  ·cases hi
theorem NM {u:eh} {room:Int} {kh:List eB} (hu:tL u):qF (jP (fL u room) kh).mem.l:=λ v hv=>by
 have h1:=hu.fr v hv
 unfold eD
 omega
end
section
variable {r b:Prop} {X Y Z:Prop}
theorem aen {u:eh} (hR:dU u=false) (h:(dU u=false/\X)\/(dU u=true/\b/\Y)\/(dU u=true/\Z)):X:=by
 rcases h with h | h | h
 ·exact h.2
 ·rw [hR] at h; cases h.1
 rw [hR] at h; cases h.1
theorem aeo {u:eh} {room:Int} (hR:dU u=true) (hr:room<1\/16<room) (h:(dU u=false/\X)\/(dU u=true/\b/\Y)\/(dU u=true/\1<=room/\room<=16/\Z)):Y:=by
 rcases h with h | h | h
 ·rw [hR] at h; cases h.1
 ·exact h.2.2
 exfalso; omega
theorem aep {u:eh} {room:Int} (hR:dU u=true) (hr:1<=room/\room<=16) (h:(dU u=false/\X)\/(dU u=true/\(room<1\/16<room)/\Y)\/(dU u=true/\1<=room/\room<=16/\Z)):Z:=by
 rcases h with h | h | h
 ·rw [hR] at h; cases h.1
 ·exfalso; omega
 exact h.2.2.2
end
set_option maxRecDepth 100000 in
theorem C7 (u:eh) (uv:bV) (room:Int) (w:World) (hu:Deep.dr w uv u):CR 7 [Flat.val uv,.int .i64 room] w (λ v w'=>v = .bool true/\Ext w w'):=by
 have hu0:=hu;obtain ⟨cD,bW,bG,ga,bN,rfl,cS,cX,cQ,dD,dL⟩:=hu;obtain ⟨aJ,rfl,cJ⟩:=dD;have hs:=St.start w;refine UD _ _ _ _ ?_;unfold S7;refine dY hs (λ FG w1 hs=>aO mj hs.At (gW abx (C34 u _ _ w hs.aD hu0) ?_));rintro _ _ ⟨sh,rfl,er⟩;have hs:=hs.made er;refine cO (x:=sh) hs.p1 mj rfl rfl (λ w3 hs=>?_);have hs:=hs.p1;obtain ⟨F,hs,hd⟩:=hs.Pf;obtain ⟨m7,hG⟩:=TZ hs.aD hd;have X4:=hG.cv.1;have T0:=Mv u;have hz9t:=T0.threads;have hs:=hs.p1.p1.p1;refine ⟨λ mm x w1=>∃ k:Nat,x = .int .i64 (k:Int)/\mm=m7.length - k/\k<=m7.length/\(∀ c∈(mU u).threads.take k,c.l.length<=8)/\St w aZ [cZ FG (Flat.enc sh),fU (nY F w3)] w1,⟨_,0,rfl,rfl,Nat.zero_le _,by simp,hs⟩,?_⟩
 rintro mm _ _ ⟨k,rfl,rfl,hk,h8,hs⟩ _;refine aA fX (aB (v:=Flat.val sh.threads) mI hs.hb rfl (aI kR (hG.th _ ⟨hs.p1.fU,hs.aD⟩) (aN (aC (λ eU=>?_) (λ eU=>?_)))))
 ·refine aA fX (aB (v:=Flat.val sh.threads) mI hs.hb rfl ?_);obtain ⟨Z2,KG⟩:=gx (m7) (i:=((k:Int)).toNat) (by omega);refine aR kR (hG.th _ ⟨hs.p1.fU,hs.aD⟩) (by omega) KG (λ _ AM=>dO (Z2).l dZ AM rfl rfl (λ _ oL=>aO fG (oL) ?_));obtain ⟨c0,qT⟩:=gx (mU u).threads (i:=((k:Int)).toNat) (by omega);obtain ⟨gl0,aeq,Pd,Z3⟩:=hG.cv.2 _ _ _ KG qT;have hts0l:=(Z3 _ ⟨hs.p1.fU,hs.aD⟩).2.1;refine aI gp (by rw [aeq]; exact (Z3 _ ⟨hs.p1.fU,hs.aD⟩).1) (cC (aC (λ _=>bF Lh hs (C14 _) (λ _ _ hs=>have hs:=((hs.drop)).drop;⟨rfl,hs.aD⟩)) (λ OS=>aW (by omega) ?_)))
  exact ⟨_,by omega,k+1,rfl,rfl,by omega,λ c hc=>by
   rw [DB (k:=k) qT] at hc
   rcases List.mem_append.1 hc with h | h
   ·exact h8 c h
   ·rw [List.mem_singleton.1 h]; omega,hs⟩
 rw [List.take_of_length_le (by omega)] at h8
 obtain ⟨N,kh,uL⟩:∃ N kh,dU (mU u)=true->EH N (mU u) kh:=by
  by_cases hR:dU (mU u)=true
  ·obtain ⟨N,kh,hb⟩:=B1 hR h8; exact ⟨N,kh,λ _=>Jp (v8 hR) T0 hb⟩
  ·exact ⟨0,[],λ h=>absurd h hR⟩
 refine aO mj hs.At (gW abr (C15 (mU u) sh room N kh _ ((hd _ (hs.p1).fU).2.2 hs.aD) T0 uL) ?_);rintro v_x31 _ T1
 rcases T1 with ⟨hR,rfl,he⟩ | ⟨hR,jt,rfl,he⟩ | ⟨hR,DP,wM,K,p,rfl,er⟩
 ·have hs:=hs.ext he;refine bI rfl (bI rfl (aO mj hs.At (bF QE hs (GZ (C26 (mU u) sh room N kh _ m7 _ ((hd _ (hs.p1).fU).2.2 hs.aD) (λ _ e=>⟨((hs.ext e).p1).fU,Ext.trans hs.aD e⟩) hG T0 uL) (λ _ _ h=>aen hR h)) (λ w7 he hs=>bI rfl (bI rfl ⟨λ jv w'=>jv = .bool false/\St w aZ [cZ FG (Flat.enc sh),fU (nY F w3)] w',bJ (dA (by decide) (ju xA (ju G6 (qU LR (have hs:=hs.p1.p1;⟨rfl,hs⟩))))),?_⟩)))));rintro _ w8 ⟨rfl,hs⟩ kD;refine dN ⟨λ jv w'=>jv = .bool true/\St w aZ [] w',ju xA (eZ (bF Lh hs (C14 _) (λ _ _ hs=>have hs:=((hs.drop)).drop;⟨rfl,hs⟩))),?_⟩
  rintro _ w12 ⟨rfl,hs⟩ rE;exact ⟨rfl,hs.aD⟩
 ·have hs:=hs.ext he;refine bI rfl (bI rfl (aO mj hs.At (bF QE hs (GZ (C26 (mU u) sh room N kh _ m7 _ ((hd _ (hs.p1).fU).2.2 hs.aD) (λ _ e=>⟨((hs.ext e).p1).fU,Ext.trans hs.aD e⟩) hG T0 uL) (λ _ _ h=>aeo hR jt h)) (λ w7 he hs=>bI rfl (bI rfl ⟨λ jv w'=>jv = .bool false/\St w aZ [cZ FG (Flat.enc sh),fU (nY F w3)] w',bJ (dA (by decide) (ju xA (ju G6 (qU LR (have hs:=hs.p1.p1;⟨rfl,hs⟩))))),?_⟩)))));rintro _ w8 ⟨rfl,hs⟩ kD;refine dN ⟨λ jv w'=>jv = .bool true/\St w aZ [] w',ju xA (eZ (bF Lh hs (C14 _) (λ _ _ hs=>have hs:=((hs.drop)).drop;⟨rfl,hs⟩))),?_⟩
  rintro _ w12 ⟨rfl,hs⟩ rE;exact ⟨rfl,hs.aD⟩
 have hs:=(hs.made er).split;have Un:GM (jP (fL (mU u) room) kh):=GM.new (v8 hR) T0 (uL hR).b ⟨DP,wM⟩;refine bI rfl (bI rfl (aO mj hs.p2.At (gW QE (GZ (C26 (mU u) sh room N kh _ m7 _ ((hd _ (hs.p3).fU).2.2 hs.aD) (λ _ e=>⟨((hs.ext e).p3).fU,Ext.trans hs.aD e⟩) hG T0 uL) (λ _ _ h=>aep hR ⟨DP,wM⟩ h)) ?_)));rintro _ w7 ⟨q,rfl,Z4⟩;have hs:=hs.made Z4;refine bI rfl (bI rfl ⟨λ jv w'=>jv = .bool false/\St w aZ [gI (λ w'=>nY F w3 w'/\Ext w w') q (jP (fL (mU u) room) kh),iI K p (jP (fL (mU u) room) kh),fU K,cZ FG (Flat.enc sh),fU (nY F w3)] w',bJ (dA (by decide) (ju xA (ju G6 (qU LR (have hs:=hs.p4.p4.p4.p4.p4;⟨rfl,hs⟩))))),?_⟩)
 rintro _ w8 ⟨rfl,hs⟩ kD;refine dN ⟨λ jv w'=>jv = .bool true/\St w aZ [] w',ju xA (dN (bF abw hs (C27 K _ p q (jP (fL (mU u) room) kh) _ (hs.p1).has (hs.p2).fU (λ _ e=>((hs.ext e).p2).fU) Un.ok (hs).has ⟨(hs.p4).fU,hs.aD⟩ (λ _ e=>⟨((hs.ext e).p4).fU,Ext.trans hs.aD e⟩) Un.uz.bU Un.uz.cl Un.hst (NM (v8 hR)) Un.zU (Nat.le_trans Un.pz (by omega)) (λ x hx=>by rw [B9 _ x hx]; simp)) (λ _ _ hs=>eZ (bF Lh hs (C14 _) (λ _ _ hs=>have hs:=((((((((hs.drop)).drop)).drop)).drop)).drop;⟨rfl,hs⟩))))),?_⟩;rintro _ w12 ⟨rfl,hs⟩ rE;exact ⟨rfl,hs.aD⟩
theorem own:ownKnob Tryz.prog.godebug=none:=by kernel_rfl
theorem KH:xE Tryz.prog 3 Int eD:=RdT.deep (Q4 Tryz.underlying3 (by kernel_rfl)) λ _ _=>rfl
theorem Z5:xE Tryz.prog 28 (List Int) (λ ys:(List Int)=>∀ y∈ys,eD y):=xE.slice Tryz.underlying28 (by kernel_rfl) KH
theorem Z6:xE Tryz.prog 200 gC xG:=λ w=>⟨by kernel_rfl,λ enc base held fuel cs x h=>by
 obtain ⟨hl,n,hp⟩:=nj Tryz.underlying200 h
 obtain ⟨y0,h0⟩:=hp 0 _ rfl
 obtain ⟨y1,h1⟩:=hp 1 _ rfl
 obtain ⟨s0,e0,a0,d0,k0⟩:=(KH w).rd enc base held n _ _ h0
 obtain ⟨s1,e1,a1,d1,k1⟩:=(KH w).rd enc base held n _ _ h1
 obtain rfl:s0=a0:=d0
 obtain rfl:s1=a1:=d1
 have p0:=ey (s:=1) e0
 have p1:=ey (s:=1) e1
 have hz:cs.drop 2=[]:=List.drop_eq_nil_iff.2 (by rw [hl]; exact Nat.le_of_eq (by kernel_rfl))
 refine ⟨(⟨s0,s1⟩:gC),?_,(⟨s0,s1⟩:gC),rfl,k0,k1⟩
 have e:cs=cs.drop 0:=rfl
 rw [e]
 refine p0.trans ?_
 refine ((congrArg _ p1)).trans ?_
 exact (congrArg _ (congrArg _ hz))⟩
theorem T3:xE Tryz.prog 99 (List gC) (λ ys:(List gC)=>∀ y∈ys,xG y):=xE.slice Tryz.underlying99 (by kernel_rfl) Z6
theorem Z7:xE Tryz.prog 129 aV vo:=λ w=>⟨by kernel_rfl,λ enc base held fuel cs x h=>by
 obtain ⟨hl,n,hp⟩:=nj Tryz.underlying129 h
 obtain ⟨y0,h0⟩:=hp 0 _ rfl
 obtain ⟨y1,h1⟩:=hp 1 _ rfl
 obtain ⟨y2,h2⟩:=hp 2 _ rfl
 obtain ⟨y3,h3⟩:=hp 3 _ rfl
 obtain ⟨y4,h4⟩:=hp 4 _ rfl
 obtain ⟨y5,h5⟩:=hp 5 _ rfl
 obtain ⟨s0,e0,a0,d0,k0⟩:=(KH w).rd enc base held n _ _ h0
 obtain ⟨s1,e1,a1,d1,k1⟩:=(KH w).rd enc base held n _ _ h1
 obtain ⟨s2,e2,a2,d2,k2⟩:=(KH w).rd enc base held n _ _ h2
 obtain ⟨s3,e3,a3,d3,k3⟩:=(T3 w).rd enc base held n _ _ h3
 obtain ⟨s4,e4,a4,d4,k4⟩:=(T3 w).rd enc base held n _ _ h4
 obtain ⟨s5,e5,a5,d5,k5⟩:=(KH w).rd enc base held n _ _ h5
 obtain rfl:s0=a0:=d0
 obtain rfl:s1=a1:=d1
 obtain rfl:s2=a2:=d2
 obtain rfl:s5=a5:=d5
 have p0:=ey (s:=1) e0
 have p1:=ey (s:=1) e1
 have p2:=ey (s:=1) e2
 have p3:=ey (s:=1) e3
 have p4:=ey (s:=1) e4
 have p5:=ey (s:=1) e5
 have hz:cs.drop 6=[]:=List.drop_eq_nil_iff.2 (by rw [hl]; exact Nat.le_of_eq (by kernel_rfl))
 refine ⟨(⟨s0,s1,s2,s3,s4,s5⟩:aX),?_,(⟨s0,s1,s2,a3,a4,s5⟩:aV),⟨s3,s4,rfl,d3,d4⟩,k0,k1,k2,k3,k4,k5⟩
 have e:cs=cs.drop 0:=rfl
 rw [e]
 refine p0.trans ?_
 refine ((congrArg _ p1)).trans ?_
 refine ((congrArg _ (congrArg _ p2))).trans ?_
 refine ((congrArg _ (congrArg _ (congrArg _ p3)))).trans ?_
 refine ((congrArg _ (congrArg _ (congrArg _ (congrArg _ p4))))).trans ?_
 refine ((congrArg _ (congrArg _ (congrArg _ (congrArg _ (congrArg _ p5)))))).trans ?_
 exact (congrArg _ (congrArg _ (congrArg _ (congrArg _ (congrArg _ (congrArg _ hz))))))⟩
theorem aer:xE Tryz.prog 31 (List aV) (λ ys:(List aV)=>∀ y∈ys,vo y):=xE.slice Tryz.underlying31 (by kernel_rfl) Z7
theorem Z8:xE Tryz.prog 33 dK um:=λ w=>⟨by kernel_rfl,λ enc base held fuel cs x h=>by
 obtain ⟨hl,n,hp⟩:=nj Tryz.underlying33 h
 obtain ⟨y0,h0⟩:=hp 0 _ rfl
 obtain ⟨y1,h1⟩:=hp 1 _ rfl
 obtain ⟨y2,h2⟩:=hp 2 _ rfl
 obtain ⟨s0,e0,a0,d0,k0⟩:=(KH w).rd enc base held n _ _ h0
 obtain ⟨s1,e1,a1,d1,k1⟩:=(KH w).rd enc base held n _ _ h1
 obtain ⟨s2,e2,a2,d2,k2⟩:=(aer w).rd enc base held n _ _ h2
 obtain rfl:s0=a0:=d0
 obtain rfl:s1=a1:=d1
 have p0:=ey (s:=1) e0
 have p1:=ey (s:=1) e1
 have p2:=ey (s:=1) e2
 have hz:cs.drop 3=[]:=List.drop_eq_nil_iff.2 (by rw [hl]; exact Nat.le_of_eq (by kernel_rfl))
 refine ⟨(⟨s0,s1,s2⟩:aT),?_,(⟨s0,s1,a2⟩:dK),⟨s2,rfl,d2⟩,k0,k1,k2⟩
 have e:cs=cs.drop 0:=rfl
 rw [e]
 refine p0.trans ?_
 refine ((congrArg _ p1)).trans ?_
 refine ((congrArg _ (congrArg _ p2))).trans ?_
 exact (congrArg _ (congrArg _ (congrArg _ hz)))⟩
theorem aes:xE Tryz.prog 30 (List dK) (λ ys:(List dK)=>∀ y∈ys,um y):=xE.slice Tryz.underlying30 (by kernel_rfl) Z8
theorem aet:xE Tryz.prog 34 (List (List gC)) (λ ys:(List (List gC))=>∀ y∈ys,(λ ys:(List gC)=>∀ y∈ys,xG y) y):=xE.slice Tryz.underlying34 (by kernel_rfl) T3
theorem rd36:xE Tryz.prog 36 eh L6:=λ w=>⟨by kernel_rfl,λ enc base held fuel cs x h=>by
 obtain ⟨hl,n,hp⟩:=nj Tryz.underlying36 h
 obtain ⟨y0,h0⟩:=hp 0 _ rfl
 obtain ⟨y1,h1⟩:=hp 1 _ rfl
 obtain ⟨y2,h2⟩:=hp 2 _ rfl
 obtain ⟨y3,h3⟩:=hp 3 _ rfl
 obtain ⟨y4,h4⟩:=hp 4 _ rfl
 obtain ⟨y5,h5⟩:=hp 5 _ rfl
 obtain ⟨y6,h6⟩:=hp 6 _ rfl
 obtain ⟨s0,e0,a0,d0,k0⟩:=(Z5 w).rd enc base held n _ _ h0
 obtain ⟨s1,e1,a1,d1,k1⟩:=(KH w).rd enc base held n _ _ h1
 obtain ⟨s2,e2,a2,d2,k2⟩:=(Z5 w).rd enc base held n _ _ h2
 obtain ⟨s3,e3,a3,d3,k3⟩:=(KH w).rd enc base held n _ _ h3
 obtain ⟨s4,e4,a4,d4,k4⟩:=(aes w).rd enc base held n _ _ h4
 obtain ⟨s5,e5,a5,d5,k5⟩:=(Z8 w).rd enc base held n _ _ h5
 obtain ⟨s6,e6,a6,d6,k6⟩:=(aet w).rd enc base held n _ _ h6
 obtain rfl:s1=a1:=d1
 obtain rfl:s3=a3:=d3
 have p0:=ey (s:=1) e0
 have p1:=ey (s:=1) e1
 have p2:=ey (s:=1) e2
 have p3:=ey (s:=1) e3
 have p4:=ey (s:=1) e4
 have p5:=ey (s:=3) e5
 have p6:=ey (s:=1) e6
 have hz:cs.drop 9=[]:=List.drop_eq_nil_iff.2 (by rw [hl]; exact Nat.le_of_eq (by kernel_rfl))
 refine ⟨(⟨s0,s1,s2,s3,s4,s5,s6⟩:bV),?_,(⟨a0,s1,a2,s3,a4,a5,a6⟩:eh),⟨s0,s2,s4,s5,s6,rfl,d0,d2,d4,d5,d6⟩,k0,k1,k2,k3,k4,k5,k6⟩
 have e:cs=cs.drop 0:=rfl
 rw [e]
 refine p0.trans ?_
 refine ((congrArg _ p1)).trans ?_
 refine ((congrArg _ (congrArg _ p2))).trans ?_
 refine ((congrArg _ (congrArg _ (congrArg _ p3)))).trans ?_
 refine ((congrArg _ (congrArg _ (congrArg _ (congrArg _ p4))))).trans ?_
 refine ((congrArg _ (congrArg _ (congrArg _ (congrArg _ (congrArg _ p5)))))).trans ?_
 refine ((congrArg _ (congrArg _ (congrArg _ (congrArg _ (congrArg _ (congrArg _ p6))))))).trans ?_
 exact (congrArg _ (congrArg _ (congrArg _ (congrArg _ (congrArg _ (congrArg _ (congrArg _ hz)))))))⟩
end Go.Proofs.YtnjcingfdhjfkaaGreat

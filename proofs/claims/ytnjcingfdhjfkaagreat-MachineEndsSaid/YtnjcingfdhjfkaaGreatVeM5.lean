/-
  What the proof needs, part 5.
-/
import Derived.Test.YtnjcingfdhjfkaaGreatVeM4
set_option linter.all false
namespace Go.Proofs.YtnjcingfdhjfkaaGreat
open Go.Fw
set_option maxHeartbeats 4000000 in
theorem C11 (p:cO) (pv:bK) (w:World) (hp:cD.dr w pv p):CR 11 [Flat.val pv] w (λ v w'=>∃ qv:bK,v=Flat.val qv∧mc (eY (λ w=>cD.dr w qv (mW p))) w w'):=by
 obtain ⟨bE,bP,bF,aS,aT,aX,rfl,cH,cU,cI,bR,bO,bY⟩:=hp;have hs:=St.start w;refine agt _ _ _ ?_;unfold S11;refine dE hs (λ kI w1 hs=>aO hs uP (λ me w2 hs=>?_));have hs:=hs.enc (cs':=Flat.enc (⟨⟨none,0,0⟩,⟨none,0,0⟩,⟨none,0,0⟩,⟨none,0,0⟩,⟨none,0,0⟩,⟨none,0,0⟩⟩:bK)) rfl;refine ⟨λ jv w'=>∃ (yR:Nat) (Oc Od Oe Of:SV),jv = .pointer (some ⟨yR,0,none⟩)∧St w bD [cC yR (Flat.enc (⟨⟨none,0,0⟩,Oc,Od,Oe,Of,⟨none,0,0⟩⟩:bK)),bL (Flat.val Oc) (je p.jX),bL (Flat.val Od) (je p.locks),fj (Flat.val Oe) (kB p.threads),fj (Flat.val Of) (kB p.recover),cC kI (Flat.enc (⟨bE,bP,bF,aS,aT,aX⟩:bK)),cC me (Flat.enc (⟨⟨none,0,0⟩,⟨none,0,0⟩,⟨none,0,0⟩,⟨none,0,0⟩,⟨none,0,0⟩,⟨none,0,0⟩⟩:bK))] w',?_,?_⟩
 ·refine aA uO (have hs:=hs.drew;aB jD hs.p1.hb rfl ?_);have apV:=DL.flat (cU);refine aA sg (aB jD hs.p1.hb rfl ?_);have ajr:=DL.flat (cI);refine aA lQ (aB iF hs.p1.hb rfl (aA ph (aB iF hs.p1.hb rfl ?_)));refine ⟨?_,?_⟩
  ·refine dG RK hs (C37 _ _ _ (apV.ext hs.aE)) (λ x8 w3 cA hs=>?_);refine ⟨aG jD (hs.p2.hb.cell rfl),?_⟩;refine ⟨aG iF (hs.p2.hb.cell rfl),?_⟩;refine ⟨aG iF (hs.p2.hb.cell rfl),?_⟩;refine ⟨?_,?_⟩
   ·refine dG RK hs (C37 _ _ _ (ajr.ext hs.aE)) (λ x11 w4 cA hs=>?_);refine ⟨aG iF (hs.p3.hb.cell rfl),?_⟩;refine ⟨aG iF (hs.p3.hb.cell rfl),?_⟩;refine ⟨?_,?_⟩
    ·refine dG HV hs (C38 _ _ _ (bR.ext hs.aE)) (λ x14 w5 cA hs=>?_);refine ⟨aG iF (hs.p4.hb.cell rfl),?_⟩;refine ⟨?_,?_⟩
     ·refine dG HV hs (C38 _ _ _ (bO.ext hs.aE)) (λ x17 w6 cA hs=>?_);obtain ⟨EM,rfl⟩:=(hs.p3).fT;obtain ⟨mn,rfl⟩:=(hs.p2).fT;obtain ⟨oq,rfl⟩:=(hs.p1).lT;obtain ⟨V1,rfl⟩:=(hs).lT;refine pop (m9 _ _ _ _ _ _ _ _ _ _ _ _) (aO hs uP (λ b_q3 w7 hs=>?_));have hs:=hs.enc (cs':=Flat.enc (⟨⟨none,0,0⟩,⟨none,0,0⟩,⟨none,0,0⟩,⟨none,0,0⟩,⟨none,0,0⟩,⟨none,0,0⟩⟩:bK)) rfl;refine ⟨aG jD (hs.p6.hb.cell rfl),?_⟩;refine ⟨aG jD (hs.p6.hb.cell rfl),?_⟩;refine ⟨aG iF (hs.p6.hb.cell rfl),?_⟩;refine ⟨aG iF (hs.p6.hb.cell rfl),?_⟩;refine aI (x:=(⟨⟨none,0,0⟩,EM,mn,oq,V1,⟨none,0,0⟩⟩:bK)) hs gy rfl rfl (λ w8 hs=>?_)
      have hs:=hs.p5.p6.p3.p4.p5.p6.p6;exact ⟨_,_,_,_,_,rfl,hs⟩
     ·refine ⟨?_,?_⟩
      ·refine aO hs uP (λ axE w9 hs=>?_);have hs:=hs.enc (cs':=Flat.enc (⟨⟨none,0,0⟩,⟨none,0,0⟩,⟨none,0,0⟩,⟨none,0,0⟩,⟨none,0,0⟩,⟨none,0,0⟩⟩:bK)) rfl;refine ⟨aG jD (hs.p5.hb.cell rfl),?_⟩;refine ⟨aG jD (hs.p5.hb.cell rfl),?_⟩;refine ⟨aG iF (hs.p5.hb.cell rfl),?_⟩;refine ⟨aG iF (hs.p5.hb.cell rfl),?_⟩;refine dG HV hs (C38 _ _ _ (bO.ext hs.aE)) (λ apW qd cA hs=>?_);obtain ⟨EM,rfl⟩:=(hs.p4).fT;obtain ⟨mn,rfl⟩:=(hs.p3).fT;obtain ⟨oq,rfl⟩:=(hs.p2).lT;obtain ⟨LF,rfl⟩:=(hs).lT;refine pop (m9 _ _ _ _ _ _ _ _ _ _ _ _) (aI (x:=(⟨⟨none,0,0⟩,EM,mn,oq,LF,⟨none,0,0⟩⟩:bK)) hs.p1 gy rfl rfl (λ tG hs=>?_))
       have hs:=hs.p5.p6.p3.p4.p5.p6.p6;exact ⟨_,_,_,_,_,rfl,hs⟩
      ·trivial
    ·refine ⟨?_,?_⟩
     ·refine aO hs uP (λ axF vt hs=>?_);have hs:=hs.enc (cs':=Flat.enc (⟨⟨none,0,0⟩,⟨none,0,0⟩,⟨none,0,0⟩,⟨none,0,0⟩,⟨none,0,0⟩,⟨none,0,0⟩⟩:bK)) rfl;refine ⟨aG jD (hs.p4.hb.cell rfl),?_⟩;refine ⟨aG jD (hs.p4.hb.cell rfl),?_⟩;refine ⟨aG iF (hs.p4.hb.cell rfl),?_⟩;refine ⟨aG iF (hs.p4.hb.cell rfl),?_⟩;refine dG HV hs (C38 _ _ _ (bR.ext hs.aE)) (λ x14_1 uU cA hs=>?_);refine ⟨aG iF (hs.p5.hb.cell rfl),?_⟩;refine dG HV hs (C38 _ _ _ (bO.ext hs.aE)) (λ apX sw cA hs=>?_);obtain ⟨EM,rfl⟩:=(hs.p4).fT;obtain ⟨mn,rfl⟩:=(hs.p3).fT;obtain ⟨V2,rfl⟩:=(hs.p1).lT
      obtain ⟨LG,rfl⟩:=(hs).lT;refine pop (m9 _ _ _ _ _ _ _ _ _ _ _ _) (aI (x:=(⟨⟨none,0,0⟩,EM,mn,V2,LG,⟨none,0,0⟩⟩:bK)) hs.p2 gy rfl rfl (λ wc hs=>?_));have hs:=hs.p5.p6.p3.p4.p5.p6.p6;exact ⟨_,_,_,_,_,rfl,hs⟩
     ·trivial
   ·refine ⟨?_,?_⟩
    ·refine aO hs uP (λ axG ze hs=>?_);have hs:=hs.enc (cs':=Flat.enc (⟨⟨none,0,0⟩,⟨none,0,0⟩,⟨none,0,0⟩,⟨none,0,0⟩,⟨none,0,0⟩,⟨none,0,0⟩⟩:bK)) rfl;refine ⟨aG jD (hs.p3.hb.cell rfl),?_⟩;refine ⟨aG jD (hs.p3.hb.cell rfl),?_⟩;refine ⟨aG iF (hs.p3.hb.cell rfl),?_⟩;refine ⟨aG iF (hs.p3.hb.cell rfl),?_⟩;refine dG RK hs (C37 _ _ _ (ajr.ext hs.aE)) (λ x11_1 Cn cA hs=>?_);refine ⟨aG iF (hs.p4.hb.cell rfl),?_⟩;refine ⟨aG iF (hs.p4.hb.cell rfl),?_⟩;refine dG HV hs (C38 _ _ _ (bR.ext hs.aE)) (λ x14_2 Iy cA hs=>?_);refine ⟨aG iF (hs.p5.hb.cell rfl),?_⟩
     refine dG HV hs (C38 _ _ _ (bO.ext hs.aE)) (λ x17_3 JG cA hs=>?_);obtain ⟨EM,rfl⟩:=(hs.p4).fT;obtain ⟨V3,rfl⟩:=(hs.p2).fT;obtain ⟨V4,rfl⟩:=(hs.p1).lT;obtain ⟨V5,rfl⟩:=(hs).lT;refine pop (m9 _ _ _ _ _ _ _ _ _ _ _ _) (aI (x:=(⟨⟨none,0,0⟩,EM,V3,V4,V5,⟨none,0,0⟩⟩:bK)) hs.p3 gy rfl rfl (λ KR hs=>?_));have hs:=hs.p5.p6.p3.p4.p5.p6.p6;exact ⟨_,_,_,_,_,rfl,hs⟩
    ·trivial
  ·refine ⟨?_,?_⟩
   ·refine aO hs uP (λ axH MN hs=>?_);have hs:=hs.enc (cs':=Flat.enc (⟨⟨none,0,0⟩,⟨none,0,0⟩,⟨none,0,0⟩,⟨none,0,0⟩,⟨none,0,0⟩,⟨none,0,0⟩⟩:bK)) rfl;refine ⟨aG jD (hs.p2.hb.cell rfl),?_⟩;refine ⟨aG jD (hs.p2.hb.cell rfl),?_⟩;refine ⟨aG iF (hs.p2.hb.cell rfl),?_⟩;refine ⟨aG iF (hs.p2.hb.cell rfl),?_⟩;refine dG RK hs (C37 _ _ _ (apV.ext hs.aE)) (λ x8_1 Qw cA hs=>?_);refine ⟨aG jD (hs.p3.hb.cell rfl),?_⟩;refine ⟨aG iF (hs.p3.hb.cell rfl),?_⟩;refine ⟨aG iF (hs.p3.hb.cell rfl),?_⟩;refine dG RK hs (C37 _ _ _ (ajr.ext hs.aE)) (λ x11_2 Tl cA hs=>?_)
    refine ⟨aG iF (hs.p4.hb.cell rfl),?_⟩;refine ⟨aG iF (hs.p4.hb.cell rfl),?_⟩;refine dG HV hs (C38 _ _ _ (bR.ext hs.aE)) (λ x14_3 VK cA hs=>?_);refine ⟨aG iF (hs.p5.hb.cell rfl),?_⟩;refine dG HV hs (C38 _ _ _ (bO.ext hs.aE)) (λ x17_4 Se cA hs=>?_);obtain ⟨CP,rfl⟩:=(hs.p3).fT;obtain ⟨V6,rfl⟩:=(hs.p2).fT;obtain ⟨V7,rfl⟩:=(hs.p1).lT;obtain ⟨V8,rfl⟩:=(hs).lT;refine pop (m9 _ _ _ _ _ _ _ _ _ _ _ _) (aI (x:=(⟨⟨none,0,0⟩,CP,V6,V7,V8,⟨none,0,0⟩⟩:bK)) hs.p4 gy rfl rfl (λ w26 hs=>?_));have hs:=hs.p5.p6.p3.p4.p5.p6.p6
    exact ⟨_,_,_,_,_,rfl,hs⟩
   ·trivial
 ·rintro _ w27 ⟨yR,Oc,Od,Oe,Of,rfl,hs⟩ fu;have hs:=((((((((hs.xO (α:=(List dH))).p7).p7).p7).p7).p7).p7).p6).p7;refine ⟨λ m x w1=>∃ (k:Nat) (sl:SV),x = .int .i64 (k:Int)∧m=6 - k∧k≤6∧k≤p.lines.length∧St w bD [cC yR (Flat.enc (⟨sl,Oc,Od,Oe,Of,⟨none,0,0⟩⟩:bK)),fj (Flat.val sl) ((p.lines.take k).map je),bL (Flat.val Oc) (je p.jX),bL (Flat.val Od) (je p.locks),fj (Flat.val Oe) (kB p.threads),fj (Flat.val Of) (kB p.recover),cC kI (Flat.enc (⟨bE,bP,bF,aS,aT,aX⟩:bK)),cC me (Flat.enc (⟨⟨none,0,0⟩,⟨none,0,0⟩,⟨none,0,0⟩,⟨none,0,0⟩,⟨none,0,0⟩,⟨none,0,0⟩⟩:bK))] w1,⟨_,0,⟨none,0,0⟩,rfl,rfl,by omega,by omega,hs⟩,?_⟩
  rintro m _ w28 ⟨k,sl,rfl,rfl,hk,JF,hs⟩ jz;have IW:((p.lines.take k).map je).length=k:=by rw [List.length_map,List.length_take]; omega
  refine ⟨λ jv w'=>jv = .bool (decide (k<p.lines.length∧k<6))∧St w bD [cC yR (Flat.enc (⟨sl,Oc,Od,Oe,Of,⟨none,0,0⟩⟩:bK)),fj (Flat.val sl) ((p.lines.take k).map je),bL (Flat.val Oc) (je p.jX),bL (Flat.val Od) (je p.locks),fj (Flat.val Oe) (kB p.threads),fj (Flat.val Of) (kB p.recover),cC kI (Flat.enc (⟨bE,bP,bF,aS,aT,aX⟩:bK)),cC me (Flat.enc (⟨⟨none,0,0⟩,⟨none,0,0⟩,⟨none,0,0⟩,⟨none,0,0⟩,⟨none,0,0⟩,⟨none,0,0⟩⟩:bK))] w',?_,?_⟩
  ·refine aA jx (aB r8 hs.p6.hb rfl ?_);obtain ⟨ts70,axI,axJ⟩:=(cH).open;have hn70:=axJ.1;refine aJ vE (axI.ext hs.aE) (aR (aC (λ iU=>?_) (λ iU=>?_)))
   ·refine aR ?_;exact ⟨vb (by grind),hs⟩
   ·exact ⟨vb (by grind),hs⟩
  ·rintro _ w29 ⟨rfl,hs⟩ oG;refine aY (λ gn=>?_) (λ gn=>?_)
   ·have hc27:k<p.lines.length∧k<6:=by simpa using gn
    refine aA jx (have hs:=hs.drew;aB (v:=Flat.val (sl:SV)) r8 hs.hb rfl (aA jx (aB r8 hs.p6.hb rfl ?_)));obtain ⟨axK,axL,apY⟩:=(cH).open;have hn71:=apY.1;obtain ⟨apZ,V9⟩:=gx axK (i:=((k:Int)).toNat) (by omega);obtain ⟨Wa,Wb⟩:=gx ((p).lines) (i:=((k:Int)).toNat) (by omega);have ap0:DL w (Flat.val apZ) Wa:=apY.2 _ _ _ V9 Wb;refine aQ vE axL (by omega) V9 (λ _ zS=>aD jD (zS.ext hs.aE) ?_);have axM:=DL.flat (ap0);refine dG RK hs (C37 _ _ _ (axM.ext hs.aE)) (λ x37 w30 cA hs=>?_);refine ⟨aG r8 (hs.p1.hb.cell rfl),?_⟩;obtain ⟨oZ,rfl⟩:=(hs).fT
    have hs:=hs.freeze.dQ (Ψ:=λ w=>cD.dr w oZ ((je Wa))) (λ w h=>DL.fp h);refine eF (s:=oZ) (x:=(je Wa)) hs vE (by decide) (λ afb w31 hs=>?_);refine ⟨aG r8 (hs.p1.hb.cell rfl),?_⟩;have hs:=hs.p2;refine dY hs vE (by rw [IW,List.length_singleton]; omega) (by decide) (λ afj w32 hs=>aA jx ?_);obtain ⟨yP,rfl⟩:=(hs).lT;refine aV hs.p1 r8 (eE rfl) (rfl) (λ w33 hs=>have hs:=hs.enc (cs':=Flat.enc (⟨yP,Oc,Od,Oe,Of,⟨none,0,0⟩⟩:bK)) rfl;aN (by omega) ?_);have hs:=hs.p7.p7.p7.p7.p7.p7.p7.p7;exact ⟨_,by omega,k+1,yP,rfl,rfl,by omega,by omega,by rw [← iV (k:=k) Wb]; exact hs⟩
   ·rw [rI (xs:=p.lines) (k:=k) (m:=6) (by omega) (by omega) (of_decide_eq_false gn)] at hs;have hs:=(((((((((hs.xO (α:=jE)).p8).p8).p8).p8).p8).p8).p8).p7).p8;refine ⟨λ m x w1=>∃ (j:Nat) (sc:SV),x = .int .i64 (j:Int)∧m=6 - j∧j≤6∧j≤p.cB.length∧St w bD [cC yR (Flat.enc (⟨sl,Oc,Od,Oe,Of,sc⟩:bK)),fj (Flat.val sc) ((p.cB.take j).map EE),fj (Flat.val sl) ((p.lines.take 6).map je),bL (Flat.val Oc) (je p.jX),bL (Flat.val Od) (je p.locks),fj (Flat.val Oe) (kB p.threads),fj (Flat.val Of) (kB p.recover),cC kI (Flat.enc (⟨bE,bP,bF,aS,aT,aX⟩:bK)),cC me (Flat.enc (⟨⟨none,0,0⟩,⟨none,0,0⟩,⟨none,0,0⟩,⟨none,0,0⟩,⟨none,0,0⟩,⟨none,0,0⟩⟩:bK))] w1,⟨_,0,⟨none,0,0⟩,rfl,rfl,by omega,by omega,hs⟩,?_⟩
    rintro m _ w34 ⟨j,sc,rfl,rfl,hj,hj2,hs⟩ GR;have ajp:((p.cB.take j).map EE).length=j:=by rw [List.length_map,List.length_take]; omega
    refine ⟨λ jv w'=>jv = .bool (decide (j<p.cB.length∧j<6))∧St w bD [cC yR (Flat.enc (⟨sl,Oc,Od,Oe,Of,sc⟩:bK)),fj (Flat.val sc) ((p.cB.take j).map EE),fj (Flat.val sl) ((p.lines.take 6).map je),bL (Flat.val Oc) (je p.jX),bL (Flat.val Od) (je p.locks),fj (Flat.val Oe) (kB p.threads),fj (Flat.val Of) (kB p.recover),cC kI (Flat.enc (⟨bE,bP,bF,aS,aT,aX⟩:bK)),cC me (Flat.enc (⟨⟨none,0,0⟩,⟨none,0,0⟩,⟨none,0,0⟩,⟨none,0,0⟩,⟨none,0,0⟩,⟨none,0,0⟩⟩:bK))] w',?_,?_⟩
    ·refine aA kR (aB sY hs.p7.hb rfl ?_);obtain ⟨ts73,axN,axO⟩:=(bY).open;have hn73:=axO.1;refine aJ yB (axN.ext hs.aE) (aR (aC (λ kL=>?_) (λ kL=>?_)))
     ·refine aR ?_;exact ⟨vb (by grind),hs⟩
     ·exact ⟨vb (by grind),hs⟩
    ·rintro _ w35 ⟨rfl,hs⟩ R7;refine aY (λ vx=>?_) (λ vx=>?_)
     ·have hc49:j<p.cB.length∧j<6:=by simpa using vx
      refine aA kR (have hs:=hs.drew;aB (v:=Flat.val (sc:SV)) sY hs.hb rfl (aA kR (aB sY hs.p7.hb rfl ?_)));obtain ⟨axP,ap1,ap2⟩:=(bY).open;have hn74:=ap2.1;obtain ⟨QB,vd⟩:=gx axP (i:=((j:Int)).toNat) (by omega);obtain ⟨vy,yO⟩:=gx ((p).cB) (i:=((j:Int)).toNat) (by omega);obtain ⟨acK,rfl,acL⟩:=ap2.2 _ _ _ vd yO;refine aQ yB ap1 (by omega) vd (λ _ Ab=>bT acK CI Ab rfl rfl (λ _ Ac=>aD mY (Ac.ext hs.aE) ?_));have axQ:=DL.flat (acL);refine aA kR (aB sY hs.p7.hb rfl (aQ yB ap1 (by omega) vd (λ _ Ef=>bT (vy).at_ PW Ef rfl rfl (λ _ yl=>aD bN (yl.ext hs.aE) (dG aho hs (C39 _ _ _ (axQ.ext hs.aE)) (λ x60 w36 cA hs=>?_))))))
      refine ⟨aG sY (hs.p1.hb.cell rfl),?_⟩;refine ⟨aG sY (hs.p8.hb.cell rfl),?_⟩;refine ⟨fP bN (yl.ext hs.aE),?_⟩;obtain ⟨By,rfl⟩:=(hs).fT;refine pop (GC _ _ _ _) (have hs:=hs.freeze.dQ (Ψ:=(λ w=>cD.dr w (⟨By,(vy).at_⟩:lU) (⟨(xR (vy).e),(vy).at_⟩:jE))) (λ w h=>⟨_,rfl,DL.fp h⟩);eF (s:=(⟨By,(vy).at_⟩:lU)) (x:=(⟨(xR (vy).e),(vy).at_⟩:jE)) hs yB (by decide) (λ s_x68 w37 hs=>?_));refine ⟨aG sY (hs.p1.hb.cell rfl),?_⟩;have hs:=hs.p2;refine dY hs yB (by rw [ajp,List.length_singleton]; omega) (by decide) (λ s_x69 w38 hs=>aA kR ?_)
      obtain ⟨Wc,rfl⟩:=(hs).lT;refine aV hs.p1 sY (eE rfl) (rfl) (λ Yr hs=>have hs:=hs.enc (cs':=Flat.enc (⟨sl,Oc,Od,Oe,Of,Wc⟩:bK)) rfl;aN (by omega) ?_);have hs:=hs.p8.p8.p8.p8.p8.p8.p8.p8.p8;exact ⟨_,by omega,j+1,Wc,rfl,rfl,by omega,by omega,by rw [← iV (k:=j) yO]; exact hs⟩
     ·refine aD gy hs.At (aI (x:=(⟨sl,Oc,Od,Oe,Of,sc⟩:bK)) hs.p8 gy rfl rfl (λ w40 hs=>aD gy hs.At ?_));rw [rI (xs:=p.cB) (k:=j) (m:=6) (by omega) (by omega) (of_decide_eq_false vx)] at hs;have hs:=hs.p3.jP.p4.freeze.p1.fK.p4.freeze.p1.fK.p4.jP.p1.fK.p4.jP.p1.fK;have hs:=hs.p3.jP.p1.fK.dQ (Ψ:=(λ w=>cD.dr w (⟨sl,Oc,Od,Oe,Of,sc⟩:bK) (⟨((p.lines.take 6).map je),(je p.jX),(je p.locks),(kB p.threads),(kB p.recover),((p.cB.take 6).map EE)⟩:cO))) (λ w h=>⟨_,_,_,_,_,_,rfl,h.1.1.1.1.1,DL.fp h.1.1.1.1.2,DL.fp h.1.1.1.2,h.1.1.2,h.1.2,h.2⟩)
      have hs:=(((hs.p1.drop.p1).drop).p1).drop;exact ⟨_,rfl,hs.fresh⟩
def LH (n many:Int):Bool:=decide (0≤n) && decide (n<many)
def sG (k:Int):Bool:=decide (k=1) || decide (k=3) || decide (k=4) || decide (k=12) || decide (k=15)
def aM (x:aW) (aK counts:Int):Bool:=if x.kind=13∨x.kind=14 then LH x.a counts else if x.kind=1∨x.kind=2∨x.kind=4 then LH x.a aK else decide (x.a=0)
def bM (x:aW) (cells lines locks:Int):Bool:=if x.kind=2∨x.kind=3∨x.kind=4 then LH x.b cells else if x.kind=5∨x.kind=6 then LH x.b lines else if x.kind=9∨x.kind=10 then LH x.b locks else if x.kind=13 then decide (1≤x.b) && decide (x.b≤8) else decide (x.b=0)
def efM (x:aW) (aK:Int):Bool:=(if sG x.kind=true then eG x.e aK else !decide (0<(x.e.length:Int))) && (if x.kind=4 then eG x.f aK else !decide (0<(x.f.length:Int)))
def ve (x:aW) (c:fm) (cells lines locks:Int):Bool:=efM x c.aK && (decide (1≤x.kind) && decide (x.kind≤15) && aM x c.aK c.counts && bM x cells lines locks)
def sH (y:aW) (a:Int):Bool:=decide (y.kind=13) && decide (y.a=a)
def btM (l:List aW) (i:Nat) (x:aW):Bool:=decide (1≤x.to) && decide (x.to≤i) && (match l[(x.to - 1).toNat]? with | some y=>sH y x.a | none=>false)
theorem Wd {l:List aW} {i:Nat} {x y:aW} (h1:1≤x.to) (h2:x.to≤i) (h:l[(x.to - 1).toNat]? = some y):btM l i x=sH y x.a:=by unfold btM; rw [h,decide_eq_true h1,decide_eq_true h2]; rfl
theorem LI {l:List aW} {i:Nat} {x:aW} (h:x.to<1∨(i:Int)<x.to):btM l i x=false:=by
 unfold btM
 rcases h with h | h
 ·rw [decide_eq_false (show ¬ 1≤x.to by omega)]; rfl
 ·rw [decide_eq_false (show ¬ x.to≤(i:Int) by omega)]; simp
theorem ap3 {l:List aW} {i:Nat} {x:aW} (h:btM l i x=true):1≤x.to∧x.to≤i:=by
 by_cases h1:x.to<1∨(i:Int)<x.to
 ·rw [LI h1] at h; cases h
 ·omega
def B5 (l:List aW) (i:Nat) (x:aW):Bool:=btM l i x && !((l.take i).drop x.to.toNat).any (λ y=>sH y x.a)
def IY (l:List aW) (i:Nat) (x:aW):Bool:=if x.kind=11∨x.kind=12 then decide ((i:Int)<x.to) && decide (x.to≤l.length) else if x.kind=14 then B5 l i x else decide (x.to=0)
def vf (c:fm) (cells lines locks:Int) (i:Nat):Bool:=match c.l[i]? with | some x=>!ve x c cells lines locks || !IY c.l i x | none=>false
def vg (l:List aW) (x:aW) (k:Nat):Bool:=match l[k]? with | some y=>decide (y.kind=14) && !(decide (x.to≤y.to) || decide ((k:Int)+1<x.to)) | none=>false
def qG (l:List aW) (i:Nat):Bool:=match l[i]? with | some x=>decide (x.kind=14) && (List.range i).any (vg l x) | none=>false
def vh (c:fm):Bool:=decide (c.aK<0) || decide (4<c.aK) || decide (c.counts<0) || decide (12<c.counts)
def lC (c:fm) (cells lines locks:Int):Bool:=!vh c && !(List.range c.l.length).any (vf c cells lines locks) && !(List.range c.l.length).any (qG c.l)
def gu (u:iz):Int:=if 1≤u.stays∧u.stays≤u.lines.length then u.lines.getD (u.stays - 1).toNat 0+1 else 0
def lD (l:List Int) (i:Nat):Int:=if i=0 then 0 else l.getD (i - 1) 0+1
def kh (u:iz) (i:Nat):Bool:=match u.lines[i]? with | some n=>decide (¬ n=lD u.lines i) && (decide (i=0) || decide (u.stays≤i) || decide (¬ n=lD u.lines i - 1)) | none=>false
def lE (n:Int):Bool:=decide (n<0) || decide (4294967296<n)
def kW (u:iz):Bool:=decide (20<(u.lines.length:Int)) || decide (u.stays<0) || decide ((u.lines.length:Int)<u.stays) || decide (¬ (u.dC.length:Int)=u.lines.length) || decide (u.locks<0) || decide (2<u.locks) || decide ((u.threads.length:Int)<1) || decide (3<(u.threads.length:Int))
def nx (u:iz):Bool:=!kW u && (!u.dC.any lE && !(List.range u.lines.length).any (kh u) && !u.threads.any (λ c=>!lC c u.lines.length (gu u) u.locks) && !u.cB.any (λ l=>!eG l u.stays) && lC u.recover u.lines.length (gu u) u.locks)
structure CZ (c:fm):Prop where
 l:c.l.length≤1000
 ef:∀ x∈c.l,x.e.length≤1000∧x.f.length≤1000
structure UZ (u:iz):Prop where
 lines:u.lines.length≤1000
 dC:u.dC.length≤1000
 threads:u.threads.length≤1000
 cB:u.cB.length≤1000
 th:∀ c∈u.threads,CZ c
 rc:CZ u.recover
 cl:∀ l∈u.cB,l.length≤1000
theorem uo {c:fm} {cells lines locks:Int} {i:Nat} {x:aW} (h:c.l[i]? = some x):vf c cells lines locks i=(!ve x c cells lines locks || !IY c.l i x):=by unfold vf; rw [h]
theorem Am {l:List aW} {x y:aW} {k:Nat} (h:l[k]? = some y):vg l x k=(decide (y.kind=14) && !(decide (x.to≤y.to) || decide ((k:Int)+1<x.to))):=by unfold vg; rw [h]
theorem xr {l:List aW} {i:Nat} {x:aW} (h:l[i]? = some x):qG l i=(decide (x.kind=14) && (List.range i).any (vg l x)):=by unfold qG; rw [h]
theorem acN {l:List aW} {i:Nat} {x:aW} (h:B5 l i x=true):1≤x.to∧x.to≤i:=by unfold B5 at h; rw [Bool.and_eq_true] at h; exact ap3 h.1
theorem We {l:List aW} {i:Nat} {x:aW} (hk:x.kind=14) (h:IY l i x=true):1≤x.to∧x.to≤i:=by
 unfold IY at h; rw [if_neg (by omega),if_pos hk] at h; exact acN h
theorem Wf {l:List aW} {i:Nat} {x:aW} (h:btM l i x=false):B5 l i x=false:=by unfold B5; rw [h]; rfl
theorem GZ {f:Nat→Bool} {n:Nat} (h:(List.range n).any f=false):∀ j,j<n→f j=false:=λ j hj=>by
 rw [List.any_eq_false] at h
 have:=h j (List.mem_range.2 hj)
 simpa using this
theorem EN {u:iz} {k:Nat} (h:∀ j,j<k→kh u j=false):∀ j n,j<k→u.lines[j]? = some n→-1≤n∧n≤j
 | 0,n,hj,hn=>by
  have:=h 0 hj
  unfold kh lD at this
  rw [hn] at this
  simp at this
  omega
 | j+1,n,hj,hn=>by
  have mE:=(List.getElem?_eq_some_iff.1 hn).1
  obtain ⟨m,hm⟩:∃ m,u.lines[j]? = some m:=⟨_,List.getElem?_eq_getElem (by omega)⟩
  have ih:=EN h j m (by omega) hm
  have:=h (j+1) hj
  unfold kh lD at this
  rw [hn] at this
  simp only [Nat.add_one_ne_zero,if_false,Nat.add_sub_cancel,List.getD_eq_getElem?_getD,hm,Option.getD_some,decide_false,Bool.false_or,Bool.and_eq_false_iff,decide_eq_false_iff_not,Bool.or_eq_false_iff,Decidable.not_not] at this
  omega
theorem G0 {u:iz} {k:Nat} {n:Int} (h:u.lines[k]? = some n):kh u k=(decide (¬ n=lD u.lines k) && (decide ((k:Int)=0) || decide (u.stays≤k) || decide (¬ n=lD u.lines k - 1))):=by
 unfold kh; rw [h]; simp only []
 congr 2
 congr 1
 exact decide_eq_decide.2 (by omega)
theorem LJ {u:iz} (h:∀ j,j<u.lines.length→kh u j=false):∀ n∈u.lines,-1≤n∧n≤(u.lines.length:Int):=by
 intro n hn
 obtain ⟨j,hj,he⟩:=List.mem_iff_getElem.1 hn
 have:=EN h j n hj (by rw [List.getElem?_eq_getElem hj,he])
 omega
theorem Og {u:iz} (h:kW u=false):u.lines.length≤20∧0≤u.stays∧u.stays≤u.lines.length∧u.dC.length=u.lines.length∧0≤u.locks∧u.locks≤2∧1≤u.threads.length∧u.threads.length≤3:=by
 unfold kW at h
 simp only [Bool.or_eq_false_iff,decide_eq_false_iff_not] at h
 omega
def ajt:List ByteArray:=[⟨#[]⟩,⟨#[114,101]⟩,⟨#[114,99]⟩,⟨#[99,101]⟩,⟨#[114,99,101,102]⟩,⟨#[108]⟩,⟨#[108]⟩,⟨#[]⟩,⟨#[]⟩,⟨#[109]⟩,⟨#[109]⟩,⟨#[116]⟩,⟨#[101,116]⟩,⟨#[107,110]⟩,⟨#[107,116]⟩,⟨#[101]⟩]
def aju:Array Value:=#[.string ⟨#[]⟩,.string ⟨#[114,101]⟩,.string ⟨#[114,99]⟩,.string ⟨#[99,101]⟩,.string ⟨#[114,99,101,102]⟩,.string ⟨#[108]⟩,.string ⟨#[108]⟩,.string ⟨#[]⟩,.string ⟨#[]⟩,.string ⟨#[109]⟩,.string ⟨#[109]⟩,.string ⟨#[116]⟩,.string ⟨#[101,116]⟩,.string ⟨#[107,110]⟩,.string ⟨#[107,116]⟩,.string ⟨#[101]⟩]
def hasB (k c:Int):Bool:=ej (ajt.getD k.toNat ⟨#[]⟩) c
theorem ot {k:Int} (h:1≤k∧k≤15):hasB k 114=decide (k=1∨k=2∨k=4)∧hasB k 107=decide (k=13∨k=14)∧hasB k 99=decide (k=2∨k=3∨k=4)∧hasB k 108=decide (k=5∨k=6)∧hasB k 109=decide (k=9∨k=10)∧hasB k 110=decide (k=13)∧hasB k 101=sG k∧hasB k 102=decide (k=4)∧hasB k 116=decide (k=11∨k=12∨k=14):=by
 obtain rfl | rfl | rfl | rfl | rfl | rfl | rfl | rfl | rfl | rfl | rfl | rfl | rfl | rfl | rfl:k=1∨k=2∨k=3∨k=4∨k=5∨k=6∨k=7∨k=8∨k=9∨k=10∨k=11∨k=12∨k=13∨k=14∨k=15:=by omega
 all_goals decide
def k14 (l:List aW) (i:Nat):Bool:=match l[i]? with | some x=>decide (x.kind=14) | none=>false
def ou (l:List aW) (k:Nat):List Int:=((List.range k).filter (k14 l)).map (fun (n:Nat)=>(n:Int))
theorem G3 (l:List aW) (k:Nat):(ou l k).length≤k:=by
 unfold ou
 rw [List.length_map]
 have:=List.length_filter_le (k14 l) (List.range k)
 rw [List.length_range] at this; exact this
theorem Wg {l:List aW} {k:Nat} {x:aW} (h:l[k]? = some x) (hk:¬ x.kind=14):ou l k=ou l (k+1):=by
 have:k14 l k=false:=by unfold k14; rw [h]; exact decide_eq_false hk
 unfold ou; rw [List.range_succ,List.filter_append,List.filter_cons_of_neg (by rw [this]; decide),List.filter_nil,List.append_nil]
theorem Sf {l:List aW} {k:Nat} {x:aW} (h:l[k]? = some x) (hk:x.kind=14):ou l k++[(k:Int)]=ou l (k+1):=by
 have:k14 l k=true:=by unfold k14; rw [h]; exact decide_eq_true hk
 unfold ou; rw [List.range_succ,List.filter_append,List.filter_cons_of_pos this,List.filter_nil,List.map_append]; rfl
theorem Sg {l:List aW} {k:Nat} {e:Int} (h:e∈ou l k):∃ j:Nat,e=j∧j<k∧∃ y,l[j]? = some y∧y.kind=14:=by
 unfold ou at h
 obtain ⟨j,hj,rfl⟩:=List.mem_map.1 h
 obtain ⟨h1,h2⟩:=List.mem_filter.1 hj
 refine ⟨j,rfl,List.mem_range.1 h1,?_⟩
 unfold k14 at h2
 cases hy:l[j]? with
 | none=>rw [hy] at h2; cases h2
 | some y=>rw [hy] at h2; exact ⟨y,rfl,of_decide_eq_true h2⟩
theorem Wh {l:List aW} {k:Nat} {x:aW} (h:∀ e∈ou l k,vg l x e.toNat=false):(List.range k).any (vg l x)=false:=by
 refine nf λ j hj=>?_
 cases hy:l[j]? with
 | none=>unfold vg; rw [hy]
 | some y=>
  by_cases hk:y.kind=14
  ·exact h (j:Int) (List.mem_map.2 ⟨j,List.mem_filter.2 ⟨List.mem_range.2 hj,by unfold k14; rw [hy]; exact decide_eq_true hk⟩,rfl⟩)
  ·rw [Am hy,decide_eq_false hk]; rfl
def afl (l:List aW):Prop:=∀ (i:Nat) (x:aW),l[i]? = some x→x.kind=14→1≤x.to∧x.to≤i
theorem List.fq {α:Type} {l l':List α} {f g:α→Bool} (h:l=l') (h2:∀ x,f x=g x):l.any f=l'.any g:=by subst h; rw [funext h2]
theorem C178 (w:World):CR 178 [] w (λ v w'=>v = .agg aju∧Ext w w'):=by
 have hs:=St.start w;refine ZS _ _ ?_;unfold S178;refine aO hs abm (λ avQ w1 hs=>pop (ma _ _ _ _ _ _ _ _ _ _ _ _ _) (pC hs aeO rfl (by decide) (by simp [r7,ib]) (λ w2 hs=>qV aeO hs.hb rfl ?_)));exact ⟨rfl,hs.drop.aE⟩
theorem C179 (p:Bool) (n many:Int) (w:World):CR 179 [.bool p,.int .i64 n,.int .i64 many] w (λ v w'=>v = .bool (if p=true then LH n many else decide (n=0))∧Ext w w'):=by
 have hs:=St.start w;refine ZT _ _ _ _ _ ?_;unfold S179;refine bZ (aY (λ gi=>?_) (λ gi=>?_))
 ·refine aH ?_;refine ⟨vb ?_,hs.aE⟩
  grind
 ·refine ⟨λ jv w'=>jv = .bool (LH n many)∧St w bD [] w',?_,?_⟩
  ·refine dI (aC (λ jB=>?_) (λ jB=>?_))
   ·refine aR ?_;exact ⟨vb (by unfold LH; grind),hs⟩
   ·exact ⟨vb (by unfold LH; grind),hs⟩
  ·rintro _ w1 ⟨rfl,hs⟩ fu;refine ⟨vb ?_,hs.aE⟩
   grind
theorem C220 (sv:Value) (xs:List UInt8) (c:Int) (w:World) (hL:eL (λ _=>True) w sv xs) (hn:xs.length≤1048576):CR 220 [sv,.int .u8 c] w (λ v w'=>v = .int .i64 (uV (λ y=>decide (c=(y.toNat:Int))) xs)∧Ext w w'):=by
 have hs:=St.start w;refine aar _ _ _ _ ?_;unfold S220;refine aJ aeN (hL.ext hs.aE) ?_;refine ⟨λ m x w1=>∃ k:Nat,x = .int .i64 (k:Int)∧m=xs.length - k∧k≤xs.length∧(∀ y∈xs.take k,decide (c=(y.toNat:Int))=false)∧St w bD [] w1,⟨_,0,rfl,rfl,Nat.zero_le _,by simp,hs⟩,?_⟩;rintro m _ w1 ⟨k,rfl,rfl,hk,fQ,hs⟩ fu;refine aR (aC (λ gr=>?_) (λ gr=>?_))
 ·obtain ⟨js,dD⟩:=gx (xs) (i:=((k:Int)).toNat) (by omega);refine aQ aeN hL (by omega) dD (λ _ iT=>aD ty5 (iT.ext hs.aE) (nY (aC (λ eM=>?_) (λ eM=>?_))))
  ·exact ⟨congrArg (Value.int .i64) (pq fQ dD (decide_eq_true eM)).symm,hs.aE⟩
  ·refine aN (by omega) ?_;exact ⟨_,by omega,k+1,rfl,rfl,by omega,ew fQ dD (decide_eq_false eM),hs⟩
 ·exact ⟨congrArg (Value.int .i64) (ku (by rw [List.take_of_length_le (by omega)] at fQ; exact fQ)).symm,hs.aE⟩
theorem C177 (sv:Value) (xs:List UInt8) (c:Int) (w:World) (hL:eL (λ _=>True) w sv xs) (hn:xs.length≤1048576):CR 177 [sv,.int .u8 c] w (λ v w'=>v = .bool (xs.any (λ y=>decide (c=(y.toNat:Int))))∧Ext w w'):=by
 have hs:=St.start w;refine ZR _ _ _ _ ?_;unfold S177;refine aZ ano hs (C220 _ _ _ _ (hL.ext hs.aE) (by omega)) (λ w1 he hs=>dI ?_);exact ⟨vb (n8 _ _),hs.aE⟩
theorem C176 (k c:Int) (b1:Nat) (Q:Bool) (w:World) (hc:Cell w b1 0 (.int .i64 k)) (hk:1≤k∧k≤15) (hQ:hasB k c=Q):CR 176 [.int .u8 c,.pointer (some ⟨b1,0,none⟩)] w (λ v w'=>v = .bool Q∧Ext w w'):=by
 have hs:=St.start w;refine ZQ _ _ _ _ ?_;unfold S176;refine aA jn (have hs:=hs.drew;cG bN (hc.ext hs.aE) (aZ am1 hs (C178 _) (λ w1 he hs=>?_)));refine ⟨aG bN (hc.ext hs.aE),?_⟩;obtain rfl | rfl | rfl | rfl | rfl | rfl | rfl | rfl | rfl | rfl | rfl | rfl | rfl | rfl | rfl:k=1∨k=2∨k=3∨k=4∨k=5∨k=6∨k=7∨k=8∨k=9∨k=10∨k=11∨k=12∨k=13∨k=14∨k=15:=by omega
 ·refine pop (v:=.string ⟨#[114,101]⟩) (by kernel_rfl) (ic hs gP Tryz.underlying252 xK (λ xS w2 hs=>aZ qR hs (C177 _ _ _ _ (hs).eY (by rw [dX]; decide)) (λ w3 he hs=>?_)));have hs:=(hs).drop;refine ⟨vb ?_,hs.aE⟩;rw [← hQ];unfold hasB ej;exact List.fq rfl (λ y=>decide_eq_decide.2 eq_comm)
 ·refine pop (v:=.string ⟨#[114,99]⟩) (by kernel_rfl) (ic hs gP Tryz.underlying252 xK (λ xS w2 hs=>aZ qR hs (C177 _ _ _ _ (hs).eY (by rw [dX]; decide)) (λ w3 he hs=>?_)));have hs:=(hs).drop;refine ⟨vb ?_,hs.aE⟩;rw [← hQ];unfold hasB ej;exact List.fq rfl (λ y=>decide_eq_decide.2 eq_comm)
 ·refine pop (v:=.string ⟨#[99,101]⟩) (by kernel_rfl) (ic hs gP Tryz.underlying252 xK (λ xS w2 hs=>aZ qR hs (C177 _ _ _ _ (hs).eY (by rw [dX]; decide)) (λ w3 he hs=>?_)));have hs:=(hs).drop;refine ⟨vb ?_,hs.aE⟩;rw [← hQ];unfold hasB ej;exact List.fq rfl (λ y=>decide_eq_decide.2 eq_comm)
 ·refine pop (v:=.string ⟨#[114,99,101,102]⟩) (by kernel_rfl) (ic hs gP Tryz.underlying252 xK (λ xS w2 hs=>aZ qR hs (C177 _ _ _ _ (hs).eY (by rw [dX]; decide)) (λ w3 he hs=>?_)));have hs:=(hs).drop;refine ⟨vb ?_,hs.aE⟩;rw [← hQ];unfold hasB ej;exact List.fq rfl (λ y=>decide_eq_decide.2 eq_comm)
 ·refine pop (v:=.string ⟨#[108]⟩) (by kernel_rfl) (ic hs gP Tryz.underlying252 xK (λ xS w2 hs=>aZ qR hs (C177 _ _ _ _ (hs).eY (by rw [dX]; decide)) (λ w3 he hs=>?_)));have hs:=(hs).drop;refine ⟨vb ?_,hs.aE⟩;rw [← hQ];unfold hasB ej;exact List.fq rfl (λ y=>decide_eq_decide.2 eq_comm)
 ·refine pop (v:=.string ⟨#[108]⟩) (by kernel_rfl) (ic hs gP Tryz.underlying252 xK (λ xS w2 hs=>aZ qR hs (C177 _ _ _ _ (hs).eY (by rw [dX]; decide)) (λ w3 he hs=>?_)));have hs:=(hs).drop;refine ⟨vb ?_,hs.aE⟩;rw [← hQ];unfold hasB ej;exact List.fq rfl (λ y=>decide_eq_decide.2 eq_comm)
 ·refine pop (v:=.string ⟨#[]⟩) (by kernel_rfl) (ic hs gP Tryz.underlying252 xK (λ xS w2 hs=>aZ qR hs (C177 _ _ _ _ (hs).eY (by rw [dX]; decide)) (λ w3 he hs=>?_)));have hs:=(hs).drop;refine ⟨vb ?_,hs.aE⟩;rw [← hQ];unfold hasB ej;exact List.fq rfl (λ y=>decide_eq_decide.2 eq_comm)
 ·refine pop (v:=.string ⟨#[]⟩) (by kernel_rfl) (ic hs gP Tryz.underlying252 xK (λ xS w2 hs=>aZ qR hs (C177 _ _ _ _ (hs).eY (by rw [dX]; decide)) (λ w3 he hs=>?_)));have hs:=(hs).drop;refine ⟨vb ?_,hs.aE⟩;rw [← hQ];unfold hasB ej;exact List.fq rfl (λ y=>decide_eq_decide.2 eq_comm)
 ·refine pop (v:=.string ⟨#[109]⟩) (by kernel_rfl) (ic hs gP Tryz.underlying252 xK (λ xS w2 hs=>aZ qR hs (C177 _ _ _ _ (hs).eY (by rw [dX]; decide)) (λ w3 he hs=>?_)));have hs:=(hs).drop;refine ⟨vb ?_,hs.aE⟩;rw [← hQ];unfold hasB ej;exact List.fq rfl (λ y=>decide_eq_decide.2 eq_comm)
 ·refine pop (v:=.string ⟨#[109]⟩) (by kernel_rfl) (ic hs gP Tryz.underlying252 xK (λ xS w2 hs=>aZ qR hs (C177 _ _ _ _ (hs).eY (by rw [dX]; decide)) (λ w3 he hs=>?_)));have hs:=(hs).drop;refine ⟨vb ?_,hs.aE⟩;rw [← hQ];unfold hasB ej;exact List.fq rfl (λ y=>decide_eq_decide.2 eq_comm)
 ·refine pop (v:=.string ⟨#[116]⟩) (by kernel_rfl) (ic hs gP Tryz.underlying252 xK (λ xS w2 hs=>aZ qR hs (C177 _ _ _ _ (hs).eY (by rw [dX]; decide)) (λ w3 he hs=>?_)));have hs:=(hs).drop;refine ⟨vb ?_,hs.aE⟩;rw [← hQ];unfold hasB ej;exact List.fq rfl (λ y=>decide_eq_decide.2 eq_comm)
 ·refine pop (v:=.string ⟨#[101,116]⟩) (by kernel_rfl) (ic hs gP Tryz.underlying252 xK (λ xS w2 hs=>aZ qR hs (C177 _ _ _ _ (hs).eY (by rw [dX]; decide)) (λ w3 he hs=>?_)));have hs:=(hs).drop;refine ⟨vb ?_,hs.aE⟩;rw [← hQ];unfold hasB ej;exact List.fq rfl (λ y=>decide_eq_decide.2 eq_comm)
 ·refine pop (v:=.string ⟨#[107,110]⟩) (by kernel_rfl) (ic hs gP Tryz.underlying252 xK (λ xS w2 hs=>aZ qR hs (C177 _ _ _ _ (hs).eY (by rw [dX]; decide)) (λ w3 he hs=>?_)));have hs:=(hs).drop;refine ⟨vb ?_,hs.aE⟩;rw [← hQ];unfold hasB ej;exact List.fq rfl (λ y=>decide_eq_decide.2 eq_comm)
 ·refine pop (v:=.string ⟨#[107,116]⟩) (by kernel_rfl) (ic hs gP Tryz.underlying252 xK (λ xS w2 hs=>aZ qR hs (C177 _ _ _ _ (hs).eY (by rw [dX]; decide)) (λ w3 he hs=>?_)));have hs:=(hs).drop;refine ⟨vb ?_,hs.aE⟩;rw [← hQ];unfold hasB ej;exact List.fq rfl (λ y=>decide_eq_decide.2 eq_comm)
 ·refine pop (v:=.string ⟨#[101]⟩) (by kernel_rfl) (ic hs gP Tryz.underlying252 xK (λ xS w2 hs=>aZ qR hs (C177 _ _ _ _ (hs).eY (by rw [dX]; decide)) (λ w3 he hs=>?_)));have hs:=(hs).drop;refine ⟨vb ?_,hs.aE⟩;rw [← hQ];unfold hasB ej;exact List.fq rfl (λ y=>decide_eq_decide.2 eq_comm)
theorem C185 (sv fv:Value) (xs:List Int) (g:Int→Bool) (w:World) (hL:eL (λ _=>True) w sv xs) (hf:Co w fv g) (hn:xs.length≤1073741824):CR 185 [sv,fv] w (λ v w'=>v = .int .i64 (uV g xs)∧Ext w w'):=by
 obtain ⟨g0,first,cap,rfl,uH,l4⟩:=hf;have hs:=St.start w;refine ZZ _ _ _ _ ?_;unfold S185;refine aJ eg (hL.ext hs.aE) ?_;refine ⟨λ m x w1=>∃ k:Nat,x = .int .i64 (k:Int)∧m=xs.length - k∧k≤xs.length∧(∀ y∈xs.take k,g y=false)∧St w bD [] w1,⟨_,0,rfl,rfl,Nat.zero_le _,by simp,hs⟩,?_⟩;rintro m _ w1 ⟨k,rfl,rfl,hk,fQ,hs⟩ fu;refine aR (aC (λ gr=>?_) (λ gr=>?_))
 ·obtain ⟨js,dD⟩:=gx (xs) (i:=((k:Int)).toNat) (by omega);refine aQ eg hL (by omega) dD (λ _ iT=>aD bN (iT.ext hs.aE) (gg uH (l4 js w1 hs.aE) ?_));rintro _ w2 ⟨rfl,he⟩;have hs:=hs.ext he;refine aY (λ eM=>?_) (λ eM=>?_)
  ·exact ⟨congrArg (Value.int .i64) (pq fQ dD eM).symm,hs.aE⟩
  ·refine aN (by omega) ?_;exact ⟨_,by omega,k+1,rfl,rfl,by omega,ew fQ dD eM,hs⟩
 ·exact ⟨congrArg (Value.int .i64) (ku (by rw [List.take_of_length_le (by omega)] at fQ; exact fQ)).symm,hs.aE⟩
theorem C186 (sv fv:Value) (xs:List fm) (φ:fm→Prop) (g:fm→Bool) (w:World) (hL:DL w sv xs) (hf:nZ PG w fv φ g) (hφ:∀ x∈xs,φ x) (hn:xs.length≤1073741824):CR 186 [sv,fv] w (λ v w'=>v = .int .i64 (uV g xs)∧Ext w w'):=by
 obtain ⟨g0,first,cap,rfl,uH,l4⟩:=hf;have hs:=St.start w;refine Z0 _ _ _ _ ?_;unfold S186;obtain ⟨axS,ap4,ap5⟩:=(hL).open;have hn98:=ap5.1;refine aJ Be (ap4.ext hs.aE) ?_;refine ⟨λ m x w1=>∃ k:Nat,x = .int .i64 (k:Int)∧m=xs.length - k∧k≤xs.length∧(∀ y∈xs.take k,g y=false)∧St w bD [] w1,⟨_,0,rfl,rfl,Nat.zero_le _,by simp,hs⟩,?_⟩;rintro m _ w1 ⟨k,rfl,rfl,hk,fQ,hs⟩ fu;refine aR (aC (λ gr=>?_) (λ gr=>?_))
 ·obtain ⟨js,dD⟩:=gx axS (i:=((k:Int)).toNat) (by omega);obtain ⟨B6,jZ⟩:=gx (xs) (i:=((k:Int)).toNat) (by omega);obtain ⟨acO,rfl,acP⟩:=ap5.2 _ _ _ dD jZ;refine aQ Be ap4 (by omega) dD (λ _ iT=>aD qa (iT.ext hs.aE) (gg uH (l4 _ B6 w1 hs.aE ⟨acO,rfl,(acP.ext hs.aE)⟩ (hφ _ (List.mem_of_getElem? jZ))) ?_));rintro _ w2 ⟨rfl,he⟩;have hs:=hs.ext he;refine aY (λ eM=>?_) (λ eM=>?_)
  ·exact ⟨congrArg (Value.int .i64) (pq fQ jZ eM).symm,hs.aE⟩
  ·refine aN (by omega) ?_;exact ⟨_,by omega,k+1,rfl,rfl,by omega,ew fQ jZ eM,hs⟩
 ·exact ⟨congrArg (Value.int .i64) (ku (by rw [List.take_of_length_le (by omega)] at fQ; exact fQ)).symm,hs.aE⟩
theorem C187 (sv fv:Value) (xs:List (List nt)) (φ:(List nt)→Prop) (g:(List nt)→Bool) (w:World) (hL:DL w sv xs) (hf:nZ PG w fv φ g) (hφ:∀ x∈xs,φ x) (hn:xs.length≤1073741824):CR 187 [sv,fv] w (λ v w'=>v = .int .i64 (uV g xs)∧Ext w w'):=by
 obtain ⟨g0,first,cap,rfl,uH,l4⟩:=hf;have hs:=St.start w;refine Z1 _ _ _ _ ?_;unfold S187;obtain ⟨xP,ap6,FV⟩:=(hL).open;have ao2:=FV.1;refine aJ FK (ap6.ext hs.aE) ?_;refine ⟨λ m x w1=>∃ k:Nat,x = .int .i64 (k:Int)∧m=xs.length - k∧k≤xs.length∧(∀ y∈xs.take k,g y=false)∧St w bD [] w1,⟨_,0,rfl,rfl,Nat.zero_le _,by simp,hs⟩,?_⟩;rintro m _ w1 ⟨k,rfl,rfl,hk,fQ,hs⟩ fu;refine aR (aC (λ gr=>?_) (λ gr=>?_))
 ·obtain ⟨js,dD⟩:=gx xP (i:=((k:Int)).toNat) (by omega);obtain ⟨B6,jZ⟩:=gx (xs) (i:=((k:Int)).toNat) (by omega);have afm:DL w (Flat.val js) B6:=FV.2 _ _ _ dD jZ;refine aQ FK ap6 (by omega) dD (λ _ iT=>aD xM (iT.ext hs.aE) ?_);have hf100:=DL.flat (afm);refine gg uH (l4 _ B6 w1 hs.aE (afm.ext hs.aE) (hφ _ (List.mem_of_getElem? jZ))) ?_;rintro _ w2 ⟨rfl,he⟩;have hs:=hs.ext he;refine aY (λ eM=>?_) (λ eM=>?_)
  ·exact ⟨congrArg (Value.int .i64) (pq fQ jZ eM).symm,hs.aE⟩
  ·refine aN (by omega) ?_;exact ⟨_,by omega,k+1,rfl,rfl,by omega,ew fQ jZ eM,hs⟩
 ·exact ⟨congrArg (Value.int .i64) (ku (by rw [List.take_of_length_le (by omega)] at fQ; exact fQ)).symm,hs.aE⟩
theorem C249 (sv fv:Value) (xs:List aW) (φ:aW→Prop) (g:aW→Bool) (w:World) (hL:DL w sv xs) (hf:nZ PG w fv φ g) (hφ:∀ x∈xs,φ x) (hn:xs.length≤1073741824):CR 249 [sv,fv] w (λ v w'=>v = .int .i64 (uV g xs)∧Ext w w'):=by
 obtain ⟨g0,first,cap,rfl,uH,l4⟩:=hf;have hs:=St.start w;refine aaT _ _ _ _ ?_;unfold S249;obtain ⟨ap7,afn,afo⟩:=(hL).open;have hn101:=afo.1;refine aJ kS (afn.ext hs.aE) ?_;refine ⟨λ m x w1=>∃ k:Nat,x = .int .i64 (k:Int)∧m=xs.length - k∧k≤xs.length∧(∀ y∈xs.take k,g y=false)∧St w bD [] w1,⟨_,0,rfl,rfl,Nat.zero_le _,by simp,hs⟩,?_⟩;rintro m _ w1 ⟨k,rfl,rfl,hk,fQ,hs⟩ fu;refine aR (aC (λ gr=>?_) (λ gr=>?_))
 ·obtain ⟨js,dD⟩:=gx ap7 (i:=((k:Int)).toNat) (by omega);obtain ⟨B6,jZ⟩:=gx (xs) (i:=((k:Int)).toNat) (by omega);obtain ⟨acQ,acR,rfl,acS,acT⟩:=afo.2 _ _ _ dD jZ;refine aQ kS afn (by omega) dD (λ _ iT=>aD lR (iT.ext hs.aE) (gg uH (l4 _ B6 w1 hs.aE ⟨acQ,acR,rfl,(acS.ext hs.aE),(acT.ext hs.aE)⟩ (hφ _ (List.mem_of_getElem? jZ))) ?_));rintro _ w2 ⟨rfl,he⟩;have hs:=hs.ext he;refine aY (λ eM=>?_) (λ eM=>?_)
  ·exact ⟨congrArg (Value.int .i64) (pq fQ jZ eM).symm,hs.aE⟩
  ·refine aN (by omega) ?_;exact ⟨_,by omega,k+1,rfl,rfl,by omega,ew fQ jZ eM,hs⟩
 ·exact ⟨congrArg (Value.int .i64) (ku (by rw [List.take_of_length_le (by omega)] at fQ; exact fQ)).symm,hs.aE⟩
theorem C117 (sv fv:Value) (xs:List Int) (g:Int→Bool) (w:World) (hL:eL (λ _=>True) w sv xs) (hf:Co w fv g) (hn:xs.length≤1073741824):CR 117 [sv,fv] w (λ v w'=>v = .bool (xs.any g)∧Ext w w'):=by
 have hs:=St.start w;refine Y7 _ _ _ _ ?_;unfold S117;refine aZ am7 hs (C185 _ _ _ _ _ (hL.ext hs.aE) (hf.ext hs.aE) (by omega)) (λ w1 he hs=>dI ?_);exact ⟨vb (n8 _ _),hs.aE⟩
theorem C118 (sv fv:Value) (xs:List fm) (φ:fm→Prop) (g:fm→Bool) (w:World) (hL:DL w sv xs) (hf:nZ PG w fv φ g) (hφ:∀ x∈xs,φ x) (hn:xs.length≤1073741824):CR 118 [sv,fv] w (λ v w'=>v = .bool (xs.any g)∧Ext w w'):=by
 have hs:=St.start w;refine Y8 _ _ _ _ ?_;unfold S118;refine aZ am8 hs (C186 _ _ _ _ _ _ (hL.ext hs.aE) (hf.ext hs.aE) hφ (by omega)) (λ w1 he hs=>dI ?_);exact ⟨vb (n8 _ _),hs.aE⟩
theorem C119 (sv fv:Value) (xs:List (List nt)) (φ:(List nt)→Prop) (g:(List nt)→Bool) (w:World) (hL:DL w sv xs) (hf:nZ PG w fv φ g) (hφ:∀ x∈xs,φ x) (hn:xs.length≤1073741824):CR 119 [sv,fv] w (λ v w'=>v = .bool (xs.any g)∧Ext w w'):=by
 have hs:=St.start w;refine Y9 _ _ _ _ ?_;unfold S119;refine aZ am9 hs (C187 _ _ _ _ _ _ (hL.ext hs.aE) (hf.ext hs.aE) hφ (by omega)) (λ w1 he hs=>dI ?_);exact ⟨vb (n8 _ _),hs.aE⟩
theorem C221 (sv fv:Value) (xs:List aW) (φ:aW→Prop) (g:aW→Bool) (w:World) (hL:DL w sv xs) (hf:nZ PG w fv φ g) (hφ:∀ x∈xs,φ x) (hn:xs.length≤1073741824):CR 221 [sv,fv] w (λ v w'=>v = .bool (xs.any g)∧Ext w w'):=by
 have hs:=St.start w;refine aas _ _ _ _ ?_;unfold S221;refine aZ anJ hs (C249 _ _ _ _ _ _ (hL.ext hs.aE) (hf.ext hs.aE) hφ (by omega)) (λ w1 he hs=>dI ?_);exact ⟨vb (n8 _ _),hs.aE⟩
theorem uq {x:aW} {c:fm} {cells lines locks:Int} (h:1≤x.kind∧x.kind≤15):ve x c cells lines locks=(aM x c.aK c.counts && bM x cells lines locks && (if sG x.kind=true then eG x.e c.aK else !decide (0<(x.e.length:Int))) && (if x.kind=4 then eG x.f c.aK else !decide (0<(x.f.length:Int)))):=by
 unfold ve efM
 rw [decide_eq_true h.1,decide_eq_true h.2]
 cases aM x c.aK c.counts <;> cases bM x cells lines locks <;> simp
theorem Wi {x:aW} {c:fm} {cells lines locks:Int} (h:¬ (1≤x.kind∧x.kind≤15)):ve x c cells lines locks=false:=by
 unfold ve
 by_cases h1:1≤x.kind
 ·rw [decide_eq_false (show ¬ x.kind≤15 by omega)]; simp
 ·rw [decide_eq_false h1]; simp
theorem C222 (y:aW) (yv:bU) (b1:Nat) (a:Int) (w:World) (hy:cD.dr w yv y) (hc:Cell w b1 1 (.int .i64 a)):CR 222 [Flat.val yv,.pointer (some ⟨b1,0,none⟩)] w (λ v w'=>v = .bool (sH y a)∧Ext w w'):=by
 obtain ⟨ap8,ap9,rfl,d_e_y,d_f_y⟩:=hy;have hs:=St.start w;refine aat _ _ _ _ ?_;unfold S222;refine dE hs (λ axT w1 hs=>?_);refine ⟨λ jv w'=>jv = .bool (sH y a)∧St w bD [cC axT (Flat.enc (⟨(y).kind,(y).a,(y).b,ap8,ap9,(y).to⟩:bU))] w',?_,?_⟩
 ·refine aA jn (aB (v:=.int .i64 ((y).kind)) bN hs.hb rfl (aH (aC (λ oA=>?_) (λ oA=>?_))))
  ·refine aA ko (aB (v:=.int .i64 ((y).a)) bN hs.hb rfl (aA ko (cG bN (hc.ext hs.aE) (aH ?_))));exact ⟨vb (by unfold sH; grind),hs⟩
  ·exact ⟨vb (by unfold sH; grind),hs⟩
 ·rintro _ w2 ⟨rfl,hs⟩ fu;exact ⟨rfl,hs.drop.aE⟩
theorem C180 (lv:Value) (xs:List aW) (i:Nat) (x:aW) (w:World) (hL:DL w lv xs) (hn:xs.length≤1048576) (hx:xs[i]? = some x):CR 180 [lv,.int .i64 (i:Int)] w (λ v w'=>v = .bool (B5 xs i x)∧Ext w w'):=by
 have hi:=(List.getElem?_eq_some_iff.1 hx).1;have hs:=St.start w;refine ZU _ _ _ _ ?_;unfold S180;obtain ⟨afp,LK,QF⟩:=(hL).open;have hn102:=QF.1;obtain ⟨e_x8,afq⟩:=gx afp (i:=((i:Int)).toNat) (by omega);obtain ⟨tf,afr⟩:=gx (xs) (i:=((i:Int)).toNat) (by omega);obtain ⟨Wj,Wk,rfl,axU,axV⟩:=QF.2 _ _ _ afq afr;refine aQ kS LK (by omega) afq (λ _ axW=>?_);obtain rfl:tf=x:=Option.some.inj (afr.symm.trans hx);refine aD lR (axW.ext hs.aE) (aO hs mB (λ ui w1 hs=>have hs:=hs.enc (cs':=Flat.enc (⟨0,0,0,⟨none,0,0⟩,⟨none,0,0⟩,0⟩:bU)) rfl;aI (x:=(⟨(tf).kind,(tf).a,(tf).b,Wj,Wk,(tf).to⟩:bU)) hs lR rfl rfl (λ w2 hs=>?_)))
 refine ⟨λ jv w'=>jv = .bool (!btM xs i tf)∧St w bD [cC ui (Flat.enc (⟨(tf).kind,(tf).a,(tf).b,Wj,Wk,(tf).to⟩:bU))] w',?_,?_⟩
 ·refine aA kp (have hs:=hs.drew;aB (v:=.int .i64 ((tf).to)) bN hs.hb rfl (aR (aC (λ jB=>?_) (λ jB=>?_))))
  ·exact ⟨vb (by first | (rw [LI (by omega)]; rfl) | (rw [Wd (by omega) (by omega) wG]; unfold sH; first | grind | simp_all)),hs⟩
  ·refine aA kp (aB (v:=.int .i64 ((tf).to)) bN hs.hb rfl (cZ (aC (λ mf=>?_) (λ mf=>?_))))
   ·exact ⟨vb (by first | (rw [LI (by omega)]; rfl) | (rw [Wd (by omega) (by omega) wG]; unfold sH; first | grind | simp_all)),hs⟩
   ·refine aA kp (aB (v:=.int .i64 ((tf).to)) bN hs.hb rfl (gD (by omega) ?_));obtain ⟨gW,iB⟩:=gx afp (i:=(((tf).to - 1)).toNat) (by omega);obtain ⟨B7,wG⟩:=gx (xs) (i:=(((tf).to - 1)).toNat) (by omega);obtain ⟨asY,asZ,rfl,as0,as1⟩:=QF.2 _ _ _ iB wG;refine aQ kS LK (by omega) iB (λ _ wg=>bT (B7).kind jn wg rfl rfl (λ _ um=>aD bN (um.ext hs.aE) (cT (aC (λ gn=>?_) (λ gn=>?_)))))
    ·exact ⟨vb (by first | (rw [LI (by omega)]; rfl) | (rw [Wd (by omega) (by omega) wG]; unfold sH; first | grind | simp_all)),hs⟩
    ·refine aA kp (aB (v:=.int .i64 ((tf).to)) bN hs.hb rfl (gD (by omega) (aQ kS LK (by omega) iB (λ _ rJ=>bT (B7).a ko rJ rfl rfl (λ _ zS=>aD bN (zS.ext hs.aE) (aA ko (aB (v:=.int .i64 ((tf).a)) bN hs.hb rfl (cT ?_))))))));exact ⟨vb (by first | (rw [LI (by omega)]; rfl) | (rw [Wd (by omega) (by omega) wG]; unfold sH; first | grind | simp_all)),hs⟩
 ·rintro _ w3 ⟨rfl,hs⟩ fu;refine aY (λ qz=>?_) (λ qz=>?_)
  ·refine ⟨vb ?_,hs.drop.aE⟩;exact (Wf (by simpa using qz)).symm
  ·have FZ:btM xs i tf=true:=by simpa using qz
   have hto:=ap3 FZ;refine aA kp (aB (v:=.int .i64 ((tf).to)) bN hs.hb rfl (iJ kS (LK.ext hs.aE) (by omega) (by omega) (by omega) (λ Wl Oh=>?_)));have IZ:=DL.cut Oh LK QF
   have KF:nZ PG _ (.func (.func 222) [].toArray [.pointer (some ⟨ui,0,none⟩)].toArray) (λ _:aW=>True) (λ y=>sH y tf.a):=
    ⟨222,[],_,rfl,anq,λ s y w1 e1 hd _=>C222 y s ui tf.a w1 hd ((hs.hb.cell rfl).ext e1)⟩
   refine aZ anp hs (C221 _ _ _ (λ _=>True) _ _ (IZ.ext hs.aE) KF (λ _ _=>trivial) (by simp; omega)) (λ w4 he hs=>bZ ?_);refine ⟨vb ?_,hs.drop.aE⟩;unfold B5;rw [FZ];simp only [Bool.true_and]
   congr 2
set_option maxHeartbeats 4000000 in
theorem C181 (lv:Value) (xs:List aW) (w:World) (hL:DL w lv xs) (hn:xs.length≤1048576) (hb:afl xs):CR 181 [lv] w (λ v w'=>v = .bool (!(List.range xs.length).any (qG xs))∧Ext w w'):=by
 have hs:=St.start w;refine ZV _ _ _ ?_;unfold S181;obtain ⟨afs,Wm,Wn⟩:=(hL).open;have hn103:=Wn.1;refine aJ kS (Wm.ext hs.aE) ?_;have hs:=hs.fY (α:=Int);refine ⟨λ m zx x w1=>∃ k:Nat,x = .int .i64 (k:Int)∧m=xs.length - k∧k≤xs.length∧(∀ j,j<k→qG xs j=false)∧St w bD [bL zx (ou xs k)] w1,⟨_,0,rfl,rfl,Nat.zero_le _,by simp,hs⟩,?_⟩;rintro m zx _ w1 ⟨k,rfl,rfl,hk,fQ,hs⟩ fu;have hel:=G3 xs k;refine aR (aC (λ j7=>?_) (λ j7=>?_))
 ·obtain ⟨pN,jY⟩:∃ xx,afs[((k:Int)).toNat]? = some xx:=⟨_,List.getElem?_eq_getElem (by omega)⟩;obtain ⟨mI,oY⟩:∃ xx,(xs)[((k:Int)).toNat]? = some xx:=⟨_,List.getElem?_eq_getElem (by omega)⟩;obtain ⟨I0,I1,rfl,as2,as3⟩:=Wn.2 _ _ _ jY oY;refine ⟨λ CC w'=>qG xs k=false∧St w bD [bL CC (ou xs (k+1))] w',?_,?_⟩
  ·refine aQ kS Wm (by omega) jY (λ _ rk=>aD lR (rk.ext hs.aE) (aO hs mB (λ ui w2 hs=>have hs:=hs.enc (cs':=Flat.enc (⟨0,0,0,⟨none,0,0⟩,⟨none,0,0⟩,0⟩:bU)) rfl;aI (x:=(⟨(mI).kind,(mI).a,(mI).b,I0,I1,(mI).to⟩:bU)) hs lR rfl rfl (λ w3 hs=>aA jn (aB (v:=.int .i64 ((mI).kind)) bN hs.hb rfl (cT (aC (λ fi=>?_) (λ fi=>?_))))))))
   ·have hs:=(hs).drop;rw [Wg (k:=k) oY (by omega)] at hs;exact ⟨by rw [xr (i:=k) oY,decide_eq_false (show ¬ mI.kind=14 by omega)]; rfl,hs⟩
   ·have hto:=hb k mI oY (by omega);refine aA kp (aB (v:=.int .i64 ((mI).to)) bN hs.hb rfl (gD (by omega) (aJ eg (hs.p1).fM ?_)));have hs:=hs.p1.p1;refine ⟨λ m x w1=>∃ q:Nat,x = .int .i64 (q:Int)∧m=(ou xs k).length - q∧q≤(ou xs k).length∧(∀ e∈(ou xs k).take q,vg xs mI e.toNat=false)∧St w bD [cC ui (Flat.enc (⟨(mI).kind,(mI).a,(mI).b,I0,I1,(mI).to⟩:bU)),bL zx (ou xs k)] w1,⟨_,0,rfl,rfl,Nat.zero_le _,by simp,hs⟩,?_⟩;rintro m _ w4 ⟨q,rfl,rfl,hq,ajv,hs⟩ jz;refine aR (aC (λ sC=>?_) (λ sC=>?_))
    ·obtain ⟨afu,Oi⟩:=gx ((ou xs k)) (i:=((q:Int)).toNat) (by omega);refine dT hs.p1 eg (by omega) (by omega) (λ _ wm=>?_);obtain ⟨j,hej,hjk,y,hy,ajx⟩:=Sg (List.mem_of_getElem? Oi);have hjl:=(List.getElem?_eq_some_iff.1 hy).1;have hyto:=hb j y hy ajx;refine ga hs.p1 bN wm Oi ?_;obtain ⟨aqa,Bz⟩:=gx afs (i:=(afu).toNat) (by omega);obtain ⟨afv,Wo⟩:=gx (xs) (i:=(afu).toNat) (by omega);obtain ⟨as4,as5,rfl,as6,as7⟩:=Wn.2 _ _ _ Bz Wo;refine aQ kS Wm (by omega) Bz (λ _ oH=>bT (afv).to kp oH rfl rfl (λ _ z9=>aD bN (z9.ext hs.aE) ?_))
     obtain rfl:afv=y:=Option.some.inj (Wo.symm.trans (by rw [hej]; exact hy));refine gD (by omega) ?_;refine ⟨λ jv w'=>jv = .bool (vg xs mI j)∧St w bD [cC ui (Flat.enc (⟨(mI).kind,(mI).a,(mI).b,I0,I1,(mI).to⟩:bU)),bL zx (ou xs k)] w',?_,?_⟩
     ·refine aR (aC (λ ud=>?_) (λ ud=>?_))
      ·refine dI ?_;exact ⟨vb (by rw [Am hy,decide_eq_true ajx]; grind),hs⟩
      ·exact ⟨vb (by rw [Am hy,decide_eq_true ajx]; grind),hs⟩
     ·rintro _ w5 ⟨rfl,hs⟩ oG;refine aY (λ mJ=>?_) (λ mJ=>?_)
      ·have hs:=((hs.drop)).drop;refine ⟨vb ?_,hs.aE⟩;rw [rF (f:=qG xs) (j:=k) (by omega) (by rw [xr (i:=k) oY,decide_eq_true (show mI.kind=14 by omega)]; exact rF (j:=j) hjk mJ)]; rfl
      ·refine aN (by omega) ?_;exact ⟨_,by omega,q+1,rfl,rfl,by omega,ew ajv Oi (by rw [hej]; exact mJ),hs⟩
    ·refine bX (([(k:Int)]:List Int)) hs eg rfl rfl (eE rfl) (λ aqb w6 hs=>?_);have IQ:=(hs).fM;refine cP hs.p2 eg IQ (by have:=G3 xs k; simp; omega) (by decide) (λ apP w7 hs=>?_);have hs:=hs.p1.drop.p1.drop;rw [Sf (k:=k) oY (by omega)] at hs;exact ⟨by rw [xr (i:=k) oY,Wh (by rw [List.take_of_length_le (by omega)] at ajv; exact ajv)]; simp,hs⟩
  ·rintro CC w8 ⟨Wp,hs⟩ GR;refine aN (by omega) ?_;exact ⟨_,by omega,k+1,rfl,rfl,by omega,zY fQ Wp,hs⟩
 ·have hs:=(hs).drop;refine ⟨vb ?_,hs.aE⟩;rw [nf (f:=qG xs) (λ j hj=>fQ j (by omega))]; rfl
theorem C114 (u:iz) (uv:dO) (w:World) (hu:cD.dr w uv u) (hz:UZ u) (hb:∀ n∈u.lines,-1≤n∧n≤(u.lines.length:Int)):CR 114 [Flat.val uv] w (λ v w'=>v = .int .i64 (gu u)∧Ext w w'):=by
 obtain ⟨iL,gL,eU,sI,fh,rfl,iM,jw,jh,jU,kX⟩:=hu;obtain ⟨dN,rfl,iu⟩:=jU;have hs:=St.start w;refine Y4 _ _ _ ?_;unfold S114;refine dE hs (λ xU w1 hs=>?_);refine ⟨λ jv w'=>jv = .bool (decide (¬ (1≤u.stays∧u.stays≤u.lines.length)))∧St w bD [cC xU (Flat.enc (⟨iL,(u).stays,gL,(u).locks,eU,(⟨((u).recover).aK,((u).recover).counts,dN⟩:cL),fh⟩:dO))] w',?_,?_⟩
 ·refine aA pj (aB (v:=.int .i64 ((u).stays)) bN hs.hb rfl (aR (aC (λ Nu=>?_) (λ Nu=>?_))))
  ·exact ⟨vb (by grind),hs⟩
  ·refine aA pj (aB (v:=.int .i64 ((u).stays)) bN hs.hb rfl (aA mA (aB er hs.hb rfl ?_)));have aqc:=DL.flat (iM);refine aJ eg (aqc.ext hs.aE) (cZ ?_);exact ⟨vb (by grind),hs⟩
 ·rintro _ w2 ⟨rfl,hs⟩ fu;refine aY (λ j7=>?_) (λ j7=>?_)
  ·have ajy:¬ (1≤u.stays∧u.stays≤u.lines.length):=of_decide_eq_true j7;exact ⟨congrArg (Value.int .i64) (by unfold gu; rw [if_neg ajy]),hs.drop.aE⟩
  ·have ajy:1≤u.stays∧u.stays≤u.lines.length:=by simpa using j7
   have hzl:=hz.lines;refine aA mA (aB er hs.hb rfl ?_);have aqd:=DL.flat (iM);refine aA pj (aB (v:=.int .i64 ((u).stays)) bN hs.hb rfl (gD (by omega) ?_));obtain ⟨jg,fE⟩:=gx ((u).lines) (i:=(((u).stays - 1)).toNat) (by omega);refine aQ eg aqd (by omega) fE (λ _ jR=>aD bN (jR.ext hs.aE) ?_);have hbe:=hb _ (List.mem_of_getElem? fE);refine aN (by omega) ?_;exact ⟨congrArg (Value.int .i64) (by unfold gu; rw [if_pos ajy,List.getD_eq_getElem?_getD,fE]; rfl),hs.drop.aE⟩
theorem C111 (n:Int) (w:World):CR 111 [.int .i64 n] w (λ v w'=>v = .bool (lE n)∧Ext w w'):=by
 have hs:=St.start w;refine YZ _ _ _ ?_;unfold S111;refine ⟨λ jv w'=>jv = .bool (lE n)∧St w bD [] w',?_,?_⟩
 ·refine aR (aC (λ oB=>?_) (λ oB=>?_))
  ·exact ⟨vb (by unfold lE; grind),hs⟩
  ·refine cZ ?_;exact ⟨vb (by unfold lE; grind),hs⟩
 ·rintro _ w1 ⟨rfl,hs⟩ fu;exact ⟨rfl,hs.aE⟩
theorem C115 (lv:Value) (xs:List nt) (b1:Nat) (many:Int) (w:World) (hL:eL (λ _=>True) w lv xs) (hc:Cell w b1 1 (.int .i64 many)) (hn:xs.length≤1000):CR 115 [lv,.pointer (some ⟨b1,0,none⟩)] w (λ v w'=>v = .bool (!eG xs many)∧Ext w w'):=by
 have hs:=St.start w;refine Y5 _ _ _ _ ?_;unfold S115;refine aA pj (cG bN (hc.ext hs.aE) (aZ Pt hs (C116 _ _ _ _ (hL.ext hs.aE) (by omega)) (λ w1 he hs=>bZ ?_)));exact ⟨rfl,hs.aE⟩
theorem Wq {c:fm} {cells lines locks:Int} (h:∀ j,j<c.l.length→vf c cells lines locks j=false):afl c.l:=by
 intro i x hx hk
 have:=h i (List.getElem?_eq_some_iff.1 hx).1
 rw [uo hx] at this
 simp only [Bool.or_eq_false_iff,Bool.not_eq_false'] at this
 exact We hk this.2
theorem EO {l:List Int} {k:Nat} {e:Int} (h:l[k]? = some e):lD l (k+1)=e+1:=by
 unfold lD; rw [if_neg (by omega),Nat.add_sub_cancel,List.getD_eq_getElem?_getD,h]; rfl
set_option maxHeartbeats 4000000 in
theorem C113 (c:fm) (cv:cL) (cells lines locks:Int) (w:World) (hc:cD.dr w cv c) (hz:CZ c):CR 113 [Flat.val cv,.int .i64 cells,.int .i64 lines,.int .i64 locks] w (λ v w'=>v = .bool (lC c cells lines locks)∧Ext w w'):=by
 obtain ⟨ur,rfl,EP⟩:=hc;have hzl:=hz.l;have hs:=St.start w;refine Y3 _ _ _ _ _ _ ?_;unfold S113;refine dE hs (λ F3 w1 hs=>?_);refine ⟨λ jv w'=>jv = .bool (vh c)∧St w bD [cC F3 (Flat.enc (⟨(c).aK,(c).counts,ur⟩:cL))] w',?_,?_⟩
 ·refine aA xb (aB (v:=.int .i64 ((c).aK)) bN hs.hb rfl (aR (aC (λ fi=>?_) (λ fi=>?_))))
  ·exact ⟨vb (by unfold vh; grind),hs⟩
  ·refine aA xb (aB (v:=.int .i64 ((c).aK)) bN hs.hb rfl (cZ (aC (λ iU=>?_) (λ iU=>?_))))
   ·exact ⟨vb (by unfold vh; grind),hs⟩
   ·refine aA CE (aB (v:=.int .i64 ((c).counts)) bN hs.hb rfl (aR (aC (λ LL=>?_) (λ LL=>?_))))
    ·exact ⟨vb (by unfold vh; grind),hs⟩
    ·refine aA CE (aB (v:=.int .i64 ((c).counts)) bN hs.hb rfl (cZ ?_));exact ⟨vb (by unfold vh; grind),hs⟩
 ·rintro _ w2 ⟨rfl,hs⟩ fu;refine aY (λ gX=>?_) (λ gX=>?_)
  ·have hs:=(hs).drop;refine ⟨vb ?_,hs.aE⟩;unfold lC;rw [gX]; rfl
  ·refine aA mz (aB uQ hs.hb rfl ?_);obtain ⟨aqe,Wr,afw⟩:=(EP).open;have hn106:=afw.1;refine aJ kS (Wr.ext hs.aE) ?_;refine ⟨λ m x w1=>∃ k:Nat,x = .int .i64 (k:Int)∧m=c.l.length - k∧k≤c.l.length∧(∀ j,j<k→vf c cells lines locks j=false)∧St w bD [cC F3 (Flat.enc (⟨(c).aK,(c).counts,ur⟩:cL))] w1,⟨_,0,rfl,rfl,Nat.zero_le _,by simp,hs⟩,?_⟩;rintro m _ w3 ⟨k,rfl,rfl,hk,fQ,hs⟩ jz;refine aR (aC (λ sB=>?_) (λ sB=>?_))
   ·obtain ⟨afx,I2⟩:=gx aqe (i:=((k:Int)).toNat) (by omega);obtain ⟨cW,vi⟩:=gx ((c).l) (i:=((k:Int)).toNat) (by omega);obtain ⟨qH,qI,rfl,QG,QH⟩:=afw.2 _ _ _ I2 vi;refine aQ kS Wr (by omega) I2 (λ _ D2=>aD lR (D2.ext hs.aE) (aO hs mB (λ il w4 hs=>have hs:=hs.enc (cs':=Flat.enc (⟨0,0,0,⟨none,0,0⟩,⟨none,0,0⟩,0⟩:bU)) rfl;aI (x:=(⟨(cW).kind,(cW).a,(cW).b,qH,qI,(cW).to⟩:bU)) hs lR rfl rfl (λ w5 hs=>?_))));refine ⟨λ jv w'=>jv = .bool (decide (cW.kind<1) || decide (16≤cW.kind))∧St w bD [cC il (Flat.enc (⟨(cW).kind,(cW).a,(cW).b,qH,qI,(cW).to⟩:bU)),cC F3 (Flat.enc (⟨(c).aK,(c).counts,ur⟩:cL))] w',?_,?_⟩
    ·refine aA jn (aB (v:=.int .i64 ((cW).kind)) bN hs.hb rfl (aR (aC (λ kL=>?_) (λ kL=>?_))))
     ·exact ⟨vb (by grind),hs⟩
     ·refine aA jn (aB (v:=.int .i64 ((cW).kind)) bN hs.hb rfl (dI ?_));exact ⟨vb (by grind),hs⟩
    ·rintro _ w6 ⟨rfl,hs⟩ oG;refine aY (λ pP=>?_) (λ pP=>?_)
     ·have hs:=((hs.drop)).drop;refine ⟨vb ?_,hs.aE⟩;unfold lC;rw [rF (f:=vf c cells lines locks) (j:=k) (by omega) (by rw [uo (i:=k) vi,Wi (by grind)]; rfl)]; simp
     ·have mP:1≤cW.kind∧cW.kind≤15:=by grind
      refine aA ko (have hs:=hs.drew;aB (v:=.int .i64 ((cW).a)) bN hs.hb rfl (aA xb (aB (v:=.int .i64 ((c).aK)) bN hs.p1.hb rfl (gg (first:=[]) (cap:=[.pointer (some ⟨il,0,none⟩)]) se (C176 cW.kind 114 il (decide (cW.kind=1∨cW.kind=2∨cW.kind=4)) _ ((hs).hb.cell rfl) mP ((ot mP).1)) ?_))));rintro _ w7 ⟨rfl,he⟩;have hs:=hs.ext he;refine ⟨aG bN (hs.hb.cell rfl),?_⟩;refine ⟨aG bN (hs.p1.hb.cell rfl),?_⟩;refine aZ Kc hs (C179 _ _ _ _) (λ w8 he hs=>?_);refine ⟨λ jv w'=>jv = .bool (aM cW c.aK c.counts)∧St w bD [cC il (Flat.enc (⟨(cW).kind,(cW).a,(cW).b,qH,qI,(cW).to⟩:bU)),cC F3 (Flat.enc (⟨(c).aK,(c).counts,ur⟩:cL))] w',?_,?_⟩
      ·refine gg (first:=[]) (cap:=[.pointer (some ⟨il,0,none⟩)]) se (C176 cW.kind 107 il (decide (cW.kind=13∨cW.kind=14)) _ ((hs).hb.cell rfl) mP ((ot mP).2.1)) ?_;rintro _ w9 ⟨rfl,he⟩;have hs:=hs.ext he;refine aY (λ GI=>?_) (λ GI=>?_)
       ·refine aA ko (aB (v:=.int .i64 ((cW).a)) bN hs.hb rfl (aA CE (aB (v:=.int .i64 ((c).counts)) bN hs.p1.hb rfl (aZ Kc hs (C179 true _ _ _) (λ qd he hs=>?_)))));exact ⟨vb (by unfold aM; grind),hs⟩
       ·exact ⟨vb (by unfold aM; grind),hs⟩
      ·rintro _ tG ⟨rfl,hs⟩ GR;refine aA eT (aB (v:=.int .i64 ((cW).b)) bN hs.hb rfl (aH ?_));refine ⟨λ jv w'=>jv = .bool (bM cW cells lines locks)∧St w bD [cC il (Flat.enc (⟨(cW).kind,(cW).a,(cW).b,qH,qI,(cW).to⟩:bU)),cC F3 (Flat.enc (⟨(c).aK,(c).counts,ur⟩:cL))] w',?_,?_⟩
       ·refine gg (first:=[]) (cap:=[.pointer (some ⟨il,0,none⟩)]) se (C176 cW.kind 99 il (decide (cW.kind=2∨cW.kind=3∨cW.kind=4)) _ ((hs).hb.cell rfl) mP ((ot mP).2.2.1)) ?_;rintro _ vt ⟨rfl,he⟩;have hs:=hs.ext he;refine aY (λ vu=>?_) (λ vu=>?_)
        ·refine aA eT (aB (v:=.int .i64 ((cW).b)) bN hs.hb rfl (aZ Kc hs (C179 true _ _ _) (λ uU he hs=>?_)));exact ⟨vb (by unfold bM; grind),hs⟩
        ·refine gg (first:=[]) (cap:=[.pointer (some ⟨il,0,none⟩)]) se (C176 cW.kind 108 il (decide (cW.kind=5∨cW.kind=6)) _ ((hs).hb.cell rfl) mP ((ot mP).2.2.2.1)) ?_;rintro _ sw ⟨rfl,he⟩;have hs:=hs.ext he;refine aY (λ VT=>?_) (λ VT=>?_)
         ·refine aA eT (aB (v:=.int .i64 ((cW).b)) bN hs.hb rfl (aZ Kc hs (C179 true _ _ _) (λ wc he hs=>?_)));exact ⟨vb (by unfold bM; grind),hs⟩
         ·refine gg (first:=[]) (cap:=[.pointer (some ⟨il,0,none⟩)]) se (C176 cW.kind 109 il (decide (cW.kind=9∨cW.kind=10)) _ ((hs).hb.cell rfl) mP ((ot mP).2.2.2.2.1)) ?_;rintro _ ze ⟨rfl,he⟩;have hs:=hs.ext he;refine aY (λ aqf=>?_) (λ aqf=>?_)
          ·refine aA eT (aB (v:=.int .i64 ((cW).b)) bN hs.hb rfl (aZ Kc hs (C179 true _ _ _) (λ Cn he hs=>?_)));exact ⟨vb (by unfold bM; grind),hs⟩
          ·refine gg (first:=[]) (cap:=[.pointer (some ⟨il,0,none⟩)]) se (C176 cW.kind 110 il (decide (cW.kind=13)) _ ((hs).hb.cell rfl) mP ((ot mP).2.2.2.2.2.1)) ?_;rintro _ Iy ⟨rfl,he⟩;have hs:=hs.ext he;refine aY (λ Ws=>?_) (λ Ws=>?_)
           ·refine aA eT (aB (v:=.int .i64 ((cW).b)) bN hs.hb rfl (dI (aC (λ Wt=>?_) (λ Wt=>?_))))
            ·refine aA eT (aB (v:=.int .i64 ((cW).b)) bN hs.hb rfl (jL ?_));exact ⟨vb (by unfold bM; grind),hs⟩
            ·exact ⟨vb (by unfold bM; grind),hs⟩
           ·exact ⟨vb (by unfold bM; grind),hs⟩
       ·rintro _ JG ⟨rfl,hs⟩ R7;refine ⟨λ jv w'=>jv = .bool (if sG cW.kind=true then eG cW.e c.aK else !decide (0<(cW.e.length:Int)))∧St w bD [cC il (Flat.enc (⟨(cW).kind,(cW).a,(cW).b,qH,qI,(cW).to⟩:bU)),cC F3 (Flat.enc (⟨(c).aK,(c).counts,ur⟩:cL))] w',?_,?_⟩
        ·refine gg (first:=[]) (cap:=[.pointer (some ⟨il,0,none⟩)]) se (C176 cW.kind 101 il (sG cW.kind) _ ((hs).hb.cell rfl) mP ((ot mP).2.2.2.2.2.2.1)) ?_;rintro _ KR ⟨rfl,he⟩;have hs:=hs.ext he;refine aY (λ ajz=>?_) (λ ajz=>?_)
         ·refine aA tU (aB xM hs.hb rfl ?_);have afy:=DL.flat (QG);refine aA xb (aB (v:=.int .i64 ((c).aK)) bN hs.p1.hb rfl (aZ Pt hs (C116 _ _ _ _ (afy.ext hs.aE) (by have:=hz.ef _ (List.mem_of_getElem? vi); omega)) (λ MN he hs=>aY (λ Oj=>?_) (λ Oj=>?_))))
          ·exact ⟨vb (by grind),hs⟩
          ·refine gg (first:=[]) (cap:=[.pointer (some ⟨il,0,none⟩)]) se (C176 cW.kind 101 il (sG cW.kind) _ ((hs).hb.cell rfl) mP ((ot mP).2.2.2.2.2.2.1)) ?_;rintro _ Qw ⟨rfl,he⟩;have hs:=hs.ext he;refine bZ (aY (λ ajA=>?_) (λ ajA=>?_))
           ·refine aA tU (aB xM hs.hb rfl (aJ vF (afy.ext hs.aE) (aH ?_)));exact ⟨vb (by grind),hs⟩
           ·exact ⟨vb (by grind),hs⟩
         ·refine gg (first:=[]) (cap:=[.pointer (some ⟨il,0,none⟩)]) se (C176 cW.kind 101 il (sG cW.kind) _ ((hs).hb.cell rfl) mP ((ot mP).2.2.2.2.2.2.1)) ?_;rintro _ Tl ⟨rfl,he⟩;have hs:=hs.ext he;refine bZ (aY (λ Wu=>?_) (λ Wu=>?_))
          ·refine aA tU (aB xM hs.hb rfl ?_);have aqg:=DL.flat (QG);refine aJ vF (aqg.ext hs.aE) (aH ?_);exact ⟨vb (by grind),hs⟩
          ·exact ⟨vb (by grind),hs⟩
        ·rintro _ VK ⟨rfl,hs⟩ dd6;refine ⟨λ jv w'=>jv = .bool (if cW.kind=4 then eG cW.f c.aK else !decide (0<(cW.f.length:Int)))∧St w bD [cC il (Flat.enc (⟨(cW).kind,(cW).a,(cW).b,qH,qI,(cW).to⟩:bU)),cC F3 (Flat.enc (⟨(c).aK,(c).counts,ur⟩:cL))] w',?_,?_⟩
         ·refine gg (first:=[]) (cap:=[.pointer (some ⟨il,0,none⟩)]) se (C176 cW.kind 102 il (decide (cW.kind=4)) _ ((hs).hb.cell rfl) mP ((ot mP).2.2.2.2.2.2.2.1)) ?_;rintro _ Se ⟨rfl,he⟩;have hs:=hs.ext he;refine aY (λ ajB=>?_) (λ ajB=>?_)
          ·refine aA tV (aB xM hs.hb rfl ?_);have afz:=DL.flat (QH);refine aA xb (aB (v:=.int .i64 ((c).aK)) bN hs.p1.hb rfl (aZ Pt hs (C116 _ _ _ _ (afz.ext hs.aE) (by have:=hz.ef _ (List.mem_of_getElem? vi); omega)) (λ w26 he hs=>aY (λ ajC=>?_) (λ ajC=>?_))))
           ·exact ⟨vb (by grind),hs⟩
           ·refine gg (first:=[]) (cap:=[.pointer (some ⟨il,0,none⟩)]) se (C176 cW.kind 102 il (decide (cW.kind=4)) _ ((hs).hb.cell rfl) mP ((ot mP).2.2.2.2.2.2.2.1)) ?_;rintro _ w27 ⟨rfl,he⟩;have hs:=hs.ext he;refine bZ (aY (λ ER=>?_) (λ ER=>?_))
            ·refine aA tV (aB xM hs.hb rfl (aJ vF (afz.ext hs.aE) (aH ?_)));exact ⟨vb (by grind),hs⟩
            ·exact ⟨vb (by grind),hs⟩
          ·refine gg (first:=[]) (cap:=[.pointer (some ⟨il,0,none⟩)]) se (C176 cW.kind 102 il (decide (cW.kind=4)) _ ((hs).hb.cell rfl) mP ((ot mP).2.2.2.2.2.2.2.1)) ?_;rintro _ w28 ⟨rfl,he⟩;have hs:=hs.ext he;refine bZ (aY (λ Wv=>?_) (λ Wv=>?_))
           ·refine aA tV (aB xM hs.hb rfl ?_);have aqh:=DL.flat (QH);refine aJ vF (aqh.ext hs.aE) (aH ?_);exact ⟨vb (by grind),hs⟩
           ·exact ⟨vb (by grind),hs⟩
         ·rintro _ w29 ⟨rfl,hs⟩ dd7;refine aA kp (aB (v:=.int .i64 ((cW).to)) bN hs.hb rfl (aH ?_));refine ⟨λ jv w'=>jv = .bool (IY c.l k cW)∧St w bD [cC il (Flat.enc (⟨(cW).kind,(cW).a,(cW).b,qH,qI,(cW).to⟩:bU)),cC F3 (Flat.enc (⟨(c).aK,(c).counts,ur⟩:cL))] w',?_,?_⟩
          ·refine ⟨λ jv w'=>jv = .bool (decide (cW.kind=14))∧St w bD [cC il (Flat.enc (⟨(cW).kind,(cW).a,(cW).b,qH,qI,(cW).to⟩:bU)),cC F3 (Flat.enc (⟨(c).aK,(c).counts,ur⟩:cL))] w',?_,?_⟩
           ·refine gg (first:=[]) (cap:=[.pointer (some ⟨il,0,none⟩)]) se (C176 cW.kind 116 il (decide (cW.kind=11∨cW.kind=12∨cW.kind=14)) _ ((hs).hb.cell rfl) mP ((ot mP).2.2.2.2.2.2.2.2)) ?_;rintro _ w30 ⟨rfl,he⟩;have hs:=hs.ext he;refine aY (λ ajD=>?_) (λ ajD=>?_)
            ·refine aA jn (aB (v:=.int .i64 ((cW).kind)) bN hs.hb rfl (aH ?_));exact ⟨vb (by grind),hs⟩
            ·exact ⟨vb (by grind),hs⟩
           ·rintro _ w31 ⟨rfl,hs⟩ dd8;refine aY (λ ajE=>?_) (λ ajE=>?_)
            ·refine aA mz (aB uQ hs.p1.hb rfl (aZ am2 hs (C180 _ _ _ _ _ (EP.ext hs.aE) (by omega) vi) (λ w32 he hs=>?_)));exact ⟨vb (by unfold IY; grind),hs⟩
            ·refine gg (first:=[]) (cap:=[.pointer (some ⟨il,0,none⟩)]) se (C176 cW.kind 116 il (decide (cW.kind=11∨cW.kind=12∨cW.kind=14)) _ ((hs).hb.cell rfl) mP ((ot mP).2.2.2.2.2.2.2.2)) ?_;rintro _ w33 ⟨rfl,he⟩;have hs:=hs.ext he;refine aY (λ ajF=>?_) (λ ajF=>?_)
             ·refine aA kp (aB (v:=.int .i64 ((cW).to)) bN hs.hb rfl (cZ (aC (λ ajG=>?_) (λ ajG=>?_))))
              ·refine aA kp (aB (v:=.int .i64 ((cW).to)) bN hs.hb rfl (aA mz (aB uQ hs.p1.hb rfl (aJ kS (Wr.ext hs.aE) (jL ?_)))));exact ⟨vb (by unfold IY; grind),hs⟩
              ·exact ⟨vb (by unfold IY; grind),hs⟩
             ·exact ⟨vb (by unfold IY; grind),hs⟩
          ·rintro _ w34 ⟨rfl,hs⟩ dd9;refine ⟨λ jv w'=>jv = .bool (!ve cW c cells lines locks || !IY c.l k cW)∧St w bD [cC il (Flat.enc (⟨(cW).kind,(cW).a,(cW).b,qH,qI,(cW).to⟩:bU)),cC F3 (Flat.enc (⟨(c).aK,(c).counts,ur⟩:cL))] w',?_,?_⟩
           ·refine bZ (aY (λ ajH=>?_) (λ ajH=>?_))
            ·exact ⟨vb (by rw [uq mP]; grind),hs⟩
            ·refine bZ (aY (λ ajI=>?_) (λ ajI=>?_))
             ·exact ⟨vb (by rw [uq mP]; grind),hs⟩
             ·refine bZ (aY (λ ajJ=>?_) (λ ajJ=>?_))
              ·exact ⟨vb (by rw [uq mP]; grind),hs⟩
              ·refine bZ (aY (λ ajK=>?_) (λ ajK=>?_))
               ·exact ⟨vb (by rw [uq mP]; grind),hs⟩
               ·refine bZ ?_;exact ⟨vb (by rw [uq mP]; grind),hs⟩
           ·rintro _ w35 ⟨rfl,hs⟩ dd10;refine aY (λ Ok=>?_) (λ Ok=>?_)
            ·have hs:=((hs.drop)).drop;refine ⟨vb ?_,hs.aE⟩;unfold lC;rw [rF (f:=vf c cells lines locks) (j:=k) (by omega) (by rw [uo (i:=k) vi]; exact Ok)]; simp
            ·refine aN (by omega) ?_;have hs:=(hs).drop;exact ⟨_,by omega,k+1,rfl,rfl,by omega,zY fQ (by rw [uo (i:=k) vi]; exact Ok),hs⟩
   ·refine aA mz (aB uQ hs.hb rfl (aZ am3 hs (C181 _ _ _ (EP.ext hs.aE) (by omega) (Wq (cells:=cells) (lines:=lines) (locks:=locks) (λ j hj=>fQ j (by omega)))) (λ w36 he hs=>?_)));have hs:=(hs).drop;refine ⟨vb ?_,hs.aE⟩;unfold lC;rw [gX,nf (f:=vf c cells lines locks) (λ j hj=>fQ j (by omega))]; simp
theorem C112 (c:fm) (cv:cL) (u:iz) (uv:dO) (b1:Nat) (w:World) (hc:cD.dr w cv c) (hA:At (λ _=>True) w (.pointer (some ⟨b1,0,none⟩)) uv) (hu:cD.dr w uv u) (hz:CZ c) (hzu:UZ u) (hb:∀ n∈u.lines,-1≤n∧n≤(u.lines.length:Int)):CR 112 [Flat.val cv,.pointer (some ⟨b1,0,none⟩)] w (λ v w'=>v = .bool (!lC c u.lines.length (gu u) u.locks)∧Ext w w'):=by
 obtain ⟨ur,rfl,EP⟩:=hc;obtain ⟨iL,gL,eU,sI,fh,rfl,iM,jw,jh,jU,kX⟩:=hu;obtain ⟨dN,rfl,iu⟩:=jU;have hs:=St.start w;refine Y0 _ _ _ _ ?_;unfold S112;refine dE hs (λ b_c2 w1 hs=>have hs:=hs.drew;aD qa hs.At (bT iL mA hA rfl rfl (λ _ Sh=>aD er (Sh.ext hs.aE) ?_)));have aqi:=DL.flat (iM);refine aJ eg (aqi.ext hs.aE) (aD tP (hA.ext hs.aE) (bT (u).locks CF hA rfl rfl (λ _ qD=>aD bN (qD.ext hs.aE) (aZ amG hs (C114 u _ _ ⟨iL,gL,eU,(⟨((u).recover).aK,((u).recover).counts,dN⟩:cL),fh,rfl,(iM.ext hs.aE),(jw.ext hs.aE),(jh.ext hs.aE),⟨dN,rfl,(iu.ext hs.aE)⟩,(kX.ext hs.aE)⟩ hzu hb) (λ w2 he hs=>?_)))))
 refine ⟨fP qa hs.At,?_⟩;refine ⟨fP er (Sh.ext hs.aE),?_⟩;refine ⟨fP bN (qD.ext hs.aE),?_⟩;refine aZ amF hs (C113 c _ _ _ _ _ ⟨ur,rfl,(EP.ext hs.aE)⟩ hz) (λ w3 he hs=>bZ ?_);exact ⟨rfl,hs.drop.aE⟩
set_option maxHeartbeats 4000000 in
theorem C51 (u:iz) (uv:dO) (w:World) (hu:cD.dr w uv u) (hz:UZ u):CR 51 [Flat.val uv] w (λ v w'=>v = .bool (nx u)∧Ext w w'):=by
 have hu0:=hu;obtain ⟨iL,gL,eU,sI,fh,rfl,iM,jw,jh,jU,kX⟩:=hu;obtain ⟨dN,rfl,iu⟩:=jU;have hs:=St.start w;refine ag1 _ _ _ ?_;unfold S51;refine dE hs (λ xU w1 hs=>?_);refine ⟨λ jv w'=>jv = .bool (kW u)∧St w bD [cC xU (Flat.enc (⟨iL,(u).stays,gL,(u).locks,eU,(⟨((u).recover).aK,((u).recover).counts,dN⟩:cL),fh⟩:dO))] w',?_,?_⟩
 ·refine aA mA (aB er hs.hb rfl ?_);have Ww:=DL.flat (iM);refine aJ eg (Ww.ext hs.aE) (cZ (aC (λ j7=>?_) (λ j7=>?_)))
  ·exact ⟨vb (by unfold kW; grind),hs⟩
  ·refine aA pj (aB (v:=.int .i64 ((u).stays)) bN hs.hb rfl (aR (aC (λ mf=>?_) (λ mf=>?_))))
   ·exact ⟨vb (by unfold kW; grind),hs⟩
   ·refine aA pj (aB (v:=.int .i64 ((u).stays)) bN hs.hb rfl (aA mA (aB er hs.hb rfl (aJ eg (Ww.ext hs.aE) (cZ (aC (λ fH=>?_) (λ fH=>?_)))))))
    ·exact ⟨vb (by unfold kW; grind),hs⟩
    ·refine aA xc (aB er hs.hb rfl ?_);have aqj:=DL.flat (jw);refine aJ eg (aqj.ext hs.aE) (aA mA (aB er hs.hb rfl (aJ eg (Ww.ext hs.aE) (cT (aC (λ gX=>?_) (λ gX=>?_))))))
     ·exact ⟨vb (by unfold kW; grind),hs⟩
     ·refine aA CF (aB (v:=.int .i64 ((u).locks)) bN hs.hb rfl (aR (aC (λ sB=>?_) (λ sB=>?_))))
      ·exact ⟨vb (by unfold kW; grind),hs⟩
      ·refine aA CF (aB (v:=.int .i64 ((u).locks)) bN hs.hb rfl (cZ (aC (λ qA=>?_) (λ qA=>?_))))
       ·exact ⟨vb (by unfold kW; grind),hs⟩
       ·refine aA si (aB FJ hs.hb rfl ?_);obtain ⟨ts114,afA,aqk⟩:=(jh).open;have hn114:=aqk.1;refine aJ Be (afA.ext hs.aE) (aR (aC (λ pP=>?_) (λ pP=>?_)))
        ·exact ⟨vb (by unfold kW; grind),hs⟩
        ·refine aA si (aB FJ hs.hb rfl (aJ Be (afA.ext hs.aE) (cZ ?_)));exact ⟨vb (by unfold kW; grind),hs⟩
 ·rintro _ w2 ⟨rfl,hs⟩ fu;refine aY (λ GS=>?_) (λ GS=>?_)
  ·have hs:=(hs).drop;refine ⟨vb ?_,hs.aE⟩;unfold nx;rw [GS]; rfl
  ·obtain ⟨It,hb2,hb3,hb4,hb5,hb6,hb7,hb8⟩:=Og GS;have hzc:=hz.cB;have JJ:=hz.threads;have hzf:=hz.dC;refine aA mA (aB er hs.hb rfl ?_);have afC:=DL.flat (iM);refine aJ eg (afC.ext hs.aE) ?_;refine ⟨λ m y x w1=>∃ (k:Nat) (last:Int),y = .int .i64 last∧x = .int .i64 (k:Int)∧m=u.lines.length - k∧k≤u.lines.length∧last=lD u.lines k - 1∧(∀ j,j<k→kh u j=false)∧St w bD [cC xU (Flat.enc (⟨iL,(u).stays,gL,(u).locks,eU,(⟨((u).recover).aK,((u).recover).counts,dN⟩:cL),fh⟩:dO))] w1,⟨_,0,-1,rfl,rfl,rfl,Nat.zero_le _,rfl,by simp,hs⟩,?_⟩
   rintro m _ _ w3 ⟨k,last,rfl,rfl,rfl,hk,afD,acU,hs⟩ jz;refine aR (aC (λ qB=>?_) (λ qB=>?_))
   ·obtain ⟨GW,wC⟩:=gx ((u).lines) (i:=((k:Int)).toNat) (by omega);refine aQ eg afC (by omega) wC (λ _ Ef=>?_)
    have hwb : -1≤last∧last≤(k:Int):=by
     by_cases h0:k=0
     ·subst h0; rw [afD]; unfold lD; simp
     ·obtain ⟨m,hm⟩:∃ m,u.lines[k - 1]? = some m:=⟨_,List.getElem?_eq_getElem (by omega)⟩;have h1:=EN acU (k - 1) m (by omega) hm;have h2:=EO hm;rw [show k - 1+1=k from by omega] at h2;omega
    refine aD bN (Ef.ext hs.aE) ?_;refine ⟨λ jv w'=>jv = .bool (decide (0<(k:Int)) && decide ((k:Int)<u.stays) && decide (GW=last))∧St w bD [cC xU (Flat.enc (⟨iL,(u).stays,gL,(u).locks,eU,(⟨((u).recover).aK,((u).recover).counts,dN⟩:cL),fh⟩:dO))] w',?_,?_⟩
    ·refine cZ (aC (λ oh=>?_) (λ oh=>?_))
     ·refine aA pj (aB (v:=.int .i64 ((u).stays)) bN hs.hb rfl (aR (aC (λ aql=>?_) (λ aql=>?_))))
      ·refine aH ?_;exact ⟨vb (by grind),hs⟩
      ·exact ⟨vb (by grind),hs⟩
     ·exact ⟨vb (by grind),hs⟩
    ·rintro _ w4 ⟨rfl,hs⟩ oG;refine ⟨λ jv w'=>jv = .bool (kh u k)∧St w bD [cC xU (Flat.enc (⟨iL,(u).stays,gL,(u).locks,eU,(⟨((u).recover).aK,((u).recover).counts,dN⟩:cL),fh⟩:dO))] w',?_,?_⟩
     ·refine bZ (aY (λ Vp=>?_) (λ Vp=>?_))
      ·refine aN (by omega) (cT ?_);exact ⟨vb (by rw [G0 (k:=k) wC]; grind),hs⟩
      ·exact ⟨vb (by rw [G0 (k:=k) wC]; grind),hs⟩
     ·rintro _ w5 ⟨rfl,hs⟩ GR;refine aY (λ Wx=>?_) (λ Wx=>?_)
      ·have hs:=(hs).drop;refine ⟨vb ?_,hs.aE⟩;unfold nx;rw [rF (f:=kh u) (j:=k) (by omega) Wx]; simp
      ·refine aN (by omega) ?_;exact ⟨_,by omega,k+1,GW,rfl,rfl,rfl,by omega,by rw [EO (k:=k) wC]; omega,zY acU Wx,hs⟩
   ·have hL:(List.range u.lines.length).any (kh u)=false:=nf (λ j hj=>acU j (by omega));have Yq:=LJ (u:=u) (λ j hj=>acU j (by omega));refine ⟨λ jv w'=>jv = .bool ((!u.dC.any lE) && (!u.threads.any (λ c=>!lC c u.lines.length (gu u) u.locks)) && lC u.recover u.lines.length (gu u) u.locks && (!u.cB.any (λ l=>!eG l u.stays)))∧St w bD [cC xU (Flat.enc (⟨iL,(u).stays,gL,(u).locks,eU,(⟨((u).recover).aK,((u).recover).counts,dN⟩:cL),fh⟩:dO))] w',?_,?_⟩
    ·refine aA xc (aB er hs.hb rfl ?_);have aqm:=DL.flat (jw);have hf1:Co w3 (.func (.func 111) #[] #[]) lE:=⟨111,[],[],rfl,amE,λ x w1 _=>C111 x w1⟩;refine aZ amI hs (C117 _ _ _ lE _ (aqm.ext hs.aE) hf1 (by omega)) (λ w6 he hs=>bZ (aY (λ Wt=>?_) (λ Wt=>?_)))
     ·refine aA si (aB FJ hs.hb rfl ?_);have J2:nZ PG _ (.func (.func 112) [].toArray [.pointer (some ⟨xU,0,none⟩)].toArray) CZ (λ c=>!lC c u.lines.length (gu u) u.locks):=⟨112,[],_,rfl,aee,λ s c w1 e1 hd hzc=>C112 c s u _ xU w1 hd (hs.At.ext e1) (cD.ext hu0 (Ext.trans hs.aE e1)) hzc hz Yq⟩;refine aZ amJ hs (C118 _ _ _ CZ (λ c=>!lC c u.lines.length (gu u) u.locks) _ (jh.ext hs.aE) J2 hz.th (by omega)) (λ w7 he hs=>bZ (aY (λ Ea=>?_) (λ Ea=>?_)))
      ·refine aA zB (xh (⟨((u).recover).aK,((u).recover).counts,dN⟩:cL) qa hs.hb rfl (gg (first:=[]) (cap:=[.pointer (some ⟨xU,0,none⟩)]) aee (C112 u.recover _ u _ xU _ ⟨dN,rfl,(iu.ext hs.aE)⟩ hs.At (cD.ext hu0 hs.aE) hz.rc hz Yq) ?_));rintro _ w8 ⟨rfl,he⟩;have hs:=hs.ext he;refine bZ (aY (λ Oj=>?_) (λ Oj=>?_))
       ·refine aA xd (aB RT hs.hb rfl ?_);have hf3:nZ PG _ (.func (.func 115) [].toArray [.pointer (some ⟨xU,0,none⟩)].toArray) (λ l:List nt=>l.length≤1000) (λ l=>!eG l u.stays):=⟨115,[],_,rfl,amH,λ s l w1 e1 hd hl=>C115 _ l xU u.stays w1 (DL.flat hd) ((hs.hb.cell rfl).ext e1) hl⟩;refine aZ amK hs (C119 _ _ _ (λ l:List nt=>l.length≤1000) (λ l=>!eG l u.stays) _ (kX.ext hs.aE) hf3 hz.cl (by omega)) (λ w9 he hs=>bZ ?_);exact ⟨vb (by grind),hs⟩
       ·exact ⟨vb (by grind),hs⟩
      ·exact ⟨vb (by grind),hs⟩
     ·exact ⟨vb (by grind),hs⟩
    ·rintro _ qd ⟨rfl,hs⟩ R7;have hs:=(hs).drop;refine ⟨vb ?_,hs.aE⟩;unfold nx;rw [GS,hL];simp only [Bool.not_false,Bool.true_and,Bool.and_true];cases u.dC.any lE <;> cases u.threads.any (λ c=>!lC c u.lines.length (gu u) u.locks) <;> cases u.cB.any (λ l=>!eG l u.stays) <;> cases lC u.recover u.lines.length (gu u) u.locks <;> rfl
theorem Wy {α:Type} {t1 d:List α} {e y y2:α} {k:Nat} (hk:t1.length=k):((t1++e::d).set k y).set k y2=t1++[y2]++d:=by
 subst hk
 rw [List.set_append_right _ _ (Nat.le_refl _),Nat.sub_self,List.set_cons_zero,List.set_append_right _ _ (Nat.le_refl _),Nat.sub_self,List.set_cons_zero]; simp
theorem set_self? {α:Type} {l:List α} {k:Nat} {y e:α} (h:(l.set k y)[k]? = some e):e=y:=by
 have hk:=(List.getElem?_eq_some_iff.1 h).1
 rw [List.length_set] at hk
 rw [List.getElem?_set_self hk] at h
 exact (Option.some.inj h).symm
theorem C121 (sv:Value) (xs:List nt) (w:World) (hL:eL (λ _=>True) w sv xs) (hn:xs.length≤1000000):CR 121 [sv] w (λ v w'=>mc (bL v xs) w w'):=by
 have hs:=St.start w;refine Zb _ _ _ ?_;unfold S121;refine xi Tryz.underlying99 (hL.ext hs.aE) (λ p hp=>aY (λ oB=>?_) (λ oB=>?_))
 ·have hx:=hp oB;subst hx;exact (hs.fY (α:=nt)).fresh
 ·refine bX (([]:List nt)) hs vF rfl rfl (eE rfl) (λ IA w1 hs=>?_);have z7:=(hL.ext hs.aE);refine cP hs vF z7 (by simp; omega) (by decide) (λ Ln w2 hs=>?_);exact hs.fresh
theorem C70 (sv:Value) (xs:List Int) (w:World) (hL:eL (λ _=>True) w sv xs) (hn:xs.length≤1000000):CR 70 [sv] w (λ v w'=>mc (bL v xs) w w'):=by
 have hs:=St.start w;refine ahk _ _ _ ?_;unfold S70;refine xi Tryz.underlying28 (hL.ext hs.aE) (λ p hp=>aY (λ oB=>?_) (λ oB=>?_))
 ·have hx:=hp oB;subst hx;exact (hs.fY (α:=Int)).fresh
 ·refine bX (([]:List Int)) hs eg rfl rfl (eE rfl) (λ IA w1 hs=>?_);have z7:=(hL.ext hs.aE);refine cP hs eg z7 (by simp; omega) (by decide) (λ Ln w2 hs=>?_);exact hs.fresh
theorem C188 (sv:Value) (xs:List bU) (w:World) (hL:eL (λ _=>True) w sv xs) (hn:xs.length≤1000000):CR 188 [sv] w (λ v w'=>mc (bL v xs) w w'):=by
 have hs:=St.start w;refine Z2 _ _ _ ?_;unfold S188;refine xi Tryz.underlying31 (hL.ext hs.aE) (λ p hp=>aY (λ oB=>?_) (λ oB=>?_))
 ·have hx:=hp oB;subst hx;exact (hs.fY (α:=bU)).fresh
 ·refine bX (([]:List bU)) hs kS rfl rfl (eE rfl) (λ IA w1 hs=>cP hs kS (hL.ext hs.aE) (by simp; omega) (by decide) (λ Ln w2 hs=>?_));exact hs.fresh
set_option maxHeartbeats 4000000 in
theorem C120 (c:fm) (cv:cL) (w:World) (hc:cD.dr w cv c) (hz:CZ c):CR 120 [Flat.val cv] w (λ v w'=>∃ cv':cL,v=Flat.val cv'∧mc (eY (λ w=>cD.dr w cv' c)) w w'):=by
 obtain ⟨ur,rfl,EP⟩:=hc;obtain ⟨Si,hRA,hDA⟩:=(EP).open;have hnA:=hDA.1;have hzl:=hz.l;have hs:=St.start w;refine Za _ _ _ ?_;unfold S120;refine dE hs (λ axX w1 hs=>aO hs Ih (λ me w2 hs=>have hs:=hs.enc (cs':=Flat.enc (⟨0,0,⟨none,0,0⟩⟩:cL)) rfl;aA mz (aB uQ hs.p1.hb rfl (dG ana hs (C188 _ Si _ (hRA.ext hs.aE) (by omega)) (λ x6 w3 cA hs=>aA mz ?_)))));obtain ⟨ym,rfl⟩:=(hs).fT;refine aV hs.p2 uQ (eE rfl) (rfl) (λ w4 hs=>have hs:=hs.enc (cs':=Flat.enc (⟨(c).aK,(c).counts,ym⟩:cL)) rfl;aA mz (aB (v:=Flat.val (ym:SV)) uQ hs.hb rfl (aJ kS (hs.p1).fM ?_)))
 have hs:=hs.gI (Φ:=lg ([]:List bU) ([]:List aW)) (λ _=>lg.nil);have hs:=hs.p3.p1.p3.p3;refine ⟨λ m x w1=>∃ (k:Nat) (t1:List bU),x = .int .i64 (k:Int)∧m=Si.length - k∧k≤Si.length∧t1.length=k∧St w bD [cC axX (Flat.enc (⟨(c).aK,(c).counts,ym⟩:cL)),bL (Flat.val ym) (t1++Si.drop k),eY (lg t1 (c.l.take k)),cC me (Flat.enc (⟨0,0,⟨none,0,0⟩⟩:cL))] w1,⟨_,0,[],rfl,rfl,Nat.zero_le _,rfl,hs⟩,?_⟩;rintro m _ w5 ⟨k,t1,rfl,rfl,hk,ht1,hs⟩ fu;refine aR (aC (λ jB=>?_) (λ jB=>?_))
 ·obtain ⟨e0,he0⟩:∃ e,Si[k]? = some e:=⟨_,List.getElem?_eq_getElem (by omega)⟩;obtain ⟨r0,hr0⟩:∃ r,c.l[k]? = some r:=⟨_,List.getElem?_eq_getElem (by omega)⟩;obtain ⟨ge,gf,rfl,hE,hF⟩:=hDA.2 k _ _ he0 hr0;have hdc:=drop_cons he0;obtain ⟨LM,ajM,QI⟩:∃ e,e=(⟨r0.kind,r0.a,r0.b,ge,gf,r0.to⟩:bU)∧(t1++Si.drop k)[((k:Int)).toNat]? = some e:=⟨_,rfl,by show (t1++Si.drop k)[k]? = _; rw [List.getElem?_append_right (by omega),ht1,Nat.sub_self,List.getElem?_drop,Nat.add_zero]; exact he0⟩;have hfE:eL (λ _=>True) w (Flat.val LM.e) r0.e:=by rw [ajM]; exact DL.flat hE
  have hfF:eL (λ _=>True) w (Flat.val LM.f) r0.f:=by rw [ajM]; exact DL.flat hF
  have hzz:=hz.ef _ (List.mem_of_getElem? hr0);have hlL:(t1++Si.drop k).length=Si.length:=by rw [List.length_append,List.length_drop]; omega
  refine aA mz (have hs:=hs.drew;aB (v:=Flat.val (ym:SV)) uQ hs.hb rfl (aA mz (aB (v:=Flat.val (ym:SV)) uQ hs.hb rfl (aA mz (aB (v:=Flat.val (ym:SV)) uQ hs.hb rfl (dT hs.p1 kS (by omega) (by omega) (λ _ pO=>nc tU pO (λ _ wg=>nW (LM).e hs.p1 xM wg QI rfl (aA mz (aB (v:=Flat.val (ym:SV)) uQ hs.hb rfl (dT hs.p1 kS (by omega) (by omega) (λ _ od=>nc tV od (λ _ oH=>?_)))))))))))));refine nW (LM).f hs.p1 xM oH QI rfl (dG TY hs (C121 _ _ _ (hfE.ext hs.aE) (by omega)) (λ x26 w6 cA hs=>?_))
  refine ⟨aG uQ (hs.p1.hb.cell rfl),?_⟩;refine ⟨aG uQ (hs.p1.hb.cell rfl),?_⟩;refine ⟨aG uQ (hs.p1.hb.cell rfl),?_⟩;refine ⟨UH (LM).f hs.p2 xM oH QI rfl,?_⟩;refine dG TY hs (C121 _ _ _ (hfF.ext hs.aE) (by omega)) (λ x33 w7 cA hs=>?_);refine ⟨aG uQ (hs.p2.hb.cell rfl),?_⟩;refine ⟨aG uQ (hs.p2.hb.cell rfl),?_⟩;refine dT hs.p3 kS (by omega) (by omega) (λ _ rJ=>nc tU rJ (λ _ zS=>?_));obtain ⟨yS,rfl⟩:=(hs.p1).fT;refine KD {LM with e:=yS} (yS:SV) hs.p3 xM zS QI (by decide) rfl (λ w8 hs=>?_);refine ⟨aG uQ (hs.p3.hb.cell rfl),?_⟩
  have hlS:((((t1++Si.drop k)).set ((k:Int)).toNat {LM with e:=yS})).length=Si.length:=by rw [List.length_set]; exact hlL
  obtain ⟨VM,wF⟩:=gx ((((t1++Si.drop k)).set ((k:Int)).toNat {LM with e:=yS})) (i:=((k:Int)).toNat) (by omega);refine dT hs kS (by omega) (by omega) (λ _ rq=>nc tV rq (λ _ wv=>?_));obtain ⟨wH,rfl⟩:=(hs.p1).fT;refine KD {VM with f:=wH} (wH:SV) hs xM wv wF (by decide) rfl (λ w9 hs=>aN (by omega) ?_);have axZ:=set_self? (k:=k) wF;have hs:=hs.p2.freeze.p2.freeze.p1.fK.p3.fK.dQ (Ψ:=lg (t1++[(⟨r0.kind,r0.a,r0.b,yS,wH,r0.to⟩:bU)]) (c.l.take (k+1))) (λ w h=>by rw [← gN (k:=k) hr0]; exact h.1.snoc ⟨_,_,rfl,DL.fp h.2.1,DL.fp h.2.2⟩)
  have hs:=hs.p3.p1.p3.p3.aoj (ys:=t1++[(⟨r0.kind,r0.a,r0.b,yS,wH,r0.to⟩:bU)]++Si.drop (k+1)) (by rw [hdc]; exact (Wy ht1).trans (by rw [axZ,ajM]));have hs:=hs.p1;exact ⟨_,by omega,k+1,t1++[(⟨r0.kind,r0.a,r0.b,yS,wH,r0.to⟩:bU)],rfl,rfl,by omega,by rw [List.length_append,List.length_singleton]; omega,hs⟩
 ·rw [List.drop_eq_nil_of_le (by omega),List.append_nil,List.take_of_length_le (by omega)] at hs;have hs:=hs.p2.p2.DJ;refine aD qa hs.p1.At (aI (x:=(⟨(c).aK,(c).counts,ym⟩:cL)) hs.p2 qa rfl rfl (λ qd hs=>aD qa hs.At ?_));have hs:=hs.p1.jP.dQ (Ψ:=(λ w=>cD.dr w (⟨(c).aK,(c).counts,ym⟩:cL) (⟨(c).aK,(c).counts,c.l⟩:fm))) (λ w h=>⟨_,rfl,h⟩);have hs:=((hs.p1.drop).p1).drop;exact ⟨_,rfl,hs.fresh⟩
set_option maxHeartbeats 4000000 in
theorem C53 (u:iz) (uv:dO) (w:World) (hu:cD.dr w uv u) (hz:UZ u):CR 53 [Flat.val uv] w (λ v w'=>∃ uv':dO,v=Flat.val uv'∧mc (eY (λ w=>cD.dr w uv' u)) w w'):=by
 obtain ⟨iL,gL,eU,sI,fh,rfl,iM,jw,jh,jU,kX⟩:=hu;obtain ⟨dN,rfl,iu⟩:=jU;have hs:=St.start w;refine ag3 _ _ _ ?_;unfold S53;refine dE hs (λ xU w1 hs=>aO hs vS (λ me w2 hs=>have hs:=hs.enc (cs':=Flat.enc (⟨⟨none,0,0⟩,0,⟨none,0,0⟩,0,⟨none,0,0⟩,(⟨0,0,⟨none,0,0⟩⟩:cL),⟨none,0,0⟩⟩:dO)) rfl;aA mA ?_));have hs:=hs.drew;have hzl:=hz.lines;have hzf:=hz.dC;have JJ:=hz.threads;have hzc:=hz.cB;refine aB er hs.p1.hb rfl ?_;have aqo:=DL.flat (iM);refine aA xc (aB er hs.p1.hb rfl ?_)
 have aqp:=DL.flat (jw);refine aA zB (xh (⟨((u).recover).aK,((u).recover).counts,dN⟩:cL) qa hs.p1.hb rfl (dG zu hs (C70 _ _ _ (aqo.ext hs.aE) (by omega)) (λ x11 w3 cA hs=>?_)));refine ⟨aG er (hs.p2.hb.cell rfl),?_⟩;refine ⟨Iv (⟨((u).recover).aK,((u).recover).counts,dN⟩:cL) qa hs.p2.hb rfl,?_⟩;refine aA mA (dG zu hs (C70 _ _ _ (aqp.ext hs.aE) (by omega)) (λ x14 w4 cA hs=>?_));refine ⟨Iv (⟨((u).recover).aK,((u).recover).counts,dN⟩:cL) qa hs.p3.hb rfl,?_⟩;refine eu aef (C120 (u).recover _ _ ⟨dN,rfl,(iu.ext hs.aE)⟩ hz.rc) ?_
 rintro _ w5 ⟨tg,rfl,cA⟩;have hs:=hs.made cA;obtain ⟨mn,rfl⟩:=(hs.p2).fT;refine aV hs.p4 er (eE rfl) (rfl) (λ w6 hs=>have hs:=hs.enc (cs':=Flat.enc (⟨mn,(u).stays,gL,(u).locks,eU,(⟨((u).recover).aK,((u).recover).counts,dN⟩:cL),fh⟩:dO)) rfl;aA xc ?_);obtain ⟨oq,rfl⟩:=(hs.p2).fT;refine aV hs er (eE rfl) (rfl) (λ w7 hs=>have hs:=hs.enc (cs':=Flat.enc (⟨mn,(u).stays,oq,(u).locks,eU,(⟨((u).recover).aK,((u).recover).counts,dN⟩:cL),fh⟩:dO)) rfl;aA zB (pC (vs:=Flat.enc tg) hs qa rfl (eE rfl) (Flat.one _) (λ w8 hs=>have hs:=hs.enc (cs':=Flat.enc (⟨mn,(u).stays,oq,(u).locks,eU,tg,fh⟩:dO)) rfl;aA si (aB (v:=Flat.val (eU:SV)) FJ hs.hb rfl ?_))))
 obtain ⟨aqq,afE,afF⟩:=(jh).open;have hn119:=afF.1;refine aJ Be (afE.ext hs.aE) ?_;have hs:=((((((hs.xO (α:=fm)).p5).p3).p4).p5).p5).p5;refine ⟨λ m tK x w1=>∃ k:Nat,x = .int .i64 (k:Int)∧m=u.threads.length - k∧k≤u.threads.length∧St w bD [fj tK (u.threads.take k),cC xU (Flat.enc (⟨mn,(u).stays,oq,(u).locks,eU,tg,fh⟩:dO)),bL (Flat.val mn) ((u).lines),bL (Flat.val oq) ((u).dC),eY (λ w=>cD.dr w tg ((u).recover)),cC me (Flat.enc (⟨⟨none,0,0⟩,0,⟨none,0,0⟩,0,⟨none,0,0⟩,(⟨0,0,⟨none,0,0⟩⟩:cL),⟨none,0,0⟩⟩:dO))] w1,⟨_,0,rfl,rfl,Nat.zero_le _,hs⟩,?_⟩
 rintro m tK _ w9 ⟨k,rfl,rfl,hk,hs⟩ fu;refine aR (aC (λ fH=>?_) (λ fH=>?_))
 ·obtain ⟨aoU,Br⟩:=gx aqq (i:=((k:Int)).toNat) (by omega);obtain ⟨z8,Bs⟩:=gx ((u).threads) (i:=((k:Int)).toNat) (by omega);obtain ⟨QJ,rfl,acV⟩:=afF.2 _ _ _ Br Bs;refine aQ Be afE (by omega) Br (λ _ ry=>aD qa (ry.ext hs.aE) (aO hs Ih (λ ajo qd hs=>have hs:=hs.enc (cs':=Flat.enc (⟨0,0,⟨none,0,0⟩⟩:cL)) rfl;aI (x:=(⟨(z8).aK,(z8).counts,QJ⟩:cL)) hs qa rfl rfl (λ tG hs=>aD qa hs.At (eu aef (C120 z8 _ _ ⟨QJ,rfl,(acV.ext hs.aE)⟩ (hz.th _ (List.mem_of_getElem? Bs))) ?_)))));rintro _ vt ⟨ajN,rfl,cA⟩;have hs:=hs.made cA
  refine eF (s:=ajN) (x:=(z8)) hs Be (by decide) (λ Vy uU hs=>have hs:=hs.p2;dY hs Be (by rw [List.length_take,List.length_singleton]; omega) (by decide) (λ VX sw hs=>aN (by omega) ?_));have hs:=(hs.p1.drop.p5.p5.p5.p5.p5).p5;exact ⟨_,by omega,k+1,rfl,rfl,by omega,by rw [← gN (k:=k) Bs]; exact hs⟩
 ·rw [List.take_of_length_le (by omega)] at hs;refine aA xd (aB (v:=Flat.val (fh:SV)) RT hs.p1.hb rfl ?_);obtain ⟨aqr,afG,afH⟩:=(kX).open;have hn120:=afH.1;refine aJ FK (afG.ext hs.aE) ?_;have hs:=(((((((hs.xO (α:=(List nt))).p6).p6).p6).p6).p6).p6).p6;refine ⟨λ m zs x w1=>∃ q:Nat,x = .int .i64 (q:Int)∧m=u.cB.length - q∧q≤u.cB.length∧St w bD [fj zs (u.cB.take q),fj tK u.threads,cC xU (Flat.enc (⟨mn,(u).stays,oq,(u).locks,eU,tg,fh⟩:dO)),bL (Flat.val mn) ((u).lines),bL (Flat.val oq) ((u).dC),eY (λ w=>cD.dr w tg ((u).recover)),cC me (Flat.enc (⟨⟨none,0,0⟩,0,⟨none,0,0⟩,0,⟨none,0,0⟩,(⟨0,0,⟨none,0,0⟩⟩:cL),⟨none,0,0⟩⟩:dO))] w1,⟨_,0,rfl,rfl,Nat.zero_le _,hs⟩,?_⟩
  rintro m zs _ wc ⟨q,rfl,rfl,hq,hs⟩ jz;refine aR (aC (λ ml=>?_) (λ ml=>?_))
  ·obtain ⟨qE,qg⟩:=gx aqr (i:=((q:Int)).toNat) (by omega);obtain ⟨Wz,ES⟩:=gx ((u).cB) (i:=((q:Int)).toNat) (by omega);have aqs:DL w (Flat.val qE) Wz:=afH.2 _ _ _ qg ES;refine aQ FK afG (by omega) qg (λ _ uh=>aD xM (uh.ext hs.aE) ?_);have aqt:=DL.flat (aqs);have hzk:=hz.cl _ (List.mem_of_getElem? ES);refine dG TY hs (C121 _ _ _ (aqt.ext hs.aE) (by omega)) (λ x43 ze cA hs=>?_);obtain ⟨Bx,rfl⟩:=(hs).fT;have hs:=hs.freeze.dQ (Ψ:=λ w=>cD.dr w Bx ((Wz))) (λ w h=>DL.fp h);refine eF (s:=Bx) (x:=(Wz)) hs FK (by decide) (λ apo Cn hs=>have hs:=hs.p1;dY hs FK (by rw [List.length_take,List.length_singleton]; omega) (by decide) (λ Wl Iy hs=>aN (by omega) ?_))
   have hs:=hs.p6.p6.p6.p6.p6.p6.p6;exact ⟨_,by omega,q+1,rfl,rfl,by omega,by rw [← gN (k:=q) ES]; exact hs⟩
  ·rw [List.take_of_length_le (by omega)] at hs;refine aA si ?_;obtain ⟨sJ,rfl⟩:=(hs.p1).lT;refine aV hs.p2 FJ (eE rfl) (rfl) (λ JG hs=>have hs:=hs.enc (cs':=Flat.enc (⟨mn,(u).stays,oq,(u).locks,sJ,tg,fh⟩:dO)) rfl;aA xd ?_);obtain ⟨yT,rfl⟩:=(hs.p1).lT;refine aV hs RT (eE rfl) (rfl) (λ KR hs=>have hs:=hs.enc (cs':=Flat.enc (⟨mn,(u).stays,oq,(u).locks,sJ,tg,yT⟩:dO)) rfl;aD tP hs.At (aI (x:=(⟨mn,(u).stays,oq,(u).locks,sJ,tg,yT⟩:dO)) hs.p6 tP rfl rfl (λ MN hs=>aD tP hs.At ?_)))
   have hs:=hs.p4.freeze.p5.freeze.p1.fK.p4.jP.p1.fK.p4.p1.fK.p3.jP.p1.fK.dQ (Ψ:=(λ w=>cD.dr w (⟨mn,(u).stays,oq,(u).locks,sJ,tg,yT⟩:dO) (⟨((u).lines),(u).stays,((u).dC),(u).locks,(u).threads,((u).recover),(u).cB⟩:iz))) (λ w h=>⟨_,_,_,_,_,rfl,DL.fp h.1.1.1.1,DL.fp h.1.1.1.2,h.1.1.2,h.1.2,h.2⟩);have hs:=((hs.p1.drop).p1).drop;exact ⟨_,rfl,hs.fresh⟩
def ti (x y:bJ):Bool:=decide (x.kind≠7∧y.kind≠7∧(x.kind=6∨y.kind=6)∧x.line≠y.line)
def right (x:bJ):Bool:=decide ((x.kind=3∧0≤x.line∧0≤x.cell)∨((x.kind=5∨x.kind=6)∧0≤x.line∧x.cell=0∧x.n=0)∨(x.kind=7∧x.line=0∧x.cell=0∧x.n=0))
theorem C191 (x y:bJ) (w:World):CR 191 [Flat.val x,Flat.val y] w (λ v w'=>v = .bool (ti x y)∧Ext w w'):=by
 have hs:=St.start w;refine Z5 _ _ _ _ ?_;unfold S191;refine dE hs (λ me w1 hs=>dE hs (λ WA w2 hs=>?_));refine ⟨_,?_,λ _ _ h=>h⟩;refine aA pH (aB bN hs.p1.hb rfl (aH (aC (λ gi=>?_) (λ gi=>?_))))
 ·intro fu;refine ⟨_,?_,λ _ _ h=>h⟩;refine bZ (fN ?_);intro jz;refine ⟨vb ?_,hs.aE⟩;unfold ti
  first | exact (decide_eq_true (by omega)).symm | exact (decide_eq_false (by omega)).symm | exact decide_eq_decide.2 (by omega) | exact decide_eq_decide.2 (bJ.ext_iff.trans (by dsimp only; omega))
 ·refine aA pH (aB bN hs.hb rfl (aH ?_));intro fu;refine ⟨_,?_,λ _ _ h=>h⟩
  first | refine Dn ?_ | refine bZ ?_
  refine aC (λ jQ=>?_) (λ jQ=>?_)
  ·refine aA pH (aB bN hs.p1.hb rfl (aH (aC (λ fi=>?_) (λ fi=>?_))))
   ·refine aA lj (aB bN hs.p1.hb rfl (aA lj (aB bN hs.hb rfl (cT ?_))));intro jz;refine ⟨vb ?_,hs.aE⟩;unfold ti
    first | exact (decide_eq_true (by omega)).symm | exact (decide_eq_false (by omega)).symm | exact decide_eq_decide.2 (by omega) | exact decide_eq_decide.2 (bJ.ext_iff.trans (by dsimp only; omega))
   ·refine aA pH (aB bN hs.hb rfl (aH (aC (λ iU=>?_) (λ iU=>?_))))
    ·refine aA lj (aB bN hs.p1.hb rfl (aA lj (aB bN hs.hb rfl (cT ?_))));intro jz;refine ⟨vb ?_,hs.aE⟩;unfold ti
     first | exact (decide_eq_true (by omega)).symm | exact (decide_eq_false (by omega)).symm | exact decide_eq_decide.2 (by omega) | exact decide_eq_decide.2 (bJ.ext_iff.trans (by dsimp only; omega))
    ·intro jz;refine ⟨vb ?_,hs.aE⟩;unfold ti
     first | exact (decide_eq_true (by omega)).symm | exact (decide_eq_false (by omega)).symm | exact decide_eq_decide.2 (by omega) | exact decide_eq_decide.2 (bJ.ext_iff.trans (by dsimp only; omega))
  ·intro jz;refine ⟨vb ?_,hs.aE⟩;unfold ti
   first | exact (decide_eq_true (by omega)).symm | exact (decide_eq_false (by omega)).symm | exact decide_eq_decide.2 (by omega) | exact decide_eq_decide.2 (bJ.ext_iff.trans (by dsimp only; omega))
theorem eqE (x y:bJ):zz (Flat.enc x) (Flat.enc y)=decide (x=y):=by
 obtain ⟨a,b,c,d⟩:=x
 obtain ⟨a2,b2,c2,d2⟩:=y
 simp [Flat.enc,zz,eqV,Bool.eq_iff_iff]
theorem C226 (x:bJ) (w:World):CR 226 [Flat.val x] w (λ v w'=>v = .bool (right x)∧Ext w w'):=by
 have hs:=St.start w;refine aax _ _ _ ?_;unfold S226;refine dE hs (λ Vb w1 hs=>aA pH (aB bN hs.hb rfl (aH (aC (λ oA=>?_) (λ oA=>?_)))))
 ·refine ⟨_,?_,λ _ _ h=>h⟩;refine aA lj (aB bN hs.hb rfl (dI (aC (λ gr=>?_) (λ gr=>?_))))
  ·refine aA nS (aB bN hs.hb rfl (dI ?_));intro fu;refine ⟨vb ?_,hs.aE⟩;unfold right
   first | exact (decide_eq_true (by omega)).symm | exact (decide_eq_false (by omega)).symm | exact decide_eq_decide.2 (by omega) | exact decide_eq_decide.2 (bJ.ext_iff.trans (by dsimp only; omega))
  ·intro fu;refine ⟨vb ?_,hs.aE⟩;unfold right
   first | exact (decide_eq_true (by omega)).symm | exact (decide_eq_false (by omega)).symm | exact decide_eq_decide.2 (by omega) | exact decide_eq_decide.2 (bJ.ext_iff.trans (by dsimp only; omega))
 ·refine ⟨_,?_,λ _ _ h=>h⟩;refine aH (aC (λ eM=>?_) (λ eM=>?_))
  ·intro jz;refine aC (λ jQ=>?_) (λ jQ=>?_)
   ·refine ⟨_,?_,λ _ _ h=>h⟩;refine aA lj (aB bN hs.hb rfl (dI (aC (λ jC=>?_) (λ jC=>?_))))
    ·refine aA nS (aB bN hs.hb rfl (aH (aC (λ gQ=>?_) (λ gQ=>?_))))
     ·refine aA m4 (aB bN hs.hb rfl (aH ?_));intro oG;refine ⟨vb ?_,hs.aE⟩;unfold right
      first | exact (decide_eq_true (by omega)).symm | exact (decide_eq_false (by omega)).symm | exact decide_eq_decide.2 (by omega) | exact decide_eq_decide.2 (bJ.ext_iff.trans (by dsimp only; omega))
     ·intro oG;refine ⟨vb ?_,hs.aE⟩;unfold right
      first | exact (decide_eq_true (by omega)).symm | exact (decide_eq_false (by omega)).symm | exact decide_eq_decide.2 (by omega) | exact decide_eq_decide.2 (bJ.ext_iff.trans (by dsimp only; omega))
    ·intro oG;refine ⟨vb ?_,hs.aE⟩;unfold right
     first | exact (decide_eq_true (by omega)).symm | exact (decide_eq_false (by omega)).symm | exact decide_eq_decide.2 (by omega) | exact decide_eq_decide.2 (bJ.ext_iff.trans (by dsimp only; omega))
   ·refine aD lh hs.At (pop (KC _) (lG Uu rfl rfl (eqE x ⟨7,0,0,0⟩) ?_));refine ⟨vb ?_,hs.aE⟩;unfold right
    first | exact (decide_eq_true (by omega)).symm | exact (decide_eq_false (by omega)).symm | exact decide_eq_decide.2 (by omega) | exact decide_eq_decide.2 (bJ.ext_iff.trans (by dsimp only; omega))
  ·refine aH ?_;intro jz;refine aC (λ jQ=>?_) (λ jQ=>?_)
   ·refine ⟨_,?_,λ _ _ h=>h⟩;refine aA lj (aB bN hs.hb rfl (dI (aC (λ jC=>?_) (λ jC=>?_))))
    ·refine aA nS (aB bN hs.hb rfl (aH (aC (λ gQ=>?_) (λ gQ=>?_))))
     ·refine aA m4 (aB bN hs.hb rfl (aH ?_));intro oG;refine ⟨vb ?_,hs.aE⟩;unfold right
      first | exact (decide_eq_true (by omega)).symm | exact (decide_eq_false (by omega)).symm | exact decide_eq_decide.2 (by omega) | exact decide_eq_decide.2 (bJ.ext_iff.trans (by dsimp only; omega))
     ·intro oG;refine ⟨vb ?_,hs.aE⟩;unfold right
      first | exact (decide_eq_true (by omega)).symm | exact (decide_eq_false (by omega)).symm | exact decide_eq_decide.2 (by omega) | exact decide_eq_decide.2 (bJ.ext_iff.trans (by dsimp only; omega))
    ·intro oG;refine ⟨vb ?_,hs.aE⟩;unfold right
     first | exact (decide_eq_true (by omega)).symm | exact (decide_eq_false (by omega)).symm | exact decide_eq_decide.2 (by omega) | exact decide_eq_decide.2 (bJ.ext_iff.trans (by dsimp only; omega))
   ·refine aD lh hs.At (pop (KC _) (lG Uu rfl rfl (eqE x ⟨7,0,0,0⟩) ?_));refine ⟨vb ?_,hs.aE⟩;unfold right
    first | exact (decide_eq_true (by omega)).symm | exact (decide_eq_false (by omega)).symm | exact decide_eq_decide.2 (by omega) | exact decide_eq_decide.2 (bJ.ext_iff.trans (by dsimp only; omega))
def r9 (l:List bJ) (i:Int):Bool:=decide (0≤i∧i<l.length) && (match l[i.toNat]? with | some x=>(l.take i.toNat).all (ti x) | none=>false)
def yn (l:List bJ):List Int:=((List.range l.length).map fun (k:Nat)=>(k:Int)).filter (r9 l)
theorem uu {l:List bJ} {i:Int} (h:i<0∨(l.length:Int)≤i):r9 l i=false:=by
 unfold r9
 have:decide (0≤i∧i<l.length)=false:=by rw [decide_eq_false_iff_not]; omega
 rw [this]; rfl
theorem acW {l:List bJ} {i:Int} {x:bJ} (h0:0≤i) (h1:i<l.length) (hx:l[i.toNat]? = some x):r9 l i = !(l.take i.toNat).any λ y=>!ti x y:=by
 unfold r9
 rw [hx,decide_eq_true (show 0≤i∧i<l.length from ⟨h0,h1⟩)]
 simp [List.all_eq_not_any_not]
def tj (l:List bJ) (k:Nat):List Int:=((List.range k).map fun (k:Nat)=>(k:Int)).filter (r9 l)
theorem G4 (l:List bJ) (k:Nat):(tj l k).length≤k:=by
 unfold tj
 have:=List.length_filter_le (r9 l) ((List.range k).map fun (k:Nat)=>(k:Int)); simpa using this
theorem Ol {l:List bJ} {k:Nat} (h:r9 l k=true):tj l (k+1)=tj l k++[(k:Int)]:=by
 unfold tj; rw [List.range_succ,List.map_append,List.filter_append]; simp [h]
theorem Sj {l:List bJ} {k:Nat} (h:r9 l k=false):tj l (k+1)=tj l k:=by
 unfold tj; rw [List.range_succ,List.map_append,List.filter_append]; simp [h]
theorem ET (l:List bJ) {k:Nat} (h:k=l.length):tj l k=yn l:=by subst h; rfl
def wI (w:World) (p:Nat) (room:Int) (l:List bJ):Prop:=∃ sv,Cell w p 0 (.int .i64 room)∧Cell w p 1 sv∧eL (λ _=>True) w sv l
def nI (p:Nat) (room:Int) (l:List bJ):HP:=ua λ sv=>sep (cC p [.int .i64 room,sv]) (bL sv l)
theorem wI.ext {w w':World} {p:Nat} {room:Int} {l:List bJ} (h:wI w p room l) (e:Ext w w'):wI w' p room l:=by
 obtain ⟨sv,h1,h2,h3⟩:=h; exact ⟨sv,h1.ext e,h2.ext e,h3.ext e⟩
theorem nI.rd {w:World} {F:Nat→Prop} {p:Nat} {room:Int} {l:List bJ} (h:(nI p room l).p w F):wI w p room l:=by
 obtain ⟨sv,F1,F2,h1,h2,_⟩:=h
 exact ⟨sv,h1.1.cell rfl,h1.1.cell rfl,(bL.rd h2).mono λ _ _=>trivial⟩
theorem C224 (sv fv:Value) (xs:List bJ) (g:bJ→Bool) (w:World) (hL:eL (λ _=>True) w sv xs) (hf:Co w fv g) (hn:xs.length≤1073741824):CR 224 [sv,fv] w (λ v w'=>v = .int .i64 (uV g xs)∧Ext w w'):=by
 obtain ⟨g0,first,cap,rfl,uH,l4⟩:=hf;have hs:=St.start w;refine aav _ _ _ _ ?_;unfold S224;refine aJ pE (hL.ext hs.aE) ?_;refine ⟨λ m x w1=>∃ k:Nat,x = .int .i64 (k:Int)∧m=xs.length - k∧k≤xs.length∧(∀ y∈xs.take k,g y=false)∧St w bD [] w1,⟨_,0,rfl,rfl,Nat.zero_le _,by simp,hs⟩,?_⟩;rintro m _ w1 ⟨k,rfl,rfl,hk,fQ,hs⟩ fu;refine aR (aC (λ gr=>?_) (λ gr=>?_))
 ·obtain ⟨js,dD⟩:=gx (xs) (i:=((k:Int)).toNat) (by omega);refine aQ pE (hL.ext hs.aE) (by omega) dD (λ _ iT=>aD lh (iT) (gg uH (l4 js w1 hs.aE) ?_));rintro _ w2 ⟨rfl,he⟩;have hs:=hs.ext he;refine aY (λ eM=>?_) (λ eM=>?_)
  ·exact ⟨congrArg (Value.int .i64) (pq fQ dD eM).symm,hs.aE⟩
  ·refine aN (by omega) ?_;exact ⟨xs.length - (k+1),by omega,k+1,rfl,rfl,by omega,ew fQ dD eM,hs⟩
 ·exact ⟨congrArg (Value.int .i64) (ku (by rw [List.take_of_length_le (by omega)] at fQ; exact fQ)).symm,hs.aE⟩
theorem C192 (sv fv:Value) (xs:List bJ) (g:bJ→Bool) (w:World) (hL:eL (λ _=>True) w sv xs) (hf:Co w fv g) (hn:xs.length≤1073741824):CR 192 [sv,fv] w (λ v w'=>v = .bool (xs.any g)∧Ext w w'):=by
 have hs:=St.start w;refine Z6 _ _ _ _ ?_;unfold S192;refine aZ ans hs (C224 _ _ _ _ _ (hL.ext hs.aE) (hf.ext hs.aE) (by omega)) (λ w1 he hs=>dI ?_);exact ⟨vb (n8 _ _),hs.aE⟩
theorem C190 (x y:bJ) (p b2 b3:Nat) (i:Int) (room:Int) (l:List bJ) (w:World) (h2:Cell w b2 0 (.pointer (some ⟨p,0,none⟩))) (h3:Cell w b3 0 (.int .i64 i)) (hb:wI w p room l) (h0:0≤i) (hx:l[i.toNat]? = some x):CR 190 [Flat.val y,.pointer (some ⟨b2,0,none⟩),.pointer (some ⟨b3,0,none⟩)] w (λ v w'=>v = .bool (!ti x y)∧Ext w w'):=by
 obtain ⟨sv,vr,CQ,hL⟩:=hb;have mE:=(List.getElem?_eq_some_iff.1 hx).1;have hs:=St.start w;refine Z4 _ _ _ _ _ ?_;unfold S190;refine dE hs (λ WA w1 hs=>have hs:=hs.drew;cG sj (h2.ext hs.aE) (aF (aA kq (cG xL (CQ.ext hs.aE) (cG bN (h3.ext hs.aE) (aQ pE (hL.ext hs.aE) h0 hx (λ _ qD=>aD lh (qD) (aD lh hs.At (aZ anc hs (C191 x y _) (λ w2 he hs=>bZ ?_))))))))));exact ⟨rfl,hs.aE⟩
theorem C124 (p:Nat) (i:Int) (room:Int) (l:List bJ) (w:World) (hb:wI w p room l) (hn:l.length≤1073741824):CR 124 [.pointer (some ⟨p,0,none⟩),.int .i64 i] w (λ v w'=>v = .bool (r9 l i)∧Ext w w'):=by
 have I3:=hb;obtain ⟨sv,vr,CQ,hL⟩:=hb;have hs:=St.start w;refine Ze _ _ _ _ ?_;unfold S124;refine tN hs rfl (λ aqu w1 hs=>tN hs rfl (λ aqv w2 hs=>?_));refine ⟨_,?_,λ _ _ h=>h⟩;have hs:=hs.drew;refine aB bN hs.hb rfl (aR (aC (λ iN=>?_) (λ iN=>?_)))
 ·intro fu;refine nN ?_;exact ⟨vb (uu (by omega)).symm,hs.aE⟩
 ·refine aB bN hs.hb rfl (aB sj hs.p1.hb rfl (aF (aA kq (cG xL (CQ.ext hs.aE) (aJ pE (hL.ext hs.aE) (dI ?_))))));intro fu;refine aC (λ eM=>?_) (λ eM=>?_)
  ·exact ⟨vb (uu (by omega)).symm,hs.aE⟩
  ·have hs:=hs.drew;refine aB sj hs.p1.hb rfl (aF (aA kq (cG xL (CQ.ext hs.aE) (aB bN hs.hb rfl (RP pE (hL.ext hs.aE) (by omega) (by omega) (λ aos pO=>?_))))));obtain ⟨x,hx⟩:∃ x,l[i.toNat]? = some x:=⟨_,List.getElem?_eq_getElem (by omega)⟩
   have KF:Co _ (.func (.func 190) [].toArray [.pointer (some ⟨aqu,0,none⟩),.pointer (some ⟨aqv,0,none⟩)].toArray) (λ y=>!ti x y):=
    ⟨190,[],_,rfl,anb,λ y w1 e1=>C190 x y p aqu aqv i room l w1 ((hs.p1.hb.cell rfl).ext e1) ((hs.hb.cell rfl).ext e1) ((I3.ext hs.aE).ext e1) (by omega) hx⟩
   refine aZ ane hs (C192 _ _ _ _ _ pO KF (by rw [List.length_take]; omega)) (λ w4 he hs=>bZ ?_);exact ⟨vb (acW (by omega) (by omega) hx).symm,hs.aE⟩
theorem C123 (p:Nat) (room:Int) (l:List bJ) (w:World) (hb:wI w p room l):CR 123 [.pointer (some ⟨p,0,none⟩)] w (λ v w'=>v = .bool (decide (room≤l.length))∧Ext w w'):=by
 obtain ⟨sv,vr,CQ,hL⟩:=hb;have hs:=St.start w;refine Zd _ _ _ ?_;unfold S123;refine aF (aA kq (have hs:=hs.drew;cG xL (CQ.ext hs.aE) (aJ pE (hL.ext hs.aE) (aF (aA Ks (cG bN (vr.ext hs.aE) (dI ?_)))))));exact ⟨rfl,hs.aE⟩
theorem C57 (p:Nat) (room:Int) (l:List bJ) (w:World) (hb:wI w p room l) (hn:l.length≤1048576):CR 57 [.pointer (some ⟨p,0,none⟩)] w (λ v w'=>mc (bL v (yn l)) w w'):=by
 have I3:=hb;obtain ⟨sv,vr,CQ,hL⟩:=hb;have hs:=St.start w;refine ag7 _ _ _ ?_;unfold S57;refine aF (aA kq (cG xL (CQ.ext hs.aE) (aJ pE (hL.ext hs.aE) ?_)));refine ⟨λ m o x w1=>∃ k:Nat,x = .int .i64 (k:Int)∧m=l.length - k∧k≤l.length∧St w bD [bL o (tj l k)] w1,⟨_,0,rfl,rfl,Nat.zero_le _,hs.fY⟩,?_⟩;rintro m o _ w1 ⟨k,rfl,rfl,hk,hs⟩ fu;have Qs:=G4 l k;refine aR (aC (λ gJ=>?_) (λ gJ=>?_))
 ·refine ⟨_,?_,λ _ _ h=>h⟩;refine aZ aei hs (C124 _ _ _ _ _ (I3.ext hs.aE) (by omega)) (λ w2 he hs=>aY (λ jQ=>?_) (λ jQ=>?_))
  ·refine bX (([(k:Int)]:List Int)) hs eg rfl rfl (eE rfl) (λ ae2 w3 hs=>?_);have oc:=(hs).fM;refine cP hs.p1 eg oc (by simp <;> omega) (by decide) (λ UT w4 hs=>?_);have hs:=hs.p1.drop;intro jz;refine aN (by omega) ?_;exact ⟨l.length - (k+1),by omega,k+1,rfl,rfl,by omega,by rw [Ol jQ]; exact hs⟩
  ·intro jz;refine aN (by omega) ?_;exact ⟨l.length - (k+1),by omega,k+1,rfl,rfl,by omega,by rw [Sj jQ]; exact hs⟩
 ·rw [ET l (by omega)] at hs;exact hs.fresh
def Om (room:Int) (l:List bJ) (x:bJ):Int:=if right x=true then (if room≤l.length then 2 else 0) else 1
def vj (room:Int) (l:List bJ) (x:bJ):List bJ:=if right x=true∧¬ room≤l.length then l++[x] else l
def ee (l:List bJ) (i:Int):bJ:=if r9 l i=true then (l[i.toNat]?).getD ⟨0,0,0,0⟩ else ⟨0,0,0,0⟩
def An (l:List bJ) (i:Int):Int:=if 0≤i∧i<l.length then (if r9 l i=true then 0 else 13) else 1
def kN (l:List bJ) (i:Int):List bJ:=if r9 l i=true then l.eraseIdx i.toNat else l
theorem QK {l:List bJ} {i:Int} (h:r9 l i=true):0≤i∧i<l.length:=by
 unfold r9 at h; rw [Bool.and_eq_true,decide_eq_true_eq] at h; exact h.1
theorem wI.mk' {w:World} {p:Nat} {room:Int} {sv:Value} {l:List bJ} (h1:tM w p [.int .i64 room,sv]) (h2:eL (λ _=>True) w sv l):wI w p room l:=
 ⟨sv,h1.cell rfl,h1.cell rfl,h2⟩
theorem nI.shut {w0 w:World} {A:Nat→Prop} {R:List HP} {p:Nat} {room:Int} {sv:Value} {l:List bJ} (hs:St w0 A (cC p [.int .i64 room,sv]::bL sv l::R) w):St w0 A (nI p room l::R) w:=
 St.eJ (H:=λ sv=>sep (cC p [.int .i64 room,sv]) (bL sv l)) sv (St.join hs)
theorem QL {w0 w:World} {A:Nat→Prop} {R:List HP} {p:Nat} {room:Int} {l:List bJ} (hs:St w0 A (nI p room l::R) w):wI w p room l:=by
 obtain ⟨F,h,_⟩:=hs.head; exact nI.rd h
theorem C193 (v:Value) (i:Int) (xs:List bJ) (F:Nat→Prop) (w:World) (hv:(bL v xs).p w F) (h0:0≤i) (hi:i<xs.length) (hn:xs.length≤1073741824) :
  CR 193 [v,.int .i64 i,.int .i64 (i+1)] w (λ v' w'=>True∧qx F (bL v' (xs.eraseIdx i.toNat)) w w'):=by
 obtain ⟨i,rfl⟩:=Int.eq_ofNat_of_zero_le h0;replace hi:i<xs.length:=by omega
 rw [Int.toNat_natCast];have FC:=bL.rd hv;obtain ⟨b,cap,rest,rfl,hb,hl,hF⟩:=qM hv hi;have hlen:(flat xs).length=xs.length * 4:=cQ xs;have Kh:xs.length≤cap:=by rw [List.length_append,hlen] at hl; change _=cap * 4 at hl; omega
 refine Z7 _ _ _ _ _ ?_;unfold S193;refine pop (H9 pE) (Uw pE (by omega) (by omega) (by omega) (by omega) (λ _=>aH (aC (λ c=>absurd c (by omega)) (λ _=>pop (H9 pE) ?_))))
 have e22:pr PG (Instr.sliceAt 80 (.slice (some ⟨b,0,none⟩) xs.length cap) none (some (.int .i64 (i:Int))) none)=some (.slice (some ⟨b,0,none⟩) i cap):=by
  rw [Ba pE (l:=0) (h:=i) (qL (.inl ⟨rfl,rfl⟩) (.inr ⟨_,rfl,by omega,by omega⟩) (by omega) (by omega))];simp [gw]
 refine pop e22 (RQ pE FC (by omega) (by omega) (λ s25 h25=>?_));rw [show ((i:Int)+1).toNat=i+1 from by omega] at h25;have hdl:(xs.drop (i+1)).length=xs.length - (i+1):=by simp
 obtain ⟨w1,r1,b1,g1⟩:=FM (P:=PG) (R:=80) (n:=i) (cap:=cap) pE (hb.of_eq (w':=drew w) rfl) (h25.ext (Ext.drew w)) (by omega) (by rw [List.length_append,hlen,hdl]; change i * 4+(xs.length - (i+1)) * 4≤_; omega);rw [hdl,show i+(xs.length - (i+1))=xs.length - 1 from by omega] at r1;refine ⟨_,w1,r1,?_⟩;refine pop (H9 pE) ?_
 have e31:pr PG (Instr.sliceAt 80 (.slice (some ⟨b,0,none⟩) (xs.length - 1) cap) (some (.int .i64 ((xs.length - 1:Nat):Int))) (some (.int .i64 (xs.length:Int))) none)=some (.slice (some ⟨b,(xs.length - 1) * 4,none⟩) 1 (cap - (xs.length - 1))):=by
  rw [Ba pE (l:=xs.length - 1) (h:=xs.length) (qL (.inr ⟨_,rfl,by omega,by omega⟩) (.inr ⟨_,rfl,by omega,by omega⟩) (by omega) (by omega)),if_neg (by omega)];simp [gw]; omega
 refine pop e31 ?_;have hx:xs[i]? = some xs[i]:=by simp [hi]
 have Nc:=yy hx;have hT:(flat (xs.take i)).length=i * 4:=by rw [cQ,List.length_take,Nat.min_eq_left (by omega)]; rfl
 have hD:(flat (xs.drop (i+1))).length=(xs.length - (i+1)) * 4:=by rw [cQ,hdl]; rfl
 have hX:(Flat.enc xs[i]).length=4:=rfl;have hZ:(flat (List.replicate 1 (⟨0,0,0,0⟩:bJ))).length=4:=rfl
 have s1:ib (flat xs++rest) (i * Flat.sz bJ) (flat (xs.drop (i+1))) =
   flat (xs.take i)++flat (xs.drop (i+1))++((Flat.enc xs[i]++flat (xs.drop (i+1))).drop (flat (xs.drop (i+1))).length++rest):=by
  have:=kQ (flat (xs.take i)) ((Flat.enc xs[i]++flat (xs.drop (i+1))).take (flat (xs.drop (i+1))).length)
   ((Flat.enc xs[i]++flat (xs.drop (i+1))).drop (flat (xs.drop (i+1))).length++rest) (flat (xs.drop (i+1))) (by rw [List.length_take,List.length_append]; omega)
  rw [hT] at this
  change ib (flat xs++rest) (i * 4) _=_
  rw [← this,Nc]
  have e0:∀ (a b c d:List Value) (n:Nat),a++(b++c)++d=a++(b++c).take n++((b++c).drop n++d):=λ a b c d n=>by
   rw [List.append_assoc a ((b++c).take n),← List.append_assoc ((b++c).take n),List.take_append_drop,List.append_assoc a]
  exact congrArg (λ z=>ib z (i * 4) (flat (xs.drop (i+1)))) (by first | exact e0 _ _ _ _ _ | (rw [← e0]; simp only [List.append_assoc]) | (simp only [List.append_assoc]; rw [← List.append_assoc (List.take _ _),List.take_append_drop,List.append_assoc]))
 rw [s1] at b1
 obtain ⟨w2,r2,b2,g2⟩:=RX (P:=PG) (R:=0) (o:=(xs.length - 1) * 4) (n:=1) (c:=cap - (xs.length - 1)) (z:=(⟨0,0,0,0⟩:bJ)) pE uR b1
  (by simp only [List.length_append,List.length_drop,hT,hD,hX]; change _+1 * 4≤_; omega)
 refine ⟨_,w2,r2,?_⟩
 have s2:=kQ (flat (xs.take i)++flat (xs.drop (i+1))) ((Flat.enc xs[i]++flat (xs.drop (i+1))).drop (flat (xs.drop (i+1))).length) rest (flat (List.replicate 1 (⟨0,0,0,0⟩:bJ)))
  (by rw [List.length_drop,List.length_append,hX,hZ]; omega)
 rw [show (flat (xs.take i)++flat (xs.drop (i+1))).length=(xs.length - 1) * 4 from by rw [List.length_append,hT,hD]; omega,List.append_assoc _ _ rest] at s2;rw [s2] at b2;refine ⟨trivial,F,.inr ⟨b,cap,flat (List.replicate 1 (⟨0,0,0,0⟩:bJ))++rest,?_,?_,?_,hF⟩,λ b hb=>.inl hb,?_⟩
 ·rw [List.length_eraseIdx_of_lt hi]
 ·rw [List.eraseIdx_eq_take_drop_succ,ix,← List.append_assoc]; exact b2
 ·rw [List.eraseIdx_eq_take_drop_succ,ix]
  change _=cap * 4
  change _=cap * 4 at hl
  rw [List.length_append,hlen] at hl;simp only [List.length_append,hT,hD,hZ];omega
 ·exact ((Ext.drew w).aE (A:=F)).trans (g1.trans (C:=F) g2 (λ k hk=>(hF k).2 hk) λ k _ hk=>(hF k).2 hk) (λ _ h=>h) λ _ _ h=>h
theorem C154 (sv:Value) (xs:List bJ) (w:World) (hL:eL (λ _=>True) w sv xs) (hn:xs.length≤1073741824):CR 154 [sv] w (λ v w'=>mc (bL v xs) w w'):=by
 have hL0:=hL;obtain ⟨a,cap,rfl,Kh,h3⟩:=hL;have hs:=St.start w;refine Zu _ _ _ ?_;unfold S154;refine T9 (gv pE).1 (λ h0=>?_) ?_
 ·rcases h3 with ⟨h,hc⟩ | ⟨b,o,h,_⟩
  ·exact ⟨by rw [h]; rfl,hc⟩
  ·rw [h0] at h; cases h
 refine aY (λ oB=>?_) (λ oB=>?_)
 ·have ha:a=none:=by cases a with | none=>rfl | some _=>cases oB
  have hx:xs=[]:=by
   rcases h3 with ⟨h,_⟩ | ⟨b,o,h,_⟩
   ·exact h
   ·rw [ha] at h; cases h
  subst hx;exact hs.fY.fresh
 ·refine bX (([]:List bJ)) hs pE rfl rfl (eE rfl) (λ IA w1 hs=>?_);have z7:=(hL0.ext hs.aE);refine cP hs pE z7 (by simp <;> omega) (by decide) (λ Ln w2 hs=>?_);exact hs.fresh
theorem C91 (p:Nat) (room:Int) (l:List bJ) (w:World) (hb:wI w p room l) (hn:l.length≤1073741824):CR 91 [.pointer (some ⟨p,0,none⟩)] w (λ v w'=>mc (bL v l) w w'):=by
 obtain ⟨sv,vr,CQ,hL⟩:=hb;have hs:=St.start w;refine ahu _ _ _ ?_;unfold S91;refine aF (aA kq (cG xL (CQ.ext hs.aE) (eu aeo (C154 _ _ _ (hL.ext hs.aE) (by omega)) ?_)));rintro _ w1 cA;have hs:=hs.made cA;exact hs.fresh
theorem WB {room:Int} {l:List bJ} {x:bJ} (h:right x=false):Om room l x=1:=by unfold Om; rw [h]; rfl
theorem WC {room:Int} {l:List bJ} {x:bJ} (h:right x=false):vj room l x=l:=by unfold vj; rw [h]; rfl
theorem Sk {room:Int} {l:List bJ} {x:bJ} (h:right x=true) (hf:room≤l.length):Om room l x=2:=by unfold Om; rw [h,if_pos rfl,if_pos hf]
theorem Sl {room:Int} {l:List bJ} {x:bJ} (hf:room≤l.length):vj room l x=l:=by unfold vj; rw [if_neg (λ hh=>hh.2 hf)]
theorem acX {room:Int} {l:List bJ} {x:bJ} (h:right x=true) (hf:¬ room≤l.length):Om room l x=0:=by unfold Om; rw [h,if_pos rfl,if_neg hf]
theorem acY {room:Int} {l:List bJ} {x:bJ} (h:right x=true) (hf:¬ room≤l.length):vj room l x=l++[x]:=by unfold vj; rw [if_pos ⟨h,hf⟩]
theorem C196 (p:Nat) (room:Int) (l:List bJ) (x:bJ) (F:Nat→Prop) (w:World) (hF:(nI p room l).p w F) (hn:l.length≤1048576):CR 196 [.pointer (some ⟨p,0,none⟩),Flat.val x] w (λ v w'=>v = .int .i64 (Om room l x)∧qx F (nI p room (vj room l x)) w w'):=by
 have hs:=St.begin hF;obtain ⟨sv,hs⟩:=hs.eQ;have hs:=hs.split;refine aaa _ _ _ _ ?_;unfold S196;refine dE hs (λ Ey w1 hs=>aD lh hs.At (aZ anu hs (C226 _ _) (λ w2 he hs=>bZ (aY (λ gi=>?_) (λ gi=>?_)))))
 ·have hs:=hs.p2.p2;rw [WB (by simpa using gi),WC (by simpa using gi)];exact ⟨rfl,(nI.shut hs).mut⟩
 ·refine aZ aeh hs (C123 _ _ _ _ (wI.mk' hs.p1.hb hs.p2.fM)) (λ w3 he hs=>aC (λ gJ=>?_) (λ gJ=>?_))
  ·have hs:=hs.p2.p2;rw [Sk (by simpa using gi) gJ,Sl gJ];exact ⟨rfl,(nI.shut hs).mut⟩
  ·refine aF (aA kq (have hs:=hs.drew;aB xL hs.p1.hb rfl (aD lh hs.At (bX ([x]) hs pE rfl rfl (eE rfl) (λ ae2 w4 hs=>?_)))));refine ⟨aG xL (hs.p2.hb.cell rfl),?_⟩;have oc:=(hs).fM;refine cP hs.p3 pE oc (by simp <;> omega) (by decide) (λ UT w5 hs=>have hs:=hs.p1.drop;aF (aA kq (aV hs.p2 xL (eE rfl) ((hs).fM.one) (λ w6 hs=>?_))));have hs:=hs.p1.p1;rw [acX (by simpa using gi) gJ,acY (by simpa using gi) gJ];exact ⟨rfl,(nI.shut hs).mut⟩
theorem BA {l:List bJ} {i:Int} (h:r9 l i=false):ee l i=⟨0,0,0,0⟩:=by unfold ee; rw [h]; rfl
theorem BB {l:List bJ} {i:Int} (h:r9 l i=false):kN l i=l:=by unfold kN; rw [h]; rfl
theorem G5 {l:List bJ} {i:Int} (h:i<0∨(l.length:Int)≤i):An l i=1:=by unfold An; rw [if_neg (by omega)]
theorem WD {l:List bJ} {i:Int} (h0:0≤i∧i<l.length) (h:r9 l i=false):An l i=13:=by unfold An; rw [if_pos h0,h]; rfl
theorem WE {l:List bJ} {i:Int} (h:r9 l i=true):An l i=0:=by unfold An; rw [if_pos (QK h),h]; rfl
theorem WG {l:List bJ} {i:Int} {x:bJ} (h:r9 l i=true) (hx:l[i.toNat]? = some x):ee l i=x:=by unfold ee; rw [h,hx]; rfl
theorem WH {l:List bJ} {i:Int} (h:r9 l i=true):kN l i=l.eraseIdx i.toNat:=by unfold kN; rw [h]; rfl
theorem C127 (p:Nat) (room:Int) (l:List bJ) (i:Int) (F:Nat→Prop) (w:World) (hF:(nI p room l).p w F) (hn:l.length≤1048576):CR 127 [.pointer (some ⟨p,0,none⟩),.int .i64 i] w (λ v w'=>v = .tuple #[Flat.val (ee l i),.int .i64 (An l i)]∧qx F (nI p room (kN l i)) w w'):=by
 have hs:=St.begin hF;obtain ⟨sv,hs⟩:=hs.eQ;have hs:=hs.split;refine Zh _ _ _ _ ?_;unfold S127;refine aO hs uR (λ Cq w1 hs=>?_);refine ⟨_,?_,λ _ _ h=>h⟩;refine aR (aC (λ gi=>?_) (λ gi=>?_))
 ·intro fu;refine nN (pop (Ip) (aI (x:=(⟨0,0,0,0⟩:bJ)) hs lh rfl rfl (λ w3 hs=>aD lh hs.At ?_)));have hs:=hs.p2.p2;rw [BA (uu (by omega)),G5 (by omega),BB (uu (by omega))];exact ⟨rfl,(nI.shut hs).mut⟩
 ·refine aF (aA kq (aB xL hs.p1.hb rfl (aJ pE (hs.p2).fM (dI ?_))));intro fu;refine aC (λ mf=>?_) (λ mf=>?_)
  ·refine pop (Ip) (aI (x:=(⟨0,0,0,0⟩:bJ)) hs lh rfl rfl (λ w3 hs=>aD lh hs.At ?_));have hs:=hs.p2.p2;rw [BA (uu (by omega)),G5 (by omega),BB (uu (by omega))];exact ⟨rfl,(nI.shut hs).mut⟩
  ·refine aZ aei hs (C124 _ _ _ _ _ (wI.mk' hs.p1.hb hs.p2.fM) (by omega)) (λ w4 he hs=>bZ (aY (λ iS=>?_) (λ iS=>?_)))
   ·refine pop (Ip) (aI (x:=(⟨0,0,0,0⟩:bJ)) hs lh rfl rfl (λ w5 hs=>aD lh hs.At ?_));have hs:=hs.p2.p2;rw [BA (by simpa using iS),WD (by omega) (by simpa using iS),BB (by simpa using iS)];exact ⟨rfl,(nI.shut hs).mut⟩
   ·refine aF (aA kq (aB xL hs.p1.hb rfl ?_));obtain ⟨B8,lL⟩:=gx (l) (i:=(i).toNat) (by omega);refine dT hs.p2 pE (by omega) (by omega) (λ _ DZ=>ga hs.p2 lh DZ lL (aO hs uR (λ On w6 hs=>aI (x:=B8) hs lh rfl rfl (λ w7 hs=>aF (aA kq (aB xL hs.p2.hb rfl (eu aeo (C154 _ _ _ (hs.p3).fM (by omega)) ?_)))))));rintro _ w8 cA;have hs:=hs.made cA;refine aN (by omega) (po anf hs (H':=λ v=>bL v (l.eraseIdx i.toNat)) (Φ:=λ _ _=>True) (λ F hF=>?_) ?_)
    ·exact C193 _ i _ F _ hF (by omega) (by omega) (by omega)
    rintro x40 w9 _ hs;refine aF (aA kq (aV hs.p3 xL (eE rfl) ((hs).fM.one) (λ qd hs=>aD lh hs.p2.At (aI (x:=B8) hs.p3 lh rfl rfl (λ tG hs=>aD lh hs.At ?_)))));have hs:=hs.p2.p2;rw [WG (by simpa using iS) lL,WE (by simpa using iS),WH (by simpa using iS)];exact ⟨rfl,(nI.shut hs).mut⟩
def rK (l:List bJ) (c:Int):Option Int:=(l.reverse.find? λ x=>decide (x.kind=3∧x.cell=c)).map (·.n)
theorem C250 (y sv:Value) (b:Nat) (xs:List bJ) (J:Nat→World→Prop) (Jx:World→Prop) (w:World) (hn:xs.length≤1073741824)
  (hJ:∀ k W,J k W→Cell W b 0 sv∧eL (λ _=>True) W sv xs) (h0:J 0 w)
  (hy:∀ k x W,xs.reverse[k]? = some x→J k W→fZ PG y [.int .i64 ((xs.length:Int) - 1 - k),Flat.val x] W (λ v W'=>(v = .bool true∧J (k+1) W')∨(v = .bool false∧Jx W'))) :
  CR 250 [y,.pointer (some ⟨b,0,none⟩)] w (λ _ W=>J xs.length W∨Jx W):=by
 refine aaU _ _ _ _ ?_;unfold S250;refine cG xL (hJ 0 w h0).1 (aJ pE (hJ 0 w h0).2 (gD (by omega) ?_));refine ⟨λ m x w1=>∃ k:Nat,x = .int .i64 ((xs.length:Int) - 1 - k)∧m=xs.length - k∧k≤xs.length∧J k w1,⟨_,0,by simp,rfl,Nat.zero_le _,h0⟩,?_⟩;rintro m _ w1 ⟨k,rfl,rfl,hk,hj⟩ fu;refine dI (aC (λ c=>?_) (λ c=>?_))
 ·obtain ⟨h1,h2⟩:=hJ k w1 hj;have mE:k<xs.length:=by omega
  have hx:xs.reverse[k]? = some (xs[xs.length - 1 - k]'(by omega)):=by rw [List.getElem?_reverse mE,List.getElem?_eq_getElem]
  refine cG xL h1 (aQ pE h2 (by omega) (x:=xs[xs.length - 1 - k]'(by omega)) (by rw [List.getElem?_eq_getElem (by omega)]; congr 2; omega) (λ q hq=>?_));refine aD lh hq ?_;obtain Sm:=hy k _ w1 hx hj;refine fZ.mono Sm ?_;rintro v w2 (⟨rfl,hj2⟩ | ⟨rfl,AY⟩)
  ·refine bZ (fN (gD (by omega) ?_));exact ⟨xs.length - (k+1),by omega,k+1,by congr 1; omega,rfl,by omega,hj2⟩
  ·refine bZ (nN ?_);exact .inr AY
 ·have:k=xs.length:=by omega
  subst this;exact .inl hj
theorem C225 (sv:Value) (w:World) (h1:r7 sv=true):CR 225 [sv] w (λ v w'=>∃ b,v = .func (.func 250) [].toArray [.pointer (some ⟨b,0,none⟩)].toArray∧mc (cC b [sv]) w w'):=by
 have hs:=St.start w;refine aaw _ _ _ ?_;unfold S225;refine tN hs h1 (λ b w1 hs=>?_);exact ⟨b,rfl,hs.fresh⟩
theorem Sn {α:Type} {p:α→Bool} {l:List α} {k:Nat} {x:α} (fQ:∀ y∈l.take k,p y=false) (hx:l[k]? = some x) (hp:p x=true):l.find? p=some x:=by
 rw [List.find?_eq_some_iff_getElem]
 have hk:=(List.getElem?_eq_some_iff.1 hx)
 obtain ⟨mE,he⟩:=hk
 refine ⟨hp,k,mE,he,λ j hj=>?_⟩
 have:=fQ (l[j]'(by omega)) (List.mem_take_iff_getElem.2 ⟨j,by omega,rfl⟩)
 simp [this]
theorem C194 (p:Nat) (c room:Int) (l:List bJ) (w:World) (hb:wI w p room l) (hn:l.length≤1048576) :
  CR 194 [.pointer (some ⟨p,0,none⟩),.int .i64 c] w (λ v w'=>v = .tuple #[.int .i64 ((rK l c).getD 0),.bool (rK l c).isSome]∧Ext w w'):=by
 obtain ⟨sv,vr,CQ,hL⟩:=hb;have hs:=St.start w;refine Z8 _ _ _ _ ?_;unfold S194;refine tN hs rfl (λ b3 w1 hs=>yx hs BT rfl (λ b4 w2 hs=>yx hs aeH rfl (λ b5 w3 hs=>aF (aA kq (cG xL (CQ.ext hs.aE) (eu ant (C225 sv _ hL.one) ?_))))));rintro _ w4 ⟨b,rfl,cA⟩;have hs:=hs.made cA
 refine Ux (cap:=[.pointer (some ⟨b,0,none⟩)]) (xs:=(List.range l.length).map fun (k:Nat)=>[Value.int .i64 ((l.length:Int) - 1 - k),Flat.val ((l.reverse[k]?).getD ⟨0,0,0,0⟩)]) anK hs
  (λ k M=>M=[cC b [sv],cC b5 [.bool false],cC b4 [.int .i64 0],cC b3 [.int .i64 c]]∧∀ y∈l.reverse.take k,decide (y.kind=3∧y.cell=c)=false)
  (λ cd M=>cd = .ret∧∃ x,rK l c=some x∧M=[cC b5 [.bool true],cC b4 [.int .i64 x]])
  ⟨rfl,by simp⟩ (by simp) ?_ ?_ ?_ ?_ ?_ ?_
 ·
  intro y J Jx W hJ hJe hJ0 hy;refine (C250 y sv b l J Jx W (by omega) (λ k W hk=>?_) hJ0 (λ k x W hx hk=>?_)).mono λ _ _ r=>r.mono λ v W' h=>?_
  ·obtain ⟨Y,M,⟨rfl,_⟩,hS⟩:=hJ k W hk;exact ⟨hS.p1.hb.cell rfl,hL.ext hS.aE⟩
  ·have mE:=(List.getElem?_eq_some_iff.1 hx).1;rw [List.length_reverse] at mE;have:=hy k [Value.int .i64 ((l.length:Int) - 1 - k),Flat.val x] W (by rw [List.getElem?_map,List.getElem?_range mE]; simp [hx]) hk;exact this
  ·simpa using h
 ·
  rintro k args Y1 Y2 B Kr M W hk ⟨rfl,fQ⟩ hB hN hR hs
  have mE:k<l.length:=by
   have:=(List.getElem?_eq_some_iff.1 hk).1
   simpa using this
  obtain ⟨x,hx⟩:∃ x,l.reverse[k]? = some x:=⟨_,List.getElem?_eq_getElem (by simpa using mE)⟩
  have ha:args=[Value.int .i64 ((l.length:Int) - 1 - k),Flat.val x]:=by
   rw [List.getElem?_map,List.getElem?_range mE] at hk;simp [hx] at hk;exact hk.symm
  subst ha;dsimp only [RH];refine aO hs uR (λ b7 w6 hs=>pC hs lh rfl (by decide) (by simp [r7,ib]) (λ w7 hs=>?_));refine hB _ _ _ hs.p1 (λ w8 hs=>?_);have e7:ib [Value.int IntKind.i64 0,.int .i64 0,.int .i64 0,.int .i64 0] 0 [Value.int .i64 x.kind,.int .i64 x.line,.int .i64 x.cell,.int .i64 x.n]=Flat.enc x:=rfl;refine ⟨_,?_,λ _ _ h=>h⟩;refine aA pH (aB bN hs.p1.hb rfl (aH ?_))
  have no:¬ (x.kind=3∧x.cell=c)→Kr none w8:=λ hh=>by
   refine hN _ _ (hs.p1.drop.p0) ⟨rfl,?_⟩;exact ew fQ hx (by simpa using hh)
  refine aC (λ c1=>?_) (λ c1=>?_)
  ·refine aA nS (aB bN hs.p1.hb rfl (aB bN hs.p5.hb rfl (aH ?_)));intro fu;refine aC (λ c2=>?_) (λ c2=>no λ hh=>c2 hh.2);refine aA m4 (aB bN hs.p1.hb rfl (aV hs.p4 bN (Nat.le_of_ble_eq_true rfl) rfl (λ qd hs=>aV hs.p4 PV (Nat.le_of_ble_eq_true rfl) rfl (λ tG hs=>?_))));refine hR _ [cC b5 [.bool true],cC b4 [.int .i64 x.n]] _ ?_ ⟨rfl,x.n,?_,rfl⟩
   ·exact (hs.p5.drop.p4.drop.p3.drop).p2
   ·unfold rK;rw [Sn fQ hx (by simpa using ⟨c1,c2⟩)]; rfl
  ·intro fu;exact fN (no λ hh=>c1 hh.1)
 ·
  rintro D M W ⟨rfl,fQ⟩ hs;refine aV hs.p3 bN (Nat.le_of_ble_eq_true rfl) rfl (λ uU hs=>aV hs.p3 PV (Nat.le_of_ble_eq_true rfl) rfl (λ sw hs=>?_));refine aeQ hs.p2 (λ wc hs=>?_);refine aB bN hs.p1.hb rfl (aB PV hs.hb rfl ?_)
  have:rK l c=none:=by
   unfold rK
   rw [show l.reverse.find? _=none from List.find?_eq_none.2 λ y hy=>by
    have:=fQ y (by rw [List.take_of_length_le (by simp)]; exact hy);simp only [this]; exact Bool.false_ne_true]
   rfl
  rw [this];exact ⟨rfl,hs.aE⟩
 ·rintro D M W ⟨_,x,hl,rfl⟩ hs;refine aeQ hs (λ wc hs=>?_);refine aB bN hs.p1.hb rfl (aB PV hs.hb rfl ?_);rw [hl];exact ⟨rfl,hs.aE⟩
 ·rintro id D M W ⟨h,_⟩; cases h
 ·rintro c M ⟨h,_⟩; exact .inr h
theorem I4 {α:Type} {xs ys:List α} {k:Nat} {e f:α} (h:xs.take k=ys.take k) (h1:xs[k]? = some e) (h2:ys[k]? = some f) (he:e=f):xs.take (k+1)=ys.take (k+1):=by
 rw [List.take_add_one,List.take_add_one,h,h1,h2,he]
theorem So {α:Type} {xs ys:List α} {k:Nat} {e f:α} (h1:xs[k]? = some e) (h2:ys[k]? = some f) (he:¬ e=f):¬ xs=ys:=by
 rintro rfl; rw [h1] at h2; exact he (Option.some.inj h2)
theorem C52 (room:Int) (w:World):CR 52 [.int .i64 room] w (λ v w'=>((room<1∨16<room)∧v = .tuple #[.pointer none,.int .i64 1]∧Ext w w')∨(1≤room∧room≤16∧∃ b,v = .tuple #[.pointer (some ⟨b,0,none⟩),.int .i64 0]∧mc (nI b room []) w w')):=by
 have hs:=St.start w;refine ag2 _ _ _ ?_;unfold S52;refine ⟨_,?_,λ _ _ h=>h⟩;refine aR (aC (λ Nu=>?_) (λ Nu=>?_))
 ·intro fu;refine nN ?_;exact .inl ⟨by omega,rfl,hs.aE⟩
 ·refine cZ ?_;intro fu;refine aC (λ gr=>?_) (λ gr=>?_)
  ·exact .inl ⟨by omega,rfl,hs.aE⟩
  ·refine pop (Ur _) (l5 hs (λ b w2 hs=>?_));have hs:=(hs.fY (α:=bJ)).p1;exact .inr ⟨by omega,by omega,b,rfl,(nI.shut hs).fresh⟩
theorem C71 (p:Nat) (room:Int) (l:List bJ) (w:World) (hb:wI w p room l) (hn:l.length≤1048576):CR 71 [.pointer (some ⟨p,0,none⟩)] w (λ v w'=>∃ b,v = .pointer (some ⟨b,0,none⟩)∧mc (nI b room l) w w'):=by
 have I3:=hb;obtain ⟨sv,vr,CQ,hL⟩:=hb;have hs:=St.start w;refine ahl _ _ _ ?_;unfold S71;refine aF (aA Ks (have hs:=hs.drew;cG bN (vr.ext hs.aE) (eu amx (C91 _ _ _ _ (I3.ext hs.aE) (by omega)) ?_)));rintro _ w1 cA;have hs:=hs.made cA;refine ⟨aG bN (vr.ext hs.aE),?_⟩;obtain ⟨a8,c8,e8,_⟩:=(hs).fM;subst e8;refine pop (Nl _ _ _ _) (l5 hs (λ b w2 hs=>?_));exact ⟨b,rfl,(nI.shut hs).fresh⟩
theorem C21 (av bv:Value) (xs ys:List Int) (w:World) (hA:eL (λ _=>True) w av xs) (hB:eL (λ _=>True) w bv ys) (hn:xs.length≤1073741824):CR 21 [av,bv] w (λ v w'=>v = .bool (decide (xs=ys))∧Ext w w'):=by
 have hs:=St.start w;refine agE _ _ _ _ ?_;unfold S21;refine aJ eg (hA.ext hs.aE) (aJ eg (hB.ext hs.aE) (cT (aC (λ fB=>?_) (λ fB=>?_))))
 ·exact ⟨vb (decide_eq_false (by rintro rfl; omega)).symm,hs.aE⟩
 ·refine ⟨λ m x w1=>∃ k:Nat,x = .int .i64 (k:Int)∧m=xs.length - k∧k≤xs.length∧xs.take k=ys.take k∧St w bD [] w1,⟨_,0,rfl,rfl,Nat.zero_le _,rfl,hs⟩,?_⟩;rintro m _ w1 ⟨k,rfl,rfl,hk,WI,hs⟩ fu;refine aJ eg (hA.ext hs.aE) (aR (aC (λ gV=>?_) (λ gV=>?_)))
  ·obtain ⟨jg,fE⟩:=gx (xs) (i:=((k:Int)).toNat) (by omega);refine aQ eg (hA.ext hs.aE) (by omega) fE (λ _ jR=>have hs:=hs.drew;aD bN (jR) ?_);obtain ⟨rp,ky⟩:=gx (ys) (i:=((k:Int)).toNat) (by omega);refine aQ eg (hB.ext hs.aE) (by omega) ky (λ _ pO=>aD bN (pO) (cT (aC (λ fH=>?_) (λ fH=>?_))))
   ·exact ⟨vb (decide_eq_false (So fE ky fH)).symm,hs.aE⟩
   ·refine aN (by omega) ?_;exact ⟨xs.length - (k+1),by omega,k+1,rfl,rfl,by omega,I4 WI fE ky (Decidable.not_not.1 fH),hs⟩
  ·exact ⟨vb (decide_eq_true (by rw [List.take_of_length_le (by omega),List.take_of_length_le (by omega)] at WI; exact WI)).symm,hs.aE⟩
end Go.Proofs.YtnjcingfdhjfkaaGreat
namespace Go.Fw
open Go.MapKept (Stamped IsKey)
open Go.ChangeMaps (setBlock)
def mK (w:World) (b:Nat) (ks:List Int) (vs:List Value):Prop:=
 ∃ es clock,w.heap[b]? = some (.map es clock)∧Stamped es clock∧es.toList.map (·.key)=ks.map (Value.int .i64)∧es.toList.map (·.val)=vs
def j8:List Int→Int→Option Nat
 | [],_=>none
 | x::xs,k=>if x=k then some 0 else (j8 xs k).map (· + 1)
theorem j0:∀ {ks:List Int} {k:Int} {j:Nat},j8 ks k=some j→ks[j]? = some k
 | x::xs,k,j,h=>by
  unfold j8 at h
  split at h
  ·rename_i e; cases h; simp [e]
  ·cases hh:j8 xs k with
   | none=>rw [hh] at h; cases h
   | some i=>rw [hh] at h; simp at h; subst h; simpa using j0 hh
theorem mq:∀ {ks:List Int} {k:Int},j8 ks k=none↔k ∉ ks
 | [],_=>by simp [j8]
 | x::xs,k=>by
  unfold j8
  by_cases e:x=k
  ·simp [e]
  ·rw [if_neg e,Option.map_eq_none_iff,mq,List.mem_cons]
   exact ⟨λ h hh=>hh.elim (λ h2=>e h2.symm) h,λ h hh=>h (.inr hh)⟩
theorem rL:∀ {ks:List Int} {k:Int} {j:Nat},ks.Nodup→ks[j]? = some k→j8 ks k=some j
 | x::xs,k,0,_,h=>by simp at h; simp [j8,h]
 | x::xs,k,j+1,hn,h=>by
  rw [List.getElem?_cons_succ] at h
  have hm:=List.mem_of_getElem? h
  have:x≠k:=λ e=>(List.nodup_cons.1 hn).1 (e▸hm)
  simp [j8,this,rL (List.nodup_cons.1 hn).2 h]
def look {β:Type} (ks:List Int) (vs:List β) (k:Int):Option β:=(j8 ks k).bind (vs[·]?)
def tm {β:Type} (f:Int→β) (k:Int) (x:β):Int→β:=λ j=>if j=k then x else f j
section
variable {P:Program} {w w0 w':World} {A:Nat→Prop} {L:List HP} {b:Nat} {ks:List Int} {vs:List Value}
theorem mK.of_eq (h:mK w b ks vs) (hh:w'.heap[b]? = w.heap[b]?):mK w' b ks vs:=by
 obtain ⟨es,c,h1,h2⟩:=h; exact ⟨es,c,hh.trans h1,h2⟩
theorem mK.lt (h:mK w b ks vs):b<w.heap.size:=by obtain ⟨es,c,h1,_⟩:=h; exact jW h1
theorem mK.ext (h:mK w b ks vs) (e:Ext w w'):mK w' b ks vs:=h.of_eq (e.cC b h.lt λ h=>h)
theorem mK.len (h:mK w b ks vs):ks.length=vs.length:=by
 obtain ⟨es,c,_,_,h3,h4⟩:=h
 have:=congrArg List.length h3; have h5:=congrArg List.length h4
 simp at this h5; omega
theorem mK.nodup (h:mK w b ks vs):ks.Nodup:=by
 obtain ⟨es,c,_,h2,h3,h4⟩:=h
 have:=h2.2.2
 rw [h3] at this
 exact (List.pairwise_map.1 this).imp λ h e=>h (by rw [e])
def F4 (b:Nat) (ks:List Int) (vs:List Value):HP where
 p w F:=mK w b ks vs∧∀ k,F k↔k=b
 loc w w' F h hh:=⟨h.1.of_eq (hh b ((h.2 b).2 rfl)),h.2⟩
 lt w F b' h hb:=by rw [(h.2 b').1 hb]; exact h.1.lt
theorem Sp {es:Array MapEntry} (h3:es.toList.map (·.key)=ks.map (Value.int .i64)):∀ x∈es.toList,IsKey (.int .i64) x.key:=by
 intro x hx
 have:x.key∈es.toList.map (·.key):=List.mem_map.2 ⟨x,hx,rfl⟩
 rw [h3] at this
 obtain ⟨k,_,e⟩:=List.mem_map.1 this
 rw [← e]; simp [IsKey]
theorem EU {T:TypeId} {k:Int} {es:Array MapEntry} (hT:P.underlying T=some (.int .i64)) (hn:ks.Nodup) (h3:es.toList.map (·.key)=ks.map (Value.int .i64)) :
  (j8 ks k=none∧(Instr.findKey T (.int .i64 k) es.toList).run P w = .ok none w)∨∃ j e,j8 ks k=some j∧es.toList[j]? = some e∧e.key = .int .i64 k∧(Instr.findKey T (.int .i64 k) es.toList).run P w = .ok (some (j,e.val)) w:=by
 rcases MapKept.findNow_spec (d:=.int .i64) (k:=.int .i64 k) (by simp [IsKey]) es.toList 0 (Sp h3) with ⟨h1,h2⟩ | ⟨j,e,h1,h2,h4⟩
 ·refine .inl ⟨mq.2 λ hm=>?_,MapKept.run_findKey hT h1⟩
  have:Value.int .i64 k∈es.toList.map (·.key):=by rw [h3]; exact List.mem_map.2 ⟨k,hm,rfl⟩
  obtain ⟨x,hx,e⟩:=List.mem_map.1 this
  exact h2 x hx e
 ·refine .inr ⟨j,e,rL hn ?_,h2,h4,by rw [Nat.zero_add] at h1; exact MapKept.run_findKey hT h1⟩
  have:(es.toList.map (·.key))[j]? = some (.int .i64 k):=by rw [List.getElem?_map,h2]; simp [h4]
  rw [h3,List.getElem?_map] at this
  cases hk:ks[j]? with
  | none=>rw [hk] at this; cases this
  | some k'=>rw [hk] at this; simp at this; rw [this]
theorem o8 {T Kt E:TypeId} {z:Value} {k:Int} (h:mK w b ks vs) (ht:P.underlying T=some (.map Kt E)) (hk:P.underlying Kt=some (.int .i64)) (hz:qt P E z) :
  (Instr.lookup T (.map (some b)) (.int .i64 k) false).run P w = .ok ((look ks vs k).getD z) w:=by
 have hn:=h.nodup
 obtain ⟨es,c,h1,h2,h3,h4⟩:=h
 have hz':(zeroValue E).run P w = .ok z w:=by
  unfold qt eh at hz
  cases hi:P.info? E with
  | none=>rw [hi] at hz; cases hz
  | some i=>
   rw [hi] at hz
   simp only [Option.map_some,Option.some.injEq] at hz
   refine fo ?_ w
   unfold zeroValue; rw [cN,nz hi]; simp only [Option.bind_some,hz]; rfl
 have hc:=MapKept.run_checkKey (P:=P) (w:=w) (kt:=Kt) (k:=.int .i64 k) hk (by simp [IsKey]) es.isEmpty 9999
 rcases EU (w:=w) (k:=k) hk hn h3 with ⟨h5,h6⟩ | ⟨j,e,h5,h6,h7,h8⟩
 ·simp [Instr.lookup,run_underlying ht,MapKept.run_getObj_map h1,hc,h6,hz',Result.andThen,look,h5]
 ·have:vs[j]? = some e.val:=by rw [← h4,List.getElem?_map,h6]; rfl
  simp [Instr.lookup,run_underlying ht,MapKept.run_getObj_map h1,hc,h8,Result.andThen,look,h5,this]
theorem mr (o:Obj) (hb:b<w.heap.size):(setBlock w b o).heap[b]? = some o:=by simp [setBlock,hb]
theorem iH.setBlock (w:World) (b:Nat) (o:Obj):iH (· = b) w (setBlock w b o):=
 ⟨rfl,rfl,rfl,by simp [ChangeMaps.setBlock],λ k _ hn=>by simp only [ChangeMaps.setBlock]; rw [Array.getElem?_setIfInBounds_ne (λ h=>hn h.symm)]⟩
theorem rM {es:Array MapEntry} {clock:Nat} {o:Obj} (h1:w.heap[b]? = some (.map es clock)):(setObj b o).run P w = .ok () (setBlock w b o):=by
 simp [setObj,Sem.run,h1,setBlock]
theorem QM {T Kt E:TypeId} {v:Value} {k:Int} (h:mK w b ks vs) (ht:P.underlying T=some (.map Kt E)) (hk:P.underlying Kt=some (.int .i64)) :
  ∃ w',(Instr.mapUpdate T (.map (some b)) (.int .i64 k) v).run P w = .ok () w'∧iH (· = b) w w'∧
   (match j8 ks k with | some j=>mK w' b ks (vs.set j v) | none=>mK w' b (ks++[k]) (vs++[v])):=by
 have hn:=h.nodup
 have mE:=h.lt
 obtain ⟨es,c,h1,h2,h3,h4⟩:=h
 have hc:=MapKept.run_checkKey (P:=P) (w:=w) (kt:=Kt) (k:=.int .i64 k) hk (by simp [IsKey]) false 9999
 rcases EU (w:=w) (k:=k) hk hn h3 with ⟨h5,h6⟩ | ⟨j,e,h5,h6,h7,h8⟩
 ·refine ⟨_,?_,iH.setBlock w b (.map (es.push ⟨.int .i64 k,v,c⟩) (c+1)),?_⟩
  ·simp [Instr.mapUpdate,run_underlying ht,MapKept.run_getObj_map h1,hc,h6,rM h1,Result.andThen]
  ·rw [h5]
   refine ⟨_,_,mr _ mE,MapKept.stamped_push h2 λ x hx e=>?_,by simp [h3],by simp [h4]⟩
   have:x.key∈es.toList.map (·.key):=List.mem_map.2 ⟨x,hx,rfl⟩
   rw [h3,e] at this
   obtain ⟨k',yt,e'⟩:=List.mem_map.1 this
   simp at e'
   exact mq.1 h5 (e'▸yt)
 ·have Yo:es[j]? = some e:=by rw [← Array.getElem?_toList]; exact h6
  have gb:(Instr.keyThatStays e.key (.int .i64 k)).run P w = .ok (.int .i64 k) w:=by
   rw [h7]; unfold Instr.keyThatStays; simp [Instr.sameBits]
  refine ⟨_,?_,iH.setBlock w b (.map (es.modify j λ e=>{e with key:=.int .i64 k,val:=v}) c),?_⟩
  ·simp [Instr.mapUpdate,run_underlying ht,MapKept.run_getObj_map h1,hc,h8,rM h1,Result.andThen,Yo,gb]
  ·rw [h5]
   have yt:∀ e',es[j]? = some e'→({e' with key:=.int .i64 k,val:=v}:MapEntry).key=e'.key:=λ e' he'=>by
    rw [Yo] at he'; cases he'; exact h7.symm
   refine ⟨_,_,mr _ mE,MapKept.stamped_modify h2 j _ (λ _ _=>rfl) (λ e' _ he'=>yt e' he'),?_,?_⟩
   ·rw [MapKept.modify_keys j _ yt,h3]
   ·rw [← h4]
    apply List.ext_getElem?
    intro i
    simp only [List.getElem?_map,Array.getElem?_toList,Array.getElem?_modify,List.getElem?_set]
    by_cases hij:j=i
    ·subst hij; rw [Yo]; have:=(Array.getElem?_eq_some_iff.1 Yo).1; simp [this]
    ·simp [hij]
theorem acZ {T Kt E R:TypeId} {A2:Array TypeId} {k:Int} (h:mK w b ks vs) (ha:A2[0]? = some T) (ht:P.underlying T=some (.map Kt E)) (hk:P.underlying Kt=some (.int .i64)) :
  ∃ w',(Builtin.delete_ A2 R [.map (some b),.int .i64 k].toArray).run P w = .ok (.tuple #[]) w'∧iH (· = b) w w'∧
   (match j8 ks k with | some j=>mK w' b (ks.eraseIdx j) (vs.eraseIdx j) | none=>mK w' b ks vs):=by
 have hn:=h.nodup
 have mE:=h.lt
 obtain ⟨es,c,h1,h2,h3,h4⟩:=h
 have hc:=MapKept.run_checkKey (P:=P) (w:=w) (kt:=Kt) (k:=.int .i64 k) hk (by simp [IsKey]) es.isEmpty 9999
 rcases EU (w:=w) (k:=k) hk hn h3 with ⟨h5,h6⟩ | ⟨j,e,h5,h6,h7,h8⟩
 ·refine ⟨_,?_,iH.setBlock w b (.map es c),?_⟩
  ·simp [Builtin.delete_,ha,run_underlying ht,MapKept.run_getObj_map h1,hc,h6,rM h1,Result.andThen]
  ·rw [h5]
   exact ⟨_,_,mr _ mE,h2,h3,h4⟩
 ·have hj:j<es.size:=by have:=(List.getElem?_eq_some_iff.1 h6).1; simpa using this
  refine ⟨_,?_,iH.setBlock w b (.map (es.eraseIdxIfInBounds j) c),?_⟩
  ·simp [Builtin.delete_,ha,run_underlying ht,MapKept.run_getObj_map h1,hc,h8,rM h1,Result.andThen]
  ·rw [h5]
   have he:(es.eraseIdxIfInBounds j).toList=es.toList.eraseIdx j:=by
    unfold Array.eraseIdxIfInBounds; rw [dif_pos hj]; simp
   refine ⟨_,_,mr _ mE,MapKept.stamped_erase h2 j,?_,?_⟩
   ·rw [he,ChangeMaps.map_eraseIdx,h3,ChangeMaps.map_eraseIdx]
   ·rw [he,ChangeMaps.map_eraseIdx,h4]
theorem wJ {T:TypeId} {K:Value→World→Prop} (hs:St w0 A L w) (k:∀ b w',St w0 A (F4 b [] []::L) w'→K (.map (some b)) w'):ia P (Instr.makeMap T none) w K:=
 ⟨_,_,rfl,k _ _ (hs.new (Ext.push w (.map #[] 0)) (F:=λ k=>k=w.heap.size) ⟨⟨#[],0,pB _ _,MapKept.stamped_empty 0,rfl,rfl⟩,λ _=>Iff.rfl⟩ λ b hb=>by rw [hb]; exact Nat.le_refl _)⟩
theorem St.Ao (hs:St w0 A (F4 b ks vs::L) w):mK w b ks vs:=by obtain ⟨F,h,_⟩:=hs.head; exact h.1
theorem ij {T Kt E:TypeId} {v:Value} {k:Int} {K:World→Prop} (hs:St w0 A (F4 b ks vs::L) w) (ht:P.underlying T=some (.map Kt E)) (hk:P.underlying Kt=some (.int .i64)) (cA:j8 ks k=none)
  (kk:∀ w',St w0 A (F4 b (ks++[k]) (vs++[v])::L) w'→K w'):AZ P (Instr.mapUpdate T (.map (some b)) (.int .i64 k) v) w K:=by
 obtain ⟨w',h1,h2,h3⟩:=QM (P:=P) (v:=v) (k:=k) hs.Ao ht hk
 rw [cA] at h3
 exact ⟨w',h1,kk w' (hs.rZ λ F hF=>⟨F,⟨h3,hF.2⟩,λ b hb=>.inl hb,h2.mono λ k hk=>(hF.2 k).2 hk⟩)⟩
end
section
variable {α:Type} [Flat α] {P:Program} {w w0 w':World} {A:Nat→Prop} {L:List HP} {b:Nat} {f:Int→List α}
abbrev Cr (s:SV) (x:List α):HP:=bL (Flat.val s) x
def oK (b:Nat) (f:Int→List α):HP:=ua λ ks=>ua λ ss:List SV=>ua λ tn:List (List α)=>fact (f=λ k=>(look ks tn k).getD []) (sep (F4 b ks (ss.map Flat.val)) (iK Cr ss tn))
def sK (w:World) (b:Nat) (f:Int→List α):Prop:=∃ ks,∃ ss:List SV,mK w b ks (ss.map Flat.val)∧(∀ (i:Nat) (k:Int) (s:SV),ks[i]? = some k→ss[i]? = some s→eL (λ _=>True) w (Flat.val s) (f k))∧∀ k,k ∉ ks→f k=[]
theorem sK.ext (h:sK w b f) (e:Ext w w'):sK w' b f:=by
 obtain ⟨ks,ss,h1,h2,h3⟩:=h; exact ⟨ks,ss,h1.ext e,λ i k s a c=>(h2 i k s a c).ext e,h3⟩
theorem pz {β:Type} {ks:List Int} {xs:List β} {k:Int} {i:Nat} {x:β} (hn:ks.Nodup) (h1:ks[i]? = some k) (h2:xs[i]? = some x):look ks xs k=some x:=by
 unfold look; rw [rL hn h1]; exact h2
theorem o9 {β:Type} {ks:List Int} {xs:List β} {k:Int} (h:k ∉ ks):look ks xs k=none:=by unfold look; rw [mq.2 h]; rfl
theorem oK.rd {F:Nat→Prop} (h:(oK b f).p w F):sK w b f:=by
 obtain ⟨ks,ss,tn,hf,F1,F2,h1,h2,_,_⟩:=h
 refine ⟨ks,ss,h1.1,λ i k s hk hs=>?_,λ k hk=>by rw [hf]; dsimp only; rw [o9 hk]; rfl⟩
 have hl:=Bi h2
 have hi:i<tn.length:=by have:=(List.getElem?_eq_some_iff.1 hs).1; omega
 have hx:tn[i]? = some tn[i]:=List.getElem?_eq_getElem hi
 have gb:St w F2 [iK Cr ss tn] w:=St.begin h2
 have:=gb.aok hs hx (Φ:=λ w=>eL (λ _=>True) w (Flat.val s) tn[i]) λ h=>(bL.rd h).mono λ _ _=>trivial
 rw [hf]; dsimp only
 rw [pz h1.1.nodup hk hx]; exact this
theorem St.WJ (hs:St w0 A (oK b f::L) w):sK w b f:=by obtain ⟨F,h,_⟩:=hs.head; exact oK.rd h
theorem sK.look {T Kt E:TypeId} {k:Int} (h:sK w b f) (ht:P.underlying T=some (.map Kt E)) (hk:P.underlying Kt=some (.int .i64)) (hz:qt P E (.slice none 0 0)) :
  ∃ s:SV,(Instr.lookup T (.map (some b)) (.int .i64 k) false).run P w = .ok (Flat.val s) w∧eL (λ _=>True) w (Flat.val s) (f k):=by
 obtain ⟨ks,ss,h1,h2,h3⟩:=h
 have hr:=o8 (P:=P) (k:=k) h1 ht hk hz
 cases mU:j8 ks k with
 | none=>
  have:Fw.look ks (ss.map Flat.val) k=none:=by unfold Fw.look; rw [mU]; rfl
  rw [this] at hr
  exact ⟨⟨none,0,0⟩,hr,by rw [h3 k (mq.1 mU)]; exact eL.nil _ _⟩
 | some j=>
  have hj:=j0 mU
  have hl:=h1.len
  have hjs:j<ss.length:=by have:=(List.getElem?_eq_some_iff.1 hj).1; simp at hl; omega
  have QN:ss[j]? = some ss[j]:=List.getElem?_eq_getElem hjs
  have:Fw.look ks (ss.map Flat.val) k=some (Flat.val ss[j]):=by unfold Fw.look; rw [mU]; simp [QN]
  rw [this] at hr
  exact ⟨_,hr,h2 j k _ hj QN⟩
theorem sK.aqw {T Kt E:TypeId} {k:Int} (h:sK w0 b f) (ht:P.underlying T=some (.map Kt E)) (hk:P.underlying Kt=some (.int .i64)) (hz:qt P E (.slice none 0 0)) :
  ∃ s:SV,(∀ w,Ext w0 w→(Instr.lookup T (.map (some b)) (.int .i64 k) false).run P w = .ok (Flat.val s) w)∧eL (λ _=>True) w0 (Flat.val s) (f k):=by
 obtain ⟨ks,ss,h1,h2,h3⟩:=h
 have hr:∀ w,Ext w0 w→_:=λ w e=>o8 (P:=P) (k:=k) (h1.ext e) ht hk hz
 cases mU:j8 ks k with
 | none=>
  have:Fw.look ks (ss.map Flat.val) k=none:=by unfold Fw.look; rw [mU]; rfl
  rw [this] at hr
  exact ⟨⟨none,0,0⟩,hr,by rw [h3 k (mq.1 mU)]; exact eL.nil _ _⟩
 | some j=>
  have hj:=j0 mU
  have hl:=h1.len
  have hjs:j<ss.length:=by have:=(List.getElem?_eq_some_iff.1 hj).1; simp at hl; omega
  have QN:ss[j]? = some ss[j]:=List.getElem?_eq_getElem hjs
  have:Fw.look ks (ss.map Flat.val) k=some (Flat.val ss[j]):=by unfold Fw.look; rw [mU]; simp [QN]
  rw [this] at hr
  exact ⟨_,hr,h2 j k _ hj QN⟩
theorem BC {T Kt E:TypeId} {k:Int} {K:Value→Prop} (h:sK w0 b f) (e:Ext w0 w) (ht:P.underlying T=some (.map Kt E)) (hk:P.underlying Kt=some (.int .i64)) (hz:qt P E (.slice none 0 0))
  (kk:∀ s:SV,eL (λ _=>True) w0 (Flat.val s) (f k)→K (Flat.val s)):Da P (Instr.lookup T (.map (some b)) (.int .i64 k) false) w K:=by
 obtain ⟨s,h1,h2⟩:=h.aqw (P:=P) (k:=k) ht hk hz; exact ⟨_,h1 w e,kk s h2⟩
def LN (b:Nat) (f:Int→List α) (k:Int) (s:SV):HP:=ua λ ks=>ua λ ss:List SV=>ua λ tn:List (List α)=>ua λ vs:List Value=>
 fact ((∀ k',k'≠k→f k'=(look ks tn k').getD [])∧look ks vs k=(j8 ks k).map (λ _=>Flat.val s)∧(j8 ks k=none→s=⟨none,0,0⟩)∧vs.length=ss.length∧∀ (i:Nat) (k':Int),ks[i]? = some k'→k'≠k→vs[i]? = (ss[i]?).map Flat.val) (sep (F4 b ks vs) (iK Cr ss tn))
theorem St.EV {k:Int} (hs:St w0 A (oK b f::L) w):∃ s:SV,St w0 A (bL (Flat.val s) (f k)::LN b f k s::L) w:=by
 obtain ⟨ks,hs⟩:=hs.eQ; obtain ⟨ss,hs⟩:=hs.eQ; obtain ⟨tn,hs⟩:=hs.eQ; obtain ⟨hf,hs⟩:=hs.oD
 replace hs:=hs.split
 have hm:=hs.Ao
 have hl:=hm.len
 have Df:=hs.p1.ly
 have hn:=hm.nodup
 rw [List.length_map] at hl
 cases mU:j8 ks k with
 | none=>
  refine ⟨⟨none,0,0⟩,?_⟩
  have hx:look ks tn k=none:=by unfold look; rw [mU]; rfl
  have e:f k=[]:=by rw [hf]; dsimp only; rw [hx]; rfl
  rw [e]
  refine (St.eJ ks (St.eJ ss (St.eJ tn (St.eJ (ss.map Flat.val) (St.qw ⟨λ k' _=>by rw [hf],by unfold look; rw [mU]; rfl,λ _=>rfl,by rw [List.length_map],λ i k' _ _=>by rw [List.getElem?_map]⟩ (St.join hs)))))).fY
 | some j=>
  have hj:=j0 mU
  have hjk:=(List.getElem?_eq_some_iff.1 hj).1
  have QN:ss[j]? = some (ss[j]'(by omega)):=List.getElem?_eq_getElem _
  have hxj:tn[j]? = some (tn[j]'(by omega)):=List.getElem?_eq_getElem _
  refine ⟨ss[j]'(by omega),?_⟩
  have e:f k=tn[j]'(by omega):=by rw [hf]; dsimp only; rw [pz hn hj hxj]; rfl
  rw [e]
  have h1:=(hs.p1.focus QN hxj).p1
  have h2:=(h1.fY (α:=α)).p1
  have h3:St w0 A (Cr (⟨none,0,0⟩:SV) ([]:List α)::qy Cr ss tn j::_::_::L) w:=h2.p1
  have h4:=h3.DN (by omega) Df
  have h5:=h4.p2
  refine (St.eJ ks (St.eJ (ss.set j ⟨none,0,0⟩) (St.eJ (tn.set j []) (St.eJ (ss.map Flat.val) (St.qw ⟨λ k' yt=>?_,by unfold look; rw [mU]; simp [QN],λ h=>(by cases mU.symm.trans h),(by simp),λ i k' hi yt=>?_⟩ (St.join h5)))))).p1
  ·rw [hf]; dsimp only
   unfold look
   cases hq:j8 ks k' with
   | none=>rfl
   | some i=>
    have:j≠i:=λ e=>yt (by have:=j0 hq; rw [← e,hj] at this; exact (Option.some.inj this).symm)
    simp [this]
  ·rw [List.getElem?_map,List.getElem?_set_ne]
   rintro rfl
   rw [hj] at hi; exact yt (Option.some.inj hi).symm
theorem St.BD {T Kt E:TypeId} {k:Int} {s:SV} (hs:St w0 A (LN b f k s::L) w) (ht:P.underlying T=some (.map Kt E)) (hk:P.underlying Kt=some (.int .i64)) (hz:qt P E (.slice none 0 0)) :
  (Instr.lookup T (.map (some b)) (.int .i64 k) false).run P w = .ok (Flat.val s) w:=by
 obtain ⟨ks,hs⟩:=hs.eQ; obtain ⟨ss,hs⟩:=hs.eQ; obtain ⟨tn,hs⟩:=hs.eQ; obtain ⟨vs,hs⟩:=hs.eQ; obtain ⟨⟨_,h2,h3,_⟩,hs⟩:=hs.oD
 have:=o8 (P:=P) (k:=k) hs.split.Ao ht hk hz
 rw [h2] at this
 cases mU:j8 ks k with
 | none=>rw [mU] at this; rw [h3 mU]; exact this
 | some j=>rw [mU] at this; exact this
theorem St.WK {k:Int} {s:SV} {xs:List α} (hs:St w0 A (bL (Flat.val s) xs::LN b f k s::L) w):St w0 A (oK b (tm f k xs)::L) w:=by
 replace hs:=hs.p1
 obtain ⟨ks,hs⟩:=hs.eQ; obtain ⟨ss,hs⟩:=hs.eQ; obtain ⟨tn,hs⟩:=hs.eQ; obtain ⟨vs,hs⟩:=hs.eQ; obtain ⟨⟨hf,h2,h3,hvs,WL⟩,hs⟩:=hs.oD
 replace hs:=hs.split
 have hm:=hs.Ao
 have hl:=hm.len
 have hn:=hm.nodup
 have Df:=hs.p1.ly
 cases mU:j8 ks k with
 | none=>
  have AX:=mq.1 mU
  have hval:vs=ss.map Flat.val:=List.ext_getElem? λ i=>by
   cases hi:ks[i]? with
   | none=>rw [List.getElem?_eq_none_iff] at hi; rw [List.getElem?_eq_none (by omega),List.getElem?_eq_none (by rw [List.length_map]; omega)]
   | some k'=>rw [WL i k' hi (λ e=>AX (e▸List.mem_of_getElem? hi)),List.getElem?_map]
  have hx:xs=[]:=by
   obtain ⟨F,h,_⟩:=hs.p2.head
   rw [h3 mU] at h
   rcases h with ⟨_,h,_⟩ | ⟨b',cap,rest,h,_⟩
   ·exact h
   ·cases h
  subst hx
  refine St.eJ ks (St.eJ ss (St.eJ tn (St.qw ?_ (St.join ?_))))
  ·funext k'
   unfold tm
   by_cases e:k'=k
   ·subst e; rw [if_pos rfl,o9 AX]; rfl
   ·rw [if_neg e,hf k' e]
  ·rw [← hval]; exact hs.p2.drop
 | some j=>
  have hj:=j0 mU
  have hjk:=(List.getElem?_eq_some_iff.1 hj).1
  have QN:ss[j]? = some (ss[j]'(by omega)):=List.getElem?_eq_getElem _
  have hxj:tn[j]? = some (tn[j]'(by omega)):=List.getElem?_eq_getElem _
  have hvj:vs[j]? = some (Flat.val s):=by unfold look at h2; rw [mU] at h2; exact h2
  have h6:=((hs.p1.focus QN hxj).drop).p2
  have h7:St w0 A (Cr s xs::qy Cr ss tn j::_::L) w:=h6.p0
  have h8:=h7.DN (by omega) Df
  refine St.eJ ks (St.eJ (ss.set j s) (St.eJ (tn.set j xs) (St.qw ?_ (St.join ?_))))
  ·funext k'
   unfold tm
   by_cases e:k'=k
   ·subst e
    rw [if_pos rfl,pz hn hj (x:=xs) (by rw [List.getElem?_set_self (by omega)])]; rfl
   ·rw [if_neg e,hf k' e]
    unfold look
    cases hq:j8 ks k' with
    | none=>rfl
    | some i=>
     have:j≠i:=λ e'=>e (by have:=j0 hq; rw [← e',hj] at this; exact (Option.some.inj this).symm)
     simp [this]
  ·have e:(ss.set j s).map Flat.val=vs:=by
    apply List.ext_getElem?
    intro i
    rw [List.getElem?_map]
    by_cases e:j=i
    ·subst e; rw [List.getElem?_set_self (by omega),hvj]; rfl
    ·rw [List.getElem?_set_ne e]
     cases hi:ks[i]? with
     | none=>rw [List.getElem?_eq_none_iff] at hi; rw [List.getElem?_eq_none (show vs.length≤i by omega),List.getElem?_eq_none (show ss.length≤i by omega)]; rfl
     | some k'=>rw [WL i k' hi (λ e'=>e (by rw [e'] at hi; have h1:=rL hn hi; rw [mU] at h1; exact Option.some.inj h1))]
   rw [e]; exact h8.p1
omit [Flat α] in
theorem Sq {f:Int→List α} {k:Int}:tm f k (f k)=f:=by
 funext j; unfold tm; split
 ·rename_i h; rw [h]
 ·rfl
theorem B9 {T Kt E:TypeId} {k:Int} {s s':SV} {xs:List α} {K:World→Prop} (hs:St w0 A (bL (Flat.val s') xs::LN b f k s::L) w) (ht:P.underlying T=some (.map Kt E)) (hk:P.underlying Kt=some (.int .i64))
  (kk:∀ w',St w0 A (oK b (tm f k xs)::L) w'→K w'):AZ P (Instr.mapUpdate T (.map (some b)) (.int .i64 k) (Flat.val s')) w K:=by
 replace hs:=hs.p1
 obtain ⟨ks,hs⟩:=hs.eQ; obtain ⟨ss,hs⟩:=hs.eQ; obtain ⟨tn,hs⟩:=hs.eQ; obtain ⟨vs,hs⟩:=hs.eQ; obtain ⟨⟨hf,h2,h3,hvs,WL⟩,hs⟩:=hs.oD
 replace hs:=hs.split
 have hm:=hs.Ao
 have hl:=hm.len
 have hn:=hm.nodup
 have Df:=hs.p1.ly
 obtain ⟨w',r1,r2,r3⟩:=QM (P:=P) (v:=Flat.val s') (k:=k) hm ht hk
 refine ⟨w',r1,kk w' ?_⟩
 cases mU:j8 ks k with
 | none=>
  rw [mU] at r3
  have h5:St w0 A (F4 b (ks++[k]) (vs++[Flat.val s'])::_::_::L) w':=hs.rZ λ F hF=>⟨F,⟨r3,hF.2⟩,λ b hb=>.inl hb,r2.mono λ k hk=>(hF.2 k).2 hk⟩
  have AX:=mq.1 mU
  have hval:vs=ss.map Flat.val:=List.ext_getElem? λ i=>by
   cases hi:ks[i]? with
   | none=>rw [List.getElem?_eq_none_iff] at hi; rw [List.getElem?_eq_none (by omega),List.getElem?_eq_none (by rw [List.length_map]; omega)]
   | some k'=>rw [WL i k' hi (λ e=>AX (e▸List.mem_of_getElem? hi)),List.getElem?_map]
  have h6:=h5.p1
  have h7:St w0 A (iK Cr (ss++[s']) (tn++[xs])::_::L) w':=St.DM (H:=Cr (α:=α)) (p:=s') (x:=xs) h6.p2.p1
  refine St.eJ (ks++[k]) (St.eJ (ss++[s']) (St.eJ (tn++[xs]) (St.qw ?_ (St.join ?_))))
  ·funext k'
   unfold tm
   by_cases e:k'=k
   ·subst e
    rw [if_pos rfl,pz (i:=ks.length) r3.nodup (by simp) (x:=xs) (by rw [List.getElem?_append_right (by omega)]; simp [show ks.length - tn.length=0 from by omega])]; rfl
   ·rw [if_neg e,hf k' e]
    by_cases vq:k'∈ks
    ·obtain ⟨i,hi,hik⟩:=List.getElem_of_mem vq
     have Yi:ks[i]? = some k':=by rw [List.getElem?_eq_getElem hi,hik]
     have hxi:tn[i]? = some (tn[i]'(by omega)):=List.getElem?_eq_getElem _
     rw [pz hn Yi hxi,pz (i:=i) r3.nodup (by rw [List.getElem?_append_left hi]; exact Yi) (by rw [List.getElem?_append_left (by omega)]; exact hxi)]
    ·rw [o9 vq,o9 (by simp [vq,e])]
  ·have e:(ss++[s']).map Flat.val=vs++[Flat.val s']:=by rw [hval,List.map_append]; rfl
   rw [e]; exact h7.p1
 | some j=>
  rw [mU] at r3
  have h5:St w0 A (F4 b ks (vs.set j (Flat.val s'))::_::_::L) w':=hs.rZ λ F hF=>⟨F,⟨r3,hF.2⟩,λ b hb=>.inl hb,r2.mono λ k hk=>(hF.2 k).2 hk⟩
  have hj:=j0 mU
  have hjk:=(List.getElem?_eq_some_iff.1 hj).1
  have QN:ss[j]? = some (ss[j]'(by omega)):=List.getElem?_eq_getElem _
  have hxj:tn[j]? = some (tn[j]'(by omega)):=List.getElem?_eq_getElem _
  have h6:=((h5.p1.focus QN hxj).drop).p2
  have h7:St w0 A (Cr s' xs::qy Cr ss tn j::_::L) w':=h6.p0
  have h8:=h7.DN (by omega) Df
  refine St.eJ ks (St.eJ (ss.set j s') (St.eJ (tn.set j xs) (St.qw ?_ (St.join ?_))))
  ·funext k'
   unfold tm
   by_cases e:k'=k
   ·subst e
    rw [if_pos rfl,pz hn hj (x:=xs) (by rw [List.getElem?_set_self (by omega)])]; rfl
   ·rw [if_neg e,hf k' e]
    unfold look
    cases hq:j8 ks k' with
    | none=>rfl
    | some i=>
     have:j≠i:=λ e'=>e (by have:=j0 hq; rw [← e',hj] at this; exact (Option.some.inj this).symm)
     simp [this]
  ·have e:(ss.set j s').map Flat.val=vs.set j (Flat.val s'):=by
    apply List.ext_getElem?
    intro i
    rw [List.getElem?_map]
    by_cases e:j=i
    ·subst e; rw [List.getElem?_set_self (by omega),List.getElem?_set_self (by omega)]; rfl
    ·rw [List.getElem?_set_ne e,List.getElem?_set_ne e]
     cases hi:ks[i]? with
     | none=>rw [List.getElem?_eq_none_iff] at hi; rw [List.getElem?_eq_none (show vs.length≤i by omega),List.getElem?_eq_none (show ss.length≤i by omega)]; rfl
     | some k'=>rw [WL i k' hi (λ e'=>e (by rw [e'] at hi; have h1:=rL hn hi; rw [mU] at h1; exact Option.some.inj h1))]
   rw [e]; exact h8.p1
theorem ow {T:TypeId} {K:Value→World→Prop} (hs:St w0 A L w) (k:∀ b w',St w0 A (oK b (λ _=>([]:List α))::L) w'→K (.map (some b)) w'):ia P (Instr.makeMap T none) w K:=
 wJ hs λ b w' h=>k b w' (St.eJ [] (St.eJ [] (St.eJ ([]:List (List α)) (St.qw rfl (St.join ((h.new (Ext.refl w') (H:=iK Cr [] []) (F:=bD) (λ _ h=>h) λ _ h=>h.elim).p1))))))
theorem LO {T Kt E R:TypeId} {k:Int} {A2:Array TypeId} {K:Value→World→Prop} (hs:St w0 A (oK b f::L) w) (ha:A2[0]? = some T) (ht:P.underlying T=some (.map Kt E)) (hk:P.underlying Kt=some (.int .i64))
  (kk:∀ v w',St w0 A (oK b (tm f k [])::L) w'→K v w'):ia P (Builtin.delete_ A2 R [.map (some b),.int .i64 k].toArray) w K:=by
 obtain ⟨ks,hs⟩:=hs.eQ; obtain ⟨ss,hs⟩:=hs.eQ; obtain ⟨tn,hs⟩:=hs.eQ; obtain ⟨hf,hs⟩:=hs.oD
 replace hs:=hs.split
 have hm:=hs.Ao
 have hl:=hm.len
 have Df:=hs.p1.ly
 have hn:=hm.nodup
 rw [List.length_map] at hl
 obtain ⟨w',r1,r2,r3⟩:=acZ (P:=P) (R:=R) (k:=k) hm ha ht hk
 refine ⟨_,w',r1,kk _ w' ?_⟩
 cases mU:j8 ks k with
 | none=>
  rw [mU] at r3
  have h5:St w0 A (F4 b ks (ss.map Flat.val)::_::L) w':=hs.rZ λ F hF=>⟨F,⟨r3,hF.2⟩,λ b hb=>.inl hb,r2.mono λ k hk=>(hF.2 k).2 hk⟩
  refine St.eJ ks (St.eJ ss (St.eJ tn (St.qw ?_ (St.join h5))))
  funext k'
  unfold tm
  by_cases e:k'=k
  ·subst e; rw [if_pos rfl]; unfold look; rw [mU]; rfl
  ·rw [if_neg e,hf]
 | some j=>
  rw [mU] at r3
  have hj:=j0 mU
  have hjk:=(List.getElem?_eq_some_iff.1 hj).1
  have h5:St w0 A (F4 b (ks.eraseIdx j) ((ss.map Flat.val).eraseIdx j)::_::L) w':=hs.rZ λ F hF=>⟨F,⟨r3,hF.2⟩,λ b hb=>.inl hb,r2.mono λ k hk=>(hF.2 k).2 hk⟩
  have QN:ss[j]? = some (ss[j]'(by omega)):=List.getElem?_eq_getElem _
  have hxj:tn[j]? = some (tn[j]'(by omega)):=List.getElem?_eq_getElem _
  have h6:=(h5.p1.focus QN hxj).drop.RY
  dsimp only at r3
  rw [← ChangeMaps.map_eraseIdx] at h6 r3
  refine St.eJ (ks.eraseIdx j) (St.eJ (ss.eraseIdx j) (St.eJ (tn.eraseIdx j) (St.qw ?_ (St.join h6.p1))))
  funext k'
  unfold tm
  by_cases e:k'=k
  ·subst e
   rw [if_pos rfl,o9]; rfl
   intro JW
   obtain ⟨i,hi,hik⟩:=List.getElem_of_mem JW
   rw [List.getElem_eraseIdx] at hik
   split at hik
   ·have:=rL (j:=i) hn (k:=k') (by rw [← hik]; exact List.getElem?_eq_getElem _); rw [mU] at this; have:=Option.some.inj this; omega
   ·have:=rL (j:=i+1) hn (k:=k') (by rw [← hik]; exact List.getElem?_eq_getElem _); rw [mU] at this; have:=Option.some.inj this; omega
  ·rw [if_neg e,hf]; dsimp only
   by_cases vq:k'∈ks
   ·obtain ⟨i,hi,hik⟩:=List.getElem_of_mem vq
    have Yi:ks[i]? = some k':=by rw [List.getElem?_eq_getElem hi,hik]
    have hxi:tn[i]? = some (tn[i]'(by omega)):=List.getElem?_eq_getElem _
    have hij:i≠j:=λ e'=>e (by rw [e',hj] at Yi; exact (Option.some.inj Yi).symm)
    rw [pz hn Yi hxi]
    by_cases mE:i<j
    ·rw [pz (i:=i) r3.nodup (by rw [List.getElem?_eraseIdx_of_lt mE]; exact Yi) (by rw [List.getElem?_eraseIdx_of_lt mE]; exact hxi)]
    ·rw [pz (i:=i - 1) r3.nodup (by rw [List.getElem?_eraseIdx_of_ge (by omega),show i - 1+1=i from by omega]; exact Yi) (by rw [List.getElem?_eraseIdx_of_ge (by omega),show i - 1+1=i from by omega]; exact hxi)]
   ·rw [o9 vq,o9 (λ h=>vq ((List.eraseIdx_sublist ks j).subset h))]
end
section
variable {α:Type} [Flat α] {P:Program} {w w0 w':World} {A S:Nat→Prop} {L:List HP} {xs ys:List α}
theorem EW {T T2 E oy b o dn dc:Nat} {z:Option Nat} {R:TypeId} {src:Value} {cs:List Value} (ht:fg P T=some (E,Flat.sz α,oy,z)) (hb:tM w b cs) (xJ:eL S w src ys)
  (hn:ys.length≤dn) (M9:o+ys.length * Flat.sz α≤cs.length) :
  ∃ w',(Builtin.copy_ #[T,T2] R [.slice (some ⟨b,o,none⟩) dn dc,src].toArray).run P w = .ok (.int .i64 ys.length) w'∧tM w' b (ib cs o (flat ys))∧iH (· = b) w w':=by
 obtain ⟨hu,inf,hi,kJ,Bc,_⟩:=gv ht
 have hf:=xa (α:=α) (P:=P) (sz:=Flat.sz α) rfl xJ
 have rd:=xJ
 obtain ⟨sa,T8,rfl,hsc,hs3⟩:=rd
 obtain ⟨w',h1,h2,h3⟩:=my (P:=P) (o:=o) (flat ys) 0 cs w hb (by rw [cQ]; omega) zy
 refine ⟨w',?_,by simpa using h2,h3⟩
 simp [Builtin.copy_,run_underlying hu,sizeOf,typeInfo,hi,Builtin.lenOf,Nat.min_eq_left hn,hf,kJ,h1,goInt]
theorem LP {T T2 E oy:Nat} {z:Option Nat} {R:TypeId} {v src:Value} {K:Value→World→Prop} (hs:St w0 A (bL v xs::L) w) (ht:fg P T=some (E,Flat.sz α,oy,z)) (xJ:eL S w src ys) (hn:ys.length≤xs.length)
  (k:∀ w',St w0 A (bL v (ys++xs.drop ys.length)::L) w'→K (.int .i64 ys.length) w'):ia P (Builtin.copy_ #[T,T2] R [v,src].toArray) w K:=by
 obtain ⟨U,F,U',g1,g2,g3,g4,g5⟩:=hs.sW
 rcases g1 with ⟨rfl,rfl,hF⟩ | ⟨b,cap,rest,rfl,hb,hl,hF⟩
 ·obtain rfl:ys=[]:=by simpa using hn
  obtain ⟨hu,inf,hi,kJ,Bc,_⟩:=gv ht
  have hf:=xa (α:=α) (P:=P) (sz:=Flat.sz α) rfl xJ
  obtain ⟨sa,T8,rfl,hsc,hs3⟩:=xJ
  refine ⟨_,w,?_,k w hs⟩
  simp at hf
  simp [Builtin.copy_,run_underlying hu,sizeOf,typeInfo,hi,Builtin.lenOf,kJ,hf,goInt]
 ·have hle:ys.length * Flat.sz α≤xs.length * Flat.sz α:=Nat.mul_le_mul_right _ hn
  obtain ⟨w',h1,h2,h3⟩:=EW (P:=P) (o:=0) (dn:=xs.length) (dc:=cap) (T2:=T2) (R:=R) ht hb xJ hn (by rw [List.length_append,cQ]; omega)
  refine ⟨_,w',h1,k w' (hs.rZ λ F' hF'=>?_)⟩
  rcases hF' with ⟨h,_⟩ | ⟨b',Ki,rest',hv,hb',hl',hF'⟩
  ·cases h
  ·simp only [Value.slice.injEq,Option.some.injEq,Addr.mk.injEq,and_true,true_and] at hv
   obtain ⟨rfl,rfl⟩:=hv
   refine ⟨F',.inr ⟨b,cap,rest,?_,?_,?_,hF'⟩,λ b hb=>.inl hb,h3.mono λ k hk=>(hF' k).2 hk⟩
   ·congr 1; rw [List.length_append,List.length_drop]; omega
   ·have e:flat xs=[]++flat (xs.take ys.length)++flat (xs.drop ys.length):=by rw [List.nil_append,← ix,List.take_append_drop]
    have:=kQ [] (flat (xs.take ys.length)) (flat (xs.drop ys.length)++rest) (flat ys) (by rw [cQ,cQ,List.length_take,Nat.min_eq_left hn])
    rw [List.length_nil] at this
    rw [e,List.append_assoc,this] at h2
    rw [ix,List.append_assoc]; exact h2
   ·rw [List.length_append,cQ,List.length_append,List.length_drop,show ys.length+(xs.length - ys.length)=xs.length from by omega,← cQ (xs:=xs),← List.length_append]; exact hl
end
end Go.Fw
namespace Go.Proofs.YtnjcingfdhjfkaaGreat
open Go.Fw
structure Mem where
 of:List Int
 dC:List Int
 l:List Int
 kept:List Int
 gH:Int→List jr
def kY (of:List Int):Int:=if of.length=0 then 0 else of.getD (of.length - 1) 0+1
def xV (k:List Int) (ws:List jr):List Int:=ws.foldl (λ k w=>k.set w.cell.toNat w.n) k
theorem Ap (ws:List jr):∀ k:List Int,(xV k ws).length=k.length:=by
 induction ws with
 | nil=>intro k; rfl
 | cons x ws ih=>intro k; show (xV (k.set x.cell.toNat x.n) ws).length=_; rw [ih,List.length_set]
theorem Sr (ws:List jr) (x:jr) (k:List Int):xV k (ws++[x])=(xV k ws).set x.cell.toNat x.n:=by
 unfold xV; rw [List.foldl_append]; rfl
theorem G6 {ws:List jr} {j:Nat} {x:jr} {k:List Int} (hx:ws[j]? = some x):xV k (ws.take (j+1))=(xV k (ws.take j)).set x.cell.toNat x.n:=by
 rw [List.take_add_one,hx]; exact Sr _ _ _
def Oo (m:Mem) (cell:Int):Bool:=decide (0≤cell∧cell<m.l.length)
def iP (m:Mem) (cell n:Int):Mem:=if Oo m cell=true then {m with l:=m.l.set cell.toNat n,gH:=if cell<m.of.length then tm m.gH (m.of.getD cell.toNat 0) (m.gH (m.of.getD cell.toNat 0)++[⟨cell,n⟩]) else m.gH} else m
def Ss (m:Mem) (line:Int):Bool:=decide (0≤line∧line<kY m.of)
def vG (m:Mem) (line:Int):Mem:=if Ss m line=true then {m with kept:=xV m.kept (m.gH line),gH:=tm m.gH line []} else m
structure xt (m:Mem):Prop where
 Su:m.of.length≤m.dC.length
 fl:m.dC.length≤20
 ll:m.l.length=m.dC.length
 kl:m.kept.length=m.of.length
 ofr:∀ n∈m.of,0≤n∧n<kY m.of
 lb:kY m.of≤20
 pc:∀ k,∀ x∈m.gH k,0≤x.cell∧x.cell<m.of.length
def MB (m:Mem) (n:Nat):Prop:=∀ k,(m.gH k).length≤n
def fW (p:Nat) (ov fv:Value) (m:Mem):HP:=ua λ lv=>ua λ kv=>ua λ pm=>sep (cC p [ov,fv,lv,kv,.map (some pm)]) (sep (bL lv m.l) (sep (bL kv m.kept) (oK pm m.gH)))
def uw (ov fv:Value) (m:Mem) (w:World):Prop:=eL (λ _=>True) w ov m.of∧eL (λ _=>True) w fv m.dC
def vk (w:World) (p:Nat) (m:Mem):Prop:=∃ ov fv lv kv pm,Cell w p 0 ov∧Cell w p 1 fv∧Cell w p 2 lv∧Cell w p 3 kv∧Cell w p 4 (.map (some pm))∧eL (λ _=>True) w ov m.of∧eL (λ _=>True) w fv m.dC∧eL (λ _=>True) w lv m.l∧eL (λ _=>True) w kv m.kept∧sK w pm m.gH
section
variable {w w' w0:World} {A F:Nat→Prop} {R:List HP} {p:Nat} {ov fv lv kv:Value} {m:Mem} {pm:Nat}
theorem vk.ext (h:vk w p m) (e:Ext w w'):vk w' p m:=by
 obtain ⟨ov,fv,lv,kv,pm,c0,c1,c2,c3,c4,h0,h1,h2,h3,h4⟩:=h
 exact ⟨ov,fv,lv,kv,pm,c0.ext e,c1.ext e,c2.ext e,c3.ext e,c4.ext e,h0.ext e,h1.ext e,h2.ext e,h3.ext e,h4.ext e⟩
theorem vk.mk' (h:tM w p [ov,fv,lv,kv,.map (some pm)]) (hK:uw ov fv m w) (h2:eL (λ _=>True) w lv m.l) (h3:eL (λ _=>True) w kv m.kept) (h4:sK w pm m.gH):vk w p m:=
 ⟨ov,fv,lv,kv,pm,h.cell rfl,h.cell rfl,h.cell rfl,h.cell rfl,h.cell rfl,hK.1,hK.2,h2,h3,h4⟩
theorem fW.open (hs:St w0 A (fW p ov fv m::R) w):∃ lv kv pm,St w0 A (cC p [ov,fv,lv,kv,.map (some pm)]::bL lv m.l::bL kv m.kept::oK pm m.gH::R) w:=by
 obtain ⟨lv,hs⟩:=hs.eQ; obtain ⟨kv,hs⟩:=hs.eQ; obtain ⟨pm,hs⟩:=hs.eQ
 have h1:=hs.split
 have h2:=h1.p1.split
 have h3:=(h2.p1.split)
 exact ⟨lv,kv,pm,h3.p2.p3⟩
theorem fW.shut (hs:St w0 A (cC p [ov,fv,lv,kv,.map (some pm)]::bL lv m.l::bL kv m.kept::oK pm m.gH::R) w):St w0 A (fW p ov fv m::R) w:=by
 have h1:St w0 A (sep (bL kv m.kept) (oK pm m.gH)::cC p [ov,fv,lv,kv,.map (some pm)]::bL lv m.l::R) w:=St.join (hs.p3.p3)
 have h2:St w0 A (sep (bL lv m.l) (sep (bL kv m.kept) (oK pm m.gH))::cC p [ov,fv,lv,kv,.map (some pm)]::R) w:=St.join h1.p2
 exact St.eJ lv (St.eJ kv (St.eJ pm (St.join h2.p1)))
theorem I5 (hs:St w0 A (fW p ov fv m::R) w) (hK:uw ov fv m w):vk w p m:=by
 obtain ⟨lv,kv,pm,hs⟩:=fW.open hs
 exact vk.mk' hs.hb hK hs.p1.fM hs.p2.fM hs.p3.WJ
end
theorem C144 (p:Nat) (m:Mem) (w:World) (hm:vk w p m) (hk:xt m):CR 144 [(.pointer (some ⟨p,0,none⟩))] w (λ v w'=>v = .int .i64 (kY m.of)∧Ext w w'):=by
 have EX:=hm;obtain ⟨ov,fv,lv,kv,pm,c0,c1,c2,c3,c4,hO,Sv,hL,hKp,hP⟩:=hm;have h20:=hk.fl;have Ys:=hk.Su;have Ny:=hk.ll;have KW:=hk.kl;have NB:=hk.lb;have hs:=St.start w;refine Zs _ _ _ ?_;unfold S144;refine aF (aA tW (cG er (c0.ext hs.aE) (aJ eg (hO.ext hs.aE) (aH (aC (λ gi=>?_) (λ gi=>?_))))))
 ·exact ⟨congrArg (Value.int .i64) (by unfold kY; rw [if_pos (by omega)]),hs.aE⟩
 ·refine aF (aA tW (have hs:=hs.drew;cG er (c0.ext hs.aE) (aF (aA tW (cG er (c0.ext hs.aE) (aJ eg (hO.ext hs.aE) (gD (by omega) ?_)))))));obtain ⟨jg,fE⟩:=gx (m.of) (i:=((((m.of).length:Int) - 1)).toNat) (by omega);refine aQ eg hO (by omega) fE (λ _ jR=>aD bN (jR.ext hs.aE) ?_);have hx20:=hk.ofr _ (List.mem_of_getElem? fE);refine aN (by omega) ?_;exact ⟨congrArg (Value.int .i64) (by unfold kY; rw [if_neg (by omega),List.getD_eq_getElem?_getD,show m.of.length - 1=((m.of.length:Int) - 1).toNat from by omega,fE]; rfl),hs.aE⟩
theorem C195 (p:Nat) (m:Mem) (cell:Int) (w:World) (hm:vk w p m) (hk:xt m):CR 195 [(.pointer (some ⟨p,0,none⟩)),.int .i64 cell] w (λ v w'=>v = .tuple #[.int .i64 (if Oo m cell=true then m.l.getD cell.toNat 0 else 0),.int .i64 (if Oo m cell=true then 0 else 1)]∧Ext w w'):=by
 have EX:=hm;obtain ⟨ov,fv,lv,kv,pm,c0,c1,c2,c3,c4,hO,Sv,hL,hKp,hP⟩:=hm;have hs:=St.start w;refine Z9 _ _ _ _ ?_;unfold S195;refine ⟨λ jv w'=>jv = .bool (decide (cell<0∨m.l.length≤cell))∧w=w',?_,?_⟩
 ·refine aR (aC (λ iN=>?_) (λ iN=>?_))
  ·exact ⟨Pq (by omega),rfl⟩
  ·refine aF (aA q8 (cG er (c2.ext hs.aE) (aJ eg (hL.ext hs.aE) (dI ?_))));exact ⟨tD (by omega),rfl⟩
 ·rintro _ w1 ⟨rfl,hw⟩ fu;subst hw;refine aC (λ eM=>?_) (λ eM=>?_)
  ·have vq:Oo m cell=false:=by unfold Oo; rw [decide_eq_false_iff_not]; omega
   rw [vq];exact ⟨rfl,hs.aE⟩
  ·refine aF (aA q8 (cG er (c2.ext hs.aE) ?_));obtain ⟨e_x22,WM⟩:=gx (m.l) (i:=(cell).toNat) (by omega);refine aQ eg hL (by omega) WM (λ _ Lh=>aD bN (Lh.ext hs.aE) ?_);have vq:Oo m cell=true:=by unfold Oo; rw [decide_eq_true_eq]; omega
   rw [vq,List.getD_eq_getElem?_getD,WM];exact ⟨rfl,hs.aE⟩
theorem C72 (p:Nat) (m:Mem) (w:World) (hm:vk w p m) (hk:xt m):CR 72 [(.pointer (some ⟨p,0,none⟩))] w (λ v w'=>mc (bL v m.l) w w'):=by
 have EX:=hm;obtain ⟨ov,fv,lv,kv,pm,c0,c1,c2,c3,c4,hO,Sv,hL,hKp,hP⟩:=hm;have h20:=hk.fl;have Ys:=hk.Su;have Ny:=hk.ll;have KW:=hk.kl;have NB:=hk.lb;have hs:=St.start w;refine ahm _ _ _ ?_;unfold S72;refine aF (aA q8 (cG er (c2.ext hs.aE) (dG zu hs (C70 _ _ _ (hL.ext hs.aE) (by omega)) (λ x7 w1 cA hs=>?_))));exact hs.fresh
theorem C73 (p:Nat) (m:Mem) (w:World) (hm:vk w p m) (hk:xt m):CR 73 [(.pointer (some ⟨p,0,none⟩))] w (λ v w'=>mc (bL v m.kept) w w'):=by
 have EX:=hm;obtain ⟨ov,fv,lv,kv,pm,c0,c1,c2,c3,c4,hO,Sv,hL,hKp,hP⟩:=hm;have h20:=hk.fl;have Ys:=hk.Su;have Ny:=hk.ll;have KW:=hk.kl;have NB:=hk.lb;have hs:=St.start w;refine ahn _ _ _ ?_;unfold S73;refine aF (aA zH (cG er (c3.ext hs.aE) (dG zu hs (C70 _ _ _ (hKp.ext hs.aE) (by omega)) (λ x7 w1 cA hs=>?_))));exact hs.fresh
theorem C137 (sv:Value) (xs:List jr) (w:World) (hL:eL (λ _=>True) w sv xs) (hn:xs.length≤1000000):CR 137 [sv] w (λ v w'=>mc (bL v xs) w w'):=by
 have hs:=St.start w;refine Zr _ _ _ ?_;unfold S137;refine xi Tryz.underlying213 (hL.ext hs.aE) (λ p hp=>aY (λ oB=>?_) (λ oB=>?_))
 ·have hx:=hp oB;subst hx;exact (hs.fY (α:=jr)).fresh
 ·refine bX (([]:List jr)) hs vV rfl rfl (eE rfl) (λ IA w1 hs=>?_);have z7:=(hL.ext hs.aE);refine cP hs vV z7 (by simp; omega) (by decide) (λ Ln w2 hs=>?_);exact hs.fresh
theorem C128 (p:Nat) (ov fv:Value) (m:Mem) (F:Nat→Prop) (cell n:Int) (w:World) (hF:(fW p ov fv m).p w F) (hK:∀ w',iH F w w'→uw ov fv m w') (hk:xt m) (hb:MB m 1000000):CR 128 [(.pointer (some ⟨p,0,none⟩)),.int .i64 cell,.int .i64 n] w (λ v w'=>v = .int .i64 (if Oo m cell=true then 0 else 1)∧qx F (fW p ov fv (iP m cell n)) w w'):=by
 have hs:=St.begin hF;obtain ⟨lv,kv,pm,hs⟩:=fW.open hs;have h20:=hk.fl;have Ys:=hk.Su;have Ny:=hk.ll;have KW:=hk.kl;have NB:=hk.lb;refine Zi _ _ _ _ _ ?_;unfold S128;refine ⟨λ jv w'=>jv = .bool (decide (cell<0∨m.l.length≤cell))∧w=w',?_,?_⟩
 ·refine aR (aC (λ gr=>?_) (λ gr=>?_))
  ·exact ⟨Pq (by omega),rfl⟩
  ·refine aF (aA q8 (aB er hs.hb rfl (aJ eg (hs.p1).fM (dI ?_))));exact ⟨tD (by omega),rfl⟩
 ·rintro _ w1 ⟨rfl,hw⟩ fu;subst hw;refine aC (λ gj=>?_) (λ gj=>?_)
  ·have hs:=hs.p3.p3.p3.p3;have vq:Oo m cell=false:=by unfold Oo; rw [decide_eq_false_iff_not]; omega
   unfold iP;rw [vq];exact ⟨rfl,(fW.shut hs).mut⟩
  ·have vq:Oo m cell=true:=by unfold Oo; rw [decide_eq_true_eq]; omega
   refine aF (aA q8 (aB er hs.hb rfl ?_));obtain ⟨GX,qf⟩:=gx (m.l) (i:=(cell).toNat) (by omega);refine dT hs.p1 eg (by omega) (by omega) (λ _ um=>lP _ hs.p1 bN um (by omega) (λ w2 hs=>?_));refine ⟨λ w'=>St w F [fW p ov fv (iP m cell n)] w',?_,?_⟩
   ·refine aF (aA tW (aB er hs.p1.hb rfl (aJ eg (hK _ hs.aE).1 (aR (aC (λ kx=>?_) (λ kx=>?_))))))
    ·refine aF (aA tW (aB er hs.p1.hb rfl ?_));obtain ⟨Ll,Bq⟩:=gx (m.of) (i:=(cell).toNat) (by omega);refine aQ eg (hK _ hs.aE).1 (by omega) Bq (λ _ Ej=>aD bN (Ej) (aF (aA m7 (have hs:=hs.drew;aB so hs.p1.hb rfl (aF (aA m7 (aB so hs.p1.hb rfl ?_)))))));have hbx:=hb Ll;obtain ⟨VA,hs⟩:=(hs.p3).EV (k:=Ll);refine ⟨_,(hs.p1).BD Tryz.underlying201 oP xf,?_⟩;refine pop (Nn _ _) (bX ([(⟨cell,n⟩:jr)]) hs vV rfl rfl (eE rfl) (λ s_x54 w3 hs=>?_));refine ⟨aG so (hs.p4.hb.cell rfl),?_⟩;refine ⟨aG so (hs.p4.hb.cell rfl),?_⟩
     refine ⟨(hs.p2).BD Tryz.underlying201 oP xf,?_⟩;have ajO:=(hs).fM;refine cP hs.p1 vV ajO (by simp; omega) (by decide) (λ aqy w4 hs=>?_);have hs:=hs.p1.drop;refine ⟨aG so (hs.p3.hb.cell rfl),?_⟩;obtain ⟨EY,rfl⟩:=(hs).fT;have hs:=hs.p1.p1;refine B9 hs Tryz.underlying201 oP (λ w5 hs=>?_);have hs:=hs.p3.p2.p3;have hwm:iP m cell n={m with l:=m.l.set cell.toNat n,gH:=tm m.gH Ll (m.gH Ll++[⟨cell,n⟩])}:=by unfold iP; rw [if_pos vq,if_pos (by omega),List.getD_eq_getElem?_getD,Bq]; rfl
     rw [hwm];exact fW.shut (m:={m with l:=_,gH:=_}) hs
    ·have hs:=hs.p3.p3.p2.p3;have hwm:iP m cell n={m with l:=m.l.set cell.toNat n}:=by unfold iP; rw [if_pos vq,if_neg (by omega)]
     rw [hwm];exact fW.shut (m:={m with l:=_,gH:=_}) hs
   ·intro w6 hs jz;exact ⟨by rw [vq]; rfl,hs.mut⟩
def QO (m:Mem) (cut:List Int):Bool:=decide ((cut.length:Int)=kY m.of) && (List.range cut.length).all λ i=>decide (0≤cut.getD i 0∧cut.getD i 0≤(m.gH i).length)
def Aq (m:Mem) (cut:List Int) (k:Nat):List Int:=(List.range k).foldl (λ o (i:Nat)=>xV o ((m.gH i).take (cut.getD i 0).toNat)) m.kept
def jI (m:Mem) (cut:List Int):Option (List Int):=if QO m cut=true then some (Aq m cut cut.length) else none
theorem G7 (m:Mem) (cut:List Int) (k:Nat):Aq m cut (k+1)=xV (Aq m cut k) ((m.gH k).take (cut.getD k 0).toNat):=by
 unfold Aq; rw [List.range_succ,List.foldl_append]; rfl
theorem ux (m:Mem) (cut:List Int):∀ k,(Aq m cut k).length=m.kept.length
 | 0=>rfl
 | k+1=>by rw [G7,Ap,ux]
theorem WN {m:Mem} {cut:List Int} {k:Nat} {c:Int} (hc:cut[k]? = some c) (h:¬ (0≤c∧c≤(m.gH k).length)):jI m cut=none:=by
 unfold jI; rw [if_neg]
 intro hh
 unfold QO at hh
 rw [Bool.and_eq_true,List.all_eq_true] at hh
 have:=hh.2 k (List.mem_range.2 (List.getElem?_eq_some_iff.1 hc).1)
 rw [decide_eq_true_eq,List.getD_eq_getElem?_getD,hc] at this
 exact h this
theorem WO {m:Mem} {cut:List Int} (h:(cut.length:Int)≠kY m.of):jI m cut=none:=by
 unfold jI QO; rw [decide_eq_false h]; rfl
theorem G8 {m:Mem} {cut:List Int} (h:(cut.length:Int)=kY m.of) (hc:∀ (k:Nat) (c:Int),k<cut.length→cut[k]? = some c→0≤c∧c≤(m.gH k).length):jI m cut=some (Aq m cut cut.length):=by
 unfold jI; rw [if_pos]
 unfold QO
 rw [Bool.and_eq_true,List.all_eq_true]
 refine ⟨decide_eq_true h,λ k hk=>?_⟩
 have hk:=List.mem_range.1 hk
 rw [decide_eq_true_eq,List.getD_eq_getElem?_getD,List.getElem?_eq_getElem hk]
 exact hc k _ hk (List.getElem?_eq_getElem hk)
def QP:List Nat→List Int→Option (List Int)
 | p::ps,c::cs=>match QP ps cs with
  | some cs'=>some (c::cs')
  | none=>if c<p then some ((c+1)::List.replicate cs.length 0) else none
 | _,_=>none
theorem WQ:∀ {ps:List Nat} {cs:List Int} {i:Nat} {p:Nat} {c:Int},ps[i]? = some p→cs[i]? = some c→QP (ps.drop (i+1)) (cs.drop (i+1))=none→c<p→
  QP ps cs=some (cs.take i++(c+1)::List.replicate (cs.length - (i+1)) 0)
 | p'::ps,c'::cs,0,p,c,hp,hc,hn,h=>by
  rw [List.getElem?_cons_zero] at hp hc
  obtain rfl:=Option.some.inj hp
  obtain rfl:=Option.some.inj hc
  have hn':QP ps cs=none:=hn
  simp [QP,hn',h]
 | p'::ps,c'::cs,i+1,p,c,hp,hc,hn,h=>by
  rw [List.getElem?_cons_succ] at hp hc
  have:=WQ hp hc hn h
  simp [QP,this]
 | [],_,_,_,_,hp,_,_,_=>by simp at hp
 | _::_,[],_,_,_,_,hc,_,_=>by simp at hc
theorem WR:∀ {ps:List Nat} {cs:List Int} {i:Nat} {p:Nat} {c:Int},ps[i]? = some p→cs[i]? = some c→QP (ps.drop (i+1)) (cs.drop (i+1))=none→¬ c<p→QP (ps.drop i) (cs.drop i)=none
 | p'::ps,c'::cs,0,p,c,hp,hc,hn,h=>by
  rw [List.getElem?_cons_zero] at hp hc
  obtain rfl:=Option.some.inj hp
  obtain rfl:=Option.some.inj hc
  have hn':QP ps cs=none:=hn
  simp [QP,hn',h]
 | p'::ps,c'::cs,i+1,p,c,hp,hc,hn,h=>by
  rw [List.getElem?_cons_succ] at hp hc
  have:=WR hp hc hn h
  simpa using this
 | [],_,_,_,_,hp,_,_,_=>by simp at hp
 | _::_,[],_,_,_,_,hc,_,_=>by simp at hc
def EZ (m:Mem) (n:Nat):List Nat:=(List.range n).map fun (i:Nat)=>(m.gH i).length
theorem E0 {m:Mem} {n i:Nat} (h:i<n):(EZ m n)[i]? = some (m.gH i).length:=by
 unfold EZ; rw [List.getElem?_map,List.getElem?_range h]; rfl
def WT (m:Mem) (cut:List Int):Option (List Int):=QP (EZ m cut.length) cut
def yU (m:Mem) (qh:List Int):Mem:={m with kept:=qh,l:=qh++m.dC.drop qh.length,gH:=λ _=>[]}
theorem Ar {cs:List Int} {t:Nat} {x:Int} (h:t<cs.length):(cs.take (t+1)++List.replicate (cs.length - (t+1)) 0).set t x=cs.take t++x::List.replicate (cs.length - (t+1)) (0:Int):=by
 have e:cs.take (t+1)=cs.take t++[cs[t]]:=by rw [List.take_add_one,List.getElem?_eq_getElem h]; rfl
 rw [e,List.append_assoc,List.set_append_right _ _ (by rw [List.length_take]; omega),List.length_take,Nat.min_eq_left (Nat.le_of_lt h),Nat.sub_self]
 rfl
theorem WU {cs:List Int} {t:Nat} (h:t<cs.length):cs.take t++0::List.replicate (cs.length - (t+1)) (0:Int)=cs.take t++List.replicate (cs.length - t) 0:=by
 rw [show cs.length - t=(cs.length - (t+1))+1 from by omega,List.replicate_succ]
theorem C129 (p:Nat) (ov fv:Value) (m:Mem) (F:Nat→Prop) (line:Int) (w:World) (hF:(fW p ov fv m).p w F) (hK:∀ w',iH F w w'→uw ov fv m w') (hk:xt m) (hb:MB m 1000000):CR 129 [(.pointer (some ⟨p,0,none⟩)),.int .i64 line] w (λ v w'=>v = .int .i64 (if Ss m line=true then 0 else 1)∧qx F (fW p ov fv (vG m line)) w w'):=by
 have hs:=St.begin hF;obtain ⟨lv,kv,pm,hs⟩:=fW.open hs;have h20:=hk.fl;have Ys:=hk.Su;have Ny:=hk.ll;have KW:=hk.kl;have NB:=hk.lb;refine Zj _ _ _ _ ?_;unfold S129;refine ⟨λ jv w'=>jv = .bool (decide (line<0∨kY m.of≤line))∧St w F [cC p [ov,fv,lv,kv,.map (some pm)],bL lv m.l,bL kv m.kept,oK pm m.gH] w',?_,?_⟩
 ·refine aR (aC (λ gi=>?_) (λ gi=>?_))
  ·exact ⟨vb (by first | exact (decide_eq_true (by omega)).symm | exact decide_eq_decide.2 (by omega)),hs⟩
  ·refine aZ T0 hs (C144 _ m _ (vk.mk' hs.hb (hK _ hs.aE) hs.p1.fM hs.p2.fM hs.p3.WJ) hk) (λ w1 he hs=>dI ?_);exact ⟨vb (by first | exact (decide_eq_true (by omega)).symm | exact decide_eq_decide.2 (by omega)),hs⟩
 ·rintro _ w2 ⟨rfl,hs⟩ fu;refine aC (λ gV=>?_) (λ gV=>?_)
  ·have hs:=hs.p3.p3.p3.p3;have vq:Ss m line=false:=by unfold Ss; rw [decide_eq_false_iff_not]; omega
   unfold vG;rw [vq];exact ⟨rfl,(fW.shut hs).mut⟩
  ·refine aF (aA m7 (aB so hs.hb rfl ?_));obtain ⟨afL,hs⟩:=(hs.p3).EV (k:=line);refine ⟨_,(hs.p1).BD Tryz.underlying201 oP xf,?_⟩;have yh:=hb line;refine aJ vV (hs).fM ?_;have hs:=hs.p3.p3.p4.p4.p4;refine ⟨λ mm x w1=>∃ k:Nat,x = .int .i64 (k:Int)∧mm=(m.gH line).length - k∧k≤(m.gH line).length∧St w F [bL (Flat.val afL) (m.gH line),LN pm m.gH line afL,bL kv (xV m.kept ((m.gH line).take k)),cC p [ov,fv,lv,kv,.map (some pm)],bL lv m.l] w1,⟨_,0,rfl,rfl,Nat.zero_le _,hs⟩,?_⟩;rintro mm _ w3 ⟨k,rfl,rfl,JF,hs⟩ jz;refine aR (aC (λ iU=>?_) (λ iU=>?_))
   ·obtain ⟨gW,iB⟩:=gx ((m.gH line)) (i:=((k:Int)).toNat) (by omega);refine dT hs vV (by omega) (by omega) (λ _ wg=>?_);have hpc:=hk.pc line _ (List.mem_of_getElem? iB);refine ga hs Qa wg iB (aO hs Qb (λ b_w6 w4 hs=>aI (x:=gW) hs Qa rfl rfl (λ w5 hs=>aF (aA zH (have hs:=hs.drew;aB er hs.p4.hb rfl (aA Kw ?_))))));have hal:=Ap ((m.gH line).take k) m.kept;refine aB (v:=.int .i64 ((gW).cell)) bN hs.hb rfl (aA Kx (aB (v:=.int .i64 ((gW).n)) bN hs.hb rfl ?_));obtain ⟨vz,tq⟩:=gx ((xV m.kept ((m.gH line).take k))) (i:=((gW).cell).toNat) (by omega)
    refine dT hs.p3 eg (by omega) (by omega) (λ _ rJ=>lP _ hs.p3 bN rJ (by omega) (λ w6 hs=>aN (by omega) ?_));have hs:=(hs.p1.drop.p4.p4.p2.p4).p4;exact ⟨_,by omega,k+1,rfl,rfl,by omega,by rw [G6 (j:=k) iB]; exact hs⟩
   ·rw [List.take_of_length_le (by omega)] at hs;refine aF (aA m7 (aB so hs.p3.hb rfl ?_));have hs:=hs.p1.p1.WK;rw [Sq] at hs;refine LO hs rfl Tryz.underlying201 oP (λ _ w7 hs=>?_);have hs:=hs.p1.p3.p3;have vq:Ss m line=true:=by unfold Ss; rw [decide_eq_true_eq]; omega
    have I6:vG m line={m with kept:=xV m.kept (m.gH line),gH:=tm m.gH line []}:=by unfold vG; rw [if_pos vq]
    rw [I6,vq];exact ⟨rfl,(fW.shut (m:={m with kept:=_,gH:=_}) hs).mut⟩
theorem C125 (p:Nat) (m:Mem) (cut:List Int) (cv:Value) (w:World) (hm:vk w p m) (hk:xt m) (hb:MB m 1000000) (hC:eL (λ _=>True) w cv cut) (ajP:cut.length≤1000):CR 125 [(.pointer (some ⟨p,0,none⟩)),cv] w (λ v w'=>(jI m cut=none∧v = .tuple #[.slice none 0 0,.int .i64 1]∧Ext w w')∨∃ qh o,jI m cut=some qh∧v = .tuple #[o,.int .i64 0]∧mc (bL o qh) w w'):=by
 have EX:=hm;obtain ⟨ov,fv,lv,kv,pm,c0,c1,c2,c3,c4,hO,Sv,hL,hKp,hP⟩:=hm;have h20:=hk.fl;have Ys:=hk.Su;have Ny:=hk.ll;have KW:=hk.kl;have NB:=hk.lb;have hs:=St.start w;refine Zf _ _ _ _ ?_;unfold S125;refine aJ eg (hC.ext hs.aE) (aZ T0 hs (C144 _ m _ (EX.ext hs.aE) hk) (λ w1 he hs=>cT (aC (λ jQ=>?_) (λ jQ=>?_))))
 ·exact .inl ⟨WO (by omega),rfl,hs.aE⟩
 ·refine dG TU hs (C73 _ m _ (EX.ext hs.aE) hk) (λ x17 w2 cA hs=>aJ eg (hC.ext hs.aE) ?_);refine ⟨λ mm x w1=>∃ k:Nat,x = .int .i64 (k:Int)∧mm=cut.length - k∧k≤cut.length∧(∀ (i:Nat) (c:Int),i<k→cut[i]? = some c→0≤c∧c≤(m.gH i).length)∧St w bD [bL x17 (Aq m cut k)] w1,⟨_,0,rfl,rfl,Nat.zero_le _,λ i c h=>absurd h (by omega),hs⟩,?_⟩;rintro mm _ w3 ⟨k,rfl,rfl,JF,oF,hs⟩ fu;refine aR (aC (λ gz=>?_) (λ gz=>?_))
  ·obtain ⟨rp,ky⟩:=gx (cut) (i:=((k:Int)).toNat) (by omega);refine aQ eg hC (by omega) ky (λ _ pO=>aD bN (pO.ext hs.aE) ?_);refine ⟨λ jv w'=>jv = .bool (decide (rp<0∨(m.gH k).length<rp))∧w3=w',?_,?_⟩
   ·refine aR (aC (λ sC=>?_) (λ sC=>?_))
    ·exact ⟨Pq (by omega),rfl⟩
    ·refine aF (aA m7 (cG so (c4.ext hs.aE) (BC hP hs.aE Tryz.underlying201 oP xf (λ aqz rJ=>aJ vV (rJ.ext hs.aE) (cZ ?_)))));exact ⟨tD (by omega),rfl⟩
   ·rintro _ w4 ⟨rfl,hw⟩ jz;subst hw;refine aC (λ ud=>?_) (λ ud=>?_)
    ·exact .inl ⟨WN (k:=k) ky (by omega),rfl,hs.aE⟩
    ·refine aF (aA m7 (cG so (c4.ext hs.aE) (BC hP hs.aE Tryz.underlying201 oP xf (λ ae8 yo=>?_))));have FZ:=hb k;have Nd:((m.gH k).take rp.toNat).length≤(m.gH k).length:=by rw [List.length_take]; omega
     refine nq vV (yo.ext hs.aE) (by omega) (by omega) (λ Wl Oh=>?_);have IZ:=Oh _ yo;refine aJ vV (IZ.ext hs.aE) ?_;refine ⟨λ mm x w1=>∃ j:Nat,x = .int .i64 (j:Int)∧mm=((m.gH k).take rp.toNat).length - j∧j≤((m.gH k).take rp.toNat).length∧St w bD [bL x17 (xV (Aq m cut k) (((m.gH k).take rp.toNat).take j))] w1,⟨_,0,rfl,rfl,Nat.zero_le _,hs⟩,?_⟩;rintro mm _ w5 ⟨j,rfl,rfl,hj,hs⟩ oG;refine aR (aC (λ zW=>?_) (λ zW=>?_))
     ·obtain ⟨En,u9⟩:=gx ((((m.gH (k:Int))).take (rp).toNat)) (i:=((j:Int)).toNat) (by omega);refine aQ vV IZ (by omega) u9 (λ _ Eo=>?_);have hpc:=hk.pc k _ (List.mem_of_mem_take (List.mem_of_getElem? u9));refine aD Qa (Eo.ext hs.aE) (aO hs Qb (λ b_w10 w6 hs=>aI (x:=En) hs Qa rfl rfl (λ w7 hs=>aA Kw ?_)));have hal:=Ap (((m.gH k).take rp.toNat).take j) (Aq m cut k);have hil:=ux m cut k;refine aB (v:=.int .i64 ((En).cell)) bN hs.hb rfl (aA Kx (aB (v:=.int .i64 ((En).n)) bN hs.hb rfl ?_));obtain ⟨aqA,ajQ⟩:=gx ((xV (Aq m cut k) (((m.gH k).take rp.toNat).take j))) (i:=((En).cell).toNat) (by omega)
      refine dT hs.p1 eg (by omega) (by omega) (λ _ LQ=>lP _ hs.p1 bN LQ (by omega) (λ w8 hs=>aN (by omega) ?_));have hs:=(hs.p1).drop;exact ⟨_,by omega,j+1,rfl,rfl,by omega,by rw [G6 (j:=j) u9]; exact hs⟩
     ·rw [List.take_of_length_le (i:=j) (by omega)] at hs;refine aN (by omega) ?_;refine ⟨_,by omega,k+1,rfl,rfl,by omega,λ i c hi hc=>?_,?_⟩
      ·by_cases e:i=k
       ·subst e; obtain rfl:=Option.some.inj (hc.symm.trans ky); omega
       ·exact oF i c (by omega) hc
      ·rw [G7,List.getD_eq_getElem?_getD,show cut[k]? = some rp from ky]; exact hs
  ·exact .inr ⟨_,_,G8 (by omega) (λ i c hi hc=>oF i c (by omega) hc),rfl,by rw [show cut.length=k from by omega]; exact hs.fresh⟩
theorem C145 (p:Nat) (m:Mem) (cut:List Int) (cv:Value) (w:World) (hm:vk w p m) (hk:xt m) (hb:MB m 1000000) (hC:eL (λ _=>True) w cv cut) (ajP:cut.length≤1000) (vr:∀ c∈cut,0≤c):CR 145 [(.pointer (some ⟨p,0,none⟩)),cv] w (λ v w'=>(WT m cut=none∧v = .tuple #[.slice none 0 0,.bool false]∧Ext w w')∨∃ c o,WT m cut=some c∧v = .tuple #[o,.bool true]∧mc (bL o c) w w'):=by
 have EX:=hm;obtain ⟨ov,fv,lv,kv,pm,c0,c1,c2,c3,c4,hO,Sv,hL,hKp,hP⟩:=hm;have hs:=St.start w;refine Zt _ _ _ _ ?_;unfold S145;refine dG zu hs (C70 _ _ _ (hC.ext hs.aE) (by omega)) (λ x9 w1 cA hs=>?_);have hlx:cut.length=cut.length:=rfl;refine aJ eg (hs).fM (gD (by omega) ?_);refine ⟨λ mm x w1=>∃ t:Nat,x = .int .i64 ((t:Int) - 1)∧mm=t∧t≤cut.length∧QP ((EZ m cut.length).drop t) (cut.drop t)=none∧St w bD [bL x9 (cut.take t++List.replicate (cut.length - t) 0)] w1,⟨_,cut.length,rfl,rfl,Nat.le_refl _,by rw [List.drop_eq_nil_of_le (Nat.le_refl _)]; cases (EZ m cut.length).drop cut.length <;> rfl,by simpa using hs⟩,?_⟩
 rintro t _ w2 ⟨_,rfl,rfl,ht,fQ,hs⟩ fu;refine dI (aC (λ gV=>?_) (λ gV=>?_))
 ·have hlx:(cut.take t++List.replicate (cut.length - t) 0).length=cut.length:=by rw [List.length_append,List.length_take,List.length_replicate]; omega
  obtain ⟨jg,fE⟩:=gx ((cut.take t++List.replicate (cut.length - t) 0)) (i:=(((t:Int) - 1)).toNat) (by omega);refine dT hs eg (by omega) (by omega) (λ _ jR=>?_);have hs:=hs.drew
  have hct:cut[t - 1]? = some jg:=by
   have:=fE;rw [show ((t:Int) - 1).toNat=t - 1 from by omega,List.getElem?_append_left (by rw [List.length_take]; omega),List.getElem?_take,if_pos (by omega)] at this;exact this
  have hx0:=vr _ (List.mem_of_getElem? hct);have he:=rfl (a:=jg);refine ga hs bN jR fE (aF (aA m7 (cG so (c4.ext hs.aE) (BC hP hs.aE Tryz.underlying201 oP xf (λ s_x26 ry=>aJ vV (ry.ext hs.aE) (aR (aC (λ LL=>?_) (λ LL=>?_))))))))
  ·refine dT hs eg (by omega) (by omega) (λ _ oH=>ga hs bN oH fE ?_);have hbx:=hb ((t:Int) - 1);refine aN (by omega) (dT hs eg (by omega) (by omega) (λ _ rJ=>lP _ hs bN rJ (by omega) (λ w3 hs=>?_)));refine .inr ⟨_,_,WQ (i:=t - 1) (E0 (by omega)) hct (by rw [show t - 1+1=t from by omega]; exact fQ) (by rw [show ((t - 1:Nat):Int)=(t:Int) - 1 from by omega]; omega),rfl,?_⟩;rw [he,show ((t:Int) - 1).toNat=t - 1 from by omega] at hs;have gb:=Ar (cs:=cut) (t:=t - 1) (x:=jg+1) (by omega);rw [show t - 1+1=t from by omega] at gb ⊢;rw [gb] at hs;exact hs.fresh
  ·have hbx:=hb ((t:Int) - 1);refine dT hs eg (by omega) (by omega) (λ _ Ej=>lP _ hs bN Ej (by omega) (λ w4 hs=>gD (by omega) ?_));refine ⟨_,by omega,t - 1,by congr 1; omega,rfl,by omega,WR (i:=t - 1) (E0 (by omega)) hct (by rw [show t - 1+1=t from by omega]; exact fQ) (by rw [show ((t - 1:Nat):Int)=(t:Int) - 1 from by omega]; omega),?_⟩;rw [show ((t:Int) - 1).toNat=t - 1 from by omega] at hs;have gb:=Ar (cs:=cut) (t:=t - 1) (x:=0) (by omega);rw [show t - 1+1=t from by omega] at gb;rw [gb] at hs;have hrs:=WU (cs:=cut) (t:=t - 1) (by omega);rw [show t - 1+1=t from by omega] at hrs;rw [hrs] at hs
   exact hs
 ·exact .inl ⟨by unfold WT; rw [show t=0 from by omega] at fQ; simpa using fQ,rfl,hs.drop.aE⟩
theorem C58 (p:Nat) (ov fv:Value) (m:Mem) (F:Nat→Prop) (cut:List Int) (cv:Value) (w:World) (hF:(fW p ov fv m).p w F) (hK:∀ w',iH F w w'→uw ov fv m w') (hk:xt m) (hb:MB m 1000000) (hC:∀ w',iH F w w'→eL (λ _=>True) w' cv cut) (ajP:cut.length≤1000):CR 58 [(.pointer (some ⟨p,0,none⟩)),cv] w (λ v w'=>(jI m cut=none∧v = .int .i64 1∧qx F (fW p ov fv m) w w')∨∃ qh,jI m cut=some qh∧v = .int .i64 0∧qx F (fW p ov fv (yU m qh)) w w'):=by
 have hs:=St.begin hF;obtain ⟨lv,kv,pm,hs⟩:=fW.open hs;have h20:=hk.fl;have Ys:=hk.Su;have Ny:=hk.ll;have KW:=hk.kl;have NB:=hk.lb;refine ag8 _ _ _ _ ?_;unfold S58;refine eu aej (C125 _ m cut _ _ (vk.mk' hs.hb (hK _ hs.aE) hs.p1.fM hs.p2.fM hs.p3.WJ) hk hb (hC _ hs.aE) (by omega)) ?_;rintro v_x10 w1 ajR
 rcases ajR with ⟨rN,rfl,he⟩ | ⟨I7,o_x10,rN,rfl,cA⟩
 ·have hs:=hs.ext he;refine bG rfl (bG rfl (cT (fS (by decide) ?_)));have hs:=hs.p3.p3.p3.p3;exact .inl ⟨rN,rfl,(fW.shut hs).mut⟩
 ·have hs:=hs.made cA;refine bG rfl (bG rfl (cT (gq (by decide) (aF (aA zH (aV hs.p1 er (eE rfl) ((hs).fM.one) (λ w2 hs=>aF (aA q8 (have hs:=hs.drew;aB er hs.hb rfl (aF (aA Kv (aB er hs.hb rfl ?_))))))))))));refine LP hs.p2 eg (hK _ hs.aE).2 (by omega) (λ w3 hs=>aF (aA q8 (aB er hs.p1.hb rfl (LP hs eg (hs.p2).fM (by rw [List.length_append,List.length_drop]; have hil:I7.length=m.of.length:=(by unfold jI at rN; split at rN <;> simp at rN; rw [← rN,ux]; exact KW); omega) (λ w4 hs=>ow (α:=jr) hs (λ b_x36 w5 hs=>aF (aA m7 (aV hs.p2 so (eE rfl) (rfl) (λ w6 hs=>?_)))))))))
  have hs:=((hs.p4.drop.p4.drop.p1.p3).p3).p3;have hil:I7.length=m.of.length:=by unfold jI at rN; split at rN <;> simp at rN; rw [← rN,ux]; exact KW
  rw [show m.l.drop m.dC.length=[] from List.drop_eq_nil_of_le (by omega),List.append_nil] at hs;exact .inr ⟨_,rN,rfl,(fW.shut (m:=yU m I7) hs).mut⟩
end Go.Proofs.YtnjcingfdhjfkaaGreat
namespace Go.Fw
open Go.MapKept (Stamped IsKey)
open Go.ChangeMaps (setBlock)
section
variable {P:Program} {w w0 w':World} {A:Nat→Prop} {L:List HP} {b r:Nat}
def G9 (r m since:Nat) (seen:Array Nat):HP where
 p w F:=w.heap[r]? = some (.mapIter (some m) since seen since)∧∀ k,F k↔k=r
 loc w w' F h hh:=⟨(hh r ((h.2 r).2 rfl)).trans h.1,h.2⟩
 lt w F b' h hb:=by rw [(h.2 b').1 hb]; exact jW h.1
theorem Sw {T Kt E:TypeId} {es:Array MapEntry} {clock:Nat} {K:Value→World→Prop} (hs:St w0 A L w) (ht:P.underlying T=some (.map Kt E)) (hb:w.heap[b]? = some (.map es clock))
  (k:∀ r w',St w0 A (G9 r b clock #[]::L) w'→K (.pointer (some ⟨r,0,none⟩)) w'):ia P (Instr.range T (.map (some b))) w K:=
 ⟨_,_,run_range_map w T Kt E b es clock ht hb,k _ _ (hs.new (Ext.push w _) (F:=λ k=>k=w.heap.size) ⟨pB _ _,λ _=>Iff.rfl⟩ λ b hb=>by rw [hb]; exact Nat.le_refl _)⟩
theorem WV {T since:Nat} {seen:Array Nat} {es:Array MapEntry} {K:Value→World→Prop} (hs:St w0 A (G9 r b since seen::L) w) (hb:w.heap[b]? = some (.map es since)) (hold:∀ x∈es.toList,x.born<since)
  (k0:(leftOf es seen).size=0→K (.tuple #[.bool false]) w)
  (k1:∀ e w',e∈(leftOf es seen).toList→St w0 A (G9 r b since (seen.push e.born)::L) w'→K (.tuple #[.bool true,e.key,e.val]) w'):ia P (Instr.next (.pointer (some ⟨r,0,none⟩)) false T) w K:=by
 obtain ⟨F,h,_⟩:=hs.head
 rcases run_next_at (P:=P) w T r b since since seen es since h.1 hb hold (Nat.le_refl _) with ⟨h1,h2⟩ | ⟨e,he,w1,hw,h2⟩
 ·exact ⟨_,w,h2,k0 h1⟩
 ·have e1:St w0 A (G9 r b since seen::L) w1:=by
   rcases hw with rfl | rfl
   ·exact hs
   ·exact hs.ext ⟨rfl,rfl,rfl,Nat.le_refl _,λ _ _ _=>rfl⟩
  refine ⟨_,_,h2,k1 e _ he (e1.rZ λ F hF=>⟨F,⟨mr _ (jW hF.1),hF.2⟩,λ b hb=>.inl hb,(iH.setBlock w1 r _).mono λ k hk=>(hF.2 k).2 hk⟩)⟩
theorem Sx {since:Nat} {seen:Array Nat} {es:Array MapEntry} {e:MapEntry} {K:Value→Prop} (hs:St w0 A (G9 r b since (seen.push e.born)::L) w) (hb:w.heap[b]? = some (.map es since)) (he:e∈es.toList) (hn:(es.toList.map (·.born)).Nodup)
  (k:K (.tuple #[e.key,e.val])):Da P (Instr.entry (.pointer (some ⟨r,0,none⟩))) w K:=by
 obtain ⟨F,h,_⟩:=hs.head
 exact ⟨_,run_entry_at w r b since seen es since e h.1 hb he hn,k⟩
theorem sK.es {α:Type} [Flat α] {f:Int→List α} (h:sK w b f):∃ es clock,w.heap[b]? = some (.map es clock)∧Stamped es clock∧(∀ e∈es.toList,∃ k,∃ s:SV,e.key = .int .i64 k∧e.val=Flat.val s∧eL (λ _=>True) w (Flat.val s) (f k))∧∀ k,(∀ e∈es.toList,e.key≠.int .i64 k)→f k=[]:=by
 obtain ⟨ks,ss,⟨es,clock,h1,h2,h3,h4⟩,h5,h6⟩:=h
 have ML:es.toList.length=ks.length:=by have:=congrArg List.length h3; simpa using this
 have hls:es.toList.length=ss.length:=by have:=congrArg List.length h4; simpa using this
 refine ⟨es,clock,h1,h2,λ e he=>?_,λ k hk=>h6 k λ hm=>?_⟩
 ·obtain ⟨i,hi,rfl⟩:=List.getElem_of_mem he
  refine ⟨ks[i]'(by omega),ss[i]'(by omega),?_,?_,h5 i _ _ (List.getElem?_eq_getElem _) (List.getElem?_eq_getElem _)⟩
  ·have:=congrArg (·[i]?) h3
   simp only [List.getElem?_map,List.getElem?_eq_getElem hi,List.getElem?_eq_getElem (show i<ks.length by omega)] at this
   exact Option.some.inj this
  ·have:=congrArg (·[i]?) h4
   simp only [List.getElem?_map,List.getElem?_eq_getElem hi,List.getElem?_eq_getElem (show i<ss.length by omega)] at this
   exact Option.some.inj this
 ·have:Value.int .i64 k∈es.toList.map (·.key):=by rw [h3]; exact List.mem_map.2 ⟨k,hm,rfl⟩
  obtain ⟨e,he,yt⟩:=List.mem_map.1 this
  exact hk e he yt
theorem E1 {o:Obj} (h:w.heap[b]? = some o) (e:Ext w w'):w'.heap[b]? = some o:=(e.cC b (jW h) λ h=>h).trans h
theorem E2 {seen:Array Nat} {x y:Nat} (h:(seen.push x).contains y=true):seen.contains y=true∨y=x:=by
 simp at h ⊢; exact h
theorem born_inj {es:Array MapEntry} (hn:(es.toList.map (·.born)).Nodup) {e e':MapEntry} (h:e∈es.toList) (h':e'∈es.toList) (hb:e.born=e'.born):e=e':=by
 obtain ⟨i,hi,rfl⟩:=List.getElem_of_mem h
 obtain ⟨j,hj,rfl⟩:=List.getElem_of_mem h'
 have:=(List.getElem_inj (i:=i) (j:=j) (h₀:=by simpa using hi) (h₁:=by simpa using hj) hn).1 (by simpa using hb)
 subst this; rfl
end
section
variable {P:Program} {w w0 w':World} {A:Nat→Prop} {L:List HP} {b r:Nat}
def LR (P:Program) (n T E:Nat):Prop:=P.underlying T=some (.array n E)∧P.underlying E=some (.int .i64)∧pr P (sizeOf E)=some 1
abbrev As (xs:List Int):Value:=.agg (xs.map (Value.int .i64)).toArray
theorem LS {β:Type} {f:Nat→β→Sem (ForInStep β)} {g:Nat→Bool} {x0 stop:β}:∀ l:List Nat,(∀ i∈l,pr P (f i x0)=some (if g i=true then .yield x0 else .done stop))→pr P (forIn l x0 f)=some (if l.all g=true then x0 else stop)
 | [],_=>by simp [fc]
 | i::l,h=>by
  rw [List.forIn_cons,cN,h i (by simp)]
  by_cases hg:g i=true
  ·rw [if_pos hg]
   simp only [Option.bind_some]
   rw [LS l λ j hj=>h j (by simp [hj])]
   simp [hg]
  ·rw [if_neg hg]
   simp [hg,fc]
theorem yV {E:TypeId} {xs:List Int} {i:Nat} (hE:P.underlying E=some (.int .i64)) (hi:i<xs.length):pr P (part E (xs.map (Value.int .i64)).toArray i)=some (.int .i64 xs[i]):=
 Ie (n:=0) hE rfl (by simp [hi])
theorem ac2 {n T E:Nat} {xs ys:List Int} (h:LR P n T E) (hx:xs.length=n) (hy:ys.length=n):pr P (Op.equal T (As xs) (As ys))=some (decide (xs=ys)):=by
 obtain ⟨ht,he,hs⟩:=h
 have e:∀ x y:Int,pr P (Op.equalIn 9999 E (.int .i64 x) (.int .i64 y))=some (decide (x=y)):=λ x y=>by
  rw [BS (k:=9998) (n:=0) he rfl rfl rfl]; rfl
 show pr P (Op.equalIn (9999+1) T _ _)=_
 unfold Op.equalIn
 rw [cN,cM ht]
 simp only [Option.bind_some,cN,hs]
 simp only [Std.Legacy.Range.forIn_eq_forIn_range',Std.Legacy.Range.size,Nat.sub_zero,Nat.add_sub_cancel,Nat.div_one,Nat.mul_one]
 rw [LS (g:=λ i=>decide (xs[i]? = ys[i]?)) (stop:=⟨some false,PUnit.unit⟩)]
 ·by_cases hxy:xs=ys
  ·subst hxy
   simp [fc]
  ·have:(List.range' 0 n).all (λ i=>decide (xs[i]? = ys[i]?))=false:=by
    rw [List.all_eq_false]
    apply Classical.byContradiction
    intro hc
    apply hxy
    apply List.ext_getElem?
    intro i
    apply Classical.byContradiction
    intro A1
    by_cases hi:i<n
    ·exact hc ⟨i,by simp [List.mem_range']; omega,by simpa using A1⟩
    ·exact A1 (by rw [List.getElem?_eq_none (by omega),List.getElem?_eq_none (by omega)])
   simp [this,hxy,fc]
 ·intro i hi
  have M0:i<n:=by simp [List.mem_range'] at hi; omega
  simp only [cN,yV he (show i<xs.length by omega),yV he (show i<ys.length by omega),Option.bind_some,e]
  rw [List.getElem?_eq_getElem (show i<xs.length by omega),List.getElem?_eq_getElem (show i<ys.length by omega)]
  by_cases hq:xs[i]'(by omega)=ys[i]'(by omega)
  ·simp [hq,fc]
  ·simp [hq,fc]
def Oq (b n:Nat) (ks:List (List Int)):HP where
 p w F:=(∃ es clock,w.heap[b]? = some (.map es clock)∧es.toList.map (·.key)=ks.map As∧(∀ e∈es.toList,e.val = .bool true)∧∀ k∈ks,k.length=n)∧∀ k,F k↔k=b
 loc w w' F h hh:=by
  obtain ⟨⟨es,c,h1,h2⟩,h3⟩:=h; exact ⟨⟨es,c,(hh b ((h3 b).2 rfl)).trans h1,h2⟩,h3⟩
 lt w F b' h hb:=by obtain ⟨⟨es,c,h1,h2⟩,h3⟩:=h; rw [(h3 b').1 hb]; exact jW h1
theorem LU {T n:TypeId} {K:Value→World→Prop} (hs:St w0 A L w) (k:∀ b w',St w0 A (Oq b n []::L) w'→K (.map (some b)) w'):ia P (Instr.makeMap T none) w K:=
 ⟨_,_,rfl,k _ _ (hs.new (Ext.push w (.map #[] 0)) (F:=λ k=>k=w.heap.size) ⟨⟨#[],0,pB _ _,rfl,by simp,by simp⟩,λ _=>Iff.rfl⟩ λ b hb=>by rw [hb]; exact Nat.le_refl _)⟩
theorem WW {T E n:Nat} {x:List Int} (h:LR P n T E) (hx:x.length=n):∀ (es:List MapEntry) (ks:List (List Int)) (i:Nat),es.map (·.key)=ks.map As→(∀ k∈ks,k.length=n)→(∀ e∈es,e.val = .bool true)→
  (x ∉ ks∧pr P (Instr.findAsking T (As x) es i)=some none)∨(x∈ks∧∃ j,pr P (Instr.findAsking T (As x) es i)=some (some (j,.bool true)))
 | [],ks,i,hk,_,_=>by
  have:ks=[]:=by simpa using hk.symm
  subst this
  exact .inl ⟨by simp,rfl⟩
 | e::es,[],i,hk,_,_=>by simp at hk
 | e::es,k::ks,i,hk,hl,hv=>by
  simp only [List.map_cons,List.cons.injEq] at hk
  have he:pr P (Op.equal T (As x) e.key)=some (decide (x=k)):=by rw [hk.1]; exact ac2 h hx (hl k (by simp))
  unfold Instr.findAsking
  rw [cN,he]
  simp only [Option.bind_some]
  by_cases hxk:x=k
  ·subst hxk
   refine .inr ⟨by simp,i,?_⟩
   simp [fc,hv e (by simp)]
  ·rcases WW h hx es ks (i+1) hk.2 (λ k hk=>hl k (by simp [hk])) (λ e he=>hv e (by simp [he])) with ⟨h1,h2⟩ | ⟨h1,j,h2⟩
   ·exact .inl ⟨by simp [hxk,h1],by simp [hxk,h2]⟩
   ·exact .inr ⟨by simp [h1],j,by simp [hxk,h2]⟩
theorem LV {E:TypeId} {x:Int} {em:Bool} (hE:P.underlying E=some (.int .i64)):pr P (Instr.checkKey em 9999 E (.int .i64 x))=some ():=by
 show pr P (Instr.checkKey em (9998+1) E _)=_
 unfold Instr.checkKey
 rw [cN,cM hE]; rfl
theorem E3 {f:Nat→PUnit→Sem (ForInStep PUnit)}:∀ l:List Nat,(∀ i∈l,pr P (f i ⟨⟩)=some (.yield ⟨⟩))→pr P (forIn l PUnit.unit f)=some ⟨⟩
 | [],_=>by simp [fc]
 | i::l,h=>by
  rw [List.forIn_cons,cN,h i (by simp)]
  simp only [Option.bind_some]
  exact E3 l λ j hj=>h j (by simp [hj])
theorem Ca {T E n:Nat} {x:List Int} {em:Bool} (h:LR P n T E) (hx:x.length=n):pr P (Instr.checkKey em 10000 T (As x))=some ():=by
 obtain ⟨ht,he,hs⟩:=h
 show pr P (Instr.checkKey em (9999+1) T _)=_
 unfold Instr.checkKey
 rw [cN,cM ht]
 simp only [Option.bind_some,cN,hs]
 simp only [Std.Legacy.Range.forIn_eq_forIn_range',Std.Legacy.Range.size,Nat.sub_zero,Nat.add_sub_cancel,Nat.div_one,Nat.mul_one]
 rw [E3]
 ·rfl
 ·intro i hi
  have M0:i<n:=by simp [List.mem_range'] at hi; omega
  simp only [cN,hs,Option.bind_some,Nat.mul_one,yV he (show i<x.length by omega),LV he,fc]
theorem QQ {T E n:Nat} {x:List Int} {es:List MapEntry} {ks:List (List Int)} (h:LR P n T E) (hx:x.length=n) (hk:es.map (·.key)=ks.map As) (hl:∀ k∈ks,k.length=n) (hv:∀ e∈es,e.val = .bool true) :
  (x ∉ ks∧pr P (Instr.findKey T (As x) es)=some none)∨(x∈ks∧∃ j,pr P (Instr.findKey T (As x) es)=some (some (j,.bool true))):=by
 unfold Instr.findKey
 rw [cN,cM h.1]
 simp only [Option.bind_some]
 cases es with
 | nil=>
  have:ks=[]:=by simpa using hk.symm
  subst this
  exact .inl ⟨by simp,rfl⟩
 | cons e es=>exact WW h hx (e::es) ks 0 hk hl hv
theorem ac3 {T Kt E Et n:Nat} {x:List Int} {ks:List (List Int)} {K:Value→Prop} (hs:St w0 A (Oq b n ks::L) w) (ht:P.underlying T=some (.map Kt Et)) (h:LR P n Kt E) (hz:qt P Et (.bool false)) (hx:x.length=n)
  (k:K (.bool (decide (x∈ks)))):Da P (Instr.lookup T (.map (some b)) (As x) false) w K:=by
 obtain ⟨F,⟨⟨es,c,h1,h2,h3,h4⟩,h5⟩,_⟩:=hs.head
 refine ⟨_,?_,k⟩
 have hz':(zeroValue Et).run P w = .ok (.bool false) w:=by
  unfold qt eh at hz
  cases hi:P.info? Et with
  | none=>rw [hi] at hz; cases hz
  | some i=>
   rw [hi] at hz
   simp only [Option.map_some,Option.some.injEq] at hz
   refine fo ?_ w
   unfold zeroValue; rw [cN,nz hi]; simp only [Option.bind_some,hz]; rfl
 have hc:=fo (Ca (em:=es.isEmpty) h hx) w
 rcases QQ h hx h2 h4 h3 with ⟨h6,h7⟩ | ⟨h6,j,h7⟩
 ·have h8:=fo h7 w
  simp [Instr.lookup,run_underlying ht,MapKept.run_getObj_map h1,hc,h8,hz',Result.andThen,h6]
 ·have h8:=fo h7 w
  simp [Instr.lookup,run_underlying ht,MapKept.run_getObj_map h1,hc,h8,Result.andThen,h6]
theorem ac4 {T Kt E Et n:Nat} {x:List Int} {ks:List (List Int)} {K:World→Prop} (hs:St w0 A (Oq b n ks::L) w) (ht:P.underlying T=some (.map Kt Et)) (h:LR P n Kt E) (hx:x.length=n) (cA:x ∉ ks)
  (k:∀ w',St w0 A (Oq b n (ks++[x])::L) w'→K w'):AZ P (Instr.mapUpdate T (.map (some b)) (As x) (.bool true)) w K:=by
 obtain ⟨F,⟨⟨es,c,h1,h2,h3,h4⟩,h5⟩,_⟩:=hs.head
 have hc:=fo (Ca (em:=false) h hx) w
 rcases QQ h hx h2 h4 h3 with ⟨h6,h7⟩ | ⟨h6,j,h7⟩
 ·have h8:=fo h7 w
  refine ⟨setBlock w b (.map (es.push ⟨As x,.bool true,c⟩) (c+1)),?_,k _ (hs.rZ λ F' hF=>⟨F',⟨⟨_,_,mr _ (jW h1),by simp [h2],?_,?_⟩,hF.2⟩,λ b hb=>.inl hb,(iH.setBlock w b _).mono λ k hk=>(hF.2 k).2 hk⟩)⟩
  ·simp [Instr.mapUpdate,run_underlying ht,MapKept.run_getObj_map h1,hc,h8,rM h1,Result.andThen]
  ·intro e he; simp at he; rcases he with he | rfl
   ·exact h3 e (by simpa using he)
   ·rfl
  ·intro q hq; simp at hq; rcases hq with hq | rfl
   ·exact h4 q hq
   ·exact hx
 ·exact absurd h6 cA
theorem bI {f:FuncId} {args:List Value} {H:HP} {H':Value→HP} {Φ:Value→World→Prop} {K:Value→World→Prop} (pl:Plain P f) (hs:St w0 A (H::L) w)
  (hc:∀ F,H.p w F→(∀ w',iH F w w'→St w0 A L w')→Calls P f args.toArray w (qp λ v w'=>Φ v w'∧qx F (H' v) w w')) (k:∀ v w',Φ v w'→St w0 A (H' v::L) w'→K v w'):Db P f args w K:=by
 obtain ⟨U,F,U',h1,h2,h3,h4,h5⟩:=hs.sW
 refine eu pl (hc F h1 λ w' hw=>⟨hs.aE.trans hw (λ _ h=>h) λ b hb hf=>(h2 b hf).elim id λ hh=>by omega,U',h5.loc λ b hb=>hw.cC b (h5.lt b hb) λ hf=>h3 b hf hb⟩) λ v w' ⟨hΦ,hM⟩=>k v w' hΦ (hs.Uv h2 h3 h5 hM)
theorem WX {g:FuncId} {args first cap:List Value} {H:HP} {H':Value→HP} {Φ:Value→World→Prop} {K:Value→World→Prop} (pl:Plain P g) (hs:St w0 A (H::L) w)
  (hc:∀ F,H.p w F→(∀ w',iH F w w'→St w0 A L w')→Calls P g (first++args++cap).toArray w (qp λ v w'=>Φ v w'∧qx F (H' v) w w')) (k:∀ v w',Φ v w'→St w0 A (H' v::L) w'→K v w'):fZ P (.func (.func g) first.toArray cap.toArray) args w K:=by
 obtain ⟨U,F,U',h1,h2,h3,h4,h5⟩:=hs.sW
 refine gg pl (hc F h1 λ w' hw=>⟨hs.aE.trans hw (λ _ h=>h) λ b hb hf=>(h2 b hf).elim id λ hh=>by omega,U',h5.loc λ b hb=>hw.cC b (h5.lt b hb) λ hf=>h3 b hf hb⟩) λ v w' ⟨hΦ,hM⟩=>k v w' hΦ (hs.Uv h2 h3 h5 hM)
theorem Sy {T E n:Nat} {K:Value→Prop} (h:LR P n T E) (k:K (.slice (some ⟨b,0,none⟩) n n)):cX P (Instr.sliceAt T (.pointer (some ⟨b,0,none⟩)) none none none) K:=by
 refine ⟨_,?_,k⟩
 unfold Instr.sliceAt
 rw [cN,cM h.1]
 simp only [Option.bind_some,Instr.sureAddr,cN,fc,Instr.sliceBounds,h.2.2]
 simp [gw]
theorem ajS {xs:List Int} {n:Nat} (h:xs.length≤n):ib (List.replicate n (Value.int .i64 0)) 0 (flat xs)=(xs++List.replicate (n - xs.length) 0).map (Value.int .i64):=by
 have hf:flat xs=xs.map (Value.int .i64):=by
  induction xs with
  | nil=>rfl
  | cons x xs ih=>rw [iI,ih (by simp at h; omega)]; rfl
 have hl:(flat xs).length=xs.length:=by rw [hf,List.length_map]
 have:=kQ [] (List.replicate xs.length (Value.int .i64 0)) (List.replicate (n - xs.length) (Value.int .i64 0)) (flat xs) (by rw [List.length_replicate,hl])
 rw [List.nil_append,List.nil_append,List.replicate_append_replicate,show xs.length+(n - xs.length)=n from by omega,List.length_nil] at this
 rw [this,hf,List.map_append,List.map_replicate]
theorem LW {T T2 E oy n dc:Nat} {z:Option Nat} {R:TypeId} {src:Value} {cs:List Value} {ys:List Int} {S:Nat→Prop} {K:Value→World→Prop} (hs:St w0 A (cC b cs::L) w) (ht:fg P T=some (E,Flat.sz Int,oy,z)) (xJ:eL S w src ys) (hn:ys.length≤n) (M9:ys.length≤cs.length)
  (k:∀ w',St w0 A (cC b (ib cs 0 (flat ys))::L) w'→K (.int .i64 ys.length) w'):ia P (Builtin.copy_ #[T,T2] R [.slice (some ⟨b,0,none⟩) n dc,src].toArray) w K:=by
 obtain ⟨w',h1,h2,h3⟩:=EW (P:=P) (o:=0) (dn:=n) (dc:=dc) (T2:=T2) (R:=R) ht hs.hb xJ hn (by change 0+ys.length * 1≤_; omega)
 exact ⟨_,w',h1,k w' (hs.rZ λ F hF=>⟨F,⟨h2,hF.2⟩,λ b hb=>.inl hb,h3.mono λ k hk=>(hF.2 k).2 hk⟩)⟩
end
def Has (H:HP) (w:World):Prop:=∃ F,H.p w F
theorem St.has {w w0:World} {A:Nat→Prop} {L:List HP} {H:HP} (hs:St w0 A (H::L) w):Has H w:=by obtain ⟨F,h,_⟩:=hs.head; exact ⟨F,h⟩
theorem Has.ext {H:HP} {w w':World} (h:Has H w) (e:Ext w w'):Has H w':=by
 obtain ⟨F,h⟩:=h; exact ⟨F,H.loc _ _ _ h λ b hb=>e.cC b (H.lt _ _ _ h hb) λ x=>x⟩
theorem Has.st {H:HP} {w:World} (h:Has H w):∃ F,St w F [H] w:=by obtain ⟨F,h⟩:=h; exact ⟨F,St.begin h⟩
end Go.Fw

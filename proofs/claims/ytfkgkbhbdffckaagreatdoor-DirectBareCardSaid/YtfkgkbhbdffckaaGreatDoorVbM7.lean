/-
  Part 7.
-/
import Derived.Test.YtfkgkbhbdffckaaGreatDoorVbM6
set_option linter.all false
set_option maxHeartbeats 8000000
set_option maxRecDepth 100000
namespace Go.Proofs.YtfkgkbhbdffckaaGreatDoor
open Go.Fw
theorem C38 (K Φ:World->Prop) (p:Nat) (room:Int) (t:iC) (w:World) (hh:Has (dM K Φ p room t) w) (N5:t.buf.length<=1000):CR 38 [.pointer (some ⟨p,0,none⟩)] w (λ v w'=>v = .bool (decide (t.buf.length=0))/\Ext w w'):=by
 obtain ⟨bp,nv,rg,pl,es,hk,Bd,hB,hrg,lT,EX,_⟩:=dM.rd hh;have ct0:=Bd.cell (o:=0) rfl;have hs:=St.start w;refine aev _ _ _ ?_;unfold S38;exact aH (aA nq (bW vH (ct0.ext hs.aE) (dA anf hs (C87 bp _ _ _ (hB.ext hs.aE) (by omega)) (λ _ _ _ hs=>aG iQ (hs).gg (aI ⟨vb (decide_eq_decide.2 (by omega)),hs.drop.aE⟩)))))
theorem C53 (K Φ:World->Prop) (p:Nat) (m:iu) (q:Nat) (t:iC) (w:World) (hm:Has (eR K p m) w) (hw:∀ w',Ext w w'->K w') (ry:pj m) (hh:Has (dM K Φ q m.room t) w) (M4:t∈m.l):CR 53 [.pointer (some ⟨p,0,none⟩),.pointer (some ⟨q,0,none⟩)] w (λ v w'=>v = .bool (vd m t)/\Ext w w'):=by
 obtain ⟨a,hr⟩:=eR.rd hm (hw _ (Ext.refl _));have cm7:=hr.b.cell (o:=7) rfl;have akS:=hr.b.cell (o:=10) rfl;have ga:=ry.th t M4;have N5:=ga.bl;have aqB:(cC m.p).length<=500:=by unfold cC; rw [List.length_map]; exact ry.pz.dL
 have lT:=zA ga.p;have Eh:=ga.cl;obtain ⟨bp,nv,rg,pl,es,hk,Bd,hB,hrg,OP,EX,_⟩:=dM.rd hh;have ct0:=Bd.cell (o:=0) rfl;have ct4:=Bd.cell (o:=4) rfl;have hs:=St.start w;refine aeC _ _ _ _ ?_;unfold S53;refine eW aew (C80 K q t bp nv rg pl es _ _ Bd OP EX hw ga.p (by omega)) ?_;rintro v _ ⟨he,hv⟩;have hs:=hs.ext he
 rcases hv with ⟨eA,rfl⟩ | ⟨x,xa,xb,xv,av,bv,ra,rb,Uh,rfl,Ff,_⟩
 ·exact aR rfl (aR rfl (aR rfl (aR rfl (aN hs nK (λ _ _ hs=>aO (x:=(⟨0,⟨#[]⟩,⟨#[]⟩,⟨none,0,0⟩,⟨none,0,0⟩,0,0,0,0⟩:aW)) hs mq rfl rfl (λ _ hs=>bH (gk ⟨vb (by unfold vd; rw [eA]),hs.drop.aE⟩)))))))
 obtain ⟨ge,gf,rfl,_,_⟩:=lH (Ff _ (hw _ hs.aE));have hx:=(ga.top Uh).1;have Ic:vd m t=(if t.fault≠0\/x.kind=2 then true else if x.kind=3\/x.kind=5\/x.kind=6\/x.kind=7 then !decide (m.room<=t.buf.length) else if x.kind=9/\m.eM.getD (cI (cC m.p) x.name).toNat 0≠-1 then false else decide (t.buf.length=0)):=by unfold vd; rw [Uh]
 refine aR rfl (aR rfl (aR rfl (aR rfl (aN hs nK (λ b5 w2 hs=>aO (x:=(⟨x.kind,x.eB,x.name,ge,gf,x.n,x.body,x.eG,x.at_⟩:aW)) hs mq rfl rfl (λ w3 hs=>bH (eu ?_)))))));refine ⟨λ jv w'=>jv = .bool (decide (t.fault≠0\/x.kind=2))/\w'=w3,?_,?_⟩
 ·exact aH (aA vI (bW cK (ct4.ext hs.aE) (cS (aC (λ _=>⟨vb (decide_eq_true (by omega)).symm,rfl⟩) (λ _=>aA gI (aB (v:=.int .i64 x.kind) cK hs.hb rfl (aI ⟨vb (decide_eq_decide.2 (by omega)),rfl⟩)))))))
 rintro _ w4 ⟨rfl,rfl⟩ _;refine aC (λ c1=>?_) (λ c1=>?_)
 ·exact ⟨vb (by rw [Ic,if_pos c1]),hs.drop.aE⟩
 rw [if_neg c1] at Ic;refine ⟨λ jv w'=>jv = .bool (decide (x.kind=3\/x.kind=5\/x.kind=6\/x.kind=7))/\w'=w4,?_,?_⟩
 ·refine aA gI (aB (v:=.int .i64 x.kind) cK hs.hb rfl ?_);exact aI (aC (λ _=>⟨vb (decide_eq_true (by omega)).symm,rfl⟩) (λ _=>aA gI (aB (v:=.int .i64 x.kind) cK hs.hb rfl (aI (aC (λ _=>⟨vb (decide_eq_true (by omega)).symm,rfl⟩) (λ _=>aA gI (aB (v:=.int .i64 x.kind) cK hs.hb rfl (aI (aC (λ _=>⟨vb (decide_eq_true (by omega)).symm,rfl⟩) (λ _=>aA gI (aB (v:=.int .i64 x.kind) cK hs.hb rfl (aI ⟨vb (decide_eq_decide.2 (by omega)),rfl⟩))))))))))))
 rintro _ _ ⟨rfl,rfl⟩ _;refine aC (λ c2=>?_) (λ c2=>?_)
 ·exact aH (aA nq (bW vH (ct0.ext hs.aE) (bO ZP hs (C108 bp _ _ _ (hB.ext hs.aE)) (λ _ _ hs=>bH ⟨vb (by rw [Ic,if_pos c2]),hs.drop.aE⟩))))
 rw [if_neg c2] at Ic;refine ⟨λ jv w'=>jv = .bool (decide (x.kind=9/\m.eM.getD (cI (cC m.p) x.name).toNat 0≠-1))/\St w bD [cP b5 (Flat.enc (⟨x.kind,x.eB,x.name,ge,gf,x.n,x.body,x.eG,x.at_⟩:aW))] w',?_,?_⟩
 ·have hs:=hs.drew;refine aA gI (aB (v:=.int .i64 x.kind) cK hs.hb rfl (aI (aC (λ c3=>?_) (λ _=>⟨vb (decide_eq_false (by omega)).symm,hs⟩))));obtain ⟨j,hj,CG,_⟩:=pQ (cD.1 (hx.lk (.inl c3)));have Vk:=(List.getElem?_eq_some_iff.1 CG).1;have how:=ry.ow;refine aH (aA qu (bW fT (akS.ext hs.aE) (aH (aA DK (bW lL (cm7.ext hs.aE) (aA ng (aB (v:=.string x.name) kp hs.hb rfl (bO Ou hs (C81 _ (cC m.p) x.name _ (hr.uk.ks _ (hw _ hs.aE)) (by omega)) (λ _ he hs=>?_)))))))));refine ⟨aD fT (akS.ext hs.aE),?_⟩;obtain ⟨ov,hov⟩:∃ ov,m.eM[(cI (cC m.p) x.name).toNat]? = some ov:=⟨_,List.getElem?_eq_getElem (by omega)⟩
  refine aU ei (hr.ow.ext hs.aE) (by omega) hov (λ q71 h71=>aF cK h71 (cS ?_));refine ⟨vb (decide_eq_decide.2 ?_),hs⟩;rw [List.getD_eq_getElem?_getD,hov];exact ⟨λ h=>⟨c3,h⟩,λ h=>h.2⟩
 rintro _ _ ⟨rfl,hs⟩ _;refine aC (λ c4=>?_) (λ c4=>?_)
 ·exact ⟨vb (by rw [Ic,if_pos c4]),hs.drop.aE⟩
 exact bO akn hs (C38 K Φ q m.room t _ (hh.ext hs.aE) N5) (λ _ _ hs=>⟨vb (by rw [Ic,if_neg c4]),hs.drop.aE⟩)
theorem C13 (K:World->Prop) (p:Nat) (m:iu) (w:World) (hm:Has (eR K p m) w) (hw:∀ w',Ext w w'->K w') (ry:pj m):CR 13 [.pointer (some ⟨p,0,none⟩)] w (λ v w'=>mZ (fq v (fG m)) w w'):=by
 obtain ⟨a,hr⟩:=eR.rd hm (hw _ (Ext.refl _));have aeW:=hr.b.cell (o:=11) rfl;have Ie:=hr.b.cell (o:=13) rfl;have hlen:=hr.len;have Qn:=ry.tl;have hs:=St.start w;refine aeD _ _ _ ?_;unfold S13;refine aH (aA qx (bW cK (Ie.ext hs.aE) (cS (aC (λ c=>?_) (λ c=>?_)))))
 ·have Zc:fG m=[]:=by unfold fG; rw [if_pos c]
  rw [Zc];exact hs.DZ.fresh
 have Zc:fG m=fm m m.l.length:=by unfold fG; rw [if_neg c]
 rw [Zc];refine aH (aA qw (bW DJ (aeW.ext hs.aE) (aG FH (hr.ll.ext hs.aE) ?_)));refine ⟨λ mm o y w1=>∃ k:Nat,y = .int .i64 (k:Int)/\mm=a.ps.length - k/\k<=a.ps.length/\St w bD [fq o (fm m k)] w1,⟨_,0,rfl,rfl,Nat.zero_le _,hs.DZ⟩,?_⟩;rintro mm o _ w1 ⟨k,rfl,rfl,hk,hs⟩ _;have lT:=qU ry k;have Po:k * 1001<=1001000:=by omega
 refine aS (aC (λ c1=>?_) (λ c1=>?_));rotate_left
 ·rw [show k=m.l.length from by omega] at hs;exact hs.fresh
 obtain ⟨e,he⟩:∃ e,a.ps[((k:Nat):Int).toNat]? = some e:=⟨_,List.getElem?_eq_getElem (by omega)⟩;obtain ⟨t,ht⟩:∃ t,m.l[k]? = some t:=⟨_,List.getElem?_eq_getElem (by omega)⟩;have M4:=List.mem_of_getElem? ht;have N5:=(ry.th t M4).bl;have U8:=hr.th k e t he ht;obtain ⟨bp,nv,rg,pl,es,Bs,Bd,hB,hrg,OP,EX,_⟩:=dM.rd U8;have ct0:=Bd.cell (o:=0) rfl;refine aU FH (hr.ll.ext hs.aE) (by omega) he (λ q hq=>aF Ny hq ?_);refine ⟨λ jv w'=>St w bD [fq jv (fm m k++(if vd m t=true then [(⟨1,k,0,[]⟩:ef)] else []))] w',?_,?_⟩
 ·refine bO aqp hs (C53 K _ p m e.b t _ (hm.ext hs.aE) (λ _ e=>hw _ (hs.aE.then e)) ry (U8.ext hs.aE) M4) (λ _ he hs=>bI (λ c2=>?_) (λ c2=>?_))
  ·refine pop (OT 1 (k:Int)) (have hs:=hs.rZ (Φ:=λ w=>Deep.dr w (⟨1,(k:Int),0,⟨none,0,0⟩⟩:dT) (⟨1,(k:Int),0,[]⟩:ef)) (λ w=>⟨⟨none,0,0⟩,rfl,DL.nil w⟩);gu (x:=(⟨1,(k:Int),0,[]⟩:ef)) (s:=(⟨1,(k:Int),0,⟨none,0,0⟩⟩:dT)) hs lV (by decide) (λ s29 _ hs=>gv hs.p1 lV (by rw [List.length_singleton]; omega) (by decide) (λ s30 _ hs=>?_)));rw [if_pos c2];exact hs
  rw [if_neg (by rw [c2]; decide),List.append_nil];exact hs
 rintro o2 _ hs _;refine aH (aA nq (bW vH (ct0.ext hs.aE) (dA ana hs (C54 bp _ _ _ (hB.ext hs.aE) (by omega)) (λ x35 _ cL hs=>?_))));have Eh:=Bg t.buf;refine aG ei (hs).gg ?_;refine ⟨λ mm o y w1=>∃ j:Nat,y = .int .i64 (j:Int)/\mm=(sH t.buf).length - j/\j<=(sH t.buf).length/\St w bD [fq o (fm m k++(if vd m t=true then [(⟨1,k,0,[]⟩:ef)] else [])++((sH t.buf).take j).map λ i=>(⟨2,k,i,[]⟩:ef)),bJ x35 (sH t.buf)] w1,⟨_,0,rfl,rfl,Nat.zero_le _,by rw [List.take_zero,List.map_nil,List.append_nil]; exact hs.p1⟩,?_⟩;rintro mm o3 _ _ ⟨j,rfl,rfl,hj,hs⟩ _;refine aS (aC (λ c3=>?_) (λ c3=>?_))
 ·obtain ⟨y,hy⟩:∃ y,(sH t.buf)[((j:Nat):Int).toNat]? = some y:=⟨_,List.getElem?_eq_getElem (by omega)⟩;exact aU ei (hs.p1).gg (by omega) hy (λ _ hq=>aF cK hq (pop (H7 2 (k:Int) y) (have hs:=hs.rZ (Φ:=λ w=>Deep.dr w (⟨2,(k:Int),y,⟨none,0,0⟩⟩:dT) (⟨2,(k:Int),y,[]⟩:ef)) (λ w=>⟨⟨none,0,0⟩,rfl,DL.nil w⟩);gu (x:=(⟨2,(k:Int),y,[]⟩:ef)) (s:=(⟨2,(k:Int),y,⟨none,0,0⟩⟩:dT)) hs lV (by decide) (λ _ _ hs=>gv hs.p1 lV (by simp only [List.length_append,List.length_map,List.length_take,List.length_singleton]; split <;> simp <;> omega) (by decide) (λ _ _ hs=>aT (by omega) ⟨_,by omega,j+1,rfl,rfl,by omega,by rw [<- fO (k:=j) hy,<- List.append_assoc]; exact hs⟩)))))
 rw [List.take_of_length_le (by omega)] at hs;refine aT (by omega) ?_;refine ⟨_,by omega,k+1,rfl,rfl,by omega,?_⟩;rw [uB ht];unfold km;rw [<- List.append_assoc];exact (hs.p1).drop
theorem abj:PL 140:=dW Tryz.func140
theorem aqC:PL 27:=dW Tryz.func27
theorem C12 (K:World->Prop) (p:Nat) (m:iu) (w:World) (hm:Has (eR K p m) w) (hw:∀ w',Ext w w'->K w') (ry:pj m) (Pz:MB m.mem 1000000) (hC:(dP (BN m.mem)).length<=1000000000):CR 12 [.pointer (some ⟨p,0,none⟩)] w (λ v w'=>mZ (fq v (lJ m)) w w'):=by
 obtain ⟨a,hr⟩:=eR.rd hm (hw _ (Ext.refl _));have cm9:=hr.b.cell (o:=9) rfl;have Ie:=hr.b.cell (o:=13) rfl;have Eh:(yz m.mem).length<=1000000000:=Nat.le_trans (MS _ _) hC;have hs:=St.start w;refine aeE _ _ _ ?_;unfold S12;refine aH (aA qx (bW cK (Ie.ext hs.aE) (cS (aC (λ c=>?_) (λ c=>?_)))))
 ·have Zc:lJ m=[]:=by unfold lJ; rw [if_pos c]
  rw [Zc];exact hs.DZ.fresh
 have Zc:lJ m=(yz m.mem).map λ c=>(⟨3,0,0,c⟩:ef):=by unfold lJ; rw [if_neg c]
 rw [Zc];refine aH (aA nn (bW DI (cm9.ext hs.aE) (dA am9 hs (C52 a.q m.mem _ (hr.mem.ext hs.aE) ry.mem Pz hC) (λ x15 w1 cL hs=>?_))));obtain ⟨ss,hs⟩:=hs.Ch;have hsl:=hs.p1.e9.1;refine aG Lh (hs).gg ?_;refine ⟨λ mm o y w1=>∃ k:Nat,y = .int .i64 (k:Int)/\mm=ss.length - k/\k<=ss.length/\St w bD [bJ o ((ss.take k).map pk3),bJ x15 ss,e9 (jR ss (yz m.mem))] w1,⟨_,0,rfl,rfl,Nat.zero_le _,hs.fy (α:=dT)⟩,?_⟩;rintro mm o _ _ ⟨k,rfl,rfl,hk,hs⟩ _;refine aS (aC (λ c1=>?_) (λ c1=>?_))
 ·obtain ⟨e,he⟩:∃ e,ss[((k:Nat):Int).toNat]? = some e:=⟨_,List.getElem?_eq_getElem (by omega)⟩;refine aU Lh (hs.p1).gg (by omega) he (λ q hq=>aF fT hq (pop (OU 3 e.a e.n e.cap) (cO (([pk3 e]:List dT)) hs lV rfl rfl (fw rfl) (λ s24 _ hs=>?_))));have aqE:=(hs).gg;exact dw hs.p1 lV aqE (by rw [List.length_map,List.length_take,List.length_singleton]; omega) (by decide) (λ _ _ hs=>aT (by omega) ⟨_,by omega,k+1,rfl,rfl,by omega,by rw [<- fO (k:=k) he]; exact hs.p1.drop⟩)
 rw [List.take_of_length_le (by omega)] at hs;exact (St.FY ((hs.p1.drop.p1).fC (λ _ h=>Y3 h)).p1).fresh
theorem C79 (K:World->Prop) (p:Nat) (m:iu) (i kind:Int) (F:Nat->Prop) (w:World) (hF:(eR K p m).p w F):CR 79 [.pointer (some ⟨p,0,none⟩),.int .i64 i,.int .i64 kind] w (λ v w'=>v=Flat.val (⟨16,i,kind,0,0⟩:dC)/\ti F (eR K p {m with fault:=kind,lI:=i}) w w'):=by
 have hs:=St.begin hF;refine aeF _ _ _ _ _ ?_;unfold S79;obtain ⟨a,hu,hs⟩:=eR.open hs;exact aN hs qp (λ _ _ hs=>have hs:=hs.enc (cs':=Flat.enc (⟨0,0,0,0,0⟩:dC)) rfl;aH (aA qx (bF hs.p1 cK (fw rfl) rfl (λ _ hs=>aH (aA Lf (bF hs cK (fw rfl) rfl (λ _ hs=>pop (yC 16 i kind) (aO (x:=(⟨16,i,kind,0,0⟩:dC)) hs.p1 iz rfl rfl (λ _ hs=>aF iz hs.At ⟨rfl,(eR.shut (m:={m with fault:=kind,lI:=i}) ⟨hu.pr,hu.cs,hu.ks,hu.mem,hu.rc⟩ hs.drop).mut⟩)))))))))
theorem C82 (K:World->Prop) (p:Nat) (m:iu) (n:Nat) (tp:Ptr) (t:iC) (x:aX) (xv:aW) (F:Nat->Prop) (c:Int) (w:World) (hF:(sep (nA K tp.b m.room t) (jG K p m n tp)).p w F) (hK:∀ w',gM F w w'->K w') (ga:wH (cM m.p) (cC m.p) t) (hmm:wS m.mem) (Ff:∀ w,K w->Deep.dr w xv x) (hrg:0<=cI t.names x.eB):CR 82 [.pointer (some ⟨p,0,none⟩),.pointer (some ⟨tp.b,0,none⟩),Flat.val xv,.int .i64 c] w (λ v w'=>v=Flat.val (⟨if (n7 t.buf c).isSome=true then 2 else 1,0,c,l7 m t c,0⟩:dC)/\ti F (sep (nA K tp.b m.room (pg t x.eB (l7 m t c))) (jG K p m n tp)) w w'):=by
 have hs:=(St.begin hF).split;obtain ⟨ge,gf,rfl,_,_⟩:=lH (Ff _ (hK _ hs.aE));obtain ⟨j,hj,CG,_⟩:=pQ (cD.1 hrg);have Vk:=(List.getElem?_eq_some_iff.1 CG).1;have hnb:=ga.nb;have GH:=ga.rl;have N5:=ga.bl;refine aeH _ _ _ _ _ _ ?_;unfold S82;refine cZ (x:=(⟨x.kind,x.eB,x.name,ge,gf,x.n,x.body,x.eG,x.at_⟩:aW)) hs (λ b6 _ hs=>aN hs qp (λ b8 _ hs=>?_));have hs:=(hs.enc (cs':=Flat.enc (⟨0,0,0,0,0⟩:dC)) rfl).p2;obtain ⟨bp,nv,rg,pl,es,hk,hs⟩:=dM.open hs;refine aH (aA nq (aB vH hs.hb rfl (bO agq hs (C139 bp c m.room t.buf _ (MN hs.p1) (by omega)) (λ _ he hs=>aR rfl (aR rfl ?_)))))
 refine ⟨λ n9 k11 w'=>n9 = .int .i64 (l7 m t c)/\k11 = .int .i64 (if (n7 t.buf c).isSome=true then 2 else 1)/\St w F [cP tp.b (wI bp nv rg pl t.fault),lF bp m.room t.buf,bJ rg t.cW,bJ pl (MX es),e9 (λ w=>zB K w es t.aY/\True),cP b8 (Flat.enc (⟨0,0,0,0,0⟩:dC)),cP b6 (Flat.enc (⟨x.kind,x.eB,x.name,ge,gf,x.n,x.body,x.eG,x.at_⟩:aW)),jG K p m n tp] w',?_,?_⟩
 ·refine bH (bI (λ c1=>?_) (λ c1=>?_))
  ·have h1:(n7 t.buf c).isSome=false:=by simpa using c1
   have hs:=hs.p7;obtain ⟨a,hx,hs⟩:=jG.open hs;exact aH (aA nn (aB DI hs.hb rfl (bO abj hs (abg a.q m.mem c _ (ET hs.p1 (hx.1.mem _ (hK _ hs.aE))) hmm) (λ _ _ hs=>aR rfl (aR rfl (have hs:=(((((((jG.shut (m:=m) (hx) hs.p4.p4.p4.p4.p4).p7).p7).p7).p7).p7).p7).p7;⟨by unfold l7; rw [if_neg (by rw [h1]; decide)],by rw [if_neg (by rw [h1]; decide)],hs⟩))))))
  have h1:(n7 t.buf c).isSome=true:=by simpa using c1
  exact ⟨by unfold l7; rw [if_pos h1],by rw [if_pos h1],hs⟩
 rintro _ _ _ ⟨rfl,rfl,hs⟩ _;have hs:=hs.drew;refine aH (aA zb (aB fT hs.hb rfl (aH (aA za (aB lL hs.hb rfl (aA nc (aB (v:=.string x.eB) kp hs.p6.hb rfl (bO Ou hs (C81 _ t.names x.eB _ (hk _ (hK _ hs.aE)) (by omega)) (λ _ he hs=>?_)))))))));refine ⟨aD fT (hs.hb.cell rfl),?_⟩;exact eS hs.p2 ei (by omega) (by omega) (λ _ aqF=>mc (l7 m t c:Int) hs.p2 cK aqF (by omega) (λ _ hs=>pop (sM (if (n7 t.buf c).isSome=true then 2 else 1) c (l7 m t c)) (aO (x:=(⟨if (n7 t.buf c).isSome=true then 2 else 1,0,c,l7 m t c,0⟩:dC)) hs.p5 iz rfl rfl (λ _ hs=>aF iz hs.At (have hs:=dM.shut (Φ:=λ _=>True) (t:=pg t x.eB (l7 m t c)) hk hs.drop.p5.drop.p4.p4.p2.p4.p4;have hs:=hs.p1.p1;⟨rfl,(St.join hs).mut⟩)))))
theorem C85 (K:World->Prop) (p:Nat) (m:iu) (n:Nat) (tp:Ptr) (t:iC) (x:aX) (xv:aW) (F:Nat->Prop) (w:World) (hF:(sep (nA K tp.b m.room t) (jG K p m n tp)).p w F) (hK:∀ w',gM F w w'->K w') (ga:wH (cM m.p) (cC m.p) t) (hmm:wS m.mem) (Ff:∀ w,K w->Deep.dr w xv x) (hrg:0<=cI t.names x.eB) (Pz:MB m.mem 1000000) (hen:x.e.length<=1000/\x.f.length<=1000) (hv1:(dZ t x.e).2=true) (hv2:(dZ t x.f).2=true):CR 85 [.pointer (some ⟨p,0,none⟩),.pointer (some ⟨tp.b,0,none⟩),Flat.val xv,.int .i64 (fR m x)] w (λ v w'=>v=Flat.val (uC m t x)/\ti F (sep (nA K tp.b m.room (pg t x.eB (kQ m.mem (fR m x)))) (jG K p (pX m t x) n tp)) w w'):=by
 have hs:=(St.begin hF).split;obtain ⟨ge,gf,rfl,_,_⟩:=lH (Ff _ (hK _ hs.aE))
 have hxE:∀ w,K w->dx (λ _=>True) w (Flat.val ge) x.e/\dx (λ _=>True) w (Flat.val gf) x.f:=λ w hw=>by
  obtain ⟨_,_,h4,h5,h6⟩:=lH (Ff w hw);cases h4
  exact ⟨h5,h6⟩
 obtain ⟨j,hj,CG,_⟩:=pQ (cD.1 hrg);have Vk:=(List.getElem?_eq_some_iff.1 CG).1;have hnb:=ga.nb;have GH:=ga.rl;have ht1:{t with fault:=if (dZ t x.e).2=true then t.fault else 2}=t:=by rw [hv1]; rfl
 have ht2:{t with fault:=if (dZ t x.f).2=true then t.fault else 2}=t:=by rw [hv2]; rfl
 obtain ⟨c,hc⟩:∃ c,c=fR m x:=⟨_,rfl⟩;rw [<- hc];refine aeI _ _ _ _ _ _ ?_;unfold S85;refine cZ (x:=(⟨x.kind,x.eB,x.name,ge,gf,x.n,x.body,x.eG,x.at_⟩:aW)) hs (λ b6 _ hs=>aN hs qp (λ b8 _ hs=>?_));have hs:=(hs.enc (cs':=Flat.enc (⟨0,0,0,0,0⟩:dC)) rfl).p3;obtain ⟨a,hx,hs⟩:=jG.open hs;refine aH (aA nn (aB DI hs.hb rfl (bO abj hs (abg a.q m.mem c _ (ET hs.p1 (hx.1.mem _ (hK _ hs.aE))) hmm) (λ _ he hs=>aR rfl (aR rfl (aA nh (aB (v:=Flat.val ge) m9 hs.p6.hb rfl (have hs:=hs.p7;cX Ug hs (H':=λ _=>nA K tp.b m.room t) (Φ:=λ v _=>v = .tuple #[.int .i64 (dZ t x.e).1,.bool (dZ t x.e).2]) (λ F2 jq gz=>?_) ?_))))))))
 ·have:=C83 K _ tp.b m.room t F2 _ x.e _ jq (λ w' hc=>hK w' (gz w' hc).aE) (hxE _ (hK _ hs.aE)).1 (by omega) (by omega);rw [ht1] at this; exact this
 rintro _ _ rfl hs;refine aR rfl (aR rfl (aA oy (aB (v:=Flat.val gf) m9 hs.p7.hb rfl (cX Ug hs (H':=λ _=>nA K tp.b m.room t) (Φ:=λ v _=>v = .tuple #[.int .i64 (dZ t x.f).1,.bool (dZ t x.f).2]) (λ F2 jq gz=>?_) ?_))))
 ·have:=C83 K _ tp.b m.room t F2 _ x.f _ jq (λ w' hc=>hK w' (gz w' hc).aE) (hxE _ (hK _ hs.aE)).2 (by omega) (by omega);rw [ht2] at this; exact this
 rintro _ _ rfl hs;refine aR rfl (aR rfl ?_);obtain ⟨bp,nv,rg,pl,es,hk,hs⟩:=dM.open hs;have hs:=hs.drew;refine aH (aA zb (aB fT hs.hb rfl (aH (aA za (aB lL hs.hb rfl (aA nc (aB (v:=.string x.eB) kp hs.p11.hb rfl (bO Ou hs (C81 _ t.names x.eB _ (hk _ (hK _ hs.aE)) (by omega)) (λ _ he hs=>?_)))))))));refine ⟨aD fT (hs.hb.cell rfl),?_⟩;refine eS hs.p2 ei (by omega) (by omega) (λ _ aqH=>mc (kQ m.mem c:Int) hs.p2 cK aqH (by omega) (λ w6' hs=>have hs:=dM.shut (Φ:=λ _=>True) (t:=pg t x.eB (kQ m.mem c)) hk hs.p4.p4.p2.p4.p4;cS (aC (λ c1=>?_) (λ c1=>?_))))
 ·have hcm:pX m t x=m:=by unfold pX; rw [<- hc,if_neg c1]
  have A5:uC m t x=⟨9,0,c,kQ m.mem c,0⟩:=by unfold uC; rw [<- hc,if_neg c1]
  refine pop (sM 9 c (kQ m.mem c)) (aO (x:=(⟨9,0,c,kQ m.mem c,0⟩:dC)) hs.p6 iz rfl rfl (λ _ hs=>aF iz hs.At ?_));have hs:=(jG.shut (m:=m) (hx) hs.drop.p6.drop.p5.p5.p5.p5.p5).p1;rw [hcm,A5];exact ⟨rfl,(St.join hs).mut⟩
 have hcm:pX m t x={m with mem:=fN m.mem c (dZ t x.f).1}:=by unfold pX; rw [<- hc,if_pos (by simpa using c1)]
 have A5:uC m t x=⟨8,0,c,kQ m.mem c,(dZ t x.f).1⟩:=by unfold uC; rw [<- hc,if_pos (by simpa using c1)]
 refine aH (aA nn (aB DI hs.p1.hb rfl (have hs:=hs.p2;cX agl hs (H':=λ _=>fb a.q a.ov a.fv (fN m.mem c (dZ t x.f).1)) (Φ:=λ _ _=>True) (λ F2 jq gz=>?_) ?_)))
 ·exact (C77 a.q a.ov a.fv m.mem F2 c _ _ jq (λ w' hc=>hx.1.mem _ (hK w' (gz w' hc).aE)) hmm Pz).mono λ _ _ r=>r.mono λ _ _ h=>⟨trivial,h.2⟩
 rintro _ _ _ hs;refine pop (BP 8 c (kQ m.mem c) (dZ t x.f).1) (aO (x:=(⟨8,0,c,kQ m.mem c,(dZ t x.f).1⟩:dC)) hs.p6 iz rfl rfl (λ _ hs=>aF iz hs.At ?_));have hs:=jG.shut (m:={m with mem:=fN m.mem c (dZ t x.f).1}) (⟨⟨hx.1.pr,hx.1.cs,hx.1.ks,λ w hw=>(hx.1.mem w hw).write,hx.1.rc⟩,hx.2⟩) hs.drop.p6.drop.p5.p5.p5.p3.p5;have hs:=hs.p1;rw [hcm,A5];exact ⟨rfl,(St.join hs).mut⟩
theorem C32 (cv:Value) (cut:List Int) (w:World) (hC:dx (λ _=>True) w cv cut) (ad8:cut.length<=1000000):CR 32 [cv] w (λ v w'=>v = .int .i64 (wG cut cut.length)/\Ext w w'):=by
 have hs:=St.start w;refine aeP _ _ _ ?_;unfold S32;refine aG ei (hC.ext hs.aE) ?_;refine ⟨λ mm n x w1=>∃ k:Nat,n = .int .i64 (wG cut k)/\x = .int .i64 (k:Int)/\mm=cut.length - k/\k<=cut.length/\St w bD [] w1,⟨_,0,rfl,rfl,rfl,Nat.zero_le _,hs⟩,?_⟩;rintro mm _ _ w1 ⟨k,rfl,rfl,rfl,hk,hs⟩ _;refine aS (aC (λ qA=>?_) (λ _=>⟨by rw [show cut.length=k from by omega],hs.aE⟩));obtain ⟨e_x10,Un⟩:=gx (cut) (i:=((k:Int)).toNat) (by omega);exact aU ei hC (by omega) Un (λ _ TM=>aF cK (TM.ext hs.aE) (FU (vP (aT (by omega) ⟨_,by omega,k+1,by rw [Kq (k:=k) Un],rfl,rfl,by omega,hs⟩))))
theorem C33 (q x:ef) (qv:dT) (b:Nat) (xv:dT) (w:World) (hq:Deep.dr w qv q) (hx:At (λ _=>True) w (.pointer (some ⟨b,0,none⟩)) xv) (hxd:Deep.dr w xv x):CR 33 [Flat.val qv,(.pointer (some ⟨b,0,none⟩))] w (λ v w'=>v = .bool (ru x q)/\Ext w w'):=by
 obtain ⟨Ze,rfl,amK⟩:=hq;obtain ⟨Zf,rfl,Zg⟩:=hxd;have hs:=St.start w;refine aeM _ _ _ _ ?_;unfold S33;refine cZ hs (λ aqI _ hs=>⟨λ jv w'=>jv = .bool (ru x q)/\St w bD [cP aqI (Flat.enc (⟨(q).kind,(q).t,(q).i,Ze⟩:dT))] w',?_,?_⟩)
 ·refine aA td (aB (v:=.int .i64 ((q).kind)) cK hs.hb rfl (ee (x).kind td hx rfl rfl (λ _ aqJ=>aF cK (aqJ.ext hs.aE) (aI (aC (λ kx=>aA mf (aB (v:=.int .i64 ((q).t)) cK hs.hb rfl (ee (x).t mf hx rfl rfl (λ _ Sr=>aF cK (Sr.ext hs.aE) (aI (aC (λ je=>aA te (aB (v:=.int .i64 ((q).i)) cK hs.hb rfl (ee (x).i te hx rfl rfl (λ _ mE=>aF cK (mE.ext hs.aE) (aI (aC (λ sf=>?_) (λ _=>⟨vb (by unfold ru; first | (simp_all; done) | grind),hs⟩))))))) (λ _=>⟨vb (by unfold ru; first | (simp_all; done) | grind),hs⟩))))))) (λ _=>⟨vb (by unfold ru; first | (simp_all; done) | grind),hs⟩))))))
  refine ee Zf oz hx rfl rfl (λ _ z9=>aF fT (z9.ext hs.aE) ?_);have aqK:=DL.flat (Zg);exact aG ei (aqK.ext hs.aE) (aI ⟨vb (by unfold ru; first | (simp_all; done) | grind),hs⟩)
 rintro _ _ ⟨rfl,hs⟩ _;exact ⟨rfl,hs.drop.aE⟩
def isM (l:List ku) (i:Int) (t:ByteArray):Bool:=decide (0<=i) && (match l[i.toNat]? with | some x=>decide (x.text=t) && decide (x.kind≠2) && decide (1<=x.kind) && decide (x.kind<=3) | none=>false)
def aeY (l:List ku) (i:Int):Int:=match (if 0<=i then l[i.toNat]? else none) with
 | some x=>x.at_
 | none=>match l.getLast? with
  | some x=>x.at_+x.text.size
  | none=>0
def numOf (s:ByteArray) (a k:Nat):Int:=(((oR s).drop a).take (k - a)).foldl (λ n c=>if n<=4294967296 then 10 * n+((c.toNat:Int) - 48) else n) 0
structure PA where
 at_:Int
 e:Int
 pos:Int
deriving DecidableEq
def akU (l:List ku) (s:PA) (e:Int):PA:=if s.e=0 then {s with e:=if (l.length:Int)<=s.at_ then 6 else e,pos:=aeY l s.at_} else s
def Uo (l:List ku) (i:Int):Option ku:=if 0<=i then l[i.toNat]? else none
def akV (l:List ku) (s:PA):Bool:=decide (s.e=0) && (match Uo l s.at_ with | some t=>decide (t.kind=1) && gh t.text | none=>false)
def Up (l:List ku) (i:Int):ku:=(Uo l i).getD ⟨0,⟨#[]⟩,0,0⟩
def isS (l:List ku) (s:PA) (t:ByteArray):PA × Bool:=if (decide (s.e=0) && isM l s.at_ t)=true then ({s with at_:=s.at_+1},true) else (s,false)
def yD (l:List ku) (s:PA):PA × bP:=if akV l s=true then ({s with at_:=s.at_+1},⟨(Up l s.at_).text,0,(Up l s.at_).at_⟩) else (akU l s 5,⟨⟨#[]⟩,0,0⟩)
abbrev BJ:ByteArray:=⟨#[61]⟩
def upS (s:PA):PA:={s with at_:=s.at_+1}
def aqL (l:List ku) (s:PA):Bool:=match Uo l s.at_ with | some t=>decide (t.kind=2) | none=>false
def kH (l:List ku) (nb:Bool) (s:PA):PA × bP:=
 if (nb && (isS l (yD l s).1 BJ).2)=true then
  (if aqL l (isS l (yD l s).1 BJ).1=true then (upS (isS l (yD l s).1 BJ).1,{ (yD l s).2 with n:=(Up l (isS l (yD l s).1 BJ).1.at_).n})
  else (akU l (isS l (yD l s).1 BJ).1 5,(yD l s).2))
 else yD l s
theorem Ig {l:List Int} {k:Nat} (hk:0<k) (h:k<=l.length):fU (l.take k)=l.getD (k - 1) 0+1:=by
 unfold fU
 rw [List.length_take,Nat.min_eq_left h,if_neg (by omega),List.getD_eq_getElem?_getD,List.getD_eq_getElem?_getD,List.getElem?_take,if_pos (by omega)]
theorem M5 {f:Int->List jt} {a k:Int} {xs:List jt} {x:jt} (h:x∈lD f a xs k):x∈xs\/x∈f k:=by
 unfold lD at h; split at h; exact .inl h; exact .inr h
theorem C1 {m:Mem} {c n:Int} (h:wS m):wS (fN m c n):=by
 unfold fN
 split
 ·rename_i rN
  unfold Kn at rN; rw [decide_eq_true_eq] at rN
  refine ⟨h.Pw,h.fl,by show (m.l.set _ _).length=_; rw [List.length_set]; exact h.ll,h.kl,h.ofr,h.lb,λ k x hx=>?_⟩
  dsimp only at hx
  split at hx
  ·rename_i hc
   rcases M5 hx with h1 | h1
   ·rw [List.mem_append] at h1
    rcases h1 with h1 | h1
    ·exact h.pc _ x h1
    simp at h1; subst h1; exact ⟨rN.1,hc⟩
   exact h.pc _ x h1
  exact h.pc _ x hx
 exact h
theorem Zh {m:Mem} {c:Int} (h:wS m):wS (pa m c):=by
 unfold pa
 split
 ·refine ⟨h.Pw,h.fl,h.ll,by show (tY _ _).length=_; rw [wB]; exact h.kl,h.ofr,h.lb,λ k x hx=>?_⟩
  rcases M5 hx with h1 | h1
  ·cases h1
  exact h.pc _ x h1
 exact h
theorem OW {m:Mem} {cut mT:List Int} (h:gn m cut=some mT):mT.length=m.kept.length:=by
 unfold gn at h; split at h
 ·cases h; exact pS _ _ _
 cases h
theorem OX {m:Mem} {cut mT:List Int} (h:wS m) (hi:gn m cut=some mT):wS (l5 m mT):=by
 have h1:=OW hi
 have h2:=h.kl; have h3:=h.Pw
 refine ⟨h.Pw,h.fl,?_,?_,h.ofr,h.lb,λ k x hx=>by cases hx⟩
 ·show (mT++m.fM.drop mT.length).length=m.fM.length
  rw [List.length_append,List.length_drop]; omega
 show mT.length=m.of.length; omega
section
theorem C2 {mm:Mem} {x:aV} (h:wS mm):wS (jA mm x)/\(jA mm x).of=mm.of/\(jA mm x).fM=mm.fM:=by
 unfold jA
 split
 ·exact ⟨C1 h,tG _ _ _,pf _ _ _⟩
 split
 ·exact ⟨h,rfl,rfl⟩
 exact ⟨Zh h,MT _ _,yA _ _⟩
end
theorem MB.mono {mm:Mem} {a b:Nat} (h:MB mm a) (hab:a<=b):MB mm b:=λ k=>Nat.le_trans (h k) hab
theorem MB.write {mm:Mem} {c x:Int} {n:Nat} (h:MB mm n):MB (fN mm c x) (n+1):=by
 intro k
 unfold fN
 split
 ·dsimp only
  split
  ·unfold lD
   split
   ·rw [List.length_append,List.length_singleton]; have:=h (mm.of.getD c.toNat 0); omega
   have:=h k; omega
  have:=h k; omega
 have:=h k; omega
theorem MB.out {mm:Mem} {c:Int} {n:Nat} (h:MB mm n):MB (pa mm c) n:=by
 intro k
 unfold pa
 split
 ·dsimp only
  unfold lD
  split
  ·simp
  exact h k
 exact h k
theorem MB.jA {mm:Mem} {x:aV} {n:Nat} (h:MB mm n):MB (jA mm x) (n+1):=by
 unfold Go.Proofs.YtfkgkbhbdffckaaGreatDoor.jA
 split
 ·exact h.write
 split
 ·exact h.mono (Nat.le_succ n)
 exact h.out.mono (Nat.le_succ n)
theorem qW:∀ (ls:List (List bP)) (i a:Int),0<=a->(∀ l∈ls,l≠[])->i<=gi ls i a/\(∀ b,a<=b->gi ls i a<=gi ls i b)/\(gi ls i (a+1)=gi ls i a\/gi ls i (a+1)=gi ls i a+1)
 | [],i,a,ha,_=>⟨by unfold gi; omega,λ b hb=>by unfold gi; omega,by unfold gi; omega⟩
 | l::r,i,a,ha,hl=>by
  have iS:0<l.length:=List.length_pos_iff.2 (hl l (List.mem_cons_self ..))
  have hr:=λ l vi=>hl l (List.mem_cons_of_mem _ vi)
  unfold gi
  by_cases h1:a<l.length
  ·rw [if_pos h1]
   refine ⟨Int.le_refl _,λ b hb=>?_,?_⟩
   ·split
    ·exact Int.le_refl _
    ·have:=(qW r (i+1) (b - l.length) (by omega) hr).1; omega
   ·split
    ·exact .inl rfl
    ·have e:a+1 - (l.length:Int)=0:=by omega
     rw [e]
     cases r with
     | nil=>unfold gi; omega
     | cons l2 r2=>
      have hne2:0<l2.length:=List.length_pos_iff.2 (hr l2 (List.mem_cons_self ..))
      unfold gi; rw [if_pos (by omega)]; exact .inr rfl
  ·rw [if_neg h1]
   obtain ⟨g1,g2,g3⟩:=qW r (i+1) (a - l.length) (by omega) hr
   refine ⟨by omega,λ b hb=>?_,?_⟩
   ·rw [if_neg (by omega)]; exact g2 _ (by omega)
   ·rw [if_neg (by omega),show a+1 - (l.length:Int)=a - l.length+1 from by omega]; exact g3
section
variable {p:bQ}
theorem wK (p:bQ):0<=dX p/\dX p<=(ju p).length:=by unfold dX ju; rw [List.length_append]; omega
theorem Ih {c:Int} (h:0<=c/\c<(ju p).length):mD p c=gi p.lines 0 c:=by unfold mD; rw [if_neg (by omega)]
end
section
variable {m:iu} {t:iC} {i:Int} {x:aX} {p:bQ}
theorem aeZ:(dV m t i x).1.l=m.l:=by
 unfold dV pX oL; repeat' split
 all_goals rfl
theorem C3:(dV m t i x).1.room=m.room:=by
 unfold dV pX oL; repeat' split
 all_goals rfl
theorem ae0:(dV m t i x).1.p=m.p:=by
 unfold dV pX oL; repeat' split
 all_goals rfl
theorem C5:(dV m t i x).2.1.aY=t.aY:=by
 unfold dV pg ve; repeat' split
 all_goals rfl
theorem vf:(dV m t i x).2.1.names=t.names:=by
 unfold dV pg ve; repeat' split
 all_goals rfl
theorem OY {room:Int} {l:List aV} {y:aV}:(tX room l y).length<=l.length\/((tX room l y).length:Int)<=room:=by
 unfold tX; split
 ·rename_i h; right; simp; omega
 left; exact Nat.le_refl _
theorem M6 {φ:aX->Prop} (h:ph φ t) (hr:m.room<=16):ph φ (dV m t i x).2.1:=by
 have h1:=h.p; have h2:=h.rl; have h3:=h.nb; have h4:=h.bl; have h5:=h.cl
 have key:∀ y,ph φ (ve m t y):=λ y=>by
  have h6:=OY (room:=m.room) (l:=t.buf) (y:=y)
  exact ⟨h1,h2,h3,by show (tX m.room t.buf y).length<=1000; omega,h5⟩
 unfold dV; repeat' split
 all_goals first
  | exact h
  | exact h.set _ _
  | exact key _
theorem Uq (h:wS m.mem):wS (dV m t i x).1.mem/\(dV m t i x).1.mem.of=m.mem.of/\(dV m t i x).1.mem.fM=m.mem.fM:=by
 unfold dV pX oL; repeat' split
 all_goals first
  | exact ⟨h,rfl,rfl⟩
  | exact ⟨C1 h,tG _ _ _,pf _ _ _⟩
theorem Zi {n:Nat} (h:MB m.mem n):MB (dV m t i x).1.mem (n+1):=by
 unfold dV pX oL; repeat' split
 all_goals first
  | exact h.mono (Nat.le_succ n)
  | exact h.write
theorem Zj:(dV m t i x).1.eM.length=m.eM.length:=by
 unfold dV pX oL; repeat' split
 all_goals first
  | rfl
  | exact List.length_set
theorem M7 {φ:aX->Prop} (h:ph φ t):ph φ {t with aY:=fV t.aY}:=by
 refine h.aY h.p.pop ?_
 match hp:t.aY with
 | []=>exact Nat.le_refl _
 | (.nil,_)::q=>show eY q<=_; rw [kF]; omega
 | (.cons y a b r,e)::q=>have:=Ks (p:=(.cons y a b r,e)::q) rfl; omega
theorem Ii {cs ls:List ByteArray} (h:wH cs ls t):Um (Py t):=λ hf=>MV _ (pU h).1 h hf
theorem OZ (hm:pj m) (ht:t∈m.l):wH (cM m.p) (cC m.p) (mV m t i x)/\Um (mV m t i x)/\(mV m t i x).names=t.names:=by
 have h1:ph (StD (cM m.p) (cC m.p) t.names) { (dV m t i x).2.1 with aY:=fV (dV m t i x).2.1.aY}:=M7 (M6 (hm.th t ht) hm.rm.2)
 have h2:wH (cM m.p) (cC m.p) { (dV m t i x).2.1 with aY:=fV (dV m t i x).2.1.aY}:=by
  show ph (StD _ _ (dV m t i x).2.1.names) _
  rw [vf]; exact h1
 exact ⟨(pU h2).2.1,Ii h2,(pU h2).2.2.trans vf⟩
theorem wL {β:Type} {l:List β} {k:Nat} {a y:β} (h:y∈l.set k a):y=a\/y∈l:=(List.mem_or_eq_of_mem_set h).symm
theorem Ur (hm:pj m):pj (gH m i).1/\(gH m i).1.p=m.p/\(∀ n,MB m.mem n->MB (gH m i).1.mem (n+1))/\(gH m i).1.l.length=m.l.length:=by
 unfold gH
 split
 ·exact ⟨hm,rfl,λ n h=>h.mono (Nat.le_succ n),rfl⟩
 rename_i t ht
 have M4:=List.mem_of_getElem? ht
 split
 ·exact ⟨⟨hm.mem,hm.th,hm.tl,hm.ow,hm.rm,hm.st,hm.pz⟩,rfl,λ n h=>h.mono (Nat.le_succ n),rfl⟩
 split
 ·exact ⟨hm,rfl,λ n h=>h.mono (Nat.le_succ n),rfl⟩
 rename_i x _ _ _
 split
 ·exact ⟨⟨hm.mem,hm.th,hm.tl,hm.ow,hm.rm,hm.st,hm.pz⟩,rfl,λ n h=>h.mono (Nat.le_succ n),rfl⟩
 obtain ⟨d1,d2,_⟩:=OZ (i:=i) (x:=x) hm M4
 have hp:=ae0 (m:=m) (t:=t) (i:=i) (x:=x)
 refine ⟨⟨(Uq hm.mem).1,λ y hy=>?_,by show (m.l.set _ _).length<=_; rw [List.length_set]; exact hm.tl,?_,by show 1<=(dV m t i x).1.room/\_; rw [C3]; exact hm.rm,λ y hy=>?_,?_⟩,hp,λ n h=>Zi h,List.length_set⟩
 ·show wH (cM (dV m t i x).1.p) (cC (dV m t i x).1.p) y
  rw [hp]
  rcases wL hy with rfl | hy
  ·exact d1
  exact hm.th y hy
 ·show (dV m t i x).1.eM.length=(cC (dV m t i x).1.p).length
  rw [Zj,hp]; exact hm.ow
 ·rcases wL hy with rfl | hy
  ·exact d2
  exact hm.st y hy
 show PZ (dV m t i x).1.p; rw [hp]; exact hm.pz
theorem Kz {l:List aV} {i:Int}:(kf l i).length<=l.length:=by
 unfold kf; split
 ·exact List.length_eraseIdx_le ..
 exact Nat.le_refl _
theorem Zk {q:ef} (hm:pj m) (ht:m.l[q.t.toNat]? = some t):pj (ub m t q)/\(∀ n,MB m.mem n->MB (ub m t q).mem (n+1)):=by
 have M4:=List.mem_of_getElem? ht
 have h1:=hm.th t M4
 refine ⟨⟨(C2 hm.mem).1,λ y hy=>?_,by show (m.l.set _ _).length<=_; rw [List.length_set]; exact hm.tl,hm.ow,hm.rm,λ y hy=>?_,hm.pz⟩,λ n h=>h.jA⟩
 ·rcases wL hy with rfl | hy
  ·have:=Kz (l:=t.buf) (i:=q.i)
   exact ⟨h1.p,h1.rl,h1.nb,by show (kf t.buf q.i).length<=1000; have:=h1.bl; omega,h1.cl⟩
  exact hm.th y hy
 rcases wL hy with rfl | hy
 ·exact hm.st t M4
 exact hm.st y hy
structure M8 (p:bQ):Prop where
 f:PF p
 big:tU p=false
 w:∀ t∈gL p,oJ t.body=false
 tw:jz (ig p)=false
 u:∀ t∈gL p,∀ x∈t.body,rp p t.cW x=false
theorem EZ (h:eP p=0):M8 p:=by
 unfold eP at h
 split at h
 ·cases h
 rename_i h1
 split at h
 ·cases h
 rename_i h2
 split at h
 ·cases h
 rename_i h3
 split at h
 ·cases h
 rename_i h4
 split at h
 ·cases h
 rename_i h5
 split at h
 ·cases h
 rename_i h6
 simp only [Bool.not_eq_true,List.any_eq_false] at h2 h3 h4 h6
 exact ⟨oI (by simpa using h1),h2,λ t ht=>by simpa using h3 t ht,h4,λ t ht x hx=>by simpa using h6 t ht x hx⟩
theorem E0:∀ (b:Bk) (n:Int),b.ok n=true->∀ x∈b.flat,x.eG<=0\/x.kind=11
 | .nil,_,_,_,h=>by cases h
 | .cons y a b r,n,h,x,hx=>by
  unfold Bk.ok at h
  simp only [Bool.and_eq_true] at h
  obtain ⟨⟨⟨h1,h2⟩,h3⟩,h4⟩:=h
  unfold Bk.flat at hx
  rcases List.mem_cons.1 hx with rfl | hx
  ·unfold Bk.IJ at h1; have:=of_decide_eq_true h1; omega
  ·rcases List.mem_append.1 hx with hx | hx
   ·exact E0 a _ h2 x hx
   ·rcases List.mem_append.1 hx with hx | hx
    ·exact E0 b _ h3 x hx
    ·exact E0 r _ h4 x hx
theorem Bj {l:List bL} (h:eF l=true):l.length<=40:=by
 unfold eF at h
 grind
theorem ae1 (hc:M8 p) {t:bV} (ht:t∈gL p) {x:aX} (hx:x∈t.body) (hf:nS x=true) (he:x.eG<=0\/x.kind=11):StD (cM p) (cC p) t.cW x:=by
 have hu:=hc.u t ht x hx
 have hq:=JT hf
 have hff:=xC hf
 unfold rp at hu
 simp only [Bool.or_eq_false_iff,Bool.and_eq_false_iff,decide_eq_false_iff_not,Decidable.not_not] at hu
 obtain ⟨⟨⟨⟨⟨u1,u2⟩,u3⟩,u4⟩,_⟩,_⟩:=hu
 have IH:x.e.length<=1000:=by
  rcases hff.e with h | h
  ·have:=Bj h.2; omega
  ·rw [h.2]; decide
 have KY:x.f.length<=1000:=by
  rcases hff.f with h | h
  ·have:=Bj h.2; omega
  ·rw [h.2]; decide
 refine ⟨hff.kind,⟨IH,KY⟩,λ h=>by have:=hq.2 h; omega,λ h=>by omega,λ h=>?_,λ h=>by omega,λ h=>by omega⟩
 rcases u1 with u1 | u1
 ·exfalso
  have hr:=hff.eB
  rcases hr with ⟨_,h2⟩ | ⟨h1,_⟩
  ·rw [u1,HO] at h2; cases h2
  have hk:=hff.kind
  rcases h with h | h | h <;> rw [h] at h1 <;> exact absurd h1 (by decide)
 omega
theorem pY:∀ (b:Bk) (n:Int),1<=n->n<=64->lE b n=false->(∀ x∈b.flat,x.kind=12->1<=x.n)->n.toNat * fF b<=128 * b.len
 | .nil,n,_,_,_,_=>by simp [fF]
 | .cons y a b r,n,h1,h2,hw,hq=>by
  rw [qQ] at hw
  simp only [Bool.or_eq_false_iff,decide_eq_false_iff_not] at hw
  obtain ⟨⟨w1,w2,w3⟩,w4⟩:=hw
  have qa:∀ x∈a.flat,x.kind=12->1<=x.n:=λ x hx=>hq x (by unfold Bk.flat; simp [hx])
  have qb:∀ x∈b.flat,x.kind=12->1<=x.n:=λ x hx=>hq x (by unfold Bk.flat; simp [hx])
  have qr:∀ x∈r.flat,x.kind=12->1<=x.n:=λ x hx=>hq x (by unfold Bk.flat; simp [hx])
  have ir:=pY r n h1 h2 w4 qr
  rw [qT]
  unfold Bk.len
  obtain ⟨k,rfl⟩:=Int.eq_ofNat_of_zero_le (show 0<=n by omega)
  rw [Int.toNat_natCast] at ir |-
  by_cases hk:y.kind=12
  ·rw [if_pos hk]
   have hy:=hq y (by unfold Bk.flat; exact List.mem_cons_self ..) hk
   unfold pN at w1 w2
   rw [if_pos hk] at w1 w2
   obtain ⟨j,hj⟩:=Int.eq_ofNat_of_zero_le (show 0<=y.n by omega)
   rw [hj] at w1 w2 hy
   rw [hj,Int.toNat_natCast]
   have hkj:(1:Int)<=(k:Int) * (j:Int):=by
    have:=Int.mul_le_mul (a:=1) (b:=1) (c:=(k:Int)) (d:=(j:Int)) h1 hy (by omega) (by omega)
    omega
   have ia:=pY a _ hkj (by omega) w2 qa
   rw [show ((k:Int) * (j:Int)).toNat=k * j from by rw [<- Int.natCast_mul]; exact Int.toNat_natCast _] at ia
   have hkj2:k * j<=64:=by
    have:((k * j:Nat):Int)<=64:=by rw [Int.natCast_mul]; omega
    omega
   have e:k * (j * (fF a+1)+fF r+1)=k * j * fF a+k * j+k * fF r+k:=by
    rw [Nat.mul_add,Nat.mul_add,Nat.mul_one,<- Nat.mul_assoc,Nat.mul_add,Nat.mul_one]
   rw [e]; omega
  ·rw [if_neg hk]
   unfold pN at w2 w3
   rw [if_neg hk] at w2 w3
   have ia:=pY a k h1 h2 w2 qa
   have ib:=pY b k h1 h2 w3 qb
   rw [Int.toNat_natCast] at ia ib
   have e:k * (fF a+fF b+fF r+1)=k * fF a+k * fF b+k * fF r+k:=by
    rw [Nat.mul_add,Nat.mul_add,Nat.mul_add,Nat.mul_one]
   rw [e]; omega
theorem Ij {b:Bk} (h:b.str):Ky b.flat=b:=by unfold Ky; rw [kL h]; rfl
theorem E1 (hc:M8 p) {t:bV} (ht:t∈gL p):wH (cM p) (cC p) (wJ t):=by
 obtain ⟨_,h2,_⟩:=hc.f.uw ht
 obtain ⟨h3,h4,b,h5,h6,h7,_⟩:=kN h2
 have hb:Ky t.body=b:=by rw [h5]; exact Ij h6
 have iH:mS (StD (cM p) (cC p) t.cW) b:=(CY b).2 λ x hx=>by
  rw [<- h5] at hx
  exact ae1 hc ht hx (h4 x hx) (E0 b 0 h7 x (by rw [<- h5]; exact hx))
 have MI:CZ (StD (cM p) (cC p) t.cW) []:=⟨λ _ h=>(by cases h),λ _ h=>(by cases h),λ _ h=>(by cases h)⟩
 have hw:=hc.w t ht
 rw [h5,AM h6] at hw
 have hcost:=pY b 1 (by omega) (by omega) hw λ x hx hk=>(((JT (h4 x (by rw [h5]; exact hx))).2 hk).1)
 have N5:b.len<=40:=by rw [<- Bk.cJ,<- h5]; exact h3
 have akY:t.cW.length<=4:=by
  have hbg:=hc.big
  unfold tU at hbg
  simp only [Bool.or_eq_false_iff,List.any_eq_false] at hbg
  have:=hbg.1.2 t ht
  simp at this; omega
 refine ⟨?_,by simp [wJ],by show t.cW.length<=1000; omega,by simp [wJ],?_⟩
 ·show CZ _ (gW (Ky t.body) false [])
  rw [hb]; exact MI.push h6 iH
 show eY (gW (Ky t.body) false [])<=10000
 rw [hb,oa]
 have:fF b<=5120:=by
  have e:(1:Int).toNat * fF b=fF b:=Nat.one_mul _
  omega
 simp only [eY,List.map_nil,List.sum_nil]; omega
theorem Us:wH (cM p) (cC p) (wJ ⟨⟨#[]⟩,[],[],0⟩):=by
 refine ⟨⟨λ _ h=>(by cases h),λ _ h=>(by cases h),λ _ h=>(by cases h)⟩,rfl,(by decide:(0:Nat)<=1000),(by decide:(0:Nat)<=1000),(by decide:(0:Nat)<=10000)⟩
theorem Da {l:List bV} (hm:wS m.mem) (hr:1<=m.room/\m.room<=16) (hz:PZ m.p) (hl:l.length<=1000) (h:∀ t∈l,wH (cM m.p) (cC m.p) (wJ t)):pj (l8 m l):=by
 refine ⟨hm,λ t ht=>?_,by show (l.map OV).length<=1000; rw [List.length_map]; exact hl,by show (List.replicate _ _).length=_; rw [List.length_replicate]; rfl,hr,λ t ht=>?_,hz⟩
 ·obtain ⟨u,hu,rfl⟩:=List.mem_map.1 ht
  exact (pU (h u hu)).2.1
 obtain ⟨u,hu,rfl⟩:=List.mem_map.1 ht
 exact Ii (h u hu)
theorem M9 (hc:M8 m.p):(sO m).length<=1/\∀ t∈sO m,wH (cM m.p) (cC m.p) (wJ t):=by
 unfold sO
 split
 ·exact ⟨Nat.le_refl _,λ t ht=>by rw [List.mem_singleton.1 ht]; exact Us⟩
 exact ⟨hc.f.one,λ t ht=>E1 hc (List.mem_append_right _ ht)⟩
theorem E2 {k:Nat} {x:ef} (h:x∈fm m k):∃ i t,i<k/\m.l[i]? = some t/\x∈km m i t:=by
 unfold fm at h
 rw [List.mem_flatMap] at h
 obtain ⟨i,hi,hx⟩:=h
 cases ht:m.l[i]? with
 | none=>rw [ht] at hx; cases hx
 | some t=>rw [ht] at hx; exact ⟨i,t,List.mem_range.1 hi,ht,hx⟩
theorem KA {i:Nat} {t:iC} {x:ef} (h:x∈km m i t):x.t=i/\x.cut=[]/\((x.kind=1/\vd m t=true/\x.i=0)\/(x.kind=2/\x.i∈sH t.buf)):=by
 unfold km at h
 rw [List.mem_append] at h
 rcases h with h | h
 ·split at h
  ·rename_i hc; simp at h; subst h; exact ⟨rfl,rfl,.inl ⟨rfl,hc,rfl⟩⟩
  cases h
 rw [List.mem_map] at h; obtain ⟨k,hk,rfl⟩:=h; exact ⟨rfl,rfl,.inr ⟨rfl,hk⟩⟩
theorem aqN {q:ef} (h:(fG m).any (ru q)=true):m.fault=0/\0<=q.t/\q.cut.length=0/\∃ t,m.l[q.t.toNat]? = some t/\((q.kind=1/\vd m t=true)\/(q.kind=2/\q.i∈sH t.buf)):=by
 rw [List.any_eq_true] at h
 obtain ⟨x,hx,hs⟩:=h
 unfold fG at hx
 split at hx
 ·cases hx
 rename_i hf
 obtain ⟨i,t,_,ht,wQ⟩:=E2 hx
 obtain ⟨h1,_,h2⟩:=KA wQ
 unfold ru at hs
 simp only [Bool.and_eq_true,decide_eq_true_eq] at hs
 have e:q.t=(i:Int):=by omega
 refine ⟨by omega,by omega,hs.2,t,by rw [e]; exact ht,?_⟩
 rcases h2 with ⟨a,b,_⟩ | ⟨a,b⟩
 ·exact .inl ⟨by omega,b⟩
 exact .inr ⟨by omega,by rw [<- hs.1.2]; exact b⟩
theorem Ut (h:vd m t=true):∃ x a b,l6 t.aY=some (x,a,b):=by
 unfold vd at h
 split at h
 ·cases h
 rename_i x a b hx; exact ⟨x,a,b,hx⟩
theorem ae2 {q:ef} (hm:pj m) (hc:M8 m.p):pj (qd m q).1/\(qd m q).1.p=m.p/\(∀ n,MB m.mem n->MB (qd m q).1.mem (n+1)):=by
 unfold qd
 cases hi:jH m q with
 | some mT=>
  have hi2:gn m.mem q.cut=some mT:=by unfold jH at hi; split at hi; exact hi; cases hi
  obtain ⟨r1,r2⟩:=M9 hc
  refine ⟨Da (OX hm.mem hi2) hm.rm hm.pz (by omega) r2,rfl,λ n h k=>?_⟩
  show ([]:List jt).length<=_
  exact Nat.zero_le _
 | none=>
  dsimp only
  split
  ·split
   ·split
    ·rename_i t ht
     obtain ⟨h1,h2⟩:=Zk hm ht
     exact ⟨h1,rfl,h2⟩
    ·exact ⟨hm,rfl,λ n h=>h.mono (Nat.le_succ n)⟩
   ·obtain ⟨h1,h2,h3,_⟩:=Ur (i:=q.t) hm
    exact ⟨h1,h2,h3⟩
  ·exact ⟨hm,rfl,λ n h=>h.mono (Nat.le_succ n)⟩
theorem E3 {i:Nat} (h:i<(cM p).length):(uD p)[i]? = some (mD p i):=by unfold uD; rw [List.getElem?_map,List.getElem?_range h]; rfl
theorem Bl (p:bQ):(cM p).length=(ju p).length:=by unfold cM; rw [List.length_map]
theorem abk (hc:M8 p):(ju p).length<=20:=by
 have hb:=hc.big
 unfold tU at hb
 simp only [Bool.or_eq_false_iff,List.any_eq_false,decide_eq_false_iff_not,decide_eq_true_eq] at hb
 obtain ⟨⟨h1,_⟩,⟨⟨⟨⟨h2,h3⟩,_⟩,_⟩,_⟩,_⟩:=hb
 have h4:∀ ls:List (List bP),(∀ l∈ls,¬ 4<(l.length:Int))->ls.flatten.length<=4 * ls.length:=by
  intro ls
  induction ls with
  | nil=>intro _; simp
  | cons l r ih=>
   intro h
   have a:=h l (List.mem_cons_self ..)
   have b:=ih λ l hl=>h l (List.mem_cons_of_mem _ hl)
   simp only [List.flatten_cons,List.length_append,List.length_cons]; omega
 have h5:=h4 p.lines h1
 unfold ju; rw [List.length_append]; omega
theorem Uu (hc:M8 p) {k:Nat} {n:Int} (hk:(k:Int)<dX p) (hn:(uD p)[k]? = some n):(n=wv (uD p) k\/(0<k/\n=wv (uD p) k - 1))/\0<=n/\n<=k:=by
 have hst:=wK p
 have Eh:=Bl p
 have iS:∀ l∈p.lines,l≠[]:=λ l hl=>(hc.f.lines l hl).1
 have e1:∀ j:Nat,(j:Int)<dX p->(uD p)[j]? = some (gi p.lines 0 j):=λ j hj=>by rw [E3 (by omega),Ih (by omega)]
 rw [e1 k hk] at hn; cases hn
 have hle:∀ j:Nat,gi p.lines 0 j<=j:=by
  intro j
  induction j with
  | zero=>
   cases hl:p.lines with
   | nil=>unfold gi; omega
   | cons l r=>
    have:=List.length_pos_iff.2 (iS l (by rw [hl]; exact List.mem_cons_self ..))
    unfold gi; rw [if_pos (by omega)]; omega
  | succ j ih=>
   have:=(qW p.lines 0 (j:Int) (by omega) iS).2.2
   have e:((j+1:Nat):Int)=(j:Int)+1:=by omega
   rw [e]; omega
 refine ⟨?_,(qW p.lines 0 (k:Int) (by omega) iS).1,hle k⟩
 cases k with
 | zero=>
  left
  have:=hle 0
  have:=(qW p.lines 0 ((0:Nat):Int) (by omega) iS).1
  show _=0
  omega
 | succ k=>
  have h3:=(qW p.lines 0 (k:Int) (by omega) iS).2.2
  have e:((k+1:Nat):Int)=(k:Int)+1:=by omega
  have ew:wv (uD p) (k+1)=gi p.lines 0 (k:Int)+1:=by
   unfold wv; rw [if_neg (by omega),Nat.add_sub_cancel,List.getD_eq_getElem?_getD,e1 k (by omega)]; rfl
  rw [ew,e]
  rcases h3 with h3 | h3
  ·exact .inr ⟨by omega,by omega⟩
  ·exact .inl h3
theorem Uv (hc:M8 p):wS (T7 (uD p) (dX p) (iY p)):=by
 have hst:=wK p
 have Eh:=Bl p
 have Vb:=abk hc
 have iS:∀ l∈p.lines,l≠[]:=λ l hl=>(hc.f.lines l hl).1
 have N3:(uD p).length=(ju p).length:=by unfold uD; rw [List.length_map,List.length_range,Eh]
 have KY:(iY p).length=(ju p).length:=by unfold iY; rw [List.length_map]
 have hl:((uD p).take (dX p).toNat).length=(dX p).toNat:=by rw [List.length_take]; omega
 have e1:∀ j:Nat,(j:Int)<dX p->(uD p)[j]? = some (gi p.lines 0 j):=λ j hj=>by rw [E3 (by omega),Ih (by omega)]
 have hlm:0<(dX p).toNat->fU ((uD p).take (dX p).toNat)=gi p.lines 0 ((dX p).toNat - 1:Nat)+1:=λ h0=>by
  rw [Ig h0 (by omega),List.getD_eq_getElem?_getD,e1 _ (by omega)]; rfl
 refine ⟨?_,?_,rfl,?_,λ n hn=>?_,?_,λ k x hx=>by cases hx⟩
 ·show ((uD p).take (dX p).toNat).length<=(iY p).length; omega
 ·show (iY p).length<=20; omega
 ·show ((iY p).take (dX p).toNat).length=((uD p).take (dX p).toNat).length; rw [hl,List.length_take]; omega
 ·obtain ⟨i,hi⟩:=List.mem_iff_getElem?.1 (show n∈(uD p).take (dX p).toNat from hn)
  have eU:=(List.getElem?_eq_some_iff.1 hi).1
  rw [hl] at eU
  rw [List.getElem?_take,if_pos eU,e1 i (by omega)] at hi
  cases hi
  show 0<=_/\_<fU ((uD p).take (dX p).toNat)
  rw [hlm (by omega)]
  have h3:=qW p.lines 0 (i:Int) (by omega) iS
  have h4:=h3.2.1 (((dX p).toNat - 1:Nat):Int) (by omega)
  exact ⟨h3.1,by omega⟩
 show fU ((uD p).take (dX p).toNat)<=20
 by_cases h0:(dX p).toNat=0
 ·rw [h0,List.take_zero]; decide
 rw [hlm (by omega)]
 have:=(Uu hc (k:=(dX p).toNat - 1) (by omega) (e1 _ (by omega))).2.2
 omega
theorem Zl (hz:PZ p) (hc:M8 p) {room:Int} (hr:1<=room/\room<=16):pj (xR p room):=by
 refine Da (m:=sP p room) (Uv hc) hr hz (by have:=hz.threads; show p.threads.length<=_; omega) λ t ht=>E1 hc (List.mem_append_left _ ht)
end
theorem C36 (K:World->Prop) (p:Nat) (m:iu) (i:Int) (t:iC) (F:Nat->Prop) (w:World) (hF:(eR K p m).p w F) (hK:∀ w',gM F w w'->K w') (ry:pj m) (Pz:MB m.mem 1000000) (h0:0<=i) (ht:m.l[i.toNat]? = some t) (aqO:t.fault=0->∃ x a b,l6 t.aY=some (x,a,b)) :
   CR 36 [.pointer (some ⟨p,0,none⟩),.int .i64 i] w (λ v w'=>v=Flat.val (gH m i).2/\ti F (eR K p (gH m i).1) w w'):=by
 have hs:=St.begin hF;have M4:=List.mem_of_getElem? ht;have ga:=ry.th t M4;have eU:=(List.getElem?_eq_some_iff.1 ht).1;have lT:=zA ga.p;have Eh:=ga.cl;have N5:=ga.bl;have hnb:=ga.nb;have GH:=ga.rl;have how:=ry.ow;have aqB:(cC m.p).length<=500:=by unfold cC; rw [List.length_map]; exact ry.pz.dL
 have hcll:(cM m.p).length<=250500:=JU ry.pz.toPS;refine aeJ _ _ _ _ ?_;unfold S36;refine aN hs qp (λ b4 _ hs=>?_);have hs:=(hs.enc (cs':=Flat.enc (⟨0,0,0,0,0⟩:dC)) rfl).p1;obtain ⟨a,hu,hs⟩:=eR.open hs;have wM:=hs.p4.js;refine aH (aA qw (aB DJ hs.hb rfl ?_));obtain ⟨e,he⟩:∃ e,a.ps[i.toNat]? = some e:=⟨_,List.getElem?_eq_getElem (by omega)⟩;refine aU FH (hs.p3).gg h0 he (λ q hq=>aF Ny hq ?_);have hs:=Ul hs.p4 he ht;obtain ⟨bp,nv,rg,pl,es,hk,hs⟩:=dM.open hs;refine aH (aA vI (aB cK hs.hb rfl (cS (aC (λ c=>?_) (λ c=>?_)))))
 ·have hse:gH m i=({m with fault:=t.fault,lI:=i},⟨16,i,t.fault,0,0⟩):=by unfold gH; rw [ht]; dsimp only; rw [if_pos c]
  refine aH (aA vI (aB cK hs.hb rfl ?_));have hs:=dM.shut (Φ:=λ _=>True) (t:=t) hk hs.p4.p4.p4.p4.p4;have hs:=St.Ls (H:=ua K m.room) (x:=t) hs.p1.p1 (by omega) wM he;rw [nu ht] at hs;have hs:=eR.shut (m:=m) hu hs.p4.p4.p4.p4;refine cX akv hs (H':=λ _=>eR K p {m with fault:=t.fault,lI:=i}) (Φ:=λ v _=>v=Flat.val (⟨16,i,t.fault,0,0⟩:dC)) (λ F2 jq gz=>?_) ?_
  ·exact C79 K p m i t.fault F2 _ jq
  rintro _ _ rfl hs;refine aO (x:=(⟨16,i,t.fault,0,0⟩:dC)) hs.p1 iz rfl rfl (λ _ hs=>aF iz hs.At ?_);rw [hse];exact ⟨rfl,hs.drop.mut⟩
 have hf0:t.fault=0:=by omega
 refine eW aew (C80 K e.b t bp nv rg pl es _ _ hs.hb hs.p3.gg hs.p4.e9.1 (λ _ e=>hK _ (hs.aE.then e)) ga.p (by omega)) ?_;rintro v _ ⟨hex,hv⟩;have hs:=hs.ext hex
 rcases hv with ⟨eA,_⟩ | ⟨x,xa,xb,xv,av,bv,ra,rb,Uh,rfl,Ff,_⟩
 ·obtain ⟨_,_,_,h⟩:=aqO hf0;rw [eA] at h; cases h
 obtain ⟨ge,gf,rfl,_,_⟩:=lH (Ff _ (hK _ hs.aE))
 have hxE:∀ w,K w->dx (λ _=>True) w (Flat.val ge) x.e/\dx (λ _=>True) w (Flat.val gf) x.f:=λ w hw=>by
  obtain ⟨_,_,h4,h5,h6⟩:=lH (Ff w hw);cases h4
  exact ⟨h5,h6⟩
 obtain ⟨⟨Po,wP⟩,hv1,hv2⟩:=ry.st t M4 hf0 _ _ _ Uh;obtain ⟨hx,_,_,_,_,_,_,_,r,en,p',yK,sr,ar⟩:=ga.top Uh;have hst:(Bk.cons x xa xb r).str:=ga.p.st _ (by rw [yK]; exact List.mem_cons_self ..);have hxe:=hx.e;have ht1:{t with fault:=if (dZ t x.e).2=true then t.fault else 2}=t:=by rw [hv1]; rfl
 refine aR rfl (aR rfl (aR rfl (aR rfl (have hs:=dM.shut (Φ:=λ _=>True) (t:=t) hk hs.p4.p4.p4.p4.p4;aN hs nK (λ b6 _ hs=>aO (x:=(⟨x.kind,x.eB,x.name,ge,gf,x.n,x.body,x.eG,x.at_⟩:aW)) hs mq rfl rfl (λ _ hs=>have hs:=hs.drew;aH (aA Ld (aB lL hs.p3.hb rfl (aA ng (aB (v:=.string x.name) kp hs.hb rfl (aH (aA DK ?_))))))))))));refine aB lL hs.p3.hb rfl (aA ng (aB (v:=.string x.name) kp hs.hb rfl (bO Ou hs (C81 _ (cM m.p) x.name _ (hu.cs _ (hK _ hs.aE)) (by omega)) (λ _ he2 hs=>?_))));refine ⟨aD lL (hs.p3.hb.cell rfl),?_⟩
 refine ⟨aD kp (hs.hb.cell rfl),?_⟩;refine bO Ou hs (C81 _ (cC m.p) x.name _ (hu.ks _ (hK _ hs.aE)) (by omega)) (λ _ he2 hs=>aH (aA Lc (Ln (a.pv) gR hs.p3.hb rfl (bO ajD hs (C26 m.p a.pv _ _ (hu.pr _ (hK _ hs.aE)) ry.pz) (λ _ he2 hs=>aN hs qp (λ Zm _ hs=>?_))))));have hs:=jG.shut (m:=m) (⟨hu,he,wM,by omega⟩) ((((((hs.enc (cs':=Flat.enc (⟨0,0,0,0,0⟩:dC)) rfl).p3).p7).p7).p7).p7);obtain ⟨c,hc⟩:∃ c,c=fR m x:=⟨_,rfl⟩;obtain ⟨lk,hlk⟩:∃ lk,lk=gj m x:=⟨_,rfl⟩;obtain ⟨ln,hln⟩:∃ ln,ln=gN m x:=⟨_,rfl⟩;have hs:=hs.p3.p4.p4.p4;have abl:gH m i=(if x.kind=10/\m.eM.getD (gj m x).toNat 0≠i then ({m with fault:=3,lI:=i},⟨16,i,3,0,0⟩) else ({ (dV m t i x).1 with l:=m.l.set i.toNat (mV m t i x)},{ (dV m t i x).2.2 with t:=i})):=by unfold gH; rw [ht]; dsimp only; rw [if_neg (by omega),Uh]
 refine ⟨λ w'=>¬ (x.kind=10/\m.eM.getD (gj m x).toNat 0≠i)/\St w F [cP Zm (Flat.enc ((dV m t i x).2.2)),cP b6 (Flat.enc (⟨x.kind,x.eB,x.name,ge,gf,x.n,x.body,x.eG,x.at_⟩:aW)),cP b4 (Flat.enc (⟨0,0,0,0,0⟩:dC)),nA K e.b m.room (dV m t i x).2.1,jG K p (dV m t i x).1 i.toNat e] w',?_,?_⟩
 ·refine aA gI (aB (v:=.int .i64 x.kind) cK hs.p1.hb rfl (aI (aC (λ k2=>?_) (λ k2=>?_))))
  ·have hA:(dV m t i x)=(m,pg t x.eB (l7 m t (fR m x)),Bi m t x):=by unfold dV; rw [if_pos k2]
   have od:¬ (x.kind=10/\m.eM.getD (gj m x).toNat 0≠i):=by omega
   refine aF mq hs.p1.At (have hs:=St.join hs.p4.p4;cX aqr hs (H':=λ _=>sep (nA K e.b m.room (pg t x.eB (l7 m t (fR m x)))) (jG K p m i.toNat e)) (Φ:=λ v _=>v=Flat.val (Bi m t x)) (λ F2 jq gz=>?_) ?_)
   ·exact C82 K p m i.toNat e t x ⟨x.kind,x.eB,x.name,ge,gf,x.n,x.body,x.eG,x.at_⟩ F2 (fR m x) _ jq (λ w' hc=>hK w' (gz w' hc).aE) ga ry.mem Ff (hx.rg (by omega))
   rintro _ _ rfl hs;have hs:=hs.split;refine aO (x:=(Bi m t x:dC)) hs.p2 iz rfl rfl (λ _ hs=>?_);have hs:=hs.p2.p2.p4.p4.p4;rw [hA];exact ⟨od,hs⟩
  refine aI (aC (λ k3=>?_) (λ k3=>?_))
  ·have hA:(dV m t i x)=(m,ve m t ⟨3,gN m x,fR m x,(dZ t x.e).1⟩,⟨3,0,fR m x,(dZ t x.e).1,0⟩):=by unfold dV; rw [if_neg k2,if_pos k3]
   have od:¬ (x.kind=10/\m.eM.getD (gj m x).toNat 0≠i):=by omega
   refine aA nh (aB (v:=Flat.val ge) m9 hs.p1.hb rfl (have hs:=hs.p3;cX Ug hs (H':=λ _=>nA K e.b m.room t) (Φ:=λ v _=>v = .tuple #[.int .i64 (dZ t x.e).1,.bool (dZ t x.e).2]) (λ F2 jq gz=>?_) ?_))
   ·have:=C83 K _ e.b m.room t F2 _ x.e _ jq (λ w' hc=>hK w' (gz w' hc).aE) (hxE _ (hK _ hs.aE)).1 (by omega) (by omega);rw [ht1] at this; exact this
   rintro _ _ rfl hs;refine aR rfl (aR rfl ?_);obtain ⟨bp,nv,rg,pl,es,hk,hs⟩:=dM.open hs;refine aH (aA nq (aB vH hs.hb rfl (pop (Bf 3 (gN m x) (fR m x) (dZ t x.e).1) (have hs:=hs.p1;cX Vs hs (H':=λ _=>lF bp m.room (tX m.room t.buf (⟨3,gN m x,fR m x,(dZ t x.e).1⟩:aV))) (Φ:=λ _ _=>True) (λ F2 jq gz=>?_) ?_))))
   ·exact (C84 bp m.room t.buf (⟨3,gN m x,fR m x,(dZ t x.e).1⟩:aV) F2 _ jq (by omega)).mono λ _ _ r=>r.mono λ _ _ h=>⟨trivial,h.2⟩
   rintro _ _ _ hs;refine pop (sM 3 (fR m x) (dZ t x.e).1) (have hs:=dM.shut (Φ:=λ _=>True) (t:=ve m t (⟨3,gN m x,fR m x,(dZ t x.e).1⟩:aV)) hk hs.p4.p4.p4.p3.p4;aO (x:=(⟨3,0,fR m x,(dZ t x.e).1,0⟩:dC)) hs.p1 iz rfl rfl (λ w14' hs=>?_));have hs:=hs.p4.p2.p4.p4.p4;rw [hA];exact ⟨od,hs⟩
  refine aI (aC (λ k5=>?_) (λ k5=>?_))
  ·have hA:(dV m t i x)=(m,ve m t ⟨5,gN m x,0,0⟩,⟨4,0,gN m x,0,0⟩):=by unfold dV; rw [if_neg k2,if_neg k3,if_pos k5]
   have od:¬ (x.kind=10/\m.eM.getD (gj m x).toNat 0≠i):=by omega
   have hs:=hs.p3;obtain ⟨bp,nv,rg,pl,es,hk,hs⟩:=dM.open hs;refine aH (aA nq (aB vH hs.hb rfl (pop (Be 5 (gN m x)) (have hs:=hs.p1;cX Vs hs (H':=λ _=>lF bp m.room (tX m.room t.buf (⟨5,gN m x,0,0⟩:aV))) (Φ:=λ _ _=>True) (λ F2 jq gz=>?_) ?_))))
   ·exact (C84 bp m.room t.buf (⟨5,gN m x,0,0⟩:aV) F2 _ jq (by omega)).mono λ _ _ r=>r.mono λ _ _ h=>⟨trivial,h.2⟩
   rintro _ _ _ hs;refine pop (tH 4 (gN m x)) (have hs:=dM.shut (Φ:=λ _=>True) (t:=ve m t (⟨5,gN m x,0,0⟩:aV)) hk hs.p4.p4.p4.p3.p4;aO (x:=(⟨4,0,gN m x,0,0⟩:dC)) hs.p1 iz rfl rfl (λ w16' hs=>?_));have hs:=hs.p4.p2.p4.p4.p4;rw [hA];exact ⟨od,hs⟩
  refine aI (aC (λ k6=>?_) (λ k6=>?_))
  ·have hA:(dV m t i x)=(m,ve m t ⟨6,gN m x,0,0⟩,⟨5,0,gN m x,0,0⟩):=by unfold dV; rw [if_neg k2,if_neg k3,if_neg k5,if_pos k6]
   have od:¬ (x.kind=10/\m.eM.getD (gj m x).toNat 0≠i):=by omega
   have hs:=hs.p3;obtain ⟨bp,nv,rg,pl,es,hk,hs⟩:=dM.open hs;refine aH (aA nq (aB vH hs.hb rfl (pop (Be 6 (gN m x)) (have hs:=hs.p1;cX Vs hs (H':=λ _=>lF bp m.room (tX m.room t.buf (⟨6,gN m x,0,0⟩:aV))) (Φ:=λ _ _=>True) (λ F2 jq gz=>?_) ?_))))
   ·exact (C84 bp m.room t.buf (⟨6,gN m x,0,0⟩:aV) F2 _ jq (by omega)).mono λ _ _ r=>r.mono λ _ _ h=>⟨trivial,h.2⟩
   rintro _ _ _ hs;refine pop (tH 5 (gN m x)) (have hs:=dM.shut (Φ:=λ _=>True) (t:=ve m t (⟨6,gN m x,0,0⟩:aV)) hk hs.p4.p4.p4.p3.p4;aO (x:=(⟨5,0,gN m x,0,0⟩:dC)) hs.p1 iz rfl rfl (λ w18' hs=>?_));have hs:=hs.p4.p2.p4.p4.p4;rw [hA];exact ⟨od,hs⟩
  refine aI (aC (λ k7=>?_) (λ k7=>?_))
  ·have hA:(dV m t i x)=(m,ve m t ⟨7,0,0,0⟩,⟨6,0,0,0,0⟩):=by unfold dV; rw [if_neg k2,if_neg k3,if_neg k5,if_neg k6,if_pos k7]
   have od:¬ (x.kind=10/\m.eM.getD (gj m x).toNat 0≠i):=by omega
   have hs:=hs.p3;obtain ⟨bp,nv,rg,pl,es,hk,hs⟩:=dM.open hs;refine aH (aA nq (aB vH hs.hb rfl (pop (zV 7) (have hs:=hs.p1;cX Vs hs (H':=λ _=>lF bp m.room (tX m.room t.buf (⟨7,0,0,0⟩:aV))) (Φ:=λ _ _=>True) (λ F2 jq gz=>?_) ?_))))
   ·exact (C84 bp m.room t.buf (⟨7,0,0,0⟩:aV) F2 _ jq (by omega)).mono λ _ _ r=>r.mono λ _ _ h=>⟨trivial,h.2⟩
   rintro _ _ _ hs;refine pop (MZ 6) (have hs:=dM.shut (Φ:=λ _=>True) (t:=ve m t (⟨7,0,0,0⟩:aV)) hk hs.p4.p4.p4.p3.p4;aO (x:=(⟨6,0,0,0,0⟩:dC)) hs.p1 iz rfl rfl (λ w20' hs=>?_));have hs:=hs.p4.p2.p4.p4.p4;rw [hA];exact ⟨od,hs⟩
  refine aI (aC (λ k8=>?_) (λ k8=>?_))
  ·have hA:(dV m t i x)=(m,t,⟨7,0,0,0,0⟩):=by unfold dV; rw [if_neg k2,if_neg k3,if_neg k5,if_neg k6,if_neg k7,if_pos k8]
   have od:¬ (x.kind=10/\m.eM.getD (gj m x).toNat 0≠i):=by omega
   refine pop (MZ 7) (aO (x:=(⟨7,0,0,0,0⟩:dC)) hs iz rfl rfl (λ _ hs=>?_));have hs:=hs.p4.p4.p4.p4.p4;rw [hA];exact ⟨od,hs⟩
  refine aI (aC (λ k4=>?_) (λ k4=>?_))
  ·have hA:(dV m t i x)=(pX m t x,pg t x.eB (kQ m.mem (fR m x)),uC m t x):=by unfold dV; rw [if_neg k2,if_neg k3,if_neg k5,if_neg k6,if_neg k7,if_neg k8,if_pos k4]
   have od:¬ (x.kind=10/\m.eM.getD (gj m x).toNat 0≠i):=by omega
   refine aF mq hs.p1.At (have hs:=St.join hs.p4.p4;cX aqs hs (H':=λ _=>sep (nA K e.b m.room (pg t x.eB (kQ m.mem (fR m x)))) (jG K p (pX m t x) i.toNat e)) (Φ:=λ v _=>v=Flat.val (uC m t x)) (λ F2 jq gz=>?_) ?_)
   ·exact C85 K p m i.toNat e t x ⟨x.kind,x.eB,x.name,ge,gf,x.n,x.body,x.eG,x.at_⟩ F2 _ jq (λ w' hc=>hK w' (gz w' hc).aE) ga ry.mem Ff (hx.rg (by omega)) Pz hxe hv1 hv2
   rintro _ _ rfl hs;have hs:=hs.split;refine aO (x:=(uC m t x:dC)) hs.p2 iz rfl rfl (λ _ hs=>?_);have hs:=hs.p2.p2.p4.p4.p4;rw [hA];exact ⟨od,hs⟩
  have aqP:x.kind=9\/x.kind=10:=by omega
  obtain ⟨j,hj,CG,_⟩:=pQ (cD.1 (hx.lk aqP));have Vk:=(List.getElem?_eq_some_iff.1 CG).1;have hjk:gj m x=(j:Int):=hj;refine aI (aC (λ k9=>?_) (λ k9=>?_))
  ·have hA:(dV m t i x)=(oL m x i,t,⟨10,0,gj m x,0,0⟩):=by unfold dV; rw [if_neg k2,if_neg k3,if_neg k5,if_neg k6,if_neg k7,if_neg k8,if_neg k4,if_pos k9]
   have od:¬ (x.kind=10/\m.eM.getD (gj m x).toNat 0≠i):=by omega
   have hs:=hs.p4;obtain ⟨a,hX,hs⟩:=jG.open hs;refine aH (aA qu (aB fT hs.hb rfl (eS hs.p2 ei (show 0<=gj m x by omega) (show gj m x<_ by omega) (λ _ akZ=>mc (i:Int) hs.p2 cK akZ (by omega) (λ _ hs=>pop (tH 10 (gj m x)) (have hs:=jG.shut (m:=oL m x i) (⟨⟨hX.1.pr,hX.1.cs,hX.1.ks,hX.1.mem,hX.1.rc⟩,hX.2⟩) hs.p4.p4.p2.p4.p4;aO (x:=(⟨10,0,gj m x,0,0⟩:dC)) hs.p1 iz rfl rfl (λ _ hs=>?_)))))));have hs:=hs.p1.p4.p4.p4.p4;rw [hA];exact ⟨od,hs⟩
  have hA:(dV m t i x)=(oL m x (-1),t,⟨11,0,gj m x,0,0⟩):=by unfold dV; rw [if_neg k2,if_neg k3,if_neg k5,if_neg k6,if_neg k7,if_neg k8,if_neg k4,if_neg k9]
  have hs:=hs.p4;obtain ⟨a,hX,hs⟩:=jG.open hs;have hwl:=(hs.p2).gg;obtain ⟨ov,hov⟩:∃ ov,m.eM[(gj m x).toNat]? = some ov:=⟨_,List.getElem?_eq_getElem (by omega)⟩;have hgd:m.eM.getD (gj m x).toNat 0=ov:=by rw [List.getD_eq_getElem?_getD,hov]; rfl
  refine aH (aA qu (aB fT hs.hb rfl (aU ei hwl (show 0<=gj m x by omega) hov (λ q69 h69=>aF cK h69 (cS (aC (λ c72=>?_) (λ c72=>?_)))))))
  ·have hs:=hs.p4;have hs:=sN ((jG.shut (m:=m) (hX) hs.p4.p4.p4.p4).p4);rw [nu ht] at hs;refine cX akv hs (H':=λ _=>eR K p {m with fault:=3,lI:=i}) (Φ:=λ v _=>v=Flat.val (⟨16,i,3,0,0⟩:dC)) (λ F2 jq gz=>?_) ?_
   ·exact C79 K p m i 3 F2 _ jq
   rintro _ _ rfl hs;refine aO (x:=(⟨16,i,3,0,0⟩:dC)) hs.p3 iz rfl rfl (λ _ hs=>aF iz hs.At ?_);have hs:=hs.drop.p1.drop.p1.drop;rw [abl,if_pos ⟨by omega,by rw [hgd]; exact c72⟩];exact ⟨rfl,hs.mut⟩
  refine aH (aA qu (aB fT hs.hb rfl (eS hs.p2 ei (show 0<=gj m x by omega) (show gj m x<_ by omega) (λ _ aqR=>mc (-1:Int) hs.p2 cK aqR (by omega) (λ _ hs=>pop (tH 11 (gj m x)) (have hs:=jG.shut (m:=oL m x (-1)) (⟨⟨hX.1.pr,hX.1.cs,hX.1.ks,hX.1.mem,hX.1.rc⟩,hX.2⟩) hs.p4.p4.p2.p4.p4;aO (x:=(⟨11,0,gj m x,0,0⟩:dC)) hs.p1 iz rfl rfl (λ _ hs=>?_)))))));have hs:=hs.p1.p4.p4.p4.p4;rw [hA];exact ⟨by rw [hgd]; exact λ h=>c72 h.2,hs⟩
 rintro _ ⟨ak0,hs⟩ _;have aqS:(dV m t i x).2.1.aY=(.cons x xa xb r,en)::p':=by rw [C5]; exact yK
 have jJ:=C3 (m:=m) (t:=t) (i:=i) (x:=x);have aqT:ph (StD (cM m.p) (cC m.p) t.names) (dV m t i x).2.1:=M6 ga ry.rm.2
 have ak1:wH (cM m.p) (cC m.p) { (dV m t i x).2.1 with aY:=fV (dV m t i x).2.1.aY}:=by
  show ph (StD _ _ (dV m t i x).2.1.names) _;rw [vf]; exact M7 aqT
 refine aA VN (bF hs cK (fw rfl) rfl (λ _ hs=>have hs:=(hs.enc (cs':=Flat.enc ({ (dV m t i x).2.2 with t:=i}:dC)) rfl).p3;cX Uf hs (H':=λ _=>nA K e.b m.room { (dV m t i x).2.1 with aY:=fV (dV m t i x).2.1.aY}) (Φ:=λ _ _=>True) (λ F2 jq gz=>?_) ?_))
 ·exact (C86 K _ e.b m.room (dV m t i x).2.1 F2 x xa xb r en p' _ jq (λ w' hc=>hK w' (gz w' hc).aE) aqS hst (by rw [C5]; omega)).mono λ _ _ r=>r.mono λ _ _ h=>⟨trivial,h.2⟩
 rintro _ _ _ hs;refine cX akm hs (H':=λ _=>nA K e.b m.room (mV m t i x)) (Φ:=λ _ _=>True) (λ F2 jq gz=>?_) ?_
 ·exact (C73 K e.b m.room { (dV m t i x).2.1 with aY:=fV (dV m t i x).2.1.aY} (mV m t i x) _ _ _ F2 _ jq (λ w' hc=>hK w' (gz w' hc).aE) ak1 (pU ak1).1).mono λ _ _ r=>r.mono λ _ _ h=>⟨trivial,h.2⟩
 rintro _ _ _ hs;refine aF (x:=({ (dV m t i x).2.2 with t:=i}:dC)) iz hs.p1.At (aO (x:=({ (dV m t i x).2.2 with t:=i}:dC)) hs.p3 iz rfl rfl (λ _ hs=>aF iz hs.At ?_));have hs:=hs.drop.p1.drop.p1.drop.p1.p1;rw [<- jJ] at hs;have hs:=sN hs;rw [aeZ] at hs;rw [abl,if_neg ak0];exact ⟨rfl,hs.mut⟩
theorem C35 (K:World->Prop) (p:Nat) (m:iu) (q:ef) (gc:SV) (t:iC) (F:Nat->Prop) (w:World) (hF:(eR K p m).p w F) (hK:∀ w',gM F w w'->K w') (ry:pj m) (Pz:MB m.mem 1000000) (h0:0<=q.t) (ht:m.l[q.t.toNat]? = some t) :
   CR 35 [.pointer (some ⟨p,0,none⟩),Flat.val (⟨q.kind,q.t,q.i,gc⟩:dT)] w (λ v w'=>v=Flat.val (A9 q.t (eo t.buf q.i))/\ti F (eR K p (ub m t q)) w w'):=by
 have hs:=St.begin hF;have M4:=List.mem_of_getElem? ht;have ga:=ry.th t M4;have eU:=(List.getElem?_eq_some_iff.1 ht).1;have N5:=ga.bl;refine aeK _ _ _ _ ?_;unfold S35;refine cZ (x:=(⟨q.kind,q.t,q.i,gc⟩:dT)) hs (λ b3 _ hs=>aN hs qp (λ b4 _ hs=>?_));have hs:=(hs.enc (cs':=Flat.enc (⟨0,0,0,0,0⟩:dC)) rfl).p2;obtain ⟨a,hu,hs⟩:=eR.open hs;have wM:=hs.p4.js;obtain ⟨e,he⟩:∃ e,a.ps[q.t.toNat]? = some e:=⟨_,List.getElem?_eq_getElem (by omega)⟩;refine ⟨λ x5 w'=>∃ b5,x5 = .pointer (some ⟨b5,0,none⟩)/\St w F [cP b5 (Flat.enc (eo t.buf q.i)),cP b4 (Flat.enc (⟨0,0,0,0,0⟩:dC)),cP b3 (Flat.enc (⟨q.kind,q.t,q.i,gc⟩:dT)),nA K e.b m.room ({t with buf:=kf t.buf q.i}),jG K p m q.t.toNat e] w',?_,?_⟩
 ·have hs:=hs.drew;refine aH (aA qw (aB DJ hs.hb rfl (aA mf (aB (v:=.int .i64 q.t) cK hs.p6.hb rfl (eS hs.p3 FH h0 (by have:=wM; omega) (λ q14 NW=>qj hs.p3 Ny NW he ?_))))));have hs:=Ul hs.p4 he ht;obtain ⟨bp,nv,rg,pl,es,hk,hs⟩:=dM.open hs;refine aH (aA nq (aB vH hs.hb rfl (aA te (aB (v:=.int .i64 q.i) cK hs.p11.hb rfl ⟨?_,?_,trivial⟩))))
  ·have hs:=hs.p1;refine cX agk hs (H':=λ _=>lF bp m.room (kf t.buf q.i)) (Φ:=λ v _=>v = .tuple #[Flat.val (eo t.buf q.i),.int .i64 (wA t.buf q.i)]) (λ F2 jq gz=>?_) ?_
   ·exact C76 bp m.room t.buf q.i F2 _ jq (by omega)
   rintro _ _ rfl hs;refine aR rfl (aR rfl (aN hs tf (λ b5 _ hs=>?_)));refine ⟨aD DJ (hs.p7.hb.cell rfl),?_⟩;refine ⟨aD cK (hs.p12.hb.cell (v:=.int .i64 q.t) rfl),?_⟩;refine ⟨Lo hs.p10 Ny NW he,?_⟩;refine ⟨aD vH (hs.p2.hb.cell rfl),?_⟩;refine ⟨aD cK (hs.p12.hb.cell (v:=.int .i64 q.i) rfl),?_⟩;exact aO (x:=(eo t.buf q.i)) hs jK rfl rfl (λ _ hs=>have hs:=dM.shut (Φ:=λ _=>True) (t:={t with buf:=kf t.buf q.i}) hk hs.p5.p5.p5.p4.p5;have hs:=jG.shut (m:=m) ⟨hu,he,wM,by omega⟩ hs.p2.p6.p6.p6.p6;have hs:=hs.p1.p4.p4.p4;⟨b5,rfl,hs⟩)
  refine aN hs tf (λ b5 _ hs=>?_);refine ⟨aD DJ (hs.p7.hb.cell rfl),?_⟩;refine ⟨aD cK (hs.p12.hb.cell (v:=.int .i64 q.t) rfl),?_⟩;refine ⟨Lo hs.p10 Ny NW he,?_⟩;refine ⟨aD vH (hs.p1.hb.cell rfl),?_⟩;refine ⟨aD cK (hs.p12.hb.cell (v:=.int .i64 q.i) rfl),?_⟩;have hs:=hs.p2;refine cX agk hs (H':=λ _=>lF bp m.room (kf t.buf q.i)) (Φ:=λ v _=>v = .tuple #[Flat.val (eo t.buf q.i),.int .i64 (wA t.buf q.i)]) (λ F2 jq gz=>?_) ?_
  ·exact C76 bp m.room t.buf q.i F2 _ jq (by omega)
  rintro _ _ rfl hs;exact aR rfl (aR rfl (aO (x:=(eo t.buf q.i)) hs.p1 jK rfl rfl (λ _ hs=>have hs:=dM.shut (Φ:=λ _=>True) (t:={t with buf:=kf t.buf q.i}) hk hs.p5.p5.p5.p4.p5;have hs:=jG.shut (m:=m) ⟨hu,he,wM,by omega⟩ hs.p2.p6.p6.p6.p6;have hs:=hs.p1.p4.p4.p4;⟨b5,rfl,hs⟩)))
 rintro _ _ ⟨b5,rfl,hs⟩ _;refine aA nM (aB (v:=.int .i64 (eo t.buf q.i).kind) cK hs.hb rfl (aI (aC (λ c=>?_) (λ c=>?_))))
 ·have hs:=hs.p4;obtain ⟨a,hX,hs⟩:=jG.open hs;have hs:=hs.drew;refine aH (aA nn (aB DI hs.hb rfl (aA pA (aB (v:=.int .i64 (eo t.buf q.i).cell) cK hs.p5.hb rfl (aA rW (aB (v:=.int .i64 (eo t.buf q.i).n) cK hs.p5.hb rfl (have hs:=hs.p1;cX agl hs (H':=λ _=>fb a.q a.ov a.fv (fN m.mem (eo t.buf q.i).cell (eo t.buf q.i).n)) (Φ:=λ _ _=>True) (λ F2 jq gz=>?_) ?_)))))))
  ·exact (C77 a.q a.ov a.fv m.mem F2 _ _ _ jq (λ w' hc=>hX.1.mem _ (hK w' (gz w' hc).aE)) ry.mem Pz).mono λ _ _ r=>r.mono λ _ _ h=>⟨trivial,h.2⟩
  rintro _ _ _ hs;refine aA mf (aB (v:=.int .i64 q.t) cK hs.p7.hb rfl (aA pA (aB (v:=.int .i64 (eo t.buf q.i).cell) cK hs.p5.hb rfl (aA rW (aB (v:=.int .i64 (eo t.buf q.i).n) cK hs.p5.hb rfl (pop (BO 12 q.t (eo t.buf q.i).cell (eo t.buf q.i).n) (aO (x:=(⟨12,q.t,(eo t.buf q.i).cell,(eo t.buf q.i).n,0⟩:dC)) hs.p6 iz rfl rfl (λ _ hs=>aF iz hs.At ?_))))))));have hom:jA m.mem (eo t.buf q.i)=fN m.mem (eo t.buf q.i).cell (eo t.buf q.i).n:=by unfold jA; rw [if_pos c]
  have hoe:A9 q.t (eo t.buf q.i)=⟨12,q.t,(eo t.buf q.i).cell,(eo t.buf q.i).n,0⟩:=by unfold A9; rw [if_pos c]
  have hs:=jG.shut (m:={m with mem:=fN m.mem (eo t.buf q.i).cell (eo t.buf q.i).n}) ⟨⟨hX.1.pr,hX.1.cs,hX.1.ks,λ w hw=>(hX.1.mem w hw).write,hX.1.rc⟩,hX.2⟩ hs.drop.p6.drop.p5.drop.p4.p4.p4.p3.p4;have hs:=sN (m:={m with mem:=fN m.mem (eo t.buf q.i).cell (eo t.buf q.i).n}) (tp:=e) (t:={t with buf:=kf t.buf q.i}) hs.p1;have IG:ub m t q={ {m with mem:=fN m.mem (eo t.buf q.i).cell (eo t.buf q.i).n} with l:=m.l.set q.t.toNat ({t with buf:=kf t.buf q.i})}:=by unfold ub; rw [hom]
  rw [IG,hoe];exact ⟨rfl,hs.mut⟩
 refine aI (aC (λ c2=>?_) (λ c2=>?_))
 ·refine aA mf (aB (v:=.int .i64 q.t) cK hs.p2.hb rfl (pop (OQ 14 q.t) (aO (x:=(⟨14,q.t,0,0,0⟩:dC)) hs.p1 iz rfl rfl (λ _ hs=>aF iz hs.At ?_))));have hs:=hs.p4;obtain ⟨a,hX,hs⟩:=jG.open hs;have hom:jA m.mem (eo t.buf q.i)=m.mem:=by unfold jA; rw [if_neg c,if_pos c2]
  have hoe:A9 q.t (eo t.buf q.i)=⟨14,q.t,0,0,0⟩:=by unfold A9; rw [if_neg c,if_pos c2]
  have hs:=jG.shut (m:={m with mem:=m.mem}) hX (((hs.p5.drop.p6.drop.p5.drop.p4.p4.p4).p4).p4);have hs:=sN (m:={m with mem:=m.mem}) (tp:=e) (t:={t with buf:=kf t.buf q.i}) hs.p1;have IG:ub m t q={ {m with mem:=m.mem} with l:=m.l.set q.t.toNat ({t with buf:=kf t.buf q.i})}:=by unfold ub; rw [hom]
  rw [IG,hoe];exact ⟨rfl,hs.mut⟩
 have hs:=hs.p4;obtain ⟨a,hX,hs⟩:=jG.open hs;have hs:=hs.drew;refine aH (aA nn (aB DI hs.hb rfl (aA kZ (aB (v:=.int .i64 (eo t.buf q.i).line) cK hs.p5.hb rfl (have hs:=hs.p1;cX ane hs (H':=λ _=>fb a.q a.ov a.fv (pa m.mem (eo t.buf q.i).line)) (Φ:=λ _ _=>True) (λ F2 jq gz=>?_) ?_)))))
 ·exact (C78 a.q a.ov a.fv m.mem F2 _ _ jq (λ w' hc=>hX.1.mem _ (hK w' (gz w' hc).aE)) ry.mem Pz).mono λ _ _ r=>r.mono λ _ _ h=>⟨trivial,h.2⟩
 rintro _ _ _ hs;refine aA mf (aB (v:=.int .i64 q.t) cK hs.p7.hb rfl (aA kZ (aB (v:=.int .i64 (eo t.buf q.i).line) cK hs.p5.hb rfl (pop (yC 13 q.t (eo t.buf q.i).line) (aO (x:=(⟨13,q.t,(eo t.buf q.i).line,0,0⟩:dC)) hs.p6 iz rfl rfl (λ _ hs=>aF iz hs.At ?_))))));have hom:jA m.mem (eo t.buf q.i)=pa m.mem (eo t.buf q.i).line:=by unfold jA; rw [if_neg c,if_neg c2]
 have hoe:A9 q.t (eo t.buf q.i)=⟨13,q.t,(eo t.buf q.i).line,0,0⟩:=by unfold A9; rw [if_neg c,if_neg c2]
 have hs:=jG.shut (m:={m with mem:=pa m.mem (eo t.buf q.i).line}) ⟨⟨hX.1.pr,hX.1.cs,hX.1.ks,λ w hw=>(hX.1.mem w hw).out,hX.1.rc⟩,hX.2⟩ hs.drop.p6.drop.p5.drop.p4.p4.p4.p3.p4;have hs:=sN (m:={m with mem:=pa m.mem (eo t.buf q.i).line}) (tp:=e) (t:={t with buf:=kf t.buf q.i}) hs.p1;have IG:ub m t q={ {m with mem:=pa m.mem (eo t.buf q.i).line} with l:=m.l.set q.t.toNat ({t with buf:=kf t.buf q.i})}:=by unfold ub; rw [hom]
 rw [IG,hoe];exact ⟨rfl,hs.mut⟩
theorem C30 (K:World->Prop) (p:Nat) (m:iu) (uw:List bV) (lv:Value) (vl:List bR) (F:Nat->Prop) (w:World) (hF:(eR K p m).p w F) (hK:∀ w',gM F w w'->K w') (YU:1<=m.room/\m.room<=16) (hlk:(cC m.p).length<=1000) (hl:∀ w',gM F w w'->dx (λ _=>True) w' lv vl) (htv:Ia K vl uw)
   (ga:∀ t∈uw,wH (cM m.p) (cC m.p) (wJ t)/\t.body=(Ky t.body).flat) (hn:uw.length<=1000) :
   CR 30 [.pointer (some ⟨p,0,none⟩),lv] w (λ v w'=>v = .tuple #[]/\ti F (eR K p (l8 m uw)) w w'):=by
 have hs:=St.begin hF;have Qn:=htv.1;refine aeL _ _ _ _ ?_;unfold S30;obtain ⟨a,hu,hs⟩:=eR.open hs;have wM:=hs.p4.js;refine aH (aA qw (bF hs DJ (fw rfl) rfl (λ _ hs=>aH (aA qu (bF hs fT (fw rfl) rfl (λ _ hs=>aH (aA DK (aB lL hs.hb rfl (aG nj (hu.ks _ (hK _ hs.aE)) ?_)))))))));have hs:=(((hs.p2.drop.p2.drop.p2.drop.fy (α:=Int)).p2).p1).p2;refine ⟨λ mm x w'=>∃ (k:Nat) (ov:Value),x = .int .i64 (k:Int)/\mm=(cC m.p).length - k/\k<=(cC m.p).length/\St w F [cP p (mU {a with ow:=ov,ll:=.slice none 0 0} m),bJ ov (List.replicate k (-1:Int)),fb a.q a.ov a.fv m.mem] w',⟨_,0,_,rfl,rfl,Nat.zero_le _,hs⟩,?_⟩
 rintro mm _ _ ⟨k,ov,rfl,rfl,Po,hs⟩ _;refine aS (aC (λ c=>?_) (λ c=>?_))
 ·refine aH (aA qu (aB fT hs.hb rfl (cO (([-1]:List Int)) hs ei rfl rfl (fw rfl) (λ s27 _ hs=>?_))));have aqU:=(hs).gg;exact dw hs.p2 ei aqU (by rw [List.length_replicate,List.length_singleton]; omega) (by decide) (λ s28 _ hs=>have hs:=hs.p1.drop;aH (aA qu (bF hs.p1 fT (fw rfl) ((hs).gg.one) (λ _ hs=>aT (by omega) ⟨_,by omega,k+1,s28,rfl,rfl,by omega,by rw [List.replicate_succ']; exact hs⟩))))
 refine aG iO (hl _ hs.aE) ?_;rw [show k=(cC m.p).length from by omega] at hs;have hs:=((((((hs.FZ (H:=ua K m.room)).fy (α:=Ptr)).p4).p4).p3).p3).p4;refine ⟨λ mm x w'=>∃ (j:Nat) (llv:Value) (ps:List Ptr),x = .int .i64 (j:Int)/\mm=vl.length - j/\j<=vl.length/\St w F [cP p (mU {a with ow:=ov,ll:=llv} m),bJ llv ps,gw (ua K m.room) ps ((uw.take j).map OV),bJ ov (List.replicate (cC m.p).length (-1:Int)),fb a.q a.ov a.fv m.mem] w',⟨_,0,_,_,rfl,rfl,Nat.zero_le _,hs⟩,?_⟩;rintro mm _ _ ⟨j,llv,ps,rfl,rfl,hj1,hs⟩ _;refine aS (aC (λ c2=>?_) (λ c2=>?_));rotate_left
 ·rw [List.take_of_length_le (by omega)] at hs;have hs:=hs.p2.p2.p3.p4.p4;exact ⟨rfl,(eR.shut (m:=l8 m uw) (a:={a with ow:=ov,ll:=llv,ps:=ps}) ⟨hu.pr,hu.cs,hu.ks,hu.mem,hu.rc⟩ hs).mut⟩
 obtain ⟨tv,ak3⟩:∃ tv,vl[((j:Nat):Int).toNat]? = some tv:=⟨_,List.getElem?_eq_getElem (by omega)⟩;obtain ⟨t,ht⟩:∃ t,uw[j]? = some t:=⟨_,List.getElem?_eq_getElem (by omega)⟩;obtain ⟨gr,gb,rows,rfl,hgr,hgb⟩:=htv.2 j _ _ ak3 ht;obtain ⟨ae4,hbk⟩:=ga t (List.mem_of_getElem? ht);have GH:t.cW.length<=1000:=ae4.nb;refine aU iO (hl _ hs.aE) (by omega) ak3 (λ q36 h36=>aF py h36 (aN hs rS (λ b5 _ hs=>aO (x:=(⟨t.name,gr,gb,t.at_⟩:bR)) hs py rfl rfl (λ _ hs=>aH (aA VP (aB cK hs.p1.hb rfl (eW agi (C23 m.room _) ?_)))))));rintro v43 _ hh;obtain ⟨_,_,b43,rfl,cL⟩:=hh.resolve_left (λ _=>by omega)
 have hs:=hs.made cL;refine aR rfl (aR rfl (have hs:=hs.drew;aA kX (aB (v:=Flat.val gr) lL hs.p1.hb rfl (aA kX (aB (v:=Flat.val gr) lL hs.p1.hb rfl (aG nj (hgr _ (hK _ hs.aE)) (FD (0:Int) hs ei rQ (by omega) (by omega) (by decide) (λ s52 _ hs=>?_))))))));rw [Int.toNat_natCast] at hs;refine ⟨aD lL (hs.p2.hb.cell (v:=Flat.val gr) rfl),?_⟩;obtain ⟨ae5,rfl⟩:=(hs).eT;refine pop (H9 (some ⟨b43,0,none⟩) gr.a gr.n gr.cap ae5.a ae5.n ae5.cap) (vy hs (λ b54 _ hs=>have hs:=(hs.fy (α:=sL)).rZ (Φ:=λ w=>zB K w [] []/\True) (λ _=>⟨trivial,trivial⟩);have hs:=dM.shut (Φ:=λ _=>True) (t:=(⟨t.cW,List.replicate t.cW.length 0,[],0,[]⟩:iC)) (es:=[]) hgr hs.p1.p3.p4.p4;aA sX (aB (v:=Flat.val gb) zR hs.p1.hb rfl (cX Ue hs (H':=λ _=>nA K b54 m.room (wJ t)) (Φ:=λ _ _=>True) (λ F2 jq gz=>?_) ?_))))
 ·exact (C72 K _ b54 m.room ⟨t.cW,List.replicate t.cW.length 0,[],0,[]⟩ F2 gb rows (Ky t.body) false _ jq (λ w' hc=>hK w' (gz w' hc).aE) (λ w _=>by rw [<- hbk]; exact hgb w) (show (0:Nat)<=100000 by decide)).mono λ _ _ r=>r.mono λ _ _ h=>⟨trivial,h.2⟩
 rintro _ _ _ hs;refine cX akm hs (H':=λ _=>nA K b54 m.room (OV t)) (Φ:=λ _ _=>True) (λ F2 jq gz=>?_) ?_
 ·exact (C73 K b54 m.room (wJ t) (OV t) _ _ _ F2 _ jq (λ w' hc=>hK w' (gz w' hc).aE) ae4 (pU ae4).1).mono λ _ _ r=>r.mono λ _ _ h=>⟨trivial,h.2⟩
 rintro _ _ _ hs;refine aH (aA qw ?_);have lT:=(hs.p4).js;rw [List.length_map,List.length_take] at lT;refine aB DJ hs.p2.hb rfl (cO ([(⟨b54⟩:Ptr)]) hs FH rfl rfl (fw rfl) (λ s67 _ hs=>?_));have aqW:=(hs).gg;exact dw hs.p4 FH aqW (by simp; omega) (by decide) (λ s68 _ hs=>have hs:=(hs.p1).drop;aH (aA qw (bF hs.p3 DJ (fw rfl) ((hs).gg.one) (λ _ hs=>have hs:=(((St.F0 (H:=ua K m.room) (p:=⟨b54⟩) (x:=OV t) (hs.p3.drop.p2.p3)).p4).p4).p2;have hs:=hs.p4.p4;aT (by omega) ⟨_,by omega,j+1,s68,ps++[⟨b54⟩],rfl,rfl,by omega,by rw [<- fO (k:=j) ht]; exact hs⟩))))
theorem ThK.mono {K K2:World->Prop} {tv:bR} {t:bV} (h:ThK K tv t) (hk:∀ w,K2 w->K w):ThK K2 tv t:=by
 obtain ⟨gr,gb,rows,e,h1,h2⟩:=h
 exact ⟨gr,gb,rows,e,λ w hw=>h1 w (hk w hw),λ w=>⟨λ w' hw=>(h2 w).1 w' (hk w' hw),λ hw=>(h2 w).2 (hk w hw)⟩⟩
theorem Ia.mono {K K2:World->Prop} {vl:List bR} {uw:List bV} (h:Ia K vl uw) (hk:∀ w,K2 w->K w):Ia K2 vl uw:=⟨h.1,λ j tv t h1 h2=>(h.2 j tv t h1 h2).mono hk⟩
theorem Na {p:bQ} (hc:M8 p) {t:bV} (ht:t∈gL p):t.body=(Ky t.body).flat:=by
 obtain ⟨_,h2,_⟩:=hc.f.uw ht
 obtain ⟨_,_,b,h5,h6,_⟩:=kN h2
 rw [h5,Ij h6]
def Db (K:World->Prop) (lv:SV) (uw:List bV):Prop:=∃ vl,(∀ w,K w->dx (λ _=>True) w (Flat.val lv) vl)/\Ia K vl uw
structure Vc (K:World->Prop) (pv:bE) (p:bQ):Prop where
 pr:∀ w,K w->Deep.dr w pv p
 th:Db K pv.threads p.threads
 rc:Db K pv.recover p.recover
def Vd (m:iu) (q:ef):iu:=match jH m q with | some mT=>{m with mem:=l5 m.mem mT} | none=>m
def Nb (m:Mem) (cut:List Int) (v:Value) (m2:Mem):Prop:=(gn m cut=none/\m2=m/\v = .int .i64 1)\/∃ mT,gn m cut=some mT/\m2=l5 m mT/\v = .int .i64 0
theorem KB {m:Mem} {cut:List Int} {v:Value} {p:Nat} {ov fv:Value} {F:Nat->Prop} {w w':World}
  (h:(gn m cut=none/\v = .int .i64 1/\ti F (fb p ov fv m) w w')\/∃ mT,gn m cut=some mT/\v = .int .i64 0/\ti F (fb p ov fv (l5 m mT)) w w') :
  True/\ti F (yJ λ m2=>fact (Nb m cut v m2) (fb p ov fv m2)) w w':=by
 refine ⟨trivial,?_⟩
 rcases h with ⟨h1,h2,F',h3,h4,h5⟩ | ⟨mT,h1,h2,F',h3,h4,h5⟩
 ·exact ⟨F',⟨m,.inl ⟨h1,rfl,h2⟩,h3⟩,h4,h5⟩
 exact ⟨F',⟨l5 m mT,.inr ⟨mT,h1,rfl,h2⟩,h3⟩,h4,h5⟩
theorem ak4 (K:World->Prop):Ia K [(⟨⟨#[]⟩,⟨none,0,0⟩,⟨none,0,0⟩,0⟩:bR)] [⟨⟨#[]⟩,[],[],0⟩]:=by
 refine ⟨rfl,λ j tv t h1 h2=>?_⟩
 cases j with
 | zero=>
  cases h1; cases h2
  exact ⟨⟨none,0,0⟩,⟨none,0,0⟩,[],rfl,λ w _=>dx.nil _ w,λ w=>⟨λ _ _=>jR.nil,λ _=>dx.nil _ w⟩⟩
 | succ j=>simp at h1
theorem aqX:PL 34:=dW Tryz.func34
theorem C6 (K:World->Prop) (p:bQ) (pv:bE) (room:Int) (w:World) (hw:∀ w',Ext w w'->K w') (hp:Vc K pv p) (hz:PZ p):CR 6 [Flat.val pv,.int .i64 room] w (λ v w'=>(eP p≠0/\v = .tuple #[.pointer none,.int .i64 (eP p)]/\Ext w w')\/(eP p=0/\(room<1\/16<room)/\v = .tuple #[.pointer none,.int .i64 1]/\Ext w w')\/
  (eP p=0/\(1<=room/\room<=16)/\∃ (b:Nat) (X:World->Prop),v = .tuple #[.pointer (some ⟨b,0,none⟩),.int .i64 0]/\mZ (sep (eR (λ w=>K w/\X w) b (xR p room)) (e9 X)) w w')):=by
 have hs:=St.start w;refine aku _ _ _ _ ?_;unfold S6;refine cZ (x:=pv) hs (λ bp w1 hs=>aF gR hs.At (eW apS (C22 p pv _ (hp.pr _ (hw _ hs.aE)) hz) ?_));rintro _ _ ⟨aa,rfl,he⟩;have hs:=hs.ext he;refine aR rfl (aR rfl (cS (aC (λ c=>?_) (λ c=>?_))))
 ·exact .inl ⟨c,rfl,hs.drop.aE⟩
 have A5:eP p=0:=by omega
 have hck:=EZ A5;have Vb:=abk hck;have Eh:=Bl p;refine eW agi (C23 room _) ?_;rintro v3 _ hh
 rcases hh with ⟨hrb,rfl,he⟩ | ⟨BA,Fc,b3,rfl,cL⟩
 ·have hs:=hs.ext he;exact aR rfl (aR rfl (cS (oB (by decide) (.inr (.inl ⟨A5,hrb,rfl,hs.drop.aE⟩)))))
 have hs:=(hs.made cL).drop;refine aR rfl (aR rfl (cS (fB (by decide) (have hs:=hs.drew;aF gR hs.At (aF gR hs.At (aF gR hs.At (dA apf hs (C24 p pv _ (hp.pr _ (hw _ hs.aE)) hz) (λ x31 _ cL hs=>?_))))))));refine ⟨fZ gR hs.p1.At,?_⟩;refine ⟨fZ gR hs.p1.At,?_⟩;refine dA aph hs (C25 p pv _ (hp.pr _ (hw _ hs.aE)) hz) (λ x33 _ cL hs=>?_);refine ⟨fZ gR hs.p2.At,?_⟩;obtain ⟨svk,rfl⟩:=(hs).eT;obtain ⟨svc,rfl⟩:=(hs.p1).eT;refine pop (BQ _ _ _ _ _ _ _ _ _ _ _ _ _ _ _ _ _ _ _ _ _ _ _ _ _) (vy hs (λ b36 w6 hs=>aH (aA Ld (aB lL hs.hb rfl (aG nj (hs.p2).gg ?_)))))
 have hs:=hs.fy (α:=Int);have hcs:St w bD [bJ (.slice none 0 0) ([]:List Int),cP b36 (mU ⟨pv,svc,svk,0,.slice none 0 0,.slice none 0 0,.slice none 0 0,.slice none 0 0,[]⟩ (sP p room) |>.set 9 (.pointer none)),bJ (Flat.val svk) (cC p),bJ (Flat.val svc) (cM p),cP bp (Flat.enc pv)] w6:=hs;refine ⟨λ mm o y w1=>∃ k:Nat,y = .int .i64 (k:Int)/\mm=(cM p).length - k/\k<=(cM p).length/\St w bD [bJ o ((uD p).take k),cP b36 (mU ⟨pv,svc,svk,0,.slice none 0 0,.slice none 0 0,.slice none 0 0,.slice none 0 0,[]⟩ (sP p room) |>.set 9 (.pointer none)),bJ (Flat.val svk) (cC p),bJ (Flat.val svc) (cM p),cP bp (Flat.enc pv)] w1,⟨_,0,rfl,rfl,Nat.zero_le _,hcs⟩,?_⟩
 rintro mm o _ _ ⟨k,rfl,rfl,hk,hs⟩ _;have N3:(uD p).length=(cM p).length:=by unfold uD; rw [List.length_map,List.length_range]
 refine aS (aC (λ c1=>?_) (λ c1=>?_))
 ·refine aF gR hs.p4.At (bO ajD hs (C26 p pv (k:Int) _ (hp.pr _ (hw _ hs.aE)) hz) (λ _ he hs=>cO (([mD p (k:Int)]:List Int)) hs ei rfl rfl (fw rfl) (λ s49 _ hs=>?_)));have aqY:=(hs).gg;exact dw hs.p1 ei aqY (by rw [List.length_take,List.length_singleton]; omega) (by decide) (λ _ _ hs=>aT (by omega) ⟨_,by omega,k+1,rfl,rfl,by omega,by rw [<- fY (E3 (p:=p) (i:=k) (by omega))]; exact hs.p1.drop⟩)
 rw [List.take_of_length_le (by omega)] at hs;have hs:=hs.drew;refine aF gR hs.p4.At (aF gR hs.p4.At (bO apg hs (C28 p pv _ (hp.pr _ (hw _ hs.aE)) hz) (λ _ he hs=>?_)));refine ⟨fZ gR hs.p4.At,?_⟩;refine dA api hs (C29 p pv _ (hp.pr _ (hw _ hs.aE)) hz) (λ x58 _ cL hs=>?_);have hst:=wK p;have KY:(iY p).length=(ju p).length:=by unfold iY; rw [List.length_map]
 refine eW aqC (C27 (uD p) (iY p) (dX p) _ _ _ (hs.p1).gg (hs).gg (by omega) (by omega) (by omega) (λ k n h1 h2=>?_)) ?_
 ·have h3:=Uu hck h1 h2;have h4:=(List.getElem?_eq_some_iff.1 h2).1;exact ⟨h3.1,by omega,by omega⟩
 rintro v59 _ ⟨q,ov,fv,rfl,cL⟩;have hs:=((hs.made cL).split).p1.split;refine aR rfl (aR rfl (aH (aA nn (bF hs.p5 DI (fw rfl) rfl (λ Oy hs=>aA qo (aB (v:=Flat.val pv.threads) fg hs.p8.hb rfl ?_))))));have hs:=((((((((((hs.p8.drop.p5.drop.p4.drop.p3).freeze).p2).freeze).ey).p3).freeze).ey).p3).freeze).ey;obtain ⟨FF,hs,hX⟩:=hs.MU;have hs:=hs.FZ (H:=ua (λ w=>K w/\jW FF Oy w) room);have hs:=(hs.fy (α:=Ptr)).fy (α:=Int)
 have hs:St w bD (cP b36 (mU ⟨pv,svc,svk,q,Flat.val ov,Flat.val fv,.slice none 0 0,.slice none 0 0,[]⟩ (sP p room))::fb q (Flat.val ov) (Flat.val fv) (T7 (uD p) (dX p) (iY p))::bJ (.slice none 0 0) ([]:List Int)::bJ (.slice none 0 0) ([]:List Ptr)::gw (ua (λ w=>K w/\jW FF Oy w) room) [] []::e9 (jW FF Oy)::[]) Oy:=by
  have h1:=(hs.p5).p5;exact h1
 obtain ⟨vl,ht1,ht2⟩:=hp.th;obtain ⟨tvr,hr3,hr4⟩:=hp.rc;have hs:=eR.shut (K:=(λ w=>K w/\jW FF Oy w)) (m:=sP p room) ⟨λ w' h=>hp.pr w' h.1,λ w' h=>?_,λ w' h=>?_,λ w' h=>⟨?_,?_⟩,⟨tvr,λ w' h=>hr3 w' h.1,hr4.mono λ _ h=>h.1⟩⟩ hs;rotate_left
 ·have:=hX w' h.2; first | exact this.1 | exact this.2 | exact this.2.1 | exact this.2.2 | exact this.2.2.1 | exact this.2.2.2
 ·have:=hX w' h.2; first | exact this.1 | exact this.2 | exact this.2.1 | exact this.2.2 | exact this.2.2.1 | exact this.2.2.2
 ·have:=hX w' h.2; first | exact this.1 | exact this.2 | exact this.2.1 | exact this.2.2 | exact this.2.2.1 | exact this.2.2.2
 ·have:=hX w' h.2; first | exact this.1 | exact this.2 | exact this.2.1 | exact this.2.2 | exact this.2.2.1 | exact this.2.2.2
 refine cX akw hs (H':=λ _=>eR (λ w=>K w/\jW FF Oy w) b36 (xR p room)) (Φ:=λ _ _=>True) (λ F2 jq gz=>?_) ?_
 ·exact (C30 (λ w=>K w/\jW FF Oy w) b36 (sP p room) p.threads _ vl F2 _ jq (λ w' hc=>⟨hw _ (gz w' hc).aE,(gz w' hc).e9⟩) ⟨BA,Fc⟩ (by have:=hz.dL; show (cC p).length<=_; unfold cC; rw [List.length_map]; omega) (λ w' hc=>ht1 w' (hw _ (gz w' hc).aE)) (ht2.mono λ _ h=>h.1)
   (λ _ ht=>⟨E1 hck (List.mem_append_left _ ht),Na hck (List.mem_append_left _ ht)⟩) (by have:=hz.threads; omega)).mono λ _ _ r=>r.mono λ _ _ h=>⟨trivial,h.2⟩
 rintro _ _ _ hs;exact .inr (.inr ⟨A5,⟨BA,Fc⟩,b36,jW FF Oy,rfl,(St.join hs).fresh⟩)
theorem C7 (K:World->Prop) (p:Nat) (m:iu) (q:ef) (gc:SV) (F:Nat->Prop) (w:World) (hF:(eR K p m).p w F) (hK:∀ w',gM F w w'->K w') (ry:pj m) (hck:M8 m.p) (Pz:MB m.mem 1000000) (hcb:0<=m.bY/\m.bY<=1000000) (O0:∀ w',gM F w w'->dx (λ _=>True) w' (Flat.val gc) q.cut) (hql:q.cut.length<=1000) :
   CR 7 [.pointer (some ⟨p,0,none⟩),Flat.val (⟨q.kind,q.t,q.i,gc⟩:dT)] w (λ v w'=>v = .tuple #[Flat.val (qd m q).2.1,.int .i64 (qd m q).2.2]/\ti F (eR K p (qd m q).1) w w'):=by
 have hs:=St.begin hF;refine akr _ _ _ _ ?_;unfold S7;refine cZ (x:=(⟨q.kind,q.t,q.i,gc⟩:dT)) hs (λ b3 w1 hs=>aN hs qp (λ b4 _ hs=>?_));have hs:=hs.enc (cs':=Flat.enc (⟨0,0,0,0,0⟩:dC)) rfl;refine ⟨λ jv w'=>jv = .bool (jH m q).isSome/\St w F [eR K p (Vd m q),cP b4 (Flat.enc (⟨0,0,0,0,0⟩:dC)),cP b3 (Flat.enc (⟨q.kind,q.t,q.i,gc⟩:dT))] w',?_,?_⟩
 ·have hs:=hs.drew
  have eA:∀ w',jH m q=none->St w F [eR K p m,cP b4 (Flat.enc (⟨0,0,0,0,0⟩:dC)),cP b3 (Flat.enc (⟨q.kind,q.t,q.i,gc⟩:dT))] w'->(Value.bool false = .bool (jH m q).isSome/\St w F [eR K p (Vd m q),cP b4 (Flat.enc (⟨0,0,0,0,0⟩:dC)),cP b3 (Flat.enc (⟨q.kind,q.t,q.i,gc⟩:dT))] w'):=λ w' h1 h2=>by
   have e:Vd m q=m:=by unfold Vd; rw [h1]
   rw [h1,e]; exact ⟨rfl,h2⟩
  have hpd:jH m q=(if q.kind=3/\q.t=0/\q.i=0/\m.fault=0 then gn m.mem q.cut else none):=rfl;refine aA td (aB (v:=.int .i64 q.kind) cK hs.p1.hb rfl (aI (aC (λ c1=>?_) (λ _=>eA _ (by rw [hpd,if_neg (by omega)]) (hs.p2)))));refine aA mf (aB (v:=.int .i64 q.t) cK hs.p1.hb rfl (aI (aC (λ c2=>?_) (λ _=>eA _ (by rw [hpd,if_neg (by omega)]) (hs.p2)))));refine aA te (aB (v:=.int .i64 q.i) cK hs.p1.hb rfl (aI (aC (λ c3=>?_) (λ _=>eA _ (by rw [hpd,if_neg (by omega)]) (hs.p2)))));have hs:=hs.p2;obtain ⟨a,hu,hs⟩:=eR.open hs;have wM:=hs.p4.js;refine aH (aA qx (aB cK hs.hb rfl (aI (aC (λ c4=>?_) (λ _=>eA _ (by rw [hpd,if_neg (by omega)]) (eR.shut hu hs))))))
  have hpi:jH m q=gn m.mem q.cut:=by rw [hpd,if_pos ⟨c1,c2,c3,c4⟩]
  refine aH (aA nn (aB DI hs.hb rfl (aA oz (aB (v:=Flat.val (gc:SV)) fT hs.p6.hb rfl (have hs:=hs.p1;cX am8 hs (H':=λ v=>yJ λ m2=>fact (Nb m.mem q.cut v m2) (fb a.q a.ov a.fv m2)) (Φ:=λ _ _=>True) (λ F2 jq gz=>?_) ?_)))))
  ·exact (C31 a.q a.ov a.fv m.mem F2 q.cut _ _ jq (λ w' hc=>hu.mem _ (hK w' (gz w' hc).aE)) ry.mem Pz (λ w' hc=>O0 w' (gz w' hc).aE) hql).mono λ _ _ r=>r.mono λ _ _ h=>KB h
  rintro v34 _ _ hs9;obtain ⟨m2c,hs8⟩:=hs9.eH
  clear hs9
  obtain ⟨hcf,hs7⟩:=hs8.vN
  clear hs8
  rcases hcf with ⟨him,rfl,rfl⟩ | ⟨mT,him,rfl,rfl⟩
  ·have hs:=hs7;exact aI (have hs:=hs.p4.p4.p4.p3.p4;eA _ (hpi.trans him) (eR.shut hu hs))
  have hs:=hs7;refine aI ?_;have QD:=hpi.trans him;have e:Vd m q={m with mem:=l5 m.mem mT}:=by unfold Vd; rw [QD]
  rw [QD,e];have hs:=hs.p4.p4.p4.p3.p4;exact ⟨rfl,eR.shut (m:={m with mem:=l5 m.mem mT}) ⟨hu.pr,hu.cs,hu.ks,hu.mem,hu.rc⟩ hs⟩
 rintro _ _ ⟨rfl,hs⟩ _;refine bI (λ c=>?_) (λ c=>?_)
 ·obtain ⟨mT,QD⟩:=Option.isSome_iff_exists.1 c;have e:Vd m q={m with mem:=l5 m.mem mT}:=by unfold Vd; rw [QD]
  have hdo:qd m q=(l8 (qV m mT) (sO m),⟨15,0,0,wG q.cut q.cut.length,0⟩,0):=by unfold qd; rw [QD]
  rw [e] at hs;rw [hdo];obtain ⟨a,hu,hs⟩:=eR.open hs;have wM:=hs.p4.js;refine aH (aA DN (aB cK hs.hb rfl (aT (show -9223372036854775808<=m.bY+1/\m.bY+1<=9223372036854775807 by omega) (aH (aA DN (bF hs cK (fw rfl) rfl (λ _ hs=>?_)))))));obtain ⟨tvr,hr3,hr4⟩:=id hu.rc;have GH:=hr4.1;refine aH (aA Lc (aA sZ (aB fg hs.hb rfl ?_)));have hs:=(eR.shut (m:=qV m mT) ⟨hu.pr,hu.cs,hu.ks,hu.mem,hu.rc⟩ hs.p4.p4.p4.p4.p4).p2;have hs:=hs.p2.p2;refine ⟨λ jv w'=>∃ vl,Ia K vl (sO m)/\St w F [e9 (λ w=>K w->dx (λ _=>True) w jv vl),eR K p (qV m mT),cP b4 (Flat.enc (⟨0,0,0,0,0⟩:dC)),cP b3 (Flat.enc (⟨q.kind,q.t,q.i,gc⟩:dT))] w',?_,?_⟩
  ·refine aG iO (hr3 _ (hK _ hs.aE)) (aI (aC (λ c2=>?_) (λ c2=>?_)))
   ·refine pop (v:=Flat.val (⟨⟨#[]⟩,⟨none,0,0⟩,⟨none,0,0⟩,0⟩:bR)) (by kernel_rfl) (cO (([⟨⟨#[]⟩,⟨none,0,0⟩,⟨none,0,0⟩,0⟩]:List bR)) hs iO rfl rfl (fw rfl) (λ s54 _ hs=>?_));refine ⟨_,?_,(hs.freeze).fC (Ψ:=λ w=>K w->dx (λ _=>True) w s54 [(⟨⟨#[]⟩,⟨none,0,0⟩,⟨none,0,0⟩,0⟩:bR)]) λ _ h _=>h⟩;have Fp:sO m=[⟨⟨#[]⟩,[],[],0⟩]:=by unfold sO; rw [if_pos (by have:tvr.length=m.p.recover.length:=GH; omega)]
    rw [Fp]; exact ak4 K
   have Fp:sO m=m.p.recover:=by unfold sO; rw [if_neg (by have:tvr.length=m.p.recover.length:=GH; omega)]
   exact ⟨tvr,by rw [Fp]; exact hr4,hs.rZ λ w h=>hr3 w h⟩
  rintro rv _ ⟨vl,htv,hs⟩ _;obtain ⟨hrc1,aq0⟩:=M9 hck;refine cX akw hs.p1 (H':=λ _=>eR K p (l8 (qV m mT) (sO m))) (Φ:=λ _ _=>True) (λ F2 jq gz=>?_) ?_
  ·refine (C30 K p (qV m mT) (sO m) _ vl F2 _ jq (λ w' hc=>hK w' (gz w' hc).aE) ry.rm (by have:=ry.pz.dL; show (cC m.p).length<=_; unfold cC; rw [List.length_map]; omega) (λ w' hc=>(gz w' hc).e9 (hK w' (gz w' hc).aE)) htv (λ t ht=>⟨aq0 t ht,?_⟩) (by omega)).mono λ _ _ r=>r.mono λ _ _ h=>⟨trivial,h.2⟩;unfold sO at ht
   split at ht
   ·rw [List.mem_singleton.1 ht]; rfl
   exact Na hck (List.mem_append_right _ ht)
  rintro _ _ _ hs;exact aA oz (aB (v:=Flat.val (gc:SV)) fT hs.p3.hb rfl (bO aqy hs (C32 _ q.cut _ (O0 _ hs.aE) (by omega)) (λ _ _ hs=>pop (OS 15 (wG q.cut q.cut.length)) (aO (x:=(⟨15,0,0,wG q.cut q.cut.length,0⟩:dC)) hs.p2 iz rfl rfl (λ _ hs=>aF iz hs.At ⟨rfl,((hs.p3.drop.drop).p1.drop).mut⟩)))))
 have QD:jH m q=none:=by
  cases h:jH m q with
  | none=>rfl
  | some mT=>rw [h] at c; cases c
 have e:Vd m q=m:=by unfold Vd; rw [QD]
 have hdo:qd m q=(if (fG m).any (ru q)=true then (if q.kind=2 then (match m.l[q.t.toNat]? with | some t=>((ub m t q,A9 q.t (eo t.buf q.i),0):iu × dC × Int) | none=>(m,⟨0,0,0,0,0⟩,13)) else ((gH m q.t).1,(gH m q.t).2,0)) else (m,⟨0,0,0,0,0⟩,13)):=by unfold qd; rw [QD]; rfl
 rw [e] at hs;refine dA Zd hs (C13 K p m _ hs.has (λ _ e=>hK _ (hs.aE.then e)) ry) (λ x64 _ cL hs=>?_);have YG:=hs.p3.At
 have hfn:oD Tryz.prog _ (.func (.func 33) [].toArray [.pointer (some ⟨b3,0,none⟩)].toArray) (λ _:ef=>True) (ru q):=
  ⟨33,[],_,rfl,aqv,λ sx y w1 e1 hd2 _=>C33 y q sx b3 (⟨q.kind,q.t,q.i,gc⟩:dT) w1 hd2 (YG.ext e1) ⟨gc,rfl,DL.jS (O0 _ (hs.aE.then e1))⟩⟩
 refine bO aqX hs (C34 _ _ _ (λ _=>True) _ _ (hs).dl hfn (λ _ _=>trivial) (by have:=Bh ry; omega)) (λ _ he hs=>have hs:=hs.drop;bH (bI (λ c2=>?_) (λ c2=>?_)))
 ·rw [hdo,if_neg (by simpa using c2)];exact pop (aeS) (aO (x:=(⟨0,0,0,0,0⟩:dC)) hs.p1 iz rfl rfl (λ _ hs=>aF iz hs.At ⟨rfl,(hs.drop.p1.drop).mut⟩))
 have Dk:(fG m).any (ru q)=true:=by simpa using c2
 obtain ⟨hf0,h0,_,t,ht,hkd⟩:=aqN Dk;rw [hdo,if_pos Dk];refine aA td (aB (v:=.int .i64 q.kind) cK hs.p2.hb rfl (aI (aC (λ c3=>?_) (λ c3=>?_))))
 ·rw [if_pos c3,ht];refine aF qt hs.p2.At (cX aqu hs (H':=λ _=>eR K p (ub m t q)) (Φ:=λ v _=>v=Flat.val (A9 q.t (eo t.buf q.i))) (λ F2 jq gz=>?_) ?_)
  ·exact C35 K p m q gc t F2 _ jq (λ w' hc=>hK w' (gz w' hc).aE) ry Pz h0 ht
  rintro _ _ rfl hs;exact aO (x:=A9 q.t (eo t.buf q.i)) hs.p1 iz rfl rfl (λ _ hs=>aF iz hs.At ⟨rfl,(hs.drop.p1.drop).mut⟩)
 rw [if_neg c3]
 have Ic:vd m t=true:=by
  rcases hkd with h | h
  ·exact h.2
  ·exact absurd h.1 c3
 refine aA mf (aB (v:=.int .i64 q.t) cK hs.p2.hb rfl (cX aqt hs (H':=λ _=>eR K p (gH m q.t).1) (Φ:=λ v _=>v=Flat.val (gH m q.t).2) (λ F2 jq gz=>?_) ?_))
 ·exact C36 K p m q.t t F2 _ jq (λ w' hc=>hK w' (gz w' hc).aE) ry Pz h0 ht (λ _=>Ut Ic)
 rintro _ _ rfl hs;exact aO (x:=(gH m q.t).2) hs.p1 iz rfl rfl (λ _ hs=>aF iz hs.At ⟨rfl,(hs.drop.p1.drop).mut⟩)
theorem C88 (sv:Value) (ps:List Ptr) (g0:Nat) (first cap:List Value) (g:Nat->Bool) (w:World) (hL:dx (λ _=>True) w sv ps) (lT:Plain Tryz.prog g0) (gD:∀ (i:Nat) (s:Ptr) (w1:World),ps[i]? = some s->Ext w w1->Calls Tryz.prog g0 (first++[Flat.val s]++cap).toArray w1 (mW λ v w2=>v = .bool (g i)/\Ext w1 w2)) (hn:ps.length<=1073741824):CR 88 [sv,(.func (.func g0) first.toArray cap.toArray)] w (λ v w'=>v = .int .i64 (pE g (List.range ps.length))/\Ext w w'):=by
 have hs:=St.start w;refine aeR _ _ _ _ ?_;unfold S88;refine aG FH (hL.ext hs.aE) ?_;refine ⟨λ mm y w1=>∃ k:Nat,y = .int .i64 (k:Int)/\mm=ps.length - k/\k<=ps.length/\(∀ y∈(List.range ps.length).take k,g y=false)/\St w bD [] w1,⟨_,0,rfl,rfl,Nat.zero_le _,by simp,hs⟩,?_⟩;rintro mm _ w1 ⟨k,rfl,rfl,hk,eA,hs⟩ _;refine aS (aC (λ c1=>?_) (λ _=>⟨congrArg (Value.int .i64) (gB (by rw [List.take_of_length_le (by rw [List.length_range]; omega)] at eA; exact eA)).symm,hs.aE⟩));obtain ⟨e,he⟩:∃ e,ps[((k:Nat):Int).toNat]? = some e:=⟨_,List.getElem?_eq_getElem (by omega)⟩;refine aU FH (hL.ext hs.aE) (by omega) he (λ q hq=>aF Ny hq (ft lT (gD k e w1 he hs.aE) ?_))
 rintro _ w2 ⟨rfl,h2⟩;have hs:=hs.ext h2;exact bI (λ c2=>⟨congrArg (Value.int .i64) (jE eA (List.getElem?_range (by omega)) c2).symm,hs.aE⟩) (λ c2=>aT (by omega) ⟨_,by omega,k+1,rfl,rfl,by omega,fi eA (List.getElem?_range (by omega)) c2,hs⟩)
theorem C39 (sv:Value) (ps:List Ptr) (g0:Nat) (first cap:List Value) (g:Nat->Bool) (w:World) (hL:dx (λ _=>True) w sv ps) (lT:Plain Tryz.prog g0) (gD:∀ (i:Nat) (s:Ptr) (w1:World),ps[i]? = some s->Ext w w1->Calls Tryz.prog g0 (first++[Flat.val s]++cap).toArray w1 (mW λ v w2=>v = .bool (g i)/\Ext w1 w2)) (hn:ps.length<=1073741824):CR 39 [sv,(.func (.func g0) first.toArray cap.toArray)] w (λ v w'=>v = .bool ((List.range ps.length).any g)/\Ext w w'):=by
 have hs:=St.start w;refine aeQ _ _ _ _ ?_;unfold S39;exact bO aqA hs (C88 _ ps g0 first cap g _ (hL.ext hs.aE) lT (λ i s w1 h e=>gD i s w1 h (hs.aE.then e)) hn) (λ _ _ hs=>dO ⟨vb (iK _ _),hs.aE⟩)
theorem C37 (K Φ:World->Prop) (p:Nat) (room:Int) (t:iC) (w:World) (hh:Has (dM K Φ p room t) w) (YG:K w) (N5:t.buf.length<=1000):CR 37 [.pointer (some ⟨p,0,none⟩)] w (λ v w'=>v = .bool (!pk t)/\Ext w w'):=by
 obtain ⟨bp,nv,rg,pl,es,hk,Bd,hB,hrg,lT,EX,_⟩:=dM.rd hh;have ct3:=Bd.cell (o:=3) rfl;have hln:=EX.len;have yK:=kj es;have hs:=St.start w;refine aeN _ _ _ ?_;unfold S37;refine ⟨λ jv w'=>jv = .bool (!pk t)/\Ext w w',?_,?_⟩
 ·exact aH (aA iW (bW uN (ct3.ext hs.aE) (aG xe (lT.ext hs.aE) (er (aC (λ _=>⟨vb (by unfold pk; rw [decide_eq_false (show ¬ t.aY.length=0 from by omega)]; rfl),hs.aE⟩) (λ _=>bO akn hs (C38 K Φ p room t _ (hh.ext hs.aE) N5) (λ _ _ hs=>bH ⟨vb (by unfold pk; rw [decide_eq_true (show t.aY.length=0 from by omega),Bool.true_and]),hs.aE⟩)))))))
 rintro _ _ h _;exact h
theorem C8 (K:World->Prop) (p:Nat) (m:iu) (w:World) (hm:Has (eR K p m) w) (hw:∀ w',Ext w w'->K w') (ry:pj m):CR 8 [.pointer (some ⟨p,0,none⟩)] w (λ v w'=>v=Flat.val (iZ m)/\Ext w w'):=by
 obtain ⟨a,hr⟩:=eR.rd hm (hw _ (Ext.refl _));have aeW:=hr.b.cell (o:=11) rfl;have ak8:=hr.b.cell (o:=12) rfl;have Ie:=hr.b.cell (o:=13) rfl;have ak9:=hr.b.cell (o:=14) rfl;have hlen:=hr.len;have Qn:=ry.tl;have hs:=St.start w;refine aks _ _ _ ?_;unfold S8;refine aN hs Jb (λ b2 w1 hs=>have hs:=(hs.enc (cs':=Flat.enc (⟨0,0,0,false,false⟩:iD)) rfl).drew;aH (aA DN (bW cK (ak8.ext hs.aE) (aH (aA qx (bW cK (Ie.ext hs.aE) (aH (aA Lf (bW cK (ak9.ext hs.aE) (pop (H8 m.bY m.fault m.lI) (aN hs Jb (λ b4 _ hs=>?_))))))))))));refine ⟨aD cK (ak8.ext hs.aE),?_⟩
 refine ⟨aD cK (Ie.ext hs.aE),?_⟩;refine ⟨aD cK (ak9.ext hs.aE),?_⟩;refine aO (x:=(⟨m.bY,m.fault,m.lI,false,false⟩:iD)) hs Ja rfl rfl (λ _ hs=>?_);refine ⟨λ w'=>St w bD [cP b4 (Flat.enc (⟨m.bY,m.fault,m.lI,oM m,false⟩:iD)),cP b2 (Flat.enc (⟨0,0,0,false,false⟩:iD))] w',?_,?_⟩
 ·refine aH (aA qx (bW cK (Ie.ext hs.aE) (aI (aC (λ c1=>?_) (λ c1=>?_)))))
  ·refine aH (aA qw (bW DJ (aeW.ext hs.aE) ?_))
   refine bO aqz hs (C39 _ a.ps 37 [] [] (λ i=>match m.l[i]? with | some t=>!pk t | none=>false) _ (hr.ll.ext hs.aE) aqw (λ i s w1 h e=>by
    obtain ⟨t,ht⟩:∃ t,m.l[i]? = some t:=⟨_,List.getElem?_eq_getElem (by have:=(List.getElem?_eq_some_iff.1 h).1; omega)⟩;rw [ht];exact C37 K _ s.b m.room t w1 ((hr.th i s t h ht).ext (hs.aE.then e)) (hw _ (hs.aE.then e)) (ry.th t (List.mem_of_getElem? ht)).bl) (by omega)) (λ _ he hs=>?_)
   refine bH (aA DE (bF hs I9 (fw rfl) rfl (λ w5 hs=>?_)));have hdm:oM m = !((List.range a.ps.length).any (λ i=>match m.l[i]? with | some t=>!pk t | none=>false)):=by unfold oM; rw [decide_eq_true c1,hr.len]; rfl
   rw [hdm];exact hs
  refine aA DE (bF hs I9 (fw rfl) rfl (λ w5 hs=>?_));have hdm:oM m=false:=by unfold oM; rw [decide_eq_false c1]; rfl
  rw [hdm];exact hs
 intro _ hs _
 have ae8:∀ (b:Bool) (w':World),xQ m=b->St w bD [cP b4 (Flat.enc (⟨m.bY,m.fault,m.lI,oM m,b⟩:iD)),cP b2 (Flat.enc (⟨0,0,0,false,false⟩:iD))] w'->St w bD [cP b4 (Flat.enc (iZ m)),cP b2 (Flat.enc (⟨0,0,0,false,false⟩:iD))] w':=λ b w' h1 h2=>by
  subst h1; exact h2
 refine ⟨λ w'=>St w bD [cP b4 (Flat.enc (iZ m)),cP b2 (Flat.enc (⟨0,0,0,false,false⟩:iD))] w',?_,?_⟩
 ·refine aH (aA qx (bW cK (Ie.ext hs.aE) (aI (aC (λ c1=>?_) (λ c1=>?_)))));rotate_left
  ·exact aA DF (bF hs I9 (fw rfl) rfl (λ _ hs=>ae8 false _ (by unfold xQ; rw [decide_eq_false c1]; rfl) hs))
  refine aA DE (aB (v:=.bool (oM m)) I9 hs.hb rfl (bH (bI (λ c2=>?_) (λ c2=>?_))));rotate_left
  ·exact aA DF (bF hs I9 (fw rfl) rfl (λ _ hs=>ae8 false _ (by unfold xQ; rw [show oM m=true from by simpa using c2]; simp) hs))
  refine dA Zd hs (C13 K p m _ (hm.ext hs.aE) (λ _ e=>hw _ (hs.aE.then e)) ry) (λ x45 w7 cL hs=>?_);obtain ⟨aq2,ala,alb⟩:=(hs).dl;refine aG lV ala ?_;rw [show aq2.length=(fG m).length from alb.1];exact aI (have hs:=hs.drop;aA DF (bF hs I9 (fw rfl) rfl (λ _ hs=>ae8 (decide (((fG m).length:Int)=0)) _ (by unfold xQ; rw [decide_eq_true c1,show oM m=false from by simpa using c2]; rfl) hs)))
 intro _ hs _;exact aF (x:=iZ m) Ja hs.At (aO (x:=iZ m) hs.p1 Ja rfl rfl (λ _ hs=>aF Ja hs.At ⟨rfl,hs.drop.drop.aE⟩))
theorem Zn (m:iu) (t:iC) (i:Int) (x:aX):(dV m t i x).1.bY=m.bY:=by
 unfold dV
 repeat' split
 all_goals first | rfl | (unfold pX; split <;> rfl)
theorem Uw (m:iu) (i:Int):(gH m i).1.bY=m.bY:=by
 unfold gH
 repeat' split
 all_goals first | rfl | exact Zn _ _ _ _
theorem ae9 (m:iu) (q:ef):m.bY<=(qd m q).1.bY/\(qd m q).1.bY<=m.bY+1:=by
 unfold qd
 split
 ·show m.bY<=m.bY+1/\m.bY+1<=m.bY+1; omega
 split
 ·split
  ·split <;> (show m.bY<=m.bY/\m.bY<=m.bY+1) <;> omega
  show m.bY<=(gH m q.t).1.bY/\(gH m q.t).1.bY<=_; rw [Uw]; omega
 show m.bY<=m.bY/\m.bY<=m.bY+1; omega
structure Bm (p:bQ) (n:Nat) (m:iu):Prop where
 ok:pj m
 pr:m.p=p
 mb:MB m.mem n
 cr:0<=m.bY/\m.bY<=n
theorem Bm.step {p:bQ} {n:Nat} {m:iu} {q:ef} (h:Bm p n m) (hc:M8 p):Bm p (n+1) (qd m q).1:=by
 obtain ⟨h1,h2,h3⟩:=ae2 (q:=q) h.ok (h.pr▸hc)
 have h4:=ae9 m q
 have h5:=h.cr
 exact ⟨h1,h2.trans h.pr,h3 _ h.mb,by omega,by omega⟩
theorem Bm.new {p:bQ} {room:Int} (hz:PZ p) (hc:M8 p) (hr:1<=room/\room<=16):Bm p 0 (xR p room):=
 ⟨Zl hz hc hr,rfl,λ k=>Nat.le_of_eq rfl,Int.le_refl 0,Int.le_refl 0⟩
theorem aq3 (x y:dC):lR (Flat.enc x) (Flat.enc y)=decide (x=y):=by
 obtain ⟨a,b,c,d,e⟩:=x
 obtain ⟨a2,b2,c2,d2,e2⟩:=y
 rw [show lR (Flat.enc (⟨a,b,c,d,e⟩:dC)) (Flat.enc (⟨a2,b2,c2,d2,e2⟩:dC))=(decide (a=a2) && (decide (b=b2) && (decide (c=c2) && (decide (d=d2) && (decide (e=e2) && true))))) from rfl]
 simp only [dC.mk.injEq,Bool.decide_and,Bool.and_true]
theorem aq4 (x y:iD):lR (Flat.enc x) (Flat.enc y)=decide (x=y):=by
 obtain ⟨a,b,c,d,e⟩:=x
 obtain ⟨a2,b2,c2,d2,e2⟩:=y
 rw [show lR (Flat.enc (⟨a,b,c,d,e⟩:iD)) (Flat.enc (⟨a2,b2,c2,d2,e2⟩:iD))=(decide (a=a2) && (decide (b=b2) && (decide (c=c2) && ((d == d2) && ((e == e2) && true))))) from rfl]
 simp only [iD.mk.injEq,Bool.decide_and,Bool.and_true,<- Bool.beq_eq_decide_eq]
theorem Zo (x y:aW) (h:Flat.enc x=Flat.enc y):x=y:=by
 obtain ⟨a,b,c,⟨d,n,k⟩,⟨d1,n1,k1⟩,e,f,g,i⟩:=x
 obtain ⟨a2,b2,c2,⟨d2,n2,k2⟩,⟨d3,n3,k3⟩,e2,f2,g2,i2⟩:=y
 simp [Flat.enc,Flat.val] at h
 simp [h]
theorem Zp (x y:bR) (h:Flat.enc x=Flat.enc y):x=y:=by
 obtain ⟨a,⟨d,n,k⟩,⟨d1,n1,k1⟩,e⟩:=x
 obtain ⟨a2,⟨d2,n2,k2⟩,⟨d3,n3,k3⟩,e2⟩:=y
 simp [Flat.enc,Flat.val] at h
 simp [h]
theorem Db.of {FF:Nat->Prop} {w:World} {lv:SV} {uw:List bV} (h:∀ w',jW FF w w'->DL w' (Flat.val lv) uw):Db (jW FF w) lv uw:=by
 obtain ⟨vl,hl,ht⟩:=jW.fix Zp h
 refine ⟨vl,λ w' hw=>(ht w' hw).1,hl,λ j tv t h1 h2=>?_⟩
 have hd:∀ w',jW FF w w'->Deep.dr w' tv t:=λ w' hw=>(ht w' hw).2.2 j tv t h1 h2
 obtain ⟨gr,gb,rfl,_,_⟩:=hd w (jW.refl _ _)
 have hd2:∀ w',jW FF w w'->DL w' (Flat.val gr) t.cW/\DL w' (Flat.val gb) t.body:=λ w' hw=>by
  obtain ⟨gr2,gb2,e,h4,h5⟩:=hd w' hw
  cases e
  exact ⟨h4,h5⟩
 obtain ⟨rows,_,hr⟩:=jW.fix Zo λ w' hw=>(hd2 w' hw).2
 exact ⟨gr,gb,rows,rfl,λ w' hw=>DL.flat (hd2 w' hw).1,λ w'=>⟨λ w2 hw=>(hr w2 hw).2,λ hw=>(hr w' hw).1⟩⟩
theorem Vc.of {FF:Nat->Prop} {w:World} {pv:bE} {p:bQ} (h:∀ w',jW FF w w'->Deep.dr w' pv p):Vc (jW FF w) pv p:=by
 obtain ⟨g0,g1,g2,g3,g4,g5,rfl,_⟩:=h w (jW.refl _ _)
 have hd:∀ w',jW FF w w'->DL w' (Flat.val g3) p.threads/\DL w' (Flat.val g4) p.recover:=λ w' hw=>by
  obtain ⟨a0,a1,a2,a3,a4,a5,e,_,_,_,h4,h5,_⟩:=h w' hw
  cases e
  exact ⟨h4,h5⟩
 exact ⟨h,Db.of λ w' hw=>(hd w' hw).1,Db.of λ w' hw=>(hd w' hw).2⟩
def gX (x:bL):bL:={x with at_:=0}
def jO (x:aX):aX:={x with e:=x.e.map gX,f:=x.f.map gX,at_:=0}
def gY (x:bP):bP:={x with at_:=0}
def fH (t:bV):bV:=⟨t.name,t.cW,t.body.map jO,0⟩
def E4 (c:gO):gO:=⟨c.e.map gX,0⟩
def iv (p:bQ):bQ:=⟨p.lines.map (·.map gY),p.fr.map gY,p.dL.map gY,p.threads.map fH,p.recover.map fH,p.dF.map E4⟩
def oN:Ex->Ex
 | .leaf x=>.leaf (gX x)
 | .un x a=>.un (gX x) (oN a)
 | .bin x a b=>.bin (gX x) (oN a) (oN b)
theorem KC (t:Ex):(oN t).flat=t.flat.map gX:=by
 induction t with
 | leaf x=>rfl
 | un x a ih=>simp only [oN,Ex.flat,List.map_cons,ih]
 | bin x a b sm sn=>simp only [oN,Ex.flat,List.map_cons,List.map_append,sm,sn]
theorem Ux (t:Ex) (h:t.wf):(oN t).wf:=by
 induction t with
 | leaf x=>exact h
 | un x a ih=>exact ⟨h.1,ih h.2⟩
 | bin x a b sm sn=>exact ⟨h.1,sm h.2.1,sn h.2.2⟩
theorem Ik (ns:List ByteArray) (t:Ex):(oN t).steps ns=t.steps ns:=by
 induction t with
 | leaf x=>rfl
 | un x a ih=>simp only [oN,Ex.steps,ih]; rfl
 | bin x a b sm sn=>simp only [oN,Ex.steps,sm,sn]; rfl
theorem Il (t:Ex):(oN t).depth=t.depth:=by
 induction t with
 | leaf x=>rfl
 | un x a ih=>simp only [oN,Ex.depth,ih]
 | bin x a b sm sn=>simp only [oN,Ex.depth,sm,sn]
theorem Dc {l:List bL} {t:Ex} (h:vV l=some t):vV (l.map gX)=some (oN t):=by
 obtain ⟨h1,rfl⟩:=uQ h
 rw [<- KC]
 exact Cn (Ux t h1)
theorem Dd {l:List bL} (h:eF l=true):∃ t,vV l=some t:=by
 unfold eF at h
 simp only [Bool.and_eq_true] at h
 exact Option.isSome_iff_exists.1 h.1.1.2
theorem O1 {ns:List ByteArray} {Es:List Int} {l:List bL} (h:eF l=true) (h2:eF (l.map gX)=true):wq ns Es (l.map gX)=wq ns Es l:=by
 obtain ⟨t,ht⟩:=Dd h
 have ht2:=Dc ht
 have e1:nR ns (l.map gX)=nR ns l:=by
  unfold nR
  rw [h,h2,List.any_map]
  rfl
 have e2:uq ns (l.map gX)=uq ns l:=by
  unfold uq D2
  rw [e1,ht,ht2]
  dsimp only
  rw [Ik]
 unfold wq
 rw [e1,e2]
theorem O2 {x:bL} (h:vX x=false):vX (gX x)=false:=by
 unfold vX at h |-
 unfold gX
 simp only [Bool.or_eq_false_iff] at h |-
 grind
theorem Im {l:List bL} (h:eF l=true):eF (l.map gX)=true:=by
 obtain ⟨t,ht⟩:=Dd h
 have ht2:=Dc ht
 unfold eF at h |-
 unfold LA at h |-
 rw [ht] at h
 rw [ht2]
 simp only [Bool.and_eq_true,decide_eq_true_eq,Bool.not_eq_true',List.length_map] at h |-
 obtain ⟨⟨⟨h1,h2⟩,h3⟩,h4⟩:=h
 refine ⟨⟨⟨h1,rfl⟩,?_⟩,by rw [Il]; exact h4⟩
 rw [List.any_map]
 rw [List.any_eq_false] at h3 |-
 intro x hx
 have:=O2 (by simpa using h3 x hx:vX x=false)
 simpa using this
def Nc (x:aX):Prop:=(x.e=[]\/eF x.e=true)/\(x.f=[]\/eF x.f=true)
def iw:Bk->Bk
 | .nil=>.nil
 | .cons x a b r=>.cons (jO x) (iw a) (iw b) (iw r)
def iy (p:PD):PD:=p.map λ q=>(iw q.1,q.2)
def fK (t:iC):iC:={t with aY:=iy t.aY}
def EP (p:PD):Prop:=∀ q∈p,mS Nc q.1
theorem KD (b:Bk):(iw b).flat=b.flat.map jO:=by
 induction b with
 | nil=>rfl
 | cons x a b r sm sn IK=>simp only [iw,Bk.flat,List.map_cons,List.map_append,sm,sn,IK]
theorem O3 (b:Bk):(iw b).len=b.len:=by
 induction b with
 | nil=>rfl
 | cons x a b r sm sn IK=>simp only [iw,Bk.len,sm,sn,IK]
theorem O4 (b:Bk) (h:b.str):(iw b).str:=by
 induction b with
 | nil=>trivial
 | cons x a b r sm sn IK=>
  obtain ⟨h1,h2,h3,h4,h5,h6,h7⟩:=h
  refine ⟨?_,?_,?_,?_,sm h5,sn h6,IK h7⟩ <;> rw [O3] <;> assumption
theorem O5 {l:List aX} {b:Bk} (h:lM l=some b):lM (l.map jO)=some (iw b):=by
 obtain ⟨rfl,h2⟩:=iX h
 rw [<- KD]
 exact kL (O4 b h2)
theorem KE (b:Bk):fF (iw b)=fF b:=by
 induction b with
 | nil=>rfl
 | cons x a b r sm sn IK=>simp only [iw,fF,sm,sn,IK]; rfl
theorem KF (p:PD):eY (iy p)=eY p:=by
 unfold eY iy
 rw [List.map_map]
 congr 1
 refine List.map_congr_left λ q _=>KE q.1
theorem qX (b:Bk) (e:Bool) (p:PD):gW (iw b) e (iy p)=iy (gW b e p):=by cases b <;> rfl
theorem nF (p:PD):fV (iy p)=iy (fV p):=by
 match p with
 | []=>rfl
 | (.nil,e)::p=>rfl
 | (.cons x a b r,e)::p=>exact qX r false p
theorem yE:∀ p:PD,ij (iy p)=iy (ij p)
 | []=>rfl
 | (b,e)::p=>by
  have ih:=yE p
  show (if e=true then iy p else ij (iy p))=iy (if e=true then p else ij p)
  split
  ·rfl
  ·exact ih
theorem xS (p:PD):l6 (iy p)=(l6 p).map λ q=>(jO q.1,iw q.2.1,iw q.2.2):=by
 match p with
 | []=>rfl
 | (.nil,e)::p=>rfl
 | (.cons x a b r,e)::p=>rfl
theorem Io (x:aX) (a:Bk) (p:PD):kD (jO x) (iw a) (iy p)=iy (kD x a p):=by
 unfold kD
 show (if x.n=0 then _ else _)=_
 split
 ·exact nF p
 rw [nF]
 exact qX a false ((.cons {x with n:=x.n - 1} a .nil .nil,true)::fV p)
theorem tI {t:iC} {l:List bL} (h:l=[]\/eF l=true):dZ (fK t) (l.map gX)=dZ t l:=by
 rcases h with rfl | h
 ·rfl
 unfold dZ
 rw [List.length_map]
 show (if l.length=0 then (0,true) else ((wq t.names t.cW (l.map gX)).1,decide ((wq t.names t.cW (l.map gX)).2=0)))=_
 rw [O1 h (Im h)]
section
variable {p:PD} {b:Bk} {e:Bool} {x:aX} {a:Bk} {t:iC} {n:Int}
theorem EP.push (h:EP p) (hb:mS Nc b):EP (gW b e p):=by
 cases b with
 | nil=>exact h
 | cons x c d r=>
  intro q hq
  rcases List.mem_cons.1 hq with rfl | hq
  ·exact hb
  ·exact h q hq
theorem EP.pop (h:EP p):EP (fV p):=by
 match p,h with
 | [],h=>exact h
 | (.nil,_)::p,h=>exact λ q hq=>h q (List.mem_cons_of_mem _ hq)
 | (.cons x a b r,_)::p,h=>exact EP.push (λ q hq=>h q (List.mem_cons_of_mem _ hq)) (h _ (List.mem_cons_self ..)).2.2.2
theorem EP.leave:∀ {p:PD},EP p->EP (ij p)
 | [],h=>h
 | (_,e)::p,h=>by
  have ht:EP p:=λ q hq=>h q (List.mem_cons_of_mem _ hq)
  unfold ij; split
  ·exact ht
  ·exact ht.leave
theorem EP.top {y:aX × Bk × Bk} (h:EP p) (ht:l6 p=some y):Nc y.1/\mS Nc y.2.1/\mS Nc y.2.2:=by
 match p,h,ht with
 | (.cons x a b r,e)::p,h,ht=>cases ht; have:=h _ (List.mem_cons_self ..); exact ⟨this.1,this.2.1,this.2.2.1⟩
theorem EP.round (h:EP p) (hx:Nc x) (ha:mS Nc a):EP (kD x a p):=by
 unfold kD
 split
 ·exact h.pop
 refine EP.push (λ q hq=>?_) ha
 rcases List.mem_cons.1 hq with rfl | hq
 ·exact ⟨hx,ha,trivial,trivial⟩
 exact h.pop q hq
theorem O6 {b:Bk} (h:EP t.aY) (hx:Nc x) (ha:mS Nc a) (hb:mS Nc b):kT (fK t) (jO x) (iw a) (iw b) n=(fK (kT t x a b n).1,(kT t x a b n).2)/\EP (kT t x a b n).1.aY:=by
 unfold kT
 show (if x.kind=1 then _ else if x.kind=11 then _ else if x.kind=12 then _ else if x.kind=13 then _ else if x.kind=14 then _ else _)=_/\_
 split
 ·refine ⟨?_,h.pop⟩
  show (({pg t x.eB n with aY:=fV (iy t.aY)}:iC),true)=_
  rw [nF]; rfl
 split
 ·refine ⟨?_,EP.push h.pop (by split <;> assumption)⟩
  show (({t with aY:=gW (if n=0 then iw b else iw a) false (fV (iy t.aY))}:iC),true)=_
  rw [nF,show (if n=0 then iw b else iw a)=iw (if n=0 then b else a) from by split <;> rfl,qX]; rfl
 split
 ·refine ⟨?_,EP.round h hx ha⟩
  show (({t with aY:=kD (jO x) (iw a) (iy t.aY)}:iC),true)=_
  rw [Io]; rfl
 split
 ·refine ⟨?_,h.leave⟩
  show (({t with aY:=ij (iy t.aY)}:iC),true)=_
  rw [yE]; rfl
 split
 ·split
  ·exact ⟨rfl,h⟩
  refine ⟨?_,h.pop⟩
  show (({t with aY:=fV (iy t.aY)}:iC),true)=_
  rw [nF]; rfl
 exact ⟨rfl,h⟩
theorem O7 (h:EP t.aY):lP (fK t)=(fK (lP t).1,(lP t).2)/\EP (lP t).1.aY:=by
 unfold lP
 show (match l6 (iy t.aY) with | none=>_ | some (x,a,b)=>_)=_/\_
 rw [xS]
 cases ht:l6 t.aY with
 | none=>exact ⟨rfl,h⟩
 | some q=>
  obtain ⟨x,a,b⟩:=q
  obtain ⟨h1,h2,h3⟩:=h.top ht
  dsimp only [Option.map]
  show (if (dZ (fK t) (x.e.map gX)).2=true/\(dZ (fK t) (x.f.map gX)).2=true then kT (fK t) (jO x) (iw a) (iw b) (dZ (fK t) (x.e.map gX)).1 else _)=_/\_
  rw [tI h1.1,tI h1.2]
  split
  ·exact O6 h h1 h2 h3
  ·exact ⟨rfl,h⟩
theorem De:∀ (n:Nat) {t:iC},EP t.aY->ou n (fK t)=(ou n t).map fK/\∀ tR,ou n t=some tR->EP tR.aY
 | 0,_,_=>⟨rfl,λ _ h=>by cases h⟩
 | n+1,t,h=>by
  obtain ⟨h1,h2⟩:=O7 h
  unfold ou
  rw [h1]
  dsimp only
  split
  ·exact De n h2
  ·exact ⟨rfl,λ tR hR=>by cases hR; exact h2⟩
theorem Ip (h:EP t.aY):Py (fK t)=fK (Py t)/\EP (Py t).aY:=by
 unfold Py
 obtain ⟨h1,h2⟩:=De (eY t.aY+1) h
 show (ou (eY (iy t.aY)+1) (fK t)).getD (fK t)=_/\_
 rw [KF,h1]
 cases hg:ou (eY t.aY+1) t with
 | none=>exact ⟨rfl,h⟩
 | some tR=>exact ⟨rfl,h2 tR hg⟩
end
def dN (m:iu):iu:={m with p:=iv m.p,l:=m.l.map fK}
theorem xU (p:bQ):ju (iv p)=(ju p).map gY:=by
 unfold ju
 show (p.lines.map (·.map gY)).flatten++p.fr.map gY=_
 rw [List.map_append,List.map_flatten]
theorem yF (p:bQ):cM (iv p)=cM p:=by
 unfold cM; rw [xU,List.map_map]; rfl
theorem Iq (p:bQ):iY (iv p)=iY p:=by
 unfold iY; rw [xU,List.map_map]; rfl
theorem sQ (p:bQ):cC (iv p)=cC p:=by
 unfold cC
 show (p.dL.map gY).map bP.name=_
 rw [List.map_map]; rfl
theorem KG (p:bQ):dX (iv p)=dX p:=by
 unfold dX
 show (((p.lines.map (·.map gY)).flatten.length:Nat):Int)=_
 rw [<- List.map_flatten,List.length_map]
theorem Bn:∀ (ls:List (List bP)) (i a:Int),gi (ls.map (·.map gY)) i a=gi ls i a
 | [],_,_=>rfl
 | l::r,i,a=>by
  rw [List.map_cons,gi,gi,List.length_map,Bn r]
theorem Df (p:bQ) (c:Int):mD (iv p) c=mD p c:=by
 unfold mD
 rw [xU,List.length_map,show (iv p).lines=p.lines.map (λ l=>l.map gY) from rfl,Bn]
theorem Uy (p:bQ):uD (iv p)=uD p:=by
 unfold uD
 rw [yF]
 exact List.map_congr_left λ k _=>Df p k
section
variable {m:iu} {t:iC} {x:aX} {i:Int} {q:ef}
theorem qY:fR (dN m) (jO x)=fR m x:=by
 unfold fR
 show cI (cM (iv m.p)) x.name=_
 rw [yF]
theorem qZ:gj (dN m) (jO x)=gj m x:=by
 unfold gj
 show cI (cC (iv m.p)) x.name=_
 rw [sQ]
theorem KH:gN (dN m) (jO x)=gN m x:=by
 unfold gN
 rw [qY]
 exact Df m.p _
theorem O8:vd (dN m) (fK t)=vd m t:=by
 unfold vd
 show (match l6 (iy t.aY) with | none=>false | some (x,_,_)=>_)=_
 rw [xS]
 cases l6 t.aY with
 | none=>rfl
 | some y=>
  obtain ⟨x,a,b⟩:=y
  show (if t.fault≠0\/x.kind=2 then true else if x.kind=3\/x.kind=5\/x.kind=6\/x.kind=7 then !decide (m.room<=t.buf.length) else if x.kind=9/\m.eM.getD (cI (cC (iv m.p)) x.name).toNat 0≠-1 then false else decide (t.buf.length=0))=_
  rw [sQ]
theorem tJ (n:Nat):(dN m).l[n]? = (m.l[n]?).map fK:=List.getElem?_map
theorem vg:fG (dN m)=fG m:=by
 have h:∀ k,fm (dN m) k=fm m k:=λ k=>by
  unfold fm
  congr 1
  funext n
  rw [tJ]
  cases m.l[n]? with
  | none=>rfl
  | some t=>
   show km (dN m) n (fK t)=km m n t
   unfold km
   rw [O8]; rfl
 unfold fG
 show (if m.fault≠0 then [] else fm (dN m) (m.l.map fK).length)=_
 rw [h,List.length_map]
theorem O9:oM (dN m)=oM m:=by
 unfold oM
 refine congrArg (λ b=>decide (m.fault=0) && !b) ?_
 rw [show (dN m).l.length=m.l.length from List.length_map ..]
 congr 1
 funext n
 rw [tJ]
 cases m.l[n]? with
 | none=>rfl
 | some t=>
  show (!pk (fK t)) = !pk t
  unfold pk
  show (!(decide ((iy t.aY).length=0) && _))=_
  unfold iy
  rw [List.length_map]; rfl
theorem Ir:iZ (dN m)=iZ m:=by
 unfold iZ xQ
 rw [O9,vg]; rfl
theorem Is (hx:Nc x):dV (dN m) (fK t) i (jO x)=(dN (dV m t i x).1,fK (dV m t i x).2.1,(dV m t i x).2.2):=by
 have v1:dZ (fK t) (jO x).e=dZ t x.e:=tI hx.1
 have v2:dZ (fK t) (jO x).f=dZ t x.f:=tI hx.2
 unfold dV
 show (if x.kind=2 then _ else if x.kind=3 then _ else if x.kind=5 then _ else if x.kind=6 then _ else if x.kind=7 then _ else if x.kind=8 then _ else if x.kind=4 then _ else if x.kind=9 then _ else _)=_
 rw [qY,KH,qZ,v1]
 split
 ·unfold Bi; rw [qY]; rfl
 split
 ·rfl
 split
 ·rfl
 split
 ·rfl
 split
 ·rfl
 split
 ·rfl
 split
 ·unfold pX uC
  rw [qY,v1,v2]
  show ((if kQ m.mem (fR m x)=(dZ t x.e).1 then _ else _),_,(if kQ m.mem (fR m x)=(dZ t x.e).1 then _ else _))=_
  split <;> rfl
 split
 ·unfold oL; rw [qZ]; rfl
 unfold oL; rw [qZ]; rfl
def EM (m:iu):Prop:=∀ t∈m.l,EP t.aY
theorem Uz:(dV m t i x).2.1.aY=t.aY/\(dV m t i x).1.l=m.l:=by
 unfold dV
 repeat' split
 all_goals first | exact ⟨rfl,rfl⟩ | (refine ⟨rfl,?_⟩; unfold pX; split <;> rfl)
theorem UA {k:Nat} {l:List iC}:(l.map fK).set k (fK t)=(l.set k t).map fK:=by rw [List.map_set]
theorem Nd {k:Nat} {l:List iC} {y:iC} (h:y∈l.set k t):y∈l\/y=t:=List.mem_or_eq_of_mem_set h
theorem Pa (h:EM m):gH (dN m) i=(dN (gH m i).1,(gH m i).2)/\EM (gH m i).1:=by
 unfold gH
 rw [tJ]
 cases ht:m.l[i.toNat]? with
 | none=>exact ⟨rfl,h⟩
 | some t=>
  have hp:=h t (List.mem_of_getElem? ht)
  dsimp only [Option.map]
  show (if t.fault≠0 then _ else match l6 (iy t.aY) with | none=>_ | some (x,_,_)=>_)=_/\_
  rw [xS]
  split
  ·exact ⟨rfl,h⟩
  cases hq:l6 t.aY with
  | none=>exact ⟨rfl,h⟩
  | some y=>
   obtain ⟨x,a,b⟩:=y
   have hx:=(hp.top hq).1
   dsimp only [Option.map]
   show (if x.kind=10/\m.eM.getD (gj (dN m) (jO x)).toNat 0≠i then _ else _)=_/\_
   rw [qZ]
   split
   ·exact ⟨rfl,h⟩
   have e1:mV (dN m) (fK t) i (jO x)=fK (mV m t i x)/\EP (mV m t i x).aY:=by
    unfold mV
    rw [Is hx]
    have hpp:EP ({ (dV m t i x).2.1 with aY:=fV (dV m t i x).2.1.aY}:iC).aY:=by
     show EP (fV (dV m t i x).2.1.aY)
     rw [Uz.1]; exact hp.pop
    have:=Ip hpp
    refine ⟨?_,this.2⟩
    rw [<- this.1]
    show Py ({ (dV m t i x).2.1 with aY:=fV (iy (dV m t i x).2.1.aY)}:iC)=_
    rw [nF]; rfl
   refine ⟨?_,λ y hy=>?_⟩
   ·rw [e1.1,Is hx]
    show (({dN (dV m t i x).1 with l:=(m.l.map fK).set i.toNat (fK (mV m t i x))}:iu),_)=_
    rw [UA]; rfl
   ·rcases Nd hy with hy | rfl
    ·exact h y hy
    ·exact e1.2
theorem UB (h:EM m) {n:Nat} (ht:m.l[n]? = some t):ub (dN m) (fK t) q=dN (ub m t q)/\EM (ub m t q):=by
 refine ⟨?_,λ y hy=>?_⟩
 ·unfold ub
  show ({dN m with mem:=_,l:=(m.l.map fK).set q.t.toNat (fK {t with buf:=kf t.buf q.i})}:iu)=_
  rw [UA]; rfl
 rcases Nd hy with hy | rfl
 ·exact h y hy
 exact h t (List.mem_of_getElem? ht)
theorem Bo {l:List bV} (h:∀ t∈l,(t.body=[]\/∃ b,lM t.body=some b)/\∀ x∈t.body,Nc x):l8 (dN m) (l.map fH)=dN (l8 m l)/\EM (l8 m l):=by
 have h1:∀ t∈l,wJ (fH t)=fK (wJ t)/\EP (wJ t).aY:=λ t ht=>by
  obtain ⟨hb,he⟩:=h t ht
  have e:∃ b,lM t.body=some b:=by
   rcases hb with hb | hb
   ·rw [hb]; exact ⟨_,rfl⟩
   ·exact hb
  obtain ⟨b,hb⟩:=e
  have hb2:=O5 hb
  have e1:Ky t.body=b:=by unfold Ky; rw [hb]; rfl
  have e2:Ky (t.body.map jO)=iw b:=by unfold Ky; rw [hb2]; rfl
  refine ⟨?_,?_⟩
  ·unfold wJ
   show (⟨t.cW,List.replicate t.cW.length 0,gW (Ky (t.body.map jO)) false [],0,[]⟩:iC)=_
   rw [e2,e1]
   show (⟨t.cW,List.replicate t.cW.length 0,gW (iw b) false (iy []),0,[]⟩:iC)=_
   rw [qX]; rfl
  ·show EP (gW (Ky t.body) false [])
   rw [e1]
   refine EP.push (λ q hq=>by cases hq) ((CY b).2 ?_)
   rw [<- (iX hb).1]; exact he
 have h2:∀ t∈l,OV (fH t)=fK (OV t)/\EP (OV t).aY:=λ t ht=>by
  unfold OV
  rw [(h1 t ht).1]
  exact Ip (h1 t ht).2
 refine ⟨?_,λ y hy=>?_⟩
 ·unfold l8
  show ({dN m with eM:=List.replicate (cC (iv m.p)).length (-1),l:=(l.map fH).map OV}:iu)=_
  rw [sQ,List.map_map,show l.map (OV ∘ fH)=(l.map OV).map fK from by
   rw [List.map_map]; exact List.map_congr_left λ t ht=>(h2 t ht).1]
  rfl
 obtain ⟨t,ht,rfl⟩:=List.mem_map.1 hy
 exact (h2 t ht).2
def TR (p:bQ):Prop:=∀ t∈gL p,(t.body=[]\/∃ b,lM t.body=some b)/\∀ x∈t.body,Nc x
theorem UC (h:TR m.p):sO (dN m)=(sO m).map fH/\∀ t∈sO m,(t.body=[]\/∃ b,lM t.body=some b)/\∀ x∈t.body,Nc x:=by
 unfold sO
 show (if (m.p.recover.map fH).length=0 then _ else m.p.recover.map fH)=_/\_
 rw [List.length_map]
 split
 ·refine ⟨rfl,λ t ht=>?_⟩
  rw [List.mem_singleton.1 ht]
  exact ⟨.inl rfl,λ x hx=>by cases hx⟩
 exact ⟨rfl,λ t ht=>h t (List.mem_append_right _ ht)⟩
theorem Zq (h:EM m) (hr:TR m.p):qd (dN m) q=(dN (qd m q).1,(qd m q).2.1,(qd m q).2.2)/\EM (qd m q).1:=by
 unfold qd
 show (match jH m q with | some mT=>_ | none=>_)=_/\_
 cases hc:jH m q with
 | some mT=>
  obtain ⟨r1,r2⟩:=UC hr
  dsimp only
  rw [r1]
  have:=Bo (m:=qV m mT) r2
  refine ⟨?_,this.2⟩
  rw [<- this.1]; rfl
 | none=>
  dsimp only
  rw [vg]
  split
  ·split
   ·rw [tJ]
    cases ht:m.l[q.t.toNat]? with
    | none=>exact ⟨rfl,h⟩
    | some t=>
     have:=UB (q:=q) h ht
     dsimp only [Option.map]
     rw [this.1]
     exact ⟨rfl,this.2⟩
   ·have:=Pa (i:=q.t) h
    rw [this.1]
    exact ⟨rfl,this.2⟩
  ·exact ⟨rfl,h⟩
end
theorem UD {p:bQ} {room:Int} (hr:TR p):xR (iv p) room=dN (xR p room)/\EM (xR p room):=by
 have:=Bo (m:=sP p room) (l:=p.threads) λ t ht=>hr t (List.mem_append_left _ ht)
 refine ⟨?_,this.2⟩
 show l8 (sP (iv p) room) (p.threads.map fH)=dN (l8 (sP p room) p.threads)
 rw [<- this.1]
 unfold sP dN
 rw [Uy,KG,Iq]; rfl
theorem alc {p:bQ} (hc:M8 p):TR p:=λ t ht=>by
 obtain ⟨_,h2,_⟩:=hc.f.uw ht
 obtain ⟨_,h3,b,h5,h6,_⟩:=kN h2
 refine ⟨.inr ⟨b,by rw [h5]; exact kL h6⟩,λ x hx=>?_⟩
 have hf:=h3 x hx
 unfold nS at hf
 simp only [Bool.and_eq_true,Bool.not_eq_true',Bool.or_eq_false_iff] at hf
 obtain ⟨⟨_,h7⟩,_⟩:=hf
 refine ⟨?_,?_⟩
 ·cases hr:eF x.e with
  | true=>exact .inr rfl
  | false=>rw [hr] at h7; left; apply List.eq_nil_of_length_eq_zero; grind
 ·cases hr:eF x.f with
  | true=>exact .inr rfl
  | false=>rw [hr] at h7; left; apply List.eq_nil_of_length_eq_zero; grind
theorem afa:∀ n:Nat,(List.replicate n 0).sum=0
 | 0=>rfl
 | n+1=>by rw [List.replicate_succ,List.sum_cons,afa n]
theorem wN {α β:Type} {n:Nat} {g:α->List β}:∀ {l:List α},(∀ x∈l,(g x).length=n)->(l.flatMap g).length=l.length * n
 | [],_=>by simp
 | x::l,h=>by
  rw [List.flatMap_cons,List.length_append,h x (List.mem_cons_self ..),wN λ y hy=>h y (List.mem_cons_of_mem _ hy),List.length_cons,Nat.succ_mul]; omega
theorem abm:∀ n:Nat,(n+1) ^ 3<=3 ^ (n+1)
 | 0=>by decide
 | 1=>by decide
 | 2=>by decide
 | n+3=>by
  have ih:=abm (n+2)
  have h:(n+4) ^ 3<=3 * (n+3) ^ 3:=by
   have e1:(n+4) ^ 3=n * n * n+12 * (n * n)+48 * n+64:=by grind
   have e2:(n+3) ^ 3=n * n * n+9 * (n * n)+27 * n+27:=by grind
   rw [e1,e2]
   omega
  calc (n+3+1) ^ 3<=3 * (n+3) ^ 3:=h
   _<=3 * 3 ^ (n+3):=Nat.mul_le_mul_left 3 ih
   _=3 ^ (n+3+1):=Nat.pow_succ'.symm
theorem wO:∀ ps:List Nat,(dP ps).length ^ 3<=3 ^ (ps.sum+ps.length)
 | []=>by decide
 | p::ps=>by
  have ih:=wO ps
  have e:(dP (p::ps)).length=(p+1) * (dP ps).length:=by
   rw [dP,wN (n:=(dP ps).length) λ x _=>by rw [List.length_map],List.length_range]
  rw [e,Nat.mul_pow,List.sum_cons,List.length_cons,show p+ps.sum+(ps.length+1)=(p+1)+(ps.sum+ps.length) from by omega,Nat.pow_add]
  exact Nat.mul_le_mul (abm p) ih
theorem BR {ps:List Nat} (h:ps.sum+ps.length<=50):(dP ps).length<=1000000000:=by
 have h1:=wO ps
 have h2:3 ^ (ps.sum+ps.length)<=3 ^ 50:=Nat.pow_le_pow_right (by decide) h
 rcases Nat.lt_or_ge 1000000000 (dP ps).length with h3 | h3
 ·exfalso
  have h4:1000000000 ^ 3<=(dP ps).length ^ 3:=Nat.pow_le_pow_left (Nat.le_of_lt h3) 3
  have h5:(3:Nat) ^ 50<1000000000 ^ 3:=by decide
  omega
 exact h3
def SB (m:Mem) (n:Nat):Prop:=∀ L,(lG m L).sum<=n
theorem E5 {f g:Nat->Nat} {k:Nat} {d:Nat} (h1:∀ i,i≠k->g i=f i) (h2:g k<=f k+d):∀ L,((List.range L).map g).sum<=((List.range L).map f).sum+d/\(L<=k->((List.range L).map g).sum=((List.range L).map f).sum)
 | 0=>⟨by simp,λ _=>rfl⟩
 | L+1=>by
  obtain ⟨a,b⟩:=E5 h1 h2 L
  simp only [List.range_succ,List.map_append,List.sum_append,List.map_cons,List.map_nil,List.sum_cons,List.sum_nil,Nat.add_zero]
  refine ⟨?_,λ h=>?_⟩
  ·by_cases hk:L=k
   ·subst hk
    have:=b (Nat.le_refl _)
    omega
   ·rw [h1 L hk]; omega
  ·rw [b (by omega),h1 L (by omega)]
theorem SB.mono {m:Mem} {a b:Nat} (h:SB m a) (hab:a<=b):SB m b:=λ L=>Nat.le_trans (h L) hab
theorem SB.write {m:Mem} {c n:Int} {k:Nat} (h:SB m k):SB (fN m c n) (k+1):=by
 unfold fN
 split
 ·intro L
  unfold lG
  dsimp only
  split
  ·obtain ⟨d,hd⟩:∃ d,d=m.of.getD c.toNat 0:=⟨_,rfl⟩
   rw [<- hd]
   rcases Int.lt_or_le d 0 with h0 | h0
   ·have:((List.range L).map fun (i:Nat)=>(lD m.fk d (m.fk d++[⟨c,n⟩]) i).length)=lG m L:=by
     unfold lG
     refine List.map_congr_left λ i _=>?_
     unfold lD; rw [if_neg (by omega)]
    rw [this]; exact Nat.le_succ_of_le (h L)
   have:=(E5 (f:=λ i:Nat=>(m.fk i).length) (g:=λ i:Nat=>(lD m.fk d (m.fk d++[⟨c,n⟩]) i).length) (k:=d.toNat) (d:=1)
    (λ i hi=>by unfold lD; rw [if_neg (by omega)]) (by
     have e:((d.toNat:Nat):Int)=d:=Int.toNat_of_nonneg h0
     unfold lD; rw [e,if_pos rfl,List.length_append,List.length_singleton]; exact Nat.le_refl _) L).1
   exact Nat.le_trans this (Nat.succ_le_succ (h L))
  exact Nat.le_succ_of_le (h L)
 exact h.mono (Nat.le_succ k)
theorem SB.out {m:Mem} {c:Int} {k:Nat} (h:SB m k):SB (pa m c) k:=by
 unfold pa
 split
 ·intro L
  unfold lG
  dsimp only
  rcases Int.lt_or_le c 0 with h0 | h0
  ·have:((List.range L).map fun (i:Nat)=>(lD m.fk c [] i).length)=lG m L:=by
    unfold lG
    refine List.map_congr_left λ i _=>?_
    unfold lD; rw [if_neg (by omega)]
   rw [this]; exact h L
  have:=(E5 (f:=λ i:Nat=>(m.fk i).length) (g:=λ i:Nat=>(lD m.fk c [] i).length) (k:=c.toNat) (d:=0)
   (λ i hi=>by unfold lD; rw [if_neg (by omega)]) (by
    have e:((c.toNat:Nat):Int)=c:=Int.toNat_of_nonneg h0
    unfold lD; rw [e,if_pos rfl]; exact Nat.zero_le _) L).1
  exact Nat.le_trans this (h L)
 exact h
theorem afb {m:iu} {t:iC} {i:Int} {x:aX} {k:Nat} (h:SB m.mem k):SB (dV m t i x).1.mem (k+1):=by
 unfold dV
 repeat' split
 all_goals first | exact h.mono (Nat.le_succ k) | (unfold pX; split; exact h.write; exact h.mono (Nat.le_succ k))
theorem Zr {m:iu} {i:Int} {k:Nat} (h:SB m.mem k):SB (gH m i).1.mem (k+1):=by
 unfold gH
 repeat' split
 all_goals first | exact h.mono (Nat.le_succ k) | exact afb h
theorem ald {m:iu} {q:ef} {k:Nat} (h:SB m.mem k):SB (qd m q).1.mem (k+1):=by
 unfold qd
 split
 ·intro L
  show (lG (l5 m.mem _) L).sum<=_
  have:lG (l5 m.mem ‹_›) L=List.replicate L 0:=by
   unfold lG
   show (List.range L).map (λ _=>0)=_
   rw [List.map_const',List.length_range]
  rw [this,afa]; exact Nat.zero_le _
 split
 ·split
  ·split
   ·show SB (jA m.mem _) _
    unfold jA
    split
    ·exact h.write
    split
    ·exact h.mono (Nat.le_succ k)
    exact h.out.mono (Nat.le_succ k)
   exact h.mono (Nat.le_succ k)
  exact Zr h
 exact h.mono (Nat.le_succ k)
theorem afc {p:bQ} {room:Int}:SB (xR p room).mem 0:=by
 intro L
 have:lG (xR p room).mem L=List.replicate L 0:=by
  unfold lG
  show (List.range L).map (λ _=>0)=_
  rw [List.map_const',List.length_range]
 rw [this,afa]; exact Nat.zero_le _
theorem E6 {p:bQ} (h:PZ p):PZ (iv p):=by
 have hT:∀ t,NH t->NH (fH t):=λ t ⟨h1,h2,h3⟩=>⟨h1,h2,λ x hx=>by
  obtain ⟨y,hy,rfl⟩:=List.mem_map.1 hx
  obtain ⟨a1,a2,a3,a4,a5,a6⟩:=h3 y hy
  refine ⟨a1,a2,?_,?_,λ z hz=>?_,λ z hz=>?_⟩
  ·show (y.e.map gX).length<=_
   rw [List.length_map]; exact a3
  ·show (y.f.map gX).length<=_
   rw [List.length_map]; exact a4
  ·obtain ⟨u,hu,rfl⟩:=List.mem_map.1 hz; exact a5 u hu
  ·obtain ⟨u,hu,rfl⟩:=List.mem_map.1 hz; exact a6 u hu⟩
 have U8:∀ t∈(iv p).threads++(iv p).recover,∃ u∈p.threads++p.recover,t=fH u:=λ t ht=>by
  rw [show (iv p).threads++(iv p).recover=(p.threads++p.recover).map fH from (List.map_append ..).symm] at ht
  obtain ⟨u,hu,rfl⟩:=List.mem_map.1 ht
  exact ⟨u,hu,rfl⟩
 refine ⟨⟨?_,λ l hl=>?_,?_,?_,?_,?_,?_,λ t ht=>?_,λ t ht=>?_⟩,λ l hl c hc=>?_,λ c hc=>?_,λ c hc=>?_,λ t ht=>?_,λ t ht=>?_,λ c hc=>?_⟩
 ·show (p.lines.map _).length<=_; rw [List.length_map]; exact h.lines
 ·obtain ⟨u,hu,rfl⟩:=List.mem_map.1 hl; rw [List.length_map]; exact h.line u hu
 ·show (p.fr.map _).length<=_; rw [List.length_map]; exact h.fr
 ·show (p.dL.map _).length<=_; rw [List.length_map]; exact h.dL
 ·show (p.threads.map _).length<=_; rw [List.length_map]; exact h.threads
 ·show (p.recover.map _).length<=_; rw [List.length_map]; exact h.recover
 ·show (p.dF.map _).length<=_; rw [List.length_map]; exact h.dF
 ·obtain ⟨u,hu,rfl⟩:=U8 t ht; exact h.cW u hu
 ·obtain ⟨u,hu,rfl⟩:=U8 t ht
  show (u.body.map jO).length<=_
  rw [List.length_map]; exact h.body u hu
 ·obtain ⟨u,hu,rfl⟩:=List.mem_map.1 hl; obtain ⟨d,hd,rfl⟩:=List.mem_map.1 hc; exact h.zl u hu d hd
 ·obtain ⟨d,hd,rfl⟩:=List.mem_map.1 hc; exact h.zv d hd
 ·obtain ⟨d,hd,rfl⟩:=List.mem_map.1 hc; exact h.zk d hd
 ·obtain ⟨u,hu,rfl⟩:=List.mem_map.1 ht; exact hT u (h.zt u hu)
 ·obtain ⟨u,hu,rfl⟩:=List.mem_map.1 ht; exact hT u (h.zr u hu)
 obtain ⟨u,hu,rfl⟩:=List.mem_map.1 hc
 obtain ⟨z1,z2⟩:=h.zc u hu
 refine ⟨?_,λ y hy=>?_⟩
 ·show (u.e.map gX).length<=_
  rw [List.length_map]; exact z1
 obtain ⟨v,hv,rfl⟩:=List.mem_map.1 hy; exact z2 v hv
theorem Zs (m:iu) (t:iC) (x:aX):(pX m t x).mem.of=m.mem.of:=by
 unfold pX; split
 ·exact tG _ _ _
 rfl
theorem Zt (m:iu) (t:iC) (i:Int) (x:aX):(dV m t i x).1.mem.of=m.mem.of:=by
 unfold dV
 repeat' split
 all_goals first | rfl | exact Zs _ _ _
theorem UE (m:iu) (i:Int):(gH m i).1.mem.of=m.mem.of:=by
 unfold gH
 repeat' split
 all_goals first | rfl | exact Zt _ _ _ _
theorem afd {m:iu} (hm:pj m) (q:ef):(qd m q).1.mem.of=m.mem.of:=by
 unfold qd
 split
 ·rfl
 split
 ·split
  ·split
   ·exact (C2 hm.mem).2.1
   rfl
  exact UE _ _
 rfl
theorem It:∀ (ls:List (List bP)) (i a:Int),0<=a->a<ls.flatten.length->gi ls i a<i+ls.length
 | [],i,a,h0,h1=>by simp at h1; omega
 | l::r,i,a,h0,h1=>by
  rw [List.flatten_cons,List.length_append] at h1
  unfold gi
  rw [List.length_cons]
  split
  ·omega
  ·have:=It r (i+1) (a - l.length) (by omega) (by omega)
   omega
theorem UF (p:bQ):fU ((uD p).take (dX p).toNat)<=p.lines.length:=by
 have hst:=wK p
 have hl:(uD p).length=(cM p).length:=by unfold uD; rw [List.length_map,List.length_range]
 have hc:(cM p).length=(ju p).length:=by unfold cM; rw [List.length_map]
 have ht:((uD p).take (dX p).toNat).length=(dX p).toNat:=by rw [List.length_take]; omega
 unfold fU
 rw [ht]
 split
 ·omega
 rename_i h0
 rw [List.getD_eq_getElem?_getD,List.getElem?_take,if_pos (by omega),E3 (by omega),Option.getD_some]
 have h1:mD p (((dX p).toNat - 1:Nat):Int)=gi p.lines 0 (((dX p).toNat - 1:Nat):Int):=by unfold mD; rw [if_neg (by omega)]
 have h2:=It p.lines 0 (((dX p).toNat - 1:Nat):Int) (by omega) (by
  have:dX p=(p.lines.flatten.length:Int):=rfl
  omega)
 rw [h1]; omega
theorem Bp {m:Mem} {k:Nat} (h:SB m k) (hk:k<=40) (hl:fU m.of<=6):(dP (BN m)).length<=1000000000:=by
 refine BR ?_
 have h1:=wF m
 have h2:(BN m).sum<=k:=h _
 omega
theorem KI (p:bQ):(jB p).lines.length<=6:=by
 show ((p.lines.take 6).map _).length<=6
 rw [List.length_map,List.length_take]; omega
theorem Dg {m:iu} {q:ef} (h:q∈fG m):q.cut=[]:=by
 unfold fG at h
 split at h
 ·cases h
 unfold fm at h
 obtain ⟨i,_,hi⟩:=List.mem_flatMap.1 h
 split at hi
 ·unfold km at hi
  rcases List.mem_append.1 hi with hi | hi
  ·split at hi
   ·rw [List.mem_singleton.1 hi]
   cases hi
  obtain ⟨k,_,rfl⟩:=List.mem_map.1 hi; rfl
 cases hi
theorem Iu (f:List Int->List Int):∀ (l:List (List Int)) (s:List (List Int) × List (List Int)) (c:List Int),c∈(l.foldl (λ s c=>if f c∈s.2 then s else (s.1++[c],s.2++[f c])) s).1->c∈s.1\/c∈l
 | [],s,c,h=>.inl h
 | d::l,s,c,h=>by
  rw [List.foldl_cons] at h
  rcases Iu f l _ c h with h1 | h1
  ·split at h1
   ·exact .inl h1
   ·rcases List.mem_append.1 h1 with h2 | h2
    ·exact .inl h2
    ·exact .inr (by rw [List.mem_singleton.1 h2]; exact List.mem_cons_self ..)
  ·exact .inr (List.mem_cons_of_mem _ h1)
theorem Pb {m:iu} {q:ef} (h:q∈lJ m) (hl:fU m.mem.of<=6):q.cut.length<=6:=by
 unfold lJ at h
 split at h
 ·cases h
 obtain ⟨c,hc,rfl⟩:=List.mem_map.1 h
 have h1:c∈dP (BN m.mem):=by
  rcases Iu (pT m.mem) (dP (BN m.mem)) ([],[]) c hc with h2 | h2
  ·cases h2
  ·exact h2
 have h2:=mJ h1
 have h3:=wF m.mem
 show c.length<=6
 omega
variable (w:World) (K:Value->World->Prop)
def S102 (s0:Value):Prop:=
 bB .eql 37 s0 (.slice none 0 0) λ a=>cV a (K (.slice none 0 0) w) (bS 37 0 [] w λ b c=>aP 37 b s0 c λ d e=>K d e)
theorem Zu (s0:Value) (h:S102 w K s0):CR 102 [s0] w K:=
 eN 8 (λ _=>.nil) 4 [.tmp 2] Tryz.func102 h
def S103 (s0:Value):Prop:=
 bB .eql 27 s0 (.slice none 0 0) λ a=>cV a (K (.slice none 0 0) w) (bS 27 0 [] w λ b c=>aP 27 b s0 c λ d e=>K d e)
theorem Zv (s0:Value) (h:S103 w K s0):CR 103 [s0] w K:=
 eN 8 (λ _=>.nil) 4 [.tmp 2] Tryz.func103 h
def S104 (s0:Value):Prop:=
 bB .eql 32 s0 (.slice none 0 0) λ a=>cV a (K (.slice none 0 0) w) (bS 32 0 [] w λ b c=>aP 32 b s0 c λ d e=>K d e)
theorem Zw (s0:Value) (h:S104 w K s0):CR 104 [s0] w K:=
 eN 8 (λ _=>.nil) 4 [.tmp 2] Tryz.func104 h
def S105 (s0:Value):Prop:=
 bB .eql 22 s0 (.slice none 0 0) λ a=>cV a (K (.slice none 0 0) w) (bS 22 0 [] w λ b c=>aP 22 b s0 c λ d e=>K d e)
theorem Zx (s0:Value) (h:S105 w K s0):CR 105 [s0] w K:=
 eN 8 (λ _=>.nil) 4 [.tmp 2] Tryz.func105 h
def S49 (l0:Value):Prop:=
 cF 102 [l0] w λ a b=>lN 37 a λ c=>fh (λ K1 d e=>∀ _:Env,
 bA .lss 3 d c λ f=>cV f (iA 37 a d λ g=>fA 142 g 2 λ h=>sA 3 h (i 0) e λ j=>bB .add 3 d (i 1) λ k=>K1 k j) (K a e)) (λ K1=>K1 (i 0) b)
theorem afe (l0:Value) (h:S49 w K l0):CR 49 [l0] w K:=
 eN 18 (λ _=>.nil) 4 [.tmp 2] Tryz.func49 h
def S51 (l0:Value):Prop:=
 cF 105 [l0] w λ a b=>lN 22 a λ c=>fh (λ K1 d e=>∀ _:Env,
 bA .lss 3 d c λ f=>cV f (iA 22 a d λ g=>fA 26 g 3 λ h=>sA 3 h (i 0) e λ j=>bB .add 3 d (i 1) λ k=>K1 k j) (K a e)) (λ K1=>K1 (i 0) b)
theorem aff (l0:Value) (h:S51 w K l0):CR 51 [l0] w K:=
 eN 18 (λ _=>.nil) 4 [.tmp 2] Tryz.func51 h
theorem ale:PL 102:=dW Tryz.func102
theorem alf:PL 103:=dW Tryz.func103
theorem alg:PL 104:=dW Tryz.func104
theorem alh:PL 105:=dW Tryz.func105
theorem Pc:PL 49:=dW Tryz.func49
theorem afg:PL 51:=dW Tryz.func51
end Go.Proofs.YtfkgkbhbdffckaaGreatDoor
namespace Go.Proofs.YtfkgkbhbdffckaaGreatDoor
open Go.Fw
theorem C102 (sv:Value) (xs:List bP) (w:World) (hL:dx (λ _=>True) w sv xs) (hn:xs.length<=1048576):CR 102 [sv] w (λ v w'=>mZ (bJ v xs) w w'):=by
 have hs:=St.start w;refine Zu _ _ _ ?_;unfold S102;refine pD Tryz.underlying37 (hL.ext hs.aE) (λ p hp=>bI (λ c4=>?_) (λ c4=>?_))
 ·have hx:=hp c4;subst hx;exact (hs.fy (α:=bP)).fresh
 refine cO (([]:List bP)) hs nk rfl rfl (fw rfl) (λ s5 _ hs=>?_);have hr7:=(hL.ext hs.aE);exact dw hs nk hr7 (by simp; omega) (by decide) (λ _ _ hs=>hs.fresh)
theorem C103 (sv:Value) (xs:List aW) (w:World) (hL:dx (λ _=>True) w sv xs) (hn:xs.length<=1048576):CR 103 [sv] w (λ v w'=>mZ (bJ v xs) w w'):=by
 have hs:=St.start w;refine Zv _ _ _ ?_;unfold S103;refine pD Tryz.underlying27 (hL.ext hs.aE) (λ p hp=>bI (λ c4=>?_) (λ c4=>?_))
 ·have hx:=hp c4;subst hx;exact (hs.fy (α:=aW)).fresh
 refine cO (([]:List aW)) hs iV rfl rfl (fw rfl) (λ s5 _ hs=>?_);have hr7:=(hL.ext hs.aE);exact dw hs iV hr7 (by simp; omega) (by decide) (λ _ _ hs=>hs.fresh)
theorem C104 (sv:Value) (xs:List ByteArray) (w:World) (hL:dx (λ _=>True) w sv xs) (hn:xs.length<=1048576):CR 104 [sv] w (λ v w'=>mZ (bJ v xs) w w'):=by
 have hs:=St.start w;refine Zw _ _ _ ?_;unfold S104;refine pD Tryz.underlying32 (hL.ext hs.aE) (λ p hp=>bI (λ c4=>?_) (λ c4=>?_))
 ·have hx:=hp c4;subst hx;exact (hs.fy (α:=ByteArray)).fresh
 refine cO (([]:List ByteArray)) hs nj rfl rfl (fw rfl) (λ s5 _ hs=>?_);have hr7:=(hL.ext hs.aE);exact dw hs nj hr7 (by simp; omega) (by decide) (λ _ _ hs=>hs.fresh)
theorem C105 (sv:Value) (xs:List bL) (w:World) (hL:dx (λ _=>True) w sv xs) (hn:xs.length<=1048576):CR 105 [sv] w (λ v w'=>mZ (bJ v xs) w w'):=by
 have hs:=St.start w;refine Zx _ _ _ ?_;unfold S105;refine pD Tryz.underlying22 (hL.ext hs.aE) (λ p hp=>bI (λ c4=>?_) (λ c4=>?_))
 ·have hx:=hp c4;subst hx;exact (hs.fy (α:=bL)).fresh
 refine cO (([]:List bL)) hs kq rfl rfl (fw rfl) (λ s5 _ hs=>?_);have hr7:=(hL.ext hs.aE);exact dw hs kq hr7 (by simp; omega) (by decide) (λ _ _ hs=>hs.fresh)
theorem UG {α:Type} {f:α->α} {xs:List α} {k:Nat} {e:α} (h:xs[k]? = some e):((xs.take k).map f++xs.drop k)[k]? = some e/\((xs.take k).map f++xs.drop k).set k (f e)=(xs.take (k+1)).map f++xs.drop (k+1):=by
 obtain ⟨hk,he⟩:=List.getElem?_eq_some_iff.1 h
 have hl:((xs.take k).map f).length=k:=by rw [List.length_map,List.length_take]; omega
 have hd:xs.drop k=e::xs.drop (k+1):=by rw [List.drop_eq_getElem_cons hk,he]
 refine ⟨by rw [List.getElem?_append_right (by omega),hl,Nat.sub_self,hd]; rfl,?_⟩
 rw [List.set_append_right _ _ (by omega),hl,Nat.sub_self,hd,List.set_cons_zero,<- fO (k:=k) h,List.append_assoc]; rfl
theorem C49 (sv:Value) (xs:List bP) (w:World) (hL:dx (λ _=>True) w sv xs) (hn:xs.length<=1048576):CR 49 [sv] w (λ v w'=>mZ (bJ v (xs.map gY)) w w'):=by
 have hs:=St.start w;refine afe _ _ _ ?_;unfold S49;refine dA ale hs (C102 sv xs _ (hL.ext hs.aE) hn) (λ x6 _ cL hs=>aG nk (hs).gg ?_);refine ⟨λ mm y w'=>∃ k:Nat,y = .int .i64 (k:Int)/\mm=xs.length - k/\k<=xs.length/\St w bD [bJ x6 ((xs.take k).map gY++xs.drop k)] w',⟨_,0,rfl,rfl,Nat.zero_le _,hs⟩,?_⟩;rintro mm _ _ ⟨k,rfl,rfl,hk,hs⟩ _;refine aS (aC (λ c1=>?_) (λ c1=>?_));rotate_left
 ·rw [show k=xs.length from by omega,List.take_length,List.drop_length,List.append_nil] at hs;exact hs.fresh
 obtain ⟨e,he⟩:∃ e,xs[k]? = some e:=⟨_,List.getElem?_eq_getElem (by omega)⟩;obtain ⟨h1,h2⟩:=UG (f:=gY) he;have hlen:((xs.take k).map gY++xs.drop k).length=xs.length:=by rw [List.length_append,List.length_map,List.length_take,List.length_drop]; omega
 refine eS hs nk (by omega) (by omega) (λ q14 NW=>lg vK NW (λ q15 h15=>pC (x:=e) (gY e) (0:Int) hs cK h15 h1 (fw rfl) rfl (λ _ hs=>?_)));rw [Int.toNat_natCast,h2] at hs;exact aT (by omega) ⟨_,by omega,k+1,rfl,rfl,by omega,hs⟩
theorem C51 (sv:Value) (xs:List bL) (w:World) (hL:dx (λ _=>True) w sv xs) (hn:xs.length<=1048576):CR 51 [sv] w (λ v w'=>mZ (bJ v (xs.map gX)) w w'):=by
 have hs:=St.start w;refine aff _ _ _ ?_;unfold S51;refine dA alh hs (C105 sv xs _ (hL.ext hs.aE) hn) (λ x6 _ cL hs=>aG kq (hs).gg ?_);refine ⟨λ mm y w'=>∃ k:Nat,y = .int .i64 (k:Int)/\mm=xs.length - k/\k<=xs.length/\St w bD [bJ x6 ((xs.take k).map gX++xs.drop k)] w',⟨_,0,rfl,rfl,Nat.zero_le _,hs⟩,?_⟩;rintro mm _ _ ⟨k,rfl,rfl,hk,hs⟩ _;refine aS (aC (λ c1=>?_) (λ c1=>?_));rotate_left
 ·rw [show k=xs.length from by omega,List.take_length,List.drop_length,List.append_nil] at hs;exact hs.fresh
 obtain ⟨e,he⟩:∃ e,xs[k]? = some e:=⟨_,List.getElem?_eq_getElem (by omega)⟩;obtain ⟨h1,h2⟩:=UG (f:=gX) he;have hlen:((xs.take k).map gX++xs.drop k).length=xs.length:=by rw [List.length_append,List.length_map,List.length_take,List.length_drop]; omega
 refine eS hs kq (by omega) (by omega) (λ q14 NW=>lg vE NW (λ q15 h15=>pC (x:=e) (gX e) (0:Int) hs cK h15 h1 (fw rfl) rfl (λ _ hs=>?_)));rw [Int.toNat_natCast,h2] at hs;exact aT (by omega) ⟨_,by omega,k+1,rfl,rfl,by omega,hs⟩
variable (w:World) (K:Value->World->Prop)
def S50 (l0:Value):Prop:=
 lN 35 l0 λ a=>mn (λ K1 fp b c=>∀ _:Env,
 bA .lss 3 b a λ d=>cV d (iA 35 l0 b λ e=>lA 34 e c λ f=>aL 34 c λ t5 g=>sA 34 t5 f g λ h=>fA 34 t5 2 λ j=>lA 27 j h λ k=>cF 103 [k] h λ l n=>lN 27 l λ o=>
 fh (λ K2 p q=>∀ _:Env,
 bA .lss 3 p o λ r=>cV r (iA 27 l p λ s=>fA 24 s 3 λ t=>lA 22 t (drew q) λ u=>iA 27 l p λ v=>fA 24 v 4 λ x=>lA 22 x (drew q) λ y=>cF 51 [u] (drew q) λ z aa=>
 kA 22 x y aa (cF 51 [y] aa λ ab ac=>iA 27 l p λ ad=>fA 24 ad 8 λ ae=>sA 3 ae (i 0) ac λ af=>iA 27 l p λ ag=>fA 24 ag 3 λ ah=>sA 22 ah z af λ ai=>iA 27 l p λ aj=>
 fA 24 aj 4 λ ak=>sA 22 ak ab ai λ al=>bB .add 3 p (i 1) λ am=>K2 am al)) (fA 34 t5 0 λ an=>lA 9 an (drew q) λ ao=>fA 34 t5 1 λ ap=>lA 32 ap (drew q) λ aq=>cF 104 [aq] (drew q) λ ar asx=>
 kA 9 an ao asx (cU Tryz.prog (Instr.build 34 [(0,ao),(1,ar),(2,l)].toArray) λ au=>bS 35 1 [(0,au)] asx λ av aw=>aP 35 fp av aw λ ax ay=>bB .add 3 b (i 1) λ az=>
 K1 ax az ay))) (λ K2=>K2 (i 0) n)) (K fp c)) (λ K1=>K1 (.slice none 0 0) (i 0) w)
def P50:eh:=λ i=>match i with
 | 9=>(.of [(0,[]),(1,[]),(2,[]),(3,[]),(4,[]),(5,[]),(6,[]),(7,[]),(8,[]),(9,[]),(10,[]),(12,[]),(13,[]),(14,[]),(15,[]),(16,[]),(11,[16]),(17,[]),(18,[]),(19,[]),(20,[]),(21,[]),(22,[]),(23,[]),(24,[]),(25,[]),(26,[])])
 | 11=>(.of [(0,[]),(1,[]),(2,[]),(3,[]),(4,[]),(6,[]),(5,[2]),(7,[]),(8,[]),(9,[]),(10,[])])
 | _=>.nil
theorem afi (l0:Value) (h:S50 w K l0):CR 50 [l0] w K:=
 eN 59 P50 4 [.tmp 2] Tryz.func50 h
theorem E7:PL 50:=dW Tryz.func50
end Go.Proofs.YtfkgkbhbdffckaaGreatDoor
namespace Go.Proofs.YtfkgkbhbdffckaaGreatDoor
open Go.Fw
theorem Iv (a0:ByteArray) (a1:Option Addr) (n1 c1:Nat) (a2:Option Addr) (n2 c2:Nat):pr Tryz.prog (Instr.build 34 [(0,.string a0),(1,.slice a1 n1 c1),(2,.slice a2 n2 c2)].toArray)=some (.agg [.string a0,.slice a1 n1 c1,.slice a2 n2 c2,.int .i64 0].toArray):=by kernel_rfl
theorem ali:oQ Tryz.prog 42=some [0,0,0,0,0]:=by kernel_rfl
theorem alj:oQ Tryz.prog 49=some [0,0,0,1,1]:=by kernel_rfl
theorem C50 (lv:Value) (l:List bV) (w:World) (hL:DL w lv l) (hn:l.length<=500) (hz:∀ t∈l,t.cW.length<=500/\t.body.length<=500/\∀ x∈t.body,x.e.length<=1048576/\x.f.length<=1048576):CR 50 [lv] w (λ v w'=>mZ (fq v (l.map fH)) w w'):=by
 obtain ⟨vl,hR,hD⟩:=hL.open;have hnn:vl.length=l.length:=hD.1;have hs:=St.start w;refine afi _ _ _ ?_;unfold S50;refine aG iO (hR.ext hs.aE) ?_;refine ⟨λ mm o y w'=>∃ k:Nat,y = .int .i64 (k:Int)/\mm=vl.length - k/\k<=l.length/\St w bD [fq o ((l.take k).map fH)] w',⟨_,0,rfl,rfl,Nat.zero_le _,hs.DZ⟩,?_⟩;rintro mm o _ _ ⟨k,rfl,rfl,hk,hs⟩ _;refine aS (aC (λ c1=>?_) (λ c1=>?_));rotate_left
 ·rw [List.take_of_length_le (by omega)] at hs;exact hs.fresh
 obtain ⟨t,ht⟩:∃ t,l[k]? = some t:=⟨_,List.getElem?_eq_getElem (by omega)⟩;obtain ⟨tv,htv⟩:∃ tv,vl[((k:Nat):Int).toNat]? = some tv:=⟨_,List.getElem?_eq_getElem (by omega)⟩;obtain ⟨gr,gb,rfl,hgr,hgb⟩:=hD.2 k tv t htv ht;obtain ⟨z1,z2,z3⟩:=hz t (List.mem_of_getElem? ht);obtain ⟨ts,hRb,hDb⟩:=hgb.open;have hbn:ts.length=t.body.length:=hDb.1;refine aU iO hR (by omega) htv (λ q12 RA=>aF py (RA.ext hs.aE) (aN hs rS (λ b5 _ hs=>aO (x:=(⟨t.name,gr,gb,t.at_⟩:bR)) hs py rfl rfl (λ _ hs=>aA sX (aB (v:=Flat.val (gb:SV)) zR hs.hb rfl (dA alf hs (C103 (Flat.val gb) ts _ (hRb.ext hs.aE) (by omega)) (λ x16 _ cL hs=>aG iV (hs).gg ?_)))))))
 have hs:=hs.rZ (Φ:=λ w=>jR ([]:List aW) ([]:List aX) w) (λ _=>jR.nil);refine ⟨λ mm y w'=>∃ (j:Nat) (dn:List aW),y = .int .i64 (j:Int)/\mm=ts.length - j/\j<=ts.length/\dn.length=j/\St w bD [bJ x16 (dn++ts.drop j),e9 (λ w=>jR dn ((t.body.take j).map jO) w),cP b5 (Flat.enc (⟨t.name,gr,gb,t.at_⟩:bR)),fq o ((l.take k).map fH)] w',⟨_,0,[],rfl,rfl,Nat.zero_le _,rfl,hs.p1⟩,?_⟩;rintro mm _ _ ⟨j,dn,rfl,rfl,hj,hdn,hs⟩ _;refine aS (aC (λ c2=>?_) (λ c2=>?_))
 ·obtain ⟨x,hx⟩:∃ x,t.body[j]? = some x:=⟨_,List.getElem?_eq_getElem (by omega)⟩;obtain ⟨row,FR⟩:∃ row,ts[j]? = some row:=⟨_,List.getElem?_eq_getElem (by omega)⟩;obtain ⟨ge,gf,rfl,FB,hgf⟩:=hDb.2 j row x FR hx;obtain ⟨z4,z5⟩:=z3 x (List.mem_of_getElem? hx)
  have Td:ts.drop j=(⟨x.kind,x.eB,x.name,ge,gf,x.n,x.body,x.eG,x.at_⟩:aW)::ts.drop (j+1):=by
   obtain ⟨h1,h2⟩:=List.getElem?_eq_some_iff.1 FR;rw [List.drop_eq_getElem_cons h1,h2]
  rw [Td] at hs
  have LW:∀ r:aW,(dn++r::ts.drop (j+1))[((j:Nat):Int).toNat]? = some r:=λ r=>by
   rw [Int.toNat_natCast,List.getElem?_append_right (by omega),hdn,Nat.sub_self]; rfl
  have ml:∀ r r2:aW,(dn++r::ts.drop (j+1)).set ((j:Nat):Int).toNat r2=dn++r2::ts.drop (j+1):=λ r r2=>by
   rw [Int.toNat_natCast,List.set_append_right _ _ (by omega),hdn,Nat.sub_self,List.set_cons_zero]
  have hln:∀ r:aW,(dn++r::ts.drop (j+1)).length=ts.length:=λ r=>by
   rw [List.length_append,List.length_cons,List.length_drop]; omega
  have hlj:∀ r:aW,((j:Nat):Int)<((dn++r::ts.drop (j+1)).length:Int):=λ _=>by rw [hln]; omega
  have hs:=hs.drew;refine eS hs iV (by omega) (by have:=hlj (⟨x.kind,x.eB,x.name,ge,gf,x.n,x.body,x.eG,x.at_⟩:aW); omega) (λ q30 h30=>lg nh h30 (λ q31 h31=>vO (x:=(⟨x.kind,x.eB,x.name,ge,gf,x.n,x.body,x.eG,x.at_⟩:aW)) (ge:SV) hs m9 h31 (LW _) rfl (eS hs iV (by omega) (by have:=hlj (⟨x.kind,x.eB,x.name,ge,gf,x.n,x.body,x.eG,x.at_⟩:aW); omega) (λ q36 h36=>lg oy h36 (λ q37 h37=>vO (x:=(⟨x.kind,x.eB,x.name,ge,gf,x.n,x.body,x.eG,x.at_⟩:aW)) (gf:SV) hs m9 h37 (LW _) rfl (dA afg hs (C51 (Flat.val ge) x.e _ ((DL.flat FB).ext hs.aE) z4) (λ x33 _ cL hs=>?_)))))))
  refine ⟨QK (x:=(⟨x.kind,x.eB,x.name,ge,gf,x.n,x.body,x.eG,x.at_⟩:aW)) (gf:SV) hs.p1 m9 h37 (LW _) rfl,?_⟩;refine dA afg hs (C51 (Flat.val gf) x.f _ ((DL.flat hgf).ext hs.aE) z5) (λ x39 _ cL hs=>?_);obtain ⟨Zy,rfl⟩:=(hs.p1).eT;obtain ⟨s39,rfl⟩:=(hs).eT;have hs:=hs.p2;refine eS hs iV (by omega) (by have:=hlj (⟨x.kind,x.eB,x.name,ge,gf,x.n,x.body,x.eG,x.at_⟩:aW); omega) (λ q40 h40=>lg sV h40 (λ q41 h41=>pC (x:=(⟨x.kind,x.eB,x.name,ge,gf,x.n,x.body,x.eG,x.at_⟩:aW)) (⟨x.kind,x.eB,x.name,ge,gf,x.n,x.body,x.eG,0⟩:aW) (0:Int) hs cK h41 (LW _) (fw rfl) rfl (λ _ hs=>?_)))
  rw [ml] at hs;refine eS hs iV (by omega) (by have:=hlj (⟨x.kind,x.eB,x.name,ge,gf,x.n,x.body,x.eG,0⟩:aW); omega) (λ q42 h42=>lg nh h42 (λ q43 h43=>pC (x:=(⟨x.kind,x.eB,x.name,ge,gf,x.n,x.body,x.eG,0⟩:aW)) (⟨x.kind,x.eB,x.name,Zy,gf,x.n,x.body,x.eG,0⟩:aW) (Zy:SV) hs m9 h43 (LW _) (fw rfl) rfl (λ _ hs=>?_)));rw [ml] at hs;refine eS hs iV (by omega) (by have:=hlj (⟨x.kind,x.eB,x.name,Zy,gf,x.n,x.body,x.eG,0⟩:aW); omega) (λ q44 h44=>lg oy h44 (λ q45 h45=>pC (x:=(⟨x.kind,x.eB,x.name,Zy,gf,x.n,x.body,x.eG,0⟩:aW)) (⟨x.kind,x.eB,x.name,Zy,s39,x.n,x.body,x.eG,0⟩:aW) (s39:SV) hs m9 h45 (LW _) (fw rfl) rfl (λ _ hs=>?_)))
  rw [ml] at hs
  have hs:=((((((hs.p1.freeze).p2).freeze).ey).p2).ey).fC (Ψ:=λ w=>jR (dn++[(⟨x.kind,x.eB,x.name,Zy,s39,x.n,x.body,x.eG,0⟩:aW)]) ((t.body.take (j+1)).map jO) w) (λ w h=>by
   rw [<- fO (k:=j) hx];exact h.1.snoc ⟨Zy,s39,rfl,DL.jS h.2.1,DL.jS h.2.2⟩)
  exact aT (by omega) ⟨_,by omega,j+1,dn++[(⟨x.kind,x.eB,x.name,Zy,s39,x.n,x.body,x.eG,0⟩:aW)],rfl,rfl,by omega,by rw [List.length_append,List.length_singleton,hdn],by rw [List.append_assoc]; exact hs.p1⟩
 have hje:j=ts.length:=by omega
 rw [List.drop_of_length_le (by omega),List.append_nil,List.take_of_length_le (by omega)] at hs;have hs:=hs.drew;refine aA sW (aB (v:=.string t.name) kp hs.p2.hb rfl (aA kX (aB (v:=Flat.val (gr:SV)) lL hs.p2.hb rfl (dA alg hs (C104 (Flat.val gr) t.cW _ ((DL.flat hgr).ext hs.aE) (by omega)) (λ x52 _ cL hs=>?_)))));refine ⟨aD kp (hs.p3.hb.cell rfl),?_⟩;obtain ⟨s52,rfl⟩:=(hs).eT;obtain ⟨rF,rfl⟩:=(hs.p1).eT;exact pop (Iv t.name _ _ _ _ _ _) (have hs:=((((hs.freeze.p1).freeze).ey).ey).fC (Ψ:=λ w=>Deep.dr w (⟨t.name,s52,rF,0⟩:bR) (fH t)) (λ _ h=>⟨s52,rF,rfl,DL.jS h.1.2,DL.of h.1.1 h.2⟩);gu (x:=fH t) (s:=(⟨t.name,s52,rF,0⟩:bR)) hs iO (by decide) (λ _ _ hs=>gv hs.p2 iO (by rw [List.length_map,List.length_take,List.length_singleton]; omega) (by decide) (λ _ _ hs=>aT (by omega) ⟨_,by omega,k+1,rfl,rfl,by omega,by rw [<- fO (k:=k) ht]; exact (hs.p1).drop⟩)))
variable (w:World) (K:Value->World->Prop)
def S11 (p0:Value):Prop:=
 gd Tryz.prog (Instr.box 40 p0) w λ p1 a=>aL 40 a λ b c=>cE (λ K1=>fA 40 p1 1 λ d=>lA 37 d (drew c) λ e=>fA 40 p1 2 λ f=>lA 37 f (drew c) λ g=>fA 40 p1 3 λ h=>
 lA 35 h (drew c) λ j=>fA 40 p1 4 λ k=>lA 35 k (drew c) λ l=>((cF 49 [e] (drew c) λ n o=>kA 37 f g o (kA 35 h j o (kA 35 k l o (((cF 49 [g] o λ p q=>kA 35 h j q (kA 35 k l q (
 ((cF 50 [j] q λ s t=>kA 35 k l t (((cF 50 [l] t λ u v=>cU Tryz.prog (Instr.build 40 [(1,n),(2,p),(3,s),(4,u)].toArray) λ x=>aL 40 v λ q3 y=>kA 37 d e y (kA 37 f g y (
 kA 35 h j y (kA 35 k l y (sA 40 q3 x y λ z=>K1 q3 z)))))
 /\((aL 40 t λ alo aa=>kA 37 d e aa (kA 37 f g aa (kA 35 h j aa (kA 35 k l aa (cF 50 [l] aa λ ab ac=>cU Tryz.prog (Instr.build 40 [(1,n),(2,p),(3,s),(4,ab)].toArray) λ ad=>
 sA 40 alo ad ac λ ae=>K1 alo ae)))))
 /\
 True))))
 /\((aL 40 q λ alp af=>kA 37 d e af (kA 37 f g af (kA 35 h j af (kA 35 k l af (cF 50 [j] af λ ag ah=>kA 35 k l ah (cF 50 [l] ah λ ai aj=>cU Tryz.prog (Instr.build 40 [(1,n),(2,p),(3,ag),(4,ai)].toArray) λ ak=>
 sA 40 alp ak aj λ al=>K1 alp al))))))
 /\
 True)))))
 /\((aL 40 o λ alq am=>kA 37 d e am (kA 37 f g am (kA 35 h j am (kA 35 k l am (cF 49 [g] am λ an ao=>kA 35 h j ao (kA 35 k l ao (cF 50 [j] ao λ ap aq=>kA 35 k l aq (cF 50 [l] aq λ ar asx=>
 cU Tryz.prog (Instr.build 40 [(1,n),(2,an),(3,ap),(4,ar)].toArray) λ au=>sA 40 alq au asx λ av=>K1 alq av))))))))
 /\
 True))))))
 /\((aL 40 (drew c) λ alr aw=>kA 37 d e aw (kA 37 f g aw (kA 35 h j aw (kA 35 k l aw (cF 49 [e] aw λ ax ay=>kA 37 f g ay (kA 35 h j ay (kA 35 k l ay (cF 49 [g] ay λ az a0=>
 kA 35 h j a0 (kA 35 k l a0 (cF 50 [j] a0 λ a1 a2=>kA 35 k l a2 (cF 50 [l] a2 λ a3 a4=>cU Tryz.prog (Instr.build 40 [(1,ax),(2,az),(3,a1),(4,a3)].toArray) λ a5=>sA 40 alr a5 a4 λ a6=>
 K1 alr a6)))))))))))
 /\
 True))) (λ UH a7=>∀ _:Env,
 fA 40 p1 0 λ a8=>lA 36 a8 a7 λ a9=>lN 36 a9 λ ba=>fh (λ K2 bb bc=>∀ _:Env,
 bA .lss 3 bb ba λ bd=>cV bd (iA 36 a9 bb λ be=>lA 37 be bc λ bf=>fA 40 UH 0 λ bg=>lA 36 bg (drew bc) λ bh=>cF 49 [bf] (drew bc) λ bi bj=>kA 36 bg bh bj (bS 36 1 [(0,bi)] bj λ bk bl=>
 kA 36 bg bh bl (aP 36 bh bk bl λ bm bn=>fA 40 UH 0 λ bo=>sA 36 bo bm bn λ bp=>bB .add 3 bb (i 1) λ bq=>K2 bq bp))) (fA 40 p1 5 λ br=>lA 38 br bc λ bs=>lN 38 bs λ bt=>
 fh (λ K3 bu bv=>∀ _:Env,
 bA .lss 3 bu bt λ bw=>cV bw (iA 38 bs bu λ bx=>lA 112 bx bv λ bz=>aL 112 bv λ c7 b0=>sA 112 c7 bz b0 λ b1=>fA 40 UH 5 λ b2=>lA 38 b2 (drew b1) λ b3=>fA 112 c7 0 λ b4=>
 lA 22 b4 (drew b1) λ b5=>cF 51 [b5] (drew b1) λ b6 b7=>kA 38 b2 b3 b7 (cU Tryz.prog (Instr.build 112 [(0,b6)].toArray) λ b8=>bS 38 1 [(0,b8)] b7 λ b9 ca=>kA 38 b2 b3 ca (
 aP 38 b3 b9 ca λ cb cc=>fA 40 UH 5 λ cd=>sA 38 cd cb cc λ ce=>bB .add 3 bu (i 1) λ cf=>K3 cf ce))) (lA 40 UH bv λ cg=>sA 40 b cg bv λ ch=>lA 40 b ch λ r=>
 K r ch)) (λ K3=>K3 (i 0) bc))) (λ K2=>K2 (i 0) a7))
def P11:eh:=λ i=>match i with
 | 1=>(.op 0 [] (.op 1 [] (.op 3 [] (.op 4 [] (.op 6 [] (.op 7 [] (.op 9 [] (.op 10 [] (.alt 2 [4,7,10] (.alt 5 [7,10] (.alt 8 [10] (.alt 11 [] (.of [(12,[]),(13,[1,4,7,10]),(14,[])]) (.alt 13 [1,4,7,10] (.of [(11,[]),(12,[]),(14,[])]) .stop)) (.alt 13 [1,4,7,10] (.of [(8,[10]),(11,[]),(12,[]),(14,[])]) .stop)) (.alt 13 [1,4,7,10] (.of [(5,[7,10]),(8,[10]),(11,[]),(12,[]),(14,[])]) .stop)) (.alt 13 [1,4,7,10] (.of [(2,[4,7,10]),(5,[7,10]),(8,[10]),(11,[]),(12,[]),(14,[])]) .stop))))))))))
 | 5=>(.of [(0,[]),(1,[]),(2,[]),(3,[1]),(4,[1]),(5,[]),(6,[]),(7,[])])
 | 10=>(.of [(0,[]),(1,[]),(2,[]),(3,[]),(4,[1]),(5,[]),(6,[1]),(7,[]),(8,[]),(9,[])])
 | _=>.nil
theorem afj (p0:Value) (h:S11 w K p0):CR 11 [p0] w K:=
 eN 54 P11 4 [.cell 2 40] Tryz.func11 h
theorem als:PL 11:=dW Tryz.func11
end Go.Proofs.YtfkgkbhbdffckaaGreatDoor
namespace Go.Proofs.YtfkgkbhbdffckaaGreatDoor
open Go.Fw
theorem UI (a0:Option Addr) (n0 c0:Nat):pr Tryz.prog (Instr.build 112 [(0,.slice a0 n0 c0)].toArray)=some (.agg [.slice a0 n0 c0,.int .i64 0].toArray):=by kernel_rfl
theorem C11 (p:bQ) (pv:bE) (w:World) (hp:Deep.dr w pv p) (hz:PZ p):CR 11 [Flat.val pv] w (λ v w'=>∃ qv:bE,v=Flat.val qv/\mZ (e9 (λ w=>Deep.dr w qv (iv p))) w w'):=by
 obtain ⟨g0,g1,g2,g3,g4,g5,rfl,hl,oP,Bs,ht,hr,hc⟩:=hp
 have hze:∀ t∈gL p,∀ x∈t.body,x.e.length<=1048576/\x.f.length<=1048576:=λ t h x hx=>by
  have h1:NH t:=by
   rcases List.mem_append.1 h with h | h
   ·exact hz.zt t h
   ·exact hz.zr t h
  exact ⟨(h1.2.2 x hx).2.2.1,(h1.2.2 x hx).2.2.2.1⟩
 have hzc:∀ c∈p.dF,c.e.length<=1048576:=λ c h=>(hz.zc c h).1;have hv:=DL.flat oP;have hk:=DL.flat Bs;obtain ⟨ls,hRl,hDl⟩:=hl.open;have hln:ls.length=p.lines.length:=hDl.1;obtain ⟨cs,hRc,hDc⟩:=hc.open;have hcn:cs.length=p.dF.length:=hDc.1;have z1:p.fr.length<=1048576:=Nat.le_trans hz.fr (by decide);have z2:p.dL.length<=1048576:=Nat.le_trans hz.dL (by decide);have z0:=hz.lines;have z5:=hz.dF;have zt:∀ t∈p.threads,t.cW.length<=500/\t.body.length<=500/\∀ x∈t.body,x.e.length<=1048576/\x.f.length<=1048576:=λ t h=>⟨hz.cW t (List.mem_append_left _ h),hz.body t (List.mem_append_left _ h),hze t (List.mem_append_left _ h)⟩
 have zr:∀ t∈p.recover,t.cW.length<=500/\t.body.length<=500/\∀ x∈t.body,x.e.length<=1048576/\x.f.length<=1048576:=λ t h=>⟨hz.cW t (List.mem_append_right _ h),hz.body t (List.mem_append_right _ h),hze t (List.mem_append_right _ h)⟩;have hs:=St.start w;refine afj _ _ _ ?_;unfold S11;refine cZ (x:=(⟨g0,g1,g2,g3,g4,g5⟩:bE)) hs (λ b1 _ hs=>aN hs mN (λ b2 _ hs=>?_));have hs:=hs.enc (cs':=Flat.enc (⟨(⟨none,0,0⟩:SV),(⟨none,0,0⟩:SV),(⟨none,0,0⟩:SV),(⟨none,0,0⟩:SV),(⟨none,0,0⟩:SV),(⟨none,0,0⟩:SV)⟩:bE)) rfl;refine ⟨λ jv w'=>∃ (q:Nat) (uE tZ rF uF:SV),jv = .pointer (some ⟨q,0,none⟩)/\St w bD [cP q (Flat.enc (⟨(⟨none,0,0⟩:SV),uE,tZ,rF,uF,(⟨none,0,0⟩:SV)⟩:bE)),e9 (λ w=>DL w (Flat.val uF) (p.recover.map fH)/\DL w (Flat.val rF) (p.threads.map fH)/\dx (λ _=>True) w (Flat.val tZ) (p.dL.map gY)/\dx (λ _=>True) w (Flat.val uE) (p.fr.map gY)),cP b2 (Flat.enc (⟨(⟨none,0,0⟩:SV),(⟨none,0,0⟩:SV),(⟨none,0,0⟩:SV),(⟨none,0,0⟩:SV),(⟨none,0,0⟩:SV),(⟨none,0,0⟩:SV)⟩:bE)),cP b1 (Flat.enc (⟨g0,g1,g2,g3,g4,g5⟩:bE))] w',?_,?_⟩
 ·have fin:∀ (q:Nat) (uE tZ rF uF:SV) (w':World),St w bD [cP q (Flat.enc (⟨(⟨none,0,0⟩:SV),uE,tZ,rF,uF,(⟨none,0,0⟩:SV)⟩:bE)),e9 (λ w=>DL w (Flat.val uF) (p.recover.map fH)/\DL w (Flat.val rF) (p.threads.map fH)/\dx (λ _=>True) w (Flat.val tZ) (p.dL.map gY)/\dx (λ _=>True) w (Flat.val uE) (p.fr.map gY)),cP b2 (Flat.enc (⟨(⟨none,0,0⟩:SV),(⟨none,0,0⟩:SV),(⟨none,0,0⟩:SV),(⟨none,0,0⟩:SV),(⟨none,0,0⟩:SV),(⟨none,0,0⟩:SV)⟩:bE)),cP b1 (Flat.enc (⟨g0,g1,g2,g3,g4,g5⟩:bE))] w'->∃ (q':Nat) (uE tZ rF uF:SV),Value.pointer (some ⟨q,0,none⟩) = .pointer (some ⟨q',0,none⟩)/\St w bD [cP q' (Flat.enc (⟨(⟨none,0,0⟩:SV),uE,tZ,rF,uF,(⟨none,0,0⟩:SV)⟩:bE)),e9 (λ w=>DL w (Flat.val uF) (p.recover.map fH)/\DL w (Flat.val rF) (p.threads.map fH)/\dx (λ _=>True) w (Flat.val tZ) (p.dL.map gY)/\dx (λ _=>True) w (Flat.val uE) (p.fr.map gY)),cP b2 (Flat.enc (⟨(⟨none,0,0⟩:SV),(⟨none,0,0⟩:SV),(⟨none,0,0⟩:SV),(⟨none,0,0⟩:SV),(⟨none,0,0⟩:SV),(⟨none,0,0⟩:SV)⟩:bE)),cP b1 (Flat.enc (⟨g0,g1,g2,g3,g4,g5⟩:bE))] w':=λ q uE tZ rF uF _ h=>⟨q,uE,tZ,rF,uF,rfl,h⟩
  have hs:=hs.drew;refine aA vG (aB (v:=Flat.val (g1:SV)) iP hs.p1.hb rfl (aA sY (aB (v:=Flat.val (g2:SV)) iP hs.p1.hb rfl (aA qo (aB (v:=Flat.val (g3:SV)) fg hs.p1.hb rfl (aA sZ (aB (v:=Flat.val (g4:SV)) fg hs.p1.hb rfl ⟨dA Pc hs (C49 (Flat.val g1) p.fr _ (hv.ext hs.aE) z1) (λ x10 w10 cL hs=>⟨aD iP (hs.p2.hb.cell rfl),⟨aD fg (hs.p2.hb.cell rfl),⟨aD fg (hs.p2.hb.cell rfl),⟨dA Pc hs (C49 (Flat.val g2) p.dL _ (hk.ext hs.aE) z2) (λ x13 w11 cL hs=>⟨aD fg (hs.p3.hb.cell rfl),⟨aD fg (hs.p3.hb.cell rfl),⟨dA E7 hs (C50 (Flat.val g3) p.threads _ (ht.ext hs.aE) hz.threads zt) (λ x16 w12 cL hs=>⟨aD fg (hs.p4.hb.cell rfl),⟨?_,?_,trivial⟩⟩),?_,trivial⟩⟩⟩),?_,trivial⟩⟩⟩⟩),?_,trivial⟩)))))))
  ·refine dA E7 hs (C50 (Flat.val g4) p.recover _ (hr.ext hs.aE) hz.recover zr) (λ x19 w13 cL hs=>?_);obtain ⟨uE,rfl⟩:=(hs.p3).eT;obtain ⟨tZ,rfl⟩:=(hs.p2).eT;obtain ⟨rF,rfl⟩:=(hs.p1).dl.eT;obtain ⟨uF,rfl⟩:=(hs).dl.eT;refine pop (fu _ _ _ _ _ _ _ _ _ _ _ _) (aN hs mN (λ q Oy hs=>?_));refine ⟨aD iP (hs.p6.hb.cell rfl),?_⟩;refine ⟨aD iP (hs.p6.hb.cell rfl),?_⟩;refine ⟨aD fg (hs.p6.hb.cell rfl),?_⟩;refine ⟨aD fg (hs.p6.hb.cell rfl),?_⟩;exact aO (x:=(⟨(⟨none,0,0⟩:SV),uE,tZ,rF,uF,(⟨none,0,0⟩:SV)⟩:bE)) hs gR rfl rfl (λ _ hs=>have hs:=(((((((((hs.p4.freeze).p4).freeze).ey).p3).gJ).ey).p2).gJ).ey;fin _ _ _ _ _ _ hs.p1)
  ·refine aN hs mN (λ q w16 hs=>?_);refine ⟨aD iP (hs.p5.hb.cell rfl),?_⟩;refine ⟨aD iP (hs.p5.hb.cell rfl),?_⟩;refine ⟨aD fg (hs.p5.hb.cell rfl),?_⟩;refine ⟨aD fg (hs.p5.hb.cell rfl),?_⟩;refine dA E7 hs (C50 (Flat.val g4) p.recover _ (hr.ext hs.aE) hz.recover zr) (λ x19 _ cL hs=>?_);obtain ⟨uE,rfl⟩:=(hs.p4).eT;obtain ⟨tZ,rfl⟩:=(hs.p3).eT;obtain ⟨rF,rfl⟩:=(hs.p2).dl.eT;obtain ⟨uF,rfl⟩:=(hs).dl.eT;exact pop (fu _ _ _ _ _ _ _ _ _ _ _ _) (aO (x:=(⟨(⟨none,0,0⟩:SV),uE,tZ,rF,uF,(⟨none,0,0⟩:SV)⟩:bE)) hs.p1 gR rfl rfl (λ _ hs=>have hs:=(((((((((hs.p4.freeze).p4).freeze).ey).p3).gJ).ey).p2).gJ).ey;fin _ _ _ _ _ _ hs.p1))
  ·refine aN hs mN (λ q _ hs=>?_);refine ⟨aD iP (hs.p4.hb.cell rfl),?_⟩;refine ⟨aD iP (hs.p4.hb.cell rfl),?_⟩;refine ⟨aD fg (hs.p4.hb.cell rfl),?_⟩;refine ⟨aD fg (hs.p4.hb.cell rfl),?_⟩;refine dA E7 hs (C50 (Flat.val g3) p.threads _ (ht.ext hs.aE) hz.threads zt) (λ x16 _ cL hs=>?_);refine ⟨aD fg (hs.p5.hb.cell rfl),?_⟩;refine dA E7 hs (C50 (Flat.val g4) p.recover _ (hr.ext hs.aE) hz.recover zr) (λ x19 _ cL hs=>?_);obtain ⟨uE,rfl⟩:=(hs.p4).eT;obtain ⟨tZ,rfl⟩:=(hs.p3).eT;obtain ⟨rF,rfl⟩:=(hs.p1).dl.eT;obtain ⟨uF,rfl⟩:=(hs).dl.eT;exact pop (fu _ _ _ _ _ _ _ _ _ _ _ _) (aO (x:=(⟨(⟨none,0,0⟩:SV),uE,tZ,rF,uF,(⟨none,0,0⟩:SV)⟩:bE)) hs.p2 gR rfl rfl (λ _ hs=>have hs:=(((((((((hs.p4.freeze).p4).freeze).ey).p3).gJ).ey).p2).gJ).ey;fin _ _ _ _ _ _ hs.p1))
  ·refine aN hs mN (λ q _ hs=>?_);refine ⟨aD iP (hs.p3.hb.cell rfl),?_⟩;refine ⟨aD iP (hs.p3.hb.cell rfl),?_⟩;refine ⟨aD fg (hs.p3.hb.cell rfl),?_⟩;refine ⟨aD fg (hs.p3.hb.cell rfl),?_⟩;refine dA Pc hs (C49 (Flat.val g2) p.dL _ (hk.ext hs.aE) z2) (λ x13 _ cL hs=>?_);refine ⟨aD fg (hs.p4.hb.cell rfl),?_⟩;refine ⟨aD fg (hs.p4.hb.cell rfl),?_⟩;refine dA E7 hs (C50 (Flat.val g3) p.threads _ (ht.ext hs.aE) hz.threads zt) (λ x16 _ cL hs=>?_);refine ⟨aD fg (hs.p5.hb.cell rfl),?_⟩;refine dA E7 hs (C50 (Flat.val g4) p.recover _ (hr.ext hs.aE) hz.recover zr) (λ x19 _ cL hs=>?_)
   obtain ⟨uE,rfl⟩:=(hs.p4).eT;obtain ⟨tZ,rfl⟩:=(hs.p2).eT;obtain ⟨rF,rfl⟩:=(hs.p1).dl.eT;obtain ⟨uF,rfl⟩:=(hs).dl.eT;exact pop (fu _ _ _ _ _ _ _ _ _ _ _ _) (aO (x:=(⟨(⟨none,0,0⟩:SV),uE,tZ,rF,uF,(⟨none,0,0⟩:SV)⟩:bE)) hs.p3 gR rfl rfl (λ _ hs=>have hs:=(((((((((hs.p4.freeze).p4).freeze).ey).p3).gJ).ey).p2).gJ).ey;fin _ _ _ _ _ _ hs.p1))
  refine aN hs mN (λ q _ hs=>?_);refine ⟨aD iP (hs.p2.hb.cell rfl),?_⟩;refine ⟨aD iP (hs.p2.hb.cell rfl),?_⟩;refine ⟨aD fg (hs.p2.hb.cell rfl),?_⟩;refine ⟨aD fg (hs.p2.hb.cell rfl),?_⟩;refine dA Pc hs (C49 (Flat.val g1) p.fr _ (hv.ext hs.aE) z1) (λ x10 _ cL hs=>?_);refine ⟨aD iP (hs.p3.hb.cell rfl),?_⟩;refine ⟨aD fg (hs.p3.hb.cell rfl),?_⟩;refine ⟨aD fg (hs.p3.hb.cell rfl),?_⟩;refine dA Pc hs (C49 (Flat.val g2) p.dL _ (hk.ext hs.aE) z2) (λ x13 _ cL hs=>?_);refine ⟨aD fg (hs.p4.hb.cell rfl),?_⟩;refine ⟨aD fg (hs.p4.hb.cell rfl),?_⟩;refine dA E7 hs (C50 (Flat.val g3) p.threads _ (ht.ext hs.aE) hz.threads zt) (λ x16 _ cL hs=>?_)
  refine ⟨aD fg (hs.p5.hb.cell rfl),?_⟩;refine dA E7 hs (C50 (Flat.val g4) p.recover _ (hr.ext hs.aE) hz.recover zr) (λ x19 _ cL hs=>?_);obtain ⟨uE,rfl⟩:=(hs.p3).eT;obtain ⟨tZ,rfl⟩:=(hs.p2).eT;obtain ⟨rF,rfl⟩:=(hs.p1).dl.eT;obtain ⟨uF,rfl⟩:=(hs).dl.eT;exact pop (fu _ _ _ _ _ _ _ _ _ _ _ _) (aO (x:=(⟨(⟨none,0,0⟩:SV),uE,tZ,rF,uF,(⟨none,0,0⟩:SV)⟩:bE)) hs.p4 gR rfl rfl (λ _ hs=>have hs:=(((((((((hs.p4.freeze).p4).freeze).ey).p3).gJ).ey).p2).gJ).ey;fin _ _ _ _ _ _ hs.p1))
 rintro _ _ ⟨q,uE,tZ,rF,uF,rfl,hs⟩ _;refine aA jk (aB (v:=Flat.val (g0:SV)) rB hs.p3.hb rfl (aG rT (hRl.ext hs.aE) ?_));refine ⟨λ mm y w'=>∃ (k:Nat) (sl:SV),y = .int .i64 (k:Int)/\mm=ls.length - k/\k<=p.lines.length/\St w bD [fq (Flat.val sl) ((p.lines.take k).map λ x:List bP=>x.map gY),cP q (Flat.enc (⟨sl,uE,tZ,rF,uF,(⟨none,0,0⟩:SV)⟩:bE)),e9 (λ w=>DL w (Flat.val uF) (p.recover.map fH)/\DL w (Flat.val rF) (p.threads.map fH)/\dx (λ _=>True) w (Flat.val tZ) (p.dL.map gY)/\dx (λ _=>True) w (Flat.val uE) (p.fr.map gY)),cP b2 (Flat.enc (⟨(⟨none,0,0⟩:SV),(⟨none,0,0⟩:SV),(⟨none,0,0⟩:SV),(⟨none,0,0⟩:SV),(⟨none,0,0⟩:SV),(⟨none,0,0⟩:SV)⟩:bE)),cP b1 (Flat.enc (⟨g0,g1,g2,g3,g4,g5⟩:bE))] w',⟨_,0,(⟨none,0,0⟩:SV),rfl,rfl,Nat.zero_le _,hs.DZ⟩,?_⟩
 rintro mm _ _ ⟨k,sl,rfl,rfl,wP,hs⟩ _;refine aS (aC (λ c1=>?_) (λ c1=>?_))
 ·obtain ⟨l,vi⟩:∃ l,p.lines[k]? = some l:=⟨_,List.getElem?_eq_getElem (by omega)⟩;obtain ⟨gl,hgl⟩:∃ gl,ls[((k:Nat):Int).toNat]? = some gl:=⟨_,List.getElem?_eq_getElem (by omega)⟩;have hdl:DL w (Flat.val gl) l:=hDl.2 k gl l hgl vi;have zl:l.length<=1048576:=Nat.le_trans (hz.line l (List.mem_of_getElem? vi)) (by decide);refine aU rT hRl (by omega) hgl (λ q26 h26=>aF iP (h26.ext hs.aE) (have hs:=hs.drew;aA jk (aB (v:=Flat.val (sl:SV)) rB hs.p1.hb rfl (dA Pc hs (C49 (Flat.val gl) l _ ((DL.flat hdl).ext hs.aE) zl) (λ x31 _ cL hs=>?_)))));refine ⟨aD rB (hs.p2.hb.cell rfl),?_⟩;obtain ⟨s31,rfl⟩:=(hs).eT
  have hs:=hs.freeze.fC (Ψ:=λ w=>Deep.dr w s31 (l.map gY)) (λ _ h=>DL.jS h);refine gu (x:=l.map gY) (s:=s31) hs rT (by decide) (λ s32 _ hs=>?_);refine ⟨aD rB (hs.p2.hb.cell rfl),?_⟩;refine gv hs.p1 rT (by rw [List.length_map,List.length_take,List.length_singleton]; omega) (by decide) (λ Zy _ hs=>?_);obtain ⟨sl2,rfl⟩:=(hs).dl.eT;exact aA jk (bF hs.p1 rB (fw rfl) rfl (λ _ hs=>have hs:=hs.enc (cs':=Flat.enc (⟨sl2,uE,tZ,rF,uF,(⟨none,0,0⟩:SV)⟩:bE)) rfl;aT (by omega) ⟨_,by omega,k+1,sl2,rfl,rfl,by omega,by rw [<- fO (k:=k) vi]; exact hs.p1⟩))
 rw [List.take_of_length_le (by omega)] at hs;refine aA kY (aB (v:=Flat.val (g5:SV)) tP hs.p4.hb rfl (aG vF (hRc.ext hs.aE) ?_));refine ⟨λ mm y w'=>∃ (k:Nat) (sc:SV),y = .int .i64 (k:Int)/\mm=cs.length - k/\k<=p.dF.length/\St w bD [fq (Flat.val sc) ((p.dF.take k).map E4),fq (Flat.val sl) (p.lines.map λ x:List bP=>x.map gY),cP q (Flat.enc (⟨sl,uE,tZ,rF,uF,sc⟩:bE)),e9 (λ w=>DL w (Flat.val uF) (p.recover.map fH)/\DL w (Flat.val rF) (p.threads.map fH)/\dx (λ _=>True) w (Flat.val tZ) (p.dL.map gY)/\dx (λ _=>True) w (Flat.val uE) (p.fr.map gY)),cP b2 (Flat.enc (⟨(⟨none,0,0⟩:SV),(⟨none,0,0⟩:SV),(⟨none,0,0⟩:SV),(⟨none,0,0⟩:SV),(⟨none,0,0⟩:SV),(⟨none,0,0⟩:SV)⟩:bE)),cP b1 (Flat.enc (⟨g0,g1,g2,g3,g4,g5⟩:bE))] w',⟨_,0,(⟨none,0,0⟩:SV),rfl,rfl,Nat.zero_le _,hs.DZ⟩,?_⟩
 rintro mm _ _ ⟨k,sc,rfl,rfl,wP,hs⟩ _;refine aS (aC (λ c2=>?_) (λ c2=>?_))
 ·obtain ⟨c,Np⟩:∃ c,p.dF[k]? = some c:=⟨_,List.getElem?_eq_getElem (by omega)⟩;obtain ⟨gc,hgc⟩:∃ gc,cs[((k:Nat):Int).toNat]? = some gc:=⟨_,List.getElem?_eq_getElem (by omega)⟩;obtain ⟨ge,rfl,FB⟩:=hDc.2 k gc c hgc Np;refine aU vF hRc (by omega) hgc (λ q41 h41=>aF FI (h41.ext hs.aE) (aN hs Lg (λ b7 w10 hs=>aO (x:=(⟨ge,c.at_⟩:jD)) hs FI rfl rfl (λ w11 hs=>have hs:=hs.drew;aA kY (aB (v:=Flat.val (sc:SV)) tP hs.p3.hb rfl (aA vJ (aB (v:=Flat.val (ge:SV)) m9 hs.hb rfl (dA afg hs (C51 (Flat.val ge) c.e _ ((DL.flat FB).ext hs.aE) (hzc c (List.mem_of_getElem? Np))) (λ x47 w12 cL hs=>?_)))))))))
  refine ⟨aD tP (hs.p4.hb.cell rfl),?_⟩;obtain ⟨s47,rfl⟩:=(hs).eT;refine pop (UI _ _ _) (have hs:=hs.freeze.fC (Ψ:=λ w=>Deep.dr w (⟨s47,0⟩:jD) (E4 c)) (λ _ h=>⟨s47,rfl,DL.jS h⟩);gu (x:=E4 c) (s:=(⟨s47,0⟩:jD)) hs vF (by decide) (λ s49 w13 hs=>?_));refine ⟨aD tP (hs.p4.hb.cell rfl),?_⟩;refine gv hs.p2 vF (by rw [List.length_map,List.length_take,List.length_singleton]; omega) (by decide) (λ s50 Oy hs=>?_);obtain ⟨sc2,rfl⟩:=(hs).dl.eT;exact aA kY (bF hs.p3 tP (fw rfl) rfl (λ _ hs=>have hs:=hs.enc (cs':=Flat.enc (⟨sl,uE,tZ,rF,uF,sc2⟩:bE)) rfl;aT (by omega) ⟨_,by omega,k+1,sc2,rfl,rfl,by omega,by rw [<- fO (k:=k) Np]; exact ((hs.p2).drop).p1.p2.p1⟩))
 rw [List.take_of_length_le (by omega)] at hs;refine aF (x:=(⟨sl,uE,tZ,rF,uF,sc⟩:bE)) gR hs.p2.At (aO (x:=(⟨sl,uE,tZ,rF,uF,sc⟩:bE)) hs.p4 gR rfl rfl (λ w16 hs=>aF (x:=(⟨sl,uE,tZ,rF,uF,sc⟩:bE)) gR hs.At ?_));refine ⟨(⟨sl,uE,tZ,rF,uF,sc⟩:bE),rfl,?_⟩;have hs:=((((hs.p1.gJ.p2).gJ).ey).p3).ey;exact (hs.fC (Ψ:=λ w=>Deep.dr w (⟨sl,uE,tZ,rF,uF,sc⟩:bE) (iv p)) λ _ h=>⟨_,_,_,_,_,_,rfl,h.2.1,DL.jS h.1.2.2.2,DL.jS h.1.2.2.1,h.1.2.1,h.1.1,h.2.2⟩).fresh
variable (w:World) (K:Value->World->Prop)
def S4 (p0 tK:Value):Prop:=
 gd Tryz.prog (Instr.box 40 p0) w λ p2 a=>lA 40 p2 a λ b=>cF 10 [b] a λ c d=>sA 40 p2 c d λ e=>lA 40 p2 e λ f=>cF 6 [f,(i 2)] e λ g h=>xT g 0 λ j=>xT g 1 λ k=>
 lA 40 p2 h λ l=>cF 11 [l] h λ n o=>cF 6 [n,(i 2)] o λ p q=>xT p 0 λ r=>xT p 1 λ s=>cE (λ K1=>bB .neq 29 k (i 0) λ t=>cV t (K1 tt q) (bB .neq 29 s (i 0) λ u=>
 K1 u q)) (λ v x=>∀ _:Env,
 cV v (cE (λ K2=>bB .eql 28 j (.pointer none) λ y=>bB .neq 29 k (i 0) λ z=>bA .eql 4 y z λ aa=>cV aa (bB .eql 28 r (.pointer none) λ ab=>bB .neq 29 s (i 0) λ ac=>
 bA .eql 4 ab ac λ ad=>cV ad (cF 9 [] x λ ae af=>K2 ae af) (K2 ff x)) (K2 ff x)) (λ ag ah=>∀ _:Env,
 K ag ah)) (cE (λ K3=>bB .eql 28 j (.pointer none) λ ai=>cV ai (K3 tt x) (bB .eql 28 r (.pointer none) λ aj=>K3 aj x)) (λ ak al=>∀ _:Env,
 cV ak (K ff al) (fh (λ K4 i9 am=>∀ _:Env,
 cE (λ K5=>lN 53 tK λ an=>bA .lss 3 i9 an λ ao=>cV ao (bB .lss 3 i9 (i 40) λ ap=>K5 ap am) (K5 ff am)) (λ aq ar=>∀ _:Env,
 cV aq (rI (λ K6=>cF 8 [j] ar λ asx au=>bS 55 0 [] au λ av aw=>aL 49 aw λ ax ay=>sA 49 ax asx ay λ az=>cE (λ K7=>cE (λ K8=>iA 53 tK i9 λ a0=>fA 57 a0 0 λ a1=>
 lA 3 a1 az λ a2=>bB .eql 3 a2 (i 1) λ a3=>cV a3 (fA 49 ax 0 λ a4=>lA 3 a4 az λ a5=>bB .lss 3 a5 (i 2) λ a6=>K8 a6 az) (K8 ff az)) (λ a7 a8=>∀ _:Env,
 cV a7 (cF 12 [j] a8 λ a9 ba=>K7 a9 ba) (K7 av a8))) (λ TK bb=>∀ _:Env,
 cF 13 [j] bb λ bc bd=>cE (λ K9=>cF 13 [r] (drew bd) λ be bf=>cF 14 [bc,be] bf λ bg bh=>cU Tryz.prog (Op.unary .not bg) λ bi=>cV bi (K9 tt bh) (lA 49 ax bh λ bj=>
 cF 8 [r] bh λ bk bl=>kA 49 ax bj bl (bA .neq 49 bj bk λ bm=>cV bm (K9 tt bl) (cF 16 [j] bl λ bn bo=>cF 16 [r] bo λ bp bq=>cF 15 [bn,bp] bq λ br bs=>cU Tryz.prog (Op.unary .not br) λ bt=>
 K9 bt bs)))) (λ bu bv=>∀ _:Env,
 cV bu (K ff bv) (cE (λ K10=>iA 53 tK i9 λ bw=>lA 57 bw (drew bv) λ bx=>fA 49 ax 0 λ bz=>lA 3 bz (drew bv) λ b0=>((cF 17 [bx,bc,TK,b0] (drew bv) λ b1 b2=>
 aL 47 b2 λ k13 b3=>kA 57 bw bx b3 (kA 3 bz b0 b3 (sA 47 k13 b1 b3 λ b4=>K10 k13 b4)))
 /\((aL 47 (drew bv) λ abn b5=>kA 57 bw bx b5 (kA 3 bz b0 b5 (cF 17 [bx,bc,TK,b0] b5 λ b6 b7=>sA 47 abn b6 b7 λ b8=>K10 abn b8)))
 /\
 True))) (λ abo b9=>∀ _:Env,
 lA 47 abo b9 λ ca=>cF 7 [j,ca] b9 λ cb cc=>xT cb 0 λ cd=>xT cb 1 λ ce=>aL 42 cc λ v14 cf=>sA 42 v14 cd cf λ cg=>lA 47 abo cg λ ch=>cF 7 [r,ch] cg λ ci cj=>
 xT ci 0 λ ck=>xT ci 1 λ cl=>aL 42 cj λ az cm=>sA 42 az ck cm λ cn=>cE (λ K11=>lA 42 v14 cn λ co=>lA 42 az cn λ cp=>bA .neq 42 co cp λ cq=>cV cq (K11 tt cn) (
 bA .neq 29 ce cl λ cr=>K11 cr cn)) (λ cs ct=>∀ _:Env,
 cV cs (K ff ct) (K6 ct))))))) (λ cu=>∀ _:Env,
 bB .add 3 i9 (i 1) λ cv=>K4 cv cu)) (cF 9 [] ar λ cw cx=>K cw cx))) (λ K4=>K4 (i 0) al)))))
def P4:eh:=λ i=>match i with
 | 15=>(.of [(0,[]),(1,[]),(2,[]),(3,[]),(4,[]),(5,[]),(6,[]),(7,[]),(8,[6]),(9,[]),(10,[]),(11,[]),(12,[]),(14,[]),(13,[]),(15,[]),(16,[]),(17,[]),(18,[])])
 | 17=>(.op 0 [] (.op 1 [] (.op 2 [] (.op 3 [] (.op 4 [] (.op 5 [] (.op 6 [] (.op 7 [] (.alt 8 [] (.of [(9,[3,7]),(10,[])]) (.alt 9 [3,7] (.of [(8,[]),(10,[])]) .stop))))))))))
 | _=>.nil
theorem alv (p0 tK:Value) (h:S4 w K p0 tK):CR 4 [p0,tK] w K:=
 eN 135 P4 16 [.tmp 4] Tryz.func4 h
end Go.Proofs.YtfkgkbhbdffckaaGreatDoor
namespace Go.Fw
noncomputable section
abbrev Ov:=Nat->V->Hp->Nat->OR
def KJ (P:Program) (L:List Nat) (ov:Ov) (fs:Nat->FSx) (f:Nat):xq:=
 Nat.rec (motive:=λ _=>xq) (λ _ _ _ _=>.no)
  (λ _ ih c args h n=>c.Jp .no (λ g sq=>Bool.rec (motive:=λ _=>OR) (enter P ih (fs g) (xp args sq) h n) (ov g (xp args sq) h n) (fb g L)) (λ l=>round P ih l args h n)) f
end
section
variable {P:Program} {Fr:lO} {ρ:Rn} {h h':Hp} {w:World} {v:V} {n n':Nat}
def alw (P:Program) (L:List Nat) (ov:Ov):Prop:=∀ (g:Nat) (args:V) (h:Hp) (n:Nat) (v:V) (h':Hp) (n':Nat),fb g L=true->ov g args h n = .ok v h' n'->
 ∀ (Fr:lO) (ρ:Rn) (w:World) (xs:List Value),iB ρ args xs->RH P Fr ρ h w->Plain P g/\Calls P g xs.toArray w (mW (jV P Fr ρ v h'))
theorem KK (hm:P.follows .mixedOrders=true) {L M:List Nat} {ov:Ov} {nU:Nat->Nat->PT} (hov:alw P M ov) (iH:List.all L (okF P nU)=true):∀ f,m6 P (KJ P M ov (im L (il P nU)) f):=by
 intro f
 induction f with
 | zero=>intro c args h n v h' n' hh; cases hh
 | succ f ih=>
  intro c args h n v h' n' hh Fr ρ w x xs hx hA hR
  have hh:c.Jp .no (λ g sq=>Bool.rec (motive:=λ _=>OR) (enter P (KJ P M ov (im L (il P nU)) f) (im L (il P nU) g) (xp args sq) h n) (ov g (xp args sq) h n) (fb g M)) (λ l=>round P (KJ P M ov (im L (il P nU)) f) l args h n) = .ok v h' n':=hh
  rcases V.Gj c .no (λ g sq=>Bool.rec (motive:=λ _=>OR) (enter P (KJ P M ov (im L (il P nU)) f) (im L (il P nU) g) (xp args sq) h n) (ov g (xp args sq) h n) (fb g M)) (λ l=>round P (KJ P M ov (im L (il P nU)) f) l args h n) with h0 | ⟨g,sq,h0,h1⟩ | ⟨l,h0,h1⟩
  ·rw [h0] at hh; cases hh
  ·rw [h1] at hh
   rw [h0] at hx
   obtain ⟨ys,hys,hx⟩:=hx
   cases ho:fb g M with
   | true=>
    rw [ho] at hh
    obtain ⟨p1,p2⟩:=hov g _ h n v h' n' ho hh Fr ρ w _ (iB.app hA hys) hR
    exact ⟨.inl ⟨g,#[],ys.toArray,hx,p1,by simpa using p2⟩⟩
   | false=>
   rw [ho] at hh
   cases tM:fb g L with
   | false=>unfold im at hh; rw [tM] at hh; cases hh
   | true=>
    have ga:=List.all_eq_true.1 iH g (nI.1 tM)
    have he:im L (il P nU) g=il P nU g:=by unfold im; rw [tM]; rfl
    have hh:enter P (KJ P M ov (im L (il P nU)) f) (im L (il P nU) g) (xp args sq) h n = .ok v h' n':=hh
    rw [he] at hh
    obtain ⟨p1,p2⟩:=yo hm ih ga hh (iB.app hA hys) hR
    exact ⟨.inl ⟨g,#[],ys.toArray,hx,p1,by simpa using p2⟩⟩
  ·rw [h1] at hh
   rw [h0] at hx
   obtain ⟨q,hq,hx⟩:=hx
   exact ⟨.inr ⟨q.k,hx,yp hm ih hh hq hA hR⟩⟩
theorem Bq {w':World} {r:Nat} {o:Obj} (e:Ext w w') (hr:w.heap[r]? = some o):w'.heap[r]? = some o:=(e.cP r (Array.getElem?_eq_some_iff.1 hr).1 λ h=>h).trans hr
theorem RH.aq9 {w':World} (hR:RH P Fr ρ h w) (e:Ext w w'):RH P Fr ρ h w':=
 ⟨hR.fresh,λ b hb=>let ⟨q,o,h1,h2,h3⟩:=hR.lv b hb; ⟨q,o,h1,Bq e h2,h3⟩,hR.sep,λ r o hr=>Bq e (hR.qf r o hr),hR.off,hR.st.trans ⟨e.os,e.tape,e.output⟩⟩
end
section
variable {P:Program} {Fr:lO} {ρ:Rn} {h h':Hp} {w:World} {v:V} {n n':Nat}
structure rG where
 n:Nat
 m:Nat
 x:Int
 b:Nat
def rG.si (p:rG):SI:=(strOf p.n p.m,p.x)
def rG.en (p:rG):MapEntry:=⟨.string (strOf p.n p.m),.int .i64 p.x,p.b⟩
def Zz (b:Nat) (o:Option (List rG)):V->V->Option (List rG)
 | .s n m,.i .i64 x=>o.map (⟨n,m,x,b⟩ :: ·)
 | _,_=>none
theorem ZA {b:Nat} {o:Option (List rG)} {k u:V} {ps:List rG} (hh:Zz b o k u=some ps):∃ n m x ps',k = .s n m/\u = .i .i64 x/\o=some ps'/\ps=⟨n,m,x,b⟩::ps':=by
 unfold Zz at hh
 split at hh
 ·obtain ⟨ps',h5,rfl⟩:=Option.map_eq_some_iff.1 hh
  exact ⟨_,_,_,ps',rfl,rfl,h5,rfl⟩
 cases hh
noncomputable def ZB (l:ML):Option (List rG):=ML.rec (motive:=λ _=>Option (List rG)) (some []) (λ k v b _ ih=>Zz b ih k v) l
noncomputable def afk:List rG->ML
 | []=>.nil
 | p::r=>.cons (.s p.n p.m) (.i .i64 p.x) 0 (afk r)
theorem UJ:∀ l:List rG,RMs (afk l) (l.map rG.si)
 | []=>rfl
 | p::r=>⟨p.n,p.m,p.x,_,rfl,rfl,rfl,UJ r⟩
theorem ZC:∀ {l:ML} {es:List MapEntry} {ps:List rG},RM ρ l es->ZB l=some ps->es=ps.map rG.en:=by
 intro l
 induction l with
 | nil=>intro es ps hm hh; obtain rfl:es=[]:=hm; cases hh; rfl
 | cons k u b r ih=>
  intro es ps hm hh
  obtain ⟨e,mK,rfl,h1,h2,h3,h4⟩:=hm
  obtain ⟨n,m,x,ps',rfl,rfl,h5,rfl⟩:=ZA (show Zz b (ZB r) k u=some ps from hh)
  obtain rfl:=ih h4 h5
  cases e
  have h1:_=_:=h1
  have h2:_=_:=h2
  dsimp only at h1 h2 h3
  subst h1 h2 h3; rfl
noncomputable def xV (c:Nat):List rG->Bool
 | []=>true
 | p::r=>Nat.blt p.b c && (r.all (λ q=>!Nat.beq p.b q.b && !BJ p.n p.m q.n q.m) && xV c r)
theorem Iw {c:Nat}:∀ {l:List rG},xV c l=true->(∀ p∈l,p.b<c)/\(l.map rG.b).Nodup/\(l.map λ p=>Value.string (strOf p.n p.m)).Nodup
 | [],_=>⟨by simp,by simp,by simp⟩
 | p::r,hh=>by
  unfold xV at hh
  simp only [Bool.and_eq_true,List.all_eq_true,Bool.not_eq_true'] at hh
  obtain ⟨h1,h2,h3⟩:=hh
  obtain ⟨g1,g2,g3⟩:=Iw h3
  refine ⟨λ q hq=>?_,?_,?_⟩
  ·rcases List.mem_cons.1 hq with rfl | hq
   ·exact kz h1
   ·exact g1 q hq
  ·rw [List.map_cons,List.nodup_cons]
   refine ⟨λ hm=>?_,g2⟩
   obtain ⟨q,hq,e⟩:=List.mem_map.1 hm
   have:=(h2 q hq).1
   rw [e,Nat.beq_refl] at this; cases this
  ·rw [List.map_cons,List.nodup_cons]
   refine ⟨λ hm=>?_,g3⟩
   obtain ⟨q,hq,e⟩:=List.mem_map.1 hm
   have:=(h2 q hq).2
   rw [nz] at this
   injection e with e
   exact of_decide_eq_false this e.symm
theorem RH.jy {b c:Nat} {l:ML} {ps:List rG} (hR:RH P Fr ρ h w) (hb:dH h b = .m c l) (hc:c<4294967296) (hl:ZB l=some ps) (hs:xV c ps=true):∃ q,ρ b=some q/\pL w q.k (ps.map rG.si):=by
 obtain ⟨q,es,h1,h2,h3⟩:=hR.map hb hc
 obtain rfl:=ZC h3 hl
 obtain ⟨g1,g2,g3⟩:=Iw hs
 refine ⟨q,h1,_,_,h2,⟨?_,?_,?_⟩,?_⟩
 ·intro x hx
  obtain ⟨p,hp,rfl⟩:=List.mem_map.1 (show x∈ps.map rG.en by simpa using hx)
  exact g1 p hp
 ·have:((ps.map rG.en).map (·.born)).Nodup:=by rw [List.map_map]; exact g2
  simpa using this
 ·have:((ps.map rG.en).map (·.key)).Nodup:=by rw [List.map_map]; exact g3
  simpa using this
 simp only [List.map_map]
 exact List.Perm.refl _
noncomputable def UK (t:Tr V) (o l:Nat):Option (List (Nat × Nat)):=Nat.rec (motive:=λ _=>Option (List (Nat × Nat))) (some []) (λ i ih=>match qD t (o+i) with | .s n m=>ih.map (·++[(n,m)]) | _=>none) l
theorem Nf {t:Tr V} {o:Nat}:∀ {l:Nat} {ns:List (Nat × Nat)},UK t o l=some ns->ns.length=l/\∀ i p,ns[i]? = some p->qD t (o+i) = .s p.1 p.2
 | 0,ns,hh=>by cases hh; exact ⟨rfl,by simp⟩
 | l+1,ns,hh=>by
  have hh:(match qD t (o+l) with | .s n m=>(UK t o l).map (·++[(n,m)]) | _=>none)=some ns:=hh
  split at hh
  ·rename_i n m hg
   obtain ⟨ns',h5,rfl⟩:=Option.map_eq_some_iff.1 hh
   obtain ⟨g1,g2⟩:=Nf h5
   refine ⟨by simp [g1],λ i p hi=>?_⟩
   rw [List.getElem?_append] at hi
   split at hi
   ·exact g2 i p hi
   ·rename_i eU
    have:i=l:=by
     have:=(List.getElem?_eq_some_iff.1 hi).1
     simp at this; omega
    subst this
    rw [g1] at hi; simp at hi
    rw [<- hi]; exact hg
  ·cases hh
end
end Go.Fw
namespace Go.Proofs.YtfkgkbhbdffckaaGreatDoor
open Go.Fw
noncomputable section
def afl (B:HB) (o l:Nat):Option (List (Nat × Nat)):=match B with
 | .c n _ t=>bif Nat.ble (o+l) n then UK t o l else none
 | _=>none
def aly (h:Hp):V->Option (List (Nat × Nat))
 | .ns=>some []
 | .sl b o l _=>afl (dH h b) o l
 | .sx b o l _=>afl (dH h b) o l
 | _=>none
def afm:V->Bool
 | .ns=>true
 | .sl _ _ _ _=>true
 | .sx _ _ _ _=>true
 | .se=>true
 | _=>false
def KM (p:Nat × Nat):ByteArray:=strOf p.1 p.2
theorem Iy:∀ xs:List ByteArray,flat xs=xs.map Value.string
 | []=>rfl
 | x::r=>by have:=Iy r; simp only [flat,List.flatMap_cons,List.map_cons] at this |-; rw [this]; rfl
section
variable {P:Program} {Fr:lO} {ρ:Rn} {h h':Hp} {w:World} {v:V} {n n':Nat}
theorem ZD {B:V} {y:Value} (hB:afm B=true) (hy:RV ρ B y):∃ s:SV,y=Flat.val s:=by
 cases B <;> first | cases hB | skip
 case ns=>exact ⟨⟨none,0,0⟩,hy⟩
 case sl b o l d=>obtain ⟨q,_,_,rfl⟩:=hy; exact ⟨⟨_,_,_⟩,rfl⟩
 case sx b o l d=>obtain ⟨q,_,_,rfl⟩:=hy; exact ⟨⟨_,_,_⟩,rfl⟩
 case se=>obtain ⟨a,c,rfl⟩:=hy; exact ⟨⟨_,_,_⟩,rfl⟩
theorem Ng {b o l cap:Nat} {ns:List (Nat × Nat)} {q:Pl} (hR:RH P Fr ρ h w) (hq:ρ b=some q) (hl:l<=cap) (hh:afl (dH h b) o l=some ns):dx (λ _=>True) w (.slice (some ⟨q.k,q.b+o,none⟩) l cap) (ns.map KM):=by
 cases hg:dH h b <;> rw [hg] at hh <;> try (cases hh; done)
 rename_i n es t
 have hh:(bif Nat.ble (o+l) n then UK t o l else none)=some ns:=hh
 cases hb:Nat.ble (o+l) n <;> rw [hb] at hh
 ·cases hh
 have hb:=dQ hb
 obtain ⟨g1,g2⟩:=Nf (show UK t o l=some ns from hh)
 obtain ⟨q2,ob,e1,e2,e3⟩:=hR.lv b (by rw [hg]; trivial)
 rw [hq] at e1; cases e1
 rw [hg] at e3
 obtain ⟨cs,ty,fz,rfl,_,_,_,_,_,k7⟩:=e3
 refine ⟨_,cap,by rw [List.length_map,g1],by rw [List.length_map,g1]; exact hl,.inr ⟨q.k,q.b+o,rfl,λ _=>trivial,λ j c hc=>?_⟩⟩
 rw [Iy,List.getElem?_map,List.getElem?_map] at hc
 cases hp:ns[j]? with
 | none=>rw [hp] at hc; cases hc
 | some p=>
  rw [hp] at hc; cases hc
  have hj:j<l:=by have:=(List.getElem?_eq_some_iff.1 hp).1; omega
  obtain ⟨x,k1,k2,_⟩:=k7 (o+j) (by omega)
  rw [g2 j p hp] at k2
  obtain rfl:x = .string (strOf p.1 p.2):=k2
  show w.cell? ⟨q.k,q.b+o+j,none⟩=some _
  rw [show q.b+o+j=q.b+(o+j) from by omega]
  simp [World.cell?,e2,k1]
  rfl
theorem ZE {R:V} {y:Value} {ns:List (Nat × Nat)} (hR:RH P Fr ρ h w) (hy:RV ρ R y) (hh:aly h R=some ns):∃ s:SV,y=Flat.val s/\dx (λ _=>True) w (Flat.val s) (ns.map KM):=by
 cases R <;> first | cases hh | skip
 case ns=>obtain rfl:y=_:=hy; exact ⟨⟨none,0,0⟩,rfl,dx.nil _ _⟩
 case sl b o l d=>obtain ⟨q,h1,h2,rfl⟩:=hy; exact ⟨⟨_,_,_⟩,rfl,Ng hR h1 (show l<=q.c - d by omega) hh⟩
 case sx b o l c=>obtain ⟨q,h1,h2,rfl⟩:=hy; exact ⟨⟨_,_,_⟩,rfl,Ng hR h1 h2 hh⟩
end
def Br:List rG->List (Nat × Nat)->Option (List rG)
 | g,[]=>some g
 | g,p::r=>bif g.all (λ q=>!Go.Fw.BJ q.n q.m p.1 p.2) then Br (g++[⟨p.1,p.2,5,0⟩]) r else none
theorem Iz {k:ByteArray}:∀ {l:List SI},(∀ p∈l,p.2≠0)->(∃ p∈l,p.1=k)->cY l k≠0
 | [],_,⟨_,h,_⟩=>by cases h
 | q::r,hz,⟨p,hp,e⟩=>by
  unfold cY
  by_cases h:q.1=k
  ·rw [if_pos h]; exact hz q List.mem_cons_self
  ·rw [if_neg h]
   rcases List.mem_cons.1 hp with rfl | hp
   ·exact absurd e h
   ·exact Iz (λ p hp=>hz p (List.mem_cons_of_mem _ hp)) ⟨p,hp,e⟩
theorem IA:∀ (ns:List (Nat × Nat)) (g:List rG),(∀ p∈g,p.x≠0)->xL (g.map rG.si) (ns.map KM)=(Br g ns).map (·.map rG.si)
 | [],g,_=>rfl
 | p::r,g,hz=>by
  have Ql:∀ q∈g.map rG.si,q.2≠0:=λ q hq=>by obtain ⟨x,hx,rfl⟩:=List.mem_map.1 hq; exact hz x hx
  rw [List.map_cons,xL,Br]
  cases ha:g.all (λ q=>!Go.Fw.BJ q.n q.m p.1 p.2) with
  | true=>
   rw [List.all_eq_true] at ha
   have:cY (g.map rG.si) (KM p)=0:=qO λ q hq=>by
    obtain ⟨x,hx,rfl⟩:=List.mem_map.1 hq
    have:=ha x hx
    rw [nz] at this
    have this:¬ strOf x.n x.m=strOf p.1 p.2:=by simpa using this
    exact this
   rw [if_pos this]
   have h2:=IA r (g++[⟨p.1,p.2,5,0⟩]) (λ q hq=>by
    rcases List.mem_append.1 hq with h | h
    ·exact hz q h
    ·rw [List.mem_singleton.1 h]; exact (by decide:(5:Int)≠0))
   rw [List.map_append] at h2
   exact h2
  | false=>
   rw [List.all_eq_false] at ha
   obtain ⟨x,hx,wQ⟩:=ha
   rw [nz] at wQ
   have wQ:strOf x.n x.m=strOf p.1 p.2:=by simpa using wQ
   rw [if_neg (show ¬ cY (g.map rG.si) (KM p)=0 from Iz Ql ⟨x.si,List.mem_map.2 ⟨x,hx,rfl⟩,wQ⟩)]
   rfl
def afn:V->Option (Nat × Nat × V × V × Int × Nat)
 | .c (.a (.c (.s a b) (.c R (.c B (.c (.i .i64 z) .e))))) (.c (.m r) .e)=>some (a,b,R,B,z,r)
 | _=>none
theorem ZF {args:V} {a b:Nat} {R B:V} {z:Int} {r:Nat} (hh:afn args=some (a,b,R,B,z,r)):args = .c (.a (.c (.s a b) (.c R (.c B (.c (.i .i64 z) .e))))) (.c (.m r) .e):=by
 unfold afn at hh
 split at hh
 ·cases hh; rfl
 cases hh
def ara:HB->Option (Nat × ML)
 | .m c l=>some (c,l)
 | _=>none
def alz (h:Hp) (n:Nat):Option (List rG)->OR
 | none=>.ok (.t (.c .nm (.c (.b true) .e))) h n
 | some g=>.ok (.t (.c (.m n) (.c (.b false) .e))) (eL h (.m 4294967296 (afk g)) n) (Nat.succ n)
def ovR (_:Nat) (args:V) (h:Hp) (n:Nat):OR:=
 match afn args with
 | none=>.no
 | some (_,_,R,B,_,r)=>match ara (dH h r),aly h R with
  | some (c,l),some ns=>match ZB l with
   | some ps=>bif Nat.blt c 4294967296 && (xV c ps && (ps.all (λ p=>!decide (p.x=0)) && (afm B && (Nat.ble ns.length 1073741824 && isZ (dH h n))))) then alz h n (Br (ps.filter λ p=>decide (¬ p.x=4)) ns) else .no
   | none=>.no
  | _,_=>.no
theorem afo:alw Tryz.prog [67] ovR:=by
 intro g args h n v h' n' hg hh Fr ρ w xs hA hR
 obtain rfl:g=67:=by have:=nI.1 hg; simpa using this
 refine ⟨ad1,?_⟩
 unfold ovR at hh
 split at hh
 ·cases hh
 rename_i a b R B z r PO
 obtain rfl:=ZF PO
 split at hh
 ·rename_i c l ns alA FR
  split at hh
  ·rename_i ps arc
   have hm:dH h r = .m c l:=by cases hq:dH h r <;> rw [hq] at alA <;> cases alA; rfl
   generalize hk:(Nat.blt c 4294967296 && (xV c ps && (ps.all (λ p=>!decide (p.x=0)) && (afm B && (Nat.ble ns.length 1073741824 && isZ (dH h n))))))=kk at hh
   cases kk with
   | false=>cases hh
   | true=>
   have hh:alz h n (Br (ps.filter λ p=>decide (¬ p.x=4)) ns) = .ok v h' n':=hh
   simp only [Bool.and_eq_true] at hk
   obtain ⟨k1,k2,k3,k4,k5,k6⟩:=hk
   obtain ⟨z1,zs1,rfl,IP,z2,zs2,rfl,hz2,rfl⟩:=hA
   obtain ⟨ys,hys,_,rfl⟩:=IP
   obtain ⟨y1,ys1,rfl,hy1,y2,ys2,rfl,hy2,y3,ys3,rfl,hy3,y4,ys4,rfl,hy4,rfl⟩:=hys
   obtain rfl:y1=_:=hy1
   obtain rfl:y4=_:=hy4
   obtain ⟨s2,rfl,Fp⟩:=ZE hR hy2 FR
   obtain ⟨s3,rfl⟩:=ZD k4 hy3
   obtain ⟨q,hq,rfl⟩:=hz2
   obtain ⟨q',hq',hmp⟩:=hR.jy hm (kz k1) arc k2
   rw [hq] at hq'; cases hq'
   have hx0:∀ p∈ps,p.x≠0:=λ p hp=>by have:=List.all_eq_true.1 k3 p hp; simpa using this
   refine (C67 (⟨strOf a b,s2,s3,z⟩:bR) (ns.map KM) q.k (ps.map rG.si) w Fp hmp (λ p hp=>by obtain ⟨x,hx,rfl⟩:=List.mem_map.1 hp; exact hx0 x hx) (by rw [List.length_map]; exact dQ k5)).mono λ e w' ⟨y,hy,hr⟩=>⟨y,hy,?_⟩
   have akY:HJ (ps.map rG.si) (ns.map KM)=(Br (ps.filter λ p=>decide (¬ p.x=4)) ns).map (·.map rG.si):=by
    unfold HJ
    rw [List.filter_map]
    exact IA ns _ λ p hp=>hx0 p (List.mem_filter.1 hp).1
   rw [akY] at hr
   generalize Br (ps.filter λ p=>decide (¬ p.x=4)) ns=res at hh hr
   cases res with
   | none=>
    obtain ⟨rfl,rfl,_⟩:=cA hh
    rcases hr with ⟨_,rfl,he⟩ | ⟨g,b,h0,_⟩
    ·exact ⟨ρ,Le.refl _,hR.aq9 he,[.map none,.bool true],⟨_,_,rfl,rfl,_,_,rfl,rfl,rfl⟩,rfl⟩
    ·cases h0
   | some g0=>
    obtain ⟨rfl,rfl,_⟩:=cA hh
    rcases hr with ⟨h0,_⟩ | ⟨g,b,h0,rfl,F,⟨ard,hF⟩,cL,he⟩
    ·cases h0
    cases h0
    have eU:w.heap.size<=b:=cL b ((hF b).2 rfl)
    obtain ⟨es,ck,g1,g2,g3⟩:=ard
    have hn:=R5 k6
    refine ⟨_,qJ (q:=⟨b,0,0,0⟩) (hR.fresh n hn),?_,[.map (some b),.bool false],⟨_,_,rfl,⟨_,jw _ _ _,rfl⟩,_,_,rfl,rfl,rfl⟩,rfl⟩
    refine hR.add hn (λ b' q' h1 h2=>?_) ?_ (λ r o' _ hr=>Bq he hr) g1 (.inr ⟨rfl,g0.map rG.si,UJ g0,es,ck,rfl,g2,g3⟩) (hst:=⟨he.os,he.tape,he.output⟩)
    ·obtain ⟨q2,o2,e1,e2,_⟩:=hR.lv b' h1
     rw [h2] at e1; cases e1
     have:=(Array.getElem?_eq_some_iff.1 e2).1
     show q'.k≠b
     omega
    ·show Fr.f b=none
     cases hFr:Fr.f b with
     | none=>rfl
     | some o'=>
      have:=(Array.getElem?_eq_some_iff.1 (hR.qf _ _ hFr)).1
      omega
  cases hh
 cases hh
end
end Go.Proofs.YtfkgkbhbdffckaaGreatDoor

/-
  Part 4.
-/
import Derived.Test.YtnjcingfdhjfkaaGreatVnM3
set_option linter.all false
set_option maxHeartbeats 8000000
set_option maxRecDepth 100000
namespace Go.Proofs.YtnjcingfdhjfkaaGreat
open Go.Fw
def nZ (c:dK):eB:=⟨c,0,List.replicate c.aG.toNat 0,List.replicate c.counts.toNat 0,0,0,0,[]⟩
def qz (N:Nat) (cs:List dK) (ts:List eB):Prop:=ts.length=cs.length/\∀ (j:Nat) (c:dK) (t:eB),cs[j]? = some c->ts[j]? = some t->pM N (nZ c)=some t
theorem zh {c:dK} (h:sZ c):zT (nZ c):=⟨h,by have:=h.rb; simp [nZ]; omega,by have:=h.cb; simp [nZ]; omega,by simp [nZ],by simp [nZ]⟩
def ME (K:World->Prop) (m7:List aT) (cs:List dK):Prop:=m7.length=cs.length/\∀ (j:Nat) (cv:aT) (c:dK),m7[j]? = some cv->cs[j]? = some c->∃ gl:SV,cv=⟨c.aG,c.counts,gl⟩/\me K (Flat.val gl) c.l
theorem v5 (x y:aT) (h:Flat.enc x=Flat.enc y):x=y:=by
 obtain ⟨a,b,⟨c,d,e⟩⟩:=x; obtain ⟨a',b',⟨c',d',e'⟩⟩:=y; simp [Flat.enc] at h; simp [h]
theorem oP (x y:aX) (h:Flat.enc x=Flat.enc y):x=y:=by
 obtain ⟨a,b,c,⟨d,e,f⟩,⟨g,i,j⟩,k⟩:=x; obtain ⟨a',b',c',⟨d',e',f'⟩,⟨g',i',j'⟩,k'⟩:=y; simp [Flat.enc] at h; simp [h]
theorem Bl {F:Nat->Prop} {w1:World} {gl:Value} {l:List aV} (h:∀ w',nY F w1 w'->DL w' gl l):me (nY F w1) gl l:=by
 obtain ⟨ts,_,h2⟩:=nY.fix oP h; exact ⟨ts,h2⟩
def fL (u:eh) (room:Int):j0:=⟨u,room,y8 u.lines u.stays u.bP,[],[],0,0,0⟩
def jP (m:j0) (ts:List eB):j0:={m with locks:=List.replicate m.u.locks.toNat (-1),l:=ts}
theorem Jj {w w0:World} {A:Nat->Prop} {L:List HP} {p q:Nat} {u:eh} {room:Int} {sh:bV} {ov fv:SV}
  (hs:St w0 A (cZ p (oN ⟨sh.lines,sh.bP,sh.threads,sh.recover.l,sh.bU,q,Flat.val ov,Flat.val fv,.slice none 0 0,.slice none 0 0,[]⟩ (fL u room)) ::
   iW q (Flat.val ov) (Flat.val fv) (y8 u.lines u.stays u.bP)::bR (Flat.val ov) (u.lines.take u.stays.toNat)::bR (Flat.val fv) u.bP::fU (λ w=>Deep.dr w sh u)::L) w) :
  ∃ (K:World->Prop) (m7:List aT),St w0 A (iI K p (fL u room)::fU K::L) w/\(∀ w,K w->ee (λ _=>True) w (Flat.val sh.threads) m7)/\ME K m7 u.threads:=by
 have h1:=hs.p2.freeze
 have h2:=(h1.p3.freeze).p1.gU
 have h3:=(h2.p3.p1.gU)
 obtain ⟨F,h4,h5⟩:=h3.Pf
 have hd:∀ w',nY F w w'->Deep.dr w' sh u:=λ w' h=>by have:=h5 w' h; first | exact this.1 | exact this.2 | exact this.1.1 | exact this.2.2
 have hov:∀ w',nY F w w'->ee (λ _=>True) w' (Flat.val ov) (u.lines.take u.stays.toNat):=λ w' h=>by have:=h5 w' h; first | exact this.1.1 | exact this.1.2 | exact this.2.1 | exact this.2.2
 have hfv:∀ w',nY F w w'->ee (λ _=>True) w' (Flat.val fv) u.bP:=λ w' h=>by have:=h5 w' h; first | exact this.1.1 | exact this.1.2 | exact this.2.1 | exact this.2.2
 have hth:∀ w',nY F w w'->DL w' (Flat.val sh.threads) u.threads:=λ w' h=>by obtain ⟨_,_,_,_,_,e,q1,q2,q3,q4,q5⟩:=hd w' h; rw [e]; exact q3
 obtain ⟨m7,zS,v7⟩:=nY.fix v5 hth
 refine ⟨nY F w,m7,?_,λ w' h=>(v7 w' h).1,zS,λ j cv c h1 h2=>?_⟩
 ·have h6:St w0 A (gk (Be (nY F w) room) [] []::_) w:=h4.new (Ext.refl w) (F:=aZ) (λ _ h=>h) λ _ h=>h.elim
  have h7:=((h6.fF (α:=Ptr)).fF (α:=Int))
  refine iI.shut (a:=⟨sh.lines,sh.bP,sh.threads,sh.recover.l,sh.bU,q,Flat.val ov,Flat.val fv,.slice none 0 0,.slice none 0 0,[]⟩) (m:=fL u room) ⟨λ w' h=>?_,λ w' h=>?_,Bl λ w' h=>?_,λ w' h=>⟨hov w' h,hfv w' h⟩⟩ h7.p5.p5
  ·obtain ⟨_,_,_,_,_,e,q1,q2,q3,q4,q5⟩:=hd w' h; rw [e]; exact DL.flat q1
  ·obtain ⟨_,_,_,_,_,e,q1,q2,q3,q4,q5⟩:=hd w' h; rw [e]; exact q5
  obtain ⟨_,_,_,_,_,e,q1,q2,q3,q4,q5⟩:=hd w' h; rw [e]
  obtain ⟨g,e2,q6⟩:=q4; rw [e2]; exact q6
 have hh:∀ w',nY F w w'->Deep.dr w' cv c:=λ w' h=>(v7 w' h).2.2 j cv c h1 h2
 obtain ⟨gl,e,_⟩:=hh w (nY.refl F w)
 subst e
 exact ⟨gl,rfl,Bl λ w' h=>by obtain ⟨gl',e,h6⟩:=hh w' h; cases e; exact h6⟩
structure EH (N:Nat) (u:eh) (kh:List eB):Prop where
 b:qz N u.threads kh
 co:∀ c∈u.threads,sZ c
 len:u.lines.length=u.bP.length
 l20:u.lines.length<=20
 st:0<=u.stays/\u.stays<=u.lines.length
 ln:∀ (k:Nat) (n:Int),(k:Int)<u.stays->u.lines[k]? = some n->(n=fN u.lines k\/(0<k/\n=fN u.lines k - 1))/\-10<=n/\n<=100
 lk:0<=u.locks/\u.locks<=1000
theorem C55 (K:World->Prop) (p:Nat) (m:j0) (N:Nat) (oQ:List dK) (kh:List eB) (lv:Value) (m7:List aT) (F:Nat->Prop) (w:World) (hF:(iI K p m).p w F) (hK:∀ w',kj F w w'->K w') (hrm:1<=m.room/\m.room<=16) (T4:0<=m.u.locks/\m.u.locks<=1000) (hl:∀ w',kj F w w'->ee (λ _=>True) w' lv m7) (v7:ME K m7 oQ) (SC:∀ c∈oQ,sZ c) (hb:qz N oQ kh) (hn:oQ.length<=1000):CR 55 [(.pointer (some ⟨p,0,none⟩)),lv] w (λ v w'=>v = .tuple #[]/\D8 F (iI K p (jP m kh)) w w'):=by
 have hs:=St.begin hF;obtain ⟨a,hu,hs⟩:=iI.open hs;have X3:=hs.p4.mN;have X4:=v7.1;refine Cs Tryz.func55 (pl:=P55) ?_;refine aE (aA jx (bH hs qZ (ft rfl) (rfl) (λ _ hs=>aE (aA q8 (bH hs cT (ft rfl) (rfl) (λ _ hs=>aE (aA q7 (aA kc (aB bK hs.hb rfl ?_)))))))));have hs:=(((hs.p3.drop.p3.drop.p2.drop.fF (α:=Int)).p2).p1).p2;refine ⟨λ mm x w'=>∃ (k:Nat) (sy:Value),x = .int .i64 (k:Int)/\mm=m.u.locks.toNat - k/\k<=m.u.locks.toNat/\St w F [cZ p (oN {a with lk:=sy,ll:=.slice none 0 0} m),bR sy (List.replicate k (-1:Int)),iW a.q a.ov a.fv m.mem] w',⟨_,0,_,rfl,rfl,Nat.zero_le _,hs⟩,?_⟩
 rintro mm _ _ ⟨k,sy,rfl,rfl,KJ,hs⟩ _;refine aN (aC (λ jA=>?_) (λ jA=>?_))
 ·refine aE (aA q8 (aB cT hs.hb rfl (cM (([-1]:List Int)) hs cB rfl rfl (ft rfl) (λ HU _ hs=>?_))));have s9:=(hs).jo;exact cN hs.p2 cB s9 (by rw [List.length_replicate,List.length_singleton]; omega) (by decide) (λ X5 _ hs=>have hs:=hs.p1.drop;aE (aA q8 (bH hs.p1 cT (ft rfl) ((hs).jo.one) (λ _ hs=>aW (by omega) (have hs:=hs.p2.p2.p2;⟨_,by omega,k+1,X5,rfl,rfl,by omega,by rw [List.replicate_succ']; exact hs⟩)))))
 refine aI kR (hl _ hs.aD) ?_;have hs:=hs.p1;rw [show k=m.u.locks.toNat from by omega] at hs;have hs:=((((((hs.AG (H:=Be K m.room)).fF (α:=Ptr)).p4).p3).p3).p3).p4;refine ⟨λ mm x w'=>∃ (j:Nat) (FF:Value) (ps:List Ptr),x = .int .i64 (j:Int)/\mm=m7.length - j/\j<=m7.length/\St w F [cZ p (oN {a with lk:=sy,ll:=FF} m),bR FF ps,gk (Be K m.room) ps (kh.take j),bR sy (List.replicate m.u.locks.toNat (-1:Int)),iW a.q a.ov a.fv m.mem] w',⟨_,0,_,_,rfl,rfl,Nat.zero_le _,hs⟩,?_⟩;rintro mm _ _ ⟨j,FF,ps,rfl,rfl,hj1,hs⟩ _;refine aN (aC (λ vt=>?_) (λ vt=>?_))
 ·refine ⟨_,?_,λ _ h=>h⟩;obtain ⟨O2,vP⟩:=gx (m7) (i:=((j:Int)).toNat) (by omega);refine aR kR (hl _ hs.aD) (by omega) vP (λ _ A7=>?_);obtain ⟨c,hc⟩:∃ c,oQ[j]? = some c:=⟨_,List.getElem?_eq_getElem (by have:=v7.1; omega)⟩;obtain ⟨t1,Iv⟩:∃ t,kh[j]? = some t:=⟨_,List.getElem?_eq_getElem (by have:=v7.1; have:=hb.1; omega)⟩;have hg:=hb.2 j c t1 hc Iv;obtain ⟨gl,sC,Jk⟩:=v7.2 j _ _ vP hc;subst sC;have SD:=SC c (List.mem_of_getElem? hc);have zU:=SD.rb;have hcb:=SD.cb;refine aO gJ (A7) (bT hs u4 (λ Xw _ hs=>have hs:=hs.enc (cs':=Flat.enc (⟨0,0,⟨none,0,0⟩⟩:aT)) rfl;cO (x:=(⟨c.aG,c.counts,gl⟩:aT)) hs gJ rfl rfl (λ _ hs=>aE (aA G9 (aB bK hs.p1.hb rfl (gW UO (C52 m.room _) ?_))))))
  rintro v43 _ hh;obtain ⟨_,_,b52,rfl,er⟩:=hh.resolve_left (λ _=>by omega);have hs:=hs.made er;refine bI rfl (bI rfl ⟨λ t8 w'=>∃ tb,t8 = .pointer (some ⟨tb,0,none⟩)/\St w F [fe K tb m.room (nZ c),cZ Xw (Flat.enc (⟨c.aG,c.counts,gl⟩:aT)),cZ p (oN {a with lk:=sy,ll:=FF} m),bR FF ps,gk (Be K m.room) ps (kh.take j),bR sy (List.replicate m.u.locks.toNat (-1:Int)),iW a.q a.ov a.fv m.mem] w',have hs:=hs.drew;aO gJ hs.p1.At (aA gu (aB (v:=.int .i64 c.aG) bK hs.p1.hb rfl (aA kT (aB (v:=.int .i64 c.counts) bK hs.p1.hb rfl ⟨?_,⟨?_,?_⟩⟩)))),?_⟩)
  ·refine km (0:Int) hs cB tw (by omega) (by omega) (by decide) (λ O8 _ hs=>?_);refine ⟨eE gJ hs.p2.At,?_⟩;refine ⟨aH bK (hs.p2.hb.cell rfl),?_⟩;refine km (0:Int) hs cB tw (by omega) (by omega) (by decide) (λ s_x53 _ hs=>?_);refine ⟨eE gJ hs.p3.At,?_⟩;refine ⟨aH bK (hs.p3.hb.cell rfl),?_⟩;obtain ⟨adt,rfl⟩:=(hs.p1).iu;obtain ⟨adu,rfl⟩:=(hs).iu;exact pop (oE _ _ _ _ _ _ _ _ _ _ _ _) (js hs (λ _ _ hs=>have hs:=hs.p9.p9.p9.p9.p9.p9.p7.p8.p9.p9;⟨_,rfl,fe.shut (t:=nZ c) Jk hs⟩))
  ·refine km (0:Int) hs cB tw (by omega) (by omega) (by decide) (λ aaR _ hs=>?_);refine ⟨eE gJ hs.p2.At,?_⟩;refine ⟨aH bK (hs.p2.hb.cell rfl),?_⟩;refine km (0:Int) hs cB tw (by omega) (by omega) (by decide) (λ MF _ hs=>?_);refine ⟨eE gJ hs.p3.At,?_⟩;refine ⟨aH bK (hs.p3.hb.cell rfl),?_⟩;obtain ⟨X6,rfl⟩:=(hs).iu;obtain ⟨X7,rfl⟩:=(hs.p1).iu;exact pop (oE _ _ _ _ _ _ _ _ _ _ _ _) (js hs (λ _ _ hs=>have hs:=hs.p9.p9.p9.p9.p9.p9.p8.p8.p9.p9;⟨_,rfl,fe.shut (t:=nZ c) Jk hs⟩))
  ·trivial
  rintro _ _ ⟨tb,rfl,hs⟩ _;refine mV U1 hs (H':=λ _=>fe K tb m.room t1) (Φ:=λ _ _=>True) (λ F2 Jd sw=>?_) ?_
  ·exact (C122 K tb m.room (nZ c) t1 N F2 _ Jd (λ w' hc=>hK w' (sw w' hc).aD) (zh SD) hg).mono λ _ _ r=>r.mono λ _ _ h=>⟨trivial,h.2⟩
  rintro _ _ _ hs;refine aE (aA jx ?_);have pz:=(hs.p4).mN;refine aB qZ hs.p2.hb rfl (cM ([(⟨tb⟩:Ptr)]) hs pR rfl rfl (ft rfl) (λ s_x64 _ hs=>?_));have SE:=(hs).jo;refine cN hs.p4 pR SE (by rw [List.length_take] at pz; simp; omega) (by decide) (λ X8 _ hs=>have hs:=hs.p1.drop;aE (aA jx (bH hs.p3 qZ (ft rfl) ((hs).jo.one) (λ _ hs=>?_))));intro _;exact aW (by omega) (have hs:=(((((St.AH (H:=Be K m.room) (p:=⟨tb⟩) (x:=t1) hs.p2.p4).p3).drop).p4).p4).p2;have hs:=hs.p4.p4;⟨_,by omega,j+1,X8,ps++[⟨tb⟩],rfl,rfl,by omega,by rw [<- gz (k:=j) Iv]; exact hs⟩)
 have hs:=hs.p2.p2.p3.p4.p4;rw [List.take_of_length_le (by have:=hb.1; omega)] at hs;exact ⟨rfl,(iI.shut (m:=jP m kh) (a:={a with lk:=sy,ll:=FF,ps:=ps}) ⟨hu.ln,hu.cl,hu.rc,hu.mem⟩ hs).mut⟩
theorem C15 (u:eh) (uv:bV) (room:Int) (N:Nat) (kh:List eB) (w:World) (hu:Deep.dr w uv u) (hz:UZ u) (hn:dU u=true->EH N u kh):CR 15 [Flat.val uv,.int .i64 room] w (λ v w'=>(dU u=false/\v = .tuple #[.pointer none,.int .i64 8]/\Ext w w')\/(dU u=true/\(room<1\/16<room)/\v = .tuple #[.pointer none,.int .i64 1]/\Ext w w')\/(dU u=true/\1<=room/\room<=16/\∃ K p,v = .tuple #[.pointer (some ⟨p,0,none⟩),.int .i64 0]/\pD (sep (iI K p (jP (fL u room) kh)) (fU K)) w w')):=by
 obtain ⟨cD,bW,bG,ga,bN,rfl,cS,cX,cQ,dD,dL⟩:=hu;obtain ⟨aJ,rfl,cJ⟩:=dD;have hs:=St.start w;refine jT Tryz.func15 ?_;refine dY hs (λ FG _ hs=>aO mj hs.At (bF abB hs (C51 u _ _ ⟨cD,bW,bG,(⟨((u).recover).aG,((u).recover).counts,aJ⟩:aT),bN,rfl,(cS.ext hs.aD),(cX.ext hs.aD),(cQ.ext hs.aD),⟨aJ,rfl,(cJ.ext hs.aD)⟩,(dL.ext hs.aD)⟩ hz) (λ _ he hs=>bO (bD (λ ik=>.inl ⟨by simpa using ik,rfl,hs.drop.aD⟩) (λ ik=>?_)))))
 have uL:=hn (by simpa using ik);refine gW UO (C52 room _) ?_;rintro v_x14 _ SF
 rcases SF with ⟨zU,rfl,he⟩ | ⟨DP,wM,b52,rfl,er⟩
 ·have hs:=hs.ext he;exact bI rfl (bI rfl (bJ (ph (by decide) (.inr (.inl ⟨by simpa using ik,zU,rfl,hs.drop.aD⟩)))))
 have hs:=hs.made er;refine bI rfl (bI rfl (bJ (dA (by decide) (aO mj hs.p1.At (gW abC (C53 u _ _ ⟨cD,bW,bG,(⟨((u).recover).aG,((u).recover).counts,aJ⟩:aT),bN,rfl,(cS.ext hs.aD),(cX.ext hs.aD),(cQ.ext hs.aD),⟨aJ,rfl,(cJ.ext hs.aD)⟩,(dL.ext hs.aD)⟩ hz) ?_)))));rintro _ _ ⟨adv,rfl,er⟩;have hs:=hs.made er;refine pop (Cy _ _ _ _ _ _ _ _ _ _ _ _ _ _ _ _ _ _ _ _) (js hs (λ xI _ hs=>aA eH (aB cT hs.p3.hb rfl ?_)));have X9:=DL.flat (cS);refine aA fu (aB (v:=.int .i64 ((u).stays)) bK hs.p3.hb rfl (aA jw (aB cT hs.p3.hb rfl ?_)))
 have Ya:=DL.flat (cX);refine gW abD (C54 u.lines u.bP u.stays _ _ _ (X9.ext hs.aD) (Ya.ext hs.aD) uL.len uL.l20 uL.st uL.ln) ?_;rintro v33 _ ⟨q,ov,fv,rfl,er⟩;have hs:=((hs.made er).split).p1.split;refine bI rfl (bI rfl (aE (aA u7 (bH hs.p3 G8 (ft rfl) (rfl) (λ _ hs=>aE (aA q7 (aA fX (aB mI hs.hb rfl ?_))))))));obtain ⟨s1,s2,s3,s4,s5,hsh,q1,q2,q3,q4,q5⟩:=(hs.p4).fU;obtain ⟨g4,hs4,_⟩:=q4;subst hs4;subst hsh;have hs:=hs.p4.p2.p4.p4.p4;obtain ⟨K,m7,hs,adw,adx⟩:=Jj (room:=room) (sh:=(⟨s1,u.stays,s2,u.locks,s3,⟨u.recover.aG,u.recover.counts,g4⟩,s5⟩:bV)) hs
 refine mV abE hs (H':=λ _=>iI K xI (jP (fL u room) kh)) (Φ:=λ _ _=>True) (λ F2 Jd sw=>?_) ?_
 ·exact (C55 K xI (fL u room) N u.threads kh _ m7 F2 _ Jd (λ w' hc=>(sw w' hc).fU) ⟨DP,wM⟩ uL.lk (λ w' hc=>adw w' (sw w' hc).fU) adx uL.co uL.b hz.threads).mono λ _ _ r=>r.mono λ _ _ h=>⟨trivial,h.2⟩
 rintro _ _ _ hs;have hs:=((hs.p2.drop.p2.drop).p1).p1;exact .inr (.inr ⟨by simpa using ik,DP,wM,K,xI,rfl,(St.join hs).fresh⟩)
def kM (t:eB):Bool:=(fB t).isNone && decide (t.buf.length=0)
def iQ (m:j0):Bool:=decide (m.fault=0) && !(List.range m.l.length).any λ i=>match m.l[i]? with | some t=>!kM t | none=>false
def j6 (m:j0):Bool:=decide (m.fault=0) && (!iQ m && decide (((fJ m).length:Int)=0))
def iV (m:j0):dC:=⟨m.eP,m.fault,m.gL,iQ m,j6 m⟩
def j7 (m:j0) (l:List gC):Bool:=decide ((runM l (m.mem.l.take m.u.stays.toNat)).2=0) && decide ((runM l (m.mem.l.take m.u.stays.toNat)).1≠0)
def rW (m:j0):List Bool:=m.u.bU.map (j7 m)
theorem ya {n k:Nat} (h:k<n):(List.range n)[k]? = some k:=List.getElem?_range h
theorem C64 (K:World->Prop) (p:Nat) (room:Int) (t:eB) (w:World) (hh:Has (fe K p room t) w) (lV:∀ w',Ext w w'->K w') (hZ:zT t):CR 64 [(.pointer (some ⟨p,0,none⟩))] w (λ v w'=>v = .bool (kM t)/\Ext w w'):=by
 obtain ⟨bp,gl,rg,cn,_,fR,hB,CY,Ja⟩:=fe.rd hh;have MD:=fR.cell (o:=0) rfl;have hs:=St.start w;refine jT Tryz.func64 ?_;refine gW QN (C65 K p room t _ (hh.ext hs.aD) (lV _ hs.aD) hZ) ?_;rintro v_x7 _ Yb
 rcases Yb with ⟨kz,rfl,he⟩ | ⟨x,xv,kz,Sy,rfl,he⟩
 ·have hs:=hs.ext he;refine bI rfl (bI rfl (bT hs fK (λ ady w2 hs=>have hs:=hs.enc (cs':=Flat.enc (⟨0,0,0,⟨none,0,0⟩,⟨none,0,0⟩,0⟩:aX)) rfl;cO (x:=(⟨0,0,0,⟨none,0,0⟩,⟨none,0,0⟩,0⟩:aX)) hs eg rfl rfl (λ w3 hs=>?_))));refine ⟨_,?_,λ _ _ h=>h⟩;refine bO (eZ (bF QO hs (C66 K p room t _ (hh.ext hs.aD) hZ.bl) (λ _ he hs=>?_)));intro pU;refine ⟨vb ?_,by first | exact hs.aD | exact hs.drop.aD⟩;unfold kM;rw [kz]
  rfl
 have hs:=hs.ext he;obtain ⟨ge,gf,rfl,_,_⟩:=Sy _ (lV _ hs.aD);refine bI rfl (bI rfl (bT hs fK (λ ady w2 hs=>have hs:=hs.enc (cs':=Flat.enc (⟨0,0,0,⟨none,0,0⟩,⟨none,0,0⟩,0⟩:aX)) rfl;cO (x:=(⟨x.kind,x.a,x.b,ge,gf,x.to⟩:aX)) hs eg rfl rfl (λ w3 hs=>?_))));refine ⟨_,?_,λ _ _ h=>h⟩;refine bO (dN ?_);intro pU;refine ⟨vb ?_,by first | exact hs.aD | exact hs.drop.aD⟩;unfold kM;rw [kz]
 rfl
theorem C68 (K:World->Prop) (p:Nat) (room:Int) (t:eB) (b:Nat) (w:World) (hh:Has (fe K p room t) w) (lV:∀ w',Ext w w'->K w') (hZ:zT t) (hc:Cell w b 0 (fnV 64)):CR 68 [(.pointer (some ⟨p,0,none⟩)),(.pointer (some ⟨b,0,none⟩))] w (λ v w'=>v = .bool (!kM t)/\Ext w w'):=by
 have hs:=St.start w;refine jT Tryz.func68 ?_;refine aK Of (hc.ext hs.aD) (eF (first:=[]) (cap:=[]) abH (C64 K p room t _ (hh.ext hs.aD) (λ _ e=>lV _ (Ext.trans hs.aD e)) hZ) ?_);rintro _ _ ⟨rfl,he⟩;have hs:=hs.ext he;exact bO ⟨rfl,hs.aD⟩
theorem C136 (sv:Value) (ps:List Ptr) (g0:Nat) (first cap:List Value) (g:Nat->Bool) (w:World) (hL:ee (λ _=>True) w sv ps) (pz:Plain PG g0) (iJ:∀ (i:Nat) (s:Ptr) (w1:World),ps[i]? = some s->Ext w w1->Calls PG g0 (first++[Flat.val s]++cap).toArray w1 (mE λ v w2=>v = .bool (g i)/\Ext w1 w2)) (hn:ps.length<=1073741824):CR 136 [sv,(.func (.func g0) first.toArray cap.toArray)] w (λ v w'=>v = .int .i64 (rB g (List.range ps.length))/\Ext w w'):=by
 have hs:=St.start w;refine jT Tryz.func136 ?_;refine aI pR (hL.ext hs.aD) ?_;refine ⟨λ m x w1=>∃ k:Nat,x = .int .i64 (k:Int)/\m=ps.length - k/\k<=ps.length/\(∀ y∈(List.range ps.length).take k,g y=false)/\St w aZ [] w1,⟨_,0,rfl,rfl,Nat.zero_le _,by simp,hs⟩,?_⟩;rintro m _ w1 ⟨k,rfl,rfl,hk,gT,hs⟩ _;refine aN (aC (λ yN=>?_) (λ _=>⟨congrArg (Value.int .i64) (jl (by rw [List.take_of_length_le (by rw [List.length_range]; omega)] at gT; exact gT)).symm,hs.aD⟩));obtain ⟨iz,cI⟩:=gx (ps) (i:=((k:Int)).toNat) (by omega);refine aR pR hL (by omega) cI (λ _ jD=>aO D5 (jD.ext hs.aD) (eF pz (iJ k iz w1 cI hs.aD) ?_))
 rintro _ w2 ⟨rfl,he⟩;have hs:=hs.ext he;exact bD (λ eU=>⟨congrArg (Value.int .i64) (mb gT (ya (by omega)) eU).symm,hs.aD⟩) (λ eU=>aW (by omega) ⟨_,by omega,k+1,rfl,rfl,by omega,fY gT (ya (by omega)) eU,hs⟩)
theorem C67 (sv:Value) (ps:List Ptr) (g0:Nat) (first cap:List Value) (g:Nat->Bool) (w:World) (hL:ee (λ _=>True) w sv ps) (pz:Plain PG g0) (iJ:∀ (i:Nat) (s:Ptr) (w1:World),ps[i]? = some s->Ext w w1->Calls PG g0 (first++[Flat.val s]++cap).toArray w1 (mE λ v w2=>v = .bool (g i)/\Ext w1 w2)) (hn:ps.length<=1073741824):CR 67 [sv,(.func (.func g0) first.toArray cap.toArray)] w (λ v w'=>v = .bool ((List.range ps.length).any g)/\Ext w w'):=by
 have hs:=St.start w;refine jT Tryz.func67 ?_;exact bF U5 hs (C136 _ ps g0 first cap g _ (hL.ext hs.aD) pz (λ i s2 w2 h e=>iJ i s2 w2 h (Ext.trans hs.aD e)) (by omega)) (λ _ _ hs=>cY ⟨vb (kx _ _),hs.aD⟩)
theorem C18 (K:World->Prop) (p:Nat) (m:j0) (w:World) (hm:Has (iI K p m) w) (hw:K w) (lV:∀ w',Ext w w'->K w') (jR:lU m):CR 18 [(.pointer (some ⟨p,0,none⟩))] w (λ v w'=>v=Flat.val (iV m)/\Ext w w'):=by
 obtain ⟨a,hr⟩:=iI.rd hm hw;have EE:=hr.b.cell (o:=8) rfl;have SA:=hr.b.cell (o:=0) rfl;have EF:=hr.b.cell (o:=1) rfl;have Jg:=hr.b.cell (o:=3) rfl;have C2:=hr.b.cell (o:=9) rfl;have qx:=hr.b.cell (o:=10) rfl;have s8:=hr.b.cell (o:=11) rfl;have nX:=hr.b.cell (o:=12) rfl;have mW:=hr.b.cell (o:=13) rfl;have l6:=hr.b.cell (o:=14) rfl;have qy:=hr.b.cell (o:=15) rfl;have hs:=St.start w;refine Cs Tryz.func18 (pl:=P18) ?_;refine bT hs yF (λ jY _ hs=>Ct hs LV rfl (λ zi w2 hs=>bH hs Of (ft rfl) (rfl) (λ w3 hs=>aE (aA Ha (have hs:=hs.drew;aK bK (mW.ext hs.aD) (aE (aA q9 (aK bK (l6.ext hs.aD) (aE (aA Hb (aK bK (qy.ext hs.aD) (pop (As _ _ _) ?_))))))))))))
 refine bT hs yF (λ Yc _ hs=>?_);refine ⟨aH bK (mW.ext hs.aD),?_⟩;refine ⟨aH bK (l6.ext hs.aD),?_⟩;refine ⟨aH bK (qy.ext hs.aD),?_⟩;refine cO (x:=(⟨m.eP,m.fault,m.gL,false,false⟩:dC)) hs Am rfl rfl (λ _ hs=>⟨λ w'=>St w aZ [cZ Yc (Flat.enc (⟨m.eP,m.fault,m.gL,iQ m,false⟩:dC)),cZ zi [fnV 64],cZ jY (Flat.enc (⟨0,0,0,false,false⟩:dC))] w',?_,?_⟩)
 ·refine aE (aA q9 (aK bK (l6.ext hs.aD) (aF (aC (λ tC=>?_) (λ tC=>?_)))))
  ·refine aE (aA jx (aK qZ (nX.ext hs.aD) ?_));refine bF abI hs (C67 _ a.ps 68 [] [.pointer (some ⟨zi,0,none⟩)] (λ i=>match m.l[i]? with | some t=>!kM t | none=>false) _ (hr.ll.ext hs.aD) abJ (λ i s2 w2 h e=>by
  obtain ⟨t,ht⟩:∃ t,m.l[i]? = some t:=⟨_,List.getElem?_eq_getElem (by have:=(List.getElem?_eq_some_iff.1 h).1; have:=hr.len; omega)⟩;rw [ht]
  exact C68 K s2.b m.room t zi w2 ((hr.th i s2 t h ht).ext (Ext.trans hs.aD e)) (λ _ e3=>lV _ (Ext.trans (Ext.trans hs.aD e) e3)) (jR.th t (List.mem_of_getElem? ht)) ((hs.p1.hb.cell rfl).ext e)) (by have:=hr.len; have:=jR.tl; omega)) (λ _ he hs=>?_)
   refine bO (aA pf (bH hs D0 (ft rfl) (rfl) (λ _ hs=>?_)));have hs:=hs.enc (cs':=Flat.enc ({ (⟨m.eP,m.fault,m.gL,false,false⟩:dC) with done:=(!((List.range a.ps.length).any (λ i=>match m.l[i]? with | some t=>!kM t | none=>false)))}:dC)) rfl;have hs:=hs.p2.p2.p2;have Yd:iQ m = !((List.range a.ps.length).any (λ i=>match m.l[i]? with | some t=>!kM t | none=>false)):=by unfold iQ; rw [decide_eq_true tC,hr.len]; rfl
   rw [Yd];exact hs
  refine aA pf (bH hs D0 (ft rfl) (rfl) (λ _ hs=>?_));have hs:=hs.enc (cs':=Flat.enc ({ (⟨m.eP,m.fault,m.gL,false,false⟩:dC) with done:=false}:dC)) rfl;have hs:=hs.p2.p2.p2;have Yd:iQ m=false:=by unfold iQ; rw [decide_eq_false tC]; rfl
  rw [Yd];exact hs
 intro _ hs _;refine ⟨λ w'=>St w aZ [cZ Yc (Flat.enc (iV m)),cZ jY (Flat.enc (⟨0,0,0,false,false⟩:dC))] w',aE (aA q9 (aK bK (l6.ext hs.aD) (aF (aC (λ oM=>aA pf (aB (v:=.bool (((⟨m.eP,m.fault,m.gL,iQ m,false⟩:dC)).done)) D0 hs.hb rfl (bO (bD (λ jE=>?_) (λ jE=>?_))))) (λ oM=>?_))))),?_⟩
 ·refine fy UF hs (C16 K p m _ (hm.ext hs.aD) (lV _ hs.aD) (λ _ e=>lV _ (Ext.trans hs.aD e)) jR) (λ x45 _ er hs=>?_);obtain ⟨adz,SG,SH,_⟩:=(hs).dl;refine aI l5 SG ?_;rw [SH];refine aF (aA pg (bH hs.p1 D0 (ft rfl) (rfl) (λ _ hs=>?_)));have hs:=hs.enc (cs':=Flat.enc ({ (⟨m.eP,m.fault,m.gL,iQ m,false⟩:dC) with stuck:=(decide (((fJ m).length:Int)=0))}:dC)) rfl;have hs:=((hs.p1.drop.p1.drop).p1).p1;have A0:j6 m=(decide (((fJ m).length:Int)=0)):=by unfold j6; rw [decide_eq_true oM,show iQ m=false from by simpa using jE]; rfl
  unfold iV;rw [A0];exact hs
 ·refine aA pg (bH hs D0 (ft rfl) (rfl) (λ _ hs=>?_));have hs:=hs.enc (cs':=Flat.enc ({ (⟨m.eP,m.fault,m.gL,iQ m,false⟩:dC) with stuck:=false}:dC)) rfl;have hs:=(hs.p1.drop.p1).p1;have A0:j6 m=false:=by unfold j6; rw [show iQ m=true from by simpa using jE]; simp
  unfold iV;rw [A0];exact hs
 ·refine aA pg (bH hs D0 (ft rfl) (rfl) (λ _ hs=>?_));have hs:=hs.enc (cs':=Flat.enc ({ (⟨m.eP,m.fault,m.gL,iQ m,false⟩:dC) with stuck:=false}:dC)) rfl;have hs:=(hs.p1.drop.p1).p1;have A0:j6 m=false:=by unfold j6; rw [decide_eq_false oM]; rfl
  unfold iV;rw [A0];exact hs
 intro _ hs _;exact aO Am hs.At (cO (x:=(iV m)) hs.p1 Am rfl rfl (λ _ hs=>aO Am hs.At (have hs:=((hs.drop)).drop;⟨rfl,hs.aD⟩)))
theorem C49 (K:World->Prop) (p:Nat) (m:j0) (w:World) (hm:Has (iI K p m) w) (hw:K w) (lV:∀ w',Ext w w'->K w') (jR:lU m) (zS:m.u.bU.length<=1000) (Ua:∀ l∈m.u.bU,l.length<=1000) (hst:0<=m.u.stays/\m.u.stays<=m.mem.l.length):CR 49 [(.pointer (some ⟨p,0,none⟩))] w (λ v w'=>pD (bR v (rW m)) w w'):=by
 obtain ⟨a,hr⟩:=iI.rd hm hw;have EE:=hr.b.cell (o:=8) rfl;have SA:=hr.b.cell (o:=0) rfl;have EF:=hr.b.cell (o:=1) rfl;have Jg:=hr.b.cell (o:=3) rfl;have C2:=hr.b.cell (o:=9) rfl;have qx:=hr.b.cell (o:=10) rfl;have s8:=hr.b.cell (o:=11) rfl;have nX:=hr.b.cell (o:=12) rfl;have mW:=hr.b.cell (o:=13) rfl;have l6:=hr.b.cell (o:=14) rfl;have qy:=hr.b.cell (o:=15) rfl;have SI:=hr.uk.cl _ hw;have hs:=St.start w;refine QJ _ _ _ ?_;unfold S49;refine aE (aA q7 (aA ir (aK qW (EE.ext hs.aD) ?_)));obtain ⟨Ye,Pg,Ph⟩:=(SI).open;have hn130:=Ph.1;refine aI oB (Pg.ext hs.aD) ?_
 have hs:=hs.fF (α:=Bool);refine ⟨λ mm o x w1=>∃ k:Nat,x = .int .i64 (k:Int)/\mm=m.u.bU.length - k/\k<=m.u.bU.length/\St w aZ [bR o ((m.u.bU.take k).map (j7 m))] w1,⟨_,0,rfl,rfl,Nat.zero_le _,hs⟩,?_⟩;rintro mm jW _ w1 ⟨k,rfl,rfl,hk,hs⟩ _;refine aN (aC (λ ku=>⟨λ o w'=>St w aZ [bR o ((m.u.bU.take (k+1)).map (j7 m))] w',?_,?_⟩) (λ ku=>?_))
 ·obtain ⟨AN,ql⟩:=gx Ye (i:=((k:Int)).toNat) (by omega);obtain ⟨yb,zj⟩:=gx (m.u.bU) (i:=((k:Int)).toNat) (by omega);have Yf:DL w (Flat.val AN) yb:=Ph.2 _ _ _ ql zj;refine aR oB Pg (by omega) ql (λ _ HS=>aO gh (HS.ext hs.aD) ?_);have Yg:=DL.flat (Yf);refine aE (aA q7 (aA fu (have hs:=hs.drew;aK bK (EF.ext hs.aD) (fy UH hs (C22 K p m _ (hm.ext hs.aD) (lV _ hs.aD) (λ _ e=>lV _ (Ext.trans hs.aD e)) jR) (λ x21 w2 er hs=>?_)))));refine ⟨aH bK (EF.ext hs.aD),?_⟩;refine fk cB (hs).jo (by omega) (by omega) (λ HU SJ=>bF N1 hs (C110 _ _ yb (m.mem.l.take (m.u.stays).toNat) _ (Yg.ext hs.aD) (SJ _ (hs).jo) (by have:=Ua _ (List.mem_of_getElem? zj); omega)) (λ _ he hs=>bI rfl (bI rfl (aF (aC (λ rG=>?_) (λ rG=>?_))))))
  ·refine bJ (cM ([decide ((runM yb (m.mem.l.take m.u.stays.toNat)).1≠0)]) hs ma rfl rfl (ft rfl) (λ s_x38 _ hs=>?_));have vT:=(hs).jo;refine cN hs.p2 ma vT (by simp; omega) (by decide) (λ Yh _ hs=>?_);have hs:=hs.p1.drop.p1.drop;rw [<- jG (k:=k) zj];have v7:j7 m yb=decide ((runM yb (m.mem.l.take m.u.stays.toNat)).1≠0):=by unfold j7; rw [decide_eq_true rG]; rfl
   rw [v7];exact hs
  refine cM ([false]) hs ma rfl rfl (ft rfl) (λ aaS _ hs=>?_);have Jl:=(hs).jo;refine cN hs.p2 ma Jl (by simp; omega) (by decide) (λ aaT _ hs=>?_);have hs:=hs.p1.drop.p1.drop;rw [<- jG (k:=k) zj];have v7:j7 m yb=false:=by unfold j7; rw [decide_eq_false rG]; rfl
  rw [v7];exact hs
 ·intro iX _ hs _;exact aW (by omega) ⟨_,by omega,k+1,rfl,rfl,by omega,hs⟩
 rw [List.take_of_length_le (by omega)] at hs;exact hs.fresh
abbrev Jm:ByteArray:=⟨#[61]⟩
structure hI (c:dK) (cells lines locks:Int):Prop where
 rb:0<=c.aG/\c.aG<=4
 cb:0<=c.counts/\c.counts<=12
 Yi:∀ (i:Nat) (x:aV),c.l[i]? = some x->pG x c cells lines locks=true
 to:∀ (i:Nat) (x:aV),c.l[i]? = some x->wO c.l i x=true
theorem rX {c:dK} {cells lines locks:Int} (h:gm c cells lines locks=true):hI c cells lines locks:=by
 unfold gm at h
 simp only [Bool.and_eq_true,Bool.not_eq_true'] at h
 obtain ⟨⟨h1,h2⟩,h3⟩:=h
 unfold kH at h1
 simp only [Bool.or_eq_false_iff,decide_eq_false_iff_not] at h1
 have hi:∀ (i:Nat) (x:aV),c.l[i]? = some x->pG x c cells lines locks=true/\wO c.l i x=true:=by
  intro i x hx
  have h4:=lj h2 i (List.getElem?_eq_some_iff.1 hx).1
  rw [jJ hx] at h4
  simpa using h4
 exact ⟨by omega,by omega,λ i x hx=>(hi i x hx).1,λ i x hx=>(hi i x hx).2⟩
structure tL (u:eh):Prop where
 ll:u.lines.length<=20
 st:0<=u.stays/\u.stays<=u.lines.length
 fl:u.bP.length=u.lines.length
 lk:0<=u.locks/\u.locks<=2
 tl:1<=u.threads.length/\u.threads.length<=3
 ln:∀ i,i<u.lines.length->fZ u i=false
 fr:∀ n∈u.bP,0<=n/\n<=4294967296
 th:∀ c∈u.threads,hI c u.lines.length (fP u) u.locks
 cl:∀ l∈u.bU,cW l u.stays=true
 rc:hI u.recover u.lines.length (fP u) u.locks
theorem v8 {u:eh} (h:dU u=true):tL u:=by
 unfold dU at h
 simp only [Bool.and_eq_true,Bool.not_eq_true'] at h
 obtain ⟨h1,⟨⟨⟨⟨h2,h3⟩,h4⟩,h5⟩,h6⟩⟩:=h
 unfold eR at h1
 simp only [Bool.or_eq_false_iff,decide_eq_false_iff_not] at h1
 rw [List.any_eq_false] at h2 h4 h5
 refine ⟨by omega,by omega,by omega,by omega,by omega,λ i hi=>lj h3 i hi,λ n hn=>?_,λ c hc=>?_,λ l hl=>?_,rX h6⟩
 ·have:=h2 n hn
  unfold fI at this
  simp at this; omega
 ·have:=h4 c hc
  exact rX (by simpa using this)
 have:=h5 l hl
 simpa using this
theorem EI {n k:Int} (h:Ce n k=true):0<=n/\n<k:=by unfold Ce at h; simpa using h
section
variable {c:dK} {cells lines locks:Int} {i:Nat} {x:aV}
theorem hI.kd (h:hI c cells lines locks) (hx:c.l[i]? = some x):1<=x.kind/\x.kind<=15:=by
 have:=h.Yi i x hx; unfold pG at this; simp only [Bool.and_eq_true,decide_eq_true_eq] at this; exact ⟨this.2.1.1.1,this.2.1.1.2⟩
theorem hI.a (h:hI c cells lines locks) (hx:c.l[i]? = some x):aM x c.aG c.counts=true:=by
 have:=h.Yi i x hx; unfold pG at this; simp only [Bool.and_eq_true,decide_eq_true_eq] at this; exact this.2.1.2
theorem hI.b (h:hI c cells lines locks) (hx:c.l[i]? = some x):bM x cells lines locks=true:=by
 have:=h.Yi i x hx; unfold pG at this; simp only [Bool.and_eq_true,decide_eq_true_eq] at this; exact this.2.2
theorem hI.V2 (h:hI c cells lines locks) (hx:c.l[i]? = some x) (hk:x.kind=13\/x.kind=14):0<=x.a/\x.a<c.counts:=by
 have:=h.a hx; unfold aM at this; rw [if_pos hk] at this; exact EI this
theorem hI.a1 (h:hI c cells lines locks) (hx:c.l[i]? = some x) (hk:x.kind=1\/x.kind=2\/x.kind=4):0<=x.a/\x.a<c.aG:=by
 have:=h.a hx; unfold aM at this; rw [if_neg (by omega),if_pos hk] at this; exact EI this
theorem hI.b2 (h:hI c cells lines locks) (hx:c.l[i]? = some x) (hk:x.kind=2\/x.kind=3\/x.kind=4):0<=x.b/\x.b<cells:=by
 have:=h.b hx; unfold bM at this; rw [if_pos hk] at this; exact EI this
theorem hI.b9 (h:hI c cells lines locks) (hx:c.l[i]? = some x) (hk:x.kind=9\/x.kind=10):0<=x.b/\x.b<locks:=by
 have:=h.b hx; unfold bM at this; rw [if_neg (by omega),if_neg (by omega),if_pos hk] at this; exact EI this
theorem hI.tob (h:hI c cells lines locks) (hx:c.l[i]? = some x):0<=x.to/\x.to<=c.l.length:=by
 have h1:=h.to i x hx
 have hi:=(List.getElem?_eq_some_iff.1 hx).1
 by_cases hk:x.kind=14
 ·have:=sS hk h1; omega
 unfold wO at h1
 split at h1
 ·simp at h1; omega
 simp at h1; omega
theorem mz {α:Type} {l:List α} {x:α} (h:x∈l):∃ i:Nat,l[i]? = some x:=List.mem_iff_getElem?.1 h
theorem hI.ok (h:hI c cells lines locks) (hz:CZ c):sZ c:=by
 have h1:=h.rb; have h2:=h.cb; have h3:=hz.l
 refine ⟨by omega,by omega,by omega,λ x hx=>?_,λ x hx hk=>?_,λ x hx hk=>?_⟩
 ·obtain ⟨i,hi⟩:=mz hx
  have:=h.tob hi
  have h4:=hz.ef x hx
  exact ⟨h4.1,h4.2,by omega,by omega⟩
 ·obtain ⟨i,hi⟩:=mz hx; exact h.a1 hi (.inl hk)
 obtain ⟨i,hi⟩:=mz hx; exact h.V2 hi hk
end
def Vis (t:eB):Prop:=∀ x,fB t=some x->t.fault=0->2<=x.kind/\x.kind<=10
theorem Jn {t:eB} {x:aV} {e:Int}:(pn t x e).1.code=t.code/\(pn t x e).1.buf=t.buf:=by
 unfold pn; repeat' split
 all_goals exact ⟨rfl,rfl⟩
theorem oR (t:eB):(cU t).1.code=t.code/\(cU t).1.buf=t.buf:=by
 unfold cU
 cases hn:fB t with
 | none=>exact ⟨rfl,rfl⟩
 | some x=>
  dsimp only
  split
  ·split
   ·exact Jn
   ·exact ⟨rfl,rfl⟩
  ·exact ⟨rfl,rfl⟩
theorem Bm:∀ {n:Nat} {t t':eB},pM n t=some t'->t'.code=t.code/\t'.buf=t.buf
 | 0,_,_,h=>by cases h
 | n+1,t,t',h=>by
  have hc:=oR t
  unfold pM at h
  split at h
  ·have:=Bm h; exact ⟨this.1.trans hc.1,this.2.trans hc.2⟩
  ·cases h; exact hc
theorem Jo:∀ {n:Nat} {t t':eB},zT t->pM n t=some t'->zT t'
 | 0,_,_,_,h=>by cases h
 | n+1,t,t',h0,h=>by
  unfold pM at h
  split at h
  ·exact Jo (eG h0) h
  ·cases h; exact eG h0
theorem v9:∀ {n k:Nat} {t t':eB},pM n t=some t'->pM (n+k) t=some t'
 | 0,_,_,_,h=>by cases h
 | n+1,k,t,t',h=>by
  rw [show n+1+k=(n+k)+1 from by omega]
  unfold pM at h |-
  split at h
  ·rename_i hs; rw [if_pos hs]; exact v9 h
  ·rename_i hs; rw [if_neg hs]; exact h
theorem C4 {t:eB} (hk:∀ x∈t.code.l,1<=x.kind/\x.kind<=15) (h:(cU t).2=false):Vis (cU t).1:=by
 intro x hx hf
 cases hn:fB t with
 | none=>rw [rT hn] at hx; rw [hx] at hn; cases hn
 | some y=>
  have hy:=hk y (lu hn).1
  cases he:(bL y.e t.aG).2 with
  | false=>rw [rU hn he] at hf; simp [tE,he] at hf
  | true=>
   cases Lf:(bL y.f t.aG).2 with
   | false=>rw [rV hn he Lf] at hf; simp [tF,tE,Lf] at hf
   | true=>
    rw [gA hn he Lf] at h hx hf
    unfold pn at h hx hf
    have e:∀ z,fB (tF (tE t y) y)=some z->z=y:=by
     intro z hz
     have:fB (tF (tE t y) y)=fB t:=rfl
     rw [this,hn] at hz; exact (Option.some.inj hz).symm
    split at h
    ·cases h
    ·split at h
     ·cases h
     ·split at h
      ·split at h <;> cases h
      ·split at h
       ·cases h
       ·split at h
        ·split at h <;> cases h
        ·split at h
         ·rename_i h1 h2 h3 h4 h5 h6
          rw [if_neg h1,if_neg h2,if_neg h3,if_neg h4,if_neg h5,if_pos h6] at hf
          split at hf
          ·cases hf
          ·rename_i h7; rw [if_neg h7] at h; cases h
         ·rename_i h1 h2 h3 h4 h5 h6
          rw [if_neg h1,if_neg h2,if_neg h3,if_neg h4,if_neg h5,if_neg h6] at hx
          have:=e x hx; subst this
          omega
theorem EJ:∀ {n:Nat} {t t':eB},(∀ x∈t.code.l,1<=x.kind/\x.kind<=15)->pM n t=some t'->Vis t'
 | 0,_,_,_,h=>by cases h
 | n+1,t,t',hk,h=>by
  unfold pM at h
  split at h
  ·exact EJ (by rw [(oR t).1]; exact hk) h
  ·rename_i hs; cases h; exact C4 hk (by simpa using hs)
theorem tM {l:List Int} {k:Nat} (hk:0<k) (h:k<=l.length):sY (l.take k)=l.getD (k - 1) 0+1:=by
 unfold sY
 rw [List.length_take,Nat.min_eq_left h,if_neg (by omega),List.getD_eq_getElem?_getD,List.getD_eq_getElem?_getD,List.getElem?_take,if_pos (by omega)]
theorem uB {u:eh} (h:tL u) {k:Nat} {n:Int} (hk:(k:Int)<u.stays) (hn:u.lines[k]? = some n):(n=fN u.lines k\/(0<k/\n=fN u.lines k - 1))/\-1<=n/\n<=k:=by
 have fS:=(List.getElem?_eq_some_iff.1 hn).1
 have hb:=sT (u:=u) (k:=u.lines.length) (λ j hj=>h.ln j hj) k n fS hn
 have h1:=h.ln k fS
 unfold fZ at h1
 rw [hn] at h1
 simp only [Bool.and_eq_false_iff,Bool.or_eq_false_iff,decide_eq_false_iff_not,Decidable.not_not] at h1
 refine ⟨?_,hb⟩
 rcases h1 with h1 | h1
 ·exact .inl h1
 exact .inr ⟨by omega,h1.2⟩
theorem zm {u:eh} (h:tL u):∀ (k:Nat) (n:Int),(k:Int)<u.stays->u.lines[k]? = some n->0<=n/\∀ j m,j<=k->u.lines[j]? = some m->m<=n
 | 0,n,hk,hn=>by
  have h1:=(uB h hk hn).1
  have e:fN u.lines 0=0:=rfl
  rw [e] at h1
  refine ⟨by omega,λ j m hj hm=>?_⟩
  obtain rfl:j=0:=by omega
  rw [hn] at hm; cases hm; exact Int.le_refl _
 | k+1,n,hk,hn=>by
  have fS:=(List.getElem?_eq_some_iff.1 hn).1
  obtain ⟨q,hq⟩:∃ q,u.lines[k]? = some q:=⟨_,List.getElem?_eq_getElem (by omega)⟩
  have ih:=zm h k q (by omega) hq
  have h1:=(uB h hk hn).1
  have e:fN u.lines (k+1)=q+1:=by unfold fN; rw [if_neg (by omega),Nat.add_sub_cancel,List.getD_eq_getElem?_getD,hq]; rfl
  rw [e] at h1
  refine ⟨by omega,λ j m hj hm=>?_⟩
  by_cases hjk:j=k+1
  ·subst hjk; rw [hn] at hm; cases hm; exact Int.le_refl _
  ·have:=ih.2 j m (by omega) hm; omega
theorem MG {u:eh} (h:tL u):XP (y8 u.lines u.stays u.bP):=by
 have h1:=h.st; have h2:=h.fl; have h3:=h.ll
 have hl:(u.lines.take u.stays.toNat).length=u.stays.toNat:=by rw [List.length_take]; omega
 refine ⟨?_,?_,rfl,?_,λ n hn=>?_,?_,λ k x hx=>by cases hx⟩
 ·show (u.lines.take u.stays.toNat).length<=u.bP.length; omega
 ·show u.bP.length<=20; omega
 ·show (u.bP.take u.stays.toNat).length=(u.lines.take u.stays.toNat).length; rw [hl,List.length_take]; omega
 ·obtain ⟨i,hi⟩:=mz (show n∈u.lines.take u.stays.toNat from hn)
  have fS:=(List.getElem?_eq_some_iff.1 hi).1
  rw [hl] at fS
  rw [List.getElem?_take,if_pos fS] at hi
  obtain ⟨q,hq⟩:∃ q,u.lines[u.stays.toNat - 1]? = some q:=⟨_,List.getElem?_eq_getElem (by omega)⟩
  have h4:=zm h (u.stays.toNat - 1) q (by omega) hq
  have h5:=(zm h i n (by omega) hi).1
  have h6:=h4.2 i n (by omega) hi
  show 0<=n/\n<sY (u.lines.take u.stays.toNat)
  rw [tM (by omega) (by omega),List.getD_eq_getElem?_getD,hq]
  exact ⟨h5,by show n<q+1; omega⟩
 show sY (u.lines.take u.stays.toNat)<=20
 by_cases h0:u.stays.toNat=0
 ·rw [h0,List.take_zero]; decide
 obtain ⟨q,hq⟩:∃ q,u.lines[u.stays.toNat - 1]? = some q:=⟨_,List.getElem?_eq_getElem (by omega)⟩
 have:=(uB h (by omega) hq).2
 rw [tM (by omega) (by omega),List.getD_eq_getElem?_getD,hq]
 show q+1<=20
 omega
structure GM (m:j0):Prop where
 ru:tL m.u
 uz:UZ m.u
 mem:XP m.mem
 of:m.mem.of=m.u.lines.take m.u.stays.toNat
 bP:m.mem.bP=m.u.bP
 th:∀ t∈m.l,zT t/\Vis t/\(t.code∈m.u.threads\/t.code=m.u.recover)
 tl:m.l.length<=3
 lk:(m.locks.length:Int)=m.u.locks
 rm:1<=m.room/\m.room<=16
 cr:0<=m.eP
section
variable {m:j0} {t:eB}
theorem GM.code (h:GM m) (ht:t∈m.l):hI t.code m.u.lines.length (fP m.u) m.u.locks:=by
 rcases (h.th t ht).2.2 with h1 | h1
 ·exact h.ru.th _ h1
 rw [h1]; exact h.ru.rc
theorem GM.ok (h:GM m):lU m:=by
 have Oe:=h.tl
 refine ⟨h.mem,λ t ht=>(h.th t ht).1,by omega,h.lk,λ t ht x hx hk=>?_,λ t ht x hx hk=>?_,λ t ht x hx hk=>?_,h.rm,λ t ht=>(h.th t ht).2.1,λ n hn=>?_⟩
 ·obtain ⟨i,hi⟩:=mz hx; exact (h.code ht).b9 hi hk
 ·obtain ⟨i,hi⟩:=mz hx; exact (h.code ht).b2 hi (.inr (.inl hk))
 ·obtain ⟨i,hi⟩:=mz hx
  exact (h.code ht).a1 hi (by omega)
 obtain ⟨i,hi⟩:=mz hn
 have fS:=(List.getElem?_eq_some_iff.1 hi).1
 have:=sT (u:=m.u) (k:=m.u.lines.length) (λ j hj=>h.ru.ln j hj) i n fS hi
 have:=h.ru.ll
 omega
theorem hI.kds {c:dK} {a b d:Int} (h:hI c a b d):∀ x∈c.l,1<=x.kind/\x.kind<=15:=λ x hx=>by
 obtain ⟨i,hi⟩:=mz hx; exact h.kd hi
end
theorem GM.new {N:Nat} {u:eh} {room:Int} {kh:List eB} (hu:tL u) (hz:UZ u) (hb:qz N u.threads kh) (hr:1<=room/\room<=16):GM (jP (fL u room) kh):=by
 have h1:=hu.tl; have h2:=hu.lk
 refine ⟨hu,hz,MG hu,rfl,rfl,λ t ht=>?_,by show kh.length<=3; rw [hb.1]; exact h1.2,?_,hr,Int.le_refl _⟩
 ·obtain ⟨i,hi⟩:=mz (show t∈kh from ht)
  have fS:=(List.getElem?_eq_some_iff.1 hi).1
  obtain ⟨c,hc⟩:∃ c,u.threads[i]? = some c:=⟨_,List.getElem?_eq_getElem (by rw [<- hb.1]; exact fS)⟩
  have hg:=hb.2 i c t hc hi
  have Ub:=List.mem_of_getElem? hc
  have hcu:=hu.th c Ub
  exact ⟨Jo (zh (hcu.ok (hz.th c Ub))) hg,EJ (t:=nZ c) hcu.kds hg,.inl (by rw [(Bm hg).1]; exact Ub)⟩
 show ((List.replicate u.locks.toNat (-1:Int)).length:Int)=u.locks
 rw [List.length_replicate]; omega
theorem Jp {N:Nat} {u:eh} {kh:List eB} (hu:tL u) (hz:UZ u) (hb:qz N u.threads kh):EH N u kh:=by
 have h1:=hu.lk; have h2:=hu.st; have h3:=hu.ll
 refine ⟨hb,λ c hc=>(hu.th c hc).ok (hz.th c hc),hu.fl.symm,hu.ll,hu.st,λ k n hk hn=>?_,by omega⟩
 have h4:=uB hu hk hn
 have fS:=(List.getElem?_eq_some_iff.1 hn).1
 exact ⟨h4.1,by omega,by omega⟩
def hdC (g:Int->Nat) (ta tb:Nat) (x:pT):Nat:=
 if x.kind=11 then g 12+max (ta+(if 0<x.V9 then g 11 else 0)) tb
 else if x.kind=12 then g 13+x.n.toNat * (ta+g 14)
 else if x.kind=13 then g 11 else g (if x.kind=14 then 15 else x.kind)
def Jq (g:Int->Nat):Bk->Nat
 | .nil=>0
 | .cons x a b r=>hdC g (Jq g a) (Jq g b) x+Jq g r
def Yj (x:pT) (a b r:Bk) (at_:Int):Int:=at_+(pV (.cons x a b r) - pV r)
def W (g:Int->Nat):Bk->Int->Int->List Int->Int->Nat->Nat->Option Nat
 | .nil,at_,_,_,pos,kE,_=>if pos=at_ then some kE else none
 | .cons x a b r,at_,lp,cs,pos,kE,kO=>
  if Yj x a b r at_<=pos then W g r (Yj x a b r at_) lp cs pos kE kO
  else if pos=at_ then (if x.kind=13 then some (g 11+kO) else some (hdC g (Jq g a) (Jq g b) x+(Jq g r+kE)))
  else if x.kind=11 then (if pos<toT x a at_ then W g a (at_+1) lp cs pos ((if 0<x.V9 then g 11 else 0)+(Jq g r+kE)) kO else W g b (toT x a at_) lp cs pos (Jq g r+kE) kO)
  else if x.kind=12 then (if 1<=cs.getD lp.toNat 0/\cs.getD lp.toNat 0<=8 then W g a (at_+1) (lp+1) cs pos (g 14+((cs.getD lp.toNat 0).toNat - 1) * (Jq g a+g 14)+(Jq g r+kE)) (Jq g r+kE) else none)
  else none
def Tr (x:aV) (pos:Int) (cs:List Int) (pos':Int) (cs':List Int):Prop:=
 (x.kind=11/\pos'=x.to/\cs'=cs)\/(x.kind=12/\(pos'=x.to\/pos'=pos+1)/\cs'=cs)\/(x.kind=13/\pos'=pos+1/\cs'=cs.set x.a.toNat x.b)\/
 (x.kind=14/\cs'=cs.set x.a.toNat (kW (cs.getD x.a.toNat 0 - 1))/\((0<kW (cs.getD x.a.toNat 0 - 1)/\pos'=x.to)\/(¬ 0<kW (cs.getD x.a.toNat 0 - 1)/\pos'=pos+1)))\/
 (¬ x.kind=11/\¬ x.kind=12/\¬ x.kind=13/\¬ x.kind=14/\pos'=pos+1/\cs'=cs)
theorem jm {cs:List Int} {i:Nat} {v:Int} (h:i<cs.length):(cs.set i v).getD i 0=v:=by
 rw [List.getD_eq_getElem?_getD,List.getElem?_set_self h]; rfl
theorem getD_set_ne {cs:List Int} {i j:Nat} {v:Int} (h:i≠j):(cs.set i v).getD j 0=cs.getD j 0:=by
 rw [List.getD_eq_getElem?_getD,List.getElem?_set_ne h,<- List.getD_eq_getElem?_getD]
section
variable {g:Int->Nat} {p:Ec} {rs:List ByteArray}
theorem MH {x:aV} {pos pos':Int} {cs cs':List Int} (h:Tr x pos cs pos' cs') (h1:¬ x.kind=11) (h2:¬ x.kind=12) (h3:¬ x.kind=13) (h4:¬ x.kind=14):pos'=pos+1/\cs'=cs:=by
 rcases h with ⟨q,_⟩ | ⟨q,_⟩ | ⟨q,_⟩ | ⟨q,_⟩ | ⟨_,_,_,_,h⟩
 ·exact absurd q h1
 ·exact absurd q h2
 ·exact absurd q h3
 ·exact absurd q h4
 exact h
theorem Yk {x:aV} {pos pos':Int} {cs cs':List Int} (h:Tr x pos cs pos' cs') (h1:x.kind=11):pos'=x.to/\cs'=cs:=by
 rcases h with ⟨q,h⟩ | ⟨q,_⟩ | ⟨q,_⟩ | ⟨q,_⟩ | ⟨q,_⟩
 ·exact h
 all_goals omega
theorem Yl {x:aV} {pos pos':Int} {cs cs':List Int} (h:Tr x pos cs pos' cs') (h1:x.kind=12):(pos'=x.to\/pos'=pos+1)/\cs'=cs:=by
 rcases h with ⟨q,_⟩ | ⟨q,h⟩ | ⟨q,_⟩ | ⟨q,_⟩ | ⟨_,q,_⟩
 ·omega
 ·exact h
 all_goals omega
theorem Ym {x:aV} {pos pos':Int} {cs cs':List Int} (h:Tr x pos cs pos' cs') (h1:x.kind=13):pos'=pos+1/\cs'=cs.set x.a.toNat x.b:=by
 rcases h with ⟨q,_⟩ | ⟨q,_⟩ | ⟨q,h⟩ | ⟨q,_⟩ | ⟨_,_,q,_⟩
 ·omega
 ·omega
 ·exact h
 all_goals omega
theorem Yn {x:aV} {pos pos':Int} {cs cs':List Int} (h:Tr x pos cs pos' cs') (h1:x.kind=14):cs'=cs.set x.a.toNat (kW (cs.getD x.a.toNat 0 - 1))/\((0<kW (cs.getD x.a.toNat 0 - 1)/\pos'=x.to)\/(¬ 0<kW (cs.getD x.a.toNat 0 - 1)/\pos'=pos+1)):=by
 rcases h with ⟨q,_⟩ | ⟨q,_⟩ | ⟨q,_⟩ | ⟨q,h⟩ | ⟨_,_,_,q,_⟩
 ·omega
 ·omega
 ·omega
 ·exact h
 omega
end
section
variable {g:Int->Nat} {p:Ec} {b:Bk} {rs:List ByteArray} {t t':eB} {r:Nat}
theorem SK {x:aV} {e:Int} (h:(pn t x e).2=true):Tr x t.at_ t.counts (pn t x e).1.at_ (pn t x e).1.counts:=by
 by_cases h1:x.kind=1
 ·rw [I9 h1]; exact .inr (.inr (.inr (.inr ⟨by omega,by omega,by omega,by omega,rfl,rfl⟩)))
 by_cases KM:x.kind=11
 ·rw [CV KM]; exact .inl ⟨KM,rfl,rfl⟩
 by_cases Gr:x.kind=12
 ·by_cases he:e=0
  ·rw [y9 Gr he]; exact .inr (.inl ⟨Gr,.inl rfl,rfl⟩)
  rw [za Gr he]; exact .inr (.inl ⟨Gr,.inr rfl,rfl⟩)
 by_cases Gs:x.kind=13
 ·rw [CW Gs]; exact .inr (.inr (.inl ⟨Gs,rfl,rfl⟩))
 by_cases EK:x.kind=14
 ·by_cases he:0<kW (t.counts.getD x.a.toNat 0 - 1)
  ·rw [zb EK he]; exact .inr (.inr (.inr (.inl ⟨EK,rfl,.inl ⟨he,rfl⟩⟩)))
  rw [zd EK he]; exact .inr (.inr (.inr (.inl ⟨EK,rfl,.inr ⟨he,rfl⟩⟩)))
 by_cases h15:x.kind=15
 ·by_cases he:e=0
  ·rw [ze h15 he] at h; cases h
  rw [zf h15 he]; exact .inr (.inr (.inr (.inr ⟨KM,Gr,Gs,EK,rfl,rfl⟩)))
 rw [CX h1 KM Gr Gs EK h15] at h; cases h
theorem FH (h:(cU t).2=true):∃ x,fB t=some x/\Tr x t.at_ t.counts (cU t).1.at_ (cU t).1.counts:=by
 cases hn:fB t with
 | none=>rw [rT hn] at h; cases h
 | some x=>
  refine ⟨x,rfl,?_⟩
  cases he:(bL x.e t.aG).2 with
  | false=>rw [rU hn he] at h; cases h
  | true=>
   cases hf:(bL x.f t.aG).2 with
   | false=>rw [rV hn he hf] at h; cases h
   | true=>
    rw [gA hn he hf] at h |-
    exact SK (t:=tF (tE t x) x) h
end
theorem uC {x y:iy}:x=y↔x.kind=y.kind/\x.t=y.t/\x.i=y.i/\x.cut=y.cut:=by
 cases x; cases y; simp
theorem rY {α:Type} {xs ys:List α} {k:Nat} {x y:α} (h:xs.take k=ys.take k) (hx:xs[k]? = some x) (hy:ys[k]? = some y) (e:x=y):xs.take (k+1)=ys.take (k+1):=by
 rw [<- gz hx,<- gz hy,h,e]
theorem Pj {α:Type} {xs ys:List α} {k:Nat} {x y:α} (hx:xs[k]? = some x) (hy:ys[k]? = some y) (e:x≠y):xs≠ys:=λ h=>by
 rw [h,hy] at hx; exact e (Option.some.inj hx).symm
theorem C50 (av bv:Value) (xs ys:List Bool) (w:World) (hA:ee (λ _=>True) w av xs) (hB:ee (λ _=>True) w bv ys) (hn:xs.length<=1073741824):CR 50 [av,bv] w (λ v w'=>v = .bool (decide (xs=ys))/\Ext w w'):=by
 have hs:=St.start w;refine Cs Tryz.func50 (pl:=P50) ?_;refine aI ma (hA.ext hs.aD) (aI ma (hB.ext hs.aD) (bJ (aC (λ fM=>⟨vb (decide_eq_false (λ h=>by rw [h] at fM; exact absurd rfl fM)).symm,hs.aD⟩) (λ fM=>?_))));refine ⟨λ mm i w'=>∃ k:Nat,i = .int .i64 (k:Int)/\mm=xs.length - k/\k<=xs.length/\xs.take k=ys.take k/\St w aZ [] w',⟨_,0,rfl,rfl,Nat.zero_le _,rfl,hs⟩,?_⟩;rintro mm _ _ ⟨k,rfl,rfl,hk,heq,hs⟩ _;refine aI ma (hA.ext hs.aD) (aN (aC (λ rA=>?_) (λ _=>⟨vb (decide_eq_true (by rw [List.take_of_length_le (by omega),List.take_of_length_le (by omega)] at heq; exact heq)).symm,hs.aD⟩)))
 obtain ⟨xP,fm⟩:=gx (xs) (i:=((k:Int)).toNat) (by omega);refine aR ma hA (by omega) fm (λ _ oJ=>have hs:=hs.drew;aO D0 (oJ.ext hs.aD) ?_);obtain ⟨I8,lT⟩:=gx (ys) (i:=((k:Int)).toNat) (by omega);exact aR ma hB (by omega) lT (λ _ oL=>aO D0 (oL.ext hs.aD) (qU LR (bD (λ gY=>⟨vb (decide_eq_false (Pj fm lT (by simpa using gY))).symm,hs.aD⟩) (λ gY=>aW (by omega) ⟨_,by omega,k+1,rfl,rfl,by omega,rY heq fm lT (by simpa using gY),hs⟩))))
theorem C20 (av bv:Value) (xs ys:List iy) (w:World) (hA:DL w av xs) (hB:DL w bv ys) (hn:xs.length<=1073741824) (hc:∀ x∈xs,x.cut.length<=1000000):CR 20 [av,bv] w (λ v w'=>v = .bool (decide (xs=ys))/\Ext w w'):=by
 have hs:=St.start w;refine Cs Tryz.func20 (pl:=P20) ?_;obtain ⟨Yo,yc,Pk⟩:=(hA).open;have Yp:=Pk.1;refine aI l5 (yc.ext hs.aD) ?_;obtain ⟨Yq,Bn,Pm⟩:=(hB).open;have hn133:=Pm.1;refine aI l5 (Bn.ext hs.aD) (bJ (aC (λ _=>⟨vb (decide_eq_false (λ h=>by rw [h] at Yp; omega)).symm,hs.aD⟩) (λ fM=>?_)));refine ⟨λ mm i w'=>∃ k:Nat,i = .int .i64 (k:Int)/\mm=xs.length - k/\k<=xs.length/\xs.take k=ys.take k/\St w aZ [] w',⟨_,0,rfl,rfl,Nat.zero_le _,rfl,hs⟩,?_⟩;rintro mm _ _ ⟨k,rfl,rfl,hk,heq,hs⟩ _;refine aI l5 (yc.ext hs.aD) (aN (aC (λ rA=>?_) (λ _=>⟨vb (decide_eq_true (by rw [List.take_of_length_le (by omega),List.take_of_length_le (by omega)] at heq; exact heq)).symm,hs.aD⟩)))
 obtain ⟨ra,SL⟩:∃ xx,xs[k]? = some xx:=⟨_,List.getElem?_eq_getElem (by omega)⟩;obtain ⟨rb,SM⟩:∃ xx,ys[k]? = some xx:=⟨_,List.getElem?_eq_getElem (by omega)⟩;refine ⟨λ jv w'=>jv = .bool (!decide (ra=rb))/\St w aZ [] w',?_,?_⟩
 ·obtain ⟨xP,fm⟩:=gx Yo (i:=((k:Int)).toNat) (by omega);obtain ⟨Bo,vV⟩:=gx (xs) (i:=((k:Int)).toNat) (by omega);obtain ⟨FI,rfl,FJ⟩:=Pk.2 _ _ _ fm vV;refine aR l5 yc (by omega) fm (λ _ oJ=>dO (Bo).kind D1 oJ rfl rfl (λ _ Yr=>have hs:=hs.drew;aO bK (Yr.ext hs.aD) ?_));obtain ⟨gR,gV⟩:=gx Yq (i:=((k:Int)).toNat) (by omega);obtain ⟨tI,oK⟩:=gx (ys) (i:=((k:Int)).toNat) (by omega);obtain ⟨FK,rfl,FL⟩:=Pm.2 _ _ _ gV oK;refine aR l5 Bn (by omega) gV (λ _ vy=>dO (tI).kind D1 vy rfl rfl (λ _ rP=>aO bK (rP.ext hs.aD) ?_))
  have hra:ra=Bo:=Option.some.inj (SL.symm.trans vV);have zU:rb=tI:=Option.some.inj (SM.symm.trans oK);have hcx:=hc _ (List.mem_of_getElem? vV);refine bJ (aC (λ _=>⟨vb (by rw [hra,zU]; rw [decide_eq_false (λ h=>by rw [uC] at h; omega)]; rfl),hs⟩) (λ HK=>aR l5 yc (by omega) fm (λ _ nM=>dO (Bo).t D2 nM rfl rfl (λ _ IP=>aO bK (IP.ext hs.aD) (aR l5 Bn (by omega) gV (λ _ A7=>dO (tI).t D2 A7 rfl rfl (λ _ oH=>aO bK (oH.ext hs.aD) (bJ (aC (λ _=>⟨vb (by rw [hra,zU]; rw [decide_eq_false (λ h=>by rw [uC] at h; omega)]; rfl),hs⟩) (λ IU=>aR l5 yc (by omega) fm (λ _ Jr=>dO (Bo).i D3 Jr rfl rfl (λ _ Ys=>aO bK (Ys.ext hs.aD) (aR l5 Bn (by omega) gV (λ _ wa=>dO (tI).i D3 wa rfl rfl (λ _ AT=>aO bK (AT.ext hs.aD) (bJ (aC (λ _=>⟨vb (by rw [hra,zU]; rw [decide_eq_false (λ h=>by rw [uC] at h; omega)]; rfl),hs⟩) (λ Pn=>aR l5 yc (by omega) fm (λ _ Yt=>dO FI D4 Yt rfl rfl (λ _ Yu=>aO cT (Yu.ext hs.aD) ?_))))))))))))))))))))
  have Yv:=DL.flat (FJ);refine aR l5 Bn (by omega) gV (λ _ Yw=>dO FK D4 Yw rfl rfl (λ _ Yx=>aO cT (Yx.ext hs.aD) ?_));have Yy:=DL.flat (FL);exact bF Li hs (C21 _ _ (Bo).cut (tI).cut _ (Yv.ext hs.aD) (Yy.ext hs.aD) (by omega)) (λ _ _ hs=>bO ⟨vb (by rw [hra,zU]; exact congrArg (λ b=>!b) (decide_eq_decide.2 (by rw [uC]; exact ⟨λ h=>⟨by omega,by omega,by omega,h⟩,λ h=>h.2.2.2⟩))),hs⟩)
 rintro _ _ ⟨rfl,hs⟩ _;exact bD (λ rz=>⟨vb (decide_eq_false (Pj SL SM (by simpa using rz))).symm,hs.aD⟩) (λ rz=>aW (by omega) ⟨_,by omega,k+1,rfl,rfl,by omega,rY heq SL SM (by simpa using rz),hs⟩)
end Go.Proofs.YtnjcingfdhjfkaaGreat
namespace Go.Fw
noncomputable section
inductive Tr (α:Type) where
 | lf
 | nd (l:Tr α) (v:α) (r:Tr α)
section
variable {α:Type} (d:α)
def Tr.get (t:Tr α):Nat->α:=
 Tr.rec (motive:=λ _=>Nat->α) (λ _=>d)
  (λ _ v _ gl gr i=>Nat.rec (motive:=λ _=>α) v (λ j _=>Bool.rec (motive:=λ _=>α) (gl (Nat.div j 2)) (gr (Nat.div j 2)) (Nat.beq (Nat.mod j 2) 1)) i) t
def Tr.C5 (x:α) (f:Nat):Nat->Tr α:=
 Nat.rec (motive:=λ _=>Nat->Tr α) (λ _=>.lf) (λ _ ih i=>Nat.rec (motive:=λ _=>Tr α) (.nd .lf x .lf) (λ j _=>Bool.rec (motive:=λ _=>Tr α) (.nd (ih (Nat.div j 2)) d .lf) (.nd .lf d (ih (Nat.div j 2))) (Nat.beq (Nat.mod j 2) 1)) i) f
def Tr.put (t:Tr α) (x:α):Nat->Tr α:=
 Tr.rec (motive:=λ _=>α->Nat->Tr α) (λ x i=>Tr.C5 d x (Nat.succ i) i)
  (λ l v r pl pr x i=>Nat.rec (motive:=λ _=>Tr α) (.nd l x r) (λ j _=>Bool.rec (motive:=λ _=>Tr α) (.nd (pl x (Nat.div j 2)) v r) (.nd l v (pr x (Nat.div j 2))) (Nat.beq (Nat.mod j 2) 1)) i) t x
theorem MI {j:Nat} {b:Bool} (h:Nat.beq (Nat.mod j 2) 1=b):(b=true->j % 2=1)/\(b=false->j % 2=0):=by
 refine ⟨λ hb=>Nat.eq_of_beq_eq_true (h.trans hb),λ hb=>?_⟩
 have:j % 2≠1:=λ hm=>by
  have h1:Nat.beq (Nat.mod j 2) 1=true:=by show Nat.beq (j % 2) 1=true; rw [hm]; rfl
  rw [hb,h1] at h
  cases h
 omega
theorem Tr.Js (x:α):∀ f i k,i<f->(Tr.C5 d x f i).get d k=if k=i then x else d:=by
 intro f
 induction f with
 | zero=>intro i k h; omega
 | succ f ih=>
  intro i k h
  cases i with
  | zero=>cases k with
   | zero=>rfl
   | succ k=>show Bool.rec (motive:=λ _=>α) d d _=_; rw [if_neg (by omega)]; cases Nat.beq (Nat.mod k 2) 1 <;> rfl
  | succ j=>
   have hd:Nat.div j 2<f:=by show j / 2<f; omega
   have ih':=λ k=>ih (Nat.div j 2) (Nat.div k 2) hd
   generalize hj:Nat.beq (Nat.mod j 2) 1=b
   have e:Tr.C5 d x (f+1) (j+1)=Bool.rec (motive:=λ _=>Tr α) (.nd (Tr.C5 d x f (Nat.div j 2)) d .lf) (.nd .lf d (Tr.C5 d x f (Nat.div j 2))) b:=by rw [<- hj]; rfl
   rw [e]
   have m1:=MI hj
   cases k with
   | zero=>rw [if_neg (by omega)]; cases b <;> rfl
   | succ k=>
    generalize hk:Nat.beq (Nat.mod k 2) 1=c
    have m2:=MI hk
    cases b with
    | false=>
     show Bool.rec (motive:=λ _=>α) ((Tr.C5 d x f (Nat.div j 2)).get d (Nat.div k 2)) d (Nat.beq (Nat.mod k 2) 1)=_
     rw [hk,ih']
     cases c with
     | false=>
      have:=m1.2 rfl; have:=m2.2 rfl
      show (if k / 2=j / 2 then x else d)=_
      by_cases hc:k=j
      ·rw [if_pos (by omega),if_pos (by omega)]
      ·rw [if_neg (by omega),if_neg (by omega)]
     | true=>have:=m1.2 rfl; have:=m2.1 rfl; show d=_; rw [if_neg (by omega)]
    | true=>
     show Bool.rec (motive:=λ _=>α) d ((Tr.C5 d x f (Nat.div j 2)).get d (Nat.div k 2)) (Nat.beq (Nat.mod k 2) 1)=_
     rw [hk,ih']
     cases c with
     | false=>have:=m1.1 rfl; have:=m2.2 rfl; show d=_; rw [if_neg (by omega)]
     | true=>
      have:=m1.1 rfl; have:=m2.1 rfl
      show (if k / 2=j / 2 then x else d)=_
      by_cases hc:k=j
      ·rw [if_pos (by omega),if_pos (by omega)]
      ·rw [if_neg (by omega),if_neg (by omega)]
theorem Tr.EL (x:α):∀ (t:Tr α) i k,(t.put d x i).get d k=if k=i then x else t.get d k:=by
 intro t
 induction t with
 | lf=>intro i k; exact Tr.Js d x _ i k (Nat.lt_succ_self i)
 | nd l v r ihl ihr=>
  intro i k
  cases i with
  | zero=>cases k with
   | zero=>rfl
   | succ k=>rw [if_neg (by omega)]; rfl
  | succ j=>
   generalize hj:Nat.beq (Nat.mod j 2) 1=b
   have e:(Tr.nd l v r).put d x (j+1)=Bool.rec (motive:=λ _=>Tr α) (.nd (l.put d x (Nat.div j 2)) v r) (.nd l v (r.put d x (Nat.div j 2))) b:=by rw [<- hj]; rfl
   rw [e]
   have m1:=MI hj
   cases k with
   | zero=>rw [if_neg (by omega)]; cases b <;> rfl
   | succ k=>
    generalize hk:Nat.beq (Nat.mod k 2) 1=c
    have m2:=MI hk
    have e2:(Tr.nd l v r).get d (k+1)=Bool.rec (motive:=λ _=>α) (l.get d (Nat.div k 2)) (r.get d (Nat.div k 2)) c:=by rw [<- hk]; rfl
    rw [e2]
    cases b with
    | false=>
     show Bool.rec (motive:=λ _=>α) ((l.put d x (Nat.div j 2)).get d (Nat.div k 2)) (r.get d (Nat.div k 2)) (Nat.beq (Nat.mod k 2) 1)=_
     rw [hk,ihl]
     cases c with
     | false=>
      have:=m1.2 rfl; have:=m2.2 rfl
      show (if k / 2=j / 2 then x else _)=_
      by_cases hc:k=j
      ·rw [if_pos (by omega),if_pos (by omega)]
      ·rw [if_neg (by omega),if_neg (by omega)]
     | true=>have:=m1.2 rfl; have:=m2.1 rfl; show r.get d (Nat.div k 2)=_; rw [if_neg (by omega)]
    | true=>
     show Bool.rec (motive:=λ _=>α) (l.get d (Nat.div k 2)) ((r.put d x (Nat.div j 2)).get d (Nat.div k 2)) (Nat.beq (Nat.mod k 2) 1)=_
     rw [hk,ihr]
     cases c with
     | false=>have:=m1.1 rfl; have:=m2.2 rfl; show l.get d (Nat.div k 2)=_; rw [if_neg (by omega)]
     | true=>
      have:=m1.1 rfl; have:=m2.1 rfl
      show (if k / 2=j / 2 then x else _)=_
      by_cases hc:k=j
      ·rw [if_pos (by omega),if_pos (by omega)]
      ·rw [if_neg (by omega),if_neg (by omega)]
end
inductive V where
 | b (x:Bool)
 | i (k:IntKind) (n:Int)
 | s (n:Nat) (l:Nat)
 | np
 | p (b:Nat) (o:Nat)
 | ns
 | sl (b:Nat) (o:Nat) (l:Nat) (k:Nat)
 | sx (b:Nat) (o:Nat) (l:Nat) (c:Nat)
 | se
 | nm
 | m (r:Nat)
 | nf
 | f (g:Nat) (c:V)
 | y (l:Nat)
 | a (c:V)
 | t (c:V)
 | e
 | c (h:V) (r:V)
def Bp:V:=.t .e
def rZ:List UInt8->Nat
 | []=>0
 | b::r=>b.toNat+256 * rZ r
def jd (n i:Nat):UInt8:=UInt8.ofNat (Nat.mod (Nat.shiftRight n (Nat.mul 8 i)) 256)
def strOf (n l:Nat):ByteArray:=⟨((List.range l).map λ i=>jd n i).toArray⟩
def mX:Value->Option V
 | .bool b=>some (.b b)
 | .int k n=>some (.i k n)
 | .string s=>some (.s (rZ s.data.toList) s.data.toList.length)
 | .pointer none=>some .np
 | .slice none 0 0=>some .ns
 | .map none=>some .nm
 | .nilFunc=>some .nf
 | _=>none
def ny:List Value->Option V
 | []=>some .e
 | x::r=>match mX x,ny r with | some v,some l=>some (.c v l) | _,_=>none
def xd:V->Option Value × Option (List Value)
 | .b x=>(some (.bool x),none)
 | .i k n=>(some (.int k n),none)
 | .s n l=>(some (.string (strOf n l)),none)
 | .np=>(some (.pointer none),none)
 | .ns=>(some (.slice none 0 0),none)
 | .nm=>(some (.map none),none)
 | .nf=>(some .nilFunc,none)
 | .a l=>(((xd l).2).map λ l=>.agg l.toArray,none)
 | .e=>(none,some [])
 | .c h r=>(none,match (xd h).1,(xd r).2 with | some x,some l=>some (x::l) | _,_=>none)
 | _=>(none,none)
inductive N8 (α:Type) where
 | mk (x0 x1 x2 x3 x4 x5 x6 x7:α)
inductive S8 where
 | k0 | k1 | k2 | k3 | k4 | k5 | k6 | k7
def S8.of:Nat->S8
 | 0=>.k0 | 1=>.k1 | 2=>.k2 | 3=>.k3 | 4=>.k4 | 5=>.k5 | 6=>.k6 | _=>.k7
inductive Sl where
 | mk (a b c:S8)
def SN (s:S8) (t:N8 V):V:=S8.rec (motive:=λ _=>N8 V->V) (N8.rec (motive:=λ _=>V) (λ x _ _ _ _ _ _ _=>x)) (N8.rec (motive:=λ _=>V) (λ _ x _ _ _ _ _ _=>x)) (N8.rec (motive:=λ _=>V) (λ _ _ x _ _ _ _ _=>x)) (N8.rec (motive:=λ _=>V) (λ _ _ _ x _ _ _ _=>x)) (N8.rec (motive:=λ _=>V) (λ _ _ _ _ x _ _ _=>x)) (N8.rec (motive:=λ _=>V) (λ _ _ _ _ _ x _ _=>x)) (N8.rec (motive:=λ _=>V) (λ _ _ _ _ _ _ x _=>x)) (N8.rec (motive:=λ _=>V) (λ _ _ _ _ _ _ _ x=>x)) s t
def Yz (s:S8) (x:V) (t:N8 V):N8 V:=S8.rec (motive:=λ _=>V->N8 V->N8 V) (λ x t=>N8.rec (motive:=λ _=>V->N8 V) (λ _ x1 x2 x3 x4 x5 x6 x7 x=>.mk x x1 x2 x3 x4 x5 x6 x7) t x) (λ x t=>N8.rec (motive:=λ _=>V->N8 V) (λ x0 _ x2 x3 x4 x5 x6 x7 x=>.mk x0 x x2 x3 x4 x5 x6 x7) t x) (λ x t=>N8.rec (motive:=λ _=>V->N8 V) (λ x0 x1 _ x3 x4 x5 x6 x7 x=>.mk x0 x1 x x3 x4 x5 x6 x7) t x) (λ x t=>N8.rec (motive:=λ _=>V->N8 V) (λ x0 x1 x2 _ x4 x5 x6 x7 x=>.mk x0 x1 x2 x x4 x5 x6 x7) t x) (λ x t=>N8.rec (motive:=λ _=>V->N8 V) (λ x0 x1 x2 x3 _ x5 x6 x7 x=>.mk x0 x1 x2 x3 x x5 x6 x7) t x) (λ x t=>N8.rec (motive:=λ _=>V->N8 V) (λ x0 x1 x2 x3 x4 _ x6 x7 x=>.mk x0 x1 x2 x3 x4 x x6 x7) t x) (λ x t=>N8.rec (motive:=λ _=>V->N8 V) (λ x0 x1 x2 x3 x4 x5 _ x7 x=>.mk x0 x1 x2 x3 x4 x5 x x7) t x) (λ x t=>N8.rec (motive:=λ _=>V->N8 V) (λ x0 x1 x2 x3 x4 x5 x6 _ x=>.mk x0 x1 x2 x3 x4 x5 x6 x) t x) s x t
theorem Jt (s:S8) (x:V) (t:N8 V):SN s (Yz s x t)=x:=by cases t; cases s <;> rfl
theorem SO (s s':S8) (x:V) (t:N8 V) (h:s'≠s):SN s' (Yz s x t)=SN s' t:=by cases t; cases s <;> cases s' <;> first | rfl | exact absurd rfl h
def KN (s:S8) (t:N8 (N8 V)):(N8 V):=S8.rec (motive:=λ _=>N8 (N8 V)->(N8 V)) (N8.rec (motive:=λ _=>(N8 V)) (λ x _ _ _ _ _ _ _=>x)) (N8.rec (motive:=λ _=>(N8 V)) (λ _ x _ _ _ _ _ _=>x)) (N8.rec (motive:=λ _=>(N8 V)) (λ _ _ x _ _ _ _ _=>x)) (N8.rec (motive:=λ _=>(N8 V)) (λ _ _ _ x _ _ _ _=>x)) (N8.rec (motive:=λ _=>(N8 V)) (λ _ _ _ _ x _ _ _=>x)) (N8.rec (motive:=λ _=>(N8 V)) (λ _ _ _ _ _ x _ _=>x)) (N8.rec (motive:=λ _=>(N8 V)) (λ _ _ _ _ _ _ x _=>x)) (N8.rec (motive:=λ _=>(N8 V)) (λ _ _ _ _ _ _ _ x=>x)) s t
def YA (s:S8) (x:(N8 V)) (t:N8 (N8 V)):N8 (N8 V):=S8.rec (motive:=λ _=>(N8 V)->N8 (N8 V)->N8 (N8 V)) (λ x t=>N8.rec (motive:=λ _=>(N8 V)->N8 (N8 V)) (λ _ x1 x2 x3 x4 x5 x6 x7 x=>.mk x x1 x2 x3 x4 x5 x6 x7) t x) (λ x t=>N8.rec (motive:=λ _=>(N8 V)->N8 (N8 V)) (λ x0 _ x2 x3 x4 x5 x6 x7 x=>.mk x0 x x2 x3 x4 x5 x6 x7) t x) (λ x t=>N8.rec (motive:=λ _=>(N8 V)->N8 (N8 V)) (λ x0 x1 _ x3 x4 x5 x6 x7 x=>.mk x0 x1 x x3 x4 x5 x6 x7) t x) (λ x t=>N8.rec (motive:=λ _=>(N8 V)->N8 (N8 V)) (λ x0 x1 x2 _ x4 x5 x6 x7 x=>.mk x0 x1 x2 x x4 x5 x6 x7) t x) (λ x t=>N8.rec (motive:=λ _=>(N8 V)->N8 (N8 V)) (λ x0 x1 x2 x3 _ x5 x6 x7 x=>.mk x0 x1 x2 x3 x x5 x6 x7) t x) (λ x t=>N8.rec (motive:=λ _=>(N8 V)->N8 (N8 V)) (λ x0 x1 x2 x3 x4 _ x6 x7 x=>.mk x0 x1 x2 x3 x4 x x6 x7) t x) (λ x t=>N8.rec (motive:=λ _=>(N8 V)->N8 (N8 V)) (λ x0 x1 x2 x3 x4 x5 _ x7 x=>.mk x0 x1 x2 x3 x4 x5 x x7) t x) (λ x t=>N8.rec (motive:=λ _=>(N8 V)->N8 (N8 V)) (λ x0 x1 x2 x3 x4 x5 x6 _ x=>.mk x0 x1 x2 x3 x4 x5 x6 x) t x) s x t
theorem Bq (s:S8) (x:(N8 V)) (t:N8 (N8 V)):KN s (YA s x t)=x:=by cases t; cases s <;> rfl
theorem SP (s s':S8) (x:(N8 V)) (t:N8 (N8 V)) (h:s'≠s):KN s' (YA s x t)=KN s' t:=by cases t; cases s <;> cases s' <;> first | rfl | exact absurd rfl h
def FM (s:S8) (t:N8 (N8 (N8 V))):(N8 (N8 V)):=S8.rec (motive:=λ _=>N8 (N8 (N8 V))->(N8 (N8 V))) (N8.rec (motive:=λ _=>(N8 (N8 V))) (λ x _ _ _ _ _ _ _=>x)) (N8.rec (motive:=λ _=>(N8 (N8 V))) (λ _ x _ _ _ _ _ _=>x)) (N8.rec (motive:=λ _=>(N8 (N8 V))) (λ _ _ x _ _ _ _ _=>x)) (N8.rec (motive:=λ _=>(N8 (N8 V))) (λ _ _ _ x _ _ _ _=>x)) (N8.rec (motive:=λ _=>(N8 (N8 V))) (λ _ _ _ _ x _ _ _=>x)) (N8.rec (motive:=λ _=>(N8 (N8 V))) (λ _ _ _ _ _ x _ _=>x)) (N8.rec (motive:=λ _=>(N8 (N8 V))) (λ _ _ _ _ _ _ x _=>x)) (N8.rec (motive:=λ _=>(N8 (N8 V))) (λ _ _ _ _ _ _ _ x=>x)) s t
def YB (s:S8) (x:(N8 (N8 V))) (t:N8 (N8 (N8 V))):N8 (N8 (N8 V)):=S8.rec (motive:=λ _=>(N8 (N8 V))->N8 (N8 (N8 V))->N8 (N8 (N8 V))) (λ x t=>N8.rec (motive:=λ _=>(N8 (N8 V))->N8 (N8 (N8 V))) (λ _ x1 x2 x3 x4 x5 x6 x7 x=>.mk x x1 x2 x3 x4 x5 x6 x7) t x) (λ x t=>N8.rec (motive:=λ _=>(N8 (N8 V))->N8 (N8 (N8 V))) (λ x0 _ x2 x3 x4 x5 x6 x7 x=>.mk x0 x x2 x3 x4 x5 x6 x7) t x) (λ x t=>N8.rec (motive:=λ _=>(N8 (N8 V))->N8 (N8 (N8 V))) (λ x0 x1 _ x3 x4 x5 x6 x7 x=>.mk x0 x1 x x3 x4 x5 x6 x7) t x) (λ x t=>N8.rec (motive:=λ _=>(N8 (N8 V))->N8 (N8 (N8 V))) (λ x0 x1 x2 _ x4 x5 x6 x7 x=>.mk x0 x1 x2 x x4 x5 x6 x7) t x) (λ x t=>N8.rec (motive:=λ _=>(N8 (N8 V))->N8 (N8 (N8 V))) (λ x0 x1 x2 x3 _ x5 x6 x7 x=>.mk x0 x1 x2 x3 x x5 x6 x7) t x) (λ x t=>N8.rec (motive:=λ _=>(N8 (N8 V))->N8 (N8 (N8 V))) (λ x0 x1 x2 x3 x4 _ x6 x7 x=>.mk x0 x1 x2 x3 x4 x x6 x7) t x) (λ x t=>N8.rec (motive:=λ _=>(N8 (N8 V))->N8 (N8 (N8 V))) (λ x0 x1 x2 x3 x4 x5 _ x7 x=>.mk x0 x1 x2 x3 x4 x5 x x7) t x) (λ x t=>N8.rec (motive:=λ _=>(N8 (N8 V))->N8 (N8 (N8 V))) (λ x0 x1 x2 x3 x4 x5 x6 _ x=>.mk x0 x1 x2 x3 x4 x5 x6 x) t x) s x t
theorem Br (s:S8) (x:(N8 (N8 V))) (t:N8 (N8 (N8 V))):FM s (YB s x t)=x:=by cases t; cases s <;> rfl
theorem SQ (s s':S8) (x:(N8 (N8 V))) (t:N8 (N8 (N8 V))) (h:s'≠s):FM s' (YB s x t)=FM s' t:=by cases t; cases s <;> cases s' <;> first | rfl | exact absurd rfl h
abbrev En:=N8 (N8 (N8 V))
def Sl.get (s:Sl) (e:En):V:=Sl.rec (motive:=λ _=>En->V) (λ a b c e=>SN c (KN b (FM a e))) s e
def Sl.put (s:Sl) (x:V) (e:En):En:=Sl.rec (motive:=λ _=>V->En->En) (λ a b c x e=>YB a (YA b (Yz c x (KN b (FM a e))) (FM a e)) e) s x e
def sb (i:Nat):Option Sl:=bif Nat.blt i 512 then some (.mk (S8.of (Nat.div i 64)) (S8.of (Nat.mod (Nat.div i 8) 8)) (S8.of (Nat.mod i 8))) else none
def SR {α:Type} (x:α):N8 α:=.mk x x x x x x x x
def Uc:En:=SR (SR (SR Bp))
inductive Oq where
 | t (i:Sl)
 | k (v:V)
def dR (e:En) (o:Oq):V:=Oq.rec (motive:=λ _=>En->V) (λ i e=>i.get e) (λ v _=>v) o e
inductive OL where
 | nil
 | cons (x:Oq) (r:OL)
def KO (e:En) (l:OL):V:=OL.rec (motive:=λ _=>En->V) (λ _=>.e) (λ x _ ih e=>.c (dR e x) (ih e)) l e
inductive PL where
 | nil
 | cons (o n:Nat) (x:Oq) (r:PL)
inductive Kd where
 | no | bool | ptr | slice | map | func
 | rows (l:List Nat)
inductive FN where
 | bad
 | mv (x:Oq)
 | pick (c a b:Oq)
 | new (z:V)
 | box (x:Oq)
 | build (z:V) (ps:PL)
 | bsl (es n:Nat) (z:V) (ps:PL)
 | ld (x:Oq)
 | lda (n:Nat) (x:Oq)
 | st (n:Nat) (a x:Oq)
 | adC (x:Oq)
 | bin (op:BinOp) (g:Value->Value->Sem Value) (kd:Kd) (x y:Oq)
 | not (x:Oq)
 | gen (f:Value->Sem Value) (x:Oq)
 | SS (f:List Value->Sem Value) (l:OL)
 | fa (off:Nat) (x:Oq)
 | ia (es:Nat) (x i:Oq)
 | iaa (n es:Nat) (x i:Oq)
 | Yi (off:Nat) (x:Oq)
 | adD (off n:Nat) (x:Oq)
 | idx (x i:Oq)
 | adE (k es:Nat) (x i:Oq)
 | adF (k es:Nat) (x i:Oq)
 | toB (x:Oq)
 | slc (es:Nat) (x lo hi mx:Oq)
 | adG (x lo hi:Oq)
 | len (kd:Kd) (x:Oq)
 | ext (i:Nat) (x:Oq)
 | call (g:Nat) (l:OL)
 | zW (f:Oq) (l:OL)
 | app (es:Nat) (x y:Oq)
 | mkf (g:Nat) (l:OL)
 | mkm
 | mks (es:Nat) (z:V) (l c:Oq)
 | look (s:Bool) (z:V) (ok:Bool) (m k:Oq)
 | mup (s:Bool) (m k x:Oq)
 | cpy (es:Nat) (x y:Oq)
 | clr (es:Nat) (z:V) (x:Oq)
 | del (s:Bool) (m k:Oq)
 | rng (m:Oq)
 | nxt (i:Oq)
 | ent (i:Oq)
inductive GS where
 | a
 | w (s:Sl) (b:Bool)
inductive Ds where
 | n
 | s (x:Sl)
inductive KL where
 | nil
 | cons (g:GS) (q:FN) (d:Sl) (r:KL)
inductive RL where
 | nil
 | stop
 | mv (x:Oq) (d:Ds) (r:RL)
 | q (q:FN) (d:Ds) (r:RL)
 | op (ix:Nat) (g:GS) (q:FN) (d:Ds) (ks:KL) (r:RL)
 | alt (ix:Nat) (g:GS) (q:FN) (d:Ds) (ks:KL) (r o:RL)
inductive NL where
 | nil
 | cons (x:Nat) (r:NL)
inductive ML where
 | nil
 | cons (k v:V) (b:Nat) (r:ML)
inductive PS where
 | nil
 | cons (x:Sl) (r:PS)
inductive CC where
 | bad | skip | ret
 | exit (id:Nat)
 | Q8 (m:Nat) (r:RL)
 | seq (a b:CC)
 | cond (c:Oq) (a b:CC)
 | block (id:Nat) (c:CC)
 | loop (c:CC)
 | rf (g:Oq) (ps:PS) (a b:CC)
inductive JS where
 | no | rt
 | ex (id:Nat)
inductive HB where
 | z | x
 | c (n es:Nat) (t:Tr V)
 | m (c:Nat) (l:ML)
 | it (m c st b k:Nat)
 | lp (st:Nat) (j:JS) (ps:PS) (e:En) (a b:CC)
 | df
abbrev Hp:=Tr HB
inductive OR where
 | no
 | ok (v:V) (h:Hp) (n:Nat)
inductive RR where
 | no | any
 | ok (e:En) (h:Hp) (n:Nat)
inductive Ex where
 | no
 | nx (e:En) (h:Hp) (n:Nat) (ds:NL)
 | rt (e:En) (h:Hp) (n:Nat) (ds:NL)
 | ex (id:Nat) (e:En) (h:Hp) (n:Nat) (ds:NL)
def sd (t:Tr V):Nat->V:=
 Tr.rec (motive:=λ _=>Nat->V) (λ _=>Bp)
  (λ _ v _ gl gr i=>Nat.rec (motive:=λ _=>V) v (λ j _=>Bool.rec (motive:=λ _=>V) (gl (Nat.div j 2)) (gr (Nat.div j 2)) (Nat.beq (Nat.mod j 2) 1)) i) t
def YC (x:V) (f:Nat):Nat->Tr V:=
 Nat.rec (motive:=λ _=>Nat->Tr V) (λ _=>.lf) (λ _ ih i=>Nat.rec (motive:=λ _=>Tr V) (.nd .lf x .lf) (λ j _=>Bool.rec (motive:=λ _=>Tr V) (.nd (ih (Nat.div j 2)) Bp .lf) (.nd .lf Bp (ih (Nat.div j 2))) (Nat.beq (Nat.mod j 2) 1)) i) f
def MJ (t:Tr V) (x:V):Nat->Tr V:=
 Tr.rec (motive:=λ _=>V->Nat->Tr V) (λ x i=>YC x (Nat.succ i) i)
  (λ l v r pl pr x i=>Nat.rec (motive:=λ _=>Tr V) (.nd l x r) (λ j _=>Bool.rec (motive:=λ _=>Tr V) (.nd (pl x (Nat.div j 2)) v r) (.nd l v (pr x (Nat.div j 2))) (Nat.beq (Nat.mod j 2) 1)) i) t x
theorem Bs (t:Tr V) (x:V) (i k:Nat):sd (MJ t x i) k=if k=i then x else sd t k:=Tr.EL Bp x t i k
def dH (t:Tr HB):Nat->HB:=
 Tr.rec (motive:=λ _=>Nat->HB) (λ _=>HB.z)
  (λ _ v _ gl gr i=>Nat.rec (motive:=λ _=>HB) v (λ j _=>Bool.rec (motive:=λ _=>HB) (gl (Nat.div j 2)) (gr (Nat.div j 2)) (Nat.beq (Nat.mod j 2) 1)) i) t
def YD (y:HB) (f:Nat):Nat->Tr HB:=
 Nat.rec (motive:=λ _=>Nat->Tr HB) (λ _=>.lf) (λ _ ih i=>Nat.rec (motive:=λ _=>Tr HB) (.nd .lf y .lf) (λ j _=>Bool.rec (motive:=λ _=>Tr HB) (.nd (ih (Nat.div j 2)) HB.z .lf) (.nd .lf HB.z (ih (Nat.div j 2))) (Nat.beq (Nat.mod j 2) 1)) i) f
def ew (t:Tr HB) (y:HB):Nat->Tr HB:=
 Tr.rec (motive:=λ _=>HB->Nat->Tr HB) (λ y i=>YD y (Nat.succ i) i)
  (λ l v r pl pr y i=>Nat.rec (motive:=λ _=>Tr HB) (.nd l y r) (λ j _=>Bool.rec (motive:=λ _=>Tr HB) (.nd (pl y (Nat.div j 2)) v r) (.nd l v (pr y (Nat.div j 2))) (Nat.beq (Nat.mod j 2) 1)) i) t y
theorem gB (t:Tr HB) (y:HB) (i k:Nat):dH (ew t y i) k=if k=i then y else dH t k:=Tr.EL HB.z y t i k
def V.FP (v:V) (d:OR) (k:Bool->OR):OR:=
 V.rec (motive:=λ _=>OR->(Bool->OR)->OR) (λ x0 _ k=>k x0) (λ _ _ d _=>d) (λ _ _ d _=>d) (λ d _=>d) (λ _ _ d _=>d) (λ d _=>d) (λ _ _ _ _ d _=>d) (λ _ _ _ _ d _=>d) (λ d _=>d) (λ d _=>d) (λ _ d _=>d) (λ d _=>d) (λ _ _ _ d _=>d) (λ _ d _=>d) (λ _ _ d _=>d) (λ _ _ d _=>d) (λ d _=>d) (λ _ _ _ _ d _=>d) v d k
theorem V.sg (v:V) (d:OR) (k:Bool->OR):v.FP d k=d\/(∃ x0,v = .b x0/\v.FP d k=k x0):=by
 cases v <;> first | exact .inl rfl | exact .inr ⟨_,rfl,rfl⟩
def V.FQ (v:V) (d:OR) (k:IntKind->Int->OR):OR:=
 V.rec (motive:=λ _=>OR->(IntKind->Int->OR)->OR) (λ _ d _=>d) (λ x0 x1 _ k=>k x0 x1) (λ _ _ d _=>d) (λ d _=>d) (λ _ _ d _=>d) (λ d _=>d) (λ _ _ _ _ d _=>d) (λ _ _ _ _ d _=>d) (λ d _=>d) (λ d _=>d) (λ _ d _=>d) (λ d _=>d) (λ _ _ _ d _=>d) (λ _ d _=>d) (λ _ _ d _=>d) (λ _ _ d _=>d) (λ d _=>d) (λ _ _ _ _ d _=>d) v d k
theorem V.uD (v:V) (d:OR) (k:IntKind->Int->OR):v.FQ d k=d\/(∃ x0 x1,v = .i x0 x1/\v.FQ d k=k x0 x1):=by
 cases v <;> first | exact .inl rfl | exact .inr ⟨_,_,rfl,rfl⟩
def V.Bt (v:V) (d:OR) (k:Nat->Nat->OR):OR:=
 V.rec (motive:=λ _=>OR->(Nat->Nat->OR)->OR) (λ _ d _=>d) (λ _ _ d _=>d) (λ x0 x1 _ k=>k x0 x1) (λ d _=>d) (λ _ _ d _=>d) (λ d _=>d) (λ _ _ _ _ d _=>d) (λ _ _ _ _ d _=>d) (λ d _=>d) (λ d _=>d) (λ _ d _=>d) (λ d _=>d) (λ _ _ _ d _=>d) (λ _ d _=>d) (λ _ _ d _=>d) (λ _ _ d _=>d) (λ d _=>d) (λ _ _ _ _ d _=>d) v d k
theorem V.uE (v:V) (d:OR) (k:Nat->Nat->OR):v.Bt d k=d\/(∃ x0 x1,v = .s x0 x1/\v.Bt d k=k x0 x1):=by
 cases v <;> first | exact .inl rfl | exact .inr ⟨_,_,rfl,rfl⟩
def V.KP (v:V) (d:OR) (k:Nat->Nat->OR):OR:=
 V.rec (motive:=λ _=>OR->(Nat->Nat->OR)->OR) (λ _ d _=>d) (λ _ _ d _=>d) (λ _ _ d _=>d) (λ d _=>d) (λ x0 x1 _ k=>k x0 x1) (λ d _=>d) (λ _ _ _ _ d _=>d) (λ _ _ _ _ d _=>d) (λ d _=>d) (λ d _=>d) (λ _ d _=>d) (λ d _=>d) (λ _ _ _ d _=>d) (λ _ d _=>d) (λ _ _ d _=>d) (λ _ _ d _=>d) (λ d _=>d) (λ _ _ _ _ d _=>d) v d k
theorem V.MK (v:V) (d:OR) (k:Nat->Nat->OR):v.KP d k=d\/(∃ x0 x1,v = .p x0 x1/\v.KP d k=k x0 x1):=by
 cases v <;> first | exact .inl rfl | exact .inr ⟨_,_,rfl,rfl⟩
def V.Ju (v:V) (d:OR) (k:V->OR):OR:=
 V.rec (motive:=λ _=>OR->(V->OR)->OR) (λ _ d _=>d) (λ _ _ d _=>d) (λ _ _ d _=>d) (λ d _=>d) (λ _ _ d _=>d) (λ d _=>d) (λ _ _ _ _ d _=>d) (λ _ _ _ _ d _=>d) (λ d _=>d) (λ d _=>d) (λ _ d _=>d) (λ d _=>d) (λ _ _ _ d _=>d) (λ _ d _=>d) (λ x0 _ _ k=>k x0) (λ _ _ d _=>d) (λ d _=>d) (λ _ _ _ _ d _=>d) v d k
theorem V.zn (v:V) (d:OR) (k:V->OR):v.Ju d k=d\/(∃ x0,v = .a x0/\v.Ju d k=k x0):=by
 cases v <;> first | exact .inl rfl | exact .inr ⟨_,rfl,rfl⟩
def V.KQ (v:V) (d:OR) (k:V->OR):OR:=
 V.rec (motive:=λ _=>OR->(V->OR)->OR) (λ _ d _=>d) (λ _ _ d _=>d) (λ _ _ d _=>d) (λ d _=>d) (λ _ _ d _=>d) (λ d _=>d) (λ _ _ _ _ d _=>d) (λ _ _ _ _ d _=>d) (λ d _=>d) (λ d _=>d) (λ _ d _=>d) (λ d _=>d) (λ _ _ _ d _=>d) (λ _ d _=>d) (λ _ _ d _=>d) (λ x0 _ _ k=>k x0) (λ d _=>d) (λ _ _ _ _ d _=>d) v d k
theorem V.zo (v:V) (d:OR) (k:V->OR):v.KQ d k=d\/(∃ x0,v = .t x0/\v.KQ d k=k x0):=by
 cases v <;> first | exact .inl rfl | exact .inr ⟨_,rfl,rfl⟩
def V.Po (v:V) (d:OR) (k:V->V->OR):OR:=
 V.rec (motive:=λ _=>OR->(V->V->OR)->OR) (λ _ d _=>d) (λ _ _ d _=>d) (λ _ _ d _=>d) (λ d _=>d) (λ _ _ d _=>d) (λ d _=>d) (λ _ _ _ _ d _=>d) (λ _ _ _ _ d _=>d) (λ d _=>d) (λ d _=>d) (λ _ d _=>d) (λ d _=>d) (λ _ _ _ d _=>d) (λ _ d _=>d) (λ _ _ d _=>d) (λ _ _ d _=>d) (λ d _=>d) (λ x0 x1 _ _ _ k=>k x0 x1) v d k
def V.zp (v:V) (d:OR) (k:Nat->OR):OR:=
 V.rec (motive:=λ _=>OR->(Nat->OR)->OR) (λ _ d _=>d) (λ _ _ d _=>d) (λ _ _ d _=>d) (λ d _=>d) (λ _ _ d _=>d) (λ d _=>d) (λ _ _ _ _ d _=>d) (λ _ _ _ _ d _=>d) (λ d _=>d) (λ d _=>d) (λ x0 _ k=>k x0) (λ d _=>d) (λ _ _ _ d _=>d) (λ _ d _=>d) (λ _ _ d _=>d) (λ _ _ d _=>d) (λ d _=>d) (λ _ _ _ _ d _=>d) v d k
theorem V.zq (v:V) (d:OR) (k:Nat->OR):v.zp d k=d\/(∃ x0,v = .m x0/\v.zp d k=k x0):=by
 cases v <;> first | exact .inl rfl | exact .inr ⟨_,rfl,rfl⟩
def V.Jv (v:V) (d:OR) (k1:Nat->V->OR) (k2:Nat->OR):OR:=
 V.rec (motive:=λ _=>OR->(Nat->V->OR)->(Nat->OR)->OR) (λ _ d _ _=>d) (λ _ _ d _ _=>d) (λ _ _ d _ _=>d) (λ d _ _=>d) (λ _ _ d _ _=>d) (λ d _ _=>d) (λ _ _ _ _ d _ _=>d) (λ _ _ _ _ d _ _=>d) (λ d _ _=>d) (λ d _ _=>d) (λ _ d _ _=>d) (λ d _ _=>d) (λ x0 x1 _ _ k1 _=>k1 x0 x1) (λ x0 _ _ k2=>k2 x0) (λ _ _ d _ _=>d) (λ _ _ d _ _=>d) (λ d _ _=>d) (λ _ _ _ _ d _ _=>d) v d k1 k2
theorem V.Jw (v:V) (d:OR) (k1:Nat->V->OR) (k2:Nat->OR):v.Jv d k1 k2=d\/(∃ x0 x1,v = .f x0 x1/\v.Jv d k1 k2=k1 x0 x1)\/(∃ x0,v = .y x0/\v.Jv d k1 k2=k2 x0):=by
 cases v <;> first | exact .inl rfl | exact .inr (.inl ⟨_,_,rfl,rfl⟩) | exact .inr (.inr ⟨_,rfl,rfl⟩)
def V.MM (v:V) (d:OR) (k1:Nat->Nat->OR) (k2:Nat->V->OR):OR:=
 V.rec (motive:=λ _=>OR->(Nat->Nat->OR)->(Nat->V->OR)->OR) (λ _ d _ _=>d) (λ _ _ d _ _=>d) (λ _ _ d _ _=>d) (λ d _ _=>d) (λ x0 x1 _ k1 _=>k1 x0 x1) (λ d _ _=>d) (λ _ _ _ _ d _ _=>d) (λ _ _ _ _ d _ _=>d) (λ d _ _=>d) (λ d _ _=>d) (λ _ d _ _=>d) (λ d _ _=>d) (λ x0 x1 _ _ _ k2=>k2 x0 x1) (λ _ d _ _=>d) (λ _ _ d _ _=>d) (λ _ _ d _ _=>d) (λ d _ _=>d) (λ _ _ _ _ d _ _=>d) v d k1 k2
theorem V.Jx (v:V) (d:OR) (k1:Nat->Nat->OR) (k2:Nat->V->OR):v.MM d k1 k2=d\/(∃ x0 x1,v = .p x0 x1/\v.MM d k1 k2=k1 x0 x1)\/(∃ x0 x1,v = .f x0 x1/\v.MM d k1 k2=k2 x0 x1):=by
 cases v <;> first | exact .inl rfl | exact .inr (.inl ⟨_,_,rfl,rfl⟩) | exact .inr (.inr ⟨_,_,rfl,rfl⟩)
def V.Gt (v:V) (d:OR) (k0:OR) (k:V->V->OR):OR:=
 V.rec (motive:=λ _=>OR->OR->(V->V->OR)->OR) (λ _ d _ _=>d) (λ _ _ d _ _=>d) (λ _ _ d _ _=>d) (λ d _ _=>d) (λ _ _ d _ _=>d) (λ d _ _=>d) (λ _ _ _ _ d _ _=>d) (λ _ _ _ _ d _ _=>d) (λ d _ _=>d) (λ d _ _=>d) (λ _ d _ _=>d) (λ d _ _=>d) (λ _ _ _ d _ _=>d) (λ _ d _ _=>d) (λ _ _ d _ _=>d) (λ _ _ d _ _=>d) (λ _ k0 _=>k0) (λ x0 x1 _ _ _ _ k=>k x0 x1) v d k0 k
def V.n6 (v:V) (d:OR) (k0:OR) (k1:Nat->Nat->Nat->Nat->OR) (k2:Nat->Nat->Nat->Nat->OR) (k3:OR):OR:=
 V.rec (motive:=λ _=>OR->OR->(Nat->Nat->Nat->Nat->OR)->(Nat->Nat->Nat->Nat->OR)->OR->OR) (λ _ d _ _ _ _=>d) (λ _ _ d _ _ _ _=>d) (λ _ _ d _ _ _ _=>d) (λ d _ _ _ _=>d) (λ _ _ d _ _ _ _=>d) (λ _ k0 _ _ _=>k0) (λ x0 x1 x2 x3 _ _ k1 _ _=>k1 x0 x1 x2 x3) (λ x0 x1 x2 x3 _ _ _ k2 _=>k2 x0 x1 x2 x3) (λ _ _ _ _ k3=>k3) (λ d _ _ _ _=>d) (λ _ d _ _ _ _=>d) (λ d _ _ _ _=>d) (λ _ _ _ d _ _ _ _=>d) (λ _ d _ _ _ _=>d) (λ _ _ d _ _ _ _=>d) (λ _ _ d _ _ _ _=>d) (λ d _ _ _ _=>d) (λ _ _ _ _ d _ _ _ _=>d) v d k0 k1 k2 k3
theorem V.Jy (v:V) (d:OR) (k0:OR) (k1:Nat->Nat->Nat->Nat->OR) (k2:Nat->Nat->Nat->Nat->OR) (k3:OR):v.n6 d k0 k1 k2 k3=d\/(v = .ns/\v.n6 d k0 k1 k2 k3=k0)\/(∃ x0 x1 x2 x3,v = .sl x0 x1 x2 x3/\v.n6 d k0 k1 k2 k3=k1 x0 x1 x2 x3)\/(∃ x0 x1 x2 x3,v = .sx x0 x1 x2 x3/\v.n6 d k0 k1 k2 k3=k2 x0 x1 x2 x3)\/(v = .se/\v.n6 d k0 k1 k2 k3=k3):=by
 cases v <;> first | exact .inl rfl | exact .inr (.inl ⟨rfl,rfl⟩) | exact .inr (.inr (.inl ⟨_,_,_,_,rfl,rfl⟩)) | exact .inr (.inr (.inr (.inl ⟨_,_,_,_,rfl,rfl⟩))) | exact .inr (.inr (.inr (.inr ⟨rfl,rfl⟩)))
def V.FR (v:V) (d:OR) (k0:OR) (k:IntKind->Int->OR):OR:=
 V.rec (motive:=λ _=>OR->OR->(IntKind->Int->OR)->OR) (λ _ d _ _=>d) (λ x0 x1 _ _ k=>k x0 x1) (λ _ _ d _ _=>d) (λ d _ _=>d) (λ _ _ d _ _=>d) (λ d _ _=>d) (λ _ _ _ _ d _ _=>d) (λ _ _ _ _ d _ _=>d) (λ d _ _=>d) (λ d _ _=>d) (λ _ d _ _=>d) (λ d _ _=>d) (λ _ _ _ d _ _=>d) (λ _ d _ _=>d) (λ _ _ d _ _=>d) (λ _ _ d _ _=>d) (λ _ k0 _=>k0) (λ _ _ _ _ d _ _=>d) v d k0 k
theorem V.Jz (v:V) (d:OR) (k0:OR) (k:IntKind->Int->OR):v.FR d k0 k=d\/(v = .e/\v.FR d k0 k=k0)\/(∃ x0 x1,v = .i x0 x1/\v.FR d k0 k=k x0 x1):=by
 cases v <;> first | exact .inl rfl | exact .inr (.inl ⟨rfl,rfl⟩) | exact .inr (.inr ⟨_,_,rfl,rfl⟩)
def V.MN (v:V) (d:RR) (k:Bool->RR):RR:=
 V.rec (motive:=λ _=>RR->(Bool->RR)->RR) (λ x0 _ k=>k x0) (λ _ _ d _=>d) (λ _ _ d _=>d) (λ d _=>d) (λ _ _ d _=>d) (λ d _=>d) (λ _ _ _ _ d _=>d) (λ _ _ _ _ d _=>d) (λ d _=>d) (λ d _=>d) (λ _ d _=>d) (λ d _=>d) (λ _ _ _ d _=>d) (λ _ d _=>d) (λ _ _ d _=>d) (λ _ _ d _=>d) (λ d _=>d) (λ _ _ _ _ d _=>d) v d k
theorem V.JA (v:V) (d:RR) (k:Bool->RR):v.MN d k=d\/(∃ x0,v = .b x0/\v.MN d k=k x0):=by
 cases v <;> first | exact .inl rfl | exact .inr ⟨_,rfl,rfl⟩
def V.MO (v:V) (d:Ex) (k:Bool->Ex):Ex:=
 V.rec (motive:=λ _=>Ex->(Bool->Ex)->Ex) (λ x0 _ k=>k x0) (λ _ _ d _=>d) (λ _ _ d _=>d) (λ d _=>d) (λ _ _ d _=>d) (λ d _=>d) (λ _ _ _ _ d _=>d) (λ _ _ _ _ d _=>d) (λ d _=>d) (λ d _=>d) (λ _ d _=>d) (λ d _=>d) (λ _ _ _ d _=>d) (λ _ d _=>d) (λ _ _ d _=>d) (λ _ _ d _=>d) (λ d _=>d) (λ _ _ _ _ d _=>d) v d k
theorem V.JB (v:V) (d:Ex) (k:Bool->Ex):v.MO d k=d\/(∃ x0,v = .b x0/\v.MO d k=k x0):=by
 cases v <;> first | exact .inl rfl | exact .inr ⟨_,rfl,rfl⟩
def V.SU (v:V) (d:Ex) (k:Nat->V->Ex):Ex:=
 V.rec (motive:=λ _=>Ex->(Nat->V->Ex)->Ex) (λ _ d _=>d) (λ _ _ d _=>d) (λ _ _ d _=>d) (λ d _=>d) (λ _ _ d _=>d) (λ d _=>d) (λ _ _ _ _ d _=>d) (λ _ _ _ _ d _=>d) (λ d _=>d) (λ d _=>d) (λ _ d _=>d) (λ d _=>d) (λ x0 x1 _ _ k=>k x0 x1) (λ _ d _=>d) (λ _ _ d _=>d) (λ _ _ d _=>d) (λ d _=>d) (λ _ _ _ _ d _=>d) v d k
theorem V.JC (v:V) (d:Ex) (k:Nat->V->Ex):v.SU d k=d\/(∃ x0 x1,v = .f x0 x1/\v.SU d k=k x0 x1):=by
 cases v <;> first | exact .inl rfl | exact .inr ⟨_,_,rfl,rfl⟩
def V.adH (v:V) (d:En) (k:V->V->En):En:=
 V.rec (motive:=λ _=>En->(V->V->En)->En) (λ _ d _=>d) (λ _ _ d _=>d) (λ _ _ d _=>d) (λ d _=>d) (λ _ _ d _=>d) (λ d _=>d) (λ _ _ _ _ d _=>d) (λ _ _ _ _ d _=>d) (λ d _=>d) (λ d _=>d) (λ _ d _=>d) (λ d _=>d) (λ _ _ _ d _=>d) (λ _ d _=>d) (λ _ _ d _=>d) (λ _ _ d _=>d) (λ d _=>d) (λ x0 x1 _ _ _ k=>k x0 x1) v d k
def V.MP (v:V) (d:V) (k:V->V->V):V:=
 V.rec (motive:=λ _=>V->(V->V->V)->V) (λ _ d _=>d) (λ _ _ d _=>d) (λ _ _ d _=>d) (λ d _=>d) (λ _ _ d _=>d) (λ d _=>d) (λ _ _ _ _ d _=>d) (λ _ _ _ _ d _=>d) (λ d _=>d) (λ d _=>d) (λ _ d _=>d) (λ d _=>d) (λ _ _ _ d _=>d) (λ _ d _=>d) (λ _ _ d _=>d) (λ _ _ d _=>d) (λ d _=>d) (λ x0 x1 _ _ _ k=>k x0 x1) v d k
def V.fc (v:V) (k:V->OR):OR:=
 V.rec (motive:=λ _=>(V->OR)->OR) (λ x0 k=>k (.b x0)) (λ x0 x1 k=>k (.i x0 x1)) (λ x0 x1 k=>k (.s x0 x1)) (λ k=>k .np) (λ x0 x1 k=>k (.p x0 x1)) (λ k=>k .ns) (λ x0 x1 x2 x3 k=>k (.sl x0 x1 x2 x3)) (λ x0 x1 x2 x3 k=>k (.sx x0 x1 x2 x3)) (λ k=>k .se) (λ k=>k .nm) (λ x0 k=>k (.m x0)) (λ k=>k .nf) (λ x0 x1 _ k=>k (.f x0 x1)) (λ x0 k=>k (.y x0)) (λ x0 _ k=>k (.a x0)) (λ x0 _ k=>k (.t x0)) (λ k=>k .e) (λ x0 x1 _ _ k=>k (.c x0 x1)) v k
theorem V.nS (v:V) (k:V->OR):v.fc k=k v:=by cases v <;> rfl
def V.fcR (v:V) (k:V->RR):RR:=
 V.rec (motive:=λ _=>(V->RR)->RR) (λ x0 k=>k (.b x0)) (λ x0 x1 k=>k (.i x0 x1)) (λ x0 x1 k=>k (.s x0 x1)) (λ k=>k .np) (λ x0 x1 k=>k (.p x0 x1)) (λ k=>k .ns) (λ x0 x1 x2 x3 k=>k (.sl x0 x1 x2 x3)) (λ x0 x1 x2 x3 k=>k (.sx x0 x1 x2 x3)) (λ k=>k .se) (λ k=>k .nm) (λ x0 k=>k (.m x0)) (λ k=>k .nf) (λ x0 x1 _ k=>k (.f x0 x1)) (λ x0 k=>k (.y x0)) (λ x0 _ k=>k (.a x0)) (λ x0 _ k=>k (.t x0)) (λ k=>k .e) (λ x0 x1 _ _ k=>k (.c x0 x1)) v k
theorem V.SW (v:V) (k:V->RR):v.fcR k=k v:=by cases v <;> rfl
def HB.Po (h:HB) (d:OR) (k:Nat->Nat->(Tr V)->OR):OR:=
 HB.rec (motive:=λ _=>OR->(Nat->Nat->(Tr V)->OR)->OR) (λ d _=>d) (λ d _=>d) (λ x0 x1 x2 _ k=>k x0 x1 x2) (λ _ _ d _=>d) (λ _ _ _ _ _ d _=>d) (λ _ _ _ _ _ _ d _=>d) (λ d _=>d) h d k
theorem HB.MQ (h:HB) (d:OR) (k:Nat->Nat->(Tr V)->OR):h.Po d k=d\/∃ x0 x1 x2,h = .c x0 x1 x2/\h.Po d k=k x0 x1 x2:=by
 cases h <;> first | exact .inl rfl | exact .inr ⟨_,_,_,rfl,rfl⟩
def HB.zp (h:HB) (d:OR) (k:Nat->ML->OR):OR:=
 HB.rec (motive:=λ _=>OR->(Nat->ML->OR)->OR) (λ d _=>d) (λ d _=>d) (λ _ _ _ d _=>d) (λ x0 x1 _ k=>k x0 x1) (λ _ _ _ _ _ d _=>d) (λ _ _ _ _ _ _ d _=>d) (λ d _=>d) h d k
theorem HB.zq (h:HB) (d:OR) (k:Nat->ML->OR):h.zp d k=d\/∃ x0 x1,h = .m x0 x1/\h.zp d k=k x0 x1:=by
 cases h <;> first | exact .inl rfl | exact .inr ⟨_,_,rfl,rfl⟩
def HB.KQ (h:HB) (d:OR) (k:Nat->Nat->Nat->Nat->Nat->OR):OR:=
 HB.rec (motive:=λ _=>OR->(Nat->Nat->Nat->Nat->Nat->OR)->OR) (λ d _=>d) (λ d _=>d) (λ _ _ _ d _=>d) (λ _ _ d _=>d) (λ x0 x1 x2 x3 x4 _ k=>k x0 x1 x2 x3 x4) (λ _ _ _ _ _ _ d _=>d) (λ d _=>d) h d k
theorem HB.zo (h:HB) (d:OR) (k:Nat->Nat->Nat->Nat->Nat->OR):h.KQ d k=d\/∃ x0 x1 x2 x3 x4,h = .it x0 x1 x2 x3 x4/\h.KQ d k=k x0 x1 x2 x3 x4:=by
 cases h <;> first | exact .inl rfl | exact .inr ⟨_,_,_,_,_,rfl,rfl⟩
def HB.Gt (h:HB) (d:OR) (k:Nat->JS->PS->En->CC->CC->OR):OR:=
 HB.rec (motive:=λ _=>OR->(Nat->JS->PS->En->CC->CC->OR)->OR) (λ d _=>d) (λ d _=>d) (λ _ _ _ d _=>d) (λ _ _ d _=>d) (λ _ _ _ _ _ d _=>d) (λ x0 x1 x2 x3 x4 x5 _ k=>k x0 x1 x2 x3 x4 x5) (λ d _=>d) h d k
theorem HB.zu (h:HB) (d:OR) (k:Nat->JS->PS->En->CC->CC->OR):h.Gt d k=d\/∃ x0 x1 x2 x3 x4 x5,h = .lp x0 x1 x2 x3 x4 x5/\h.Gt d k=k x0 x1 x2 x3 x4 x5:=by
 cases h <;> first | exact .inl rfl | exact .inr ⟨_,_,_,_,_,_,rfl,rfl⟩
def HB.onZ (h:HB) (d:OR) (k:OR):OR:=
 HB.rec (motive:=λ _=>OR->OR->OR) (λ _ k=>k) (λ d _=>d) (λ _ _ _ d _=>d) (λ _ _ d _=>d) (λ _ _ _ _ _ d _=>d) (λ _ _ _ _ _ _ d _=>d) (λ d _=>d) h d k
theorem HB.MR (h:HB) (d:OR) (k:OR):h.onZ d k=d\/(h = .z/\h.onZ d k=k):=by
 cases h <;> first | exact .inl rfl | exact .inr ⟨rfl,rfl⟩
def HB.onD (h:HB) (d:OR) (k:OR):OR:=
 HB.rec (motive:=λ _=>OR->OR->OR) (λ d _=>d) (λ d _=>d) (λ _ _ _ d _=>d) (λ _ _ d _=>d) (λ _ _ _ _ _ d _=>d) (λ _ _ _ _ _ _ d _=>d) (λ _ k=>k) h d k
theorem HB.MS (h:HB) (d:OR) (k:OR):h.onD d k=d\/(h = .df/\h.onD d k=k):=by
 cases h <;> first | exact .inl rfl | exact .inr ⟨rfl,rfl⟩
def HB.MT (h:HB) (d:Ex) (k:Ex):Ex:=
 HB.rec (motive:=λ _=>Ex->Ex->Ex) (λ _ k=>k) (λ d _=>d) (λ _ _ _ d _=>d) (λ _ _ d _=>d) (λ _ _ _ _ _ d _=>d) (λ _ _ _ _ _ _ d _=>d) (λ d _=>d) h d k
theorem HB.Bu (h:HB) (d:Ex) (k:Ex):h.MT d k=d\/(h = .z/\h.MT d k=k):=by
 cases h <;> first | exact .inl rfl | exact .inr ⟨rfl,rfl⟩
def HB.SX (h:HB) (d:Ex) (k:Nat->JS->PS->En->CC->CC->Ex):Ex:=
 HB.rec (motive:=λ _=>Ex->(Nat->JS->PS->En->CC->CC->Ex)->Ex) (λ d _=>d) (λ d _=>d) (λ _ _ _ d _=>d) (λ _ _ d _=>d) (λ _ _ _ _ _ d _=>d) (λ x0 x1 x2 x3 x4 x5 _ k=>k x0 x1 x2 x3 x4 x5) (λ d _=>d) h d k
theorem HB.JD (h:HB) (d:Ex) (k:Nat->JS->PS->En->CC->CC->Ex):h.SX d k=d\/∃ x0 x1 x2 x3 x4 x5,h = .lp x0 x1 x2 x3 x4 x5/\h.SX d k=k x0 x1 x2 x3 x4 x5:=by
 cases h <;> first | exact .inl rfl | exact .inr ⟨_,_,_,_,_,_,rfl,rfl⟩
def dM (b:Bool) (t e:OR):OR:=Bool.rec (motive:=λ _=>OR) e t b
def tc (b:Bool):Bool:=Bool.rec (motive:=λ _=>Bool) true false b
def FT (a b:Bool):Bool:=Bool.rec (motive:=λ _=>Bool) (tc b) b a
def dI (a b:Bool):Bool:=Bool.rec (motive:=λ _=>Bool) false b a
def kn (k:IntKind):Nat:=IntKind.rec (motive:=λ _=>Nat) 0 1 2 3 4 5 6 7 k
def JE (a b:Int):Bool:=
 Int.rec (motive:=λ _=>Bool) (λ x=>Int.rec (motive:=λ _=>Bool) (λ y=>Nat.beq x y) (λ _=>false) b) (λ x=>Int.rec (motive:=λ _=>Bool) (λ _=>false) (λ y=>Nat.beq x y) b) a
def V.eqv (v:V):V->Bool:=
 V.rec (motive:=λ _=>V->Bool)
 (λ x0=>λ v=>V.rec (motive:=λ _=>Bool) (λ y0=>FT x0 y0) (λ _ _=>false) (λ _ _=>false) false (λ _ _=>false) false (λ _ _ _ _=>false) (λ _ _ _ _=>false) false false (λ _=>false) false (λ _ _ _=>false) (λ _=>false) (λ _ _=>false) (λ _ _=>false) false (λ _ _ _ _=>false) v)
 (λ x0 x1=>λ v=>V.rec (motive:=λ _=>Bool) (λ _=>false) (λ y0 y1=>dI (Nat.beq (kn x0) (kn y0)) (JE x1 y1)) (λ _ _=>false) false (λ _ _=>false) false (λ _ _ _ _=>false) (λ _ _ _ _=>false) false false (λ _=>false) false (λ _ _ _=>false) (λ _=>false) (λ _ _=>false) (λ _ _=>false) false (λ _ _ _ _=>false) v)
 (λ x0 x1=>λ v=>V.rec (motive:=λ _=>Bool) (λ _=>false) (λ _ _=>false) (λ y0 y1=>dI (Nat.beq x0 y0) (Nat.beq x1 y1)) false (λ _ _=>false) false (λ _ _ _ _=>false) (λ _ _ _ _=>false) false false (λ _=>false) false (λ _ _ _=>false) (λ _=>false) (λ _ _=>false) (λ _ _=>false) false (λ _ _ _ _=>false) v)
 (λ v=>V.rec (motive:=λ _=>Bool) (λ _=>false) (λ _ _=>false) (λ _ _=>false) true (λ _ _=>false) false (λ _ _ _ _=>false) (λ _ _ _ _=>false) false false (λ _=>false) false (λ _ _ _=>false) (λ _=>false) (λ _ _=>false) (λ _ _=>false) false (λ _ _ _ _=>false) v)
 (λ x0 x1=>λ v=>V.rec (motive:=λ _=>Bool) (λ _=>false) (λ _ _=>false) (λ _ _=>false) false (λ y0 y1=>dI (Nat.beq x0 y0) (Nat.beq x1 y1)) false (λ _ _ _ _=>false) (λ _ _ _ _=>false) false false (λ _=>false) false (λ _ _ _=>false) (λ _=>false) (λ _ _=>false) (λ _ _=>false) false (λ _ _ _ _=>false) v)
 (λ v=>V.rec (motive:=λ _=>Bool) (λ _=>false) (λ _ _=>false) (λ _ _=>false) false (λ _ _=>false) true (λ _ _ _ _=>false) (λ _ _ _ _=>false) false false (λ _=>false) false (λ _ _ _=>false) (λ _=>false) (λ _ _=>false) (λ _ _=>false) false (λ _ _ _ _=>false) v)
 (λ x0 x1 x2 x3=>λ v=>V.rec (motive:=λ _=>Bool) (λ _=>false) (λ _ _=>false) (λ _ _=>false) false (λ _ _=>false) false (λ y0 y1 y2 y3=>dI (Nat.beq x0 y0) (dI (Nat.beq x1 y1) (dI (Nat.beq x2 y2) (Nat.beq x3 y3)))) (λ _ _ _ _=>false) false false (λ _=>false) false (λ _ _ _=>false) (λ _=>false) (λ _ _=>false) (λ _ _=>false) false (λ _ _ _ _=>false) v)
 (λ x0 x1 x2 x3=>λ v=>V.rec (motive:=λ _=>Bool) (λ _=>false) (λ _ _=>false) (λ _ _=>false) false (λ _ _=>false) false (λ _ _ _ _=>false) (λ y0 y1 y2 y3=>dI (Nat.beq x0 y0) (dI (Nat.beq x1 y1) (dI (Nat.beq x2 y2) (Nat.beq x3 y3)))) false false (λ _=>false) false (λ _ _ _=>false) (λ _=>false) (λ _ _=>false) (λ _ _=>false) false (λ _ _ _ _=>false) v)
 (λ _=>false)
 (λ v=>V.rec (motive:=λ _=>Bool) (λ _=>false) (λ _ _=>false) (λ _ _=>false) false (λ _ _=>false) false (λ _ _ _ _=>false) (λ _ _ _ _=>false) false true (λ _=>false) false (λ _ _ _=>false) (λ _=>false) (λ _ _=>false) (λ _ _=>false) false (λ _ _ _ _=>false) v)
 (λ x0=>λ v=>V.rec (motive:=λ _=>Bool) (λ _=>false) (λ _ _=>false) (λ _ _=>false) false (λ _ _=>false) false (λ _ _ _ _=>false) (λ _ _ _ _=>false) false false (λ y0=>Nat.beq x0 y0) false (λ _ _ _=>false) (λ _=>false) (λ _ _=>false) (λ _ _=>false) false (λ _ _ _ _=>false) v)
 (λ v=>V.rec (motive:=λ _=>Bool) (λ _=>false) (λ _ _=>false) (λ _ _=>false) false (λ _ _=>false) false (λ _ _ _ _=>false) (λ _ _ _ _=>false) false false (λ _=>false) true (λ _ _ _=>false) (λ _=>false) (λ _ _=>false) (λ _ _=>false) false (λ _ _ _ _=>false) v)
 (λ x0 _ h1=>λ v=>V.rec (motive:=λ _=>Bool) (λ _=>false) (λ _ _=>false) (λ _ _=>false) false (λ _ _=>false) false (λ _ _ _ _=>false) (λ _ _ _ _=>false) false false (λ _=>false) false (λ y0 y1 _=>dI (Nat.beq x0 y0) (h1 y1)) (λ _=>false) (λ _ _=>false) (λ _ _=>false) false (λ _ _ _ _=>false) v)
 (λ x0=>λ v=>V.rec (motive:=λ _=>Bool) (λ _=>false) (λ _ _=>false) (λ _ _=>false) false (λ _ _=>false) false (λ _ _ _ _=>false) (λ _ _ _ _=>false) false false (λ _=>false) false (λ _ _ _=>false) (λ y0=>Nat.beq x0 y0) (λ _ _=>false) (λ _ _=>false) false (λ _ _ _ _=>false) v)
 (λ _ h0=>λ v=>V.rec (motive:=λ _=>Bool) (λ _=>false) (λ _ _=>false) (λ _ _=>false) false (λ _ _=>false) false (λ _ _ _ _=>false) (λ _ _ _ _=>false) false false (λ _=>false) false (λ _ _ _=>false) (λ _=>false) (λ y0 _=>h0 y0) (λ _ _=>false) false (λ _ _ _ _=>false) v)
 (λ _ h0=>λ v=>V.rec (motive:=λ _=>Bool) (λ _=>false) (λ _ _=>false) (λ _ _=>false) false (λ _ _=>false) false (λ _ _ _ _=>false) (λ _ _ _ _=>false) false false (λ _=>false) false (λ _ _ _=>false) (λ _=>false) (λ _ _=>false) (λ y0 _=>h0 y0) false (λ _ _ _ _=>false) v)
 (λ v=>V.rec (motive:=λ _=>Bool) (λ _=>false) (λ _ _=>false) (λ _ _=>false) false (λ _ _=>false) false (λ _ _ _ _=>false) (λ _ _ _ _=>false) false false (λ _=>false) false (λ _ _ _=>false) (λ _=>false) (λ _ _=>false) (λ _ _=>false) true (λ _ _ _ _=>false) v)
 (λ _ _ h0 h1=>λ v=>V.rec (motive:=λ _=>Bool) (λ _=>false) (λ _ _=>false) (λ _ _=>false) false (λ _ _=>false) false (λ _ _ _ _=>false) (λ _ _ _ _=>false) false false (λ _=>false) false (λ _ _ _=>false) (λ _=>false) (λ _ _=>false) (λ _ _=>false) false (λ y0 y1 _ _=>dI (h0 y0) (h1 y1)) v) v
def TV.eqv (t:Tr V):Tr V->Bool:=
 Tr.rec (motive:=λ _=>Tr V->Bool) (λ u=>Tr.rec (motive:=λ _=>Bool) true (λ _ _ _ _ _=>false) u) (λ _ v _ hl hr u=>Tr.rec (motive:=λ _=>Bool) false (λ l' v' r' _ _=>dI (V.eqv v v') (dI (hl l') (hr r'))) u) t
def ML.eqv (a:ML):ML->Bool:=
 ML.rec (motive:=λ _=>ML->Bool) (λ b=>ML.rec (motive:=λ _=>Bool) true (λ _ _ _ _ _=>false) b) (λ k v t _ ih b=>ML.rec (motive:=λ _=>Bool) false (λ k' v' t' r' _=>dI (V.eqv k k') (dI (V.eqv v v') (dI (Nat.beq t t') (ih r')))) b) a
def HB.eqv (a b:HB):Bool:=
 HB.rec (motive:=λ _=>Bool) (HB.rec (motive:=λ _=>Bool) true false (λ _ _ _=>false) (λ _ _=>false) (λ _ _ _ _ _=>false) (λ _ _ _ _ _ _=>false) false b) (HB.rec (motive:=λ _=>Bool) false true (λ _ _ _=>false) (λ _ _=>false) (λ _ _ _ _ _=>false) (λ _ _ _ _ _ _=>false) false b)
  (λ n es t=>HB.rec (motive:=λ _=>Bool) false false (λ n' pI t'=>dI (Nat.beq n n') (dI (Nat.beq es pI) (TV.eqv t t'))) (λ _ _=>false) (λ _ _ _ _ _=>false) (λ _ _ _ _ _ _=>false) false b)
  (λ c l=>HB.rec (motive:=λ _=>Bool) false false (λ _ _ _=>false) (λ c' l'=>dI (Nat.beq c c') (ML.eqv l l')) (λ _ _ _ _ _=>false) (λ _ _ _ _ _ _=>false) false b)
  (λ m c st b' k=>HB.rec (motive:=λ _=>Bool) false false (λ _ _ _=>false) (λ _ _=>false) (λ m' c' st' b'' k'=>dI (Nat.beq m m') (dI (Nat.beq c c') (dI (Nat.beq st st') (dI (Nat.beq b' b'') (Nat.beq k k'))))) (λ _ _ _ _ _ _=>false) false b) (λ _ _ _ _ _ _=>false)
  (HB.rec (motive:=λ _=>Bool) false false (λ _ _ _=>false) (λ _ _=>false) (λ _ _ _ _ _=>false) (λ _ _ _ _ _ _=>false) true b) a
def TH.eqv (t:Tr HB):Tr HB->Bool:=
 Tr.rec (motive:=λ _=>Tr HB->Bool) (λ u=>Tr.rec (motive:=λ _=>Bool) true (λ _ _ _ _ _=>false) u) (λ _ v _ hl hr u=>Tr.rec (motive:=λ _=>Bool) false (λ l' v' r' _ _=>dI (HB.eqv v v') (dI (hl l') (hr r'))) u) t
def FU {α:Type} (f:α->α->Bool) (a b:N8 α):Bool:=
 N8.rec (motive:=λ _=>Bool) (λ x0 x1 x2 x3 x4 x5 x6 x7=>N8.rec (motive:=λ _=>Bool) (λ y0 y1 y2 y3 y4 y5 y6 y7=>dI (f x0 y0) (dI (f x1 y1) (dI (f x2 y2) (dI (f x3 y3) (dI (f x4 y4) (dI (f x5 y5) (dI (f x6 y6) (f x7 y7)))))))) b) a
def SY (k:IntKind):Nat:=IntKind.rec (motive:=λ _=>Nat) 127 32767 2147483647 9223372036854775807 255 65535 4294967295 18446744073709551615 k
def si (k:IntKind) (n:Nat):Int:=Bool.rec (motive:=λ _=>Int) (k.wrap (Int.ofNat n)) (Int.ofNat n) (Nat.ble n (SY k))
def SZ (k:IntKind) (a b:Int):Int:=
 Int.rec (motive:=λ _=>Int) (λ x=>Int.rec (motive:=λ _=>Int) (λ y=>si k (Nat.add x y)) (λ y=>Bool.rec (motive:=λ _=>Int) (k.wrap (Int.ofNat x+Int.negSucc y)) (si k (Nat.sub x (Nat.succ y))) (Nat.ble (Nat.succ y) x)) b) (λ x=>k.wrap (Int.negSucc x+b)) a
def S0 (k:IntKind) (a b:Int):Int:=
 Int.rec (motive:=λ _=>Int) (λ x=>Int.rec (motive:=λ _=>Int) (λ y=>Bool.rec (motive:=λ _=>Int) (k.wrap (Int.ofNat x - Int.ofNat y)) (si k (Nat.sub x y)) (Nat.ble y x)) (λ y=>k.wrap (Int.ofNat x - Int.negSucc y)) b) (λ x=>k.wrap (Int.negSucc x - b)) a
def MU (a b:Int):Bool:=
 Int.rec (motive:=λ _=>Bool) (λ x=>Int.rec (motive:=λ _=>Bool) (λ y=>Nat.blt x y) (λ _=>false) b) (λ x=>Int.rec (motive:=λ _=>Bool) (λ _=>true) (λ y=>Nat.blt y x) b) a
def Jm (n l n' l':Nat):Bool:=Bool.rec (motive:=λ _=>Bool) false (Nat.beq (Nat.mod n (Nat.pow 2 (Nat.mul 8 l))) (Nat.mod n' (Nat.pow 2 (Nat.mul 8 l)))) (Nat.beq l l')
abbrev OK:=V->OR
def kB (k:OK) (b:Bool):OR:=Bool.rec (motive:=λ _=>OK->OR) (λ k=>k (.b false)) (λ k=>k (.b true)) b k
def kI (k:OK) (t:IntKind) (n:Int):OR:=Int.rec (motive:=λ _=>OK->IntKind->OR) (λ x k t=>k (.i t (.ofNat x))) (λ x k t=>k (.i t (.negSucc x))) n k t
def kS (k:OK) (n l:Nat):OR:=Bool.rec (motive:=λ _=>OR) (k (.s n l)) (k (.s n l)) (Nat.ble n 0)
def MV (op:BinOp) (k:IntKind) (a b:Int) (d:OR) (c:OK):OR:=
 BinOp.rec (motive:=λ _=>IntKind->Int->Int->OR->OK->OR) (λ k a b _ c=>kI c k (SZ k a b)) (λ k a b _ c=>kI c k (S0 k a b)) (λ _ _ _ d _=>d) (λ _ _ _ d _=>d) (λ _ _ _ d _=>d) (λ _ _ _ d _=>d) (λ _ _ _ d _=>d) (λ _ _ _ d _=>d) (λ _ _ _ d _=>d) (λ _ _ _ d _=>d) (λ _ _ _ d _=>d)
  (λ _ a b _ c=>kB c (JE a b)) (λ _ a b _ c=>kB c (tc (JE a b))) (λ _ a b _ c=>kB c (MU a b)) (λ _ a b _ c=>kB c (tc (MU b a))) (λ _ a b _ c=>kB c (MU b a)) (λ _ a b _ c=>kB c (tc (MU a b))) op k a b d c
def MW (op:BinOp) (n l n' l':Nat) (d:OR) (c:OK):OR:=
 BinOp.rec (motive:=λ _=>Nat->Nat->Nat->Nat->OR->OK->OR) (λ n l n' l' d c=>dM (Nat.ble (Nat.add l l') 1073741824) (kS c (Nat.add (Nat.mod n (Nat.pow 2 (Nat.mul 8 l))) (Nat.shiftLeft n' (Nat.mul 8 l))) (Nat.add l l')) d)
  (λ _ _ _ _ d _=>d) (λ _ _ _ _ d _=>d) (λ _ _ _ _ d _=>d) (λ _ _ _ _ d _=>d) (λ _ _ _ _ d _=>d) (λ _ _ _ _ d _=>d) (λ _ _ _ _ d _=>d) (λ _ _ _ _ d _=>d) (λ _ _ _ _ d _=>d) (λ _ _ _ _ d _=>d)
  (λ n l n' l' _ c=>kB c (Jm n l n' l')) (λ n l n' l' _ c=>kB c (tc (Jm n l n' l'))) (λ _ _ _ _ d _=>d) (λ _ _ _ _ d _=>d) (λ _ _ _ _ d _=>d) (λ _ _ _ _ d _=>d) op n l n' l' d c
def EM (op:BinOp) (b:Bool) (d:OR) (c:OK):OR:=
 BinOp.rec (motive:=λ _=>Bool->OR->OK->OR) (λ _ d _=>d) (λ _ d _=>d) (λ _ d _=>d) (λ _ d _=>d) (λ _ d _=>d) (λ _ d _=>d) (λ _ d _=>d) (λ _ d _=>d) (λ _ d _=>d) (λ _ d _=>d) (λ _ d _=>d)
  (λ b _ c=>kB c b) (λ b _ c=>kB c (tc b)) (λ _ d _=>d) (λ _ d _=>d) (λ _ d _=>d) (λ _ d _=>d) op b d c
def zw (k:Nat) (x y:V) (d:OR) (c:Bool->OR):OR:=
 Nat.rec (motive:=λ _=>V->V->OR->(Bool->OR)->OR) (λ x y d c=>x.FQ d λ k a=>y.FQ d λ k' a'=>dM (dI (Nat.beq (kn k) 3) (Nat.beq (kn k') 3)) (c (JE a a')) d)
  (λ k _ x y d c=>Nat.rec (motive:=λ _=>V->V->OR->(Bool->OR)->OR) (λ x y d c=>x.FP d λ a=>y.FP d λ a'=>c (FT a a'))
   (λ k _ x y d c=>Nat.rec (motive:=λ _=>V->V->OR->(Bool->OR)->OR) (λ x y d c=>x.Bt d λ n l=>y.Bt d λ n' l'=>c (Jm n l n' l')) (λ _ _ _ _ d _=>d) k x y d c) k x y d c) k x y d c
def mg (l:List Nat):V->V->OR->(Bool->OR)->OR:=
 List.rec (motive:=λ _=>V->V->OR->(Bool->OR)->OR) (λ x y d c=>x.Gt d (y.Gt d (c true) (λ _ _=>d)) (λ _ _=>d))
  (λ k _ ih x y d c=>x.Po d λ h r=>y.Po d λ h' r'=>zw k h h' d λ b=>ih r r' d λ b'=>c (dI b b')) l
def C6 (v:V) (d:OR) (c:Bool->OR):OR:=V.rec (motive:=λ _=>OR->(Bool->OR)->OR) (λ _ d _=>d) (λ _ _ d _=>d) (λ _ _ d _=>d) (λ _ c=>c true) (λ _ _ _ c=>c false) (λ d _=>d) (λ _ _ _ _ d _=>d) (λ _ _ _ _ d _=>d) (λ d _=>d) (λ d _=>d) (λ _ d _=>d) (λ d _=>d) (λ _ _ _ d _=>d) (λ _ d _=>d) (λ _ _ d _=>d) (λ _ _ d _=>d) (λ d _=>d) (λ _ _ _ _ d _=>d) v d c
def C8 (v:V) (d:OR) (c:Bool->OR):OR:=V.rec (motive:=λ _=>OR->(Bool->OR)->OR) (λ _ d _=>d) (λ _ _ d _=>d) (λ _ _ d _=>d) (λ d _=>d) (λ _ _ d _=>d) (λ _ c=>c true) (λ _ _ _ _ _ c=>c false) (λ _ _ _ _ _ c=>c false) (λ _ c=>c false) (λ d _=>d) (λ _ d _=>d) (λ d _=>d) (λ _ _ _ d _=>d) (λ _ d _=>d) (λ _ _ d _=>d) (λ _ _ d _=>d) (λ d _=>d) (λ _ _ _ _ d _=>d) v d c
def C9 (v:V) (d:OR) (c:Bool->OR):OR:=V.rec (motive:=λ _=>OR->(Bool->OR)->OR) (λ _ d _=>d) (λ _ _ d _=>d) (λ _ _ d _=>d) (λ d _=>d) (λ _ _ d _=>d) (λ d _=>d) (λ _ _ _ _ d _=>d) (λ _ _ _ _ d _=>d) (λ d _=>d) (λ _ c=>c true) (λ _ _ c=>c false) (λ d _=>d) (λ _ _ _ d _=>d) (λ _ d _=>d) (λ _ _ d _=>d) (λ _ _ d _=>d) (λ d _=>d) (λ _ _ _ _ d _=>d) v d c
def Da (v:V) (d:OR) (c:Bool->OR):OR:=V.rec (motive:=λ _=>OR->(Bool->OR)->OR) (λ _ d _=>d) (λ _ _ d _=>d) (λ _ _ d _=>d) (λ d _=>d) (λ _ _ d _=>d) (λ d _=>d) (λ _ _ _ _ d _=>d) (λ _ _ _ _ d _=>d) (λ d _=>d) (λ d _=>d) (λ _ d _=>d) (λ _ c=>c true) (λ _ _ _ _ c=>c false) (λ _ _ c=>c false) (λ _ _ d _=>d) (λ _ _ d _=>d) (λ d _=>d) (λ _ _ _ _ d _=>d) v d c
def Ud (v:V):Option Value:=(xd v).1
def Ue (o:Option V) (d:OR) (k:OK):OR:=Option.rec (motive:=λ _=>OR) d (λ v=>k v) o
def JF (P:Program) (g:Value->Value->Sem Value) (x y:V) (k:OK):OR:=
 Option.rec (motive:=λ _=>OR) .no (λ a=>Option.rec (motive:=λ _=>OR) .no (λ b=>Option.rec (motive:=λ _=>OR) .no (λ r=>Ue (mX r) .no k) (pr P (g a b))) (Ud y)) (Ud x)
def S1 (P:Program) (g:Value->Sem Value) (x:V) (k:OK):OR:=
 Option.rec (motive:=λ _=>OR) .no (λ a=>Option.rec (motive:=λ _=>OR) .no (λ r=>Ue (mX r) .no k) (pr P (g a))) (Ud x)
def JG (P:Program) (g:List Value->Sem Value) (l:V) (k:OK):OR:=
 Option.rec (motive:=λ _=>OR) .no (λ a=>Option.rec (motive:=λ _=>OR) .no (λ r=>Ue (mX r) .no k) (pr P (g a))) (xd l).2
def yd (isNil:V->OR->(Bool->OR)->OR) (op:BinOp) (x y:V) (d:OR) (c:OK):OR:=isNil x d λ a=>isNil y d λ b=>dM a (EM op b d c) (dM b (EM op a d c) d)
def td (op:BinOp) (kd:Kd) (x y:V) (d:OR) (c:OK):OR:=
 Kd.rec (motive:=λ _=>BinOp->V->V->OR->OK->OR) (λ _ _ _ d _=>d) (λ op x y d c=>x.FP d λ a=>y.FP d λ b=>EM op (FT a b) d c) (yd C6) (yd C8) (yd C9) (yd Da)
  (λ l op x y d c=>x.Ju d λ a=>y.Ju d λ b=>mg l a b d λ r=>EM op r d c) kd op x y d c
def S2 (op:BinOp) (kd:Kd) (x y:V) (d:OR) (c:OK):OR:=
 V.rec (motive:=λ _=>BinOp->Kd->V->V->OR->OK->OR) (λ _ op kd x y d c=>td op kd x y d c) (λ x0 x1 op _ _ y d c=>y.FQ d λ k' b=>dM (Nat.beq (kn x0) (kn k')) (MV op x0 x1 b d c) d) (λ x0 x1 op _ _ y d c=>y.Bt d λ n' l'=>MW op x0 x1 n' l' d c) (λ op kd x y d c=>td op kd x y d c) (λ _ _ op kd x y d c=>td op kd x y d c) (λ op kd x y d c=>td op kd x y d c) (λ _ _ _ _ op kd x y d c=>td op kd x y d c) (λ _ _ _ _ op kd x y d c=>td op kd x y d c) (λ op kd x y d c=>td op kd x y d c) (λ op kd x y d c=>td op kd x y d c) (λ _ op kd x y d c=>td op kd x y d c) (λ op kd x y d c=>td op kd x y d c) (λ _ _ _ op kd x y d c=>td op kd x y d c) (λ _ _ _ _ _ d _=>d) (λ _ _ op kd x y d c=>td op kd x y d c) (λ _ _ _ _ _ _ d _=>d) (λ _ _ _ _ d _=>d) (λ _ _ _ _ _ _ _ _ d _=>d) x op kd x y d c
def YE (P:Program) (op:BinOp) (g:Value->Value->Sem Value) (kd:Kd) (x y:V) (k:OK):OR:=S2 op kd x y (JF P g x y k) k
def V.cells (v:V) (d:OR) (k:OK):OR:=V.rec (motive:=λ _=>V->OR->OK->OR) (λ _ v _ k=>k (.c v .e)) (λ _ _ v _ k=>k (.c v .e)) (λ _ _ v _ k=>k (.c v .e)) (λ v _ k=>k (.c v .e)) (λ _ _ v _ k=>k (.c v .e)) (λ v _ k=>k (.c v .e)) (λ _ _ _ _ v _ k=>k (.c v .e)) (λ _ _ _ _ v _ k=>k (.c v .e)) (λ v _ k=>k (.c v .e)) (λ v _ k=>k (.c v .e)) (λ _ v _ k=>k (.c v .e)) (λ v _ k=>k (.c v .e)) (λ _ _ _ v _ k=>k (.c v .e)) (λ _ v _ k=>k (.c v .e)) (λ x0 _ _ _ k=>k x0) (λ _ _ _ d _=>d) (λ _ d _=>d) (λ _ _ _ _ _ d _=>d) v v d k
def n7 (v:V):Nat:=V.rec (motive:=λ _=>Nat) (λ _=>0) (λ _ _=>0) (λ _ _=>0) (0) (λ _ _=>0) (0) (λ _ _ _ _=>0) (λ _ _ _ _=>0) (0) (0) (λ _=>0) (0) (λ _ _ _=>0) (λ _=>0) (λ _ _=>0) (λ _ _=>0) (0) (λ _ _ _ yo=>Nat.succ yo) v
def rd (t:Tr V) (n:Nat):Nat->V:=Nat.rec (motive:=λ _=>Tr V->Nat->V) (λ _ _=>.e) (λ _ ih t o=>.c (sd t o) (ih t (Nat.succ o))) n t
def qa (l:V) (o:Nat) (t:Tr V):Tr V:=V.rec (motive:=λ _=>Nat->Tr V->Tr V) (λ _ _ t=>t) (λ _ _ _ t=>t) (λ _ _ _ t=>t) (λ _ t=>t) (λ _ _ _ t=>t) (λ _ t=>t) (λ _ _ _ _ _ t=>t) (λ _ _ _ _ _ t=>t) (λ _ t=>t) (λ _ t=>t) (λ _ _ t=>t) (λ _ t=>t) (λ _ _ _ _ t=>t) (λ _ _ t=>t) (λ _ _ _ t=>t) (λ _ _ _ t=>t) (λ _ t=>t) (λ x0 _ _ yo o t=>yo (Nat.succ o) (MJ t x0 o)) l o t
def FV (l r:V):V:=V.rec (motive:=λ _=>V->V) (λ _ r=>r) (λ _ _ r=>r) (λ _ _ r=>r) (λ r=>r) (λ _ _ r=>r) (λ r=>r) (λ _ _ _ _ r=>r) (λ _ _ _ _ r=>r) (λ r=>r) (λ r=>r) (λ _ r=>r) (λ r=>r) (λ _ _ _ r=>r) (λ _ r=>r) (λ _ _ r=>r) (λ _ _ r=>r) (λ r=>r) (λ x0 _ _ yo r=>.c x0 (yo r)) l r
def EN (l:V) (n:Nat):V:=Nat.rec (motive:=λ _=>V->V) (λ l=>l) (λ _ ih l=>l.MP .e λ _ r=>ih r) n l
def wb (l:V) (n:Nat):V:=Nat.rec (motive:=λ _=>V->V) (λ _=>.e) (λ _ ih l=>l.MP .e λ h r=>.c h (ih r)) n l
def Db (l:V) (n:Nat) (k:OK):OR:=Nat.rec (motive:=λ _=>V->OK->OR) (λ l k=>l.Po .no λ h _=>k h) (λ _ ih l k=>l.Po .no λ _ r=>ih r k) n l k
def alloc (hb:HB) (h:Hp) (n:Nat) (k:Hp->OR):OR:=HB.onZ (dH h n) .no (k (ew h hb n))
def qb (h:Hp) (b:Nat) (k:Nat->Nat->Tr V->OR):OR:=HB.Po (dH h b) .no k
def EO (e:En) (ps:PL) (n:Nat) (t:Tr V) (k:Tr V->OR):OR:=
 PL.rec (motive:=λ _=>En->Nat->Tr V->(Tr V->OR)->OR) (λ _ _ t k=>k t)
  (λ o m x _ ih e n t k=>(dR e x).cells .no λ l=>dM (dI (Nat.beq (n7 l) m) (Nat.ble (Nat.add o m) n)) (ih e n (qa l o t) k) .no) ps e n t k
def MX (n:Int) (k:Nat->OR):OR:=Int.rec (motive:=λ _=>(Nat->OR)->OR) (λ x k=>k x) (λ _ _=>.no) n k
def Bv (v:V) (k:Nat->OR):OR:=v.FQ .no λ _ n=>MX n k
def wc (v:V) (x:Nat) (k:Nat->OR):OR:=v.FR .no (k x) λ _ n=>MX n k
def we (s:Bool) (x y:V) (k:Bool->OR):OR:=
 Bool.rec (motive:=λ _=>V->V->(Bool->OR)->OR) (λ x y k=>x.FQ .no λ t a=>y.FQ .no λ t' b=>dM (Nat.beq (kn t) (kn t')) (k (JE a b)) .no) (λ x y k=>x.Bt .no λ n l=>y.Bt .no λ n' l'=>k (Jm n l n' l')) s x y k
def JH (s:Bool) (key:V) (l:ML) (k0:OR) (k1:OK):OR:=
 ML.rec (motive:=λ _=>Bool->V->OR->OK->OR) (λ _ _ k0 _=>k0) (λ k v _ _ ih s key k0 k1=>we s key k λ b=>dM b (k1 v) (ih s key k0 k1)) l s key k0 k1
def S3 (s:Bool) (key x:V) (c:Nat) (l:ML) (k1:Nat->ML->OR):OR:=
 ML.rec (motive:=λ _=>Bool->V->V->Nat->(Nat->ML->OR)->OR) (λ _ key x c k1=>k1 (Nat.succ c) (.cons key x c .nil))
  (λ k v b r ih s key x c k1=>we s key k λ t=>dM t (k1 c (.cons key x b r)) (ih s key x c λ c l=>k1 c (.cons k v b l))) l s key x c k1
def S4 (s:Bool) (key:V) (l:ML) (k1:ML->OR):OR:=
 ML.rec (motive:=λ _=>Bool->V->(ML->OR)->OR) (λ _ _ k1=>k1 .nil) (λ k v b r ih s key k1=>we s key k λ t=>dM t (k1 r) (ih s key λ l=>k1 (.cons k v b l))) l s key k1
def S5 (l:ML):Nat:=ML.rec (motive:=λ _=>Nat) 0 (λ _ _ _ _ ih=>Nat.succ ih) l
abbrev wg:=V->V->Hp->Nat->OR
section
variable (e:En) (h:Hp) (n:Nat)
def MY (x:Oq):OR:=(dR e x).KP .no λ b o=>qb h b λ m _ t=>dM (Nat.blt o m) ((sd t o).fc λ v=>.ok v h n) .no
def EP (k:Nat) (x:Oq):OR:=(dR e x).KP .no λ b o=>qb h b λ m _ t=>dM (Nat.ble (Nat.add o k) m) (.ok (.a (rd t k o)) h n) .no
def YF (k:Nat) (a x:Oq):OR:=(dR e a).KP .no λ b o=>qb h b λ m es t=>(dR e x).cells .no λ l=>
 dM (dI (Nat.beq (n7 l) k) (Nat.ble (Nat.add o k) m)) (.ok Bp (ew h (.c m es (qa l o t)) b) n) .no
def ER (z:V):OR:=alloc (.c (n7 z) 0 (qa z 0 .lf)) h n λ h'=>.ok (.p n 0) h' (Nat.succ n)
def Pp (x:Oq):OR:=(dR e x).cells .no λ l=>ER h n l
def zx (z:V) (ps:PL):OR:=EO e ps (n7 z) (qa z 0 .lf) λ t=>.ok (.a (rd t (n7 z) 0)) h n
def Pq (es k:Nat) (z:V) (ps:PL):OR:=EO e ps (n7 z) (qa z 0 .lf) λ t=>alloc (.c (n7 z) es t) h n λ h'=>.ok (.sx n 0 k k) h' (Nat.succ n)
def Bw (x:Oq):OR:=(dR e x).MM .no (λ b o=>.ok (.p b o) h n) λ g c=>.ok (.f g c) h n
def JI (c a b:Oq):OR:=(dR e c).FP .no λ t=>dM t ((dR e a).fc λ v=>.ok v h n) ((dR e b).fc λ v=>.ok v h n)
def Pr (x:Oq):OR:=(dR e x).FP .no λ t=>.ok (.b (tc t)) h n
def YG (off:Nat) (x:Oq):OR:=(dR e x).KP .no λ b o=>.ok (.p b (Nat.add o off)) h n
def YH (es:Nat) (x i:Oq):OR:=Bv (dR e i) λ j=>
 (dR e x).n6 .no .no (λ b o l _=>dM (Nat.blt j l) (.ok (.p b (Nat.add o (Nat.mul j es))) h n) .no) (λ b o l _=>dM (Nat.blt j l) (.ok (.p b (Nat.add o (Nat.mul j es))) h n) .no) .no
def Ps (k es:Nat) (x i:Oq):OR:=Bv (dR e i) λ j=>(dR e x).KP .no λ b o=>dM (Nat.blt j k) (.ok (.p b (Nat.add o (Nat.mul j es))) h n) .no
def Pt (off:Nat) (x:Oq):OR:=(dR e x).Ju .no λ l=>Db l off λ v=>.ok v h n
def JJ (off k:Nat) (x:Oq):OR:=(dR e x).Ju .no λ l=>.ok (.a (wb (EN l off) k)) h n
def Pu (x i:Oq):OR:=Bv (dR e i) λ j=>(dR e x).Bt .no λ k l=>dM (Nat.blt j l) (.ok (.i .u8 (Int.ofNat (Nat.mod (Nat.shiftRight k (Nat.mul 8 j)) 256))) h n) .no
def JK (k es:Nat) (x i:Oq):OR:=Bv (dR e i) λ j=>(dR e x).Ju .no λ l=>dM (Nat.blt j k) (Db l (Nat.mul j es) λ v=>v.fc λ v=>.ok v h n) .no
def JL (k es:Nat) (x i:Oq):OR:=Bv (dR e i) λ j=>(dR e x).Ju .no λ l=>dM (Nat.blt j k) (.ok (.a (wb (EN l (Nat.mul j es)) es)) h n) .no
def S6 (b o es c j k m:Nat):OR:=dM (dI (Nat.ble j k) (dI (Nat.ble k m) (Nat.ble m c)))
 (dM (Nat.beq m j) (.ok (.sx b o (Nat.sub k j) 0) h n) (.ok (.sx b (Nat.add o (Nat.mul j es)) (Nat.sub k j) (Nat.sub m j)) h n)) .no
def adL (b o d es c j k:Nat):OR:=dM (dI (Nat.ble j k) (Nat.ble (Nat.add o (Nat.mul k es)) c))
 (dM (Nat.beq j 0) (.ok (.sl b o k d) h n) (dM (Nat.blt (Nat.add o (Nat.mul j es)) c) (.ok (.sl b (Nat.add o (Nat.mul j es)) (Nat.sub k j) (Nat.add d j)) h n) (.ok .se h n))) .no
def Pv (es:Nat) (x lo hi mx:Oq):OR:=(dR e x).n6 .no
 (wc (dR e mx) 0 λ m=>wc (dR e hi) 0 λ k=>wc (dR e lo) 0 λ j=>dM (Nat.beq (Nat.add (Nat.add j k) m) 0) (.ok .ns h n) .no)
 (λ b o l d=>qb h b λ c pI _=>dM (Nat.beq es pI) (wc (dR e hi) l λ k=>wc (dR e lo) 0 λ j=>
  (dR e mx).FR .no (adL h n b o d es c j k) λ _ m=>MX m λ m=>dM (Nat.ble (Nat.add o (Nat.mul m es)) c) (S6 h n b o es m j k m) .no) .no)
 (λ b o l c=>wc (dR e hi) l λ k=>wc (dR e lo) 0 λ j=>wc (dR e mx) c λ m=>S6 h n b o es c j k m)
 .no
def Pw (x lo hi:Oq):OR:=(dR e x).Bt .no λ c l=>wc (dR e hi) l λ k=>wc (dR e lo) 0 λ j=>dM (dI (Nat.ble j k) (Nat.ble k l)) (.ok (.s (Nat.shiftRight c (Nat.mul 8 j)) (Nat.sub k j)) h n) .no
def goN (k:Nat):V:=.i .i64 (Int.ofNat k)
def Bx (kd:Kd) (x:Oq):OR:=Kd.rec (motive:=λ _=>V->Hp->Nat->OR) (λ x h n=>x.Bt .no λ _ l=>.ok (goN l) h n) (λ _ _ _=>.no) (λ _ _ _=>.no)
 (λ x h n=>x.n6 .no (.ok (goN 0) h n) (λ _ _ l _=>.ok (goN l) h n) (λ _ _ l _=>.ok (goN l) h n) (.ok (goN 0) h n))
 (λ x h n=>x.zp .no λ r=>HB.zp (dH h r) .no λ _ l=>.ok (goN (S5 l)) h n) (λ x h n=>x.n6 .no (.ok (goN 0) h n) (λ _ _ _ _=>.no) (λ _ _ _ c=>.ok (goN c) h n) .no) (λ _ _ _ _=>.no) kd (dR e x) h n
def Px (i:Nat) (x:Oq):OR:=(dR e x).KQ .no λ l=>Db l i λ v=>v.fc λ v=>.ok v h n
def wh (k l:Nat) (j:Nat):V:=Nat.rec (motive:=λ _=>Nat->Nat->V) (λ _ _=>.e) (λ _ ih k j=>.c (.i .u8 (Int.ofNat (Nat.mod (Nat.shiftRight k (Nat.mul 8 j)) 256))) (ih k (Nat.succ j))) l k j
def Dc (b o l es:Nat) (k:V->Nat->OR):OR:=qb h b λ m _ t=>dM (Nat.ble (Nat.add o (Nat.mul l es)) m) (k (rd t (Nat.mul l es) o) l) .no
def src (es:Nat) (y:V) (k:V->Nat->OR):OR:=y.n6 (y.Bt .no λ c l=>dM (Nat.beq es 1) (k (wh c l 0) l) .no) (k .e 0)
 (λ b o l _=>Dc h b o l es k) (λ b o l _=>Dc h b o l es k) (k .e 0)
def By (es k:Nat) (t:Tr V) (h:Hp):OR:=alloc (.c (Nat.mul k es) es t) h n λ h'=>.ok (.sl n 0 k 0) h' (Nat.succ n)
def Py (x:Oq):OR:=(dR e x).Bt .no λ c l=>dM (Nat.ble l 1073741824) (By n 1 l (qa (wh c l 0) 0 .lf) h) .no
def Pz (es:Nat) (x y:Oq):OR:=src h es (dR e y) λ new k=>dM (Nat.beq k 0) ((dR e x).n6 .no (.ok .ns h n) (λ b o l d=>.ok (.sl b o l d) h n) (λ b o l c=>.ok (.sx b o l c) h n) .no)
 ((dR e x).n6 .no
  (dM (Nat.ble k 1073741824) (By n es k (qa new 0 .lf) h) .no)
  (λ b o l d=>qb h b λ m pI t=>dM (dI (Nat.beq es pI) (Nat.ble (Nat.add l k) 1073741824))
   (dM (Nat.ble (Nat.add o (Nat.mul (Nat.add l k) es)) m) (.ok (.sl b o (Nat.add l k) d) (ew h (.c m es (qa new (Nat.add o (Nat.mul l es)) t)) b) n)
    (dM (Nat.ble (Nat.add o (Nat.mul l es)) m)
     (By n es (Nat.add l k) (qa new (Nat.mul l es) (Bool.rec (motive:=λ _=>Tr V) (qa (rd t (Nat.mul l es) o) 0 .lf) t (Nat.beq o 0))) (ew h .x b)) .no)) .no)
  (λ b o l c=>qb h b λ m pI t=>dM (Nat.ble (Nat.add l k) 1073741824)
   (dM (Nat.ble (Nat.add l k) c)
    (dM (Nat.ble (Nat.add o (Nat.mul (Nat.add l k) es)) m) (.ok (.sx b o (Nat.add l k) c) (ew h (.c m pI (qa new (Nat.add o (Nat.mul l es)) t)) b) n) .no)
    (dM (Nat.ble (Nat.add o (Nat.mul l es)) m) (By n es (Nat.add l k) (qa new (Nat.mul l es) (qa (rd t (Nat.mul l es) o) 0 .lf)) h) .no)) .no)
  .no)
def PA (g:Nat) (l:OL):OR:=.ok (.f g (KO e l)) h n
def PB:OR:=alloc (.m 0 .nil) h n λ h'=>.ok (.m n) h' (Nat.succ n)
def xe (z:V) (k:Nat):V:=Nat.rec (motive:=λ _=>V->V) (λ _=>.e) (λ _ ih z=>FV z (ih z)) k z
def PC (es:Nat) (z:V) (l c:Oq):OR:=Bv (dR e l) λ j=>Bv (dR e c) λ k=>dM (dI (Nat.beq (n7 z) es) (dI (Nat.ble j k) (Nat.ble k 1073741824)))
 (alloc (.c (Nat.mul k es) es (qa (xe z k) 0 .lf)) h n λ h'=>.ok (.sx n 0 j k) h' (Nat.succ n)) .no
def JM (ok:Bool) (b:Bool) (v:V):OR:=dM ok (.ok (.t (.c v (.c (.b b) .e))) h n) (v.fc λ v=>.ok v h n)
def JN (s:Bool) (z:V) (ok:Bool) (m k:Oq):OR:=(dR e m).zp .no λ r=>HB.zp (dH h r) .no λ _ l=>JH s (dR e k) l (JM h n ok false z) (JM h n ok true)
def PD (s:Bool) (m k x:Oq):OR:=(dR e m).zp .no λ r=>HB.zp (dH h r) .no λ c l=>(dR e x).fc λ v=>S3 s (dR e k) v c l λ c l=>.ok Bp (ew h (.m c l) r) n
def PE (s:Bool) (m k:Oq):OR:=(dR e m).zp .no λ r=>HB.zp (dH h r) .no λ c l=>S4 s (dR e k) l λ l=>.ok Bp (ew h (.m c l) r) n
def PF (m:Oq):OR:=(dR e m).zp .no λ r=>HB.zp (dH h r) .no λ c _=>alloc (.it r c 0 0 c) h n λ h'=>.ok (.p n 0) h' (Nat.succ n)
def JO:V:=.t (.c (.b false) .e)
def MZ (l:ML) (k0:OR) (k1:V->V->Nat->OR):OR:=ML.rec (motive:=λ _=>OR) k0 (λ k v b r _=>ML.rec (motive:=λ _=>OR) (k1 k v b) (λ _ _ _ _ _=>.no) r) l
def PH (i:Oq):OR:=(dR e i).KP .no λ r o=>dM (Nat.beq o 0) (HB.KQ (dH h r) .no λ m c st b k=>HB.zp (dH h m) .no λ c' l=>MZ l (.ok JO h n) λ x v b'=>
 Nat.rec (motive:=λ _=>OR) (dM (Nat.blt b' c) (.ok (.t (.c (.b true) (.c x (.c v .e)))) (ew h (.it m c 1 b' c') r) n) .no) (λ _ _=>dM (dI (Nat.beq b b') (Nat.blt b' k)) (.ok JO h n) .no) st) .no
def PI (i:Oq):OR:=(dR e i).KP .no λ r o=>dM (Nat.beq o 0) (HB.KQ (dH h r) .no λ m _ st b k=>HB.zp (dH h m) .no λ c' l=>MZ l .no λ x v b'=>
 dM (dI (Nat.beq st 1) (dI (Nat.beq c' k) (Nat.beq b b'))) (.ok (.t (.c x (.c v .e))) h n) .no) .no
def wi (a b:Nat):Nat:=Bool.rec (motive:=λ _=>Nat) b a (Nat.ble a b)
def wj (b o l:Nat) (new:V) (v:V):OR:=qb h b λ m es t=>dM (Nat.ble (Nat.add o l) m) (.ok v (ew h (.c m es (qa new o t)) b) n) .no
def YI (es:Nat) (y:V) (k:V->Nat->OR):OR:=y.n6 .no (k .e 0) (λ b o l _=>Dc h b o l es k) (λ b o l _=>Dc h b o l es k) (k .e 0)
def PJ (es:Nat) (x y:Oq):OR:=YI h es (dR e y) λ new k=>(dR e x).n6 .no (.ok (goN 0) h n)
 (λ b o l _=>wj h n b o (Nat.mul (wi k l) es) (wb new (Nat.mul (wi k l) es)) (goN (wi k l)))
 (λ b o l _=>wj h n b o (Nat.mul (wi k l) es) (wb new (Nat.mul (wi k l) es)) (goN (wi k l)))
 (.ok (goN 0) h n)
def PK (es:Nat) (z:V) (x:Oq):OR:=dM (Nat.beq (n7 z) es) ((dR e x).n6 .no (.ok Bp h n)
 (λ b o l _=>wj h n b o (Nat.mul l es) (xe z l) Bp) (λ b o l _=>wj h n b o (Nat.mul l es) (xe z l) Bp) (.ok Bp h n)) .no
end
def xf (q:FN) (P:Program) (eJ:wg):En->Hp->Nat->OR:=
 FN.rec (motive:=λ _=>Program->wg->En->Hp->Nat->OR) (λ _ _ _ _ _=>.no) (λ x _ _ e h n=>(dR e x).fc λ v=>.ok v h n) (λ c a b _ _ e h n=>JI e h n c a b) (λ z _ _ _ h n=>ER h n z) (λ x _ _ e h n=>Pp e h n x)
  (λ z ps _ _ e h n=>zx e h n z ps) (λ es k z ps _ _ e h n=>Pq e h n es k z ps) (λ x _ _ e h n=>MY e h n x) (λ k x _ _ e h n=>EP e h n k x) (λ k a x _ _ e h n=>YF e h n k a x) (λ x _ _ e h n=>Bw e h n x)
  (λ op g kd x y P _ e h n=>YE P op g kd (dR e x) (dR e y) λ v=>.ok v h n) (λ x _ _ e h n=>Pr e h n x) (λ f x P _ e h n=>S1 P f (dR e x) λ v=>.ok v h n) (λ f l P _ e h n=>JG P f (KO e l) λ v=>.ok v h n)
  (λ off x _ _ e h n=>YG e h n off x) (λ es x i _ _ e h n=>YH e h n es x i) (λ k es x i _ _ e h n=>Ps e h n k es x i) (λ off x _ _ e h n=>Pt e h n off x) (λ off k x _ _ e h n=>JJ e h n off k x)
  (λ x i _ _ e h n=>Pu e h n x i) (λ k es x i _ _ e h n=>JK e h n k es x i) (λ k es x i _ _ e h n=>JL e h n k es x i) (λ x _ _ e h n=>Py e h n x) (λ es x lo hi mx _ _ e h n=>Pv e h n es x lo hi mx) (λ x lo hi _ _ e h n=>Pw e h n x lo hi) (λ kd x _ _ e h n=>Bx e h n kd x) (λ i x _ _ e h n=>Px e h n i x)
  (λ g l _ eJ e h n=>eJ (.f g .e) (KO e l) h n) (λ f l _ eJ e h n=>eJ (dR e f) (KO e l) h n) (λ es x y _ _ e h n=>Pz e h n es x y) (λ g l _ _ e h n=>PA e h n g l) (λ _ _ _ h n=>PB h n)
  (λ es z l c _ _ e h n=>PC e h n es z l c) (λ s z ok m k _ _ e h n=>JN e h n s z ok m k) (λ s m k x _ _ e h n=>PD e h n s m k x) (λ es x y _ _ e h n=>PJ e h n es x y) (λ es z x _ _ e h n=>PK e h n es z x) (λ s m k _ _ e h n=>PE e h n s m k) (λ m _ _ e h n=>PF e h n m) (λ i _ _ e h n=>PH e h n i) (λ i _ _ e h n=>PI e h n i) q P eJ
def pd (d:Ds) (v:V) (e:En):En:=Ds.rec (motive:=λ _=>V->En->En) (λ _ e=>e) (λ k v e=>k.put v e) d v e
def evG (g:GS) (e:En) (y s:RR):RR:=GS.rec (motive:=λ _=>En->RR->RR->RR) (λ _ y _=>y) (λ k b e y s=>(k.get e).MN s λ x=>Bool.rec (motive:=λ _=>RR) s y (FT x b)) g e y s
def ye (x:OR) (k:V->Hp->Nat->RR):RR:=OR.rec (motive:=λ _=>(V->Hp->Nat->RR)->RR) (λ _=>.no) (λ v h n k=>k v h n) x k
def keeps (ks:KL) (P:Program) (eJ:wg) (e:En) (h:Hp) (n:Nat) (k:RR):RR:=
 KL.rec (motive:=λ _=>Program->wg->En->Hp->Nat->RR->RR) (λ _ _ _ _ _ k=>k) (λ g q d _ ih P eJ e h n k=>evG g e (ye (xf q P eJ e h n) λ v _ _=>Bool.rec (motive:=λ _=>RR) .no (ih P eJ e h n k) (V.eqv v (d.get e))) (ih P eJ e h n k)) ks P eJ e h n k
def both (a b:RR):RR:=RR.rec (motive:=λ _=>RR) .no .no
 (λ e h n=>RR.rec (motive:=λ _=>RR) .no a (λ e' h' n'=>Bool.rec (motive:=λ _=>RR) .no a (dI (Nat.beq n n') (dI (FU (FU (FU V.eqv)) e e') (TH.eqv h h')))) b) a
def Bz (P:Program) (eJ:wg) (ix:Nat) (g:GS) (q:FN) (d:Ds) (ks:KL) (k:En->Hp->Nat->RR) (B:Nat) (e:En) (h:Hp) (n:Nat):RR:=
 evG g e
  (ye (xf q P eJ e h (Nat.rec (motive:=λ _=>Nat) n (λ i _=>Nat.add B (Nat.mul i 512)) ix)) λ v h' n'=>keeps ks P eJ (pd d v e) h' n' (k (pd d v e) h' (Nat.rec (motive:=λ _=>Nat) n' (λ _ _=>n) ix)))
  (k (pd d Bp e) h n)
def JP (r:RL):Program->wg->Nat->En->Hp->Nat->RR:=
 RL.rec (motive:=λ _=>Program->wg->Nat->En->Hp->Nat->RR) (λ _ _ _ e h n=>.ok e h n) (λ _ _ _ _ _ _=>.any)
  (λ x d _ ih P eJ B e h n=>(dR e x).fcR λ v=>ih P eJ B (pd d v e) h n)
  (λ q d _ ih P eJ B e h n=>ye (xf q P eJ e h n) λ v h' n'=>ih P eJ B (pd d v e) h' n')
  (λ ix g q d ks _ ih P eJ B e h n=>Bz P eJ ix g q d ks (ih P eJ B) B e h n)
  (λ ix g q d ks _ _ ih iho P eJ B e h n=>both (Bz P eJ ix g q d ks (ih P eJ B) B e h n) (iho P eJ B e h n)) r
def j8 (ps:PS):V->En->En:=PS.rec (motive:=λ _=>V->En->En) (λ _ e=>e) (λ p _ ih l e=>l.adH e λ x r=>ih r (p.put x e)) ps
def wk (l:PS):Nat:=PS.rec (motive:=λ _=>Nat) 0 (λ _ _ ih=>Nat.succ ih) l
def jump (j:JS) (e:En) (h:Hp) (n:Nat) (ds:NL):Ex:=JS.rec (motive:=λ _=>Ex) (.nx e h n ds) (.rt e h n ds) (λ id=>.ex id e h n ds) j
def M0 (eJ:wg) (g:Oq) (ps:PS) (a b:CC) (e:En) (h:Hp) (n:Nat) (ds:NL):Ex:=
 (dR e g).SU .no λ gf c=>HB.MT (dH h n) .no (HB.MT (dH (ew h .df n) (Nat.succ n)) .no
  (OR.rec (motive:=λ _=>Ex) .no (λ _ h' n'=>HB.SX (dH h' (Nat.succ n)) .no λ st j _ _ _ _=>Bool.rec (motive:=λ _=>Ex) (jump j e (ew h' .x (Nat.succ n)) n' (.cons n ds)) .no (Nat.beq st 1))
   (eJ (.f gf c) (.c (.y (Nat.succ n)) .e) (ew (ew h .df n) (.lp 0 .no ps e a b) (Nat.succ n)) (Nat.succ (Nat.succ n)))))
def BA (x:Ex) (k:En->Hp->Nat->NL->Ex):Ex:=
 Ex.rec (motive:=λ _=>(En->Hp->Nat->NL->Ex)->Ex) (λ _=>.no) (λ e h n ds k=>k e h n ds) (λ e h n ds _=>.rt e h n ds) (λ id e h n ds _=>.ex id e h n ds) x k
def JQ (id:Nat) (x:Ex):Ex:=
 Ex.rec (motive:=λ _=>Nat->Ex) (λ _=>.no) (λ e h n ds _=>.nx e h n ds) (λ e h n ds _=>.rt e h n ds) (λ k e h n ds id=>Bool.rec (motive:=λ _=>Ex) (.ex k e h n ds) (.nx e h n ds) (Nat.beq k id)) x id
def ES (f:Nat) (k:En->Hp->Nat->NL->Ex):En->Hp->Nat->NL->Ex:=
 Nat.rec (motive:=λ _=>(En->Hp->Nat->NL->Ex)->En->Hp->Nat->NL->Ex) (λ _ _ _ _ _=>.no) (λ _ go k e h n ds=>BA (k e h n ds) (go k)) f k
def JR (m:Nat) (x:RR) (ds:NL):Ex:=
 RR.rec (motive:=λ _=>Nat->NL->Ex) (λ _ _=>.no) (λ _ _=>.no) (λ e h n m ds=>.nx e h (Nat.add n (Nat.mul m 512)) ds) x m ds
def tN (c:CC):Program->wg->En->Hp->Nat->NL->Ex:=
 CC.rec (motive:=λ _=>Program->wg->En->Hp->Nat->NL->Ex) (λ _ _ _ _ _ _=>.no) (λ _ _ e h n ds=>.nx e h n ds) (λ _ _ e h n ds=>.rt e h n ds) (λ id _ _ e h n ds=>.ex id e h n ds)
  (λ m r P eJ e h n ds=>JR m (JP r P eJ n e h n) ds)
  (λ _ _ iha ihb P eJ e h n ds=>BA (iha P eJ e h n ds) (ihb P eJ))
  (λ c _ _ iha ihb P eJ e h n ds=>(dR e c).MO .no λ t=>Bool.rec (motive:=λ _=>Ex) (ihb P eJ e h n ds) (iha P eJ e h n ds) t)
  (λ id _ ih P eJ e h n ds=>JQ id (ih P eJ e h n ds))
  (λ _ ih P eJ e h n ds=>ES 1000000 (ih P eJ) e h n ds)
  (λ g ps a b _ _ _ eJ e h n ds=>M0 eJ g ps a b e h n ds) c
inductive RS where
 | nil
 | tmp (t:Sl) (r:RS)
 | cell (q:FN) (r:RS)
def ET (x:OR) (k:V->Hp->Nat->OR):OR:=OR.rec (motive:=λ _=>(V->Hp->Nat->OR)->OR) (λ _=>.no) (λ v h n k=>k v h n) x k
def Dd (r:RS) (P:Program) (e:En) (h:Hp) (k:OK):OR:=
 RS.rec (motive:=λ _=>Program->En->Hp->OK->OR) (λ _ _ _ k=>k .e) (λ t _ ih P e h k=>(t.get e).fc λ v=>ih P e h λ l=>k (.c v l))
  (λ q _ ih P e h k=>ET (xf q P (λ _ _ _ _=>.no) e h 0) λ v _ _=>ih P e h λ l=>k (.c v l)) r P e h k
def M1 (l:V):V:=l.MP (.t l) λ x r=>r.MP x λ _ _=>.t l
def kill (ds:NL) (h:Hp) (k:Hp->OR):OR:=
 NL.rec (motive:=λ _=>Hp->(Hp->OR)->OR) (λ h k=>k h) (λ d _ ih h k=>HB.onD (dH h d) .no (ih (ew h .x d) k)) ds h k
inductive FSx where
 | no
 | mk (c:CC) (r:RS) (ps:PS)
def leave (P:Program) (r:RS) (x:Ex):OR:=
 Ex.rec (motive:=λ _=>Program->RS->OR) (λ _ _=>.no) (λ e h n ds P r=>kill ds h λ h=>Dd r P e h λ l=>.ok (M1 l) h n) (λ e h n ds P r=>kill ds h λ h=>Dd r P e h λ l=>.ok (M1 l) h n) (λ _ _ _ _ _ _ _=>.no) x P r
def enter (P:Program) (eJ:wg) (f:FSx) (args:V) (h:Hp) (n:Nat):OR:=
 FSx.rec (motive:=λ _=>Program->wg->V->Hp->Nat->OR) (λ _ _ _ _ _=>.no) (λ c r ps P eJ args h n=>dM (Nat.ble (n7 args) (wk ps)) (leave P r (tN c P eJ (j8 ps args Uc) h n .nil)) .no) f P eJ args h n
def EU (l:Nat) (ps:PS) (e:En) (a b:CC) (x:Ex):OR:=
 Ex.rec (motive:=λ _=>OR) .no (λ _ h n _=>.ok (.b true) (ew h (.lp 0 .no ps e a b) l) n) (λ _ h n _=>.ok (.b false) (ew h (.lp 2 .rt ps e a b) l) n) (λ id _ h n _=>.ok (.b false) (ew h (.lp 2 (.ex id) ps e a b) l) n) x
def BB (x:Ex) (l:Nat) (k:PS->En->CC->CC->Ex->OR):OR:=
 Ex.rec (motive:=λ _=>OR) .no (λ e h n ds=>HB.Gt (dH h l) .no λ st _ ps e2 a b=>dM (Nat.beq st 1) (k ps e2 a b (.nx e h n ds)) .no) (λ e h n ds=>HB.Gt (dH h l) .no λ st _ ps e2 a b=>dM (Nat.beq st 1) (k ps e2 a b (.rt e h n ds)) .no)
  (λ id e h n ds=>HB.Gt (dH h l) .no λ st _ ps e2 a b=>dM (Nat.beq st 1) (k ps e2 a b (.ex id e h n ds)) .no) x
def S9 (P:Program) (eJ:wg) (l:Nat) (c:CC) (e1:En) (h1:Hp) (n1:Nat) (ds:NL):OR:=
 HB.Gt (dH h1 l) .no λ st j ps e a b=>dM (Nat.beq st 0) (BB (tN c P eJ e1 (ew h1 (.lp 1 j ps e a b) l) n1 ds) l (EU l)) .no
def round (P:Program) (eJ:wg) (l:Nat) (args:V) (h:Hp) (n:Nat):OR:=
 HB.Gt (dH h l) .no λ st _ ps e a b=>dM (dI (Nat.beq st 0) (Nat.beq (n7 args) (wk ps)))
  (Ex.rec (motive:=λ _=>OR) .no (λ e1 h1 n1 ds=>S9 P eJ l b e1 h1 n1 ds) (λ _ _ _ _=>.no) (λ _ _ _ _ _=>.no) (tN a P eJ (j8 ps args e) h n .nil)) .no
def PM (P:Program) (fs:Nat->FSx) (f:Nat):wg:=
 Nat.rec (motive:=λ _=>Program->(Nat->FSx)->wg) (λ _ _ _ _ _ _=>.no)
  (λ _ ih P fs c args h n=>c.Jv .no (λ g FW=>enter P (ih P fs) (fs g) (FV args FW) h n) (λ l=>round P (ih P fs) l args h n)) f P fs
def oq:Operand->Option Oq
 | .tmp t=>(sb t).map .t
 | .const v=>(mX v).map .k
 | .func f=>some (.k (.f f .e))
 | .global _=>none
def q1 (x:Operand) (k:Oq->FN):FN:=match oq x with | some x=>k x | none=>.bad
def KR:Option Operand->Option Oq
 | none=>some (.k .e)
 | some x=>oq x
def PN:List Operand->Option OL
 | []=>some .nil
 | x::r=>match oq x,PN r with | some x,some r=>some (.cons x r) | _,_=>none
def FX (P:Program) (op:BinOp) (t:TypeId):Kd:=
 match P.underlying t with
 | some .bool=>.bool
 | some (.pointer _)=>.ptr
 | some (.slice _)=>.slice
 | some (.map _ _)=>.map
 | some (.func _ _ _)=>.func
 | some (.struct _)=>match oA P t with | some l=>.rows l | none=>.no
 | _=>.no
def lW (P:Program) (t:TypeId):Nat:=((P.info? t).map (·.size)).getD 0
def zeroV (P:Program) (t:TypeId):Option V:=
 match dX P t with
 | some (some (.agg c))=>(ny c.toList).map .a
 | some (some v)=>mX v
 | _=>none
def lJ (P:Program) (t:TypeId):Option V:=
 match dX P t with
 | some (some v)=>ny v.cells.toList
 | _=>none
def wm (P:Program) (t:TypeId):List (Nat × Operand)->Option PL
 | []=>some .nil
 | (i,x)::r=>match P.underlying t with
  | some (.struct fs)=>match fs[i]?,oq x,wm P t r with
   | some f,some x,some r=>some (.cons f.offset (lW P f.type) x r)
   | _,_,_=>none
  | _=>none
def qA (es:Nat):List (Nat × Operand)->Option PL
 | []=>some .nil
 | (i,x)::r=>match oq x,qA es r with | some x,some r=>some (.cons (Nat.mul i es) es x r) | _,_=>none
def adO (z:V):Nat->V
 | 0=>.e
 | n+1=>FV z (adO z n)
def Ta (s:String):Option (Array Value->Sem Value):=
 bif s == "internal/bytealg.CountString" then some Extern.BytealgCount.count else
 bif s == "internal/bytealg.IndexByteString" then some Extern.BytealgIndexByte.indexByte else
 bif s == "internal/bytealg.IndexString" then some Extern.BytealgIndex.index else none
def JT (P:Program) (f:Nat):Option (Array Value->Sem Value):=
 match P.funcs[f]? with
 | none=>none
 | some fn => bif fn.body.isNone && fn.origin == "" then Ta fn.name else none
def mA (P:Program) (o:Oper):FN:=
 match o.op with
 | .move x=>q1 x .mv
 | .assign x=>q1 x .mv
 | .pick c a b=>q1 c λ c=>q1 a λ a=>q1 b λ b=>.pick c a b
 | .alloc t=>match lJ P t with | some z=>.new z | none=>.bad
 | .box _ x=>q1 x .box
 | .build t ps=>match P.underlying t,lJ P t,wm P t ps.toList with
  | some (.struct fs),some z,some l=>bif fs.toList.all (λ f=>(P.info? f.type).isSome) then .build z l else .bad
  | some (.array _ E),some z,_=>match qA (lW P E) ps.toList with | some l=>bif (P.info? E).isSome then .build z l else .bad | none=>.bad
  | _,_,_=>.bad
 | .buildSlice t n ps=>match dJ P t with
  | some (E,es,_,some k)=>match lJ P E,qA es ps.toList with
   | some z,some l=>bif Nat.beq k es && (Nat.ble 1 es && Nat.ble (Nat.mul n es) 16777216) then .bsl es n (xe z n) l else .bad
   | _,_=>.bad
  | _=>.bad
 | .load t a=>match bY P t with
  | some (false,1)=>q1 a .ld
  | some (true,n)=>q1 a (.lda n)
  | _=>.bad
 | .store t a x=>q1 a λ a=>q1 x λ x=>match bY P t with | some (_,n)=>.st n a x | none=>.bad
 | .nilCheck x=>q1 x .adC
 | .binOp op t x y _=>q1 x λ a=>q1 y λ b=>.bin op (gD op t (Ca x) (Ca y)) (FX P op t) a b
 | .unOp op _ x=>q1 x λ a=>match op with | .not=>.not a | op=>.gen (Op.unary op) a
 | .convert s d x=>q1 x λ a=>bif Nat.beq (xh P s d) 0 then .gen (convert s d) a else match P.underlying s,P.underlying d with
  | some .string,some (.slice E)=>match P.underlying E,dJ P d with | some (.int .u8),some (_,1,_,some 1)=>.toB a | _,_=>.bad
  | _,_=>.bad
 | .makeFunc fn first cap=>match fn,first.toList,PN cap.toList with
  | .func g,[],some l=>.mkf g l
  | _,_,_=>.bad
 | .makeMap t none=>.mkm
 | .makeSlice t l c=>q1 l λ l=>q1 c λ c=>match dJ P t with
  | some (E,es,by',some k)=>match lJ P E with | some z=>bif Nat.beq k es && (Nat.ble 1 es && Nat.ble by' 8192) then .mks es z l c else .bad | none=>.bad
  | _=>.bad
 | .slice t x lo zQ mx=>q1 x λ x=>match KR lo,KR zQ,KR mx with
  | some lo,some hi,some mx'=>match P.underlying t with
   | some .string=>match mx with | none=>.adG x lo hi | some _=>.bad
   | some (.slice E)=>bif Nat.ble 1 (lW P E) && (mx.isNone || zQ.isSome) then .slc (lW P E) x lo hi mx' else .bad
   | _=>.bad
  | _,_,_=>.bad
 | .fieldAddr s x f=>q1 x λ x=>match aQ P s f with | some (off,some true)=>.fa off x | _=>.bad
 | .field t x f=>q1 x λ x=>match P.underlying t with
  | some (.struct fs)=>match fs[f]? with
   | some fd=>match bY P fd.type with
    | some (false,_)=>.Yi fd.offset x
    | some (true,n)=>.adD fd.offset n x
    | none=>.bad
   | none=>.bad
  | _=>.bad
 | .indexAddr t x i=>q1 x λ x=>q1 i λ i=>match P.underlying t with
  | some (.slice E)=>bif Nat.ble 1 (lW P E) then .ia (lW P E) x i else .bad
  | some (.array n E)=>bif Nat.ble 1 (lW P E) then .iaa n (lW P E) x i else .bad
  | _=>.bad
 | .index t x i=>q1 x λ x=>q1 i λ i=>match P.underlying t with
  | some .string=>.idx x i
  | some (.array k E)=>match bY P E with
   | some (false,es)=>.adE k es x i
   | some (true,es)=>.adF k es x i
   | none=>.bad
  | _=>.bad
 | .lookup t x i ok=>q1 x λ x=>q1 i λ i=>match P.underlying t with
  | some (.map k e)=>match zeroV P e,P.underlying k with
   | some z,some (.int _)=>.look false z ok x i
   | some z,some .string=>.look true z ok x i
   | _,_=>.bad
  | _=>.bad
 | .mapUpdate t m k x=>q1 m λ m=>q1 k λ k=>q1 x λ x=>match P.underlying t with
  | some (.map kt _)=>match P.underlying kt with
   | some (.int _)=>.mup false m k x
   | some .string=>.mup true m k x
   | _=>.bad
  | _=>.bad
 | .insert t m k x=>q1 m λ m=>q1 k λ k=>q1 x λ x=>match P.underlying t with
  | some (.map kt _)=>match P.underlying kt with
   | some (.int _)=>.mup false m k x
   | some .string=>.mup true m k x
   | _=>.bad
  | _=>.bad
 | .range t x=>q1 x λ x=>match P.underlying t with | some (.map _ _)=>.rng x | _=>.bad
 | .next x s=>q1 x λ x=>bif s then .bad else .nxt x
 | .entry x=>q1 x .ent
 | .extract t i=>q1 t (.ext i)
 | .call c=>match c.callee with
  | .value (.func f)=>match PN c.args.toList with
   | some l=>match JT P f with | some e=>.SS (λ vs=>e vs.toArray) l | none=>.call f l
   | none=>.bad
  | .value x=>q1 x λ x=>match PN c.args.toList with | some l=>.zW x l | none=>.bad
  | .invoke _ _=>.bad
  | .builtin b=>match b,c.argTypes.toList,c.args.toList with
   | .len,[t],[x]=>q1 x λ x=>match P.underlying t with
    | some .string=>.len .no x
    | some (.slice _)=>match dJ P t with | some _=>.len .slice x | none=>.bad
    | some (.map _ _)=>.len .map x
    | _=>.bad
   | .cap,[t],[x]=>q1 x λ x=>match dJ P t with | some _=>.len .func x | none=>.bad
   | .min,_,xs=>match PN xs with | some l=>.SS (λ vs=>Builtin.min_ c.argTypes o.type vs.toArray) l | none=>.bad
   | .max,_,xs=>match PN xs with | some l=>.SS (λ vs=>Builtin.max_ c.argTypes o.type vs.toArray) l | none=>.bad
   | .append,[t,u],[x,y]=>q1 x λ a=>q1 y λ b=>match dJ P t with
    | some (_,es,by',some k)=>bif Nat.beq k es && (Nat.ble 1 es && (Nat.ble by' 8192 && (match P.underlying u with | some (.slice _)=>true | some .string=>true | _=>false))) then .app es a b else .bad
    | _=>.bad
   | .copy,[t,_],[x,y]=>q1 x λ a=>q1 y λ b=>match dJ P t with
    | some (_,es,_,some k)=>bif Nat.ble 1 es then .cpy es a b else .bad
    | _=>.bad
   | .delete,[t,_],[x,y]=>q1 x λ a=>q1 y λ b=>match P.underlying t with
    | some (.map kt _)=>match P.underlying kt with
     | some (.int _)=>.del false a b
     | some .string=>.del true a b
     | _=>.bad
    | _=>.bad
   | .clear,[t],[x]=>q1 x λ a=>match dJ P t with
    | some (E,es,_,some k)=>match lJ P E with | some z=>bif Nat.ble 1 es then .clr es z a else .bad | none=>.bad
    | _=>.bad
   | _,_,_=>.bad
 | _=>.bad
def tO (ops:List Oper) (o:Oper):Option GS:=
 match o.guard with
 | none=>some .a
 | some (j,b)=>match n8 ops j with | some s=>(sb s).map λ s=>.w s b | none=>none
def De (o:Oper):Option Ds:=match o.dst with | none=>some .n | some d=>(sb d).map .s
def qc (P:Program) (ops:List Oper):List Oper->RL
 | []=>.nil
 | o::r=>match tO ops o,De o with
  | some .a,some d=>match mA P o with | .mv x=>.mv x d (qc P ops r) | q=>.q q d (qc P ops r)
  | some g,some d=>.op 0 g (mA P o) d .nil (qc P ops r)
  | _,_=>.q .bad .n .nil
def yf (P:Program) (ops:List Oper):List Nat->Option KL
 | []=>some .nil
 | i::r=>match tO ops (hJ ops i),yf P ops r,(hJ ops i).dst.bind sb,uM P (hJ ops i) with
  | some g,some r,some d,true=>some (.cons g (mA P (hJ ops i)) d r)
  | _,_,_,_=>none
def mY (P:Program) (ops:List Oper) (al:Bool):PT->RL
 | .nil=>.nil
 | .stop=>.stop
 | .op i ks r=>match tO ops (hJ ops i),De (hJ ops i),yf P ops ks with
  | some g,some d,some ks=>.op (bif al then Nat.succ i else 0) g (mA P (hJ ops i)) d ks (mY P ops al r)
  | _,_,_=>.q .bad .n .nil
 | .alt i ks r o=>match tO ops (hJ ops i),De (hJ ops i),yf P ops ks with
  | some g,some d,some ks=>.alt (bif al then Nat.succ i else 0) g (mA P (hJ ops i)) d ks (mY P ops al r) (mY P ops al o)
  | _,_,_=>.q .bad .n .nil
def wo:List Nat->Option PS
 | []=>some .nil
 | x::r=>match sb x,wo r with | some s,some r=>some (.cons s r) | _,_=>none
def pJ (k:Nat):Nat->PS
 | 0=>.nil
 | n+1=>match sb k with | some s=>.cons s (pJ (Nat.succ k) n) | none=>.nil
def mB (n:Nat):PT->PT
 | .nil=>.run 0 n
 | p=>p
def fj (P:Program) (n:Nat) (pl:dB):Code->CC
 | .skip=>.skip
 | .ret=>.ret
 | .exit id=>.exit id
 | .region _ ops false=>.Q8 0 (qc P ops.toList ops.toList)
 | .region id ops true=>bif (mB ops.toList.length (pl id)).many then .Q8 (Nat.succ ops.toList.length) (mY P ops.toList true (mB ops.toList.length (pl id))) else .Q8 0 (mY P ops.toList false (mB ops.toList.length (pl id)))
 | .seq a b=>.seq (fj P n pl a) (fj P n pl b)
 | .cond c a b=>match oq c with | some c=>.cond c (fj P n pl a) (fj P n pl b) | none=>.bad
 | .block id c=>.block id (fj P n pl c)
 | .loop c=>.loop (fj P n pl c)
 | .rangeFunc g ps a b=>match oq g,wo ps.toList with
  | some g,some l=>.rf g l (fj P n pl a) (fj P n pl b)
  | _,_=>.bad
 | _=>.bad
def zV (P:Program) (n:Nat) (pl:dB):Code->Bool
 | .region _ ops false=>ops.toList.all (mF n)
 | .region id ops true=>ops.toList.all (mF n) && (tn ops.toList (pN ops.toList) && Cc P ops.toList (pN ops.toList) false ops.toList.length 0 (mB ops.toList.length (pl id)))
 | .seq a b=>zV P n pl a && zV P n pl b
 | .cond _ a b=>zV P n pl a && zV P n pl b
 | .block _ c=>zV P n pl c
 | .loop c=>zV P n pl c
 | .rangeFunc _ ps a b=>(ps.toList.all (λ p=>Nat.blt p n) && (!cL a && !cL b)) && (zV P n pl a && zV P n pl b)
 | _=>true
def oS (P:Program):List ResultVar->Option RS
 | []=>some .nil
 | .tmp t::r=>match sb t,oS P r with | some t,some r=>some (.tmp t r) | _,_=>none
 | .cell a t::r=>match bY P t,sb a with
  | some (false,1),some a=>(oS P r).map (.cell (.ld (.t a)))
  | some (true,n),some a=>(oS P r).map (.cell (.lda n (.t a)))
  | _,_=>none
def mh (P:Program) (tP:Nat->Nat->PT) (g:Nat):FSx:=
 match P.funcs[g]? with
 | none=>.no
 | some fn=>match fn.body,oS P fn.results.toList with
  | some c,some r=>.mk (fj P fn.ntmps (tP g) c) r (pJ 0 fn.ntmps)
  | _,_=>.no
def okF (P:Program) (tP:Nat->Nat->PT) (g:Nat):Bool:=
 match P.funcs[g]? with
 | none=>false
 | some fn=>match fn.body with
  | some c => !(fn.name == "runtime.NumGoroutine") && (Nat.ble fn.ntmps 512 && zV P fn.ntmps (tP g) c)
  | none=>false
def mZ (l:List Nat) (fs:Nat->FSx) (g:Nat):FSx:=bif iW g l then fs g else .no
end
structure Pl where
 k:Nat
 b:Nat
 c:Nat
 s:Nat
abbrev Rn:=Nat->Option Pl
def Le (ρ ρ':Rn):Prop:=∀ b q,ρ b=some q->ρ' b=some q
theorem Le.refl (ρ:Rn):Le ρ ρ:=λ _ _ h=>h
theorem Le.trans {a b c:Rn} (h:Le a b) (k:Le b c):Le a c:=λ _ _ x=>k _ _ (h _ _ x)
def RP (ρ:Rn):V->(Value->Prop) × (List Value->Prop)
 | .b x=>(λ y=>y = .bool x,λ _=>False)
 | .i k n=>(λ y=>y = .int k n,λ _=>False)
 | .s n l=>(λ y=>y = .string (strOf n l),λ _=>False)
 | .np=>(λ y=>y = .pointer none,λ _=>False)
 | .p b o=>(λ y=>∃ q,ρ b=some q/\y = .pointer (some ⟨q.k,q.b+o,none⟩),λ _=>False)
 | .ns=>(λ y=>y = .slice none 0 0,λ _=>False)
 | .sl b o l d=>(λ y=>∃ q,ρ b=some q/\(o=d * q.s/\l+d<=q.c)/\y = .slice (some ⟨q.k,q.b+o,none⟩) l (q.c - d),λ _=>False)
 | .sx b o l c=>(λ y=>∃ q,ρ b=some q/\l<=c/\y = .slice (some ⟨q.k,q.b+o,none⟩) l c,λ _=>False)
 | .se=>(λ y=>∃ a c,y = .slice (some a) 0 c,λ _=>False)
 | .nm=>(λ y=>y = .map none,λ _=>False)
 | .m r=>(λ y=>∃ q,ρ r=some q/\y = .map (some q.k),λ _=>False)
 | .nf=>(λ y=>y = .nilFunc,λ _=>False)
 | .f g c=>(λ y=>∃ ys,(RP ρ c).2 ys/\y = .func (.func g) #[] ys.toArray,λ _=>False)
 | .y l=>(λ y=>∃ q,ρ l=some q/\y = .func (.yield q.k) #[] #[],λ _=>False)
 | .a c=>(λ y=>∃ ys,(RP ρ c).2 ys/\(∀ z∈ys,eK z=true)/\y = .agg ys.toArray,λ _=>False)
 | .t c=>(λ y=>∃ ys,(RP ρ c).2 ys/\y = .tuple ys.toArray,λ _=>False)
 | .e=>(λ _=>False,λ ys=>ys=[])
 | .c h r=>(λ _=>False,λ ys=>∃ z zs,ys=z::zs/\(RP ρ h).1 z/\(RP ρ r).2 zs)
abbrev RV (ρ:Rn) (v:V) (y:Value):Prop:=(RP ρ v).1 y
abbrev gE (ρ:Rn) (v:V) (ys:List Value):Prop:=(RP ρ v).2 ys
theorem RP.mono {ρ ρ':Rn} (h:Le ρ ρ'):∀ v,(∀ y,RV ρ v y->RV ρ' v y)/\∀ ys,gE ρ v ys->gE ρ' v ys:=by
 intro v
 induction v with
 | p b o=>exact ⟨λ y ⟨q,h1,h2⟩=>⟨q,h _ _ h1,h2⟩,λ _ h=>h.elim⟩
 | sl b o l d=>exact ⟨λ y ⟨q,h1,h2⟩=>⟨q,h _ _ h1,h2⟩,λ _ h=>h.elim⟩
 | sx b o l d=>exact ⟨λ y ⟨q,h1,h2⟩=>⟨q,h _ _ h1,h2⟩,λ _ h=>h.elim⟩
 | m r=>exact ⟨λ y ⟨q,h1,h2⟩=>⟨q,h _ _ h1,h2⟩,λ _ h=>h.elim⟩
 | y r=>exact ⟨λ y ⟨q,h1,h2⟩=>⟨q,h _ _ h1,h2⟩,λ _ h=>h.elim⟩
 | f g c ih=>exact ⟨λ y ⟨ys,h1,h2⟩=>⟨ys,ih.2 _ h1,h2⟩,λ _ h=>h.elim⟩
 | a c ih=>exact ⟨λ y ⟨ys,h1,h2⟩=>⟨ys,ih.2 _ h1,h2⟩,λ _ h=>h.elim⟩
 | t c ih=>exact ⟨λ y ⟨ys,h1,h2⟩=>⟨ys,ih.2 _ h1,h2⟩,λ _ h=>h.elim⟩
 | c x r yo tq=>exact ⟨λ _ h=>h.elim,λ ys ⟨z,zs,h1,h2,h3⟩=>⟨z,zs,h1,yo.1 _ h2,tq.2 _ h3⟩⟩
 | _=>exact ⟨λ _ h=>h,λ _ h=>h⟩
theorem RV.mono {ρ ρ':Rn} {v:V} {y:Value} (h:RV ρ v y) (k:Le ρ ρ'):RV ρ' v y:=(RP.mono k v).1 y h
theorem gE.mono {ρ ρ':Rn} {v:V} {y:List Value} (h:gE ρ v y) (k:Le ρ ρ'):gE ρ' v y:=(RP.mono k v).2 y h
theorem wq {a b:IntKind} (h:Nat.beq (kn a) (kn b)=true):a=b:=by cases a <;> cases b <;> first | rfl | cases h
theorem wu {a b:Bool}:FT a b=(a == b):=by cases a <;> cases b <;> rfl
theorem nz {a:Bool}:tc a = !a:=by cases a <;> rfl
theorem M3 {a b:Bool}:dI a b=(a && b):=by cases a <;> rfl
theorem uF (x y:Nat):Nat.beq x y=decide (x=y):=by
 cases h:Nat.beq x y
 ·rw [decide_eq_false λ hh=>by rw [hh,gO] at h; cases h]
 rw [decide_eq_true (Nat.eq_of_beq_eq_true h)]
theorem uG (x y:Nat):Nat.blt x y=decide (x<y):=by
 cases h:Nat.blt x y
 ·refine (decide_eq_false λ hh=>?_).symm
  have:Nat.blt x y=true:=by rw [Nat.blt_eq]; exact hh
  rw [h] at this; cases this
 refine (decide_eq_true ?_).symm
 rw [Nat.blt_eq] at h; exact h
theorem po (a b:Int):JE a b=decide (a=b):=by
 cases a with
 | ofNat x=>cases b with
  | ofNat y=>show Nat.beq x y=_; rw [uF]; exact decide_eq_decide.2 ⟨λ h=>by rw [h],λ h=>by cases h; rfl⟩
  | negSucc y=>show false=_; rw [decide_eq_false (λ h=>by cases h)]
 | negSucc x=>cases b with
  | ofNat y=>show false=_; rw [decide_eq_false (λ h=>by cases h)]
  | negSucc y=>show Nat.beq x y=_; rw [uF]; exact decide_eq_decide.2 ⟨λ h=>by rw [h],λ h=>by cases h; rfl⟩
theorem uH (a b:Int):MU a b=decide (a<b):=by
 cases a with
 | ofNat x=>cases b with
  | ofNat y=>show Nat.blt x y=_; rw [uG]; exact decide_eq_decide.2 ⟨λ h=>by show (x:Int)<y; omega,λ h=>by have:(x:Int)<y:=h; omega⟩
  | negSucc y=>show false=_; rw [decide_eq_false (λ h=>by have:(x:Int)<Int.negSucc y:=h; omega)]
 | negSucc x=>cases b with
  | ofNat y=>show true=_; rw [decide_eq_true (by show Int.negSucc x<(y:Int); omega)]
  | negSucc y=>show Nat.blt y x=_; rw [uG]; exact decide_eq_decide.2 ⟨λ h=>by omega,λ h=>by omega⟩
theorem oT:∀ v v':V,V.eqv v v'=true->v=v'/\∀ ρ,(∀ y y',RV ρ v y->RV ρ v y'->y=y')/\∀ ys YJ,gE ρ v ys->gE ρ v YJ->ys=YJ:=by
 intro v
 have and2:∀ {a b:Bool},dI a b=true->a=true/\b=true:=fun {a b} h=>by cases a <;> cases b <;> first | exact ⟨rfl,rfl⟩ | cases h
 have nb:∀ {a b:Nat},Nat.beq a b=true->a=b:=λ h=>Nat.eq_of_beq_eq_true h
 have YK:∀ {ρ:Rn} {b:Nat} {q q':Pl},ρ b=some q->ρ b=some q'->q=q':=λ h h'=>Option.some.inj (h.symm.trans h')
 induction v with
 | b x=>
  intro v' h; cases v' <;> first | cases h | skip
  rename_i y; have:x=y:=by have h:FT x y=true:=h; rw [wu] at h; exact beq_iff_eq.1 h
  subst this; exact ⟨rfl,λ ρ=>⟨λ _ _ h h'=>Eq.trans h (Eq.symm h'),λ _ _ h=>h.elim⟩⟩
 | i k n=>
  intro v' h; cases v' <;> first | cases h | skip
  rename_i k' n'; obtain ⟨h1,h2⟩:=and2 h; have:=wq h1; subst this; rw [po] at h2; have:=of_decide_eq_true h2; subst this
  exact ⟨rfl,λ ρ=>⟨λ _ _ h h'=>Eq.trans h (Eq.symm h'),λ _ _ h=>h.elim⟩⟩
 | s n l=>
  intro v' h; cases v' <;> first | cases h | skip
  obtain ⟨h1,h2⟩:=and2 h; have:=nb h1; subst this; have:=nb h2; subst this
  exact ⟨rfl,λ ρ=>⟨λ _ _ h h'=>Eq.trans h (Eq.symm h'),λ _ _ h=>h.elim⟩⟩
 | p b o=>
  intro v' h; cases v' <;> first | cases h | skip
  obtain ⟨h1,h2⟩:=and2 h; have:=nb h1; subst this; have:=nb h2; subst this
  exact ⟨rfl,λ ρ=>⟨λ _ _ ⟨q,a,b⟩ ⟨q',a',b'⟩=>by rw [b,b',YK a a'],λ _ _ h=>h.elim⟩⟩
 | sl b o l d=>
  intro v' h; cases v' <;> first | cases h | skip
  obtain ⟨h1,h2⟩:=and2 h; obtain ⟨h2,h3⟩:=and2 h2; obtain ⟨h3,h4⟩:=and2 h3
  have:=nb h1; subst this; have:=nb h2; subst this; have:=nb h3; subst this; have:=nb h4; subst this
  exact ⟨rfl,λ ρ=>⟨λ _ _ ⟨q,a,_,b⟩ ⟨q',a',_,b'⟩=>by rw [b,b',YK a a'],λ _ _ h=>h.elim⟩⟩
 | sx b o l d=>
  intro v' h; cases v' <;> first | cases h | skip
  obtain ⟨h1,h2⟩:=and2 h; obtain ⟨h2,h3⟩:=and2 h2; obtain ⟨h3,h4⟩:=and2 h3
  have:=nb h1; subst this; have:=nb h2; subst this; have:=nb h3; subst this; have:=nb h4; subst this
  exact ⟨rfl,λ ρ=>⟨λ _ _ ⟨q,a,_,b⟩ ⟨q',a',_,b'⟩=>by rw [b,b',YK a a'],λ _ _ h=>h.elim⟩⟩
 | se=>intro v' h; cases v' <;> cases h
 | m r=>
  intro v' h; cases v' <;> first | cases h | skip
  have:=nb h; subst this
  exact ⟨rfl,λ ρ=>⟨λ _ _ ⟨q,a,b⟩ ⟨q',a',b'⟩=>by rw [b,b',YK a a'],λ _ _ h=>h.elim⟩⟩
 | y r=>
  intro v' h; cases v' <;> first | cases h | skip
  have:=nb h; subst this
  exact ⟨rfl,λ ρ=>⟨λ _ _ ⟨q,a,b⟩ ⟨q',a',b'⟩=>by rw [b,b',YK a a'],λ _ _ h=>h.elim⟩⟩
 | f g c ih=>
  intro v' h; cases v' <;> first | cases h | skip
  obtain ⟨h1,h2⟩:=and2 h; have:=nb h1; subst this; obtain ⟨e,hd⟩:=ih _ h2; subst e
  exact ⟨rfl,λ ρ=>⟨λ _ _ ⟨ys,a,b⟩ ⟨YJ,a',b'⟩=>by rw [b,b',(hd ρ).2 _ _ a a'],λ _ _ h=>h.elim⟩⟩
 | a c ih=>
  intro v' h; cases v' <;> first | cases h | skip
  obtain ⟨e,hd⟩:=ih _ h; subst e
  exact ⟨rfl,λ ρ=>⟨λ _ _ ⟨ys,a,_,b⟩ ⟨YJ,a',_,b'⟩=>by rw [b,b',(hd ρ).2 _ _ a a'],λ _ _ h=>h.elim⟩⟩
 | t c ih=>
  intro v' h; cases v' <;> first | cases h | skip
  obtain ⟨e,hd⟩:=ih _ h; subst e
  exact ⟨rfl,λ ρ=>⟨λ _ _ ⟨ys,a,b⟩ ⟨YJ,a',b'⟩=>by rw [b,b',(hd ρ).2 _ _ a a'],λ _ _ h=>h.elim⟩⟩
 | c x r yo tq=>
  intro v' h; cases v' <;> first | cases h | skip
  obtain ⟨h1,h2⟩:=and2 h; obtain ⟨e,hd⟩:=yo _ h1; subst e; obtain ⟨e,hd'⟩:=tq _ h2; subst e
  exact ⟨rfl,λ ρ=>⟨λ _ _ h=>h.elim,λ _ _ ⟨z,zs,a,b,c⟩ ⟨z',zs',a',b',c'⟩=>by rw [a,a',(hd ρ).1 _ _ b b',(hd' ρ).2 _ _ c c']⟩⟩
 | e=>intro v' h; cases v' <;> first | exact ⟨rfl,λ ρ=>⟨λ _ _ h=>h.elim,λ _ _ h h'=>Eq.trans h (Eq.symm h')⟩⟩ | cases h
 | _=>intro v' h; cases v' <;> first | exact ⟨rfl,λ ρ=>⟨λ _ _ h h'=>Eq.trans h (Eq.symm h'),λ _ _ h=>h.elim⟩⟩ | cases h
section
variable {ρ:Rn}
theorem gE.nA {ys:List Value} (h:gE ρ .e ys):ys=[]:=h
theorem gE.len:∀ {v:V} {ys:List Value},gE ρ v ys->n7 v=ys.length:=by
 intro v
 induction v with
 | e=>intro ys h; rw [gE.nA h]; rfl
 | c x r _ ih=>intro ys ⟨z,zs,h1,_,h3⟩; rw [h1]; show Nat.succ (n7 r)=_; rw [ih h3]; rfl
 | _=>intro ys h; exact h.elim
theorem gE.app:∀ {l:V} {xs:List Value},gE ρ l xs->∀ {r:V} {ys:List Value},gE ρ r ys->gE ρ (FV l r) (xs++ys):=by
 intro l
 induction l with
 | e=>intro xs h r ys h'; rw [gE.nA h]; exact h'
 | c x t _ ih=>intro xs ⟨z,zs,h1,h2,h3⟩ r ys h'; rw [h1]; exact ⟨z,zs++ys,rfl,h2,ih h3 h'⟩
 | _=>intro xs h; exact h.elim
theorem gE.drop:∀ (n:Nat) {l:V} {xs:List Value},gE ρ l xs->gE ρ (EN l n) (xs.drop n):=by
 intro n
 induction n with
 | zero=>intro l xs h; exact h
 | succ n ih=>
  intro l xs h
  cases l <;> first | exact h.elim | skip
  ·rw [gE.nA h,List.drop_nil]; exact (show gE ρ .e [] from rfl)
  ·obtain ⟨z,zs,h1,_,h3⟩:=h; rw [h1]; exact ih h3
theorem gE.take:∀ (n:Nat) {l:V} {xs:List Value},gE ρ l xs->gE ρ (wb l n) (xs.take n):=by
 intro n
 induction n with
 | zero=>intro l xs h; exact (show gE ρ .e [] from rfl)
 | succ n ih=>
  intro l xs h
  cases l <;> first | exact h.elim | skip
  ·rw [gE.nA h,List.take_nil]; exact (show gE ρ .e [] from rfl)
  ·obtain ⟨z,zs,h1,h2,h3⟩:=h; rw [h1]; exact ⟨z,zs.take n,rfl,h2,ih h3⟩
theorem te {k:OK}:∀ (n:Nat) {l:V} {xs:List Value},gE ρ l xs->Db l n k = .no\/∃ v x,Db l n k=k v/\xs[n]? = some x/\RV ρ v x:=by
 intro n
 induction n with
 | zero=>
  intro l xs h
  cases l <;> first | exact h.elim | exact .inl rfl | skip
  obtain ⟨z,zs,h1,h2,_⟩:=h
  exact .inr ⟨_,z,rfl,by rw [h1]; rfl,h2⟩
 | succ n ih=>
  intro l xs h
  cases l <;> first | exact h.elim | exact .inl rfl | skip
  obtain ⟨z,zs,h1,_,h3⟩:=h
  rw [h1]; exact ih h3
theorem gE.rep {z:V} {zs:List Value} (h:gE ρ z zs):∀ n,gE ρ (xe z n) (List.replicate n zs).flatten:=by
 intro n
 induction n with
 | zero=>exact (show gE ρ .e [] from rfl)
 | succ n ih=>rw [List.replicate_succ,List.flatten_cons]; exact h.app ih
def RT (ρ:Rn) (t:Tr V) (o:Nat) (xs:List Value):Prop:=∀ j x,xs[j]? = some x->RV ρ (sd t (o+j)) x
theorem RT.rd:∀ {n:Nat} {t:Tr V} {o:Nat} {xs:List Value},xs.length=n->RT ρ t o xs->gE ρ (rd t n o) xs:=by
 intro n
 induction n with
 | zero=>intro t o xs h _; rw [List.length_eq_zero_iff.1 h]; exact (show gE ρ .e [] from rfl)
 | succ n ih=>
  intro t o xs h hr
  match xs,h with
  | x::xs,h=>exact ⟨x,xs,rfl,hr 0 x rfl,ih (by simpa using h) λ j y hy=>by have:=hr (j+1) y (by simpa using hy); rwa [show o+(j+1)=Nat.succ o+j from by omega] at this⟩
theorem uI:∀ {l:V} {xs:List Value},gE ρ l xs->∀ (o:Nat) (t:Tr V) (i:Nat),(i<o\/o+xs.length<=i->sd (qa l o t) i=sd t i)/\∀ j x,xs[j]? = some x->i=o+j->RV ρ (sd (qa l o t) i) x:=by
 intro l
 induction l with
 | e=>intro xs h o t i; rw [gE.nA h]; exact ⟨λ _=>rfl,λ j x hx=>by simp at hx⟩
 | c v r _ ih=>
  intro xs ⟨z,zs,h1,h2,h3⟩ o t i
  subst h1
  obtain ⟨a,b⟩:=ih h3 (Nat.succ o) (MJ t v o) i
  refine ⟨λ hi=>?_,λ j x hx hi=>?_⟩
  ·have hl:(z::zs).length=zs.length+1:=rfl
   refine (a (by omega)).trans ?_
   rw [Bs,if_neg (by omega)]
  ·cases j with
   | zero=>
    have:x=z:=by simpa using hx.symm
    subst this
    have e:=a (.inl (by omega))
    show RV ρ (sd (qa r (Nat.succ o) (MJ t v o)) i) x
    rw [e,Bs,if_pos (by omega)]; exact h2
   | succ j=>exact b j x (by simpa using hx) (by omega)
 | _=>intro xs h; exact h.elim
theorem RT.PO {l:V} {xs:List Value} (h:gE ρ l xs) (t:Tr V) (o:Nat):RT ρ (qa l o t) o xs:=λ j x hj=>(uI h o t (o+j)).2 j x hj rfl
end
theorem wx (k:IntKind) (n:Nat):si k n=k.wrap n:=by
 unfold si
 cases h:Nat.ble n (SY k) with
 | false=>rfl
 | true=>
  have h:=Nat.le_of_ble_eq_true h
  show (n:Int)=k.wrap n
  cases k <;> simp only [SY] at h <;> simp [IntKind.wrap,IntKind.bits,IntKind.signed] <;> omega
theorem M4 (k:IntKind) (a b:Int):SZ k a b=k.wrap (a+b):=by
 cases a with
 | ofNat x=>cases b with
  | ofNat y=>exact wx k (x+y)
  | negSucc y=>
   show Bool.rec (motive:=λ _=>Int) _ (si k (x - (y+1))) (Nat.ble (Nat.succ y) x)=_
   cases h:Nat.ble (Nat.succ y) x with
   | false=>rfl
   | true=>
    have h:=Nat.le_of_ble_eq_true h
    show si k (x - (y+1))=_
    rw [wx]
    congr 1
    show ((x - (y+1):Nat):Int)=(x:Int)+Int.negSucc y
    omega
 | negSucc x=>rfl
theorem M5 (k:IntKind) (a b:Int):S0 k a b=k.wrap (a - b):=by
 cases a with
 | ofNat x=>cases b with
  | ofNat y=>
   show Bool.rec (motive:=λ _=>Int) _ (si k (x - y)) (Nat.ble y x)=_
   cases h:Nat.ble y x with
   | false=>rfl
   | true=>
    have h:=Nat.le_of_ble_eq_true h
    show si k (x - y)=_
    rw [wx]
    congr 1
    show ((x - y:Nat):Int)=(x:Int) - (y:Int)
    omega
  | negSucc y=>rfl
 | negSucc x=>rfl
theorem eQ (n i:Nat):(jd n i).toNat=n / 2 ^ (8 * i) % 256:=by
 show (UInt8.ofNat ((n >>> (8 * i)) % 256)).toNat=_
 rw [Nat.shiftRight_eq_div_pow]
 simp [UInt8.toNat_ofNat']
theorem gH (n l:Nat):wN (strOf n l)=(List.range l).map λ i=>jd n i:=by simp [wN,strOf]
theorem dE (n l:Nat):(strOf n l).size=l:=by rw [<- eI,gH]; simp
theorem jn {n l j:Nat} (h:j<l):(wN (strOf n l))[j]? = some (jd n j):=by rw [gH]; simp [h]
theorem uJ {a b:ByteArray} (h:wN a=wN b):a=b:=by
 obtain ⟨a⟩:=a
 obtain ⟨b⟩:=b
 simp only [ByteArray.mk.injEq]
 exact Array.toList_inj.1 h
theorem zz:∀ (l:List UInt8) (j:Nat) (b:UInt8),l[j]? = some b->jd (rZ l) j=b:=by
 intro l
 induction l with
 | nil=>intro j b h; simp at h
 | cons x r ih=>
  intro j b h
  have hx:=x.toNat_lt
  cases j with
  | zero=>
   have:x=b:=by simpa using h
   subst this
   apply UInt8.toNat.inj
   rw [eQ]
   show (x.toNat+256 * rZ r) / 2 ^ (8 * 0) % 256=x.toNat
   simp only [Nat.mul_zero,Nat.pow_zero,Nat.div_one]
   omega
  | succ j=>
   rw [<- ih j b (by simpa using h)]
   apply UInt8.toNat.inj
   rw [eQ,eQ]
   show (x.toNat+256 * rZ r) / 2 ^ (8 * (j+1)) % 256=_
   have e:2 ^ (8 * (j+1))=256 * 2 ^ (8 * j):=by rw [show 8 * (j+1)=8+8 * j from by omega,Nat.pow_add]
   rw [e,<- Nat.div_div_eq_div_mul]
   congr 2
   omega
theorem BC (s:ByteArray):strOf (rZ s.data.toList) s.data.toList.length=s:=by
 apply uJ
 apply List.ext_getElem?
 intro j
 by_cases h:j<s.data.toList.length
 ·rw [jn h]
  have hs:s.data.toList[j]? = some s.data.toList[j]:=List.getElem?_eq_getElem h
  rw [zz _ j _ hs]
  exact hs.symm
 rw [List.getElem?_eq_none (by rw [eI,dE]; omega),List.getElem?_eq_none (by show s.data.toList.length<=j; omega)]
theorem qB {n l j:Nat} (h:j<l):jd (n % 2 ^ (8 * l)) j=jd n j:=by
 apply UInt8.toNat.inj
 rw [eQ,eQ]
 apply Nat.eq_of_testBit_eq
 intro i
 rw [show (256:Nat)=2 ^ 8 from rfl]
 simp only [Nat.testBit_mod_two_pow,Nat.testBit_div_two_pow]
 by_cases hi:i<8
 ·simp only [hi,decide_true,Bool.true_and]
  rw [decide_eq_true (show i+8 * j<8 * l by omega),Bool.true_and]
 simp [hi]
theorem yg (n l:Nat):strOf (n % 2 ^ (8 * l)) l=strOf n l:=by
 apply uJ
 rw [gH,gH]
 exact List.map_congr_left λ i hi=>qB (List.mem_range.1 hi)
theorem sj {n l:Nat}:n % 2 ^ (8 * l)=rZ (wN (strOf n l)):=by
 induction l generalizing n with
 | zero=>simp [gH,rZ,Nat.mod_one]
 | succ l ih=>
  have e:wN (strOf n (l+1))=jd n 0::wN (strOf (n / 256) l):=by
   rw [gH,gH,List.range_succ_eq_map,List.map_cons,List.map_map]
   congr 1
   refine List.map_congr_left λ i _=>?_
   apply UInt8.toNat.inj
   show (jd n (i+1)).toNat=_
   rw [eQ,eQ,Nat.div_div_eq_div_mul,show 8 * (i+1)=8+8 * i from by omega,Nat.pow_add]
  rw [e]
  show _=(jd n 0).toNat+256 * rZ (wN (strOf (n / 256) l))
  rw [<- ih,eQ,show 8 * (l+1)=8+8 * l from by omega,Nat.pow_add,Nat.mod_mul]
  simp
theorem sm (n l n' l':Nat):Jm n l n' l'=decide (strOf n l=strOf n' l'):=by
 unfold Jm
 show Bool.rec (motive:=λ _=>Bool) false (Nat.beq (n % 2 ^ (8 * l)) (n' % 2 ^ (8 * l))) (Nat.beq l l')=_
 rw [uF l l']
 by_cases hl:l=l'
 ·subst hl
  rw [decide_eq_true rfl]
  show Nat.beq _ _=_
  rw [uF]
  refine decide_eq_decide.2 ⟨λ h=>?_,λ h=>?_⟩
  ·rw [<- yg n l,<- yg n' l,h]
  rw [sj,sj,h]
 rw [decide_eq_false hl]
 show false=_
 rw [decide_eq_false]
 intro h
 have:=congrArg ByteArray.size h
 rw [dE,dE] at this
 exact hl this
theorem FY {n l j k:Nat} (h1:j<=k) (h2:k<=l):strOf (n >>> (8 * j)) (k - j)=(strOf n l).extract j k:=by
 apply uJ
 have e:wN ((strOf n l).extract j k)=((wN (strOf n l)).drop j).take (k - j):=by
  show ((strOf n l).extract j k).data.toList=_
  rw [ByteArray.data_extract,Array.toList_extract]
  rfl
 rw [e]
 apply List.ext_getElem?
 intro i
 by_cases hi:i<k - j
 ·rw [jn hi,List.getElem?_take_of_lt hi,List.getElem?_drop,jn (by omega)]
  congr 1
  apply UInt8.toNat.inj
  rw [eQ,eQ,Nat.shiftRight_eq_div_pow,Nat.div_div_eq_div_mul,<- Nat.pow_add,Nat.mul_add]
 rw [List.getElem?_eq_none (by rw [eI,dE]; omega),List.getElem?_eq_none (by rw [List.length_take]; omega)]
theorem FZ (n l n' l':Nat):strOf (n % 2 ^ (8 * l)+n' <<< (8 * l)) (l+l')=strOf n l++strOf n' l':=by
 apply uJ
 have e:wN (strOf n l++strOf n' l')=wN (strOf n l)++wN (strOf n' l'):=by
  show (strOf n l++strOf n' l').data.toList=_
  rw [ByteArray.data_append,Array.toList_append]; rfl
 rw [e]
 have hm:n % 2 ^ (8 * l)<2 ^ (8 * l):=Nat.mod_lt _ (Nat.two_pow_pos _)
 apply List.ext_getElem?
 intro i
 by_cases h1:i<l
 ·rw [jn (by omega),List.getElem?_append_left (by rw [eI,dE]; exact h1),jn h1]
  congr 1
  rw [<- qB (n:=n % 2 ^ (8 * l)+n' <<< (8 * l)) h1,Nat.shiftLeft_eq,Nat.add_mul_mod_self_right,Nat.mod_mod,qB h1]
 rw [List.getElem?_append_right (by rw [eI,dE]; omega),eI,dE]
 by_cases h2:i<l+l'
 ·rw [jn h2,jn (by omega)]
  congr 1
  apply UInt8.toNat.inj
  rw [eQ,eQ]
  have e2:2 ^ (8 * i)=2 ^ (8 * l) * 2 ^ (8 * (i - l)):=by rw [<- Nat.pow_add]; congr 1; omega
  rw [e2,<- Nat.div_div_eq_div_mul,Nat.shiftLeft_eq,Nat.add_mul_div_right _ _ (Nat.two_pow_pos _),Nat.div_eq_of_lt hm,Nat.zero_add]
 rw [List.getElem?_eq_none (by rw [eI,dE]; omega),List.getElem?_eq_none (by rw [eI,dE]; omega)]
theorem j9 {ρ:Rn} {x:Value} {v:V} (h:mX x=some v):RV ρ v x:=by
 unfold mX at h
 split at h <;> first | cases h | skip
 all_goals first | exact (show _=_ from rfl) | skip
 rename_i s; show _=_; rw [BC]
theorem nB {ρ:Rn}:∀ {xs:List Value} {l:V},ny xs=some l->gE ρ l xs:=by
 intro xs
 induction xs with
 | nil=>intro l h; cases h; exact (show gE ρ .e [] from rfl)
 | cons x r ih=>
  intro l h
  unfold ny at h
  split at h
  ·rename_i v l' h1 h2; cases h; exact ⟨x,r,rfl,j9 h1,ih h2⟩
  ·cases h
theorem F0 {x:Value} {v:V} (h:mX x=some v):eK x=true:=by
 unfold mX at h
 split at h <;> first | (cases h; rfl) | cases h
theorem oU:∀ {xs:List Value} {l:V},ny xs=some l->∀ z∈xs,eK z=true:=by
 intro xs
 induction xs with
 | nil=>intro l _ z hz; simp at hz
 | cons x r ih=>
  intro l h z hz
  unfold ny at h
  split at h
  ·rename_i v l' h1 h2
   rcases List.mem_cons.1 hz with rfl | hz
   ·exact F0 h1
   ·exact ih h2 z hz
  ·cases h
theorem pq {ρ:Rn}:∀ v:V,(∀ x y,(xd v).1=some x->RV ρ v y->y=x)/\∀ xs ys,(xd v).2=some xs->gE ρ v ys->ys=xs:=by
 intro v
 induction v with
 | a c ih=>
  refine ⟨λ x y h h'=>?_,λ xs ys h=>(by cases h)⟩
  obtain ⟨ys,h1,_,rfl⟩:=h'
  simp only [xd,Option.map_eq_some_iff] at h
  obtain ⟨l,h2,rfl⟩:=h
  rw [ih.2 _ _ h2 h1]
 | c x r yo tq=>
  refine ⟨λ x y h=>(by cases h),λ xs ys h h'=>?_⟩
  obtain ⟨z,zs,rfl,h2,h3⟩:=h'
  simp only [xd] at h
  split at h
  ·rename_i x' l h4 h5; cases h; rw [yo.1 _ _ h4 h2,tq.2 _ _ h5 h3]
  ·cases h
 | e=>exact ⟨λ x y h=>(by cases h),λ xs ys h h'=>(by cases h; exact h')⟩
 | b x=>exact ⟨λ x y h h'=>(by cases h; exact h'),λ xs ys h=>(by cases h)⟩
 | i k n=>exact ⟨λ x y h h'=>(by cases h; exact h'),λ xs ys h=>(by cases h)⟩
 | s k n=>exact ⟨λ x y h h'=>(by cases h; exact h'),λ xs ys h=>(by cases h)⟩
 | np=>exact ⟨λ x y h h'=>(by cases h; exact h'),λ xs ys h=>(by cases h)⟩
 | ns=>exact ⟨λ x y h h'=>(by cases h; exact h'),λ xs ys h=>(by cases h)⟩
 | nm=>exact ⟨λ x y h h'=>(by cases h; exact h'),λ xs ys h=>(by cases h)⟩
 | nf=>exact ⟨λ x y h h'=>(by cases h; exact h'),λ xs ys h=>(by cases h)⟩
 | _=>exact ⟨λ x y h=>(by cases h),λ xs ys h=>(by cases h)⟩
theorem S8.Df {a b:Nat} (ha:a<8) (hb:b<8) (h:S8.of a=S8.of b):a=b:=by
 have:∀ a:Fin 8,∀ b:Fin 8,S8.of a.1=S8.of b.1->a=b:=by
  intro a b h
  match a,b with
  | ⟨0,_⟩,⟨0,_⟩ | ⟨1,_⟩,⟨1,_⟩ | ⟨2,_⟩,⟨2,_⟩ | ⟨3,_⟩,⟨3,_⟩ | ⟨4,_⟩,⟨4,_⟩ | ⟨5,_⟩,⟨5,_⟩ | ⟨6,_⟩,⟨6,_⟩ | ⟨7,_⟩,⟨7,_⟩=>rfl
  | ⟨0,_⟩,⟨1,_⟩ | ⟨0,_⟩,⟨2,_⟩ | ⟨0,_⟩,⟨3,_⟩ | ⟨0,_⟩,⟨4,_⟩ | ⟨0,_⟩,⟨5,_⟩ | ⟨0,_⟩,⟨6,_⟩ | ⟨0,_⟩,⟨7,_⟩=>cases h
  | ⟨1,_⟩,⟨0,_⟩ | ⟨1,_⟩,⟨2,_⟩ | ⟨1,_⟩,⟨3,_⟩ | ⟨1,_⟩,⟨4,_⟩ | ⟨1,_⟩,⟨5,_⟩ | ⟨1,_⟩,⟨6,_⟩ | ⟨1,_⟩,⟨7,_⟩=>cases h
  | ⟨2,_⟩,⟨0,_⟩ | ⟨2,_⟩,⟨1,_⟩ | ⟨2,_⟩,⟨3,_⟩ | ⟨2,_⟩,⟨4,_⟩ | ⟨2,_⟩,⟨5,_⟩ | ⟨2,_⟩,⟨6,_⟩ | ⟨2,_⟩,⟨7,_⟩=>cases h
  | ⟨3,_⟩,⟨0,_⟩ | ⟨3,_⟩,⟨1,_⟩ | ⟨3,_⟩,⟨2,_⟩ | ⟨3,_⟩,⟨4,_⟩ | ⟨3,_⟩,⟨5,_⟩ | ⟨3,_⟩,⟨6,_⟩ | ⟨3,_⟩,⟨7,_⟩=>cases h
  | ⟨4,_⟩,⟨0,_⟩ | ⟨4,_⟩,⟨1,_⟩ | ⟨4,_⟩,⟨2,_⟩ | ⟨4,_⟩,⟨3,_⟩ | ⟨4,_⟩,⟨5,_⟩ | ⟨4,_⟩,⟨6,_⟩ | ⟨4,_⟩,⟨7,_⟩=>cases h
  | ⟨5,_⟩,⟨0,_⟩ | ⟨5,_⟩,⟨1,_⟩ | ⟨5,_⟩,⟨2,_⟩ | ⟨5,_⟩,⟨3,_⟩ | ⟨5,_⟩,⟨4,_⟩ | ⟨5,_⟩,⟨6,_⟩ | ⟨5,_⟩,⟨7,_⟩=>cases h
  | ⟨6,_⟩,⟨0,_⟩ | ⟨6,_⟩,⟨1,_⟩ | ⟨6,_⟩,⟨2,_⟩ | ⟨6,_⟩,⟨3,_⟩ | ⟨6,_⟩,⟨4,_⟩ | ⟨6,_⟩,⟨5,_⟩ | ⟨6,_⟩,⟨7,_⟩=>cases h
  | ⟨7,_⟩,⟨0,_⟩ | ⟨7,_⟩,⟨1,_⟩ | ⟨7,_⟩,⟨2,_⟩ | ⟨7,_⟩,⟨3,_⟩ | ⟨7,_⟩,⟨4,_⟩ | ⟨7,_⟩,⟨5,_⟩ | ⟨7,_⟩,⟨6,_⟩=>cases h
 exact congrArg Fin.val (this ⟨a,ha⟩ ⟨b,hb⟩ h)
theorem JU {i j:Nat} {s:Sl} (hi:sb i=some s) (hj:sb j=some s):i=j:=by
 unfold sb at hi hj
 cases h1:Nat.blt i 512 with
 | false=>rw [h1] at hi; cases hi
 | true=>cases h2:Nat.blt j 512 with
  | false=>rw [h2] at hj; cases hj
  | true=>
   rw [h1] at hi
   rw [h2] at hj
   rw [uG] at h1 h2
   have h1:=of_decide_eq_true h1
   have h2:=of_decide_eq_true h2
   have:=Option.some.inj (hi.trans hj.symm)
   injection this with a b c
   have a:=S8.Df (show i / 64<8 by omega) (show j / 64<8 by omega) a
   have b:=S8.Df (show i / 8 % 8<8 by omega) (show j / 8 % 8<8 by omega) b
   have c:=S8.Df (show i % 8<8 by omega) (show j % 8<8 by omega) c
   omega
theorem Sl.JV (s:Sl) (x:V) (e:En):s.get (s.put x e)=x:=by
 cases s with
 | mk a b c=>show SN c (KN b (FM a (YB a (YA b (Yz c x (KN b (FM a e))) (FM a e)) e)))=x; rw [Br,Bq,Jt]
theorem Sl.Tb (s s':Sl) (x:V) (e:En) (h:s'≠s):s'.get (s.put x e)=s'.get e:=by
 cases s with
 | mk a b c=>cases s' with
  | mk a' b' c'=>
   show SN c' (KN b' (FM a' (YB a (YA b (Yz c x (KN b (FM a e))) (FM a e)) e)))=SN c' (KN b' (FM a' e))
   by_cases h1:a'=a
   ·subst h1
    rw [Br]
    by_cases h2:b'=b
    ·subst h2
     rw [Bq]
     by_cases h3:c'=c
     ·subst h3; exact absurd rfl h
     ·rw [SO _ _ _ _ h3]
    ·rw [SP _ _ _ _ h2]
   ·rw [SQ _ _ _ _ h1]
def RE (ρ:Rn) (e:En) (e':Env):Prop:=∀ i s,sb i=some s->RV ρ (s.get e) (e' i)
theorem RE.mono {ρ ρ':Rn} {e:En} {e':Env} (h:RE ρ e e') (k:Le ρ ρ'):RE ρ' e e':=λ i s hs=>(h i s hs).mono k
theorem RE.nV {ρ:Rn} {e:En} {e':Env} (h:RE ρ e e') {d:Nat} {s:Sl} (hd:sb d=some s) {v:V} {x:Value} (hv:RV ρ v x):RE ρ (s.put v e) (nV e' d x):=by
 intro i s' hs
 by_cases hi:i=d
 ·subst hi
  have:s'=s:=Option.some.inj (hs.symm.trans hd)
  subst this
  rw [Sl.JV,gN]; exact hv
 rw [Sl.Tb _ _ _ _ λ hh=>hi (JU hs (by rw [hh]; exact hd)),iB _ _ hi]; exact h i s' hs
theorem jQ (ρ:Rn):RV ρ Bp undef:=⟨[],rfl,rfl⟩
theorem RE.pd {ρ:Rn} {e:En} {e':Env} (h:RE ρ e e') {o:Oper} {d:Ds} (hd:De o=some d) {v:V} {x:Value} (hv:RV ρ v x):RE ρ (pd d v e) (fD e' o.dst x):=by
 unfold De at hd
 cases ho:o.dst with
 | none=>rw [ho] at hd; cases hd; exact h
 | some k=>
  rw [ho] at hd
  simp only [Option.map_eq_some_iff] at hd
  obtain ⟨s,hs,rfl⟩:=hd
  exact h.nV hs hv
theorem bE {ρ:Rn} {e:En} {e':Env} (h:RE ρ e e') {x:Operand} {q:Oq} (hq:oq x=some q):RV ρ (dR e q) (ev e' x):=by
 cases x with
 | tmp t=>
  simp only [oq,Option.map_eq_some_iff] at hq
  obtain ⟨s,hs,rfl⟩:=hq
  exact h t s hs
 | const v=>
  simp only [oq,Option.map_eq_some_iff] at hq
  obtain ⟨s,hs,rfl⟩:=hq
  exact j9 hs
 | func f=>cases hq; exact ⟨[],rfl,rfl⟩
 | global g=>cases hq
theorem m3 {ρ:Rn} {e:En} {e':Env} (h:RE ρ e e'):∀ {xs:List Operand} {l:OL},PN xs=some l->gE ρ (KO e l) (xs.map (ev e')):=by
 intro xs
 induction xs with
 | nil=>intro l hl; cases hl; exact (show gE ρ .e [] from rfl)
 | cons x r ih=>
  intro l hl
  unfold PN at hl
  split at hl
  ·rename_i q l' h1 h2; cases hl; exact ⟨_,_,rfl,bE h h1,ih h2⟩
  ·cases hl
def RM (ρ:Rn):ML->List MapEntry->Prop
 | .nil,es=>es=[]
 | .cons k v b r,es=>∃ e pI,es=e::pI/\RV ρ k e.key/\RV ρ v e.val/\e.born=b/\RM ρ r pI
def JW:Nat->LoopState
 | 0=>.ready
 | 1=>.busy
 | _=>.done
def oV:JS->Option Code
 | .no=>none
 | .rt=>some .ret
 | .ex id=>some (.exit id)
structure YL (P:Program) (ρ:Rn) (ps:PS) (e:En) (a b:CC) (L0:Loop):Prop where
 ex:∃ n pl e',L0.state = .ready/\L0.pending=none/\n<=512/\wo L0.params.toList=some ps/\(∀ p∈L0.params.toList,p<n)/\a=fj P n pl L0.assign/\b=fj P n pl L0.body/\
  zV P n pl L0.assign=true/\zV P n pl L0.body=true/\cL L0.assign=false/\cL L0.body=false/\L0.tmps.size=n/\(∀ i,L0.tmps.getD i undef=e' i)/\RE ρ e e'
def Body (P:Program) (ρ:Rn):HB->Pl->Obj->Prop
 | .c n es t,q,o=>∃ cs ty fz,o = .cells (List.toArray cs) ty fz/\(∀ j,j<cs.length->¬ (fz.1<=j/\j<fz.2))/\q.s=es/\q.b+q.c * es<=cs.length/\(0<es->n<=q.c * es)/\q.b+n<=cs.length/\
   ∀ i,i<n->∃ x,cs[q.b+i]? = some x/\RV ρ (sd t i) x/\eK x=true
 | .m c l,_,o=>∃ es,o = .map (List.toArray es) c/\RM ρ l es
 | .it m c st b k,q,o=>q.b=0/\∃ qm,ρ m=some qm/\o = .mapIter (some qm.k) c (if st=0 then #[] else #[b]) k
 | .lp st j ps e a b,_,o=>∃ L0,YL P ρ ps e a b L0/\o = .loop {L0 with state:=JW st,pending:=oV j}
 | .df,_,o=>o = .deferred (some [])
 | _,_,_=>False
theorem RM.mono {ρ ρ':Rn} (h:Le ρ ρ'):∀ {l:ML} {es:List MapEntry},RM ρ l es->RM ρ' l es:=by
 intro l
 induction l with
 | nil=>intro es h; exact h
 | cons k v b r ih=>intro es ⟨e,pI,h1,h2,h3,h4,h5⟩; exact ⟨e,pI,h1,h2.mono h,h3.mono h,h4,ih h5⟩
theorem YL.mono {P:Program} {ρ ρ':Rn} (h:Le ρ ρ') {ps:PS} {e:En} {a b:CC} {L0:Loop} (hh:YL P ρ ps e a b L0):YL P ρ' ps e a b L0:=by
 obtain ⟨n,pl,e',h1,h2,h3,h4,h5,h6,h7,h8,h9,h10,KM,Gr,Gs,EK⟩:=hh.ex
 exact ⟨n,pl,e',h1,h2,h3,h4,h5,h6,h7,h8,h9,h10,KM,Gr,Gs,EK.mono h⟩
theorem Body.mono {P:Program} {ρ ρ':Rn} (h:Le ρ ρ') {hb:HB} {q:Pl} {o:Obj} (hh:Body P ρ hb q o):Body P ρ' hb q o:=by
 cases hb with
 | c n es t=>
  obtain ⟨cs,ty,fz,h1,h2,h3,h4,h5,h6,h7⟩:=hh
  exact ⟨cs,ty,fz,h1,h2,h3,h4,h5,h6,λ i hi=>let ⟨x,a,b,c⟩:=h7 i hi; ⟨x,a,b.mono h,c⟩⟩
 | m c l=>obtain ⟨es,h1,h2⟩:=hh; exact ⟨es,h1,h2.mono h⟩
 | it m c st b k=>obtain ⟨h0,qm,h1,h2⟩:=hh; exact ⟨h0,qm,h _ _ h1,h2⟩
 | lp st j ps e a b=>obtain ⟨L0,h1,h2⟩:=hh; exact ⟨L0,h1.mono h,h2⟩
 | df=>exact hh
 | z=>exact hh
 | x=>exact hh
def live:HB->Prop
 | .z=>False
 | .x=>False
 | _=>True
structure m4 where
 f:Nat->Option Obj
 w:World
def Sm (w w':World):Prop:=w'.os=w.os/\w'.tape=w.tape/\w'.output=w.output
theorem Sm.trans {a b c:World} (h:Sm a b) (k:Sm b c):Sm a c:=⟨k.1.trans h.1,k.2.1.trans h.2.1,k.2.2.trans h.2.2⟩
structure RH (P:Program) (Fr:m4) (ρ:Rn) (h:Hp) (w:World):Prop where
 fresh:∀ b,dH h b = .z->ρ b=none
 lv:∀ b,live (dH h b)->∃ q o,ρ b=some q/\w.heap[q.k]? = some o/\Body P ρ (dH h b) q o
 sep:∀ b b' q q',live (dH h b)->live (dH h b')->b≠b'->ρ b=some q->ρ b'=some q'->q.k≠q'.k
 tT:∀ r o,Fr.f r=some o->w.heap[r]? = some o
 off:∀ b q,live (dH h b)->ρ b=some q->Fr.f q.k=none
 st:Sm Fr.w w
section
variable {P:Program} {Fr:m4} {ρ:Rn} {h:Hp} {w:World}
theorem RH.same {w':World} (hR:RH P Fr ρ h w) (he:w'.heap=w.heap) (hst:Sm w w':=by exact ⟨rfl,rfl,rfl⟩):RH P Fr ρ h w':=
 ⟨hR.fresh,λ b hb=>by rw [he]; exact hR.lv b hb,hR.sep,λ r o hr=>by rw [he]; exact hR.tT r o hr,hR.off,hR.st.trans hst⟩
theorem RH.drew (hR:RH P Fr ρ h w):RH P Fr ρ h (Fw.drew w):=hR.same rfl
theorem RH.sJ {b:Nat} {q:Pl} {hb:HB} {o:Obj} {w':World} (hR:RH P Fr ρ h w) (hl:live (dH h b)) (hq:ρ b=some q) (ho:w'.heap[q.k]? = some o) (hB:Body P ρ hb q o)
  (hw:∀ r o',r≠q.k->w.heap[r]? = some o'->w'.heap[r]? = some o') (hz:hb≠.z:=by exact λ hh=>by cases hh) (hst:Sm w w':=by exact ⟨rfl,rfl,rfl⟩):RH P Fr ρ (ew h hb b) w':=by
 have lv':∀ {b'},b'≠b->live (dH (ew h hb b) b')->live (dH h b'):=λ jV hh=>by rw [gB,if_neg jV] at hh; exact hh
 have lv2:∀ {b'},live (dH (ew h hb b) b')->live (dH h b'):=fun {b'} hh=>by
  by_cases jV:b'=b
  ·subst jV; exact hl
  ·exact lv' jV hh
 refine ⟨λ b' nR=>?_,λ b' nR=>?_,λ b1 b2 q1 q2 h1 h2 jV e1 e2=>hR.sep b1 b2 q1 q2 (lv2 h1) (lv2 h2) jV e1 e2,λ r o' hr=>?_,λ b' q' h1 h2=>hR.off b' q' (lv2 h1) h2,hR.st.trans hst⟩
 ·rw [gB] at nR
  split at nR
  ·exact absurd nR hz
  exact hR.fresh b' nR
 ·by_cases jV:b'=b
  ·subst jV
   rw [gB,if_pos rfl]
   exact ⟨q,o,hq,ho,hB⟩
  have h1:=lv' jV nR
  rw [gB,if_neg jV]
  obtain ⟨q',o',e1,e2,e3⟩:=hR.lv b' h1
  exact ⟨q',o',e1,hw _ _ (hR.sep b' b q' q h1 hl jV e1 hq) e2,e3⟩
 have:r≠q.k:=λ hh=>by rw [hh,hR.off b q hl hq] at hr; cases hr
 exact hw r o' this (hR.tT r o' hr)
theorem RH.kill (hR:RH P Fr ρ h w) (b:Nat):RH P Fr ρ (ew h .x b) w:=by
 have key:∀ {b'},live (dH (ew h .x b) b')->live (dH h b')/\dH (ew h .x b) b'=dH h b':=fun {b'} hh=>by
  rw [gB] at hh |-
  split at hh
  ·exact hh.elim
  ·rename_i jV; rw [if_neg jV]; exact ⟨hh,rfl⟩
 refine ⟨λ b' nR=>?_,λ b' nR=>?_,λ b1 b2 q1 q2 h1 h2 jV e1 e2=>hR.sep b1 b2 q1 q2 (key h1).1 (key h2).1 jV e1 e2,hR.tT,λ b' q' h1 h2=>hR.off b' q' (key h1).1 h2,hR.st⟩
 ·rw [gB] at nR
  split at nR
  ·cases nR
  exact hR.fresh b' nR
 rw [(key nR).2]; exact hR.lv b' (key nR).1
def ext (ρ:Rn) (n:Nat) (q:Pl):Rn:=λ b=>if b=n then some q else ρ b
theorem oW {n:Nat} {q:Pl} (hn:ρ n=none):Le ρ (ext ρ n q):=λ b q' hb=>by
 unfold ext; split
 ·rename_i e; rw [e,hn] at hb; cases hb
 ·exact hb
theorem je (ρ:Rn) (n:Nat) (q:Pl):ext ρ n q n=some q:=if_pos rfl
theorem RH.add {n:Nat} {q:Pl} {hb:HB} {o:Obj} {w':World} (hR:RH P Fr ρ h w) (hn:dH h n = .z) (hk:∀ b q',live (dH h b)->ρ b=some q'->q'.k≠q.k) (hf:Fr.f q.k=none)
  (hw:∀ r o',r≠q.k->w.heap[r]? = some o'->w'.heap[r]? = some o') (ho:w'.heap[q.k]? = some o) (hB:Body P (ext ρ n q) hb q o) (hz:hb≠.z:=by exact λ hh=>by cases hh) (hst:Sm w w':=by exact ⟨rfl,rfl,rfl⟩) :
  RH P Fr (ext ρ n q) (ew h hb n) w':=by
 have le:=oW (q:=q) (hR.fresh n hn)
 have key:∀ {b'},b'≠n->live (dH (ew h hb n) b')->live (dH h b')/\dH (ew h hb n) b'=dH h b':=fun {b'} jV hh=>by
  rw [gB,if_neg jV] at hh |-; exact ⟨hh,rfl⟩
 have back:∀ {b' q'},b'≠n->ext ρ n q b'=some q'->ρ b'=some q':=λ jV hh=>by unfold ext at hh; rwa [if_neg jV] at hh
 refine ⟨λ b' nR=>?_,λ b' nR=>?_,λ b1 b2 q1 q2 h1 h2 jV e1 e2=>?_,λ r o' hr=>?_,λ b' q' h1 h2=>?_,hR.st.trans hst⟩
 ·rw [gB] at nR
  split at nR
  ·exact absurd nR hz
  rename_i jV; unfold ext; rw [if_neg jV]; exact hR.fresh b' nR
 ·by_cases jV:b'=n
  ·subst jV
   rw [gB,if_pos rfl]
   exact ⟨q,o,je _ _ _,ho,hB⟩
  obtain ⟨h1,h2⟩:=key jV nR
  rw [h2]
  obtain ⟨q',o',e1,e2,e3⟩:=hR.lv b' h1
  exact ⟨q',o',le _ _ e1,hw _ _ (hk b' q' h1 e1) e2,e3.mono le⟩
 ·by_cases n1:b1=n
  ·subst n1
   have n2:b2≠b1:=λ hh=>jV hh.symm
   have:=je ρ b1 q
   rw [this] at e1; cases e1
   exact (hk b2 q2 (key n2 h2).1 (back n2 e2)).symm
  by_cases n2:b2=n
  ·subst n2
   have:=je ρ b2 q
   rw [this] at e2; cases e2
   exact hk b1 q1 (key n1 h1).1 (back n1 e1)
  exact hR.sep b1 b2 q1 q2 (key n1 h1).1 (key n2 h2).1 jV (back n1 e1) (back n2 e2)
 ·have:r≠q.k:=λ hh=>by rw [hh,hf] at hr; cases hr
  exact hw r o' this (hR.tT r o' hr)
 by_cases jV:b'=n
 ·subst jV
  have:=je ρ b' q
  rw [this] at h2; cases h2
  exact hf
 exact hR.off b' q' (key jV h1).1 (back jV h2)
theorem RH.new {n:Nat} {q:Pl} {hb:HB} {o:Obj} {w':World} (hR:RH P Fr ρ h w) (hn:dH h n = .z) (hq:q.k=w.heap.size) (hw:w'.heap=w.heap.push o)
  (hB:Body P (ext ρ n q) hb q o) (hz:hb≠.z:=by exact λ hh=>by cases hh) (hst:Sm w w':=by exact ⟨rfl,rfl,rfl⟩):RH P Fr (ext ρ n q) (ew h hb n) w':=by
 refine hR.add hn (λ b q' h1 h2=>?_) ?_ (λ r o' hr ho=>?_) ?_ hB hz hst
 ·obtain ⟨q2,o2,e1,e2,_⟩:=hR.lv b h1
  rw [h2] at e1; cases e1
  have:=(Array.getElem?_eq_some_iff.1 e2).1
  omega
 ·cases hF:Fr.f q.k with
  | none=>rfl
  | some o'=>
   have:=hR.tT _ _ hF
   have:=(Array.getElem?_eq_some_iff.1 this).1
   omega
 ·rw [hw,Array.getElem?_push,if_neg]
  ·exact ho
  have:=(Array.getElem?_eq_some_iff.1 ho).1
  omega
 rw [hw,hq,Array.getElem?_push,if_pos rfl]
theorem Dg {n es:Nat} {t:Tr V} {b:Nat} (hb:dH h b = .c n es t):live (dH h b):=by rw [hb]; trivial
theorem RH.cells {b n es:Nat} {t:Tr V} (hR:RH P Fr ρ h w) (hb:dH h b = .c n es t):∃ q cs ty fz,ρ b=some q/\w.heap[q.k]? = some (.cells (List.toArray cs) ty fz)/\(∀ j,j<cs.length->¬ (fz.1<=j/\j<fz.2))/\
  q.s=es/\q.b+q.c * es<=cs.length/\(0<es->n<=q.c * es)/\q.b+n<=cs.length/\∀ i,i<n->∃ x,cs[q.b+i]? = some x/\RV ρ (sd t i) x/\eK x=true:=by
 obtain ⟨q,o,h1,h2,h3⟩:=hR.lv b (Dg hb)
 rw [hb] at h3
 obtain ⟨cs,ty,fz,rfl,r⟩:=h3
 exact ⟨q,cs,ty,fz,h1,h2,r⟩
theorem cell_of {k o:Nat} {cs:List Value} {ty:TypeId} {fz:Nat × Nat} {x:Value} (hw:w.heap[k]? = some (.cells (List.toArray cs) ty fz)) (hx:cs[o]? = some x):Cell w k o x:=by
 unfold Cell World.cell?
 dsimp only
 rw [hw]
 simpa using hx
theorem zA {k b n:Nat} {cs:List Value} {ty:TypeId} {fz:Nat × Nat} {t:Tr V} (hw:w.heap[k]? = some (.cells (List.toArray cs) ty fz)) (hl:b+n<=cs.length)
  (hc:∀ i,i<n->∃ x,cs[b+i]? = some x/\RV ρ (sd t i) x/\eK x=true) {o m:Nat} (hm:o+m<=n) :
  ∃ xs:List Value,xs.length=m/\xs=(cs.drop (b+o)).take m/\RT ρ t o xs/\(∀ z∈xs,eK z=true)/\∀ j c,xs[j]? = some c->Cell w k (b+o+j) c:=by
 have get:∀ j x,((cs.drop (b+o)).take m)[j]? = some x->j<m/\cs[b+(o+j)]? = some x:=λ j x hx=>by
  have hj:j<m:=by
   have:=(List.getElem?_eq_some_iff.1 hx).1
   rw [List.length_take] at this; omega
  rw [List.getElem?_take_of_lt hj,List.getElem?_drop] at hx
  exact ⟨hj,by rwa [show b+(o+j)=b+o+j from by omega]⟩
 refine ⟨_,by rw [List.length_take,List.length_drop]; omega,rfl,λ j x hx=>?_,λ z hz=>?_,λ j x hx=>?_⟩
 ·obtain ⟨hj,h1⟩:=get j x hx
  obtain ⟨y,h2,h3,_⟩:=hc (o+j) (by omega)
  rw [h1] at h2; cases h2
  exact h3
 ·obtain ⟨j,hj⟩:=List.getElem?_of_mem hz
  obtain ⟨X2,h1⟩:=get j z hj
  obtain ⟨y,h2,_,h3⟩:=hc (o+j) (by omega)
  rw [h1] at h2; cases h2
  exact h3
 obtain ⟨hj,h1⟩:=get j x hx
 exact cell_of hw (by rwa [show b+o+j=b+(o+j) from by omega])
theorem EV {k:Nat} {ty:TypeId} {fz:Nat × Nat}:∀ (vs:List Value) (o i:Nat) (cs:List Value) (w:World),w.heap[k]? = some (.cells (List.toArray cs) ty fz)->(∀ j,j<cs.length->¬ (fz.1<=j/\j<fz.2))->
  o+i+vs.length<=cs.length->(∀ v∈vs,eK v=true)->
  ∃ w',(storeCells ⟨k,o,none⟩ vs i).run P w = .ok () w'/\w'.heap[k]? = some (.cells (List.toArray (eS cs (o+i) vs)) ty fz)/\(∀ r o',r≠k->w.heap[r]? = some o'->w'.heap[r]? = some o')/\Sm w w':=by
 intro vs
 induction vs with
 | nil=>intro o i cs w hw _ _ _; exact ⟨w,rfl,hw,λ _ _ _ h=>h,rfl,rfl,rfl⟩
 | cons v r ih=>
  intro o i cs w hw hz hl hv
  have hl':o+i+(r.length+1)<=cs.length:=by simpa using hl
  have hv1:=hv v (by simp)
  have h1:(store ⟨k,o+i,none⟩ v).run P w = .ok () (w.setCell ⟨k,o+i,none⟩ v):=by
   have c1:w.cell? ⟨k,o+i,none⟩=some cs[o+i]:=cell_of hw (by simp)
   have c2:w.frozen? ⟨k,o+i,none⟩=false:=by
    unfold World.frozen?
    dsimp only
    rw [hw]
    have:=hz (o+i) (by omega)
    simp only [Bool.and_eq_false_imp,decide_eq_true_eq]
    intro h; simp; omega
   unfold store
   cases v <;> first | cases hv1 | skip
   all_goals
    simp only [Sem.run,c1,c2]
    rfl
  have WX:(w.setCell ⟨k,o+i,none⟩ v).heap[k]? = some (.cells (List.toArray (cs.set (o+i) v)) ty fz):=by
   simp only [World.setCell,Array.getElem?_modify,if_true,hw]
   simp
  obtain ⟨w',h2,h3,h4,h5⟩:=ih o (i+1) (cs.set (o+i) v) _ WX (λ j hj=>hz j (by simpa using hj)) (by simp; omega) (λ x hx=>hv x (by simp [hx]))
  refine ⟨w',?_,by rw [show o+(i+1)=o+i+1 from by omega] at h3; exact h3,λ r' o' hr ho=>h4 r' o' hr (by rw [qP _ _ _ _ _ hr]; exact ho),h5⟩
  show (do store ((Addr.mk k o none).add i) v; storeCells ⟨k,o,none⟩ r (i+1):Sem Unit).run P w=_
  rw [dG,aY h1,h2]
theorem nD:∀ (vs:List Value) (cs:List Value) (o j:Nat),o+vs.length<=cs.length->(j<o\/o+vs.length<=j->(eS cs o vs)[j]? = cs[j]?)/\∀ i,i<vs.length->(eS cs o vs)[o+i]? = vs[i]?:=by
 intro vs
 induction vs with
 | nil=>intro cs o j _; exact ⟨λ _=>rfl,λ i hi=>by simp at hi⟩
 | cons v r ih=>
  intro cs o j hl
  have hl':o+(r.length+1)<=cs.length:=by simpa using hl
  obtain ⟨a,b⟩:=ih (cs.set o v) (o+1) j (by simp; omega)
  refine ⟨λ hj=>?_,λ i hi=>?_⟩
  ·have X2:j<o\/o+(r.length+1)<=j:=by simpa using hj
   have e:(eS (cs.set o v) (o+1) r)[j]? = (cs.set o v)[j]?:=a (by omega)
   exact e.trans (List.getElem?_set_ne (by omega))
  ·cases i with
   | zero=>
    have:=(ih (cs.set o v) (o+1) o (by simp; omega)).1 (.inl (by omega))
    refine (show (eS cs o (v::r))[o+0]? = (cs.set o v)[o]? from this).trans ?_
    rw [List.getElem?_set_self (by omega)]; rfl
   | succ i=>
    have:=b i (by simpa using hi)
    rw [show o+(i+1)=o+1+i from by omega]
    exact this.trans (by simp)
theorem Dh {b n o:Nat} {cs:List Value} {t:Tr V} {l:V} {vs:List Value} (hl:b+n<=cs.length) (hc:∀ i,i<n->∃ x,cs[b+i]? = some x/\RV ρ (sd t i) x/\eK x=true)
  (hv:gE ρ l vs) (lX:∀ v∈vs,eK v=true) (hm:o+vs.length<=n) :
  ∀ i,i<n->∃ x,(eS cs (b+o) vs)[b+i]? = some x/\RV ρ (sd (qa l o t) i) x/\eK x=true:=by
 intro i hi
 obtain ⟨a,c⟩:=nD vs cs (b+o) (b+i) (by omega)
 obtain ⟨a',c'⟩:=uI hv o t i
 by_cases h1:i<o\/o+vs.length<=i
 ·rw [a (by omega),a' h1]; exact hc i hi
 obtain ⟨x,hx⟩:∃ x,vs[i - o]? = some x:=⟨_,List.getElem?_eq_getElem (by omega)⟩
 refine ⟨x,?_,c' _ x hx (by omega),lX x (List.mem_of_getElem? hx)⟩
 have:=c (i - o) (by omega)
 rw [show b+o+(i - o)=b+i from by omega] at this
 rw [this,hx]
end
section
variable {v0 v:V} {h0 h:Hp} {n0 n:Nat}
theorem cP {c:Bool} {a:OR} (hh:dM c a .no = .ok v h n):c=true/\a = .ok v h n:=by cases c <;> first | exact ⟨rfl,hh⟩ | cases hh
theorem ed {a b:Bool} (hh:dI a b=true):a=true/\b=true:=by cases a <;> cases b <;> first | exact ⟨rfl,rfl⟩ | cases hh
theorem eW {a b:Nat} (hh:Nat.beq a b=true):a=b:=Nat.eq_of_beq_eq_true hh
theorem dV {a b:Nat} (hh:Nat.ble a b=true):a<=b:=Nat.le_of_ble_eq_true hh
theorem mC {a b:Nat} (hh:Nat.blt a b=true):a<b:=by rw [Nat.blt_eq] at hh; exact hh
theorem okB {k:Bool->OR} (hh:v0.FP .no k = .ok v h n):∃ b,v0 = .b b/\k b = .ok v h n:=by
 rcases V.sg v0 .no k with e | ⟨b,e1,e2⟩
 ·rw [e] at hh; cases hh
 exact ⟨b,e1,e2▸hh⟩
theorem okI {k:IntKind->Int->OR} (hh:v0.FQ .no k = .ok v h n):∃ t b,v0 = .i t b/\k t b = .ok v h n:=by
 rcases V.uD v0 .no k with e | ⟨t,b,e1,e2⟩
 ·rw [e] at hh; cases hh
 exact ⟨t,b,e1,e2▸hh⟩
theorem Tc {k:Nat->Nat->OR} (hh:v0.Bt .no k = .ok v h n):∃ t b,v0 = .s t b/\k t b = .ok v h n:=by
 rcases V.uE v0 .no k with e | ⟨t,b,e1,e2⟩
 ·rw [e] at hh; cases hh
 exact ⟨t,b,e1,e2▸hh⟩
theorem M6 {k:Nat->Nat->OR} (hh:v0.KP .no k = .ok v h n):∃ t b,v0 = .p t b/\k t b = .ok v h n:=by
 rcases V.MK v0 .no k with e | ⟨t,b,e1,e2⟩
 ·rw [e] at hh; cases hh
 exact ⟨t,b,e1,e2▸hh⟩
theorem okA {k:V->OR} (hh:v0.Ju .no k = .ok v h n):∃ b,v0 = .a b/\k b = .ok v h n:=by
 rcases V.zn v0 .no k with e | ⟨b,e1,e2⟩
 ·rw [e] at hh; cases hh
 exact ⟨b,e1,e2▸hh⟩
theorem YM {k:V->OR} (hh:v0.KQ .no k = .ok v h n):∃ b,v0 = .t b/\k b = .ok v h n:=by
 rcases V.zo v0 .no k with e | ⟨b,e1,e2⟩
 ·rw [e] at hh; cases hh
 exact ⟨b,e1,e2▸hh⟩
theorem YN {k:Nat->OR} (hh:v0.zp .no k = .ok v h n):∃ b,v0 = .m b/\k b = .ok v h n:=by
 rcases V.zq v0 .no k with e | ⟨b,e1,e2⟩
 ·rw [e] at hh; cases hh
 exact ⟨b,e1,e2▸hh⟩
theorem xg {d k0 k3:OR} {k1 k2:Nat->Nat->Nat->Nat->OR} (hh:v0.n6 d k0 k1 k2 k3 = .ok v h n):d = .ok v h n\/(v0 = .ns/\k0 = .ok v h n)\/(∃ b o l c,v0 = .sl b o l c/\k1 b o l c = .ok v h n)\/
  (∃ b o l c,v0 = .sx b o l c/\k2 b o l c = .ok v h n)\/(v0 = .se/\k3 = .ok v h n):=by
 rcases V.Jy v0 d k0 k1 k2 k3 with e | ⟨e1,e2⟩ | ⟨b,o,l,c,e1,e2⟩ | ⟨b,o,l,c,e1,e2⟩ | ⟨e1,e2⟩
 ·exact .inl (e▸hh)
 ·exact .inr (.inl ⟨e1,e2▸hh⟩)
 ·exact .inr (.inr (.inl ⟨b,o,l,c,e1,e2▸hh⟩))
 ·exact .inr (.inr (.inr (.inl ⟨b,o,l,c,e1,e2▸hh⟩)))
 exact .inr (.inr (.inr (.inr ⟨e1,e2▸hh⟩)))
theorem zB {m:Int} {k:Nat->OR} (hh:MX m k = .ok v h n):∃ j:Nat,m=(j:Int)/\k j = .ok v h n:=by
 cases m with
 | ofNat j=>exact ⟨j,rfl,hh⟩
 | negSucc j=>cases hh
theorem nE {k:Nat->OR} (hh:Bv v0 k = .ok v h n):∃ (t:IntKind) (j:Nat),v0 = .i t (j:Int)/\k j = .ok v h n:=by
 obtain ⟨t,b,e,hh⟩:=okI hh
 obtain ⟨j,e2,hh⟩:=zB hh
 exact ⟨t,j,by rw [e,e2],hh⟩
theorem YO {k0:OR} {k:IntKind->Int->OR} (hh:v0.FR .no k0 k = .ok v h n):(v0 = .e/\k0 = .ok v h n)\/∃ t b,v0 = .i t b/\k t b = .ok v h n:=by
 rcases V.Jz v0 .no k0 k with e | ⟨e1,e2⟩ | ⟨t,b,e1,e2⟩
 ·rw [e] at hh; cases hh
 ·exact .inl ⟨e1,e2▸hh⟩
 exact .inr ⟨t,b,e1,e2▸hh⟩
theorem ki {x:Nat} {k:Nat->OR} (hh:wc v0 x k = .ok v h n):∃ j,k j = .ok v h n/\((v0 = .e/\j=x)\/∃ t,v0 = .i t (j:Int)):=by
 rcases YO hh with ⟨e,hh⟩ | ⟨t,b,e,hh⟩
 ·exact ⟨x,hh,.inl ⟨e,rfl⟩⟩
 obtain ⟨j,e2,hh⟩:=zB hh
 exact ⟨j,hh,.inr ⟨t,by rw [e,e2]⟩⟩
theorem iR {b:Nat} {k:Nat->Nat->Tr V->OR} (hh:qb h0 b k = .ok v h n):∃ m es t,dH h0 b = .c m es t/\k m es t = .ok v h n:=by
 rcases HB.MQ (dH h0 b) .no k with e | ⟨m,es,t,e1,e2⟩
 ·rw [show qb h0 b k=_ from e] at hh; cases hh
 exact ⟨m,es,t,e1,e2▸hh⟩
theorem kC {hb:HB} {k:Hp->OR} (hh:alloc hb h0 n0 k = .ok v h n):dH h0 n0 = .z/\k (ew h0 hb n0) = .ok v h n:=by
 rcases HB.MR (dH h0 n0) .no (k (ew h0 hb n0)) with e | ⟨e1,e2⟩
 ·rw [show alloc hb h0 n0 k=_ from e] at hh; cases hh
 exact ⟨e1,e2▸hh⟩
theorem Di {r:HB} {k:Nat->ML->OR} (hh:r.zp .no k = .ok v h n):∃ c l,r = .m c l/\k c l = .ok v h n:=by
 rcases HB.zq r .no k with e | ⟨c,l,e1,e2⟩
 ·rw [e] at hh; cases hh
 exact ⟨c,l,e1,e2▸hh⟩
theorem YP {r:HB} {k:Nat->Nat->Nat->Nat->Nat->OR} (hh:r.KQ .no k = .ok v h n):∃ a b c d e,r = .it a b c d e/\k a b c d e = .ok v h n:=by
 rcases HB.zo r .no k with e | ⟨a,b,c,d,f,e1,e2⟩
 ·rw [e] at hh; cases hh
 exact ⟨a,b,c,d,f,e1,e2▸hh⟩
theorem bX {v v':V} {h h':Hp} {n n':Nat} (hh:OR.ok v h n = .ok v' h' n'):v=v'/\h=h'/\n=n':=by injection hh with a b c; exact ⟨a,b,c⟩
end
def jg (P:Program) (Fr:m4) (ρ:Rn) (v:V) (h:Hp):Value->World->Prop:=λ y w'=>∃ ρ',Le ρ ρ'/\RH P Fr ρ' h w'/\RV ρ' v y
section
variable {P:Program} {Fr:m4} {ρ:Rn} {h h':Hp} {w:World} {v:V} {n n':Nat} {e:En} {e':Env}
theorem RH.post (hR:RH P Fr ρ h w) {y:Value} (hv:RV ρ v y):jg P Fr ρ v h y w:=⟨ρ,Le.refl ρ,hR,hv⟩
theorem iS {m:Sem Value} {y:Value} (hp:pr P m=some y) (hR:RH P Fr ρ h w) (hv:RV ρ v y):dW P m λ y=>jg P Fr ρ v h y w:=⟨y,hp,hR.post hv⟩
theorem JX {m:Sem Value} {y:Value} (hp:m.run P w = .ok y w) (hR:RH P Fr ρ h w) (hv:RV ρ v y):yj P m w λ y=>jg P Fr ρ v h y w:=⟨y,hp,hR.post hv⟩
theorem wy {k:OK} {x:Value} (hv:RV ρ v x) {u:V} (hh:v.cells .no k = .ok u h n):∃ l,k l = .ok u h n/\gE ρ l x.cells.toList/\∀ z∈x.cells.toList,eK z=true:=by
 cases v with
 | a l=>
  obtain ⟨ys,h1,h2,rfl⟩:=hv
  exact ⟨l,hh,by simpa [Value.cells] using h1,by simpa [Value.cells] using h2⟩
 | t l=>cases hh
 | e=>cases hh
 | c x r=>cases hh
 | b x=>subst hv; exact ⟨_,hh,⟨_,_,rfl,rfl,rfl⟩,by simp [Value.cells,eK]⟩
 | i k x=>subst hv; exact ⟨_,hh,⟨_,_,rfl,rfl,rfl⟩,by simp [Value.cells,eK]⟩
 | s k x=>subst hv; exact ⟨_,hh,⟨_,_,rfl,rfl,rfl⟩,by simp [Value.cells,eK]⟩
 | np=>subst hv; exact ⟨_,hh,⟨_,_,rfl,rfl,rfl⟩,by simp [Value.cells,eK]⟩
 | ns=>subst hv; exact ⟨_,hh,⟨_,_,rfl,rfl,rfl⟩,by simp [Value.cells,eK]⟩
 | nm=>subst hv; exact ⟨_,hh,⟨_,_,rfl,rfl,rfl⟩,by simp [Value.cells,eK]⟩
 | nf=>subst hv; exact ⟨_,hh,⟨_,_,rfl,rfl,rfl⟩,by simp [Value.cells,eK]⟩
 | p b o=>have pB:=hv; obtain ⟨q,_,rfl⟩:=hv; exact ⟨_,hh,⟨_,_,rfl,pB,rfl⟩,by simp [Value.cells,eK]⟩
 | sl b o l d=>have pB:=hv; obtain ⟨q,_,_,rfl⟩:=hv; exact ⟨_,hh,⟨_,_,rfl,pB,rfl⟩,by simp [Value.cells,eK]⟩
 | sx b o l d=>have pB:=hv; obtain ⟨q,_,_,rfl⟩:=hv; exact ⟨_,hh,⟨_,_,rfl,pB,rfl⟩,by simp [Value.cells,eK]⟩
 | se=>have pB:=hv; obtain ⟨a,c,rfl⟩:=hv; exact ⟨_,hh,⟨_,_,rfl,pB,rfl⟩,by simp [Value.cells,eK]⟩
 | m r=>have pB:=hv; obtain ⟨q,_,rfl⟩:=hv; exact ⟨_,hh,⟨_,_,rfl,pB,rfl⟩,by simp [Value.cells,eK]⟩
 | f g c=>have pB:=hv; obtain ⟨q,_,rfl⟩:=hv; exact ⟨_,hh,⟨_,_,rfl,pB,rfl⟩,by simp [Value.cells,eK]⟩
 | y l=>have pB:=hv; obtain ⟨q,_,rfl⟩:=hv; exact ⟨_,hh,⟨_,_,rfl,pB,rfl⟩,by simp [Value.cells,eK]⟩
theorem YQ {q:Oq} {T:TypeId} {x:Value} (ht:Ff P T) (hR:RH P Fr ρ h w) (hx:RV ρ (dR e q) x) (hh:MY e h n q = .ok v h' n'):yj P (Instr.loadAt T x) w λ y=>jg P Fr ρ v h' y w:=by
 obtain ⟨b,o,e1,hh⟩:=M6 hh
 obtain ⟨m,es,t,hb,hh⟩:=iR hh
 obtain ⟨fS,hh⟩:=cP hh
 rw [V.nS] at hh
 obtain ⟨rfl,rfl,_⟩:=bX hh
 rw [e1] at hx
 obtain ⟨q,h1,rfl⟩:=hx
 obtain ⟨q',cs,ty,fz,g1,g2,_,_,_,_,_,g8⟩:=hR.cells hb
 rw [h1] at g1; cases g1
 obtain ⟨y,g9,g10,_⟩:=g8 o (mC fS)
 exact JX (aH ht (cell_of g2 g9)) hR g10
theorem PQ {q:Oq} {T:TypeId} {x:Value} {k:Nat} (ht:GY P T k) (hR:RH P Fr ρ h w) (hx:RV ρ (dR e q) x) (hh:EP e h n k q = .ok v h' n'):yj P (Instr.loadAt T x) w λ y=>jg P Fr ρ v h' y w:=by
 obtain ⟨b,o,e1,hh⟩:=M6 hh
 obtain ⟨m,es,t,hb,hh⟩:=iR hh
 obtain ⟨hle,hh⟩:=cP hh
 obtain ⟨rfl,rfl,_⟩:=bX hh
 rw [e1] at hx
 obtain ⟨q,h1,rfl⟩:=hx
 obtain ⟨q',cs,ty,fz,g1,g2,_,_,_,_,g7,g8⟩:=hR.cells hb
 rw [h1] at g1; cases g1
 obtain ⟨xs,k1,_,k3,k4,k5⟩:=zA (w:=w) g2 g7 g8 (show o+k<=m from dV hle)
 exact JX (oz (by rw [k1]; exact ht) k5) hR ⟨xs,k3.rd k1,k4,rfl⟩
theorem adQ {q:Oq} {s f off:Nat} {x:Value} (ht:oy P s f off) (hR:RH P Fr ρ h w) (hx:RV ρ (dR e q) x) (hh:YG e h n off q = .ok v h' n'):dW P (Instr.fieldAt s x f) λ y=>jg P Fr ρ v h' y w:=by
 obtain ⟨b,o,e1,hh⟩:=M6 hh
 obtain ⟨rfl,rfl,_⟩:=bX hh
 rw [e1] at hx
 obtain ⟨q,h1,rfl⟩:=hx
 exact iS (uT ht) hR ⟨q,h1,by rw [Nat.add_assoc]; rfl⟩
theorem YR {q:Oq} {x:Value} (hR:RH P Fr ρ h w) (hx:RV ρ (dR e q) x) (hh:Bw e h n q = .ok v h' n'):dW P (Cg x) λ y=>jg P Fr ρ v h' y w:=by
 rcases V.Jx (dR e q) .no (λ b o=>OR.ok (.p b o) h n) (λ g c=>OR.ok (.f g c) h n) with e1 | ⟨b,o,e1,e2⟩ | ⟨g,c,e1,e2⟩
 ·rw [show Bw e h n q=_ from e1] at hh; cases hh
 ·rw [show Bw e h n q=_ from e2] at hh
  obtain ⟨rfl,rfl,_⟩:=bX hh
  rw [e1] at hx
  have GB:=hx
  obtain ⟨q,h1,rfl⟩:=hx
  exact iS rfl hR GB
 rw [show Bw e h n q=_ from e2] at hh
 obtain ⟨rfl,rfl,_⟩:=bX hh
 rw [e1] at hx
 have GB:=hx
 obtain ⟨ys,h1,rfl⟩:=hx
 exact iS rfl hR GB
theorem Td {c a b:Oq} {x y z:Value} (hR:RH P Fr ρ h w) (hx:RV ρ (dR e c) x) (hy:RV ρ (dR e a) y) (hz:RV ρ (dR e b) z) (hh:JI e h n c a b = .ok v h' n'):dW P (DG x y z) λ y=>jg P Fr ρ v h' y w:=by
 obtain ⟨t,e1,hh⟩:=okB hh
 rw [e1] at hx
 obtain rfl:x = .bool t:=hx
 cases t with
 | true=>change (dR e a).fc (λ v=>.ok v h n)=_ at hh; rw [V.nS] at hh; obtain ⟨rfl,rfl,_⟩:=bX hh; exact iS rfl hR hy
 | false=>change (dR e b).fc (λ v=>.ok v h n)=_ at hh; rw [V.nS] at hh; obtain ⟨rfl,rfl,_⟩:=bX hh; exact iS rfl hR hz
theorem YS {q:Oq} {x:Value} (hR:RH P Fr ρ h w) (hx:RV ρ (dR e q) x) (hh:Pr e h n q = .ok v h' n'):dW P (Op.unary .not x) λ y=>jg P Fr ρ v h' y w:=by
 obtain ⟨t,e1,hh⟩:=okB hh
 obtain ⟨rfl,rfl,_⟩:=bX hh
 rw [e1] at hx
 obtain rfl:x = .bool t:=hx
 exact iS (y:=.bool (!t)) rfl hR (show _=_ by rw [nz])
theorem PR {q:Oq} {f:Value->Sem Value} {x:Value} (hR:RH P Fr ρ h w) (hx:RV ρ (dR e q) x) (hh:(S1 P f (dR e q) λ v=>.ok v h n) = .ok v h' n'):dW P (f x) λ y=>jg P Fr ρ v h' y w:=by
 unfold S1 at hh
 cases h1:Ud (dR e q) with
 | none=>rw [h1] at hh; cases hh
 | some a=>
  rw [h1] at hh
  dsimp only at hh
  have:x=a:=(pq (dR e q)).1 _ _ h1 hx
  subst this
  cases h2:pr P (f x) with
  | none=>rw [h2] at hh; cases hh
  | some r=>
   rw [h2] at hh
   dsimp only [Ue] at hh
   cases h3:mX r with
   | none=>rw [h3] at hh; cases hh
   | some u=>
    rw [h3] at hh
    obtain ⟨rfl,rfl,_⟩:=bX hh
    exact iS h2 hR (j9 h3)
theorem Dj {q:OL} {f:List Value->Sem Value} {xs:List Value} (hR:RH P Fr ρ h w) (hx:gE ρ (KO e q) xs) (hh:(JG P f (KO e q) λ v=>.ok v h n) = .ok v h' n'):dW P (f xs) λ y=>jg P Fr ρ v h' y w:=by
 unfold JG at hh
 cases h1:(xd (KO e q)).2 with
 | none=>rw [h1] at hh; cases hh
 | some a=>
  rw [h1] at hh
  dsimp only at hh
  have:xs=a:=(pq (KO e q)).2 _ _ h1 hx
  subst this
  cases h2:pr P (f xs) with
  | none=>rw [h2] at hh; cases hh
  | some r=>
   rw [h2] at hh
   dsimp only [Ue] at hh
   cases h3:mX r with
   | none=>rw [h3] at hh; cases hh
   | some u=>
    rw [h3] at hh
    obtain ⟨rfl,rfl,_⟩:=bX hh
    exact iS h2 hR (j9 h3)
theorem YT {q:Oq} {i:Nat} {x:Value} (hR:RH P Fr ρ h w) (hx:RV ρ (dR e q) x) (hh:Px e h n i q = .ok v h' n'):dW P (Instr.extract x i) λ y=>jg P Fr ρ v h' y w:=by
 obtain ⟨l,e1,hh⟩:=YM hh
 rw [e1] at hx
 obtain ⟨ys,h1,rfl⟩:=hx
 rcases te (k:=λ v=>v.fc λ v=>.ok v h n) i h1 with h2 | ⟨u,x,h2,h3,h4⟩
 ·rw [h2] at hh; cases hh
 rw [h2,V.nS] at hh
 obtain ⟨rfl,rfl,_⟩:=bX hh
 obtain ⟨y,p1,p2⟩:=(bI (P:=P) (K:=λ y=>y=x) h3 rfl).ex
 exact iS p1 hR (p2▸h4)
theorem YU {q lo hi:Oq} {T:TypeId} {x:Value} {ol oh:Option Operand} (hT:P.underlying T=some .string) (hR:RH P Fr ρ h w) (hE:RE ρ e e') (hx:RV ρ (dR e q) x)
  (Te:KR ol=some lo) (YV:KR oh=some hi) (hh:Pw e h n q lo hi = .ok v h' n'):dW P (Instr.sliceAt T x (ol.map (ev e')) (oh.map (ev e')) none) λ y=>jg P Fr ρ v h' y w:=by
 obtain ⟨c,l,e1,hh⟩:=Tc hh
 obtain ⟨k,hh,hk⟩:=ki hh
 obtain ⟨j,hh,hj⟩:=ki hh
 obtain ⟨hc,hh⟩:=cP hh
 obtain ⟨pH,Gm⟩:=ed hc
 have pH:=dV pH
 have Gm:=dV Gm
 obtain ⟨rfl,rfl,_⟩:=bX hh
 rw [e1] at hx
 obtain rfl:x = .string (strOf c l):=hx
 have bnd:∀ {o:Option Operand} {q:Oq} {d i:Nat},KR o=some q->((dR e q = .e/\i=d)\/∃ t,dR e q = .i t (i:Int))->(o=none/\i=d)\/∃ t,o.map (ev e')=some (.int t (i:Int)):=by
  intro o q d i ho hi
  cases o with
  | none=>
   cases ho
   rcases hi with ⟨_,hi⟩ | ⟨t,hi⟩
   ·exact .inl ⟨rfl,hi⟩
   ·cases hi
  | some y=>
   have:=bE hE (q:=q) ho
   rcases hi with ⟨hi,_⟩ | ⟨t,hi⟩
   ·rw [hi] at this; exact this.elim
   ·rw [hi] at this; exact .inr ⟨t,congrArg some this⟩
 have pb:∀ {t:IntKind} {y i:Nat} {code:BoundsCode},i<=y->pr P (Instr.sliceBound (.int t (i:Int)) y code)=some i:=by
  intro t y i code hi
  show pr P (if 0<=(i:Int)/\(i:Int)<=(y:Int) then pure ((i:Int)).toNat else _)=_
  rw [if_pos ⟨by omega,by omega⟩]; rfl
 have hb:pr P (Instr.sliceBounds false (strOf c l).size (strOf c l).size (ol.map (ev e')) (oh.map (ev e')) none)=some (j,k,l):=by
  rw [dE]
  rcases bnd YV hk with ⟨rfl,rfl⟩ | ⟨t,e2⟩
  ·rcases bnd Te hj with ⟨rfl,rfl⟩ | ⟨t',e3⟩
   ·rfl
   ·rw [e3]
    simp only [Instr.sliceBounds,aU,dF,Option.bind_some,Option.map_none]
    rw [pb (by omega)]; rfl
  ·rw [e2]
   rcases bnd Te hj with ⟨rfl,rfl⟩ | ⟨t',e3⟩
   ·simp only [Instr.sliceBounds,aU,dF,Option.bind_some,Option.map_none]
    rw [pb (by omega)]; rfl
   ·rw [e3]
    simp only [Instr.sliceBounds,aU,dF,Option.bind_some]
    rw [pb (by omega)]
    simp only [Option.bind_some]
    rw [pb (by omega)]; rfl
 refine iS (y:=.string ((strOf c l).extract j k)) ?_ hR (show _=_ by rw [<- FY pH Gm]; rfl)
 unfold Instr.sliceAt
 rw [aU,aS hT]
 simp only [Option.bind_some]
 unfold Instr.slice
 rw [aU,aS hT]
 simp only [Option.bind_some]
 rw [if_neg (by decide),aU,hb]; rfl
theorem YW {q i:Oq} {T:TypeId} {x y:Value} (hT:P.underlying T=some .string) (hR:RH P Fr ρ h w) (hx:RV ρ (dR e q) x) (hy:RV ρ (dR e i) y) (hh:Pu e h n q i = .ok v h' n'):dW P (Instr.index T x y) λ y=>jg P Fr ρ v h' y w:=by
 obtain ⟨t,j,e1,hh⟩:=nE hh
 obtain ⟨c,l,e2,hh⟩:=Tc hh
 obtain ⟨fS,hh⟩:=cP hh
 have fS:=mC fS
 obtain ⟨rfl,rfl,_⟩:=bX hh
 rw [e1] at hy
 rw [e2] at hx
 obtain rfl:y = .int t (j:Int):=hy
 obtain rfl:x = .string (strOf c l):=hx
 have hs:(strOf c l)[j]? = some (jd c j):=by
  have:=jn (n:=c) fS
  rw [LZ] at this
  by_cases hj:j<(strOf c l).size
  ·rw [dif_pos hj] at this; rw [ByteArray.getElem?_lt' _ _ hj,this]
  ·rw [dE] at hj; exact absurd fS hj
 refine iS (y:=.int .u8 ((jd c j).toNat:Int)) ?_ hR (show _=_ by
  rw [eQ]
  show Value.int .u8 _=Value.int .u8 ((c >>> (8 * j) % 256:Nat):Int)
  rw [Nat.shiftRight_eq_div_pow])
 have h3:(if 0<=(j:Int) then (strOf c l)[(j:Int).toNat]? else none)=some (jd c j):=by rw [if_pos (by omega)]; exact hs
 unfold Instr.index
 simp only [asIntOf,aU,aS hT,Option.bind_some,dF,h3]
theorem adS {q i:Oq} {T E es:Nat} {x y:Value} (hT:P.underlying T=some (.slice E)) (hs:lW P E=es) (h1:1<=es) (hR:RH P Fr ρ h w) (hx:RV ρ (dR e q) x) (hy:RV ρ (dR e i) y) (hh:YH e h n es q i = .ok v h' n') :
  dW P (Instr.indexAt T x y) λ y=>jg P Fr ρ v h' y w:=by
 have iU:pr P (sizeOf E)=some es:=by
  unfold lW at hs
  cases hi:P.info? E with
  | none=>rw [hi] at hs; simp at hs; omega
  | some inf=>rw [hi] at hs; rw [fC hi]; simpa using hs
 obtain ⟨t,j,e1,hh⟩:=nE hh
 rw [e1] at hy
 obtain rfl:y = .int t (j:Int):=hy
 have key:∀ {b o l:Nat} {q:Pl} {c:Nat},j<l->ρ b=some q->v = .p b (o+j * es)->dW P (Instr.indexAt T (.slice (some ⟨q.k,q.b+o,none⟩) l c) (.int t (j:Int))) λ y=>jg P Fr ρ v h y w:=by
  intro b o l q c fS hb hv
  refine iS (y:=.pointer (some ⟨q.k,q.b+o+j * es,none⟩)) ?_ hR (by rw [hv]; exact ⟨q,hb,by rw [Nat.add_assoc]⟩)
  unfold Instr.indexAt
  simp only [asIntOf,aU,aS hT,Option.bind_some,dF]
  rw [if_pos (show 0<=(j:Int)/\(j:Int)<(l:Int) by omega),aU,iU]
  show some (Value.pointer (some ((⟨q.k,q.b+o,none⟩:Addr).add ((j:Int).toNat * es))))=_
  rw [dG]; rfl
 rcases xg hh with hh | ⟨_,hh⟩ | ⟨b,o,l,c,e2,hh⟩ | ⟨b,o,l,c,e2,hh⟩ | ⟨_,hh⟩
 ·cases hh
 ·cases hh
 ·obtain ⟨fS,hh⟩:=cP hh
  obtain ⟨rfl,rfl,_⟩:=bX hh
  rw [e2] at hx
  obtain ⟨q,hb,_,rfl⟩:=hx
  exact key (mC fS) hb rfl
 ·obtain ⟨fS,hh⟩:=cP hh
  obtain ⟨rfl,rfl,_⟩:=bX hh
  rw [e2] at hx
  obtain ⟨q,hb,_,rfl⟩:=hx
  exact key (mC fS) hb rfl
 cases hh
theorem YX {q i:Oq} {T E es k:Nat} {x y:Value} (hT:P.underlying T=some (.array k E)) (hs:lW P E=es) (h1:1<=es) (hR:RH P Fr ρ h w) (hx:RV ρ (dR e q) x) (hy:RV ρ (dR e i) y) (hh:Ps e h n k es q i = .ok v h' n') :
  dW P (Instr.indexAt T x y) λ y=>jg P Fr ρ v h' y w:=by
 have iU:pr P (sizeOf E)=some es:=by
  unfold lW at hs
  cases hi:P.info? E with
  | none=>rw [hi] at hs; simp at hs; omega
  | some inf=>rw [hi] at hs; rw [fC hi]; simpa using hs
 obtain ⟨t,j,e1,hh⟩:=nE hh
 rw [e1] at hy
 obtain rfl:y = .int t (j:Int):=hy
 obtain ⟨b,o,e2,hh⟩:=M6 hh
 obtain ⟨fS,hh⟩:=cP hh
 have fS:=mC fS
 obtain ⟨rfl,rfl,_⟩:=bX hh
 rw [e2] at hx
 obtain ⟨q,hb,rfl⟩:=hx
 refine iS (y:=.pointer (some ⟨q.k,q.b+o+j * es,none⟩)) ?_ hR ⟨q,hb,by rw [Nat.add_assoc]; rfl⟩
 unfold Instr.indexAt
 simp only [asIntOf,aU,aS hT,Option.bind_some,dF,Instr.sureAddr]
 rw [if_pos (show 0<=(j:Int)/\(j:Int)<(k:Int) by omega),aU,iU]
 show some (Value.pointer (some ((⟨q.k,q.b+o,none⟩:Addr).add ((j:Int).toNat * es))))=_
 rw [dG]; rfl
end
section
variable {P:Program} {Fr:m4} {ρ:Rn} {h h':Hp} {w:World} {v:V} {n n':Nat} {e:En} {e':Env}
theorem PU (k:OK) (t:IntKind) (m:Int):kI k t m=k (.i t m):=by cases m <;> rfl
theorem nT (k:OK) (b:Bool):kB k b=k (.b b):=by cases b <;> rfl
theorem YY (k:OK) (a b:Nat):kS k a b=k (.s a b):=by unfold kS; cases Nat.ble a 0 <;> rfl
def qG (P:Program) (ρ:Rn) (m:Sem Value) (d:OR) (c:OK) (r:OR):Prop:=r=d\/r = .no\/∃ u y,r=c u/\pr P m=some y/\RV ρ u y
theorem qG.yes {m:Sem Value} {d:OR} {c:OK} {u:V} {y:Value} (hp:pr P m=some y) (hv:RV ρ u y):qG P ρ m d c (c u):=.inr (.inr ⟨u,y,rfl,hp,hv⟩)
theorem F3 {op:BinOp} {t:TypeId} {cx cy:Bool} {k:IntKind} {a b:Int} {d:OR} {c:OK}:qG P ρ (gD op t cx cy (.int k a) (.int k b)) d c (MV op k a b d c):=by
 have BD:∀ {A B:Sem Value},(if k≠k then A else B)=B:=fun {A B}=>if_neg (by simp)
 cases op <;> try exact .inl rfl
 ·show qG P ρ _ d c (kI c k (SZ k a b))
  rw [PU]; exact .yes (y:=.int k (k.wrap (a+b))) (by show pr P (if k≠k then _ else _)=_; rw [BD]; rfl) (show _=_ by rw [M4])
 ·show qG P ρ _ d c (kI c k (S0 k a b))
  rw [PU]; exact .yes (y:=.int k (k.wrap (a - b))) (by show pr P (if k≠k then _ else _)=_; rw [BD]; rfl) (show _=_ by rw [M5])
 ·show qG P ρ _ d c (kB c (JE a b))
  rw [nT]; exact .yes (y:=.bool (a == b)) (by show pr P (if k≠k then _ else _)=_; rw [BD]; rfl) (show _=_ by rw [po]; rfl)
 ·show qG P ρ _ d c (kB c (tc (JE a b)))
  rw [nT]; exact .yes (y:=.bool (a != b)) (by show pr P (if k≠k then _ else _)=_; rw [BD]; rfl) (show _=_ by rw [nz,po]; rfl)
 ·show qG P ρ _ d c (kB c (MU a b))
  rw [nT]; exact .yes (y:=.bool (decide (a<b))) (by show pr P (if k≠k then _ else _)=_; rw [BD]; rfl) (show _=_ by rw [uH])
 ·show qG P ρ _ d c (kB c (tc (MU b a)))
  rw [nT]; exact .yes (y:=.bool (decide (a<=b))) (by show pr P (if k≠k then _ else _)=_; rw [BD]; rfl) (show _=_ by rw [nz,uH]; by_cases hh:b<a <;> simp [hh] <;> omega)
 ·show qG P ρ _ d c (kB c (MU b a))
  rw [nT]; exact .yes (y:=.bool (decide (a > b))) (by show pr P (if k≠k then _ else _)=_; rw [BD]; rfl) (show _=_ by rw [uH])
 show qG P ρ _ d c (kB c (tc (MU a b)))
 rw [nT]; exact .yes (y:=.bool (decide (a >= b))) (by show pr P (if k≠k then _ else _)=_; rw [BD]; rfl) (show _=_ by rw [nz,uH]; by_cases hh:a<b <;> simp [hh] <;> omega)
theorem F4 {op:BinOp} {t:TypeId} {cx cy:Bool} {a l a' l':Nat} {d:OR} {c:OK}:qG P ρ (gD op t cx cy (.string (strOf a l)) (.string (strOf a' l'))) d c (MW op a l a' l' d c):=by
 cases op <;> try exact .inl rfl
 ·show qG P ρ _ d c (dM (Nat.ble (l+l') 1073741824) _ d)
  cases hl:Nat.ble (l+l') 1073741824 with
  | false=>exact .inl rfl
  | true=>
   have hl:=dV hl
   show qG P ρ _ d c (kS c _ _)
   rw [YY]
   refine .yes (y:=.string (strOf a l++strOf a' l')) ?_ (show _=_ by rw [<- FZ]; rfl)
   show pr P (if (((strOf a l).size+(strOf a' l').size:Nat):Int) > IntKind.i64.max then _ else _)=_
   rw [if_neg]
   ·rfl
   ·rw [dE,dE,show IntKind.i64.max=9223372036854775807 from by decide]; omega
 ·show qG P ρ _ d c (kB c (Jm a l a' l'))
  rw [nT]; exact .yes (y:=.bool ((strOf a l).toList == (strOf a' l').toList)) rfl (show _=_ by rw [sm,vm])
 show qG P ρ _ d c (kB c (tc (Jm a l a' l')))
 rw [nT]; exact .yes (y:=.bool (!((strOf a l).toList == (strOf a' l').toList))) rfl (show _=_ by rw [nz,sm,vm])
theorem BE {op:BinOp} {t:TypeId} {x y:Value} {r:Bool} {d:OR} {c:OK} {m:Sem Value} (hp:pr P (Op.equal t x y)=some r)
  (h1:op = .eql->m=do pure (.bool (<- Op.equal t x y))) (h2:op = .neq->m=do pure (.bool (!(<- Op.equal t x y)))):qG P ρ m d c (EM op r d c):=by
 cases op <;> try exact .inl rfl
 ·show qG P ρ _ d c (kB c r)
  rw [nT]; exact .yes (y:=.bool r) (by rw [h1 rfl,kP,hp]; rfl) rfl
 show qG P ρ _ d c (kB c (tc r))
 rw [nT]; exact .yes (y:=.bool (!r)) (by rw [h2 rfl,kP _ (λ b=>Value.bool (!b)),hp]; rfl) (show _=_ by rw [nz])
theorem JY (a b:ByteArray):(a == b)=decide (a=b):=by
 obtain ⟨a⟩:=a
 obtain ⟨b⟩:=b
 show (a == b)=_
 rw [Bool.eq_iff_iff,beq_iff_eq,decide_eq_true_eq,ByteArray.mk.injEq]
theorem BF {k:Nat} {x y:V} {a b:Value} {d:OR} {c:Bool->OR} (hx:RV ρ x a) (hy:RV ρ y b):zw k x y d c=d\/(zw k x y d c=c (Q2 a b)/\iw a=some k/\iw b=some k):=by
 match k with
 | 0=>
  show x.FQ d _=d\/_
  rcases V.uD x d (λ k a=>y.FQ d λ k' a'=>dM (dI (Nat.beq (kn k) 3) (Nat.beq (kn k') 3)) (c (JE a a')) d) with h1 | ⟨t,i,rfl,h1⟩
  ·exact .inl h1
  rcases V.uD y d (λ k' a'=>dM (dI (Nat.beq (kn t) 3) (Nat.beq (kn k') 3)) (c (JE i a')) d) with h2 | ⟨t',i',rfl,h2⟩
  ·exact .inl (h1.trans h2)
  obtain rfl:a = .int t i:=hx
  obtain rfl:b = .int t' i':=hy
  have e:=h1.trans h2
  cases ht:Nat.beq (kn t) 3 with
  | false=>exact .inl (e.trans (by rw [ht]; rfl))
  | true=>cases ht':Nat.beq (kn t') 3 with
   | false=>exact .inl (e.trans (by rw [ht,ht']; rfl))
   | true=>
    have e1:t = .i64:=wq (b:=.i64) ht
    have e2:t' = .i64:=wq (b:=.i64) ht'
    subst e1; subst e2
    exact .inr ⟨e.trans (by show c (JE i i')=_; rw [po]; rfl),rfl,rfl⟩
 | 1=>
  show x.FP d _=d\/_
  rcases V.sg x d (λ a=>y.FP d λ a'=>c (FT a a')) with h1 | ⟨i,rfl,h1⟩
  ·exact .inl h1
  rcases V.sg y d (λ a'=>c (FT i a')) with h2 | ⟨i',rfl,h2⟩
  ·exact .inl (h1.trans h2)
  obtain rfl:a = .bool i:=hx
  obtain rfl:b = .bool i':=hy
  exact .inr ⟨(h1.trans h2).trans (by rw [wu]; rfl),rfl,rfl⟩
 | 2=>
  show x.Bt d _=d\/_
  rcases V.uE x d (λ n l=>y.Bt d λ n' l'=>c (Jm n l n' l')) with h1 | ⟨t,i,rfl,h1⟩
  ·exact .inl h1
  rcases V.uE y d (λ n' l'=>c (Jm t i n' l')) with h2 | ⟨t',i',rfl,h2⟩
  ·exact .inl (h1.trans h2)
  obtain rfl:a = .string (strOf t i):=hx
  obtain rfl:b = .string (strOf t' i'):=hy
  exact .inr ⟨(h1.trans h2).trans (by rw [sm]; exact congrArg c (JY _ _).symm),rfl,rfl⟩
 | k+3=>exact .inl rfl
theorem zC:∀ {ks:List Nat} {x y:V} {xs ys:List Value} {d:OR} {c:Bool->OR},gE ρ x xs->gE ρ y ys->
  mg ks x y d c=d\/(mg ks x y d c=c (lE xs ys)/\xs.map iw=ks.map some/\ys.map iw=ks.map some):=by
 intro ks
 induction ks with
 | nil=>
  intro x y xs ys d c hx hy
  cases x <;> first | exact hx.elim | exact .inl rfl | skip
  cases y <;> first | exact hy.elim | exact .inl rfl | skip
  rw [gE.nA hx,gE.nA hy]
  exact .inr ⟨rfl,rfl,rfl⟩
 | cons k ks ih=>
  intro x y xs ys d c hx hy
  cases x <;> first | exact hx.elim | exact .inl rfl | skip
  cases y <;> first | exact hy.elim | exact .inl rfl | skip
  rename_i hh rr YZ rr'
  obtain ⟨z,zs,rfl,h2,h3⟩:=hx
  obtain ⟨z',zs',rfl,h2',h3'⟩:=hy
  have e:mg (k::ks) (.c hh rr) (.c YZ rr') d c=zw k hh YZ d λ b=>mg ks rr rr' d λ b'=>c (dI b b'):=rfl
  rcases BF (k:=k) (d:=d) (c:=λ b=>mg ks rr rr' d λ b'=>c (dI b b')) h2 h2' with h4 | ⟨h4,h5,h6⟩
  ·exact .inl (e.trans h4)
  ·rcases ih (d:=d) (c:=λ b'=>c (dI (Q2 z z') b')) h3 h3' with h7 | ⟨h7,h8,h9⟩
   ·exact .inl ((e.trans h4).trans h7)
   ·exact .inr ⟨((e.trans h4).trans h7).trans (by rw [M3]; rfl),by simp [h5,h8],by simp [h6,h9]⟩
theorem qG.ok {m:Sem Value} {d:OR} {u:V} {hh:Hp} (ha:qG P ρ m d (λ v=>.ok v h n) (.ok u hh n')) (hd:d = .ok u hh n'->∃ y,pr P m=some y/\RV ρ u y/\hh=h):∃ y,pr P m=some y/\RV ρ u y/\hh=h:=by
 rcases ha with h1 | h1 | ⟨u',y,h1,h2,h3⟩
 ·exact hd h1.symm
 ·cases h1
 obtain ⟨rfl,rfl,_⟩:=bX h1; exact ⟨y,h2,h3,rfl⟩
theorem nF {f:V->OR->(Bool->OR)->OR} {op:BinOp} {t:TypeId} {x y:V} {a b:Value} {d:OR} {c:OK} {m:Sem Value} {nl:Value->Bool->Prop}
  (hf:∀ (v:V) (a:Value) (d:OR) (c:Bool->OR),RV ρ v a->f v d c=d\/∃ r,f v d c=c r/\nl a r)
  (he:∀ r r',nl a r->nl b r'->r=true\/r'=true->pr P (Op.equal t a b)=some (r && r')) (hx:RV ρ x a) (hy:RV ρ y b)
  (h1:op = .eql->(∃ r,nl a r)->(∃ r,nl b r)->m=do pure (.bool (<- Op.equal t a b))) (h2:op = .neq->(∃ r,nl a r)->(∃ r,nl b r)->m=do pure (.bool (!(<- Op.equal t a b)))):qG P ρ m d c (yd f op x y d c):=by
 unfold yd
 rcases hf x a d (λ a=>f y d λ b=>dM a (EM op b d c) (dM b (EM op a d c) d)) hx with e1 | ⟨r,e1,n1⟩
 ·exact .inl e1
 rw [e1]
 rcases hf y b d (λ b=>dM r (EM op b d c) (dM b (EM op r d c) d)) hy with e2 | ⟨r',e2,n2⟩
 ·exact .inl e2
 rw [e2]
 have key:=λ hr=>BE (ρ:=ρ) (d:=d) (c:=c) (he r r' n1 n2 hr) (λ ho=>h1 ho ⟨r,n1⟩ ⟨r',n2⟩) (λ ho=>h2 ho ⟨r,n1⟩ ⟨r',n2⟩)
 cases r with
 | true=>have:=key (.inl rfl); rwa [Bool.true_and] at this
 | false=>cases r' with
  | true=>exact key (.inr rfl)
  | false=>exact .inl rfl
def nlP (a:Value) (r:Bool):Prop:=∃ p,a = .pointer p/\r=p.isNone
def nlS (a:Value) (r:Bool):Prop:=∃ p l c,a = .slice p l c/\r=p.isNone
def nlM (a:Value) (r:Bool):Prop:=∃ p,a = .map p/\r=p.isNone
def nlF (a:Value) (r:Bool):Prop:=(a = .nilFunc/\r=true)\/∃ g x y,a = .func g x y/\r=false
theorem BG (v:V) (a:Value) (d:OR) (c:Bool->OR) (hv:RV ρ v a):C6 v d c=d\/∃ r,C6 v d c=c r/\nlP a r:=by
 cases v <;> try exact .inl rfl
 ·exact .inr ⟨true,rfl,none,hv,rfl⟩
 obtain ⟨q,_,h2⟩:=hv; exact .inr ⟨false,rfl,_,h2,rfl⟩
theorem BH (v:V) (a:Value) (d:OR) (c:Bool->OR) (hv:RV ρ v a):C8 v d c=d\/∃ r,C8 v d c=c r/\nlS a r:=by
 cases v <;> try exact .inl rfl
 ·exact .inr ⟨true,rfl,none,_,_,hv,rfl⟩
 ·obtain ⟨q,_,_,h2⟩:=hv; exact .inr ⟨false,rfl,_,_,_,h2,rfl⟩
 ·obtain ⟨q,_,_,h2⟩:=hv; exact .inr ⟨false,rfl,_,_,_,h2,rfl⟩
 obtain ⟨q,_,h2⟩:=hv; exact .inr ⟨false,rfl,_,_,_,h2,rfl⟩
theorem BI (v:V) (a:Value) (d:OR) (c:Bool->OR) (hv:RV ρ v a):C9 v d c=d\/∃ r,C9 v d c=c r/\nlM a r:=by
 cases v <;> try exact .inl rfl
 ·exact .inr ⟨true,rfl,none,hv,rfl⟩
 obtain ⟨q,_,h2⟩:=hv; exact .inr ⟨false,rfl,_,h2,rfl⟩
theorem BJ (v:V) (a:Value) (d:OR) (c:Bool->OR) (hv:RV ρ v a):Da v d c=d\/∃ r,Da v d c=c r/\nlF a r:=by
 cases v <;> try exact .inl rfl
 ·exact .inr ⟨true,rfl,.inl ⟨hv,rfl⟩⟩
 ·obtain ⟨q,_,h2⟩:=hv; exact .inr ⟨false,rfl,.inr ⟨_,_,_,h2,rfl⟩⟩
 obtain ⟨q,_,h2⟩:=hv; exact .inr ⟨false,rfl,.inr ⟨_,_,_,h2,rfl⟩⟩
theorem F5 {op:BinOp} {t:TypeId} {cx cy:Bool} {x y:V} {a b:Value} {d:OR} {c:OK} (hx:RV ρ x a) (hy:RV ρ y b):qG P ρ (gD op t cx cy a b) d c (td op (FX P op t) x y d c):=by
 unfold FX
 split
 ·rename_i hu
  show qG P ρ _ d c (x.FP d _)
  rcases V.sg x d (λ a=>y.FP d λ b=>EM op (FT a b) d c) with h1 | ⟨i,rfl,h1⟩
  ·exact .inl h1
  rw [h1]
  rcases V.sg y d (λ b=>EM op (FT i b) d c) with h2 | ⟨i',rfl,h2⟩
  ·exact .inl h2
  rw [h2]
  obtain rfl:a = .bool i:=hx
  obtain rfl:b = .bool i':=hy
  exact BE (by rw [wu]; exact pQ hu) (λ ho=>by rw [ho]; rfl) (λ ho=>by rw [ho]; rfl)
 ·rename_i el hu
  refine nF (t:=t) (nl:=nlP) BG ?_ hx hy ?_ ?_
  ·rintro r r' ⟨p,rfl,rfl⟩ ⟨p',rfl,rfl⟩ hr
   show pr P (Op.equalIn 10000 t _ _)=_
   unfold Op.equalIn
   rw [aU,aS hu]
   cases p with
   | none=>rfl
   | some p=>cases p' with
    | none=>rfl
    | some p'=>rcases hr with hr | hr <;> cases hr
  ·rintro ho ⟨_,p,rfl,_⟩ ⟨_,p',rfl,_⟩; rw [ho]; rfl
  rintro ho ⟨_,p,rfl,_⟩ ⟨_,p',rfl,_⟩; rw [ho]; rfl
 ·rename_i el hu
  refine nF (t:=t) (nl:=nlS) BH ?_ hx hy ?_ ?_
  ·rintro r r' ⟨p,_,_,rfl,rfl⟩ ⟨p',_,_,rfl,rfl⟩ hr
   show pr P (Op.equalIn 10000 t _ _)=_
   unfold Op.equalIn
   rw [aU,aS hu]
   cases p with
   | none=>rfl
   | some p=>cases p' with
    | none=>rfl
    | some p'=>rcases hr with hr | hr <;> cases hr
  ·rintro ho ⟨_,p,_,_,rfl,_⟩ ⟨_,p',_,_,rfl,_⟩; rw [ho]; rfl
  rintro ho ⟨_,p,_,_,rfl,_⟩ ⟨_,p',_,_,rfl,_⟩; rw [ho]; rfl
 ·rename_i el hu
  refine nF (t:=t) (nl:=nlM) BI ?_ hx hy ?_ ?_
  ·rintro r r' ⟨p,rfl,rfl⟩ ⟨p',rfl,rfl⟩ hr
   show pr P (Op.equalIn 10000 t _ _)=_
   unfold Op.equalIn
   rw [aU,aS hu]
   cases p with
   | none=>rfl
   | some p=>cases p' with
    | none=>rfl
    | some p'=>rcases hr with hr | hr <;> cases hr
  ·rintro ho ⟨_,p,rfl,_⟩ ⟨_,p',rfl,_⟩; rw [ho]; rfl
  rintro ho ⟨_,p,rfl,_⟩ ⟨_,p',rfl,_⟩; rw [ho]; rfl
 ·rename_i hu
  refine nF (t:=t) (nl:=nlF) BJ ?_ hx hy ?_ ?_
  ·rintro r r' (⟨rfl,rfl⟩ | ⟨g,_,_,rfl,rfl⟩) (⟨rfl,rfl⟩ | ⟨g',_,_,rfl,rfl⟩) hr
   ·show pr P (Op.equalIn 10000 t _ _)=_; unfold Op.equalIn; rw [aU,aS hu]; rfl
   ·show pr P (Op.equalIn 10000 t _ _)=_; unfold Op.equalIn; rw [aU,aS hu]; rfl
   ·show pr P (Op.equalIn 10000 t _ _)=_; unfold Op.equalIn; rw [aU,aS hu]; rfl
   rcases hr with hr | hr <;> cases hr
  ·rintro ho ⟨_,⟨rfl,_⟩ | ⟨g,_,_,rfl,_⟩⟩ ⟨_,⟨rfl,_⟩ | ⟨g',_,_,rfl,_⟩⟩ <;> (rw [ho]; rfl)
  rintro ho ⟨_,⟨rfl,_⟩ | ⟨g,_,_,rfl,_⟩⟩ ⟨_,⟨rfl,_⟩ | ⟨g',_,_,rfl,_⟩⟩ <;> (rw [ho]; rfl)
 ·split
  ·rename_i l hl
   show qG P ρ _ d c (x.Ju d _)
   rcases V.zn x d (λ a=>y.Ju d λ b=>mg l a b d λ r=>EM op r d c) with h1 | ⟨i,rfl,h1⟩
   ·exact .inl h1
   rw [h1]
   rcases V.zn y d (λ b=>mg l i b d λ r=>EM op r d c) with h2 | ⟨i',rfl,h2⟩
   ·exact .inl h2
   rw [h2]
   obtain ⟨xs,g1,_,rfl⟩:=hx
   obtain ⟨ys,g2,_,rfl⟩:=hy
   rcases zC (d:=d) (c:=λ r=>EM op r d c) g1 g2 with h3 | ⟨h3,h4,h5⟩
   ·exact .inl h3
   rw [h3]
   obtain ⟨p1,p2⟩:=ni hl h4 h5
   cases op <;> try exact .inl rfl
   ·show qG P ρ _ d c (kB c _)
    rw [nT]
    obtain ⟨r,q1,q2⟩:=(Fl (P:=P) (T:=t) (cx:=cx) (cy:=cy) (K:=λ y=>y = .bool (lE xs ys)) hl h4 h5 rfl).ex
    exact .yes q1 (by rw [q2]; rfl)
   show qG P ρ _ d c (kB c _)
   rw [nT]
   obtain ⟨r,q1,q2⟩:=(xy (P:=P) (T:=t) (cx:=cx) (cy:=cy) (K:=λ y=>y = .bool (!lE xs ys)) hl h4 h5 rfl).ex
   exact .yes q1 (by rw [q2,nz]; rfl)
  exact .inl rfl
 exact .inl rfl
theorem F6 {op:BinOp} {t:TypeId} {cx cy:Bool} {x y:V} {a b:Value} {d:OR} {c:OK} (hx:RV ρ x a) (hy:RV ρ y b):qG P ρ (gD op t cx cy a b) d c (S2 op (FX P op t) x y d c):=by
 cases x <;> try exact .inl rfl
 case i k i=>
  show qG P ρ _ d c (y.FQ d λ k' b=>dM (Nat.beq (kn k) (kn k')) (MV op k i b d c) d)
  rcases V.uD y d (λ k' b=>dM (Nat.beq (kn k) (kn k')) (MV op k i b d c) d) with h1 | ⟨k',i',rfl,h1⟩
  ·exact .inl h1
  rw [h1]
  obtain rfl:a = .int k i:=hx
  obtain rfl:b = .int k' i':=hy
  cases hk:Nat.beq (kn k) (kn k') with
  | false=>exact .inl rfl
  | true=>have:=wq hk; subst this; exact F3
 case s m l=>
  show qG P ρ _ d c (y.Bt d λ n' l'=>MW op m l n' l' d c)
  rcases V.uE y d (λ n' l'=>MW op m l n' l' d c) with h1 | ⟨m',l',rfl,h1⟩
  ·exact .inl h1
  rw [h1]
  obtain rfl:a = .string (strOf m l):=hx
  obtain rfl:b = .string (strOf m' l'):=hy
  exact F4
 all_goals exact F5 hx hy
theorem Y0 {op:BinOp} {t:TypeId} {cx cy:Bool} {p q:Oq} {a b:Value} (hx:RV ρ (dR e p) a) (hy:RV ρ (dR e q) b)
  (hh:(YE P op (gD op t cx cy) (FX P op t) (dR e p) (dR e q) λ v=>.ok v h n) = .ok v h' n'):∃ y,pr P (gD op t cx cy a b)=some y/\RV ρ v y/\h'=h:=by
 have:=F6 (P:=P) (ρ:=ρ) (op:=op) (t:=t) (cx:=cx) (cy:=cy) (d:=JF P (gD op t cx cy) (dR e p) (dR e q) λ v=>.ok v h n) (c:=λ v=>.ok v h n) hx hy
 rw [show S2 op (FX P op t) (dR e p) (dR e q) _ _=_ from hh] at this
 refine this.ok λ hd=>?_
 unfold JF at hd
 cases h1:Ud (dR e p) with
 | none=>rw [h1] at hd; cases hd
 | some x=>
  rw [h1] at hd
  dsimp only at hd
  have:a=x:=(pq (dR e p)).1 _ _ h1 hx
  subst this
  cases h2:Ud (dR e q) with
  | none=>rw [h2] at hd; cases hd
  | some y=>
   rw [h2] at hd
   dsimp only at hd
   have:b=y:=(pq (dR e q)).1 _ _ h2 hy
   subst this
   cases h3:pr P (gD op t cx cy a b) with
   | none=>rw [h3] at hd; cases hd
   | some r=>
    rw [h3] at hd
    dsimp only [Ue] at hd
    cases h4:mX r with
    | none=>rw [h4] at hd; cases hd
    | some u=>
     rw [h4] at hd
     obtain ⟨rfl,rfl,_⟩:=bX hd
     exact ⟨r,rfl,j9 h4,rfl⟩
end
section
variable {P:Program} {Fr:m4} {ρ:Rn} {h h':Hp} {w:World} {v:V} {n n':Nat} {e:En} {e':Env}
theorem M7 {E es:Nat} (hs:lW P E=es) (h1:1<=es):pr P (sizeOf E)=some es:=by
 unfold lW at hs
 cases hi:P.info? E with
 | none=>rw [hi] at hs; simp at hs; omega
 | some inf=>rw [hi] at hs; rw [fC hi]; simpa using hs
theorem BK {T m off:Nat} {xs:List Value} {y:Value} (ht:bY P T=some (false,m)) (hy:xs[off]? = some y):pr P (part T (List.toArray xs) off)=some y:=by
 unfold part
 rw [aU,(ej ht).1]
 show pr P (match (List.toArray xs)[off]? with | some v => pure v | none => stuck "part: no such cell") = _
 rw [List.getElem?_toArray,hy]; rfl
theorem BL {T m off:Nat} {xs:List Value} (ht:bY P T=some (true,m)):pr P (part T (List.toArray xs) off)=some (.agg (List.toArray ((xs.drop off).take m))):=by
 unfold part
 rw [aU,(ej ht).1]
 simp only [Option.bind_some,if_true]
 rw [aU,(ej ht).2]
 simp only [Option.bind_some,dF]
 congr 2
 apply Array.ext'
 rw [Array.toList_extract]
 simp [List.extract]
theorem BM {l:V} {ys:List Value} (h1:gE ρ l ys) (h2:∀ z∈ys,eK z=true) (o k:Nat):RV ρ (.a (wb (EN l o) k)) (.agg (List.toArray ((ys.drop o).take k))):=
 ⟨_,(h1.drop o).take k,λ z hz=>h2 z (List.mem_of_mem_drop (List.mem_of_mem_take hz)),rfl⟩
theorem Y1 {q:Oq} {t f m:Nat} {fs:Array Field} {fd:Field} {x:Value} (hu:P.underlying t=some (.struct fs)) (hf:fs[f]? = some fd) (ht:bY P fd.type=some (false,m)) (hR:RH P Fr ρ h w) (hx:RV ρ (dR e q) x)
  (hh:Pt e h n fd.offset q = .ok v h' n'):dW P (Instr.field t x f) λ y=>jg P Fr ρ v h' y w:=by
 obtain ⟨l,e1,hh⟩:=okA hh
 rw [e1] at hx
 obtain ⟨ys,h1,_,rfl⟩:=hx
 rcases te (k:=λ v=>.ok v h n) fd.offset h1 with h2 | ⟨u,y,h2,h3,h4⟩
 ·rw [h2] at hh; cases hh
 rw [h2] at hh
 obtain ⟨rfl,rfl,_⟩:=bX hh
 refine iS (y:=y) ?_ hR h4
 unfold Instr.field
 rw [aU,aS hu]
 simp only [Option.bind_some,hf,asAgg]
 exact BK ht h3
theorem Tf {q:Oq} {t f m:Nat} {fs:Array Field} {fd:Field} {x:Value} (hu:P.underlying t=some (.struct fs)) (hf:fs[f]? = some fd) (ht:bY P fd.type=some (true,m)) (hR:RH P Fr ρ h w) (hx:RV ρ (dR e q) x)
  (hh:JJ e h n fd.offset m q = .ok v h' n'):dW P (Instr.field t x f) λ y=>jg P Fr ρ v h' y w:=by
 obtain ⟨l,e1,hh⟩:=okA hh
 rw [e1] at hx
 obtain ⟨ys,h1,h2,rfl⟩:=hx
 obtain ⟨rfl,rfl,_⟩:=bX hh
 refine iS ?_ hR (BM h1 h2 _ _)
 unfold Instr.field
 rw [aU,aS hu]
 simp only [Option.bind_some,hf,asAgg]
 exact BL ht
theorem Tg {q i:Oq} {t k E es:Nat} {x y:Value} (hu:P.underlying t=some (.array k E)) (ht:bY P E=some (false,es)) (hR:RH P Fr ρ h w) (hx:RV ρ (dR e q) x) (hy:RV ρ (dR e i) y)
  (hh:JK e h n k es q i = .ok v h' n'):dW P (Instr.index t x y) λ y=>jg P Fr ρ v h' y w:=by
 obtain ⟨tt,j,e1,hh⟩:=nE hh
 obtain ⟨l,e2,hh⟩:=okA hh
 obtain ⟨fS,hh⟩:=cP hh
 have fS:=mC fS
 rw [e1] at hy
 obtain rfl:y = .int tt (j:Int):=hy
 rw [e2] at hx
 obtain ⟨ys,h1,_,rfl⟩:=hx
 rcases te (k:=λ v=>v.fc λ v=>.ok v h n) (j * es) h1 with h2 | ⟨u,y,h2,h3,h4⟩
 ·rw [show Db l (Nat.mul j es) _=_ from h2] at hh; cases hh
 rw [show Db l (Nat.mul j es) _=_ from h2,V.nS] at hh
 obtain ⟨rfl,rfl,_⟩:=bX hh
 refine iS (y:=y) ?_ hR h4
 unfold Instr.index
 simp only [asIntOf,aU,aS hu,Option.bind_some,dF]
 rw [if_pos (show 0<=(j:Int)/\(j:Int)<(k:Int) by omega),aU,(ej ht).2]
 exact BK ht h3
theorem Th {q i:Oq} {t k E es:Nat} {x y:Value} (hu:P.underlying t=some (.array k E)) (ht:bY P E=some (true,es)) (hR:RH P Fr ρ h w) (hx:RV ρ (dR e q) x) (hy:RV ρ (dR e i) y)
  (hh:JL e h n k es q i = .ok v h' n'):dW P (Instr.index t x y) λ y=>jg P Fr ρ v h' y w:=by
 obtain ⟨tt,j,e1,hh⟩:=nE hh
 obtain ⟨l,e2,hh⟩:=okA hh
 obtain ⟨fS,hh⟩:=cP hh
 have fS:=mC fS
 rw [e1] at hy
 obtain rfl:y = .int tt (j:Int):=hy
 rw [e2] at hx
 obtain ⟨ys,h1,h2,rfl⟩:=hx
 obtain ⟨rfl,rfl,_⟩:=bX hh
 refine iS ?_ hR (BM h1 h2 _ _)
 unfold Instr.index
 simp only [asIntOf,aU,aS hu,Option.bind_some,dF]
 rw [if_pos (show 0<=(j:Int)/\(j:Int)<(k:Int) by omega),aU,(ej ht).2]
 exact BL ht
theorem iT (hE:RE ρ e e') {o:Option Operand} {q:Oq} {d i:Nat} (ho:KR o=some q) (hi:(dR e q = .e/\i=d)\/∃ t,dR e q = .i t (i:Int)):(o.map (ev e')=none/\o=none/\i=d)\/∃ t,o.map (ev e')=some (.int t (i:Int)):=by
 cases o with
 | none=>
  cases ho
  rcases hi with ⟨_,hi⟩ | ⟨t,hi⟩
  ·exact .inl ⟨rfl,rfl,hi⟩
  ·cases hi
 | some y=>
  have:=bE hE (q:=q) ho
  rcases hi with ⟨hi,_⟩ | ⟨t,hi⟩
  ·rw [hi] at this; exact this.elim
  ·rw [hi] at this; exact .inr ⟨t,congrArg some this⟩
theorem nG {t:IntKind} {y i:Nat} {code:BoundsCode} (hi:i<=y):pr P (Instr.sliceBound (.int t (i:Int)) y code)=some i:=by
 show pr P (if 0<=(i:Int)/\(i:Int)<=(y:Int) then pure ((i:Int)).toNat else _)=_
 rw [if_pos ⟨by omega,by omega⟩]; rfl
theorem JZ {l c j k m:Nat} {lo hi mx:Option Value} (hm:(mx=none/\m=c)\/∃ t,mx=some (.int t (m:Int))/\m<=c) (hk:(hi=none/\k=l/\mx=none)\/∃ t,hi=some (.int t (k:Int))/\k<=m)
  (hj:(lo=none/\j=0)\/∃ t,lo=some (.int t (j:Int))/\j<=k):pr P (Instr.sliceBounds true l c lo hi mx)=some (j,k,m):=by
 rcases hm with ⟨rfl,rfl⟩ | ⟨t1,rfl,hm⟩
 ·rcases hk with ⟨rfl,rfl,_⟩ | ⟨t2,rfl,hk⟩
  ·rcases hj with ⟨rfl,rfl⟩ | ⟨t3,rfl,hj⟩
   ·rfl
   simp only [Instr.sliceBounds,aU,dF,Option.bind_some,nG hj]
  rcases hj with ⟨rfl,rfl⟩ | ⟨t3,rfl,hj⟩
  ·simp only [Instr.sliceBounds,aU,dF,Option.bind_some,nG hk]
  simp only [Instr.sliceBounds,aU,dF,Option.bind_some,nG hk,nG hj]
 rcases hk with ⟨_,_,hk⟩ | ⟨t2,rfl,hk⟩
 ·cases hk
 rcases hj with ⟨rfl,rfl⟩ | ⟨t3,rfl,hj⟩
 ·simp only [Instr.sliceBounds,aU,dF,Option.bind_some,nG hm,nG hk]
 simp only [Instr.sliceBounds,aU,dF,Option.bind_some,nG hm,nG hk,nG hj]
theorem wz {T E es l c j k m:Nat} {a:Option Addr} {lo hi mx:Option Value} (hT:P.underlying T=some (.slice E)) (hs:lW P E=es) (h1:1<=es) (hb:pr P (Instr.sliceBounds true l c lo hi mx)=some (j,k,m)) :
  pr P (Instr.sliceAt T (.slice a l c) lo hi mx)=some (.slice (if m=j then a else a.map (·.add (j * es))) (k - j) (m - j)):=by
 unfold Instr.sliceAt
 rw [aU,aS hT]
 simp only [Option.bind_some]
 unfold Instr.slice
 rw [aU,aS hT]
 simp only [Option.bind_some]
 rw [aU,hb]
 simp only [Option.bind_some]
 rw [aU,M7 hs h1]
 rfl
theorem Y2 {q lo hi mx:Oq} {T E es:Nat} {x:Value} {ol oh om:Option Operand} (hT:P.underlying T=some (.slice E)) (hs:lW P E=es) (h1:1<=es) (hR:RH P Fr ρ h w) (hE:RE ρ e e') (hx:RV ρ (dR e q) x)
  (Te:KR ol=some lo) (YV:KR oh=some hi) (Ti:KR om=some mx) (hmh:om.isNone || oh.isSome) (hh:Pv e h n es q lo hi mx = .ok v h' n') :
  dW P (Instr.sliceAt T x (ol.map (ev e')) (oh.map (ev e')) (om.map (ev e'))) λ y=>jg P Fr ρ v h' y w:=by
 have hmn:om.map (ev e')=none\/oh≠none:=by
  cases om with
  | none=>exact .inl rfl
  | some _=>refine .inr λ hh=>?_; rw [hh] at hmh; cases hmh
 have Y3:∀ {b o c l j k m cap:Nat} {q:Pl},ρ b=some q->S6 h n b o es c j k m = .ok v h' n'->c<=cap->
   ((om.map (ev e')=none/\m=cap)\/∃ t,om.map (ev e')=some (.int t (m:Int)))->((dR e hi = .e/\k=l)\/∃ t,dR e hi = .i t (k:Int))->((dR e lo = .e/\j=0)\/∃ t,dR e lo = .i t (j:Int))->
   dW P (Instr.sliceAt T (.slice (some ⟨q.k,q.b+o,none⟩) l cap) (ol.map (ev e')) (oh.map (ev e')) (om.map (ev e'))) λ y=>jg P Fr ρ v h' y w:=by
  intro b o c l j k m cap q hb hh wV hm hk hj
  obtain ⟨hc,hh⟩:=cP hh
  obtain ⟨c1,hc⟩:=ed hc
  obtain ⟨c2,c3⟩:=ed hc
  have c1:=dV c1
  have c2:=dV c2
  have c3:=dV c3
  have nR:pr P (Instr.sliceBounds true l cap (ol.map (ev e')) (oh.map (ev e')) (om.map (ev e')))=some (j,k,m):=by
   refine JZ ?_ ?_ ?_
   ·rcases hm with hm | ⟨t,hm⟩
    ·exact .inl hm
    ·exact .inr ⟨t,hm,by omega⟩
   ·rcases iT hE YV hk with ⟨k1,k2,k3⟩ | ⟨t,k1⟩
    ·exact .inl ⟨k1,k3,hmn.resolve_right λ hh=>hh k2⟩
    ·exact .inr ⟨t,k1,c2⟩
   ·rcases iT hE Te hj with ⟨k1,k2,k3⟩ | ⟨t,k1⟩
    ·exact .inl ⟨k1,k3⟩
    ·exact .inr ⟨t,k1,c1⟩
  have hp:=wz (a:=some ⟨q.k,q.b+o,none⟩) hT hs h1 nR
  cases Y4:Nat.beq m j with
  | true=>
   have:m=j:=eW Y4
   rw [Y4] at hh
   obtain ⟨rfl,rfl,_⟩:=bX (show OR.ok (.sx b o (k - j) 0) h n=_ from hh)
   rw [if_pos this] at hp
   exact iS hp hR ⟨q,hb,by omega,by rw [show m - j=0 from by omega]⟩
  | false=>
   have:m≠j:=λ he=>by rw [he,gO] at Y4; cases Y4
   rw [Y4] at hh
   obtain ⟨rfl,rfl,_⟩:=bX (show OR.ok (.sx b (o+j * es) (k - j) (m - j)) h n=_ from hh)
   rw [if_neg this,Option.map_some,dG] at hp
   exact iS hp hR ⟨q,hb,by omega,by rw [Nat.add_assoc]⟩
 rcases xg hh with hh | ⟨e1,hh⟩ | ⟨b,o,l,d,e1,hh⟩ | ⟨b,o,l,c,e1,hh⟩ | ⟨_,hh⟩
 ·cases hh
 ·
  obtain ⟨m,hh,hm⟩:=ki hh
  obtain ⟨k,hh,hk⟩:=ki hh
  obtain ⟨j,hh,hj⟩:=ki hh
  obtain ⟨hc,hh⟩:=cP hh
  have hc:j+k+m=0:=eW hc
  obtain rfl:j=0:=by omega
  obtain rfl:k=0:=by omega
  obtain rfl:m=0:=by omega
  obtain ⟨rfl,rfl,_⟩:=bX hh
  rw [e1] at hx
  obtain rfl:x = .slice none 0 0:=hx
  have nR:pr P (Instr.sliceBounds true 0 0 (ol.map (ev e')) (oh.map (ev e')) (om.map (ev e')))=some (0,0,0):=by
   refine JZ ?_ ?_ ?_
   ·rcases iT hE Ti hm with ⟨k1,k2,k3⟩ | ⟨t,k1⟩
    ·exact .inl ⟨k1,rfl⟩
    ·exact .inr ⟨t,k1,by omega⟩
   ·rcases iT hE YV hk with ⟨k1,k2,k3⟩ | ⟨t,k1⟩
    ·exact .inl ⟨k1,rfl,hmn.resolve_right λ hh=>hh k2⟩
    ·exact .inr ⟨t,k1,by omega⟩
   ·rcases iT hE Te hj with ⟨k1,k2,k3⟩ | ⟨t,k1⟩
    ·exact .inl ⟨k1,rfl⟩
    ·exact .inr ⟨t,k1,by omega⟩
  have hp:=wz (a:=none) hT hs h1 nR
  exact iS hp hR (by simp [RV,RP])
 ·
  obtain ⟨c,pI,t,hb,hh⟩:=iR hh
  obtain ⟨he,Uf⟩:=cP hh
  clear hh
  have he:es=pI:=eW he
  subst he
  rw [e1] at hx
  obtain ⟨q,hq,⟨ho,hl⟩,rfl⟩:=hx
  obtain ⟨q',cs,ty,fz,g1,g2,g3,g4,g5,g6,g7,g8⟩:=hR.cells hb
  rw [hq] at g1; cases g1
  have g6:=g6 (by omega)
  rw [g4] at ho
  have fit:∀ i,o+i * es<=c->i+d<=q.c:=λ i hi=>by
   have:(d+i) * es<=q.c * es:=by rw [Nat.add_mul]; omega
   have:=Nat.le_of_mul_le_mul_right this (by omega:0<es)
   omega
  obtain ⟨k,hh,hk⟩:=ki Uf
  obtain ⟨j,hh,hj⟩:=ki hh
  rcases YO hh with ⟨e2,hh⟩ | ⟨t2,m',e2,hh⟩
  ·
   have hm0:om.map (ev e')=none:=by
    rcases iT (d:=0) (i:=0) hE Ti (.inl ⟨e2,rfl⟩) with ⟨k1,_,_⟩ | ⟨t3,k1⟩
    ·exact k1
    ·cases om with
     | none=>rfl
     | some y=>have:=bE hE (q:=mx) Ti; rw [e2] at this; exact this.elim
   obtain ⟨hc,hh⟩:=cP hh
   obtain ⟨c1,c2⟩:=ed hc
   have c1:=dV c1
   have c2:o+k * es<=c:=dV c2
   have hkc:=fit k c2
   have nR:pr P (Instr.sliceBounds true l (q.c - d) (ol.map (ev e')) (oh.map (ev e')) (om.map (ev e')))=some (j,k,q.c - d):=by
    refine JZ (.inl ⟨hm0,rfl⟩) ?_ ?_
    ·rcases iT hE YV hk with ⟨k1,k2,k3⟩ | ⟨t,k1⟩
     ·exact .inl ⟨k1,k3,hm0⟩
     ·exact .inr ⟨t,k1,by omega⟩
    ·rcases iT hE Te hj with ⟨k1,k2,k3⟩ | ⟨t,k1⟩
     ·exact .inl ⟨k1,k3⟩
     ·exact .inr ⟨t,k1,c1⟩
   have hp:=wz (a:=some ⟨q.k,q.b+o,none⟩) hT hs h1 nR
   cases hj0:Nat.beq j 0 with
   | true=>
    have:j=0:=eW hj0
    subst this
    rw [hj0] at hh
    obtain ⟨rfl,rfl,_⟩:=bX (show OR.ok (.sl b o k d) h n=_ from hh)
    refine iS (y:=.slice (some ⟨q.k,q.b+o,none⟩) k (q.c - d)) ?_ hR ⟨q,hq,⟨by rw [g4]; exact ho,by omega⟩,rfl⟩
    rw [hp]
    split
    ·rfl
    ·rw [Option.map_some,dG]; simp
   | false=>
    rw [hj0] at hh
    have hh:dM (Nat.blt (o+j * es) c) (.ok (.sl b (o+j * es) (k - j) (d+j)) h n) (.ok .se h n) = .ok v h' n':=hh
    cases fS:Nat.blt (o+j * es) c with
    | true=>
     rw [fS] at hh
     obtain ⟨rfl,rfl,_⟩:=bX (show OR.ok (.sl b (o+j * es) (k - j) (d+j)) h n=_ from hh)
     have fS:=mC fS
     have jV:q.c - d≠j:=λ jV=>by
      have:(d+j) * es<q.c * es:=by rw [Nat.add_mul]; omega
      have:=Nat.lt_of_mul_lt_mul_right this
      omega
     rw [if_neg jV,Option.map_some,dG] at hp
     refine iS hp hR ⟨q,hq,⟨by rw [g4,Nat.add_mul]; omega,by omega⟩,by rw [Nat.add_assoc,Nat.sub_sub]⟩
    | false=>
     rw [fS] at hh
     obtain ⟨rfl,rfl,_⟩:=bX (show OR.ok .se h n=_ from hh)
     have sC:¬ (o+j * es<c):=λ hx=>by rw [uG,decide_eq_true hx] at fS; cases fS
     have Up:k * es<=j * es:=by omega
     have Up:=Nat.le_of_mul_le_mul_right Up (by omega:0<es)
     have hk0:k - j=0:=by omega
     refine iS hp hR ?_
     rw [hk0]
     split
     ·exact ⟨_,_,rfl⟩
     ·exact ⟨_,_,rfl⟩
  obtain ⟨m,e3,hh⟩:=zB hh
  obtain ⟨c1,hh⟩:=cP hh
  have c1:o+m * es<=c:=dV c1
  have:=fit m c1
  refine Y3 hq hh (by omega) ?_ hk hj
  rcases iT (d:=0) (i:=m) hE Ti (.inr ⟨t2,by rw [e2,e3]⟩) with ⟨k1,k2,_⟩ | k1
  ·rw [k2] at Ti; cases Ti; cases e2
  exact .inr k1
 ·
  rw [e1] at hx
  obtain ⟨q,hq,hl,rfl⟩:=hx
  obtain ⟨k,hh,hk⟩:=ki hh
  obtain ⟨j,hh,hj⟩:=ki hh
  obtain ⟨m,hh,hm⟩:=ki hh
  refine Y3 hq hh (Nat.le_refl _) ?_ hk hj
  rcases iT hE Ti hm with ⟨k1,k2,k3⟩ | k1
  ·exact .inl ⟨k1,k3⟩
  exact .inr k1
 cases hh
theorem Tj {q:Oq} {T R:Nat} {x:Value} (hT:P.underlying T=some .string) (hR:RH P Fr ρ h w) (hx:RV ρ (dR e q) x) (hh:Bx e h n .no q = .ok v h' n'):dW P (Builtin.len_ #[T] R [x].toArray) λ y=>jg P Fr ρ v h' y w:=by
 obtain ⟨c,l,e1,hh⟩:=Tc hh
 obtain ⟨rfl,rfl,_⟩:=bX hh
 rw [e1] at hx
 obtain rfl:x = .string (strOf c l):=hx
 exact HE hT (hR.post (show _=_ by rw [dE]; rfl))
theorem Tl {q:Oq} {T R E m by':Nat} {z:Option Nat} {x:Value} (hT:dJ P T=some (E,m,by',z)) (hR:RH P Fr ρ h w) (hx:RV ρ (dR e q) x) (hh:Bx e h n .slice q = .ok v h' n'):dW P (Builtin.len_ #[T] R [x].toArray) λ y=>jg P Fr ρ v h' y w:=by
 rcases xg hh with hh | ⟨e1,hh⟩ | ⟨b,o,l,d,e1,hh⟩ | ⟨b,o,l,c,e1,hh⟩ | ⟨e1,hh⟩
 ·cases hh
 all_goals
  obtain ⟨rfl,rfl,_⟩:=bX hh
  rw [e1] at hx
 ·obtain rfl:x = .slice none 0 0:=hx
  exact iS (uW hT) hR rfl
 ·obtain ⟨q,hq,_,rfl⟩:=hx
  exact iS (uW hT) hR rfl
 ·obtain ⟨q,hq,_,rfl⟩:=hx
  exact iS (uW hT) hR rfl
 obtain ⟨a,c,rfl⟩:=hx
 exact iS (uW hT) hR rfl
theorem J0 {T R E n by':Nat} {z:Option Nat} {a:Option Addr} {l c:Nat} (ht:dJ P T=some (E,n,by',z)):pr P (Builtin.cap_ #[T] R [Value.slice a l c].toArray)=some (.int .i64 c):=by
 show pr P (do
  match <- underlying T,Value.slice a l c with
  | .array n _,_=>pure (goInt n)
  | .pointer arr,_=>
   let .array n _ <- underlying arr | stuck "cap: pointer to array expected"
   pure (goInt n)
  | .slice _,.slice _ _ n=>pure (goInt n)
  | .chan _ _,.chan none=>pure (goInt 0)
  | .chan _ _,.chan (some r)=>
   let .chan n _ _ _ _ timer <- getObj r | stuck "cap: channel expected"
   pure (goInt (if timer then 0 else n))
  | _, _ => stuck "cap: array, pointer to array, slice or channel expected") = _
 rw [aU,aS (dS ht).1]
 rfl
theorem Y5 {q:Oq} {T R E m by':Nat} {z:Option Nat} {x:Value} (hT:dJ P T=some (E,m,by',z)) (hR:RH P Fr ρ h w) (hx:RV ρ (dR e q) x) (hh:Bx e h n .func q = .ok v h' n'):dW P (Builtin.cap_ #[T] R [x].toArray) λ y=>jg P Fr ρ v h' y w:=by
 rcases xg hh with hh | ⟨e1,hh⟩ | ⟨b,o,l,d,e1,hh⟩ | ⟨b,o,l,c,e1,hh⟩ | ⟨e1,hh⟩
 ·cases hh
 ·obtain ⟨rfl,rfl,_⟩:=bX hh
  rw [e1] at hx
  obtain rfl:x = .slice none 0 0:=hx
  exact iS (J0 hT) hR rfl
 ·cases hh
 ·obtain ⟨rfl,rfl,_⟩:=bX hh
  rw [e1] at hx
  obtain ⟨q,hq,_,rfl⟩:=hx
  exact iS (J0 hT) hR rfl
 cases hh
end
end Go.Fw

/-
  Part 8.
-/
import Derived.Test.YtpdlpabnlkofmaaGreatDoorM7
set_option maxHeartbeats 8000000
set_option linter.all false
set_option maxRecDepth 100000
namespace Go.Proofs.YtpdlpabnlkofmaaGreatDoor
open Go.Fw
theorem aei(m:gW)(t:jP)(i:Int)(x:bN):(dT m t i x).1.bZ=m.bZ:=by
 unfold dT
 repeat' split
 all_goals first|rfl|(unfold rk;split<;>rfl)
theorem aah(m:gW)(i:Int):(ie m i).1.bZ=m.bZ:=by
 unfold ie
 repeat' split
 all_goals first|rfl|exact aei _ _ _ _
theorem akJ(m:gW)(q:cA):m.bZ<=(qw m q).1.bZ/\(qw m q).1.bZ<=m.bZ+1:=by
 unfold qw
 split
 ·show m.bZ<=m.bZ+1/\m.bZ+1<=m.bZ+1;omega
 split
 ·split
  ·split<;>(show m.bZ<=m.bZ/\m.bZ<=m.bZ+1)<;>omega
  show m.bZ<=(ie m q.t).1.bZ/\(ie m q.t).1.bZ<=_;rw[aah];omega
 grind
structure zu(p:cG)(n:Nat)(m:gW):Prop where
 ok:ou m
 pr:m.p=p
 mb:MB m.mem n
 cr:0<=m.bZ/\m.bZ<=n
theorem zu.step{p:cG}{n:Nat}{m:gW}{q:cA}(h:zu p n m)(hc:Ga p):zu p (n+1) (qw m q).1:=by
 obtain⟨h1,h2,h3⟩:=aj5 (q:=q) h.ok (h.pr▸hc)
 have h4:=akJ m q
 have h5:=h.cr
 exact⟨h1,h2.trans h.pr,h3 _ h.mb,by omega,by omega⟩
theorem zu.new{p:cG}{room:Int}(hz:PZ p)(hc:Ga p)(hr:1<=room/\room<=16):zu p 0 (iT p room):=
 ⟨adV hz hc hr,rfl,λ k=>Nat.le_of_eq rfl,Int.le_refl 0,Int.le_refl 0⟩
theorem aej(m:gW)(t:jP)(x:bN):(rk m t x).mem.dV=m.mem.dV:=by
 unfold rk;split
 ·exact tO _ _ _
 rfl
theorem aek(m:gW)(t:jP)(i:Int)(x:bN):(dT m t i x).1.mem.dV=m.mem.dV:=by
 unfold dT
 repeat' split
 all_goals first|rfl|exact aej _ _ _
theorem aai(m:gW)(i:Int):(ie m i).1.mem.dV=m.mem.dV:=by
 unfold ie
 repeat' split
 all_goals first|rfl|exact aek _ _ _ _
theorem aaj{m:gW}(hm:ou m)(q:cA):(qw m q).1.mem.dV=m.mem.dV:=by
 unfold qw
 split
 ·rfl
 split
 ·split
  ·split
   ·exact(Hx hm.mem).2.2
   rfl
  exact aai _ _
 rfl
def mX(c:Int):gW->List bU->List cA->gW×List bU×Int
 | m,o,[]=>(m,o,0)
 | m,o,q::r=>if q.kind=3/\c<=m.bZ then(m,o,14)else if (qw m q).2.2≠0 then((qw m q).1,o,(qw m q).2.2)else mX c (qw m q).1 (o++[(qw m q).2.1]) r
def fa(p:cG)(room c:Int):Int:=if fj p≠0 then fj p else if room<1\/16<room then 1 else if c<0\/8<c then 1 else 0
def sG(p:cG)(room c:Int)(l:List cA):List bU×Int:=if fa p room c≠0 then([],fa p room c)else((mX c (iT p room) [] l).2.1,(mX c (iT p room) [] l).2.2)
theorem Fz(c:Int):∀(l:List cA) (m:gW) (o:List bU),∃k,k<=l.length/\(mX c m o l).2.1.length=o.length+k/\(mX c m o (l.take k)).2.2=0/\(mX c m o (l.take k)).2.1.length=o.length+k/\
  (k<l.length->(mX c m o l).2.2≠0/\mX c m o (l.take (k+1))=mX c m o l)/\(k=l.length->(mX c m o l).2.2=0)
 | [],m,o=>⟨0,Nat.le_refl _,rfl,rfl,rfl,λ h=>absurd h (Nat.lt_irrefl 0),λ _=>rfl⟩
 | q::r,m,o=>by
  by_cases h1:q.kind=3/\c<=m.bZ
  ·refine⟨0,Nat.zero_le _,?_,rfl,rfl,λ _=>?_,λ h=>by simp at h⟩
   ·unfold mX;grind
   grind[mX]
  by_cases h2:(qw m q).2.2≠0
  ·refine⟨0,Nat.zero_le _,?_,rfl,rfl,λ _=>?_,λ h=>by simp at h⟩
   ·grind[mX]
   grind[mX]
  obtain⟨k,k1,k2,k3,k4,k5,k6⟩:=Fz c r (qw m q).1 (o++[(qw m q).2.1])
  have e:∀s,mX c m o (q::s)=mX c (qw m q).1 (o++[(qw m q).2.1]) s:=λ s=>by rw[mX,if_neg h1,if_neg h2]
  rw[List.length_append,List.length_singleton]at k2 k4
  refine⟨k+1,by grind,by grind,by grind,by grind,λ h=>?_,λ h=>?_⟩
  ·grind
  grind
def vu(p:cG)(room c:Int)(l:List cA):Nat:=(sG p room c l).1.length
theorem Nn{p:cG}{room c:Int}{l:List cA}(h:fa p room c≠0):sG p room c l=([],fa p room c):=by unfold sG;grind
theorem aak{p:cG}{room c:Int}:(sG p room c []).2=fa p room c:=by
 unfold sG;grind[fa,mX,iT]
theorem FA{p:cG}{room c:Int}(h:fa p room c=0)(l:List cA):vu p room c l<=l.length/\(sG p room c (l.take (vu p room c l))).2=0/\(sG p room c (l.take (vu p room c l))).1.length=vu p room c l/\
  (vu p room c l<l.length->(sG p room c l).2≠0/\sG p room c (l.take (vu p room c l+1))=sG p room c l):=by
 have e:∀l,sG p room c l=((mX c (iT p room) [] l).2.1,(mX c (iT p room) [] l).2.2):=λ l=>by grind[sG,mX,iT]
 obtain⟨k,k1,k2,k3,k4,k5,_⟩:=Fz c l (iT p room) []
 grind[vu,sG]
theorem ael(x y:bF)(h:Flat.enc x=Flat.enc y):x=y:=by
 obtain⟨a,b,c,⟨d,n,k⟩⟩:=x
 obtain⟨a2,b2,c2,⟨d2,n2,k2⟩⟩:=y
 simp[Flat.enc,Flat.val]at h
 simp[h]
theorem aem(x y:aZ)(h:Flat.enc x=Flat.enc y):x=y:=by
 obtain⟨a,b,c,⟨d,n,k⟩,⟨d1,n1,k1⟩,e,f,g,i⟩:=x
 obtain⟨a2,b2,c2,⟨d2,n2,k2⟩,⟨d3,n3,k3⟩,e2,f2,g2,i2⟩:=y
 simp[Flat.enc,Flat.val]at h
 simp[h]
theorem aen(x y:cE)(h:Flat.enc x=Flat.enc y):x=y:=by
 obtain⟨a,⟨d,n,k⟩,⟨d1,n1,k1⟩,e⟩:=x
 obtain⟨a2,⟨d2,n2,k2⟩,⟨d3,n3,k3⟩,e2⟩:=y
 simp[Flat.enc,Flat.val]at h
 simp[h]
theorem AZ.of{FF:Nat->Prop}{w:World}{lv:SV}{qE:List cN}(h:∀w',re FF w w'->DL w' (Flat.val lv) qE):AZ (re FF w) lv qE:=by
 obtain⟨vl,hl,ht⟩:=re.fix aen h
 refine⟨vl,λ w' hw=>(ht w' hw).1,hl,λ j tv t h1 h2=>?_⟩
 have hd:∀w',re FF w w'->Deep.dr w' tv t:=λ w' hw=>(ht w' hw).2.2 j tv t h1 h2
 obtain⟨gr,gb,rfl,_,_⟩:=hd w (re.refl _ _)
 have hd2:∀w',re FF w w'->DL w' (Flat.val gr) t.dL/\DL w' (Flat.val gb) t.body:=λ w' hw=>by
  obtain⟨gr2,gb2,e,h4,h5⟩:=hd w' hw
  grind
 obtain⟨rows,_,hr⟩:=re.fix aem λ w' hw=>(hd2 w' hw).2
 exact⟨gr,gb,rows,rfl,λ w' hw=>DL.flat (hd2 w' hw).1,λ w'=>⟨λ w2 hw=>(hr w2 hw).2,λ hw=>(hr w' hw).1⟩⟩
theorem Nk.of{FF:Nat->Prop}{w:World}{pv:bO}{p:cG}(h:∀w',re FF w w'->Deep.dr w' pv p):Nk (re FF w) pv p:=by
 obtain⟨g0,g1,g2,g3,g4,g5,rfl,_⟩:=h w (re.refl _ _)
 have hd:∀w',re FF w w'->DL w' (Flat.val g3) p.threads/\DL w' (Flat.val g4) p.recover:=λ w' hw=>by
  obtain⟨a0,a1,a2,a3,a4,a5,e,_,_,_,h4,h5,_⟩:=h w' hw
  grind
 exact⟨h,AZ.of λ w' hw=>(hd w' hw).1,AZ.of λ w' hw=>(hd w' hw).2⟩
theorem AZ.mono{K K2:World->Prop}{lv:SV}{qE:List cN}(h:AZ K lv qE)(hk:∀w,K2 w->K w):AZ K2 lv qE:=by
 obtain⟨vl,h1,h2⟩:=h
 exact⟨vl,λ w hw=>h1 w (hk w hw),h2.mono hk⟩
theorem Nk.mono{K K2:World->Prop}{pv:bO}{p:cG}(h:Nk K pv p)(hk:∀w,K2 w->K w):Nk K2 pv p:=⟨λ w hw=>h.pr w (hk w hw),h.th.mono hk,h.rc.mono hk⟩
def NF(K:World->Prop)(lv:Value)(l:List cA):Prop:=∃ts:List bF,∀w,K w->dC (λ _=>True) w lv ts/\jh ts l w
theorem NF.of{FF:Nat->Prop}{w:World}{lv:Value}{l:List cA}(h:∀w',re FF w w'->DL w' lv l):NF (re FF w) lv l:=by
 obtain⟨ts,_,ht⟩:=re.fix ael h
 exact⟨ts,ht⟩
theorem NF.nil(K:World->Prop):NF K (.slice none 0 0) []:=⟨[],λ w _=>⟨dC.nil _ _,jh.nil⟩⟩
theorem zu.mono{p:cG}{a b:Nat}{m:gW}(h:zu p a m)(hab:a<=b):zu p b m:=⟨h.ok,h.pr,h.mb.mono hab,by have:=h.cr;omega⟩
theorem sH{α:Type}{xs:List α}{k:Nat}{x:α}(h:xs[k]?=some x):xs.drop k=x::xs.drop (k+1):=by
 obtain⟨h1,h2⟩:=List.getElem?_eq_some_iff.1 h
 rw[List.drop_eq_getElem_cons h1,h2]
def uQ(l:List Bool):Nat:=(l.takeWhile id).length
def ya(l:List Bool):Int:=if uQ l<l.length then(uQ l:Int)else -1
theorem aeo{l:List Bool}{k:Nat}{b:Bool}(h:l[k]?=some b)(hb:b=true)(hf:uQ l=k+uQ (l.drop k)):uQ l=k+1+uQ (l.drop (k+1)):=by
 rw[hf,sH h,hb]
 show k+(uQ (l.drop (k+1))+1)=_
 omega
theorem aep{l:List Bool}{k:Nat}{b:Bool}(h:l[k]?=some b)(hb:b=false)(hf:uQ l=k+uQ (l.drop k)):ya l=k:=by
 have hk:=(List.getElem?_eq_some_iff.1 h).1
 have e:uQ l=k:=by rw[hf,sH h,hb];rfl
 unfold ya
 omega
theorem aeq{l:List Bool}{k:Nat}(h:l.length<=k)(hf:uQ l=k+uQ (l.drop k)):ya l = -1:=by
 unfold ya
 omega
def nY(m:gW):Int×Int:=if m.fault≠0 then(3,m.fault)else if mD m=true then(4,0)else if kX m=true then(if 0<=ya (eY m)then(2,ya (eY m))else(1,0))else(0,0)
def Gc(m:gW):cA:=⟨(nY m).1,(nY m).2,m.bZ,m.mem.l.take (eu m.p).toNat⟩
section
variable {m:gW}
theorem aal(h:m.fault≠0):nY m=(3,m.fault):=by unfold nY;grind
theorem aam(h:¬ m.fault≠0)(h2:mD m=true):nY m=(4,0):=by unfold nY;grind
theorem aan(h:¬ m.fault≠0)(h2:mD m=false)(h3:kX m=true)(h4:0<=ya (eY m)):nY m=(2,ya (eY m)):=by grind[nY,ya,eY]
theorem aao(h:¬ m.fault≠0)(h2:mD m=false)(h3:kX m=true)(h4:¬ 0<=ya (eY m)):nY m=(1,0):=by grind[nY]
theorem aap(h:¬ m.fault≠0)(h2:mD m=false)(h3:kX m=false):nY m=(0,0):=by grind[nY]
end
def zE:cA:=⟨0,0,0,[]⟩
def lO(p:cG)(room c:Int)(l:List cA):cA×List bU×Int×Int:=
 if fa p room c≠0 then(zE,[],fa p room c,0)
 else if (mX c (iT p room) [] l).2.2≠0 then(zE,[],(mX c (iT p room) [] l).2.2,((mX c (iT p room) [] l).2.1.length:Int))
 else(Gc (mX c (iT p room) [] l).1,(mX c (iT p room) [] l).2.1,0,0)
theorem JA{p:cG}{room c:Int}{l:List cA}(h:fa p room c≠0):lO p room c l=(zE,[],fa p room c,0):=by unfold lO;grind
theorem akK{p:cG}{room c:Int}{l:List cA}(h:fa p room c=0)(h2:(mX c (iT p room) [] l).2.2≠0):lO p room c l=(zE,[],(mX c (iT p room) [] l).2.2,((mX c (iT p room) [] l).2.1.length:Int)):=by grind[lO,zE,mX,iT]
theorem akL{p:cG}{room c:Int}{l:List cA}(h:fa p room c=0)(h2:(mX c (iT p room) [] l).2.2=0):lO p room c l=(Gc (mX c (iT p room) [] l).1,(mX c (iT p room) [] l).2.1,0,0):=by grind[lO,Gc,mX,iT]
theorem FB(w:World):Deep.dr w (⟨0,0,0,cH⟩:bF) zE:=⟨_,rfl,DL.nil w⟩
theorem C72(K:World->Prop)(p:Nat)(m:gW)(w:World)(hm:Has (gI K p m) w)(hw:∀w',Ext w w'->K w')(iy:ou m):CR 72 [.pointer (some ⟨p,0,none⟩)] w (λ v w'=>lL (bG v m.mem.l) w w'):=by
 obtain⟨a,hr⟩:=gI.rd hm (hw _ (Ext.refl _));have cm9:=hr.b.cell (o:=9) rfl;have hs:=St.start w;refine eS Tryz.func72 ?_;exact aD (aA sW (bM Kj (cm9.ext hs.aF) (ek al1 hs (C144 a.q m.mem _ (hr.mem.ext hs.aF) iy.mem) (λ _ _ _ hs=>hs.fresh))))
theorem C172(sv:Value)(xs:List Bool)(w:World)(hL:dC (λ _=>True) w sv xs)(hn:xs.length<=1073741824):CR 172 [sv,.bool false] w (λ v w'=>v=.int .i64 (ya xs)/\Ext w w'):=by
 have hs:=St.start w;refine eS Tryz.func172 ?_;refine aI ue (hL.ext hs.aF) ?_;refine⟨λ mm y w1=>∃k:Nat,y=.int .i64 (k:Int)/\mm=xs.length-k/\k<=xs.length/\uQ xs=k+uQ (xs.drop k)/\St w aY [] w1,⟨_,0,rfl,rfl,Nat.zero_le _,(Nat.zero_add _).symm,hs⟩,?_⟩;rintro mm _ w1 ⟨k,rfl,rfl,hk,hf,hs⟩ _;refine aQ (aC (λ c1=>?_) (λ _=>⟨congrArg (Value.int .i64) (aeq (by omega) hf).symm,hs.aF⟩));obtain⟨e,he⟩:=gx xs (i:=((k:Nat):Int).toNat) (by omega);refine aO ue (hL.ext hs.aF) (by omega) he (λ q hq=>aE zQ hq (Vv Ki ?_));rw[Int.toNat_natCast]at he;exact aW (λ c2=>⟨congrArg (Value.int .i64) (aep he (by simpa using c2) hf).symm,hs.aF⟩) (λ c2=>aK (by omega) ⟨_,by omega,k+1,rfl,rfl,by omega,aeo he (by simpa using c2) hf,hs⟩)
theorem C70(K:World->Prop)(p:Nat)(m:gW)(w:World)(hm:Has (gI K p m) w)(hw:∀w',Ext w w'->K w')(iy:ou m)(Fx:m.mem.dV=eX m.p):CR 70 [.pointer (some ⟨p,0,none⟩)] w (λ v w'=>lL (bG v (eY m)) w w'):=by
 obtain⟨a,hr⟩:=gI.rd hm (hw _ (Ext.refl _));have cm6:=hr.b.cell (o:=6) rfl;have cm5:=hr.b.cell (o:=5) rfl;have iL:=qy m.p;have B8:m.mem.l.length=(g9 m.p).length:=by rw[iy.mem.ll,Fx];unfold eX;grind
 have Ew:(cT m.p).length=(g9 m.p).length:=by unfold cT;grind
 have Tg:(g9 m.p).length<=20:=by have:=iy.mem.fl;have:=iy.mem.ll;omega
 have hcb:=iy.pz.dP;have hcz:=iy.pz.zc;obtain⟨g0,g1,g2,g3,g4,g5,hpv,_,_,_,_,_,JF⟩:=hr.uk.pr _ (hw _ (Ext.refl _));rw[hpv]at cm5;obtain⟨cts,Ct,yu⟩:=JF.open;have UH:=yu.1;have hs:=St.start w;refine aiY _ _ _ ?_;unfold S70;refine aD (aA CT (qZ a.pv ep (ng.ext hr.b hs.aF) rfl (aT XO hs (C54 m.p a.pv _ (hr.uk.pr _ (hw _ hs.aF)) iy.pz) (λ _ he hs=>aD (aA CT (aA jn (bM qB (cm5.ext hs.aF) (aI sJ (Ct.ext hs.aF) ?_))))))));refine⟨λ mm o y w'=>∃k:Nat,y=.int .i64 (k:Int)/\mm=cts.length-k/\k<=cts.length/\St w aY [bG o ((m.p.dP.take k).map (oU m))] w',⟨_,0,rfl,rfl,Nat.zero_le _,hs.eJ⟩,?_⟩
 rintro mm o _ _ ⟨k,rfl,rfl,hk,hs⟩ _;refine aQ (aC (λ c1=>?_) (λ c1=>?_));rotate_left
 ·rw[List.take_of_length_le (by omega)]at hs;exact hs.fresh
 obtain⟨ct,hct⟩:=gx cts (i:=((k:Nat):Int).toNat) (by omega);obtain⟨cl,Jz⟩:=gx m.p.dP (i:=((k:Nat):Int).toNat) (by omega);obtain⟨ge,rfl,SX⟩:=yu.2 _ ct cl hct Jz;have akI:=(hcz cl (List.mem_of_getElem? Jz)).1;refine⟨λ jv w'=>St w aY [bG jv ((m.p.dP.take (k+1)).map (oU m))] w',?_,?_⟩;rotate_left
 ·rintro o2 _ hs _;exact aK (by omega) ⟨_,by omega,k+1,rfl,rfl,by omega,hs⟩
 refine aO sJ (Ct.ext hs.aF) (by omega) hct (λ q hq=>aE Ib hq (aM hs N0 (λ b6 _ hs=>aJ (x:=(⟨ge,cl.at_⟩:jr)) hs Ib rfl rfl (λ _ hs=>have hs:=hs.drew;aA uZ (aB (v:=Flat.val (ge:SV)) jo hs.hb rfl (aD (aA Ig (bM iZ (cm6.ext hs.aF) (jH ik (hr.uk.cs _ (hw _ hs.aF)) (by omega) (by omega) (λ s32 h32=>ek ai1 hs (C72 K p m _ (hm.ext hs.aF) (λ _ e=>hw _ (hs.aF.then e)) iy) (λ x34 _ cO hs=>?_)))))))))));refine⟨aG jo (hs.p1.hb.cell rfl),?_⟩;refine⟨aG iZ (cm6.ext hs.aF),?_⟩;refine lK cM (hs).dX (by omega) (by omega) (λ s36 h36=>aT afF hs (C143 _ _ _ cl.e _ _ _ (DL.flat (SX.ext hs.aF)) (h32 _ (hr.uk.cs _ (hw _ hs.aF))) h36 akI (by rw[List.length_take];omega)) (λ _ he hs=>aN rfl (aN rfl (aH ?_))))
 have hcv:oU m cl=(decide ((pA ((cT m.p).take (eu m.p).toNat) (m.mem.l.take (eu m.p).toNat) cl.e).2=0)&&decide ((pA ((cT m.p).take (eu m.p).toNat) (m.mem.l.take (eu m.p).toNat) cl.e).1≠0)):=rfl;refine aC (λ c2=>?_) (λ c2=>?_)
 ·refine bV (aX (([oU m cl]):List Bool) hs ue rfl (by rw[hcv,decide_eq_true c2,Bool.true_and];rfl) (dI rfl) (λ s47 w7 hs=>?_));have Qn:=(hs).dX;refine bI hs.p3 ue Qn (by rw[List.length_map,List.length_take,List.length_singleton];omega) (by decide) (λ s48 w8 hs=>?_);rw[<- fW (k:=k) Jz];exact((hs.p1.drop).p1.drop).p1.drop
 refine aX (([oU m cl]):List Bool) hs ue rfl (by rw[hcv,decide_eq_false c2,Bool.false_and];rfl) (dI rfl) (λ s47 w7 hs=>?_);have Qn:=(hs).dX;refine bI hs.p3 ue Qn (by rw[List.length_map,List.length_take,List.length_singleton];omega) (by decide) (λ s48 w8 hs=>?_);rw[<- fW (k:=k) Jz];exact((hs.p1.drop).p1.drop).p1.drop
theorem C102(K:World->Prop)(p:Nat)(m:gW)(pv:bO)(w:World)(hm:Has (gI K p m) w)(hw:∀w',Ext w w'->K w')(iy:ou m)(Fx:m.mem.dV=eX m.p)(hp:Deep.dr w pv m.p):CR 102 [Flat.val pv,.pointer (some ⟨p,0,none⟩)] w (λ v w'=>∃ev:bF,v=Flat.val ev/\lL (fk (λ w=>Deep.dr w ev (Gc m))) w w'):=by
 have iL:=qy m.p;have hcb:=iy.pz.dP;have B8:m.mem.l.length=(g9 m.p).length:=by rw[iy.mem.ll,Fx];unfold eX;grind
 have hs:=St.start w;refine oY Tryz.func102 (pl:=ayx) ?_;refine cI (x:=pv) hs (λ b2 _ hs=>aM hs iY (λ b4 _ hs=>have hs:=hs.enc (cs':=Flat.enc (⟨0,0,0,cH⟩:bF)) rfl;aT aqe hs (C68 K p m _ (hm.ext hs.aF) (λ _ e=>hw _ (hs.aF.then e)) iy) (λ _ he hs=>aM hs xu (λ b5 _ hs=>aJ (x:=iW m) hs yi rfl rfl (λ _ hs=>?_)))));have hs:=hs.drew;refine⟨λ jv w'=>∃(b6:Nat) (sv:SV),jv=.pointer (some ⟨b6,0,none⟩)/\St w aY [bY b6 (Flat.enc (⟨0,0,m.bZ,sv⟩:bF)),bG (Flat.val (sv:SV)) (m.mem.l.take (eu m.p).toNat),bY b5 (Flat.enc (iW m)),bY b4 (Flat.enc (⟨0,0,0,cH⟩:bF)),bY b2 (Flat.enc pv)] w',?_,?_⟩
 ·refine aA Kl (aB (v:=.int .i64 m.bZ) bL hs.hb rfl (aE ep hs.p2.At ⟨ek ai1 hs (C72 K p m _ (hm.ext hs.aF) (λ _ e=>hw _ (hs.aF.then e)) iy) (λ x13 w6 cO hs=>⟨aG bL (hs.p1.hb.cell rfl),⟨eZ ep hs.p3.At,⟨?_,?_,trivial⟩⟩⟩),?_,trivial⟩))
  ·refine aT XO hs (C54 m.p pv _ (Deep.ext hp hs.aF) iy.pz) (λ w7 he hs=>?_);refine⟨aG bL (hs.p1.hb.cell rfl),?_⟩;refine rQ cM hs (by omega) (by omega) (λ s16 hs=>?_);obtain⟨sv,rfl⟩:=(hs).fC;refine pop (kN m.bZ _ _ _) (aM hs iY (λ b6 w8 hs=>?_));refine⟨aG bL (hs.p2.hb.cell rfl),?_⟩;refine⟨eZ ep hs.p4.At,?_⟩;exact aJ (x:=(⟨0,0,m.bZ,sv⟩:bF)) hs fQ rfl rfl (λ _ hs=>⟨b6,_,rfl,hs⟩)
  ·refine aM hs iY (λ b6 w8 hs=>?_);refine⟨aG bL (hs.p2.hb.cell rfl),?_⟩;refine⟨eZ ep hs.p4.At,?_⟩;refine aT XO hs (C54 m.p pv _ (Deep.ext hp hs.aF) iy.pz) (λ w7 he hs=>?_);refine⟨aG bL (hs.p2.hb.cell rfl),?_⟩;refine rQ cM hs.p1 (by omega) (by omega) (λ s16 hs=>?_);obtain⟨sv,rfl⟩:=(hs).fC;exact pop (kN m.bZ _ _ _) (aJ (x:=(⟨0,0,m.bZ,sv⟩:bF)) hs.p1 fQ rfl rfl (λ _ hs=>⟨b6,_,rfl,hs⟩))
  refine aM hs iY (λ b6 w8 hs=>?_);refine⟨aG bL (hs.p1.hb.cell rfl),?_⟩;refine⟨eZ ep hs.p3.At,?_⟩;refine ek ai1 hs (C72 K p m _ (hm.ext hs.aF) (λ _ e=>hw _ (hs.aF.then e)) iy) (λ x13 w6 cO hs=>?_);refine⟨aG bL (hs.p2.hb.cell rfl),?_⟩;refine⟨eZ ep hs.p4.At,?_⟩;refine aT XO hs (C54 m.p pv _ (Deep.ext hp hs.aF) iy.pz) (λ w7 he hs=>?_);refine⟨aG bL (hs.p2.hb.cell rfl),?_⟩;refine rQ cM hs (by omega) (by omega) (λ s16 hs=>?_);obtain⟨sv,rfl⟩:=(hs).fC;exact pop (kN m.bZ _ _ _) (aJ (x:=(⟨0,0,m.bZ,sv⟩:bF)) hs.p1 fQ rfl rfl (λ _ hs=>⟨b6,_,rfl,hs⟩))
 rintro _ _ ⟨b6,sv,rfl,hs⟩ _;refine ek awU hs (C70 K p m _ (hm.ext hs.aF) (λ _ e=>hw _ (hs.aF.then e)) iy Fx) (λ x19 _ cO hs=>aT arw hs (C172 _ (eY m) _ (hs).dX (by unfold eY;rw[List.length_map];omega)) (λ w19 he hs=>?_));have hs:=hs.drop;refine⟨λ w'=>St w aY [bY b6 (Flat.enc (⟨(nY m).1,(nY m).2,m.bZ,sv⟩:bF)),bG (Flat.val (sv:SV)) (m.mem.l.take (eu m.p).toNat),bY b5 (Flat.enc (iW m)),bY b4 (Flat.enc (⟨0,0,0,cH⟩:bF)),bY b2 (Flat.enc pv)] w',?_,?_⟩
 ·refine aA zS (aB (v:=.int .i64 m.fault) bL hs.p2.hb rfl (bV (aC (λ c1=>?_) (λ c1=>?_))))
  ·rw[aal c1];have hs:=hs.drew;refine aA zS (aB (v:=.int .i64 m.fault) bL hs.p2.hb rfl (aA ld (aS hs bL (dI rfl) rfl (λ w20 hs=>?_))));refine⟨aG bL (hs.p2.hb.cell rfl),?_⟩;exact aA sV (aS hs bL (dI rfl) rfl (λ _ hs=>hs))
  refine aA pU (aB (v:=.bool (mD m)) zQ hs.p2.hb rfl (aW (λ c2=>?_) (λ c2=>?_)))
  ·rw[aam c1 c2];exact aA ld (aS hs bL (dI rfl) rfl (λ _ hs=>hs))
  refine⟨λ jv w'=>jv=.bool (kX m&&decide (0<=ya (eY m)))/\w'=w19,?_,?_⟩
  ·exact aA pS (aB (v:=.bool (kX m)) zQ hs.p2.hb rfl (aW (λ c3=>cS ⟨vb (by rw[c3,Bool.true_and]),rfl⟩) (λ c3=>⟨vb (by rw[c3];rfl),rfl⟩)))
  rintro _ _ ⟨rfl,rfl⟩ _;refine aW (λ c3=>?_) (λ c3=>?_)
  ·rw[Bool.and_eq_true,decide_eq_true_iff]at c3;rw[aan c1 c2 c3.1 c3.2];exact aA ld (aS hs bL (dI rfl) rfl (λ _ hs=>aA sV (aS hs bL (dI rfl) rfl (λ _ hs=>hs))))
  refine aA pS (aB (v:=.bool (kX m)) zQ hs.p2.hb rfl (aW (λ c4=>?_) (λ c4=>?_)))
  ·rw[c4,Bool.true_and,decide_eq_false_iff_not]at c3;rw[aao c1 c2 c4 c3];exact aA ld (aS hs bL (dI rfl) rfl (λ _ hs=>hs))
  rw[aap c1 c2 c4];exact hs
 rintro _ hs _;exact aE (x:=(⟨(nY m).1,(nY m).2,m.bZ,sv⟩:bF)) fQ hs.At (aJ (x:=(⟨(nY m).1,(nY m).2,m.bZ,sv⟩:bF)) hs.p3 fQ rfl rfl (λ _ hs=>aE (x:=(⟨(nY m).1,(nY m).2,m.bZ,sv⟩:bF)) fQ hs.At (have hs:=((((hs.drop.drop).p1.drop).p1.drop).freeze).dU (Ψ:=λ w=>Deep.dr w (⟨(nY m).1,(nY m).2,m.bZ,sv⟩:bF) (Gc m)) (λ _ h=>⟨sv,rfl,DL.j3 h⟩);⟨_,rfl,hs.fresh⟩)))
theorem arx(s:gT):pr Tryz.prog (Instr.field 114 (Flat.val s) 0)=some (.int .i64 s.bZ):=by
 obtain⟨a,b,c,d,e⟩:=s
 kernel_rfl
theorem C101(K:World->Prop)(p:cG)(pv:bO)(room c:Int)(lv:Value)(l:List cA)(w:World)(hw:∀w',Ext w w'->K w')(hp:Nk K pv p)(hz:PZ p)(hl:NF K lv l)(Cy:l.length<=1000)(US:∀q∈l,q.cut.length<=1000) :
  CR 101 [Flat.val pv,.int .i64 room,.int .i64 c,lv] w (λ v w'=>(fa p room c≠0/\v=.tuple #[.pointer none,.slice none 0 0,.int .i64 (fa p room c)]/\Ext w w')\/
  (fa p room c=0/\∃(b:Nat) (X:World->Prop) (ov:Value),v=.tuple #[.pointer (some ⟨b,0,none⟩),ov,.int .i64 (mX c (iT p room) [] l).2.2]/\zu p 1000 (mX c (iT p room) [] l).1/\(mX c (iT p room) [] l).1.mem.dV=eX p/\lL (sep (gI (λ w=>K w/\X w) b (mX c (iT p room) [] l).1) (sep (bG ov (mX c (iT p room) [] l).2.1) (fk X))) w w')):=by
 have hs:=St.start w;refine eS Tryz.func101 ?_;refine cI (x:=pv) hs (λ b4 _ hs=>aE ep hs.At (dN awV (C12 K p pv room _ (λ _ e=>hw _ (hs.aF.then e)) hp hz) ?_));rintro v21 w2 (⟨h1,rfl,he⟩|⟨h0,h1,rfl,he⟩|⟨h0,hr,b,X,rfl,cO⟩)
 ·have hs:=hs.ext he;refine aN rfl (aN rfl (bV (aC (λ _=>?_) (λ h=>absurd h1 h))));have e:fa p room c=fj p:=by unfold fa;rw[if_pos h1]
  rw[e];exact .inl ⟨h1,rfl,hs.drop.aF⟩
 ·have hs:=hs.ext he;refine aN rfl (aN rfl (bV (aC (λ _=>?_) (λ h=>absurd (by decide:(1:Int)≠0) h))));have e:fa p room c=1:=by unfold fa;rw[if_neg (by rw[h0];decide),if_pos h1]
  rw[e];exact .inl ⟨by decide,rfl,hs.drop.aF⟩
 have BW:=xO h0;have hs:=(hs.made cO).split;refine aN rfl (aN rfl (bV (aC (λ h=>absurd rfl h) (λ _=>?_))));refine⟨λ jv w'=>jv=.bool (decide (c<0\/8<c))/\w'=w2,?_,?_⟩
 ·exact aQ (aC (λ h=>⟨vb (decide_eq_true (.inl h)).symm,rfl⟩) (λ _=>cP ⟨vb (decide_eq_decide.2 (by omega)),rfl⟩))
 rintro _ _ ⟨rfl,rfl⟩ _;refine aC (λ h2=>?_) (λ h2=>?_)
 ·have e:fa p room c=1:=by unfold fa;rw[if_neg (by rw[h0];decide),if_neg (by omega),if_pos h2]
  rw[e];exact .inl ⟨by decide,rfl,hs.drop.drop.drop.aF⟩
 have Ur:fa p room c=0:=by unfold fa;rw[if_neg (by rw[h0];decide),if_neg (by omega),if_neg h2]
 obtain⟨ts,NG⟩:=hl;have hn:ts.length=l.length:=(NG _ (hw _ hs.aF)).2.1
 have akM:∀(k:Nat) (m:gW) (ov:Value) (out:List bU) (f:Int) (w':World),k<=l.length->zu p k m->m.mem.dV=eX p->(mX c (iT p room) [] l)=(m,out,f)->St w aY [bG ov out,gI (λ w=>K w/\X w) b m,fk X,bY b4 (Flat.enc pv)] w'->
   (fa p room c≠0/\Value.tuple #[.pointer (some ⟨b,0,none⟩),ov,.int .i64 f]=.tuple #[.pointer none,.slice none 0 0,.int .i64 (fa p room c)]/\Ext w w')\/
   (fa p room c=0/\∃(b':Nat) (X:World->Prop) (ov':Value),Value.tuple #[.pointer (some ⟨b,0,none⟩),ov,.int .i64 f]=.tuple #[.pointer (some ⟨b',0,none⟩),ov',.int .i64 (mX c (iT p room) [] l).2.2]/\zu p 1000 (mX c (iT p room) [] l).1/\(mX c (iT p room) [] l).1.mem.dV=eX p/\lL (sep (gI (λ w=>K w/\X w) b' (mX c (iT p room) [] l).1) (sep (bG ov' (mX c (iT p room) [] l).2.1) (fk X))) w w'):=by
  intro k m ov out f w' hk hg hf he hs;rw[he];have hs:=St.join (hs.p3.drop).p2.p1;exact .inr ⟨Ur,b,X,ov,rfl,hg.mono (by omega),hf,(St.join hs.p1).fresh⟩
 refine aI lY (NG _ (hw _ hs.aF)).1 ?_
 refine⟨λ mm o y w'=>∃(k:Nat) (m:gW) (out:List bU),y=.int .i64 (k:Int)/\mm=ts.length-k/\k<=l.length/\out.length<=k/\zu p k m/\m.mem.dV=eX p/\(mX c (iT p room) [] l)=mX c m out (l.drop k)/\St w aY [bG o out,gI (λ w=>K w/\X w) b m,fk X,bY b4 (Flat.enc pv)] w',
  ⟨_,0,iT p room,[],rfl,rfl,Nat.zero_le _,Nat.le_refl _,zu.new hz BW hr,rfl,rfl,hs.eJ⟩,?_⟩
 rintro mm ov _ w4 ⟨k,m,out,rfl,rfl,hk,ho,hg,Fx,A4,hs⟩ _;refine aQ (aC (λ c1=>?_) (λ c1=>?_));rotate_left
 ·rw[List.drop_of_length_le (by omega)]at A4;exact akM k m ov out 0 w4 hk hg Fx A4 hs
 obtain⟨q,hq⟩:=gx l (i:=k) (by omega);obtain⟨tq,htq⟩:=gx ts (i:=((k:Nat):Int).toNat) (by omega);have hqd:∀w',K w'->Deep.dr w' tq q:=λ w' h=>(NG w' h).2.2 k tq q htq hq;obtain⟨gc,rfl,_⟩:=hqd _ (hw _ hs.aF)
 have hgc:∀w',K w'->dC (λ _=>True) w' (Flat.val gc) q.cut:=λ w' h=>by
  obtain⟨gc2,e,h3⟩:=hqd w' h;cases e
  exact DL.flat h3
 have hqc:=US q (List.mem_of_getElem? hq)
 have O0:l.drop k=q::l.drop (k+1):=by
  obtain⟨h1,h2⟩:=List.getElem?_eq_some_iff.1 hq;rw[List.drop_eq_getElem_cons h1,h2]
 rw[O0]at A4;have rA:=hg.mb.mono (b:=1000000) (by omega);have z8:=hg.cr;refine aO lY (NG _ (hw _ hs.aF)).1 (by omega) htq (λ q37 h37=>aE qC h37 (aM hs DG (λ b15 _ hs=>aJ (x:=(⟨q.kind,q.t,q.i,gc⟩:bF)) hs qC rfl rfl (λ _ hs=>?_))));refine⟨λ jv w'=>jv=.bool (decide (q.kind=3/\c<=m.bZ))/\St w aY [bY b15 (Flat.enc (⟨q.kind,q.t,q.i,gc⟩:bF)),bG ov out,gI (λ w=>K w/\X w) b m,fk X,bY b4 (Flat.enc pv)] w',?_,?_⟩
 ·exact aA pL (aB (v:=.int .i64 q.kind) bL hs.hb rfl (aH (aC (λ c2=>aT aqe hs (C68 (λ w=>K w/\X w) b m _ (hs.p2).has (λ _ e=>⟨hw _ (hs.aF.then e),(hs.ext e).p3.fk⟩) hg.ok) (λ _ _ hs=>pop (arx (iW m)) (cS ⟨vb (decide_eq_decide.2 ⟨λ h=>⟨c2,h⟩,λ h=>h.2⟩),hs⟩))) (λ c2=>⟨vb (decide_eq_false (λ h=>c2 h.1)).symm,hs⟩))))
 rintro _ w8 ⟨rfl,hs⟩ _;refine aC (λ c2=>?_) (λ c2=>?_)
 ·rw[mX,if_pos c2]at A4;exact akM k m ov out 14 w8 hk hg Fx A4 hs.drop
 rw[mX,if_neg c2]at A4;refine aE (x:=(⟨q.kind,q.t,q.i,gc⟩:bF)) qC hs.At (bD awS hs.p2 (H':=λ _=>gI (λ w=>K w/\X w) b (qw m q).1) (Φ:=λ v _=>v=.tuple #[Flat.val (qw m q).2.1,.int .i64 (qw m q).2.2]) (λ F2 dY dW=>?_) ?_)
 ·exact C24 (λ w=>K w/\X w) b m q gc F2 _ dY (λ w' hc=>⟨hw _ (dW w' hc).aF,(dW w' hc).p2.fk⟩) hg.ok (hg.pr▸BW) rA (by omega) (λ w' hc=>hgc _ (hw _ (dW w' hc).aF)) hqc
 rintro _ _ rfl hs;refine aN rfl (aN rfl (aM hs m7 (λ b16 _ hs=>aJ (x:=(qw m q).2.1) hs fb rfl rfl (λ w11 hs=>bV ?_))));have IG:=hg.step (q:=q) BW;have arB:=(aaj hg.ok q).trans Fx;refine aC (λ c3=>?_) (λ c3=>?_)
 ·rw[if_pos c3]at A4;exact akM (k+1) _ ov out _ w11 (by omega) IG arB A4 (hs.drop.p1.drop).p1
 rw[if_neg c3]at A4;refine aE (x:=(qw m q).2.1) fb hs.At (aX [(qw m q).2.1] hs yI rfl rfl (dI rfl) (λ s64 _ hs=>?_));have akN:=(hs).dX;refine bI hs.p4 yI akN (by rw[List.length_singleton];omega) (by decide) (λ s65 _ hs=>aK (by omega) ?_);refine⟨ts.length-(k+1),by omega,k+1,_,out++[(qw m q).2.1],rfl,rfl,by omega,by rw[List.length_append,List.length_singleton];omega,IG,arB,A4,?_⟩;exact((hs.p1.drop).p1.drop).p2.drop
theorem C40(K:World->Prop)(p:cG)(pv:bO)(room c:Int)(lv:Value)(l:List cA)(w:World)(hw:∀w',Ext w w'->K w')(hp:Nk K pv p)(hz:PZ p)(hl:NF K lv l)(Cy:l.length<=1000)(US:∀q∈l,q.cut.length<=1000) :
  CR 40 [Flat.val pv,.int .i64 room,.int .i64 c,lv] w (λ v w'=>∃(ev:bF) (ov:Value),v=.tuple #[Flat.val ev,ov,.int .i64 (lO p room c l).2.2.1,.int .i64 (lO p room c l).2.2.2]/\lL (sep (fk (λ w=>Deep.dr w ev (lO p room c l).1)) (bG ov (lO p room c l).2.1)) w w'):=by
 have hs:=St.start w;refine eS Tryz.func40 ?_;refine cI (x:=pv) hs (λ b4 _ hs=>aM hs iY (λ b8 _ hs=>have hs:=hs.enc (cs':=Flat.enc (⟨0,0,0,cH⟩:bF)) rfl;aE ep hs.p1.At (dN agE (C101 K p pv room c lv l _ (λ _ e=>hw _ (hs.aF.then e)) hp hz hl Cy US) ?_)));rintro v20 w3 (⟨h1,rfl,he⟩|⟨h1,b,X,ov,rfl,hg,Fx,cO⟩)
 ·have hs:=hs.ext he;refine aN rfl (aN rfl (aN rfl (bV (aC (λ _=>?_) (λ h=>absurd h1 h)))));refine pop (zq) (aI yI (dC.nil (α:=bU) (λ _=>True) w) (aJ (x:=(⟨0,0,0,cH⟩:bF)) hs fQ rfl rfl (λ w4 hs=>aE (x:=(⟨0,0,0,cH⟩:bF)) fQ hs.At ?_)));rw[JA h1];exact⟨_,_,rfl,(St.join ((hs.drop.drop.eJ (α:=bU)).fT (Φ:=λ w=>Deep.dr w (⟨0,0,0,cH⟩:bF) zE) FB)).fresh⟩
 have hs:=(((hs.made cO).split).p1.split);refine aN rfl (aN rfl (aN rfl (bV (aC (λ h2=>?_) (λ h2=>?_)))))
 ·refine pop (zq) (aI yI (hs).dX (aJ (x:=(⟨0,0,0,cH⟩:bF)) hs.p3 fQ rfl rfl (λ w4 hs=>aE (x:=(⟨0,0,0,cH⟩:bF)) fQ hs.At ?_)));rw[akK h1 h2];exact⟨_,_,rfl,(St.join ((hs.drop.drop.drop.drop.drop.eJ (α:=bU)).fT (Φ:=λ w=>Deep.dr w (⟨0,0,0,cH⟩:bF) zE) FB)).fresh⟩
 have h3:(mX c (iT p room) [] l).2.2=0:=Decidable.not_not.1 h2;refine aE ep hs.p4.At (dN arv (C102 (λ w=>K w/\X w) b (mX c (iT p room) [] l).1 pv _ (hs.p2).has (λ _ e=>⟨hw _ (hs.aF.then e),(hs.ext e).p1.fk⟩) hg.ok (Fx.trans (by rw[hg.pr])) (by rw[hg.pr];exact hp.pr _ (hw _ hs.aF))) ?_);rintro _ _ ⟨e2,rfl,cO⟩;have hs:=hs.made cO;refine aJ (x:=e2) hs.p4 fQ rfl rfl (λ _ hs=>aE (x:=e2) fQ hs.At ?_);rw[akL h1 h3];exact⟨e2,ov,rfl,(St.join ((((hs.drop.p2.drop).p2.drop).p2.drop))).fresh⟩
theorem C42(K:World->Prop)(p:cG)(pv:bO)(room c:Int)(lv:Value)(l:List cA)(w:World)(hw:∀w',Ext w w'->K w')(hp:Nk K pv p)(hz:PZ p)(hl:NF K lv l)(Cy:l.length<=1000)(US:∀q∈l,q.cut.length<=1000) :
  CR 42 [Flat.val pv,.int .i64 room,.int .i64 c,lv] w (λ v w'=>v=.int .i64 (vu p room c l:Int)/\Ext w w'):=by
 have hs:=St.start w;refine eS Tryz.func42 ?_;refine cI (x:=pv) hs (λ b4 _ hs=>aE ep hs.At (dN agE (C101 K p pv room c lv l _ (λ _ e=>hw _ (hs.aF.then e)) hp hz hl Cy US) ?_));rintro v20 w3 (⟨h1,rfl,he⟩|⟨h1,b,X,ov,rfl,hg,Fx,cO⟩)
 ·have hs:=hs.ext he;refine aN rfl (aN rfl (aN rfl (aI yI (dC.nil (α:=bU) (λ _=>True) w) ?_)));unfold vu;rw[Nn h1];exact⟨rfl,hs.drop.aF⟩
 have e:sG p room c l=((mX c (iT p room) [] l).2.1,(mX c (iT p room) [] l).2.2):=by unfold sG;rw[if_neg (by rw[h1];decide)]
 have hs:=(((hs.made cO).split).p1.split);refine aN rfl (aN rfl (aN rfl (aI yI (hs).dX ?_)));unfold vu;rw[e];exact⟨rfl,hs.drop.drop.drop.drop.aF⟩
variable (w:World) (K:Value->World->Prop)
def S38(p0 mA kP l3:Value):Prop:=
 rC Tryz.prog (Instr.box 27 p0) w λ p4 a=>aL 63 a λ b c=>lA 27 p4 c λ d=>cF 13 [d,mA] c λ e f=>xT e 0 λ g=>xT e 1 λ h=>bB .neq 31 h (i 0) λ j=>cV j (eN Tryz.prog (Instr.build 63 [].toArray) λ k=>
 sA 63 b k f λ l=>lA 63 b l λ r=>K (.tuple #[r,(.slice none 0 0),h,(i 0)]) l) (fc (λ K1=>bB .lss 3 kP (i 0) λ n=>cV n (K1 tt f) (bB .gtr 3 kP (i 8) λ o=>
 K1 o f)) (λ p q=>∀_:Env,
 cV p (eN Tryz.prog (Instr.build 63 [].toArray) λ s=>sA 63 b s q λ t=>lA 63 b t λ HY=>K (.tuple #[HY,(.slice none 0 0),(i 1),(i 0)]) t) (bS 72 0 [] q λ u v=>o8 (λ K2 agF i15 x=>∀_:Env,
 lN 39 l3 λ y=>bA .lss 3 i15 y λ z=>cV z (fc (λ K3=>iA 39 l3 i15 λ aa=>fA 50 aa 0 λ ab=>lA 3 ab x λ ac=>bB .eql 3 ac (i 3) λ ad=>cV ad (nC g λ ae=>fA 44 ae 2 λ af=>
 lA 3 af x λ ag=>bA .geq 3 ag kP λ ah=>K3 ah x) (K3 ff x)) (λ ai aj=>∀_:Env,
 cV ai (eN Tryz.prog (Instr.build 63 [].toArray) λ ak=>sA 63 b ak aj λ al=>lA 63 b al λ NV=>K (.tuple #[NV,(.slice none 0 0),(i 14),i15]) al) (iA 39 l3 i15 λ am=>
 lA 50 am aj λ an=>cF 25 [g,an] aj λ ao ap=>xT ao 0 λ aq=>xT ao 1 λ ar=>aL 56 ap λ v16 asx=>sA 56 v16 aq asx λ au=>bB .neq 31 ar (i 0) λ av=>cV av (eN Tryz.prog (Instr.build 63 [].toArray) λ aw=>
 sA 63 b aw au λ ax=>lA 63 b ax λ r_3=>K (.tuple #[r_3,(.slice none 0 0),ar,i15]) ax) (lA 56 v16 au λ ay=>bS 72 1 [(0,ay)] au λ az a0=>aP 72 agF az a0 λ a1 a2=>
 bB .add 3 i15 (i 1) λ a3=>K2 a1 a3 a2)))) (cF 97 [g] x λ a4 a5=>sA 63 b a4 a5 λ a6=>lA 63 b a6 λ r_4=>K (.tuple #[r_4,agF,(i 0),(i 0)]) a6)) (λ K2=>K2 u (i 0) v))))
theorem akO(p0 mA kP l3:Value)(h:S38 w K p0 mA kP l3):CR 38 [p0,mA,kP,l3] w K:=
 qz 79 (λ _=>.nil) 3840 [.cell 8 63,.tmp 9,.tmp 10,.tmp 11] Tryz.func38 h
def S43(p0 mA kP l3:Value):Prop:=
 rC Tryz.prog (Instr.box 27 p0) w λ p4 a=>lA 27 p4 a λ b=>cF 38 [b,mA,kP,(.slice none 0 0)] a λ c d=>xT c 0 λ e=>xT c 1 λ _=>xT c 2 λ f=>xT c 3 λ _=>
 aL 63 d λ g h=>sA 63 g e h λ j=>kh (λ K1 UQ k=>∀_:Env,
 fc (λ K2=>lN 39 l3 λ l=>bA .lss 3 UQ l λ n=>cV n (bB .eql 31 f (i 0) λ o=>K2 o k) (K2 ff k)) (λ p q=>∀_:Env,
 cV p (fc (λ K3=>lA 27 p4 (drew q) λ r=>bB .add 3 UQ (i 1) λ s=>eN Tryz.prog (Instr.sliceAt 39 l3 none (some s) none) λ t=>((cF 38 [r,mA,kP,t] (drew q) λ u v=>
 xT u 0 λ x=>xT u 1 λ _=>xT u 2 λ y=>xT u 3 λ _=>aL 63 v λ z aa=>kA 27 p4 r aa (sA 63 z x aa λ ab=>K3 y ab))
 /\((aL 63 (drew q) λ ac ad=>kA 27 p4 r ad (cF 38 [r,mA,kP,t] ad λ ae af=>xT ae 0 λ ag=>xT ae 1 λ _=>xT ae 2 λ ah=>xT ae 3 λ _=>sA 63 ac ag af λ ai=>
 K3 ah ai))
 /\
 True))) (λ f16 aj=>∀_:Env,
 bB .neq 31 f16 (i 0) λ ak=>cV ak (K UQ aj) (bB .add 3 UQ (i 1) λ al=>K1 al aj))) (K UQ q))) (λ K1=>K1 (i 0) j)
def P43:dD:=λ i=>match i with
 | 4=>(.op 0 [] (.op 1 [] (.op 2 [] (.op 3 [] (.op 4 [] (.op 5 [] (.op 6 [] (.alt 7 [] (.of [(8,[]),(9,[]),(10,[]),(11,[]),(12,[]),(13,[0]),(14,[]),(15,[]),(16,[]),(17,[])]) (.alt 13 [0] (.of [(7,[]),(8,[]),(9,[]),(10,[]),(11,[]),(12,[]),(14,[]),(15,[]),(16,[]),(17,[])]) .stop)))))))))
 | _=>.nil
theorem akP(p0 mA kP l3:Value)(h:S43 w K p0 mA kP l3):CR 43 [p0,mA,kP,l3] w K:=
 qz 54 P43 256 [.tmp 8] Tryz.func43 h
def P97:dD:=λ i=>match i with
 | 2=>(.op 0 [] (.op 1 [] (.op 3 [] (.op 4 [] (.op 5 [] (.op 6 [] (.op 7 [] (.op 8 [] (.op 9 [] (.op 10 [] (.op 11 [] (.op 12 [] (.op 13 [] (.alt 2 [1,6,9,13] (.alt 14 [1,6,9] (.op 15 [] (.alt 16 [1] (.of [(17,[]),(18,[1,6,9,13]),(19,[])]) (.alt 18 [1,6,9,13] (.of [(16,[1]),(17,[]),(19,[])]) .stop))) (.alt 18 [1,6,9,13] (.of [(14,[1,6,9]),(15,[]),(16,[1]),(17,[]),(19,[])]) .stop)) (.alt 14 [1,6,9] (.op 15 [] (.alt 2 [1,6,9,13] (.alt 16 [1] (.of [(17,[]),(18,[1,6,9,13]),(19,[])]) (.alt 18 [1,6,9,13] (.of [(16,[1]),(17,[]),(19,[])]) .stop)) (.alt 18 [1,6,9,13] (.of [(2,[1,6,9,13]),(16,[1]),(17,[]),(19,[])]) .stop))) (.alt 18 [1,6,9,13] (.alt 2 [1,6,9,13] (.of [(14,[1,6,9]),(15,[]),(16,[1]),(17,[]),(19,[])]) (.alt 14 [1,6,9] (.of [(15,[]),(2,[1,6,9,13]),(16,[1]),(17,[]),(19,[])]) .stop)) .stop))))))))))))))))
 | _=>.nil
theorem aer:PL 38:=dF Tryz.func38
theorem ayz:PL 43:=dF Tryz.func43
theorem ayA:PL 97:=dF Tryz.func97
end Go.Proofs.YtpdlpabnlkofmaaGreatDoor
namespace Go.Proofs.YtpdlpabnlkofmaaGreatDoor
open Go.Fw
theorem Qp{p:cG}(hc:Ga p):xV (eX p):=λ v hv=>by
 obtain⟨c,hm,rfl⟩:=List.mem_map.1 hv
 have h:iJ 4294967296 c=false:=by
  rcases List.mem_append.1 hm with h1|h1
  ·obtain⟨l,hl,h2⟩:=List.mem_flatten.1 h1
   exact(hc.f.lines l hl).2 c h2
  ·exact hc.f.iI c h1
 unfold iJ at h
 simp only[Bool.or_eq_false_iff,decide_eq_false_iff_not]at h
 show -9223372036854775808<=c.n/\c.n<=9223372036854775807
 omega
theorem aes{p:cG}{room:Int}(hc:Ga p):Ju (iT p room):=by
 have h:=Qp hc
 exact Ju.begin (m:=xd p room) ⟨h,h.take _,h,λ k x hx=>by cases hx⟩
def vv(l:List Bool)(j:Nat):Int×Int:=if uQ (l.drop j)<(l.drop j).length then(2,((j+uQ (l.drop j):Nat):Int))else(1,0)
theorem akQ{l:List Bool}{j:Nat}{b:Bool}(h:l[j]?=some b)(hb:b=false):vv l j=(2,(j:Int)):=by
 unfold vv
 rw[sH h,hb,if_pos (by show 0<_;simp)];rfl
theorem akR{l:List Bool}{j:Nat}{b:Bool}(h:l[j]?=some b)(hb:b=true):vv l j=vv l (j+1):=by
 have e:uQ (l.drop j)=uQ (l.drop (j+1))+1:=by rw[sH h,hb];rfl
 grind[vv]
theorem akS{l:List Bool}{j:Nat}(h:l.length<=j):vv l j=(1,0):=by grind[vv]
theorem akT{m:gW}(h:¬ m.fault≠0)(h2:mD m=false)(h3:kX m=true):nY m=vv (eY m) 0:=by
 unfold vv
 rw[List.drop_zero,Nat.zero_add]
 by_cases c:uQ (eY m)<(eY m).length
 ·rw[if_pos c]
  have e:ya (eY m)=uQ (eY m):=by unfold ya;omega
  rw[aan h h2 h3 (by omega),e]
 rw[if_neg c]
 have e:ya (eY m) = -1:=by unfold ya;omega
 rw[aao h h2 h3 (by omega)]
theorem C97(K:World->Prop)(p:Nat)(m:gW)(w:World)(hm:Has (qA K p m) w)(hw:∀w',Ext w w'->K w')(iy:ou m)(hvo:Ju m)(Fx:m.mem.dV=eX m.p):CR 97 [.pointer (some ⟨p,0,none⟩)] w (λ v w'=>∃ev:bF,v=Flat.val ev/\lL (fk (λ w=>Deep.dr w ev (Gc m))) w w'):=by
 obtain⟨a,hr⟩:=qA.rd hm;have Gb:=hr.b.cell (o:=8) rfl;have iL:=qy m.p;have hcb:=iy.pz.dP;have ayr:m.mem.l.length=(g9 m.p).length:=by rw[iy.mem.ll,Fx];unfold eX;grind
 have Tg:(g9 m.p).length<=20:=by have:=iy.mem.fl;have:=iy.mem.ll;omega
 obtain⟨ov,fv,lv,kv,wv,ws,jQ,sF,hmo,hmf,B8,are,hmw⟩:=hr.mem.ex;have Ew:(eY m).length<=1000000:=by grind[eY]
 have hs:=St.start w;refine oY Tryz.func97 (pl:=P97) ?_;refine aM hs iY (λ b2 _ hs=>have hs:=hs.enc (cs':=Flat.enc (⟨0,0,0,cH⟩:bF)) rfl;aT axS hs (C74 K p m _ (hm.ext hs.aF) (λ _ e=>hw _ (hs.aF.then e)) iy) (λ _ he hs=>ek axT hs (C75 K p m _ (hm.ext hs.aF) (λ _ e=>hw _ (hs.aF.then e)) iy hvo Fx) (λ x10 _ cO hs=>aM hs xu (λ b3 _ hs=>aJ (x:=iW m) hs yi rfl rfl (λ _ hs=>?_)))));have hs:=hs.drew;refine⟨λ jv w'=>∃(e5:Nat) (sv:SV),jv=.pointer (some ⟨e5,0,none⟩)/\St w aY [bY e5 (Flat.enc (⟨0,0,m.bZ,sv⟩:bF)),bG (Flat.val (sv:SV)) (m.mem.l.take (eu m.p).toNat),bY b3 (Flat.enc (iW m)),bG x10 (eY m),bY b2 (Flat.enc (⟨0,0,0,cH⟩:bF))] w',?_,?_⟩
 ·refine aA Kl (aB (v:=.int .i64 m.bZ) bL hs.hb rfl (aD (aA sT (bM pR (Gb.ext hs.aF) (aD (aA rH (bM eg ((sF.cell (o:=2) rfl).ext hs.aF) (aD (aA oB (qZ a.pv ep (ng.ext hr.b hs.aF) rfl ?_))))))))));refine⟨aX ([]:List Int) hs cM rfl rfl (dI rfl) (λ x13 _ hs=>⟨aG bL (hs.p1.hb.cell rfl),⟨aG pR (Gb.ext hs.aF),⟨aG eg ((sF.cell (o:=2) rfl).ext hs.aF),⟨lR a.pv ep (ng.ext hr.b hs.aF) rfl,⟨aT HX hs (C62 m.p a.pv _ (hr.uk.pr _ (hw _ hs.aF)) iy.pz) (λ _ he hs=>⟨aG bL (hs.p1.hb.cell rfl),⟨aG pR (Gb.ext hs.aF),⟨aG eg ((sF.cell (o:=2) rfl).ext hs.aF),lK cM B8 (by omega) (by omega) (λ x26 UT=>⟨?_,?_,trivial⟩)⟩⟩⟩),?_,trivial⟩⟩⟩⟩⟩),aT HX hs (C62 m.p a.pv _ (hr.uk.pr _ (hw _ hs.aF)) iy.pz) (λ w23 he hs=>⟨aG bL (hs.hb.cell rfl),⟨aG pR (Gb.ext hs.aF),⟨aG eg ((sF.cell (o:=2) rfl).ext hs.aF),lK cM B8 (by omega) (by omega) (λ x26 UT=>⟨aX ([]:List Int) hs cM rfl rfl (dI rfl) (λ x13 w24 hs=>⟨aG bL (hs.p1.hb.cell rfl),⟨aG pR (Gb.ext hs.aF),⟨aG eg ((sF.cell (o:=2) rfl).ext hs.aF),⟨lR a.pv ep (ng.ext hr.b hs.aF) rfl,⟨?_,?_,trivial⟩⟩⟩⟩⟩),?_,trivial⟩)⟩⟩⟩),?_,trivial⟩
  ·refine bI hs cM (UT.ext hs.aF) (by rw[List.length_take];simp;omega) (by decide) (λ x27 _ hs=>?_);refine⟨aG bL (hs.p1.hb.cell rfl),?_⟩;rw[List.nil_append]at hs;obtain⟨sv,rfl⟩:=(hs).fC;refine pop (kN m.bZ _ _ _) (aM hs iY (λ e5 _ hs=>?_));refine⟨aG bL (hs.p2.hb.cell rfl),?_⟩;refine⟨aG pR (Gb.ext hs.aF),?_⟩;refine⟨aG eg ((sF.cell (o:=2) rfl).ext hs.aF),?_⟩;refine⟨lR a.pv ep (ng.ext hr.b hs.aF) rfl,?_⟩;exact aJ (x:=(⟨0,0,m.bZ,sv⟩:bF)) hs fQ rfl rfl (λ _ hs=>⟨_,_,rfl,hs⟩)
  ·refine aM hs iY (λ e5 _ hs=>?_);refine⟨aG bL (hs.p2.hb.cell rfl),?_⟩;refine⟨aG pR (Gb.ext hs.aF),?_⟩;refine⟨aG eg ((sF.cell (o:=2) rfl).ext hs.aF),?_⟩;refine⟨lR a.pv ep (ng.ext hr.b hs.aF) rfl,?_⟩;refine bI hs.p1 cM (UT.ext hs.aF) (by rw[List.length_take];simp;omega) (by decide) (λ x27 _ hs=>?_);refine⟨aG bL (hs.p2.hb.cell rfl),?_⟩;rw[List.nil_append]at hs;obtain⟨sv,rfl⟩:=(hs).fC;exact pop (kN m.bZ _ _ _) (aJ (x:=(⟨0,0,m.bZ,sv⟩:bF)) hs.p1 fQ rfl rfl (λ _ hs=>⟨_,_,rfl,hs⟩))
  ·refine aM hs iY (λ e5 _ hs=>?_);refine⟨aG bL (hs.p2.hb.cell rfl),?_⟩;refine⟨aG pR (Gb.ext hs.aF),?_⟩;refine⟨aG eg ((sF.cell (o:=2) rfl).ext hs.aF),?_⟩;refine⟨lR a.pv ep (ng.ext hr.b hs.aF) rfl,?_⟩;refine aT HX hs (C62 m.p a.pv _ (hr.uk.pr _ (hw _ hs.aF)) iy.pz) (λ w20 he hs=>?_);refine⟨aG bL (hs.p2.hb.cell rfl),?_⟩;refine⟨aG pR (Gb.ext hs.aF),?_⟩;refine⟨aG eg ((sF.cell (o:=2) rfl).ext hs.aF),?_⟩;refine lK cM B8 (by omega) (by omega) (λ x26 UT=>bI hs.p1 cM (UT.ext hs.aF) (by rw[List.length_take];simp;omega) (by decide) (λ x27 w21 hs=>?_))
   refine⟨aG bL (hs.p2.hb.cell rfl),?_⟩;rw[List.nil_append]at hs;obtain⟨sv,rfl⟩:=(hs).fC;exact pop (kN m.bZ _ _ _) (aJ (x:=(⟨0,0,m.bZ,sv⟩:bF)) hs.p1 fQ rfl rfl (λ _ hs=>⟨_,_,rfl,hs⟩))
  ·refine bI hs cM (UT.ext hs.aF) (by rw[List.length_take];simp;omega) (by decide) (λ x27 w25 hs=>?_);refine⟨aG bL (hs.p1.hb.cell rfl),?_⟩;rw[List.nil_append]at hs;obtain⟨sv,rfl⟩:=(hs).fC;refine pop (kN m.bZ _ _ _) (aM hs iY (λ e5 w26 hs=>?_));refine⟨aG bL (hs.p2.hb.cell rfl),?_⟩;refine⟨aG pR (Gb.ext hs.aF),?_⟩;refine⟨aG eg ((sF.cell (o:=2) rfl).ext hs.aF),?_⟩;refine⟨lR a.pv ep (ng.ext hr.b hs.aF) rfl,?_⟩;exact aJ (x:=(⟨0,0,m.bZ,sv⟩:bF)) hs fQ rfl rfl (λ _ hs=>⟨_,_,rfl,hs⟩)
  ·refine aM hs iY (λ e5 _ hs=>?_);refine⟨aG bL (hs.p2.hb.cell rfl),?_⟩;refine⟨aG pR (Gb.ext hs.aF),?_⟩;refine⟨aG eg ((sF.cell (o:=2) rfl).ext hs.aF),?_⟩;refine⟨lR a.pv ep (ng.ext hr.b hs.aF) rfl,?_⟩;refine bI hs.p1 cM (UT.ext hs.aF) (by rw[List.length_take];simp;omega) (by decide) (λ x27 _ hs=>?_);refine⟨aG bL (hs.p2.hb.cell rfl),?_⟩;rw[List.nil_append]at hs;obtain⟨sv,rfl⟩:=(hs).fC;exact pop (kN m.bZ _ _ _) (aJ (x:=(⟨0,0,m.bZ,sv⟩:bF)) hs.p1 fQ rfl rfl (λ _ hs=>⟨_,_,rfl,hs⟩))
  ·refine aM hs iY (λ e5 _ hs=>?_);refine⟨aG bL (hs.p1.hb.cell rfl),?_⟩;refine⟨aG pR (Gb.ext hs.aF),?_⟩;refine⟨aG eg ((sF.cell (o:=2) rfl).ext hs.aF),?_⟩;refine⟨lR a.pv ep (ng.ext hr.b hs.aF) rfl,?_⟩;refine aX ([]:List Int) hs cM rfl rfl (dI rfl) (λ x13 _ hs=>?_);refine⟨aG bL (hs.p2.hb.cell rfl),?_⟩;refine⟨aG pR (Gb.ext hs.aF),?_⟩;refine⟨aG eg ((sF.cell (o:=2) rfl).ext hs.aF),?_⟩;refine⟨lR a.pv ep (ng.ext hr.b hs.aF) rfl,?_⟩;refine bI hs cM (UT.ext hs.aF) (by rw[List.length_take];simp;omega) (by decide) (λ x27 _ hs=>?_);refine⟨aG bL (hs.p2.hb.cell rfl),?_⟩
   rw[List.nil_append]at hs;obtain⟨sv,rfl⟩:=(hs).fC;exact pop (kN m.bZ _ _ _) (aJ (x:=(⟨0,0,m.bZ,sv⟩:bF)) hs.p1 fQ rfl rfl (λ _ hs=>⟨_,_,rfl,hs⟩))
  refine aM hs iY (λ e5 _ hs=>?_);refine⟨aG bL (hs.p1.hb.cell rfl),?_⟩;refine⟨aG pR (Gb.ext hs.aF),?_⟩;refine⟨aG eg ((sF.cell (o:=2) rfl).ext hs.aF),?_⟩;refine⟨lR a.pv ep (ng.ext hr.b hs.aF) rfl,?_⟩;refine⟨?_,?_,trivial⟩
  ·refine aX ([]:List Int) hs cM rfl rfl (dI rfl) (λ x13 _ hs=>?_);refine⟨aG bL (hs.p2.hb.cell rfl),?_⟩;refine⟨aG pR (Gb.ext hs.aF),?_⟩;refine⟨aG eg ((sF.cell (o:=2) rfl).ext hs.aF),?_⟩;refine⟨lR a.pv ep (ng.ext hr.b hs.aF) rfl,?_⟩;refine aT HX hs (C62 m.p a.pv _ (hr.uk.pr _ (hw _ hs.aF)) iy.pz) (λ _ he hs=>?_);refine⟨aG bL (hs.p2.hb.cell rfl),?_⟩;refine⟨aG pR (Gb.ext hs.aF),?_⟩;refine⟨aG eg ((sF.cell (o:=2) rfl).ext hs.aF),?_⟩;refine lK cM B8 (by omega) (by omega) (λ x26 UT=>bI hs cM (UT.ext hs.aF) (by rw[List.length_take];simp;omega) (by decide) (λ x27 _ hs=>?_))
   refine⟨aG bL (hs.p2.hb.cell rfl),?_⟩;rw[List.nil_append]at hs;obtain⟨sv,rfl⟩:=(hs).fC;exact pop (kN m.bZ _ _ _) (aJ (x:=(⟨0,0,m.bZ,sv⟩:bF)) hs.p1 fQ rfl rfl (λ _ hs=>⟨_,_,rfl,hs⟩))
  refine aT HX hs (C62 m.p a.pv _ (hr.uk.pr _ (hw _ hs.aF)) iy.pz) (λ _ he hs=>?_);refine⟨aG bL (hs.p1.hb.cell rfl),?_⟩;refine⟨aG pR (Gb.ext hs.aF),?_⟩;refine⟨aG eg ((sF.cell (o:=2) rfl).ext hs.aF),?_⟩;refine lK cM B8 (by omega) (by omega) (λ x26 UT=>aX ([]:List Int) hs cM rfl rfl (dI rfl) (λ x13 _ hs=>?_));refine⟨aG bL (hs.p2.hb.cell rfl),?_⟩;refine⟨aG pR (Gb.ext hs.aF),?_⟩;refine⟨aG eg ((sF.cell (o:=2) rfl).ext hs.aF),?_⟩;refine⟨lR a.pv ep (ng.ext hr.b hs.aF) rfl,?_⟩;refine bI hs cM (UT.ext hs.aF) (by rw[List.length_take];simp;omega) (by decide) (λ x27 _ hs=>?_)
  refine⟨aG bL (hs.p2.hb.cell rfl),?_⟩;rw[List.nil_append]at hs;obtain⟨sv,rfl⟩:=(hs).fC;exact pop (kN m.bZ _ _ _) (aJ (x:=(⟨0,0,m.bZ,sv⟩:bF)) hs.p1 fQ rfl rfl (λ _ hs=>⟨_,_,rfl,hs⟩))
 rintro _ _ ⟨e5,sv,rfl,hs⟩ _
 have F0:∀w',St w aY [bY b2 (Flat.enc (⟨(nY m).1,(nY m).2,m.bZ,sv⟩:bF)),bY e5 (Flat.enc (⟨(nY m).1,(nY m).2,m.bZ,sv⟩:bF)),bG (Flat.val (sv:SV)) (m.mem.l.take (eu m.p).toNat),bY b3 (Flat.enc (iW m)),bG x10 (eY m)] w'->∃ev:bF,Flat.val (⟨(nY m).1,(nY m).2,m.bZ,sv⟩:bF)=Flat.val ev/\lL (fk (λ w=>Deep.dr w ev (Gc m))) w w':=λ w' hs=>by
  have hs:=((((hs.drop.drop).p1.drop).p1.drop).freeze).dU (Ψ:=λ w=>Deep.dr w (⟨(nY m).1,(nY m).2,m.bZ,sv⟩:bF) (Gc m)) (λ _ h=>⟨sv,rfl,DL.j3 h⟩);exact⟨_,rfl,hs.fresh⟩
 refine aA zS (aB (v:=.int .i64 m.fault) bL hs.p2.hb rfl (bV (aC (λ c1=>?_) (λ c1=>?_))))
 ·rw[aal c1]at F0;exact aA ld (aS hs bL (dI rfl) rfl (λ _ hs=>aA zS (aB (v:=.int .i64 m.fault) bL hs.p2.hb rfl (aA sV (aS hs bL (dI rfl) rfl (λ _ hs=>aE (x:=(⟨(3,m.fault).1,(3,m.fault).2,m.bZ,sv⟩:bF)) fQ hs.At (aJ (x:=(⟨(3,m.fault).1,(3,m.fault).2,m.bZ,sv⟩:bF)) hs.p4 fQ rfl rfl (λ _ hs=>aE (x:=(⟨(3,m.fault).1,(3,m.fault).2,m.bZ,sv⟩:bF)) fQ hs.At (F0 _ hs)))))))))
 refine aA pU (aB (v:=.bool (mD m)) zQ hs.p2.hb rfl (aW (λ c2=>?_) (λ c2=>?_)))
 ·rw[aam c1 c2]at F0;exact aA ld (aS hs bL (dI rfl) rfl (λ _ hs=>aE (x:=(⟨((4,0):Int×Int).1,((4,0):Int×Int).2,m.bZ,sv⟩:bF)) fQ hs.At (aJ (x:=(⟨((4,0):Int×Int).1,((4,0):Int×Int).2,m.bZ,sv⟩:bF)) hs.p4 fQ rfl rfl (λ _ hs=>aE (x:=(⟨((4,0):Int×Int).1,((4,0):Int×Int).2,m.bZ,sv⟩:bF)) fQ hs.At (F0 _ hs)))))
 refine aA pS (aB (v:=.bool (kX m)) zQ hs.p2.hb rfl (bQ (aW (λ c3=>?_) (λ c3=>?_))))
 ·rw[aap c1 c2 (by simpa using c3)]at F0;exact aE (x:=(⟨((0,0):Int×Int).1,((0,0):Int×Int).2,m.bZ,sv⟩:bF)) fQ hs.At (aJ (x:=(⟨((0,0):Int×Int).1,((0,0):Int×Int).2,m.bZ,sv⟩:bF)) hs.p4 fQ rfl rfl (λ _ hs=>aE (x:=(⟨((0,0):Int×Int).1,((0,0):Int×Int).2,m.bZ,sv⟩:bF)) fQ hs.At (F0 _ hs)))
 rw[akT c1 c2 (by simpa using c3)]at F0;refine aA ld (aS hs bL (dI rfl) rfl (λ w23 hs=>aI ue (hs.p3).dX (fe (by omega) ?_)));refine⟨λ mm y w'=>∃j:Nat,y=.int .i64 ((j:Int)-1)/\mm=j/\j<=(eY m).length/\St w aY [bY e5 (Flat.enc (⟨(vv (eY m) j).1,(vv (eY m) j).2,m.bZ,sv⟩:bF)),bG (Flat.val (sv:SV)) (m.mem.l.take (eu m.p).toNat),bY b3 (Flat.enc (iW m)),bG x10 (eY m),bY b2 (Flat.enc (⟨0,0,0,cH⟩:bF))] w',⟨_,(eY m).length,rfl,rfl,Nat.le_refl _,by rw[akS (Nat.le_refl _)];exact hs⟩,?_⟩;rintro j _ w24 ⟨_,rfl,rfl,hj,hs⟩ _;refine cS (aC (λ c4=>?_) (λ c4=>?_))
 rotate_left
 ·obtain rfl:j=0:=by omega
  exact aE (x:=(⟨(vv (eY m) 0).1,(vv (eY m) 0).2,m.bZ,sv⟩:bF)) fQ hs.At (aJ (x:=(⟨(vv (eY m) 0).1,(vv (eY m) 0).2,m.bZ,sv⟩:bF)) hs.p4 fQ rfl rfl (λ _ hs=>aE (x:=(⟨(vv (eY m) 0).1,(vv (eY m) 0).2,m.bZ,sv⟩:bF)) fQ hs.At (F0 _ hs)))
 obtain⟨i,rfl⟩:∃i,j=i+1:=⟨j-1,by omega⟩;rw[show(((i+1:Nat):Int)-1)=(i:Int)from by omega];obtain⟨e,he⟩:=gx (eY m) (i:=((i:Nat):Int).toNat) (by omega);refine⟨λ w'=>St w aY [bY e5 (Flat.enc (⟨(vv (eY m) i).1,(vv (eY m) i).2,m.bZ,sv⟩:bF)),bG (Flat.val (sv:SV)) (m.mem.l.take (eu m.p).toNat),bY b3 (Flat.enc (iW m)),bG x10 (eY m),bY b2 (Flat.enc (⟨0,0,0,cH⟩:bF))] w',?_,?_⟩;rotate_left
 ·intro w26 hs _;exact fe (by omega) ⟨_,Nat.lt_succ_self _,i,rfl,rfl,by omega,hs⟩
 refine aO ue (hs.p3).dX (by omega) he (λ q hq=>aE zQ hq ?_);rw[Int.toNat_natCast]at he;refine bQ (aW (λ c5=>?_) (λ c5=>?_))
 ·rw[akQ he (by simpa using c5)];exact aA ld (aS hs bL (dI rfl) rfl (λ _ hs=>aA sV (aS hs bL (dI rfl) rfl (λ _ hs=>hs))))
 rw[akR he (by simpa using c5)];exact hs
theorem SD{p:cG}{room c:Int}{l:List cA}{m:gW}{o:List bU}{f:Int}(h:fa p room c=0)(hg:mX c (iT p room) [] l=(m,o,f))(hf:f≠0):lO p room c l=(zE,[],f,(o.length:Int)):=by
 grind[lO,zE]
theorem aet{p:cG}{room c:Int}{l:List cA}{m:gW}{o:List bU}(h:fa p room c=0)(hg:mX c (iT p room) [] l=(m,o,0)):lO p room c l=(Gc m,o,0,0):=by
 grind[lO,Gc]
structure tE(p:cG)(n:Nat)(m:gW):Prop where
 go:zu p n m
 vo:Ju m
 fi:m.mem.dV=eX p
theorem tE.step{p:cG}{n:Nat}{m:gW}{q:cA}(h:tE p n m)(hc:Ga p):tE p (n+1) (qw m q).1:=⟨h.go.step hc,h.vo.do,(aaj h.go.ok q).trans h.fi⟩
theorem tE.new{p:cG}{room:Int}(hz:PZ p)(hc:Ga p)(hr:1<=room/\room<=16):tE p 0 (iT p room):=⟨zu.new hz hc hr,aes hc,rfl⟩
theorem tE.mono{p:cG}{a b:Nat}{m:gW}(h:tE p a m)(hab:a<=b):tE p b m:=⟨h.go.mono hab,h.vo,h.fi⟩
theorem C38(K:World->Prop)(p:cG)(pv:bO)(room c:Int)(lv:Value)(l:List cA)(w:World)(hw:∀w',Ext w w'->K w')(hp:Nk K pv p)(hz:PZ p)(hl:NF K lv l)(Cy:l.length<=1000)(US:∀q∈l,q.cut.length<=1000) :
  CR 38 [Flat.val pv,.int .i64 room,.int .i64 c,lv] w (λ v w'=>∃(ev:bF) (ov:Value),v=.tuple #[Flat.val ev,ov,.int .i64 (lO p room c l).2.2.1,.int .i64 (lO p room c l).2.2.2]/\lL (sep (fk (λ w=>Deep.dr w ev (lO p room c l).1)) (bG ov (lO p room c l).2.1)) w w'):=by
 have hs:=St.start w;refine akO _ _ _ _ _ _ ?_;unfold S38;refine cI (x:=pv) hs (λ b4 w1 hs=>aM hs iY (λ b8 w2 hs=>have hs:=hs.enc (cs':=Flat.enc (⟨0,0,0,cH⟩:bF)) rfl;aE ep hs.p1.At (dN axN (C13 K p pv room _ (λ _ e=>hw _ (hs.aF.then e)) hp hz) ?_)));rintro v20 w3 (⟨h1,rfl,he⟩|⟨h0,h1,rfl,he⟩|⟨h0,hr,b,rfl,cO⟩)
 ·have hs:=hs.ext he;refine aN rfl (aN rfl (bV (aC (λ _=>?_) (λ h=>absurd h1 h))));have e:fa p room c=fj p:=by unfold fa;rw[if_pos h1]
  refine pop (zq) (aJ (x:=(⟨0,0,0,cH⟩:bF)) hs fQ rfl rfl (λ w4 hs=>aE (x:=(⟨0,0,0,cH⟩:bF)) fQ hs.At ?_));rw[JA (by rw[e];exact h1),e];exact⟨_,_,rfl,(St.join (((hs.drop.drop).eJ (α:=bU)).fT (Φ:=λ w=>Deep.dr w (⟨0,0,0,cH⟩:bF) zE) FB)).fresh⟩
 ·have hs:=hs.ext he;refine aN rfl (aN rfl (bV (aC (λ _=>?_) (λ h=>absurd (by decide:(1:Int)≠0) h))));have e:fa p room c=1:=by unfold fa;rw[if_neg (by rw[h0];decide),if_pos h1]
  refine pop (zq) (aJ (x:=(⟨0,0,0,cH⟩:bF)) hs fQ rfl rfl (λ w4 hs=>aE (x:=(⟨0,0,0,cH⟩:bF)) fQ hs.At ?_));rw[JA (by rw[e];decide),e];exact⟨_,_,rfl,(St.join (((hs.drop.drop).eJ (α:=bU)).fT (Φ:=λ w=>Deep.dr w (⟨0,0,0,cH⟩:bF) zE) FB)).fresh⟩
 have BW:=xO h0;have hs:=hs.made cO;refine aN rfl (aN rfl (bV (aC (λ h=>absurd rfl h) (λ _=>?_))));refine⟨λ jv w'=>jv=.bool (decide (c<0\/8<c))/\w'=w3,?_,?_⟩
 ·exact aQ (aC (λ h=>⟨vb (decide_eq_true (.inl h)).symm,rfl⟩) (λ _=>cP ⟨vb (decide_eq_decide.2 (by omega)),rfl⟩))
 rintro _ _ ⟨rfl,rfl⟩ _;refine aC (λ h2=>?_) (λ h2=>?_)
 ·have e:fa p room c=1:=by unfold fa;rw[if_neg (by rw[h0];decide),if_neg (by omega),if_pos h2]
  refine pop (zq) (aJ (x:=(⟨0,0,0,cH⟩:bF)) hs.p1 fQ rfl rfl (λ _ hs=>aE (x:=(⟨0,0,0,cH⟩:bF)) fQ hs.At ?_));rw[JA (by rw[e];decide),e];exact⟨_,_,rfl,(St.join (((hs.drop.drop.drop).eJ (α:=bU)).fT (Φ:=λ w=>Deep.dr w (⟨0,0,0,cH⟩:bF) zE) FB)).fresh⟩
 have Ur:fa p room c=0:=by unfold fa;rw[if_neg (by rw[h0];decide),if_neg (by omega),if_neg h2]
 obtain⟨ts,NG⟩:=hl;have hn:ts.length=l.length:=(NG _ (hw _ hs.aF)).2.1;refine aX (([]:List bU)) hs yI rfl rfl (dI rfl) (λ x35 _ hs=>?_)
 refine⟨λ mm o y w'=>∃(k:Nat) (m:gW) (out:List bU),y=.int .i64 (k:Int)/\mm=ts.length-k/\k<=l.length/\out.length=k/\tE p k m/\(mX c (iT p room) [] l)=mX c m out (l.drop k)/\St w aY [bG o out,qA K b m,bY b8 (Flat.enc (⟨0,0,0,cH⟩:bF)),bY b4 (Flat.enc pv)] w',
  ⟨_,0,iT p room,[],rfl,rfl,Nat.zero_le _,rfl,tE.new hz BW hr,rfl,hs⟩,?_⟩
 rintro mm ov _ w8 ⟨k,m,out,rfl,rfl,hk,ho,hgv,A4,hs⟩ _;have hg:=hgv.go;have Fx:=hgv.fi.trans (by rw[hg.pr]:eX p=eX m.p);refine aI lY (NG _ (hw _ hs.aF)).1 (aQ (aC (λ c1=>?_) (λ c1=>?_)));rotate_left
 ·rw[List.drop_of_length_le (by omega)]at A4;refine dN ayA (C97 K b m _ (hs.p1).has (λ _ e=>hw _ (hs.aF.then e)) hg.ok hgv.vo Fx) ?_;rintro _ w9 ⟨e2,rfl,cO⟩;have hs:=hs.made cO;refine aJ (x:=e2) hs.p3 fQ rfl rfl (λ w10 hs=>aE (x:=e2) fQ hs.At ?_);rw[aet Ur A4];exact⟨e2,ov,rfl,(St.join ((hs.drop.p2.drop).p2.drop)).fresh⟩
 obtain⟨q,hq⟩:=gx l (i:=k) (by omega);obtain⟨tq,htq⟩:=gx ts (i:=((k:Nat):Int).toNat) (by omega);have hqd:∀w',K w'->Deep.dr w' tq q:=λ w' h=>(NG w' h).2.2 k tq q htq hq;obtain⟨gc,rfl,_⟩:=hqd _ (hw _ hs.aF)
 have hgc:∀w',K w'->dC (λ _=>True) w' (Flat.val gc) q.cut:=λ w' h=>by
  obtain⟨gc2,e,h3⟩:=hqd w' h;cases e
  exact DL.flat h3
 have hqc:=US q (List.mem_of_getElem? hq);rw[sH hq]at A4;have rA:=hg.mb.mono (b:=1000000) (by omega);have z8:=hg.cr;refine⟨λ jv w'=>jv=.bool (decide (q.kind=3/\c<=m.bZ))/\w'=w8,?_,?_⟩
 ·refine aO lY (NG _ (hw _ hs.aF)).1 (by omega) htq (λ q37 h37=>bW q.kind pL h37 rfl rfl (λ r g=>aE (x:=q.kind) bL g (aH (aC (λ c2=>?_) (λ c2=>⟨vb (decide_eq_false (λ h=>c2 h.1)).symm,rfl⟩)))));obtain⟨a,hra⟩:=qA.rd (hs.p1).has;exact aD (aA CP (bM bL (hra.b.cell (o:=7) rfl) (cS ⟨vb (decide_eq_decide.2 ⟨λ h=>⟨c2,h⟩,λ h=>h.2⟩),rfl⟩)))
 rintro _ w9 ⟨rfl,rfl⟩ _;refine aC (λ c2=>?_) (λ c2=>?_)
 ·rw[mX,if_pos c2]at A4;refine pop (zq) (aJ (x:=(⟨0,0,0,cH⟩:bF)) hs.p2 fQ rfl rfl (λ w10 hs=>aE (x:=(⟨0,0,0,cH⟩:bF)) fQ hs.At ?_));rw[SD Ur A4 (by decide),ho];exact⟨_,_,rfl,(St.join (((hs.drop.drop.drop.drop).eJ (α:=bU)).fT (Φ:=λ w=>Deep.dr w (⟨0,0,0,cH⟩:bF) zE) FB)).fresh⟩
 rw[mX,if_neg c2]at A4;refine aO lY (NG _ (hw _ hs.aF)).1 (by omega) htq (λ q37 h37=>aE qC h37 (bD axR hs.p1 (H':=λ _=>qA K b (qw m q).1) (Φ:=λ v _=>v=.tuple #[Flat.val (qw m q).2.1,.int .i64 (qw m q).2.2]) (λ F2 dY dW=>?_) ?_))
 ·exact C25 K b m q gc F2 _ dY (λ w' hc=>hw _ (dW w' hc).aF) hg.ok hgv.vo (hg.pr▸BW) rA (by omega) Fx (λ w1 hc _ e=>hw _ ((dW w1 hc).aF.then e)) (λ w' hc=>hgc _ (hw _ (dW w' hc).aF)) hqc
 rintro _ _ rfl hs;refine aN rfl (aN rfl (aM hs m7 (λ b16 _ hs=>aJ (x:=(qw m q).2.1) hs fb rfl rfl (λ _ hs=>bV (aC (λ c3=>?_) (λ c3=>?_))))))
 ·rw[if_pos c3]at A4;refine pop (zq) (aJ (x:=(⟨0,0,0,cH⟩:bF)) hs.p3 fQ rfl rfl (λ _ hs=>aE (x:=(⟨0,0,0,cH⟩:bF)) fQ hs.At ?_));rw[SD Ur A4 c3,ho];exact⟨_,_,rfl,(St.join (((hs.drop.drop.drop.drop.drop).eJ (α:=bU)).fT (Φ:=λ w=>Deep.dr w (⟨0,0,0,cH⟩:bF) zE) FB)).fresh⟩
 rw[if_neg c3]at A4;refine aE (x:=(qw m q).2.1) fb hs.At (aX [(qw m q).2.1] hs yI rfl rfl (dI rfl) (λ s64 _ hs=>?_));have akN:=(hs).dX;exact bI hs.p3 yI akN (by rw[List.length_singleton];omega) (by decide) (λ _ _ hs=>aK (by omega) ⟨ts.length-(k+1),by omega,k+1,_,out++[(qw m q).2.1],rfl,rfl,by omega,by rw[List.length_append,List.length_singleton];omega,hgv.step BW,A4,(hs.p1.drop).p1.drop⟩)
variable (w:World) (K:Value->World->Prop)
def P41:dD:=λ i=>match i with
 | 6=>.run 0 9
 | _=>.nil
def P26:dD:=λ i=>match i with
 | 6=>(.of [(1,[]),(2,[]),(3,[]),(4,[]),(5,[]),(6,[]),(7,[]),(8,[]),(9,[]),(10,[]),(11,[]),(12,[]),(13,[]),(0,[5,10]),(14,[]),(15,[]),(16,[])])
 | _=>.nil
theorem ayB:PL 29:=dF Tryz.func29
theorem arD:PL 99:=dF Tryz.func99
theorem ayC:PL 41:=dF Tryz.func41
theorem ayD:PL 26:=dF Tryz.func26
end Go.Proofs.YtpdlpabnlkofmaaGreatDoor
namespace Go.Proofs.YtpdlpabnlkofmaaGreatDoor
open Go.Fw
theorem arE:wg Tryz.prog 56=some [0,0,0,0,0]:=by kernel_rfl
theorem FC{p:cG}{room c:Int}{l:List cA}:(lO p room c l).2.2.1=(sG p room c l).2:=by
 grind[lO,sG]
theorem SE(c:Int):∀(l:List cA) (m:gW) (o:List bU) (j:Nat),(mX c m o l).2.2=0->(mX c m o (l.take j)).2.2=0
 | [],m,o,j,_=>by grind
 | q::r,m,o,0,_=>rfl
 | q::r,m,o,j+1,h=>by
  rw[List.take_succ_cons]
  unfold mX at h |-
  split at h
  ·cases h
  rename_i h1
  split at h
  ·grind
  rename_i h2
  rw[if_neg h1,if_neg h2]
  exact SE c r _ _ j h
theorem Uu{p:cG}{room c:Int}{l:List cA}{j:Nat}(hs:fa p room c=0)(h:(sG p room c l).2=0):(sG p room c (l.take j)).2=0:=by
 have e:∀l,sG p room c l=((mX c (iT p room) [] l).2.1,(mX c (iT p room) [] l).2.2):=λ l=>by unfold sG;rw[if_neg (by rw[hs];decide)]
 rw[e]at h |-
 exact SE c _ _ _ _ h
theorem aar{p:cG}{room c:Int}(hs:fa p room c=0){l:List cA}{k:Nat}(hk:k<=vu p room c l)(hl:k<l.length):(sG p room c (l.take (k+1))).2=0↔k+1<=vu p room c l:=by
 obtain⟨f1,f2,f3,f4⟩:=FA hs l
 constructor
 ·intro h
  by_cases e:k=vu p room c l
  ·obtain⟨g1,g2⟩:=f4 (by omega)
   rw[e,g2]at h
   exact absurd h g1
  omega
 intro h
 have h2:=Uu (j:=k+1) hs f2
 rw[List.take_take,Nat.min_eq_left (by omega)]at h2
 exact h2
def arF(e:cA):Bool:=decide (2<=e.kind/\e.kind<=4)
theorem ayE(x y:bU):uc (Flat.enc x) (Flat.enc y)=decide (x=y):=by
 obtain⟨a,b,c,d,e⟩:=x
 obtain⟨a2,b2,c2,d2,e2⟩:=y
 rw[show uc (Flat.enc (⟨a,b,c,d,e⟩:bU)) (Flat.enc (⟨a2,b2,c2,d2,e2⟩:bU))=(decide (a=a2)&&(decide (b=b2)&&(decide (c=c2)&&(decide (d=d2)&&(decide (e=e2)&&true)))))from rfl]
 grind
theorem C43(K:World->Prop)(p:cG)(pv:bO)(room c:Int)(lv:Value)(l:List cA)(w:World)(hw:∀w',Ext w w'->K w')(hp:Nk K pv p)(hz:PZ p)(hl:NF K lv l)(Cy:l.length<=1000)(US:∀q∈l,q.cut.length<=1000) :
  CR 43 [Flat.val pv,.int .i64 room,.int .i64 c,lv] w (λ v w'=>v=.int .i64 (vu p room c l:Int)/\Ext w w'):=by
 have hs:=St.start w;refine akP _ _ _ _ _ _ ?_;unfold S43;refine cI (x:=pv) hs (λ b4 _ hs=>aE ep hs.At (dN aer (C38 K p pv room c (.slice none 0 0) [] _ (λ _ e=>hw _ (hs.aF.then e)) hp hz (NF.nil _) (Nat.zero_le _) (λ _ h=>by cases h)) ?_));rintro _ _ ⟨e1,ov,rfl,cO⟩;have hs:=((hs.made cO).split).drop.drop;refine aN rfl (aN rfl (aN rfl (aN rfl (aM hs iY (λ b9 _ hs=>aJ (x:=e1) hs fQ rfl rfl (λ _ hs=>?_))))));rw[FC,aak];obtain⟨ts,NG⟩:=hl;have hn:ts.length=l.length:=(NG _ (hw _ hs.aF)).2.1;have hfz:fa p room c≠0->vu p room c l=0:=λ h=>by unfold vu;rw[Nn h];rfl
 refine⟨λ mm y w'=>∃k:Nat,y=.int .i64 (k:Int)/\mm=l.length-k/\k<=vu p room c l/\St w aY [bY b9 (Flat.enc e1),bY b4 (Flat.enc pv)] w',⟨_,0,rfl,rfl,Nat.zero_le _,hs⟩,?_⟩;rintro mm _ w5 ⟨k,rfl,rfl,hk,hs⟩ _;refine⟨λ jv w'=>jv=.bool (decide (k<l.length/\fa p room c=0))/\w'=w5,?_,?_⟩
 ·exact aI lY (NG _ (hw _ hs.aF)).1 (aQ (aC (λ _=>aH ⟨vb (decide_eq_decide.2 (by omega)),rfl⟩) (λ _=>⟨vb (decide_eq_false (by omega)).symm,rfl⟩)))
 rintro _ _ ⟨rfl,rfl⟩ _;refine aC (λ c2=>?_) (λ c2=>?_);rotate_left
 ·refine⟨congrArg (λ n:Nat=>Value.int .i64 (n:Int)) ?_,hs.drop.drop.aF⟩
  by_cases hz0:fa p room c=0
  ·have:=(FA hz0 l).1;omega
  have:=hfz hz0;omega
 have Ur:=c2.2;have sS:=(FA Ur l).1;refine⟨λ jv w'=>jv=.int .i64 (sG p room c (l.take (k+1))).2/\St w aY [bY b9 (Flat.enc e1),bY b4 (Flat.enc pv)] w',?_,?_⟩
 ·have hs:=hs.drew;refine aE ep hs.p1.At (aK (by omega) (jH lY (NG _ (hw _ hs.aF)).1 (by omega) (by omega) (λ s88 h88=>?_)));have O3:NF K s88 (l.take (k+1)):=⟨ts.take (k+1),λ w h=>⟨h88 w (NG w h).1,(NG w h).2.take (k+1)⟩⟩;refine⟨?_,?_,trivial⟩
  ·refine dN aer (C38 K p pv room c s88 (l.take (k+1)) _ (λ _ e=>hw _ (hs.aF.then e)) hp hz O3 (by rw[List.length_take];omega) (λ q hq=>US q (List.mem_of_mem_take hq))) ?_;rintro _ w7 ⟨e2,ov2,rfl,cO⟩;have hs:=((hs.made cO).split).drop.drop;refine aN rfl (aN rfl (aN rfl (aN rfl (aM hs iY (λ b14 w8 hs=>?_)))));refine⟨eZ ep hs.p2.At,?_⟩;exact aJ (x:=e2) hs fQ rfl rfl (λ _ hs=>⟨by rw[FC],hs.drop⟩)
  refine aM hs iY (λ b14 w8 hs=>?_);refine⟨eZ ep hs.p2.At,?_⟩;refine dN aer (C38 K p pv room c s88 (l.take (k+1)) _ (λ _ e=>hw _ (hs.aF.then e)) hp hz O3 (by rw[List.length_take];omega) (λ q hq=>US q (List.mem_of_mem_take hq))) ?_;rintro _ w7 ⟨e2,ov2,rfl,cO⟩;have hs:=((hs.made cO).split).drop.drop;exact aN rfl (aN rfl (aN rfl (aN rfl (aJ (x:=e2) hs fQ rfl rfl (λ _ hs=>⟨by rw[FC],hs.drop⟩)))))
 rintro _ _ ⟨rfl,hs⟩ _;refine bV (aC (λ c3=>?_) (λ c3=>aK (by omega) ⟨_,by omega,k+1,rfl,rfl,(aar Ur hk c2.1).1 (Decidable.not_not.1 c3),hs⟩));refine⟨congrArg (λ n:Nat=>Value.int .i64 (n:Int)) ?_,hs.drop.drop.aF⟩;have:=(aar Ur hk c2.1).2
 by_cases e:k=vu p room c l
 ·exact e
 exact absurd (this (by omega)) c3
theorem C29(a:cA)(av:bF)(b:cA)(bv:bF)(w:World)(ha:Deep.dr w av a)(hb:Deep.dr w bv b)(hn:a.cut.length<=1073741824):CR 29 [Flat.val av,Flat.val bv] w (λ v w'=>v=.bool (decide (a=b))/\Ext w w'):=by
 obtain⟨ga,rfl,ha⟩:=ha;obtain⟨gb,rfl,hb⟩:=hb;have hs:=St.start w;refine eS Tryz.func29 ?_;refine cI (x:=(⟨a.kind,a.t,a.i,ga⟩:bF)) hs (λ b2 _ hs=>cI (x:=(⟨b.kind,b.t,b.i,gb⟩:bF)) hs (λ b3 _ hs=>?_));refine⟨λ jv w'=>jv=.bool (decide (a=b))/\St w aY [bY b3 (Flat.enc (⟨b.kind,b.t,b.i,gb⟩:bF)),bY b2 (Flat.enc (⟨a.kind,a.t,a.i,ga⟩:bF))] w',?_,?_⟩
 ·refine aA ld (aB (v:=.int .i64 a.kind) bL hs.p1.hb rfl (aA ld (aB (v:=.int .i64 b.kind) bL hs.hb rfl (aH (aC (λ c0=>?_) (λ c0=>⟨vb (decide_eq_false (λ h=>c0 (by rw[h]))).symm,hs⟩))))));refine aA sV (aB (v:=.int .i64 a.t) bL hs.p1.hb rfl (aA sV (aB (v:=.int .i64 b.t) bL hs.hb rfl ?_)));exact aH (aC (λ c1=>aA CQ (aB (v:=.int .i64 a.i) bL hs.p1.hb rfl (aA CQ (aB (v:=.int .i64 b.i) bL hs.hb rfl (aH (aC (λ c2=>aA CS (aB (v:=Flat.val (ga:SV)) eg hs.p1.hb rfl (aA CS (aB (v:=Flat.val (gb:SV)) eg hs.hb rfl (aT atq hs (C71 _ _ a.cut b.cut _ (DL.flat (ha.ext hs.aF)) (DL.flat (hb.ext hs.aF)) hn) (λ _ _ hs=>⟨vb (decide_eq_decide.2 ⟨λ h=>adW.2 ⟨c0,c1,c2,h⟩,λ h=>by rw[h]⟩),hs⟩)))))) (λ c2=>⟨vb (decide_eq_false (λ h=>c2 (by rw[h]))).symm,hs⟩))))))) (λ c1=>⟨vb (decide_eq_false (λ h=>c1 (by rw[h]))).symm,hs⟩))
 rintro _ _ ⟨rfl,hs⟩ _;exact⟨rfl,hs.drop.drop.aF⟩
theorem C99(e:cA)(ev:bF)(w:World)(he:Deep.dr w ev e):CR 99 [Flat.val ev] w (λ v w'=>v=.bool (arF e)/\Ext w w'):=by
 obtain⟨g,rfl,_⟩:=he;have hs:=St.start w;refine eS Tryz.func99 ?_;refine cI (x:=(⟨e.kind,e.t,e.i,g⟩:bF)) hs (λ b2 _ hs=>?_);refine⟨λ jv w'=>jv=.bool (arF e)/\St w aY [bY b2 (Flat.enc (⟨e.kind,e.t,e.i,g⟩:bF))] w',?_,?_⟩
 ·exact aA ld (aB (v:=.int .i64 e.kind) bL hs.hb rfl (aH (aC (λ _=>⟨vb (decide_eq_true (by omega)).symm,hs⟩) (λ _=>aA ld (aB (v:=.int .i64 e.kind) bL hs.hb rfl (aH (aC (λ _=>⟨vb (decide_eq_true (by omega)).symm,hs⟩) (λ _=>aA ld (aB (v:=.int .i64 e.kind) bL hs.hb rfl (aH ⟨vb (decide_eq_decide.2 (by omega)),hs⟩))))))))))
 rintro _ _ ⟨rfl,hs⟩ _;exact⟨rfl,hs.drop.aF⟩
theorem C41(av bv:Value)(xs ys:List bU)(w:World)(hA:dC (λ _=>True) w av xs)(hB:dC (λ _=>True) w bv ys)(hn:xs.length<=1073741824):CR 41 [av,bv] w (λ v w'=>v=.bool (decide (xs=ys))/\Ext w w'):=by
 have hs:=St.start w;refine oY Tryz.func41 (pl:=P41) ?_;refine aI yI (hA.ext hs.aF) (aI yI (hB.ext hs.aF) (bV (aC (λ _=>⟨vb (decide_eq_false (by rintro rfl;omega)).symm,hs.aF⟩) (λ c1=>?_))));refine⟨λ mm i w'=>∃k:Nat,i=.int .i64 (k:Int)/\mm=xs.length-k/\k<=xs.length/\xs.take k=ys.take k/\St w aY [] w',⟨_,0,rfl,rfl,Nat.zero_le _,rfl,hs⟩,?_⟩;rintro mm _ _ ⟨k,rfl,rfl,hk,heq,hs⟩ _;refine aI yI (hA.ext hs.aF) (aQ (aC (λ c2=>?_) (λ _=>⟨vb (decide_eq_true (by rw[List.take_of_length_le (by omega),List.take_of_length_le (by omega)]at heq;exact heq)).symm,hs.aF⟩)));obtain⟨x,hx⟩:=gx xs (i:=((k:Nat):Int).toNat) (by omega)
 obtain⟨y,hy⟩:=gx ys (i:=((k:Nat):Int).toNat) (by omega);exact aO yI hA (by omega) hx (λ _ h1=>have hs:=hs.drew;aE fb (h1.ext hs.aF) (aO yI hB (by omega) hy (λ _ h2=>aE fb (h2.ext hs.aF) (S2 arE rfl rfl (ayE x y) (aC (λ c3=>⟨vb (decide_eq_false (aqR hx hy c3)).symm,hs.aF⟩) (λ c3=>aK (by omega) ⟨_,by omega,k+1,rfl,rfl,by omega,Js heq hx hy (Decidable.not_not.1 c3),hs⟩))))))
def FD(q:cA):cA:={q with cut:=q.cut.take 25}
def qV(l:List cA):List cA:=(l.take 40).map FD
theorem aas(l:List cA):(qV l).length<=40/\∀q∈qV l,q.cut.length<=25:=by
 unfold qV
 refine⟨by grind,λ q hq=>?_⟩
 obtain⟨x,_,rfl⟩:=List.mem_map.1 hq
 show(x.cut.take 25).length<=25
 grind
theorem arG(xs:List Int):([]:List Int)++xs.take (min (xs.length:Int) 25).toNat=xs.take 25:=by
 rw[List.nil_append]
 rcases Int.le_total (xs.length:Int) 25 with h|h
 ·rw[Int.min_eq_left h,Int.toNat_natCast,List.take_of_length_le (Nat.le_refl _),List.take_of_length_le (by omega)]
 grind
theorem C26(lv:Value)(l:List cA)(w:World)(hL:DL w lv l):CR 26 [lv] w (λ v w'=>lL (fk (λ w=>DL w v (qV l))) w w'):=by
 obtain⟨ts,hR,hD⟩:=hL.open;have hn:ts.length=l.length:=hD.1;have hs:=St.start w;refine oY Tryz.func26 (pl:=P26) ?_;refine te (α:=cA) hs lY (λ s6 _ hs=>?_);refine⟨λ mm o y w'=>∃k:Nat,y=.int .i64 (k:Int)/\mm=40-k/\k<=40/\k<=l.length/\St w aY [fV o ((l.take k).map FD)] w',⟨_,0,rfl,rfl,Nat.zero_le _,Nat.zero_le _,hs⟩,?_⟩;rintro mm o _ w2 ⟨k,rfl,rfl,hk,vD,hs⟩ _;have B8:((l.take k).map FD).length=k:=by rw[List.length_map,List.length_take];omega
 refine⟨λ jv w'=>jv=.bool (decide (k<l.length/\k<40))/\w'=w2,?_,?_⟩
 ·exact aI lY (hR.ext hs.aF) (aQ (aC (λ _=>aQ ⟨vb (decide_eq_decide.2 (by omega)),rfl⟩) (λ _=>⟨vb (decide_eq_false (by omega)).symm,rfl⟩)))
 rintro _ _ ⟨rfl,rfl⟩ _;refine aC (λ c2=>?_) (λ c2=>?_);rotate_left
 ·rw[ql (xs:=l) (k:=k) (m:=40) (by omega) (by omega) c2]at hs;exact hs.nJ.fresh
 obtain⟨q,hq⟩:=gx l (i:=k) (by omega);obtain⟨tq,htq⟩:=gx ts (i:=((k:Nat):Int).toNat) (by omega);obtain⟨gc,rfl,hgc⟩:=hD.2 k tq q htq hq;have hc:=DL.flat hgc;refine aO lY hR (by omega) htq (λ q19 h19=>aE qC (h19.ext hs.aF) (aM hs DG (λ b5 _ hs=>aJ (x:=(⟨q.kind,q.t,q.i,gc⟩:bF)) hs qC rfl rfl (λ _ hs=>have hs:=hs.drew;aO lY hR (by omega) htq (λ q24 h24=>bW gc pM h24 rfl rfl (λ q25 h25=>aE eg (h25.ext hs.aF) (aO lY hR (by omega) htq (λ q29 h29=>bW gc pM h29 rfl rfl (λ q30 h30=>aE eg (h30.ext hs.aF) (aI cM (hc.ext hs.aF) (qY (jH cM hc (by omega) (by omega) (λ s34 h34=>?_)))))))))))))
 refine aX ([]:List Int) hs cM rfl rfl (dI rfl) (λ s21 _ hs=>?_);refine⟨eZ eg (h25.ext hs.aF),?_⟩;refine⟨eZ eg (h30.ext hs.aF),?_⟩;refine bI hs cM (h34 _ (hc.ext hs.aF)) (by rw[List.length_take];simp;omega) (by decide) (λ s35 _ hs=>?_);rw[arG]at hs;obtain⟨aat,rfl⟩:=(hs).fC;exact aA pM (aS hs.p1 eg (dI rfl) rfl (λ _ hs=>have hs:=hs.enc (cs':=Flat.enc (⟨q.kind,q.t,q.i,aat⟩:bF)) rfl;aE (x:=(⟨q.kind,q.t,q.i,aat⟩:bF)) qC hs.At (have hs:=(hs.p1.freeze).dU (Ψ:=λ w=>Deep.dr w (⟨q.kind,q.t,q.i,aat⟩:bF) (FD q)) (λ _ h=>⟨aat,rfl,DL.j3 h⟩);gw (x:=FD q) (s:=(⟨q.kind,q.t,q.i,aat⟩:bF)) hs lY (by decide) (λ _ _ hs=>gy hs.p2 lY (by rw[B8,List.length_singleton];omega) (by decide) (λ _ _ hs=>aK (by omega) ⟨_,by omega,k+1,rfl,rfl,by omega,by omega,by rw[<- fW (k:=k) hq];exact(hs.p1).drop⟩)))))
variable (w:World) (K:Value->World->Prop)
theorem agG:PL 278:=dF Tryz.func278
theorem agH:PL 231:=dF Tryz.func231
theorem arH:PL 173:=dF Tryz.func173
theorem arI:PL 174:=dF Tryz.func174
theorem arJ:PL 175:=dF Tryz.func175
theorem SF:PL 104:=dF Tryz.func104
theorem aau:PL 103:=dF Tryz.func103
theorem agI:PL 105:=dF Tryz.func105
end Go.Proofs.YtpdlpabnlkofmaaGreatDoor
namespace Go.Proofs.YtpdlpabnlkofmaaGreatDoor
open Go.Fw
theorem zx(a0:Int)(a1:Int):pr Tryz.prog (Instr.build 245 [(0,.int .i64 a0),(1,.int .i64 a1)].toArray)=some (.agg [.int .i64 a0,.int .i64 a1].toArray):=by kernel_rfl
theorem BX(a0:ByteArray)(a1:ByteArray)(a2:ByteArray)(a3:ByteArray)(a4:ByteArray):pr Tryz.prog (Instr.build 248 [(0,.string a0),(1,.string a1),(2,.string a2),(3,.string a3),(4,.string a4)].toArray)=some (.agg [.string a0,.string a1,.string a2,.string a3,.string a4].toArray):=by kernel_rfl
@[ext] structure mY where
 a:Int
 b:Int
deriving DecidableEq
instance:Flat mY where
 agg:=true
 sz:=2
 enc e:=[.int .i64 e.a,.int .i64 e.b]
 val e:=.agg [.int .i64 e.a,.int .i64 e.b].toArray
 pos:=by decide
 len _:=rfl
 one a v h:=by grind[uV]
 m6 _ _:=rfl
 nn h:=by cases h
instance:Deep mY mY:=iC
def yA:List Int->List Int->Bool
 | [],[]=>false
 | [],_::_=>true
 | _::_,[]=>false
 | a::r,b::s=>if a=b then yA r s else decide (a<b)
theorem FE:∀l:List Int,yA l l=false
 | []=>rfl
 | a::r=>by unfold yA;rw[if_pos rfl];exact FE r
theorem No:∀{a b:List Int},yA a b=false->yA b a=false->a=b
 | [],[],_,_=>rfl
 | [],_::_,h,_=>by cases h
 | _::_,[],_,h=>by cases h
 | a::r,b::s,h,h2=>by
  unfold yA at h h2
  by_cases e:a=b
  ·rw[if_pos e]at h;rw[if_pos e.symm]at h2;rw[e,No h h2]
  grind
def yB(a b:cA):Bool:=yA ([a.kind,a.t,a.i]++a.cut) ([b.kind,b.t,b.i]++b.cut)
def aav(a b:cA):Bool:=decide (a=b)
theorem akV{a b:cA}(h:[a.kind,a.t,a.i]++a.cut=[b.kind,b.t,b.i]++b.cut):a=b:=by
 cases a;simp_all
theorem Uv(a b:cA):aav a b=(!yB a b&&!yB b a):=by
 unfold aav
 by_cases e:a=b
 ·subst e
  have:yB a a=false:=FE _
  grind
 rw[decide_eq_false e]
 cases h1:yB a b with
 | true=>rfl
 | false=>
  cases h2:yB b a with
  | true=>rfl
  | false=>exact absurd (akV (No h1 h2)) e
def xm(a b:Int):Int:=if a<b then -1 else if b<a then 1 else 0
def BY:List mY->Int
 | []=>0
 | p::r=>if xm p.a p.b=0 then BY r else xm p.a p.b
def orM:List Int->Int
 | []=>0
 | a::r=>if a=0 then orM r else a
def sI:List Int->List Int->Int
 | [],[]=>0
 | [],_::_=>-1
 | _::_,[]=>1
 | a::r,b::s=>if xm a b=0 then sI r s else xm a b
theorem aeu{l:List mY}{k:Nat}{e:mY}(h:l[k]?=some e)(hc:xm e.a e.b=0):BY (l.drop k)=BY (l.drop (k+1)):=by
 rw[sH h,BY,if_pos hc]
theorem aev{l:List mY}{k:Nat}{e:mY}(h:l[k]?=some e)(hc:¬ xm e.a e.b=0):BY (l.drop k)=xm e.a e.b:=by
 rw[sH h,BY,if_neg hc]
theorem akW{l:List Int}{k:Nat}{e:Int}(h:l[k]?=some e)(hc:e=0):orM (l.drop k)=orM (l.drop (k+1)):=by
 rw[sH h,orM,if_pos hc]
theorem akX{l:List Int}{k:Nat}{e:Int}(h:l[k]?=some e)(hc:¬ e=0):orM (l.drop k)=e:=by
 rw[sH h,orM,if_neg hc]
theorem aew{l m:List Int}{k:Nat}{a b:Int}(h:l[k]?=some a)(h2:m[k]?=some b)(hc:xm a b=0):sI (l.drop k) (m.drop k)=sI (l.drop (k+1)) (m.drop (k+1)):=by
 rw[sH h,sH h2,sI,if_pos hc]
theorem aex{l m:List Int}{k:Nat}{a b:Int}(h:l[k]?=some a)(h2:m[k]?=some b)(hc:¬ xm a b=0):sI (l.drop k) (m.drop k)=xm a b:=by
 rw[sH h,sH h2,sI,if_neg hc]
theorem aaw{l m:List Int}{k:Nat}{a:Int}(h:l[k]?=some a)(h2:m.length<=k):sI (l.drop k) (m.drop k)=1:=by
 rw[sH h,List.drop_eq_nil_of_le h2,sI]
theorem Np{l m:List Int}{k:Nat}(h:l.length<=k)(h1:k<=m.length)(h2:k<=l.length):sI (l.drop k) (m.drop k)=if l.length<m.length then -1 else 0:=by
 rw[List.drop_eq_nil_of_le h]
 by_cases e:l.length<m.length
 ·rw[if_pos e]
  obtain⟨b,hb⟩:=gx m (i:=k) (by omega)
  rw[sH hb,sI]
 grind[sI]
theorem Uw{a b:Int}:xm a b=0↔a=b:=by grind[xm]
theorem HK:∀(a b:List Int),decide (sI a b<0)=yA a b
 | [],[]=>rfl
 | [],_::_=>rfl
 | _::_,[]=>rfl
 | a::r,b::s=>by
  rw[sI,yA]
  by_cases e:a=b
  ·rw[if_pos (Uw.2 e),if_pos e,HK r s]
  grind[xm,sI,yA]
def agJ(a b:cA):List mY:=[⟨a.kind,b.kind⟩,⟨a.t,b.t⟩,⟨a.i,b.i⟩]
theorem aey(a b:cA):decide (orM [BY (agJ a b),sI a.cut b.cut]<0)=yB a b:=by
 unfold yB
 rw[<- HK]
 simp only[List.cons_append,List.nil_append,agJ,orM,BY,sI]
 grind
def nmL:List ByteArray:=[ByteArray.mk #[111,112,101,110],ByteArray.mk #[115,97,102,101],ByteArray.mk #[99,108,97,105,109],ByteArray.mk #[102,97,117,108,116],ByteArray.mk #[115,116,117,99,107]]
def aax(k:Int):ByteArray:=if k<0\/5<=k then ByteArray.mk #[]else nmL.getD k.toNat (ByteArray.mk #[])
theorem C278(a:Int)(w:World):CR 278 [.int .i64 a] w (λ v w'=>v=.bool false/\Ext w w'):=by
 have hs:=St.start w;refine eS Tryz.func278 ?_;exact bV ⟨vb (by simp),hs.aF⟩
theorem C231(x y:Int)(w:World):CR 231 [.int .i64 x,.int .i64 y] w (λ v w'=>v=.int .i64 (xm x y)/\Ext w w'):=by
 have hs:=St.start w;refine eS Tryz.func231 ?_;refine aT agG hs (C278 _ _) (λ _ he hs=>aT agG hs (C278 _ _) (λ _ he hs=>fm (fm (aQ (aC (λ dO=>?_) (λ dO=>cP (aC (λ eQ=>?_) (λ eQ=>?_))))))))
 ·unfold xm
  first|(rw[if_pos (show x<y from dO)];exact⟨rfl,hs.aF⟩)|(rw[if_neg (show ¬ x<y from dO),if_pos (show y<x from eQ)];exact⟨rfl,hs.aF⟩)|(rw[if_neg (show ¬ x<y from dO),if_neg (show ¬ y<x from eQ)];exact⟨rfl,hs.aF⟩)
 ·unfold xm
  first|(rw[if_pos (show x<y from dO)];exact⟨rfl,hs.aF⟩)|(rw[if_neg (show ¬ x<y from dO),if_pos (show y<x from eQ)];exact⟨rfl,hs.aF⟩)|(rw[if_neg (show ¬ x<y from dO),if_neg (show ¬ y<x from eQ)];exact⟨rfl,hs.aF⟩)
 unfold xm
 first|(rw[if_pos (show x<y from dO)];exact⟨rfl,hs.aF⟩)|(rw[if_neg (show ¬ x<y from dO),if_pos (show y<x from eQ)];exact⟨rfl,hs.aF⟩)|(rw[if_neg (show ¬ x<y from dO),if_neg (show ¬ y<x from eQ)];exact⟨rfl,hs.aF⟩)
theorem C173(lv:Value)(l:List mY)(w:World)(hL:dC (λ _=>True) w lv l)(hn:l.length<=1073741824):CR 173 [lv] w (λ v w'=>v=.int .i64 (BY l)/\Ext w w'):=by
 have hs:=St.start w;refine eS Tryz.func173 ?_;refine aI VK (hL.ext hs.aF) ?_;refine⟨λ mm i w'=>∃k:Nat,i=.int .i64 (k:Int)/\mm=l.length-k/\k<=l.length/\BY l=BY (l.drop k)/\St w aY [] w',⟨_,0,rfl,rfl,Nat.zero_le _,rfl,hs⟩,?_⟩;rintro mm _ _ ⟨k,rfl,rfl,hk,heq,hs⟩ _;refine aQ (aC (λ jj=>?_) (λ _=>⟨congrArg (Value.int .i64) (by rw[heq,List.drop_eq_nil_of_le (by omega)];rfl),hs.aF⟩));obtain⟨My,tT⟩:=gx (l) (i:=((k:Int)).toNat) (by omega);exact aO VK hL (by omega) tT (λ _ qo=>aE afe (qo.ext hs.aF) (aM hs abE (λ _ _ hs=>aJ (x:=My) hs afe rfl rfl (λ _ hs=>aA VI (aB (v:=.int .i64 ((My).a)) bL hs.hb rfl (aA VJ (aB (v:=.int .i64 ((My).b)) bL hs.hb rfl (aT agH hs (C231 _ _ _) (λ _ _ hs=>bV (aC (λ _=>⟨congrArg (Value.int .i64) (heq.trans (aev tT (by omega))).symm,hs.drop.aF⟩) (λ _=>aK (by omega) ⟨_,by omega,k+1,rfl,rfl,by omega,heq.trans (aeu tT (by omega)),hs.drop⟩)))))))))))
theorem C174(lv:Value)(l:List Int)(w:World)(hL:dC (λ _=>True) w lv l)(hn:l.length<=1073741824):CR 174 [lv] w (λ v w'=>v=.int .i64 (orM l)/\Ext w w'):=by
 have hs:=St.start w;refine eS Tryz.func174 ?_;refine aI cM (hL.ext hs.aF) ?_;refine⟨λ mm i w'=>∃k:Nat,i=.int .i64 (k:Int)/\mm=l.length-k/\k<=l.length/\orM l=orM (l.drop k)/\St w aY [] w',⟨_,0,rfl,rfl,Nat.zero_le _,rfl,hs⟩,?_⟩;rintro mm _ _ ⟨k,rfl,rfl,hk,heq,hs⟩ _;refine aQ (aC (λ jj=>?_) (λ _=>⟨congrArg (Value.int .i64) (by rw[heq,List.drop_eq_nil_of_le (by omega)];rfl),hs.aF⟩));obtain⟨My,tT⟩:=gx (l) (i:=((k:Int)).toNat) (by omega);exact aO cM hL (by omega) tT (λ _ qo=>aE bL (qo.ext hs.aF) (bV (aC (λ _=>⟨congrArg (Value.int .i64) (heq.trans (akX tT (by omega))).symm,hs.aF⟩) (λ _=>aK (by omega) ⟨_,by omega,k+1,rfl,rfl,by omega,heq.trans (akW tT (by omega)),hs⟩))))
theorem C175(av bv:Value)(xs ys:List Int)(w:World)(hA:dC (λ _=>True) w av xs)(hB:dC (λ _=>True) w bv ys)(hn:xs.length<=1073741824):CR 175 [av,bv] w (λ v w'=>v=.int .i64 (sI xs ys)/\Ext w w'):=by
 have hs:=St.start w;refine eS Tryz.func175 ?_;refine aI cM (hA.ext hs.aF) ?_;refine⟨λ mm i w'=>∃k:Nat,i=.int .i64 (k:Int)/\mm=xs.length-k/\k<=xs.length/\k<=ys.length/\sI xs ys=sI (xs.drop k) (ys.drop k)/\St w aY [] w',⟨_,0,rfl,rfl,Nat.zero_le _,Nat.zero_le _,rfl,hs⟩,?_⟩;rintro mm _ _ ⟨k,rfl,rfl,hk,vD,heq,hs⟩ _;refine aQ (aC (λ mR=>?_) (λ _=>aI cM (hA.ext hs.aF) (aI cM (hB.ext hs.aF) (aQ (aC (λ _=>⟨congrArg (Value.int .i64) (show((-1):Int)=sI xs ys by rw[heq,Np (by omega) vD hk,if_pos (by omega)]),hs.aF⟩) (λ _=>⟨congrArg (Value.int .i64) (show(0:Int)=sI xs ys by rw[heq,Np (by omega) vD hk,if_neg (by omega)]),hs.aF⟩))))))
 obtain⟨gV,dw⟩:=gx (xs) (i:=((k:Int)).toNat) (by omega);refine aO cM hA (by omega) dw (λ _ gA=>aE bL (gA.ext hs.aF) (aI cM (hB.ext hs.aF) (cS (aC (λ _=>⟨congrArg (Value.int .i64) (heq.trans (aaw dw (by omega))).symm,hs.aF⟩) (λ eQ=>?_)))));obtain⟨Ck,pE⟩:=gx (ys) (i:=((k:Int)).toNat) (by omega);exact aO cM hB (by omega) pE (λ _ wH=>aE bL (wH.ext hs.aF) (aT agH hs (C231 _ _ _) (λ _ _ hs=>bV (aC (λ _=>⟨congrArg (Value.int .i64) (heq.trans (aex dw pE (by omega))).symm,hs.aF⟩) (λ _=>aK (by omega) ⟨_,by omega,k+1,rfl,rfl,by omega,by omega,heq.trans (aew dw pE (by omega)),hs⟩)))))
theorem C104(a:cA)(av:bF)(b:cA)(bv:bF)(w:World)(ha:Deep.dr w av a)(hb:Deep.dr w bv b)(hn:a.cut.length<=1073741824):CR 104 [Flat.val av,Flat.val bv] w (λ v w'=>v=.bool (yB a b)/\Ext w w'):=by
 obtain⟨BZ,rfl,xQ⟩:=ha;obtain⟨B0,rfl,xR⟩:=hb;have hs:=St.start w;refine eS Tryz.func104 ?_;refine cI hs (λ ayG _ hs=>cI hs (λ ayH _ hs=>aA ld (aB (v:=.int .i64 ((a).kind)) bL hs.p1.hb rfl (aA ld (aB (v:=.int .i64 ((b).kind)) bL hs.hb rfl (pop (zx _ _) (aA sV (aB (v:=.int .i64 ((a).t)) bL hs.p1.hb rfl (aA sV (aB (v:=.int .i64 ((b).t)) bL hs.hb rfl (pop (zx _ _) (aA CQ ?_))))))))))));refine aB (v:=.int .i64 ((a).i)) bL hs.p1.hb rfl (aA CQ (aB (v:=.int .i64 ((b).i)) bL hs.hb rfl (pop (zx _ _) (aX ([(⟨(a).kind,(b).kind⟩:mY),(⟨(a).t,(b).t⟩:mY),(⟨(a).i,(b).i⟩:mY)]) hs VK rfl rfl (dI rfl) (λ afW _ hs=>aT arH hs (C173 _ [(⟨(a).kind,(b).kind⟩:mY),(⟨(a).t,(b).t⟩:mY),(⟨(a).i,(b).i⟩:mY)] _ (hs).dX (dI rfl)) (λ _ he hs=>aA CS (aB eg hs.p2.hb rfl ?_)))))))
 have ah2:=DL.flat (xQ);refine aA CS (aB eg hs.p1.hb rfl ?_);have acK:=DL.flat (xR);exact aT arJ hs (C175 _ _ (a).cut (b).cut _ (ah2.ext hs.aF) (acK.ext hs.aF) (hn)) (λ _ _ hs=>aX (([(BY [(⟨(a).kind,(b).kind⟩:mY),(⟨(a).t,(b).t⟩:mY),(⟨(a).i,(b).i⟩:mY)]),(sI (a).cut (b).cut)]:List Int)) hs cM rfl rfl (dI rfl) (λ _ _ hs=>aT arI hs (C174 _ ([(BY [(⟨(a).kind,(b).kind⟩:mY),(⟨(a).t,(b).t⟩:mY),(⟨(a).i,(b).i⟩:mY)]),(sI (a).cut (b).cut)]:List Int) _ (hs).dX (dI rfl)) (λ _ _ hs=>aQ (have hs:=((((((hs.drop)).drop)).drop)).drop;⟨vb (aey a b),hs.aF⟩))))
theorem C103(a:cA)(av:bF)(b:cA)(bv:bF)(w:World)(ha:Deep.dr w av a)(hb:Deep.dr w bv b)(hn:a.cut.length<=1073741824)(hm:b.cut.length<=1073741824):CR 103 [Flat.val av,Flat.val bv] w (λ v w'=>v=.bool (aav a b)/\Ext w w'):=by
 obtain⟨BZ,rfl,xQ⟩:=ha;obtain⟨B0,rfl,xR⟩:=hb;have hs:=St.start w;refine eS Tryz.func103 ?_;refine cI hs (λ ayG _ hs=>cI hs (λ ayH _ hs=>⟨λ jv w'=>jv=.bool (!yB a b&&!yB b a)/\St w aY [] w',aE fQ hs.p1.At (aE fQ hs.At (aT SF hs (C104 a _ b _ _ ⟨BZ,rfl,(xQ.ext hs.aF)⟩ ⟨B0,rfl,(xR.ext hs.aF)⟩ hn) (λ _ _ hs=>bQ (aW (λ fL=>aE fQ hs.At (aE fQ hs.p1.At (aT SF hs (C104 b _ a _ _ ⟨B0,rfl,(xR.ext hs.aF)⟩ ⟨BZ,rfl,(xQ.ext hs.aF)⟩ hm) (λ _ _ hs=>bQ (have hs:=((hs.drop)).drop;⟨vb (by rw[Bool.not_eq_true']at fL;rw[fL];rfl),hs⟩))))) (λ fL=>have hs:=((hs.drop)).drop;⟨vb (by rw[Bool.not_eq_false']at fL;rw[fL];rfl),hs⟩))))),?_⟩))
 rintro _ _ ⟨rfl,hs⟩ _;exact⟨vb ((Uv a b).symm),hs.aF⟩
theorem C105(k:Int)(w:World):CR 105 [.int .i64 k] w (λ v w'=>v=.string (aax k)/\Ext w w'):=by
 have hs:=St.start w;refine eS Tryz.func105 ?_;refine⟨λ jv w'=>jv=.bool (decide (k<0\/5<=k))/\w=w',aQ (aC (λ _=>⟨JX (by omega),rfl⟩) (λ _=>cS ⟨xS (by omega),rfl⟩)),?_⟩;rintro _ _ ⟨rfl,hw⟩ _;subst hw;refine aC (λ fL=>⟨congrArg Value.string (by unfold aax;rw[if_pos fL]),hs.aF⟩) (λ fL=>?_);refine⟨_,BX _ _ _ _ _,?_⟩;obtain rfl|rfl|rfl|rfl|rfl:k=0\/k=1\/k=2\/k=3\/k=4:=by omega
 all_goals exact⟨.string (aax _),by kernel_rfl,rfl,hs.aF⟩
variable (w:World) (K:Value->World->Prop)
def S44:Prop:=
 cF 65 [(Go.Value.string (ByteArray.mk (#[108,105,110,101,32,97,59,32,116,104,114,101,97,100,32,116,32,123,32,115,116,111,114,101,32,97,32,61,32,49,59,32,99,104,101,99,107,32,48,59,32,125,32,114,101,99,111,118,101,114,32,123,32,125,32,97,108,119,97,121,115,32,97,32,61,61,32,48,59])))] w λ a b=>
 xT a 0 λ c=>xT a 1 λ _=>xT a 2 λ _=>aL 27 b λ p1 d=>sA 27 p1 c d λ e=>eN Tryz.prog (Instr.build 50 [(0,(i 1))].toArray) λ f=>eN Tryz.prog (Instr.build 50 [(0,(i 2))].toArray) λ g=>
 aL 50 e λ Cq h=>aL 50 h λ uT j=>sA 50 Cq f j λ k=>sA 50 uT g k λ l=>bS 41 1 [(0,(i 1))] l λ n o=>eN Tryz.prog (Instr.build 50 [(0,(i 3)),(3,n)].toArray) λ p=>
 aL 50 o λ FG q=>sA 50 FG p q λ r=>lA 27 p1 r λ s=>lA 50 Cq r λ t=>lA 50 uT r λ u=>lA 50 FG r λ v=>bS 39 3 [(0,t),(1,u),(2,v)] r λ x y=>cF 40 [s,(i 2),(i 1),x] y λ z aa=>
 xT z 0 λ ab=>xT z 1 λ ac=>xT z 2 λ ad=>xT z 3 λ _=>aL 63 aa λ a7 ae=>sA 63 a7 ab ae λ af=>lA 27 p1 af λ ag=>lA 50 Cq af λ ah=>lA 50 Cq af λ ai=>bS 39 2 [(0,ah),(1,ai)] af λ aj ak=>
 cF 40 [ag,(i 2),(i 1),aj] ak λ al am=>xT al 0 λ an=>xT al 1 λ _=>xT al 2 λ ao=>xT al 3 λ _=>aL 63 am λ b11 ap=>sA 63 b11 an ap λ aq=>lA 27 p1 aq λ ar=>lA 50 Cq aq λ asx=>
 lA 50 uT aq λ au=>lA 50 FG aq λ av=>bS 39 3 [(0,asx),(1,au),(2,av)] aq λ aw ax=>cF 40 [ar,(i 2),(i 0),aw] ax λ ay az=>xT ay 0 λ a0=>xT ay 1 λ _=>xT ay 2 λ a1=>
 xT ay 3 λ a2=>aL 63 az λ a3 a4=>sA 63 a3 a0 a4 λ a5=>lA 27 p1 a5 λ a6=>lA 50 Cq a5 λ a8=>lA 50 FG a5 λ a9=>bS 39 2 [(0,a8),(1,a9)] a5 λ ba bb=>cF 40 [a6,(i 2),(i 1),ba] bb λ bc bd=>
 xT bc 0 λ be=>xT bc 1 λ _=>xT bc 2 λ bf=>xT bc 3 λ bg=>aL 63 bd λ bh bi=>sA 63 bh be bi λ bj=>lA 27 p1 bj λ bk=>cF 40 [bk,(i 2),(i 9),(.slice none 0 0)] bj λ bl bm=>
 xT bl 0 λ bn=>xT bl 1 λ _=>xT bl 2 λ bo=>xT bl 3 λ _=>aL 63 bm λ bp bq=>sA 63 bp bn bq λ br=>lA 27 p1 br λ bs=>cF 40 [bs,(i 2),(i 0),(.slice none 0 0)] br λ bt bu=>
 xT bt 0 λ bv=>xT bt 1 λ _=>xT bt 2 λ bw=>xT bt 3 λ _=>aL 63 bu λ c27 bx=>sA 63 c27 bv bx λ bz=>fc (λ K1=>lA 63 a7 bz λ b0=>bS 41 1 [(0,(i 1))] bz λ b1 b2=>
 eN Tryz.prog (Instr.build 63 [(0,(i 2)),(2,(i 1)),(3,b1)].toArray) λ b3=>cF 103 [b0,b3] b2 λ b4 b5=>cV b4 (lN 72 ac λ b6=>bB .eql 3 b6 (i 3) λ b7=>cV b7 (bB .eql 31 ad (i 0) λ b8=>
 cV b8 (lA 63 b11 b5 λ b9=>bS 41 1 [(0,(i 0))] b5 λ ca cb=>eN Tryz.prog (Instr.build 63 [(0,(i 3)),(1,(i 1)),(3,ca)].toArray) λ cc=>cF 103 [b9,cc] cb λ cd ce=>cV cd (
 bB .eql 31 ao (i 0) λ cf=>cV cf (bB .eql 31 a1 (i 14) λ cg=>cV cg (bB .eql 3 a2 (i 2) λ ch=>cV ch (bB .eql 31 bf (i 13) λ ci=>cV ci (bB .eql 3 bg (i 1) λ cj=>cV cj (
 bB .eql 31 bo (i 1) λ ck=>cV ck (lA 63 c27 ce λ cl=>bS 41 1 [(0,(i 0))] ce λ cm cn=>eN Tryz.prog (Instr.build 63 [(3,cm)].toArray) λ co=>cF 103 [cl,co] cn λ cp cq=>
 cV cp (bB .eql 31 bw (i 0) λ cr=>cV cr (lA 63 a7 cq λ cs=>cF 99 [cs] cq λ ct cu=>cV ct (lA 63 c27 cu λ cv=>cF 99 [cv] cu λ cw cx=>eN Tryz.prog (Op.unary .not cw) λ cy=>
 cV cy (lA 63 c27 cx λ cz=>lA 63 a7 cx λ c0=>cF 104 [cz,c0] cx λ c1 c2=>cV c1 (lA 63 a7 c2 λ c3=>lA 63 a7 c2 λ c4=>cF 104 [c3,c4] c2 λ c5 c6=>eN Tryz.prog (Op.unary .not c5) λ c7=>
 cV c7 (cF 105 [(i 4)] c6 λ c8 c9=>eN Tryz.prog (jz .eql 9 false true c8 (Go.Value.string (ByteArray.mk (#[115,116,117,99,107])))) λ da=>cV da (cF 105 [(i 5)] c9 λ db dc=>
 eN Tryz.prog (jz .eql 9 false true db (Go.Value.string (ByteArray.mk (#[])))) λ dd=>cV dd (lA 27 p1 dc λ de=>lA 50 Cq dc λ df=>lA 50 FG dc λ dg=>lA 50 Cq dc λ dh=>
 bS 39 3 [(0,df),(1,dg),(2,dh)] dc λ di dj=>cF 42 [de,(i 2),(i 1),di] dj λ dk dl=>bB .eql 3 dk (i 1) λ dm=>K1 dm dl) (K1 ff dc)) (K1 ff c9)) (K1 ff c6)) (K1 ff c2)) (
 K1 ff cx)) (K1 ff cu)) (K1 ff cq)) (K1 ff cq)) (K1 ff ce)) (K1 ff ce)) (K1 ff ce)) (K1 ff ce)) (K1 ff ce)) (K1 ff ce)) (K1 ff ce)) (K1 ff b5)) (K1 ff b5)) (K1 ff b5)) (λ dn dp=>∀_:Env,
 K dn dp)
theorem akY(h:S44 w K):CR 44 [] w K:=
 qz 186 (λ _=>.nil) 1 [.tmp 0] Tryz.func44 h
theorem ayJ:PL 44:=dF Tryz.func44
end Go.Proofs.YtpdlpabnlkofmaaGreatDoor
namespace Go.Proofs.YtpdlpabnlkofmaaGreatDoor
open Go.Fw
theorem SG(a0:Int):pr Tryz.prog (Instr.build 50 [(0,.int .i64 a0)].toArray)=some (.agg [.int .i64 a0,.int .i64 0,.int .i64 0,.slice none 0 0].toArray):=by kernel_rfl
theorem Nq(a0:Int)(a1:Int)(a3:Option Addr)(n3 c3:Nat):pr Tryz.prog (Instr.build 63 [(0,.int .i64 a0),(1,.int .i64 a1),(3,.slice a3 n3 c3)].toArray)=some (.agg [.int .i64 a0,.int .i64 a1,.int .i64 0,.slice a3 n3 c3].toArray):=by kernel_rfl
theorem Nr(a0:Int)(a2:Int)(a3:Option Addr)(n3 c3:Nat):pr Tryz.prog (Instr.build 63 [(0,.int .i64 a0),(2,.int .i64 a2),(3,.slice a3 n3 c3)].toArray)=some (.agg [.int .i64 a0,.int .i64 0,.int .i64 a2,.slice a3 n3 c3].toArray):=by kernel_rfl
theorem aez(a3:Option Addr)(n3 c3:Nat):pr Tryz.prog (Instr.build 63 [(3,.slice a3 n3 c3)].toArray)=some (.agg [.int .i64 0,.int .i64 0,.int .i64 0,.slice a3 n3 c3].toArray):=by kernel_rfl
section
variable {α σ:Type}[Flat σ] [Deep α σ] {w:World}
theorem uR{t:σ}{x:α}{ts:List σ}{xs:List α}(h:Deep.dr w t x)(g:jh ts xs w):jh (t::ts) (x::xs) w:=by
 grind[jh]
end
theorem pk0(w:World)(a b c:Int):Deep.dr w (⟨a,b,c,cH⟩:bF) (⟨a,b,c,[]⟩:cA):=⟨_,rfl,DL.nil w⟩
theorem e0(w:World){sv:SV}(a b c:Int){l:List Int}(h:dC (λ _=>True) w (Flat.val sv) l):Deep.dr w (⟨a,b,c,sv⟩:bF) (⟨a,b,c,l⟩:cA):=⟨_,rfl,DL.j3 h⟩
def agK(t:ByteArray):Bool:=match vJ t with
 | some r=>decide (r.1.length<=5000)&&r.1.all (λ x=>decide (0<=x.at_/\x.at_<=1000000/\x.text.size<=1000000))
 | none=>false
theorem aeA{t:ByteArray}(h:agK t=true):∀l e a,vJ t=some (l,e,a)->jb l:=by
 intro l e a hs
 unfold agK at h
 rw[hs]at h
 simp only[Bool.and_eq_true,decide_eq_true_eq,List.all_eq_true]at h
 exact⟨h.1,λ x hx=>h.2 x hx⟩
def SH:ByteArray:=⟨#[108,105,110,101,32,97,59,32,116,104,114,101,97,100,32,116,32,123,32,115,116,111,114,101,32,97,32,61,32,49,59,32,99,104,101,99,107,32,48,59,32,125,32,114,101,99,111,118,101,114,32,123,32,125,32,97,108,119,97,121,115,32,97,32,61,61,32,48,59]⟩
def mZ:cG:=((vp SH).getD (MN,0,0)).1
theorem Qq:vp SH=some (mZ,0,0):=by decide +kernel
theorem Ux:∀l e a,vJ SH=some (l,e,a)->jb l:=aeA (by decide +kernel)
theorem aay:xX mZ=mZ:=by decide +kernel
theorem vw:PZ mZ:=by rw[<- aay];exact Rx _
def fxA:List bU:=(lO mZ 2 1 [(⟨1,0,0,[]⟩:cA),(⟨2,0,0,[]⟩:cA),(⟨3,0,0,[1]⟩:cA)]).2.1
def fxB:List bU:=(lO mZ 2 1 [(⟨1,0,0,[]⟩:cA),(⟨1,0,0,[]⟩:cA)]).2.1
theorem aeB:(lO mZ 2 1 [(⟨1,0,0,[]⟩:cA),(⟨2,0,0,[]⟩:cA),(⟨3,0,0,[1]⟩:cA)]=((⟨2,0,1,[1]⟩:cA),fxA,0,0)/\fxA.length=3)/\lO mZ 2 1 [(⟨1,0,0,[]⟩:cA),(⟨1,0,0,[]⟩:cA)]=((⟨3,1,0,[0]⟩:cA),fxB,0,0)/\lO mZ 2 0 [(⟨1,0,0,[]⟩:cA),(⟨2,0,0,[]⟩:cA),(⟨3,0,0,[1]⟩:cA)]=(zE,[],14,2)/\lO mZ 2 1 [(⟨1,0,0,[]⟩:cA),(⟨3,0,0,[1]⟩:cA)]=(zE,[],13,1)/\lO mZ 2 9 ([]:List cA)=(zE,[],1,0)/\lO mZ 2 0 ([]:List cA)=((⟨0,0,0,[0]⟩:cA),[],0,0)/\vu mZ 2 1 [(⟨1,0,0,[]⟩:cA),(⟨3,0,0,[1]⟩:cA),(⟨1,0,0,[]⟩:cA)]=1:=by decide +kernel
theorem Uy(R:cA×List bU×Int×Int)(K:World->Prop)(p:cG)(pv:bO)(room c:Int)(lv:Value)(l:List cA)(w:World)(hw:∀w',Ext w w'->K w')(hp:Nk K pv p)(hz:PZ p)(hl:NF K lv l)(Cy:l.length<=1000)(US:∀q∈l,q.cut.length<=1000)(hR:lO p room c l=R) :
  Calls Tryz.prog 40 [Flat.val pv,.int .i64 room,.int .i64 c,lv].toArray w (tX λ v w'=>∃(ev:bF) (ov:Value),v=.tuple #[Flat.val ev,ov,.int .i64 R.2.2.1,.int .i64 R.2.2.2]/\lL (sep (fk (λ w=>Deep.dr w ev R.1)) (bG ov R.2.1)) w w'):=hR▸C40 K p pv room c lv l w hw hp hz hl Cy US
theorem C44(w:World):CR 44 [] w (λ v w'=>v=.bool true/\Ext w w'):=by
 have hs:=St.start w;refine akY _ _ ?_;unfold S44;obtain⟨⟨r1,r1l⟩,r2,r3,r4,r5,r6,r7⟩:=aeB;refine dN atp (C65 SH (mZ,0,0) _ (by decide) Qq Ux) ?_;rintro _ _ ⟨pv,rfl,cO⟩;have hs:=hs.made cO;refine aN rfl (aN rfl (aN rfl (aM hs uX (λ b1 _ hs=>aJ (x:=pv) hs ep rfl rfl (λ _ hs=>pop (SG 1) (pop (SG 2) (aM hs DG (λ b4 _ hs=>aM hs DG (λ b5 _ hs=>aJ (x:=(⟨1,0,0,cH⟩:bF)) hs.p1 qC rfl rfl (λ _ hs=>aJ (x:=(⟨2,0,0,cH⟩:bF)) hs.p1 qC rfl rfl (λ _ hs=>aX ([1]:List Int) hs cM rfl rfl (dI rfl) (λ x38 _ hs=>?_))))))))))))
 obtain⟨sv,rfl⟩:=(hs).fC;refine pop (TP 3 _ _ _) (aM hs DG (λ b6 _ hs=>aJ (x:=(⟨3,0,0,sv⟩:bF)) hs qC rfl rfl (λ w9 hs=>?_)));have hs:=hs.p1.freeze.p5.p1.gR;obtain⟨FF,hs,hX⟩:=hs.Yq;have hp:Nk (re FF w9) pv mZ:=Nk.of λ w' h=>(hX w' h).2;have z8:∀w',re FF w9 w'->Deep.dr w' (⟨3,0,0,sv⟩:bF) (⟨3,0,0,[1]⟩:cA):=λ w' h=>e0 _ 3 0 0 (hX w' h).1;have h0:∀(a b c:Int) w',re FF w9 w'->Deep.dr w' (⟨a,b,c,cH⟩:bF) (⟨a,b,c,[]⟩:cA):=λ a b c w' _=>pk0 w' a b c;refine aE (x:=pv) ep hs.p4.At (aE (x:=(⟨1,0,0,cH⟩:bF)) qC hs.p3.At (aE (x:=(⟨2,0,0,cH⟩:bF)) qC hs.p2.At (aE (x:=(⟨3,0,0,sv⟩:bF)) qC hs.p1.At (aX ([(⟨1,0,0,cH⟩:bF),(⟨2,0,0,cH⟩:bF),(⟨3,0,0,sv⟩:bF)]:List bF) hs lY rfl rfl (dI rfl) (λ pl _ hs=>dN Qo (Uy _ (λ w'=>re FF w9 w'/\dC (λ _=>True) w' pl ([(⟨1,0,0,cH⟩:bF),(⟨2,0,0,cH⟩:bF),(⟨3,0,0,sv⟩:bF)]:List bF)) mZ pv 2 1 pl [(⟨1,0,0,[]⟩:cA),(⟨2,0,0,[]⟩:cA),(⟨3,0,0,[1]⟩:cA)] _ (λ _ e=>⟨(hs.ext e).p1.fk,(hs.ext e).dX⟩) (hp.mono λ _ h=>h.1) vw ⟨_,λ _ h=>⟨h.2,(uR (h0 1 0 0 _ h.1) (uR (h0 2 0 0 _ h.1) (uR (z8 _ h.1) jh.nil)))⟩⟩ (by decide) (by decide) r1) ?_)))))
 rintro _ _ ⟨ea,ov0,rfl,cO⟩;have hs:=(hs.made cO).split;refine aN rfl (aN rfl (aN rfl (aN rfl (aM hs iY (λ a7 _ hs=>aJ (x:=ea) hs fQ rfl rfl (λ _ hs=>have hs:=(hs.p3).drop;aE (x:=pv) ep hs.p7.At (aE (x:=(⟨1,0,0,cH⟩:bF)) qC hs.p6.At (aE (x:=(⟨1,0,0,cH⟩:bF)) qC hs.p6.At (aX ([(⟨1,0,0,cH⟩:bF),(⟨1,0,0,cH⟩:bF)]:List bF) hs lY rfl rfl (dI rfl) (λ pl _ hs=>dN Qo (Uy _ (λ w'=>re FF w9 w'/\dC (λ _=>True) w' pl ([(⟨1,0,0,cH⟩:bF),(⟨1,0,0,cH⟩:bF)]:List bF)) mZ pv 2 1 pl [(⟨1,0,0,[]⟩:cA),(⟨1,0,0,[]⟩:cA)] _ (λ _ e=>⟨(hs.ext e).p4.fk,(hs.ext e).dX⟩) (hp.mono λ _ h=>h.1) vw ⟨_,λ _ h=>⟨h.2,(uR (h0 1 0 0 _ h.1) (uR (h0 1 0 0 _ h.1) jh.nil))⟩⟩ (by decide) (by decide) r2) ?_))))))))))
 rintro _ _ ⟨eb,ov1,rfl,cO⟩;have hs:=(hs.made cO).split;refine aN rfl (aN rfl (aN rfl (aN rfl (aM hs iY (λ b11 _ hs=>aJ (x:=eb) hs fQ rfl rfl (λ _ hs=>have hs:=((hs.p3.drop).p2).drop;aE (x:=pv) ep hs.p9.At (aE (x:=(⟨1,0,0,cH⟩:bF)) qC hs.p8.At (aE (x:=(⟨2,0,0,cH⟩:bF)) qC hs.p7.At (aE (x:=(⟨3,0,0,sv⟩:bF)) qC hs.p6.At (aX ([(⟨1,0,0,cH⟩:bF),(⟨2,0,0,cH⟩:bF),(⟨3,0,0,sv⟩:bF)]:List bF) hs lY rfl rfl (dI rfl) (λ pl _ hs=>dN Qo (Uy _ (λ w'=>re FF w9 w'/\dC (λ _=>True) w' pl ([(⟨1,0,0,cH⟩:bF),(⟨2,0,0,cH⟩:bF),(⟨3,0,0,sv⟩:bF)]:List bF)) mZ pv 2 0 pl [(⟨1,0,0,[]⟩:cA),(⟨2,0,0,[]⟩:cA),(⟨3,0,0,[1]⟩:cA)] _ (λ _ e=>⟨(hs.ext e).p6.fk,(hs.ext e).dX⟩) (hp.mono λ _ h=>h.1) vw ⟨_,λ _ h=>⟨h.2,(uR (h0 1 0 0 _ h.1) (uR (h0 2 0 0 _ h.1) (uR (z8 _ h.1) jh.nil)))⟩⟩ (by decide) (by decide) r3) ?_)))))))))))
 rintro _ _ ⟨e3,ov2,rfl,cO⟩;have hs:=(hs.made cO).split;refine aN rfl (aN rfl (aN rfl (aN rfl (aM hs iY (λ b15 _ hs=>aJ (x:=e3) hs fQ rfl rfl (λ _ hs=>have hs:=(((hs.p3.drop.p2.drop).p1).drop).drop;aE (x:=pv) ep hs.p9.At (aE (x:=(⟨1,0,0,cH⟩:bF)) qC hs.p8.At (aE (x:=(⟨3,0,0,sv⟩:bF)) qC hs.p6.At (aX ([(⟨1,0,0,cH⟩:bF),(⟨3,0,0,sv⟩:bF)]:List bF) hs lY rfl rfl (dI rfl) (λ pl _ hs=>dN Qo (Uy _ (λ w'=>re FF w9 w'/\dC (λ _=>True) w' pl ([(⟨1,0,0,cH⟩:bF),(⟨3,0,0,sv⟩:bF)]:List bF)) mZ pv 2 1 pl [(⟨1,0,0,[]⟩:cA),(⟨3,0,0,[1]⟩:cA)] _ (λ _ e=>⟨(hs.ext e).p6.fk,(hs.ext e).dX⟩) (hp.mono λ _ h=>h.1) vw ⟨_,λ _ h=>⟨h.2,(uR (h0 1 0 0 _ h.1) (uR (z8 _ h.1) jh.nil))⟩⟩ (by decide) (by decide) r4) ?_))))))))))
 rintro _ _ ⟨e4,ov3,rfl,cO⟩;have hs:=(hs.made cO).split;refine aN rfl (aN rfl (aN rfl (aN rfl (aM hs iY (λ b19 _ hs=>aJ (x:=e4) hs fQ rfl rfl (λ _ hs=>have hs:=(((hs.p3.drop.p2.drop).p1).drop).drop;aE (x:=pv) ep hs.p9.At (dN Qo (Uy _ (re FF w9) mZ pv 2 9 (.slice none 0 0) [] _ (λ _ e=>(hs.ext e).p5.fk) hp vw (NF.nil _) (by decide) (by decide) r5) ?_)))))));rintro _ _ ⟨e5,ov4,rfl,cO⟩;have hs:=(hs.made cO).split;refine aN rfl (aN rfl (aN rfl (aN rfl (aM hs iY (λ b23 _ hs=>aJ (x:=e5) hs fQ rfl rfl (λ _ hs=>have hs:=((hs.p2.drop.p1).drop).drop;aE (x:=pv) ep hs.p9.At (dN Qo (Uy _ (re FF w9) mZ pv 2 0 (.slice none 0 0) [] _ (λ _ e=>(hs.ext e).p5.fk) hp vw (NF.nil _) (by decide) (by decide) r6) ?_)))))))
 rintro _ _ ⟨ec,ov5,rfl,cO⟩;have hs:=(hs.made cO).split;refine aN rfl (aN rfl (aN rfl (aN rfl (aM hs iY (λ c27 _ hs=>aJ (x:=ec) hs fQ rfl rfl (λ _ hs=>?_))))));have hs:=(hs.p2).drop;refine⟨λ jv w'=>jv=.bool true/\Ext w w',?_,?_⟩;rotate_left
 ·rintro _ _ h _;exact h
 refine aE (x:=ea) fQ hs.p4.At (aX ([1]:List Int) hs cM rfl rfl (dI rfl) (λ z1 _ hs=>?_));obtain⟨s1,rfl⟩:=(hs).fC;refine pop (Nr 2 1 _ _ _) ?_;have Tb:Deep.dr _ (⟨2,0,1,s1⟩:bF) (⟨2,0,1,[1]⟩:cA):=e0 _ _ _ _ (hs).dX;refine aT aau hs (C103 (⟨2,0,1,[1]⟩:cA) ea (⟨2,0,1,[1]⟩:cA) (⟨2,0,1,s1⟩:bF) _ (hs.p6).fk Tb (by decide) (by decide)) (λ _ he hs=>lQ (by decide) (have hs:=hs.drop;aI yI (hs.p6).dX ?_));rw[r1l];refine aH (aC (λ _=>?_) (λ h=>absurd rfl h));refine aH (aC (λ _=>?_) (λ h=>absurd rfl h));refine aE (x:=eb) fQ hs.p2.At (aX ([0]:List Int) hs cM rfl rfl (dI rfl) (λ z2 _ hs=>?_))
 obtain⟨s2,rfl⟩:=(hs).fC;refine pop (Nq 3 1 _ _ _) ?_;have hz2:Deep.dr _ (⟨3,1,0,s2⟩:bF) (⟨3,1,0,[0]⟩:cA):=e0 _ _ _ _ (hs).dX;refine aT aau hs (C103 (⟨3,1,0,[0]⟩:cA) eb (⟨3,1,0,[0]⟩:cA) (⟨3,1,0,s2⟩:bF) _ (hs.p4).fk hz2 (by decide) (by decide)) (λ _ he hs=>lQ (by decide) (have hs:=hs.drop;aH (aC (λ _=>?_) (λ h=>absurd rfl h))));refine aH (aC (λ _=>?_) (λ h=>absurd rfl h));refine aH (aC (λ _=>?_) (λ h=>absurd rfl h));refine aH (aC (λ _=>?_) (λ h=>absurd rfl h));refine aH (aC (λ _=>?_) (λ h=>absurd rfl h));refine aH (aC (λ _=>?_) (λ h=>absurd rfl h))
 refine aE (x:=ec) fQ hs.At (aX ([0]:List Int) hs cM rfl rfl (dI rfl) (λ z3 _ hs=>?_));obtain⟨s3,rfl⟩:=(hs).fC;refine pop (aez _ _ _) ?_;have hz3:Deep.dr _ (⟨0,0,0,s3⟩:bF) (⟨0,0,0,[0]⟩:cA):=e0 _ _ _ _ (hs).dX;refine aT aau hs (C103 (⟨0,0,0,[0]⟩:cA) ec (⟨0,0,0,[0]⟩:cA) (⟨0,0,0,s3⟩:bF) _ (hs.p2).fk hz3 (by decide) (by decide)) (λ _ he hs=>lQ (by decide) (have hs:=hs.drop;aH (aC (λ _=>?_) (λ h=>absurd rfl h))));refine aE (x:=ea) fQ hs.p4.At (aT arD hs (C99 (⟨2,0,1,[1]⟩:cA) ea _ (hs.p5).fk) (λ _ he hs=>lQ (by decide) (aE (x:=ec) fQ hs.At (aT arD hs (C99 (⟨0,0,0,[0]⟩:cA) ec _ (hs.p1).fk) (λ _ he hs=>bQ (lQ (by decide) (aE (x:=ec) fQ hs.At (aE (x:=ea) fQ hs.p4.At (aT SF hs (C104 (⟨0,0,0,[0]⟩:cA) ec (⟨2,0,1,[1]⟩:cA) ea _ (hs.p1).fk (hs.p5).fk (by decide)) (λ _ he hs=>lQ (by decide) (aE (x:=ea) fQ hs.p4.At (aE (x:=ea) fQ hs.p4.At ?_))))))))))))
 refine aT SF hs (C104 (⟨2,0,1,[1]⟩:cA) ea (⟨2,0,1,[1]⟩:cA) ea _ (hs.p5).fk (hs.p5).fk (by decide)) (λ _ he hs=>bQ (lQ (by decide) (aT agI hs (C105 4 _) (λ _ he hs=>iD (aC (λ _=>?_) (λ h=>absurd (by decide) h))))));refine aT agI hs (C105 5 _) (λ _ he hs=>iD (aC (λ _=>?_) (λ h=>absurd (by decide) h)));refine aE (x:=pv) ep hs.p11.At (aE (x:=(⟨1,0,0,cH⟩:bF)) qC hs.p10.At (aE (x:=(⟨3,0,0,sv⟩:bF)) qC hs.p8.At (aE (x:=(⟨1,0,0,cH⟩:bF)) qC hs.p10.At (aX ([(⟨1,0,0,cH⟩:bF),(⟨3,0,0,sv⟩:bF),(⟨1,0,0,cH⟩:bF)]:List bF) hs lY rfl rfl (dI rfl) (λ pl _ hs=>aT aru hs (C42 (λ w'=>re FF w9 w'/\dC (λ _=>True) w' pl ([(⟨1,0,0,cH⟩:bF),(⟨3,0,0,sv⟩:bF),(⟨1,0,0,cH⟩:bF)]:List bF)) mZ pv 2 1 pl [(⟨1,0,0,[]⟩:cA),(⟨3,0,0,[1]⟩:cA),(⟨1,0,0,[]⟩:cA)] _ (λ _ e=>⟨(hs.ext e).p8.fk,(hs.ext e).dX⟩) (hp.mono λ _ h=>h.1) vw ⟨_,λ _ h=>⟨h.2,(uR (h0 1 0 0 _ h.1) (uR (z8 _ h.1) (uR (h0 1 0 0 _ h.1) jh.nil)))⟩⟩ (by decide) (by decide)) (λ _ he hs=>?_))))))
 rw[r7];exact aH ⟨rfl,hs.aF⟩
variable (w:World) (K:Value->World->Prop)
def P9:dD:=λ i=>match i with
 | 6=>(.of [(0,[]),(1,[]),(2,[]),(3,[]),(4,[]),(5,[]),(6,[]),(7,[]),(8,[]),(9,[]),(10,[]),(11,[]),(12,[]),(13,[]),(14,[]),(15,[]),(16,[]),(17,[]),(18,[]),(19,[]),(20,[]),(21,[]),(22,[]),(23,[]),(25,[]),(26,[]),(27,[]),(28,[]),(29,[]),(24,[25,28]),(30,[]),(31,[]),(32,[]),(33,[]),(34,[]),(35,[]),(36,[])])
 | _=>.nil
end Go.Proofs.YtpdlpabnlkofmaaGreatDoor
namespace Go.Proofs.YtpdlpabnlkofmaaGreatDoor
open Go.Fw
theorem aeC(c:Int)(l:List cA)(m:gW)(o:List bU):(mX c m o l).2.1.length<=o.length+l.length:=by
 obtain⟨k,h1,h2,_⟩:=Fz c l m o
 omega
theorem aeD{p:cG}{room c:Int}(l:List cA):(lO p room c l).2.1.length<=l.length:=by
 have:=aeC c l (iT p room) []
 grind[lO]
theorem aaz{p:cG}{c:Int}(hc:Ga p):∀(l:List cA) (m:gW) (o:List bU) (a:Nat),tE p a m->tE p (a+l.length) (mX c m o l).1
 | [],m,o,a,h=>h
 | q::r,m,o,a,h=>by
  rw[List.length_cons]
  unfold mX
  split
  ·exact h.mono (by omega)
  ·split
   ·exact(h.step hc).mono (by omega)
   ·exact(aaz hc r _ _ _ (h.step hc)).mono (by omega)
theorem aaA{p:cG}{room c:Int}(h:fa p room c=0):fj p=0/\(1<=room/\room<=16)/\0<=c/\c<=8:=by
 unfold fa at h
 omega
theorem akZ{p:cG}{room c:Int}(hz:PZ p)(h:fa p room c=0)(l:List cA):tE p l.length (mX c (iT p room) [] l).1:=by
 obtain⟨h1,h2,_⟩:=aaA h
 have:=aaz (c:=c) (xO h1) l _ [] 0 (tE.new hz (xO h1) h2)
 grind
theorem aaB{p:cG}{room c:Int}(hz:PZ p)(l:List cA):(lO p room c l).1.cut.length<=1073741824:=by
 unfold lO
 split
 ·exact Nat.zero_le _
 rename_i h
 split
 ·exact Nat.zero_le _
 have hg:=(akZ hz (Decidable.not_not.1 h) l).go.ok
 show(List.take _ _).length<=_
 rw[List.length_take]
 have:=hg.mem.ll;have:=hg.mem.fl
 omega
structure Two where
 a:Int
 b:Int
instance:Flat Two where
 agg:=true
 sz:=2
 enc e:=[.int .i64 e.a,.int .i64 e.b]
 val e:=.agg [.int .i64 e.a,.int .i64 e.b].toArray
 pos:=by decide
 len _:=rfl
 one a v h:=by grind[uV]
 m6 _ _:=rfl
 nn h:=by cases h
theorem Ns:ahg Tryz.prog 69 2 3:=⟨by kernel_rfl,by kernel_rfl⟩
theorem C9(p:cG)(pv:bO)(n:Two)(lv:Value)(l:List cA)(w:World)(hp:Deep.dr w pv p)(hL:DL w lv l):CR 9 [Flat.val pv,Flat.val n,lv] w (λ v w'=>v=.bool true/\Ext w w'):=by
 have hs:=St.start w;refine oY Tryz.func9 (pl:=P9) ?_;refine cI (x:=pv) hs (λ b3 w1 hs=>cI (x:=n) hs (λ b4 w2 hs=>aE ep hs.p1.At (dN atl (C11 p pv _ (Deep.ext hp hs.aF)) ?_)));rintro _ w3 ⟨qv,rfl,cO⟩;have hs:=hs.made cO;refine aJ (x:=qv) hs.p2 ep rfl rfl (λ _ hs=>dN ayD (C26 lv l _ (hL.ext hs.aF)) ?_);rintro sv w8 cO;have hs:=((hs.made cO).p2).gR;obtain⟨FF,hs,hX⟩:=hs.Yq;have hp':Nk (re FF w8) qv (xX p):=Nk.of λ w' h=>(hX w' h).1;have O3:NF (re FF w8) sv (qV l):=NF.of λ w' h=>(hX w' h).2;obtain⟨hl1,FH⟩:=aas l;have hl3:∀q∈(qV l),q.cut.length<=1000:=λ q hq=>Nat.le_trans (FH q hq) (by decide)
 have hz:=Rx p;have ha:=DE n.a (b:=3) (by decide) (by decide);refine km Ns (by decide) (by decide) (bM bL (hs.p2.hb.cell (o:=0) rfl) (aby (by decide) (by decide) (aK (by omega) (aE (x:=qv) ep hs.p1.At (km Ns (by decide) (by decide) (bM bL (hs.p2.hb.cell (o:=1) rfl) (dN Qo (C40 (re FF w8) (xX p) qv (1+Bl n.a 3) n.b sv (qV l) _ (λ _ e=>(hs.ext e).fk) hp' hz O3 (by omega) hl3) ?_)))))));rintro _ vea ⟨ea,va,rfl,cO⟩;have hs:=(hs.made cO).split;refine aN rfl (aN rfl (aN rfl (aN rfl (aM hs iY (λ b8 w1 hs=>aJ (x:=ea) hs fQ rfl rfl (λ w2 hs=>aE (x:=qv) ep hs.p4.At (km Ns (by decide) (by decide) (bM bL (hs.p5.hb.cell (o:=1) rfl) (dN aer (C38 (re FF w8) (xX p) qv (1+Bl n.a 3) n.b sv (qV l) _ (λ _ e=>(hs.ext e).p3.fk) hp' hz O3 (by omega) hl3) ?_)))))))))
 rintro _ veb ⟨eb,vb,rfl,cO⟩;have hs:=(hs.made cO).split;refine aN rfl (aN rfl (aN rfl (aN rfl (aM hs iY (λ b12 w3 hs=>aJ (x:=eb) hs fQ rfl rfl (λ _ hs=>?_))))));refine⟨λ jv w'=>jv=.bool true/\Ext w w',?_,?_⟩;rotate_left
 ·rintro _ _ h _;exact h
 have hs:=hs.drew;refine aE (x:=ea) fQ hs.p3.At (aE (x:=eb) fQ hs.At (aT ayB hs (C29 (lO (xX p) (1+Bl n.a 3) n.b (qV l)).1 ea (lO (xX p) (1+Bl n.a 3) n.b (qV l)).1 eb _ (hs.p4).fk (hs.p1).fk (aaB hz (qV l))) (λ _ he hs=>aC (λ _=>?_) (λ h=>absurd rfl h))));refine aT ayC hs (C41 _ _ (lO (xX p) (1+Bl n.a 3) n.b (qV l)).2.1 (lO (xX p) (1+Bl n.a 3) n.b (qV l)).2.1 _ (hs.p5).dX (hs.p2).dX (Nat.le_trans (aeD (qV l)) (by omega))) (λ _ he hs=>aC (λ _=>?_) (λ h=>absurd rfl h));refine aH (aC (λ _=>?_) (λ h=>absurd rfl h));refine aH (aC (λ _=>?_) (λ h=>absurd rfl h))
 refine aE (x:=qv) ep hs.p7.At (km Ns (by decide) (by decide) (bM bL (hs.p8.hb.cell (o:=1) rfl) (aE (x:=qv) ep hs.p7.At (km Ns (by decide) (by decide) (bM bL (hs.p8.hb.cell (o:=1) rfl) (aT aru hs (C42 (re FF w8) (xX p) qv (1+Bl n.a 3) n.b sv (qV l) _ (λ _ e=>(hs.ext e).p6.fk) hp' hz O3 (by omega) hl3) (λ _ he hs=>?_)))))));refine⟨eZ ep hs.p7.At,?_⟩;refine⟨aG bL (hs.p8.hb.cell (o:=1) rfl),?_⟩;exact aT ayz hs (C43 (re FF w8) (xX p) qv (1+Bl n.a 3) n.b sv (qV l) _ (λ _ e=>(hs.ext e).p6.fk) hp' hz O3 (by omega) hl3) (λ _ _ hs=>aH (aC (λ _=>aT ayJ hs (C44 _) (λ _ _ hs=>⟨rfl,hs.aF⟩)) (λ h=>absurd rfl h)))
theorem own:ownKnob Tryz.prog.godebug=none:=by kernel_rfl
theorem rd9:yK Tryz.prog 9 ByteArray (λ y=>y.size<=maxLen):=RdT.deep (ahc Tryz.underlying9 (by kernel_rfl)) λ _ _=>rfl
theorem NH:yK Tryz.prog 3 Int eR:=RdT.deep (VY Tryz.underlying3 (by kernel_rfl)) λ _ _=>rfl
theorem arL:yK Tryz.prog 161 cJ xz:=λ w=>⟨by kernel_rfl,λ enc base held fuel cs x h=>by
 obtain⟨hl,n,hp⟩:=nO Tryz.underlying161 h
 obtain⟨y0,h0⟩:=hp 0 _ rfl
 obtain⟨y1,h1⟩:=hp 1 _ rfl
 obtain⟨y2,h2⟩:=hp 2 _ rfl
 obtain⟨s0,e0,a0,d0,k0⟩:=(rd9 w).rd enc base held n _ _ h0
 obtain⟨s1,e1,a1,d1,k1⟩:=(NH w).rd enc base held n _ _ h1
 obtain⟨s2,e2,a2,d2,k2⟩:=(NH w).rd enc base held n _ _ h2
 obtain rfl:s0=a0:=d0
 obtain rfl:s1=a1:=d1
 obtain rfl:s2=a2:=d2
 have p0:=dZ (s:=1) e0
 have p1:=dZ (s:=1) e1
 have p2:=dZ (s:=1) e2
 have hz:cs.drop 3=[]:=List.drop_eq_nil_iff.2 (by rw[hl];exact Nat.le_of_eq (by kernel_rfl))
 refine⟨(⟨s0,s1,s2⟩:cJ),?_,(⟨s0,s1,s2⟩:cJ),rfl,k0,k1,k2⟩
 have e:cs=cs.drop 0:=rfl
 rw[e]
 refine p0.trans ?_
 refine((congrArg _ p1)).trans ?_
 refine((congrArg _ (congrArg _ p2))).trans ?_
 exact(congrArg _ (congrArg _ (congrArg _ hz)))⟩
theorem ak0:yK Tryz.prog 23 (List cJ) (λ ys:(List cJ)=>∀y∈ys,xz y):=yK.slice Tryz.underlying23 (by kernel_rfl) arL
theorem ayK:yK Tryz.prog 22 (List (List cJ)) (λ ys:(List (List cJ))=>∀y∈ys,(λ ys:(List cJ)=>∀y∈ys,xz y) y):=yK.slice Tryz.underlying22 (by kernel_rfl) ak0
theorem ayL:yK Tryz.prog 91 (List ByteArray) (λ ys:(List ByteArray)=>∀y∈ys,(λ y:ByteArray=>y.size<=maxLen) y):=yK.slice Tryz.underlying91 (by kernel_rfl) rd9
theorem arM:yK Tryz.prog 164 bX Ad:=λ w=>⟨by kernel_rfl,λ enc base held fuel cs x h=>by
 obtain⟨hl,n,hp⟩:=nO Tryz.underlying164 h
 obtain⟨y0,h0⟩:=hp 0 _ rfl
 obtain⟨y1,h1⟩:=hp 1 _ rfl
 obtain⟨y2,h2⟩:=hp 2 _ rfl
 obtain⟨y3,h3⟩:=hp 3 _ rfl
 obtain⟨s0,e0,a0,d0,k0⟩:=(NH w).rd enc base held n _ _ h0
 obtain⟨s1,e1,a1,d1,k1⟩:=(NH w).rd enc base held n _ _ h1
 obtain⟨s2,e2,a2,d2,k2⟩:=(rd9 w).rd enc base held n _ _ h2
 obtain⟨s3,e3,a3,d3,k3⟩:=(NH w).rd enc base held n _ _ h3
 obtain rfl:s0=a0:=d0
 obtain rfl:s1=a1:=d1
 obtain rfl:s2=a2:=d2
 obtain rfl:s3=a3:=d3
 have p0:=dZ (s:=1) e0
 have p1:=dZ (s:=1) e1
 have p2:=dZ (s:=1) e2
 have p3:=dZ (s:=1) e3
 have hz:cs.drop 4=[]:=List.drop_eq_nil_iff.2 (by rw[hl];exact Nat.le_of_eq (by kernel_rfl))
 refine⟨(⟨s0,s1,s2,s3⟩:bX),?_,(⟨s0,s1,s2,s3⟩:bX),rfl,k0,k1,k2,k3⟩
 have e:cs=cs.drop 0:=rfl
 rw[e]
 refine p0.trans ?_
 refine((congrArg _ p1)).trans ?_
 refine((congrArg _ (congrArg _ p2))).trans ?_
 refine((congrArg _ (congrArg _ (congrArg _ p3)))).trans ?_
 exact(congrArg _ (congrArg _ (congrArg _ (congrArg _ hz))))⟩
theorem ak1:yK Tryz.prog 82 (List bX) (λ ys:(List bX)=>∀y∈ys,Ad y):=yK.slice Tryz.underlying82 (by kernel_rfl) arM
theorem arN:yK Tryz.prog 193 bN Iq:=λ w=>⟨by kernel_rfl,λ enc base held fuel cs x h=>by
 obtain⟨hl,n,hp⟩:=nO Tryz.underlying193 h
 obtain⟨y0,h0⟩:=hp 0 _ rfl
 obtain⟨y1,h1⟩:=hp 1 _ rfl
 obtain⟨y2,h2⟩:=hp 2 _ rfl
 obtain⟨y3,h3⟩:=hp 3 _ rfl
 obtain⟨y4,h4⟩:=hp 4 _ rfl
 obtain⟨y5,h5⟩:=hp 5 _ rfl
 obtain⟨y6,h6⟩:=hp 6 _ rfl
 obtain⟨y7,h7⟩:=hp 7 _ rfl
 obtain⟨y8,h8⟩:=hp 8 _ rfl
 obtain⟨s0,e0,a0,d0,k0⟩:=(NH w).rd enc base held n _ _ h0
 obtain⟨s1,e1,a1,d1,k1⟩:=(rd9 w).rd enc base held n _ _ h1
 obtain⟨s2,e2,a2,d2,k2⟩:=(rd9 w).rd enc base held n _ _ h2
 obtain⟨s3,e3,a3,d3,k3⟩:=(ak1 w).rd enc base held n _ _ h3
 obtain⟨s4,e4,a4,d4,k4⟩:=(ak1 w).rd enc base held n _ _ h4
 obtain⟨s5,e5,a5,d5,k5⟩:=(NH w).rd enc base held n _ _ h5
 obtain⟨s6,e6,a6,d6,k6⟩:=(NH w).rd enc base held n _ _ h6
 obtain⟨s7,e7,a7,d7,k7⟩:=(NH w).rd enc base held n _ _ h7
 obtain⟨s8,e8,a8,d8,k8⟩:=(NH w).rd enc base held n _ _ h8
 obtain rfl:s0=a0:=d0
 obtain rfl:s1=a1:=d1
 obtain rfl:s2=a2:=d2
 obtain rfl:s5=a5:=d5
 obtain rfl:s6=a6:=d6
 obtain rfl:s7=a7:=d7
 obtain rfl:s8=a8:=d8
 have p0:=dZ (s:=1) e0
 have p1:=dZ (s:=1) e1
 have p2:=dZ (s:=1) e2
 have p3:=dZ (s:=1) e3
 have p4:=dZ (s:=1) e4
 have p5:=dZ (s:=1) e5
 have p6:=dZ (s:=1) e6
 have p7:=dZ (s:=1) e7
 have p8:=dZ (s:=1) e8
 have hz:cs.drop 9=[]:=List.drop_eq_nil_iff.2 (by rw[hl];exact Nat.le_of_eq (by kernel_rfl))
 refine⟨(⟨s0,s1,s2,s3,s4,s5,s6,s7,s8⟩:aZ),?_,(⟨s0,s1,s2,a3,a4,s5,s6,s7,s8⟩:bN),⟨s3,s4,rfl,d3,d4⟩,k0,k1,k2,k3,k4,k5,k6,k7,k8⟩
 have e:cs=cs.drop 0:=rfl
 rw[e]
 refine p0.trans ?_
 refine((congrArg _ p1)).trans ?_
 refine((congrArg _ (congrArg _ p2))).trans ?_
 refine((congrArg _ (congrArg _ (congrArg _ p3)))).trans ?_
 refine((congrArg _ (congrArg _ (congrArg _ (congrArg _ p4))))).trans ?_
 refine((congrArg _ (congrArg _ (congrArg _ (congrArg _ (congrArg _ p5)))))).trans ?_
 refine((congrArg _ (congrArg _ (congrArg _ (congrArg _ (congrArg _ (congrArg _ p6))))))).trans ?_
 refine((congrArg _ (congrArg _ (congrArg _ (congrArg _ (congrArg _ (congrArg _ (congrArg _ p7)))))))).trans ?_
 refine((congrArg _ (congrArg _ (congrArg _ (congrArg _ (congrArg _ (congrArg _ (congrArg _ (congrArg _ p8))))))))).trans ?_
 exact(congrArg _ (congrArg _ (congrArg _ (congrArg _ (congrArg _ (congrArg _ (congrArg _ (congrArg _ (congrArg _ hz)))))))))⟩
theorem arO:yK Tryz.prog 141 (List bN) (λ ys:(List bN)=>∀y∈ys,Iq y):=yK.slice Tryz.underlying141 (by kernel_rfl) arN
theorem arP:yK Tryz.prog 146 cN xA:=λ w=>⟨by kernel_rfl,λ enc base held fuel cs x h=>by
 obtain⟨hl,n,hp⟩:=nO Tryz.underlying146 h
 obtain⟨y0,h0⟩:=hp 0 _ rfl
 obtain⟨y1,h1⟩:=hp 1 _ rfl
 obtain⟨y2,h2⟩:=hp 2 _ rfl
 obtain⟨y3,h3⟩:=hp 3 _ rfl
 obtain⟨s0,e0,a0,d0,k0⟩:=(rd9 w).rd enc base held n _ _ h0
 obtain⟨s1,e1,a1,d1,k1⟩:=(ayL w).rd enc base held n _ _ h1
 obtain⟨s2,e2,a2,d2,k2⟩:=(arO w).rd enc base held n _ _ h2
 obtain⟨s3,e3,a3,d3,k3⟩:=(NH w).rd enc base held n _ _ h3
 obtain rfl:s0=a0:=d0
 obtain rfl:s3=a3:=d3
 have p0:=dZ (s:=1) e0
 have p1:=dZ (s:=1) e1
 have p2:=dZ (s:=1) e2
 have p3:=dZ (s:=1) e3
 have hz:cs.drop 4=[]:=List.drop_eq_nil_iff.2 (by rw[hl];exact Nat.le_of_eq (by kernel_rfl))
 refine⟨(⟨s0,s1,s2,s3⟩:cE),?_,(⟨s0,a1,a2,s3⟩:cN),⟨s1,s2,rfl,d1,d2⟩,k0,k1,k2,k3⟩
 have e:cs=cs.drop 0:=rfl
 rw[e]
 refine p0.trans ?_
 refine((congrArg _ p1)).trans ?_
 refine((congrArg _ (congrArg _ p2))).trans ?_
 refine((congrArg _ (congrArg _ (congrArg _ p3)))).trans ?_
 exact(congrArg _ (congrArg _ (congrArg _ (congrArg _ hz))))⟩
theorem arQ:yK Tryz.prog 24 (List cN) (λ ys:(List cN)=>∀y∈ys,xA y):=yK.slice Tryz.underlying24 (by kernel_rfl) arP
theorem ayM:yK Tryz.prog 85 gG DZ:=λ w=>⟨by kernel_rfl,λ enc base held fuel cs x h=>by
 obtain⟨hl,n,hp⟩:=nO Tryz.underlying85 h
 obtain⟨y0,h0⟩:=hp 0 _ rfl
 obtain⟨y1,h1⟩:=hp 1 _ rfl
 obtain⟨s0,e0,a0,d0,k0⟩:=(ak1 w).rd enc base held n _ _ h0
 obtain⟨s1,e1,a1,d1,k1⟩:=(NH w).rd enc base held n _ _ h1
 obtain rfl:s1=a1:=d1
 have p0:=dZ (s:=1) e0
 have p1:=dZ (s:=1) e1
 have hz:cs.drop 2=[]:=List.drop_eq_nil_iff.2 (by rw[hl];exact Nat.le_of_eq (by kernel_rfl))
 refine⟨(⟨s0,s1⟩:jr),?_,(⟨a0,s1⟩:gG),⟨s0,rfl,d0⟩,k0,k1⟩
 have e:cs=cs.drop 0:=rfl
 rw[e]
 refine p0.trans ?_
 refine((congrArg _ p1)).trans ?_
 exact(congrArg _ (congrArg _ hz))⟩
theorem ayN:yK Tryz.prog 25 (List gG) (λ ys:(List gG)=>∀y∈ys,DZ y):=yK.slice Tryz.underlying25 (by kernel_rfl) ayM
theorem rd27:yK Tryz.prog 27 cG abM:=λ w=>⟨by kernel_rfl,λ enc base held fuel cs x h=>by
 obtain⟨hl,n,hp⟩:=nO Tryz.underlying27 h
 obtain⟨y0,h0⟩:=hp 0 _ rfl
 obtain⟨y1,h1⟩:=hp 1 _ rfl
 obtain⟨y2,h2⟩:=hp 2 _ rfl
 obtain⟨y3,h3⟩:=hp 3 _ rfl
 obtain⟨y4,h4⟩:=hp 4 _ rfl
 obtain⟨y5,h5⟩:=hp 5 _ rfl
 obtain⟨s0,e0,a0,d0,k0⟩:=(ayK w).rd enc base held n _ _ h0
 obtain⟨s1,e1,a1,d1,k1⟩:=(ak0 w).rd enc base held n _ _ h1
 obtain⟨s2,e2,a2,d2,k2⟩:=(ak0 w).rd enc base held n _ _ h2
 obtain⟨s3,e3,a3,d3,k3⟩:=(arQ w).rd enc base held n _ _ h3
 obtain⟨s4,e4,a4,d4,k4⟩:=(arQ w).rd enc base held n _ _ h4
 obtain⟨s5,e5,a5,d5,k5⟩:=(ayN w).rd enc base held n _ _ h5
 have p0:=dZ (s:=1) e0
 have p1:=dZ (s:=1) e1
 have p2:=dZ (s:=1) e2
 have p3:=dZ (s:=1) e3
 have p4:=dZ (s:=1) e4
 have p5:=dZ (s:=1) e5
 have hz:cs.drop 6=[]:=List.drop_eq_nil_iff.2 (by rw[hl];exact Nat.le_of_eq (by kernel_rfl))
 refine⟨(⟨s0,s1,s2,s3,s4,s5⟩:bO),?_,(⟨a0,a1,a2,a3,a4,a5⟩:cG),⟨s0,s1,s2,s3,s4,s5,rfl,d0,d1,d2,d3,d4,d5⟩,k0,k1,k2,k3,k4,k5⟩
 have e:cs=cs.drop 0:=rfl
 rw[e]
 refine p0.trans ?_
 refine((congrArg _ p1)).trans ?_
 refine((congrArg _ (congrArg _ p2))).trans ?_
 refine((congrArg _ (congrArg _ (congrArg _ p3)))).trans ?_
 refine((congrArg _ (congrArg _ (congrArg _ (congrArg _ p4))))).trans ?_
 refine((congrArg _ (congrArg _ (congrArg _ (congrArg _ (congrArg _ p5)))))).trans ?_
 exact(congrArg _ (congrArg _ (congrArg _ (congrArg _ (congrArg _ (congrArg _ hz))))))⟩
theorem ayO:yK Tryz.prog 41 (List Int) (λ ys:(List Int)=>∀y∈ys,eR y):=yK.slice Tryz.underlying41 (by kernel_rfl) NH
theorem rd50:yK Tryz.prog 50 cA abN:=λ w=>⟨by kernel_rfl,λ enc base held fuel cs x h=>by
 obtain⟨hl,n,hp⟩:=nO Tryz.underlying50 h
 obtain⟨y0,h0⟩:=hp 0 _ rfl
 obtain⟨y1,h1⟩:=hp 1 _ rfl
 obtain⟨y2,h2⟩:=hp 2 _ rfl
 obtain⟨y3,h3⟩:=hp 3 _ rfl
 obtain⟨s0,e0,a0,d0,k0⟩:=(NH w).rd enc base held n _ _ h0
 obtain⟨s1,e1,a1,d1,k1⟩:=(NH w).rd enc base held n _ _ h1
 obtain⟨s2,e2,a2,d2,k2⟩:=(NH w).rd enc base held n _ _ h2
 obtain⟨s3,e3,a3,d3,k3⟩:=(ayO w).rd enc base held n _ _ h3
 obtain rfl:s0=a0:=d0
 obtain rfl:s1=a1:=d1
 obtain rfl:s2=a2:=d2
 have p0:=dZ (s:=1) e0
 have p1:=dZ (s:=1) e1
 have p2:=dZ (s:=1) e2
 have p3:=dZ (s:=1) e3
 have hz:cs.drop 4=[]:=List.drop_eq_nil_iff.2 (by rw[hl];exact Nat.le_of_eq (by kernel_rfl))
 refine⟨(⟨s0,s1,s2,s3⟩:bF),?_,(⟨s0,s1,s2,a3⟩:cA),⟨s3,rfl,d3⟩,k0,k1,k2,k3⟩
 have e:cs=cs.drop 0:=rfl
 rw[e]
 refine p0.trans ?_
 refine((congrArg _ p1)).trans ?_
 refine((congrArg _ (congrArg _ p2))).trans ?_
 refine((congrArg _ (congrArg _ (congrArg _ p3)))).trans ?_
 exact(congrArg _ (congrArg _ (congrArg _ (congrArg _ hz))))⟩
theorem arR:RdT Tryz.prog 3 Int eR:=VY Tryz.underlying3 (by kernel_rfl)
def arS(e:Two):Prop:=eR e.a/\eR e.b
theorem rd69:RdT Tryz.prog 69 Two arS:=⟨by kernel_rfl,λ enc w base sp held fuel cs x h=>by
 obtain⟨xs,n,_,_,hl,hs,hf⟩:=DataW.trod_array Tryz.underlying69 h
 have hc:Tryz.prog.cellsOf 3=1:=by kernel_rfl
 have g:∀i,i<2->∃y,DataW.trod enc Tryz.prog w base sp held n 3 ((cs.drop i).take 1)=some y:=λ i hi=>by
  have:=hf i hi
  rw[hc,Nat.mul_one]at this
  exact⟨xs[i]'(by omega),by rw[this,List.getElem?_eq_getElem (by omega)]⟩
 obtain⟨y0,h0⟩:=g 0 (by omega)
 obtain⟨y1,h1⟩:=g 1 (by omega)
 obtain⟨a0,e0,k0⟩:=arR.rd enc w base sp held n _ _ h0
 obtain⟨a1,e1,k1⟩:=arR.rd enc w base sp held n _ _ h1
 have s0:=dZ (s:=1) e0
 have s1:=dZ (s:=1) e1
 have hz:cs.drop 2=[]:=List.drop_eq_nil_iff.2 (by rw[hl];exact Nat.le_of_eq (by kernel_rfl))
 refine⟨⟨a0,a1⟩,?_,k0,k1⟩
 have e:cs=cs.drop 0:=rfl
 rw[e]
 refine(s0).trans ?_
 refine(congrArg _ s1).trans ?_
 exact(congrArg _ (congrArg _ hz))⟩
end Go.Proofs.YtpdlpabnlkofmaaGreatDoor

/-
  Part 8.
-/
import Derived.Test.YtpdlpabnlkofmaaGreatDoorR10x7
set_option maxHeartbeats 8000000
set_option linter.all false
set_option maxRecDepth 100000
open Go.Fw.Flat renaming val->hM,enc->ia
open ByteArray renaming mk->hZ
open List renaming getElem?_eq_some_iff->ir,mem_of_getElem?->j0,take_of_length_le->kp,length_append->kH,length_singleton->lH,length_take->lQ,length_map->mv,getD_eq_getElem?_getD->n0,mem_map->n4,length_cons->n5,mem_append->oi,append_nil->oj,drop_eq_nil_of_le->pC,length_eq_zero_iff->qa,drop_eq_getElem_cons->qH,mem_of_mem_take->uS,nil_append->x6,drop_eq_nil_iff->zH,length_nil->Ei,take_succ_cons->L7,drop_of_length_le->Oa,take_zero->Pe,take_length->Pw,cons_append->aa7
open Nat renaming zero_le->kO,le_refl->o5,zero_add->ta,le_trans->tx,le_of_eq->zq,add_zero->Lm
open Go.Instr renaming build->l0,sliceAt->nn,box->yg
open Go.Value renaming int->mn,tuple->Be
open Go.Fw.Deep renaming dr->mL,ext->Lo
open Bool renaming and_eq_true->nS,not_eq_true'->qm,true_and->Av
open Int renaming toNat_natCast->o6,le_refl->LB,emod_lt_of_pos->Sk,emod_nonneg->VU
open Decidable renaming not_not->u3
namespace Go.Proofs.YtpdlpabnlkofmaaGreatDoor
open Go.Fw
def afe(m:fY)(t:jJ)(i:Int)(x:bK):(dU m t i x).1.dC=m.dC:=by
 unfold dU
 repeat' split
 all_goals first|rfl|(unfold ri;split<;>rfl)
theorem abf(m:fY)(i:Int):(il m i).1.dC=m.dC:=by
 unfold il
 repeat' split
 all_goals first|rfl|exact afe _ _ _ _
def alJ(m:fY)(q:bV):m.dC<=(od m q).1.dC/\(od m q).1.dC<=m.dC+1:=by
 unfold od
 split
 .show m.dC<=m.dC+1/\m.dC+1<=m.dC+1;omega
 split
 .split
  .split<;>(show m.dC<=m.dC/\m.dC<=m.dC+1)<;>omega
  show m.dC<=(il m q.t).1.dC/\(il m q.t).1.dC<=_;rw[abf];omega
 grind
structure zJ(p:cE)(n:Nat)(m:fY):Prop where
 ok:my m
 pr:m.p=p
 mb:MB m.mem n
 cr:0<=m.dC/\m.dC<=n
def zJ.step{p:cE}{n:Nat}{m:fY}{q:bV}(h:zJ p n m)(hc:FA p):zJ p (n+1) (od m q).1:=by
 obtain⟨h1,h2,h3⟩:=ak3 (q:=q) h.ok (h.pr▸hc)
 have h4:=alJ m q
 have h5:=h.cr
 exact⟨h1,h2.trans h.pr,h3 _ h.mb,bL,bL⟩
def zJ.new{p:cE}{room:Int}(B:PZ p)(hc:FA p)(u:1<=room/\room<=16):zJ p 0 (gB p room):=
 ⟨aeQ B hc u,rfl,λk=>zq rfl,LB 0,LB 0⟩
def aff(m:fY)(t:jJ)(x:bK):(ri m t x).mem.dY=m.mem.dY:=by
 unfold ri;split
 .exact tP _ _ _
 rfl
def afg(m:fY)(t:jJ)(i:Int)(x:bK):(dU m t i x).1.mem.dY=m.mem.dY:=by
 unfold dU
 repeat' split
 all_goals first|rfl|exact aff _ _ _
def abg(m:fY)(i:Int):(il m i).1.mem.dY=m.mem.dY:=by
 unfold il
 repeat' split
 all_goals first|rfl|exact afg _ _ _ _
def abh{m:fY}(u:my m)(q:bV):(od m q).1.mem.dY=m.mem.dY:=by
 unfold od
 split
 .rfl
 split
 .split
  .split
   .exact(HM u.mem).2.2
   rfl
  exact abg _ _
 rfl
def lS(c:Int):fY->List bX->List bV->fY×List bX×Int
 | m,o,[]=>(m,o,0)
 | m,o,q::r=>if q.kind=3/\c<=m.dC then(m,o,14)else if (od m q).2.2≠0 then((od m q).1,o,(od m q).2.2)else lS c (od m q).1 (o++[(od m q).2.1]) r
def fJ(p:cE)(room c:Int):Int:=if fc p≠0 then fc p else if room<1\/16<room then 1 else if c<0\/8<c then 1 else 0
def abi(p:cE)(room c:Int)(l:List bV):List bX×Int:=if fJ p room c≠0 then([],fJ p room c)else((lS c (gB p room) [] l).2.1,(lS c (gB p room) [] l).2.2)
def afh(p:cE)(room c:Int)(l:List bV):Nat:=(abi p room c l).1.length
theorem abj{p:cE}{room c:Int}{l:List bV}(h:fJ p room c≠0):abi p room c l=([],fJ p room c):=by unfold abi;grind
def afi(x y:bN)(h:ia x=ia y):x=y:=by
 obtain⟨a,b,c,⟨d,n,k⟩⟩:=x
 obtain⟨u,b2,I,⟨B,E,G⟩⟩:=y
 simp[ia,hM]at h
 simp[h]
def afj(x y:aZ)(h:ia x=ia y):x=y:=by
 obtain⟨a,b,c,⟨d,n,k⟩,⟨W,I,M⟩,e,f,g,i⟩:=x
 obtain⟨B,b2,c2,⟨J,n2,Y⟩,⟨G,Z,u⟩,E,O,U,V⟩:=y
 simp[ia,hM]at h
 simp[h]
def afk(x y:cD)(h:ia x=ia y):x=y:=by
 obtain⟨a,⟨d,n,k⟩,⟨O,I,M⟩,e⟩:=x
 obtain⟨B,⟨J,W,U⟩,⟨G,V,u⟩,E⟩:=y
 simp[ia,hM]at h
 simp[h]
def Bf.of{E:Nat->Prop}{w:World}{lv:SV}{qB:List cL}(h:∀w',m8 E w w'->DL w' (hM lv) qB):Bf (m8 E w) lv qB:=by
 obtain⟨V,W,ht⟩:=m8.fix afk h
 refine⟨V,λw' u=>(ht w' u).1,W,λj M t h1 h2=>?_⟩
 have hd:∀w',m8 E w w'->mL w' M t:=λw' u=>(ht w' u).2.2 j M t h1 h2
 obtain⟨G,I,rfl,_,_⟩:=hd w (m8.refl _ _)
 have B:∀w',m8 E w w'->DL w' (hM G) t.dN/\DL w' (hM I) t.body:=λw' u=>by
  obtain⟨O,U,e,h4,h5⟩:=hd w' u
  grind
 obtain⟨rows,_,J⟩:=m8.fix afj λw' u=>(B w' u).2
 exact⟨G,I,rows,rfl,λw' u=>DL.flat (B w' u).1,λw'=>⟨λY u=>(J Y u).2,λu=>(J w' u).1⟩⟩
def NX.of{B:Nat->Prop}{w:World}{pv:bM}{p:cE}(h:∀w',m8 B w w'->mL w' pv p):NX (m8 B w) pv p:=by
 obtain⟨U,M,V,G,E,g5,rfl,_⟩:=h w (m8.refl _ _)
 have hd:∀w',m8 B w w'->DL w' (hM G) p.threads/\DL w' (hM E) p.recover:=λw' u=>by
  obtain⟨Y,W,J,O,I,Z,e,_,_,_,h4,h5,_⟩:=h w' u
  grind
 exact⟨h,Bf.of λw' u=>(hd w' u).1,Bf.of λw' u=>(hd w' u).2⟩
def Bf.mono{K K2:g7}{lv:SV}{qB:List cL}(h:Bf K lv qB)(u:∀w,K2 w->K w):Bf K2 lv qB:=by
 obtain⟨B,h1,h2⟩:=h
 exact⟨B,λw E=>h1 w (u w E),h2.mono u⟩
def NX.mono{K K2:g7}{pv:bM}{p:cE}(h:NX K pv p)(u:∀w,K2 w->K w):NX K2 pv p:=⟨λw B=>h.pr w (u w B),h.th.mono u,h.rc.mono u⟩
def Vy(K:g7)(lv:Value)(l:List bV):Prop:=∃ts:List bN,∀w,K w->dz (λ_=>True) w lv ts/\gu ts l w
def Vy.of{u:Nat->Prop}{w:World}{lv:Value}{l:List bV}(h:∀w',m8 u w w'->DL w' lv l):Vy (m8 u w) lv l:=by
 obtain⟨ts,_,ht⟩:=m8.fix afi h
 exact⟨ts,ht⟩
def Vy.nil(K:g7):Vy K (.slice none 0 0) []:=⟨[],λw _=>⟨dz.nil _ _,gu.nil⟩⟩
def zJ.mono{p:cE}{a b:Nat}{m:fY}(h:zJ p a m)(u:a<=b):zJ p b m:=⟨h.ok,h.pr,h.mb.mono u,by have:=h.cr;omega⟩
theorem uP{α:Type}{xs:List α}{k:Nat}{x:α}(h:xs[k]?=some x):xs.drop k=x::xs.drop (k+1):=by
 obtain⟨h1,h2⟩:=ir.1 h
 rw[qH h1,h2]
def Bg(l:List Bool):Nat:=(l.takeWhile id).length
def C5(l:List Bool):Int:=if Bg l<l.length then(Bg l:Int)else -1
def afl{l:List Bool}{k:Nat}{b:Bool}(h:l[k]?=some b)(hb:b=true)(u:Bg l=k+Bg (l.drop k)):Bg l=k+1+Bg (l.drop (k+1)):=by
 rw[u,uP h,hb]
 show k+(Bg (l.drop (k+1))+1)=_
 omega
def afm{l:List Bool}{k:Nat}{b:Bool}(h:l[k]?=some b)(hb:b=false)(u:Bg l=k+Bg (l.drop k)):C5 l=k:=by
 have B:=(ir.1 h).1
 have e:Bg l=k:=by rw[u,uP h,hb];rfl
 unfold C5
 omega
def afn{l:List Bool}{k:Nat}(h:l.length<=k)(u:Bg l=k+Bg (l.drop k)):C5 l = -1:=by
 unfold C5
 omega
def qI(m:fY):Int×Int:=if m.fault≠0 then(3,m.fault)else if pG m=true then(4,0)else if oe m=true then(if 0<=C5 (pQ m)then(2,C5 (pQ m))else(1,0))else(0,0)
def Q6(m:fY):bV:=⟨(qI m).1,(qI m).2,m.dC,m.mem.l.take (eJ m.p).toNat⟩
section
variable {m:fY}
theorem alK(h:m.fault≠0):qI m=(3,m.fault):=by unfold qI;grind
theorem alL(h:¬ m.fault≠0)(h2:pG m=true):qI m=(4,0):=by unfold qI;grind
theorem alM(h:¬ m.fault≠0)(h2:pG m=false)(h3:oe m=true)(h4:0<=C5 (pQ m)):qI m=(2,C5 (pQ m)):=by grind[qI,C5,pQ]
theorem alN(h:¬ m.fault≠0)(h2:pG m=false)(h3:oe m=true)(h4:¬ 0<=C5 (pQ m)):qI m=(1,0):=by grind[qI]
theorem abk(h:¬ m.fault≠0)(h2:pG m=false)(h3:oe m=false):qI m=(0,0):=by grind[qI]
end
def zE:bV:=⟨0,0,0,[]⟩
def fp(p:cE)(room c:Int)(l:List bV):bV×List bX×Int×Int:=
 if fJ p room c≠0 then(zE,[],fJ p room c,0)
 else if (lS c (gB p room) [] l).2.2≠0 then(zE,[],(lS c (gB p room) [] l).2.2,((lS c (gB p room) [] l).2.1.length:Int))
 else(Q6 (lS c (gB p room) [] l).1,(lS c (gB p room) [] l).2.1,0,0)
theorem abl{p:cE}{room c:Int}{l:List bV}(h:fJ p room c≠0):fp p room c l=(zE,[],fJ p room c,0):=by unfold fp;grind
theorem abm{p:cE}{room c:Int}{l:List bV}(h:fJ p room c=0)(h2:(lS c (gB p room) [] l).2.2≠0):fp p room c l=(zE,[],(lS c (gB p room) [] l).2.2,((lS c (gB p room) [] l).2.1.length:Int)):=by grind[fp,zE,lS,gB]
theorem FU{p:cE}{room c:Int}{l:List bV}(h:fJ p room c=0)(h2:(lS c (gB p room) [] l).2.2=0):fp p room c l=(Q6 (lS c (gB p room) [] l).1,(lS c (gB p room) [] l).2.1,0,0):=by grind[fp,Q6,lS,gB]
def ahA(w:World):mL w (⟨0,0,0,cI⟩:bN) zE:=⟨_,rfl,DL.nil w⟩
def C72(K:g7)(p:Nat)(m:fY)(w:World)(G:Has (gR K p m) w)(I:∀w',Ext w w'->K w')(J:my m):CR 72 [.pointer (some ⟨p,0,none⟩)] w (λv w'=>kZ (bF v m.mem.l) w w'):=by
 obtain⟨a,E⟩:=gR.rd G (I _ (Ext.refl _));have B:=E.b.cell (o:=9) rfl;have u:=St.start w;refine eU Tryz.func72 ?_;exact aD (aA sX (bU KP (B.ext u.aF) (ef am6 u (C144 a.q m.mem _ (E.mem.ext u.aF) J.mem) λ_ _ _ u=>u.fresh)))
def C172(O:Value)(xs:List Bool)(w:World)(M:dz (λ_=>True) w O xs)(Y:xs.length<=1073741824):CR 172 [O,.bool false] w (λv w'=>v=hH (C5 xs)/\Ext w w'):=by
 have u:=St.start w;refine eU Tryz.func172 ?_;refine aH GO (M.ext u.aF) ?_;refine⟨λJ y I=>∃k:Nat,y=hH (k:Int)/\J=xs.length-k/\k<=xs.length/\Bg xs=k+Bg (xs.drop k)/\St w aY [] I,⟨_,0,rfl,rfl,kO _,(ta _).symm,u⟩,?_⟩;rintro J _ I ⟨k,rfl,rfl,W,E,u⟩ _;refine aO (aC (λV=>?_) λ_=>⟨ez (mn .i64) (afn bL E).symm,u.aF⟩);obtain⟨e,B⟩:=gx xs (i:=((k:Nat):Int).toNat) bL;refine aM GO (M.ext u.aF) bL B (λq U=>aE Gf U (Ww KM ?_));rw[o6]at B;exact aX (λG=>⟨ez (mn .i64) (afm B (by simpa using G) E).symm,u.aF⟩) (λG=>aJ bL ⟨_,bL,k+1,rfl,rfl,bL,afl B (by simpa using G) E,u⟩)
def C70(K:g7)(p:Nat)(m:fY)(w:World)(hm:Has (gR K p m) w)(M:∀w',Ext w w'->K w')(G:my m)(NT:m.mem.dY=fo m.p):CR 70 [.pointer (some ⟨p,0,none⟩)] w (λv w'=>kZ (bF v (pQ m)) w w'):=by
 obtain⟨a,E⟩:=gR.rd hm (M _ (Ext.refl _));have U:=E.b.cell (o:=6) rfl;have V:=E.b.cell (o:=5) rfl;have iS:=uK m.p;have KH:m.mem.l.length=(iQ m.p).length:=by rw[G.mem.ll,NT];unfold fo;grind
 have EO:(cX m.p).length=(iQ m.p).length:=by unfold cX;grind
 have Xw:(iQ m.p).length<=20:=by have:=G.mem.fl;have:=G.mem.ll;omega
 have hcb:=G.pz.dX;have hcz:=G.pz.zc;obtain⟨g0,g1,g2,g3,g4,g5,hpv,_,_,_,_,_,O0⟩:=E.uk.pr _ (M _ (Ext.refl _));rw[hpv]at V;obtain⟨J,FZ,AU⟩:=O0.open;have XC:=AU.1;have u:=St.start w;refine ajW _ _ _ ?_;unfold S70;refine aD (aA Dd (xJ a.pv eN (qx.ext E.b u.aF) rfl (aS YR u (C54 m.p a.pv _ (E.uk.pr _ (M _ u.aF)) G.pz) λ_ he u=>aD (aA Dd (aA jR (bU sL (V.ext u.aF) (aH uf (FZ.ext u.aF) ?_)))))));refine⟨λmm o y w'=>∃k:Nat,y=hH (k:Int)/\mm=J.length-k/\k<=J.length/\St w aY [bF o ((m.p.dX.take k).map (xW m))] w',⟨_,0,rfl,rfl,kO _,u.eW⟩,?_⟩
 rintro mm o _ _ ⟨k,rfl,rfl,hk,u⟩ _;refine aO (aC (λc1=>?_) λc1=>?_);rotate_left
 .rw[kp bL]at u;exact u.fresh
 obtain⟨ct,O⟩:=gx J (i:=((k:Nat):Int).toNat) bL;obtain⟨cl,B⟩:=gx m.p.dX (i:=((k:Nat):Int).toNat) bL;obtain⟨ge,rfl,Wu⟩:=AU.2 _ ct cl O B;have azT:=(hcz cl (j0 B)).1;refine⟨λjv w'=>St w aY [bF jv ((m.p.dX.take (k+1)).map (xW m))] w',?_,?_⟩;rotate_left
 .rintro o2 _ u _;exact aJ bL ⟨_,bL,k+1,rfl,rfl,bL,u⟩
 refine aM uf (FZ.ext u.aF) bL O (λq hq=>aE ID hq (aQ u OG λb6 _ u=>aK (x:=(⟨ge,cl.at_⟩:jl)) u ID rfl rfl λ_ u=>have u:=u.drew;aA xF (aB (v:=hM (ge:SV)) jy u.hb rfl (aD (aA IG (bU iW (U.ext u.aF) (j1 ix (E.uk.cs _ (M _ u.aF)) bL bL λs32 Y=>ef ajZ u (C72 K p m _ (hm.ext u.aF) (λ_ e=>M _ (u.aF.then e)) G) λx34 _ cM u=>?_)))))));refine⟨aI jy (u.p1.hb.cell rfl),?_⟩;refine⟨aI iW (U.ext u.aF),?_⟩;refine xC cQ u.dQ bL bL (λs36 h36=>aS agD u (C143 _ _ _ cl.e _ _ _ (DL.flat (Wu.ext u.aF)) (Y _ (E.uk.cs _ (M _ u.aF))) h36 azT (by rw[lQ];omega)) λ_ he u=>aN rfl (aN rfl (aG ?_)))
 have W:xW m cl=(decide ((qA ((cX m.p).take (eJ m.p).toNat) (m.mem.l.take (eJ m.p).toNat) cl.e).2=0)&&decide ((qA ((cX m.p).take (eJ m.p).toNat) (m.mem.l.take (eJ m.p).toNat) cl.e).1≠0)):=rfl;refine aC (λc2=>?_) (λc2=>?_)
 .refine bT (aW (([xW m cl]):List Bool) u GO rfl (by rw[W,ei c2,Av];rfl) (dM rfl) λZ w7 u=>?_);have I:=u.dQ;refine bJ u.p3 GO I (by rw[mv,lQ,lH];omega) cZ (λs48 w8 u=>?_);rw[<- gI (k:=k) B];exact u.p1.drop.p1.drop.p1.drop
 refine aW (([xW m cl]):List Bool) u GO rfl (by rw[W,ej c2,Bool.false_and];rfl) (dM rfl) (λZ w7 u=>?_);have I:=u.dQ;refine bJ u.p3 GO I (by rw[mv,lQ,lH];omega) cZ (λs48 w8 u=>?_);rw[<- gI (k:=k) B];exact u.p1.drop.p1.drop.p1.drop
def C102(K:g7)(p:Nat)(m:fY)(pv:bM)(w:World)(U:Has (gR K p m) w)(O:∀w',Ext w w'->K w')(G:my m)(NT:m.mem.dY=fo m.p)(hp:mL w pv m.p):CR 102 [hM pv,.pointer (some ⟨p,0,none⟩)] w (λv w'=>∃ev:bN,v=hM ev/\kZ (eH λw=>mL w ev (Q6 m)) w w'):=by
 have iS:=uK m.p;have hcb:=G.pz.dX;have KH:m.mem.l.length=(iQ m.p).length:=by rw[G.mem.ll,NT];unfold fo;grind
 have u:=St.start w;refine pJ Tryz.func102 (pl:=azQ) ?_;refine cJ (x:=pv) u (λb2 _ u=>aQ u nJ λb4 _ u=>have u:=u.enc (cs':=ia (⟨0,0,0,cI⟩:bN)) rfl;aS aru u (C68 K p m _ (U.ext u.aF) (λ_ e=>O _ (u.aF.then e)) G) λ_ W u=>aQ u IJ λb5 _ u=>aK (x:=rj m) u KR rfl rfl λ_ u=>?_);have u:=u.drew;refine⟨λY w'=>∃(b6:Nat) (B:SV),Y=.pointer (some ⟨b6,0,none⟩)/\St w aY [bZ b6 (ia (⟨0,0,m.dC,B⟩:bN)),bF (hM (B:SV)) (m.mem.l.take (eJ m.p).toNat),bZ b5 (ia (rj m)),bZ b4 (ia (⟨0,0,0,cI⟩:bN)),bZ b2 (ia pv)] w',?_,?_⟩
 .refine aA WA (aB (v:=hH m.dC) bO u.hb rfl (aE eN u.p2.At ⟨ef ajZ u (C72 K p m _ (U.ext u.aF) (λ_ e=>O _ (u.aF.then e)) G) (λx13 w6 cM u=>⟨aI bO (u.p1.hb.cell rfl),⟨fm eN u.p3.At,⟨?_,?_,trivial⟩⟩⟩),?_,trivial⟩))
  .refine aS YR u (C54 m.p pv _ (Lo hp u.aF) G.pz) (λw7 W u=>?_);refine⟨aI bO (u.p1.hb.cell rfl),?_⟩;refine rO cQ u bL bL (λJ u=>?_);obtain⟨B,rfl⟩:=u.fQ;refine pop (Ch m.dC _ _ _) (aQ u nJ λb6 w8 u=>?_);refine⟨aI bO (u.p2.hb.cell rfl),?_⟩;refine⟨fm eN u.p4.At,?_⟩;exact aK (x:=(⟨0,0,m.dC,B⟩:bN)) u lY rfl rfl (λ_ u=>⟨b6,_,rfl,u⟩)
  .refine aQ u nJ (λb6 w8 u=>?_);refine⟨aI bO (u.p2.hb.cell rfl),?_⟩;refine⟨fm eN u.p4.At,?_⟩;refine aS YR u (C54 m.p pv _ (Lo hp u.aF) G.pz) (λw7 W u=>?_);refine⟨aI bO (u.p2.hb.cell rfl),?_⟩;refine rO cQ u.p1 bL bL (λJ u=>?_);obtain⟨B,rfl⟩:=u.fQ;exact pop (Ch m.dC _ _ _) (aK (x:=(⟨0,0,m.dC,B⟩:bN)) u.p1 lY rfl rfl λ_ u=>⟨b6,_,rfl,u⟩)
  refine aQ u nJ (λb6 w8 u=>?_);refine⟨aI bO (u.p1.hb.cell rfl),?_⟩;refine⟨fm eN u.p3.At,?_⟩;refine ef ajZ u (C72 K p m _ (U.ext u.aF) (λ_ e=>O _ (u.aF.then e)) G) (λx13 w6 cM u=>?_);refine⟨aI bO (u.p2.hb.cell rfl),?_⟩;refine⟨fm eN u.p4.At,?_⟩;refine aS YR u (C54 m.p pv _ (Lo hp u.aF) G.pz) (λw7 W u=>?_);refine⟨aI bO (u.p2.hb.cell rfl),?_⟩;refine rO cQ u bL bL (λJ u=>?_);obtain⟨B,rfl⟩:=u.fQ;exact pop (Ch m.dC _ _ _) (aK (x:=(⟨0,0,m.dC,B⟩:bN)) u.p1 lY rfl rfl λ_ u=>⟨b6,_,rfl,u⟩)
 rintro _ _ ⟨b6,B,rfl,u⟩ _;refine ef ayd u (C70 K p m _ (U.ext u.aF) (λ_ e=>O _ (u.aF.then e)) G NT) (λx19 _ cM u=>aS asR u (C172 _ (pQ m) _ u.dQ (by unfold pQ;rw[mv];omega)) λZ W u=>?_);have u:=u.drop;refine⟨λw'=>St w aY [bZ b6 (ia (⟨(qI m).1,(qI m).2,m.dC,B⟩:bN)),bF (hM (B:SV)) (m.mem.l.take (eJ m.p).toNat),bZ b5 (ia (rj m)),bZ b4 (ia (⟨0,0,0,cI⟩:bN)),bZ b2 (ia pv)] w',?_,?_⟩
 .refine aA KS (aB (v:=hH m.fault) bO u.p2.hb rfl (bT (aC (λI=>?_) λI=>?_)))
  .rw[alK I];have u:=u.drew;refine aA KS (aB (v:=hH m.fault) bO u.p2.hb rfl (aA pL (aV u bO (dM rfl) rfl λw20 u=>?_)));refine⟨aI bO (u.p2.hb.cell rfl),?_⟩;exact aA Dc (aV u bO (dM rfl) rfl λ_ u=>u)
  refine aA Ab (aB (v:=.bool (pG m)) Gf u.p2.hb rfl (aX (λM=>?_) λM=>?_))
  .rw[alL I M];exact aA pL (aV u bO (dM rfl) rfl λ_ u=>u)
  refine⟨λY w'=>Y=.bool (oe m&&decide (0<=C5 (pQ m)))/\w'=Z,?_,?_⟩
  .exact aA wg (aB (v:=.bool (oe m)) Gf u.p2.hb rfl (aX (λE=>cR ⟨vb (by rw[E,Av]),rfl⟩) λE=>⟨vb (by rw[E];rfl),rfl⟩))
  rintro _ _ ⟨rfl,rfl⟩ _;refine aX (λE=>?_) (λE=>?_)
  .rw[nS,decide_eq_true_iff]at E;rw[alM I M E.1 E.2];exact aA pL (aV u bO (dM rfl) rfl λ_ u=>aA Dc (aV u bO (dM rfl) rfl λ_ u=>u))
  refine aA wg (aB (v:=.bool (oe m)) Gf u.p2.hb rfl (aX (λV=>?_) λV=>?_))
  .rw[V,Av,decide_eq_false_iff_not]at E;rw[alN I M V E];exact aA pL (aV u bO (dM rfl) rfl λ_ u=>u)
  rw[abk I M V];exact u
 rintro _ u _;exact aE (x:=(⟨(qI m).1,(qI m).2,m.dC,B⟩:bN)) lY u.At (aK (x:=(⟨(qI m).1,(qI m).2,m.dC,B⟩:bN)) u.p3 lY rfl rfl λ_ u=>aE (x:=(⟨(qI m).1,(qI m).2,m.dC,B⟩:bN)) lY u.At (have u:=u.drop.drop.p1.drop.p1.drop.freeze.dD (Ψ:=λw=>mL w (⟨(qI m).1,(qI m).2,m.dC,B⟩:bN) (Q6 m)) (λ_ h=>⟨B,rfl,DL.j3 h⟩);⟨_,rfl,u.fresh⟩))
def asS(s:mJ):pr g6 (Instr.field 114 (hM s) 0)=some (hH s.dC):=by
 obtain⟨a,b,c,d,e⟩:=s
 kernel_rfl
def C101(K:g7)(p:cE)(pv:bM)(room c:Int)(lv:Value)(l:List bV)(w:World)(I:∀w',Ext w w'->K w')(hp:NX K pv p)(hz:PZ p)(hl:Vy K lv l)(BG:l.length<=1000)(hcu:∀q∈l,q.cut.length<=1000) :
  CR 101 [hM pv,hH room,hH c,lv] w (λv w'=>(fJ p room c≠0/\v=.tuple #[.pointer none,.slice none 0 0,hH (fJ p room c)]/\Ext w w')\/
  (fJ p room c=0/\∃(b:Nat) (X:g7) (ov:Value),v=.tuple #[.pointer (some ⟨b,0,none⟩),ov,hH (lS c (gB p room) [] l).2.2]/\zJ p 1000 (lS c (gB p room) [] l).1/\(lS c (gB p room) [] l).1.mem.dY=fo p/\kZ (sep (gR (λw=>K w/\X w) b (lS c (gB p room) [] l).1) (sep (bF ov (lS c (gB p room) [] l).2.1) (eH X))) w w')):=by
 have u:=St.start w;refine eU Tryz.func101 ?_;refine cJ (x:=pv) u (λb4 _ u=>aE eN u.At (dO aye (C12 K p pv room _ (λ_ e=>I _ (u.aF.then e)) hp hz) ?_));rintro v21 w2 (⟨h1,rfl,U⟩|⟨Z,h1,rfl,U⟩|⟨Z,hr,b,X,rfl,cM⟩)
 .have u:=u.ext U;refine aN rfl (aN rfl (bT (aC (λ_=>?_) λh=>absurd h1 h)));have e:fJ p room c=fc p:=by unfold fJ;rw[ee h1]
  rw[e];exact .inl ⟨h1,rfl,u.drop.aF⟩
 .have u:=u.ext U;refine aN rfl (aN rfl (bT (aC (λ_=>?_) λh=>absurd (by decide:(1:Int)≠0) h)));have e:fJ p room c=1:=by unfold fJ;rw[eb (by rw[Z];decide),ee h1]
  rw[e];exact .inl ⟨cZ,rfl,u.drop.aF⟩
 have Cg:=pR Z;have u:=(u.made cM).split;refine aN rfl (aN rfl (bT (aC (λh=>absurd rfl h) λ_=>?_)));refine⟨λjv w'=>jv=.bool (decide (c<0\/8<c))/\w'=w2,?_,?_⟩
 .exact aO (aC (λh=>⟨vb (ei (.inl h)).symm,rfl⟩) λ_=>cP ⟨vb (ew.2 bL),rfl⟩)
 rintro _ _ ⟨rfl,rfl⟩ _;refine aC (λh2=>?_) (λh2=>?_)
 .have e:fJ p room c=1:=by unfold fJ;rw[eb (by rw[Z];decide),eb bL,ee h2]
  rw[e];exact .inl ⟨cZ,rfl,u.drop.drop.drop.aF⟩
 have hse:fJ p room c=0:=by unfold fJ;rw[eb (by rw[Z];decide),eb bL,eb h2]
 obtain⟨ts,G⟩:=hl;have hn:ts.length=l.length:=(G _ (I _ u.aF)).2.1
 have J:∀(k:Nat) (m:fY) (ov:Value) (out:List bX) (f:Int) (w':World),k<=l.length->zJ p k m->m.mem.dY=fo p->(lS c (gB p room) [] l)=(m,out,f)->St w aY [bF ov out,gR (λw=>K w/\X w) b m,eH X,bZ b4 (ia pv)] w'->
   (fJ p room c≠0/\Be #[.pointer (some ⟨b,0,none⟩),ov,hH f]=.tuple #[.pointer none,.slice none 0 0,hH (fJ p room c)]/\Ext w w')\/
   (fJ p room c=0/\∃(b':Nat) (X:g7) (O:Value),Be #[.pointer (some ⟨b,0,none⟩),ov,hH f]=.tuple #[.pointer (some ⟨b',0,none⟩),O,hH (lS c (gB p room) [] l).2.2]/\zJ p 1000 (lS c (gB p room) [] l).1/\(lS c (gB p room) [] l).1.mem.dY=fo p/\kZ (sep (gR (λw=>K w/\X w) b' (lS c (gB p room) [] l).1) (sep (bF O (lS c (gB p room) [] l).2.1) (eH X))) w w'):=by
  intro k m ov out f w' hk B hf U u;rw[U];have u:=St.join u.p3.drop.p2.p1;exact .inr ⟨hse,b,X,ov,rfl,B.mono bL,hf,(St.join u.p1).fresh⟩
 refine aH jL (G _ (I _ u.aF)).1 ?_
 refine⟨λmm o y w'=>∃(k:Nat) (m:fY) (out:List bX),y=hH (k:Int)/\mm=ts.length-k/\k<=l.length/\out.length<=k/\zJ p k m/\m.mem.dY=fo p/\(lS c (gB p room) [] l)=lS c m out (l.drop k)/\St w aY [bF o out,gR (λw=>K w/\X w) b m,eH X,bZ b4 (ia pv)] w',
  ⟨_,0,gB p room,[],rfl,rfl,kO _,o5 _,zJ.new hz Cg hr,rfl,rfl,u.eW⟩,?_⟩
 rintro mm ov _ w4 ⟨k,m,out,rfl,rfl,hk,ho,B,NT,E,u⟩ _;refine aO (aC (λc1=>?_) λc1=>?_);rotate_left
 .rw[Oa bL]at E;exact J k m ov out 0 w4 hk B NT E u
 obtain⟨q,hq⟩:=gx l (i:=k) bL;obtain⟨tq,V⟩:=gx ts (i:=((k:Nat):Int).toNat) bL;have Y:∀w',K w'->mL w' tq q:=λw' h=>(G w' h).2.2 k tq q V hq;obtain⟨W,rfl,_⟩:=Y _ (I _ u.aF)
 have hgc:∀w',K w'->dz (λ_=>True) w' (hM W) q.cut:=λw' h=>by
  obtain⟨gc2,e,h3⟩:=Y w' h;cases e
  exact DL.flat h3
 have hqc:=hcu q (j0 hq)
 have PK:l.drop k=q::l.drop (k+1):=by
  obtain⟨h1,h2⟩:=ir.1 hq;rw[qH h1,h2]
 rw[PK]at E;have oq:=B.mb.mono (b:=1000000) bL;have Al:=B.cr;refine aM jL (G _ (I _ u.aF)).1 bL V (λq37 h37=>aE rF h37 (aQ u IC λb15 _ u=>aK (x:=(⟨q.kind,q.t,q.i,W⟩:bN)) u rF rfl rfl λ_ u=>?_));refine⟨λjv w'=>jv=.bool (decide (q.kind=3/\c<=m.dC))/\St w aY [bZ b15 (ia (⟨q.kind,q.t,q.i,W⟩:bN)),bF ov out,gR (λw=>K w/\X w) b m,eH X,bZ b4 (ia pv)] w',?_,?_⟩
 .exact aA qX (aB (v:=hH q.kind) bO u.hb rfl (aG (aC (λM=>aS aru u (C68 (λw=>K w/\X w) b m _ u.p2.has (λ_ e=>⟨I _ (u.aF.then e),(u.ext e).p3.eH⟩) B.ok) λ_ _ u=>pop (asS (rj m)) (cR ⟨vb (ew.2 ⟨λh=>⟨M,h⟩,λh=>h.2⟩),u⟩)) λM=>⟨vb (ej λh=>M h.1).symm,u⟩)))
 rintro _ w8 ⟨rfl,u⟩ _;refine aC (λM=>?_) (λM=>?_)
 .rw[lS,ee M]at E;exact J k m ov out 14 w8 hk B NT E u.drop
 rw[lS,eb M]at E;refine aE (x:=(⟨q.kind,q.t,q.i,W⟩:bN)) rF u.At (bD ayb u.p2 (H':=λ_=>gR (λw=>K w/\X w) b (od m q).1) (Φ:=λv _=>v=.tuple #[hM (od m q).2.1,hH (od m q).2.2]) (λF2 dZ dV=>?_) ?_)
 .exact C24 (λw=>K w/\X w) b m q W F2 _ dZ (λw' hc=>⟨I _ (dV w' hc).aF,(dV w' hc).p2.eH⟩) B.ok (B.pr▸Cg) oq bL (λw' hc=>hgc _ (I _ (dV w' hc).aF)) hqc
 rintro _ _ rfl u;refine aN rfl (aN rfl (aQ u nI λb16 _ u=>aK (x:=(od m q).2.1) u fg rfl rfl λw11 u=>bT ?_));have I8:=B.step (q:=q) Cg;have asT:=(abh B.ok q).trans NT;refine aC (λc3=>?_) (λc3=>?_)
 .rw[ee c3]at E;exact J (k+1) _ ov out _ w11 bL I8 asT E u.drop.p1.drop.p1
 rw[eb c3]at E;refine aE (x:=(od m q).2.1) fg u.At (aW [(od m q).2.1] u z8 rfl rfl (dM rfl) λs64 _ u=>?_);have azV:=u.dQ;refine bJ u.p4 z8 azV (by rw[lH];omega) cZ (λs65 _ u=>aJ bL ?_);refine⟨ts.length-(k+1),bL,k+1,_,out++[(od m q).2.1],rfl,rfl,bL,by rw[kH,lH];omega,I8,asT,E,?_⟩;exact u.p1.drop.p1.drop.p2.drop
def C40(K:g7)(p:cE)(pv:bM)(room c:Int)(lv:Value)(l:List bV)(w:World)(B:∀w',Ext w w'->K w')(M:NX K pv p)(hz:PZ p)(W:Vy K lv l)(O:l.length<=1000)(I:∀q∈l,q.cut.length<=1000) :
  CR 40 [hM pv,hH room,hH c,lv] w (λv w'=>∃(ev:bN) (ov:Value),v=.tuple #[hM ev,ov,hH (fp p room c l).2.2.1,hH (fp p room c l).2.2.2]/\kZ (sep (eH λw=>mL w ev (fp p room c l).1) (bF ov (fp p room c l).2.1)) w w'):=by
 have u:=St.start w;refine eU Tryz.func40 ?_;refine cJ (x:=pv) u (λb4 _ u=>aQ u nJ λb8 _ u=>have u:=u.enc (cs':=ia (⟨0,0,0,cI⟩:bN)) rfl;aE eN u.p1.At (dO ahz (C101 K p pv room c lv l _ (λ_ e=>B _ (u.aF.then e)) M hz W O I) ?_));rintro V w3 (⟨h1,rfl,Y⟩|⟨h1,b,X,ov,rfl,J,U,G⟩)
 .have u:=u.ext Y;refine aN rfl (aN rfl (aN rfl (bT (aC (λ_=>?_) λh=>absurd h1 h))));refine pop abe (aH z8 (dz.nil (α:=bX) (λ_=>True) w) (aK (x:=(⟨0,0,0,cI⟩:bN)) u lY rfl rfl λZ u=>aE (x:=(⟨0,0,0,cI⟩:bN)) lY u.At ?_));rw[abl h1];exact⟨_,_,rfl,(St.join ((u.drop.drop.eW (α:=bX)).gz (Φ:=λw=>mL w (⟨0,0,0,cI⟩:bN) zE) ahA)).fresh⟩
 have u:=(((u.made G).split).p1.split);refine aN rfl (aN rfl (aN rfl (bT (aC (λh2=>?_) λh2=>?_))))
 .refine pop abe (aH z8 u.dQ (aK (x:=(⟨0,0,0,cI⟩:bN)) u.p3 lY rfl rfl λZ u=>aE (x:=(⟨0,0,0,cI⟩:bN)) lY u.At ?_));rw[abm h1 h2];exact⟨_,_,rfl,(St.join ((u.drop.drop.drop.drop.drop.eW (α:=bX)).gz (Φ:=λw=>mL w (⟨0,0,0,cI⟩:bN) zE) ahA)).fresh⟩
 have h3:(lS c (gB p room) [] l).2.2=0:=u3.1 h2;refine aE eN u.p4.At (dO asQ (C102 (λw=>K w/\X w) b (lS c (gB p room) [] l).1 pv _ u.p2.has (λ_ e=>⟨B _ (u.aF.then e),(u.ext e).p1.eH⟩) J.ok (U.trans (by rw[J.pr])) (by rw[J.pr];exact M.pr _ (B _ u.aF))) ?_);rintro _ _ ⟨E,rfl,G⟩;have u:=u.made G;refine aK (x:=E) u.p4 lY rfl rfl (λ_ u=>aE (x:=E) lY u.At ?_);rw[FU h1 h3];exact⟨E,ov,rfl,(St.join u.drop.p2.drop.p2.drop.p2.drop).fresh⟩
def C42(K:g7)(p:cE)(pv:bM)(room c:Int)(lv:Value)(l:List bV)(w:World)(G:∀w',Ext w w'->K w')(U:NX K pv p)(V:PZ p)(M:Vy K lv l)(E:l.length<=1000)(B:∀q∈l,q.cut.length<=1000) :
  CR 42 [hM pv,hH room,hH c,lv] w (λv w'=>v=hH (afh p room c l:Int)/\Ext w w'):=by
 have u:=St.start w;refine eU Tryz.func42 ?_;refine cJ (x:=pv) u (λb4 _ u=>aE eN u.At (dO ahz (C101 K p pv room c lv l _ (λ_ e=>G _ (u.aF.then e)) U V M E B) ?_));rintro J Y (⟨h1,rfl,O⟩|⟨h1,b,X,ov,rfl,Z,W,I⟩)
 .have u:=u.ext O;refine aN rfl (aN rfl (aN rfl (aH z8 (dz.nil (α:=bX) (λ_=>True) w) ?_)));unfold afh;rw[abj h1];exact⟨rfl,u.drop.aF⟩
 have e:abi p room c l=((lS c (gB p room) [] l).2.1,(lS c (gB p room) [] l).2.2):=by unfold abi;rw[eb (by rw[h1];decide)]
 have u:=(((u.made I).split).p1.split);refine aN rfl (aN rfl (aN rfl (aH z8 u.dQ ?_)));unfold afh;rw[e];exact⟨rfl,u.drop.drop.drop.drop.aF⟩
def Q7{p:cE}(hc:FA p):yi (fo p):=λv B=>by
 obtain⟨c,u,rfl⟩:=n4.1 B
 have h:iK 4294967296 c=false:=by
  rcases oi.1 u with h1|h1
  .obtain⟨l,E,h2⟩:=List.mem_flatten.1 h1
   exact(hc.f.lines l E).2 c h2
  .exact hc.f.iJ c h1
 unfold iK at h
 simp only[Bool.or_eq_false_iff,decide_eq_false_iff_not]at h
 show -9223372036854775808<=c.n/\c.n<=9223372036854775807
 omega
def afp{p:cE}{room:Int}(hc:FA p):NH (gB p room):=by
 have h:=Q7 hc
 exact NH.begin (m:=xi p room) ⟨h,h.take _,h,λk x u=>by cases u⟩
theorem afq{p:cE}{room c:Int}{l:List bV}{m:fY}{o:List bX}{f:Int}(h:fJ p room c=0)(B:lS c (gB p room) [] l=(m,o,f))(u:f≠0):fp p room c l=(zE,[],f,(o.length:Int)):=by
 grind[fp,zE]
structure pf(p:cE)(n:Nat)(m:fY):Prop where
 go:zJ p n m
 vo:NH m
 fi:m.mem.dY=fo p
def pf.step{p:cE}{n:Nat}{m:fY}{q:bV}(h:pf p n m)(hc:FA p):pf p (n+1) (od m q).1:=⟨h.go.step hc,h.vo.do,(abh h.go.ok q).trans h.fi⟩
def pf.new{p:cE}{room:Int}(B:PZ p)(hc:FA p)(u:1<=room/\room<=16):pf p 0 (gB p room):=⟨zJ.new B hc u,afp hc,rfl⟩
def pf.mono{p:cE}{a b:Nat}{m:fY}(h:pf p a m)(u:a<=b):pf p b m:=⟨h.go.mono u,h.vo,h.fi⟩
variable (w:World) (K:Value->g7)
def P41:dH:=λi=>match i with
 | 6=>.run 0 9
 | _=>.nil
theorem asU:PL 99:=dG Tryz.func99
theorem azW:PL 41:=dG Tryz.func41
end Go.Proofs.YtpdlpabnlkofmaaGreatDoor
namespace Go.Proofs.YtpdlpabnlkofmaaGreatDoor
open Go.Fw
def asV:we g6 56=some [0,0,0,0,0]:=by kernel_rfl
theorem TB(c:Int):∀(l:List bV) (m:fY) (o:List bX) (j:Nat),(lS c m o l).2.2=0->(lS c m o (l.take j)).2.2=0
 | [],m,o,j,_=>by grind
 | q::r,m,o,0,_=>rfl
 | q::r,m,o,j+1,h=>by
  rw[L7]
  unfold lS at h |-
  split at h
  .cases h
  rename_i h1
  split at h
  .grind
  rename_i h2
  rw[eb h1,eb h2]
  exact TB c r _ _ j h
def asW(e:bV):Bool:=decide (2<=e.kind/\e.kind<=4)
def azX(x y:bX):ud (ia x) (ia y)=decide (x=y):=by
 obtain⟨a,b,c,d,e⟩:=x
 obtain⟨u,b2,G,E,B⟩:=y
 rw[show ud (ia (⟨a,b,c,d,e⟩:bX)) (ia (⟨u,b2,G,E,B⟩:bX))=(decide (a=u)&&(decide (b=b2)&&(decide (c=G)&&(decide (d=E)&&(decide (e=B)&&true)))))from rfl]
 grind
def C99(e:bV)(ev:bN)(w:World)(B:mL w ev e):CR 99 [hM ev] w (λv w'=>v=.bool (asW e)/\Ext w w'):=by
 obtain⟨g,rfl,_⟩:=B;have u:=St.start w;refine eU Tryz.func99 ?_;refine cJ (x:=(⟨e.kind,e.t,e.i,g⟩:bN)) u (λb2 _ u=>?_);refine⟨λE w'=>E=.bool (asW e)/\St w aY [bZ b2 (ia (⟨e.kind,e.t,e.i,g⟩:bN))] w',?_,?_⟩
 .exact aA pL (aB (v:=hH e.kind) bO u.hb rfl (aG (aC (λ_=>⟨vb (ei bL).symm,u⟩) λ_=>aA pL (aB (v:=hH e.kind) bO u.hb rfl (aG (aC (λ_=>⟨vb (ei bL).symm,u⟩) λ_=>aA pL (aB (v:=hH e.kind) bO u.hb rfl (aG ⟨vb (ew.2 bL),u⟩))))))))
 rintro _ _ ⟨rfl,u⟩ _;exact⟨rfl,u.drop.aF⟩
def C41(V M:Value)(xs ys:List bX)(w:World)(E:dz (λ_=>True) w V xs)(U:dz (λ_=>True) w M ys)(Z:xs.length<=1073741824):CR 41 [V,M] w (λv w'=>v=.bool (decide (xs=ys))/\Ext w w'):=by
 have u:=St.start w;refine pJ Tryz.func41 (pl:=P41) ?_;refine aH z8 (E.ext u.aF) (aH z8 (U.ext u.aF) (bT (aC (λ_=>⟨vb (ej (by rintro rfl;omega)).symm,u.aF⟩) λW=>?_)));refine⟨λO i w'=>∃k:Nat,i=hH (k:Int)/\O=xs.length-k/\k<=xs.length/\xs.take k=ys.take k/\St w aY [] w',⟨_,0,rfl,rfl,kO _,rfl,u⟩,?_⟩;rintro O _ _ ⟨k,rfl,rfl,Y,B,u⟩ _;refine aH z8 (E.ext u.aF) (aO (aC (λc2=>?_) λ_=>⟨vb (ei (by rw[kp bL,kp bL]at B;exact B)).symm,u.aF⟩));obtain⟨x,I⟩:=gx xs (i:=((k:Nat):Int).toNat) bL
 obtain⟨y,J⟩:=gx ys (i:=((k:Nat):Int).toNat) bL;exact aM z8 E bL I (λ_ h1=>have u:=u.drew;aE fg (h1.ext u.aF) (aM z8 U bL J λ_ h2=>aE fg (h2.ext u.aF) (TZ asV rfl rfl (azX x y) (aC (λG=>⟨vb (ej (asa I J G)).symm,u.aF⟩) λG=>aJ bL ⟨_,bL,k+1,rfl,rfl,bL,JU B I J (u3.1 G),u⟩))))
variable (w:World) (K:Value->g7)
def S37(p0 qR I Bh:Value):Prop:=
 rA g6 (yg 27 p0) w λp4 a=>bS 39 0 [] a λb c=>lA 27 p4 c λd=>cF 13 [d,qR] c λe f=>xT e 0 λg=>xT e 1 λh=>eR (λZ=>bB .neq 31 h (i 0) λj=>
 cV j (Z tt f) (bB .eql 34 g (.pointer none) λk=>Z k f)) (λl n=>∀_:Env,
 cV l (K b n) (eR (λK2=>o0 (λV J B o=>∀_:Env,
 eR (λK4=>lN 28 I λp=>bA .lss 3 B p λq=>cV q (bB .lss 3 B (i 60) λr=>K4 r o) (K4 ff o)) (λs t=>∀_:Env,
 cV s (cF 22 [g] t λu v=>bS 39 0 [] v λx y=>eR (λK5=>eR (λW=>nC g λz=>fA 44 z 2 λaa=>lA 3 aa y λab=>bA .lss 3 ab Bh λac=>cV ac (iA 28 I B λad=>
 fA 53 ad 0 λae=>lA 3 ae y λaf=>bB .eql 3 af (i 1) λag=>cV ag (nC g λah=>fA 44 ah 3 λai=>lA 40 ai y λaj=>cF 17 [aj] y λak al=>cF 16 [ak] al λam an=>
 bB .leq 3 am (i 100) λao=>W ao an) (W ff y)) (W ff y)) (λap aq=>∀_:Env,
 cV ap (cF 18 [g] aq λar Y=>K5 ar Y) (K5 x aq))) (λG M=>∀_:Env,
 iA 28 I B λav=>fA 53 av 1 λaw=>lA 3 aw M λax=>bB .and 3 ax (i 65535) λay=>eR (λK7=>lN 39 G λaz=>bB .gtr 3 az (i 0) λa0=>cV a0 (K7 G M) (
 K7 u M)) (λE O=>∀_:Env,
 lN 39 E λa2=>bB .eql 3 a2 (i 0) λa3=>cV a3 (K2 J O) (lN 39 E λa4=>bA .rem 3 ay a4 λa5=>iA 39 E a5 λa6=>lA 50 a6 O λa7=>bS 39 1 [(0,a7)] O λa8 a9=>
 aP 39 J a8 a9 λba bb=>lN 39 E λbc=>bA .rem 3 ay bc λbd=>iA 39 E bd λbe=>lA 50 be bb λbf=>cF 25 [g,bf] bb λ_ bg=>bB .add 3 B (i 1) λbh=>V ba bh bg)))) (
 K2 J t))) λV=>V b (i 0) n) (λU bi=>∀_:Env,
 K U bi)))
theorem alS(p0 u B E:Value)(h:S37 w K p0 u B E):CR 37 [p0,u,B,E] w K:=
 qu 101 (λ_=>.nil) 256 [.tmp 8] Tryz.func37 h
theorem azY:PL 37:=dG Tryz.func37
end Go.Proofs.YtpdlpabnlkofmaaGreatDoor
namespace Go.Proofs.YtpdlpabnlkofmaaGreatDoor
open Go.Fw
theorem Bi{α β:Type}{n:Nat}:∀{l:List α}{f:α->List β},(∀x∈l,(f x).length=n)->(l.flatMap f).length=l.length*n
 | [],_,_=>(Nat.zero_mul n).symm
 | x::l,f,h=>by
  rw[List.flatMap_cons,kH,Bi λy u=>h y (List.mem_cons_of_mem _ u),h x (List.mem_cons_self ..),n5,Nat.succ_mul,Nat.add_comm]
theorem JZ(p:Nat)(ps:List Nat):(ek (p::ps)).length=(p+1)*(ek ps).length:=by
 rw[ek,Bi (n:=(ek ps).length) λx _=>by rw[mv],List.length_range]
theorem H6:∀(ps:List Nat) (n:Int),1<=n->yJ (ps.map fun (k:Nat)=>(k:Int)) n<=100->n*((ek ps).length:Int)<=100
 | [],n,h,h2=>by
  have e:(ek []).length=1:=rfl
  rw[e]
  have:n<=100:=h2
  omega
 | p::ps,n,h,h2=>by
  rw[List.map_cons,yJ]at h2
  split at h2
  .have h3:1<=n*((p:Int)+1):=by
    have:=Int.mul_le_mul_of_nonneg_left (show(1:Int)<=(p:Int)+1 by omega) (show(0:Int)<=n by omega)
    omega
   have u:=H6 ps _ h3 h2
   rw[JZ,Int.natCast_mul,<- Int.mul_assoc]
   exact u
  .omega
def FV{m:Mem}(h:NZ (tE m)<=100):(ek (vT m)).length<=100:=by
 have:=H6 (vT m) 1 (LB 1) h
 omega
def abn(c:Int)(m:fY)(a:rP):Bool:=decide (m.dC<c/\a.kind=1/\NZ (tE m.mem)<=100)
def sI(c:Int)(m:fY)(a:rP):List bV:=if abn c m a=true then kL m else []
def ki(c:Int)(m:fY)(a:rP):List bV:=if 0<((sI c m a).length:Int)then sI c m a else fx m
def atP(l:List bV)(a:rP):bV:=l.getD (wc a.n 65535 % (l.length:Int)).toNat ar9
def qV(c:Int):fY->List rP->List bV
 | _,[]=>[]
 | m,a::r=>if ((ki c m a).length:Int)=0 then []else atP (ki c m a) a::qV c (od m (atP (ki c m a) a)).1 r
def pg(p:cE)(room c:Int)(l:List rP):List bV:=if fc p≠0\/room<1\/16<room then []else qV c (gB p room) (l.take 60)
def J0{m:fY}(u:my m){x:bV}(h:x∈kL m):x.cut.length<=20:=by
 unfold kL at h
 split at h
 .cases h
 obtain⟨c,hc,rfl⟩:=n4.1 h
 exact(FD u.mem hc).2
def J1{m:fY}(u:my m)(h:NZ (tE m.mem)<=100):(kL m).length<=100:=by
 unfold kL
 split
 .exact kO _
 rw[mv]
 exact tx (Ju _ _) (FV h)
def Vz{c:Int}{m:fY}{a:rP}(u:my m):(ki c m a).length<=1001000:=by
 unfold ki
 split
 .unfold sI
  split
  .rename_i h
   have:=J1 u (fK h).2.2
   omega
  exact kO _
 exact zA u
def H7{c:Int}{m:fY}{a:rP}(u:my m){x:bV}(h:x∈ki c m a):x.cut.length<=20:=by
 unfold ki at h
 split at h
 .unfold sI at h
  split at h
  .exact J0 u h
  cases h
 have:x.cut=[]:=by
  unfold fx at h
  split at h
  .cases h
  .obtain⟨i,t,_,_,h3⟩:=rk h
   exact(vq h3).2.1
 rw[this];exact kO _
def C37(K:g7)(p:cE)(pv:bM)(room c:Int)(lv:Value)(l:List rP)(w:World)(hw:∀w',Ext w w'->K w')(hp:NX K pv p)(hz:PZ p)(hL:DL w lv l):CR 37 [hM pv,hH room,lv,hH c] w (λv w'=>kZ (eH λw=>DL w v (pg p room c l)) w w'):=by
 obtain⟨ats,hR,hD⟩:=hL.open;have hn:ats.length=l.length:=hD.1;have u:=St.start w;refine alS _ _ _ _ _ _ ?_;unfold S37;refine cJ (x:=pv) u (λb4 w1 u=>aW ([]:List bN) u jL rfl rfl (dM rfl) λx16 w2 u=>aE eN u.p1.At (dO ay5 (C13 K p pv room _ (λ_ e=>hw _ (u.aF.then e)) hp hz) ?_));rintro v20 w3 (⟨h1,rfl,he⟩|⟨h0,h1,rfl,he⟩|⟨h0,hr,b,rfl,cM⟩)
 .have u:=u.ext he;refine aN rfl (aN rfl ?_);refine⟨λI w'=>I=.bool true/\w'=w3,?_,?_⟩
  .refine bT ?_;refine aC (λ_=>⟨rfl,rfl⟩) (λh=>absurd h1 h)
  rintro _ w4 ⟨rfl,rfl⟩ qy;refine gN ?_;have e:pg p room c l=[]:=by unfold pg;rw[ee bL]
  rw[e];exact(u.freeze.dD (Ψ:=λw=>DL w x16 []) λ_ h=>DL.of h gu.nil).p1.drop.fresh
 .have u:=u.ext he;refine aN rfl (aN rfl ?_);refine⟨λI w'=>I=.bool true/\w'=w3,?_,?_⟩
  .refine bT ?_;refine aC (λ_=>⟨rfl,rfl⟩) (λh=>absurd (by decide:(1:Int)≠0) h)
  rintro _ w4 ⟨rfl,rfl⟩ qy;refine gN ?_;have e:pg p room c l=[]:=by unfold pg;rw[ee bL]
  rw[e];exact(u.freeze.dD (Ψ:=λw=>DL w x16 []) λ_ h=>DL.of h gu.nil).p1.drop.fresh
 have Cg:=pR h0;have u:=u.made cM;refine aN rfl (aN rfl ?_);refine⟨λI w'=>I=.bool false/\w'=w3,?_,?_⟩
 .exact bT (aC (λh=>absurd rfl h) λ_=>Wx an7 ⟨rfl,rfl⟩)
 rintro _ w4 ⟨rfl,rfl⟩ qy;refine fa ?_;have hpp:pg p room c l=qV c (gB p room) (l.take 60):=by unfold pg;rw[eb bL]
 rw[hpp];refine⟨λo w'=>kZ (eH λw=>DL w o (qV c (gB p room) (l.take 60))) w w',?_,?_⟩;rotate_left
 .rintro o w5 h qy;exact h
 have u:=u.p1;obtain⟨F0,u,_⟩:=(u.gz (Φ:=λ_=>True) λ_=>trivial).Hq;have u:=u.p1
 have adX:∀(o:Value) (ts:List bN) (out:List bV) (F:Nat->Prop) (E w':World) (m:fY),(∀w,m8 F E w->gu ts out w)->out=qV c (gB p room) (l.take 60)->St w aY [bF o ts,eH (m8 F E),qw K b m,bZ b4 (ia pv)] w'->kZ (eH λw=>DL w o (qV c (gB p room) (l.take 60))) w w':=λo ts out F E w' m hd e u=>by
  rw[<- e];have u:=u.freeze.fZ.dD (Ψ:=λw=>DL w o out) (λw h=>DL.of h.1 (hd w h.2));exact u.p1.drop.p1.drop.fresh
 refine⟨λmm o y w'=>∃(k:Nat) (m:fY) (ts:List bN) (out:List bV) (F:Nat->Prop) (E:World),y=hH (k:Int)/\mm=60-k/\k<=60/\k<=l.length/\(pf p k m/\ts.length=k/\(∀w,m8 F E w->gu ts out w)/\qV c (gB p room) (l.take 60)=out++qV c m ((l.take 60).drop k))/\St w aY [bF o ts,eH (m8 F E),qw K b m,bZ b4 (ia pv)] w',
  ⟨_,0,gB p room,[],[],F0,_,rfl,rfl,kO _,kO _,⟨pf.new hz Cg hr,rfl,λ_ _=>gu.nil,rfl⟩,u⟩,?_⟩
 rintro mm o _ w5 ⟨k,m,ts,out,F,E,rfl,rfl,hk,u9,⟨J,hts,hd,B⟩,u⟩ _;refine⟨λI w'=>I=.bool (decide (k<l.length/\k<60))/\w'=w5,?_,?_⟩
 .exact aH ah6 (hR.ext u.aF) (aO (aC (λ_=>aO ⟨vb (ew.2 bL),rfl⟩) λ_=>⟨vb (ej bL).symm,rfl⟩))
 rintro _ _ ⟨rfl,rfl⟩ _;refine aC (λc1=>?_) (λc1=>?_);rotate_left
 .rw[Oa (by rw[lQ];omega)]at B;exact adX o ts out F E _ m hd (by rw[B];exact(oj _).symm) u
 obtain⟨a,ha⟩:=gx l (i:=k) bL;obtain⟨av,Y⟩:=gx ats (i:=((k:Nat):Int).toNat) bL;obtain⟨gp,rfl,_⟩:=hD.2 k av a Y ha;have hg:=J.go;have V:=hg.ok;have NT:=J.fi.trans (by rw[hg.pr]:fo p=fo m.p);have oq:=hg.mb.mono (b:=1000000) bL;have Al:=hg.cr;rw[uP (show(l.take 60)[k]?=some a by rw[List.getElem?_take,ee c1.2];exact ha)]at B;refine ef ash u (C22 K b m _ u.p2.has (λ_ e=>hw _ (u.aF.then e)) V) (λZ _ cM u=>n7 (α:=bV) u jL λx42 _ u=>?_);refine⟨λcv w'=>St w aY [fG cv (sI c m a),fG Z (fx m),bF o ts,eH (m8 F E),qw K b m,bZ b4 (ia pv)] w',?_,?_⟩
 .refine⟨λI w'=>I=.bool (abn c m a)/\St w aY [fG x42 ([]:List bV),fG Z (fx m),bF o ts,eH (m8 F E),qw K b m,bZ b4 (ia pv)] w',?_,?_⟩
  .obtain⟨ra,W⟩:=qw.rd u.p4.has;refine aD (aA IB (bU bO (W.b.cell (o:=7) rfl) (aO (aC (λG=>?_) λG=>⟨vb (ej λh=>G h.1).symm,u⟩))));refine aM ah6 (hR.ext u.aF) bL Y (λq1 h1=>bW a.kind acw h1 rfl rfl λq2 h2=>aE (x:=a.kind) bO h2 (aG (aC (λc3=>?_) λc3=>⟨vb (ej λh=>c3 h.2.1).symm,u⟩)));refine aD (aA sU (bU KN (W.b.cell (o:=8) rfl) (ef ahT u (C17 ra.q m.mem _ W.mem V.mem oq) λx62 w9 cM u=>aS auO u (C16 x62 (tE m.mem) _ u.dQ (by rw[HW];have:=V.mem.lb;omega) λn hn=>?_) λw10 he u=>?_)))
   .obtain⟨j,hj⟩:=List.mem_iff_getElem?.1 hn;have:=oq j;rw[NP hj];omega
   exact ga ⟨vb (ew.2 ⟨λh=>⟨G,c3,h⟩,λh=>h.2.2⟩),u.drop⟩
  rintro _ w9 ⟨rfl,u⟩ dd4;refine aX (λG=>?_) (λG=>?_);rotate_left
  .have e:(sI c m a)=[]:=by unfold sI;rw[G];rfl
   rw[e];exact u
  have e:(sI c m a)=kL m:=by unfold sI;rw[ee G]
  rw[e];exact ef ay7 u (C18 K b m _ u.p4.has (λ_ e=>hw _ (u.aF.then e)) V oq (by have:=FV (fK G).2.2;omega)) (λ_ _ _ u=>u.p1.drop)
 rintro x14 _ u dd4;obtain⟨cs,u⟩:=u.Ap;have EO:=u.T3;refine aM ah6 (hR.ext u.aF) bL Y (λq1 h1=>bW a.n acx h1 rfl rfl λq2 h2=>aE (x:=a.n) bO h2 (RD cZ cZ ?_));have hn6:=yT a.n (b:=65535) cZ cZ;refine⟨λlw w'=>∃tl:List bN,St w aY [bF lw tl,eH (gu tl (ki c m a)),bF o ts,eH (m8 F E),qw K b m,bZ b4 (ia pv)] w',?_,?_⟩
 .refine aH jL u.dQ (cP (aC (λG=>?_) λG=>?_))
  .have e:(ki c m a)=(sI c m a):=by unfold ki;rw[ee bL]
   rw[e];exact⟨cs,u.p2.drop⟩
  have e:(ki c m a)=fx m:=by unfold ki;rw[eb bL]
  rw[e];obtain⟨ss,u⟩:=u.drop.drop.Ap;exact⟨ss,u⟩
 rintro x13 U ⟨tl,u⟩ _;have BG:=u.T3;have oy:=Vz (c:=c) (a:=a) V;refine aH jL u.dQ (aG (aC (λG=>?_) λG=>?_))
 .rw[qV,ee bL,oj]at B;exact adX o ts out F E _ m hd B.symm u.drop.drop
 rw[qV,eb bL]at B;obtain⟨F2,u,hX⟩:=u.p1.p3.fZ.Hq;have hm1:=VU (wc a.n 65535) (show((ki c m a).length:Int)≠0 by omega);have hm2:=Sk (wc a.n 65535) (show 0<((ki c m a).length:Int)by omega);refine aH jL u.p1.dQ ?_;rw[BG];refine Iz bL bL ?_;obtain⟨j,hj⟩:∃j:Nat,(j:Int)=wc a.n 65535 % ((ki c m a).length:Int):=⟨(wc a.n 65535 % ((ki c m a).length:Int)).toNat,bL⟩;rw[<- hj];obtain⟨sh,M⟩:=gx tl (i:=((j:Nat):Int).toNat) bL;obtain⟨q,hq⟩:=gx (ki c m a) (i:=j) bL;have hqe:atP (ki c m a) a=q:=by unfold atP;rw[<- hj,o6,n0,hq];rfl
 rw[hqe]at B;have O:∀w',m8 F2 U w'->mL w' sh q:=λw' h=>(hX w' h).2.2 j sh q (by rw[<- o6 j];exact M) hq;obtain⟨gc,rfl,_⟩:=O _ u.eH
 have hgc:∀w',m8 F2 U w'->dz (λ_=>True) w' (hM gc) q.cut:=λw' h=>by
  obtain⟨gc2,e,h3⟩:=O w' h;cases e
  exact DL.flat h3
 refine aM jL u.p1.dQ bL M (λq3 h3=>aE rF h3 (aW [(⟨q.kind,q.t,q.i,gc⟩:bN)] u jL rfl rfl (dM rfl) λx89 _ u=>?_));have az2:=u.dQ;refine bJ u.p3 jL az2 (by rw[lH];omega) cZ (λx90 _ u=>have u:=u.p1.drop;aH jL u.p2.dQ ?_);rw[BG];refine Iz bL bL ?_;rw[<- hj];refine aM jL u.p2.dQ bL M (λq4 h4=>aE rF h4 (bD aza u.p3 (H':=λ_=>qw K b (od m q).1) (Φ:=λ_ _=>True) (λG2 hG2 dV=>?_) ?_))
 .exact(C25 K b m q gc G2 _ hG2 (λw' hc=>hw _ (dV w' hc).aF) V J.vo (by rw[hg.pr];exact Cg) oq bL NT (λw1 hc _ e=>hw _ ((dV w1 hc).aF.then e)) (λw' hc=>hgc _ (dV w' hc).p1.eH) (by have:=H7 V (j0 hq);omega)).mono λ_ _ r=>r.mono λ_ _ h=>⟨trivial,h.2⟩
 rintro _ _ _ u;refine aJ bL ?_;refine⟨_,bL,k+1,(od m q).1,ts++[(⟨q.kind,q.t,q.i,gc⟩:bN)],out++[q],F2,U,rfl,rfl,bL,bL,⟨J.step Cg,by rw[kH,lH,hts],λw h=>(hd w (hX w h).1).snoc (O w h),by rw[B,List.append_assoc];rfl⟩,?_⟩;exact u.p3.drop.p2.p2
variable (w:World) (K:Value->g7)
theorem ahC:PL 278:=dG Tryz.func278
theorem ahD:PL 231:=dG Tryz.func231
theorem asY:PL 173:=dG Tryz.func173
theorem asZ:PL 174:=dG Tryz.func174
theorem as0:PL 175:=dG Tryz.func175
theorem TC:PL 104:=dG Tryz.func104
theorem abo:PL 103:=dG Tryz.func103
theorem ahE:PL 105:=dG Tryz.func105
end Go.Proofs.YtpdlpabnlkofmaaGreatDoor
namespace Go.Proofs.YtpdlpabnlkofmaaGreatDoor
open Go.Fw
def zK(u:Int)(B:Int):pr g6 (l0 245 [(0,hH u),(1,hH B)].toArray)=some (.agg [hH u,hH B].toArray):=by kernel_rfl
def Ci(G:ByteArray)(I:ByteArray)(E:ByteArray)(u:ByteArray)(B:ByteArray):pr g6 (l0 248 [(0,.string G),(1,.string I),(2,.string E),(3,.string u),(4,.string B)].toArray)=some (.agg [.string G,.string I,.string E,.string u,.string B].toArray):=by kernel_rfl
@[ext] structure mV where
 a:Int
 b:Int
deriving DecidableEq
instance:Flat mV where
 agg:=true
 sz:=2
 enc e:=[hH e.a,hH e.b]
 val e:=.agg [hH e.a,hH e.b].toArray
 pos:=cZ
 len _:=rfl
 one a v h:=by grind[vK]
 ng _ _:=rfl
 nh h:=by cases h
instance:Deep mV mV:=iF
def yK:List Int->List Int->Bool
 | [],[]=>false
 | [],_::_=>true
 | _::_,[]=>false
 | a::r,b::s=>if a=b then yK r s else decide (a<b)
theorem FW:∀l:List Int,yK l l=false
 | []=>rfl
 | a::r=>by unfold yK;rw[ee rfl];exact FW r
theorem N1:∀{a b:List Int},yK a b=false->yK b a=false->a=b
 | [],[],_,_=>rfl
 | [],_::_,h,_=>by cases h
 | _::_,[],_,h=>by cases h
 | a::r,b::s,h,h2=>by
  unfold yK at h h2
  by_cases e:a=b
  .rw[ee e]at h;rw[ee e.symm]at h2;rw[e,N1 h h2]
  grind
def yL(a b:bV):Bool:=yK ([a.kind,a.t,a.i]++a.cut) ([b.kind,b.t,b.i]++b.cut)
def abp(a b:bV):Bool:=decide (a=b)
def alT{a b:bV}(h:[a.kind,a.t,a.i]++a.cut=[b.kind,b.t,b.i]++b.cut):a=b:=by
 cases a;simp_all
theorem VA(a b:bV):abp a b=(!yL a b&&!yL b a):=by
 unfold abp
 by_cases e:a=b
 .subst e
  have:yL a a=false:=FW _
  grind
 rw[ej e]
 cases h1:yL a b with
 | true=>rfl
 | false=>
  cases h2:yL b a with
  | true=>rfl
  | false=>exact absurd (alT (N1 h1 h2)) e
def xw(a b:Int):Int:=if a<b then -1 else if b<a then 1 else 0
def Cj:List mV->Int
 | []=>0
 | p::r=>if xw p.a p.b=0 then Cj r else xw p.a p.b
def orM:List Int->Int
 | []=>0
 | a::r=>if a=0 then orM r else a
def sJ:List Int->List Int->Int
 | [],[]=>0
 | [],_::_=>-1
 | _::_,[]=>1
 | a::r,b::s=>if xw a b=0 then sJ r s else xw a b
def afs{l:List mV}{k:Nat}{e:mV}(h:l[k]?=some e)(hc:xw e.a e.b=0):Cj (l.drop k)=Cj (l.drop (k+1)):=by
 rw[uP h,Cj,ee hc]
def afu{l:List mV}{k:Nat}{e:mV}(h:l[k]?=some e)(hc:¬ xw e.a e.b=0):Cj (l.drop k)=xw e.a e.b:=by
 rw[uP h,Cj,eb hc]
def alU{l:List Int}{k:Nat}{e:Int}(h:l[k]?=some e)(hc:e=0):orM (l.drop k)=orM (l.drop (k+1)):=by
 rw[uP h,orM,ee hc]
def alV{l:List Int}{k:Nat}{e:Int}(h:l[k]?=some e)(hc:¬ e=0):orM (l.drop k)=e:=by
 rw[uP h,orM,eb hc]
def afv{l m:List Int}{k:Nat}{a b:Int}(h:l[k]?=some a)(h2:m[k]?=some b)(hc:xw a b=0):sJ (l.drop k) (m.drop k)=sJ (l.drop (k+1)) (m.drop (k+1)):=by
 rw[uP h,uP h2,sJ,ee hc]
def afw{l m:List Int}{k:Nat}{a b:Int}(h:l[k]?=some a)(h2:m[k]?=some b)(hc:¬ xw a b=0):sJ (l.drop k) (m.drop k)=xw a b:=by
 rw[uP h,uP h2,sJ,eb hc]
def abq{l m:List Int}{k:Nat}{a:Int}(h:l[k]?=some a)(h2:m.length<=k):sJ (l.drop k) (m.drop k)=1:=by
 rw[uP h,pC h2,sJ]
theorem N2{l m:List Int}{k:Nat}(h:l.length<=k)(h1:k<=m.length)(h2:k<=l.length):sJ (l.drop k) (m.drop k)=if l.length<m.length then -1 else 0:=by
 rw[pC h]
 by_cases e:l.length<m.length
 .rw[ee e]
  obtain⟨b,hb⟩:=gx m (i:=k) bL
  rw[uP hb,sJ]
 grind[sJ]
def VB{a b:Int}:xw a b=0↔a=b:=by grind[xw]
theorem H8:∀(a b:List Int),decide (sJ a b<0)=yK a b
 | [],[]=>rfl
 | [],_::_=>rfl
 | _::_,[]=>rfl
 | a::r,b::s=>by
  rw[sJ,yK]
  by_cases e:a=b
  .rw[ee (VB.2 e),ee e,H8 r s]
  grind[xw,sJ,yK]
def ahF(a b:bV):List mV:=[⟨a.kind,b.kind⟩,⟨a.t,b.t⟩,⟨a.i,b.i⟩]
def afx(a b:bV):decide (orM [Cj (ahF a b),sJ a.cut b.cut]<0)=yL a b:=by
 unfold yL
 rw[<- H8]
 simp only[aa7,x6,ahF,orM,Cj,sJ]
 grind
def nmL:List ByteArray:=[hZ #[111,112,101,110],hZ #[115,97,102,101],hZ #[99,108,97,105,109],hZ #[102,97,117,108,116],hZ #[115,116,117,99,107]]
def abr(k:Int):ByteArray:=if k<0\/5<=k then hZ #[]else nmL.getD k.toNat (hZ #[])
def C278(a:Int)(w:World):CR 278 [hH a] w (λv w'=>v=.bool false/\Ext w w'):=by
 have u:=St.start w;refine eU Tryz.func278 ?_;exact bT ⟨vb ea,u.aF⟩
def C231(x y:Int)(w:World):CR 231 [hH x,hH y] w (λv w'=>v=hH (xw x y)/\Ext w w'):=by
 have u:=St.start w;refine eU Tryz.func231 ?_;refine aS ahC u (C278 _ _) (λ_ G u=>aS ahC u (C278 _ _) λ_ G u=>fa (fa (aO (aC (λB=>?_) λB=>cP (aC (λE=>?_) λE=>?_)))))
 .unfold xw
  first|(rw[ee (show x<y from B)];exact⟨rfl,u.aF⟩)|(rw[eb (show ¬ x<y from B),ee (show y<x from E)];exact⟨rfl,u.aF⟩)|(rw[eb (show ¬ x<y from B),eb (show ¬ y<x from E)];exact⟨rfl,u.aF⟩)
 .unfold xw
  first|(rw[ee (show x<y from B)];exact⟨rfl,u.aF⟩)|(rw[eb (show ¬ x<y from B),ee (show y<x from E)];exact⟨rfl,u.aF⟩)|(rw[eb (show ¬ x<y from B),eb (show ¬ y<x from E)];exact⟨rfl,u.aF⟩)
 unfold xw
 first|(rw[ee (show x<y from B)];exact⟨rfl,u.aF⟩)|(rw[eb (show ¬ x<y from B),ee (show y<x from E)];exact⟨rfl,u.aF⟩)|(rw[eb (show ¬ x<y from B),eb (show ¬ y<x from E)];exact⟨rfl,u.aF⟩)
def C173(lv:Value)(l:List mV)(w:World)(J:dz (λ_=>True) w lv l)(U:l.length<=1073741824):CR 173 [lv] w (λv w'=>v=hH (Cj l)/\Ext w w'):=by
 have u:=St.start w;refine eU Tryz.func173 ?_;refine aH WO (J.ext u.aF) ?_;refine⟨λI i w'=>∃k:Nat,i=hH (k:Int)/\I=l.length-k/\k<=l.length/\Cj l=Cj (l.drop k)/\St w aY [] w',⟨_,0,rfl,rfl,kO _,rfl,u⟩,?_⟩;rintro I _ _ ⟨k,rfl,rfl,O,B,u⟩ _;refine aO (aC (λV=>?_) λ_=>⟨ez (mn .i64) (by rw[B,pC bL];rfl),u.aF⟩);obtain⟨G,E⟩:=gx l (i:=(k:Int).toNat) bL;exact aM WO J bL E (λ_ M=>aE agd (M.ext u.aF) (aQ u acD λ_ _ u=>aK (x:=G) u agd rfl rfl λ_ u=>aA WM (aB (v:=hH G.a) bO u.hb rfl (aA WN (aB (v:=hH G.b) bO u.hb rfl (aS ahD u (C231 _ _ _) λ_ _ u=>bT (aC (λ_=>⟨ez (mn .i64) (B.trans (afu E bL)).symm,u.drop.aF⟩) λ_=>aJ bL ⟨_,bL,k+1,rfl,rfl,bL,B.trans (afs E bL),u.drop⟩)))))))
def C174(lv:Value)(l:List Int)(w:World)(I:dz (λ_=>True) w lv l)(O:l.length<=1073741824):CR 174 [lv] w (λv w'=>v=hH (orM l)/\Ext w w'):=by
 have u:=St.start w;refine eU Tryz.func174 ?_;refine aH cQ (I.ext u.aF) ?_;refine⟨λG i w'=>∃k:Nat,i=hH (k:Int)/\G=l.length-k/\k<=l.length/\orM l=orM (l.drop k)/\St w aY [] w',⟨_,0,rfl,rfl,kO _,rfl,u⟩,?_⟩;rintro G _ _ ⟨k,rfl,rfl,M,B,u⟩ _;refine aO (aC (λV=>?_) λ_=>⟨ez (mn .i64) (by rw[B,pC bL];rfl),u.aF⟩);obtain⟨U,E⟩:=gx l (i:=(k:Int).toNat) bL;exact aM cQ I bL E (λ_ J=>aE bO (J.ext u.aF) (bT (aC (λ_=>⟨ez (mn .i64) (B.trans (alV E bL)).symm,u.aF⟩) λ_=>aJ bL ⟨_,bL,k+1,rfl,rfl,bL,B.trans (alU E bL),u⟩)))
def C175(W M:Value)(xs ys:List Int)(w:World)(G:dz (λ_=>True) w W xs)(J:dz (λ_=>True) w M ys)(hn:xs.length<=1073741824):CR 175 [W,M] w (λv w'=>v=hH (sJ xs ys)/\Ext w w'):=by
 have u:=St.start w;refine eU Tryz.func175 ?_;refine aH cQ (G.ext u.aF) ?_;refine⟨λO i w'=>∃k:Nat,i=hH (k:Int)/\O=xs.length-k/\k<=xs.length/\k<=ys.length/\sJ xs ys=sJ (xs.drop k) (ys.drop k)/\St w aY [] w',⟨_,0,rfl,rfl,kO _,kO _,rfl,u⟩,?_⟩;rintro O _ _ ⟨k,rfl,rfl,V,U,B,u⟩ _;refine aO (aC (λkB=>?_) λ_=>aH cQ (G.ext u.aF) (aH cQ (J.ext u.aF) (aO (aC (λ_=>⟨ez (mn .i64) (show((-1):Int)=sJ xs ys by rw[B,N2 bL U V,ee bL]),u.aF⟩) λ_=>⟨ez (mn .i64) (show(0:Int)=sJ xs ys by rw[B,N2 bL U V,eb bL]),u.aF⟩))))
 obtain⟨g8,E⟩:=gx xs (i:=(k:Int).toNat) bL;refine aM cQ G bL E (λ_ Y=>aE bO (Y.ext u.aF) (aH cQ (J.ext u.aF) (cR (aC (λ_=>⟨ez (mn .i64) (B.trans (abq E bL)).symm,u.aF⟩) λeT=>?_))));obtain⟨CE,I⟩:=gx ys (i:=(k:Int).toNat) bL;exact aM cQ J bL I (λ_ Z=>aE bO (Z.ext u.aF) (aS ahD u (C231 _ _ _) λ_ _ u=>bT (aC (λ_=>⟨ez (mn .i64) (B.trans (afw E I bL)).symm,u.aF⟩) λ_=>aJ bL ⟨_,bL,k+1,rfl,rfl,bL,bL,B.trans (afv E I bL),u⟩)))
def C104(a:bV)(I:bN)(b:bV)(G:bN)(w:World)(J:mL w I a)(hb:mL w G b)(W:a.cut.length<=1073741824):CR 104 [hM I,hM G] w (λv w'=>v=.bool (yL a b)/\Ext w w'):=by
 obtain⟨Z,rfl,V⟩:=J;obtain⟨Cl,rfl,U⟩:=hb;have u:=St.start w;refine eU Tryz.func104 ?_;refine cJ u (λM _ u=>cJ u λY _ u=>aA pL (aB (v:=hH a.kind) bO u.p1.hb rfl (aA pL (aB (v:=hH b.kind) bO u.hb rfl (pop (zK _ _) (aA Dc (aB (v:=hH a.t) bO u.p1.hb rfl (aA Dc (aB (v:=hH b.t) bO u.hb rfl (pop (zK _ _) (aA RH ?_)))))))))));refine aB (v:=hH a.i) bO u.p1.hb rfl (aA RH (aB (v:=hH b.i) bO u.hb rfl (pop (zK _ _) (aW ([(⟨a.kind,b.kind⟩:mV),(⟨a.t,b.t⟩:mV),(⟨a.i,b.i⟩:mV)]) u WO rfl rfl (dM rfl) λO _ u=>aS asY u (C173 _ [(⟨a.kind,b.kind⟩:mV),(⟨a.t,b.t⟩:mV),(⟨a.i,b.i⟩:mV)] _ u.dQ (dM rfl)) λ_ he u=>aA RI (aB eP u.p2.hb rfl ?_)))))
 have B:=DL.flat V;refine aA RI (aB eP u.p1.hb rfl ?_);have E:=DL.flat U;exact aS as0 u (C175 _ _ a.cut b.cut _ (B.ext u.aF) (E.ext u.aF) W) (λ_ _ u=>aW ([(Cj [(⟨a.kind,b.kind⟩:mV),(⟨a.t,b.t⟩:mV),(⟨a.i,b.i⟩:mV)]),(sJ a.cut b.cut)]:List Int) u cQ rfl rfl (dM rfl) λ_ _ u=>aS asZ u (C174 _ ([(Cj [(⟨a.kind,b.kind⟩:mV),(⟨a.t,b.t⟩:mV),(⟨a.i,b.i⟩:mV)]),(sJ a.cut b.cut)]:List Int) _ u.dQ (dM rfl)) λ_ _ u=>aO (have u:=u.drop.drop.drop.drop;⟨vb (afx a b),u.aF⟩))
def C103(a:bV)(M:bN)(b:bV)(E:bN)(w:World)(U:mL w M a)(hb:mL w E b)(Z:a.cut.length<=1073741824)(Y:b.cut.length<=1073741824):CR 103 [hM M,hM E] w (λv w'=>v=.bool (abp a b)/\Ext w w'):=by
 obtain⟨J,rfl,I⟩:=U;obtain⟨O,rfl,G⟩:=hb;have u:=St.start w;refine eU Tryz.func103 ?_;refine cJ u (λV _ u=>cJ u λaz4 _ u=>⟨λW w'=>W=.bool (!yL a b&&!yL b a)/\St w aY [] w',aE lY u.p1.At (aE lY u.At (aS TC u (C104 a _ b _ _ ⟨J,rfl,(I.ext u.aF)⟩ ⟨O,rfl,(G.ext u.aF)⟩ Z) λ_ _ u=>bP (aX (λB=>aE lY u.At (aE lY u.p1.At (aS TC u (C104 b _ a _ _ ⟨O,rfl,(G.ext u.aF)⟩ ⟨J,rfl,(I.ext u.aF)⟩ Y) λ_ _ u=>bP (have u:=u.drop.drop;⟨vb (by rw[qm]at B;rw[B];rfl),u⟩)))) λB=>have u:=u.drop.drop;⟨vb (by rw[Bool.not_eq_false']at B;rw[B];rfl),u⟩))),?_⟩)
 rintro _ _ ⟨rfl,u⟩ _;exact⟨vb ((VA a b).symm),u.aF⟩
def C105(k:Int)(w:World):CR 105 [hH k] w (λv w'=>v=.string (abr k)/\Ext w w'):=by
 have u:=St.start w;refine eU Tryz.func105 ?_;refine⟨λG w'=>G=.bool (decide (k<0\/5<=k))/\w=w',aO (aC (λ_=>⟨Ko bL,rfl⟩) λ_=>cR ⟨xB bL,rfl⟩),?_⟩;rintro _ _ ⟨rfl,E⟩ _;subst E;refine aC (λB=>⟨ez Value.string (by unfold abr;rw[ee B]),u.aF⟩) (λB=>?_);refine⟨_,Ci _ _ _ _ _,?_⟩;obtain rfl|rfl|rfl|rfl|rfl:k=0\/k=1\/k=2\/k=3\/k=4:=bL
 all_goals exact⟨.string (abr _),by kernel_rfl,rfl,u.aF⟩
variable (w:World) (K:Value->g7)
def S44:Prop:=
 cF 65 [(Go.Value.string (hZ (#[108,105,110,101,32,97,59,32,116,104,114,101,97,100,32,116,32,123,32,115,116,111,114,101,32,97,32,61,32,49,59,32,99,104,101,99,107,32,48,59,32,125,32,114,101,99,111,118,101,114,32,123,32,125,32,97,108,119,97,121,115,32,97,32,61,61,32,48,59])))] w λa b=>
 xT a 0 λc=>xT a 1 λ_=>xT a 2 λ_=>aL 27 b λp1 d=>sA 27 p1 c d λe=>eM g6 (l0 50 [(0,(i 1))].toArray) λf=>eM g6 (l0 50 [(0,(i 2))].toArray) λg=>
 aL 50 e λI h=>aL 50 h λub j=>sA 50 I f j λk=>sA 50 ub g k λl=>bS 41 1 [(0,(i 1))] l λn o=>eM g6 (l0 50 [(0,(i 3)),(3,n)].toArray) λp=>
 aL 50 o λM q=>sA 50 M p q λr=>lA 27 p1 r λs=>lA 50 I r λt=>lA 50 ub r λu=>lA 50 M r λv=>bS 39 3 [(0,t),(1,u),(2,v)] r λx y=>cF 40 [s,(i 2),(i 1),x] y λz aa=>
 xT z 0 λab=>xT z 1 λac=>xT z 2 λad=>xT z 3 λ_=>aL 63 aa λJ ae=>sA 63 J ab ae λaf=>lA 27 p1 af λag=>lA 50 I af λah=>lA 50 I af λai=>bS 39 2 [(0,ah),(1,ai)] af λaj ak=>
 cF 40 [ag,(i 2),(i 1),aj] ak λal am=>xT al 0 λan=>xT al 1 λ_=>xT al 2 λao=>xT al 3 λ_=>aL 63 am λO ap=>sA 63 O an ap λU=>lA 27 p1 U λar=>lA 50 I U λasx=>
 lA 50 ub U λau=>lA 50 M U λav=>bS 39 3 [(0,asx),(1,au),(2,av)] U λaw ax=>cF 40 [ar,(i 2),(i 0),aw] ax λZ az=>xT Z 0 λa0=>xT Z 1 λ_=>xT Z 2 λa1=>
 xT Z 3 λa2=>aL 63 az λa3 a4=>sA 63 a3 a0 a4 λW=>lA 27 p1 W λa6=>lA 50 I W λa8=>lA 50 M W λa9=>bS 39 2 [(0,a8),(1,a9)] W λba bb=>cF 40 [a6,(i 2),(i 1),ba] bb λY bd=>
 xT Y 0 λbe=>xT Y 1 λ_=>xT Y 2 λbf=>xT Y 3 λbg=>aL 63 bd λbh bi=>sA 63 bh be bi λbj=>lA 27 p1 bj λbk=>cF 40 [bk,(i 2),(i 9),(.slice none 0 0)] bj λbl bm=>
 xT bl 0 λbn=>xT bl 1 λ_=>xT bl 2 λbo=>xT bl 3 λ_=>aL 63 bm λbp bq=>sA 63 bp bn bq λbr=>lA 27 p1 br λbs=>cF 40 [bs,(i 2),(i 0),(.slice none 0 0)] br λbt bu=>
 xT bt 0 λbv=>xT bt 1 λ_=>xT bt 2 λbw=>xT bt 3 λ_=>aL 63 bu λG bx=>sA 63 G bv bx λbz=>eR (λB=>lA 63 J bz λb0=>bS 41 1 [(0,(i 1))] bz λb1 b2=>
 eM g6 (l0 63 [(0,(i 2)),(2,(i 1)),(3,b1)].toArray) λb3=>cF 103 [b0,b3] b2 λb4 V=>cV b4 (lN 72 ac λb6=>bB .eql 3 b6 (i 3) λb7=>cV b7 (bB .eql 31 ad (i 0) λb8=>
 cV b8 (lA 63 O V λb9=>bS 41 1 [(0,(i 0))] V λca cb=>eM g6 (l0 63 [(0,(i 3)),(1,(i 1)),(3,ca)].toArray) λcc=>cF 103 [b9,cc] cb λcd E=>cV cd (
 bB .eql 31 ao (i 0) λcf=>cV cf (bB .eql 31 a1 (i 14) λcg=>cV cg (bB .eql 3 a2 (i 2) λch=>cV ch (bB .eql 31 bf (i 13) λci=>cV ci (bB .eql 3 bg (i 1) λcj=>cV cj (
 bB .eql 31 bo (i 1) λck=>cV ck (lA 63 G E λcl=>bS 41 1 [(0,(i 0))] E λcm cn=>eM g6 (l0 63 [(3,cm)].toArray) λco=>cF 103 [cl,co] cn λcp cq=>
 cV cp (bB .eql 31 bw (i 0) λcr=>cV cr (lA 63 J cq λcs=>cF 99 [cs] cq λct cu=>cV ct (lA 63 G cu λcv=>cF 99 [cv] cu λcw cx=>eM g6 (Op.unary .not cw) λcy=>
 cV cy (lA 63 G cx λcz=>lA 63 J cx λc0=>cF 104 [cz,c0] cx λc1 c2=>cV c1 (lA 63 J c2 λc3=>lA 63 J c2 λc4=>cF 104 [c3,c4] c2 λc5 c6=>eM g6 (Op.unary .not c5) λc7=>
 cV c7 (cF 105 [(i 4)] c6 λc8 c9=>eM g6 (ji .eql 9 false true c8 (Go.Value.string (hZ (#[115,116,117,99,107])))) λda=>cV da (cF 105 [(i 5)] c9 λdb dc=>
 eM g6 (ji .eql 9 false true db (Go.Value.string (hZ (#[])))) λdd=>cV dd (lA 27 p1 dc λde=>lA 50 I dc λdf=>lA 50 M dc λdg=>lA 50 I dc λdh=>
 bS 39 3 [(0,df),(1,dg),(2,dh)] dc λdi dj=>cF 42 [de,(i 2),(i 1),di] dj λdk dl=>bB .eql 3 dk (i 1) λdm=>B dm dl) (B ff dc)) (B ff c9)) (B ff c6)) (B ff c2)) (
 B ff cx)) (B ff cu)) (B ff cq)) (B ff cq)) (B ff E)) (B ff E)) (B ff E)) (B ff E)) (B ff E)) (B ff E)) (B ff E)) (B ff V)) (B ff V)) (B ff V)) (λdn dp=>∀_:Env,
 K dn dp)
theorem alW(h:S44 w K):CR 44 [] w K:=
 qu 186 (λ_=>.nil) 1 [.tmp 0] Tryz.func44 h
theorem alX:PL 44:=dG Tryz.func44
end Go.Proofs.YtpdlpabnlkofmaaGreatDoor
namespace Go.Proofs.YtpdlpabnlkofmaaGreatDoor
open Go.Fw
def TD(u:Int):pr g6 (l0 50 [(0,hH u)].toArray)=some (.agg [hH u,hH 0,hH 0,.slice none 0 0].toArray):=by kernel_rfl
def N3(G:Int)(I:Int)(E:Option Addr)(B u:Nat):pr g6 (l0 63 [(0,hH G),(1,hH I),(3,.slice E B u)].toArray)=some (.agg [hH G,hH I,hH 0,.slice E B u].toArray):=by kernel_rfl
def N4(I:Int)(G:Int)(E:Option Addr)(B u:Nat):pr g6 (l0 63 [(0,hH I),(2,hH G),(3,.slice E B u)].toArray)=some (.agg [hH I,hH 0,hH G,.slice E B u].toArray):=by kernel_rfl
def afy(B:Option Addr)(u E:Nat):pr g6 (l0 63 [(3,.slice B u E)].toArray)=some (.agg [hH 0,hH 0,hH 0,.slice B u E].toArray):=by kernel_rfl
section
variable {α σ:Type}[Flat σ] [Deep α σ] {w:World}
theorem uQ{t:σ}{x:α}{ts:List σ}{xs:List α}(h:mL w t x)(g:gu ts xs w):gu (t::ts) (x::xs) w:=by
 grind[gu]
end
def pk0(w:World)(a b c:Int):mL w (⟨a,b,c,cI⟩:bN) (⟨a,b,c,[]⟩:bV):=⟨_,rfl,DL.nil w⟩
theorem e0(w:World){u:SV}(a b c:Int){l:List Int}(h:dz (λ_=>True) w (hM u) l):mL w (⟨a,b,c,u⟩:bN) (⟨a,b,c,l⟩:bV):=⟨_,rfl,DL.j3 h⟩
def ahG(t:ByteArray):Bool:=match vG t with
 | some r=>decide (r.1.length<=5000)&&r.1.all (λx=>decide (0<=x.at_/\x.at_<=1000000/\x.text.size<=1000000))
 | none=>false
def afz{t:ByteArray}(h:ahG t=true):∀l e a,vG t=some (l,e,a)->iY l:=by
 intro l e a B
 unfold ahG at h
 rw[B]at h
 simp only[nS,decide_eq_true_eq,List.all_eq_true]at h
 exact⟨h.1,λx u=>h.2 x u⟩
def TE:ByteArray:=⟨#[108,105,110,101,32,97,59,32,116,104,114,101,97,100,32,116,32,123,32,115,116,111,114,101,32,97,32,61,32,49,59,32,99,104,101,99,107,32,48,59,32,125,32,114,101,99,111,118,101,114,32,123,32,125,32,97,108,119,97,121,115,32,97,32,61,61,32,48,59]⟩
def mW:cE:=((vl TE).getD (Nq,0,0)).1
def Q8:vl TE=some (mW,0,0):=by decide +kernel
def VC:∀l e a,vG TE=some (l,e,a)->iY l:=afz (by decide +kernel)
theorem abt:gk mW=mW:=by decide +kernel
def vt:PZ mW:=by rw[<- abt];exact Sq _
def fxA:List bX:=(fp mW 2 1 [(⟨1,0,0,[]⟩:bV),(⟨2,0,0,[]⟩:bV),(⟨3,0,0,[1]⟩:bV)]).2.1
def fxB:List bX:=(fp mW 2 1 [(⟨1,0,0,[]⟩:bV),(⟨1,0,0,[]⟩:bV)]).2.1
def afA:(fp mW 2 1 [(⟨1,0,0,[]⟩:bV),(⟨2,0,0,[]⟩:bV),(⟨3,0,0,[1]⟩:bV)]=((⟨2,0,1,[1]⟩:bV),fxA,0,0)/\fxA.length=3)/\fp mW 2 1 [(⟨1,0,0,[]⟩:bV),(⟨1,0,0,[]⟩:bV)]=((⟨3,1,0,[0]⟩:bV),fxB,0,0)/\fp mW 2 0 [(⟨1,0,0,[]⟩:bV),(⟨2,0,0,[]⟩:bV),(⟨3,0,0,[1]⟩:bV)]=(zE,[],14,2)/\fp mW 2 1 [(⟨1,0,0,[]⟩:bV),(⟨3,0,0,[1]⟩:bV)]=(zE,[],13,1)/\fp mW 2 9 ([]:List bV)=(zE,[],1,0)/\fp mW 2 0 ([]:List bV)=((⟨0,0,0,[0]⟩:bV),[],0,0)/\afh mW 2 1 [(⟨1,0,0,[]⟩:bV),(⟨3,0,0,[1]⟩:bV),(⟨1,0,0,[]⟩:bV)]=1:=by decide +kernel
def Q9(R:bV×List bX×Int×Int)(K:g7)(p:cE)(pv:bM)(room c:Int)(lv:Value)(l:List bV)(w:World)(E:∀w',Ext w w'->K w')(J:NX K pv p)(M:PZ p)(G:Vy K lv l)(B:l.length<=1000)(u:∀q∈l,q.cut.length<=1000)(I:fp p room c l=R) :
  Calls g6 40 [hM pv,hH room,hH c,lv].toArray w (sK λv w'=>∃(ev:bN) (ov:Value),v=.tuple #[hM ev,ov,hH R.2.2.1,hH R.2.2.2]/\kZ (sep (eH λw=>mL w ev R.1) (bF ov R.2.1)) w w'):=I▸C40 K p pv room c lv l w E J M G B u
def C44(w:World):CR 44 [] w (λv w'=>v=.bool true/\Ext w w'):=by
 have u:=St.start w;refine alW _ _ ?_;unfold S44;obtain⟨⟨r1,Z⟩,r2,r3,r4,r5,r6,r7⟩:=afA;refine dO auR (C65 TE (mW,0,0) _ cZ Q8 VC) ?_;rintro _ _ ⟨pv,rfl,E⟩;have u:=u.made E;refine aN rfl (aN rfl (aN rfl (aQ u uU λb1 _ u=>aK (x:=pv) u eN rfl rfl λ_ u=>pop (TD 1) (pop (TD 2) (aQ u IC λb4 _ u=>aQ u IC λb5 _ u=>aK (x:=(⟨1,0,0,cI⟩:bN)) u.p1 rF rfl rfl λ_ u=>aK (x:=(⟨2,0,0,cI⟩:bN)) u.p1 rF rfl rfl λ_ u=>aW ([1]:List Int) u cQ rfl rfl (dM rfl) λx38 _ u=>?_)))))
 obtain⟨B,rfl⟩:=u.fQ;refine pop (Hv 3 _ _ _) (aQ u IC λb6 _ u=>aK (x:=(⟨3,0,0,B⟩:bN)) u rF rfl rfl λI u=>?_);have u:=u.p1.freeze.p5.p1.fZ;obtain⟨J,u,hX⟩:=u.Hq;have V:NX (m8 J I) pv mW:=NX.of λw' h=>(hX w' h).2;have W:∀w',m8 J I w'->mL w' (⟨3,0,0,B⟩:bN) (⟨3,0,0,[1]⟩:bV):=λw' h=>e0 _ 3 0 0 (hX w' h).1;have M:∀(a b c:Int) w',m8 J I w'->mL w' (⟨a,b,c,cI⟩:bN) (⟨a,b,c,[]⟩:bV):=λa b c w' _=>pk0 w' a b c;refine aE (x:=pv) eN u.p4.At (aE (x:=(⟨1,0,0,cI⟩:bN)) rF u.p3.At (aE (x:=(⟨2,0,0,cI⟩:bN)) rF u.p2.At (aE (x:=(⟨3,0,0,B⟩:bN)) rF u.p1.At (aW ([(⟨1,0,0,cI⟩:bN),(⟨2,0,0,cI⟩:bN),(⟨3,0,0,B⟩:bN)]:List bN) u jL rfl rfl (dM rfl) λpl _ u=>dO Gs (Q9 _ (λw'=>m8 J I w'/\dz (λ_=>True) w' pl ([(⟨1,0,0,cI⟩:bN),(⟨2,0,0,cI⟩:bN),(⟨3,0,0,B⟩:bN)]:List bN)) mW pv 2 1 pl [(⟨1,0,0,[]⟩:bV),(⟨2,0,0,[]⟩:bV),(⟨3,0,0,[1]⟩:bV)] _ (λ_ e=>⟨(u.ext e).p1.eH,(u.ext e).dQ⟩) (V.mono λ_ h=>h.1) vt ⟨_,λ_ h=>⟨h.2,(uQ (M 1 0 0 _ h.1) (uQ (M 2 0 0 _ h.1) (uQ (W _ h.1) gu.nil)))⟩⟩ cZ cZ r1) ?_))))
 rintro _ _ ⟨G,ov0,rfl,E⟩;have u:=(u.made E).split;refine aN rfl (aN rfl (aN rfl (aN rfl (aQ u nJ λa7 _ u=>aK (x:=G) u lY rfl rfl λ_ u=>have u:=u.p3.drop;aE (x:=pv) eN u.p7.At (aE (x:=(⟨1,0,0,cI⟩:bN)) rF u.p6.At (aE (x:=(⟨1,0,0,cI⟩:bN)) rF u.p6.At (aW ([(⟨1,0,0,cI⟩:bN),(⟨1,0,0,cI⟩:bN)]:List bN) u jL rfl rfl (dM rfl) λpl _ u=>dO Gs (Q9 _ (λw'=>m8 J I w'/\dz (λ_=>True) w' pl ([(⟨1,0,0,cI⟩:bN),(⟨1,0,0,cI⟩:bN)]:List bN)) mW pv 2 1 pl [(⟨1,0,0,[]⟩:bV),(⟨1,0,0,[]⟩:bV)] _ (λ_ e=>⟨(u.ext e).p4.eH,(u.ext e).dQ⟩) (V.mono λ_ h=>h.1) vt ⟨_,λ_ h=>⟨h.2,(uQ (M 1 0 0 _ h.1) (uQ (M 1 0 0 _ h.1) gu.nil))⟩⟩ cZ cZ r2) ?_)))))))
 rintro _ _ ⟨Y,Oi,rfl,E⟩;have u:=(u.made E).split;refine aN rfl (aN rfl (aN rfl (aN rfl (aQ u nJ λb11 _ u=>aK (x:=Y) u lY rfl rfl λ_ u=>have u:=u.p3.drop.p2.drop;aE (x:=pv) eN u.p9.At (aE (x:=(⟨1,0,0,cI⟩:bN)) rF u.p8.At (aE (x:=(⟨2,0,0,cI⟩:bN)) rF u.p7.At (aE (x:=(⟨3,0,0,B⟩:bN)) rF u.p6.At (aW ([(⟨1,0,0,cI⟩:bN),(⟨2,0,0,cI⟩:bN),(⟨3,0,0,B⟩:bN)]:List bN) u jL rfl rfl (dM rfl) λpl _ u=>dO Gs (Q9 _ (λw'=>m8 J I w'/\dz (λ_=>True) w' pl ([(⟨1,0,0,cI⟩:bN),(⟨2,0,0,cI⟩:bN),(⟨3,0,0,B⟩:bN)]:List bN)) mW pv 2 0 pl [(⟨1,0,0,[]⟩:bV),(⟨2,0,0,[]⟩:bV),(⟨3,0,0,[1]⟩:bV)] _ (λ_ e=>⟨(u.ext e).p6.eH,(u.ext e).dQ⟩) (V.mono λ_ h=>h.1) vt ⟨_,λ_ h=>⟨h.2,(uQ (M 1 0 0 _ h.1) (uQ (M 2 0 0 _ h.1) (uQ (W _ h.1) gu.nil)))⟩⟩ cZ cZ r3) ?_))))))))
 rintro _ _ ⟨e3,ov2,rfl,E⟩;have u:=(u.made E).split;refine aN rfl (aN rfl (aN rfl (aN rfl (aQ u nJ λb15 _ u=>aK (x:=e3) u lY rfl rfl λ_ u=>have u:=u.p3.drop.p2.drop.p1.drop.drop;aE (x:=pv) eN u.p9.At (aE (x:=(⟨1,0,0,cI⟩:bN)) rF u.p8.At (aE (x:=(⟨3,0,0,B⟩:bN)) rF u.p6.At (aW ([(⟨1,0,0,cI⟩:bN),(⟨3,0,0,B⟩:bN)]:List bN) u jL rfl rfl (dM rfl) λpl _ u=>dO Gs (Q9 _ (λw'=>m8 J I w'/\dz (λ_=>True) w' pl ([(⟨1,0,0,cI⟩:bN),(⟨3,0,0,B⟩:bN)]:List bN)) mW pv 2 1 pl [(⟨1,0,0,[]⟩:bV),(⟨3,0,0,[1]⟩:bV)] _ (λ_ e=>⟨(u.ext e).p6.eH,(u.ext e).dQ⟩) (V.mono λ_ h=>h.1) vt ⟨_,λ_ h=>⟨h.2,(uQ (M 1 0 0 _ h.1) (uQ (W _ h.1) gu.nil))⟩⟩ cZ cZ r4) ?_)))))))
 rintro _ _ ⟨e4,ov3,rfl,E⟩;have u:=(u.made E).split;refine aN rfl (aN rfl (aN rfl (aN rfl (aQ u nJ λb19 _ u=>aK (x:=e4) u lY rfl rfl λ_ u=>have u:=u.p3.drop.p2.drop.p1.drop.drop;aE (x:=pv) eN u.p9.At (dO Gs (Q9 _ (m8 J I) mW pv 2 9 (.slice none 0 0) [] _ (λ_ e=>(u.ext e).p5.eH) V vt (Vy.nil _) cZ cZ r5) ?_)))));rintro _ _ ⟨e5,ov4,rfl,E⟩;have u:=(u.made E).split;refine aN rfl (aN rfl (aN rfl (aN rfl (aQ u nJ λb23 _ u=>aK (x:=e5) u lY rfl rfl λ_ u=>have u:=u.p2.drop.p1.drop.drop;aE (x:=pv) eN u.p9.At (dO Gs (Q9 _ (m8 J I) mW pv 2 0 (.slice none 0 0) [] _ (λ_ e=>(u.ext e).p5.eH) V vt (Vy.nil _) cZ cZ r6) ?_)))))
 rintro _ _ ⟨U,ov5,rfl,E⟩;have u:=(u.made E).split;refine aN rfl (aN rfl (aN rfl (aN rfl (aQ u nJ λc27 _ u=>aK (x:=U) u lY rfl rfl λ_ u=>?_))));have u:=u.p2.drop;refine⟨λjv w'=>jv=.bool true/\Ext w w',?_,?_⟩;rotate_left
 .rintro _ _ h _;exact h
 refine aE (x:=G) lY u.p4.At (aW ([1]:List Int) u cQ rfl rfl (dM rfl) λz1 _ u=>?_);obtain⟨s1,rfl⟩:=u.fQ;refine pop (N4 2 1 _ _ _) ?_;have Ua:mL _ (⟨2,0,1,s1⟩:bN) (⟨2,0,1,[1]⟩:bV):=e0 _ _ _ _ u.dQ;refine aS abo u (C103 (⟨2,0,1,[1]⟩:bV) G (⟨2,0,1,[1]⟩:bV) (⟨2,0,1,s1⟩:bN) _ u.p6.eH Ua cZ cZ) (λ_ O u=>lL cZ (have u:=u.drop;aH z8 u.p6.dQ ?_));rw[Z];refine aG (aC (λ_=>?_) λh=>absurd rfl h);refine aG (aC (λ_=>?_) λh=>absurd rfl h);refine aE (x:=Y) lY u.p2.At (aW ([0]:List Int) u cQ rfl rfl (dM rfl) λz2 _ u=>?_)
 obtain⟨s2,rfl⟩:=u.fQ;refine pop (N3 3 1 _ _ _) ?_;have hz2:mL _ (⟨3,1,0,s2⟩:bN) (⟨3,1,0,[0]⟩:bV):=e0 _ _ _ _ u.dQ;refine aS abo u (C103 (⟨3,1,0,[0]⟩:bV) Y (⟨3,1,0,[0]⟩:bV) (⟨3,1,0,s2⟩:bN) _ u.p4.eH hz2 cZ cZ) (λ_ O u=>lL cZ (have u:=u.drop;aG (aC (λ_=>?_) λh=>absurd rfl h)));refine aG (aC (λ_=>?_) λh=>absurd rfl h);refine aG (aC (λ_=>?_) λh=>absurd rfl h);refine aG (aC (λ_=>?_) λh=>absurd rfl h);refine aG (aC (λ_=>?_) λh=>absurd rfl h);refine aG (aC (λ_=>?_) λh=>absurd rfl h)
 refine aE (x:=U) lY u.At (aW ([0]:List Int) u cQ rfl rfl (dM rfl) λz3 _ u=>?_);obtain⟨s3,rfl⟩:=u.fQ;refine pop (afy _ _ _) ?_;have hz3:mL _ (⟨0,0,0,s3⟩:bN) (⟨0,0,0,[0]⟩:bV):=e0 _ _ _ _ u.dQ;refine aS abo u (C103 (⟨0,0,0,[0]⟩:bV) U (⟨0,0,0,[0]⟩:bV) (⟨0,0,0,s3⟩:bN) _ u.p2.eH hz3 cZ cZ) (λ_ O u=>lL cZ (have u:=u.drop;aG (aC (λ_=>?_) λh=>absurd rfl h)));refine aE (x:=G) lY u.p4.At (aS asU u (C99 (⟨2,0,1,[1]⟩:bV) G _ u.p5.eH) λ_ O u=>lL cZ (aE (x:=U) lY u.At (aS asU u (C99 (⟨0,0,0,[0]⟩:bV) U _ u.p1.eH) λ_ O u=>bP (lL cZ (aE (x:=U) lY u.At (aE (x:=G) lY u.p4.At (aS TC u (C104 (⟨0,0,0,[0]⟩:bV) U (⟨2,0,1,[1]⟩:bV) G _ u.p1.eH u.p5.eH cZ) λ_ O u=>lL cZ (aE (x:=G) lY u.p4.At (aE (x:=G) lY u.p4.At ?_)))))))))
 refine aS TC u (C104 (⟨2,0,1,[1]⟩:bV) G (⟨2,0,1,[1]⟩:bV) G _ u.p5.eH u.p5.eH cZ) (λ_ O u=>bP (lL cZ (aS ahE u (C105 4 _) λ_ O u=>iG (aC (λ_=>?_) λh=>absurd cZ h))));refine aS ahE u (C105 5 _) (λ_ O u=>iG (aC (λ_=>?_) λh=>absurd cZ h));refine aE (x:=pv) eN u.p11.At (aE (x:=(⟨1,0,0,cI⟩:bN)) rF u.p10.At (aE (x:=(⟨3,0,0,B⟩:bN)) rF u.p8.At (aE (x:=(⟨1,0,0,cI⟩:bN)) rF u.p10.At (aW ([(⟨1,0,0,cI⟩:bN),(⟨3,0,0,B⟩:bN),(⟨1,0,0,cI⟩:bN)]:List bN) u jL rfl rfl (dM rfl) λpl _ u=>aS azR u (C42 (λw'=>m8 J I w'/\dz (λ_=>True) w' pl ([(⟨1,0,0,cI⟩:bN),(⟨3,0,0,B⟩:bN),(⟨1,0,0,cI⟩:bN)]:List bN)) mW pv 2 1 pl [(⟨1,0,0,[]⟩:bV),(⟨3,0,0,[1]⟩:bV),(⟨1,0,0,[]⟩:bV)] _ (λ_ e=>⟨(u.ext e).p8.eH,(u.ext e).dQ⟩) (V.mono λ_ h=>h.1) vt ⟨_,λ_ h=>⟨h.2,(uQ (M 1 0 0 _ h.1) (uQ (W _ h.1) (uQ (M 1 0 0 _ h.1) gu.nil)))⟩⟩ cZ cZ) λ_ O u=>?_))))
 rw[r7];exact aG ⟨rfl,u.aF⟩
variable (w:World) (K:Value->g7)
def P9:dH:=λi=>match i with
 | 6=>(.of [(0,[]),(1,[]),(2,[]),(3,[]),(4,[]),(5,[]),(6,[]),(7,[]),(8,[]),(9,[]),(10,[]),(11,[]),(12,[]),(13,[]),(14,[]),(15,[]),(16,[]),(17,[]),(18,[]),(19,[]),(20,[]),(21,[]),(22,[]),(23,[]),(25,[]),(26,[]),(27,[]),(28,[]),(29,[]),(24,[25,28]),(30,[]),(31,[]),(32,[]),(33,[]),(34,[]),(35,[]),(36,[])])
 | _=>.nil
end Go.Proofs.YtpdlpabnlkofmaaGreatDoor
namespace Go.Proofs.YtpdlpabnlkofmaaGreatDoor
open Go.Fw
theorem abu{p:cE}{c:Int}(hc:FA p):∀(l:List bV) (m:fY) (o:List bX) (a:Nat),pf p a m->pf p (a+l.length) (lS c m o l).1
 | [],m,o,a,h=>h
 | q::r,m,o,a,h=>by
  rw[n5]
  unfold lS
  split
  .exact h.mono bL
  .split
   .exact(h.step hc).mono bL
   .exact(abu hc r _ _ _ (h.step hc)).mono bL
def N5{p:cE}{room c:Int}(h:fJ p room c=0):fc p=0/\(1<=room/\room<=16)/\0<=c/\c<=8:=by
 unfold fJ at h
 omega
def alY{p:cE}{room c:Int}(u:PZ p)(h:fJ p room c=0)(l:List bV):pf p l.length (lS c (gB p room) [] l).1:=by
 obtain⟨h1,h2,_⟩:=N5 h
 have:=abu (c:=c) (pR h1) l _ [] 0 (pf.new u (pR h1) h2)
 grind
def H9{c:Int}{m:fY}{a:rP}(h:¬ ((ki c m a).length:Int)=0):atP (ki c m a) a∈ki c m a:=by
 have u:=VU (wc a.n 65535) (show((ki c m a).length:Int)≠0 by omega)
 have B:=Sk (wc a.n 65535) (show 0<((ki c m a).length:Int)by omega)
 unfold atP
 rw[n0,List.getElem?_eq_getElem (show(wc a.n 65535 % ((ki c m a).length:Int)).toNat<_ by omega)]
 exact List.getElem_mem _
theorem Ia{p:cE}{c:Int}(hc:FA p):∀(l:List rP) (m:fY) (k:Nat),pf p k m->∀q∈qV c m l,q.cut.length<=20
 | [],m,k,h,q,u=>by cases u
 | a::r,m,k,h,q,u=>by
  rw[qV]at u
  split at u
  .cases u
  .rename_i h1
   rcases List.mem_cons.1 u with rfl|u
   .exact H7 h.go.ok (H9 h1)
   .exact Ia hc r _ (k+1) (h.step hc) q u
theorem Ib(c:Int):∀(l:List rP) (m:fY),(qV c m l).length<=l.length
 | [],m=>o5 _
 | a::r,m=>by
  rw[qV]
  split
  .exact kO _
  .rw[n5,n5]
   exact Nat.succ_le_succ (Ib c r _)
def VD{p:cE}{room c:Int}{l:List rP}(B:PZ p):∀q∈pg p room c l,q.cut.length<=20:=by
 unfold pg
 split
 .intro q E;cases E
 rename_i h
 have u:fc p=0:=bL
 exact Ia (pR u) _ _ 0 (pf.new B (pR u) bL)
def VE{p:cE}{room c:Int}{l:List rP}:(pg p room c l).length<=60:=by
 unfold pg
 split
 .exact kO _
 refine tx (Ib _ _ _) ?_
 rw[lQ];exact Nat.min_le_left ..
def yM(c:Int):fY->List bV->fY×List bV
 | m,[]=>(m,[])
 | m,q::r=>if q.kind=3/\c<=m.dC then yM c m r else if (od m q).2.2≠0 then yM c (od m q).1 r else((yM c (od m q).1 r).1,q::(yM c (od m q).1 r).2)
def abv(p:cE)(room c:Int)(l:List bV):List bV×bV×Int:=
 if fJ p room c≠0 then([],zE,fJ p room c)else((yM c (gB p room) l).2,Q6 (yM c (gB p room) l).1,0)
theorem afB{p:cE}{room c:Int}{l:List bV}(h:fJ p room c=0):abv p room c l=((yM c (gB p room) l).2,Q6 (yM c (gB p room) l).1,0):=by unfold abv;rw[eb (by rw[h];decide)]
variable (w:World) (K:Value->g7)
def P4:dH:=λi=>match i with
 | 6=>(.of [(0,[]),(1,[]),(2,[]),(3,[]),(4,[]),(5,[]),(6,[]),(7,[]),(8,[]),(9,[]),(10,[]),(11,[]),(12,[]),(13,[]),(14,[]),(15,[]),(16,[]),(18,[]),(19,[]),(20,[]),(17,[20]),(21,[]),(22,[]),(23,[]),(24,[]),(25,[]),(26,[]),(27,[]),(28,[]),(30,[]),(31,[]),(32,[]),(33,[]),(29,[30,32]),(34,[]),(35,[]),(36,[]),(37,[]),(38,[]),(39,[]),(40,[])])
 | _=>.nil
end Go.Proofs.YtpdlpabnlkofmaaGreatDoor
namespace Go.Proofs.YtpdlpabnlkofmaaGreatDoor
open Go.Fw
variable (w:World) (K:Value->g7)
def P7:dH:=λi=>match i with
 | 3=>.run 0 9
 | _=>.nil
end Go.Proofs.YtpdlpabnlkofmaaGreatDoor
namespace Go.Proofs.YtpdlpabnlkofmaaGreatDoor
open Go.Fw
variable (w:World) (K:Value->g7)
def P6:dH:=λi=>match i with
 | 3=>.run 0 9
 | 14=>(.op 0 [] (.op 1 [] (.op 2 [] (.op 3 [] (.alt 4 [0] (.alt 5 [] (.of [(6,[]),(7,[]),(8,[]),(9,[]),(10,[0]),(11,[]),(12,[]),(13,[])]) (.alt 10 [0] (.of [(5,[]),(6,[]),(7,[]),(8,[]),(9,[]),(11,[]),(12,[]),(13,[])]) .stop)) (.alt 10 [0] (.of [(4,[0]),(5,[]),(6,[]),(7,[]),(8,[]),(9,[]),(11,[]),(12,[]),(13,[])]) .stop))))))
 | _=>.nil
end Go.Proofs.YtpdlpabnlkofmaaGreatDoor
namespace Go.Proofs.YtpdlpabnlkofmaaGreatDoor
open Go.Fw
theorem CL(c:Int):∀(l:List bV) (m:fY) (o:List bX),(lS c m o l).2.2=0->yM c m l=((lS c m o l).1,l)
 | [],m,o,_=>rfl
 | q::r,m,o,h=>by
  unfold lS at h
  split at h
  .cases h
  rename_i h1
  split at h
  .rename_i h2;exact absurd h h2
  rename_i h2
  have u:=CL c r _ _ h
  rw[yM,eb h1,eb h2,lS,eb h1,eb h2,u]
def N6{p:cE}{room c:Int}{l:List bV}(h:(fp p room c l).2.2.1=0):fJ p room c=0/\abv p room c l=(l,(fp p room c l).1,0):=by
 have u:fJ p room c=0:=by
  by_cases u:fJ p room c=0
  .exact u
  .rw[abl u]at h;exact absurd h u
 refine⟨u,?_⟩
 have B:(lS c (gB p room) [] l).2.2=0:=by
  by_cases B:(lS c (gB p room) [] l).2.2=0
  .exact B
  .rw[abm u B]at h;exact absurd h B
 rw[afB u,FU u B,CL c l _ [] B]
def abw{m:fY}{x:bV}(u:my m)(h:x∈kL m):x.kind=3/\(od m x).2.2=0:=by
 unfold kL at h
 split at h
 .cases h
 rename_i hf
 obtain⟨c,hc,rfl⟩:=n4.1 h
 refine⟨rfl,?_⟩
 have hi:=(FD u.mem hc).1
 have e:fW m ⟨3,0,0,c⟩=fh m.mem c:=by unfold fW;rw[ee ⟨rfl,rfl,rfl,u3.1 hf⟩]
 unfold od
 rw[e,hi]
def afC{m:fY}{x:bV}(h:x∈fx m):x.kind≠3/\(od m x).2.2=0:=by
 have B:x.cut=[]/\(x.kind=1\/x.kind=2):=by
  unfold fx at h
  split at h
  .cases h
  .obtain⟨i,t,_,_,h3⟩:=rk h
   obtain⟨_,G,J⟩:=vq h3
   exact⟨G,J.elim (λg=>.inl g.1) λg=>.inr g.1⟩
 have u:x.kind≠3:=by rcases B.2 with h|h<;>omega
 have E:(fx m).any (lR x)=true:=List.any_eq_true.2 ⟨x,h,by unfold lR;simp[B.1]⟩
 obtain⟨_,_,_,t,ht,_⟩:=aeP E
 have I:fW m x=none:=by unfold fW;rw[eb λh=>u h.1]
 refine⟨u,?_⟩
 unfold od
 rw[I]
 dsimp only
 rw[ee E,ht]
 split<;>rfl
theorem N7{p:cE}{c:Int}(hc:FA p):∀(l:List rP) (m:fY) (o:List bX) (k:Nat),pf p k m->(lS c m o (qV c m l)).2.2=0
 | [],m,o,k,h=>rfl
 | a::r,m,o,k,h=>by
  rw[qV]
  split
  .rfl
  .rename_i h1
   have u:=H9 h1
   have B:¬ ((atP (ki c m a) a).kind=3/\c<=m.dC)/\(od m (atP (ki c m a) a)).2.2=0:=by
    generalize atP (ki c m a) a=q at u
    unfold ki at u
    split at u
    .unfold sI at u
     split at u
     .rename_i h2
      have h3:=(fK h2).1
      exact⟨λh=>bL,(abw h.go.ok u).2⟩
     .cases u
    .obtain⟨G,E⟩:=afC u
     exact⟨λh=>G h.1,E⟩
   rw[lS,eb B.1,eb (by rw[B.2];decide)]
   exact N7 hc r _ _ (k+1) (h.step hc)
theorem TF(c:Int):∀(l:List bV) (m:fY) (o:List bX),(lS c m o l).2.2=0->(lS c m o l).2.1.length=o.length+l.length/\∀j,j<=l.length->(lS c m o (l.take j)).2.1=(lS c m o l).2.1.take (o.length+j)
 | [],m,o,_=>⟨rfl,λj u=>by
  have u:j=0:=by simpa using u
  subst u
  exact Pw.symm⟩
 | q::r,m,o,h=>by
  have I:=h
  unfold lS at h
  split at h
  .cases h
  rename_i h1
  split at h
  .rename_i h2;exact absurd h h2
  rename_i h2
  have e:∀s,lS c m o (q::s)=lS c (od m q).1 (o++[(od m q).2.1]) s:=λs=>by rw[lS,eb h1,eb h2]
  obtain⟨G,E⟩:=TF c r _ _ h
  rw[kH,lH]at G
  refine⟨by rw[e,n5];omega,λj u=>?_⟩
  cases j with
  | zero=>
   rw[Pe,e]
   have B:=E 0 (kO _)
   rw[Pe]at B
   show o=_
   have B:o++[(od m q).2.1]=(lS c (od m q).1 (o++[(od m q).2.1]) r).2.1.take (o.length+1):=by
    rw[kH,lH,Lm]at B;exact B
   have:=ez (List.take o.length) B
   rw[List.take_append_of_le_length (o5 _),Pw,List.take_take,Nat.min_eq_left bL]at this
   rw[Lm];exact this
  | succ j=>
   rw[L7,e,e,E j (by simpa using u),kH,lH]
   congr 1;omega
theorem TG(c:Int):∀(l r:List bV) (m:fY) (o:List bX),(lS c m o l).2.2=0->lS c m o (l++r)=lS c (lS c m o l).1 (lS c m o l).2.1 r
 | [],r,m,o,_=>rfl
 | q::l,r,m,o,h=>by
  unfold lS at h
  split at h
  .cases h
  rename_i h1
  split at h
  .rename_i h2;exact absurd h h2
  rename_i h2
  have e:∀s,lS c m o (q::s)=lS c (od m q).1 (o++[(od m q).2.1]) s:=λs=>by rw[lS,eb h1,eb h2]
  rw[aa7,e,e]
  exact TG c l r _ _ h
theorem N8{m:fY}(J:my m)(h:(qI m).1≠0):fx m=[]:=by
 by_cases B:m.fault≠0
 .unfold fx;rw[ee B]
 cases hs:pG m with
 | true=>
  unfold pG at hs
  simp only[nS,decide_eq_true_eq]at hs
  exact qa.1 bL
 | false=>
  cases hd:oe m with
  | false=>rw[abk B hs hd]at h;exact absurd rfl h
  | true=>
   rw[List.eq_nil_iff_forall_not_mem]
   intro x u
   unfold fx at u
   rw[eb B]at u
   obtain⟨i,t,hi,ht,h3⟩:=rk u
   unfold oe at hd
   simp only[nS,qm,List.any_eq_false]at hd
   have h4:=hd.2 i (List.mem_range.2 hi)
   rw[ht]at h4
   have h5:vk t=true:=by simpa using h4
   unfold vk at h5
   simp only[nS,decide_eq_true_eq]at h5
   have I:t.cC=[]:=qa.1 h5.1
   have G:t.buf=[]:=qa.1 h5.2
   rcases(vq h3).2.2 with⟨_,g,_⟩|⟨_,g⟩
   .obtain⟨y,a,b,E⟩:=FC g
    rw[I]at E;cases E
   .rw[G]at g;cases g
def afD{m:fY}{kind t:Int}(B:my m)(h:(qI m).1≠0)(u:kind≠3):(od m ⟨kind,t,0,[]⟩).2.2=13:=by
 have E:fW m ⟨kind,t,0,[]⟩=none:=by unfold fW;rw[eb λh=>u h.1]
 rw[Q5 E (by rw[N8 B h];rfl)]
theorem Ic{p:cE}{l:List rP}(u:PZ p)(h:fJ p 2 2=0):(lS 2 (gB p 2) [] (pg p 2 2 l)).2.2=0:=by
 obtain⟨h1,h2,_⟩:=N5 h
 unfold pg
 rw[eb bL]
 exact N7 (pR h1) _ _ _ 0 (pf.new u (pR h1) h2)
def VF{p:cE}{l:List rP}(B:PZ p)(h:(fp p 2 2 (pg p 2 2 l)).2.2.1≠0):pg p 2 2 l=[]:=by
 by_cases u:fJ p 2 2=0
 .rw[FU u (Ic B u)]at h;exact absurd rfl h
 unfold pg
 unfold fJ at u
 split at u
 .rename_i h1;rw[ee (.inl h1)]
 rw[eb bL,eb bL]at u
 exact absurd rfl u
def Ra{p:cE}{l:List rP}{u:List bV}(O:PZ p)(J:u=pg p 2 2 l)(h:(fp p 2 2 u).2.2.1=0):(fp p 2 2 u).2.1.length=u.length/\(∀n,n<=u.length->(fp p 2 2 (u.take n)).2.2.1=0/\(fp p 2 2 (u.take n)).2.1=(fp p 2 2 u).2.1.take n)/\
  ((fp p 2 2 u).1.kind≠0->∀kind t:Int,kind≠3->(fp p 2 2 (u++[⟨kind,t,0,[]⟩])).2.2=(13,(u.length:Int))):=by
 obtain⟨B,_⟩:=N6 h
 have G:(lS 2 (gB p 2) [] u).2.2=0:=by rw[J];exact Ic O B
 obtain⟨I,W⟩:=TF 2 u (gB p 2) [] G
 rw[Ei,ta]at I
 rw[FU B G]
 refine⟨I,λn Y=>?_,λV kind t E=>?_⟩
 .have h3:=TB 2 u (gB p 2) [] n G
  rw[FU B h3]
  refine⟨rfl,?_⟩
  have:=W n Y
  rw[Ei,ta]at this
  exact this
 have U:=TG 2 u [⟨kind,t,0,[]⟩] (gB p 2) [] G
 have M:=afD (t:=t) (alY O B u).go.ok (show(qI _).1≠0 from V) E
 have Z:lS 2 (gB p 2) [] (u++[⟨kind,t,0,[]⟩])=((od (lS 2 (gB p 2) [] u).1 ⟨kind,t,0,[]⟩).1,(lS 2 (gB p 2) [] u).2.1,13):=by
  rw[U,lS,eb (λh=>E h.1),ee (by rw[M];decide),M]
 rw[afq B Z cZ,I]
variable (w:World) (K:Value->g7)
def S10(p0 DJ k2:Value):Prop:=
 rA g6 (yg 27 p0) w λp3 a=>lA 27 p3 a λb=>cF 11 [b] a λc d=>sA 27 p3 c d λe=>lA 27 p3 e λf=>cF 37 [f,(i 2),DJ,(i 2)] e λg h=>lA 27 p3 h λj=>
 cF 40 [j,(i 2),(i 2),g] h λk l=>xT k 0 λn=>xT k 1 λo=>xT k 2 λp=>xT k 3 λ_=>aL 63 l λq r=>sA 63 q n r λs=>bB .neq 31 p (i 0) λt=>cV t (eR (λK1=>
 lN 39 g λu=>bB .eql 3 u (i 0) λv=>cV v (cF 44 [] s λx y=>K1 x y) (K1 ff s)) (λz aa=>∀_:Env,
 K z aa)) (bB .and 3 k2 (i 65535) λab=>lN 39 g λac=>bB .add 3 ac (i 1) λad=>bA .rem 3 ab ad λae=>Cp (λK2=>lA 27 p3 (drew s) λO=>eM g6 (nn 39 g none (some ae) none) λag=>
 ((cF 40 [O,(i 2),(i 2),ag] (drew s) λM ai=>xT M 0 λaj=>xT M 1 λak=>xT M 2 λal=>xT M 3 λ_=>aL 63 ai λam an=>kA 27 p3 O an (sA 63 am aj an λao=>
 K2 ak al ao))
 /\((aL 63 (drew s) λap aq=>kA 27 p3 O aq (cF 40 [O,(i 2),(i 2),ag] aq λG E=>xT G 0 λau=>xT G 1 λav=>xT G 2 λaw=>xT G 3 λ_=>sA 63 ap au E λax=>
 K2 av aw ax))
 /\
 True))) (λE Z V=>∀_:Env,
 eR (λW=>bB .neq 31 Z (i 0) λaz=>cV az (W tt V) (lN 72 o λa0=>lN 39 g λa1=>bA .neq 3 a0 a1 λa2=>cV a2 (W tt V) (eM g6 (nn 72 o none (some ae) none) λa3=>
 cF 41 [E,a3] V λa4 a5=>eM g6 (Op.unary .not a4) λa6=>W a6 a5))) (λa7 J=>∀_:Env,
 cV a7 (K ff J) (fA 63 q 0 λa9=>lA 3 a9 J λba=>bB .eql 3 ba (i 0) λbb=>cV bb (cF 44 [] J λbc bd=>K bc bd) (jQ (λY B be=>∀_:Env,
 bB .lss 3 B (i 3) λbf=>cV bf (jQ (λK5 U bg=>∀_:Env,
 bB .leq 3 U (i 2) λbh=>cV bh (bS 39 0 [] bg λbi bj=>aP 39 bi g bj λbk bl=>eM g6 (l0 50 [(0,U),(1,B)].toArray) λbm=>bS 39 1 [(0,bm)] bl λbn bo=>
 aP 39 bk bn bo λbp bq=>lA 27 p3 bq λbr=>cF 40 [br,(i 2),(i 2),bp] bq λI bt=>xT I 0 λbu=>xT I 1 λ_=>xT I 2 λbv=>xT I 3 λbw=>aL 63 bt λbx bz=>
 sA 63 bx bu bz λb0=>eR (λK6=>bB .neq 31 bv (i 13) λb1=>cV b1 (K6 tt b0) (lN 39 g λb2=>bA .neq 3 bw b2 λb3=>K6 b3 b0)) (λb4 b5=>∀_:Env,
 cV b4 (K ff b5) (bB .add 3 U (i 1) λb6=>K5 b6 b5))) (bB .add 3 B (i 1) λb7=>Y b7 bg)) λK5=>K5 (i 1) be) (cF 44 [] be λb8 b9=>K b8 b9)) λY=>Y (i 0) J)))))
def P10:dH:=λi=>match i with
 | 7=>(.op 0 [] (.op 1 [] (.op 2 [] (.op 3 [] (.alt 4 [] (.of [(5,[]),(6,[]),(7,[]),(8,[]),(9,[]),(10,[0]),(11,[]),(12,[]),(13,[]),(14,[])]) (.alt 10 [0] (.of [(4,[]),(5,[]),(6,[]),(7,[]),(8,[]),(9,[]),(11,[]),(12,[]),(13,[]),(14,[])]) .stop))))))
 | _=>.nil
theorem alZ(p0 u B:Value)(h:S10 w K p0 u B):CR 10 [p0,u,B] w K:=
 qu 116 P10 64 [.tmp 6] Tryz.func10 h
end Go.Proofs.YtpdlpabnlkofmaaGreatDoor
namespace Go.Proofs.YtpdlpabnlkofmaaGreatDoor
open Go.Fw
def C10(p:cE)(pv:bM)(lv:Value)(l:List rP)(n:Int)(w:World)(hp:mL w pv p)(hL:DL w lv l):CR 10 [hM pv,lv,hH n] w (λv w'=>v=.bool true/\Ext w w'):=by
 obtain⟨ats,hR,hD⟩:=hL.open;have hn:ats.length=l.length:=hD.1;have u:=St.start w;refine alZ _ _ _ _ _ ?_;unfold S10;refine cJ (x:=pv) u (λb3 w1 u=>aE eN u.At (dO auN (C11 p pv _ (Lo hp u.aF)) ?_));rintro _ _ ⟨E,rfl,W⟩;have u:=u.made W;refine aK (x:=E) u.p1 eN rfl rfl (λw4 u=>?_);have u:=u.p1;obtain⟨wK,ewK⟩:∃wK,wK=w4:=⟨_,rfl⟩;rw[<- ewK]at u |-;obtain⟨FF,u,hX⟩:=u.Hq;have hp':NX (m8 FF wK) E (gk p):=NX.of hX;have hz:=Sq p;refine aE (x:=E) eN u.p1.At (ef azY u (C37 (m8 FF wK) (gk p) E 2 2 lv l _ (λ_ e=>(u.ext e).eH) hp' hz (hL.ext u.aF)) λx27 M W u=>?_)
 have u:=u.p1.p1.fZ;obtain⟨J,u,hX2⟩:=u.Hq;obtain⟨B,O⟩:∃B,B=pg (gk p) 2 2 l:=⟨_,rfl⟩;rw[<- O]at hX2;have oy:B.length<=60:=by rw[O];exact VE
 have U:∀q∈B,q.cut.length<=1000:=λq Z=>tx (VD hz q (by rw[<- O];exact Z)) cZ;have hpc6:∀q∈B,q.cut.length<=1000000:=λq Z=>tx (U q Z) cZ;have Rk:NX (m8 J M) E (gk p):=hp'.mono λw' h=>(hX2 w' h).2;have hpk:Vy (m8 J M) x27 B:=Vy.of λw' h=>(hX2 w' h).1;refine aE (x:=E) eN u.p1.At (dO Gs (C40 (m8 J M) (gk p) E 2 2 x27 B _ (λ_ e=>(u.ext e).eH) Rk hz hpk bL U) ?_);rintro _ _ ⟨ev1,Oi,rfl,W⟩;have u:=(u.made W).split;obtain⟨V,rfl,_⟩:=u.eH;refine aN rfl (aN rfl (aN rfl (aN rfl (aQ u nJ λb8 w1 u=>aK (x:=(⟨(fp (gk p) 2 2 B).1.kind,(fp (gk p) 2 2 B).1.t,(fp (gk p) 2 2 B).1.i,V⟩:bN)) u lY rfl rfl λ_ u=>?_))))
 obtain⟨tp,Y⟩:=id hpk;have hnp:tp.length=B.length:=(Y _ u.p3.eH).2.1;refine bT (aC (λh0=>?_) λh0=>?_)
 .have e0:B=[]:=by rw[O]at h0 |-;exact VF hz h0
  refine⟨λjv w'=>jv=.bool true/\Ext w w',?_,?_⟩
  .exact aH jL (Y _ u.p3.eH).1 (aG (aC (λ_=>aS alX u (C44 _) λ_ _ u=>⟨rfl,u.aF⟩) λh=>absurd (by rw[hnp,e0];rfl) h))
  rintro _ w7 h qy;exact h
 have h0:(fp (gk p) 2 2 B).2.2.1=0:=u3.1 h0;obtain⟨s1,s2,s3⟩:=Ra hz O h0;refine RD cZ cZ ?_;have hn6:=yT n (b:=65535) cZ cZ;refine aH jL (Y _ u.p3.eH).1 (aJ bL (Iz bL bL ?_));have hm1:=VU (wc n 65535) (show((tp.length:Int)+1)≠0 by omega);have hm2:=Sk (wc n 65535) (show 0<(tp.length:Int)+1 by omega);obtain⟨G,hnn⟩:∃G:Nat,(G:Int)=wc n 65535 % ((tp.length:Int)+1):=⟨(wc n 65535 % ((tp.length:Int)+1)).toNat,bL⟩;rw[<- hnn];have TO:G<=B.length:=bL
 obtain⟨q1,q2⟩:=s2 G TO;refine⟨λwv fv w'=>fv=hH 0/\St w aY [bF wv ((fp (gk p) 2 2 B).2.1.take G),bZ b8 (ia (⟨(fp (gk p) 2 2 B).1.kind,(fp (gk p) 2 2 B).1.t,(fp (gk p) 2 2 B).1.i,V⟩:bN)),eH (λw=>mL w (⟨(fp (gk p) 2 2 B).1.kind,(fp (gk p) 2 2 B).1.t,(fp (gk p) 2 2 B).1.i,V⟩:bN) (fp (gk p) 2 2 B).1),bF Oi (fp (gk p) 2 2 B).2.1,eH (m8 J M),bZ b3 (ia E)] w',?_,?_⟩
 .have u:=u.drew;refine aE (x:=E) eN u.p4.At (j1 jL (Y _ u.p3.eH).1 bL bL λs55 h55=>?_);have as3:Vy (m8 J M) s55 (B.take G):=⟨tp.take G,λw h=>⟨by rw[<- o6 G];exact h55 w (Y w h).1,(Y w h).2.take G⟩⟩;refine⟨?_,?_,trivial⟩
  .refine dO Gs (C40 (m8 J M) (gk p) E 2 2 s55 (B.take G) _ (λ_ e=>(u.ext e).p3.eH) Rk hz as3 (by rw[lQ];omega) λq Z=>U q (uS Z)) ?_;rintro _ _ ⟨ev2,ov2,rfl,W⟩;have u:=(u.made W).split;refine aN rfl (aN rfl (aN rfl (aN rfl (aQ u nJ λb13 _ u=>?_))));refine⟨fm eN u.p7.At,?_⟩;refine aK (x:=ev2) u lY rfl rfl (λ_ u=>?_);have u:=u.drop.drop.p5.p5.p5.p5.p5.p5;rw[q2]at u;exact⟨ez (mn .i64) q1,u⟩
  refine aQ u nJ (λb13 _ u=>?_);refine⟨fm eN u.p5.At,?_⟩;refine dO Gs (C40 (m8 J M) (gk p) E 2 2 s55 (B.take G) _ (λ_ e=>(u.ext e).p4.eH) Rk hz as3 (by rw[lQ];omega) λq Z=>U q (uS Z)) ?_;rintro _ _ ⟨ev2,ov2,rfl,W⟩;have u:=(u.made W).split;refine aN rfl (aN rfl (aN rfl (aN rfl (aK (x:=ev2) u.p2 lY rfl rfl λ_ u=>?_))));have u:=u.drop.drop.p5.p5.p5.p5.p5.p5;rw[q2]at u;exact⟨ez (mn .i64) q1,u⟩
 rintro wv _ _ ⟨rfl,u⟩ qy;refine⟨λjv w'=>jv=.bool false/\St w aY [bZ b8 (ia (⟨(fp (gk p) 2 2 B).1.kind,(fp (gk p) 2 2 B).1.t,(fp (gk p) 2 2 B).1.i,V⟩:bN)),eH (λw=>mL w (⟨(fp (gk p) 2 2 B).1.kind,(fp (gk p) 2 2 B).1.t,(fp (gk p) 2 2 B).1.i,V⟩:bN) (fp (gk p) 2 2 B).1),bF Oi (fp (gk p) 2 2 B).2.1,eH (m8 J M),bZ b3 (ia E)] w',?_,?_⟩
 .refine bT (aC (λh=>absurd rfl h) λ_=>aH z8 u.p3.dQ (aH jL (Y _ u.p4.eH).1 (bT (aC (λh=>absurd bL h) λ_=>xC z8 u.p3.dQ bL bL λs74 h74=>?_))));rw[o6]at h74;exact aS azW u (C41 _ _ ((fp (gk p) 2 2 B).2.1.take G) ((fp (gk p) 2 2 B).2.1.take G) _ u.dQ h74 (by rw[lQ];omega)) (λ_ _ u=>bP ⟨vb ea,u.drop⟩)
 rintro _ _ ⟨rfl,u⟩ _;refine fa (aA pL (aB (v:=hH (fp (gk p) 2 2 B).1.kind) bO u.hb rfl (aG (aC (λ_=>?_) λhk=>?_))))
 .exact aS alX u (C44 _) (λ_ _ u=>⟨rfl,u.aF⟩)
 refine⟨λmm y w'=>∃t:Nat,y=hH (t:Int)/\mm=3-t/\t<=3/\St w aY [bZ b8 (ia (⟨(fp (gk p) 2 2 B).1.kind,(fp (gk p) 2 2 B).1.t,(fp (gk p) 2 2 B).1.i,V⟩:bN)),eH (λw=>mL w (⟨(fp (gk p) 2 2 B).1.kind,(fp (gk p) 2 2 B).1.t,(fp (gk p) 2 2 B).1.i,V⟩:bN) (fp (gk p) 2 2 B).1),bF Oi (fp (gk p) 2 2 B).2.1,eH (m8 J M),bZ b3 (ia E)] w',⟨_,0,rfl,rfl,kO _,u⟩,?_⟩;rintro mm _ w92 ⟨t,rfl,rfl,ht,u⟩ _;refine aO (aC (λc1=>?_) λc1=>?_);rotate_left
 .exact aS alX u (C44 _) (λ_ _ u=>⟨rfl,u.aF⟩)
 refine⟨λmm y w'=>∃I:Nat,y=hH (I:Int)/\mm=3-I/\1<=I/\I<=3/\St w aY [bZ b8 (ia (⟨(fp (gk p) 2 2 B).1.kind,(fp (gk p) 2 2 B).1.t,(fp (gk p) 2 2 B).1.i,V⟩:bN)),eH (λw=>mL w (⟨(fp (gk p) 2 2 B).1.kind,(fp (gk p) 2 2 B).1.t,(fp (gk p) 2 2 B).1.i,V⟩:bN) (fp (gk p) 2 2 B).1),bF Oi (fp (gk p) 2 2 B).2.1,eH (m8 J M),bZ b3 (ia E)] w',⟨_,1,rfl,rfl,o5 _,cZ,u⟩,?_⟩;rintro mm _ _ ⟨I,rfl,rfl,Oq,u9,u⟩ _;refine ga (aC (λc2=>?_) λc2=>?_);rotate_left
 .exact aJ bL ⟨_,bL,t+1,rfl,rfl,bL,u⟩
 have h4:=s3 hk (I:Int) (t:Int) bL;refine aW ([]:List bN) u jL rfl rfl (dM rfl) (λx90 _ u=>bJ u jL (Y _ u.p4.eH).1 (by rw[Ei];omega) cZ λx92 _ u=>?_);rw[x6]at u;refine pop (B5 (I:Int) (t:Int)) (aW [(⟨(I:Int),(t:Int),0,cI⟩:bN)] u jL rfl rfl (dM rfl) λx97 _ u=>?_);have az9:=u.dQ;refine bJ u.p1 jL az9 (by rw[lH];omega) cZ (λx98 _ u=>have u:=u.p1.drop;aE (x:=E) eN u.p5.At (dO Gs (Q9 ((fp (gk p) 2 2 (B++[(⟨(I:Int),(t:Int),0,[]⟩:bV)])).1,(fp (gk p) 2 2 (B++[(⟨(I:Int),(t:Int),0,[]⟩:bV)])).2.1,13,(B.length:Int)) (λw'=>m8 J M w'/\dz (λ_=>True) w' x98 (tp++[(⟨(I:Int),(t:Int),0,cI⟩:bN)])) (gk p) E 2 2 x98 (B++[(⟨(I:Int),(t:Int),0,[]⟩:bV)]) _ (λ_ e=>⟨(u.ext e).p4.eH,(u.ext e).dQ⟩) (Rk.mono λ_ h=>h.1) hz ⟨_,λw h=>⟨h.2,(Y w h.1).2.snoc (pk0 w _ _ 0)⟩⟩ (by rw[kH,lH];omega) (λq Z=>(oi.1 Z).elim (U q) λh=>by rw[List.mem_singleton.1 h];exact kO _) (by rw[<- h4])) ?_))
 rintro _ _ ⟨ev4,ov4,rfl,W⟩;have u:=(u.made W).split;refine aN rfl (aN rfl (aN rfl (aN rfl (aQ u nJ λb20 w91 u=>aK (x:=ev4) u lY rfl rfl λw92 u=>?_))));have u:=u.drop.drop.drop.drop;refine⟨λjv w'=>jv=.bool false/\St w aY [bZ b8 (ia (⟨(fp (gk p) 2 2 B).1.kind,(fp (gk p) 2 2 B).1.t,(fp (gk p) 2 2 B).1.i,V⟩:bN)),eH (λw=>mL w (⟨(fp (gk p) 2 2 B).1.kind,(fp (gk p) 2 2 B).1.t,(fp (gk p) 2 2 B).1.i,V⟩:bN) (fp (gk p) 2 2 B).1),bF Oi (fp (gk p) 2 2 B).2.1,eH (m8 J M),bZ b3 (ia E)] w',?_,?_⟩
 .exact bT (aC (λh=>absurd rfl h) λ_=>aH jL (Y _ u.p3.eH).1 (bT ⟨vb (ej λh=>h (by show(B.length:Int)=_;omega)),u⟩))
 rintro _ _ ⟨rfl,u⟩ _;exact fa (aJ bL ⟨_,bL,I+1,rfl,rfl,bL,bL,u⟩)
def own:ownKnob Tryz.prog.godebug=none:=by kernel_rfl
def rd9:yv g6 9 ByteArray (λy=>y.size<=maxLen):=RdT.deep (aic Tryz.underlying9 (by kernel_rfl)) λ_ _=>rfl
def J9:yv g6 3 Int eS:=RdT.deep (aib Tryz.underlying3 (by kernel_rfl)) λ_ _=>rfl
def as4:yv g6 161 cG xK:=λw=>⟨by kernel_rfl,λenc base held fuel cs x h=>by
 obtain⟨hl,n,G⟩:=l9 Tryz.underlying161 h
 obtain⟨y0,h0⟩:=G 0 _ rfl
 obtain⟨y1,h1⟩:=G 1 _ rfl
 obtain⟨y2,h2⟩:=G 2 _ rfl
 obtain⟨E,e0,Z,O,W⟩:=(rd9 w).rd enc base held n _ _ h0
 obtain⟨u,V,Y,d1,U⟩:=(J9 w).rd enc base held n _ _ h1
 obtain⟨B,J,I,M,k2⟩:=(J9 w).rd enc base held n _ _ h2
 obtain rfl:E=Z:=O
 obtain rfl:u=Y:=d1
 obtain rfl:B=I:=M
 have p0:=dW (s:=1) e0
 have p1:=dW (s:=1) V
 have p2:=dW (s:=1) J
 have hz:cs.drop 3=[]:=zH.2 (by rw[hl];exact zq (by kernel_rfl))
 refine⟨(⟨E,u,B⟩:cG),?_,(⟨E,u,B⟩:cG),rfl,W,U,k2⟩
 have e:cs=cs.drop 0:=rfl
 rw[e]
 refine p0.trans ?_
 refine(ez _ p1).trans ?_
 refine(ez _ (ez _ p2)).trans ?_
 exact(ez _ (ez _ (ez _ hz)))⟩
def al0:yv g6 23 (List cG) (λys:(List cG)=>∀y∈ys,xK y):=yv.slice Tryz.underlying23 (by kernel_rfl) as4
def aAa:yv g6 22 (List (List cG)) (λys:(List (List cG))=>∀y∈ys,(λys:(List cG)=>∀y∈ys,xK y) y):=yv.slice Tryz.underlying22 (by kernel_rfl) al0
def aAb:yv g6 91 (List ByteArray) (λys:(List ByteArray)=>∀y∈ys,(λy:ByteArray=>y.size<=maxLen) y):=yv.slice Tryz.underlying91 (by kernel_rfl) rd9
def as5:yv g6 164 bY As:=λw=>⟨by kernel_rfl,λenc base held fuel cs x h=>by
 obtain⟨hl,n,u⟩:=l9 Tryz.underlying164 h
 obtain⟨y0,h0⟩:=u 0 _ rfl
 obtain⟨y1,h1⟩:=u 1 _ rfl
 obtain⟨y2,h2⟩:=u 2 _ rfl
 obtain⟨y3,h3⟩:=u 3 _ rfl
 obtain⟨I,e0,a0,W,k0⟩:=(J9 w).rd enc base held n _ _ h0
 obtain⟨B,Z,a1,d1,Y⟩:=(J9 w).rd enc base held n _ _ h1
 obtain⟨G,O,M,V,k2⟩:=(rd9 w).rd enc base held n _ _ h2
 obtain⟨E,e3,a3,U,J⟩:=(J9 w).rd enc base held n _ _ h3
 obtain rfl:I=a0:=W
 obtain rfl:B=a1:=d1
 obtain rfl:G=M:=V
 obtain rfl:E=a3:=U
 have p0:=dW (s:=1) e0
 have p1:=dW (s:=1) Z
 have p2:=dW (s:=1) O
 have p3:=dW (s:=1) e3
 have hz:cs.drop 4=[]:=zH.2 (by rw[hl];exact zq (by kernel_rfl))
 refine⟨(⟨I,B,G,E⟩:bY),?_,(⟨I,B,G,E⟩:bY),rfl,k0,Y,k2,J⟩
 have e:cs=cs.drop 0:=rfl
 rw[e]
 refine p0.trans ?_
 refine(ez _ p1).trans ?_
 refine(ez _ (ez _ p2)).trans ?_
 refine(ez _ (ez _ (ez _ p3))).trans ?_
 exact(ez _ (ez _ (ez _ (ez _ hz))))⟩
def al1:yv g6 82 (List bY) (λys:(List bY)=>∀y∈ys,As y):=yv.slice Tryz.underlying82 (by kernel_rfl) as5
def as6:yv g6 193 bK IS:=λw=>⟨by kernel_rfl,λenc base held fuel cs x h=>by
 obtain⟨hl,n,u⟩:=l9 Tryz.underlying193 h
 obtain⟨y0,h0⟩:=u 0 _ rfl
 obtain⟨y1,h1⟩:=u 1 _ rfl
 obtain⟨y2,h2⟩:=u 2 _ rfl
 obtain⟨y3,h3⟩:=u 3 _ rfl
 obtain⟨y4,h4⟩:=u 4 _ rfl
 obtain⟨y5,h5⟩:=u 5 _ rfl
 obtain⟨y6,h6⟩:=u 6 _ rfl
 obtain⟨y7,Y⟩:=u 7 _ rfl
 obtain⟨y8,h8⟩:=u 8 _ rfl
 obtain⟨E,e0,a0,d0,k0⟩:=(J9 w).rd enc base held n _ _ h0
 obtain⟨I,e1,a1,d1,k1⟩:=(rd9 w).rd enc base held n _ _ h1
 obtain⟨J,W,a2,Z,k2⟩:=(rd9 w).rd enc base held n _ _ h2
 obtain⟨U,e3,a3,d3,k3⟩:=(al1 w).rd enc base held n _ _ h3
 obtain⟨V,e4,a4,d4,k4⟩:=(al1 w).rd enc base held n _ _ h4
 obtain⟨O,e5,a5,d5,k5⟩:=(J9 w).rd enc base held n _ _ h5
 obtain⟨G,e6,a6,d6,k6⟩:=(J9 w).rd enc base held n _ _ h6
 obtain⟨B,e7,a7,d7,k7⟩:=(J9 w).rd enc base held n _ _ Y
 obtain⟨M,e8,a8,d8,k8⟩:=(J9 w).rd enc base held n _ _ h8
 obtain rfl:E=a0:=d0
 obtain rfl:I=a1:=d1
 obtain rfl:J=a2:=Z
 obtain rfl:O=a5:=d5
 obtain rfl:G=a6:=d6
 obtain rfl:B=a7:=d7
 obtain rfl:M=a8:=d8
 have p0:=dW (s:=1) e0
 have p1:=dW (s:=1) e1
 have p2:=dW (s:=1) W
 have p3:=dW (s:=1) e3
 have p4:=dW (s:=1) e4
 have p5:=dW (s:=1) e5
 have p6:=dW (s:=1) e6
 have p7:=dW (s:=1) e7
 have p8:=dW (s:=1) e8
 have hz:cs.drop 9=[]:=zH.2 (by rw[hl];exact zq (by kernel_rfl))
 refine⟨(⟨E,I,J,U,V,O,G,B,M⟩:aZ),?_,(⟨E,I,J,a3,a4,O,G,B,M⟩:bK),⟨U,V,rfl,d3,d4⟩,k0,k1,k2,k3,k4,k5,k6,k7,k8⟩
 have e:cs=cs.drop 0:=rfl
 rw[e]
 refine p0.trans ?_
 refine(ez _ p1).trans ?_
 refine(ez _ (ez _ p2)).trans ?_
 refine(ez _ (ez _ (ez _ p3))).trans ?_
 refine(ez _ (ez _ (ez _ (ez _ p4)))).trans ?_
 refine(ez _ (ez _ (ez _ (ez _ (ez _ p5))))).trans ?_
 refine(ez _ (ez _ (ez _ (ez _ (ez _ (ez _ p6)))))).trans ?_
 refine(ez _ (ez _ (ez _ (ez _ (ez _ (ez _ (ez _ p7))))))).trans ?_
 refine(ez _ (ez _ (ez _ (ez _ (ez _ (ez _ (ez _ (ez _ p8)))))))).trans ?_
 exact(ez _ (ez _ (ez _ (ez _ (ez _ (ez _ (ez _ (ez _ (ez _ hz)))))))))⟩
def as7:yv g6 141 (List bK) (λys:(List bK)=>∀y∈ys,IS y):=yv.slice Tryz.underlying141 (by kernel_rfl) as6
def as8:yv g6 146 cL xL:=λw=>⟨by kernel_rfl,λenc base held fuel cs x h=>by
 obtain⟨hl,n,u⟩:=l9 Tryz.underlying146 h
 obtain⟨y0,h0⟩:=u 0 _ rfl
 obtain⟨y1,h1⟩:=u 1 _ rfl
 obtain⟨y2,h2⟩:=u 2 _ rfl
 obtain⟨y3,h3⟩:=u 3 _ rfl
 obtain⟨E,e0,a0,W,k0⟩:=(rd9 w).rd enc base held n _ _ h0
 obtain⟨G,Z,a1,d1,Y⟩:=(aAb w).rd enc base held n _ _ h1
 obtain⟨I,O,M,V,k2⟩:=(as7 w).rd enc base held n _ _ h2
 obtain⟨B,e3,a3,U,J⟩:=(J9 w).rd enc base held n _ _ h3
 obtain rfl:E=a0:=W
 obtain rfl:B=a3:=U
 have p0:=dW (s:=1) e0
 have p1:=dW (s:=1) Z
 have p2:=dW (s:=1) O
 have p3:=dW (s:=1) e3
 have hz:cs.drop 4=[]:=zH.2 (by rw[hl];exact zq (by kernel_rfl))
 refine⟨(⟨E,G,I,B⟩:cD),?_,(⟨E,a1,M,B⟩:cL),⟨G,I,rfl,d1,V⟩,k0,Y,k2,J⟩
 have e:cs=cs.drop 0:=rfl
 rw[e]
 refine p0.trans ?_
 refine(ez _ p1).trans ?_
 refine(ez _ (ez _ p2)).trans ?_
 refine(ez _ (ez _ (ez _ p3))).trans ?_
 exact(ez _ (ez _ (ez _ (ez _ hz))))⟩
def as9:yv g6 24 (List cL) (λys:(List cL)=>∀y∈ys,xL y):=yv.slice Tryz.underlying24 (by kernel_rfl) as8
def aAc:yv g6 85 gO Eg:=λw=>⟨by kernel_rfl,λenc base held fuel cs x h=>by
 obtain⟨W,n,E⟩:=l9 Tryz.underlying85 h
 obtain⟨y0,V⟩:=E 0 _ rfl
 obtain⟨y1,h1⟩:=E 1 _ rfl
 obtain⟨B,e0,U,G,M⟩:=(al1 w).rd enc base held n _ _ V
 obtain⟨u,J,O,Y,I⟩:=(J9 w).rd enc base held n _ _ h1
 obtain rfl:u=O:=Y
 have p0:=dW (s:=1) e0
 have p1:=dW (s:=1) J
 have Z:cs.drop 2=[]:=zH.2 (by rw[W];exact zq (by kernel_rfl))
 refine⟨(⟨B,u⟩:jl),?_,(⟨U,u⟩:gO),⟨B,rfl,G⟩,M,I⟩
 have e:cs=cs.drop 0:=rfl
 rw[e]
 refine p0.trans ?_
 refine(ez _ p1).trans ?_
 exact(ez _ (ez _ Z))⟩
def aAd:yv g6 25 (List gO) (λys:(List gO)=>∀y∈ys,Eg y):=yv.slice Tryz.underlying25 (by kernel_rfl) aAc
def rd27:yv g6 27 cE acK:=λw=>⟨by kernel_rfl,λenc base held fuel cs x h=>by
 obtain⟨hl,n,u⟩:=l9 Tryz.underlying27 h
 obtain⟨y0,h0⟩:=u 0 _ rfl
 obtain⟨y1,h1⟩:=u 1 _ rfl
 obtain⟨y2,h2⟩:=u 2 _ rfl
 obtain⟨y3,h3⟩:=u 3 _ rfl
 obtain⟨y4,h4⟩:=u 4 _ rfl
 obtain⟨y5,h5⟩:=u 5 _ rfl
 obtain⟨J,e0,a0,d0,k0⟩:=(aAa w).rd enc base held n _ _ h0
 obtain⟨G,e1,a1,d1,k1⟩:=(al0 w).rd enc base held n _ _ h1
 obtain⟨M,W,V,Z,k2⟩:=(al0 w).rd enc base held n _ _ h2
 obtain⟨I,e3,a3,Y,O⟩:=(as9 w).rd enc base held n _ _ h3
 obtain⟨B,e4,U,d4,k4⟩:=(as9 w).rd enc base held n _ _ h4
 obtain⟨E,e5,a5,d5,k5⟩:=(aAd w).rd enc base held n _ _ h5
 have p0:=dW (s:=1) e0
 have p1:=dW (s:=1) e1
 have p2:=dW (s:=1) W
 have p3:=dW (s:=1) e3
 have p4:=dW (s:=1) e4
 have p5:=dW (s:=1) e5
 have hz:cs.drop 6=[]:=zH.2 (by rw[hl];exact zq (by kernel_rfl))
 refine⟨(⟨J,G,M,I,B,E⟩:bM),?_,(⟨a0,a1,V,a3,U,a5⟩:cE),⟨J,G,M,I,B,E,rfl,d0,d1,Z,Y,d4,d5⟩,k0,k1,k2,O,k4,k5⟩
 have e:cs=cs.drop 0:=rfl
 rw[e]
 refine p0.trans ?_
 refine(ez _ p1).trans ?_
 refine(ez _ (ez _ p2)).trans ?_
 refine(ez _ (ez _ (ez _ p3))).trans ?_
 refine(ez _ (ez _ (ez _ (ez _ p4)))).trans ?_
 refine(ez _ (ez _ (ez _ (ez _ (ez _ p5))))).trans ?_
 exact(ez _ (ez _ (ez _ (ez _ (ez _ (ez _ hz))))))⟩
def aAe:yv g6 41 (List Int) (λys:(List Int)=>∀y∈ys,eS y):=yv.slice Tryz.underlying41 (by kernel_rfl) J9
def aAf:yv g6 50 bV RV:=λw=>⟨by kernel_rfl,λenc base held fuel cs x h=>by
 obtain⟨hl,n,u⟩:=l9 Tryz.underlying50 h
 obtain⟨y0,h0⟩:=u 0 _ rfl
 obtain⟨y1,h1⟩:=u 1 _ rfl
 obtain⟨y2,h2⟩:=u 2 _ rfl
 obtain⟨y3,h3⟩:=u 3 _ rfl
 obtain⟨G,e0,a0,W,k0⟩:=(J9 w).rd enc base held n _ _ h0
 obtain⟨B,Z,a1,d1,Y⟩:=(J9 w).rd enc base held n _ _ h1
 obtain⟨E,O,M,V,k2⟩:=(J9 w).rd enc base held n _ _ h2
 obtain⟨I,e3,a3,U,J⟩:=(aAe w).rd enc base held n _ _ h3
 obtain rfl:G=a0:=W
 obtain rfl:B=a1:=d1
 obtain rfl:E=M:=V
 have p0:=dW (s:=1) e0
 have p1:=dW (s:=1) Z
 have p2:=dW (s:=1) O
 have p3:=dW (s:=1) e3
 have hz:cs.drop 4=[]:=zH.2 (by rw[hl];exact zq (by kernel_rfl))
 refine⟨(⟨G,B,E,I⟩:bN),?_,(⟨G,B,E,a3⟩:bV),⟨I,rfl,U⟩,k0,Y,k2,J⟩
 have e:cs=cs.drop 0:=rfl
 rw[e]
 refine p0.trans ?_
 refine(ez _ p1).trans ?_
 refine(ez _ (ez _ p2)).trans ?_
 refine(ez _ (ez _ (ez _ p3))).trans ?_
 exact(ez _ (ez _ (ez _ (ez _ hz))))⟩
def rd53:yv g6 53 rP aih:=λw=>⟨by kernel_rfl,λenc base held fuel cs x h=>by
 obtain⟨hl,n,E⟩:=l9 Tryz.underlying53 h
 obtain⟨y0,h0⟩:=E 0 _ rfl
 obtain⟨y1,h1⟩:=E 1 _ rfl
 obtain⟨y2,h2⟩:=E 2 _ rfl
 obtain⟨B,e0,Z,O,W⟩:=(J9 w).rd enc base held n _ _ h0
 obtain⟨u,V,Y,d1,U⟩:=(J9 w).rd enc base held n _ _ h1
 obtain⟨G,J,I,M,k2⟩:=(aAf w).rd enc base held n _ _ h2
 obtain rfl:B=Z:=O
 obtain rfl:u=Y:=d1
 have p0:=dW (s:=1) e0
 have p1:=dW (s:=1) V
 have p2:=dW (s:=4) J
 have hz:cs.drop 6=[]:=zH.2 (by rw[hl];exact zq (by kernel_rfl))
 refine⟨(⟨B,u,G⟩:RW),?_,(⟨B,u,I⟩:rP),⟨G,rfl,M⟩,W,U,k2⟩
 have e:cs=cs.drop 0:=rfl
 rw[e]
 refine p0.trans ?_
 refine(ez _ p1).trans ?_
 refine(ez _ (ez _ p2)).trans ?_
 exact(ez _ (ez _ (ez _ hz)))⟩
end Go.Proofs.YtpdlpabnlkofmaaGreatDoor
namespace Go.Fw
theorem gC.below{w w':World}(h:gC aY w w'):Go.RowKit.Below w.heap.size w w':=⟨h.1,h.2,h.3,h.4,λb hb=>h.5 b hb λx=>x⟩
end Go.Fw
